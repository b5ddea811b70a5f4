/- PRINTED by my own tool (wip/tool/gen.py): contracts of Go functions of this seat, each with its proof. -/
import Derived.Test.YtefcbihikknlkaaDoorOwnB
import Derived.Test.YtefcbihikknlkaaDoorGenA
import Derived.Test.YtefcbihikknlkaaDoorOwnA
import Derived.Test.YtefcbihikknlkaaDoorGenB
namespace Go.Proofs.YtefcbihikknlkaaDoor
open Go.Ew Go.RowKit
set_option linter.unusedVariables false
set_option linter.unusedSimpArgs false
attribute [local irreducible] WL WC SO Code.wp wpList retQ Ret
attribute [local irreducible] bitB hasW inR hasR setR countW countR subR words newR listR orR firstW tab8
theorem fl35_3 : FldF Tryd.prog 35 3 3 := ⟨_, _, Tryd.underlying35, rfl, rfl, by kernel_rfl⟩
theorem go37 : GoF Tryd.prog 37 := ⟨_, _, Tryd.func37, rfl, by kernel_rfl⟩
theorem fl54_2 : FldF Tryd.prog 54 2 4 := ⟨_, _, Tryd.underlying54, rfl, rfl, by kernel_rfl⟩
theorem ty52 : TyF Tryd.prog 52 1 false 24 (.slice none 0 0) := ⟨by kernel_rfl, by kernel_rfl⟩
theorem go32 : GoF Tryd.prog 32 := ⟨_, _, Tryd.func32, rfl, by kernel_rfl⟩
theorem go30 : GoF Tryd.prog 30 := ⟨_, _, Tryd.func30, rfl, by kernel_rfl⟩
set_option maxRecDepth 100000 in
set_option maxHeartbeats 1600000 in
theorem session_Ahead {M : Nat → Prop} {w : World} {a_fv : Option Addr} {n_fv c_fv : Nat} {a_fi : Option Addr} {c_fi : Nat} {fi : List (Int × Int × Bool × Int × Int)} {a_fo : Option Addr} {n_fo c_fo : Nat} {i : Int} {j : Int} (hM : ∀ b, M b → b < w.heap.size) (h_fi : RV M w (.slice a_fi fi.length c_fi) fi) (h_i : I64 i) (h_j : I64 j) : Calls Tryd.prog 37 #[.agg #[.slice a_fv n_fv c_fv, .slice a_fi fi.length c_fi, .slice a_fo n_fo c_fo], .int .i64 i, .int .i64 j] w (Ret fun v w' =>  v = .bool (ahA fi i j) ∧ Ext w w') := by
 refine enter 34 Tryd.func37 rfl rfl rfl fun f0 ha => ?_
 have H := HI.start (M0 := M) (w := w) hM
 have H0 := H.put (it := imm (.slice a_fi fi.length c_fi) fi) rfl (by rw [MS_nil]; exact h_fi)
 have ln_fi := rv_len h_fi
 have i0 : f0 0 = .agg #[.slice a_fv n_fv c_fv, .slice a_fi fi.length c_fi, .slice a_fo n_fo c_fo] := ha 0 (by simp)
 have i1 : f0 1 = iV i := ha 1 (by simp)
 have i2 : f0 2 = iV j := ha 2 (by simp)
 refine sq (rg (k (bx H0 rfl i0 ?_)))
 intro bb0 w0 xt0 (H1 : HI M w w0 [box bb0 #[.slice a_fv n_fv c_fv, .slice a_fi fi.length c_fi, .slice a_fo n_fo c_fo] 30, imm (.slice a_fi fi.length c_fi) fi])
 refine k (asg (v := .bool false) rfl rfl (z (nx (sq (sq (rg (k (mv rfl i1 (k (lss rfl rfl rfl rfl (k (mv (v := .bool (decide (i < 0))) rfl rfl ?_))))))))))))
 rcases Bool.eq_false_or_eq_true (decide (i < 0)) with b0 | b0
 · -- decide (i < 0) is True
  have p0 := of_decide_eq_true b0
  refine k (gn rfl rfl rfl b0 (k (gn rfl rfl rfl b0 (k (gn rfl rfl rfl b0 (k (gn rfl rfl rfl b0 (k (gn rfl rfl rfl b0 (k (pickT rfl rfl rfl rfl b0 rfl (k (mv (v := .bool true) rfl rfl (k (gn rfl rfl rfl rfl (k (gn rfl rfl rfl rfl (k (gn rfl rfl rfl rfl (k (pickT rfl rfl rfl rfl rfl rfl (z (nx (cdT rfl rfl rfl (sq (rg (k (asg (v := .bool false) rfl rfl (z (nx (rt (then_ret (r1 rfl rfl ?_)))))))))))))))))))))))))))))))))
  have e0 : (false : Bool) = ahA fi i j := by first | exact ahA_no (by omega) | exact ahA_yes (by omega) (by omega) (by omega) hx0 hx1
  have ev_ := cg1 (fun (x_0 : Bool) => (.bool x_0 : Value)) e0
  exact ⟨ev_, H1.below⟩
 · -- decide (i < 0) is False
  have p0 := of_decide_eq_false b0
  refine k (gy rfl rfl rfl b0 (mv rfl i2 (k (gy rfl rfl rfl b0 (fa fl30_1 rfl rfl (k (gy rfl rfl rfl b0 (ldX H1 0 rfl ty27 rfl rfl (by decide) rfl (k (gy rfl rfl rfl b0 (lnS rfl rfl un27 (k (gy rfl rfl rfl b0 (geq rfl rfl rfl rfl (k (pickF rfl rfl rfl rfl b0 rfl (k (mv (v := .bool (decide ((fi.length : Int) ≤ j))) rfl rfl ?_))))))))))))))))))
  rcases Bool.eq_false_or_eq_true (decide ((fi.length : Int) ≤ j)) with b1 | b1
  · -- decide ((fi.length : Int) ≤ j) is True
   have p1 := of_decide_eq_true b1
   refine k (gn rfl rfl rfl b1 (k (gn rfl rfl rfl b1 (k (gn rfl rfl rfl b1 (k (pickT rfl rfl rfl rfl b1 rfl (z (nx (cdT rfl rfl rfl (sq (rg (k (asg (v := .bool false) rfl rfl (z (nx (rt (then_ret (r1 rfl rfl ?_)))))))))))))))))))
   have e0 : (false : Bool) = ahA fi i j := by first | exact ahA_no (by omega) | exact ahA_yes (by omega) (by omega) (by omega) hx0 hx1
   have ev_ := cg1 (fun (x_0 : Bool) => (.bool x_0 : Value)) e0
   exact ⟨ev_, H1.below⟩
  · -- decide ((fi.length : Int) ≤ j) is False
   have p1 := of_decide_eq_false b1
   refine k (gy rfl rfl rfl b1 (mv rfl i1 (k (gy rfl rfl rfl b1 (mv rfl i2 (k (gy rfl rfl rfl b1 (geq rfl rfl rfl rfl (k (pickF rfl rfl rfl rfl b1 rfl (z (nx ?_))))))))))))
   refine cd (b := decide (j ≤ i)) rfl rfl (fun b2 => ?_) (fun b2 => ?_)
   ·
    have p2 := of_decide_eq_true b2
    refine sq (rg (k (asg (v := .bool false) rfl rfl (z (nx (rt (then_ret (r1 rfl rfl ?_))))))))
    have e0 : (false : Bool) = ahA fi i j := by first | exact ahA_no (by omega) | exact ahA_yes (by omega) (by omega) (by omega) hx0 hx1
    have ev_ := cg1 (fun (x_0 : Bool) => (.bool x_0 : Value)) e0
    exact ⟨ev_, H1.below⟩
   ·
    have p2 := of_decide_eq_false b2
    refine sk (nx (sq ?_))
    obtain ⟨x0, hx0⟩ : ∃ x, fi[i.toNat]? = some x := ⟨_, List.getElem?_eq_getElem (by first | omega | (simp; omega))⟩
    obtain ⟨x1, hx1⟩ : ∃ x, fi[j.toNat]? = some x := ⟨_, List.getElem?_eq_getElem (by first | omega | (simp; omega))⟩
    refine dr 12 [eV (pV bb0 1), eV (.slice a_fi fi.length c_fi), eV (iV i), fun (v : Value) (w' : World) => ∃ (ad0 : Addr), v = .pointer (some ad0) ∧ At (MS M [box bb0 #[.slice a_fv n_fv c_fv, .slice a_fi fi.length c_fi, .slice a_fo n_fo c_fo] 30, imm (.slice a_fi fi.length c_fi) fi]) w' ad0 x0, fun (v : Value) (w' : World) => ∃ (ad0 : Addr), v = .pointer (some ((ad0).add 0)) ∧ At (MS M [box bb0 #[.slice a_fv n_fv c_fv, .slice a_fi fi.length c_fi, .slice a_fo n_fo c_fo] 30, imm (.slice a_fi fi.length c_fi) fi]) w' ad0 x0, fun (v : Value) (w' : World) => v = iV x0.1 ∧ I64 (x0.1), eV (pV bb0 1), eV (.slice a_fi fi.length c_fi), eV (iV j), fun (v : Value) (w' : World) => ∃ (ad1 : Addr), v = .pointer (some ad1) ∧ At (MS M [box bb0 #[.slice a_fv n_fv c_fv, .slice a_fi fi.length c_fi, .slice a_fo n_fo c_fo] 30, imm (.slice a_fi fi.length c_fi) fi]) w' ad1 x1, fun (v : Value) (w' : World) => ∃ (ad1 : Addr), v = .pointer (some ((ad1).add 0)) ∧ At (MS M [box bb0 #[.slice a_fv n_fv c_fv, .slice a_fi fi.length c_fi, .slice a_fo n_fo c_fo] 30, imm (.slice a_fi fi.length c_fi) fi]) w' ad1 x1, fun (v : Value) (w' : World) => v = iV x1.1 ∧ I64 (x1.1)] rfl (by kernel_rfl) ?_ ?_
    ·
     refine dc (fun _ _ hf0 _ _ => fa fl30_1 rfl (hf0 3 rfl) (d0 rfl rfl)) ?_
     refine dc (fun _ _ _ xt2 hp1 => ldX (H1.ext xt2) 0 rfl ty27 rfl (hp1 0 rfl rfl) (by decide) rfl (d0 rfl rfl)) ?_
     refine dc (fun _ _ hf2 _ _ => mv rfl ((hf2 1 rfl).trans i1) (d0 rfl rfl)) ?_
     refine ⟨fun _ => ⟨fun f3 w4 hf3 xt4 hp3 => ?_, by rintro _ _ _ x_ ⟨ad0, e_, hA0⟩; exact ⟨ad0, e_, hA0.lift (Up.ext x_)⟩⟩, ?_⟩
     ·
      have H5 := H1.ext xt4
      have s1 : f3 22 = .slice a_fi fi.length c_fi := hp3 1 rfl rfl
      have s2 : f3 23 = iV i := hp3 2 rfl rfl
      refine ia (H5.rv 1 rfl) rfl rfl s1 s2 (by first | omega | (simp; omega)) un27 ty65 ?_
      intro ad2 x2 hx2 hA2
      obtain rfl : x0 = x2 := Option.some.inj (hx0.symm.trans hx2)
      exact ⟨_, rfl, Ext.refl _, ⟨ad2, rfl, hA2⟩⟩
     refine ⟨fun _ => ⟨fun f4 w5 hf4 xt5 hp4 => ?_, by rintro _ _ _ x_ ⟨ad0, e_, hA0⟩; exact ⟨ad0, e_, hA0.lift (Up.ext x_)⟩⟩, ?_⟩
     ·
      obtain ⟨ad3, s3, hA3⟩ : ∃ (ad3 : Addr), f4 24 = .pointer (some ad3) ∧ At (MS M [box bb0 #[.slice a_fv n_fv c_fv, .slice a_fi fi.length c_fi, .slice a_fo n_fo c_fo] 30, imm (.slice a_fi fi.length c_fi) fi]) w5 ad3 x0 := hp4 3 rfl rfl
      refine fa fl65_0 rfl s3 ?_
      exact ⟨_, rfl, Ext.refl _, ⟨ad3, rfl, (by assumption)⟩⟩
     refine dc (fun f5 w6 hf5 xt6 hp5 => ?_) ?_
     ·
      have H8 := H1.ext xt6
      obtain ⟨ad4, s4, hA4⟩ : ∃ (ad4 : Addr), f5 25 = .pointer (some ((ad4).add 0)) ∧ At (MS M [box bb0 #[.slice a_fv n_fv c_fv, .slice a_fi fi.length c_fi, .slice a_fo n_fo c_fo] 30, imm (.slice a_fi fi.length c_fi) fi]) w6 ad4 x0 := hp5 4 rfl rfl
      have H9 := H8.put (it := atI ad4 x0) rfl hA4
      refine ldI ((H9.atv 0 rfl)).fst.w ty3 rfl s4 ?_
      intro rv2
      exact ⟨_, rfl, Ext.refl _, ⟨rfl, rv2⟩⟩
     refine dc (fun _ _ hf6 _ _ => fa fl30_1 rfl (hf6 3 rfl) (d0 rfl rfl)) ?_
     refine dc (fun _ _ _ xt8 hp7 => ldX (H1.ext xt8) 0 rfl ty27 rfl (hp7 6 rfl rfl) (by decide) rfl (d0 rfl rfl)) ?_
     refine dc (fun _ _ hf8 _ _ => mv rfl ((hf8 2 rfl).trans i2) (d0 rfl rfl)) ?_
     refine ⟨fun _ => ⟨fun f9 w10 hf9 xt10 hp9 => ?_, by rintro _ _ _ x_ ⟨ad1, e_, hA1⟩; exact ⟨ad1, e_, hA1.lift (Up.ext x_)⟩⟩, ?_⟩
     ·
      have H13 := H1.ext xt10
      have s6 : f9 28 = .slice a_fi fi.length c_fi := hp9 7 rfl rfl
      have s7 : f9 29 = iV j := hp9 8 rfl rfl
      refine ia (H13.rv 1 rfl) rfl rfl s6 s7 (by first | omega | (simp; omega)) un27 ty65 ?_
      intro ad5 x3 hx3 hA5
      obtain rfl : x1 = x3 := Option.some.inj (hx1.symm.trans hx3)
      exact ⟨_, rfl, Ext.refl _, ⟨ad5, rfl, hA5⟩⟩
     refine ⟨fun _ => ⟨fun f10 w11 hf10 xt11 hp10 => ?_, by rintro _ _ _ x_ ⟨ad1, e_, hA1⟩; exact ⟨ad1, e_, hA1.lift (Up.ext x_)⟩⟩, ?_⟩
     ·
      obtain ⟨ad6, s8, hA6⟩ : ∃ (ad6 : Addr), f10 30 = .pointer (some ad6) ∧ At (MS M [box bb0 #[.slice a_fv n_fv c_fv, .slice a_fi fi.length c_fi, .slice a_fo n_fo c_fo] 30, imm (.slice a_fi fi.length c_fi) fi]) w11 ad6 x1 := hp10 9 rfl rfl
      refine fa fl65_0 rfl s8 ?_
      exact ⟨_, rfl, Ext.refl _, ⟨ad6, rfl, (by assumption)⟩⟩
     refine dc (fun f11 w12 hf11 xt12 hp11 => ?_) ?_
     ·
      have H16 := H1.ext xt12
      obtain ⟨ad7, s9, hA7⟩ : ∃ (ad7 : Addr), f11 31 = .pointer (some ((ad7).add 0)) ∧ At (MS M [box bb0 #[.slice a_fv n_fv c_fv, .slice a_fi fi.length c_fi, .slice a_fo n_fo c_fo] 30, imm (.slice a_fi fi.length c_fi) fi]) w12 ad7 x1 := hp11 10 rfl rfl
      have H17 := H16.put (it := atI ad7 x1) rfl hA7
      refine ldI ((H17.atv 0 rfl)).fst.w ty3 rfl s9 ?_
      intro rv3
      exact ⟨_, rfl, Ext.refl _, ⟨rfl, rv3⟩⟩
     exact DSteps.rest rfl _
    ·
     intro f12 w13 hf12 xt13 hp12
     have H18 := H1.ext xt13
     obtain ⟨s10, rv4⟩ : f12 26 = iV x0.1 ∧ I64 (x0.1) := hp12 5 rfl
     obtain ⟨s11, rv5⟩ : f12 32 = iV x1.1 ∧ I64 (x1.1) := hp12 11 rfl
     refine k (eql rfl rfl s10 s11 (k (asg (v := .bool (decide (x0.1 = x1.1))) rfl rfl (z (nx (rt (r1 rfl rfl ?_)))))))
     have e0 : (decide (x0.1 = x1.1) : Bool) = ahA fi i j := by first | exact ahA_no (by omega) | exact ahA_yes (by omega) (by omega) (by omega) hx0 hx1
     have ev_ := cg1 (fun (x_0 : Bool) => (.bool x_0 : Value)) e0
     exact ⟨ev_, H18.below⟩
set_option maxRecDepth 100000 in
set_option maxHeartbeats 1600000 in
theorem aud_next {M : Nat → Prop} {w w_ : World} {r : List Go.Ew.Item} {b_a : Nat} {a_fv : Option Addr} {n_fv c_fv : Nat} {a_fi : Option Addr} {c_fi : Nat} {fi : List (Int × Int × Bool × Int × Int)} {a_fo : Option Addr} {c_fo : Nat} {fo : List Int} {a_stp : Option Addr} {c_stp : Nat} {stp : List (Int × Int × Int × Int × Int)} {a_pl : Option Addr} {c_pl : Nat} {pl : List Bool} {kd : Int} {fr : Int} {to : Int} {sa : Int} {sb : Int} (h_kd : I64 kd) (h_fr : I64 fr) (h_to : I64 to) (h_sa : I64 sa) (h_sb : I64 sb) (ho : OrdI fi) (hn_fi : fi.length ≤ 4096) (hfo : fo.length = fi.length) (hpl : pl.length = stp.length) (hst : stp.length ≤ 100000) (H : HI M w w_ ([box b_a #[.slice a_fv n_fv c_fv, .slice a_fi fi.length c_fi, .slice a_fo fo.length c_fo, .slice a_stp stp.length c_stp, .slice a_pl pl.length c_pl] 54, imm (.slice a_fi fi.length c_fi) fi, imm (.slice a_fo fo.length c_fo) fo, own w.heap.size 35 (.slice a_stp stp.length c_stp) stp, own w.heap.size 4 (.slice a_pl pl.length c_pl) pl] ++ r)) : Calls Tryd.prog 25 #[pV b_a 0, .agg #[iV kd, iV fr, iV to, iV sa, iV sb]] w_ (Ret fun v w' => ∃ (a'_stp : Option Addr) (c'_stp : Nat) (a'_pl : Option Addr) (c'_pl : Nat), v = .bool (nxG fi fo stp (kd, fr, to, sa, sb)) ∧ HI M w w' ([box b_a #[.slice a_fv n_fv c_fv, .slice a_fi fi.length c_fi, .slice a_fo fo.length c_fo, .slice a'_stp (nxS fi stp (kd, fr, to, sa, sb)).length c'_stp, .slice a'_pl (nxP fi stp pl (kd, fr, to, sa, sb)).length c'_pl] 54, imm (.slice a_fi fi.length c_fi) fi, imm (.slice a_fo fo.length c_fo) fo, own w.heap.size 35 (.slice a'_stp (nxS fi stp (kd, fr, to, sa, sb)).length c'_stp) (nxS fi stp (kd, fr, to, sa, sb)), own w.heap.size 4 (.slice a'_pl (nxP fi stp pl (kd, fr, to, sa, sb)).length c'_pl) (nxP fi stp pl (kd, fr, to, sa, sb))] ++ r)) := by
 refine enter 186 Tryd.func25 rfl rfl rfl fun f0 ha => ?_
 have ln_fi := rv_len (H.rv 1 rfl)
 have ln_fo := rv_len (H.rv 2 rfl)
 have ln_stp := own_len_ (H.at_ 3 rfl)
 have ln_pl := own_len_ (H.at_ 4 rfl)
 have i0 : f0 0 = pV b_a 0 := ha 0 (by simp)
 have i1 : f0 1 = .agg #[iV kd, iV fr, iV to, iV sa, iV sb] := ha 1 (by simp)
 refine sq (rg (k (bx H rfl i1 ?_)))
 intro bb0 w0 xt0 (H0 : HI M w w0 ([box bb0 #[iV kd, iV fr, iV to, iV sa, iV sb] 35, box b_a #[.slice a_fv n_fv c_fv, .slice a_fi fi.length c_fi, .slice a_fo fo.length c_fo, .slice a_stp stp.length c_stp, .slice a_pl pl.length c_pl] 54, imm (.slice a_fi fi.length c_fi) fi, imm (.slice a_fo fo.length c_fo) fo, own w.heap.size 35 (.slice a_stp stp.length c_stp) stp, own w.heap.size 4 (.slice a_pl pl.length c_pl) pl] ++ r))
 refine k (asg (v := .bool false) rfl rfl (z (nx (sq (sq (rg (k (mv rfl i0 (k (fa fl35_1 rfl rfl (k (ldX H0 0 rfl ty3 rfl rfl (by decide) rfl (k (fa fl35_2 rfl rfl (k (ldX H0 0 rfl ty3 rfl rfl (by decide) rfl (k (bs (xs := ([fr, to] : List Int)) (cells := #[iV fr, iV to]) (e := 3) H0 rfl (pbc rfl (pbc rfl pb0)) (fun _ => by kernel_rfl) ⟨[iV fr], [iV to], rfl, ⟨rfl, (show I64 (fr) from (by first | assumption | (unfold I64 at *; omega)))⟩, ⟨[iV to], [], rfl, ⟨rfl, (show I64 (to) from (by first | assumption | (unfold I64 at *; omega)))⟩, rfl⟩⟩ rfl (by unfold maxLen; omega) ?_))))))))))))))))))
 intro g0 w1 xt1 (H1 : HI M w w1 ([own w.heap.size 3 (.slice (some ⟨g0, 0, none⟩) 2 2) ([fr, to] : List Int), box bb0 #[iV kd, iV fr, iV to, iV sa, iV sb] 35, box b_a #[.slice a_fv n_fv c_fv, .slice a_fi fi.length c_fi, .slice a_fo fo.length c_fo, .slice a_stp stp.length c_stp, .slice a_pl pl.length c_pl] 54, imm (.slice a_fi fi.length c_fi) fi, imm (.slice a_fo fo.length c_fo) fo, own w.heap.size 35 (.slice a_stp stp.length c_stp) stp, own w.heap.size 4 (.slice a_pl pl.length c_pl) pl] ++ r))
 refine k ?_
 have H2 := H1.freeze 0 rfl
 have H3 : HI M w w1 ([imm (.slice (some ⟨g0, 0, none⟩) 2 2) ([fr, to] : List Int), box bb0 #[iV kd, iV fr, iV to, iV sa, iV sb] 35, box b_a #[.slice a_fv n_fv c_fv, .slice a_fi fi.length c_fi, .slice a_fo fo.length c_fo, .slice a_stp stp.length c_stp, .slice a_pl pl.length c_pl] 54, imm (.slice a_fi fi.length c_fi) fi, imm (.slice a_fo fo.length c_fo) fo, own w.heap.size 35 (.slice a_stp stp.length c_stp) stp, own w.heap.size 4 (.slice a_pl pl.length c_pl) pl] ++ r) := H2
 have cc0 := aud_op (fi := fi) (l := ([fr, to] : List Int)) (a_fv := a_fv) (n_fv := n_fv) (c_fv := c_fv) (a_fo := a_fo) (n_fo := fo.length) (c_fo := c_fo) (a_stp := a_stp) (n_stp := stp.length) (c_stp := c_stp) (a_pl := a_pl) (n_pl := pl.length) (c_pl := c_pl) (w := w1) (M := fun _ => False) (fun _ h_ => h_.elim) ((H3.rv 3 rfl).lift (Up.less fun _ _ h_ => h_.elim)) ((H3.rv 0 rfl).lift (Up.less fun _ _ h_ => h_.elim)) ⟨H3.at_ 2 rfl, fun h_ => h_⟩
 refine ca go28 rfl (ec rfl (ec rfl e0)) cc0 ?_
 rintro _ w2 ⟨rfl, xt2⟩
 have H4 := H1.ext xt2
 refine k (not_ rfl rfl (z (nx ?_)))
 refine cd (b := !(!(([fr, to] : List Int).any (outO fi)))) rfl rfl (fun b0 => ?_) (fun b0 => ?_)
 ·
  refine sq ?_
  have hk1_ : (!([fr, to].any (outO fi))) = false := nott b0
  refine rg (k (asg (v := .bool false) rfl rfl (z (nx (rt (then_ret (r1 rfl rfl ?_)))))))
  have H5 := HI.pickT (l := [own w.heap.size 3 (.slice (some ⟨g0, 0, none⟩) 2 2) ([fr, to] : List Int), box bb0 #[iV kd, iV fr, iV to, iV sa, iV sb] 35, box b_a #[.slice a_fv n_fv c_fv, .slice a_fi fi.length c_fi, .slice a_fo fo.length c_fo, .slice a_stp stp.length c_stp, .slice a_pl pl.length c_pl] 54, imm (.slice a_fi fi.length c_fi) fi, imm (.slice a_fo fo.length c_fo) fo, own w.heap.size 35 (.slice a_stp stp.length c_stp) stp, own w.heap.size 4 (.slice a_pl pl.length c_pl) pl]) (l' := [box b_a #[.slice a_fv n_fv c_fv, .slice a_fi fi.length c_fi, .slice a_fo fo.length c_fo, .slice a_stp stp.length c_stp, .slice a_pl pl.length c_pl] 54, imm (.slice a_fi fi.length c_fi) fi, imm (.slice a_fo fo.length c_fo) fo, own w.heap.size 35 (.slice a_stp stp.length c_stp) stp, own w.heap.size 4 (.slice a_pl pl.length c_pl) pl]) (t := r) H4 [2, 3, 4, 5, 6] (by decide) rfl rfl
  have e0 : (false : Bool) = nxG fi fo stp (kd, fr, to, sa, sb) := by first | exact nx_no hk1_ | exact nx_yes hk0_ hgd_
  have e1 : (stp : List _) = (nxS fi stp (kd, fr, to, sa, sb)) := by first | exact nxS_no hk1_ | exact nxS_yes hk0_
  have e2 : (pl : List _) = (nxP fi stp pl (kd, fr, to, sa, sb)) := by first | exact nxP_no hk1_ | exact nxP_yes hk0_ hpn_
  try rw [← e0]
  try rw [← e1]
  try rw [← e2]
  refine ⟨a_stp, c_stp, a_pl, c_pl, ?_, ?_⟩
  · first | rfl | simp only [e0, e1, e2] | (simp only [List.length_set])
  · first | exact H5 | simpa only [e0, e1, e2, List.length_set] using H5
 ·
  refine sk (nx (sq ?_))
  have hk0_ : (!([fr, to].any (outO fi))) = true := notf b0
  obtain ⟨⟨hr0_, hr1_⟩, hr2_, hr3_⟩ := ok_rng hk0_
  refine rg (k (asg (v := .bool false) rfl rfl (k (asg (v := .bool true) rfl rfl (z (nx ?_))))))
  refine cut (fun f w' => ∃ (gd : Bool) (pn : Bool), f 0 = pV b_a 0 ∧ f 3 = pV bb0 0 ∧ f 5 = .bool gd ∧ f 6 = .bool pn ∧  HI M w w' ([own w.heap.size 3 (.slice (some ⟨g0, 0, none⟩) 2 2) ([fr, to] : List Int), box bb0 #[iV kd, iV fr, iV to, iV sa, iV sb] 35, box b_a #[.slice a_fv n_fv c_fv, .slice a_fi fi.length c_fi, .slice a_fo fo.length c_fo, .slice a_stp stp.length c_stp, .slice a_pl pl.length c_pl] 54, imm (.slice a_fi fi.length c_fi) fi, imm (.slice a_fo fo.length c_fo) fo, own w.heap.size 35 (.slice a_stp stp.length c_stp) stp, own w.heap.size 4 (.slice a_pl pl.length c_pl) pl] ++ r) ∧ (gd = goodO fi fo stp (kd, fr, to, sa, sb)) ∧ (pn = plainO stp pl (kd, fr, to, sa, sb))) ?_ ?_
  ·
   refine sq (rg (k (fa fl35_0 rfl rfl (k (ldX H4 1 rfl ty3 rfl rfl (by decide) rfl (z (nx (bk (sq (rg (k (eql rfl rfl rfl rfl (k (asg (v := .bool (decide (kd = 1))) rfl rfl (z (nx ?_))))))))))))))))
   refine cd (b := decide (kd = 1)) rfl rfl (fun b1 => ?_) (fun b1 => ?_)
   ·
    have p1 := of_decide_eq_true b1
    rcases Bool.eq_false_or_eq_true (decide (sa = (-1))) with b2 | b2
    · -- decide (sa = (-1)) is True
     have p2 := of_decide_eq_true b2
     rcases Bool.eq_false_or_eq_true (decide (sb = (-1))) with b3 | b3
     · -- decide (sb = (-1)) is True
      have p3 := of_decide_eq_true b3
      refine dr 17 [eV (pV bb0 3), eV (iV sa), eV (.bool (decide (sa = (-1)))), eV (.bool (decide (sa = (-1)))), eV (pV bb0 4), eV (iV sb), eV (.bool (decide (sb = (-1)))), eV (.bool (decide (sb = (-1)))), eV (.bool (decide (sb = (-1)))), eV (pV b_a 0), eV (pV b_a 0), eV (pV b_a 0), eV (.agg #[.slice a_fv n_fv c_fv, .slice a_fi fi.length c_fi, .slice a_fo fo.length c_fo]), eV (pV bb0 1), eV (iV fr), eV (pV bb0 2), eV (iV to)] rfl (by kernel_rfl) ?_ ?_
      ·
       refine dc (fun _ _ hf0 _ _ => fa fl35_3 rfl (hf0 3 rfl) (d0 rfl rfl)) ?_
       refine dc (fun _ _ _ xt4 hp1 => ldX (H4.ext xt4) 1 rfl ty3 rfl (hp1 0 rfl rfl) (by decide) rfl (d0 rfl rfl)) ?_
       refine dc (fun _ _ _ _ hp2 => eql rfl rfl (hp2 1 rfl rfl) rfl (d0 rfl rfl)) ?_
       refine dc (fun _ _ _ _ hp3 => mv rfl (hp3 2 rfl rfl) (d0 rfl rfl)) ?_
       refine dc (fun f5 w8 hf4 xt7 hp4 => ?_) ?_
       ·
        have s3 : f5 26 = .bool (decide (sa = (-1))) := hp4 3 rfl rfl
        refine gy rfl rfl s3 b2 (fa fl35_4 rfl (hf4 3 rfl) ?_)
        exact ⟨_, rfl, Ext.refl _, rfl⟩
       refine dc (fun f6 w9 hf5 xt8 hp5 => ?_) ?_
       ·
        have H10 := H4.ext xt8
        have s4 : f6 26 = .bool (decide (sa = (-1))) := hp5 3 rfl rfl
        have s5 : f6 27 = pV bb0 4 := hp5 4 rfl rfl
        refine gy rfl rfl s4 b2 (ldX H10 1 rfl ty3 rfl s5 (by decide) rfl ?_)
        exact ⟨_, rfl, Ext.refl _, rfl⟩
       refine dc (fun f7 w10 hf6 xt9 hp6 => ?_) ?_
       ·
        have s6 : f7 26 = .bool (decide (sa = (-1))) := hp6 3 rfl rfl
        have s7 : f7 28 = iV sb := hp6 5 rfl rfl
        refine gy rfl rfl s6 b2 (eql rfl rfl s7 rfl ?_)
        exact ⟨_, rfl, Ext.refl _, rfl⟩
       refine dc (fun _ _ _ _ hp7 => pickT rfl rfl rfl (hp7 3 rfl rfl) b2 (hp7 6 rfl rfl) (d0 rfl rfl)) ?_
       refine dc (fun _ _ _ _ hp8 => mv rfl (hp8 7 rfl rfl) (d0 rfl rfl)) ?_
       refine dc (fun f10 w13 hf9 xt12 hp9 => ?_) ?_
       ·
        have s11 : f10 31 = .bool (decide (sb = (-1))) := hp9 8 rfl rfl
        refine gy rfl rfl s11 b3 (mv rfl ((hf9 0 rfl).trans i0) ?_)
        exact ⟨_, rfl, Ext.refl _, rfl⟩
       refine dc (fun f11 w14 hf10 xt13 hp10 => ?_) ?_
       ·
        have s12 : f11 31 = .bool (decide (sb = (-1))) := hp10 8 rfl rfl
        have s13 : f11 32 = pV b_a 0 := hp10 9 rfl rfl
        refine gy rfl rfl s12 b3 (nc rfl s13 ?_)
        exact ⟨_, rfl, Ext.refl _, rfl⟩
       refine dc (fun f12 w15 hf11 xt14 hp11 => ?_) ?_
       ·
        have s14 : f12 31 = .bool (decide (sb = (-1))) := hp11 8 rfl rfl
        have s15 : f12 33 = pV b_a 0 := hp11 10 rfl rfl
        refine gy rfl rfl s14 b3 (fa fl54_0 rfl s15 ?_)
        exact ⟨_, rfl, Ext.refl _, rfl⟩
       refine dc (fun f13 w16 hf12 xt15 hp12 => ?_) ?_
       ·
        have H17 := H4.ext xt15
        have s16 : f13 31 = .bool (decide (sb = (-1))) := hp12 8 rfl rfl
        have s17 : f13 34 = pV b_a 0 := hp12 11 rfl rfl
        refine gy rfl rfl s16 b3 (ldX H17 2 rfl ty30 rfl s17 (by decide) rfl ?_)
        exact ⟨_, rfl, Ext.refl _, rfl⟩
       refine dc (fun f14 w17 hf13 xt16 hp13 => ?_) ?_
       ·
        have s18 : f14 31 = .bool (decide (sb = (-1))) := hp13 8 rfl rfl
        refine gy rfl rfl s18 b3 (fa fl35_1 rfl (hf13 3 rfl) ?_)
        exact ⟨_, rfl, Ext.refl _, rfl⟩
       refine dc (fun f15 w18 hf14 xt17 hp14 => ?_) ?_
       ·
        have H19 := H4.ext xt17
        have s19 : f15 31 = .bool (decide (sb = (-1))) := hp14 8 rfl rfl
        have s20 : f15 36 = pV bb0 1 := hp14 13 rfl rfl
        refine gy rfl rfl s19 b3 (ldX H19 1 rfl ty3 rfl s20 (by decide) rfl ?_)
        exact ⟨_, rfl, Ext.refl _, rfl⟩
       refine dc (fun f16 w19 hf15 xt18 hp15 => ?_) ?_
       ·
        have s21 : f16 31 = .bool (decide (sb = (-1))) := hp15 8 rfl rfl
        refine gy rfl rfl s21 b3 (fa fl35_2 rfl (hf15 3 rfl) ?_)
        exact ⟨_, rfl, Ext.refl _, rfl⟩
       refine dc (fun f17 w20 hf16 xt19 hp16 => ?_) ?_
       ·
        have H21 := H4.ext xt19
        have s22 : f17 31 = .bool (decide (sb = (-1))) := hp16 8 rfl rfl
        have s23 : f17 38 = pV bb0 2 := hp16 15 rfl rfl
        refine gy rfl rfl s22 b3 (ldX H21 1 rfl ty3 rfl s23 (by decide) rfl ?_)
        exact ⟨_, rfl, Ext.refl _, rfl⟩
       exact DSteps.rest rfl _
      ·
       intro f18 w21 hf17 xt20 hp17
       have H22 := H4.ext xt20
       have s24 : f18 0 = pV b_a 0 := (hf17 0 rfl).trans i0
       have s25 : f18 3 = pV bb0 0 := hf17 3 rfl
       have s26 : f18 6 = .bool true := hf17 6 rfl
       have s27 : f18 31 = .bool (decide (sb = (-1))) := hp17 8 rfl
       have s28 : f18 35 = .agg #[.slice a_fv n_fv c_fv, .slice a_fi fi.length c_fi, .slice a_fo fo.length c_fo] := hp17 12 rfl
       have s29 : f18 37 = iV fr := hp17 14 rfl
       have s30 : f18 39 = iV to := hp17 16 rfl
       refine k (gy rfl rfl s27 b3 ?_)
       have cc1 := session_Ahead (fi := fi) (i := fr) (j := to) (a_fv := a_fv) (n_fv := n_fv) (c_fv := c_fv) (a_fo := a_fo) (n_fo := fo.length) (c_fo := c_fo) (w := w21) H22.mb (H22.rv 3 rfl) (by first | assumption | (unfold I64 at *; omega)) (by first | assumption | (unfold I64 at *; omega))
       refine ca go37 rfl (ec s28 (ec s29 (ec s30 e0))) cc1 ?_
       rintro _ w22 ⟨rfl, xt21⟩
       have H23 := H22.ext xt21
       refine k (pickT rfl rfl rfl s27 b3 rfl (k (asg (v := .bool (ahA fi fr to)) rfl rfl (z (inb_normal ?_)))))
       refine cutN ⟨(ahA fi fr to), true, s24, s25, rfl, s26, H23, (by first | exact g1a ‹_› ‹_› | exact g1b ‹_› ‹_› ‹_› | exact g1c ‹_› ‹_› ‹_›), (by first | exact p_1 ‹_›)⟩
     · -- decide (sb = (-1)) is False
      have p3 := of_decide_eq_false b3
      refine dr 17 [eV (pV bb0 3), eV (iV sa), eV (.bool (decide (sa = (-1)))), eV (.bool (decide (sa = (-1)))), eV (pV bb0 4), eV (iV sb), eV (.bool (decide (sb = (-1)))), eV (.bool (decide (sb = (-1)))), eV (.bool (decide (sb = (-1)))), eV undef, eV undef, eV undef, eV undef, eV undef, eV undef, eV undef, eV undef] rfl (by kernel_rfl) ?_ ?_
      ·
       refine dc (fun _ _ hf0 _ _ => fa fl35_3 rfl (hf0 3 rfl) (d0 rfl rfl)) ?_
       refine dc (fun _ _ _ xt4 hp1 => ldX (H4.ext xt4) 1 rfl ty3 rfl (hp1 0 rfl rfl) (by decide) rfl (d0 rfl rfl)) ?_
       refine dc (fun _ _ _ _ hp2 => eql rfl rfl (hp2 1 rfl rfl) rfl (d0 rfl rfl)) ?_
       refine dc (fun _ _ _ _ hp3 => mv rfl (hp3 2 rfl rfl) (d0 rfl rfl)) ?_
       refine dc (fun f5 w8 hf4 xt7 hp4 => ?_) ?_
       ·
        have s3 : f5 26 = .bool (decide (sa = (-1))) := hp4 3 rfl rfl
        refine gy rfl rfl s3 b2 (fa fl35_4 rfl (hf4 3 rfl) ?_)
        exact ⟨_, rfl, Ext.refl _, rfl⟩
       refine dc (fun f6 w9 hf5 xt8 hp5 => ?_) ?_
       ·
        have H10 := H4.ext xt8
        have s4 : f6 26 = .bool (decide (sa = (-1))) := hp5 3 rfl rfl
        have s5 : f6 27 = pV bb0 4 := hp5 4 rfl rfl
        refine gy rfl rfl s4 b2 (ldX H10 1 rfl ty3 rfl s5 (by decide) rfl ?_)
        exact ⟨_, rfl, Ext.refl _, rfl⟩
       refine dc (fun f7 w10 hf6 xt9 hp6 => ?_) ?_
       ·
        have s6 : f7 26 = .bool (decide (sa = (-1))) := hp6 3 rfl rfl
        have s7 : f7 28 = iV sb := hp6 5 rfl rfl
        refine gy rfl rfl s6 b2 (eql rfl rfl s7 rfl ?_)
        exact ⟨_, rfl, Ext.refl _, rfl⟩
       refine dc (fun _ _ _ _ hp7 => pickT rfl rfl rfl (hp7 3 rfl rfl) b2 (hp7 6 rfl rfl) (d0 rfl rfl)) ?_
       refine dc (fun _ _ _ _ hp8 => mv rfl (hp8 7 rfl rfl) (d0 rfl rfl)) ?_
       refine dc (fun _ _ _ _ hp9 => gn rfl rfl (hp9 8 rfl rfl) b3 (d0 rfl rfl)) ?_
       refine dc (fun _ _ _ _ hp10 => gn rfl rfl (hp10 8 rfl rfl) b3 (d0 rfl rfl)) ?_
       refine dc (fun _ _ _ _ hp11 => gn rfl rfl (hp11 8 rfl rfl) b3 (d0 rfl rfl)) ?_
       refine dc (fun _ _ _ _ hp12 => gn rfl rfl (hp12 8 rfl rfl) b3 (d0 rfl rfl)) ?_
       refine dc (fun _ _ _ _ hp13 => gn rfl rfl (hp13 8 rfl rfl) b3 (d0 rfl rfl)) ?_
       refine dc (fun _ _ _ _ hp14 => gn rfl rfl (hp14 8 rfl rfl) b3 (d0 rfl rfl)) ?_
       refine dc (fun _ _ _ _ hp15 => gn rfl rfl (hp15 8 rfl rfl) b3 (d0 rfl rfl)) ?_
       refine dc (fun _ _ _ _ hp16 => gn rfl rfl (hp16 8 rfl rfl) b3 (d0 rfl rfl)) ?_
       exact DSteps.rest rfl _
      ·
       intro f18 w21 hf17 xt20 hp17
       have H22 := H4.ext xt20
       have s24 : f18 0 = pV b_a 0 := (hf17 0 rfl).trans i0
       have s25 : f18 3 = pV bb0 0 := hf17 3 rfl
       have s26 : f18 6 = .bool true := hf17 6 rfl
       have s27 : f18 31 = .bool (decide (sb = (-1))) := hp17 8 rfl
       refine k (gn rfl rfl s27 b3 (k (pickF rfl rfl rfl s27 b3 rfl (k (asg (v := .bool false) rfl rfl (z (inb_normal ?_)))))))
       refine cutN ⟨false, true, s24, s25, rfl, s26, H22, (by first | exact g1a ‹_› ‹_› | exact g1b ‹_› ‹_› ‹_› | exact g1c ‹_› ‹_› ‹_›), (by first | exact p_1 ‹_›)⟩
    · -- decide (sa = (-1)) is False
     have p2 := of_decide_eq_false b2
     refine dr 17 [eV (pV bb0 3), eV (iV sa), eV (.bool (decide (sa = (-1)))), eV (.bool (decide (sa = (-1)))), eV undef, eV undef, eV undef, eV (.bool false), eV (.bool false), eV undef, eV undef, eV undef, eV undef, eV undef, eV undef, eV undef, eV undef] rfl (by kernel_rfl) ?_ ?_
     ·
      refine dc (fun _ _ hf0 _ _ => fa fl35_3 rfl (hf0 3 rfl) (d0 rfl rfl)) ?_
      refine dc (fun _ _ _ xt4 hp1 => ldX (H4.ext xt4) 1 rfl ty3 rfl (hp1 0 rfl rfl) (by decide) rfl (d0 rfl rfl)) ?_
      refine dc (fun _ _ _ _ hp2 => eql rfl rfl (hp2 1 rfl rfl) rfl (d0 rfl rfl)) ?_
      refine dc (fun _ _ _ _ hp3 => mv rfl (hp3 2 rfl rfl) (d0 rfl rfl)) ?_
      refine dc (fun _ _ _ _ hp4 => gn rfl rfl (hp4 3 rfl rfl) b2 (d0 rfl rfl)) ?_
      refine dc (fun _ _ _ _ hp5 => gn rfl rfl (hp5 3 rfl rfl) b2 (d0 rfl rfl)) ?_
      refine dc (fun _ _ _ _ hp6 => gn rfl rfl (hp6 3 rfl rfl) b2 (d0 rfl rfl)) ?_
      refine dc (fun _ _ _ _ hp7 => pickF rfl rfl rfl (hp7 3 rfl rfl) b2 rfl (d0 rfl rfl)) ?_
      refine dc (fun _ _ _ _ hp8 => mv rfl (hp8 7 rfl rfl) (d0 rfl rfl)) ?_
      refine dc (fun _ _ _ _ hp9 => gn rfl rfl (hp9 8 rfl rfl) rfl (d0 rfl rfl)) ?_
      refine dc (fun _ _ _ _ hp10 => gn rfl rfl (hp10 8 rfl rfl) rfl (d0 rfl rfl)) ?_
      refine dc (fun _ _ _ _ hp11 => gn rfl rfl (hp11 8 rfl rfl) rfl (d0 rfl rfl)) ?_
      refine dc (fun _ _ _ _ hp12 => gn rfl rfl (hp12 8 rfl rfl) rfl (d0 rfl rfl)) ?_
      refine dc (fun _ _ _ _ hp13 => gn rfl rfl (hp13 8 rfl rfl) rfl (d0 rfl rfl)) ?_
      refine dc (fun _ _ _ _ hp14 => gn rfl rfl (hp14 8 rfl rfl) rfl (d0 rfl rfl)) ?_
      refine dc (fun _ _ _ _ hp15 => gn rfl rfl (hp15 8 rfl rfl) rfl (d0 rfl rfl)) ?_
      refine dc (fun _ _ _ _ hp16 => gn rfl rfl (hp16 8 rfl rfl) rfl (d0 rfl rfl)) ?_
      exact DSteps.rest rfl _
     ·
      intro f18 w21 hf17 xt20 hp17
      have H22 := H4.ext xt20
      have s24 : f18 0 = pV b_a 0 := (hf17 0 rfl).trans i0
      have s25 : f18 3 = pV bb0 0 := hf17 3 rfl
      have s26 : f18 6 = .bool true := hf17 6 rfl
      have s27 : f18 31 = .bool false := hp17 8 rfl
      refine k (gn rfl rfl s27 rfl (k (pickF rfl rfl rfl s27 rfl rfl (k (asg (v := .bool false) rfl rfl (z (inb_normal ?_)))))))
      refine cutN ⟨false, true, s24, s25, rfl, s26, H22, (by first | exact g1a ‹_› ‹_› | exact g1b ‹_› ‹_› ‹_› | exact g1c ‹_› ‹_› ‹_›), (by first | exact p_1 ‹_›)⟩
   ·
    have p1 := of_decide_eq_false b1
    refine sq (rg (k (eql rfl rfl rfl rfl (k (asg (v := .bool (decide (kd = 2))) rfl rfl (z (nx ?_)))))))
    refine cd (b := decide (kd = 2)) rfl rfl (fun b2 => ?_) (fun b2 => ?_)
    ·
     have p2 := of_decide_eq_true b2
     rcases Bool.eq_false_or_eq_true (decide (sa = (-1))) with b3 | b3
     · -- decide (sa = (-1)) is True
      have p3 := of_decide_eq_true b3
      rcases Bool.eq_false_or_eq_true (decide (sb = (-1))) with b4 | b4
      · -- decide (sb = (-1)) is True
       have p4 := of_decide_eq_true b4
       obtain ⟨x0, hx0⟩ : ∃ x, fo[to.toNat]? = some x := ⟨_, List.getElem?_eq_getElem (by first | omega | (simp; omega))⟩
       refine dr 20 [eV (pV bb0 3), eV (iV sa), eV (.bool (decide (sa = (-1)))), eV (.bool (decide (sa = (-1)))), eV (pV bb0 4), eV (iV sb), eV (.bool (decide (sb = (-1)))), eV (.bool (decide (sb = (-1)))), eV (.bool (decide (sb = (-1)))), eV (pV b_a 0), eV (pV b_a 0), eV (pV b_a 0), eV (pV b_a 2), eV (.slice a_fo fo.length c_fo), eV (pV bb0 2), eV (iV to), fun (v : Value) (w' : World) => ∃ (ad0 : Addr), v = .pointer (some ad0) ∧ At (MS M ([own w.heap.size 3 (.slice (some ⟨g0, 0, none⟩) 2 2) ([fr, to] : List Int), box bb0 #[iV kd, iV fr, iV to, iV sa, iV sb] 35, box b_a #[.slice a_fv n_fv c_fv, .slice a_fi fi.length c_fi, .slice a_fo fo.length c_fo, .slice a_stp stp.length c_stp, .slice a_pl pl.length c_pl] 54, imm (.slice a_fi fi.length c_fi) fi, imm (.slice a_fo fo.length c_fo) fo, own w.heap.size 35 (.slice a_stp stp.length c_stp) stp, own w.heap.size 4 (.slice a_pl pl.length c_pl) pl] ++ r)) w' ad0 x0, fun (v : Value) (w' : World) => v = iV x0 ∧ I64 (x0), eV (pV bb0 1), eV (iV fr)] rfl (by kernel_rfl) ?_ ?_
       ·
        refine dc (fun _ _ hf0 _ _ => fa fl35_3 rfl (hf0 3 rfl) (d0 rfl rfl)) ?_
        refine dc (fun _ _ _ xt4 hp1 => ldX (H4.ext xt4) 1 rfl ty3 rfl (hp1 0 rfl rfl) (by decide) rfl (d0 rfl rfl)) ?_
        refine dc (fun _ _ _ _ hp2 => eql rfl rfl (hp2 1 rfl rfl) rfl (d0 rfl rfl)) ?_
        refine dc (fun _ _ _ _ hp3 => mv rfl (hp3 2 rfl rfl) (d0 rfl rfl)) ?_
        refine dc (fun f5 w8 hf4 xt7 hp4 => ?_) ?_
        ·
         have s3 : f5 47 = .bool (decide (sa = (-1))) := hp4 3 rfl rfl
         refine gy rfl rfl s3 b3 (fa fl35_4 rfl (hf4 3 rfl) ?_)
         exact ⟨_, rfl, Ext.refl _, rfl⟩
        refine dc (fun f6 w9 hf5 xt8 hp5 => ?_) ?_
        ·
         have H10 := H4.ext xt8
         have s4 : f6 47 = .bool (decide (sa = (-1))) := hp5 3 rfl rfl
         have s5 : f6 48 = pV bb0 4 := hp5 4 rfl rfl
         refine gy rfl rfl s4 b3 (ldX H10 1 rfl ty3 rfl s5 (by decide) rfl ?_)
         exact ⟨_, rfl, Ext.refl _, rfl⟩
        refine dc (fun f7 w10 hf6 xt9 hp6 => ?_) ?_
        ·
         have s6 : f7 47 = .bool (decide (sa = (-1))) := hp6 3 rfl rfl
         have s7 : f7 49 = iV sb := hp6 5 rfl rfl
         refine gy rfl rfl s6 b3 (eql rfl rfl s7 rfl ?_)
         exact ⟨_, rfl, Ext.refl _, rfl⟩
        refine dc (fun _ _ _ _ hp7 => pickT rfl rfl rfl (hp7 3 rfl rfl) b3 (hp7 6 rfl rfl) (d0 rfl rfl)) ?_
        refine dc (fun _ _ _ _ hp8 => mv rfl (hp8 7 rfl rfl) (d0 rfl rfl)) ?_
        refine dc (fun f10 w13 hf9 xt12 hp9 => ?_) ?_
        ·
         have s11 : f10 52 = .bool (decide (sb = (-1))) := hp9 8 rfl rfl
         refine gy rfl rfl s11 b4 (mv rfl ((hf9 0 rfl).trans i0) ?_)
         exact ⟨_, rfl, Ext.refl _, rfl⟩
        refine dc (fun f11 w14 hf10 xt13 hp10 => ?_) ?_
        ·
         have s12 : f11 52 = .bool (decide (sb = (-1))) := hp10 8 rfl rfl
         have s13 : f11 53 = pV b_a 0 := hp10 9 rfl rfl
         refine gy rfl rfl s12 b4 (nc rfl s13 ?_)
         exact ⟨_, rfl, Ext.refl _, rfl⟩
        refine dc (fun f12 w15 hf11 xt14 hp11 => ?_) ?_
        ·
         have s14 : f12 52 = .bool (decide (sb = (-1))) := hp11 8 rfl rfl
         have s15 : f12 54 = pV b_a 0 := hp11 10 rfl rfl
         refine gy rfl rfl s14 b4 (fa fl54_0 rfl s15 ?_)
         exact ⟨_, rfl, Ext.refl _, rfl⟩
        refine dc (fun f13 w16 hf12 xt15 hp12 => ?_) ?_
        ·
         have s16 : f13 52 = .bool (decide (sb = (-1))) := hp12 8 rfl rfl
         have s17 : f13 55 = pV b_a 0 := hp12 11 rfl rfl
         refine gy rfl rfl s16 b4 (fa fl30_2 rfl s17 ?_)
         exact ⟨_, rfl, Ext.refl _, rfl⟩
        refine dc (fun f14 w17 hf13 xt16 hp13 => ?_) ?_
        ·
         have H18 := H4.ext xt16
         have s18 : f14 52 = .bool (decide (sb = (-1))) := hp13 8 rfl rfl
         have s19 : f14 56 = pV b_a 2 := hp13 12 rfl rfl
         refine gy rfl rfl s18 b4 (ldX H18 2 rfl ty28 rfl s19 (by decide) rfl ?_)
         exact ⟨_, rfl, Ext.refl _, rfl⟩
        refine dc (fun f15 w18 hf14 xt17 hp14 => ?_) ?_
        ·
         have s20 : f15 52 = .bool (decide (sb = (-1))) := hp14 8 rfl rfl
         refine gy rfl rfl s20 b4 (fa fl35_2 rfl (hf14 3 rfl) ?_)
         exact ⟨_, rfl, Ext.refl _, rfl⟩
        refine dc (fun f16 w19 hf15 xt18 hp15 => ?_) ?_
        ·
         have H20 := H4.ext xt18
         have s21 : f16 52 = .bool (decide (sb = (-1))) := hp15 8 rfl rfl
         have s22 : f16 58 = pV bb0 2 := hp15 14 rfl rfl
         refine gy rfl rfl s21 b4 (ldX H20 1 rfl ty3 rfl s22 (by decide) rfl ?_)
         exact ⟨_, rfl, Ext.refl _, rfl⟩
        refine ⟨fun _ => ⟨fun f17 w20 hf16 xt19 hp16 => ?_, by rintro _ _ _ x_ ⟨ad0, e_, hA0⟩; exact ⟨ad0, e_, hA0.lift (Up.ext x_)⟩⟩, ?_⟩
        ·
         have H21 := H4.ext xt19
         have s23 : f17 52 = .bool (decide (sb = (-1))) := hp16 8 rfl rfl
         have s24 : f17 57 = .slice a_fo fo.length c_fo := hp16 13 rfl rfl
         have s25 : f17 59 = iV to := hp16 15 rfl rfl
         refine gy rfl rfl s23 b4 (ia (H21.rv 4 rfl) rfl rfl s24 s25 (by first | omega | (simp; omega)) un28 ty3 ?_)
         intro ad1 x1 hx1 hA1
         obtain rfl : x0 = x1 := Option.some.inj (hx0.symm.trans hx1)
         exact ⟨_, rfl, Ext.refl _, ⟨ad1, rfl, hA1⟩⟩
        refine dc (fun f18 w21 hf17 xt20 hp17 => ?_) ?_
        ·
         have H22 := H4.ext xt20
         have s26 : f18 52 = .bool (decide (sb = (-1))) := hp17 8 rfl rfl
         obtain ⟨ad2, s27, hA2⟩ : ∃ (ad2 : Addr), f18 60 = .pointer (some ad2) ∧ At (MS M ([own w.heap.size 3 (.slice (some ⟨g0, 0, none⟩) 2 2) ([fr, to] : List Int), box bb0 #[iV kd, iV fr, iV to, iV sa, iV sb] 35, box b_a #[.slice a_fv n_fv c_fv, .slice a_fi fi.length c_fi, .slice a_fo fo.length c_fo, .slice a_stp stp.length c_stp, .slice a_pl pl.length c_pl] 54, imm (.slice a_fi fi.length c_fi) fi, imm (.slice a_fo fo.length c_fo) fo, own w.heap.size 35 (.slice a_stp stp.length c_stp) stp, own w.heap.size 4 (.slice a_pl pl.length c_pl) pl] ++ r)) w21 ad2 x0 := hp17 16 rfl rfl
         have H23 := H22.put (it := atI ad2 x0) rfl hA2
         have H24 : HI M w w21 ([atI ad2 x0, own w.heap.size 3 (.slice (some ⟨g0, 0, none⟩) 2 2) ([fr, to] : List Int), box bb0 #[iV kd, iV fr, iV to, iV sa, iV sb] 35, box b_a #[.slice a_fv n_fv c_fv, .slice a_fi fi.length c_fi, .slice a_fo fo.length c_fo, .slice a_stp stp.length c_stp, .slice a_pl pl.length c_pl] 54, imm (.slice a_fi fi.length c_fi) fi, imm (.slice a_fo fo.length c_fo) fo, own w.heap.size 35 (.slice a_stp stp.length c_stp) stp, own w.heap.size 4 (.slice a_pl pl.length c_pl) pl] ++ r) := H23
         refine gy rfl rfl s26 b4 (ldI (H24.atv 0 rfl).w ty3 rfl s27 ?_)
         intro rv1
         exact ⟨_, rfl, Ext.refl _, ⟨rfl, rv1⟩⟩
        refine dc (fun f19 w22 hf18 xt21 hp18 => ?_) ?_
        ·
         have s28 : f19 52 = .bool (decide (sb = (-1))) := hp18 8 rfl rfl
         refine gy rfl rfl s28 b4 (fa fl35_1 rfl (hf18 3 rfl) ?_)
         exact ⟨_, rfl, Ext.refl _, rfl⟩
        refine dc (fun f20 w23 hf19 xt22 hp19 => ?_) ?_
        ·
         have H26 := H4.ext xt22
         have s29 : f20 52 = .bool (decide (sb = (-1))) := hp19 8 rfl rfl
         have s30 : f20 62 = pV bb0 1 := hp19 18 rfl rfl
         refine gy rfl rfl s29 b4 (ldX H26 1 rfl ty3 rfl s30 (by decide) rfl ?_)
         exact ⟨_, rfl, Ext.refl _, rfl⟩
        exact DSteps.rest rfl _
       ·
        intro f21 w24 hf20 xt23 hp20
        have H27 := H4.ext xt23
        have s31 : f21 0 = pV b_a 0 := (hf20 0 rfl).trans i0
        have s32 : f21 3 = pV bb0 0 := hf20 3 rfl
        have s33 : f21 6 = .bool true := hf20 6 rfl
        have s34 : f21 52 = .bool (decide (sb = (-1))) := hp20 8 rfl
        obtain ⟨s35, rv2⟩ : f21 61 = iV x0 ∧ I64 (x0) := hp20 17 rfl
        have s36 : f21 63 = iV fr := hp20 19 rfl
        refine k (gy rfl rfl s34 b4 (eql rfl rfl s35 s36 (k (pickT rfl rfl rfl s34 b4 rfl (k (asg (v := .bool (decide (x0 = fr))) rfl rfl (z (inb_normal ?_))))))))
        refine cutN ⟨(decide (x0 = fr)), true, s31, s32, rfl, s33, H27, (by first | exact g2a ‹_› ‹_› | exact g2b ‹_› ‹_› ‹_› | exact g2c ‹_› ‹_› ‹_› ‹_›), (by first | exact p_2 ‹_›)⟩
      · -- decide (sb = (-1)) is False
       have p4 := of_decide_eq_false b4
       refine dr 20 [eV (pV bb0 3), eV (iV sa), eV (.bool (decide (sa = (-1)))), eV (.bool (decide (sa = (-1)))), eV (pV bb0 4), eV (iV sb), eV (.bool (decide (sb = (-1)))), eV (.bool (decide (sb = (-1)))), eV (.bool (decide (sb = (-1)))), eV undef, eV undef, eV undef, eV undef, eV undef, eV undef, eV undef, eV undef, eV undef, eV undef, eV undef] rfl (by kernel_rfl) ?_ ?_
       ·
        refine dc (fun _ _ hf0 _ _ => fa fl35_3 rfl (hf0 3 rfl) (d0 rfl rfl)) ?_
        refine dc (fun _ _ _ xt4 hp1 => ldX (H4.ext xt4) 1 rfl ty3 rfl (hp1 0 rfl rfl) (by decide) rfl (d0 rfl rfl)) ?_
        refine dc (fun _ _ _ _ hp2 => eql rfl rfl (hp2 1 rfl rfl) rfl (d0 rfl rfl)) ?_
        refine dc (fun _ _ _ _ hp3 => mv rfl (hp3 2 rfl rfl) (d0 rfl rfl)) ?_
        refine dc (fun f5 w8 hf4 xt7 hp4 => ?_) ?_
        ·
         have s3 : f5 47 = .bool (decide (sa = (-1))) := hp4 3 rfl rfl
         refine gy rfl rfl s3 b3 (fa fl35_4 rfl (hf4 3 rfl) ?_)
         exact ⟨_, rfl, Ext.refl _, rfl⟩
        refine dc (fun f6 w9 hf5 xt8 hp5 => ?_) ?_
        ·
         have H10 := H4.ext xt8
         have s4 : f6 47 = .bool (decide (sa = (-1))) := hp5 3 rfl rfl
         have s5 : f6 48 = pV bb0 4 := hp5 4 rfl rfl
         refine gy rfl rfl s4 b3 (ldX H10 1 rfl ty3 rfl s5 (by decide) rfl ?_)
         exact ⟨_, rfl, Ext.refl _, rfl⟩
        refine dc (fun f7 w10 hf6 xt9 hp6 => ?_) ?_
        ·
         have s6 : f7 47 = .bool (decide (sa = (-1))) := hp6 3 rfl rfl
         have s7 : f7 49 = iV sb := hp6 5 rfl rfl
         refine gy rfl rfl s6 b3 (eql rfl rfl s7 rfl ?_)
         exact ⟨_, rfl, Ext.refl _, rfl⟩
        refine dc (fun _ _ _ _ hp7 => pickT rfl rfl rfl (hp7 3 rfl rfl) b3 (hp7 6 rfl rfl) (d0 rfl rfl)) ?_
        refine dc (fun _ _ _ _ hp8 => mv rfl (hp8 7 rfl rfl) (d0 rfl rfl)) ?_
        refine dc (fun _ _ _ _ hp9 => gn rfl rfl (hp9 8 rfl rfl) b4 (d0 rfl rfl)) ?_
        refine dc (fun _ _ _ _ hp10 => gn rfl rfl (hp10 8 rfl rfl) b4 (d0 rfl rfl)) ?_
        refine dc (fun _ _ _ _ hp11 => gn rfl rfl (hp11 8 rfl rfl) b4 (d0 rfl rfl)) ?_
        refine dc (fun _ _ _ _ hp12 => gn rfl rfl (hp12 8 rfl rfl) b4 (d0 rfl rfl)) ?_
        refine dc (fun _ _ _ _ hp13 => gn rfl rfl (hp13 8 rfl rfl) b4 (d0 rfl rfl)) ?_
        refine dc (fun _ _ _ _ hp14 => gn rfl rfl (hp14 8 rfl rfl) b4 (d0 rfl rfl)) ?_
        refine dc (fun _ _ _ _ hp15 => gn rfl rfl (hp15 8 rfl rfl) b4 (d0 rfl rfl)) ?_
        refine dc (fun _ _ _ _ hp16 => gn rfl rfl (hp16 8 rfl rfl) b4 (d0 rfl rfl)) ?_
        refine dc (fun _ _ _ _ hp17 => gn rfl rfl (hp17 8 rfl rfl) b4 (d0 rfl rfl)) ?_
        refine dc (fun _ _ _ _ hp18 => gn rfl rfl (hp18 8 rfl rfl) b4 (d0 rfl rfl)) ?_
        refine dc (fun _ _ _ _ hp19 => gn rfl rfl (hp19 8 rfl rfl) b4 (d0 rfl rfl)) ?_
        exact DSteps.rest rfl _
       ·
        intro f21 w24 hf20 xt23 hp20
        have H25 := H4.ext xt23
        have s31 : f21 0 = pV b_a 0 := (hf20 0 rfl).trans i0
        have s32 : f21 3 = pV bb0 0 := hf20 3 rfl
        have s33 : f21 6 = .bool true := hf20 6 rfl
        have s34 : f21 52 = .bool (decide (sb = (-1))) := hp20 8 rfl
        refine k (gn rfl rfl s34 b4 (k (pickF rfl rfl rfl s34 b4 rfl (k (asg (v := .bool false) rfl rfl (z (inb_normal ?_)))))))
        refine cutN ⟨false, true, s31, s32, rfl, s33, H25, (by first | exact g2a ‹_› ‹_› | exact g2b ‹_› ‹_› ‹_› | exact g2c ‹_› ‹_› ‹_› ‹_›), (by first | exact p_2 ‹_›)⟩
     · -- decide (sa = (-1)) is False
      have p3 := of_decide_eq_false b3
      refine dr 20 [eV (pV bb0 3), eV (iV sa), eV (.bool (decide (sa = (-1)))), eV (.bool (decide (sa = (-1)))), eV undef, eV undef, eV undef, eV (.bool false), eV (.bool false), eV undef, eV undef, eV undef, eV undef, eV undef, eV undef, eV undef, eV undef, eV undef, eV undef, eV undef] rfl (by kernel_rfl) ?_ ?_
      ·
       refine dc (fun _ _ hf0 _ _ => fa fl35_3 rfl (hf0 3 rfl) (d0 rfl rfl)) ?_
       refine dc (fun _ _ _ xt4 hp1 => ldX (H4.ext xt4) 1 rfl ty3 rfl (hp1 0 rfl rfl) (by decide) rfl (d0 rfl rfl)) ?_
       refine dc (fun _ _ _ _ hp2 => eql rfl rfl (hp2 1 rfl rfl) rfl (d0 rfl rfl)) ?_
       refine dc (fun _ _ _ _ hp3 => mv rfl (hp3 2 rfl rfl) (d0 rfl rfl)) ?_
       refine dc (fun _ _ _ _ hp4 => gn rfl rfl (hp4 3 rfl rfl) b3 (d0 rfl rfl)) ?_
       refine dc (fun _ _ _ _ hp5 => gn rfl rfl (hp5 3 rfl rfl) b3 (d0 rfl rfl)) ?_
       refine dc (fun _ _ _ _ hp6 => gn rfl rfl (hp6 3 rfl rfl) b3 (d0 rfl rfl)) ?_
       refine dc (fun _ _ _ _ hp7 => pickF rfl rfl rfl (hp7 3 rfl rfl) b3 rfl (d0 rfl rfl)) ?_
       refine dc (fun _ _ _ _ hp8 => mv rfl (hp8 7 rfl rfl) (d0 rfl rfl)) ?_
       refine dc (fun _ _ _ _ hp9 => gn rfl rfl (hp9 8 rfl rfl) rfl (d0 rfl rfl)) ?_
       refine dc (fun _ _ _ _ hp10 => gn rfl rfl (hp10 8 rfl rfl) rfl (d0 rfl rfl)) ?_
       refine dc (fun _ _ _ _ hp11 => gn rfl rfl (hp11 8 rfl rfl) rfl (d0 rfl rfl)) ?_
       refine dc (fun _ _ _ _ hp12 => gn rfl rfl (hp12 8 rfl rfl) rfl (d0 rfl rfl)) ?_
       refine dc (fun _ _ _ _ hp13 => gn rfl rfl (hp13 8 rfl rfl) rfl (d0 rfl rfl)) ?_
       refine dc (fun _ _ _ _ hp14 => gn rfl rfl (hp14 8 rfl rfl) rfl (d0 rfl rfl)) ?_
       refine dc (fun _ _ _ _ hp15 => gn rfl rfl (hp15 8 rfl rfl) rfl (d0 rfl rfl)) ?_
       refine dc (fun _ _ _ _ hp16 => gn rfl rfl (hp16 8 rfl rfl) rfl (d0 rfl rfl)) ?_
       refine dc (fun _ _ _ _ hp17 => gn rfl rfl (hp17 8 rfl rfl) rfl (d0 rfl rfl)) ?_
       refine dc (fun _ _ _ _ hp18 => gn rfl rfl (hp18 8 rfl rfl) rfl (d0 rfl rfl)) ?_
       refine dc (fun _ _ _ _ hp19 => gn rfl rfl (hp19 8 rfl rfl) rfl (d0 rfl rfl)) ?_
       exact DSteps.rest rfl _
      ·
       intro f21 w24 hf20 xt23 hp20
       have H25 := H4.ext xt23
       have s31 : f21 0 = pV b_a 0 := (hf20 0 rfl).trans i0
       have s32 : f21 3 = pV bb0 0 := hf20 3 rfl
       have s33 : f21 6 = .bool true := hf20 6 rfl
       have s34 : f21 52 = .bool false := hp20 8 rfl
       refine k (gn rfl rfl s34 rfl (k (pickF rfl rfl rfl s34 rfl rfl (k (asg (v := .bool false) rfl rfl (z (inb_normal ?_)))))))
       refine cutN ⟨false, true, s31, s32, rfl, s33, H25, (by first | exact g2a ‹_› ‹_› | exact g2b ‹_› ‹_› ‹_› | exact g2c ‹_› ‹_› ‹_› ‹_›), (by first | exact p_2 ‹_›)⟩
    ·
     have p2 := of_decide_eq_false b2
     refine sq (rg (k (eql rfl rfl rfl rfl (k (asg (v := .bool (decide (kd = 3))) rfl rfl (z (nx ?_)))))))
     refine cd (b := decide (kd = 3)) rfl rfl (fun b3 => ?_) (fun b3 => ?_)
     ·
      have p3 := of_decide_eq_true b3
      refine sq (rg (k (mv rfl i0 (k (fa fl35_3 rfl rfl (k (ldX H4 1 rfl ty3 rfl rfl (by decide) rfl (k ?_))))))))
      have H5 := H4.freeze 5 rfl
      have H6 : HI M w w2 ([own w.heap.size 3 (.slice (some ⟨g0, 0, none⟩) 2 2) ([fr, to] : List Int), box bb0 #[iV kd, iV fr, iV to, iV sa, iV sb] 35, box b_a #[.slice a_fv n_fv c_fv, .slice a_fi fi.length c_fi, .slice a_fo fo.length c_fo, .slice a_stp stp.length c_stp, .slice a_pl pl.length c_pl] 54, imm (.slice a_fi fi.length c_fi) fi, imm (.slice a_fo fo.length c_fo) fo, imm (.slice a_stp stp.length c_stp) stp, own w.heap.size 4 (.slice a_pl pl.length c_pl) pl] ++ r) := H5
      have cc1 := aud_step (stp := stp) (i := sa) (a_fv := a_fv) (n_fv := n_fv) (c_fv := c_fv) (a_fi := a_fi) (n_fi := fi.length) (c_fi := c_fi) (a_fo := a_fo) (n_fo := fo.length) (c_fo := c_fo) (a_pl := a_pl) (n_pl := pl.length) (c_pl := c_pl) (w := w2) (M := fun _ => False) (fun _ h_ => h_.elim) ((H6.rv 5 rfl).lift (Up.less fun _ _ h_ => h_.elim)) (by first | assumption | (unfold I64 at *; omega)) ⟨H6.at_ 2 rfl, fun h_ => h_⟩
      refine ca go38 rfl (ec rfl (ec rfl e0)) cc1 ?_
      rintro _ w4 ⟨rfl, xt3⟩
      have H7 := H4.ext xt3
      refine k (mv (v := .tuple #[.agg #[iV ((stpO stp sa).elim 0 (·.1)), iV ((stpO stp sa).elim 0 (·.2.1)), iV ((stpO stp sa).elim 0 (·.2.2.1)), iV ((stpO stp sa).elim 0 (·.2.2.2.1)), iV ((stpO stp sa).elim 0 (·.2.2.2.2))], .bool ((stpO stp sa).isSome)]) rfl rfl (k (xt rfl rfl rfl (k (xt rfl rfl rfl (k (al H7 ty35 ?_)))))))
      intro bb1 w5 xt4 (H8 : HI M w w5 ([box bb1 #[iV 0, iV 0, iV 0, iV 0, iV 0] 35, own w.heap.size 3 (.slice (some ⟨g0, 0, none⟩) 2 2) ([fr, to] : List Int), box bb0 #[iV kd, iV fr, iV to, iV sa, iV sb] 35, box b_a #[.slice a_fv n_fv c_fv, .slice a_fi fi.length c_fi, .slice a_fo fo.length c_fo, .slice a_stp stp.length c_stp, .slice a_pl pl.length c_pl] 54, imm (.slice a_fi fi.length c_fi) fi, imm (.slice a_fo fo.length c_fo) fo, own w.heap.size 35 (.slice a_stp stp.length c_stp) stp, own w.heap.size 4 (.slice a_pl pl.length c_pl) pl] ++ r))
      refine k (stX H8 0 rfl ty35 rfl rfl rfl rfl rfl rfl rfl ?_)
      intro w6 (H9 : HI M w w6 ([box bb1 #[iV ((stpO stp sa).elim 0 (·.1)), iV ((stpO stp sa).elim 0 (·.2.1)), iV ((stpO stp sa).elim 0 (·.2.2.1)), iV ((stpO stp sa).elim 0 (·.2.2.2.1)), iV ((stpO stp sa).elim 0 (·.2.2.2.2))] 35, own w.heap.size 3 (.slice (some ⟨g0, 0, none⟩) 2 2) ([fr, to] : List Int), box bb0 #[iV kd, iV fr, iV to, iV sa, iV sb] 35, box b_a #[.slice a_fv n_fv c_fv, .slice a_fi fi.length c_fi, .slice a_fo fo.length c_fo, .slice a_stp stp.length c_stp, .slice a_pl pl.length c_pl] 54, imm (.slice a_fi fi.length c_fi) fi, imm (.slice a_fo fo.length c_fo) fo, own w.heap.size 35 (.slice a_stp stp.length c_stp) stp, own w.heap.size 4 (.slice a_pl pl.length c_pl) pl] ++ r))
      refine k (asg (v := .bool ((stpO stp sa).isSome)) rfl rfl (z (nx (sq (rg (k (mv rfl i0 (k (fa fl35_4 rfl rfl (k (ldX H9 2 rfl ty3 rfl rfl (by decide) rfl (k ?_))))))))))))
      have H10 := H9.freeze 6 rfl
      have H11 : HI M w w6 ([box bb1 #[iV ((stpO stp sa).elim 0 (·.1)), iV ((stpO stp sa).elim 0 (·.2.1)), iV ((stpO stp sa).elim 0 (·.2.2.1)), iV ((stpO stp sa).elim 0 (·.2.2.2.1)), iV ((stpO stp sa).elim 0 (·.2.2.2.2))] 35, own w.heap.size 3 (.slice (some ⟨g0, 0, none⟩) 2 2) ([fr, to] : List Int), box bb0 #[iV kd, iV fr, iV to, iV sa, iV sb] 35, box b_a #[.slice a_fv n_fv c_fv, .slice a_fi fi.length c_fi, .slice a_fo fo.length c_fo, .slice a_stp stp.length c_stp, .slice a_pl pl.length c_pl] 54, imm (.slice a_fi fi.length c_fi) fi, imm (.slice a_fo fo.length c_fo) fo, imm (.slice a_stp stp.length c_stp) stp, own w.heap.size 4 (.slice a_pl pl.length c_pl) pl] ++ r) := H10
      have cc2 := aud_step (stp := stp) (i := sb) (a_fv := a_fv) (n_fv := n_fv) (c_fv := c_fv) (a_fi := a_fi) (n_fi := fi.length) (c_fi := c_fi) (a_fo := a_fo) (n_fo := fo.length) (c_fo := c_fo) (a_pl := a_pl) (n_pl := pl.length) (c_pl := c_pl) (w := w6) (M := fun _ => False) (fun _ h_ => h_.elim) ((H11.rv 6 rfl).lift (Up.less fun _ _ h_ => h_.elim)) (by first | assumption | (unfold I64 at *; omega)) ⟨H11.at_ 3 rfl, fun h_ => h_⟩
      refine ca go38 rfl (ec rfl (ec rfl e0)) cc2 ?_
      rintro _ w7 ⟨rfl, xt5⟩
      have H12 := H9.ext xt5
      refine k (mv (v := .tuple #[.agg #[iV ((stpO stp sb).elim 0 (·.1)), iV ((stpO stp sb).elim 0 (·.2.1)), iV ((stpO stp sb).elim 0 (·.2.2.1)), iV ((stpO stp sb).elim 0 (·.2.2.2.1)), iV ((stpO stp sb).elim 0 (·.2.2.2.2))], .bool ((stpO stp sb).isSome)]) rfl rfl (k (xt rfl rfl rfl (k (xt rfl rfl rfl (k (al H12 ty35 ?_)))))))
      intro bb2 w8 xt6 (H13 : HI M w w8 ([box bb2 #[iV 0, iV 0, iV 0, iV 0, iV 0] 35, box bb1 #[iV ((stpO stp sa).elim 0 (·.1)), iV ((stpO stp sa).elim 0 (·.2.1)), iV ((stpO stp sa).elim 0 (·.2.2.1)), iV ((stpO stp sa).elim 0 (·.2.2.2.1)), iV ((stpO stp sa).elim 0 (·.2.2.2.2))] 35, own w.heap.size 3 (.slice (some ⟨g0, 0, none⟩) 2 2) ([fr, to] : List Int), box bb0 #[iV kd, iV fr, iV to, iV sa, iV sb] 35, box b_a #[.slice a_fv n_fv c_fv, .slice a_fi fi.length c_fi, .slice a_fo fo.length c_fo, .slice a_stp stp.length c_stp, .slice a_pl pl.length c_pl] 54, imm (.slice a_fi fi.length c_fi) fi, imm (.slice a_fo fo.length c_fo) fo, own w.heap.size 35 (.slice a_stp stp.length c_stp) stp, own w.heap.size 4 (.slice a_pl pl.length c_pl) pl] ++ r))
      refine k (stX H13 0 rfl ty35 rfl rfl rfl rfl rfl rfl rfl ?_)
      intro w9 (H14 : HI M w w9 ([box bb2 #[iV ((stpO stp sb).elim 0 (·.1)), iV ((stpO stp sb).elim 0 (·.2.1)), iV ((stpO stp sb).elim 0 (·.2.2.1)), iV ((stpO stp sb).elim 0 (·.2.2.2.1)), iV ((stpO stp sb).elim 0 (·.2.2.2.2))] 35, box bb1 #[iV ((stpO stp sa).elim 0 (·.1)), iV ((stpO stp sa).elim 0 (·.2.1)), iV ((stpO stp sa).elim 0 (·.2.2.1)), iV ((stpO stp sa).elim 0 (·.2.2.2.1)), iV ((stpO stp sa).elim 0 (·.2.2.2.2))] 35, own w.heap.size 3 (.slice (some ⟨g0, 0, none⟩) 2 2) ([fr, to] : List Int), box bb0 #[iV kd, iV fr, iV to, iV sa, iV sb] 35, box b_a #[.slice a_fv n_fv c_fv, .slice a_fi fi.length c_fi, .slice a_fo fo.length c_fo, .slice a_stp stp.length c_stp, .slice a_pl pl.length c_pl] 54, imm (.slice a_fi fi.length c_fi) fi, imm (.slice a_fo fo.length c_fo) fo, own w.heap.size 35 (.slice a_stp stp.length c_stp) stp, own w.heap.size 4 (.slice a_pl pl.length c_pl) pl] ++ r))
      refine k (asg (v := .bool ((stpO stp sb).isSome)) rfl rfl (z (nx (sq (rg (k (mv (v := .bool ((stpO stp sa).isSome)) rfl rfl (k (mv (v := .bool ((stpO stp sa).isSome)) rfl rfl ?_)))))))))
      rcases Bool.eq_false_or_eq_true ((stpO stp sa).isSome) with b4 | b4
      · -- (stpO stp sa).isSome is True
       refine k (gy rfl rfl rfl b4 (mv (v := .bool ((stpO stp sb).isSome)) rfl rfl (k (pickT rfl rfl rfl rfl b4 rfl (k (mv (v := .bool ((stpO stp sb).isSome)) rfl rfl ?_))))))
       rcases Bool.eq_false_or_eq_true ((stpO stp sb).isSome) with b5 | b5
       · -- (stpO stp sb).isSome is True
        refine k (gy rfl rfl rfl b5 (fa fl35_1 rfl rfl (k (gy rfl rfl rfl b5 (ldX H14 1 rfl ty3 rfl rfl (by decide) rfl (k (gy rfl rfl rfl b5 (fa fl35_1 rfl rfl (k (gy rfl rfl rfl b5 (ldX H14 3 rfl ty3 rfl rfl (by decide) rfl (k (gy rfl rfl rfl b5 (eql rfl rfl rfl rfl (k (pickT rfl rfl rfl rfl b5 rfl (k (mv (v := .bool (decide (((stpO stp sa).elim 0 (·.2.1)) = fr))) rfl rfl ?_))))))))))))))))))
        rcases Bool.eq_false_or_eq_true (decide (((stpO stp sa).elim 0 (·.2.1)) = fr)) with b6 | b6
        · -- decide (((stpO stp sa).elim 0 (·.2.1)) = fr) is True
         have p6 := of_decide_eq_true b6
         refine k (gy rfl rfl rfl b6 (fa fl35_2 rfl rfl (k (gy rfl rfl rfl b6 (ldX H14 1 rfl ty3 rfl rfl (by decide) rfl (k (gy rfl rfl rfl b6 (fa fl35_1 rfl rfl (k (gy rfl rfl rfl b6 (ldX H14 0 rfl ty3 rfl rfl (by decide) rfl (k (gy rfl rfl rfl b6 (eql rfl rfl rfl rfl (k (pickT rfl rfl rfl rfl b6 rfl (k (mv (v := .bool (decide (((stpO stp sa).elim 0 (·.2.2.1)) = ((stpO stp sb).elim 0 (·.2.1))))) rfl rfl ?_))))))))))))))))))
         rcases Bool.eq_false_or_eq_true (decide (((stpO stp sa).elim 0 (·.2.2.1)) = ((stpO stp sb).elim 0 (·.2.1)))) with b7 | b7
         · -- decide (((stpO stp sa).elim 0 (·.2.2.1)) = ((stpO stp sb).el is True
          have p7 := of_decide_eq_true b7
          refine k (gy rfl rfl rfl b7 (fa fl35_2 rfl rfl (k (gy rfl rfl rfl b7 (ldX H14 0 rfl ty3 rfl rfl (by decide) rfl (k (gy rfl rfl rfl b7 (fa fl35_2 rfl rfl (k (gy rfl rfl rfl b7 (ldX H14 3 rfl ty3 rfl rfl (by decide) rfl (k (gy rfl rfl rfl b7 (eql rfl rfl rfl rfl (k (pickT rfl rfl rfl rfl b7 rfl (k (asg (v := .bool (decide (((stpO stp sb).elim 0 (·.2.2.1)) = to))) rfl rfl (z (nx (sq (rg (k (mv (v := .bool (decide (((stpO stp sb).elim 0 (·.2.2.1)) = to))) rfl rfl (z (nx ?_))))))))))))))))))))))))))
          refine cd (b := decide (((stpO stp sb).elim 0 (·.2.2.1)) = to)) rfl rfl (fun b8 => ?_) (fun b8 => ?_)
          ·
           have p8 := of_decide_eq_true b8
           have hq0_ := stpO_rng (pre := stp) (sa := sa) (by assumption)
           have hq1_ := stpO_rng (pre := stp) (sa := sb) (by assumption)
           obtain ⟨x0, hx0⟩ : ∃ x, pl[sa.toNat]? = some x := ⟨_, List.getElem?_eq_getElem (by first | omega | (simp; omega))⟩
           rcases Bool.eq_false_or_eq_true (x0) with b9 | b9
           · -- x0 is True
            have hq0_ := stpO_rng (pre := stp) (sa := sa) (by assumption)
            have hq1_ := stpO_rng (pre := stp) (sa := sb) (by assumption)
            refine dr 15 [eV (pV b_a 0), eV (pV b_a 0), eV (pV b_a 4), eV (.slice a_pl pl.length c_pl), eV (pV bb0 3), eV (iV sa), fun (v : Value) (w' : World) => ∃ (g2 : Nat), v = .pointer (some ⟨g2, sa.toNat * 1, none⟩) ∧ (.slice a_pl pl.length c_pl : Value).ownBlock = some g2 ∧ AtW (MS M ([box bb2 #[iV ((stpO stp sb).elim 0 (·.1)), iV ((stpO stp sb).elim 0 (·.2.1)), iV ((stpO stp sb).elim 0 (·.2.2.1)), iV ((stpO stp sb).elim 0 (·.2.2.2.1)), iV ((stpO stp sb).elim 0 (·.2.2.2.2))] 35, box bb1 #[iV ((stpO stp sa).elim 0 (·.1)), iV ((stpO stp sa).elim 0 (·.2.1)), iV ((stpO stp sa).elim 0 (·.2.2.1)), iV ((stpO stp sa).elim 0 (·.2.2.2.1)), iV ((stpO stp sa).elim 0 (·.2.2.2.2))] 35, own w.heap.size 3 (.slice (some ⟨g0, 0, none⟩) 2 2) ([fr, to] : List Int), box bb0 #[iV kd, iV fr, iV to, iV sa, iV sb] 35, box b_a #[.slice a_fv n_fv c_fv, .slice a_fi fi.length c_fi, .slice a_fo fo.length c_fo, .slice a_stp stp.length c_stp, .slice a_pl pl.length c_pl] 54, imm (.slice a_fi fi.length c_fi) fi, imm (.slice a_fo fo.length c_fo) fo, own w.heap.size 35 (.slice a_stp stp.length c_stp) stp, own w.heap.size 4 (.slice a_pl pl.length c_pl) pl] ++ r)) w' ⟨g2, sa.toNat * 1, none⟩ x0, eV (.bool x0), eV (.bool x0), eV (pV b_a 0), eV (pV b_a 0), eV (pV b_a 4), eV (.slice a_pl pl.length c_pl), eV (pV bb0 4), eV (iV sb)] rfl (by kernel_rfl) ?_ ?_
            ·
             refine dc (fun _ _ hf0 _ _ => mv rfl ((hf0 0 rfl).trans i0) (d0 rfl rfl)) ?_
             refine dc (fun _ _ _ _ hp1 => nc rfl (hp1 0 rfl rfl) (d0 rfl rfl)) ?_
             refine dc (fun _ _ _ _ hp2 => fa fl54_2 rfl (hp2 1 rfl rfl) (d0 rfl rfl)) ?_
             refine dc (fun _ _ _ xt10 hp3 => ldX (H14.ext xt10) 4 rfl ty52 rfl (hp3 2 rfl rfl) (by decide) rfl (d0 rfl rfl)) ?_
             refine dc (fun _ _ hf4 _ _ => fa fl35_3 rfl (hf4 3 rfl) (d0 rfl rfl)) ?_
             refine dc (fun _ _ _ xt12 hp5 => ldX (H14.ext xt12) 3 rfl ty3 rfl (hp5 4 rfl rfl) (by decide) rfl (d0 rfl rfl)) ?_
             refine ⟨fun _ => ⟨fun f7 w16 hf6 xt13 hp6 => ?_, by rintro _ _ _ x_ ⟨g2, e_, hv1, hA1⟩; exact ⟨g2, e_, hv1, hA1.ext x_⟩⟩, ?_⟩
             ·
              have H21 := H14.ext xt13
              have s4 : f7 111 = .slice a_pl pl.length c_pl := hp6 3 rfl rfl
              have s5 : f7 113 = iV sa := hp6 5 rfl rfl
              refine iaO (H21.at_ 8 rfl) rfl rfl s4 s5 (by first | omega | (simp; omega)) un52 ty4 ?_
              intro g3 x2 hv2 hx2 hA2
              obtain rfl : x0 = x2 := Option.some.inj (hx0.symm.trans hx2)
              exact ⟨_, rfl, Ext.refl _, ⟨g3, rfl, hv2, hA2⟩⟩
             refine dc (fun f8 w17 hf7 xt14 hp7 => ?_) ?_
             ·
              obtain ⟨g4, s6, hv3, hA3⟩ : ∃ (g4 : Nat), f8 114 = .pointer (some ⟨g4, sa.toNat * 1, none⟩) ∧ (.slice a_pl pl.length c_pl : Value).ownBlock = some g4 ∧ AtW (MS M ([box bb2 #[iV ((stpO stp sb).elim 0 (·.1)), iV ((stpO stp sb).elim 0 (·.2.1)), iV ((stpO stp sb).elim 0 (·.2.2.1)), iV ((stpO stp sb).elim 0 (·.2.2.2.1)), iV ((stpO stp sb).elim 0 (·.2.2.2.2))] 35, box bb1 #[iV ((stpO stp sa).elim 0 (·.1)), iV ((stpO stp sa).elim 0 (·.2.1)), iV ((stpO stp sa).elim 0 (·.2.2.1)), iV ((stpO stp sa).elim 0 (·.2.2.2.1)), iV ((stpO stp sa).elim 0 (·.2.2.2.2))] 35, own w.heap.size 3 (.slice (some ⟨g0, 0, none⟩) 2 2) ([fr, to] : List Int), box bb0 #[iV kd, iV fr, iV to, iV sa, iV sb] 35, box b_a #[.slice a_fv n_fv c_fv, .slice a_fi fi.length c_fi, .slice a_fo fo.length c_fo, .slice a_stp stp.length c_stp, .slice a_pl pl.length c_pl] 54, imm (.slice a_fi fi.length c_fi) fi, imm (.slice a_fo fo.length c_fo) fo, own w.heap.size 35 (.slice a_stp stp.length c_stp) stp, own w.heap.size 4 (.slice a_pl pl.length c_pl) pl] ++ r)) w17 ⟨g4, sa.toNat * 1, none⟩ x0 := hp7 6 rfl rfl
              refine ldB hA3 ty4 rfl s6 ?_
              exact ⟨_, rfl, Ext.refl _, rfl⟩
             refine dc (fun _ _ _ _ hp8 => mv rfl (hp8 7 rfl rfl) (d0 rfl rfl)) ?_
             refine dc (fun f10 w19 hf9 xt16 hp9 => ?_) ?_
             ·
              have s8 : f10 116 = .bool x0 := hp9 8 rfl rfl
              refine gy rfl rfl s8 b9 (mv rfl ((hf9 0 rfl).trans i0) ?_)
              exact ⟨_, rfl, Ext.refl _, rfl⟩
             refine dc (fun f11 w20 hf10 xt17 hp10 => ?_) ?_
             ·
              have s9 : f11 116 = .bool x0 := hp10 8 rfl rfl
              have s10 : f11 117 = pV b_a 0 := hp10 9 rfl rfl
              refine gy rfl rfl s9 b9 (nc rfl s10 ?_)
              exact ⟨_, rfl, Ext.refl _, rfl⟩
             refine dc (fun f12 w21 hf11 xt18 hp11 => ?_) ?_
             ·
              have s11 : f12 116 = .bool x0 := hp11 8 rfl rfl
              have s12 : f12 118 = pV b_a 0 := hp11 10 rfl rfl
              refine gy rfl rfl s11 b9 (fa fl54_2 rfl s12 ?_)
              exact ⟨_, rfl, Ext.refl _, rfl⟩
             refine dc (fun f13 w22 hf12 xt19 hp12 => ?_) ?_
             ·
              have H27 := H14.ext xt19
              have s13 : f13 116 = .bool x0 := hp12 8 rfl rfl
              have s14 : f13 119 = pV b_a 4 := hp12 11 rfl rfl
              refine gy rfl rfl s13 b9 (ldX H27 4 rfl ty52 rfl s14 (by decide) rfl ?_)
              exact ⟨_, rfl, Ext.refl _, rfl⟩
             refine dc (fun f14 w23 hf13 xt20 hp13 => ?_) ?_
             ·
              have s15 : f14 116 = .bool x0 := hp13 8 rfl rfl
              refine gy rfl rfl s15 b9 (fa fl35_4 rfl (hf13 3 rfl) ?_)
              exact ⟨_, rfl, Ext.refl _, rfl⟩
             refine dc (fun f15 w24 hf14 xt21 hp14 => ?_) ?_
             ·
              have H29 := H14.ext xt21
              have s16 : f15 116 = .bool x0 := hp14 8 rfl rfl
              have s17 : f15 121 = pV bb0 4 := hp14 13 rfl rfl
              refine gy rfl rfl s16 b9 (ldX H29 3 rfl ty3 rfl s17 (by decide) rfl ?_)
              exact ⟨_, rfl, Ext.refl _, rfl⟩
             exact DSteps.rest rfl _
            ·
             intro f16 w25 hf15 xt22 hp15
             have H30 := H14.ext xt22
             have s18 : f16 0 = pV b_a 0 := (hf15 0 rfl).trans i0
             have s19 : f16 3 = pV bb0 0 := hf15 3 rfl
             have s20 : f16 5 = .bool (decide (((stpO stp sb).elim 0 (·.2.2.1)) = to)) := hf15 5 rfl
             have s21 : f16 116 = .bool x0 := hp15 8 rfl
             have s22 : f16 120 = .slice a_pl pl.length c_pl := hp15 12 rfl
             have s23 : f16 122 = iV sb := hp15 14 rfl
             refine k (gy rfl rfl s21 b9 (iaO (H30.at_ 8 rfl) rfl rfl s22 s23 (by (first | (have h_ := op1_rng (fi := fi) (sb := sb) (by assumption); omega) | (have h_ := stpO_rng (pre := stp) (sa := sb) (by assumption); omega))) un52 ty4 ?_))
             intro g5 x3 hv4 hx3 hA4
             refine k (gy rfl rfl s21 b9 (ldB hA4 ty4 rfl rfl (k (pickT rfl rfl rfl s21 b9 rfl (k (asg (v := .bool x3) rfl rfl (z (inb_normal ?_))))))))
             have H31 : HI M w w25 ([own w.heap.size 3 (.slice (some ⟨g0, 0, none⟩) 2 2) ([fr, to] : List Int), box bb0 #[iV kd, iV fr, iV to, iV sa, iV sb] 35, box b_a #[.slice a_fv n_fv c_fv, .slice a_fi fi.length c_fi, .slice a_fo fo.length c_fo, .slice a_stp stp.length c_stp, .slice a_pl pl.length c_pl] 54, imm (.slice a_fi fi.length c_fi) fi, imm (.slice a_fo fo.length c_fo) fo, own w.heap.size 35 (.slice a_stp stp.length c_stp) stp, own w.heap.size 4 (.slice a_pl pl.length c_pl) pl] ++ r) := HI.pickT (l := [box bb2 #[iV ((stpO stp sb).elim 0 (·.1)), iV ((stpO stp sb).elim 0 (·.2.1)), iV ((stpO stp sb).elim 0 (·.2.2.1)), iV ((stpO stp sb).elim 0 (·.2.2.2.1)), iV ((stpO stp sb).elim 0 (·.2.2.2.2))] 35, box bb1 #[iV ((stpO stp sa).elim 0 (·.1)), iV ((stpO stp sa).elim 0 (·.2.1)), iV ((stpO stp sa).elim 0 (·.2.2.1)), iV ((stpO stp sa).elim 0 (·.2.2.2.1)), iV ((stpO stp sa).elim 0 (·.2.2.2.2))] 35, own w.heap.size 3 (.slice (some ⟨g0, 0, none⟩) 2 2) ([fr, to] : List Int), box bb0 #[iV kd, iV fr, iV to, iV sa, iV sb] 35, box b_a #[.slice a_fv n_fv c_fv, .slice a_fi fi.length c_fi, .slice a_fo fo.length c_fo, .slice a_stp stp.length c_stp, .slice a_pl pl.length c_pl] 54, imm (.slice a_fi fi.length c_fi) fi, imm (.slice a_fo fo.length c_fo) fo, own w.heap.size 35 (.slice a_stp stp.length c_stp) stp, own w.heap.size 4 (.slice a_pl pl.length c_pl) pl]) (l' := [own w.heap.size 3 (.slice (some ⟨g0, 0, none⟩) 2 2) ([fr, to] : List Int), box bb0 #[iV kd, iV fr, iV to, iV sa, iV sb] 35, box b_a #[.slice a_fv n_fv c_fv, .slice a_fi fi.length c_fi, .slice a_fo fo.length c_fo, .slice a_stp stp.length c_stp, .slice a_pl pl.length c_pl] 54, imm (.slice a_fi fi.length c_fi) fi, imm (.slice a_fo fo.length c_fo) fo, own w.heap.size 35 (.slice a_stp stp.length c_stp) stp, own w.heap.size 4 (.slice a_pl pl.length c_pl) pl]) (t := r) H30 [2, 3, 4, 5, 6, 7, 8] (by decide) rfl rfl
             refine cutN ⟨(decide (((stpO stp sb).elim 0 (·.2.2.1)) = to)), x3, s18, s19, s20, rfl, H31, (by first | exact g3a ‹_› ‹_› | exact g3b ‹_› ‹_› | exact g3c ‹_› ‹_› ‹_› ‹_› | exact g3d ‹_› ‹_› ‹_› ‹_› ‹_› | exact g3e ‹_› ‹_› ‹_› ‹_› ‹_›), (by first | exact p3a ‹_› ‹_› | exact p3b ‹_› ‹_› | exact p3c ‹_› ‹_› ‹_› ‹_› | exact p3d ‹_› ‹_› ‹_› ‹_› ‹_› | exact p3e ‹_› ‹_› ‹_› ‹_› ‹_› ‹_› | exact p3f ‹_› ‹_› ‹_› ‹_› ‹_› ‹_› ‹_› ‹_› | exact p3g ‹_› ‹_› ‹_› ‹_› ‹_› ‹_› ‹_› ‹_› ‹_›)⟩
           · -- x0 is False
            have hq0_ := stpO_rng (pre := stp) (sa := sa) (by assumption)
            have hq1_ := stpO_rng (pre := stp) (sa := sb) (by assumption)
            refine dr 15 [eV (pV b_a 0), eV (pV b_a 0), eV (pV b_a 4), eV (.slice a_pl pl.length c_pl), eV (pV bb0 3), eV (iV sa), fun (v : Value) (w' : World) => ∃ (g2 : Nat), v = .pointer (some ⟨g2, sa.toNat * 1, none⟩) ∧ (.slice a_pl pl.length c_pl : Value).ownBlock = some g2 ∧ AtW (MS M ([box bb2 #[iV ((stpO stp sb).elim 0 (·.1)), iV ((stpO stp sb).elim 0 (·.2.1)), iV ((stpO stp sb).elim 0 (·.2.2.1)), iV ((stpO stp sb).elim 0 (·.2.2.2.1)), iV ((stpO stp sb).elim 0 (·.2.2.2.2))] 35, box bb1 #[iV ((stpO stp sa).elim 0 (·.1)), iV ((stpO stp sa).elim 0 (·.2.1)), iV ((stpO stp sa).elim 0 (·.2.2.1)), iV ((stpO stp sa).elim 0 (·.2.2.2.1)), iV ((stpO stp sa).elim 0 (·.2.2.2.2))] 35, own w.heap.size 3 (.slice (some ⟨g0, 0, none⟩) 2 2) ([fr, to] : List Int), box bb0 #[iV kd, iV fr, iV to, iV sa, iV sb] 35, box b_a #[.slice a_fv n_fv c_fv, .slice a_fi fi.length c_fi, .slice a_fo fo.length c_fo, .slice a_stp stp.length c_stp, .slice a_pl pl.length c_pl] 54, imm (.slice a_fi fi.length c_fi) fi, imm (.slice a_fo fo.length c_fo) fo, own w.heap.size 35 (.slice a_stp stp.length c_stp) stp, own w.heap.size 4 (.slice a_pl pl.length c_pl) pl] ++ r)) w' ⟨g2, sa.toNat * 1, none⟩ x0, eV (.bool x0), eV (.bool x0), eV undef, eV undef, eV undef, eV undef, eV undef, eV undef] rfl (by kernel_rfl) ?_ ?_
            ·
             refine dc (fun _ _ hf0 _ _ => mv rfl ((hf0 0 rfl).trans i0) (d0 rfl rfl)) ?_
             refine dc (fun _ _ _ _ hp1 => nc rfl (hp1 0 rfl rfl) (d0 rfl rfl)) ?_
             refine dc (fun _ _ _ _ hp2 => fa fl54_2 rfl (hp2 1 rfl rfl) (d0 rfl rfl)) ?_
             refine dc (fun _ _ _ xt10 hp3 => ldX (H14.ext xt10) 4 rfl ty52 rfl (hp3 2 rfl rfl) (by decide) rfl (d0 rfl rfl)) ?_
             refine dc (fun _ _ hf4 _ _ => fa fl35_3 rfl (hf4 3 rfl) (d0 rfl rfl)) ?_
             refine dc (fun _ _ _ xt12 hp5 => ldX (H14.ext xt12) 3 rfl ty3 rfl (hp5 4 rfl rfl) (by decide) rfl (d0 rfl rfl)) ?_
             refine ⟨fun _ => ⟨fun f7 w16 hf6 xt13 hp6 => ?_, by rintro _ _ _ x_ ⟨g2, e_, hv1, hA1⟩; exact ⟨g2, e_, hv1, hA1.ext x_⟩⟩, ?_⟩
             ·
              have H21 := H14.ext xt13
              have s4 : f7 111 = .slice a_pl pl.length c_pl := hp6 3 rfl rfl
              have s5 : f7 113 = iV sa := hp6 5 rfl rfl
              refine iaO (H21.at_ 8 rfl) rfl rfl s4 s5 (by first | omega | (simp; omega)) un52 ty4 ?_
              intro g3 x2 hv2 hx2 hA2
              obtain rfl : x0 = x2 := Option.some.inj (hx0.symm.trans hx2)
              exact ⟨_, rfl, Ext.refl _, ⟨g3, rfl, hv2, hA2⟩⟩
             refine dc (fun f8 w17 hf7 xt14 hp7 => ?_) ?_
             ·
              obtain ⟨g4, s6, hv3, hA3⟩ : ∃ (g4 : Nat), f8 114 = .pointer (some ⟨g4, sa.toNat * 1, none⟩) ∧ (.slice a_pl pl.length c_pl : Value).ownBlock = some g4 ∧ AtW (MS M ([box bb2 #[iV ((stpO stp sb).elim 0 (·.1)), iV ((stpO stp sb).elim 0 (·.2.1)), iV ((stpO stp sb).elim 0 (·.2.2.1)), iV ((stpO stp sb).elim 0 (·.2.2.2.1)), iV ((stpO stp sb).elim 0 (·.2.2.2.2))] 35, box bb1 #[iV ((stpO stp sa).elim 0 (·.1)), iV ((stpO stp sa).elim 0 (·.2.1)), iV ((stpO stp sa).elim 0 (·.2.2.1)), iV ((stpO stp sa).elim 0 (·.2.2.2.1)), iV ((stpO stp sa).elim 0 (·.2.2.2.2))] 35, own w.heap.size 3 (.slice (some ⟨g0, 0, none⟩) 2 2) ([fr, to] : List Int), box bb0 #[iV kd, iV fr, iV to, iV sa, iV sb] 35, box b_a #[.slice a_fv n_fv c_fv, .slice a_fi fi.length c_fi, .slice a_fo fo.length c_fo, .slice a_stp stp.length c_stp, .slice a_pl pl.length c_pl] 54, imm (.slice a_fi fi.length c_fi) fi, imm (.slice a_fo fo.length c_fo) fo, own w.heap.size 35 (.slice a_stp stp.length c_stp) stp, own w.heap.size 4 (.slice a_pl pl.length c_pl) pl] ++ r)) w17 ⟨g4, sa.toNat * 1, none⟩ x0 := hp7 6 rfl rfl
              refine ldB hA3 ty4 rfl s6 ?_
              exact ⟨_, rfl, Ext.refl _, rfl⟩
             refine dc (fun _ _ _ _ hp8 => mv rfl (hp8 7 rfl rfl) (d0 rfl rfl)) ?_
             refine dc (fun _ _ _ _ hp9 => gn rfl rfl (hp9 8 rfl rfl) b9 (d0 rfl rfl)) ?_
             refine dc (fun _ _ _ _ hp10 => gn rfl rfl (hp10 8 rfl rfl) b9 (d0 rfl rfl)) ?_
             refine dc (fun _ _ _ _ hp11 => gn rfl rfl (hp11 8 rfl rfl) b9 (d0 rfl rfl)) ?_
             refine dc (fun _ _ _ _ hp12 => gn rfl rfl (hp12 8 rfl rfl) b9 (d0 rfl rfl)) ?_
             refine dc (fun _ _ _ _ hp13 => gn rfl rfl (hp13 8 rfl rfl) b9 (d0 rfl rfl)) ?_
             refine dc (fun _ _ _ _ hp14 => gn rfl rfl (hp14 8 rfl rfl) b9 (d0 rfl rfl)) ?_
             exact DSteps.rest rfl _
            ·
             intro f16 w25 hf15 xt22 hp15
             have H30 := H14.ext xt22
             have s18 : f16 0 = pV b_a 0 := (hf15 0 rfl).trans i0
             have s19 : f16 3 = pV bb0 0 := hf15 3 rfl
             have s20 : f16 5 = .bool (decide (((stpO stp sb).elim 0 (·.2.2.1)) = to)) := hf15 5 rfl
             have s21 : f16 116 = .bool x0 := hp15 8 rfl
             refine k (gn rfl rfl s21 b9 (k (gn rfl rfl s21 b9 (k (pickF rfl rfl rfl s21 b9 rfl (k (asg (v := .bool false) rfl rfl (z (inb_normal ?_)))))))))
             have H31 : HI M w w25 ([own w.heap.size 3 (.slice (some ⟨g0, 0, none⟩) 2 2) ([fr, to] : List Int), box bb0 #[iV kd, iV fr, iV to, iV sa, iV sb] 35, box b_a #[.slice a_fv n_fv c_fv, .slice a_fi fi.length c_fi, .slice a_fo fo.length c_fo, .slice a_stp stp.length c_stp, .slice a_pl pl.length c_pl] 54, imm (.slice a_fi fi.length c_fi) fi, imm (.slice a_fo fo.length c_fo) fo, own w.heap.size 35 (.slice a_stp stp.length c_stp) stp, own w.heap.size 4 (.slice a_pl pl.length c_pl) pl] ++ r) := HI.pickT (l := [box bb2 #[iV ((stpO stp sb).elim 0 (·.1)), iV ((stpO stp sb).elim 0 (·.2.1)), iV ((stpO stp sb).elim 0 (·.2.2.1)), iV ((stpO stp sb).elim 0 (·.2.2.2.1)), iV ((stpO stp sb).elim 0 (·.2.2.2.2))] 35, box bb1 #[iV ((stpO stp sa).elim 0 (·.1)), iV ((stpO stp sa).elim 0 (·.2.1)), iV ((stpO stp sa).elim 0 (·.2.2.1)), iV ((stpO stp sa).elim 0 (·.2.2.2.1)), iV ((stpO stp sa).elim 0 (·.2.2.2.2))] 35, own w.heap.size 3 (.slice (some ⟨g0, 0, none⟩) 2 2) ([fr, to] : List Int), box bb0 #[iV kd, iV fr, iV to, iV sa, iV sb] 35, box b_a #[.slice a_fv n_fv c_fv, .slice a_fi fi.length c_fi, .slice a_fo fo.length c_fo, .slice a_stp stp.length c_stp, .slice a_pl pl.length c_pl] 54, imm (.slice a_fi fi.length c_fi) fi, imm (.slice a_fo fo.length c_fo) fo, own w.heap.size 35 (.slice a_stp stp.length c_stp) stp, own w.heap.size 4 (.slice a_pl pl.length c_pl) pl]) (l' := [own w.heap.size 3 (.slice (some ⟨g0, 0, none⟩) 2 2) ([fr, to] : List Int), box bb0 #[iV kd, iV fr, iV to, iV sa, iV sb] 35, box b_a #[.slice a_fv n_fv c_fv, .slice a_fi fi.length c_fi, .slice a_fo fo.length c_fo, .slice a_stp stp.length c_stp, .slice a_pl pl.length c_pl] 54, imm (.slice a_fi fi.length c_fi) fi, imm (.slice a_fo fo.length c_fo) fo, own w.heap.size 35 (.slice a_stp stp.length c_stp) stp, own w.heap.size 4 (.slice a_pl pl.length c_pl) pl]) (t := r) H30 [2, 3, 4, 5, 6, 7, 8] (by decide) rfl rfl
             refine cutN ⟨(decide (((stpO stp sb).elim 0 (·.2.2.1)) = to)), false, s18, s19, s20, rfl, H31, (by first | exact g3a ‹_› ‹_› | exact g3b ‹_› ‹_› | exact g3c ‹_› ‹_› ‹_› ‹_› | exact g3d ‹_› ‹_› ‹_› ‹_› ‹_› | exact g3e ‹_› ‹_› ‹_› ‹_› ‹_›), (by first | exact p3a ‹_› ‹_› | exact p3b ‹_› ‹_› | exact p3c ‹_› ‹_› ‹_› ‹_› | exact p3d ‹_› ‹_› ‹_› ‹_› ‹_› | exact p3e ‹_› ‹_› ‹_› ‹_› ‹_› ‹_› | exact p3f ‹_› ‹_› ‹_› ‹_› ‹_› ‹_› ‹_› ‹_› | exact p3g ‹_› ‹_› ‹_› ‹_› ‹_› ‹_› ‹_› ‹_› ‹_›)⟩
          ·
           have p8 := of_decide_eq_false b8
           refine sk (inb_normal ?_)
           have H15 : HI M w w9 ([own w.heap.size 3 (.slice (some ⟨g0, 0, none⟩) 2 2) ([fr, to] : List Int), box bb0 #[iV kd, iV fr, iV to, iV sa, iV sb] 35, box b_a #[.slice a_fv n_fv c_fv, .slice a_fi fi.length c_fi, .slice a_fo fo.length c_fo, .slice a_stp stp.length c_stp, .slice a_pl pl.length c_pl] 54, imm (.slice a_fi fi.length c_fi) fi, imm (.slice a_fo fo.length c_fo) fo, own w.heap.size 35 (.slice a_stp stp.length c_stp) stp, own w.heap.size 4 (.slice a_pl pl.length c_pl) pl] ++ r) := HI.pickT (l := [box bb2 #[iV ((stpO stp sb).elim 0 (·.1)), iV ((stpO stp sb).elim 0 (·.2.1)), iV ((stpO stp sb).elim 0 (·.2.2.1)), iV ((stpO stp sb).elim 0 (·.2.2.2.1)), iV ((stpO stp sb).elim 0 (·.2.2.2.2))] 35, box bb1 #[iV ((stpO stp sa).elim 0 (·.1)), iV ((stpO stp sa).elim 0 (·.2.1)), iV ((stpO stp sa).elim 0 (·.2.2.1)), iV ((stpO stp sa).elim 0 (·.2.2.2.1)), iV ((stpO stp sa).elim 0 (·.2.2.2.2))] 35, own w.heap.size 3 (.slice (some ⟨g0, 0, none⟩) 2 2) ([fr, to] : List Int), box bb0 #[iV kd, iV fr, iV to, iV sa, iV sb] 35, box b_a #[.slice a_fv n_fv c_fv, .slice a_fi fi.length c_fi, .slice a_fo fo.length c_fo, .slice a_stp stp.length c_stp, .slice a_pl pl.length c_pl] 54, imm (.slice a_fi fi.length c_fi) fi, imm (.slice a_fo fo.length c_fo) fo, own w.heap.size 35 (.slice a_stp stp.length c_stp) stp, own w.heap.size 4 (.slice a_pl pl.length c_pl) pl]) (l' := [own w.heap.size 3 (.slice (some ⟨g0, 0, none⟩) 2 2) ([fr, to] : List Int), box bb0 #[iV kd, iV fr, iV to, iV sa, iV sb] 35, box b_a #[.slice a_fv n_fv c_fv, .slice a_fi fi.length c_fi, .slice a_fo fo.length c_fo, .slice a_stp stp.length c_stp, .slice a_pl pl.length c_pl] 54, imm (.slice a_fi fi.length c_fi) fi, imm (.slice a_fo fo.length c_fo) fo, own w.heap.size 35 (.slice a_stp stp.length c_stp) stp, own w.heap.size 4 (.slice a_pl pl.length c_pl) pl]) (t := r) H14 [2, 3, 4, 5, 6, 7, 8] (by decide) rfl rfl
           refine cutN ⟨(decide (((stpO stp sb).elim 0 (·.2.2.1)) = to)), true, i0, rfl, rfl, rfl, H15, (by first | exact g3a ‹_› ‹_› | exact g3b ‹_› ‹_› | exact g3c ‹_› ‹_› ‹_› ‹_› | exact g3d ‹_› ‹_› ‹_› ‹_› ‹_› | exact g3e ‹_› ‹_› ‹_› ‹_› ‹_›), (by first | exact p3a ‹_› ‹_› | exact p3b ‹_› ‹_› | exact p3c ‹_› ‹_› ‹_› ‹_› | exact p3d ‹_› ‹_› ‹_› ‹_› ‹_› | exact p3e ‹_› ‹_› ‹_› ‹_› ‹_› ‹_› | exact p3f ‹_› ‹_› ‹_› ‹_› ‹_› ‹_› ‹_› ‹_› | exact p3g ‹_› ‹_› ‹_› ‹_› ‹_› ‹_› ‹_› ‹_› ‹_›)⟩
         · -- decide (((stpO stp sa).elim 0 (·.2.2.1)) = ((stpO stp sb).el is False
          have p7 := of_decide_eq_false b7
          refine k (gn rfl rfl rfl b7 (k (gn rfl rfl rfl b7 (k (gn rfl rfl rfl b7 (k (gn rfl rfl rfl b7 (k (gn rfl rfl rfl b7 (k (pickF rfl rfl rfl rfl b7 rfl (k (asg (v := .bool false) rfl rfl (z (nx (sq (rg (k (mv (v := .bool false) rfl rfl (z (nx (cdF rfl rfl rfl (sk (inb_normal ?_))))))))))))))))))))))))
          have H15 : HI M w w9 ([own w.heap.size 3 (.slice (some ⟨g0, 0, none⟩) 2 2) ([fr, to] : List Int), box bb0 #[iV kd, iV fr, iV to, iV sa, iV sb] 35, box b_a #[.slice a_fv n_fv c_fv, .slice a_fi fi.length c_fi, .slice a_fo fo.length c_fo, .slice a_stp stp.length c_stp, .slice a_pl pl.length c_pl] 54, imm (.slice a_fi fi.length c_fi) fi, imm (.slice a_fo fo.length c_fo) fo, own w.heap.size 35 (.slice a_stp stp.length c_stp) stp, own w.heap.size 4 (.slice a_pl pl.length c_pl) pl] ++ r) := HI.pickT (l := [box bb2 #[iV ((stpO stp sb).elim 0 (·.1)), iV ((stpO stp sb).elim 0 (·.2.1)), iV ((stpO stp sb).elim 0 (·.2.2.1)), iV ((stpO stp sb).elim 0 (·.2.2.2.1)), iV ((stpO stp sb).elim 0 (·.2.2.2.2))] 35, box bb1 #[iV ((stpO stp sa).elim 0 (·.1)), iV ((stpO stp sa).elim 0 (·.2.1)), iV ((stpO stp sa).elim 0 (·.2.2.1)), iV ((stpO stp sa).elim 0 (·.2.2.2.1)), iV ((stpO stp sa).elim 0 (·.2.2.2.2))] 35, own w.heap.size 3 (.slice (some ⟨g0, 0, none⟩) 2 2) ([fr, to] : List Int), box bb0 #[iV kd, iV fr, iV to, iV sa, iV sb] 35, box b_a #[.slice a_fv n_fv c_fv, .slice a_fi fi.length c_fi, .slice a_fo fo.length c_fo, .slice a_stp stp.length c_stp, .slice a_pl pl.length c_pl] 54, imm (.slice a_fi fi.length c_fi) fi, imm (.slice a_fo fo.length c_fo) fo, own w.heap.size 35 (.slice a_stp stp.length c_stp) stp, own w.heap.size 4 (.slice a_pl pl.length c_pl) pl]) (l' := [own w.heap.size 3 (.slice (some ⟨g0, 0, none⟩) 2 2) ([fr, to] : List Int), box bb0 #[iV kd, iV fr, iV to, iV sa, iV sb] 35, box b_a #[.slice a_fv n_fv c_fv, .slice a_fi fi.length c_fi, .slice a_fo fo.length c_fo, .slice a_stp stp.length c_stp, .slice a_pl pl.length c_pl] 54, imm (.slice a_fi fi.length c_fi) fi, imm (.slice a_fo fo.length c_fo) fo, own w.heap.size 35 (.slice a_stp stp.length c_stp) stp, own w.heap.size 4 (.slice a_pl pl.length c_pl) pl]) (t := r) H14 [2, 3, 4, 5, 6, 7, 8] (by decide) rfl rfl
          refine cutN ⟨false, true, i0, rfl, rfl, rfl, H15, (by first | exact g3a ‹_› ‹_› | exact g3b ‹_› ‹_› | exact g3c ‹_› ‹_› ‹_› ‹_› | exact g3d ‹_› ‹_› ‹_› ‹_› ‹_› | exact g3e ‹_› ‹_› ‹_› ‹_› ‹_›), (by first | exact p3a ‹_› ‹_› | exact p3b ‹_› ‹_› | exact p3c ‹_› ‹_› ‹_› ‹_› | exact p3d ‹_› ‹_› ‹_› ‹_› ‹_› | exact p3e ‹_› ‹_› ‹_› ‹_› ‹_› ‹_› | exact p3f ‹_› ‹_› ‹_› ‹_› ‹_› ‹_› ‹_› ‹_› | exact p3g ‹_› ‹_› ‹_› ‹_› ‹_› ‹_› ‹_› ‹_› ‹_›)⟩
        · -- decide (((stpO stp sa).elim 0 (·.2.1)) = fr) is False
         have p6 := of_decide_eq_false b6
         refine k (gn rfl rfl rfl b6 (k (gn rfl rfl rfl b6 (k (gn rfl rfl rfl b6 (k (gn rfl rfl rfl b6 (k (gn rfl rfl rfl b6 (k (pickF rfl rfl rfl rfl b6 rfl (k (mv (v := .bool false) rfl rfl (k (gn rfl rfl rfl rfl (k (gn rfl rfl rfl rfl (k (gn rfl rfl rfl rfl (k (gn rfl rfl rfl rfl (k (gn rfl rfl rfl rfl (k (pickF rfl rfl rfl rfl rfl rfl (k (asg (v := .bool false) rfl rfl (z (nx (sq (rg (k (mv (v := .bool false) rfl rfl (z (nx (cdF rfl rfl rfl (sk (inb_normal ?_))))))))))))))))))))))))))))))))))))))
         have H15 : HI M w w9 ([own w.heap.size 3 (.slice (some ⟨g0, 0, none⟩) 2 2) ([fr, to] : List Int), box bb0 #[iV kd, iV fr, iV to, iV sa, iV sb] 35, box b_a #[.slice a_fv n_fv c_fv, .slice a_fi fi.length c_fi, .slice a_fo fo.length c_fo, .slice a_stp stp.length c_stp, .slice a_pl pl.length c_pl] 54, imm (.slice a_fi fi.length c_fi) fi, imm (.slice a_fo fo.length c_fo) fo, own w.heap.size 35 (.slice a_stp stp.length c_stp) stp, own w.heap.size 4 (.slice a_pl pl.length c_pl) pl] ++ r) := HI.pickT (l := [box bb2 #[iV ((stpO stp sb).elim 0 (·.1)), iV ((stpO stp sb).elim 0 (·.2.1)), iV ((stpO stp sb).elim 0 (·.2.2.1)), iV ((stpO stp sb).elim 0 (·.2.2.2.1)), iV ((stpO stp sb).elim 0 (·.2.2.2.2))] 35, box bb1 #[iV ((stpO stp sa).elim 0 (·.1)), iV ((stpO stp sa).elim 0 (·.2.1)), iV ((stpO stp sa).elim 0 (·.2.2.1)), iV ((stpO stp sa).elim 0 (·.2.2.2.1)), iV ((stpO stp sa).elim 0 (·.2.2.2.2))] 35, own w.heap.size 3 (.slice (some ⟨g0, 0, none⟩) 2 2) ([fr, to] : List Int), box bb0 #[iV kd, iV fr, iV to, iV sa, iV sb] 35, box b_a #[.slice a_fv n_fv c_fv, .slice a_fi fi.length c_fi, .slice a_fo fo.length c_fo, .slice a_stp stp.length c_stp, .slice a_pl pl.length c_pl] 54, imm (.slice a_fi fi.length c_fi) fi, imm (.slice a_fo fo.length c_fo) fo, own w.heap.size 35 (.slice a_stp stp.length c_stp) stp, own w.heap.size 4 (.slice a_pl pl.length c_pl) pl]) (l' := [own w.heap.size 3 (.slice (some ⟨g0, 0, none⟩) 2 2) ([fr, to] : List Int), box bb0 #[iV kd, iV fr, iV to, iV sa, iV sb] 35, box b_a #[.slice a_fv n_fv c_fv, .slice a_fi fi.length c_fi, .slice a_fo fo.length c_fo, .slice a_stp stp.length c_stp, .slice a_pl pl.length c_pl] 54, imm (.slice a_fi fi.length c_fi) fi, imm (.slice a_fo fo.length c_fo) fo, own w.heap.size 35 (.slice a_stp stp.length c_stp) stp, own w.heap.size 4 (.slice a_pl pl.length c_pl) pl]) (t := r) H14 [2, 3, 4, 5, 6, 7, 8] (by decide) rfl rfl
         refine cutN ⟨false, true, i0, rfl, rfl, rfl, H15, (by first | exact g3a ‹_› ‹_› | exact g3b ‹_› ‹_› | exact g3c ‹_› ‹_› ‹_› ‹_› | exact g3d ‹_› ‹_› ‹_› ‹_› ‹_› | exact g3e ‹_› ‹_› ‹_› ‹_› ‹_›), (by first | exact p3a ‹_› ‹_› | exact p3b ‹_› ‹_› | exact p3c ‹_› ‹_› ‹_› ‹_› | exact p3d ‹_› ‹_› ‹_› ‹_› ‹_› | exact p3e ‹_› ‹_› ‹_› ‹_› ‹_› ‹_› | exact p3f ‹_› ‹_› ‹_› ‹_› ‹_› ‹_› ‹_› ‹_› | exact p3g ‹_› ‹_› ‹_› ‹_› ‹_› ‹_› ‹_› ‹_› ‹_›)⟩
       · -- (stpO stp sb).isSome is False
        refine k (gn rfl rfl rfl b5 (k (gn rfl rfl rfl b5 (k (gn rfl rfl rfl b5 (k (gn rfl rfl rfl b5 (k (gn rfl rfl rfl b5 (k (pickF rfl rfl rfl rfl b5 rfl (k (mv (v := .bool false) rfl rfl (k (gn rfl rfl rfl rfl (k (gn rfl rfl rfl rfl (k (gn rfl rfl rfl rfl (k (gn rfl rfl rfl rfl (k (gn rfl rfl rfl rfl (k (pickF rfl rfl rfl rfl rfl rfl (k (mv (v := .bool false) rfl rfl (k (gn rfl rfl rfl rfl (k (gn rfl rfl rfl rfl (k (gn rfl rfl rfl rfl (k (gn rfl rfl rfl rfl (k (gn rfl rfl rfl rfl (k (pickF rfl rfl rfl rfl rfl rfl (k (asg (v := .bool false) rfl rfl (z (nx (sq (rg (k (mv (v := .bool false) rfl rfl (z (nx (cdF rfl rfl rfl (sk (inb_normal ?_))))))))))))))))))))))))))))))))))))))))))))))))))))
        have H15 : HI M w w9 ([own w.heap.size 3 (.slice (some ⟨g0, 0, none⟩) 2 2) ([fr, to] : List Int), box bb0 #[iV kd, iV fr, iV to, iV sa, iV sb] 35, box b_a #[.slice a_fv n_fv c_fv, .slice a_fi fi.length c_fi, .slice a_fo fo.length c_fo, .slice a_stp stp.length c_stp, .slice a_pl pl.length c_pl] 54, imm (.slice a_fi fi.length c_fi) fi, imm (.slice a_fo fo.length c_fo) fo, own w.heap.size 35 (.slice a_stp stp.length c_stp) stp, own w.heap.size 4 (.slice a_pl pl.length c_pl) pl] ++ r) := HI.pickT (l := [box bb2 #[iV ((stpO stp sb).elim 0 (·.1)), iV ((stpO stp sb).elim 0 (·.2.1)), iV ((stpO stp sb).elim 0 (·.2.2.1)), iV ((stpO stp sb).elim 0 (·.2.2.2.1)), iV ((stpO stp sb).elim 0 (·.2.2.2.2))] 35, box bb1 #[iV ((stpO stp sa).elim 0 (·.1)), iV ((stpO stp sa).elim 0 (·.2.1)), iV ((stpO stp sa).elim 0 (·.2.2.1)), iV ((stpO stp sa).elim 0 (·.2.2.2.1)), iV ((stpO stp sa).elim 0 (·.2.2.2.2))] 35, own w.heap.size 3 (.slice (some ⟨g0, 0, none⟩) 2 2) ([fr, to] : List Int), box bb0 #[iV kd, iV fr, iV to, iV sa, iV sb] 35, box b_a #[.slice a_fv n_fv c_fv, .slice a_fi fi.length c_fi, .slice a_fo fo.length c_fo, .slice a_stp stp.length c_stp, .slice a_pl pl.length c_pl] 54, imm (.slice a_fi fi.length c_fi) fi, imm (.slice a_fo fo.length c_fo) fo, own w.heap.size 35 (.slice a_stp stp.length c_stp) stp, own w.heap.size 4 (.slice a_pl pl.length c_pl) pl]) (l' := [own w.heap.size 3 (.slice (some ⟨g0, 0, none⟩) 2 2) ([fr, to] : List Int), box bb0 #[iV kd, iV fr, iV to, iV sa, iV sb] 35, box b_a #[.slice a_fv n_fv c_fv, .slice a_fi fi.length c_fi, .slice a_fo fo.length c_fo, .slice a_stp stp.length c_stp, .slice a_pl pl.length c_pl] 54, imm (.slice a_fi fi.length c_fi) fi, imm (.slice a_fo fo.length c_fo) fo, own w.heap.size 35 (.slice a_stp stp.length c_stp) stp, own w.heap.size 4 (.slice a_pl pl.length c_pl) pl]) (t := r) H14 [2, 3, 4, 5, 6, 7, 8] (by decide) rfl rfl
        refine cutN ⟨false, true, i0, rfl, rfl, rfl, H15, (by first | exact g3a ‹_› ‹_› | exact g3b ‹_› ‹_› | exact g3c ‹_› ‹_› ‹_› ‹_› | exact g3d ‹_› ‹_› ‹_› ‹_› ‹_› | exact g3e ‹_› ‹_› ‹_› ‹_› ‹_›), (by first | exact p3a ‹_› ‹_› | exact p3b ‹_› ‹_› | exact p3c ‹_› ‹_› ‹_› ‹_› | exact p3d ‹_› ‹_› ‹_› ‹_› ‹_› | exact p3e ‹_› ‹_› ‹_› ‹_› ‹_› ‹_› | exact p3f ‹_› ‹_› ‹_› ‹_› ‹_› ‹_› ‹_› ‹_› | exact p3g ‹_› ‹_› ‹_› ‹_› ‹_› ‹_› ‹_› ‹_› ‹_›)⟩
      · -- (stpO stp sa).isSome is False
       refine k (gn rfl rfl rfl b4 (k (pickF rfl rfl rfl rfl b4 rfl (k (mv (v := .bool false) rfl rfl (k (gn rfl rfl rfl rfl (k (gn rfl rfl rfl rfl (k (gn rfl rfl rfl rfl (k (gn rfl rfl rfl rfl (k (gn rfl rfl rfl rfl (k (pickF rfl rfl rfl rfl rfl rfl (k (mv (v := .bool false) rfl rfl (k (gn rfl rfl rfl rfl (k (gn rfl rfl rfl rfl (k (gn rfl rfl rfl rfl (k (gn rfl rfl rfl rfl (k (gn rfl rfl rfl rfl (k (pickF rfl rfl rfl rfl rfl rfl (k (mv (v := .bool false) rfl rfl (k (gn rfl rfl rfl rfl (k (gn rfl rfl rfl rfl (k (gn rfl rfl rfl rfl (k (gn rfl rfl rfl rfl (k (gn rfl rfl rfl rfl (k (pickF rfl rfl rfl rfl rfl rfl (k (asg (v := .bool false) rfl rfl (z (nx (sq (rg (k (mv (v := .bool false) rfl rfl (z (nx (cdF rfl rfl rfl (sk (inb_normal ?_))))))))))))))))))))))))))))))))))))))))))))))))))))))))))
       have H15 : HI M w w9 ([own w.heap.size 3 (.slice (some ⟨g0, 0, none⟩) 2 2) ([fr, to] : List Int), box bb0 #[iV kd, iV fr, iV to, iV sa, iV sb] 35, box b_a #[.slice a_fv n_fv c_fv, .slice a_fi fi.length c_fi, .slice a_fo fo.length c_fo, .slice a_stp stp.length c_stp, .slice a_pl pl.length c_pl] 54, imm (.slice a_fi fi.length c_fi) fi, imm (.slice a_fo fo.length c_fo) fo, own w.heap.size 35 (.slice a_stp stp.length c_stp) stp, own w.heap.size 4 (.slice a_pl pl.length c_pl) pl] ++ r) := HI.pickT (l := [box bb2 #[iV ((stpO stp sb).elim 0 (·.1)), iV ((stpO stp sb).elim 0 (·.2.1)), iV ((stpO stp sb).elim 0 (·.2.2.1)), iV ((stpO stp sb).elim 0 (·.2.2.2.1)), iV ((stpO stp sb).elim 0 (·.2.2.2.2))] 35, box bb1 #[iV ((stpO stp sa).elim 0 (·.1)), iV ((stpO stp sa).elim 0 (·.2.1)), iV ((stpO stp sa).elim 0 (·.2.2.1)), iV ((stpO stp sa).elim 0 (·.2.2.2.1)), iV ((stpO stp sa).elim 0 (·.2.2.2.2))] 35, own w.heap.size 3 (.slice (some ⟨g0, 0, none⟩) 2 2) ([fr, to] : List Int), box bb0 #[iV kd, iV fr, iV to, iV sa, iV sb] 35, box b_a #[.slice a_fv n_fv c_fv, .slice a_fi fi.length c_fi, .slice a_fo fo.length c_fo, .slice a_stp stp.length c_stp, .slice a_pl pl.length c_pl] 54, imm (.slice a_fi fi.length c_fi) fi, imm (.slice a_fo fo.length c_fo) fo, own w.heap.size 35 (.slice a_stp stp.length c_stp) stp, own w.heap.size 4 (.slice a_pl pl.length c_pl) pl]) (l' := [own w.heap.size 3 (.slice (some ⟨g0, 0, none⟩) 2 2) ([fr, to] : List Int), box bb0 #[iV kd, iV fr, iV to, iV sa, iV sb] 35, box b_a #[.slice a_fv n_fv c_fv, .slice a_fi fi.length c_fi, .slice a_fo fo.length c_fo, .slice a_stp stp.length c_stp, .slice a_pl pl.length c_pl] 54, imm (.slice a_fi fi.length c_fi) fi, imm (.slice a_fo fo.length c_fo) fo, own w.heap.size 35 (.slice a_stp stp.length c_stp) stp, own w.heap.size 4 (.slice a_pl pl.length c_pl) pl]) (t := r) H14 [2, 3, 4, 5, 6, 7, 8] (by decide) rfl rfl
       refine cutN ⟨false, true, i0, rfl, rfl, rfl, H15, (by first | exact g3a ‹_› ‹_› | exact g3b ‹_› ‹_› | exact g3c ‹_› ‹_› ‹_› ‹_› | exact g3d ‹_› ‹_› ‹_› ‹_› ‹_› | exact g3e ‹_› ‹_› ‹_› ‹_› ‹_›), (by first | exact p3a ‹_› ‹_› | exact p3b ‹_› ‹_› | exact p3c ‹_› ‹_› ‹_› ‹_› | exact p3d ‹_› ‹_› ‹_› ‹_› ‹_› | exact p3e ‹_› ‹_› ‹_› ‹_› ‹_› ‹_› | exact p3f ‹_› ‹_› ‹_› ‹_› ‹_› ‹_› ‹_› ‹_› | exact p3g ‹_› ‹_› ‹_› ‹_› ‹_› ‹_› ‹_› ‹_› ‹_›)⟩
     ·
      have p3 := of_decide_eq_false b3
      refine sq (rg (k (eql rfl rfl rfl rfl (k (asg (v := .bool (decide (kd = 4))) rfl rfl (z (nx ?_)))))))
      refine cd (b := decide (kd = 4)) rfl rfl (fun b4 => ?_) (fun b4 => ?_)
      ·
       have p4 := of_decide_eq_true b4
       refine sq ?_
       rcases Bool.eq_false_or_eq_true (!(([sb] : List Int).any (outO fi))) with b5 | b5
       · -- !(([sb] : List Int).any (outO fi)) is True
        obtain ⟨x0, hx0⟩ : ∃ x, fo[sb.toNat]? = some x := ⟨_, List.getElem?_eq_getElem (by (first | (have h_ := op1_rng (fi := fi) (sb := sb) (by assumption); omega) | (have h_ := stpO_rng (pre := stp) (sa := sb) (by assumption); omega)))⟩
        rcases Bool.eq_false_or_eq_true (decide (x0 = to)) with b6 | b6
        · -- decide (x0 = to) is True
         have p6 := of_decide_eq_true b6
         rcases Bool.eq_false_or_eq_true (otherO fi fr to) with b7 | b7
         · -- otherO fi fr to is True
          refine dr 35 [eV (pV b_a 0), eV (pV bb0 4), eV (iV sb), fun (v : Value) (w' : World) => ∃ (a3 : Option Addr) (c3 : Nat), v = .slice a3 ([sb] : List Int).length c3 ∧ RV (MS M ([own w.heap.size 3 (.slice (some ⟨g0, 0, none⟩) 2 2) ([fr, to] : List Int), box bb0 #[iV kd, iV fr, iV to, iV sa, iV sb] 35, box b_a #[.slice a_fv n_fv c_fv, .slice a_fi fi.length c_fi, .slice a_fo fo.length c_fo, .slice a_stp stp.length c_stp, .slice a_pl pl.length c_pl] 54, imm (.slice a_fi fi.length c_fi) fi, imm (.slice a_fo fo.length c_fo) fo, own w.heap.size 35 (.slice a_stp stp.length c_stp) stp, own w.heap.size 4 (.slice a_pl pl.length c_pl) pl] ++ r)) w' (.slice a3 ([sb] : List Int).length c3) ([sb] : List Int), eV (.bool (!(([sb] : List Int).any (outO fi)))), eV (.bool (!(([sb] : List Int).any (outO fi)))), eV (pV b_a 0), eV (pV b_a 0), eV (pV b_a 0), eV (pV b_a 2), eV (.slice a_fo fo.length c_fo), eV (pV bb0 4), eV (iV sb), fun (v : Value) (w' : World) => ∃ (ad2 : Addr), v = .pointer (some ad2) ∧ At (MS M ([own w.heap.size 3 (.slice (some ⟨g0, 0, none⟩) 2 2) ([fr, to] : List Int), box bb0 #[iV kd, iV fr, iV to, iV sa, iV sb] 35, box b_a #[.slice a_fv n_fv c_fv, .slice a_fi fi.length c_fi, .slice a_fo fo.length c_fo, .slice a_stp stp.length c_stp, .slice a_pl pl.length c_pl] 54, imm (.slice a_fi fi.length c_fi) fi, imm (.slice a_fo fo.length c_fo) fo, own w.heap.size 35 (.slice a_stp stp.length c_stp) stp, own w.heap.size 4 (.slice a_pl pl.length c_pl) pl] ++ r)) w' ad2 x0, fun (v : Value) (w' : World) => v = iV x0 ∧ I64 (x0), eV (pV bb0 2), eV (iV to), eV (.bool (decide (x0 = to))), eV (.bool (decide (x0 = to))), eV (.bool (decide (x0 = to))), eV (pV b_a 0), eV (pV bb0 1), eV (iV fr), eV (pV bb0 2), eV (iV to), eV (.bool (otherO fi fr to)), eV (.bool (otherO fi fr to)), eV (.bool (otherO fi fr to)), eV (pV b_a 0), eV (pV bb0 3), eV (iV sa), eV (pV bb0 1), eV (iV fr), eV (pV bb0 4), eV (iV sb)] rfl (by kernel_rfl) ?_ ?_
          ·
           refine dc (fun _ _ hf0 _ _ => mv rfl ((hf0 0 rfl).trans i0) (d0 rfl rfl)) ?_
           refine dc (fun _ _ hf1 _ _ => fa fl35_4 rfl (hf1 3 rfl) (d0 rfl rfl)) ?_
           refine dc (fun _ _ _ xt15 hp2 => ldX (H4.ext xt15) 1 rfl ty3 rfl (hp2 1 rfl rfl) (by decide) rfl (d0 rfl rfl)) ?_
           refine ⟨fun _ => ⟨fun f4 w17 hf3 xt16 hp3 => ?_, by rintro _ _ _ x_ ⟨a3, c3, e_, rv5⟩; exact ⟨a3, c3, e_, rv5.lift (Up.ext x_)⟩⟩, ?_⟩
           ·
            have H22 := H4.ext xt16
            have s1 : f4 130 = iV sb := hp3 2 rfl rfl
            refine bs (xs := ([sb] : List Int)) (cells := #[iV sb]) (e := 3) H22 rfl (pbc s1 pb0) (fun _ => by kernel_rfl) ⟨[iV sb], [], rfl, ⟨rfl, (show I64 (sb) from (by first | assumption | (unfold I64 at *; omega)))⟩, rfl⟩ rfl (by unfold maxLen; omega) ?_
            intro g5 w18 xt17 (H23 : HI M w w18 ([own w.heap.size 3 (.slice (some ⟨g5, 0, none⟩) 1 1) ([sb] : List Int), own w.heap.size 3 (.slice (some ⟨g0, 0, none⟩) 2 2) ([fr, to] : List Int), box bb0 #[iV kd, iV fr, iV to, iV sa, iV sb] 35, box b_a #[.slice a_fv n_fv c_fv, .slice a_fi fi.length c_fi, .slice a_fo fo.length c_fo, .slice a_stp stp.length c_stp, .slice a_pl pl.length c_pl] 54, imm (.slice a_fi fi.length c_fi) fi, imm (.slice a_fo fo.length c_fo) fo, own w.heap.size 35 (.slice a_stp stp.length c_stp) stp, own w.heap.size 4 (.slice a_pl pl.length c_pl) pl] ++ r))
            have H24 := H23.freeze 0 rfl
            exact ⟨_, rfl, xt17, ⟨(some ⟨g5, 0, none⟩), 1, rfl, (rv_drop rfl (H24.rv 0 rfl))⟩⟩
           refine dc (fun f5 w19 hf4 xt18 hp4 => ?_) ?_
           ·
            have H25 := H4.ext xt18
            have s2 : f5 128 = pV b_a 0 := hp4 0 rfl rfl
            obtain ⟨a4, c4, s3, rv7⟩ : ∃ (a4 : Option Addr) (c4 : Nat), f5 131 = .slice a4 ([sb] : List Int).length c4 ∧ RV (MS M ([own w.heap.size 3 (.slice (some ⟨g0, 0, none⟩) 2 2) ([fr, to] : List Int), box bb0 #[iV kd, iV fr, iV to, iV sa, iV sb] 35, box b_a #[.slice a_fv n_fv c_fv, .slice a_fi fi.length c_fi, .slice a_fo fo.length c_fo, .slice a_stp stp.length c_stp, .slice a_pl pl.length c_pl] 54, imm (.slice a_fi fi.length c_fi) fi, imm (.slice a_fo fo.length c_fo) fo, own w.heap.size 35 (.slice a_stp stp.length c_stp) stp, own w.heap.size 4 (.slice a_pl pl.length c_pl) pl] ++ r)) w19 (.slice a4 ([sb] : List Int).length c4) ([sb] : List Int) := hp4 3 rfl rfl
            have H26 := H25.put (it := imm (.slice a4 ([sb] : List Int).length c4) ([sb] : List Int)) rfl rv7
            have H27 : HI M w w19 ([imm (.slice a4 ([sb] : List Int).length c4) ([sb] : List Int), own w.heap.size 3 (.slice (some ⟨g0, 0, none⟩) 2 2) ([fr, to] : List Int), box bb0 #[iV kd, iV fr, iV to, iV sa, iV sb] 35, box b_a #[.slice a_fv n_fv c_fv, .slice a_fi fi.length c_fi, .slice a_fo fo.length c_fo, .slice a_stp stp.length c_stp, .slice a_pl pl.length c_pl] 54, imm (.slice a_fi fi.length c_fi) fi, imm (.slice a_fo fo.length c_fo) fo, own w.heap.size 35 (.slice a_stp stp.length c_stp) stp, own w.heap.size 4 (.slice a_pl pl.length c_pl) pl] ++ r) := H26
            have cc7 := aud_op (fi := fi) (l := ([sb] : List Int)) (a_fv := a_fv) (n_fv := n_fv) (c_fv := c_fv) (a_fo := a_fo) (n_fo := fo.length) (c_fo := c_fo) (a_stp := a_stp) (n_stp := stp.length) (c_stp := c_stp) (a_pl := a_pl) (n_pl := pl.length) (c_pl := c_pl) (w := w19) (M := fun _ => False) (fun _ h_ => h_.elim) ((H27.rv 4 rfl).lift (Up.less fun _ _ h_ => h_.elim)) ((H27.rv 0 rfl).lift (Up.less fun _ _ h_ => h_.elim)) ⟨H27.at_ 3 rfl, fun h_ => h_⟩
            refine ca go28 rfl (ec s2 (ec s3 e0)) cc7 ?_
            rintro _ w20 ⟨rfl, xt19⟩
            exact ⟨_, rfl, xt19, rfl⟩
           refine dc (fun _ _ _ _ hp5 => mv rfl (hp5 4 rfl rfl) (d0 rfl rfl)) ?_
           refine dc (fun f7 w22 hf6 xt21 hp6 => ?_) ?_
           ·
            have s5 : f7 133 = .bool (!(([sb] : List Int).any (outO fi))) := hp6 5 rfl rfl
            refine gy rfl rfl s5 b5 (mv rfl ((hf6 0 rfl).trans i0) ?_)
            exact ⟨_, rfl, Ext.refl _, rfl⟩
           refine dc (fun f8 w23 hf7 xt22 hp7 => ?_) ?_
           ·
            have s6 : f8 133 = .bool (!(([sb] : List Int).any (outO fi))) := hp7 5 rfl rfl
            have s7 : f8 134 = pV b_a 0 := hp7 6 rfl rfl
            refine gy rfl rfl s6 b5 (nc rfl s7 ?_)
            exact ⟨_, rfl, Ext.refl _, rfl⟩
           refine dc (fun f9 w24 hf8 xt23 hp8 => ?_) ?_
           ·
            have s8 : f9 133 = .bool (!(([sb] : List Int).any (outO fi))) := hp8 5 rfl rfl
            have s9 : f9 135 = pV b_a 0 := hp8 7 rfl rfl
            refine gy rfl rfl s8 b5 (fa fl54_0 rfl s9 ?_)
            exact ⟨_, rfl, Ext.refl _, rfl⟩
           refine dc (fun f10 w25 hf9 xt24 hp9 => ?_) ?_
           ·
            have s10 : f10 133 = .bool (!(([sb] : List Int).any (outO fi))) := hp9 5 rfl rfl
            have s11 : f10 136 = pV b_a 0 := hp9 8 rfl rfl
            refine gy rfl rfl s10 b5 (fa fl30_2 rfl s11 ?_)
            exact ⟨_, rfl, Ext.refl _, rfl⟩
           refine dc (fun f11 w26 hf10 xt25 hp10 => ?_) ?_
           ·
            have H34 := H4.ext xt25
            have s12 : f11 133 = .bool (!(([sb] : List Int).any (outO fi))) := hp10 5 rfl rfl
            have s13 : f11 137 = pV b_a 2 := hp10 9 rfl rfl
            refine gy rfl rfl s12 b5 (ldX H34 2 rfl ty28 rfl s13 (by decide) rfl ?_)
            exact ⟨_, rfl, Ext.refl _, rfl⟩
           refine dc (fun f12 w27 hf11 xt26 hp11 => ?_) ?_
           ·
            have s14 : f12 133 = .bool (!(([sb] : List Int).any (outO fi))) := hp11 5 rfl rfl
            refine gy rfl rfl s14 b5 (fa fl35_4 rfl (hf11 3 rfl) ?_)
            exact ⟨_, rfl, Ext.refl _, rfl⟩
           refine dc (fun f13 w28 hf12 xt27 hp12 => ?_) ?_
           ·
            have H36 := H4.ext xt27
            have s15 : f13 133 = .bool (!(([sb] : List Int).any (outO fi))) := hp12 5 rfl rfl
            have s16 : f13 139 = pV bb0 4 := hp12 11 rfl rfl
            refine gy rfl rfl s15 b5 (ldX H36 1 rfl ty3 rfl s16 (by decide) rfl ?_)
            exact ⟨_, rfl, Ext.refl _, rfl⟩
           refine ⟨fun _ => ⟨fun f14 w29 hf13 xt28 hp13 => ?_, by rintro _ _ _ x_ ⟨ad2, e_, hA2⟩; exact ⟨ad2, e_, hA2.lift (Up.ext x_)⟩⟩, ?_⟩
           ·
            have H37 := H4.ext xt28
            have s17 : f14 133 = .bool (!(([sb] : List Int).any (outO fi))) := hp13 5 rfl rfl
            have s18 : f14 138 = .slice a_fo fo.length c_fo := hp13 10 rfl rfl
            have s19 : f14 140 = iV sb := hp13 12 rfl rfl
            refine gy rfl rfl s17 b5 (ia (H37.rv 4 rfl) rfl rfl s18 s19 (by (first | (have h_ := op1_rng (fi := fi) (sb := sb) (by assumption); omega) | (have h_ := stpO_rng (pre := stp) (sa := sb) (by assumption); omega))) un28 ty3 ?_)
            intro ad3 x3 hx3 hA3
            obtain rfl : x0 = x3 := Option.some.inj (hx0.symm.trans hx3)
            exact ⟨_, rfl, Ext.refl _, ⟨ad3, rfl, hA3⟩⟩
           refine dc (fun f15 w30 hf14 xt29 hp14 => ?_) ?_
           ·
            have H38 := H4.ext xt29
            have s20 : f15 133 = .bool (!(([sb] : List Int).any (outO fi))) := hp14 5 rfl rfl
            obtain ⟨ad4, s21, hA4⟩ : ∃ (ad4 : Addr), f15 141 = .pointer (some ad4) ∧ At (MS M ([own w.heap.size 3 (.slice (some ⟨g0, 0, none⟩) 2 2) ([fr, to] : List Int), box bb0 #[iV kd, iV fr, iV to, iV sa, iV sb] 35, box b_a #[.slice a_fv n_fv c_fv, .slice a_fi fi.length c_fi, .slice a_fo fo.length c_fo, .slice a_stp stp.length c_stp, .slice a_pl pl.length c_pl] 54, imm (.slice a_fi fi.length c_fi) fi, imm (.slice a_fo fo.length c_fo) fo, own w.heap.size 35 (.slice a_stp stp.length c_stp) stp, own w.heap.size 4 (.slice a_pl pl.length c_pl) pl] ++ r)) w30 ad4 x0 := hp14 13 rfl rfl
            have H39 := H38.put (it := atI ad4 x0) rfl hA4
            have H40 : HI M w w30 ([atI ad4 x0, own w.heap.size 3 (.slice (some ⟨g0, 0, none⟩) 2 2) ([fr, to] : List Int), box bb0 #[iV kd, iV fr, iV to, iV sa, iV sb] 35, box b_a #[.slice a_fv n_fv c_fv, .slice a_fi fi.length c_fi, .slice a_fo fo.length c_fo, .slice a_stp stp.length c_stp, .slice a_pl pl.length c_pl] 54, imm (.slice a_fi fi.length c_fi) fi, imm (.slice a_fo fo.length c_fo) fo, own w.heap.size 35 (.slice a_stp stp.length c_stp) stp, own w.heap.size 4 (.slice a_pl pl.length c_pl) pl] ++ r) := H39
            refine gy rfl rfl s20 b5 (ldI (H40.atv 0 rfl).w ty3 rfl s21 ?_)
            intro rv8
            exact ⟨_, rfl, Ext.refl _, ⟨rfl, rv8⟩⟩
           refine dc (fun f16 w31 hf15 xt30 hp15 => ?_) ?_
           ·
            have s22 : f16 133 = .bool (!(([sb] : List Int).any (outO fi))) := hp15 5 rfl rfl
            refine gy rfl rfl s22 b5 (fa fl35_2 rfl (hf15 3 rfl) ?_)
            exact ⟨_, rfl, Ext.refl _, rfl⟩
           refine dc (fun f17 w32 hf16 xt31 hp16 => ?_) ?_
           ·
            have H42 := H4.ext xt31
            have s23 : f17 133 = .bool (!(([sb] : List Int).any (outO fi))) := hp16 5 rfl rfl
            have s24 : f17 143 = pV bb0 2 := hp16 15 rfl rfl
            refine gy rfl rfl s23 b5 (ldX H42 1 rfl ty3 rfl s24 (by decide) rfl ?_)
            exact ⟨_, rfl, Ext.refl _, rfl⟩
           refine dc (fun f18 w33 hf17 xt32 hp17 => ?_) ?_
           ·
            have s25 : f18 133 = .bool (!(([sb] : List Int).any (outO fi))) := hp17 5 rfl rfl
            obtain ⟨s26, rv9⟩ : f18 142 = iV x0 ∧ I64 (x0) := hp17 14 rfl rfl
            have s27 : f18 144 = iV to := hp17 16 rfl rfl
            refine gy rfl rfl s25 b5 (eql rfl rfl s26 s27 ?_)
            exact ⟨_, rfl, Ext.refl _, rfl⟩
           refine dc (fun _ _ _ _ hp18 => pickT rfl rfl rfl (hp18 5 rfl rfl) b5 (hp18 17 rfl rfl) (d0 rfl rfl)) ?_
           refine dc (fun _ _ _ _ hp19 => mv rfl (hp19 18 rfl rfl) (d0 rfl rfl)) ?_
           refine dc (fun f21 w36 hf20 xt35 hp20 => ?_) ?_
           ·
            have s31 : f21 147 = .bool (decide (x0 = to)) := hp20 19 rfl rfl
            refine gy rfl rfl s31 b6 (mv rfl ((hf20 0 rfl).trans i0) ?_)
            exact ⟨_, rfl, Ext.refl _, rfl⟩
           refine dc (fun f22 w37 hf21 xt36 hp21 => ?_) ?_
           ·
            have s32 : f22 147 = .bool (decide (x0 = to)) := hp21 19 rfl rfl
            refine gy rfl rfl s32 b6 (fa fl35_1 rfl (hf21 3 rfl) ?_)
            exact ⟨_, rfl, Ext.refl _, rfl⟩
           refine dc (fun f23 w38 hf22 xt37 hp22 => ?_) ?_
           ·
            have H48 := H4.ext xt37
            have s33 : f23 147 = .bool (decide (x0 = to)) := hp22 19 rfl rfl
            have s34 : f23 149 = pV bb0 1 := hp22 21 rfl rfl
            refine gy rfl rfl s33 b6 (ldX H48 1 rfl ty3 rfl s34 (by decide) rfl ?_)
            exact ⟨_, rfl, Ext.refl _, rfl⟩
           refine dc (fun f24 w39 hf23 xt38 hp23 => ?_) ?_
           ·
            have s35 : f24 147 = .bool (decide (x0 = to)) := hp23 19 rfl rfl
            refine gy rfl rfl s35 b6 (fa fl35_2 rfl (hf23 3 rfl) ?_)
            exact ⟨_, rfl, Ext.refl _, rfl⟩
           refine dc (fun f25 w40 hf24 xt39 hp24 => ?_) ?_
           ·
            have H50 := H4.ext xt39
            have s36 : f25 147 = .bool (decide (x0 = to)) := hp24 19 rfl rfl
            have s37 : f25 151 = pV bb0 2 := hp24 23 rfl rfl
            refine gy rfl rfl s36 b6 (ldX H50 1 rfl ty3 rfl s37 (by decide) rfl ?_)
            exact ⟨_, rfl, Ext.refl _, rfl⟩
           refine dc (fun f26 w41 hf25 xt40 hp25 => ?_) ?_
           ·
            have H51 := H4.ext xt40
            have s38 : f26 147 = .bool (decide (x0 = to)) := hp25 19 rfl rfl
            have s39 : f26 148 = pV b_a 0 := hp25 20 rfl rfl
            have s40 : f26 150 = iV fr := hp25 22 rfl rfl
            have s41 : f26 152 = iV to := hp25 24 rfl rfl
            refine gy rfl rfl s38 b6 ?_
            have cc8 := aud_other (fi := fi) (n1 := fr) (n2 := to) (a_fv := a_fv) (n_fv := n_fv) (c_fv := c_fv) (a_fo := a_fo) (n_fo := fo.length) (c_fo := c_fo) (a_stp := a_stp) (n_stp := stp.length) (c_stp := c_stp) (a_pl := a_pl) (n_pl := pl.length) (c_pl := c_pl) (w := w41) (M := fun _ => False) (fun _ h_ => h_.elim) ((H51.rv 3 rfl).lift (Up.less fun _ _ h_ => h_.elim)) (by first | assumption | (unfold I64 at *; omega)) (by first | assumption | (unfold I64 at *; omega)) ⟨H51.at_ 2 rfl, fun h_ => h_⟩ (by first | omega | (simp; omega)) (by first | omega | (simp; omega))
            refine ca go32 rfl (ec s39 (ec s40 (ec s41 e0))) cc8 ?_
            rintro _ w42 ⟨rfl, xt41⟩
            exact ⟨_, rfl, xt41, rfl⟩
           refine dc (fun _ _ _ _ hp26 => pickT rfl rfl rfl (hp26 19 rfl rfl) b6 (hp26 25 rfl rfl) (d0 rfl rfl)) ?_
           refine dc (fun _ _ _ _ hp27 => mv rfl (hp27 26 rfl rfl) (d0 rfl rfl)) ?_
           refine dc (fun f29 w45 hf28 xt44 hp28 => ?_) ?_
           ·
            have s45 : f29 155 = .bool (otherO fi fr to) := hp28 27 rfl rfl
            refine gy rfl rfl s45 b7 (mv rfl ((hf28 0 rfl).trans i0) ?_)
            exact ⟨_, rfl, Ext.refl _, rfl⟩
           refine dc (fun f30 w46 hf29 xt45 hp29 => ?_) ?_
           ·
            have s46 : f30 155 = .bool (otherO fi fr to) := hp29 27 rfl rfl
            refine gy rfl rfl s46 b7 (fa fl35_3 rfl (hf29 3 rfl) ?_)
            exact ⟨_, rfl, Ext.refl _, rfl⟩
           refine dc (fun f31 w47 hf30 xt46 hp30 => ?_) ?_
           ·
            have H57 := H4.ext xt46
            have s47 : f31 155 = .bool (otherO fi fr to) := hp30 27 rfl rfl
            have s48 : f31 157 = pV bb0 3 := hp30 29 rfl rfl
            refine gy rfl rfl s47 b7 (ldX H57 1 rfl ty3 rfl s48 (by decide) rfl ?_)
            exact ⟨_, rfl, Ext.refl _, rfl⟩
           refine dc (fun f32 w48 hf31 xt47 hp31 => ?_) ?_
           ·
            have s49 : f32 155 = .bool (otherO fi fr to) := hp31 27 rfl rfl
            refine gy rfl rfl s49 b7 (fa fl35_1 rfl (hf31 3 rfl) ?_)
            exact ⟨_, rfl, Ext.refl _, rfl⟩
           refine dc (fun f33 w49 hf32 xt48 hp32 => ?_) ?_
           ·
            have H59 := H4.ext xt48
            have s50 : f33 155 = .bool (otherO fi fr to) := hp32 27 rfl rfl
            have s51 : f33 159 = pV bb0 1 := hp32 31 rfl rfl
            refine gy rfl rfl s50 b7 (ldX H59 1 rfl ty3 rfl s51 (by decide) rfl ?_)
            exact ⟨_, rfl, Ext.refl _, rfl⟩
           refine dc (fun f34 w50 hf33 xt49 hp33 => ?_) ?_
           ·
            have s52 : f34 155 = .bool (otherO fi fr to) := hp33 27 rfl rfl
            refine gy rfl rfl s52 b7 (fa fl35_4 rfl (hf33 3 rfl) ?_)
            exact ⟨_, rfl, Ext.refl _, rfl⟩
           refine dc (fun f35 w51 hf34 xt50 hp34 => ?_) ?_
           ·
            have H61 := H4.ext xt50
            have s53 : f35 155 = .bool (otherO fi fr to) := hp34 27 rfl rfl
            have s54 : f35 161 = pV bb0 4 := hp34 33 rfl rfl
            refine gy rfl rfl s53 b7 (ldX H61 1 rfl ty3 rfl s54 (by decide) rfl ?_)
            exact ⟨_, rfl, Ext.refl _, rfl⟩
           exact DSteps.rest rfl _
          ·
           intro f36 w52 hf35 xt51 hp35
           have H62 := H4.ext xt51
           have s55 : f36 0 = pV b_a 0 := (hf35 0 rfl).trans i0
           have s56 : f36 3 = pV bb0 0 := hf35 3 rfl
           have s57 : f36 155 = .bool (otherO fi fr to) := hp35 27 rfl
           have s58 : f36 156 = pV b_a 0 := hp35 28 rfl
           have s59 : f36 158 = iV sa := hp35 30 rfl
           have s60 : f36 160 = iV fr := hp35 32 rfl
           have s61 : f36 162 = iV sb := hp35 34 rfl
           refine k (gy rfl rfl s57 b7 ?_)
           have H63 := H62.freeze 5 rfl
           have H64 : HI M w w52 ([own w.heap.size 3 (.slice (some ⟨g0, 0, none⟩) 2 2) ([fr, to] : List Int), box bb0 #[iV kd, iV fr, iV to, iV sa, iV sb] 35, box b_a #[.slice a_fv n_fv c_fv, .slice a_fi fi.length c_fi, .slice a_fo fo.length c_fo, .slice a_stp stp.length c_stp, .slice a_pl pl.length c_pl] 54, imm (.slice a_fi fi.length c_fi) fi, imm (.slice a_fo fo.length c_fo) fo, imm (.slice a_stp stp.length c_stp) stp, own w.heap.size 4 (.slice a_pl pl.length c_pl) pl] ++ r) := H63
           have cc9 := aud_says (stp := stp) (n1 := sa) (n2 := fr) (n3 := sb) (a_fv := a_fv) (n_fv := n_fv) (c_fv := c_fv) (a_fi := a_fi) (n_fi := fi.length) (c_fi := c_fi) (a_fo := a_fo) (n_fo := fo.length) (c_fo := c_fo) (a_pl := a_pl) (n_pl := pl.length) (c_pl := c_pl) (w := w52) (M := fun _ => False) (fun _ h_ => h_.elim) ((H64.rv 5 rfl).lift (Up.less fun _ _ h_ => h_.elim)) (by first | assumption | (unfold I64 at *; omega)) (by first | assumption | (unfold I64 at *; omega)) (by first | assumption | (unfold I64 at *; omega)) ⟨H64.at_ 2 rfl, fun h_ => h_⟩
           refine ca go30 rfl (ec s58 (ec s59 (ec s60 (ec s61 e0)))) cc9 ?_
           rintro _ w53 ⟨rfl, xt52⟩
           have H65 := H62.ext xt52
           refine k (pickT rfl rfl rfl s57 b7 rfl (k (asg (v := .bool (saysO stp sa fr sb)) rfl rfl (z (nx (rg (k (asg (v := .bool false) rfl rfl (z (inb_normal ?_))))))))))
           refine cutN ⟨(saysO stp sa fr sb), false, s55, s56, rfl, rfl, H65, (by first | exact g4a ‹_› ‹_› | exact g4b ‹_› ‹_› ‹_› ‹_› | exact g4c ‹_› ‹_› ‹_› ‹_› ‹_› | exact g4d ‹_› ‹_› ‹_› ‹_› ‹_›), (by first | exact p_4 ‹_›)⟩
         · -- otherO fi fr to is False
          refine dr 35 [eV (pV b_a 0), eV (pV bb0 4), eV (iV sb), fun (v : Value) (w' : World) => ∃ (a3 : Option Addr) (c3 : Nat), v = .slice a3 ([sb] : List Int).length c3 ∧ RV (MS M ([own w.heap.size 3 (.slice (some ⟨g0, 0, none⟩) 2 2) ([fr, to] : List Int), box bb0 #[iV kd, iV fr, iV to, iV sa, iV sb] 35, box b_a #[.slice a_fv n_fv c_fv, .slice a_fi fi.length c_fi, .slice a_fo fo.length c_fo, .slice a_stp stp.length c_stp, .slice a_pl pl.length c_pl] 54, imm (.slice a_fi fi.length c_fi) fi, imm (.slice a_fo fo.length c_fo) fo, own w.heap.size 35 (.slice a_stp stp.length c_stp) stp, own w.heap.size 4 (.slice a_pl pl.length c_pl) pl] ++ r)) w' (.slice a3 ([sb] : List Int).length c3) ([sb] : List Int), eV (.bool (!(([sb] : List Int).any (outO fi)))), eV (.bool (!(([sb] : List Int).any (outO fi)))), eV (pV b_a 0), eV (pV b_a 0), eV (pV b_a 0), eV (pV b_a 2), eV (.slice a_fo fo.length c_fo), eV (pV bb0 4), eV (iV sb), fun (v : Value) (w' : World) => ∃ (ad2 : Addr), v = .pointer (some ad2) ∧ At (MS M ([own w.heap.size 3 (.slice (some ⟨g0, 0, none⟩) 2 2) ([fr, to] : List Int), box bb0 #[iV kd, iV fr, iV to, iV sa, iV sb] 35, box b_a #[.slice a_fv n_fv c_fv, .slice a_fi fi.length c_fi, .slice a_fo fo.length c_fo, .slice a_stp stp.length c_stp, .slice a_pl pl.length c_pl] 54, imm (.slice a_fi fi.length c_fi) fi, imm (.slice a_fo fo.length c_fo) fo, own w.heap.size 35 (.slice a_stp stp.length c_stp) stp, own w.heap.size 4 (.slice a_pl pl.length c_pl) pl] ++ r)) w' ad2 x0, fun (v : Value) (w' : World) => v = iV x0 ∧ I64 (x0), eV (pV bb0 2), eV (iV to), eV (.bool (decide (x0 = to))), eV (.bool (decide (x0 = to))), eV (.bool (decide (x0 = to))), eV (pV b_a 0), eV (pV bb0 1), eV (iV fr), eV (pV bb0 2), eV (iV to), eV (.bool (otherO fi fr to)), eV (.bool (otherO fi fr to)), eV (.bool (otherO fi fr to)), eV undef, eV undef, eV undef, eV undef, eV undef, eV undef, eV undef] rfl (by kernel_rfl) ?_ ?_
          ·
           refine dc (fun _ _ hf0 _ _ => mv rfl ((hf0 0 rfl).trans i0) (d0 rfl rfl)) ?_
           refine dc (fun _ _ hf1 _ _ => fa fl35_4 rfl (hf1 3 rfl) (d0 rfl rfl)) ?_
           refine dc (fun _ _ _ xt15 hp2 => ldX (H4.ext xt15) 1 rfl ty3 rfl (hp2 1 rfl rfl) (by decide) rfl (d0 rfl rfl)) ?_
           refine ⟨fun _ => ⟨fun f4 w17 hf3 xt16 hp3 => ?_, by rintro _ _ _ x_ ⟨a3, c3, e_, rv5⟩; exact ⟨a3, c3, e_, rv5.lift (Up.ext x_)⟩⟩, ?_⟩
           ·
            have H22 := H4.ext xt16
            have s1 : f4 130 = iV sb := hp3 2 rfl rfl
            refine bs (xs := ([sb] : List Int)) (cells := #[iV sb]) (e := 3) H22 rfl (pbc s1 pb0) (fun _ => by kernel_rfl) ⟨[iV sb], [], rfl, ⟨rfl, (show I64 (sb) from (by first | assumption | (unfold I64 at *; omega)))⟩, rfl⟩ rfl (by unfold maxLen; omega) ?_
            intro g5 w18 xt17 (H23 : HI M w w18 ([own w.heap.size 3 (.slice (some ⟨g5, 0, none⟩) 1 1) ([sb] : List Int), own w.heap.size 3 (.slice (some ⟨g0, 0, none⟩) 2 2) ([fr, to] : List Int), box bb0 #[iV kd, iV fr, iV to, iV sa, iV sb] 35, box b_a #[.slice a_fv n_fv c_fv, .slice a_fi fi.length c_fi, .slice a_fo fo.length c_fo, .slice a_stp stp.length c_stp, .slice a_pl pl.length c_pl] 54, imm (.slice a_fi fi.length c_fi) fi, imm (.slice a_fo fo.length c_fo) fo, own w.heap.size 35 (.slice a_stp stp.length c_stp) stp, own w.heap.size 4 (.slice a_pl pl.length c_pl) pl] ++ r))
            have H24 := H23.freeze 0 rfl
            exact ⟨_, rfl, xt17, ⟨(some ⟨g5, 0, none⟩), 1, rfl, (rv_drop rfl (H24.rv 0 rfl))⟩⟩
           refine dc (fun f5 w19 hf4 xt18 hp4 => ?_) ?_
           ·
            have H25 := H4.ext xt18
            have s2 : f5 128 = pV b_a 0 := hp4 0 rfl rfl
            obtain ⟨a4, c4, s3, rv7⟩ : ∃ (a4 : Option Addr) (c4 : Nat), f5 131 = .slice a4 ([sb] : List Int).length c4 ∧ RV (MS M ([own w.heap.size 3 (.slice (some ⟨g0, 0, none⟩) 2 2) ([fr, to] : List Int), box bb0 #[iV kd, iV fr, iV to, iV sa, iV sb] 35, box b_a #[.slice a_fv n_fv c_fv, .slice a_fi fi.length c_fi, .slice a_fo fo.length c_fo, .slice a_stp stp.length c_stp, .slice a_pl pl.length c_pl] 54, imm (.slice a_fi fi.length c_fi) fi, imm (.slice a_fo fo.length c_fo) fo, own w.heap.size 35 (.slice a_stp stp.length c_stp) stp, own w.heap.size 4 (.slice a_pl pl.length c_pl) pl] ++ r)) w19 (.slice a4 ([sb] : List Int).length c4) ([sb] : List Int) := hp4 3 rfl rfl
            have H26 := H25.put (it := imm (.slice a4 ([sb] : List Int).length c4) ([sb] : List Int)) rfl rv7
            have H27 : HI M w w19 ([imm (.slice a4 ([sb] : List Int).length c4) ([sb] : List Int), own w.heap.size 3 (.slice (some ⟨g0, 0, none⟩) 2 2) ([fr, to] : List Int), box bb0 #[iV kd, iV fr, iV to, iV sa, iV sb] 35, box b_a #[.slice a_fv n_fv c_fv, .slice a_fi fi.length c_fi, .slice a_fo fo.length c_fo, .slice a_stp stp.length c_stp, .slice a_pl pl.length c_pl] 54, imm (.slice a_fi fi.length c_fi) fi, imm (.slice a_fo fo.length c_fo) fo, own w.heap.size 35 (.slice a_stp stp.length c_stp) stp, own w.heap.size 4 (.slice a_pl pl.length c_pl) pl] ++ r) := H26
            have cc7 := aud_op (fi := fi) (l := ([sb] : List Int)) (a_fv := a_fv) (n_fv := n_fv) (c_fv := c_fv) (a_fo := a_fo) (n_fo := fo.length) (c_fo := c_fo) (a_stp := a_stp) (n_stp := stp.length) (c_stp := c_stp) (a_pl := a_pl) (n_pl := pl.length) (c_pl := c_pl) (w := w19) (M := fun _ => False) (fun _ h_ => h_.elim) ((H27.rv 4 rfl).lift (Up.less fun _ _ h_ => h_.elim)) ((H27.rv 0 rfl).lift (Up.less fun _ _ h_ => h_.elim)) ⟨H27.at_ 3 rfl, fun h_ => h_⟩
            refine ca go28 rfl (ec s2 (ec s3 e0)) cc7 ?_
            rintro _ w20 ⟨rfl, xt19⟩
            exact ⟨_, rfl, xt19, rfl⟩
           refine dc (fun _ _ _ _ hp5 => mv rfl (hp5 4 rfl rfl) (d0 rfl rfl)) ?_
           refine dc (fun f7 w22 hf6 xt21 hp6 => ?_) ?_
           ·
            have s5 : f7 133 = .bool (!(([sb] : List Int).any (outO fi))) := hp6 5 rfl rfl
            refine gy rfl rfl s5 b5 (mv rfl ((hf6 0 rfl).trans i0) ?_)
            exact ⟨_, rfl, Ext.refl _, rfl⟩
           refine dc (fun f8 w23 hf7 xt22 hp7 => ?_) ?_
           ·
            have s6 : f8 133 = .bool (!(([sb] : List Int).any (outO fi))) := hp7 5 rfl rfl
            have s7 : f8 134 = pV b_a 0 := hp7 6 rfl rfl
            refine gy rfl rfl s6 b5 (nc rfl s7 ?_)
            exact ⟨_, rfl, Ext.refl _, rfl⟩
           refine dc (fun f9 w24 hf8 xt23 hp8 => ?_) ?_
           ·
            have s8 : f9 133 = .bool (!(([sb] : List Int).any (outO fi))) := hp8 5 rfl rfl
            have s9 : f9 135 = pV b_a 0 := hp8 7 rfl rfl
            refine gy rfl rfl s8 b5 (fa fl54_0 rfl s9 ?_)
            exact ⟨_, rfl, Ext.refl _, rfl⟩
           refine dc (fun f10 w25 hf9 xt24 hp9 => ?_) ?_
           ·
            have s10 : f10 133 = .bool (!(([sb] : List Int).any (outO fi))) := hp9 5 rfl rfl
            have s11 : f10 136 = pV b_a 0 := hp9 8 rfl rfl
            refine gy rfl rfl s10 b5 (fa fl30_2 rfl s11 ?_)
            exact ⟨_, rfl, Ext.refl _, rfl⟩
           refine dc (fun f11 w26 hf10 xt25 hp10 => ?_) ?_
           ·
            have H34 := H4.ext xt25
            have s12 : f11 133 = .bool (!(([sb] : List Int).any (outO fi))) := hp10 5 rfl rfl
            have s13 : f11 137 = pV b_a 2 := hp10 9 rfl rfl
            refine gy rfl rfl s12 b5 (ldX H34 2 rfl ty28 rfl s13 (by decide) rfl ?_)
            exact ⟨_, rfl, Ext.refl _, rfl⟩
           refine dc (fun f12 w27 hf11 xt26 hp11 => ?_) ?_
           ·
            have s14 : f12 133 = .bool (!(([sb] : List Int).any (outO fi))) := hp11 5 rfl rfl
            refine gy rfl rfl s14 b5 (fa fl35_4 rfl (hf11 3 rfl) ?_)
            exact ⟨_, rfl, Ext.refl _, rfl⟩
           refine dc (fun f13 w28 hf12 xt27 hp12 => ?_) ?_
           ·
            have H36 := H4.ext xt27
            have s15 : f13 133 = .bool (!(([sb] : List Int).any (outO fi))) := hp12 5 rfl rfl
            have s16 : f13 139 = pV bb0 4 := hp12 11 rfl rfl
            refine gy rfl rfl s15 b5 (ldX H36 1 rfl ty3 rfl s16 (by decide) rfl ?_)
            exact ⟨_, rfl, Ext.refl _, rfl⟩
           refine ⟨fun _ => ⟨fun f14 w29 hf13 xt28 hp13 => ?_, by rintro _ _ _ x_ ⟨ad2, e_, hA2⟩; exact ⟨ad2, e_, hA2.lift (Up.ext x_)⟩⟩, ?_⟩
           ·
            have H37 := H4.ext xt28
            have s17 : f14 133 = .bool (!(([sb] : List Int).any (outO fi))) := hp13 5 rfl rfl
            have s18 : f14 138 = .slice a_fo fo.length c_fo := hp13 10 rfl rfl
            have s19 : f14 140 = iV sb := hp13 12 rfl rfl
            refine gy rfl rfl s17 b5 (ia (H37.rv 4 rfl) rfl rfl s18 s19 (by (first | (have h_ := op1_rng (fi := fi) (sb := sb) (by assumption); omega) | (have h_ := stpO_rng (pre := stp) (sa := sb) (by assumption); omega))) un28 ty3 ?_)
            intro ad3 x3 hx3 hA3
            obtain rfl : x0 = x3 := Option.some.inj (hx0.symm.trans hx3)
            exact ⟨_, rfl, Ext.refl _, ⟨ad3, rfl, hA3⟩⟩
           refine dc (fun f15 w30 hf14 xt29 hp14 => ?_) ?_
           ·
            have H38 := H4.ext xt29
            have s20 : f15 133 = .bool (!(([sb] : List Int).any (outO fi))) := hp14 5 rfl rfl
            obtain ⟨ad4, s21, hA4⟩ : ∃ (ad4 : Addr), f15 141 = .pointer (some ad4) ∧ At (MS M ([own w.heap.size 3 (.slice (some ⟨g0, 0, none⟩) 2 2) ([fr, to] : List Int), box bb0 #[iV kd, iV fr, iV to, iV sa, iV sb] 35, box b_a #[.slice a_fv n_fv c_fv, .slice a_fi fi.length c_fi, .slice a_fo fo.length c_fo, .slice a_stp stp.length c_stp, .slice a_pl pl.length c_pl] 54, imm (.slice a_fi fi.length c_fi) fi, imm (.slice a_fo fo.length c_fo) fo, own w.heap.size 35 (.slice a_stp stp.length c_stp) stp, own w.heap.size 4 (.slice a_pl pl.length c_pl) pl] ++ r)) w30 ad4 x0 := hp14 13 rfl rfl
            have H39 := H38.put (it := atI ad4 x0) rfl hA4
            have H40 : HI M w w30 ([atI ad4 x0, own w.heap.size 3 (.slice (some ⟨g0, 0, none⟩) 2 2) ([fr, to] : List Int), box bb0 #[iV kd, iV fr, iV to, iV sa, iV sb] 35, box b_a #[.slice a_fv n_fv c_fv, .slice a_fi fi.length c_fi, .slice a_fo fo.length c_fo, .slice a_stp stp.length c_stp, .slice a_pl pl.length c_pl] 54, imm (.slice a_fi fi.length c_fi) fi, imm (.slice a_fo fo.length c_fo) fo, own w.heap.size 35 (.slice a_stp stp.length c_stp) stp, own w.heap.size 4 (.slice a_pl pl.length c_pl) pl] ++ r) := H39
            refine gy rfl rfl s20 b5 (ldI (H40.atv 0 rfl).w ty3 rfl s21 ?_)
            intro rv8
            exact ⟨_, rfl, Ext.refl _, ⟨rfl, rv8⟩⟩
           refine dc (fun f16 w31 hf15 xt30 hp15 => ?_) ?_
           ·
            have s22 : f16 133 = .bool (!(([sb] : List Int).any (outO fi))) := hp15 5 rfl rfl
            refine gy rfl rfl s22 b5 (fa fl35_2 rfl (hf15 3 rfl) ?_)
            exact ⟨_, rfl, Ext.refl _, rfl⟩
           refine dc (fun f17 w32 hf16 xt31 hp16 => ?_) ?_
           ·
            have H42 := H4.ext xt31
            have s23 : f17 133 = .bool (!(([sb] : List Int).any (outO fi))) := hp16 5 rfl rfl
            have s24 : f17 143 = pV bb0 2 := hp16 15 rfl rfl
            refine gy rfl rfl s23 b5 (ldX H42 1 rfl ty3 rfl s24 (by decide) rfl ?_)
            exact ⟨_, rfl, Ext.refl _, rfl⟩
           refine dc (fun f18 w33 hf17 xt32 hp17 => ?_) ?_
           ·
            have s25 : f18 133 = .bool (!(([sb] : List Int).any (outO fi))) := hp17 5 rfl rfl
            obtain ⟨s26, rv9⟩ : f18 142 = iV x0 ∧ I64 (x0) := hp17 14 rfl rfl
            have s27 : f18 144 = iV to := hp17 16 rfl rfl
            refine gy rfl rfl s25 b5 (eql rfl rfl s26 s27 ?_)
            exact ⟨_, rfl, Ext.refl _, rfl⟩
           refine dc (fun _ _ _ _ hp18 => pickT rfl rfl rfl (hp18 5 rfl rfl) b5 (hp18 17 rfl rfl) (d0 rfl rfl)) ?_
           refine dc (fun _ _ _ _ hp19 => mv rfl (hp19 18 rfl rfl) (d0 rfl rfl)) ?_
           refine dc (fun f21 w36 hf20 xt35 hp20 => ?_) ?_
           ·
            have s31 : f21 147 = .bool (decide (x0 = to)) := hp20 19 rfl rfl
            refine gy rfl rfl s31 b6 (mv rfl ((hf20 0 rfl).trans i0) ?_)
            exact ⟨_, rfl, Ext.refl _, rfl⟩
           refine dc (fun f22 w37 hf21 xt36 hp21 => ?_) ?_
           ·
            have s32 : f22 147 = .bool (decide (x0 = to)) := hp21 19 rfl rfl
            refine gy rfl rfl s32 b6 (fa fl35_1 rfl (hf21 3 rfl) ?_)
            exact ⟨_, rfl, Ext.refl _, rfl⟩
           refine dc (fun f23 w38 hf22 xt37 hp22 => ?_) ?_
           ·
            have H48 := H4.ext xt37
            have s33 : f23 147 = .bool (decide (x0 = to)) := hp22 19 rfl rfl
            have s34 : f23 149 = pV bb0 1 := hp22 21 rfl rfl
            refine gy rfl rfl s33 b6 (ldX H48 1 rfl ty3 rfl s34 (by decide) rfl ?_)
            exact ⟨_, rfl, Ext.refl _, rfl⟩
           refine dc (fun f24 w39 hf23 xt38 hp23 => ?_) ?_
           ·
            have s35 : f24 147 = .bool (decide (x0 = to)) := hp23 19 rfl rfl
            refine gy rfl rfl s35 b6 (fa fl35_2 rfl (hf23 3 rfl) ?_)
            exact ⟨_, rfl, Ext.refl _, rfl⟩
           refine dc (fun f25 w40 hf24 xt39 hp24 => ?_) ?_
           ·
            have H50 := H4.ext xt39
            have s36 : f25 147 = .bool (decide (x0 = to)) := hp24 19 rfl rfl
            have s37 : f25 151 = pV bb0 2 := hp24 23 rfl rfl
            refine gy rfl rfl s36 b6 (ldX H50 1 rfl ty3 rfl s37 (by decide) rfl ?_)
            exact ⟨_, rfl, Ext.refl _, rfl⟩
           refine dc (fun f26 w41 hf25 xt40 hp25 => ?_) ?_
           ·
            have H51 := H4.ext xt40
            have s38 : f26 147 = .bool (decide (x0 = to)) := hp25 19 rfl rfl
            have s39 : f26 148 = pV b_a 0 := hp25 20 rfl rfl
            have s40 : f26 150 = iV fr := hp25 22 rfl rfl
            have s41 : f26 152 = iV to := hp25 24 rfl rfl
            refine gy rfl rfl s38 b6 ?_
            have cc8 := aud_other (fi := fi) (n1 := fr) (n2 := to) (a_fv := a_fv) (n_fv := n_fv) (c_fv := c_fv) (a_fo := a_fo) (n_fo := fo.length) (c_fo := c_fo) (a_stp := a_stp) (n_stp := stp.length) (c_stp := c_stp) (a_pl := a_pl) (n_pl := pl.length) (c_pl := c_pl) (w := w41) (M := fun _ => False) (fun _ h_ => h_.elim) ((H51.rv 3 rfl).lift (Up.less fun _ _ h_ => h_.elim)) (by first | assumption | (unfold I64 at *; omega)) (by first | assumption | (unfold I64 at *; omega)) ⟨H51.at_ 2 rfl, fun h_ => h_⟩ (by first | omega | (simp; omega)) (by first | omega | (simp; omega))
            refine ca go32 rfl (ec s39 (ec s40 (ec s41 e0))) cc8 ?_
            rintro _ w42 ⟨rfl, xt41⟩
            exact ⟨_, rfl, xt41, rfl⟩
           refine dc (fun _ _ _ _ hp26 => pickT rfl rfl rfl (hp26 19 rfl rfl) b6 (hp26 25 rfl rfl) (d0 rfl rfl)) ?_
           refine dc (fun _ _ _ _ hp27 => mv rfl (hp27 26 rfl rfl) (d0 rfl rfl)) ?_
           refine dc (fun _ _ _ _ hp28 => gn rfl rfl (hp28 27 rfl rfl) b7 (d0 rfl rfl)) ?_
           refine dc (fun _ _ _ _ hp29 => gn rfl rfl (hp29 27 rfl rfl) b7 (d0 rfl rfl)) ?_
           refine dc (fun _ _ _ _ hp30 => gn rfl rfl (hp30 27 rfl rfl) b7 (d0 rfl rfl)) ?_
           refine dc (fun _ _ _ _ hp31 => gn rfl rfl (hp31 27 rfl rfl) b7 (d0 rfl rfl)) ?_
           refine dc (fun _ _ _ _ hp32 => gn rfl rfl (hp32 27 rfl rfl) b7 (d0 rfl rfl)) ?_
           refine dc (fun _ _ _ _ hp33 => gn rfl rfl (hp33 27 rfl rfl) b7 (d0 rfl rfl)) ?_
           refine dc (fun _ _ _ _ hp34 => gn rfl rfl (hp34 27 rfl rfl) b7 (d0 rfl rfl)) ?_
           exact DSteps.rest rfl _
          ·
           intro f36 w52 hf35 xt51 hp35
           have H62 := H4.ext xt51
           have s55 : f36 0 = pV b_a 0 := (hf35 0 rfl).trans i0
           have s56 : f36 3 = pV bb0 0 := hf35 3 rfl
           have s57 : f36 155 = .bool (otherO fi fr to) := hp35 27 rfl
           refine k (gn rfl rfl s57 b7 (k (pickF rfl rfl rfl s57 b7 rfl (k (asg (v := .bool false) rfl rfl (z (nx (rg (k (asg (v := .bool false) rfl rfl (z (inb_normal ?_))))))))))))
           refine cutN ⟨false, false, s55, s56, rfl, rfl, H62, (by first | exact g4a ‹_› ‹_› | exact g4b ‹_› ‹_› ‹_› ‹_› | exact g4c ‹_› ‹_› ‹_› ‹_› ‹_› | exact g4d ‹_› ‹_› ‹_› ‹_› ‹_›), (by first | exact p_4 ‹_›)⟩
        · -- decide (x0 = to) is False
         have p6 := of_decide_eq_false b6
         refine dr 35 [eV (pV b_a 0), eV (pV bb0 4), eV (iV sb), fun (v : Value) (w' : World) => ∃ (a2 : Option Addr) (c2 : Nat), v = .slice a2 ([sb] : List Int).length c2 ∧ RV (MS M ([own w.heap.size 3 (.slice (some ⟨g0, 0, none⟩) 2 2) ([fr, to] : List Int), box bb0 #[iV kd, iV fr, iV to, iV sa, iV sb] 35, box b_a #[.slice a_fv n_fv c_fv, .slice a_fi fi.length c_fi, .slice a_fo fo.length c_fo, .slice a_stp stp.length c_stp, .slice a_pl pl.length c_pl] 54, imm (.slice a_fi fi.length c_fi) fi, imm (.slice a_fo fo.length c_fo) fo, own w.heap.size 35 (.slice a_stp stp.length c_stp) stp, own w.heap.size 4 (.slice a_pl pl.length c_pl) pl] ++ r)) w' (.slice a2 ([sb] : List Int).length c2) ([sb] : List Int), eV (.bool (!(([sb] : List Int).any (outO fi)))), eV (.bool (!(([sb] : List Int).any (outO fi)))), eV (pV b_a 0), eV (pV b_a 0), eV (pV b_a 0), eV (pV b_a 2), eV (.slice a_fo fo.length c_fo), eV (pV bb0 4), eV (iV sb), fun (v : Value) (w' : World) => ∃ (ad1 : Addr), v = .pointer (some ad1) ∧ At (MS M ([own w.heap.size 3 (.slice (some ⟨g0, 0, none⟩) 2 2) ([fr, to] : List Int), box bb0 #[iV kd, iV fr, iV to, iV sa, iV sb] 35, box b_a #[.slice a_fv n_fv c_fv, .slice a_fi fi.length c_fi, .slice a_fo fo.length c_fo, .slice a_stp stp.length c_stp, .slice a_pl pl.length c_pl] 54, imm (.slice a_fi fi.length c_fi) fi, imm (.slice a_fo fo.length c_fo) fo, own w.heap.size 35 (.slice a_stp stp.length c_stp) stp, own w.heap.size 4 (.slice a_pl pl.length c_pl) pl] ++ r)) w' ad1 x0, fun (v : Value) (w' : World) => v = iV x0 ∧ I64 (x0), eV (pV bb0 2), eV (iV to), eV (.bool (decide (x0 = to))), eV (.bool (decide (x0 = to))), eV (.bool (decide (x0 = to))), eV undef, eV undef, eV undef, eV undef, eV undef, eV undef, eV (.bool false), eV (.bool false), eV undef, eV undef, eV undef, eV undef, eV undef, eV undef, eV undef] rfl (by kernel_rfl) ?_ ?_
         ·
          refine dc (fun _ _ hf0 _ _ => mv rfl ((hf0 0 rfl).trans i0) (d0 rfl rfl)) ?_
          refine dc (fun _ _ hf1 _ _ => fa fl35_4 rfl (hf1 3 rfl) (d0 rfl rfl)) ?_
          refine dc (fun _ _ _ xt11 hp2 => ldX (H4.ext xt11) 1 rfl ty3 rfl (hp2 1 rfl rfl) (by decide) rfl (d0 rfl rfl)) ?_
          refine ⟨fun _ => ⟨fun f4 w13 hf3 xt12 hp3 => ?_, by rintro _ _ _ x_ ⟨a2, c2, e_, rv3⟩; exact ⟨a2, c2, e_, rv3.lift (Up.ext x_)⟩⟩, ?_⟩
          ·
           have H17 := H4.ext xt12
           have s1 : f4 130 = iV sb := hp3 2 rfl rfl
           refine bs (xs := ([sb] : List Int)) (cells := #[iV sb]) (e := 3) H17 rfl (pbc s1 pb0) (fun _ => by kernel_rfl) ⟨[iV sb], [], rfl, ⟨rfl, (show I64 (sb) from (by first | assumption | (unfold I64 at *; omega)))⟩, rfl⟩ rfl (by unfold maxLen; omega) ?_
           intro g4 w14 xt13 (H18 : HI M w w14 ([own w.heap.size 3 (.slice (some ⟨g4, 0, none⟩) 1 1) ([sb] : List Int), own w.heap.size 3 (.slice (some ⟨g0, 0, none⟩) 2 2) ([fr, to] : List Int), box bb0 #[iV kd, iV fr, iV to, iV sa, iV sb] 35, box b_a #[.slice a_fv n_fv c_fv, .slice a_fi fi.length c_fi, .slice a_fo fo.length c_fo, .slice a_stp stp.length c_stp, .slice a_pl pl.length c_pl] 54, imm (.slice a_fi fi.length c_fi) fi, imm (.slice a_fo fo.length c_fo) fo, own w.heap.size 35 (.slice a_stp stp.length c_stp) stp, own w.heap.size 4 (.slice a_pl pl.length c_pl) pl] ++ r))
           have H19 := H18.freeze 0 rfl
           exact ⟨_, rfl, xt13, ⟨(some ⟨g4, 0, none⟩), 1, rfl, (rv_drop rfl (H19.rv 0 rfl))⟩⟩
          refine dc (fun f5 w15 hf4 xt14 hp4 => ?_) ?_
          ·
           have H20 := H4.ext xt14
           have s2 : f5 128 = pV b_a 0 := hp4 0 rfl rfl
           obtain ⟨a3, c3, s3, rv5⟩ : ∃ (a3 : Option Addr) (c3 : Nat), f5 131 = .slice a3 ([sb] : List Int).length c3 ∧ RV (MS M ([own w.heap.size 3 (.slice (some ⟨g0, 0, none⟩) 2 2) ([fr, to] : List Int), box bb0 #[iV kd, iV fr, iV to, iV sa, iV sb] 35, box b_a #[.slice a_fv n_fv c_fv, .slice a_fi fi.length c_fi, .slice a_fo fo.length c_fo, .slice a_stp stp.length c_stp, .slice a_pl pl.length c_pl] 54, imm (.slice a_fi fi.length c_fi) fi, imm (.slice a_fo fo.length c_fo) fo, own w.heap.size 35 (.slice a_stp stp.length c_stp) stp, own w.heap.size 4 (.slice a_pl pl.length c_pl) pl] ++ r)) w15 (.slice a3 ([sb] : List Int).length c3) ([sb] : List Int) := hp4 3 rfl rfl
           have H21 := H20.put (it := imm (.slice a3 ([sb] : List Int).length c3) ([sb] : List Int)) rfl rv5
           have H22 : HI M w w15 ([imm (.slice a3 ([sb] : List Int).length c3) ([sb] : List Int), own w.heap.size 3 (.slice (some ⟨g0, 0, none⟩) 2 2) ([fr, to] : List Int), box bb0 #[iV kd, iV fr, iV to, iV sa, iV sb] 35, box b_a #[.slice a_fv n_fv c_fv, .slice a_fi fi.length c_fi, .slice a_fo fo.length c_fo, .slice a_stp stp.length c_stp, .slice a_pl pl.length c_pl] 54, imm (.slice a_fi fi.length c_fi) fi, imm (.slice a_fo fo.length c_fo) fo, own w.heap.size 35 (.slice a_stp stp.length c_stp) stp, own w.heap.size 4 (.slice a_pl pl.length c_pl) pl] ++ r) := H21
           have cc4 := aud_op (fi := fi) (l := ([sb] : List Int)) (a_fv := a_fv) (n_fv := n_fv) (c_fv := c_fv) (a_fo := a_fo) (n_fo := fo.length) (c_fo := c_fo) (a_stp := a_stp) (n_stp := stp.length) (c_stp := c_stp) (a_pl := a_pl) (n_pl := pl.length) (c_pl := c_pl) (w := w15) (M := fun _ => False) (fun _ h_ => h_.elim) ((H22.rv 4 rfl).lift (Up.less fun _ _ h_ => h_.elim)) ((H22.rv 0 rfl).lift (Up.less fun _ _ h_ => h_.elim)) ⟨H22.at_ 3 rfl, fun h_ => h_⟩
           refine ca go28 rfl (ec s2 (ec s3 e0)) cc4 ?_
           rintro _ w16 ⟨rfl, xt15⟩
           exact ⟨_, rfl, xt15, rfl⟩
          refine dc (fun _ _ _ _ hp5 => mv rfl (hp5 4 rfl rfl) (d0 rfl rfl)) ?_
          refine dc (fun f7 w18 hf6 xt17 hp6 => ?_) ?_
          ·
           have s5 : f7 133 = .bool (!(([sb] : List Int).any (outO fi))) := hp6 5 rfl rfl
           refine gy rfl rfl s5 b5 (mv rfl ((hf6 0 rfl).trans i0) ?_)
           exact ⟨_, rfl, Ext.refl _, rfl⟩
          refine dc (fun f8 w19 hf7 xt18 hp7 => ?_) ?_
          ·
           have s6 : f8 133 = .bool (!(([sb] : List Int).any (outO fi))) := hp7 5 rfl rfl
           have s7 : f8 134 = pV b_a 0 := hp7 6 rfl rfl
           refine gy rfl rfl s6 b5 (nc rfl s7 ?_)
           exact ⟨_, rfl, Ext.refl _, rfl⟩
          refine dc (fun f9 w20 hf8 xt19 hp8 => ?_) ?_
          ·
           have s8 : f9 133 = .bool (!(([sb] : List Int).any (outO fi))) := hp8 5 rfl rfl
           have s9 : f9 135 = pV b_a 0 := hp8 7 rfl rfl
           refine gy rfl rfl s8 b5 (fa fl54_0 rfl s9 ?_)
           exact ⟨_, rfl, Ext.refl _, rfl⟩
          refine dc (fun f10 w21 hf9 xt20 hp9 => ?_) ?_
          ·
           have s10 : f10 133 = .bool (!(([sb] : List Int).any (outO fi))) := hp9 5 rfl rfl
           have s11 : f10 136 = pV b_a 0 := hp9 8 rfl rfl
           refine gy rfl rfl s10 b5 (fa fl30_2 rfl s11 ?_)
           exact ⟨_, rfl, Ext.refl _, rfl⟩
          refine dc (fun f11 w22 hf10 xt21 hp10 => ?_) ?_
          ·
           have H29 := H4.ext xt21
           have s12 : f11 133 = .bool (!(([sb] : List Int).any (outO fi))) := hp10 5 rfl rfl
           have s13 : f11 137 = pV b_a 2 := hp10 9 rfl rfl
           refine gy rfl rfl s12 b5 (ldX H29 2 rfl ty28 rfl s13 (by decide) rfl ?_)
           exact ⟨_, rfl, Ext.refl _, rfl⟩
          refine dc (fun f12 w23 hf11 xt22 hp11 => ?_) ?_
          ·
           have s14 : f12 133 = .bool (!(([sb] : List Int).any (outO fi))) := hp11 5 rfl rfl
           refine gy rfl rfl s14 b5 (fa fl35_4 rfl (hf11 3 rfl) ?_)
           exact ⟨_, rfl, Ext.refl _, rfl⟩
          refine dc (fun f13 w24 hf12 xt23 hp12 => ?_) ?_
          ·
           have H31 := H4.ext xt23
           have s15 : f13 133 = .bool (!(([sb] : List Int).any (outO fi))) := hp12 5 rfl rfl
           have s16 : f13 139 = pV bb0 4 := hp12 11 rfl rfl
           refine gy rfl rfl s15 b5 (ldX H31 1 rfl ty3 rfl s16 (by decide) rfl ?_)
           exact ⟨_, rfl, Ext.refl _, rfl⟩
          refine ⟨fun _ => ⟨fun f14 w25 hf13 xt24 hp13 => ?_, by rintro _ _ _ x_ ⟨ad1, e_, hA1⟩; exact ⟨ad1, e_, hA1.lift (Up.ext x_)⟩⟩, ?_⟩
          ·
           have H32 := H4.ext xt24
           have s17 : f14 133 = .bool (!(([sb] : List Int).any (outO fi))) := hp13 5 rfl rfl
           have s18 : f14 138 = .slice a_fo fo.length c_fo := hp13 10 rfl rfl
           have s19 : f14 140 = iV sb := hp13 12 rfl rfl
           refine gy rfl rfl s17 b5 (ia (H32.rv 4 rfl) rfl rfl s18 s19 (by (first | (have h_ := op1_rng (fi := fi) (sb := sb) (by assumption); omega) | (have h_ := stpO_rng (pre := stp) (sa := sb) (by assumption); omega))) un28 ty3 ?_)
           intro ad2 x2 hx2 hA2
           obtain rfl : x0 = x2 := Option.some.inj (hx0.symm.trans hx2)
           exact ⟨_, rfl, Ext.refl _, ⟨ad2, rfl, hA2⟩⟩
          refine dc (fun f15 w26 hf14 xt25 hp14 => ?_) ?_
          ·
           have H33 := H4.ext xt25
           have s20 : f15 133 = .bool (!(([sb] : List Int).any (outO fi))) := hp14 5 rfl rfl
           obtain ⟨ad3, s21, hA3⟩ : ∃ (ad3 : Addr), f15 141 = .pointer (some ad3) ∧ At (MS M ([own w.heap.size 3 (.slice (some ⟨g0, 0, none⟩) 2 2) ([fr, to] : List Int), box bb0 #[iV kd, iV fr, iV to, iV sa, iV sb] 35, box b_a #[.slice a_fv n_fv c_fv, .slice a_fi fi.length c_fi, .slice a_fo fo.length c_fo, .slice a_stp stp.length c_stp, .slice a_pl pl.length c_pl] 54, imm (.slice a_fi fi.length c_fi) fi, imm (.slice a_fo fo.length c_fo) fo, own w.heap.size 35 (.slice a_stp stp.length c_stp) stp, own w.heap.size 4 (.slice a_pl pl.length c_pl) pl] ++ r)) w26 ad3 x0 := hp14 13 rfl rfl
           have H34 := H33.put (it := atI ad3 x0) rfl hA3
           have H35 : HI M w w26 ([atI ad3 x0, own w.heap.size 3 (.slice (some ⟨g0, 0, none⟩) 2 2) ([fr, to] : List Int), box bb0 #[iV kd, iV fr, iV to, iV sa, iV sb] 35, box b_a #[.slice a_fv n_fv c_fv, .slice a_fi fi.length c_fi, .slice a_fo fo.length c_fo, .slice a_stp stp.length c_stp, .slice a_pl pl.length c_pl] 54, imm (.slice a_fi fi.length c_fi) fi, imm (.slice a_fo fo.length c_fo) fo, own w.heap.size 35 (.slice a_stp stp.length c_stp) stp, own w.heap.size 4 (.slice a_pl pl.length c_pl) pl] ++ r) := H34
           refine gy rfl rfl s20 b5 (ldI (H35.atv 0 rfl).w ty3 rfl s21 ?_)
           intro rv6
           exact ⟨_, rfl, Ext.refl _, ⟨rfl, rv6⟩⟩
          refine dc (fun f16 w27 hf15 xt26 hp15 => ?_) ?_
          ·
           have s22 : f16 133 = .bool (!(([sb] : List Int).any (outO fi))) := hp15 5 rfl rfl
           refine gy rfl rfl s22 b5 (fa fl35_2 rfl (hf15 3 rfl) ?_)
           exact ⟨_, rfl, Ext.refl _, rfl⟩
          refine dc (fun f17 w28 hf16 xt27 hp16 => ?_) ?_
          ·
           have H37 := H4.ext xt27
           have s23 : f17 133 = .bool (!(([sb] : List Int).any (outO fi))) := hp16 5 rfl rfl
           have s24 : f17 143 = pV bb0 2 := hp16 15 rfl rfl
           refine gy rfl rfl s23 b5 (ldX H37 1 rfl ty3 rfl s24 (by decide) rfl ?_)
           exact ⟨_, rfl, Ext.refl _, rfl⟩
          refine dc (fun f18 w29 hf17 xt28 hp17 => ?_) ?_
          ·
           have s25 : f18 133 = .bool (!(([sb] : List Int).any (outO fi))) := hp17 5 rfl rfl
           obtain ⟨s26, rv7⟩ : f18 142 = iV x0 ∧ I64 (x0) := hp17 14 rfl rfl
           have s27 : f18 144 = iV to := hp17 16 rfl rfl
           refine gy rfl rfl s25 b5 (eql rfl rfl s26 s27 ?_)
           exact ⟨_, rfl, Ext.refl _, rfl⟩
          refine dc (fun _ _ _ _ hp18 => pickT rfl rfl rfl (hp18 5 rfl rfl) b5 (hp18 17 rfl rfl) (d0 rfl rfl)) ?_
          refine dc (fun _ _ _ _ hp19 => mv rfl (hp19 18 rfl rfl) (d0 rfl rfl)) ?_
          refine dc (fun _ _ _ _ hp20 => gn rfl rfl (hp20 19 rfl rfl) b6 (d0 rfl rfl)) ?_
          refine dc (fun _ _ _ _ hp21 => gn rfl rfl (hp21 19 rfl rfl) b6 (d0 rfl rfl)) ?_
          refine dc (fun _ _ _ _ hp22 => gn rfl rfl (hp22 19 rfl rfl) b6 (d0 rfl rfl)) ?_
          refine dc (fun _ _ _ _ hp23 => gn rfl rfl (hp23 19 rfl rfl) b6 (d0 rfl rfl)) ?_
          refine dc (fun _ _ _ _ hp24 => gn rfl rfl (hp24 19 rfl rfl) b6 (d0 rfl rfl)) ?_
          refine dc (fun _ _ _ _ hp25 => gn rfl rfl (hp25 19 rfl rfl) b6 (d0 rfl rfl)) ?_
          refine dc (fun _ _ _ _ hp26 => pickF rfl rfl rfl (hp26 19 rfl rfl) b6 rfl (d0 rfl rfl)) ?_
          refine dc (fun _ _ _ _ hp27 => mv rfl (hp27 26 rfl rfl) (d0 rfl rfl)) ?_
          refine dc (fun _ _ _ _ hp28 => gn rfl rfl (hp28 27 rfl rfl) rfl (d0 rfl rfl)) ?_
          refine dc (fun _ _ _ _ hp29 => gn rfl rfl (hp29 27 rfl rfl) rfl (d0 rfl rfl)) ?_
          refine dc (fun _ _ _ _ hp30 => gn rfl rfl (hp30 27 rfl rfl) rfl (d0 rfl rfl)) ?_
          refine dc (fun _ _ _ _ hp31 => gn rfl rfl (hp31 27 rfl rfl) rfl (d0 rfl rfl)) ?_
          refine dc (fun _ _ _ _ hp32 => gn rfl rfl (hp32 27 rfl rfl) rfl (d0 rfl rfl)) ?_
          refine dc (fun _ _ _ _ hp33 => gn rfl rfl (hp33 27 rfl rfl) rfl (d0 rfl rfl)) ?_
          refine dc (fun _ _ _ _ hp34 => gn rfl rfl (hp34 27 rfl rfl) rfl (d0 rfl rfl)) ?_
          exact DSteps.rest rfl _
         ·
          intro f36 w47 hf35 xt46 hp35
          have H56 := H4.ext xt46
          have s55 : f36 0 = pV b_a 0 := (hf35 0 rfl).trans i0
          have s56 : f36 3 = pV bb0 0 := hf35 3 rfl
          have s57 : f36 155 = .bool false := hp35 27 rfl
          refine k (gn rfl rfl s57 rfl (k (pickF rfl rfl rfl s57 rfl rfl (k (asg (v := .bool false) rfl rfl (z (nx (rg (k (asg (v := .bool false) rfl rfl (z (inb_normal ?_))))))))))))
          refine cutN ⟨false, false, s55, s56, rfl, rfl, H56, (by first | exact g4a ‹_› ‹_› | exact g4b ‹_› ‹_› ‹_› ‹_› | exact g4c ‹_› ‹_› ‹_› ‹_› ‹_› | exact g4d ‹_› ‹_› ‹_› ‹_› ‹_›), (by first | exact p_4 ‹_›)⟩
       · -- !(([sb] : List Int).any (outO fi)) is False
        refine dr 35 [eV (pV b_a 0), eV (pV bb0 4), eV (iV sb), fun (v : Value) (w' : World) => ∃ (a1 : Option Addr) (c1 : Nat), v = .slice a1 ([sb] : List Int).length c1 ∧ RV (MS M ([own w.heap.size 3 (.slice (some ⟨g0, 0, none⟩) 2 2) ([fr, to] : List Int), box bb0 #[iV kd, iV fr, iV to, iV sa, iV sb] 35, box b_a #[.slice a_fv n_fv c_fv, .slice a_fi fi.length c_fi, .slice a_fo fo.length c_fo, .slice a_stp stp.length c_stp, .slice a_pl pl.length c_pl] 54, imm (.slice a_fi fi.length c_fi) fi, imm (.slice a_fo fo.length c_fo) fo, own w.heap.size 35 (.slice a_stp stp.length c_stp) stp, own w.heap.size 4 (.slice a_pl pl.length c_pl) pl] ++ r)) w' (.slice a1 ([sb] : List Int).length c1) ([sb] : List Int), eV (.bool (!(([sb] : List Int).any (outO fi)))), eV (.bool (!(([sb] : List Int).any (outO fi)))), eV undef, eV undef, eV undef, eV undef, eV undef, eV undef, eV undef, eV undef, eV undef, eV undef, eV undef, eV undef, eV (.bool false), eV (.bool false), eV undef, eV undef, eV undef, eV undef, eV undef, eV undef, eV (.bool false), eV (.bool false), eV undef, eV undef, eV undef, eV undef, eV undef, eV undef, eV undef] rfl (by kernel_rfl) ?_ ?_
        ·
         refine dc (fun _ _ hf0 _ _ => mv rfl ((hf0 0 rfl).trans i0) (d0 rfl rfl)) ?_
         refine dc (fun _ _ hf1 _ _ => fa fl35_4 rfl (hf1 3 rfl) (d0 rfl rfl)) ?_
         refine dc (fun _ _ _ xt9 hp2 => ldX (H4.ext xt9) 1 rfl ty3 rfl (hp2 1 rfl rfl) (by decide) rfl (d0 rfl rfl)) ?_
         refine ⟨fun _ => ⟨fun f4 w11 hf3 xt10 hp3 => ?_, by rintro _ _ _ x_ ⟨a1, c1, e_, rv1⟩; exact ⟨a1, c1, e_, rv1.lift (Up.ext x_)⟩⟩, ?_⟩
         ·
          have H14 := H4.ext xt10
          have s1 : f4 130 = iV sb := hp3 2 rfl rfl
          refine bs (xs := ([sb] : List Int)) (cells := #[iV sb]) (e := 3) H14 rfl (pbc s1 pb0) (fun _ => by kernel_rfl) ⟨[iV sb], [], rfl, ⟨rfl, (show I64 (sb) from (by first | assumption | (unfold I64 at *; omega)))⟩, rfl⟩ rfl (by unfold maxLen; omega) ?_
          intro g3 w12 xt11 (H15 : HI M w w12 ([own w.heap.size 3 (.slice (some ⟨g3, 0, none⟩) 1 1) ([sb] : List Int), own w.heap.size 3 (.slice (some ⟨g0, 0, none⟩) 2 2) ([fr, to] : List Int), box bb0 #[iV kd, iV fr, iV to, iV sa, iV sb] 35, box b_a #[.slice a_fv n_fv c_fv, .slice a_fi fi.length c_fi, .slice a_fo fo.length c_fo, .slice a_stp stp.length c_stp, .slice a_pl pl.length c_pl] 54, imm (.slice a_fi fi.length c_fi) fi, imm (.slice a_fo fo.length c_fo) fo, own w.heap.size 35 (.slice a_stp stp.length c_stp) stp, own w.heap.size 4 (.slice a_pl pl.length c_pl) pl] ++ r))
          have H16 := H15.freeze 0 rfl
          exact ⟨_, rfl, xt11, ⟨(some ⟨g3, 0, none⟩), 1, rfl, (rv_drop rfl (H16.rv 0 rfl))⟩⟩
         refine dc (fun f5 w13 hf4 xt12 hp4 => ?_) ?_
         ·
          have H17 := H4.ext xt12
          have s2 : f5 128 = pV b_a 0 := hp4 0 rfl rfl
          obtain ⟨a2, c2, s3, rv2⟩ : ∃ (a2 : Option Addr) (c2 : Nat), f5 131 = .slice a2 ([sb] : List Int).length c2 ∧ RV (MS M ([own w.heap.size 3 (.slice (some ⟨g0, 0, none⟩) 2 2) ([fr, to] : List Int), box bb0 #[iV kd, iV fr, iV to, iV sa, iV sb] 35, box b_a #[.slice a_fv n_fv c_fv, .slice a_fi fi.length c_fi, .slice a_fo fo.length c_fo, .slice a_stp stp.length c_stp, .slice a_pl pl.length c_pl] 54, imm (.slice a_fi fi.length c_fi) fi, imm (.slice a_fo fo.length c_fo) fo, own w.heap.size 35 (.slice a_stp stp.length c_stp) stp, own w.heap.size 4 (.slice a_pl pl.length c_pl) pl] ++ r)) w13 (.slice a2 ([sb] : List Int).length c2) ([sb] : List Int) := hp4 3 rfl rfl
          have H18 := H17.put (it := imm (.slice a2 ([sb] : List Int).length c2) ([sb] : List Int)) rfl rv2
          have H19 : HI M w w13 ([imm (.slice a2 ([sb] : List Int).length c2) ([sb] : List Int), own w.heap.size 3 (.slice (some ⟨g0, 0, none⟩) 2 2) ([fr, to] : List Int), box bb0 #[iV kd, iV fr, iV to, iV sa, iV sb] 35, box b_a #[.slice a_fv n_fv c_fv, .slice a_fi fi.length c_fi, .slice a_fo fo.length c_fo, .slice a_stp stp.length c_stp, .slice a_pl pl.length c_pl] 54, imm (.slice a_fi fi.length c_fi) fi, imm (.slice a_fo fo.length c_fo) fo, own w.heap.size 35 (.slice a_stp stp.length c_stp) stp, own w.heap.size 4 (.slice a_pl pl.length c_pl) pl] ++ r) := H18
          have cc3 := aud_op (fi := fi) (l := ([sb] : List Int)) (a_fv := a_fv) (n_fv := n_fv) (c_fv := c_fv) (a_fo := a_fo) (n_fo := fo.length) (c_fo := c_fo) (a_stp := a_stp) (n_stp := stp.length) (c_stp := c_stp) (a_pl := a_pl) (n_pl := pl.length) (c_pl := c_pl) (w := w13) (M := fun _ => False) (fun _ h_ => h_.elim) ((H19.rv 4 rfl).lift (Up.less fun _ _ h_ => h_.elim)) ((H19.rv 0 rfl).lift (Up.less fun _ _ h_ => h_.elim)) ⟨H19.at_ 3 rfl, fun h_ => h_⟩
          refine ca go28 rfl (ec s2 (ec s3 e0)) cc3 ?_
          rintro _ w14 ⟨rfl, xt13⟩
          exact ⟨_, rfl, xt13, rfl⟩
         refine dc (fun _ _ _ _ hp5 => mv rfl (hp5 4 rfl rfl) (d0 rfl rfl)) ?_
         refine dc (fun _ _ _ _ hp6 => gn rfl rfl (hp6 5 rfl rfl) b5 (d0 rfl rfl)) ?_
         refine dc (fun _ _ _ _ hp7 => gn rfl rfl (hp7 5 rfl rfl) b5 (d0 rfl rfl)) ?_
         refine dc (fun _ _ _ _ hp8 => gn rfl rfl (hp8 5 rfl rfl) b5 (d0 rfl rfl)) ?_
         refine dc (fun _ _ _ _ hp9 => gn rfl rfl (hp9 5 rfl rfl) b5 (d0 rfl rfl)) ?_
         refine dc (fun _ _ _ _ hp10 => gn rfl rfl (hp10 5 rfl rfl) b5 (d0 rfl rfl)) ?_
         refine dc (fun _ _ _ _ hp11 => gn rfl rfl (hp11 5 rfl rfl) b5 (d0 rfl rfl)) ?_
         refine dc (fun _ _ _ _ hp12 => gn rfl rfl (hp12 5 rfl rfl) b5 (d0 rfl rfl)) ?_
         refine dc (fun _ _ _ _ hp13 => gn rfl rfl (hp13 5 rfl rfl) b5 (d0 rfl rfl)) ?_
         refine dc (fun _ _ _ _ hp14 => gn rfl rfl (hp14 5 rfl rfl) b5 (d0 rfl rfl)) ?_
         refine dc (fun _ _ _ _ hp15 => gn rfl rfl (hp15 5 rfl rfl) b5 (d0 rfl rfl)) ?_
         refine dc (fun _ _ _ _ hp16 => gn rfl rfl (hp16 5 rfl rfl) b5 (d0 rfl rfl)) ?_
         refine dc (fun _ _ _ _ hp17 => gn rfl rfl (hp17 5 rfl rfl) b5 (d0 rfl rfl)) ?_
         refine dc (fun _ _ _ _ hp18 => pickF rfl rfl rfl (hp18 5 rfl rfl) b5 rfl (d0 rfl rfl)) ?_
         refine dc (fun _ _ _ _ hp19 => mv rfl (hp19 18 rfl rfl) (d0 rfl rfl)) ?_
         refine dc (fun _ _ _ _ hp20 => gn rfl rfl (hp20 19 rfl rfl) rfl (d0 rfl rfl)) ?_
         refine dc (fun _ _ _ _ hp21 => gn rfl rfl (hp21 19 rfl rfl) rfl (d0 rfl rfl)) ?_
         refine dc (fun _ _ _ _ hp22 => gn rfl rfl (hp22 19 rfl rfl) rfl (d0 rfl rfl)) ?_
         refine dc (fun _ _ _ _ hp23 => gn rfl rfl (hp23 19 rfl rfl) rfl (d0 rfl rfl)) ?_
         refine dc (fun _ _ _ _ hp24 => gn rfl rfl (hp24 19 rfl rfl) rfl (d0 rfl rfl)) ?_
         refine dc (fun _ _ _ _ hp25 => gn rfl rfl (hp25 19 rfl rfl) rfl (d0 rfl rfl)) ?_
         refine dc (fun _ _ _ _ hp26 => pickF rfl rfl rfl (hp26 19 rfl rfl) rfl rfl (d0 rfl rfl)) ?_
         refine dc (fun _ _ _ _ hp27 => mv rfl (hp27 26 rfl rfl) (d0 rfl rfl)) ?_
         refine dc (fun _ _ _ _ hp28 => gn rfl rfl (hp28 27 rfl rfl) rfl (d0 rfl rfl)) ?_
         refine dc (fun _ _ _ _ hp29 => gn rfl rfl (hp29 27 rfl rfl) rfl (d0 rfl rfl)) ?_
         refine dc (fun _ _ _ _ hp30 => gn rfl rfl (hp30 27 rfl rfl) rfl (d0 rfl rfl)) ?_
         refine dc (fun _ _ _ _ hp31 => gn rfl rfl (hp31 27 rfl rfl) rfl (d0 rfl rfl)) ?_
         refine dc (fun _ _ _ _ hp32 => gn rfl rfl (hp32 27 rfl rfl) rfl (d0 rfl rfl)) ?_
         refine dc (fun _ _ _ _ hp33 => gn rfl rfl (hp33 27 rfl rfl) rfl (d0 rfl rfl)) ?_
         refine dc (fun _ _ _ _ hp34 => gn rfl rfl (hp34 27 rfl rfl) rfl (d0 rfl rfl)) ?_
         exact DSteps.rest rfl _
        ·
         intro f36 w45 hf35 xt44 hp35
         have H51 := H4.ext xt44
         have s55 : f36 0 = pV b_a 0 := (hf35 0 rfl).trans i0
         have s56 : f36 3 = pV bb0 0 := hf35 3 rfl
         have s57 : f36 155 = .bool false := hp35 27 rfl
         refine k (gn rfl rfl s57 rfl (k (pickF rfl rfl rfl s57 rfl rfl (k (asg (v := .bool false) rfl rfl (z (nx (rg (k (asg (v := .bool false) rfl rfl (z (inb_normal ?_))))))))))))
         refine cutN ⟨false, false, s55, s56, rfl, rfl, H51, (by first | exact g4a ‹_› ‹_› | exact g4b ‹_› ‹_› ‹_› ‹_› | exact g4c ‹_› ‹_› ‹_› ‹_› ‹_› | exact g4d ‹_› ‹_› ‹_› ‹_› ‹_›), (by first | exact p_4 ‹_›)⟩
      ·
       have p4 := of_decide_eq_false b4
       refine sk (inb_normal ?_)
       refine cutN ⟨false, true, i0, rfl, rfl, rfl, H4, (by first | exact gnone ‹_› ‹_› ‹_› ‹_›), (by first | exact p_n ‹_› ‹_›)⟩
  ·
   rintro f0 w3 ⟨gd, pn, s0, s1, s2, s3, H6, hgd_, hpn_⟩
   refine sq ?_
   have H13 : HI M w w3 ([own w.heap.size 3 (.slice (some ⟨g0, 0, none⟩) 2 2) ([fr, to] : List Int), box bb0 #[iV kd, iV fr, iV to, iV sa, iV sb] 35, box b_a #[.slice a_fv n_fv c_fv, .slice a_fi fi.length c_fi, .slice a_fo fo.length c_fo, .slice a_stp stp.length c_stp, .slice a_pl pl.length c_pl] 54, imm (.slice a_fi fi.length c_fi) fi, imm (.slice a_fo fo.length c_fo) fo, own w.heap.size 35 (.slice a_stp stp.length c_stp) stp, own w.heap.size 4 (.slice a_pl pl.length c_pl) pl] ++ r) := H6
   have H14 : HI M w w3 ([own w.heap.size 3 (.slice (some ⟨g0, 0, none⟩) 2 2) ([fr, to] : List Int), box bb0 #[iV kd, iV fr, iV to, iV sa, iV sb] 35, imm (.slice a_fi fi.length c_fi) fi, imm (.slice a_fo fo.length c_fo) fo, own w.heap.size 35 (.slice a_stp stp.length c_stp) stp, own w.heap.size 4 (.slice a_pl pl.length c_pl) pl, box b_a #[.slice a_fv n_fv c_fv, .slice a_fi fi.length c_fi, .slice a_fo fo.length c_fo, .slice a_stp stp.length c_stp, .slice a_pl pl.length c_pl] 54] ++ r) := HI.pickT (l := [own w.heap.size 3 (.slice (some ⟨g0, 0, none⟩) 2 2) ([fr, to] : List Int), box bb0 #[iV kd, iV fr, iV to, iV sa, iV sb] 35, box b_a #[.slice a_fv n_fv c_fv, .slice a_fi fi.length c_fi, .slice a_fo fo.length c_fo, .slice a_stp stp.length c_stp, .slice a_pl pl.length c_pl] 54, imm (.slice a_fi fi.length c_fi) fi, imm (.slice a_fo fo.length c_fo) fo, own w.heap.size 35 (.slice a_stp stp.length c_stp) stp, own w.heap.size 4 (.slice a_pl pl.length c_pl) pl]) (l' := [own w.heap.size 3 (.slice (some ⟨g0, 0, none⟩) 2 2) ([fr, to] : List Int), box bb0 #[iV kd, iV fr, iV to, iV sa, iV sb] 35, imm (.slice a_fi fi.length c_fi) fi, imm (.slice a_fo fo.length c_fo) fo, own w.heap.size 35 (.slice a_stp stp.length c_stp) stp, own w.heap.size 4 (.slice a_pl pl.length c_pl) pl, box b_a #[.slice a_fv n_fv c_fv, .slice a_fi fi.length c_fi, .slice a_fo fo.length c_fo, .slice a_stp stp.length c_stp, .slice a_pl pl.length c_pl] 54]) (t := r) H13 [0, 1, 3, 4, 5, 6, 2] (by decide) rfl rfl
   refine drgML [none, none, none, none, none, none, none, none, none, none, none, none, none, none, none, none, none, none, some 21, none, none, none, some 8, some 15, some 18, none] [0, 0, 0, 4, 12, 28, 0, 64, 252, 0, 512, 1536, 3584, 0, 8192, 32764, 65533, 131069, 262141, 524287, 1048575, 2097151] [fun v_ => [], fun v_ => [], fun v_ => [], fun v_ => [], fun v_ => [], fun v_ => [], fun v_ => [], fun v_ => [own w.heap.size 35 (.slice (some ⟨((vA (v_ 7)).elim 0 (·.block)), 0, none⟩) 1 1) ([(kd, fr, to, sa, sb)] : List (Int × Int × Int × Int × Int))], fun v_ => [own w.heap.size 35 (.slice (vA (v_ 8)) (stp ++ ([(kd, fr, to, sa, sb)] : List (Int × Int × Int × Int × Int))).length (vC (v_ 8))) (stp ++ ([(kd, fr, to, sa, sb)] : List (Int × Int × Int × Int × Int)))], fun v_ => [], fun v_ => [], fun v_ => [], fun v_ => [], fun v_ => [], fun v_ => [own w.heap.size 4 (.slice (some ⟨((vA (v_ 14)).elim 0 (·.block)), 0, none⟩) 1 1) ([pn] : List Bool)], fun v_ => [own w.heap.size 4 (.slice (vA (v_ 15)) (pl ++ ([pn] : List Bool)).length (vC (v_ 15))) (pl ++ ([pn] : List Bool))], fun v_ => [], fun v_ => [], fun v_ => [box b_a #[.slice a_fv n_fv c_fv, .slice a_fi fi.length c_fi, .slice a_fo fo.length c_fo, .slice (vA (v_ 8)) (stp ++ ([(kd, fr, to, sa, sb)] : List (Int × Int × Int × Int × Int))).length (vC (v_ 8)), .slice a_pl pl.length c_pl] 54], fun v_ => [], fun v_ => [], fun v_ => [box b_a #[.slice a_fv n_fv c_fv, .slice a_fi fi.length c_fi, .slice a_fo fo.length c_fo, .slice (vA (v_ 8)) (stp ++ ([(kd, fr, to, sa, sb)] : List (Int × Int × Int × Int × Int))).length (vC (v_ 8)), .slice (vA (v_ 15)) (pl ++ ([pn] : List Bool)).length (vC (v_ 15))] 54], fun v_ => [own w.heap.size 35 (.slice a_stp stp.length c_stp) stp], fun v_ => [own w.heap.size 4 (.slice a_pl pl.length c_pl) pl], fun v_ => [box b_a #[.slice a_fv n_fv c_fv, .slice a_fi fi.length c_fi, .slice a_fo fo.length c_fo, .slice a_stp stp.length c_stp, .slice a_pl pl.length c_pl] 54], fun _ => r] [[], [], [], [], [], [24], [], [], [7, 22], [], [], [], [24], [], [], [14, 23], [], [], [24], [], [], [18]] [fun v_ => v_ = pV b_a 0, fun v_ => v_ = pV b_a 0, fun v_ => v_ = pV b_a 0, fun v_ => v_ = pV b_a 0, fun v_ => v_ = pV b_a 3, fun v_ => v_ = .slice a_stp stp.length c_stp, fun v_ => v_ = .agg #[iV kd, iV fr, iV to, iV sa, iV sb], fun v_ => ∃ (g1 : Nat), v_ = .slice (some ⟨g1, 0, none⟩) 1 1, fun v_ => ∃ (a0 : Option Addr) (c0 : Nat), v_ = .slice a0 (stp ++ ([(kd, fr, to, sa, sb)] : List (Int × Int × Int × Int × Int))).length c0, fun v_ => v_ = pV b_a 0, fun v_ => v_ = pV b_a 0, fun v_ => v_ = pV b_a 4, fun v_ => v_ = .slice a_pl pl.length c_pl, fun v_ => v_ = .bool pn, fun v_ => ∃ (g2 : Nat), v_ = .slice (some ⟨g2, 0, none⟩) 1 1, fun v_ => ∃ (a1 : Option Addr) (c1 : Nat), v_ = .slice a1 (pl ++ ([pn] : List Bool)).length c1, fun v_ => v_ = pV b_a 0, fun v_ => v_ = pV b_a 3, fun _ => True, fun v_ => v_ = pV b_a 0, fun v_ => v_ = pV b_a 4, fun _ => True] [own w.heap.size 3 (.slice (some ⟨g0, 0, none⟩) 2 2) ([fr, to] : List Int), box bb0 #[iV kd, iV fr, iV to, iV sa, iV sb] 35, imm (.slice a_fi fi.length c_fi) fi, imm (.slice a_fo fo.length c_fo) fo] rfl (by kernel_rfl) rfl rfl (by show HI _ _ _ ([own w.heap.size 3 (.slice (some ⟨g0, 0, none⟩) 2 2) ([fr, to] : List Int), box bb0 #[iV kd, iV fr, iV to, iV sa, iV sb] 35, imm (.slice a_fi fi.length c_fi) fi, imm (.slice a_fo fo.length c_fo) fo] ++ ([own w.heap.size 35 (.slice a_stp stp.length c_stp) stp] ++ ([own w.heap.size 4 (.slice a_pl pl.length c_pl) pl] ++ ([box b_a #[.slice a_fv n_fv c_fv, .slice a_fi fi.length c_fi, .slice a_fo fo.length c_fo, .slice a_stp stp.length c_stp, .slice a_pl pl.length c_pl] 54] ++ (r ++ []))))); rw [List.append_nil]; exact H14) ?_ ?_
   ·
    refine ⟨fun f1 w10 V_ rg_ hs0 hp0 hq0 H15 => ?_, ?_⟩
    ·
     have H16 : HI M w w10 ([own w.heap.size 3 (.slice (some ⟨g0, 0, none⟩) 2 2) ([fr, to] : List Int), box bb0 #[iV kd, iV fr, iV to, iV sa, iV sb] 35, imm (.slice a_fi fi.length c_fi) fi, imm (.slice a_fo fo.length c_fo) fo] ++ rg_) := (by have h_ : HI M w w10 ([own w.heap.size 3 (.slice (some ⟨g0, 0, none⟩) 2 2) ([fr, to] : List Int), box bb0 #[iV kd, iV fr, iV to, iV sa, iV sb] 35, imm (.slice a_fi fi.length c_fi) fi, imm (.slice a_fo fo.length c_fo) fo] ++ (rg_)) := H15; exact h_)
     refine mv rfl ((hs0 0 rfl).trans s0) ?_
     exact ⟨_, rfl, rfl, H16⟩
    refine ⟨fun f2 w11 V_ rg_ hs1 hp1 hq1 H18 => ?_, ?_⟩
    ·
     have H19 : HI M w w11 ([own w.heap.size 3 (.slice (some ⟨g0, 0, none⟩) 2 2) ([fr, to] : List Int), box bb0 #[iV kd, iV fr, iV to, iV sa, iV sb] 35, imm (.slice a_fi fi.length c_fi) fi, imm (.slice a_fo fo.length c_fo) fo] ++ rg_) := (by have h_ : HI M w w11 ([own w.heap.size 3 (.slice (some ⟨g0, 0, none⟩) 2 2) ([fr, to] : List Int), box bb0 #[iV kd, iV fr, iV to, iV sa, iV sb] 35, imm (.slice a_fi fi.length c_fi) fi, imm (.slice a_fo fo.length c_fo) fo] ++ (rg_)) := H18; exact h_)
     refine mv rfl ((hs1 0 rfl).trans s0) ?_
     exact ⟨_, rfl, rfl, H19⟩
    refine ⟨fun f3 w12 V_ rg_ hs2 hp2 hq2 H21 => ?_, ?_⟩
    ·
     have H22 : HI M w w12 ([own w.heap.size 3 (.slice (some ⟨g0, 0, none⟩) 2 2) ([fr, to] : List Int), box bb0 #[iV kd, iV fr, iV to, iV sa, iV sb] 35, imm (.slice a_fi fi.length c_fi) fi, imm (.slice a_fo fo.length c_fo) fo] ++ rg_) := (by have h_ : HI M w w12 ([own w.heap.size 3 (.slice (some ⟨g0, 0, none⟩) 2 2) ([fr, to] : List Int), box bb0 #[iV kd, iV fr, iV to, iV sa, iV sb] 35, imm (.slice a_fi fi.length c_fi) fi, imm (.slice a_fo fo.length c_fo) fo] ++ (rg_)) := H21; exact h_)
     refine mv rfl ((hs2 0 rfl).trans s0) ?_
     exact ⟨_, rfl, rfl, H22⟩
    refine ⟨fun f4 w13 V_ rg_ hs3 hp3 hq3 H24 => ?_, ?_⟩
    ·
     obtain ⟨e0, q0⟩ := hp3 2 _ rfl rfl rfl
     have e1 : V_ 2 = pV b_a 0 := q0
     have s4 : f4 167 = pV b_a 0 := e0.trans e1
     have H25 : HI M w w13 ([own w.heap.size 3 (.slice (some ⟨g0, 0, none⟩) 2 2) ([fr, to] : List Int), box bb0 #[iV kd, iV fr, iV to, iV sa, iV sb] 35, imm (.slice a_fi fi.length c_fi) fi, imm (.slice a_fo fo.length c_fo) fo] ++ rg_) := (by have h_ : HI M w w13 ([own w.heap.size 3 (.slice (some ⟨g0, 0, none⟩) 2 2) ([fr, to] : List Int), box bb0 #[iV kd, iV fr, iV to, iV sa, iV sb] 35, imm (.slice a_fi fi.length c_fi) fi, imm (.slice a_fo fo.length c_fo) fo] ++ (rg_)) := H24; exact h_)
     refine nc rfl s4 ?_
     exact ⟨_, rfl, rfl, H25⟩
    refine ⟨fun f5 w14 V_ rg_ hs4 hp4 hq4 H27 => ?_, ?_⟩
    ·
     obtain ⟨e2, q1⟩ := hp4 3 _ rfl rfl rfl
     have e3 : V_ 3 = pV b_a 0 := q1
     have s5 : f5 168 = pV b_a 0 := e2.trans e3
     have H28 : HI M w w14 ([own w.heap.size 3 (.slice (some ⟨g0, 0, none⟩) 2 2) ([fr, to] : List Int), box bb0 #[iV kd, iV fr, iV to, iV sa, iV sb] 35, imm (.slice a_fi fi.length c_fi) fi, imm (.slice a_fo fo.length c_fo) fo] ++ rg_) := (by have h_ : HI M w w14 ([own w.heap.size 3 (.slice (some ⟨g0, 0, none⟩) 2 2) ([fr, to] : List Int), box bb0 #[iV kd, iV fr, iV to, iV sa, iV sb] 35, imm (.slice a_fi fi.length c_fi) fi, imm (.slice a_fo fo.length c_fo) fo] ++ (rg_)) := H27; exact h_)
     refine fa fl54_1 rfl s5 ?_
     exact ⟨_, rfl, rfl, H28⟩
    refine ⟨fun f6 w15 V_ rg_ hs5 hp5 hq5 H30 => ?_, ?_⟩
    ·
     obtain ⟨e4, q2⟩ := hp5 4 _ rfl rfl rfl
     have e5 : V_ 4 = pV b_a 3 := q2
     have s6 : f6 169 = pV b_a 3 := e4.trans e5
     have H31 : HI M w w15 ([own w.heap.size 3 (.slice (some ⟨g0, 0, none⟩) 2 2) ([fr, to] : List Int), box bb0 #[iV kd, iV fr, iV to, iV sa, iV sb] 35, imm (.slice a_fi fi.length c_fi) fi, imm (.slice a_fo fo.length c_fo) fo, box b_a #[.slice a_fv n_fv c_fv, .slice a_fi fi.length c_fi, .slice a_fo fo.length c_fo, .slice a_stp stp.length c_stp, .slice a_pl pl.length c_pl] 54] ++ rg_) := (by have h_ : HI M w w15 ([own w.heap.size 3 (.slice (some ⟨g0, 0, none⟩) 2 2) ([fr, to] : List Int), box bb0 #[iV kd, iV fr, iV to, iV sa, iV sb] 35, imm (.slice a_fi fi.length c_fi) fi, imm (.slice a_fo fo.length c_fo) fo] ++ ([box b_a #[.slice a_fv n_fv c_fv, .slice a_fi fi.length c_fi, .slice a_fo fo.length c_fo, .slice a_stp stp.length c_stp, .slice a_pl pl.length c_pl] 54] ++ (rg_))) := H30; exact h_)
     refine ldX H31 4 rfl ty23 rfl s6 (by decide) rfl ?_
     exact ⟨_, rfl, rfl, H31⟩
    refine ⟨fun f7 w16 V_ rg_ hs6 hp6 hq6 H33 => ?_, ?_⟩
    ·
     have H34 : HI M w w16 ([own w.heap.size 3 (.slice (some ⟨g0, 0, none⟩) 2 2) ([fr, to] : List Int), box bb0 #[iV kd, iV fr, iV to, iV sa, iV sb] 35, imm (.slice a_fi fi.length c_fi) fi, imm (.slice a_fo fo.length c_fo) fo] ++ rg_) := (by have h_ : HI M w w16 ([own w.heap.size 3 (.slice (some ⟨g0, 0, none⟩) 2 2) ([fr, to] : List Int), box bb0 #[iV kd, iV fr, iV to, iV sa, iV sb] 35, imm (.slice a_fi fi.length c_fi) fi, imm (.slice a_fo fo.length c_fo) fo] ++ (rg_)) := H33; exact h_)
     refine ldX H34 1 rfl ty35 rfl ((hs6 3 rfl).trans s1) (by decide) rfl ?_
     exact ⟨_, rfl, rfl, H34⟩
    refine ⟨fun f8 w17 V_ rg_ hs7 hp7 hq7 H36 => ?_, ?_⟩
    ·
     obtain ⟨e6, q3⟩ := hp7 6 _ rfl rfl rfl
     have e7 : V_ 6 = .agg #[iV kd, iV fr, iV to, iV sa, iV sb] := q3
     have s7 : f8 171 = .agg #[iV kd, iV fr, iV to, iV sa, iV sb] := e6.trans e7
     have H37 : HI M w w17 ([own w.heap.size 3 (.slice (some ⟨g0, 0, none⟩) 2 2) ([fr, to] : List Int), box bb0 #[iV kd, iV fr, iV to, iV sa, iV sb] 35, imm (.slice a_fi fi.length c_fi) fi, imm (.slice a_fo fo.length c_fo) fo] ++ rg_) := (by have h_ : HI M w w17 ([own w.heap.size 3 (.slice (some ⟨g0, 0, none⟩) 2 2) ([fr, to] : List Int), box bb0 #[iV kd, iV fr, iV to, iV sa, iV sb] 35, imm (.slice a_fi fi.length c_fi) fi, imm (.slice a_fo fo.length c_fo) fo] ++ (rg_)) := H36; exact h_)
     refine bs (xs := ([(kd, fr, to, sa, sb)] : List (Int × Int × Int × Int × Int))) (cells := #[iV kd, iV fr, iV to, iV sa, iV sb]) (e := 35) H37 rfl (pbc s7 pb0) (fun _ => by kernel_rfl) ⟨[iV kd, iV fr, iV to, iV sa, iV sb], [], rfl, ⟨_, _, rfl, ⟨rfl, (show I64 (kd) from (by first | assumption | (unfold I64 at *; omega)))⟩, ⟨_, _, rfl, ⟨rfl, (show I64 (fr) from (by first | assumption | (unfold I64 at *; omega)))⟩, ⟨_, _, rfl, ⟨rfl, (show I64 (to) from (by first | assumption | (unfold I64 at *; omega)))⟩, ⟨_, _, rfl, ⟨rfl, (show I64 (sa) from (by first | assumption | (unfold I64 at *; omega)))⟩, ⟨rfl, (show I64 (sb) from (by first | assumption | (unfold I64 at *; omega)))⟩⟩⟩⟩⟩, rfl⟩ rfl (by unfold maxLen; omega) ?_
     intro g3 w18 xt5 (H38 : HI M w w18 ([own w.heap.size 35 (.slice (some ⟨g3, 0, none⟩) 1 1) ([(kd, fr, to, sa, sb)] : List (Int × Int × Int × Int × Int)), own w.heap.size 3 (.slice (some ⟨g0, 0, none⟩) 2 2) ([fr, to] : List Int), box bb0 #[iV kd, iV fr, iV to, iV sa, iV sb] 35, imm (.slice a_fi fi.length c_fi) fi, imm (.slice a_fo fo.length c_fo) fo] ++ rg_))
     have H39 := HI.pickT (l := [own w.heap.size 35 (.slice (some ⟨g3, 0, none⟩) 1 1) ([(kd, fr, to, sa, sb)] : List (Int × Int × Int × Int × Int)), own w.heap.size 3 (.slice (some ⟨g0, 0, none⟩) 2 2) ([fr, to] : List Int), box bb0 #[iV kd, iV fr, iV to, iV sa, iV sb] 35, imm (.slice a_fi fi.length c_fi) fi, imm (.slice a_fo fo.length c_fo) fo]) (l' := [own w.heap.size 3 (.slice (some ⟨g0, 0, none⟩) 2 2) ([fr, to] : List Int), box bb0 #[iV kd, iV fr, iV to, iV sa, iV sb] 35, imm (.slice a_fi fi.length c_fi) fi, imm (.slice a_fo fo.length c_fo) fo, own w.heap.size 35 (.slice (some ⟨g3, 0, none⟩) 1 1) ([(kd, fr, to, sa, sb)] : List (Int × Int × Int × Int × Int))]) (t := rg_) H38 [1, 2, 3, 4, 0] (by decide) rfl rfl
     exact ⟨_, rfl, ⟨g3, rfl⟩, H39⟩
    refine ⟨fun f9 w19 V_ rg_ hs8 hp8 hq8 H40 => ?_, ?_⟩
    ·
     obtain ⟨e8, q4⟩ := hp8 5 _ rfl rfl rfl
     have e9 : V_ 5 = .slice a_stp stp.length c_stp := q4
     have s8 : f9 170 = .slice a_stp stp.length c_stp := e8.trans e9
     obtain ⟨e10, q5⟩ := hp8 7 _ rfl rfl rfl
     obtain ⟨g4, e11⟩ : ∃ (g4 : Nat), V_ 7 = .slice (some ⟨g4, 0, none⟩) 1 1 := q5
     have s9 : f9 172 = .slice (some ⟨g4, 0, none⟩) 1 1 := e10.trans e11
     have H41 : HI M w w19 ([own w.heap.size 3 (.slice (some ⟨g0, 0, none⟩) 2 2) ([fr, to] : List Int), box bb0 #[iV kd, iV fr, iV to, iV sa, iV sb] 35, imm (.slice a_fi fi.length c_fi) fi, imm (.slice a_fo fo.length c_fo) fo, own w.heap.size 35 (.slice (some ⟨g4, 0, none⟩) 1 1) ([(kd, fr, to, sa, sb)] : List (Int × Int × Int × Int × Int)), own w.heap.size 35 (.slice a_stp stp.length c_stp) stp] ++ rg_) := (by have h_ : HI M w w19 ([own w.heap.size 3 (.slice (some ⟨g0, 0, none⟩) 2 2) ([fr, to] : List Int), box bb0 #[iV kd, iV fr, iV to, iV sa, iV sb] 35, imm (.slice a_fi fi.length c_fi) fi, imm (.slice a_fo fo.length c_fo) fo] ++ ([own w.heap.size 35 (.slice (some ⟨((vA (V_ 7)).elim 0 (·.block)), 0, none⟩) 1 1) ([(kd, fr, to, sa, sb)] : List (Int × Int × Int × Int × Int))] ++ ([own w.heap.size 35 (.slice a_stp stp.length c_stp) stp] ++ (rg_)))) := H40; rw [e11] at h_; exact h_)
     refine ap H41 5 rfl rfl rfl rfl s8 s9 (own_src (H41.at_ 4 rfl)) un23 ty35 rfl (by simp only [List.length_cons, List.length_nil]; omega) (by simp only [List.length_cons, List.length_nil]; omega) ?_
     intro a2 c2 w20 (H42 : HI M w w20 ([own w.heap.size 3 (.slice (some ⟨g0, 0, none⟩) 2 2) ([fr, to] : List Int), box bb0 #[iV kd, iV fr, iV to, iV sa, iV sb] 35, imm (.slice a_fi fi.length c_fi) fi, imm (.slice a_fo fo.length c_fo) fo, own w.heap.size 35 (.slice (some ⟨g4, 0, none⟩) 1 1) ([(kd, fr, to, sa, sb)] : List (Int × Int × Int × Int × Int)), own w.heap.size 35 (.slice a2 (stp ++ ([(kd, fr, to, sa, sb)] : List (Int × Int × Int × Int × Int))).length c2) (stp ++ ([(kd, fr, to, sa, sb)] : List (Int × Int × Int × Int × Int)))] ++ rg_))
     exact ⟨_, rfl, ⟨a2, c2, rfl⟩, (by have h_ := H42; rw [show (g4 : Nat) = ((vA (V_ 7)).elim 0 (·.block)) from by rw [e11] <;> rfl] at h_; exact h_)⟩
    refine ⟨fun f10 w21 V_ rg_ hs9 hp9 hq9 H44 => ?_, ?_⟩
    ·
     have H45 : HI M w w21 ([own w.heap.size 3 (.slice (some ⟨g0, 0, none⟩) 2 2) ([fr, to] : List Int), box bb0 #[iV kd, iV fr, iV to, iV sa, iV sb] 35, imm (.slice a_fi fi.length c_fi) fi, imm (.slice a_fo fo.length c_fo) fo] ++ rg_) := (by have h_ : HI M w w21 ([own w.heap.size 3 (.slice (some ⟨g0, 0, none⟩) 2 2) ([fr, to] : List Int), box bb0 #[iV kd, iV fr, iV to, iV sa, iV sb] 35, imm (.slice a_fi fi.length c_fi) fi, imm (.slice a_fo fo.length c_fo) fo] ++ (rg_)) := H44; exact h_)
     refine mv rfl ((hs9 0 rfl).trans s0) ?_
     exact ⟨_, rfl, rfl, H45⟩
    refine ⟨fun f11 w22 V_ rg_ hs10 hp10 hq10 H47 => ?_, ?_⟩
    ·
     obtain ⟨e12, q6⟩ := hp10 9 _ rfl rfl rfl
     have e13 : V_ 9 = pV b_a 0 := q6
     have s10 : f11 174 = pV b_a 0 := e12.trans e13
     have H48 : HI M w w22 ([own w.heap.size 3 (.slice (some ⟨g0, 0, none⟩) 2 2) ([fr, to] : List Int), box bb0 #[iV kd, iV fr, iV to, iV sa, iV sb] 35, imm (.slice a_fi fi.length c_fi) fi, imm (.slice a_fo fo.length c_fo) fo] ++ rg_) := (by have h_ : HI M w w22 ([own w.heap.size 3 (.slice (some ⟨g0, 0, none⟩) 2 2) ([fr, to] : List Int), box bb0 #[iV kd, iV fr, iV to, iV sa, iV sb] 35, imm (.slice a_fi fi.length c_fi) fi, imm (.slice a_fo fo.length c_fo) fo] ++ (rg_)) := H47; exact h_)
     refine nc rfl s10 ?_
     exact ⟨_, rfl, rfl, H48⟩
    refine ⟨fun f12 w23 V_ rg_ hs11 hp11 hq11 H50 => ?_, ?_⟩
    ·
     obtain ⟨e14, q7⟩ := hp11 10 _ rfl rfl rfl
     have e15 : V_ 10 = pV b_a 0 := q7
     have s11 : f12 175 = pV b_a 0 := e14.trans e15
     have H51 : HI M w w23 ([own w.heap.size 3 (.slice (some ⟨g0, 0, none⟩) 2 2) ([fr, to] : List Int), box bb0 #[iV kd, iV fr, iV to, iV sa, iV sb] 35, imm (.slice a_fi fi.length c_fi) fi, imm (.slice a_fo fo.length c_fo) fo] ++ rg_) := (by have h_ : HI M w w23 ([own w.heap.size 3 (.slice (some ⟨g0, 0, none⟩) 2 2) ([fr, to] : List Int), box bb0 #[iV kd, iV fr, iV to, iV sa, iV sb] 35, imm (.slice a_fi fi.length c_fi) fi, imm (.slice a_fo fo.length c_fo) fo] ++ (rg_)) := H50; exact h_)
     refine fa fl54_2 rfl s11 ?_
     exact ⟨_, rfl, rfl, H51⟩
    refine ⟨fun f13 w24 V_ rg_ hs12 hp12 hq12 H53 => ?_, ?_⟩
    ·
     obtain ⟨e16, q8⟩ := hp12 11 _ rfl rfl rfl
     have e17 : V_ 11 = pV b_a 4 := q8
     have s12 : f13 176 = pV b_a 4 := e16.trans e17
     have H54 : HI M w w24 ([own w.heap.size 3 (.slice (some ⟨g0, 0, none⟩) 2 2) ([fr, to] : List Int), box bb0 #[iV kd, iV fr, iV to, iV sa, iV sb] 35, imm (.slice a_fi fi.length c_fi) fi, imm (.slice a_fo fo.length c_fo) fo, box b_a #[.slice a_fv n_fv c_fv, .slice a_fi fi.length c_fi, .slice a_fo fo.length c_fo, .slice a_stp stp.length c_stp, .slice a_pl pl.length c_pl] 54] ++ rg_) := (by have h_ : HI M w w24 ([own w.heap.size 3 (.slice (some ⟨g0, 0, none⟩) 2 2) ([fr, to] : List Int), box bb0 #[iV kd, iV fr, iV to, iV sa, iV sb] 35, imm (.slice a_fi fi.length c_fi) fi, imm (.slice a_fo fo.length c_fo) fo] ++ ([box b_a #[.slice a_fv n_fv c_fv, .slice a_fi fi.length c_fi, .slice a_fo fo.length c_fo, .slice a_stp stp.length c_stp, .slice a_pl pl.length c_pl] 54] ++ (rg_))) := H53; exact h_)
     refine ldX H54 4 rfl ty52 rfl s12 (by decide) rfl ?_
     exact ⟨_, rfl, rfl, H54⟩
    refine ⟨fun f14 w25 V_ rg_ hs13 hp13 hq13 H56 => ?_, ?_⟩
    ·
     have H57 : HI M w w25 ([own w.heap.size 3 (.slice (some ⟨g0, 0, none⟩) 2 2) ([fr, to] : List Int), box bb0 #[iV kd, iV fr, iV to, iV sa, iV sb] 35, imm (.slice a_fi fi.length c_fi) fi, imm (.slice a_fo fo.length c_fo) fo] ++ rg_) := (by have h_ : HI M w w25 ([own w.heap.size 3 (.slice (some ⟨g0, 0, none⟩) 2 2) ([fr, to] : List Int), box bb0 #[iV kd, iV fr, iV to, iV sa, iV sb] 35, imm (.slice a_fi fi.length c_fi) fi, imm (.slice a_fo fo.length c_fo) fo] ++ (rg_)) := H56; exact h_)
     refine mv rfl ((hs13 6 rfl).trans s3) ?_
     exact ⟨_, rfl, rfl, H57⟩
    refine ⟨fun f15 w26 V_ rg_ hs14 hp14 hq14 H59 => ?_, ?_⟩
    ·
     obtain ⟨e18, q9⟩ := hp14 13 _ rfl rfl rfl
     have e19 : V_ 13 = .bool pn := q9
     have s13 : f15 178 = .bool pn := e18.trans e19
     have H60 : HI M w w26 ([own w.heap.size 3 (.slice (some ⟨g0, 0, none⟩) 2 2) ([fr, to] : List Int), box bb0 #[iV kd, iV fr, iV to, iV sa, iV sb] 35, imm (.slice a_fi fi.length c_fi) fi, imm (.slice a_fo fo.length c_fo) fo] ++ rg_) := (by have h_ : HI M w w26 ([own w.heap.size 3 (.slice (some ⟨g0, 0, none⟩) 2 2) ([fr, to] : List Int), box bb0 #[iV kd, iV fr, iV to, iV sa, iV sb] 35, imm (.slice a_fi fi.length c_fi) fi, imm (.slice a_fo fo.length c_fo) fo] ++ (rg_)) := H59; exact h_)
     refine bs (xs := ([pn] : List Bool)) (cells := #[.bool pn]) (e := 4) H60 rfl (pbc s13 pb0) (fun _ => by kernel_rfl) ⟨[.bool pn], [], rfl, rfl, rfl⟩ rfl (by unfold maxLen; omega) ?_
     intro g5 w27 xt6 (H61 : HI M w w27 ([own w.heap.size 4 (.slice (some ⟨g5, 0, none⟩) 1 1) ([pn] : List Bool), own w.heap.size 3 (.slice (some ⟨g0, 0, none⟩) 2 2) ([fr, to] : List Int), box bb0 #[iV kd, iV fr, iV to, iV sa, iV sb] 35, imm (.slice a_fi fi.length c_fi) fi, imm (.slice a_fo fo.length c_fo) fo] ++ rg_))
     have H62 := HI.pickT (l := [own w.heap.size 4 (.slice (some ⟨g5, 0, none⟩) 1 1) ([pn] : List Bool), own w.heap.size 3 (.slice (some ⟨g0, 0, none⟩) 2 2) ([fr, to] : List Int), box bb0 #[iV kd, iV fr, iV to, iV sa, iV sb] 35, imm (.slice a_fi fi.length c_fi) fi, imm (.slice a_fo fo.length c_fo) fo]) (l' := [own w.heap.size 3 (.slice (some ⟨g0, 0, none⟩) 2 2) ([fr, to] : List Int), box bb0 #[iV kd, iV fr, iV to, iV sa, iV sb] 35, imm (.slice a_fi fi.length c_fi) fi, imm (.slice a_fo fo.length c_fo) fo, own w.heap.size 4 (.slice (some ⟨g5, 0, none⟩) 1 1) ([pn] : List Bool)]) (t := rg_) H61 [1, 2, 3, 4, 0] (by decide) rfl rfl
     exact ⟨_, rfl, ⟨g5, rfl⟩, H62⟩
    refine ⟨fun f16 w28 V_ rg_ hs15 hp15 hq15 H63 => ?_, ?_⟩
    ·
     obtain ⟨e20, q10⟩ := hp15 12 _ rfl rfl rfl
     have e21 : V_ 12 = .slice a_pl pl.length c_pl := q10
     have s14 : f16 177 = .slice a_pl pl.length c_pl := e20.trans e21
     obtain ⟨e22, q11⟩ := hp15 14 _ rfl rfl rfl
     obtain ⟨g6, e23⟩ : ∃ (g6 : Nat), V_ 14 = .slice (some ⟨g6, 0, none⟩) 1 1 := q11
     have s15 : f16 179 = .slice (some ⟨g6, 0, none⟩) 1 1 := e22.trans e23
     have H64 : HI M w w28 ([own w.heap.size 3 (.slice (some ⟨g0, 0, none⟩) 2 2) ([fr, to] : List Int), box bb0 #[iV kd, iV fr, iV to, iV sa, iV sb] 35, imm (.slice a_fi fi.length c_fi) fi, imm (.slice a_fo fo.length c_fo) fo, own w.heap.size 4 (.slice (some ⟨g6, 0, none⟩) 1 1) ([pn] : List Bool), own w.heap.size 4 (.slice a_pl pl.length c_pl) pl] ++ rg_) := (by have h_ : HI M w w28 ([own w.heap.size 3 (.slice (some ⟨g0, 0, none⟩) 2 2) ([fr, to] : List Int), box bb0 #[iV kd, iV fr, iV to, iV sa, iV sb] 35, imm (.slice a_fi fi.length c_fi) fi, imm (.slice a_fo fo.length c_fo) fo] ++ ([own w.heap.size 4 (.slice (some ⟨((vA (V_ 14)).elim 0 (·.block)), 0, none⟩) 1 1) ([pn] : List Bool)] ++ ([own w.heap.size 4 (.slice a_pl pl.length c_pl) pl] ++ (rg_)))) := H63; rw [e23] at h_; exact h_)
     refine ap H64 5 rfl rfl rfl rfl s14 s15 (own_src (H64.at_ 4 rfl)) un52 ty4 rfl (by simp only [List.length_cons, List.length_nil]; omega) (by simp only [List.length_cons, List.length_nil]; omega) ?_
     intro a3 c3 w29 (H65 : HI M w w29 ([own w.heap.size 3 (.slice (some ⟨g0, 0, none⟩) 2 2) ([fr, to] : List Int), box bb0 #[iV kd, iV fr, iV to, iV sa, iV sb] 35, imm (.slice a_fi fi.length c_fi) fi, imm (.slice a_fo fo.length c_fo) fo, own w.heap.size 4 (.slice (some ⟨g6, 0, none⟩) 1 1) ([pn] : List Bool), own w.heap.size 4 (.slice a3 (pl ++ ([pn] : List Bool)).length c3) (pl ++ ([pn] : List Bool))] ++ rg_))
     exact ⟨_, rfl, ⟨a3, c3, rfl⟩, (by have h_ := H65; rw [show (g6 : Nat) = ((vA (V_ 14)).elim 0 (·.block)) from by rw [e23] <;> rfl] at h_; exact h_)⟩
    refine ⟨fun f17 w30 V_ rg_ hs16 hp16 hq16 H67 => ?_, ?_⟩
    ·
     obtain ⟨e24, q12⟩ := hp16 0 _ rfl rfl rfl
     have e25 : V_ 0 = pV b_a 0 := q12
     have s16 : f17 165 = pV b_a 0 := e24.trans e25
     have H68 : HI M w w30 ([own w.heap.size 3 (.slice (some ⟨g0, 0, none⟩) 2 2) ([fr, to] : List Int), box bb0 #[iV kd, iV fr, iV to, iV sa, iV sb] 35, imm (.slice a_fi fi.length c_fi) fi, imm (.slice a_fo fo.length c_fo) fo] ++ rg_) := (by have h_ : HI M w w30 ([own w.heap.size 3 (.slice (some ⟨g0, 0, none⟩) 2 2) ([fr, to] : List Int), box bb0 #[iV kd, iV fr, iV to, iV sa, iV sb] 35, imm (.slice a_fi fi.length c_fi) fi, imm (.slice a_fo fo.length c_fo) fo] ++ (rg_)) := H67; exact h_)
     refine nc rfl s16 ?_
     exact ⟨_, rfl, rfl, H68⟩
    refine ⟨fun f18 w31 V_ rg_ hs17 hp17 hq17 H70 => ?_, ?_⟩
    ·
     obtain ⟨e26, q13⟩ := hp17 16 _ rfl rfl rfl
     have e27 : V_ 16 = pV b_a 0 := q13
     have s17 : f18 181 = pV b_a 0 := e26.trans e27
     have H71 : HI M w w31 ([own w.heap.size 3 (.slice (some ⟨g0, 0, none⟩) 2 2) ([fr, to] : List Int), box bb0 #[iV kd, iV fr, iV to, iV sa, iV sb] 35, imm (.slice a_fi fi.length c_fi) fi, imm (.slice a_fo fo.length c_fo) fo] ++ rg_) := (by have h_ : HI M w w31 ([own w.heap.size 3 (.slice (some ⟨g0, 0, none⟩) 2 2) ([fr, to] : List Int), box bb0 #[iV kd, iV fr, iV to, iV sa, iV sb] 35, imm (.slice a_fi fi.length c_fi) fi, imm (.slice a_fo fo.length c_fo) fo] ++ (rg_)) := H70; exact h_)
     refine fa fl54_1 rfl s17 ?_
     exact ⟨_, rfl, rfl, H71⟩
    refine ⟨fun f19 w32 V_ rg_ hs18 hp18 hq18 H73 => ?_, ?_⟩
    ·
     obtain ⟨e28, q14⟩ := hp18 8 _ rfl rfl rfl
     obtain ⟨a4, c4, e29⟩ : ∃ (a4 : Option Addr) (c4 : Nat), V_ 8 = .slice a4 (stp ++ ([(kd, fr, to, sa, sb)] : List (Int × Int × Int × Int × Int))).length c4 := q14
     have s18 : f19 173 = .slice a4 (stp ++ ([(kd, fr, to, sa, sb)] : List (Int × Int × Int × Int × Int))).length c4 := e28.trans e29
     obtain ⟨e30, q15⟩ := hp18 17 _ rfl rfl rfl
     have e31 : V_ 17 = pV b_a 3 := q15
     have s19 : f19 182 = pV b_a 3 := e30.trans e31
     have H74 : HI M w w32 ([own w.heap.size 3 (.slice (some ⟨g0, 0, none⟩) 2 2) ([fr, to] : List Int), box bb0 #[iV kd, iV fr, iV to, iV sa, iV sb] 35, imm (.slice a_fi fi.length c_fi) fi, imm (.slice a_fo fo.length c_fo) fo, box b_a #[.slice a_fv n_fv c_fv, .slice a_fi fi.length c_fi, .slice a_fo fo.length c_fo, .slice a_stp stp.length c_stp, .slice a_pl pl.length c_pl] 54] ++ rg_) := (by have h_ : HI M w w32 ([own w.heap.size 3 (.slice (some ⟨g0, 0, none⟩) 2 2) ([fr, to] : List Int), box bb0 #[iV kd, iV fr, iV to, iV sa, iV sb] 35, imm (.slice a_fi fi.length c_fi) fi, imm (.slice a_fo fo.length c_fo) fo] ++ ([box b_a #[.slice a_fv n_fv c_fv, .slice a_fi fi.length c_fi, .slice a_fo fo.length c_fo, .slice a_stp stp.length c_stp, .slice a_pl pl.length c_pl] 54] ++ (rg_))) := H73; exact h_)
     refine stX H74 4 rfl ty23 rfl rfl s19 s18 rfl rfl rfl ?_
     intro w33 (H75 : HI M w w33 ([own w.heap.size 3 (.slice (some ⟨g0, 0, none⟩) 2 2) ([fr, to] : List Int), box bb0 #[iV kd, iV fr, iV to, iV sa, iV sb] 35, imm (.slice a_fi fi.length c_fi) fi, imm (.slice a_fo fo.length c_fo) fo, box b_a #[.slice a_fv n_fv c_fv, .slice a_fi fi.length c_fi, .slice a_fo fo.length c_fo, .slice a4 (stp ++ ([(kd, fr, to, sa, sb)] : List (Int × Int × Int × Int × Int))).length c4, .slice a_pl pl.length c_pl] 54] ++ rg_))
     exact ⟨undef, rfl, trivial, (by have h_ := H75; rw [show (a4 : Option Addr) = (vA (V_ 8)) from by rw [e29] <;> rfl, show (c4 : Nat) = (vC (V_ 8)) from by rw [e29] <;> rfl] at h_; exact h_)⟩
    refine ⟨fun f20 w34 V_ rg_ hs19 hp19 hq19 H77 => ?_, ?_⟩
    ·
     obtain ⟨e32, q16⟩ := hp19 1 _ rfl rfl rfl
     have e33 : V_ 1 = pV b_a 0 := q16
     have s20 : f20 166 = pV b_a 0 := e32.trans e33
     have H78 : HI M w w34 ([own w.heap.size 3 (.slice (some ⟨g0, 0, none⟩) 2 2) ([fr, to] : List Int), box bb0 #[iV kd, iV fr, iV to, iV sa, iV sb] 35, imm (.slice a_fi fi.length c_fi) fi, imm (.slice a_fo fo.length c_fo) fo] ++ rg_) := (by have h_ : HI M w w34 ([own w.heap.size 3 (.slice (some ⟨g0, 0, none⟩) 2 2) ([fr, to] : List Int), box bb0 #[iV kd, iV fr, iV to, iV sa, iV sb] 35, imm (.slice a_fi fi.length c_fi) fi, imm (.slice a_fo fo.length c_fo) fo] ++ (rg_)) := H77; exact h_)
     refine nc rfl s20 ?_
     exact ⟨_, rfl, rfl, H78⟩
    refine ⟨fun f21 w35 V_ rg_ hs20 hp20 hq20 H80 => ?_, ?_⟩
    ·
     obtain ⟨e34, q17⟩ := hp20 19 _ rfl rfl rfl
     have e35 : V_ 19 = pV b_a 0 := q17
     have s21 : f21 183 = pV b_a 0 := e34.trans e35
     have H81 : HI M w w35 ([own w.heap.size 3 (.slice (some ⟨g0, 0, none⟩) 2 2) ([fr, to] : List Int), box bb0 #[iV kd, iV fr, iV to, iV sa, iV sb] 35, imm (.slice a_fi fi.length c_fi) fi, imm (.slice a_fo fo.length c_fo) fo] ++ rg_) := (by have h_ : HI M w w35 ([own w.heap.size 3 (.slice (some ⟨g0, 0, none⟩) 2 2) ([fr, to] : List Int), box bb0 #[iV kd, iV fr, iV to, iV sa, iV sb] 35, imm (.slice a_fi fi.length c_fi) fi, imm (.slice a_fo fo.length c_fo) fo] ++ (rg_)) := H80; exact h_)
     refine fa fl54_2 rfl s21 ?_
     exact ⟨_, rfl, rfl, H81⟩
    refine ⟨fun f22 w36 V_ rg_ hs21 hp21 hq21 H83 => ?_, ?_⟩
    ·
     obtain ⟨e36, q18⟩ := hp21 15 _ rfl rfl rfl
     obtain ⟨a5, c5, e37⟩ : ∃ (a5 : Option Addr) (c5 : Nat), V_ 15 = .slice a5 (pl ++ ([pn] : List Bool)).length c5 := q18
     have s22 : f22 180 = .slice a5 (pl ++ ([pn] : List Bool)).length c5 := e36.trans e37
     obtain ⟨e38, q19⟩ := hp21 20 _ rfl rfl rfl
     have e39 : V_ 20 = pV b_a 4 := q19
     have s23 : f22 184 = pV b_a 4 := e38.trans e39
     obtain ⟨e40, q20⟩ := hp21 8 _ rfl rfl rfl
     obtain ⟨a6, c6, e41⟩ : ∃ (a6 : Option Addr) (c6 : Nat), V_ 8 = .slice a6 (stp ++ ([(kd, fr, to, sa, sb)] : List (Int × Int × Int × Int × Int))).length c6 := q20
     have H84 : HI M w w36 ([own w.heap.size 3 (.slice (some ⟨g0, 0, none⟩) 2 2) ([fr, to] : List Int), box bb0 #[iV kd, iV fr, iV to, iV sa, iV sb] 35, imm (.slice a_fi fi.length c_fi) fi, imm (.slice a_fo fo.length c_fo) fo, box b_a #[.slice a_fv n_fv c_fv, .slice a_fi fi.length c_fi, .slice a_fo fo.length c_fo, .slice a6 (stp ++ ([(kd, fr, to, sa, sb)] : List (Int × Int × Int × Int × Int))).length c6, .slice a_pl pl.length c_pl] 54] ++ rg_) := (by have h_ : HI M w w36 ([own w.heap.size 3 (.slice (some ⟨g0, 0, none⟩) 2 2) ([fr, to] : List Int), box bb0 #[iV kd, iV fr, iV to, iV sa, iV sb] 35, imm (.slice a_fi fi.length c_fi) fi, imm (.slice a_fo fo.length c_fo) fo] ++ ([box b_a #[.slice a_fv n_fv c_fv, .slice a_fi fi.length c_fi, .slice a_fo fo.length c_fo, .slice (vA (V_ 8)) (stp ++ ([(kd, fr, to, sa, sb)] : List (Int × Int × Int × Int × Int))).length (vC (V_ 8)), .slice a_pl pl.length c_pl] 54] ++ (rg_))) := H83; rw [e41] at h_; exact h_)
     refine stX H84 4 rfl ty52 rfl rfl s23 s22 rfl rfl rfl ?_
     intro w37 (H85 : HI M w w37 ([own w.heap.size 3 (.slice (some ⟨g0, 0, none⟩) 2 2) ([fr, to] : List Int), box bb0 #[iV kd, iV fr, iV to, iV sa, iV sb] 35, imm (.slice a_fi fi.length c_fi) fi, imm (.slice a_fo fo.length c_fo) fo, box b_a #[.slice a_fv n_fv c_fv, .slice a_fi fi.length c_fi, .slice a_fo fo.length c_fo, .slice a6 (stp ++ ([(kd, fr, to, sa, sb)] : List (Int × Int × Int × Int × Int))).length c6, .slice a5 (pl ++ ([pn] : List Bool)).length c5] 54] ++ rg_))
     exact ⟨undef, rfl, trivial, (by have h_ := H85; rw [show (a5 : Option Addr) = (vA (V_ 15)) from by rw [e37] <;> rfl, show (c5 : Nat) = (vC (V_ 15)) from by rw [e37] <;> rfl, show (a6 : Option Addr) = (vA (V_ 8)) from by rw [e41] <;> rfl, show (c6 : Nat) = (vC (V_ 8)) from by rw [e41] <;> rfl] at h_; exact h_)⟩
    exact trivial
   ·
    intro f23 w38 V_ hs22 hp22 H87
    obtain ⟨e42, q21⟩ := hp22 7 _ rfl rfl
    obtain ⟨g7, e43⟩ : ∃ (g7 : Nat), V_ 7 = .slice (some ⟨g7, 0, none⟩) 1 1 := q21
    obtain ⟨e44, q22⟩ := hp22 8 _ rfl rfl
    obtain ⟨a7, c7, e45⟩ : ∃ (a7 : Option Addr) (c7 : Nat), V_ 8 = .slice a7 (stp ++ ([(kd, fr, to, sa, sb)] : List (Int × Int × Int × Int × Int))).length c7 := q22
    obtain ⟨e46, q23⟩ := hp22 14 _ rfl rfl
    obtain ⟨g8, e47⟩ : ∃ (g8 : Nat), V_ 14 = .slice (some ⟨g8, 0, none⟩) 1 1 := q23
    obtain ⟨e48, q24⟩ := hp22 15 _ rfl rfl
    obtain ⟨a8, c8, e49⟩ : ∃ (a8 : Option Addr) (c8 : Nat), V_ 15 = .slice a8 (pl ++ ([pn] : List Bool)).length c8 := q24
    have s29 : f23 5 = .bool gd := (hs22 5 rfl).trans s2
    have H88 : HI M w w38 ([own w.heap.size 3 (.slice (some ⟨g0, 0, none⟩) 2 2) ([fr, to] : List Int), box bb0 #[iV kd, iV fr, iV to, iV sa, iV sb] 35, imm (.slice a_fi fi.length c_fi) fi, imm (.slice a_fo fo.length c_fo) fo, own w.heap.size 35 (.slice (some ⟨g7, 0, none⟩) 1 1) ([(kd, fr, to, sa, sb)] : List (Int × Int × Int × Int × Int)), own w.heap.size 35 (.slice a7 (stp ++ ([(kd, fr, to, sa, sb)] : List (Int × Int × Int × Int × Int))).length c7) (stp ++ ([(kd, fr, to, sa, sb)] : List (Int × Int × Int × Int × Int))), own w.heap.size 4 (.slice (some ⟨g8, 0, none⟩) 1 1) ([pn] : List Bool), own w.heap.size 4 (.slice a8 (pl ++ ([pn] : List Bool)).length c8) (pl ++ ([pn] : List Bool)), box b_a #[.slice a_fv n_fv c_fv, .slice a_fi fi.length c_fi, .slice a_fo fo.length c_fo, .slice a7 (stp ++ ([(kd, fr, to, sa, sb)] : List (Int × Int × Int × Int × Int))).length c7, .slice a8 (pl ++ ([pn] : List Bool)).length c8] 54] ++ r) := (by have h_ : HI M w w38 ([own w.heap.size 3 (.slice (some ⟨g0, 0, none⟩) 2 2) ([fr, to] : List Int), box bb0 #[iV kd, iV fr, iV to, iV sa, iV sb] 35, imm (.slice a_fi fi.length c_fi) fi, imm (.slice a_fo fo.length c_fo) fo] ++ ([] ++ ([] ++ ([] ++ ([] ++ ([] ++ ([] ++ ([] ++ ([own w.heap.size 35 (.slice (some ⟨((vA (V_ 7)).elim 0 (·.block)), 0, none⟩) 1 1) ([(kd, fr, to, sa, sb)] : List (Int × Int × Int × Int × Int))] ++ ([own w.heap.size 35 (.slice (vA (V_ 8)) (stp ++ ([(kd, fr, to, sa, sb)] : List (Int × Int × Int × Int × Int))).length (vC (V_ 8))) (stp ++ ([(kd, fr, to, sa, sb)] : List (Int × Int × Int × Int × Int)))] ++ ([] ++ ([] ++ ([] ++ ([] ++ ([] ++ ([own w.heap.size 4 (.slice (some ⟨((vA (V_ 14)).elim 0 (·.block)), 0, none⟩) 1 1) ([pn] : List Bool)] ++ ([own w.heap.size 4 (.slice (vA (V_ 15)) (pl ++ ([pn] : List Bool)).length (vC (V_ 15))) (pl ++ ([pn] : List Bool))] ++ ([] ++ ([] ++ ([] ++ ([] ++ ([box b_a #[.slice a_fv n_fv c_fv, .slice a_fi fi.length c_fi, .slice a_fo fo.length c_fo, .slice (vA (V_ 8)) (stp ++ ([(kd, fr, to, sa, sb)] : List (Int × Int × Int × Int × Int))).length (vC (V_ 8)), .slice (vA (V_ 15)) (pl ++ ([pn] : List Bool)).length (vC (V_ 15))] 54] ++ (r ++ ([])))))))))))))))))))))))) := (by refine cast ?_ H87; kernel_rfl); rw [e43] at h_; rw [e45] at h_; rw [e47] at h_; rw [e49] at h_; rw [List.append_nil] at h_; exact h_)
    refine nx (sq (rg (k (mv rfl s29 (k (asg (v := .bool gd) rfl rfl (z (nx (rt (r1 rfl rfl ?_))))))))))
    have H89 := HI.pickT (l := [own w.heap.size 3 (.slice (some ⟨g0, 0, none⟩) 2 2) ([fr, to] : List Int), box bb0 #[iV kd, iV fr, iV to, iV sa, iV sb] 35, imm (.slice a_fi fi.length c_fi) fi, imm (.slice a_fo fo.length c_fo) fo, own w.heap.size 35 (.slice (some ⟨g7, 0, none⟩) 1 1) ([(kd, fr, to, sa, sb)] : List (Int × Int × Int × Int × Int)), own w.heap.size 35 (.slice a7 (stp ++ ([(kd, fr, to, sa, sb)] : List (Int × Int × Int × Int × Int))).length c7) (stp ++ ([(kd, fr, to, sa, sb)] : List (Int × Int × Int × Int × Int))), own w.heap.size 4 (.slice (some ⟨g8, 0, none⟩) 1 1) ([pn] : List Bool), own w.heap.size 4 (.slice a8 (pl ++ ([pn] : List Bool)).length c8) (pl ++ ([pn] : List Bool)), box b_a #[.slice a_fv n_fv c_fv, .slice a_fi fi.length c_fi, .slice a_fo fo.length c_fo, .slice a7 (stp ++ ([(kd, fr, to, sa, sb)] : List (Int × Int × Int × Int × Int))).length c7, .slice a8 (pl ++ ([pn] : List Bool)).length c8] 54]) (l' := [box b_a #[.slice a_fv n_fv c_fv, .slice a_fi fi.length c_fi, .slice a_fo fo.length c_fo, .slice a7 (stp ++ ([(kd, fr, to, sa, sb)] : List (Int × Int × Int × Int × Int))).length c7, .slice a8 (pl ++ ([pn] : List Bool)).length c8] 54, imm (.slice a_fi fi.length c_fi) fi, imm (.slice a_fo fo.length c_fo) fo, own w.heap.size 35 (.slice a7 (stp ++ ([(kd, fr, to, sa, sb)] : List (Int × Int × Int × Int × Int))).length c7) (stp ++ ([(kd, fr, to, sa, sb)] : List (Int × Int × Int × Int × Int))), own w.heap.size 4 (.slice a8 (pl ++ ([pn] : List Bool)).length c8) (pl ++ ([pn] : List Bool))]) (t := r) H88 [8, 2, 3, 5, 7] (by decide) rfl rfl
    have e50 : (gd : Bool) = nxG fi fo stp (kd, fr, to, sa, sb) := by first | exact nx_no hk1_ | exact nx_yes hk0_ hgd_
    have e51 : ((stp ++ ([(kd, fr, to, sa, sb)] : List (Int × Int × Int × Int × Int))) : List _) = (nxS fi stp (kd, fr, to, sa, sb)) := by first | exact nxS_no hk1_ | exact nxS_yes hk0_
    have e52 : ((pl ++ ([pn] : List Bool)) : List _) = (nxP fi stp pl (kd, fr, to, sa, sb)) := by first | exact nxP_no hk1_ | exact nxP_yes hk0_ hpn_
    try rw [← e50]
    try rw [← e51]
    try rw [← e52]
    refine ⟨a7, c7, a8, c8, ?_, ?_⟩
    · first | rfl | simp only [e50, e51, e52] | (simp only [List.length_set])
    · first | exact H89 | simpa only [e50, e51, e52, List.length_set] using H89
end Go.Proofs.YtefcbihikknlkaaDoor
namespace Go.Proofs.YtefcbihikknlkaaDoor
open Go.Ew Go.RowKit
set_option linter.unusedVariables false
set_option linter.unusedSimpArgs false
attribute [local irreducible] WL WC SO Code.wp wpList retQ Ret
attribute [local irreducible] bitB hasW inR hasR setR countW countR subR words newR listR orR firstW tab8
theorem go25 : GoF Tryd.prog 25 := ⟨_, _, Tryd.func25, rfl, by kernel_rfl⟩
theorem go14 : GoF Tryd.prog 14 := ⟨_, _, Tryd.func14, rfl, by kernel_rfl⟩
theorem go40 : GoF Tryd.prog 40 := ⟨_, _, Tryd.func40, rfl, by kernel_rfl⟩
theorem go42 : GoF Tryd.prog 42 := ⟨_, _, Tryd.func42, rfl, by kernel_rfl⟩
theorem fl43_0 : FldF Tryd.prog 43 0 0 := ⟨_, _, Tryd.underlying43, rfl, rfl, by kernel_rfl⟩
theorem fl43_2 : FldF Tryd.prog 43 2 2 := ⟨_, _, Tryd.underlying43, rfl, rfl, by kernel_rfl⟩
theorem fl43_3 : FldF Tryd.prog 43 3 3 := ⟨_, _, Tryd.underlying43, rfl, rfl, by kernel_rfl⟩
theorem fl43_4 : FldF Tryd.prog 43 4 4 := ⟨_, _, Tryd.underlying43, rfl, rfl, by kernel_rfl⟩
theorem fl43_6 : FldF Tryd.prog 43 6 6 := ⟨_, _, Tryd.underlying43, rfl, rfl, by kernel_rfl⟩
theorem fl43_7 : FldF Tryd.prog 43 7 7 := ⟨_, _, Tryd.underlying43, rfl, rfl, by kernel_rfl⟩
theorem fl43_1 : FldF Tryd.prog 43 1 1 := ⟨_, _, Tryd.underlying43, rfl, rfl, by kernel_rfl⟩
set_option maxRecDepth 100000 in
set_option maxHeartbeats 1600000 in
theorem aud_take {M : Nat → Prop} {w w_ : World} {r : List Go.Ew.Item} {b_a : Nat} {a_fv : Option Addr} {n_fv c_fv : Nat} {a_fi : Option Addr} {c_fi : Nat} {fi : List (Int × Int × Bool × Int × Int)} {a_fo : Option Addr} {c_fo : Nat} {fo : List Int} {a_stp : Option Addr} {c_stp : Nat} {stp : List (Int × Int × Int × Int × Int)} {a_pl : Option Addr} {c_pl : Nat} {pl : List Bool} {a_l : Option Addr} {c_l : Nat} {l : List (Int × Int × Int × Int × Int)} (ho : OrdI fi) (hn_fi : fi.length ≤ 4096) (hfo : fo.length = fi.length) (hpl : pl.length = stp.length) (hst : stp.length + l.length ≤ 100000) (H : HI M w w_ ([box b_a #[.slice a_fv n_fv c_fv, .slice a_fi fi.length c_fi, .slice a_fo fo.length c_fo, .slice a_stp stp.length c_stp, .slice a_pl pl.length c_pl] 54, imm (.slice a_fi fi.length c_fi) fi, imm (.slice a_fo fo.length c_fo) fo, own w.heap.size 35 (.slice a_stp stp.length c_stp) stp, own w.heap.size 4 (.slice a_pl pl.length c_pl) pl, imm (.slice a_l l.length c_l) l] ++ r)) : Calls Tryd.prog 14 #[pV b_a 0, .slice a_l l.length c_l] w_ (Ret fun v w' => ∃ (a'_stp : Option Addr) (c'_stp : Nat) (a'_pl : Option Addr) (c'_pl : Nat), v = .bool ((takeO fi fo stp pl l).1) ∧ HI M w w' ([box b_a #[.slice a_fv n_fv c_fv, .slice a_fi fi.length c_fi, .slice a_fo fo.length c_fo, .slice a'_stp ((takeO fi fo stp pl l).2.1).length c'_stp, .slice a'_pl ((takeO fi fo stp pl l).2.2).length c'_pl] 54, imm (.slice a_fi fi.length c_fi) fi, imm (.slice a_fo fo.length c_fo) fo, own w.heap.size 35 (.slice a'_stp ((takeO fi fo stp pl l).2.1).length c'_stp) ((takeO fi fo stp pl l).2.1), own w.heap.size 4 (.slice a'_pl ((takeO fi fo stp pl l).2.2).length c'_pl) ((takeO fi fo stp pl l).2.2), imm (.slice a_l l.length c_l) l] ++ r)) := by
 refine enter 18 Tryd.func14 rfl rfl rfl fun f0 ha => ?_
 have ln_fi := rv_len (H.rv 1 rfl)
 have ln_fo := rv_len (H.rv 2 rfl)
 have ln_stp := own_len_ (H.at_ 3 rfl)
 have ln_pl := own_len_ (H.at_ 4 rfl)
 have ln_l := rv_len (H.rv 5 rfl)
 have i0 : f0 0 = pV b_a 0 := ha 0 (by simp)
 have i1 : f0 1 = .slice a_l l.length c_l := ha 1 (by simp)
 refine sq (rg (k (asg (v := .bool false) rfl rfl (z (nx (sq (sq (rg (k (mv rfl i1 (k (lnS rfl rfl un23 (k (mv (v := iV 0) rfl rfl (z (nx (bk ?_)))))))))))))))))
 refine lp (fun m f w' => ∃ (j_ : Nat) (st_ : List (Int × Int × Int × Int × Int)) (pq_ : List Bool) (a0 : Option Addr) (c0 : Nat) (a1 : Option Addr) (c1 : Nat), m = l.length - j_ ∧ f 0 = pV b_a 0 ∧ f 7 = .slice a_l l.length c_l ∧ f 8 = iV (l.length : Int) ∧ f 9 = iV (j_ : Int) ∧  HI M w w' ([box b_a #[.slice a_fv n_fv c_fv, .slice a_fi fi.length c_fi, .slice a_fo fo.length c_fo, .slice a0 st_.length c0, .slice a1 pq_.length c1] 54, imm (.slice a_fi fi.length c_fi) fi, imm (.slice a_fo fo.length c_fo) fo, own w.heap.size 35 (.slice a0 st_.length c0) st_, own w.heap.size 4 (.slice a1 pq_.length c1) pq_, imm (.slice a_l l.length c_l) l] ++ r) ∧ (j_ ≤ l.length) ∧ (takeO fi fo stp pl l = takeO fi fo st_ pq_ (l.drop j_)) ∧ (st_.length = stp.length + j_) ∧ (pq_.length = st_.length)) _ ⟨0, stp, pl, a_stp, c_stp, a_pl, c_pl, rfl, i0, rfl, rfl, (ieq rfl (by first | rfl | omega | simp)), H, (by first | assumption | omega | simp | (simp; omega)), (by rfl), (by rfl), (by exact hpl)⟩ ?_
 rintro _ f0 w0 ⟨j_, st_, pq_, a0, c0, a1, c1, rfl, s0, s1, s2, s3, H0, hj_, hs, hl1_, hl2_⟩
 refine sq (rg (k (lss rfl rfl s3 s2 (z (nx (sq ?_))))))
 refine cd (b := decide ((j_ : Int) < (l.length : Int))) rfl rfl (fun b0 => ?_) (fun b0 => ?_)
 ·
  have p0 := of_decide_eq_true b0
  refine sk (nx (sq (bk (sq (rg (k (ia (H0.rv 5 rfl) rfl rfl s1 s3 (by first | omega | (simp; omega)) un23 ty35 ?_)))))))
  intro ad0 x0 hx0 hA0
  refine k (ldW hA0.w ty35 rfl rfl ?_)
  intro v0 rv0
  obtain ⟨_, ⟨_, _, rfl, ⟨rfl, rv1⟩, ⟨_, _, rfl, ⟨rfl, rv2⟩, ⟨_, _, rfl, ⟨rfl, rv3⟩, ⟨_, _, rfl, ⟨rfl, rv4⟩, ⟨rfl, rv5⟩⟩⟩⟩⟩, rfl⟩ := rv0
  refine k (al H0 ty35 ?_)
  intro bb0 w1 xt0 (H1 : HI M w w1 ([box bb0 #[iV 0, iV 0, iV 0, iV 0, iV 0] 35, box b_a #[.slice a_fv n_fv c_fv, .slice a_fi fi.length c_fi, .slice a_fo fo.length c_fo, .slice a0 st_.length c0, .slice a1 pq_.length c1] 54, imm (.slice a_fi fi.length c_fi) fi, imm (.slice a_fo fo.length c_fo) fo, own w.heap.size 35 (.slice a0 st_.length c0) st_, own w.heap.size 4 (.slice a1 pq_.length c1) pq_, imm (.slice a_l l.length c_l) l] ++ r))
  refine k (stX H1 0 rfl ty35 rfl rfl rfl rfl rfl rfl rfl ?_)
  intro w2 (H2 : HI M w w2 ([box bb0 #[iV x0.1, iV x0.2.1, iV x0.2.2.1, iV x0.2.2.2.1, iV x0.2.2.2.2] 35, box b_a #[.slice a_fv n_fv c_fv, .slice a_fi fi.length c_fi, .slice a_fo fo.length c_fo, .slice a0 st_.length c0, .slice a1 pq_.length c1] 54, imm (.slice a_fi fi.length c_fi) fi, imm (.slice a_fo fo.length c_fo) fo, own w.heap.size 35 (.slice a0 st_.length c0) st_, own w.heap.size 4 (.slice a1 pq_.length c1) pq_, imm (.slice a_l l.length c_l) l] ++ r))
  refine z (nx (sq (rg (k (mv rfl s0 (k (ldX H2 0 rfl ty35 rfl rfl (by decide) rfl (k ?_))))))))
  have H3 : HI M w w2 ([box b_a #[.slice a_fv n_fv c_fv, .slice a_fi fi.length c_fi, .slice a_fo fo.length c_fo, .slice a0 st_.length c0, .slice a1 pq_.length c1] 54, imm (.slice a_fi fi.length c_fi) fi, imm (.slice a_fo fo.length c_fo) fo, own w.heap.size 35 (.slice a0 st_.length c0) st_, own w.heap.size 4 (.slice a1 pq_.length c1) pq_] ++ ([box bb0 #[iV x0.1, iV x0.2.1, iV x0.2.2.1, iV x0.2.2.2.1, iV x0.2.2.2.2] 35, imm (.slice a_l l.length c_l) l] ++ r)) := HI.pickT (l := [box bb0 #[iV x0.1, iV x0.2.1, iV x0.2.2.1, iV x0.2.2.2.1, iV x0.2.2.2.2] 35, box b_a #[.slice a_fv n_fv c_fv, .slice a_fi fi.length c_fi, .slice a_fo fo.length c_fo, .slice a0 st_.length c0, .slice a1 pq_.length c1] 54, imm (.slice a_fi fi.length c_fi) fi, imm (.slice a_fo fo.length c_fo) fo, own w.heap.size 35 (.slice a0 st_.length c0) st_, own w.heap.size 4 (.slice a1 pq_.length c1) pq_, imm (.slice a_l l.length c_l) l]) (l' := [box b_a #[.slice a_fv n_fv c_fv, .slice a_fi fi.length c_fi, .slice a_fo fo.length c_fo, .slice a0 st_.length c0, .slice a1 pq_.length c1] 54, imm (.slice a_fi fi.length c_fi) fi, imm (.slice a_fo fo.length c_fo) fo, own w.heap.size 35 (.slice a0 st_.length c0) st_, own w.heap.size 4 (.slice a1 pq_.length c1) pq_, box bb0 #[iV x0.1, iV x0.2.1, iV x0.2.2.1, iV x0.2.2.2.1, iV x0.2.2.2.2] 35, imm (.slice a_l l.length c_l) l]) (t := r) H2 [1, 2, 3, 4, 5, 0, 6] (by decide) rfl rfl
  have cc0 := aud_next (b_a := b_a) (a_fv := a_fv) (n_fv := n_fv) (c_fv := c_fv) (a_fi := a_fi) (c_fi := c_fi) (fi := fi) (a_fo := a_fo) (c_fo := c_fo) (fo := fo) (a_stp := a0) (c_stp := c0) (stp := st_) (a_pl := a1) (c_pl := c1) (pl := pq_) (kd := x0.1) (fr := x0.2.1) (to := x0.2.2.1) (sa := x0.2.2.2.1) (sb := x0.2.2.2.2) (w := w) (w_ := w2) (r := ([box bb0 #[iV x0.1, iV x0.2.1, iV x0.2.2.1, iV x0.2.2.2.1, iV x0.2.2.2.2] 35, imm (.slice a_l l.length c_l) l] ++ r)) (M := M) (by first | assumption | (unfold I64 at *; omega)) (by first | assumption | (unfold I64 at *; omega)) (by first | assumption | (unfold I64 at *; omega)) (by first | assumption | (unfold I64 at *; omega)) (by first | assumption | (unfold I64 at *; omega)) (by exact ho) (by first | omega | (simp; omega)) (by first | omega | (simp; omega)) (by first | omega | (simp; omega)) (by first | omega | (simp; omega)) H3
  refine ca go25 rfl (ec rfl (ec rfl e0)) cc0 ?_
  rintro _ w3 ⟨a2, c2, a3, c3, rfl, H4⟩
  have H5 : HI M w w3 ([box b_a #[.slice a_fv n_fv c_fv, .slice a_fi fi.length c_fi, .slice a_fo fo.length c_fo, .slice a2 (nxS fi st_ (x0.1, x0.2.1, x0.2.2.1, x0.2.2.2.1, x0.2.2.2.2)).length c2, .slice a3 (nxP fi st_ pq_ (x0.1, x0.2.1, x0.2.2.1, x0.2.2.2.1, x0.2.2.2.2)).length c3] 54, imm (.slice a_fi fi.length c_fi) fi, imm (.slice a_fo fo.length c_fo) fo, own w.heap.size 35 (.slice a2 (nxS fi st_ (x0.1, x0.2.1, x0.2.2.1, x0.2.2.2.1, x0.2.2.2.2)).length c2) (nxS fi st_ (x0.1, x0.2.1, x0.2.2.1, x0.2.2.2.1, x0.2.2.2.2)), own w.heap.size 4 (.slice a3 (nxP fi st_ pq_ (x0.1, x0.2.1, x0.2.2.1, x0.2.2.2.1, x0.2.2.2.2)).length c3) (nxP fi st_ pq_ (x0.1, x0.2.1, x0.2.2.1, x0.2.2.2.1, x0.2.2.2.2)), box bb0 #[iV x0.1, iV x0.2.1, iV x0.2.2.1, iV x0.2.2.2.1, iV x0.2.2.2.2] 35, imm (.slice a_l l.length c_l) l] ++ r) := H4
  refine k (not_ rfl rfl (z (nx ?_)))
  refine cd (b := !(nxG fi fo st_ (x0.1, x0.2.1, x0.2.2.1, x0.2.2.2.1, x0.2.2.2.2))) rfl rfl (fun b1 => ?_) (fun b1 => ?_)
  ·
   refine sq (rg (k (asg (v := .bool false) rfl rfl (z (nx (rt (inb_ret (then_ret (loop_ret (inb_ret (then_ret (r1 rfl rfl ?_))))))))))))
   have H6 := HI.pickT (l := [box b_a #[.slice a_fv n_fv c_fv, .slice a_fi fi.length c_fi, .slice a_fo fo.length c_fo, .slice a2 (nxS fi st_ (x0.1, x0.2.1, x0.2.2.1, x0.2.2.2.1, x0.2.2.2.2)).length c2, .slice a3 (nxP fi st_ pq_ (x0.1, x0.2.1, x0.2.2.1, x0.2.2.2.1, x0.2.2.2.2)).length c3] 54, imm (.slice a_fi fi.length c_fi) fi, imm (.slice a_fo fo.length c_fo) fo, own w.heap.size 35 (.slice a2 (nxS fi st_ (x0.1, x0.2.1, x0.2.2.1, x0.2.2.2.1, x0.2.2.2.2)).length c2) (nxS fi st_ (x0.1, x0.2.1, x0.2.2.1, x0.2.2.2.1, x0.2.2.2.2)), own w.heap.size 4 (.slice a3 (nxP fi st_ pq_ (x0.1, x0.2.1, x0.2.2.1, x0.2.2.2.1, x0.2.2.2.2)).length c3) (nxP fi st_ pq_ (x0.1, x0.2.1, x0.2.2.1, x0.2.2.2.1, x0.2.2.2.2)), box bb0 #[iV x0.1, iV x0.2.1, iV x0.2.2.1, iV x0.2.2.2.1, iV x0.2.2.2.2] 35, imm (.slice a_l l.length c_l) l]) (l' := [box b_a #[.slice a_fv n_fv c_fv, .slice a_fi fi.length c_fi, .slice a_fo fo.length c_fo, .slice a2 (nxS fi st_ (x0.1, x0.2.1, x0.2.2.1, x0.2.2.2.1, x0.2.2.2.2)).length c2, .slice a3 (nxP fi st_ pq_ (x0.1, x0.2.1, x0.2.2.1, x0.2.2.2.1, x0.2.2.2.2)).length c3] 54, imm (.slice a_fi fi.length c_fi) fi, imm (.slice a_fo fo.length c_fo) fo, own w.heap.size 35 (.slice a2 (nxS fi st_ (x0.1, x0.2.1, x0.2.2.1, x0.2.2.2.1, x0.2.2.2.2)).length c2) (nxS fi st_ (x0.1, x0.2.1, x0.2.2.1, x0.2.2.2.1, x0.2.2.2.2)), own w.heap.size 4 (.slice a3 (nxP fi st_ pq_ (x0.1, x0.2.1, x0.2.2.1, x0.2.2.2.1, x0.2.2.2.2)).length c3) (nxP fi st_ pq_ (x0.1, x0.2.1, x0.2.2.1, x0.2.2.2.1, x0.2.2.2.2)), imm (.slice a_l l.length c_l) l]) (t := r) H5 [0, 1, 2, 3, 4, 6] (by decide) rfl rfl
   have e0 : (false : Bool) = (takeO fi fo stp pl l).1 := by rw [hs, takeO_no hx0 (nott b1)]
   have e1 : ((nxS fi st_ (x0.1, x0.2.1, x0.2.2.1, x0.2.2.2.1, x0.2.2.2.2)) : List _) = ((takeO fi fo stp pl l).2.1) := by rw [hs, takeO_no hx0 (nott b1)]
   have e2 : ((nxP fi st_ pq_ (x0.1, x0.2.1, x0.2.2.1, x0.2.2.2.1, x0.2.2.2.2)) : List _) = ((takeO fi fo stp pl l).2.2) := by rw [hs, takeO_no hx0 (nott b1)]
   try rw [← e0]
   try rw [← e1]
   try rw [← e2]
   refine ⟨a2, c2, a3, c3, ?_, ?_⟩
   · first | rfl | simp only [e0, e1, e2] | (simp only [List.length_set])
   · first | exact H6 | simpa only [e0, e1, e2, List.length_set] using H6
  ·
   refine sk (inb_normal (nx (rg (k (add rfl rfl s3 rfl (by first | assumption | (unfold I64 at *; omega)) (k (mv (v := iV ((j_ : Int) + 1)) rfl rfl (z ?_))))))))
   have H6 := H5.put (it := imm (.slice a_fi fi.length c_fi) fi) rfl (H5.rv 1 rfl)
   have H7 : HI M w w3 ([imm (.slice a_fi fi.length c_fi) fi, box b_a #[.slice a_fv n_fv c_fv, .slice a_fi fi.length c_fi, .slice a_fo fo.length c_fo, .slice a2 (nxS fi st_ (x0.1, x0.2.1, x0.2.2.1, x0.2.2.2.1, x0.2.2.2.2)).length c2, .slice a3 (nxP fi st_ pq_ (x0.1, x0.2.1, x0.2.2.1, x0.2.2.2.1, x0.2.2.2.2)).length c3] 54, imm (.slice a_fi fi.length c_fi) fi, imm (.slice a_fo fo.length c_fo) fo, own w.heap.size 35 (.slice a2 (nxS fi st_ (x0.1, x0.2.1, x0.2.2.1, x0.2.2.2.1, x0.2.2.2.2)).length c2) (nxS fi st_ (x0.1, x0.2.1, x0.2.2.1, x0.2.2.2.1, x0.2.2.2.2)), own w.heap.size 4 (.slice a3 (nxP fi st_ pq_ (x0.1, x0.2.1, x0.2.2.1, x0.2.2.2.1, x0.2.2.2.2)).length c3) (nxP fi st_ pq_ (x0.1, x0.2.1, x0.2.2.1, x0.2.2.2.1, x0.2.2.2.2)), box bb0 #[iV x0.1, iV x0.2.1, iV x0.2.2.1, iV x0.2.2.2.1, iV x0.2.2.2.2] 35, imm (.slice a_l l.length c_l) l] ++ r) := H6
   have H8 := H7.put (it := imm (.slice a_fo fo.length c_fo) fo) rfl (H7.rv 3 rfl)
   have H9 : HI M w w3 ([imm (.slice a_fo fo.length c_fo) fo, imm (.slice a_fi fi.length c_fi) fi, box b_a #[.slice a_fv n_fv c_fv, .slice a_fi fi.length c_fi, .slice a_fo fo.length c_fo, .slice a2 (nxS fi st_ (x0.1, x0.2.1, x0.2.2.1, x0.2.2.2.1, x0.2.2.2.2)).length c2, .slice a3 (nxP fi st_ pq_ (x0.1, x0.2.1, x0.2.2.1, x0.2.2.2.1, x0.2.2.2.2)).length c3] 54, imm (.slice a_fi fi.length c_fi) fi, imm (.slice a_fo fo.length c_fo) fo, own w.heap.size 35 (.slice a2 (nxS fi st_ (x0.1, x0.2.1, x0.2.2.1, x0.2.2.2.1, x0.2.2.2.2)).length c2) (nxS fi st_ (x0.1, x0.2.1, x0.2.2.1, x0.2.2.2.1, x0.2.2.2.2)), own w.heap.size 4 (.slice a3 (nxP fi st_ pq_ (x0.1, x0.2.1, x0.2.2.1, x0.2.2.2.1, x0.2.2.2.2)).length c3) (nxP fi st_ pq_ (x0.1, x0.2.1, x0.2.2.1, x0.2.2.2.1, x0.2.2.2.2)), box bb0 #[iV x0.1, iV x0.2.1, iV x0.2.2.1, iV x0.2.2.2.1, iV x0.2.2.2.2] 35, imm (.slice a_l l.length c_l) l] ++ r) := H8
   have H10 : HI M w w3 ([box b_a #[.slice a_fv n_fv c_fv, .slice a_fi fi.length c_fi, .slice a_fo fo.length c_fo, .slice a2 (nxS fi st_ (x0.1, x0.2.1, x0.2.2.1, x0.2.2.2.1, x0.2.2.2.2)).length c2, .slice a3 (nxP fi st_ pq_ (x0.1, x0.2.1, x0.2.2.1, x0.2.2.2.1, x0.2.2.2.2)).length c3] 54, imm (.slice a_fi fi.length c_fi) fi, imm (.slice a_fo fo.length c_fo) fo, own w.heap.size 35 (.slice a2 (nxS fi st_ (x0.1, x0.2.1, x0.2.2.1, x0.2.2.2.1, x0.2.2.2.2)).length c2) (nxS fi st_ (x0.1, x0.2.1, x0.2.2.1, x0.2.2.2.1, x0.2.2.2.2)), own w.heap.size 4 (.slice a3 (nxP fi st_ pq_ (x0.1, x0.2.1, x0.2.2.1, x0.2.2.2.1, x0.2.2.2.2)).length c3) (nxP fi st_ pq_ (x0.1, x0.2.1, x0.2.2.1, x0.2.2.2.1, x0.2.2.2.2)), imm (.slice a_l l.length c_l) l] ++ r) := HI.pickT (l := [imm (.slice a_fo fo.length c_fo) fo, imm (.slice a_fi fi.length c_fi) fi, box b_a #[.slice a_fv n_fv c_fv, .slice a_fi fi.length c_fi, .slice a_fo fo.length c_fo, .slice a2 (nxS fi st_ (x0.1, x0.2.1, x0.2.2.1, x0.2.2.2.1, x0.2.2.2.2)).length c2, .slice a3 (nxP fi st_ pq_ (x0.1, x0.2.1, x0.2.2.1, x0.2.2.2.1, x0.2.2.2.2)).length c3] 54, imm (.slice a_fi fi.length c_fi) fi, imm (.slice a_fo fo.length c_fo) fo, own w.heap.size 35 (.slice a2 (nxS fi st_ (x0.1, x0.2.1, x0.2.2.1, x0.2.2.2.1, x0.2.2.2.2)).length c2) (nxS fi st_ (x0.1, x0.2.1, x0.2.2.1, x0.2.2.2.1, x0.2.2.2.2)), own w.heap.size 4 (.slice a3 (nxP fi st_ pq_ (x0.1, x0.2.1, x0.2.2.1, x0.2.2.2.1, x0.2.2.2.2)).length c3) (nxP fi st_ pq_ (x0.1, x0.2.1, x0.2.2.1, x0.2.2.2.1, x0.2.2.2.2)), box bb0 #[iV x0.1, iV x0.2.1, iV x0.2.2.1, iV x0.2.2.2.1, iV x0.2.2.2.2] 35, imm (.slice a_l l.length c_l) l]) (l' := [box b_a #[.slice a_fv n_fv c_fv, .slice a_fi fi.length c_fi, .slice a_fo fo.length c_fo, .slice a2 (nxS fi st_ (x0.1, x0.2.1, x0.2.2.1, x0.2.2.2.1, x0.2.2.2.2)).length c2, .slice a3 (nxP fi st_ pq_ (x0.1, x0.2.1, x0.2.2.1, x0.2.2.2.1, x0.2.2.2.2)).length c3] 54, imm (.slice a_fi fi.length c_fi) fi, imm (.slice a_fo fo.length c_fo) fo, own w.heap.size 35 (.slice a2 (nxS fi st_ (x0.1, x0.2.1, x0.2.2.1, x0.2.2.2.1, x0.2.2.2.2)).length c2) (nxS fi st_ (x0.1, x0.2.1, x0.2.2.1, x0.2.2.2.1, x0.2.2.2.2)), own w.heap.size 4 (.slice a3 (nxP fi st_ pq_ (x0.1, x0.2.1, x0.2.2.1, x0.2.2.2.1, x0.2.2.2.2)).length c3) (nxP fi st_ pq_ (x0.1, x0.2.1, x0.2.2.1, x0.2.2.2.1, x0.2.2.2.2)), imm (.slice a_l l.length c_l) l]) (t := r) H9 [2, 1, 0, 5, 6, 8] (by decide) rfl rfl
   refine loopN _ ?_ ⟨(j_ + 1), (nxS fi st_ (x0.1, x0.2.1, x0.2.2.1, x0.2.2.2.1, x0.2.2.2.2)), (nxP fi st_ pq_ (x0.1, x0.2.1, x0.2.2.1, x0.2.2.2.1, x0.2.2.2.2)), a2, c2, a3, c3, rfl, s0, s1, s2, (ieq rfl (by first | rfl | omega | (push_cast; omega))), H10, (by first | assumption | omega | simp | (simp; omega)), (by exact hs.trans (takeO_yes hx0 (notf b1))), (by rw [nxS_len (notf b1)]; omega), (by rw [nxS_len (notf b1), nxP_len (notf b1)]; omega)⟩
   omega
 ·
  have p0 := of_decide_eq_false b0
  refine ex (then_exit (loop_exit (inb_here (nx (sq (rg (k (asg (v := .bool true) rfl rfl (z (nx (rt (r1 rfl rfl ?_))))))))))))
  have e0 : (true : Bool) = (takeO fi fo stp pl l).1 := by rw [hs, takeO_end (by omega)]
  have e1 : (st_ : List _) = ((takeO fi fo stp pl l).2.1) := by rw [hs, takeO_end (by omega)]
  have e2 : (pq_ : List _) = ((takeO fi fo stp pl l).2.2) := by rw [hs, takeO_end (by omega)]
  try rw [← e0]
  try rw [← e1]
  try rw [← e2]
  refine ⟨a0, c0, a1, c1, ?_, ?_⟩
  · first | rfl | simp only [e0, e1, e2] | (simp only [List.length_set])
  · first | exact H0 | simpa only [e0, e1, e2, List.length_set] using H0
set_option maxRecDepth 100000 in
set_option maxHeartbeats 1600000 in
theorem audit_Steps {M : Nat → Prop} {w : World} {a_fv : Option Addr} {n_fv c_fv : Nat} {a_fi : Option Addr} {c_fi : Nat} {fi : List (Int × Int × Bool × Int × Int)} {a_fo : Option Addr} {c_fo : Nat} {fo : List Int} {a_l : Option Addr} {c_l : Nat} {l : List (Int × Int × Int × Int × Int)} (hM : ∀ b, M b → b < w.heap.size) (h_fi : RV M w (.slice a_fi fi.length c_fi) fi) (h_fo : RV M w (.slice a_fo fo.length c_fo) fo) (h_l : RV M w (.slice a_l l.length c_l) l) (ho : OrdI fi) (hn_fi : fi.length ≤ 4096) (hfo : fo.length = fi.length) (hst : l.length ≤ 90000) : Calls Tryd.prog 7 #[.agg #[.slice a_fv n_fv c_fv, .slice a_fi fi.length c_fi, .slice a_fo fo.length c_fo], .slice a_l l.length c_l] w (Ret fun v w' =>  v = .bool (stepsO fi fo l) ∧ Ext w w') := by
 refine enter 12 Tryd.func7 rfl rfl rfl fun f0 ha => ?_
 have H := HI.start (M0 := M) (w := w) hM
 have H0 := H.put (it := imm (.slice a_fi fi.length c_fi) fi) rfl (by rw [MS_nil]; exact h_fi)
 have H1 := H0.put (it := imm (.slice a_fo fo.length c_fo) fo) rfl (by rw [MS_cons_none rfl, MS_nil]; exact h_fo)
 have H2 := H1.put (it := imm (.slice a_l l.length c_l) l) rfl (by rw [MS_cons_none rfl, MS_cons_none rfl, MS_nil]; exact h_l)
 have ln_fi := rv_len h_fi
 have ln_fo := rv_len h_fo
 have ln_l := rv_len h_l
 have i0 : f0 0 = .agg #[.slice a_fv n_fv c_fv, .slice a_fi fi.length c_fi, .slice a_fo fo.length c_fo] := ha 0 (by simp)
 have i1 : f0 1 = .slice a_l l.length c_l := ha 1 (by simp)
 refine sq (rg (k (bx H2 rfl i0 ?_)))
 intro bb0 w0 xt0 (H3 : HI M w w0 [box bb0 #[.slice a_fv n_fv c_fv, .slice a_fi fi.length c_fi, .slice a_fo fo.length c_fo] 30, imm (.slice a_l l.length c_l) l, imm (.slice a_fo fo.length c_fo) fo, imm (.slice a_fi fi.length c_fi) fi])
 refine k (asg (v := .bool false) rfl rfl (z (nx (sq (rg (k (ldX H3 0 rfl ty30 rfl rfl (by decide) rfl (k (bd (v := .agg #[.slice a_fv n_fv c_fv, .slice a_fi fi.length c_fi, .slice a_fo fo.length c_fo, .slice none 0 0, .slice none 0 0]) rfl (pbc rfl pb0) (fun _ => by kernel_rfl) (k (bx H3 rfl rfl ?_)))))))))))
 intro bb1 w1 xt1 (H4 : HI M w w1 [box bb1 #[.slice a_fv n_fv c_fv, .slice a_fi fi.length c_fi, .slice a_fo fo.length c_fo, .slice none 0 0, .slice none 0 0] 54, box bb0 #[.slice a_fv n_fv c_fv, .slice a_fi fi.length c_fi, .slice a_fo fo.length c_fo] 30, imm (.slice a_l l.length c_l) l, imm (.slice a_fo fo.length c_fo) fo, imm (.slice a_fi fi.length c_fi) fi])
 refine k (asg (v := pV bb1 0) rfl rfl (z (nx (sq (rg (k (mv (v := pV bb1 0) rfl rfl (k (mv rfl i1 (k ?_))))))))))
 have H5 := H4.nil_ (Int × Int × Int × Int × Int) 35
 have H6 := H5.nil_ Bool 4
 have H7 : HI M w w1 ([box bb1 #[.slice a_fv n_fv c_fv, .slice a_fi fi.length c_fi, .slice a_fo fo.length c_fo, .slice none 0 0, .slice none 0 0] 54, imm (.slice a_fi fi.length c_fi) fi, imm (.slice a_fo fo.length c_fo) fo, own w.heap.size 35 (.slice none 0 0) ([] : List (Int × Int × Int × Int × Int)), own w.heap.size 4 (.slice none 0 0) ([] : List Bool), imm (.slice a_l l.length c_l) l] ++ [box bb0 #[.slice a_fv n_fv c_fv, .slice a_fi fi.length c_fi, .slice a_fo fo.length c_fo] 30]) := H6.pickN [2, 6, 5, 1, 0, 4, 3] (by decide) rfl
 have cc0 := aud_take (b_a := bb1) (a_fv := a_fv) (n_fv := n_fv) (c_fv := c_fv) (a_fi := a_fi) (c_fi := c_fi) (fi := fi) (a_fo := a_fo) (c_fo := c_fo) (fo := fo) (a_stp := none) (c_stp := 0) (stp := ([] : List (Int × Int × Int × Int × Int))) (a_pl := none) (c_pl := 0) (pl := ([] : List Bool)) (a_l := a_l) (c_l := c_l) (l := l) (w := w) (w_ := w1) (r := [box bb0 #[.slice a_fv n_fv c_fv, .slice a_fi fi.length c_fi, .slice a_fo fo.length c_fo] 30]) (M := M) (by exact ho) (by first | omega | (simp; omega)) (by first | exact hfo | rfl) (by first | exact hfo | rfl) (by first | omega | (simp; omega)) H7
 refine ca go14 rfl (ec rfl (ec rfl e0)) cc0 ?_
 rintro _ w2 ⟨a0, c0, a1, c1, rfl, H8⟩
 have H9 : HI M w w2 [box bb1 #[.slice a_fv n_fv c_fv, .slice a_fi fi.length c_fi, .slice a_fo fo.length c_fo, .slice a0 ((takeO fi fo ([] : List (Int × Int × Int × Int × Int)) ([] : List Bool) l).2.1).length c0, .slice a1 ((takeO fi fo ([] : List (Int × Int × Int × Int × Int)) ([] : List Bool) l).2.2).length c1] 54, imm (.slice a_fi fi.length c_fi) fi, imm (.slice a_fo fo.length c_fo) fo, own w.heap.size 35 (.slice a0 ((takeO fi fo ([] : List (Int × Int × Int × Int × Int)) ([] : List Bool) l).2.1).length c0) ((takeO fi fo ([] : List (Int × Int × Int × Int × Int)) ([] : List Bool) l).2.1), own w.heap.size 4 (.slice a1 ((takeO fi fo ([] : List (Int × Int × Int × Int × Int)) ([] : List Bool) l).2.2).length c1) ((takeO fi fo ([] : List (Int × Int × Int × Int × Int)) ([] : List Bool) l).2.2), imm (.slice a_l l.length c_l) l, box bb0 #[.slice a_fv n_fv c_fv, .slice a_fi fi.length c_fi, .slice a_fo fo.length c_fo] 30] := H8
 refine k (asg (v := .bool ((takeO fi fo ([] : List (Int × Int × Int × Int × Int)) ([] : List Bool) l).1)) rfl rfl (z (nx (rt (r1 rfl rfl ?_)))))
 have e0 : ((takeO fi fo ([] : List (Int × Int × Int × Int × Int)) ([] : List Bool) l).1 : Bool) = stepsO fi fo l := rfl
 have ev_ := cg1 (fun (x_0 : Bool) => (.bool x_0 : Value)) e0
 exact ⟨ev_, H9.below⟩
set_option maxRecDepth 100000 in
set_option maxHeartbeats 1600000 in
theorem aud_bare {M : Nat → Prop} {w : World} {b_a : Nat} {ty_a : TypeId} {a_fv : Option Addr} {n_fv c_fv : Nat} {a_fi : Option Addr} {n_fi c_fi : Nat} {a_fo : Option Addr} {n_fo c_fo : Nat} {a_stp : Option Addr} {n_stp c_stp : Nat} {a_pl : Option Addr} {c_pl : Nat} {pl : List Bool} (hM : ∀ b, M b → b < w.heap.size) (h_pl : RV M w (.slice a_pl pl.length c_pl) pl) (h_a : w.heap[b_a]? = some (.cells #[.slice a_fv n_fv c_fv, .slice a_fi n_fi c_fi, .slice a_fo n_fo c_fo, .slice a_stp n_stp c_stp, .slice a_pl pl.length c_pl] ty_a (0, 0)) ∧ ¬ M b_a) : Calls Tryd.prog 29 #[.pointer (some ⟨b_a, 0, none⟩)] w (Ret fun v w' =>  v = .bool (!(pl.any (fun z_ => false == z_))) ∧ Ext w w') := by
 refine enter 9 Tryd.func29 rfl rfl rfl fun f0 ha => ?_
 have H := HI.start (M0 := M) (w := w) hM
 have H0 := H.put (it := imm (.slice a_pl pl.length c_pl) pl) rfl (by rw [MS_nil]; exact h_pl)
 have ln_pl := rv_len h_pl
 have H1 := H0.put (it := ro b_a #[.slice a_fv n_fv c_fv, .slice a_fi n_fi c_fi, .slice a_fo n_fo c_fo, .slice a_stp n_stp c_stp, .slice a_pl pl.length c_pl] ty_a) rfl (by rw [MS_cons_none rfl, MS_nil]; exact h_a)
 have i0 : f0 0 = pV b_a 0 := ha 0 (by simp)
 refine sq (rg (k (asg (v := .bool false) rfl rfl (z (nx (sq (rg (k (mv rfl i0 (k (nc rfl rfl (k (fa fl54_2 rfl rfl (k (ldR H1 0 rfl ty52 rfl rfl (by decide) rfl (k ?_))))))))))))))))
 have cc0 := contains_bool (l0_ := pl) (v0_ := false) (w := w) H1.mb (H1.rv 1 rfl)
 refine ca go40 rfl (ec rfl (ec rfl e0)) cc0 ?_
 rintro _ w0 ⟨rfl, xt0⟩
 have H2 := H1.ext xt0
 refine k (not_ rfl rfl (k (asg (v := .bool (!(pl.any (fun (z_ : Bool) => false == z_)))) rfl rfl (z (nx (rt (r1 rfl rfl ?_)))))))
 have e0 : (!(pl.any (fun (z_ : Bool) => false == z_)) : Bool) = !(pl.any (fun z_ => false == z_)) := rfl
 have ev_ := cg1 (fun (x_0 : Bool) => (.bool x_0 : Value)) e0
 exact ⟨ev_, H2.below⟩
set_option maxRecDepth 100000 in
set_option maxHeartbeats 1600000 in
theorem aud_founded1 {M : Nat → Prop} {w : World} {kd : Int} {fr : Int} {to : Int} {sa : Int} {sb : Int} {b_ap : Nat} {ty_ap : TypeId} {b_a : Nat} {ty_a : TypeId} {a_fv : Option Addr} {n_fv c_fv : Nat} {a_fi : Option Addr} {n_fi c_fi : Nat} {a_fo : Option Addr} {n_fo c_fo : Nat} {a_stp : Option Addr} {n_stp c_stp : Nat} {a_pl : Option Addr} {c_pl : Nat} {pl : List Bool} (hM : ∀ b, M b → b < w.heap.size) (h_kd : I64 kd) (h_fr : I64 fr) (h_to : I64 to) (h_sa : I64 sa) (h_sb : I64 sb) (h_pl : RV M w (.slice a_pl pl.length c_pl) pl) (h_ap : w.heap[b_ap]? = some (.cells #[.pointer (some ⟨b_a, 0, none⟩)] ty_ap (0, 0)) ∧ ¬ M b_ap) (h_a : w.heap[b_a]? = some (.cells #[.slice a_fv n_fv c_fv, .slice a_fi n_fi c_fi, .slice a_fo n_fo c_fo, .slice a_stp n_stp c_stp, .slice a_pl pl.length c_pl] ty_a (0, 0)) ∧ ¬ M b_a) (hk0_ : kd = 4 → 0 ≤ sa ∧ sa < ((pl.length : Nat) : Int)) : Calls Tryd.prog 42 #[.agg #[.int .i64 kd, .int .i64 fr, .int .i64 to, .int .i64 sa, .int .i64 sb], .pointer (some ⟨b_ap, 0, none⟩)] w (Ret fun v w' =>  v = .bool (foundO pl (kd, fr, to, sa, sb)) ∧ Ext w w') := by
 refine enter 18 Tryd.func42 rfl rfl rfl fun f0 ha => ?_
 have H := HI.start (M0 := M) (w := w) hM
 have H0 := H.put (it := imm (.slice a_pl pl.length c_pl) pl) rfl (by rw [MS_nil]; exact h_pl)
 have ln_pl := rv_len h_pl
 have i0 : f0 0 = .agg #[iV kd, iV fr, iV to, iV sa, iV sb] := ha 0 (by simp)
 have H1 := H0.put (it := ro b_a #[.slice a_fv n_fv c_fv, .slice a_fi n_fi c_fi, .slice a_fo n_fo c_fo, .slice a_stp n_stp c_stp, .slice a_pl pl.length c_pl] ty_a) rfl (by rw [MS_cons_none rfl, MS_nil]; exact h_a)
 have H2 := H1.put (it := ro b_ap #[pV b_a 0] ty_ap) rfl (by rw [MS_cons_none rfl, MS_cons_none rfl, MS_nil]; exact h_ap)
 have i1 : f0 1 = pV b_ap 0 := ha 1 (by simp)
 refine sq (rg (k (bx H2 rfl i0 ?_)))
 intro bb0 w0 xt0 (H3 : HI M w w0 [box bb0 #[iV kd, iV fr, iV to, iV sa, iV sb] 35, ro b_ap #[pV b_a 0] ty_ap, ro b_a #[.slice a_fv n_fv c_fv, .slice a_fi n_fi c_fi, .slice a_fo n_fo c_fo, .slice a_stp n_stp c_stp, .slice a_pl pl.length c_pl] ty_a, imm (.slice a_pl pl.length c_pl) pl])
 refine k (asg (v := .bool false) rfl rfl (z (nx (sq ?_))))
 rcases Bool.eq_false_or_eq_true (decide (kd = 4)) with b0 | b0
 · -- decide (kd = 4) is True
  have p0 := of_decide_eq_true b0
  refine dr 10 [eV (pV bb0 0), eV (iV kd), eV (.bool (decide (kd = 4))), eV (.bool (decide (kd = 4))), eV (pV b_a 0), eV (pV b_a 0), eV (pV b_a 4), eV (.slice a_pl pl.length c_pl), eV (pV bb0 3), eV (iV sa)] rfl (by kernel_rfl) ?_ ?_
  ·
   refine dc (fun _ _ hf0 _ _ => fa fl35_0 rfl (hf0 2 rfl) (d0 rfl rfl)) ?_
   refine dc (fun _ _ _ xt2 hp1 => ldX (H3.ext xt2) 0 rfl ty3 rfl (hp1 0 rfl rfl) (by decide) rfl (d0 rfl rfl)) ?_
   refine dc (fun _ _ _ _ hp2 => eql rfl rfl (hp2 1 rfl rfl) rfl (d0 rfl rfl)) ?_
   refine dc (fun _ _ _ _ hp3 => mv rfl (hp3 2 rfl rfl) (d0 rfl rfl)) ?_
   refine dc (fun f4 w5 hf4 xt5 hp4 => ?_) ?_
   ·
    have H8 := H3.ext xt5
    have s3 : f4 7 = .bool (decide (kd = 4)) := hp4 3 rfl rfl
    refine gy rfl rfl s3 b0 (ldR H8 1 rfl ty51 rfl ((hf4 1 rfl).trans i1) (by decide) rfl ?_)
    exact ⟨_, rfl, Ext.refl _, rfl⟩
   refine dc (fun f5 w6 hf5 xt6 hp5 => ?_) ?_
   ·
    have s4 : f5 7 = .bool (decide (kd = 4)) := hp5 3 rfl rfl
    have s5 : f5 8 = pV b_a 0 := hp5 4 rfl rfl
    refine gy rfl rfl s4 b0 (nc rfl s5 ?_)
    exact ⟨_, rfl, Ext.refl _, rfl⟩
   refine dc (fun f6 w7 hf6 xt7 hp6 => ?_) ?_
   ·
    have s6 : f6 7 = .bool (decide (kd = 4)) := hp6 3 rfl rfl
    have s7 : f6 9 = pV b_a 0 := hp6 5 rfl rfl
    refine gy rfl rfl s6 b0 (fa fl54_2 rfl s7 ?_)
    exact ⟨_, rfl, Ext.refl _, rfl⟩
   refine dc (fun f7 w8 hf7 xt8 hp7 => ?_) ?_
   ·
    have H11 := H3.ext xt8
    have s8 : f7 7 = .bool (decide (kd = 4)) := hp7 3 rfl rfl
    have s9 : f7 10 = pV b_a 4 := hp7 6 rfl rfl
    refine gy rfl rfl s8 b0 (ldR H11 2 rfl ty52 rfl s9 (by decide) rfl ?_)
    exact ⟨_, rfl, Ext.refl _, rfl⟩
   refine dc (fun f8 w9 hf8 xt9 hp8 => ?_) ?_
   ·
    have s10 : f8 7 = .bool (decide (kd = 4)) := hp8 3 rfl rfl
    refine gy rfl rfl s10 b0 (fa fl35_3 rfl (hf8 2 rfl) ?_)
    exact ⟨_, rfl, Ext.refl _, rfl⟩
   refine dc (fun f9 w10 hf9 xt10 hp9 => ?_) ?_
   ·
    have H13 := H3.ext xt10
    have s11 : f9 7 = .bool (decide (kd = 4)) := hp9 3 rfl rfl
    have s12 : f9 12 = pV bb0 3 := hp9 8 rfl rfl
    refine gy rfl rfl s11 b0 (ldX H13 0 rfl ty3 rfl s12 (by decide) rfl ?_)
    exact ⟨_, rfl, Ext.refl _, rfl⟩
   exact DSteps.rest rfl _
  ·
   intro f10 w11 hf10 xt11 hp10
   have H14 := H3.ext xt11
   have s13 : f10 7 = .bool (decide (kd = 4)) := hp10 3 rfl
   have s14 : f10 11 = .slice a_pl pl.length c_pl := hp10 7 rfl
   have s15 : f10 13 = iV sa := hp10 9 rfl
   refine k (gy rfl rfl s13 b0 (ia (H14.rv 3 rfl) rfl rfl s14 s15 (by have h_ := hk0_ (by assumption); omega) un52 ty4 ?_))
   intro ad0 x0 hx0 hA0
   refine k (gy rfl rfl s13 b0 (ldB hA0.w ty4 rfl rfl (k (gy rfl rfl s13 b0 (not_ rfl rfl (k (pickT rfl rfl rfl s13 b0 rfl (k (asg (v := .bool (!x0)) rfl rfl (z (nx (rt (r1 rfl rfl ?_)))))))))))))
   have e0 : (!x0 : Bool) = foundO pl (kd, fr, to, sa, sb) := by simp only [foundO, List.getD_eq_getElem?_getD, hx0, Option.getD_some, Option.map_some, b0, BL, cond_true, cond_false]
   have ev_ := cg1 (fun (x_0 : Bool) => (.bool x_0 : Value)) e0
   exact ⟨ev_, H14.below⟩
 · -- decide (kd = 4) is False
  have p0 := of_decide_eq_false b0
  refine dr 10 [eV (pV bb0 0), eV (iV kd), eV (.bool (decide (kd = 4))), eV (.bool (decide (kd = 4))), eV undef, eV undef, eV undef, eV undef, eV undef, eV undef] rfl (by kernel_rfl) ?_ ?_
  ·
   refine dc (fun _ _ hf0 _ _ => fa fl35_0 rfl (hf0 2 rfl) (d0 rfl rfl)) ?_
   refine dc (fun _ _ _ xt2 hp1 => ldX (H3.ext xt2) 0 rfl ty3 rfl (hp1 0 rfl rfl) (by decide) rfl (d0 rfl rfl)) ?_
   refine dc (fun _ _ _ _ hp2 => eql rfl rfl (hp2 1 rfl rfl) rfl (d0 rfl rfl)) ?_
   refine dc (fun _ _ _ _ hp3 => mv rfl (hp3 2 rfl rfl) (d0 rfl rfl)) ?_
   refine dc (fun _ _ _ _ hp4 => gn rfl rfl (hp4 3 rfl rfl) b0 (d0 rfl rfl)) ?_
   refine dc (fun _ _ _ _ hp5 => gn rfl rfl (hp5 3 rfl rfl) b0 (d0 rfl rfl)) ?_
   refine dc (fun _ _ _ _ hp6 => gn rfl rfl (hp6 3 rfl rfl) b0 (d0 rfl rfl)) ?_
   refine dc (fun _ _ _ _ hp7 => gn rfl rfl (hp7 3 rfl rfl) b0 (d0 rfl rfl)) ?_
   refine dc (fun _ _ _ _ hp8 => gn rfl rfl (hp8 3 rfl rfl) b0 (d0 rfl rfl)) ?_
   refine dc (fun _ _ _ _ hp9 => gn rfl rfl (hp9 3 rfl rfl) b0 (d0 rfl rfl)) ?_
   exact DSteps.rest rfl _
  ·
   intro f10 w11 hf10 xt11 hp10
   have H14 := H3.ext xt11
   have s13 : f10 7 = .bool (decide (kd = 4)) := hp10 3 rfl
   refine k (gn rfl rfl s13 b0 (k (gn rfl rfl s13 b0 (k (gn rfl rfl s13 b0 (k (pickF rfl rfl rfl s13 b0 rfl (k (asg (v := .bool false) rfl rfl (z (nx (rt (r1 rfl rfl ?_)))))))))))))
   have e0 : (false : Bool) = foundO pl (kd, fr, to, sa, sb) := by simp only [foundO, b0, BL, cond_true, cond_false]
   have ev_ := cg1 (fun (x_0 : Bool) => (.bool x_0 : Value)) e0
   exact ⟨ev_, H14.below⟩
set_option maxRecDepth 100000 in
set_option maxHeartbeats 1600000 in
theorem aud_founded {M : Nat → Prop} {w : World} {b_a : Nat} {ty_a : TypeId} {a_fv : Option Addr} {n_fv c_fv : Nat} {a_fi : Option Addr} {n_fi c_fi : Nat} {a_fo : Option Addr} {n_fo c_fo : Nat} {a_stp : Option Addr} {c_stp : Nat} {stp : List (Int × Int × Int × Int × Int)} {a_pl : Option Addr} {c_pl : Nat} {pl : List Bool} (hM : ∀ b, M b → b < w.heap.size) (h_stp : RV M w (.slice a_stp stp.length c_stp) stp) (h_pl : RV M w (.slice a_pl pl.length c_pl) pl) (h_a : w.heap[b_a]? = some (.cells #[.slice a_fv n_fv c_fv, .slice a_fi n_fi c_fi, .slice a_fo n_fo c_fo, .slice a_stp stp.length c_stp, .slice a_pl pl.length c_pl] ty_a (0, 0)) ∧ ¬ M b_a) (hrule : ∀ x ∈ stp, x.1 = 4 → 0 ≤ x.2.2.2.1 ∧ x.2.2.2.1 < ((pl.length : Nat) : Int)) : Calls Tryd.prog 33 #[.pointer (some ⟨b_a, 0, none⟩)] w (Ret fun v w' =>  v = .bool (!(stp.any (foundO pl))) ∧ Ext w w') := by
 refine enter 10 Tryd.func33 rfl rfl rfl fun f0 ha => ?_
 have H := HI.start (M0 := M) (w := w) hM
 have H0 := H.put (it := imm (.slice a_stp stp.length c_stp) stp) rfl (by rw [MS_nil]; exact h_stp)
 have H1 := H0.put (it := imm (.slice a_pl pl.length c_pl) pl) rfl (by rw [MS_cons_none rfl, MS_nil]; exact h_pl)
 have ln_stp := rv_len h_stp
 have ln_pl := rv_len h_pl
 have H2 := H1.put (it := ro b_a #[.slice a_fv n_fv c_fv, .slice a_fi n_fi c_fi, .slice a_fo n_fo c_fo, .slice a_stp stp.length c_stp, .slice a_pl pl.length c_pl] ty_a) rfl (by rw [MS_cons_none rfl, MS_cons_none rfl, MS_nil]; exact h_a)
 have i0 : f0 0 = pV b_a 0 := ha 0 (by simp)
 refine sq (rg (k (bx H2 rfl i0 ?_)))
 intro bb0 w0 xt0 (H3 : HI M w w0 [box bb0 #[pV b_a 0] 51, ro b_a #[.slice a_fv n_fv c_fv, .slice a_fi n_fi c_fi, .slice a_fo n_fo c_fo, .slice a_stp stp.length c_stp, .slice a_pl pl.length c_pl] ty_a, imm (.slice a_pl pl.length c_pl) pl, imm (.slice a_stp stp.length c_stp) stp])
 refine k (asg (v := .bool false) rfl rfl (z (nx (sq (rg (k (ldX H3 0 rfl ty51 rfl rfl (by decide) rfl (k (nc rfl rfl (k (fa fl54_1 rfl rfl (k (ldR H3 1 rfl ty23 rfl rfl (by decide) rfl (k (mf rfl (k ?_))))))))))))))))
 have cc0 := containsFunc_step (r := stp) (p := (fun (x_ : (Int × Int × Int × Int × Int)) => foundO pl (x_.1, x_.2.1, x_.2.2.1, x_.2.2.2.1, x_.2.2.2.2))) (w := w0) H3.mb (H3.rv 3 rfl) ⟨go42, fun w_ v_ x_ hx_ e_ hv_ => by have H_ := H3.ext e_; obtain ⟨_, ⟨_, _, rfl, ⟨rfl, rv0⟩, ⟨_, _, rfl, ⟨rfl, rv1⟩, ⟨_, _, rfl, ⟨rfl, rv2⟩, ⟨_, _, rfl, ⟨rfl, rv3⟩, ⟨rfl, rv4⟩⟩⟩⟩⟩, rfl⟩ := hv_; exact aud_founded1 (pl := pl) (M := fun _ => False) (fun _ h_ => h_.elim) rv0 rv1 rv2 rv3 rv4 ((H_.rv 2 rfl).lift (Up.less fun _ _ h_ => h_.elim)) ⟨H_.at_ 0 rfl, fun h_ => h_⟩ ⟨(H_.at_ 1 rfl).1, fun h_ => h_⟩ (by exact hrule x_ hx_)⟩
 refine ca go41 rfl (ec rfl (ec rfl e0)) cc0 ?_
 rintro _ w1 ⟨rfl, xt1⟩
 have H4 := H3.ext xt1
 refine k (not_ rfl rfl (k (asg (v := .bool (!(stp.any (fun (x_ : (Int × Int × Int × Int × Int)) => foundO pl (x_.1, x_.2.1, x_.2.2.1, x_.2.2.2.1, x_.2.2.2.2))))) rfl rfl (z (nx (rt (r1 rfl rfl ?_)))))))
 have e0 : (!(stp.any (fun (x_ : (Int × Int × Int × Int × Int)) => foundO pl (x_.1, x_.2.1, x_.2.2.1, x_.2.2.2.1, x_.2.2.2.2))) : Bool) = !(stp.any (foundO pl)) := rfl
 have ev_ := cg1 (fun (x_0 : Bool) => (.bool x_0 : Value)) e0
 exact ⟨ev_, H4.below⟩
set_option maxRecDepth 100000 in
set_option maxHeartbeats 1600000 in
theorem bad_Kinds {M : Nat → Prop} {w : World} {lv : Int} (hM : ∀ b, M b → b < w.heap.size) (h_lv : I64 lv) : Calls Tryd.prog 16 #[.int .i64 lv] w (Ret fun v w' => ∃ (a0 : Option Addr) (c0 : Nat), v = .slice a0 (kindsO lv).length c0 ∧ Ext w w' ∧ OwnsG M 3 w (kindsO lv) (.slice a0 (kindsO lv).length c0) w') := by
 refine enter 19 Tryd.func16 rfl rfl rfl fun f0 ha => ?_
 have H := HI.start (M0 := M) (w := w) hM
 have i0 : f0 0 = iV lv := ha 0 (by simp)
 refine sq (rg (k (asg (v := .slice none 0 0) rfl rfl (z (nx (sq (rg (k (bs (xs := ([1, 2, 3, 4] : List Int)) (cells := #[iV 1, iV 2, iV 3, iV 4]) (e := 3) H rfl (pbc rfl (pbc rfl (pbc rfl (pbc rfl pb0)))) (fun _ => by kernel_rfl) ⟨[iV 1], [iV 2, iV 3, iV 4], rfl, ⟨rfl, (show I64 (1) from (by unfold I64 at *; omega))⟩, ⟨[iV 2], [iV 3, iV 4], rfl, ⟨rfl, (show I64 (2) from (by unfold I64 at *; omega))⟩, ⟨[iV 3], [iV 4], rfl, ⟨rfl, (show I64 (3) from (by unfold I64 at *; omega))⟩, ⟨[iV 4], [], rfl, ⟨rfl, (show I64 (4) from (by unfold I64 at *; omega))⟩, rfl⟩⟩⟩⟩ rfl (by unfold maxLen; omega) ?_)))))))))
 intro g0 w0 xt0 H0
 refine k (asg (v := .slice (some ⟨g0, 0, none⟩) 4 4) rfl rfl (z (nx (sq (sq (rg (k (mv rfl i0 (z (nx (bk (sq (rg (k (eql rfl rfl rfl rfl (k (asg (v := .bool (decide (lv = 1))) rfl rfl (z (nx ?_)))))))))))))))))))
 refine cd (b := decide (lv = 1)) rfl rfl (fun b0 => ?_) (fun b0 => ?_)
 ·
  have p0 := of_decide_eq_true b0
  refine sq (rg (k (mv (v := .slice (some ⟨g0, 0, none⟩) 4 4) rfl rfl (k (asg (v := .slice (some ⟨g0, 0, none⟩) 4 4) rfl rfl (z (nx (rt (inb_ret (then_ret (r1 rfl rfl ?_)))))))))))
  have e0 : (([1, 2, 3, 4] : List Int) : List Int) = kindsO lv := by simp only [kindsO, b0, BL, cond_true, cond_false]
  have l0 : 4 = (kindsO lv).length := by first | rfl | (rw [← e0]; simp) | simp
  have ev_ := cg1 (fun (n_0 : Nat) => (.slice (some ⟨g0, 0, none⟩) n_0 4 : Value)) l0
  exact ⟨(some ⟨g0, 0, none⟩), 4, ev_, H0.below, (congrArg (fun (n_ : Nat) => OwnsG _ _ _ (kindsO lv) (.slice (some ⟨g0, 0, none⟩) n_ 4) _) l0).mp ((congrArg (fun (x_ : List Int) => OwnsG _ _ _ x_ (.slice (some ⟨g0, 0, none⟩) 4 4) _) e0).mp (H0.ownsG_out 0 rfl))⟩
 ·
  have p0 := of_decide_eq_false b0
  refine sq (rg (k (eql rfl rfl rfl rfl (k (asg (v := .bool (decide (lv = 2))) rfl rfl (z (nx ?_)))))))
  refine cd (b := decide (lv = 2)) rfl rfl (fun b1 => ?_) (fun b1 => ?_)
  ·
   have p1 := of_decide_eq_true b1
   refine sq (rg (k (mv (v := .slice (some ⟨g0, 0, none⟩) 4 4) rfl rfl (k (bs (xs := ([5] : List Int)) (cells := #[iV 5]) (e := 3) H0 rfl (pbc rfl pb0) (fun _ => by kernel_rfl) ⟨[iV 5], [], rfl, ⟨rfl, (show I64 (5) from (by unfold I64 at *; omega))⟩, rfl⟩ rfl (by unfold maxLen; omega) ?_)))))
   intro g1 w1 xt1 H1
   refine k (ap H1 1 rfl rfl rfl rfl rfl rfl (own_src (H1.at_ 0 rfl)) un28 ty3 rfl (by simp) (by simp) ?_)
   intro a0 c0 w2 (H2 : HI M w w2 [own w.heap.size 3 (.slice (some ⟨g1, 0, none⟩) 1 1) ([5] : List Int), own w.heap.size 3 (.slice a0 (([1, 2, 3, 4] : List Int) ++ ([5] : List Int)).length c0) (([1, 2, 3, 4] : List Int) ++ ([5] : List Int))])
   refine k (asg (v := .slice a0 (([1, 2, 3, 4] : List Int) ++ ([5] : List Int)).length c0) rfl rfl (z (nx (rt (inb_ret (then_ret (r1 rfl rfl ?_)))))))
   have e0 : ((([1, 2, 3, 4] : List Int) ++ ([5] : List Int)) : List Int) = kindsO lv := by simp only [kindsO, b0, b1, BL, cond_true, cond_false]
   have ev_ := cg1 (fun (x_0 : List Int) => (.slice a0 x_0.length c0 : Value)) e0
   exact ⟨a0, c0, ev_, H2.below, (congrArg (fun (x_ : List Int) => OwnsG _ _ _ x_ (.slice a0 x_.length c0) _) e0).mp (H2.ownsG_out 1 rfl)⟩
  ·
   have p1 := of_decide_eq_false b1
   refine sq (rg (k (eql rfl rfl rfl rfl (k (asg (v := .bool (decide (lv = 3))) rfl rfl (z (nx ?_)))))))
   refine cd (b := decide (lv = 3)) rfl rfl (fun b2 => ?_) (fun b2 => ?_)
   ·
    have p2 := of_decide_eq_true b2
    refine sq (rg (k (mv (v := .slice (some ⟨g0, 0, none⟩) 4 4) rfl rfl (k (bs (xs := ([6, 7] : List Int)) (cells := #[iV 6, iV 7]) (e := 3) H0 rfl (pbc rfl (pbc rfl pb0)) (fun _ => by kernel_rfl) ⟨[iV 6], [iV 7], rfl, ⟨rfl, (show I64 (6) from (by unfold I64 at *; omega))⟩, ⟨[iV 7], [], rfl, ⟨rfl, (show I64 (7) from (by unfold I64 at *; omega))⟩, rfl⟩⟩ rfl (by unfold maxLen; omega) ?_)))))
    intro g1 w1 xt1 H1
    refine k (ap H1 1 rfl rfl rfl rfl rfl rfl (own_src (H1.at_ 0 rfl)) un28 ty3 rfl (by simp) (by simp) ?_)
    intro a0 c0 w2 (H2 : HI M w w2 [own w.heap.size 3 (.slice (some ⟨g1, 0, none⟩) 2 2) ([6, 7] : List Int), own w.heap.size 3 (.slice a0 (([1, 2, 3, 4] : List Int) ++ ([6, 7] : List Int)).length c0) (([1, 2, 3, 4] : List Int) ++ ([6, 7] : List Int))])
    refine k (asg (v := .slice a0 (([1, 2, 3, 4] : List Int) ++ ([6, 7] : List Int)).length c0) rfl rfl (z (nx (rt (inb_ret (then_ret (r1 rfl rfl ?_)))))))
    have e0 : ((([1, 2, 3, 4] : List Int) ++ ([6, 7] : List Int)) : List Int) = kindsO lv := by simp only [kindsO, b0, b1, b2, BL, cond_true, cond_false]
    have ev_ := cg1 (fun (x_0 : List Int) => (.slice a0 x_0.length c0 : Value)) e0
    exact ⟨a0, c0, ev_, H2.below, (congrArg (fun (x_ : List Int) => OwnsG _ _ _ x_ (.slice a0 x_.length c0) _) e0).mp (H2.ownsG_out 1 rfl)⟩
   ·
    have p2 := of_decide_eq_false b2
    refine sk (inb_normal (nx (sq (rg (k (asg (v := .slice none 0 0) rfl rfl (z (nx (rt (r1 rfl rfl ?_))))))))))
    have e0 : ([] : List Int) = kindsO lv := by simp only [kindsO, b0, b1, b2, BL, cond_true, cond_false]
    have ev_ := cg1 (fun (x_0 : List Int) => (.slice none x_0.length 0 : Value)) e0
    exact ⟨none, 0, ev_, H0.below, (congrArg (fun (x_ : List Int) => OwnsG _ _ _ x_ (.slice none x_.length 0) _) e0).mp (ownsG_nil H0.below)⟩
set_option maxRecDepth 100000 in
set_option maxHeartbeats 1600000 in
theorem audit_unnamed {M : Nat → Prop} {w : World} {kd : Int} {rd_ : Int} {wa_ : Int} {wb_ : Int} {op_ : Int} {a_sl_ : Option Addr} {n_sl_ c_sl_ : Nat} {fs_ : Int} {sn_ : Int} (hM : ∀ b, M b → b < w.heap.size) (h_kd : I64 kd) (h_rd_ : I64 rd_) (h_wa_ : I64 wa_) (h_wb_ : I64 wb_) (h_op_ : I64 op_) (h_fs_ : I64 fs_) (h_sn_ : I64 sn_) : Calls Tryd.prog 18 #[.agg #[.int .i64 kd, .int .i64 rd_, .int .i64 wa_, .int .i64 wb_, .int .i64 op_, .slice a_sl_ n_sl_ c_sl_, .int .i64 fs_, .int .i64 sn_]] w (Ret fun v w' => ∃ (a0 : Option Addr) (c0 : Nat), v = .slice a0 (unnO kd rd_ wa_ wb_ op_ fs_ sn_).length c0 ∧ Ext w w' ∧ OwnsG M 3 w (unnO kd rd_ wa_ wb_ op_ fs_ sn_) (.slice a0 (unnO kd rd_ wa_ wb_ op_ fs_ sn_).length c0) w') := by
 refine enter 58 Tryd.func18 rfl rfl rfl fun f0 ha => ?_
 have H := HI.start (M0 := M) (w := w) hM
 have i0 : f0 0 = .agg #[iV kd, iV rd_, iV wa_, iV wb_, iV op_, .slice a_sl_ n_sl_ c_sl_, iV fs_, iV sn_] := ha 0 (by simp)
 refine sq (rg (k (bx H rfl i0 ?_)))
 intro bb0 w0 xt0 (H0 : HI M w w0 [box bb0 #[iV kd, iV rd_, iV wa_, iV wb_, iV op_, .slice a_sl_ n_sl_ c_sl_, iV fs_, iV sn_] 43])
 refine k (asg (v := .slice none 0 0) rfl rfl (z (nx (sq (sq (rg (k (fa fl43_0 rfl rfl (k (ldX H0 0 rfl ty3 rfl rfl (by decide) rfl (z (nx (bk (sq (rg (k (eql rfl rfl rfl rfl (k (asg (v := .bool (decide (kd = 1))) rfl rfl (z (nx ?_)))))))))))))))))))))
 refine cd (b := decide (kd = 1)) rfl rfl (fun b0 => ?_) (fun b0 => ?_)
 ·
  have p0 := of_decide_eq_true b0
  refine sq (rg (k (fa fl43_2 rfl rfl (k (ldX H0 0 rfl ty3 rfl rfl (by decide) rfl (k (fa fl43_3 rfl rfl (k (ldX H0 0 rfl ty3 rfl rfl (by decide) rfl (k (fa fl43_4 rfl rfl (k (ldX H0 0 rfl ty3 rfl rfl (by decide) rfl (k (fa fl43_6 rfl rfl (k (ldX H0 0 rfl ty3 rfl rfl (by decide) rfl (k (fa fl43_7 rfl rfl (k (ldX H0 0 rfl ty3 rfl rfl (by decide) rfl (k (bs (xs := ([wa_, wb_, op_, fs_, sn_] : List Int)) (cells := #[iV wa_, iV wb_, iV op_, iV fs_, iV sn_]) (e := 3) H0 rfl (pbc rfl (pbc rfl (pbc rfl (pbc rfl (pbc rfl pb0))))) (fun _ => by kernel_rfl) ⟨[iV wa_], [iV wb_, iV op_, iV fs_, iV sn_], rfl, ⟨rfl, (show I64 (wa_) from (by first | assumption | (unfold I64 at *; omega)))⟩, ⟨[iV wb_], [iV op_, iV fs_, iV sn_], rfl, ⟨rfl, (show I64 (wb_) from (by first | assumption | (unfold I64 at *; omega)))⟩, ⟨[iV op_], [iV fs_, iV sn_], rfl, ⟨rfl, (show I64 (op_) from (by first | assumption | (unfold I64 at *; omega)))⟩, ⟨[iV fs_], [iV sn_], rfl, ⟨rfl, (show I64 (fs_) from (by first | assumption | (unfold I64 at *; omega)))⟩, ⟨[iV sn_], [], rfl, ⟨rfl, (show I64 (sn_) from (by first | assumption | (unfold I64 at *; omega)))⟩, rfl⟩⟩⟩⟩⟩ rfl (by unfold maxLen; omega) ?_)))))))))))))))))))))))
  intro g0 w1 xt1 H1
  refine k (asg (v := .slice (some ⟨g0, 0, none⟩) 5 5) rfl rfl (z (nx (rt (inb_ret (then_ret (r1 rfl rfl ?_)))))))
  have e0 : (([wa_, wb_, op_, fs_, sn_] : List Int) : List Int) = unnO kd rd_ wa_ wb_ op_ fs_ sn_ := by simp only [unnO, b0, BL, cond_true, cond_false]
  have l0 : 5 = (unnO kd rd_ wa_ wb_ op_ fs_ sn_).length := by first | rfl | (rw [← e0]; simp) | simp
  have ev_ := cg1 (fun (n_0 : Nat) => (.slice (some ⟨g0, 0, none⟩) n_0 5 : Value)) l0
  exact ⟨(some ⟨g0, 0, none⟩), 5, ev_, H1.below, (congrArg (fun (n_ : Nat) => OwnsG _ _ _ (unnO kd rd_ wa_ wb_ op_ fs_ sn_) (.slice (some ⟨g0, 0, none⟩) n_ 5) _) l0).mp ((congrArg (fun (x_ : List Int) => OwnsG _ _ _ x_ (.slice (some ⟨g0, 0, none⟩) 5 5) _) e0).mp (H1.ownsG_out 0 rfl))⟩
 ·
  have p0 := of_decide_eq_false b0
  refine sq (sq (rg (k (eql rfl rfl rfl rfl (k (asg (v := .bool (decide (kd = 2))) rfl rfl (z (nx ?_))))))))
  refine cd (b := decide (kd = 2)) rfl rfl (fun b1 => ?_) (fun b1 => ?_)
  ·
   have p1 := of_decide_eq_true b1
   refine sk (nx (cdT rfl rfl b1 (sq (rg (k (fa fl43_1 rfl rfl (k (ldX H0 0 rfl ty3 rfl rfl (by decide) rfl (k (fa fl43_2 rfl rfl (k (ldX H0 0 rfl ty3 rfl rfl (by decide) rfl (k (fa fl43_3 rfl rfl (k (ldX H0 0 rfl ty3 rfl rfl (by decide) rfl (k (fa fl43_7 rfl rfl (k (ldX H0 0 rfl ty3 rfl rfl (by decide) rfl (k (bs (xs := ([rd_, wa_, wb_, sn_] : List Int)) (cells := #[iV rd_, iV wa_, iV wb_, iV sn_]) (e := 3) H0 rfl (pbc rfl (pbc rfl (pbc rfl (pbc rfl pb0)))) (fun _ => by kernel_rfl) ⟨[iV rd_], [iV wa_, iV wb_, iV sn_], rfl, ⟨rfl, (show I64 (rd_) from (by first | assumption | (unfold I64 at *; omega)))⟩, ⟨[iV wa_], [iV wb_, iV sn_], rfl, ⟨rfl, (show I64 (wa_) from (by first | assumption | (unfold I64 at *; omega)))⟩, ⟨[iV wb_], [iV sn_], rfl, ⟨rfl, (show I64 (wb_) from (by first | assumption | (unfold I64 at *; omega)))⟩, ⟨[iV sn_], [], rfl, ⟨rfl, (show I64 (sn_) from (by first | assumption | (unfold I64 at *; omega)))⟩, rfl⟩⟩⟩⟩ rfl (by unfold maxLen; omega) ?_))))))))))))))))))))))
   intro g0 w1 xt1 H1
   refine k (asg (v := .slice (some ⟨g0, 0, none⟩) 4 4) rfl rfl (z (nx (rt (inb_ret (then_ret (r1 rfl rfl ?_)))))))
   have e0 : (([rd_, wa_, wb_, sn_] : List Int) : List Int) = unnO kd rd_ wa_ wb_ op_ fs_ sn_ := by simp only [unnO, b0, b1, BL, cond_true, cond_false]
   have l0 : 4 = (unnO kd rd_ wa_ wb_ op_ fs_ sn_).length := by first | rfl | (rw [← e0]; simp) | simp
   have ev_ := cg1 (fun (n_0 : Nat) => (.slice (some ⟨g0, 0, none⟩) n_0 4 : Value)) l0
   exact ⟨(some ⟨g0, 0, none⟩), 4, ev_, H1.below, (congrArg (fun (n_ : Nat) => OwnsG _ _ _ (unnO kd rd_ wa_ wb_ op_ fs_ sn_) (.slice (some ⟨g0, 0, none⟩) n_ 4) _) l0).mp ((congrArg (fun (x_ : List Int) => OwnsG _ _ _ x_ (.slice (some ⟨g0, 0, none⟩) 4 4) _) e0).mp (H1.ownsG_out 0 rfl))⟩
  ·
   have p1 := of_decide_eq_false b1
   refine rg (k (eql rfl rfl rfl rfl (k (asg (v := .bool (decide (kd = 5))) rfl rfl (z (nx ?_))))))
   refine cd (b := decide (kd = 5)) rfl rfl (fun b2 => ?_) (fun b2 => ?_)
   ·
    have p2 := of_decide_eq_true b2
    refine sq (rg (k (fa fl43_1 rfl rfl (k (ldX H0 0 rfl ty3 rfl rfl (by decide) rfl (k (fa fl43_2 rfl rfl (k (ldX H0 0 rfl ty3 rfl rfl (by decide) rfl (k (fa fl43_3 rfl rfl (k (ldX H0 0 rfl ty3 rfl rfl (by decide) rfl (k (fa fl43_7 rfl rfl (k (ldX H0 0 rfl ty3 rfl rfl (by decide) rfl (k (bs (xs := ([rd_, wa_, wb_, sn_] : List Int)) (cells := #[iV rd_, iV wa_, iV wb_, iV sn_]) (e := 3) H0 rfl (pbc rfl (pbc rfl (pbc rfl (pbc rfl pb0)))) (fun _ => by kernel_rfl) ⟨[iV rd_], [iV wa_, iV wb_, iV sn_], rfl, ⟨rfl, (show I64 (rd_) from (by first | assumption | (unfold I64 at *; omega)))⟩, ⟨[iV wa_], [iV wb_, iV sn_], rfl, ⟨rfl, (show I64 (wa_) from (by first | assumption | (unfold I64 at *; omega)))⟩, ⟨[iV wb_], [iV sn_], rfl, ⟨rfl, (show I64 (wb_) from (by first | assumption | (unfold I64 at *; omega)))⟩, ⟨[iV sn_], [], rfl, ⟨rfl, (show I64 (sn_) from (by first | assumption | (unfold I64 at *; omega)))⟩, rfl⟩⟩⟩⟩ rfl (by unfold maxLen; omega) ?_)))))))))))))))))))
    intro g0 w1 xt1 H1
    refine k (asg (v := .slice (some ⟨g0, 0, none⟩) 4 4) rfl rfl (z (nx (rt (inb_ret (then_ret (r1 rfl rfl ?_)))))))
    have e0 : (([rd_, wa_, wb_, sn_] : List Int) : List Int) = unnO kd rd_ wa_ wb_ op_ fs_ sn_ := by simp only [unnO, b0, b1, b2, BL, cond_true, cond_false]
    have l0 : 4 = (unnO kd rd_ wa_ wb_ op_ fs_ sn_).length := by first | rfl | (rw [← e0]; simp) | simp
    have ev_ := cg1 (fun (n_0 : Nat) => (.slice (some ⟨g0, 0, none⟩) n_0 4 : Value)) l0
    exact ⟨(some ⟨g0, 0, none⟩), 4, ev_, H1.below, (congrArg (fun (n_ : Nat) => OwnsG _ _ _ (unnO kd rd_ wa_ wb_ op_ fs_ sn_) (.slice (some ⟨g0, 0, none⟩) n_ 4) _) l0).mp ((congrArg (fun (x_ : List Int) => OwnsG _ _ _ x_ (.slice (some ⟨g0, 0, none⟩) 4 4) _) e0).mp (H1.ownsG_out 0 rfl))⟩
   ·
    have p2 := of_decide_eq_false b2
    refine sq (rg (k (eql rfl rfl rfl rfl (k (asg (v := .bool (decide (kd = 3))) rfl rfl (z (nx ?_)))))))
    refine cd (b := decide (kd = 3)) rfl rfl (fun b3 => ?_) (fun b3 => ?_)
    ·
     have p3 := of_decide_eq_true b3
     refine sq (rg (k (fa fl43_3 rfl rfl (k (ldX H0 0 rfl ty3 rfl rfl (by decide) rfl (k (fa fl43_4 rfl rfl (k (ldX H0 0 rfl ty3 rfl rfl (by decide) rfl (k (fa fl43_7 rfl rfl (k (ldX H0 0 rfl ty3 rfl rfl (by decide) rfl (k (bs (xs := ([wb_, op_, sn_] : List Int)) (cells := #[iV wb_, iV op_, iV sn_]) (e := 3) H0 rfl (pbc rfl (pbc rfl (pbc rfl pb0))) (fun _ => by kernel_rfl) ⟨[iV wb_], [iV op_, iV sn_], rfl, ⟨rfl, (show I64 (wb_) from (by first | assumption | (unfold I64 at *; omega)))⟩, ⟨[iV op_], [iV sn_], rfl, ⟨rfl, (show I64 (op_) from (by first | assumption | (unfold I64 at *; omega)))⟩, ⟨[iV sn_], [], rfl, ⟨rfl, (show I64 (sn_) from (by first | assumption | (unfold I64 at *; omega)))⟩, rfl⟩⟩⟩ rfl (by unfold maxLen; omega) ?_)))))))))))))))
     intro g0 w1 xt1 H1
     refine k (asg (v := .slice (some ⟨g0, 0, none⟩) 3 3) rfl rfl (z (nx (rt (inb_ret (then_ret (r1 rfl rfl ?_)))))))
     have e0 : (([wb_, op_, sn_] : List Int) : List Int) = unnO kd rd_ wa_ wb_ op_ fs_ sn_ := by simp only [unnO, b0, b1, b2, b3, BL, cond_true, cond_false]
     have l0 : 3 = (unnO kd rd_ wa_ wb_ op_ fs_ sn_).length := by first | rfl | (rw [← e0]; simp) | simp
     have ev_ := cg1 (fun (n_0 : Nat) => (.slice (some ⟨g0, 0, none⟩) n_0 3 : Value)) l0
     exact ⟨(some ⟨g0, 0, none⟩), 3, ev_, H1.below, (congrArg (fun (n_ : Nat) => OwnsG _ _ _ (unnO kd rd_ wa_ wb_ op_ fs_ sn_) (.slice (some ⟨g0, 0, none⟩) n_ 3) _) l0).mp ((congrArg (fun (x_ : List Int) => OwnsG _ _ _ x_ (.slice (some ⟨g0, 0, none⟩) 3 3) _) e0).mp (H1.ownsG_out 0 rfl))⟩
    ·
     have p3 := of_decide_eq_false b3
     refine sq (rg (k (eql rfl rfl rfl rfl (k (asg (v := .bool (decide (kd = 4))) rfl rfl (z (nx ?_)))))))
     refine cd (b := decide (kd = 4)) rfl rfl (fun b4 => ?_) (fun b4 => ?_)
     ·
      have p4 := of_decide_eq_true b4
      refine sq (rg (k (fa fl43_4 rfl rfl (k (ldX H0 0 rfl ty3 rfl rfl (by decide) rfl (k (bs (xs := ([op_] : List Int)) (cells := #[iV op_]) (e := 3) H0 rfl (pbc rfl pb0) (fun _ => by kernel_rfl) ⟨[iV op_], [], rfl, ⟨rfl, (show I64 (op_) from (by first | assumption | (unfold I64 at *; omega)))⟩, rfl⟩ rfl (by unfold maxLen; omega) ?_)))))))
      intro g0 w1 xt1 H1
      refine k (asg (v := .slice (some ⟨g0, 0, none⟩) 1 1) rfl rfl (z (nx (rt (inb_ret (then_ret (r1 rfl rfl ?_)))))))
      have e0 : (([op_] : List Int) : List Int) = unnO kd rd_ wa_ wb_ op_ fs_ sn_ := by simp only [unnO, b0, b1, b2, b3, b4, BL, cond_true, cond_false]
      have l0 : 1 = (unnO kd rd_ wa_ wb_ op_ fs_ sn_).length := by first | rfl | (rw [← e0]; simp) | simp
      have ev_ := cg1 (fun (n_0 : Nat) => (.slice (some ⟨g0, 0, none⟩) n_0 1 : Value)) l0
      exact ⟨(some ⟨g0, 0, none⟩), 1, ev_, H1.below, (congrArg (fun (n_ : Nat) => OwnsG _ _ _ (unnO kd rd_ wa_ wb_ op_ fs_ sn_) (.slice (some ⟨g0, 0, none⟩) n_ 1) _) l0).mp ((congrArg (fun (x_ : List Int) => OwnsG _ _ _ x_ (.slice (some ⟨g0, 0, none⟩) 1 1) _) e0).mp (H1.ownsG_out 0 rfl))⟩
     ·
      have p4 := of_decide_eq_false b4
      refine sq (rg (k (eql rfl rfl rfl rfl (k (asg (v := .bool (decide (kd = 6))) rfl rfl (z (nx ?_)))))))
      refine cd (b := decide (kd = 6)) rfl rfl (fun b5 => ?_) (fun b5 => ?_)
      ·
       have p5 := of_decide_eq_true b5
       refine sq (rg (k (fa fl43_3 rfl rfl (k (ldX H0 0 rfl ty3 rfl rfl (by decide) rfl (k (fa fl43_7 rfl rfl (k (ldX H0 0 rfl ty3 rfl rfl (by decide) rfl (k (bs (xs := ([wb_, sn_] : List Int)) (cells := #[iV wb_, iV sn_]) (e := 3) H0 rfl (pbc rfl (pbc rfl pb0)) (fun _ => by kernel_rfl) ⟨[iV wb_], [iV sn_], rfl, ⟨rfl, (show I64 (wb_) from (by first | assumption | (unfold I64 at *; omega)))⟩, ⟨[iV sn_], [], rfl, ⟨rfl, (show I64 (sn_) from (by first | assumption | (unfold I64 at *; omega)))⟩, rfl⟩⟩ rfl (by unfold maxLen; omega) ?_)))))))))))
       intro g0 w1 xt1 H1
       refine k (asg (v := .slice (some ⟨g0, 0, none⟩) 2 2) rfl rfl (z (nx (rt (inb_ret (then_ret (r1 rfl rfl ?_)))))))
       have e0 : (([wb_, sn_] : List Int) : List Int) = unnO kd rd_ wa_ wb_ op_ fs_ sn_ := by simp only [unnO, b0, b1, b2, b3, b4, b5, BL, cond_true, cond_false]
       have l0 : 2 = (unnO kd rd_ wa_ wb_ op_ fs_ sn_).length := by first | rfl | (rw [← e0]; simp) | simp
       have ev_ := cg1 (fun (n_0 : Nat) => (.slice (some ⟨g0, 0, none⟩) n_0 2 : Value)) l0
       exact ⟨(some ⟨g0, 0, none⟩), 2, ev_, H1.below, (congrArg (fun (n_ : Nat) => OwnsG _ _ _ (unnO kd rd_ wa_ wb_ op_ fs_ sn_) (.slice (some ⟨g0, 0, none⟩) n_ 2) _) l0).mp ((congrArg (fun (x_ : List Int) => OwnsG _ _ _ x_ (.slice (some ⟨g0, 0, none⟩) 2 2) _) e0).mp (H1.ownsG_out 0 rfl))⟩
      ·
       have p5 := of_decide_eq_false b5
       refine sk (inb_normal (nx (sq (rg (k (fa fl43_1 rfl rfl (k (ldX H0 0 rfl ty3 rfl rfl (by decide) rfl (k (fa fl43_3 rfl rfl (k (ldX H0 0 rfl ty3 rfl rfl (by decide) rfl (k (fa fl43_7 rfl rfl (k (ldX H0 0 rfl ty3 rfl rfl (by decide) rfl (k (bs (xs := ([rd_, wb_, sn_] : List Int)) (cells := #[iV rd_, iV wb_, iV sn_]) (e := 3) H0 rfl (pbc rfl (pbc rfl (pbc rfl pb0))) (fun _ => by kernel_rfl) ⟨[iV rd_], [iV wb_, iV sn_], rfl, ⟨rfl, (show I64 (rd_) from (by first | assumption | (unfold I64 at *; omega)))⟩, ⟨[iV wb_], [iV sn_], rfl, ⟨rfl, (show I64 (wb_) from (by first | assumption | (unfold I64 at *; omega)))⟩, ⟨[iV sn_], [], rfl, ⟨rfl, (show I64 (sn_) from (by first | assumption | (unfold I64 at *; omega)))⟩, rfl⟩⟩⟩ rfl (by unfold maxLen; omega) ?_))))))))))))))))))
       intro g0 w1 xt1 H1
       refine k (asg (v := .slice (some ⟨g0, 0, none⟩) 3 3) rfl rfl (z (nx (rt (r1 rfl rfl ?_)))))
       have e0 : (([rd_, wb_, sn_] : List Int) : List Int) = unnO kd rd_ wa_ wb_ op_ fs_ sn_ := by simp only [unnO, b0, b1, b2, b3, b4, b5, BL, cond_true, cond_false]
       have l0 : 3 = (unnO kd rd_ wa_ wb_ op_ fs_ sn_).length := by first | rfl | (rw [← e0]; simp) | simp
       have ev_ := cg1 (fun (n_0 : Nat) => (.slice (some ⟨g0, 0, none⟩) n_0 3 : Value)) l0
       exact ⟨(some ⟨g0, 0, none⟩), 3, ev_, H1.below, (congrArg (fun (n_ : Nat) => OwnsG _ _ _ (unnO kd rd_ wa_ wb_ op_ fs_ sn_) (.slice (some ⟨g0, 0, none⟩) n_ 3) _) l0).mp ((congrArg (fun (x_ : List Int) => OwnsG _ _ _ x_ (.slice (some ⟨g0, 0, none⟩) 3 3) _) e0).mp (H1.ownsG_out 0 rfl))⟩
set_option maxRecDepth 100000 in
set_option maxHeartbeats 1600000 in
theorem audit_Holds1 {w : World} {n1 : Int} (h_n1 : I64 n1) : Calls Tryd.prog 19 #[.int .i64 n1] w (Ret fun v w' =>  v = .bool (!decide (n1 = (-1))) ∧ Ext w w') := by
 refine enter 5 Tryd.func19 rfl rfl rfl fun f0 ha => ?_
 have H := HI.start (M0 := (fun _ => False)) (w := w) (fun _ h => h.elim)
 have i0 : f0 0 = iV n1 := ha 0 (by simp)
 refine sq (rg (k (asg (v := .bool false) rfl rfl (z (nx (sq (rg (k (mv rfl i0 (k (neq rfl rfl rfl rfl (k (asg (v := .bool (!decide (n1 = (-1)))) rfl rfl (z (nx (rt (r1 rfl rfl ?_)))))))))))))))))
 exact ⟨rfl, H.below⟩
end Go.Proofs.YtefcbihikknlkaaDoor
