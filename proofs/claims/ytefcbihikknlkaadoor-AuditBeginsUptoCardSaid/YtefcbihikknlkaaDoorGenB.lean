/- PRINTED by my own tool (wip/tool/gen.py): contracts of Go functions of this seat, each with its proof. -/
import Derived.Test.YtefcbihikknlkaaDoorOwnA
import Derived.Test.YtefcbihikknlkaaDoorOwnB
import Derived.Test.YtefcbihikknlkaaDoorGenA
namespace Go.Proofs.YtefcbihikknlkaaDoor
open Go.Ew Go.RowKit
set_option linter.unusedVariables false
set_option linter.unusedSimpArgs false
attribute [local irreducible] WL WC SO Code.wp wpList retQ Ret
attribute [local irreducible] bitB hasW inR hasR setR countW countR subR words newR listR orR firstW tab8
theorem go61 : GoF Tryd.prog 61 := ⟨_, _, Tryd.func61, rfl, by kernel_rfl⟩
theorem un104 : Tryd.prog.underlying 104 = some (.array 2 3) := by kernel_rfl
set_option maxRecDepth 100000 in
set_option maxHeartbeats 1600000 in
theorem mat_Turn {M : Nat → Prop} {w : World} {mn : Int} {a_mr : Option Addr} {c_mr : Nat} {mr : List (List (BitVec 64))} (hM : ∀ b, M b → b < w.heap.size) (hT : TabAt 0 w) (h_mn : I64 mn) (h_mr : RV M w (.slice a_mr mr.length c_mr) mr) (rt_m : rightS mn mr = true) : Calls Tryd.prog 53 #[.agg #[.int .i64 mn, .slice a_mr mr.length c_mr]] w (Ret fun v w' => ∃ (a0 : Option Addr) (c0 : Nat), v = .agg #[.int .i64 mn, .slice a0 (turnM mn mr).length c0] ∧ Ext w w' ∧ OwnsG M 91 w (turnM mn mr) (.slice a0 (turnM mn mr).length c0) w') := by
 refine enter 39 Tryd.func53 rfl rfl rfl fun f0 ha => ?_
 have H := HI.start (M0 := M) (w := w) hM
 have H0 := H.put (it := imm (.slice a_mr mr.length c_mr) mr) rfl (by rw [MS_nil]; exact h_mr)
 have ln_mr := rv_len h_mr
 have i0 : f0 0 = .agg #[iV mn, .slice a_mr mr.length c_mr] := ha 0 (by simp)
 refine sq (rg (k (bx H0 rfl i0 ?_)))
 intro bb0 w0 xt0 (H1 : HI M w w0 [box bb0 #[iV mn, .slice a_mr mr.length c_mr] 86, imm (.slice a_mr mr.length c_mr) mr])
 refine k (al H1 ty86 ?_)
 intro bb1 w1 xt1 (H2 : HI M w w1 [box bb1 #[iV 0, .slice none 0 0] 86, box bb0 #[iV mn, .slice a_mr mr.length c_mr] 86, imm (.slice a_mr mr.length c_mr) mr])
 refine z (nx (sq (rg (k (fa fl86_0 rfl rfl (k (ldX H2 1 rfl ty3 rfl rfl (by decide) rfl (k ?_))))))))
 have cc0 := mat_NewR (n := mn) (w := w1) H2.mb (by unfold I64 at *; omega) (by exact right_pos rt_m) (by exact (right_sq rt_m).2.2.1)
 refine ca go60 rfl (ec rfl e0) cc0 ?_
 rintro _ w2 ⟨a0, c0, ss0, rfl, xt2, rv0⟩
 have H3 := H2.ownsR rv0
 have H4 : HI M w w2 ([own w.heap.size 91 (.slice a0 mn.toNat c0) ss0, box bb1 #[iV 0, .slice none 0 0] 86, box bb0 #[iV mn, .slice a_mr mr.length c_mr] 86, imm (.slice a_mr mr.length c_mr) mr] ++ rowItems w.heap.size 94 ss0 (List.replicate mn.toNat (newR mn))) := H3
 have ssl0 := rv0.1
 refine k (mv (v := .tuple #[.agg #[iV mn, .slice a0 mn.toNat c0], iV 0]) rfl rfl (k (xt rfl rfl rfl (k (xt rfl rfl rfl (k (al H4 ty86 ?_)))))))
 intro bb2 w3 xt3 (H5 : HI M w w3 ([box bb2 #[iV 0, .slice none 0 0] 86, own w.heap.size 91 (.slice a0 mn.toNat c0) ss0, box bb1 #[iV 0, .slice none 0 0] 86, box bb0 #[iV mn, .slice a_mr mr.length c_mr] 86, imm (.slice a_mr mr.length c_mr) mr] ++ rowItems w.heap.size 94 ss0 (List.replicate mn.toNat (newR mn))))
 refine k (stX H5 0 rfl ty86 rfl rfl rfl rfl rfl rfl rfl ?_)
 intro w4 (H6 : HI M w w4 ([box bb2 #[iV mn, .slice a0 mn.toNat c0] 86, own w.heap.size 91 (.slice a0 mn.toNat c0) ss0, box bb1 #[iV 0, .slice none 0 0] 86, box bb0 #[iV mn, .slice a_mr mr.length c_mr] 86, imm (.slice a_mr mr.length c_mr) mr] ++ rowItems w.heap.size 94 ss0 (List.replicate mn.toNat (newR mn))))
 refine k (asg (v := iV 0) rfl rfl (z (nx (sq (sq (rg (k (ldX H6 3 rfl ty86 rfl rfl (by decide) rfl (k ?_)))))))))
 have cc1 := mat_Pairs (mn := mn) (mr := mr) (w := w4) H6.mb (hT.ext H6.below) (by unfold I64 at *; omega) (H6.rv 4 rfl) (by exact (right_sq rt_m).1) (by exact (right_sq rt_m).2.1) (by exact (right_sq rt_m).2.2.1) (by exact (right_sq rt_m).2.2.2.2)
 refine ca go61 rfl (ec rfl e0) cc1 ?_
 rintro _ w5 ⟨a1, c1, rfl, xt4, rv1⟩
 have H7 := H6.ext xt4
 have H8 := H7.put (it := imm (.slice a1 (pairsM mn mr).length c1) (pairsM mn mr)) rfl rv1
 have H9 : HI M w w5 ([imm (.slice a1 (pairsM mn mr).length c1) (pairsM mn mr), box bb2 #[iV mn, .slice a0 mn.toNat c0] 86, own w.heap.size 91 (.slice a0 mn.toNat c0) ss0, box bb1 #[iV 0, .slice none 0 0] 86, box bb0 #[iV mn, .slice a_mr mr.length c_mr] 86, imm (.slice a_mr mr.length c_mr) mr] ++ rowItems w.heap.size 94 ss0 (List.replicate mn.toNat (newR mn))) := H8
 refine k (lnS rfl rfl un102 (k (mv (v := iV 0) rfl rfl (z (nx (bk ?_))))))
 refine lp (fun m f w' => ∃ (j : Nat) (xs : List (List (BitVec 64))), m = (pairsM mn mr).length - j ∧ f 2 = pV bb1 0 ∧ f 3 = pV bb2 0 ∧ f 14 = .slice a1 (pairsM mn mr).length c1 ∧ f 15 = iV ((pairsM mn mr).length : Int) ∧ f 16 = iV (j : Int) ∧  HI M w w' ([imm (.slice a1 (pairsM mn mr).length c1) (pairsM mn mr), box bb2 #[iV mn, .slice a0 mn.toNat c0] 86, own w.heap.size 91 (.slice a0 mn.toNat c0) ss0, box bb1 #[iV 0, .slice none 0 0] 86, box bb0 #[iV mn, .slice a_mr mr.length c_mr] 86, imm (.slice a_mr mr.length c_mr) mr] ++ rowItems w.heap.size 94 ss0 xs) ∧ (j ≤ (pairsM mn mr).length) ∧ (ss0.length = xs.length) ∧ (xs = foldM mn (((pairsM mn mr).map swapP).take j))) _ ⟨0, (List.replicate mn.toNat (newR mn)), rfl, rfl, rfl, rfl, rfl, (ieq rfl (by first | rfl | omega | simp)), H9, (by first | assumption | omega | simp | (simp; omega)), (by exact rv0.1), (by exact turn_zero _ _)⟩ ?_
 rintro _ f0 w6 ⟨j, xs, rfl, s0, s1, s2, s3, s4, H10, hk, hl, hs⟩
 refine sq (rg (k (lss rfl rfl s4 s3 (z (nx (sq ?_))))))
 refine cd (b := decide ((j : Int) < ((pairsM mn mr).length : Int))) rfl rfl (fun b0 => ?_) (fun b0 => ?_)
 ·
  have p0 := of_decide_eq_true b0
  refine sk (nx (sq (bk (sq (rg (k (ia (H10.rv 0 rfl) rfl rfl s2 s4 (by first | omega | (simp; omega)) un102 ty104 ?_)))))))
  intro ad0 x0 hx0 hA0
  refine k (ldW hA0.w ty104 rfl rfl ?_)
  intro v0 rv2
  obtain ⟨_, ⟨_, _, rfl, ⟨rfl, rv3⟩, ⟨rfl, rv4⟩⟩, rfl⟩ := rv2
  refine k (al H10 ty104 ?_)
  intro bb3 w7 xt5 (H11 : HI M w w7 ([box bb3 #[iV 0, iV 0] 104, imm (.slice a1 (pairsM mn mr).length c1) (pairsM mn mr), box bb2 #[iV mn, .slice a0 mn.toNat c0] 86, own w.heap.size 91 (.slice a0 mn.toNat c0) ss0, box bb1 #[iV 0, .slice none 0 0] 86, box bb0 #[iV mn, .slice a_mr mr.length c_mr] 86, imm (.slice a_mr mr.length c_mr) mr] ++ rowItems w.heap.size 94 ss0 xs))
  refine k (stX H11 0 rfl ty104 rfl rfl rfl rfl rfl rfl rfl ?_)
  intro w8 (H12 : HI M w w8 ([box bb3 #[iV x0.1, iV x0.2] 104, imm (.slice a1 (pairsM mn mr).length c1) (pairsM mn mr), box bb2 #[iV mn, .slice a0 mn.toNat c0] 86, own w.heap.size 91 (.slice a0 mn.toNat c0) ss0, box bb1 #[iV 0, .slice none 0 0] 86, box bb0 #[iV mn, .slice a_mr mr.length c_mr] 86, imm (.slice a_mr mr.length c_mr) mr] ++ rowItems w.heap.size 94 ss0 xs))
  refine z (nx ?_)
  obtain ⟨g1_, g2_, g3_, g4_⟩ := right_pair rt_m hx0
  have xl_ : xs.length = mn.toNat := by rw [hs, foldM_length]
  obtain ⟨a2, x1, c2, hs0, hr0⟩ := row_get (i := x0.2.toNat) H12 (by first | assumption | (simp only [List.length_set]; assumption) | (simp only [List.length_set, List.length_replicate] at *; omega)) (by omega)
  obtain ⟨x3, hx2⟩ : ∃ x, x1[(x0.1 / 64).toNat]? = some x := ⟨_, List.getElem?_eq_getElem (by obtain ⟨k1_, k2_, k3_, k4_⟩ := turn_row (hs ▸ hr0) g1_ g2_; first | omega | exact ⟨k1_, k2_⟩)⟩
  refine dr 15 [eV (pV bb2 1), eV (.slice a0 mn.toNat c0), eV (pV bb3 1), fun (v : Value) (w' : World) => v = iV x0.2 ∧ I64 (x0.2), fun (v : Value) (w' : World) => ∃ (g0 : Nat), v = .pointer (some ⟨g0, x0.2.toNat * 1, none⟩) ∧ (.slice a0 mn.toNat c0 : Value).ownBlock = some g0 ∧ AtW (MS M ([box bb3 #[iV x0.1, iV x0.2] 104, imm (.slice a1 (pairsM mn mr).length c1) (pairsM mn mr), box bb2 #[iV mn, .slice a0 mn.toNat c0] 86, own w.heap.size 91 (.slice a0 mn.toNat c0) ss0, box bb1 #[iV 0, .slice none 0 0] 86, box bb0 #[iV mn, .slice a_mr mr.length c_mr] 86, imm (.slice a_mr mr.length c_mr) mr] ++ rowItems w.heap.size 94 ss0 xs)) w' ⟨g0, x0.2.toNat * 1, none⟩ (⟨a2, x1.length, c2⟩ : SV), eV (.slice a2 x1.length c2), eV (pV bb3 0), fun (v : Value) (w' : World) => v = iV x0.1 ∧ I64 (x0.1), eV (iV (x0.1 / 64)), fun (v : Value) (w' : World) => ∃ (g1 : Nat), v = .pointer (some ⟨g1, (x0.1 / 64).toNat * 1, none⟩) ∧ (.slice a2 x1.length c2 : Value).ownBlock = some g1 ∧ AtW (MS M ([box bb3 #[iV x0.1, iV x0.2] 104, imm (.slice a1 (pairsM mn mr).length c1) (pairsM mn mr), box bb2 #[iV mn, .slice a0 mn.toNat c0] 86, own w.heap.size 91 (.slice a0 mn.toNat c0) ss0, box bb1 #[iV 0, .slice none 0 0] 86, box bb0 #[iV mn, .slice a_mr mr.length c_mr] 86, imm (.slice a_mr mr.length c_mr) mr] ++ rowItems w.heap.size 94 ss0 xs)) w' ⟨g1, (x0.1 / 64).toNat * 1, none⟩ x3, eV (U x3), eV (pV bb3 0), fun (v : Value) (w' : World) => v = iV x0.1 ∧ I64 (x0.1), eV (iV (x0.1 % 64)), eV (U (bitB (x0.1 % 64)))] rfl (by kernel_rfl) ?_ ?_
  ·
   refine dc (fun _ _ hf0 _ _ => fa fl86_1 rfl ((hf0 3 rfl).trans s1) (d0 rfl rfl)) ?_
   refine dc (fun _ _ _ xt8 hp1 => ldX (H12.ext xt8) 2 rfl ty84 rfl (hp1 0 rfl rfl) (by decide) rfl (d0 rfl rfl)) ?_
   refine dc (fun _ _ hf2 _ _ => iaA rfl rfl (hf2 6 rfl) rfl (by omega) un104 ty3 (d0 rfl rfl)) ?_
   refine dc (fun _ _ _ xt10 hp3 => ldX (H12.ext xt10) 0 rfl ty3 rfl (hp3 2 rfl rfl) (by decide) rfl ⟨_, rfl, Ext.refl _, ⟨rfl, rv4⟩⟩) ?_
   refine ⟨fun _ => ⟨fun f5 w14 hf4 xt11 hp4 => ?_, by rintro _ _ _ x_ ⟨g0, e_, hv0, hA1⟩; exact ⟨g0, e_, hv0, hA1.ext x_⟩⟩, ?_⟩
   ·
    have H18 := H12.ext xt11
    have s7 : f5 21 = .slice a0 mn.toNat c0 := hp4 1 rfl rfl
    obtain ⟨s8, rv5⟩ : f5 23 = iV x0.2 ∧ I64 (x0.2) := hp4 3 rfl rfl
    refine iaO (H18.at_ 3 rfl) rfl rfl s7 s8 (by omega) un84 ty91 ?_
    intro g2 x4 hv2 hx3 hA3
    obtain rfl : (⟨a2, x1.length, c2⟩ : SV) = x4 := Option.some.inj (hs0.symm.trans hx3)
    exact ⟨_, rfl, Ext.refl _, ⟨g2, rfl, hv2, hA3⟩⟩
   refine dc (fun f6 w15 hf5 xt12 hp5 => ?_) ?_
   ·
    obtain ⟨g3, s9, hv3, hA4⟩ : ∃ (g3 : Nat), f6 24 = .pointer (some ⟨g3, x0.2.toNat * 1, none⟩) ∧ (.slice a0 mn.toNat c0 : Value).ownBlock = some g3 ∧ AtW (MS M ([box bb3 #[iV x0.1, iV x0.2] 104, imm (.slice a1 (pairsM mn mr).length c1) (pairsM mn mr), box bb2 #[iV mn, .slice a0 mn.toNat c0] 86, own w.heap.size 91 (.slice a0 mn.toNat c0) ss0, box bb1 #[iV 0, .slice none 0 0] 86, box bb0 #[iV mn, .slice a_mr mr.length c_mr] 86, imm (.slice a_mr mr.length c_mr) mr] ++ rowItems w.heap.size 94 ss0 xs)) w15 ⟨g3, x0.2.toNat * 1, none⟩ (⟨a2, x1.length, c2⟩ : SV) := hp5 4 rfl rfl
    refine ldV hA4 ty91 rfl s9 ?_
    exact ⟨_, rfl, Ext.refl _, rfl⟩
   refine dc (fun _ _ hf6 _ _ => iaA rfl rfl (hf6 6 rfl) rfl (by omega) un104 ty3 (d0 rfl rfl)) ?_
   refine dc (fun _ _ _ xt14 hp7 => ldX (H12.ext xt14) 0 rfl ty3 rfl (hp7 6 rfl rfl) (by decide) rfl ⟨_, rfl, Ext.refl _, ⟨rfl, rv3⟩⟩) ?_
   refine dc (fun f9 w18 hf8 xt15 hp8 => ?_) ?_
   ·
    obtain ⟨s11, rv6⟩ : f9 27 = iV x0.1 ∧ I64 (x0.1) := hp8 7 rfl rfl
    refine shrI rfl rfl s11 rfl ?_
    exact ⟨_, rfl, Ext.refl _, rfl⟩
   refine ⟨fun _ => ⟨fun f10 w19 hf9 xt16 hp9 => ?_, by rintro _ _ _ x_ ⟨g1, e_, hv1, hA2⟩; exact ⟨g1, e_, hv1, hA2.ext x_⟩⟩, ?_⟩
   ·
    have H23 := H12.ext xt16
    have s12 : f10 25 = .slice a2 x1.length c2 := hp9 5 rfl rfl
    have s13 : f10 28 = iV (x0.1 / 64) := hp9 8 rfl rfl
    refine iaO (H23.at_ _ (row_at hs0 hr0)) rfl rfl s12 s13 (by obtain ⟨k1_, k2_, k3_, k4_⟩ := turn_row (hs ▸ hr0) g1_ g2_; first | omega | exact ⟨k1_, k2_⟩) un91 ty94 ?_
    intro g4 x5 hv4 hx4 hA5
    obtain rfl : x3 = x5 := Option.some.inj (hx2.symm.trans hx4)
    exact ⟨_, rfl, Ext.refl _, ⟨g4, rfl, hv4, hA5⟩⟩
   refine dc (fun f11 w20 hf10 xt17 hp10 => ?_) ?_
   ·
    obtain ⟨g5, s14, hv5, hA6⟩ : ∃ (g5 : Nat), f11 29 = .pointer (some ⟨g5, (x0.1 / 64).toNat * 1, none⟩) ∧ (.slice a2 x1.length c2 : Value).ownBlock = some g5 ∧ AtW (MS M ([box bb3 #[iV x0.1, iV x0.2] 104, imm (.slice a1 (pairsM mn mr).length c1) (pairsM mn mr), box bb2 #[iV mn, .slice a0 mn.toNat c0] 86, own w.heap.size 91 (.slice a0 mn.toNat c0) ss0, box bb1 #[iV 0, .slice none 0 0] 86, box bb0 #[iV mn, .slice a_mr mr.length c_mr] 86, imm (.slice a_mr mr.length c_mr) mr] ++ rowItems w.heap.size 94 ss0 xs)) w20 ⟨g5, (x0.1 / 64).toNat * 1, none⟩ x3 := hp10 9 rfl rfl
    refine ldU hA6 ty94 rfl s14 ?_
    exact ⟨_, rfl, Ext.refl _, rfl⟩
   refine dc (fun _ _ hf11 _ _ => iaA rfl rfl (hf11 6 rfl) rfl (by omega) un104 ty3 (d0 rfl rfl)) ?_
   refine dc (fun _ _ _ xt19 hp12 => ldX (H12.ext xt19) 0 rfl ty3 rfl (hp12 11 rfl rfl) (by decide) rfl ⟨_, rfl, Ext.refl _, ⟨rfl, rv3⟩⟩) ?_
   refine dc (fun f14 w23 hf13 xt20 hp13 => ?_) ?_
   ·
    obtain ⟨s16, rv7⟩ : f14 32 = iV x0.1 ∧ I64 (x0.1) := hp13 12 rfl rfl
    refine and63 rfl rfl s16 rfl ?_
    exact ⟨_, rfl, Ext.refl _, rfl⟩
   refine dc (fun f15 w24 hf14 xt21 hp14 => ?_) ?_
   ·
    have s17 : f15 33 = iV (x0.1 % 64) := hp14 13 rfl rfl
    have cc3 := word_Bit (i := (x0.1 % 64)) (w := w24) (by unfold I64 at *; omega)
    refine ca go59 rfl (ec s17 e0) cc3 ?_
    rintro _ w25 ⟨rfl, xt22⟩
    exact ⟨_, rfl, xt22, rfl⟩
   exact DSteps.rest rfl _
  ·
   intro f16 w26 hf15 xt23 hp15
   have H30 := H12.ext xt23
   have s18 : f16 2 = pV bb1 0 := (hf15 2 rfl).trans s0
   have s19 : f16 3 = pV bb2 0 := (hf15 3 rfl).trans s1
   have s20 : f16 14 = .slice a1 (pairsM mn mr).length c1 := (hf15 14 rfl).trans s2
   have s21 : f16 15 = iV ((pairsM mn mr).length : Int) := (hf15 15 rfl).trans s3
   have s22 : f16 16 = iV (j : Int) := (hf15 16 rfl).trans s4
   have s23 : f16 25 = .slice a2 x1.length c2 := hp15 5 rfl
   have s24 : f16 28 = iV (x0.1 / 64) := hp15 8 rfl
   have s25 : f16 30 = U x3 := hp15 10 rfl
   have s26 : f16 34 = U (bitB (x0.1 % 64)) := hp15 14 rfl
   refine k (orU x3 (bitB (x0.1 % 64)) rfl rfl s25 s26 (k (iaO (H30.at_ _ (row_at hs0 hr0)) rfl rfl s23 s24 (by obtain ⟨k1_, k2_, k3_, k4_⟩ := turn_row (hs ▸ hr0) g1_ g2_; first | omega | exact ⟨k1_, k2_⟩) un91 ty94 ?_)))
   intro g6 x6 hv6 hx5 hA7
   refine k (stO H30 _ (row_at hs0 hr0) hv6 rfl (by obtain ⟨k1_, k2_, k3_, k4_⟩ := turn_row (hs ▸ hr0) g1_ g2_; first | omega | exact ⟨k1_, k2_⟩) ty94 rfl rfl rfl rfl (RV.bv.2 rfl) ?_)
   intro w27 H32
   have H31 := HI.rowPut (M := fun _ => False) (it := imm (.int .i64 0) (0 : Int)) H32 hs0
   have H33 : HI M w w27 ([box bb3 #[iV x0.1, iV x0.2] 104, imm (.slice a1 (pairsM mn mr).length c1) (pairsM mn mr), box bb2 #[iV mn, .slice a0 mn.toNat c0] 86, own w.heap.size 91 (.slice a0 mn.toNat c0) ss0, box bb1 #[iV 0, .slice none 0 0] 86, box bb0 #[iV mn, .slice a_mr mr.length c_mr] 86, imm (.slice a_mr mr.length c_mr) mr] ++ rowItems w.heap.size 94 ss0 (xs.set x0.2.toNat (x1.set ((x0.1 / 64).toNat) (x3 ||| (bitB (x0.1 % 64)))))) := H31
   refine z (inb_normal (nx (rg (k (add rfl rfl s22 rfl (by have h_ := right_pairs rt_m; unfold I64; omega) (k (mv (v := iV ((j : Int) + 1)) rfl rfl (z ?_))))))))
   have H34 : HI M w w27 ([imm (.slice a1 (pairsM mn mr).length c1) (pairsM mn mr), box bb2 #[iV mn, .slice a0 mn.toNat c0] 86, own w.heap.size 91 (.slice a0 mn.toNat c0) ss0, box bb1 #[iV 0, .slice none 0 0] 86, box bb0 #[iV mn, .slice a_mr mr.length c_mr] 86, imm (.slice a_mr mr.length c_mr) mr] ++ rowItems w.heap.size 94 ss0 (xs.set x0.2.toNat (x1.set ((x0.1 / 64).toNat) (x3 ||| (bitB (x0.1 % 64)))))) := HI.pickT (l := [box bb3 #[iV x0.1, iV x0.2] 104, imm (.slice a1 (pairsM mn mr).length c1) (pairsM mn mr), box bb2 #[iV mn, .slice a0 mn.toNat c0] 86, own w.heap.size 91 (.slice a0 mn.toNat c0) ss0, box bb1 #[iV 0, .slice none 0 0] 86, box bb0 #[iV mn, .slice a_mr mr.length c_mr] 86, imm (.slice a_mr mr.length c_mr) mr]) (l' := [imm (.slice a1 (pairsM mn mr).length c1) (pairsM mn mr), box bb2 #[iV mn, .slice a0 mn.toNat c0] 86, own w.heap.size 91 (.slice a0 mn.toNat c0) ss0, box bb1 #[iV 0, .slice none 0 0] 86, box bb0 #[iV mn, .slice a_mr mr.length c_mr] 86, imm (.slice a_mr mr.length c_mr) mr]) (t := rowItems w.heap.size 94 ss0 (xs.set x0.2.toNat (x1.set ((x0.1 / 64).toNat) (x3 ||| (bitB (x0.1 % 64)))))) H33 [1, 2, 3, 4, 5, 6] (by decide) rfl rfl
   refine loopN _ ?_ ⟨(j + 1), (xs.set x0.2.toNat (x1.set ((x0.1 / 64).toNat) (x3 ||| (bitB (x0.1 % 64))))), rfl, s18, s19, s20, s21, (ieq rfl (by first | rfl | omega | (push_cast; omega))), H34, (by first | assumption | omega | simp | (simp; omega)), (by simp only [List.length_set]; exact hl), (by first | exact turn_step hs hx0 hr0 hx1 g1_ g2_ | exact turn_step hs hx0 hr0 hx2 g1_ g2_)⟩
   omega
 ·
  have p0 := of_decide_eq_false b0
  refine ex (then_exit (loop_exit (inb_here (nx (sq ?_)))))
  have H11 : HI M w w6 [own w.heap.size 91 (.slice a0 mn.toNat c0) xs, imm (.slice a1 (pairsM mn mr).length c1) (pairsM mn mr), box bb2 #[iV mn, .slice a0 mn.toNat c0] 86, box bb1 #[iV 0, .slice none 0 0] 86, box bb0 #[iV mn, .slice a_mr mr.length c_mr] 86, imm (.slice a_mr mr.length c_mr) mr] := HI.deep (l := [imm (.slice a1 (pairsM mn mr).length c1) (pairsM mn mr), box bb2 #[iV mn, .slice a0 mn.toNat c0] 86, box bb1 #[iV 0, .slice none 0 0] 86, box bb0 #[iV mn, .slice a_mr mr.length c_mr] 86, imm (.slice a_mr mr.length c_mr) mr]) (HI.pickT (l := [imm (.slice a1 (pairsM mn mr).length c1) (pairsM mn mr), box bb2 #[iV mn, .slice a0 mn.toNat c0] 86, own w.heap.size 91 (.slice a0 mn.toNat c0) ss0, box bb1 #[iV 0, .slice none 0 0] 86, box bb0 #[iV mn, .slice a_mr mr.length c_mr] 86, imm (.slice a_mr mr.length c_mr) mr]) (l' := [own w.heap.size 91 (.slice a0 mn.toNat c0) ss0, imm (.slice a1 (pairsM mn mr).length c1) (pairsM mn mr), box bb2 #[iV mn, .slice a0 mn.toNat c0] 86, box bb1 #[iV 0, .slice none 0 0] 86, box bb0 #[iV mn, .slice a_mr mr.length c_mr] 86, imm (.slice a_mr mr.length c_mr) mr]) (t := rowItems w.heap.size 94 ss0 xs) H10 [2, 0, 1, 3, 4, 5] (by decide) rfl rfl) (by first | assumption | (simp only [List.length_set]; assumption) | (simp only [List.length_set, List.length_replicate] at *; omega))
  refine rg (k (ldX H11 2 rfl ty86 rfl s1 (by decide) rfl (k (stX H11 3 rfl ty86 rfl rfl s0 rfl rfl rfl rfl ?_))))
  intro w7 (H12 : HI M w w7 [own w.heap.size 91 (.slice a0 mn.toNat c0) xs, imm (.slice a1 (pairsM mn mr).length c1) (pairsM mn mr), box bb2 #[iV mn, .slice a0 mn.toNat c0] 86, box bb1 #[iV mn, .slice a0 mn.toNat c0] 86, box bb0 #[iV mn, .slice a_mr mr.length c_mr] 86, imm (.slice a_mr mr.length c_mr) mr])
  refine z (nx (rt (rc1 H12 3 rfl ty86 rfl rfl s0 rfl (by decide) ?_)))
  have e1 : (xs : List (List (BitVec 64))) = turnM mn mr := by exact turn_end hs (by omega)
  have l1 : mn.toNat = (turnM mn mr).length := by first | (rw [← e1]; omega) | (rw [turnM_len])
  have ev_ := cg1 (fun (n_1 : Nat) => (.agg #[iV mn, .slice a0 n_1 c0] : Value)) l1
  exact ⟨a0, c0, ev_, H12.below, (congrArg (fun (n_ : Nat) => OwnsG _ _ _ (turnM mn mr) (.slice a0 n_ c0) _) l1).mp ((congrArg (fun (x_ : List (List (BitVec 64))) => OwnsG _ _ _ x_ (.slice a0 mn.toNat c0) _) e1).mp (H12.ownsG_out 0 rfl))⟩
end Go.Proofs.YtefcbihikknlkaaDoor
namespace Go.Proofs.YtefcbihikknlkaaDoor
open Go.Ew Go.RowKit
set_option linter.unusedVariables false
set_option linter.unusedSimpArgs false
attribute [local irreducible] WL WC SO Code.wp wpList retQ Ret
attribute [local irreducible] bitB hasW inR hasR setR countW countR subR words newR listR orR firstW tab8
set_option maxRecDepth 100000 in
set_option maxHeartbeats 1600000 in
theorem hull_own {M : Nat → Prop} {w : World} {mn : Int} {a_mr : Option Addr} {c_mr : Nat} {mr : List (List (BitVec 64))} (hM : ∀ b, M b → b < w.heap.size) (h_mn : I64 mn) (h_mr : RV M w (.slice a_mr mr.length c_mr) mr) (rt_m : rightS mn mr = true) : Calls Tryd.prog 62 #[.agg #[.int .i64 mn, .slice a_mr mr.length c_mr]] w (Ret fun v w' => ∃ (a0 : Option Addr) (c0 : Nat) (ss0 : List SV), v = .agg #[.int .i64 mn, .slice a0 mn.toNat c0] ∧ Ext w w' ∧ OwnsR M 91 94 w ss0 mr (.slice a0 mn.toNat c0) w') := by
 refine enter 30 Tryd.func62 rfl rfl rfl fun f0 ha => ?_
 have H := HI.start (M0 := M) (w := w) hM
 have H0 := H.put (it := imm (.slice a_mr mr.length c_mr) mr) rfl (by rw [MS_nil]; exact h_mr)
 have ln_mr := rv_len h_mr
 have i0 : f0 0 = .agg #[iV mn, .slice a_mr mr.length c_mr] := ha 0 (by simp)
 refine sq (rg (k (bx H0 rfl i0 ?_)))
 intro bb0 w0 xt0 (H1 : HI M w w0 [box bb0 #[iV mn, .slice a_mr mr.length c_mr] 86, imm (.slice a_mr mr.length c_mr) mr])
 refine k (al H1 ty86 ?_)
 intro bb1 w1 xt1 (H2 : HI M w w1 [box bb1 #[iV 0, .slice none 0 0] 86, box bb0 #[iV mn, .slice a_mr mr.length c_mr] 86, imm (.slice a_mr mr.length c_mr) mr])
 refine z (nx (sq (rg (k (fa fl86_0 rfl rfl (k (ldX H2 1 rfl ty3 rfl rfl (by decide) rfl (k ?_))))))))
 have cc0 := mat_NewR (n := mn) (w := w1) H2.mb (by unfold I64 at *; omega) (by exact right_pos rt_m) (by exact (right_sq rt_m).2.2.1)
 refine ca go60 rfl (ec rfl e0) cc0 ?_
 rintro _ w2 ⟨a0, c0, ss0, rfl, xt2, rv0⟩
 have H3 := H2.ownsR rv0
 have H4 : HI M w w2 ([own w.heap.size 91 (.slice a0 mn.toNat c0) ss0, box bb1 #[iV 0, .slice none 0 0] 86, box bb0 #[iV mn, .slice a_mr mr.length c_mr] 86, imm (.slice a_mr mr.length c_mr) mr] ++ rowItems w.heap.size 94 ss0 (List.replicate mn.toNat (newR mn))) := H3
 have ssl0 := rv0.1
 refine k (mv (v := .tuple #[.agg #[iV mn, .slice a0 mn.toNat c0], iV 0]) rfl rfl (k (xt rfl rfl rfl (k (xt rfl rfl rfl (k (al H4 ty86 ?_)))))))
 intro bb2 w3 xt3 (H5 : HI M w w3 ([box bb2 #[iV 0, .slice none 0 0] 86, own w.heap.size 91 (.slice a0 mn.toNat c0) ss0, box bb1 #[iV 0, .slice none 0 0] 86, box bb0 #[iV mn, .slice a_mr mr.length c_mr] 86, imm (.slice a_mr mr.length c_mr) mr] ++ rowItems w.heap.size 94 ss0 (List.replicate mn.toNat (newR mn))))
 refine k (stX H5 0 rfl ty86 rfl rfl rfl rfl rfl rfl rfl ?_)
 intro w4 (H6 : HI M w w4 ([box bb2 #[iV mn, .slice a0 mn.toNat c0] 86, own w.heap.size 91 (.slice a0 mn.toNat c0) ss0, box bb1 #[iV 0, .slice none 0 0] 86, box bb0 #[iV mn, .slice a_mr mr.length c_mr] 86, imm (.slice a_mr mr.length c_mr) mr] ++ rowItems w.heap.size 94 ss0 (List.replicate mn.toNat (newR mn))))
 refine k (asg (v := iV 0) rfl rfl (z (nx (sq (sq (rg (k (fa fl86_1 rfl rfl (k (ldX H6 3 rfl ty84 rfl rfl (by decide) rfl (k (lnS rfl rfl un84 (k (mv (v := iV 0) rfl rfl (z (nx (bk ?_)))))))))))))))))
 refine lp (fun m f w' => ∃ (j : Nat) (xs : List (List (BitVec 64))), m = mr.length - j ∧ f 2 = pV bb1 0 ∧ f 3 = pV bb2 0 ∧ f 14 = .slice a_mr mr.length c_mr ∧ f 15 = iV (mr.length : Int) ∧ f 16 = iV (j : Int) ∧  HI M w w' ([box bb2 #[iV mn, .slice a0 mn.toNat c0] 86, own w.heap.size 91 (.slice a0 mn.toNat c0) ss0, box bb1 #[iV 0, .slice none 0 0] 86, box bb0 #[iV mn, .slice a_mr mr.length c_mr] 86, imm (.slice a_mr mr.length c_mr) mr] ++ rowItems w.heap.size 94 ss0 xs) ∧ (j ≤ mr.length) ∧ (ss0.length = xs.length) ∧ (xs = mr.take j ++ List.replicate (mn.toNat - j) (newR mn))) _ ⟨0, (List.replicate mn.toNat (newR mn)), rfl, rfl, rfl, rfl, rfl, (ieq rfl (by first | rfl | omega | simp)), H6, (by first | assumption | omega | simp | (simp; omega)), (by exact rv0.1), (by simp)⟩ ?_
 rintro _ f0 w5 ⟨j, xs, rfl, s0, s1, s2, s3, s4, H7, hk, hl, hs⟩
 refine sq (rg (k (lss rfl rfl s4 s3 (z (nx (sq ?_))))))
 refine cd (b := decide ((j : Int) < (mr.length : Int))) rfl rfl (fun b0 => ?_) (fun b0 => ?_)
 ·
  have p0 := of_decide_eq_true b0
  refine sk (nx (sq (bk (sq (rg (k (mv rfl s4 (k (ia (H7.rv 4 rfl) rfl rfl s2 s4 (by first | omega | (simp; omega)) un84 ty91 ?_)))))))))
  intro ad0 x0 hx0 hA0
  refine k (ldL hA0.w ty91 rfl rfl ?_)
  intro a1 c1 rv1
  have ln0 := rv_len rv1
  have H8 := H7.put (it := imm (.slice a1 x0.length c1) x0) rfl rv1
  have H9 : HI M w w5 ([imm (.slice a1 x0.length c1) x0, box bb2 #[iV mn, .slice a0 mn.toNat c0] 86, own w.heap.size 91 (.slice a0 mn.toNat c0) ss0, box bb1 #[iV 0, .slice none 0 0] 86, box bb0 #[iV mn, .slice a_mr mr.length c_mr] 86, imm (.slice a_mr mr.length c_mr) mr] ++ rowItems w.heap.size 94 ss0 xs) := H8
  refine k (asg (v := iV (j : Int)) rfl rfl (k (asg (v := .slice a1 x0.length c1) rfl rfl (z (nx ?_)))))
  have xl_ : xs.length = mr.length := by have h_ := (right_sq rt_m).1; rw [hs, List.length_append, List.length_take, List.length_replicate]; omega
  refine rg (k (fa fl86_1 rfl s1 (k (ldX H9 1 rfl ty84 rfl rfl (by decide) rfl (k (mv (v := iV (j : Int)) rfl rfl (k ?_)))))))
  obtain ⟨a2, x1, c2, hs0, hr0⟩ := row_get (i := (j : Int).toNat) H9 (by first | assumption | (simp only [List.length_set]; assumption) | (simp only [List.length_set, List.length_replicate] at *; omega)) (by omega)
  refine iaO (H9.at_ 2 rfl) rfl rfl rfl rfl (by first | omega | (simp; omega)) un84 ty91 ?_
  intro g0 x2 hv0 hx1 hA1
  obtain rfl : (⟨a2, x1.length, c2⟩ : SV) = x2 := Option.some.inj (hs0.symm.trans hx1)
  refine k (ldV hA1 ty91 rfl rfl (k (mv (v := .slice a1 x0.length c1) rfl rfl (k (cpO H9 _ (row_at hs0 hr0) rfl rfl rfl rfl rfl (H9.rv 0 rfl).src un91 ty94 (by exact own_len rt_m hs hx0 hr0) (by exact own_pos rt_m hs hx0 hr0) ?_)))))
  intro w6 H11
  have H10 := HI.rowPut (M := fun _ => False) (it := imm (.int .i64 0) (0 : Int)) H11 hs0
  have H12 : HI M w w6 ([imm (.slice a1 x0.length c1) x0, box bb2 #[iV mn, .slice a0 mn.toNat c0] 86, own w.heap.size 91 (.slice a0 mn.toNat c0) ss0, box bb1 #[iV 0, .slice none 0 0] 86, box bb0 #[iV mn, .slice a_mr mr.length c_mr] 86, imm (.slice a_mr mr.length c_mr) mr] ++ rowItems w.heap.size 94 ss0 (xs.set ((j : Int).toNat) x0)) := H10
  refine z (inb_normal (nx (rg (k (add rfl rfl s4 rfl (by unfold I64 at *; omega) (k (mv (v := iV ((j : Int) + 1)) rfl rfl (z ?_))))))))
  have H13 : HI M w w6 ([box bb2 #[iV mn, .slice a0 mn.toNat c0] 86, own w.heap.size 91 (.slice a0 mn.toNat c0) ss0, box bb1 #[iV 0, .slice none 0 0] 86, box bb0 #[iV mn, .slice a_mr mr.length c_mr] 86, imm (.slice a_mr mr.length c_mr) mr] ++ rowItems w.heap.size 94 ss0 (xs.set ((j : Int).toNat) x0)) := HI.pickT (l := [imm (.slice a1 x0.length c1) x0, box bb2 #[iV mn, .slice a0 mn.toNat c0] 86, own w.heap.size 91 (.slice a0 mn.toNat c0) ss0, box bb1 #[iV 0, .slice none 0 0] 86, box bb0 #[iV mn, .slice a_mr mr.length c_mr] 86, imm (.slice a_mr mr.length c_mr) mr]) (l' := [box bb2 #[iV mn, .slice a0 mn.toNat c0] 86, own w.heap.size 91 (.slice a0 mn.toNat c0) ss0, box bb1 #[iV 0, .slice none 0 0] 86, box bb0 #[iV mn, .slice a_mr mr.length c_mr] 86, imm (.slice a_mr mr.length c_mr) mr]) (t := rowItems w.heap.size 94 ss0 (xs.set ((j : Int).toNat) x0)) H12 [1, 2, 3, 4, 5] (by decide) rfl rfl
  refine loopN _ ?_ ⟨(j + 1), (xs.set ((j : Int).toNat) x0), rfl, s0, s1, s2, s3, (ieq rfl (by first | rfl | omega | (push_cast; omega))), H13, (by first | assumption | omega | simp | (simp; omega)), (by simp only [List.length_set]; exact hl), (by exact own_step rt_m hs hx0)⟩
  omega
 ·
  have p0 := of_decide_eq_false b0
  refine ex (then_exit (loop_exit (inb_here (nx (sq (rg (k (ldX H7 0 rfl ty86 rfl s1 (by decide) rfl (k (stX H7 2 rfl ty86 rfl rfl s0 rfl rfl rfl rfl ?_))))))))))
  intro w6 (H8 : HI M w w6 ([box bb2 #[iV mn, .slice a0 mn.toNat c0] 86, own w.heap.size 91 (.slice a0 mn.toNat c0) ss0, box bb1 #[iV mn, .slice a0 mn.toNat c0] 86, box bb0 #[iV mn, .slice a_mr mr.length c_mr] 86, imm (.slice a_mr mr.length c_mr) mr] ++ rowItems w.heap.size 94 ss0 xs))
  refine z (nx (rt (rc1 H8 2 rfl ty86 rfl rfl s0 rfl (by decide) ?_)))
  have e1 : (xs : List (List (BitVec 64))) = mr := by exact own_end rt_m hs (by omega)
  have w1 : ss0.length = (xs).length := by first | assumption | (simp only [List.length_set]; assumption) | (simp only [List.length_set, List.length_replicate] at *; omega)
  exact ⟨a0, c0, ss0, rfl, H8.below, (congrArg (fun (x_ : List (List (BitVec 64))) => OwnsR _ 91 94 _ ss0 x_ (.slice a0 mn.toNat c0) _) e1).mp ⟨w1, HI.pickT (l := [box bb2 #[iV mn, .slice a0 mn.toNat c0] 86, own w.heap.size 91 (.slice a0 mn.toNat c0) ss0, box bb1 #[iV mn, .slice a0 mn.toNat c0] 86, box bb0 #[iV mn, .slice a_mr mr.length c_mr] 86, imm (.slice a_mr mr.length c_mr) mr]) (l' := [own w.heap.size 91 (.slice a0 mn.toNat c0) ss0]) (t := rowItems w.heap.size 94 ss0 xs) H8 [1] (by decide) rfl rfl⟩⟩
end Go.Proofs.YtefcbihikknlkaaDoor
namespace Go.Proofs.YtefcbihikknlkaaDoor
open Go.Ew Go.RowKit
set_option linter.unusedVariables false
set_option linter.unusedSimpArgs false
attribute [local irreducible] WL WC SO Code.wp wpList retQ Ret
attribute [local irreducible] bitB hasW inR hasR setR countW countR subR words newR listR orR firstW tab8
theorem go62 : GoF Tryd.prog 62 := ⟨_, _, Tryd.func62, rfl, by kernel_rfl⟩
theorem go63 : GoF Tryd.prog 63 := ⟨_, _, Tryd.func63, rfl, by kernel_rfl⟩
theorem go64 : GoF Tryd.prog 64 := ⟨_, _, Tryd.func64, rfl, by kernel_rfl⟩
set_option maxRecDepth 100000 in
set_option maxHeartbeats 1600000 in
theorem hull_Close {M : Nat → Prop} {w : World} {mn : Int} {a_mr : Option Addr} {c_mr : Nat} {mr : List (List (BitVec 64))} (hM : ∀ b, M b → b < w.heap.size) (h_mn : I64 mn) (h_mr : RV M w (.slice a_mr mr.length c_mr) mr) (rt_m : rightS mn mr = true) : Calls Tryd.prog 54 #[.agg #[.int .i64 mn, .slice a_mr mr.length c_mr]] w (Ret fun v w' => ∃ (a0 : Option Addr) (c0 : Nat), v = .agg #[.int .i64 mn, .slice a0 (closeM mn mr).length c0] ∧ Ext w w' ∧ OwnsG M 91 w (closeM mn mr) (.slice a0 (closeM mn mr).length c0) w') := by
 refine enter 41 Tryd.func54 rfl rfl rfl fun f0 ha => ?_
 have H := HI.start (M0 := M) (w := w) hM
 have H0 := H.put (it := imm (.slice a_mr mr.length c_mr) mr) rfl (by rw [MS_nil]; exact h_mr)
 have ln_mr := rv_len h_mr
 have i0 : f0 0 = .agg #[iV mn, .slice a_mr mr.length c_mr] := ha 0 (by simp)
 have hl_ := (right_sq rt_m).1; have h4_ := (right_sq rt_m).2.2.1; have h0_ := right_pos rt_m
 refine sq (rg (k (bx H0 rfl i0 ?_)))
 intro bb0 w0 xt0 (H1 : HI M w w0 [box bb0 #[iV mn, .slice a_mr mr.length c_mr] 86, imm (.slice a_mr mr.length c_mr) mr])
 refine k (al H1 ty86 ?_)
 intro bb1 w1 xt1 (H2 : HI M w w1 [box bb1 #[iV 0, .slice none 0 0] 86, box bb0 #[iV mn, .slice a_mr mr.length c_mr] 86, imm (.slice a_mr mr.length c_mr) mr])
 refine z (nx (sq (rg (k (ldX H2 1 rfl ty86 rfl rfl (by decide) rfl (k ?_))))))
 have cc0 := hull_own (mn := mn) (mr := mr) (w := w1) H2.mb (by unfold I64 at *; omega) (H2.rv 2 rfl) (by exact rt_m)
 refine ca go62 rfl (ec rfl e0) cc0 ?_
 rintro _ w2 ⟨a0, c0, ss0, rfl, xt2, rv0⟩
 have H3 := H2.ownsR rv0
 have H4 : HI M w w2 ([own w.heap.size 91 (.slice a0 mn.toNat c0) ss0, box bb1 #[iV 0, .slice none 0 0] 86, box bb0 #[iV mn, .slice a_mr mr.length c_mr] 86, imm (.slice a_mr mr.length c_mr) mr] ++ rowItems w.heap.size 94 ss0 mr) := H3
 have ssl0 := rv0.1
 refine k (al H4 ty86 ?_)
 intro bb2 w3 xt3 (H5 : HI M w w3 ([box bb2 #[iV 0, .slice none 0 0] 86, own w.heap.size 91 (.slice a0 mn.toNat c0) ss0, box bb1 #[iV 0, .slice none 0 0] 86, box bb0 #[iV mn, .slice a_mr mr.length c_mr] 86, imm (.slice a_mr mr.length c_mr) mr] ++ rowItems w.heap.size 94 ss0 mr))
 refine k (stX H5 0 rfl ty86 rfl rfl rfl rfl rfl rfl rfl ?_)
 intro w4 (H6 : HI M w w4 ([box bb2 #[iV mn, .slice a0 mn.toNat c0] 86, own w.heap.size 91 (.slice a0 mn.toNat c0) ss0, box bb1 #[iV 0, .slice none 0 0] 86, box bb0 #[iV mn, .slice a_mr mr.length c_mr] 86, imm (.slice a_mr mr.length c_mr) mr] ++ rowItems w.heap.size 94 ss0 mr))
 refine z (nx (sq (sq (rg (k (fa fl86_1 rfl rfl (k (ldX H6 0 rfl ty84 rfl rfl (by decide) rfl (k (lnS rfl rfl un84 (k (mv (v := iV 0) rfl rfl (z (nx (bk ?_)))))))))))))))
 refine lp (fun m f w' => ∃ (q : Nat) (xs : List (List (BitVec 64))), m = mn.toNat - q ∧ f 2 = pV bb1 0 ∧ f 3 = pV bb2 0 ∧ f 10 = iV (mn.toNat : Int) ∧ f 11 = iV (q : Int) ∧  HI M w w' ([box bb2 #[iV mn, .slice a0 mn.toNat c0] 86, own w.heap.size 91 (.slice a0 mn.toNat c0) ss0, box bb1 #[iV 0, .slice none 0 0] 86, box bb0 #[iV mn, .slice a_mr mr.length c_mr] 86, imm (.slice a_mr mr.length c_mr) mr] ++ rowItems w.heap.size 94 ss0 xs) ∧ (q ≤ mn.toNat) ∧ (ss0.length = xs.length) ∧ (xs = matP mn.toNat (wM (relM mr) q)) ∧ (xs.length = mn.toNat)) _ ⟨0, mr, rfl, rfl, rfl, rfl, (ieq rfl (by first | rfl | omega | simp)), H6, (by first | assumption | omega | simp | (simp; omega)), (by exact ssl0), (by exact close_start rt_m), (by omega)⟩ ?_
 rintro _ f0 w5 ⟨q, xs, rfl, s0, s1, s2, s3, H7, hk, hl, hs, hxl⟩
 refine sq (rg (k (lss rfl rfl s3 s2 (z (nx (sq ?_))))))
 refine cd (b := decide ((q : Int) < (mn.toNat : Int))) rfl rfl (fun b0 => ?_) (fun b0 => ?_)
 ·
  have p0 := of_decide_eq_true b0
  refine sk (nx (sq (bk (sq (rg (k (mv rfl s3 (k (asg (v := iV (q : Int)) rfl rfl (z (nx (sq (rg (k (fa fl86_1 rfl s1 (k (ldX H7 0 rfl ty84 rfl rfl (by decide) rfl (k (lnS rfl rfl un84 (k (mv (v := iV 0) rfl rfl (z (nx (bk ?_))))))))))))))))))))))))
  refine lp (fun m f w' => ∃ (i : Nat) (ys : List (List (BitVec 64))), m = mn.toNat - i ∧ f 2 = pV bb1 0 ∧ f 3 = pV bb2 0 ∧ f 4 = iV (q : Int) ∧ f 10 = iV (mn.toNat : Int) ∧ f 11 = iV (q : Int) ∧ f 16 = iV (mn.toNat : Int) ∧ f 17 = iV (i : Int) ∧  HI M w w' ([box bb2 #[iV mn, .slice a0 mn.toNat c0] 86, own w.heap.size 91 (.slice a0 mn.toNat c0) ss0, box bb1 #[iV 0, .slice none 0 0] 86, box bb0 #[iV mn, .slice a_mr mr.length c_mr] 86, imm (.slice a_mr mr.length c_mr) mr] ++ rowItems w.heap.size 94 ss0 ys) ∧ (i ≤ mn.toNat) ∧ (ss0.length = ys.length) ∧ (ys = matP mn.toNat (wR (relM mr) q i)) ∧ (ys.length = mn.toNat)) _ ⟨0, xs, rfl, s0, s1, rfl, s2, s3, rfl, (ieq rfl (by first | rfl | omega | simp)), H7, (by first | assumption | omega | simp | (simp; omega)), (by exact hl), (by rw [hs]; exact wR_zero _ _ _), (by exact hxl)⟩ ?_
  rintro _ f1 w6 ⟨i, ys, rfl, s4, s5, s6, s7, s8, s9, s10, H8, hi_, hl2, hs2, hyl⟩
  refine sq (rg (k (lss rfl rfl s10 s9 (z (nx (sq ?_))))))
  refine cd (b := decide ((i : Int) < (mn.toNat : Int))) rfl rfl (fun b1 => ?_) (fun b1 => ?_)
  ·
   have p1 := of_decide_eq_true b1
   refine sk (nx (sq (bk (sq (rg (k (mv rfl s10 (k (asg (v := iV (i : Int)) rfl rfl (z (nx (sq (rg (k (fa fl86_1 rfl s5 (k (ldX H8 0 rfl ty84 rfl rfl (by decide) rfl (k (mv (v := iV (i : Int)) rfl rfl (k ?_))))))))))))))))))))
   obtain ⟨a1, x0, c1, hs0, hr0⟩ := row_get (i := (i : Int).toNat) H8 (by first | assumption | (simp only [List.length_set]; assumption) | (simp only [List.length_set, List.length_replicate] at *; omega)) (by omega)
   refine iaO (H8.at_ 1 rfl) rfl rfl rfl rfl (by first | omega | (simp; omega)) un84 ty91 ?_
   intro g0 x1 hv0 hx0 hA0
   obtain rfl : (⟨a1, x0.length, c1⟩ : SV) = x1 := Option.some.inj (hs0.symm.trans hx0)
   refine k (ldV hA0 ty91 rfl rfl (k (mv rfl s6 (k ?_))))
   have cc1 := row_Has (r := x0) (i := (q : Int)) (w := w6) (M := fun _ => False) (fun _ h_ => h_.elim) (row_rv H8 hs0 hr0) (by unfold I64 at *; omega)
   refine ca go63 rfl (ec rfl (ec rfl e0)) cc1 ?_
   rintro _ w7 ⟨rfl, xt4⟩
   have H9 := H8.ext xt4
   refine z (nx ?_)
   refine cd (b := hasR x0 (q : Int)) rfl rfl (fun b2 => ?_) (fun b2 => ?_)
   ·
    obtain ⟨a2, x3, c2, hs1, hr1⟩ := row_get (i := (q : Int).toNat) H9 (by first | assumption | (simp only [List.length_set]; assumption) | (simp only [List.length_set, List.length_replicate] at *; omega)) (by omega)
    refine dr 10 [eV (pV bb2 1), eV (.slice a0 mn.toNat c0), eV (iV (i : Int)), fun (v : Value) (w' : World) => ∃ (g1 : Nat), v = .pointer (some ⟨g1, (i : Int).toNat * 1, none⟩) ∧ (.slice a0 mn.toNat c0 : Value).ownBlock = some g1 ∧ AtW (MS M ([box bb2 #[iV mn, .slice a0 mn.toNat c0] 86, own w.heap.size 91 (.slice a0 mn.toNat c0) ss0, box bb1 #[iV 0, .slice none 0 0] 86, box bb0 #[iV mn, .slice a_mr mr.length c_mr] 86, imm (.slice a_mr mr.length c_mr) mr] ++ rowItems w.heap.size 94 ss0 ys)) w' ⟨g1, (i : Int).toNat * 1, none⟩ (⟨a1, x0.length, c1⟩ : SV), eV (.slice a1 x0.length c1), eV (pV bb2 1), eV (.slice a0 mn.toNat c0), eV (iV (q : Int)), fun (v : Value) (w' : World) => ∃ (g2 : Nat), v = .pointer (some ⟨g2, (q : Int).toNat * 1, none⟩) ∧ (.slice a0 mn.toNat c0 : Value).ownBlock = some g2 ∧ AtW (MS M ([box bb2 #[iV mn, .slice a0 mn.toNat c0] 86, own w.heap.size 91 (.slice a0 mn.toNat c0) ss0, box bb1 #[iV 0, .slice none 0 0] 86, box bb0 #[iV mn, .slice a_mr mr.length c_mr] 86, imm (.slice a_mr mr.length c_mr) mr] ++ rowItems w.heap.size 94 ss0 ys)) w' ⟨g2, (q : Int).toNat * 1, none⟩ (⟨a2, x3.length, c2⟩ : SV), eV (.slice a2 x3.length c2)] rfl (by kernel_rfl) ?_ ?_
    ·
     refine dc (fun _ _ hf0 _ _ => fa fl86_1 rfl ((hf0 3 rfl).trans s5) (d0 rfl rfl)) ?_
     refine dc (fun _ _ _ xt6 hp1 => ldX (H9.ext xt6) 0 rfl ty84 rfl (hp1 0 rfl rfl) (by decide) rfl (d0 rfl rfl)) ?_
     refine dc (fun _ _ hf2 _ _ => mv rfl (hf2 5 rfl) (d0 rfl rfl)) ?_
     refine ⟨fun _ => ⟨fun f5 w11 hf3 xt8 hp3 => ?_, by rintro _ _ _ x_ ⟨g1, e_, hv1, hA1⟩; exact ⟨g1, e_, hv1, hA1.ext x_⟩⟩, ?_⟩
     ·
      have H13 := H9.ext xt8
      have s12 : f5 28 = .slice a0 mn.toNat c0 := hp3 1 rfl rfl
      have s13 : f5 29 = iV (i : Int) := hp3 2 rfl rfl
      refine iaO (H13.at_ 1 rfl) rfl rfl s12 s13 (by first | omega | (simp; omega)) un84 ty91 ?_
      intro g3 x5 hv3 hx3 hA3
      obtain rfl : (⟨a1, x0.length, c1⟩ : SV) = x5 := Option.some.inj (hs0.symm.trans hx3)
      exact ⟨_, rfl, Ext.refl _, ⟨g3, rfl, hv3, hA3⟩⟩
     refine dc (fun f6 w12 hf4 xt9 hp4 => ?_) ?_
     ·
      obtain ⟨g4, s14, hv4, hA4⟩ : ∃ (g4 : Nat), f6 30 = .pointer (some ⟨g4, (i : Int).toNat * 1, none⟩) ∧ (.slice a0 mn.toNat c0 : Value).ownBlock = some g4 ∧ AtW (MS M ([box bb2 #[iV mn, .slice a0 mn.toNat c0] 86, own w.heap.size 91 (.slice a0 mn.toNat c0) ss0, box bb1 #[iV 0, .slice none 0 0] 86, box bb0 #[iV mn, .slice a_mr mr.length c_mr] 86, imm (.slice a_mr mr.length c_mr) mr] ++ rowItems w.heap.size 94 ss0 ys)) w12 ⟨g4, (i : Int).toNat * 1, none⟩ (⟨a1, x0.length, c1⟩ : SV) := hp4 3 rfl rfl
      refine ldV hA4 ty91 rfl s14 ?_
      exact ⟨_, rfl, Ext.refl _, rfl⟩
     refine dc (fun _ _ hf5 _ _ => fa fl86_1 rfl ((hf5 3 rfl).trans s5) (d0 rfl rfl)) ?_
     refine dc (fun _ _ _ xt11 hp6 => ldX (H9.ext xt11) 0 rfl ty84 rfl (hp6 5 rfl rfl) (by decide) rfl (d0 rfl rfl)) ?_
     refine dc (fun _ _ hf7 _ _ => mv rfl ((hf7 4 rfl).trans s6) (d0 rfl rfl)) ?_
     refine ⟨fun _ => ⟨fun f10 w16 hf8 xt13 hp8 => ?_, by rintro _ _ _ x_ ⟨g2, e_, hv2, hA2⟩; exact ⟨g2, e_, hv2, hA2.ext x_⟩⟩, ?_⟩
     ·
      have H18 := H9.ext xt13
      have s16 : f10 33 = .slice a0 mn.toNat c0 := hp8 6 rfl rfl
      have s17 : f10 34 = iV (q : Int) := hp8 7 rfl rfl
      refine iaO (H18.at_ 1 rfl) rfl rfl s16 s17 (by first | omega | (simp; omega)) un84 ty91 ?_
      intro g5 x6 hv5 hx4 hA5
      obtain rfl : (⟨a2, x3.length, c2⟩ : SV) = x6 := Option.some.inj (hs1.symm.trans hx4)
      exact ⟨_, rfl, Ext.refl _, ⟨g5, rfl, hv5, hA5⟩⟩
     refine dc (fun f11 w17 hf9 xt14 hp9 => ?_) ?_
     ·
      obtain ⟨g6, s18, hv6, hA6⟩ : ∃ (g6 : Nat), f11 35 = .pointer (some ⟨g6, (q : Int).toNat * 1, none⟩) ∧ (.slice a0 mn.toNat c0 : Value).ownBlock = some g6 ∧ AtW (MS M ([box bb2 #[iV mn, .slice a0 mn.toNat c0] 86, own w.heap.size 91 (.slice a0 mn.toNat c0) ss0, box bb1 #[iV 0, .slice none 0 0] 86, box bb0 #[iV mn, .slice a_mr mr.length c_mr] 86, imm (.slice a_mr mr.length c_mr) mr] ++ rowItems w.heap.size 94 ss0 ys)) w17 ⟨g6, (q : Int).toNat * 1, none⟩ (⟨a2, x3.length, c2⟩ : SV) := hp9 8 rfl rfl
      refine ldV hA6 ty91 rfl s18 ?_
      exact ⟨_, rfl, Ext.refl _, rfl⟩
     exact DSteps.rest rfl _
    ·
     intro f12 w18 hf10 xt15 hp10
     have H20 := H9.ext xt15
     have s19 : f12 2 = pV bb1 0 := (hf10 2 rfl).trans s4
     have s20 : f12 3 = pV bb2 0 := (hf10 3 rfl).trans s5
     have s21 : f12 4 = iV (q : Int) := (hf10 4 rfl).trans s6
     have s22 : f12 10 = iV (mn.toNat : Int) := (hf10 10 rfl).trans s7
     have s23 : f12 11 = iV (q : Int) := (hf10 11 rfl).trans s8
     have s24 : f12 16 = iV (mn.toNat : Int) := (hf10 16 rfl).trans s9
     have s25 : f12 17 = iV (i : Int) := (hf10 17 rfl).trans s10
     have s26 : f12 31 = .slice a1 x0.length c1 := hp10 4 rfl
     have s27 : f12 36 = .slice a2 x3.length c2 := hp10 9 rfl
     refine k ?_
     have cc2 := hull_join H20 (row_at (l := [box bb2 #[iV mn, .slice a0 mn.toNat c0] 86, own w.heap.size 91 (.slice a0 mn.toNat c0) ss0, box bb1 #[iV 0, .slice none 0 0] 86, box bb0 #[iV mn, .slice a_mr mr.length c_mr] 86, imm (.slice a_mr mr.length c_mr) mr]) hs0 hr0) (row_at (l := [box bb2 #[iV mn, .slice a0 mn.toNat c0] 86, own w.heap.size 91 (.slice a0 mn.toNat c0) ss0, box bb1 #[iV 0, .slice none 0 0] 86, box bb0 #[iV mn, .slice a_mr mr.length c_mr] 86, imm (.slice a_mr mr.length c_mr) mr]) hs1 hr1) (by have e1_ := hr0; rw [hs2] at e1_; have e2_ := hr1; rw [hs2] at e2_; rw [wR_len e1_, wR_len e2_]; exact Nat.le_refl _) (by have e2_ := hr1; rw [hs2] at e2_; rw [wR_len e2_]; have h_ := words_le (n := ((mn.toNat : Nat) : Int)) (by omega); omega) (join_ne hs0 hs1 hr0 hr1)
     refine ca go64 rfl (ec s26 (ec s27 e0)) cc2 ?_
     rintro _ w19 ⟨rfl, H22⟩
     have H21 := HI.rowPut (M := fun _ => False) (it := imm (.int .i64 0) (0 : Int)) H22 hs0
     have H23 : HI M w w19 ([box bb2 #[iV mn, .slice a0 mn.toNat c0] 86, own w.heap.size 91 (.slice a0 mn.toNat c0) ss0, box bb1 #[iV 0, .slice none 0 0] 86, box bb0 #[iV mn, .slice a_mr mr.length c_mr] 86, imm (.slice a_mr mr.length c_mr) mr] ++ rowItems w.heap.size 94 ss0 (ys.set ((i : Int).toNat) (orR x0 x3))) := H21
     refine z (inb_normal (nx (rg (k (add rfl rfl s25 rfl (by unfold I64 at *; omega) (k (mv (v := iV ((i : Int) + 1)) rfl rfl (z ?_))))))))
     refine loopN _ ?_ ⟨(i + 1), (ys.set ((i : Int).toNat) (orR x0 x3)), rfl, s19, s20, s21, s22, s23, s24, (ieq rfl (by first | rfl | omega | (push_cast; omega))), H23, (by first | assumption | omega | simp | (simp; omega)), (by first | exact hl2 | (rw [List.length_set]; exact hl2)), (by first | exact wR_yes hs2 hr0 hr1 (by omega) b2 | exact wR_no hs2 hr0 (by omega) b2), (by first | exact hyl | (rw [List.length_set]; exact hyl))⟩
     omega
   ·
    refine sk (inb_normal (nx (rg (k (add rfl rfl s10 rfl (by unfold I64 at *; omega) (k (mv (v := iV ((i : Int) + 1)) rfl rfl (z ?_))))))))
    refine loopN _ ?_ ⟨(i + 1), ys, rfl, s4, s5, s6, s7, s8, s9, (ieq rfl (by first | rfl | omega | (push_cast; omega))), H9, (by first | assumption | omega | simp | (simp; omega)), (by first | exact hl2 | (rw [List.length_set]; exact hl2)), (by first | exact wR_yes hs2 hr0 hr1 (by omega) b2 | exact wR_no hs2 hr0 (by omega) b2), (by first | exact hyl | (rw [List.length_set]; exact hyl))⟩
    omega
  ·
   have p1 := of_decide_eq_false b1
   refine ex (then_exit (loop_exit (inb_here (inb_normal (nx (rg (k (add rfl rfl s8 rfl (by unfold I64 at *; omega) (k (mv (v := iV ((q : Int) + 1)) rfl rfl (z ?_)))))))))))
   refine loopN _ ?_ ⟨(q + 1), ys, rfl, s4, s5, s7, (ieq rfl (by first | rfl | omega | (push_cast; omega))), H8, (by first | assumption | omega | simp | (simp; omega)), (by exact hl2), (by rw [hs2]; exact wR_end _ (by omega)), (by exact hyl)⟩
   omega
 ·
  have p0 := of_decide_eq_false b0
  refine ex (then_exit (loop_exit (inb_here (nx (sq ?_)))))
  have H8 : HI M w w5 [own w.heap.size 91 (.slice a0 mn.toNat c0) xs, box bb2 #[iV mn, .slice a0 mn.toNat c0] 86, box bb1 #[iV 0, .slice none 0 0] 86, box bb0 #[iV mn, .slice a_mr mr.length c_mr] 86, imm (.slice a_mr mr.length c_mr) mr] := HI.deep (l := [box bb2 #[iV mn, .slice a0 mn.toNat c0] 86, box bb1 #[iV 0, .slice none 0 0] 86, box bb0 #[iV mn, .slice a_mr mr.length c_mr] 86, imm (.slice a_mr mr.length c_mr) mr]) (HI.pickT (l := [box bb2 #[iV mn, .slice a0 mn.toNat c0] 86, own w.heap.size 91 (.slice a0 mn.toNat c0) ss0, box bb1 #[iV 0, .slice none 0 0] 86, box bb0 #[iV mn, .slice a_mr mr.length c_mr] 86, imm (.slice a_mr mr.length c_mr) mr]) (l' := [own w.heap.size 91 (.slice a0 mn.toNat c0) ss0, box bb2 #[iV mn, .slice a0 mn.toNat c0] 86, box bb1 #[iV 0, .slice none 0 0] 86, box bb0 #[iV mn, .slice a_mr mr.length c_mr] 86, imm (.slice a_mr mr.length c_mr) mr]) (t := rowItems w.heap.size 94 ss0 xs) H7 [1, 0, 2, 3, 4] (by decide) rfl rfl) (by first | assumption | (simp only [List.length_set]; assumption) | (simp only [List.length_set, List.length_replicate] at *; omega))
  refine rg (k (ldX H8 1 rfl ty86 rfl s1 (by decide) rfl (k (stX H8 2 rfl ty86 rfl rfl s0 rfl rfl rfl rfl ?_))))
  intro w6 (H9 : HI M w w6 [own w.heap.size 91 (.slice a0 mn.toNat c0) xs, box bb2 #[iV mn, .slice a0 mn.toNat c0] 86, box bb1 #[iV mn, .slice a0 mn.toNat c0] 86, box bb0 #[iV mn, .slice a_mr mr.length c_mr] 86, imm (.slice a_mr mr.length c_mr) mr])
  refine z (nx (rt (rc1 H9 2 rfl ty86 rfl rfl s0 rfl (by decide) ?_)))
  have e1 : (xs : List (List (BitVec 64))) = closeM mn mr := by exact close_end hs (by omega) (by omega)
  have l1 : mn.toNat = (closeM mn mr).length := by first | (rw [← e1]; omega) | (rw [closeM_len])
  have ev_ := cg1 (fun (n_1 : Nat) => (.agg #[iV mn, .slice a0 n_1 c0] : Value)) l1
  exact ⟨a0, c0, ev_, H9.below, (congrArg (fun (n_ : Nat) => OwnsG _ _ _ (closeM mn mr) (.slice a0 n_ c0) _) l1).mp ((congrArg (fun (x_ : List (List (BitVec 64))) => OwnsG _ _ _ x_ (.slice a0 mn.toNat c0) _) e1).mp (H9.ownsG_out 0 rfl))⟩
end Go.Proofs.YtefcbihikknlkaaDoor
namespace Go.Proofs.YtefcbihikknlkaaDoor
open Go.Ew Go.RowKit
set_option linter.unusedVariables false
set_option linter.unusedSimpArgs false
attribute [local irreducible] WL WC SO Code.wp wpList retQ Ret
attribute [local irreducible] bitB hasW inR hasR setR countW countR subR words newR listR orR firstW tab8
end Go.Proofs.YtefcbihikknlkaaDoor
namespace Go.Proofs.YtefcbihikknlkaaDoor
open Go.Ew Go.RowKit
set_option linter.unusedVariables false
set_option linter.unusedSimpArgs false
attribute [local irreducible] WL WC SO Code.wp wpList retQ Ret
attribute [local irreducible] bitB hasW inR hasR setR countW countR subR words newR listR orR firstW tab8
theorem fl30_2 : FldF Tryd.prog 30 2 2 := ⟨_, _, Tryd.underlying30, rfl, rfl, by kernel_rfl⟩
theorem ty28 : TyF Tryd.prog 28 1 false 24 (.slice none 0 0) := ⟨by kernel_rfl, by kernel_rfl⟩
theorem go66 : GoF Tryd.prog 66 := ⟨_, _, Tryd.func66, rfl, by kernel_rfl⟩
theorem go67 : GoF Tryd.prog 67 := ⟨_, _, Tryd.func67, rfl, by kernel_rfl⟩
theorem go65 : GoF Tryd.prog 65 := ⟨_, _, Tryd.func65, rfl, by kernel_rfl⟩
theorem go55 : GoF Tryd.prog 55 := ⟨_, _, Tryd.func55, rfl, by kernel_rfl⟩
theorem go54 : GoF Tryd.prog 54 := ⟨_, _, Tryd.func54, rfl, by kernel_rfl⟩
set_option maxRecDepth 100000 in
set_option maxHeartbeats 1600000 in
theorem cause_Rf {M : Nat → Prop} {w : World} {a_fv : Option Addr} {n_fv c_fv : Nat} {a_fi : Option Addr} {c_fi : Nat} {fi : List (Int × Int × Bool × Int × Int)} {a_fo : Option Addr} {c_fo : Nat} {fo : List Int} (hM : ∀ b, M b → b < w.heap.size) (h_fi : RV M w (.slice a_fi fi.length c_fi) fi) (h_fo : RV M w (.slice a_fo fo.length c_fo) fo) (hn_fi : fi.length ≤ 4096) (hfo : fo.length = fi.length) (hfr : ∀ x ∈ fo, x < ((fi.length : Nat) : Int)) : Calls Tryd.prog 67 #[.agg #[.slice a_fv n_fv c_fv, .slice a_fi fi.length c_fi, .slice a_fo fo.length c_fo]] w (Ret fun v w' => ∃ (a0 : Option Addr) (c0 : Nat), v = .agg #[.int .i64 (fi.length : Int), .slice a0 (rfR fi fo).length c0] ∧ Ext w w' ∧ OwnsG M 91 w (rfR fi fo) (.slice a0 (rfR fi fo).length c0) w') := by
 refine enter 37 Tryd.func67 rfl rfl rfl fun f0 ha => ?_
 have H := HI.start (M0 := M) (w := w) hM
 have H0 := H.put (it := imm (.slice a_fi fi.length c_fi) fi) rfl (by rw [MS_nil]; exact h_fi)
 have H1 := H0.put (it := imm (.slice a_fo fo.length c_fo) fo) rfl (by rw [MS_cons_none rfl, MS_nil]; exact h_fo)
 have ln_fi := rv_len h_fi
 have ln_fo := rv_len h_fo
 have i0 : f0 0 = .agg #[.slice a_fv n_fv c_fv, .slice a_fi fi.length c_fi, .slice a_fo fo.length c_fo] := ha 0 (by simp)
 refine sq (rg (k (bx H1 rfl i0 ?_)))
 intro bb0 w0 xt0 (H2 : HI M w w0 [box bb0 #[.slice a_fv n_fv c_fv, .slice a_fi fi.length c_fi, .slice a_fo fo.length c_fo] 30, imm (.slice a_fo fo.length c_fo) fo, imm (.slice a_fi fi.length c_fi) fi])
 refine k (al H2 ty86 ?_)
 intro bb1 w1 xt1 (H3 : HI M w w1 [box bb1 #[iV 0, .slice none 0 0] 86, box bb0 #[.slice a_fv n_fv c_fv, .slice a_fi fi.length c_fi, .slice a_fo fo.length c_fo] 30, imm (.slice a_fo fo.length c_fo) fo, imm (.slice a_fi fi.length c_fi) fi])
 refine z (nx (sq (rg (k (fa fl30_1 rfl rfl (k (ldX H3 1 rfl ty27 rfl rfl (by decide) rfl (k (lnS rfl rfl un27 (k ?_))))))))))
 have cc0 := mat_New (n := (fi.length : Int)) (w := w1) H3.mb (by unfold I64 at *; omega)
 refine ca go60 rfl (ec rfl e0) cc0 ?_
 rintro _ w2 ⟨a0, c0, rfl, xt2, rv0⟩
 have H4 := H3.ownsG rv0
 refine k (mv (v := .tuple #[.agg #[iV (newMN (fi.length : Int)), .slice a0 (newMR (fi.length : Int)).length c0], iV (newME (fi.length : Int))]) rfl rfl (k (xt rfl rfl rfl (k (xt rfl rfl rfl (k (al H4 ty86 ?_)))))))
 intro bb2 w3 xt3 (H5 : HI M w w3 [box bb2 #[iV 0, .slice none 0 0] 86, own w.heap.size 91 (.slice a0 (newMR (fi.length : Int)).length c0) (newMR (fi.length : Int)), box bb1 #[iV 0, .slice none 0 0] 86, box bb0 #[.slice a_fv n_fv c_fv, .slice a_fi fi.length c_fi, .slice a_fo fo.length c_fo] 30, imm (.slice a_fo fo.length c_fo) fo, imm (.slice a_fi fi.length c_fi) fi])
 refine k (stX H5 0 rfl ty86 rfl rfl rfl rfl rfl rfl rfl ?_)
 intro w4 (H6 : HI M w w4 [box bb2 #[iV (newMN (fi.length : Int)), .slice a0 (newMR (fi.length : Int)).length c0] 86, own w.heap.size 91 (.slice a0 (newMR (fi.length : Int)).length c0) (newMR (fi.length : Int)), box bb1 #[iV 0, .slice none 0 0] 86, box bb0 #[.slice a_fv n_fv c_fv, .slice a_fi fi.length c_fi, .slice a_fo fo.length c_fo] 30, imm (.slice a_fo fo.length c_fo) fo, imm (.slice a_fi fi.length c_fi) fi])
 refine k (asg (v := iV (newME (fi.length : Int))) rfl rfl (z (nx (sq (sq ?_)))))
 have hok_ : okN (fi.length : Int) = true := okN_iff.2 (by omega)
 obtain ⟨en, er, -⟩ := newM_yes hok_
 refine rg (k (fa fl30_2 rfl rfl (k (ldX H6 3 rfl ty28 rfl rfl (by decide) rfl (k (lnS rfl rfl un28 (k (mv (v := iV 0) rfl rfl (z (nx (bk ?_)))))))))))
 refine lp (fun m f w' => ∃ (j : Nat) (xs : List (List (BitVec 64))), m = fo.length - j ∧ f 2 = pV bb1 0 ∧ f 3 = pV bb2 0 ∧ f 15 = .slice a_fo fo.length c_fo ∧ f 16 = iV (fo.length : Int) ∧ f 17 = iV (j : Int) ∧  HI M w w' [box bb2 #[iV (newMN (fi.length : Int)), .slice a0 (newMR (fi.length : Int)).length c0] 86, own w.heap.size 91 (.slice a0 (newMR (fi.length : Int)).length c0) xs, box bb1 #[iV 0, .slice none 0 0] 86, box bb0 #[.slice a_fv n_fv c_fv, .slice a_fi fi.length c_fi, .slice a_fo fo.length c_fo] 30, imm (.slice a_fo fo.length c_fo) fo, imm (.slice a_fi fi.length c_fi) fi] ∧ (j ≤ fo.length) ∧ (xs.length = fi.length) ∧ (xs = rfTo fi.length fo j)) _ ⟨0, (newMR (fi.length : Int)), rfl, rfl, rfl, rfl, rfl, (ieq rfl (by first | rfl | omega | simp)), H6, (by first | assumption | omega | simp | (simp; omega)), (by rw [er, newM_length]; simp), (by rw [er]; exact rf_zero _ _)⟩ ?_
 rintro _ f0 w5 ⟨j, xs, rfl, s0, s1, s2, s3, s4, H7, hk, hl, hs⟩
 refine sq (rg (k (lss rfl rfl s4 s3 (z (nx (sq ?_))))))
 refine cd (b := decide ((j : Int) < (fo.length : Int))) rfl rfl (fun b0 => ?_) (fun b0 => ?_)
 ·
  have p0 := of_decide_eq_true b0
  refine sk (nx (sq (bk (sq (rg (k (mv rfl s4 (k (ia (H7.rv 4 rfl) rfl rfl s2 s4 (by first | omega | (simp; omega)) un28 ty3 ?_)))))))))
  intro ad0 x0 hx0 hA0
  refine k (ldI hA0.w ty3 rfl rfl ?_)
  intro rv1
  refine k (asg (v := iV (j : Int)) rfl rfl (k (asg (v := iV x0) rfl rfl (z (nx (sq ?_))))))
  have hw_ := hfr _ (List.mem_of_getElem? hx0)
  refine rg (k (mv (v := iV x0) rfl rfl (k (geq rfl rfl rfl rfl (z (nx ?_))))))
  refine cd (b := decide (0 ≤ x0)) rfl rfl (fun b1 => ?_) (fun b1 => ?_)
  ·
   have p1 := of_decide_eq_true b1
   obtain ⟨x1, hx1⟩ : ∃ x, xs[x0.toNat]? = some x := ⟨_, List.getElem?_eq_getElem (by first | omega | (simp; omega))⟩
   refine dr 10 [eV (pV bb2 1), eV (.slice a0 (newMR (fi.length : Int)).length c0), fun (v : Value) (w' : World) => v = iV x0 ∧ I64 (x0), eV (pV bb2 1), eV (.slice a0 (newMR (fi.length : Int)).length c0), fun (v : Value) (w' : World) => v = iV x0 ∧ I64 (x0), fun (v : Value) (w' : World) => ∃ (g0 : Nat), v = .pointer (some ⟨g0, x0.toNat * 1, none⟩) ∧ (.slice a0 (newMR (fi.length : Int)).length c0 : Value).ownBlock = some g0 ∧ AtW (MS M [box bb2 #[iV (newMN (fi.length : Int)), .slice a0 (newMR (fi.length : Int)).length c0] 86, own w.heap.size 91 (.slice a0 (newMR (fi.length : Int)).length c0) xs, box bb1 #[iV 0, .slice none 0 0] 86, box bb0 #[.slice a_fv n_fv c_fv, .slice a_fi fi.length c_fi, .slice a_fo fo.length c_fo] 30, imm (.slice a_fo fo.length c_fo) fo, imm (.slice a_fi fi.length c_fi) fi]) w' ⟨g0, x0.toNat * 1, none⟩ x1, fun (v : Value) (w' : World) => ∃ (a1 : Option Addr) (c1 : Nat), v = .slice a1 x1.length c1 ∧ RV (MS M [box bb2 #[iV (newMN (fi.length : Int)), .slice a0 (newMR (fi.length : Int)).length c0] 86, own w.heap.size 91 (.slice a0 (newMR (fi.length : Int)).length c0) xs, box bb1 #[iV 0, .slice none 0 0] 86, box bb0 #[.slice a_fv n_fv c_fv, .slice a_fi fi.length c_fi, .slice a_fo fo.length c_fo] 30, imm (.slice a_fo fo.length c_fo) fo, imm (.slice a_fi fi.length c_fi) fi]) w' (.slice a1 x1.length c1) x1, eV (iV (j : Int)), fun (v : Value) (w' : World) => ∃ (a2 : Option Addr) (c2 : Nat), v = .slice a2 (setR x1 (j : Int)).length c2 ∧ RV (MS M [box bb2 #[iV (newMN (fi.length : Int)), .slice a0 (newMR (fi.length : Int)).length c0] 86, own w.heap.size 91 (.slice a0 (newMR (fi.length : Int)).length c0) xs, box bb1 #[iV 0, .slice none 0 0] 86, box bb0 #[.slice a_fv n_fv c_fv, .slice a_fi fi.length c_fi, .slice a_fo fo.length c_fo] 30, imm (.slice a_fo fo.length c_fo) fo, imm (.slice a_fi fi.length c_fi) fi]) w' (.slice a2 (setR x1 (j : Int)).length c2) (setR x1 (j : Int))] rfl (by kernel_rfl) ?_ ?_
   ·
    refine dc (fun _ _ hf0 _ _ => fa fl86_1 rfl ((hf0 3 rfl).trans s1) (d0 rfl rfl)) ?_
    refine dc (fun _ _ _ xt6 hp1 => ldX (H7.ext xt6) 0 rfl ty84 rfl (hp1 0 rfl rfl) (by decide) rfl (d0 rfl rfl)) ?_
    refine dc (fun _ _ hf2 _ _ => mv rfl (hf2 6 rfl) ⟨_, rfl, Ext.refl _, ⟨rfl, rv1⟩⟩) ?_
    refine dc (fun _ _ hf3 _ _ => fa fl86_1 rfl ((hf3 3 rfl).trans s1) (d0 rfl rfl)) ?_
    refine dc (fun _ _ _ xt9 hp4 => ldX (H7.ext xt9) 0 rfl ty84 rfl (hp4 3 rfl rfl) (by decide) rfl (d0 rfl rfl)) ?_
    refine dc (fun _ _ hf5 _ _ => mv rfl (hf5 6 rfl) ⟨_, rfl, Ext.refl _, ⟨rfl, rv1⟩⟩) ?_
    refine ⟨fun _ => ⟨fun f7 w13 hf6 xt11 hp6 => ?_, by rintro _ _ _ x_ ⟨g0, e_, hv0, hA1⟩; exact ⟨g0, e_, hv0, hA1.ext x_⟩⟩, ?_⟩
    ·
     have H17 := H7.ext xt11
     have s7 : f7 28 = .slice a0 (newMR (fi.length : Int)).length c0 := hp6 4 rfl rfl
     obtain ⟨s8, rv5⟩ : f7 29 = iV x0 ∧ I64 (x0) := hp6 5 rfl rfl
     refine iaO (H17.at_ 1 rfl) rfl rfl s7 s8 (by first | omega | (simp; omega)) un84 ty91 ?_
     intro g1 x2 hv1 hx2 hA2
     obtain rfl : x1 = x2 := Option.some.inj (hx1.symm.trans hx2)
     exact ⟨_, rfl, Ext.refl _, ⟨g1, rfl, hv1, hA2⟩⟩
    refine ⟨fun _ => ⟨fun f8 w14 hf7 xt12 hp7 => ?_, by rintro _ _ _ x_ ⟨a1, c1, e_, rv2⟩; exact ⟨a1, c1, e_, rv2.lift (Up.ext x_)⟩⟩, ?_⟩
    ·
     obtain ⟨g2, s9, hv2, hA3⟩ : ∃ (g2 : Nat), f8 30 = .pointer (some ⟨g2, x0.toNat * 1, none⟩) ∧ (.slice a0 (newMR (fi.length : Int)).length c0 : Value).ownBlock = some g2 ∧ AtW (MS M [box bb2 #[iV (newMN (fi.length : Int)), .slice a0 (newMR (fi.length : Int)).length c0] 86, own w.heap.size 91 (.slice a0 (newMR (fi.length : Int)).length c0) xs, box bb1 #[iV 0, .slice none 0 0] 86, box bb0 #[.slice a_fv n_fv c_fv, .slice a_fi fi.length c_fi, .slice a_fo fo.length c_fo] 30, imm (.slice a_fo fo.length c_fo) fo, imm (.slice a_fi fi.length c_fi) fi]) w14 ⟨g2, x0.toNat * 1, none⟩ x1 := hp7 6 rfl rfl
     refine ldL hA3 ty91 rfl s9 ?_
     intro a3 c3 rv6
     have ln1 := rv_len rv6
     exact ⟨_, rfl, Ext.refl _, ⟨a3, c3, rfl, rv6⟩⟩
    refine dc (fun _ _ hf8 _ _ => mv rfl (hf8 5 rfl) (d0 rfl rfl)) ?_
    refine ⟨fun _ => ⟨fun f10 w16 hf9 xt14 hp9 => ?_, by rintro _ _ _ x_ ⟨a2, c2, e_, rv4⟩; exact ⟨a2, c2, e_, rv4.lift (Up.ext x_)⟩⟩, ?_⟩
    ·
     have H21 := H7.ext xt14
     obtain ⟨a4, c4, s10, rv7⟩ : ∃ (a4 : Option Addr) (c4 : Nat), f10 31 = .slice a4 x1.length c4 ∧ RV (MS M [box bb2 #[iV (newMN (fi.length : Int)), .slice a0 (newMR (fi.length : Int)).length c0] 86, own w.heap.size 91 (.slice a0 (newMR (fi.length : Int)).length c0) xs, box bb1 #[iV 0, .slice none 0 0] 86, box bb0 #[.slice a_fv n_fv c_fv, .slice a_fi fi.length c_fi, .slice a_fo fo.length c_fo] 30, imm (.slice a_fo fo.length c_fo) fo, imm (.slice a_fi fi.length c_fi) fi]) w16 (.slice a4 x1.length c4) x1 := hp9 7 rfl rfl
     have H22 := H21.put (it := imm (.slice a4 x1.length c4) x1) rfl rv7
     have s11 : f10 32 = iV (j : Int) := hp9 8 rfl rfl
     have cc2 := row_Set (r := x1) (i := (j : Int)) (w := w16) H22.mb (H22.rv 0 rfl) (by unfold I64 at *; omega) (by first | (have e1_ := hx1; rw [hs] at e1_; exact (rfTo_sq (n := fi.length) (by omega) fo j).2 _ (List.mem_of_getElem? e1_)) | (have e1_ := hx2; rw [hs] at e1_; exact (rfTo_sq (n := fi.length) (by omega) fo j).2 _ (List.mem_of_getElem? e1_)) | (have e1_ := hx3; rw [hs] at e1_; exact (rfTo_sq (n := fi.length) (by omega) fo j).2 _ (List.mem_of_getElem? e1_)) | (have e1_ := hx4; rw [hs] at e1_; exact (rfTo_sq (n := fi.length) (by omega) fo j).2 _ (List.mem_of_getElem? e1_)) | (have e1_ := hx5; rw [hs] at e1_; exact (rfTo_sq (n := fi.length) (by omega) fo j).2 _ (List.mem_of_getElem? e1_)))
     refine ca go52 rfl (ec s10 (ec s11 e0)) cc2 ?_
     rintro _ w17 ⟨a5, c5, rfl, xt15, rv8⟩
     have rv9 := OwnsG.rv rv8 H22.mb
     exact ⟨_, rfl, xt15, ⟨a5, c5, rfl, (rv_drop rfl rv9)⟩⟩
    exact DSteps.rest rfl _
   ·
    intro f11 w18 hf10 xt16 hp10
    have H25 := H7.ext xt16
    have s12 : f11 2 = pV bb1 0 := (hf10 2 rfl).trans s0
    have s13 : f11 3 = pV bb2 0 := (hf10 3 rfl).trans s1
    have s14 : f11 15 = .slice a_fo fo.length c_fo := (hf10 15 rfl).trans s2
    have s15 : f11 16 = iV (fo.length : Int) := (hf10 16 rfl).trans s3
    have s16 : f11 17 = iV (j : Int) := (hf10 17 rfl).trans s4
    have s17 : f11 25 = .slice a0 (newMR (fi.length : Int)).length c0 := hp10 1 rfl
    obtain ⟨s18, rv10⟩ : f11 26 = iV x0 ∧ I64 (x0) := hp10 2 rfl
    obtain ⟨a6, c6, s19, rv11⟩ : ∃ (a6 : Option Addr) (c6 : Nat), f11 33 = .slice a6 (setR x1 (j : Int)).length c6 ∧ RV (MS M [box bb2 #[iV (newMN (fi.length : Int)), .slice a0 (newMR (fi.length : Int)).length c0] 86, own w.heap.size 91 (.slice a0 (newMR (fi.length : Int)).length c0) xs, box bb1 #[iV 0, .slice none 0 0] 86, box bb0 #[.slice a_fv n_fv c_fv, .slice a_fi fi.length c_fi, .slice a_fo fo.length c_fo] 30, imm (.slice a_fo fo.length c_fo) fo, imm (.slice a_fi fi.length c_fi) fi]) w18 (.slice a6 (setR x1 (j : Int)).length c6) (setR x1 (j : Int)) := hp10 9 rfl
    have H26 := H25.put (it := imm (.slice a6 (setR x1 (j : Int)).length c6) (setR x1 (j : Int))) rfl rv11
    refine k (iaO (H26.at_ 2 rfl) rfl rfl s17 s18 (by first | omega | (simp; omega)) un84 ty91 ?_)
    intro g3 x3 hv3 hx3 hA4
    refine k (stO H26 2 rfl hv3 rfl (by first | omega | (simp; omega)) ty91 rfl rfl rfl s19 (H26.rv 0 rfl) ?_)
    intro w19 (H27 : HI M w w19 [imm (.slice a6 (setR x1 (j : Int)).length c6) (setR x1 (j : Int)), box bb2 #[iV (newMN (fi.length : Int)), .slice a0 (newMR (fi.length : Int)).length c0] 86, own w.heap.size 91 (.slice a0 (newMR (fi.length : Int)).length c0) (xs.set x0.toNat (setR x1 (j : Int))), box bb1 #[iV 0, .slice none 0 0] 86, box bb0 #[.slice a_fv n_fv c_fv, .slice a_fi fi.length c_fi, .slice a_fo fo.length c_fo] 30, imm (.slice a_fo fo.length c_fo) fo, imm (.slice a_fi fi.length c_fi) fi])
    refine z (inb_normal (nx (rg (k (add rfl rfl s16 rfl (by unfold I64 at *; omega) (k (mv (v := iV ((j : Int) + 1)) rfl rfl (z ?_))))))))
    have H28 : HI M w w19 [box bb2 #[iV (newMN (fi.length : Int)), .slice a0 (newMR (fi.length : Int)).length c0] 86, own w.heap.size 91 (.slice a0 (newMR (fi.length : Int)).length c0) (xs.set x0.toNat (setR x1 (j : Int))), box bb1 #[iV 0, .slice none 0 0] 86, box bb0 #[.slice a_fv n_fv c_fv, .slice a_fi fi.length c_fi, .slice a_fo fo.length c_fo] 30, imm (.slice a_fo fo.length c_fo) fo, imm (.slice a_fi fi.length c_fi) fi] := H27.pickN [1, 2, 3, 4, 5, 6] (by decide) rfl
    refine loopN _ ?_ ⟨(j + 1), (xs.set x0.toNat (setR x1 (j : Int))), rfl, s12, s13, s14, s15, (ieq rfl (by first | rfl | omega | (push_cast; omega))), H28, (by first | assumption | omega | simp | (simp; omega)), (by first | assumption | simpa using hl), (by first | exact rf_put hs hx0 (by omega) (by omega) (by omega) hx1 | exact rf_put hs hx0 (by omega) (by omega) (by omega) hx2 | exact rf_put hs hx0 (by omega) (by omega) (by omega) hx3 | exact rf_put hs hx0 (by omega) (by omega) (by omega) hx4 | exact rf_put hs hx0 (by omega) (by omega) (by omega) hx5 | (rw [hs]; exact rf_no hx0 (by omega)))⟩
    omega
  ·
   have p1 := of_decide_eq_false b1
   refine sk (inb_normal (nx (rg (k (add rfl rfl s4 rfl (by unfold I64 at *; omega) (k (mv (v := iV ((j : Int) + 1)) rfl rfl (z ?_))))))))
   refine loopN _ ?_ ⟨(j + 1), xs, rfl, s0, s1, s2, s3, (ieq rfl (by first | rfl | omega | (push_cast; omega))), H7, (by first | assumption | omega | simp | (simp; omega)), (by first | assumption | simpa using hl), (by first | exact rf_put hs hx0 (by omega) (by omega) (by omega) hx1 | exact rf_put hs hx0 (by omega) (by omega) (by omega) hx2 | exact rf_put hs hx0 (by omega) (by omega) (by omega) hx3 | exact rf_put hs hx0 (by omega) (by omega) (by omega) hx4 | exact rf_put hs hx0 (by omega) (by omega) (by omega) hx5 | (rw [hs]; exact rf_no hx0 (by omega)))⟩
   omega
 ·
  have p0 := of_decide_eq_false b0
  refine ex (then_exit (loop_exit (inb_here (nx (sq (rg (k (ldX H7 0 rfl ty86 rfl s1 (by decide) rfl (k (stX H7 2 rfl ty86 rfl rfl s0 rfl rfl rfl rfl ?_))))))))))
  intro w6 (H8 : HI M w w6 [box bb2 #[iV (newMN (fi.length : Int)), .slice a0 (newMR (fi.length : Int)).length c0] 86, own w.heap.size 91 (.slice a0 (newMR (fi.length : Int)).length c0) xs, box bb1 #[iV (newMN (fi.length : Int)), .slice a0 (newMR (fi.length : Int)).length c0] 86, box bb0 #[.slice a_fv n_fv c_fv, .slice a_fi fi.length c_fi, .slice a_fo fo.length c_fo] 30, imm (.slice a_fo fo.length c_fo) fo, imm (.slice a_fi fi.length c_fi) fi])
  refine z (nx (rt (rc1 H8 2 rfl ty86 rfl rfl s0 rfl (by decide) ?_)))
  have e0 : (newMN (fi.length : Int) : Int) = (fi.length : Int) := by rw [en]
  have e1 : (xs : List (List (BitVec 64))) = rfR fi fo := by rw [hs]; exact rf_end hfo (by omega)
  have l1 : (newMR (fi.length : Int)).length = (rfR fi fo).length := by first | (rw [← e1]; omega) | (rw [er, newM_length, rfR_len]; simp)
  have ev_ := cg2 (fun (x_0 : Int) (n_1 : Nat) => (.agg #[iV x_0, .slice a0 n_1 c0] : Value)) e0 l1
  exact ⟨a0, c0, ev_, H8.below, (congrArg (fun (n_ : Nat) => OwnsG _ _ _ (rfR fi fo) (.slice a0 n_ c0) _) l1).mp ((congrArg (fun (x_ : List (List (BitVec 64))) => OwnsG _ _ _ x_ (.slice a0 (newMR (fi.length : Int)).length c0) _) e1).mp (H8.ownsG_out 1 rfl))⟩
set_option maxRecDepth 100000 in
set_option maxHeartbeats 1600000 in
theorem cause_Edges {M : Nat → Prop} {w : World} {a_fv : Option Addr} {n_fv c_fv : Nat} {a_fi : Option Addr} {c_fi : Nat} {fi : List (Int × Int × Bool × Int × Int)} {a_fo : Option Addr} {c_fo : Nat} {fo : List Int} (hM : ∀ b, M b → b < w.heap.size) (h_fi : RV M w (.slice a_fi fi.length c_fi) fi) (h_fo : RV M w (.slice a_fo fo.length c_fo) fo) (ho : OrdI fi) (hn_fi : fi.length ≤ 4096) (hfo : fo.length = fi.length) (hfr : ∀ x ∈ fo, x < ((fi.length : Nat) : Int)) : Calls Tryd.prog 55 #[.agg #[.slice a_fv n_fv c_fv, .slice a_fi fi.length c_fi, .slice a_fo fo.length c_fo]] w (Ret fun v w' => ∃ (a0 : Option Addr) (c0 : Nat), v = .agg #[.int .i64 (fi.length : Int), .slice a0 (edR fi fo).length c0] ∧ Ext w w' ∧ RV M w' (.slice a0 (edR fi fo).length c0) (edR fi fo)) := by
 refine enter 14 Tryd.func55 rfl rfl rfl fun f0 ha => ?_
 have H := HI.start (M0 := M) (w := w) hM
 have H0 := H.put (it := imm (.slice a_fi fi.length c_fi) fi) rfl (by rw [MS_nil]; exact h_fi)
 have H1 := H0.put (it := imm (.slice a_fo fo.length c_fo) fo) rfl (by rw [MS_cons_none rfl, MS_nil]; exact h_fo)
 have ln_fi := rv_len h_fi
 have ln_fo := rv_len h_fo
 have i0 : f0 0 = .agg #[.slice a_fv n_fv c_fv, .slice a_fi fi.length c_fi, .slice a_fo fo.length c_fo] := ha 0 (by simp)
 refine sq (rg (k (bx H1 rfl i0 ?_)))
 intro bb0 w0 xt0 (H2 : HI M w w0 [box bb0 #[.slice a_fv n_fv c_fv, .slice a_fi fi.length c_fi, .slice a_fo fo.length c_fo] 30, imm (.slice a_fo fo.length c_fo) fo, imm (.slice a_fi fi.length c_fi) fi])
 refine k (al H2 ty86 ?_)
 intro bb1 w1 xt1 (H3 : HI M w w1 [box bb1 #[iV 0, .slice none 0 0] 86, box bb0 #[.slice a_fv n_fv c_fv, .slice a_fi fi.length c_fi, .slice a_fo fo.length c_fo] 30, imm (.slice a_fo fo.length c_fo) fo, imm (.slice a_fi fi.length c_fi) fi])
 refine z (nx (sq ?_))
 refine drn [.v, .v, .v, .v, .v, .v, .v, .v, .n, .s 8 6, .v] [fun (N : Nat → Prop) (v : Value) (w' : World) => v = .agg #[.slice a_fv n_fv c_fv, .slice a_fi fi.length c_fi, .slice a_fo fo.length c_fo], fun (N : Nat → Prop) (v : Value) (w' : World) => ∃ (a0 : Option Addr) (c0 : Nat), v = .agg #[iV (fi.length : Int), .slice a0 (poR fi).length c0] ∧ RV (MN (MS M [box bb1 #[iV 0, .slice none 0 0] 86, box bb0 #[.slice a_fv n_fv c_fv, .slice a_fi fi.length c_fi, .slice a_fo fo.length c_fo] 30, imm (.slice a_fo fo.length c_fo) fo, imm (.slice a_fi fi.length c_fi) fi]) N) w' (.slice a0 (poR fi).length c0) (poR fi), fun (N : Nat → Prop) (v : Value) (w' : World) => v = .agg #[.slice a_fv n_fv c_fv, .slice a_fi fi.length c_fi, .slice a_fo fo.length c_fo], fun (N : Nat → Prop) (v : Value) (w' : World) => ∃ (a1 : Option Addr) (c1 : Nat), v = .agg #[iV (fi.length : Int), .slice a1 (rfR fi fo).length c1] ∧ RV (MN (MS M [box bb1 #[iV 0, .slice none 0 0] 86, box bb0 #[.slice a_fv n_fv c_fv, .slice a_fi fi.length c_fi, .slice a_fo fo.length c_fo] 30, imm (.slice a_fo fo.length c_fo) fo, imm (.slice a_fi fi.length c_fi) fi]) N) w' (.slice a1 (rfR fi fo).length c1) (rfR fi fo), fun (N : Nat → Prop) (v : Value) (w' : World) => ∃ (a2 : Option Addr) (c2 : Nat), v = .tuple #[.agg #[iV (orMN (fi.length : Int) (fi.length : Int)), .slice a2 (orMR (fi.length : Int) (poR fi) (fi.length : Int) (rfR fi fo)).length c2], iV (orME (fi.length : Int) (fi.length : Int))] ∧ RV (MN (MS M [box bb1 #[iV 0, .slice none 0 0] 86, box bb0 #[.slice a_fv n_fv c_fv, .slice a_fi fi.length c_fi, .slice a_fo fo.length c_fo] 30, imm (.slice a_fo fo.length c_fo) fo, imm (.slice a_fi fi.length c_fi) fi]) N) w' (.slice a2 (orMR (fi.length : Int) (poR fi) (fi.length : Int) (rfR fi fo)).length c2) (orMR (fi.length : Int) (poR fi) (fi.length : Int) (rfR fi fo)), fun (N : Nat → Prop) (v : Value) (w' : World) => ∃ (a2 : Option Addr) (c2 : Nat), v = .tuple #[.agg #[iV (orMN (fi.length : Int) (fi.length : Int)), .slice a2 (orMR (fi.length : Int) (poR fi) (fi.length : Int) (rfR fi fo)).length c2], iV (orME (fi.length : Int) (fi.length : Int))] ∧ RV (MN (MS M [box bb1 #[iV 0, .slice none 0 0] 86, box bb0 #[.slice a_fv n_fv c_fv, .slice a_fi fi.length c_fi, .slice a_fo fo.length c_fo] 30, imm (.slice a_fo fo.length c_fo) fo, imm (.slice a_fi fi.length c_fi) fi]) N) w' (.slice a2 (orMR (fi.length : Int) (poR fi) (fi.length : Int) (rfR fi fo)).length c2) (orMR (fi.length : Int) (poR fi) (fi.length : Int) (rfR fi fo)), fun (N : Nat → Prop) (v : Value) (w' : World) => ∃ (a2 : Option Addr) (c2 : Nat), v = .agg #[iV (orMN (fi.length : Int) (fi.length : Int)), .slice a2 (orMR (fi.length : Int) (poR fi) (fi.length : Int) (rfR fi fo)).length c2] ∧ RV (MN (MS M [box bb1 #[iV 0, .slice none 0 0] 86, box bb0 #[.slice a_fv n_fv c_fv, .slice a_fi fi.length c_fi, .slice a_fo fo.length c_fo] 30, imm (.slice a_fo fo.length c_fo) fo, imm (.slice a_fi fi.length c_fi) fi]) N) w' (.slice a2 (orMR (fi.length : Int) (poR fi) (fi.length : Int) (rfR fi fo)).length c2) (orMR (fi.length : Int) (poR fi) (fi.length : Int) (rfR fi fo)), fun (N : Nat → Prop) (v : Value) (w' : World) => v = iV (orME (fi.length : Int) (fi.length : Int)), fun _ _ _ => True, fun _ _ _ => True, fun (N : Nat → Prop) (v : Value) (w' : World) => v = iV (orME (fi.length : Int) (fi.length : Int))] [(#[], 0), (#[], 0), (#[], 0), (#[], 0), (#[], 0), (#[], 0), (#[], 0), (#[], 0), (#[iV 0, .slice none 0 0], 86), (#[], 0), (#[], 0)] rfl (by kernel_rfl) ?_ ?_
 ·
  refine ⟨⟨fun _ _ _ _ _ _ h => h, rfl, fun f0 w6 N0 hf0 xt6 hN0 hp0 => ?_⟩, ?_⟩
  ·
   refine ldX (H3.ext xt6) 1 rfl ty30 rfl (hf0 1 rfl) (by decide) rfl ?_
   exact ⟨_, rfl, Ext.refl _, rfl⟩
  refine ⟨⟨by rintro _ _ _ _ _ k_ ⟨a0, c0, e_, rv3⟩; exact ⟨a0, c0, e_, rvn_keep rv3 k_⟩, rfl, fun f1 w7 N1 hf1 xt7 hN1 hp1 => ?_⟩, ?_⟩
  ·
   have hq0 := hp1 0 rfl ⟨_, rfl, rfl⟩
   have s0 : f1 6 = .agg #[.slice a_fv n_fv c_fv, .slice a_fi fi.length c_fi, .slice a_fo fo.length c_fo] := hq0
   have cc3 := session_Po (fi := fi) (a_fv := a_fv) (n_fv := n_fv) (c_fv := c_fv) (a_fo := a_fo) (n_fo := fo.length) (c_fo := c_fo) (w := w7) (mn_below H3.mb xt7 hN1) (rvn_old (H3.rv 3 rfl) xt7 hN1) (by exact ho) (by first | exact hn_fi | omega)
   refine ca go66 rfl (ec s0 e0) cc3 ?_
   rintro _ w8 ⟨a3, c3, rfl, xt8, rv6⟩
   exact ⟨_, rfl, xt8, ⟨a3, c3, rfl, (OwnsG.rv rv6 (mn_below H3.mb xt7 hN1))⟩⟩
  refine ⟨⟨fun _ _ _ _ _ _ h => h, rfl, fun f2 w9 N2 hf2 xt9 hN2 hp2 => ?_⟩, ?_⟩
  ·
   refine ldX (H3.ext xt9) 1 rfl ty30 rfl (hf2 1 rfl) (by decide) rfl ?_
   exact ⟨_, rfl, Ext.refl _, rfl⟩
  refine ⟨⟨by rintro _ _ _ _ _ k_ ⟨a1, c1, e_, rv4⟩; exact ⟨a1, c1, e_, rvn_keep rv4 k_⟩, rfl, fun f3 w10 N3 hf3 xt10 hN3 hp3 => ?_⟩, ?_⟩
  ·
   have hq1 := hp3 2 rfl ⟨_, rfl, rfl⟩
   have s1 : f3 8 = .agg #[.slice a_fv n_fv c_fv, .slice a_fi fi.length c_fi, .slice a_fo fo.length c_fo] := hq1
   have cc4 := cause_Rf (fi := fi) (fo := fo) (a_fv := a_fv) (n_fv := n_fv) (c_fv := c_fv) (w := w10) (mn_below H3.mb xt10 hN3) (rvn_old (H3.rv 3 rfl) xt10 hN3) (rvn_old (H3.rv 2 rfl) xt10 hN3) (by first | exact hn_fi | omega) (by exact hfo) (by exact hfr)
   refine ca go67 rfl (ec s1 e0) cc4 ?_
   rintro _ w11 ⟨a4, c4, rfl, xt11, rv7⟩
   exact ⟨_, rfl, xt11, ⟨a4, c4, rfl, (OwnsG.rv rv7 (mn_below H3.mb xt10 hN3))⟩⟩
  refine ⟨⟨by rintro _ _ _ _ _ k_ ⟨a2, c2, e_, rv5⟩; exact ⟨a2, c2, e_, rvn_keep rv5 k_⟩, rfl, fun f4 w12 N4 hf4 xt12 hN4 hp4 => ?_⟩, ?_⟩
  ·
   have hq2 := hp4 1 rfl ⟨_, rfl, rfl⟩
   obtain ⟨a0, c0, s2, rv3⟩ := hq2
   have hq3 := hp4 3 rfl ⟨_, rfl, rfl⟩
   obtain ⟨a1, c1, s3, rv4⟩ := hq3
   have cc5 := mat_Or (an := (fi.length : Int)) (ar := (poR fi)) (bn := (fi.length : Int)) (br := (rfR fi fo)) (w := w12) (mn_below H3.mb xt12 hN4) (by unfold I64 at *; omega) rv3 (by unfold I64 at *; omega) rv4 (by exact (mat_sq (by omega) _).1) (by exact (mat_sq (by omega) _).2) (by omega) (by exact (mat_sq (by omega) _).1) (by exact (mat_sq (by omega) _).2) (by omega)
   refine ca go65 rfl (ec s2 (ec s3 e0)) cc5 ?_
   rintro _ w13 ⟨a5, c5, rfl, xt13, rv8⟩
   exact ⟨_, rfl, xt13, ⟨a5, c5, rfl, (OwnsG.rv rv8 (mn_below H3.mb xt12 hN4))⟩⟩
  refine ⟨⟨by rintro _ _ _ _ _ k_ ⟨a2, c2, e_, rv5⟩; exact ⟨a2, c2, e_, rvn_keep rv5 k_⟩, rfl, fun f5 w14 N5 hf5 xt14 hN5 hp5 => ?_⟩, ?_⟩
  ·
   have hq4 := hp5 4 rfl ⟨_, rfl, rfl⟩
   obtain ⟨a2, c2, s4, rv5⟩ := hq4
   refine mv rfl s4 ?_
   exact ⟨_, rfl, Ext.refl _, ⟨a2, c2, rfl, rv5⟩⟩
  refine ⟨⟨by rintro _ _ _ _ _ k_ ⟨a2, c2, e_, rv5⟩; exact ⟨a2, c2, e_, rvn_keep rv5 k_⟩, rfl, fun f6 w15 N6 hf6 xt15 hN6 hp6 => ?_⟩, ?_⟩
  ·
   have hq5 := hp6 5 rfl ⟨_, rfl, rfl⟩
   obtain ⟨a2, c2, s5, rv5⟩ := hq5
   refine xt rfl s5 rfl ?_
   exact ⟨_, rfl, Ext.refl _, ⟨a2, c2, rfl, rv5⟩⟩
  refine ⟨⟨fun _ _ _ _ _ _ h => h, rfl, fun f7 w16 N7 hf7 xt16 hN7 hp7 => ?_⟩, ?_⟩
  ·
   have hq6 := hp7 5 rfl ⟨_, rfl, rfl⟩
   obtain ⟨a2, c2, s6, rv5⟩ := hq6
   refine xt rfl s6 rfl ?_
   exact ⟨_, rfl, Ext.refl _, rfl⟩
  refine ⟨⟨fun _ _ _ _ _ _ h => h, rfl, fun _ _ _ => trivial, fun f8 w17 N8 hf8 xt17 hN8 hp8 => ?_⟩, ?_⟩
  ·
   refine alS ty86 ?_
   exact ⟨rfl, rfl⟩
  refine ⟨⟨fun _ _ _ _ _ _ h => h, rfl, rfl, rfl, ⟨_, rfl, rfl⟩, ⟨_, rfl, rfl⟩, by decide, trivial, by rintro _ _ _ ⟨a2, c2, e_, rv5⟩; subst e_; rfl, fun f9 w18 N_ bb3 cur0 xt18 s7 hb0 hc0 hv0 => ?_⟩, ?_⟩
  ·
   obtain ⟨a2, c2, e_, rv5⟩ := hv0
   exact stS ty86 rfl rfl s7 rfl hb0 ((congrArg (fun v => v.cells.size) e_).trans rfl) hc0 ((congrArg (fun v => v.cells.toList.all Value.oneCell') e_).trans rfl)
  refine ⟨⟨fun _ _ _ _ _ _ h => h, rfl, fun f10 w19 N9 hf9 xt19 hN9 hp9 => ?_⟩, ?_⟩
  ·
   have hq7 := hp9 7 rfl ⟨_, rfl, rfl⟩
   have s8 : f10 12 = iV (orME (fi.length : Int) (fi.length : Int)) := hq7
   refine asg rfl s8 ?_
   exact ⟨_, rfl, Ext.refl _, rfl⟩
  exact trivial
 ·
  intro f11 w20 I0 hf10 xt20 hp10 hN10 hd0
  have s9 : f11 2 = pV bb1 0 := hf10 2 rfl
  obtain ⟨a6, c6, s10, rv9⟩ := (hp10 6 _ rfl rfl)
  obtain ⟨s11, hg0, -, cur1, hc1, hk0⟩ := hN10 8 (by decide) trivial
  have hq8 : cur1 = #[iV (orMN (fi.length : Int) (fi.length : Int)), .slice a6 (orMR (fi.length : Int) (poR fi) (fi.length : Int) (rfR fi fo)).length c6] := (hk0.2.1 9 6 rfl rfl).trans (congrArg Value.cells s10)
  rw [hq8] at hc1
  have hz8_ := hg0
  have H5 : HI M w w20 [box (I0 8) #[iV (orMN (fi.length : Int) (fi.length : Int)), .slice a6 (orMR (fi.length : Int) (poR fi) (fi.length : Int) (rfR fi fo)).length c6] 86, box bb1 #[iV 0, .slice none 0 0] 86, box bb0 #[.slice a_fv n_fv c_fv, .slice a_fi fi.length c_fi, .slice a_fo fo.length c_fo] 30, imm (.slice a_fo fo.length c_fo) fo, imm (.slice a_fi fi.length c_fi) fi] := H3.lays xt20 [((I0 8), #[iV (orMN (fi.length : Int) (fi.length : Int)), .slice a6 (orMR (fi.length : Int) (poR fi) (fi.length : Int) (rfR fi fo)).length c6], 86)] (by intro q_ hq_; simp only [List.mem_cons, List.not_mem_nil, or_false] at hq_; rcases hq_ with rfl <;> first | exact ⟨hz8_, hc1⟩) (by simp only [List.map_cons, List.map_nil, List.nodup_cons, List.mem_cons, List.not_mem_nil, or_false, List.nodup_nil, and_true, not_or, not_false_eq_true, true_and] <;> omega)
  have H6 := H5.put (it := imm (.slice a6 (orMR (fi.length : Int) (poR fi) (fi.length : Int) (rfR fi fo)).length c6) (orMR (fi.length : Int) (poR fi) (fi.length : Int) (rfR fi fo))) rfl (rvn_out [((I0 8), #[iV (orMN (fi.length : Int) (fi.length : Int)), .slice a6 (orMR (fi.length : Int) (poR fi) (fi.length : Int) (rfR fi fo)).length c6], 86)] rv9 (by intro q_ hq_; simp only [List.mem_cons, List.not_mem_nil, or_false] at hq_; rcases hq_ with rfl <;> first | exact ⟨8, by decide, rfl, trivial, rfl⟩))
  refine nx (sq (rg (k (ldX H6 1 rfl ty86 rfl s11 (by decide) rfl (k (stX H6 2 rfl ty86 rfl rfl s9 rfl rfl rfl rfl ?_))))))
  intro w21 (H7 : HI M w w21 [imm (.slice a6 (orMR (fi.length : Int) (poR fi) (fi.length : Int) (rfR fi fo)).length c6) (orMR (fi.length : Int) (poR fi) (fi.length : Int) (rfR fi fo)), box (I0 8) #[iV (orMN (fi.length : Int) (fi.length : Int)), .slice a6 (orMR (fi.length : Int) (poR fi) (fi.length : Int) (rfR fi fo)).length c6] 86, box bb1 #[iV (orMN (fi.length : Int) (fi.length : Int)), .slice a6 (orMR (fi.length : Int) (poR fi) (fi.length : Int) (rfR fi fo)).length c6] 86, box bb0 #[.slice a_fv n_fv c_fv, .slice a_fi fi.length c_fi, .slice a_fo fo.length c_fo] 30, imm (.slice a_fo fo.length c_fo) fo, imm (.slice a_fi fi.length c_fi) fi])
  refine z (nx (rt (rc1 H7 2 rfl ty86 rfl rfl s9 rfl (by decide) ?_)))
  have e0 : (orMN (fi.length : Int) (fi.length : Int) : Int) = (fi.length : Int) := by exact (ed_or fi fo).1
  have e1 : (orMR (fi.length : Int) (poR fi) (fi.length : Int) (rfR fi fo) : List (List (BitVec 64))) = edR fi fo := by exact (ed_or fi fo).2
  have ev_ := cg2 (fun (x_0 : Int) (x_1 : List (List (BitVec 64))) => (.agg #[iV x_0, .slice a6 x_1.length c6] : Value)) e0 e1
  exact ⟨a6, c6, ev_, H7.below, (congrArg (fun (x_ : List (List (BitVec 64))) => RV _ _ (.slice a6 x_.length c6) x_) e1).mp (H7.gives_out 0 rfl)⟩
set_option maxRecDepth 100000 in
set_option maxHeartbeats 1600000 in
theorem cause_Co {M : Nat → Prop} {w : World} {a_fv : Option Addr} {n_fv c_fv : Nat} {a_fi : Option Addr} {c_fi : Nat} {fi : List (Int × Int × Bool × Int × Int)} {a_fo : Option Addr} {c_fo : Nat} {fo : List Int} (hM : ∀ b, M b → b < w.heap.size) (h_fi : RV M w (.slice a_fi fi.length c_fi) fi) (h_fo : RV M w (.slice a_fo fo.length c_fo) fo) (ho : OrdI fi) (hn_fi : fi.length ≤ 4096) (hfo : fo.length = fi.length) (hfr : ∀ x ∈ fo, x < ((fi.length : Nat) : Int)) : Calls Tryd.prog 47 #[.agg #[.slice a_fv n_fv c_fv, .slice a_fi fi.length c_fi, .slice a_fo fo.length c_fo]] w (Ret fun v w' => ∃ (a0 : Option Addr) (c0 : Nat), v = .agg #[.int .i64 (fi.length : Int), .slice a0 (coR fi fo).length c0] ∧ Ext w w' ∧ RV M w' (.slice a0 (coR fi fo).length c0) (coR fi fo)) := by
 refine enter 6 Tryd.func47 rfl rfl rfl fun f0 ha => ?_
 have H := HI.start (M0 := M) (w := w) hM
 have H0 := H.put (it := imm (.slice a_fi fi.length c_fi) fi) rfl (by rw [MS_nil]; exact h_fi)
 have H1 := H0.put (it := imm (.slice a_fo fo.length c_fo) fo) rfl (by rw [MS_cons_none rfl, MS_nil]; exact h_fo)
 have ln_fi := rv_len h_fi
 have ln_fo := rv_len h_fo
 have i0 : f0 0 = .agg #[.slice a_fv n_fv c_fv, .slice a_fi fi.length c_fi, .slice a_fo fo.length c_fo] := ha 0 (by simp)
 refine sq (rg (k (bx H1 rfl i0 ?_)))
 intro bb0 w0 xt0 (H2 : HI M w w0 [box bb0 #[.slice a_fv n_fv c_fv, .slice a_fi fi.length c_fi, .slice a_fo fo.length c_fo] 30, imm (.slice a_fo fo.length c_fo) fo, imm (.slice a_fi fi.length c_fi) fi])
 refine k (al H2 ty86 ?_)
 intro bb1 w1 xt1 (H3 : HI M w w1 [box bb1 #[iV 0, .slice none 0 0] 86, box bb0 #[.slice a_fv n_fv c_fv, .slice a_fi fi.length c_fi, .slice a_fo fo.length c_fo] 30, imm (.slice a_fo fo.length c_fo) fo, imm (.slice a_fi fi.length c_fi) fi])
 refine z (nx (sq (rg (k (ldX H3 1 rfl ty30 rfl rfl (by decide) rfl (k ?_))))))
 have cc0 := cause_Edges (fi := fi) (fo := fo) (a_fv := a_fv) (n_fv := n_fv) (c_fv := c_fv) (w := w1) H3.mb (H3.rv 3 rfl) (H3.rv 2 rfl) (by exact ho) (by first | exact hn_fi | omega) (by exact hfo) (by exact hfr)
 refine ca go55 rfl (ec rfl e0) cc0 ?_
 rintro _ w2 ⟨a0, c0, rfl, xt2, rv0⟩
 have H4 := H3.ext xt2
 have H5 := H4.put (it := imm (.slice a0 (edR fi fo).length c0) (edR fi fo)) rfl rv0
 refine k ?_
 have cc1 := hull_Close (mn := (fi.length : Int)) (mr := (edR fi fo)) (w := w2) H5.mb (by unfold I64 at *; omega) (H5.rv 0 rfl) (by exact ed_right fo hn_fi)
 refine ca go54 rfl (ec rfl e0) cc1 ?_
 rintro _ w3 ⟨a1, c1, rfl, xt3, rv1⟩
 have H6 := H5.ownsG rv1
 refine k (stX H6 2 rfl ty86 rfl rfl rfl rfl rfl rfl rfl ?_)
 intro w4 (H7 : HI M w w4 [own w.heap.size 91 (.slice a1 (closeM (fi.length : Int) (edR fi fo)).length c1) (closeM (fi.length : Int) (edR fi fo)), imm (.slice a0 (edR fi fo).length c0) (edR fi fo), box bb1 #[iV (fi.length : Int), .slice a1 (closeM (fi.length : Int) (edR fi fo)).length c1] 86, box bb0 #[.slice a_fv n_fv c_fv, .slice a_fi fi.length c_fi, .slice a_fo fo.length c_fo] 30, imm (.slice a_fo fo.length c_fo) fo, imm (.slice a_fi fi.length c_fi) fi])
 refine z (nx (rt (rc1 H7 2 rfl ty86 rfl rfl rfl rfl (by decide) ?_)))
 have e1 : (closeM (fi.length : Int) (edR fi fo) : List (List (BitVec 64))) = coR fi fo := by exact co_close fi fo
 have ev_ := cg1 (fun (x_1 : List (List (BitVec 64))) => (.agg #[iV (fi.length : Int), .slice a1 x_1.length c1] : Value)) e1
 exact ⟨a1, c1, ev_, H7.below, (congrArg (fun (x_ : List (List (BitVec 64))) => RV _ _ (.slice a1 x_.length c1) x_) e1).mp (H7.outO 0 rfl)⟩
end Go.Proofs.YtefcbihikknlkaaDoor
namespace Go.Proofs.YtefcbihikknlkaaDoor
open Go.Ew Go.RowKit
set_option linter.unusedVariables false
set_option linter.unusedSimpArgs false
attribute [local irreducible] WL WC SO Code.wp wpList retQ Ret
attribute [local irreducible] bitB hasW inR hasR setR countW countR subR words newR listR orR firstW tab8
theorem go53 : GoF Tryd.prog 53 := ⟨_, _, Tryd.func53, rfl, by kernel_rfl⟩
set_option maxRecDepth 100000 in
set_option maxHeartbeats 1600000 in
theorem past_With {M : Nat → Prop} {w : World} {mn : Int} {a_mr : Option Addr} {c_mr : Nat} {mr : List (List (BitVec 64))} {o : Int} (hM : ∀ b, M b → b < w.heap.size) (hT : TabAt 0 w) (h_mn : I64 mn) (h_mr : RV M w (.slice a_mr mr.length c_mr) mr) (h_o : I64 o) (rt_m : rightS mn mr = true) : Calls Tryd.prog 46 #[.agg #[.int .i64 mn, .slice a_mr mr.length c_mr], .int .i64 o] w (Ret fun v w' => ∃ (a0 : Option Addr) (c0 : Nat), v = .slice a0 (withL mn mr o).length c0 ∧ Ext w w' ∧ OwnsG M 3 w (withL mn mr o) (.slice a0 (withL mn mr o).length c0) w') := by
 refine enter 22 Tryd.func46 rfl rfl rfl fun f0 ha => ?_
 have H := HI.start (M0 := M) (w := w) hM
 have H0 := H.put (it := imm (.slice a_mr mr.length c_mr) mr) rfl (by rw [MS_nil]; exact h_mr)
 have ln_mr := rv_len h_mr
 have i0 : f0 0 = .agg #[iV mn, .slice a_mr mr.length c_mr] := ha 0 (by simp)
 have i1 : f0 1 = iV o := ha 1 (by simp)
 have hl_ := (right_sq rt_m).1; have h4_ := (right_sq rt_m).2.2.1; have h0_ := right_pos rt_m
 refine sq (rg (k (bx H0 rfl i0 ?_)))
 intro bb0 w0 xt0 (H1 : HI M w w0 [box bb0 #[iV mn, .slice a_mr mr.length c_mr] 86, imm (.slice a_mr mr.length c_mr) mr])
 refine k (asg (v := .slice none 0 0) rfl rfl (z (nx (sq (sq (rg (k (mv rfl i1 (k (lss rfl rfl rfl rfl (k (mv (v := .bool (decide (o < 0))) rfl rfl ?_))))))))))))
 rcases Bool.eq_false_or_eq_true (decide (o < 0)) with b0 | b0
 · -- decide (o < 0) is True
  have p0 := of_decide_eq_true b0
  refine k (gn rfl rfl rfl b0 (k (gn rfl rfl rfl b0 (k (gn rfl rfl rfl b0 (k (gn rfl rfl rfl b0 (k (pickT rfl rfl rfl rfl b0 rfl (z (nx (cdT rfl rfl rfl (sq (rg (k (asg (v := .slice none 0 0) rfl rfl (z (nx (rt (then_ret (r1 rfl rfl ?_)))))))))))))))))))))
  have e0 : ([] : List Int) = withL mn mr o := by first | exact (withL_no (by omega)).symm | exact withL_yes rt_m hq hx0
  have ev_ := cg1 (fun (x_0 : List Int) => (.slice none x_0.length 0 : Value)) e0
  exact ⟨none, 0, ev_, H1.below, (congrArg (fun (x_ : List Int) => OwnsG _ _ _ x_ (.slice none x_.length 0) _) e0).mp (ownsG_nil H1.below)⟩
 · -- decide (o < 0) is False
  have p0 := of_decide_eq_false b0
  refine k (gy rfl rfl rfl b0 (mv rfl i1 (k (gy rfl rfl rfl b0 (fa fl86_0 rfl rfl (k (gy rfl rfl rfl b0 (ldX H1 0 rfl ty3 rfl rfl (by decide) rfl (k (gy rfl rfl rfl b0 (geq rfl rfl rfl rfl (k (pickF rfl rfl rfl rfl b0 rfl (z (nx ?_)))))))))))))))
  refine cd (b := decide (mn ≤ o)) rfl rfl (fun b1 => ?_) (fun b1 => ?_)
  ·
   have p1 := of_decide_eq_true b1
   refine sq (rg (k (asg (v := .slice none 0 0) rfl rfl (z (nx (rt (then_ret (r1 rfl rfl ?_))))))))
   have e0 : ([] : List Int) = withL mn mr o := by first | exact (withL_no (by omega)).symm | exact withL_yes rt_m hq hx0
   have ev_ := cg1 (fun (x_0 : List Int) => (.slice none x_0.length 0 : Value)) e0
   exact ⟨none, 0, ev_, H1.below, (congrArg (fun (x_ : List Int) => OwnsG _ _ _ x_ (.slice none x_.length 0) _) e0).mp (ownsG_nil H1.below)⟩
  ·
   have p1 := of_decide_eq_false b1
   refine sk (nx (sq ?_))
   have hq : 0 ≤ o ∧ o < mn := by omega
   have tl_ := turnM_len mn mr
   refine rg (k (ldX H1 0 rfl ty86 rfl rfl (by decide) rfl (k ?_)))
   have cc0 := mat_Turn (mn := mn) (mr := mr) (w := w0) H1.mb (hT.ext H1.below) (by unfold I64 at *; omega) (H1.rv 1 rfl) (by exact rt_m)
   refine ca go53 rfl (ec rfl e0) cc0 ?_
   rintro _ w1 ⟨a0, c0, rfl, xt1, rv0⟩
   have H2 := H1.ownsG rv0
   refine k (fd (v := .slice a0 (turnM mn mr).length c0) rfl rfl (fun _ => by kernel_rfl) (k (mv rfl i1 (k (iaO (H2.at_ 0 rfl) rfl rfl rfl rfl (by omega) un84 ty91 ?_)))))
   intro g0 x0 hv0 hx0 hA0
   refine k (ldL hA0 ty91 rfl rfl ?_)
   intro a1 c1 rv1
   have ln0 := rv_len rv1
   have H3 := H2.put (it := imm (.slice a1 x0.length c1) x0) rfl rv1
   refine k (mv rfl i1 (k ?_))
   have cc1 := row_Set (r := x0) (i := o) (w := w1) H3.mb (H3.rv 0 rfl) (by unfold I64 at *; omega) (by first | (have h_ := turn_row_len rt_m hx0; omega) | (rw [setR_length]; have h_ := turn_row_len rt_m hx0; omega))
   refine ca go52 rfl (ec rfl (ec rfl e0)) cc1 ?_
   rintro _ w2 ⟨a2, c2, rfl, xt2, rv2⟩
   have H4 := H3.ownsG rv2
   refine k ?_
   have H5 := H4.freeze 0 rfl
   have cc2 := row_List (r := (setR x0 o)) (w := w2) H5.mb (hT.ext H5.below) (H5.rv 0 rfl) (by first | (have h_ := turn_row_len rt_m hx0; omega) | (rw [setR_length]; have h_ := turn_row_len rt_m hx0; omega))
   refine ca go51 rfl (ec rfl e0) cc2 ?_
   rintro _ w3 ⟨a3, c3, rfl, xt3, rv3⟩
   have H6 := H5.ownsG rv3
   refine k (asg (v := .slice a3 (listR (setR x0 o)).length c3) rfl rfl (z (nx (rt (r1 rfl rfl ?_)))))
   have e0 : (listR (setR x0 o) : List Int) = withL mn mr o := by first | exact (withL_no (by omega)).symm | exact withL_yes rt_m hq hx0
   have ev_ := cg1 (fun (x_0 : List Int) => (.slice a3 x_0.length c3 : Value)) e0
   exact ⟨a3, c3, ev_, H6.below, (congrArg (fun (x_ : List Int) => OwnsG _ _ _ x_ (.slice a3 x_.length c3) _) e0).mp (H6.ownsG_out 0 rfl)⟩
end Go.Proofs.YtefcbihikknlkaaDoor
namespace Go.Proofs.YtefcbihikknlkaaDoor
open Go.Ew Go.RowKit
set_option linter.unusedVariables false
set_option linter.unusedSimpArgs false
attribute [local irreducible] WL WC SO Code.wp wpList retQ Ret
attribute [local irreducible] bitB hasW inR hasR setR countW countR subR words newR listR orR firstW tab8
set_option maxRecDepth 100000 in
set_option maxHeartbeats 1600000 in
theorem deleteFunc_int {M : Nat → Prop} {w w_ : World} {r : List Go.Ew.Item} {a_xs : Option Addr} {c_xs : Nat} {xs : List Int} {g_p : Nat} {C_p : List Value} {p : Int → Bool} (h_p : FPH Tryd.prog g_p C_p M w (fun ys_ => own w.heap.size 3 (.slice a_xs xs.length c_xs) ys_) r xs p) (H : HI M w w_ ([own w.heap.size 3 (.slice a_xs xs.length c_xs) xs] ++ r)) : Calls Tryd.prog 43 #[.slice a_xs xs.length c_xs, .func (.func g_p) #[] C_p.toArray] w_ (Ret fun v w' => v = .slice a_xs (keepL p xs).length c_xs ∧ HI M w w' ([own w.heap.size 3 (.slice a_xs (keepL p xs).length c_xs) (keepL p xs)] ++ r)) := by
 refine enter 42 Tryd.func43 rfl rfl rfl fun f0 ha => ?_
 have ln_xs := own_len_ (H.at_ 0 rfl)
 have i0 : f0 0 = .slice a_xs xs.length c_xs := ha 0 (by simp)
 have i1 : f0 1 = .func (.func g_p) #[] C_p.toArray := ha 1 (by simp)
 refine sq (rg (k (asg (v := .slice none 0 0) rfl rfl (z (nx (sq (rg (k (mv rfl i0 (k (mv rfl i1 (k ?_))))))))))))
 have H0 := H.freeze 0 rfl
 have H1 : HI M w w_ ([imm (.slice a_xs xs.length c_xs) xs] ++ r) := H0
 have cc0 := indexFunc_int (r := xs) (p := p) (w := w_) H1.mb (H1.rv 0 rfl) (h_p.fp H)
 refine ca go27 rfl (ec rfl (ec rfl e0)) cc0 ?_
 rintro _ w0 ⟨rfl, xt0⟩
 have H2 := H.ext xt0
 refine k (asg (v := iV (idxF p xs)) rfl rfl (z (nx (sq (sq (rg (k (mv (v := iV (idxF p xs)) rfl rfl (k (eql rfl rfl rfl rfl (z (nx ?_))))))))))))
 refine cd (b := decide ((idxF p xs) = (-1))) rfl rfl (fun b0 => ?_) (fun b0 => ?_)
 ·
  have p0 := of_decide_eq_true b0
  refine sq (rg (k (mv rfl i0 (k (asg (v := .slice a_xs xs.length c_xs) rfl rfl (z (nx (rt (then_ret (r1 rfl rfl ?_))))))))))
  have e0 : (xs : List _) = (keepL p xs) := by exact df_none (by assumption)
  try rw [← e0]
  refine ⟨?_, ?_⟩
  · first | rfl | simp only [e0] | (simp only [List.length_set])
  · first | exact H2 | simpa only [e0, List.length_set] using H2
 ·
  have p0 := of_decide_eq_false b0
  refine sk (nx (sq (sq ?_)))
  obtain ⟨hi0_, hi1_, hi2_⟩ := df_start (p := p) (xs := xs) (by assumption)
  refine rg (k (mv (v := iV (idxF p xs)) rfl rfl (k (add rfl rfl rfl rfl (by first | assumption | (unfold I64 at *; omega)) (k (asg (v := iV ((idxF p xs) + 1)) rfl rfl (z (nx (bk ?_)))))))))
  refine lp (fun m f w' => ∃ (q : Int) (k_ : Nat) (ys : List Int), m = xs.length - k_ ∧ f 0 = .slice a_xs xs.length c_xs ∧ f 1 = .func (.func g_p) #[] C_p.toArray ∧ f 5 = iV q ∧ f 6 = iV (k_ : Int) ∧  HI M w w' ([own w.heap.size 3 (.slice a_xs xs.length c_xs) ys] ++ r) ∧ (0 ≤ q ∧ q < (k_ : Int) ∧ k_ ≤ xs.length) ∧ (DF p xs ys q k_)) _ ⟨(idxF p xs), ((idxF p xs).toNat + 1), xs, rfl, i0, i1, (ieq rfl (by omega)), (ieq rfl (by omega)), H2, (by omega), (by exact hi2_)⟩ ?_
  rintro _ f0 w1 ⟨q, k_, ys, rfl, s0, s1, s2, s3, H3, hq_, hs⟩
  refine sq (sq (rg (k (mv rfl s3 (k (mv rfl s0 (k (lnS rfl rfl un28 (k (lss rfl rfl rfl rfl (z (nx ?_))))))))))))
  refine cd (b := decide ((k_ : Int) < (xs.length : Int))) rfl rfl (fun b1 => ?_) (fun b1 => ?_)
  ·
   have p1 := of_decide_eq_true b1
   refine sk (nx (sq (bk (sq (rg (k (mv rfl s0 (k (mv rfl s3 (k (iaO (H3.at_ 0 rfl) rfl rfl rfl rfl (by have h_ := hs.1; first | omega | (simp only [List.length_append, List.length_take, List.length_replicate, List.length_nil]; omega)) un28 ty3 ?_)))))))))))
   intro g0 x0 hv0 hx0 hA0
   refine k (ldI hA0 ty3 rfl rfl ?_)
   intro rv0
   refine k (asg (v := iV x0) rfl rfl (z (nx (sq ?_))))
   have hl_ := hs.1
   refine rg (k (mv rfl s1 (k (mv (v := iV x0) rfl rfl (k (cf h_p.1 rfl rfl rfl (ec rfl e0) (h_p.2 _ _ H3 _ (by exact List.mem_of_getElem? (by first | exact hx0 | exact df_at hs hx0)) rv0) ?_))))))
   rintro _ w2 ⟨rfl, xt1⟩
   have H4 := H3.ext xt1
   have H5 : HI M w w2 ([own w.heap.size 3 (.slice a_xs xs.length c_xs) ys] ++ r) := H4
   refine k (not_ rfl rfl (z (nx ?_)))
   refine cd (b := !(p x0)) rfl rfl (fun b2 => ?_) (fun b2 => ?_)
   ·
    refine sq (rg (k (mv rfl s0 (k (mv rfl s2 (k (mv (v := iV x0) rfl rfl (k (iaO (H5.at_ 0 rfl) rfl rfl rfl rfl (by have h_ := hs.1; first | omega | (simp only [List.length_append, List.length_take, List.length_replicate, List.length_nil]; omega)) un28 ty3 ?_)))))))))
    intro g1 x1 hv1 hx1 hA1
    refine k (stO H5 0 rfl hv1 rfl (by have h_ := hs.1; first | omega | (simp only [List.length_append, List.length_take, List.length_replicate, List.length_nil]; omega)) ty3 rfl rfl rfl rfl (RV.int.2 ⟨rfl, (by first | assumption | (unfold I64 at *; omega))⟩) ?_)
    intro w3 (H6 : HI M w w3 ([own w.heap.size 3 (.slice a_xs xs.length c_xs) (ys.set q.toNat x0)] ++ r))
    refine z (nx (rg (k (mv rfl s2 (k (add rfl rfl rfl rfl (by first | assumption | (unfold I64 at *; omega)) (k (asg (v := iV (q + 1)) rfl rfl (z (inb_normal (nx (rg (k (mv rfl s3 (k (add rfl rfl rfl rfl (by first | assumption | (unfold I64 at *; omega)) (k (asg (v := iV ((k_ : Int) + 1)) rfl rfl (z ?_)))))))))))))))))))
    refine loopN _ ?_ ⟨(q + 1), (k_ + 1), (ys.set q.toNat x0), rfl, s0, s1, (ieq rfl (by omega)), (ieq rfl (by omega)), H6, (by omega), (by first | exact df_keep hs hx0 (by simpa using b2) (by omega) (by omega) | exact df_drop hs hx0 (by simpa using b2))⟩
    omega
   ·
    refine sk (inb_normal (nx (rg (k (mv rfl s3 (k (add rfl rfl rfl rfl (by first | assumption | (unfold I64 at *; omega)) (k (asg (v := iV ((k_ : Int) + 1)) rfl rfl (z ?_))))))))))
    refine loopN _ ?_ ⟨q, (k_ + 1), ys, rfl, s0, s1, (ieq s2 (by omega)), (ieq rfl (by omega)), H5, (by omega), (by first | exact df_keep hs hx0 (by simpa using b2) (by omega) (by omega) | exact df_drop hs hx0 (by simpa using b2))⟩
    omega
  ·
   have p1 := of_decide_eq_false b1
   refine ex (then_exit (loop_exit (inb_here (nx (sq (rg (k (mv rfl s0 (k (mv rfl s2 (k (slOl (H3.at_ 0 rfl) rfl rfl rfl rfl (by have h_ := hs.1; first | omega | (simp only [List.length_append, List.length_take, List.length_replicate, List.length_nil]; omega)) un28 ty3 (k (clO H3 0 rfl rfl rfl (q := q.toNat) rfl un28 ty3 (by have h_ := hs.1; omega) ?_))))))))))))))
   intro w2 (H4 : HI M w w2 ([own w.heap.size 3 (.slice a_xs xs.length c_xs) (ys.take q.toNat ++ (List.replicate (ys.length - q.toNat) (0 : Int) ++ []))] ++ r))
   refine z (nx (sq (rg (k (mv rfl s0 (k (mv rfl s2 (k (slCut H4 0 rfl rfl rfl rfl rfl (by have h_ := hs.1; first | omega | (simp only [List.length_append, List.length_take, List.length_replicate, List.length_nil]; omega)) un28 ty3 ?_)))))))))
   intro (H5 : HI M w w2 ([own w.heap.size 3 (.slice a_xs ((ys.take q.toNat ++ (List.replicate (ys.length - q.toNat) (0 : Int) ++ [])).take q.toNat).length c_xs) ((ys.take q.toNat ++ (List.replicate (ys.length - q.toNat) (0 : Int) ++ [])).take q.toNat)] ++ r))
   refine k (asg (v := .slice a_xs ((ys.take q.toNat ++ (List.replicate (ys.length - q.toNat) (0 : Int) ++ [])).take q.toNat).length c_xs) rfl rfl (z (nx (rt (r1 rfl rfl ?_)))))
   have e0 : ((ys.take q.toNat ++ (List.replicate (ys.length - q.toNat) (0 : Int) ++ [])).take q.toNat : List _) = (keepL p xs) := by exact df_end hs (by omega) (by omega) (by have h_ := hs.1; omega) _
   try rw [← e0]
   refine ⟨?_, ?_⟩
   · first | rfl | simp only [e0] | (simp only [List.length_set])
   · first | exact H5 | simpa only [e0, List.length_set] using H5
set_option maxRecDepth 100000 in
set_option maxHeartbeats 1600000 in
theorem past_Kept1 {M : Nat → Prop} {w : World} {i : Int} {b_b : Nat} {ty_b : TypeId} {a_fv : Option Addr} {n_fv c_fv : Nat} {a_fi : Option Addr} {c_fi : Nat} {fi : List (Int × Int × Bool × Int × Int)} {a_fo : Option Addr} {n_fo c_fo : Nat} (hM : ∀ b, M b → b < w.heap.size) (h_i : I64 i) (h_fi : RV M w (.slice a_fi fi.length c_fi) fi) (h_b : w.heap[b_b]? = some (.cells #[.slice a_fv n_fv c_fv, .slice a_fi fi.length c_fi, .slice a_fo n_fo c_fo] ty_b (0, 0)) ∧ ¬ M b_b) (hi0 : 0 ≤ i ∧ i < ((fi.length : Nat) : Int)) : Calls Tryd.prog 45 #[.int .i64 i, .pointer (some ⟨b_b, 0, none⟩)] w (Ret fun v w' =>  v = .bool (wrQ fi i) ∧ Ext w w') := by
 refine enter 10 Tryd.func45 rfl rfl rfl fun f0 ha => ?_
 have H := HI.start (M0 := M) (w := w) hM
 have H0 := H.put (it := imm (.slice a_fi fi.length c_fi) fi) rfl (by rw [MS_nil]; exact h_fi)
 have ln_fi := rv_len h_fi
 have i0 : f0 0 = iV i := ha 0 (by simp)
 have H1 := H0.put (it := ro b_b #[.slice a_fv n_fv c_fv, .slice a_fi fi.length c_fi, .slice a_fo n_fo c_fo] ty_b) rfl (by rw [MS_cons_none rfl, MS_nil]; exact h_b)
 have i1 : f0 1 = pV b_b 0 := ha 1 (by simp)
 refine sq (rg (k (asg (v := .bool false) rfl rfl (z (nx (sq (rg (k (fa fl30_1 rfl i1 (k (ldR H1 0 rfl ty27 rfl rfl (by decide) rfl (k (mv rfl i0 (k (ia (H1.rv 1 rfl) rfl rfl rfl rfl (by first | omega | (simp; omega)) un27 ty65 ?_)))))))))))))))
 intro ad0 x0 hx0 hA0
 refine k (fa fl65_2 rfl rfl (k (ldB ((hA0).s2).fst.w ty4 rfl rfl (k (asg (v := .bool x0.2.2.1) rfl rfl (z (nx (rt (r1 rfl rfl ?_)))))))))
 have e0 : (x0.2.2.1 : Bool) = wrQ fi i := by exact (wrQ_at hx0).symm
 have ev_ := cg1 (fun (x_0 : Bool) => (.bool x_0 : Value)) e0
 exact ⟨ev_, H1.below⟩
end Go.Proofs.YtefcbihikknlkaaDoor
namespace Go.Proofs.YtefcbihikknlkaaDoor
open Go.Ew Go.RowKit
set_option linter.unusedVariables false
set_option linter.unusedSimpArgs false
attribute [local irreducible] WL WC SO Code.wp wpList retQ Ret
attribute [local irreducible] bitB hasW inR hasR setR countW countR subR words newR listR orR firstW tab8
theorem go44 : GoF Tryd.prog 44 := ⟨_, _, Tryd.func44, rfl, by kernel_rfl⟩
theorem go45 : GoF Tryd.prog 45 := ⟨_, _, Tryd.func45, rfl, by kernel_rfl⟩
theorem go43 : GoF Tryd.prog 43 := ⟨_, _, Tryd.func43, rfl, by kernel_rfl⟩
set_option maxRecDepth 100000 in
set_option maxHeartbeats 1600000 in
theorem past_Kept {M : Nat → Prop} {w : World} {a_fv : Option Addr} {n_fv c_fv : Nat} {a_fi : Option Addr} {c_fi : Nat} {fi : List (Int × Int × Bool × Int × Int)} {a_fo : Option Addr} {n_fo c_fo : Nat} {o : Int} (hM : ∀ b, M b → b < w.heap.size) (h_fi : RV M w (.slice a_fi fi.length c_fi) fi) (h_o : I64 o) (ho : OrdI fi) (hn_fi : fi.length ≤ 4096) : Calls Tryd.prog 34 #[.agg #[.slice a_fv n_fv c_fv, .slice a_fi fi.length c_fi, .slice a_fo n_fo c_fo], .int .i64 o] w (Ret fun v w' => ∃ (a0 : Option Addr) (c0 : Nat), v = .slice a0 (keepL (wrQ fi) (pastA fi o)).length c0 ∧ Ext w w' ∧ OwnsG M 3 w (keepL (wrQ fi) (pastA fi o)) (.slice a0 (keepL (wrQ fi) (pastA fi o)).length c0) w') := by
 refine enter 10 Tryd.func34 rfl rfl rfl fun f0 ha => ?_
 have H := HI.start (M0 := M) (w := w) hM
 have H0 := H.put (it := imm (.slice a_fi fi.length c_fi) fi) rfl (by rw [MS_nil]; exact h_fi)
 have ln_fi := rv_len h_fi
 have i0 : f0 0 = .agg #[.slice a_fv n_fv c_fv, .slice a_fi fi.length c_fi, .slice a_fo n_fo c_fo] := ha 0 (by simp)
 have i1 : f0 1 = iV o := ha 1 (by simp)
 refine sq (rg (k (bx H0 rfl i0 ?_)))
 intro bb0 w0 xt0 (H1 : HI M w w0 [box bb0 #[.slice a_fv n_fv c_fv, .slice a_fi fi.length c_fi, .slice a_fo n_fo c_fo] 30, imm (.slice a_fi fi.length c_fi) fi])
 refine k (asg (v := .slice none 0 0) rfl rfl (z (nx (sq (rg (k (ldX H1 0 rfl ty30 rfl rfl (by decide) rfl (k (mv rfl i1 (k ?_))))))))))
 have cc0 := session_Past (fi := fi) (tt := o) (a_fv := a_fv) (n_fv := n_fv) (c_fv := c_fv) (a_fo := a_fo) (n_fo := n_fo) (c_fo := c_fo) (w := w0) H1.mb (H1.rv 1 rfl) (by unfold I64 at *; omega) (by first | omega | (simp; omega)) (by first | omega | (simp; omega))
 refine ca go44 rfl (ec rfl (ec rfl e0)) cc0 ?_
 rintro _ w1 ⟨a0, c0, rfl, xt1, rv0⟩
 have H2 := H1.ownsG rv0
 refine k (mf rfl (k ?_))
 have H3 : HI M w w1 ([own w.heap.size 3 (.slice a0 (pastA fi o).length c0) (pastA fi o)] ++ [box bb0 #[.slice a_fv n_fv c_fv, .slice a_fi fi.length c_fi, .slice a_fo n_fo c_fo] 30, imm (.slice a_fi fi.length c_fi) fi]) := H2.pickN [0, 1, 2] (by decide) rfl
 have cc1 := deleteFunc_int (a_xs := a0) (c_xs := c0) (xs := (pastA fi o)) (g_p := 45) (C_p := [pV bb0 0]) (p := (fun (x_ : Int) => wrQ fi x_)) (w := w) (w_ := w1) (r := [box bb0 #[.slice a_fv n_fv c_fv, .slice a_fi fi.length c_fi, .slice a_fo n_fo c_fo] 30, imm (.slice a_fi fi.length c_fi) fi]) (M := M) ⟨go45, fun w_ ys_ H_ x_ hx_ hr_ => past_Kept1 (fi := fi) (M := fun _ => False) (fun _ h_ => h_.elim) hr_ ((H_.rv 2 rfl).lift (Up.less fun _ _ h_ => h_.elim)) ⟨H_.at_ 1 rfl, fun h_ => h_⟩ (by obtain ⟨j_, hj_⟩ := List.mem_iff_getElem?.1 hx_; exact pastA_mem ho hj_)⟩ H3
 refine ca go43 rfl (ec rfl (ec rfl e0)) cc1 ?_
 rintro _ w2 ⟨rfl, H4⟩
 have H5 : HI M w w2 [own w.heap.size 3 (.slice a0 (keepL (fun (x_ : Int) => wrQ fi x_) (pastA fi o)).length c0) (keepL (fun (x_ : Int) => wrQ fi x_) (pastA fi o)), box bb0 #[.slice a_fv n_fv c_fv, .slice a_fi fi.length c_fi, .slice a_fo n_fo c_fo] 30, imm (.slice a_fi fi.length c_fi) fi] := H4
 refine k (asg (v := .slice a0 (keepL (fun (x_ : Int) => wrQ fi x_) (pastA fi o)).length c0) rfl rfl (z (nx (rt (r1 rfl rfl ?_)))))
 have e0 : ((keepL (fun (x_ : Int) => wrQ fi x_) (pastA fi o)) : List Int) = keepL (wrQ fi) (pastA fi o) := rfl
 have ev_ := cg1 (fun (x_0 : List Int) => (.slice a0 x_0.length c0 : Value)) e0
 exact ⟨a0, c0, ev_, H5.below, (congrArg (fun (x_ : List Int) => OwnsG _ _ _ x_ (.slice a0 x_.length c0) _) e0).mp (H5.ownsG_out 0 rfl)⟩
end Go.Proofs.YtefcbihikknlkaaDoor
namespace Go.Proofs.YtefcbihikknlkaaDoor
open Go.Ew Go.RowKit
set_option linter.unusedVariables false
set_option linter.unusedSimpArgs false
attribute [local irreducible] WL WC SO Code.wp wpList retQ Ret
attribute [local irreducible] bitB hasW inR hasR setR countW countR subR words newR listR orR firstW tab8
theorem fl35_0 : FldF Tryd.prog 35 0 0 := ⟨_, _, Tryd.underlying35, rfl, rfl, by kernel_rfl⟩
theorem go15 : GoF Tryd.prog 15 := ⟨_, _, Tryd.func15, rfl, by kernel_rfl⟩
theorem fl35_4 : FldF Tryd.prog 35 4 4 := ⟨_, _, Tryd.underlying35, rfl, rfl, by kernel_rfl⟩
theorem go47 : GoF Tryd.prog 47 := ⟨_, _, Tryd.func47, rfl, by kernel_rfl⟩
theorem go46 : GoF Tryd.prog 46 := ⟨_, _, Tryd.func46, rfl, by kernel_rfl⟩
theorem go34 : GoF Tryd.prog 34 := ⟨_, _, Tryd.func34, rfl, by kernel_rfl⟩
theorem go48 : GoF Tryd.prog 48 := ⟨_, _, Tryd.func48, rfl, by kernel_rfl⟩
theorem go41 : GoF Tryd.prog 41 := ⟨_, _, Tryd.func41, rfl, by kernel_rfl⟩
theorem go28 : GoF Tryd.prog 28 := ⟨_, _, Tryd.func28, rfl, by kernel_rfl⟩
set_option maxRecDepth 100000 in
set_option maxHeartbeats 1600000 in
theorem aud_within1 {M : Nat → Prop} {w : World} {kd : Int} {fr : Int} {to : Int} {sa : Int} {sb : Int} {b_b1_ : Nat} {ty_b1_ : TypeId} {a_wl : Option Addr} {c_wl : Nat} {wl : List Int} {b_b2_ : Nat} {ty_b2_ : TypeId} {a_kl : Option Addr} {c_kl : Nat} {kl : List Int} (hM : ∀ b, M b → b < w.heap.size) (h_kd : I64 kd) (h_fr : I64 fr) (h_to : I64 to) (h_sa : I64 sa) (h_sb : I64 sb) (h_wl : RV M w (.slice a_wl wl.length c_wl) wl) (h_kl : RV M w (.slice a_kl kl.length c_kl) kl) (h_b1_ : w.heap[b_b1_]? = some (.cells #[.slice a_wl wl.length c_wl] ty_b1_ (0, 0)) ∧ ¬ M b_b1_) (h_b2_ : w.heap[b_b2_]? = some (.cells #[.slice a_kl kl.length c_kl] ty_b2_ (0, 0)) ∧ ¬ M b_b2_) : Calls Tryd.prog 48 #[.agg #[.int .i64 kd, .int .i64 fr, .int .i64 to, .int .i64 sa, .int .i64 sb], .pointer (some ⟨b_b1_, 0, none⟩), .pointer (some ⟨b_b2_, 0, none⟩)] w (Ret fun v w' =>  v = .bool (withinO wl kl (kd, fr, to, sa, sb)) ∧ Ext w w') := by
 refine enter 22 Tryd.func48 rfl rfl rfl fun f0 ha => ?_
 have H := HI.start (M0 := M) (w := w) hM
 have H0 := H.put (it := imm (.slice a_wl wl.length c_wl) wl) rfl (by rw [MS_nil]; exact h_wl)
 have H1 := H0.put (it := imm (.slice a_kl kl.length c_kl) kl) rfl (by rw [MS_cons_none rfl, MS_nil]; exact h_kl)
 have ln_wl := rv_len h_wl
 have ln_kl := rv_len h_kl
 have i0 : f0 0 = .agg #[iV kd, iV fr, iV to, iV sa, iV sb] := ha 0 (by simp)
 have H2 := H1.put (it := ro b_b1_ #[.slice a_wl wl.length c_wl] ty_b1_) rfl (by rw [MS_cons_none rfl, MS_cons_none rfl, MS_nil]; exact h_b1_)
 have i1 : f0 1 = pV b_b1_ 0 := ha 1 (by simp)
 have H3 := H2.put (it := ro b_b2_ #[.slice a_kl kl.length c_kl] ty_b2_) rfl (by rw [MS_cons_none rfl, MS_cons_none rfl, MS_cons_none rfl, MS_nil]; exact h_b2_)
 have i2 : f0 2 = pV b_b2_ 0 := ha 2 (by simp)
 refine sq (rg (k (bx H3 rfl i0 ?_)))
 intro bb0 w0 xt0 (H4 : HI M w w0 [box bb0 #[iV kd, iV fr, iV to, iV sa, iV sb] 35, ro b_b2_ #[.slice a_kl kl.length c_kl] ty_b2_, ro b_b1_ #[.slice a_wl wl.length c_wl] ty_b1_, imm (.slice a_kl kl.length c_kl) kl, imm (.slice a_wl wl.length c_wl) wl])
 refine k (asg (v := .bool false) rfl rfl (z (nx (sq (sq (rg (k (fa fl35_0 rfl rfl (k (ldX H4 0 rfl ty3 rfl rfl (by decide) rfl (z (nx (bk (sq (sq (rg (k (eql rfl rfl rfl rfl (k (asg (v := .bool (decide (kd = 1))) rfl rfl (z (nx ?_))))))))))))))))))))))
 refine cd (b := decide (kd = 1)) rfl rfl (fun b0 => ?_) (fun b0 => ?_)
 ·
  have p0 := of_decide_eq_true b0
  refine sk (nx (cdT rfl rfl b0 (sq (rg (k (ldR H4 2 rfl ty28 rfl i1 (by decide) rfl (k (fa fl35_2 rfl rfl (k (ldX H4 0 rfl ty3 rfl rfl (by decide) rfl (k ?_)))))))))))
  have cc0 := contains_int (l0_ := wl) (v0_ := to) (w := w0) H4.mb (H4.rv 4 rfl) (by first | assumption | (unfold I64 at *; omega))
  refine ca go15 rfl (ec rfl (ec rfl e0)) cc0 ?_
  rintro _ w1 ⟨rfl, xt1⟩
  have H5 := H4.ext xt1
  refine k (not_ rfl rfl (k (asg (v := .bool (!(wl.any (fun (z_ : Int) => decide (to = z_))))) rfl rfl (z (nx (rt (inb_ret (then_ret (r1 rfl rfl ?_)))))))))
  have e0 : (!(wl.any (fun (z_ : Int) => decide (to = z_))) : Bool) = withinO wl kl (kd, fr, to, sa, sb) := by simp only [withinO, hasI, b0, BL, cond_true, cond_false]
  have ev_ := cg1 (fun (x_0 : Bool) => (.bool x_0 : Value)) e0
  exact ⟨ev_, H5.below⟩
 ·
  have p0 := of_decide_eq_false b0
  refine rg (k (eql rfl rfl rfl rfl (k (asg (v := .bool (decide (kd = 2))) rfl rfl (z (nx ?_))))))
  refine cd (b := decide (kd = 2)) rfl rfl (fun b1 => ?_) (fun b1 => ?_)
  ·
   have p1 := of_decide_eq_true b1
   refine sq (rg (k (ldR H4 2 rfl ty28 rfl i1 (by decide) rfl (k (fa fl35_2 rfl rfl (k (ldX H4 0 rfl ty3 rfl rfl (by decide) rfl (k ?_))))))))
   have cc0 := contains_int (l0_ := wl) (v0_ := to) (w := w0) H4.mb (H4.rv 4 rfl) (by first | assumption | (unfold I64 at *; omega))
   refine ca go15 rfl (ec rfl (ec rfl e0)) cc0 ?_
   rintro _ w1 ⟨rfl, xt1⟩
   have H5 := H4.ext xt1
   refine k (not_ rfl rfl (k (asg (v := .bool (!(wl.any (fun (z_ : Int) => decide (to = z_))))) rfl rfl (z (nx (rt (inb_ret (then_ret (r1 rfl rfl ?_)))))))))
   have e0 : (!(wl.any (fun (z_ : Int) => decide (to = z_))) : Bool) = withinO wl kl (kd, fr, to, sa, sb) := by simp only [withinO, hasI, b0, b1, BL, cond_true, cond_false]
   have ev_ := cg1 (fun (x_0 : Bool) => (.bool x_0 : Value)) e0
   exact ⟨ev_, H5.below⟩
  ·
   have p1 := of_decide_eq_false b1
   refine sq (rg (k (eql rfl rfl rfl rfl (k (asg (v := .bool (decide (kd = 4))) rfl rfl (z (nx ?_)))))))
   refine cd (b := decide (kd = 4)) rfl rfl (fun b2 => ?_) (fun b2 => ?_)
   ·
    have p2 := of_decide_eq_true b2
    refine sq (rg (k (ldR H4 1 rfl ty28 rfl i2 (by decide) rfl (k (fa fl35_4 rfl rfl (k (ldX H4 0 rfl ty3 rfl rfl (by decide) rfl (k ?_))))))))
    have cc0 := contains_int (l0_ := kl) (v0_ := sb) (w := w0) H4.mb (H4.rv 3 rfl) (by first | assumption | (unfold I64 at *; omega))
    refine ca go15 rfl (ec rfl (ec rfl e0)) cc0 ?_
    rintro _ w1 ⟨rfl, xt1⟩
    have H5 := H4.ext xt1
    refine k (not_ rfl rfl (k (asg (v := .bool (!(kl.any (fun (z_ : Int) => decide (sb = z_))))) rfl rfl (z (nx (rt (inb_ret (then_ret (r1 rfl rfl ?_)))))))))
    have e0 : (!(kl.any (fun (z_ : Int) => decide (sb = z_))) : Bool) = withinO wl kl (kd, fr, to, sa, sb) := by simp only [withinO, hasI, b0, b1, b2, BL, cond_true, cond_false]
    have ev_ := cg1 (fun (x_0 : Bool) => (.bool x_0 : Value)) e0
    exact ⟨ev_, H5.below⟩
   ·
    have p2 := of_decide_eq_false b2
    refine sk (inb_normal (nx (sq (rg (k (asg (v := .bool false) rfl rfl (z (nx (rt (r1 rfl rfl ?_))))))))))
    have e0 : (false : Bool) = withinO wl kl (kd, fr, to, sa, sb) := by simp only [withinO, hasI, b0, b1, b2, BL, cond_true, cond_false]
    have ev_ := cg1 (fun (x_0 : Bool) => (.bool x_0 : Value)) e0
    exact ⟨ev_, H4.below⟩
set_option maxRecDepth 100000 in
set_option maxHeartbeats 1600000 in
theorem aud_within {M : Nat → Prop} {w : World} {b_a : Nat} {ty_a : TypeId} {a_fv : Option Addr} {n_fv c_fv : Nat} {a_fi : Option Addr} {c_fi : Nat} {fi : List (Int × Int × Bool × Int × Int)} {a_fo : Option Addr} {c_fo : Nat} {fo : List Int} {a_stp : Option Addr} {c_stp : Nat} {stp : List (Int × Int × Int × Int × Int)} {a_pl : Option Addr} {n_pl c_pl : Nat} {op_ : Int} (hM : ∀ b, M b → b < w.heap.size) (hT : TabAt 0 w) (h_fi : RV M w (.slice a_fi fi.length c_fi) fi) (h_fo : RV M w (.slice a_fo fo.length c_fo) fo) (h_stp : RV M w (.slice a_stp stp.length c_stp) stp) (h_op_ : I64 op_) (h_a : w.heap[b_a]? = some (.cells #[.slice a_fv n_fv c_fv, .slice a_fi fi.length c_fi, .slice a_fo fo.length c_fo, .slice a_stp stp.length c_stp, .slice a_pl n_pl c_pl] ty_a (0, 0)) ∧ ¬ M b_a) (ho : OrdI fi) (hn_fi : fi.length ≤ 4096) (hfo : fo.length = fi.length) (hfr : ∀ x ∈ fo, x < ((fi.length : Nat) : Int)) : Calls Tryd.prog 35 #[.pointer (some ⟨b_a, 0, none⟩), .int .i64 op_] w (Ret fun v w' =>  v = .bool (wthO fi fo stp op_) ∧ Ext w w') := by
 refine enter 27 Tryd.func35 rfl rfl rfl fun f0 ha => ?_
 have H := HI.start (M0 := M) (w := w) hM
 have H0 := H.put (it := imm (.slice a_fi fi.length c_fi) fi) rfl (by rw [MS_nil]; exact h_fi)
 have H1 := H0.put (it := imm (.slice a_fo fo.length c_fo) fo) rfl (by rw [MS_cons_none rfl, MS_nil]; exact h_fo)
 have H2 := H1.put (it := imm (.slice a_stp stp.length c_stp) stp) rfl (by rw [MS_cons_none rfl, MS_cons_none rfl, MS_nil]; exact h_stp)
 have ln_fi := rv_len h_fi
 have ln_fo := rv_len h_fo
 have ln_stp := rv_len h_stp
 have H3 := H2.put (it := ro b_a #[.slice a_fv n_fv c_fv, .slice a_fi fi.length c_fi, .slice a_fo fo.length c_fo, .slice a_stp stp.length c_stp, .slice a_pl n_pl c_pl] ty_a) rfl (by rw [MS_cons_none rfl, MS_cons_none rfl, MS_cons_none rfl, MS_nil]; exact h_a)
 have i0 : f0 0 = pV b_a 0 := ha 0 (by simp)
 have i1 : f0 1 = iV op_ := ha 1 (by simp)
 refine sq (rg (k (asg (v := .bool false) rfl rfl (z (nx (sq ?_))))))
 refine drn [.v, .v, .v, .v, .v, .v, .v, .v, .v, .v, .v, .v, .v, .n, .n, .s 13 6, .s 14 12] [fun (N : Nat → Prop) (v : Value) (w' : World) => v = pV b_a 0, fun (N : Nat → Prop) (v : Value) (w' : World) => v = pV b_a 0, fun (N : Nat → Prop) (v : Value) (w' : World) => v = pV b_a 0, fun (N : Nat → Prop) (v : Value) (w' : World) => v = .agg #[.slice a_fv n_fv c_fv, .slice a_fi fi.length c_fi, .slice a_fo fo.length c_fo], fun (N : Nat → Prop) (v : Value) (w' : World) => ∃ (a0 : Option Addr) (c0 : Nat), v = .agg #[iV (fi.length : Int), .slice a0 (coR fi fo).length c0] ∧ RV (MN (MS M [ro b_a #[.slice a_fv n_fv c_fv, .slice a_fi fi.length c_fi, .slice a_fo fo.length c_fo, .slice a_stp stp.length c_stp, .slice a_pl n_pl c_pl] ty_a, imm (.slice a_stp stp.length c_stp) stp, imm (.slice a_fo fo.length c_fo) fo, imm (.slice a_fi fi.length c_fi) fi]) N) w' (.slice a0 (coR fi fo).length c0) (coR fi fo), fun (N : Nat → Prop) (v : Value) (w' : World) => v = iV op_, fun (N : Nat → Prop) (v : Value) (w' : World) => ∃ (a1 : Option Addr) (c1 : Nat), v = .slice a1 (withL (fi.length : Int) (coR fi fo) op_).length c1 ∧ RV (MN (MS M [ro b_a #[.slice a_fv n_fv c_fv, .slice a_fi fi.length c_fi, .slice a_fo fo.length c_fo, .slice a_stp stp.length c_stp, .slice a_pl n_pl c_pl] ty_a, imm (.slice a_stp stp.length c_stp) stp, imm (.slice a_fo fo.length c_fo) fo, imm (.slice a_fi fi.length c_fi) fi]) N) w' (.slice a1 (withL (fi.length : Int) (coR fi fo) op_).length c1) (withL (fi.length : Int) (coR fi fo) op_), fun (N : Nat → Prop) (v : Value) (w' : World) => v = pV b_a 0, fun (N : Nat → Prop) (v : Value) (w' : World) => v = pV b_a 0, fun (N : Nat → Prop) (v : Value) (w' : World) => v = pV b_a 0, fun (N : Nat → Prop) (v : Value) (w' : World) => v = .agg #[.slice a_fv n_fv c_fv, .slice a_fi fi.length c_fi, .slice a_fo fo.length c_fo], fun (N : Nat → Prop) (v : Value) (w' : World) => v = iV op_, fun (N : Nat → Prop) (v : Value) (w' : World) => ∃ (a2 : Option Addr) (c2 : Nat), v = .slice a2 (keepL (wrQ fi) (pastA fi op_)).length c2 ∧ RV (MN (MS M [ro b_a #[.slice a_fv n_fv c_fv, .slice a_fi fi.length c_fi, .slice a_fo fo.length c_fo, .slice a_stp stp.length c_stp, .slice a_pl n_pl c_pl] ty_a, imm (.slice a_stp stp.length c_stp) stp, imm (.slice a_fo fo.length c_fo) fo, imm (.slice a_fi fi.length c_fi) fi]) N) w' (.slice a2 (keepL (wrQ fi) (pastA fi op_)).length c2) (keepL (wrQ fi) (pastA fi op_)), fun _ _ _ => True, fun _ _ _ => True, fun _ _ _ => True, fun _ _ _ => True] [(#[], 0), (#[], 0), (#[], 0), (#[], 0), (#[], 0), (#[], 0), (#[], 0), (#[], 0), (#[], 0), (#[], 0), (#[], 0), (#[], 0), (#[], 0), (#[.slice none 0 0], 28), (#[.slice none 0 0], 28), (#[], 0), (#[], 0)] rfl (by kernel_rfl) ?_ ?_
 ·
  refine ⟨⟨fun _ _ _ _ _ _ h => h, rfl, fun f0 w5 N0 hf0 xt5 hN0 hp0 => ?_⟩, ?_⟩
  ·
   refine mv rfl ((hf0 0 rfl).trans i0) ?_
   exact ⟨_, rfl, Ext.refl _, rfl⟩
  refine ⟨⟨fun _ _ _ _ _ _ h => h, rfl, fun f1 w6 N1 hf1 xt6 hN1 hp1 => ?_⟩, ?_⟩
  ·
   have hq0 := hp1 0 rfl ⟨_, rfl, rfl⟩
   have s0 : f1 7 = pV b_a 0 := hq0
   refine nc rfl s0 ?_
   exact ⟨_, rfl, Ext.refl _, rfl⟩
  refine ⟨⟨fun _ _ _ _ _ _ h => h, rfl, fun f2 w7 N2 hf2 xt7 hN2 hp2 => ?_⟩, ?_⟩
  ·
   have hq1 := hp2 1 rfl ⟨_, rfl, rfl⟩
   have s1 : f2 8 = pV b_a 0 := hq1
   refine fa fl54_0 rfl s1 ?_
   exact ⟨_, rfl, Ext.refl _, rfl⟩
  refine ⟨⟨fun _ _ _ _ _ _ h => h, rfl, fun f3 w8 N3 hf3 xt8 hN3 hp3 => ?_⟩, ?_⟩
  ·
   have hq2 := hp3 2 rfl ⟨_, rfl, rfl⟩
   have s2 : f3 9 = pV b_a 0 := hq2
   refine ldR (H3.ext xt8) 0 rfl ty30 rfl s2 (by decide) rfl ?_
   exact ⟨_, rfl, Ext.refl _, rfl⟩
  refine ⟨⟨by rintro _ _ _ _ _ k_ ⟨a0, c0, e_, rv3⟩; exact ⟨a0, c0, e_, rvn_keep rv3 k_⟩, rfl, fun f4 w9 N4 hf4 xt9 hN4 hp4 => ?_⟩, ?_⟩
  ·
   have hq3 := hp4 3 rfl ⟨_, rfl, rfl⟩
   have s3 : f4 10 = .agg #[.slice a_fv n_fv c_fv, .slice a_fi fi.length c_fi, .slice a_fo fo.length c_fo] := hq3
   have cc3 := cause_Co (fi := fi) (fo := fo) (a_fv := a_fv) (n_fv := n_fv) (c_fv := c_fv) (w := w9) (mn_below H3.mb xt9 hN4) (rvn_old (H3.rv 3 rfl) xt9 hN4) (rvn_old (H3.rv 2 rfl) xt9 hN4) (by exact ho) (by first | exact hn_fi | omega) (by exact hfo) (by exact hfr)
   refine ca go47 rfl (ec s3 e0) cc3 ?_
   rintro _ w10 ⟨a3, c3, rfl, xt10, rv6⟩
   exact ⟨_, rfl, xt10, ⟨a3, c3, rfl, rv6⟩⟩
  refine ⟨⟨fun _ _ _ _ _ _ h => h, rfl, fun f5 w11 N5 hf5 xt11 hN5 hp5 => ?_⟩, ?_⟩
  ·
   refine mv rfl ((hf5 1 rfl).trans i1) ?_
   exact ⟨_, rfl, Ext.refl _, rfl⟩
  refine ⟨⟨by rintro _ _ _ _ _ k_ ⟨a1, c1, e_, rv4⟩; exact ⟨a1, c1, e_, rvn_keep rv4 k_⟩, rfl, fun f6 w12 N6 hf6 xt12 hN6 hp6 => ?_⟩, ?_⟩
  ·
   have hq4 := hp6 4 rfl ⟨_, rfl, rfl⟩
   obtain ⟨a0, c0, s4, rv3⟩ := hq4
   have hq5 := hp6 5 rfl ⟨_, rfl, rfl⟩
   have s5 : f6 12 = iV op_ := hq5
   have cc4 := past_With (mn := (fi.length : Int)) (mr := (coR fi fo)) (o := op_) (w := w12) (mn_below H3.mb xt12 hN6) (hT.ext (H3.below.trans xt12)) (by unfold I64 at *; omega) rv3 (by unfold I64 at *; omega) (by exact co_right _ hn_fi)
   refine ca go46 rfl (ec s4 (ec s5 e0)) cc4 ?_
   rintro _ w13 ⟨a4, c4, rfl, xt13, rv7⟩
   exact ⟨_, rfl, xt13, ⟨a4, c4, rfl, (OwnsG.rv rv7 (mn_below H3.mb xt12 hN6))⟩⟩
  refine ⟨⟨fun _ _ _ _ _ _ h => h, rfl, fun f7 w14 N7 hf7 xt14 hN7 hp7 => ?_⟩, ?_⟩
  ·
   refine mv rfl ((hf7 0 rfl).trans i0) ?_
   exact ⟨_, rfl, Ext.refl _, rfl⟩
  refine ⟨⟨fun _ _ _ _ _ _ h => h, rfl, fun f8 w15 N8 hf8 xt15 hN8 hp8 => ?_⟩, ?_⟩
  ·
   have hq6 := hp8 7 rfl ⟨_, rfl, rfl⟩
   have s6 : f8 14 = pV b_a 0 := hq6
   refine nc rfl s6 ?_
   exact ⟨_, rfl, Ext.refl _, rfl⟩
  refine ⟨⟨fun _ _ _ _ _ _ h => h, rfl, fun f9 w16 N9 hf9 xt16 hN9 hp9 => ?_⟩, ?_⟩
  ·
   have hq7 := hp9 8 rfl ⟨_, rfl, rfl⟩
   have s7 : f9 15 = pV b_a 0 := hq7
   refine fa fl54_0 rfl s7 ?_
   exact ⟨_, rfl, Ext.refl _, rfl⟩
  refine ⟨⟨fun _ _ _ _ _ _ h => h, rfl, fun f10 w17 N10 hf10 xt17 hN10 hp10 => ?_⟩, ?_⟩
  ·
   have hq8 := hp10 9 rfl ⟨_, rfl, rfl⟩
   have s8 : f10 16 = pV b_a 0 := hq8
   refine ldR (H3.ext xt17) 0 rfl ty30 rfl s8 (by decide) rfl ?_
   exact ⟨_, rfl, Ext.refl _, rfl⟩
  refine ⟨⟨fun _ _ _ _ _ _ h => h, rfl, fun f11 w18 N11 hf11 xt18 hN11 hp11 => ?_⟩, ?_⟩
  ·
   refine mv rfl ((hf11 1 rfl).trans i1) ?_
   exact ⟨_, rfl, Ext.refl _, rfl⟩
  refine ⟨⟨by rintro _ _ _ _ _ k_ ⟨a2, c2, e_, rv5⟩; exact ⟨a2, c2, e_, rvn_keep rv5 k_⟩, rfl, fun f12 w19 N12 hf12 xt19 hN12 hp12 => ?_⟩, ?_⟩
  ·
   have hq9 := hp12 10 rfl ⟨_, rfl, rfl⟩
   have s9 : f12 17 = .agg #[.slice a_fv n_fv c_fv, .slice a_fi fi.length c_fi, .slice a_fo fo.length c_fo] := hq9
   have hq10 := hp12 11 rfl ⟨_, rfl, rfl⟩
   have s10 : f12 18 = iV op_ := hq10
   have cc5 := past_Kept (fi := fi) (o := op_) (a_fv := a_fv) (n_fv := n_fv) (c_fv := c_fv) (a_fo := a_fo) (n_fo := fo.length) (c_fo := c_fo) (w := w19) (mn_below H3.mb xt19 hN12) (rvn_old (H3.rv 3 rfl) xt19 hN12) (by unfold I64 at *; omega) (by exact ho) (by first | exact hn_fi | omega)
   refine ca go34 rfl (ec s9 (ec s10 e0)) cc5 ?_
   rintro _ w20 ⟨a5, c5, rfl, xt20, rv8⟩
   exact ⟨_, rfl, xt20, ⟨a5, c5, rfl, (OwnsG.rv rv8 (mn_below H3.mb xt19 hN12))⟩⟩
  refine ⟨⟨fun _ _ _ _ _ _ h => h, rfl, fun _ _ _ => trivial, fun f13 w21 N13 hf13 xt21 hN13 hp13 => ?_⟩, ?_⟩
  ·
   refine alS ty28 ?_
   exact ⟨rfl, rfl⟩
  refine ⟨⟨fun _ _ _ _ _ _ h => h, rfl, fun _ _ _ => trivial, fun f14 w22 N14 hf14 xt22 hN14 hp14 => ?_⟩, ?_⟩
  ·
   refine alS ty28 ?_
   exact ⟨rfl, rfl⟩
  refine ⟨⟨fun _ _ _ _ _ _ h => h, rfl, rfl, rfl, ⟨_, rfl, rfl⟩, ⟨_, rfl, rfl⟩, by decide, trivial, by rintro _ _ _ ⟨a1, c1, e_, rv4⟩; subst e_; rfl, fun f15 w23 N_ bb2 cur0 xt23 s11 hb0 hc0 hv0 => ?_⟩, ?_⟩
  ·
   obtain ⟨a1, c1, e_, rv4⟩ := hv0
   exact stS ty28 rfl rfl s11 rfl hb0 ((congrArg (fun v => v.cells.size) e_).trans rfl) hc0 ((congrArg (fun v => v.cells.toList.all Value.oneCell') e_).trans rfl)
  refine ⟨⟨fun _ _ _ _ _ _ h => h, rfl, rfl, rfl, ⟨_, rfl, rfl⟩, ⟨_, rfl, rfl⟩, by decide, trivial, by rintro _ _ _ ⟨a2, c2, e_, rv5⟩; subst e_; rfl, fun f16 w24 N_ bb3 cur1 xt24 s12 hb1 hc1 hv1 => ?_⟩, ?_⟩
  ·
   obtain ⟨a2, c2, e_, rv5⟩ := hv1
   exact stS ty28 rfl rfl s12 rfl hb1 ((congrArg (fun v => v.cells.size) e_).trans rfl) hc1 ((congrArg (fun v => v.cells.toList.all Value.oneCell') e_).trans rfl)
  exact trivial
 ·
  intro f17 w25 I0 hf15 xt25 hp15 hN15 hd0
  have s13 : f17 0 = pV b_a 0 := (hf15 0 rfl).trans i0
  obtain ⟨a6, c6, s14, rv9⟩ := (hp15 6 _ rfl rfl)
  obtain ⟨a7, c7, s15, rv10⟩ := (hp15 12 _ rfl rfl)
  obtain ⟨s16, hg0, -, cur2, hc2, hk0⟩ := hN15 13 (by decide) trivial
  have hq11 : cur2 = #[.slice a6 (withL (fi.length : Int) (coR fi fo) op_).length c6] := (hk0.2.1 15 6 rfl rfl).trans (congrArg Value.cells s14)
  rw [hq11] at hc2
  have hz13_ := hg0
  obtain ⟨s17, hg1, -, cur3, hc3, hk1⟩ := hN15 14 (by decide) trivial
  have hq12 : cur3 = #[.slice a7 (keepL (wrQ fi) (pastA fi op_)).length c7] := (hk1.2.1 16 12 rfl rfl).trans (congrArg Value.cells s15)
  rw [hq12] at hc3
  have hz14_ := hg1
  have hd13_14 := hd0 13 14 (by decide) (by decide) (by decide) trivial trivial
  have H6 : HI M w w25 [box (I0 13) #[.slice a6 (withL (fi.length : Int) (coR fi fo) op_).length c6] 28, box (I0 14) #[.slice a7 (keepL (wrQ fi) (pastA fi op_)).length c7] 28, ro b_a #[.slice a_fv n_fv c_fv, .slice a_fi fi.length c_fi, .slice a_fo fo.length c_fo, .slice a_stp stp.length c_stp, .slice a_pl n_pl c_pl] ty_a, imm (.slice a_stp stp.length c_stp) stp, imm (.slice a_fo fo.length c_fo) fo, imm (.slice a_fi fi.length c_fi) fi] := H3.lays xt25 [((I0 13), #[.slice a6 (withL (fi.length : Int) (coR fi fo) op_).length c6], 28), ((I0 14), #[.slice a7 (keepL (wrQ fi) (pastA fi op_)).length c7], 28)] (by intro q_ hq_; simp only [List.mem_cons, List.not_mem_nil, or_false] at hq_; rcases hq_ with rfl | rfl <;> first | exact ⟨hz13_, hc2⟩ | exact ⟨hz14_, hc3⟩) (by simp only [List.map_cons, List.map_nil, List.nodup_cons, List.mem_cons, List.not_mem_nil, or_false, List.nodup_nil, and_true, not_or, not_false_eq_true, true_and] <;> omega)
  have H7 := H6.put (it := imm (.slice a6 (withL (fi.length : Int) (coR fi fo) op_).length c6) (withL (fi.length : Int) (coR fi fo) op_)) rfl (rvn_out [((I0 13), #[.slice a6 (withL (fi.length : Int) (coR fi fo) op_).length c6], 28), ((I0 14), #[.slice a7 (keepL (wrQ fi) (pastA fi op_)).length c7], 28)] rv9 (by intro q_ hq_; simp only [List.mem_cons, List.not_mem_nil, or_false] at hq_; rcases hq_ with rfl | rfl <;> first | exact ⟨13, by decide, rfl, trivial, rfl⟩ | exact ⟨14, by decide, rfl, trivial, rfl⟩))
  have H8 := H7.put (it := imm (.slice a7 (keepL (wrQ fi) (pastA fi op_)).length c7) (keepL (wrQ fi) (pastA fi op_))) rfl (by rw [MS_cons_none rfl]; exact (rvn_out [((I0 13), #[.slice a6 (withL (fi.length : Int) (coR fi fo) op_).length c6], 28), ((I0 14), #[.slice a7 (keepL (wrQ fi) (pastA fi op_)).length c7], 28)] rv10 (by intro q_ hq_; simp only [List.mem_cons, List.not_mem_nil, or_false] at hq_; rcases hq_ with rfl | rfl <;> first | exact ⟨13, by decide, rfl, trivial, rfl⟩ | exact ⟨14, by decide, rfl, trivial, rfl⟩)))
  refine nx (sq (rg (k (mv rfl s13 (k (nc rfl rfl (k (fa fl54_1 rfl rfl (k (ldR H8 4 rfl ty23 rfl rfl (by decide) rfl (k (mf2 rfl (mfc s16 (mfc s17 mf0)) (k ?_)))))))))))))
  have cc6 := containsFunc_step (r := stp) (p := (fun (x_ : (Int × Int × Int × Int × Int)) => withinO (withL (fi.length : Int) (coR fi fo) op_) (keepL (wrQ fi) (pastA fi op_)) (x_.1, x_.2.1, x_.2.2.1, x_.2.2.2.1, x_.2.2.2.2))) (w := w25) H8.mb (H8.rv 5 rfl) ⟨go48, fun w_ v_ x_ hx_ e_ hv_ => by have H_ := H8.ext e_; obtain ⟨_, ⟨_, _, rfl, ⟨rfl, rv11⟩, ⟨_, _, rfl, ⟨rfl, rv12⟩, ⟨_, _, rfl, ⟨rfl, rv13⟩, ⟨_, _, rfl, ⟨rfl, rv14⟩, ⟨rfl, rv15⟩⟩⟩⟩⟩, rfl⟩ := hv_; exact aud_within1 (wl := (withL (fi.length : Int) (coR fi fo) op_)) (kl := (keepL (wrQ fi) (pastA fi op_))) (M := fun _ => False) (fun _ h_ => h_.elim) rv11 rv12 rv13 rv14 rv15 ((H_.rv 1 rfl).lift (Up.less fun _ _ h_ => h_.elim)) ((H_.rv 0 rfl).lift (Up.less fun _ _ h_ => h_.elim)) ⟨H_.at_ 2 rfl, fun h_ => h_⟩ ⟨H_.at_ 3 rfl, fun h_ => h_⟩⟩
  refine ca go41 rfl (ec rfl (ec rfl e0)) cc6 ?_
  rintro _ w26 ⟨rfl, xt26⟩
  have H9 := H8.ext xt26
  refine k (not_ rfl rfl (k (asg (v := .bool (!(stp.any (fun (x_ : (Int × Int × Int × Int × Int)) => withinO (withL (fi.length : Int) (coR fi fo) op_) (keepL (wrQ fi) (pastA fi op_)) (x_.1, x_.2.1, x_.2.2.1, x_.2.2.2.1, x_.2.2.2.2))))) rfl rfl (z (nx (rt (r1 rfl rfl ?_)))))))
  have e0 : (!(stp.any (fun (x_ : (Int × Int × Int × Int × Int)) => withinO (withL (fi.length : Int) (coR fi fo) op_) (keepL (wrQ fi) (pastA fi op_)) (x_.1, x_.2.1, x_.2.2.1, x_.2.2.2.1, x_.2.2.2.2))) : Bool) = wthO fi fo stp op_ := rfl
  have ev_ := cg1 (fun (x_0 : Bool) => (.bool x_0 : Value)) e0
  exact ⟨ev_, H9.below⟩
set_option maxRecDepth 100000 in
set_option maxHeartbeats 1600000 in
theorem aud_early {M : Nat → Prop} {w : World} {b_a : Nat} {ty_a : TypeId} {a_fv : Option Addr} {n_fv c_fv : Nat} {a_fi : Option Addr} {c_fi : Nat} {fi : List (Int × Int × Bool × Int × Int)} {a_fo : Option Addr} {c_fo : Nat} {fo : List Int} {a_stp : Option Addr} {n_stp c_stp : Nat} {a_pl : Option Addr} {n_pl c_pl : Nat} {n1 : Int} {n2 : Int} (hM : ∀ b, M b → b < w.heap.size) (h_fi : RV M w (.slice a_fi fi.length c_fi) fi) (h_fo : RV M w (.slice a_fo fo.length c_fo) fo) (h_n1 : I64 n1) (h_n2 : I64 n2) (h_a : w.heap[b_a]? = some (.cells #[.slice a_fv n_fv c_fv, .slice a_fi fi.length c_fi, .slice a_fo fo.length c_fo, .slice a_stp n_stp c_stp, .slice a_pl n_pl c_pl] ty_a (0, 0)) ∧ ¬ M b_a) (hfo : fo.length = fi.length) : Calls Tryd.prog 31 #[.pointer (some ⟨b_a, 0, none⟩), .int .i64 n1, .int .i64 n2] w (Ret fun v w' =>  v = .bool (earlyO fi fo n1 n2) ∧ Ext w w') := by
 refine enter 55 Tryd.func31 rfl rfl rfl fun f0 ha => ?_
 have H := HI.start (M0 := M) (w := w) hM
 have H0 := H.put (it := imm (.slice a_fi fi.length c_fi) fi) rfl (by rw [MS_nil]; exact h_fi)
 have H1 := H0.put (it := imm (.slice a_fo fo.length c_fo) fo) rfl (by rw [MS_cons_none rfl, MS_nil]; exact h_fo)
 have ln_fi := rv_len h_fi
 have ln_fo := rv_len h_fo
 have H2 := H1.put (it := ro b_a #[.slice a_fv n_fv c_fv, .slice a_fi fi.length c_fi, .slice a_fo fo.length c_fo, .slice a_stp n_stp c_stp, .slice a_pl n_pl c_pl] ty_a) rfl (by rw [MS_cons_none rfl, MS_cons_none rfl, MS_nil]; exact h_a)
 have i0 : f0 0 = pV b_a 0 := ha 0 (by simp)
 have i1 : f0 1 = iV n1 := ha 1 (by simp)
 have i2 : f0 2 = iV n2 := ha 2 (by simp)
 refine sq (rg (k (asg (v := .bool false) rfl rfl (z (nx (sq ?_))))))
 rcases Bool.eq_false_or_eq_true (!(([n1, n2] : List Int).any (outO fi))) with b0 | b0
 · -- !(([n1, n2] : List Int).any (outO fi)) is True
  obtain ⟨x0, hx0⟩ : ∃ x, fo[n1.toNat]? = some x := ⟨_, List.getElem?_eq_getElem (by have h_ := ok_rng (fi := fi) (fr := n1) (to := n2) (by assumption); omega)⟩
  rcases Bool.eq_false_or_eq_true (decide (x0 = (-1))) with b1 | b1
  · -- decide (x0 = (-1)) is True
   have p1 := of_decide_eq_true b1
   obtain ⟨x2, hx2⟩ : ∃ x, fi[n2.toNat]? = some x := ⟨_, List.getElem?_eq_getElem (by have h_ := ok_rng (fi := fi) (fr := n1) (to := n2) (by assumption); omega)⟩
   rcases Bool.eq_false_or_eq_true (x2.2.2.1) with b2 | b2
   · -- x2.2.2.1 is True
    obtain ⟨x6, hx6⟩ : ∃ x, fi[n1.toNat]? = some x := ⟨_, List.getElem?_eq_getElem (by have h_ := ok_rng (fi := fi) (fr := n1) (to := n2) (by assumption); omega)⟩
    refine dr 46 [eV (pV b_a 0), eV (iV n1), eV (iV n2), fun (v : Value) (w' : World) => ∃ (a3 : Option Addr) (c3 : Nat), v = .slice a3 ([n1, n2] : List Int).length c3 ∧ RV (MS M [ro b_a #[.slice a_fv n_fv c_fv, .slice a_fi fi.length c_fi, .slice a_fo fo.length c_fo, .slice a_stp n_stp c_stp, .slice a_pl n_pl c_pl] ty_a, imm (.slice a_fo fo.length c_fo) fo, imm (.slice a_fi fi.length c_fi) fi]) w' (.slice a3 ([n1, n2] : List Int).length c3) ([n1, n2] : List Int), eV (.bool (!(([n1, n2] : List Int).any (outO fi)))), eV (.bool (!(([n1, n2] : List Int).any (outO fi)))), eV (pV b_a 0), eV (pV b_a 0), eV (pV b_a 0), eV (pV b_a 2), eV (.slice a_fo fo.length c_fo), eV (iV n1), fun (v : Value) (w' : World) => ∃ (ad3 : Addr), v = .pointer (some ad3) ∧ At (MS M [ro b_a #[.slice a_fv n_fv c_fv, .slice a_fi fi.length c_fi, .slice a_fo fo.length c_fo, .slice a_stp n_stp c_stp, .slice a_pl n_pl c_pl] ty_a, imm (.slice a_fo fo.length c_fo) fo, imm (.slice a_fi fi.length c_fi) fi]) w' ad3 x0, fun (v : Value) (w' : World) => v = iV x0 ∧ I64 (x0), eV (.bool (decide (x0 = (-1)))), eV (.bool (decide (x0 = (-1)))), eV (.bool (decide (x0 = (-1)))), eV (pV b_a 0), eV (pV b_a 0), eV (pV b_a 0), eV (pV b_a 1), eV (.slice a_fi fi.length c_fi), eV (iV n2), fun (v : Value) (w' : World) => ∃ (ad4 : Addr), v = .pointer (some ad4) ∧ At (MS M [ro b_a #[.slice a_fv n_fv c_fv, .slice a_fi fi.length c_fi, .slice a_fo fo.length c_fo, .slice a_stp n_stp c_stp, .slice a_pl n_pl c_pl] ty_a, imm (.slice a_fo fo.length c_fo) fo, imm (.slice a_fi fi.length c_fi) fi]) w' ad4 x2, fun (v : Value) (w' : World) => ∃ (ad4 : Addr), v = .pointer (some ((ad4).add 2)) ∧ At (MS M [ro b_a #[.slice a_fv n_fv c_fv, .slice a_fi fi.length c_fi, .slice a_fo fo.length c_fo, .slice a_stp n_stp c_stp, .slice a_pl n_pl c_pl] ty_a, imm (.slice a_fo fo.length c_fo) fo, imm (.slice a_fi fi.length c_fi) fi]) w' ad4 x2, eV (.bool x2.2.2.1), eV (.bool x2.2.2.1), eV (.bool x2.2.2.1), eV (pV b_a 0), eV (pV b_a 0), eV (pV b_a 0), eV (pV b_a 1), eV (.slice a_fi fi.length c_fi), eV (iV n2), fun (v : Value) (w' : World) => ∃ (ad5 : Addr), v = .pointer (some ad5) ∧ At (MS M [ro b_a #[.slice a_fv n_fv c_fv, .slice a_fi fi.length c_fi, .slice a_fo fo.length c_fo, .slice a_stp n_stp c_stp, .slice a_pl n_pl c_pl] ty_a, imm (.slice a_fo fo.length c_fo) fo, imm (.slice a_fi fi.length c_fi) fi]) w' ad5 x2, fun (v : Value) (w' : World) => ∃ (ad5 : Addr), v = .pointer (some ((ad5).add 3)) ∧ At (MS M [ro b_a #[.slice a_fv n_fv c_fv, .slice a_fi fi.length c_fi, .slice a_fo fo.length c_fo, .slice a_stp n_stp c_stp, .slice a_pl n_pl c_pl] ty_a, imm (.slice a_fo fo.length c_fo) fo, imm (.slice a_fi fi.length c_fi) fi]) w' ad5 x2, fun (v : Value) (w' : World) => v = iV x2.2.2.2.1 ∧ I64 (x2.2.2.2.1), eV (pV b_a 0), eV (pV b_a 0), eV (pV b_a 0), eV (pV b_a 1), eV (.slice a_fi fi.length c_fi), eV (iV n1), fun (v : Value) (w' : World) => ∃ (ad6 : Addr), v = .pointer (some ad6) ∧ At (MS M [ro b_a #[.slice a_fv n_fv c_fv, .slice a_fi fi.length c_fi, .slice a_fo fo.length c_fo, .slice a_stp n_stp c_stp, .slice a_pl n_pl c_pl] ty_a, imm (.slice a_fo fo.length c_fo) fo, imm (.slice a_fi fi.length c_fi) fi]) w' ad6 x6, fun (v : Value) (w' : World) => ∃ (ad6 : Addr), v = .pointer (some ((ad6).add 3)) ∧ At (MS M [ro b_a #[.slice a_fv n_fv c_fv, .slice a_fi fi.length c_fi, .slice a_fo fo.length c_fo, .slice a_stp n_stp c_stp, .slice a_pl n_pl c_pl] ty_a, imm (.slice a_fo fo.length c_fo) fo, imm (.slice a_fi fi.length c_fi) fi]) w' ad6 x6, fun (v : Value) (w' : World) => v = iV x6.2.2.2.1 ∧ I64 (x6.2.2.2.1)] rfl (by kernel_rfl) ?_ ?_
    ·
     refine dc (fun _ _ hf0 _ _ => mv rfl ((hf0 0 rfl).trans i0) (d0 rfl rfl)) ?_
     refine dc (fun _ _ hf1 _ _ => mv rfl ((hf1 1 rfl).trans i1) (d0 rfl rfl)) ?_
     refine dc (fun _ _ hf2 _ _ => mv rfl ((hf2 2 rfl).trans i2) (d0 rfl rfl)) ?_
     refine ⟨fun _ => ⟨fun f3 w11 hf3 xt11 hp3 => ?_, by rintro _ _ _ x_ ⟨a3, c3, e_, rv5⟩; exact ⟨a3, c3, e_, rv5.lift (Up.ext x_)⟩⟩, ?_⟩
     ·
      have H18 := H2.ext xt11
      have s0 : f3 8 = iV n1 := hp3 1 rfl rfl
      have s1 : f3 9 = iV n2 := hp3 2 rfl rfl
      refine bs (xs := ([n1, n2] : List Int)) (cells := #[iV n1, iV n2]) (e := 3) H18 rfl (pbc s0 (pbc s1 pb0)) (fun _ => by kernel_rfl) ⟨[iV n1], [iV n2], rfl, ⟨rfl, (show I64 (n1) from (by first | assumption | (unfold I64 at *; omega)))⟩, ⟨[iV n2], [], rfl, ⟨rfl, (show I64 (n2) from (by first | assumption | (unfold I64 at *; omega)))⟩, rfl⟩⟩ rfl (by unfold maxLen; omega) ?_
      intro g4 w12 xt12 (H19 : HI M w w12 [own w.heap.size 3 (.slice (some ⟨g4, 0, none⟩) 2 2) ([n1, n2] : List Int), ro b_a #[.slice a_fv n_fv c_fv, .slice a_fi fi.length c_fi, .slice a_fo fo.length c_fo, .slice a_stp n_stp c_stp, .slice a_pl n_pl c_pl] ty_a, imm (.slice a_fo fo.length c_fo) fo, imm (.slice a_fi fi.length c_fi) fi])
      have H20 := H19.freeze 0 rfl
      exact ⟨_, rfl, xt12, ⟨(some ⟨g4, 0, none⟩), 2, rfl, (rv_drop rfl (H20.rv 0 rfl))⟩⟩
     refine dc (fun f4 w13 hf4 xt13 hp4 => ?_) ?_
     ·
      have H21 := H2.ext xt13
      have s2 : f4 7 = pV b_a 0 := hp4 0 rfl rfl
      obtain ⟨a4, c4, s3, rv9⟩ : ∃ (a4 : Option Addr) (c4 : Nat), f4 10 = .slice a4 ([n1, n2] : List Int).length c4 ∧ RV (MS M [ro b_a #[.slice a_fv n_fv c_fv, .slice a_fi fi.length c_fi, .slice a_fo fo.length c_fo, .slice a_stp n_stp c_stp, .slice a_pl n_pl c_pl] ty_a, imm (.slice a_fo fo.length c_fo) fo, imm (.slice a_fi fi.length c_fi) fi]) w13 (.slice a4 ([n1, n2] : List Int).length c4) ([n1, n2] : List Int) := hp4 3 rfl rfl
      have H22 := H21.put (it := imm (.slice a4 ([n1, n2] : List Int).length c4) ([n1, n2] : List Int)) rfl rv9
      have cc4 := aud_op (fi := fi) (l := ([n1, n2] : List Int)) (a_fv := a_fv) (n_fv := n_fv) (c_fv := c_fv) (a_fo := a_fo) (n_fo := fo.length) (c_fo := c_fo) (a_stp := a_stp) (n_stp := n_stp) (c_stp := c_stp) (a_pl := a_pl) (n_pl := n_pl) (c_pl := c_pl) (w := w13) H22.mb (H22.rv 3 rfl) (H22.rv 0 rfl) (H22.at_ 1 rfl)
      refine ca go28 rfl (ec s2 (ec s3 e0)) cc4 ?_
      rintro _ w14 ⟨rfl, xt14⟩
      exact ⟨_, rfl, xt14, rfl⟩
     refine dc (fun _ _ _ _ hp5 => mv rfl (hp5 4 rfl rfl) (d0 rfl rfl)) ?_
     refine dc (fun f6 w16 hf6 xt16 hp6 => ?_) ?_
     ·
      have s5 : f6 12 = .bool (!(([n1, n2] : List Int).any (outO fi))) := hp6 5 rfl rfl
      refine gy rfl rfl s5 b0 (mv rfl ((hf6 0 rfl).trans i0) ?_)
      exact ⟨_, rfl, Ext.refl _, rfl⟩
     refine dc (fun f7 w17 hf7 xt17 hp7 => ?_) ?_
     ·
      have s6 : f7 12 = .bool (!(([n1, n2] : List Int).any (outO fi))) := hp7 5 rfl rfl
      have s7 : f7 13 = pV b_a 0 := hp7 6 rfl rfl
      refine gy rfl rfl s6 b0 (nc rfl s7 ?_)
      exact ⟨_, rfl, Ext.refl _, rfl⟩
     refine dc (fun f8 w18 hf8 xt18 hp8 => ?_) ?_
     ·
      have s8 : f8 12 = .bool (!(([n1, n2] : List Int).any (outO fi))) := hp8 5 rfl rfl
      have s9 : f8 14 = pV b_a 0 := hp8 7 rfl rfl
      refine gy rfl rfl s8 b0 (fa fl54_0 rfl s9 ?_)
      exact ⟨_, rfl, Ext.refl _, rfl⟩
     refine dc (fun f9 w19 hf9 xt19 hp9 => ?_) ?_
     ·
      have s10 : f9 12 = .bool (!(([n1, n2] : List Int).any (outO fi))) := hp9 5 rfl rfl
      have s11 : f9 15 = pV b_a 0 := hp9 8 rfl rfl
      refine gy rfl rfl s10 b0 (fa fl30_2 rfl s11 ?_)
      exact ⟨_, rfl, Ext.refl _, rfl⟩
     refine dc (fun f10 w20 hf10 xt20 hp10 => ?_) ?_
     ·
      have H29 := H2.ext xt20
      have s12 : f10 12 = .bool (!(([n1, n2] : List Int).any (outO fi))) := hp10 5 rfl rfl
      have s13 : f10 16 = pV b_a 2 := hp10 9 rfl rfl
      refine gy rfl rfl s12 b0 (ldR H29 0 rfl ty28 rfl s13 (by decide) rfl ?_)
      exact ⟨_, rfl, Ext.refl _, rfl⟩
     refine dc (fun f11 w21 hf11 xt21 hp11 => ?_) ?_
     ·
      have s14 : f11 12 = .bool (!(([n1, n2] : List Int).any (outO fi))) := hp11 5 rfl rfl
      refine gy rfl rfl s14 b0 (mv rfl ((hf11 1 rfl).trans i1) ?_)
      exact ⟨_, rfl, Ext.refl _, rfl⟩
     refine ⟨fun _ => ⟨fun f12 w22 hf12 xt22 hp12 => ?_, by rintro _ _ _ x_ ⟨ad3, e_, hA3⟩; exact ⟨ad3, e_, hA3.lift (Up.ext x_)⟩⟩, ?_⟩
     ·
      have H31 := H2.ext xt22
      have s15 : f12 12 = .bool (!(([n1, n2] : List Int).any (outO fi))) := hp12 5 rfl rfl
      have s16 : f12 17 = .slice a_fo fo.length c_fo := hp12 10 rfl rfl
      have s17 : f12 18 = iV n1 := hp12 11 rfl rfl
      refine gy rfl rfl s15 b0 (ia (H31.rv 1 rfl) rfl rfl s16 s17 (by have h_ := ok_rng (fi := fi) (fr := n1) (to := n2) (by assumption); omega) un28 ty3 ?_)
      intro ad7 x7 hx7 hA7
      obtain rfl : x0 = x7 := Option.some.inj (hx0.symm.trans hx7)
      exact ⟨_, rfl, Ext.refl _, ⟨ad7, rfl, hA7⟩⟩
     refine dc (fun f13 w23 hf13 xt23 hp13 => ?_) ?_
     ·
      have H32 := H2.ext xt23
      have s18 : f13 12 = .bool (!(([n1, n2] : List Int).any (outO fi))) := hp13 5 rfl rfl
      obtain ⟨ad8, s19, hA8⟩ : ∃ (ad8 : Addr), f13 19 = .pointer (some ad8) ∧ At (MS M [ro b_a #[.slice a_fv n_fv c_fv, .slice a_fi fi.length c_fi, .slice a_fo fo.length c_fo, .slice a_stp n_stp c_stp, .slice a_pl n_pl c_pl] ty_a, imm (.slice a_fo fo.length c_fo) fo, imm (.slice a_fi fi.length c_fi) fi]) w23 ad8 x0 := hp13 12 rfl rfl
      have H33 := H32.put (it := atI ad8 x0) rfl hA8
      refine gy rfl rfl s18 b0 (ldI (H33.atv 0 rfl).w ty3 rfl s19 ?_)
      intro rv10
      exact ⟨_, rfl, Ext.refl _, ⟨rfl, rv10⟩⟩
     refine dc (fun f14 w24 hf14 xt24 hp14 => ?_) ?_
     ·
      have s20 : f14 12 = .bool (!(([n1, n2] : List Int).any (outO fi))) := hp14 5 rfl rfl
      obtain ⟨s21, rv11⟩ : f14 20 = iV x0 ∧ I64 (x0) := hp14 13 rfl rfl
      refine gy rfl rfl s20 b0 (eql rfl rfl s21 rfl ?_)
      exact ⟨_, rfl, Ext.refl _, rfl⟩
     refine dc (fun _ _ _ _ hp15 => pickT rfl rfl rfl (hp15 5 rfl rfl) b0 (hp15 14 rfl rfl) (d0 rfl rfl)) ?_
     refine dc (fun _ _ _ _ hp16 => mv rfl (hp16 15 rfl rfl) (d0 rfl rfl)) ?_
     refine dc (fun f17 w27 hf17 xt27 hp17 => ?_) ?_
     ·
      have s25 : f17 23 = .bool (decide (x0 = (-1))) := hp17 16 rfl rfl
      refine gy rfl rfl s25 b1 (mv rfl ((hf17 0 rfl).trans i0) ?_)
      exact ⟨_, rfl, Ext.refl _, rfl⟩
     refine dc (fun f18 w28 hf18 xt28 hp18 => ?_) ?_
     ·
      have s26 : f18 23 = .bool (decide (x0 = (-1))) := hp18 16 rfl rfl
      have s27 : f18 24 = pV b_a 0 := hp18 17 rfl rfl
      refine gy rfl rfl s26 b1 (nc rfl s27 ?_)
      exact ⟨_, rfl, Ext.refl _, rfl⟩
     refine dc (fun f19 w29 hf19 xt29 hp19 => ?_) ?_
     ·
      have s28 : f19 23 = .bool (decide (x0 = (-1))) := hp19 16 rfl rfl
      have s29 : f19 25 = pV b_a 0 := hp19 18 rfl rfl
      refine gy rfl rfl s28 b1 (fa fl54_0 rfl s29 ?_)
      exact ⟨_, rfl, Ext.refl _, rfl⟩
     refine dc (fun f20 w30 hf20 xt30 hp20 => ?_) ?_
     ·
      have s30 : f20 23 = .bool (decide (x0 = (-1))) := hp20 16 rfl rfl
      have s31 : f20 26 = pV b_a 0 := hp20 19 rfl rfl
      refine gy rfl rfl s30 b1 (fa fl30_1 rfl s31 ?_)
      exact ⟨_, rfl, Ext.refl _, rfl⟩
     refine dc (fun f21 w31 hf21 xt31 hp21 => ?_) ?_
     ·
      have H41 := H2.ext xt31
      have s32 : f21 23 = .bool (decide (x0 = (-1))) := hp21 16 rfl rfl
      have s33 : f21 27 = pV b_a 1 := hp21 20 rfl rfl
      refine gy rfl rfl s32 b1 (ldR H41 0 rfl ty27 rfl s33 (by decide) rfl ?_)
      exact ⟨_, rfl, Ext.refl _, rfl⟩
     refine dc (fun f22 w32 hf22 xt32 hp22 => ?_) ?_
     ·
      have s34 : f22 23 = .bool (decide (x0 = (-1))) := hp22 16 rfl rfl
      refine gy rfl rfl s34 b1 (mv rfl ((hf22 2 rfl).trans i2) ?_)
      exact ⟨_, rfl, Ext.refl _, rfl⟩
     refine ⟨fun _ => ⟨fun f23 w33 hf23 xt33 hp23 => ?_, by rintro _ _ _ x_ ⟨ad4, e_, hA4⟩; exact ⟨ad4, e_, hA4.lift (Up.ext x_)⟩⟩, ?_⟩
     ·
      have H43 := H2.ext xt33
      have s35 : f23 23 = .bool (decide (x0 = (-1))) := hp23 16 rfl rfl
      have s36 : f23 28 = .slice a_fi fi.length c_fi := hp23 21 rfl rfl
      have s37 : f23 29 = iV n2 := hp23 22 rfl rfl
      refine gy rfl rfl s35 b1 (ia (H43.rv 2 rfl) rfl rfl s36 s37 (by have h_ := ok_rng (fi := fi) (fr := n1) (to := n2) (by assumption); omega) un27 ty65 ?_)
      intro ad9 x8 hx8 hA9
      obtain rfl : x2 = x8 := Option.some.inj (hx2.symm.trans hx8)
      exact ⟨_, rfl, Ext.refl _, ⟨ad9, rfl, hA9⟩⟩
     refine ⟨fun _ => ⟨fun f24 w34 hf24 xt34 hp24 => ?_, by rintro _ _ _ x_ ⟨ad4, e_, hA4⟩; exact ⟨ad4, e_, hA4.lift (Up.ext x_)⟩⟩, ?_⟩
     ·
      have s38 : f24 23 = .bool (decide (x0 = (-1))) := hp24 16 rfl rfl
      obtain ⟨ad10, s39, hA10⟩ : ∃ (ad10 : Addr), f24 30 = .pointer (some ad10) ∧ At (MS M [ro b_a #[.slice a_fv n_fv c_fv, .slice a_fi fi.length c_fi, .slice a_fo fo.length c_fo, .slice a_stp n_stp c_stp, .slice a_pl n_pl c_pl] ty_a, imm (.slice a_fo fo.length c_fo) fo, imm (.slice a_fi fi.length c_fi) fi]) w34 ad10 x2 := hp24 23 rfl rfl
      refine gy rfl rfl s38 b1 (fa fl65_2 rfl s39 ?_)
      exact ⟨_, rfl, Ext.refl _, ⟨ad10, rfl, (by assumption)⟩⟩
     refine dc (fun f25 w35 hf25 xt35 hp25 => ?_) ?_
     ·
      have H46 := H2.ext xt35
      have s40 : f25 23 = .bool (decide (x0 = (-1))) := hp25 16 rfl rfl
      obtain ⟨ad11, s41, hA11⟩ : ∃ (ad11 : Addr), f25 31 = .pointer (some ((ad11).add 2)) ∧ At (MS M [ro b_a #[.slice a_fv n_fv c_fv, .slice a_fi fi.length c_fi, .slice a_fo fo.length c_fo, .slice a_stp n_stp c_stp, .slice a_pl n_pl c_pl] ty_a, imm (.slice a_fo fo.length c_fo) fo, imm (.slice a_fi fi.length c_fi) fi]) w35 ad11 x2 := hp25 24 rfl rfl
      have H47 := H46.put (it := atI ad11 x2) rfl hA11
      refine gy rfl rfl s40 b1 (ldB (((H47.atv 0 rfl)).s2).fst.w ty4 rfl s41 ?_)
      exact ⟨_, rfl, Ext.refl _, rfl⟩
     refine dc (fun _ _ _ _ hp26 => pickT rfl rfl rfl (hp26 16 rfl rfl) b1 (hp26 25 rfl rfl) (d0 rfl rfl)) ?_
     refine dc (fun _ _ _ _ hp27 => mv rfl (hp27 26 rfl rfl) (d0 rfl rfl)) ?_
     refine dc (fun f28 w38 hf28 xt38 hp28 => ?_) ?_
     ·
      have s45 : f28 34 = .bool x2.2.2.1 := hp28 27 rfl rfl
      refine gy rfl rfl s45 b2 (mv rfl ((hf28 0 rfl).trans i0) ?_)
      exact ⟨_, rfl, Ext.refl _, rfl⟩
     refine dc (fun f29 w39 hf29 xt39 hp29 => ?_) ?_
     ·
      have s46 : f29 34 = .bool x2.2.2.1 := hp29 27 rfl rfl
      have s47 : f29 35 = pV b_a 0 := hp29 28 rfl rfl
      refine gy rfl rfl s46 b2 (nc rfl s47 ?_)
      exact ⟨_, rfl, Ext.refl _, rfl⟩
     refine dc (fun f30 w40 hf30 xt40 hp30 => ?_) ?_
     ·
      have s48 : f30 34 = .bool x2.2.2.1 := hp30 27 rfl rfl
      have s49 : f30 36 = pV b_a 0 := hp30 29 rfl rfl
      refine gy rfl rfl s48 b2 (fa fl54_0 rfl s49 ?_)
      exact ⟨_, rfl, Ext.refl _, rfl⟩
     refine dc (fun f31 w41 hf31 xt41 hp31 => ?_) ?_
     ·
      have s50 : f31 34 = .bool x2.2.2.1 := hp31 27 rfl rfl
      have s51 : f31 37 = pV b_a 0 := hp31 30 rfl rfl
      refine gy rfl rfl s50 b2 (fa fl30_1 rfl s51 ?_)
      exact ⟨_, rfl, Ext.refl _, rfl⟩
     refine dc (fun f32 w42 hf32 xt42 hp32 => ?_) ?_
     ·
      have H54 := H2.ext xt42
      have s52 : f32 34 = .bool x2.2.2.1 := hp32 27 rfl rfl
      have s53 : f32 38 = pV b_a 1 := hp32 31 rfl rfl
      refine gy rfl rfl s52 b2 (ldR H54 0 rfl ty27 rfl s53 (by decide) rfl ?_)
      exact ⟨_, rfl, Ext.refl _, rfl⟩
     refine dc (fun f33 w43 hf33 xt43 hp33 => ?_) ?_
     ·
      have s54 : f33 34 = .bool x2.2.2.1 := hp33 27 rfl rfl
      refine gy rfl rfl s54 b2 (mv rfl ((hf33 2 rfl).trans i2) ?_)
      exact ⟨_, rfl, Ext.refl _, rfl⟩
     refine ⟨fun _ => ⟨fun f34 w44 hf34 xt44 hp34 => ?_, by rintro _ _ _ x_ ⟨ad5, e_, hA5⟩; exact ⟨ad5, e_, hA5.lift (Up.ext x_)⟩⟩, ?_⟩
     ·
      have H56 := H2.ext xt44
      have s55 : f34 34 = .bool x2.2.2.1 := hp34 27 rfl rfl
      have s56 : f34 39 = .slice a_fi fi.length c_fi := hp34 32 rfl rfl
      have s57 : f34 40 = iV n2 := hp34 33 rfl rfl
      refine gy rfl rfl s55 b2 (ia (H56.rv 2 rfl) rfl rfl s56 s57 (by have h_ := ok_rng (fi := fi) (fr := n1) (to := n2) (by assumption); omega) un27 ty65 ?_)
      intro ad12 x9 hx9 hA12
      obtain rfl : x2 = x9 := Option.some.inj (hx2.symm.trans hx9)
      exact ⟨_, rfl, Ext.refl _, ⟨ad12, rfl, hA12⟩⟩
     refine ⟨fun _ => ⟨fun f35 w45 hf35 xt45 hp35 => ?_, by rintro _ _ _ x_ ⟨ad5, e_, hA5⟩; exact ⟨ad5, e_, hA5.lift (Up.ext x_)⟩⟩, ?_⟩
     ·
      have s58 : f35 34 = .bool x2.2.2.1 := hp35 27 rfl rfl
      obtain ⟨ad13, s59, hA13⟩ : ∃ (ad13 : Addr), f35 41 = .pointer (some ad13) ∧ At (MS M [ro b_a #[.slice a_fv n_fv c_fv, .slice a_fi fi.length c_fi, .slice a_fo fo.length c_fo, .slice a_stp n_stp c_stp, .slice a_pl n_pl c_pl] ty_a, imm (.slice a_fo fo.length c_fo) fo, imm (.slice a_fi fi.length c_fi) fi]) w45 ad13 x2 := hp35 34 rfl rfl
      refine gy rfl rfl s58 b2 (fa fl65_3 rfl s59 ?_)
      exact ⟨_, rfl, Ext.refl _, ⟨ad13, rfl, (by assumption)⟩⟩
     refine dc (fun f36 w46 hf36 xt46 hp36 => ?_) ?_
     ·
      have H59 := H2.ext xt46
      have s60 : f36 34 = .bool x2.2.2.1 := hp36 27 rfl rfl
      obtain ⟨ad14, s61, hA14⟩ : ∃ (ad14 : Addr), f36 42 = .pointer (some ((ad14).add 3)) ∧ At (MS M [ro b_a #[.slice a_fv n_fv c_fv, .slice a_fi fi.length c_fi, .slice a_fo fo.length c_fo, .slice a_stp n_stp c_stp, .slice a_pl n_pl c_pl] ty_a, imm (.slice a_fo fo.length c_fo) fo, imm (.slice a_fi fi.length c_fi) fi]) w46 ad14 x2 := hp36 35 rfl rfl
      have H60 := H59.put (it := atI ad14 x2) rfl hA14
      refine gy rfl rfl s60 b2 (ldI (((H60.atv 0 rfl)).s3).fst.w ty3 rfl s61 ?_)
      intro rv12
      exact ⟨_, rfl, Ext.refl _, ⟨rfl, rv12⟩⟩
     refine dc (fun f37 w47 hf37 xt47 hp37 => ?_) ?_
     ·
      have s62 : f37 34 = .bool x2.2.2.1 := hp37 27 rfl rfl
      refine gy rfl rfl s62 b2 (mv rfl ((hf37 0 rfl).trans i0) ?_)
      exact ⟨_, rfl, Ext.refl _, rfl⟩
     refine dc (fun f38 w48 hf38 xt48 hp38 => ?_) ?_
     ·
      have s63 : f38 34 = .bool x2.2.2.1 := hp38 27 rfl rfl
      have s64 : f38 44 = pV b_a 0 := hp38 37 rfl rfl
      refine gy rfl rfl s63 b2 (nc rfl s64 ?_)
      exact ⟨_, rfl, Ext.refl _, rfl⟩
     refine dc (fun f39 w49 hf39 xt49 hp39 => ?_) ?_
     ·
      have s65 : f39 34 = .bool x2.2.2.1 := hp39 27 rfl rfl
      have s66 : f39 45 = pV b_a 0 := hp39 38 rfl rfl
      refine gy rfl rfl s65 b2 (fa fl54_0 rfl s66 ?_)
      exact ⟨_, rfl, Ext.refl _, rfl⟩
     refine dc (fun f40 w50 hf40 xt50 hp40 => ?_) ?_
     ·
      have s67 : f40 34 = .bool x2.2.2.1 := hp40 27 rfl rfl
      have s68 : f40 46 = pV b_a 0 := hp40 39 rfl rfl
      refine gy rfl rfl s67 b2 (fa fl30_1 rfl s68 ?_)
      exact ⟨_, rfl, Ext.refl _, rfl⟩
     refine dc (fun f41 w51 hf41 xt51 hp41 => ?_) ?_
     ·
      have H65 := H2.ext xt51
      have s69 : f41 34 = .bool x2.2.2.1 := hp41 27 rfl rfl
      have s70 : f41 47 = pV b_a 1 := hp41 40 rfl rfl
      refine gy rfl rfl s69 b2 (ldR H65 0 rfl ty27 rfl s70 (by decide) rfl ?_)
      exact ⟨_, rfl, Ext.refl _, rfl⟩
     refine dc (fun f42 w52 hf42 xt52 hp42 => ?_) ?_
     ·
      have s71 : f42 34 = .bool x2.2.2.1 := hp42 27 rfl rfl
      refine gy rfl rfl s71 b2 (mv rfl ((hf42 1 rfl).trans i1) ?_)
      exact ⟨_, rfl, Ext.refl _, rfl⟩
     refine ⟨fun _ => ⟨fun f43 w53 hf43 xt53 hp43 => ?_, by rintro _ _ _ x_ ⟨ad6, e_, hA6⟩; exact ⟨ad6, e_, hA6.lift (Up.ext x_)⟩⟩, ?_⟩
     ·
      have H67 := H2.ext xt53
      have s72 : f43 34 = .bool x2.2.2.1 := hp43 27 rfl rfl
      have s73 : f43 48 = .slice a_fi fi.length c_fi := hp43 41 rfl rfl
      have s74 : f43 49 = iV n1 := hp43 42 rfl rfl
      refine gy rfl rfl s72 b2 (ia (H67.rv 2 rfl) rfl rfl s73 s74 (by have h_ := ok_rng (fi := fi) (fr := n1) (to := n2) (by assumption); omega) un27 ty65 ?_)
      intro ad15 x10 hx10 hA15
      obtain rfl : x6 = x10 := Option.some.inj (hx6.symm.trans hx10)
      exact ⟨_, rfl, Ext.refl _, ⟨ad15, rfl, hA15⟩⟩
     refine ⟨fun _ => ⟨fun f44 w54 hf44 xt54 hp44 => ?_, by rintro _ _ _ x_ ⟨ad6, e_, hA6⟩; exact ⟨ad6, e_, hA6.lift (Up.ext x_)⟩⟩, ?_⟩
     ·
      have s75 : f44 34 = .bool x2.2.2.1 := hp44 27 rfl rfl
      obtain ⟨ad16, s76, hA16⟩ : ∃ (ad16 : Addr), f44 50 = .pointer (some ad16) ∧ At (MS M [ro b_a #[.slice a_fv n_fv c_fv, .slice a_fi fi.length c_fi, .slice a_fo fo.length c_fo, .slice a_stp n_stp c_stp, .slice a_pl n_pl c_pl] ty_a, imm (.slice a_fo fo.length c_fo) fo, imm (.slice a_fi fi.length c_fi) fi]) w54 ad16 x6 := hp44 43 rfl rfl
      refine gy rfl rfl s75 b2 (fa fl65_3 rfl s76 ?_)
      exact ⟨_, rfl, Ext.refl _, ⟨ad16, rfl, (by assumption)⟩⟩
     refine dc (fun f45 w55 hf45 xt55 hp45 => ?_) ?_
     ·
      have H70 := H2.ext xt55
      have s77 : f45 34 = .bool x2.2.2.1 := hp45 27 rfl rfl
      obtain ⟨ad17, s78, hA17⟩ : ∃ (ad17 : Addr), f45 51 = .pointer (some ((ad17).add 3)) ∧ At (MS M [ro b_a #[.slice a_fv n_fv c_fv, .slice a_fi fi.length c_fi, .slice a_fo fo.length c_fo, .slice a_stp n_stp c_stp, .slice a_pl n_pl c_pl] ty_a, imm (.slice a_fo fo.length c_fo) fo, imm (.slice a_fi fi.length c_fi) fi]) w55 ad17 x6 := hp45 44 rfl rfl
      have H71 := H70.put (it := atI ad17 x6) rfl hA17
      refine gy rfl rfl s77 b2 (ldI (((H71.atv 0 rfl)).s3).fst.w ty3 rfl s78 ?_)
      intro rv13
      exact ⟨_, rfl, Ext.refl _, ⟨rfl, rv13⟩⟩
     exact DSteps.rest rfl _
    ·
     intro f46 w56 hf46 xt56 hp46
     have H72 := H2.ext xt56
     have s79 : f46 34 = .bool x2.2.2.1 := hp46 27 rfl
     obtain ⟨s80, rv14⟩ : f46 43 = iV x2.2.2.2.1 ∧ I64 (x2.2.2.2.1) := hp46 36 rfl
     obtain ⟨s81, rv15⟩ : f46 52 = iV x6.2.2.2.1 ∧ I64 (x6.2.2.2.1) := hp46 45 rfl
     refine k (gy rfl rfl s79 b2 (eql rfl rfl s80 s81 (k (pickT rfl rfl rfl s79 b2 rfl (k (asg (v := .bool (decide (x2.2.2.2.1 = x6.2.2.2.1))) rfl rfl (z (nx (rt (r1 rfl rfl ?_))))))))))
     have e0 : (decide (x2.2.2.2.1 = x6.2.2.2.1) : Bool) = earlyO fi fo n1 n2 := by simp only [earlyO, wrQ, vrO, List.getD_eq_getElem?_getD, hx0, hx2, hx6, Option.getD_some, Option.map_some, b0, (nott b0), b1, b2, BL, cond_true, cond_false]
     have ev_ := cg1 (fun (x_0 : Bool) => (.bool x_0 : Value)) e0
     exact ⟨ev_, H72.below⟩
   · -- x2.2.2.1 is False
    refine dr 46 [eV (pV b_a 0), eV (iV n1), eV (iV n2), fun (v : Value) (w' : World) => ∃ (a3 : Option Addr) (c3 : Nat), v = .slice a3 ([n1, n2] : List Int).length c3 ∧ RV (MS M [ro b_a #[.slice a_fv n_fv c_fv, .slice a_fi fi.length c_fi, .slice a_fo fo.length c_fo, .slice a_stp n_stp c_stp, .slice a_pl n_pl c_pl] ty_a, imm (.slice a_fo fo.length c_fo) fo, imm (.slice a_fi fi.length c_fi) fi]) w' (.slice a3 ([n1, n2] : List Int).length c3) ([n1, n2] : List Int), eV (.bool (!(([n1, n2] : List Int).any (outO fi)))), eV (.bool (!(([n1, n2] : List Int).any (outO fi)))), eV (pV b_a 0), eV (pV b_a 0), eV (pV b_a 0), eV (pV b_a 2), eV (.slice a_fo fo.length c_fo), eV (iV n1), fun (v : Value) (w' : World) => ∃ (ad3 : Addr), v = .pointer (some ad3) ∧ At (MS M [ro b_a #[.slice a_fv n_fv c_fv, .slice a_fi fi.length c_fi, .slice a_fo fo.length c_fo, .slice a_stp n_stp c_stp, .slice a_pl n_pl c_pl] ty_a, imm (.slice a_fo fo.length c_fo) fo, imm (.slice a_fi fi.length c_fi) fi]) w' ad3 x0, fun (v : Value) (w' : World) => v = iV x0 ∧ I64 (x0), eV (.bool (decide (x0 = (-1)))), eV (.bool (decide (x0 = (-1)))), eV (.bool (decide (x0 = (-1)))), eV (pV b_a 0), eV (pV b_a 0), eV (pV b_a 0), eV (pV b_a 1), eV (.slice a_fi fi.length c_fi), eV (iV n2), fun (v : Value) (w' : World) => ∃ (ad4 : Addr), v = .pointer (some ad4) ∧ At (MS M [ro b_a #[.slice a_fv n_fv c_fv, .slice a_fi fi.length c_fi, .slice a_fo fo.length c_fo, .slice a_stp n_stp c_stp, .slice a_pl n_pl c_pl] ty_a, imm (.slice a_fo fo.length c_fo) fo, imm (.slice a_fi fi.length c_fi) fi]) w' ad4 x2, fun (v : Value) (w' : World) => ∃ (ad4 : Addr), v = .pointer (some ((ad4).add 2)) ∧ At (MS M [ro b_a #[.slice a_fv n_fv c_fv, .slice a_fi fi.length c_fi, .slice a_fo fo.length c_fo, .slice a_stp n_stp c_stp, .slice a_pl n_pl c_pl] ty_a, imm (.slice a_fo fo.length c_fo) fo, imm (.slice a_fi fi.length c_fi) fi]) w' ad4 x2, eV (.bool x2.2.2.1), eV (.bool x2.2.2.1), eV (.bool x2.2.2.1), eV undef, eV undef, eV undef, eV undef, eV undef, eV undef, eV undef, eV undef, eV undef, eV undef, eV undef, eV undef, eV undef, eV undef, eV undef, eV undef, eV undef, eV undef] rfl (by kernel_rfl) ?_ ?_
    ·
     refine dc (fun _ _ hf0 _ _ => mv rfl ((hf0 0 rfl).trans i0) (d0 rfl rfl)) ?_
     refine dc (fun _ _ hf1 _ _ => mv rfl ((hf1 1 rfl).trans i1) (d0 rfl rfl)) ?_
     refine dc (fun _ _ hf2 _ _ => mv rfl ((hf2 2 rfl).trans i2) (d0 rfl rfl)) ?_
     refine ⟨fun _ => ⟨fun f3 w11 hf3 xt11 hp3 => ?_, by rintro _ _ _ x_ ⟨a3, c3, e_, rv5⟩; exact ⟨a3, c3, e_, rv5.lift (Up.ext x_)⟩⟩, ?_⟩
     ·
      have H18 := H2.ext xt11
      have s0 : f3 8 = iV n1 := hp3 1 rfl rfl
      have s1 : f3 9 = iV n2 := hp3 2 rfl rfl
      refine bs (xs := ([n1, n2] : List Int)) (cells := #[iV n1, iV n2]) (e := 3) H18 rfl (pbc s0 (pbc s1 pb0)) (fun _ => by kernel_rfl) ⟨[iV n1], [iV n2], rfl, ⟨rfl, (show I64 (n1) from (by first | assumption | (unfold I64 at *; omega)))⟩, ⟨[iV n2], [], rfl, ⟨rfl, (show I64 (n2) from (by first | assumption | (unfold I64 at *; omega)))⟩, rfl⟩⟩ rfl (by unfold maxLen; omega) ?_
      intro g4 w12 xt12 (H19 : HI M w w12 [own w.heap.size 3 (.slice (some ⟨g4, 0, none⟩) 2 2) ([n1, n2] : List Int), ro b_a #[.slice a_fv n_fv c_fv, .slice a_fi fi.length c_fi, .slice a_fo fo.length c_fo, .slice a_stp n_stp c_stp, .slice a_pl n_pl c_pl] ty_a, imm (.slice a_fo fo.length c_fo) fo, imm (.slice a_fi fi.length c_fi) fi])
      have H20 := H19.freeze 0 rfl
      exact ⟨_, rfl, xt12, ⟨(some ⟨g4, 0, none⟩), 2, rfl, (rv_drop rfl (H20.rv 0 rfl))⟩⟩
     refine dc (fun f4 w13 hf4 xt13 hp4 => ?_) ?_
     ·
      have H21 := H2.ext xt13
      have s2 : f4 7 = pV b_a 0 := hp4 0 rfl rfl
      obtain ⟨a4, c4, s3, rv7⟩ : ∃ (a4 : Option Addr) (c4 : Nat), f4 10 = .slice a4 ([n1, n2] : List Int).length c4 ∧ RV (MS M [ro b_a #[.slice a_fv n_fv c_fv, .slice a_fi fi.length c_fi, .slice a_fo fo.length c_fo, .slice a_stp n_stp c_stp, .slice a_pl n_pl c_pl] ty_a, imm (.slice a_fo fo.length c_fo) fo, imm (.slice a_fi fi.length c_fi) fi]) w13 (.slice a4 ([n1, n2] : List Int).length c4) ([n1, n2] : List Int) := hp4 3 rfl rfl
      have H22 := H21.put (it := imm (.slice a4 ([n1, n2] : List Int).length c4) ([n1, n2] : List Int)) rfl rv7
      have cc4 := aud_op (fi := fi) (l := ([n1, n2] : List Int)) (a_fv := a_fv) (n_fv := n_fv) (c_fv := c_fv) (a_fo := a_fo) (n_fo := fo.length) (c_fo := c_fo) (a_stp := a_stp) (n_stp := n_stp) (c_stp := c_stp) (a_pl := a_pl) (n_pl := n_pl) (c_pl := c_pl) (w := w13) H22.mb (H22.rv 3 rfl) (H22.rv 0 rfl) (H22.at_ 1 rfl)
      refine ca go28 rfl (ec s2 (ec s3 e0)) cc4 ?_
      rintro _ w14 ⟨rfl, xt14⟩
      exact ⟨_, rfl, xt14, rfl⟩
     refine dc (fun _ _ _ _ hp5 => mv rfl (hp5 4 rfl rfl) (d0 rfl rfl)) ?_
     refine dc (fun f6 w16 hf6 xt16 hp6 => ?_) ?_
     ·
      have s5 : f6 12 = .bool (!(([n1, n2] : List Int).any (outO fi))) := hp6 5 rfl rfl
      refine gy rfl rfl s5 b0 (mv rfl ((hf6 0 rfl).trans i0) ?_)
      exact ⟨_, rfl, Ext.refl _, rfl⟩
     refine dc (fun f7 w17 hf7 xt17 hp7 => ?_) ?_
     ·
      have s6 : f7 12 = .bool (!(([n1, n2] : List Int).any (outO fi))) := hp7 5 rfl rfl
      have s7 : f7 13 = pV b_a 0 := hp7 6 rfl rfl
      refine gy rfl rfl s6 b0 (nc rfl s7 ?_)
      exact ⟨_, rfl, Ext.refl _, rfl⟩
     refine dc (fun f8 w18 hf8 xt18 hp8 => ?_) ?_
     ·
      have s8 : f8 12 = .bool (!(([n1, n2] : List Int).any (outO fi))) := hp8 5 rfl rfl
      have s9 : f8 14 = pV b_a 0 := hp8 7 rfl rfl
      refine gy rfl rfl s8 b0 (fa fl54_0 rfl s9 ?_)
      exact ⟨_, rfl, Ext.refl _, rfl⟩
     refine dc (fun f9 w19 hf9 xt19 hp9 => ?_) ?_
     ·
      have s10 : f9 12 = .bool (!(([n1, n2] : List Int).any (outO fi))) := hp9 5 rfl rfl
      have s11 : f9 15 = pV b_a 0 := hp9 8 rfl rfl
      refine gy rfl rfl s10 b0 (fa fl30_2 rfl s11 ?_)
      exact ⟨_, rfl, Ext.refl _, rfl⟩
     refine dc (fun f10 w20 hf10 xt20 hp10 => ?_) ?_
     ·
      have H29 := H2.ext xt20
      have s12 : f10 12 = .bool (!(([n1, n2] : List Int).any (outO fi))) := hp10 5 rfl rfl
      have s13 : f10 16 = pV b_a 2 := hp10 9 rfl rfl
      refine gy rfl rfl s12 b0 (ldR H29 0 rfl ty28 rfl s13 (by decide) rfl ?_)
      exact ⟨_, rfl, Ext.refl _, rfl⟩
     refine dc (fun f11 w21 hf11 xt21 hp11 => ?_) ?_
     ·
      have s14 : f11 12 = .bool (!(([n1, n2] : List Int).any (outO fi))) := hp11 5 rfl rfl
      refine gy rfl rfl s14 b0 (mv rfl ((hf11 1 rfl).trans i1) ?_)
      exact ⟨_, rfl, Ext.refl _, rfl⟩
     refine ⟨fun _ => ⟨fun f12 w22 hf12 xt22 hp12 => ?_, by rintro _ _ _ x_ ⟨ad3, e_, hA3⟩; exact ⟨ad3, e_, hA3.lift (Up.ext x_)⟩⟩, ?_⟩
     ·
      have H31 := H2.ext xt22
      have s15 : f12 12 = .bool (!(([n1, n2] : List Int).any (outO fi))) := hp12 5 rfl rfl
      have s16 : f12 17 = .slice a_fo fo.length c_fo := hp12 10 rfl rfl
      have s17 : f12 18 = iV n1 := hp12 11 rfl rfl
      refine gy rfl rfl s15 b0 (ia (H31.rv 1 rfl) rfl rfl s16 s17 (by have h_ := ok_rng (fi := fi) (fr := n1) (to := n2) (by assumption); omega) un28 ty3 ?_)
      intro ad5 x5 hx5 hA5
      obtain rfl : x0 = x5 := Option.some.inj (hx0.symm.trans hx5)
      exact ⟨_, rfl, Ext.refl _, ⟨ad5, rfl, hA5⟩⟩
     refine dc (fun f13 w23 hf13 xt23 hp13 => ?_) ?_
     ·
      have H32 := H2.ext xt23
      have s18 : f13 12 = .bool (!(([n1, n2] : List Int).any (outO fi))) := hp13 5 rfl rfl
      obtain ⟨ad6, s19, hA6⟩ : ∃ (ad6 : Addr), f13 19 = .pointer (some ad6) ∧ At (MS M [ro b_a #[.slice a_fv n_fv c_fv, .slice a_fi fi.length c_fi, .slice a_fo fo.length c_fo, .slice a_stp n_stp c_stp, .slice a_pl n_pl c_pl] ty_a, imm (.slice a_fo fo.length c_fo) fo, imm (.slice a_fi fi.length c_fi) fi]) w23 ad6 x0 := hp13 12 rfl rfl
      have H33 := H32.put (it := atI ad6 x0) rfl hA6
      refine gy rfl rfl s18 b0 (ldI (H33.atv 0 rfl).w ty3 rfl s19 ?_)
      intro rv8
      exact ⟨_, rfl, Ext.refl _, ⟨rfl, rv8⟩⟩
     refine dc (fun f14 w24 hf14 xt24 hp14 => ?_) ?_
     ·
      have s20 : f14 12 = .bool (!(([n1, n2] : List Int).any (outO fi))) := hp14 5 rfl rfl
      obtain ⟨s21, rv9⟩ : f14 20 = iV x0 ∧ I64 (x0) := hp14 13 rfl rfl
      refine gy rfl rfl s20 b0 (eql rfl rfl s21 rfl ?_)
      exact ⟨_, rfl, Ext.refl _, rfl⟩
     refine dc (fun _ _ _ _ hp15 => pickT rfl rfl rfl (hp15 5 rfl rfl) b0 (hp15 14 rfl rfl) (d0 rfl rfl)) ?_
     refine dc (fun _ _ _ _ hp16 => mv rfl (hp16 15 rfl rfl) (d0 rfl rfl)) ?_
     refine dc (fun f17 w27 hf17 xt27 hp17 => ?_) ?_
     ·
      have s25 : f17 23 = .bool (decide (x0 = (-1))) := hp17 16 rfl rfl
      refine gy rfl rfl s25 b1 (mv rfl ((hf17 0 rfl).trans i0) ?_)
      exact ⟨_, rfl, Ext.refl _, rfl⟩
     refine dc (fun f18 w28 hf18 xt28 hp18 => ?_) ?_
     ·
      have s26 : f18 23 = .bool (decide (x0 = (-1))) := hp18 16 rfl rfl
      have s27 : f18 24 = pV b_a 0 := hp18 17 rfl rfl
      refine gy rfl rfl s26 b1 (nc rfl s27 ?_)
      exact ⟨_, rfl, Ext.refl _, rfl⟩
     refine dc (fun f19 w29 hf19 xt29 hp19 => ?_) ?_
     ·
      have s28 : f19 23 = .bool (decide (x0 = (-1))) := hp19 16 rfl rfl
      have s29 : f19 25 = pV b_a 0 := hp19 18 rfl rfl
      refine gy rfl rfl s28 b1 (fa fl54_0 rfl s29 ?_)
      exact ⟨_, rfl, Ext.refl _, rfl⟩
     refine dc (fun f20 w30 hf20 xt30 hp20 => ?_) ?_
     ·
      have s30 : f20 23 = .bool (decide (x0 = (-1))) := hp20 16 rfl rfl
      have s31 : f20 26 = pV b_a 0 := hp20 19 rfl rfl
      refine gy rfl rfl s30 b1 (fa fl30_1 rfl s31 ?_)
      exact ⟨_, rfl, Ext.refl _, rfl⟩
     refine dc (fun f21 w31 hf21 xt31 hp21 => ?_) ?_
     ·
      have H41 := H2.ext xt31
      have s32 : f21 23 = .bool (decide (x0 = (-1))) := hp21 16 rfl rfl
      have s33 : f21 27 = pV b_a 1 := hp21 20 rfl rfl
      refine gy rfl rfl s32 b1 (ldR H41 0 rfl ty27 rfl s33 (by decide) rfl ?_)
      exact ⟨_, rfl, Ext.refl _, rfl⟩
     refine dc (fun f22 w32 hf22 xt32 hp22 => ?_) ?_
     ·
      have s34 : f22 23 = .bool (decide (x0 = (-1))) := hp22 16 rfl rfl
      refine gy rfl rfl s34 b1 (mv rfl ((hf22 2 rfl).trans i2) ?_)
      exact ⟨_, rfl, Ext.refl _, rfl⟩
     refine ⟨fun _ => ⟨fun f23 w33 hf23 xt33 hp23 => ?_, by rintro _ _ _ x_ ⟨ad4, e_, hA4⟩; exact ⟨ad4, e_, hA4.lift (Up.ext x_)⟩⟩, ?_⟩
     ·
      have H43 := H2.ext xt33
      have s35 : f23 23 = .bool (decide (x0 = (-1))) := hp23 16 rfl rfl
      have s36 : f23 28 = .slice a_fi fi.length c_fi := hp23 21 rfl rfl
      have s37 : f23 29 = iV n2 := hp23 22 rfl rfl
      refine gy rfl rfl s35 b1 (ia (H43.rv 2 rfl) rfl rfl s36 s37 (by have h_ := ok_rng (fi := fi) (fr := n1) (to := n2) (by assumption); omega) un27 ty65 ?_)
      intro ad7 x6 hx6 hA7
      obtain rfl : x2 = x6 := Option.some.inj (hx2.symm.trans hx6)
      exact ⟨_, rfl, Ext.refl _, ⟨ad7, rfl, hA7⟩⟩
     refine ⟨fun _ => ⟨fun f24 w34 hf24 xt34 hp24 => ?_, by rintro _ _ _ x_ ⟨ad4, e_, hA4⟩; exact ⟨ad4, e_, hA4.lift (Up.ext x_)⟩⟩, ?_⟩
     ·
      have s38 : f24 23 = .bool (decide (x0 = (-1))) := hp24 16 rfl rfl
      obtain ⟨ad8, s39, hA8⟩ : ∃ (ad8 : Addr), f24 30 = .pointer (some ad8) ∧ At (MS M [ro b_a #[.slice a_fv n_fv c_fv, .slice a_fi fi.length c_fi, .slice a_fo fo.length c_fo, .slice a_stp n_stp c_stp, .slice a_pl n_pl c_pl] ty_a, imm (.slice a_fo fo.length c_fo) fo, imm (.slice a_fi fi.length c_fi) fi]) w34 ad8 x2 := hp24 23 rfl rfl
      refine gy rfl rfl s38 b1 (fa fl65_2 rfl s39 ?_)
      exact ⟨_, rfl, Ext.refl _, ⟨ad8, rfl, (by assumption)⟩⟩
     refine dc (fun f25 w35 hf25 xt35 hp25 => ?_) ?_
     ·
      have H46 := H2.ext xt35
      have s40 : f25 23 = .bool (decide (x0 = (-1))) := hp25 16 rfl rfl
      obtain ⟨ad9, s41, hA9⟩ : ∃ (ad9 : Addr), f25 31 = .pointer (some ((ad9).add 2)) ∧ At (MS M [ro b_a #[.slice a_fv n_fv c_fv, .slice a_fi fi.length c_fi, .slice a_fo fo.length c_fo, .slice a_stp n_stp c_stp, .slice a_pl n_pl c_pl] ty_a, imm (.slice a_fo fo.length c_fo) fo, imm (.slice a_fi fi.length c_fi) fi]) w35 ad9 x2 := hp25 24 rfl rfl
      have H47 := H46.put (it := atI ad9 x2) rfl hA9
      refine gy rfl rfl s40 b1 (ldB (((H47.atv 0 rfl)).s2).fst.w ty4 rfl s41 ?_)
      exact ⟨_, rfl, Ext.refl _, rfl⟩
     refine dc (fun _ _ _ _ hp26 => pickT rfl rfl rfl (hp26 16 rfl rfl) b1 (hp26 25 rfl rfl) (d0 rfl rfl)) ?_
     refine dc (fun _ _ _ _ hp27 => mv rfl (hp27 26 rfl rfl) (d0 rfl rfl)) ?_
     refine dc (fun _ _ _ _ hp28 => gn rfl rfl (hp28 27 rfl rfl) b2 (d0 rfl rfl)) ?_
     refine dc (fun _ _ _ _ hp29 => gn rfl rfl (hp29 27 rfl rfl) b2 (d0 rfl rfl)) ?_
     refine dc (fun _ _ _ _ hp30 => gn rfl rfl (hp30 27 rfl rfl) b2 (d0 rfl rfl)) ?_
     refine dc (fun _ _ _ _ hp31 => gn rfl rfl (hp31 27 rfl rfl) b2 (d0 rfl rfl)) ?_
     refine dc (fun _ _ _ _ hp32 => gn rfl rfl (hp32 27 rfl rfl) b2 (d0 rfl rfl)) ?_
     refine dc (fun _ _ _ _ hp33 => gn rfl rfl (hp33 27 rfl rfl) b2 (d0 rfl rfl)) ?_
     refine dc (fun _ _ _ _ hp34 => gn rfl rfl (hp34 27 rfl rfl) b2 (d0 rfl rfl)) ?_
     refine dc (fun _ _ _ _ hp35 => gn rfl rfl (hp35 27 rfl rfl) b2 (d0 rfl rfl)) ?_
     refine dc (fun _ _ _ _ hp36 => gn rfl rfl (hp36 27 rfl rfl) b2 (d0 rfl rfl)) ?_
     refine dc (fun _ _ _ _ hp37 => gn rfl rfl (hp37 27 rfl rfl) b2 (d0 rfl rfl)) ?_
     refine dc (fun _ _ _ _ hp38 => gn rfl rfl (hp38 27 rfl rfl) b2 (d0 rfl rfl)) ?_
     refine dc (fun _ _ _ _ hp39 => gn rfl rfl (hp39 27 rfl rfl) b2 (d0 rfl rfl)) ?_
     refine dc (fun _ _ _ _ hp40 => gn rfl rfl (hp40 27 rfl rfl) b2 (d0 rfl rfl)) ?_
     refine dc (fun _ _ _ _ hp41 => gn rfl rfl (hp41 27 rfl rfl) b2 (d0 rfl rfl)) ?_
     refine dc (fun _ _ _ _ hp42 => gn rfl rfl (hp42 27 rfl rfl) b2 (d0 rfl rfl)) ?_
     refine dc (fun _ _ _ _ hp43 => gn rfl rfl (hp43 27 rfl rfl) b2 (d0 rfl rfl)) ?_
     refine dc (fun _ _ _ _ hp44 => gn rfl rfl (hp44 27 rfl rfl) b2 (d0 rfl rfl)) ?_
     refine dc (fun _ _ _ _ hp45 => gn rfl rfl (hp45 27 rfl rfl) b2 (d0 rfl rfl)) ?_
     exact DSteps.rest rfl _
    ·
     intro f46 w56 hf46 xt56 hp46
     have H68 := H2.ext xt56
     have s79 : f46 34 = .bool x2.2.2.1 := hp46 27 rfl
     refine k (gn rfl rfl s79 b2 (k (pickF rfl rfl rfl s79 b2 rfl (k (asg (v := .bool false) rfl rfl (z (nx (rt (r1 rfl rfl ?_)))))))))
     have e0 : (false : Bool) = earlyO fi fo n1 n2 := by simp only [earlyO, wrQ, vrO, List.getD_eq_getElem?_getD, hx0, hx2, Option.getD_some, Option.map_some, b0, (nott b0), b1, b2, BL, cond_true, cond_false]
     have ev_ := cg1 (fun (x_0 : Bool) => (.bool x_0 : Value)) e0
     exact ⟨ev_, H68.below⟩
  · -- decide (x0 = (-1)) is False
   have p1 := of_decide_eq_false b1
   refine dr 46 [eV (pV b_a 0), eV (iV n1), eV (iV n2), fun (v : Value) (w' : World) => ∃ (a2 : Option Addr) (c2 : Nat), v = .slice a2 ([n1, n2] : List Int).length c2 ∧ RV (MS M [ro b_a #[.slice a_fv n_fv c_fv, .slice a_fi fi.length c_fi, .slice a_fo fo.length c_fo, .slice a_stp n_stp c_stp, .slice a_pl n_pl c_pl] ty_a, imm (.slice a_fo fo.length c_fo) fo, imm (.slice a_fi fi.length c_fi) fi]) w' (.slice a2 ([n1, n2] : List Int).length c2) ([n1, n2] : List Int), eV (.bool (!(([n1, n2] : List Int).any (outO fi)))), eV (.bool (!(([n1, n2] : List Int).any (outO fi)))), eV (pV b_a 0), eV (pV b_a 0), eV (pV b_a 0), eV (pV b_a 2), eV (.slice a_fo fo.length c_fo), eV (iV n1), fun (v : Value) (w' : World) => ∃ (ad1 : Addr), v = .pointer (some ad1) ∧ At (MS M [ro b_a #[.slice a_fv n_fv c_fv, .slice a_fi fi.length c_fi, .slice a_fo fo.length c_fo, .slice a_stp n_stp c_stp, .slice a_pl n_pl c_pl] ty_a, imm (.slice a_fo fo.length c_fo) fo, imm (.slice a_fi fi.length c_fi) fi]) w' ad1 x0, fun (v : Value) (w' : World) => v = iV x0 ∧ I64 (x0), eV (.bool (decide (x0 = (-1)))), eV (.bool (decide (x0 = (-1)))), eV (.bool (decide (x0 = (-1)))), eV undef, eV undef, eV undef, eV undef, eV undef, eV undef, eV undef, eV undef, eV undef, eV (.bool false), eV (.bool false), eV undef, eV undef, eV undef, eV undef, eV undef, eV undef, eV undef, eV undef, eV undef, eV undef, eV undef, eV undef, eV undef, eV undef, eV undef, eV undef, eV undef, eV undef] rfl (by kernel_rfl) ?_ ?_
   ·
    refine dc (fun _ _ hf0 _ _ => mv rfl ((hf0 0 rfl).trans i0) (d0 rfl rfl)) ?_
    refine dc (fun _ _ hf1 _ _ => mv rfl ((hf1 1 rfl).trans i1) (d0 rfl rfl)) ?_
    refine dc (fun _ _ hf2 _ _ => mv rfl ((hf2 2 rfl).trans i2) (d0 rfl rfl)) ?_
    refine ⟨fun _ => ⟨fun f3 w9 hf3 xt9 hp3 => ?_, by rintro _ _ _ x_ ⟨a2, c2, e_, rv3⟩; exact ⟨a2, c2, e_, rv3.lift (Up.ext x_)⟩⟩, ?_⟩
    ·
     have H15 := H2.ext xt9
     have s0 : f3 8 = iV n1 := hp3 1 rfl rfl
     have s1 : f3 9 = iV n2 := hp3 2 rfl rfl
     refine bs (xs := ([n1, n2] : List Int)) (cells := #[iV n1, iV n2]) (e := 3) H15 rfl (pbc s0 (pbc s1 pb0)) (fun _ => by kernel_rfl) ⟨[iV n1], [iV n2], rfl, ⟨rfl, (show I64 (n1) from (by first | assumption | (unfold I64 at *; omega)))⟩, ⟨[iV n2], [], rfl, ⟨rfl, (show I64 (n2) from (by first | assumption | (unfold I64 at *; omega)))⟩, rfl⟩⟩ rfl (by unfold maxLen; omega) ?_
     intro g3 w10 xt10 (H16 : HI M w w10 [own w.heap.size 3 (.slice (some ⟨g3, 0, none⟩) 2 2) ([n1, n2] : List Int), ro b_a #[.slice a_fv n_fv c_fv, .slice a_fi fi.length c_fi, .slice a_fo fo.length c_fo, .slice a_stp n_stp c_stp, .slice a_pl n_pl c_pl] ty_a, imm (.slice a_fo fo.length c_fo) fo, imm (.slice a_fi fi.length c_fi) fi])
     have H17 := H16.freeze 0 rfl
     exact ⟨_, rfl, xt10, ⟨(some ⟨g3, 0, none⟩), 2, rfl, (rv_drop rfl (H17.rv 0 rfl))⟩⟩
    refine dc (fun f4 w11 hf4 xt11 hp4 => ?_) ?_
    ·
     have H18 := H2.ext xt11
     have s2 : f4 7 = pV b_a 0 := hp4 0 rfl rfl
     obtain ⟨a3, c3, s3, rv5⟩ : ∃ (a3 : Option Addr) (c3 : Nat), f4 10 = .slice a3 ([n1, n2] : List Int).length c3 ∧ RV (MS M [ro b_a #[.slice a_fv n_fv c_fv, .slice a_fi fi.length c_fi, .slice a_fo fo.length c_fo, .slice a_stp n_stp c_stp, .slice a_pl n_pl c_pl] ty_a, imm (.slice a_fo fo.length c_fo) fo, imm (.slice a_fi fi.length c_fi) fi]) w11 (.slice a3 ([n1, n2] : List Int).length c3) ([n1, n2] : List Int) := hp4 3 rfl rfl
     have H19 := H18.put (it := imm (.slice a3 ([n1, n2] : List Int).length c3) ([n1, n2] : List Int)) rfl rv5
     have cc3 := aud_op (fi := fi) (l := ([n1, n2] : List Int)) (a_fv := a_fv) (n_fv := n_fv) (c_fv := c_fv) (a_fo := a_fo) (n_fo := fo.length) (c_fo := c_fo) (a_stp := a_stp) (n_stp := n_stp) (c_stp := c_stp) (a_pl := a_pl) (n_pl := n_pl) (c_pl := c_pl) (w := w11) H19.mb (H19.rv 3 rfl) (H19.rv 0 rfl) (H19.at_ 1 rfl)
     refine ca go28 rfl (ec s2 (ec s3 e0)) cc3 ?_
     rintro _ w12 ⟨rfl, xt12⟩
     exact ⟨_, rfl, xt12, rfl⟩
    refine dc (fun _ _ _ _ hp5 => mv rfl (hp5 4 rfl rfl) (d0 rfl rfl)) ?_
    refine dc (fun f6 w14 hf6 xt14 hp6 => ?_) ?_
    ·
     have s5 : f6 12 = .bool (!(([n1, n2] : List Int).any (outO fi))) := hp6 5 rfl rfl
     refine gy rfl rfl s5 b0 (mv rfl ((hf6 0 rfl).trans i0) ?_)
     exact ⟨_, rfl, Ext.refl _, rfl⟩
    refine dc (fun f7 w15 hf7 xt15 hp7 => ?_) ?_
    ·
     have s6 : f7 12 = .bool (!(([n1, n2] : List Int).any (outO fi))) := hp7 5 rfl rfl
     have s7 : f7 13 = pV b_a 0 := hp7 6 rfl rfl
     refine gy rfl rfl s6 b0 (nc rfl s7 ?_)
     exact ⟨_, rfl, Ext.refl _, rfl⟩
    refine dc (fun f8 w16 hf8 xt16 hp8 => ?_) ?_
    ·
     have s8 : f8 12 = .bool (!(([n1, n2] : List Int).any (outO fi))) := hp8 5 rfl rfl
     have s9 : f8 14 = pV b_a 0 := hp8 7 rfl rfl
     refine gy rfl rfl s8 b0 (fa fl54_0 rfl s9 ?_)
     exact ⟨_, rfl, Ext.refl _, rfl⟩
    refine dc (fun f9 w17 hf9 xt17 hp9 => ?_) ?_
    ·
     have s10 : f9 12 = .bool (!(([n1, n2] : List Int).any (outO fi))) := hp9 5 rfl rfl
     have s11 : f9 15 = pV b_a 0 := hp9 8 rfl rfl
     refine gy rfl rfl s10 b0 (fa fl30_2 rfl s11 ?_)
     exact ⟨_, rfl, Ext.refl _, rfl⟩
    refine dc (fun f10 w18 hf10 xt18 hp10 => ?_) ?_
    ·
     have H26 := H2.ext xt18
     have s12 : f10 12 = .bool (!(([n1, n2] : List Int).any (outO fi))) := hp10 5 rfl rfl
     have s13 : f10 16 = pV b_a 2 := hp10 9 rfl rfl
     refine gy rfl rfl s12 b0 (ldR H26 0 rfl ty28 rfl s13 (by decide) rfl ?_)
     exact ⟨_, rfl, Ext.refl _, rfl⟩
    refine dc (fun f11 w19 hf11 xt19 hp11 => ?_) ?_
    ·
     have s14 : f11 12 = .bool (!(([n1, n2] : List Int).any (outO fi))) := hp11 5 rfl rfl
     refine gy rfl rfl s14 b0 (mv rfl ((hf11 1 rfl).trans i1) ?_)
     exact ⟨_, rfl, Ext.refl _, rfl⟩
    refine ⟨fun _ => ⟨fun f12 w20 hf12 xt20 hp12 => ?_, by rintro _ _ _ x_ ⟨ad1, e_, hA1⟩; exact ⟨ad1, e_, hA1.lift (Up.ext x_)⟩⟩, ?_⟩
    ·
     have H28 := H2.ext xt20
     have s15 : f12 12 = .bool (!(([n1, n2] : List Int).any (outO fi))) := hp12 5 rfl rfl
     have s16 : f12 17 = .slice a_fo fo.length c_fo := hp12 10 rfl rfl
     have s17 : f12 18 = iV n1 := hp12 11 rfl rfl
     refine gy rfl rfl s15 b0 (ia (H28.rv 1 rfl) rfl rfl s16 s17 (by have h_ := ok_rng (fi := fi) (fr := n1) (to := n2) (by assumption); omega) un28 ty3 ?_)
     intro ad2 x2 hx2 hA2
     obtain rfl : x0 = x2 := Option.some.inj (hx0.symm.trans hx2)
     exact ⟨_, rfl, Ext.refl _, ⟨ad2, rfl, hA2⟩⟩
    refine dc (fun f13 w21 hf13 xt21 hp13 => ?_) ?_
    ·
     have H29 := H2.ext xt21
     have s18 : f13 12 = .bool (!(([n1, n2] : List Int).any (outO fi))) := hp13 5 rfl rfl
     obtain ⟨ad3, s19, hA3⟩ : ∃ (ad3 : Addr), f13 19 = .pointer (some ad3) ∧ At (MS M [ro b_a #[.slice a_fv n_fv c_fv, .slice a_fi fi.length c_fi, .slice a_fo fo.length c_fo, .slice a_stp n_stp c_stp, .slice a_pl n_pl c_pl] ty_a, imm (.slice a_fo fo.length c_fo) fo, imm (.slice a_fi fi.length c_fi) fi]) w21 ad3 x0 := hp13 12 rfl rfl
     have H30 := H29.put (it := atI ad3 x0) rfl hA3
     refine gy rfl rfl s18 b0 (ldI (H30.atv 0 rfl).w ty3 rfl s19 ?_)
     intro rv6
     exact ⟨_, rfl, Ext.refl _, ⟨rfl, rv6⟩⟩
    refine dc (fun f14 w22 hf14 xt22 hp14 => ?_) ?_
    ·
     have s20 : f14 12 = .bool (!(([n1, n2] : List Int).any (outO fi))) := hp14 5 rfl rfl
     obtain ⟨s21, rv7⟩ : f14 20 = iV x0 ∧ I64 (x0) := hp14 13 rfl rfl
     refine gy rfl rfl s20 b0 (eql rfl rfl s21 rfl ?_)
     exact ⟨_, rfl, Ext.refl _, rfl⟩
    refine dc (fun _ _ _ _ hp15 => pickT rfl rfl rfl (hp15 5 rfl rfl) b0 (hp15 14 rfl rfl) (d0 rfl rfl)) ?_
    refine dc (fun _ _ _ _ hp16 => mv rfl (hp16 15 rfl rfl) (d0 rfl rfl)) ?_
    refine dc (fun _ _ _ _ hp17 => gn rfl rfl (hp17 16 rfl rfl) b1 (d0 rfl rfl)) ?_
    refine dc (fun _ _ _ _ hp18 => gn rfl rfl (hp18 16 rfl rfl) b1 (d0 rfl rfl)) ?_
    refine dc (fun _ _ _ _ hp19 => gn rfl rfl (hp19 16 rfl rfl) b1 (d0 rfl rfl)) ?_
    refine dc (fun _ _ _ _ hp20 => gn rfl rfl (hp20 16 rfl rfl) b1 (d0 rfl rfl)) ?_
    refine dc (fun _ _ _ _ hp21 => gn rfl rfl (hp21 16 rfl rfl) b1 (d0 rfl rfl)) ?_
    refine dc (fun _ _ _ _ hp22 => gn rfl rfl (hp22 16 rfl rfl) b1 (d0 rfl rfl)) ?_
    refine dc (fun _ _ _ _ hp23 => gn rfl rfl (hp23 16 rfl rfl) b1 (d0 rfl rfl)) ?_
    refine dc (fun _ _ _ _ hp24 => gn rfl rfl (hp24 16 rfl rfl) b1 (d0 rfl rfl)) ?_
    refine dc (fun _ _ _ _ hp25 => gn rfl rfl (hp25 16 rfl rfl) b1 (d0 rfl rfl)) ?_
    refine dc (fun _ _ _ _ hp26 => pickF rfl rfl rfl (hp26 16 rfl rfl) b1 rfl (d0 rfl rfl)) ?_
    refine dc (fun _ _ _ _ hp27 => mv rfl (hp27 26 rfl rfl) (d0 rfl rfl)) ?_
    refine dc (fun _ _ _ _ hp28 => gn rfl rfl (hp28 27 rfl rfl) rfl (d0 rfl rfl)) ?_
    refine dc (fun _ _ _ _ hp29 => gn rfl rfl (hp29 27 rfl rfl) rfl (d0 rfl rfl)) ?_
    refine dc (fun _ _ _ _ hp30 => gn rfl rfl (hp30 27 rfl rfl) rfl (d0 rfl rfl)) ?_
    refine dc (fun _ _ _ _ hp31 => gn rfl rfl (hp31 27 rfl rfl) rfl (d0 rfl rfl)) ?_
    refine dc (fun _ _ _ _ hp32 => gn rfl rfl (hp32 27 rfl rfl) rfl (d0 rfl rfl)) ?_
    refine dc (fun _ _ _ _ hp33 => gn rfl rfl (hp33 27 rfl rfl) rfl (d0 rfl rfl)) ?_
    refine dc (fun _ _ _ _ hp34 => gn rfl rfl (hp34 27 rfl rfl) rfl (d0 rfl rfl)) ?_
    refine dc (fun _ _ _ _ hp35 => gn rfl rfl (hp35 27 rfl rfl) rfl (d0 rfl rfl)) ?_
    refine dc (fun _ _ _ _ hp36 => gn rfl rfl (hp36 27 rfl rfl) rfl (d0 rfl rfl)) ?_
    refine dc (fun _ _ _ _ hp37 => gn rfl rfl (hp37 27 rfl rfl) rfl (d0 rfl rfl)) ?_
    refine dc (fun _ _ _ _ hp38 => gn rfl rfl (hp38 27 rfl rfl) rfl (d0 rfl rfl)) ?_
    refine dc (fun _ _ _ _ hp39 => gn rfl rfl (hp39 27 rfl rfl) rfl (d0 rfl rfl)) ?_
    refine dc (fun _ _ _ _ hp40 => gn rfl rfl (hp40 27 rfl rfl) rfl (d0 rfl rfl)) ?_
    refine dc (fun _ _ _ _ hp41 => gn rfl rfl (hp41 27 rfl rfl) rfl (d0 rfl rfl)) ?_
    refine dc (fun _ _ _ _ hp42 => gn rfl rfl (hp42 27 rfl rfl) rfl (d0 rfl rfl)) ?_
    refine dc (fun _ _ _ _ hp43 => gn rfl rfl (hp43 27 rfl rfl) rfl (d0 rfl rfl)) ?_
    refine dc (fun _ _ _ _ hp44 => gn rfl rfl (hp44 27 rfl rfl) rfl (d0 rfl rfl)) ?_
    refine dc (fun _ _ _ _ hp45 => gn rfl rfl (hp45 27 rfl rfl) rfl (d0 rfl rfl)) ?_
    exact DSteps.rest rfl _
   ·
    intro f46 w54 hf46 xt54 hp46
    have H63 := H2.ext xt54
    have s79 : f46 34 = .bool false := hp46 27 rfl
    refine k (gn rfl rfl s79 rfl (k (pickF rfl rfl rfl s79 rfl rfl (k (asg (v := .bool false) rfl rfl (z (nx (rt (r1 rfl rfl ?_)))))))))
    have e0 : (false : Bool) = earlyO fi fo n1 n2 := by simp only [earlyO, wrQ, vrO, List.getD_eq_getElem?_getD, hx0, Option.getD_some, Option.map_some, b0, (nott b0), b1, BL, cond_true, cond_false]
    have ev_ := cg1 (fun (x_0 : Bool) => (.bool x_0 : Value)) e0
    exact ⟨ev_, H63.below⟩
 · -- !(([n1, n2] : List Int).any (outO fi)) is False
  refine dr 46 [eV (pV b_a 0), eV (iV n1), eV (iV n2), fun (v : Value) (w' : World) => ∃ (a1 : Option Addr) (c1 : Nat), v = .slice a1 ([n1, n2] : List Int).length c1 ∧ RV (MS M [ro b_a #[.slice a_fv n_fv c_fv, .slice a_fi fi.length c_fi, .slice a_fo fo.length c_fo, .slice a_stp n_stp c_stp, .slice a_pl n_pl c_pl] ty_a, imm (.slice a_fo fo.length c_fo) fo, imm (.slice a_fi fi.length c_fi) fi]) w' (.slice a1 ([n1, n2] : List Int).length c1) ([n1, n2] : List Int), eV (.bool (!(([n1, n2] : List Int).any (outO fi)))), eV (.bool (!(([n1, n2] : List Int).any (outO fi)))), eV undef, eV undef, eV undef, eV undef, eV undef, eV undef, eV undef, eV undef, eV undef, eV (.bool false), eV (.bool false), eV undef, eV undef, eV undef, eV undef, eV undef, eV undef, eV undef, eV undef, eV undef, eV (.bool false), eV (.bool false), eV undef, eV undef, eV undef, eV undef, eV undef, eV undef, eV undef, eV undef, eV undef, eV undef, eV undef, eV undef, eV undef, eV undef, eV undef, eV undef, eV undef, eV undef] rfl (by kernel_rfl) ?_ ?_
  ·
   refine dc (fun _ _ hf0 _ _ => mv rfl ((hf0 0 rfl).trans i0) (d0 rfl rfl)) ?_
   refine dc (fun _ _ hf1 _ _ => mv rfl ((hf1 1 rfl).trans i1) (d0 rfl rfl)) ?_
   refine dc (fun _ _ hf2 _ _ => mv rfl ((hf2 2 rfl).trans i2) (d0 rfl rfl)) ?_
   refine ⟨fun _ => ⟨fun f3 w7 hf3 xt7 hp3 => ?_, by rintro _ _ _ x_ ⟨a1, c1, e_, rv1⟩; exact ⟨a1, c1, e_, rv1.lift (Up.ext x_)⟩⟩, ?_⟩
   ·
    have H12 := H2.ext xt7
    have s0 : f3 8 = iV n1 := hp3 1 rfl rfl
    have s1 : f3 9 = iV n2 := hp3 2 rfl rfl
    refine bs (xs := ([n1, n2] : List Int)) (cells := #[iV n1, iV n2]) (e := 3) H12 rfl (pbc s0 (pbc s1 pb0)) (fun _ => by kernel_rfl) ⟨[iV n1], [iV n2], rfl, ⟨rfl, (show I64 (n1) from (by first | assumption | (unfold I64 at *; omega)))⟩, ⟨[iV n2], [], rfl, ⟨rfl, (show I64 (n2) from (by first | assumption | (unfold I64 at *; omega)))⟩, rfl⟩⟩ rfl (by unfold maxLen; omega) ?_
    intro g2 w8 xt8 (H13 : HI M w w8 [own w.heap.size 3 (.slice (some ⟨g2, 0, none⟩) 2 2) ([n1, n2] : List Int), ro b_a #[.slice a_fv n_fv c_fv, .slice a_fi fi.length c_fi, .slice a_fo fo.length c_fo, .slice a_stp n_stp c_stp, .slice a_pl n_pl c_pl] ty_a, imm (.slice a_fo fo.length c_fo) fo, imm (.slice a_fi fi.length c_fi) fi])
    have H14 := H13.freeze 0 rfl
    exact ⟨_, rfl, xt8, ⟨(some ⟨g2, 0, none⟩), 2, rfl, (rv_drop rfl (H14.rv 0 rfl))⟩⟩
   refine dc (fun f4 w9 hf4 xt9 hp4 => ?_) ?_
   ·
    have H15 := H2.ext xt9
    have s2 : f4 7 = pV b_a 0 := hp4 0 rfl rfl
    obtain ⟨a2, c2, s3, rv2⟩ : ∃ (a2 : Option Addr) (c2 : Nat), f4 10 = .slice a2 ([n1, n2] : List Int).length c2 ∧ RV (MS M [ro b_a #[.slice a_fv n_fv c_fv, .slice a_fi fi.length c_fi, .slice a_fo fo.length c_fo, .slice a_stp n_stp c_stp, .slice a_pl n_pl c_pl] ty_a, imm (.slice a_fo fo.length c_fo) fo, imm (.slice a_fi fi.length c_fi) fi]) w9 (.slice a2 ([n1, n2] : List Int).length c2) ([n1, n2] : List Int) := hp4 3 rfl rfl
    have H16 := H15.put (it := imm (.slice a2 ([n1, n2] : List Int).length c2) ([n1, n2] : List Int)) rfl rv2
    have cc2 := aud_op (fi := fi) (l := ([n1, n2] : List Int)) (a_fv := a_fv) (n_fv := n_fv) (c_fv := c_fv) (a_fo := a_fo) (n_fo := fo.length) (c_fo := c_fo) (a_stp := a_stp) (n_stp := n_stp) (c_stp := c_stp) (a_pl := a_pl) (n_pl := n_pl) (c_pl := c_pl) (w := w9) H16.mb (H16.rv 3 rfl) (H16.rv 0 rfl) (H16.at_ 1 rfl)
    refine ca go28 rfl (ec s2 (ec s3 e0)) cc2 ?_
    rintro _ w10 ⟨rfl, xt10⟩
    exact ⟨_, rfl, xt10, rfl⟩
   refine dc (fun _ _ _ _ hp5 => mv rfl (hp5 4 rfl rfl) (d0 rfl rfl)) ?_
   refine dc (fun _ _ _ _ hp6 => gn rfl rfl (hp6 5 rfl rfl) b0 (d0 rfl rfl)) ?_
   refine dc (fun _ _ _ _ hp7 => gn rfl rfl (hp7 5 rfl rfl) b0 (d0 rfl rfl)) ?_
   refine dc (fun _ _ _ _ hp8 => gn rfl rfl (hp8 5 rfl rfl) b0 (d0 rfl rfl)) ?_
   refine dc (fun _ _ _ _ hp9 => gn rfl rfl (hp9 5 rfl rfl) b0 (d0 rfl rfl)) ?_
   refine dc (fun _ _ _ _ hp10 => gn rfl rfl (hp10 5 rfl rfl) b0 (d0 rfl rfl)) ?_
   refine dc (fun _ _ _ _ hp11 => gn rfl rfl (hp11 5 rfl rfl) b0 (d0 rfl rfl)) ?_
   refine dc (fun _ _ _ _ hp12 => gn rfl rfl (hp12 5 rfl rfl) b0 (d0 rfl rfl)) ?_
   refine dc (fun _ _ _ _ hp13 => gn rfl rfl (hp13 5 rfl rfl) b0 (d0 rfl rfl)) ?_
   refine dc (fun _ _ _ _ hp14 => gn rfl rfl (hp14 5 rfl rfl) b0 (d0 rfl rfl)) ?_
   refine dc (fun _ _ _ _ hp15 => pickF rfl rfl rfl (hp15 5 rfl rfl) b0 rfl (d0 rfl rfl)) ?_
   refine dc (fun _ _ _ _ hp16 => mv rfl (hp16 15 rfl rfl) (d0 rfl rfl)) ?_
   refine dc (fun _ _ _ _ hp17 => gn rfl rfl (hp17 16 rfl rfl) rfl (d0 rfl rfl)) ?_
   refine dc (fun _ _ _ _ hp18 => gn rfl rfl (hp18 16 rfl rfl) rfl (d0 rfl rfl)) ?_
   refine dc (fun _ _ _ _ hp19 => gn rfl rfl (hp19 16 rfl rfl) rfl (d0 rfl rfl)) ?_
   refine dc (fun _ _ _ _ hp20 => gn rfl rfl (hp20 16 rfl rfl) rfl (d0 rfl rfl)) ?_
   refine dc (fun _ _ _ _ hp21 => gn rfl rfl (hp21 16 rfl rfl) rfl (d0 rfl rfl)) ?_
   refine dc (fun _ _ _ _ hp22 => gn rfl rfl (hp22 16 rfl rfl) rfl (d0 rfl rfl)) ?_
   refine dc (fun _ _ _ _ hp23 => gn rfl rfl (hp23 16 rfl rfl) rfl (d0 rfl rfl)) ?_
   refine dc (fun _ _ _ _ hp24 => gn rfl rfl (hp24 16 rfl rfl) rfl (d0 rfl rfl)) ?_
   refine dc (fun _ _ _ _ hp25 => gn rfl rfl (hp25 16 rfl rfl) rfl (d0 rfl rfl)) ?_
   refine dc (fun _ _ _ _ hp26 => pickF rfl rfl rfl (hp26 16 rfl rfl) rfl rfl (d0 rfl rfl)) ?_
   refine dc (fun _ _ _ _ hp27 => mv rfl (hp27 26 rfl rfl) (d0 rfl rfl)) ?_
   refine dc (fun _ _ _ _ hp28 => gn rfl rfl (hp28 27 rfl rfl) rfl (d0 rfl rfl)) ?_
   refine dc (fun _ _ _ _ hp29 => gn rfl rfl (hp29 27 rfl rfl) rfl (d0 rfl rfl)) ?_
   refine dc (fun _ _ _ _ hp30 => gn rfl rfl (hp30 27 rfl rfl) rfl (d0 rfl rfl)) ?_
   refine dc (fun _ _ _ _ hp31 => gn rfl rfl (hp31 27 rfl rfl) rfl (d0 rfl rfl)) ?_
   refine dc (fun _ _ _ _ hp32 => gn rfl rfl (hp32 27 rfl rfl) rfl (d0 rfl rfl)) ?_
   refine dc (fun _ _ _ _ hp33 => gn rfl rfl (hp33 27 rfl rfl) rfl (d0 rfl rfl)) ?_
   refine dc (fun _ _ _ _ hp34 => gn rfl rfl (hp34 27 rfl rfl) rfl (d0 rfl rfl)) ?_
   refine dc (fun _ _ _ _ hp35 => gn rfl rfl (hp35 27 rfl rfl) rfl (d0 rfl rfl)) ?_
   refine dc (fun _ _ _ _ hp36 => gn rfl rfl (hp36 27 rfl rfl) rfl (d0 rfl rfl)) ?_
   refine dc (fun _ _ _ _ hp37 => gn rfl rfl (hp37 27 rfl rfl) rfl (d0 rfl rfl)) ?_
   refine dc (fun _ _ _ _ hp38 => gn rfl rfl (hp38 27 rfl rfl) rfl (d0 rfl rfl)) ?_
   refine dc (fun _ _ _ _ hp39 => gn rfl rfl (hp39 27 rfl rfl) rfl (d0 rfl rfl)) ?_
   refine dc (fun _ _ _ _ hp40 => gn rfl rfl (hp40 27 rfl rfl) rfl (d0 rfl rfl)) ?_
   refine dc (fun _ _ _ _ hp41 => gn rfl rfl (hp41 27 rfl rfl) rfl (d0 rfl rfl)) ?_
   refine dc (fun _ _ _ _ hp42 => gn rfl rfl (hp42 27 rfl rfl) rfl (d0 rfl rfl)) ?_
   refine dc (fun _ _ _ _ hp43 => gn rfl rfl (hp43 27 rfl rfl) rfl (d0 rfl rfl)) ?_
   refine dc (fun _ _ _ _ hp44 => gn rfl rfl (hp44 27 rfl rfl) rfl (d0 rfl rfl)) ?_
   refine dc (fun _ _ _ _ hp45 => gn rfl rfl (hp45 27 rfl rfl) rfl (d0 rfl rfl)) ?_
   exact DSteps.rest rfl _
  ·
   intro f46 w52 hf46 xt52 hp46
   have H59 := H2.ext xt52
   have s79 : f46 34 = .bool false := hp46 27 rfl
   refine k (gn rfl rfl s79 rfl (k (pickF rfl rfl rfl s79 rfl rfl (k (asg (v := .bool false) rfl rfl (z (nx (rt (r1 rfl rfl ?_)))))))))
   have e0 : (false : Bool) = earlyO fi fo n1 n2 := by simp only [earlyO, wrQ, vrO, b0, (notf b0), BL, cond_true, cond_false]
   have ev_ := cg1 (fun (x_0 : Bool) => (.bool x_0 : Value)) e0
   exact ⟨ev_, H59.below⟩
end Go.Proofs.YtefcbihikknlkaaDoor
