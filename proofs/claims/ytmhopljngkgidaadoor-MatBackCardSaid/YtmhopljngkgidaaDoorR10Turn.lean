/- PRINTED by my own tool (wip/tool/gen.py): contracts of Go functions of this seat, each with its proof. -/
import Derived.Test.YtmhopljngkgidaaDoorEngX
import Derived.Test.YtmhopljngkgidaaDoorEwSpecY
import Derived.Test.YtmhopljngkgidaaDoorR10Join
import Derived.Test.YtmhopljngkgidaaDoorR10Ref
import Derived.Test.YtmhopljngkgidaaDoorR10Mt2
import Derived.Test.YtmhopljngkgidaaDoorR10Mat
import Derived.Test.YtmhopljngkgidaaDoorR10Or
import Derived.Test.YtmhopljngkgidaaDoorR10Fns
namespace Go.Proofs.YtmhopljngkgidaaDoor
open Go.Ew Go.RowKit
set_option linter.unusedVariables false
set_option linter.unusedSimpArgs false
attribute [local irreducible] WL WC SO Code.wp wpList retQ Ret
attribute [local irreducible] bitB hasW inR hasR setR countW countR subR words newR listR orR firstW tab8
theorem go16 : GoF Tryd.prog 16 := ⟨_, _, Tryd.func16, rfl, by kernel_rfl⟩
theorem go76 : GoF Tryd.prog 76 := ⟨_, _, Tryd.func76, rfl, by kernel_rfl⟩
/- eyewitness/mat.Turn -/
set_option maxRecDepth 100000 in
set_option maxHeartbeats 1600000 in
theorem mat_Turn {M : Nat → Prop} {w : World} {mn : Int} {a_mr : Option Addr} {c_mr : Nat} {mr : List (List (BitVec 64))} (hM : ∀ b, M b → b < w.heap.size) (hT : TabAt 0 w) (h_mn : I64 mn) (h_mr : RV M w (.slice a_mr mr.length c_mr) mr) (rt_m : rightS mn mr = true) : Calls Tryd.prog 17 #[.agg #[.int .i64 mn, .slice a_mr mr.length c_mr]] w (Ret fun v w' => ∃ (a0 : Option Addr) (c0 : Nat), v = .agg #[.int .i64 mn, .slice a0 (turnM mn mr).length c0] ∧ Ext w w' ∧ OwnsG M 73 w (turnM mn mr) (.slice a0 (turnM mn mr).length c0) w') := by
  refine enter 39 Tryd.func17 rfl rfl rfl fun f0 ha => ?_
  have H := HI.start (M0 := M) (w := w) hM
  have H0 := H.put (it := imm (.slice a_mr mr.length c_mr) mr) rfl (by rw [MS_nil]; exact h_mr)
  have ln_mr := rv_len h_mr
  have i0 : f0 0 = .agg #[.int .i64 mn, .slice a_mr mr.length c_mr] := ha 0 (by simp)
  refine sq (rg (k (bx H0 rfl i0 ?_)))
  intro bb0 w0 xt0 (H1 : HI M w w0 [box bb0 #[.int .i64 mn, .slice a_mr mr.length c_mr] 24, imm (.slice a_mr mr.length c_mr) mr])
  refine k (al H1 ty24 ?_)
  intro bb1 w1 xt1 (H2 : HI M w w1 [box bb1 #[.int .i64 0, .slice none 0 0] 24, box bb0 #[.int .i64 mn, .slice a_mr mr.length c_mr] 24, imm (.slice a_mr mr.length c_mr) mr])
  refine z (nx (sq (rg (k (fa fl24_0 rfl rfl (k (ldX H2 1 rfl ty3 rfl rfl (by decide) rfl (k ?_))))))))
  have cc0 := mat_NewR (n := mn) (w := w1) H2.mb (by unfold I64 at *; omega) (by exact right_pos rt_m) (by exact (right_sq rt_m).2.2.1)
  refine ca go61 rfl (ec rfl e0) cc0 ?_
  rintro _ w2 ⟨a0, c0, ss0, rfl, xt2, rv0⟩
  have H3 := H2.ownsR rv0
  have H4 : HI M w w2 ([own w.heap.size 73 (.slice a0 mn.toNat c0) ss0, box bb1 #[.int .i64 0, .slice none 0 0] 24, box bb0 #[.int .i64 mn, .slice a_mr mr.length c_mr] 24, imm (.slice a_mr mr.length c_mr) mr] ++ rowItems w.heap.size 77 ss0 (List.replicate mn.toNat (newR mn))) := H3
  have ssl0 := rv0.1
  refine k (mv (v := .tuple #[.agg #[.int .i64 mn, .slice a0 mn.toNat c0], .int .i64 0]) rfl rfl (k (xt rfl rfl rfl (k (xt rfl rfl rfl (k (al H4 ty24 ?_)))))))
  intro bb2 w3 xt3 (H5 : HI M w w3 ([box bb2 #[.int .i64 0, .slice none 0 0] 24, own w.heap.size 73 (.slice a0 mn.toNat c0) ss0, box bb1 #[.int .i64 0, .slice none 0 0] 24, box bb0 #[.int .i64 mn, .slice a_mr mr.length c_mr] 24, imm (.slice a_mr mr.length c_mr) mr] ++ rowItems w.heap.size 77 ss0 (List.replicate mn.toNat (newR mn))))
  refine k (stX H5 0 rfl ty24 rfl rfl rfl rfl rfl rfl rfl ?_)
  intro w4 (H6 : HI M w w4 ([box bb2 #[.int .i64 mn, .slice a0 mn.toNat c0] 24, own w.heap.size 73 (.slice a0 mn.toNat c0) ss0, box bb1 #[.int .i64 0, .slice none 0 0] 24, box bb0 #[.int .i64 mn, .slice a_mr mr.length c_mr] 24, imm (.slice a_mr mr.length c_mr) mr] ++ rowItems w.heap.size 77 ss0 (List.replicate mn.toNat (newR mn))))
  refine k (asg (v := .int .i64 0) rfl rfl (z (nx (sq (sq (rg (k (ldX H6 3 rfl ty24 rfl rfl (by decide) rfl (k ?_)))))))))
  have cc1 := mat_Pairs (mn := mn) (mr := mr) (w := w4) H6.mb (hT.ext H6.below) (by unfold I64 at *; omega) (H6.rv 4 rfl) (by exact (right_sq rt_m).1) (by exact (right_sq rt_m).2.1) (by exact (right_sq rt_m).2.2.1) (by exact (right_sq rt_m).2.2.2.2)
  refine ca go16 rfl (ec rfl e0) cc1 ?_
  rintro _ w5 ⟨a1, c1, rfl, xt4, rv1⟩
  have H7 := H6.ext xt4
  have H8 := H7.put (it := imm (.slice a1 (pairsM mn mr).length c1) (pairsM mn mr)) rfl rv1
  have H9 : HI M w w5 ([imm (.slice a1 (pairsM mn mr).length c1) (pairsM mn mr), box bb2 #[.int .i64 mn, .slice a0 mn.toNat c0] 24, own w.heap.size 73 (.slice a0 mn.toNat c0) ss0, box bb1 #[.int .i64 0, .slice none 0 0] 24, box bb0 #[.int .i64 mn, .slice a_mr mr.length c_mr] 24, imm (.slice a_mr mr.length c_mr) mr] ++ rowItems w.heap.size 77 ss0 (List.replicate mn.toNat (newR mn))) := H8
  refine k (lnS rfl rfl un31 (k (mv (v := .int .i64 0) rfl rfl (z (nx (bk ?_))))))
  refine lp (fun m f w' => ∃ (j : Nat) (xs : List (List (BitVec 64))), m = (pairsM mn mr).length - j ∧ f 2 = .pointer (some ⟨bb1, 0, none⟩) ∧ f 3 = .pointer (some ⟨bb2, 0, none⟩) ∧ f 14 = .slice a1 (pairsM mn mr).length c1 ∧ f 15 = .int .i64 ((pairsM mn mr).length : Int) ∧ f 16 = .int .i64 (j : Int) ∧  HI M w w' ([imm (.slice a1 (pairsM mn mr).length c1) (pairsM mn mr), box bb2 #[.int .i64 mn, .slice a0 mn.toNat c0] 24, own w.heap.size 73 (.slice a0 mn.toNat c0) ss0, box bb1 #[.int .i64 0, .slice none 0 0] 24, box bb0 #[.int .i64 mn, .slice a_mr mr.length c_mr] 24, imm (.slice a_mr mr.length c_mr) mr] ++ rowItems w.heap.size 77 ss0 xs) ∧ (j ≤ (pairsM mn mr).length) ∧ (ss0.length = xs.length) ∧ (xs = foldM mn (((pairsM mn mr).map swapP).take j))) _ ⟨0, (List.replicate mn.toNat (newR mn)), rfl, rfl, rfl, rfl, rfl, (ieq rfl (by first | rfl | omega | simp)), H9, (by first | assumption | omega | simp | (simp; omega)), (by exact rv0.1), (by exact turn_zero _ _)⟩ ?_
  rintro _ f0 w6 ⟨j, xs, rfl, s0, s1, s2, s3, s4, H10, hk, hl, hs⟩
  refine sq (rg (k (lss rfl rfl s4 s3 (z (nx (sq ?_))))))
  refine cd (b := decide ((j : Int) < ((pairsM mn mr).length : Int))) rfl rfl (fun b0 => ?_) (fun b0 => ?_)
  ·
    have p0 := of_decide_eq_true b0
    refine sk (nx (sq (bk (sq (rg (k (ia (H10.rv 0 rfl) rfl rfl s2 s4 (by first | omega | (simp; omega)) un31 ty76 ?_)))))))
    intro ad0 x0 hx0 hA0
    refine k (ldW hA0.w ty76 rfl rfl ?_)
    intro v0 rv2
    obtain ⟨_, ⟨_, _, rfl, ⟨rfl, rv3⟩, ⟨rfl, rv4⟩⟩, rfl⟩ := rv2
    refine k (al H10 ty76 ?_)
    intro bb3 w7 xt5 (H11 : HI M w w7 ([box bb3 #[.int .i64 0, .int .i64 0] 76, imm (.slice a1 (pairsM mn mr).length c1) (pairsM mn mr), box bb2 #[.int .i64 mn, .slice a0 mn.toNat c0] 24, own w.heap.size 73 (.slice a0 mn.toNat c0) ss0, box bb1 #[.int .i64 0, .slice none 0 0] 24, box bb0 #[.int .i64 mn, .slice a_mr mr.length c_mr] 24, imm (.slice a_mr mr.length c_mr) mr] ++ rowItems w.heap.size 77 ss0 xs))
    refine k (stX H11 0 rfl ty76 rfl rfl rfl rfl rfl rfl rfl ?_)
    intro w8 (H12 : HI M w w8 ([box bb3 #[.int .i64 x0.1, .int .i64 x0.2] 76, imm (.slice a1 (pairsM mn mr).length c1) (pairsM mn mr), box bb2 #[.int .i64 mn, .slice a0 mn.toNat c0] 24, own w.heap.size 73 (.slice a0 mn.toNat c0) ss0, box bb1 #[.int .i64 0, .slice none 0 0] 24, box bb0 #[.int .i64 mn, .slice a_mr mr.length c_mr] 24, imm (.slice a_mr mr.length c_mr) mr] ++ rowItems w.heap.size 77 ss0 xs))
    refine z (nx ?_)
    obtain ⟨g1_, g2_, g3_, g4_⟩ := right_pair rt_m hx0
    have xl_ : xs.length = mn.toNat := by rw [hs, foldM_length]
    obtain ⟨a2, x1, c2, hs0, hr0⟩ := row_get (i := x0.2.toNat) H12 (by first | assumption | (simp only [List.length_set]; assumption) | (simp only [List.length_set, List.length_replicate] at *; omega)) (by omega)
    obtain ⟨x3, hx2⟩ : ∃ x, x1[(x0.1 / 64).toNat]? = some x := ⟨_, List.getElem?_eq_getElem (by obtain ⟨k1_, k2_, k3_, k4_⟩ := turn_row (hs ▸ hr0) g1_ g2_; first | omega | exact ⟨k1_, k2_⟩)⟩
    refine dr 15 [fun (v : Value) (w' : World) => v = .pointer (some ⟨bb2, 1, none⟩), fun (v : Value) (w' : World) => v = .slice a0 mn.toNat c0, fun (v : Value) (w' : World) => v = .pointer (some ⟨bb3, 1, none⟩), fun (v : Value) (w' : World) => v = .int .i64 x0.2 ∧ I64 (x0.2), fun (v : Value) (w' : World) => ∃ (g0 : Nat), v = .pointer (some ⟨g0, x0.2.toNat * 1, none⟩) ∧ (.slice a0 mn.toNat c0 : Value).ownBlock = some g0 ∧ AtW (MS M ([box bb3 #[.int .i64 x0.1, .int .i64 x0.2] 76, imm (.slice a1 (pairsM mn mr).length c1) (pairsM mn mr), box bb2 #[.int .i64 mn, .slice a0 mn.toNat c0] 24, own w.heap.size 73 (.slice a0 mn.toNat c0) ss0, box bb1 #[.int .i64 0, .slice none 0 0] 24, box bb0 #[.int .i64 mn, .slice a_mr mr.length c_mr] 24, imm (.slice a_mr mr.length c_mr) mr] ++ rowItems w.heap.size 77 ss0 xs)) w' ⟨g0, x0.2.toNat * 1, none⟩ (⟨a2, x1.length, c2⟩ : SV), fun (v : Value) (w' : World) => v = .slice a2 x1.length c2, fun (v : Value) (w' : World) => v = .pointer (some ⟨bb3, 0, none⟩), fun (v : Value) (w' : World) => v = .int .i64 x0.1 ∧ I64 (x0.1), fun (v : Value) (w' : World) => v = .int .i64 (x0.1 / 64), fun (v : Value) (w' : World) => ∃ (g1 : Nat), v = .pointer (some ⟨g1, (x0.1 / 64).toNat * 1, none⟩) ∧ (.slice a2 x1.length c2 : Value).ownBlock = some g1 ∧ AtW (MS M ([box bb3 #[.int .i64 x0.1, .int .i64 x0.2] 76, imm (.slice a1 (pairsM mn mr).length c1) (pairsM mn mr), box bb2 #[.int .i64 mn, .slice a0 mn.toNat c0] 24, own w.heap.size 73 (.slice a0 mn.toNat c0) ss0, box bb1 #[.int .i64 0, .slice none 0 0] 24, box bb0 #[.int .i64 mn, .slice a_mr mr.length c_mr] 24, imm (.slice a_mr mr.length c_mr) mr] ++ rowItems w.heap.size 77 ss0 xs)) w' ⟨g1, (x0.1 / 64).toNat * 1, none⟩ x3, fun (v : Value) (w' : World) => v = U x3, fun (v : Value) (w' : World) => v = .pointer (some ⟨bb3, 0, none⟩), fun (v : Value) (w' : World) => v = .int .i64 x0.1 ∧ I64 (x0.1), fun (v : Value) (w' : World) => v = .int .i64 (x0.1 % 64), fun (v : Value) (w' : World) => v = U (bitB (x0.1 % 64))] rfl (by kernel_rfl) ?_ ?_
    ·
      refine ⟨fun _ => ⟨fun f1 w10 hf0 xt7 hp0 => ?_, fun _ _ _ _ h => h⟩, ?_⟩
      ·
        have H14 := H12.ext xt7
        refine fa fl24_1 rfl ((hf0 3 rfl).trans s1) ?_
        exact ⟨_, rfl, Ext.refl _, rfl⟩
      refine ⟨fun _ => ⟨fun f2 w11 hf1 xt8 hp1 => ?_, fun _ _ _ _ h => h⟩, ?_⟩
      ·
        have H15 := H12.ext xt8
        have s5 : f2 20 = .pointer (some ⟨bb2, 1, none⟩) := hp1 0 rfl rfl
        refine ldX H15 2 rfl ty22 rfl s5 (by decide) rfl ?_
        exact ⟨_, rfl, Ext.refl _, rfl⟩
      refine ⟨fun _ => ⟨fun f3 w12 hf2 xt9 hp2 => ?_, fun _ _ _ _ h => h⟩, ?_⟩
      ·
        have H16 := H12.ext xt9
        refine iaA rfl rfl (hf2 6 rfl) rfl (by omega) un76 ty3 ?_
        exact ⟨_, rfl, Ext.refl _, rfl⟩
      refine ⟨fun _ => ⟨fun f4 w13 hf3 xt10 hp3 => ?_, fun _ _ _ _ h => h⟩, ?_⟩
      ·
        have H17 := H12.ext xt10
        have s6 : f4 22 = .pointer (some ⟨bb3, 1, none⟩) := hp3 2 rfl rfl
        refine ldX H17 0 rfl ty3 rfl s6 (by decide) rfl ?_
        exact ⟨_, rfl, Ext.refl _, ⟨rfl, rv4⟩⟩
      refine ⟨fun _ => ⟨fun f5 w14 hf4 xt11 hp4 => ?_, by rintro _ _ _ x_ ⟨g0, e_, hv0, hA1⟩; exact ⟨g0, e_, hv0, hA1.ext x_⟩⟩, ?_⟩
      ·
        have H18 := H12.ext xt11
        have s7 : f5 21 = .slice a0 mn.toNat c0 := hp4 1 rfl rfl
        obtain ⟨s8, rv5⟩ : f5 23 = .int .i64 x0.2 ∧ I64 (x0.2) := hp4 3 rfl rfl
        refine iaO (H18.at_ 3 rfl) rfl rfl s7 s8 (by omega) un22 ty73 ?_
        intro g2 x4 hv2 hx3 hA3
        obtain rfl : (⟨a2, x1.length, c2⟩ : SV) = x4 := Option.some.inj (hs0.symm.trans hx3)
        exact ⟨_, rfl, Ext.refl _, ⟨g2, rfl, hv2, hA3⟩⟩
      refine ⟨fun _ => ⟨fun f6 w15 hf5 xt12 hp5 => ?_, fun _ _ _ _ h => h⟩, ?_⟩
      ·
        have H19 := H12.ext xt12
        obtain ⟨g3, s9, hv3, hA4⟩ : ∃ (g3 : Nat), f6 24 = .pointer (some ⟨g3, x0.2.toNat * 1, none⟩) ∧ (.slice a0 mn.toNat c0 : Value).ownBlock = some g3 ∧ AtW (MS M ([box bb3 #[.int .i64 x0.1, .int .i64 x0.2] 76, imm (.slice a1 (pairsM mn mr).length c1) (pairsM mn mr), box bb2 #[.int .i64 mn, .slice a0 mn.toNat c0] 24, own w.heap.size 73 (.slice a0 mn.toNat c0) ss0, box bb1 #[.int .i64 0, .slice none 0 0] 24, box bb0 #[.int .i64 mn, .slice a_mr mr.length c_mr] 24, imm (.slice a_mr mr.length c_mr) mr] ++ rowItems w.heap.size 77 ss0 xs)) w15 ⟨g3, x0.2.toNat * 1, none⟩ (⟨a2, x1.length, c2⟩ : SV) := hp5 4 rfl rfl
        refine ldV hA4 ty73 rfl s9 ?_
        exact ⟨_, rfl, Ext.refl _, rfl⟩
      refine ⟨fun _ => ⟨fun f7 w16 hf6 xt13 hp6 => ?_, fun _ _ _ _ h => h⟩, ?_⟩
      ·
        have H20 := H12.ext xt13
        refine iaA rfl rfl (hf6 6 rfl) rfl (by omega) un76 ty3 ?_
        exact ⟨_, rfl, Ext.refl _, rfl⟩
      refine ⟨fun _ => ⟨fun f8 w17 hf7 xt14 hp7 => ?_, fun _ _ _ _ h => h⟩, ?_⟩
      ·
        have H21 := H12.ext xt14
        have s10 : f8 26 = .pointer (some ⟨bb3, 0, none⟩) := hp7 6 rfl rfl
        refine ldX H21 0 rfl ty3 rfl s10 (by decide) rfl ?_
        exact ⟨_, rfl, Ext.refl _, ⟨rfl, rv3⟩⟩
      refine ⟨fun _ => ⟨fun f9 w18 hf8 xt15 hp8 => ?_, fun _ _ _ _ h => h⟩, ?_⟩
      ·
        have H22 := H12.ext xt15
        obtain ⟨s11, rv6⟩ : f9 27 = .int .i64 x0.1 ∧ I64 (x0.1) := hp8 7 rfl rfl
        refine shrI rfl rfl s11 rfl ?_
        exact ⟨_, rfl, Ext.refl _, rfl⟩
      refine ⟨fun _ => ⟨fun f10 w19 hf9 xt16 hp9 => ?_, by rintro _ _ _ x_ ⟨g1, e_, hv1, hA2⟩; exact ⟨g1, e_, hv1, hA2.ext x_⟩⟩, ?_⟩
      ·
        have H23 := H12.ext xt16
        have s12 : f10 25 = .slice a2 x1.length c2 := hp9 5 rfl rfl
        have s13 : f10 28 = .int .i64 (x0.1 / 64) := hp9 8 rfl rfl
        refine iaO (H23.at_ _ (row_at hs0 hr0)) rfl rfl s12 s13 (by obtain ⟨k1_, k2_, k3_, k4_⟩ := turn_row (hs ▸ hr0) g1_ g2_; first | omega | exact ⟨k1_, k2_⟩) un73 ty77 ?_
        intro g4 x5 hv4 hx4 hA5
        obtain rfl : x3 = x5 := Option.some.inj (hx2.symm.trans hx4)
        exact ⟨_, rfl, Ext.refl _, ⟨g4, rfl, hv4, hA5⟩⟩
      refine ⟨fun _ => ⟨fun f11 w20 hf10 xt17 hp10 => ?_, fun _ _ _ _ h => h⟩, ?_⟩
      ·
        have H24 := H12.ext xt17
        obtain ⟨g5, s14, hv5, hA6⟩ : ∃ (g5 : Nat), f11 29 = .pointer (some ⟨g5, (x0.1 / 64).toNat * 1, none⟩) ∧ (.slice a2 x1.length c2 : Value).ownBlock = some g5 ∧ AtW (MS M ([box bb3 #[.int .i64 x0.1, .int .i64 x0.2] 76, imm (.slice a1 (pairsM mn mr).length c1) (pairsM mn mr), box bb2 #[.int .i64 mn, .slice a0 mn.toNat c0] 24, own w.heap.size 73 (.slice a0 mn.toNat c0) ss0, box bb1 #[.int .i64 0, .slice none 0 0] 24, box bb0 #[.int .i64 mn, .slice a_mr mr.length c_mr] 24, imm (.slice a_mr mr.length c_mr) mr] ++ rowItems w.heap.size 77 ss0 xs)) w20 ⟨g5, (x0.1 / 64).toNat * 1, none⟩ x3 := hp10 9 rfl rfl
        refine ldU hA6 ty77 rfl s14 ?_
        exact ⟨_, rfl, Ext.refl _, rfl⟩
      refine ⟨fun _ => ⟨fun f12 w21 hf11 xt18 hp11 => ?_, fun _ _ _ _ h => h⟩, ?_⟩
      ·
        have H25 := H12.ext xt18
        refine iaA rfl rfl (hf11 6 rfl) rfl (by omega) un76 ty3 ?_
        exact ⟨_, rfl, Ext.refl _, rfl⟩
      refine ⟨fun _ => ⟨fun f13 w22 hf12 xt19 hp12 => ?_, fun _ _ _ _ h => h⟩, ?_⟩
      ·
        have H26 := H12.ext xt19
        have s15 : f13 31 = .pointer (some ⟨bb3, 0, none⟩) := hp12 11 rfl rfl
        refine ldX H26 0 rfl ty3 rfl s15 (by decide) rfl ?_
        exact ⟨_, rfl, Ext.refl _, ⟨rfl, rv3⟩⟩
      refine ⟨fun _ => ⟨fun f14 w23 hf13 xt20 hp13 => ?_, fun _ _ _ _ h => h⟩, ?_⟩
      ·
        have H27 := H12.ext xt20
        obtain ⟨s16, rv7⟩ : f14 32 = .int .i64 x0.1 ∧ I64 (x0.1) := hp13 12 rfl rfl
        refine and63 rfl rfl s16 rfl ?_
        exact ⟨_, rfl, Ext.refl _, rfl⟩
      refine ⟨fun _ => ⟨fun f15 w24 hf14 xt21 hp14 => ?_, fun _ _ _ _ h => h⟩, ?_⟩
      ·
        have H28 := H12.ext xt21
        have s17 : f15 33 = .int .i64 (x0.1 % 64) := hp14 13 rfl rfl
        have cc3 := word_Bit (i := (x0.1 % 64)) (w := w24) (by unfold I64 at *; omega)
        refine ca go65 rfl (ec s17 e0) cc3 ?_
        rintro _ w25 ⟨rfl, xt22⟩
        have H29 := H28.ext xt22
        exact ⟨_, rfl, xt22, rfl⟩
      exact DSteps.rest rfl _
    · intro f16 w26 hf15 xt23 hp15
      have H30 := H12.ext xt23
      have s18 : f16 2 = .pointer (some ⟨bb1, 0, none⟩) := (hf15 2 rfl).trans s0
      have s19 : f16 3 = .pointer (some ⟨bb2, 0, none⟩) := (hf15 3 rfl).trans s1
      have s20 : f16 14 = .slice a1 (pairsM mn mr).length c1 := (hf15 14 rfl).trans s2
      have s21 : f16 15 = .int .i64 ((pairsM mn mr).length : Int) := (hf15 15 rfl).trans s3
      have s22 : f16 16 = .int .i64 (j : Int) := (hf15 16 rfl).trans s4
      have s23 : f16 25 = .slice a2 x1.length c2 := hp15 5 rfl
      have s24 : f16 28 = .int .i64 (x0.1 / 64) := hp15 8 rfl
      have s25 : f16 30 = U x3 := hp15 10 rfl
      have s26 : f16 34 = U (bitB (x0.1 % 64)) := hp15 14 rfl
      refine k (orU x3 (bitB (x0.1 % 64)) rfl rfl s25 s26 (k (iaO (H30.at_ _ (row_at hs0 hr0)) rfl rfl s23 s24 (by obtain ⟨k1_, k2_, k3_, k4_⟩ := turn_row (hs ▸ hr0) g1_ g2_; first | omega | exact ⟨k1_, k2_⟩) un73 ty77 ?_)))
      intro g6 x6 hv6 hx5 hA7
      refine k (stO H30 _ (row_at hs0 hr0) hv6 rfl (by obtain ⟨k1_, k2_, k3_, k4_⟩ := turn_row (hs ▸ hr0) g1_ g2_; first | omega | exact ⟨k1_, k2_⟩) ty77 rfl rfl rfl rfl (RV.bv.2 rfl) ?_)
      intro w27 H32
      have H31 := HI.rowPut (M := fun _ => False) (it := imm (.int .i64 0) (0 : Int)) H32 hs0
      have H33 : HI M w w27 ([box bb3 #[.int .i64 x0.1, .int .i64 x0.2] 76, imm (.slice a1 (pairsM mn mr).length c1) (pairsM mn mr), box bb2 #[.int .i64 mn, .slice a0 mn.toNat c0] 24, own w.heap.size 73 (.slice a0 mn.toNat c0) ss0, box bb1 #[.int .i64 0, .slice none 0 0] 24, box bb0 #[.int .i64 mn, .slice a_mr mr.length c_mr] 24, imm (.slice a_mr mr.length c_mr) mr] ++ rowItems w.heap.size 77 ss0 (xs.set x0.2.toNat (x1.set ((x0.1 / 64).toNat) (x3 ||| (bitB (x0.1 % 64)))))) := H31
      refine z (inb_normal (nx (rg (k (add rfl rfl s22 rfl (by have h_ := right_pairs rt_m; unfold I64; omega) (k (mv (v := .int .i64 ((j : Int) + 1)) rfl rfl (z ?_))))))))
      have H34 : HI M w w27 ([imm (.slice a1 (pairsM mn mr).length c1) (pairsM mn mr), box bb2 #[.int .i64 mn, .slice a0 mn.toNat c0] 24, own w.heap.size 73 (.slice a0 mn.toNat c0) ss0, box bb1 #[.int .i64 0, .slice none 0 0] 24, box bb0 #[.int .i64 mn, .slice a_mr mr.length c_mr] 24, imm (.slice a_mr mr.length c_mr) mr] ++ rowItems w.heap.size 77 ss0 (xs.set x0.2.toNat (x1.set ((x0.1 / 64).toNat) (x3 ||| (bitB (x0.1 % 64)))))) := HI.pickT (l := [box bb3 #[.int .i64 x0.1, .int .i64 x0.2] 76, imm (.slice a1 (pairsM mn mr).length c1) (pairsM mn mr), box bb2 #[.int .i64 mn, .slice a0 mn.toNat c0] 24, own w.heap.size 73 (.slice a0 mn.toNat c0) ss0, box bb1 #[.int .i64 0, .slice none 0 0] 24, box bb0 #[.int .i64 mn, .slice a_mr mr.length c_mr] 24, imm (.slice a_mr mr.length c_mr) mr]) (l' := [imm (.slice a1 (pairsM mn mr).length c1) (pairsM mn mr), box bb2 #[.int .i64 mn, .slice a0 mn.toNat c0] 24, own w.heap.size 73 (.slice a0 mn.toNat c0) ss0, box bb1 #[.int .i64 0, .slice none 0 0] 24, box bb0 #[.int .i64 mn, .slice a_mr mr.length c_mr] 24, imm (.slice a_mr mr.length c_mr) mr]) (t := rowItems w.heap.size 77 ss0 (xs.set x0.2.toNat (x1.set ((x0.1 / 64).toNat) (x3 ||| (bitB (x0.1 % 64)))))) H33 [1, 2, 3, 4, 5, 6] (by decide) rfl rfl
      refine loopN _ ?_ ⟨(j + 1), (xs.set x0.2.toNat (x1.set ((x0.1 / 64).toNat) (x3 ||| (bitB (x0.1 % 64))))), rfl, s18, s19, s20, s21, (ieq rfl (by first | rfl | omega | (push_cast; omega))), H34, (by first | assumption | omega | simp | (simp; omega)), (by simp only [List.length_set]; exact hl), (by first | exact turn_step hs hx0 hr0 hx1 g1_ g2_ | exact turn_step hs hx0 hr0 hx2 g1_ g2_)⟩
      omega
  ·
    have p0 := of_decide_eq_false b0
    refine ex (then_exit (loop_exit (inb_here (nx (sq ?_)))))
    have H11 : HI M w w6 [own w.heap.size 73 (.slice a0 mn.toNat c0) xs, imm (.slice a1 (pairsM mn mr).length c1) (pairsM mn mr), box bb2 #[.int .i64 mn, .slice a0 mn.toNat c0] 24, box bb1 #[.int .i64 0, .slice none 0 0] 24, box bb0 #[.int .i64 mn, .slice a_mr mr.length c_mr] 24, imm (.slice a_mr mr.length c_mr) mr] := HI.deep (l := [imm (.slice a1 (pairsM mn mr).length c1) (pairsM mn mr), box bb2 #[.int .i64 mn, .slice a0 mn.toNat c0] 24, box bb1 #[.int .i64 0, .slice none 0 0] 24, box bb0 #[.int .i64 mn, .slice a_mr mr.length c_mr] 24, imm (.slice a_mr mr.length c_mr) mr]) (HI.pickT (l := [imm (.slice a1 (pairsM mn mr).length c1) (pairsM mn mr), box bb2 #[.int .i64 mn, .slice a0 mn.toNat c0] 24, own w.heap.size 73 (.slice a0 mn.toNat c0) ss0, box bb1 #[.int .i64 0, .slice none 0 0] 24, box bb0 #[.int .i64 mn, .slice a_mr mr.length c_mr] 24, imm (.slice a_mr mr.length c_mr) mr]) (l' := [own w.heap.size 73 (.slice a0 mn.toNat c0) ss0, imm (.slice a1 (pairsM mn mr).length c1) (pairsM mn mr), box bb2 #[.int .i64 mn, .slice a0 mn.toNat c0] 24, box bb1 #[.int .i64 0, .slice none 0 0] 24, box bb0 #[.int .i64 mn, .slice a_mr mr.length c_mr] 24, imm (.slice a_mr mr.length c_mr) mr]) (t := rowItems w.heap.size 77 ss0 xs) H10 [2, 0, 1, 3, 4, 5] (by decide) rfl rfl) (by first | assumption | (simp only [List.length_set]; assumption) | (simp only [List.length_set, List.length_replicate] at *; omega))
    refine rg (k (ldX H11 2 rfl ty24 rfl s1 (by decide) rfl (k (stX H11 3 rfl ty24 rfl rfl s0 rfl rfl rfl rfl ?_))))
    intro w7 (H12 : HI M w w7 [own w.heap.size 73 (.slice a0 mn.toNat c0) xs, imm (.slice a1 (pairsM mn mr).length c1) (pairsM mn mr), box bb2 #[.int .i64 mn, .slice a0 mn.toNat c0] 24, box bb1 #[.int .i64 mn, .slice a0 mn.toNat c0] 24, box bb0 #[.int .i64 mn, .slice a_mr mr.length c_mr] 24, imm (.slice a_mr mr.length c_mr) mr])
    refine z (nx (rt (rc1 H12 3 rfl ty24 rfl rfl s0 rfl (by decide) ?_)))
    have e1 : (xs : List (List (BitVec 64))) = turnM mn mr := by exact turn_end hs (by omega)
    have l1 : mn.toNat = (turnM mn mr).length := by first | (rw [← e1]; omega) | (rw [turnM_len])
    have ev_ := cg1 (fun (n_1 : Nat) => (.agg #[.int .i64 mn, .slice a0 n_1 c0] : Value)) l1
    exact ⟨a0, c0, ev_, H12.below, (congrArg (fun (n_ : Nat) => OwnsG _ _ _ (turnM mn mr) (.slice a0 n_ c0) _) l1).mp ((congrArg (fun (x_ : List (List (BitVec 64))) => OwnsG _ _ _ x_ (.slice a0 mn.toNat c0) _) e1).mp (H12.ownsG_out 0 rfl))⟩
/- eyewitness/eyewitnessref03.Turn -/
set_option maxRecDepth 100000 in
set_option maxHeartbeats 1600000 in
theorem ref03_Turn {M : Nat → Prop} {w : World} {mn : Int} {a_mr : Option Addr} {c_mr : Nat} {mr : List (List (BitVec 64))} (hM : ∀ b, M b → b < w.heap.size) (h_mn : I64 mn) (h_mr : RV M w (.slice a_mr mr.length c_mr) mr) (rt_m : rightS mn mr = true) : Calls Tryd.prog 29 #[.agg #[.int .i64 mn, .slice a_mr mr.length c_mr]] w (Ret fun v w' => ∃ (a0 : Option Addr) (c0 : Nat), v = .agg #[.int .i64 mn, .slice a0 (turnM mn mr).length c0] ∧ Ext w w' ∧ RV M w' (.slice a0 (turnM mn mr).length c0) (turnM mn mr)) := by
  refine enter 37 Tryd.func29 rfl rfl rfl fun f0 ha => ?_
  have H := HI.start (M0 := M) (w := w) hM
  have H0 := H.put (it := imm (.slice a_mr mr.length c_mr) mr) rfl (by rw [MS_nil]; exact h_mr)
  have ln_mr := rv_len h_mr
  have i0 : f0 0 = .agg #[.int .i64 mn, .slice a_mr mr.length c_mr] := ha 0 (by simp)
  refine sq (rg (k (bx H0 rfl i0 ?_)))
  intro bb0 w0 xt0 (H1 : HI M w w0 [box bb0 #[.int .i64 mn, .slice a_mr mr.length c_mr] 24, imm (.slice a_mr mr.length c_mr) mr])
  refine k (al H1 ty24 ?_)
  intro bb1 w1 xt1 (H2 : HI M w w1 [box bb1 #[.int .i64 0, .slice none 0 0] 24, box bb0 #[.int .i64 mn, .slice a_mr mr.length c_mr] 24, imm (.slice a_mr mr.length c_mr) mr])
  refine z (nx (sq (rg (k (ldX H2 1 rfl ty24 rfl rfl (by decide) rfl (k ?_))))))
  have cc0 := ref03_Pairs (mn := mn) (mr := mr) (w := w1) H2.mb (by unfold I64 at *; omega) (H2.rv 2 rfl) (by exact (right_sq rt_m).1) (by exact (right_sq rt_m).2.1) (by exact (right_sq rt_m).2.2.1) (by exact (right_sq rt_m).2.2.2.2)
  refine ca go76 rfl (ec rfl e0) cc0 ?_
  rintro _ w2 ⟨a0, c0, rfl, xt2, rv0⟩
  have H3 := H2.ext xt2
  have H4 := H3.put (it := imm (.slice a0 (pairsM mn mr).length c0) (pairsM mn mr)) rfl rv0
  refine k (asg (v := .slice a0 (pairsM mn mr).length c0) rfl rfl (z (nx (sq (rg (k (fa fl24_0 rfl rfl (k (ldX H4 2 rfl ty3 rfl rfl (by decide) rfl (k ?_))))))))))
  have cc1 := ref03_New (n := mn) (w := w2) H4.mb (by unfold I64 at *; omega)
  refine ca go26 rfl (ec rfl e0) cc1 ?_
  rintro _ w3 ⟨a1, c1, rfl, xt3, rv1⟩
  have H5 := H4.ownsG rv1
  refine k (mv (v := .tuple #[.agg #[.int .i64 (newMN mn), .slice a1 (newMR mn).length c1], .int .i64 (newME mn)]) rfl rfl (k (xt rfl rfl rfl (k (xt rfl rfl rfl (k (al H5 ty24 ?_)))))))
  intro bb2 w4 xt4 (H6 : HI M w w4 [box bb2 #[.int .i64 0, .slice none 0 0] 24, own w.heap.size 73 (.slice a1 (newMR mn).length c1) (newMR mn), imm (.slice a0 (pairsM mn mr).length c0) (pairsM mn mr), box bb1 #[.int .i64 0, .slice none 0 0] 24, box bb0 #[.int .i64 mn, .slice a_mr mr.length c_mr] 24, imm (.slice a_mr mr.length c_mr) mr])
  refine k (stX H6 0 rfl ty24 rfl rfl rfl rfl rfl rfl rfl ?_)
  intro w5 (H7 : HI M w w5 [box bb2 #[.int .i64 (newMN mn), .slice a1 (newMR mn).length c1] 24, own w.heap.size 73 (.slice a1 (newMR mn).length c1) (newMR mn), imm (.slice a0 (pairsM mn mr).length c0) (pairsM mn mr), box bb1 #[.int .i64 0, .slice none 0 0] 24, box bb0 #[.int .i64 mn, .slice a_mr mr.length c_mr] 24, imm (.slice a_mr mr.length c_mr) mr])
  refine k (asg (v := .int .i64 (newME mn)) rfl rfl (z (nx (sq (sq (rg (k (asg (v := .int .i64 0) rfl rfl (z (nx (bk ?_)))))))))))
  have H8 := H7.freeze 1 rfl
  have H9 := H8.put (it := imm (.slice a1 (newMR mn).length c1) (newMR mn)) rfl (H8.rv 1 rfl)
  refine lp (fun m f w' => ∃ (j : Nat) (n_ : Int) (rs : List (List (BitVec 64))) (a2 : Option Addr) (c2 : Nat), m = (pairsM mn mr).length - j ∧ f 2 = .pointer (some ⟨bb1, 0, none⟩) ∧ f 3 = .slice a0 (pairsM mn mr).length c0 ∧ f 4 = .pointer (some ⟨bb2, 0, none⟩) ∧ f 6 = .int .i64 (j : Int) ∧  HI M w w' [imm (.slice a2 rs.length c2) rs, box bb2 #[.int .i64 n_, .slice a2 rs.length c2] 24, imm (.slice a1 (newMR mn).length c1) (newMR mn), imm (.slice a0 (pairsM mn mr).length c0) (pairsM mn mr), box bb1 #[.int .i64 0, .slice none 0 0] 24, box bb0 #[.int .i64 mn, .slice a_mr mr.length c_mr] 24, imm (.slice a_mr mr.length c_mr) mr] ∧ (j ≤ (pairsM mn mr).length) ∧ (n_ = mn) ∧ (rs = foldM mn (((pairsM mn mr).map swapP).take j))) _ ⟨0, (newMN mn), (newMR mn), a1, c1, rfl, rfl, rfl, rfl, (ieq rfl (by first | rfl | omega | simp)), H9, (by first | assumption | omega | simp | (simp; omega)), (by exact (newM_yes (right_ok rt_m)).1), (by rw [(newM_yes (right_ok rt_m)).2.1]; rfl)⟩ ?_
  rintro _ f0 w6 ⟨j, n_, rs, a2, c2, rfl, s0, s1, s2, s3, H10, hk, h1, h2⟩
  refine sq (sq (rg (k (mv rfl s3 (k (mv rfl s1 (k (lnS rfl rfl un31 (k (lss rfl rfl rfl rfl (z (nx ?_))))))))))))
  refine cd (b := decide ((j : Int) < ((pairsM mn mr).length : Int))) rfl rfl (fun b0 => ?_) (fun b0 => ?_)
  ·
    have p0 := of_decide_eq_true b0
    refine sk (nx (sq (bk ?_)))
    obtain ⟨x0, hx0⟩ : ∃ x, (pairsM mn mr)[(j : Int).toNat]? = some x := ⟨_, List.getElem?_eq_getElem (by first | omega | (simp; omega))⟩
    refine dr3 13 [fun (v : Value) (w' : World) => v = .agg #[.int .i64 n_, .slice a2 rs.length c2], fun (v : Value) (w' : World) => v = .slice a0 (pairsM mn mr).length c0, fun (v : Value) (w' : World) => v = .int .i64 (j : Int), fun (v : Value) (w' : World) => ∃ (ad0 : Addr), v = .pointer (some ad0) ∧ At (MS M [imm (.slice a2 rs.length c2) rs, box bb2 #[.int .i64 n_, .slice a2 rs.length c2] 24, imm (.slice a1 (newMR mn).length c1) (newMR mn), imm (.slice a0 (pairsM mn mr).length c0) (pairsM mn mr), box bb1 #[.int .i64 0, .slice none 0 0] 24, box bb0 #[.int .i64 mn, .slice a_mr mr.length c_mr] 24, imm (.slice a_mr mr.length c_mr) mr]) w' ad0 x0, fun (v : Value) (w' : World) => ∃ (ad0 : Addr), v = .pointer (some ((ad0).add 1)) ∧ At (MS M [imm (.slice a2 rs.length c2) rs, box bb2 #[.int .i64 n_, .slice a2 rs.length c2] 24, imm (.slice a1 (newMR mn).length c1) (newMR mn), imm (.slice a0 (pairsM mn mr).length c0) (pairsM mn mr), box bb1 #[.int .i64 0, .slice none 0 0] 24, box bb0 #[.int .i64 mn, .slice a_mr mr.length c_mr] 24, imm (.slice a_mr mr.length c_mr) mr]) w' ad0 x0, fun (v : Value) (w' : World) => v = .int .i64 x0.2 ∧ I64 (x0.2), fun (v : Value) (w' : World) => v = .slice a0 (pairsM mn mr).length c0, fun (v : Value) (w' : World) => v = .int .i64 (j : Int), fun (v : Value) (w' : World) => ∃ (ad1 : Addr), v = .pointer (some ad1) ∧ At (MS M [imm (.slice a2 rs.length c2) rs, box bb2 #[.int .i64 n_, .slice a2 rs.length c2] 24, imm (.slice a1 (newMR mn).length c1) (newMR mn), imm (.slice a0 (pairsM mn mr).length c0) (pairsM mn mr), box bb1 #[.int .i64 0, .slice none 0 0] 24, box bb0 #[.int .i64 mn, .slice a_mr mr.length c_mr] 24, imm (.slice a_mr mr.length c_mr) mr]) w' ad1 x0, fun (v : Value) (w' : World) => ∃ (ad1 : Addr), v = .pointer (some ((ad1).add 0)) ∧ At (MS M [imm (.slice a2 rs.length c2) rs, box bb2 #[.int .i64 n_, .slice a2 rs.length c2] 24, imm (.slice a1 (newMR mn).length c1) (newMR mn), imm (.slice a0 (pairsM mn mr).length c0) (pairsM mn mr), box bb1 #[.int .i64 0, .slice none 0 0] 24, box bb0 #[.int .i64 mn, .slice a_mr mr.length c_mr] 24, imm (.slice a_mr mr.length c_mr) mr]) w' ad1 x0, fun (v : Value) (w' : World) => v = .int .i64 x0.1 ∧ I64 (x0.1), fun (v : Value) (w' : World) => ∃ (a3 : Option Addr) (c3 : Nat), v = .tuple #[.agg #[.int .i64 (setMN n_ x0.2 x0.1), .slice a3 (setMR n_ rs x0.2 x0.1).length c3], .int .i64 (setME n_ x0.2 x0.1)] ∧ RV (MS M [imm (.slice a2 rs.length c2) rs, box bb2 #[.int .i64 n_, .slice a2 rs.length c2] 24, imm (.slice a1 (newMR mn).length c1) (newMR mn), imm (.slice a0 (pairsM mn mr).length c0) (pairsM mn mr), box bb1 #[.int .i64 0, .slice none 0 0] 24, box bb0 #[.int .i64 mn, .slice a_mr mr.length c_mr] 24, imm (.slice a_mr mr.length c_mr) mr]) w' (.slice a3 (setMR n_ rs x0.2 x0.1).length c3) (setMR n_ rs x0.2 x0.1), fun (v : Value) (w' : World) => ∃ (a3 : Option Addr) (c3 : Nat), v = .tuple #[.agg #[.int .i64 (setMN n_ x0.2 x0.1), .slice a3 (setMR n_ rs x0.2 x0.1).length c3], .int .i64 (setME n_ x0.2 x0.1)] ∧ RV (MS M [imm (.slice a2 rs.length c2) rs, box bb2 #[.int .i64 n_, .slice a2 rs.length c2] 24, imm (.slice a1 (newMR mn).length c1) (newMR mn), imm (.slice a0 (pairsM mn mr).length c0) (pairsM mn mr), box bb1 #[.int .i64 0, .slice none 0 0] 24, box bb0 #[.int .i64 mn, .slice a_mr mr.length c_mr] 24, imm (.slice a_mr mr.length c_mr) mr]) w' (.slice a3 (setMR n_ rs x0.2 x0.1).length c3) (setMR n_ rs x0.2 x0.1)] rfl (by kernel_rfl) ?_ ?_
    ·
      refine ⟨fun _ => ⟨fun f1 w8 hf0 xt6 hp0 => ?_, fun _ _ _ _ h => h⟩, ?_⟩
      ·
        have H13 := H10.ext xt6
        refine ldX H13 1 rfl ty24 rfl ((hf0 4 rfl).trans s2) (by decide) rfl ?_
        exact ⟨_, rfl, Ext.refl _, rfl⟩
      refine ⟨fun _ => ⟨fun f2 w9 hf1 xt7 hp1 => ?_, fun _ _ _ _ h => h⟩, ?_⟩
      ·
        have H14 := H10.ext xt7
        refine mv rfl ((hf1 3 rfl).trans s1) ?_
        exact ⟨_, rfl, Ext.refl _, rfl⟩
      refine ⟨fun _ => ⟨fun f3 w10 hf2 xt8 hp2 => ?_, fun _ _ _ _ h => h⟩, ?_⟩
      ·
        have H15 := H10.ext xt8
        refine mv rfl ((hf2 6 rfl).trans s3) ?_
        exact ⟨_, rfl, Ext.refl _, rfl⟩
      refine ⟨fun _ => ⟨fun f4 w11 hf3 xt9 hp3 => ?_, by rintro _ _ _ x_ ⟨ad0, e_, hA0⟩; exact ⟨ad0, e_, hA0.lift (Up.ext x_)⟩⟩, ?_⟩
      ·
        have H16 := H10.ext xt9
        have s4 : f4 23 = .slice a0 (pairsM mn mr).length c0 := hp3 1 rfl rfl
        have s5 : f4 24 = .int .i64 (j : Int) := hp3 2 rfl rfl
        refine ia (H16.rv 3 rfl) rfl rfl s4 s5 (by first | omega | (simp; omega)) un31 ty76 ?_
        intro ad2 x2 hx2 hA2
        obtain rfl : x0 = x2 := Option.some.inj (hx0.symm.trans hx2)
        exact ⟨_, rfl, Ext.refl _, ⟨ad2, rfl, hA2⟩⟩
      refine ⟨fun _ => ⟨fun f5 w12 hf4 xt10 hp4 => ?_, by rintro _ _ _ x_ ⟨ad0, e_, hA0⟩; exact ⟨ad0, e_, hA0.lift (Up.ext x_)⟩⟩, ?_⟩
      ·
        have H17 := H10.ext xt10
        obtain ⟨ad3, s6, hA3⟩ : ∃ (ad3 : Addr), f5 25 = .pointer (some ad3) ∧ At (MS M [imm (.slice a2 rs.length c2) rs, box bb2 #[.int .i64 n_, .slice a2 rs.length c2] 24, imm (.slice a1 (newMR mn).length c1) (newMR mn), imm (.slice a0 (pairsM mn mr).length c0) (pairsM mn mr), box bb1 #[.int .i64 0, .slice none 0 0] 24, box bb0 #[.int .i64 mn, .slice a_mr mr.length c_mr] 24, imm (.slice a_mr mr.length c_mr) mr]) w12 ad3 x0 := hp4 3 rfl rfl
        have H18 := H17.put (it := atI ad3 x0) rfl hA3
        refine iaA rfl rfl s6 rfl (by omega) un76 ty3 ?_
        exact ⟨_, rfl, Ext.refl _, ⟨ad3, rfl, (by assumption)⟩⟩
      refine ⟨fun _ => ⟨fun f6 w13 hf5 xt11 hp5 => ?_, fun _ _ _ _ h => h⟩, ?_⟩
      ·
        have H19 := H10.ext xt11
        obtain ⟨ad4, s7, hA4⟩ : ∃ (ad4 : Addr), f6 26 = .pointer (some ((ad4).add 1)) ∧ At (MS M [imm (.slice a2 rs.length c2) rs, box bb2 #[.int .i64 n_, .slice a2 rs.length c2] 24, imm (.slice a1 (newMR mn).length c1) (newMR mn), imm (.slice a0 (pairsM mn mr).length c0) (pairsM mn mr), box bb1 #[.int .i64 0, .slice none 0 0] 24, box bb0 #[.int .i64 mn, .slice a_mr mr.length c_mr] 24, imm (.slice a_mr mr.length c_mr) mr]) w13 ad4 x0 := hp5 4 rfl rfl
        have H20 := H19.put (it := atI ad4 x0) rfl hA4
        refine ldI ((H20.atv 0 rfl)).snd.w ty3 rfl s7 ?_
        intro rv6
        exact ⟨_, rfl, Ext.refl _, ⟨rfl, rv6⟩⟩
      refine ⟨fun _ => ⟨fun f7 w14 hf6 xt12 hp6 => ?_, fun _ _ _ _ h => h⟩, ?_⟩
      ·
        have H21 := H10.ext xt12
        refine mv rfl ((hf6 3 rfl).trans s1) ?_
        exact ⟨_, rfl, Ext.refl _, rfl⟩
      refine ⟨fun _ => ⟨fun f8 w15 hf7 xt13 hp7 => ?_, fun _ _ _ _ h => h⟩, ?_⟩
      ·
        have H22 := H10.ext xt13
        refine mv rfl ((hf7 6 rfl).trans s3) ?_
        exact ⟨_, rfl, Ext.refl _, rfl⟩
      refine ⟨fun _ => ⟨fun f9 w16 hf8 xt14 hp8 => ?_, by rintro _ _ _ x_ ⟨ad1, e_, hA1⟩; exact ⟨ad1, e_, hA1.lift (Up.ext x_)⟩⟩, ?_⟩
      ·
        have H23 := H10.ext xt14
        have s8 : f9 28 = .slice a0 (pairsM mn mr).length c0 := hp8 6 rfl rfl
        have s9 : f9 29 = .int .i64 (j : Int) := hp8 7 rfl rfl
        refine ia (H23.rv 3 rfl) rfl rfl s8 s9 (by first | omega | (simp; omega)) un31 ty76 ?_
        intro ad5 x3 hx3 hA5
        obtain rfl : x0 = x3 := Option.some.inj (hx0.symm.trans hx3)
        exact ⟨_, rfl, Ext.refl _, ⟨ad5, rfl, hA5⟩⟩
      refine ⟨fun _ => ⟨fun f10 w17 hf9 xt15 hp9 => ?_, by rintro _ _ _ x_ ⟨ad1, e_, hA1⟩; exact ⟨ad1, e_, hA1.lift (Up.ext x_)⟩⟩, ?_⟩
      ·
        have H24 := H10.ext xt15
        obtain ⟨ad6, s10, hA6⟩ : ∃ (ad6 : Addr), f10 30 = .pointer (some ad6) ∧ At (MS M [imm (.slice a2 rs.length c2) rs, box bb2 #[.int .i64 n_, .slice a2 rs.length c2] 24, imm (.slice a1 (newMR mn).length c1) (newMR mn), imm (.slice a0 (pairsM mn mr).length c0) (pairsM mn mr), box bb1 #[.int .i64 0, .slice none 0 0] 24, box bb0 #[.int .i64 mn, .slice a_mr mr.length c_mr] 24, imm (.slice a_mr mr.length c_mr) mr]) w17 ad6 x0 := hp9 8 rfl rfl
        have H25 := H24.put (it := atI ad6 x0) rfl hA6
        refine iaA rfl rfl s10 rfl (by omega) un76 ty3 ?_
        exact ⟨_, rfl, Ext.refl _, ⟨ad6, rfl, (by assumption)⟩⟩
      refine ⟨fun _ => ⟨fun f11 w18 hf10 xt16 hp10 => ?_, fun _ _ _ _ h => h⟩, ?_⟩
      ·
        have H26 := H10.ext xt16
        obtain ⟨ad7, s11, hA7⟩ : ∃ (ad7 : Addr), f11 31 = .pointer (some ((ad7).add 0)) ∧ At (MS M [imm (.slice a2 rs.length c2) rs, box bb2 #[.int .i64 n_, .slice a2 rs.length c2] 24, imm (.slice a1 (newMR mn).length c1) (newMR mn), imm (.slice a0 (pairsM mn mr).length c0) (pairsM mn mr), box bb1 #[.int .i64 0, .slice none 0 0] 24, box bb0 #[.int .i64 mn, .slice a_mr mr.length c_mr] 24, imm (.slice a_mr mr.length c_mr) mr]) w18 ad7 x0 := hp10 9 rfl rfl
        have H27 := H26.put (it := atI ad7 x0) rfl hA7
        refine ldI ((H27.atv 0 rfl)).fst.w ty3 rfl s11 ?_
        intro rv7
        exact ⟨_, rfl, Ext.refl _, ⟨rfl, rv7⟩⟩
      refine ⟨fun _ => ⟨fun f12 w19 hf11 xt17 hp11 => ?_, by rintro _ _ _ x_ ⟨a3, c3, e_, rv5⟩; exact ⟨a3, c3, e_, rv5.lift (Up.ext x_)⟩⟩, ?_⟩
      ·
        have H28 := H10.ext xt17
        have s12 : f12 22 = .agg #[.int .i64 n_, .slice a2 rs.length c2] := hp11 0 rfl rfl
        obtain ⟨s13, rv8⟩ : f12 27 = .int .i64 x0.2 ∧ I64 (x0.2) := hp11 5 rfl rfl
        obtain ⟨s14, rv9⟩ : f12 32 = .int .i64 x0.1 ∧ I64 (x0.1) := hp11 10 rfl rfl
        have cc3 := ref03_Set (mn := n_) (mr := rs) (i := x0.2) (j := x0.1) (w := w19) H28.mb (by rw [h1]; exact h_mn) (H28.rv 0 rfl) (by unfold I64 at *; omega) (by unfold I64 at *; omega) (by rw [h1, h2]; exact (fold_sq rt_m _).1) (by rw [h2]; exact (fold_sq rt_m _).2) (by rw [h1]; exact (right_sq rt_m).2.2.1)
        refine ca go28 rfl (ec s12 (ec s13 (ec s14 e0))) cc3 ?_
        rintro _ w20 ⟨a4, c4, rfl, xt18, rv10⟩
        have rv11 := OwnsG.rv rv10 H28.mb
        have H29 := H28.ext xt18
        have H30 := H29.put (it := imm (.slice a4 (setMR n_ rs x0.2 x0.1).length c4) (setMR n_ rs x0.2 x0.1)) rfl rv11
        exact ⟨_, rfl, xt18, ⟨a4, c4, rfl, rv11⟩⟩
      refine ⟨fun _ => ⟨fun f13 w21 hf12 xt19 hp12 => ?_, by rintro _ _ _ x_ ⟨a3, c3, e_, rv5⟩; exact ⟨a3, c3, e_, rv5.lift (Up.ext x_)⟩⟩, ?_⟩
      ·
        have H31 := H10.ext xt19
        obtain ⟨a5, c5, s15, rv12⟩ : ∃ (a5 : Option Addr) (c5 : Nat), f13 33 = .tuple #[.agg #[.int .i64 (setMN n_ x0.2 x0.1), .slice a5 (setMR n_ rs x0.2 x0.1).length c5], .int .i64 (setME n_ x0.2 x0.1)] ∧ RV (MS M [imm (.slice a2 rs.length c2) rs, box bb2 #[.int .i64 n_, .slice a2 rs.length c2] 24, imm (.slice a1 (newMR mn).length c1) (newMR mn), imm (.slice a0 (pairsM mn mr).length c0) (pairsM mn mr), box bb1 #[.int .i64 0, .slice none 0 0] 24, box bb0 #[.int .i64 mn, .slice a_mr mr.length c_mr] 24, imm (.slice a_mr mr.length c_mr) mr]) w21 (.slice a5 (setMR n_ rs x0.2 x0.1).length c5) (setMR n_ rs x0.2 x0.1) := hp12 11 rfl rfl
        have H32 := H31.put (it := imm (.slice a5 (setMR n_ rs x0.2 x0.1).length c5) (setMR n_ rs x0.2 x0.1)) rfl rv12
        refine mv rfl s15 ?_
        exact ⟨_, rfl, Ext.refl _, ⟨a5, c5, rfl, rv12⟩⟩
      exact DSteps.rest rfl _
    · intro f14 w22 hf13 xt20 hp13
      have H33 := H10.ext xt20
      have s16 : f14 2 = .pointer (some ⟨bb1, 0, none⟩) := (hf13 2 rfl).trans s0
      have s17 : f14 3 = .slice a0 (pairsM mn mr).length c0 := (hf13 3 rfl).trans s1
      have s18 : f14 4 = .pointer (some ⟨bb2, 0, none⟩) := (hf13 4 rfl).trans s2
      have s19 : f14 6 = .int .i64 (j : Int) := (hf13 6 rfl).trans s3
      obtain ⟨a6, c6, s20, rv13⟩ : ∃ (a6 : Option Addr) (c6 : Nat), f14 21 = .tuple #[.agg #[.int .i64 (setMN n_ x0.2 x0.1), .slice a6 (setMR n_ rs x0.2 x0.1).length c6], .int .i64 (setME n_ x0.2 x0.1)] ∧ RV (MS M [imm (.slice a2 rs.length c2) rs, box bb2 #[.int .i64 n_, .slice a2 rs.length c2] 24, imm (.slice a1 (newMR mn).length c1) (newMR mn), imm (.slice a0 (pairsM mn mr).length c0) (pairsM mn mr), box bb1 #[.int .i64 0, .slice none 0 0] 24, box bb0 #[.int .i64 mn, .slice a_mr mr.length c_mr] 24, imm (.slice a_mr mr.length c_mr) mr]) w22 (.slice a6 (setMR n_ rs x0.2 x0.1).length c6) (setMR n_ rs x0.2 x0.1) := hp13 12 rfl
      have H34 := H33.put (it := imm (.slice a6 (setMR n_ rs x0.2 x0.1).length c6) (setMR n_ rs x0.2 x0.1)) rfl rv13
      show TA _ _ _ _ 3 [true, true, true, true, true, true, true, true, true, true, true, true, true, false, false, false] _ _
      refine ta [13, 14] (by kernel_rfl) rfl ⟨⟨_, rfl, ?_⟩, ⟨_, rfl, ?_⟩, trivial⟩
      ·
        refine xt rfl s20 rfl ?_
        refine ta [14, 15] (by kernel_rfl) rfl ⟨⟨_, rfl, ?_⟩, ⟨_, rfl, ?_⟩, trivial⟩
        ·
          refine xt rfl s20 rfl ?_
          refine ta [15] (by kernel_rfl) rfl ⟨⟨_, rfl, ?_⟩, trivial⟩
          ·
            refine stX H34 2 rfl ty24 rfl rfl s18 rfl rfl rfl rfl ?_
            intro w23 (H35 : HI M w w23 [imm (.slice a6 (setMR n_ rs x0.2 x0.1).length c6) (setMR n_ rs x0.2 x0.1), imm (.slice a2 rs.length c2) rs, box bb2 #[.int .i64 (setMN n_ x0.2 x0.1), .slice a6 (setMR n_ rs x0.2 x0.1).length c6] 24, imm (.slice a1 (newMR mn).length c1) (newMR mn), imm (.slice a0 (pairsM mn mr).length c0) (pairsM mn mr), box bb1 #[.int .i64 0, .slice none 0 0] 24, box bb0 #[.int .i64 mn, .slice a_mr mr.length c_mr] 24, imm (.slice a_mr mr.length c_mr) mr])
            refine ta0 (by kernel_rfl) (inb_normal (nx (rg (k (mv rfl s19 (k (add rfl rfl rfl rfl (by have h_ := right_pairs rt_m; unfold I64; omega) (k (asg (v := .int .i64 ((j : Int) + 1)) rfl rfl (z ?_))))))))))
            have H36 := H35.put (it := imm (.slice a6 (setMR n_ rs x0.2 x0.1).length c6) (setMR n_ rs x0.2 x0.1)) rfl (H35.rv 0 rfl)
            have H37 : HI M w w23 [imm (.slice a6 (setMR n_ rs x0.2 x0.1).length c6) (setMR n_ rs x0.2 x0.1), box bb2 #[.int .i64 (setMN n_ x0.2 x0.1), .slice a6 (setMR n_ rs x0.2 x0.1).length c6] 24, imm (.slice a1 (newMR mn).length c1) (newMR mn), imm (.slice a0 (pairsM mn mr).length c0) (pairsM mn mr), box bb1 #[.int .i64 0, .slice none 0 0] 24, box bb0 #[.int .i64 mn, .slice a_mr mr.length c_mr] 24, imm (.slice a_mr mr.length c_mr) mr] := H36.pickN [0, 3, 4, 5, 6, 7, 8] (by decide) rfl
            refine loopN _ ?_ ⟨(j + 1), (setMN n_ x0.2 x0.1), (setMR n_ rs x0.2 x0.1), a6, c6, rfl, s16, s17, s18, (ieq rfl (by first | rfl | omega | (push_cast; omega))), H37, (by first | assumption | omega | simp | (simp; omega)), (by rw [h1]; exact (turn_set rt_m h2 hx0).1), (by rw [h1]; exact (turn_set rt_m h2 hx0).2.1)⟩
            omega
        ·
          refine stX H34 2 rfl ty24 rfl rfl s18 rfl rfl rfl rfl ?_
          intro w23 (H35 : HI M w w23 [imm (.slice a6 (setMR n_ rs x0.2 x0.1).length c6) (setMR n_ rs x0.2 x0.1), imm (.slice a2 rs.length c2) rs, box bb2 #[.int .i64 (setMN n_ x0.2 x0.1), .slice a6 (setMR n_ rs x0.2 x0.1).length c6] 24, imm (.slice a1 (newMR mn).length c1) (newMR mn), imm (.slice a0 (pairsM mn mr).length c0) (pairsM mn mr), box bb1 #[.int .i64 0, .slice none 0 0] 24, box bb0 #[.int .i64 mn, .slice a_mr mr.length c_mr] 24, imm (.slice a_mr mr.length c_mr) mr])
          refine ta [14] (by kernel_rfl) rfl ⟨⟨_, rfl, ?_⟩, trivial⟩
          ·
            refine xt rfl s20 rfl (ta0 (by kernel_rfl) (inb_normal (nx (rg (k (mv rfl s19 (k (add rfl rfl rfl rfl (by have h_ := right_pairs rt_m; unfold I64; omega) (k (asg (v := .int .i64 ((j : Int) + 1)) rfl rfl (z ?_)))))))))))
            have H36 := H35.put (it := imm (.slice a6 (setMR n_ rs x0.2 x0.1).length c6) (setMR n_ rs x0.2 x0.1)) rfl (H35.rv 0 rfl)
            have H37 : HI M w w23 [imm (.slice a6 (setMR n_ rs x0.2 x0.1).length c6) (setMR n_ rs x0.2 x0.1), box bb2 #[.int .i64 (setMN n_ x0.2 x0.1), .slice a6 (setMR n_ rs x0.2 x0.1).length c6] 24, imm (.slice a1 (newMR mn).length c1) (newMR mn), imm (.slice a0 (pairsM mn mr).length c0) (pairsM mn mr), box bb1 #[.int .i64 0, .slice none 0 0] 24, box bb0 #[.int .i64 mn, .slice a_mr mr.length c_mr] 24, imm (.slice a_mr mr.length c_mr) mr] := H36.pickN [0, 3, 4, 5, 6, 7, 8] (by decide) rfl
            refine loopN _ ?_ ⟨(j + 1), (setMN n_ x0.2 x0.1), (setMR n_ rs x0.2 x0.1), a6, c6, rfl, s16, s17, s18, (ieq rfl (by first | rfl | omega | (push_cast; omega))), H37, (by first | assumption | omega | simp | (simp; omega)), (by rw [h1]; exact (turn_set rt_m h2 hx0).1), (by rw [h1]; exact (turn_set rt_m h2 hx0).2.1)⟩
            omega
      ·
        refine xt rfl s20 rfl ?_
        refine ta [13] (by kernel_rfl) rfl ⟨⟨_, rfl, ?_⟩, trivial⟩
        ·
          refine xt rfl s20 rfl ?_
          refine ta [15] (by kernel_rfl) rfl ⟨⟨_, rfl, ?_⟩, trivial⟩
          ·
            refine stX H34 2 rfl ty24 rfl rfl s18 rfl rfl rfl rfl ?_
            intro w23 (H35 : HI M w w23 [imm (.slice a6 (setMR n_ rs x0.2 x0.1).length c6) (setMR n_ rs x0.2 x0.1), imm (.slice a2 rs.length c2) rs, box bb2 #[.int .i64 (setMN n_ x0.2 x0.1), .slice a6 (setMR n_ rs x0.2 x0.1).length c6] 24, imm (.slice a1 (newMR mn).length c1) (newMR mn), imm (.slice a0 (pairsM mn mr).length c0) (pairsM mn mr), box bb1 #[.int .i64 0, .slice none 0 0] 24, box bb0 #[.int .i64 mn, .slice a_mr mr.length c_mr] 24, imm (.slice a_mr mr.length c_mr) mr])
            refine ta0 (by kernel_rfl) (inb_normal (nx (rg (k (mv rfl s19 (k (add rfl rfl rfl rfl (by have h_ := right_pairs rt_m; unfold I64; omega) (k (asg (v := .int .i64 ((j : Int) + 1)) rfl rfl (z ?_))))))))))
            have H36 := H35.put (it := imm (.slice a6 (setMR n_ rs x0.2 x0.1).length c6) (setMR n_ rs x0.2 x0.1)) rfl (H35.rv 0 rfl)
            have H37 : HI M w w23 [imm (.slice a6 (setMR n_ rs x0.2 x0.1).length c6) (setMR n_ rs x0.2 x0.1), box bb2 #[.int .i64 (setMN n_ x0.2 x0.1), .slice a6 (setMR n_ rs x0.2 x0.1).length c6] 24, imm (.slice a1 (newMR mn).length c1) (newMR mn), imm (.slice a0 (pairsM mn mr).length c0) (pairsM mn mr), box bb1 #[.int .i64 0, .slice none 0 0] 24, box bb0 #[.int .i64 mn, .slice a_mr mr.length c_mr] 24, imm (.slice a_mr mr.length c_mr) mr] := H36.pickN [0, 3, 4, 5, 6, 7, 8] (by decide) rfl
            refine loopN _ ?_ ⟨(j + 1), (setMN n_ x0.2 x0.1), (setMR n_ rs x0.2 x0.1), a6, c6, rfl, s16, s17, s18, (ieq rfl (by first | rfl | omega | (push_cast; omega))), H37, (by first | assumption | omega | simp | (simp; omega)), (by rw [h1]; exact (turn_set rt_m h2 hx0).1), (by rw [h1]; exact (turn_set rt_m h2 hx0).2.1)⟩
            omega
  ·
    have p0 := of_decide_eq_false b0
    refine ex (then_exit (loop_exit (inb_here (nx (sq (rg (k (ldX H10 1 rfl ty24 rfl s2 (by decide) rfl (k (stX H10 4 rfl ty24 rfl rfl s0 rfl rfl rfl rfl ?_))))))))))
    intro w7 (H11 : HI M w w7 [imm (.slice a2 rs.length c2) rs, box bb2 #[.int .i64 n_, .slice a2 rs.length c2] 24, imm (.slice a1 (newMR mn).length c1) (newMR mn), imm (.slice a0 (pairsM mn mr).length c0) (pairsM mn mr), box bb1 #[.int .i64 n_, .slice a2 rs.length c2] 24, box bb0 #[.int .i64 mn, .slice a_mr mr.length c_mr] 24, imm (.slice a_mr mr.length c_mr) mr])
    refine z (nx (rt (rc1 H11 4 rfl ty24 rfl rfl s0 rfl (by decide) ?_)))
    have e0 : (n_ : Int) = mn := by exact h1
    have e1 : (rs : List (List (BitVec 64))) = turnM mn mr := by rw [h2]; exact turn_end (xs := foldM mn (((pairsM mn mr).map swapP).take j)) rfl (by omega)
    have ev_ := cg2 (fun (x_0 : Int) (x_1 : List (List (BitVec 64))) => (.agg #[.int .i64 x_0, .slice a2 x_1.length c2] : Value)) e0 e1
    exact ⟨a2, c2, ev_, H11.below, (congrArg (fun (x_ : List (List (BitVec 64))) => RV _ _ (.slice a2 x_.length c2) x_) e1).mp (H11.gives_out 0 rfl)⟩
end Go.Proofs.YtmhopljngkgidaaDoor
