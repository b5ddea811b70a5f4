/- PRINTED by my own tool (wip/tool/gen.py): contracts of Go functions of this seat, each with its proof. -/
import Derived.Test.YtmhopljngkgidaaDoorOwnA
import Derived.Test.YtmhopljngkgidaaDoorOwnB
import Derived.Test.YtmhopljngkgidaaDoorGenA
namespace Go.Proofs.YtmhopljngkgidaaDoor
open Go.Ew Go.RowKit
set_option linter.unusedVariables false
set_option linter.unusedSimpArgs false
attribute [local irreducible] WL WC SO Code.wp wpList retQ Ret
attribute [local irreducible] bitB hasW inR hasR setR countW countR subR words newR listR orR firstW tab8
theorem ty4 : TyF Tryd.prog 4 1 false 1 (.bool false) := ⟨by kernel_rfl, by kernel_rfl⟩
theorem un111 : Tryd.prog.underlying 111 = some (.slice 4) := by kernel_rfl
theorem go77 : GoF Tryd.prog 77 := ⟨_, _, Tryd.func77, rfl, by kernel_rfl⟩
theorem go30 : GoF Tryd.prog 30 := ⟨_, _, Tryd.func30, rfl, by kernel_rfl⟩
set_option maxRecDepth 100000 in
set_option maxHeartbeats 1600000 in
theorem ref04_Reach {M : Nat → Prop} {w : World} {mn : Int} {a_mr : Option Addr} {c_mr : Nat} {mr : List (List (BitVec 64))} {i : Int} (hM : ∀ b, M b → b < w.heap.size) (h_mn : I64 mn) (h_mr : RV M w (.slice a_mr mr.length c_mr) mr) (h_i : I64 i) (rt_m : rightS mn mr = true) (hi0 : 0 ≤ i) (hi1 : i < mn) : Calls Tryd.prog 77 #[.agg #[.int .i64 mn, .slice a_mr mr.length c_mr], .int .i64 i] w (Ret fun v w' => ∃ (a0 : Option Addr) (c0 : Nat), v = .slice a0 (lst mn.toNat (cl mn.toNat (relM mr) i.toNat)).length c0 ∧ Ext w w' ∧ OwnsG M 3 w (lst mn.toNat (cl mn.toNat (relM mr) i.toNat)) (.slice a0 (lst mn.toNat (cl mn.toNat (relM mr) i.toNat)).length c0) w') := by
  refine enter 63 Tryd.func77 rfl rfl rfl fun f0 ha => ?_
  have H := HI.start (M0 := M) (w := w) hM
  have H0 := H.put (it := imm (.slice a_mr mr.length c_mr) mr) rfl (by rw [MS_nil]; exact h_mr)
  have ln_mr := rv_len h_mr
  have i0 : f0 0 = .agg #[.int .i64 mn, .slice a_mr mr.length c_mr] := ha 0 (by simp)
  have i1 : f0 1 = .int .i64 i := ha 1 (by simp)
  have hl_ := (right_sq rt_m).1; have h4_ := (right_sq rt_m).2.2.1; have h0_ := right_pos rt_m
  refine sq (rg (k (bx H0 rfl i0 ?_)))
  intro bb0 w0 xt0 (H1 : HI M w w0 [box bb0 #[.int .i64 mn, .slice a_mr mr.length c_mr] 24, imm (.slice a_mr mr.length c_mr) mr])
  refine k (asg (v := .slice none 0 0) rfl rfl (z (nx (sq (rg (k (asg (v := .slice none 0 0) rfl rfl (z (nx (sq (rg (k (fa fl24_0 rfl rfl (k (ldX H1 0 rfl ty3 rfl rfl (by decide) rfl (k ?_))))))))))))))))
  have n0 : ((mn.toNat : Nat) : Int) = mn := Int.toNat_of_nonneg (by omega)
  refine mk (m := mn.toNat) (zx := (false : Bool)) H1 rfl rfl (by rw [n0]; exact rfl) (by rw [n0]; exact rfl) un111 ty4 (fun _ _ => rfl) (by omega) (by omega) ?_
  intro g0 w1 xt1 (H2 : HI M w w1 [own w.heap.size 4 (.slice (some ⟨g0, 0, none⟩) mn.toNat mn.toNat) (List.replicate mn.toNat (false : Bool)), box bb0 #[.int .i64 mn, .slice a_mr mr.length c_mr] 24, imm (.slice a_mr mr.length c_mr) mr])
  refine k (asg (v := .slice (some ⟨g0, 0, none⟩) mn.toNat mn.toNat) rfl rfl (z (nx (sq (rg (k (mv rfl i1 (k (bs (xs := ([i] : List Int)) (cells := #[.int .i64 i]) (e := 3) H2 rfl (pbc rfl pb0) (fun _ => by kernel_rfl) ⟨[.int .i64 i], [], rfl, ⟨rfl, (show I64 (i) from (by unfold I64 at *; omega))⟩, rfl⟩ rfl (by unfold maxLen; omega) ?_)))))))))
  intro g1 w2 xt2 (H3 : HI M w w2 [own w.heap.size 3 (.slice (some ⟨g1, 0, none⟩) 1 1) ([i] : List Int), own w.heap.size 4 (.slice (some ⟨g0, 0, none⟩) mn.toNat mn.toNat) (List.replicate mn.toNat (false : Bool)), box bb0 #[.int .i64 mn, .slice a_mr mr.length c_mr] 24, imm (.slice a_mr mr.length c_mr) mr])
  refine k (asg (v := .slice (some ⟨g1, 0, none⟩) 1 1) rfl rfl (z (nx (sq (bk ?_)))))
  have H4 : HI M w w2 [ownQ w.heap.size 3 (.slice (some ⟨g1, 0, none⟩) 1 1) ([i] : List Int), own w.heap.size 4 (.slice (some ⟨g0, 0, none⟩) mn.toNat mn.toNat) (List.replicate mn.toNat (false : Bool)), box bb0 #[.int .i64 mn, .slice a_mr mr.length c_mr] 24, imm (.slice a_mr mr.length c_mr) mr] := H3.toQ 0 rfl
  refine lp (fun m f w' => ∃ (sn : List Bool) (td : List Int) (a0 : Option Addr) (c0 : Nat), m = 2 * sn.count false + td.length ∧ f 2 = .pointer (some ⟨bb0, 0, none⟩) ∧ f 5 = .slice none 0 0 ∧ f 6 = .slice (some ⟨g0, 0, none⟩) mn.toNat mn.toNat ∧ f 7 = .slice a0 td.length c0 ∧  HI M w w' [ownQ w.heap.size 3 (.slice a0 td.length c0) td, own w.heap.size 4 (.slice (some ⟨g0, 0, none⟩) mn.toNat mn.toNat) sn, box bb0 #[.int .i64 mn, .slice a_mr mr.length c_mr] 24, imm (.slice a_mr mr.length c_mr) mr] ∧ (Rch mn.toNat (relM mr) i.toNat sn td (-1) 0) ∧ (2 * sn.count false + td.length ≤ 2 * mn.toNat + 1)) _ ⟨(List.replicate mn.toNat (false : Bool)), [i], (some ⟨g1, 0, none⟩), 1, rfl, rfl, rfl, rfl, rfl, H4, (by have h_ := rch_start (n := mn.toNat) (p := relM mr) (i := i.toNat) (by omega); rwa [Int.toNat_of_nonneg hi0] at h_), (by simp)⟩ ?_
  rintro _ f0 w3 ⟨sn, td, a0, c0, rfl, s0, s1, s2, s3, H5, hs, hz_⟩
  refine sq (sq (rg (k (mv rfl s3 (k (lnS rfl rfl un42 (k (gtr rfl rfl rfl rfl (z (nx ?_))))))))))
  refine cd (b := decide (0 < (td.length : Int))) rfl rfl (fun b0 => ?_) (fun b0 => ?_)
  ·
    have p0 := of_decide_eq_true b0
    refine sk (nx (bk (sq ?_)))
    have hn_ : ((mn.toNat : Nat) : Int) = mn := Int.toNat_of_nonneg h0_
    refine rg (k (mv rfl s3 (k (iaQ (H5.at_ 0 rfl) rfl rfl rfl rfl (by first | omega | (simp; omega)) un42 ty3 ?_))))
    intro ad0 x0 hx0 hA0
    refine k (ldI hA0 ty3 rfl rfl ?_)
    intro rv0
    refine k (asg (v := .int .i64 x0) rfl rfl (z (nx (sq ?_))))
    obtain ⟨at_, hat_, ha1_, ha2_⟩ := rch_at hs hx0
    refine rg (k (mv rfl s3 (k (slQ H5 0 rfl rfl rfl rfl rfl (by first | omega | (simp; omega)) un42 ty3 ?_))))
    intro a1 c1 (H6 : HI M w w3 [ownQ w.heap.size 3 (.slice a1 (td.drop 1).length c1) (td.drop 1), own w.heap.size 4 (.slice (some ⟨g0, 0, none⟩) mn.toNat mn.toNat) sn, box bb0 #[.int .i64 mn, .slice a_mr mr.length c_mr] 24, imm (.slice a_mr mr.length c_mr) mr])
    refine k (asg (v := .slice a1 (td.drop 1).length c1) rfl rfl (z (nx (sq (rg (k (asg (v := .int .i64 0) rfl rfl (z (nx (bk ?_))))))))))
    refine lp (fun m f w' => ∃ (j : Nat) (sn2 : List Bool) (td2 : List Int) (a2 : Option Addr) (c2 : Nat), m = mn.toNat - j ∧ f 2 = .pointer (some ⟨bb0, 0, none⟩) ∧ f 5 = .slice none 0 0 ∧ f 6 = .slice (some ⟨g0, 0, none⟩) mn.toNat mn.toNat ∧ f 7 = .slice a2 td2.length c2 ∧ f 8 = .int .i64 x0 ∧ f 9 = .int .i64 (j : Int) ∧  HI M w w' [ownQ w.heap.size 3 (.slice a2 td2.length c2) td2, own w.heap.size 4 (.slice (some ⟨g0, 0, none⟩) mn.toNat mn.toNat) sn2, box bb0 #[.int .i64 mn, .slice a_mr mr.length c_mr] 24, imm (.slice a_mr mr.length c_mr) mr] ∧ (j ≤ mn.toNat) ∧ (Rch mn.toNat (relM mr) i.toNat sn2 td2 x0 j) ∧ (2 * sn2.count false + td2.length ≤ 2 * sn.count false + (td.drop 1).length)) _ ⟨0, sn, (td.drop 1), a1, c1, rfl, s0, s1, s2, rfl, rfl, (ieq rfl (by first | rfl | omega | simp)), H6, (by first | assumption | omega | simp | (simp; omega)), (by exact rch_pop hs hx0), (by first | assumption | omega | simp | (simp; omega))⟩ ?_
    rintro _ f1 w4 ⟨j, sn2, td2, a2, c2, rfl, s4, s5, s6, s7, s8, s9, H7, hj_, hs2, hz2_⟩
    refine sq (sq (rg (k (mv rfl s9 (k (fa fl24_0 rfl s4 (k (ldX H7 2 rfl ty3 rfl rfl (by decide) rfl (k (lss rfl rfl rfl rfl (z (nx ?_))))))))))))
    refine cd (b := decide ((j : Int) < mn)) rfl rfl (fun b1 => ?_) (fun b1 => ?_)
    ·
      have p1 := of_decide_eq_true b1
      refine sk (nx (sq (bk (sq (rg (k (ldX H7 2 rfl ty24 rfl s4 (by decide) rfl (k (mv rfl s8 (k (mv rfl s9 (k ?_))))))))))))
      have cc0 := ref03_Has (mn := mn) (mr := mr) (i := x0) (j := (j : Int)) (w := w4) H7.mb (by unfold I64 at *; omega) (H7.rv 3 rfl) (by unfold I64 at *; omega) (by unfold I64 at *; omega) (by exact (right_sq rt_m).1) (by exact (right_sq rt_m).2.1) (by exact (right_sq rt_m).2.2.1)
      refine ca go45 rfl (ec rfl (ec rfl (ec rfl e0))) cc0 ?_
      rintro _ w5 ⟨rfl, xt3⟩
      have H8 := H7.ext xt3
      refine k (mv (v := .bool (hasM mn mr x0 (j : Int))) rfl rfl ?_)
      rcases Bool.eq_false_or_eq_true (hasM mn mr x0 (j : Int)) with b2 | b2
      · -- hasM mn mr x0 (j : Int) is True
        refine k (gy rfl rfl rfl b2 (mv rfl s6 (k (gy rfl rfl rfl b2 (mv rfl s9 (k (gy rfl rfl rfl b2 (iaO (H8.at_ 1 rfl) rfl rfl rfl rfl (by first | (have h_ := hs2.len; omega) | (have h_ := hs.len; omega)) un111 ty4 ?_))))))))
        intro g2 x1 hv0 hx1 hA1
        refine k (gy rfl rfl rfl b2 (ldB hA1 ty4 rfl rfl (k (gy rfl rfl rfl b2 (not_ rfl rfl (k (pickT rfl rfl rfl rfl b2 rfl (z (nx ?_)))))))))
        refine cd (b := !x1) rfl rfl (fun b3 => ?_) (fun b3 => ?_)
        ·
          refine sq (rg (k (mv rfl s6 (k (mv rfl s9 (k (iaO (H8.at_ 1 rfl) rfl rfl rfl rfl (by first | (have h_ := hs2.len; omega) | (have h_ := hs.len; omega)) un111 ty4 ?_)))))))
          intro g3 x2 hv1 hx2 hA2
          refine k (stO H8 1 rfl hv1 rfl (by first | (have h_ := hs2.len; omega) | (have h_ := hs.len; omega)) ty4 rfl rfl rfl rfl (RV.bool.2 rfl) ?_)
          intro w6 (H9 : HI M w w6 [ownQ w.heap.size 3 (.slice a2 td2.length c2) td2, own w.heap.size 4 (.slice (some ⟨g0, 0, none⟩) mn.toNat mn.toNat) (sn2.set ((j : Int).toNat) true), box bb0 #[.int .i64 mn, .slice a_mr mr.length c_mr] 24, imm (.slice a_mr mr.length c_mr) mr])
          refine z (nx (rg (k (mv rfl s7 (k (mv rfl s9 (k (bs (xs := ([(j : Int)] : List Int)) (cells := #[.int .i64 (j : Int)]) (e := 3) H9 rfl (pbc rfl pb0) (fun _ => by kernel_rfl) ⟨[.int .i64 (j : Int)], [], rfl, ⟨rfl, (show I64 ((j : Int)) from (by unfold I64 at *; omega))⟩, rfl⟩ rfl (by unfold maxLen; omega) ?_))))))))
          intro g4 w7 xt4 (H10 : HI M w w7 [own w.heap.size 3 (.slice (some ⟨g4, 0, none⟩) 1 1) ([(j : Int)] : List Int), ownQ w.heap.size 3 (.slice a2 td2.length c2) td2, own w.heap.size 4 (.slice (some ⟨g0, 0, none⟩) mn.toNat mn.toNat) (sn2.set ((j : Int).toNat) true), box bb0 #[.int .i64 mn, .slice a_mr mr.length c_mr] 24, imm (.slice a_mr mr.length c_mr) mr])
          refine k (apQ H10 1 rfl rfl rfl rfl rfl rfl (own_src (H10.at_ 0 rfl)) (by simp) un42 ty3 rfl (by first | (simp only [List.length_cons, List.length_nil]; have h_ := lst_len j3 (fun k => sn.getD k false); rw [hs4]; omega) | (simp only [List.length_cons, List.length_nil]; have h_ := List.length_drop (l := td) (i := 1); omega)) (by first | (simp only [List.length_cons, List.length_nil]; have h_ := lst_len j3 (fun k => sn.getD k false); rw [hs4]; omega) | (simp only [List.length_cons, List.length_nil]; have h_ := List.length_drop (l := td) (i := 1); omega)) ?_)
          intro a3 c3 w8 (H11 : HI M w w8 [own w.heap.size 3 (.slice (some ⟨g4, 0, none⟩) 1 1) ([(j : Int)] : List Int), ownQ w.heap.size 3 (.slice a3 (td2 ++ ([(j : Int)] : List Int)).length c3) (td2 ++ ([(j : Int)] : List Int)), own w.heap.size 4 (.slice (some ⟨g0, 0, none⟩) mn.toNat mn.toNat) (sn2.set ((j : Int).toNat) true), box bb0 #[.int .i64 mn, .slice a_mr mr.length c_mr] 24, imm (.slice a_mr mr.length c_mr) mr])
          refine k (asg (v := .slice a3 (td2 ++ ([(j : Int)] : List Int)).length c3) rfl rfl (z (inb_normal (nx (rg (k (mv rfl s9 (k (add rfl rfl rfl rfl (by unfold I64 at *; omega) (k (asg (v := .int .i64 ((j : Int) + 1)) rfl rfl (z ?_))))))))))))
          have H12 : HI M w w8 [ownQ w.heap.size 3 (.slice a3 (td2 ++ ([(j : Int)] : List Int)).length c3) (td2 ++ ([(j : Int)] : List Int)), own w.heap.size 4 (.slice (some ⟨g0, 0, none⟩) mn.toNat mn.toNat) (sn2.set ((j : Int).toNat) true), box bb0 #[.int .i64 mn, .slice a_mr mr.length c_mr] 24, imm (.slice a_mr mr.length c_mr) mr] := H11.pickN [1, 2, 3, 4] (by decide) rfl
          refine loopN _ ?_ ⟨(j + 1), (sn2.set ((j : Int).toNat) true), (td2 ++ ([(j : Int)] : List Int)), a3, c3, rfl, s4, s5, s6, rfl, s8, (ieq rfl (by first | rfl | omega | (push_cast; omega))), H12, (by first | assumption | omega | simp | (simp; omega)), (by first | exact rchI_yes rt_m hat_ hs2 ha1_ (by omega) ha2_ (by assumption) | exact rchI_no rt_m hat_ hs2 ha1_ (by omega) (by assumption) | exact rchI_had rt_m hat_ hs2 ha1_ (by omega) hx1 (by simpa using b3)), (by first | exact hz2_ | exact count_setI hx1 (by simpa using b3) hz2_)⟩
          omega
        ·
          refine sk (inb_normal (nx (rg (k (mv rfl s9 (k (add rfl rfl rfl rfl (by unfold I64 at *; omega) (k (asg (v := .int .i64 ((j : Int) + 1)) rfl rfl (z ?_))))))))))
          refine loopN _ ?_ ⟨(j + 1), sn2, td2, a2, c2, rfl, s4, s5, s6, s7, s8, (ieq rfl (by first | rfl | omega | (push_cast; omega))), H8, (by first | assumption | omega | simp | (simp; omega)), (by first | exact rchI_yes rt_m hat_ hs2 ha1_ (by omega) ha2_ (by assumption) | exact rchI_no rt_m hat_ hs2 ha1_ (by omega) (by assumption) | exact rchI_had rt_m hat_ hs2 ha1_ (by omega) hx1 (by simpa using b3)), (by first | exact hz2_ | exact count_setI hx1 (by simpa using b3) hz2_)⟩
          omega
      · -- hasM mn mr x0 (j : Int) is False
        refine k (gn rfl rfl rfl b2 (k (gn rfl rfl rfl b2 (k (gn rfl rfl rfl b2 (k (gn rfl rfl rfl b2 (k (gn rfl rfl rfl b2 (k (pickF rfl rfl rfl rfl b2 rfl (z (nx (cdF rfl rfl rfl (sk (inb_normal (nx (rg (k (mv rfl s9 (k (add rfl rfl rfl rfl (by unfold I64 at *; omega) (k (asg (v := .int .i64 ((j : Int) + 1)) rfl rfl (z ?_)))))))))))))))))))))))))
        refine loopN _ ?_ ⟨(j + 1), sn2, td2, a2, c2, rfl, s4, s5, s6, s7, s8, (ieq rfl (by first | rfl | omega | (push_cast; omega))), H8, (by first | assumption | omega | simp | (simp; omega)), (by first | exact rchI_yes rt_m hat_ hs2 ha1_ (by omega) ha2_ (by assumption) | exact rchI_no rt_m hat_ hs2 ha1_ (by omega) (by assumption) | exact rchI_had rt_m hat_ hs2 ha1_ (by omega) hx1 (by simpa using b3)), (by first | exact hz2_ | exact count_setI hx1 (by simpa using b3) hz2_)⟩
        omega
    ·
      have p1 := of_decide_eq_false b1
      refine ex (then_exit (loop_exit (inb_here (inb_normal ?_))))
      refine loopN _ ?_ ⟨sn2, td2, a2, c2, rfl, s4, s5, s6, s7, H7, (by exact rch_next hs2 (by omega)), (by have h_ := List.length_drop (l := td) (i := 1); omega)⟩
      have h_ := List.length_drop (l := td) (i := 1); omega
  ·
    have p0 := of_decide_eq_false b0
    refine ex (then_exit (loop_exit (inb_here (nx (sq (sq (rg (k (asg (v := .int .i64 0) rfl rfl (z (nx (bk ?_))))))))))))
    have H6 := H5.nil_ Int 3
    refine lp (fun m f w' => ∃ (j3 : Nat) (out : List Int) (a1 : Option Addr) (c1 : Nat), m = mn.toNat - j3 ∧ f 2 = .pointer (some ⟨bb0, 0, none⟩) ∧ f 5 = .slice a1 out.length c1 ∧ f 6 = .slice (some ⟨g0, 0, none⟩) mn.toNat mn.toNat ∧ f 10 = .int .i64 (j3 : Int) ∧  HI M w w' [own w.heap.size 3 (.slice a1 out.length c1) out, ownQ w.heap.size 3 (.slice a0 td.length c0) td, own w.heap.size 4 (.slice (some ⟨g0, 0, none⟩) mn.toNat mn.toNat) sn, box bb0 #[.int .i64 mn, .slice a_mr mr.length c_mr] 24, imm (.slice a_mr mr.length c_mr) mr] ∧ (j3 ≤ mn.toNat) ∧ (out = lst j3 (fun k => sn.getD k false))) _ ⟨0, ([] : List Int), none, 0, rfl, s0, s1, s2, (ieq rfl (by first | rfl | omega | simp)), H6, (by first | assumption | omega | simp | (simp; omega)), (by rfl)⟩ ?_
    rintro _ f1 w4 ⟨j3, out, a1, c1, rfl, s4, s5, s6, s7, H7, hj3_, hs4⟩
    refine sq (sq (rg (k (mv rfl s7 (k (fa fl24_0 rfl s4 (k (ldX H7 3 rfl ty3 rfl rfl (by decide) rfl (k (lss rfl rfl rfl rfl (z (nx ?_))))))))))))
    refine cd (b := decide ((j3 : Int) < mn)) rfl rfl (fun b1 => ?_) (fun b1 => ?_)
    ·
      have p1 := of_decide_eq_true b1
      refine sk (nx (sq (bk (sq (rg (k (mv rfl s6 (k (mv rfl s7 (k (iaO (H7.at_ 2 rfl) rfl rfl rfl rfl (by first | (have h_ := hs2.len; omega) | (have h_ := hs.len; omega)) un111 ty4 ?_)))))))))))
      intro g2 x0 hv0 hx0 hA0
      refine k (ldB hA0 ty4 rfl rfl (z (nx ?_)))
      refine cd (b := x0) rfl rfl (fun b2 => ?_) (fun b2 => ?_)
      ·
        refine rg (k (mv rfl s5 (k (mv rfl s7 (k (bs (xs := ([(j3 : Int)] : List Int)) (cells := #[.int .i64 (j3 : Int)]) (e := 3) H7 rfl (pbc rfl pb0) (fun _ => by kernel_rfl) ⟨[.int .i64 (j3 : Int)], [], rfl, ⟨rfl, (show I64 ((j3 : Int)) from (by unfold I64 at *; omega))⟩, rfl⟩ rfl (by unfold maxLen; omega) ?_))))))
        intro g3 w5 xt3 (H8 : HI M w w5 [own w.heap.size 3 (.slice (some ⟨g3, 0, none⟩) 1 1) ([(j3 : Int)] : List Int), own w.heap.size 3 (.slice a1 out.length c1) out, ownQ w.heap.size 3 (.slice a0 td.length c0) td, own w.heap.size 4 (.slice (some ⟨g0, 0, none⟩) mn.toNat mn.toNat) sn, box bb0 #[.int .i64 mn, .slice a_mr mr.length c_mr] 24, imm (.slice a_mr mr.length c_mr) mr])
        refine k (ap H8 1 rfl rfl rfl rfl rfl rfl (own_src (H8.at_ 0 rfl)) un42 ty3 rfl (by first | (simp only [List.length_cons, List.length_nil]; have h_ := lst_len j3 (fun k => sn.getD k false); rw [hs4]; omega) | (simp only [List.length_cons, List.length_nil]; have h_ := List.length_drop (l := td) (i := 1); omega)) (by first | (simp only [List.length_cons, List.length_nil]; have h_ := lst_len j3 (fun k => sn.getD k false); rw [hs4]; omega) | (simp only [List.length_cons, List.length_nil]; have h_ := List.length_drop (l := td) (i := 1); omega)) ?_)
        intro a2 c2 w6 (H9 : HI M w w6 [own w.heap.size 3 (.slice (some ⟨g3, 0, none⟩) 1 1) ([(j3 : Int)] : List Int), own w.heap.size 3 (.slice a2 (out ++ ([(j3 : Int)] : List Int)).length c2) (out ++ ([(j3 : Int)] : List Int)), ownQ w.heap.size 3 (.slice a0 td.length c0) td, own w.heap.size 4 (.slice (some ⟨g0, 0, none⟩) mn.toNat mn.toNat) sn, box bb0 #[.int .i64 mn, .slice a_mr mr.length c_mr] 24, imm (.slice a_mr mr.length c_mr) mr])
        refine k (asg (v := .slice a2 (out ++ ([(j3 : Int)] : List Int)).length c2) rfl rfl (z (inb_normal (nx (rg (k (mv rfl s7 (k (add rfl rfl rfl rfl (by unfold I64 at *; omega) (k (asg (v := .int .i64 ((j3 : Int) + 1)) rfl rfl (z ?_))))))))))))
        have H10 : HI M w w6 [own w.heap.size 3 (.slice a2 (out ++ ([(j3 : Int)] : List Int)).length c2) (out ++ ([(j3 : Int)] : List Int)), ownQ w.heap.size 3 (.slice a0 td.length c0) td, own w.heap.size 4 (.slice (some ⟨g0, 0, none⟩) mn.toNat mn.toNat) sn, box bb0 #[.int .i64 mn, .slice a_mr mr.length c_mr] 24, imm (.slice a_mr mr.length c_mr) mr] := H9.pickN [1, 2, 3, 4, 5] (by decide) rfl
        refine loopN _ ?_ ⟨(j3 + 1), (out ++ ([(j3 : Int)] : List Int)), a2, c2, rfl, s4, rfl, s6, (ieq rfl (by first | rfl | omega | (push_cast; omega))), H10, (by first | assumption | omega | simp | (simp; omega)), (by rw [hs4, lst_succ]; first | rw [if_pos (by rw [getD_of' hx0]; assumption)] | rw [if_neg (by rw [getD_of' hx0]; first | simpa using b2 | simpa using b3), List.append_nil])⟩
        omega
      ·
        refine sk (inb_normal (nx (rg (k (mv rfl s7 (k (add rfl rfl rfl rfl (by unfold I64 at *; omega) (k (asg (v := .int .i64 ((j3 : Int) + 1)) rfl rfl (z ?_))))))))))
        refine loopN _ ?_ ⟨(j3 + 1), out, a1, c1, rfl, s4, s5, s6, (ieq rfl (by first | rfl | omega | (push_cast; omega))), H7, (by first | assumption | omega | simp | (simp; omega)), (by rw [hs4, lst_succ]; first | rw [if_pos (by rw [getD_of' hx0]; assumption)] | rw [if_neg (by rw [getD_of' hx0]; first | simpa using b2 | simpa using b3), List.append_nil])⟩
        omega
    ·
      have p1 := of_decide_eq_false b1
      refine ex (then_exit (loop_exit (inb_here (nx (sq (rg (k (mv rfl s5 (k (asg (v := .slice a1 out.length c1) rfl rfl (z (nx (rt (r1 rfl rfl ?_))))))))))))))
      have e0 : (out : List Int) = lst mn.toNat (cl mn.toNat (relM mr) i.toNat) := by rw [hs4, show j3 = mn.toNat from by omega]; exact lst_congr fun k_ hk_ => by have h_ := rch_end (td_none p0 ▸ hs) (by omega) hk_; exact h_
      have ev_ := cg1 (fun (x_0 : List Int) => (.slice a1 x_0.length c1 : Value)) e0
      exact ⟨a1, c1, ev_, H7.below, (congrArg (fun (x_ : List Int) => OwnsG _ _ _ x_ (.slice a1 x_.length c1) _) e0).mp (H7.ownsG_out 0 rfl)⟩
set_option maxRecDepth 100000 in
set_option maxHeartbeats 1600000 in
theorem ref04_Close {M : Nat → Prop} {w : World} {mn : Int} {a_mr : Option Addr} {c_mr : Nat} {mr : List (List (BitVec 64))} (hM : ∀ b, M b → b < w.heap.size) (h_mn : I64 mn) (h_mr : RV M w (.slice a_mr mr.length c_mr) mr) (rt_m : rightS mn mr = true) : Calls Tryd.prog 30 #[.agg #[.int .i64 mn, .slice a_mr mr.length c_mr]] w (Ret fun v w' => ∃ (a0 : Option Addr) (c0 : Nat), v = .agg #[.int .i64 mn, .slice a0 (closeM mn mr).length c0] ∧ Ext w w' ∧ RV M w' (.slice a0 (closeM mn mr).length c0) (closeM mn mr)) := by
  refine enter 40 Tryd.func30 rfl rfl rfl fun f0 ha => ?_
  have H := HI.start (M0 := M) (w := w) hM
  have H0 := H.put (it := imm (.slice a_mr mr.length c_mr) mr) rfl (by rw [MS_nil]; exact h_mr)
  have ln_mr := rv_len h_mr
  have i0 : f0 0 = .agg #[.int .i64 mn, .slice a_mr mr.length c_mr] := ha 0 (by simp)
  have hl_ := (right_sq rt_m).1; have h4_ := (right_sq rt_m).2.2.1; have h0_ := right_pos rt_m
  refine sq (rg (k (bx H0 rfl i0 ?_)))
  intro bb0 w0 xt0 (H1 : HI M w w0 [box bb0 #[.int .i64 mn, .slice a_mr mr.length c_mr] 24, imm (.slice a_mr mr.length c_mr) mr])
  refine k (al H1 ty24 ?_)
  intro bb1 w1 xt1 (H2 : HI M w w1 [box bb1 #[.int .i64 0, .slice none 0 0] 24, box bb0 #[.int .i64 mn, .slice a_mr mr.length c_mr] 24, imm (.slice a_mr mr.length c_mr) mr])
  refine z (nx (sq (rg (k (fa fl24_0 rfl rfl (k (ldX H2 1 rfl ty3 rfl rfl (by decide) rfl (k ?_))))))))
  have cc0 := ref03_New (n := mn) (w := w1) H2.mb (by unfold I64 at *; omega)
  refine ca go26 rfl (ec rfl e0) cc0 ?_
  rintro _ w2 ⟨a0, c0, rfl, xt2, rv0⟩
  have H3 := H2.ownsG rv0
  refine k (mv (v := .tuple #[.agg #[.int .i64 (newMN mn), .slice a0 (newMR mn).length c0], .int .i64 (newME mn)]) rfl rfl (k (xt rfl rfl rfl (k (xt rfl rfl rfl (k (al H3 ty24 ?_)))))))
  intro bb2 w3 xt3 (H4 : HI M w w3 [box bb2 #[.int .i64 0, .slice none 0 0] 24, own w.heap.size 73 (.slice a0 (newMR mn).length c0) (newMR mn), box bb1 #[.int .i64 0, .slice none 0 0] 24, box bb0 #[.int .i64 mn, .slice a_mr mr.length c_mr] 24, imm (.slice a_mr mr.length c_mr) mr])
  refine k (stX H4 0 rfl ty24 rfl rfl rfl rfl rfl rfl rfl ?_)
  intro w4 (H5 : HI M w w4 [box bb2 #[.int .i64 (newMN mn), .slice a0 (newMR mn).length c0] 24, own w.heap.size 73 (.slice a0 (newMR mn).length c0) (newMR mn), box bb1 #[.int .i64 0, .slice none 0 0] 24, box bb0 #[.int .i64 mn, .slice a_mr mr.length c_mr] 24, imm (.slice a_mr mr.length c_mr) mr])
  refine k (asg (v := .int .i64 (newME mn)) rfl rfl (z (nx (sq (sq (rg (k (asg (v := .int .i64 0) rfl rfl (z (nx (bk ?_)))))))))))
  have H6 := H5.freeze 1 rfl
  have H7 := H6.put (it := imm (.slice a0 (newMR mn).length c0) (newMR mn)) rfl (H6.rv 1 rfl)
  refine lp (fun m f w' => ∃ (i : Nat) (n_ : Int) (rs : List (List (BitVec 64))) (a1 : Option Addr) (c1 : Nat), m = mn.toNat - i ∧ f 1 = .pointer (some ⟨bb0, 0, none⟩) ∧ f 2 = .pointer (some ⟨bb1, 0, none⟩) ∧ f 3 = .pointer (some ⟨bb2, 0, none⟩) ∧ f 5 = .int .i64 (i : Int) ∧  HI M w w' [imm (.slice a1 rs.length c1) rs, box bb2 #[.int .i64 n_, .slice a1 rs.length c1] 24, imm (.slice a0 (newMR mn).length c0) (newMR mn), box bb1 #[.int .i64 0, .slice none 0 0] 24, box bb0 #[.int .i64 mn, .slice a_mr mr.length c_mr] 24, imm (.slice a_mr mr.length c_mr) mr] ∧ (i ≤ mn.toNat) ∧ (n_ = mn) ∧ (rs = matP mn.toNat (rcP mn.toNat (cl mn.toNat (relM mr)) i 0))) _ ⟨0, (newMN mn), (newMR mn), a0, c0, rfl, rfl, rfl, rfl, (ieq rfl (by first | rfl | omega | simp)), H7, (by first | assumption | omega | simp | (simp; omega)), (by exact (newM_yes (right_ok rt_m)).1), (by exact rc_start rt_m _)⟩ ?_
  rintro _ f0 w5 ⟨i, n_, rs, a1, c1, rfl, s0, s1, s2, s3, H8, hi_, h1, h2⟩
  refine sq (sq (rg (k (mv rfl s3 (k (fa fl24_0 rfl s0 (k (ldX H8 4 rfl ty3 rfl rfl (by decide) rfl (k (lss rfl rfl rfl rfl (z (nx ?_))))))))))))
  refine cd (b := decide ((i : Int) < mn)) rfl rfl (fun b0 => ?_) (fun b0 => ?_)
  ·
    have p0 := of_decide_eq_true b0
    refine sk (nx (sq (bk (sq (rg (k (ldX H8 4 rfl ty24 rfl s0 (by decide) rfl (k (mv rfl s3 (k ?_))))))))))
    have cc1 := ref04_Reach (mn := mn) (mr := mr) (i := (i : Int)) (w := w5) H8.mb (by unfold I64 at *; omega) (H8.rv 5 rfl) (by unfold I64 at *; omega) (by exact rt_m) (by first | omega | (simp; omega)) (by first | omega | (simp; omega))
    refine ca go77 rfl (ec rfl (ec rfl e0)) cc1 ?_
    rintro _ w6 ⟨a2, c2, rfl, xt4, rv1⟩
    have H9 := H8.ownsG rv1
    refine k (asg (v := .slice a2 (lst mn.toNat (cl mn.toNat (relM mr) (i : Int).toNat)).length c2) rfl rfl (z (nx (sq (rg (k (asg (v := .int .i64 0) rfl rfl (z (nx (bk ?_))))))))))
    have H10 := H9.put (it := imm (.slice a1 rs.length c1) rs) rfl (H9.rv 1 rfl)
    refine lp (fun m f w' => ∃ (q : Nat) (n2_ : Int) (rs2 : List (List (BitVec 64))) (a3 : Option Addr) (c3 : Nat), m = (lst mn.toNat (cl mn.toNat (relM mr) (i : Int).toNat)).length - q ∧ f 1 = .pointer (some ⟨bb0, 0, none⟩) ∧ f 2 = .pointer (some ⟨bb1, 0, none⟩) ∧ f 3 = .pointer (some ⟨bb2, 0, none⟩) ∧ f 5 = .int .i64 (i : Int) ∧ f 6 = .slice a2 (lst mn.toNat (cl mn.toNat (relM mr) (i : Int).toNat)).length c2 ∧ f 7 = .int .i64 (q : Int) ∧  HI M w w' [imm (.slice a3 rs2.length c3) rs2, own w.heap.size 3 (.slice a2 (lst mn.toNat (cl mn.toNat (relM mr) (i : Int).toNat)).length c2) (lst mn.toNat (cl mn.toNat (relM mr) (i : Int).toNat)), imm (.slice a1 rs.length c1) rs, box bb2 #[.int .i64 n2_, .slice a3 rs2.length c3] 24, imm (.slice a0 (newMR mn).length c0) (newMR mn), box bb1 #[.int .i64 0, .slice none 0 0] 24, box bb0 #[.int .i64 mn, .slice a_mr mr.length c_mr] 24, imm (.slice a_mr mr.length c_mr) mr] ∧ (q ≤ (lst mn.toNat (cl mn.toNat (relM mr) (i : Int).toNat)).length) ∧ (n2_ = mn) ∧ (rs2 = matP mn.toNat (rcP mn.toNat (cl mn.toNat (relM mr)) i q))) _ ⟨0, n_, rs, a1, c1, rfl, s0, s1, s2, s3, rfl, (ieq rfl (by first | rfl | omega | simp)), H10, (by first | assumption | omega | simp | (simp; omega)), (by exact h1), (by exact h2)⟩ ?_
    rintro _ f1 w7 ⟨q, n2_, rs2, a3, c3, rfl, s4, s5, s6, s7, s8, s9, H11, hq_, g1, g2⟩
    refine sq (sq (rg (k (mv rfl s9 (k (mv rfl s8 (k (lnS rfl rfl un42 (k (lss rfl rfl rfl rfl (z (nx ?_))))))))))))
    refine cd (b := decide ((q : Int) < ((lst mn.toNat (cl mn.toNat (relM mr) (i : Int).toNat)).length : Int))) rfl rfl (fun b1 => ?_) (fun b1 => ?_)
    ·
      have p1 := of_decide_eq_true b1
      refine sk (nx (sq (bk ?_)))
      obtain ⟨x0, hx0⟩ : ∃ x, (lst mn.toNat (cl mn.toNat (relM mr) (i : Int).toNat))[(q : Int).toNat]? = some x := ⟨_, List.getElem?_eq_getElem (by first | omega | (simp; omega))⟩
      refine dr3 8 [fun (v : Value) (w' : World) => v = .agg #[.int .i64 n2_, .slice a3 rs2.length c3], fun (v : Value) (w' : World) => v = .int .i64 (i : Int), fun (v : Value) (w' : World) => v = .slice a2 (lst mn.toNat (cl mn.toNat (relM mr) (i : Int).toNat)).length c2, fun (v : Value) (w' : World) => v = .int .i64 (q : Int), fun (v : Value) (w' : World) => ∃ (g0 : Nat), v = .pointer (some ⟨g0, (q : Int).toNat * 1, none⟩) ∧ (.slice a2 (lst mn.toNat (cl mn.toNat (relM mr) (i : Int).toNat)).length c2 : Value).ownBlock = some g0 ∧ AtW (MS M [imm (.slice a3 rs2.length c3) rs2, own w.heap.size 3 (.slice a2 (lst mn.toNat (cl mn.toNat (relM mr) (i : Int).toNat)).length c2) (lst mn.toNat (cl mn.toNat (relM mr) (i : Int).toNat)), imm (.slice a1 rs.length c1) rs, box bb2 #[.int .i64 n2_, .slice a3 rs2.length c3] 24, imm (.slice a0 (newMR mn).length c0) (newMR mn), box bb1 #[.int .i64 0, .slice none 0 0] 24, box bb0 #[.int .i64 mn, .slice a_mr mr.length c_mr] 24, imm (.slice a_mr mr.length c_mr) mr]) w' ⟨g0, (q : Int).toNat * 1, none⟩ x0, fun (v : Value) (w' : World) => v = .int .i64 x0 ∧ I64 (x0), fun (v : Value) (w' : World) => ∃ (a4 : Option Addr) (c4 : Nat), v = .tuple #[.agg #[.int .i64 (setMN n2_ (i : Int) x0), .slice a4 (setMR n2_ rs2 (i : Int) x0).length c4], .int .i64 (setME n2_ (i : Int) x0)] ∧ RV (MS M [imm (.slice a3 rs2.length c3) rs2, own w.heap.size 3 (.slice a2 (lst mn.toNat (cl mn.toNat (relM mr) (i : Int).toNat)).length c2) (lst mn.toNat (cl mn.toNat (relM mr) (i : Int).toNat)), imm (.slice a1 rs.length c1) rs, box bb2 #[.int .i64 n2_, .slice a3 rs2.length c3] 24, imm (.slice a0 (newMR mn).length c0) (newMR mn), box bb1 #[.int .i64 0, .slice none 0 0] 24, box bb0 #[.int .i64 mn, .slice a_mr mr.length c_mr] 24, imm (.slice a_mr mr.length c_mr) mr]) w' (.slice a4 (setMR n2_ rs2 (i : Int) x0).length c4) (setMR n2_ rs2 (i : Int) x0), fun (v : Value) (w' : World) => ∃ (a4 : Option Addr) (c4 : Nat), v = .tuple #[.agg #[.int .i64 (setMN n2_ (i : Int) x0), .slice a4 (setMR n2_ rs2 (i : Int) x0).length c4], .int .i64 (setME n2_ (i : Int) x0)] ∧ RV (MS M [imm (.slice a3 rs2.length c3) rs2, own w.heap.size 3 (.slice a2 (lst mn.toNat (cl mn.toNat (relM mr) (i : Int).toNat)).length c2) (lst mn.toNat (cl mn.toNat (relM mr) (i : Int).toNat)), imm (.slice a1 rs.length c1) rs, box bb2 #[.int .i64 n2_, .slice a3 rs2.length c3] 24, imm (.slice a0 (newMR mn).length c0) (newMR mn), box bb1 #[.int .i64 0, .slice none 0 0] 24, box bb0 #[.int .i64 mn, .slice a_mr mr.length c_mr] 24, imm (.slice a_mr mr.length c_mr) mr]) w' (.slice a4 (setMR n2_ rs2 (i : Int) x0).length c4) (setMR n2_ rs2 (i : Int) x0)] rfl (by kernel_rfl) ?_ ?_
      ·
        refine ⟨fun _ => ⟨fun f2 w9 hf0 xt6 hp0 => ?_, fun _ _ _ _ h => h⟩, ?_⟩
        ·
          have H14 := H11.ext xt6
          refine ldX H14 3 rfl ty24 rfl ((hf0 3 rfl).trans s6) (by decide) rfl ?_
          exact ⟨_, rfl, Ext.refl _, rfl⟩
        refine ⟨fun _ => ⟨fun f3 w10 hf1 xt7 hp1 => ?_, fun _ _ _ _ h => h⟩, ?_⟩
        ·
          have H15 := H11.ext xt7
          refine mv rfl ((hf1 5 rfl).trans s7) ?_
          exact ⟨_, rfl, Ext.refl _, rfl⟩
        refine ⟨fun _ => ⟨fun f4 w11 hf2 xt8 hp2 => ?_, fun _ _ _ _ h => h⟩, ?_⟩
        ·
          have H16 := H11.ext xt8
          refine mv rfl ((hf2 6 rfl).trans s8) ?_
          exact ⟨_, rfl, Ext.refl _, rfl⟩
        refine ⟨fun _ => ⟨fun f5 w12 hf3 xt9 hp3 => ?_, fun _ _ _ _ h => h⟩, ?_⟩
        ·
          have H17 := H11.ext xt9
          refine mv rfl ((hf3 7 rfl).trans s9) ?_
          exact ⟨_, rfl, Ext.refl _, rfl⟩
        refine ⟨fun _ => ⟨fun f6 w13 hf4 xt10 hp4 => ?_, by rintro _ _ _ x_ ⟨g0, e_, hv0, hA0⟩; exact ⟨g0, e_, hv0, hA0.ext x_⟩⟩, ?_⟩
        ·
          have H18 := H11.ext xt10
          have s10 : f6 32 = .slice a2 (lst mn.toNat (cl mn.toNat (relM mr) (i : Int).toNat)).length c2 := hp4 2 rfl rfl
          have s11 : f6 33 = .int .i64 (q : Int) := hp4 3 rfl rfl
          refine iaO (H18.at_ 1 rfl) rfl rfl s10 s11 (by first | omega | (simp; omega)) un42 ty3 ?_
          intro g1 x1 hv1 hx1 hA1
          obtain rfl : x0 = x1 := Option.some.inj (hx0.symm.trans hx1)
          exact ⟨_, rfl, Ext.refl _, ⟨g1, rfl, hv1, hA1⟩⟩
        refine ⟨fun _ => ⟨fun f7 w14 hf5 xt11 hp5 => ?_, fun _ _ _ _ h => h⟩, ?_⟩
        ·
          have H19 := H11.ext xt11
          obtain ⟨g2, s12, hv2, hA2⟩ : ∃ (g2 : Nat), f7 34 = .pointer (some ⟨g2, (q : Int).toNat * 1, none⟩) ∧ (.slice a2 (lst mn.toNat (cl mn.toNat (relM mr) (i : Int).toNat)).length c2 : Value).ownBlock = some g2 ∧ AtW (MS M [imm (.slice a3 rs2.length c3) rs2, own w.heap.size 3 (.slice a2 (lst mn.toNat (cl mn.toNat (relM mr) (i : Int).toNat)).length c2) (lst mn.toNat (cl mn.toNat (relM mr) (i : Int).toNat)), imm (.slice a1 rs.length c1) rs, box bb2 #[.int .i64 n2_, .slice a3 rs2.length c3] 24, imm (.slice a0 (newMR mn).length c0) (newMR mn), box bb1 #[.int .i64 0, .slice none 0 0] 24, box bb0 #[.int .i64 mn, .slice a_mr mr.length c_mr] 24, imm (.slice a_mr mr.length c_mr) mr]) w14 ⟨g2, (q : Int).toNat * 1, none⟩ x0 := hp5 4 rfl rfl
          refine ldI hA2 ty3 rfl s12 ?_
          intro rv5
          exact ⟨_, rfl, Ext.refl _, ⟨rfl, rv5⟩⟩
        refine ⟨fun _ => ⟨fun f8 w15 hf6 xt12 hp6 => ?_, by rintro _ _ _ x_ ⟨a4, c4, e_, rv4⟩; exact ⟨a4, c4, e_, rv4.lift (Up.ext x_)⟩⟩, ?_⟩
        ·
          have H20 := H11.ext xt12
          have s13 : f8 30 = .agg #[.int .i64 n2_, .slice a3 rs2.length c3] := hp6 0 rfl rfl
          have s14 : f8 31 = .int .i64 (i : Int) := hp6 1 rfl rfl
          obtain ⟨s15, rv6⟩ : f8 35 = .int .i64 x0 ∧ I64 (x0) := hp6 5 rfl rfl
          have cc3 := ref03_Set (mn := n2_) (mr := rs2) (i := (i : Int)) (j := x0) (w := w15) H20.mb (by first | (rw [g1]; exact h_mn) | (rw [h1]; exact h_mn)) (H20.rv 0 rfl) (by unfold I64 at *; omega) (by unfold I64 at *; omega) (by rw [g1, g2]; exact (rc_sq rt_m _).1) (by rw [g2]; exact (rc_sq rt_m _).2.1) (by rw [g1]; exact h4_)
          refine ca go28 rfl (ec s13 (ec s14 (ec s15 e0))) cc3 ?_
          rintro _ w16 ⟨a5, c5, rfl, xt13, rv7⟩
          have rv8 := OwnsG.rv rv7 H20.mb
          have H21 := H20.ext xt13
          have H22 := H21.put (it := imm (.slice a5 (setMR n2_ rs2 (i : Int) x0).length c5) (setMR n2_ rs2 (i : Int) x0)) rfl rv8
          exact ⟨_, rfl, xt13, ⟨a5, c5, rfl, rv8⟩⟩
        refine ⟨fun _ => ⟨fun f9 w17 hf7 xt14 hp7 => ?_, by rintro _ _ _ x_ ⟨a4, c4, e_, rv4⟩; exact ⟨a4, c4, e_, rv4.lift (Up.ext x_)⟩⟩, ?_⟩
        ·
          have H23 := H11.ext xt14
          obtain ⟨a6, c6, s16, rv9⟩ : ∃ (a6 : Option Addr) (c6 : Nat), f9 36 = .tuple #[.agg #[.int .i64 (setMN n2_ (i : Int) x0), .slice a6 (setMR n2_ rs2 (i : Int) x0).length c6], .int .i64 (setME n2_ (i : Int) x0)] ∧ RV (MS M [imm (.slice a3 rs2.length c3) rs2, own w.heap.size 3 (.slice a2 (lst mn.toNat (cl mn.toNat (relM mr) (i : Int).toNat)).length c2) (lst mn.toNat (cl mn.toNat (relM mr) (i : Int).toNat)), imm (.slice a1 rs.length c1) rs, box bb2 #[.int .i64 n2_, .slice a3 rs2.length c3] 24, imm (.slice a0 (newMR mn).length c0) (newMR mn), box bb1 #[.int .i64 0, .slice none 0 0] 24, box bb0 #[.int .i64 mn, .slice a_mr mr.length c_mr] 24, imm (.slice a_mr mr.length c_mr) mr]) w17 (.slice a6 (setMR n2_ rs2 (i : Int) x0).length c6) (setMR n2_ rs2 (i : Int) x0) := hp7 6 rfl rfl
          have H24 := H23.put (it := imm (.slice a6 (setMR n2_ rs2 (i : Int) x0).length c6) (setMR n2_ rs2 (i : Int) x0)) rfl rv9
          refine mv rfl s16 ?_
          exact ⟨_, rfl, Ext.refl _, ⟨a6, c6, rfl, rv9⟩⟩
        exact DSteps.rest rfl _
      · intro f10 w18 hf8 xt15 hp8
        have H25 := H11.ext xt15
        have s17 : f10 1 = .pointer (some ⟨bb0, 0, none⟩) := (hf8 1 rfl).trans s4
        have s18 : f10 2 = .pointer (some ⟨bb1, 0, none⟩) := (hf8 2 rfl).trans s5
        have s19 : f10 3 = .pointer (some ⟨bb2, 0, none⟩) := (hf8 3 rfl).trans s6
        have s20 : f10 5 = .int .i64 (i : Int) := (hf8 5 rfl).trans s7
        have s21 : f10 6 = .slice a2 (lst mn.toNat (cl mn.toNat (relM mr) (i : Int).toNat)).length c2 := (hf8 6 rfl).trans s8
        have s22 : f10 7 = .int .i64 (q : Int) := (hf8 7 rfl).trans s9
        obtain ⟨a7, c7, s23, rv10⟩ : ∃ (a7 : Option Addr) (c7 : Nat), f10 29 = .tuple #[.agg #[.int .i64 (setMN n2_ (i : Int) x0), .slice a7 (setMR n2_ rs2 (i : Int) x0).length c7], .int .i64 (setME n2_ (i : Int) x0)] ∧ RV (MS M [imm (.slice a3 rs2.length c3) rs2, own w.heap.size 3 (.slice a2 (lst mn.toNat (cl mn.toNat (relM mr) (i : Int).toNat)).length c2) (lst mn.toNat (cl mn.toNat (relM mr) (i : Int).toNat)), imm (.slice a1 rs.length c1) rs, box bb2 #[.int .i64 n2_, .slice a3 rs2.length c3] 24, imm (.slice a0 (newMR mn).length c0) (newMR mn), box bb1 #[.int .i64 0, .slice none 0 0] 24, box bb0 #[.int .i64 mn, .slice a_mr mr.length c_mr] 24, imm (.slice a_mr mr.length c_mr) mr]) w18 (.slice a7 (setMR n2_ rs2 (i : Int) x0).length c7) (setMR n2_ rs2 (i : Int) x0) := hp8 7 rfl
        have H26 := H25.put (it := imm (.slice a7 (setMR n2_ rs2 (i : Int) x0).length c7) (setMR n2_ rs2 (i : Int) x0)) rfl rv10
        show TA _ _ _ _ 3 [true, true, true, true, true, true, true, true, false, false, false] _ _
        refine ta [8, 9] (by kernel_rfl) rfl ⟨⟨_, rfl, ?_⟩, ⟨_, rfl, ?_⟩, trivial⟩
        ·
          refine xt rfl s23 rfl ?_
          refine ta [9, 10] (by kernel_rfl) rfl ⟨⟨_, rfl, ?_⟩, ⟨_, rfl, ?_⟩, trivial⟩
          ·
            refine xt rfl s23 rfl ?_
            refine ta [10] (by kernel_rfl) rfl ⟨⟨_, rfl, ?_⟩, trivial⟩
            ·
              refine stX H26 4 rfl ty24 rfl rfl s19 rfl rfl rfl rfl ?_
              intro w19 (H27 : HI M w w19 [imm (.slice a7 (setMR n2_ rs2 (i : Int) x0).length c7) (setMR n2_ rs2 (i : Int) x0), imm (.slice a3 rs2.length c3) rs2, own w.heap.size 3 (.slice a2 (lst mn.toNat (cl mn.toNat (relM mr) (i : Int).toNat)).length c2) (lst mn.toNat (cl mn.toNat (relM mr) (i : Int).toNat)), imm (.slice a1 rs.length c1) rs, box bb2 #[.int .i64 (setMN n2_ (i : Int) x0), .slice a7 (setMR n2_ rs2 (i : Int) x0).length c7] 24, imm (.slice a0 (newMR mn).length c0) (newMR mn), box bb1 #[.int .i64 0, .slice none 0 0] 24, box bb0 #[.int .i64 mn, .slice a_mr mr.length c_mr] 24, imm (.slice a_mr mr.length c_mr) mr])
              refine ta0 (by kernel_rfl) (inb_normal (nx (rg (k (mv rfl s22 (k (add rfl rfl rfl rfl (by have h_ := lst_len mn.toNat (cl mn.toNat (relM mr) (i : Int).toNat); unfold I64; omega) (k (asg (v := .int .i64 ((q : Int) + 1)) rfl rfl (z ?_))))))))))
              have H28 := H27.put (it := imm (.slice a7 (setMR n2_ rs2 (i : Int) x0).length c7) (setMR n2_ rs2 (i : Int) x0)) rfl (H27.rv 0 rfl)
              have H29 : HI M w w19 [imm (.slice a7 (setMR n2_ rs2 (i : Int) x0).length c7) (setMR n2_ rs2 (i : Int) x0), own w.heap.size 3 (.slice a2 (lst mn.toNat (cl mn.toNat (relM mr) (i : Int).toNat)).length c2) (lst mn.toNat (cl mn.toNat (relM mr) (i : Int).toNat)), imm (.slice a1 rs.length c1) rs, box bb2 #[.int .i64 (setMN n2_ (i : Int) x0), .slice a7 (setMR n2_ rs2 (i : Int) x0).length c7] 24, imm (.slice a0 (newMR mn).length c0) (newMR mn), box bb1 #[.int .i64 0, .slice none 0 0] 24, box bb0 #[.int .i64 mn, .slice a_mr mr.length c_mr] 24, imm (.slice a_mr mr.length c_mr) mr] := H28.pickN [0, 3, 4, 5, 6, 7, 8, 9] (by decide) rfl
              refine loopN _ ?_ ⟨(q + 1), (setMN n2_ (i : Int) x0), (setMR n2_ rs2 (i : Int) x0), a7, c7, rfl, s17, s18, s19, s20, s21, (ieq rfl (by first | rfl | omega | (push_cast; omega))), H29, (by first | assumption | omega | simp | (simp; omega)), (by rw [g1]; exact (rc_set rt_m g2 hx0 (by omega)).1), (by rw [g1]; exact (rc_set rt_m g2 hx0 (by omega)).2.1)⟩
              omega
          ·
            refine stX H26 4 rfl ty24 rfl rfl s19 rfl rfl rfl rfl ?_
            intro w19 (H27 : HI M w w19 [imm (.slice a7 (setMR n2_ rs2 (i : Int) x0).length c7) (setMR n2_ rs2 (i : Int) x0), imm (.slice a3 rs2.length c3) rs2, own w.heap.size 3 (.slice a2 (lst mn.toNat (cl mn.toNat (relM mr) (i : Int).toNat)).length c2) (lst mn.toNat (cl mn.toNat (relM mr) (i : Int).toNat)), imm (.slice a1 rs.length c1) rs, box bb2 #[.int .i64 (setMN n2_ (i : Int) x0), .slice a7 (setMR n2_ rs2 (i : Int) x0).length c7] 24, imm (.slice a0 (newMR mn).length c0) (newMR mn), box bb1 #[.int .i64 0, .slice none 0 0] 24, box bb0 #[.int .i64 mn, .slice a_mr mr.length c_mr] 24, imm (.slice a_mr mr.length c_mr) mr])
            refine ta [9] (by kernel_rfl) rfl ⟨⟨_, rfl, ?_⟩, trivial⟩
            ·
              refine xt rfl s23 rfl (ta0 (by kernel_rfl) (inb_normal (nx (rg (k (mv rfl s22 (k (add rfl rfl rfl rfl (by have h_ := lst_len mn.toNat (cl mn.toNat (relM mr) (i : Int).toNat); unfold I64; omega) (k (asg (v := .int .i64 ((q : Int) + 1)) rfl rfl (z ?_)))))))))))
              have H28 := H27.put (it := imm (.slice a7 (setMR n2_ rs2 (i : Int) x0).length c7) (setMR n2_ rs2 (i : Int) x0)) rfl (H27.rv 0 rfl)
              have H29 : HI M w w19 [imm (.slice a7 (setMR n2_ rs2 (i : Int) x0).length c7) (setMR n2_ rs2 (i : Int) x0), own w.heap.size 3 (.slice a2 (lst mn.toNat (cl mn.toNat (relM mr) (i : Int).toNat)).length c2) (lst mn.toNat (cl mn.toNat (relM mr) (i : Int).toNat)), imm (.slice a1 rs.length c1) rs, box bb2 #[.int .i64 (setMN n2_ (i : Int) x0), .slice a7 (setMR n2_ rs2 (i : Int) x0).length c7] 24, imm (.slice a0 (newMR mn).length c0) (newMR mn), box bb1 #[.int .i64 0, .slice none 0 0] 24, box bb0 #[.int .i64 mn, .slice a_mr mr.length c_mr] 24, imm (.slice a_mr mr.length c_mr) mr] := H28.pickN [0, 3, 4, 5, 6, 7, 8, 9] (by decide) rfl
              refine loopN _ ?_ ⟨(q + 1), (setMN n2_ (i : Int) x0), (setMR n2_ rs2 (i : Int) x0), a7, c7, rfl, s17, s18, s19, s20, s21, (ieq rfl (by first | rfl | omega | (push_cast; omega))), H29, (by first | assumption | omega | simp | (simp; omega)), (by rw [g1]; exact (rc_set rt_m g2 hx0 (by omega)).1), (by rw [g1]; exact (rc_set rt_m g2 hx0 (by omega)).2.1)⟩
              omega
        ·
          refine xt rfl s23 rfl ?_
          refine ta [8] (by kernel_rfl) rfl ⟨⟨_, rfl, ?_⟩, trivial⟩
          ·
            refine xt rfl s23 rfl ?_
            refine ta [10] (by kernel_rfl) rfl ⟨⟨_, rfl, ?_⟩, trivial⟩
            ·
              refine stX H26 4 rfl ty24 rfl rfl s19 rfl rfl rfl rfl ?_
              intro w19 (H27 : HI M w w19 [imm (.slice a7 (setMR n2_ rs2 (i : Int) x0).length c7) (setMR n2_ rs2 (i : Int) x0), imm (.slice a3 rs2.length c3) rs2, own w.heap.size 3 (.slice a2 (lst mn.toNat (cl mn.toNat (relM mr) (i : Int).toNat)).length c2) (lst mn.toNat (cl mn.toNat (relM mr) (i : Int).toNat)), imm (.slice a1 rs.length c1) rs, box bb2 #[.int .i64 (setMN n2_ (i : Int) x0), .slice a7 (setMR n2_ rs2 (i : Int) x0).length c7] 24, imm (.slice a0 (newMR mn).length c0) (newMR mn), box bb1 #[.int .i64 0, .slice none 0 0] 24, box bb0 #[.int .i64 mn, .slice a_mr mr.length c_mr] 24, imm (.slice a_mr mr.length c_mr) mr])
              refine ta0 (by kernel_rfl) (inb_normal (nx (rg (k (mv rfl s22 (k (add rfl rfl rfl rfl (by have h_ := lst_len mn.toNat (cl mn.toNat (relM mr) (i : Int).toNat); unfold I64; omega) (k (asg (v := .int .i64 ((q : Int) + 1)) rfl rfl (z ?_))))))))))
              have H28 := H27.put (it := imm (.slice a7 (setMR n2_ rs2 (i : Int) x0).length c7) (setMR n2_ rs2 (i : Int) x0)) rfl (H27.rv 0 rfl)
              have H29 : HI M w w19 [imm (.slice a7 (setMR n2_ rs2 (i : Int) x0).length c7) (setMR n2_ rs2 (i : Int) x0), own w.heap.size 3 (.slice a2 (lst mn.toNat (cl mn.toNat (relM mr) (i : Int).toNat)).length c2) (lst mn.toNat (cl mn.toNat (relM mr) (i : Int).toNat)), imm (.slice a1 rs.length c1) rs, box bb2 #[.int .i64 (setMN n2_ (i : Int) x0), .slice a7 (setMR n2_ rs2 (i : Int) x0).length c7] 24, imm (.slice a0 (newMR mn).length c0) (newMR mn), box bb1 #[.int .i64 0, .slice none 0 0] 24, box bb0 #[.int .i64 mn, .slice a_mr mr.length c_mr] 24, imm (.slice a_mr mr.length c_mr) mr] := H28.pickN [0, 3, 4, 5, 6, 7, 8, 9] (by decide) rfl
              refine loopN _ ?_ ⟨(q + 1), (setMN n2_ (i : Int) x0), (setMR n2_ rs2 (i : Int) x0), a7, c7, rfl, s17, s18, s19, s20, s21, (ieq rfl (by first | rfl | omega | (push_cast; omega))), H29, (by first | assumption | omega | simp | (simp; omega)), (by rw [g1]; exact (rc_set rt_m g2 hx0 (by omega)).1), (by rw [g1]; exact (rc_set rt_m g2 hx0 (by omega)).2.1)⟩
              omega
    ·
      have p1 := of_decide_eq_false b1
      refine ex (then_exit (loop_exit (inb_here (inb_normal (nx (rg (k (mv rfl s7 (k (add rfl rfl rfl rfl (by unfold I64 at *; omega) (k (asg (v := .int .i64 ((i : Int) + 1)) rfl rfl (z ?_)))))))))))))
      have H12 := H11.put (it := imm (.slice a3 rs2.length c3) rs2) rfl (H11.rv 0 rfl)
      have H13 : HI M w w7 [imm (.slice a3 rs2.length c3) rs2, box bb2 #[.int .i64 n2_, .slice a3 rs2.length c3] 24, imm (.slice a0 (newMR mn).length c0) (newMR mn), box bb1 #[.int .i64 0, .slice none 0 0] 24, box bb0 #[.int .i64 mn, .slice a_mr mr.length c_mr] 24, imm (.slice a_mr mr.length c_mr) mr] := H12.pickN [0, 4, 5, 6, 7, 8] (by decide) rfl
      refine loopN _ ?_ ⟨(i + 1), n2_, rs2, a3, c3, rfl, s4, s5, s6, (ieq rfl (by first | rfl | omega | (push_cast; omega))), H13, (by first | assumption | omega | simp | (simp; omega)), (by exact g1), (by rw [g2]; exact rc_row (show (lst mn.toNat (cl mn.toNat (relM mr) (i : Int).toNat)).length ≤ q from by omega))⟩
      omega
  ·
    have p0 := of_decide_eq_false b0
    refine ex (then_exit (loop_exit (inb_here (nx (sq (rg (k (ldX H8 1 rfl ty24 rfl s2 (by decide) rfl (k (stX H8 3 rfl ty24 rfl rfl s1 rfl rfl rfl rfl ?_))))))))))
    intro w6 (H9 : HI M w w6 [imm (.slice a1 rs.length c1) rs, box bb2 #[.int .i64 n_, .slice a1 rs.length c1] 24, imm (.slice a0 (newMR mn).length c0) (newMR mn), box bb1 #[.int .i64 n_, .slice a1 rs.length c1] 24, box bb0 #[.int .i64 mn, .slice a_mr mr.length c_mr] 24, imm (.slice a_mr mr.length c_mr) mr])
    refine z (nx (rt (rc1 H9 3 rfl ty24 rfl rfl s1 rfl (by decide) ?_)))
    have e0 : (n_ : Int) = mn := by exact h1
    have e1 : (rs : List (List (BitVec 64))) = closeM mn mr := by rw [h2]; exact rc_fin rfl (by omega)
    have ev_ := cg2 (fun (x_0 : Int) (x_1 : List (List (BitVec 64))) => (.agg #[.int .i64 x_0, .slice a1 x_1.length c1] : Value)) e0 e1
    exact ⟨a1, c1, ev_, H9.below, (congrArg (fun (x_ : List (List (BitVec 64))) => RV _ _ (.slice a1 x_.length c1) x_) e1).mp (H9.gives_out 0 rfl)⟩
end Go.Proofs.YtmhopljngkgidaaDoor
namespace Go.Proofs.YtmhopljngkgidaaDoor
open Go.Ew Go.RowKit
set_option linter.unusedVariables false
set_option linter.unusedSimpArgs false
attribute [local irreducible] WL WC SO Code.wp wpList retQ Ret
attribute [local irreducible] bitB hasW inR hasR setR countW countR subR words newR listR orR firstW tab8
theorem go68 : GoF Tryd.prog 68 := ⟨_, _, Tryd.func68, rfl, by kernel_rfl⟩
theorem go40 : GoF Tryd.prog 40 := ⟨_, _, Tryd.func40, rfl, by kernel_rfl⟩
theorem go42 : GoF Tryd.prog 42 := ⟨_, _, Tryd.func42, rfl, by kernel_rfl⟩
theorem go43 : GoF Tryd.prog 43 := ⟨_, _, Tryd.func43, rfl, by kernel_rfl⟩
theorem go12 : GoF Tryd.prog 12 := ⟨_, _, Tryd.func12, rfl, by kernel_rfl⟩
theorem go13 : GoF Tryd.prog 13 := ⟨_, _, Tryd.func13, rfl, by kernel_rfl⟩
set_option maxRecDepth 100000 in
set_option maxHeartbeats 1600000 in
theorem awake14 {w : World} (hT : TabAt 0 w) : Calls Tryd.prog 37 #[] w (Ret fun v w' =>  v = .bool true ∧ Ext w w') := by
  refine enter 46 Tryd.func37 rfl rfl rfl fun f0 ha => ?_
  have H := HI.start (M0 := (fun _ => False)) (w := w) (fun _ h => h.elim)
  refine sq (rg (k (asg (v := .bool false) rfl rfl (z (nx (sq (rg (k (bd (v := .agg #[.int .i64 0, .int .i64 1]) rfl (pbc rfl (pbc rfl pb0)) (fun _ => by kernel_rfl) (k (bd (v := .agg #[.int .i64 1, .int .i64 2]) rfl (pbc rfl (pbc rfl pb0)) (fun _ => by kernel_rfl) (k (bd (v := .agg #[.int .i64 2, .int .i64 0]) rfl (pbc rfl (pbc rfl pb0)) (fun _ => by kernel_rfl) (k (bs (xs := ([(0, 1), (1, 2), (2, 0)] : List (Int × Int))) (cells := #[.int .i64 0, .int .i64 1, .int .i64 1, .int .i64 2, .int .i64 2, .int .i64 0]) (e := 76) H rfl (pbc rfl (pbc rfl (pbc rfl pb0))) (fun _ => by kernel_rfl) ⟨[.int .i64 0, .int .i64 1], [.int .i64 1, .int .i64 2, .int .i64 2, .int .i64 0], rfl, ⟨_, _, rfl, ⟨rfl, (show I64 (0) from (by first | (unfold I64; decide +kernel) | decide +kernel))⟩, ⟨rfl, (show I64 (1) from (by first | (unfold I64; decide +kernel) | decide +kernel))⟩⟩, ⟨[.int .i64 1, .int .i64 2], [.int .i64 2, .int .i64 0], rfl, ⟨_, _, rfl, ⟨rfl, (show I64 (1) from (by first | (unfold I64; decide +kernel) | decide +kernel))⟩, ⟨rfl, (show I64 (2) from (by first | (unfold I64; decide +kernel) | decide +kernel))⟩⟩, ⟨[.int .i64 2, .int .i64 0], [], rfl, ⟨_, _, rfl, ⟨rfl, (show I64 (2) from (by first | (unfold I64; decide +kernel) | decide +kernel))⟩, ⟨rfl, (show I64 (0) from (by first | (unfold I64; decide +kernel) | decide +kernel))⟩⟩, rfl⟩⟩⟩ rfl (by unfold maxLen; omega) ?_)))))))))))))))
  intro g0 w0 xt0 (H0 : HI (fun _ => False) w w0 [own w.heap.size 76 (.slice (some ⟨g0, 0, none⟩) 3 3) ([(0, 1), (1, 2), (2, 0)] : List (Int × Int))])
  refine k ?_
  have H1 := H0.freeze 0 rfl
  have cc0 := ref03_Of (n := 3) (ps := ([(0, 1), (1, 2), (2, 0)] : List (Int × Int))) (w := w0) H1.mb (by first | (unfold I64; decide +kernel) | decide +kernel) (H1.rv 0 rfl)
  refine ca go68 rfl (ec rfl (ec rfl e0)) cc0 ?_
  rintro _ w1 ⟨a0, c0, rfl, xt1, rv0⟩
  have H2 := H1.ext xt1
  have H3 := H2.put (it := imm (.slice a0 (ofMR 3 ([(0, 1), (1, 2), (2, 0)] : List (Int × Int))).length c0) (ofMR 3 ([(0, 1), (1, 2), (2, 0)] : List (Int × Int)))) rfl rv0
  refine k (mv (v := .tuple #[.agg #[.int .i64 (ofMN 3 ([(0, 1), (1, 2), (2, 0)] : List (Int × Int))), .slice a0 (ofMR 3 ([(0, 1), (1, 2), (2, 0)] : List (Int × Int))).length c0], .int .i64 (ofME 3 ([(0, 1), (1, 2), (2, 0)] : List (Int × Int)))]) rfl rfl (k (xt rfl rfl rfl (k (xt rfl rfl rfl (k (al H3 ty24 ?_)))))))
  intro bb0 w2 xt2 (H4 : HI (fun _ => False) w w2 [box bb0 #[.int .i64 0, .slice none 0 0] 24, imm (.slice a0 (ofMR 3 ([(0, 1), (1, 2), (2, 0)] : List (Int × Int))).length c0) (ofMR 3 ([(0, 1), (1, 2), (2, 0)] : List (Int × Int))), imm (.slice (some ⟨g0, 0, none⟩) 3 3) ([(0, 1), (1, 2), (2, 0)] : List (Int × Int))])
  refine k (stX H4 0 rfl ty24 rfl rfl rfl rfl rfl rfl rfl ?_)
  intro w3 (H5 : HI (fun _ => False) w w3 [box bb0 #[.int .i64 (ofMN 3 ([(0, 1), (1, 2), (2, 0)] : List (Int × Int))), .slice a0 (ofMR 3 ([(0, 1), (1, 2), (2, 0)] : List (Int × Int))).length c0] 24, imm (.slice a0 (ofMR 3 ([(0, 1), (1, 2), (2, 0)] : List (Int × Int))).length c0) (ofMR 3 ([(0, 1), (1, 2), (2, 0)] : List (Int × Int))), imm (.slice (some ⟨g0, 0, none⟩) 3 3) ([(0, 1), (1, 2), (2, 0)] : List (Int × Int))])
  refine k (asg (v := .int .i64 (ofME 3 ([(0, 1), (1, 2), (2, 0)] : List (Int × Int)))) rfl rfl (z (nx (sq (rg (k (ldX H5 0 rfl ty24 rfl rfl (by decide) rfl (k ?_))))))))
  have cc1 := path_Round (mn := (ofMN 3 ([(0, 1), (1, 2), (2, 0)] : List (Int × Int)))) (mr := (ofMR 3 ([(0, 1), (1, 2), (2, 0)] : List (Int × Int)))) (w := w3) H5.mb (hT.ext H5.below) (by first | (unfold I64; decide +kernel) | decide +kernel) (H5.rv 1 rfl) (by decide +kernel)
  refine ca go40 rfl (ec rfl e0) cc1 ?_
  rintro _ w4 ⟨a1, c1, rfl, xt3, rv1⟩
  have H6 := H5.ownsG rv1
  refine k (mv (v := .tuple #[.slice a1 ((roundM (ofMN 3 ([(0, 1), (1, 2), (2, 0)] : List (Int × Int))) (ofMR 3 ([(0, 1), (1, 2), (2, 0)] : List (Int × Int)))).getD []).length c1, .bool ((roundM (ofMN 3 ([(0, 1), (1, 2), (2, 0)] : List (Int × Int))) (ofMR 3 ([(0, 1), (1, 2), (2, 0)] : List (Int × Int)))).isSome)]) rfl rfl (k (xt rfl rfl rfl (k (xt rfl rfl rfl (k (asg (v := .slice a1 ((roundM (ofMN 3 ([(0, 1), (1, 2), (2, 0)] : List (Int × Int))) (ofMR 3 ([(0, 1), (1, 2), (2, 0)] : List (Int × Int)))).getD []).length c1) rfl rfl (k (asg (v := .bool ((roundM (ofMN 3 ([(0, 1), (1, 2), (2, 0)] : List (Int × Int))) (ofMR 3 ([(0, 1), (1, 2), (2, 0)] : List (Int × Int)))).isSome)) rfl rfl (z (nx (sq (rg (k (ldX H6 1 rfl ty24 rfl rfl (by decide) rfl (k ?_))))))))))))))))
  have cc2 := path_Find (mn := (ofMN 3 ([(0, 1), (1, 2), (2, 0)] : List (Int × Int)))) (mr := (ofMR 3 ([(0, 1), (1, 2), (2, 0)] : List (Int × Int)))) (i := 0) (j := 3) (w := w4) H6.mb (hT.ext H6.below) (by first | (unfold I64; decide +kernel) | decide +kernel) (H6.rv 2 rfl) (by first | (unfold I64; decide +kernel) | decide +kernel) (by first | (unfold I64; decide +kernel) | decide +kernel) (by decide +kernel)
  refine ca go38 rfl (ec rfl (ec rfl (ec rfl e0))) cc2 ?_
  rintro _ w5 ⟨a2, c2, rfl, xt4, rv2⟩
  have H7 := H6.ownsG rv2
  refine k (mv (v := .tuple #[.slice a2 ((pathM (ofMN 3 ([(0, 1), (1, 2), (2, 0)] : List (Int × Int))) (ofMR 3 ([(0, 1), (1, 2), (2, 0)] : List (Int × Int))) 0 3).getD []).length c2, .bool ((pathM (ofMN 3 ([(0, 1), (1, 2), (2, 0)] : List (Int × Int))) (ofMR 3 ([(0, 1), (1, 2), (2, 0)] : List (Int × Int))) 0 3).isSome)]) rfl rfl (k (xt rfl rfl rfl (k (xt rfl rfl rfl (k (asg (v := .slice a2 ((pathM (ofMN 3 ([(0, 1), (1, 2), (2, 0)] : List (Int × Int))) (ofMR 3 ([(0, 1), (1, 2), (2, 0)] : List (Int × Int))) 0 3).getD []).length c2) rfl rfl (k (asg (v := .bool ((pathM (ofMN 3 ([(0, 1), (1, 2), (2, 0)] : List (Int × Int))) (ofMR 3 ([(0, 1), (1, 2), (2, 0)] : List (Int × Int))) 0 3).isSome)) rfl rfl (z (nx (sq (rg (k (mv (v := .bool ((roundM (ofMN 3 ([(0, 1), (1, 2), (2, 0)] : List (Int × Int))) (ofMR 3 ([(0, 1), (1, 2), (2, 0)] : List (Int × Int)))).isSome)) rfl rfl (k (mv (v := .bool ((roundM (ofMN 3 ([(0, 1), (1, 2), (2, 0)] : List (Int × Int))) (ofMR 3 ([(0, 1), (1, 2), (2, 0)] : List (Int × Int)))).isSome)) rfl rfl ?_)))))))))))))))))
  have tr0 : ((roundM (ofMN 3 ([(0, 1), (1, 2), (2, 0)] : List (Int × Int))) (ofMR 3 ([(0, 1), (1, 2), (2, 0)] : List (Int × Int)))).isSome) = true := (by decide +kernel)
  refine k (gy rfl rfl rfl tr0 (mv (v := .slice a1 ((roundM (ofMN 3 ([(0, 1), (1, 2), (2, 0)] : List (Int × Int))) (ofMR 3 ([(0, 1), (1, 2), (2, 0)] : List (Int × Int)))).getD []).length c1) rfl rfl (k (gy rfl rfl rfl tr0 (bs (xs := ([0, 1, 2, 0] : List Int)) (cells := #[.int .i64 0, .int .i64 1, .int .i64 2, .int .i64 0]) (e := 3) H7 rfl (pbc rfl (pbc rfl (pbc rfl (pbc rfl pb0)))) (fun _ => by kernel_rfl) ⟨[.int .i64 0], [.int .i64 1, .int .i64 2, .int .i64 0], rfl, ⟨rfl, (show I64 (0) from (by first | (unfold I64; decide +kernel) | decide +kernel))⟩, ⟨[.int .i64 1], [.int .i64 2, .int .i64 0], rfl, ⟨rfl, (show I64 (1) from (by first | (unfold I64; decide +kernel) | decide +kernel))⟩, ⟨[.int .i64 2], [.int .i64 0], rfl, ⟨rfl, (show I64 (2) from (by first | (unfold I64; decide +kernel) | decide +kernel))⟩, ⟨[.int .i64 0], [], rfl, ⟨rfl, (show I64 (0) from (by first | (unfold I64; decide +kernel) | decide +kernel))⟩, rfl⟩⟩⟩⟩ rfl (by unfold maxLen; omega) ?_)))))
  intro g1 w6 xt5 (H8 : HI (fun _ => False) w w6 [own w.heap.size 3 (.slice (some ⟨g1, 0, none⟩) 4 4) ([0, 1, 2, 0] : List Int), own w.heap.size 3 (.slice a2 ((pathM (ofMN 3 ([(0, 1), (1, 2), (2, 0)] : List (Int × Int))) (ofMR 3 ([(0, 1), (1, 2), (2, 0)] : List (Int × Int))) 0 3).getD []).length c2) ((pathM (ofMN 3 ([(0, 1), (1, 2), (2, 0)] : List (Int × Int))) (ofMR 3 ([(0, 1), (1, 2), (2, 0)] : List (Int × Int))) 0 3).getD []), own w.heap.size 3 (.slice a1 ((roundM (ofMN 3 ([(0, 1), (1, 2), (2, 0)] : List (Int × Int))) (ofMR 3 ([(0, 1), (1, 2), (2, 0)] : List (Int × Int)))).getD []).length c1) ((roundM (ofMN 3 ([(0, 1), (1, 2), (2, 0)] : List (Int × Int))) (ofMR 3 ([(0, 1), (1, 2), (2, 0)] : List (Int × Int)))).getD []), box bb0 #[.int .i64 (ofMN 3 ([(0, 1), (1, 2), (2, 0)] : List (Int × Int))), .slice a0 (ofMR 3 ([(0, 1), (1, 2), (2, 0)] : List (Int × Int))).length c0] 24, imm (.slice a0 (ofMR 3 ([(0, 1), (1, 2), (2, 0)] : List (Int × Int))).length c0) (ofMR 3 ([(0, 1), (1, 2), (2, 0)] : List (Int × Int))), imm (.slice (some ⟨g0, 0, none⟩) 3 3) ([(0, 1), (1, 2), (2, 0)] : List (Int × Int))])
  refine k (gy rfl rfl rfl tr0 ?_)
  have H9 := H8.freeze 2 rfl
  have H10 := H9.freeze 0 rfl
  have cc3 := ref02_Ints (a := ((roundM (ofMN 3 ([(0, 1), (1, 2), (2, 0)] : List (Int × Int))) (ofMR 3 ([(0, 1), (1, 2), (2, 0)] : List (Int × Int)))).getD [])) (b := ([0, 1, 2, 0] : List Int)) (w := w6) H10.mb (H10.rv 2 rfl) (H10.rv 0 rfl)
  refine ca go42 rfl (ec rfl (ec rfl e0)) cc3 ?_
  rintro _ w7 ⟨rfl, xt6⟩
  have H11 := H8.ext xt6
  refine k (pickT rfl rfl rfl rfl tr0 rfl (k (mv (v := .bool (decide (((roundM (ofMN 3 ([(0, 1), (1, 2), (2, 0)] : List (Int × Int))) (ofMR 3 ([(0, 1), (1, 2), (2, 0)] : List (Int × Int)))).getD []) = ([0, 1, 2, 0] : List Int)))) rfl rfl ?_)))
  have tr1 : (decide (((roundM (ofMN 3 ([(0, 1), (1, 2), (2, 0)] : List (Int × Int))) (ofMR 3 ([(0, 1), (1, 2), (2, 0)] : List (Int × Int)))).getD []) = ([0, 1, 2, 0] : List Int))) = true := (by decide +kernel)
  refine k (gy rfl rfl rfl tr1 (mv (v := .bool ((pathM (ofMN 3 ([(0, 1), (1, 2), (2, 0)] : List (Int × Int))) (ofMR 3 ([(0, 1), (1, 2), (2, 0)] : List (Int × Int))) 0 3).isSome)) rfl rfl (k (gy rfl rfl rfl tr1 (not_ rfl rfl (k (pickT rfl rfl rfl rfl tr1 rfl (k (mv (v := .bool (!((pathM (ofMN 3 ([(0, 1), (1, 2), (2, 0)] : List (Int × Int))) (ofMR 3 ([(0, 1), (1, 2), (2, 0)] : List (Int × Int))) 0 3).isSome))) rfl rfl ?_)))))))))
  have tr2 : ((pathM (ofMN 3 ([(0, 1), (1, 2), (2, 0)] : List (Int × Int))) (ofMR 3 ([(0, 1), (1, 2), (2, 0)] : List (Int × Int))) 0 3).isSome) = false := (by decide +kernel)
  refine k (gy rfl rfl rfl (by rw [show ((pathM (ofMN 3 ([(0, 1), (1, 2), (2, 0)] : List (Int × Int))) (ofMR 3 ([(0, 1), (1, 2), (2, 0)] : List (Int × Int))) 0 3).isSome) = false from tr2]; rfl) (ldX H11 3 rfl ty24 rfl rfl (by decide) rfl (k (gy rfl rfl rfl (by rw [show ((pathM (ofMN 3 ([(0, 1), (1, 2), (2, 0)] : List (Int × Int))) (ofMR 3 ([(0, 1), (1, 2), (2, 0)] : List (Int × Int))) 0 3).isSome) = false from tr2]; rfl) (mv (v := .slice a1 ((roundM (ofMN 3 ([(0, 1), (1, 2), (2, 0)] : List (Int × Int))) (ofMR 3 ([(0, 1), (1, 2), (2, 0)] : List (Int × Int)))).getD []).length c1) rfl rfl (k (gy rfl rfl rfl (by rw [show ((pathM (ofMN 3 ([(0, 1), (1, 2), (2, 0)] : List (Int × Int))) (ofMR 3 ([(0, 1), (1, 2), (2, 0)] : List (Int × Int))) 0 3).isSome) = false from tr2]; rfl) ?_)))))))
  have H12 := H11.freeze 2 rfl
  have cc4 := path_Is (mn := (ofMN 3 ([(0, 1), (1, 2), (2, 0)] : List (Int × Int)))) (mr := (ofMR 3 ([(0, 1), (1, 2), (2, 0)] : List (Int × Int)))) (l := ((roundM (ofMN 3 ([(0, 1), (1, 2), (2, 0)] : List (Int × Int))) (ofMR 3 ([(0, 1), (1, 2), (2, 0)] : List (Int × Int)))).getD [])) (w := w7) H12.mb (by first | (unfold I64; decide +kernel) | decide +kernel) (H12.rv 4 rfl) (H12.rv 2 rfl) (by decide +kernel)
  refine ca go43 rfl (ec rfl (ec rfl e0)) cc4 ?_
  rintro _ w8 ⟨rfl, xt7⟩
  have H13 := H11.ext xt7
  refine k (pickT rfl rfl rfl rfl (by rw [show ((pathM (ofMN 3 ([(0, 1), (1, 2), (2, 0)] : List (Int × Int))) (ofMR 3 ([(0, 1), (1, 2), (2, 0)] : List (Int × Int))) 0 3).isSome) = false from tr2]; rfl) rfl (k (mv (v := .bool (isM (ofMN 3 ([(0, 1), (1, 2), (2, 0)] : List (Int × Int))) (ofMR 3 ([(0, 1), (1, 2), (2, 0)] : List (Int × Int))) ((roundM (ofMN 3 ([(0, 1), (1, 2), (2, 0)] : List (Int × Int))) (ofMR 3 ([(0, 1), (1, 2), (2, 0)] : List (Int × Int)))).getD []))) rfl rfl ?_)))
  have tr3 : (isM (ofMN 3 ([(0, 1), (1, 2), (2, 0)] : List (Int × Int))) (ofMR 3 ([(0, 1), (1, 2), (2, 0)] : List (Int × Int))) ((roundM (ofMN 3 ([(0, 1), (1, 2), (2, 0)] : List (Int × Int))) (ofMR 3 ([(0, 1), (1, 2), (2, 0)] : List (Int × Int)))).getD [])) = true := (by decide +kernel)
  refine k (gy rfl rfl rfl tr3 (ldX H13 3 rfl ty24 rfl rfl (by decide) rfl (k (gy rfl rfl rfl tr3 (bs (xs := ([0, 2] : List Int)) (cells := #[.int .i64 0, .int .i64 2]) (e := 3) H13 rfl (pbc rfl (pbc rfl pb0)) (fun _ => by kernel_rfl) ⟨[.int .i64 0], [.int .i64 2], rfl, ⟨rfl, (show I64 (0) from (by first | (unfold I64; decide +kernel) | decide +kernel))⟩, ⟨[.int .i64 2], [], rfl, ⟨rfl, (show I64 (2) from (by first | (unfold I64; decide +kernel) | decide +kernel))⟩, rfl⟩⟩ rfl (by unfold maxLen; omega) ?_)))))
  intro g2 w9 xt8 (H14 : HI (fun _ => False) w w9 [own w.heap.size 3 (.slice (some ⟨g2, 0, none⟩) 2 2) ([0, 2] : List Int), own w.heap.size 3 (.slice (some ⟨g1, 0, none⟩) 4 4) ([0, 1, 2, 0] : List Int), own w.heap.size 3 (.slice a2 ((pathM (ofMN 3 ([(0, 1), (1, 2), (2, 0)] : List (Int × Int))) (ofMR 3 ([(0, 1), (1, 2), (2, 0)] : List (Int × Int))) 0 3).getD []).length c2) ((pathM (ofMN 3 ([(0, 1), (1, 2), (2, 0)] : List (Int × Int))) (ofMR 3 ([(0, 1), (1, 2), (2, 0)] : List (Int × Int))) 0 3).getD []), own w.heap.size 3 (.slice a1 ((roundM (ofMN 3 ([(0, 1), (1, 2), (2, 0)] : List (Int × Int))) (ofMR 3 ([(0, 1), (1, 2), (2, 0)] : List (Int × Int)))).getD []).length c1) ((roundM (ofMN 3 ([(0, 1), (1, 2), (2, 0)] : List (Int × Int))) (ofMR 3 ([(0, 1), (1, 2), (2, 0)] : List (Int × Int)))).getD []), box bb0 #[.int .i64 (ofMN 3 ([(0, 1), (1, 2), (2, 0)] : List (Int × Int))), .slice a0 (ofMR 3 ([(0, 1), (1, 2), (2, 0)] : List (Int × Int))).length c0] 24, imm (.slice a0 (ofMR 3 ([(0, 1), (1, 2), (2, 0)] : List (Int × Int))).length c0) (ofMR 3 ([(0, 1), (1, 2), (2, 0)] : List (Int × Int))), imm (.slice (some ⟨g0, 0, none⟩) 3 3) ([(0, 1), (1, 2), (2, 0)] : List (Int × Int))])
  refine k (gy rfl rfl rfl tr3 ?_)
  have H15 := H14.freeze 0 rfl
  have cc5 := path_Is (mn := (ofMN 3 ([(0, 1), (1, 2), (2, 0)] : List (Int × Int)))) (mr := (ofMR 3 ([(0, 1), (1, 2), (2, 0)] : List (Int × Int)))) (l := ([0, 2] : List Int)) (w := w9) H15.mb (by first | (unfold I64; decide +kernel) | decide +kernel) (H15.rv 5 rfl) (H15.rv 0 rfl) (by decide +kernel)
  refine ca go43 rfl (ec rfl (ec rfl e0)) cc5 ?_
  rintro _ w10 ⟨rfl, xt9⟩
  have H16 := H14.ext xt9
  refine k (gy rfl rfl rfl tr3 (not_ rfl rfl (k (pickT rfl rfl rfl rfl tr3 rfl (k (asg (v := .bool (!(isM (ofMN 3 ([(0, 1), (1, 2), (2, 0)] : List (Int × Int))) (ofMR 3 ([(0, 1), (1, 2), (2, 0)] : List (Int × Int))) ([0, 2] : List Int)))) rfl rfl (z (nx (rt (r1 rfl rfl ?_))))))))))
  have tr4 : (isM (ofMN 3 ([(0, 1), (1, 2), (2, 0)] : List (Int × Int))) (ofMR 3 ([(0, 1), (1, 2), (2, 0)] : List (Int × Int))) ([0, 2] : List Int)) = false := (by decide +kernel)
  have e0 : (!(isM (ofMN 3 ([(0, 1), (1, 2), (2, 0)] : List (Int × Int))) (ofMR 3 ([(0, 1), (1, 2), (2, 0)] : List (Int × Int))) ([0, 2] : List Int)) : Bool) = true := by exact (by rw [show (isM (ofMN 3 ([(0, 1), (1, 2), (2, 0)] : List (Int × Int))) (ofMR 3 ([(0, 1), (1, 2), (2, 0)] : List (Int × Int))) ([0, 2] : List Int)) = false from tr4]; rfl)
  have ev_ := cg1 (fun (x_0 : Bool) => (.bool x_0 : Value)) e0
  exact ⟨ev_, H16.below⟩
set_option maxRecDepth 100000 in
set_option maxHeartbeats 1600000 in
theorem may14 {M : Nat → Prop} {w : World} {mn : Int} {a_mr : Option Addr} {c_mr : Nat} {mr : List (List (BitVec 64))} (hM : ∀ b, M b → b < w.heap.size) (h_mn : I64 mn) (h_mr : RV M w (.slice a_mr mr.length c_mr) mr) : Calls Tryd.prog 36 #[.agg #[.int .i64 mn, .slice a_mr mr.length c_mr]] w (Ret fun v w' =>  v = .bool (smallM mr 16 && rightS mn mr) ∧ Ext w w') := by
  refine enter 9 Tryd.func36 rfl rfl rfl fun f0 ha => ?_
  have H := HI.start (M0 := M) (w := w) hM
  have H0 := H.put (it := imm (.slice a_mr mr.length c_mr) mr) rfl (by rw [MS_nil]; exact h_mr)
  have ln_mr := rv_len h_mr
  have i0 : f0 0 = .agg #[.int .i64 mn, .slice a_mr mr.length c_mr] := ha 0 (by simp)
  refine sq (rg (k (bx H0 rfl i0 ?_)))
  intro bb0 w0 xt0 (H1 : HI M w w0 [box bb0 #[.int .i64 mn, .slice a_mr mr.length c_mr] 24, imm (.slice a_mr mr.length c_mr) mr])
  refine k (asg (v := .bool false) rfl rfl (z (nx (sq (rg (k (ldX H1 0 rfl ty24 rfl rfl (by decide) rfl (k ?_))))))))
  have cc0 := ref03_Small (mn := mn) (mr := mr) (mo := 16) (w := w0) H1.mb (by unfold I64 at *; omega) (H1.rv 1 rfl) (by unfold I64 at *; omega)
  refine ca go12 rfl (ec rfl (ec rfl e0)) cc0 ?_
  rintro _ w1 ⟨rfl, xt1⟩
  have H2 := H1.ext xt1
  refine k (mv (v := .bool (smallM mr 16)) rfl rfl ?_)
  rcases Bool.eq_false_or_eq_true (smallM mr 16) with b0 | b0
  · -- smallM mr 16 is True
    refine k (gy rfl rfl rfl b0 (ldX H2 0 rfl ty24 rfl rfl (by decide) rfl (k (gy rfl rfl rfl b0 ?_))))
    have cc1 := ref03_Right (mn := mn) (mr := mr) (w := w1) H2.mb (by unfold I64 at *; omega) (H2.rv 1 rfl)
    refine ca go13 rfl (ec rfl e0) cc1 ?_
    rintro _ w2 ⟨rfl, xt2⟩
    have H3 := H2.ext xt2
    refine k (pickT rfl rfl rfl rfl b0 rfl (k (asg (v := .bool (rightS mn mr)) rfl rfl (z (nx (rt (r1 rfl rfl ?_)))))))
    have e0 : (rightS mn mr : Bool) = (smallM mr 16 && rightS mn mr) := by rw [b0]; rfl
    have ev_ := cg1 (fun (x_0 : Bool) => (.bool x_0 : Value)) e0
    exact ⟨ev_, H3.below⟩
  · -- smallM mr 16 is False
    refine k (gn rfl rfl rfl b0 (k (gn rfl rfl rfl b0 (k (pickF rfl rfl rfl rfl b0 rfl (k (asg (v := .bool false) rfl rfl (z (nx (rt (r1 rfl rfl ?_)))))))))))
    have e0 : (false : Bool) = (smallM mr 16 && rightS mn mr) := by rw [b0]; rfl
    have ev_ := cg1 (fun (x_0 : Bool) => (.bool x_0 : Value)) e0
    exact ⟨ev_, H2.below⟩
end Go.Proofs.YtmhopljngkgidaaDoor
namespace Go.Proofs.YtmhopljngkgidaaDoor
open Go.Ew Go.RowKit
set_option linter.unusedVariables false
set_option linter.unusedSimpArgs false
attribute [local irreducible] WL WC SO Code.wp wpList retQ Ret
attribute [local irreducible] bitB hasW inR hasR setR countW countR subR words newR listR orR firstW tab8
theorem go36 : GoF Tryd.prog 36 := ⟨_, _, Tryd.func36, rfl, by kernel_rfl⟩
theorem go37 : GoF Tryd.prog 37 := ⟨_, _, Tryd.func37, rfl, by kernel_rfl⟩
theorem un4 : Tryd.prog.underlying 4 = some (.bool) := by kernel_rfl
theorem go44 : GoF Tryd.prog 44 := ⟨_, _, Tryd.func44, rfl, by kernel_rfl⟩
set_option maxRecDepth 100000 in
set_option maxHeartbeats 1600000 in
theorem law_PathHull {M : Nat → Prop} {w : World} {mn : Int} {a_mr : Option Addr} {c_mr : Nat} {mr : List (List (BitVec 64))} {i : Int} {j : Int} (hM : ∀ b, M b → b < w.heap.size) (hT : TabAt 0 w) (h_mn : I64 mn) (h_mr : RV M w (.slice a_mr mr.length c_mr) mr) (h_i : 0 ≤ i ∧ i ≤ 255) (h_j : 0 ≤ j ∧ j ≤ 255) : Calls Tryd.prog 9 #[.agg #[.int .i64 mn, .slice a_mr mr.length c_mr], .int .u8 i, .int .u8 j] w (Ret fun v w' =>  v = .bool true ∧ Ext w w') := by
  refine enter 121 Tryd.func9 rfl rfl rfl fun f0 ha => ?_
  have H := HI.start (M0 := M) (w := w) hM
  have H0 := H.put (it := imm (.slice a_mr mr.length c_mr) mr) rfl (by rw [MS_nil]; exact h_mr)
  have ln_mr := rv_len h_mr
  have i0 : f0 0 = .agg #[.int .i64 mn, .slice a_mr mr.length c_mr] := ha 0 (by simp)
  have i1 : f0 1 = .int .u8 i := ha 1 (by simp)
  have i2 : f0 2 = .int .u8 j := ha 2 (by simp)
  refine sq (rg (k (bx H0 rfl i0 ?_)))
  intro bb0 w0 xt0 (H1 : HI M w w0 [box bb0 #[.int .i64 mn, .slice a_mr mr.length c_mr] 24, imm (.slice a_mr mr.length c_mr) mr])
  refine k (asg (v := .bool false) rfl rfl (z (nx (sq (sq (rg (k (ldX H1 0 rfl ty24 rfl rfl (by decide) rfl (k ?_)))))))))
  have cc0 := may14 (mn := mn) (mr := mr) (w := w0) H1.mb (by first | assumption | (unfold I64 at *; omega)) (H1.rv 1 rfl)
  refine ca go36 rfl (ec rfl e0) cc0 ?_
  rintro _ w1 ⟨rfl, xt1⟩
  have H2 := H1.ext xt1
  refine k (not_ rfl rfl (k (mv (v := .bool (!(smallM mr 16 && rightS mn mr))) rfl rfl ?_)))
  rcases Bool.eq_false_or_eq_true (!(smallM mr 16 && rightS mn mr)) with b0 | b0
  · -- !(smallM mr 16 && rightS mn mr) is True
    refine k (gn rfl rfl rfl b0 (k (gn rfl rfl rfl b0 (k (gn rfl rfl rfl b0 (k (pickT rfl rfl rfl rfl b0 rfl (z (nx (cdT rfl rfl rfl (sq (rg (k ?_)))))))))))))
    have cc1 := awake14 (w := w1) (hT.ext H2.below)
    refine ca go37 rfl e0 cc1 ?_
    rintro _ w2 ⟨rfl, xt2⟩
    have H3 := H2.ext xt2
    refine k (asg (v := .bool true) rfl rfl (z (nx (rt (then_ret (r1 rfl rfl ?_))))))
    exact ⟨rfl, H3.below⟩
  · -- !(smallM mr 16 && rightS mn mr) is False
    refine k (gy rfl rfl rfl b0 (fa fl24_0 rfl rfl (k (gy rfl rfl rfl b0 (ldX H2 0 rfl ty3 rfl rfl (by decide) rfl (k (gy rfl rfl rfl b0 (eql rfl rfl rfl rfl (k (pickF rfl rfl rfl rfl b0 rfl (z (nx ?_))))))))))))
    refine cd (b := decide (mn = 0)) rfl rfl (fun b1 => ?_) (fun b1 => ?_)
    ·
      have p1 := of_decide_eq_true b1
      refine sq (rg (k ?_))
      have cc1 := awake14 (w := w1) (hT.ext H2.below)
      refine ca go37 rfl e0 cc1 ?_
      rintro _ w2 ⟨rfl, xt2⟩
      have H3 := H2.ext xt2
      refine k (asg (v := .bool true) rfl rfl (z (nx (rt (then_ret (r1 rfl rfl ?_))))))
      exact ⟨rfl, H3.below⟩
    ·
      have p1 := of_decide_eq_false b1
      refine sk (nx (sq ?_))
      have mmm_ : (smallM mr 16 && rightS mn mr) = true := by simpa using ‹(!(smallM mr 16 && rightS mn mr)) = false›
      have rtm_ : rightS mn mr = true := by simp only [Bool.and_eq_true] at mmm_; exact mmm_.2
      have h0_ := right_pos rtm_
      have h4_ := (right_sq rtm_).2.2.1
      have hz_ : ¬ mn = 0 := by assumption
      have ha_ : 0 ≤ i % mn ∧ i % mn < mn := ⟨Int.emod_nonneg i hz_, Int.emod_lt_of_pos i (by omega)⟩
      have hb_ : 0 ≤ j % mn ∧ j % mn < mn := ⟨Int.emod_nonneg j hz_, Int.emod_lt_of_pos j (by omega)⟩
      refine dr 11 [fun (v : Value) (w' : World) => v = .int .u8 i, fun (v : Value) (w' : World) => v = .int .i64 i, fun (v : Value) (w' : World) => v = .pointer (some ⟨bb0, 0, none⟩), fun (v : Value) (w' : World) => v = .int .i64 mn, fun (v : Value) (w' : World) => v = .int .i64 (i % mn), fun (v : Value) (w' : World) => v = .int .u8 j, fun (v : Value) (w' : World) => v = .int .i64 j, fun (v : Value) (w' : World) => v = .pointer (some ⟨bb0, 0, none⟩), fun (v : Value) (w' : World) => v = .int .i64 mn, fun (v : Value) (w' : World) => v = .int .i64 (j % mn), fun (v : Value) (w' : World) => v = .int .i64 (i % mn)] rfl (by kernel_rfl) ?_ ?_
      ·
        refine ⟨fun _ => ⟨fun f0 w2 hf0 xt2 hp0 => ?_, fun _ _ _ _ h => h⟩, ?_⟩
        ·
          have H3 := H2.ext xt2
          refine mv rfl ((hf0 1 rfl).trans i1) ?_
          exact ⟨_, rfl, Ext.refl _, rfl⟩
        refine ⟨fun _ => ⟨fun f1 w3 hf1 xt3 hp1 => ?_, fun _ _ _ _ h => h⟩, ?_⟩
        ·
          have H4 := H2.ext xt3
          have s0 : f1 22 = .int .u8 i := hp1 0 rfl rfl
          refine cvI rfl s0 (by first | assumption | (unfold I64 at *; omega)) un5 un3 ?_
          exact ⟨_, rfl, Ext.refl _, rfl⟩
        refine ⟨fun _ => ⟨fun f2 w4 hf2 xt4 hp2 => ?_, fun _ _ _ _ h => h⟩, ?_⟩
        ·
          have H5 := H2.ext xt4
          refine fa fl24_0 rfl (hf2 3 rfl) ?_
          exact ⟨_, rfl, Ext.refl _, rfl⟩
        refine ⟨fun _ => ⟨fun f3 w5 hf3 xt5 hp3 => ?_, fun _ _ _ _ h => h⟩, ?_⟩
        ·
          have H6 := H2.ext xt5
          have s1 : f3 24 = .pointer (some ⟨bb0, 0, none⟩) := hp3 2 rfl rfl
          refine ldX H6 0 rfl ty3 rfl s1 (by decide) rfl ?_
          exact ⟨_, rfl, Ext.refl _, rfl⟩
        refine ⟨fun _ => ⟨fun f4 w6 hf4 xt6 hp4 => ?_, fun _ _ _ _ h => h⟩, ?_⟩
        ·
          have H7 := H2.ext xt6
          have s2 : f4 23 = .int .i64 i := hp4 1 rfl rfl
          have s3 : f4 25 = .int .i64 mn := hp4 3 rfl rfl
          refine rem rfl rfl s2 s3 (by first | omega | (simp; omega)) ?_
          exact ⟨_, rfl, Ext.refl _, rfl⟩
        refine ⟨fun _ => ⟨fun f5 w7 hf5 xt7 hp5 => ?_, fun _ _ _ _ h => h⟩, ?_⟩
        ·
          have H8 := H2.ext xt7
          refine mv rfl ((hf5 2 rfl).trans i2) ?_
          exact ⟨_, rfl, Ext.refl _, rfl⟩
        refine ⟨fun _ => ⟨fun f6 w8 hf6 xt8 hp6 => ?_, fun _ _ _ _ h => h⟩, ?_⟩
        ·
          have H9 := H2.ext xt8
          have s4 : f6 27 = .int .u8 j := hp6 5 rfl rfl
          refine cvI rfl s4 (by first | assumption | (unfold I64 at *; omega)) un5 un3 ?_
          exact ⟨_, rfl, Ext.refl _, rfl⟩
        refine ⟨fun _ => ⟨fun f7 w9 hf7 xt9 hp7 => ?_, fun _ _ _ _ h => h⟩, ?_⟩
        ·
          have H10 := H2.ext xt9
          refine fa fl24_0 rfl (hf7 3 rfl) ?_
          exact ⟨_, rfl, Ext.refl _, rfl⟩
        refine ⟨fun _ => ⟨fun f8 w10 hf8 xt10 hp8 => ?_, fun _ _ _ _ h => h⟩, ?_⟩
        ·
          have H11 := H2.ext xt10
          have s5 : f8 29 = .pointer (some ⟨bb0, 0, none⟩) := hp8 7 rfl rfl
          refine ldX H11 0 rfl ty3 rfl s5 (by decide) rfl ?_
          exact ⟨_, rfl, Ext.refl _, rfl⟩
        refine ⟨fun _ => ⟨fun f9 w11 hf9 xt11 hp9 => ?_, fun _ _ _ _ h => h⟩, ?_⟩
        ·
          have H12 := H2.ext xt11
          have s6 : f9 28 = .int .i64 j := hp9 6 rfl rfl
          have s7 : f9 30 = .int .i64 mn := hp9 8 rfl rfl
          refine rem rfl rfl s6 s7 (by first | omega | (simp; omega)) ?_
          exact ⟨_, rfl, Ext.refl _, rfl⟩
        refine ⟨fun _ => ⟨fun f10 w12 hf10 xt12 hp10 => ?_, fun _ _ _ _ h => h⟩, ?_⟩
        ·
          have H13 := H2.ext xt12
          have s8 : f10 26 = .int .i64 (i % mn) := hp10 4 rfl rfl
          refine asg rfl s8 ?_
          exact ⟨_, rfl, Ext.refl _, rfl⟩
        exact DSteps.rest rfl _
      · intro f11 w13 hf11 xt13 hp11
        have H14 := H2.ext xt13
        have s9 : f11 3 = .pointer (some ⟨bb0, 0, none⟩) := hf11 3 rfl
        have s10 : f11 7 = .int .i64 (i % mn) := hp11 10 rfl
        have s11 : f11 31 = .int .i64 (j % mn) := hp11 9 rfl
        refine k (asg rfl s11 (z (nx (sq (rg (k (ldX H14 0 rfl ty24 rfl s9 (by decide) rfl (k (mv rfl s10 (k (mv (v := .int .i64 (j % mn)) rfl rfl (k ?_))))))))))))
        have cc1 := path_Find (mn := mn) (mr := mr) (i := (i % mn)) (j := (j % mn)) (w := w13) H14.mb (hT.ext H14.below) (by first | assumption | (unfold I64 at *; omega)) (H14.rv 1 rfl) (by first | assumption | (unfold I64 at *; omega)) (by first | assumption | (unfold I64 at *; omega)) (by first | exact rtm_ | exact (closeM_right rtm_))
        refine ca go38 rfl (ec rfl (ec rfl (ec rfl e0))) cc1 ?_
        rintro _ w14 ⟨a0, c0, rfl, xt14, rv0⟩
        have H15 := H14.ownsG rv0
        refine k (mv (v := .tuple #[.slice a0 ((pathM mn mr (i % mn) (j % mn)).getD []).length c0, .bool ((pathM mn mr (i % mn) (j % mn)).isSome)]) rfl rfl (k (xt rfl rfl rfl (k (xt rfl rfl rfl (k (asg (v := .slice a0 ((pathM mn mr (i % mn) (j % mn)).getD []).length c0) rfl rfl (k (asg (v := .bool ((pathM mn mr (i % mn) (j % mn)).isSome)) rfl rfl (z (nx (sq (sq (rg (k (mv (v := .bool ((pathM mn mr (i % mn) (j % mn)).isSome)) rfl rfl (k (ldX H15 1 rfl ty24 rfl s9 (by decide) rfl (k ?_)))))))))))))))))))
        have cc2 := ref04_Close (mn := mn) (mr := mr) (w := w14) H15.mb (by first | assumption | (unfold I64 at *; omega)) (H15.rv 2 rfl) (by first | exact rtm_ | exact (closeM_right rtm_))
        refine ca go30 rfl (ec rfl e0) cc2 ?_
        rintro _ w15 ⟨a1, c1, rfl, xt15, rv1⟩
        have H16 := H15.ext xt15
        have H17 := H16.put (it := imm (.slice a1 (closeM mn mr).length c1) (closeM mn mr)) rfl rv1
        refine k (mv rfl s10 (k (mv (v := .int .i64 (j % mn)) rfl rfl (k ?_))))
        have cc3 := ref03_Has (mn := mn) (mr := (closeM mn mr)) (i := (i % mn)) (j := (j % mn)) (w := w15) H17.mb (by first | assumption | (unfold I64 at *; omega)) (H17.rv 0 rfl) (by first | assumption | (unfold I64 at *; omega)) (by first | assumption | (unfold I64 at *; omega)) (by first | exact (right_sq rtm_).1 | exact (right_sq rtm_).2.1 | exact (right_sq rtm_).2.2.1 | exact (right_sq rtm_).2.2.2.2 | exact (right_sq (closeM_right rtm_)).1 | exact (right_sq (closeM_right rtm_)).2.1 | exact (right_sq (closeM_right rtm_)).2.2.1 | exact (right_sq (closeM_right rtm_)).2.2.2.2) (by first | exact (right_sq rtm_).1 | exact (right_sq rtm_).2.1 | exact (right_sq rtm_).2.2.1 | exact (right_sq rtm_).2.2.2.2 | exact (right_sq (closeM_right rtm_)).1 | exact (right_sq (closeM_right rtm_)).2.1 | exact (right_sq (closeM_right rtm_)).2.2.1 | exact (right_sq (closeM_right rtm_)).2.2.2.2) (by first | exact (right_sq rtm_).1 | exact (right_sq rtm_).2.1 | exact (right_sq rtm_).2.2.1 | exact (right_sq rtm_).2.2.2.2 | exact (right_sq (closeM_right rtm_)).1 | exact (right_sq (closeM_right rtm_)).2.1 | exact (right_sq (closeM_right rtm_)).2.2.1 | exact (right_sq (closeM_right rtm_)).2.2.2.2)
        refine ca go45 rfl (ec rfl (ec rfl (ec rfl e0))) cc3 ?_
        rintro _ w16 ⟨rfl, xt16⟩
        have H18 := H17.ext xt16
        refine k (neB rfl rfl rfl rfl un4 (z (nx ?_)))
        have tr0 : (((pathM mn mr (i % mn) (j % mn)).isSome) == (hasM mn (closeM mn mr) (i % mn) (j % mn))) = true := (by rw [path_hull rtm_ ha_ hb_]; simp)
        refine cdF rfl rfl (by rw [show (((pathM mn mr (i % mn) (j % mn)).isSome) == (hasM mn (closeM mn mr) (i % mn) (j % mn))) = true from tr0]; rfl) (sk (nx (sq (sq (rg (k (mv (v := .bool ((pathM mn mr (i % mn) (j % mn)).isSome)) rfl rfl (k (not_ rfl rfl (z (nx ?_)))))))))))
        refine cd (b := !((pathM mn mr (i % mn) (j % mn)).isSome)) rfl rfl (fun b2 => ?_) (fun b2 => ?_)
        ·
          refine sq (rg (k ?_))
          have cc4 := awake14 (w := w16) (hT.ext H18.below)
          refine ca go37 rfl e0 cc4 ?_
          rintro _ w17 ⟨rfl, xt17⟩
          have H19 := H18.ext xt17
          refine k (mv (v := .bool true) rfl rfl (k (gy rfl rfl rfl rfl (mv (v := .slice a0 ((pathM mn mr (i % mn) (j % mn)).getD []).length c0) rfl rfl (k (gy rfl rfl rfl rfl (lnS rfl rfl un42 (k (gy rfl rfl rfl rfl (eql rfl rfl rfl rfl (k (pickT rfl rfl rfl rfl rfl rfl (k (asg (v := .bool (decide ((((pathM mn mr (i % mn) (j % mn)).getD []).length : Int) = 0))) rfl rfl (z (nx (rt (then_ret (r1 rfl rfl ?_)))))))))))))))))))
          have tr1 : (decide ((((pathM mn mr (i % mn) (j % mn)).getD []).length : Int) = 0)) = true := (by rw [path_nil rtm_ ha_ hb_ (nott b2)]; rfl)
          have e0 : (decide ((((pathM mn mr (i % mn) (j % mn)).getD []).length : Int) = 0) : Bool) = true := by exact tr1
          have ev_ := cg1 (fun (x_0 : Bool) => (.bool x_0 : Value)) e0
          exact ⟨ev_, H19.below⟩
        ·
          refine sk (nx (sq (sq ?_)))
          have hs14_ : (pathM mn mr (i % mn) (j % mn)).isSome = true := by simpa using ‹(!(pathM mn mr (i % mn) (j % mn)).isSome) = false›
          have hl14_ := path_len rtm_ ha_ hb_ hs14_
          refine rg (k (ldX H18 2 rfl ty24 rfl s9 (by decide) rfl (k (mv (v := .slice a0 ((pathM mn mr (i % mn) (j % mn)).getD []).length c0) rfl rfl (k ?_)))))
          have H19 := H18.freeze 1 rfl
          have cc4 := path_Is (mn := mn) (mr := mr) (l := ((pathM mn mr (i % mn) (j % mn)).getD [])) (w := w16) H19.mb (by first | assumption | (unfold I64 at *; omega)) (H19.rv 3 rfl) (H19.rv 1 rfl) (by first | exact rtm_ | exact (closeM_right rtm_))
          refine ca go43 rfl (ec rfl (ec rfl e0)) cc4 ?_
          rintro _ w17 ⟨rfl, xt17⟩
          have H20 := H18.ext xt17
          refine k (not_ rfl rfl (k (mv (v := .bool (!(isM mn mr ((pathM mn mr (i % mn) (j % mn)).getD [])))) rfl rfl (k (gy rfl rfl rfl (by rw [show (isM mn mr ((pathM mn mr (i % mn) (j % mn)).getD [])) = true from (path_isM rtm_ ha_ hb_ (notf b2))]; rfl) (ldX H20 2 rfl ty24 rfl s9 (by decide) rfl (k (gy rfl rfl rfl (by rw [show (isM mn mr ((pathM mn mr (i % mn) (j % mn)).getD [])) = true from (path_isM rtm_ ha_ hb_ (notf b2))]; rfl) (mv (v := .slice a0 ((pathM mn mr (i % mn) (j % mn)).getD []).length c0) rfl rfl (k (gy rfl rfl rfl (by rw [show (isM mn mr ((pathM mn mr (i % mn) (j % mn)).getD [])) = true from (path_isM rtm_ ha_ hb_ (notf b2))]; rfl) ?_)))))))))))
          have H21 := H20.freeze 1 rfl
          have cc5 := ref14_Is (mn := mn) (mr := mr) (l := ((pathM mn mr (i % mn) (j % mn)).getD [])) (w := w17) H21.mb (by first | assumption | (unfold I64 at *; omega)) (H21.rv 3 rfl) (H21.rv 1 rfl) (by first | exact rtm_ | exact (closeM_right rtm_))
          refine ca go44 rfl (ec rfl (ec rfl e0)) cc5 ?_
          rintro _ w18 ⟨rfl, xt18⟩
          have H22 := H20.ext xt18
          refine k (gy rfl rfl rfl (by rw [show (isM mn mr ((pathM mn mr (i % mn) (j % mn)).getD [])) = true from (path_isM rtm_ ha_ hb_ (notf b2))]; rfl) (not_ rfl rfl (k (pickF rfl rfl rfl rfl (by rw [show (isM mn mr ((pathM mn mr (i % mn) (j % mn)).getD [])) = true from (path_isM rtm_ ha_ hb_ (notf b2))]; rfl) rfl (k (mv (v := .bool (!(isM mn mr ((pathM mn mr (i % mn) (j % mn)).getD [])))) rfl rfl (k (gy rfl rfl rfl (by rw [show (isM mn mr ((pathM mn mr (i % mn) (j % mn)).getD [])) = true from (path_isM rtm_ ha_ hb_ (notf b2))]; rfl) (mv (v := .slice a0 ((pathM mn mr (i % mn) (j % mn)).getD []).length c0) rfl rfl (k (gy rfl rfl rfl (by rw [show (isM mn mr ((pathM mn mr (i % mn) (j % mn)).getD [])) = true from (path_isM rtm_ ha_ hb_ (notf b2))]; rfl) (iaO (H22.at_ 1 rfl) rfl rfl rfl rfl (by first | omega | (simp; omega)) un42 ty3 ?_))))))))))))
          intro g0 x0 hv0 hx0 hA0
          refine k (gy rfl rfl rfl (by rw [show (isM mn mr ((pathM mn mr (i % mn) (j % mn)).getD [])) = true from (path_isM rtm_ ha_ hb_ (notf b2))]; rfl) (ldI hA0 ty3 rfl rfl ?_))
          intro rv2
          refine k (gy rfl rfl rfl (by rw [show (isM mn mr ((pathM mn mr (i % mn) (j % mn)).getD [])) = true from (path_isM rtm_ ha_ hb_ (notf b2))]; rfl) (mv rfl s10 (k (gy rfl rfl rfl (by rw [show (isM mn mr ((pathM mn mr (i % mn) (j % mn)).getD [])) = true from (path_isM rtm_ ha_ hb_ (notf b2))]; rfl) (neq rfl rfl rfl rfl (k (pickF rfl rfl rfl rfl (by rw [show (isM mn mr ((pathM mn mr (i % mn) (j % mn)).getD [])) = true from (path_isM rtm_ ha_ hb_ (notf b2))]; rfl) rfl (k (mv (v := .bool (!decide (x0 = (i % mn)))) rfl rfl (k (gy rfl rfl rfl (by rw [show (decide (x0 = (i % mn))) = true from (decide_eq_true (Option.some.inj (hx0.symm.trans (path_first rtm_ ha_ hb_ (notf b2)))))]; rfl) (mv (v := .slice a0 ((pathM mn mr (i % mn) (j % mn)).getD []).length c0) rfl rfl (k (gy rfl rfl rfl (by rw [show (decide (x0 = (i % mn))) = true from (decide_eq_true (Option.some.inj (hx0.symm.trans (path_first rtm_ ha_ hb_ (notf b2)))))]; rfl) (mv (v := .slice a0 ((pathM mn mr (i % mn) (j % mn)).getD []).length c0) rfl rfl (k (gy rfl rfl rfl (by rw [show (decide (x0 = (i % mn))) = true from (decide_eq_true (Option.some.inj (hx0.symm.trans (path_first rtm_ ha_ hb_ (notf b2)))))]; rfl) (lnS rfl rfl un42 (k (gy rfl rfl rfl (by rw [show (decide (x0 = (i % mn))) = true from (decide_eq_true (Option.some.inj (hx0.symm.trans (path_first rtm_ ha_ hb_ (notf b2)))))]; rfl) (sub rfl rfl rfl rfl (by first | assumption | (unfold I64 at *; omega)) (k (gy rfl rfl rfl (by rw [show (decide (x0 = (i % mn))) = true from (decide_eq_true (Option.some.inj (hx0.symm.trans (path_first rtm_ ha_ hb_ (notf b2)))))]; rfl) (iaO (H22.at_ 1 rfl) rfl rfl rfl rfl (by first | omega | (simp; omega)) un42 ty3 ?_))))))))))))))))))))))))
          intro g1 x1 hv1 hx1 hA1
          refine k (gy rfl rfl rfl (by rw [show (decide (x0 = (i % mn))) = true from (decide_eq_true (Option.some.inj (hx0.symm.trans (path_first rtm_ ha_ hb_ (notf b2)))))]; rfl) (ldI hA1 ty3 rfl rfl ?_))
          intro rv3
          refine k (gy rfl rfl rfl (by rw [show (decide (x0 = (i % mn))) = true from (decide_eq_true (Option.some.inj (hx0.symm.trans (path_first rtm_ ha_ hb_ (notf b2)))))]; rfl) (mv (v := .int .i64 (j % mn)) rfl rfl (k (gy rfl rfl rfl (by rw [show (decide (x0 = (i % mn))) = true from (decide_eq_true (Option.some.inj (hx0.symm.trans (path_first rtm_ ha_ hb_ (notf b2)))))]; rfl) (neq rfl rfl rfl rfl (k (pickF rfl rfl rfl rfl (by rw [show (decide (x0 = (i % mn))) = true from (decide_eq_true (Option.some.inj (hx0.symm.trans (path_first rtm_ ha_ hb_ (notf b2)))))]; rfl) rfl (z (nx (cdF rfl rfl (by rw [show (decide (x1 = (j % mn))) = true from (decide_eq_true (Option.some.inj (hx1.symm.trans (path_last rtm_ ha_ hb_ (notf b2) (by have h_ := (path_len rtm_ ha_ hb_ (notf b2)).1; omega)))))]; rfl) (sk (nx (sq (sq (rg (k (asg (v := .int .i64 0) rfl rfl (z (nx (bk ?_))))))))))))))))))))
          refine lp (fun m f w' => ∃ (k_ : Nat), m = ((pathM mn mr (i % mn) (j % mn)).getD []).length - k_ ∧ f 3 = .pointer (some ⟨bb0, 0, none⟩) ∧ f 9 = .slice a0 ((pathM mn mr (i % mn) (j % mn)).getD []).length c0 ∧ f 11 = .int .i64 (k_ : Int) ∧  HI M w w' [imm (.slice a1 (closeM mn mr).length c1) (closeM mn mr), own w.heap.size 3 (.slice a0 ((pathM mn mr (i % mn) (j % mn)).getD []).length c0) ((pathM mn mr (i % mn) (j % mn)).getD []), box bb0 #[.int .i64 mn, .slice a_mr mr.length c_mr] 24, imm (.slice a_mr mr.length c_mr) mr] ∧ (k_ ≤ ((pathM mn mr (i % mn) (j % mn)).getD []).length)) _ ⟨0, rfl, s9, rfl, (ieq rfl (by first | rfl | omega | simp)), H22, (by first | assumption | omega | simp | (simp; omega))⟩ ?_
          rintro _ f12 w19 ⟨k_, rfl, s12, s13, s14, H23, hk_⟩
          refine sq (sq (rg (k (mv rfl s14 (k (mv rfl s13 (k (lnS rfl rfl un42 (k (lss rfl rfl rfl rfl (z (nx ?_))))))))))))
          refine cd (b := decide ((k_ : Int) < (((pathM mn mr (i % mn) (j % mn)).getD []).length : Int))) rfl rfl (fun b3 => ?_) (fun b3 => ?_)
          ·
            have p3 := of_decide_eq_true b3
            refine sk (nx (sq (bk (sq (rg (k (asg (v := .int .i64 0) rfl rfl (z (nx (bk ?_))))))))))
            refine lp (fun m f w' => ∃ (q : Nat), m = k_ - q ∧ f 3 = .pointer (some ⟨bb0, 0, none⟩) ∧ f 9 = .slice a0 ((pathM mn mr (i % mn) (j % mn)).getD []).length c0 ∧ f 11 = .int .i64 (k_ : Int) ∧ f 12 = .int .i64 (q : Int) ∧  HI M w w' [imm (.slice a1 (closeM mn mr).length c1) (closeM mn mr), own w.heap.size 3 (.slice a0 ((pathM mn mr (i % mn) (j % mn)).getD []).length c0) ((pathM mn mr (i % mn) (j % mn)).getD []), box bb0 #[.int .i64 mn, .slice a_mr mr.length c_mr] 24, imm (.slice a_mr mr.length c_mr) mr] ∧ (q ≤ k_)) _ ⟨0, rfl, s12, s13, s14, (ieq rfl (by first | rfl | omega | simp)), H23, (by first | assumption | omega | simp | (simp; omega))⟩ ?_
            rintro _ f13 w20 ⟨q, rfl, s15, s16, s17, s18, H24, hq_⟩
            refine sq (sq (rg (k (mv rfl s18 (k (mv rfl s17 (k (lss rfl rfl rfl rfl (z (nx ?_))))))))))
            refine cd (b := decide ((q : Int) < (k_ : Int))) rfl rfl (fun b4 => ?_) (fun b4 => ?_)
            ·
              have p4 := of_decide_eq_true b4
              refine sk (nx (sq (bk (sq ?_))))
              obtain ⟨x2, hx2⟩ : ∃ x, ((pathM mn mr (i % mn) (j % mn)).getD [])[(k_ : Int).toNat]? = some x := ⟨_, List.getElem?_eq_getElem (by first | omega | (simp; omega))⟩
              obtain ⟨x3, hx3⟩ : ∃ x, ((pathM mn mr (i % mn) (j % mn)).getD [])[(q : Int).toNat]? = some x := ⟨_, List.getElem?_eq_getElem (by first | omega | (simp; omega))⟩
              rcases Bool.eq_false_or_eq_true (decide (x2 = x3)) with b5 | b5
              · -- decide (x2 = x3) is True
                have p5 := of_decide_eq_true b5
                refine dr 17 [fun (v : Value) (w' : World) => v = .slice a0 ((pathM mn mr (i % mn) (j % mn)).getD []).length c0, fun (v : Value) (w' : World) => v = .int .i64 (k_ : Int), fun (v : Value) (w' : World) => ∃ (g4 : Nat), v = .pointer (some ⟨g4, (k_ : Int).toNat * 1, none⟩) ∧ (.slice a0 ((pathM mn mr (i % mn) (j % mn)).getD []).length c0 : Value).ownBlock = some g4 ∧ AtW (MS M [imm (.slice a1 (closeM mn mr).length c1) (closeM mn mr), own w.heap.size 3 (.slice a0 ((pathM mn mr (i % mn) (j % mn)).getD []).length c0) ((pathM mn mr (i % mn) (j % mn)).getD []), box bb0 #[.int .i64 mn, .slice a_mr mr.length c_mr] 24, imm (.slice a_mr mr.length c_mr) mr]) w' ⟨g4, (k_ : Int).toNat * 1, none⟩ x2, fun (v : Value) (w' : World) => v = .int .i64 x2 ∧ I64 (x2), fun (v : Value) (w' : World) => v = .slice a0 ((pathM mn mr (i % mn) (j % mn)).getD []).length c0, fun (v : Value) (w' : World) => v = .int .i64 (q : Int), fun (v : Value) (w' : World) => ∃ (g5 : Nat), v = .pointer (some ⟨g5, (q : Int).toNat * 1, none⟩) ∧ (.slice a0 ((pathM mn mr (i % mn) (j % mn)).getD []).length c0 : Value).ownBlock = some g5 ∧ AtW (MS M [imm (.slice a1 (closeM mn mr).length c1) (closeM mn mr), own w.heap.size 3 (.slice a0 ((pathM mn mr (i % mn) (j % mn)).getD []).length c0) ((pathM mn mr (i % mn) (j % mn)).getD []), box bb0 #[.int .i64 mn, .slice a_mr mr.length c_mr] 24, imm (.slice a_mr mr.length c_mr) mr]) w' ⟨g5, (q : Int).toNat * 1, none⟩ x3, fun (v : Value) (w' : World) => v = .int .i64 x3 ∧ I64 (x3), fun (v : Value) (w' : World) => v = .bool (decide (x2 = x3)), fun (v : Value) (w' : World) => v = .bool (decide (x2 = x3)), fun (v : Value) (w' : World) => v = .int .i64 (q : Int), fun (v : Value) (w' : World) => v = .bool (decide (0 < (q : Int))), fun (v : Value) (w' : World) => v = .bool (decide (0 < (q : Int))), fun (v : Value) (w' : World) => v = .int .i64 (k_ : Int), fun (v : Value) (w' : World) => v = .slice a0 ((pathM mn mr (i % mn) (j % mn)).getD []).length c0, fun (v : Value) (w' : World) => v = .int .i64 (((pathM mn mr (i % mn) (j % mn)).getD []).length : Int), fun (v : Value) (w' : World) => v = .int .i64 ((((pathM mn mr (i % mn) (j % mn)).getD []).length : Int) - 1)] rfl (by kernel_rfl) ?_ ?_
                ·
                  refine ⟨fun _ => ⟨fun f14 w21 hf12 xt19 hp12 => ?_, fun _ _ _ _ h => h⟩, ?_⟩
                  ·
                    have H25 := H24.ext xt19
                    refine mv rfl ((hf12 9 rfl).trans s16) ?_
                    exact ⟨_, rfl, Ext.refl _, rfl⟩
                  refine ⟨fun _ => ⟨fun f15 w22 hf13 xt20 hp13 => ?_, fun _ _ _ _ h => h⟩, ?_⟩
                  ·
                    have H26 := H24.ext xt20
                    refine mv rfl ((hf13 11 rfl).trans s17) ?_
                    exact ⟨_, rfl, Ext.refl _, rfl⟩
                  refine ⟨fun _ => ⟨fun f16 w23 hf14 xt21 hp14 => ?_, by rintro _ _ _ x_ ⟨g4, e_, hv4, hA4⟩; exact ⟨g4, e_, hv4, hA4.ext x_⟩⟩, ?_⟩
                  ·
                    have H27 := H24.ext xt21
                    have s19 : f16 92 = .slice a0 ((pathM mn mr (i % mn) (j % mn)).getD []).length c0 := hp14 0 rfl rfl
                    have s20 : f16 93 = .int .i64 (k_ : Int) := hp14 1 rfl rfl
                    refine iaO (H27.at_ 1 rfl) rfl rfl s19 s20 (by first | omega | (simp; omega)) un42 ty3 ?_
                    intro g6 x6 hv6 hx6 hA6
                    obtain rfl : x2 = x6 := Option.some.inj (hx2.symm.trans hx6)
                    exact ⟨_, rfl, Ext.refl _, ⟨g6, rfl, hv6, hA6⟩⟩
                  refine ⟨fun _ => ⟨fun f17 w24 hf15 xt22 hp15 => ?_, fun _ _ _ _ h => h⟩, ?_⟩
                  ·
                    have H28 := H24.ext xt22
                    obtain ⟨g7, s21, hv7, hA7⟩ : ∃ (g7 : Nat), f17 94 = .pointer (some ⟨g7, (k_ : Int).toNat * 1, none⟩) ∧ (.slice a0 ((pathM mn mr (i % mn) (j % mn)).getD []).length c0 : Value).ownBlock = some g7 ∧ AtW (MS M [imm (.slice a1 (closeM mn mr).length c1) (closeM mn mr), own w.heap.size 3 (.slice a0 ((pathM mn mr (i % mn) (j % mn)).getD []).length c0) ((pathM mn mr (i % mn) (j % mn)).getD []), box bb0 #[.int .i64 mn, .slice a_mr mr.length c_mr] 24, imm (.slice a_mr mr.length c_mr) mr]) w24 ⟨g7, (k_ : Int).toNat * 1, none⟩ x2 := hp15 2 rfl rfl
                    refine ldI hA7 ty3 rfl s21 ?_
                    intro rv8
                    exact ⟨_, rfl, Ext.refl _, ⟨rfl, rv8⟩⟩
                  refine ⟨fun _ => ⟨fun f18 w25 hf16 xt23 hp16 => ?_, fun _ _ _ _ h => h⟩, ?_⟩
                  ·
                    have H29 := H24.ext xt23
                    refine mv rfl ((hf16 9 rfl).trans s16) ?_
                    exact ⟨_, rfl, Ext.refl _, rfl⟩
                  refine ⟨fun _ => ⟨fun f19 w26 hf17 xt24 hp17 => ?_, fun _ _ _ _ h => h⟩, ?_⟩
                  ·
                    have H30 := H24.ext xt24
                    refine mv rfl ((hf17 12 rfl).trans s18) ?_
                    exact ⟨_, rfl, Ext.refl _, rfl⟩
                  refine ⟨fun _ => ⟨fun f20 w27 hf18 xt25 hp18 => ?_, by rintro _ _ _ x_ ⟨g5, e_, hv5, hA5⟩; exact ⟨g5, e_, hv5, hA5.ext x_⟩⟩, ?_⟩
                  ·
                    have H31 := H24.ext xt25
                    have s22 : f20 96 = .slice a0 ((pathM mn mr (i % mn) (j % mn)).getD []).length c0 := hp18 4 rfl rfl
                    have s23 : f20 97 = .int .i64 (q : Int) := hp18 5 rfl rfl
                    refine iaO (H31.at_ 1 rfl) rfl rfl s22 s23 (by first | omega | (simp; omega)) un42 ty3 ?_
                    intro g8 x7 hv8 hx7 hA8
                    obtain rfl : x3 = x7 := Option.some.inj (hx3.symm.trans hx7)
                    exact ⟨_, rfl, Ext.refl _, ⟨g8, rfl, hv8, hA8⟩⟩
                  refine ⟨fun _ => ⟨fun f21 w28 hf19 xt26 hp19 => ?_, fun _ _ _ _ h => h⟩, ?_⟩
                  ·
                    have H32 := H24.ext xt26
                    obtain ⟨g9, s24, hv9, hA9⟩ : ∃ (g9 : Nat), f21 98 = .pointer (some ⟨g9, (q : Int).toNat * 1, none⟩) ∧ (.slice a0 ((pathM mn mr (i % mn) (j % mn)).getD []).length c0 : Value).ownBlock = some g9 ∧ AtW (MS M [imm (.slice a1 (closeM mn mr).length c1) (closeM mn mr), own w.heap.size 3 (.slice a0 ((pathM mn mr (i % mn) (j % mn)).getD []).length c0) ((pathM mn mr (i % mn) (j % mn)).getD []), box bb0 #[.int .i64 mn, .slice a_mr mr.length c_mr] 24, imm (.slice a_mr mr.length c_mr) mr]) w28 ⟨g9, (q : Int).toNat * 1, none⟩ x3 := hp19 6 rfl rfl
                    refine ldI hA9 ty3 rfl s24 ?_
                    intro rv9
                    exact ⟨_, rfl, Ext.refl _, ⟨rfl, rv9⟩⟩
                  refine ⟨fun _ => ⟨fun f22 w29 hf20 xt27 hp20 => ?_, fun _ _ _ _ h => h⟩, ?_⟩
                  ·
                    have H33 := H24.ext xt27
                    obtain ⟨s25, rv10⟩ : f22 95 = .int .i64 x2 ∧ I64 (x2) := hp20 3 rfl rfl
                    obtain ⟨s26, rv11⟩ : f22 99 = .int .i64 x3 ∧ I64 (x3) := hp20 7 rfl rfl
                    refine eql rfl rfl s25 s26 ?_
                    exact ⟨_, rfl, Ext.refl _, rfl⟩
                  refine ⟨fun _ => ⟨fun f23 w30 hf21 xt28 hp21 => ?_, fun _ _ _ _ h => h⟩, ?_⟩
                  ·
                    have H34 := H24.ext xt28
                    have s27 : f23 100 = .bool (decide (x2 = x3)) := hp21 8 rfl rfl
                    refine mv rfl s27 ?_
                    exact ⟨_, rfl, Ext.refl _, rfl⟩
                  refine ⟨fun _ => ⟨fun f24 w31 hf22 xt29 hp22 => ?_, fun _ _ _ _ h => h⟩, ?_⟩
                  ·
                    have H35 := H24.ext xt29
                    have s28 : f24 101 = .bool (decide (x2 = x3)) := hp22 9 rfl rfl
                    refine gy rfl rfl s28 b5 (mv rfl ((hf22 12 rfl).trans s18) ?_)
                    exact ⟨_, rfl, Ext.refl _, rfl⟩
                  refine ⟨fun _ => ⟨fun f25 w32 hf23 xt30 hp23 => ?_, fun _ _ _ _ h => h⟩, ?_⟩
                  ·
                    have H36 := H24.ext xt30
                    have s29 : f25 101 = .bool (decide (x2 = x3)) := hp23 9 rfl rfl
                    have s30 : f25 102 = .int .i64 (q : Int) := hp23 10 rfl rfl
                    refine gy rfl rfl s29 b5 (gtr rfl rfl s30 rfl ?_)
                    exact ⟨_, rfl, Ext.refl _, rfl⟩
                  refine ⟨fun _ => ⟨fun f26 w33 hf24 xt31 hp24 => ?_, fun _ _ _ _ h => h⟩, ?_⟩
                  ·
                    have H37 := H24.ext xt31
                    have s31 : f26 101 = .bool (decide (x2 = x3)) := hp24 9 rfl rfl
                    have s32 : f26 103 = .bool (decide (0 < (q : Int))) := hp24 11 rfl rfl
                    refine gy rfl rfl s31 b5 (mv rfl s32 ?_)
                    exact ⟨_, rfl, Ext.refl _, rfl⟩
                  refine ⟨fun _ => ⟨fun f27 w34 hf25 xt32 hp25 => ?_, fun _ _ _ _ h => h⟩, ?_⟩
                  ·
                    have H38 := H24.ext xt32
                    have s33 : f27 104 = .bool (decide (0 < (q : Int))) := hp25 12 rfl rfl
                    have tr2 : (decide (0 < (q : Int))) = false := (by have h_ := path_cut rtm_ ha_ hb_ (notf b2) (s := q) (t := k_) (by omega) hx2 hx3 (by omega); rw [decide_eq_false_iff_not]; omega)
                    refine gy rfl rfl s33 tr2 (mv rfl ((hf25 11 rfl).trans s17) ?_)
                    exact ⟨_, rfl, Ext.refl _, rfl⟩
                  refine ⟨fun _ => ⟨fun f28 w35 hf26 xt33 hp26 => ?_, fun _ _ _ _ h => h⟩, ?_⟩
                  ·
                    have H39 := H24.ext xt33
                    have s34 : f28 104 = .bool (decide (0 < (q : Int))) := hp26 12 rfl rfl
                    have tr3 : (decide (0 < (q : Int))) = false := (by have h_ := path_cut rtm_ ha_ hb_ (notf b2) (s := q) (t := k_) (by omega) hx2 hx3 (by omega); rw [decide_eq_false_iff_not]; omega)
                    refine gy rfl rfl s34 tr3 (mv rfl ((hf26 9 rfl).trans s16) ?_)
                    exact ⟨_, rfl, Ext.refl _, rfl⟩
                  refine ⟨fun _ => ⟨fun f29 w36 hf27 xt34 hp27 => ?_, fun _ _ _ _ h => h⟩, ?_⟩
                  ·
                    have H40 := H24.ext xt34
                    have s35 : f29 104 = .bool (decide (0 < (q : Int))) := hp27 12 rfl rfl
                    have s36 : f29 106 = .slice a0 ((pathM mn mr (i % mn) (j % mn)).getD []).length c0 := hp27 14 rfl rfl
                    have tr4 : (decide (0 < (q : Int))) = false := (by have h_ := path_cut rtm_ ha_ hb_ (notf b2) (s := q) (t := k_) (by omega) hx2 hx3 (by omega); rw [decide_eq_false_iff_not]; omega)
                    refine gy rfl rfl s35 tr4 (lnS rfl s36 un42 ?_)
                    exact ⟨_, rfl, Ext.refl _, rfl⟩
                  refine ⟨fun _ => ⟨fun f30 w37 hf28 xt35 hp28 => ?_, fun _ _ _ _ h => h⟩, ?_⟩
                  ·
                    have H41 := H24.ext xt35
                    have s37 : f30 104 = .bool (decide (0 < (q : Int))) := hp28 12 rfl rfl
                    have s38 : f30 107 = .int .i64 (((pathM mn mr (i % mn) (j % mn)).getD []).length : Int) := hp28 15 rfl rfl
                    have tr5 : (decide (0 < (q : Int))) = false := (by have h_ := path_cut rtm_ ha_ hb_ (notf b2) (s := q) (t := k_) (by omega) hx2 hx3 (by omega); rw [decide_eq_false_iff_not]; omega)
                    refine gy rfl rfl s37 tr5 (sub rfl rfl s38 rfl (by first | assumption | (unfold I64 at *; omega)) ?_)
                    exact ⟨_, rfl, Ext.refl _, rfl⟩
                  exact DSteps.rest rfl _
                · intro f31 w38 hf29 xt36 hp29
                  have H42 := H24.ext xt36
                  have s39 : f31 3 = .pointer (some ⟨bb0, 0, none⟩) := (hf29 3 rfl).trans s15
                  have s40 : f31 9 = .slice a0 ((pathM mn mr (i % mn) (j % mn)).getD []).length c0 := (hf29 9 rfl).trans s16
                  have s41 : f31 11 = .int .i64 (k_ : Int) := (hf29 11 rfl).trans s17
                  have s42 : f31 12 = .int .i64 (q : Int) := (hf29 12 rfl).trans s18
                  have s43 : f31 101 = .bool (decide (x2 = x3)) := hp29 9 rfl
                  have s44 : f31 104 = .bool (decide (0 < (q : Int))) := hp29 12 rfl
                  have s45 : f31 105 = .int .i64 (k_ : Int) := hp29 13 rfl
                  have s46 : f31 108 = .int .i64 ((((pathM mn mr (i % mn) (j % mn)).getD []).length : Int) - 1) := hp29 16 rfl
                  have tr6 : (decide (0 < (q : Int))) = false := (by have h_ := path_cut rtm_ ha_ hb_ (notf b2) (s := q) (t := k_) (by omega) hx2 hx3 (by omega); rw [decide_eq_false_iff_not]; omega)
                  refine k (gy rfl rfl s44 tr6 (lss rfl rfl s45 s46 (k (gy rfl rfl s43 b5 (pickF rfl rfl rfl s44 tr6 rfl (k (pickT rfl rfl rfl s43 b5 rfl (z (nx ?_)))))))))
                  have tr7 : (decide ((k_ : Int) < ((((pathM mn mr (i % mn) (j % mn)).getD []).length : Int) - 1))) = false := (by have h_ := path_cut rtm_ ha_ hb_ (notf b2) (s := q) (t := k_) (by omega) hx2 hx3 (by omega); rw [decide_eq_false_iff_not]; omega)
                  refine cdF rfl rfl tr7 (sk (inb_normal (nx (rg (k (mv rfl s42 (k (add rfl rfl rfl rfl (by first | assumption | (unfold I64 at *; omega)) (k (asg (v := .int .i64 ((q : Int) + 1)) rfl rfl (z ?_)))))))))))
                  refine loopN _ ?_ ⟨(q + 1), rfl, s39, s40, s41, (ieq rfl (by first | rfl | omega | (push_cast; omega))), H42, (by first | assumption | omega | simp | (simp; omega))⟩
                  omega
              · -- decide (x2 = x3) is False
                have p5 := of_decide_eq_false b5
                refine dr 17 [fun (v : Value) (w' : World) => v = .slice a0 ((pathM mn mr (i % mn) (j % mn)).getD []).length c0, fun (v : Value) (w' : World) => v = .int .i64 (k_ : Int), fun (v : Value) (w' : World) => ∃ (g4 : Nat), v = .pointer (some ⟨g4, (k_ : Int).toNat * 1, none⟩) ∧ (.slice a0 ((pathM mn mr (i % mn) (j % mn)).getD []).length c0 : Value).ownBlock = some g4 ∧ AtW (MS M [imm (.slice a1 (closeM mn mr).length c1) (closeM mn mr), own w.heap.size 3 (.slice a0 ((pathM mn mr (i % mn) (j % mn)).getD []).length c0) ((pathM mn mr (i % mn) (j % mn)).getD []), box bb0 #[.int .i64 mn, .slice a_mr mr.length c_mr] 24, imm (.slice a_mr mr.length c_mr) mr]) w' ⟨g4, (k_ : Int).toNat * 1, none⟩ x2, fun (v : Value) (w' : World) => v = .int .i64 x2 ∧ I64 (x2), fun (v : Value) (w' : World) => v = .slice a0 ((pathM mn mr (i % mn) (j % mn)).getD []).length c0, fun (v : Value) (w' : World) => v = .int .i64 (q : Int), fun (v : Value) (w' : World) => ∃ (g5 : Nat), v = .pointer (some ⟨g5, (q : Int).toNat * 1, none⟩) ∧ (.slice a0 ((pathM mn mr (i % mn) (j % mn)).getD []).length c0 : Value).ownBlock = some g5 ∧ AtW (MS M [imm (.slice a1 (closeM mn mr).length c1) (closeM mn mr), own w.heap.size 3 (.slice a0 ((pathM mn mr (i % mn) (j % mn)).getD []).length c0) ((pathM mn mr (i % mn) (j % mn)).getD []), box bb0 #[.int .i64 mn, .slice a_mr mr.length c_mr] 24, imm (.slice a_mr mr.length c_mr) mr]) w' ⟨g5, (q : Int).toNat * 1, none⟩ x3, fun (v : Value) (w' : World) => v = .int .i64 x3 ∧ I64 (x3), fun (v : Value) (w' : World) => v = .bool (decide (x2 = x3)), fun (v : Value) (w' : World) => v = .bool (decide (x2 = x3)), fun (v : Value) (_ : World) => v = undef, fun (v : Value) (_ : World) => v = undef, fun (v : Value) (_ : World) => v = undef, fun (v : Value) (_ : World) => v = undef, fun (v : Value) (_ : World) => v = undef, fun (v : Value) (_ : World) => v = undef, fun (v : Value) (_ : World) => v = undef] rfl (by kernel_rfl) ?_ ?_
                ·
                  refine ⟨fun _ => ⟨fun f14 w21 hf12 xt19 hp12 => ?_, fun _ _ _ _ h => h⟩, ?_⟩
                  ·
                    have H25 := H24.ext xt19
                    refine mv rfl ((hf12 9 rfl).trans s16) ?_
                    exact ⟨_, rfl, Ext.refl _, rfl⟩
                  refine ⟨fun _ => ⟨fun f15 w22 hf13 xt20 hp13 => ?_, fun _ _ _ _ h => h⟩, ?_⟩
                  ·
                    have H26 := H24.ext xt20
                    refine mv rfl ((hf13 11 rfl).trans s17) ?_
                    exact ⟨_, rfl, Ext.refl _, rfl⟩
                  refine ⟨fun _ => ⟨fun f16 w23 hf14 xt21 hp14 => ?_, by rintro _ _ _ x_ ⟨g4, e_, hv4, hA4⟩; exact ⟨g4, e_, hv4, hA4.ext x_⟩⟩, ?_⟩
                  ·
                    have H27 := H24.ext xt21
                    have s19 : f16 92 = .slice a0 ((pathM mn mr (i % mn) (j % mn)).getD []).length c0 := hp14 0 rfl rfl
                    have s20 : f16 93 = .int .i64 (k_ : Int) := hp14 1 rfl rfl
                    refine iaO (H27.at_ 1 rfl) rfl rfl s19 s20 (by first | omega | (simp; omega)) un42 ty3 ?_
                    intro g6 x6 hv6 hx6 hA6
                    obtain rfl : x2 = x6 := Option.some.inj (hx2.symm.trans hx6)
                    exact ⟨_, rfl, Ext.refl _, ⟨g6, rfl, hv6, hA6⟩⟩
                  refine ⟨fun _ => ⟨fun f17 w24 hf15 xt22 hp15 => ?_, fun _ _ _ _ h => h⟩, ?_⟩
                  ·
                    have H28 := H24.ext xt22
                    obtain ⟨g7, s21, hv7, hA7⟩ : ∃ (g7 : Nat), f17 94 = .pointer (some ⟨g7, (k_ : Int).toNat * 1, none⟩) ∧ (.slice a0 ((pathM mn mr (i % mn) (j % mn)).getD []).length c0 : Value).ownBlock = some g7 ∧ AtW (MS M [imm (.slice a1 (closeM mn mr).length c1) (closeM mn mr), own w.heap.size 3 (.slice a0 ((pathM mn mr (i % mn) (j % mn)).getD []).length c0) ((pathM mn mr (i % mn) (j % mn)).getD []), box bb0 #[.int .i64 mn, .slice a_mr mr.length c_mr] 24, imm (.slice a_mr mr.length c_mr) mr]) w24 ⟨g7, (k_ : Int).toNat * 1, none⟩ x2 := hp15 2 rfl rfl
                    refine ldI hA7 ty3 rfl s21 ?_
                    intro rv8
                    exact ⟨_, rfl, Ext.refl _, ⟨rfl, rv8⟩⟩
                  refine ⟨fun _ => ⟨fun f18 w25 hf16 xt23 hp16 => ?_, fun _ _ _ _ h => h⟩, ?_⟩
                  ·
                    have H29 := H24.ext xt23
                    refine mv rfl ((hf16 9 rfl).trans s16) ?_
                    exact ⟨_, rfl, Ext.refl _, rfl⟩
                  refine ⟨fun _ => ⟨fun f19 w26 hf17 xt24 hp17 => ?_, fun _ _ _ _ h => h⟩, ?_⟩
                  ·
                    have H30 := H24.ext xt24
                    refine mv rfl ((hf17 12 rfl).trans s18) ?_
                    exact ⟨_, rfl, Ext.refl _, rfl⟩
                  refine ⟨fun _ => ⟨fun f20 w27 hf18 xt25 hp18 => ?_, by rintro _ _ _ x_ ⟨g5, e_, hv5, hA5⟩; exact ⟨g5, e_, hv5, hA5.ext x_⟩⟩, ?_⟩
                  ·
                    have H31 := H24.ext xt25
                    have s22 : f20 96 = .slice a0 ((pathM mn mr (i % mn) (j % mn)).getD []).length c0 := hp18 4 rfl rfl
                    have s23 : f20 97 = .int .i64 (q : Int) := hp18 5 rfl rfl
                    refine iaO (H31.at_ 1 rfl) rfl rfl s22 s23 (by first | omega | (simp; omega)) un42 ty3 ?_
                    intro g8 x7 hv8 hx7 hA8
                    obtain rfl : x3 = x7 := Option.some.inj (hx3.symm.trans hx7)
                    exact ⟨_, rfl, Ext.refl _, ⟨g8, rfl, hv8, hA8⟩⟩
                  refine ⟨fun _ => ⟨fun f21 w28 hf19 xt26 hp19 => ?_, fun _ _ _ _ h => h⟩, ?_⟩
                  ·
                    have H32 := H24.ext xt26
                    obtain ⟨g9, s24, hv9, hA9⟩ : ∃ (g9 : Nat), f21 98 = .pointer (some ⟨g9, (q : Int).toNat * 1, none⟩) ∧ (.slice a0 ((pathM mn mr (i % mn) (j % mn)).getD []).length c0 : Value).ownBlock = some g9 ∧ AtW (MS M [imm (.slice a1 (closeM mn mr).length c1) (closeM mn mr), own w.heap.size 3 (.slice a0 ((pathM mn mr (i % mn) (j % mn)).getD []).length c0) ((pathM mn mr (i % mn) (j % mn)).getD []), box bb0 #[.int .i64 mn, .slice a_mr mr.length c_mr] 24, imm (.slice a_mr mr.length c_mr) mr]) w28 ⟨g9, (q : Int).toNat * 1, none⟩ x3 := hp19 6 rfl rfl
                    refine ldI hA9 ty3 rfl s24 ?_
                    intro rv9
                    exact ⟨_, rfl, Ext.refl _, ⟨rfl, rv9⟩⟩
                  refine ⟨fun _ => ⟨fun f22 w29 hf20 xt27 hp20 => ?_, fun _ _ _ _ h => h⟩, ?_⟩
                  ·
                    have H33 := H24.ext xt27
                    obtain ⟨s25, rv10⟩ : f22 95 = .int .i64 x2 ∧ I64 (x2) := hp20 3 rfl rfl
                    obtain ⟨s26, rv11⟩ : f22 99 = .int .i64 x3 ∧ I64 (x3) := hp20 7 rfl rfl
                    refine eql rfl rfl s25 s26 ?_
                    exact ⟨_, rfl, Ext.refl _, rfl⟩
                  refine ⟨fun _ => ⟨fun f23 w30 hf21 xt28 hp21 => ?_, fun _ _ _ _ h => h⟩, ?_⟩
                  ·
                    have H34 := H24.ext xt28
                    have s27 : f23 100 = .bool (decide (x2 = x3)) := hp21 8 rfl rfl
                    refine mv rfl s27 ?_
                    exact ⟨_, rfl, Ext.refl _, rfl⟩
                  refine ⟨fun _ => ⟨fun f24 w31 hf22 xt29 hp22 => ?_, fun _ _ _ _ h => h⟩, ?_⟩
                  ·
                    have H35 := H24.ext xt29
                    have s28 : f24 101 = .bool (decide (x2 = x3)) := hp22 9 rfl rfl
                    refine gn rfl rfl s28 b5 ?_
                    exact ⟨_, rfl, Ext.refl _, rfl⟩
                  refine ⟨fun _ => ⟨fun f25 w32 hf23 xt30 hp23 => ?_, fun _ _ _ _ h => h⟩, ?_⟩
                  ·
                    have H36 := H24.ext xt30
                    have s29 : f25 101 = .bool (decide (x2 = x3)) := hp23 9 rfl rfl
                    have s30 : f25 102 = undef := hp23 10 rfl rfl
                    refine gn rfl rfl s29 b5 ?_
                    exact ⟨_, rfl, Ext.refl _, rfl⟩
                  refine ⟨fun _ => ⟨fun f26 w33 hf24 xt31 hp24 => ?_, fun _ _ _ _ h => h⟩, ?_⟩
                  ·
                    have H37 := H24.ext xt31
                    have s31 : f26 101 = .bool (decide (x2 = x3)) := hp24 9 rfl rfl
                    have s32 : f26 103 = undef := hp24 11 rfl rfl
                    refine gn rfl rfl s31 b5 ?_
                    exact ⟨_, rfl, Ext.refl _, rfl⟩
                  refine ⟨fun _ => ⟨fun f27 w34 hf25 xt32 hp25 => ?_, fun _ _ _ _ h => h⟩, ?_⟩
                  ·
                    have H38 := H24.ext xt32
                    have s33 : f27 104 = undef := hp25 12 rfl rfl
                    refine gu rfl rfl s33 ?_
                    exact ⟨_, rfl, Ext.refl _, rfl⟩
                  refine ⟨fun _ => ⟨fun f28 w35 hf26 xt33 hp26 => ?_, fun _ _ _ _ h => h⟩, ?_⟩
                  ·
                    have H39 := H24.ext xt33
                    have s34 : f28 104 = undef := hp26 12 rfl rfl
                    refine gu rfl rfl s34 ?_
                    exact ⟨_, rfl, Ext.refl _, rfl⟩
                  refine ⟨fun _ => ⟨fun f29 w36 hf27 xt34 hp27 => ?_, fun _ _ _ _ h => h⟩, ?_⟩
                  ·
                    have H40 := H24.ext xt34
                    have s35 : f29 104 = undef := hp27 12 rfl rfl
                    have s36 : f29 106 = undef := hp27 14 rfl rfl
                    refine gu rfl rfl s35 ?_
                    exact ⟨_, rfl, Ext.refl _, rfl⟩
                  refine ⟨fun _ => ⟨fun f30 w37 hf28 xt35 hp28 => ?_, fun _ _ _ _ h => h⟩, ?_⟩
                  ·
                    have H41 := H24.ext xt35
                    have s37 : f30 104 = undef := hp28 12 rfl rfl
                    have s38 : f30 107 = undef := hp28 15 rfl rfl
                    refine gu rfl rfl s37 ?_
                    exact ⟨_, rfl, Ext.refl _, rfl⟩
                  exact DSteps.rest rfl _
                · intro f31 w38 hf29 xt36 hp29
                  have H42 := H24.ext xt36
                  have s39 : f31 3 = .pointer (some ⟨bb0, 0, none⟩) := (hf29 3 rfl).trans s15
                  have s40 : f31 9 = .slice a0 ((pathM mn mr (i % mn) (j % mn)).getD []).length c0 := (hf29 9 rfl).trans s16
                  have s41 : f31 11 = .int .i64 (k_ : Int) := (hf29 11 rfl).trans s17
                  have s42 : f31 12 = .int .i64 (q : Int) := (hf29 12 rfl).trans s18
                  have s43 : f31 101 = .bool (decide (x2 = x3)) := hp29 9 rfl
                  have s44 : f31 104 = undef := hp29 12 rfl
                  have s45 : f31 105 = undef := hp29 13 rfl
                  have s46 : f31 108 = undef := hp29 16 rfl
                  refine k (gu rfl rfl s44 (k (gn rfl rfl s43 b5 (k (pickF rfl rfl rfl s43 b5 rfl (z (nx (cdF rfl rfl rfl (sk (inb_normal (nx (rg (k (mv rfl s42 (k (add rfl rfl rfl rfl (by first | assumption | (unfold I64 at *; omega)) (k (asg (v := .int .i64 ((q : Int) + 1)) rfl rfl (z ?_)))))))))))))))))))
                  refine loopN _ ?_ ⟨(q + 1), rfl, s39, s40, s41, (ieq rfl (by first | rfl | omega | (push_cast; omega))), H42, (by first | assumption | omega | simp | (simp; omega))⟩
                  omega
            ·
              have p4 := of_decide_eq_false b4
              refine ex (then_exit (loop_exit (inb_here (inb_normal (nx (rg (k (mv rfl s17 (k (add rfl rfl rfl rfl (by first | assumption | (unfold I64 at *; omega)) (k (asg (v := .int .i64 ((k_ : Int) + 1)) rfl rfl (z ?_)))))))))))))
              refine loopN _ ?_ ⟨(k_ + 1), rfl, s15, s16, (ieq rfl (by first | rfl | omega | (push_cast; omega))), H24, (by first | assumption | omega | simp | (simp; omega))⟩
              omega
          ·
            have p3 := of_decide_eq_false b3
            refine ex (then_exit (loop_exit (inb_here (nx (sq (rg (k ?_)))))))
            have cc6 := awake14 (w := w19) (hT.ext H23.below)
            refine ca go37 rfl e0 cc6 ?_
            rintro _ w20 ⟨rfl, xt19⟩
            have H24 := H23.ext xt19
            refine k (mv (v := .bool true) rfl rfl (k (gy rfl rfl rfl rfl (mv rfl s13 (k (gy rfl rfl rfl rfl (lnS rfl rfl un42 (k (gy rfl rfl rfl rfl (fa fl24_0 rfl s12 (k (gy rfl rfl rfl rfl (ldX H24 2 rfl ty3 rfl rfl (by decide) rfl (k (gy rfl rfl rfl rfl (add rfl rfl rfl rfl (by first | assumption | (unfold I64 at *; omega)) (k (gy rfl rfl rfl rfl (leq rfl rfl rfl rfl (k (pickT rfl rfl rfl rfl rfl rfl (k (asg (v := .bool (decide ((((pathM mn mr (i % mn) (j % mn)).getD []).length : Int) ≤ (mn + 1)))) rfl rfl (z (nx (rt (r1 rfl rfl ?_)))))))))))))))))))))))))))
            have e0 : (decide ((((pathM mn mr (i % mn) (j % mn)).getD []).length : Int) ≤ (mn + 1)) : Bool) = true := by exact (decide_eq_true (path_len rtm_ ha_ hb_ (notf b2)).2)
            have ev_ := cg1 (fun (x_0 : Bool) => (.bool x_0 : Value)) e0
            exact ⟨ev_, H24.below⟩
end Go.Proofs.YtmhopljngkgidaaDoor
