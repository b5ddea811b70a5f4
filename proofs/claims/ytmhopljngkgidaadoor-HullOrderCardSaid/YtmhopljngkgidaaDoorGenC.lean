/- PRINTED by my own tool (wip/tool/gen.py): contracts of Go functions of this seat, each with its proof. -/
import Derived.Test.YtmhopljngkgidaaDoorOwnC
import Derived.Test.YtmhopljngkgidaaDoorOwnA
import Derived.Test.YtmhopljngkgidaaDoorGenB
import Derived.Test.YtmhopljngkgidaaDoorGenA
import Derived.Test.YtmhopljngkgidaaDoorOwnB
namespace Go.Proofs.YtmhopljngkgidaaDoor
open Go.Ew Go.RowKit
set_option linter.unusedVariables false
set_option linter.unusedSimpArgs false
attribute [local irreducible] WL WC SO Code.wp wpList retQ Ret
attribute [local irreducible] bitB hasW inR hasR setR countW countR subR words newR listR orR firstW tab8
theorem ty4 : TyF Tryd.prog 4 1 false 1 (.bool false) := ⟨by kernel_rfl, by kernel_rfl⟩
theorem un111 : Tryd.prog.underlying 111 = some (.slice 4) := by kernel_rfl
theorem go77 : GoF Tryd.prog 77 := ⟨_, _, Tryd.func77, rfl, by kernel_rfl⟩
theorem go30 : GoF Tryd.prog 30 := ⟨_, _, Tryd.func30, rfl, by kernel_rfl⟩
theorem go79 : GoF Tryd.prog 79 := ⟨_, _, Tryd.func79, rfl, by kernel_rfl⟩
/- eyewitness/eyewitnessref04.has -/
set_option maxRecDepth 100000 in
set_option maxHeartbeats 1600000 in
theorem ref04_has {M : Nat → Prop} {w : World} {a_l : Option Addr} {c_l : Nat} {l : List Int} {x : Int} (hM : ∀ b, M b → b < w.heap.size) (h_l : RV M w (.slice a_l l.length c_l) l) (h_x : I64 x) : Calls Tryd.prog 79 #[.slice a_l l.length c_l, .int .i64 x] w (Ret fun v w' =>  v = .bool (decide (x ∈ l)) ∧ Ext w w') := by
  refine enter 18 Tryd.func79 rfl rfl rfl fun f0 ha => ?_
  have H := HI.start (M0 := M) (w := w) hM
  have H0 := H.put (it := imm (.slice a_l l.length c_l) l) rfl (by rw [MS_nil]; exact h_l)
  have ln_l := rv_len h_l
  have i0 : f0 0 = .slice a_l l.length c_l := ha 0 (by simp)
  have i1 : f0 1 = .int .i64 x := ha 1 (by simp)
  refine sq (rg (k (asg (v := .bool false) rfl rfl (z (nx (sq (sq (rg (k (asg (v := .int .i64 0) rfl rfl (z (nx (bk ?_)))))))))))))
  refine lp (fun m f w' => ∃ (j : Nat), m = l.length - j ∧ f 0 = .slice a_l l.length c_l ∧ f 1 = .int .i64 x ∧ f 5 = .int .i64 (j : Int) ∧  HI M w w' [imm (.slice a_l l.length c_l) l] ∧ (j ≤ l.length) ∧ (x ∉ l.take j)) _ ⟨0, rfl, i0, i1, (ieq rfl (by first | rfl | omega | simp)), H0, (by first | assumption | omega | simp | (simp; omega)), (by simp)⟩ ?_
  rintro _ f0 w0 ⟨j, rfl, s0, s1, s2, H1, hk, hs⟩
  refine sq (sq (rg (k (mv rfl s2 (k (mv rfl s0 (k (lnS rfl rfl un42 (k (lss rfl rfl rfl rfl (z (nx ?_))))))))))))
  refine cd (b := decide ((j : Int) < (l.length : Int))) rfl rfl (fun b0 => ?_) (fun b0 => ?_)
  ·
    have p0 := of_decide_eq_true b0
    refine sk (nx (sq (bk (sq (rg (k (mv rfl s0 (k (mv rfl s2 (k (ia (H1.rv 0 rfl) rfl rfl rfl rfl (by first | omega | (simp; omega)) un42 ty3 ?_)))))))))))
    intro ad0 x0 hx0 hA0
    refine k (ldI hA0.w ty3 rfl rfl ?_)
    intro rv0
    refine k (mv rfl s1 (k (eql rfl rfl rfl rfl (z (nx ?_)))))
    refine cd (b := decide (x0 = x)) rfl rfl (fun b1 => ?_) (fun b1 => ?_)
    ·
      have p1 := of_decide_eq_true b1
      refine sq (rg (k (asg (v := .bool true) rfl rfl (z (nx (rt (inb_ret (then_ret (loop_ret (inb_ret (then_ret (r1 rfl rfl ?_))))))))))))
      have e0 : (true : Bool) = decide (x ∈ l) := by first | exact memI_yes hx0 (by assumption) | exact memI_no hs (by omega)
      have ev_ := cg1 (fun (x_0 : Bool) => (.bool x_0 : Value)) e0
      exact ⟨ev_, H1.below⟩
    ·
      have p1 := of_decide_eq_false b1
      refine sk (inb_normal (nx (rg (k (mv rfl s2 (k (add rfl rfl rfl rfl (by unfold I64 at *; omega) (k (asg (v := .int .i64 ((j : Int) + 1)) rfl rfl (z ?_))))))))))
      refine loopN _ ?_ ⟨(j + 1), rfl, s0, s1, (ieq rfl (by first | rfl | omega | (push_cast; omega))), H1, (by first | assumption | omega | simp | (simp; omega)), (by exact memI_step hs hx0 (by assumption))⟩
      omega
  ·
    have p0 := of_decide_eq_false b0
    refine ex (then_exit (loop_exit (inb_here (nx (sq (rg (k (asg (v := .bool false) rfl rfl (z (nx (rt (r1 rfl rfl ?_))))))))))))
    have e0 : (false : Bool) = decide (x ∈ l) := by first | exact memI_yes hx0 (by assumption) | exact memI_no hs (by omega)
    have ev_ := cg1 (fun (x_0 : Bool) => (.bool x_0 : Value)) e0
    exact ⟨ev_, H1.below⟩
/- eyewitness/eyewitnessref04.Reach -/
set_option maxRecDepth 100000 in
set_option maxHeartbeats 1600000 in
theorem ref04_Reach {M : Nat → Prop} {w : World} {mn : Int} {a_mr : Option Addr} {c_mr : Nat} {mr : List (List (BitVec 64))} {i : Int} (hM : ∀ b, M b → b < w.heap.size) (h_mn : I64 mn) (h_mr : RV M w (.slice a_mr mr.length c_mr) mr) (h_i : I64 i) (rt_m : rightS mn mr = true) (hi0 : 0 ≤ i) (hi1 : i < mn) : Calls Tryd.prog 77 #[.agg #[.int .i64 mn, .slice a_mr mr.length c_mr], .int .i64 i] w (Ret fun v w' => ∃ (a0 : Option Addr) (c0 : Nat), v = .slice a0 (lst mn.toNat (cl mn.toNat (relM mr) i.toNat)).length c0 ∧ Ext w w' ∧ OwnsG M 3 w (lst mn.toNat (cl mn.toNat (relM mr) i.toNat)) (.slice a0 (lst mn.toNat (cl mn.toNat (relM mr) i.toNat)).length c0) w') := by
  refine enter 63 Tryd.func77 rfl rfl rfl fun f0 ha => ?_
  have H := HI.start (M0 := M) (w := w) hM
  have H0 := H.put (it := imm (.slice a_mr mr.length c_mr) mr) rfl (by rw [MS_nil]; exact h_mr)
  have ln_mr := rv_len h_mr
  have i0 : f0 0 = .agg #[.int .i64 mn, .slice a_mr mr.length c_mr] := ha 0 (by simp)
  have i1 : f0 1 = .int .i64 i := ha 1 (by simp)
  have hl_ := (right_sq rt_m).1; have h4_ := (right_sq rt_m).2.2.1; have h0_ := right_pos rt_m
  refine sq (rg (k (bx H0 rfl i0 ?_)))
  intro bb0 w0 xt0 (H1 : HI M w w0 [box bb0 #[.int .i64 mn, .slice a_mr mr.length c_mr] 24, imm (.slice a_mr mr.length c_mr) mr])
  refine k (asg (v := .slice none 0 0) rfl rfl (z (nx (sq (rg (k (asg (v := .slice none 0 0) rfl rfl (z (nx (sq (rg (k (fa fl24_0 rfl rfl (k (ldX H1 0 rfl ty3 rfl rfl (by decide) rfl (k ?_))))))))))))))))
  have n0 : ((mn.toNat : Nat) : Int) = mn := Int.toNat_of_nonneg (by omega)
  refine mk (m := mn.toNat) (zx := (false : Bool)) H1 rfl rfl (by rw [n0]; exact rfl) (by rw [n0]; exact rfl) un111 ty4 (fun _ _ => rfl) (by omega) (by omega) ?_
  intro g0 w1 xt1 (H2 : HI M w w1 [own w.heap.size 4 (.slice (some ⟨g0, 0, none⟩) mn.toNat mn.toNat) (List.replicate mn.toNat (false : Bool)), box bb0 #[.int .i64 mn, .slice a_mr mr.length c_mr] 24, imm (.slice a_mr mr.length c_mr) mr])
  refine k (asg (v := .slice (some ⟨g0, 0, none⟩) mn.toNat mn.toNat) rfl rfl (z (nx (sq (rg (k (mv rfl i1 (k (bs (xs := ([i] : List Int)) (cells := #[.int .i64 i]) (e := 3) H2 rfl (pbc rfl pb0) (fun _ => by kernel_rfl) ⟨[.int .i64 i], [], rfl, ⟨rfl, (show I64 (i) from (by unfold I64 at *; omega))⟩, rfl⟩ rfl (by unfold maxLen; omega) ?_)))))))))
  intro g1 w2 xt2 (H3 : HI M w w2 [own w.heap.size 3 (.slice (some ⟨g1, 0, none⟩) 1 1) ([i] : List Int), own w.heap.size 4 (.slice (some ⟨g0, 0, none⟩) mn.toNat mn.toNat) (List.replicate mn.toNat (false : Bool)), box bb0 #[.int .i64 mn, .slice a_mr mr.length c_mr] 24, imm (.slice a_mr mr.length c_mr) mr])
  refine k (asg (v := .slice (some ⟨g1, 0, none⟩) 1 1) rfl rfl (z (nx (sq (bk ?_)))))
  have H4 : HI M w w2 [ownQ w.heap.size 3 (.slice (some ⟨g1, 0, none⟩) 1 1) ([i] : List Int), own w.heap.size 4 (.slice (some ⟨g0, 0, none⟩) mn.toNat mn.toNat) (List.replicate mn.toNat (false : Bool)), box bb0 #[.int .i64 mn, .slice a_mr mr.length c_mr] 24, imm (.slice a_mr mr.length c_mr) mr] := H3.toQ 0 rfl
  refine lp (fun m f w' => ∃ (sn : List Bool) (td : List Int) (a0 : Option Addr) (c0 : Nat), m = 2 * sn.count false + td.length ∧ f 2 = .pointer (some ⟨bb0, 0, none⟩) ∧ f 5 = .slice none 0 0 ∧ f 6 = .slice (some ⟨g0, 0, none⟩) mn.toNat mn.toNat ∧ f 7 = .slice a0 td.length c0 ∧  HI M w w' [ownQ w.heap.size 3 (.slice a0 td.length c0) td, own w.heap.size 4 (.slice (some ⟨g0, 0, none⟩) mn.toNat mn.toNat) sn, box bb0 #[.int .i64 mn, .slice a_mr mr.length c_mr] 24, imm (.slice a_mr mr.length c_mr) mr] ∧ (Rch mn.toNat (relM mr) i.toNat sn td (-1) 0) ∧ (2 * sn.count false + td.length ≤ 2 * mn.toNat + 1)) _ ⟨(List.replicate mn.toNat (false : Bool)), [i], (some ⟨g1, 0, none⟩), 1, rfl, rfl, rfl, rfl, rfl, H4, (by have h_ := rch_start (n := mn.toNat) (p := relM mr) (i := i.toNat) (by omega); rwa [Int.toNat_of_nonneg hi0] at h_), (by simp)⟩ ?_
  rintro _ f0 w3 ⟨sn, td, a0, c0, rfl, s0, s1, s2, s3, H5, hs, hz_⟩
  refine sq (sq (rg (k (mv rfl s3 (k (lnS rfl rfl un42 (k (gtr rfl rfl rfl rfl (z (nx ?_))))))))))
  refine cd (b := decide (0 < (td.length : Int))) rfl rfl (fun b0 => ?_) (fun b0 => ?_)
  ·
    have p0 := of_decide_eq_true b0
    refine sk (nx (bk (sq ?_)))
    have hn_ : ((mn.toNat : Nat) : Int) = mn := Int.toNat_of_nonneg h0_
    refine rg (k (mv rfl s3 (k (iaQ (H5.at_ 0 rfl) rfl rfl rfl rfl (by first | omega | (simp; omega)) un42 ty3 ?_))))
    intro ad0 x0 hx0 hA0
    refine k (ldI hA0 ty3 rfl rfl ?_)
    intro rv0
    refine k (asg (v := .int .i64 x0) rfl rfl (z (nx (sq ?_))))
    obtain ⟨at_, hat_, ha1_, ha2_⟩ := rch_at hs hx0
    refine rg (k (mv rfl s3 (k (slQ H5 0 rfl rfl rfl rfl rfl (by first | omega | (simp; omega)) un42 ty3 ?_))))
    intro a1 c1 (H6 : HI M w w3 [ownQ w.heap.size 3 (.slice a1 (td.drop 1).length c1) (td.drop 1), own w.heap.size 4 (.slice (some ⟨g0, 0, none⟩) mn.toNat mn.toNat) sn, box bb0 #[.int .i64 mn, .slice a_mr mr.length c_mr] 24, imm (.slice a_mr mr.length c_mr) mr])
    refine k (asg (v := .slice a1 (td.drop 1).length c1) rfl rfl (z (nx (sq (rg (k (asg (v := .int .i64 0) rfl rfl (z (nx (bk ?_))))))))))
    refine lp (fun m f w' => ∃ (j : Nat) (sn2 : List Bool) (td2 : List Int) (a2 : Option Addr) (c2 : Nat), m = mn.toNat - j ∧ f 2 = .pointer (some ⟨bb0, 0, none⟩) ∧ f 5 = .slice none 0 0 ∧ f 6 = .slice (some ⟨g0, 0, none⟩) mn.toNat mn.toNat ∧ f 7 = .slice a2 td2.length c2 ∧ f 8 = .int .i64 x0 ∧ f 9 = .int .i64 (j : Int) ∧  HI M w w' [ownQ w.heap.size 3 (.slice a2 td2.length c2) td2, own w.heap.size 4 (.slice (some ⟨g0, 0, none⟩) mn.toNat mn.toNat) sn2, box bb0 #[.int .i64 mn, .slice a_mr mr.length c_mr] 24, imm (.slice a_mr mr.length c_mr) mr] ∧ (j ≤ mn.toNat) ∧ (Rch mn.toNat (relM mr) i.toNat sn2 td2 x0 j) ∧ (2 * sn2.count false + td2.length ≤ 2 * sn.count false + (td.drop 1).length)) _ ⟨0, sn, (td.drop 1), a1, c1, rfl, s0, s1, s2, rfl, rfl, (ieq rfl (by first | rfl | omega | simp)), H6, (by first | assumption | omega | simp | (simp; omega)), (by exact rch_pop hs hx0), (by first | assumption | omega | simp | (simp; omega))⟩ ?_
    rintro _ f1 w4 ⟨j, sn2, td2, a2, c2, rfl, s4, s5, s6, s7, s8, s9, H7, hj_, hs2, hz2_⟩
    refine sq (sq (rg (k (mv rfl s9 (k (fa fl24_0 rfl s4 (k (ldX H7 2 rfl ty3 rfl rfl (by decide) rfl (k (lss rfl rfl rfl rfl (z (nx ?_))))))))))))
    refine cd (b := decide ((j : Int) < mn)) rfl rfl (fun b1 => ?_) (fun b1 => ?_)
    ·
      have p1 := of_decide_eq_true b1
      refine sk (nx (sq (bk (sq (rg (k (ldX H7 2 rfl ty24 rfl s4 (by decide) rfl (k (mv rfl s8 (k (mv rfl s9 (k ?_))))))))))))
      have cc0 := ref03_Has (mn := mn) (mr := mr) (i := x0) (j := (j : Int)) (w := w4) H7.mb (by unfold I64 at *; omega) (H7.rv 3 rfl) (by unfold I64 at *; omega) (by unfold I64 at *; omega) (by exact (right_sq rt_m).1) (by exact (right_sq rt_m).2.1) (by exact (right_sq rt_m).2.2.1)
      refine ca go45 rfl (ec rfl (ec rfl (ec rfl e0))) cc0 ?_
      rintro _ w5 ⟨rfl, xt3⟩
      have H8 := H7.ext xt3
      refine k (mv (v := .bool (hasM mn mr x0 (j : Int))) rfl rfl ?_)
      rcases Bool.eq_false_or_eq_true (hasM mn mr x0 (j : Int)) with b2 | b2
      · -- hasM mn mr x0 (j : Int) is True
        refine k (gy rfl rfl rfl b2 (mv rfl s6 (k (gy rfl rfl rfl b2 (mv rfl s9 (k (gy rfl rfl rfl b2 (iaO (H8.at_ 1 rfl) rfl rfl rfl rfl (by first | (have h_ := hs2.len; omega) | (have h_ := hs.len; omega)) un111 ty4 ?_))))))))
        intro g2 x1 hv0 hx1 hA1
        refine k (gy rfl rfl rfl b2 (ldB hA1 ty4 rfl rfl (k (gy rfl rfl rfl b2 (not_ rfl rfl (k (pickT rfl rfl rfl rfl b2 rfl (z (nx ?_)))))))))
        refine cd (b := !x1) rfl rfl (fun b3 => ?_) (fun b3 => ?_)
        ·
          refine sq (rg (k (mv rfl s6 (k (mv rfl s9 (k (iaO (H8.at_ 1 rfl) rfl rfl rfl rfl (by first | (have h_ := hs2.len; omega) | (have h_ := hs.len; omega)) un111 ty4 ?_)))))))
          intro g3 x2 hv1 hx2 hA2
          refine k (stO H8 1 rfl hv1 rfl (by first | (have h_ := hs2.len; omega) | (have h_ := hs.len; omega)) ty4 rfl rfl rfl rfl (RV.bool.2 rfl) ?_)
          intro w6 (H9 : HI M w w6 [ownQ w.heap.size 3 (.slice a2 td2.length c2) td2, own w.heap.size 4 (.slice (some ⟨g0, 0, none⟩) mn.toNat mn.toNat) (sn2.set ((j : Int).toNat) true), box bb0 #[.int .i64 mn, .slice a_mr mr.length c_mr] 24, imm (.slice a_mr mr.length c_mr) mr])
          refine z (nx (rg (k (mv rfl s7 (k (mv rfl s9 (k (bs (xs := ([(j : Int)] : List Int)) (cells := #[.int .i64 (j : Int)]) (e := 3) H9 rfl (pbc rfl pb0) (fun _ => by kernel_rfl) ⟨[.int .i64 (j : Int)], [], rfl, ⟨rfl, (show I64 ((j : Int)) from (by unfold I64 at *; omega))⟩, rfl⟩ rfl (by unfold maxLen; omega) ?_))))))))
          intro g4 w7 xt4 (H10 : HI M w w7 [own w.heap.size 3 (.slice (some ⟨g4, 0, none⟩) 1 1) ([(j : Int)] : List Int), ownQ w.heap.size 3 (.slice a2 td2.length c2) td2, own w.heap.size 4 (.slice (some ⟨g0, 0, none⟩) mn.toNat mn.toNat) (sn2.set ((j : Int).toNat) true), box bb0 #[.int .i64 mn, .slice a_mr mr.length c_mr] 24, imm (.slice a_mr mr.length c_mr) mr])
          refine k (apQ H10 1 rfl rfl rfl rfl rfl rfl (own_src (H10.at_ 0 rfl)) (by simp) un42 ty3 rfl (by first | (simp only [List.length_cons, List.length_nil]; have h_ := lst_len j3 (fun k => sn.getD k false); rw [hs4]; omega) | (simp only [List.length_cons, List.length_nil]; have h_ := List.length_drop (l := td) (i := 1); omega)) (by first | (simp only [List.length_cons, List.length_nil]; have h_ := lst_len j3 (fun k => sn.getD k false); rw [hs4]; omega) | (simp only [List.length_cons, List.length_nil]; have h_ := List.length_drop (l := td) (i := 1); omega)) ?_)
          intro a3 c3 w8 (H11 : HI M w w8 [own w.heap.size 3 (.slice (some ⟨g4, 0, none⟩) 1 1) ([(j : Int)] : List Int), ownQ w.heap.size 3 (.slice a3 (td2 ++ ([(j : Int)] : List Int)).length c3) (td2 ++ ([(j : Int)] : List Int)), own w.heap.size 4 (.slice (some ⟨g0, 0, none⟩) mn.toNat mn.toNat) (sn2.set ((j : Int).toNat) true), box bb0 #[.int .i64 mn, .slice a_mr mr.length c_mr] 24, imm (.slice a_mr mr.length c_mr) mr])
          refine k (asg (v := .slice a3 (td2 ++ ([(j : Int)] : List Int)).length c3) rfl rfl (z (inb_normal (nx (rg (k (mv rfl s9 (k (add rfl rfl rfl rfl (by unfold I64 at *; omega) (k (asg (v := .int .i64 ((j : Int) + 1)) rfl rfl (z ?_))))))))))))
          have H12 : HI M w w8 [ownQ w.heap.size 3 (.slice a3 (td2 ++ ([(j : Int)] : List Int)).length c3) (td2 ++ ([(j : Int)] : List Int)), own w.heap.size 4 (.slice (some ⟨g0, 0, none⟩) mn.toNat mn.toNat) (sn2.set ((j : Int).toNat) true), box bb0 #[.int .i64 mn, .slice a_mr mr.length c_mr] 24, imm (.slice a_mr mr.length c_mr) mr] := H11.pickN [1, 2, 3, 4] (by decide) rfl
          refine loopN _ ?_ ⟨(j + 1), (sn2.set ((j : Int).toNat) true), (td2 ++ ([(j : Int)] : List Int)), a3, c3, rfl, s4, s5, s6, rfl, s8, (ieq rfl (by first | rfl | omega | (push_cast; omega))), H12, (by first | assumption | omega | simp | (simp; omega)), (by first | exact rchI_yes rt_m hat_ hs2 ha1_ (by omega) ha2_ (by assumption) | exact rchI_no rt_m hat_ hs2 ha1_ (by omega) (by assumption) | exact rchI_had rt_m hat_ hs2 ha1_ (by omega) hx1 (by simpa using b3)), (by first | exact hz2_ | exact count_setI hx1 (by simpa using b3) hz2_)⟩
          omega
        ·
          refine sk (inb_normal (nx (rg (k (mv rfl s9 (k (add rfl rfl rfl rfl (by unfold I64 at *; omega) (k (asg (v := .int .i64 ((j : Int) + 1)) rfl rfl (z ?_))))))))))
          refine loopN _ ?_ ⟨(j + 1), sn2, td2, a2, c2, rfl, s4, s5, s6, s7, s8, (ieq rfl (by first | rfl | omega | (push_cast; omega))), H8, (by first | assumption | omega | simp | (simp; omega)), (by first | exact rchI_yes rt_m hat_ hs2 ha1_ (by omega) ha2_ (by assumption) | exact rchI_no rt_m hat_ hs2 ha1_ (by omega) (by assumption) | exact rchI_had rt_m hat_ hs2 ha1_ (by omega) hx1 (by simpa using b3)), (by first | exact hz2_ | exact count_setI hx1 (by simpa using b3) hz2_)⟩
          omega
      · -- hasM mn mr x0 (j : Int) is False
        refine k (gn rfl rfl rfl b2 (k (gn rfl rfl rfl b2 (k (gn rfl rfl rfl b2 (k (gn rfl rfl rfl b2 (k (gn rfl rfl rfl b2 (k (pickF rfl rfl rfl rfl b2 rfl (z (nx (cdF rfl rfl rfl (sk (inb_normal (nx (rg (k (mv rfl s9 (k (add rfl rfl rfl rfl (by unfold I64 at *; omega) (k (asg (v := .int .i64 ((j : Int) + 1)) rfl rfl (z ?_)))))))))))))))))))))))))
        refine loopN _ ?_ ⟨(j + 1), sn2, td2, a2, c2, rfl, s4, s5, s6, s7, s8, (ieq rfl (by first | rfl | omega | (push_cast; omega))), H8, (by first | assumption | omega | simp | (simp; omega)), (by first | exact rchI_yes rt_m hat_ hs2 ha1_ (by omega) ha2_ (by assumption) | exact rchI_no rt_m hat_ hs2 ha1_ (by omega) (by assumption) | exact rchI_had rt_m hat_ hs2 ha1_ (by omega) hx1 (by simpa using b3)), (by first | exact hz2_ | exact count_setI hx1 (by simpa using b3) hz2_)⟩
        omega
    ·
      have p1 := of_decide_eq_false b1
      refine ex (then_exit (loop_exit (inb_here (inb_normal ?_))))
      refine loopN _ ?_ ⟨sn2, td2, a2, c2, rfl, s4, s5, s6, s7, H7, (by exact rch_next hs2 (by omega)), (by have h_ := List.length_drop (l := td) (i := 1); omega)⟩
      have h_ := List.length_drop (l := td) (i := 1); omega
  ·
    have p0 := of_decide_eq_false b0
    refine ex (then_exit (loop_exit (inb_here (nx (sq (sq (rg (k (asg (v := .int .i64 0) rfl rfl (z (nx (bk ?_))))))))))))
    have H6 := H5.nil_ Int 3
    refine lp (fun m f w' => ∃ (j3 : Nat) (out : List Int) (a1 : Option Addr) (c1 : Nat), m = mn.toNat - j3 ∧ f 2 = .pointer (some ⟨bb0, 0, none⟩) ∧ f 5 = .slice a1 out.length c1 ∧ f 6 = .slice (some ⟨g0, 0, none⟩) mn.toNat mn.toNat ∧ f 10 = .int .i64 (j3 : Int) ∧  HI M w w' [own w.heap.size 3 (.slice a1 out.length c1) out, ownQ w.heap.size 3 (.slice a0 td.length c0) td, own w.heap.size 4 (.slice (some ⟨g0, 0, none⟩) mn.toNat mn.toNat) sn, box bb0 #[.int .i64 mn, .slice a_mr mr.length c_mr] 24, imm (.slice a_mr mr.length c_mr) mr] ∧ (j3 ≤ mn.toNat) ∧ (out = lst j3 (fun k => sn.getD k false))) _ ⟨0, ([] : List Int), none, 0, rfl, s0, s1, s2, (ieq rfl (by first | rfl | omega | simp)), H6, (by first | assumption | omega | simp | (simp; omega)), (by rfl)⟩ ?_
    rintro _ f1 w4 ⟨j3, out, a1, c1, rfl, s4, s5, s6, s7, H7, hj3_, hs4⟩
    refine sq (sq (rg (k (mv rfl s7 (k (fa fl24_0 rfl s4 (k (ldX H7 3 rfl ty3 rfl rfl (by decide) rfl (k (lss rfl rfl rfl rfl (z (nx ?_))))))))))))
    refine cd (b := decide ((j3 : Int) < mn)) rfl rfl (fun b1 => ?_) (fun b1 => ?_)
    ·
      have p1 := of_decide_eq_true b1
      refine sk (nx (sq (bk (sq (rg (k (mv rfl s6 (k (mv rfl s7 (k (iaO (H7.at_ 2 rfl) rfl rfl rfl rfl (by first | (have h_ := hs2.len; omega) | (have h_ := hs.len; omega)) un111 ty4 ?_)))))))))))
      intro g2 x0 hv0 hx0 hA0
      refine k (ldB hA0 ty4 rfl rfl (z (nx ?_)))
      refine cd (b := x0) rfl rfl (fun b2 => ?_) (fun b2 => ?_)
      ·
        refine rg (k (mv rfl s5 (k (mv rfl s7 (k (bs (xs := ([(j3 : Int)] : List Int)) (cells := #[.int .i64 (j3 : Int)]) (e := 3) H7 rfl (pbc rfl pb0) (fun _ => by kernel_rfl) ⟨[.int .i64 (j3 : Int)], [], rfl, ⟨rfl, (show I64 ((j3 : Int)) from (by unfold I64 at *; omega))⟩, rfl⟩ rfl (by unfold maxLen; omega) ?_))))))
        intro g3 w5 xt3 (H8 : HI M w w5 [own w.heap.size 3 (.slice (some ⟨g3, 0, none⟩) 1 1) ([(j3 : Int)] : List Int), own w.heap.size 3 (.slice a1 out.length c1) out, ownQ w.heap.size 3 (.slice a0 td.length c0) td, own w.heap.size 4 (.slice (some ⟨g0, 0, none⟩) mn.toNat mn.toNat) sn, box bb0 #[.int .i64 mn, .slice a_mr mr.length c_mr] 24, imm (.slice a_mr mr.length c_mr) mr])
        refine k (ap H8 1 rfl rfl rfl rfl rfl rfl (own_src (H8.at_ 0 rfl)) un42 ty3 rfl (by first | (simp only [List.length_cons, List.length_nil]; have h_ := lst_len j3 (fun k => sn.getD k false); rw [hs4]; omega) | (simp only [List.length_cons, List.length_nil]; have h_ := List.length_drop (l := td) (i := 1); omega)) (by first | (simp only [List.length_cons, List.length_nil]; have h_ := lst_len j3 (fun k => sn.getD k false); rw [hs4]; omega) | (simp only [List.length_cons, List.length_nil]; have h_ := List.length_drop (l := td) (i := 1); omega)) ?_)
        intro a2 c2 w6 (H9 : HI M w w6 [own w.heap.size 3 (.slice (some ⟨g3, 0, none⟩) 1 1) ([(j3 : Int)] : List Int), own w.heap.size 3 (.slice a2 (out ++ ([(j3 : Int)] : List Int)).length c2) (out ++ ([(j3 : Int)] : List Int)), ownQ w.heap.size 3 (.slice a0 td.length c0) td, own w.heap.size 4 (.slice (some ⟨g0, 0, none⟩) mn.toNat mn.toNat) sn, box bb0 #[.int .i64 mn, .slice a_mr mr.length c_mr] 24, imm (.slice a_mr mr.length c_mr) mr])
        refine k (asg (v := .slice a2 (out ++ ([(j3 : Int)] : List Int)).length c2) rfl rfl (z (inb_normal (nx (rg (k (mv rfl s7 (k (add rfl rfl rfl rfl (by unfold I64 at *; omega) (k (asg (v := .int .i64 ((j3 : Int) + 1)) rfl rfl (z ?_))))))))))))
        have H10 : HI M w w6 [own w.heap.size 3 (.slice a2 (out ++ ([(j3 : Int)] : List Int)).length c2) (out ++ ([(j3 : Int)] : List Int)), ownQ w.heap.size 3 (.slice a0 td.length c0) td, own w.heap.size 4 (.slice (some ⟨g0, 0, none⟩) mn.toNat mn.toNat) sn, box bb0 #[.int .i64 mn, .slice a_mr mr.length c_mr] 24, imm (.slice a_mr mr.length c_mr) mr] := H9.pickN [1, 2, 3, 4, 5] (by decide) rfl
        refine loopN _ ?_ ⟨(j3 + 1), (out ++ ([(j3 : Int)] : List Int)), a2, c2, rfl, s4, rfl, s6, (ieq rfl (by first | rfl | omega | (push_cast; omega))), H10, (by first | assumption | omega | simp | (simp; omega)), (by rw [hs4, lst_succ]; first | rw [if_pos (by rw [getD_of' hx0]; assumption)] | rw [if_neg (by rw [getD_of' hx0]; first | simpa using b2 | simpa using b3), List.append_nil])⟩
        omega
      ·
        refine sk (inb_normal (nx (rg (k (mv rfl s7 (k (add rfl rfl rfl rfl (by unfold I64 at *; omega) (k (asg (v := .int .i64 ((j3 : Int) + 1)) rfl rfl (z ?_))))))))))
        refine loopN _ ?_ ⟨(j3 + 1), out, a1, c1, rfl, s4, s5, s6, (ieq rfl (by first | rfl | omega | (push_cast; omega))), H7, (by first | assumption | omega | simp | (simp; omega)), (by rw [hs4, lst_succ]; first | rw [if_pos (by rw [getD_of' hx0]; assumption)] | rw [if_neg (by rw [getD_of' hx0]; first | simpa using b2 | simpa using b3), List.append_nil])⟩
        omega
    ·
      have p1 := of_decide_eq_false b1
      refine ex (then_exit (loop_exit (inb_here (nx (sq (rg (k (mv rfl s5 (k (asg (v := .slice a1 out.length c1) rfl rfl (z (nx (rt (r1 rfl rfl ?_))))))))))))))
      have e0 : (out : List Int) = lst mn.toNat (cl mn.toNat (relM mr) i.toNat) := by rw [hs4, show j3 = mn.toNat from by omega]; exact lst_congr fun k_ hk_ => by have h_ := rch_end (td_none p0 ▸ hs) (by omega) hk_; exact h_
      have ev_ := cg1 (fun (x_0 : List Int) => (.slice a1 x_0.length c1 : Value)) e0
      exact ⟨a1, c1, ev_, H7.below, (congrArg (fun (x_ : List Int) => OwnsG _ _ _ x_ (.slice a1 x_.length c1) _) e0).mp (H7.ownsG_out 0 rfl)⟩
/- eyewitness/eyewitnessref04.Close -/
set_option maxRecDepth 100000 in
set_option maxHeartbeats 1600000 in
theorem ref04_Close {M : Nat → Prop} {w : World} {mn : Int} {a_mr : Option Addr} {c_mr : Nat} {mr : List (List (BitVec 64))} (hM : ∀ b, M b → b < w.heap.size) (h_mn : I64 mn) (h_mr : RV M w (.slice a_mr mr.length c_mr) mr) (rt_m : rightS mn mr = true) : Calls Tryd.prog 30 #[.agg #[.int .i64 mn, .slice a_mr mr.length c_mr]] w (Ret fun v w' => ∃ (a0 : Option Addr) (c0 : Nat), v = .agg #[.int .i64 mn, .slice a0 (closeM mn mr).length c0] ∧ Ext w w' ∧ RV M w' (.slice a0 (closeM mn mr).length c0) (closeM mn mr)) := by
  refine enter 40 Tryd.func30 rfl rfl rfl fun f0 ha => ?_
  have H := HI.start (M0 := M) (w := w) hM
  have H0 := H.put (it := imm (.slice a_mr mr.length c_mr) mr) rfl (by rw [MS_nil]; exact h_mr)
  have ln_mr := rv_len h_mr
  have i0 : f0 0 = .agg #[.int .i64 mn, .slice a_mr mr.length c_mr] := ha 0 (by simp)
  have hl_ := (right_sq rt_m).1; have h4_ := (right_sq rt_m).2.2.1; have h0_ := right_pos rt_m
  refine sq (rg (k (bx H0 rfl i0 ?_)))
  intro bb0 w0 xt0 (H1 : HI M w w0 [box bb0 #[.int .i64 mn, .slice a_mr mr.length c_mr] 24, imm (.slice a_mr mr.length c_mr) mr])
  refine k (al H1 ty24 ?_)
  intro bb1 w1 xt1 (H2 : HI M w w1 [box bb1 #[.int .i64 0, .slice none 0 0] 24, box bb0 #[.int .i64 mn, .slice a_mr mr.length c_mr] 24, imm (.slice a_mr mr.length c_mr) mr])
  refine z (nx (sq (rg (k (fa fl24_0 rfl rfl (k (ldX H2 1 rfl ty3 rfl rfl (by decide) rfl (k ?_))))))))
  have cc0 := ref03_New (n := mn) (w := w1) H2.mb (by unfold I64 at *; omega)
  refine ca go26 rfl (ec rfl e0) cc0 ?_
  rintro _ w2 ⟨a0, c0, rfl, xt2, rv0⟩
  have H3 := H2.ownsG rv0
  refine k (mv (v := .tuple #[.agg #[.int .i64 (newMN mn), .slice a0 (newMR mn).length c0], .int .i64 (newME mn)]) rfl rfl (k (xt rfl rfl rfl (k (xt rfl rfl rfl (k (al H3 ty24 ?_)))))))
  intro bb2 w3 xt3 (H4 : HI M w w3 [box bb2 #[.int .i64 0, .slice none 0 0] 24, own w.heap.size 73 (.slice a0 (newMR mn).length c0) (newMR mn), box bb1 #[.int .i64 0, .slice none 0 0] 24, box bb0 #[.int .i64 mn, .slice a_mr mr.length c_mr] 24, imm (.slice a_mr mr.length c_mr) mr])
  refine k (stX H4 0 rfl ty24 rfl rfl rfl rfl rfl rfl rfl ?_)
  intro w4 (H5 : HI M w w4 [box bb2 #[.int .i64 (newMN mn), .slice a0 (newMR mn).length c0] 24, own w.heap.size 73 (.slice a0 (newMR mn).length c0) (newMR mn), box bb1 #[.int .i64 0, .slice none 0 0] 24, box bb0 #[.int .i64 mn, .slice a_mr mr.length c_mr] 24, imm (.slice a_mr mr.length c_mr) mr])
  refine k (asg (v := .int .i64 (newME mn)) rfl rfl (z (nx (sq (sq (rg (k (asg (v := .int .i64 0) rfl rfl (z (nx (bk ?_)))))))))))
  have H6 := H5.freeze 1 rfl
  have H7 := H6.put (it := imm (.slice a0 (newMR mn).length c0) (newMR mn)) rfl (H6.rv 1 rfl)
  refine lp (fun m f w' => ∃ (i : Nat) (n_ : Int) (rs : List (List (BitVec 64))) (a1 : Option Addr) (c1 : Nat), m = mn.toNat - i ∧ f 1 = .pointer (some ⟨bb0, 0, none⟩) ∧ f 2 = .pointer (some ⟨bb1, 0, none⟩) ∧ f 3 = .pointer (some ⟨bb2, 0, none⟩) ∧ f 5 = .int .i64 (i : Int) ∧  HI M w w' [imm (.slice a1 rs.length c1) rs, box bb2 #[.int .i64 n_, .slice a1 rs.length c1] 24, imm (.slice a0 (newMR mn).length c0) (newMR mn), box bb1 #[.int .i64 0, .slice none 0 0] 24, box bb0 #[.int .i64 mn, .slice a_mr mr.length c_mr] 24, imm (.slice a_mr mr.length c_mr) mr] ∧ (i ≤ mn.toNat) ∧ (n_ = mn) ∧ (rs = matP mn.toNat (rcP mn.toNat (cl mn.toNat (relM mr)) i 0))) _ ⟨0, (newMN mn), (newMR mn), a0, c0, rfl, rfl, rfl, rfl, (ieq rfl (by first | rfl | omega | simp)), H7, (by first | assumption | omega | simp | (simp; omega)), (by exact (newM_yes (right_ok rt_m)).1), (by exact rc_start rt_m _)⟩ ?_
  rintro _ f0 w5 ⟨i, n_, rs, a1, c1, rfl, s0, s1, s2, s3, H8, hi_, h1, h2⟩
  refine sq (sq (rg (k (mv rfl s3 (k (fa fl24_0 rfl s0 (k (ldX H8 4 rfl ty3 rfl rfl (by decide) rfl (k (lss rfl rfl rfl rfl (z (nx ?_))))))))))))
  refine cd (b := decide ((i : Int) < mn)) rfl rfl (fun b0 => ?_) (fun b0 => ?_)
  ·
    have p0 := of_decide_eq_true b0
    refine sk (nx (sq (bk (sq (rg (k (ldX H8 4 rfl ty24 rfl s0 (by decide) rfl (k (mv rfl s3 (k ?_))))))))))
    have cc1 := ref04_Reach (mn := mn) (mr := mr) (i := (i : Int)) (w := w5) H8.mb (by unfold I64 at *; omega) (H8.rv 5 rfl) (by unfold I64 at *; omega) (by exact rt_m) (by first | omega | (simp; omega)) (by first | omega | (simp; omega))
    refine ca go77 rfl (ec rfl (ec rfl e0)) cc1 ?_
    rintro _ w6 ⟨a2, c2, rfl, xt4, rv1⟩
    have H9 := H8.ownsG rv1
    refine k (asg (v := .slice a2 (lst mn.toNat (cl mn.toNat (relM mr) (i : Int).toNat)).length c2) rfl rfl (z (nx (sq (rg (k (asg (v := .int .i64 0) rfl rfl (z (nx (bk ?_))))))))))
    have H10 := H9.put (it := imm (.slice a1 rs.length c1) rs) rfl (H9.rv 1 rfl)
    refine lp (fun m f w' => ∃ (q : Nat) (n2_ : Int) (rs2 : List (List (BitVec 64))) (a3 : Option Addr) (c3 : Nat), m = (lst mn.toNat (cl mn.toNat (relM mr) (i : Int).toNat)).length - q ∧ f 1 = .pointer (some ⟨bb0, 0, none⟩) ∧ f 2 = .pointer (some ⟨bb1, 0, none⟩) ∧ f 3 = .pointer (some ⟨bb2, 0, none⟩) ∧ f 5 = .int .i64 (i : Int) ∧ f 6 = .slice a2 (lst mn.toNat (cl mn.toNat (relM mr) (i : Int).toNat)).length c2 ∧ f 7 = .int .i64 (q : Int) ∧  HI M w w' [imm (.slice a3 rs2.length c3) rs2, own w.heap.size 3 (.slice a2 (lst mn.toNat (cl mn.toNat (relM mr) (i : Int).toNat)).length c2) (lst mn.toNat (cl mn.toNat (relM mr) (i : Int).toNat)), imm (.slice a1 rs.length c1) rs, box bb2 #[.int .i64 n2_, .slice a3 rs2.length c3] 24, imm (.slice a0 (newMR mn).length c0) (newMR mn), box bb1 #[.int .i64 0, .slice none 0 0] 24, box bb0 #[.int .i64 mn, .slice a_mr mr.length c_mr] 24, imm (.slice a_mr mr.length c_mr) mr] ∧ (q ≤ (lst mn.toNat (cl mn.toNat (relM mr) (i : Int).toNat)).length) ∧ (n2_ = mn) ∧ (rs2 = matP mn.toNat (rcP mn.toNat (cl mn.toNat (relM mr)) i q))) _ ⟨0, n_, rs, a1, c1, rfl, s0, s1, s2, s3, rfl, (ieq rfl (by first | rfl | omega | simp)), H10, (by first | assumption | omega | simp | (simp; omega)), (by exact h1), (by exact h2)⟩ ?_
    rintro _ f1 w7 ⟨q, n2_, rs2, a3, c3, rfl, s4, s5, s6, s7, s8, s9, H11, hq_, g1, g2⟩
    refine sq (sq (rg (k (mv rfl s9 (k (mv rfl s8 (k (lnS rfl rfl un42 (k (lss rfl rfl rfl rfl (z (nx ?_))))))))))))
    refine cd (b := decide ((q : Int) < ((lst mn.toNat (cl mn.toNat (relM mr) (i : Int).toNat)).length : Int))) rfl rfl (fun b1 => ?_) (fun b1 => ?_)
    ·
      have p1 := of_decide_eq_true b1
      refine sk (nx (sq (bk ?_)))
      obtain ⟨x0, hx0⟩ : ∃ x, (lst mn.toNat (cl mn.toNat (relM mr) (i : Int).toNat))[(q : Int).toNat]? = some x := ⟨_, List.getElem?_eq_getElem (by first | omega | (simp; omega))⟩
      refine dr3 8 [fun (v : Value) (w' : World) => v = .agg #[.int .i64 n2_, .slice a3 rs2.length c3], fun (v : Value) (w' : World) => v = .int .i64 (i : Int), fun (v : Value) (w' : World) => v = .slice a2 (lst mn.toNat (cl mn.toNat (relM mr) (i : Int).toNat)).length c2, fun (v : Value) (w' : World) => v = .int .i64 (q : Int), fun (v : Value) (w' : World) => ∃ (g0 : Nat), v = .pointer (some ⟨g0, (q : Int).toNat * 1, none⟩) ∧ (.slice a2 (lst mn.toNat (cl mn.toNat (relM mr) (i : Int).toNat)).length c2 : Value).ownBlock = some g0 ∧ AtW (MS M [imm (.slice a3 rs2.length c3) rs2, own w.heap.size 3 (.slice a2 (lst mn.toNat (cl mn.toNat (relM mr) (i : Int).toNat)).length c2) (lst mn.toNat (cl mn.toNat (relM mr) (i : Int).toNat)), imm (.slice a1 rs.length c1) rs, box bb2 #[.int .i64 n2_, .slice a3 rs2.length c3] 24, imm (.slice a0 (newMR mn).length c0) (newMR mn), box bb1 #[.int .i64 0, .slice none 0 0] 24, box bb0 #[.int .i64 mn, .slice a_mr mr.length c_mr] 24, imm (.slice a_mr mr.length c_mr) mr]) w' ⟨g0, (q : Int).toNat * 1, none⟩ x0, fun (v : Value) (w' : World) => v = .int .i64 x0 ∧ I64 (x0), fun (v : Value) (w' : World) => ∃ (a4 : Option Addr) (c4 : Nat), v = .tuple #[.agg #[.int .i64 (setMN n2_ (i : Int) x0), .slice a4 (setMR n2_ rs2 (i : Int) x0).length c4], .int .i64 (setME n2_ (i : Int) x0)] ∧ RV (MS M [imm (.slice a3 rs2.length c3) rs2, own w.heap.size 3 (.slice a2 (lst mn.toNat (cl mn.toNat (relM mr) (i : Int).toNat)).length c2) (lst mn.toNat (cl mn.toNat (relM mr) (i : Int).toNat)), imm (.slice a1 rs.length c1) rs, box bb2 #[.int .i64 n2_, .slice a3 rs2.length c3] 24, imm (.slice a0 (newMR mn).length c0) (newMR mn), box bb1 #[.int .i64 0, .slice none 0 0] 24, box bb0 #[.int .i64 mn, .slice a_mr mr.length c_mr] 24, imm (.slice a_mr mr.length c_mr) mr]) w' (.slice a4 (setMR n2_ rs2 (i : Int) x0).length c4) (setMR n2_ rs2 (i : Int) x0), fun (v : Value) (w' : World) => ∃ (a4 : Option Addr) (c4 : Nat), v = .tuple #[.agg #[.int .i64 (setMN n2_ (i : Int) x0), .slice a4 (setMR n2_ rs2 (i : Int) x0).length c4], .int .i64 (setME n2_ (i : Int) x0)] ∧ RV (MS M [imm (.slice a3 rs2.length c3) rs2, own w.heap.size 3 (.slice a2 (lst mn.toNat (cl mn.toNat (relM mr) (i : Int).toNat)).length c2) (lst mn.toNat (cl mn.toNat (relM mr) (i : Int).toNat)), imm (.slice a1 rs.length c1) rs, box bb2 #[.int .i64 n2_, .slice a3 rs2.length c3] 24, imm (.slice a0 (newMR mn).length c0) (newMR mn), box bb1 #[.int .i64 0, .slice none 0 0] 24, box bb0 #[.int .i64 mn, .slice a_mr mr.length c_mr] 24, imm (.slice a_mr mr.length c_mr) mr]) w' (.slice a4 (setMR n2_ rs2 (i : Int) x0).length c4) (setMR n2_ rs2 (i : Int) x0)] rfl (by kernel_rfl) ?_ ?_
      ·
        refine ⟨fun _ => ⟨fun f2 w9 hf0 xt6 hp0 => ?_, fun _ _ _ _ h => h⟩, ?_⟩
        ·
          have H14 := H11.ext xt6
          refine ldX H14 3 rfl ty24 rfl ((hf0 3 rfl).trans s6) (by decide) rfl ?_
          exact ⟨_, rfl, Ext.refl _, rfl⟩
        refine ⟨fun _ => ⟨fun f3 w10 hf1 xt7 hp1 => ?_, fun _ _ _ _ h => h⟩, ?_⟩
        ·
          have H15 := H11.ext xt7
          refine mv rfl ((hf1 5 rfl).trans s7) ?_
          exact ⟨_, rfl, Ext.refl _, rfl⟩
        refine ⟨fun _ => ⟨fun f4 w11 hf2 xt8 hp2 => ?_, fun _ _ _ _ h => h⟩, ?_⟩
        ·
          have H16 := H11.ext xt8
          refine mv rfl ((hf2 6 rfl).trans s8) ?_
          exact ⟨_, rfl, Ext.refl _, rfl⟩
        refine ⟨fun _ => ⟨fun f5 w12 hf3 xt9 hp3 => ?_, fun _ _ _ _ h => h⟩, ?_⟩
        ·
          have H17 := H11.ext xt9
          refine mv rfl ((hf3 7 rfl).trans s9) ?_
          exact ⟨_, rfl, Ext.refl _, rfl⟩
        refine ⟨fun _ => ⟨fun f6 w13 hf4 xt10 hp4 => ?_, by rintro _ _ _ x_ ⟨g0, e_, hv0, hA0⟩; exact ⟨g0, e_, hv0, hA0.ext x_⟩⟩, ?_⟩
        ·
          have H18 := H11.ext xt10
          have s10 : f6 32 = .slice a2 (lst mn.toNat (cl mn.toNat (relM mr) (i : Int).toNat)).length c2 := hp4 2 rfl rfl
          have s11 : f6 33 = .int .i64 (q : Int) := hp4 3 rfl rfl
          refine iaO (H18.at_ 1 rfl) rfl rfl s10 s11 (by first | omega | (simp; omega)) un42 ty3 ?_
          intro g1 x1 hv1 hx1 hA1
          obtain rfl : x0 = x1 := Option.some.inj (hx0.symm.trans hx1)
          exact ⟨_, rfl, Ext.refl _, ⟨g1, rfl, hv1, hA1⟩⟩
        refine ⟨fun _ => ⟨fun f7 w14 hf5 xt11 hp5 => ?_, fun _ _ _ _ h => h⟩, ?_⟩
        ·
          have H19 := H11.ext xt11
          obtain ⟨g2, s12, hv2, hA2⟩ : ∃ (g2 : Nat), f7 34 = .pointer (some ⟨g2, (q : Int).toNat * 1, none⟩) ∧ (.slice a2 (lst mn.toNat (cl mn.toNat (relM mr) (i : Int).toNat)).length c2 : Value).ownBlock = some g2 ∧ AtW (MS M [imm (.slice a3 rs2.length c3) rs2, own w.heap.size 3 (.slice a2 (lst mn.toNat (cl mn.toNat (relM mr) (i : Int).toNat)).length c2) (lst mn.toNat (cl mn.toNat (relM mr) (i : Int).toNat)), imm (.slice a1 rs.length c1) rs, box bb2 #[.int .i64 n2_, .slice a3 rs2.length c3] 24, imm (.slice a0 (newMR mn).length c0) (newMR mn), box bb1 #[.int .i64 0, .slice none 0 0] 24, box bb0 #[.int .i64 mn, .slice a_mr mr.length c_mr] 24, imm (.slice a_mr mr.length c_mr) mr]) w14 ⟨g2, (q : Int).toNat * 1, none⟩ x0 := hp5 4 rfl rfl
          refine ldI hA2 ty3 rfl s12 ?_
          intro rv5
          exact ⟨_, rfl, Ext.refl _, ⟨rfl, rv5⟩⟩
        refine ⟨fun _ => ⟨fun f8 w15 hf6 xt12 hp6 => ?_, by rintro _ _ _ x_ ⟨a4, c4, e_, rv4⟩; exact ⟨a4, c4, e_, rv4.lift (Up.ext x_)⟩⟩, ?_⟩
        ·
          have H20 := H11.ext xt12
          have s13 : f8 30 = .agg #[.int .i64 n2_, .slice a3 rs2.length c3] := hp6 0 rfl rfl
          have s14 : f8 31 = .int .i64 (i : Int) := hp6 1 rfl rfl
          obtain ⟨s15, rv6⟩ : f8 35 = .int .i64 x0 ∧ I64 (x0) := hp6 5 rfl rfl
          have cc3 := ref03_Set (mn := n2_) (mr := rs2) (i := (i : Int)) (j := x0) (w := w15) H20.mb (by first | (rw [g1]; exact h_mn) | (rw [h1]; exact h_mn)) (H20.rv 0 rfl) (by unfold I64 at *; omega) (by unfold I64 at *; omega) (by rw [g1, g2]; exact (rc_sq rt_m _).1) (by rw [g2]; exact (rc_sq rt_m _).2.1) (by rw [g1]; exact h4_)
          refine ca go28 rfl (ec s13 (ec s14 (ec s15 e0))) cc3 ?_
          rintro _ w16 ⟨a5, c5, rfl, xt13, rv7⟩
          have rv8 := OwnsG.rv rv7 H20.mb
          have H21 := H20.ext xt13
          have H22 := H21.put (it := imm (.slice a5 (setMR n2_ rs2 (i : Int) x0).length c5) (setMR n2_ rs2 (i : Int) x0)) rfl rv8
          exact ⟨_, rfl, xt13, ⟨a5, c5, rfl, rv8⟩⟩
        refine ⟨fun _ => ⟨fun f9 w17 hf7 xt14 hp7 => ?_, by rintro _ _ _ x_ ⟨a4, c4, e_, rv4⟩; exact ⟨a4, c4, e_, rv4.lift (Up.ext x_)⟩⟩, ?_⟩
        ·
          have H23 := H11.ext xt14
          obtain ⟨a6, c6, s16, rv9⟩ : ∃ (a6 : Option Addr) (c6 : Nat), f9 36 = .tuple #[.agg #[.int .i64 (setMN n2_ (i : Int) x0), .slice a6 (setMR n2_ rs2 (i : Int) x0).length c6], .int .i64 (setME n2_ (i : Int) x0)] ∧ RV (MS M [imm (.slice a3 rs2.length c3) rs2, own w.heap.size 3 (.slice a2 (lst mn.toNat (cl mn.toNat (relM mr) (i : Int).toNat)).length c2) (lst mn.toNat (cl mn.toNat (relM mr) (i : Int).toNat)), imm (.slice a1 rs.length c1) rs, box bb2 #[.int .i64 n2_, .slice a3 rs2.length c3] 24, imm (.slice a0 (newMR mn).length c0) (newMR mn), box bb1 #[.int .i64 0, .slice none 0 0] 24, box bb0 #[.int .i64 mn, .slice a_mr mr.length c_mr] 24, imm (.slice a_mr mr.length c_mr) mr]) w17 (.slice a6 (setMR n2_ rs2 (i : Int) x0).length c6) (setMR n2_ rs2 (i : Int) x0) := hp7 6 rfl rfl
          have H24 := H23.put (it := imm (.slice a6 (setMR n2_ rs2 (i : Int) x0).length c6) (setMR n2_ rs2 (i : Int) x0)) rfl rv9
          refine mv rfl s16 ?_
          exact ⟨_, rfl, Ext.refl _, ⟨a6, c6, rfl, rv9⟩⟩
        exact DSteps.rest rfl _
      · intro f10 w18 hf8 xt15 hp8
        have H25 := H11.ext xt15
        have s17 : f10 1 = .pointer (some ⟨bb0, 0, none⟩) := (hf8 1 rfl).trans s4
        have s18 : f10 2 = .pointer (some ⟨bb1, 0, none⟩) := (hf8 2 rfl).trans s5
        have s19 : f10 3 = .pointer (some ⟨bb2, 0, none⟩) := (hf8 3 rfl).trans s6
        have s20 : f10 5 = .int .i64 (i : Int) := (hf8 5 rfl).trans s7
        have s21 : f10 6 = .slice a2 (lst mn.toNat (cl mn.toNat (relM mr) (i : Int).toNat)).length c2 := (hf8 6 rfl).trans s8
        have s22 : f10 7 = .int .i64 (q : Int) := (hf8 7 rfl).trans s9
        obtain ⟨a7, c7, s23, rv10⟩ : ∃ (a7 : Option Addr) (c7 : Nat), f10 29 = .tuple #[.agg #[.int .i64 (setMN n2_ (i : Int) x0), .slice a7 (setMR n2_ rs2 (i : Int) x0).length c7], .int .i64 (setME n2_ (i : Int) x0)] ∧ RV (MS M [imm (.slice a3 rs2.length c3) rs2, own w.heap.size 3 (.slice a2 (lst mn.toNat (cl mn.toNat (relM mr) (i : Int).toNat)).length c2) (lst mn.toNat (cl mn.toNat (relM mr) (i : Int).toNat)), imm (.slice a1 rs.length c1) rs, box bb2 #[.int .i64 n2_, .slice a3 rs2.length c3] 24, imm (.slice a0 (newMR mn).length c0) (newMR mn), box bb1 #[.int .i64 0, .slice none 0 0] 24, box bb0 #[.int .i64 mn, .slice a_mr mr.length c_mr] 24, imm (.slice a_mr mr.length c_mr) mr]) w18 (.slice a7 (setMR n2_ rs2 (i : Int) x0).length c7) (setMR n2_ rs2 (i : Int) x0) := hp8 7 rfl
        have H26 := H25.put (it := imm (.slice a7 (setMR n2_ rs2 (i : Int) x0).length c7) (setMR n2_ rs2 (i : Int) x0)) rfl rv10
        show TA _ _ _ _ 3 [true, true, true, true, true, true, true, true, false, false, false] _ _
        refine ta [8, 9] (by kernel_rfl) rfl ⟨⟨_, rfl, ?_⟩, ⟨_, rfl, ?_⟩, trivial⟩
        ·
          refine xt rfl s23 rfl ?_
          refine ta [9, 10] (by kernel_rfl) rfl ⟨⟨_, rfl, ?_⟩, ⟨_, rfl, ?_⟩, trivial⟩
          ·
            refine xt rfl s23 rfl ?_
            refine ta [10] (by kernel_rfl) rfl ⟨⟨_, rfl, ?_⟩, trivial⟩
            ·
              refine stX H26 4 rfl ty24 rfl rfl s19 rfl rfl rfl rfl ?_
              intro w19 (H27 : HI M w w19 [imm (.slice a7 (setMR n2_ rs2 (i : Int) x0).length c7) (setMR n2_ rs2 (i : Int) x0), imm (.slice a3 rs2.length c3) rs2, own w.heap.size 3 (.slice a2 (lst mn.toNat (cl mn.toNat (relM mr) (i : Int).toNat)).length c2) (lst mn.toNat (cl mn.toNat (relM mr) (i : Int).toNat)), imm (.slice a1 rs.length c1) rs, box bb2 #[.int .i64 (setMN n2_ (i : Int) x0), .slice a7 (setMR n2_ rs2 (i : Int) x0).length c7] 24, imm (.slice a0 (newMR mn).length c0) (newMR mn), box bb1 #[.int .i64 0, .slice none 0 0] 24, box bb0 #[.int .i64 mn, .slice a_mr mr.length c_mr] 24, imm (.slice a_mr mr.length c_mr) mr])
              refine ta0 (by kernel_rfl) (inb_normal (nx (rg (k (mv rfl s22 (k (add rfl rfl rfl rfl (by have h_ := lst_len mn.toNat (cl mn.toNat (relM mr) (i : Int).toNat); unfold I64; omega) (k (asg (v := .int .i64 ((q : Int) + 1)) rfl rfl (z ?_))))))))))
              have H28 := H27.put (it := imm (.slice a7 (setMR n2_ rs2 (i : Int) x0).length c7) (setMR n2_ rs2 (i : Int) x0)) rfl (H27.rv 0 rfl)
              have H29 : HI M w w19 [imm (.slice a7 (setMR n2_ rs2 (i : Int) x0).length c7) (setMR n2_ rs2 (i : Int) x0), own w.heap.size 3 (.slice a2 (lst mn.toNat (cl mn.toNat (relM mr) (i : Int).toNat)).length c2) (lst mn.toNat (cl mn.toNat (relM mr) (i : Int).toNat)), imm (.slice a1 rs.length c1) rs, box bb2 #[.int .i64 (setMN n2_ (i : Int) x0), .slice a7 (setMR n2_ rs2 (i : Int) x0).length c7] 24, imm (.slice a0 (newMR mn).length c0) (newMR mn), box bb1 #[.int .i64 0, .slice none 0 0] 24, box bb0 #[.int .i64 mn, .slice a_mr mr.length c_mr] 24, imm (.slice a_mr mr.length c_mr) mr] := H28.pickN [0, 3, 4, 5, 6, 7, 8, 9] (by decide) rfl
              refine loopN _ ?_ ⟨(q + 1), (setMN n2_ (i : Int) x0), (setMR n2_ rs2 (i : Int) x0), a7, c7, rfl, s17, s18, s19, s20, s21, (ieq rfl (by first | rfl | omega | (push_cast; omega))), H29, (by first | assumption | omega | simp | (simp; omega)), (by rw [g1]; exact (rc_set rt_m g2 hx0 (by omega)).1), (by rw [g1]; exact (rc_set rt_m g2 hx0 (by omega)).2.1)⟩
              omega
          ·
            refine stX H26 4 rfl ty24 rfl rfl s19 rfl rfl rfl rfl ?_
            intro w19 (H27 : HI M w w19 [imm (.slice a7 (setMR n2_ rs2 (i : Int) x0).length c7) (setMR n2_ rs2 (i : Int) x0), imm (.slice a3 rs2.length c3) rs2, own w.heap.size 3 (.slice a2 (lst mn.toNat (cl mn.toNat (relM mr) (i : Int).toNat)).length c2) (lst mn.toNat (cl mn.toNat (relM mr) (i : Int).toNat)), imm (.slice a1 rs.length c1) rs, box bb2 #[.int .i64 (setMN n2_ (i : Int) x0), .slice a7 (setMR n2_ rs2 (i : Int) x0).length c7] 24, imm (.slice a0 (newMR mn).length c0) (newMR mn), box bb1 #[.int .i64 0, .slice none 0 0] 24, box bb0 #[.int .i64 mn, .slice a_mr mr.length c_mr] 24, imm (.slice a_mr mr.length c_mr) mr])
            refine ta [9] (by kernel_rfl) rfl ⟨⟨_, rfl, ?_⟩, trivial⟩
            ·
              refine xt rfl s23 rfl (ta0 (by kernel_rfl) (inb_normal (nx (rg (k (mv rfl s22 (k (add rfl rfl rfl rfl (by have h_ := lst_len mn.toNat (cl mn.toNat (relM mr) (i : Int).toNat); unfold I64; omega) (k (asg (v := .int .i64 ((q : Int) + 1)) rfl rfl (z ?_)))))))))))
              have H28 := H27.put (it := imm (.slice a7 (setMR n2_ rs2 (i : Int) x0).length c7) (setMR n2_ rs2 (i : Int) x0)) rfl (H27.rv 0 rfl)
              have H29 : HI M w w19 [imm (.slice a7 (setMR n2_ rs2 (i : Int) x0).length c7) (setMR n2_ rs2 (i : Int) x0), own w.heap.size 3 (.slice a2 (lst mn.toNat (cl mn.toNat (relM mr) (i : Int).toNat)).length c2) (lst mn.toNat (cl mn.toNat (relM mr) (i : Int).toNat)), imm (.slice a1 rs.length c1) rs, box bb2 #[.int .i64 (setMN n2_ (i : Int) x0), .slice a7 (setMR n2_ rs2 (i : Int) x0).length c7] 24, imm (.slice a0 (newMR mn).length c0) (newMR mn), box bb1 #[.int .i64 0, .slice none 0 0] 24, box bb0 #[.int .i64 mn, .slice a_mr mr.length c_mr] 24, imm (.slice a_mr mr.length c_mr) mr] := H28.pickN [0, 3, 4, 5, 6, 7, 8, 9] (by decide) rfl
              refine loopN _ ?_ ⟨(q + 1), (setMN n2_ (i : Int) x0), (setMR n2_ rs2 (i : Int) x0), a7, c7, rfl, s17, s18, s19, s20, s21, (ieq rfl (by first | rfl | omega | (push_cast; omega))), H29, (by first | assumption | omega | simp | (simp; omega)), (by rw [g1]; exact (rc_set rt_m g2 hx0 (by omega)).1), (by rw [g1]; exact (rc_set rt_m g2 hx0 (by omega)).2.1)⟩
              omega
        ·
          refine xt rfl s23 rfl ?_
          refine ta [8] (by kernel_rfl) rfl ⟨⟨_, rfl, ?_⟩, trivial⟩
          ·
            refine xt rfl s23 rfl ?_
            refine ta [10] (by kernel_rfl) rfl ⟨⟨_, rfl, ?_⟩, trivial⟩
            ·
              refine stX H26 4 rfl ty24 rfl rfl s19 rfl rfl rfl rfl ?_
              intro w19 (H27 : HI M w w19 [imm (.slice a7 (setMR n2_ rs2 (i : Int) x0).length c7) (setMR n2_ rs2 (i : Int) x0), imm (.slice a3 rs2.length c3) rs2, own w.heap.size 3 (.slice a2 (lst mn.toNat (cl mn.toNat (relM mr) (i : Int).toNat)).length c2) (lst mn.toNat (cl mn.toNat (relM mr) (i : Int).toNat)), imm (.slice a1 rs.length c1) rs, box bb2 #[.int .i64 (setMN n2_ (i : Int) x0), .slice a7 (setMR n2_ rs2 (i : Int) x0).length c7] 24, imm (.slice a0 (newMR mn).length c0) (newMR mn), box bb1 #[.int .i64 0, .slice none 0 0] 24, box bb0 #[.int .i64 mn, .slice a_mr mr.length c_mr] 24, imm (.slice a_mr mr.length c_mr) mr])
              refine ta0 (by kernel_rfl) (inb_normal (nx (rg (k (mv rfl s22 (k (add rfl rfl rfl rfl (by have h_ := lst_len mn.toNat (cl mn.toNat (relM mr) (i : Int).toNat); unfold I64; omega) (k (asg (v := .int .i64 ((q : Int) + 1)) rfl rfl (z ?_))))))))))
              have H28 := H27.put (it := imm (.slice a7 (setMR n2_ rs2 (i : Int) x0).length c7) (setMR n2_ rs2 (i : Int) x0)) rfl (H27.rv 0 rfl)
              have H29 : HI M w w19 [imm (.slice a7 (setMR n2_ rs2 (i : Int) x0).length c7) (setMR n2_ rs2 (i : Int) x0), own w.heap.size 3 (.slice a2 (lst mn.toNat (cl mn.toNat (relM mr) (i : Int).toNat)).length c2) (lst mn.toNat (cl mn.toNat (relM mr) (i : Int).toNat)), imm (.slice a1 rs.length c1) rs, box bb2 #[.int .i64 (setMN n2_ (i : Int) x0), .slice a7 (setMR n2_ rs2 (i : Int) x0).length c7] 24, imm (.slice a0 (newMR mn).length c0) (newMR mn), box bb1 #[.int .i64 0, .slice none 0 0] 24, box bb0 #[.int .i64 mn, .slice a_mr mr.length c_mr] 24, imm (.slice a_mr mr.length c_mr) mr] := H28.pickN [0, 3, 4, 5, 6, 7, 8, 9] (by decide) rfl
              refine loopN _ ?_ ⟨(q + 1), (setMN n2_ (i : Int) x0), (setMR n2_ rs2 (i : Int) x0), a7, c7, rfl, s17, s18, s19, s20, s21, (ieq rfl (by first | rfl | omega | (push_cast; omega))), H29, (by first | assumption | omega | simp | (simp; omega)), (by rw [g1]; exact (rc_set rt_m g2 hx0 (by omega)).1), (by rw [g1]; exact (rc_set rt_m g2 hx0 (by omega)).2.1)⟩
              omega
    ·
      have p1 := of_decide_eq_false b1
      refine ex (then_exit (loop_exit (inb_here (inb_normal (nx (rg (k (mv rfl s7 (k (add rfl rfl rfl rfl (by unfold I64 at *; omega) (k (asg (v := .int .i64 ((i : Int) + 1)) rfl rfl (z ?_)))))))))))))
      have H12 := H11.put (it := imm (.slice a3 rs2.length c3) rs2) rfl (H11.rv 0 rfl)
      have H13 : HI M w w7 [imm (.slice a3 rs2.length c3) rs2, box bb2 #[.int .i64 n2_, .slice a3 rs2.length c3] 24, imm (.slice a0 (newMR mn).length c0) (newMR mn), box bb1 #[.int .i64 0, .slice none 0 0] 24, box bb0 #[.int .i64 mn, .slice a_mr mr.length c_mr] 24, imm (.slice a_mr mr.length c_mr) mr] := H12.pickN [0, 4, 5, 6, 7, 8] (by decide) rfl
      refine loopN _ ?_ ⟨(i + 1), n2_, rs2, a3, c3, rfl, s4, s5, s6, (ieq rfl (by first | rfl | omega | (push_cast; omega))), H13, (by first | assumption | omega | simp | (simp; omega)), (by exact g1), (by rw [g2]; exact rc_row (show (lst mn.toNat (cl mn.toNat (relM mr) (i : Int).toNat)).length ≤ q from by omega))⟩
      omega
  ·
    have p0 := of_decide_eq_false b0
    refine ex (then_exit (loop_exit (inb_here (nx (sq (rg (k (ldX H8 1 rfl ty24 rfl s2 (by decide) rfl (k (stX H8 3 rfl ty24 rfl rfl s1 rfl rfl rfl rfl ?_))))))))))
    intro w6 (H9 : HI M w w6 [imm (.slice a1 rs.length c1) rs, box bb2 #[.int .i64 n_, .slice a1 rs.length c1] 24, imm (.slice a0 (newMR mn).length c0) (newMR mn), box bb1 #[.int .i64 n_, .slice a1 rs.length c1] 24, box bb0 #[.int .i64 mn, .slice a_mr mr.length c_mr] 24, imm (.slice a_mr mr.length c_mr) mr])
    refine z (nx (rt (rc1 H9 3 rfl ty24 rfl rfl s1 rfl (by decide) ?_)))
    have e0 : (n_ : Int) = mn := by exact h1
    have e1 : (rs : List (List (BitVec 64))) = closeM mn mr := by rw [h2]; exact rc_fin rfl (by omega)
    have ev_ := cg2 (fun (x_0 : Int) (x_1 : List (List (BitVec 64))) => (.agg #[.int .i64 x_0, .slice a1 x_1.length c1] : Value)) e0 e1
    exact ⟨a1, c1, ev_, H9.below, (congrArg (fun (x_ : List (List (BitVec 64))) => RV _ _ (.slice a1 x_.length c1) x_) e1).mp (H9.gives_out 0 rfl)⟩
/- eyewitness/eyewitnessref04.Add -/
set_option maxRecDepth 100000 in
set_option maxHeartbeats 1600000 in
theorem ref04_Add {M : Nat → Prop} {w : World} {mn : Int} {a_mr : Option Addr} {c_mr : Nat} {mr : List (List (BitVec 64))} {i : Int} {j : Int} (hM : ∀ b, M b → b < w.heap.size) (h_mn : I64 mn) (h_mr : RV M w (.slice a_mr mr.length c_mr) mr) (h_i : I64 i) (h_j : I64 j) (rt_m : rightS mn mr = true) : Calls Tryd.prog 33 #[.agg #[.int .i64 mn, .slice a_mr mr.length c_mr], .int .i64 i, .int .i64 j] w (Ret fun v w' => ∃ (a0 : Option Addr) (c0 : Nat), v = .tuple #[.agg #[.int .i64 (setMN mn i j), .slice a0 (raddMR mn mr i j).length c0], .int .i64 (setME mn i j)] ∧ Ext w w' ∧ RV M w' (.slice a0 (raddMR mn mr i j).length c0) (raddMR mn mr i j)) := by
  refine enter 23 Tryd.func33 rfl rfl rfl fun f0 ha => ?_
  have H := HI.start (M0 := M) (w := w) hM
  have H0 := H.put (it := imm (.slice a_mr mr.length c_mr) mr) rfl (by rw [MS_nil]; exact h_mr)
  have ln_mr := rv_len h_mr
  have i0 : f0 0 = .agg #[.int .i64 mn, .slice a_mr mr.length c_mr] := ha 0 (by simp)
  have i1 : f0 1 = .int .i64 i := ha 1 (by simp)
  have i2 : f0 2 = .int .i64 j := ha 2 (by simp)
  have hl_ := (right_sq rt_m).1; have h4_ := (right_sq rt_m).2.2.1; have h0_ := right_pos rt_m
  refine sq (rg (k (bx H0 rfl i0 ?_)))
  intro bb0 w0 xt0 (H1 : HI M w w0 [box bb0 #[.int .i64 mn, .slice a_mr mr.length c_mr] 24, imm (.slice a_mr mr.length c_mr) mr])
  refine k (al H1 ty24 ?_)
  intro bb1 w1 xt1 (H2 : HI M w w1 [box bb1 #[.int .i64 0, .slice none 0 0] 24, box bb0 #[.int .i64 mn, .slice a_mr mr.length c_mr] 24, imm (.slice a_mr mr.length c_mr) mr])
  refine k (asg (v := .int .i64 0) rfl rfl (z (nx (sq (rg (k (ldX H2 1 rfl ty24 rfl rfl (by decide) rfl (k (mv rfl i1 (k (mv rfl i2 (k ?_))))))))))))
  have cc0 := ref03_Set (mn := mn) (mr := mr) (i := i) (j := j) (w := w1) H2.mb (by unfold I64 at *; omega) (H2.rv 2 rfl) (by unfold I64 at *; omega) (by unfold I64 at *; omega) (by exact (right_sq rt_m).1) (by exact (right_sq rt_m).2.1) (by exact (right_sq rt_m).2.2.1)
  refine ca go28 rfl (ec rfl (ec rfl (ec rfl e0))) cc0 ?_
  rintro _ w2 ⟨a0, c0, rfl, xt2, rv0⟩
  have H3 := H2.ownsG rv0
  refine k (mv (v := .tuple #[.agg #[.int .i64 (setMN mn i j), .slice a0 (setMR mn mr i j).length c0], .int .i64 (setME mn i j)]) rfl rfl (k (xt rfl rfl rfl (k (xt rfl rfl rfl (k (al H3 ty24 ?_)))))))
  intro bb2 w3 xt3 (H4 : HI M w w3 [box bb2 #[.int .i64 0, .slice none 0 0] 24, own w.heap.size 73 (.slice a0 (setMR mn mr i j).length c0) (setMR mn mr i j), box bb1 #[.int .i64 0, .slice none 0 0] 24, box bb0 #[.int .i64 mn, .slice a_mr mr.length c_mr] 24, imm (.slice a_mr mr.length c_mr) mr])
  refine k (stX H4 0 rfl ty24 rfl rfl rfl rfl rfl rfl rfl ?_)
  intro w4 (H5 : HI M w w4 [box bb2 #[.int .i64 (setMN mn i j), .slice a0 (setMR mn mr i j).length c0] 24, own w.heap.size 73 (.slice a0 (setMR mn mr i j).length c0) (setMR mn mr i j), box bb1 #[.int .i64 0, .slice none 0 0] 24, box bb0 #[.int .i64 mn, .slice a_mr mr.length c_mr] 24, imm (.slice a_mr mr.length c_mr) mr])
  refine k (asg (v := .int .i64 (setME mn i j)) rfl rfl (z (nx (sq (sq (rg (k (mv (v := .int .i64 (setME mn i j)) rfl rfl (k (neq rfl rfl rfl rfl (z (nx ?_))))))))))))
  refine cd (b := !decide ((setME mn i j) = 0)) rfl rfl (fun b0 => ?_) (fun b0 => ?_)
  ·
    have p0 := of_decide_eq_false (nott b0)
    refine sq ?_
    have hq : inM mn [i, j] = false := by cases hq0 : inM mn [i, j] with
        | false => rfl
        | true => exact absurd (set_yes (rs := mr) hq0).2.2 (by simpa using b0)
    refine rg (k (bd (v := .agg #[.int .i64 0, .slice none 0 0]) rfl pb0 (fun _ => by kernel_rfl) (k (mv (v := .int .i64 (setME mn i j)) rfl rfl (k (stX H5 2 rfl ty24 rfl rfl rfl rfl rfl rfl rfl ?_))))))
    intro w5 (H6 : HI M w w5 [box bb2 #[.int .i64 (setMN mn i j), .slice a0 (setMR mn mr i j).length c0] 24, own w.heap.size 73 (.slice a0 (setMR mn mr i j).length c0) (setMR mn mr i j), box bb1 #[.int .i64 0, .slice none 0 0] 24, box bb0 #[.int .i64 mn, .slice a_mr mr.length c_mr] 24, imm (.slice a_mr mr.length c_mr) mr])
    refine k (asg (v := .int .i64 (setME mn i j)) rfl rfl (z (nx (rt (then_ret (rc2 H6 2 rfl ty24 rfl rfl rfl rfl rfl (by decide) ?_))))))
    have e0 : (0 : Int) = setMN mn i j := by first | exact (set_no (rs := mr) hq).1.symm | rfl
    have e1 : ([] : List (List (BitVec 64))) = raddMR mn mr i j := by first | exact (radd_no hq).symm | exact radd_yes hq
    have ev_ := cg2 (fun (x_0 : Int) (x_1 : List (List (BitVec 64))) => (.tuple #[.agg #[.int .i64 x_0, .slice none x_1.length 0], .int .i64 (setME mn i j)] : Value)) e0 e1
    exact ⟨none, 0, ev_, H6.below, (congrArg (fun (x_ : List (List (BitVec 64))) => RV _ _ (.slice none x_.length 0) x_) e1).mp (rv_nil _ _)⟩
  ·
    have p0 := of_decide_eq_true (notf b0)
    refine sk (nx (sq ?_))
    have hq : inM mn [i, j] = true := by cases hq0 : inM mn [i, j] with
        | true => rfl
        | false => exact absurd (set_no (rs := mr) hq0).2.2 (by have h_ : setME mn i j = 0 := (by simpa using b0); omega)
    refine rg (k (ldX H5 0 rfl ty24 rfl rfl (by decide) rfl (k ?_)))
    have H6 := H5.freeze 1 rfl
    have cc1 := ref04_Close (mn := (setMN mn i j)) (mr := (setMR mn mr i j)) (w := w4) H6.mb (by unfold setMN; unfold I64 at *; split <;> omega) (H6.rv 1 rfl) (by exact set_right rt_m hq)
    refine ca go30 rfl (ec rfl e0) cc1 ?_
    rintro _ w5 ⟨a1, c1, rfl, xt4, rv1⟩
    have H7 := H6.ext xt4
    have H8 := H7.put (it := imm (.slice a1 (closeM (setMN mn i j) (setMR mn mr i j)).length c1) (closeM (setMN mn i j) (setMR mn mr i j))) rfl rv1
    refine k (stX H8 3 rfl ty24 rfl rfl rfl rfl rfl rfl rfl ?_)
    intro w6 (H9 : HI M w w6 [imm (.slice a1 (closeM (setMN mn i j) (setMR mn mr i j)).length c1) (closeM (setMN mn i j) (setMR mn mr i j)), box bb2 #[.int .i64 (setMN mn i j), .slice a0 (setMR mn mr i j).length c0] 24, imm (.slice a0 (setMR mn mr i j).length c0) (setMR mn mr i j), box bb1 #[.int .i64 (setMN mn i j), .slice a1 (closeM (setMN mn i j) (setMR mn mr i j)).length c1] 24, box bb0 #[.int .i64 mn, .slice a_mr mr.length c_mr] 24, imm (.slice a_mr mr.length c_mr) mr])
    refine k (asg (v := .int .i64 0) rfl rfl (z (nx (rt (rc2 H9 3 rfl ty24 rfl rfl rfl rfl rfl (by decide) ?_)))))
    have e0 : ((setMN mn i j) : Int) = setMN mn i j := by first | exact (set_no (rs := mr) hq).1.symm | rfl
    have e1 : (closeM (setMN mn i j) (setMR mn mr i j) : List (List (BitVec 64))) = raddMR mn mr i j := by first | exact (radd_no hq).symm | exact radd_yes hq
    have e2 : (0 : Int) = setME mn i j := by first | rfl | exact (set_yes (rs := mr) hq).2.2.symm
    have ev_ := cg3 (fun (x_0 : Int) (x_1 : List (List (BitVec 64))) (x_2 : Int) => (.tuple #[.agg #[.int .i64 x_0, .slice a1 x_1.length c1], .int .i64 x_2] : Value)) e0 e1 e2
    exact ⟨a1, c1, ev_, H9.below, (congrArg (fun (x_ : List (List (BitVec 64))) => RV _ _ (.slice a1 x_.length c1) x_) e1).mp (H9.gives_out 0 rfl)⟩
/- eyewitness/eyewitnessref04.Within -/
set_option maxRecDepth 100000 in
set_option maxHeartbeats 1600000 in
theorem ref04_Within {M : Nat → Prop} {w : World} {mn : Int} {a_mr : Option Addr} {c_mr : Nat} {mr : List (List (BitVec 64))} {a_l : Option Addr} {c_l : Nat} {l : List Int} (hM : ∀ b, M b → b < w.heap.size) (h_mn : I64 mn) (h_mr : RV M w (.slice a_mr mr.length c_mr) mr) (h_l : RV M w (.slice a_l l.length c_l) l) (rt_m : rightS mn mr = true) : Calls Tryd.prog 35 #[.agg #[.int .i64 mn, .slice a_mr mr.length c_mr], .slice a_l l.length c_l] w (Ret fun v w' => ∃ (a0 : Option Addr) (c0 : Nat), v = .agg #[.int .i64 mn, .slice a0 (withinM mn mr l).length c0] ∧ Ext w w' ∧ RV M w' (.slice a0 (withinM mn mr l).length c0) (withinM mn mr l)) := by
  refine enter 55 Tryd.func35 rfl rfl rfl fun f0 ha => ?_
  have H := HI.start (M0 := M) (w := w) hM
  have H0 := H.put (it := imm (.slice a_mr mr.length c_mr) mr) rfl (by rw [MS_nil]; exact h_mr)
  have H1 := H0.put (it := imm (.slice a_l l.length c_l) l) rfl (by rw [MS_cons_none rfl, MS_nil]; exact h_l)
  have ln_mr := rv_len h_mr
  have ln_l := rv_len h_l
  have i0 : f0 0 = .agg #[.int .i64 mn, .slice a_mr mr.length c_mr] := ha 0 (by simp)
  have i1 : f0 1 = .slice a_l l.length c_l := ha 1 (by simp)
  have hl_ := (right_sq rt_m).1; have h4_ := (right_sq rt_m).2.2.1; have h0_ := right_pos rt_m
  refine sq (rg (k (bx H1 rfl i0 ?_)))
  intro bb0 w0 xt0 (H2 : HI M w w0 [box bb0 #[.int .i64 mn, .slice a_mr mr.length c_mr] 24, imm (.slice a_l l.length c_l) l, imm (.slice a_mr mr.length c_mr) mr])
  refine k (al H2 ty24 ?_)
  intro bb1 w1 xt1 (H3 : HI M w w1 [box bb1 #[.int .i64 0, .slice none 0 0] 24, box bb0 #[.int .i64 mn, .slice a_mr mr.length c_mr] 24, imm (.slice a_l l.length c_l) l, imm (.slice a_mr mr.length c_mr) mr])
  refine z (nx (sq (rg (k (fa fl24_0 rfl rfl (k (ldX H3 1 rfl ty3 rfl rfl (by decide) rfl (k ?_))))))))
  have cc0 := ref03_New (n := mn) (w := w1) H3.mb (by unfold I64 at *; omega)
  refine ca go26 rfl (ec rfl e0) cc0 ?_
  rintro _ w2 ⟨a0, c0, rfl, xt2, rv0⟩
  have H4 := H3.ownsG rv0
  refine k (mv (v := .tuple #[.agg #[.int .i64 (newMN mn), .slice a0 (newMR mn).length c0], .int .i64 (newME mn)]) rfl rfl (k (xt rfl rfl rfl (k (xt rfl rfl rfl (k (al H4 ty24 ?_)))))))
  intro bb2 w3 xt3 (H5 : HI M w w3 [box bb2 #[.int .i64 0, .slice none 0 0] 24, own w.heap.size 73 (.slice a0 (newMR mn).length c0) (newMR mn), box bb1 #[.int .i64 0, .slice none 0 0] 24, box bb0 #[.int .i64 mn, .slice a_mr mr.length c_mr] 24, imm (.slice a_l l.length c_l) l, imm (.slice a_mr mr.length c_mr) mr])
  refine k (stX H5 0 rfl ty24 rfl rfl rfl rfl rfl rfl rfl ?_)
  intro w4 (H6 : HI M w w4 [box bb2 #[.int .i64 (newMN mn), .slice a0 (newMR mn).length c0] 24, own w.heap.size 73 (.slice a0 (newMR mn).length c0) (newMR mn), box bb1 #[.int .i64 0, .slice none 0 0] 24, box bb0 #[.int .i64 mn, .slice a_mr mr.length c_mr] 24, imm (.slice a_l l.length c_l) l, imm (.slice a_mr mr.length c_mr) mr])
  refine k (asg (v := .int .i64 (newME mn)) rfl rfl (z (nx (sq (rg (k (ldX H6 3 rfl ty24 rfl rfl (by decide) rfl (k ?_))))))))
  have cc1 := ref03_Pairs (mn := mn) (mr := mr) (w := w4) H6.mb (by unfold I64 at *; omega) (H6.rv 5 rfl) (by exact (right_sq rt_m).1) (by exact (right_sq rt_m).2.1) (by exact (right_sq rt_m).2.2.1) (by exact (right_sq rt_m).2.2.2.2)
  refine ca go76 rfl (ec rfl e0) cc1 ?_
  rintro _ w5 ⟨a1, c1, rfl, xt4, rv1⟩
  have H7 := H6.ext xt4
  have H8 := H7.put (it := imm (.slice a1 (pairsM mn mr).length c1) (pairsM mn mr)) rfl rv1
  refine k (asg (v := .slice a1 (pairsM mn mr).length c1) rfl rfl (z (nx (sq (sq (rg (k (asg (v := .int .i64 0) rfl rfl (z (nx (bk ?_)))))))))))
  have H9 := H8.freeze 2 rfl
  have H10 := H9.put (it := imm (.slice a0 (newMR mn).length c0) (newMR mn)) rfl (H9.rv 2 rfl)
  refine lp (fun m f w' => ∃ (j : Nat) (n_ : Int) (rs : List (List (BitVec 64))) (a2 : Option Addr) (c2 : Nat), m = (pairsM mn mr).length - j ∧ f 1 = .slice a_l l.length c_l ∧ f 4 = .pointer (some ⟨bb1, 0, none⟩) ∧ f 5 = .pointer (some ⟨bb2, 0, none⟩) ∧ f 7 = .slice a1 (pairsM mn mr).length c1 ∧ f 8 = .int .i64 (j : Int) ∧  HI M w w' [imm (.slice a2 rs.length c2) rs, imm (.slice a1 (pairsM mn mr).length c1) (pairsM mn mr), box bb2 #[.int .i64 n_, .slice a2 rs.length c2] 24, imm (.slice a0 (newMR mn).length c0) (newMR mn), box bb1 #[.int .i64 0, .slice none 0 0] 24, box bb0 #[.int .i64 mn, .slice a_mr mr.length c_mr] 24, imm (.slice a_l l.length c_l) l, imm (.slice a_mr mr.length c_mr) mr] ∧ (j ≤ (pairsM mn mr).length) ∧ (n_ = mn) ∧ (rs = foldM mn (((pairsM mn mr).take j).filter (inL l)))) _ ⟨0, (newMN mn), (newMR mn), a0, c0, rfl, i1, rfl, rfl, rfl, (ieq rfl (by first | rfl | omega | simp)), H10, (by first | assumption | omega | simp | (simp; omega)), (by exact (newM_yes (right_ok rt_m)).1), (by rw [(newM_yes (right_ok rt_m)).2.1]; rfl)⟩ ?_
  rintro _ f0 w6 ⟨j, n_, rs, a2, c2, rfl, s0, s1, s2, s3, s4, H11, hk, h1, h2⟩
  refine sq (sq (rg (k (mv rfl s4 (k (mv rfl s3 (k (lnS rfl rfl un31 (k (lss rfl rfl rfl rfl (z (nx ?_))))))))))))
  refine cd (b := decide ((j : Int) < ((pairsM mn mr).length : Int))) rfl rfl (fun b0 => ?_) (fun b0 => ?_)
  ·
    have p0 := of_decide_eq_true b0
    refine sk (nx (sq (bk (sq (rg (k (mv rfl s0 (k (mv rfl s3 (k (mv rfl s4 (k (ia (H11.rv 1 rfl) rfl rfl rfl rfl (by first | omega | (simp; omega)) un31 ty76 ?_)))))))))))))
    intro ad0 x0 hx0 hA0
    refine k (iaA rfl rfl rfl rfl (by omega) un76 ty3 (k (ldI (hA0).fst.w ty3 rfl rfl ?_)))
    intro rv2
    refine k ?_
    have cc2 := ref04_has (l := l) (x := x0.1) (w := w6) H11.mb (H11.rv 6 rfl) (by unfold I64 at *; omega)
    refine ca go79 rfl (ec rfl (ec rfl e0)) cc2 ?_
    rintro _ w7 ⟨rfl, xt5⟩
    have H12 := H11.ext xt5
    refine k (mv (v := .bool (decide (x0.1 ∈ l))) rfl rfl ?_)
    rcases Bool.eq_false_or_eq_true (decide (x0.1 ∈ l)) with b1 | b1
    · -- decide (x0.1 ∈ l) is True
      have p1 := of_decide_eq_true b1
      refine k (gy rfl rfl rfl b1 (mv rfl s0 (k (gy rfl rfl rfl b1 (mv rfl s3 (k (gy rfl rfl rfl b1 (mv rfl s4 (k (gy rfl rfl rfl b1 (ia (H12.rv 1 rfl) rfl rfl rfl rfl (by first | omega | (simp; omega)) un31 ty76 ?_)))))))))))
      intro ad1 x1 hx1 hA1
      refine k (gy rfl rfl rfl b1 (iaA rfl rfl rfl rfl (by omega) un76 ty3 (k (gy rfl rfl rfl b1 (ldI (hA1).snd.w ty3 rfl rfl ?_)))))
      intro rv3
      refine k (gy rfl rfl rfl b1 ?_)
      have cc3 := ref04_has (l := l) (x := x1.2) (w := w7) H12.mb (H12.rv 6 rfl) (by unfold I64 at *; omega)
      refine ca go79 rfl (ec rfl (ec rfl e0)) cc3 ?_
      rintro _ w8 ⟨rfl, xt6⟩
      have H13 := H12.ext xt6
      refine k (pickT rfl rfl rfl rfl b1 rfl (z (nx ?_)))
      refine cd (b := decide (x1.2 ∈ l)) rfl rfl (fun b2 => ?_) (fun b2 => ?_)
      ·
        have p2 := of_decide_eq_true b2
        obtain ⟨g1_, g2_, g3_, g4_⟩ := right_pair rt_m hx0
        have hin_ : inM mn [x0.1, x0.2] = true := inM_two.2 (by omega)
        obtain ⟨x2, hx2⟩ : ∃ x, (pairsM mn mr)[(j : Int).toNat]? = some x := ⟨_, List.getElem?_eq_getElem (by first | omega | (simp; omega))⟩
        refine dr3 13 [fun (v : Value) (w' : World) => v = .agg #[.int .i64 n_, .slice a2 rs.length c2], fun (v : Value) (w' : World) => v = .slice a1 (pairsM mn mr).length c1, fun (v : Value) (w' : World) => v = .int .i64 (j : Int), fun (v : Value) (w' : World) => ∃ (ad2 : Addr), v = .pointer (some ad2) ∧ At (MS M [imm (.slice a2 rs.length c2) rs, imm (.slice a1 (pairsM mn mr).length c1) (pairsM mn mr), box bb2 #[.int .i64 n_, .slice a2 rs.length c2] 24, imm (.slice a0 (newMR mn).length c0) (newMR mn), box bb1 #[.int .i64 0, .slice none 0 0] 24, box bb0 #[.int .i64 mn, .slice a_mr mr.length c_mr] 24, imm (.slice a_l l.length c_l) l, imm (.slice a_mr mr.length c_mr) mr]) w' ad2 x2, fun (v : Value) (w' : World) => ∃ (ad2 : Addr), v = .pointer (some ((ad2).add 0)) ∧ At (MS M [imm (.slice a2 rs.length c2) rs, imm (.slice a1 (pairsM mn mr).length c1) (pairsM mn mr), box bb2 #[.int .i64 n_, .slice a2 rs.length c2] 24, imm (.slice a0 (newMR mn).length c0) (newMR mn), box bb1 #[.int .i64 0, .slice none 0 0] 24, box bb0 #[.int .i64 mn, .slice a_mr mr.length c_mr] 24, imm (.slice a_l l.length c_l) l, imm (.slice a_mr mr.length c_mr) mr]) w' ad2 x2, fun (v : Value) (w' : World) => v = .int .i64 x2.1 ∧ I64 (x2.1), fun (v : Value) (w' : World) => v = .slice a1 (pairsM mn mr).length c1, fun (v : Value) (w' : World) => v = .int .i64 (j : Int), fun (v : Value) (w' : World) => ∃ (ad3 : Addr), v = .pointer (some ad3) ∧ At (MS M [imm (.slice a2 rs.length c2) rs, imm (.slice a1 (pairsM mn mr).length c1) (pairsM mn mr), box bb2 #[.int .i64 n_, .slice a2 rs.length c2] 24, imm (.slice a0 (newMR mn).length c0) (newMR mn), box bb1 #[.int .i64 0, .slice none 0 0] 24, box bb0 #[.int .i64 mn, .slice a_mr mr.length c_mr] 24, imm (.slice a_l l.length c_l) l, imm (.slice a_mr mr.length c_mr) mr]) w' ad3 x2, fun (v : Value) (w' : World) => ∃ (ad3 : Addr), v = .pointer (some ((ad3).add 1)) ∧ At (MS M [imm (.slice a2 rs.length c2) rs, imm (.slice a1 (pairsM mn mr).length c1) (pairsM mn mr), box bb2 #[.int .i64 n_, .slice a2 rs.length c2] 24, imm (.slice a0 (newMR mn).length c0) (newMR mn), box bb1 #[.int .i64 0, .slice none 0 0] 24, box bb0 #[.int .i64 mn, .slice a_mr mr.length c_mr] 24, imm (.slice a_l l.length c_l) l, imm (.slice a_mr mr.length c_mr) mr]) w' ad3 x2, fun (v : Value) (w' : World) => v = .int .i64 x2.2 ∧ I64 (x2.2), fun (v : Value) (w' : World) => ∃ (a3 : Option Addr) (c3 : Nat), v = .tuple #[.agg #[.int .i64 (setMN n_ x2.1 x2.2), .slice a3 (setMR n_ rs x2.1 x2.2).length c3], .int .i64 (setME n_ x2.1 x2.2)] ∧ RV (MS M [imm (.slice a2 rs.length c2) rs, imm (.slice a1 (pairsM mn mr).length c1) (pairsM mn mr), box bb2 #[.int .i64 n_, .slice a2 rs.length c2] 24, imm (.slice a0 (newMR mn).length c0) (newMR mn), box bb1 #[.int .i64 0, .slice none 0 0] 24, box bb0 #[.int .i64 mn, .slice a_mr mr.length c_mr] 24, imm (.slice a_l l.length c_l) l, imm (.slice a_mr mr.length c_mr) mr]) w' (.slice a3 (setMR n_ rs x2.1 x2.2).length c3) (setMR n_ rs x2.1 x2.2), fun (v : Value) (w' : World) => ∃ (a3 : Option Addr) (c3 : Nat), v = .tuple #[.agg #[.int .i64 (setMN n_ x2.1 x2.2), .slice a3 (setMR n_ rs x2.1 x2.2).length c3], .int .i64 (setME n_ x2.1 x2.2)] ∧ RV (MS M [imm (.slice a2 rs.length c2) rs, imm (.slice a1 (pairsM mn mr).length c1) (pairsM mn mr), box bb2 #[.int .i64 n_, .slice a2 rs.length c2] 24, imm (.slice a0 (newMR mn).length c0) (newMR mn), box bb1 #[.int .i64 0, .slice none 0 0] 24, box bb0 #[.int .i64 mn, .slice a_mr mr.length c_mr] 24, imm (.slice a_l l.length c_l) l, imm (.slice a_mr mr.length c_mr) mr]) w' (.slice a3 (setMR n_ rs x2.1 x2.2).length c3) (setMR n_ rs x2.1 x2.2)] rfl (by kernel_rfl) ?_ ?_
        ·
          refine ⟨fun _ => ⟨fun f1 w10 hf0 xt8 hp0 => ?_, fun _ _ _ _ h => h⟩, ?_⟩
          ·
            have H16 := H13.ext xt8
            refine ldX H16 2 rfl ty24 rfl ((hf0 5 rfl).trans s2) (by decide) rfl ?_
            exact ⟨_, rfl, Ext.refl _, rfl⟩
          refine ⟨fun _ => ⟨fun f2 w11 hf1 xt9 hp1 => ?_, fun _ _ _ _ h => h⟩, ?_⟩
          ·
            have H17 := H13.ext xt9
            refine mv rfl ((hf1 7 rfl).trans s3) ?_
            exact ⟨_, rfl, Ext.refl _, rfl⟩
          refine ⟨fun _ => ⟨fun f3 w12 hf2 xt10 hp2 => ?_, fun _ _ _ _ h => h⟩, ?_⟩
          ·
            have H18 := H13.ext xt10
            refine mv rfl ((hf2 8 rfl).trans s4) ?_
            exact ⟨_, rfl, Ext.refl _, rfl⟩
          refine ⟨fun _ => ⟨fun f4 w13 hf3 xt11 hp3 => ?_, by rintro _ _ _ x_ ⟨ad2, e_, hA2⟩; exact ⟨ad2, e_, hA2.lift (Up.ext x_)⟩⟩, ?_⟩
          ·
            have H19 := H13.ext xt11
            have s5 : f4 41 = .slice a1 (pairsM mn mr).length c1 := hp3 1 rfl rfl
            have s6 : f4 42 = .int .i64 (j : Int) := hp3 2 rfl rfl
            refine ia (H19.rv 1 rfl) rfl rfl s5 s6 (by first | omega | (simp; omega)) un31 ty76 ?_
            intro ad4 x4 hx4 hA4
            obtain rfl : x2 = x4 := Option.some.inj (hx2.symm.trans hx4)
            exact ⟨_, rfl, Ext.refl _, ⟨ad4, rfl, hA4⟩⟩
          refine ⟨fun _ => ⟨fun f5 w14 hf4 xt12 hp4 => ?_, by rintro _ _ _ x_ ⟨ad2, e_, hA2⟩; exact ⟨ad2, e_, hA2.lift (Up.ext x_)⟩⟩, ?_⟩
          ·
            have H20 := H13.ext xt12
            obtain ⟨ad5, s7, hA5⟩ : ∃ (ad5 : Addr), f5 43 = .pointer (some ad5) ∧ At (MS M [imm (.slice a2 rs.length c2) rs, imm (.slice a1 (pairsM mn mr).length c1) (pairsM mn mr), box bb2 #[.int .i64 n_, .slice a2 rs.length c2] 24, imm (.slice a0 (newMR mn).length c0) (newMR mn), box bb1 #[.int .i64 0, .slice none 0 0] 24, box bb0 #[.int .i64 mn, .slice a_mr mr.length c_mr] 24, imm (.slice a_l l.length c_l) l, imm (.slice a_mr mr.length c_mr) mr]) w14 ad5 x2 := hp4 3 rfl rfl
            have H21 := H20.put (it := atI ad5 x2) rfl hA5
            refine iaA rfl rfl s7 rfl (by omega) un76 ty3 ?_
            exact ⟨_, rfl, Ext.refl _, ⟨ad5, rfl, (by assumption)⟩⟩
          refine ⟨fun _ => ⟨fun f6 w15 hf5 xt13 hp5 => ?_, fun _ _ _ _ h => h⟩, ?_⟩
          ·
            have H22 := H13.ext xt13
            obtain ⟨ad6, s8, hA6⟩ : ∃ (ad6 : Addr), f6 44 = .pointer (some ((ad6).add 0)) ∧ At (MS M [imm (.slice a2 rs.length c2) rs, imm (.slice a1 (pairsM mn mr).length c1) (pairsM mn mr), box bb2 #[.int .i64 n_, .slice a2 rs.length c2] 24, imm (.slice a0 (newMR mn).length c0) (newMR mn), box bb1 #[.int .i64 0, .slice none 0 0] 24, box bb0 #[.int .i64 mn, .slice a_mr mr.length c_mr] 24, imm (.slice a_l l.length c_l) l, imm (.slice a_mr mr.length c_mr) mr]) w15 ad6 x2 := hp5 4 rfl rfl
            have H23 := H22.put (it := atI ad6 x2) rfl hA6
            refine ldI ((H23.atv 0 rfl)).fst.w ty3 rfl s8 ?_
            intro rv8
            exact ⟨_, rfl, Ext.refl _, ⟨rfl, rv8⟩⟩
          refine ⟨fun _ => ⟨fun f7 w16 hf6 xt14 hp6 => ?_, fun _ _ _ _ h => h⟩, ?_⟩
          ·
            have H24 := H13.ext xt14
            refine mv rfl ((hf6 7 rfl).trans s3) ?_
            exact ⟨_, rfl, Ext.refl _, rfl⟩
          refine ⟨fun _ => ⟨fun f8 w17 hf7 xt15 hp7 => ?_, fun _ _ _ _ h => h⟩, ?_⟩
          ·
            have H25 := H13.ext xt15
            refine mv rfl ((hf7 8 rfl).trans s4) ?_
            exact ⟨_, rfl, Ext.refl _, rfl⟩
          refine ⟨fun _ => ⟨fun f9 w18 hf8 xt16 hp8 => ?_, by rintro _ _ _ x_ ⟨ad3, e_, hA3⟩; exact ⟨ad3, e_, hA3.lift (Up.ext x_)⟩⟩, ?_⟩
          ·
            have H26 := H13.ext xt16
            have s9 : f9 46 = .slice a1 (pairsM mn mr).length c1 := hp8 6 rfl rfl
            have s10 : f9 47 = .int .i64 (j : Int) := hp8 7 rfl rfl
            refine ia (H26.rv 1 rfl) rfl rfl s9 s10 (by first | omega | (simp; omega)) un31 ty76 ?_
            intro ad7 x5 hx5 hA7
            obtain rfl : x2 = x5 := Option.some.inj (hx2.symm.trans hx5)
            exact ⟨_, rfl, Ext.refl _, ⟨ad7, rfl, hA7⟩⟩
          refine ⟨fun _ => ⟨fun f10 w19 hf9 xt17 hp9 => ?_, by rintro _ _ _ x_ ⟨ad3, e_, hA3⟩; exact ⟨ad3, e_, hA3.lift (Up.ext x_)⟩⟩, ?_⟩
          ·
            have H27 := H13.ext xt17
            obtain ⟨ad8, s11, hA8⟩ : ∃ (ad8 : Addr), f10 48 = .pointer (some ad8) ∧ At (MS M [imm (.slice a2 rs.length c2) rs, imm (.slice a1 (pairsM mn mr).length c1) (pairsM mn mr), box bb2 #[.int .i64 n_, .slice a2 rs.length c2] 24, imm (.slice a0 (newMR mn).length c0) (newMR mn), box bb1 #[.int .i64 0, .slice none 0 0] 24, box bb0 #[.int .i64 mn, .slice a_mr mr.length c_mr] 24, imm (.slice a_l l.length c_l) l, imm (.slice a_mr mr.length c_mr) mr]) w19 ad8 x2 := hp9 8 rfl rfl
            have H28 := H27.put (it := atI ad8 x2) rfl hA8
            refine iaA rfl rfl s11 rfl (by omega) un76 ty3 ?_
            exact ⟨_, rfl, Ext.refl _, ⟨ad8, rfl, (by assumption)⟩⟩
          refine ⟨fun _ => ⟨fun f11 w20 hf10 xt18 hp10 => ?_, fun _ _ _ _ h => h⟩, ?_⟩
          ·
            have H29 := H13.ext xt18
            obtain ⟨ad9, s12, hA9⟩ : ∃ (ad9 : Addr), f11 49 = .pointer (some ((ad9).add 1)) ∧ At (MS M [imm (.slice a2 rs.length c2) rs, imm (.slice a1 (pairsM mn mr).length c1) (pairsM mn mr), box bb2 #[.int .i64 n_, .slice a2 rs.length c2] 24, imm (.slice a0 (newMR mn).length c0) (newMR mn), box bb1 #[.int .i64 0, .slice none 0 0] 24, box bb0 #[.int .i64 mn, .slice a_mr mr.length c_mr] 24, imm (.slice a_l l.length c_l) l, imm (.slice a_mr mr.length c_mr) mr]) w20 ad9 x2 := hp10 9 rfl rfl
            have H30 := H29.put (it := atI ad9 x2) rfl hA9
            refine ldI ((H30.atv 0 rfl)).snd.w ty3 rfl s12 ?_
            intro rv9
            exact ⟨_, rfl, Ext.refl _, ⟨rfl, rv9⟩⟩
          refine ⟨fun _ => ⟨fun f12 w21 hf11 xt19 hp11 => ?_, by rintro _ _ _ x_ ⟨a3, c3, e_, rv7⟩; exact ⟨a3, c3, e_, rv7.lift (Up.ext x_)⟩⟩, ?_⟩
          ·
            have H31 := H13.ext xt19
            have s13 : f12 40 = .agg #[.int .i64 n_, .slice a2 rs.length c2] := hp11 0 rfl rfl
            obtain ⟨s14, rv10⟩ : f12 45 = .int .i64 x2.1 ∧ I64 (x2.1) := hp11 5 rfl rfl
            obtain ⟨s15, rv11⟩ : f12 50 = .int .i64 x2.2 ∧ I64 (x2.2) := hp11 10 rfl rfl
            have cc5 := ref03_Set (mn := n_) (mr := rs) (i := x2.1) (j := x2.2) (w := w21) H31.mb (by rw [h1]; exact h_mn) (H31.rv 0 rfl) (by unfold I64 at *; omega) (by unfold I64 at *; omega) (by rw [h1, h2]; exact (fold_sq rt_m _).1) (by rw [h2]; exact (fold_sq rt_m _).2) (by rw [h1]; exact (right_sq rt_m).2.2.1)
            refine ca go28 rfl (ec s13 (ec s14 (ec s15 e0))) cc5 ?_
            rintro _ w22 ⟨a4, c4, rfl, xt20, rv12⟩
            have rv13 := OwnsG.rv rv12 H31.mb
            have H32 := H31.ext xt20
            have H33 := H32.put (it := imm (.slice a4 (setMR n_ rs x2.1 x2.2).length c4) (setMR n_ rs x2.1 x2.2)) rfl rv13
            exact ⟨_, rfl, xt20, ⟨a4, c4, rfl, rv13⟩⟩
          refine ⟨fun _ => ⟨fun f13 w23 hf12 xt21 hp12 => ?_, by rintro _ _ _ x_ ⟨a3, c3, e_, rv7⟩; exact ⟨a3, c3, e_, rv7.lift (Up.ext x_)⟩⟩, ?_⟩
          ·
            have H34 := H13.ext xt21
            obtain ⟨a5, c5, s16, rv14⟩ : ∃ (a5 : Option Addr) (c5 : Nat), f13 51 = .tuple #[.agg #[.int .i64 (setMN n_ x2.1 x2.2), .slice a5 (setMR n_ rs x2.1 x2.2).length c5], .int .i64 (setME n_ x2.1 x2.2)] ∧ RV (MS M [imm (.slice a2 rs.length c2) rs, imm (.slice a1 (pairsM mn mr).length c1) (pairsM mn mr), box bb2 #[.int .i64 n_, .slice a2 rs.length c2] 24, imm (.slice a0 (newMR mn).length c0) (newMR mn), box bb1 #[.int .i64 0, .slice none 0 0] 24, box bb0 #[.int .i64 mn, .slice a_mr mr.length c_mr] 24, imm (.slice a_l l.length c_l) l, imm (.slice a_mr mr.length c_mr) mr]) w23 (.slice a5 (setMR n_ rs x2.1 x2.2).length c5) (setMR n_ rs x2.1 x2.2) := hp12 11 rfl rfl
            have H35 := H34.put (it := imm (.slice a5 (setMR n_ rs x2.1 x2.2).length c5) (setMR n_ rs x2.1 x2.2)) rfl rv14
            refine mv rfl s16 ?_
            exact ⟨_, rfl, Ext.refl _, ⟨a5, c5, rfl, rv14⟩⟩
          exact DSteps.rest rfl _
        · intro f14 w24 hf13 xt22 hp13
          have H36 := H13.ext xt22
          have s17 : f14 1 = .slice a_l l.length c_l := (hf13 1 rfl).trans s0
          have s18 : f14 4 = .pointer (some ⟨bb1, 0, none⟩) := (hf13 4 rfl).trans s1
          have s19 : f14 5 = .pointer (some ⟨bb2, 0, none⟩) := (hf13 5 rfl).trans s2
          have s20 : f14 7 = .slice a1 (pairsM mn mr).length c1 := (hf13 7 rfl).trans s3
          have s21 : f14 8 = .int .i64 (j : Int) := (hf13 8 rfl).trans s4
          obtain ⟨a6, c6, s22, rv15⟩ : ∃ (a6 : Option Addr) (c6 : Nat), f14 39 = .tuple #[.agg #[.int .i64 (setMN n_ x2.1 x2.2), .slice a6 (setMR n_ rs x2.1 x2.2).length c6], .int .i64 (setME n_ x2.1 x2.2)] ∧ RV (MS M [imm (.slice a2 rs.length c2) rs, imm (.slice a1 (pairsM mn mr).length c1) (pairsM mn mr), box bb2 #[.int .i64 n_, .slice a2 rs.length c2] 24, imm (.slice a0 (newMR mn).length c0) (newMR mn), box bb1 #[.int .i64 0, .slice none 0 0] 24, box bb0 #[.int .i64 mn, .slice a_mr mr.length c_mr] 24, imm (.slice a_l l.length c_l) l, imm (.slice a_mr mr.length c_mr) mr]) w24 (.slice a6 (setMR n_ rs x2.1 x2.2).length c6) (setMR n_ rs x2.1 x2.2) := hp13 12 rfl
          have H37 := H36.put (it := imm (.slice a6 (setMR n_ rs x2.1 x2.2).length c6) (setMR n_ rs x2.1 x2.2)) rfl rv15
          show TA _ _ _ _ 3 [true, true, true, true, true, true, true, true, true, true, true, true, true, false, false, false] _ _
          refine ta [13, 14] (by kernel_rfl) rfl ⟨⟨_, rfl, ?_⟩, ⟨_, rfl, ?_⟩, trivial⟩
          ·
            refine xt rfl s22 rfl ?_
            refine ta [14, 15] (by kernel_rfl) rfl ⟨⟨_, rfl, ?_⟩, ⟨_, rfl, ?_⟩, trivial⟩
            ·
              refine xt rfl s22 rfl ?_
              refine ta [15] (by kernel_rfl) rfl ⟨⟨_, rfl, ?_⟩, trivial⟩
              ·
                refine stX H37 3 rfl ty24 rfl rfl s19 rfl rfl rfl rfl ?_
                intro w25 (H38 : HI M w w25 [imm (.slice a6 (setMR n_ rs x2.1 x2.2).length c6) (setMR n_ rs x2.1 x2.2), imm (.slice a2 rs.length c2) rs, imm (.slice a1 (pairsM mn mr).length c1) (pairsM mn mr), box bb2 #[.int .i64 (setMN n_ x2.1 x2.2), .slice a6 (setMR n_ rs x2.1 x2.2).length c6] 24, imm (.slice a0 (newMR mn).length c0) (newMR mn), box bb1 #[.int .i64 0, .slice none 0 0] 24, box bb0 #[.int .i64 mn, .slice a_mr mr.length c_mr] 24, imm (.slice a_l l.length c_l) l, imm (.slice a_mr mr.length c_mr) mr])
                refine ta0 (by kernel_rfl) (inb_normal (nx (rg (k (mv rfl s21 (k (add rfl rfl rfl rfl (by have h_ := right_pairs rt_m; unfold I64; omega) (k (asg (v := .int .i64 ((j : Int) + 1)) rfl rfl (z ?_))))))))))
                have H39 := H38.put (it := imm (.slice a6 (setMR n_ rs x2.1 x2.2).length c6) (setMR n_ rs x2.1 x2.2)) rfl (H38.rv 0 rfl)
                have H40 : HI M w w25 [imm (.slice a6 (setMR n_ rs x2.1 x2.2).length c6) (setMR n_ rs x2.1 x2.2), imm (.slice a1 (pairsM mn mr).length c1) (pairsM mn mr), box bb2 #[.int .i64 (setMN n_ x2.1 x2.2), .slice a6 (setMR n_ rs x2.1 x2.2).length c6] 24, imm (.slice a0 (newMR mn).length c0) (newMR mn), box bb1 #[.int .i64 0, .slice none 0 0] 24, box bb0 #[.int .i64 mn, .slice a_mr mr.length c_mr] 24, imm (.slice a_l l.length c_l) l, imm (.slice a_mr mr.length c_mr) mr] := H39.pickN [0, 3, 4, 5, 6, 7, 8, 9] (by decide) rfl
                refine loopN _ ?_ ⟨(j + 1), (setMN n_ x2.1 x2.2), (setMR n_ rs x2.1 x2.2), a6, c6, rfl, s17, s18, s19, s20, (ieq rfl (by first | rfl | omega | (push_cast; omega))), H40, (by first | assumption | omega | simp | (simp; omega)), (by (try (have e_ := at_is hx1 hx0; subst e_)); (try (have e_ := at_is hx2 hx0; subst e_)); (try (have e_ := at_is hx3 hx0; subst e_)); (try (have e_ := at_is hx4 hx0; subst e_)); (try (have e_ := at_is hx5 hx0; subst e_)); (try (have e_ := at_is hx6 hx0; subst e_)); first | exact h1 | (rw [h1]; exact (set_yes (rs := mr) hin_).1)), (by (try (have e_ := at_is hx1 hx0; subst e_)); (try (have e_ := at_is hx2 hx0; subst e_)); (try (have e_ := at_is hx3 hx0; subst e_)); (try (have e_ := at_is hx4 hx0; subst e_)); (try (have e_ := at_is hx5 hx0; subst e_)); (try (have e_ := at_is hx6 hx0; subst e_)); rw [fold_take hx0]; first | (rw [if_pos (by unfold inL; simp_all), ← h2, h1]; exact (set_yes hin_).2.1) | (rw [if_neg (by unfold inL; simp_all)]; exact h2))⟩
                omega
            ·
              refine stX H37 3 rfl ty24 rfl rfl s19 rfl rfl rfl rfl ?_
              intro w25 (H38 : HI M w w25 [imm (.slice a6 (setMR n_ rs x2.1 x2.2).length c6) (setMR n_ rs x2.1 x2.2), imm (.slice a2 rs.length c2) rs, imm (.slice a1 (pairsM mn mr).length c1) (pairsM mn mr), box bb2 #[.int .i64 (setMN n_ x2.1 x2.2), .slice a6 (setMR n_ rs x2.1 x2.2).length c6] 24, imm (.slice a0 (newMR mn).length c0) (newMR mn), box bb1 #[.int .i64 0, .slice none 0 0] 24, box bb0 #[.int .i64 mn, .slice a_mr mr.length c_mr] 24, imm (.slice a_l l.length c_l) l, imm (.slice a_mr mr.length c_mr) mr])
              refine ta [14] (by kernel_rfl) rfl ⟨⟨_, rfl, ?_⟩, trivial⟩
              ·
                refine xt rfl s22 rfl (ta0 (by kernel_rfl) (inb_normal (nx (rg (k (mv rfl s21 (k (add rfl rfl rfl rfl (by have h_ := right_pairs rt_m; unfold I64; omega) (k (asg (v := .int .i64 ((j : Int) + 1)) rfl rfl (z ?_)))))))))))
                have H39 := H38.put (it := imm (.slice a6 (setMR n_ rs x2.1 x2.2).length c6) (setMR n_ rs x2.1 x2.2)) rfl (H38.rv 0 rfl)
                have H40 : HI M w w25 [imm (.slice a6 (setMR n_ rs x2.1 x2.2).length c6) (setMR n_ rs x2.1 x2.2), imm (.slice a1 (pairsM mn mr).length c1) (pairsM mn mr), box bb2 #[.int .i64 (setMN n_ x2.1 x2.2), .slice a6 (setMR n_ rs x2.1 x2.2).length c6] 24, imm (.slice a0 (newMR mn).length c0) (newMR mn), box bb1 #[.int .i64 0, .slice none 0 0] 24, box bb0 #[.int .i64 mn, .slice a_mr mr.length c_mr] 24, imm (.slice a_l l.length c_l) l, imm (.slice a_mr mr.length c_mr) mr] := H39.pickN [0, 3, 4, 5, 6, 7, 8, 9] (by decide) rfl
                refine loopN _ ?_ ⟨(j + 1), (setMN n_ x2.1 x2.2), (setMR n_ rs x2.1 x2.2), a6, c6, rfl, s17, s18, s19, s20, (ieq rfl (by first | rfl | omega | (push_cast; omega))), H40, (by first | assumption | omega | simp | (simp; omega)), (by (try (have e_ := at_is hx1 hx0; subst e_)); (try (have e_ := at_is hx2 hx0; subst e_)); (try (have e_ := at_is hx3 hx0; subst e_)); (try (have e_ := at_is hx4 hx0; subst e_)); (try (have e_ := at_is hx5 hx0; subst e_)); (try (have e_ := at_is hx6 hx0; subst e_)); first | exact h1 | (rw [h1]; exact (set_yes (rs := mr) hin_).1)), (by (try (have e_ := at_is hx1 hx0; subst e_)); (try (have e_ := at_is hx2 hx0; subst e_)); (try (have e_ := at_is hx3 hx0; subst e_)); (try (have e_ := at_is hx4 hx0; subst e_)); (try (have e_ := at_is hx5 hx0; subst e_)); (try (have e_ := at_is hx6 hx0; subst e_)); rw [fold_take hx0]; first | (rw [if_pos (by unfold inL; simp_all), ← h2, h1]; exact (set_yes hin_).2.1) | (rw [if_neg (by unfold inL; simp_all)]; exact h2))⟩
                omega
          ·
            refine xt rfl s22 rfl ?_
            refine ta [13] (by kernel_rfl) rfl ⟨⟨_, rfl, ?_⟩, trivial⟩
            ·
              refine xt rfl s22 rfl ?_
              refine ta [15] (by kernel_rfl) rfl ⟨⟨_, rfl, ?_⟩, trivial⟩
              ·
                refine stX H37 3 rfl ty24 rfl rfl s19 rfl rfl rfl rfl ?_
                intro w25 (H38 : HI M w w25 [imm (.slice a6 (setMR n_ rs x2.1 x2.2).length c6) (setMR n_ rs x2.1 x2.2), imm (.slice a2 rs.length c2) rs, imm (.slice a1 (pairsM mn mr).length c1) (pairsM mn mr), box bb2 #[.int .i64 (setMN n_ x2.1 x2.2), .slice a6 (setMR n_ rs x2.1 x2.2).length c6] 24, imm (.slice a0 (newMR mn).length c0) (newMR mn), box bb1 #[.int .i64 0, .slice none 0 0] 24, box bb0 #[.int .i64 mn, .slice a_mr mr.length c_mr] 24, imm (.slice a_l l.length c_l) l, imm (.slice a_mr mr.length c_mr) mr])
                refine ta0 (by kernel_rfl) (inb_normal (nx (rg (k (mv rfl s21 (k (add rfl rfl rfl rfl (by have h_ := right_pairs rt_m; unfold I64; omega) (k (asg (v := .int .i64 ((j : Int) + 1)) rfl rfl (z ?_))))))))))
                have H39 := H38.put (it := imm (.slice a6 (setMR n_ rs x2.1 x2.2).length c6) (setMR n_ rs x2.1 x2.2)) rfl (H38.rv 0 rfl)
                have H40 : HI M w w25 [imm (.slice a6 (setMR n_ rs x2.1 x2.2).length c6) (setMR n_ rs x2.1 x2.2), imm (.slice a1 (pairsM mn mr).length c1) (pairsM mn mr), box bb2 #[.int .i64 (setMN n_ x2.1 x2.2), .slice a6 (setMR n_ rs x2.1 x2.2).length c6] 24, imm (.slice a0 (newMR mn).length c0) (newMR mn), box bb1 #[.int .i64 0, .slice none 0 0] 24, box bb0 #[.int .i64 mn, .slice a_mr mr.length c_mr] 24, imm (.slice a_l l.length c_l) l, imm (.slice a_mr mr.length c_mr) mr] := H39.pickN [0, 3, 4, 5, 6, 7, 8, 9] (by decide) rfl
                refine loopN _ ?_ ⟨(j + 1), (setMN n_ x2.1 x2.2), (setMR n_ rs x2.1 x2.2), a6, c6, rfl, s17, s18, s19, s20, (ieq rfl (by first | rfl | omega | (push_cast; omega))), H40, (by first | assumption | omega | simp | (simp; omega)), (by (try (have e_ := at_is hx1 hx0; subst e_)); (try (have e_ := at_is hx2 hx0; subst e_)); (try (have e_ := at_is hx3 hx0; subst e_)); (try (have e_ := at_is hx4 hx0; subst e_)); (try (have e_ := at_is hx5 hx0; subst e_)); (try (have e_ := at_is hx6 hx0; subst e_)); first | exact h1 | (rw [h1]; exact (set_yes (rs := mr) hin_).1)), (by (try (have e_ := at_is hx1 hx0; subst e_)); (try (have e_ := at_is hx2 hx0; subst e_)); (try (have e_ := at_is hx3 hx0; subst e_)); (try (have e_ := at_is hx4 hx0; subst e_)); (try (have e_ := at_is hx5 hx0; subst e_)); (try (have e_ := at_is hx6 hx0; subst e_)); rw [fold_take hx0]; first | (rw [if_pos (by unfold inL; simp_all), ← h2, h1]; exact (set_yes hin_).2.1) | (rw [if_neg (by unfold inL; simp_all)]; exact h2))⟩
                omega
      ·
        have p2 := of_decide_eq_false b2
        refine sk (inb_normal (nx (rg (k (mv rfl s4 (k (add rfl rfl rfl rfl (by have h_ := right_pairs rt_m; unfold I64; omega) (k (asg (v := .int .i64 ((j : Int) + 1)) rfl rfl (z ?_))))))))))
        have H14 := H13.put (it := imm (.slice a2 rs.length c2) rs) rfl (H13.rv 0 rfl)
        have H15 : HI M w w8 [imm (.slice a2 rs.length c2) rs, imm (.slice a1 (pairsM mn mr).length c1) (pairsM mn mr), box bb2 #[.int .i64 n_, .slice a2 rs.length c2] 24, imm (.slice a0 (newMR mn).length c0) (newMR mn), box bb1 #[.int .i64 0, .slice none 0 0] 24, box bb0 #[.int .i64 mn, .slice a_mr mr.length c_mr] 24, imm (.slice a_l l.length c_l) l, imm (.slice a_mr mr.length c_mr) mr] := H14.pickN [0, 2, 3, 4, 5, 6, 7, 8] (by decide) rfl
        refine loopN _ ?_ ⟨(j + 1), n_, rs, a2, c2, rfl, s0, s1, s2, s3, (ieq rfl (by first | rfl | omega | (push_cast; omega))), H15, (by first | assumption | omega | simp | (simp; omega)), (by (try (have e_ := at_is hx1 hx0; subst e_)); (try (have e_ := at_is hx2 hx0; subst e_)); (try (have e_ := at_is hx3 hx0; subst e_)); (try (have e_ := at_is hx4 hx0; subst e_)); (try (have e_ := at_is hx5 hx0; subst e_)); (try (have e_ := at_is hx6 hx0; subst e_)); first | exact h1 | (rw [h1]; exact (set_yes (rs := mr) hin_).1)), (by (try (have e_ := at_is hx1 hx0; subst e_)); (try (have e_ := at_is hx2 hx0; subst e_)); (try (have e_ := at_is hx3 hx0; subst e_)); (try (have e_ := at_is hx4 hx0; subst e_)); (try (have e_ := at_is hx5 hx0; subst e_)); (try (have e_ := at_is hx6 hx0; subst e_)); rw [fold_take hx0]; first | (rw [if_pos (by unfold inL; simp_all), ← h2, h1]; exact (set_yes hin_).2.1) | (rw [if_neg (by unfold inL; simp_all)]; exact h2))⟩
        omega
    · -- decide (x0.1 ∈ l) is False
      have p1 := of_decide_eq_false b1
      refine k (gn rfl rfl rfl b1 (k (gn rfl rfl rfl b1 (k (gn rfl rfl rfl b1 (k (gn rfl rfl rfl b1 (k (gn rfl rfl rfl b1 (k (gn rfl rfl rfl b1 (k (gn rfl rfl rfl b1 (k (pickF rfl rfl rfl rfl b1 rfl (z (nx (cdF rfl rfl rfl (sk (inb_normal (nx (rg (k (mv rfl s4 (k (add rfl rfl rfl rfl (by have h_ := right_pairs rt_m; unfold I64; omega) (k (asg (v := .int .i64 ((j : Int) + 1)) rfl rfl (z ?_)))))))))))))))))))))))))))))
      have H13 := H12.put (it := imm (.slice a2 rs.length c2) rs) rfl (H12.rv 0 rfl)
      have H14 : HI M w w7 [imm (.slice a2 rs.length c2) rs, imm (.slice a1 (pairsM mn mr).length c1) (pairsM mn mr), box bb2 #[.int .i64 n_, .slice a2 rs.length c2] 24, imm (.slice a0 (newMR mn).length c0) (newMR mn), box bb1 #[.int .i64 0, .slice none 0 0] 24, box bb0 #[.int .i64 mn, .slice a_mr mr.length c_mr] 24, imm (.slice a_l l.length c_l) l, imm (.slice a_mr mr.length c_mr) mr] := H13.pickN [0, 2, 3, 4, 5, 6, 7, 8] (by decide) rfl
      refine loopN _ ?_ ⟨(j + 1), n_, rs, a2, c2, rfl, s0, s1, s2, s3, (ieq rfl (by first | rfl | omega | (push_cast; omega))), H14, (by first | assumption | omega | simp | (simp; omega)), (by (try (have e_ := at_is hx1 hx0; subst e_)); (try (have e_ := at_is hx2 hx0; subst e_)); (try (have e_ := at_is hx3 hx0; subst e_)); (try (have e_ := at_is hx4 hx0; subst e_)); (try (have e_ := at_is hx5 hx0; subst e_)); (try (have e_ := at_is hx6 hx0; subst e_)); first | exact h1 | (rw [h1]; exact (set_yes (rs := mr) hin_).1)), (by (try (have e_ := at_is hx1 hx0; subst e_)); (try (have e_ := at_is hx2 hx0; subst e_)); (try (have e_ := at_is hx3 hx0; subst e_)); (try (have e_ := at_is hx4 hx0; subst e_)); (try (have e_ := at_is hx5 hx0; subst e_)); (try (have e_ := at_is hx6 hx0; subst e_)); rw [fold_take hx0]; first | (rw [if_pos (by unfold inL; simp_all), ← h2, h1]; exact (set_yes hin_).2.1) | (rw [if_neg (by unfold inL; simp_all)]; exact h2))⟩
      omega
  ·
    have p0 := of_decide_eq_false b0
    refine ex (then_exit (loop_exit (inb_here (nx (sq (rg (k (ldX H11 2 rfl ty24 rfl s2 (by decide) rfl (k (stX H11 4 rfl ty24 rfl rfl s1 rfl rfl rfl rfl ?_))))))))))
    intro w7 (H12 : HI M w w7 [imm (.slice a2 rs.length c2) rs, imm (.slice a1 (pairsM mn mr).length c1) (pairsM mn mr), box bb2 #[.int .i64 n_, .slice a2 rs.length c2] 24, imm (.slice a0 (newMR mn).length c0) (newMR mn), box bb1 #[.int .i64 n_, .slice a2 rs.length c2] 24, box bb0 #[.int .i64 mn, .slice a_mr mr.length c_mr] 24, imm (.slice a_l l.length c_l) l, imm (.slice a_mr mr.length c_mr) mr])
    refine z (nx (rt (rc1 H12 4 rfl ty24 rfl rfl s1 rfl (by decide) ?_)))
    have e0 : (n_ : Int) = mn := by exact h1
    have e1 : (rs : List (List (BitVec 64))) = withinM mn mr l := by rw [h2, take_end (by omega)]; exact within_fold rt_m l
    have ev_ := cg2 (fun (x_0 : Int) (x_1 : List (List (BitVec 64))) => (.agg #[.int .i64 x_0, .slice a2 x_1.length c2] : Value)) e0 e1
    exact ⟨a2, c2, ev_, H12.below, (congrArg (fun (x_ : List (List (BitVec 64))) => RV _ _ (.slice a2 x_.length c2) x_) e1).mp (H12.gives_out 0 rfl)⟩
end Go.Proofs.YtmhopljngkgidaaDoor
namespace Go.Proofs.YtmhopljngkgidaaDoor
open Go.Ew Go.RowKit
set_option linter.unusedVariables false
set_option linter.unusedSimpArgs false
attribute [local irreducible] WL WC SO Code.wp wpList retQ Ret
attribute [local irreducible] bitB hasW inR hasR setR countW countR subR words newR listR orR firstW tab8

/- eyewitness/hull.Within -/
set_option maxRecDepth 100000 in
set_option maxHeartbeats 1600000 in
theorem hull_Within {M : Nat → Prop} {w : World} {mn : Int} {a_mr : Option Addr} {c_mr : Nat} {mr : List (List (BitVec 64))} {a_l : Option Addr} {c_l : Nat} {l : List Int} (hM : ∀ b, M b → b < w.heap.size) (h_mn : I64 mn) (h_mr : RV M w (.slice a_mr mr.length c_mr) mr) (h_l : RV M w (.slice a_l l.length c_l) l) (rt_m : rightS mn mr = true) (hln_l : l.length ≤ 1000000000) : Calls Tryd.prog 34 #[.agg #[.int .i64 mn, .slice a_mr mr.length c_mr], .slice a_l l.length c_l] w (Ret fun v w' => ∃ (a0 : Option Addr) (c0 : Nat), v = .agg #[.int .i64 mn, .slice a0 (withinM mn mr l).length c0] ∧ Ext w w' ∧ OwnsG M 73 w (withinM mn mr l) (.slice a0 (withinM mn mr l).length c0) w') := by
  refine enter 73 Tryd.func34 rfl rfl rfl fun f0 ha => ?_
  have H := HI.start (M0 := M) (w := w) hM
  have H0 := H.put (it := imm (.slice a_mr mr.length c_mr) mr) rfl (by rw [MS_nil]; exact h_mr)
  have H1 := H0.put (it := imm (.slice a_l l.length c_l) l) rfl (by rw [MS_cons_none rfl, MS_nil]; exact h_l)
  have ln_mr := rv_len h_mr
  have ln_l := rv_len h_l
  have i0 : f0 0 = .agg #[.int .i64 mn, .slice a_mr mr.length c_mr] := ha 0 (by simp)
  have i1 : f0 1 = .slice a_l l.length c_l := ha 1 (by simp)
  have hl_ := (right_sq rt_m).1; have h4_ := (right_sq rt_m).2.2.1; have h0_ := right_pos rt_m
  refine sq (rg (k (bx H1 rfl i0 ?_)))
  intro bb0 w0 xt0 (H2 : HI M w w0 [box bb0 #[.int .i64 mn, .slice a_mr mr.length c_mr] 24, imm (.slice a_l l.length c_l) l, imm (.slice a_mr mr.length c_mr) mr])
  refine k (al H2 ty24 ?_)
  intro bb1 w1 xt1 (H3 : HI M w w1 [box bb1 #[.int .i64 0, .slice none 0 0] 24, box bb0 #[.int .i64 mn, .slice a_mr mr.length c_mr] 24, imm (.slice a_l l.length c_l) l, imm (.slice a_mr mr.length c_mr) mr])
  refine z (nx (sq (rg (k (fa fl24_0 rfl rfl (k (ldX H3 1 rfl ty3 rfl rfl (by decide) rfl (k ?_))))))))
  have cc0 := row_New (n := mn) (w := w1) H3.mb (by unfold I64 at *; omega) (by omega)
  refine ca go78 rfl (ec rfl e0) cc0 ?_
  rintro _ w2 ⟨a0, c0, rfl, xt2, rv0⟩
  have H4 := H3.ownsG rv0
  refine k (asg (v := .slice a0 (newR mn).length c0) rfl rfl (z (nx (sq (sq (rg (k (mv rfl i1 (k (lnS rfl rfl un42 (k (mv (v := .int .i64 0) rfl rfl (z (nx (bk ?_)))))))))))))))
  have H5 := H4.freeze 0 rfl
  have H6 := H5.put (it := imm (.slice a0 (newR mn).length c0) (newR mn)) rfl (H5.rv 0 rfl)
  refine lp (fun m f w' => ∃ (q : Nat) (msk : List (BitVec 64)) (a1 : Option Addr) (c1 : Nat), m = l.length - q ∧ f 2 = .pointer (some ⟨bb0, 0, none⟩) ∧ f 4 = .pointer (some ⟨bb1, 0, none⟩) ∧ f 5 = .slice a1 msk.length c1 ∧ f 16 = .slice a_l l.length c_l ∧ f 17 = .int .i64 (l.length : Int) ∧ f 18 = .int .i64 (q : Int) ∧  HI M w w' [imm (.slice a1 msk.length c1) msk, imm (.slice a0 (newR mn).length c0) (newR mn), box bb1 #[.int .i64 0, .slice none 0 0] 24, box bb0 #[.int .i64 mn, .slice a_mr mr.length c_mr] 24, imm (.slice a_l l.length c_l) l, imm (.slice a_mr mr.length c_mr) mr] ∧ (q ≤ l.length) ∧ (msk = maskP mn.toNat (l.take q))) _ ⟨0, (newR mn), a0, c0, rfl, rfl, rfl, rfl, rfl, rfl, (ieq rfl (by first | rfl | omega | simp)), H6, (by first | assumption | omega | simp | (simp; omega)), (by exact msk_zero h0_ l)⟩ ?_
  rintro _ f0 w3 ⟨q, msk, a1, c1, rfl, s0, s1, s2, s3, s4, s5, H7, hq_, hm⟩
  refine sq (rg (k (lss rfl rfl s5 s4 (z (nx (sq ?_))))))
  refine cd (b := decide ((q : Int) < (l.length : Int))) rfl rfl (fun b0 => ?_) (fun b0 => ?_)
  ·
    have p0 := of_decide_eq_true b0
    refine sk (nx (sq (bk (sq (rg (k (ia (H7.rv 4 rfl) rfl rfl s3 s5 (by first | omega | (simp; omega)) un42 ty3 ?_)))))))
    intro ad0 x0 hx0 hA0
    refine k (ldI hA0.w ty3 rfl rfl ?_)
    intro rv1
    refine k (asg (v := .int .i64 x0) rfl rfl (z (nx (sq (rg (k (mv (v := .int .i64 x0) rfl rfl (k (fa fl24_0 rfl s0 (k (ldX H7 3 rfl ty3 rfl rfl (by decide) rfl (k (lss rfl rfl rfl rfl (z (nx ?_)))))))))))))))
    refine cd (b := decide (x0 < mn)) rfl rfl (fun b1 => ?_) (fun b1 => ?_)
    ·
      have p1 := of_decide_eq_true b1
      refine rg (k (mv rfl s2 (k (mv (v := .int .i64 x0) rfl rfl (k ?_)))))
      have cc1 := row_Set (r := msk) (i := x0) (w := w3) H7.mb (H7.rv 0 rfl) (by unfold I64 at *; omega) (by rw [hm, maskP_len h0_]; have h_ := words_le h4_; omega)
      refine ca go63 rfl (ec rfl (ec rfl e0)) cc1 ?_
      rintro _ w4 ⟨a2, c2, rfl, xt3, rv2⟩
      have H8 := H7.ownsG rv2
      refine k (asg (v := .slice a2 (setR msk x0).length c2) rfl rfl (z (inb_normal (nx (rg (k (add rfl rfl s5 rfl (by unfold I64 at *; omega) (k (mv (v := .int .i64 ((q : Int) + 1)) rfl rfl (z ?_))))))))))
      have H9 := H8.freeze 0 rfl
      have H10 := H9.put (it := imm (.slice a2 (setR msk x0).length c2) (setR msk x0)) rfl (H9.rv 0 rfl)
      have H11 : HI M w w4 [imm (.slice a2 (setR msk x0).length c2) (setR msk x0), imm (.slice a0 (newR mn).length c0) (newR mn), box bb1 #[.int .i64 0, .slice none 0 0] 24, box bb0 #[.int .i64 mn, .slice a_mr mr.length c_mr] 24, imm (.slice a_l l.length c_l) l, imm (.slice a_mr mr.length c_mr) mr] := H10.pickN [0, 3, 4, 5, 6, 7] (by decide) rfl
      refine loopN _ ?_ ⟨(q + 1), (setR msk x0), a2, c2, rfl, s0, s1, rfl, s3, s4, (ieq rfl (by first | rfl | omega | (push_cast; omega))), H11, (by first | assumption | omega | simp | (simp; omega)), (by first | exact msk_yes hm hx0 (by omega) | exact msk_no hm hx0 (by omega))⟩
      omega
    ·
      have p1 := of_decide_eq_false b1
      refine sk (inb_normal (nx (rg (k (add rfl rfl s5 rfl (by unfold I64 at *; omega) (k (mv (v := .int .i64 ((q : Int) + 1)) rfl rfl (z ?_))))))))
      have H8 := H7.put (it := imm (.slice a1 msk.length c1) msk) rfl (H7.rv 0 rfl)
      have H9 : HI M w w3 [imm (.slice a1 msk.length c1) msk, imm (.slice a0 (newR mn).length c0) (newR mn), box bb1 #[.int .i64 0, .slice none 0 0] 24, box bb0 #[.int .i64 mn, .slice a_mr mr.length c_mr] 24, imm (.slice a_l l.length c_l) l, imm (.slice a_mr mr.length c_mr) mr] := H8.pickN [0, 2, 3, 4, 5, 6] (by decide) rfl
      refine loopN _ ?_ ⟨(q + 1), msk, a1, c1, rfl, s0, s1, s2, s3, s4, (ieq rfl (by first | rfl | omega | (push_cast; omega))), H9, (by first | assumption | omega | simp | (simp; omega)), (by first | exact msk_yes hm hx0 (by omega) | exact msk_no hm hx0 (by omega))⟩
      omega
  ·
    have p0 := of_decide_eq_false b0
    refine ex (then_exit (loop_exit (inb_here (nx (sq ?_)))))
    have hm2_ : msk = maskP mn.toNat l := by rw [hm, take_end (by omega)]
    refine rg (k (fa fl24_0 rfl s0 (k (ldX H7 3 rfl ty3 rfl rfl (by decide) rfl (k ?_)))))
    have cc1 := mat_NewR (n := mn) (w := w3) H7.mb (by unfold I64 at *; omega) (by exact right_pos rt_m) (by exact (right_sq rt_m).2.2.1)
    refine ca go61 rfl (ec rfl e0) cc1 ?_
    rintro _ w4 ⟨a2, c2, ss0, rfl, xt3, rv1⟩
    have H8 := H7.ownsR rv1
    have H9 : HI M w w4 ([own w.heap.size 73 (.slice a2 mn.toNat c2) ss0, imm (.slice a1 msk.length c1) msk, imm (.slice a0 (newR mn).length c0) (newR mn), box bb1 #[.int .i64 0, .slice none 0 0] 24, box bb0 #[.int .i64 mn, .slice a_mr mr.length c_mr] 24, imm (.slice a_l l.length c_l) l, imm (.slice a_mr mr.length c_mr) mr] ++ rowItems w.heap.size 77 ss0 (List.replicate mn.toNat (newR mn))) := H8
    have ssl0 := rv1.1
    refine k (mv (v := .tuple #[.agg #[.int .i64 mn, .slice a2 mn.toNat c2], .int .i64 0]) rfl rfl (k (xt rfl rfl rfl (k (xt rfl rfl rfl (k (al H9 ty24 ?_)))))))
    intro bb2 w5 xt4 (H10 : HI M w w5 ([box bb2 #[.int .i64 0, .slice none 0 0] 24, own w.heap.size 73 (.slice a2 mn.toNat c2) ss0, imm (.slice a1 msk.length c1) msk, imm (.slice a0 (newR mn).length c0) (newR mn), box bb1 #[.int .i64 0, .slice none 0 0] 24, box bb0 #[.int .i64 mn, .slice a_mr mr.length c_mr] 24, imm (.slice a_l l.length c_l) l, imm (.slice a_mr mr.length c_mr) mr] ++ rowItems w.heap.size 77 ss0 (List.replicate mn.toNat (newR mn))))
    refine k (stX H10 0 rfl ty24 rfl rfl rfl rfl rfl rfl rfl ?_)
    intro w6 (H11 : HI M w w6 ([box bb2 #[.int .i64 mn, .slice a2 mn.toNat c2] 24, own w.heap.size 73 (.slice a2 mn.toNat c2) ss0, imm (.slice a1 msk.length c1) msk, imm (.slice a0 (newR mn).length c0) (newR mn), box bb1 #[.int .i64 0, .slice none 0 0] 24, box bb0 #[.int .i64 mn, .slice a_mr mr.length c_mr] 24, imm (.slice a_l l.length c_l) l, imm (.slice a_mr mr.length c_mr) mr] ++ rowItems w.heap.size 77 ss0 (List.replicate mn.toNat (newR mn))))
    refine k (asg (v := .int .i64 0) rfl rfl (z (nx (sq (sq (rg (k (fa fl24_1 rfl rfl (k (ldX H11 0 rfl ty22 rfl rfl (by decide) rfl (k (lnS rfl rfl un22 (k (mv (v := .int .i64 0) rfl rfl (z (nx (bk ?_)))))))))))))))))
    refine lp (fun m f w' => ∃ (i : Nat) (xs : List (List (BitVec 64))), m = mn.toNat - i ∧ f 2 = .pointer (some ⟨bb0, 0, none⟩) ∧ f 4 = .pointer (some ⟨bb1, 0, none⟩) ∧ f 5 = .slice a1 msk.length c1 ∧ f 8 = .pointer (some ⟨bb2, 0, none⟩) ∧ f 38 = .int .i64 (mn.toNat : Int) ∧ f 39 = .int .i64 (i : Int) ∧  HI M w w' ([box bb2 #[.int .i64 mn, .slice a2 mn.toNat c2] 24, own w.heap.size 73 (.slice a2 mn.toNat c2) ss0, imm (.slice a1 msk.length c1) msk, imm (.slice a0 (newR mn).length c0) (newR mn), box bb1 #[.int .i64 0, .slice none 0 0] 24, box bb0 #[.int .i64 mn, .slice a_mr mr.length c_mr] 24, imm (.slice a_l l.length c_l) l, imm (.slice a_mr mr.length c_mr) mr] ++ rowItems w.heap.size 77 ss0 xs) ∧ (i ≤ mn.toNat) ∧ (ss0.length = xs.length) ∧ (xs = matP mn.toNat (wiT (relM mr) l i)) ∧ (xs.length = mn.toNat)) _ ⟨0, (List.replicate mn.toNat (newR mn)), rfl, s0, s1, s2, rfl, rfl, (ieq rfl (by first | rfl | omega | simp)), H11, (by first | assumption | omega | simp | (simp; omega)), (by first | exact ssl0 | exact ssl1), (by exact wi_start rt_m), (by simp)⟩ ?_
    rintro _ f1 w7 ⟨i, xs, rfl, s6, s7, s8, s9, s10, s11, H12, hi_, hl, hs, hxl⟩
    refine sq (rg (k (lss rfl rfl s11 s10 (z (nx (sq ?_))))))
    refine cd (b := decide ((i : Int) < (mn.toNat : Int))) rfl rfl (fun b1 => ?_) (fun b1 => ?_)
    ·
      have p1 := of_decide_eq_true b1
      refine sk (nx (sq (bk (sq (rg (k (mv rfl s11 (k (asg (v := .int .i64 (i : Int)) rfl rfl (z (nx (sq (sq (rg (k (mv rfl s8 (k (mv (v := .int .i64 (i : Int)) rfl rfl (k ?_)))))))))))))))))))
      have cc2 := row_Has (r := msk) (i := (i : Int)) (w := w7) H12.mb (H12.rv 2 rfl) (by unfold I64 at *; omega)
      refine ca go67 rfl (ec rfl (ec rfl e0)) cc2 ?_
      rintro _ w8 ⟨rfl, xt5⟩
      have H13 := H12.ext xt5
      refine k (not_ rfl rfl (z (nx ?_)))
      refine cd (b := !(hasR msk (i : Int))) rfl rfl (fun b2 => ?_) (fun b2 => ?_)
      ·
        refine ex (then_exit (inb_here (nx (rg (k (add rfl rfl s11 rfl (by unfold I64 at *; omega) (k (mv (v := .int .i64 ((i : Int) + 1)) rfl rfl (z ?_)))))))))
        refine loopN _ ?_ ⟨(i + 1), xs, rfl, s6, s7, s8, s9, s10, (ieq rfl (by first | rfl | omega | (push_cast; omega))), H13, (by first | assumption | omega | simp | (simp; omega)), (by first | exact hl | exact hl2), (by first | exact wi_skip rt_m hs hm2_ (by omega) (by simpa using b2) | exact wi_next rt_m hs hs2 hx0 hm2_ (by simpa using b2) (by omega)), (by first | exact hxl | exact hyl)⟩
        omega
      ·
        refine sk (nx (sq (rg (k (fa fl24_1 rfl s6 (k (ldX H13 5 rfl ty22 rfl rfl (by decide) rfl (k (mv (v := .int .i64 (i : Int)) rfl rfl (k (ia (H13.rv 7 rfl) rfl rfl rfl rfl (by first | omega | (simp; omega)) un22 ty73 ?_)))))))))))
        intro ad0 x0 hx0 hA0
        refine k (ldL hA0.w ty73 rfl rfl ?_)
        intro a3 c3 rv2
        have ln0 := rv_len rv2
        have H14 := H13.put (it := imm (.slice a3 x0.length c3) x0) rfl rv2
        have H15 : HI M w w8 ([imm (.slice a3 x0.length c3) x0, box bb2 #[.int .i64 mn, .slice a2 mn.toNat c2] 24, own w.heap.size 73 (.slice a2 mn.toNat c2) ss0, imm (.slice a1 msk.length c1) msk, imm (.slice a0 (newR mn).length c0) (newR mn), box bb1 #[.int .i64 0, .slice none 0 0] 24, box bb0 #[.int .i64 mn, .slice a_mr mr.length c_mr] 24, imm (.slice a_l l.length c_l) l, imm (.slice a_mr mr.length c_mr) mr] ++ rowItems w.heap.size 77 ss0 xs) := H14
        refine k (lnS rfl rfl un73 (k (mv (v := .int .i64 0) rfl rfl (z (nx (bk ?_))))))
        refine lp (fun m f w' => ∃ (k_ : Nat) (ys : List (List (BitVec 64))), m = x0.length - k_ ∧ f 2 = .pointer (some ⟨bb0, 0, none⟩) ∧ f 4 = .pointer (some ⟨bb1, 0, none⟩) ∧ f 5 = .slice a1 msk.length c1 ∧ f 8 = .pointer (some ⟨bb2, 0, none⟩) ∧ f 10 = .int .i64 (i : Int) ∧ f 38 = .int .i64 (mn.toNat : Int) ∧ f 39 = .int .i64 (i : Int) ∧ f 50 = .slice a3 x0.length c3 ∧ f 51 = .int .i64 (x0.length : Int) ∧ f 52 = .int .i64 (k_ : Int) ∧  HI M w w' ([imm (.slice a3 x0.length c3) x0, box bb2 #[.int .i64 mn, .slice a2 mn.toNat c2] 24, own w.heap.size 73 (.slice a2 mn.toNat c2) ss0, imm (.slice a1 msk.length c1) msk, imm (.slice a0 (newR mn).length c0) (newR mn), box bb1 #[.int .i64 0, .slice none 0 0] 24, box bb0 #[.int .i64 mn, .slice a_mr mr.length c_mr] 24, imm (.slice a_l l.length c_l) l, imm (.slice a_mr mr.length c_mr) mr] ++ rowItems w.heap.size 77 ss0 ys) ∧ (k_ ≤ x0.length) ∧ (ss0.length = ys.length) ∧ (ys = xs.set i (andTo x0 msk k_)) ∧ (ys.length = mn.toNat)) _ ⟨0, xs, rfl, s6, s7, s8, s9, rfl, s10, s11, rfl, rfl, (ieq rfl (by first | rfl | omega | simp)), H15, (by first | assumption | omega | simp | (simp; omega)), (by exact hl), (by exact wi_in rt_m hs hx0), (by exact hxl)⟩ ?_
        rintro _ f2 w9 ⟨k_, ys, rfl, s12, s13, s14, s15, s16, s17, s18, s19, s20, s21, H16, hk_, hl2, hs2, hyl⟩
        refine sq (rg (k (lss rfl rfl s21 s20 (z (nx (sq ?_))))))
        refine cd (b := decide ((k_ : Int) < (x0.length : Int))) rfl rfl (fun b3 => ?_) (fun b3 => ?_)
        ·
          have p3 := of_decide_eq_true b3
          refine sk (nx (sq (bk (sq ?_))))
          have ml_ : msk.length = x0.length := by rw [hm2_, maskP_len h0_, right_row_len rt_m hx0]
          refine rg (k (mv rfl s21 (k (ia (H16.rv 0 rfl) rfl rfl s19 s21 (by first | omega | (have h_ := congrArg List.length (wi_row rt_m hs hs2 hx0 hr0); rw [andTo_len] at h_; omega)) un73 ty77 ?_))))
          intro ad1 x1 hx1 hA1
          refine k (ldU hA1.w ty77 rfl rfl (k (asg (v := .int .i64 (k_ : Int)) rfl rfl (k (asg (v := U x1) rfl rfl (z (nx ?_)))))))
          obtain ⟨a4, x2, c4, hs0, hr0⟩ := row_get (i := (i : Int).toNat) H16 (by first | assumption | (simp only [List.length_set]; assumption) | (simp only [List.length_set, List.length_replicate] at *; omega)) (by omega)
          obtain ⟨x4, hx3⟩ : ∃ x, msk[(k_ : Int).toNat]? = some x := ⟨_, List.getElem?_eq_getElem (by first | omega | (simp; omega))⟩
          refine dr 12 [fun (v : Value) (w' : World) => v = .pointer (some ⟨bb2, 1, none⟩), fun (v : Value) (w' : World) => v = .slice a2 mn.toNat c2, fun (v : Value) (w' : World) => v = .int .i64 (i : Int), fun (v : Value) (w' : World) => ∃ (g0 : Nat), v = .pointer (some ⟨g0, (i : Int).toNat * 1, none⟩) ∧ (.slice a2 mn.toNat c2 : Value).ownBlock = some g0 ∧ AtW (MS M ([imm (.slice a3 x0.length c3) x0, box bb2 #[.int .i64 mn, .slice a2 mn.toNat c2] 24, own w.heap.size 73 (.slice a2 mn.toNat c2) ss0, imm (.slice a1 msk.length c1) msk, imm (.slice a0 (newR mn).length c0) (newR mn), box bb1 #[.int .i64 0, .slice none 0 0] 24, box bb0 #[.int .i64 mn, .slice a_mr mr.length c_mr] 24, imm (.slice a_l l.length c_l) l, imm (.slice a_mr mr.length c_mr) mr] ++ rowItems w.heap.size 77 ss0 ys)) w' ⟨g0, (i : Int).toNat * 1, none⟩ (⟨a4, x2.length, c4⟩ : SV), fun (v : Value) (w' : World) => v = .slice a4 x2.length c4, fun (v : Value) (w' : World) => v = .int .i64 (k_ : Int), fun (v : Value) (w' : World) => v = U x1, fun (v : Value) (w' : World) => v = .slice a1 msk.length c1, fun (v : Value) (w' : World) => v = .int .i64 (k_ : Int), fun (v : Value) (w' : World) => ∃ (ad2 : Addr), v = .pointer (some ad2) ∧ At (MS M ([imm (.slice a3 x0.length c3) x0, box bb2 #[.int .i64 mn, .slice a2 mn.toNat c2] 24, own w.heap.size 73 (.slice a2 mn.toNat c2) ss0, imm (.slice a1 msk.length c1) msk, imm (.slice a0 (newR mn).length c0) (newR mn), box bb1 #[.int .i64 0, .slice none 0 0] 24, box bb0 #[.int .i64 mn, .slice a_mr mr.length c_mr] 24, imm (.slice a_l l.length c_l) l, imm (.slice a_mr mr.length c_mr) mr] ++ rowItems w.heap.size 77 ss0 ys)) w' ad2 x4, fun (v : Value) (w' : World) => v = U x4, fun (v : Value) (w' : World) => v = U (x1 &&& x4)] rfl (by kernel_rfl) ?_ ?_
          ·
            refine ⟨fun _ => ⟨fun f3 w10 hf0 xt6 hp0 => ?_, fun _ _ _ _ h => h⟩, ?_⟩
            ·
              have H17 := H16.ext xt6
              refine fa fl24_1 rfl ((hf0 8 rfl).trans s15) ?_
              exact ⟨_, rfl, Ext.refl _, rfl⟩
            refine ⟨fun _ => ⟨fun f4 w11 hf1 xt7 hp1 => ?_, fun _ _ _ _ h => h⟩, ?_⟩
            ·
              have H18 := H16.ext xt7
              have s22 : f4 57 = .pointer (some ⟨bb2, 1, none⟩) := hp1 0 rfl rfl
              refine ldX H18 1 rfl ty22 rfl s22 (by decide) rfl ?_
              exact ⟨_, rfl, Ext.refl _, rfl⟩
            refine ⟨fun _ => ⟨fun f5 w12 hf2 xt8 hp2 => ?_, fun _ _ _ _ h => h⟩, ?_⟩
            ·
              have H19 := H16.ext xt8
              refine mv rfl ((hf2 10 rfl).trans s16) ?_
              exact ⟨_, rfl, Ext.refl _, rfl⟩
            refine ⟨fun _ => ⟨fun f6 w13 hf3 xt9 hp3 => ?_, by rintro _ _ _ x_ ⟨g0, e_, hv0, hA2⟩; exact ⟨g0, e_, hv0, hA2.ext x_⟩⟩, ?_⟩
            ·
              have H20 := H16.ext xt9
              have s23 : f6 58 = .slice a2 mn.toNat c2 := hp3 1 rfl rfl
              have s24 : f6 59 = .int .i64 (i : Int) := hp3 2 rfl rfl
              refine iaO (H20.at_ 2 rfl) rfl rfl s23 s24 (by first | omega | (simp; omega)) un22 ty73 ?_
              intro g1 x5 hv1 hx4 hA4
              obtain rfl : (⟨a4, x2.length, c4⟩ : SV) = x5 := Option.some.inj (hs0.symm.trans hx4)
              exact ⟨_, rfl, Ext.refl _, ⟨g1, rfl, hv1, hA4⟩⟩
            refine ⟨fun _ => ⟨fun f7 w14 hf4 xt10 hp4 => ?_, fun _ _ _ _ h => h⟩, ?_⟩
            ·
              have H21 := H16.ext xt10
              obtain ⟨g2, s25, hv2, hA5⟩ : ∃ (g2 : Nat), f7 60 = .pointer (some ⟨g2, (i : Int).toNat * 1, none⟩) ∧ (.slice a2 mn.toNat c2 : Value).ownBlock = some g2 ∧ AtW (MS M ([imm (.slice a3 x0.length c3) x0, box bb2 #[.int .i64 mn, .slice a2 mn.toNat c2] 24, own w.heap.size 73 (.slice a2 mn.toNat c2) ss0, imm (.slice a1 msk.length c1) msk, imm (.slice a0 (newR mn).length c0) (newR mn), box bb1 #[.int .i64 0, .slice none 0 0] 24, box bb0 #[.int .i64 mn, .slice a_mr mr.length c_mr] 24, imm (.slice a_l l.length c_l) l, imm (.slice a_mr mr.length c_mr) mr] ++ rowItems w.heap.size 77 ss0 ys)) w14 ⟨g2, (i : Int).toNat * 1, none⟩ (⟨a4, x2.length, c4⟩ : SV) := hp4 3 rfl rfl
              refine ldV hA5 ty73 rfl s25 ?_
              exact ⟨_, rfl, Ext.refl _, rfl⟩
            refine ⟨fun _ => ⟨fun f8 w15 hf5 xt11 hp5 => ?_, fun _ _ _ _ h => h⟩, ?_⟩
            ·
              have H22 := H16.ext xt11
              refine mv rfl (hf5 11 rfl) ?_
              exact ⟨_, rfl, Ext.refl _, rfl⟩
            refine ⟨fun _ => ⟨fun f9 w16 hf6 xt12 hp6 => ?_, fun _ _ _ _ h => h⟩, ?_⟩
            ·
              have H23 := H16.ext xt12
              refine mv rfl (hf6 12 rfl) ?_
              exact ⟨_, rfl, Ext.refl _, rfl⟩
            refine ⟨fun _ => ⟨fun f10 w17 hf7 xt13 hp7 => ?_, fun _ _ _ _ h => h⟩, ?_⟩
            ·
              have H24 := H16.ext xt13
              refine mv rfl ((hf7 5 rfl).trans s14) ?_
              exact ⟨_, rfl, Ext.refl _, rfl⟩
            refine ⟨fun _ => ⟨fun f11 w18 hf8 xt14 hp8 => ?_, fun _ _ _ _ h => h⟩, ?_⟩
            ·
              have H25 := H16.ext xt14
              refine mv rfl (hf8 11 rfl) ?_
              exact ⟨_, rfl, Ext.refl _, rfl⟩
            refine ⟨fun _ => ⟨fun f12 w19 hf9 xt15 hp9 => ?_, by rintro _ _ _ x_ ⟨ad2, e_, hA3⟩; exact ⟨ad2, e_, hA3.lift (Up.ext x_)⟩⟩, ?_⟩
            ·
              have H26 := H16.ext xt15
              have s26 : f12 64 = .slice a1 msk.length c1 := hp9 7 rfl rfl
              have s27 : f12 65 = .int .i64 (k_ : Int) := hp9 8 rfl rfl
              refine ia (H26.rv 3 rfl) rfl rfl s26 s27 (by first | omega | (simp; omega)) un73 ty77 ?_
              intro ad3 x6 hx5 hA6
              obtain rfl : x4 = x6 := Option.some.inj (hx3.symm.trans hx5)
              exact ⟨_, rfl, Ext.refl _, ⟨ad3, rfl, hA6⟩⟩
            refine ⟨fun _ => ⟨fun f13 w20 hf10 xt16 hp10 => ?_, fun _ _ _ _ h => h⟩, ?_⟩
            ·
              have H27 := H16.ext xt16
              obtain ⟨ad4, s28, hA7⟩ : ∃ (ad4 : Addr), f13 66 = .pointer (some ad4) ∧ At (MS M ([imm (.slice a3 x0.length c3) x0, box bb2 #[.int .i64 mn, .slice a2 mn.toNat c2] 24, own w.heap.size 73 (.slice a2 mn.toNat c2) ss0, imm (.slice a1 msk.length c1) msk, imm (.slice a0 (newR mn).length c0) (newR mn), box bb1 #[.int .i64 0, .slice none 0 0] 24, box bb0 #[.int .i64 mn, .slice a_mr mr.length c_mr] 24, imm (.slice a_l l.length c_l) l, imm (.slice a_mr mr.length c_mr) mr] ++ rowItems w.heap.size 77 ss0 ys)) w20 ad4 x4 := hp10 9 rfl rfl
              have H28 := H27.put (it := atI ad4 x4) rfl hA7
              have H29 : HI M w w20 ([atI ad4 x4, imm (.slice a3 x0.length c3) x0, box bb2 #[.int .i64 mn, .slice a2 mn.toNat c2] 24, own w.heap.size 73 (.slice a2 mn.toNat c2) ss0, imm (.slice a1 msk.length c1) msk, imm (.slice a0 (newR mn).length c0) (newR mn), box bb1 #[.int .i64 0, .slice none 0 0] 24, box bb0 #[.int .i64 mn, .slice a_mr mr.length c_mr] 24, imm (.slice a_l l.length c_l) l, imm (.slice a_mr mr.length c_mr) mr] ++ rowItems w.heap.size 77 ss0 ys) := H28
              refine ldU (H29.atv 0 rfl).w ty77 rfl s28 ?_
              exact ⟨_, rfl, Ext.refl _, rfl⟩
            refine ⟨fun _ => ⟨fun f14 w21 hf11 xt17 hp11 => ?_, fun _ _ _ _ h => h⟩, ?_⟩
            ·
              have H30 := H16.ext xt17
              have s29 : f14 63 = U x1 := hp11 6 rfl rfl
              have s30 : f14 67 = U x4 := hp11 10 rfl rfl
              refine andU x1 x4 rfl rfl s29 s30 ?_
              exact ⟨_, rfl, Ext.refl _, rfl⟩
            exact DSteps.rest rfl _
          · intro f15 w22 hf12 xt18 hp12
            have H31 := H16.ext xt18
            have s31 : f15 2 = .pointer (some ⟨bb0, 0, none⟩) := (hf12 2 rfl).trans s12
            have s32 : f15 4 = .pointer (some ⟨bb1, 0, none⟩) := (hf12 4 rfl).trans s13
            have s33 : f15 5 = .slice a1 msk.length c1 := (hf12 5 rfl).trans s14
            have s34 : f15 8 = .pointer (some ⟨bb2, 0, none⟩) := (hf12 8 rfl).trans s15
            have s35 : f15 10 = .int .i64 (i : Int) := (hf12 10 rfl).trans s16
            have s36 : f15 38 = .int .i64 (mn.toNat : Int) := (hf12 38 rfl).trans s17
            have s37 : f15 39 = .int .i64 (i : Int) := (hf12 39 rfl).trans s18
            have s38 : f15 50 = .slice a3 x0.length c3 := (hf12 50 rfl).trans s19
            have s39 : f15 51 = .int .i64 (x0.length : Int) := (hf12 51 rfl).trans s20
            have s40 : f15 52 = .int .i64 (k_ : Int) := (hf12 52 rfl).trans s21
            have s41 : f15 61 = .slice a4 x2.length c4 := hp12 4 rfl
            have s42 : f15 62 = .int .i64 (k_ : Int) := hp12 5 rfl
            have s43 : f15 68 = U (x1 &&& x4) := hp12 11 rfl
            refine k (iaO (H31.at_ _ (row_at hs0 hr0)) rfl rfl s41 s42 (by first | omega | (have h_ := congrArg List.length (wi_row rt_m hs hs2 hx0 hr0); rw [andTo_len] at h_; omega)) un73 ty77 ?_)
            intro g3 x7 hv3 hx6 hA8
            refine k (stO H31 _ (row_at hs0 hr0) hv3 rfl (by first | omega | (have h_ := congrArg List.length (wi_row rt_m hs hs2 hx0 hr0); rw [andTo_len] at h_; omega)) ty77 rfl rfl rfl s43 (RV.bv.2 rfl) ?_)
            intro w23 H33
            have H32 := HI.rowPut (M := fun _ => False) (it := imm (.int .i64 0) (0 : Int)) H33 hs0
            have H34 : HI M w w23 ([imm (.slice a3 x0.length c3) x0, box bb2 #[.int .i64 mn, .slice a2 mn.toNat c2] 24, own w.heap.size 73 (.slice a2 mn.toNat c2) ss0, imm (.slice a1 msk.length c1) msk, imm (.slice a0 (newR mn).length c0) (newR mn), box bb1 #[.int .i64 0, .slice none 0 0] 24, box bb0 #[.int .i64 mn, .slice a_mr mr.length c_mr] 24, imm (.slice a_l l.length c_l) l, imm (.slice a_mr mr.length c_mr) mr] ++ rowItems w.heap.size 77 ss0 (ys.set ((i : Int).toNat) (x2.set ((k_ : Int).toNat) (x1 &&& x4)))) := H32
            refine z (inb_normal (nx (rg (k (add rfl rfl s40 rfl (by unfold I64 at *; omega) (k (mv (v := .int .i64 ((k_ : Int) + 1)) rfl rfl (z ?_))))))))
            refine loopN _ ?_ ⟨(k_ + 1), (ys.set ((i : Int).toNat) (x2.set ((k_ : Int).toNat) (x1 &&& x4))), rfl, s31, s32, s33, s34, s35, s36, s37, s38, s39, (ieq rfl (by first | rfl | omega | (push_cast; omega))), H34, (by first | assumption | omega | simp | (simp; omega)), (by rw [List.length_set]; exact hl2), (by exact wi_step rt_m hs hs2 hx0 hr0 hx1 hx3), (by rw [List.length_set]; exact hyl)⟩
            omega
        ·
          have p3 := of_decide_eq_false b3
          refine ex (then_exit (loop_exit (inb_here (inb_normal (nx (rg (k (add rfl rfl s18 rfl (by unfold I64 at *; omega) (k (mv (v := .int .i64 ((i : Int) + 1)) rfl rfl (z ?_)))))))))))
          have H17 : HI M w w9 ([box bb2 #[.int .i64 mn, .slice a2 mn.toNat c2] 24, own w.heap.size 73 (.slice a2 mn.toNat c2) ss0, imm (.slice a1 msk.length c1) msk, imm (.slice a0 (newR mn).length c0) (newR mn), box bb1 #[.int .i64 0, .slice none 0 0] 24, box bb0 #[.int .i64 mn, .slice a_mr mr.length c_mr] 24, imm (.slice a_l l.length c_l) l, imm (.slice a_mr mr.length c_mr) mr] ++ rowItems w.heap.size 77 ss0 ys) := HI.pickT (l := [imm (.slice a3 x0.length c3) x0, box bb2 #[.int .i64 mn, .slice a2 mn.toNat c2] 24, own w.heap.size 73 (.slice a2 mn.toNat c2) ss0, imm (.slice a1 msk.length c1) msk, imm (.slice a0 (newR mn).length c0) (newR mn), box bb1 #[.int .i64 0, .slice none 0 0] 24, box bb0 #[.int .i64 mn, .slice a_mr mr.length c_mr] 24, imm (.slice a_l l.length c_l) l, imm (.slice a_mr mr.length c_mr) mr]) (l' := [box bb2 #[.int .i64 mn, .slice a2 mn.toNat c2] 24, own w.heap.size 73 (.slice a2 mn.toNat c2) ss0, imm (.slice a1 msk.length c1) msk, imm (.slice a0 (newR mn).length c0) (newR mn), box bb1 #[.int .i64 0, .slice none 0 0] 24, box bb0 #[.int .i64 mn, .slice a_mr mr.length c_mr] 24, imm (.slice a_l l.length c_l) l, imm (.slice a_mr mr.length c_mr) mr]) (t := rowItems w.heap.size 77 ss0 ys) H16 [1, 2, 3, 4, 5, 6, 7, 8] (by decide) rfl rfl
          refine loopN _ ?_ ⟨(i + 1), ys, rfl, s12, s13, s14, s15, s17, (ieq rfl (by first | rfl | omega | (push_cast; omega))), H17, (by first | assumption | omega | simp | (simp; omega)), (by first | exact hl | exact hl2), (by first | exact wi_skip rt_m hs hm2_ (by omega) (by simpa using b2) | exact wi_next rt_m hs hs2 hx0 hm2_ (by simpa using b2) (by omega)), (by first | exact hxl | exact hyl)⟩
          omega
    ·
      have p1 := of_decide_eq_false b1
      refine ex (then_exit (loop_exit (inb_here (nx (sq ?_)))))
      have H13 : HI M w w7 [own w.heap.size 73 (.slice a2 mn.toNat c2) xs, box bb2 #[.int .i64 mn, .slice a2 mn.toNat c2] 24, imm (.slice a1 msk.length c1) msk, imm (.slice a0 (newR mn).length c0) (newR mn), box bb1 #[.int .i64 0, .slice none 0 0] 24, box bb0 #[.int .i64 mn, .slice a_mr mr.length c_mr] 24, imm (.slice a_l l.length c_l) l, imm (.slice a_mr mr.length c_mr) mr] := HI.deep (l := [box bb2 #[.int .i64 mn, .slice a2 mn.toNat c2] 24, imm (.slice a1 msk.length c1) msk, imm (.slice a0 (newR mn).length c0) (newR mn), box bb1 #[.int .i64 0, .slice none 0 0] 24, box bb0 #[.int .i64 mn, .slice a_mr mr.length c_mr] 24, imm (.slice a_l l.length c_l) l, imm (.slice a_mr mr.length c_mr) mr]) (HI.pickT (l := [box bb2 #[.int .i64 mn, .slice a2 mn.toNat c2] 24, own w.heap.size 73 (.slice a2 mn.toNat c2) ss0, imm (.slice a1 msk.length c1) msk, imm (.slice a0 (newR mn).length c0) (newR mn), box bb1 #[.int .i64 0, .slice none 0 0] 24, box bb0 #[.int .i64 mn, .slice a_mr mr.length c_mr] 24, imm (.slice a_l l.length c_l) l, imm (.slice a_mr mr.length c_mr) mr]) (l' := [own w.heap.size 73 (.slice a2 mn.toNat c2) ss0, box bb2 #[.int .i64 mn, .slice a2 mn.toNat c2] 24, imm (.slice a1 msk.length c1) msk, imm (.slice a0 (newR mn).length c0) (newR mn), box bb1 #[.int .i64 0, .slice none 0 0] 24, box bb0 #[.int .i64 mn, .slice a_mr mr.length c_mr] 24, imm (.slice a_l l.length c_l) l, imm (.slice a_mr mr.length c_mr) mr]) (t := rowItems w.heap.size 77 ss0 xs) H12 [1, 0, 2, 3, 4, 5, 6, 7] (by decide) rfl rfl) (by first | assumption | (simp only [List.length_set]; assumption) | (simp only [List.length_set, List.length_replicate] at *; omega))
      refine rg (k (ldX H13 1 rfl ty24 rfl s9 (by decide) rfl (k (stX H13 4 rfl ty24 rfl rfl s7 rfl rfl rfl rfl ?_))))
      intro w8 (H14 : HI M w w8 [own w.heap.size 73 (.slice a2 mn.toNat c2) xs, box bb2 #[.int .i64 mn, .slice a2 mn.toNat c2] 24, imm (.slice a1 msk.length c1) msk, imm (.slice a0 (newR mn).length c0) (newR mn), box bb1 #[.int .i64 mn, .slice a2 mn.toNat c2] 24, box bb0 #[.int .i64 mn, .slice a_mr mr.length c_mr] 24, imm (.slice a_l l.length c_l) l, imm (.slice a_mr mr.length c_mr) mr])
      refine z (nx (rt (rc1 H14 4 rfl ty24 rfl rfl s7 rfl (by decide) ?_)))
      have e1 : (xs : List (List (BitVec 64))) = withinM mn mr l := by exact wi_end rt_m hs (by omega)
      have l1 : mn.toNat = (withinM mn mr l).length := by first | (rw [← e1]; omega) | (unfold withinM; rw [matP_len])
      have ev_ := cg1 (fun (n_1 : Nat) => (.agg #[.int .i64 mn, .slice a2 n_1 c2] : Value)) l1
      exact ⟨a2, c2, ev_, H14.below, (congrArg (fun (n_ : Nat) => OwnsG _ _ _ (withinM mn mr l) (.slice a2 n_ c2) _) l1).mp ((congrArg (fun (x_ : List (List (BitVec 64))) => OwnsG _ _ _ x_ (.slice a2 mn.toNat c2) _) e1).mp (H14.ownsG_out 0 rfl))⟩
end Go.Proofs.YtmhopljngkgidaaDoor
namespace Go.Proofs.YtmhopljngkgidaaDoor
open Go.Ew Go.RowKit
set_option linter.unusedVariables false
set_option linter.unusedSimpArgs false
attribute [local irreducible] WL WC SO Code.wp wpList retQ Ret
attribute [local irreducible] bitB hasW inR hasR setR countW countR subR words newR listR orR firstW tab8
theorem go68 : GoF Tryd.prog 68 := ⟨_, _, Tryd.func68, rfl, by kernel_rfl⟩
theorem go22 : GoF Tryd.prog 22 := ⟨_, _, Tryd.func22, rfl, by kernel_rfl⟩
theorem go31 : GoF Tryd.prog 31 := ⟨_, _, Tryd.func31, rfl, by kernel_rfl⟩
theorem go27 : GoF Tryd.prog 27 := ⟨_, _, Tryd.func27, rfl, by kernel_rfl⟩
theorem go23 : GoF Tryd.prog 23 := ⟨_, _, Tryd.func23, rfl, by kernel_rfl⟩
theorem go12 : GoF Tryd.prog 12 := ⟨_, _, Tryd.func12, rfl, by kernel_rfl⟩
theorem go13 : GoF Tryd.prog 13 := ⟨_, _, Tryd.func13, rfl, by kernel_rfl⟩
/- eyewitness/eyewitnesslaw04.awake -/
set_option maxRecDepth 100000 in
set_option maxHeartbeats 1600000 in
theorem awake04 {w : World} (hT : TabAt 0 w) : Calls Tryd.prog 21 #[] w (Ret fun v w' =>  v = .bool true ∧ Ext w w') := by
  refine enter 46 Tryd.func21 rfl rfl rfl fun f0 ha => ?_
  have H := HI.start (M0 := (fun _ => False)) (w := w) (fun _ h => h.elim)
  refine sq (rg (k (asg (v := .bool false) rfl rfl (z (nx (sq (rg (k (bd (v := .agg #[.int .i64 0, .int .i64 1]) rfl (pbc rfl (pbc rfl pb0)) (fun _ => by kernel_rfl) (k (bd (v := .agg #[.int .i64 1, .int .i64 2]) rfl (pbc rfl (pbc rfl pb0)) (fun _ => by kernel_rfl) (k (bs (xs := ([(0, 1), (1, 2)] : List (Int × Int))) (cells := #[.int .i64 0, .int .i64 1, .int .i64 1, .int .i64 2]) (e := 76) H rfl (pbc rfl (pbc rfl pb0)) (fun _ => by kernel_rfl) ⟨[.int .i64 0, .int .i64 1], [.int .i64 1, .int .i64 2], rfl, ⟨_, _, rfl, ⟨rfl, (show I64 (0) from (by first | (unfold I64; decide +kernel) | decide +kernel))⟩, ⟨rfl, (show I64 (1) from (by first | (unfold I64; decide +kernel) | decide +kernel))⟩⟩, ⟨[.int .i64 1, .int .i64 2], [], rfl, ⟨_, _, rfl, ⟨rfl, (show I64 (1) from (by first | (unfold I64; decide +kernel) | decide +kernel))⟩, ⟨rfl, (show I64 (2) from (by first | (unfold I64; decide +kernel) | decide +kernel))⟩⟩, rfl⟩⟩ rfl (by unfold maxLen; omega) ?_)))))))))))))
  intro g0 w0 xt0 (H0 : HI (fun _ => False) w w0 [own w.heap.size 76 (.slice (some ⟨g0, 0, none⟩) 2 2) ([(0, 1), (1, 2)] : List (Int × Int))])
  refine k ?_
  have H1 := H0.freeze 0 rfl
  have cc0 := ref03_Of (n := 3) (ps := ([(0, 1), (1, 2)] : List (Int × Int))) (w := w0) H1.mb (by first | (unfold I64; decide +kernel) | decide +kernel) (H1.rv 0 rfl)
  refine ca go68 rfl (ec rfl (ec rfl e0)) cc0 ?_
  rintro _ w1 ⟨a0, c0, rfl, xt1, rv0⟩
  have H2 := H1.ext xt1
  have H3 := H2.put (it := imm (.slice a0 (ofMR 3 ([(0, 1), (1, 2)] : List (Int × Int))).length c0) (ofMR 3 ([(0, 1), (1, 2)] : List (Int × Int)))) rfl rv0
  refine k (mv (v := .tuple #[.agg #[.int .i64 (ofMN 3 ([(0, 1), (1, 2)] : List (Int × Int))), .slice a0 (ofMR 3 ([(0, 1), (1, 2)] : List (Int × Int))).length c0], .int .i64 (ofME 3 ([(0, 1), (1, 2)] : List (Int × Int)))]) rfl rfl (k (xt rfl rfl rfl (k (xt rfl rfl rfl (k (al H3 ty24 ?_)))))))
  intro bb0 w2 xt2 (H4 : HI (fun _ => False) w w2 [box bb0 #[.int .i64 0, .slice none 0 0] 24, imm (.slice a0 (ofMR 3 ([(0, 1), (1, 2)] : List (Int × Int))).length c0) (ofMR 3 ([(0, 1), (1, 2)] : List (Int × Int))), imm (.slice (some ⟨g0, 0, none⟩) 2 2) ([(0, 1), (1, 2)] : List (Int × Int))])
  refine k (stX H4 0 rfl ty24 rfl rfl rfl rfl rfl rfl rfl ?_)
  intro w3 (H5 : HI (fun _ => False) w w3 [box bb0 #[.int .i64 (ofMN 3 ([(0, 1), (1, 2)] : List (Int × Int))), .slice a0 (ofMR 3 ([(0, 1), (1, 2)] : List (Int × Int))).length c0] 24, imm (.slice a0 (ofMR 3 ([(0, 1), (1, 2)] : List (Int × Int))).length c0) (ofMR 3 ([(0, 1), (1, 2)] : List (Int × Int))), imm (.slice (some ⟨g0, 0, none⟩) 2 2) ([(0, 1), (1, 2)] : List (Int × Int))])
  refine k (asg (v := .int .i64 (ofME 3 ([(0, 1), (1, 2)] : List (Int × Int)))) rfl rfl (z (nx (sq (rg (k (ldX H5 0 rfl ty24 rfl rfl (by decide) rfl (k ?_))))))))
  have cc1 := hull_Close (mn := (ofMN 3 ([(0, 1), (1, 2)] : List (Int × Int)))) (mr := (ofMR 3 ([(0, 1), (1, 2)] : List (Int × Int)))) (w := w3) H5.mb (by first | (unfold I64; decide +kernel) | decide +kernel) (H5.rv 1 rfl) (by decide +kernel)
  refine ca go22 rfl (ec rfl e0) cc1 ?_
  rintro _ w4 ⟨a1, c1, rfl, xt3, rv1⟩
  have H6 := H5.ownsG rv1
  refine k (al H6 ty24 ?_)
  intro bb1 w5 xt4 (H7 : HI (fun _ => False) w w5 [box bb1 #[.int .i64 0, .slice none 0 0] 24, own w.heap.size 73 (.slice a1 (closeM (ofMN 3 ([(0, 1), (1, 2)] : List (Int × Int))) (ofMR 3 ([(0, 1), (1, 2)] : List (Int × Int)))).length c1) (closeM (ofMN 3 ([(0, 1), (1, 2)] : List (Int × Int))) (ofMR 3 ([(0, 1), (1, 2)] : List (Int × Int)))), box bb0 #[.int .i64 (ofMN 3 ([(0, 1), (1, 2)] : List (Int × Int))), .slice a0 (ofMR 3 ([(0, 1), (1, 2)] : List (Int × Int))).length c0] 24, imm (.slice a0 (ofMR 3 ([(0, 1), (1, 2)] : List (Int × Int))).length c0) (ofMR 3 ([(0, 1), (1, 2)] : List (Int × Int))), imm (.slice (some ⟨g0, 0, none⟩) 2 2) ([(0, 1), (1, 2)] : List (Int × Int))])
  refine k (stX H7 0 rfl ty24 rfl rfl rfl rfl rfl rfl rfl ?_)
  intro w6 (H8 : HI (fun _ => False) w w6 [box bb1 #[.int .i64 (ofMN 3 ([(0, 1), (1, 2)] : List (Int × Int))), .slice a1 (closeM (ofMN 3 ([(0, 1), (1, 2)] : List (Int × Int))) (ofMR 3 ([(0, 1), (1, 2)] : List (Int × Int)))).length c1] 24, own w.heap.size 73 (.slice a1 (closeM (ofMN 3 ([(0, 1), (1, 2)] : List (Int × Int))) (ofMR 3 ([(0, 1), (1, 2)] : List (Int × Int)))).length c1) (closeM (ofMN 3 ([(0, 1), (1, 2)] : List (Int × Int))) (ofMR 3 ([(0, 1), (1, 2)] : List (Int × Int)))), box bb0 #[.int .i64 (ofMN 3 ([(0, 1), (1, 2)] : List (Int × Int))), .slice a0 (ofMR 3 ([(0, 1), (1, 2)] : List (Int × Int))).length c0] 24, imm (.slice a0 (ofMR 3 ([(0, 1), (1, 2)] : List (Int × Int))).length c0) (ofMR 3 ([(0, 1), (1, 2)] : List (Int × Int))), imm (.slice (some ⟨g0, 0, none⟩) 2 2) ([(0, 1), (1, 2)] : List (Int × Int))])
  refine z (nx (sq (rg (k (ldX H8 0 rfl ty24 rfl rfl (by decide) rfl (k ?_))))))
  have H9 := H8.freeze 1 rfl
  have cc2 := hull_Loop (mn := (ofMN 3 ([(0, 1), (1, 2)] : List (Int × Int)))) (mr := (closeM (ofMN 3 ([(0, 1), (1, 2)] : List (Int × Int))) (ofMR 3 ([(0, 1), (1, 2)] : List (Int × Int))))) (w := w6) H9.mb (by first | (unfold I64; decide +kernel) | decide +kernel) (H9.rv 1 rfl) (by decide +kernel)
  refine ca go31 rfl (ec rfl e0) cc2 ?_
  rintro _ w7 ⟨rfl, xt5⟩
  have H10 := H8.ext xt5
  refine k (mv (v := .tuple #[.int .i64 (((loopF (ofMN 3 ([(0, 1), (1, 2)] : List (Int × Int))) (closeM (ofMN 3 ([(0, 1), (1, 2)] : List (Int × Int))) (ofMR 3 ([(0, 1), (1, 2)] : List (Int × Int))))).getD 0 : Nat) : Int), .bool ((loopF (ofMN 3 ([(0, 1), (1, 2)] : List (Int × Int))) (closeM (ofMN 3 ([(0, 1), (1, 2)] : List (Int × Int))) (ofMR 3 ([(0, 1), (1, 2)] : List (Int × Int))))).isSome)]) rfl rfl (k (xt rfl rfl rfl (k (xt rfl rfl rfl (k (asg (v := .int .i64 (((loopF (ofMN 3 ([(0, 1), (1, 2)] : List (Int × Int))) (closeM (ofMN 3 ([(0, 1), (1, 2)] : List (Int × Int))) (ofMR 3 ([(0, 1), (1, 2)] : List (Int × Int))))).getD 0 : Nat) : Int)) rfl rfl (k (asg (v := .bool ((loopF (ofMN 3 ([(0, 1), (1, 2)] : List (Int × Int))) (closeM (ofMN 3 ([(0, 1), (1, 2)] : List (Int × Int))) (ofMR 3 ([(0, 1), (1, 2)] : List (Int × Int))))).isSome)) rfl rfl (z (nx (sq (rg (k (ldX H10 0 rfl ty24 rfl rfl (by decide) rfl (k ?_))))))))))))))))
  have H11 := H10.freeze 1 rfl
  have cc3 := hull_Add (mn := (ofMN 3 ([(0, 1), (1, 2)] : List (Int × Int)))) (mr := (closeM (ofMN 3 ([(0, 1), (1, 2)] : List (Int × Int))) (ofMR 3 ([(0, 1), (1, 2)] : List (Int × Int))))) (i := 3) (j := 0) (w := w7) H11.mb (by first | (unfold I64; decide +kernel) | decide +kernel) (H11.rv 1 rfl) (by first | (unfold I64; decide +kernel) | decide +kernel) (by first | (unfold I64; decide +kernel) | decide +kernel) (by decide +kernel)
  refine ca go27 rfl (ec rfl (ec rfl (ec rfl e0))) cc3 ?_
  rintro _ w8 ⟨a2, c2, rfl, xt6, rv2⟩
  have H12 := H11.ext xt6
  have H13 := H12.put (it := imm (.slice a2 (addMR (ofMN 3 ([(0, 1), (1, 2)] : List (Int × Int))) (closeM (ofMN 3 ([(0, 1), (1, 2)] : List (Int × Int))) (ofMR 3 ([(0, 1), (1, 2)] : List (Int × Int)))) 3 0).length c2) (addMR (ofMN 3 ([(0, 1), (1, 2)] : List (Int × Int))) (closeM (ofMN 3 ([(0, 1), (1, 2)] : List (Int × Int))) (ofMR 3 ([(0, 1), (1, 2)] : List (Int × Int)))) 3 0)) rfl rv2
  refine k (mv (v := .tuple #[.agg #[.int .i64 (setMN (ofMN 3 ([(0, 1), (1, 2)] : List (Int × Int))) 3 0), .slice a2 (addMR (ofMN 3 ([(0, 1), (1, 2)] : List (Int × Int))) (closeM (ofMN 3 ([(0, 1), (1, 2)] : List (Int × Int))) (ofMR 3 ([(0, 1), (1, 2)] : List (Int × Int)))) 3 0).length c2], .int .i64 (setME (ofMN 3 ([(0, 1), (1, 2)] : List (Int × Int))) 3 0)]) rfl rfl (k (xt rfl rfl rfl (k (xt rfl rfl rfl (k (al H13 ty24 ?_)))))))
  intro bb2 w9 xt7 (H14 : HI (fun _ => False) w w9 [box bb2 #[.int .i64 0, .slice none 0 0] 24, imm (.slice a2 (addMR (ofMN 3 ([(0, 1), (1, 2)] : List (Int × Int))) (closeM (ofMN 3 ([(0, 1), (1, 2)] : List (Int × Int))) (ofMR 3 ([(0, 1), (1, 2)] : List (Int × Int)))) 3 0).length c2) (addMR (ofMN 3 ([(0, 1), (1, 2)] : List (Int × Int))) (closeM (ofMN 3 ([(0, 1), (1, 2)] : List (Int × Int))) (ofMR 3 ([(0, 1), (1, 2)] : List (Int × Int)))) 3 0), box bb1 #[.int .i64 (ofMN 3 ([(0, 1), (1, 2)] : List (Int × Int))), .slice a1 (closeM (ofMN 3 ([(0, 1), (1, 2)] : List (Int × Int))) (ofMR 3 ([(0, 1), (1, 2)] : List (Int × Int)))).length c1] 24, imm (.slice a1 (closeM (ofMN 3 ([(0, 1), (1, 2)] : List (Int × Int))) (ofMR 3 ([(0, 1), (1, 2)] : List (Int × Int)))).length c1) (closeM (ofMN 3 ([(0, 1), (1, 2)] : List (Int × Int))) (ofMR 3 ([(0, 1), (1, 2)] : List (Int × Int)))), box bb0 #[.int .i64 (ofMN 3 ([(0, 1), (1, 2)] : List (Int × Int))), .slice a0 (ofMR 3 ([(0, 1), (1, 2)] : List (Int × Int))).length c0] 24, imm (.slice a0 (ofMR 3 ([(0, 1), (1, 2)] : List (Int × Int))).length c0) (ofMR 3 ([(0, 1), (1, 2)] : List (Int × Int))), imm (.slice (some ⟨g0, 0, none⟩) 2 2) ([(0, 1), (1, 2)] : List (Int × Int))])
  refine k (stX H14 0 rfl ty24 rfl rfl rfl rfl rfl rfl rfl ?_)
  intro w10 (H15 : HI (fun _ => False) w w10 [box bb2 #[.int .i64 (setMN (ofMN 3 ([(0, 1), (1, 2)] : List (Int × Int))) 3 0), .slice a2 (addMR (ofMN 3 ([(0, 1), (1, 2)] : List (Int × Int))) (closeM (ofMN 3 ([(0, 1), (1, 2)] : List (Int × Int))) (ofMR 3 ([(0, 1), (1, 2)] : List (Int × Int)))) 3 0).length c2] 24, imm (.slice a2 (addMR (ofMN 3 ([(0, 1), (1, 2)] : List (Int × Int))) (closeM (ofMN 3 ([(0, 1), (1, 2)] : List (Int × Int))) (ofMR 3 ([(0, 1), (1, 2)] : List (Int × Int)))) 3 0).length c2) (addMR (ofMN 3 ([(0, 1), (1, 2)] : List (Int × Int))) (closeM (ofMN 3 ([(0, 1), (1, 2)] : List (Int × Int))) (ofMR 3 ([(0, 1), (1, 2)] : List (Int × Int)))) 3 0), box bb1 #[.int .i64 (ofMN 3 ([(0, 1), (1, 2)] : List (Int × Int))), .slice a1 (closeM (ofMN 3 ([(0, 1), (1, 2)] : List (Int × Int))) (ofMR 3 ([(0, 1), (1, 2)] : List (Int × Int)))).length c1] 24, imm (.slice a1 (closeM (ofMN 3 ([(0, 1), (1, 2)] : List (Int × Int))) (ofMR 3 ([(0, 1), (1, 2)] : List (Int × Int)))).length c1) (closeM (ofMN 3 ([(0, 1), (1, 2)] : List (Int × Int))) (ofMR 3 ([(0, 1), (1, 2)] : List (Int × Int)))), box bb0 #[.int .i64 (ofMN 3 ([(0, 1), (1, 2)] : List (Int × Int))), .slice a0 (ofMR 3 ([(0, 1), (1, 2)] : List (Int × Int))).length c0] 24, imm (.slice a0 (ofMR 3 ([(0, 1), (1, 2)] : List (Int × Int))).length c0) (ofMR 3 ([(0, 1), (1, 2)] : List (Int × Int))), imm (.slice (some ⟨g0, 0, none⟩) 2 2) ([(0, 1), (1, 2)] : List (Int × Int))])
  refine k (asg (v := .int .i64 (setME (ofMN 3 ([(0, 1), (1, 2)] : List (Int × Int))) 3 0)) rfl rfl (z (nx (sq (rg (k (ldX H15 2 rfl ty24 rfl rfl (by decide) rfl (k ?_))))))))
  have cc4 := ref03_Has (mn := (ofMN 3 ([(0, 1), (1, 2)] : List (Int × Int)))) (mr := (closeM (ofMN 3 ([(0, 1), (1, 2)] : List (Int × Int))) (ofMR 3 ([(0, 1), (1, 2)] : List (Int × Int))))) (i := 0) (j := 2) (w := w10) H15.mb (by first | (unfold I64; decide +kernel) | decide +kernel) (H15.rv 3 rfl) (by first | (unfold I64; decide +kernel) | decide +kernel) (by first | (unfold I64; decide +kernel) | decide +kernel) (by decide +kernel) (by decide +kernel) (by decide +kernel)
  refine ca go45 rfl (ec rfl (ec rfl (ec rfl e0))) cc4 ?_
  rintro _ w11 ⟨rfl, xt8⟩
  have H16 := H15.ext xt8
  refine k (mv (v := .bool (hasM (ofMN 3 ([(0, 1), (1, 2)] : List (Int × Int))) (closeM (ofMN 3 ([(0, 1), (1, 2)] : List (Int × Int))) (ofMR 3 ([(0, 1), (1, 2)] : List (Int × Int)))) 0 2)) rfl rfl ?_)
  have tr0 : (hasM (ofMN 3 ([(0, 1), (1, 2)] : List (Int × Int))) (closeM (ofMN 3 ([(0, 1), (1, 2)] : List (Int × Int))) (ofMR 3 ([(0, 1), (1, 2)] : List (Int × Int)))) 0 2) = true := (by decide +kernel)
  refine k (gy rfl rfl rfl tr0 (ldX H16 2 rfl ty24 rfl rfl (by decide) rfl (k (gy rfl rfl rfl tr0 ?_))))
  have cc5 := hull_Closed (mn := (ofMN 3 ([(0, 1), (1, 2)] : List (Int × Int)))) (mr := (closeM (ofMN 3 ([(0, 1), (1, 2)] : List (Int × Int))) (ofMR 3 ([(0, 1), (1, 2)] : List (Int × Int))))) (w := w11) H16.mb (hT.ext H16.below) (by first | (unfold I64; decide +kernel) | decide +kernel) (H16.rv 3 rfl) (by decide +kernel)
  refine ca go23 rfl (ec rfl e0) cc5 ?_
  rintro _ w12 ⟨rfl, xt9⟩
  have H17 := H16.ext xt9
  refine k (pickT rfl rfl rfl rfl tr0 rfl (k (mv (v := .bool (closedM (ofMN 3 ([(0, 1), (1, 2)] : List (Int × Int))) (closeM (ofMN 3 ([(0, 1), (1, 2)] : List (Int × Int))) (ofMR 3 ([(0, 1), (1, 2)] : List (Int × Int)))))) rfl rfl ?_)))
  have tr1 : (closedM (ofMN 3 ([(0, 1), (1, 2)] : List (Int × Int))) (closeM (ofMN 3 ([(0, 1), (1, 2)] : List (Int × Int))) (ofMR 3 ([(0, 1), (1, 2)] : List (Int × Int))))) = true := (by decide +kernel)
  refine k (gy rfl rfl rfl tr1 (ldX H17 4 rfl ty24 rfl rfl (by decide) rfl (k (gy rfl rfl rfl tr1 ?_))))
  have cc6 := hull_Closed (mn := (ofMN 3 ([(0, 1), (1, 2)] : List (Int × Int)))) (mr := (ofMR 3 ([(0, 1), (1, 2)] : List (Int × Int)))) (w := w12) H17.mb (hT.ext H17.below) (by first | (unfold I64; decide +kernel) | decide +kernel) (H17.rv 5 rfl) (by decide +kernel)
  refine ca go23 rfl (ec rfl e0) cc6 ?_
  rintro _ w13 ⟨rfl, xt10⟩
  have H18 := H17.ext xt10
  refine k (gy rfl rfl rfl tr1 (not_ rfl rfl (k (pickT rfl rfl rfl rfl tr1 rfl (k (mv (v := .bool (!(closedM (ofMN 3 ([(0, 1), (1, 2)] : List (Int × Int))) (ofMR 3 ([(0, 1), (1, 2)] : List (Int × Int)))))) rfl rfl ?_))))))
  have tr2 : (closedM (ofMN 3 ([(0, 1), (1, 2)] : List (Int × Int))) (ofMR 3 ([(0, 1), (1, 2)] : List (Int × Int)))) = false := (by decide +kernel)
  refine k (gy rfl rfl rfl (by rw [show (closedM (ofMN 3 ([(0, 1), (1, 2)] : List (Int × Int))) (ofMR 3 ([(0, 1), (1, 2)] : List (Int × Int)))) = false from tr2]; rfl) (mv (v := .bool ((loopF (ofMN 3 ([(0, 1), (1, 2)] : List (Int × Int))) (closeM (ofMN 3 ([(0, 1), (1, 2)] : List (Int × Int))) (ofMR 3 ([(0, 1), (1, 2)] : List (Int × Int))))).isSome)) rfl rfl (k (gy rfl rfl rfl (by rw [show (closedM (ofMN 3 ([(0, 1), (1, 2)] : List (Int × Int))) (ofMR 3 ([(0, 1), (1, 2)] : List (Int × Int)))) = false from tr2]; rfl) (not_ rfl rfl (k (pickT rfl rfl rfl rfl (by rw [show (closedM (ofMN 3 ([(0, 1), (1, 2)] : List (Int × Int))) (ofMR 3 ([(0, 1), (1, 2)] : List (Int × Int)))) = false from tr2]; rfl) rfl (k (mv (v := .bool (!((loopF (ofMN 3 ([(0, 1), (1, 2)] : List (Int × Int))) (closeM (ofMN 3 ([(0, 1), (1, 2)] : List (Int × Int))) (ofMR 3 ([(0, 1), (1, 2)] : List (Int × Int))))).isSome))) rfl rfl ?_)))))))))
  have tr3 : ((loopF (ofMN 3 ([(0, 1), (1, 2)] : List (Int × Int))) (closeM (ofMN 3 ([(0, 1), (1, 2)] : List (Int × Int))) (ofMR 3 ([(0, 1), (1, 2)] : List (Int × Int))))).isSome) = false := (by decide +kernel)
  refine k (gy rfl rfl rfl (by rw [show ((loopF (ofMN 3 ([(0, 1), (1, 2)] : List (Int × Int))) (closeM (ofMN 3 ([(0, 1), (1, 2)] : List (Int × Int))) (ofMR 3 ([(0, 1), (1, 2)] : List (Int × Int))))).isSome) = false from tr3]; rfl) (mv (v := .int .i64 (setME (ofMN 3 ([(0, 1), (1, 2)] : List (Int × Int))) 3 0)) rfl rfl (k (gy rfl rfl rfl (by rw [show ((loopF (ofMN 3 ([(0, 1), (1, 2)] : List (Int × Int))) (closeM (ofMN 3 ([(0, 1), (1, 2)] : List (Int × Int))) (ofMR 3 ([(0, 1), (1, 2)] : List (Int × Int))))).isSome) = false from tr3]; rfl) (eql rfl rfl rfl rfl (k (pickT rfl rfl rfl rfl (by rw [show ((loopF (ofMN 3 ([(0, 1), (1, 2)] : List (Int × Int))) (closeM (ofMN 3 ([(0, 1), (1, 2)] : List (Int × Int))) (ofMR 3 ([(0, 1), (1, 2)] : List (Int × Int))))).isSome) = false from tr3]; rfl) rfl (k (asg (v := .bool (decide ((setME (ofMN 3 ([(0, 1), (1, 2)] : List (Int × Int))) 3 0) = 1))) rfl rfl (z (nx (rt (r1 rfl rfl ?_)))))))))))))
  have tr4 : (decide ((setME (ofMN 3 ([(0, 1), (1, 2)] : List (Int × Int))) 3 0) = 1)) = true := (by decide +kernel)
  have e0 : (decide ((setME (ofMN 3 ([(0, 1), (1, 2)] : List (Int × Int))) 3 0) = 1) : Bool) = true := by exact tr4
  have ev_ := cg1 (fun (x_0 : Bool) => (.bool x_0 : Value)) e0
  exact ⟨ev_, H18.below⟩
/- eyewitness/eyewitnesslaw04.may -/
set_option maxRecDepth 100000 in
set_option maxHeartbeats 1600000 in
theorem may04 {M : Nat → Prop} {w : World} {mn : Int} {a_mr : Option Addr} {c_mr : Nat} {mr : List (List (BitVec 64))} (hM : ∀ b, M b → b < w.heap.size) (h_mn : I64 mn) (h_mr : RV M w (.slice a_mr mr.length c_mr) mr) : Calls Tryd.prog 20 #[.agg #[.int .i64 mn, .slice a_mr mr.length c_mr]] w (Ret fun v w' =>  v = .bool (smallM mr 16 && rightS mn mr) ∧ Ext w w') := by
  refine enter 9 Tryd.func20 rfl rfl rfl fun f0 ha => ?_
  have H := HI.start (M0 := M) (w := w) hM
  have H0 := H.put (it := imm (.slice a_mr mr.length c_mr) mr) rfl (by rw [MS_nil]; exact h_mr)
  have ln_mr := rv_len h_mr
  have i0 : f0 0 = .agg #[.int .i64 mn, .slice a_mr mr.length c_mr] := ha 0 (by simp)
  refine sq (rg (k (bx H0 rfl i0 ?_)))
  intro bb0 w0 xt0 (H1 : HI M w w0 [box bb0 #[.int .i64 mn, .slice a_mr mr.length c_mr] 24, imm (.slice a_mr mr.length c_mr) mr])
  refine k (asg (v := .bool false) rfl rfl (z (nx (sq (rg (k (ldX H1 0 rfl ty24 rfl rfl (by decide) rfl (k ?_))))))))
  have cc0 := ref03_Small (mn := mn) (mr := mr) (mo := 16) (w := w0) H1.mb (by unfold I64 at *; omega) (H1.rv 1 rfl) (by unfold I64 at *; omega)
  refine ca go12 rfl (ec rfl (ec rfl e0)) cc0 ?_
  rintro _ w1 ⟨rfl, xt1⟩
  have H2 := H1.ext xt1
  refine k (mv (v := .bool (smallM mr 16)) rfl rfl ?_)
  rcases Bool.eq_false_or_eq_true (smallM mr 16) with b0 | b0
  · -- smallM mr 16 is True
    refine k (gy rfl rfl rfl b0 (ldX H2 0 rfl ty24 rfl rfl (by decide) rfl (k (gy rfl rfl rfl b0 ?_))))
    have cc1 := ref03_Right (mn := mn) (mr := mr) (w := w1) H2.mb (by unfold I64 at *; omega) (H2.rv 1 rfl)
    refine ca go13 rfl (ec rfl e0) cc1 ?_
    rintro _ w2 ⟨rfl, xt2⟩
    have H3 := H2.ext xt2
    refine k (pickT rfl rfl rfl rfl b0 rfl (k (asg (v := .bool (rightS mn mr)) rfl rfl (z (nx (rt (r1 rfl rfl ?_)))))))
    have e0 : (rightS mn mr : Bool) = (smallM mr 16 && rightS mn mr) := by rw [b0]; rfl
    have ev_ := cg1 (fun (x_0 : Bool) => (.bool x_0 : Value)) e0
    exact ⟨ev_, H3.below⟩
  · -- smallM mr 16 is False
    refine k (gn rfl rfl rfl b0 (k (gn rfl rfl rfl b0 (k (pickF rfl rfl rfl rfl b0 rfl (k (asg (v := .bool false) rfl rfl (z (nx (rt (r1 rfl rfl ?_)))))))))))
    have e0 : (false : Bool) = (smallM mr 16 && rightS mn mr) := by rw [b0]; rfl
    have ev_ := cg1 (fun (x_0 : Bool) => (.bool x_0 : Value)) e0
    exact ⟨ev_, H2.below⟩
end Go.Proofs.YtmhopljngkgidaaDoor
namespace Go.Proofs.YtmhopljngkgidaaDoor
open Go.Ew Go.RowKit
set_option linter.unusedVariables false
set_option linter.unusedSimpArgs false
attribute [local irreducible] WL WC SO Code.wp wpList retQ Ret
attribute [local irreducible] bitB hasW inR hasR setR countW countR subR words newR listR orR firstW tab8
theorem un37 : Tryd.prog.underlying 37 = some (.slice 39) := by kernel_rfl
theorem go21 : GoF Tryd.prog 21 := ⟨_, _, Tryd.func21, rfl, by kernel_rfl⟩
theorem ty39 : TyF Tryd.prog 39 2 true 2 (.agg #[.int .u8 0, .int .u8 0]) := ⟨by kernel_rfl, by kernel_rfl⟩
theorem un39 : Tryd.prog.underlying 39 = some (.array 2 5) := by kernel_rfl
theorem go18 : GoF Tryd.prog 18 := ⟨_, _, Tryd.func18, rfl, by kernel_rfl⟩
/- eyewitness/eyewitnesslaw04.HullOrder -/
set_option maxRecDepth 100000 in
set_option maxHeartbeats 1600000 in
theorem law_HullOrder {M : Nat → Prop} {w : World} {n : Int} {a_l : Option Addr} {c_l : Nat} {l : List (BitVec 8 × BitVec 8)} {tt : Int} (hM : ∀ b, M b → b < w.heap.size) (hT : TabAt 0 w) (h_n : 0 ≤ n ∧ n ≤ 255) (h_l : RV M w (.slice a_l l.length c_l) l) (h_tt : 0 ≤ tt ∧ tt ≤ 255) : Calls Tryd.prog 5 #[.int .u8 n, .slice a_l l.length c_l, .int .u8 tt] w (Ret fun v w' =>  v = .bool true ∧ Ext w w') := by
  refine enter 91 Tryd.func5 rfl rfl rfl fun f0 ha => ?_
  have H := HI.start (M0 := M) (w := w) hM
  have H0 := H.put (it := imm (.slice a_l l.length c_l) l) rfl (by rw [MS_nil]; exact h_l)
  have ln_l := rv_len h_l
  have i0 : f0 0 = .int .u8 n := ha 0 (by simp)
  have i1 : f0 1 = .slice a_l l.length c_l := ha 1 (by simp)
  have i2 : f0 2 = .int .u8 tt := ha 2 (by simp)
  have hK_ : 0 < (1 + n % 12) := by omega
  have hK4_ : (1 + n % 12) ≤ 4096 := by omega
  refine sq (rg (k (asg (v := .bool false) rfl rfl (z (nx (sq (rg (k (mv rfl i0 (k (rem rfl rfl rfl rfl (by first | omega | (simp; omega)) (k (cvI rfl rfl (by unfold I64 at *; omega) un5 un3 (k (add rfl rfl rfl rfl (by unfold I64 at *; omega) (k (asg (v := .int .i64 (1 + (n % 12))) rfl rfl (z (nx (sq (sq (rg (k (mv rfl i1 (k (lnS rfl rfl un37 (k (gtr rfl rfl rfl rfl (z (nx ?_))))))))))))))))))))))))))))))
  refine cd (b := decide (40 < (l.length : Int))) rfl rfl (fun b0 => ?_) (fun b0 => ?_)
  ·
    have p0 := of_decide_eq_true b0
    refine sq (rg (k ?_))
    have cc0 := awake04 (w := w) (hT.ext H0.below)
    refine ca go21 rfl e0 cc0 ?_
    rintro _ w0 ⟨rfl, xt0⟩
    have H1 := H0.ext xt0
    refine k (asg (v := .bool true) rfl rfl (z (nx (rt (then_ret (r1 rfl rfl ?_))))))
    exact ⟨rfl, H1.below⟩
  ·
    have p0 := of_decide_eq_false b0
    refine sk (nx (sq (rg (k (mv (v := .int .i64 (1 + (n % 12))) rfl rfl (k ?_))))))
    have cc0 := ref03_New (n := (1 + (n % 12))) (w := w) H0.mb (by unfold I64 at *; omega)
    refine ca go26 rfl (ec rfl e0) cc0 ?_
    rintro _ w0 ⟨a0, c0, rfl, xt0, rv0⟩
    have H1 := H0.ownsG rv0
    refine k (mv (v := .tuple #[.agg #[.int .i64 (newMN (1 + (n % 12))), .slice a0 (newMR (1 + (n % 12))).length c0], .int .i64 (newME (1 + (n % 12)))]) rfl rfl (k (xt rfl rfl rfl (k (xt rfl rfl rfl (k (al H1 ty24 ?_)))))))
    intro bb0 w1 xt1 (H2 : HI M w w1 [box bb0 #[.int .i64 0, .slice none 0 0] 24, own w.heap.size 73 (.slice a0 (newMR (1 + (n % 12))).length c0) (newMR (1 + (n % 12))), imm (.slice a_l l.length c_l) l])
    refine k (stX H2 0 rfl ty24 rfl rfl rfl rfl rfl rfl rfl ?_)
    intro w2 (H3 : HI M w w2 [box bb0 #[.int .i64 (newMN (1 + (n % 12))), .slice a0 (newMR (1 + (n % 12))).length c0] 24, own w.heap.size 73 (.slice a0 (newMR (1 + (n % 12))).length c0) (newMR (1 + (n % 12))), imm (.slice a_l l.length c_l) l])
    refine k (asg (v := .int .i64 (newME (1 + (n % 12)))) rfl rfl (z (nx (sq (rg (k (ldX H3 0 rfl ty24 rfl rfl (by decide) rfl (k (al H3 ty24 ?_)))))))))
    intro bb1 w3 xt2 (H4 : HI M w w3 [box bb1 #[.int .i64 0, .slice none 0 0] 24, box bb0 #[.int .i64 (newMN (1 + (n % 12))), .slice a0 (newMR (1 + (n % 12))).length c0] 24, own w.heap.size 73 (.slice a0 (newMR (1 + (n % 12))).length c0) (newMR (1 + (n % 12))), imm (.slice a_l l.length c_l) l])
    refine k (stX H4 0 rfl ty24 rfl rfl rfl rfl rfl rfl rfl ?_)
    intro w4 (H5 : HI M w w4 [box bb1 #[.int .i64 (newMN (1 + (n % 12))), .slice a0 (newMR (1 + (n % 12))).length c0] 24, box bb0 #[.int .i64 (newMN (1 + (n % 12))), .slice a0 (newMR (1 + (n % 12))).length c0] 24, own w.heap.size 73 (.slice a0 (newMR (1 + (n % 12))).length c0) (newMR (1 + (n % 12))), imm (.slice a_l l.length c_l) l])
    refine z (nx (sq (sq (rg (k (asg (v := .int .i64 0) rfl rfl (z (nx (bk ?_)))))))))
    have H6 := H5.freeze 2 rfl
    have H7 := H6.put (it := imm (.slice a0 (newMR (1 + (n % 12))).length c0) (newMR (1 + (n % 12)))) rfl (H6.rv 2 rfl)
    have H8 := H7.put (it := imm (.slice a0 (newMR (1 + (n % 12))).length c0) (newMR (1 + (n % 12)))) rfl (H7.rv 3 rfl)
    refine lp (fun m f w' => ∃ (j : Nat) (n_ : Int) (rs : List (List (BitVec 64))) (n2_ : Int) (rs2 : List (List (BitVec 64))) (a1 : Option Addr) (c1 : Nat) (a2 : Option Addr) (c2 : Nat), m = l.length - j ∧ f 1 = .slice a_l l.length c_l ∧ f 2 = .int .u8 tt ∧ f 7 = .int .i64 (1 + (n % 12)) ∧ f 8 = .pointer (some ⟨bb0, 0, none⟩) ∧ f 10 = .pointer (some ⟨bb1, 0, none⟩) ∧ f 11 = .int .i64 (j : Int) ∧  HI M w w' [imm (.slice a2 rs2.length c2) rs2, imm (.slice a1 rs.length c1) rs, box bb1 #[.int .i64 n2_, .slice a2 rs2.length c2] 24, box bb0 #[.int .i64 n_, .slice a1 rs.length c1] 24, imm (.slice a0 (newMR (1 + (n % 12))).length c0) (newMR (1 + (n % 12))), imm (.slice a_l l.length c_l) l] ∧ (j ≤ l.length) ∧ (n_ = (1 + n % 12)) ∧ (rs = hulK (1 + n % 12) (rotL l tt.toNat j)) ∧ (n2_ = (1 + n % 12)) ∧ (rs2 = allK (1 + n % 12) (l.take j))) _ ⟨0, (newMN (1 + n % 12)), (newMR (1 + n % 12)), (newMN (1 + n % 12)), (newMR (1 + n % 12)), a0, c0, a0, c0, rfl, i1, i2, rfl, rfl, rfl, (ieq rfl (by first | rfl | omega | simp)), H8, (by first | assumption | omega | simp | (simp; omega)), (by exact (newM_yes (okN_iff.2 (by omega))).1), (by exact hulK_zero hK_ hK4_), (by exact (newM_yes (okN_iff.2 (by omega))).1), (by exact allK_zero hK_ hK4_)⟩ ?_
    rintro _ f0 w5 ⟨j, n_, rs, n2_, rs2, a1, c1, a2, c2, rfl, s0, s1, s2, s3, s4, s5, H9, hk, h1, h2, h3, h4⟩
    refine sq (sq (rg (k (mv rfl s5 (k (mv rfl s0 (k (lnS rfl rfl un37 (k (lss rfl rfl rfl rfl (z (nx ?_))))))))))))
    refine cd (b := decide ((j : Int) < (l.length : Int))) rfl rfl (fun b1 => ?_) (fun b1 => ?_)
    ·
      have p1 := of_decide_eq_true b1
      refine sk (nx (sq (bk (sq (rg (k (mv rfl s0 (k (mv rfl s5 (k (mv rfl s1 (k (cvI rfl rfl (by unfold I64 at *; omega) un5 un3 (k (add rfl rfl rfl rfl (by unfold I64 at *; omega) (k (mv rfl s0 (k (lnS rfl rfl un37 (k (rem rfl rfl rfl rfl (by first | omega | (simp; omega)) (k (ia (H9.rv 5 rfl) rfl rfl rfl rfl (by exact ⟨Int.emod_nonneg _ (by omega), Int.emod_lt_of_pos _ (by omega)⟩) un37 ty39 ?_)))))))))))))))))))))))
      intro ad0 x0 hx0 hA0
      refine k (ldW hA0.w ty39 rfl rfl ?_)
      intro v0 rv1
      obtain ⟨_, ⟨_, _, rfl, rfl, rfl⟩, rfl⟩ := rv1
      refine k (al H9 ty39 ?_)
      intro bb2 w6 xt3 (H10 : HI M w w6 [box bb2 #[.int .u8 0, .int .u8 0] 39, imm (.slice a2 rs2.length c2) rs2, imm (.slice a1 rs.length c1) rs, box bb1 #[.int .i64 n2_, .slice a2 rs2.length c2] 24, box bb0 #[.int .i64 n_, .slice a1 rs.length c1] 24, imm (.slice a0 (newMR (1 + (n % 12))).length c0) (newMR (1 + (n % 12))), imm (.slice a_l l.length c_l) l])
      refine k (stX H10 0 rfl ty39 rfl rfl rfl rfl rfl rfl rfl ?_)
      intro w7 (H11 : HI M w w7 [box bb2 #[U8 x0.1, U8 x0.2] 39, imm (.slice a2 rs2.length c2) rs2, imm (.slice a1 rs.length c1) rs, box bb1 #[.int .i64 n2_, .slice a2 rs2.length c2] 24, box bb0 #[.int .i64 n_, .slice a1 rs.length c1] 24, imm (.slice a0 (newMR (1 + (n % 12))).length c0) (newMR (1 + (n % 12))), imm (.slice a_l l.length c_l) l])
      refine z (nx (sq ?_))
      have hin_ : inM (1 + n % 12) [((x0.1.toNat : Nat) : Int) % (1 + n % 12), ((x0.2.toNat : Nat) : Int) % (1 + n % 12)] = true := prK_in hK_ x0
      have hr0_ := inM_two.1 hin_
      refine drn [.v, .v, .v, .v, .v, .v, .v, .v, .v, .v, .v, .v, .v, .v, .v, .n, .s 15 13, .v] [fun (N : Nat → Prop) (v : Value) (w' : World) => v = .agg #[.int .i64 n_, .slice a1 rs.length c1], fun (N : Nat → Prop) (v : Value) (w' : World) => v = .pointer (some ⟨bb2, 0, none⟩), fun (N : Nat → Prop) (v : Value) (w' : World) => v = U8 x0.1, fun (N : Nat → Prop) (v : Value) (w' : World) => v = .int .i64 (x0.1.toNat : Int), fun (N : Nat → Prop) (v : Value) (w' : World) => v = .int .i64 (1 + (n % 12)), fun (N : Nat → Prop) (v : Value) (w' : World) => v = .int .i64 ((x0.1.toNat : Int) % (1 + (n % 12))), fun (N : Nat → Prop) (v : Value) (w' : World) => v = .pointer (some ⟨bb2, 1, none⟩), fun (N : Nat → Prop) (v : Value) (w' : World) => v = U8 x0.2, fun (N : Nat → Prop) (v : Value) (w' : World) => v = .int .i64 (x0.2.toNat : Int), fun (N : Nat → Prop) (v : Value) (w' : World) => v = .int .i64 (1 + (n % 12)), fun (N : Nat → Prop) (v : Value) (w' : World) => v = .int .i64 ((x0.2.toNat : Int) % (1 + (n % 12))), fun (N : Nat → Prop) (v : Value) (w' : World) => ∃ (a3 : Option Addr) (c3 : Nat), v = .tuple #[.agg #[.int .i64 (setMN n_ ((x0.1.toNat : Int) % (1 + (n % 12))) ((x0.2.toNat : Int) % (1 + (n % 12)))), .slice a3 (addMR n_ rs ((x0.1.toNat : Int) % (1 + (n % 12))) ((x0.2.toNat : Int) % (1 + (n % 12)))).length c3], .int .i64 (setME n_ ((x0.1.toNat : Int) % (1 + (n % 12))) ((x0.2.toNat : Int) % (1 + (n % 12))))] ∧ RV (MN (MS M [box bb2 #[U8 x0.1, U8 x0.2] 39, imm (.slice a2 rs2.length c2) rs2, imm (.slice a1 rs.length c1) rs, box bb1 #[.int .i64 n2_, .slice a2 rs2.length c2] 24, box bb0 #[.int .i64 n_, .slice a1 rs.length c1] 24, imm (.slice a0 (newMR (1 + (n % 12))).length c0) (newMR (1 + (n % 12))), imm (.slice a_l l.length c_l) l]) N) w' (.slice a3 (addMR n_ rs ((x0.1.toNat : Int) % (1 + (n % 12))) ((x0.2.toNat : Int) % (1 + (n % 12)))).length c3) (addMR n_ rs ((x0.1.toNat : Int) % (1 + (n % 12))) ((x0.2.toNat : Int) % (1 + (n % 12)))), fun (N : Nat → Prop) (v : Value) (w' : World) => ∃ (a3 : Option Addr) (c3 : Nat), v = .tuple #[.agg #[.int .i64 (setMN n_ ((x0.1.toNat : Int) % (1 + (n % 12))) ((x0.2.toNat : Int) % (1 + (n % 12)))), .slice a3 (addMR n_ rs ((x0.1.toNat : Int) % (1 + (n % 12))) ((x0.2.toNat : Int) % (1 + (n % 12)))).length c3], .int .i64 (setME n_ ((x0.1.toNat : Int) % (1 + (n % 12))) ((x0.2.toNat : Int) % (1 + (n % 12))))] ∧ RV (MN (MS M [box bb2 #[U8 x0.1, U8 x0.2] 39, imm (.slice a2 rs2.length c2) rs2, imm (.slice a1 rs.length c1) rs, box bb1 #[.int .i64 n2_, .slice a2 rs2.length c2] 24, box bb0 #[.int .i64 n_, .slice a1 rs.length c1] 24, imm (.slice a0 (newMR (1 + (n % 12))).length c0) (newMR (1 + (n % 12))), imm (.slice a_l l.length c_l) l]) N) w' (.slice a3 (addMR n_ rs ((x0.1.toNat : Int) % (1 + (n % 12))) ((x0.2.toNat : Int) % (1 + (n % 12)))).length c3) (addMR n_ rs ((x0.1.toNat : Int) % (1 + (n % 12))) ((x0.2.toNat : Int) % (1 + (n % 12)))), fun (N : Nat → Prop) (v : Value) (w' : World) => ∃ (a3 : Option Addr) (c3 : Nat), v = .agg #[.int .i64 (setMN n_ ((x0.1.toNat : Int) % (1 + (n % 12))) ((x0.2.toNat : Int) % (1 + (n % 12)))), .slice a3 (addMR n_ rs ((x0.1.toNat : Int) % (1 + (n % 12))) ((x0.2.toNat : Int) % (1 + (n % 12)))).length c3] ∧ RV (MN (MS M [box bb2 #[U8 x0.1, U8 x0.2] 39, imm (.slice a2 rs2.length c2) rs2, imm (.slice a1 rs.length c1) rs, box bb1 #[.int .i64 n2_, .slice a2 rs2.length c2] 24, box bb0 #[.int .i64 n_, .slice a1 rs.length c1] 24, imm (.slice a0 (newMR (1 + (n % 12))).length c0) (newMR (1 + (n % 12))), imm (.slice a_l l.length c_l) l]) N) w' (.slice a3 (addMR n_ rs ((x0.1.toNat : Int) % (1 + (n % 12))) ((x0.2.toNat : Int) % (1 + (n % 12)))).length c3) (addMR n_ rs ((x0.1.toNat : Int) % (1 + (n % 12))) ((x0.2.toNat : Int) % (1 + (n % 12)))), fun (N : Nat → Prop) (v : Value) (w' : World) => v = .int .i64 (setME n_ ((x0.1.toNat : Int) % (1 + (n % 12))) ((x0.2.toNat : Int) % (1 + (n % 12)))), fun _ _ _ => True, fun _ _ _ => True, fun (N : Nat → Prop) (v : Value) (w' : World) => v = .int .i64 (setME n_ ((x0.1.toNat : Int) % (1 + (n % 12))) ((x0.2.toNat : Int) % (1 + (n % 12))))] [(#[], 0), (#[], 0), (#[], 0), (#[], 0), (#[], 0), (#[], 0), (#[], 0), (#[], 0), (#[], 0), (#[], 0), (#[], 0), (#[], 0), (#[], 0), (#[], 0), (#[], 0), (#[.int .i64 0, .slice none 0 0], 24), (#[], 0), (#[], 0)] rfl (by kernel_rfl) ?_ ?_
      ·
        refine ⟨⟨fun _ _ _ _ _ _ h => h, rfl, fun f1 w10 N0 hf0 xt6 hN0 hp0 => ?_⟩, ?_⟩
        ·
          refine ldX (H11.ext xt6) 4 rfl ty24 rfl ((hf0 8 rfl).trans s3) (by decide) rfl ?_
          exact ⟨_, rfl, Ext.refl _, rfl⟩
        refine ⟨⟨fun _ _ _ _ _ _ h => h, rfl, fun f2 w11 N1 hf1 xt7 hN1 hp1 => ?_⟩, ?_⟩
        ·
          refine iaA rfl rfl (hf1 12 rfl) rfl (by omega) un39 ty5 ?_
          exact ⟨_, rfl, Ext.refl _, rfl⟩
        refine ⟨⟨fun _ _ _ _ _ _ h => h, rfl, fun f3 w12 N2 hf2 xt8 hN2 hp2 => ?_⟩, ?_⟩
        ·
          have hq0 := hp2 1 rfl ⟨_, rfl, rfl⟩
          have s6 : f3 47 = .pointer (some ⟨bb2, 0, none⟩) := hq0
          refine ldX (H11.ext xt8) 0 rfl ty5 rfl s6 (by decide) rfl ?_
          exact ⟨_, rfl, Ext.refl _, rfl⟩
        refine ⟨⟨fun _ _ _ _ _ _ h => h, rfl, fun f4 w13 N3 hf3 xt9 hN3 hp3 => ?_⟩, ?_⟩
        ·
          have hq1 := hp3 2 rfl ⟨_, rfl, rfl⟩
          have s7 : f4 48 = U8 x0.1 := hq1
          refine cvI rfl s7 (by unfold I64 at *; omega) un5 un3 ?_
          exact ⟨_, rfl, Ext.refl _, rfl⟩
        refine ⟨⟨fun _ _ _ _ _ _ h => h, rfl, fun f5 w14 N4 hf4 xt10 hN4 hp4 => ?_⟩, ?_⟩
        ·
          refine mv rfl ((hf4 7 rfl).trans s2) ?_
          exact ⟨_, rfl, Ext.refl _, rfl⟩
        refine ⟨⟨fun _ _ _ _ _ _ h => h, rfl, fun f6 w15 N5 hf5 xt11 hN5 hp5 => ?_⟩, ?_⟩
        ·
          have hq2 := hp5 3 rfl ⟨_, rfl, rfl⟩
          have s8 : f6 49 = .int .i64 (x0.1.toNat : Int) := hq2
          have hq3 := hp5 4 rfl ⟨_, rfl, rfl⟩
          have s9 : f6 50 = .int .i64 (1 + (n % 12)) := hq3
          refine rem rfl rfl s8 s9 (by first | omega | (simp; omega)) ?_
          exact ⟨_, rfl, Ext.refl _, rfl⟩
        refine ⟨⟨fun _ _ _ _ _ _ h => h, rfl, fun f7 w16 N6 hf6 xt12 hN6 hp6 => ?_⟩, ?_⟩
        ·
          refine iaA rfl rfl (hf6 12 rfl) rfl (by omega) un39 ty5 ?_
          exact ⟨_, rfl, Ext.refl _, rfl⟩
        refine ⟨⟨fun _ _ _ _ _ _ h => h, rfl, fun f8 w17 N7 hf7 xt13 hN7 hp7 => ?_⟩, ?_⟩
        ·
          have hq4 := hp7 6 rfl ⟨_, rfl, rfl⟩
          have s10 : f8 52 = .pointer (some ⟨bb2, 1, none⟩) := hq4
          refine ldX (H11.ext xt13) 0 rfl ty5 rfl s10 (by decide) rfl ?_
          exact ⟨_, rfl, Ext.refl _, rfl⟩
        refine ⟨⟨fun _ _ _ _ _ _ h => h, rfl, fun f9 w18 N8 hf8 xt14 hN8 hp8 => ?_⟩, ?_⟩
        ·
          have hq5 := hp8 7 rfl ⟨_, rfl, rfl⟩
          have s11 : f9 53 = U8 x0.2 := hq5
          refine cvI rfl s11 (by unfold I64 at *; omega) un5 un3 ?_
          exact ⟨_, rfl, Ext.refl _, rfl⟩
        refine ⟨⟨fun _ _ _ _ _ _ h => h, rfl, fun f10 w19 N9 hf9 xt15 hN9 hp9 => ?_⟩, ?_⟩
        ·
          refine mv rfl ((hf9 7 rfl).trans s2) ?_
          exact ⟨_, rfl, Ext.refl _, rfl⟩
        refine ⟨⟨fun _ _ _ _ _ _ h => h, rfl, fun f11 w20 N10 hf10 xt16 hN10 hp10 => ?_⟩, ?_⟩
        ·
          have hq6 := hp10 8 rfl ⟨_, rfl, rfl⟩
          have s12 : f11 54 = .int .i64 (x0.2.toNat : Int) := hq6
          have hq7 := hp10 9 rfl ⟨_, rfl, rfl⟩
          have s13 : f11 55 = .int .i64 (1 + (n % 12)) := hq7
          refine rem rfl rfl s12 s13 (by first | omega | (simp; omega)) ?_
          exact ⟨_, rfl, Ext.refl _, rfl⟩
        refine ⟨⟨by rintro _ _ _ _ _ k_ ⟨a3, c3, e_, rv3⟩; exact ⟨a3, c3, e_, rvn_keep rv3 k_⟩, rfl, fun f12 w21 N11 hf11 xt17 hN11 hp11 => ?_⟩, ?_⟩
        ·
          have hq8 := hp11 0 rfl ⟨_, rfl, rfl⟩
          have s14 : f12 46 = .agg #[.int .i64 n_, .slice a1 rs.length c1] := hq8
          have hq9 := hp11 5 rfl ⟨_, rfl, rfl⟩
          have s15 : f12 51 = .int .i64 ((x0.1.toNat : Int) % (1 + (n % 12))) := hq9
          have hq10 := hp11 10 rfl ⟨_, rfl, rfl⟩
          have s16 : f12 56 = .int .i64 ((x0.2.toNat : Int) % (1 + (n % 12))) := hq10
          have cc2 := hull_Add (mn := n_) (mr := rs) (i := ((x0.1.toNat : Int) % (1 + (n % 12)))) (j := ((x0.2.toNat : Int) % (1 + (n % 12)))) (w := w21) (mn_below H11.mb xt17 hN11) (by rw [h1]; unfold I64; omega) (rvn_old (H11.rv 2 rfl) xt17 hN11) (by unfold I64; omega) (by unfold I64; omega) (by rw [h1, h2]; exact hulK_right hK_ hK4_)
          refine ca go27 rfl (ec s14 (ec s15 (ec s16 e0))) cc2 ?_
          rintro _ w22 ⟨a4, c4, rfl, xt18, rv4⟩
          exact ⟨_, rfl, xt18, ⟨a4, c4, rfl, rv4⟩⟩
        refine ⟨⟨by rintro _ _ _ _ _ k_ ⟨a3, c3, e_, rv3⟩; exact ⟨a3, c3, e_, rvn_keep rv3 k_⟩, rfl, fun f13 w23 N12 hf12 xt19 hN12 hp12 => ?_⟩, ?_⟩
        ·
          have hq11 := hp12 11 rfl ⟨_, rfl, rfl⟩
          obtain ⟨a3, c3, s17, rv3⟩ := hq11
          refine mv rfl s17 ?_
          exact ⟨_, rfl, Ext.refl _, ⟨a3, c3, rfl, rv3⟩⟩
        refine ⟨⟨by rintro _ _ _ _ _ k_ ⟨a3, c3, e_, rv3⟩; exact ⟨a3, c3, e_, rvn_keep rv3 k_⟩, rfl, fun f14 w24 N13 hf13 xt20 hN13 hp13 => ?_⟩, ?_⟩
        ·
          have hq12 := hp13 12 rfl ⟨_, rfl, rfl⟩
          obtain ⟨a3, c3, s18, rv3⟩ := hq12
          refine xt rfl s18 rfl ?_
          exact ⟨_, rfl, Ext.refl _, ⟨a3, c3, rfl, rv3⟩⟩
        refine ⟨⟨fun _ _ _ _ _ _ h => h, rfl, fun f15 w25 N14 hf14 xt21 hN14 hp14 => ?_⟩, ?_⟩
        ·
          have hq13 := hp14 12 rfl ⟨_, rfl, rfl⟩
          obtain ⟨a3, c3, s19, rv3⟩ := hq13
          refine xt rfl s19 rfl ?_
          exact ⟨_, rfl, Ext.refl _, rfl⟩
        refine ⟨⟨fun _ _ _ _ _ _ h => h, rfl, fun _ _ _ => trivial, fun f16 w26 N15 hf15 xt22 hN15 hp15 => ?_⟩, ?_⟩
        ·
          refine alS ty24 ?_
          exact ⟨rfl, rfl⟩
        refine ⟨⟨fun _ _ _ _ _ _ h => h, rfl, rfl, rfl, ⟨_, rfl, rfl⟩, ⟨_, rfl, rfl⟩, by decide, trivial, by rintro _ _ _ ⟨a3, c3, e_, rv3⟩; subst e_; rfl, fun f17 w27 N_ bb4 cur0 xt23 s20 hb0 hc0 hv0 => ?_⟩, ?_⟩
        ·
          obtain ⟨a3, c3, e_, rv3⟩ := hv0
          exact stS ty24 rfl rfl s20 rfl hb0 ((congrArg (fun v => v.cells.size) e_).trans rfl) hc0 ((congrArg (fun v => v.cells.toList.all Value.oneCell') e_).trans rfl)
        refine ⟨⟨fun _ _ _ _ _ _ h => h, rfl, fun f18 w28 N16 hf16 xt24 hN16 hp16 => ?_⟩, ?_⟩
        ·
          have hq14 := hp16 14 rfl ⟨_, rfl, rfl⟩
          have s21 : f18 59 = .int .i64 (setME n_ ((x0.1.toNat : Int) % (1 + (n % 12))) ((x0.2.toNat : Int) % (1 + (n % 12)))) := hq14
          refine asg rfl s21 ?_
          exact ⟨_, rfl, Ext.refl _, rfl⟩
        exact trivial
      · intro f19 w29 I0 hf17 xt25 hp17 hN17 hd0
        have s22 : f19 1 = .slice a_l l.length c_l := (hf17 1 rfl).trans s0
        have s23 : f19 2 = .int .u8 tt := (hf17 2 rfl).trans s1
        have s24 : f19 7 = .int .i64 (1 + (n % 12)) := (hf17 7 rfl).trans s2
        have s25 : f19 8 = .pointer (some ⟨bb0, 0, none⟩) := (hf17 8 rfl).trans s3
        have s26 : f19 10 = .pointer (some ⟨bb1, 0, none⟩) := (hf17 10 rfl).trans s4
        have s27 : f19 11 = .int .i64 (j : Int) := (hf17 11 rfl).trans s5
        have s28 : f19 14 = .int .i64 (setME n_ ((x0.1.toNat : Int) % (1 + (n % 12))) ((x0.2.toNat : Int) % (1 + (n % 12)))) := (hp17 17 _ rfl rfl)
        obtain ⟨a5, c5, s29, rv5⟩ := (hp17 13 _ rfl rfl)
        obtain ⟨s30, hg0, -, cur1, hc1, hk0⟩ := hN17 15 (by decide) trivial
        have hq15 : cur1 = #[.int .i64 (setMN n_ ((x0.1.toNat : Int) % (1 + (n % 12))) ((x0.2.toNat : Int) % (1 + (n % 12)))), .slice a5 (addMR n_ rs ((x0.1.toNat : Int) % (1 + (n % 12))) ((x0.2.toNat : Int) % (1 + (n % 12)))).length c5] := (hk0.2.1 16 13 rfl rfl).trans (congrArg Value.cells s29)
        rw [hq15] at hc1
        have hz15_ := hg0
        have H13 : HI M w w29 [box (I0 15) #[.int .i64 (setMN n_ ((x0.1.toNat : Int) % (1 + (n % 12))) ((x0.2.toNat : Int) % (1 + (n % 12)))), .slice a5 (addMR n_ rs ((x0.1.toNat : Int) % (1 + (n % 12))) ((x0.2.toNat : Int) % (1 + (n % 12)))).length c5] 24, box bb2 #[U8 x0.1, U8 x0.2] 39, imm (.slice a2 rs2.length c2) rs2, imm (.slice a1 rs.length c1) rs, box bb1 #[.int .i64 n2_, .slice a2 rs2.length c2] 24, box bb0 #[.int .i64 n_, .slice a1 rs.length c1] 24, imm (.slice a0 (newMR (1 + (n % 12))).length c0) (newMR (1 + (n % 12))), imm (.slice a_l l.length c_l) l] := H11.lays xt25 [((I0 15), #[.int .i64 (setMN n_ ((x0.1.toNat : Int) % (1 + (n % 12))) ((x0.2.toNat : Int) % (1 + (n % 12)))), .slice a5 (addMR n_ rs ((x0.1.toNat : Int) % (1 + (n % 12))) ((x0.2.toNat : Int) % (1 + (n % 12)))).length c5], 24)] (by intro q_ hq_; simp only [List.mem_cons, List.not_mem_nil, or_false] at hq_; rcases hq_ with rfl <;> first | exact ⟨hz15_, hc1⟩) (by simp only [List.map_cons, List.map_nil, List.nodup_cons, List.mem_cons, List.not_mem_nil, or_false, List.nodup_nil, and_true, not_or, not_false_eq_true, true_and] <;> omega)
        have H14 := H13.put (it := imm (.slice a5 (addMR n_ rs ((x0.1.toNat : Int) % (1 + (n % 12))) ((x0.2.toNat : Int) % (1 + (n % 12)))).length c5) (addMR n_ rs ((x0.1.toNat : Int) % (1 + (n % 12))) ((x0.2.toNat : Int) % (1 + (n % 12))))) rfl (rvn_out [((I0 15), #[.int .i64 (setMN n_ ((x0.1.toNat : Int) % (1 + (n % 12))) ((x0.2.toNat : Int) % (1 + (n % 12)))), .slice a5 (addMR n_ rs ((x0.1.toNat : Int) % (1 + (n % 12))) ((x0.2.toNat : Int) % (1 + (n % 12)))).length c5], 24)] rv5 (by intro q_ hq_; simp only [List.mem_cons, List.not_mem_nil, or_false] at hq_; rcases hq_ with rfl <;> first | exact ⟨15, by decide, rfl, trivial, rfl⟩))
        refine nx (sq (sq (rg (k (mv rfl s28 (k (neq rfl rfl rfl rfl (z (nx (cdF rfl rfl (by rw [show (decide ((setME n_ ((x0.1.toNat : Int) % (1 + (n % 12))) ((x0.2.toNat : Int) % (1 + (n % 12)))) = 0)) = true from (decide_eq_true (by rw [h1]; exact (set_yes (rs := rs) hin_).2.2))]; rfl) (sk (nx (sq (rg (k (ldX H14 1 rfl ty24 rfl s30 (by decide) rfl (k (stX H14 6 rfl ty24 rfl rfl s25 rfl rfl rfl rfl ?_))))))))))))))))))
        intro w30 (H15 : HI M w w30 [imm (.slice a5 (addMR n_ rs ((x0.1.toNat : Int) % (1 + (n % 12))) ((x0.2.toNat : Int) % (1 + (n % 12)))).length c5) (addMR n_ rs ((x0.1.toNat : Int) % (1 + (n % 12))) ((x0.2.toNat : Int) % (1 + (n % 12)))), box (I0 15) #[.int .i64 (setMN n_ ((x0.1.toNat : Int) % (1 + (n % 12))) ((x0.2.toNat : Int) % (1 + (n % 12)))), .slice a5 (addMR n_ rs ((x0.1.toNat : Int) % (1 + (n % 12))) ((x0.2.toNat : Int) % (1 + (n % 12)))).length c5] 24, box bb2 #[U8 x0.1, U8 x0.2] 39, imm (.slice a2 rs2.length c2) rs2, imm (.slice a1 rs.length c1) rs, box bb1 #[.int .i64 n2_, .slice a2 rs2.length c2] 24, box bb0 #[.int .i64 (setMN n_ ((x0.1.toNat : Int) % (1 + (n % 12))) ((x0.2.toNat : Int) % (1 + (n % 12)))), .slice a5 (addMR n_ rs ((x0.1.toNat : Int) % (1 + (n % 12))) ((x0.2.toNat : Int) % (1 + (n % 12)))).length c5] 24, imm (.slice a0 (newMR (1 + (n % 12))).length c0) (newMR (1 + (n % 12))), imm (.slice a_l l.length c_l) l])
        refine z (nx ?_)
        obtain ⟨x1, hx1⟩ : ∃ x, l[(j : Int).toNat]? = some x := ⟨_, List.getElem?_eq_getElem (by first | omega | (simp; omega))⟩
        refine dr3 19 [fun (v : Value) (w' : World) => v = .agg #[.int .i64 n2_, .slice a2 rs2.length c2], fun (v : Value) (w' : World) => v = .slice a_l l.length c_l, fun (v : Value) (w' : World) => v = .int .i64 (j : Int), fun (v : Value) (w' : World) => ∃ (ad1 : Addr), v = .pointer (some ad1) ∧ At (MS M [imm (.slice a5 (addMR n_ rs ((x0.1.toNat : Int) % (1 + (n % 12))) ((x0.2.toNat : Int) % (1 + (n % 12)))).length c5) (addMR n_ rs ((x0.1.toNat : Int) % (1 + (n % 12))) ((x0.2.toNat : Int) % (1 + (n % 12)))), box (I0 15) #[.int .i64 (setMN n_ ((x0.1.toNat : Int) % (1 + (n % 12))) ((x0.2.toNat : Int) % (1 + (n % 12)))), .slice a5 (addMR n_ rs ((x0.1.toNat : Int) % (1 + (n % 12))) ((x0.2.toNat : Int) % (1 + (n % 12)))).length c5] 24, box bb2 #[U8 x0.1, U8 x0.2] 39, imm (.slice a2 rs2.length c2) rs2, imm (.slice a1 rs.length c1) rs, box bb1 #[.int .i64 n2_, .slice a2 rs2.length c2] 24, box bb0 #[.int .i64 (setMN n_ ((x0.1.toNat : Int) % (1 + (n % 12))) ((x0.2.toNat : Int) % (1 + (n % 12)))), .slice a5 (addMR n_ rs ((x0.1.toNat : Int) % (1 + (n % 12))) ((x0.2.toNat : Int) % (1 + (n % 12)))).length c5] 24, imm (.slice a0 (newMR (1 + (n % 12))).length c0) (newMR (1 + (n % 12))), imm (.slice a_l l.length c_l) l]) w' ad1 x1, fun (v : Value) (w' : World) => ∃ (ad1 : Addr), v = .pointer (some ((ad1).add 0)) ∧ At (MS M [imm (.slice a5 (addMR n_ rs ((x0.1.toNat : Int) % (1 + (n % 12))) ((x0.2.toNat : Int) % (1 + (n % 12)))).length c5) (addMR n_ rs ((x0.1.toNat : Int) % (1 + (n % 12))) ((x0.2.toNat : Int) % (1 + (n % 12)))), box (I0 15) #[.int .i64 (setMN n_ ((x0.1.toNat : Int) % (1 + (n % 12))) ((x0.2.toNat : Int) % (1 + (n % 12)))), .slice a5 (addMR n_ rs ((x0.1.toNat : Int) % (1 + (n % 12))) ((x0.2.toNat : Int) % (1 + (n % 12)))).length c5] 24, box bb2 #[U8 x0.1, U8 x0.2] 39, imm (.slice a2 rs2.length c2) rs2, imm (.slice a1 rs.length c1) rs, box bb1 #[.int .i64 n2_, .slice a2 rs2.length c2] 24, box bb0 #[.int .i64 (setMN n_ ((x0.1.toNat : Int) % (1 + (n % 12))) ((x0.2.toNat : Int) % (1 + (n % 12)))), .slice a5 (addMR n_ rs ((x0.1.toNat : Int) % (1 + (n % 12))) ((x0.2.toNat : Int) % (1 + (n % 12)))).length c5] 24, imm (.slice a0 (newMR (1 + (n % 12))).length c0) (newMR (1 + (n % 12))), imm (.slice a_l l.length c_l) l]) w' ad1 x1, fun (v : Value) (w' : World) => v = U8 x1.1, fun (v : Value) (w' : World) => v = .int .i64 (x1.1.toNat : Int), fun (v : Value) (w' : World) => v = .int .i64 (1 + (n % 12)), fun (v : Value) (w' : World) => v = .int .i64 ((x1.1.toNat : Int) % (1 + (n % 12))), fun (v : Value) (w' : World) => v = .slice a_l l.length c_l, fun (v : Value) (w' : World) => v = .int .i64 (j : Int), fun (v : Value) (w' : World) => ∃ (ad2 : Addr), v = .pointer (some ad2) ∧ At (MS M [imm (.slice a5 (addMR n_ rs ((x0.1.toNat : Int) % (1 + (n % 12))) ((x0.2.toNat : Int) % (1 + (n % 12)))).length c5) (addMR n_ rs ((x0.1.toNat : Int) % (1 + (n % 12))) ((x0.2.toNat : Int) % (1 + (n % 12)))), box (I0 15) #[.int .i64 (setMN n_ ((x0.1.toNat : Int) % (1 + (n % 12))) ((x0.2.toNat : Int) % (1 + (n % 12)))), .slice a5 (addMR n_ rs ((x0.1.toNat : Int) % (1 + (n % 12))) ((x0.2.toNat : Int) % (1 + (n % 12)))).length c5] 24, box bb2 #[U8 x0.1, U8 x0.2] 39, imm (.slice a2 rs2.length c2) rs2, imm (.slice a1 rs.length c1) rs, box bb1 #[.int .i64 n2_, .slice a2 rs2.length c2] 24, box bb0 #[.int .i64 (setMN n_ ((x0.1.toNat : Int) % (1 + (n % 12))) ((x0.2.toNat : Int) % (1 + (n % 12)))), .slice a5 (addMR n_ rs ((x0.1.toNat : Int) % (1 + (n % 12))) ((x0.2.toNat : Int) % (1 + (n % 12)))).length c5] 24, imm (.slice a0 (newMR (1 + (n % 12))).length c0) (newMR (1 + (n % 12))), imm (.slice a_l l.length c_l) l]) w' ad2 x1, fun (v : Value) (w' : World) => ∃ (ad2 : Addr), v = .pointer (some ((ad2).add 1)) ∧ At (MS M [imm (.slice a5 (addMR n_ rs ((x0.1.toNat : Int) % (1 + (n % 12))) ((x0.2.toNat : Int) % (1 + (n % 12)))).length c5) (addMR n_ rs ((x0.1.toNat : Int) % (1 + (n % 12))) ((x0.2.toNat : Int) % (1 + (n % 12)))), box (I0 15) #[.int .i64 (setMN n_ ((x0.1.toNat : Int) % (1 + (n % 12))) ((x0.2.toNat : Int) % (1 + (n % 12)))), .slice a5 (addMR n_ rs ((x0.1.toNat : Int) % (1 + (n % 12))) ((x0.2.toNat : Int) % (1 + (n % 12)))).length c5] 24, box bb2 #[U8 x0.1, U8 x0.2] 39, imm (.slice a2 rs2.length c2) rs2, imm (.slice a1 rs.length c1) rs, box bb1 #[.int .i64 n2_, .slice a2 rs2.length c2] 24, box bb0 #[.int .i64 (setMN n_ ((x0.1.toNat : Int) % (1 + (n % 12))) ((x0.2.toNat : Int) % (1 + (n % 12)))), .slice a5 (addMR n_ rs ((x0.1.toNat : Int) % (1 + (n % 12))) ((x0.2.toNat : Int) % (1 + (n % 12)))).length c5] 24, imm (.slice a0 (newMR (1 + (n % 12))).length c0) (newMR (1 + (n % 12))), imm (.slice a_l l.length c_l) l]) w' ad2 x1, fun (v : Value) (w' : World) => v = U8 x1.2, fun (v : Value) (w' : World) => v = .int .i64 (x1.2.toNat : Int), fun (v : Value) (w' : World) => v = .int .i64 (1 + (n % 12)), fun (v : Value) (w' : World) => v = .int .i64 ((x1.2.toNat : Int) % (1 + (n % 12))), fun (v : Value) (w' : World) => ∃ (a6 : Option Addr) (c6 : Nat), v = .tuple #[.agg #[.int .i64 (setMN n2_ ((x1.1.toNat : Int) % (1 + (n % 12))) ((x1.2.toNat : Int) % (1 + (n % 12)))), .slice a6 (setMR n2_ rs2 ((x1.1.toNat : Int) % (1 + (n % 12))) ((x1.2.toNat : Int) % (1 + (n % 12)))).length c6], .int .i64 (setME n2_ ((x1.1.toNat : Int) % (1 + (n % 12))) ((x1.2.toNat : Int) % (1 + (n % 12))))] ∧ RV (MS M [imm (.slice a5 (addMR n_ rs ((x0.1.toNat : Int) % (1 + (n % 12))) ((x0.2.toNat : Int) % (1 + (n % 12)))).length c5) (addMR n_ rs ((x0.1.toNat : Int) % (1 + (n % 12))) ((x0.2.toNat : Int) % (1 + (n % 12)))), box (I0 15) #[.int .i64 (setMN n_ ((x0.1.toNat : Int) % (1 + (n % 12))) ((x0.2.toNat : Int) % (1 + (n % 12)))), .slice a5 (addMR n_ rs ((x0.1.toNat : Int) % (1 + (n % 12))) ((x0.2.toNat : Int) % (1 + (n % 12)))).length c5] 24, box bb2 #[U8 x0.1, U8 x0.2] 39, imm (.slice a2 rs2.length c2) rs2, imm (.slice a1 rs.length c1) rs, box bb1 #[.int .i64 n2_, .slice a2 rs2.length c2] 24, box bb0 #[.int .i64 (setMN n_ ((x0.1.toNat : Int) % (1 + (n % 12))) ((x0.2.toNat : Int) % (1 + (n % 12)))), .slice a5 (addMR n_ rs ((x0.1.toNat : Int) % (1 + (n % 12))) ((x0.2.toNat : Int) % (1 + (n % 12)))).length c5] 24, imm (.slice a0 (newMR (1 + (n % 12))).length c0) (newMR (1 + (n % 12))), imm (.slice a_l l.length c_l) l]) w' (.slice a6 (setMR n2_ rs2 ((x1.1.toNat : Int) % (1 + (n % 12))) ((x1.2.toNat : Int) % (1 + (n % 12)))).length c6) (setMR n2_ rs2 ((x1.1.toNat : Int) % (1 + (n % 12))) ((x1.2.toNat : Int) % (1 + (n % 12)))), fun (v : Value) (w' : World) => ∃ (a6 : Option Addr) (c6 : Nat), v = .tuple #[.agg #[.int .i64 (setMN n2_ ((x1.1.toNat : Int) % (1 + (n % 12))) ((x1.2.toNat : Int) % (1 + (n % 12)))), .slice a6 (setMR n2_ rs2 ((x1.1.toNat : Int) % (1 + (n % 12))) ((x1.2.toNat : Int) % (1 + (n % 12)))).length c6], .int .i64 (setME n2_ ((x1.1.toNat : Int) % (1 + (n % 12))) ((x1.2.toNat : Int) % (1 + (n % 12))))] ∧ RV (MS M [imm (.slice a5 (addMR n_ rs ((x0.1.toNat : Int) % (1 + (n % 12))) ((x0.2.toNat : Int) % (1 + (n % 12)))).length c5) (addMR n_ rs ((x0.1.toNat : Int) % (1 + (n % 12))) ((x0.2.toNat : Int) % (1 + (n % 12)))), box (I0 15) #[.int .i64 (setMN n_ ((x0.1.toNat : Int) % (1 + (n % 12))) ((x0.2.toNat : Int) % (1 + (n % 12)))), .slice a5 (addMR n_ rs ((x0.1.toNat : Int) % (1 + (n % 12))) ((x0.2.toNat : Int) % (1 + (n % 12)))).length c5] 24, box bb2 #[U8 x0.1, U8 x0.2] 39, imm (.slice a2 rs2.length c2) rs2, imm (.slice a1 rs.length c1) rs, box bb1 #[.int .i64 n2_, .slice a2 rs2.length c2] 24, box bb0 #[.int .i64 (setMN n_ ((x0.1.toNat : Int) % (1 + (n % 12))) ((x0.2.toNat : Int) % (1 + (n % 12)))), .slice a5 (addMR n_ rs ((x0.1.toNat : Int) % (1 + (n % 12))) ((x0.2.toNat : Int) % (1 + (n % 12)))).length c5] 24, imm (.slice a0 (newMR (1 + (n % 12))).length c0) (newMR (1 + (n % 12))), imm (.slice a_l l.length c_l) l]) w' (.slice a6 (setMR n2_ rs2 ((x1.1.toNat : Int) % (1 + (n % 12))) ((x1.2.toNat : Int) % (1 + (n % 12)))).length c6) (setMR n2_ rs2 ((x1.1.toNat : Int) % (1 + (n % 12))) ((x1.2.toNat : Int) % (1 + (n % 12))))] rfl (by kernel_rfl) ?_ ?_
        ·
          refine ⟨fun _ => ⟨fun f20 w32 hf18 xt27 hp18 => ?_, fun _ _ _ _ h => h⟩, ?_⟩
          ·
            have H18 := H15.ext xt27
            refine ldX H18 5 rfl ty24 rfl ((hf18 10 rfl).trans s26) (by decide) rfl ?_
            exact ⟨_, rfl, Ext.refl _, rfl⟩
          refine ⟨fun _ => ⟨fun f21 w33 hf19 xt28 hp19 => ?_, fun _ _ _ _ h => h⟩, ?_⟩
          ·
            have H19 := H15.ext xt28
            refine mv rfl ((hf19 1 rfl).trans s22) ?_
            exact ⟨_, rfl, Ext.refl _, rfl⟩
          refine ⟨fun _ => ⟨fun f22 w34 hf20 xt29 hp20 => ?_, fun _ _ _ _ h => h⟩, ?_⟩
          ·
            have H20 := H15.ext xt29
            refine mv rfl ((hf20 11 rfl).trans s27) ?_
            exact ⟨_, rfl, Ext.refl _, rfl⟩
          refine ⟨fun _ => ⟨fun f23 w35 hf21 xt30 hp21 => ?_, by rintro _ _ _ x_ ⟨ad1, e_, hA1⟩; exact ⟨ad1, e_, hA1.lift (Up.ext x_)⟩⟩, ?_⟩
          ·
            have H21 := H15.ext xt30
            have s31 : f23 65 = .slice a_l l.length c_l := hp21 1 rfl rfl
            have s32 : f23 66 = .int .i64 (j : Int) := hp21 2 rfl rfl
            refine ia (H21.rv 8 rfl) rfl rfl s31 s32 (by first | omega | (simp; omega)) un37 ty39 ?_
            intro ad3 x3 hx3 hA3
            obtain rfl : x1 = x3 := Option.some.inj (hx1.symm.trans hx3)
            exact ⟨_, rfl, Ext.refl _, ⟨ad3, rfl, hA3⟩⟩
          refine ⟨fun _ => ⟨fun f24 w36 hf22 xt31 hp22 => ?_, by rintro _ _ _ x_ ⟨ad1, e_, hA1⟩; exact ⟨ad1, e_, hA1.lift (Up.ext x_)⟩⟩, ?_⟩
          ·
            have H22 := H15.ext xt31
            obtain ⟨ad4, s33, hA4⟩ : ∃ (ad4 : Addr), f24 67 = .pointer (some ad4) ∧ At (MS M [imm (.slice a5 (addMR n_ rs ((x0.1.toNat : Int) % (1 + (n % 12))) ((x0.2.toNat : Int) % (1 + (n % 12)))).length c5) (addMR n_ rs ((x0.1.toNat : Int) % (1 + (n % 12))) ((x0.2.toNat : Int) % (1 + (n % 12)))), box (I0 15) #[.int .i64 (setMN n_ ((x0.1.toNat : Int) % (1 + (n % 12))) ((x0.2.toNat : Int) % (1 + (n % 12)))), .slice a5 (addMR n_ rs ((x0.1.toNat : Int) % (1 + (n % 12))) ((x0.2.toNat : Int) % (1 + (n % 12)))).length c5] 24, box bb2 #[U8 x0.1, U8 x0.2] 39, imm (.slice a2 rs2.length c2) rs2, imm (.slice a1 rs.length c1) rs, box bb1 #[.int .i64 n2_, .slice a2 rs2.length c2] 24, box bb0 #[.int .i64 (setMN n_ ((x0.1.toNat : Int) % (1 + (n % 12))) ((x0.2.toNat : Int) % (1 + (n % 12)))), .slice a5 (addMR n_ rs ((x0.1.toNat : Int) % (1 + (n % 12))) ((x0.2.toNat : Int) % (1 + (n % 12)))).length c5] 24, imm (.slice a0 (newMR (1 + (n % 12))).length c0) (newMR (1 + (n % 12))), imm (.slice a_l l.length c_l) l]) w36 ad4 x1 := hp22 3 rfl rfl
            have H23 := H22.put (it := atI ad4 x1) rfl hA4
            refine iaA rfl rfl s33 rfl (by omega) un39 ty5 ?_
            exact ⟨_, rfl, Ext.refl _, ⟨ad4, rfl, (by assumption)⟩⟩
          refine ⟨fun _ => ⟨fun f25 w37 hf23 xt32 hp23 => ?_, fun _ _ _ _ h => h⟩, ?_⟩
          ·
            have H24 := H15.ext xt32
            obtain ⟨ad5, s34, hA5⟩ : ∃ (ad5 : Addr), f25 68 = .pointer (some ((ad5).add 0)) ∧ At (MS M [imm (.slice a5 (addMR n_ rs ((x0.1.toNat : Int) % (1 + (n % 12))) ((x0.2.toNat : Int) % (1 + (n % 12)))).length c5) (addMR n_ rs ((x0.1.toNat : Int) % (1 + (n % 12))) ((x0.2.toNat : Int) % (1 + (n % 12)))), box (I0 15) #[.int .i64 (setMN n_ ((x0.1.toNat : Int) % (1 + (n % 12))) ((x0.2.toNat : Int) % (1 + (n % 12)))), .slice a5 (addMR n_ rs ((x0.1.toNat : Int) % (1 + (n % 12))) ((x0.2.toNat : Int) % (1 + (n % 12)))).length c5] 24, box bb2 #[U8 x0.1, U8 x0.2] 39, imm (.slice a2 rs2.length c2) rs2, imm (.slice a1 rs.length c1) rs, box bb1 #[.int .i64 n2_, .slice a2 rs2.length c2] 24, box bb0 #[.int .i64 (setMN n_ ((x0.1.toNat : Int) % (1 + (n % 12))) ((x0.2.toNat : Int) % (1 + (n % 12)))), .slice a5 (addMR n_ rs ((x0.1.toNat : Int) % (1 + (n % 12))) ((x0.2.toNat : Int) % (1 + (n % 12)))).length c5] 24, imm (.slice a0 (newMR (1 + (n % 12))).length c0) (newMR (1 + (n % 12))), imm (.slice a_l l.length c_l) l]) w37 ad5 x1 := hp23 4 rfl rfl
            have H25 := H24.put (it := atI ad5 x1) rfl hA5
            refine ld8 ((H25.atv 0 rfl)).fst.w ty5 rfl s34 ?_
            exact ⟨_, rfl, Ext.refl _, rfl⟩
          refine ⟨fun _ => ⟨fun f26 w38 hf24 xt33 hp24 => ?_, fun _ _ _ _ h => h⟩, ?_⟩
          ·
            have H26 := H15.ext xt33
            have s35 : f26 69 = U8 x1.1 := hp24 5 rfl rfl
            refine cvI rfl s35 (by unfold I64 at *; omega) un5 un3 ?_
            exact ⟨_, rfl, Ext.refl _, rfl⟩
          refine ⟨fun _ => ⟨fun f27 w39 hf25 xt34 hp25 => ?_, fun _ _ _ _ h => h⟩, ?_⟩
          ·
            have H27 := H15.ext xt34
            refine mv rfl ((hf25 7 rfl).trans s24) ?_
            exact ⟨_, rfl, Ext.refl _, rfl⟩
          refine ⟨fun _ => ⟨fun f28 w40 hf26 xt35 hp26 => ?_, fun _ _ _ _ h => h⟩, ?_⟩
          ·
            have H28 := H15.ext xt35
            have s36 : f28 70 = .int .i64 (x1.1.toNat : Int) := hp26 6 rfl rfl
            have s37 : f28 71 = .int .i64 (1 + (n % 12)) := hp26 7 rfl rfl
            refine rem rfl rfl s36 s37 (by first | omega | (simp; omega)) ?_
            exact ⟨_, rfl, Ext.refl _, rfl⟩
          refine ⟨fun _ => ⟨fun f29 w41 hf27 xt36 hp27 => ?_, fun _ _ _ _ h => h⟩, ?_⟩
          ·
            have H29 := H15.ext xt36
            refine mv rfl ((hf27 1 rfl).trans s22) ?_
            exact ⟨_, rfl, Ext.refl _, rfl⟩
          refine ⟨fun _ => ⟨fun f30 w42 hf28 xt37 hp28 => ?_, fun _ _ _ _ h => h⟩, ?_⟩
          ·
            have H30 := H15.ext xt37
            refine mv rfl ((hf28 11 rfl).trans s27) ?_
            exact ⟨_, rfl, Ext.refl _, rfl⟩
          refine ⟨fun _ => ⟨fun f31 w43 hf29 xt38 hp29 => ?_, by rintro _ _ _ x_ ⟨ad2, e_, hA2⟩; exact ⟨ad2, e_, hA2.lift (Up.ext x_)⟩⟩, ?_⟩
          ·
            have H31 := H15.ext xt38
            have s38 : f31 73 = .slice a_l l.length c_l := hp29 9 rfl rfl
            have s39 : f31 74 = .int .i64 (j : Int) := hp29 10 rfl rfl
            refine ia (H31.rv 8 rfl) rfl rfl s38 s39 (by first | omega | (simp; omega)) un37 ty39 ?_
            intro ad6 x4 hx4 hA6
            obtain rfl : x1 = x4 := Option.some.inj (hx1.symm.trans hx4)
            exact ⟨_, rfl, Ext.refl _, ⟨ad6, rfl, hA6⟩⟩
          refine ⟨fun _ => ⟨fun f32 w44 hf30 xt39 hp30 => ?_, by rintro _ _ _ x_ ⟨ad2, e_, hA2⟩; exact ⟨ad2, e_, hA2.lift (Up.ext x_)⟩⟩, ?_⟩
          ·
            have H32 := H15.ext xt39
            obtain ⟨ad7, s40, hA7⟩ : ∃ (ad7 : Addr), f32 75 = .pointer (some ad7) ∧ At (MS M [imm (.slice a5 (addMR n_ rs ((x0.1.toNat : Int) % (1 + (n % 12))) ((x0.2.toNat : Int) % (1 + (n % 12)))).length c5) (addMR n_ rs ((x0.1.toNat : Int) % (1 + (n % 12))) ((x0.2.toNat : Int) % (1 + (n % 12)))), box (I0 15) #[.int .i64 (setMN n_ ((x0.1.toNat : Int) % (1 + (n % 12))) ((x0.2.toNat : Int) % (1 + (n % 12)))), .slice a5 (addMR n_ rs ((x0.1.toNat : Int) % (1 + (n % 12))) ((x0.2.toNat : Int) % (1 + (n % 12)))).length c5] 24, box bb2 #[U8 x0.1, U8 x0.2] 39, imm (.slice a2 rs2.length c2) rs2, imm (.slice a1 rs.length c1) rs, box bb1 #[.int .i64 n2_, .slice a2 rs2.length c2] 24, box bb0 #[.int .i64 (setMN n_ ((x0.1.toNat : Int) % (1 + (n % 12))) ((x0.2.toNat : Int) % (1 + (n % 12)))), .slice a5 (addMR n_ rs ((x0.1.toNat : Int) % (1 + (n % 12))) ((x0.2.toNat : Int) % (1 + (n % 12)))).length c5] 24, imm (.slice a0 (newMR (1 + (n % 12))).length c0) (newMR (1 + (n % 12))), imm (.slice a_l l.length c_l) l]) w44 ad7 x1 := hp30 11 rfl rfl
            have H33 := H32.put (it := atI ad7 x1) rfl hA7
            refine iaA rfl rfl s40 rfl (by omega) un39 ty5 ?_
            exact ⟨_, rfl, Ext.refl _, ⟨ad7, rfl, (by assumption)⟩⟩
          refine ⟨fun _ => ⟨fun f33 w45 hf31 xt40 hp31 => ?_, fun _ _ _ _ h => h⟩, ?_⟩
          ·
            have H34 := H15.ext xt40
            obtain ⟨ad8, s41, hA8⟩ : ∃ (ad8 : Addr), f33 76 = .pointer (some ((ad8).add 1)) ∧ At (MS M [imm (.slice a5 (addMR n_ rs ((x0.1.toNat : Int) % (1 + (n % 12))) ((x0.2.toNat : Int) % (1 + (n % 12)))).length c5) (addMR n_ rs ((x0.1.toNat : Int) % (1 + (n % 12))) ((x0.2.toNat : Int) % (1 + (n % 12)))), box (I0 15) #[.int .i64 (setMN n_ ((x0.1.toNat : Int) % (1 + (n % 12))) ((x0.2.toNat : Int) % (1 + (n % 12)))), .slice a5 (addMR n_ rs ((x0.1.toNat : Int) % (1 + (n % 12))) ((x0.2.toNat : Int) % (1 + (n % 12)))).length c5] 24, box bb2 #[U8 x0.1, U8 x0.2] 39, imm (.slice a2 rs2.length c2) rs2, imm (.slice a1 rs.length c1) rs, box bb1 #[.int .i64 n2_, .slice a2 rs2.length c2] 24, box bb0 #[.int .i64 (setMN n_ ((x0.1.toNat : Int) % (1 + (n % 12))) ((x0.2.toNat : Int) % (1 + (n % 12)))), .slice a5 (addMR n_ rs ((x0.1.toNat : Int) % (1 + (n % 12))) ((x0.2.toNat : Int) % (1 + (n % 12)))).length c5] 24, imm (.slice a0 (newMR (1 + (n % 12))).length c0) (newMR (1 + (n % 12))), imm (.slice a_l l.length c_l) l]) w45 ad8 x1 := hp31 12 rfl rfl
            have H35 := H34.put (it := atI ad8 x1) rfl hA8
            refine ld8 ((H35.atv 0 rfl)).snd.w ty5 rfl s41 ?_
            exact ⟨_, rfl, Ext.refl _, rfl⟩
          refine ⟨fun _ => ⟨fun f34 w46 hf32 xt41 hp32 => ?_, fun _ _ _ _ h => h⟩, ?_⟩
          ·
            have H36 := H15.ext xt41
            have s42 : f34 77 = U8 x1.2 := hp32 13 rfl rfl
            refine cvI rfl s42 (by unfold I64 at *; omega) un5 un3 ?_
            exact ⟨_, rfl, Ext.refl _, rfl⟩
          refine ⟨fun _ => ⟨fun f35 w47 hf33 xt42 hp33 => ?_, fun _ _ _ _ h => h⟩, ?_⟩
          ·
            have H37 := H15.ext xt42
            refine mv rfl ((hf33 7 rfl).trans s24) ?_
            exact ⟨_, rfl, Ext.refl _, rfl⟩
          refine ⟨fun _ => ⟨fun f36 w48 hf34 xt43 hp34 => ?_, fun _ _ _ _ h => h⟩, ?_⟩
          ·
            have H38 := H15.ext xt43
            have s43 : f36 78 = .int .i64 (x1.2.toNat : Int) := hp34 14 rfl rfl
            have s44 : f36 79 = .int .i64 (1 + (n % 12)) := hp34 15 rfl rfl
            refine rem rfl rfl s43 s44 (by first | omega | (simp; omega)) ?_
            exact ⟨_, rfl, Ext.refl _, rfl⟩
          refine ⟨fun _ => ⟨fun f37 w49 hf35 xt44 hp35 => ?_, by rintro _ _ _ x_ ⟨a6, c6, e_, rv7⟩; exact ⟨a6, c6, e_, rv7.lift (Up.ext x_)⟩⟩, ?_⟩
          ·
            have H39 := H15.ext xt44
            have s45 : f37 64 = .agg #[.int .i64 n2_, .slice a2 rs2.length c2] := hp35 0 rfl rfl
            have s46 : f37 72 = .int .i64 ((x1.1.toNat : Int) % (1 + (n % 12))) := hp35 8 rfl rfl
            have s47 : f37 80 = .int .i64 ((x1.2.toNat : Int) % (1 + (n % 12))) := hp35 16 rfl rfl
            have cc4 := ref03_Set (mn := n2_) (mr := rs2) (i := ((x1.1.toNat : Int) % (1 + (n % 12)))) (j := ((x1.2.toNat : Int) % (1 + (n % 12)))) (w := w49) H39.mb (by rw [h3]; unfold I64; omega) (H39.rv 3 rfl) (by obtain ⟨⟨_, _⟩, _, _⟩ := inM_two.1 (prK_in hK_ x1); unfold prK at *; unfold I64; omega) (by obtain ⟨⟨_, _⟩, _, _⟩ := inM_two.1 (prK_in hK_ x1); unfold prK at *; unfold I64; omega) (by rw [h3, h4]; exact (right_sq (allK_right hK_ hK4_)).1) (by rw [h4]; exact (right_sq (allK_right hK_ hK4_)).2.1) (by omega)
            refine ca go28 rfl (ec s45 (ec s46 (ec s47 e0))) cc4 ?_
            rintro _ w50 ⟨a7, c7, rfl, xt45, rv8⟩
            have rv9 := OwnsG.rv rv8 H39.mb
            have H40 := H39.ext xt45
            have H41 := H40.put (it := imm (.slice a7 (setMR n2_ rs2 ((x1.1.toNat : Int) % (1 + (n % 12))) ((x1.2.toNat : Int) % (1 + (n % 12)))).length c7) (setMR n2_ rs2 ((x1.1.toNat : Int) % (1 + (n % 12))) ((x1.2.toNat : Int) % (1 + (n % 12))))) rfl rv9
            exact ⟨_, rfl, xt45, ⟨a7, c7, rfl, rv9⟩⟩
          refine ⟨fun _ => ⟨fun f38 w51 hf36 xt46 hp36 => ?_, by rintro _ _ _ x_ ⟨a6, c6, e_, rv7⟩; exact ⟨a6, c6, e_, rv7.lift (Up.ext x_)⟩⟩, ?_⟩
          ·
            have H42 := H15.ext xt46
            obtain ⟨a8, c8, s48, rv10⟩ : ∃ (a8 : Option Addr) (c8 : Nat), f38 81 = .tuple #[.agg #[.int .i64 (setMN n2_ ((x1.1.toNat : Int) % (1 + (n % 12))) ((x1.2.toNat : Int) % (1 + (n % 12)))), .slice a8 (setMR n2_ rs2 ((x1.1.toNat : Int) % (1 + (n % 12))) ((x1.2.toNat : Int) % (1 + (n % 12)))).length c8], .int .i64 (setME n2_ ((x1.1.toNat : Int) % (1 + (n % 12))) ((x1.2.toNat : Int) % (1 + (n % 12))))] ∧ RV (MS M [imm (.slice a5 (addMR n_ rs ((x0.1.toNat : Int) % (1 + (n % 12))) ((x0.2.toNat : Int) % (1 + (n % 12)))).length c5) (addMR n_ rs ((x0.1.toNat : Int) % (1 + (n % 12))) ((x0.2.toNat : Int) % (1 + (n % 12)))), box (I0 15) #[.int .i64 (setMN n_ ((x0.1.toNat : Int) % (1 + (n % 12))) ((x0.2.toNat : Int) % (1 + (n % 12)))), .slice a5 (addMR n_ rs ((x0.1.toNat : Int) % (1 + (n % 12))) ((x0.2.toNat : Int) % (1 + (n % 12)))).length c5] 24, box bb2 #[U8 x0.1, U8 x0.2] 39, imm (.slice a2 rs2.length c2) rs2, imm (.slice a1 rs.length c1) rs, box bb1 #[.int .i64 n2_, .slice a2 rs2.length c2] 24, box bb0 #[.int .i64 (setMN n_ ((x0.1.toNat : Int) % (1 + (n % 12))) ((x0.2.toNat : Int) % (1 + (n % 12)))), .slice a5 (addMR n_ rs ((x0.1.toNat : Int) % (1 + (n % 12))) ((x0.2.toNat : Int) % (1 + (n % 12)))).length c5] 24, imm (.slice a0 (newMR (1 + (n % 12))).length c0) (newMR (1 + (n % 12))), imm (.slice a_l l.length c_l) l]) w51 (.slice a8 (setMR n2_ rs2 ((x1.1.toNat : Int) % (1 + (n % 12))) ((x1.2.toNat : Int) % (1 + (n % 12)))).length c8) (setMR n2_ rs2 ((x1.1.toNat : Int) % (1 + (n % 12))) ((x1.2.toNat : Int) % (1 + (n % 12)))) := hp36 17 rfl rfl
            have H43 := H42.put (it := imm (.slice a8 (setMR n2_ rs2 ((x1.1.toNat : Int) % (1 + (n % 12))) ((x1.2.toNat : Int) % (1 + (n % 12)))).length c8) (setMR n2_ rs2 ((x1.1.toNat : Int) % (1 + (n % 12))) ((x1.2.toNat : Int) % (1 + (n % 12))))) rfl rv10
            refine mv rfl s48 ?_
            exact ⟨_, rfl, Ext.refl _, ⟨a8, c8, rfl, rv10⟩⟩
          exact DSteps.rest rfl _
        · intro f39 w52 hf37 xt47 hp37
          have H44 := H15.ext xt47
          have s49 : f39 1 = .slice a_l l.length c_l := (hf37 1 rfl).trans s22
          have s50 : f39 2 = .int .u8 tt := (hf37 2 rfl).trans s23
          have s51 : f39 7 = .int .i64 (1 + (n % 12)) := (hf37 7 rfl).trans s24
          have s52 : f39 8 = .pointer (some ⟨bb0, 0, none⟩) := (hf37 8 rfl).trans s25
          have s53 : f39 10 = .pointer (some ⟨bb1, 0, none⟩) := (hf37 10 rfl).trans s26
          have s54 : f39 11 = .int .i64 (j : Int) := (hf37 11 rfl).trans s27
          obtain ⟨a9, c9, s55, rv11⟩ : ∃ (a9 : Option Addr) (c9 : Nat), f39 63 = .tuple #[.agg #[.int .i64 (setMN n2_ ((x1.1.toNat : Int) % (1 + (n % 12))) ((x1.2.toNat : Int) % (1 + (n % 12)))), .slice a9 (setMR n2_ rs2 ((x1.1.toNat : Int) % (1 + (n % 12))) ((x1.2.toNat : Int) % (1 + (n % 12)))).length c9], .int .i64 (setME n2_ ((x1.1.toNat : Int) % (1 + (n % 12))) ((x1.2.toNat : Int) % (1 + (n % 12))))] ∧ RV (MS M [imm (.slice a5 (addMR n_ rs ((x0.1.toNat : Int) % (1 + (n % 12))) ((x0.2.toNat : Int) % (1 + (n % 12)))).length c5) (addMR n_ rs ((x0.1.toNat : Int) % (1 + (n % 12))) ((x0.2.toNat : Int) % (1 + (n % 12)))), box (I0 15) #[.int .i64 (setMN n_ ((x0.1.toNat : Int) % (1 + (n % 12))) ((x0.2.toNat : Int) % (1 + (n % 12)))), .slice a5 (addMR n_ rs ((x0.1.toNat : Int) % (1 + (n % 12))) ((x0.2.toNat : Int) % (1 + (n % 12)))).length c5] 24, box bb2 #[U8 x0.1, U8 x0.2] 39, imm (.slice a2 rs2.length c2) rs2, imm (.slice a1 rs.length c1) rs, box bb1 #[.int .i64 n2_, .slice a2 rs2.length c2] 24, box bb0 #[.int .i64 (setMN n_ ((x0.1.toNat : Int) % (1 + (n % 12))) ((x0.2.toNat : Int) % (1 + (n % 12)))), .slice a5 (addMR n_ rs ((x0.1.toNat : Int) % (1 + (n % 12))) ((x0.2.toNat : Int) % (1 + (n % 12)))).length c5] 24, imm (.slice a0 (newMR (1 + (n % 12))).length c0) (newMR (1 + (n % 12))), imm (.slice a_l l.length c_l) l]) w52 (.slice a9 (setMR n2_ rs2 ((x1.1.toNat : Int) % (1 + (n % 12))) ((x1.2.toNat : Int) % (1 + (n % 12)))).length c9) (setMR n2_ rs2 ((x1.1.toNat : Int) % (1 + (n % 12))) ((x1.2.toNat : Int) % (1 + (n % 12)))) := hp37 18 rfl
          have H45 := H44.put (it := imm (.slice a9 (setMR n2_ rs2 ((x1.1.toNat : Int) % (1 + (n % 12))) ((x1.2.toNat : Int) % (1 + (n % 12)))).length c9) (setMR n2_ rs2 ((x1.1.toNat : Int) % (1 + (n % 12))) ((x1.2.toNat : Int) % (1 + (n % 12))))) rfl rv11
          show TA _ _ _ _ 3 [true, true, true, true, true, true, true, true, true, true, true, true, true, true, true, true, true, true, true, false, false, false] _ _
          refine ta [19, 20] (by kernel_rfl) rfl ⟨⟨_, rfl, ?_⟩, ⟨_, rfl, ?_⟩, trivial⟩
          ·
            refine xt rfl s55 rfl ?_
            refine ta [20, 21] (by kernel_rfl) rfl ⟨⟨_, rfl, ?_⟩, ⟨_, rfl, ?_⟩, trivial⟩
            ·
              refine xt rfl s55 rfl ?_
              refine ta [21] (by kernel_rfl) rfl ⟨⟨_, rfl, ?_⟩, trivial⟩
              ·
                refine stX H45 6 rfl ty24 rfl rfl s53 rfl rfl rfl rfl ?_
                intro w53 (H46 : HI M w w53 [imm (.slice a9 (setMR n2_ rs2 ((x1.1.toNat : Int) % (1 + (n % 12))) ((x1.2.toNat : Int) % (1 + (n % 12)))).length c9) (setMR n2_ rs2 ((x1.1.toNat : Int) % (1 + (n % 12))) ((x1.2.toNat : Int) % (1 + (n % 12)))), imm (.slice a5 (addMR n_ rs ((x0.1.toNat : Int) % (1 + (n % 12))) ((x0.2.toNat : Int) % (1 + (n % 12)))).length c5) (addMR n_ rs ((x0.1.toNat : Int) % (1 + (n % 12))) ((x0.2.toNat : Int) % (1 + (n % 12)))), box (I0 15) #[.int .i64 (setMN n_ ((x0.1.toNat : Int) % (1 + (n % 12))) ((x0.2.toNat : Int) % (1 + (n % 12)))), .slice a5 (addMR n_ rs ((x0.1.toNat : Int) % (1 + (n % 12))) ((x0.2.toNat : Int) % (1 + (n % 12)))).length c5] 24, box bb2 #[U8 x0.1, U8 x0.2] 39, imm (.slice a2 rs2.length c2) rs2, imm (.slice a1 rs.length c1) rs, box bb1 #[.int .i64 (setMN n2_ ((x1.1.toNat : Int) % (1 + (n % 12))) ((x1.2.toNat : Int) % (1 + (n % 12)))), .slice a9 (setMR n2_ rs2 ((x1.1.toNat : Int) % (1 + (n % 12))) ((x1.2.toNat : Int) % (1 + (n % 12)))).length c9] 24, box bb0 #[.int .i64 (setMN n_ ((x0.1.toNat : Int) % (1 + (n % 12))) ((x0.2.toNat : Int) % (1 + (n % 12)))), .slice a5 (addMR n_ rs ((x0.1.toNat : Int) % (1 + (n % 12))) ((x0.2.toNat : Int) % (1 + (n % 12)))).length c5] 24, imm (.slice a0 (newMR (1 + (n % 12))).length c0) (newMR (1 + (n % 12))), imm (.slice a_l l.length c_l) l])
                refine ta0 (by kernel_rfl) (inb_normal (nx (rg (k (mv rfl s54 (k (add rfl rfl rfl rfl (by unfold I64 at *; omega) (k (asg (v := .int .i64 ((j : Int) + 1)) rfl rfl (z ?_))))))))))
                have H47 := H46.put (it := imm (.slice a9 (setMR n2_ rs2 ((x1.1.toNat : Int) % (1 + (n % 12))) ((x1.2.toNat : Int) % (1 + (n % 12)))).length c9) (setMR n2_ rs2 ((x1.1.toNat : Int) % (1 + (n % 12))) ((x1.2.toNat : Int) % (1 + (n % 12))))) rfl (H46.rv 0 rfl)
                have H48 := H47.put (it := imm (.slice a5 (addMR n_ rs ((x0.1.toNat : Int) % (1 + (n % 12))) ((x0.2.toNat : Int) % (1 + (n % 12)))).length c5) (addMR n_ rs ((x0.1.toNat : Int) % (1 + (n % 12))) ((x0.2.toNat : Int) % (1 + (n % 12))))) rfl (H47.rv 2 rfl)
                have H49 : HI M w w53 [imm (.slice a9 (setMR n2_ rs2 ((x1.1.toNat : Int) % (1 + (n % 12))) ((x1.2.toNat : Int) % (1 + (n % 12)))).length c9) (setMR n2_ rs2 ((x1.1.toNat : Int) % (1 + (n % 12))) ((x1.2.toNat : Int) % (1 + (n % 12)))), imm (.slice a5 (addMR n_ rs ((x0.1.toNat : Int) % (1 + (n % 12))) ((x0.2.toNat : Int) % (1 + (n % 12)))).length c5) (addMR n_ rs ((x0.1.toNat : Int) % (1 + (n % 12))) ((x0.2.toNat : Int) % (1 + (n % 12)))), box bb1 #[.int .i64 (setMN n2_ ((x1.1.toNat : Int) % (1 + (n % 12))) ((x1.2.toNat : Int) % (1 + (n % 12)))), .slice a9 (setMR n2_ rs2 ((x1.1.toNat : Int) % (1 + (n % 12))) ((x1.2.toNat : Int) % (1 + (n % 12)))).length c9] 24, box bb0 #[.int .i64 (setMN n_ ((x0.1.toNat : Int) % (1 + (n % 12))) ((x0.2.toNat : Int) % (1 + (n % 12)))), .slice a5 (addMR n_ rs ((x0.1.toNat : Int) % (1 + (n % 12))) ((x0.2.toNat : Int) % (1 + (n % 12)))).length c5] 24, imm (.slice a0 (newMR (1 + (n % 12))).length c0) (newMR (1 + (n % 12))), imm (.slice a_l l.length c_l) l] := H48.pickN [1, 0, 8, 9, 10, 11] (by decide) rfl
                refine loopN _ ?_ ⟨(j + 1), (setMN n_ ((x0.1.toNat : Int) % (1 + (n % 12))) ((x0.2.toNat : Int) % (1 + (n % 12)))), (addMR n_ rs ((x0.1.toNat : Int) % (1 + (n % 12))) ((x0.2.toNat : Int) % (1 + (n % 12)))), (setMN n2_ ((x1.1.toNat : Int) % (1 + (n % 12))) ((x1.2.toNat : Int) % (1 + (n % 12)))), (setMR n2_ rs2 ((x1.1.toNat : Int) % (1 + (n % 12))) ((x1.2.toNat : Int) % (1 + (n % 12)))), a5, c5, a9, c9, rfl, s49, s50, s51, s52, s53, (ieq rfl (by first | rfl | omega | (push_cast; omega))), H49, (by first | assumption | omega | simp | (simp; omega)), (by rw [h1]; exact (set_yes (rs := rs) hin_).1), (by rw [h1, h2, rot_at (by omega) hx0]; exact hulK_snoc hK_ hK4_), (by rw [h3]; exact (set_yes (rs := rs2) (prK_in hK_ x1)).1), (by (try (have e_ := at_is hx1 hx0; subst e_)); (try (have e_ := at_is hx2 hx0; subst e_)); (try (have e_ := at_is hx3 hx0; subst e_)); (try (have e_ := at_is hx4 hx0; subst e_)); (try (have e_ := at_is hx5 hx0; subst e_)); (try (have e_ := at_is hx6 hx0; subst e_)); rw [h3, h4, take_at hx1]; exact allK_snoc hK_ hK4_)⟩
                omega
            ·
              refine stX H45 6 rfl ty24 rfl rfl s53 rfl rfl rfl rfl ?_
              intro w53 (H46 : HI M w w53 [imm (.slice a9 (setMR n2_ rs2 ((x1.1.toNat : Int) % (1 + (n % 12))) ((x1.2.toNat : Int) % (1 + (n % 12)))).length c9) (setMR n2_ rs2 ((x1.1.toNat : Int) % (1 + (n % 12))) ((x1.2.toNat : Int) % (1 + (n % 12)))), imm (.slice a5 (addMR n_ rs ((x0.1.toNat : Int) % (1 + (n % 12))) ((x0.2.toNat : Int) % (1 + (n % 12)))).length c5) (addMR n_ rs ((x0.1.toNat : Int) % (1 + (n % 12))) ((x0.2.toNat : Int) % (1 + (n % 12)))), box (I0 15) #[.int .i64 (setMN n_ ((x0.1.toNat : Int) % (1 + (n % 12))) ((x0.2.toNat : Int) % (1 + (n % 12)))), .slice a5 (addMR n_ rs ((x0.1.toNat : Int) % (1 + (n % 12))) ((x0.2.toNat : Int) % (1 + (n % 12)))).length c5] 24, box bb2 #[U8 x0.1, U8 x0.2] 39, imm (.slice a2 rs2.length c2) rs2, imm (.slice a1 rs.length c1) rs, box bb1 #[.int .i64 (setMN n2_ ((x1.1.toNat : Int) % (1 + (n % 12))) ((x1.2.toNat : Int) % (1 + (n % 12)))), .slice a9 (setMR n2_ rs2 ((x1.1.toNat : Int) % (1 + (n % 12))) ((x1.2.toNat : Int) % (1 + (n % 12)))).length c9] 24, box bb0 #[.int .i64 (setMN n_ ((x0.1.toNat : Int) % (1 + (n % 12))) ((x0.2.toNat : Int) % (1 + (n % 12)))), .slice a5 (addMR n_ rs ((x0.1.toNat : Int) % (1 + (n % 12))) ((x0.2.toNat : Int) % (1 + (n % 12)))).length c5] 24, imm (.slice a0 (newMR (1 + (n % 12))).length c0) (newMR (1 + (n % 12))), imm (.slice a_l l.length c_l) l])
              refine ta [20] (by kernel_rfl) rfl ⟨⟨_, rfl, ?_⟩, trivial⟩
              ·
                refine xt rfl s55 rfl (ta0 (by kernel_rfl) (inb_normal (nx (rg (k (mv rfl s54 (k (add rfl rfl rfl rfl (by unfold I64 at *; omega) (k (asg (v := .int .i64 ((j : Int) + 1)) rfl rfl (z ?_)))))))))))
                have H47 := H46.put (it := imm (.slice a9 (setMR n2_ rs2 ((x1.1.toNat : Int) % (1 + (n % 12))) ((x1.2.toNat : Int) % (1 + (n % 12)))).length c9) (setMR n2_ rs2 ((x1.1.toNat : Int) % (1 + (n % 12))) ((x1.2.toNat : Int) % (1 + (n % 12))))) rfl (H46.rv 0 rfl)
                have H48 := H47.put (it := imm (.slice a5 (addMR n_ rs ((x0.1.toNat : Int) % (1 + (n % 12))) ((x0.2.toNat : Int) % (1 + (n % 12)))).length c5) (addMR n_ rs ((x0.1.toNat : Int) % (1 + (n % 12))) ((x0.2.toNat : Int) % (1 + (n % 12))))) rfl (H47.rv 2 rfl)
                have H49 : HI M w w53 [imm (.slice a9 (setMR n2_ rs2 ((x1.1.toNat : Int) % (1 + (n % 12))) ((x1.2.toNat : Int) % (1 + (n % 12)))).length c9) (setMR n2_ rs2 ((x1.1.toNat : Int) % (1 + (n % 12))) ((x1.2.toNat : Int) % (1 + (n % 12)))), imm (.slice a5 (addMR n_ rs ((x0.1.toNat : Int) % (1 + (n % 12))) ((x0.2.toNat : Int) % (1 + (n % 12)))).length c5) (addMR n_ rs ((x0.1.toNat : Int) % (1 + (n % 12))) ((x0.2.toNat : Int) % (1 + (n % 12)))), box bb1 #[.int .i64 (setMN n2_ ((x1.1.toNat : Int) % (1 + (n % 12))) ((x1.2.toNat : Int) % (1 + (n % 12)))), .slice a9 (setMR n2_ rs2 ((x1.1.toNat : Int) % (1 + (n % 12))) ((x1.2.toNat : Int) % (1 + (n % 12)))).length c9] 24, box bb0 #[.int .i64 (setMN n_ ((x0.1.toNat : Int) % (1 + (n % 12))) ((x0.2.toNat : Int) % (1 + (n % 12)))), .slice a5 (addMR n_ rs ((x0.1.toNat : Int) % (1 + (n % 12))) ((x0.2.toNat : Int) % (1 + (n % 12)))).length c5] 24, imm (.slice a0 (newMR (1 + (n % 12))).length c0) (newMR (1 + (n % 12))), imm (.slice a_l l.length c_l) l] := H48.pickN [1, 0, 8, 9, 10, 11] (by decide) rfl
                refine loopN _ ?_ ⟨(j + 1), (setMN n_ ((x0.1.toNat : Int) % (1 + (n % 12))) ((x0.2.toNat : Int) % (1 + (n % 12)))), (addMR n_ rs ((x0.1.toNat : Int) % (1 + (n % 12))) ((x0.2.toNat : Int) % (1 + (n % 12)))), (setMN n2_ ((x1.1.toNat : Int) % (1 + (n % 12))) ((x1.2.toNat : Int) % (1 + (n % 12)))), (setMR n2_ rs2 ((x1.1.toNat : Int) % (1 + (n % 12))) ((x1.2.toNat : Int) % (1 + (n % 12)))), a5, c5, a9, c9, rfl, s49, s50, s51, s52, s53, (ieq rfl (by first | rfl | omega | (push_cast; omega))), H49, (by first | assumption | omega | simp | (simp; omega)), (by rw [h1]; exact (set_yes (rs := rs) hin_).1), (by rw [h1, h2, rot_at (by omega) hx0]; exact hulK_snoc hK_ hK4_), (by rw [h3]; exact (set_yes (rs := rs2) (prK_in hK_ x1)).1), (by (try (have e_ := at_is hx1 hx0; subst e_)); (try (have e_ := at_is hx2 hx0; subst e_)); (try (have e_ := at_is hx3 hx0; subst e_)); (try (have e_ := at_is hx4 hx0; subst e_)); (try (have e_ := at_is hx5 hx0; subst e_)); (try (have e_ := at_is hx6 hx0; subst e_)); rw [h3, h4, take_at hx1]; exact allK_snoc hK_ hK4_)⟩
                omega
          ·
            refine xt rfl s55 rfl ?_
            refine ta [19] (by kernel_rfl) rfl ⟨⟨_, rfl, ?_⟩, trivial⟩
            ·
              refine xt rfl s55 rfl ?_
              refine ta [21] (by kernel_rfl) rfl ⟨⟨_, rfl, ?_⟩, trivial⟩
              ·
                refine stX H45 6 rfl ty24 rfl rfl s53 rfl rfl rfl rfl ?_
                intro w53 (H46 : HI M w w53 [imm (.slice a9 (setMR n2_ rs2 ((x1.1.toNat : Int) % (1 + (n % 12))) ((x1.2.toNat : Int) % (1 + (n % 12)))).length c9) (setMR n2_ rs2 ((x1.1.toNat : Int) % (1 + (n % 12))) ((x1.2.toNat : Int) % (1 + (n % 12)))), imm (.slice a5 (addMR n_ rs ((x0.1.toNat : Int) % (1 + (n % 12))) ((x0.2.toNat : Int) % (1 + (n % 12)))).length c5) (addMR n_ rs ((x0.1.toNat : Int) % (1 + (n % 12))) ((x0.2.toNat : Int) % (1 + (n % 12)))), box (I0 15) #[.int .i64 (setMN n_ ((x0.1.toNat : Int) % (1 + (n % 12))) ((x0.2.toNat : Int) % (1 + (n % 12)))), .slice a5 (addMR n_ rs ((x0.1.toNat : Int) % (1 + (n % 12))) ((x0.2.toNat : Int) % (1 + (n % 12)))).length c5] 24, box bb2 #[U8 x0.1, U8 x0.2] 39, imm (.slice a2 rs2.length c2) rs2, imm (.slice a1 rs.length c1) rs, box bb1 #[.int .i64 (setMN n2_ ((x1.1.toNat : Int) % (1 + (n % 12))) ((x1.2.toNat : Int) % (1 + (n % 12)))), .slice a9 (setMR n2_ rs2 ((x1.1.toNat : Int) % (1 + (n % 12))) ((x1.2.toNat : Int) % (1 + (n % 12)))).length c9] 24, box bb0 #[.int .i64 (setMN n_ ((x0.1.toNat : Int) % (1 + (n % 12))) ((x0.2.toNat : Int) % (1 + (n % 12)))), .slice a5 (addMR n_ rs ((x0.1.toNat : Int) % (1 + (n % 12))) ((x0.2.toNat : Int) % (1 + (n % 12)))).length c5] 24, imm (.slice a0 (newMR (1 + (n % 12))).length c0) (newMR (1 + (n % 12))), imm (.slice a_l l.length c_l) l])
                refine ta0 (by kernel_rfl) (inb_normal (nx (rg (k (mv rfl s54 (k (add rfl rfl rfl rfl (by unfold I64 at *; omega) (k (asg (v := .int .i64 ((j : Int) + 1)) rfl rfl (z ?_))))))))))
                have H47 := H46.put (it := imm (.slice a9 (setMR n2_ rs2 ((x1.1.toNat : Int) % (1 + (n % 12))) ((x1.2.toNat : Int) % (1 + (n % 12)))).length c9) (setMR n2_ rs2 ((x1.1.toNat : Int) % (1 + (n % 12))) ((x1.2.toNat : Int) % (1 + (n % 12))))) rfl (H46.rv 0 rfl)
                have H48 := H47.put (it := imm (.slice a5 (addMR n_ rs ((x0.1.toNat : Int) % (1 + (n % 12))) ((x0.2.toNat : Int) % (1 + (n % 12)))).length c5) (addMR n_ rs ((x0.1.toNat : Int) % (1 + (n % 12))) ((x0.2.toNat : Int) % (1 + (n % 12))))) rfl (H47.rv 2 rfl)
                have H49 : HI M w w53 [imm (.slice a9 (setMR n2_ rs2 ((x1.1.toNat : Int) % (1 + (n % 12))) ((x1.2.toNat : Int) % (1 + (n % 12)))).length c9) (setMR n2_ rs2 ((x1.1.toNat : Int) % (1 + (n % 12))) ((x1.2.toNat : Int) % (1 + (n % 12)))), imm (.slice a5 (addMR n_ rs ((x0.1.toNat : Int) % (1 + (n % 12))) ((x0.2.toNat : Int) % (1 + (n % 12)))).length c5) (addMR n_ rs ((x0.1.toNat : Int) % (1 + (n % 12))) ((x0.2.toNat : Int) % (1 + (n % 12)))), box bb1 #[.int .i64 (setMN n2_ ((x1.1.toNat : Int) % (1 + (n % 12))) ((x1.2.toNat : Int) % (1 + (n % 12)))), .slice a9 (setMR n2_ rs2 ((x1.1.toNat : Int) % (1 + (n % 12))) ((x1.2.toNat : Int) % (1 + (n % 12)))).length c9] 24, box bb0 #[.int .i64 (setMN n_ ((x0.1.toNat : Int) % (1 + (n % 12))) ((x0.2.toNat : Int) % (1 + (n % 12)))), .slice a5 (addMR n_ rs ((x0.1.toNat : Int) % (1 + (n % 12))) ((x0.2.toNat : Int) % (1 + (n % 12)))).length c5] 24, imm (.slice a0 (newMR (1 + (n % 12))).length c0) (newMR (1 + (n % 12))), imm (.slice a_l l.length c_l) l] := H48.pickN [1, 0, 8, 9, 10, 11] (by decide) rfl
                refine loopN _ ?_ ⟨(j + 1), (setMN n_ ((x0.1.toNat : Int) % (1 + (n % 12))) ((x0.2.toNat : Int) % (1 + (n % 12)))), (addMR n_ rs ((x0.1.toNat : Int) % (1 + (n % 12))) ((x0.2.toNat : Int) % (1 + (n % 12)))), (setMN n2_ ((x1.1.toNat : Int) % (1 + (n % 12))) ((x1.2.toNat : Int) % (1 + (n % 12)))), (setMR n2_ rs2 ((x1.1.toNat : Int) % (1 + (n % 12))) ((x1.2.toNat : Int) % (1 + (n % 12)))), a5, c5, a9, c9, rfl, s49, s50, s51, s52, s53, (ieq rfl (by first | rfl | omega | (push_cast; omega))), H49, (by first | assumption | omega | simp | (simp; omega)), (by rw [h1]; exact (set_yes (rs := rs) hin_).1), (by rw [h1, h2, rot_at (by omega) hx0]; exact hulK_snoc hK_ hK4_), (by rw [h3]; exact (set_yes (rs := rs2) (prK_in hK_ x1)).1), (by (try (have e_ := at_is hx1 hx0; subst e_)); (try (have e_ := at_is hx2 hx0; subst e_)); (try (have e_ := at_is hx3 hx0; subst e_)); (try (have e_ := at_is hx4 hx0; subst e_)); (try (have e_ := at_is hx5 hx0; subst e_)); (try (have e_ := at_is hx6 hx0; subst e_)); rw [h3, h4, take_at hx1]; exact allK_snoc hK_ hK4_)⟩
                omega
    ·
      have p1 := of_decide_eq_false b1
      refine ex (then_exit (loop_exit (inb_here (nx (sq ?_)))))
      refine dr 5 [fun (v : Value) (w' : World) => v = .bool true, fun (v : Value) (w' : World) => v = .bool true, fun (v : Value) (w' : World) => v = .agg #[.int .i64 n_, .slice a1 rs.length c1], fun (v : Value) (w' : World) => v = .agg #[.int .i64 n2_, .slice a2 rs2.length c2], fun (v : Value) (w' : World) => ∃ (a3 : Option Addr) (c3 : Nat), v = .agg #[.int .i64 n2_, .slice a3 (closeM n2_ rs2).length c3] ∧ RV (MS M [imm (.slice a2 rs2.length c2) rs2, imm (.slice a1 rs.length c1) rs, box bb1 #[.int .i64 n2_, .slice a2 rs2.length c2] 24, box bb0 #[.int .i64 n_, .slice a1 rs.length c1] 24, imm (.slice a0 (newMR (1 + (n % 12))).length c0) (newMR (1 + (n % 12))), imm (.slice a_l l.length c_l) l]) w' (.slice a3 (closeM n2_ rs2).length c3) (closeM n2_ rs2)] rfl (by kernel_rfl) ?_ ?_
      ·
        refine ⟨fun _ => ⟨fun f1 w8 hf0 xt5 hp0 => ?_, fun _ _ _ _ h => h⟩, ?_⟩
        ·
          have H13 := H9.ext xt5
          have cc3 := awake04 (w := w8) (hT.ext H13.below)
          refine ca go21 rfl e0 cc3 ?_
          rintro _ w9 ⟨rfl, xt6⟩
          have H14 := H13.ext xt6
          exact ⟨_, rfl, xt6, rfl⟩
        refine ⟨fun _ => ⟨fun f2 w10 hf1 xt7 hp1 => ?_, fun _ _ _ _ h => h⟩, ?_⟩
        ·
          have H15 := H9.ext xt7
          have s6 : f2 84 = .bool true := hp1 0 rfl rfl
          refine mv rfl s6 ?_
          exact ⟨_, rfl, Ext.refl _, rfl⟩
        refine ⟨fun _ => ⟨fun f3 w11 hf2 xt8 hp2 => ?_, fun _ _ _ _ h => h⟩, ?_⟩
        ·
          have H16 := H9.ext xt8
          have s7 : f3 85 = .bool true := hp2 1 rfl rfl
          refine gy rfl rfl s7 rfl (ldX H16 3 rfl ty24 rfl ((hf2 8 rfl).trans s3) (by decide) rfl ?_)
          exact ⟨_, rfl, Ext.refl _, rfl⟩
        refine ⟨fun _ => ⟨fun f4 w12 hf3 xt9 hp3 => ?_, fun _ _ _ _ h => h⟩, ?_⟩
        ·
          have H17 := H9.ext xt9
          have s8 : f4 85 = .bool true := hp3 1 rfl rfl
          refine gy rfl rfl s8 rfl (ldX H17 2 rfl ty24 rfl ((hf3 10 rfl).trans s4) (by decide) rfl ?_)
          exact ⟨_, rfl, Ext.refl _, rfl⟩
        refine ⟨fun _ => ⟨fun f5 w13 hf4 xt10 hp4 => ?_, by rintro _ _ _ x_ ⟨a3, c3, e_, rv2⟩; exact ⟨a3, c3, e_, rv2.lift (Up.ext x_)⟩⟩, ?_⟩
        ·
          have H18 := H9.ext xt10
          have s9 : f5 85 = .bool true := hp4 1 rfl rfl
          have s10 : f5 87 = .agg #[.int .i64 n2_, .slice a2 rs2.length c2] := hp4 3 rfl rfl
          refine gy rfl rfl s9 rfl ?_
          have cc4 := hull_Close (mn := n2_) (mr := rs2) (w := w13) H18.mb (by rw [h3]; unfold I64; omega) (H18.rv 0 rfl) (by rw [h3, h4]; exact allK_right hK_ hK4_)
          refine ca go22 rfl (ec s10 e0) cc4 ?_
          rintro _ w14 ⟨a4, c4, rfl, xt11, rv3⟩
          have rv4 := OwnsG.rv rv3 H18.mb
          have H19 := H18.ext xt11
          have H20 := H19.put (it := imm (.slice a4 (closeM n2_ rs2).length c4) (closeM n2_ rs2)) rfl rv4
          exact ⟨_, rfl, xt11, ⟨a4, c4, rfl, rv4⟩⟩
        exact DSteps.rest rfl _
      · intro f6 w15 hf5 xt12 hp5
        have H21 := H9.ext xt12
        have s11 : f6 85 = .bool true := hp5 1 rfl
        have s12 : f6 86 = .agg #[.int .i64 n_, .slice a1 rs.length c1] := hp5 2 rfl
        obtain ⟨a5, c5, s13, rv5⟩ : ∃ (a5 : Option Addr) (c5 : Nat), f6 88 = .agg #[.int .i64 n2_, .slice a5 (closeM n2_ rs2).length c5] ∧ RV (MS M [imm (.slice a2 rs2.length c2) rs2, imm (.slice a1 rs.length c1) rs, box bb1 #[.int .i64 n2_, .slice a2 rs2.length c2] 24, box bb0 #[.int .i64 n_, .slice a1 rs.length c1] 24, imm (.slice a0 (newMR (1 + (n % 12))).length c0) (newMR (1 + (n % 12))), imm (.slice a_l l.length c_l) l]) w15 (.slice a5 (closeM n2_ rs2).length c5) (closeM n2_ rs2) := hp5 4 rfl
        have H22 := H21.put (it := imm (.slice a5 (closeM n2_ rs2).length c5) (closeM n2_ rs2)) rfl rv5
        refine k (gy rfl rfl s11 rfl ?_)
        have cc5 := ref03_Equal (an := n_) (ar := rs) (bn := n2_) (br := (closeM n2_ rs2)) (w := w15) H22.mb (by rw [h1]; unfold I64; omega) (H22.rv 2 rfl) (by rw [h3]; unfold I64; omega) (H22.rv 0 rfl)
        refine ca go18 rfl (ec s12 (ec s13 e0)) cc5 ?_
        rintro _ w16 ⟨rfl, xt13⟩
        have H23 := H22.ext xt13
        refine k (pickT rfl rfl rfl s11 rfl rfl (k (asg (v := .bool (eqM n_ rs n2_ (closeM n2_ rs2))) rfl rfl (z (nx (rt (r1 rfl rfl ?_)))))))
        have tr0 : (eqM n_ rs n2_ (closeM n2_ rs2)) = true := (by have e_ : j = l.length := (by omega); rw [h1, h2, h3, h4, e_, List.take_length, hulK_end hK_ hK4_]; exact eqM_refl _ _)
        have e0 : (eqM n_ rs n2_ (closeM n2_ rs2) : Bool) = true := by exact tr0
        have ev_ := cg1 (fun (x_0 : Bool) => (.bool x_0 : Value)) e0
        exact ⟨ev_, H23.below⟩
end Go.Proofs.YtmhopljngkgidaaDoor
