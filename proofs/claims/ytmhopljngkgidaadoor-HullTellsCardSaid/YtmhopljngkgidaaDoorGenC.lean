/- PRINTED by my own tool (wip/tool/gen.py): contracts of Go functions of this seat, each with its proof. -/
import Derived.Test.YtmhopljngkgidaaDoorOwnC
import Derived.Test.YtmhopljngkgidaaDoorOwnA
import Derived.Test.YtmhopljngkgidaaDoorGenB
import Derived.Test.YtmhopljngkgidaaDoorGenA
import Derived.Test.YtmhopljngkgidaaDoorOwnB
namespace Go.Proofs.YtmhopljngkgidaaDoor
open Go.Ew Go.RowKit
set_option linter.unusedVariables false
set_option linter.unusedSimpArgs false
attribute [local irreducible] WL WC SO Code.wp wpList retQ Ret
attribute [local irreducible] bitB hasW inR hasR setR countW countR subR words newR listR orR firstW tab8
theorem ty4 : TyF Tryd.prog 4 1 false 1 (.bool false) := ⟨by kernel_rfl, by kernel_rfl⟩
theorem un111 : Tryd.prog.underlying 111 = some (.slice 4) := by kernel_rfl
theorem go77 : GoF Tryd.prog 77 := ⟨_, _, Tryd.func77, rfl, by kernel_rfl⟩
theorem go30 : GoF Tryd.prog 30 := ⟨_, _, Tryd.func30, rfl, by kernel_rfl⟩
theorem go79 : GoF Tryd.prog 79 := ⟨_, _, Tryd.func79, rfl, by kernel_rfl⟩
/- eyewitness/eyewitnessref04.has -/
set_option maxRecDepth 100000 in
set_option maxHeartbeats 1600000 in
theorem ref04_has {M : Nat → Prop} {w : World} {a_l : Option Addr} {c_l : Nat} {l : List Int} {x : Int} (hM : ∀ b, M b → b < w.heap.size) (h_l : RV M w (.slice a_l l.length c_l) l) (h_x : I64 x) : Calls Tryd.prog 79 #[.slice a_l l.length c_l, .int .i64 x] w (Ret fun v w' =>  v = .bool (decide (x ∈ l)) ∧ Ext w w') := by
  refine enter 18 Tryd.func79 rfl rfl rfl fun f0 ha => ?_
  have H := HI.start (M0 := M) (w := w) hM
  have H0 := H.put (it := imm (.slice a_l l.length c_l) l) rfl (by rw [MS_nil]; exact h_l)
  have ln_l := rv_len h_l
  have i0 : f0 0 = .slice a_l l.length c_l := ha 0 (by simp)
  have i1 : f0 1 = .int .i64 x := ha 1 (by simp)
  refine sq (rg (k (asg (v := .bool false) rfl rfl (z (nx (sq (sq (rg (k (asg (v := .int .i64 0) rfl rfl (z (nx (bk ?_)))))))))))))
  refine lp (fun m f w' => ∃ (j : Nat), m = l.length - j ∧ f 0 = .slice a_l l.length c_l ∧ f 1 = .int .i64 x ∧ f 5 = .int .i64 (j : Int) ∧  HI M w w' [imm (.slice a_l l.length c_l) l] ∧ (j ≤ l.length) ∧ (x ∉ l.take j)) _ ⟨0, rfl, i0, i1, (ieq rfl (by first | rfl | omega | simp)), H0, (by first | assumption | omega | simp | (simp; omega)), (by simp)⟩ ?_
  rintro _ f0 w0 ⟨j, rfl, s0, s1, s2, H1, hk, hs⟩
  refine sq (sq (rg (k (mv rfl s2 (k (mv rfl s0 (k (lnS rfl rfl un42 (k (lss rfl rfl rfl rfl (z (nx ?_))))))))))))
  refine cd (b := decide ((j : Int) < (l.length : Int))) rfl rfl (fun b0 => ?_) (fun b0 => ?_)
  ·
    have p0 := of_decide_eq_true b0
    refine sk (nx (sq (bk (sq (rg (k (mv rfl s0 (k (mv rfl s2 (k (ia (H1.rv 0 rfl) rfl rfl rfl rfl (by first | omega | (simp; omega)) un42 ty3 ?_)))))))))))
    intro ad0 x0 hx0 hA0
    refine k (ldI hA0.w ty3 rfl rfl ?_)
    intro rv0
    refine k (mv rfl s1 (k (eql rfl rfl rfl rfl (z (nx ?_)))))
    refine cd (b := decide (x0 = x)) rfl rfl (fun b1 => ?_) (fun b1 => ?_)
    ·
      have p1 := of_decide_eq_true b1
      refine sq (rg (k (asg (v := .bool true) rfl rfl (z (nx (rt (inb_ret (then_ret (loop_ret (inb_ret (then_ret (r1 rfl rfl ?_))))))))))))
      have e0 : (true : Bool) = decide (x ∈ l) := by first | exact memI_yes hx0 (by assumption) | exact memI_no hs (by omega)
      have ev_ := cg1 (fun (x_0 : Bool) => (.bool x_0 : Value)) e0
      exact ⟨ev_, H1.below⟩
    ·
      have p1 := of_decide_eq_false b1
      refine sk (inb_normal (nx (rg (k (mv rfl s2 (k (add rfl rfl rfl rfl (by unfold I64 at *; omega) (k (asg (v := .int .i64 ((j : Int) + 1)) rfl rfl (z ?_))))))))))
      refine loopN _ ?_ ⟨(j + 1), rfl, s0, s1, (ieq rfl (by first | rfl | omega | (push_cast; omega))), H1, (by first | assumption | omega | simp | (simp; omega)), (by exact memI_step hs hx0 (by assumption))⟩
      omega
  ·
    have p0 := of_decide_eq_false b0
    refine ex (then_exit (loop_exit (inb_here (nx (sq (rg (k (asg (v := .bool false) rfl rfl (z (nx (rt (r1 rfl rfl ?_))))))))))))
    have e0 : (false : Bool) = decide (x ∈ l) := by first | exact memI_yes hx0 (by assumption) | exact memI_no hs (by omega)
    have ev_ := cg1 (fun (x_0 : Bool) => (.bool x_0 : Value)) e0
    exact ⟨ev_, H1.below⟩
/- eyewitness/eyewitnessref04.Reach -/
set_option maxRecDepth 100000 in
set_option maxHeartbeats 1600000 in
theorem ref04_Reach {M : Nat → Prop} {w : World} {mn : Int} {a_mr : Option Addr} {c_mr : Nat} {mr : List (List (BitVec 64))} {i : Int} (hM : ∀ b, M b → b < w.heap.size) (h_mn : I64 mn) (h_mr : RV M w (.slice a_mr mr.length c_mr) mr) (h_i : I64 i) (rt_m : rightS mn mr = true) (hi0 : 0 ≤ i) (hi1 : i < mn) : Calls Tryd.prog 77 #[.agg #[.int .i64 mn, .slice a_mr mr.length c_mr], .int .i64 i] w (Ret fun v w' => ∃ (a0 : Option Addr) (c0 : Nat), v = .slice a0 (lst mn.toNat (cl mn.toNat (relM mr) i.toNat)).length c0 ∧ Ext w w' ∧ OwnsG M 3 w (lst mn.toNat (cl mn.toNat (relM mr) i.toNat)) (.slice a0 (lst mn.toNat (cl mn.toNat (relM mr) i.toNat)).length c0) w') := by
  refine enter 63 Tryd.func77 rfl rfl rfl fun f0 ha => ?_
  have H := HI.start (M0 := M) (w := w) hM
  have H0 := H.put (it := imm (.slice a_mr mr.length c_mr) mr) rfl (by rw [MS_nil]; exact h_mr)
  have ln_mr := rv_len h_mr
  have i0 : f0 0 = .agg #[.int .i64 mn, .slice a_mr mr.length c_mr] := ha 0 (by simp)
  have i1 : f0 1 = .int .i64 i := ha 1 (by simp)
  have hl_ := (right_sq rt_m).1; have h4_ := (right_sq rt_m).2.2.1; have h0_ := right_pos rt_m
  refine sq (rg (k (bx H0 rfl i0 ?_)))
  intro bb0 w0 xt0 (H1 : HI M w w0 [box bb0 #[.int .i64 mn, .slice a_mr mr.length c_mr] 24, imm (.slice a_mr mr.length c_mr) mr])
  refine k (asg (v := .slice none 0 0) rfl rfl (z (nx (sq (rg (k (asg (v := .slice none 0 0) rfl rfl (z (nx (sq (rg (k (fa fl24_0 rfl rfl (k (ldX H1 0 rfl ty3 rfl rfl (by decide) rfl (k ?_))))))))))))))))
  have n0 : ((mn.toNat : Nat) : Int) = mn := Int.toNat_of_nonneg (by omega)
  refine mk (m := mn.toNat) (zx := (false : Bool)) H1 rfl rfl (by rw [n0]; exact rfl) (by rw [n0]; exact rfl) un111 ty4 (fun _ _ => rfl) (by omega) (by omega) ?_
  intro g0 w1 xt1 (H2 : HI M w w1 [own w.heap.size 4 (.slice (some ⟨g0, 0, none⟩) mn.toNat mn.toNat) (List.replicate mn.toNat (false : Bool)), box bb0 #[.int .i64 mn, .slice a_mr mr.length c_mr] 24, imm (.slice a_mr mr.length c_mr) mr])
  refine k (asg (v := .slice (some ⟨g0, 0, none⟩) mn.toNat mn.toNat) rfl rfl (z (nx (sq (rg (k (mv rfl i1 (k (bs (xs := ([i] : List Int)) (cells := #[.int .i64 i]) (e := 3) H2 rfl (pbc rfl pb0) (fun _ => by kernel_rfl) ⟨[.int .i64 i], [], rfl, ⟨rfl, (show I64 (i) from (by unfold I64 at *; omega))⟩, rfl⟩ rfl (by unfold maxLen; omega) ?_)))))))))
  intro g1 w2 xt2 (H3 : HI M w w2 [own w.heap.size 3 (.slice (some ⟨g1, 0, none⟩) 1 1) ([i] : List Int), own w.heap.size 4 (.slice (some ⟨g0, 0, none⟩) mn.toNat mn.toNat) (List.replicate mn.toNat (false : Bool)), box bb0 #[.int .i64 mn, .slice a_mr mr.length c_mr] 24, imm (.slice a_mr mr.length c_mr) mr])
  refine k (asg (v := .slice (some ⟨g1, 0, none⟩) 1 1) rfl rfl (z (nx (sq (bk ?_)))))
  have H4 : HI M w w2 [ownQ w.heap.size 3 (.slice (some ⟨g1, 0, none⟩) 1 1) ([i] : List Int), own w.heap.size 4 (.slice (some ⟨g0, 0, none⟩) mn.toNat mn.toNat) (List.replicate mn.toNat (false : Bool)), box bb0 #[.int .i64 mn, .slice a_mr mr.length c_mr] 24, imm (.slice a_mr mr.length c_mr) mr] := H3.toQ 0 rfl
  refine lp (fun m f w' => ∃ (sn : List Bool) (td : List Int) (a0 : Option Addr) (c0 : Nat), m = 2 * sn.count false + td.length ∧ f 2 = .pointer (some ⟨bb0, 0, none⟩) ∧ f 5 = .slice none 0 0 ∧ f 6 = .slice (some ⟨g0, 0, none⟩) mn.toNat mn.toNat ∧ f 7 = .slice a0 td.length c0 ∧  HI M w w' [ownQ w.heap.size 3 (.slice a0 td.length c0) td, own w.heap.size 4 (.slice (some ⟨g0, 0, none⟩) mn.toNat mn.toNat) sn, box bb0 #[.int .i64 mn, .slice a_mr mr.length c_mr] 24, imm (.slice a_mr mr.length c_mr) mr] ∧ (Rch mn.toNat (relM mr) i.toNat sn td (-1) 0) ∧ (2 * sn.count false + td.length ≤ 2 * mn.toNat + 1)) _ ⟨(List.replicate mn.toNat (false : Bool)), [i], (some ⟨g1, 0, none⟩), 1, rfl, rfl, rfl, rfl, rfl, H4, (by have h_ := rch_start (n := mn.toNat) (p := relM mr) (i := i.toNat) (by omega); rwa [Int.toNat_of_nonneg hi0] at h_), (by simp)⟩ ?_
  rintro _ f0 w3 ⟨sn, td, a0, c0, rfl, s0, s1, s2, s3, H5, hs, hz_⟩
  refine sq (sq (rg (k (mv rfl s3 (k (lnS rfl rfl un42 (k (gtr rfl rfl rfl rfl (z (nx ?_))))))))))
  refine cd (b := decide (0 < (td.length : Int))) rfl rfl (fun b0 => ?_) (fun b0 => ?_)
  ·
    have p0 := of_decide_eq_true b0
    refine sk (nx (bk (sq ?_)))
    have hn_ : ((mn.toNat : Nat) : Int) = mn := Int.toNat_of_nonneg h0_
    refine rg (k (mv rfl s3 (k (iaQ (H5.at_ 0 rfl) rfl rfl rfl rfl (by first | omega | (simp; omega)) un42 ty3 ?_))))
    intro ad0 x0 hx0 hA0
    refine k (ldI hA0 ty3 rfl rfl ?_)
    intro rv0
    refine k (asg (v := .int .i64 x0) rfl rfl (z (nx (sq ?_))))
    obtain ⟨at_, hat_, ha1_, ha2_⟩ := rch_at hs hx0
    refine rg (k (mv rfl s3 (k (slQ H5 0 rfl rfl rfl rfl rfl (by first | omega | (simp; omega)) un42 ty3 ?_))))
    intro a1 c1 (H6 : HI M w w3 [ownQ w.heap.size 3 (.slice a1 (td.drop 1).length c1) (td.drop 1), own w.heap.size 4 (.slice (some ⟨g0, 0, none⟩) mn.toNat mn.toNat) sn, box bb0 #[.int .i64 mn, .slice a_mr mr.length c_mr] 24, imm (.slice a_mr mr.length c_mr) mr])
    refine k (asg (v := .slice a1 (td.drop 1).length c1) rfl rfl (z (nx (sq (rg (k (asg (v := .int .i64 0) rfl rfl (z (nx (bk ?_))))))))))
    refine lp (fun m f w' => ∃ (j : Nat) (sn2 : List Bool) (td2 : List Int) (a2 : Option Addr) (c2 : Nat), m = mn.toNat - j ∧ f 2 = .pointer (some ⟨bb0, 0, none⟩) ∧ f 5 = .slice none 0 0 ∧ f 6 = .slice (some ⟨g0, 0, none⟩) mn.toNat mn.toNat ∧ f 7 = .slice a2 td2.length c2 ∧ f 8 = .int .i64 x0 ∧ f 9 = .int .i64 (j : Int) ∧  HI M w w' [ownQ w.heap.size 3 (.slice a2 td2.length c2) td2, own w.heap.size 4 (.slice (some ⟨g0, 0, none⟩) mn.toNat mn.toNat) sn2, box bb0 #[.int .i64 mn, .slice a_mr mr.length c_mr] 24, imm (.slice a_mr mr.length c_mr) mr] ∧ (j ≤ mn.toNat) ∧ (Rch mn.toNat (relM mr) i.toNat sn2 td2 x0 j) ∧ (2 * sn2.count false + td2.length ≤ 2 * sn.count false + (td.drop 1).length)) _ ⟨0, sn, (td.drop 1), a1, c1, rfl, s0, s1, s2, rfl, rfl, (ieq rfl (by first | rfl | omega | simp)), H6, (by first | assumption | omega | simp | (simp; omega)), (by exact rch_pop hs hx0), (by first | assumption | omega | simp | (simp; omega))⟩ ?_
    rintro _ f1 w4 ⟨j, sn2, td2, a2, c2, rfl, s4, s5, s6, s7, s8, s9, H7, hj_, hs2, hz2_⟩
    refine sq (sq (rg (k (mv rfl s9 (k (fa fl24_0 rfl s4 (k (ldX H7 2 rfl ty3 rfl rfl (by decide) rfl (k (lss rfl rfl rfl rfl (z (nx ?_))))))))))))
    refine cd (b := decide ((j : Int) < mn)) rfl rfl (fun b1 => ?_) (fun b1 => ?_)
    ·
      have p1 := of_decide_eq_true b1
      refine sk (nx (sq (bk (sq (rg (k (ldX H7 2 rfl ty24 rfl s4 (by decide) rfl (k (mv rfl s8 (k (mv rfl s9 (k ?_))))))))))))
      have cc0 := ref03_Has (mn := mn) (mr := mr) (i := x0) (j := (j : Int)) (w := w4) H7.mb (by unfold I64 at *; omega) (H7.rv 3 rfl) (by unfold I64 at *; omega) (by unfold I64 at *; omega) (by exact (right_sq rt_m).1) (by exact (right_sq rt_m).2.1) (by exact (right_sq rt_m).2.2.1)
      refine ca go45 rfl (ec rfl (ec rfl (ec rfl e0))) cc0 ?_
      rintro _ w5 ⟨rfl, xt3⟩
      have H8 := H7.ext xt3
      refine k (mv (v := .bool (hasM mn mr x0 (j : Int))) rfl rfl ?_)
      rcases Bool.eq_false_or_eq_true (hasM mn mr x0 (j : Int)) with b2 | b2
      · -- hasM mn mr x0 (j : Int) is True
        refine k (gy rfl rfl rfl b2 (mv rfl s6 (k (gy rfl rfl rfl b2 (mv rfl s9 (k (gy rfl rfl rfl b2 (iaO (H8.at_ 1 rfl) rfl rfl rfl rfl (by first | (have h_ := hs2.len; omega) | (have h_ := hs.len; omega)) un111 ty4 ?_))))))))
        intro g2 x1 hv0 hx1 hA1
        refine k (gy rfl rfl rfl b2 (ldB hA1 ty4 rfl rfl (k (gy rfl rfl rfl b2 (not_ rfl rfl (k (pickT rfl rfl rfl rfl b2 rfl (z (nx ?_)))))))))
        refine cd (b := !x1) rfl rfl (fun b3 => ?_) (fun b3 => ?_)
        ·
          refine sq (rg (k (mv rfl s6 (k (mv rfl s9 (k (iaO (H8.at_ 1 rfl) rfl rfl rfl rfl (by first | (have h_ := hs2.len; omega) | (have h_ := hs.len; omega)) un111 ty4 ?_)))))))
          intro g3 x2 hv1 hx2 hA2
          refine k (stO H8 1 rfl hv1 rfl (by first | (have h_ := hs2.len; omega) | (have h_ := hs.len; omega)) ty4 rfl rfl rfl rfl (RV.bool.2 rfl) ?_)
          intro w6 (H9 : HI M w w6 [ownQ w.heap.size 3 (.slice a2 td2.length c2) td2, own w.heap.size 4 (.slice (some ⟨g0, 0, none⟩) mn.toNat mn.toNat) (sn2.set ((j : Int).toNat) true), box bb0 #[.int .i64 mn, .slice a_mr mr.length c_mr] 24, imm (.slice a_mr mr.length c_mr) mr])
          refine z (nx (rg (k (mv rfl s7 (k (mv rfl s9 (k (bs (xs := ([(j : Int)] : List Int)) (cells := #[.int .i64 (j : Int)]) (e := 3) H9 rfl (pbc rfl pb0) (fun _ => by kernel_rfl) ⟨[.int .i64 (j : Int)], [], rfl, ⟨rfl, (show I64 ((j : Int)) from (by unfold I64 at *; omega))⟩, rfl⟩ rfl (by unfold maxLen; omega) ?_))))))))
          intro g4 w7 xt4 (H10 : HI M w w7 [own w.heap.size 3 (.slice (some ⟨g4, 0, none⟩) 1 1) ([(j : Int)] : List Int), ownQ w.heap.size 3 (.slice a2 td2.length c2) td2, own w.heap.size 4 (.slice (some ⟨g0, 0, none⟩) mn.toNat mn.toNat) (sn2.set ((j : Int).toNat) true), box bb0 #[.int .i64 mn, .slice a_mr mr.length c_mr] 24, imm (.slice a_mr mr.length c_mr) mr])
          refine k (apQ H10 1 rfl rfl rfl rfl rfl rfl (own_src (H10.at_ 0 rfl)) (by simp) un42 ty3 rfl (by first | (simp only [List.length_cons, List.length_nil]; have h_ := lst_len j3 (fun k => sn.getD k false); rw [hs4]; omega) | (simp only [List.length_cons, List.length_nil]; have h_ := List.length_drop (l := td) (i := 1); omega)) (by first | (simp only [List.length_cons, List.length_nil]; have h_ := lst_len j3 (fun k => sn.getD k false); rw [hs4]; omega) | (simp only [List.length_cons, List.length_nil]; have h_ := List.length_drop (l := td) (i := 1); omega)) ?_)
          intro a3 c3 w8 (H11 : HI M w w8 [own w.heap.size 3 (.slice (some ⟨g4, 0, none⟩) 1 1) ([(j : Int)] : List Int), ownQ w.heap.size 3 (.slice a3 (td2 ++ ([(j : Int)] : List Int)).length c3) (td2 ++ ([(j : Int)] : List Int)), own w.heap.size 4 (.slice (some ⟨g0, 0, none⟩) mn.toNat mn.toNat) (sn2.set ((j : Int).toNat) true), box bb0 #[.int .i64 mn, .slice a_mr mr.length c_mr] 24, imm (.slice a_mr mr.length c_mr) mr])
          refine k (asg (v := .slice a3 (td2 ++ ([(j : Int)] : List Int)).length c3) rfl rfl (z (inb_normal (nx (rg (k (mv rfl s9 (k (add rfl rfl rfl rfl (by unfold I64 at *; omega) (k (asg (v := .int .i64 ((j : Int) + 1)) rfl rfl (z ?_))))))))))))
          have H12 : HI M w w8 [ownQ w.heap.size 3 (.slice a3 (td2 ++ ([(j : Int)] : List Int)).length c3) (td2 ++ ([(j : Int)] : List Int)), own w.heap.size 4 (.slice (some ⟨g0, 0, none⟩) mn.toNat mn.toNat) (sn2.set ((j : Int).toNat) true), box bb0 #[.int .i64 mn, .slice a_mr mr.length c_mr] 24, imm (.slice a_mr mr.length c_mr) mr] := H11.pickN [1, 2, 3, 4] (by decide) rfl
          refine loopN _ ?_ ⟨(j + 1), (sn2.set ((j : Int).toNat) true), (td2 ++ ([(j : Int)] : List Int)), a3, c3, rfl, s4, s5, s6, rfl, s8, (ieq rfl (by first | rfl | omega | (push_cast; omega))), H12, (by first | assumption | omega | simp | (simp; omega)), (by first | exact rchI_yes rt_m hat_ hs2 ha1_ (by omega) ha2_ (by assumption) | exact rchI_no rt_m hat_ hs2 ha1_ (by omega) (by assumption) | exact rchI_had rt_m hat_ hs2 ha1_ (by omega) hx1 (by simpa using b3)), (by first | exact hz2_ | exact count_setI hx1 (by simpa using b3) hz2_)⟩
          omega
        ·
          refine sk (inb_normal (nx (rg (k (mv rfl s9 (k (add rfl rfl rfl rfl (by unfold I64 at *; omega) (k (asg (v := .int .i64 ((j : Int) + 1)) rfl rfl (z ?_))))))))))
          refine loopN _ ?_ ⟨(j + 1), sn2, td2, a2, c2, rfl, s4, s5, s6, s7, s8, (ieq rfl (by first | rfl | omega | (push_cast; omega))), H8, (by first | assumption | omega | simp | (simp; omega)), (by first | exact rchI_yes rt_m hat_ hs2 ha1_ (by omega) ha2_ (by assumption) | exact rchI_no rt_m hat_ hs2 ha1_ (by omega) (by assumption) | exact rchI_had rt_m hat_ hs2 ha1_ (by omega) hx1 (by simpa using b3)), (by first | exact hz2_ | exact count_setI hx1 (by simpa using b3) hz2_)⟩
          omega
      · -- hasM mn mr x0 (j : Int) is False
        refine k (gn rfl rfl rfl b2 (k (gn rfl rfl rfl b2 (k (gn rfl rfl rfl b2 (k (gn rfl rfl rfl b2 (k (gn rfl rfl rfl b2 (k (pickF rfl rfl rfl rfl b2 rfl (z (nx (cdF rfl rfl rfl (sk (inb_normal (nx (rg (k (mv rfl s9 (k (add rfl rfl rfl rfl (by unfold I64 at *; omega) (k (asg (v := .int .i64 ((j : Int) + 1)) rfl rfl (z ?_)))))))))))))))))))))))))
        refine loopN _ ?_ ⟨(j + 1), sn2, td2, a2, c2, rfl, s4, s5, s6, s7, s8, (ieq rfl (by first | rfl | omega | (push_cast; omega))), H8, (by first | assumption | omega | simp | (simp; omega)), (by first | exact rchI_yes rt_m hat_ hs2 ha1_ (by omega) ha2_ (by assumption) | exact rchI_no rt_m hat_ hs2 ha1_ (by omega) (by assumption) | exact rchI_had rt_m hat_ hs2 ha1_ (by omega) hx1 (by simpa using b3)), (by first | exact hz2_ | exact count_setI hx1 (by simpa using b3) hz2_)⟩
        omega
    ·
      have p1 := of_decide_eq_false b1
      refine ex (then_exit (loop_exit (inb_here (inb_normal ?_))))
      refine loopN _ ?_ ⟨sn2, td2, a2, c2, rfl, s4, s5, s6, s7, H7, (by exact rch_next hs2 (by omega)), (by have h_ := List.length_drop (l := td) (i := 1); omega)⟩
      have h_ := List.length_drop (l := td) (i := 1); omega
  ·
    have p0 := of_decide_eq_false b0
    refine ex (then_exit (loop_exit (inb_here (nx (sq (sq (rg (k (asg (v := .int .i64 0) rfl rfl (z (nx (bk ?_))))))))))))
    have H6 := H5.nil_ Int 3
    refine lp (fun m f w' => ∃ (j3 : Nat) (out : List Int) (a1 : Option Addr) (c1 : Nat), m = mn.toNat - j3 ∧ f 2 = .pointer (some ⟨bb0, 0, none⟩) ∧ f 5 = .slice a1 out.length c1 ∧ f 6 = .slice (some ⟨g0, 0, none⟩) mn.toNat mn.toNat ∧ f 10 = .int .i64 (j3 : Int) ∧  HI M w w' [own w.heap.size 3 (.slice a1 out.length c1) out, ownQ w.heap.size 3 (.slice a0 td.length c0) td, own w.heap.size 4 (.slice (some ⟨g0, 0, none⟩) mn.toNat mn.toNat) sn, box bb0 #[.int .i64 mn, .slice a_mr mr.length c_mr] 24, imm (.slice a_mr mr.length c_mr) mr] ∧ (j3 ≤ mn.toNat) ∧ (out = lst j3 (fun k => sn.getD k false))) _ ⟨0, ([] : List Int), none, 0, rfl, s0, s1, s2, (ieq rfl (by first | rfl | omega | simp)), H6, (by first | assumption | omega | simp | (simp; omega)), (by rfl)⟩ ?_
    rintro _ f1 w4 ⟨j3, out, a1, c1, rfl, s4, s5, s6, s7, H7, hj3_, hs4⟩
    refine sq (sq (rg (k (mv rfl s7 (k (fa fl24_0 rfl s4 (k (ldX H7 3 rfl ty3 rfl rfl (by decide) rfl (k (lss rfl rfl rfl rfl (z (nx ?_))))))))))))
    refine cd (b := decide ((j3 : Int) < mn)) rfl rfl (fun b1 => ?_) (fun b1 => ?_)
    ·
      have p1 := of_decide_eq_true b1
      refine sk (nx (sq (bk (sq (rg (k (mv rfl s6 (k (mv rfl s7 (k (iaO (H7.at_ 2 rfl) rfl rfl rfl rfl (by first | (have h_ := hs2.len; omega) | (have h_ := hs.len; omega)) un111 ty4 ?_)))))))))))
      intro g2 x0 hv0 hx0 hA0
      refine k (ldB hA0 ty4 rfl rfl (z (nx ?_)))
      refine cd (b := x0) rfl rfl (fun b2 => ?_) (fun b2 => ?_)
      ·
        refine rg (k (mv rfl s5 (k (mv rfl s7 (k (bs (xs := ([(j3 : Int)] : List Int)) (cells := #[.int .i64 (j3 : Int)]) (e := 3) H7 rfl (pbc rfl pb0) (fun _ => by kernel_rfl) ⟨[.int .i64 (j3 : Int)], [], rfl, ⟨rfl, (show I64 ((j3 : Int)) from (by unfold I64 at *; omega))⟩, rfl⟩ rfl (by unfold maxLen; omega) ?_))))))
        intro g3 w5 xt3 (H8 : HI M w w5 [own w.heap.size 3 (.slice (some ⟨g3, 0, none⟩) 1 1) ([(j3 : Int)] : List Int), own w.heap.size 3 (.slice a1 out.length c1) out, ownQ w.heap.size 3 (.slice a0 td.length c0) td, own w.heap.size 4 (.slice (some ⟨g0, 0, none⟩) mn.toNat mn.toNat) sn, box bb0 #[.int .i64 mn, .slice a_mr mr.length c_mr] 24, imm (.slice a_mr mr.length c_mr) mr])
        refine k (ap H8 1 rfl rfl rfl rfl rfl rfl (own_src (H8.at_ 0 rfl)) un42 ty3 rfl (by first | (simp only [List.length_cons, List.length_nil]; have h_ := lst_len j3 (fun k => sn.getD k false); rw [hs4]; omega) | (simp only [List.length_cons, List.length_nil]; have h_ := List.length_drop (l := td) (i := 1); omega)) (by first | (simp only [List.length_cons, List.length_nil]; have h_ := lst_len j3 (fun k => sn.getD k false); rw [hs4]; omega) | (simp only [List.length_cons, List.length_nil]; have h_ := List.length_drop (l := td) (i := 1); omega)) ?_)
        intro a2 c2 w6 (H9 : HI M w w6 [own w.heap.size 3 (.slice (some ⟨g3, 0, none⟩) 1 1) ([(j3 : Int)] : List Int), own w.heap.size 3 (.slice a2 (out ++ ([(j3 : Int)] : List Int)).length c2) (out ++ ([(j3 : Int)] : List Int)), ownQ w.heap.size 3 (.slice a0 td.length c0) td, own w.heap.size 4 (.slice (some ⟨g0, 0, none⟩) mn.toNat mn.toNat) sn, box bb0 #[.int .i64 mn, .slice a_mr mr.length c_mr] 24, imm (.slice a_mr mr.length c_mr) mr])
        refine k (asg (v := .slice a2 (out ++ ([(j3 : Int)] : List Int)).length c2) rfl rfl (z (inb_normal (nx (rg (k (mv rfl s7 (k (add rfl rfl rfl rfl (by unfold I64 at *; omega) (k (asg (v := .int .i64 ((j3 : Int) + 1)) rfl rfl (z ?_))))))))))))
        have H10 : HI M w w6 [own w.heap.size 3 (.slice a2 (out ++ ([(j3 : Int)] : List Int)).length c2) (out ++ ([(j3 : Int)] : List Int)), ownQ w.heap.size 3 (.slice a0 td.length c0) td, own w.heap.size 4 (.slice (some ⟨g0, 0, none⟩) mn.toNat mn.toNat) sn, box bb0 #[.int .i64 mn, .slice a_mr mr.length c_mr] 24, imm (.slice a_mr mr.length c_mr) mr] := H9.pickN [1, 2, 3, 4, 5] (by decide) rfl
        refine loopN _ ?_ ⟨(j3 + 1), (out ++ ([(j3 : Int)] : List Int)), a2, c2, rfl, s4, rfl, s6, (ieq rfl (by first | rfl | omega | (push_cast; omega))), H10, (by first | assumption | omega | simp | (simp; omega)), (by rw [hs4, lst_succ]; first | rw [if_pos (by rw [getD_of' hx0]; assumption)] | rw [if_neg (by rw [getD_of' hx0]; first | simpa using b2 | simpa using b3), List.append_nil])⟩
        omega
      ·
        refine sk (inb_normal (nx (rg (k (mv rfl s7 (k (add rfl rfl rfl rfl (by unfold I64 at *; omega) (k (asg (v := .int .i64 ((j3 : Int) + 1)) rfl rfl (z ?_))))))))))
        refine loopN _ ?_ ⟨(j3 + 1), out, a1, c1, rfl, s4, s5, s6, (ieq rfl (by first | rfl | omega | (push_cast; omega))), H7, (by first | assumption | omega | simp | (simp; omega)), (by rw [hs4, lst_succ]; first | rw [if_pos (by rw [getD_of' hx0]; assumption)] | rw [if_neg (by rw [getD_of' hx0]; first | simpa using b2 | simpa using b3), List.append_nil])⟩
        omega
    ·
      have p1 := of_decide_eq_false b1
      refine ex (then_exit (loop_exit (inb_here (nx (sq (rg (k (mv rfl s5 (k (asg (v := .slice a1 out.length c1) rfl rfl (z (nx (rt (r1 rfl rfl ?_))))))))))))))
      have e0 : (out : List Int) = lst mn.toNat (cl mn.toNat (relM mr) i.toNat) := by rw [hs4, show j3 = mn.toNat from by omega]; exact lst_congr fun k_ hk_ => by have h_ := rch_end (td_none p0 ▸ hs) (by omega) hk_; exact h_
      have ev_ := cg1 (fun (x_0 : List Int) => (.slice a1 x_0.length c1 : Value)) e0
      exact ⟨a1, c1, ev_, H7.below, (congrArg (fun (x_ : List Int) => OwnsG _ _ _ x_ (.slice a1 x_.length c1) _) e0).mp (H7.ownsG_out 0 rfl)⟩
/- eyewitness/eyewitnessref04.Close -/
set_option maxRecDepth 100000 in
set_option maxHeartbeats 1600000 in
theorem ref04_Close {M : Nat → Prop} {w : World} {mn : Int} {a_mr : Option Addr} {c_mr : Nat} {mr : List (List (BitVec 64))} (hM : ∀ b, M b → b < w.heap.size) (h_mn : I64 mn) (h_mr : RV M w (.slice a_mr mr.length c_mr) mr) (rt_m : rightS mn mr = true) : Calls Tryd.prog 30 #[.agg #[.int .i64 mn, .slice a_mr mr.length c_mr]] w (Ret fun v w' => ∃ (a0 : Option Addr) (c0 : Nat), v = .agg #[.int .i64 mn, .slice a0 (closeM mn mr).length c0] ∧ Ext w w' ∧ RV M w' (.slice a0 (closeM mn mr).length c0) (closeM mn mr)) := by
  refine enter 40 Tryd.func30 rfl rfl rfl fun f0 ha => ?_
  have H := HI.start (M0 := M) (w := w) hM
  have H0 := H.put (it := imm (.slice a_mr mr.length c_mr) mr) rfl (by rw [MS_nil]; exact h_mr)
  have ln_mr := rv_len h_mr
  have i0 : f0 0 = .agg #[.int .i64 mn, .slice a_mr mr.length c_mr] := ha 0 (by simp)
  have hl_ := (right_sq rt_m).1; have h4_ := (right_sq rt_m).2.2.1; have h0_ := right_pos rt_m
  refine sq (rg (k (bx H0 rfl i0 ?_)))
  intro bb0 w0 xt0 (H1 : HI M w w0 [box bb0 #[.int .i64 mn, .slice a_mr mr.length c_mr] 24, imm (.slice a_mr mr.length c_mr) mr])
  refine k (al H1 ty24 ?_)
  intro bb1 w1 xt1 (H2 : HI M w w1 [box bb1 #[.int .i64 0, .slice none 0 0] 24, box bb0 #[.int .i64 mn, .slice a_mr mr.length c_mr] 24, imm (.slice a_mr mr.length c_mr) mr])
  refine z (nx (sq (rg (k (fa fl24_0 rfl rfl (k (ldX H2 1 rfl ty3 rfl rfl (by decide) rfl (k ?_))))))))
  have cc0 := ref03_New (n := mn) (w := w1) H2.mb (by unfold I64 at *; omega)
  refine ca go26 rfl (ec rfl e0) cc0 ?_
  rintro _ w2 ⟨a0, c0, rfl, xt2, rv0⟩
  have H3 := H2.ownsG rv0
  refine k (mv (v := .tuple #[.agg #[.int .i64 (newMN mn), .slice a0 (newMR mn).length c0], .int .i64 (newME mn)]) rfl rfl (k (xt rfl rfl rfl (k (xt rfl rfl rfl (k (al H3 ty24 ?_)))))))
  intro bb2 w3 xt3 (H4 : HI M w w3 [box bb2 #[.int .i64 0, .slice none 0 0] 24, own w.heap.size 73 (.slice a0 (newMR mn).length c0) (newMR mn), box bb1 #[.int .i64 0, .slice none 0 0] 24, box bb0 #[.int .i64 mn, .slice a_mr mr.length c_mr] 24, imm (.slice a_mr mr.length c_mr) mr])
  refine k (stX H4 0 rfl ty24 rfl rfl rfl rfl rfl rfl rfl ?_)
  intro w4 (H5 : HI M w w4 [box bb2 #[.int .i64 (newMN mn), .slice a0 (newMR mn).length c0] 24, own w.heap.size 73 (.slice a0 (newMR mn).length c0) (newMR mn), box bb1 #[.int .i64 0, .slice none 0 0] 24, box bb0 #[.int .i64 mn, .slice a_mr mr.length c_mr] 24, imm (.slice a_mr mr.length c_mr) mr])
  refine k (asg (v := .int .i64 (newME mn)) rfl rfl (z (nx (sq (sq (rg (k (asg (v := .int .i64 0) rfl rfl (z (nx (bk ?_)))))))))))
  have H6 := H5.freeze 1 rfl
  have H7 := H6.put (it := imm (.slice a0 (newMR mn).length c0) (newMR mn)) rfl (H6.rv 1 rfl)
  refine lp (fun m f w' => ∃ (i : Nat) (n_ : Int) (rs : List (List (BitVec 64))) (a1 : Option Addr) (c1 : Nat), m = mn.toNat - i ∧ f 1 = .pointer (some ⟨bb0, 0, none⟩) ∧ f 2 = .pointer (some ⟨bb1, 0, none⟩) ∧ f 3 = .pointer (some ⟨bb2, 0, none⟩) ∧ f 5 = .int .i64 (i : Int) ∧  HI M w w' [imm (.slice a1 rs.length c1) rs, box bb2 #[.int .i64 n_, .slice a1 rs.length c1] 24, imm (.slice a0 (newMR mn).length c0) (newMR mn), box bb1 #[.int .i64 0, .slice none 0 0] 24, box bb0 #[.int .i64 mn, .slice a_mr mr.length c_mr] 24, imm (.slice a_mr mr.length c_mr) mr] ∧ (i ≤ mn.toNat) ∧ (n_ = mn) ∧ (rs = matP mn.toNat (rcP mn.toNat (cl mn.toNat (relM mr)) i 0))) _ ⟨0, (newMN mn), (newMR mn), a0, c0, rfl, rfl, rfl, rfl, (ieq rfl (by first | rfl | omega | simp)), H7, (by first | assumption | omega | simp | (simp; omega)), (by exact (newM_yes (right_ok rt_m)).1), (by exact rc_start rt_m _)⟩ ?_
  rintro _ f0 w5 ⟨i, n_, rs, a1, c1, rfl, s0, s1, s2, s3, H8, hi_, h1, h2⟩
  refine sq (sq (rg (k (mv rfl s3 (k (fa fl24_0 rfl s0 (k (ldX H8 4 rfl ty3 rfl rfl (by decide) rfl (k (lss rfl rfl rfl rfl (z (nx ?_))))))))))))
  refine cd (b := decide ((i : Int) < mn)) rfl rfl (fun b0 => ?_) (fun b0 => ?_)
  ·
    have p0 := of_decide_eq_true b0
    refine sk (nx (sq (bk (sq (rg (k (ldX H8 4 rfl ty24 rfl s0 (by decide) rfl (k (mv rfl s3 (k ?_))))))))))
    have cc1 := ref04_Reach (mn := mn) (mr := mr) (i := (i : Int)) (w := w5) H8.mb (by unfold I64 at *; omega) (H8.rv 5 rfl) (by unfold I64 at *; omega) (by exact rt_m) (by first | omega | (simp; omega)) (by first | omega | (simp; omega))
    refine ca go77 rfl (ec rfl (ec rfl e0)) cc1 ?_
    rintro _ w6 ⟨a2, c2, rfl, xt4, rv1⟩
    have H9 := H8.ownsG rv1
    refine k (asg (v := .slice a2 (lst mn.toNat (cl mn.toNat (relM mr) (i : Int).toNat)).length c2) rfl rfl (z (nx (sq (rg (k (asg (v := .int .i64 0) rfl rfl (z (nx (bk ?_))))))))))
    have H10 := H9.put (it := imm (.slice a1 rs.length c1) rs) rfl (H9.rv 1 rfl)
    refine lp (fun m f w' => ∃ (q : Nat) (n2_ : Int) (rs2 : List (List (BitVec 64))) (a3 : Option Addr) (c3 : Nat), m = (lst mn.toNat (cl mn.toNat (relM mr) (i : Int).toNat)).length - q ∧ f 1 = .pointer (some ⟨bb0, 0, none⟩) ∧ f 2 = .pointer (some ⟨bb1, 0, none⟩) ∧ f 3 = .pointer (some ⟨bb2, 0, none⟩) ∧ f 5 = .int .i64 (i : Int) ∧ f 6 = .slice a2 (lst mn.toNat (cl mn.toNat (relM mr) (i : Int).toNat)).length c2 ∧ f 7 = .int .i64 (q : Int) ∧  HI M w w' [imm (.slice a3 rs2.length c3) rs2, own w.heap.size 3 (.slice a2 (lst mn.toNat (cl mn.toNat (relM mr) (i : Int).toNat)).length c2) (lst mn.toNat (cl mn.toNat (relM mr) (i : Int).toNat)), imm (.slice a1 rs.length c1) rs, box bb2 #[.int .i64 n2_, .slice a3 rs2.length c3] 24, imm (.slice a0 (newMR mn).length c0) (newMR mn), box bb1 #[.int .i64 0, .slice none 0 0] 24, box bb0 #[.int .i64 mn, .slice a_mr mr.length c_mr] 24, imm (.slice a_mr mr.length c_mr) mr] ∧ (q ≤ (lst mn.toNat (cl mn.toNat (relM mr) (i : Int).toNat)).length) ∧ (n2_ = mn) ∧ (rs2 = matP mn.toNat (rcP mn.toNat (cl mn.toNat (relM mr)) i q))) _ ⟨0, n_, rs, a1, c1, rfl, s0, s1, s2, s3, rfl, (ieq rfl (by first | rfl | omega | simp)), H10, (by first | assumption | omega | simp | (simp; omega)), (by exact h1), (by exact h2)⟩ ?_
    rintro _ f1 w7 ⟨q, n2_, rs2, a3, c3, rfl, s4, s5, s6, s7, s8, s9, H11, hq_, g1, g2⟩
    refine sq (sq (rg (k (mv rfl s9 (k (mv rfl s8 (k (lnS rfl rfl un42 (k (lss rfl rfl rfl rfl (z (nx ?_))))))))))))
    refine cd (b := decide ((q : Int) < ((lst mn.toNat (cl mn.toNat (relM mr) (i : Int).toNat)).length : Int))) rfl rfl (fun b1 => ?_) (fun b1 => ?_)
    ·
      have p1 := of_decide_eq_true b1
      refine sk (nx (sq (bk ?_)))
      obtain ⟨x0, hx0⟩ : ∃ x, (lst mn.toNat (cl mn.toNat (relM mr) (i : Int).toNat))[(q : Int).toNat]? = some x := ⟨_, List.getElem?_eq_getElem (by first | omega | (simp; omega))⟩
      refine dr3 8 [fun (v : Value) (w' : World) => v = .agg #[.int .i64 n2_, .slice a3 rs2.length c3], fun (v : Value) (w' : World) => v = .int .i64 (i : Int), fun (v : Value) (w' : World) => v = .slice a2 (lst mn.toNat (cl mn.toNat (relM mr) (i : Int).toNat)).length c2, fun (v : Value) (w' : World) => v = .int .i64 (q : Int), fun (v : Value) (w' : World) => ∃ (g0 : Nat), v = .pointer (some ⟨g0, (q : Int).toNat * 1, none⟩) ∧ (.slice a2 (lst mn.toNat (cl mn.toNat (relM mr) (i : Int).toNat)).length c2 : Value).ownBlock = some g0 ∧ AtW (MS M [imm (.slice a3 rs2.length c3) rs2, own w.heap.size 3 (.slice a2 (lst mn.toNat (cl mn.toNat (relM mr) (i : Int).toNat)).length c2) (lst mn.toNat (cl mn.toNat (relM mr) (i : Int).toNat)), imm (.slice a1 rs.length c1) rs, box bb2 #[.int .i64 n2_, .slice a3 rs2.length c3] 24, imm (.slice a0 (newMR mn).length c0) (newMR mn), box bb1 #[.int .i64 0, .slice none 0 0] 24, box bb0 #[.int .i64 mn, .slice a_mr mr.length c_mr] 24, imm (.slice a_mr mr.length c_mr) mr]) w' ⟨g0, (q : Int).toNat * 1, none⟩ x0, fun (v : Value) (w' : World) => v = .int .i64 x0 ∧ I64 (x0), fun (v : Value) (w' : World) => ∃ (a4 : Option Addr) (c4 : Nat), v = .tuple #[.agg #[.int .i64 (setMN n2_ (i : Int) x0), .slice a4 (setMR n2_ rs2 (i : Int) x0).length c4], .int .i64 (setME n2_ (i : Int) x0)] ∧ RV (MS M [imm (.slice a3 rs2.length c3) rs2, own w.heap.size 3 (.slice a2 (lst mn.toNat (cl mn.toNat (relM mr) (i : Int).toNat)).length c2) (lst mn.toNat (cl mn.toNat (relM mr) (i : Int).toNat)), imm (.slice a1 rs.length c1) rs, box bb2 #[.int .i64 n2_, .slice a3 rs2.length c3] 24, imm (.slice a0 (newMR mn).length c0) (newMR mn), box bb1 #[.int .i64 0, .slice none 0 0] 24, box bb0 #[.int .i64 mn, .slice a_mr mr.length c_mr] 24, imm (.slice a_mr mr.length c_mr) mr]) w' (.slice a4 (setMR n2_ rs2 (i : Int) x0).length c4) (setMR n2_ rs2 (i : Int) x0), fun (v : Value) (w' : World) => ∃ (a4 : Option Addr) (c4 : Nat), v = .tuple #[.agg #[.int .i64 (setMN n2_ (i : Int) x0), .slice a4 (setMR n2_ rs2 (i : Int) x0).length c4], .int .i64 (setME n2_ (i : Int) x0)] ∧ RV (MS M [imm (.slice a3 rs2.length c3) rs2, own w.heap.size 3 (.slice a2 (lst mn.toNat (cl mn.toNat (relM mr) (i : Int).toNat)).length c2) (lst mn.toNat (cl mn.toNat (relM mr) (i : Int).toNat)), imm (.slice a1 rs.length c1) rs, box bb2 #[.int .i64 n2_, .slice a3 rs2.length c3] 24, imm (.slice a0 (newMR mn).length c0) (newMR mn), box bb1 #[.int .i64 0, .slice none 0 0] 24, box bb0 #[.int .i64 mn, .slice a_mr mr.length c_mr] 24, imm (.slice a_mr mr.length c_mr) mr]) w' (.slice a4 (setMR n2_ rs2 (i : Int) x0).length c4) (setMR n2_ rs2 (i : Int) x0)] rfl (by kernel_rfl) ?_ ?_
      ·
        refine ⟨fun _ => ⟨fun f2 w9 hf0 xt6 hp0 => ?_, fun _ _ _ _ h => h⟩, ?_⟩
        ·
          have H14 := H11.ext xt6
          refine ldX H14 3 rfl ty24 rfl ((hf0 3 rfl).trans s6) (by decide) rfl ?_
          exact ⟨_, rfl, Ext.refl _, rfl⟩
        refine ⟨fun _ => ⟨fun f3 w10 hf1 xt7 hp1 => ?_, fun _ _ _ _ h => h⟩, ?_⟩
        ·
          have H15 := H11.ext xt7
          refine mv rfl ((hf1 5 rfl).trans s7) ?_
          exact ⟨_, rfl, Ext.refl _, rfl⟩
        refine ⟨fun _ => ⟨fun f4 w11 hf2 xt8 hp2 => ?_, fun _ _ _ _ h => h⟩, ?_⟩
        ·
          have H16 := H11.ext xt8
          refine mv rfl ((hf2 6 rfl).trans s8) ?_
          exact ⟨_, rfl, Ext.refl _, rfl⟩
        refine ⟨fun _ => ⟨fun f5 w12 hf3 xt9 hp3 => ?_, fun _ _ _ _ h => h⟩, ?_⟩
        ·
          have H17 := H11.ext xt9
          refine mv rfl ((hf3 7 rfl).trans s9) ?_
          exact ⟨_, rfl, Ext.refl _, rfl⟩
        refine ⟨fun _ => ⟨fun f6 w13 hf4 xt10 hp4 => ?_, by rintro _ _ _ x_ ⟨g0, e_, hv0, hA0⟩; exact ⟨g0, e_, hv0, hA0.ext x_⟩⟩, ?_⟩
        ·
          have H18 := H11.ext xt10
          have s10 : f6 32 = .slice a2 (lst mn.toNat (cl mn.toNat (relM mr) (i : Int).toNat)).length c2 := hp4 2 rfl rfl
          have s11 : f6 33 = .int .i64 (q : Int) := hp4 3 rfl rfl
          refine iaO (H18.at_ 1 rfl) rfl rfl s10 s11 (by first | omega | (simp; omega)) un42 ty3 ?_
          intro g1 x1 hv1 hx1 hA1
          obtain rfl : x0 = x1 := Option.some.inj (hx0.symm.trans hx1)
          exact ⟨_, rfl, Ext.refl _, ⟨g1, rfl, hv1, hA1⟩⟩
        refine ⟨fun _ => ⟨fun f7 w14 hf5 xt11 hp5 => ?_, fun _ _ _ _ h => h⟩, ?_⟩
        ·
          have H19 := H11.ext xt11
          obtain ⟨g2, s12, hv2, hA2⟩ : ∃ (g2 : Nat), f7 34 = .pointer (some ⟨g2, (q : Int).toNat * 1, none⟩) ∧ (.slice a2 (lst mn.toNat (cl mn.toNat (relM mr) (i : Int).toNat)).length c2 : Value).ownBlock = some g2 ∧ AtW (MS M [imm (.slice a3 rs2.length c3) rs2, own w.heap.size 3 (.slice a2 (lst mn.toNat (cl mn.toNat (relM mr) (i : Int).toNat)).length c2) (lst mn.toNat (cl mn.toNat (relM mr) (i : Int).toNat)), imm (.slice a1 rs.length c1) rs, box bb2 #[.int .i64 n2_, .slice a3 rs2.length c3] 24, imm (.slice a0 (newMR mn).length c0) (newMR mn), box bb1 #[.int .i64 0, .slice none 0 0] 24, box bb0 #[.int .i64 mn, .slice a_mr mr.length c_mr] 24, imm (.slice a_mr mr.length c_mr) mr]) w14 ⟨g2, (q : Int).toNat * 1, none⟩ x0 := hp5 4 rfl rfl
          refine ldI hA2 ty3 rfl s12 ?_
          intro rv5
          exact ⟨_, rfl, Ext.refl _, ⟨rfl, rv5⟩⟩
        refine ⟨fun _ => ⟨fun f8 w15 hf6 xt12 hp6 => ?_, by rintro _ _ _ x_ ⟨a4, c4, e_, rv4⟩; exact ⟨a4, c4, e_, rv4.lift (Up.ext x_)⟩⟩, ?_⟩
        ·
          have H20 := H11.ext xt12
          have s13 : f8 30 = .agg #[.int .i64 n2_, .slice a3 rs2.length c3] := hp6 0 rfl rfl
          have s14 : f8 31 = .int .i64 (i : Int) := hp6 1 rfl rfl
          obtain ⟨s15, rv6⟩ : f8 35 = .int .i64 x0 ∧ I64 (x0) := hp6 5 rfl rfl
          have cc3 := ref03_Set (mn := n2_) (mr := rs2) (i := (i : Int)) (j := x0) (w := w15) H20.mb (by first | (rw [g1]; exact h_mn) | (rw [h1]; exact h_mn)) (H20.rv 0 rfl) (by unfold I64 at *; omega) (by unfold I64 at *; omega) (by rw [g1, g2]; exact (rc_sq rt_m _).1) (by rw [g2]; exact (rc_sq rt_m _).2.1) (by rw [g1]; exact h4_)
          refine ca go28 rfl (ec s13 (ec s14 (ec s15 e0))) cc3 ?_
          rintro _ w16 ⟨a5, c5, rfl, xt13, rv7⟩
          have rv8 := OwnsG.rv rv7 H20.mb
          have H21 := H20.ext xt13
          have H22 := H21.put (it := imm (.slice a5 (setMR n2_ rs2 (i : Int) x0).length c5) (setMR n2_ rs2 (i : Int) x0)) rfl rv8
          exact ⟨_, rfl, xt13, ⟨a5, c5, rfl, rv8⟩⟩
        refine ⟨fun _ => ⟨fun f9 w17 hf7 xt14 hp7 => ?_, by rintro _ _ _ x_ ⟨a4, c4, e_, rv4⟩; exact ⟨a4, c4, e_, rv4.lift (Up.ext x_)⟩⟩, ?_⟩
        ·
          have H23 := H11.ext xt14
          obtain ⟨a6, c6, s16, rv9⟩ : ∃ (a6 : Option Addr) (c6 : Nat), f9 36 = .tuple #[.agg #[.int .i64 (setMN n2_ (i : Int) x0), .slice a6 (setMR n2_ rs2 (i : Int) x0).length c6], .int .i64 (setME n2_ (i : Int) x0)] ∧ RV (MS M [imm (.slice a3 rs2.length c3) rs2, own w.heap.size 3 (.slice a2 (lst mn.toNat (cl mn.toNat (relM mr) (i : Int).toNat)).length c2) (lst mn.toNat (cl mn.toNat (relM mr) (i : Int).toNat)), imm (.slice a1 rs.length c1) rs, box bb2 #[.int .i64 n2_, .slice a3 rs2.length c3] 24, imm (.slice a0 (newMR mn).length c0) (newMR mn), box bb1 #[.int .i64 0, .slice none 0 0] 24, box bb0 #[.int .i64 mn, .slice a_mr mr.length c_mr] 24, imm (.slice a_mr mr.length c_mr) mr]) w17 (.slice a6 (setMR n2_ rs2 (i : Int) x0).length c6) (setMR n2_ rs2 (i : Int) x0) := hp7 6 rfl rfl
          have H24 := H23.put (it := imm (.slice a6 (setMR n2_ rs2 (i : Int) x0).length c6) (setMR n2_ rs2 (i : Int) x0)) rfl rv9
          refine mv rfl s16 ?_
          exact ⟨_, rfl, Ext.refl _, ⟨a6, c6, rfl, rv9⟩⟩
        exact DSteps.rest rfl _
      · intro f10 w18 hf8 xt15 hp8
        have H25 := H11.ext xt15
        have s17 : f10 1 = .pointer (some ⟨bb0, 0, none⟩) := (hf8 1 rfl).trans s4
        have s18 : f10 2 = .pointer (some ⟨bb1, 0, none⟩) := (hf8 2 rfl).trans s5
        have s19 : f10 3 = .pointer (some ⟨bb2, 0, none⟩) := (hf8 3 rfl).trans s6
        have s20 : f10 5 = .int .i64 (i : Int) := (hf8 5 rfl).trans s7
        have s21 : f10 6 = .slice a2 (lst mn.toNat (cl mn.toNat (relM mr) (i : Int).toNat)).length c2 := (hf8 6 rfl).trans s8
        have s22 : f10 7 = .int .i64 (q : Int) := (hf8 7 rfl).trans s9
        obtain ⟨a7, c7, s23, rv10⟩ : ∃ (a7 : Option Addr) (c7 : Nat), f10 29 = .tuple #[.agg #[.int .i64 (setMN n2_ (i : Int) x0), .slice a7 (setMR n2_ rs2 (i : Int) x0).length c7], .int .i64 (setME n2_ (i : Int) x0)] ∧ RV (MS M [imm (.slice a3 rs2.length c3) rs2, own w.heap.size 3 (.slice a2 (lst mn.toNat (cl mn.toNat (relM mr) (i : Int).toNat)).length c2) (lst mn.toNat (cl mn.toNat (relM mr) (i : Int).toNat)), imm (.slice a1 rs.length c1) rs, box bb2 #[.int .i64 n2_, .slice a3 rs2.length c3] 24, imm (.slice a0 (newMR mn).length c0) (newMR mn), box bb1 #[.int .i64 0, .slice none 0 0] 24, box bb0 #[.int .i64 mn, .slice a_mr mr.length c_mr] 24, imm (.slice a_mr mr.length c_mr) mr]) w18 (.slice a7 (setMR n2_ rs2 (i : Int) x0).length c7) (setMR n2_ rs2 (i : Int) x0) := hp8 7 rfl
        have H26 := H25.put (it := imm (.slice a7 (setMR n2_ rs2 (i : Int) x0).length c7) (setMR n2_ rs2 (i : Int) x0)) rfl rv10
        show TA _ _ _ _ 3 [true, true, true, true, true, true, true, true, false, false, false] _ _
        refine ta [8, 9] (by kernel_rfl) rfl ⟨⟨_, rfl, ?_⟩, ⟨_, rfl, ?_⟩, trivial⟩
        ·
          refine xt rfl s23 rfl ?_
          refine ta [9, 10] (by kernel_rfl) rfl ⟨⟨_, rfl, ?_⟩, ⟨_, rfl, ?_⟩, trivial⟩
          ·
            refine xt rfl s23 rfl ?_
            refine ta [10] (by kernel_rfl) rfl ⟨⟨_, rfl, ?_⟩, trivial⟩
            ·
              refine stX H26 4 rfl ty24 rfl rfl s19 rfl rfl rfl rfl ?_
              intro w19 (H27 : HI M w w19 [imm (.slice a7 (setMR n2_ rs2 (i : Int) x0).length c7) (setMR n2_ rs2 (i : Int) x0), imm (.slice a3 rs2.length c3) rs2, own w.heap.size 3 (.slice a2 (lst mn.toNat (cl mn.toNat (relM mr) (i : Int).toNat)).length c2) (lst mn.toNat (cl mn.toNat (relM mr) (i : Int).toNat)), imm (.slice a1 rs.length c1) rs, box bb2 #[.int .i64 (setMN n2_ (i : Int) x0), .slice a7 (setMR n2_ rs2 (i : Int) x0).length c7] 24, imm (.slice a0 (newMR mn).length c0) (newMR mn), box bb1 #[.int .i64 0, .slice none 0 0] 24, box bb0 #[.int .i64 mn, .slice a_mr mr.length c_mr] 24, imm (.slice a_mr mr.length c_mr) mr])
              refine ta0 (by kernel_rfl) (inb_normal (nx (rg (k (mv rfl s22 (k (add rfl rfl rfl rfl (by have h_ := lst_len mn.toNat (cl mn.toNat (relM mr) (i : Int).toNat); unfold I64; omega) (k (asg (v := .int .i64 ((q : Int) + 1)) rfl rfl (z ?_))))))))))
              have H28 := H27.put (it := imm (.slice a7 (setMR n2_ rs2 (i : Int) x0).length c7) (setMR n2_ rs2 (i : Int) x0)) rfl (H27.rv 0 rfl)
              have H29 : HI M w w19 [imm (.slice a7 (setMR n2_ rs2 (i : Int) x0).length c7) (setMR n2_ rs2 (i : Int) x0), own w.heap.size 3 (.slice a2 (lst mn.toNat (cl mn.toNat (relM mr) (i : Int).toNat)).length c2) (lst mn.toNat (cl mn.toNat (relM mr) (i : Int).toNat)), imm (.slice a1 rs.length c1) rs, box bb2 #[.int .i64 (setMN n2_ (i : Int) x0), .slice a7 (setMR n2_ rs2 (i : Int) x0).length c7] 24, imm (.slice a0 (newMR mn).length c0) (newMR mn), box bb1 #[.int .i64 0, .slice none 0 0] 24, box bb0 #[.int .i64 mn, .slice a_mr mr.length c_mr] 24, imm (.slice a_mr mr.length c_mr) mr] := H28.pickN [0, 3, 4, 5, 6, 7, 8, 9] (by decide) rfl
              refine loopN _ ?_ ⟨(q + 1), (setMN n2_ (i : Int) x0), (setMR n2_ rs2 (i : Int) x0), a7, c7, rfl, s17, s18, s19, s20, s21, (ieq rfl (by first | rfl | omega | (push_cast; omega))), H29, (by first | assumption | omega | simp | (simp; omega)), (by rw [g1]; exact (rc_set rt_m g2 hx0 (by omega)).1), (by rw [g1]; exact (rc_set rt_m g2 hx0 (by omega)).2.1)⟩
              omega
          ·
            refine stX H26 4 rfl ty24 rfl rfl s19 rfl rfl rfl rfl ?_
            intro w19 (H27 : HI M w w19 [imm (.slice a7 (setMR n2_ rs2 (i : Int) x0).length c7) (setMR n2_ rs2 (i : Int) x0), imm (.slice a3 rs2.length c3) rs2, own w.heap.size 3 (.slice a2 (lst mn.toNat (cl mn.toNat (relM mr) (i : Int).toNat)).length c2) (lst mn.toNat (cl mn.toNat (relM mr) (i : Int).toNat)), imm (.slice a1 rs.length c1) rs, box bb2 #[.int .i64 (setMN n2_ (i : Int) x0), .slice a7 (setMR n2_ rs2 (i : Int) x0).length c7] 24, imm (.slice a0 (newMR mn).length c0) (newMR mn), box bb1 #[.int .i64 0, .slice none 0 0] 24, box bb0 #[.int .i64 mn, .slice a_mr mr.length c_mr] 24, imm (.slice a_mr mr.length c_mr) mr])
            refine ta [9] (by kernel_rfl) rfl ⟨⟨_, rfl, ?_⟩, trivial⟩
            ·
              refine xt rfl s23 rfl (ta0 (by kernel_rfl) (inb_normal (nx (rg (k (mv rfl s22 (k (add rfl rfl rfl rfl (by have h_ := lst_len mn.toNat (cl mn.toNat (relM mr) (i : Int).toNat); unfold I64; omega) (k (asg (v := .int .i64 ((q : Int) + 1)) rfl rfl (z ?_)))))))))))
              have H28 := H27.put (it := imm (.slice a7 (setMR n2_ rs2 (i : Int) x0).length c7) (setMR n2_ rs2 (i : Int) x0)) rfl (H27.rv 0 rfl)
              have H29 : HI M w w19 [imm (.slice a7 (setMR n2_ rs2 (i : Int) x0).length c7) (setMR n2_ rs2 (i : Int) x0), own w.heap.size 3 (.slice a2 (lst mn.toNat (cl mn.toNat (relM mr) (i : Int).toNat)).length c2) (lst mn.toNat (cl mn.toNat (relM mr) (i : Int).toNat)), imm (.slice a1 rs.length c1) rs, box bb2 #[.int .i64 (setMN n2_ (i : Int) x0), .slice a7 (setMR n2_ rs2 (i : Int) x0).length c7] 24, imm (.slice a0 (newMR mn).length c0) (newMR mn), box bb1 #[.int .i64 0, .slice none 0 0] 24, box bb0 #[.int .i64 mn, .slice a_mr mr.length c_mr] 24, imm (.slice a_mr mr.length c_mr) mr] := H28.pickN [0, 3, 4, 5, 6, 7, 8, 9] (by decide) rfl
              refine loopN _ ?_ ⟨(q + 1), (setMN n2_ (i : Int) x0), (setMR n2_ rs2 (i : Int) x0), a7, c7, rfl, s17, s18, s19, s20, s21, (ieq rfl (by first | rfl | omega | (push_cast; omega))), H29, (by first | assumption | omega | simp | (simp; omega)), (by rw [g1]; exact (rc_set rt_m g2 hx0 (by omega)).1), (by rw [g1]; exact (rc_set rt_m g2 hx0 (by omega)).2.1)⟩
              omega
        ·
          refine xt rfl s23 rfl ?_
          refine ta [8] (by kernel_rfl) rfl ⟨⟨_, rfl, ?_⟩, trivial⟩
          ·
            refine xt rfl s23 rfl ?_
            refine ta [10] (by kernel_rfl) rfl ⟨⟨_, rfl, ?_⟩, trivial⟩
            ·
              refine stX H26 4 rfl ty24 rfl rfl s19 rfl rfl rfl rfl ?_
              intro w19 (H27 : HI M w w19 [imm (.slice a7 (setMR n2_ rs2 (i : Int) x0).length c7) (setMR n2_ rs2 (i : Int) x0), imm (.slice a3 rs2.length c3) rs2, own w.heap.size 3 (.slice a2 (lst mn.toNat (cl mn.toNat (relM mr) (i : Int).toNat)).length c2) (lst mn.toNat (cl mn.toNat (relM mr) (i : Int).toNat)), imm (.slice a1 rs.length c1) rs, box bb2 #[.int .i64 (setMN n2_ (i : Int) x0), .slice a7 (setMR n2_ rs2 (i : Int) x0).length c7] 24, imm (.slice a0 (newMR mn).length c0) (newMR mn), box bb1 #[.int .i64 0, .slice none 0 0] 24, box bb0 #[.int .i64 mn, .slice a_mr mr.length c_mr] 24, imm (.slice a_mr mr.length c_mr) mr])
              refine ta0 (by kernel_rfl) (inb_normal (nx (rg (k (mv rfl s22 (k (add rfl rfl rfl rfl (by have h_ := lst_len mn.toNat (cl mn.toNat (relM mr) (i : Int).toNat); unfold I64; omega) (k (asg (v := .int .i64 ((q : Int) + 1)) rfl rfl (z ?_))))))))))
              have H28 := H27.put (it := imm (.slice a7 (setMR n2_ rs2 (i : Int) x0).length c7) (setMR n2_ rs2 (i : Int) x0)) rfl (H27.rv 0 rfl)
              have H29 : HI M w w19 [imm (.slice a7 (setMR n2_ rs2 (i : Int) x0).length c7) (setMR n2_ rs2 (i : Int) x0), own w.heap.size 3 (.slice a2 (lst mn.toNat (cl mn.toNat (relM mr) (i : Int).toNat)).length c2) (lst mn.toNat (cl mn.toNat (relM mr) (i : Int).toNat)), imm (.slice a1 rs.length c1) rs, box bb2 #[.int .i64 (setMN n2_ (i : Int) x0), .slice a7 (setMR n2_ rs2 (i : Int) x0).length c7] 24, imm (.slice a0 (newMR mn).length c0) (newMR mn), box bb1 #[.int .i64 0, .slice none 0 0] 24, box bb0 #[.int .i64 mn, .slice a_mr mr.length c_mr] 24, imm (.slice a_mr mr.length c_mr) mr] := H28.pickN [0, 3, 4, 5, 6, 7, 8, 9] (by decide) rfl
              refine loopN _ ?_ ⟨(q + 1), (setMN n2_ (i : Int) x0), (setMR n2_ rs2 (i : Int) x0), a7, c7, rfl, s17, s18, s19, s20, s21, (ieq rfl (by first | rfl | omega | (push_cast; omega))), H29, (by first | assumption | omega | simp | (simp; omega)), (by rw [g1]; exact (rc_set rt_m g2 hx0 (by omega)).1), (by rw [g1]; exact (rc_set rt_m g2 hx0 (by omega)).2.1)⟩
              omega
    ·
      have p1 := of_decide_eq_false b1
      refine ex (then_exit (loop_exit (inb_here (inb_normal (nx (rg (k (mv rfl s7 (k (add rfl rfl rfl rfl (by unfold I64 at *; omega) (k (asg (v := .int .i64 ((i : Int) + 1)) rfl rfl (z ?_)))))))))))))
      have H12 := H11.put (it := imm (.slice a3 rs2.length c3) rs2) rfl (H11.rv 0 rfl)
      have H13 : HI M w w7 [imm (.slice a3 rs2.length c3) rs2, box bb2 #[.int .i64 n2_, .slice a3 rs2.length c3] 24, imm (.slice a0 (newMR mn).length c0) (newMR mn), box bb1 #[.int .i64 0, .slice none 0 0] 24, box bb0 #[.int .i64 mn, .slice a_mr mr.length c_mr] 24, imm (.slice a_mr mr.length c_mr) mr] := H12.pickN [0, 4, 5, 6, 7, 8] (by decide) rfl
      refine loopN _ ?_ ⟨(i + 1), n2_, rs2, a3, c3, rfl, s4, s5, s6, (ieq rfl (by first | rfl | omega | (push_cast; omega))), H13, (by first | assumption | omega | simp | (simp; omega)), (by exact g1), (by rw [g2]; exact rc_row (show (lst mn.toNat (cl mn.toNat (relM mr) (i : Int).toNat)).length ≤ q from by omega))⟩
      omega
  ·
    have p0 := of_decide_eq_false b0
    refine ex (then_exit (loop_exit (inb_here (nx (sq (rg (k (ldX H8 1 rfl ty24 rfl s2 (by decide) rfl (k (stX H8 3 rfl ty24 rfl rfl s1 rfl rfl rfl rfl ?_))))))))))
    intro w6 (H9 : HI M w w6 [imm (.slice a1 rs.length c1) rs, box bb2 #[.int .i64 n_, .slice a1 rs.length c1] 24, imm (.slice a0 (newMR mn).length c0) (newMR mn), box bb1 #[.int .i64 n_, .slice a1 rs.length c1] 24, box bb0 #[.int .i64 mn, .slice a_mr mr.length c_mr] 24, imm (.slice a_mr mr.length c_mr) mr])
    refine z (nx (rt (rc1 H9 3 rfl ty24 rfl rfl s1 rfl (by decide) ?_)))
    have e0 : (n_ : Int) = mn := by exact h1
    have e1 : (rs : List (List (BitVec 64))) = closeM mn mr := by rw [h2]; exact rc_fin rfl (by omega)
    have ev_ := cg2 (fun (x_0 : Int) (x_1 : List (List (BitVec 64))) => (.agg #[.int .i64 x_0, .slice a1 x_1.length c1] : Value)) e0 e1
    exact ⟨a1, c1, ev_, H9.below, (congrArg (fun (x_ : List (List (BitVec 64))) => RV _ _ (.slice a1 x_.length c1) x_) e1).mp (H9.gives_out 0 rfl)⟩
/- eyewitness/eyewitnessref04.Add -/
set_option maxRecDepth 100000 in
set_option maxHeartbeats 1600000 in
theorem ref04_Add {M : Nat → Prop} {w : World} {mn : Int} {a_mr : Option Addr} {c_mr : Nat} {mr : List (List (BitVec 64))} {i : Int} {j : Int} (hM : ∀ b, M b → b < w.heap.size) (h_mn : I64 mn) (h_mr : RV M w (.slice a_mr mr.length c_mr) mr) (h_i : I64 i) (h_j : I64 j) (rt_m : rightS mn mr = true) : Calls Tryd.prog 33 #[.agg #[.int .i64 mn, .slice a_mr mr.length c_mr], .int .i64 i, .int .i64 j] w (Ret fun v w' => ∃ (a0 : Option Addr) (c0 : Nat), v = .tuple #[.agg #[.int .i64 (setMN mn i j), .slice a0 (raddMR mn mr i j).length c0], .int .i64 (setME mn i j)] ∧ Ext w w' ∧ RV M w' (.slice a0 (raddMR mn mr i j).length c0) (raddMR mn mr i j)) := by
  refine enter 23 Tryd.func33 rfl rfl rfl fun f0 ha => ?_
  have H := HI.start (M0 := M) (w := w) hM
  have H0 := H.put (it := imm (.slice a_mr mr.length c_mr) mr) rfl (by rw [MS_nil]; exact h_mr)
  have ln_mr := rv_len h_mr
  have i0 : f0 0 = .agg #[.int .i64 mn, .slice a_mr mr.length c_mr] := ha 0 (by simp)
  have i1 : f0 1 = .int .i64 i := ha 1 (by simp)
  have i2 : f0 2 = .int .i64 j := ha 2 (by simp)
  have hl_ := (right_sq rt_m).1; have h4_ := (right_sq rt_m).2.2.1; have h0_ := right_pos rt_m
  refine sq (rg (k (bx H0 rfl i0 ?_)))
  intro bb0 w0 xt0 (H1 : HI M w w0 [box bb0 #[.int .i64 mn, .slice a_mr mr.length c_mr] 24, imm (.slice a_mr mr.length c_mr) mr])
  refine k (al H1 ty24 ?_)
  intro bb1 w1 xt1 (H2 : HI M w w1 [box bb1 #[.int .i64 0, .slice none 0 0] 24, box bb0 #[.int .i64 mn, .slice a_mr mr.length c_mr] 24, imm (.slice a_mr mr.length c_mr) mr])
  refine k (asg (v := .int .i64 0) rfl rfl (z (nx (sq (rg (k (ldX H2 1 rfl ty24 rfl rfl (by decide) rfl (k (mv rfl i1 (k (mv rfl i2 (k ?_))))))))))))
  have cc0 := ref03_Set (mn := mn) (mr := mr) (i := i) (j := j) (w := w1) H2.mb (by unfold I64 at *; omega) (H2.rv 2 rfl) (by unfold I64 at *; omega) (by unfold I64 at *; omega) (by exact (right_sq rt_m).1) (by exact (right_sq rt_m).2.1) (by exact (right_sq rt_m).2.2.1)
  refine ca go28 rfl (ec rfl (ec rfl (ec rfl e0))) cc0 ?_
  rintro _ w2 ⟨a0, c0, rfl, xt2, rv0⟩
  have H3 := H2.ownsG rv0
  refine k (mv (v := .tuple #[.agg #[.int .i64 (setMN mn i j), .slice a0 (setMR mn mr i j).length c0], .int .i64 (setME mn i j)]) rfl rfl (k (xt rfl rfl rfl (k (xt rfl rfl rfl (k (al H3 ty24 ?_)))))))
  intro bb2 w3 xt3 (H4 : HI M w w3 [box bb2 #[.int .i64 0, .slice none 0 0] 24, own w.heap.size 73 (.slice a0 (setMR mn mr i j).length c0) (setMR mn mr i j), box bb1 #[.int .i64 0, .slice none 0 0] 24, box bb0 #[.int .i64 mn, .slice a_mr mr.length c_mr] 24, imm (.slice a_mr mr.length c_mr) mr])
  refine k (stX H4 0 rfl ty24 rfl rfl rfl rfl rfl rfl rfl ?_)
  intro w4 (H5 : HI M w w4 [box bb2 #[.int .i64 (setMN mn i j), .slice a0 (setMR mn mr i j).length c0] 24, own w.heap.size 73 (.slice a0 (setMR mn mr i j).length c0) (setMR mn mr i j), box bb1 #[.int .i64 0, .slice none 0 0] 24, box bb0 #[.int .i64 mn, .slice a_mr mr.length c_mr] 24, imm (.slice a_mr mr.length c_mr) mr])
  refine k (asg (v := .int .i64 (setME mn i j)) rfl rfl (z (nx (sq (sq (rg (k (mv (v := .int .i64 (setME mn i j)) rfl rfl (k (neq rfl rfl rfl rfl (z (nx ?_))))))))))))
  refine cd (b := !decide ((setME mn i j) = 0)) rfl rfl (fun b0 => ?_) (fun b0 => ?_)
  ·
    have p0 := of_decide_eq_false (nott b0)
    refine sq ?_
    have hq : inM mn [i, j] = false := by cases hq0 : inM mn [i, j] with
        | false => rfl
        | true => exact absurd (set_yes (rs := mr) hq0).2.2 (by simpa using b0)
    refine rg (k (bd (v := .agg #[.int .i64 0, .slice none 0 0]) rfl pb0 (fun _ => by kernel_rfl) (k (mv (v := .int .i64 (setME mn i j)) rfl rfl (k (stX H5 2 rfl ty24 rfl rfl rfl rfl rfl rfl rfl ?_))))))
    intro w5 (H6 : HI M w w5 [box bb2 #[.int .i64 (setMN mn i j), .slice a0 (setMR mn mr i j).length c0] 24, own w.heap.size 73 (.slice a0 (setMR mn mr i j).length c0) (setMR mn mr i j), box bb1 #[.int .i64 0, .slice none 0 0] 24, box bb0 #[.int .i64 mn, .slice a_mr mr.length c_mr] 24, imm (.slice a_mr mr.length c_mr) mr])
    refine k (asg (v := .int .i64 (setME mn i j)) rfl rfl (z (nx (rt (then_ret (rc2 H6 2 rfl ty24 rfl rfl rfl rfl rfl (by decide) ?_))))))
    have e0 : (0 : Int) = setMN mn i j := by first | exact (set_no (rs := mr) hq).1.symm | rfl
    have e1 : ([] : List (List (BitVec 64))) = raddMR mn mr i j := by first | exact (radd_no hq).symm | exact radd_yes hq
    have ev_ := cg2 (fun (x_0 : Int) (x_1 : List (List (BitVec 64))) => (.tuple #[.agg #[.int .i64 x_0, .slice none x_1.length 0], .int .i64 (setME mn i j)] : Value)) e0 e1
    exact ⟨none, 0, ev_, H6.below, (congrArg (fun (x_ : List (List (BitVec 64))) => RV _ _ (.slice none x_.length 0) x_) e1).mp (rv_nil _ _)⟩
  ·
    have p0 := of_decide_eq_true (notf b0)
    refine sk (nx (sq ?_))
    have hq : inM mn [i, j] = true := by cases hq0 : inM mn [i, j] with
        | true => rfl
        | false => exact absurd (set_no (rs := mr) hq0).2.2 (by have h_ : setME mn i j = 0 := (by simpa using b0); omega)
    refine rg (k (ldX H5 0 rfl ty24 rfl rfl (by decide) rfl (k ?_)))
    have H6 := H5.freeze 1 rfl
    have cc1 := ref04_Close (mn := (setMN mn i j)) (mr := (setMR mn mr i j)) (w := w4) H6.mb (by unfold setMN; unfold I64 at *; split <;> omega) (H6.rv 1 rfl) (by exact set_right rt_m hq)
    refine ca go30 rfl (ec rfl e0) cc1 ?_
    rintro _ w5 ⟨a1, c1, rfl, xt4, rv1⟩
    have H7 := H6.ext xt4
    have H8 := H7.put (it := imm (.slice a1 (closeM (setMN mn i j) (setMR mn mr i j)).length c1) (closeM (setMN mn i j) (setMR mn mr i j))) rfl rv1
    refine k (stX H8 3 rfl ty24 rfl rfl rfl rfl rfl rfl rfl ?_)
    intro w6 (H9 : HI M w w6 [imm (.slice a1 (closeM (setMN mn i j) (setMR mn mr i j)).length c1) (closeM (setMN mn i j) (setMR mn mr i j)), box bb2 #[.int .i64 (setMN mn i j), .slice a0 (setMR mn mr i j).length c0] 24, imm (.slice a0 (setMR mn mr i j).length c0) (setMR mn mr i j), box bb1 #[.int .i64 (setMN mn i j), .slice a1 (closeM (setMN mn i j) (setMR mn mr i j)).length c1] 24, box bb0 #[.int .i64 mn, .slice a_mr mr.length c_mr] 24, imm (.slice a_mr mr.length c_mr) mr])
    refine k (asg (v := .int .i64 0) rfl rfl (z (nx (rt (rc2 H9 3 rfl ty24 rfl rfl rfl rfl rfl (by decide) ?_)))))
    have e0 : ((setMN mn i j) : Int) = setMN mn i j := by first | exact (set_no (rs := mr) hq).1.symm | rfl
    have e1 : (closeM (setMN mn i j) (setMR mn mr i j) : List (List (BitVec 64))) = raddMR mn mr i j := by first | exact (radd_no hq).symm | exact radd_yes hq
    have e2 : (0 : Int) = setME mn i j := by first | rfl | exact (set_yes (rs := mr) hq).2.2.symm
    have ev_ := cg3 (fun (x_0 : Int) (x_1 : List (List (BitVec 64))) (x_2 : Int) => (.tuple #[.agg #[.int .i64 x_0, .slice a1 x_1.length c1], .int .i64 x_2] : Value)) e0 e1 e2
    exact ⟨a1, c1, ev_, H9.below, (congrArg (fun (x_ : List (List (BitVec 64))) => RV _ _ (.slice a1 x_.length c1) x_) e1).mp (H9.gives_out 0 rfl)⟩
/- eyewitness/eyewitnessref04.Within -/
set_option maxRecDepth 100000 in
set_option maxHeartbeats 1600000 in
theorem ref04_Within {M : Nat → Prop} {w : World} {mn : Int} {a_mr : Option Addr} {c_mr : Nat} {mr : List (List (BitVec 64))} {a_l : Option Addr} {c_l : Nat} {l : List Int} (hM : ∀ b, M b → b < w.heap.size) (h_mn : I64 mn) (h_mr : RV M w (.slice a_mr mr.length c_mr) mr) (h_l : RV M w (.slice a_l l.length c_l) l) (rt_m : rightS mn mr = true) : Calls Tryd.prog 35 #[.agg #[.int .i64 mn, .slice a_mr mr.length c_mr], .slice a_l l.length c_l] w (Ret fun v w' => ∃ (a0 : Option Addr) (c0 : Nat), v = .agg #[.int .i64 mn, .slice a0 (withinM mn mr l).length c0] ∧ Ext w w' ∧ RV M w' (.slice a0 (withinM mn mr l).length c0) (withinM mn mr l)) := by
  refine enter 55 Tryd.func35 rfl rfl rfl fun f0 ha => ?_
  have H := HI.start (M0 := M) (w := w) hM
  have H0 := H.put (it := imm (.slice a_mr mr.length c_mr) mr) rfl (by rw [MS_nil]; exact h_mr)
  have H1 := H0.put (it := imm (.slice a_l l.length c_l) l) rfl (by rw [MS_cons_none rfl, MS_nil]; exact h_l)
  have ln_mr := rv_len h_mr
  have ln_l := rv_len h_l
  have i0 : f0 0 = .agg #[.int .i64 mn, .slice a_mr mr.length c_mr] := ha 0 (by simp)
  have i1 : f0 1 = .slice a_l l.length c_l := ha 1 (by simp)
  have hl_ := (right_sq rt_m).1; have h4_ := (right_sq rt_m).2.2.1; have h0_ := right_pos rt_m
  refine sq (rg (k (bx H1 rfl i0 ?_)))
  intro bb0 w0 xt0 (H2 : HI M w w0 [box bb0 #[.int .i64 mn, .slice a_mr mr.length c_mr] 24, imm (.slice a_l l.length c_l) l, imm (.slice a_mr mr.length c_mr) mr])
  refine k (al H2 ty24 ?_)
  intro bb1 w1 xt1 (H3 : HI M w w1 [box bb1 #[.int .i64 0, .slice none 0 0] 24, box bb0 #[.int .i64 mn, .slice a_mr mr.length c_mr] 24, imm (.slice a_l l.length c_l) l, imm (.slice a_mr mr.length c_mr) mr])
  refine z (nx (sq (rg (k (fa fl24_0 rfl rfl (k (ldX H3 1 rfl ty3 rfl rfl (by decide) rfl (k ?_))))))))
  have cc0 := ref03_New (n := mn) (w := w1) H3.mb (by unfold I64 at *; omega)
  refine ca go26 rfl (ec rfl e0) cc0 ?_
  rintro _ w2 ⟨a0, c0, rfl, xt2, rv0⟩
  have H4 := H3.ownsG rv0
  refine k (mv (v := .tuple #[.agg #[.int .i64 (newMN mn), .slice a0 (newMR mn).length c0], .int .i64 (newME mn)]) rfl rfl (k (xt rfl rfl rfl (k (xt rfl rfl rfl (k (al H4 ty24 ?_)))))))
  intro bb2 w3 xt3 (H5 : HI M w w3 [box bb2 #[.int .i64 0, .slice none 0 0] 24, own w.heap.size 73 (.slice a0 (newMR mn).length c0) (newMR mn), box bb1 #[.int .i64 0, .slice none 0 0] 24, box bb0 #[.int .i64 mn, .slice a_mr mr.length c_mr] 24, imm (.slice a_l l.length c_l) l, imm (.slice a_mr mr.length c_mr) mr])
  refine k (stX H5 0 rfl ty24 rfl rfl rfl rfl rfl rfl rfl ?_)
  intro w4 (H6 : HI M w w4 [box bb2 #[.int .i64 (newMN mn), .slice a0 (newMR mn).length c0] 24, own w.heap.size 73 (.slice a0 (newMR mn).length c0) (newMR mn), box bb1 #[.int .i64 0, .slice none 0 0] 24, box bb0 #[.int .i64 mn, .slice a_mr mr.length c_mr] 24, imm (.slice a_l l.length c_l) l, imm (.slice a_mr mr.length c_mr) mr])
  refine k (asg (v := .int .i64 (newME mn)) rfl rfl (z (nx (sq (rg (k (ldX H6 3 rfl ty24 rfl rfl (by decide) rfl (k ?_))))))))
  have cc1 := ref03_Pairs (mn := mn) (mr := mr) (w := w4) H6.mb (by unfold I64 at *; omega) (H6.rv 5 rfl) (by exact (right_sq rt_m).1) (by exact (right_sq rt_m).2.1) (by exact (right_sq rt_m).2.2.1) (by exact (right_sq rt_m).2.2.2.2)
  refine ca go76 rfl (ec rfl e0) cc1 ?_
  rintro _ w5 ⟨a1, c1, rfl, xt4, rv1⟩
  have H7 := H6.ext xt4
  have H8 := H7.put (it := imm (.slice a1 (pairsM mn mr).length c1) (pairsM mn mr)) rfl rv1
  refine k (asg (v := .slice a1 (pairsM mn mr).length c1) rfl rfl (z (nx (sq (sq (rg (k (asg (v := .int .i64 0) rfl rfl (z (nx (bk ?_)))))))))))
  have H9 := H8.freeze 2 rfl
  have H10 := H9.put (it := imm (.slice a0 (newMR mn).length c0) (newMR mn)) rfl (H9.rv 2 rfl)
  refine lp (fun m f w' => ∃ (j : Nat) (n_ : Int) (rs : List (List (BitVec 64))) (a2 : Option Addr) (c2 : Nat), m = (pairsM mn mr).length - j ∧ f 1 = .slice a_l l.length c_l ∧ f 4 = .pointer (some ⟨bb1, 0, none⟩) ∧ f 5 = .pointer (some ⟨bb2, 0, none⟩) ∧ f 7 = .slice a1 (pairsM mn mr).length c1 ∧ f 8 = .int .i64 (j : Int) ∧  HI M w w' [imm (.slice a2 rs.length c2) rs, imm (.slice a1 (pairsM mn mr).length c1) (pairsM mn mr), box bb2 #[.int .i64 n_, .slice a2 rs.length c2] 24, imm (.slice a0 (newMR mn).length c0) (newMR mn), box bb1 #[.int .i64 0, .slice none 0 0] 24, box bb0 #[.int .i64 mn, .slice a_mr mr.length c_mr] 24, imm (.slice a_l l.length c_l) l, imm (.slice a_mr mr.length c_mr) mr] ∧ (j ≤ (pairsM mn mr).length) ∧ (n_ = mn) ∧ (rs = foldM mn (((pairsM mn mr).take j).filter (inL l)))) _ ⟨0, (newMN mn), (newMR mn), a0, c0, rfl, i1, rfl, rfl, rfl, (ieq rfl (by first | rfl | omega | simp)), H10, (by first | assumption | omega | simp | (simp; omega)), (by exact (newM_yes (right_ok rt_m)).1), (by rw [(newM_yes (right_ok rt_m)).2.1]; rfl)⟩ ?_
  rintro _ f0 w6 ⟨j, n_, rs, a2, c2, rfl, s0, s1, s2, s3, s4, H11, hk, h1, h2⟩
  refine sq (sq (rg (k (mv rfl s4 (k (mv rfl s3 (k (lnS rfl rfl un31 (k (lss rfl rfl rfl rfl (z (nx ?_))))))))))))
  refine cd (b := decide ((j : Int) < ((pairsM mn mr).length : Int))) rfl rfl (fun b0 => ?_) (fun b0 => ?_)
  ·
    have p0 := of_decide_eq_true b0
    refine sk (nx (sq (bk (sq (rg (k (mv rfl s0 (k (mv rfl s3 (k (mv rfl s4 (k (ia (H11.rv 1 rfl) rfl rfl rfl rfl (by first | omega | (simp; omega)) un31 ty76 ?_)))))))))))))
    intro ad0 x0 hx0 hA0
    refine k (iaA rfl rfl rfl rfl (by omega) un76 ty3 (k (ldI (hA0).fst.w ty3 rfl rfl ?_)))
    intro rv2
    refine k ?_
    have cc2 := ref04_has (l := l) (x := x0.1) (w := w6) H11.mb (H11.rv 6 rfl) (by unfold I64 at *; omega)
    refine ca go79 rfl (ec rfl (ec rfl e0)) cc2 ?_
    rintro _ w7 ⟨rfl, xt5⟩
    have H12 := H11.ext xt5
    refine k (mv (v := .bool (decide (x0.1 ∈ l))) rfl rfl ?_)
    rcases Bool.eq_false_or_eq_true (decide (x0.1 ∈ l)) with b1 | b1
    · -- decide (x0.1 ∈ l) is True
      have p1 := of_decide_eq_true b1
      refine k (gy rfl rfl rfl b1 (mv rfl s0 (k (gy rfl rfl rfl b1 (mv rfl s3 (k (gy rfl rfl rfl b1 (mv rfl s4 (k (gy rfl rfl rfl b1 (ia (H12.rv 1 rfl) rfl rfl rfl rfl (by first | omega | (simp; omega)) un31 ty76 ?_)))))))))))
      intro ad1 x1 hx1 hA1
      refine k (gy rfl rfl rfl b1 (iaA rfl rfl rfl rfl (by omega) un76 ty3 (k (gy rfl rfl rfl b1 (ldI (hA1).snd.w ty3 rfl rfl ?_)))))
      intro rv3
      refine k (gy rfl rfl rfl b1 ?_)
      have cc3 := ref04_has (l := l) (x := x1.2) (w := w7) H12.mb (H12.rv 6 rfl) (by unfold I64 at *; omega)
      refine ca go79 rfl (ec rfl (ec rfl e0)) cc3 ?_
      rintro _ w8 ⟨rfl, xt6⟩
      have H13 := H12.ext xt6
      refine k (pickT rfl rfl rfl rfl b1 rfl (z (nx ?_)))
      refine cd (b := decide (x1.2 ∈ l)) rfl rfl (fun b2 => ?_) (fun b2 => ?_)
      ·
        have p2 := of_decide_eq_true b2
        obtain ⟨g1_, g2_, g3_, g4_⟩ := right_pair rt_m hx0
        have hin_ : inM mn [x0.1, x0.2] = true := inM_two.2 (by omega)
        obtain ⟨x2, hx2⟩ : ∃ x, (pairsM mn mr)[(j : Int).toNat]? = some x := ⟨_, List.getElem?_eq_getElem (by first | omega | (simp; omega))⟩
        refine dr3 13 [fun (v : Value) (w' : World) => v = .agg #[.int .i64 n_, .slice a2 rs.length c2], fun (v : Value) (w' : World) => v = .slice a1 (pairsM mn mr).length c1, fun (v : Value) (w' : World) => v = .int .i64 (j : Int), fun (v : Value) (w' : World) => ∃ (ad2 : Addr), v = .pointer (some ad2) ∧ At (MS M [imm (.slice a2 rs.length c2) rs, imm (.slice a1 (pairsM mn mr).length c1) (pairsM mn mr), box bb2 #[.int .i64 n_, .slice a2 rs.length c2] 24, imm (.slice a0 (newMR mn).length c0) (newMR mn), box bb1 #[.int .i64 0, .slice none 0 0] 24, box bb0 #[.int .i64 mn, .slice a_mr mr.length c_mr] 24, imm (.slice a_l l.length c_l) l, imm (.slice a_mr mr.length c_mr) mr]) w' ad2 x2, fun (v : Value) (w' : World) => ∃ (ad2 : Addr), v = .pointer (some ((ad2).add 0)) ∧ At (MS M [imm (.slice a2 rs.length c2) rs, imm (.slice a1 (pairsM mn mr).length c1) (pairsM mn mr), box bb2 #[.int .i64 n_, .slice a2 rs.length c2] 24, imm (.slice a0 (newMR mn).length c0) (newMR mn), box bb1 #[.int .i64 0, .slice none 0 0] 24, box bb0 #[.int .i64 mn, .slice a_mr mr.length c_mr] 24, imm (.slice a_l l.length c_l) l, imm (.slice a_mr mr.length c_mr) mr]) w' ad2 x2, fun (v : Value) (w' : World) => v = .int .i64 x2.1 ∧ I64 (x2.1), fun (v : Value) (w' : World) => v = .slice a1 (pairsM mn mr).length c1, fun (v : Value) (w' : World) => v = .int .i64 (j : Int), fun (v : Value) (w' : World) => ∃ (ad3 : Addr), v = .pointer (some ad3) ∧ At (MS M [imm (.slice a2 rs.length c2) rs, imm (.slice a1 (pairsM mn mr).length c1) (pairsM mn mr), box bb2 #[.int .i64 n_, .slice a2 rs.length c2] 24, imm (.slice a0 (newMR mn).length c0) (newMR mn), box bb1 #[.int .i64 0, .slice none 0 0] 24, box bb0 #[.int .i64 mn, .slice a_mr mr.length c_mr] 24, imm (.slice a_l l.length c_l) l, imm (.slice a_mr mr.length c_mr) mr]) w' ad3 x2, fun (v : Value) (w' : World) => ∃ (ad3 : Addr), v = .pointer (some ((ad3).add 1)) ∧ At (MS M [imm (.slice a2 rs.length c2) rs, imm (.slice a1 (pairsM mn mr).length c1) (pairsM mn mr), box bb2 #[.int .i64 n_, .slice a2 rs.length c2] 24, imm (.slice a0 (newMR mn).length c0) (newMR mn), box bb1 #[.int .i64 0, .slice none 0 0] 24, box bb0 #[.int .i64 mn, .slice a_mr mr.length c_mr] 24, imm (.slice a_l l.length c_l) l, imm (.slice a_mr mr.length c_mr) mr]) w' ad3 x2, fun (v : Value) (w' : World) => v = .int .i64 x2.2 ∧ I64 (x2.2), fun (v : Value) (w' : World) => ∃ (a3 : Option Addr) (c3 : Nat), v = .tuple #[.agg #[.int .i64 (setMN n_ x2.1 x2.2), .slice a3 (setMR n_ rs x2.1 x2.2).length c3], .int .i64 (setME n_ x2.1 x2.2)] ∧ RV (MS M [imm (.slice a2 rs.length c2) rs, imm (.slice a1 (pairsM mn mr).length c1) (pairsM mn mr), box bb2 #[.int .i64 n_, .slice a2 rs.length c2] 24, imm (.slice a0 (newMR mn).length c0) (newMR mn), box bb1 #[.int .i64 0, .slice none 0 0] 24, box bb0 #[.int .i64 mn, .slice a_mr mr.length c_mr] 24, imm (.slice a_l l.length c_l) l, imm (.slice a_mr mr.length c_mr) mr]) w' (.slice a3 (setMR n_ rs x2.1 x2.2).length c3) (setMR n_ rs x2.1 x2.2), fun (v : Value) (w' : World) => ∃ (a3 : Option Addr) (c3 : Nat), v = .tuple #[.agg #[.int .i64 (setMN n_ x2.1 x2.2), .slice a3 (setMR n_ rs x2.1 x2.2).length c3], .int .i64 (setME n_ x2.1 x2.2)] ∧ RV (MS M [imm (.slice a2 rs.length c2) rs, imm (.slice a1 (pairsM mn mr).length c1) (pairsM mn mr), box bb2 #[.int .i64 n_, .slice a2 rs.length c2] 24, imm (.slice a0 (newMR mn).length c0) (newMR mn), box bb1 #[.int .i64 0, .slice none 0 0] 24, box bb0 #[.int .i64 mn, .slice a_mr mr.length c_mr] 24, imm (.slice a_l l.length c_l) l, imm (.slice a_mr mr.length c_mr) mr]) w' (.slice a3 (setMR n_ rs x2.1 x2.2).length c3) (setMR n_ rs x2.1 x2.2)] rfl (by kernel_rfl) ?_ ?_
        ·
          refine ⟨fun _ => ⟨fun f1 w10 hf0 xt8 hp0 => ?_, fun _ _ _ _ h => h⟩, ?_⟩
          ·
            have H16 := H13.ext xt8
            refine ldX H16 2 rfl ty24 rfl ((hf0 5 rfl).trans s2) (by decide) rfl ?_
            exact ⟨_, rfl, Ext.refl _, rfl⟩
          refine ⟨fun _ => ⟨fun f2 w11 hf1 xt9 hp1 => ?_, fun _ _ _ _ h => h⟩, ?_⟩
          ·
            have H17 := H13.ext xt9
            refine mv rfl ((hf1 7 rfl).trans s3) ?_
            exact ⟨_, rfl, Ext.refl _, rfl⟩
          refine ⟨fun _ => ⟨fun f3 w12 hf2 xt10 hp2 => ?_, fun _ _ _ _ h => h⟩, ?_⟩
          ·
            have H18 := H13.ext xt10
            refine mv rfl ((hf2 8 rfl).trans s4) ?_
            exact ⟨_, rfl, Ext.refl _, rfl⟩
          refine ⟨fun _ => ⟨fun f4 w13 hf3 xt11 hp3 => ?_, by rintro _ _ _ x_ ⟨ad2, e_, hA2⟩; exact ⟨ad2, e_, hA2.lift (Up.ext x_)⟩⟩, ?_⟩
          ·
            have H19 := H13.ext xt11
            have s5 : f4 41 = .slice a1 (pairsM mn mr).length c1 := hp3 1 rfl rfl
            have s6 : f4 42 = .int .i64 (j : Int) := hp3 2 rfl rfl
            refine ia (H19.rv 1 rfl) rfl rfl s5 s6 (by first | omega | (simp; omega)) un31 ty76 ?_
            intro ad4 x4 hx4 hA4
            obtain rfl : x2 = x4 := Option.some.inj (hx2.symm.trans hx4)
            exact ⟨_, rfl, Ext.refl _, ⟨ad4, rfl, hA4⟩⟩
          refine ⟨fun _ => ⟨fun f5 w14 hf4 xt12 hp4 => ?_, by rintro _ _ _ x_ ⟨ad2, e_, hA2⟩; exact ⟨ad2, e_, hA2.lift (Up.ext x_)⟩⟩, ?_⟩
          ·
            have H20 := H13.ext xt12
            obtain ⟨ad5, s7, hA5⟩ : ∃ (ad5 : Addr), f5 43 = .pointer (some ad5) ∧ At (MS M [imm (.slice a2 rs.length c2) rs, imm (.slice a1 (pairsM mn mr).length c1) (pairsM mn mr), box bb2 #[.int .i64 n_, .slice a2 rs.length c2] 24, imm (.slice a0 (newMR mn).length c0) (newMR mn), box bb1 #[.int .i64 0, .slice none 0 0] 24, box bb0 #[.int .i64 mn, .slice a_mr mr.length c_mr] 24, imm (.slice a_l l.length c_l) l, imm (.slice a_mr mr.length c_mr) mr]) w14 ad5 x2 := hp4 3 rfl rfl
            have H21 := H20.put (it := atI ad5 x2) rfl hA5
            refine iaA rfl rfl s7 rfl (by omega) un76 ty3 ?_
            exact ⟨_, rfl, Ext.refl _, ⟨ad5, rfl, (by assumption)⟩⟩
          refine ⟨fun _ => ⟨fun f6 w15 hf5 xt13 hp5 => ?_, fun _ _ _ _ h => h⟩, ?_⟩
          ·
            have H22 := H13.ext xt13
            obtain ⟨ad6, s8, hA6⟩ : ∃ (ad6 : Addr), f6 44 = .pointer (some ((ad6).add 0)) ∧ At (MS M [imm (.slice a2 rs.length c2) rs, imm (.slice a1 (pairsM mn mr).length c1) (pairsM mn mr), box bb2 #[.int .i64 n_, .slice a2 rs.length c2] 24, imm (.slice a0 (newMR mn).length c0) (newMR mn), box bb1 #[.int .i64 0, .slice none 0 0] 24, box bb0 #[.int .i64 mn, .slice a_mr mr.length c_mr] 24, imm (.slice a_l l.length c_l) l, imm (.slice a_mr mr.length c_mr) mr]) w15 ad6 x2 := hp5 4 rfl rfl
            have H23 := H22.put (it := atI ad6 x2) rfl hA6
            refine ldI ((H23.atv 0 rfl)).fst.w ty3 rfl s8 ?_
            intro rv8
            exact ⟨_, rfl, Ext.refl _, ⟨rfl, rv8⟩⟩
          refine ⟨fun _ => ⟨fun f7 w16 hf6 xt14 hp6 => ?_, fun _ _ _ _ h => h⟩, ?_⟩
          ·
            have H24 := H13.ext xt14
            refine mv rfl ((hf6 7 rfl).trans s3) ?_
            exact ⟨_, rfl, Ext.refl _, rfl⟩
          refine ⟨fun _ => ⟨fun f8 w17 hf7 xt15 hp7 => ?_, fun _ _ _ _ h => h⟩, ?_⟩
          ·
            have H25 := H13.ext xt15
            refine mv rfl ((hf7 8 rfl).trans s4) ?_
            exact ⟨_, rfl, Ext.refl _, rfl⟩
          refine ⟨fun _ => ⟨fun f9 w18 hf8 xt16 hp8 => ?_, by rintro _ _ _ x_ ⟨ad3, e_, hA3⟩; exact ⟨ad3, e_, hA3.lift (Up.ext x_)⟩⟩, ?_⟩
          ·
            have H26 := H13.ext xt16
            have s9 : f9 46 = .slice a1 (pairsM mn mr).length c1 := hp8 6 rfl rfl
            have s10 : f9 47 = .int .i64 (j : Int) := hp8 7 rfl rfl
            refine ia (H26.rv 1 rfl) rfl rfl s9 s10 (by first | omega | (simp; omega)) un31 ty76 ?_
            intro ad7 x5 hx5 hA7
            obtain rfl : x2 = x5 := Option.some.inj (hx2.symm.trans hx5)
            exact ⟨_, rfl, Ext.refl _, ⟨ad7, rfl, hA7⟩⟩
          refine ⟨fun _ => ⟨fun f10 w19 hf9 xt17 hp9 => ?_, by rintro _ _ _ x_ ⟨ad3, e_, hA3⟩; exact ⟨ad3, e_, hA3.lift (Up.ext x_)⟩⟩, ?_⟩
          ·
            have H27 := H13.ext xt17
            obtain ⟨ad8, s11, hA8⟩ : ∃ (ad8 : Addr), f10 48 = .pointer (some ad8) ∧ At (MS M [imm (.slice a2 rs.length c2) rs, imm (.slice a1 (pairsM mn mr).length c1) (pairsM mn mr), box bb2 #[.int .i64 n_, .slice a2 rs.length c2] 24, imm (.slice a0 (newMR mn).length c0) (newMR mn), box bb1 #[.int .i64 0, .slice none 0 0] 24, box bb0 #[.int .i64 mn, .slice a_mr mr.length c_mr] 24, imm (.slice a_l l.length c_l) l, imm (.slice a_mr mr.length c_mr) mr]) w19 ad8 x2 := hp9 8 rfl rfl
            have H28 := H27.put (it := atI ad8 x2) rfl hA8
            refine iaA rfl rfl s11 rfl (by omega) un76 ty3 ?_
            exact ⟨_, rfl, Ext.refl _, ⟨ad8, rfl, (by assumption)⟩⟩
          refine ⟨fun _ => ⟨fun f11 w20 hf10 xt18 hp10 => ?_, fun _ _ _ _ h => h⟩, ?_⟩
          ·
            have H29 := H13.ext xt18
            obtain ⟨ad9, s12, hA9⟩ : ∃ (ad9 : Addr), f11 49 = .pointer (some ((ad9).add 1)) ∧ At (MS M [imm (.slice a2 rs.length c2) rs, imm (.slice a1 (pairsM mn mr).length c1) (pairsM mn mr), box bb2 #[.int .i64 n_, .slice a2 rs.length c2] 24, imm (.slice a0 (newMR mn).length c0) (newMR mn), box bb1 #[.int .i64 0, .slice none 0 0] 24, box bb0 #[.int .i64 mn, .slice a_mr mr.length c_mr] 24, imm (.slice a_l l.length c_l) l, imm (.slice a_mr mr.length c_mr) mr]) w20 ad9 x2 := hp10 9 rfl rfl
            have H30 := H29.put (it := atI ad9 x2) rfl hA9
            refine ldI ((H30.atv 0 rfl)).snd.w ty3 rfl s12 ?_
            intro rv9
            exact ⟨_, rfl, Ext.refl _, ⟨rfl, rv9⟩⟩
          refine ⟨fun _ => ⟨fun f12 w21 hf11 xt19 hp11 => ?_, by rintro _ _ _ x_ ⟨a3, c3, e_, rv7⟩; exact ⟨a3, c3, e_, rv7.lift (Up.ext x_)⟩⟩, ?_⟩
          ·
            have H31 := H13.ext xt19
            have s13 : f12 40 = .agg #[.int .i64 n_, .slice a2 rs.length c2] := hp11 0 rfl rfl
            obtain ⟨s14, rv10⟩ : f12 45 = .int .i64 x2.1 ∧ I64 (x2.1) := hp11 5 rfl rfl
            obtain ⟨s15, rv11⟩ : f12 50 = .int .i64 x2.2 ∧ I64 (x2.2) := hp11 10 rfl rfl
            have cc5 := ref03_Set (mn := n_) (mr := rs) (i := x2.1) (j := x2.2) (w := w21) H31.mb (by rw [h1]; exact h_mn) (H31.rv 0 rfl) (by unfold I64 at *; omega) (by unfold I64 at *; omega) (by rw [h1, h2]; exact (fold_sq rt_m _).1) (by rw [h2]; exact (fold_sq rt_m _).2) (by rw [h1]; exact (right_sq rt_m).2.2.1)
            refine ca go28 rfl (ec s13 (ec s14 (ec s15 e0))) cc5 ?_
            rintro _ w22 ⟨a4, c4, rfl, xt20, rv12⟩
            have rv13 := OwnsG.rv rv12 H31.mb
            have H32 := H31.ext xt20
            have H33 := H32.put (it := imm (.slice a4 (setMR n_ rs x2.1 x2.2).length c4) (setMR n_ rs x2.1 x2.2)) rfl rv13
            exact ⟨_, rfl, xt20, ⟨a4, c4, rfl, rv13⟩⟩
          refine ⟨fun _ => ⟨fun f13 w23 hf12 xt21 hp12 => ?_, by rintro _ _ _ x_ ⟨a3, c3, e_, rv7⟩; exact ⟨a3, c3, e_, rv7.lift (Up.ext x_)⟩⟩, ?_⟩
          ·
            have H34 := H13.ext xt21
            obtain ⟨a5, c5, s16, rv14⟩ : ∃ (a5 : Option Addr) (c5 : Nat), f13 51 = .tuple #[.agg #[.int .i64 (setMN n_ x2.1 x2.2), .slice a5 (setMR n_ rs x2.1 x2.2).length c5], .int .i64 (setME n_ x2.1 x2.2)] ∧ RV (MS M [imm (.slice a2 rs.length c2) rs, imm (.slice a1 (pairsM mn mr).length c1) (pairsM mn mr), box bb2 #[.int .i64 n_, .slice a2 rs.length c2] 24, imm (.slice a0 (newMR mn).length c0) (newMR mn), box bb1 #[.int .i64 0, .slice none 0 0] 24, box bb0 #[.int .i64 mn, .slice a_mr mr.length c_mr] 24, imm (.slice a_l l.length c_l) l, imm (.slice a_mr mr.length c_mr) mr]) w23 (.slice a5 (setMR n_ rs x2.1 x2.2).length c5) (setMR n_ rs x2.1 x2.2) := hp12 11 rfl rfl
            have H35 := H34.put (it := imm (.slice a5 (setMR n_ rs x2.1 x2.2).length c5) (setMR n_ rs x2.1 x2.2)) rfl rv14
            refine mv rfl s16 ?_
            exact ⟨_, rfl, Ext.refl _, ⟨a5, c5, rfl, rv14⟩⟩
          exact DSteps.rest rfl _
        · intro f14 w24 hf13 xt22 hp13
          have H36 := H13.ext xt22
          have s17 : f14 1 = .slice a_l l.length c_l := (hf13 1 rfl).trans s0
          have s18 : f14 4 = .pointer (some ⟨bb1, 0, none⟩) := (hf13 4 rfl).trans s1
          have s19 : f14 5 = .pointer (some ⟨bb2, 0, none⟩) := (hf13 5 rfl).trans s2
          have s20 : f14 7 = .slice a1 (pairsM mn mr).length c1 := (hf13 7 rfl).trans s3
          have s21 : f14 8 = .int .i64 (j : Int) := (hf13 8 rfl).trans s4
          obtain ⟨a6, c6, s22, rv15⟩ : ∃ (a6 : Option Addr) (c6 : Nat), f14 39 = .tuple #[.agg #[.int .i64 (setMN n_ x2.1 x2.2), .slice a6 (setMR n_ rs x2.1 x2.2).length c6], .int .i64 (setME n_ x2.1 x2.2)] ∧ RV (MS M [imm (.slice a2 rs.length c2) rs, imm (.slice a1 (pairsM mn mr).length c1) (pairsM mn mr), box bb2 #[.int .i64 n_, .slice a2 rs.length c2] 24, imm (.slice a0 (newMR mn).length c0) (newMR mn), box bb1 #[.int .i64 0, .slice none 0 0] 24, box bb0 #[.int .i64 mn, .slice a_mr mr.length c_mr] 24, imm (.slice a_l l.length c_l) l, imm (.slice a_mr mr.length c_mr) mr]) w24 (.slice a6 (setMR n_ rs x2.1 x2.2).length c6) (setMR n_ rs x2.1 x2.2) := hp13 12 rfl
          have H37 := H36.put (it := imm (.slice a6 (setMR n_ rs x2.1 x2.2).length c6) (setMR n_ rs x2.1 x2.2)) rfl rv15
          show TA _ _ _ _ 3 [true, true, true, true, true, true, true, true, true, true, true, true, true, false, false, false] _ _
          refine ta [13, 14] (by kernel_rfl) rfl ⟨⟨_, rfl, ?_⟩, ⟨_, rfl, ?_⟩, trivial⟩
          ·
            refine xt rfl s22 rfl ?_
            refine ta [14, 15] (by kernel_rfl) rfl ⟨⟨_, rfl, ?_⟩, ⟨_, rfl, ?_⟩, trivial⟩
            ·
              refine xt rfl s22 rfl ?_
              refine ta [15] (by kernel_rfl) rfl ⟨⟨_, rfl, ?_⟩, trivial⟩
              ·
                refine stX H37 3 rfl ty24 rfl rfl s19 rfl rfl rfl rfl ?_
                intro w25 (H38 : HI M w w25 [imm (.slice a6 (setMR n_ rs x2.1 x2.2).length c6) (setMR n_ rs x2.1 x2.2), imm (.slice a2 rs.length c2) rs, imm (.slice a1 (pairsM mn mr).length c1) (pairsM mn mr), box bb2 #[.int .i64 (setMN n_ x2.1 x2.2), .slice a6 (setMR n_ rs x2.1 x2.2).length c6] 24, imm (.slice a0 (newMR mn).length c0) (newMR mn), box bb1 #[.int .i64 0, .slice none 0 0] 24, box bb0 #[.int .i64 mn, .slice a_mr mr.length c_mr] 24, imm (.slice a_l l.length c_l) l, imm (.slice a_mr mr.length c_mr) mr])
                refine ta0 (by kernel_rfl) (inb_normal (nx (rg (k (mv rfl s21 (k (add rfl rfl rfl rfl (by have h_ := right_pairs rt_m; unfold I64; omega) (k (asg (v := .int .i64 ((j : Int) + 1)) rfl rfl (z ?_))))))))))
                have H39 := H38.put (it := imm (.slice a6 (setMR n_ rs x2.1 x2.2).length c6) (setMR n_ rs x2.1 x2.2)) rfl (H38.rv 0 rfl)
                have H40 : HI M w w25 [imm (.slice a6 (setMR n_ rs x2.1 x2.2).length c6) (setMR n_ rs x2.1 x2.2), imm (.slice a1 (pairsM mn mr).length c1) (pairsM mn mr), box bb2 #[.int .i64 (setMN n_ x2.1 x2.2), .slice a6 (setMR n_ rs x2.1 x2.2).length c6] 24, imm (.slice a0 (newMR mn).length c0) (newMR mn), box bb1 #[.int .i64 0, .slice none 0 0] 24, box bb0 #[.int .i64 mn, .slice a_mr mr.length c_mr] 24, imm (.slice a_l l.length c_l) l, imm (.slice a_mr mr.length c_mr) mr] := H39.pickN [0, 3, 4, 5, 6, 7, 8, 9] (by decide) rfl
                refine loopN _ ?_ ⟨(j + 1), (setMN n_ x2.1 x2.2), (setMR n_ rs x2.1 x2.2), a6, c6, rfl, s17, s18, s19, s20, (ieq rfl (by first | rfl | omega | (push_cast; omega))), H40, (by first | assumption | omega | simp | (simp; omega)), (by (try (have e_ := at_is hx1 hx0; subst e_)); (try (have e_ := at_is hx2 hx0; subst e_)); (try (have e_ := at_is hx3 hx0; subst e_)); (try (have e_ := at_is hx4 hx0; subst e_)); (try (have e_ := at_is hx5 hx0; subst e_)); (try (have e_ := at_is hx6 hx0; subst e_)); first | exact h1 | (rw [h1]; exact (set_yes (rs := mr) hin_).1)), (by (try (have e_ := at_is hx1 hx0; subst e_)); (try (have e_ := at_is hx2 hx0; subst e_)); (try (have e_ := at_is hx3 hx0; subst e_)); (try (have e_ := at_is hx4 hx0; subst e_)); (try (have e_ := at_is hx5 hx0; subst e_)); (try (have e_ := at_is hx6 hx0; subst e_)); rw [fold_take hx0]; first | (rw [if_pos (by unfold inL; simp_all), ← h2, h1]; exact (set_yes hin_).2.1) | (rw [if_neg (by unfold inL; simp_all)]; exact h2))⟩
                omega
            ·
              refine stX H37 3 rfl ty24 rfl rfl s19 rfl rfl rfl rfl ?_
              intro w25 (H38 : HI M w w25 [imm (.slice a6 (setMR n_ rs x2.1 x2.2).length c6) (setMR n_ rs x2.1 x2.2), imm (.slice a2 rs.length c2) rs, imm (.slice a1 (pairsM mn mr).length c1) (pairsM mn mr), box bb2 #[.int .i64 (setMN n_ x2.1 x2.2), .slice a6 (setMR n_ rs x2.1 x2.2).length c6] 24, imm (.slice a0 (newMR mn).length c0) (newMR mn), box bb1 #[.int .i64 0, .slice none 0 0] 24, box bb0 #[.int .i64 mn, .slice a_mr mr.length c_mr] 24, imm (.slice a_l l.length c_l) l, imm (.slice a_mr mr.length c_mr) mr])
              refine ta [14] (by kernel_rfl) rfl ⟨⟨_, rfl, ?_⟩, trivial⟩
              ·
                refine xt rfl s22 rfl (ta0 (by kernel_rfl) (inb_normal (nx (rg (k (mv rfl s21 (k (add rfl rfl rfl rfl (by have h_ := right_pairs rt_m; unfold I64; omega) (k (asg (v := .int .i64 ((j : Int) + 1)) rfl rfl (z ?_)))))))))))
                have H39 := H38.put (it := imm (.slice a6 (setMR n_ rs x2.1 x2.2).length c6) (setMR n_ rs x2.1 x2.2)) rfl (H38.rv 0 rfl)
                have H40 : HI M w w25 [imm (.slice a6 (setMR n_ rs x2.1 x2.2).length c6) (setMR n_ rs x2.1 x2.2), imm (.slice a1 (pairsM mn mr).length c1) (pairsM mn mr), box bb2 #[.int .i64 (setMN n_ x2.1 x2.2), .slice a6 (setMR n_ rs x2.1 x2.2).length c6] 24, imm (.slice a0 (newMR mn).length c0) (newMR mn), box bb1 #[.int .i64 0, .slice none 0 0] 24, box bb0 #[.int .i64 mn, .slice a_mr mr.length c_mr] 24, imm (.slice a_l l.length c_l) l, imm (.slice a_mr mr.length c_mr) mr] := H39.pickN [0, 3, 4, 5, 6, 7, 8, 9] (by decide) rfl
                refine loopN _ ?_ ⟨(j + 1), (setMN n_ x2.1 x2.2), (setMR n_ rs x2.1 x2.2), a6, c6, rfl, s17, s18, s19, s20, (ieq rfl (by first | rfl | omega | (push_cast; omega))), H40, (by first | assumption | omega | simp | (simp; omega)), (by (try (have e_ := at_is hx1 hx0; subst e_)); (try (have e_ := at_is hx2 hx0; subst e_)); (try (have e_ := at_is hx3 hx0; subst e_)); (try (have e_ := at_is hx4 hx0; subst e_)); (try (have e_ := at_is hx5 hx0; subst e_)); (try (have e_ := at_is hx6 hx0; subst e_)); first | exact h1 | (rw [h1]; exact (set_yes (rs := mr) hin_).1)), (by (try (have e_ := at_is hx1 hx0; subst e_)); (try (have e_ := at_is hx2 hx0; subst e_)); (try (have e_ := at_is hx3 hx0; subst e_)); (try (have e_ := at_is hx4 hx0; subst e_)); (try (have e_ := at_is hx5 hx0; subst e_)); (try (have e_ := at_is hx6 hx0; subst e_)); rw [fold_take hx0]; first | (rw [if_pos (by unfold inL; simp_all), ← h2, h1]; exact (set_yes hin_).2.1) | (rw [if_neg (by unfold inL; simp_all)]; exact h2))⟩
                omega
          ·
            refine xt rfl s22 rfl ?_
            refine ta [13] (by kernel_rfl) rfl ⟨⟨_, rfl, ?_⟩, trivial⟩
            ·
              refine xt rfl s22 rfl ?_
              refine ta [15] (by kernel_rfl) rfl ⟨⟨_, rfl, ?_⟩, trivial⟩
              ·
                refine stX H37 3 rfl ty24 rfl rfl s19 rfl rfl rfl rfl ?_
                intro w25 (H38 : HI M w w25 [imm (.slice a6 (setMR n_ rs x2.1 x2.2).length c6) (setMR n_ rs x2.1 x2.2), imm (.slice a2 rs.length c2) rs, imm (.slice a1 (pairsM mn mr).length c1) (pairsM mn mr), box bb2 #[.int .i64 (setMN n_ x2.1 x2.2), .slice a6 (setMR n_ rs x2.1 x2.2).length c6] 24, imm (.slice a0 (newMR mn).length c0) (newMR mn), box bb1 #[.int .i64 0, .slice none 0 0] 24, box bb0 #[.int .i64 mn, .slice a_mr mr.length c_mr] 24, imm (.slice a_l l.length c_l) l, imm (.slice a_mr mr.length c_mr) mr])
                refine ta0 (by kernel_rfl) (inb_normal (nx (rg (k (mv rfl s21 (k (add rfl rfl rfl rfl (by have h_ := right_pairs rt_m; unfold I64; omega) (k (asg (v := .int .i64 ((j : Int) + 1)) rfl rfl (z ?_))))))))))
                have H39 := H38.put (it := imm (.slice a6 (setMR n_ rs x2.1 x2.2).length c6) (setMR n_ rs x2.1 x2.2)) rfl (H38.rv 0 rfl)
                have H40 : HI M w w25 [imm (.slice a6 (setMR n_ rs x2.1 x2.2).length c6) (setMR n_ rs x2.1 x2.2), imm (.slice a1 (pairsM mn mr).length c1) (pairsM mn mr), box bb2 #[.int .i64 (setMN n_ x2.1 x2.2), .slice a6 (setMR n_ rs x2.1 x2.2).length c6] 24, imm (.slice a0 (newMR mn).length c0) (newMR mn), box bb1 #[.int .i64 0, .slice none 0 0] 24, box bb0 #[.int .i64 mn, .slice a_mr mr.length c_mr] 24, imm (.slice a_l l.length c_l) l, imm (.slice a_mr mr.length c_mr) mr] := H39.pickN [0, 3, 4, 5, 6, 7, 8, 9] (by decide) rfl
                refine loopN _ ?_ ⟨(j + 1), (setMN n_ x2.1 x2.2), (setMR n_ rs x2.1 x2.2), a6, c6, rfl, s17, s18, s19, s20, (ieq rfl (by first | rfl | omega | (push_cast; omega))), H40, (by first | assumption | omega | simp | (simp; omega)), (by (try (have e_ := at_is hx1 hx0; subst e_)); (try (have e_ := at_is hx2 hx0; subst e_)); (try (have e_ := at_is hx3 hx0; subst e_)); (try (have e_ := at_is hx4 hx0; subst e_)); (try (have e_ := at_is hx5 hx0; subst e_)); (try (have e_ := at_is hx6 hx0; subst e_)); first | exact h1 | (rw [h1]; exact (set_yes (rs := mr) hin_).1)), (by (try (have e_ := at_is hx1 hx0; subst e_)); (try (have e_ := at_is hx2 hx0; subst e_)); (try (have e_ := at_is hx3 hx0; subst e_)); (try (have e_ := at_is hx4 hx0; subst e_)); (try (have e_ := at_is hx5 hx0; subst e_)); (try (have e_ := at_is hx6 hx0; subst e_)); rw [fold_take hx0]; first | (rw [if_pos (by unfold inL; simp_all), ← h2, h1]; exact (set_yes hin_).2.1) | (rw [if_neg (by unfold inL; simp_all)]; exact h2))⟩
                omega
      ·
        have p2 := of_decide_eq_false b2
        refine sk (inb_normal (nx (rg (k (mv rfl s4 (k (add rfl rfl rfl rfl (by have h_ := right_pairs rt_m; unfold I64; omega) (k (asg (v := .int .i64 ((j : Int) + 1)) rfl rfl (z ?_))))))))))
        have H14 := H13.put (it := imm (.slice a2 rs.length c2) rs) rfl (H13.rv 0 rfl)
        have H15 : HI M w w8 [imm (.slice a2 rs.length c2) rs, imm (.slice a1 (pairsM mn mr).length c1) (pairsM mn mr), box bb2 #[.int .i64 n_, .slice a2 rs.length c2] 24, imm (.slice a0 (newMR mn).length c0) (newMR mn), box bb1 #[.int .i64 0, .slice none 0 0] 24, box bb0 #[.int .i64 mn, .slice a_mr mr.length c_mr] 24, imm (.slice a_l l.length c_l) l, imm (.slice a_mr mr.length c_mr) mr] := H14.pickN [0, 2, 3, 4, 5, 6, 7, 8] (by decide) rfl
        refine loopN _ ?_ ⟨(j + 1), n_, rs, a2, c2, rfl, s0, s1, s2, s3, (ieq rfl (by first | rfl | omega | (push_cast; omega))), H15, (by first | assumption | omega | simp | (simp; omega)), (by (try (have e_ := at_is hx1 hx0; subst e_)); (try (have e_ := at_is hx2 hx0; subst e_)); (try (have e_ := at_is hx3 hx0; subst e_)); (try (have e_ := at_is hx4 hx0; subst e_)); (try (have e_ := at_is hx5 hx0; subst e_)); (try (have e_ := at_is hx6 hx0; subst e_)); first | exact h1 | (rw [h1]; exact (set_yes (rs := mr) hin_).1)), (by (try (have e_ := at_is hx1 hx0; subst e_)); (try (have e_ := at_is hx2 hx0; subst e_)); (try (have e_ := at_is hx3 hx0; subst e_)); (try (have e_ := at_is hx4 hx0; subst e_)); (try (have e_ := at_is hx5 hx0; subst e_)); (try (have e_ := at_is hx6 hx0; subst e_)); rw [fold_take hx0]; first | (rw [if_pos (by unfold inL; simp_all), ← h2, h1]; exact (set_yes hin_).2.1) | (rw [if_neg (by unfold inL; simp_all)]; exact h2))⟩
        omega
    · -- decide (x0.1 ∈ l) is False
      have p1 := of_decide_eq_false b1
      refine k (gn rfl rfl rfl b1 (k (gn rfl rfl rfl b1 (k (gn rfl rfl rfl b1 (k (gn rfl rfl rfl b1 (k (gn rfl rfl rfl b1 (k (gn rfl rfl rfl b1 (k (gn rfl rfl rfl b1 (k (pickF rfl rfl rfl rfl b1 rfl (z (nx (cdF rfl rfl rfl (sk (inb_normal (nx (rg (k (mv rfl s4 (k (add rfl rfl rfl rfl (by have h_ := right_pairs rt_m; unfold I64; omega) (k (asg (v := .int .i64 ((j : Int) + 1)) rfl rfl (z ?_)))))))))))))))))))))))))))))
      have H13 := H12.put (it := imm (.slice a2 rs.length c2) rs) rfl (H12.rv 0 rfl)
      have H14 : HI M w w7 [imm (.slice a2 rs.length c2) rs, imm (.slice a1 (pairsM mn mr).length c1) (pairsM mn mr), box bb2 #[.int .i64 n_, .slice a2 rs.length c2] 24, imm (.slice a0 (newMR mn).length c0) (newMR mn), box bb1 #[.int .i64 0, .slice none 0 0] 24, box bb0 #[.int .i64 mn, .slice a_mr mr.length c_mr] 24, imm (.slice a_l l.length c_l) l, imm (.slice a_mr mr.length c_mr) mr] := H13.pickN [0, 2, 3, 4, 5, 6, 7, 8] (by decide) rfl
      refine loopN _ ?_ ⟨(j + 1), n_, rs, a2, c2, rfl, s0, s1, s2, s3, (ieq rfl (by first | rfl | omega | (push_cast; omega))), H14, (by first | assumption | omega | simp | (simp; omega)), (by (try (have e_ := at_is hx1 hx0; subst e_)); (try (have e_ := at_is hx2 hx0; subst e_)); (try (have e_ := at_is hx3 hx0; subst e_)); (try (have e_ := at_is hx4 hx0; subst e_)); (try (have e_ := at_is hx5 hx0; subst e_)); (try (have e_ := at_is hx6 hx0; subst e_)); first | exact h1 | (rw [h1]; exact (set_yes (rs := mr) hin_).1)), (by (try (have e_ := at_is hx1 hx0; subst e_)); (try (have e_ := at_is hx2 hx0; subst e_)); (try (have e_ := at_is hx3 hx0; subst e_)); (try (have e_ := at_is hx4 hx0; subst e_)); (try (have e_ := at_is hx5 hx0; subst e_)); (try (have e_ := at_is hx6 hx0; subst e_)); rw [fold_take hx0]; first | (rw [if_pos (by unfold inL; simp_all), ← h2, h1]; exact (set_yes hin_).2.1) | (rw [if_neg (by unfold inL; simp_all)]; exact h2))⟩
      omega
  ·
    have p0 := of_decide_eq_false b0
    refine ex (then_exit (loop_exit (inb_here (nx (sq (rg (k (ldX H11 2 rfl ty24 rfl s2 (by decide) rfl (k (stX H11 4 rfl ty24 rfl rfl s1 rfl rfl rfl rfl ?_))))))))))
    intro w7 (H12 : HI M w w7 [imm (.slice a2 rs.length c2) rs, imm (.slice a1 (pairsM mn mr).length c1) (pairsM mn mr), box bb2 #[.int .i64 n_, .slice a2 rs.length c2] 24, imm (.slice a0 (newMR mn).length c0) (newMR mn), box bb1 #[.int .i64 n_, .slice a2 rs.length c2] 24, box bb0 #[.int .i64 mn, .slice a_mr mr.length c_mr] 24, imm (.slice a_l l.length c_l) l, imm (.slice a_mr mr.length c_mr) mr])
    refine z (nx (rt (rc1 H12 4 rfl ty24 rfl rfl s1 rfl (by decide) ?_)))
    have e0 : (n_ : Int) = mn := by exact h1
    have e1 : (rs : List (List (BitVec 64))) = withinM mn mr l := by rw [h2, take_end (by omega)]; exact within_fold rt_m l
    have ev_ := cg2 (fun (x_0 : Int) (x_1 : List (List (BitVec 64))) => (.agg #[.int .i64 x_0, .slice a2 x_1.length c2] : Value)) e0 e1
    exact ⟨a2, c2, ev_, H12.below, (congrArg (fun (x_ : List (List (BitVec 64))) => RV _ _ (.slice a2 x_.length c2) x_) e1).mp (H12.gives_out 0 rfl)⟩
end Go.Proofs.YtmhopljngkgidaaDoor
namespace Go.Proofs.YtmhopljngkgidaaDoor
open Go.Ew Go.RowKit
set_option linter.unusedVariables false
set_option linter.unusedSimpArgs false
attribute [local irreducible] WL WC SO Code.wp wpList retQ Ret
attribute [local irreducible] bitB hasW inR hasR setR countW countR subR words newR listR orR firstW tab8

/- eyewitness/hull.Within -/
set_option maxRecDepth 100000 in
set_option maxHeartbeats 1600000 in
theorem hull_Within {M : Nat → Prop} {w : World} {mn : Int} {a_mr : Option Addr} {c_mr : Nat} {mr : List (List (BitVec 64))} {a_l : Option Addr} {c_l : Nat} {l : List Int} (hM : ∀ b, M b → b < w.heap.size) (h_mn : I64 mn) (h_mr : RV M w (.slice a_mr mr.length c_mr) mr) (h_l : RV M w (.slice a_l l.length c_l) l) (rt_m : rightS mn mr = true) (hln_l : l.length ≤ 1000000000) : Calls Tryd.prog 34 #[.agg #[.int .i64 mn, .slice a_mr mr.length c_mr], .slice a_l l.length c_l] w (Ret fun v w' => ∃ (a0 : Option Addr) (c0 : Nat), v = .agg #[.int .i64 mn, .slice a0 (withinM mn mr l).length c0] ∧ Ext w w' ∧ OwnsG M 73 w (withinM mn mr l) (.slice a0 (withinM mn mr l).length c0) w') := by
  refine enter 73 Tryd.func34 rfl rfl rfl fun f0 ha => ?_
  have H := HI.start (M0 := M) (w := w) hM
  have H0 := H.put (it := imm (.slice a_mr mr.length c_mr) mr) rfl (by rw [MS_nil]; exact h_mr)
  have H1 := H0.put (it := imm (.slice a_l l.length c_l) l) rfl (by rw [MS_cons_none rfl, MS_nil]; exact h_l)
  have ln_mr := rv_len h_mr
  have ln_l := rv_len h_l
  have i0 : f0 0 = .agg #[.int .i64 mn, .slice a_mr mr.length c_mr] := ha 0 (by simp)
  have i1 : f0 1 = .slice a_l l.length c_l := ha 1 (by simp)
  have hl_ := (right_sq rt_m).1; have h4_ := (right_sq rt_m).2.2.1; have h0_ := right_pos rt_m
  refine sq (rg (k (bx H1 rfl i0 ?_)))
  intro bb0 w0 xt0 (H2 : HI M w w0 [box bb0 #[.int .i64 mn, .slice a_mr mr.length c_mr] 24, imm (.slice a_l l.length c_l) l, imm (.slice a_mr mr.length c_mr) mr])
  refine k (al H2 ty24 ?_)
  intro bb1 w1 xt1 (H3 : HI M w w1 [box bb1 #[.int .i64 0, .slice none 0 0] 24, box bb0 #[.int .i64 mn, .slice a_mr mr.length c_mr] 24, imm (.slice a_l l.length c_l) l, imm (.slice a_mr mr.length c_mr) mr])
  refine z (nx (sq (rg (k (fa fl24_0 rfl rfl (k (ldX H3 1 rfl ty3 rfl rfl (by decide) rfl (k ?_))))))))
  have cc0 := row_New (n := mn) (w := w1) H3.mb (by unfold I64 at *; omega) (by omega)
  refine ca go78 rfl (ec rfl e0) cc0 ?_
  rintro _ w2 ⟨a0, c0, rfl, xt2, rv0⟩
  have H4 := H3.ownsG rv0
  refine k (asg (v := .slice a0 (newR mn).length c0) rfl rfl (z (nx (sq (sq (rg (k (mv rfl i1 (k (lnS rfl rfl un42 (k (mv (v := .int .i64 0) rfl rfl (z (nx (bk ?_)))))))))))))))
  have H5 := H4.freeze 0 rfl
  have H6 := H5.put (it := imm (.slice a0 (newR mn).length c0) (newR mn)) rfl (H5.rv 0 rfl)
  refine lp (fun m f w' => ∃ (q : Nat) (msk : List (BitVec 64)) (a1 : Option Addr) (c1 : Nat), m = l.length - q ∧ f 2 = .pointer (some ⟨bb0, 0, none⟩) ∧ f 4 = .pointer (some ⟨bb1, 0, none⟩) ∧ f 5 = .slice a1 msk.length c1 ∧ f 16 = .slice a_l l.length c_l ∧ f 17 = .int .i64 (l.length : Int) ∧ f 18 = .int .i64 (q : Int) ∧  HI M w w' [imm (.slice a1 msk.length c1) msk, imm (.slice a0 (newR mn).length c0) (newR mn), box bb1 #[.int .i64 0, .slice none 0 0] 24, box bb0 #[.int .i64 mn, .slice a_mr mr.length c_mr] 24, imm (.slice a_l l.length c_l) l, imm (.slice a_mr mr.length c_mr) mr] ∧ (q ≤ l.length) ∧ (msk = maskP mn.toNat (l.take q))) _ ⟨0, (newR mn), a0, c0, rfl, rfl, rfl, rfl, rfl, rfl, (ieq rfl (by first | rfl | omega | simp)), H6, (by first | assumption | omega | simp | (simp; omega)), (by exact msk_zero h0_ l)⟩ ?_
  rintro _ f0 w3 ⟨q, msk, a1, c1, rfl, s0, s1, s2, s3, s4, s5, H7, hq_, hm⟩
  refine sq (rg (k (lss rfl rfl s5 s4 (z (nx (sq ?_))))))
  refine cd (b := decide ((q : Int) < (l.length : Int))) rfl rfl (fun b0 => ?_) (fun b0 => ?_)
  ·
    have p0 := of_decide_eq_true b0
    refine sk (nx (sq (bk (sq (rg (k (ia (H7.rv 4 rfl) rfl rfl s3 s5 (by first | omega | (simp; omega)) un42 ty3 ?_)))))))
    intro ad0 x0 hx0 hA0
    refine k (ldI hA0.w ty3 rfl rfl ?_)
    intro rv1
    refine k (asg (v := .int .i64 x0) rfl rfl (z (nx (sq (rg (k (mv (v := .int .i64 x0) rfl rfl (k (fa fl24_0 rfl s0 (k (ldX H7 3 rfl ty3 rfl rfl (by decide) rfl (k (lss rfl rfl rfl rfl (z (nx ?_)))))))))))))))
    refine cd (b := decide (x0 < mn)) rfl rfl (fun b1 => ?_) (fun b1 => ?_)
    ·
      have p1 := of_decide_eq_true b1
      refine rg (k (mv rfl s2 (k (mv (v := .int .i64 x0) rfl rfl (k ?_)))))
      have cc1 := row_Set (r := msk) (i := x0) (w := w3) H7.mb (H7.rv 0 rfl) (by unfold I64 at *; omega) (by rw [hm, maskP_len h0_]; have h_ := words_le h4_; omega)
      refine ca go63 rfl (ec rfl (ec rfl e0)) cc1 ?_
      rintro _ w4 ⟨a2, c2, rfl, xt3, rv2⟩
      have H8 := H7.ownsG rv2
      refine k (asg (v := .slice a2 (setR msk x0).length c2) rfl rfl (z (inb_normal (nx (rg (k (add rfl rfl s5 rfl (by unfold I64 at *; omega) (k (mv (v := .int .i64 ((q : Int) + 1)) rfl rfl (z ?_))))))))))
      have H9 := H8.freeze 0 rfl
      have H10 := H9.put (it := imm (.slice a2 (setR msk x0).length c2) (setR msk x0)) rfl (H9.rv 0 rfl)
      have H11 : HI M w w4 [imm (.slice a2 (setR msk x0).length c2) (setR msk x0), imm (.slice a0 (newR mn).length c0) (newR mn), box bb1 #[.int .i64 0, .slice none 0 0] 24, box bb0 #[.int .i64 mn, .slice a_mr mr.length c_mr] 24, imm (.slice a_l l.length c_l) l, imm (.slice a_mr mr.length c_mr) mr] := H10.pickN [0, 3, 4, 5, 6, 7] (by decide) rfl
      refine loopN _ ?_ ⟨(q + 1), (setR msk x0), a2, c2, rfl, s0, s1, rfl, s3, s4, (ieq rfl (by first | rfl | omega | (push_cast; omega))), H11, (by first | assumption | omega | simp | (simp; omega)), (by first | exact msk_yes hm hx0 (by omega) | exact msk_no hm hx0 (by omega))⟩
      omega
    ·
      have p1 := of_decide_eq_false b1
      refine sk (inb_normal (nx (rg (k (add rfl rfl s5 rfl (by unfold I64 at *; omega) (k (mv (v := .int .i64 ((q : Int) + 1)) rfl rfl (z ?_))))))))
      have H8 := H7.put (it := imm (.slice a1 msk.length c1) msk) rfl (H7.rv 0 rfl)
      have H9 : HI M w w3 [imm (.slice a1 msk.length c1) msk, imm (.slice a0 (newR mn).length c0) (newR mn), box bb1 #[.int .i64 0, .slice none 0 0] 24, box bb0 #[.int .i64 mn, .slice a_mr mr.length c_mr] 24, imm (.slice a_l l.length c_l) l, imm (.slice a_mr mr.length c_mr) mr] := H8.pickN [0, 2, 3, 4, 5, 6] (by decide) rfl
      refine loopN _ ?_ ⟨(q + 1), msk, a1, c1, rfl, s0, s1, s2, s3, s4, (ieq rfl (by first | rfl | omega | (push_cast; omega))), H9, (by first | assumption | omega | simp | (simp; omega)), (by first | exact msk_yes hm hx0 (by omega) | exact msk_no hm hx0 (by omega))⟩
      omega
  ·
    have p0 := of_decide_eq_false b0
    refine ex (then_exit (loop_exit (inb_here (nx (sq ?_)))))
    have hm2_ : msk = maskP mn.toNat l := by rw [hm, take_end (by omega)]
    refine rg (k (fa fl24_0 rfl s0 (k (ldX H7 3 rfl ty3 rfl rfl (by decide) rfl (k ?_)))))
    have cc1 := mat_NewR (n := mn) (w := w3) H7.mb (by unfold I64 at *; omega) (by exact right_pos rt_m) (by exact (right_sq rt_m).2.2.1)
    refine ca go61 rfl (ec rfl e0) cc1 ?_
    rintro _ w4 ⟨a2, c2, ss0, rfl, xt3, rv1⟩
    have H8 := H7.ownsR rv1
    have H9 : HI M w w4 ([own w.heap.size 73 (.slice a2 mn.toNat c2) ss0, imm (.slice a1 msk.length c1) msk, imm (.slice a0 (newR mn).length c0) (newR mn), box bb1 #[.int .i64 0, .slice none 0 0] 24, box bb0 #[.int .i64 mn, .slice a_mr mr.length c_mr] 24, imm (.slice a_l l.length c_l) l, imm (.slice a_mr mr.length c_mr) mr] ++ rowItems w.heap.size 77 ss0 (List.replicate mn.toNat (newR mn))) := H8
    have ssl0 := rv1.1
    refine k (mv (v := .tuple #[.agg #[.int .i64 mn, .slice a2 mn.toNat c2], .int .i64 0]) rfl rfl (k (xt rfl rfl rfl (k (xt rfl rfl rfl (k (al H9 ty24 ?_)))))))
    intro bb2 w5 xt4 (H10 : HI M w w5 ([box bb2 #[.int .i64 0, .slice none 0 0] 24, own w.heap.size 73 (.slice a2 mn.toNat c2) ss0, imm (.slice a1 msk.length c1) msk, imm (.slice a0 (newR mn).length c0) (newR mn), box bb1 #[.int .i64 0, .slice none 0 0] 24, box bb0 #[.int .i64 mn, .slice a_mr mr.length c_mr] 24, imm (.slice a_l l.length c_l) l, imm (.slice a_mr mr.length c_mr) mr] ++ rowItems w.heap.size 77 ss0 (List.replicate mn.toNat (newR mn))))
    refine k (stX H10 0 rfl ty24 rfl rfl rfl rfl rfl rfl rfl ?_)
    intro w6 (H11 : HI M w w6 ([box bb2 #[.int .i64 mn, .slice a2 mn.toNat c2] 24, own w.heap.size 73 (.slice a2 mn.toNat c2) ss0, imm (.slice a1 msk.length c1) msk, imm (.slice a0 (newR mn).length c0) (newR mn), box bb1 #[.int .i64 0, .slice none 0 0] 24, box bb0 #[.int .i64 mn, .slice a_mr mr.length c_mr] 24, imm (.slice a_l l.length c_l) l, imm (.slice a_mr mr.length c_mr) mr] ++ rowItems w.heap.size 77 ss0 (List.replicate mn.toNat (newR mn))))
    refine k (asg (v := .int .i64 0) rfl rfl (z (nx (sq (sq (rg (k (fa fl24_1 rfl rfl (k (ldX H11 0 rfl ty22 rfl rfl (by decide) rfl (k (lnS rfl rfl un22 (k (mv (v := .int .i64 0) rfl rfl (z (nx (bk ?_)))))))))))))))))
    refine lp (fun m f w' => ∃ (i : Nat) (xs : List (List (BitVec 64))), m = mn.toNat - i ∧ f 2 = .pointer (some ⟨bb0, 0, none⟩) ∧ f 4 = .pointer (some ⟨bb1, 0, none⟩) ∧ f 5 = .slice a1 msk.length c1 ∧ f 8 = .pointer (some ⟨bb2, 0, none⟩) ∧ f 38 = .int .i64 (mn.toNat : Int) ∧ f 39 = .int .i64 (i : Int) ∧  HI M w w' ([box bb2 #[.int .i64 mn, .slice a2 mn.toNat c2] 24, own w.heap.size 73 (.slice a2 mn.toNat c2) ss0, imm (.slice a1 msk.length c1) msk, imm (.slice a0 (newR mn).length c0) (newR mn), box bb1 #[.int .i64 0, .slice none 0 0] 24, box bb0 #[.int .i64 mn, .slice a_mr mr.length c_mr] 24, imm (.slice a_l l.length c_l) l, imm (.slice a_mr mr.length c_mr) mr] ++ rowItems w.heap.size 77 ss0 xs) ∧ (i ≤ mn.toNat) ∧ (ss0.length = xs.length) ∧ (xs = matP mn.toNat (wiT (relM mr) l i)) ∧ (xs.length = mn.toNat)) _ ⟨0, (List.replicate mn.toNat (newR mn)), rfl, s0, s1, s2, rfl, rfl, (ieq rfl (by first | rfl | omega | simp)), H11, (by first | assumption | omega | simp | (simp; omega)), (by first | exact ssl0 | exact ssl1), (by exact wi_start rt_m), (by simp)⟩ ?_
    rintro _ f1 w7 ⟨i, xs, rfl, s6, s7, s8, s9, s10, s11, H12, hi_, hl, hs, hxl⟩
    refine sq (rg (k (lss rfl rfl s11 s10 (z (nx (sq ?_))))))
    refine cd (b := decide ((i : Int) < (mn.toNat : Int))) rfl rfl (fun b1 => ?_) (fun b1 => ?_)
    ·
      have p1 := of_decide_eq_true b1
      refine sk (nx (sq (bk (sq (rg (k (mv rfl s11 (k (asg (v := .int .i64 (i : Int)) rfl rfl (z (nx (sq (sq (rg (k (mv rfl s8 (k (mv (v := .int .i64 (i : Int)) rfl rfl (k ?_)))))))))))))))))))
      have cc2 := row_Has (r := msk) (i := (i : Int)) (w := w7) H12.mb (H12.rv 2 rfl) (by unfold I64 at *; omega)
      refine ca go67 rfl (ec rfl (ec rfl e0)) cc2 ?_
      rintro _ w8 ⟨rfl, xt5⟩
      have H13 := H12.ext xt5
      refine k (not_ rfl rfl (z (nx ?_)))
      refine cd (b := !(hasR msk (i : Int))) rfl rfl (fun b2 => ?_) (fun b2 => ?_)
      ·
        refine ex (then_exit (inb_here (nx (rg (k (add rfl rfl s11 rfl (by unfold I64 at *; omega) (k (mv (v := .int .i64 ((i : Int) + 1)) rfl rfl (z ?_)))))))))
        refine loopN _ ?_ ⟨(i + 1), xs, rfl, s6, s7, s8, s9, s10, (ieq rfl (by first | rfl | omega | (push_cast; omega))), H13, (by first | assumption | omega | simp | (simp; omega)), (by first | exact hl | exact hl2), (by first | exact wi_skip rt_m hs hm2_ (by omega) (by simpa using b2) | exact wi_next rt_m hs hs2 hx0 hm2_ (by simpa using b2) (by omega)), (by first | exact hxl | exact hyl)⟩
        omega
      ·
        refine sk (nx (sq (rg (k (fa fl24_1 rfl s6 (k (ldX H13 5 rfl ty22 rfl rfl (by decide) rfl (k (mv (v := .int .i64 (i : Int)) rfl rfl (k (ia (H13.rv 7 rfl) rfl rfl rfl rfl (by first | omega | (simp; omega)) un22 ty73 ?_)))))))))))
        intro ad0 x0 hx0 hA0
        refine k (ldL hA0.w ty73 rfl rfl ?_)
        intro a3 c3 rv2
        have ln0 := rv_len rv2
        have H14 := H13.put (it := imm (.slice a3 x0.length c3) x0) rfl rv2
        have H15 : HI M w w8 ([imm (.slice a3 x0.length c3) x0, box bb2 #[.int .i64 mn, .slice a2 mn.toNat c2] 24, own w.heap.size 73 (.slice a2 mn.toNat c2) ss0, imm (.slice a1 msk.length c1) msk, imm (.slice a0 (newR mn).length c0) (newR mn), box bb1 #[.int .i64 0, .slice none 0 0] 24, box bb0 #[.int .i64 mn, .slice a_mr mr.length c_mr] 24, imm (.slice a_l l.length c_l) l, imm (.slice a_mr mr.length c_mr) mr] ++ rowItems w.heap.size 77 ss0 xs) := H14
        refine k (lnS rfl rfl un73 (k (mv (v := .int .i64 0) rfl rfl (z (nx (bk ?_))))))
        refine lp (fun m f w' => ∃ (k_ : Nat) (ys : List (List (BitVec 64))), m = x0.length - k_ ∧ f 2 = .pointer (some ⟨bb0, 0, none⟩) ∧ f 4 = .pointer (some ⟨bb1, 0, none⟩) ∧ f 5 = .slice a1 msk.length c1 ∧ f 8 = .pointer (some ⟨bb2, 0, none⟩) ∧ f 10 = .int .i64 (i : Int) ∧ f 38 = .int .i64 (mn.toNat : Int) ∧ f 39 = .int .i64 (i : Int) ∧ f 50 = .slice a3 x0.length c3 ∧ f 51 = .int .i64 (x0.length : Int) ∧ f 52 = .int .i64 (k_ : Int) ∧  HI M w w' ([imm (.slice a3 x0.length c3) x0, box bb2 #[.int .i64 mn, .slice a2 mn.toNat c2] 24, own w.heap.size 73 (.slice a2 mn.toNat c2) ss0, imm (.slice a1 msk.length c1) msk, imm (.slice a0 (newR mn).length c0) (newR mn), box bb1 #[.int .i64 0, .slice none 0 0] 24, box bb0 #[.int .i64 mn, .slice a_mr mr.length c_mr] 24, imm (.slice a_l l.length c_l) l, imm (.slice a_mr mr.length c_mr) mr] ++ rowItems w.heap.size 77 ss0 ys) ∧ (k_ ≤ x0.length) ∧ (ss0.length = ys.length) ∧ (ys = xs.set i (andTo x0 msk k_)) ∧ (ys.length = mn.toNat)) _ ⟨0, xs, rfl, s6, s7, s8, s9, rfl, s10, s11, rfl, rfl, (ieq rfl (by first | rfl | omega | simp)), H15, (by first | assumption | omega | simp | (simp; omega)), (by exact hl), (by exact wi_in rt_m hs hx0), (by exact hxl)⟩ ?_
        rintro _ f2 w9 ⟨k_, ys, rfl, s12, s13, s14, s15, s16, s17, s18, s19, s20, s21, H16, hk_, hl2, hs2, hyl⟩
        refine sq (rg (k (lss rfl rfl s21 s20 (z (nx (sq ?_))))))
        refine cd (b := decide ((k_ : Int) < (x0.length : Int))) rfl rfl (fun b3 => ?_) (fun b3 => ?_)
        ·
          have p3 := of_decide_eq_true b3
          refine sk (nx (sq (bk (sq ?_))))
          have ml_ : msk.length = x0.length := by rw [hm2_, maskP_len h0_, right_row_len rt_m hx0]
          refine rg (k (mv rfl s21 (k (ia (H16.rv 0 rfl) rfl rfl s19 s21 (by first | omega | (have h_ := congrArg List.length (wi_row rt_m hs hs2 hx0 hr0); rw [andTo_len] at h_; omega)) un73 ty77 ?_))))
          intro ad1 x1 hx1 hA1
          refine k (ldU hA1.w ty77 rfl rfl (k (asg (v := .int .i64 (k_ : Int)) rfl rfl (k (asg (v := U x1) rfl rfl (z (nx ?_)))))))
          obtain ⟨a4, x2, c4, hs0, hr0⟩ := row_get (i := (i : Int).toNat) H16 (by first | assumption | (simp only [List.length_set]; assumption) | (simp only [List.length_set, List.length_replicate] at *; omega)) (by omega)
          obtain ⟨x4, hx3⟩ : ∃ x, msk[(k_ : Int).toNat]? = some x := ⟨_, List.getElem?_eq_getElem (by first | omega | (simp; omega))⟩
          refine dr 12 [fun (v : Value) (w' : World) => v = .pointer (some ⟨bb2, 1, none⟩), fun (v : Value) (w' : World) => v = .slice a2 mn.toNat c2, fun (v : Value) (w' : World) => v = .int .i64 (i : Int), fun (v : Value) (w' : World) => ∃ (g0 : Nat), v = .pointer (some ⟨g0, (i : Int).toNat * 1, none⟩) ∧ (.slice a2 mn.toNat c2 : Value).ownBlock = some g0 ∧ AtW (MS M ([imm (.slice a3 x0.length c3) x0, box bb2 #[.int .i64 mn, .slice a2 mn.toNat c2] 24, own w.heap.size 73 (.slice a2 mn.toNat c2) ss0, imm (.slice a1 msk.length c1) msk, imm (.slice a0 (newR mn).length c0) (newR mn), box bb1 #[.int .i64 0, .slice none 0 0] 24, box bb0 #[.int .i64 mn, .slice a_mr mr.length c_mr] 24, imm (.slice a_l l.length c_l) l, imm (.slice a_mr mr.length c_mr) mr] ++ rowItems w.heap.size 77 ss0 ys)) w' ⟨g0, (i : Int).toNat * 1, none⟩ (⟨a4, x2.length, c4⟩ : SV), fun (v : Value) (w' : World) => v = .slice a4 x2.length c4, fun (v : Value) (w' : World) => v = .int .i64 (k_ : Int), fun (v : Value) (w' : World) => v = U x1, fun (v : Value) (w' : World) => v = .slice a1 msk.length c1, fun (v : Value) (w' : World) => v = .int .i64 (k_ : Int), fun (v : Value) (w' : World) => ∃ (ad2 : Addr), v = .pointer (some ad2) ∧ At (MS M ([imm (.slice a3 x0.length c3) x0, box bb2 #[.int .i64 mn, .slice a2 mn.toNat c2] 24, own w.heap.size 73 (.slice a2 mn.toNat c2) ss0, imm (.slice a1 msk.length c1) msk, imm (.slice a0 (newR mn).length c0) (newR mn), box bb1 #[.int .i64 0, .slice none 0 0] 24, box bb0 #[.int .i64 mn, .slice a_mr mr.length c_mr] 24, imm (.slice a_l l.length c_l) l, imm (.slice a_mr mr.length c_mr) mr] ++ rowItems w.heap.size 77 ss0 ys)) w' ad2 x4, fun (v : Value) (w' : World) => v = U x4, fun (v : Value) (w' : World) => v = U (x1 &&& x4)] rfl (by kernel_rfl) ?_ ?_
          ·
            refine ⟨fun _ => ⟨fun f3 w10 hf0 xt6 hp0 => ?_, fun _ _ _ _ h => h⟩, ?_⟩
            ·
              have H17 := H16.ext xt6
              refine fa fl24_1 rfl ((hf0 8 rfl).trans s15) ?_
              exact ⟨_, rfl, Ext.refl _, rfl⟩
            refine ⟨fun _ => ⟨fun f4 w11 hf1 xt7 hp1 => ?_, fun _ _ _ _ h => h⟩, ?_⟩
            ·
              have H18 := H16.ext xt7
              have s22 : f4 57 = .pointer (some ⟨bb2, 1, none⟩) := hp1 0 rfl rfl
              refine ldX H18 1 rfl ty22 rfl s22 (by decide) rfl ?_
              exact ⟨_, rfl, Ext.refl _, rfl⟩
            refine ⟨fun _ => ⟨fun f5 w12 hf2 xt8 hp2 => ?_, fun _ _ _ _ h => h⟩, ?_⟩
            ·
              have H19 := H16.ext xt8
              refine mv rfl ((hf2 10 rfl).trans s16) ?_
              exact ⟨_, rfl, Ext.refl _, rfl⟩
            refine ⟨fun _ => ⟨fun f6 w13 hf3 xt9 hp3 => ?_, by rintro _ _ _ x_ ⟨g0, e_, hv0, hA2⟩; exact ⟨g0, e_, hv0, hA2.ext x_⟩⟩, ?_⟩
            ·
              have H20 := H16.ext xt9
              have s23 : f6 58 = .slice a2 mn.toNat c2 := hp3 1 rfl rfl
              have s24 : f6 59 = .int .i64 (i : Int) := hp3 2 rfl rfl
              refine iaO (H20.at_ 2 rfl) rfl rfl s23 s24 (by first | omega | (simp; omega)) un22 ty73 ?_
              intro g1 x5 hv1 hx4 hA4
              obtain rfl : (⟨a4, x2.length, c4⟩ : SV) = x5 := Option.some.inj (hs0.symm.trans hx4)
              exact ⟨_, rfl, Ext.refl _, ⟨g1, rfl, hv1, hA4⟩⟩
            refine ⟨fun _ => ⟨fun f7 w14 hf4 xt10 hp4 => ?_, fun _ _ _ _ h => h⟩, ?_⟩
            ·
              have H21 := H16.ext xt10
              obtain ⟨g2, s25, hv2, hA5⟩ : ∃ (g2 : Nat), f7 60 = .pointer (some ⟨g2, (i : Int).toNat * 1, none⟩) ∧ (.slice a2 mn.toNat c2 : Value).ownBlock = some g2 ∧ AtW (MS M ([imm (.slice a3 x0.length c3) x0, box bb2 #[.int .i64 mn, .slice a2 mn.toNat c2] 24, own w.heap.size 73 (.slice a2 mn.toNat c2) ss0, imm (.slice a1 msk.length c1) msk, imm (.slice a0 (newR mn).length c0) (newR mn), box bb1 #[.int .i64 0, .slice none 0 0] 24, box bb0 #[.int .i64 mn, .slice a_mr mr.length c_mr] 24, imm (.slice a_l l.length c_l) l, imm (.slice a_mr mr.length c_mr) mr] ++ rowItems w.heap.size 77 ss0 ys)) w14 ⟨g2, (i : Int).toNat * 1, none⟩ (⟨a4, x2.length, c4⟩ : SV) := hp4 3 rfl rfl
              refine ldV hA5 ty73 rfl s25 ?_
              exact ⟨_, rfl, Ext.refl _, rfl⟩
            refine ⟨fun _ => ⟨fun f8 w15 hf5 xt11 hp5 => ?_, fun _ _ _ _ h => h⟩, ?_⟩
            ·
              have H22 := H16.ext xt11
              refine mv rfl (hf5 11 rfl) ?_
              exact ⟨_, rfl, Ext.refl _, rfl⟩
            refine ⟨fun _ => ⟨fun f9 w16 hf6 xt12 hp6 => ?_, fun _ _ _ _ h => h⟩, ?_⟩
            ·
              have H23 := H16.ext xt12
              refine mv rfl (hf6 12 rfl) ?_
              exact ⟨_, rfl, Ext.refl _, rfl⟩
            refine ⟨fun _ => ⟨fun f10 w17 hf7 xt13 hp7 => ?_, fun _ _ _ _ h => h⟩, ?_⟩
            ·
              have H24 := H16.ext xt13
              refine mv rfl ((hf7 5 rfl).trans s14) ?_
              exact ⟨_, rfl, Ext.refl _, rfl⟩
            refine ⟨fun _ => ⟨fun f11 w18 hf8 xt14 hp8 => ?_, fun _ _ _ _ h => h⟩, ?_⟩
            ·
              have H25 := H16.ext xt14
              refine mv rfl (hf8 11 rfl) ?_
              exact ⟨_, rfl, Ext.refl _, rfl⟩
            refine ⟨fun _ => ⟨fun f12 w19 hf9 xt15 hp9 => ?_, by rintro _ _ _ x_ ⟨ad2, e_, hA3⟩; exact ⟨ad2, e_, hA3.lift (Up.ext x_)⟩⟩, ?_⟩
            ·
              have H26 := H16.ext xt15
              have s26 : f12 64 = .slice a1 msk.length c1 := hp9 7 rfl rfl
              have s27 : f12 65 = .int .i64 (k_ : Int) := hp9 8 rfl rfl
              refine ia (H26.rv 3 rfl) rfl rfl s26 s27 (by first | omega | (simp; omega)) un73 ty77 ?_
              intro ad3 x6 hx5 hA6
              obtain rfl : x4 = x6 := Option.some.inj (hx3.symm.trans hx5)
              exact ⟨_, rfl, Ext.refl _, ⟨ad3, rfl, hA6⟩⟩
            refine ⟨fun _ => ⟨fun f13 w20 hf10 xt16 hp10 => ?_, fun _ _ _ _ h => h⟩, ?_⟩
            ·
              have H27 := H16.ext xt16
              obtain ⟨ad4, s28, hA7⟩ : ∃ (ad4 : Addr), f13 66 = .pointer (some ad4) ∧ At (MS M ([imm (.slice a3 x0.length c3) x0, box bb2 #[.int .i64 mn, .slice a2 mn.toNat c2] 24, own w.heap.size 73 (.slice a2 mn.toNat c2) ss0, imm (.slice a1 msk.length c1) msk, imm (.slice a0 (newR mn).length c0) (newR mn), box bb1 #[.int .i64 0, .slice none 0 0] 24, box bb0 #[.int .i64 mn, .slice a_mr mr.length c_mr] 24, imm (.slice a_l l.length c_l) l, imm (.slice a_mr mr.length c_mr) mr] ++ rowItems w.heap.size 77 ss0 ys)) w20 ad4 x4 := hp10 9 rfl rfl
              have H28 := H27.put (it := atI ad4 x4) rfl hA7
              have H29 : HI M w w20 ([atI ad4 x4, imm (.slice a3 x0.length c3) x0, box bb2 #[.int .i64 mn, .slice a2 mn.toNat c2] 24, own w.heap.size 73 (.slice a2 mn.toNat c2) ss0, imm (.slice a1 msk.length c1) msk, imm (.slice a0 (newR mn).length c0) (newR mn), box bb1 #[.int .i64 0, .slice none 0 0] 24, box bb0 #[.int .i64 mn, .slice a_mr mr.length c_mr] 24, imm (.slice a_l l.length c_l) l, imm (.slice a_mr mr.length c_mr) mr] ++ rowItems w.heap.size 77 ss0 ys) := H28
              refine ldU (H29.atv 0 rfl).w ty77 rfl s28 ?_
              exact ⟨_, rfl, Ext.refl _, rfl⟩
            refine ⟨fun _ => ⟨fun f14 w21 hf11 xt17 hp11 => ?_, fun _ _ _ _ h => h⟩, ?_⟩
            ·
              have H30 := H16.ext xt17
              have s29 : f14 63 = U x1 := hp11 6 rfl rfl
              have s30 : f14 67 = U x4 := hp11 10 rfl rfl
              refine andU x1 x4 rfl rfl s29 s30 ?_
              exact ⟨_, rfl, Ext.refl _, rfl⟩
            exact DSteps.rest rfl _
          · intro f15 w22 hf12 xt18 hp12
            have H31 := H16.ext xt18
            have s31 : f15 2 = .pointer (some ⟨bb0, 0, none⟩) := (hf12 2 rfl).trans s12
            have s32 : f15 4 = .pointer (some ⟨bb1, 0, none⟩) := (hf12 4 rfl).trans s13
            have s33 : f15 5 = .slice a1 msk.length c1 := (hf12 5 rfl).trans s14
            have s34 : f15 8 = .pointer (some ⟨bb2, 0, none⟩) := (hf12 8 rfl).trans s15
            have s35 : f15 10 = .int .i64 (i : Int) := (hf12 10 rfl).trans s16
            have s36 : f15 38 = .int .i64 (mn.toNat : Int) := (hf12 38 rfl).trans s17
            have s37 : f15 39 = .int .i64 (i : Int) := (hf12 39 rfl).trans s18
            have s38 : f15 50 = .slice a3 x0.length c3 := (hf12 50 rfl).trans s19
            have s39 : f15 51 = .int .i64 (x0.length : Int) := (hf12 51 rfl).trans s20
            have s40 : f15 52 = .int .i64 (k_ : Int) := (hf12 52 rfl).trans s21
            have s41 : f15 61 = .slice a4 x2.length c4 := hp12 4 rfl
            have s42 : f15 62 = .int .i64 (k_ : Int) := hp12 5 rfl
            have s43 : f15 68 = U (x1 &&& x4) := hp12 11 rfl
            refine k (iaO (H31.at_ _ (row_at hs0 hr0)) rfl rfl s41 s42 (by first | omega | (have h_ := congrArg List.length (wi_row rt_m hs hs2 hx0 hr0); rw [andTo_len] at h_; omega)) un73 ty77 ?_)
            intro g3 x7 hv3 hx6 hA8
            refine k (stO H31 _ (row_at hs0 hr0) hv3 rfl (by first | omega | (have h_ := congrArg List.length (wi_row rt_m hs hs2 hx0 hr0); rw [andTo_len] at h_; omega)) ty77 rfl rfl rfl s43 (RV.bv.2 rfl) ?_)
            intro w23 H33
            have H32 := HI.rowPut (M := fun _ => False) (it := imm (.int .i64 0) (0 : Int)) H33 hs0
            have H34 : HI M w w23 ([imm (.slice a3 x0.length c3) x0, box bb2 #[.int .i64 mn, .slice a2 mn.toNat c2] 24, own w.heap.size 73 (.slice a2 mn.toNat c2) ss0, imm (.slice a1 msk.length c1) msk, imm (.slice a0 (newR mn).length c0) (newR mn), box bb1 #[.int .i64 0, .slice none 0 0] 24, box bb0 #[.int .i64 mn, .slice a_mr mr.length c_mr] 24, imm (.slice a_l l.length c_l) l, imm (.slice a_mr mr.length c_mr) mr] ++ rowItems w.heap.size 77 ss0 (ys.set ((i : Int).toNat) (x2.set ((k_ : Int).toNat) (x1 &&& x4)))) := H32
            refine z (inb_normal (nx (rg (k (add rfl rfl s40 rfl (by unfold I64 at *; omega) (k (mv (v := .int .i64 ((k_ : Int) + 1)) rfl rfl (z ?_))))))))
            refine loopN _ ?_ ⟨(k_ + 1), (ys.set ((i : Int).toNat) (x2.set ((k_ : Int).toNat) (x1 &&& x4))), rfl, s31, s32, s33, s34, s35, s36, s37, s38, s39, (ieq rfl (by first | rfl | omega | (push_cast; omega))), H34, (by first | assumption | omega | simp | (simp; omega)), (by rw [List.length_set]; exact hl2), (by exact wi_step rt_m hs hs2 hx0 hr0 hx1 hx3), (by rw [List.length_set]; exact hyl)⟩
            omega
        ·
          have p3 := of_decide_eq_false b3
          refine ex (then_exit (loop_exit (inb_here (inb_normal (nx (rg (k (add rfl rfl s18 rfl (by unfold I64 at *; omega) (k (mv (v := .int .i64 ((i : Int) + 1)) rfl rfl (z ?_)))))))))))
          have H17 : HI M w w9 ([box bb2 #[.int .i64 mn, .slice a2 mn.toNat c2] 24, own w.heap.size 73 (.slice a2 mn.toNat c2) ss0, imm (.slice a1 msk.length c1) msk, imm (.slice a0 (newR mn).length c0) (newR mn), box bb1 #[.int .i64 0, .slice none 0 0] 24, box bb0 #[.int .i64 mn, .slice a_mr mr.length c_mr] 24, imm (.slice a_l l.length c_l) l, imm (.slice a_mr mr.length c_mr) mr] ++ rowItems w.heap.size 77 ss0 ys) := HI.pickT (l := [imm (.slice a3 x0.length c3) x0, box bb2 #[.int .i64 mn, .slice a2 mn.toNat c2] 24, own w.heap.size 73 (.slice a2 mn.toNat c2) ss0, imm (.slice a1 msk.length c1) msk, imm (.slice a0 (newR mn).length c0) (newR mn), box bb1 #[.int .i64 0, .slice none 0 0] 24, box bb0 #[.int .i64 mn, .slice a_mr mr.length c_mr] 24, imm (.slice a_l l.length c_l) l, imm (.slice a_mr mr.length c_mr) mr]) (l' := [box bb2 #[.int .i64 mn, .slice a2 mn.toNat c2] 24, own w.heap.size 73 (.slice a2 mn.toNat c2) ss0, imm (.slice a1 msk.length c1) msk, imm (.slice a0 (newR mn).length c0) (newR mn), box bb1 #[.int .i64 0, .slice none 0 0] 24, box bb0 #[.int .i64 mn, .slice a_mr mr.length c_mr] 24, imm (.slice a_l l.length c_l) l, imm (.slice a_mr mr.length c_mr) mr]) (t := rowItems w.heap.size 77 ss0 ys) H16 [1, 2, 3, 4, 5, 6, 7, 8] (by decide) rfl rfl
          refine loopN _ ?_ ⟨(i + 1), ys, rfl, s12, s13, s14, s15, s17, (ieq rfl (by first | rfl | omega | (push_cast; omega))), H17, (by first | assumption | omega | simp | (simp; omega)), (by first | exact hl | exact hl2), (by first | exact wi_skip rt_m hs hm2_ (by omega) (by simpa using b2) | exact wi_next rt_m hs hs2 hx0 hm2_ (by simpa using b2) (by omega)), (by first | exact hxl | exact hyl)⟩
          omega
    ·
      have p1 := of_decide_eq_false b1
      refine ex (then_exit (loop_exit (inb_here (nx (sq ?_)))))
      have H13 : HI M w w7 [own w.heap.size 73 (.slice a2 mn.toNat c2) xs, box bb2 #[.int .i64 mn, .slice a2 mn.toNat c2] 24, imm (.slice a1 msk.length c1) msk, imm (.slice a0 (newR mn).length c0) (newR mn), box bb1 #[.int .i64 0, .slice none 0 0] 24, box bb0 #[.int .i64 mn, .slice a_mr mr.length c_mr] 24, imm (.slice a_l l.length c_l) l, imm (.slice a_mr mr.length c_mr) mr] := HI.deep (l := [box bb2 #[.int .i64 mn, .slice a2 mn.toNat c2] 24, imm (.slice a1 msk.length c1) msk, imm (.slice a0 (newR mn).length c0) (newR mn), box bb1 #[.int .i64 0, .slice none 0 0] 24, box bb0 #[.int .i64 mn, .slice a_mr mr.length c_mr] 24, imm (.slice a_l l.length c_l) l, imm (.slice a_mr mr.length c_mr) mr]) (HI.pickT (l := [box bb2 #[.int .i64 mn, .slice a2 mn.toNat c2] 24, own w.heap.size 73 (.slice a2 mn.toNat c2) ss0, imm (.slice a1 msk.length c1) msk, imm (.slice a0 (newR mn).length c0) (newR mn), box bb1 #[.int .i64 0, .slice none 0 0] 24, box bb0 #[.int .i64 mn, .slice a_mr mr.length c_mr] 24, imm (.slice a_l l.length c_l) l, imm (.slice a_mr mr.length c_mr) mr]) (l' := [own w.heap.size 73 (.slice a2 mn.toNat c2) ss0, box bb2 #[.int .i64 mn, .slice a2 mn.toNat c2] 24, imm (.slice a1 msk.length c1) msk, imm (.slice a0 (newR mn).length c0) (newR mn), box bb1 #[.int .i64 0, .slice none 0 0] 24, box bb0 #[.int .i64 mn, .slice a_mr mr.length c_mr] 24, imm (.slice a_l l.length c_l) l, imm (.slice a_mr mr.length c_mr) mr]) (t := rowItems w.heap.size 77 ss0 xs) H12 [1, 0, 2, 3, 4, 5, 6, 7] (by decide) rfl rfl) (by first | assumption | (simp only [List.length_set]; assumption) | (simp only [List.length_set, List.length_replicate] at *; omega))
      refine rg (k (ldX H13 1 rfl ty24 rfl s9 (by decide) rfl (k (stX H13 4 rfl ty24 rfl rfl s7 rfl rfl rfl rfl ?_))))
      intro w8 (H14 : HI M w w8 [own w.heap.size 73 (.slice a2 mn.toNat c2) xs, box bb2 #[.int .i64 mn, .slice a2 mn.toNat c2] 24, imm (.slice a1 msk.length c1) msk, imm (.slice a0 (newR mn).length c0) (newR mn), box bb1 #[.int .i64 mn, .slice a2 mn.toNat c2] 24, box bb0 #[.int .i64 mn, .slice a_mr mr.length c_mr] 24, imm (.slice a_l l.length c_l) l, imm (.slice a_mr mr.length c_mr) mr])
      refine z (nx (rt (rc1 H14 4 rfl ty24 rfl rfl s7 rfl (by decide) ?_)))
      have e1 : (xs : List (List (BitVec 64))) = withinM mn mr l := by exact wi_end rt_m hs (by omega)
      have l1 : mn.toNat = (withinM mn mr l).length := by first | (rw [← e1]; omega) | (unfold withinM; rw [matP_len])
      have ev_ := cg1 (fun (n_1 : Nat) => (.agg #[.int .i64 mn, .slice a2 n_1 c2] : Value)) l1
      exact ⟨a2, c2, ev_, H14.below, (congrArg (fun (n_ : Nat) => OwnsG _ _ _ (withinM mn mr l) (.slice a2 n_ c2) _) l1).mp ((congrArg (fun (x_ : List (List (BitVec 64))) => OwnsG _ _ _ x_ (.slice a2 mn.toNat c2) _) e1).mp (H14.ownsG_out 0 rfl))⟩
end Go.Proofs.YtmhopljngkgidaaDoor
namespace Go.Proofs.YtmhopljngkgidaaDoor
open Go.Ew Go.RowKit
set_option linter.unusedVariables false
set_option linter.unusedSimpArgs false
attribute [local irreducible] WL WC SO Code.wp wpList retQ Ret
attribute [local irreducible] bitB hasW inR hasR setR countW countR subR words newR listR orR firstW tab8
theorem go68 : GoF Tryd.prog 68 := ⟨_, _, Tryd.func68, rfl, by kernel_rfl⟩
theorem go22 : GoF Tryd.prog 22 := ⟨_, _, Tryd.func22, rfl, by kernel_rfl⟩
theorem go31 : GoF Tryd.prog 31 := ⟨_, _, Tryd.func31, rfl, by kernel_rfl⟩
theorem go27 : GoF Tryd.prog 27 := ⟨_, _, Tryd.func27, rfl, by kernel_rfl⟩
theorem go23 : GoF Tryd.prog 23 := ⟨_, _, Tryd.func23, rfl, by kernel_rfl⟩
theorem go12 : GoF Tryd.prog 12 := ⟨_, _, Tryd.func12, rfl, by kernel_rfl⟩
theorem go13 : GoF Tryd.prog 13 := ⟨_, _, Tryd.func13, rfl, by kernel_rfl⟩
/- eyewitness/eyewitnesslaw04.awake -/
set_option maxRecDepth 100000 in
set_option maxHeartbeats 1600000 in
theorem awake04 {w : World} (hT : TabAt 0 w) : Calls Tryd.prog 21 #[] w (Ret fun v w' =>  v = .bool true ∧ Ext w w') := by
  refine enter 46 Tryd.func21 rfl rfl rfl fun f0 ha => ?_
  have H := HI.start (M0 := (fun _ => False)) (w := w) (fun _ h => h.elim)
  refine sq (rg (k (asg (v := .bool false) rfl rfl (z (nx (sq (rg (k (bd (v := .agg #[.int .i64 0, .int .i64 1]) rfl (pbc rfl (pbc rfl pb0)) (fun _ => by kernel_rfl) (k (bd (v := .agg #[.int .i64 1, .int .i64 2]) rfl (pbc rfl (pbc rfl pb0)) (fun _ => by kernel_rfl) (k (bs (xs := ([(0, 1), (1, 2)] : List (Int × Int))) (cells := #[.int .i64 0, .int .i64 1, .int .i64 1, .int .i64 2]) (e := 76) H rfl (pbc rfl (pbc rfl pb0)) (fun _ => by kernel_rfl) ⟨[.int .i64 0, .int .i64 1], [.int .i64 1, .int .i64 2], rfl, ⟨_, _, rfl, ⟨rfl, (show I64 (0) from (by first | (unfold I64; decide +kernel) | decide +kernel))⟩, ⟨rfl, (show I64 (1) from (by first | (unfold I64; decide +kernel) | decide +kernel))⟩⟩, ⟨[.int .i64 1, .int .i64 2], [], rfl, ⟨_, _, rfl, ⟨rfl, (show I64 (1) from (by first | (unfold I64; decide +kernel) | decide +kernel))⟩, ⟨rfl, (show I64 (2) from (by first | (unfold I64; decide +kernel) | decide +kernel))⟩⟩, rfl⟩⟩ rfl (by unfold maxLen; omega) ?_)))))))))))))
  intro g0 w0 xt0 (H0 : HI (fun _ => False) w w0 [own w.heap.size 76 (.slice (some ⟨g0, 0, none⟩) 2 2) ([(0, 1), (1, 2)] : List (Int × Int))])
  refine k ?_
  have H1 := H0.freeze 0 rfl
  have cc0 := ref03_Of (n := 3) (ps := ([(0, 1), (1, 2)] : List (Int × Int))) (w := w0) H1.mb (by first | (unfold I64; decide +kernel) | decide +kernel) (H1.rv 0 rfl)
  refine ca go68 rfl (ec rfl (ec rfl e0)) cc0 ?_
  rintro _ w1 ⟨a0, c0, rfl, xt1, rv0⟩
  have H2 := H1.ext xt1
  have H3 := H2.put (it := imm (.slice a0 (ofMR 3 ([(0, 1), (1, 2)] : List (Int × Int))).length c0) (ofMR 3 ([(0, 1), (1, 2)] : List (Int × Int)))) rfl rv0
  refine k (mv (v := .tuple #[.agg #[.int .i64 (ofMN 3 ([(0, 1), (1, 2)] : List (Int × Int))), .slice a0 (ofMR 3 ([(0, 1), (1, 2)] : List (Int × Int))).length c0], .int .i64 (ofME 3 ([(0, 1), (1, 2)] : List (Int × Int)))]) rfl rfl (k (xt rfl rfl rfl (k (xt rfl rfl rfl (k (al H3 ty24 ?_)))))))
  intro bb0 w2 xt2 (H4 : HI (fun _ => False) w w2 [box bb0 #[.int .i64 0, .slice none 0 0] 24, imm (.slice a0 (ofMR 3 ([(0, 1), (1, 2)] : List (Int × Int))).length c0) (ofMR 3 ([(0, 1), (1, 2)] : List (Int × Int))), imm (.slice (some ⟨g0, 0, none⟩) 2 2) ([(0, 1), (1, 2)] : List (Int × Int))])
  refine k (stX H4 0 rfl ty24 rfl rfl rfl rfl rfl rfl rfl ?_)
  intro w3 (H5 : HI (fun _ => False) w w3 [box bb0 #[.int .i64 (ofMN 3 ([(0, 1), (1, 2)] : List (Int × Int))), .slice a0 (ofMR 3 ([(0, 1), (1, 2)] : List (Int × Int))).length c0] 24, imm (.slice a0 (ofMR 3 ([(0, 1), (1, 2)] : List (Int × Int))).length c0) (ofMR 3 ([(0, 1), (1, 2)] : List (Int × Int))), imm (.slice (some ⟨g0, 0, none⟩) 2 2) ([(0, 1), (1, 2)] : List (Int × Int))])
  refine k (asg (v := .int .i64 (ofME 3 ([(0, 1), (1, 2)] : List (Int × Int)))) rfl rfl (z (nx (sq (rg (k (ldX H5 0 rfl ty24 rfl rfl (by decide) rfl (k ?_))))))))
  have cc1 := hull_Close (mn := (ofMN 3 ([(0, 1), (1, 2)] : List (Int × Int)))) (mr := (ofMR 3 ([(0, 1), (1, 2)] : List (Int × Int)))) (w := w3) H5.mb (by first | (unfold I64; decide +kernel) | decide +kernel) (H5.rv 1 rfl) (by decide +kernel)
  refine ca go22 rfl (ec rfl e0) cc1 ?_
  rintro _ w4 ⟨a1, c1, rfl, xt3, rv1⟩
  have H6 := H5.ownsG rv1
  refine k (al H6 ty24 ?_)
  intro bb1 w5 xt4 (H7 : HI (fun _ => False) w w5 [box bb1 #[.int .i64 0, .slice none 0 0] 24, own w.heap.size 73 (.slice a1 (closeM (ofMN 3 ([(0, 1), (1, 2)] : List (Int × Int))) (ofMR 3 ([(0, 1), (1, 2)] : List (Int × Int)))).length c1) (closeM (ofMN 3 ([(0, 1), (1, 2)] : List (Int × Int))) (ofMR 3 ([(0, 1), (1, 2)] : List (Int × Int)))), box bb0 #[.int .i64 (ofMN 3 ([(0, 1), (1, 2)] : List (Int × Int))), .slice a0 (ofMR 3 ([(0, 1), (1, 2)] : List (Int × Int))).length c0] 24, imm (.slice a0 (ofMR 3 ([(0, 1), (1, 2)] : List (Int × Int))).length c0) (ofMR 3 ([(0, 1), (1, 2)] : List (Int × Int))), imm (.slice (some ⟨g0, 0, none⟩) 2 2) ([(0, 1), (1, 2)] : List (Int × Int))])
  refine k (stX H7 0 rfl ty24 rfl rfl rfl rfl rfl rfl rfl ?_)
  intro w6 (H8 : HI (fun _ => False) w w6 [box bb1 #[.int .i64 (ofMN 3 ([(0, 1), (1, 2)] : List (Int × Int))), .slice a1 (closeM (ofMN 3 ([(0, 1), (1, 2)] : List (Int × Int))) (ofMR 3 ([(0, 1), (1, 2)] : List (Int × Int)))).length c1] 24, own w.heap.size 73 (.slice a1 (closeM (ofMN 3 ([(0, 1), (1, 2)] : List (Int × Int))) (ofMR 3 ([(0, 1), (1, 2)] : List (Int × Int)))).length c1) (closeM (ofMN 3 ([(0, 1), (1, 2)] : List (Int × Int))) (ofMR 3 ([(0, 1), (1, 2)] : List (Int × Int)))), box bb0 #[.int .i64 (ofMN 3 ([(0, 1), (1, 2)] : List (Int × Int))), .slice a0 (ofMR 3 ([(0, 1), (1, 2)] : List (Int × Int))).length c0] 24, imm (.slice a0 (ofMR 3 ([(0, 1), (1, 2)] : List (Int × Int))).length c0) (ofMR 3 ([(0, 1), (1, 2)] : List (Int × Int))), imm (.slice (some ⟨g0, 0, none⟩) 2 2) ([(0, 1), (1, 2)] : List (Int × Int))])
  refine z (nx (sq (rg (k (ldX H8 0 rfl ty24 rfl rfl (by decide) rfl (k ?_))))))
  have H9 := H8.freeze 1 rfl
  have cc2 := hull_Loop (mn := (ofMN 3 ([(0, 1), (1, 2)] : List (Int × Int)))) (mr := (closeM (ofMN 3 ([(0, 1), (1, 2)] : List (Int × Int))) (ofMR 3 ([(0, 1), (1, 2)] : List (Int × Int))))) (w := w6) H9.mb (by first | (unfold I64; decide +kernel) | decide +kernel) (H9.rv 1 rfl) (by decide +kernel)
  refine ca go31 rfl (ec rfl e0) cc2 ?_
  rintro _ w7 ⟨rfl, xt5⟩
  have H10 := H8.ext xt5
  refine k (mv (v := .tuple #[.int .i64 (((loopF (ofMN 3 ([(0, 1), (1, 2)] : List (Int × Int))) (closeM (ofMN 3 ([(0, 1), (1, 2)] : List (Int × Int))) (ofMR 3 ([(0, 1), (1, 2)] : List (Int × Int))))).getD 0 : Nat) : Int), .bool ((loopF (ofMN 3 ([(0, 1), (1, 2)] : List (Int × Int))) (closeM (ofMN 3 ([(0, 1), (1, 2)] : List (Int × Int))) (ofMR 3 ([(0, 1), (1, 2)] : List (Int × Int))))).isSome)]) rfl rfl (k (xt rfl rfl rfl (k (xt rfl rfl rfl (k (asg (v := .int .i64 (((loopF (ofMN 3 ([(0, 1), (1, 2)] : List (Int × Int))) (closeM (ofMN 3 ([(0, 1), (1, 2)] : List (Int × Int))) (ofMR 3 ([(0, 1), (1, 2)] : List (Int × Int))))).getD 0 : Nat) : Int)) rfl rfl (k (asg (v := .bool ((loopF (ofMN 3 ([(0, 1), (1, 2)] : List (Int × Int))) (closeM (ofMN 3 ([(0, 1), (1, 2)] : List (Int × Int))) (ofMR 3 ([(0, 1), (1, 2)] : List (Int × Int))))).isSome)) rfl rfl (z (nx (sq (rg (k (ldX H10 0 rfl ty24 rfl rfl (by decide) rfl (k ?_))))))))))))))))
  have H11 := H10.freeze 1 rfl
  have cc3 := hull_Add (mn := (ofMN 3 ([(0, 1), (1, 2)] : List (Int × Int)))) (mr := (closeM (ofMN 3 ([(0, 1), (1, 2)] : List (Int × Int))) (ofMR 3 ([(0, 1), (1, 2)] : List (Int × Int))))) (i := 3) (j := 0) (w := w7) H11.mb (by first | (unfold I64; decide +kernel) | decide +kernel) (H11.rv 1 rfl) (by first | (unfold I64; decide +kernel) | decide +kernel) (by first | (unfold I64; decide +kernel) | decide +kernel) (by decide +kernel)
  refine ca go27 rfl (ec rfl (ec rfl (ec rfl e0))) cc3 ?_
  rintro _ w8 ⟨a2, c2, rfl, xt6, rv2⟩
  have H12 := H11.ext xt6
  have H13 := H12.put (it := imm (.slice a2 (addMR (ofMN 3 ([(0, 1), (1, 2)] : List (Int × Int))) (closeM (ofMN 3 ([(0, 1), (1, 2)] : List (Int × Int))) (ofMR 3 ([(0, 1), (1, 2)] : List (Int × Int)))) 3 0).length c2) (addMR (ofMN 3 ([(0, 1), (1, 2)] : List (Int × Int))) (closeM (ofMN 3 ([(0, 1), (1, 2)] : List (Int × Int))) (ofMR 3 ([(0, 1), (1, 2)] : List (Int × Int)))) 3 0)) rfl rv2
  refine k (mv (v := .tuple #[.agg #[.int .i64 (setMN (ofMN 3 ([(0, 1), (1, 2)] : List (Int × Int))) 3 0), .slice a2 (addMR (ofMN 3 ([(0, 1), (1, 2)] : List (Int × Int))) (closeM (ofMN 3 ([(0, 1), (1, 2)] : List (Int × Int))) (ofMR 3 ([(0, 1), (1, 2)] : List (Int × Int)))) 3 0).length c2], .int .i64 (setME (ofMN 3 ([(0, 1), (1, 2)] : List (Int × Int))) 3 0)]) rfl rfl (k (xt rfl rfl rfl (k (xt rfl rfl rfl (k (al H13 ty24 ?_)))))))
  intro bb2 w9 xt7 (H14 : HI (fun _ => False) w w9 [box bb2 #[.int .i64 0, .slice none 0 0] 24, imm (.slice a2 (addMR (ofMN 3 ([(0, 1), (1, 2)] : List (Int × Int))) (closeM (ofMN 3 ([(0, 1), (1, 2)] : List (Int × Int))) (ofMR 3 ([(0, 1), (1, 2)] : List (Int × Int)))) 3 0).length c2) (addMR (ofMN 3 ([(0, 1), (1, 2)] : List (Int × Int))) (closeM (ofMN 3 ([(0, 1), (1, 2)] : List (Int × Int))) (ofMR 3 ([(0, 1), (1, 2)] : List (Int × Int)))) 3 0), box bb1 #[.int .i64 (ofMN 3 ([(0, 1), (1, 2)] : List (Int × Int))), .slice a1 (closeM (ofMN 3 ([(0, 1), (1, 2)] : List (Int × Int))) (ofMR 3 ([(0, 1), (1, 2)] : List (Int × Int)))).length c1] 24, imm (.slice a1 (closeM (ofMN 3 ([(0, 1), (1, 2)] : List (Int × Int))) (ofMR 3 ([(0, 1), (1, 2)] : List (Int × Int)))).length c1) (closeM (ofMN 3 ([(0, 1), (1, 2)] : List (Int × Int))) (ofMR 3 ([(0, 1), (1, 2)] : List (Int × Int)))), box bb0 #[.int .i64 (ofMN 3 ([(0, 1), (1, 2)] : List (Int × Int))), .slice a0 (ofMR 3 ([(0, 1), (1, 2)] : List (Int × Int))).length c0] 24, imm (.slice a0 (ofMR 3 ([(0, 1), (1, 2)] : List (Int × Int))).length c0) (ofMR 3 ([(0, 1), (1, 2)] : List (Int × Int))), imm (.slice (some ⟨g0, 0, none⟩) 2 2) ([(0, 1), (1, 2)] : List (Int × Int))])
  refine k (stX H14 0 rfl ty24 rfl rfl rfl rfl rfl rfl rfl ?_)
  intro w10 (H15 : HI (fun _ => False) w w10 [box bb2 #[.int .i64 (setMN (ofMN 3 ([(0, 1), (1, 2)] : List (Int × Int))) 3 0), .slice a2 (addMR (ofMN 3 ([(0, 1), (1, 2)] : List (Int × Int))) (closeM (ofMN 3 ([(0, 1), (1, 2)] : List (Int × Int))) (ofMR 3 ([(0, 1), (1, 2)] : List (Int × Int)))) 3 0).length c2] 24, imm (.slice a2 (addMR (ofMN 3 ([(0, 1), (1, 2)] : List (Int × Int))) (closeM (ofMN 3 ([(0, 1), (1, 2)] : List (Int × Int))) (ofMR 3 ([(0, 1), (1, 2)] : List (Int × Int)))) 3 0).length c2) (addMR (ofMN 3 ([(0, 1), (1, 2)] : List (Int × Int))) (closeM (ofMN 3 ([(0, 1), (1, 2)] : List (Int × Int))) (ofMR 3 ([(0, 1), (1, 2)] : List (Int × Int)))) 3 0), box bb1 #[.int .i64 (ofMN 3 ([(0, 1), (1, 2)] : List (Int × Int))), .slice a1 (closeM (ofMN 3 ([(0, 1), (1, 2)] : List (Int × Int))) (ofMR 3 ([(0, 1), (1, 2)] : List (Int × Int)))).length c1] 24, imm (.slice a1 (closeM (ofMN 3 ([(0, 1), (1, 2)] : List (Int × Int))) (ofMR 3 ([(0, 1), (1, 2)] : List (Int × Int)))).length c1) (closeM (ofMN 3 ([(0, 1), (1, 2)] : List (Int × Int))) (ofMR 3 ([(0, 1), (1, 2)] : List (Int × Int)))), box bb0 #[.int .i64 (ofMN 3 ([(0, 1), (1, 2)] : List (Int × Int))), .slice a0 (ofMR 3 ([(0, 1), (1, 2)] : List (Int × Int))).length c0] 24, imm (.slice a0 (ofMR 3 ([(0, 1), (1, 2)] : List (Int × Int))).length c0) (ofMR 3 ([(0, 1), (1, 2)] : List (Int × Int))), imm (.slice (some ⟨g0, 0, none⟩) 2 2) ([(0, 1), (1, 2)] : List (Int × Int))])
  refine k (asg (v := .int .i64 (setME (ofMN 3 ([(0, 1), (1, 2)] : List (Int × Int))) 3 0)) rfl rfl (z (nx (sq (rg (k (ldX H15 2 rfl ty24 rfl rfl (by decide) rfl (k ?_))))))))
  have cc4 := ref03_Has (mn := (ofMN 3 ([(0, 1), (1, 2)] : List (Int × Int)))) (mr := (closeM (ofMN 3 ([(0, 1), (1, 2)] : List (Int × Int))) (ofMR 3 ([(0, 1), (1, 2)] : List (Int × Int))))) (i := 0) (j := 2) (w := w10) H15.mb (by first | (unfold I64; decide +kernel) | decide +kernel) (H15.rv 3 rfl) (by first | (unfold I64; decide +kernel) | decide +kernel) (by first | (unfold I64; decide +kernel) | decide +kernel) (by decide +kernel) (by decide +kernel) (by decide +kernel)
  refine ca go45 rfl (ec rfl (ec rfl (ec rfl e0))) cc4 ?_
  rintro _ w11 ⟨rfl, xt8⟩
  have H16 := H15.ext xt8
  refine k (mv (v := .bool (hasM (ofMN 3 ([(0, 1), (1, 2)] : List (Int × Int))) (closeM (ofMN 3 ([(0, 1), (1, 2)] : List (Int × Int))) (ofMR 3 ([(0, 1), (1, 2)] : List (Int × Int)))) 0 2)) rfl rfl ?_)
  have tr0 : (hasM (ofMN 3 ([(0, 1), (1, 2)] : List (Int × Int))) (closeM (ofMN 3 ([(0, 1), (1, 2)] : List (Int × Int))) (ofMR 3 ([(0, 1), (1, 2)] : List (Int × Int)))) 0 2) = true := (by decide +kernel)
  refine k (gy rfl rfl rfl tr0 (ldX H16 2 rfl ty24 rfl rfl (by decide) rfl (k (gy rfl rfl rfl tr0 ?_))))
  have cc5 := hull_Closed (mn := (ofMN 3 ([(0, 1), (1, 2)] : List (Int × Int)))) (mr := (closeM (ofMN 3 ([(0, 1), (1, 2)] : List (Int × Int))) (ofMR 3 ([(0, 1), (1, 2)] : List (Int × Int))))) (w := w11) H16.mb (hT.ext H16.below) (by first | (unfold I64; decide +kernel) | decide +kernel) (H16.rv 3 rfl) (by decide +kernel)
  refine ca go23 rfl (ec rfl e0) cc5 ?_
  rintro _ w12 ⟨rfl, xt9⟩
  have H17 := H16.ext xt9
  refine k (pickT rfl rfl rfl rfl tr0 rfl (k (mv (v := .bool (closedM (ofMN 3 ([(0, 1), (1, 2)] : List (Int × Int))) (closeM (ofMN 3 ([(0, 1), (1, 2)] : List (Int × Int))) (ofMR 3 ([(0, 1), (1, 2)] : List (Int × Int)))))) rfl rfl ?_)))
  have tr1 : (closedM (ofMN 3 ([(0, 1), (1, 2)] : List (Int × Int))) (closeM (ofMN 3 ([(0, 1), (1, 2)] : List (Int × Int))) (ofMR 3 ([(0, 1), (1, 2)] : List (Int × Int))))) = true := (by decide +kernel)
  refine k (gy rfl rfl rfl tr1 (ldX H17 4 rfl ty24 rfl rfl (by decide) rfl (k (gy rfl rfl rfl tr1 ?_))))
  have cc6 := hull_Closed (mn := (ofMN 3 ([(0, 1), (1, 2)] : List (Int × Int)))) (mr := (ofMR 3 ([(0, 1), (1, 2)] : List (Int × Int)))) (w := w12) H17.mb (hT.ext H17.below) (by first | (unfold I64; decide +kernel) | decide +kernel) (H17.rv 5 rfl) (by decide +kernel)
  refine ca go23 rfl (ec rfl e0) cc6 ?_
  rintro _ w13 ⟨rfl, xt10⟩
  have H18 := H17.ext xt10
  refine k (gy rfl rfl rfl tr1 (not_ rfl rfl (k (pickT rfl rfl rfl rfl tr1 rfl (k (mv (v := .bool (!(closedM (ofMN 3 ([(0, 1), (1, 2)] : List (Int × Int))) (ofMR 3 ([(0, 1), (1, 2)] : List (Int × Int)))))) rfl rfl ?_))))))
  have tr2 : (closedM (ofMN 3 ([(0, 1), (1, 2)] : List (Int × Int))) (ofMR 3 ([(0, 1), (1, 2)] : List (Int × Int)))) = false := (by decide +kernel)
  refine k (gy rfl rfl rfl (by rw [show (closedM (ofMN 3 ([(0, 1), (1, 2)] : List (Int × Int))) (ofMR 3 ([(0, 1), (1, 2)] : List (Int × Int)))) = false from tr2]; rfl) (mv (v := .bool ((loopF (ofMN 3 ([(0, 1), (1, 2)] : List (Int × Int))) (closeM (ofMN 3 ([(0, 1), (1, 2)] : List (Int × Int))) (ofMR 3 ([(0, 1), (1, 2)] : List (Int × Int))))).isSome)) rfl rfl (k (gy rfl rfl rfl (by rw [show (closedM (ofMN 3 ([(0, 1), (1, 2)] : List (Int × Int))) (ofMR 3 ([(0, 1), (1, 2)] : List (Int × Int)))) = false from tr2]; rfl) (not_ rfl rfl (k (pickT rfl rfl rfl rfl (by rw [show (closedM (ofMN 3 ([(0, 1), (1, 2)] : List (Int × Int))) (ofMR 3 ([(0, 1), (1, 2)] : List (Int × Int)))) = false from tr2]; rfl) rfl (k (mv (v := .bool (!((loopF (ofMN 3 ([(0, 1), (1, 2)] : List (Int × Int))) (closeM (ofMN 3 ([(0, 1), (1, 2)] : List (Int × Int))) (ofMR 3 ([(0, 1), (1, 2)] : List (Int × Int))))).isSome))) rfl rfl ?_)))))))))
  have tr3 : ((loopF (ofMN 3 ([(0, 1), (1, 2)] : List (Int × Int))) (closeM (ofMN 3 ([(0, 1), (1, 2)] : List (Int × Int))) (ofMR 3 ([(0, 1), (1, 2)] : List (Int × Int))))).isSome) = false := (by decide +kernel)
  refine k (gy rfl rfl rfl (by rw [show ((loopF (ofMN 3 ([(0, 1), (1, 2)] : List (Int × Int))) (closeM (ofMN 3 ([(0, 1), (1, 2)] : List (Int × Int))) (ofMR 3 ([(0, 1), (1, 2)] : List (Int × Int))))).isSome) = false from tr3]; rfl) (mv (v := .int .i64 (setME (ofMN 3 ([(0, 1), (1, 2)] : List (Int × Int))) 3 0)) rfl rfl (k (gy rfl rfl rfl (by rw [show ((loopF (ofMN 3 ([(0, 1), (1, 2)] : List (Int × Int))) (closeM (ofMN 3 ([(0, 1), (1, 2)] : List (Int × Int))) (ofMR 3 ([(0, 1), (1, 2)] : List (Int × Int))))).isSome) = false from tr3]; rfl) (eql rfl rfl rfl rfl (k (pickT rfl rfl rfl rfl (by rw [show ((loopF (ofMN 3 ([(0, 1), (1, 2)] : List (Int × Int))) (closeM (ofMN 3 ([(0, 1), (1, 2)] : List (Int × Int))) (ofMR 3 ([(0, 1), (1, 2)] : List (Int × Int))))).isSome) = false from tr3]; rfl) rfl (k (asg (v := .bool (decide ((setME (ofMN 3 ([(0, 1), (1, 2)] : List (Int × Int))) 3 0) = 1))) rfl rfl (z (nx (rt (r1 rfl rfl ?_)))))))))))))
  have tr4 : (decide ((setME (ofMN 3 ([(0, 1), (1, 2)] : List (Int × Int))) 3 0) = 1)) = true := (by decide +kernel)
  have e0 : (decide ((setME (ofMN 3 ([(0, 1), (1, 2)] : List (Int × Int))) 3 0) = 1) : Bool) = true := by exact tr4
  have ev_ := cg1 (fun (x_0 : Bool) => (.bool x_0 : Value)) e0
  exact ⟨ev_, H18.below⟩
/- eyewitness/eyewitnesslaw04.may -/
set_option maxRecDepth 100000 in
set_option maxHeartbeats 1600000 in
theorem may04 {M : Nat → Prop} {w : World} {mn : Int} {a_mr : Option Addr} {c_mr : Nat} {mr : List (List (BitVec 64))} (hM : ∀ b, M b → b < w.heap.size) (h_mn : I64 mn) (h_mr : RV M w (.slice a_mr mr.length c_mr) mr) : Calls Tryd.prog 20 #[.agg #[.int .i64 mn, .slice a_mr mr.length c_mr]] w (Ret fun v w' =>  v = .bool (smallM mr 16 && rightS mn mr) ∧ Ext w w') := by
  refine enter 9 Tryd.func20 rfl rfl rfl fun f0 ha => ?_
  have H := HI.start (M0 := M) (w := w) hM
  have H0 := H.put (it := imm (.slice a_mr mr.length c_mr) mr) rfl (by rw [MS_nil]; exact h_mr)
  have ln_mr := rv_len h_mr
  have i0 : f0 0 = .agg #[.int .i64 mn, .slice a_mr mr.length c_mr] := ha 0 (by simp)
  refine sq (rg (k (bx H0 rfl i0 ?_)))
  intro bb0 w0 xt0 (H1 : HI M w w0 [box bb0 #[.int .i64 mn, .slice a_mr mr.length c_mr] 24, imm (.slice a_mr mr.length c_mr) mr])
  refine k (asg (v := .bool false) rfl rfl (z (nx (sq (rg (k (ldX H1 0 rfl ty24 rfl rfl (by decide) rfl (k ?_))))))))
  have cc0 := ref03_Small (mn := mn) (mr := mr) (mo := 16) (w := w0) H1.mb (by unfold I64 at *; omega) (H1.rv 1 rfl) (by unfold I64 at *; omega)
  refine ca go12 rfl (ec rfl (ec rfl e0)) cc0 ?_
  rintro _ w1 ⟨rfl, xt1⟩
  have H2 := H1.ext xt1
  refine k (mv (v := .bool (smallM mr 16)) rfl rfl ?_)
  rcases Bool.eq_false_or_eq_true (smallM mr 16) with b0 | b0
  · -- smallM mr 16 is True
    refine k (gy rfl rfl rfl b0 (ldX H2 0 rfl ty24 rfl rfl (by decide) rfl (k (gy rfl rfl rfl b0 ?_))))
    have cc1 := ref03_Right (mn := mn) (mr := mr) (w := w1) H2.mb (by unfold I64 at *; omega) (H2.rv 1 rfl)
    refine ca go13 rfl (ec rfl e0) cc1 ?_
    rintro _ w2 ⟨rfl, xt2⟩
    have H3 := H2.ext xt2
    refine k (pickT rfl rfl rfl rfl b0 rfl (k (asg (v := .bool (rightS mn mr)) rfl rfl (z (nx (rt (r1 rfl rfl ?_)))))))
    have e0 : (rightS mn mr : Bool) = (smallM mr 16 && rightS mn mr) := by rw [b0]; rfl
    have ev_ := cg1 (fun (x_0 : Bool) => (.bool x_0 : Value)) e0
    exact ⟨ev_, H3.below⟩
  · -- smallM mr 16 is False
    refine k (gn rfl rfl rfl b0 (k (gn rfl rfl rfl b0 (k (pickF rfl rfl rfl rfl b0 rfl (k (asg (v := .bool false) rfl rfl (z (nx (rt (r1 rfl rfl ?_)))))))))))
    have e0 : (false : Bool) = (smallM mr 16 && rightS mn mr) := by rw [b0]; rfl
    have ev_ := cg1 (fun (x_0 : Bool) => (.bool x_0 : Value)) e0
    exact ⟨ev_, H2.below⟩
end Go.Proofs.YtmhopljngkgidaaDoor
namespace Go.Proofs.YtmhopljngkgidaaDoor
open Go.Ew Go.RowKit
set_option linter.unusedVariables false
set_option linter.unusedSimpArgs false
attribute [local irreducible] WL WC SO Code.wp wpList retQ Ret
attribute [local irreducible] bitB hasW inR hasR setR countW countR subR words newR listR orR firstW tab8
theorem fl44_0 : FldF Tryd.prog 44 0 0 := ⟨_, _, Tryd.underlying44, rfl, rfl, by kernel_rfl⟩
theorem fl44_1 : FldF Tryd.prog 44 1 2 := ⟨_, _, Tryd.underlying44, rfl, rfl, by kernel_rfl⟩
theorem fl44_2 : FldF Tryd.prog 44 2 3 := ⟨_, _, Tryd.underlying44, rfl, rfl, by kernel_rfl⟩
theorem fl44_3 : FldF Tryd.prog 44 3 4 := ⟨_, _, Tryd.underlying44, rfl, rfl, by kernel_rfl⟩
theorem ty42 : TyF Tryd.prog 42 1 false 24 (.slice none 0 0) := ⟨by kernel_rfl, by kernel_rfl⟩
theorem go20 : GoF Tryd.prog 20 := ⟨_, _, Tryd.func20, rfl, by kernel_rfl⟩
theorem go21 : GoF Tryd.prog 21 := ⟨_, _, Tryd.func21, rfl, by kernel_rfl⟩
theorem go32 : GoF Tryd.prog 32 := ⟨_, _, Tryd.func32, rfl, by kernel_rfl⟩
theorem go33 : GoF Tryd.prog 33 := ⟨_, _, Tryd.func33, rfl, by kernel_rfl⟩
theorem go18 : GoF Tryd.prog 18 := ⟨_, _, Tryd.func18, rfl, by kernel_rfl⟩
theorem go24 : GoF Tryd.prog 24 := ⟨_, _, Tryd.func24, rfl, by kernel_rfl⟩
theorem un4 : Tryd.prog.underlying 4 = some (.bool) := by kernel_rfl
theorem go34 : GoF Tryd.prog 34 := ⟨_, _, Tryd.func34, rfl, by kernel_rfl⟩
theorem go35 : GoF Tryd.prog 35 := ⟨_, _, Tryd.func35, rfl, by kernel_rfl⟩
/- eyewitness/eyewitnesslaw04.HullTells -/
set_option maxRecDepth 100000 in
set_option maxHeartbeats 1600000 in
theorem law_HullTells {M : Nat → Prop} {w : World} {mn : Int} {a_mr : Option Addr} {c_mr : Nat} {mr : List (List (BitVec 64))} {i : Int} {j : Int} {a_l : Option Addr} {c_l : Nat} {l : List Int} (hM : ∀ b, M b → b < w.heap.size) (hT : TabAt 0 w) (h_mn : I64 mn) (h_mr : RV M w (.slice a_mr mr.length c_mr) mr) (h_i : I64 i) (h_j : I64 j) (h_l : RV M w (.slice a_l l.length c_l) l) : Calls Tryd.prog 7 #[.agg #[.int .i64 mn, .slice a_mr mr.length c_mr, .int .i64 i, .int .i64 j, .slice a_l l.length c_l]] w (Ret fun v w' =>  v = .bool true ∧ Ext w w') := by
  refine enter 104 Tryd.func7 rfl rfl rfl fun f0 ha => ?_
  have H := HI.start (M0 := M) (w := w) hM
  have H0 := H.put (it := imm (.slice a_mr mr.length c_mr) mr) rfl (by rw [MS_nil]; exact h_mr)
  have H1 := H0.put (it := imm (.slice a_l l.length c_l) l) rfl (by rw [MS_cons_none rfl, MS_nil]; exact h_l)
  have ln_mr := rv_len h_mr
  have ln_l := rv_len h_l
  have i0 : f0 0 = .agg #[.int .i64 mn, .slice a_mr mr.length c_mr, .int .i64 i, .int .i64 j, .slice a_l l.length c_l] := ha 0 (by simp)
  refine sq (rg (k (bx H1 rfl i0 ?_)))
  intro bb0 w0 xt0 (H2 : HI M w w0 [box bb0 #[.int .i64 mn, .slice a_mr mr.length c_mr, .int .i64 i, .int .i64 j, .slice a_l l.length c_l] 44, imm (.slice a_l l.length c_l) l, imm (.slice a_mr mr.length c_mr) mr])
  refine k (asg (v := .bool false) rfl rfl (z (nx (sq ?_))))
  refine drs [.v, .v, .v, .v, .v, .v, .v, .v, .n, .s 8 1, .v, .v, .v] [fun (v : Value) => v = .pointer (some ⟨bb0, 0, none⟩), fun (v : Value) => v = .agg #[.int .i64 mn, .slice a_mr mr.length c_mr], fun (v : Value) => v = .pointer (some ⟨bb0, 2, none⟩), fun (v : Value) => v = .int .i64 i, fun (v : Value) => v = .pointer (some ⟨bb0, 3, none⟩), fun (v : Value) => v = .int .i64 j, fun (v : Value) => v = .pointer (some ⟨bb0, 4, none⟩), fun (v : Value) => v = .slice a_l l.length c_l, fun _ => True, fun _ => True, fun (v : Value) => v = .int .i64 i, fun (v : Value) => v = .int .i64 j, fun (v : Value) => v = .slice a_l l.length c_l] [(#[], 0), (#[], 0), (#[], 0), (#[], 0), (#[], 0), (#[], 0), (#[], 0), (#[], 0), (#[.int .i64 0, .slice none 0 0], 24), (#[], 0), (#[], 0), (#[], 0), (#[], 0)] rfl (by kernel_rfl) ?_ ?_
  ·
    refine ⟨⟨rfl, fun f0 w2 hf0 xt2 hp0 => ?_⟩, ?_⟩
    ·
      refine fa fl44_0 rfl (hf0 1 rfl) ?_
      exact ⟨_, rfl, rfl, rfl⟩
    refine ⟨⟨rfl, fun f1 w3 hf1 xt3 hp1 => ?_⟩, ?_⟩
    ·
      have s0 : f1 17 = .pointer (some ⟨bb0, 0, none⟩) := hp1 0 rfl ⟨_, rfl, rfl⟩
      refine ldX (H2.ext xt3) 0 rfl ty24 rfl s0 (by decide) rfl ?_
      exact ⟨_, rfl, rfl, rfl⟩
    refine ⟨⟨rfl, fun f2 w4 hf2 xt4 hp2 => ?_⟩, ?_⟩
    ·
      refine fa fl44_1 rfl (hf2 1 rfl) ?_
      exact ⟨_, rfl, rfl, rfl⟩
    refine ⟨⟨rfl, fun f3 w5 hf3 xt5 hp3 => ?_⟩, ?_⟩
    ·
      have s1 : f3 19 = .pointer (some ⟨bb0, 2, none⟩) := hp3 2 rfl ⟨_, rfl, rfl⟩
      refine ldX (H2.ext xt5) 0 rfl ty3 rfl s1 (by decide) rfl ?_
      exact ⟨_, rfl, rfl, rfl⟩
    refine ⟨⟨rfl, fun f4 w6 hf4 xt6 hp4 => ?_⟩, ?_⟩
    ·
      refine fa fl44_2 rfl (hf4 1 rfl) ?_
      exact ⟨_, rfl, rfl, rfl⟩
    refine ⟨⟨rfl, fun f5 w7 hf5 xt7 hp5 => ?_⟩, ?_⟩
    ·
      have s2 : f5 21 = .pointer (some ⟨bb0, 3, none⟩) := hp5 4 rfl ⟨_, rfl, rfl⟩
      refine ldX (H2.ext xt7) 0 rfl ty3 rfl s2 (by decide) rfl ?_
      exact ⟨_, rfl, rfl, rfl⟩
    refine ⟨⟨rfl, fun f6 w8 hf6 xt8 hp6 => ?_⟩, ?_⟩
    ·
      refine fa fl44_3 rfl (hf6 1 rfl) ?_
      exact ⟨_, rfl, rfl, rfl⟩
    refine ⟨⟨rfl, fun f7 w9 hf7 xt9 hp7 => ?_⟩, ?_⟩
    ·
      have s3 : f7 23 = .pointer (some ⟨bb0, 4, none⟩) := hp7 6 rfl ⟨_, rfl, rfl⟩
      refine ldX (H2.ext xt9) 0 rfl ty42 rfl s3 (by decide) rfl ?_
      exact ⟨_, rfl, rfl, rfl⟩
    refine ⟨⟨rfl, fun f8 w10 hf8 xt10 hp8 => ?_⟩, ?_⟩
    ·
      refine alS ty24 ?_
      exact ⟨rfl, rfl, trivial⟩
    refine ⟨⟨rfl, rfl, rfl, ⟨_, rfl, rfl⟩, ⟨_, rfl, rfl⟩, trivial, by intro _ e_; rw [e_]; rfl, fun f9 w12 bb2 cur0 xt12 s4 hb0 hc0 hv0 => ?_⟩, ?_⟩
    ·
      have e_ := hv0
      exact stS ty24 rfl rfl s4 rfl hb0 ((congrArg (fun v => v.cells.size) e_).trans rfl) hc0 ((congrArg (fun v => v.cells.toList.all Value.oneCell') e_).trans rfl)
    refine ⟨⟨rfl, fun f10 w13 hf9 xt13 hp9 => ?_⟩, ?_⟩
    ·
      have s5 : f10 20 = .int .i64 i := hp9 3 rfl ⟨_, rfl, rfl⟩
      refine asg rfl s5 ?_
      exact ⟨_, rfl, rfl, rfl⟩
    refine ⟨⟨rfl, fun f11 w14 hf10 xt14 hp10 => ?_⟩, ?_⟩
    ·
      have s6 : f11 22 = .int .i64 j := hp10 5 rfl ⟨_, rfl, rfl⟩
      refine asg rfl s6 ?_
      exact ⟨_, rfl, rfl, rfl⟩
    refine ⟨⟨rfl, fun f12 w15 hf11 xt15 hp11 => ?_⟩, ?_⟩
    ·
      have s7 : f12 24 = .slice a_l l.length c_l := hp11 7 rfl ⟨_, rfl, rfl⟩
      refine asg rfl s7 ?_
      exact ⟨_, rfl, rfl, rfl⟩
    exact trivial
  · intro f13 w16 B0 hf12 xt16 hp12 hB0 hd0
    have s8 : f13 4 = .int .i64 i := hp12 10 _ rfl rfl
    have s9 : f13 5 = .int .i64 j := hp12 11 _ rfl rfl
    have s10 : f13 6 = .slice a_l l.length c_l := hp12 12 _ rfl rfl
    have s11 : f13 18 = .agg #[.int .i64 mn, .slice a_mr mr.length c_mr] := hp12 1 _ rfl rfl
    obtain ⟨s12, hg0, cur1, hc1, hk0⟩ := hB0 8 (by decide) trivial
    have hq0 : cur1 = #[.int .i64 mn, .slice a_mr mr.length c_mr] := (hk0.2.1 9 1 rfl rfl).trans (congrArg Value.cells s11)
    rw [hq0] at hc1
    have H4 : HI M w w16 [box (B0 8) #[.int .i64 mn, .slice a_mr mr.length c_mr] 24, box bb0 #[.int .i64 mn, .slice a_mr mr.length c_mr, .int .i64 i, .int .i64 j, .slice a_l l.length c_l] 44, imm (.slice a_l l.length c_l) l, imm (.slice a_mr mr.length c_mr) mr] := H2.lays xt16 [((B0 8), #[.int .i64 mn, .slice a_mr mr.length c_mr], 24)] (by intro q_ hq_; simp only [List.mem_cons, List.not_mem_nil, or_false] at hq_; rcases hq_ with rfl <;> first | exact ⟨hg0, hc1⟩) (by simp only [List.map_cons, List.map_nil, List.nodup_cons, List.mem_cons, List.not_mem_nil, or_false, List.nodup_nil, and_true, not_or, not_false_eq_true, true_and] <;> omega)
    refine nx (sq (sq (rg (k (ldX H4 0 rfl ty24 rfl s12 (by decide) rfl (k ?_))))))
    have cc0 := may04 (mn := mn) (mr := mr) (w := w16) H4.mb (by unfold I64 at *; omega) (H4.rv 3 rfl)
    refine ca go20 rfl (ec rfl e0) cc0 ?_
    rintro _ w17 ⟨rfl, xt17⟩
    have H5 := H4.ext xt17
    refine k (not_ rfl rfl (k (mv (v := .bool (!(smallM mr 16 && rightS mn mr))) rfl rfl ?_)))
    rcases Bool.eq_false_or_eq_true (!(smallM mr 16 && rightS mn mr)) with b0 | b0
    · -- !(smallM mr 16 && rightS mn mr) is True
      refine k (gn rfl rfl rfl b0 (k (gn rfl rfl rfl b0 (k (gn rfl rfl rfl b0 (k (pickT rfl rfl rfl rfl b0 rfl (z (nx (cdT rfl rfl rfl (sq (rg (k ?_)))))))))))))
      have cc1 := awake04 (w := w17) (hT.ext H5.below)
      refine ca go21 rfl e0 cc1 ?_
      rintro _ w18 ⟨rfl, xt18⟩
      have H6 := H5.ext xt18
      refine k (asg (v := .bool true) rfl rfl (z (nx (rt (then_ret (r1 rfl rfl ?_))))))
      exact ⟨rfl, H6.below⟩
    · -- !(smallM mr 16 && rightS mn mr) is False
      refine k (gy rfl rfl rfl b0 (mv rfl s10 (k (gy rfl rfl rfl b0 (lnS rfl rfl un42 (k (gy rfl rfl rfl b0 (gtr rfl rfl rfl rfl (k (pickF rfl rfl rfl rfl b0 rfl (z (nx ?_))))))))))))
      refine cd (b := decide (40 < (l.length : Int))) rfl rfl (fun b1 => ?_) (fun b1 => ?_)
      ·
        have p1 := of_decide_eq_true b1
        refine sq (rg (k ?_))
        have cc1 := awake04 (w := w17) (hT.ext H5.below)
        refine ca go21 rfl e0 cc1 ?_
        rintro _ w18 ⟨rfl, xt18⟩
        have H6 := H5.ext xt18
        refine k (asg (v := .bool true) rfl rfl (z (nx (rt (then_ret (r1 rfl rfl ?_))))))
        exact ⟨rfl, H6.below⟩
      ·
        have p1 := of_decide_eq_false b1
        refine sk (nx (sq ?_))
        have mmm_ : (smallM mr 16 && rightS mn mr) = true := by simpa using ‹(!(smallM mr 16 && rightS mn mr)) = false›
        have rtm_ : rightS mn mr = true := by simp only [Bool.and_eq_true] at mmm_; exact mmm_.2
        refine rg (k (ldX H5 0 rfl ty24 rfl s12 (by decide) rfl (k ?_)))
        have cc1 := hull_Close (mn := mn) (mr := mr) (w := w17) H5.mb (by unfold I64 at *; omega) (H5.rv 3 rfl) (by first | exact rtm_ | exact (closeM_right rtm_))
        refine ca go22 rfl (ec rfl e0) cc1 ?_
        rintro _ w18 ⟨a0, c0, rfl, xt18, rv0⟩
        have H6 := H5.ownsG rv0
        refine k (al H6 ty24 ?_)
        intro bb3 w19 xt19 (H7 : HI M w w19 [box bb3 #[.int .i64 0, .slice none 0 0] 24, own w.heap.size 73 (.slice a0 (closeM mn mr).length c0) (closeM mn mr), box (B0 8) #[.int .i64 mn, .slice a_mr mr.length c_mr] 24, box bb0 #[.int .i64 mn, .slice a_mr mr.length c_mr, .int .i64 i, .int .i64 j, .slice a_l l.length c_l] 44, imm (.slice a_l l.length c_l) l, imm (.slice a_mr mr.length c_mr) mr])
        refine k (stX H7 0 rfl ty24 rfl rfl rfl rfl rfl rfl rfl ?_)
        intro w20 (H8 : HI M w w20 [box bb3 #[.int .i64 mn, .slice a0 (closeM mn mr).length c0] 24, own w.heap.size 73 (.slice a0 (closeM mn mr).length c0) (closeM mn mr), box (B0 8) #[.int .i64 mn, .slice a_mr mr.length c_mr] 24, box bb0 #[.int .i64 mn, .slice a_mr mr.length c_mr, .int .i64 i, .int .i64 j, .slice a_l l.length c_l] 44, imm (.slice a_l l.length c_l) l, imm (.slice a_mr mr.length c_mr) mr])
        refine z (nx (sq (rg (k (ldX H8 2 rfl ty24 rfl s12 (by decide) rfl (k ?_))))))
        have cc2 := ref04_Close (mn := mn) (mr := mr) (w := w20) H8.mb (by unfold I64 at *; omega) (H8.rv 5 rfl) (by first | exact rtm_ | exact (closeM_right rtm_))
        refine ca go30 rfl (ec rfl e0) cc2 ?_
        rintro _ w21 ⟨a1, c1, rfl, xt20, rv1⟩
        have H9 := H8.ext xt20
        have H10 := H9.put (it := imm (.slice a1 (closeM mn mr).length c1) (closeM mn mr)) rfl rv1
        refine k (al H10 ty24 ?_)
        intro bb4 w22 xt21 (H11 : HI M w w22 [box bb4 #[.int .i64 0, .slice none 0 0] 24, imm (.slice a1 (closeM mn mr).length c1) (closeM mn mr), box bb3 #[.int .i64 mn, .slice a0 (closeM mn mr).length c0] 24, own w.heap.size 73 (.slice a0 (closeM mn mr).length c0) (closeM mn mr), box (B0 8) #[.int .i64 mn, .slice a_mr mr.length c_mr] 24, box bb0 #[.int .i64 mn, .slice a_mr mr.length c_mr, .int .i64 i, .int .i64 j, .slice a_l l.length c_l] 44, imm (.slice a_l l.length c_l) l, imm (.slice a_mr mr.length c_mr) mr])
        refine k (stX H11 0 rfl ty24 rfl rfl rfl rfl rfl rfl rfl ?_)
        intro w23 (H12 : HI M w w23 [box bb4 #[.int .i64 mn, .slice a1 (closeM mn mr).length c1] 24, imm (.slice a1 (closeM mn mr).length c1) (closeM mn mr), box bb3 #[.int .i64 mn, .slice a0 (closeM mn mr).length c0] 24, own w.heap.size 73 (.slice a0 (closeM mn mr).length c0) (closeM mn mr), box (B0 8) #[.int .i64 mn, .slice a_mr mr.length c_mr] 24, box bb0 #[.int .i64 mn, .slice a_mr mr.length c_mr, .int .i64 i, .int .i64 j, .slice a_l l.length c_l] 44, imm (.slice a_l l.length c_l) l, imm (.slice a_mr mr.length c_mr) mr])
        refine z (nx (sq (rg (k (ldX H12 4 rfl ty24 rfl s12 (by decide) rfl (k ?_))))))
        have cc3 := hull_Loop (mn := mn) (mr := mr) (w := w23) H12.mb (by unfold I64 at *; omega) (H12.rv 7 rfl) (by first | exact rtm_ | exact (closeM_right rtm_))
        refine ca go31 rfl (ec rfl e0) cc3 ?_
        rintro _ w24 ⟨rfl, xt22⟩
        have H13 := H12.ext xt22
        refine k (mv (v := .tuple #[.int .i64 (((loopF mn mr).getD 0 : Nat) : Int), .bool ((loopF mn mr).isSome)]) rfl rfl (k (xt rfl rfl rfl (k (xt rfl rfl rfl (k (asg (v := .int .i64 (((loopF mn mr).getD 0 : Nat) : Int)) rfl rfl (k (asg (v := .bool ((loopF mn mr).isSome)) rfl rfl (z (nx (sq (rg (k (ldX H13 4 rfl ty24 rfl s12 (by decide) rfl (k ?_))))))))))))))))
        have cc4 := ref04_Loop (mn := mn) (mr := mr) (w := w24) H13.mb (by unfold I64 at *; omega) (H13.rv 7 rfl) (by first | exact (right_sq rtm_).1 | exact (right_sq rtm_).2.1 | exact (right_sq rtm_).2.2.1 | exact (right_sq rtm_).2.2.2.2 | exact (right_sq (closeM_right rtm_)).1 | exact (right_sq (closeM_right rtm_)).2.1 | exact (right_sq (closeM_right rtm_)).2.2.1 | exact (right_sq (closeM_right rtm_)).2.2.2.2) (by first | exact (right_sq rtm_).1 | exact (right_sq rtm_).2.1 | exact (right_sq rtm_).2.2.1 | exact (right_sq rtm_).2.2.2.2 | exact (right_sq (closeM_right rtm_)).1 | exact (right_sq (closeM_right rtm_)).2.1 | exact (right_sq (closeM_right rtm_)).2.2.1 | exact (right_sq (closeM_right rtm_)).2.2.2.2) (by first | exact (right_sq rtm_).1 | exact (right_sq rtm_).2.1 | exact (right_sq rtm_).2.2.1 | exact (right_sq rtm_).2.2.2.2 | exact (right_sq (closeM_right rtm_)).1 | exact (right_sq (closeM_right rtm_)).2.1 | exact (right_sq (closeM_right rtm_)).2.2.1 | exact (right_sq (closeM_right rtm_)).2.2.2.2)
        refine ca go32 rfl (ec rfl e0) cc4 ?_
        rintro _ w25 ⟨rfl, xt23⟩
        have H14 := H13.ext xt23
        refine k (mv (v := .tuple #[.int .i64 (((loopF mn mr).getD 0 : Nat) : Int), .bool ((loopF mn mr).isSome)]) rfl rfl (k (xt rfl rfl rfl (k (xt rfl rfl rfl (k (asg (v := .int .i64 (((loopF mn mr).getD 0 : Nat) : Int)) rfl rfl (k (asg (v := .bool ((loopF mn mr).isSome)) rfl rfl (z (nx (sq (rg (k (ldX H14 0 rfl ty24 rfl rfl (by decide) rfl (k (mv rfl s8 (k (mv rfl s9 (k ?_))))))))))))))))))))
        have cc5 := hull_Add (mn := mn) (mr := (closeM mn mr)) (i := i) (j := j) (w := w25) H14.mb (by unfold I64 at *; omega) (H14.rv 1 rfl) (by unfold I64 at *; omega) (by unfold I64 at *; omega) (by first | exact rtm_ | exact (closeM_right rtm_))
        refine ca go27 rfl (ec rfl (ec rfl (ec rfl e0))) cc5 ?_
        rintro _ w26 ⟨a2, c2, rfl, xt24, rv2⟩
        have H15 := H14.ext xt24
        have H16 := H15.put (it := imm (.slice a2 (addMR mn (closeM mn mr) i j).length c2) (addMR mn (closeM mn mr) i j)) rfl rv2
        refine k (mv (v := .tuple #[.agg #[.int .i64 (setMN mn i j), .slice a2 (addMR mn (closeM mn mr) i j).length c2], .int .i64 (setME mn i j)]) rfl rfl (k (xt rfl rfl rfl (k (xt rfl rfl rfl (k (al H16 ty24 ?_)))))))
        intro bb5 w27 xt25 (H17 : HI M w w27 [box bb5 #[.int .i64 0, .slice none 0 0] 24, imm (.slice a2 (addMR mn (closeM mn mr) i j).length c2) (addMR mn (closeM mn mr) i j), box bb4 #[.int .i64 mn, .slice a1 (closeM mn mr).length c1] 24, imm (.slice a1 (closeM mn mr).length c1) (closeM mn mr), box bb3 #[.int .i64 mn, .slice a0 (closeM mn mr).length c0] 24, own w.heap.size 73 (.slice a0 (closeM mn mr).length c0) (closeM mn mr), box (B0 8) #[.int .i64 mn, .slice a_mr mr.length c_mr] 24, box bb0 #[.int .i64 mn, .slice a_mr mr.length c_mr, .int .i64 i, .int .i64 j, .slice a_l l.length c_l] 44, imm (.slice a_l l.length c_l) l, imm (.slice a_mr mr.length c_mr) mr])
        refine k (stX H17 0 rfl ty24 rfl rfl rfl rfl rfl rfl rfl ?_)
        intro w28 (H18 : HI M w w28 [box bb5 #[.int .i64 (setMN mn i j), .slice a2 (addMR mn (closeM mn mr) i j).length c2] 24, imm (.slice a2 (addMR mn (closeM mn mr) i j).length c2) (addMR mn (closeM mn mr) i j), box bb4 #[.int .i64 mn, .slice a1 (closeM mn mr).length c1] 24, imm (.slice a1 (closeM mn mr).length c1) (closeM mn mr), box bb3 #[.int .i64 mn, .slice a0 (closeM mn mr).length c0] 24, own w.heap.size 73 (.slice a0 (closeM mn mr).length c0) (closeM mn mr), box (B0 8) #[.int .i64 mn, .slice a_mr mr.length c_mr] 24, box bb0 #[.int .i64 mn, .slice a_mr mr.length c_mr, .int .i64 i, .int .i64 j, .slice a_l l.length c_l] 44, imm (.slice a_l l.length c_l) l, imm (.slice a_mr mr.length c_mr) mr])
        refine k (asg (v := .int .i64 (setME mn i j)) rfl rfl (z (nx (sq (rg (k (ldX H18 2 rfl ty24 rfl rfl (by decide) rfl (k (mv rfl s8 (k (mv rfl s9 (k ?_))))))))))))
        have cc6 := ref04_Add (mn := mn) (mr := (closeM mn mr)) (i := i) (j := j) (w := w28) H18.mb (by unfold I64 at *; omega) (H18.rv 3 rfl) (by unfold I64 at *; omega) (by unfold I64 at *; omega) (by first | exact rtm_ | exact (closeM_right rtm_))
        refine ca go33 rfl (ec rfl (ec rfl (ec rfl e0))) cc6 ?_
        rintro _ w29 ⟨a3, c3, rfl, xt26, rv3⟩
        have H19 := H18.ext xt26
        have H20 := H19.put (it := imm (.slice a3 (raddMR mn (closeM mn mr) i j).length c3) (raddMR mn (closeM mn mr) i j)) rfl rv3
        refine k (mv (v := .tuple #[.agg #[.int .i64 (setMN mn i j), .slice a3 (raddMR mn (closeM mn mr) i j).length c3], .int .i64 (setME mn i j)]) rfl rfl (k (xt rfl rfl rfl (k (xt rfl rfl rfl (k (al H20 ty24 ?_)))))))
        intro bb6 w30 xt27 (H21 : HI M w w30 [box bb6 #[.int .i64 0, .slice none 0 0] 24, imm (.slice a3 (raddMR mn (closeM mn mr) i j).length c3) (raddMR mn (closeM mn mr) i j), box bb5 #[.int .i64 (setMN mn i j), .slice a2 (addMR mn (closeM mn mr) i j).length c2] 24, imm (.slice a2 (addMR mn (closeM mn mr) i j).length c2) (addMR mn (closeM mn mr) i j), box bb4 #[.int .i64 mn, .slice a1 (closeM mn mr).length c1] 24, imm (.slice a1 (closeM mn mr).length c1) (closeM mn mr), box bb3 #[.int .i64 mn, .slice a0 (closeM mn mr).length c0] 24, own w.heap.size 73 (.slice a0 (closeM mn mr).length c0) (closeM mn mr), box (B0 8) #[.int .i64 mn, .slice a_mr mr.length c_mr] 24, box bb0 #[.int .i64 mn, .slice a_mr mr.length c_mr, .int .i64 i, .int .i64 j, .slice a_l l.length c_l] 44, imm (.slice a_l l.length c_l) l, imm (.slice a_mr mr.length c_mr) mr])
        refine k (stX H21 0 rfl ty24 rfl rfl rfl rfl rfl rfl rfl ?_)
        intro w31 (H22 : HI M w w31 [box bb6 #[.int .i64 (setMN mn i j), .slice a3 (raddMR mn (closeM mn mr) i j).length c3] 24, imm (.slice a3 (raddMR mn (closeM mn mr) i j).length c3) (raddMR mn (closeM mn mr) i j), box bb5 #[.int .i64 (setMN mn i j), .slice a2 (addMR mn (closeM mn mr) i j).length c2] 24, imm (.slice a2 (addMR mn (closeM mn mr) i j).length c2) (addMR mn (closeM mn mr) i j), box bb4 #[.int .i64 mn, .slice a1 (closeM mn mr).length c1] 24, imm (.slice a1 (closeM mn mr).length c1) (closeM mn mr), box bb3 #[.int .i64 mn, .slice a0 (closeM mn mr).length c0] 24, own w.heap.size 73 (.slice a0 (closeM mn mr).length c0) (closeM mn mr), box (B0 8) #[.int .i64 mn, .slice a_mr mr.length c_mr] 24, box bb0 #[.int .i64 mn, .slice a_mr mr.length c_mr, .int .i64 i, .int .i64 j, .slice a_l l.length c_l] 44, imm (.slice a_l l.length c_l) l, imm (.slice a_mr mr.length c_mr) mr])
        refine k (asg (v := .int .i64 (setME mn i j)) rfl rfl (z (nx (sq ?_))))
        have H23 := H22.freeze 7 rfl
        refine dr 39 [fun (v : Value) (w' : World) => v = .bool true, fun (v : Value) (w' : World) => v = .bool true, fun (v : Value) (w' : World) => v = .agg #[.int .i64 mn, .slice a0 (closeM mn mr).length c0], fun (v : Value) (w' : World) => v = .agg #[.int .i64 mn, .slice a1 (closeM mn mr).length c1], fun (v : Value) (w' : World) => v = .bool (eqM mn (closeM mn mr) mn (closeM mn mr)), fun (v : Value) (w' : World) => v = .bool (eqM mn (closeM mn mr) mn (closeM mn mr)), fun (v : Value) (w' : World) => v = .bool (eqM mn (closeM mn mr) mn (closeM mn mr)), fun (v : Value) (w' : World) => v = .agg #[.int .i64 mn, .slice a_mr mr.length c_mr], fun (v : Value) (w' : World) => v = .bool (closedM mn mr), fun (v : Value) (w' : World) => v = .agg #[.int .i64 mn, .slice a_mr mr.length c_mr], fun (v : Value) (w' : World) => v = .bool (closedM mn mr), fun (v : Value) (w' : World) => v = .bool ((closedM mn mr) == (closedM mn mr)), fun (v : Value) (w' : World) => v = .bool ((closedM mn mr) == (closedM mn mr)), fun (v : Value) (w' : World) => v = .bool ((closedM mn mr) == (closedM mn mr)), fun (v : Value) (w' : World) => v = .int .i64 (((loopF mn mr).getD 0 : Nat) : Int), fun (v : Value) (w' : World) => v = .int .i64 (((loopF mn mr).getD 0 : Nat) : Int), fun (v : Value) (w' : World) => v = .bool (decide ((((loopF mn mr).getD 0 : Nat) : Int) = (((loopF mn mr).getD 0 : Nat) : Int))), fun (v : Value) (w' : World) => v = .bool (decide ((((loopF mn mr).getD 0 : Nat) : Int) = (((loopF mn mr).getD 0 : Nat) : Int))), fun (v : Value) (w' : World) => v = .bool (decide ((((loopF mn mr).getD 0 : Nat) : Int) = (((loopF mn mr).getD 0 : Nat) : Int))), fun (v : Value) (w' : World) => v = .bool ((loopF mn mr).isSome), fun (v : Value) (w' : World) => v = .bool ((loopF mn mr).isSome), fun (v : Value) (w' : World) => v = .bool (((loopF mn mr).isSome) == ((loopF mn mr).isSome)), fun (v : Value) (w' : World) => v = .bool (((loopF mn mr).isSome) == ((loopF mn mr).isSome)), fun (v : Value) (w' : World) => v = .bool (((loopF mn mr).isSome) == ((loopF mn mr).isSome)), fun (v : Value) (w' : World) => v = .agg #[.int .i64 (setMN mn i j), .slice a2 (addMR mn (closeM mn mr) i j).length c2], fun (v : Value) (w' : World) => v = .agg #[.int .i64 (setMN mn i j), .slice a3 (raddMR mn (closeM mn mr) i j).length c3], fun (v : Value) (w' : World) => v = .bool (eqM (setMN mn i j) (addMR mn (closeM mn mr) i j) (setMN mn i j) (raddMR mn (closeM mn mr) i j)), fun (v : Value) (w' : World) => v = .bool (eqM (setMN mn i j) (addMR mn (closeM mn mr) i j) (setMN mn i j) (raddMR mn (closeM mn mr) i j)), fun (v : Value) (w' : World) => v = .bool (eqM (setMN mn i j) (addMR mn (closeM mn mr) i j) (setMN mn i j) (raddMR mn (closeM mn mr) i j)), fun (v : Value) (w' : World) => v = .int .i64 (setME mn i j), fun (v : Value) (w' : World) => v = .int .i64 (setME mn i j), fun (v : Value) (w' : World) => v = .bool (decide ((setME mn i j) = (setME mn i j))), fun (v : Value) (w' : World) => v = .bool (decide ((setME mn i j) = (setME mn i j))), fun (v : Value) (w' : World) => v = .bool (decide ((setME mn i j) = (setME mn i j))), fun (v : Value) (w' : World) => v = .agg #[.int .i64 mn, .slice a_mr mr.length c_mr], fun (v : Value) (w' : World) => v = .slice a_l l.length c_l, fun (v : Value) (w' : World) => ∃ (a4 : Option Addr) (c4 : Nat), v = .agg #[.int .i64 mn, .slice a4 (withinM mn mr l).length c4] ∧ RV (MS M [box bb6 #[.int .i64 (setMN mn i j), .slice a3 (raddMR mn (closeM mn mr) i j).length c3] 24, imm (.slice a3 (raddMR mn (closeM mn mr) i j).length c3) (raddMR mn (closeM mn mr) i j), box bb5 #[.int .i64 (setMN mn i j), .slice a2 (addMR mn (closeM mn mr) i j).length c2] 24, imm (.slice a2 (addMR mn (closeM mn mr) i j).length c2) (addMR mn (closeM mn mr) i j), box bb4 #[.int .i64 mn, .slice a1 (closeM mn mr).length c1] 24, imm (.slice a1 (closeM mn mr).length c1) (closeM mn mr), box bb3 #[.int .i64 mn, .slice a0 (closeM mn mr).length c0] 24, imm (.slice a0 (closeM mn mr).length c0) (closeM mn mr), box (B0 8) #[.int .i64 mn, .slice a_mr mr.length c_mr] 24, box bb0 #[.int .i64 mn, .slice a_mr mr.length c_mr, .int .i64 i, .int .i64 j, .slice a_l l.length c_l] 44, imm (.slice a_l l.length c_l) l, imm (.slice a_mr mr.length c_mr) mr]) w' (.slice a4 (withinM mn mr l).length c4) (withinM mn mr l), fun (v : Value) (w' : World) => v = .agg #[.int .i64 mn, .slice a_mr mr.length c_mr], fun (v : Value) (w' : World) => v = .slice a_l l.length c_l] rfl (by kernel_rfl) ?_ ?_
        ·
          refine ⟨fun _ => ⟨fun f14 w38 hf13 xt34 hp13 => ?_, fun _ _ _ _ h => h⟩, ?_⟩
          ·
            have H31 := H23.ext xt34
            have cc13 := awake04 (w := w38) (hT.ext H31.below)
            refine ca go21 rfl e0 cc13 ?_
            rintro _ w39 ⟨rfl, xt35⟩
            have H32 := H31.ext xt35
            exact ⟨_, rfl, xt35, rfl⟩
          refine ⟨fun _ => ⟨fun f15 w40 hf14 xt36 hp14 => ?_, fun _ _ _ _ h => h⟩, ?_⟩
          ·
            have H33 := H23.ext xt36
            have s13 : f15 62 = .bool true := hp14 0 rfl rfl
            refine mv rfl s13 ?_
            exact ⟨_, rfl, Ext.refl _, rfl⟩
          refine ⟨fun _ => ⟨fun f16 w41 hf15 xt37 hp15 => ?_, fun _ _ _ _ h => h⟩, ?_⟩
          ·
            have H34 := H23.ext xt37
            have s14 : f16 63 = .bool true := hp15 1 rfl rfl
            refine gy rfl rfl s14 rfl (ldX H34 6 rfl ty24 rfl (hf15 7 rfl) (by decide) rfl ?_)
            exact ⟨_, rfl, Ext.refl _, rfl⟩
          refine ⟨fun _ => ⟨fun f17 w42 hf16 xt38 hp16 => ?_, fun _ _ _ _ h => h⟩, ?_⟩
          ·
            have H35 := H23.ext xt38
            have s15 : f17 63 = .bool true := hp16 1 rfl rfl
            refine gy rfl rfl s15 rfl (ldX H35 4 rfl ty24 rfl (hf16 8 rfl) (by decide) rfl ?_)
            exact ⟨_, rfl, Ext.refl _, rfl⟩
          refine ⟨fun _ => ⟨fun f18 w43 hf17 xt39 hp17 => ?_, fun _ _ _ _ h => h⟩, ?_⟩
          ·
            have H36 := H23.ext xt39
            have s16 : f18 63 = .bool true := hp17 1 rfl rfl
            have s17 : f18 64 = .agg #[.int .i64 mn, .slice a0 (closeM mn mr).length c0] := hp17 2 rfl rfl
            have s18 : f18 65 = .agg #[.int .i64 mn, .slice a1 (closeM mn mr).length c1] := hp17 3 rfl rfl
            refine gy rfl rfl s16 rfl ?_
            have cc14 := ref03_Equal (an := mn) (ar := (closeM mn mr)) (bn := mn) (br := (closeM mn mr)) (w := w43) H36.mb (by unfold I64 at *; omega) (H36.rv 7 rfl) (by unfold I64 at *; omega) (H36.rv 5 rfl)
            refine ca go18 rfl (ec s17 (ec s18 e0)) cc14 ?_
            rintro _ w44 ⟨rfl, xt40⟩
            have H37 := H36.ext xt40
            exact ⟨_, rfl, xt40, rfl⟩
          refine ⟨fun _ => ⟨fun f19 w45 hf18 xt41 hp18 => ?_, fun _ _ _ _ h => h⟩, ?_⟩
          ·
            have H38 := H23.ext xt41
            have s19 : f19 63 = .bool true := hp18 1 rfl rfl
            have s20 : f19 66 = .bool (eqM mn (closeM mn mr) mn (closeM mn mr)) := hp18 4 rfl rfl
            refine pickT rfl rfl rfl s19 rfl s20 ?_
            exact ⟨_, rfl, Ext.refl _, rfl⟩
          refine ⟨fun _ => ⟨fun f20 w46 hf19 xt42 hp19 => ?_, fun _ _ _ _ h => h⟩, ?_⟩
          ·
            have H39 := H23.ext xt42
            have s21 : f20 67 = .bool (eqM mn (closeM mn mr) mn (closeM mn mr)) := hp19 5 rfl rfl
            refine mv rfl s21 ?_
            exact ⟨_, rfl, Ext.refl _, rfl⟩
          refine ⟨fun _ => ⟨fun f21 w47 hf20 xt43 hp20 => ?_, fun _ _ _ _ h => h⟩, ?_⟩
          ·
            have H40 := H23.ext xt43
            have s22 : f21 68 = .bool (eqM mn (closeM mn mr) mn (closeM mn mr)) := hp20 6 rfl rfl
            refine gy rfl rfl s22 (eqM_refl _ _) (ldX H40 8 rfl ty24 rfl ((hf20 3 rfl).trans s12) (by decide) rfl ?_)
            exact ⟨_, rfl, Ext.refl _, rfl⟩
          refine ⟨fun _ => ⟨fun f22 w48 hf21 xt44 hp21 => ?_, fun _ _ _ _ h => h⟩, ?_⟩
          ·
            have H41 := H23.ext xt44
            have s23 : f22 68 = .bool (eqM mn (closeM mn mr) mn (closeM mn mr)) := hp21 6 rfl rfl
            have s24 : f22 69 = .agg #[.int .i64 mn, .slice a_mr mr.length c_mr] := hp21 7 rfl rfl
            refine gy rfl rfl s23 (eqM_refl _ _) ?_
            have cc15 := hull_Closed (mn := mn) (mr := mr) (w := w48) H41.mb (hT.ext H41.below) (by unfold I64 at *; omega) (H41.rv 11 rfl) (by first | exact rtm_ | exact (closeM_right rtm_))
            refine ca go23 rfl (ec s24 e0) cc15 ?_
            rintro _ w49 ⟨rfl, xt45⟩
            have H42 := H41.ext xt45
            exact ⟨_, rfl, xt45, rfl⟩
          refine ⟨fun _ => ⟨fun f23 w50 hf22 xt46 hp22 => ?_, fun _ _ _ _ h => h⟩, ?_⟩
          ·
            have H43 := H23.ext xt46
            have s25 : f23 68 = .bool (eqM mn (closeM mn mr) mn (closeM mn mr)) := hp22 6 rfl rfl
            refine gy rfl rfl s25 (eqM_refl _ _) (ldX H43 8 rfl ty24 rfl ((hf22 3 rfl).trans s12) (by decide) rfl ?_)
            exact ⟨_, rfl, Ext.refl _, rfl⟩
          refine ⟨fun _ => ⟨fun f24 w51 hf23 xt47 hp23 => ?_, fun _ _ _ _ h => h⟩, ?_⟩
          ·
            have H44 := H23.ext xt47
            have s26 : f24 68 = .bool (eqM mn (closeM mn mr) mn (closeM mn mr)) := hp23 6 rfl rfl
            have s27 : f24 71 = .agg #[.int .i64 mn, .slice a_mr mr.length c_mr] := hp23 9 rfl rfl
            refine gy rfl rfl s26 (eqM_refl _ _) ?_
            have cc16 := ref04_Closed (mn := mn) (mr := mr) (w := w51) H44.mb (by unfold I64 at *; omega) (H44.rv 11 rfl) (by first | exact (right_sq rtm_).1 | exact (right_sq rtm_).2.1 | exact (right_sq rtm_).2.2.1 | exact (right_sq rtm_).2.2.2.2 | exact (right_sq (closeM_right rtm_)).1 | exact (right_sq (closeM_right rtm_)).2.1 | exact (right_sq (closeM_right rtm_)).2.2.1 | exact (right_sq (closeM_right rtm_)).2.2.2.2) (by first | exact (right_sq rtm_).1 | exact (right_sq rtm_).2.1 | exact (right_sq rtm_).2.2.1 | exact (right_sq rtm_).2.2.2.2 | exact (right_sq (closeM_right rtm_)).1 | exact (right_sq (closeM_right rtm_)).2.1 | exact (right_sq (closeM_right rtm_)).2.2.1 | exact (right_sq (closeM_right rtm_)).2.2.2.2) (by first | exact (right_sq rtm_).1 | exact (right_sq rtm_).2.1 | exact (right_sq rtm_).2.2.1 | exact (right_sq rtm_).2.2.2.2 | exact (right_sq (closeM_right rtm_)).1 | exact (right_sq (closeM_right rtm_)).2.1 | exact (right_sq (closeM_right rtm_)).2.2.1 | exact (right_sq (closeM_right rtm_)).2.2.2.2)
            refine ca go24 rfl (ec s27 e0) cc16 ?_
            rintro _ w52 ⟨rfl, xt48⟩
            have H45 := H44.ext xt48
            exact ⟨_, rfl, xt48, rfl⟩
          refine ⟨fun _ => ⟨fun f25 w53 hf24 xt49 hp24 => ?_, fun _ _ _ _ h => h⟩, ?_⟩
          ·
            have H46 := H23.ext xt49
            have s28 : f25 68 = .bool (eqM mn (closeM mn mr) mn (closeM mn mr)) := hp24 6 rfl rfl
            have s29 : f25 70 = .bool (closedM mn mr) := hp24 8 rfl rfl
            have s30 : f25 72 = .bool (closedM mn mr) := hp24 10 rfl rfl
            refine gy rfl rfl s28 (eqM_refl _ _) (eqB rfl rfl s29 s30 un4 ?_)
            exact ⟨_, rfl, Ext.refl _, rfl⟩
          refine ⟨fun _ => ⟨fun f26 w54 hf25 xt50 hp25 => ?_, fun _ _ _ _ h => h⟩, ?_⟩
          ·
            have H47 := H23.ext xt50
            have s31 : f26 68 = .bool (eqM mn (closeM mn mr) mn (closeM mn mr)) := hp25 6 rfl rfl
            have s32 : f26 73 = .bool ((closedM mn mr) == (closedM mn mr)) := hp25 11 rfl rfl
            refine pickT rfl rfl rfl s31 (eqM_refl _ _) s32 ?_
            exact ⟨_, rfl, Ext.refl _, rfl⟩
          refine ⟨fun _ => ⟨fun f27 w55 hf26 xt51 hp26 => ?_, fun _ _ _ _ h => h⟩, ?_⟩
          ·
            have H48 := H23.ext xt51
            have s33 : f27 74 = .bool ((closedM mn mr) == (closedM mn mr)) := hp26 12 rfl rfl
            refine mv rfl s33 ?_
            exact ⟨_, rfl, Ext.refl _, rfl⟩
          refine ⟨fun _ => ⟨fun f28 w56 hf27 xt52 hp27 => ?_, fun _ _ _ _ h => h⟩, ?_⟩
          ·
            have H49 := H23.ext xt52
            have s34 : f28 75 = .bool ((closedM mn mr) == (closedM mn mr)) := hp27 13 rfl rfl
            have tr5 : ((closedM mn mr) == (closedM mn mr)) = true := (by simp)
            refine gy rfl rfl s34 tr5 (mv rfl (hf27 9 rfl) ?_)
            exact ⟨_, rfl, Ext.refl _, rfl⟩
          refine ⟨fun _ => ⟨fun f29 w57 hf28 xt53 hp28 => ?_, fun _ _ _ _ h => h⟩, ?_⟩
          ·
            have H50 := H23.ext xt53
            have s35 : f29 75 = .bool ((closedM mn mr) == (closedM mn mr)) := hp28 13 rfl rfl
            have tr6 : ((closedM mn mr) == (closedM mn mr)) = true := (by simp)
            refine gy rfl rfl s35 tr6 (mv rfl (hf28 11 rfl) ?_)
            exact ⟨_, rfl, Ext.refl _, rfl⟩
          refine ⟨fun _ => ⟨fun f30 w58 hf29 xt54 hp29 => ?_, fun _ _ _ _ h => h⟩, ?_⟩
          ·
            have H51 := H23.ext xt54
            have s36 : f30 75 = .bool ((closedM mn mr) == (closedM mn mr)) := hp29 13 rfl rfl
            have s37 : f30 76 = .int .i64 (((loopF mn mr).getD 0 : Nat) : Int) := hp29 14 rfl rfl
            have s38 : f30 77 = .int .i64 (((loopF mn mr).getD 0 : Nat) : Int) := hp29 15 rfl rfl
            have tr7 : ((closedM mn mr) == (closedM mn mr)) = true := (by simp)
            refine gy rfl rfl s36 tr7 (eql rfl rfl s37 s38 ?_)
            exact ⟨_, rfl, Ext.refl _, rfl⟩
          refine ⟨fun _ => ⟨fun f31 w59 hf30 xt55 hp30 => ?_, fun _ _ _ _ h => h⟩, ?_⟩
          ·
            have H52 := H23.ext xt55
            have s39 : f31 75 = .bool ((closedM mn mr) == (closedM mn mr)) := hp30 13 rfl rfl
            have s40 : f31 78 = .bool (decide ((((loopF mn mr).getD 0 : Nat) : Int) = (((loopF mn mr).getD 0 : Nat) : Int))) := hp30 16 rfl rfl
            have tr8 : ((closedM mn mr) == (closedM mn mr)) = true := (by simp)
            refine pickT rfl rfl rfl s39 tr8 s40 ?_
            exact ⟨_, rfl, Ext.refl _, rfl⟩
          refine ⟨fun _ => ⟨fun f32 w60 hf31 xt56 hp31 => ?_, fun _ _ _ _ h => h⟩, ?_⟩
          ·
            have H53 := H23.ext xt56
            have s41 : f32 79 = .bool (decide ((((loopF mn mr).getD 0 : Nat) : Int) = (((loopF mn mr).getD 0 : Nat) : Int))) := hp31 17 rfl rfl
            refine mv rfl s41 ?_
            exact ⟨_, rfl, Ext.refl _, rfl⟩
          refine ⟨fun _ => ⟨fun f33 w61 hf32 xt57 hp32 => ?_, fun _ _ _ _ h => h⟩, ?_⟩
          ·
            have H54 := H23.ext xt57
            have s42 : f33 80 = .bool (decide ((((loopF mn mr).getD 0 : Nat) : Int) = (((loopF mn mr).getD 0 : Nat) : Int))) := hp32 18 rfl rfl
            have tr9 : (decide ((((loopF mn mr).getD 0 : Nat) : Int) = (((loopF mn mr).getD 0 : Nat) : Int))) = true := (by simp)
            refine gy rfl rfl s42 tr9 (mv rfl (hf32 10 rfl) ?_)
            exact ⟨_, rfl, Ext.refl _, rfl⟩
          refine ⟨fun _ => ⟨fun f34 w62 hf33 xt58 hp33 => ?_, fun _ _ _ _ h => h⟩, ?_⟩
          ·
            have H55 := H23.ext xt58
            have s43 : f34 80 = .bool (decide ((((loopF mn mr).getD 0 : Nat) : Int) = (((loopF mn mr).getD 0 : Nat) : Int))) := hp33 18 rfl rfl
            have tr10 : (decide ((((loopF mn mr).getD 0 : Nat) : Int) = (((loopF mn mr).getD 0 : Nat) : Int))) = true := (by simp)
            refine gy rfl rfl s43 tr10 (mv rfl (hf33 12 rfl) ?_)
            exact ⟨_, rfl, Ext.refl _, rfl⟩
          refine ⟨fun _ => ⟨fun f35 w63 hf34 xt59 hp34 => ?_, fun _ _ _ _ h => h⟩, ?_⟩
          ·
            have H56 := H23.ext xt59
            have s44 : f35 80 = .bool (decide ((((loopF mn mr).getD 0 : Nat) : Int) = (((loopF mn mr).getD 0 : Nat) : Int))) := hp34 18 rfl rfl
            have s45 : f35 81 = .bool ((loopF mn mr).isSome) := hp34 19 rfl rfl
            have s46 : f35 82 = .bool ((loopF mn mr).isSome) := hp34 20 rfl rfl
            have tr11 : (decide ((((loopF mn mr).getD 0 : Nat) : Int) = (((loopF mn mr).getD 0 : Nat) : Int))) = true := (by simp)
            refine gy rfl rfl s44 tr11 (eqB rfl rfl s45 s46 un4 ?_)
            exact ⟨_, rfl, Ext.refl _, rfl⟩
          refine ⟨fun _ => ⟨fun f36 w64 hf35 xt60 hp35 => ?_, fun _ _ _ _ h => h⟩, ?_⟩
          ·
            have H57 := H23.ext xt60
            have s47 : f36 80 = .bool (decide ((((loopF mn mr).getD 0 : Nat) : Int) = (((loopF mn mr).getD 0 : Nat) : Int))) := hp35 18 rfl rfl
            have s48 : f36 83 = .bool (((loopF mn mr).isSome) == ((loopF mn mr).isSome)) := hp35 21 rfl rfl
            have tr12 : (decide ((((loopF mn mr).getD 0 : Nat) : Int) = (((loopF mn mr).getD 0 : Nat) : Int))) = true := (by simp)
            refine pickT rfl rfl rfl s47 tr12 s48 ?_
            exact ⟨_, rfl, Ext.refl _, rfl⟩
          refine ⟨fun _ => ⟨fun f37 w65 hf36 xt61 hp36 => ?_, fun _ _ _ _ h => h⟩, ?_⟩
          ·
            have H58 := H23.ext xt61
            have s49 : f37 84 = .bool (((loopF mn mr).isSome) == ((loopF mn mr).isSome)) := hp36 22 rfl rfl
            refine mv rfl s49 ?_
            exact ⟨_, rfl, Ext.refl _, rfl⟩
          refine ⟨fun _ => ⟨fun f38 w66 hf37 xt62 hp37 => ?_, fun _ _ _ _ h => h⟩, ?_⟩
          ·
            have H59 := H23.ext xt62
            have s50 : f38 85 = .bool (((loopF mn mr).isSome) == ((loopF mn mr).isSome)) := hp37 23 rfl rfl
            have tr13 : (((loopF mn mr).isSome) == ((loopF mn mr).isSome)) = true := (by simp)
            refine gy rfl rfl s50 tr13 (ldX H59 2 rfl ty24 rfl (hf37 13 rfl) (by decide) rfl ?_)
            exact ⟨_, rfl, Ext.refl _, rfl⟩
          refine ⟨fun _ => ⟨fun f39 w67 hf38 xt63 hp38 => ?_, fun _ _ _ _ h => h⟩, ?_⟩
          ·
            have H60 := H23.ext xt63
            have s51 : f39 85 = .bool (((loopF mn mr).isSome) == ((loopF mn mr).isSome)) := hp38 23 rfl rfl
            have tr14 : (((loopF mn mr).isSome) == ((loopF mn mr).isSome)) = true := (by simp)
            refine gy rfl rfl s51 tr14 (ldX H60 0 rfl ty24 rfl (hf38 15 rfl) (by decide) rfl ?_)
            exact ⟨_, rfl, Ext.refl _, rfl⟩
          refine ⟨fun _ => ⟨fun f40 w68 hf39 xt64 hp39 => ?_, fun _ _ _ _ h => h⟩, ?_⟩
          ·
            have H61 := H23.ext xt64
            have s52 : f40 85 = .bool (((loopF mn mr).isSome) == ((loopF mn mr).isSome)) := hp39 23 rfl rfl
            have s53 : f40 86 = .agg #[.int .i64 (setMN mn i j), .slice a2 (addMR mn (closeM mn mr) i j).length c2] := hp39 24 rfl rfl
            have s54 : f40 87 = .agg #[.int .i64 (setMN mn i j), .slice a3 (raddMR mn (closeM mn mr) i j).length c3] := hp39 25 rfl rfl
            have tr15 : (((loopF mn mr).isSome) == ((loopF mn mr).isSome)) = true := (by simp)
            refine gy rfl rfl s52 tr15 ?_
            have cc17 := ref03_Equal (an := (setMN mn i j)) (ar := (addMR mn (closeM mn mr) i j)) (bn := (setMN mn i j)) (br := (raddMR mn (closeM mn mr) i j)) (w := w68) H61.mb (by unfold setMN; unfold I64 at *; split <;> omega) (H61.rv 3 rfl) (by unfold setMN; unfold I64 at *; split <;> omega) (H61.rv 1 rfl)
            refine ca go18 rfl (ec s53 (ec s54 e0)) cc17 ?_
            rintro _ w69 ⟨rfl, xt65⟩
            have H62 := H61.ext xt65
            exact ⟨_, rfl, xt65, rfl⟩
          refine ⟨fun _ => ⟨fun f41 w70 hf40 xt66 hp40 => ?_, fun _ _ _ _ h => h⟩, ?_⟩
          ·
            have H63 := H23.ext xt66
            have s55 : f41 85 = .bool (((loopF mn mr).isSome) == ((loopF mn mr).isSome)) := hp40 23 rfl rfl
            have s56 : f41 88 = .bool (eqM (setMN mn i j) (addMR mn (closeM mn mr) i j) (setMN mn i j) (raddMR mn (closeM mn mr) i j)) := hp40 26 rfl rfl
            have tr16 : (((loopF mn mr).isSome) == ((loopF mn mr).isSome)) = true := (by simp)
            refine pickT rfl rfl rfl s55 tr16 s56 ?_
            exact ⟨_, rfl, Ext.refl _, rfl⟩
          refine ⟨fun _ => ⟨fun f42 w71 hf41 xt67 hp41 => ?_, fun _ _ _ _ h => h⟩, ?_⟩
          ·
            have H64 := H23.ext xt67
            have s57 : f42 89 = .bool (eqM (setMN mn i j) (addMR mn (closeM mn mr) i j) (setMN mn i j) (raddMR mn (closeM mn mr) i j)) := hp41 27 rfl rfl
            refine mv rfl s57 ?_
            exact ⟨_, rfl, Ext.refl _, rfl⟩
          refine ⟨fun _ => ⟨fun f43 w72 hf42 xt68 hp42 => ?_, fun _ _ _ _ h => h⟩, ?_⟩
          ·
            have H65 := H23.ext xt68
            have s58 : f43 90 = .bool (eqM (setMN mn i j) (addMR mn (closeM mn mr) i j) (setMN mn i j) (raddMR mn (closeM mn mr) i j)) := hp42 28 rfl rfl
            have tr17 : (eqM (setMN mn i j) (addMR mn (closeM mn mr) i j) (setMN mn i j) (raddMR mn (closeM mn mr) i j)) = true := (by rw [add_radd rtm_]; exact eqM_refl _ _)
            refine gy rfl rfl s58 tr17 (mv rfl (hf42 14 rfl) ?_)
            exact ⟨_, rfl, Ext.refl _, rfl⟩
          refine ⟨fun _ => ⟨fun f44 w73 hf43 xt69 hp43 => ?_, fun _ _ _ _ h => h⟩, ?_⟩
          ·
            have H66 := H23.ext xt69
            have s59 : f44 90 = .bool (eqM (setMN mn i j) (addMR mn (closeM mn mr) i j) (setMN mn i j) (raddMR mn (closeM mn mr) i j)) := hp43 28 rfl rfl
            have tr18 : (eqM (setMN mn i j) (addMR mn (closeM mn mr) i j) (setMN mn i j) (raddMR mn (closeM mn mr) i j)) = true := (by rw [add_radd rtm_]; exact eqM_refl _ _)
            refine gy rfl rfl s59 tr18 (mv rfl (hf43 16 rfl) ?_)
            exact ⟨_, rfl, Ext.refl _, rfl⟩
          refine ⟨fun _ => ⟨fun f45 w74 hf44 xt70 hp44 => ?_, fun _ _ _ _ h => h⟩, ?_⟩
          ·
            have H67 := H23.ext xt70
            have s60 : f45 90 = .bool (eqM (setMN mn i j) (addMR mn (closeM mn mr) i j) (setMN mn i j) (raddMR mn (closeM mn mr) i j)) := hp44 28 rfl rfl
            have s61 : f45 91 = .int .i64 (setME mn i j) := hp44 29 rfl rfl
            have s62 : f45 92 = .int .i64 (setME mn i j) := hp44 30 rfl rfl
            have tr19 : (eqM (setMN mn i j) (addMR mn (closeM mn mr) i j) (setMN mn i j) (raddMR mn (closeM mn mr) i j)) = true := (by rw [add_radd rtm_]; exact eqM_refl _ _)
            refine gy rfl rfl s60 tr19 (eql rfl rfl s61 s62 ?_)
            exact ⟨_, rfl, Ext.refl _, rfl⟩
          refine ⟨fun _ => ⟨fun f46 w75 hf45 xt71 hp45 => ?_, fun _ _ _ _ h => h⟩, ?_⟩
          ·
            have H68 := H23.ext xt71
            have s63 : f46 90 = .bool (eqM (setMN mn i j) (addMR mn (closeM mn mr) i j) (setMN mn i j) (raddMR mn (closeM mn mr) i j)) := hp45 28 rfl rfl
            have s64 : f46 93 = .bool (decide ((setME mn i j) = (setME mn i j))) := hp45 31 rfl rfl
            have tr20 : (eqM (setMN mn i j) (addMR mn (closeM mn mr) i j) (setMN mn i j) (raddMR mn (closeM mn mr) i j)) = true := (by rw [add_radd rtm_]; exact eqM_refl _ _)
            refine pickT rfl rfl rfl s63 tr20 s64 ?_
            exact ⟨_, rfl, Ext.refl _, rfl⟩
          refine ⟨fun _ => ⟨fun f47 w76 hf46 xt72 hp46 => ?_, fun _ _ _ _ h => h⟩, ?_⟩
          ·
            have H69 := H23.ext xt72
            have s65 : f47 94 = .bool (decide ((setME mn i j) = (setME mn i j))) := hp46 32 rfl rfl
            refine mv rfl s65 ?_
            exact ⟨_, rfl, Ext.refl _, rfl⟩
          refine ⟨fun _ => ⟨fun f48 w77 hf47 xt73 hp47 => ?_, fun _ _ _ _ h => h⟩, ?_⟩
          ·
            have H70 := H23.ext xt73
            have s66 : f48 95 = .bool (decide ((setME mn i j) = (setME mn i j))) := hp47 33 rfl rfl
            have tr21 : (decide ((setME mn i j) = (setME mn i j))) = true := (by simp)
            refine gy rfl rfl s66 tr21 (ldX H70 8 rfl ty24 rfl ((hf47 3 rfl).trans s12) (by decide) rfl ?_)
            exact ⟨_, rfl, Ext.refl _, rfl⟩
          refine ⟨fun _ => ⟨fun f49 w78 hf48 xt74 hp48 => ?_, fun _ _ _ _ h => h⟩, ?_⟩
          ·
            have H71 := H23.ext xt74
            have s67 : f49 95 = .bool (decide ((setME mn i j) = (setME mn i j))) := hp48 33 rfl rfl
            have tr22 : (decide ((setME mn i j) = (setME mn i j))) = true := (by simp)
            refine gy rfl rfl s67 tr22 (mv rfl ((hf48 6 rfl).trans s10) ?_)
            exact ⟨_, rfl, Ext.refl _, rfl⟩
          refine ⟨fun _ => ⟨fun f50 w79 hf49 xt75 hp49 => ?_, by rintro _ _ _ x_ ⟨a4, c4, e_, rv5⟩; exact ⟨a4, c4, e_, rv5.lift (Up.ext x_)⟩⟩, ?_⟩
          ·
            have H72 := H23.ext xt75
            have s68 : f50 95 = .bool (decide ((setME mn i j) = (setME mn i j))) := hp49 33 rfl rfl
            have s69 : f50 96 = .agg #[.int .i64 mn, .slice a_mr mr.length c_mr] := hp49 34 rfl rfl
            have s70 : f50 97 = .slice a_l l.length c_l := hp49 35 rfl rfl
            have tr23 : (decide ((setME mn i j) = (setME mn i j))) = true := (by simp)
            refine gy rfl rfl s68 tr23 ?_
            have cc18 := hull_Within (mn := mn) (mr := mr) (l := l) (w := w79) H72.mb (by unfold I64 at *; omega) (H72.rv 11 rfl) (H72.rv 10 rfl) (by first | exact rtm_ | exact (closeM_right rtm_)) (by omega)
            refine ca go34 rfl (ec s69 (ec s70 e0)) cc18 ?_
            rintro _ w80 ⟨a5, c5, rfl, xt76, rv6⟩
            have rv7 := OwnsG.rv rv6 H72.mb
            have H73 := H72.ext xt76
            have H74 := H73.put (it := imm (.slice a5 (withinM mn mr l).length c5) (withinM mn mr l)) rfl rv7
            exact ⟨_, rfl, xt76, ⟨a5, c5, rfl, rv7⟩⟩
          refine ⟨fun _ => ⟨fun f51 w81 hf50 xt77 hp50 => ?_, fun _ _ _ _ h => h⟩, ?_⟩
          ·
            have H75 := H23.ext xt77
            have s71 : f51 95 = .bool (decide ((setME mn i j) = (setME mn i j))) := hp50 33 rfl rfl
            have tr24 : (decide ((setME mn i j) = (setME mn i j))) = true := (by simp)
            refine gy rfl rfl s71 tr24 (ldX H75 8 rfl ty24 rfl ((hf50 3 rfl).trans s12) (by decide) rfl ?_)
            exact ⟨_, rfl, Ext.refl _, rfl⟩
          refine ⟨fun _ => ⟨fun f52 w82 hf51 xt78 hp51 => ?_, fun _ _ _ _ h => h⟩, ?_⟩
          ·
            have H76 := H23.ext xt78
            have s72 : f52 95 = .bool (decide ((setME mn i j) = (setME mn i j))) := hp51 33 rfl rfl
            have tr25 : (decide ((setME mn i j) = (setME mn i j))) = true := (by simp)
            refine gy rfl rfl s72 tr25 (mv rfl ((hf51 6 rfl).trans s10) ?_)
            exact ⟨_, rfl, Ext.refl _, rfl⟩
          exact DSteps.rest rfl _
        · intro f53 w83 hf52 xt79 hp52
          have H77 := H23.ext xt79
          have s73 : f53 95 = .bool (decide ((setME mn i j) = (setME mn i j))) := hp52 33 rfl
          obtain ⟨a6, c6, s74, rv8⟩ : ∃ (a6 : Option Addr) (c6 : Nat), f53 98 = .agg #[.int .i64 mn, .slice a6 (withinM mn mr l).length c6] ∧ RV (MS M [box bb6 #[.int .i64 (setMN mn i j), .slice a3 (raddMR mn (closeM mn mr) i j).length c3] 24, imm (.slice a3 (raddMR mn (closeM mn mr) i j).length c3) (raddMR mn (closeM mn mr) i j), box bb5 #[.int .i64 (setMN mn i j), .slice a2 (addMR mn (closeM mn mr) i j).length c2] 24, imm (.slice a2 (addMR mn (closeM mn mr) i j).length c2) (addMR mn (closeM mn mr) i j), box bb4 #[.int .i64 mn, .slice a1 (closeM mn mr).length c1] 24, imm (.slice a1 (closeM mn mr).length c1) (closeM mn mr), box bb3 #[.int .i64 mn, .slice a0 (closeM mn mr).length c0] 24, imm (.slice a0 (closeM mn mr).length c0) (closeM mn mr), box (B0 8) #[.int .i64 mn, .slice a_mr mr.length c_mr] 24, box bb0 #[.int .i64 mn, .slice a_mr mr.length c_mr, .int .i64 i, .int .i64 j, .slice a_l l.length c_l] 44, imm (.slice a_l l.length c_l) l, imm (.slice a_mr mr.length c_mr) mr]) w83 (.slice a6 (withinM mn mr l).length c6) (withinM mn mr l) := hp52 36 rfl
          have H78 := H77.put (it := imm (.slice a6 (withinM mn mr l).length c6) (withinM mn mr l)) rfl rv8
          have s75 : f53 99 = .agg #[.int .i64 mn, .slice a_mr mr.length c_mr] := hp52 37 rfl
          have s76 : f53 100 = .slice a_l l.length c_l := hp52 38 rfl
          have tr26 : (decide ((setME mn i j) = (setME mn i j))) = true := (by simp)
          refine k (gy rfl rfl s73 tr26 ?_)
          have cc19 := ref04_Within (mn := mn) (mr := mr) (l := l) (w := w83) H78.mb (by unfold I64 at *; omega) (H78.rv 12 rfl) (H78.rv 11 rfl) (by first | exact rtm_ | exact (closeM_right rtm_))
          refine ca go35 rfl (ec s75 (ec s76 e0)) cc19 ?_
          rintro _ w84 ⟨a7, c7, rfl, xt80, rv9⟩
          have H79 := H78.ext xt80
          have H80 := H79.put (it := imm (.slice a7 (withinM mn mr l).length c7) (withinM mn mr l)) rfl rv9
          refine k (gy rfl rfl s73 tr26 ?_)
          have cc20 := ref03_Equal (an := mn) (ar := (withinM mn mr l)) (bn := mn) (br := (withinM mn mr l)) (w := w84) H80.mb (by unfold I64 at *; omega) (H80.rv 1 rfl) (by unfold I64 at *; omega) (H80.rv 0 rfl)
          refine ca go18 rfl (ec s74 (ec rfl e0)) cc20 ?_
          rintro _ w85 ⟨rfl, xt81⟩
          have H81 := H80.ext xt81
          refine k (pickT rfl rfl rfl s73 tr26 rfl (k (asg (v := .bool (eqM mn (withinM mn mr l) mn (withinM mn mr l))) rfl rfl (z (nx (rt (r1 rfl rfl ?_)))))))
          have e0 : (eqM mn (withinM mn mr l) mn (withinM mn mr l) : Bool) = true := by exact (eqM_refl _ _)
          have ev_ := cg1 (fun (x_0 : Bool) => (.bool x_0 : Value)) e0
          exact ⟨ev_, H81.below⟩
end Go.Proofs.YtmhopljngkgidaaDoor
