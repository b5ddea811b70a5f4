/- PRINTED by my own tool (wip/tool/gen.py): contracts of Go functions of this seat, each with its proof. -/
import Derived.Test.YtefcbihikknlkaaGreatDoorOwnB
import Derived.Test.YtefcbihikknlkaaGreatDoorGenB
import Derived.Test.YtefcbihikknlkaaGreatDoorGenA
import Derived.Test.YtefcbihikknlkaaGreatDoorOwnA
import Derived.Test.YtefcbihikknlkaaGreatDoorGenC
set_option linter.unusedVariables false
set_option linter.unusedSimpArgs false
namespace Go.Proofs.YtefcbihikknlkaaGreatDoor
open Go.Ew Go.RowKit
set_option maxRecDepth 100000
set_option maxHeartbeats 1600000
attribute [local irreducible] WL WC SO PW PX Code.wp wpList retQ Ret
attribute [local irreducible] bitB hasW inR hasR setR countW countR subR words newR listR orR firstW tab8
variable {M : Nat → Prop} {w w_ : World}
theorem go116 : GoF Tryz.prog 116 := ⟨_, _, Tryz.func116, rfl, by kernel_rfl⟩
theorem go94 : GoF Tryz.prog 94 := ⟨_, _, Tryz.func94, rfl, by kernel_rfl⟩
theorem go57 : GoF Tryz.prog 57 := ⟨_, _, Tryz.func57, rfl, by kernel_rfl⟩
theorem go61 : GoF Tryz.prog 61 := ⟨_, _, Tryz.func61, rfl, by kernel_rfl⟩
theorem go59 : GoF Tryz.prog 59 := ⟨_, _, Tryz.func59, rfl, by kernel_rfl⟩
theorem go64 : GoF Tryz.prog 64 := ⟨_, _, Tryz.func64, rfl, by kernel_rfl⟩
theorem ref20_op {a_fv : OA} {n_fv c_fv : Nat} {a_fi : OA} {c_fi : Nat} {fi : List ItemL} {a_fo : OA} {n_fo c_fo : Nat} {n1 : Int} (hM : ∀ b, M b → b < w.heap.size) (h_fi : RV M w (.slice a_fi fi.length c_fi) fi) (h_n1 : I64 n1) : Calls Tryz.prog 57 #[.agg #[.slice a_fv n_fv c_fv, .slice a_fi fi.length c_fi, .slice a_fo n_fo c_fo], .int .i64 n1] w (Ret fun v w' =>  v = .bool (inO fi n1) ∧ Ext w w') := by
 refine enter 14 Tryz.func57 rfl rfl rfl fun f0 ha => ?_
 have H := HI.start (M0 := M) (w := w) hM
 have H0 := H.put (it := iL a_fi fi c_fi) rfl (by rw [MS_nil]; exact h_fi)
 have ln_fi := rv_len h_fi
 have i0 : f0 0 = .agg #[.slice a_fv n_fv c_fv, sL a_fi fi c_fi, .slice a_fo n_fo c_fo] := ha 0 (by simp)
 have i1 : f0 1 = iV n1 := ha 1 (by simp)
 refine sq (rg (k (bx H0 rfl i0 ?_)))
 intro bb0 w0 xt0 (H1 : HI M w w0 [box bb0 #[.slice a_fv n_fv c_fv, sL a_fi fi c_fi, .slice a_fo n_fo c_fo] 32, iL a_fi fi c_fi])
 refine k (asg (v := .bool false) rfl rfl (z (nx (sq (rg (k (mv rfl i1 (k (geq rfl rfl rfl rfl (k (mv (v := .bool (decide (0 ≤ n1))) rfl rfl ?_)))))))))))
 rcases bE (decide (0 ≤ n1)) with b0 | b0
 ·
  have p0 := dT b0
  refine k (gy rfl rfl rfl b0 (mv rfl i1 (k (gy rfl rfl rfl b0 (fa fl32_1 rfl rfl (k (gy rfl rfl rfl b0 (lx H1 0 rfl ty29 rfl rfl rfl (k (gy rfl rfl rfl b0 (lnS rfl rfl un29 (k (gy rfl rfl rfl b0 (lss rfl rfl rfl rfl (k (pickT rfl rfl rfl rfl b0 rfl (k (asg (v := .bool (decide (n1 < (fi.length : Int)))) rfl rfl (z (nx (rt (r1 rfl rfl ?_))))))))))))))))))))))
  exact ⟨congrArg Value.bool (by simp only [inO, b0, BL]), H1.below⟩
 have p0 := dF b0
 refine k (gn rfl rfl rfl b0 (k (gn rfl rfl rfl b0 (k (gn rfl rfl rfl b0 (k (gn rfl rfl rfl b0 (k (gn rfl rfl rfl b0 (k (pickF rfl rfl rfl rfl b0 rfl (k (asg (v := .bool false) rfl rfl (z (nx (rt (r1 rfl rfl ?_)))))))))))))))))
 exact ⟨congrArg Value.bool (by simp only [inO, b0, BL]), H1.below⟩
theorem ref20_has {a_l : OA} {c_l : Nat} {l : List Int} {n1 : Int} (hM : ∀ b, M b → b < w.heap.size) (h_l : RV M w (.slice a_l l.length c_l) l) (h_n1 : I64 n1) : Calls Tryz.prog 54 #[.slice a_l l.length c_l, .int .i64 n1] w (Ret fun v w' =>  v = .bool (hasJ l n1) ∧ Ext w w') := by
 refine enter 18 Tryz.func54 rfl rfl rfl fun f0 ha => ?_
 have H := HI.start (M0 := M) (w := w) hM
 have H0 := H.put (it := iL a_l l c_l) rfl (by rw [MS_nil]; exact h_l)
 have ln_l := rv_len h_l
 have i0 : f0 0 = sL a_l l c_l := ha 0 (by simp)
 have i1 : f0 1 = iV n1 := ha 1 (by simp)
 refine sq (rg (k (asg (v := .bool false) rfl rfl (z (nx (sq (sq (rg (k (asg (v := iV 0) rfl rfl (z (nx (bk ?_)))))))))))))
 refine lp (fun m f w' => ∃ (j_ : Nat), m = l.length - j_ ∧ f 0 = sL a_l l c_l ∧ f 1 = iV n1 ∧ f 5 = iV (j_ : Int) ∧  HI M w w' [iL a_l l c_l] ∧ (j_ ≤ l.length) ∧ ((l.take j_).any (fun z_ => decide (z_ = n1)) = false)) _ ⟨0, rfl, i0, i1, (ieq rfl (by first | rfl | omega | simp)), H0, (by first | omega | assumption | simp), (by simp)⟩ ?_
 rintro _ f0 w0 ⟨j_, rfl, s0, s1, s2, H1, hk_, hs⟩
 refine sq (sq (rg (k (mv rfl s2 (k (mv rfl s0 (k (lnS rfl rfl un30 (k (lss rfl rfl rfl rfl (z (nx ?_))))))))))))
 refine cd (b := decide ((j_ : Int) < (l.length : Int))) rfl rfl (fun b0 => ?_) (fun b0 => ?_)
 ·
  have p0 := dT b0
  refine sk (nx (sq (bk (sq (rg (k (mv rfl s0 (k (mv rfl s2 (k (ia (H1.rv 0 rfl) rfl rfl rfl rfl (by omega) un30 ty3 ?_)))))))))))
  intro ad0 x0 hx0 hA0
  refine k (ldI hA0.w ty3 rfl rfl ?_)
  intro rv0
  refine k (mv rfl s1 (k (eql rfl rfl rfl rfl (z (nx ?_)))))
  refine cd (b := decide (x0 = n1)) rfl rfl (fun b1 => ?_) (fun b1 => ?_)
  ·
   have p1 := dT b1
   refine sq (rg (k (asg (v := .bool true) rfl rfl (z (nx (rt (inb_ret (then_ret (loop_ret (inb_ret (then_ret (r1 rfl rfl ?_))))))))))))
   exact ⟨congrArg Value.bool (by exact any_hit hx0 b1), H1.below⟩
  have p1 := dF b1
  refine sk (inb_normal (nx (rg (k (mv rfl s2 (k (add rfl rfl rfl rfl (by unfold I64 at *; omega) (k (asg (v := iV ((j_ : Int) + 1)) rfl rfl (z ?_))))))))))
  refine loopN _ ?_ ⟨(j_ + 1), rfl, s0, s1, (ieq rfl (by first | rfl | omega)), H1, (by first | omega | assumption | simp), (by exact any_step hx0 hs b1)⟩
  omega
 have p0 := dF b0
 refine ex (then_exit (loop_exit (inb_here (nx (sq (rg (k (asg (v := .bool false) rfl rfl (z (nx (rt (r1 rfl rfl ?_))))))))))))
 exact ⟨congrArg Value.bool (by exact any_end hs (by omega)), H1.below⟩
theorem ref20_names {kd : Int} (h_kd : I64 kd) (hkd_ : 0 ≤ kd ∧ kd < 8) : Calls Tryz.prog 116 #[.int .i64 kd] w (Ret fun v w' =>  v = .string (namesO kd) ∧ Ext w w') := by
 refine enter 7 Tryz.func116 rfl rfl rfl fun f0 ha => ?_
 have H := HI.start (M0 := (fun _ => False)) (w := w) (fun _ h => h.elim)
 have i0 : f0 0 = iV kd := ha 0 (by simp)
 refine sq (rg (k (asg (v := .string ⟨#[]⟩) rfl rfl (z (nx (sq (rg (k (bs (xs := ([⟨#[]⟩, ⟨#[114]⟩, ⟨#[111, 102]⟩, ⟨#[114, 119, 102]⟩, ⟨#[114, 119, 120, 102, 115]⟩, ⟨#[111, 102]⟩, ⟨#[114, 119, 111, 102]⟩, ⟨#[119, 111, 102]⟩] : List ByteArray)) (cells := #[.string ⟨#[]⟩, .string ⟨#[114]⟩, .string ⟨#[111, 102]⟩, .string ⟨#[114, 119, 102]⟩, .string ⟨#[114, 119, 120, 102, 115]⟩, .string ⟨#[111, 102]⟩, .string ⟨#[114, 119, 111, 102]⟩, .string ⟨#[119, 111, 102]⟩]) (e := 9) H rfl (pbc rfl (pbc rfl (pbc rfl (pbc rfl (pbc rfl (pbc rfl (pbc rfl (pbc rfl pb0)))))))) (fun _ => by kernel_rfl) ⟨[.string ⟨#[]⟩], [.string ⟨#[114]⟩, .string ⟨#[111, 102]⟩, .string ⟨#[114, 119, 102]⟩, .string ⟨#[114, 119, 120, 102, 115]⟩, .string ⟨#[111, 102]⟩, .string ⟨#[114, 119, 111, 102]⟩, .string ⟨#[119, 111, 102]⟩], rfl, ⟨rfl, (by decide)⟩, ⟨[.string ⟨#[114]⟩], [.string ⟨#[111, 102]⟩, .string ⟨#[114, 119, 102]⟩, .string ⟨#[114, 119, 120, 102, 115]⟩, .string ⟨#[111, 102]⟩, .string ⟨#[114, 119, 111, 102]⟩, .string ⟨#[119, 111, 102]⟩], rfl, ⟨rfl, (by decide)⟩, ⟨[.string ⟨#[111, 102]⟩], [.string ⟨#[114, 119, 102]⟩, .string ⟨#[114, 119, 120, 102, 115]⟩, .string ⟨#[111, 102]⟩, .string ⟨#[114, 119, 111, 102]⟩, .string ⟨#[119, 111, 102]⟩], rfl, ⟨rfl, (by decide)⟩, ⟨[.string ⟨#[114, 119, 102]⟩], [.string ⟨#[114, 119, 120, 102, 115]⟩, .string ⟨#[111, 102]⟩, .string ⟨#[114, 119, 111, 102]⟩, .string ⟨#[119, 111, 102]⟩], rfl, ⟨rfl, (by decide)⟩, ⟨[.string ⟨#[114, 119, 120, 102, 115]⟩], [.string ⟨#[111, 102]⟩, .string ⟨#[114, 119, 111, 102]⟩, .string ⟨#[119, 111, 102]⟩], rfl, ⟨rfl, (by decide)⟩, ⟨[.string ⟨#[111, 102]⟩], [.string ⟨#[114, 119, 111, 102]⟩, .string ⟨#[119, 111, 102]⟩], rfl, ⟨rfl, (by decide)⟩, ⟨[.string ⟨#[114, 119, 111, 102]⟩], [.string ⟨#[119, 111, 102]⟩], rfl, ⟨rfl, (by decide)⟩, ⟨[.string ⟨#[119, 111, 102]⟩], [], rfl, ⟨rfl, (by decide)⟩, rfl⟩⟩⟩⟩⟩⟩⟩⟩ rfl (by decide) ?_)))))))))
 intro g0 w0 xt0 H0
 refine k (mv rfl i0 (k (iaO (H0.at_ 0 rfl) rfl rfl rfl rfl (by simp only [lC_, lN_]; omega) un28 ty9 ?_)))
 intro g1 x0 hv0 hx0 hA0
 refine k (ldS hA0 ty9 rfl rfl ?_)
 intro rv0
 refine k (asg (v := .string x0) rfl rfl (z (nx (rt (r1 rfl rfl ?_)))))
 exact ⟨congrArg Value.string (by unfold namesO; rw [gD_, hx0]; rfl), H0.below⟩
theorem ref20_is {kd : Int} {ch : Int} {n1 : Int} (h_kd : I64 kd) (h_ch : 0 ≤ ch ∧ ch ≤ 255) (h_n1 : I64 n1) (hkd_ : 0 ≤ kd ∧ kd < 8) : Calls Tryz.prog 94 #[.int .i64 kd, .int .u8 ch, .int .i64 n1] w (Ret fun v w' =>  v = .bool (isO kd ch n1) ∧ Ext w w') := by
 refine enter 24 Tryz.func94 rfl rfl rfl fun f0 ha => ?_
 have H := HI.start (M0 := (fun _ => False)) (w := w) (fun _ h => h.elim)
 have i0 : f0 0 = iV kd := ha 0 (by simp)
 have i1 : f0 1 = .int .u8 ch := ha 1 (by simp)
 have i2 : f0 2 = iV n1 := ha 2 (by simp)
 have hz_ := namesO_size hkd_
 refine sq (rg (k (asg (v := .bool false) rfl rfl (z (nx (sq (rg (k (mv rfl i0 (k ?_))))))))))
 have cc0 := ref20_names (kd := kd) (w := w) h_kd (by omega)
 refine ca go116 rfl (ec rfl e0) cc0 ?_
 rintro _ w0 ⟨rfl, xt0⟩
 have H0 := H.ext xt0
 refine k (asg (v := .string (namesO kd)) rfl rfl (z (nx (sq (sq (rg (k (asg (v := iV 0) rfl rfl (z (nx (bk ?_)))))))))))
 refine lp (fun m f w' => ∃ (j_ : Nat), m = (namesO kd).size - j_ ∧ f 1 = .int .u8 ch ∧ f 2 = iV n1 ∧ f 7 = .string (namesO kd) ∧ f 8 = iV (j_ : Int) ∧  HI (fun _ => False) w w' [] ∧ (j_ ≤ (namesO kd).size) ∧ (((namesO kd).data.toList.take j_).any (fun b => decide ((b.toNat : Int) = ch)) = false)) _ ⟨0, rfl, i1, i2, rfl, (ieq rfl (by first | rfl | omega | simp)), H0, (by first | omega | assumption | simp), (by simp)⟩ ?_
 rintro _ f0 w1 ⟨j_, rfl, s0, s1, s2, s3, H1, hk_, hs⟩
 refine sq (sq (rg (k (mv rfl s3 (k (mv rfl s2 (k (lnT rfl rfl un9 (k (lss rfl rfl rfl rfl (z (nx ?_))))))))))))
 refine cd (b := decide ((j_ : Int) < ((namesO kd).size : Int))) rfl rfl (fun b0 => ?_) (fun b0 => ?_)
 ·
  have p0 := dT b0
  refine sk (nx (sq (bk (sq (rg (k (mv rfl s2 (k (mv rfl s3 (k (ixS rfl rfl rfl rfl (by omega) un9 ?_)))))))))))
  intro c0 hc0
  refine k (mv rfl s0 (k (eql rfl rfl rfl rfl (z (nx ?_)))))
  refine cd (b := decide ((c0.toNat : Int) = ch)) rfl rfl (fun b1 => ?_) (fun b1 => ?_)
  ·
   have p1 := dT b1
   refine sq (rg (k (asg (v := .bool true) rfl rfl (z (nx (rt (inb_ret (then_ret (loop_ret (inb_ret (then_ret (r1 rfl rfl ?_))))))))))))
   exact ⟨congrArg Value.bool (by unfold isO; rw [← any_hit (byte_at hc0) b1]; rfl), H1.below⟩
  have p1 := dF b1
  refine sk (inb_normal (nx (rg (k (mv rfl s3 (k (add rfl rfl rfl rfl (by first | assumption | (unfold I64 at *; omega)) (k (asg (v := iV ((j_ : Int) + 1)) rfl rfl (z ?_))))))))))
  refine loopN _ ?_ ⟨(j_ + 1), rfl, s0, s1, s2, (ieq rfl (by first | rfl | omega)), H1, (by first | omega | assumption | simp), (by exact any_step (byte_at hc0) hs b1)⟩
  omega
 have p0 := dF b0
 refine ex (then_exit (loop_exit (inb_here (nx (sq (rg (k (mv rfl s1 (k (eql rfl rfl rfl rfl (k (asg (v := .bool (decide (n1 = (-1)))) rfl rfl (z (nx (rt (r1 rfl rfl ?_))))))))))))))))
 exact ⟨congrArg Value.bool (by unfold isO; rw [← any_end hs (by rw [Array.length_toList]; show (namesO kd).size ≤ _; omega)]; rfl), H1.below⟩
theorem ref20_fields {kd : Int} {rd_ : Int} {wa_ : Int} {wb_ : Int} {op_ : Int} {a_sl_ : OA} {n_sl_ c_sl_ : Nat} {fs_ : Int} {sn_ : Int} (h_kd : I64 kd) (h_rd_ : I64 rd_) (h_wa_ : I64 wa_) (h_wb_ : I64 wb_) (h_op_ : I64 op_) (h_fs_ : I64 fs_) (h_sn_ : I64 sn_) (hkd_ : 0 ≤ kd ∧ kd < 8) : Calls Tryz.prog 56 #[.agg #[.int .i64 kd, .int .i64 rd_, .int .i64 wa_, .int .i64 wb_, .int .i64 op_, .slice a_sl_ n_sl_ c_sl_, .int .i64 fs_, .int .i64 sn_]] w (Ret fun v w' =>  v = .bool (fieldsO kd rd_ wa_ wb_ op_ fs_ sn_) ∧ Ext w w') := by
 refine enter 40 Tryz.func56 rfl rfl rfl fun f0 ha => ?_
 have H := HI.start (M0 := (fun _ => False)) (w := w) (fun _ h => h.elim)
 have i0 : f0 0 = .agg #[iV kd, iV rd_, iV wa_, iV wb_, iV op_, .slice a_sl_ n_sl_ c_sl_, iV fs_, iV sn_] := ha 0 (by simp)
 refine sq (rg (k (bx H rfl i0 ?_)))
 intro bb0 w0 xt0 (H0 : HI (fun _ => False) w w0 [box bb0 #[iV kd, iV rd_, iV wa_, iV wb_, iV op_, .slice a_sl_ n_sl_ c_sl_, iV fs_, iV sn_] 25])
 refine k (asg (v := .bool false) rfl rfl (z (nx (sq (rg (k (fa fl25_0 rfl rfl (k (lx H0 0 rfl ty3 rfl rfl rfl (k (asg (v := iV kd) rfl rfl (z (nx (sq (rg (k (mv (v := iV kd) rfl rfl (k (fa fl25_1 rfl rfl (k (lx H0 0 rfl ty3 rfl rfl rfl (k ?_))))))))))))))))))))))
 have cc0 := ref20_is (kd := kd) (ch := 114) (n1 := rd_) (w := w0) h_kd (by omega) h_rd_ (by omega)
 refine ca go94 rfl (ec rfl (ec rfl (ec rfl e0))) cc0 ?_
 rintro _ w1 ⟨rfl, xt1⟩
 have H1 := H0.ext xt1
 refine k (mv (v := .bool (isO kd 114 rd_)) rfl rfl ?_)
 rcases bE (isO kd 114 rd_) with b0 | b0
 ·
  refine k (gy rfl rfl rfl b0 (mv (v := iV kd) rfl rfl (k (gy rfl rfl rfl b0 (fa fl25_2 rfl rfl (k (gy rfl rfl rfl b0 (lx H1 0 rfl ty3 rfl rfl rfl (k (gy rfl rfl rfl b0 ?_))))))))))
  have cc1 := ref20_is (kd := kd) (ch := 119) (n1 := wa_) (w := w1) h_kd (by omega) h_wa_ (by omega)
  refine ca go94 rfl (ec rfl (ec rfl (ec rfl e0))) cc1 ?_
  rintro _ w2 ⟨rfl, xt2⟩
  have H2 := H1.ext xt2
  refine k (pickT rfl rfl rfl rfl b0 rfl (k (mv (v := .bool (isO kd 119 wa_)) rfl rfl ?_)))
  rcases bE (isO kd 119 wa_) with b1 | b1
  ·
   refine k (gy rfl rfl rfl b1 (mv (v := iV kd) rfl rfl (k (gy rfl rfl rfl b1 (fa fl25_3 rfl rfl (k (gy rfl rfl rfl b1 (lx H2 0 rfl ty3 rfl rfl rfl (k (gy rfl rfl rfl b1 ?_))))))))))
   have cc2 := ref20_is (kd := kd) (ch := 120) (n1 := wb_) (w := w2) h_kd (by omega) h_wb_ (by omega)
   refine ca go94 rfl (ec rfl (ec rfl (ec rfl e0))) cc2 ?_
   rintro _ w3 ⟨rfl, xt3⟩
   have H3 := H2.ext xt3
   refine k (pickT rfl rfl rfl rfl b1 rfl (k (mv (v := .bool (isO kd 120 wb_)) rfl rfl ?_)))
   rcases bE (isO kd 120 wb_) with b2 | b2
   ·
    refine k (gy rfl rfl rfl b2 (mv (v := iV kd) rfl rfl (k (gy rfl rfl rfl b2 (fa fl25_4 rfl rfl (k (gy rfl rfl rfl b2 (lx H3 0 rfl ty3 rfl rfl rfl (k (gy rfl rfl rfl b2 ?_))))))))))
    have cc3 := ref20_is (kd := kd) (ch := 111) (n1 := op_) (w := w3) h_kd (by omega) h_op_ (by omega)
    refine ca go94 rfl (ec rfl (ec rfl (ec rfl e0))) cc3 ?_
    rintro _ w4 ⟨rfl, xt4⟩
    have H4 := H3.ext xt4
    refine k (pickT rfl rfl rfl rfl b2 rfl (k (mv (v := .bool (isO kd 111 op_)) rfl rfl ?_)))
    rcases bE (isO kd 111 op_) with b3 | b3
    ·
     refine k (gy rfl rfl rfl b3 (mv (v := iV kd) rfl rfl (k (gy rfl rfl rfl b3 (fa fl25_6 rfl rfl (k (gy rfl rfl rfl b3 (lx H4 0 rfl ty3 rfl rfl rfl (k (gy rfl rfl rfl b3 ?_))))))))))
     have cc4 := ref20_is (kd := kd) (ch := 102) (n1 := fs_) (w := w4) h_kd (by omega) h_fs_ (by omega)
     refine ca go94 rfl (ec rfl (ec rfl (ec rfl e0))) cc4 ?_
     rintro _ w5 ⟨rfl, xt5⟩
     have H5 := H4.ext xt5
     refine k (pickT rfl rfl rfl rfl b3 rfl (k (mv (v := .bool (isO kd 102 fs_)) rfl rfl ?_)))
     rcases bE (isO kd 102 fs_) with b4 | b4
     ·
      refine k (gy rfl rfl rfl b4 (mv (v := iV kd) rfl rfl (k (gy rfl rfl rfl b4 (fa fl25_7 rfl rfl (k (gy rfl rfl rfl b4 (lx H5 0 rfl ty3 rfl rfl rfl (k (gy rfl rfl rfl b4 ?_))))))))))
      have cc5 := ref20_is (kd := kd) (ch := 115) (n1 := sn_) (w := w5) h_kd (by omega) h_sn_ (by omega)
      refine ca go94 rfl (ec rfl (ec rfl (ec rfl e0))) cc5 ?_
      rintro _ w6 ⟨rfl, xt6⟩
      have H6 := H5.ext xt6
      refine k (pickT rfl rfl rfl rfl b4 rfl (k (asg (v := .bool (isO kd 115 sn_)) rfl rfl (z (nx (rt (r1 rfl rfl ?_)))))))
      exact ⟨congrArg Value.bool (by simp only [fieldsO, b0, b1, b2, b3, b4, BL]), H6.below⟩
     refine k (gn rfl rfl rfl b4 (k (gn rfl rfl rfl b4 (k (gn rfl rfl rfl b4 (k (gn rfl rfl rfl b4 (k (pickF rfl rfl rfl rfl b4 rfl (k (asg (v := .bool false) rfl rfl (z (nx (rt (r1 rfl rfl ?_)))))))))))))))
     exact ⟨congrArg Value.bool (by simp only [fieldsO, b0, b1, b2, b3, b4, BL]), H5.below⟩
    refine k (gn rfl rfl rfl b3 (k (gn rfl rfl rfl b3 (k (gn rfl rfl rfl b3 (k (gn rfl rfl rfl b3 (k (pickF rfl rfl rfl rfl b3 rfl (k (mv (v := .bool false) rfl rfl (k (gn rfl rfl rfl rfl (k (gn rfl rfl rfl rfl (k (gn rfl rfl rfl rfl (k (gn rfl rfl rfl rfl (k (pickF rfl rfl rfl rfl rfl rfl (k (asg (v := .bool false) rfl rfl (z (nx (rt (r1 rfl rfl ?_)))))))))))))))))))))))))))
    exact ⟨congrArg Value.bool (by simp only [fieldsO, b0, b1, b2, b3, BL]), H4.below⟩
   refine k (gn rfl rfl rfl b2 (k (gn rfl rfl rfl b2 (k (gn rfl rfl rfl b2 (k (gn rfl rfl rfl b2 (k (pickF rfl rfl rfl rfl b2 rfl (k (mv (v := .bool false) rfl rfl (k (gn rfl rfl rfl rfl (k (gn rfl rfl rfl rfl (k (gn rfl rfl rfl rfl (k (gn rfl rfl rfl rfl (k (pickF rfl rfl rfl rfl rfl rfl (k (mv (v := .bool false) rfl rfl (k (gn rfl rfl rfl rfl (k (gn rfl rfl rfl rfl (k (gn rfl rfl rfl rfl (k (gn rfl rfl rfl rfl (k (pickF rfl rfl rfl rfl rfl rfl (k (asg (v := .bool false) rfl rfl (z (nx (rt (r1 rfl rfl ?_)))))))))))))))))))))))))))))))))))))))
   exact ⟨congrArg Value.bool (by simp only [fieldsO, b0, b1, b2, BL]), H3.below⟩
  refine k (gn rfl rfl rfl b1 (k (gn rfl rfl rfl b1 (k (gn rfl rfl rfl b1 (k (gn rfl rfl rfl b1 (k (pickF rfl rfl rfl rfl b1 rfl (k (mv (v := .bool false) rfl rfl (k (gn rfl rfl rfl rfl (k (gn rfl rfl rfl rfl (k (gn rfl rfl rfl rfl (k (gn rfl rfl rfl rfl (k (pickF rfl rfl rfl rfl rfl rfl (k (mv (v := .bool false) rfl rfl (k (gn rfl rfl rfl rfl (k (gn rfl rfl rfl rfl (k (gn rfl rfl rfl rfl (k (gn rfl rfl rfl rfl (k (pickF rfl rfl rfl rfl rfl rfl (k (mv (v := .bool false) rfl rfl (k (gn rfl rfl rfl rfl (k (gn rfl rfl rfl rfl (k (gn rfl rfl rfl rfl (k (gn rfl rfl rfl rfl (k (pickF rfl rfl rfl rfl rfl rfl (k (asg (v := .bool false) rfl rfl (z (nx (rt (r1 rfl rfl ?_)))))))))))))))))))))))))))))))))))))))))))))))))))
  exact ⟨congrArg Value.bool (by simp only [fieldsO, b0, b1, BL]), H2.below⟩
 refine k (gn rfl rfl rfl b0 (k (gn rfl rfl rfl b0 (k (gn rfl rfl rfl b0 (k (gn rfl rfl rfl b0 (k (pickF rfl rfl rfl rfl b0 rfl (k (mv (v := .bool false) rfl rfl (k (gn rfl rfl rfl rfl (k (gn rfl rfl rfl rfl (k (gn rfl rfl rfl rfl (k (gn rfl rfl rfl rfl (k (pickF rfl rfl rfl rfl rfl rfl (k (mv (v := .bool false) rfl rfl (k (gn rfl rfl rfl rfl (k (gn rfl rfl rfl rfl (k (gn rfl rfl rfl rfl (k (gn rfl rfl rfl rfl (k (pickF rfl rfl rfl rfl rfl rfl (k (mv (v := .bool false) rfl rfl (k (gn rfl rfl rfl rfl (k (gn rfl rfl rfl rfl (k (gn rfl rfl rfl rfl (k (gn rfl rfl rfl rfl (k (pickF rfl rfl rfl rfl rfl rfl (k (mv (v := .bool false) rfl rfl (k (gn rfl rfl rfl rfl (k (gn rfl rfl rfl rfl (k (gn rfl rfl rfl rfl (k (gn rfl rfl rfl rfl (k (pickF rfl rfl rfl rfl rfl rfl (k (asg (v := .bool false) rfl rfl (z (nx (rt (r1 rfl rfl ?_)))))))))))))))))))))))))))))))))))))))))))))))))))))))))))))))
 exact ⟨congrArg Value.bool (by simp only [fieldsO, b0, BL]), H1.below⟩
theorem ref20_says {a_l : OA} {c_l : Nat} {l : List StepL} {k1 : Int} {bf : Int} {n1 : Int} {n2 : Int} (hM : ∀ b, M b → b < w.heap.size) (h_l : RV M w (.slice a_l l.length c_l) l) (h_k1 : I64 k1) (h_bf : I64 bf) (h_n1 : I64 n1) (h_n2 : I64 n2) : Calls Tryz.prog 59 #[.slice a_l l.length c_l, .int .i64 k1, .int .i64 bf, .int .i64 n1, .int .i64 n2] w (Ret fun v w' =>  v = .bool (sayB l k1 bf n1 n2) ∧ Ext w w') := by
 refine enter 42 Tryz.func59 rfl rfl rfl fun f0 ha => ?_
 have H := HI.start (M0 := M) (w := w) hM
 have H0 := H.put (it := iL a_l l c_l) rfl (by rw [MS_nil]; exact h_l)
 have ln_l := rv_len h_l
 have i0 : f0 0 = sL a_l l c_l := ha 0 (by simp)
 have i1 : f0 1 = iV k1 := ha 1 (by simp)
 have i2 : f0 2 = iV bf := ha 2 (by simp)
 have i3 : f0 3 = iV n1 := ha 3 (by simp)
 have i4 : f0 4 = iV n2 := ha 4 (by simp)
 refine sq (rg (k (asg (v := .bool false) rfl rfl (z (nx (sq (rg (k (mv rfl i1 (k (geq rfl rfl rfl rfl (k (mv (v := .bool (decide (0 ≤ k1))) rfl rfl ?_)))))))))))))
 rcases bE (decide (0 ≤ k1)) with b0 | b0
 ·
  have p0 := dT b0
  refine k (gy rfl rfl rfl b0 (mv rfl i1 (k (gy rfl rfl rfl b0 (mv rfl i2 (k (gy rfl rfl rfl b0 (lss rfl rfl rfl rfl (k (pickT rfl rfl rfl rfl b0 rfl (k (mv (v := .bool (decide (k1 < bf))) rfl rfl ?_))))))))))))
  rcases bE (decide (k1 < bf)) with b1 | b1
  ·
   have p1 := dT b1
   refine k (gy rfl rfl rfl b1 (mv rfl i1 (k (gy rfl rfl rfl b1 (mv rfl i0 (k (gy rfl rfl rfl b1 (lnS rfl rfl un23 (k (gy rfl rfl rfl b1 (lss rfl rfl rfl rfl (k (pickT rfl rfl rfl rfl b1 rfl (k (mv (v := .bool (decide (k1 < (l.length : Int)))) rfl rfl ?_)))))))))))))))
   rcases bE (decide (k1 < (l.length : Int))) with b2 | b2
   ·
    have p2 := dT b2
    refine k (gy rfl rfl rfl b2 (mv rfl i0 (k (gy rfl rfl rfl b2 (mv rfl i1 (k (gy rfl rfl rfl b2 (ia (H0.rv 0 rfl) rfl rfl rfl rfl (by omega) un23 ty92 ?_))))))))
    intro ad0 x0 hx0 hA0
    refine k (gy rfl rfl rfl b2 (fa fl92_1 rfl rfl (k (gy rfl rfl rfl b2 (ldI ((hA0).s1).fst.w ty3 rfl rfl ?_)))))
    intro rv0
    refine k (gy rfl rfl rfl b2 (mv rfl i3 (k (gy rfl rfl rfl b2 (eql rfl rfl rfl rfl (k (pickT rfl rfl rfl rfl b2 rfl (k (mv (v := .bool (decide (x0.2.1 = n1))) rfl rfl ?_)))))))))
    rcases bE (decide (x0.2.1 = n1)) with b3 | b3
    ·
     have p3 := dT b3
     refine k (gy rfl rfl rfl b3 (mv rfl i0 (k (gy rfl rfl rfl b3 (mv rfl i1 (k (gy rfl rfl rfl b3 (ia (H0.rv 0 rfl) rfl rfl rfl rfl (by omega) un23 ty92 ?_))))))))
     intro ad1 x1 hx1 hA1
     obtain rfl : x0 = x1 := Option.some.inj (hx0.symm.trans hx1)
     refine k (gy rfl rfl rfl b3 (fa fl92_2 rfl rfl (k (gy rfl rfl rfl b3 (ldI ((hA1).s2).fst.w ty3 rfl rfl ?_)))))
     intro rv1
     refine k (gy rfl rfl rfl b3 (mv rfl i4 (k (gy rfl rfl rfl b3 (eql rfl rfl rfl rfl (k (pickT rfl rfl rfl rfl b3 rfl (k (asg (v := .bool (decide (x0.2.2.1 = n2))) rfl rfl (z (nx (rt (r1 rfl rfl ?_)))))))))))))
     exact ⟨congrArg Value.bool (by simp only [sayB, hx0, b0, b1, b2, b3, BL]), H0.below⟩
    have p3 := dF b3
    refine k (gn rfl rfl rfl b3 (k (gn rfl rfl rfl b3 (k (gn rfl rfl rfl b3 (k (gn rfl rfl rfl b3 (k (gn rfl rfl rfl b3 (k (gn rfl rfl rfl b3 (k (gn rfl rfl rfl b3 (k (pickF rfl rfl rfl rfl b3 rfl (k (asg (v := .bool false) rfl rfl (z (nx (rt (r1 rfl rfl ?_)))))))))))))))))))))
    exact ⟨congrArg Value.bool (by simp only [sayB, hx0, b0, b1, b2, b3, BL]), H0.below⟩
   have p2 := dF b2
   refine k (gn rfl rfl rfl b2 (k (gn rfl rfl rfl b2 (k (gn rfl rfl rfl b2 (k (gn rfl rfl rfl b2 (k (gn rfl rfl rfl b2 (k (gn rfl rfl rfl b2 (k (gn rfl rfl rfl b2 (k (pickF rfl rfl rfl rfl b2 rfl (k (mv (v := .bool false) rfl rfl (k (gn rfl rfl rfl rfl (k (gn rfl rfl rfl rfl (k (gn rfl rfl rfl rfl (k (gn rfl rfl rfl rfl (k (gn rfl rfl rfl rfl (k (gn rfl rfl rfl rfl (k (gn rfl rfl rfl rfl (k (pickF rfl rfl rfl rfl rfl rfl (k (asg (v := .bool false) rfl rfl (z (nx (rt (r1 rfl rfl ?_)))))))))))))))))))))))))))))))))))))))
   exact ⟨congrArg Value.bool (by simp only [sayB, b0, b1, b2, BL]), H0.below⟩
  have p1 := dF b1
  refine k (gn rfl rfl rfl b1 (k (gn rfl rfl rfl b1 (k (gn rfl rfl rfl b1 (k (gn rfl rfl rfl b1 (k (pickF rfl rfl rfl rfl b1 rfl (k (mv (v := .bool false) rfl rfl (k (gn rfl rfl rfl rfl (k (gn rfl rfl rfl rfl (k (gn rfl rfl rfl rfl (k (gn rfl rfl rfl rfl (k (gn rfl rfl rfl rfl (k (gn rfl rfl rfl rfl (k (gn rfl rfl rfl rfl (k (pickF rfl rfl rfl rfl rfl rfl (k (mv (v := .bool false) rfl rfl (k (gn rfl rfl rfl rfl (k (gn rfl rfl rfl rfl (k (gn rfl rfl rfl rfl (k (gn rfl rfl rfl rfl (k (gn rfl rfl rfl rfl (k (gn rfl rfl rfl rfl (k (gn rfl rfl rfl rfl (k (pickF rfl rfl rfl rfl rfl rfl (k (asg (v := .bool false) rfl rfl (z (nx (rt (r1 rfl rfl ?_)))))))))))))))))))))))))))))))))))))))))))))))))))
  exact ⟨congrArg Value.bool (by simp only [sayB, b0, b1, BL]), H0.below⟩
 have p0 := dF b0
 refine k (gn rfl rfl rfl b0 (k (gn rfl rfl rfl b0 (k (gn rfl rfl rfl b0 (k (pickF rfl rfl rfl rfl b0 rfl (k (mv (v := .bool false) rfl rfl (k (gn rfl rfl rfl rfl (k (gn rfl rfl rfl rfl (k (gn rfl rfl rfl rfl (k (gn rfl rfl rfl rfl (k (pickF rfl rfl rfl rfl rfl rfl (k (mv (v := .bool false) rfl rfl (k (gn rfl rfl rfl rfl (k (gn rfl rfl rfl rfl (k (gn rfl rfl rfl rfl (k (gn rfl rfl rfl rfl (k (gn rfl rfl rfl rfl (k (gn rfl rfl rfl rfl (k (gn rfl rfl rfl rfl (k (pickF rfl rfl rfl rfl rfl rfl (k (mv (v := .bool false) rfl rfl (k (gn rfl rfl rfl rfl (k (gn rfl rfl rfl rfl (k (gn rfl rfl rfl rfl (k (gn rfl rfl rfl rfl (k (gn rfl rfl rfl rfl (k (gn rfl rfl rfl rfl (k (gn rfl rfl rfl rfl (k (pickF rfl rfl rfl rfl rfl rfl (k (asg (v := .bool false) rfl rfl (z (nx (rt (r1 rfl rfl ?_)))))))))))))))))))))))))))))))))))))))))))))))))))))))))))))
 exact ⟨congrArg Value.bool (by simp only [sayB, b0, BL]), H0.below⟩
theorem ref20_other {a_fv : OA} {n_fv c_fv : Nat} {a_fi : OA} {c_fi : Nat} {fi : List ItemL} {a_fo : OA} {n_fo c_fo : Nat} {n1 : Int} {n2 : Int} (hM : ∀ b, M b → b < w.heap.size) (h_fi : RV M w (.slice a_fi fi.length c_fi) fi) (h_n1 : I64 n1) (h_n2 : I64 n2) (hn1_ : 0 ≤ n1 ∧ n1 < ((fi.length : Nat) : Int)) (hn2_ : 0 ≤ n2 ∧ n2 < ((fi.length : Nat) : Int)) : Calls Tryz.prog 61 #[.agg #[.slice a_fv n_fv c_fv, .slice a_fi fi.length c_fi, .slice a_fo n_fo c_fo], .int .i64 n1, .int .i64 n2] w (Ret fun v w' =>  v = .bool (otherO fi n1 n2) ∧ Ext w w') := by
 refine enter 41 Tryz.func61 rfl rfl rfl fun f0 ha => ?_
 have H := HI.start (M0 := M) (w := w) hM
 have H0 := H.put (it := iL a_fi fi c_fi) rfl (by rw [MS_nil]; exact h_fi)
 have ln_fi := rv_len h_fi
 have i0 : f0 0 = .agg #[.slice a_fv n_fv c_fv, sL a_fi fi c_fi, .slice a_fo n_fo c_fo] := ha 0 (by simp)
 have i1 : f0 1 = iV n1 := ha 1 (by simp)
 have i2 : f0 2 = iV n2 := ha 2 (by simp)
 refine sq (rg (k (bx H0 rfl i0 ?_)))
 intro bb0 w0 xt0 (H1 : HI M w w0 [box bb0 #[.slice a_fv n_fv c_fv, sL a_fi fi c_fi, .slice a_fo n_fo c_fo] 32, iL a_fi fi c_fi])
 refine k (asg (v := .bool false) rfl rfl (z (nx (sq ?_))))
 refine drS rfl (by kernel_rfl) ?_
 refine kq (fun _ _ => mv rfl i1 e1) (kq (fun _ _ => mv rfl i2 e1) (kq (fun _ _ => neq rfl rfl rfl rfl e1) (kq (fun _ _ => mv (v := .bool (!decide (n1 = n2))) rfl rfl e1) ?_)))
 rcases bE (!decide (n1 = n2)) with b0 | b0
 ·
  have p0 := dF (nott b0)
  refine qy rfl rfl rfl b0 (kq (fun _ _ => fa fl32_1 rfl rfl e1) (qy rfl rfl rfl b0 (kq (fun _ x_ => lx (H1.ext x_) 0 rfl ty29 rfl rfl rfl e1) (qy rfl rfl rfl b0 (kq (fun _ _ => mv rfl i1 e1) (qy rfl rfl rfl b0 (q_ia (H1.rv 1 rfl) rfl rfl rfl rfl (by omega) un29 ty85 ?_)))))))
  intro ad0 x0 hx0 hA0
  refine qy rfl rfl rfl b0 (kq (fun _ _ => fa fl85_2 rfl rfl e1) (qy rfl rfl rfl b0 (q_ldB ((hA0).s2).fst.w ty4 rfl rfl (kq (fun _ _ => pickT rfl rfl rfl rfl b0 rfl e1) (kq (fun _ _ => mv (v := .bool x0.2.2.1) rfl rfl e1) ?_)))))
  rcases bE (x0.2.2.1) with b1 | b1
  ·
   refine qy rfl rfl rfl b1 (kq (fun _ _ => fa fl32_1 rfl rfl e1) (qy rfl rfl rfl b1 (kq (fun _ x_ => lx (H1.ext x_) 0 rfl ty29 rfl rfl rfl e1) (qy rfl rfl rfl b1 (kq (fun _ _ => mv rfl i2 e1) (qy rfl rfl rfl b1 (q_ia (H1.rv 1 rfl) rfl rfl rfl rfl (by omega) un29 ty85 ?_)))))))
   intro ad1 x1 hx1 hA1
   refine qy rfl rfl rfl b1 (kq (fun _ _ => fa fl85_2 rfl rfl e1) (qy rfl rfl rfl b1 (q_ldB ((hA1).s2).fst.w ty4 rfl rfl (kq (fun _ _ => pickT rfl rfl rfl rfl b1 rfl e1) (kq (fun _ _ => mv (v := .bool x1.2.2.1) rfl rfl e1) ?_)))))
   rcases bE (x1.2.2.1) with b2 | b2
   ·
    refine qy rfl rfl rfl b2 (kq (fun _ _ => fa fl32_1 rfl rfl e1) (qy rfl rfl rfl b2 (kq (fun _ x_ => lx (H1.ext x_) 0 rfl ty29 rfl rfl rfl e1) (qy rfl rfl rfl b2 (kq (fun _ _ => mv rfl i1 e1) (qy rfl rfl rfl b2 (q_ia (H1.rv 1 rfl) rfl rfl rfl rfl (by omega) un29 ty85 ?_)))))))
    intro ad2 x_ hx_ hA2
    obtain rfl : x0 = x_ := Option.some.inj (hx0.symm.trans hx_)
    refine qy rfl rfl rfl b2 (kq (fun _ _ => fa fl85_3 rfl rfl e1) (qy rfl rfl rfl b2 (q_ldI ((hA2).s3).fst.w ty3 rfl rfl ?_)))
    intro rv0
    refine qy rfl rfl rfl b2 (kq (fun _ _ => fa fl32_1 rfl rfl e1) (qy rfl rfl rfl b2 (kq (fun _ x_ => lx (H1.ext x_) 0 rfl ty29 rfl rfl rfl e1) (qy rfl rfl rfl b2 (kq (fun _ _ => mv rfl i2 e1) (qy rfl rfl rfl b2 (q_ia (H1.rv 1 rfl) rfl rfl rfl rfl (by omega) un29 ty85 ?_)))))))
    intro ad3 x_ hx_ hA3
    obtain rfl : x1 = x_ := Option.some.inj (hx1.symm.trans hx_)
    refine qy rfl rfl rfl b2 (kq (fun _ _ => fa fl85_3 rfl rfl e1) (qy rfl rfl rfl b2 (q_ldI ((hA3).s3).fst.w ty3 rfl rfl ?_)))
    intro rv1
    refine qy rfl rfl rfl b2 (kq (fun _ _ => eql rfl rfl rfl rfl e1) (kq (fun _ _ => pickT rfl rfl rfl rfl b2 rfl e1) (kq (fun _ _ => asg (v := .bool (decide (x0.2.2.2.1 = x1.2.2.2.1))) rfl rfl e1) (zq ?_))))
    intro w1 xt1
    have H2 := H1.ext xt1
    refine nx (rt (r1 rfl rfl ?_))
    exact ⟨congrArg Value.bool (by simp only [otherO, wrQ, vrO, hx0, hx1, (nott b0), b1, b2, BL]), H2.below⟩
   refine qn rfl rfl rfl b2 (qn rfl rfl rfl b2 (qn rfl rfl rfl b2 (qn rfl rfl rfl b2 (qn rfl rfl rfl b2 (qn rfl rfl rfl b2 (qn rfl rfl rfl b2 (qn rfl rfl rfl b2 (qn rfl rfl rfl b2 (qn rfl rfl rfl b2 (qn rfl rfl rfl b2 (qn rfl rfl rfl b2 (qn rfl rfl rfl b2 (kq (fun _ _ => pickF rfl rfl rfl rfl b2 rfl e1) (kq (fun _ _ => asg (v := .bool false) rfl rfl e1) (zq ?_)))))))))))))))
   intro w1 xt1
   have H2 := H1.ext xt1
   refine nx (rt (r1 rfl rfl ?_))
   exact ⟨congrArg Value.bool (by simp only [otherO, wrQ, vrO, hx0, hx1, (nott b0), b1, b2, BL]), H2.below⟩
  refine qn rfl rfl rfl b1 (qn rfl rfl rfl b1 (qn rfl rfl rfl b1 (qn rfl rfl rfl b1 (qn rfl rfl rfl b1 (qn rfl rfl rfl b1 (kq (fun _ _ => pickF rfl rfl rfl rfl b1 rfl e1) (kq (fun _ _ => mv (v := .bool false) rfl rfl e1) (qn rfl rfl rfl rfl (qn rfl rfl rfl rfl (qn rfl rfl rfl rfl (qn rfl rfl rfl rfl (qn rfl rfl rfl rfl (qn rfl rfl rfl rfl (qn rfl rfl rfl rfl (qn rfl rfl rfl rfl (qn rfl rfl rfl rfl (qn rfl rfl rfl rfl (qn rfl rfl rfl rfl (qn rfl rfl rfl rfl (qn rfl rfl rfl rfl (kq (fun _ _ => pickF rfl rfl rfl rfl rfl rfl e1) (kq (fun _ _ => asg (v := .bool false) rfl rfl e1) (zq ?_)))))))))))))))))))))))
  intro w1 xt1
  have H2 := H1.ext xt1
  refine nx (rt (r1 rfl rfl ?_))
  exact ⟨congrArg Value.bool (by simp only [otherO, wrQ, vrO, hx0, (nott b0), b1, BL]), H2.below⟩
 have p0 := dT (notf b0)
 refine qn rfl rfl rfl b0 (qn rfl rfl rfl b0 (qn rfl rfl rfl b0 (qn rfl rfl rfl b0 (qn rfl rfl rfl b0 (qn rfl rfl rfl b0 (kq (fun _ _ => pickF rfl rfl rfl rfl b0 rfl e1) (kq (fun _ _ => mv (v := .bool false) rfl rfl e1) (qn rfl rfl rfl rfl (qn rfl rfl rfl rfl (qn rfl rfl rfl rfl (qn rfl rfl rfl rfl (qn rfl rfl rfl rfl (qn rfl rfl rfl rfl (kq (fun _ _ => pickF rfl rfl rfl rfl rfl rfl e1) (kq (fun _ _ => mv (v := .bool false) rfl rfl e1) (qn rfl rfl rfl rfl (qn rfl rfl rfl rfl (qn rfl rfl rfl rfl (qn rfl rfl rfl rfl (qn rfl rfl rfl rfl (qn rfl rfl rfl rfl (qn rfl rfl rfl rfl (qn rfl rfl rfl rfl (qn rfl rfl rfl rfl (qn rfl rfl rfl rfl (qn rfl rfl rfl rfl (qn rfl rfl rfl rfl (qn rfl rfl rfl rfl (kq (fun _ _ => pickF rfl rfl rfl rfl rfl rfl e1) (kq (fun _ _ => asg (v := .bool false) rfl rfl e1) (zq ?_)))))))))))))))))))))))))))))))
 intro w1 xt1
 have H2 := H1.ext xt1
 refine nx (rt (r1 rfl rfl ?_))
 exact ⟨congrArg Value.bool (by simp only [otherO, wrQ, vrO, (notf b0), BL]), H2.below⟩
theorem ref20_early {a_fv : OA} {n_fv c_fv : Nat} {a_fi : OA} {c_fi : Nat} {fi : List ItemL} {a_fo : OA} {c_fo : Nat} {fo : List Int} {kd : Int} {rd_ : Int} {wa_ : Int} {wb_ : Int} {op_ : Int} {a_sl_ : OA} {n_sl_ c_sl_ : Nat} {fs_ : Int} {sn_ : Int} (hM : ∀ b, M b → b < w.heap.size) (h_fi : RV M w (.slice a_fi fi.length c_fi) fi) (h_fo : RV M w (.slice a_fo fo.length c_fo) fo) (h_kd : I64 kd) (h_rd_ : I64 rd_) (h_wa_ : I64 wa_) (h_wb_ : I64 wb_) (h_op_ : I64 op_) (h_fs_ : I64 fs_) (h_sn_ : I64 sn_) (hfo : fo.length = fi.length) : Calls Tryz.prog 60 #[.agg #[.slice a_fv n_fv c_fv, .slice a_fi fi.length c_fi, .slice a_fo fo.length c_fo], .agg #[.int .i64 kd, .int .i64 rd_, .int .i64 wa_, .int .i64 wb_, .int .i64 op_, .slice a_sl_ n_sl_ c_sl_, .int .i64 fs_, .int .i64 sn_]] w (Ret fun v w' =>  v = .bool (earlyR fi fo rd_ wa_) ∧ Ext w w') := by
 refine enter 50 Tryz.func60 rfl rfl rfl fun f0 ha => ?_
 have H := HI.start (M0 := M) (w := w) hM
 have H0 := H.put (it := iL a_fi fi c_fi) rfl (by rw [MS_nil]; exact h_fi)
 have H1 := H0.put (it := iL a_fo fo c_fo) rfl (by rw [MS_cons_none rfl, MS_nil]; exact h_fo)
 have ln_fi := rv_len h_fi
 have ln_fo := rv_len h_fo
 have i0 : f0 0 = .agg #[.slice a_fv n_fv c_fv, sL a_fi fi c_fi, sL a_fo fo c_fo] := ha 0 (by simp)
 have i1 : f0 1 = .agg #[iV kd, iV rd_, iV wa_, iV wb_, iV op_, .slice a_sl_ n_sl_ c_sl_, iV fs_, iV sn_] := ha 1 (by simp)
 refine sq (rg (k (bx H1 rfl i0 ?_)))
 intro bb0 w0 xt0 (H2 : HI M w w0 [box bb0 #[.slice a_fv n_fv c_fv, sL a_fi fi c_fi, sL a_fo fo c_fo] 32, iL a_fo fo c_fo, iL a_fi fi c_fi])
 refine k (bx H2 rfl i1 ?_)
 intro bb1 w1 xt1 (H3 : HI M w w1 [box bb1 #[iV kd, iV rd_, iV wa_, iV wb_, iV op_, .slice a_sl_ n_sl_ c_sl_, iV fs_, iV sn_] 25, box bb0 #[.slice a_fv n_fv c_fv, sL a_fi fi c_fi, sL a_fo fo c_fo] 32, iL a_fo fo c_fo, iL a_fi fi c_fi])
 refine k (asg (v := .bool false) rfl rfl (z (nx (sq ?_))))
 refine drS rfl (by kernel_rfl) ?_
 refine kq (fun _ x_ => ldX (H3.ext x_) 1 rfl ty32 rfl rfl (by decide) rfl e1) (kq (fun _ _ => fa fl25_1 rfl rfl e1) (kq (fun _ x_ => lx (H3.ext x_) 0 rfl ty3 rfl rfl rfl e1) ?_))
 refine kq (v := .bool (inO fi rd_)) (fun v_ x_ => ?_) ?_
 ·
  have cc := ref20_op (fi := fi) (n1 := rd_) (a_fv := a_fv) (n_fv := n_fv) (c_fv := c_fv) (a_fo := a_fo) (n_fo := fo.length) (c_fo := c_fo) (w := v_) (H3.ext x_).mb ((H3.ext x_).rv 3 rfl) h_rd_
  exact ca go57 rfl (ec rfl (ec rfl e0)) cc fun _ _ h_ => e2 h_
 refine kq (fun _ _ => mv (v := .bool (inO fi rd_)) rfl rfl e1) ?_
 rcases bE (inO fi rd_) with b0 | b0
 ·
  refine qy rfl rfl rfl b0 (kq (fun _ x_ => ldX (H3.ext x_) 1 rfl ty32 rfl rfl (by decide) rfl e1) (qy rfl rfl rfl b0 (kq (fun _ _ => fa fl25_2 rfl rfl e1) (qy rfl rfl rfl b0 (kq (fun _ x_ => lx (H3.ext x_) 0 rfl ty3 rfl rfl rfl e1) (qy rfl rfl rfl b0 ?_))))))
  refine kq (v := .bool (inO fi wa_)) (fun v_ x_ => ?_) ?_
  ·
   have cc := ref20_op (fi := fi) (n1 := wa_) (a_fv := a_fv) (n_fv := n_fv) (c_fv := c_fv) (a_fo := a_fo) (n_fo := fo.length) (c_fo := c_fo) (w := v_) (H3.ext x_).mb ((H3.ext x_).rv 3 rfl) h_wa_
   exact ca go57 rfl (ec rfl (ec rfl e0)) cc fun _ _ h_ => e2 h_
  refine kq (fun _ _ => pickT rfl rfl rfl rfl b0 rfl e1) (kq (fun _ _ => mv (v := .bool (inO fi wa_)) rfl rfl e1) ?_)
  rcases bE (inO fi wa_) with b1 | b1
  ·
   refine qy rfl rfl rfl b1 (kq (fun _ _ => fa fl32_2 rfl rfl e1) (qy rfl rfl rfl b1 (kq (fun _ x_ => lx (H3.ext x_) 1 rfl ty30 rfl rfl rfl e1) (qy rfl rfl rfl b1 (kq (fun _ _ => fa fl25_1 rfl rfl e1) (qy rfl rfl rfl b1 (kq (fun _ x_ => lx (H3.ext x_) 0 rfl ty3 rfl rfl rfl e1) (qy rfl rfl rfl b1 (q_ia (H3.rv 2 rfl) rfl rfl rfl rfl (by have h_ := inO_rng (fi := fi) (i := rd_) (by assumption); omega) un30 ty3 ?_)))))))))
   intro ad0 x0 hx0 hA0
   refine qy rfl rfl rfl b1 (q_ldI hA0.w ty3 rfl rfl ?_)
   intro rv0
   refine qy rfl rfl rfl b1 (kq (fun _ _ => eql rfl rfl rfl rfl e1) (kq (fun _ _ => pickT rfl rfl rfl rfl b1 rfl e1) (kq (fun _ _ => mv (v := .bool (decide (x0 = (-1)))) rfl rfl e1) ?_)))
   rcases bE (decide (x0 = (-1))) with b2 | b2
   ·
    have p2 := dT b2
    refine qy rfl rfl rfl b2 (kq (fun _ _ => fa fl32_1 rfl rfl e1) (qy rfl rfl rfl b2 (kq (fun _ x_ => lx (H3.ext x_) 1 rfl ty29 rfl rfl rfl e1) (qy rfl rfl rfl b2 (kq (fun _ _ => fa fl25_2 rfl rfl e1) (qy rfl rfl rfl b2 (kq (fun _ x_ => lx (H3.ext x_) 0 rfl ty3 rfl rfl rfl e1) (qy rfl rfl rfl b2 (q_ia (H3.rv 3 rfl) rfl rfl rfl rfl (by have h_ := inO_rng (fi := fi) (i := wa_) (by assumption); omega) un29 ty85 ?_)))))))))
    intro ad1 x1 hx1 hA1
    refine qy rfl rfl rfl b2 (kq (fun _ _ => fa fl85_2 rfl rfl e1) (qy rfl rfl rfl b2 (q_ldB ((hA1).s2).fst.w ty4 rfl rfl (kq (fun _ _ => pickT rfl rfl rfl rfl b2 rfl e1) (kq (fun _ _ => mv (v := .bool x1.2.2.1) rfl rfl e1) ?_)))))
    rcases bE (x1.2.2.1) with b3 | b3
    ·
     refine qy rfl rfl rfl b3 (kq (fun _ _ => fa fl32_1 rfl rfl e1) (qy rfl rfl rfl b3 (kq (fun _ x_ => lx (H3.ext x_) 1 rfl ty29 rfl rfl rfl e1) (qy rfl rfl rfl b3 (kq (fun _ _ => fa fl25_2 rfl rfl e1) (qy rfl rfl rfl b3 (kq (fun _ x_ => lx (H3.ext x_) 0 rfl ty3 rfl rfl rfl e1) (qy rfl rfl rfl b3 (q_ia (H3.rv 3 rfl) rfl rfl rfl rfl (by have h_ := inO_rng (fi := fi) (i := wa_) (by assumption); omega) un29 ty85 ?_)))))))))
     intro ad2 x_ hx_ hA2
     obtain rfl : x1 = x_ := Option.some.inj (hx1.symm.trans hx_)
     refine qy rfl rfl rfl b3 (kq (fun _ _ => fa fl85_3 rfl rfl e1) (qy rfl rfl rfl b3 (q_ldI ((hA2).s3).fst.w ty3 rfl rfl ?_)))
     intro rv1
     refine qy rfl rfl rfl b3 (kq (fun _ _ => fa fl32_1 rfl rfl e1) (qy rfl rfl rfl b3 (kq (fun _ x_ => lx (H3.ext x_) 1 rfl ty29 rfl rfl rfl e1) (qy rfl rfl rfl b3 (kq (fun _ _ => fa fl25_1 rfl rfl e1) (qy rfl rfl rfl b3 (kq (fun _ x_ => lx (H3.ext x_) 0 rfl ty3 rfl rfl rfl e1) (qy rfl rfl rfl b3 (q_ia (H3.rv 3 rfl) rfl rfl rfl rfl (by have h_ := inO_rng (fi := fi) (i := rd_) (by assumption); omega) un29 ty85 ?_)))))))))
     intro ad3 x2 hx2 hA3
     refine qy rfl rfl rfl b3 (kq (fun _ _ => fa fl85_3 rfl rfl e1) (qy rfl rfl rfl b3 (q_ldI ((hA3).s3).fst.w ty3 rfl rfl ?_)))
     intro rv2
     refine qy rfl rfl rfl b3 (kq (fun _ _ => eql rfl rfl rfl rfl e1) (kq (fun _ _ => pickT rfl rfl rfl rfl b3 rfl e1) (kq (fun _ _ => asg (v := .bool (decide (x1.2.2.2.1 = x2.2.2.2.1))) rfl rfl e1) (zq ?_))))
     intro w2 xt2
     have H4 := H3.ext xt2
     refine nx (rt (r1 rfl rfl ?_))
     exact ⟨congrArg Value.bool (by simp only [earlyR, wrQ, vrO, hx0, hx1, hx2, b0, b1, b2, b3, BL]), H4.below⟩
    refine qn rfl rfl rfl b3 (qn rfl rfl rfl b3 (qn rfl rfl rfl b3 (qn rfl rfl rfl b3 (qn rfl rfl rfl b3 (qn rfl rfl rfl b3 (qn rfl rfl rfl b3 (qn rfl rfl rfl b3 (qn rfl rfl rfl b3 (qn rfl rfl rfl b3 (qn rfl rfl rfl b3 (qn rfl rfl rfl b3 (qn rfl rfl rfl b3 (qn rfl rfl rfl b3 (qn rfl rfl rfl b3 (kq (fun _ _ => pickF rfl rfl rfl rfl b3 rfl e1) (kq (fun _ _ => asg (v := .bool false) rfl rfl e1) (zq ?_)))))))))))))))))
    intro w2 xt2
    have H4 := H3.ext xt2
    refine nx (rt (r1 rfl rfl ?_))
    exact ⟨congrArg Value.bool (by simp only [earlyR, wrQ, vrO, hx0, hx1, b0, b1, b2, b3, BL]), H4.below⟩
   have p2 := dF b2
   refine qn rfl rfl rfl b2 (qn rfl rfl rfl b2 (qn rfl rfl rfl b2 (qn rfl rfl rfl b2 (qn rfl rfl rfl b2 (qn rfl rfl rfl b2 (qn rfl rfl rfl b2 (kq (fun _ _ => pickF rfl rfl rfl rfl b2 rfl e1) (kq (fun _ _ => mv (v := .bool false) rfl rfl e1) (qn rfl rfl rfl rfl (qn rfl rfl rfl rfl (qn rfl rfl rfl rfl (qn rfl rfl rfl rfl (qn rfl rfl rfl rfl (qn rfl rfl rfl rfl (qn rfl rfl rfl rfl (qn rfl rfl rfl rfl (qn rfl rfl rfl rfl (qn rfl rfl rfl rfl (qn rfl rfl rfl rfl (qn rfl rfl rfl rfl (qn rfl rfl rfl rfl (qn rfl rfl rfl rfl (qn rfl rfl rfl rfl (kq (fun _ _ => pickF rfl rfl rfl rfl rfl rfl e1) (kq (fun _ _ => asg (v := .bool false) rfl rfl e1) (zq ?_))))))))))))))))))))))))))
   intro w2 xt2
   have H4 := H3.ext xt2
   refine nx (rt (r1 rfl rfl ?_))
   exact ⟨congrArg Value.bool (by simp only [earlyR, wrQ, vrO, hx0, b0, b1, b2, BL]), H4.below⟩
  refine qn rfl rfl rfl b1 (qn rfl rfl rfl b1 (qn rfl rfl rfl b1 (qn rfl rfl rfl b1 (qn rfl rfl rfl b1 (qn rfl rfl rfl b1 (qn rfl rfl rfl b1 (kq (fun _ _ => pickF rfl rfl rfl rfl b1 rfl e1) (kq (fun _ _ => mv (v := .bool false) rfl rfl e1) (qn rfl rfl rfl rfl (qn rfl rfl rfl rfl (qn rfl rfl rfl rfl (qn rfl rfl rfl rfl (qn rfl rfl rfl rfl (qn rfl rfl rfl rfl (qn rfl rfl rfl rfl (kq (fun _ _ => pickF rfl rfl rfl rfl rfl rfl e1) (kq (fun _ _ => mv (v := .bool false) rfl rfl e1) (qn rfl rfl rfl rfl (qn rfl rfl rfl rfl (qn rfl rfl rfl rfl (qn rfl rfl rfl rfl (qn rfl rfl rfl rfl (qn rfl rfl rfl rfl (qn rfl rfl rfl rfl (qn rfl rfl rfl rfl (qn rfl rfl rfl rfl (qn rfl rfl rfl rfl (qn rfl rfl rfl rfl (qn rfl rfl rfl rfl (qn rfl rfl rfl rfl (qn rfl rfl rfl rfl (qn rfl rfl rfl rfl (kq (fun _ _ => pickF rfl rfl rfl rfl rfl rfl e1) (kq (fun _ _ => asg (v := .bool false) rfl rfl e1) (zq ?_)))))))))))))))))))))))))))))))))))
  intro w2 xt2
  have H4 := H3.ext xt2
  refine nx (rt (r1 rfl rfl ?_))
  exact ⟨congrArg Value.bool (by simp only [earlyR, wrQ, vrO, b0, b1, BL]), H4.below⟩
 refine qn rfl rfl rfl b0 (qn rfl rfl rfl b0 (qn rfl rfl rfl b0 (qn rfl rfl rfl b0 (kq (fun _ _ => pickF rfl rfl rfl rfl b0 rfl e1) (kq (fun _ _ => mv (v := .bool false) rfl rfl e1) (qn rfl rfl rfl rfl (qn rfl rfl rfl rfl (qn rfl rfl rfl rfl (qn rfl rfl rfl rfl (qn rfl rfl rfl rfl (qn rfl rfl rfl rfl (qn rfl rfl rfl rfl (kq (fun _ _ => pickF rfl rfl rfl rfl rfl rfl e1) (kq (fun _ _ => mv (v := .bool false) rfl rfl e1) (qn rfl rfl rfl rfl (qn rfl rfl rfl rfl (qn rfl rfl rfl rfl (qn rfl rfl rfl rfl (qn rfl rfl rfl rfl (qn rfl rfl rfl rfl (qn rfl rfl rfl rfl (kq (fun _ _ => pickF rfl rfl rfl rfl rfl rfl e1) (kq (fun _ _ => mv (v := .bool false) rfl rfl e1) (qn rfl rfl rfl rfl (qn rfl rfl rfl rfl (qn rfl rfl rfl rfl (qn rfl rfl rfl rfl (qn rfl rfl rfl rfl (qn rfl rfl rfl rfl (qn rfl rfl rfl rfl (qn rfl rfl rfl rfl (qn rfl rfl rfl rfl (qn rfl rfl rfl rfl (qn rfl rfl rfl rfl (qn rfl rfl rfl rfl (qn rfl rfl rfl rfl (qn rfl rfl rfl rfl (qn rfl rfl rfl rfl (kq (fun _ _ => pickF rfl rfl rfl rfl rfl rfl e1) (kq (fun _ _ => asg (v := .bool false) rfl rfl e1) (zq ?_)))))))))))))))))))))))))))))))))))))))))
 intro w2 xt2
 have H4 := H3.ext xt2
 refine nx (rt (r1 rfl rfl ?_))
 exact ⟨congrArg Value.bool (by simp only [earlyR, wrQ, vrO, b0, BL]), H4.below⟩
theorem ref20_right {a_fv : OA} {n_fv c_fv : Nat} {a_fi : OA} {c_fi : Nat} {fi : List ItemL} {a_fo : OA} {c_fo : Nat} {fo : List Int} {a_l : OA} {c_l : Nat} {l : List StepL} {n1 : Int} (hM : ∀ b, M b → b < w.heap.size) (h_fi : RV M w (.slice a_fi fi.length c_fi) fi) (h_fo : RV M w (.slice a_fo fo.length c_fo) fo) (h_l : RV M w (.slice a_l l.length c_l) l) (h_n1 : I64 n1) (hn_fi : fi.length ≤ 4096) (hfo : fo.length = fi.length) (hn1_ : 0 ≤ n1 ∧ n1 < ((l.length : Nat) : Int)) : Calls Tryz.prog 64 #[.agg #[.slice a_fv n_fv c_fv, .slice a_fi fi.length c_fi, .slice a_fo fo.length c_fo], .slice a_l l.length c_l, .int .i64 n1] w (Ret fun v w' =>  v = .bool (rgtO fi fo l n1) ∧ Ext w w') := by
 refine enter 158 Tryz.func64 rfl rfl rfl fun f0 ha => ?_
 have H := HI.start (M0 := M) (w := w) hM
 have H0 := H.put (it := iL a_fi fi c_fi) rfl (by rw [MS_nil]; exact h_fi)
 have H1 := H0.put (it := iL a_fo fo c_fo) rfl (by rw [MS_cons_none rfl, MS_nil]; exact h_fo)
 have H2 := H1.put (it := iL a_l l c_l) rfl (by rw [MS_cons_none rfl, MS_cons_none rfl, MS_nil]; exact h_l)
 have ln_fi := rv_len h_fi
 have ln_fo := rv_len h_fo
 have ln_l := rv_len h_l
 have i0 : f0 0 = .agg #[.slice a_fv n_fv c_fv, sL a_fi fi c_fi, sL a_fo fo c_fo] := ha 0 (by simp)
 have i1 : f0 1 = sL a_l l c_l := ha 1 (by simp)
 have i2 : f0 2 = iV n1 := ha 2 (by simp)
 refine sq (rg (k (bx H2 rfl i0 ?_)))
 intro bb0 w0 xt0 (H3 : HI M w w0 [box bb0 #[.slice a_fv n_fv c_fv, sL a_fi fi c_fi, sL a_fo fo c_fo] 32, iL a_l l c_l, iL a_fo fo c_fo, iL a_fi fi c_fi])
 refine k (asg (v := .bool false) rfl rfl (z (nx (sq (rg (k (mv rfl i1 (k (mv rfl i2 (k (ia (H3.rv 1 rfl) rfl rfl rfl rfl (by first | omega | (have h_ := inO_rng (notf ‹(!inO fi x0.2.1) = false›); have h2_ := inO_rng (notf ‹(!inO fi x0.2.2.1) = false›); omega)) un23 ty92 ?_)))))))))))
 intro ad0 x0 hx0 hA0
 refine k (ldW hA0.w ty92 rfl rfl ?_)
 intro v0 rv0
 obtain ⟨_, ⟨_, _, rfl, ⟨rfl, rv1⟩, ⟨_, _, rfl, ⟨rfl, rv2⟩, ⟨_, _, rfl, ⟨rfl, rv3⟩, ⟨_, _, rfl, ⟨rfl, rv4⟩, ⟨rfl, rv5⟩⟩⟩⟩⟩, rfl⟩ := rv0
 refine k (al H3 ty92 ?_)
 intro bb1 w1 xt1 (H4 : HI M w w1 [box bb1 #[iV 0, iV 0, iV 0, iV 0, iV 0] 92, box bb0 #[.slice a_fv n_fv c_fv, sL a_fi fi c_fi, sL a_fo fo c_fo] 32, iL a_l l c_l, iL a_fo fo c_fo, iL a_fi fi c_fi])
 refine k (stX H4 0 rfl ty92 rfl rfl rfl rfl rfl rfl rfl ?_)
 intro w2 (H5 : HI M w w2 [box bb1 #[iV x0.1, iV x0.2.1, iV x0.2.2.1, iV x0.2.2.2.1, iV x0.2.2.2.2] 92, box bb0 #[.slice a_fv n_fv c_fv, sL a_fi fi c_fi, sL a_fo fo c_fo] 32, iL a_l l c_l, iL a_fo fo c_fo, iL a_fi fi c_fi])
 refine z (nx (sq (sq (rg (k (ldX H5 1 rfl ty32 rfl rfl (by decide) rfl (k (fa fl92_1 rfl rfl (k (lx H5 0 rfl ty3 rfl rfl rfl (k ?_)))))))))))
 have cc0 := ref20_op (fi := fi) (n1 := x0.2.1) (a_fv := a_fv) (n_fv := n_fv) (c_fv := c_fv) (a_fo := a_fo) (n_fo := fo.length) (c_fo := c_fo) (w := w2) H5.mb (H5.rv 4 rfl) rv2
 refine ca go57 rfl (ec rfl (ec rfl e0)) cc0 ?_
 rintro _ w3 ⟨rfl, xt2⟩
 have H6 := H5.ext xt2
 refine k (not_ rfl rfl (k (mv (v := .bool (!(inO fi x0.2.1))) rfl rfl ?_)))
 rcases bE (!(inO fi x0.2.1)) with b0 | b0
 ·
  refine k (gn rfl rfl rfl b0 (k (gn rfl rfl rfl b0 (k (gn rfl rfl rfl b0 (k (gn rfl rfl rfl b0 (k (gn rfl rfl rfl b0 (k (pickT rfl rfl rfl rfl b0 rfl (z (nx (cdT rfl rfl rfl (sq (rg (k (asg (v := .bool false) rfl rfl (z (nx (rt (then_ret (r1 rfl rfl ?_)))))))))))))))))))))))
  exact ⟨congrArg Value.bool (by simp only [rgtO, rgtS, hx0, (nott b0), BL]), H6.below⟩
 refine k (gy rfl rfl rfl b0 (ldX H6 1 rfl ty32 rfl rfl (by decide) rfl (k (gy rfl rfl rfl b0 (fa fl92_2 rfl rfl (k (gy rfl rfl rfl b0 (lx H6 0 rfl ty3 rfl rfl rfl (k (gy rfl rfl rfl b0 ?_))))))))))
 have cc1 := ref20_op (fi := fi) (n1 := x0.2.2.1) (a_fv := a_fv) (n_fv := n_fv) (c_fv := c_fv) (a_fo := a_fo) (n_fo := fo.length) (c_fo := c_fo) (w := w3) H6.mb (H6.rv 4 rfl) rv3
 refine ca go57 rfl (ec rfl (ec rfl e0)) cc1 ?_
 rintro _ w4 ⟨rfl, xt3⟩
 have H7 := H6.ext xt3
 refine k (gy rfl rfl rfl b0 (not_ rfl rfl (k (pickF rfl rfl rfl rfl b0 rfl (z (nx ?_))))))
 refine cd (b := !(inO fi x0.2.2.1)) rfl rfl (fun b1 => ?_) (fun b1 => ?_)
 ·
  refine sq (rg (k (asg (v := .bool false) rfl rfl (z (nx (rt (then_ret (r1 rfl rfl ?_))))))))
  exact ⟨congrArg Value.bool (by simp only [rgtO, rgtS, hx0, (notf b0), (nott b1), BL]), H7.below⟩
 refine sk (nx (sq (sq (rg (k (fa fl92_0 rfl rfl (k (lx H7 0 rfl ty3 rfl rfl rfl (z (nx (bk (sq (rg (k (eql rfl rfl rfl rfl (k (asg (v := .bool (decide (x0.1 = 1))) rfl rfl (z (nx ?_)))))))))))))))))))
 refine cd (b := decide (x0.1 = 1)) rfl rfl (fun b2 => ?_) (fun b2 => ?_)
 ·
  have p2 := dT b2
  refine sq (rg (k (fa fl92_3 rfl rfl (k (lx H7 0 rfl ty3 rfl rfl rfl (k (eql rfl rfl rfl rfl (k (mv (v := .bool (decide (x0.2.2.2.1 = (-1)))) rfl rfl ?_)))))))))
  rcases bE (decide (x0.2.2.2.1 = (-1))) with b3 | b3
  ·
   have p3 := dT b3
   refine k (gy rfl rfl rfl b3 (fa fl92_4 rfl rfl (k (gy rfl rfl rfl b3 (lx H7 0 rfl ty3 rfl rfl rfl (k (gy rfl rfl rfl b3 (eql rfl rfl rfl rfl (k (pickT rfl rfl rfl rfl b3 rfl (k (mv (v := .bool (decide (x0.2.2.2.2 = (-1)))) rfl rfl ?_))))))))))))
   rcases bE (decide (x0.2.2.2.2 = (-1))) with b4 | b4
   ·
    have p4 := dT b4
    refine k (gy rfl rfl rfl b4 (ldX H7 1 rfl ty32 rfl rfl (by decide) rfl (k (gy rfl rfl rfl b4 (fa fl92_1 rfl rfl (k (gy rfl rfl rfl b4 (lx H7 0 rfl ty3 rfl rfl rfl (k (gy rfl rfl rfl b4 (fa fl92_2 rfl rfl (k (gy rfl rfl rfl b4 (lx H7 0 rfl ty3 rfl rfl rfl (k (gy rfl rfl rfl b4 ?_))))))))))))))))
    have cc2 := ref12_Ahead (fi := fi) (i := x0.2.1) (j := x0.2.2.1) (a_fv := a_fv) (n_fv := n_fv) (c_fv := c_fv) (a_fo := a_fo) (n_fo := fo.length) (c_fo := c_fo) (w := w4) H7.mb (H7.rv 4 rfl) rv2 rv3
    refine ca go97 rfl (ec rfl (ec rfl (ec rfl e0))) cc2 ?_
    rintro _ w5 ⟨rfl, xt4⟩
    have H8 := H7.ext xt4
    refine k (pickT rfl rfl rfl rfl b4 rfl (k (asg (v := .bool (ahB fi x0.2.1 x0.2.2.1)) rfl rfl (z (nx (rt (inb_ret (then_ret (r1 rfl rfl ?_)))))))))
    exact ⟨congrArg Value.bool (by simp only [rgtO, rgtS, hx0, (notf b0), (notf b1), b2, b3, b4, BL]), H8.below⟩
   have p4 := dF b4
   refine k (gn rfl rfl rfl b4 (k (gn rfl rfl rfl b4 (k (gn rfl rfl rfl b4 (k (gn rfl rfl rfl b4 (k (gn rfl rfl rfl b4 (k (gn rfl rfl rfl b4 (k (pickF rfl rfl rfl rfl b4 rfl (k (asg (v := .bool false) rfl rfl (z (nx (rt (inb_ret (then_ret (r1 rfl rfl ?_)))))))))))))))))))))
   exact ⟨congrArg Value.bool (by simp only [rgtO, rgtS, hx0, (notf b0), (notf b1), b2, b3, b4, BL]), H7.below⟩
  have p3 := dF b3
  refine k (gn rfl rfl rfl b3 (k (gn rfl rfl rfl b3 (k (gn rfl rfl rfl b3 (k (pickF rfl rfl rfl rfl b3 rfl (k (mv (v := .bool false) rfl rfl (k (gn rfl rfl rfl rfl (k (gn rfl rfl rfl rfl (k (gn rfl rfl rfl rfl (k (gn rfl rfl rfl rfl (k (gn rfl rfl rfl rfl (k (gn rfl rfl rfl rfl (k (pickF rfl rfl rfl rfl rfl rfl (k (asg (v := .bool false) rfl rfl (z (nx (rt (inb_ret (then_ret (r1 rfl rfl ?_)))))))))))))))))))))))))))))))
  exact ⟨congrArg Value.bool (by simp only [rgtO, rgtS, hx0, (notf b0), (notf b1), b2, b3, BL]), H7.below⟩
 have p2 := dF b2
 refine sq (rg (k (eql rfl rfl rfl rfl (k (asg (v := .bool (decide (x0.1 = 2))) rfl rfl (z (nx ?_)))))))
 refine cd (b := decide (x0.1 = 2)) rfl rfl (fun b3 => ?_) (fun b3 => ?_)
 ·
  have p3 := dT b3
  refine sq ?_
  refine drS rfl (by kernel_rfl) ?_
  refine kq (fun _ _ => fa fl92_3 rfl rfl e1) (kq (fun _ x_ => lx (H7.ext x_) 0 rfl ty3 rfl rfl rfl e1) (kq (fun _ _ => eql rfl rfl rfl rfl e1) (kq (fun _ _ => mv (v := .bool (decide (x0.2.2.2.1 = (-1)))) rfl rfl e1) ?_)))
  rcases bE (decide (x0.2.2.2.1 = (-1))) with b4 | b4
  ·
   have p4 := dT b4
   refine qy rfl rfl rfl b4 (kq (fun _ _ => fa fl92_4 rfl rfl e1) (qy rfl rfl rfl b4 (kq (fun _ x_ => lx (H7.ext x_) 0 rfl ty3 rfl rfl rfl e1) (qy rfl rfl rfl b4 (kq (fun _ _ => eql rfl rfl rfl rfl e1) (kq (fun _ _ => pickT rfl rfl rfl rfl b4 rfl e1) (kq (fun _ _ => mv (v := .bool (decide (x0.2.2.2.2 = (-1)))) rfl rfl e1) ?_)))))))
   rcases bE (decide (x0.2.2.2.2 = (-1))) with b5 | b5
   ·
    have p5 := dT b5
    refine qy rfl rfl rfl b5 (kq (fun _ _ => fa fl32_2 rfl rfl e1) (qy rfl rfl rfl b5 (kq (fun _ x_ => lx (H7.ext x_) 1 rfl ty30 rfl rfl rfl e1) (qy rfl rfl rfl b5 (kq (fun _ _ => fa fl92_2 rfl rfl e1) (qy rfl rfl rfl b5 (kq (fun _ x_ => lx (H7.ext x_) 0 rfl ty3 rfl rfl rfl e1) (qy rfl rfl rfl b5 (q_ia (H7.rv 3 rfl) rfl rfl rfl rfl (by first | omega | (have h_ := inO_rng (notf ‹(!inO fi x0.2.1) = false›); have h2_ := inO_rng (notf ‹(!inO fi x0.2.2.1) = false›); omega)) un30 ty3 ?_)))))))))
    intro ad1 x1 hx1 hA1
    refine qy rfl rfl rfl b5 (q_ldI hA1.w ty3 rfl rfl ?_)
    intro rv6
    refine qy rfl rfl rfl b5 (kq (fun _ _ => fa fl92_1 rfl rfl e1) (qy rfl rfl rfl b5 (kq (fun _ x_ => lx (H7.ext x_) 0 rfl ty3 rfl rfl rfl e1) (qy rfl rfl rfl b5 (kq (fun _ _ => eql rfl rfl rfl rfl e1) (kq (fun _ _ => pickT rfl rfl rfl rfl b5 rfl e1) (kq (fun _ _ => asg (v := .bool (decide (x1 = x0.2.1))) rfl rfl e1) (zq ?_))))))))
    intro w5 xt4
    have H8 := H7.ext xt4
    refine nx (rt (inb_ret (then_ret (r1 rfl rfl ?_))))
    exact ⟨congrArg Value.bool (by simp only [rgtO, rgtS, hx0, hx1, (notf b0), (notf b1), b2, b3, b4, b5, BL]), H8.below⟩
   have p5 := dF b5
   refine qn rfl rfl rfl b5 (qn rfl rfl rfl b5 (qn rfl rfl rfl b5 (qn rfl rfl rfl b5 (qn rfl rfl rfl b5 (qn rfl rfl rfl b5 (qn rfl rfl rfl b5 (qn rfl rfl rfl b5 (qn rfl rfl rfl b5 (kq (fun _ _ => pickF rfl rfl rfl rfl b5 rfl e1) (kq (fun _ _ => asg (v := .bool false) rfl rfl e1) (zq ?_)))))))))))
   intro w5 xt4
   have H8 := H7.ext xt4
   refine nx (rt (inb_ret (then_ret (r1 rfl rfl ?_))))
   exact ⟨congrArg Value.bool (by simp only [rgtO, rgtS, hx0, (notf b0), (notf b1), b2, b3, b4, b5, BL]), H8.below⟩
  have p4 := dF b4
  refine qn rfl rfl rfl b4 (qn rfl rfl rfl b4 (qn rfl rfl rfl b4 (kq (fun _ _ => pickF rfl rfl rfl rfl b4 rfl e1) (kq (fun _ _ => mv (v := .bool false) rfl rfl e1) (qn rfl rfl rfl rfl (qn rfl rfl rfl rfl (qn rfl rfl rfl rfl (qn rfl rfl rfl rfl (qn rfl rfl rfl rfl (qn rfl rfl rfl rfl (qn rfl rfl rfl rfl (qn rfl rfl rfl rfl (qn rfl rfl rfl rfl (kq (fun _ _ => pickF rfl rfl rfl rfl rfl rfl e1) (kq (fun _ _ => asg (v := .bool false) rfl rfl e1) (zq ?_))))))))))))))))
  intro w5 xt4
  have H8 := H7.ext xt4
  refine nx (rt (inb_ret (then_ret (r1 rfl rfl ?_))))
  exact ⟨congrArg Value.bool (by simp only [rgtO, rgtS, hx0, (notf b0), (notf b1), b2, b3, b4, BL]), H8.below⟩
 have p3 := dF b3
 refine sq (rg (k (eql rfl rfl rfl rfl (k (asg (v := .bool (decide (x0.1 = 3))) rfl rfl (z (nx ?_)))))))
 refine cd (b := decide (x0.1 = 3)) rfl rfl (fun b4 => ?_) (fun b4 => ?_)
 ·
  have p4 := dT b4
  refine sq (sq (rg (k (fa fl92_3 rfl rfl (k (lx H7 0 rfl ty3 rfl rfl rfl (k (lss rfl rfl rfl rfl (k (mv (v := .bool (decide (x0.2.2.2.1 < 0))) rfl rfl ?_))))))))))
  rcases bE (decide (x0.2.2.2.1 < 0)) with b5 | b5
  ·
   have p5 := dT b5
   refine k (gn rfl rfl rfl b5 (k (gn rfl rfl rfl b5 (k (gn rfl rfl rfl b5 (k (gn rfl rfl rfl b5 (k (pickT rfl rfl rfl rfl b5 rfl (k (mv (v := .bool true) rfl rfl (k (gn rfl rfl rfl rfl (k (gn rfl rfl rfl rfl (k (gn rfl rfl rfl rfl (k (pickT rfl rfl rfl rfl rfl rfl (k (mv (v := .bool true) rfl rfl (k (gn rfl rfl rfl rfl (k (gn rfl rfl rfl rfl (k (gn rfl rfl rfl rfl (k (gn rfl rfl rfl rfl (k (pickT rfl rfl rfl rfl rfl rfl (z (nx (cdT rfl rfl rfl (sq (rg (k (asg (v := .bool false) rfl rfl (z (nx (rt (then_ret (inb_ret (then_ret (r1 rfl rfl ?_)))))))))))))))))))))))))))))))))))))))))))))
   exact ⟨congrArg Value.bool (by simp only [rgtO, rgtS, hx0, (notf b0), (notf b1), b2, b3, b4, b5, BL]), H7.below⟩
  have p5 := dF b5
  refine k (gy rfl rfl rfl b5 (fa fl92_3 rfl rfl (k (gy rfl rfl rfl b5 (lx H7 0 rfl ty3 rfl rfl rfl (k (gy rfl rfl rfl b5 (mv rfl i2 (k (gy rfl rfl rfl b5 (geq rfl rfl rfl rfl (k (pickF rfl rfl rfl rfl b5 rfl (k (mv (v := .bool (decide (n1 ≤ x0.2.2.2.1))) rfl rfl ?_)))))))))))))))
  rcases bE (decide (n1 ≤ x0.2.2.2.1)) with b6 | b6
  ·
   have p6 := dT b6
   refine k (gn rfl rfl rfl b6 (k (gn rfl rfl rfl b6 (k (gn rfl rfl rfl b6 (k (pickT rfl rfl rfl rfl b6 rfl (k (mv (v := .bool true) rfl rfl (k (gn rfl rfl rfl rfl (k (gn rfl rfl rfl rfl (k (gn rfl rfl rfl rfl (k (gn rfl rfl rfl rfl (k (pickT rfl rfl rfl rfl rfl rfl (z (nx (cdT rfl rfl rfl (sq (rg (k (asg (v := .bool false) rfl rfl (z (nx (rt (then_ret (inb_ret (then_ret (r1 rfl rfl ?_)))))))))))))))))))))))))))))))))
   exact ⟨congrArg Value.bool (by simp only [rgtO, rgtS, hx0, (notf b0), (notf b1), b2, b3, b4, b5, b6, BL]), H7.below⟩
  have p6 := dF b6
  refine k (gy rfl rfl rfl b6 (fa fl92_4 rfl rfl (k (gy rfl rfl rfl b6 (lx H7 0 rfl ty3 rfl rfl rfl (k (gy rfl rfl rfl b6 (lss rfl rfl rfl rfl (k (pickF rfl rfl rfl rfl b6 rfl (k (mv (v := .bool (decide (x0.2.2.2.2 < 0))) rfl rfl ?_))))))))))))
  rcases bE (decide (x0.2.2.2.2 < 0)) with b7 | b7
  ·
   have p7 := dT b7
   refine k (gn rfl rfl rfl b7 (k (gn rfl rfl rfl b7 (k (gn rfl rfl rfl b7 (k (gn rfl rfl rfl b7 (k (pickT rfl rfl rfl rfl b7 rfl (z (nx (cdT rfl rfl rfl (sq (rg (k (asg (v := .bool false) rfl rfl (z (nx (rt (then_ret (inb_ret (then_ret (r1 rfl rfl ?_)))))))))))))))))))))))
   exact ⟨congrArg Value.bool (by simp only [rgtO, rgtS, hx0, (notf b0), (notf b1), b2, b3, b4, b5, b6, b7, BL]), H7.below⟩
  have p7 := dF b7
  refine k (gy rfl rfl rfl b7 (fa fl92_4 rfl rfl (k (gy rfl rfl rfl b7 (lx H7 0 rfl ty3 rfl rfl rfl (k (gy rfl rfl rfl b7 (mv rfl i2 (k (gy rfl rfl rfl b7 (geq rfl rfl rfl rfl (k (pickF rfl rfl rfl rfl b7 rfl (z (nx ?_)))))))))))))))
  refine cd (b := decide (n1 ≤ x0.2.2.2.2)) rfl rfl (fun b8 => ?_) (fun b8 => ?_)
  ·
   have p8 := dT b8
   refine sq (rg (k (asg (v := .bool false) rfl rfl (z (nx (rt (then_ret (inb_ret (then_ret (r1 rfl rfl ?_))))))))))
   exact ⟨congrArg Value.bool (by simp only [rgtO, rgtS, hx0, (notf b0), (notf b1), b2, b3, b4, b5, b6, b7, b8, BL]), H7.below⟩
  have p8 := dF b8
  refine sk (nx (sq ?_))
  refine drS rfl (by kernel_rfl) ?_
  refine kq (fun _ _ => mv rfl i1 e1) (kq (fun _ _ => fa fl92_3 rfl rfl e1) (kq (fun _ x_ => lx (H7.ext x_) 0 rfl ty3 rfl rfl rfl e1) (q_ia (H7.rv 2 rfl) rfl rfl rfl rfl (by first | omega | (have h_ := inO_rng (notf ‹(!inO fi x0.2.1) = false›); have h2_ := inO_rng (notf ‹(!inO fi x0.2.2.1) = false›); omega)) un23 ty92 ?_)))
  intro ad1 x1 hx1 hA1
  refine kq (fun _ _ => fa fl92_1 rfl rfl e1) (q_ldI ((hA1).s1).fst.w ty3 rfl rfl ?_)
  intro rv6
  refine kq (fun _ _ => fa fl92_1 rfl rfl e1) (kq (fun _ x_ => lx (H7.ext x_) 0 rfl ty3 rfl rfl rfl e1) (kq (fun _ _ => eql rfl rfl rfl rfl e1) (kq (fun _ _ => mv (v := .bool (decide (x1.2.1 = x0.2.1))) rfl rfl e1) ?_)))
  rcases bE (decide (x1.2.1 = x0.2.1)) with b9 | b9
  ·
   have p9 := dT b9
   refine qy rfl rfl rfl b9 (kq (fun _ _ => mv rfl i1 e1) (qy rfl rfl rfl b9 (kq (fun _ _ => fa fl92_3 rfl rfl e1) (qy rfl rfl rfl b9 (kq (fun _ x_ => lx (H7.ext x_) 0 rfl ty3 rfl rfl rfl e1) (qy rfl rfl rfl b9 (q_ia (H7.rv 2 rfl) rfl rfl rfl rfl (by first | omega | (have h_ := inO_rng (notf ‹(!inO fi x0.2.1) = false›); have h2_ := inO_rng (notf ‹(!inO fi x0.2.2.1) = false›); omega)) un23 ty92 ?_)))))))
   intro ad2 x_ hx_ hA2
   obtain rfl : x1 = x_ := Option.some.inj (hx1.symm.trans hx_)
   refine qy rfl rfl rfl b9 (kq (fun _ _ => fa fl92_2 rfl rfl e1) (qy rfl rfl rfl b9 (q_ldI ((hA2).s2).fst.w ty3 rfl rfl ?_)))
   intro rv7
   refine qy rfl rfl rfl b9 (kq (fun _ _ => mv rfl i1 e1) (qy rfl rfl rfl b9 (kq (fun _ _ => fa fl92_4 rfl rfl e1) (qy rfl rfl rfl b9 (kq (fun _ x_ => lx (H7.ext x_) 0 rfl ty3 rfl rfl rfl e1) (qy rfl rfl rfl b9 (q_ia (H7.rv 2 rfl) rfl rfl rfl rfl (by first | omega | (have h3_ := inO_rng (fi := fi) (i := x0.2.2.2.2) ‹_›; omega)) un23 ty92 ?_)))))))
   intro ad3 x2 hx2 hA3
   refine qy rfl rfl rfl b9 (kq (fun _ _ => fa fl92_1 rfl rfl e1) (qy rfl rfl rfl b9 (q_ldI ((hA3).s1).fst.w ty3 rfl rfl ?_)))
   intro rv8
   refine qy rfl rfl rfl b9 (kq (fun _ _ => eql rfl rfl rfl rfl e1) (kq (fun _ _ => pickT rfl rfl rfl rfl b9 rfl e1) (kq (fun _ _ => mv (v := .bool (decide (x1.2.2.1 = x2.2.1))) rfl rfl e1) ?_)))
   rcases bE (decide (x1.2.2.1 = x2.2.1)) with b10 | b10
   ·
    have p10 := dT b10
    refine qy rfl rfl rfl b10 (kq (fun _ _ => mv rfl i1 e1) (qy rfl rfl rfl b10 (kq (fun _ _ => fa fl92_4 rfl rfl e1) (qy rfl rfl rfl b10 (kq (fun _ x_ => lx (H7.ext x_) 0 rfl ty3 rfl rfl rfl e1) (qy rfl rfl rfl b10 (q_ia (H7.rv 2 rfl) rfl rfl rfl rfl (by first | omega | (have h3_ := inO_rng (fi := fi) (i := x0.2.2.2.2) ‹_›; omega)) un23 ty92 ?_)))))))
    intro ad4 x_ hx_ hA4
    obtain rfl : x2 = x_ := Option.some.inj (hx2.symm.trans hx_)
    refine qy rfl rfl rfl b10 (kq (fun _ _ => fa fl92_2 rfl rfl e1) (qy rfl rfl rfl b10 (q_ldI ((hA4).s2).fst.w ty3 rfl rfl ?_)))
    intro rv9
    refine qy rfl rfl rfl b10 (kq (fun _ _ => fa fl92_2 rfl rfl e1) (qy rfl rfl rfl b10 (kq (fun _ x_ => lx (H7.ext x_) 0 rfl ty3 rfl rfl rfl e1) (qy rfl rfl rfl b10 (kq (fun _ _ => eql rfl rfl rfl rfl e1) (kq (fun _ _ => pickT rfl rfl rfl rfl b10 rfl e1) (kq (fun _ _ => asg (v := .bool (decide (x2.2.2.1 = x0.2.2.1))) rfl rfl e1) (zq ?_))))))))
    intro w5 xt4
    have H8 := H7.ext xt4
    refine nx (rt (inb_ret (then_ret (r1 rfl rfl ?_))))
    exact ⟨congrArg Value.bool (by simp only [rgtO, rgtS, hx0, hx1, hx2, (notf b0), (notf b1), b2, b3, b4, b5, b6, b7, b8, b9, b10, BL]), H8.below⟩
   have p10 := dF b10
   refine qn rfl rfl rfl b10 (qn rfl rfl rfl b10 (qn rfl rfl rfl b10 (qn rfl rfl rfl b10 (qn rfl rfl rfl b10 (qn rfl rfl rfl b10 (qn rfl rfl rfl b10 (qn rfl rfl rfl b10 (qn rfl rfl rfl b10 (kq (fun _ _ => pickF rfl rfl rfl rfl b10 rfl e1) (kq (fun _ _ => asg (v := .bool false) rfl rfl e1) (zq ?_)))))))))))
   intro w5 xt4
   have H8 := H7.ext xt4
   refine nx (rt (inb_ret (then_ret (r1 rfl rfl ?_))))
   exact ⟨congrArg Value.bool (by simp only [rgtO, rgtS, hx0, hx1, hx2, (notf b0), (notf b1), b2, b3, b4, b5, b6, b7, b8, b9, b10, BL]), H8.below⟩
  have p9 := dF b9
  refine qn rfl rfl rfl b9 (qn rfl rfl rfl b9 (qn rfl rfl rfl b9 (qn rfl rfl rfl b9 (qn rfl rfl rfl b9 (qn rfl rfl rfl b9 (qn rfl rfl rfl b9 (qn rfl rfl rfl b9 (qn rfl rfl rfl b9 (qn rfl rfl rfl b9 (qn rfl rfl rfl b9 (qn rfl rfl rfl b9 (qn rfl rfl rfl b9 (kq (fun _ _ => pickF rfl rfl rfl rfl b9 rfl e1) (kq (fun _ _ => mv (v := .bool false) rfl rfl e1) (qn rfl rfl rfl rfl (qn rfl rfl rfl rfl (qn rfl rfl rfl rfl (qn rfl rfl rfl rfl (qn rfl rfl rfl rfl (qn rfl rfl rfl rfl (qn rfl rfl rfl rfl (qn rfl rfl rfl rfl (qn rfl rfl rfl rfl (kq (fun _ _ => pickF rfl rfl rfl rfl rfl rfl e1) (kq (fun _ _ => asg (v := .bool false) rfl rfl e1) (zq ?_))))))))))))))))))))))))))
  intro w5 xt4
  have H8 := H7.ext xt4
  refine nx (rt (inb_ret (then_ret (r1 rfl rfl ?_))))
  exact ⟨congrArg Value.bool (by simp only [rgtO, rgtS, hx0, hx1, (notf b0), (notf b1), b2, b3, b4, b5, b6, b7, b8, b9, BL]), H8.below⟩
 have p4 := dF b4
 refine sq (rg (k (eql rfl rfl rfl rfl (k (asg (v := .bool (decide (x0.1 = 4))) rfl rfl (z (nx ?_)))))))
 refine cd (b := decide (x0.1 = 4)) rfl rfl (fun b5 => ?_) (fun b5 => ?_)
 ·
  have p5 := dT b5
  refine sq ?_
  refine drS rfl (by kernel_rfl) ?_
  refine kq (fun _ x_ => ldX (H7.ext x_) 1 rfl ty32 rfl rfl (by decide) rfl e1) (kq (fun _ _ => fa fl92_4 rfl rfl e1) (kq (fun _ x_ => lx (H7.ext x_) 0 rfl ty3 rfl rfl rfl e1) ?_))
  refine kq (v := .bool (inO fi x0.2.2.2.2)) (fun v_ x_ => ?_) ?_
  ·
   have cc := ref20_op (fi := fi) (n1 := x0.2.2.2.2) (a_fv := a_fv) (n_fv := n_fv) (c_fv := c_fv) (a_fo := a_fo) (n_fo := fo.length) (c_fo := c_fo) (w := v_) (H7.ext x_).mb ((H7.ext x_).rv 4 rfl) rv5
   exact ca go57 rfl (ec rfl (ec rfl e0)) cc fun _ _ h_ => e2 h_
  refine kq (fun _ _ => mv (v := .bool (inO fi x0.2.2.2.2)) rfl rfl e1) ?_
  rcases bE (inO fi x0.2.2.2.2) with b6 | b6
  ·
   refine qy rfl rfl rfl b6 (kq (fun _ _ => fa fl32_2 rfl rfl e1) (qy rfl rfl rfl b6 (kq (fun _ x_ => lx (H7.ext x_) 1 rfl ty30 rfl rfl rfl e1) (qy rfl rfl rfl b6 (kq (fun _ _ => fa fl92_4 rfl rfl e1) (qy rfl rfl rfl b6 (kq (fun _ x_ => lx (H7.ext x_) 0 rfl ty3 rfl rfl rfl e1) (qy rfl rfl rfl b6 (q_ia (H7.rv 3 rfl) rfl rfl rfl rfl (by first | omega | (have h3_ := inO_rng (fi := fi) (i := x0.2.2.2.2) ‹_›; omega)) un30 ty3 ?_)))))))))
   intro ad1 x1 hx1 hA1
   refine qy rfl rfl rfl b6 (q_ldI hA1.w ty3 rfl rfl ?_)
   intro rv6
   refine qy rfl rfl rfl b6 (kq (fun _ _ => fa fl92_2 rfl rfl e1) (qy rfl rfl rfl b6 (kq (fun _ x_ => lx (H7.ext x_) 0 rfl ty3 rfl rfl rfl e1) (qy rfl rfl rfl b6 (kq (fun _ _ => eql rfl rfl rfl rfl e1) (kq (fun _ _ => pickT rfl rfl rfl rfl b6 rfl e1) (kq (fun _ _ => mv (v := .bool (decide (x1 = x0.2.2.1))) rfl rfl e1) ?_)))))))
   rcases bE (decide (x1 = x0.2.2.1)) with b7 | b7
   ·
    have p7 := dT b7
    refine qy rfl rfl rfl b7 (kq (fun _ x_ => ldX (H7.ext x_) 1 rfl ty32 rfl rfl (by decide) rfl e1) (qy rfl rfl rfl b7 (kq (fun _ _ => fa fl92_1 rfl rfl e1) (qy rfl rfl rfl b7 (kq (fun _ x_ => lx (H7.ext x_) 0 rfl ty3 rfl rfl rfl e1) (qy rfl rfl rfl b7 (kq (fun _ _ => fa fl92_2 rfl rfl e1) (qy rfl rfl rfl b7 (kq (fun _ x_ => lx (H7.ext x_) 0 rfl ty3 rfl rfl rfl e1) (qy rfl rfl rfl b7 ?_))))))))))
    refine kq (v := .bool (otherO fi x0.2.1 x0.2.2.1)) (fun v_ x_ => ?_) ?_
    ·
     have cc := ref20_other (fi := fi) (n1 := x0.2.1) (n2 := x0.2.2.1) (a_fv := a_fv) (n_fv := n_fv) (c_fv := c_fv) (a_fo := a_fo) (n_fo := fo.length) (c_fo := c_fo) (w := v_) (H7.ext x_).mb ((H7.ext x_).rv 4 rfl) rv2 rv3 (by first | omega | (have h_ := inO_rng (notf ‹(!inO fi x0.2.1) = false›); have h2_ := inO_rng (notf ‹(!inO fi x0.2.2.1) = false›); omega)) (by first | omega | (have h_ := inO_rng (notf ‹(!inO fi x0.2.1) = false›); have h2_ := inO_rng (notf ‹(!inO fi x0.2.2.1) = false›); omega))
     exact ca go61 rfl (ec rfl (ec rfl (ec rfl e0))) cc fun _ _ h_ => e2 h_
    refine kq (fun _ _ => pickT rfl rfl rfl rfl b7 rfl e1) (kq (fun _ _ => mv (v := .bool (otherO fi x0.2.1 x0.2.2.1)) rfl rfl e1) ?_)
    rcases bE (otherO fi x0.2.1 x0.2.2.1) with b8 | b8
    ·
     refine qy rfl rfl rfl b8 (kq (fun _ _ => mv rfl i1 e1) (qy rfl rfl rfl b8 (kq (fun _ _ => fa fl92_3 rfl rfl e1) (qy rfl rfl rfl b8 (kq (fun _ x_ => lx (H7.ext x_) 0 rfl ty3 rfl rfl rfl e1) (qy rfl rfl rfl b8 (kq (fun _ _ => mv rfl i2 e1) (qy rfl rfl rfl b8 (kq (fun _ _ => fa fl92_1 rfl rfl e1) (qy rfl rfl rfl b8 (kq (fun _ x_ => lx (H7.ext x_) 0 rfl ty3 rfl rfl rfl e1) (qy rfl rfl rfl b8 (kq (fun _ _ => fa fl92_4 rfl rfl e1) (qy rfl rfl rfl b8 (kq (fun _ x_ => lx (H7.ext x_) 0 rfl ty3 rfl rfl rfl e1) (qy rfl rfl rfl b8 ?_))))))))))))))))
     refine kq (v := .bool (sayB l x0.2.2.2.1 n1 x0.2.1 x0.2.2.2.2)) (fun v_ x_ => ?_) ?_
     ·
      have cc := ref20_says (l := l) (k1 := x0.2.2.2.1) (bf := n1) (n1 := x0.2.1) (n2 := x0.2.2.2.2) (w := v_) (H7.ext x_).mb ((H7.ext x_).rv 2 rfl) rv4 h_n1 rv2 rv5
      exact ca go59 rfl (ec rfl (ec rfl (ec rfl (ec rfl (ec rfl e0))))) cc fun _ _ h_ => e2 h_
     refine kq (fun _ _ => pickT rfl rfl rfl rfl b8 rfl e1) (kq (fun _ _ => asg (v := .bool (sayB l x0.2.2.2.1 n1 x0.2.1 x0.2.2.2.2)) rfl rfl e1) (zq ?_))
     intro w5 xt4
     have H8 := H7.ext xt4
     refine nx (rt (inb_ret (then_ret (r1 rfl rfl ?_))))
     exact ⟨congrArg Value.bool (by simp only [rgtO, rgtS, hx0, hx1, (notf b0), (notf b1), b2, b3, b4, b5, b6, b7, b8, BL]), H8.below⟩
    refine qn rfl rfl rfl b8 (qn rfl rfl rfl b8 (qn rfl rfl rfl b8 (qn rfl rfl rfl b8 (qn rfl rfl rfl b8 (qn rfl rfl rfl b8 (qn rfl rfl rfl b8 (qn rfl rfl rfl b8 (qn rfl rfl rfl b8 (kq (fun _ _ => pickF rfl rfl rfl rfl b8 rfl e1) (kq (fun _ _ => asg (v := .bool false) rfl rfl e1) (zq ?_)))))))))))
    intro w5 xt4
    have H8 := H7.ext xt4
    refine nx (rt (inb_ret (then_ret (r1 rfl rfl ?_))))
    exact ⟨congrArg Value.bool (by simp only [rgtO, rgtS, hx0, hx1, (notf b0), (notf b1), b2, b3, b4, b5, b6, b7, b8, BL]), H8.below⟩
   have p7 := dF b7
   refine qn rfl rfl rfl b7 (qn rfl rfl rfl b7 (qn rfl rfl rfl b7 (qn rfl rfl rfl b7 (qn rfl rfl rfl b7 (qn rfl rfl rfl b7 (kq (fun _ _ => pickF rfl rfl rfl rfl b7 rfl e1) (kq (fun _ _ => mv (v := .bool false) rfl rfl e1) (qn rfl rfl rfl rfl (qn rfl rfl rfl rfl (qn rfl rfl rfl rfl (qn rfl rfl rfl rfl (qn rfl rfl rfl rfl (qn rfl rfl rfl rfl (qn rfl rfl rfl rfl (qn rfl rfl rfl rfl (qn rfl rfl rfl rfl (kq (fun _ _ => pickF rfl rfl rfl rfl rfl rfl e1) (kq (fun _ _ => asg (v := .bool false) rfl rfl e1) (zq ?_)))))))))))))))))))
   intro w5 xt4
   have H8 := H7.ext xt4
   refine nx (rt (inb_ret (then_ret (r1 rfl rfl ?_))))
   exact ⟨congrArg Value.bool (by simp only [rgtO, rgtS, hx0, hx1, (notf b0), (notf b1), b2, b3, b4, b5, b6, b7, BL]), H8.below⟩
  refine qn rfl rfl rfl b6 (qn rfl rfl rfl b6 (qn rfl rfl rfl b6 (qn rfl rfl rfl b6 (qn rfl rfl rfl b6 (qn rfl rfl rfl b6 (qn rfl rfl rfl b6 (qn rfl rfl rfl b6 (qn rfl rfl rfl b6 (kq (fun _ _ => pickF rfl rfl rfl rfl b6 rfl e1) (kq (fun _ _ => mv (v := .bool false) rfl rfl e1) (qn rfl rfl rfl rfl (qn rfl rfl rfl rfl (qn rfl rfl rfl rfl (qn rfl rfl rfl rfl (qn rfl rfl rfl rfl (qn rfl rfl rfl rfl (kq (fun _ _ => pickF rfl rfl rfl rfl rfl rfl e1) (kq (fun _ _ => mv (v := .bool false) rfl rfl e1) (qn rfl rfl rfl rfl (qn rfl rfl rfl rfl (qn rfl rfl rfl rfl (qn rfl rfl rfl rfl (qn rfl rfl rfl rfl (qn rfl rfl rfl rfl (qn rfl rfl rfl rfl (qn rfl rfl rfl rfl (qn rfl rfl rfl rfl (kq (fun _ _ => pickF rfl rfl rfl rfl rfl rfl e1) (kq (fun _ _ => asg (v := .bool false) rfl rfl e1) (zq ?_))))))))))))))))))))))))))))))
  intro w5 xt4
  have H8 := H7.ext xt4
  refine nx (rt (inb_ret (then_ret (r1 rfl rfl ?_))))
  exact ⟨congrArg Value.bool (by simp only [rgtO, rgtS, hx0, (notf b0), (notf b1), b2, b3, b4, b5, b6, BL]), H8.below⟩
 have p5 := dF b5
 refine sk (inb_normal (nx (sq (rg (k (asg (v := .bool false) rfl rfl (z (nx (rt (r1 rfl rfl ?_))))))))))
 exact ⟨congrArg Value.bool (by simp only [rgtO, rgtS, hx0, (notf b0), (notf b1), b2, b3, b4, b5, BL]), H7.below⟩
theorem ref20_Steps {a_fv : OA} {n_fv c_fv : Nat} {a_fi : OA} {c_fi : Nat} {fi : List ItemL} {a_fo : OA} {c_fo : Nat} {fo : List Int} {a_l : OA} {c_l : Nat} {l : List StepL} (hM : ∀ b, M b → b < w.heap.size) (h_fi : RV M w (.slice a_fi fi.length c_fi) fi) (h_fo : RV M w (.slice a_fo fo.length c_fo) fo) (h_l : RV M w (.slice a_l l.length c_l) l) (hn_fi : fi.length ≤ 4096) (hfo : fo.length = fi.length) : Calls Tryz.prog 27 #[.agg #[.slice a_fv n_fv c_fv, .slice a_fi fi.length c_fi, .slice a_fo fo.length c_fo], .slice a_l l.length c_l] w (Ret fun v w' =>  v = .bool (stepsR fi fo l) ∧ Ext w w') := by
 refine enter 17 Tryz.func27 rfl rfl rfl fun f0 ha => ?_
 have H := HI.start (M0 := M) (w := w) hM
 have H0 := H.put (it := iL a_fi fi c_fi) rfl (by rw [MS_nil]; exact h_fi)
 have H1 := H0.put (it := iL a_fo fo c_fo) rfl (by rw [MS_cons_none rfl, MS_nil]; exact h_fo)
 have H2 := H1.put (it := iL a_l l c_l) rfl (by rw [MS_cons_none rfl, MS_cons_none rfl, MS_nil]; exact h_l)
 have ln_fi := rv_len h_fi
 have ln_fo := rv_len h_fo
 have ln_l := rv_len h_l
 have i0 : f0 0 = .agg #[.slice a_fv n_fv c_fv, sL a_fi fi c_fi, sL a_fo fo c_fo] := ha 0 (by simp)
 have i1 : f0 1 = sL a_l l c_l := ha 1 (by simp)
 refine sq (rg (k (bx H2 rfl i0 ?_)))
 intro bb0 w0 xt0 (H3 : HI M w w0 [box bb0 #[.slice a_fv n_fv c_fv, sL a_fi fi c_fi, sL a_fo fo c_fo] 32, iL a_l l c_l, iL a_fo fo c_fo, iL a_fi fi c_fi])
 refine k (asg (v := .bool false) rfl rfl (z (nx (sq (sq (rg (k (asg (v := iV 0) rfl rfl (z (nx (bk ?_)))))))))))
 refine lp (fun m f w' => ∃ (j_ : Nat), m = l.length - j_ ∧ f 1 = sL a_l l c_l ∧ f 2 = pV bb0 0 ∧ f 5 = iV (j_ : Int) ∧  HI M w w' [box bb0 #[.slice a_fv n_fv c_fv, sL a_fi fi c_fi, sL a_fo fo c_fo] 32, iL a_l l c_l, iL a_fo fo c_fo, iL a_fi fi c_fi] ∧ (j_ ≤ l.length) ∧ ((List.range j_).all (fun i => rgtO fi fo l ((i : Nat) : Int)) = true)) _ ⟨0, rfl, i1, rfl, (ieq rfl (by first | rfl | omega | simp)), H3, (by first | omega | assumption | simp), (by rfl)⟩ ?_
 rintro _ f0 w1 ⟨j_, rfl, s0, s1, s2, H4, hk_, hs⟩
 refine sq (sq (rg (k (mv rfl s2 (k (mv rfl s0 (k (lnS rfl rfl un23 (k (lss rfl rfl rfl rfl (z (nx ?_))))))))))))
 refine cd (b := decide ((j_ : Int) < (l.length : Int))) rfl rfl (fun b0 => ?_) (fun b0 => ?_)
 ·
  have p0 := dT b0
  refine sk (nx (sq (bk (sq (rg (k (ldX H4 0 rfl ty32 rfl s1 (by decide) rfl (k (mv rfl s0 (k (mv rfl s2 (k ?_))))))))))))
  have cc0 := ref20_right (fi := fi) (fo := fo) (l := l) (n1 := (j_ : Int)) (a_fv := a_fv) (n_fv := n_fv) (c_fv := c_fv) (w := w1) H4.mb (H4.rv 3 rfl) (H4.rv 2 rfl) (H4.rv 1 rfl) (by first | assumption | (unfold I64 at *; omega)) (by exact hn_fi) (by exact hfo) (by omega)
  refine ca go64 rfl (ec rfl (ec rfl (ec rfl e0))) cc0 ?_
  rintro _ w2 ⟨rfl, xt1⟩
  have H5 := H4.ext xt1
  refine k (not_ rfl rfl (z (nx ?_)))
  refine cd (b := !(rgtO fi fo l (j_ : Int))) rfl rfl (fun b1 => ?_) (fun b1 => ?_)
  ·
   refine sq (rg (k (asg (v := .bool false) rfl rfl (z (nx (rt (inb_ret (then_ret (loop_ret (inb_ret (then_ret (r1 rfl rfl ?_))))))))))))
   exact ⟨congrArg Value.bool (by exact allr_hit (q := fun i => rgtO fi fo l ((i : Nat) : Int)) (j := j_) (by omega) (nott b1)), H5.below⟩
  refine sk (inb_normal (nx (rg (k (mv rfl s2 (k (add rfl rfl rfl rfl (by first | assumption | (unfold I64 at *; omega)) (k (asg (v := iV ((j_ : Int) + 1)) rfl rfl (z ?_))))))))))
  refine loopN _ ?_ ⟨(j_ + 1), rfl, s0, s1, (ieq rfl (by first | rfl | omega)), H5, (by first | omega | assumption | simp), (by exact allr_step hs (notf b1))⟩
  omega
 have p0 := dF b0
 refine ex (then_exit (loop_exit (inb_here (nx (sq (rg (k (asg (v := .bool true) rfl rfl (z (nx (rt (r1 rfl rfl ?_))))))))))))
 exact ⟨congrArg Value.bool (by exact allr_end hs hk_ (by omega)), H4.below⟩
theorem go96 : GoF Tryz.prog 96 := ⟨_, _, Tryz.func96, rfl, by kernel_rfl⟩
theorem ref16_With {mn : Int} {a_mr : OA} {c_mr : Nat} {mr : List (List (BitVec 64))} {o : Int} (hM : ∀ b, M b → b < w.heap.size) (h_mn : I64 mn) (h_mr : RV M w (.slice a_mr mr.length c_mr) mr) (h_o : I64 o) (rt_m : rightS mn mr = true) : Calls Tryz.prog 68 #[.agg #[.int .i64 mn, .slice a_mr mr.length c_mr], .int .i64 o] w (Ret fun v w' => ∃ (a0 : OA) (c0 : Nat), v = .slice a0 (withL mn mr o).length c0 ∧ Ext w w' ∧ OwnsG M 3 w (withL mn mr o) (.slice a0 (withL mn mr o).length c0) w') := by
 refine enter 37 Tryz.func68 rfl rfl rfl fun f0 ha => ?_
 have H := HI.start (M0 := M) (w := w) hM
 have H0 := H.put (it := iL a_mr mr c_mr) rfl (by rw [MS_nil]; exact h_mr)
 have ln_mr := rv_len h_mr
 have i0 : f0 0 = .agg #[iV mn, sL a_mr mr c_mr] := ha 0 (by simp)
 have i1 : f0 1 = iV o := ha 1 (by simp)
 have hl_ := (right_sq rt_m).1; have h4_ := (right_sq rt_m).2.2.1; have h0_ := right_pos rt_m
 refine sq (rg (k (bx H0 rfl i0 ?_)))
 intro bb0 w0 xt0 (H1 : HI M w w0 [box bb0 #[iV mn, sL a_mr mr c_mr] 68, iL a_mr mr c_mr])
 refine k (asg (v := .slice none 0 0) rfl rfl (z (nx (sq (rg (k (asg (v := .slice none 0 0) rfl rfl (z (nx (sq (sq (rg (k (asg (v := iV 0) rfl rfl (z (nx (bk ?_)))))))))))))))))
 have H2 := H1.nil_ Int 3
 refine lp (fun m f w' => ∃ (q : Nat) (out : List Int) (a0 : OA) (c0 : Nat), m = mn.toNat - q ∧ f 1 = iV o ∧ f 2 = pV bb0 0 ∧ f 5 = sL a0 out c0 ∧ f 6 = iV (q : Int) ∧  HI M w w' [oL w 3 a0 out c0, box bb0 #[iV mn, sL a_mr mr c_mr] 68, iL a_mr mr c_mr] ∧ (q ≤ mn.toNat) ∧ (q = 0 ∨ (0 ≤ o ∧ o < mn)) ∧ (out = withO mn mr o q)) _ ⟨0, ([] : List Int), none, 0, rfl, i1, rfl, rfl, (ieq rfl (by first | rfl | omega | simp)), H2, (by first | omega | assumption | simp), (by first | omega | assumption | simp), (by rfl)⟩ ?_
 rintro _ f0 w1 ⟨q, out, a0, c0, rfl, s0, s1, s2, s3, H3, hq_, hr_, hs⟩
 refine sq (sq (rg (k (mv rfl s3 (k (fa fl68_0 rfl s1 (k (lx H3 1 rfl ty3 rfl rfl rfl (k (lss rfl rfl rfl rfl (k (mv (v := .bool (decide ((q : Int) < mn))) rfl rfl ?_))))))))))))
 rcases bE (decide ((q : Int) < mn)) with b0 | b0
 ·
  have p0 := dT b0
  refine k (gy rfl rfl rfl b0 (mv rfl s0 (k (gy rfl rfl rfl b0 (geq rfl rfl rfl rfl (k (pickT rfl rfl rfl rfl b0 rfl (k (mv (v := .bool (decide (0 ≤ o))) rfl rfl ?_)))))))))
  rcases bE (decide (0 ≤ o)) with b1 | b1
  ·
   have p1 := dT b1
   refine k (gy rfl rfl rfl b1 (mv rfl s0 (k (gy rfl rfl rfl b1 (fa fl68_0 rfl s1 (k (gy rfl rfl rfl b1 (lx H3 1 rfl ty3 rfl rfl rfl (k (gy rfl rfl rfl b1 (lss rfl rfl rfl rfl (k (pickT rfl rfl rfl rfl b1 rfl (z (nx ?_)))))))))))))))
   refine cd (b := decide (o < mn)) rfl rfl (fun b2 => ?_) (fun b2 => ?_)
   ·
    have p2 := dT b2
    refine sk (nx (sq (bk (sq (rg (k (mv rfl s3 (k (mv rfl s0 (k (eql rfl rfl rfl rfl (k (mv (v := .bool (decide ((q : Int) = o))) rfl rfl ?_)))))))))))))
    rcases bE (decide ((q : Int) = o)) with b3 | b3
    ·
     have p3 := dT b3
     refine k (gn rfl rfl rfl b3 (k (gn rfl rfl rfl b3 (k (gn rfl rfl rfl b3 (k (gn rfl rfl rfl b3 (k (pickT rfl rfl rfl rfl b3 rfl (z (nx (cdT rfl rfl rfl (rg (k (mv rfl s2 (k (mv rfl s3 (k (bs (xs := ([(q : Int)] : List Int)) (cells := #[iV (q : Int)]) (e := 3) H3 rfl (pbc rfl pb0) (fun _ => by kernel_rfl) ⟨[iV (q : Int)], [], rfl, ⟨rfl, (show I64 ((q : Int)) from (by unfold I64 at *; omega))⟩, rfl⟩ rfl (by decide) ?_)))))))))))))))))))
     intro g0 w2 xt1 H4
     refine k (apB H4 1 rfl rfl rfl rfl rfl rfl (own_src (H4.at_ 0 rfl)) un30 ty3 rfl (by have h_ := withO_len mn mr o q; rw [hs]; simp only [lC_, lN_]; omega) rfl ?_)
     intro a1 c1 w3 (H5 : HI M w w3 [own w.heap.size 3 (.slice (some ⟨g0, 0, none⟩) 1 1) ([(q : Int)] : List Int), oL w 3 a1 (out ++ ([(q : Int)] : List Int)) c1, box bb0 #[iV mn, sL a_mr mr c_mr] 68, iL a_mr mr c_mr])
     refine k (asg (v := sL a1 (out ++ ([(q : Int)] : List Int)) c1) rfl rfl (z (inb_normal (nx (rg (k (mv rfl s3 (k (add rfl rfl rfl rfl (by unfold I64 at *; omega) (k (asg (v := iV ((q : Int) + 1)) rfl rfl (z ?_))))))))))))
     have H6 : HI M w w3 [oL w 3 a1 (out ++ ([(q : Int)] : List Int)) c1, box bb0 #[iV mn, sL a_mr mr c_mr] 68, iL a_mr mr c_mr] := H5.pickN [1, 2, 3] (by decide) rfl
     refine loopN _ ?_ ⟨(q + 1), (out ++ ([(q : Int)] : List Int)), a1, c1, rfl, s0, s1, rfl, (ieq rfl (by first | rfl | omega)), H6, (by first | omega | assumption | simp), (by omega), (by rw [hs]; first | exact withO_yes (.inl (by assumption)) | exact withO_yes (.inr (by assumption)) | exact withO_no (by assumption) (by assumption))⟩
     omega
    have p3 := dF b3
    refine k (gy rfl rfl rfl b3 (ldX H3 1 rfl ty68 rfl s1 (by decide) rfl (k (gy rfl rfl rfl b3 (mv rfl s3 (k (gy rfl rfl rfl b3 (mv rfl s0 (k (gy rfl rfl rfl b3 ?_))))))))))
    have cc0 := ref03_Has (mn := mn) (mr := mr) (i := (q : Int)) (j := o) (w := w1) H3.mb h_mn (H3.rv 2 rfl) (by unfold I64 at *; omega) h_o (by exact (right_sq rt_m).1) (by exact (right_sq rt_m).2.1) (by exact (right_sq rt_m).2.2.1)
    refine ca go75 rfl (ec rfl (ec rfl (ec rfl e0))) cc0 ?_
    rintro _ w2 ⟨rfl, xt1⟩
    have H4 := H3.ext xt1
    refine k (pickF rfl rfl rfl rfl b3 rfl (z (nx ?_)))
    refine cd (b := hasM mn mr (q : Int) o) rfl rfl (fun b4 => ?_) (fun b4 => ?_)
    ·
     refine rg (k (mv rfl s2 (k (mv rfl s3 (k (bs (xs := ([(q : Int)] : List Int)) (cells := #[iV (q : Int)]) (e := 3) H4 rfl (pbc rfl pb0) (fun _ => by kernel_rfl) ⟨[iV (q : Int)], [], rfl, ⟨rfl, (show I64 ((q : Int)) from (by unfold I64 at *; omega))⟩, rfl⟩ rfl (by decide) ?_))))))
     intro g0 w3 xt2 H5
     refine k (apB H5 1 rfl rfl rfl rfl rfl rfl (own_src (H5.at_ 0 rfl)) un30 ty3 rfl (by have h_ := withO_len mn mr o q; rw [hs]; simp only [lC_, lN_]; omega) rfl ?_)
     intro a1 c1 w4 (H6 : HI M w w4 [own w.heap.size 3 (.slice (some ⟨g0, 0, none⟩) 1 1) ([(q : Int)] : List Int), oL w 3 a1 (out ++ ([(q : Int)] : List Int)) c1, box bb0 #[iV mn, sL a_mr mr c_mr] 68, iL a_mr mr c_mr])
     refine k (asg (v := sL a1 (out ++ ([(q : Int)] : List Int)) c1) rfl rfl (z (inb_normal (nx (rg (k (mv rfl s3 (k (add rfl rfl rfl rfl (by unfold I64 at *; omega) (k (asg (v := iV ((q : Int) + 1)) rfl rfl (z ?_))))))))))))
     have H7 : HI M w w4 [oL w 3 a1 (out ++ ([(q : Int)] : List Int)) c1, box bb0 #[iV mn, sL a_mr mr c_mr] 68, iL a_mr mr c_mr] := H6.pickN [1, 2, 3] (by decide) rfl
     refine loopN _ ?_ ⟨(q + 1), (out ++ ([(q : Int)] : List Int)), a1, c1, rfl, s0, s1, rfl, (ieq rfl (by first | rfl | omega)), H7, (by first | omega | assumption | simp), (by omega), (by rw [hs]; first | exact withO_yes (.inl (by assumption)) | exact withO_yes (.inr (by assumption)) | exact withO_no (by assumption) (by assumption))⟩
     omega
    refine sk (inb_normal (nx (rg (k (mv rfl s3 (k (add rfl rfl rfl rfl (by unfold I64 at *; omega) (k (asg (v := iV ((q : Int) + 1)) rfl rfl (z ?_))))))))))
    refine loopN _ ?_ ⟨(q + 1), out, a0, c0, rfl, s0, s1, s2, (ieq rfl (by first | rfl | omega)), H4, (by first | omega | assumption | simp), (by omega), (by rw [hs]; first | exact withO_yes (.inl (by assumption)) | exact withO_yes (.inr (by assumption)) | exact withO_no (by assumption) (by assumption))⟩
    omega
   have p2 := dF b2
   refine ex (then_exit (loop_exit (inb_here (nx (sq (rg (k (mv rfl s2 (k (asg (v := sL a0 out c0) rfl rfl (z (nx (rt (r1 rfl rfl ?_))))))))))))))
   have e0 : (out : List Int) = withL mn mr o := by rw [hs]; exact with_end rt_m (by omega) hq_ (by omega)
   have ev_ := cg1 (fun (x_0 : List Int) => (.slice a0 x_0.length c0 : Value)) e0
   exact ⟨a0, c0, ev_, H3.below, (congrArg (fun (x_ : List Int) => OwnsG _ _ _ x_ (.slice a0 x_.length c0) _) e0).mp (H3.ownsG_out 0 rfl)⟩
  have p1 := dF b1
  refine k (gn rfl rfl rfl b1 (k (gn rfl rfl rfl b1 (k (gn rfl rfl rfl b1 (k (gn rfl rfl rfl b1 (k (pickF rfl rfl rfl rfl b1 rfl (z (nx (cdF rfl rfl rfl (ex (then_exit (loop_exit (inb_here (nx (sq (rg (k (mv rfl s2 (k (asg (v := sL a0 out c0) rfl rfl (z (nx (rt (r1 rfl rfl ?_)))))))))))))))))))))))))))
  have e0 : (out : List Int) = withL mn mr o := by rw [hs]; exact with_end rt_m (by omega) hq_ (by omega)
  have ev_ := cg1 (fun (x_0 : List Int) => (.slice a0 x_0.length c0 : Value)) e0
  exact ⟨a0, c0, ev_, H3.below, (congrArg (fun (x_ : List Int) => OwnsG _ _ _ x_ (.slice a0 x_.length c0) _) e0).mp (H3.ownsG_out 0 rfl)⟩
 have p0 := dF b0
 refine k (gn rfl rfl rfl b0 (k (gn rfl rfl rfl b0 (k (pickF rfl rfl rfl rfl b0 rfl (k (mv (v := .bool false) rfl rfl (k (gn rfl rfl rfl rfl (k (gn rfl rfl rfl rfl (k (gn rfl rfl rfl rfl (k (gn rfl rfl rfl rfl (k (pickF rfl rfl rfl rfl rfl rfl (z (nx (cdF rfl rfl rfl (ex (then_exit (loop_exit (inb_here (nx (sq (rg (k (mv rfl s2 (k (asg (v := sL a0 out c0) rfl rfl (z (nx (rt (r1 rfl rfl ?_)))))))))))))))))))))))))))))))))))
 have e0 : (out : List Int) = withL mn mr o := by rw [hs]; exact with_end rt_m (by omega) hq_ (by omega)
 have ev_ := cg1 (fun (x_0 : List Int) => (.slice a0 x_0.length c0 : Value)) e0
 exact ⟨a0, c0, ev_, H3.below, (congrArg (fun (x_ : List Int) => OwnsG _ _ _ x_ (.slice a0 x_.length c0) _) e0).mp (H3.ownsG_out 0 rfl)⟩
theorem ref16_Kept {a_fv : OA} {n_fv c_fv : Nat} {a_fi : OA} {c_fi : Nat} {fi : List ItemL} {a_fo : OA} {n_fo c_fo : Nat} {o : Int} (hM : ∀ b, M b → b < w.heap.size) (h_fi : RV M w (.slice a_fi fi.length c_fi) fi) (h_o : I64 o) (hn_fi : fi.length ≤ 4096) : Calls Tryz.prog 62 #[.agg #[.slice a_fv n_fv c_fv, .slice a_fi fi.length c_fi, .slice a_fo n_fo c_fo], .int .i64 o] w (Ret fun v w' => ∃ (a0 : OA) (c0 : Nat), v = .slice a0 (keepL (wrQ fi) (pastB fi o fi.length)).length c0 ∧ Ext w w' ∧ OwnsG M 3 w (keepL (wrQ fi) (pastB fi o fi.length)) (.slice a0 (keepL (wrQ fi) (pastB fi o fi.length)).length c0) w') := by
 refine enter 35 Tryz.func62 rfl rfl rfl fun f0 ha => ?_
 have H := HI.start (M0 := M) (w := w) hM
 have H0 := H.put (it := iL a_fi fi c_fi) rfl (by rw [MS_nil]; exact h_fi)
 have ln_fi := rv_len h_fi
 have i0 : f0 0 = .agg #[.slice a_fv n_fv c_fv, sL a_fi fi c_fi, .slice a_fo n_fo c_fo] := ha 0 (by simp)
 have i1 : f0 1 = iV o := ha 1 (by simp)
 refine sq (rg (k (bx H0 rfl i0 ?_)))
 intro bb0 w0 xt0 (H1 : HI M w w0 [box bb0 #[.slice a_fv n_fv c_fv, sL a_fi fi c_fi, .slice a_fo n_fo c_fo] 32, iL a_fi fi c_fi])
 refine k (asg (v := .slice none 0 0) rfl rfl (z (nx (sq (rg (k (asg (v := .slice none 0 0) rfl rfl (z (nx (sq (rg (k (ldX H1 0 rfl ty32 rfl rfl (by decide) rfl (k (mv rfl i1 (k ?_))))))))))))))))
 have cc0 := ref12_Past (fi := fi) (tt := o) (a_fv := a_fv) (n_fv := n_fv) (c_fv := c_fv) (a_fo := a_fo) (n_fo := n_fo) (c_fo := c_fo) (w := w0) H1.mb (H1.rv 1 rfl) h_o (by omega)
 refine ca go96 rfl (ec rfl (ec rfl e0)) cc0 ?_
 rintro _ w1 ⟨a0, c0, rfl, xt1, rv0⟩
 have H2 := H1.ownsG rv0
 refine k (asg (v := sL a0 (pastB fi o fi.length) c0) rfl rfl (z (nx (sq (sq (rg (k (asg (v := iV 0) rfl rfl (z (nx (bk ?_)))))))))))
 have H3 := H2.nil_ Int 3
 refine lp (fun m f w' => ∃ (q : Nat) (out : List Int) (a1 : OA) (c1 : Nat), m = (pastB fi o fi.length).length - q ∧ f 2 = pV bb0 0 ∧ f 5 = sL a1 out c1 ∧ f 6 = sL a0 (pastB fi o fi.length) c0 ∧ f 7 = iV (q : Int) ∧  HI M w w' [oL w 3 a1 out c1, oL w 3 a0 (pastB fi o fi.length) c0, box bb0 #[.slice a_fv n_fv c_fv, sL a_fi fi c_fi, .slice a_fo n_fo c_fo] 32, iL a_fi fi c_fi] ∧ (q ≤ (pastB fi o fi.length).length) ∧ (out = keepL (wrQ fi) ((pastB fi o fi.length).take q))) _ ⟨0, ([] : List Int), none, 0, rfl, rfl, rfl, rfl, (ieq rfl (by first | rfl | omega | simp)), H3, (by first | omega | assumption | simp), (by rfl)⟩ ?_
 rintro _ f0 w2 ⟨q, out, a1, c1, rfl, s0, s1, s2, s3, H4, hq_, hs⟩
 refine sq (sq (rg (k (mv rfl s3 (k (mv rfl s2 (k (lnS rfl rfl un30 (k (lss rfl rfl rfl rfl (z (nx ?_))))))))))))
 refine cd (b := decide ((q : Int) < ((pastB fi o fi.length).length : Int))) rfl rfl (fun b0 => ?_) (fun b0 => ?_)
 ·
  have p0 := dT b0
  refine sk (nx (sq (bk (sq ?_))))
  have hpb_ := pastB_len fi o fi.length
  refine drS rfl (by kernel_rfl) ?_
  refine kq (fun _ _ => fa fl32_1 rfl s0 e1) (kq (fun _ x_ => lx (H4.ext x_) 2 rfl ty29 rfl rfl rfl e1) (kq (fun _ _ => mv rfl s2 e1) (kq (fun _ _ => mv rfl s3 e1) (q_iaO (H4.at_ 1 rfl) rfl rfl rfl rfl (by omega) un30 ty3 ?_))))
  intro ad0 x0 hx0 hA0
  refine q_ldI hA0 ty3 rfl rfl ?_
  intro rv1
  refine q_ia (H4.rv 3 rfl) rfl rfl rfl rfl (by have h_ := pastB_mem hx0; omega) un29 ty85 ?_
  intro ad1 x1 hx1 hA1
  refine kq (fun _ _ => fa fl85_2 rfl rfl e1) (q_ldB ((hA1).s2).fst.w ty4 rfl rfl (kq (fun _ _ => not_ rfl rfl e1) (zq ?_)))
  intro w3 xt2
  have H5 := H4.ext xt2
  refine nx ?_
  refine cd (b := !x1.2.2.1) rfl rfl (fun b1 => ?_) (fun b1 => ?_)
  ·
   refine rg (k (mv rfl s1 (k (mv rfl s2 (k (mv rfl s3 (k (iaO (H5.at_ 1 rfl) rfl rfl rfl rfl (by omega) un30 ty3 ?_))))))))
   intro g0 x2 hv0 hx2 hA2
   refine k (ldI hA2 ty3 rfl rfl ?_)
   intro rv2
   refine k (bs (xs := ([x2] : List Int)) (cells := #[iV x2]) (e := 3) H5 rfl (pbc rfl pb0) (fun _ => by kernel_rfl) ⟨[iV x2], [], rfl, ⟨rfl, (show I64 (x2) from (by have h2_ := pastB_len fi o fi.length; unfold I64 at *; omega))⟩, rfl⟩ rfl (by decide) ?_)
   intro g1 w4 xt3 H6
   refine k (apB H6 1 rfl rfl rfl rfl rfl rfl (own_src (H6.at_ 0 rfl)) un30 ty3 rfl (by have h_ := keep_len (pastB fi o fi.length) q (wrQ fi); have h2_ := pastB_len fi o fi.length; rw [hs]; simp only [lC_, lN_]; omega) rfl ?_)
   intro a2 c2 w5 (H7 : HI M w w5 [own w.heap.size 3 (.slice (some ⟨g1, 0, none⟩) 1 1) ([x2] : List Int), oL w 3 a2 (out ++ ([x2] : List Int)) c2, oL w 3 a0 (pastB fi o fi.length) c0, box bb0 #[.slice a_fv n_fv c_fv, sL a_fi fi c_fi, .slice a_fo n_fo c_fo] 32, iL a_fi fi c_fi])
   refine k (asg (v := sL a2 (out ++ ([x2] : List Int)) c2) rfl rfl (z (inb_normal (nx (rg (k (mv rfl s3 (k (add rfl rfl rfl rfl (by have h2_ := pastB_len fi o fi.length; unfold I64 at *; omega) (k (asg (v := iV ((q : Int) + 1)) rfl rfl (z ?_))))))))))))
   have H8 : HI M w w5 [oL w 3 a2 (out ++ ([x2] : List Int)) c2, oL w 3 a0 (pastB fi o fi.length) c0, box bb0 #[.slice a_fv n_fv c_fv, sL a_fi fi c_fi, .slice a_fo n_fo c_fo] 32, iL a_fi fi c_fi] := H7.pickN [1, 2, 3, 4] (by decide) rfl
   refine loopN _ ?_ ⟨(q + 1), (out ++ ([x2] : List Int)), a2, c2, rfl, s0, rfl, s2, (ieq rfl (by first | rfl | omega)), H8, (by first | omega | assumption | simp), (by (try (have e_ := at_is hx1 hx0; subst e_)); (try (have e_ := at_is hx2 hx0; subst e_)); (try (have e_ := at_is hx3 hx0; subst e_)); (try (have e_ := at_is hx4 hx0; subst e_)); (try (have e_ := at_is hx5 hx0; subst e_)); (try (have e_ := at_is hx6 hx0; subst e_)); (try (have e_ := at_is hx7 hx0; subst e_)); (try (have e_ := at_is hx8 hx0; subst e_)); (try (have e_ := at_is hx9 hx0; subst e_)); (try (have e_ := at_is hx10 hx0; subst e_)); (try (have e_ := at_is hx11 hx0; subst e_)); (try (have e_ := at_is hx12 hx0; subst e_)); (try (have e_ := at_is hx13 hx0; subst e_)); (try (have e_ := at_is hx14 hx0; subst e_)); (try (have e_ := at_is hx15 hx0; subst e_)); (try (have e_ := at_is hx16 hx0; subst e_)); (try (have e_ := at_is hx17 hx0; subst e_)); (try (have e_ := at_is hx18 hx0; subst e_)); (try (have e_ := at_is hx19 hx0; subst e_)); (try (have e_ := at_is hx20 hx0; subst e_)); (try (have e_ := at_is hx21 hx0; subst e_)); (try (have e_ := at_is hx22 hx0; subst e_)); (try (have e_ := at_is hx23 hx0; subst e_)); (try (have e_ := at_is hx24 hx0; subst e_)); (try (have e_ := at_is hx25 hx0; subst e_)); (try (have e_ := at_is hx26 hx0; subst e_)); (try (have e_ := at_is hx27 hx0; subst e_)); (try (have e_ := at_is hx28 hx0; subst e_)); (try (have e_ := at_is hx29 hx0; subst e_)); (try (have e_ := at_is hx30 hx0; subst e_)); (try (have e_ := at_is hx31 hx0; subst e_)); (try (have e_ := at_is hx32 hx0; subst e_)); (try (have e_ := at_is hx33 hx0; subst e_)); (try (have e_ := at_is hx34 hx0; subst e_)); (try (have e_ := at_is hx35 hx0; subst e_)); (try (have e_ := at_is hx36 hx0; subst e_)); (try (have e_ := at_is hx37 hx0; subst e_)); (try (have e_ := at_is hx38 hx0; subst e_)); (try (have e_ := at_is hx39 hx0; subst e_)); rw [hs]; first | exact keep_yes hx0 (wrQ_yes (by assumption) (by assumption)) | exact keep_no hx0 (wrQ_no (by assumption) (by assumption)))⟩
   omega
  refine sk (inb_normal (nx (rg (k (mv rfl s3 (k (add rfl rfl rfl rfl (by have h2_ := pastB_len fi o fi.length; unfold I64 at *; omega) (k (asg (v := iV ((q : Int) + 1)) rfl rfl (z ?_))))))))))
  refine loopN _ ?_ ⟨(q + 1), out, a1, c1, rfl, s0, s1, s2, (ieq rfl (by first | rfl | omega)), H5, (by first | omega | assumption | simp), (by (try (have e_ := at_is hx1 hx0; subst e_)); (try (have e_ := at_is hx2 hx0; subst e_)); (try (have e_ := at_is hx3 hx0; subst e_)); (try (have e_ := at_is hx4 hx0; subst e_)); (try (have e_ := at_is hx5 hx0; subst e_)); (try (have e_ := at_is hx6 hx0; subst e_)); (try (have e_ := at_is hx7 hx0; subst e_)); (try (have e_ := at_is hx8 hx0; subst e_)); (try (have e_ := at_is hx9 hx0; subst e_)); (try (have e_ := at_is hx10 hx0; subst e_)); (try (have e_ := at_is hx11 hx0; subst e_)); (try (have e_ := at_is hx12 hx0; subst e_)); (try (have e_ := at_is hx13 hx0; subst e_)); (try (have e_ := at_is hx14 hx0; subst e_)); (try (have e_ := at_is hx15 hx0; subst e_)); (try (have e_ := at_is hx16 hx0; subst e_)); (try (have e_ := at_is hx17 hx0; subst e_)); (try (have e_ := at_is hx18 hx0; subst e_)); (try (have e_ := at_is hx19 hx0; subst e_)); (try (have e_ := at_is hx20 hx0; subst e_)); (try (have e_ := at_is hx21 hx0; subst e_)); (try (have e_ := at_is hx22 hx0; subst e_)); (try (have e_ := at_is hx23 hx0; subst e_)); (try (have e_ := at_is hx24 hx0; subst e_)); (try (have e_ := at_is hx25 hx0; subst e_)); (try (have e_ := at_is hx26 hx0; subst e_)); (try (have e_ := at_is hx27 hx0; subst e_)); (try (have e_ := at_is hx28 hx0; subst e_)); (try (have e_ := at_is hx29 hx0; subst e_)); (try (have e_ := at_is hx30 hx0; subst e_)); (try (have e_ := at_is hx31 hx0; subst e_)); (try (have e_ := at_is hx32 hx0; subst e_)); (try (have e_ := at_is hx33 hx0; subst e_)); (try (have e_ := at_is hx34 hx0; subst e_)); (try (have e_ := at_is hx35 hx0; subst e_)); (try (have e_ := at_is hx36 hx0; subst e_)); (try (have e_ := at_is hx37 hx0; subst e_)); (try (have e_ := at_is hx38 hx0; subst e_)); (try (have e_ := at_is hx39 hx0; subst e_)); rw [hs]; first | exact keep_yes hx0 (wrQ_yes (by assumption) (by assumption)) | exact keep_no hx0 (wrQ_no (by assumption) (by assumption)))⟩
  omega
 have p0 := dF b0
 refine ex (then_exit (loop_exit (inb_here (nx (sq (rg (k (mv rfl s1 (k (asg (v := sL a1 out c1) rfl rfl (z (nx (rt (r1 rfl rfl ?_))))))))))))))
 have e0 : (out : List Int) = keepL (wrQ fi) (pastB fi o fi.length) := by rw [hs, take_end (by omega)]
 have ev_ := cg1 (fun (x_0 : List Int) => (.slice a1 x_0.length c1 : Value)) e0
 exact ⟨a1, c1, ev_, H4.below, (congrArg (fun (x_ : List Int) => OwnsG _ _ _ x_ (.slice a1 x_.length c1) _) e0).mp (H4.ownsG_out 0 rfl)⟩
theorem go95 : GoF Tryz.prog 95 := ⟨_, _, Tryz.func95, rfl, by kernel_rfl⟩
theorem go30 : GoF Tryz.prog 30 := ⟨_, _, Tryz.func30, rfl, by kernel_rfl⟩
theorem go68 : GoF Tryz.prog 68 := ⟨_, _, Tryz.func68, rfl, by kernel_rfl⟩
theorem go62 : GoF Tryz.prog 62 := ⟨_, _, Tryz.func62, rfl, by kernel_rfl⟩
theorem go54 : GoF Tryz.prog 54 := ⟨_, _, Tryz.func54, rfl, by kernel_rfl⟩
theorem ref20_plain {a_l : OA} {c_l : Nat} {l : List StepL} (hM : ∀ b, M b → b < w.heap.size) (h_l : RV M w (.slice a_l l.length c_l) l) (hp3_ : ∀ x ∈ l, x.1 = 3 → (0 ≤ x.2.2.2.1 ∧ x.2.2.2.1 < ((l.length : Nat) : Int)) ∧ 0 ≤ x.2.2.2.2 ∧ x.2.2.2.2 < ((l.length : Nat) : Int)) (hst : l.length ≤ 90000) : Calls Tryz.prog 95 #[.slice a_l l.length c_l] w (Ret fun v w' => ∃ (a0 : OA) (c0 : Nat), v = .slice a0 (plnN l l.length).length c0 ∧ Ext w w' ∧ OwnsG M 4 w (plnN l l.length) (.slice a0 (plnN l l.length).length c0) w') := by
 refine enter 50 Tryz.func95 rfl rfl rfl fun f0 ha => ?_
 have H := HI.start (M0 := M) (w := w) hM
 have H0 := H.put (it := iL a_l l c_l) rfl (by rw [MS_nil]; exact h_l)
 have ln_l := rv_len h_l
 have i0 : f0 0 = sL a_l l c_l := ha 0 (by simp)
 refine sq (rg (k (asg (v := .slice none 0 0) rfl rfl (z (nx (sq (rg (k (mv rfl i0 (k (lnS rfl rfl un23 (k (mk (m := l.length) (zx := (false : Bool)) H0 rfl rfl rfl rfl un55 ty4 (fun _ _ => rfl) (by omega) (by omega) ?_)))))))))))))
 intro g0 w0 xt0 (H1 : HI M w w0 [own w.heap.size 4 (.slice (some ⟨g0, 0, none⟩) l.length l.length) (List.replicate l.length (false : Bool)), iL a_l l c_l])
 refine k (asg (v := sL (some ⟨g0, 0, none⟩) l l.length) rfl rfl (z (nx (sq (sq (rg (k (asg (v := iV 0) rfl rfl (z (nx (bk ?_)))))))))))
 refine lp (fun m f w' => ∃ (j_ : Nat) (ys_ : List Bool), m = l.length - j_ ∧ f 0 = sL a_l l c_l ∧ f 3 = sL (some ⟨g0, 0, none⟩) l l.length ∧ f 4 = iV (j_ : Int) ∧  HI M w w' [own w.heap.size 4 (.slice (some ⟨g0, 0, none⟩) l.length l.length) ys_, iL a_l l c_l] ∧ (j_ ≤ l.length) ∧ (ys_ = plnN l j_ ++ List.replicate (l.length - j_) false)) _ ⟨0, (List.replicate l.length false), rfl, i0, rfl, (ieq rfl (by first | rfl | omega | simp)), H1, (by first | omega | assumption | simp), (by exact pln_start)⟩ ?_
 rintro _ f0 w1 ⟨j_, ys_, rfl, s0, s1, s2, H2, hk_, hs⟩
 refine sq (sq (rg (k (mv rfl s2 (k (mv rfl s0 (k (lnS rfl rfl un23 (k (lss rfl rfl rfl rfl (z (nx ?_))))))))))))
 refine cd (b := decide ((j_ : Int) < (l.length : Int))) rfl rfl (fun b0 => ?_) (fun b0 => ?_)
 ·
  have p0 := dT b0
  refine sk (nx (sq (bk (sq (rg (k (mv rfl s0 (k (mv rfl s2 (k (ia (H2.rv 1 rfl) rfl rfl rfl rfl (by omega) un23 ty92 ?_)))))))))))
  intro ad0 x0 hx0 hA0
  refine k (ldW hA0.w ty92 rfl rfl ?_)
  intro v0 rv0
  obtain ⟨_, ⟨_, _, rfl, ⟨rfl, rv1⟩, ⟨_, _, rfl, ⟨rfl, rv2⟩, ⟨_, _, rfl, ⟨rfl, rv3⟩, ⟨_, _, rfl, ⟨rfl, rv4⟩, ⟨rfl, rv5⟩⟩⟩⟩⟩, rfl⟩ := rv0
  refine k (al H2 ty92 ?_)
  intro bb0 w2 xt1 (H3 : HI M w w2 [box bb0 #[iV 0, iV 0, iV 0, iV 0, iV 0] 92, own w.heap.size 4 (.slice (some ⟨g0, 0, none⟩) l.length l.length) ys_, iL a_l l c_l])
  refine k (stX H3 0 rfl ty92 rfl rfl rfl rfl rfl rfl rfl ?_)
  intro w3 (H4 : HI M w w3 [box bb0 #[iV x0.1, iV x0.2.1, iV x0.2.2.1, iV x0.2.2.2.1, iV x0.2.2.2.2] 92, own w.heap.size 4 (.slice (some ⟨g0, 0, none⟩) l.length l.length) ys_, iL a_l l c_l])
  refine z (nx ?_)
  have hy_ := pln_ylen hs hk_
  refine rg (k (mv rfl s1 (k (mv rfl s2 (k (fa fl92_0 rfl rfl (k (lx H4 0 rfl ty3 rfl rfl rfl (k (eql rfl rfl rfl rfl (k (mv (v := .bool (decide (x0.1 = 1))) rfl rfl ?_))))))))))))
  rcases bE (decide (x0.1 = 1)) with b1 | b1
  ·
   have p1 := dT b1
   refine k (gn rfl rfl rfl b1 (k (gn rfl rfl rfl b1 (k (gn rfl rfl rfl b1 (k (pickT rfl rfl rfl rfl b1 rfl (k (mv (v := .bool true) rfl rfl (k (gn rfl rfl rfl rfl (k (gn rfl rfl rfl rfl (k (gn rfl rfl rfl rfl (k (gn rfl rfl rfl rfl (k (gu rfl rfl rfl (k (gu rfl rfl rfl (k (gu rfl rfl rfl (k (gu rfl rfl rfl (k (gu rfl rfl rfl (k (gn rfl rfl rfl rfl (k (gn rfl rfl rfl rfl (k (gu rfl rfl rfl (k (gu rfl rfl rfl (k (gu rfl rfl rfl (k (gu rfl rfl rfl (k (gu rfl rfl rfl (k (gn rfl rfl rfl rfl (k (pickT rfl rfl rfl rfl rfl rfl (k (iaO (H4.at_ 1 rfl) rfl rfl rfl rfl (by omega) un55 ty4 ?_)))))))))))))))))))))))))))))))))))))))))))))))
   intro g1 x1 hv0 hx1 hA1
   refine k (stO H4 1 rfl hv0 rfl (by omega) ty4 rfl rfl rfl rfl (RV.bool.2 rfl) ?_)
   intro w4 (H5 : HI M w w4 [box bb0 #[iV x0.1, iV x0.2.1, iV x0.2.2.1, iV x0.2.2.2.1, iV x0.2.2.2.2] 92, own w.heap.size 4 (.slice (some ⟨g0, 0, none⟩) l.length l.length) (ys_.set ((j_ : Int).toNat) true), iL a_l l c_l])
   refine z (inb_normal (nx (rg (k (mv rfl s2 (k (add rfl rfl rfl rfl (by first | assumption | (unfold I64 at *; omega)) (k (asg (v := iV ((j_ : Int) + 1)) rfl rfl (z ?_))))))))))
   have H6 : HI M w w4 [own w.heap.size 4 (.slice (some ⟨g0, 0, none⟩) l.length l.length) (ys_.set ((j_ : Int).toNat) true), iL a_l l c_l] := H5.pickN [1, 2] (by decide) rfl
   refine loopN _ ?_ ⟨(j_ + 1), (ys_.set ((j_ : Int).toNat) true), rfl, s0, s1, (ieq rfl (by first | rfl | omega)), H6, (by first | omega | assumption | simp), (by exact pln_set hs hx0 (by simp only [plnS, b0, b1, pln_get hs hx1, BL]))⟩
   omega
  have p1 := dF b1
  refine k (gy rfl rfl rfl b1 (fa fl92_0 rfl rfl (k (gy rfl rfl rfl b1 (lx H4 0 rfl ty3 rfl rfl rfl (k (gy rfl rfl rfl b1 (eql rfl rfl rfl rfl (k (pickF rfl rfl rfl rfl b1 rfl (k (mv (v := .bool (decide (x0.1 = 2))) rfl rfl ?_))))))))))))
  rcases bE (decide (x0.1 = 2)) with b2 | b2
  ·
   have p2 := dT b2
   refine k (gn rfl rfl rfl b2 (k (gn rfl rfl rfl b2 (k (gn rfl rfl rfl b2 (k (gn rfl rfl rfl b2 (k (gu rfl rfl rfl (k (gu rfl rfl rfl (k (gu rfl rfl rfl (k (gu rfl rfl rfl (k (gu rfl rfl rfl (k (gn rfl rfl rfl b2 (k (gn rfl rfl rfl b2 (k (gu rfl rfl rfl (k (gu rfl rfl rfl (k (gu rfl rfl rfl (k (gu rfl rfl rfl (k (gu rfl rfl rfl (k (gn rfl rfl rfl b2 (k (pickT rfl rfl rfl rfl b2 rfl (k (iaO (H4.at_ 1 rfl) rfl rfl rfl rfl (by omega) un55 ty4 ?_)))))))))))))))))))))))))))))))))))))
   intro g1 x1 hv0 hx1 hA1
   refine k (stO H4 1 rfl hv0 rfl (by omega) ty4 rfl rfl rfl rfl (RV.bool.2 rfl) ?_)
   intro w4 (H5 : HI M w w4 [box bb0 #[iV x0.1, iV x0.2.1, iV x0.2.2.1, iV x0.2.2.2.1, iV x0.2.2.2.2] 92, own w.heap.size 4 (.slice (some ⟨g0, 0, none⟩) l.length l.length) (ys_.set ((j_ : Int).toNat) true), iL a_l l c_l])
   refine z (inb_normal (nx (rg (k (mv rfl s2 (k (add rfl rfl rfl rfl (by first | assumption | (unfold I64 at *; omega)) (k (asg (v := iV ((j_ : Int) + 1)) rfl rfl (z ?_))))))))))
   have H6 : HI M w w4 [own w.heap.size 4 (.slice (some ⟨g0, 0, none⟩) l.length l.length) (ys_.set ((j_ : Int).toNat) true), iL a_l l c_l] := H5.pickN [1, 2] (by decide) rfl
   refine loopN _ ?_ ⟨(j_ + 1), (ys_.set ((j_ : Int).toNat) true), rfl, s0, s1, (ieq rfl (by first | rfl | omega)), H6, (by first | omega | assumption | simp), (by exact pln_set hs hx0 (by simp only [plnS, b0, b1, b2, pln_get hs hx1, BL]))⟩
   omega
  have p2 := dF b2
  refine k (gy rfl rfl rfl b2 (fa fl92_0 rfl rfl (k (gy rfl rfl rfl b2 (lx H4 0 rfl ty3 rfl rfl rfl (k (gy rfl rfl rfl b2 (eql rfl rfl rfl rfl (k (gy rfl rfl rfl b2 (mv (v := .bool (decide (x0.1 = 3))) rfl rfl ?_)))))))))))
  rcases bE (decide (x0.1 = 3)) with b3 | b3
  ·
   have p3 := dT b3
   refine k (gy rfl rfl rfl b3 (mv rfl s1 (k (gy rfl rfl rfl b3 (fa fl92_3 rfl rfl (k (gy rfl rfl rfl b3 (lx H4 0 rfl ty3 rfl rfl rfl (k (gy rfl rfl rfl b3 (iaO (H4.at_ 1 rfl) rfl rfl rfl rfl (by have h_ := hp3_ x0 (mG_ hx0) (by assumption); omega) un55 ty4 ?_)))))))))))
   intro g1 x1 hv0 hx1 hA1
   refine k (gy rfl rfl rfl b3 (ldB hA1 ty4 rfl rfl (k (gy rfl rfl rfl b2 (pickT rfl rfl rfl rfl b3 rfl (k (gy rfl rfl rfl b2 (mv (v := .bool x1) rfl rfl ?_))))))))
   rcases bE (x1) with b4 | b4
   ·
    refine k (gy rfl rfl rfl b4 (mv rfl s1 (k (gy rfl rfl rfl b4 (fa fl92_4 rfl rfl (k (gy rfl rfl rfl b4 (lx H4 0 rfl ty3 rfl rfl rfl (k (gy rfl rfl rfl b4 (iaO (H4.at_ 1 rfl) rfl rfl rfl rfl (by have h_ := hp3_ x0 (mG_ hx0) (by assumption); omega) un55 ty4 ?_)))))))))))
    intro g2 x2 hv1 hx2 hA2
    refine k (gy rfl rfl rfl b4 (ldB hA2 ty4 rfl rfl (k (gy rfl rfl rfl b2 (pickT rfl rfl rfl rfl b4 rfl (k (pickF rfl rfl rfl rfl b2 rfl (k (iaO (H4.at_ 1 rfl) rfl rfl rfl rfl (by omega) un55 ty4 ?_)))))))))
    intro g3 x3 hv2 hx3 hA3
    refine k (stO H4 1 rfl hv2 rfl (by omega) ty4 rfl rfl rfl rfl (RV.bool.2 rfl) ?_)
    intro w4 (H5 : HI M w w4 [box bb0 #[iV x0.1, iV x0.2.1, iV x0.2.2.1, iV x0.2.2.2.1, iV x0.2.2.2.2] 92, own w.heap.size 4 (.slice (some ⟨g0, 0, none⟩) l.length l.length) (ys_.set ((j_ : Int).toNat) x2), iL a_l l c_l])
    refine z (inb_normal (nx (rg (k (mv rfl s2 (k (add rfl rfl rfl rfl (by first | assumption | (unfold I64 at *; omega)) (k (asg (v := iV ((j_ : Int) + 1)) rfl rfl (z ?_))))))))))
    have H6 : HI M w w4 [own w.heap.size 4 (.slice (some ⟨g0, 0, none⟩) l.length l.length) (ys_.set ((j_ : Int).toNat) x2), iL a_l l c_l] := H5.pickN [1, 2] (by decide) rfl
    refine loopN _ ?_ ⟨(j_ + 1), (ys_.set ((j_ : Int).toNat) x2), rfl, s0, s1, (ieq rfl (by first | rfl | omega)), H6, (by first | omega | assumption | simp), (by exact pln_set hs hx0 (by simp only [plnS, b0, b1, b2, b3, b4, pln_get hs hx1, pln_get hs hx2, pln_get hs hx3, BL]))⟩
    omega
   refine k (gn rfl rfl rfl b4 (k (gn rfl rfl rfl b4 (k (gn rfl rfl rfl b4 (k (gn rfl rfl rfl b4 (k (gn rfl rfl rfl b4 (k (gy rfl rfl rfl b2 (pickF rfl rfl rfl rfl b4 rfl (k (pickF rfl rfl rfl rfl b2 rfl (k (iaO (H4.at_ 1 rfl) rfl rfl rfl rfl (by omega) un55 ty4 ?_))))))))))))))))
   intro g2 x2 hv1 hx2 hA2
   refine k (stO H4 1 rfl hv1 rfl (by omega) ty4 rfl rfl rfl rfl (RV.bool.2 rfl) ?_)
   intro w4 (H5 : HI M w w4 [box bb0 #[iV x0.1, iV x0.2.1, iV x0.2.2.1, iV x0.2.2.2.1, iV x0.2.2.2.2] 92, own w.heap.size 4 (.slice (some ⟨g0, 0, none⟩) l.length l.length) (ys_.set ((j_ : Int).toNat) false), iL a_l l c_l])
   refine z (inb_normal (nx (rg (k (mv rfl s2 (k (add rfl rfl rfl rfl (by first | assumption | (unfold I64 at *; omega)) (k (asg (v := iV ((j_ : Int) + 1)) rfl rfl (z ?_))))))))))
   have H6 : HI M w w4 [own w.heap.size 4 (.slice (some ⟨g0, 0, none⟩) l.length l.length) (ys_.set ((j_ : Int).toNat) false), iL a_l l c_l] := H5.pickN [1, 2] (by decide) rfl
   refine loopN _ ?_ ⟨(j_ + 1), (ys_.set ((j_ : Int).toNat) false), rfl, s0, s1, (ieq rfl (by first | rfl | omega)), H6, (by first | omega | assumption | simp), (by exact pln_set hs hx0 (by simp only [plnS, b0, b1, b2, b3, b4, pln_get hs hx1, pln_get hs hx2, BL]))⟩
   omega
  have p3 := dF b3
  refine k (gn rfl rfl rfl b3 (k (gn rfl rfl rfl b3 (k (gn rfl rfl rfl b3 (k (gn rfl rfl rfl b3 (k (gn rfl rfl rfl b3 (k (gy rfl rfl rfl b2 (pickF rfl rfl rfl rfl b3 rfl (k (gy rfl rfl rfl b2 (mv (v := .bool false) rfl rfl (k (gn rfl rfl rfl rfl (k (gn rfl rfl rfl rfl (k (gn rfl rfl rfl rfl (k (gn rfl rfl rfl rfl (k (gn rfl rfl rfl rfl (k (gy rfl rfl rfl b2 (pickF rfl rfl rfl rfl rfl rfl (k (pickF rfl rfl rfl rfl b2 rfl (k (iaO (H4.at_ 1 rfl) rfl rfl rfl rfl (by omega) un55 ty4 ?_))))))))))))))))))))))))))))))))
  intro g1 x1 hv0 hx1 hA1
  refine k (stO H4 1 rfl hv0 rfl (by omega) ty4 rfl rfl rfl rfl (RV.bool.2 rfl) ?_)
  intro w4 (H5 : HI M w w4 [box bb0 #[iV x0.1, iV x0.2.1, iV x0.2.2.1, iV x0.2.2.2.1, iV x0.2.2.2.2] 92, own w.heap.size 4 (.slice (some ⟨g0, 0, none⟩) l.length l.length) (ys_.set ((j_ : Int).toNat) false), iL a_l l c_l])
  refine z (inb_normal (nx (rg (k (mv rfl s2 (k (add rfl rfl rfl rfl (by first | assumption | (unfold I64 at *; omega)) (k (asg (v := iV ((j_ : Int) + 1)) rfl rfl (z ?_))))))))))
  have H6 : HI M w w4 [own w.heap.size 4 (.slice (some ⟨g0, 0, none⟩) l.length l.length) (ys_.set ((j_ : Int).toNat) false), iL a_l l c_l] := H5.pickN [1, 2] (by decide) rfl
  refine loopN _ ?_ ⟨(j_ + 1), (ys_.set ((j_ : Int).toNat) false), rfl, s0, s1, (ieq rfl (by first | rfl | omega)), H6, (by first | omega | assumption | simp), (by exact pln_set hs hx0 (by simp only [plnS, b0, b1, b2, b3, pln_get hs hx1, BL]))⟩
  omega
 have p0 := dF b0
 refine ex (then_exit (loop_exit (inb_here (nx (sq (rg (k (mv rfl s1 (k (asg (v := sL (some ⟨g0, 0, none⟩) l l.length) rfl rfl (z (nx (rt (r1 rfl rfl ?_))))))))))))))
 have e0 : (ys_ : List Bool) = plnN l l.length := by exact pln_end hs hk_ (by omega)
 have l0 : l.length = (plnN l l.length).length := by rw [plnN_len]
 have ev_ := cg1 (fun (n_0 : Nat) => (.slice (some ⟨g0, 0, none⟩) n_0 l.length : Value)) l0
 exact ⟨(some ⟨g0, 0, none⟩), l.length, ev_, H2.below, (congrArg (fun (n_ : Nat) => OwnsG _ _ _ (plnN l l.length) (.slice (some ⟨g0, 0, none⟩) n_ l.length) _) l0).mp ((congrArg (fun (x_ : List Bool) => OwnsG _ _ _ x_ (.slice (some ⟨g0, 0, none⟩) l.length l.length) _) e0).mp (H2.ownsG_out 0 rfl))⟩
theorem ref20_bare {kd : Int} {rd_ : Int} {wa_ : Int} {wb_ : Int} {op_ : Int} {a_sl_ : OA} {c_sl_ : Nat} {sl_ : List StepL} {fs_ : Int} {sn_ : Int} {ru : Bool} (hM : ∀ b, M b → b < w.heap.size) (h_kd : I64 kd) (h_rd_ : I64 rd_) (h_wa_ : I64 wa_) (h_wb_ : I64 wb_) (h_op_ : I64 op_) (h_sl_ : RV M w (.slice a_sl_ sl_.length c_sl_) sl_) (h_fs_ : I64 fs_) (h_sn_ : I64 sn_) (hp3_ : ∀ x ∈ sl_, x.1 = 3 → (0 ≤ x.2.2.2.1 ∧ x.2.2.2.1 < ((sl_.length : Nat) : Int)) ∧ 0 ≤ x.2.2.2.2 ∧ x.2.2.2.2 < ((sl_.length : Nat) : Int)) (hp4_ : ∀ x ∈ sl_, x.1 = 4 → 0 ≤ x.2.2.2.1 ∧ x.2.2.2.1 < ((sl_.length : Nat) : Int)) (hst : sl_.length ≤ 90000) : Calls Tryz.prog 58 #[.agg #[.int .i64 kd, .int .i64 rd_, .int .i64 wa_, .int .i64 wb_, .int .i64 op_, .slice a_sl_ sl_.length c_sl_, .int .i64 fs_, .int .i64 sn_], .bool ru] w (Ret fun v w' =>  v = .bool (bareR sl_ ru) ∧ Ext w w') := by
 refine enter 44 Tryz.func58 rfl rfl rfl fun f0 ha => ?_
 have H := HI.start (M0 := M) (w := w) hM
 have H0 := H.put (it := iL a_sl_ sl_ c_sl_) rfl (by rw [MS_nil]; exact h_sl_)
 have ln_sl_ := rv_len h_sl_
 have i0 : f0 0 = .agg #[iV kd, iV rd_, iV wa_, iV wb_, iV op_, sL a_sl_ sl_ c_sl_, iV fs_, iV sn_] := ha 0 (by simp)
 have i1 : f0 1 = .bool ru := ha 1 (by simp)
 refine sq (rg (k (bx H0 rfl i0 ?_)))
 intro bb0 w0 xt0 (H1 : HI M w w0 [box bb0 #[iV kd, iV rd_, iV wa_, iV wb_, iV op_, sL a_sl_ sl_ c_sl_, iV fs_, iV sn_] 25, iL a_sl_ sl_ c_sl_])
 refine k (asg (v := .bool false) rfl rfl (z (nx (sq (rg (k (fa fl25_5 rfl rfl (k (lx H1 0 rfl ty23 rfl rfl rfl (k ?_))))))))))
 have cc0 := ref20_plain (l := sl_) (w := w0) H1.mb (H1.rv 1 rfl) (by exact hp3_) (by exact hst)
 refine ca go95 rfl (ec rfl e0) cc0 ?_
 rintro _ w1 ⟨a0, c0, rfl, xt1, rv0⟩
 have H2 := H1.ownsG rv0
 refine k (asg (v := sL a0 (plnN sl_ sl_.length) c0) rfl rfl (z (nx (sq (sq ?_)))))
 have hl_ := plnN_len sl_ sl_.length
 refine rg (k (asg (v := iV 0) rfl rfl (z (nx (bk ?_)))))
 refine lp (fun m f w' => ∃ (j_ : Nat), m = (plnN sl_ sl_.length).length - j_ ∧ f 1 = .bool ru ∧ f 2 = pV bb0 0 ∧ f 5 = sL a0 (plnN sl_ sl_.length) c0 ∧ f 6 = iV (j_ : Int) ∧  HI M w w' [oL w 4 a0 (plnN sl_ sl_.length) c0, box bb0 #[iV kd, iV rd_, iV wa_, iV wb_, iV op_, sL a_sl_ sl_ c_sl_, iV fs_, iV sn_] 25, iL a_sl_ sl_ c_sl_] ∧ (j_ ≤ (plnN sl_ sl_.length).length) ∧ ((List.range j_).all (fun j => !(brS (plnN sl_ sl_.length) ru ((plnN sl_ sl_.length).getD j false) (sl_.getD j zS))) = true)) _ ⟨0, rfl, i1, rfl, rfl, (ieq rfl (by first | rfl | omega | simp)), H2, (by first | omega | assumption | simp), (by rfl)⟩ ?_
 rintro _ f0 w2 ⟨j_, rfl, s0, s1, s2, s3, H3, hk_, hs⟩
 refine sq (sq (rg (k (mv rfl s3 (k (mv rfl s2 (k (lnS rfl rfl un55 (k (lss rfl rfl rfl rfl (z (nx ?_))))))))))))
 refine cd (b := decide ((j_ : Int) < ((plnN sl_ sl_.length).length : Int))) rfl rfl (fun b0 => ?_) (fun b0 => ?_)
 ·
  have p0 := dT b0
  refine sk (nx (sq (bk (sq (rg (k (fa fl25_5 rfl s1 (k (lx H3 1 rfl ty23 rfl rfl rfl (k (mv rfl s3 (k (ia (H3.rv 2 rfl) rfl rfl rfl rfl (by omega) un23 ty92 ?_)))))))))))))
  intro ad0 x0 hx0 hA0
  refine k (ldW hA0.w ty92 rfl rfl ?_)
  intro v0 rv1
  obtain ⟨_, ⟨_, _, rfl, ⟨rfl, rv2⟩, ⟨_, _, rfl, ⟨rfl, rv3⟩, ⟨_, _, rfl, ⟨rfl, rv4⟩, ⟨_, _, rfl, ⟨rfl, rv5⟩, ⟨rfl, rv6⟩⟩⟩⟩⟩, rfl⟩ := rv1
  refine k (al H3 ty92 ?_)
  intro bb1 w3 xt2 (H4 : HI M w w3 [box bb1 #[iV 0, iV 0, iV 0, iV 0, iV 0] 92, oL w 4 a0 (plnN sl_ sl_.length) c0, box bb0 #[iV kd, iV rd_, iV wa_, iV wb_, iV op_, sL a_sl_ sl_ c_sl_, iV fs_, iV sn_] 25, iL a_sl_ sl_ c_sl_])
  refine k (stX H4 0 rfl ty92 rfl rfl rfl rfl rfl rfl rfl ?_)
  intro w4 (H5 : HI M w w4 [box bb1 #[iV x0.1, iV x0.2.1, iV x0.2.2.1, iV x0.2.2.2.1, iV x0.2.2.2.2] 92, oL w 4 a0 (plnN sl_ sl_.length) c0, box bb0 #[iV kd, iV rd_, iV wa_, iV wb_, iV op_, sL a_sl_ sl_ c_sl_, iV fs_, iV sn_] 25, iL a_sl_ sl_ c_sl_])
  refine z (nx (sq (rg (k (mv rfl s0 (k (not_ rfl rfl (k (mv (v := .bool (!ru)) rfl rfl ?_)))))))))
  rcases bE (!ru) with b1 | b1
  ·
   refine k (gy rfl rfl rfl b1 (mv rfl s2 (k (gy rfl rfl rfl b1 (mv rfl s3 (k (gy rfl rfl rfl b1 (iaO (H5.at_ 1 rfl) rfl rfl rfl rfl (by omega) un55 ty4 ?_))))))))
   intro g0 x1 hv0 hx1 hA1
   refine k (gy rfl rfl rfl b1 (ldB hA1 ty4 rfl rfl (k (gy rfl rfl rfl b1 (not_ rfl rfl (k (pickT rfl rfl rfl rfl b1 rfl (k (mv (v := .bool (!x1)) rfl rfl ?_)))))))))
   rcases bE (!x1) with b2 | b2
   ·
    refine k (gn rfl rfl rfl b2 (k (gn rfl rfl rfl b2 (k (gn rfl rfl rfl b2 (k (gn rfl rfl rfl b2 (k (gu rfl rfl rfl (k (gu rfl rfl rfl (k (gu rfl rfl rfl (k (gu rfl rfl rfl (k (gu rfl rfl rfl (k (gu rfl rfl rfl (k (gn rfl rfl rfl b2 (k (pickT rfl rfl rfl rfl b2 rfl (z (nx (cdT rfl rfl rfl (sq (rg (k (asg (v := .bool false) rfl rfl (z (nx (rt (inb_ret (then_ret (loop_ret (inb_ret (then_ret (r1 rfl rfl ?_)))))))))))))))))))))))))))))))))))))))
    exact ⟨congrArg Value.bool (by first | exact allr_end hs hk_ (by omega) | exact allr_hit (q := (fun j => !(brS (plnN sl_ sl_.length) ru ((plnN sl_ sl_.length).getD j false) (sl_.getD j zS)))) (j := j_) (by omega) (by simp only [brS, getD_nat hx0, getD_nat hx1, b0, (nott b1), (nott b2), BL])), H5.below⟩
   refine k (gy rfl rfl rfl b2 (fa fl92_0 rfl rfl (k (gy rfl rfl rfl b2 (lx H5 0 rfl ty3 rfl rfl rfl (k (gy rfl rfl rfl b2 (eql rfl rfl rfl rfl (k (gy rfl rfl rfl b2 (mv (v := .bool (decide (x0.1 = 4))) rfl rfl ?_)))))))))))
   rcases bE (decide (x0.1 = 4)) with b3 | b3
   ·
    have p3 := dT b3
    refine k (gy rfl rfl rfl b3 (mv rfl s2 (k (gy rfl rfl rfl b3 (fa fl92_3 rfl rfl (k (gy rfl rfl rfl b3 (lx H5 0 rfl ty3 rfl rfl rfl (k (gy rfl rfl rfl b3 (iaO (H5.at_ 1 rfl) rfl rfl rfl rfl (by first | omega | (have h_ := hp4_ x0 (mG_ hx0) (by assumption); omega)) un55 ty4 ?_)))))))))))
    intro g1 x2 hv1 hx2 hA2
    refine k (gy rfl rfl rfl b3 (ldB hA2 ty4 rfl rfl (k (gy rfl rfl rfl b3 (not_ rfl rfl (k (gy rfl rfl rfl b2 (pickT rfl rfl rfl rfl b3 rfl (k (pickF rfl rfl rfl rfl b2 rfl (z (nx ?_))))))))))))
    refine cd (b := !x2) rfl rfl (fun b4 => ?_) (fun b4 => ?_)
    ·
     refine sq (rg (k (asg (v := .bool false) rfl rfl (z (nx (rt (inb_ret (then_ret (loop_ret (inb_ret (then_ret (r1 rfl rfl ?_))))))))))))
     exact ⟨congrArg Value.bool (by first | exact allr_end hs hk_ (by omega) | exact allr_hit (q := (fun j => !(brS (plnN sl_ sl_.length) ru ((plnN sl_ sl_.length).getD j false) (sl_.getD j zS)))) (j := j_) (by omega) (by simp only [brS, getD_nat hx0, getD_nat hx1, hx2, b0, (nott b1), (notf b2), b3, (nott b4), BL])), H5.below⟩
    refine sk (inb_normal (nx (rg (k (mv rfl s3 (k (add rfl rfl rfl rfl (by first | assumption | (unfold I64 at *; omega)) (k (asg (v := iV ((j_ : Int) + 1)) rfl rfl (z ?_))))))))))
    have H6 : HI M w w4 [oL w 4 a0 (plnN sl_ sl_.length) c0, box bb0 #[iV kd, iV rd_, iV wa_, iV wb_, iV op_, sL a_sl_ sl_ c_sl_, iV fs_, iV sn_] 25, iL a_sl_ sl_ c_sl_] := H5.pickN [1, 2, 3] (by decide) rfl
    refine loopN _ ?_ ⟨(j_ + 1), rfl, s0, s1, s2, (ieq rfl (by first | rfl | omega)), H6, (by first | omega | assumption | simp), (by exact allr_step hs (by simp only [brS, getD_nat hx0, getD_nat hx1, hx2, b0, (nott b1), (notf b2), b3, (notf b4), BL]))⟩
    omega
   have p3 := dF b3
   refine k (gn rfl rfl rfl b3 (k (gn rfl rfl rfl b3 (k (gn rfl rfl rfl b3 (k (gn rfl rfl rfl b3 (k (gn rfl rfl rfl b3 (k (gn rfl rfl rfl b3 (k (gy rfl rfl rfl b2 (pickF rfl rfl rfl rfl b3 rfl (k (pickF rfl rfl rfl rfl b2 rfl (z (nx (cdF rfl rfl rfl (sk (inb_normal (nx (rg (k (mv rfl s3 (k (add rfl rfl rfl rfl (by first | assumption | (unfold I64 at *; omega)) (k (asg (v := iV ((j_ : Int) + 1)) rfl rfl (z ?_))))))))))))))))))))))))))))))
   have H6 : HI M w w4 [oL w 4 a0 (plnN sl_ sl_.length) c0, box bb0 #[iV kd, iV rd_, iV wa_, iV wb_, iV op_, sL a_sl_ sl_ c_sl_, iV fs_, iV sn_] 25, iL a_sl_ sl_ c_sl_] := H5.pickN [1, 2, 3] (by decide) rfl
   refine loopN _ ?_ ⟨(j_ + 1), rfl, s0, s1, s2, (ieq rfl (by first | rfl | omega)), H6, (by first | omega | assumption | simp), (by exact allr_step hs (by simp only [brS, getD_nat hx0, getD_nat hx1, b0, (nott b1), (notf b2), b3, BL]))⟩
   omega
  refine k (gn rfl rfl rfl b1 (k (gn rfl rfl rfl b1 (k (gn rfl rfl rfl b1 (k (gn rfl rfl rfl b1 (k (gn rfl rfl rfl b1 (k (pickF rfl rfl rfl rfl b1 rfl (k (mv (v := .bool false) rfl rfl (k (gy rfl rfl rfl rfl (fa fl92_0 rfl rfl (k (gy rfl rfl rfl rfl (lx H5 0 rfl ty3 rfl rfl rfl (k (gy rfl rfl rfl rfl (eql rfl rfl rfl rfl (k (gy rfl rfl rfl rfl (mv (v := .bool (decide (x0.1 = 4))) rfl rfl ?_)))))))))))))))))))))))))
  rcases bE (decide (x0.1 = 4)) with b2 | b2
  ·
   have p2 := dT b2
   refine k (gy rfl rfl rfl b2 (mv rfl s2 (k (gy rfl rfl rfl b2 (fa fl92_3 rfl rfl (k (gy rfl rfl rfl b2 (lx H5 0 rfl ty3 rfl rfl rfl (k (gy rfl rfl rfl b2 (iaO (H5.at_ 1 rfl) rfl rfl rfl rfl (by first | omega | (have h_ := hp4_ x0 (mG_ hx0) (by assumption); omega)) un55 ty4 ?_)))))))))))
   intro g0 x1 hv0 hx1 hA1
   refine k (gy rfl rfl rfl b2 (ldB hA1 ty4 rfl rfl (k (gy rfl rfl rfl b2 (not_ rfl rfl (k (gy rfl rfl rfl rfl (pickT rfl rfl rfl rfl b2 rfl (k (pickF rfl rfl rfl rfl rfl rfl (z (nx ?_))))))))))))
   refine cd (b := !x1) rfl rfl (fun b3 => ?_) (fun b3 => ?_)
   ·
    refine sq (rg (k (asg (v := .bool false) rfl rfl (z (nx (rt (inb_ret (then_ret (loop_ret (inb_ret (then_ret (r1 rfl rfl ?_))))))))))))
    exact ⟨congrArg Value.bool (by first | exact allr_end hs hk_ (by omega) | exact allr_hit (q := (fun j => !(brS (plnN sl_ sl_.length) ru ((plnN sl_ sl_.length).getD j false) (sl_.getD j zS)))) (j := j_) (by omega) (by simp only [brS, getD_nat hx0, hx1, b0, (notf b1), b2, (nott b3), BL])), H5.below⟩
   refine sk (inb_normal (nx (rg (k (mv rfl s3 (k (add rfl rfl rfl rfl (by first | assumption | (unfold I64 at *; omega)) (k (asg (v := iV ((j_ : Int) + 1)) rfl rfl (z ?_))))))))))
   have H6 : HI M w w4 [oL w 4 a0 (plnN sl_ sl_.length) c0, box bb0 #[iV kd, iV rd_, iV wa_, iV wb_, iV op_, sL a_sl_ sl_ c_sl_, iV fs_, iV sn_] 25, iL a_sl_ sl_ c_sl_] := H5.pickN [1, 2, 3] (by decide) rfl
   refine loopN _ ?_ ⟨(j_ + 1), rfl, s0, s1, s2, (ieq rfl (by first | rfl | omega)), H6, (by first | omega | assumption | simp), (by exact allr_step hs (by simp only [brS, getD_nat hx0, hx1, b0, (notf b1), b2, (notf b3), BL]))⟩
   omega
  have p2 := dF b2
  refine k (gn rfl rfl rfl b2 (k (gn rfl rfl rfl b2 (k (gn rfl rfl rfl b2 (k (gn rfl rfl rfl b2 (k (gn rfl rfl rfl b2 (k (gn rfl rfl rfl b2 (k (gy rfl rfl rfl rfl (pickF rfl rfl rfl rfl b2 rfl (k (pickF rfl rfl rfl rfl rfl rfl (z (nx (cdF rfl rfl rfl (sk (inb_normal (nx (rg (k (mv rfl s3 (k (add rfl rfl rfl rfl (by first | assumption | (unfold I64 at *; omega)) (k (asg (v := iV ((j_ : Int) + 1)) rfl rfl (z ?_))))))))))))))))))))))))))))))
  have H6 : HI M w w4 [oL w 4 a0 (plnN sl_ sl_.length) c0, box bb0 #[iV kd, iV rd_, iV wa_, iV wb_, iV op_, sL a_sl_ sl_ c_sl_, iV fs_, iV sn_] 25, iL a_sl_ sl_ c_sl_] := H5.pickN [1, 2, 3] (by decide) rfl
  refine loopN _ ?_ ⟨(j_ + 1), rfl, s0, s1, s2, (ieq rfl (by first | rfl | omega)), H6, (by first | omega | assumption | simp), (by exact allr_step hs (by simp only [brS, getD_nat hx0, b0, (notf b1), b2, BL]))⟩
  omega
 have p0 := dF b0
 refine ex (then_exit (loop_exit (inb_here (nx (sq (rg (k (asg (v := .bool true) rfl rfl (z (nx (rt (r1 rfl rfl ?_))))))))))))
 exact ⟨congrArg Value.bool (by first | exact allr_end hs hk_ (by omega) | exact allr_hit (q := (fun j => !(brS (plnN sl_ sl_.length) ru ((plnN sl_ sl_.length).getD j false) (sl_.getD j zS)))) (j := j_) (by omega) (by simp only [brS, b0, BL])), H3.below⟩
theorem ref20_seen {a_fv : OA} {n_fv c_fv : Nat} {a_fi : OA} {c_fi : Nat} {fi : List ItemL} {a_fo : OA} {c_fo : Nat} {fo : List Int} {kd : Int} {rd_ : Int} {wa_ : Int} {wb_ : Int} {op_ : Int} {a_sl_ : OA} {c_sl_ : Nat} {sl_ : List StepL} {fs_ : Int} {sn_ : Int} (hM : ∀ b, M b → b < w.heap.size) (h_fi : RV M w (.slice a_fi fi.length c_fi) fi) (h_fo : RV M w (.slice a_fo fo.length c_fo) fo) (h_kd : I64 kd) (h_rd_ : I64 rd_) (h_wa_ : I64 wa_) (h_wb_ : I64 wb_) (h_op_ : I64 op_) (h_sl_ : RV M w (.slice a_sl_ sl_.length c_sl_) sl_) (h_fs_ : I64 fs_) (h_sn_ : I64 sn_) (ho : OrdI fi) (hn_fi : fi.length ≤ 4096) (hfo : fo.length = fi.length) (hfr : ∀ x ∈ fo, x < ((fi.length : Nat) : Int)) : Calls Tryz.prog 63 #[.agg #[.slice a_fv n_fv c_fv, .slice a_fi fi.length c_fi, .slice a_fo fo.length c_fo], .agg #[.int .i64 kd, .int .i64 rd_, .int .i64 wa_, .int .i64 wb_, .int .i64 op_, .slice a_sl_ sl_.length c_sl_, .int .i64 fs_, .int .i64 sn_]] w (Ret fun v w' =>  v = .bool (seenR fi fo sl_ op_) ∧ Ext w w') := by
 refine enter 55 Tryz.func63 rfl rfl rfl fun f0 ha => ?_
 have H := HI.start (M0 := M) (w := w) hM
 have H0 := H.put (it := iL a_fi fi c_fi) rfl (by rw [MS_nil]; exact h_fi)
 have H1 := H0.put (it := iL a_fo fo c_fo) rfl (by rw [MS_cons_none rfl, MS_nil]; exact h_fo)
 have H2 := H1.put (it := iL a_sl_ sl_ c_sl_) rfl (by rw [MS_cons_none rfl, MS_cons_none rfl, MS_nil]; exact h_sl_)
 have ln_fi := rv_len h_fi
 have ln_fo := rv_len h_fo
 have ln_sl_ := rv_len h_sl_
 have i0 : f0 0 = .agg #[.slice a_fv n_fv c_fv, sL a_fi fi c_fi, sL a_fo fo c_fo] := ha 0 (by simp)
 have i1 : f0 1 = .agg #[iV kd, iV rd_, iV wa_, iV wb_, iV op_, sL a_sl_ sl_ c_sl_, iV fs_, iV sn_] := ha 1 (by simp)
 refine sq (rg (k (bx H2 rfl i0 ?_)))
 intro bb0 w0 xt0 (H3 : HI M w w0 [box bb0 #[.slice a_fv n_fv c_fv, sL a_fi fi c_fi, sL a_fo fo c_fo] 32, iL a_sl_ sl_ c_sl_, iL a_fo fo c_fo, iL a_fi fi c_fi])
 refine k (bx H3 rfl i1 ?_)
 intro bb1 w1 xt1 (H4 : HI M w w1 [box bb1 #[iV kd, iV rd_, iV wa_, iV wb_, iV op_, sL a_sl_ sl_ c_sl_, iV fs_, iV sn_] 25, box bb0 #[.slice a_fv n_fv c_fv, sL a_fi fi c_fi, sL a_fo fo c_fo] 32, iL a_sl_ sl_ c_sl_, iL a_fo fo c_fo, iL a_fi fi c_fi])
 refine k (asg (v := .bool false) rfl rfl (z (nx (sq ?_))))
 refine drX rfl (by kernel_rfl) ?_
 refine xq rfl (kq (fun _ x_ => ldX (H4.ext x_) 1 rfl ty32 rfl rfl (by decide) rfl e1) (zq ?_))
 refine xu (fun v w' => ∃ (a0 : OA) (c0 : Nat), v = .agg #[iV (fi.length : Int), sL a0 (coR fi fo) c0] ∧ RV (MS M [box bb1 #[iV kd, iV rd_, iV wa_, iV wb_, iV op_, sL a_sl_ sl_ c_sl_, iV fs_, iV sn_] 25, box bb0 #[.slice a_fv n_fv c_fv, sL a_fi fi c_fi, sL a_fo fo c_fo] 32, iL a_sl_ sl_ c_sl_, iL a_fo fo c_fo, iL a_fi fi c_fi]) w' (sL a0 (coR fi fo) c0) (coR fi fo)) rfl (by rintro _ _ _ x_ ⟨a0, c0, e_, rv0⟩; exact ⟨a0, c0, e_, rv0.lift (Up.ext x_)⟩) rfl (fun v_ x_ => ?_) ?_
 ·
  have H7 := H4.ext x_
  have cc1 := ref13_Co (fi := fi) (fo := fo) (a_fv := a_fv) (n_fv := n_fv) (c_fv := c_fv) (w := v_) H7.mb (H7.rv 4 rfl) (H7.rv 3 rfl) (by exact ho) (by first | exact hn_fi | omega) (by exact hfo) (by exact hfr)
  refine ca go30 rfl (ec rfl e0) cc1 ?_
  rintro _ w3 ⟨a1, c1, rfl, xt3, rv1⟩
  exact ⟨_, rfl, xt3, ⟨a1, c1, rfl, rv1⟩⟩
 refine xq rfl (kq (fun _ _ => fa fl25_4 rfl rfl e1) (zq (xq rfl (kq (fun _ x_ => lx (H4.ext x_) 0 rfl ty3 rfl rfl rfl e1) (zq ?_)))))
 refine xu1 (fun v w' => ∃ (a3 : OA) (c3 : Nat), v = sL a3 (withL (fi.length : Int) (coR fi fo) op_) c3 ∧ RV (MS M [box bb1 #[iV kd, iV rd_, iV wa_, iV wb_, iV op_, sL a_sl_ sl_ c_sl_, iV fs_, iV sn_] 25, box bb0 #[.slice a_fv n_fv c_fv, sL a_fi fi c_fi, sL a_fo fo c_fo] 32, iL a_sl_ sl_ c_sl_, iL a_fo fo c_fo, iL a_fi fi c_fi]) w' (sL a3 (withL (fi.length : Int) (coR fi fo) op_) c3) (withL (fi.length : Int) (coR fi fo) op_)) 0 rfl rfl (by rintro _ _ _ x_ ⟨a3, c3, e_, rv4⟩; exact ⟨a3, c3, e_, rv4.lift (Up.ext x_)⟩) rfl (fun v_ u_ x_ h_ => ?_) ?_
 ·
  have H12 := H4.ext x_
  obtain ⟨a4, c4, s0, rv5⟩ := h_
  have H13 := H12.put (it := iL a4 (coR fi fo) c4) rfl rv5
  have cc3 := ref16_With (mn := (fi.length : Int)) (mr := (coR fi fo)) (o := op_) (w := v_) H13.mb (by first | assumption | (unfold I64 at *; omega)) (H13.rv 0 rfl) h_op_ (by exact co_right _ hn_fi)
  refine ca go68 rfl (ec s0 (ec rfl e0)) cc3 ?_
  rintro _ w5 ⟨a5, c5, rfl, xt5, rv6⟩
  have rv7 := OwnsG.rv rv6 H13.mb
  exact ⟨_, rfl, xt5, ⟨a5, c5, rfl, (rv_drop rfl rv7)⟩⟩
 refine xu1 (fun v w' => ∃ (a6 : OA) (c6 : Nat), v = sL a6 (withL (fi.length : Int) (coR fi fo) op_) c6 ∧ RV (MS M [box bb1 #[iV kd, iV rd_, iV wa_, iV wb_, iV op_, sL a_sl_ sl_ c_sl_, iV fs_, iV sn_] 25, box bb0 #[.slice a_fv n_fv c_fv, sL a_fi fi c_fi, sL a_fo fo c_fo] 32, iL a_sl_ sl_ c_sl_, iL a_fo fo c_fo, iL a_fi fi c_fi]) w' (sL a6 (withL (fi.length : Int) (coR fi fo) op_) c6) (withL (fi.length : Int) (coR fi fo) op_)) 0 rfl rfl (by rintro _ _ _ x_ ⟨a6, c6, e_, rv8⟩; exact ⟨a6, c6, e_, rv8.lift (Up.ext x_)⟩) rfl (fun v_ u_ x_ h_ => ?_) ?_
 ·
  obtain ⟨a7, c7, s1, rv9⟩ := h_
  refine asg rfl s1 ?_
  exact ⟨_, rfl, Ext.refl _, ⟨a7, c7, rfl, rv9⟩⟩
 refine zx ?_
 intro w6 f0 xt6 hk0 hu0
 have H18 := H4.ext xt6
 have s2 : f0 2 = pV bb0 0 := hk0 2 rfl
 have s3 : f0 3 = pV bb1 0 := hk0 3 rfl
 obtain ⟨a8, c8, s4, rv10⟩ := hu0 0 _ _ rfl
 have H19 := H18.put (it := iL a8 (withL (fi.length : Int) (coR fi fo) op_) c8) rfl rv10
 refine nx (sq (rg (k (ldX H19 2 rfl ty32 rfl s2 (by decide) rfl (k (fa fl25_4 rfl s3 (k (lx H19 1 rfl ty3 rfl rfl rfl (k ?_)))))))))
 have cc4 := ref16_Kept (fi := fi) (o := op_) (a_fv := a_fv) (n_fv := n_fv) (c_fv := c_fv) (a_fo := a_fo) (n_fo := fo.length) (c_fo := c_fo) (w := w6) H19.mb (H19.rv 5 rfl) h_op_ (by first | exact hn_fi | omega)
 refine ca go62 rfl (ec rfl (ec rfl e0)) cc4 ?_
 rintro _ w7 ⟨a9, c9, rfl, xt7, rv11⟩
 have H20 := H19.ownsG rv11
 refine k (asg (v := sL a9 (keepL (wrQ fi) (pastB fi op_ fi.length)) c9) rfl rfl (z (nx (sq (sq (rg (k (asg (v := iV 0) rfl rfl (z (nx (bk ?_)))))))))))
 refine lp (fun m f w' => ∃ (j_ : Nat), m = sl_.length - j_ ∧ f 3 = pV bb1 0 ∧ f 5 = sL a8 (withL (fi.length : Int) (coR fi fo) op_) c8 ∧ f 6 = sL a9 (keepL (wrQ fi) (pastB fi op_ fi.length)) c9 ∧ f 7 = iV (j_ : Int) ∧  HI M w w' [oL w 3 a9 (keepL (wrQ fi) (pastB fi op_ fi.length)) c9, iL a8 (withL (fi.length : Int) (coR fi fo) op_) c8, box bb1 #[iV kd, iV rd_, iV wa_, iV wb_, iV op_, sL a_sl_ sl_ c_sl_, iV fs_, iV sn_] 25, box bb0 #[.slice a_fv n_fv c_fv, sL a_fi fi c_fi, sL a_fo fo c_fo] 32, iL a_sl_ sl_ c_sl_, iL a_fo fo c_fo, iL a_fi fi c_fi] ∧ (j_ ≤ sl_.length) ∧ ((sl_.take j_).all (fun s => !(seenS (worldO fi fo op_) (keptB fi op_) s)) = true)) _ ⟨0, rfl, s3, s4, rfl, (ieq rfl (by first | rfl | omega | simp)), H20, (by first | omega | assumption | simp), (by rfl)⟩ ?_
 rintro _ f1 w8 ⟨j_, rfl, s5, s6, s7, s8, H21, hk_, hs⟩
 refine sq (sq (rg (k (mv rfl s8 (k (fa fl25_5 rfl s5 (k (lx H21 2 rfl ty23 rfl rfl rfl (k (lnS rfl rfl un23 (k (lss rfl rfl rfl rfl (z (nx ?_))))))))))))))
 refine cd (b := decide ((j_ : Int) < (sl_.length : Int))) rfl rfl (fun b0 => ?_) (fun b0 => ?_)
 ·
  have p0 := dT b0
  refine sk (nx (sq (bk (sq (rg (k (fa fl25_5 rfl s5 (k (lx H21 2 rfl ty23 rfl rfl rfl (k (mv rfl s8 (k (ia (H21.rv 4 rfl) rfl rfl rfl rfl (by omega) un23 ty92 ?_)))))))))))))
  intro ad0 x0 hx0 hA0
  refine k (ldW hA0.w ty92 rfl rfl ?_)
  intro v0 rv12
  obtain ⟨_, ⟨_, _, rfl, ⟨rfl, rv13⟩, ⟨_, _, rfl, ⟨rfl, rv14⟩, ⟨_, _, rfl, ⟨rfl, rv15⟩, ⟨_, _, rfl, ⟨rfl, rv16⟩, ⟨rfl, rv17⟩⟩⟩⟩⟩, rfl⟩ := rv12
  refine k (al H21 ty92 ?_)
  intro bb2 w9 xt8 (H22 : HI M w w9 [box bb2 #[iV 0, iV 0, iV 0, iV 0, iV 0] 92, oL w 3 a9 (keepL (wrQ fi) (pastB fi op_ fi.length)) c9, iL a8 (withL (fi.length : Int) (coR fi fo) op_) c8, box bb1 #[iV kd, iV rd_, iV wa_, iV wb_, iV op_, sL a_sl_ sl_ c_sl_, iV fs_, iV sn_] 25, box bb0 #[.slice a_fv n_fv c_fv, sL a_fi fi c_fi, sL a_fo fo c_fo] 32, iL a_sl_ sl_ c_sl_, iL a_fo fo c_fo, iL a_fi fi c_fi])
  refine k (stX H22 0 rfl ty92 rfl rfl rfl rfl rfl rfl rfl ?_)
  intro w10 (H23 : HI M w w10 [box bb2 #[iV x0.1, iV x0.2.1, iV x0.2.2.1, iV x0.2.2.2.1, iV x0.2.2.2.2] 92, oL w 3 a9 (keepL (wrQ fi) (pastB fi op_ fi.length)) c9, iL a8 (withL (fi.length : Int) (coR fi fo) op_) c8, box bb1 #[iV kd, iV rd_, iV wa_, iV wb_, iV op_, sL a_sl_ sl_ c_sl_, iV fs_, iV sn_] 25, box bb0 #[.slice a_fv n_fv c_fv, sL a_fi fi c_fi, sL a_fo fo c_fo] 32, iL a_sl_ sl_ c_sl_, iL a_fo fo c_fo, iL a_fi fi c_fi])
  refine z (nx (sq (sq (rg (k (fa fl92_0 rfl rfl (k (lx H23 0 rfl ty3 rfl rfl rfl (k (eql rfl rfl rfl rfl (k (mv (v := .bool (decide (x0.1 = 4))) rfl rfl ?_))))))))))))
  rcases bE (decide (x0.1 = 4)) with b1 | b1
  ·
   have p1 := dT b1
   refine k (gy rfl rfl rfl b1 (mv rfl s7 (k (gy rfl rfl rfl b1 (fa fl92_4 rfl rfl (k (gy rfl rfl rfl b1 (lx H23 0 rfl ty3 rfl rfl rfl (k (gy rfl rfl rfl b1 ?_))))))))))
   have H24 := H23.freeze 1 rfl
   have cc5 := ref20_has (l := (keepL (wrQ fi) (pastB fi op_ fi.length))) (n1 := x0.2.2.2.2) (w := w10) H24.mb (H24.rv 1 rfl) rv17
   refine ca go54 rfl (ec rfl (ec rfl e0)) cc5 ?_
   rintro _ w11 ⟨rfl, xt9⟩
   have H25 := H23.ext xt9
   refine k (gy rfl rfl rfl b1 (not_ rfl rfl (k (pickT rfl rfl rfl rfl b1 rfl (z (nx ?_))))))
   refine cd (b := !(hasJ (keepL (wrQ fi) (pastB fi op_ fi.length)) x0.2.2.2.2)) rfl rfl (fun b2 => ?_) (fun b2 => ?_)
   ·
    refine sq (rg (k (asg (v := .bool false) rfl rfl (z (nx (rt (then_ret (inb_ret (then_ret (loop_ret (inb_ret (then_ret (r1 rfl rfl ?_)))))))))))))
    exact ⟨congrArg Value.bool (by first | exact alll_end hs (by omega) | exact alll_hit (p := (fun s => !(seenS (worldO fi fo op_) (keptB fi op_) s))) hx0 (by simp only [seenS, worldO, keptB, b0, b1, (nott b2), BL])), H25.below⟩
   refine sk (nx (sq (rg (k (fa fl92_0 rfl rfl (k (lx H25 0 rfl ty3 rfl rfl rfl (k (eql rfl rfl rfl rfl (k (mv (v := .bool (decide (x0.1 = 1))) rfl rfl ?_)))))))))))
   rcases bE (decide (x0.1 = 1)) with b3 | b3
   ·
    have p3 := dT b3
    refine k (gn rfl rfl rfl b3 (k (gn rfl rfl rfl b3 (k (gn rfl rfl rfl b3 (k (pickT rfl rfl rfl rfl b3 rfl (k (mv (v := .bool true) rfl rfl (k (gy rfl rfl rfl rfl (mv rfl s6 (k (gy rfl rfl rfl rfl (fa fl92_2 rfl rfl (k (gy rfl rfl rfl rfl (lx H25 0 rfl ty3 rfl rfl rfl (k (gy rfl rfl rfl rfl ?_))))))))))))))))))))
    have cc6 := ref20_has (l := (withL (fi.length : Int) (coR fi fo) op_)) (n1 := x0.2.2.1) (w := w11) H25.mb (H25.rv 2 rfl) rv15
    refine ca go54 rfl (ec rfl (ec rfl e0)) cc6 ?_
    rintro _ w12 ⟨rfl, xt10⟩
    have H26 := H25.ext xt10
    refine k (gy rfl rfl rfl rfl (not_ rfl rfl (k (pickT rfl rfl rfl rfl rfl rfl (z (nx ?_))))))
    refine cd (b := !(hasJ (withL (fi.length : Int) (coR fi fo) op_) x0.2.2.1)) rfl rfl (fun b4 => ?_) (fun b4 => ?_)
    ·
     refine sq (rg (k (asg (v := .bool false) rfl rfl (z (nx (rt (inb_ret (then_ret (loop_ret (inb_ret (then_ret (r1 rfl rfl ?_))))))))))))
     exact ⟨congrArg Value.bool (by first | exact alll_end hs (by omega) | exact alll_hit (p := (fun s => !(seenS (worldO fi fo op_) (keptB fi op_) s))) hx0 (by simp only [seenS, worldO, keptB, b0, b1, (notf b2), b3, (nott b4), BL])), H26.below⟩
    refine sk (inb_normal (nx (rg (k (mv rfl s8 (k (add rfl rfl rfl rfl (by first | assumption | (unfold I64 at *; omega)) (k (asg (v := iV ((j_ : Int) + 1)) rfl rfl (z ?_))))))))))
    have H27 : HI M w w12 [oL w 3 a9 (keepL (wrQ fi) (pastB fi op_ fi.length)) c9, iL a8 (withL (fi.length : Int) (coR fi fo) op_) c8, box bb1 #[iV kd, iV rd_, iV wa_, iV wb_, iV op_, sL a_sl_ sl_ c_sl_, iV fs_, iV sn_] 25, box bb0 #[.slice a_fv n_fv c_fv, sL a_fi fi c_fi, sL a_fo fo c_fo] 32, iL a_sl_ sl_ c_sl_, iL a_fo fo c_fo, iL a_fi fi c_fi] := H26.pickN [1, 2, 3, 4, 5, 6, 7] (by decide) rfl
    refine loopN _ ?_ ⟨(j_ + 1), rfl, s5, s6, s7, (ieq rfl (by first | rfl | omega)), H27, (by first | omega | assumption | simp), (by exact alll_step hs hx0 (by simp only [seenS, worldO, keptB, b0, b1, (notf b2), b3, (notf b4), BL]))⟩
    omega
   have p3 := dF b3
   refine k (gy rfl rfl rfl b3 (fa fl92_0 rfl rfl (k (gy rfl rfl rfl b3 (lx H25 0 rfl ty3 rfl rfl rfl (k (gy rfl rfl rfl b3 (eql rfl rfl rfl rfl (k (pickF rfl rfl rfl rfl b3 rfl (k (mv (v := .bool (decide (x0.1 = 2))) rfl rfl ?_))))))))))))
   rcases bE (decide (x0.1 = 2)) with b4 | b4
   ·
    have p4 := dT b4
    refine k (gy rfl rfl rfl b4 (mv rfl s6 (k (gy rfl rfl rfl b4 (fa fl92_2 rfl rfl (k (gy rfl rfl rfl b4 (lx H25 0 rfl ty3 rfl rfl rfl (k (gy rfl rfl rfl b4 ?_))))))))))
    have cc6 := ref20_has (l := (withL (fi.length : Int) (coR fi fo) op_)) (n1 := x0.2.2.1) (w := w11) H25.mb (H25.rv 2 rfl) rv15
    refine ca go54 rfl (ec rfl (ec rfl e0)) cc6 ?_
    rintro _ w12 ⟨rfl, xt10⟩
    have H26 := H25.ext xt10
    refine k (gy rfl rfl rfl b4 (not_ rfl rfl (k (pickT rfl rfl rfl rfl b4 rfl (z (nx ?_))))))
    refine cd (b := !(hasJ (withL (fi.length : Int) (coR fi fo) op_) x0.2.2.1)) rfl rfl (fun b5 => ?_) (fun b5 => ?_)
    ·
     refine sq (rg (k (asg (v := .bool false) rfl rfl (z (nx (rt (inb_ret (then_ret (loop_ret (inb_ret (then_ret (r1 rfl rfl ?_))))))))))))
     exact ⟨congrArg Value.bool (by first | exact alll_end hs (by omega) | exact alll_hit (p := (fun s => !(seenS (worldO fi fo op_) (keptB fi op_) s))) hx0 (by simp only [seenS, worldO, keptB, b0, b1, (notf b2), b3, b4, (nott b5), BL])), H26.below⟩
    refine sk (inb_normal (nx (rg (k (mv rfl s8 (k (add rfl rfl rfl rfl (by first | assumption | (unfold I64 at *; omega)) (k (asg (v := iV ((j_ : Int) + 1)) rfl rfl (z ?_))))))))))
    have H27 : HI M w w12 [oL w 3 a9 (keepL (wrQ fi) (pastB fi op_ fi.length)) c9, iL a8 (withL (fi.length : Int) (coR fi fo) op_) c8, box bb1 #[iV kd, iV rd_, iV wa_, iV wb_, iV op_, sL a_sl_ sl_ c_sl_, iV fs_, iV sn_] 25, box bb0 #[.slice a_fv n_fv c_fv, sL a_fi fi c_fi, sL a_fo fo c_fo] 32, iL a_sl_ sl_ c_sl_, iL a_fo fo c_fo, iL a_fi fi c_fi] := H26.pickN [1, 2, 3, 4, 5, 6, 7] (by decide) rfl
    refine loopN _ ?_ ⟨(j_ + 1), rfl, s5, s6, s7, (ieq rfl (by first | rfl | omega)), H27, (by first | omega | assumption | simp), (by exact alll_step hs hx0 (by simp only [seenS, worldO, keptB, b0, b1, (notf b2), b3, b4, (notf b5), BL]))⟩
    omega
   have p4 := dF b4
   refine k (gn rfl rfl rfl b4 (k (gn rfl rfl rfl b4 (k (gn rfl rfl rfl b4 (k (gn rfl rfl rfl b4 (k (gn rfl rfl rfl b4 (k (pickF rfl rfl rfl rfl b4 rfl (z (nx (cdF rfl rfl rfl (sk (inb_normal (nx (rg (k (mv rfl s8 (k (add rfl rfl rfl rfl (by first | assumption | (unfold I64 at *; omega)) (k (asg (v := iV ((j_ : Int) + 1)) rfl rfl (z ?_)))))))))))))))))))))))))
   have H26 : HI M w w11 [oL w 3 a9 (keepL (wrQ fi) (pastB fi op_ fi.length)) c9, iL a8 (withL (fi.length : Int) (coR fi fo) op_) c8, box bb1 #[iV kd, iV rd_, iV wa_, iV wb_, iV op_, sL a_sl_ sl_ c_sl_, iV fs_, iV sn_] 25, box bb0 #[.slice a_fv n_fv c_fv, sL a_fi fi c_fi, sL a_fo fo c_fo] 32, iL a_sl_ sl_ c_sl_, iL a_fo fo c_fo, iL a_fi fi c_fi] := H25.pickN [1, 2, 3, 4, 5, 6, 7] (by decide) rfl
   refine loopN _ ?_ ⟨(j_ + 1), rfl, s5, s6, s7, (ieq rfl (by first | rfl | omega)), H26, (by first | omega | assumption | simp), (by exact alll_step hs hx0 (by simp only [seenS, worldO, keptB, b0, b1, (notf b2), b3, b4, BL]))⟩
   omega
  have p1 := dF b1
  refine k (gn rfl rfl rfl b1 (k (gn rfl rfl rfl b1 (k (gn rfl rfl rfl b1 (k (gn rfl rfl rfl b1 (k (gn rfl rfl rfl b1 (k (pickF rfl rfl rfl rfl b1 rfl (z (nx (cdF rfl rfl rfl (sk (nx (sq (rg (k (fa fl92_0 rfl rfl (k (lx H23 0 rfl ty3 rfl rfl rfl (k (eql rfl rfl rfl rfl (k (mv (v := .bool (decide (x0.1 = 1))) rfl rfl ?_))))))))))))))))))))))))))
  rcases bE (decide (x0.1 = 1)) with b2 | b2
  ·
   have p2 := dT b2
   refine k (gn rfl rfl rfl b2 (k (gn rfl rfl rfl b2 (k (gn rfl rfl rfl b2 (k (pickT rfl rfl rfl rfl b2 rfl (k (mv (v := .bool true) rfl rfl (k (gy rfl rfl rfl rfl (mv rfl s6 (k (gy rfl rfl rfl rfl (fa fl92_2 rfl rfl (k (gy rfl rfl rfl rfl (lx H23 0 rfl ty3 rfl rfl rfl (k (gy rfl rfl rfl rfl ?_))))))))))))))))))))
   have cc5 := ref20_has (l := (withL (fi.length : Int) (coR fi fo) op_)) (n1 := x0.2.2.1) (w := w10) H23.mb (H23.rv 2 rfl) rv15
   refine ca go54 rfl (ec rfl (ec rfl e0)) cc5 ?_
   rintro _ w11 ⟨rfl, xt9⟩
   have H24 := H23.ext xt9
   refine k (gy rfl rfl rfl rfl (not_ rfl rfl (k (pickT rfl rfl rfl rfl rfl rfl (z (nx ?_))))))
   refine cd (b := !(hasJ (withL (fi.length : Int) (coR fi fo) op_) x0.2.2.1)) rfl rfl (fun b3 => ?_) (fun b3 => ?_)
   ·
    refine sq (rg (k (asg (v := .bool false) rfl rfl (z (nx (rt (inb_ret (then_ret (loop_ret (inb_ret (then_ret (r1 rfl rfl ?_))))))))))))
    exact ⟨congrArg Value.bool (by first | exact alll_end hs (by omega) | exact alll_hit (p := (fun s => !(seenS (worldO fi fo op_) (keptB fi op_) s))) hx0 (by simp only [seenS, worldO, keptB, b0, b1, b2, (nott b3), BL])), H24.below⟩
   refine sk (inb_normal (nx (rg (k (mv rfl s8 (k (add rfl rfl rfl rfl (by first | assumption | (unfold I64 at *; omega)) (k (asg (v := iV ((j_ : Int) + 1)) rfl rfl (z ?_))))))))))
   have H25 : HI M w w11 [oL w 3 a9 (keepL (wrQ fi) (pastB fi op_ fi.length)) c9, iL a8 (withL (fi.length : Int) (coR fi fo) op_) c8, box bb1 #[iV kd, iV rd_, iV wa_, iV wb_, iV op_, sL a_sl_ sl_ c_sl_, iV fs_, iV sn_] 25, box bb0 #[.slice a_fv n_fv c_fv, sL a_fi fi c_fi, sL a_fo fo c_fo] 32, iL a_sl_ sl_ c_sl_, iL a_fo fo c_fo, iL a_fi fi c_fi] := H24.pickN [1, 2, 3, 4, 5, 6, 7] (by decide) rfl
   refine loopN _ ?_ ⟨(j_ + 1), rfl, s5, s6, s7, (ieq rfl (by first | rfl | omega)), H25, (by first | omega | assumption | simp), (by exact alll_step hs hx0 (by simp only [seenS, worldO, keptB, b0, b1, b2, (notf b3), BL]))⟩
   omega
  have p2 := dF b2
  refine k (gy rfl rfl rfl b2 (fa fl92_0 rfl rfl (k (gy rfl rfl rfl b2 (lx H23 0 rfl ty3 rfl rfl rfl (k (gy rfl rfl rfl b2 (eql rfl rfl rfl rfl (k (pickF rfl rfl rfl rfl b2 rfl (k (mv (v := .bool (decide (x0.1 = 2))) rfl rfl ?_))))))))))))
  rcases bE (decide (x0.1 = 2)) with b3 | b3
  ·
   have p3 := dT b3
   refine k (gy rfl rfl rfl b3 (mv rfl s6 (k (gy rfl rfl rfl b3 (fa fl92_2 rfl rfl (k (gy rfl rfl rfl b3 (lx H23 0 rfl ty3 rfl rfl rfl (k (gy rfl rfl rfl b3 ?_))))))))))
   have cc5 := ref20_has (l := (withL (fi.length : Int) (coR fi fo) op_)) (n1 := x0.2.2.1) (w := w10) H23.mb (H23.rv 2 rfl) rv15
   refine ca go54 rfl (ec rfl (ec rfl e0)) cc5 ?_
   rintro _ w11 ⟨rfl, xt9⟩
   have H24 := H23.ext xt9
   refine k (gy rfl rfl rfl b3 (not_ rfl rfl (k (pickT rfl rfl rfl rfl b3 rfl (z (nx ?_))))))
   refine cd (b := !(hasJ (withL (fi.length : Int) (coR fi fo) op_) x0.2.2.1)) rfl rfl (fun b4 => ?_) (fun b4 => ?_)
   ·
    refine sq (rg (k (asg (v := .bool false) rfl rfl (z (nx (rt (inb_ret (then_ret (loop_ret (inb_ret (then_ret (r1 rfl rfl ?_))))))))))))
    exact ⟨congrArg Value.bool (by first | exact alll_end hs (by omega) | exact alll_hit (p := (fun s => !(seenS (worldO fi fo op_) (keptB fi op_) s))) hx0 (by simp only [seenS, worldO, keptB, b0, b1, b2, b3, (nott b4), BL])), H24.below⟩
   refine sk (inb_normal (nx (rg (k (mv rfl s8 (k (add rfl rfl rfl rfl (by first | assumption | (unfold I64 at *; omega)) (k (asg (v := iV ((j_ : Int) + 1)) rfl rfl (z ?_))))))))))
   have H25 : HI M w w11 [oL w 3 a9 (keepL (wrQ fi) (pastB fi op_ fi.length)) c9, iL a8 (withL (fi.length : Int) (coR fi fo) op_) c8, box bb1 #[iV kd, iV rd_, iV wa_, iV wb_, iV op_, sL a_sl_ sl_ c_sl_, iV fs_, iV sn_] 25, box bb0 #[.slice a_fv n_fv c_fv, sL a_fi fi c_fi, sL a_fo fo c_fo] 32, iL a_sl_ sl_ c_sl_, iL a_fo fo c_fo, iL a_fi fi c_fi] := H24.pickN [1, 2, 3, 4, 5, 6, 7] (by decide) rfl
   refine loopN _ ?_ ⟨(j_ + 1), rfl, s5, s6, s7, (ieq rfl (by first | rfl | omega)), H25, (by first | omega | assumption | simp), (by exact alll_step hs hx0 (by simp only [seenS, worldO, keptB, b0, b1, b2, b3, (notf b4), BL]))⟩
   omega
  have p3 := dF b3
  refine k (gn rfl rfl rfl b3 (k (gn rfl rfl rfl b3 (k (gn rfl rfl rfl b3 (k (gn rfl rfl rfl b3 (k (gn rfl rfl rfl b3 (k (pickF rfl rfl rfl rfl b3 rfl (z (nx (cdF rfl rfl rfl (sk (inb_normal (nx (rg (k (mv rfl s8 (k (add rfl rfl rfl rfl (by first | assumption | (unfold I64 at *; omega)) (k (asg (v := iV ((j_ : Int) + 1)) rfl rfl (z ?_)))))))))))))))))))))))))
  have H24 : HI M w w10 [oL w 3 a9 (keepL (wrQ fi) (pastB fi op_ fi.length)) c9, iL a8 (withL (fi.length : Int) (coR fi fo) op_) c8, box bb1 #[iV kd, iV rd_, iV wa_, iV wb_, iV op_, sL a_sl_ sl_ c_sl_, iV fs_, iV sn_] 25, box bb0 #[.slice a_fv n_fv c_fv, sL a_fi fi c_fi, sL a_fo fo c_fo] 32, iL a_sl_ sl_ c_sl_, iL a_fo fo c_fo, iL a_fi fi c_fi] := H23.pickN [1, 2, 3, 4, 5, 6, 7] (by decide) rfl
  refine loopN _ ?_ ⟨(j_ + 1), rfl, s5, s6, s7, (ieq rfl (by first | rfl | omega)), H24, (by first | omega | assumption | simp), (by exact alll_step hs hx0 (by simp only [seenS, worldO, keptB, b0, b1, b2, b3, BL]))⟩
  omega
 have p0 := dF b0
 refine ex (then_exit (loop_exit (inb_here (nx (sq (rg (k (asg (v := .bool true) rfl rfl (z (nx (rt (r1 rfl rfl ?_))))))))))))
 exact ⟨congrArg Value.bool (by first | exact alll_end hs (by omega) | exact alll_hit (p := (fun s => !(seenS (worldO fi fo op_) (keptB fi op_) s))) hx0 (by simp only [seenS, worldO, keptB, b0, BL])), H21.below⟩
theorem ref19_Kinds {lv : Int} (hM : ∀ b, M b → b < w.heap.size) (h_lv : I64 lv) : Calls Tryz.prog 55 #[.int .i64 lv] w (Ret fun v w' => ∃ (a0 : OA) (c0 : Nat), v = .slice a0 (kindsR lv).length c0 ∧ Ext w w' ∧ OwnsG M 3 w (kindsR lv) (.slice a0 (kindsR lv).length c0) w') := by
 refine enter 13 Tryz.func55 rfl rfl rfl fun f0 ha => ?_
 have H := HI.start (M0 := M) (w := w) hM
 have i0 : f0 0 = iV lv := ha 0 (by simp)
 refine sq (rg (k (asg (v := .slice none 0 0) rfl rfl (z (nx (sq (sq (rg (k (mv rfl i0 (z (nx (bk (sq (rg (k (eql rfl rfl rfl rfl (k (asg (v := .bool (decide (lv = 1))) rfl rfl (z (nx ?_)))))))))))))))))))))
 refine cd (b := decide (lv = 1)) rfl rfl (fun b0 => ?_) (fun b0 => ?_)
 ·
  have p0 := dT b0
  refine sq (rg (k (bs (xs := ([1, 2, 3, 4] : List Int)) (cells := #[iV 1, iV 2, iV 3, iV 4]) (e := 3) H rfl (pbc rfl (pbc rfl (pbc rfl (pbc rfl pb0)))) (fun _ => by kernel_rfl) ⟨[iV 1], [iV 2, iV 3, iV 4], rfl, ⟨rfl, (show I64 (1) from (by unfold I64 at *; omega))⟩, ⟨[iV 2], [iV 3, iV 4], rfl, ⟨rfl, (show I64 (2) from (by unfold I64 at *; omega))⟩, ⟨[iV 3], [iV 4], rfl, ⟨rfl, (show I64 (3) from (by unfold I64 at *; omega))⟩, ⟨[iV 4], [], rfl, ⟨rfl, (show I64 (4) from (by unfold I64 at *; omega))⟩, rfl⟩⟩⟩⟩ rfl (by decide) ?_)))
  intro g0 w0 xt0 H0
  refine k (asg (v := .slice (some ⟨g0, 0, none⟩) 4 4) rfl rfl (z (nx (rt (inb_ret (then_ret (r1 rfl rfl ?_)))))))
  have e0 : (([1, 2, 3, 4] : List Int) : List Int) = kindsR lv := by simp only [kindsR, b0, BL]
  have l0 : 4 = (kindsR lv).length := by first | rfl | (rw [← e0]; simp) | simp
  have ev_ := cg1 (fun (n_0 : Nat) => (.slice (some ⟨g0, 0, none⟩) n_0 4 : Value)) l0
  exact ⟨(some ⟨g0, 0, none⟩), 4, ev_, H0.below, (congrArg (fun (n_ : Nat) => OwnsG _ _ _ (kindsR lv) (.slice (some ⟨g0, 0, none⟩) n_ 4) _) l0).mp ((congrArg (fun (x_ : List Int) => OwnsG _ _ _ x_ (.slice (some ⟨g0, 0, none⟩) 4 4) _) e0).mp (H0.ownsG_out 0 rfl))⟩
 have p0 := dF b0
 refine sq (rg (k (eql rfl rfl rfl rfl (k (asg (v := .bool (decide (lv = 2))) rfl rfl (z (nx ?_)))))))
 refine cd (b := decide (lv = 2)) rfl rfl (fun b1 => ?_) (fun b1 => ?_)
 ·
  have p1 := dT b1
  refine sq (rg (k (bs (xs := ([1, 2, 3, 4, 5] : List Int)) (cells := #[iV 1, iV 2, iV 3, iV 4, iV 5]) (e := 3) H rfl (pbc rfl (pbc rfl (pbc rfl (pbc rfl (pbc rfl pb0))))) (fun _ => by kernel_rfl) ⟨[iV 1], [iV 2, iV 3, iV 4, iV 5], rfl, ⟨rfl, (show I64 (1) from (by unfold I64 at *; omega))⟩, ⟨[iV 2], [iV 3, iV 4, iV 5], rfl, ⟨rfl, (show I64 (2) from (by unfold I64 at *; omega))⟩, ⟨[iV 3], [iV 4, iV 5], rfl, ⟨rfl, (show I64 (3) from (by unfold I64 at *; omega))⟩, ⟨[iV 4], [iV 5], rfl, ⟨rfl, (show I64 (4) from (by unfold I64 at *; omega))⟩, ⟨[iV 5], [], rfl, ⟨rfl, (show I64 (5) from (by unfold I64 at *; omega))⟩, rfl⟩⟩⟩⟩⟩ rfl (by decide) ?_)))
  intro g0 w0 xt0 H0
  refine k (asg (v := .slice (some ⟨g0, 0, none⟩) 5 5) rfl rfl (z (nx (rt (inb_ret (then_ret (r1 rfl rfl ?_)))))))
  have e0 : (([1, 2, 3, 4, 5] : List Int) : List Int) = kindsR lv := by simp only [kindsR, b0, b1, BL]
  have l0 : 5 = (kindsR lv).length := by first | rfl | (rw [← e0]; simp) | simp
  have ev_ := cg1 (fun (n_0 : Nat) => (.slice (some ⟨g0, 0, none⟩) n_0 5 : Value)) l0
  exact ⟨(some ⟨g0, 0, none⟩), 5, ev_, H0.below, (congrArg (fun (n_ : Nat) => OwnsG _ _ _ (kindsR lv) (.slice (some ⟨g0, 0, none⟩) n_ 5) _) l0).mp ((congrArg (fun (x_ : List Int) => OwnsG _ _ _ x_ (.slice (some ⟨g0, 0, none⟩) 5 5) _) e0).mp (H0.ownsG_out 0 rfl))⟩
 have p1 := dF b1
 refine sq (rg (k (eql rfl rfl rfl rfl (k (asg (v := .bool (decide (lv = 3))) rfl rfl (z (nx ?_)))))))
 refine cd (b := decide (lv = 3)) rfl rfl (fun b2 => ?_) (fun b2 => ?_)
 ·
  have p2 := dT b2
  refine sq (rg (k (bs (xs := ([1, 2, 3, 4, 6, 7] : List Int)) (cells := #[iV 1, iV 2, iV 3, iV 4, iV 6, iV 7]) (e := 3) H rfl (pbc rfl (pbc rfl (pbc rfl (pbc rfl (pbc rfl (pbc rfl pb0)))))) (fun _ => by kernel_rfl) ⟨[iV 1], [iV 2, iV 3, iV 4, iV 6, iV 7], rfl, ⟨rfl, (show I64 (1) from (by unfold I64 at *; omega))⟩, ⟨[iV 2], [iV 3, iV 4, iV 6, iV 7], rfl, ⟨rfl, (show I64 (2) from (by unfold I64 at *; omega))⟩, ⟨[iV 3], [iV 4, iV 6, iV 7], rfl, ⟨rfl, (show I64 (3) from (by unfold I64 at *; omega))⟩, ⟨[iV 4], [iV 6, iV 7], rfl, ⟨rfl, (show I64 (4) from (by unfold I64 at *; omega))⟩, ⟨[iV 6], [iV 7], rfl, ⟨rfl, (show I64 (6) from (by unfold I64 at *; omega))⟩, ⟨[iV 7], [], rfl, ⟨rfl, (show I64 (7) from (by unfold I64 at *; omega))⟩, rfl⟩⟩⟩⟩⟩⟩ rfl (by decide) ?_)))
  intro g0 w0 xt0 H0
  refine k (asg (v := .slice (some ⟨g0, 0, none⟩) 6 6) rfl rfl (z (nx (rt (inb_ret (then_ret (r1 rfl rfl ?_)))))))
  have e0 : (([1, 2, 3, 4, 6, 7] : List Int) : List Int) = kindsR lv := by simp only [kindsR, b0, b1, b2, BL]
  have l0 : 6 = (kindsR lv).length := by first | rfl | (rw [← e0]; simp) | simp
  have ev_ := cg1 (fun (n_0 : Nat) => (.slice (some ⟨g0, 0, none⟩) n_0 6 : Value)) l0
  exact ⟨(some ⟨g0, 0, none⟩), 6, ev_, H0.below, (congrArg (fun (n_ : Nat) => OwnsG _ _ _ (kindsR lv) (.slice (some ⟨g0, 0, none⟩) n_ 6) _) l0).mp ((congrArg (fun (x_ : List Int) => OwnsG _ _ _ x_ (.slice (some ⟨g0, 0, none⟩) 6 6) _) e0).mp (H0.ownsG_out 0 rfl))⟩
 have p2 := dF b2
 refine sk (inb_normal (nx (sq (rg (k (asg (v := .slice none 0 0) rfl rfl (z (nx (rt (r1 rfl rfl ?_))))))))))
 have e0 : ([] : List Int) = kindsR lv := by simp only [kindsR, b0, b1, b2, BL]
 have ev_ := cg1 (fun (x_0 : List Int) => (.slice none x_0.length 0 : Value)) e0
 exact ⟨none, 0, ev_, H.below, (congrArg (fun (x_ : List Int) => OwnsG _ _ _ x_ (.slice none x_.length 0) _) e0).mp (ownsG_nil H.below)⟩
theorem go55 : GoF Tryz.prog 55 := ⟨_, _, Tryz.func55, rfl, by kernel_rfl⟩
theorem go56 : GoF Tryz.prog 56 := ⟨_, _, Tryz.func56, rfl, by kernel_rfl⟩
theorem go27 : GoF Tryz.prog 27 := ⟨_, _, Tryz.func27, rfl, by kernel_rfl⟩
theorem go58 : GoF Tryz.prog 58 := ⟨_, _, Tryz.func58, rfl, by kernel_rfl⟩
theorem go60 : GoF Tryz.prog 60 := ⟨_, _, Tryz.func60, rfl, by kernel_rfl⟩
theorem go63 : GoF Tryz.prog 63 := ⟨_, _, Tryz.func63, rfl, by kernel_rfl⟩
theorem go26 : GoF Tryz.prog 26 := ⟨_, _, Tryz.func26, rfl, by kernel_rfl⟩
theorem ref20_Holds {a_fv : OA} {n_fv c_fv : Nat} {a_fi : OA} {c_fi : Nat} {fi : List ItemL} {a_fo : OA} {c_fo : Nat} {fo : List Int} {lv : Int} {kd : Int} {rd_ : Int} {wa_ : Int} {wb_ : Int} {op_ : Int} {a_sl_ : OA} {c_sl_ : Nat} {sl_ : List StepL} {fs_ : Int} {sn_ : Int} (hM : ∀ b, M b → b < w.heap.size) (h_fi : RV M w (.slice a_fi fi.length c_fi) fi) (h_fo : RV M w (.slice a_fo fo.length c_fo) fo) (h_lv : I64 lv) (h_kd : I64 kd) (h_rd_ : I64 rd_) (h_wa_ : I64 wa_) (h_wb_ : I64 wb_) (h_op_ : I64 op_) (h_sl_ : RV M w (.slice a_sl_ sl_.length c_sl_) sl_) (h_fs_ : I64 fs_) (h_sn_ : I64 sn_) (ho : OrdI fi) (hn_fi : fi.length ≤ 4096) (hfo : fo.length = fi.length) (hfr : ∀ x ∈ fo, x < ((fi.length : Nat) : Int)) (hst : sl_.length ≤ 90000) : Calls Tryz.prog 26 #[.agg #[.slice a_fv n_fv c_fv, .slice a_fi fi.length c_fi, .slice a_fo fo.length c_fo], .int .i64 lv, .agg #[.int .i64 kd, .int .i64 rd_, .int .i64 wa_, .int .i64 wb_, .int .i64 op_, .slice a_sl_ sl_.length c_sl_, .int .i64 fs_, .int .i64 sn_]] w (Ret fun v w' =>  v = .bool (holdsR fi fo lv kd rd_ wa_ wb_ op_ sl_ fs_ sn_) ∧ Ext w w') := by
 refine enter 246 Tryz.func26 rfl rfl rfl fun f0 ha => ?_
 have H := HI.start (M0 := M) (w := w) hM
 have H0 := H.put (it := iL a_fi fi c_fi) rfl (by rw [MS_nil]; exact h_fi)
 have H1 := H0.put (it := iL a_fo fo c_fo) rfl (by rw [MS_cons_none rfl, MS_nil]; exact h_fo)
 have H2 := H1.put (it := iL a_sl_ sl_ c_sl_) rfl (by rw [MS_cons_none rfl, MS_cons_none rfl, MS_nil]; exact h_sl_)
 have ln_fi := rv_len h_fi
 have ln_fo := rv_len h_fo
 have ln_sl_ := rv_len h_sl_
 have i0 : f0 0 = .agg #[.slice a_fv n_fv c_fv, sL a_fi fi c_fi, sL a_fo fo c_fo] := ha 0 (by simp)
 have i1 : f0 1 = iV lv := ha 1 (by simp)
 have i2 : f0 2 = .agg #[iV kd, iV rd_, iV wa_, iV wb_, iV op_, sL a_sl_ sl_ c_sl_, iV fs_, iV sn_] := ha 2 (by simp)
 refine sq (rg (k (bx H2 rfl i0 ?_)))
 intro bb0 w0 xt0 (H3 : HI M w w0 [box bb0 #[.slice a_fv n_fv c_fv, sL a_fi fi c_fi, sL a_fo fo c_fo] 32, iL a_sl_ sl_ c_sl_, iL a_fo fo c_fo, iL a_fi fi c_fi])
 refine k (bx H3 rfl i2 ?_)
 intro bb1 w1 xt1 (H4 : HI M w w1 [box bb1 #[iV kd, iV rd_, iV wa_, iV wb_, iV op_, sL a_sl_ sl_ c_sl_, iV fs_, iV sn_] 25, box bb0 #[.slice a_fv n_fv c_fv, sL a_fi fi c_fi, sL a_fo fo c_fo] 32, iL a_sl_ sl_ c_sl_, iL a_fo fo c_fo, iL a_fi fi c_fi])
 refine k (asg (v := .bool false) rfl rfl (z (nx (sq (sq ?_)))))
 refine drX rfl (by kernel_rfl) ?_
 refine xq rfl (kq (fun _ _ => mv rfl i1 e1) (zq ?_))
 refine xu (fun v w' => ∃ (a0 : OA) (c0 : Nat), v = sL a0 (kindsR lv) c0 ∧ RV (MS M [box bb1 #[iV kd, iV rd_, iV wa_, iV wb_, iV op_, sL a_sl_ sl_ c_sl_, iV fs_, iV sn_] 25, box bb0 #[.slice a_fv n_fv c_fv, sL a_fi fi c_fi, sL a_fo fo c_fo] 32, iL a_sl_ sl_ c_sl_, iL a_fo fo c_fo, iL a_fi fi c_fi]) w' (sL a0 (kindsR lv) c0) (kindsR lv)) rfl (by rintro _ _ _ x_ ⟨a0, c0, e_, rv1⟩; exact ⟨a0, c0, e_, rv1.lift (Up.ext x_)⟩) rfl (fun v_ x_ => ?_) ?_
 ·
  have H7 := H4.ext x_
  have cc1 := ref19_Kinds (lv := lv) (w := v_) H7.mb h_lv
  refine ca go55 rfl (ec rfl e0) cc1 ?_
  rintro _ w3 ⟨a1, c1, rfl, xt3, rv2⟩
  have rv3 := OwnsG.rv rv2 H7.mb
  exact ⟨_, rfl, xt3, ⟨a1, c1, rfl, rv3⟩⟩
 refine xq rfl (kq (fun _ _ => fa fl25_0 rfl rfl e1) (zq (xq rfl (kq (fun _ x_ => lx (H4.ext x_) 0 rfl ty3 rfl rfl rfl e1) (zq ?_)))))
 refine xk1 (X := .bool (hasJ (kindsR lv) kd)) 0 rfl rfl (fun v_ u_ x_ h_ => ?_) ?_
 ·
  have H11 := H4.ext x_
  obtain ⟨a3, c3, s0, rv5⟩ := h_
  have H12 := H11.put (it := iL a3 (kindsR lv) c3) rfl rv5
  have cc := ref20_has (l := (kindsR lv)) (n1 := kd) (w := v_) H12.mb (H12.rv 0 rfl) h_kd
  exact ca go54 rfl (ec s0 (ec rfl e0)) cc fun _ _ h_ => e2 h_
 refine xq rfl (kq (fun _ _ => not_ rfl rfl e1) (zq (xq rfl (kq (fun _ _ => mv (v := .bool (!(hasJ (kindsR lv) kd))) rfl rfl e1) (zq ?_)))))
 rcases bE (!(hasJ (kindsR lv) kd)) with b0 | b0
 ·
  refine xq rfl (qn rfl rfl rfl b0 (zq (xq rfl (qn rfl rfl rfl b0 (zq (xq rfl (qn rfl rfl rfl b0 (zq (xq rfl (kq (fun _ _ => pickT rfl rfl rfl rfl b0 rfl e1) (zq (xq rfl (kq (fun _ _ => mv (v := .bool true) rfl rfl e1) (zq (xq rfl (qn rfl rfl rfl rfl (zq (xq rfl (qn rfl rfl rfl rfl (zq (xq rfl (qn rfl rfl rfl rfl (zq (xq rfl (qn rfl rfl rfl rfl (zq (xq rfl (qn rfl rfl rfl rfl (zq (xq rfl (kq (fun _ _ => pickT rfl rfl rfl rfl rfl rfl e1) (zq (zx ?_)))))))))))))))))))))))))))))))))
  intro w5 f0 xt5 hk0 hu0
  have H13 := H4.ext xt5
  have s3 : f0 25 = .bool true := hk0 25 rfl
  refine nx (cdT rfl s3 rfl (sq (rg (k (asg (v := .bool false) rfl rfl (z (nx (rt (then_ret (r1 rfl rfl ?_))))))))))
  exact ⟨congrArg Value.bool (by simp only [holdsR, keptB, (nott b0), BL]), H13.below⟩
 refine xq rfl (qy rfl rfl rfl b0 (kq (fun _ x_ => ldX (H4.ext x_) 0 rfl ty25 rfl rfl (by decide) rfl e1) (zq (xq rfl (qy rfl rfl rfl b0 ?_)))))
 refine kq (v := .bool (fieldsO kd rd_ wa_ wb_ op_ fs_ sn_)) (fun v_ x_ => ?_) ?_
 ·
  have cc := ref20_fields (kd := kd) (rd_ := rd_) (wa_ := wa_) (wb_ := wb_) (op_ := op_) (fs_ := fs_) (sn_ := sn_) (a_sl_ := a_sl_) (n_sl_ := sl_.length) (c_sl_ := c_sl_) (w := v_) h_kd h_rd_ h_wa_ h_wb_ h_op_ h_fs_ h_sn_ (by have h_ := kinds_rng (notf ‹(!hasJ (kindsR lv) kd) = false›); omega)
  exact ca go56 rfl (ec rfl e0) cc fun _ _ h_ => e2 h_
 refine zq (xq rfl (qy rfl rfl rfl b0 (kq (fun _ _ => not_ rfl rfl e1) (zq (xq rfl (kq (fun _ _ => pickF rfl rfl rfl rfl b0 rfl e1) (zq (xq rfl (kq (fun _ _ => mv (v := .bool (!(fieldsO kd rd_ wa_ wb_ op_ fs_ sn_))) rfl rfl e1) (zq ?_))))))))))
 rcases bE (!(fieldsO kd rd_ wa_ wb_ op_ fs_ sn_)) with b1 | b1
 ·
  refine xq rfl (qn rfl rfl rfl b1 (zq (xq rfl (qn rfl rfl rfl b1 (zq (xq rfl (qn rfl rfl rfl b1 (zq (xq rfl (qn rfl rfl rfl b1 (zq (xq rfl (qn rfl rfl rfl b1 (zq (xq rfl (kq (fun _ _ => pickT rfl rfl rfl rfl b1 rfl e1) (zq (zx ?_))))))))))))))))))
  intro w5 f0 xt5 hk0 hu0
  have H13 := H4.ext xt5
  have s3 : f0 25 = .bool true := hk0 25 rfl
  refine nx (cdT rfl s3 rfl (sq (rg (k (asg (v := .bool false) rfl rfl (z (nx (rt (then_ret (r1 rfl rfl ?_))))))))))
  exact ⟨congrArg Value.bool (by simp only [holdsR, keptB, (notf b0), (nott b1), BL]), H13.below⟩
 refine xq rfl (qy rfl rfl rfl b1 (kq (fun _ x_ => ldX (H4.ext x_) 1 rfl ty32 rfl rfl (by decide) rfl e1) (zq (xq rfl (qy rfl rfl rfl b1 (kq (fun _ _ => fa fl25_5 rfl rfl e1) (zq (xq rfl (qy rfl rfl rfl b1 (kq (fun _ x_ => lx (H4.ext x_) 0 rfl ty23 rfl rfl rfl e1) (zq (xq rfl (qy rfl rfl rfl b1 ?_)))))))))))))
 refine kq (v := .bool (stepsR fi fo sl_)) (fun v_ x_ => ?_) ?_
 ·
  have cc := ref20_Steps (fi := fi) (fo := fo) (l := sl_) (a_fv := a_fv) (n_fv := n_fv) (c_fv := c_fv) (w := v_) (H4.ext x_).mb ((H4.ext x_).rv 4 rfl) ((H4.ext x_).rv 3 rfl) ((H4.ext x_).rv 2 rfl) (by first | exact hn_fi | omega) (by exact hfo)
  exact ca go27 rfl (ec rfl (ec rfl e0)) cc fun _ _ h_ => e2 h_
 refine zq (xq rfl (qy rfl rfl rfl b1 (kq (fun _ _ => not_ rfl rfl e1) (zq (xq rfl (kq (fun _ _ => pickF rfl rfl rfl rfl b1 rfl e1) (zq (zx ?_))))))))
 intro w5 f0 xt5 hk0 hu0
 have H13 := H4.ext xt5
 have s1 : f0 3 = pV bb0 0 := hk0 3 rfl
 have s2 : f0 5 = pV bb1 0 := hk0 5 rfl
 have s3 : f0 25 = .bool (!(stepsR fi fo sl_)) := hk0 25 rfl
 refine nx ?_
 refine cd (b := !(stepsR fi fo sl_)) rfl s3 (fun b2 => ?_) (fun b2 => ?_)
 ·
  refine sq (rg (k (asg (v := .bool false) rfl rfl (z (nx (rt (then_ret (r1 rfl rfl ?_))))))))
  exact ⟨congrArg Value.bool (by simp only [holdsR, keptB, (notf b0), (notf b1), (nott b2), BL]), H13.below⟩
 refine sk (nx (sq (rg (k (fa fl25_5 rfl s2 (k (lx H13 0 rfl ty23 rfl rfl rfl (k (lnS rfl rfl un23 (k (asg (v := iV (sl_.length : Int)) rfl rfl (z (nx (sq (sq (rg (k (fa fl25_0 rfl s2 (k (lx H13 0 rfl ty3 rfl rfl rfl (z (nx (bk (sq (rg (k (eql rfl rfl rfl rfl (k (asg (v := .bool (decide (kd = 1))) rfl rfl (z (nx ?_)))))))))))))))))))))))))))))))
 refine cd (b := decide (kd = 1)) rfl rfl (fun b3 => ?_) (fun b3 => ?_)
 ·
  have p3 := dT b3
  refine sq (rg (k (ldX H13 1 rfl ty32 rfl s1 (by decide) rfl (k (fa fl25_1 rfl s2 (k (lx H13 0 rfl ty3 rfl rfl rfl (k ?_))))))))
  have cc3 := ref20_op (fi := fi) (n1 := rd_) (a_fv := a_fv) (n_fv := n_fv) (c_fv := c_fv) (a_fo := a_fo) (n_fo := fo.length) (c_fo := c_fo) (w := w5) H13.mb (H13.rv 4 rfl) h_rd_
  refine ca go57 rfl (ec rfl (ec rfl e0)) cc3 ?_
  rintro _ w6 ⟨rfl, xt6⟩
  have H14 := H13.ext xt6
  refine k (mv (v := .bool (inO fi rd_)) rfl rfl ?_)
  rcases bE (inO fi rd_) with b4 | b4
  ·
   refine k (gy rfl rfl rfl b4 (fa fl32_2 rfl s1 (k (gy rfl rfl rfl b4 (lx H14 1 rfl ty30 rfl rfl rfl (k (gy rfl rfl rfl b4 (fa fl25_1 rfl s2 (k (gy rfl rfl rfl b4 (lx H14 0 rfl ty3 rfl rfl rfl (k (gy rfl rfl rfl b4 (ia (H14.rv 3 rfl) rfl rfl rfl rfl (by first | omega | (have h_ := inO_rng (fi := fi) (i := rd_) ‹_›; omega) | (have h_ := inO_rng (notf ‹(!inO fi rd_) = false›); first | omega | (have h2_ := inO_rng (notf ‹(!inO fi wa_) = false›); have h3_ := inO_rng (notf ‹(!inO fi wb_) = false›); omega))) un30 ty3 ?_))))))))))))))
   intro ad0 x0 hx0 hA0
   refine k (gy rfl rfl rfl b4 (ldI hA0.w ty3 rfl rfl ?_))
   intro rv6
   refine k (gy rfl rfl rfl b4 (eql rfl rfl rfl rfl (k (pickT rfl rfl rfl rfl b4 rfl (k (mv (v := .bool (decide (x0 = (-2)))) rfl rfl ?_))))))
   rcases bE (decide (x0 = (-2))) with b5 | b5
   ·
    have p5 := dT b5
    refine k (gy rfl rfl rfl b5 (mv (v := iV (sl_.length : Int)) rfl rfl (k (gy rfl rfl rfl b5 (eql rfl rfl rfl rfl (k (pickT rfl rfl rfl rfl b5 rfl (k (asg (v := .bool (decide ((sl_.length : Int) = 0))) rfl rfl (z (nx (rt (inb_ret (then_ret (r1 rfl rfl ?_)))))))))))))))
    exact ⟨congrArg Value.bool (by simp only [holdsR, keptB, hx0, (notf b0), (notf b1), (notf b2), b3, b4, b5, BL]), H14.below⟩
   have p5 := dF b5
   refine k (gn rfl rfl rfl b5 (k (gn rfl rfl rfl b5 (k (pickF rfl rfl rfl rfl b5 rfl (k (asg (v := .bool false) rfl rfl (z (nx (rt (inb_ret (then_ret (r1 rfl rfl ?_)))))))))))))
   exact ⟨congrArg Value.bool (by simp only [holdsR, keptB, hx0, (notf b0), (notf b1), (notf b2), b3, b4, b5, BL]), H14.below⟩
  refine k (gn rfl rfl rfl b4 (k (gn rfl rfl rfl b4 (k (gn rfl rfl rfl b4 (k (gn rfl rfl rfl b4 (k (gn rfl rfl rfl b4 (k (gn rfl rfl rfl b4 (k (gn rfl rfl rfl b4 (k (pickF rfl rfl rfl rfl b4 rfl (k (mv (v := .bool false) rfl rfl (k (gn rfl rfl rfl rfl (k (gn rfl rfl rfl rfl (k (pickF rfl rfl rfl rfl rfl rfl (k (asg (v := .bool false) rfl rfl (z (nx (rt (inb_ret (then_ret (r1 rfl rfl ?_)))))))))))))))))))))))))))))))
  exact ⟨congrArg Value.bool (by simp only [holdsR, keptB, (notf b0), (notf b1), (notf b2), b3, b4, BL]), H14.below⟩
 have p3 := dF b3
 refine sq (rg (k (eql rfl rfl rfl rfl (k (asg (v := .bool (decide (kd = 2))) rfl rfl (z (nx ?_)))))))
 refine cd (b := decide (kd = 2)) rfl rfl (fun b4 => ?_) (fun b4 => ?_)
 ·
  have p4 := dT b4
  refine sq (rg (k (ldX H13 1 rfl ty32 rfl s1 (by decide) rfl (k (fa fl25_4 rfl s2 (k (lx H13 0 rfl ty3 rfl rfl rfl (k ?_))))))))
  have cc3 := ref20_op (fi := fi) (n1 := op_) (a_fv := a_fv) (n_fv := n_fv) (c_fv := c_fv) (a_fo := a_fo) (n_fo := fo.length) (c_fo := c_fo) (w := w5) H13.mb (H13.rv 4 rfl) h_op_
  refine ca go57 rfl (ec rfl (ec rfl e0)) cc3 ?_
  rintro _ w6 ⟨rfl, xt6⟩
  have H14 := H13.ext xt6
  refine k (mv (v := .bool (inO fi op_)) rfl rfl ?_)
  rcases bE (inO fi op_) with b5 | b5
  ·
   refine k (gy rfl rfl rfl b5 (ldX H14 0 rfl ty25 rfl s2 (by decide) rfl (k (gy rfl rfl rfl b5 ?_))))
   have cc4 := ref20_bare (kd := kd) (rd_ := rd_) (wa_ := wa_) (wb_ := wb_) (op_ := op_) (sl_ := sl_) (fs_ := fs_) (sn_ := sn_) (ru := false) (w := w6) H14.mb h_kd h_rd_ h_wa_ h_wb_ h_op_ (H14.rv 2 rfl) h_fs_ h_sn_ (by exact steps3 ho (by rw [← stepsR_eq ho]; exact notf ‹(!stepsR fi fo sl_) = false›)) (by exact steps4 (by rw [← stepsR_eq ho]; exact notf ‹(!stepsR fi fo sl_) = false›)) (by exact hst)
   refine ca go58 rfl (ec rfl (ec rfl e0)) cc4 ?_
   rintro _ w7 ⟨rfl, xt7⟩
   have H15 := H14.ext xt7
   refine k (pickT rfl rfl rfl rfl b5 rfl (k (mv (v := .bool (bareR sl_ false)) rfl rfl ?_)))
   rcases bE (bareR sl_ false) with b6 | b6
   ·
    refine k (gy rfl rfl rfl b6 (fa fl25_5 rfl s2 (k (gy rfl rfl rfl b6 (lx H15 0 rfl ty23 rfl rfl rfl (k (gy rfl rfl rfl b6 (fa fl25_6 rfl s2 (k (gy rfl rfl rfl b6 (lx H15 0 rfl ty3 rfl rfl rfl (k (gy rfl rfl rfl b6 (mv (v := iV (sl_.length : Int)) rfl rfl (k (gy rfl rfl rfl b6 (fa fl25_4 rfl s2 (k (gy rfl rfl rfl b6 (lx H15 0 rfl ty3 rfl rfl rfl (k (gy rfl rfl rfl b6 (fa fl25_4 rfl s2 (k (gy rfl rfl rfl b6 (lx H15 0 rfl ty3 rfl rfl rfl (k (gy rfl rfl rfl b6 ?_))))))))))))))))))))))))))))
    have cc5 := ref20_says (l := sl_) (k1 := fs_) (bf := (sl_.length : Int)) (n1 := op_) (n2 := op_) (w := w7) H15.mb (H15.rv 2 rfl) h_fs_ (by first | assumption | (unfold I64 at *; omega)) h_op_ h_op_
    refine ca go59 rfl (ec rfl (ec rfl (ec rfl (ec rfl (ec rfl e0))))) cc5 ?_
    rintro _ w8 ⟨rfl, xt8⟩
    have H16 := H15.ext xt8
    refine k (pickT rfl rfl rfl rfl b6 rfl (k (asg (v := .bool (sayB sl_ fs_ (sl_.length : Int) op_ op_)) rfl rfl (z (nx (rt (inb_ret (then_ret (r1 rfl rfl ?_)))))))))
    exact ⟨congrArg Value.bool (by simp only [holdsR, keptB, (notf b0), (notf b1), (notf b2), b3, b4, b5, b6, BL]), H16.below⟩
   refine k (gn rfl rfl rfl b6 (k (gn rfl rfl rfl b6 (k (gn rfl rfl rfl b6 (k (gn rfl rfl rfl b6 (k (gn rfl rfl rfl b6 (k (gn rfl rfl rfl b6 (k (gn rfl rfl rfl b6 (k (gn rfl rfl rfl b6 (k (gn rfl rfl rfl b6 (k (gn rfl rfl rfl b6 (k (pickF rfl rfl rfl rfl b6 rfl (k (asg (v := .bool false) rfl rfl (z (nx (rt (inb_ret (then_ret (r1 rfl rfl ?_)))))))))))))))))))))))))))))
   exact ⟨congrArg Value.bool (by simp only [holdsR, keptB, (notf b0), (notf b1), (notf b2), b3, b4, b5, b6, BL]), H15.below⟩
  refine k (gn rfl rfl rfl b5 (k (gn rfl rfl rfl b5 (k (pickF rfl rfl rfl rfl b5 rfl (k (mv (v := .bool false) rfl rfl (k (gn rfl rfl rfl rfl (k (gn rfl rfl rfl rfl (k (gn rfl rfl rfl rfl (k (gn rfl rfl rfl rfl (k (gn rfl rfl rfl rfl (k (gn rfl rfl rfl rfl (k (gn rfl rfl rfl rfl (k (gn rfl rfl rfl rfl (k (gn rfl rfl rfl rfl (k (gn rfl rfl rfl rfl (k (pickF rfl rfl rfl rfl rfl rfl (k (asg (v := .bool false) rfl rfl (z (nx (rt (inb_ret (then_ret (r1 rfl rfl ?_)))))))))))))))))))))))))))))))))))))
  exact ⟨congrArg Value.bool (by simp only [holdsR, keptB, (notf b0), (notf b1), (notf b2), b3, b4, b5, BL]), H14.below⟩
 have p4 := dF b4
 refine sq (rg (k (eql rfl rfl rfl rfl (k (asg (v := .bool (decide (kd = 3))) rfl rfl (z (nx ?_)))))))
 refine cd (b := decide (kd = 3)) rfl rfl (fun b5 => ?_) (fun b5 => ?_)
 ·
  have p5 := dT b5
  refine sq (rg (k (ldX H13 1 rfl ty32 rfl s1 (by decide) rfl (k (ldX H13 0 rfl ty25 rfl s2 (by decide) rfl (k ?_))))))
  have cc3 := ref20_early (fi := fi) (fo := fo) (kd := kd) (rd_ := rd_) (wa_ := wa_) (wb_ := wb_) (op_ := op_) (fs_ := fs_) (sn_ := sn_) (a_fv := a_fv) (n_fv := n_fv) (c_fv := c_fv) (a_sl_ := a_sl_) (n_sl_ := sl_.length) (c_sl_ := c_sl_) (w := w5) H13.mb (H13.rv 4 rfl) (H13.rv 3 rfl) h_kd h_rd_ h_wa_ h_wb_ h_op_ h_fs_ h_sn_ (by exact hfo)
  refine ca go60 rfl (ec rfl (ec rfl e0)) cc3 ?_
  rintro _ w6 ⟨rfl, xt6⟩
  have H14 := H13.ext xt6
  refine k (mv (v := .bool (earlyR fi fo rd_ wa_)) rfl rfl ?_)
  rcases bE (earlyR fi fo rd_ wa_) with b6 | b6
  ·
   refine k (gy rfl rfl rfl b6 (ldX H14 0 rfl ty25 rfl s2 (by decide) rfl (k (gy rfl rfl rfl b6 ?_))))
   have cc4 := ref20_bare (kd := kd) (rd_ := rd_) (wa_ := wa_) (wb_ := wb_) (op_ := op_) (sl_ := sl_) (fs_ := fs_) (sn_ := sn_) (ru := false) (w := w6) H14.mb h_kd h_rd_ h_wa_ h_wb_ h_op_ (H14.rv 2 rfl) h_fs_ h_sn_ (by exact steps3 ho (by rw [← stepsR_eq ho]; exact notf ‹(!stepsR fi fo sl_) = false›)) (by exact steps4 (by rw [← stepsR_eq ho]; exact notf ‹(!stepsR fi fo sl_) = false›)) (by exact hst)
   refine ca go58 rfl (ec rfl (ec rfl e0)) cc4 ?_
   rintro _ w7 ⟨rfl, xt7⟩
   have H15 := H14.ext xt7
   refine k (pickT rfl rfl rfl rfl b6 rfl (k (mv (v := .bool (bareR sl_ false)) rfl rfl ?_)))
   rcases bE (bareR sl_ false) with b7 | b7
   ·
    refine k (gy rfl rfl rfl b7 (fa fl25_5 rfl s2 (k (gy rfl rfl rfl b7 (lx H15 0 rfl ty23 rfl rfl rfl (k (gy rfl rfl rfl b7 (fa fl25_6 rfl s2 (k (gy rfl rfl rfl b7 (lx H15 0 rfl ty3 rfl rfl rfl (k (gy rfl rfl rfl b7 (mv (v := iV (sl_.length : Int)) rfl rfl (k (gy rfl rfl rfl b7 (fa fl25_2 rfl s2 (k (gy rfl rfl rfl b7 (lx H15 0 rfl ty3 rfl rfl rfl (k (gy rfl rfl rfl b7 (fa fl25_1 rfl s2 (k (gy rfl rfl rfl b7 (lx H15 0 rfl ty3 rfl rfl rfl (k (gy rfl rfl rfl b7 ?_))))))))))))))))))))))))))))
    have cc5 := ref20_says (l := sl_) (k1 := fs_) (bf := (sl_.length : Int)) (n1 := wa_) (n2 := rd_) (w := w7) H15.mb (H15.rv 2 rfl) h_fs_ (by first | assumption | (unfold I64 at *; omega)) h_wa_ h_rd_
    refine ca go59 rfl (ec rfl (ec rfl (ec rfl (ec rfl (ec rfl e0))))) cc5 ?_
    rintro _ w8 ⟨rfl, xt8⟩
    have H16 := H15.ext xt8
    refine k (pickT rfl rfl rfl rfl b7 rfl (k (asg (v := .bool (sayB sl_ fs_ (sl_.length : Int) wa_ rd_)) rfl rfl (z (nx (rt (inb_ret (then_ret (r1 rfl rfl ?_)))))))))
    exact ⟨congrArg Value.bool (by simp only [holdsR, keptB, (notf b0), (notf b1), (notf b2), b3, b4, b5, b6, b7, BL]), H16.below⟩
   refine k (gn rfl rfl rfl b7 (k (gn rfl rfl rfl b7 (k (gn rfl rfl rfl b7 (k (gn rfl rfl rfl b7 (k (gn rfl rfl rfl b7 (k (gn rfl rfl rfl b7 (k (gn rfl rfl rfl b7 (k (gn rfl rfl rfl b7 (k (gn rfl rfl rfl b7 (k (gn rfl rfl rfl b7 (k (pickF rfl rfl rfl rfl b7 rfl (k (asg (v := .bool false) rfl rfl (z (nx (rt (inb_ret (then_ret (r1 rfl rfl ?_)))))))))))))))))))))))))))))
   exact ⟨congrArg Value.bool (by simp only [holdsR, keptB, (notf b0), (notf b1), (notf b2), b3, b4, b5, b6, b7, BL]), H15.below⟩
  refine k (gn rfl rfl rfl b6 (k (gn rfl rfl rfl b6 (k (pickF rfl rfl rfl rfl b6 rfl (k (mv (v := .bool false) rfl rfl (k (gn rfl rfl rfl rfl (k (gn rfl rfl rfl rfl (k (gn rfl rfl rfl rfl (k (gn rfl rfl rfl rfl (k (gn rfl rfl rfl rfl (k (gn rfl rfl rfl rfl (k (gn rfl rfl rfl rfl (k (gn rfl rfl rfl rfl (k (gn rfl rfl rfl rfl (k (gn rfl rfl rfl rfl (k (pickF rfl rfl rfl rfl rfl rfl (k (asg (v := .bool false) rfl rfl (z (nx (rt (inb_ret (then_ret (r1 rfl rfl ?_)))))))))))))))))))))))))))))))))))))
  exact ⟨congrArg Value.bool (by simp only [holdsR, keptB, (notf b0), (notf b1), (notf b2), b3, b4, b5, b6, BL]), H14.below⟩
 have p5 := dF b5
 refine sq (rg (k (eql rfl rfl rfl rfl (k (asg (v := .bool (decide (kd = 4))) rfl rfl (z (nx ?_)))))))
 refine cd (b := decide (kd = 4)) rfl rfl (fun b6 => ?_) (fun b6 => ?_)
 ·
  have p6 := dT b6
  refine sq (sq ?_)
  refine drS rfl (by kernel_rfl) ?_
  refine kq (fun _ x_ => ldX (H13.ext x_) 1 rfl ty32 rfl s1 (by decide) rfl e1) (kq (fun _ _ => fa fl25_1 rfl s2 e1) (kq (fun _ x_ => lx (H13.ext x_) 0 rfl ty3 rfl rfl rfl e1) ?_))
  refine kq (v := .bool (inO fi rd_)) (fun v_ x_ => ?_) ?_
  ·
   have cc := ref20_op (fi := fi) (n1 := rd_) (a_fv := a_fv) (n_fv := n_fv) (c_fv := c_fv) (a_fo := a_fo) (n_fo := fo.length) (c_fo := c_fo) (w := v_) (H13.ext x_).mb ((H13.ext x_).rv 4 rfl) h_rd_
   exact ca go57 rfl (ec rfl (ec rfl e0)) cc fun _ _ h_ => e2 h_
  refine kq (fun _ _ => not_ rfl rfl e1) (kq (fun _ _ => mv (v := .bool (!(inO fi rd_))) rfl rfl e1) ?_)
  rcases bE (!(inO fi rd_)) with b7 | b7
  ·
   refine qn rfl rfl rfl b7 (qn rfl rfl rfl b7 (qn rfl rfl rfl b7 (qn rfl rfl rfl b7 (qn rfl rfl rfl b7 (kq (fun _ _ => pickT rfl rfl rfl rfl b7 rfl e1) (kq (fun _ _ => mv (v := .bool true) rfl rfl e1) (qn rfl rfl rfl rfl (qn rfl rfl rfl rfl (qn rfl rfl rfl rfl (qn rfl rfl rfl rfl (qn rfl rfl rfl rfl (kq (fun _ _ => pickT rfl rfl rfl rfl rfl rfl e1) (kq (fun _ _ => mv (v := .bool true) rfl rfl e1) (qn rfl rfl rfl rfl (qn rfl rfl rfl rfl (qn rfl rfl rfl rfl (qn rfl rfl rfl rfl (qn rfl rfl rfl rfl (qn rfl rfl rfl rfl (qn rfl rfl rfl rfl (qn rfl rfl rfl rfl (qn rfl rfl rfl rfl (kq (fun _ _ => pickT rfl rfl rfl rfl rfl rfl e1) (kq (fun _ _ => mv (v := .bool true) rfl rfl e1) (qn rfl rfl rfl rfl (qn rfl rfl rfl rfl (qn rfl rfl rfl rfl (qn rfl rfl rfl rfl (qn rfl rfl rfl rfl (qn rfl rfl rfl rfl (qn rfl rfl rfl rfl (kq (fun _ _ => pickT rfl rfl rfl rfl rfl rfl e1) (zq ?_)))))))))))))))))))))))))))))))))
   intro w6 xt6
   have H14 := H13.ext xt6
   refine nx (cdT rfl rfl rfl (sq (rg (k (asg (v := .bool false) rfl rfl (z (nx (rt (then_ret (inb_ret (then_ret (r1 rfl rfl ?_))))))))))))
   exact ⟨congrArg Value.bool (by simp only [holdsR, keptB, (notf b0), (notf b1), (notf b2), b3, b4, b5, b6, (nott b7), BL]), H14.below⟩
  refine qy rfl rfl rfl b7 (kq (fun _ x_ => ldX (H13.ext x_) 1 rfl ty32 rfl s1 (by decide) rfl e1) (qy rfl rfl rfl b7 (kq (fun _ _ => fa fl25_2 rfl s2 e1) (qy rfl rfl rfl b7 (kq (fun _ x_ => lx (H13.ext x_) 0 rfl ty3 rfl rfl rfl e1) (qy rfl rfl rfl b7 ?_))))))
  refine kq (v := .bool (inO fi wa_)) (fun v_ x_ => ?_) ?_
  ·
   have cc := ref20_op (fi := fi) (n1 := wa_) (a_fv := a_fv) (n_fv := n_fv) (c_fv := c_fv) (a_fo := a_fo) (n_fo := fo.length) (c_fo := c_fo) (w := v_) (H13.ext x_).mb ((H13.ext x_).rv 4 rfl) h_wa_
   exact ca go57 rfl (ec rfl (ec rfl e0)) cc fun _ _ h_ => e2 h_
  refine qy rfl rfl rfl b7 (kq (fun _ _ => not_ rfl rfl e1) (kq (fun _ _ => pickF rfl rfl rfl rfl b7 rfl e1) (kq (fun _ _ => mv (v := .bool (!(inO fi wa_))) rfl rfl e1) ?_)))
  rcases bE (!(inO fi wa_)) with b8 | b8
  ·
   refine qn rfl rfl rfl b8 (qn rfl rfl rfl b8 (qn rfl rfl rfl b8 (qn rfl rfl rfl b8 (qn rfl rfl rfl b8 (kq (fun _ _ => pickT rfl rfl rfl rfl b8 rfl e1) (kq (fun _ _ => mv (v := .bool true) rfl rfl e1) (qn rfl rfl rfl rfl (qn rfl rfl rfl rfl (qn rfl rfl rfl rfl (qn rfl rfl rfl rfl (qn rfl rfl rfl rfl (qn rfl rfl rfl rfl (qn rfl rfl rfl rfl (qn rfl rfl rfl rfl (qn rfl rfl rfl rfl (kq (fun _ _ => pickT rfl rfl rfl rfl rfl rfl e1) (kq (fun _ _ => mv (v := .bool true) rfl rfl e1) (qn rfl rfl rfl rfl (qn rfl rfl rfl rfl (qn rfl rfl rfl rfl (qn rfl rfl rfl rfl (qn rfl rfl rfl rfl (qn rfl rfl rfl rfl (qn rfl rfl rfl rfl (kq (fun _ _ => pickT rfl rfl rfl rfl rfl rfl e1) (zq ?_))))))))))))))))))))))))))
   intro w6 xt6
   have H14 := H13.ext xt6
   refine nx (cdT rfl rfl rfl (sq (rg (k (asg (v := .bool false) rfl rfl (z (nx (rt (then_ret (inb_ret (then_ret (r1 rfl rfl ?_))))))))))))
   exact ⟨congrArg Value.bool (by simp only [holdsR, keptB, (notf b0), (notf b1), (notf b2), b3, b4, b5, b6, (notf b7), (nott b8), BL]), H14.below⟩
  refine qy rfl rfl rfl b8 (kq (fun _ x_ => ldX (H13.ext x_) 1 rfl ty32 rfl s1 (by decide) rfl e1) (qy rfl rfl rfl b8 (kq (fun _ _ => fa fl25_3 rfl s2 e1) (qy rfl rfl rfl b8 (kq (fun _ x_ => lx (H13.ext x_) 0 rfl ty3 rfl rfl rfl e1) (qy rfl rfl rfl b8 ?_))))))
  refine kq (v := .bool (inO fi wb_)) (fun v_ x_ => ?_) ?_
  ·
   have cc := ref20_op (fi := fi) (n1 := wb_) (a_fv := a_fv) (n_fv := n_fv) (c_fv := c_fv) (a_fo := a_fo) (n_fo := fo.length) (c_fo := c_fo) (w := v_) (H13.ext x_).mb ((H13.ext x_).rv 4 rfl) h_wb_
   exact ca go57 rfl (ec rfl (ec rfl e0)) cc fun _ _ h_ => e2 h_
  refine qy rfl rfl rfl b8 (kq (fun _ _ => not_ rfl rfl e1) (kq (fun _ _ => pickF rfl rfl rfl rfl b8 rfl e1) (kq (fun _ _ => mv (v := .bool (!(inO fi wb_))) rfl rfl e1) ?_)))
  rcases bE (!(inO fi wb_)) with b9 | b9
  ·
   refine qn rfl rfl rfl b9 (qn rfl rfl rfl b9 (qn rfl rfl rfl b9 (qn rfl rfl rfl b9 (qn rfl rfl rfl b9 (qn rfl rfl rfl b9 (qn rfl rfl rfl b9 (qn rfl rfl rfl b9 (qn rfl rfl rfl b9 (kq (fun _ _ => pickT rfl rfl rfl rfl b9 rfl e1) (kq (fun _ _ => mv (v := .bool true) rfl rfl e1) (qn rfl rfl rfl rfl (qn rfl rfl rfl rfl (qn rfl rfl rfl rfl (qn rfl rfl rfl rfl (qn rfl rfl rfl rfl (qn rfl rfl rfl rfl (qn rfl rfl rfl rfl (kq (fun _ _ => pickT rfl rfl rfl rfl rfl rfl e1) (zq ?_)))))))))))))))))))
   intro w6 xt6
   have H14 := H13.ext xt6
   refine nx (cdT rfl rfl rfl (sq (rg (k (asg (v := .bool false) rfl rfl (z (nx (rt (then_ret (inb_ret (then_ret (r1 rfl rfl ?_))))))))))))
   exact ⟨congrArg Value.bool (by simp only [holdsR, keptB, (notf b0), (notf b1), (notf b2), b3, b4, b5, b6, (notf b7), (notf b8), (nott b9), BL]), H14.below⟩
  refine qy rfl rfl rfl b9 (kq (fun _ _ => fa fl32_2 rfl s1 e1) (qy rfl rfl rfl b9 (kq (fun _ x_ => lx (H13.ext x_) 1 rfl ty30 rfl rfl rfl e1) (qy rfl rfl rfl b9 (kq (fun _ _ => fa fl25_1 rfl s2 e1) (qy rfl rfl rfl b9 (kq (fun _ x_ => lx (H13.ext x_) 0 rfl ty3 rfl rfl rfl e1) (qy rfl rfl rfl b9 (q_ia (H13.rv 3 rfl) rfl rfl rfl rfl (by first | omega | (have h_ := inO_rng (fi := fi) (i := rd_) ‹_›; omega) | (have h_ := inO_rng (notf ‹(!inO fi rd_) = false›); first | omega | (have h2_ := inO_rng (notf ‹(!inO fi wa_) = false›); have h3_ := inO_rng (notf ‹(!inO fi wb_) = false›); omega))) un30 ty3 ?_)))))))))
  intro ad0 x0 hx0 hA0
  refine qy rfl rfl rfl b9 (q_ldI hA0.w ty3 rfl rfl ?_)
  intro rv6
  refine qy rfl rfl rfl b9 (kq (fun _ _ => fa fl25_2 rfl s2 e1) (qy rfl rfl rfl b9 (kq (fun _ x_ => lx (H13.ext x_) 0 rfl ty3 rfl rfl rfl e1) (qy rfl rfl rfl b9 (kq (fun _ _ => neq rfl rfl rfl rfl e1) (kq (fun _ _ => pickF rfl rfl rfl rfl b9 rfl e1) (kq (fun _ _ => mv (v := .bool (!decide (x0 = wa_))) rfl rfl e1) ?_)))))))
  rcases bE (!decide (x0 = wa_)) with b10 | b10
  ·
   have p10 := dF (nott b10)
   refine qn rfl rfl rfl b10 (qn rfl rfl rfl b10 (qn rfl rfl rfl b10 (qn rfl rfl rfl b10 (qn rfl rfl rfl b10 (qn rfl rfl rfl b10 (qn rfl rfl rfl b10 (kq (fun _ _ => pickT rfl rfl rfl rfl b10 rfl e1) (zq ?_))))))))
   intro w6 xt6
   have H14 := H13.ext xt6
   refine nx (cdT rfl rfl rfl (sq (rg (k (asg (v := .bool false) rfl rfl (z (nx (rt (then_ret (inb_ret (then_ret (r1 rfl rfl ?_))))))))))))
   exact ⟨congrArg Value.bool (by simp only [holdsR, keptB, hx0, (notf b0), (notf b1), (notf b2), b3, b4, b5, b6, (notf b7), (notf b8), (notf b9), (nott b10), BL]), H14.below⟩
  have p10 := dT (notf b10)
  refine qy rfl rfl rfl b10 (kq (fun _ x_ => ldX (H13.ext x_) 1 rfl ty32 rfl s1 (by decide) rfl e1) (qy rfl rfl rfl b10 (kq (fun _ _ => fa fl25_3 rfl s2 e1) (qy rfl rfl rfl b10 (kq (fun _ x_ => lx (H13.ext x_) 0 rfl ty3 rfl rfl rfl e1) (qy rfl rfl rfl b10 (kq (fun _ _ => fa fl25_2 rfl s2 e1) (qy rfl rfl rfl b10 (kq (fun _ x_ => lx (H13.ext x_) 0 rfl ty3 rfl rfl rfl e1) (qy rfl rfl rfl b10 ?_))))))))))
  refine kq (v := .bool (otherO fi wb_ wa_)) (fun v_ x_ => ?_) ?_
  ·
   have cc := ref20_other (fi := fi) (n1 := wb_) (n2 := wa_) (a_fv := a_fv) (n_fv := n_fv) (c_fv := c_fv) (a_fo := a_fo) (n_fo := fo.length) (c_fo := c_fo) (w := v_) (H13.ext x_).mb ((H13.ext x_).rv 4 rfl) h_wb_ h_wa_ (by first | omega | (have h_ := inO_rng (fi := fi) (i := rd_) ‹_›; omega) | (have h_ := inO_rng (notf ‹(!inO fi rd_) = false›); first | omega | (have h2_ := inO_rng (notf ‹(!inO fi wa_) = false›); have h3_ := inO_rng (notf ‹(!inO fi wb_) = false›); omega))) (by first | omega | (have h_ := inO_rng (fi := fi) (i := rd_) ‹_›; omega) | (have h_ := inO_rng (notf ‹(!inO fi rd_) = false›); first | omega | (have h2_ := inO_rng (notf ‹(!inO fi wa_) = false›); have h3_ := inO_rng (notf ‹(!inO fi wb_) = false›); omega)))
   exact ca go61 rfl (ec rfl (ec rfl (ec rfl e0))) cc fun _ _ h_ => e2 h_
  refine qy rfl rfl rfl b10 (kq (fun _ _ => not_ rfl rfl e1) (kq (fun _ _ => pickF rfl rfl rfl rfl b10 rfl e1) (zq ?_)))
  intro w6 xt6
  have H14 := H13.ext xt6
  refine nx ?_
  refine cd (b := !(otherO fi wb_ wa_)) rfl rfl (fun b11 => ?_) (fun b11 => ?_)
  ·
   refine sq (rg (k (asg (v := .bool false) rfl rfl (z (nx (rt (then_ret (inb_ret (then_ret (r1 rfl rfl ?_))))))))))
   exact ⟨congrArg Value.bool (by simp only [holdsR, keptB, hx0, (notf b0), (notf b1), (notf b2), b3, b4, b5, b6, (notf b7), (notf b8), (notf b9), (notf b10), (nott b11), BL]), H14.below⟩
  refine sk (nx (sq (rg (k (ldX H14 0 rfl ty25 rfl s2 (by decide) rfl (k ?_))))))
  have cc3 := ref20_bare (kd := kd) (rd_ := rd_) (wa_ := wa_) (wb_ := wb_) (op_ := op_) (sl_ := sl_) (fs_ := fs_) (sn_ := sn_) (ru := false) (w := w6) H14.mb h_kd h_rd_ h_wa_ h_wb_ h_op_ (H14.rv 2 rfl) h_fs_ h_sn_ (by exact steps3 ho (by rw [← stepsR_eq ho]; exact notf ‹(!stepsR fi fo sl_) = false›)) (by exact steps4 (by rw [← stepsR_eq ho]; exact notf ‹(!stepsR fi fo sl_) = false›)) (by exact hst)
  refine ca go58 rfl (ec rfl (ec rfl e0)) cc3 ?_
  rintro _ w7 ⟨rfl, xt7⟩
  have H15 := H14.ext xt7
  refine k (mv (v := .bool (bareR sl_ false)) rfl rfl ?_)
  rcases bE (bareR sl_ false) with b12 | b12
  ·
   refine k (gy rfl rfl rfl b12 (fa fl25_5 rfl s2 (k (gy rfl rfl rfl b12 (lx H15 0 rfl ty23 rfl rfl rfl (k (gy rfl rfl rfl b12 (fa fl25_6 rfl s2 (k (gy rfl rfl rfl b12 (lx H15 0 rfl ty3 rfl rfl rfl (k (gy rfl rfl rfl b12 (mv (v := iV (sl_.length : Int)) rfl rfl (k (gy rfl rfl rfl b12 (fa fl25_2 rfl s2 (k (gy rfl rfl rfl b12 (lx H15 0 rfl ty3 rfl rfl rfl (k (gy rfl rfl rfl b12 (fa fl25_3 rfl s2 (k (gy rfl rfl rfl b12 (lx H15 0 rfl ty3 rfl rfl rfl (k (gy rfl rfl rfl b12 ?_))))))))))))))))))))))))))))
   have cc4 := ref20_says (l := sl_) (k1 := fs_) (bf := (sl_.length : Int)) (n1 := wa_) (n2 := wb_) (w := w7) H15.mb (H15.rv 2 rfl) h_fs_ (by first | assumption | (unfold I64 at *; omega)) h_wa_ h_wb_
   refine ca go59 rfl (ec rfl (ec rfl (ec rfl (ec rfl (ec rfl e0))))) cc4 ?_
   rintro _ w8 ⟨rfl, xt8⟩
   have H16 := H15.ext xt8
   refine k (pickT rfl rfl rfl rfl b12 rfl (k (mv (v := .bool (sayB sl_ fs_ (sl_.length : Int) wa_ wb_)) rfl rfl ?_)))
   rcases bE (sayB sl_ fs_ (sl_.length : Int) wa_ wb_) with b13 | b13
   ·
    refine k (gy rfl rfl rfl b13 (fa fl25_5 rfl s2 (k (gy rfl rfl rfl b13 (lx H16 0 rfl ty23 rfl rfl rfl (k (gy rfl rfl rfl b13 (fa fl25_7 rfl s2 (k (gy rfl rfl rfl b13 (lx H16 0 rfl ty3 rfl rfl rfl (k (gy rfl rfl rfl b13 (mv (v := iV (sl_.length : Int)) rfl rfl (k (gy rfl rfl rfl b13 (fa fl25_3 rfl s2 (k (gy rfl rfl rfl b13 (lx H16 0 rfl ty3 rfl rfl rfl (k (gy rfl rfl rfl b13 (fa fl25_1 rfl s2 (k (gy rfl rfl rfl b13 (lx H16 0 rfl ty3 rfl rfl rfl (k (gy rfl rfl rfl b13 ?_))))))))))))))))))))))))))))
    have cc5 := ref20_says (l := sl_) (k1 := sn_) (bf := (sl_.length : Int)) (n1 := wb_) (n2 := rd_) (w := w8) H16.mb (H16.rv 2 rfl) h_sn_ (by first | assumption | (unfold I64 at *; omega)) h_wb_ h_rd_
    refine ca go59 rfl (ec rfl (ec rfl (ec rfl (ec rfl (ec rfl e0))))) cc5 ?_
    rintro _ w9 ⟨rfl, xt9⟩
    have H17 := H16.ext xt9
    refine k (pickT rfl rfl rfl rfl b13 rfl (k (asg (v := .bool (sayB sl_ sn_ (sl_.length : Int) wb_ rd_)) rfl rfl (z (nx (rt (inb_ret (then_ret (r1 rfl rfl ?_)))))))))
    exact ⟨congrArg Value.bool (by simp only [holdsR, keptB, hx0, (notf b0), (notf b1), (notf b2), b3, b4, b5, b6, (notf b7), (notf b8), (notf b9), (notf b10), (notf b11), b12, b13, BL]), H17.below⟩
   refine k (gn rfl rfl rfl b13 (k (gn rfl rfl rfl b13 (k (gn rfl rfl rfl b13 (k (gn rfl rfl rfl b13 (k (gn rfl rfl rfl b13 (k (gn rfl rfl rfl b13 (k (gn rfl rfl rfl b13 (k (gn rfl rfl rfl b13 (k (gn rfl rfl rfl b13 (k (gn rfl rfl rfl b13 (k (pickF rfl rfl rfl rfl b13 rfl (k (asg (v := .bool false) rfl rfl (z (nx (rt (inb_ret (then_ret (r1 rfl rfl ?_)))))))))))))))))))))))))))))
   exact ⟨congrArg Value.bool (by simp only [holdsR, keptB, hx0, (notf b0), (notf b1), (notf b2), b3, b4, b5, b6, (notf b7), (notf b8), (notf b9), (notf b10), (notf b11), b12, b13, BL]), H16.below⟩
  refine k (gn rfl rfl rfl b12 (k (gn rfl rfl rfl b12 (k (gn rfl rfl rfl b12 (k (gn rfl rfl rfl b12 (k (gn rfl rfl rfl b12 (k (gn rfl rfl rfl b12 (k (gn rfl rfl rfl b12 (k (gn rfl rfl rfl b12 (k (gn rfl rfl rfl b12 (k (gn rfl rfl rfl b12 (k (pickF rfl rfl rfl rfl b12 rfl (k (mv (v := .bool false) rfl rfl (k (gn rfl rfl rfl rfl (k (gn rfl rfl rfl rfl (k (gn rfl rfl rfl rfl (k (gn rfl rfl rfl rfl (k (gn rfl rfl rfl rfl (k (gn rfl rfl rfl rfl (k (gn rfl rfl rfl rfl (k (gn rfl rfl rfl rfl (k (gn rfl rfl rfl rfl (k (gn rfl rfl rfl rfl (k (pickF rfl rfl rfl rfl rfl rfl (k (asg (v := .bool false) rfl rfl (z (nx (rt (inb_ret (then_ret (r1 rfl rfl ?_)))))))))))))))))))))))))))))))))))))))))))))))))))))
  exact ⟨congrArg Value.bool (by simp only [holdsR, keptB, hx0, (notf b0), (notf b1), (notf b2), b3, b4, b5, b6, (notf b7), (notf b8), (notf b9), (notf b10), (notf b11), b12, BL]), H15.below⟩
 have p6 := dF b6
 refine sq (rg (k (eql rfl rfl rfl rfl (k (asg (v := .bool (decide (kd = 5))) rfl rfl (z (nx ?_)))))))
 refine cd (b := decide (kd = 5)) rfl rfl (fun b7 => ?_) (fun b7 => ?_)
 ·
  have p7 := dT b7
  refine sq (rg (k (ldX H13 1 rfl ty32 rfl s1 (by decide) rfl (k (fa fl25_4 rfl s2 (k (lx H13 0 rfl ty3 rfl rfl rfl (k ?_))))))))
  have cc3 := ref20_op (fi := fi) (n1 := op_) (a_fv := a_fv) (n_fv := n_fv) (c_fv := c_fv) (a_fo := a_fo) (n_fo := fo.length) (c_fo := c_fo) (w := w5) H13.mb (H13.rv 4 rfl) h_op_
  refine ca go57 rfl (ec rfl (ec rfl e0)) cc3 ?_
  rintro _ w6 ⟨rfl, xt6⟩
  have H14 := H13.ext xt6
  refine k (mv (v := .bool (inO fi op_)) rfl rfl ?_)
  rcases bE (inO fi op_) with b8 | b8
  ·
   refine k (gy rfl rfl rfl b8 (ldX H14 0 rfl ty25 rfl s2 (by decide) rfl (k (gy rfl rfl rfl b8 ?_))))
   have cc4 := ref20_bare (kd := kd) (rd_ := rd_) (wa_ := wa_) (wb_ := wb_) (op_ := op_) (sl_ := sl_) (fs_ := fs_) (sn_ := sn_) (ru := true) (w := w6) H14.mb h_kd h_rd_ h_wa_ h_wb_ h_op_ (H14.rv 2 rfl) h_fs_ h_sn_ (by exact steps3 ho (by rw [← stepsR_eq ho]; exact notf ‹(!stepsR fi fo sl_) = false›)) (by exact steps4 (by rw [← stepsR_eq ho]; exact notf ‹(!stepsR fi fo sl_) = false›)) (by exact hst)
   refine ca go58 rfl (ec rfl (ec rfl e0)) cc4 ?_
   rintro _ w7 ⟨rfl, xt7⟩
   have H15 := H14.ext xt7
   refine k (pickT rfl rfl rfl rfl b8 rfl (k (mv (v := .bool (bareR sl_ true)) rfl rfl ?_)))
   rcases bE (bareR sl_ true) with b9 | b9
   ·
    refine k (gy rfl rfl rfl b9 (fa fl25_5 rfl s2 (k (gy rfl rfl rfl b9 (lx H15 0 rfl ty23 rfl rfl rfl (k (gy rfl rfl rfl b9 (fa fl25_6 rfl s2 (k (gy rfl rfl rfl b9 (lx H15 0 rfl ty3 rfl rfl rfl (k (gy rfl rfl rfl b9 (mv (v := iV (sl_.length : Int)) rfl rfl (k (gy rfl rfl rfl b9 (fa fl25_4 rfl s2 (k (gy rfl rfl rfl b9 (lx H15 0 rfl ty3 rfl rfl rfl (k (gy rfl rfl rfl b9 (fa fl25_4 rfl s2 (k (gy rfl rfl rfl b9 (lx H15 0 rfl ty3 rfl rfl rfl (k (gy rfl rfl rfl b9 ?_))))))))))))))))))))))))))))
    have cc5 := ref20_says (l := sl_) (k1 := fs_) (bf := (sl_.length : Int)) (n1 := op_) (n2 := op_) (w := w7) H15.mb (H15.rv 2 rfl) h_fs_ (by first | assumption | (unfold I64 at *; omega)) h_op_ h_op_
    refine ca go59 rfl (ec rfl (ec rfl (ec rfl (ec rfl (ec rfl e0))))) cc5 ?_
    rintro _ w8 ⟨rfl, xt8⟩
    have H16 := H15.ext xt8
    refine k (pickT rfl rfl rfl rfl b9 rfl (k (asg (v := .bool (sayB sl_ fs_ (sl_.length : Int) op_ op_)) rfl rfl (z (nx (rt (inb_ret (then_ret (r1 rfl rfl ?_)))))))))
    exact ⟨congrArg Value.bool (by simp only [holdsR, keptB, (notf b0), (notf b1), (notf b2), b3, b4, b5, b6, b7, b8, b9, BL]), H16.below⟩
   refine k (gn rfl rfl rfl b9 (k (gn rfl rfl rfl b9 (k (gn rfl rfl rfl b9 (k (gn rfl rfl rfl b9 (k (gn rfl rfl rfl b9 (k (gn rfl rfl rfl b9 (k (gn rfl rfl rfl b9 (k (gn rfl rfl rfl b9 (k (gn rfl rfl rfl b9 (k (gn rfl rfl rfl b9 (k (pickF rfl rfl rfl rfl b9 rfl (k (asg (v := .bool false) rfl rfl (z (nx (rt (inb_ret (then_ret (r1 rfl rfl ?_)))))))))))))))))))))))))))))
   exact ⟨congrArg Value.bool (by simp only [holdsR, keptB, (notf b0), (notf b1), (notf b2), b3, b4, b5, b6, b7, b8, b9, BL]), H15.below⟩
  refine k (gn rfl rfl rfl b8 (k (gn rfl rfl rfl b8 (k (pickF rfl rfl rfl rfl b8 rfl (k (mv (v := .bool false) rfl rfl (k (gn rfl rfl rfl rfl (k (gn rfl rfl rfl rfl (k (gn rfl rfl rfl rfl (k (gn rfl rfl rfl rfl (k (gn rfl rfl rfl rfl (k (gn rfl rfl rfl rfl (k (gn rfl rfl rfl rfl (k (gn rfl rfl rfl rfl (k (gn rfl rfl rfl rfl (k (gn rfl rfl rfl rfl (k (pickF rfl rfl rfl rfl rfl rfl (k (asg (v := .bool false) rfl rfl (z (nx (rt (inb_ret (then_ret (r1 rfl rfl ?_)))))))))))))))))))))))))))))))))))))
  exact ⟨congrArg Value.bool (by simp only [holdsR, keptB, (notf b0), (notf b1), (notf b2), b3, b4, b5, b6, b7, b8, BL]), H14.below⟩
 have p7 := dF b7
 refine sq (rg (k (eql rfl rfl rfl rfl (k (asg (v := .bool (decide (kd = 6))) rfl rfl (z (nx ?_)))))))
 refine cd (b := decide (kd = 6)) rfl rfl (fun b8 => ?_) (fun b8 => ?_)
 ·
  have p8 := dT b8
  refine sq ?_
  refine drX rfl (by kernel_rfl) ?_
  refine xq rfl (kq (fun _ x_ => ldX (H13.ext x_) 1 rfl ty32 rfl s1 (by decide) rfl e1) (zq (xq rfl (kq (fun _ _ => fa fl25_4 rfl s2 e1) (zq (xq rfl (kq (fun _ x_ => lx (H13.ext x_) 0 rfl ty3 rfl rfl rfl e1) (zq (xq rfl ?_)))))))))
  refine kq (v := .bool (inO fi op_)) (fun v_ x_ => ?_) ?_
  ·
   have cc := ref20_op (fi := fi) (n1 := op_) (a_fv := a_fv) (n_fv := n_fv) (c_fv := c_fv) (a_fo := a_fo) (n_fo := fo.length) (c_fo := c_fo) (w := v_) (H13.ext x_).mb ((H13.ext x_).rv 4 rfl) h_op_
   exact ca go57 rfl (ec rfl (ec rfl e0)) cc fun _ _ h_ => e2 h_
  refine zq (xq rfl (kq (fun _ _ => mv (v := .bool (inO fi op_)) rfl rfl e1) (zq ?_)))
  rcases bE (inO fi op_) with b9 | b9
  ·
   refine xq rfl (qy rfl rfl rfl b9 (kq (fun _ x_ => ldX (H13.ext x_) 1 rfl ty32 rfl s1 (by decide) rfl e1) (zq (xq rfl (qy rfl rfl rfl b9 (kq (fun _ x_ => ldX (H13.ext x_) 0 rfl ty25 rfl s2 (by decide) rfl e1) (zq (xq rfl (qy rfl rfl rfl b9 ?_)))))))))
   refine kq (v := .bool (earlyR fi fo rd_ wa_)) (fun v_ x_ => ?_) ?_
   ·
    have cc := ref20_early (fi := fi) (fo := fo) (kd := kd) (rd_ := rd_) (wa_ := wa_) (wb_ := wb_) (op_ := op_) (fs_ := fs_) (sn_ := sn_) (a_fv := a_fv) (n_fv := n_fv) (c_fv := c_fv) (a_sl_ := a_sl_) (n_sl_ := sl_.length) (c_sl_ := c_sl_) (w := v_) (H13.ext x_).mb ((H13.ext x_).rv 4 rfl) ((H13.ext x_).rv 3 rfl) h_kd h_rd_ h_wa_ h_wb_ h_op_ h_fs_ h_sn_ (by exact hfo)
    exact ca go60 rfl (ec rfl (ec rfl e0)) cc fun _ _ h_ => e2 h_
   refine zq (xq rfl (kq (fun _ _ => pickT rfl rfl rfl rfl b9 rfl e1) (zq (xq rfl (kq (fun _ _ => mv (v := .bool (earlyR fi fo rd_ wa_)) rfl rfl e1) (zq ?_))))))
   rcases bE (earlyR fi fo rd_ wa_) with b10 | b10
   ·
    refine xq rfl (qy rfl rfl rfl b10 (kq (fun _ x_ => ldX (H13.ext x_) 1 rfl ty32 rfl s1 (by decide) rfl e1) (zq (xq rfl (qy rfl rfl rfl b10 (kq (fun _ _ => fa fl25_4 rfl s2 e1) (zq (xq rfl (qy rfl rfl rfl b10 (kq (fun _ x_ => lx (H13.ext x_) 0 rfl ty3 rfl rfl rfl e1) (zq ?_)))))))))))
    refine xu (fun v w' => ∃ (a4 : OA) (c4 : Nat), v = sL a4 (keepL (wrQ fi) (pastB fi op_ fi.length)) c4 ∧ RV (MS M [box bb1 #[iV kd, iV rd_, iV wa_, iV wb_, iV op_, sL a_sl_ sl_ c_sl_, iV fs_, iV sn_] 25, box bb0 #[.slice a_fv n_fv c_fv, sL a_fi fi c_fi, sL a_fo fo c_fo] 32, iL a_sl_ sl_ c_sl_, iL a_fo fo c_fo, iL a_fi fi c_fi]) w' (sL a4 (keepL (wrQ fi) (pastB fi op_ fi.length)) c4) (keepL (wrQ fi) (pastB fi op_ fi.length))) rfl (by rintro _ _ _ x_ ⟨a4, c4, e_, rv7⟩; exact ⟨a4, c4, e_, rv7.lift (Up.ext x_)⟩) rfl (fun v_ x_ => ?_) ?_
    ·
     have H16 := H13.ext x_
     refine gy rfl rfl rfl b10 ?_
     have cc4 := ref16_Kept (fi := fi) (o := op_) (a_fv := a_fv) (n_fv := n_fv) (c_fv := c_fv) (a_fo := a_fo) (n_fo := fo.length) (c_fo := c_fo) (w := v_) H16.mb (H16.rv 4 rfl) h_op_ (by first | exact hn_fi | omega)
     refine ca go62 rfl (ec rfl (ec rfl e0)) cc4 ?_
     rintro _ w7 ⟨a5, c5, rfl, xt7, rv8⟩
     have rv9 := OwnsG.rv rv8 H16.mb
     exact ⟨_, rfl, xt7, ⟨a5, c5, rfl, rv9⟩⟩
    refine xq rfl (qy rfl rfl rfl b10 (kq (fun _ _ => fa fl25_1 rfl s2 e1) (zq (xq rfl (qy rfl rfl rfl b10 (kq (fun _ x_ => lx (H13.ext x_) 0 rfl ty3 rfl rfl rfl e1) (zq ?_)))))))
    refine xk1 (X := .bool (hasJ (keepL (wrQ fi) (pastB fi op_ fi.length)) rd_)) 0 rfl rfl (fun v_ u_ x_ h_ => ?_) ?_
    ·
     have H20 := H13.ext x_
     obtain ⟨a7, c7, s4, rv11⟩ := h_
     have H21 := H20.put (it := iL a7 (keepL (wrQ fi) (pastB fi op_ fi.length)) c7) rfl rv11
     refine gy rfl rfl rfl b10 ?_
     have cc := ref20_has (l := (keepL (wrQ fi) (pastB fi op_ fi.length))) (n1 := rd_) (w := v_) H21.mb (H21.rv 0 rfl) h_rd_
     exact ca go54 rfl (ec s4 (ec rfl e0)) cc fun _ _ h_ => e2 h_
    refine xq rfl (kq (fun _ _ => pickT rfl rfl rfl rfl b10 rfl e1) (zq (xq rfl (kq (fun _ _ => mv (v := .bool (hasJ (keepL (wrQ fi) (pastB fi op_ fi.length)) rd_)) rfl rfl e1) (zq ?_)))))
    rcases bE (hasJ (keepL (wrQ fi) (pastB fi op_ fi.length)) rd_) with b11 | b11
    ·
     refine xq rfl (qy rfl rfl rfl b11 (kq (fun _ x_ => ldX (H13.ext x_) 1 rfl ty32 rfl s1 (by decide) rfl e1) (zq (xq rfl (qy rfl rfl rfl b11 (kq (fun _ x_ => ldX (H13.ext x_) 0 rfl ty25 rfl s2 (by decide) rfl e1) (zq (xq rfl (qy rfl rfl rfl b11 ?_)))))))))
     refine kq (v := .bool (seenR fi fo sl_ op_)) (fun v_ x_ => ?_) ?_
     ·
      have cc := ref20_seen (fi := fi) (fo := fo) (kd := kd) (rd_ := rd_) (wa_ := wa_) (wb_ := wb_) (op_ := op_) (sl_ := sl_) (fs_ := fs_) (sn_ := sn_) (a_fv := a_fv) (n_fv := n_fv) (c_fv := c_fv) (w := v_) (H13.ext x_).mb ((H13.ext x_).rv 4 rfl) ((H13.ext x_).rv 3 rfl) h_kd h_rd_ h_wa_ h_wb_ h_op_ ((H13.ext x_).rv 2 rfl) h_fs_ h_sn_ (by exact ho) (by first | exact hn_fi | omega) (by exact hfo) (by exact hfr)
      exact ca go63 rfl (ec rfl (ec rfl e0)) cc fun _ _ h_ => e2 h_
     refine zq (xq rfl (kq (fun _ _ => pickT rfl rfl rfl rfl b11 rfl e1) (zq (xq rfl (kq (fun _ _ => mv (v := .bool (seenR fi fo sl_ op_)) rfl rfl e1) (zq ?_))))))
     rcases bE (seenR fi fo sl_ op_) with b12 | b12
     ·
      refine xq rfl (qy rfl rfl rfl b12 (kq (fun _ _ => fa fl25_5 rfl s2 e1) (zq (xq rfl (qy rfl rfl rfl b12 (kq (fun _ x_ => lx (H13.ext x_) 0 rfl ty23 rfl rfl rfl e1) (zq (xq rfl (qy rfl rfl rfl b12 (kq (fun _ _ => fa fl25_6 rfl s2 e1) (zq (xq rfl (qy rfl rfl rfl b12 (kq (fun _ x_ => lx (H13.ext x_) 0 rfl ty3 rfl rfl rfl e1) (zq (xq rfl (qy rfl rfl rfl b12 (kq (fun _ _ => mv (v := iV (sl_.length : Int)) rfl rfl e1) (zq (xq rfl (qy rfl rfl rfl b12 (kq (fun _ _ => fa fl25_2 rfl s2 e1) (zq (xq rfl (qy rfl rfl rfl b12 (kq (fun _ x_ => lx (H13.ext x_) 0 rfl ty3 rfl rfl rfl e1) (zq (xq rfl (qy rfl rfl rfl b12 (kq (fun _ _ => fa fl25_1 rfl s2 e1) (zq (xq rfl (qy rfl rfl rfl b12 (kq (fun _ x_ => lx (H13.ext x_) 0 rfl ty3 rfl rfl rfl e1) (zq (xq rfl (qy rfl rfl rfl b12 ?_)))))))))))))))))))))))))))))))))))))
      refine kq (v := .bool (sayB sl_ fs_ (sl_.length : Int) wa_ rd_)) (fun v_ x_ => ?_) ?_
      ·
       have cc := ref20_says (l := sl_) (k1 := fs_) (bf := (sl_.length : Int)) (n1 := wa_) (n2 := rd_) (w := v_) (H13.ext x_).mb ((H13.ext x_).rv 2 rfl) h_fs_ (by first | assumption | (unfold I64 at *; omega)) h_wa_ h_rd_
       exact ca go59 rfl (ec rfl (ec rfl (ec rfl (ec rfl (ec rfl e0))))) cc fun _ _ h_ => e2 h_
      refine zq (xq rfl (kq (fun _ _ => pickT rfl rfl rfl rfl b12 rfl e1) (zq (xq rfl (kq (fun _ _ => asg (v := .bool (sayB sl_ fs_ (sl_.length : Int) wa_ rd_)) rfl rfl e1) (zq (zx ?_)))))))
      intro w9 f1 xt9 hk1 hu1
      have H22 := H13.ext xt9
      have s5 : f1 6 = .bool (sayB sl_ fs_ (sl_.length : Int) wa_ rd_) := hk1 6 rfl
      refine nx (rt (inb_ret (then_ret (r1 rfl rfl ?_))))
      rw [s5]
      exact ⟨congrArg Value.bool (by simp only [holdsR, keptB, (notf b0), (notf b1), (notf b2), b3, b4, b5, b6, b7, b8, b9, b10, b11, b12, BL]), H22.below⟩
     refine xq rfl (qn rfl rfl rfl b12 (zq (xq rfl (qn rfl rfl rfl b12 (zq (xq rfl (qn rfl rfl rfl b12 (zq (xq rfl (qn rfl rfl rfl b12 (zq (xq rfl (qn rfl rfl rfl b12 (zq (xq rfl (qn rfl rfl rfl b12 (zq (xq rfl (qn rfl rfl rfl b12 (zq (xq rfl (qn rfl rfl rfl b12 (zq (xq rfl (qn rfl rfl rfl b12 (zq (xq rfl (qn rfl rfl rfl b12 (zq (xq rfl (kq (fun _ _ => pickF rfl rfl rfl rfl b12 rfl e1) (zq (xq rfl (kq (fun _ _ => asg (v := .bool false) rfl rfl e1) (zq (zx ?_))))))))))))))))))))))))))))))))))))
     intro w9 f1 xt9 hk1 hu1
     have H22 := H13.ext xt9
     have s5 : f1 6 = .bool false := hk1 6 rfl
     refine nx (rt (inb_ret (then_ret (r1 rfl rfl ?_))))
     rw [s5]
     exact ⟨congrArg Value.bool (by simp only [holdsR, keptB, (notf b0), (notf b1), (notf b2), b3, b4, b5, b6, b7, b8, b9, b10, b11, b12, BL]), H22.below⟩
    refine xq rfl (qn rfl rfl rfl b11 (zq (xq rfl (qn rfl rfl rfl b11 (zq (xq rfl (qn rfl rfl rfl b11 (zq (xq rfl (kq (fun _ _ => pickF rfl rfl rfl rfl b11 rfl e1) (zq (xq rfl (kq (fun _ _ => mv (v := .bool false) rfl rfl e1) (zq (xq rfl (qn rfl rfl rfl rfl (zq (xq rfl (qn rfl rfl rfl rfl (zq (xq rfl (qn rfl rfl rfl rfl (zq (xq rfl (qn rfl rfl rfl rfl (zq (xq rfl (qn rfl rfl rfl rfl (zq (xq rfl (qn rfl rfl rfl rfl (zq (xq rfl (qn rfl rfl rfl rfl (zq (xq rfl (qn rfl rfl rfl rfl (zq (xq rfl (qn rfl rfl rfl rfl (zq (xq rfl (qn rfl rfl rfl rfl (zq (xq rfl (kq (fun _ _ => pickF rfl rfl rfl rfl rfl rfl e1) (zq (xq rfl (kq (fun _ _ => asg (v := .bool false) rfl rfl e1) (zq (zx ?_)))))))))))))))))))))))))))))))))))))))))))))))))))
    intro w9 f1 xt9 hk1 hu1
    have H22 := H13.ext xt9
    have s5 : f1 6 = .bool false := hk1 6 rfl
    refine nx (rt (inb_ret (then_ret (r1 rfl rfl ?_))))
    rw [s5]
    exact ⟨congrArg Value.bool (by simp only [holdsR, keptB, (notf b0), (notf b1), (notf b2), b3, b4, b5, b6, b7, b8, b9, b10, b11, BL]), H22.below⟩
   refine xq rfl (qn rfl rfl rfl b10 (zq (xq rfl (qn rfl rfl rfl b10 (zq (xq rfl (qn rfl rfl rfl b10 (zq (xq rfl (qn rfl rfl rfl b10 (zq (xq rfl (qn rfl rfl rfl b10 (zq (xq rfl (qn rfl rfl rfl b10 (zq (xq rfl (qn rfl rfl rfl b10 (zq (xq rfl (kq (fun _ _ => pickF rfl rfl rfl rfl b10 rfl e1) (zq (xq rfl (kq (fun _ _ => mv (v := .bool false) rfl rfl e1) (zq (xq rfl (qn rfl rfl rfl rfl (zq (xq rfl (qn rfl rfl rfl rfl (zq (xq rfl (qn rfl rfl rfl rfl (zq (xq rfl (kq (fun _ _ => pickF rfl rfl rfl rfl rfl rfl e1) (zq (xq rfl (kq (fun _ _ => mv (v := .bool false) rfl rfl e1) (zq (xq rfl (qn rfl rfl rfl rfl (zq (xq rfl (qn rfl rfl rfl rfl (zq (xq rfl (qn rfl rfl rfl rfl (zq (xq rfl (qn rfl rfl rfl rfl (zq (xq rfl (qn rfl rfl rfl rfl (zq (xq rfl (qn rfl rfl rfl rfl (zq (xq rfl (qn rfl rfl rfl rfl (zq (xq rfl (qn rfl rfl rfl rfl (zq (xq rfl (qn rfl rfl rfl rfl (zq (xq rfl (qn rfl rfl rfl rfl (zq (xq rfl (kq (fun _ _ => pickF rfl rfl rfl rfl rfl rfl e1) (zq (xq rfl (kq (fun _ _ => asg (v := .bool false) rfl rfl e1) (zq (zx ?_))))))))))))))))))))))))))))))))))))))))))))))))))))))))))))))))))))))))))))))
   intro w6 f1 xt6 hk1 hu1
   have H14 := H13.ext xt6
   have s4 : f1 6 = .bool false := hk1 6 rfl
   refine nx (rt (inb_ret (then_ret (r1 rfl rfl ?_))))
   rw [s4]
   exact ⟨congrArg Value.bool (by simp only [holdsR, keptB, (notf b0), (notf b1), (notf b2), b3, b4, b5, b6, b7, b8, b9, b10, BL]), H14.below⟩
  refine xq rfl (qn rfl rfl rfl b9 (zq (xq rfl (qn rfl rfl rfl b9 (zq (xq rfl (qn rfl rfl rfl b9 (zq (xq rfl (kq (fun _ _ => pickF rfl rfl rfl rfl b9 rfl e1) (zq (xq rfl (kq (fun _ _ => mv (v := .bool false) rfl rfl e1) (zq (xq rfl (qn rfl rfl rfl rfl (zq (xq rfl (qn rfl rfl rfl rfl (zq (xq rfl (qn rfl rfl rfl rfl (zq (xq rfl (qn rfl rfl rfl rfl (zq (xq rfl (qn rfl rfl rfl rfl (zq (xq rfl (qn rfl rfl rfl rfl (zq (xq rfl (qn rfl rfl rfl rfl (zq (xq rfl (kq (fun _ _ => pickF rfl rfl rfl rfl rfl rfl e1) (zq (xq rfl (kq (fun _ _ => mv (v := .bool false) rfl rfl e1) (zq (xq rfl (qn rfl rfl rfl rfl (zq (xq rfl (qn rfl rfl rfl rfl (zq (xq rfl (qn rfl rfl rfl rfl (zq (xq rfl (kq (fun _ _ => pickF rfl rfl rfl rfl rfl rfl e1) (zq (xq rfl (kq (fun _ _ => mv (v := .bool false) rfl rfl e1) (zq (xq rfl (qn rfl rfl rfl rfl (zq (xq rfl (qn rfl rfl rfl rfl (zq (xq rfl (qn rfl rfl rfl rfl (zq (xq rfl (qn rfl rfl rfl rfl (zq (xq rfl (qn rfl rfl rfl rfl (zq (xq rfl (qn rfl rfl rfl rfl (zq (xq rfl (qn rfl rfl rfl rfl (zq (xq rfl (qn rfl rfl rfl rfl (zq (xq rfl (qn rfl rfl rfl rfl (zq (xq rfl (qn rfl rfl rfl rfl (zq (xq rfl (kq (fun _ _ => pickF rfl rfl rfl rfl rfl rfl e1) (zq (xq rfl (kq (fun _ _ => asg (v := .bool false) rfl rfl e1) (zq (zx ?_)))))))))))))))))))))))))))))))))))))))))))))))))))))))))))))))))))))))))))))))))))))))))))))
  intro w6 f1 xt6 hk1 hu1
  have H14 := H13.ext xt6
  have s4 : f1 6 = .bool false := hk1 6 rfl
  refine nx (rt (inb_ret (then_ret (r1 rfl rfl ?_))))
  rw [s4]
  exact ⟨congrArg Value.bool (by simp only [holdsR, keptB, (notf b0), (notf b1), (notf b2), b3, b4, b5, b6, b7, b8, b9, BL]), H14.below⟩
 have p8 := dF b8
 refine sk (inb_normal (nx (sq (rg (k (ldX H13 1 rfl ty32 rfl s1 (by decide) rfl (k (fa fl25_4 rfl s2 (k (lx H13 0 rfl ty3 rfl rfl rfl (k ?_)))))))))))
 have cc3 := ref20_op (fi := fi) (n1 := op_) (a_fv := a_fv) (n_fv := n_fv) (c_fv := c_fv) (a_fo := a_fo) (n_fo := fo.length) (c_fo := c_fo) (w := w5) H13.mb (H13.rv 4 rfl) h_op_
 refine ca go57 rfl (ec rfl (ec rfl e0)) cc3 ?_
 rintro _ w6 ⟨rfl, xt6⟩
 have H14 := H13.ext xt6
 refine k (mv (v := .bool (inO fi op_)) rfl rfl ?_)
 rcases bE (inO fi op_) with b9 | b9
 ·
  refine k (gy rfl rfl rfl b9 (ldX H14 1 rfl ty32 rfl s1 (by decide) rfl (k (gy rfl rfl rfl b9 (fa fl25_2 rfl s2 (k (gy rfl rfl rfl b9 (lx H14 0 rfl ty3 rfl rfl rfl (k (gy rfl rfl rfl b9 ?_))))))))))
  have cc4 := ref20_op (fi := fi) (n1 := wa_) (a_fv := a_fv) (n_fv := n_fv) (c_fv := c_fv) (a_fo := a_fo) (n_fo := fo.length) (c_fo := c_fo) (w := w6) H14.mb (H14.rv 4 rfl) h_wa_
  refine ca go57 rfl (ec rfl (ec rfl e0)) cc4 ?_
  rintro _ w7 ⟨rfl, xt7⟩
  have H15 := H14.ext xt7
  refine k (pickT rfl rfl rfl rfl b9 rfl (k (mv (v := .bool (inO fi wa_)) rfl rfl ?_)))
  rcases bE (inO fi wa_) with b10 | b10
  ·
   refine k (gy rfl rfl rfl b10 (ldX H15 1 rfl ty32 rfl s1 (by decide) rfl (k (gy rfl rfl rfl b10 (ldX H15 0 rfl ty25 rfl s2 (by decide) rfl (k (gy rfl rfl rfl b10 ?_)))))))
   have cc5 := ref20_seen (fi := fi) (fo := fo) (kd := kd) (rd_ := rd_) (wa_ := wa_) (wb_ := wb_) (op_ := op_) (sl_ := sl_) (fs_ := fs_) (sn_ := sn_) (a_fv := a_fv) (n_fv := n_fv) (c_fv := c_fv) (w := w7) H15.mb (H15.rv 4 rfl) (H15.rv 3 rfl) h_kd h_rd_ h_wa_ h_wb_ h_op_ (H15.rv 2 rfl) h_fs_ h_sn_ (by exact ho) (by first | exact hn_fi | omega) (by exact hfo) (by exact hfr)
   refine ca go63 rfl (ec rfl (ec rfl e0)) cc5 ?_
   rintro _ w8 ⟨rfl, xt8⟩
   have H16 := H15.ext xt8
   refine k (pickT rfl rfl rfl rfl b10 rfl (k (mv (v := .bool (seenR fi fo sl_ op_)) rfl rfl ?_)))
   rcases bE (seenR fi fo sl_ op_) with b11 | b11
   ·
    refine k (gy rfl rfl rfl b11 (fa fl25_5 rfl s2 (k (gy rfl rfl rfl b11 (lx H16 0 rfl ty23 rfl rfl rfl (k (gy rfl rfl rfl b11 (fa fl25_6 rfl s2 (k (gy rfl rfl rfl b11 (lx H16 0 rfl ty3 rfl rfl rfl (k (gy rfl rfl rfl b11 (mv (v := iV (sl_.length : Int)) rfl rfl (k (gy rfl rfl rfl b11 (fa fl25_2 rfl s2 (k (gy rfl rfl rfl b11 (lx H16 0 rfl ty3 rfl rfl rfl (k (gy rfl rfl rfl b11 (fa fl25_2 rfl s2 (k (gy rfl rfl rfl b11 (lx H16 0 rfl ty3 rfl rfl rfl (k (gy rfl rfl rfl b11 ?_))))))))))))))))))))))))))))
    have cc6 := ref20_says (l := sl_) (k1 := fs_) (bf := (sl_.length : Int)) (n1 := wa_) (n2 := wa_) (w := w8) H16.mb (H16.rv 2 rfl) h_fs_ (by first | assumption | (unfold I64 at *; omega)) h_wa_ h_wa_
    refine ca go59 rfl (ec rfl (ec rfl (ec rfl (ec rfl (ec rfl e0))))) cc6 ?_
    rintro _ w9 ⟨rfl, xt9⟩
    have H17 := H16.ext xt9
    refine k (pickT rfl rfl rfl rfl b11 rfl (k (asg (v := .bool (sayB sl_ fs_ (sl_.length : Int) wa_ wa_)) rfl rfl (z (nx (rt (r1 rfl rfl ?_)))))))
    exact ⟨congrArg Value.bool (by simp only [holdsR, keptB, (notf b0), (notf b1), (notf b2), b3, b4, b5, b6, b7, b8, b9, b10, b11, BL]), H17.below⟩
   refine k (gn rfl rfl rfl b11 (k (gn rfl rfl rfl b11 (k (gn rfl rfl rfl b11 (k (gn rfl rfl rfl b11 (k (gn rfl rfl rfl b11 (k (gn rfl rfl rfl b11 (k (gn rfl rfl rfl b11 (k (gn rfl rfl rfl b11 (k (gn rfl rfl rfl b11 (k (gn rfl rfl rfl b11 (k (pickF rfl rfl rfl rfl b11 rfl (k (asg (v := .bool false) rfl rfl (z (nx (rt (r1 rfl rfl ?_)))))))))))))))))))))))))))
   exact ⟨congrArg Value.bool (by simp only [holdsR, keptB, (notf b0), (notf b1), (notf b2), b3, b4, b5, b6, b7, b8, b9, b10, b11, BL]), H16.below⟩
  refine k (gn rfl rfl rfl b10 (k (gn rfl rfl rfl b10 (k (gn rfl rfl rfl b10 (k (pickF rfl rfl rfl rfl b10 rfl (k (mv (v := .bool false) rfl rfl (k (gn rfl rfl rfl rfl (k (gn rfl rfl rfl rfl (k (gn rfl rfl rfl rfl (k (gn rfl rfl rfl rfl (k (gn rfl rfl rfl rfl (k (gn rfl rfl rfl rfl (k (gn rfl rfl rfl rfl (k (gn rfl rfl rfl rfl (k (gn rfl rfl rfl rfl (k (gn rfl rfl rfl rfl (k (pickF rfl rfl rfl rfl rfl rfl (k (asg (v := .bool false) rfl rfl (z (nx (rt (r1 rfl rfl ?_)))))))))))))))))))))))))))))))))))))
  exact ⟨congrArg Value.bool (by simp only [holdsR, keptB, (notf b0), (notf b1), (notf b2), b3, b4, b5, b6, b7, b8, b9, b10, BL]), H15.below⟩
 refine k (gn rfl rfl rfl b9 (k (gn rfl rfl rfl b9 (k (gn rfl rfl rfl b9 (k (gn rfl rfl rfl b9 (k (pickF rfl rfl rfl rfl b9 rfl (k (mv (v := .bool false) rfl rfl (k (gn rfl rfl rfl rfl (k (gn rfl rfl rfl rfl (k (gn rfl rfl rfl rfl (k (pickF rfl rfl rfl rfl rfl rfl (k (mv (v := .bool false) rfl rfl (k (gn rfl rfl rfl rfl (k (gn rfl rfl rfl rfl (k (gn rfl rfl rfl rfl (k (gn rfl rfl rfl rfl (k (gn rfl rfl rfl rfl (k (gn rfl rfl rfl rfl (k (gn rfl rfl rfl rfl (k (gn rfl rfl rfl rfl (k (gn rfl rfl rfl rfl (k (gn rfl rfl rfl rfl (k (pickF rfl rfl rfl rfl rfl rfl (k (asg (v := .bool false) rfl rfl (z (nx (rt (r1 rfl rfl ?_)))))))))))))))))))))))))))))))))))))))))))))))))
 exact ⟨congrArg Value.bool (by simp only [holdsR, keptB, (notf b0), (notf b1), (notf b2), b3, b4, b5, b6, b7, b8, b9, BL]), H14.below⟩
theorem ref21_Holds {a_fv : OA} {n_fv c_fv : Nat} {a_fi : OA} {c_fi : Nat} {fi : List ItemL} {a_fo : OA} {c_fo : Nat} {fo : List Int} {lv : Int} {kd : Int} {rd_ : Int} {wa_ : Int} {wb_ : Int} {op_ : Int} {a_sl_ : OA} {c_sl_ : Nat} {sl_ : List StepL} {fs_ : Int} {sn_ : Int} (hM : ∀ b, M b → b < w.heap.size) (h_fi : RV M w (.slice a_fi fi.length c_fi) fi) (h_fo : RV M w (.slice a_fo fo.length c_fo) fo) (h_lv : I64 lv) (h_kd : I64 kd) (h_rd_ : I64 rd_) (h_wa_ : I64 wa_) (h_wb_ : I64 wb_) (h_op_ : I64 op_) (h_sl_ : RV M w (.slice a_sl_ sl_.length c_sl_) sl_) (h_fs_ : I64 fs_) (h_sn_ : I64 sn_) (ho : OrdI fi) (hn_fi : fi.length ≤ 4096) (hfo : fo.length = fi.length) (hfr : ∀ x ∈ fo, x < ((fi.length : Nat) : Int)) (hst : sl_.length ≤ 90000) : Calls Tryz.prog 9 #[.agg #[.slice a_fv n_fv c_fv, .slice a_fi fi.length c_fi, .slice a_fo fo.length c_fo], .int .i64 lv, .agg #[.int .i64 kd, .int .i64 rd_, .int .i64 wa_, .int .i64 wb_, .int .i64 op_, .slice a_sl_ sl_.length c_sl_, .int .i64 fs_, .int .i64 sn_]] w (Ret fun v w' =>  v = .bool (holdsR fi fo lv kd rd_ wa_ wb_ op_ sl_ fs_ sn_) ∧ Ext w w') := by
 refine enter 11 Tryz.func9 rfl rfl rfl fun f0 ha => ?_
 have H := HI.start (M0 := M) (w := w) hM
 have H0 := H.put (it := iL a_fi fi c_fi) rfl (by rw [MS_nil]; exact h_fi)
 have H1 := H0.put (it := iL a_fo fo c_fo) rfl (by rw [MS_cons_none rfl, MS_nil]; exact h_fo)
 have H2 := H1.put (it := iL a_sl_ sl_ c_sl_) rfl (by rw [MS_cons_none rfl, MS_cons_none rfl, MS_nil]; exact h_sl_)
 have ln_fi := rv_len h_fi
 have ln_fo := rv_len h_fo
 have ln_sl_ := rv_len h_sl_
 have i0 : f0 0 = .agg #[.slice a_fv n_fv c_fv, sL a_fi fi c_fi, sL a_fo fo c_fo] := ha 0 (by simp)
 have i1 : f0 1 = iV lv := ha 1 (by simp)
 have i2 : f0 2 = .agg #[iV kd, iV rd_, iV wa_, iV wb_, iV op_, sL a_sl_ sl_ c_sl_, iV fs_, iV sn_] := ha 2 (by simp)
 refine sq (rg (k (bx H2 rfl i0 ?_)))
 intro bb0 w0 xt0 (H3 : HI M w w0 [box bb0 #[.slice a_fv n_fv c_fv, sL a_fi fi c_fi, sL a_fo fo c_fo] 32, iL a_sl_ sl_ c_sl_, iL a_fo fo c_fo, iL a_fi fi c_fi])
 refine k (bx H3 rfl i2 ?_)
 intro bb1 w1 xt1 (H4 : HI M w w1 [box bb1 #[iV kd, iV rd_, iV wa_, iV wb_, iV op_, sL a_sl_ sl_ c_sl_, iV fs_, iV sn_] 25, box bb0 #[.slice a_fv n_fv c_fv, sL a_fi fi c_fi, sL a_fo fo c_fo] 32, iL a_sl_ sl_ c_sl_, iL a_fo fo c_fo, iL a_fi fi c_fi])
 refine k (asg (v := .bool false) rfl rfl (z (nx (sq (rg (k (ldX H4 1 rfl ty32 rfl rfl (by decide) rfl (k (mv rfl i1 (k (ldX H4 0 rfl ty25 rfl rfl (by decide) rfl (k ?_))))))))))))
 have cc0 := ref20_Holds (fi := fi) (fo := fo) (lv := lv) (kd := kd) (rd_ := rd_) (wa_ := wa_) (wb_ := wb_) (op_ := op_) (sl_ := sl_) (fs_ := fs_) (sn_ := sn_) (a_fv := a_fv) (n_fv := n_fv) (c_fv := c_fv) (w := w1) H4.mb (H4.rv 4 rfl) (H4.rv 3 rfl) h_lv h_kd h_rd_ h_wa_ h_wb_ h_op_ (H4.rv 2 rfl) h_fs_ h_sn_ (by exact ho) (by first | exact hn_fi | omega) (by exact hfo) (by exact hfr) (by exact hst)
 refine ca go26 rfl (ec rfl (ec rfl (ec rfl e0))) cc0 ?_
 rintro _ w2 ⟨rfl, xt2⟩
 have H5 := H4.ext xt2
 refine k (asg (v := .bool (holdsR fi fo lv kd rd_ wa_ wb_ op_ sl_ fs_ sn_)) rfl rfl (z (nx (rt (r1 rfl rfl ?_)))))
 exact ⟨rfl, H5.below⟩
theorem ref21_Steps {a_fv : OA} {n_fv c_fv : Nat} {a_fi : OA} {c_fi : Nat} {fi : List ItemL} {a_fo : OA} {c_fo : Nat} {fo : List Int} {a_l : OA} {c_l : Nat} {l : List StepL} (hM : ∀ b, M b → b < w.heap.size) (h_fi : RV M w (.slice a_fi fi.length c_fi) fi) (h_fo : RV M w (.slice a_fo fo.length c_fo) fo) (h_l : RV M w (.slice a_l l.length c_l) l) (hn_fi : fi.length ≤ 4096) (hfo : fo.length = fi.length) : Calls Tryz.prog 11 #[.agg #[.slice a_fv n_fv c_fv, .slice a_fi fi.length c_fi, .slice a_fo fo.length c_fo], .slice a_l l.length c_l] w (Ret fun v w' =>  v = .bool (stepsR fi fo l) ∧ Ext w w') := by
 refine enter 8 Tryz.func11 rfl rfl rfl fun f0 ha => ?_
 have H := HI.start (M0 := M) (w := w) hM
 have H0 := H.put (it := iL a_fi fi c_fi) rfl (by rw [MS_nil]; exact h_fi)
 have H1 := H0.put (it := iL a_fo fo c_fo) rfl (by rw [MS_cons_none rfl, MS_nil]; exact h_fo)
 have H2 := H1.put (it := iL a_l l c_l) rfl (by rw [MS_cons_none rfl, MS_cons_none rfl, MS_nil]; exact h_l)
 have ln_fi := rv_len h_fi
 have ln_fo := rv_len h_fo
 have ln_l := rv_len h_l
 have i0 : f0 0 = .agg #[.slice a_fv n_fv c_fv, sL a_fi fi c_fi, sL a_fo fo c_fo] := ha 0 (by simp)
 have i1 : f0 1 = sL a_l l c_l := ha 1 (by simp)
 refine sq (rg (k (bx H2 rfl i0 ?_)))
 intro bb0 w0 xt0 (H3 : HI M w w0 [box bb0 #[.slice a_fv n_fv c_fv, sL a_fi fi c_fi, sL a_fo fo c_fo] 32, iL a_l l c_l, iL a_fo fo c_fo, iL a_fi fi c_fi])
 refine k (asg (v := .bool false) rfl rfl (z (nx (sq (rg (k (ldX H3 0 rfl ty32 rfl rfl (by decide) rfl (k (mv rfl i1 (k ?_))))))))))
 have cc0 := ref20_Steps (fi := fi) (fo := fo) (l := l) (a_fv := a_fv) (n_fv := n_fv) (c_fv := c_fv) (w := w0) H3.mb (H3.rv 3 rfl) (H3.rv 2 rfl) (H3.rv 1 rfl) (by first | exact hn_fi | omega) (by exact hfo)
 refine ca go27 rfl (ec rfl (ec rfl e0)) cc0 ?_
 rintro _ w1 ⟨rfl, xt1⟩
 have H4 := H3.ext xt1
 refine k (asg (v := .bool (stepsR fi fo l)) rfl rfl (z (nx (rt (r1 rfl rfl ?_)))))
 exact ⟨rfl, H4.below⟩
theorem go5 : GoF Tryz.prog 5 := ⟨_, _, Tryz.func5, rfl, by kernel_rfl⟩
theorem go6 : GoF Tryz.prog 6 := ⟨_, _, Tryz.func6, rfl, by kernel_rfl⟩
theorem go9 : GoF Tryz.prog 9 := ⟨_, _, Tryz.func9, rfl, by kernel_rfl⟩
theorem go11 : GoF Tryz.prog 11 := ⟨_, _, Tryz.func11, rfl, by kernel_rfl⟩
theorem law_AuditTells {a_h : OA} {c_h : Nat} {h : List (List (Bool × ByteArray × Int))} {lv : Int} {kd : Int} {rd_ : Int} {wa_ : Int} {wb_ : Int} {op_ : Int} {a_sl_ : OA} {c_sl_ : Nat} {sl_ : List StepL} {fs_ : Int} {sn_ : Int} (hM : ∀ b, M b → b < w.heap.size) (hT : TabAt 0 w) (h_h : RV M w (.slice a_h h.length c_h) h) (h_lv : I64 lv) (h_kd : I64 kd) (h_rd_ : I64 rd_) (h_wa_ : I64 wa_) (h_wb_ : I64 wb_) (h_op_ : I64 op_) (h_sl_ : RV M w (.slice a_sl_ sl_.length c_sl_) sl_) (h_fs_ : I64 fs_) (h_sn_ : I64 sn_) (hb_h : h.flatten.length ≤ 1048576) : Calls Tryz.prog 3 #[.slice a_h h.length c_h, .int .i64 lv, .agg #[.int .i64 kd, .int .i64 rd_, .int .i64 wa_, .int .i64 wb_, .int .i64 op_, .slice a_sl_ sl_.length c_sl_, .int .i64 fs_, .int .i64 sn_]] w (Ret fun v w' =>  v = .bool true ∧ Ext w w') := by
 refine enter 50 Tryz.func3 rfl rfl rfl fun f0 ha => ?_
 have H := HI.start (M0 := M) (w := w) hM
 have H0 := H.put (it := iL a_h h c_h) rfl (by rw [MS_nil]; exact h_h)
 have H1 := H0.put (it := iL a_sl_ sl_ c_sl_) rfl (by rw [MS_cons_none rfl, MS_nil]; exact h_sl_)
 have ln_h := rv_len h_h
 have ln_sl_ := rv_len h_sl_
 have i0 : f0 0 = sL a_h h c_h := ha 0 (by simp)
 have i1 : f0 1 = iV lv := ha 1 (by simp)
 have i2 : f0 2 = .agg #[iV kd, iV rd_, iV wa_, iV wb_, iV op_, sL a_sl_ sl_ c_sl_, iV fs_, iV sn_] := ha 2 (by simp)
 refine sq (rg (k (bx H1 rfl i2 ?_)))
 intro bb0 w0 xt0 (H2 : HI M w w0 [box bb0 #[iV kd, iV rd_, iV wa_, iV wb_, iV op_, sL a_sl_ sl_ c_sl_, iV fs_, iV sn_] 25, iL a_sl_ sl_ c_sl_, iL a_h h c_h])
 refine k (asg (v := .bool false) rfl rfl (z (nx (sq (sq (rg (k (mv rfl i0 (k ?_)))))))))
 have cc0 := ref06_Small (h := h) (m := 12) (w := w0) H2.mb (H2.rv 2 rfl) (by first | assumption | (unfold I64 at *; omega)) (by omega)
 refine ca go5 rfl (ec rfl (ec rfl e0)) cc0 ?_
 rintro _ w1 ⟨rfl, xt1⟩
 have H3 := H2.ext xt1
 refine k (not_ rfl rfl (k (mv (v := .bool (!(smallH h 12))) rfl rfl ?_)))
 rcases bE (!(smallH h 12)) with b0 | b0
 ·
  refine k (gn rfl rfl rfl b0 (k (gn rfl rfl rfl b0 (k (gn rfl rfl rfl b0 (k (gn rfl rfl rfl b0 (k (pickT rfl rfl rfl rfl b0 rfl (z (nx (cdT rfl rfl rfl (sq (rg (k ?_)))))))))))))))
  have cc1 := awake21 (w := w1) (hT.ext H3.below)
  refine ca go6 rfl e0 cc1 ?_
  rintro _ w2 ⟨rfl, xt2⟩
  have H4 := H3.ext xt2
  refine k (asg (v := .bool true) rfl rfl (z (nx (rt (then_ret (r1 rfl rfl ?_))))))
  exact ⟨rfl, H4.below⟩
 refine k (gy rfl rfl rfl b0 (fa fl25_5 rfl rfl (k (gy rfl rfl rfl b0 (lx H3 0 rfl ty23 rfl rfl rfl (k (gy rfl rfl rfl b0 (lnS rfl rfl un23 (k (gy rfl rfl rfl b0 (gtr rfl rfl rfl rfl (k (pickF rfl rfl rfl rfl b0 rfl (z (nx ?_)))))))))))))))
 refine cd (b := decide (60 < (sl_.length : Int))) rfl rfl (fun b1 => ?_) (fun b1 => ?_)
 ·
  have p1 := dT b1
  refine sq (rg (k ?_))
  have cc1 := awake21 (w := w1) (hT.ext H3.below)
  refine ca go6 rfl e0 cc1 ?_
  rintro _ w2 ⟨rfl, xt2⟩
  have H4 := H3.ext xt2
  refine k (asg (v := .bool true) rfl rfl (z (nx (rt (then_ret (r1 rfl rfl ?_))))))
  exact ⟨rfl, H4.below⟩
 have p1 := dF b1
 refine sk (nx (sq ?_))
 have sm_ : smallH h 12 = true := by simpa using ‹(!smallH h 12) = false›
 have fl_ := (small_iff.1 sm_).2.1
 have il_ := o11I_len h
 refine rg (k (mv rfl i0 (k ?_)))
 have cc1 := ref11_Of (h := h) (w := w1) H3.mb (H3.rv 2 rfl) (by omega)
 refine ca go7 rfl (ec rfl e0) cc1 ?_
 rintro _ w2 ⟨a0, c0, a1, c1, a2, c2, rfl, xt2, rv0, rv1, rv2⟩
 have H4 := H3.ext xt2
 have H5 := H4.put (it := iL a0 (o11V h) c0) rfl rv0
 have H6 := H5.put (it := iL a1 (o11I h) c1) rfl (by rw [MS_cons_none rfl]; exact rv1)
 have H7 := H6.put (it := iL a2 (o11F h) c2) rfl (by rw [MS_cons_none rfl, MS_cons_none rfl]; exact rv2)
 refine k (mv (v := .tuple #[.agg #[sL a0 (o11V h) c0, sL a1 (o11I h) c1, sL a2 (o11F h) c2], .bool (o11 h)]) rfl rfl (k (xt rfl rfl rfl (k (xt rfl rfl rfl (k (al H7 ty32 ?_)))))))
 intro bb1 w3 xt3 (H8 : HI M w w3 [box bb1 #[.slice none 0 0, .slice none 0 0, .slice none 0 0] 32, iL a2 (o11F h) c2, iL a1 (o11I h) c1, iL a0 (o11V h) c0, box bb0 #[iV kd, iV rd_, iV wa_, iV wb_, iV op_, sL a_sl_ sl_ c_sl_, iV fs_, iV sn_] 25, iL a_sl_ sl_ c_sl_, iL a_h h c_h])
 refine k (stX H8 0 rfl ty32 rfl rfl rfl rfl rfl rfl rfl ?_)
 intro w4 (H9 : HI M w w4 [box bb1 #[sL a0 (o11V h) c0, sL a1 (o11I h) c1, sL a2 (o11F h) c2] 32, iL a2 (o11F h) c2, iL a1 (o11I h) c1, iL a0 (o11V h) c0, box bb0 #[iV kd, iV rd_, iV wa_, iV wb_, iV op_, sL a_sl_ sl_ c_sl_, iV fs_, iV sn_] 25, iL a_sl_ sl_ c_sl_, iL a_h h c_h])
 refine k (asg (v := .bool (o11 h)) rfl rfl (z (nx (sq (sq (rg (k (mv (v := .bool (o11 h)) rfl rfl (k (not_ rfl rfl (z (nx ?_))))))))))))
 refine cd (b := !(o11 h)) rfl rfl (fun b2 => ?_) (fun b2 => ?_)
 ·
  refine sq (rg (k ?_))
  have cc2 := awake21 (w := w4) (hT.ext H9.below)
  refine ca go6 rfl e0 cc2 ?_
  rintro _ w5 ⟨rfl, xt4⟩
  have H10 := H9.ext xt4
  refine k (asg (v := .bool true) rfl rfl (z (nx (rt (then_ret (r1 rfl rfl ?_))))))
  exact ⟨rfl, H10.below⟩
 refine sk (nx (sq ?_))
 refine drS rfl (by kernel_rfl) ?_
 refine kq (v := .bool true) (fun v_ x_ => ?_) ?_
 ·
  have cc := awake21 (w := v_) (hT.ext (H9.ext x_).below)
  exact ca go6 rfl e0 cc fun _ _ h_ => e2 h_
 refine kq (fun _ _ => mv (v := .bool true) rfl rfl e1) (qy rfl rfl rfl rfl (kq (fun _ x_ => ldX (H9.ext x_) 0 rfl ty32 rfl rfl (by decide) rfl e1) (qy rfl rfl rfl rfl (kq (fun _ _ => mv rfl i1 e1) (qy rfl rfl rfl rfl (kq (fun _ x_ => ldX (H9.ext x_) 4 rfl ty25 rfl rfl (by decide) rfl e1) (qy rfl rfl rfl rfl ?_)))))))
 refine kq (v := .bool (holdsO (o11I h) (o11F h) lv kd rd_ wa_ wb_ op_ sl_ fs_ sn_)) (fun v_ x_ => ?_) ?_
 ·
  have cc := audit_Holds (fi := (o11I h)) (fo := (o11F h)) (lv := lv) (kd := kd) (rd_ := rd_) (wa_ := wa_) (wb_ := wb_) (op_ := op_) (sl_ := sl_) (fs_ := fs_) (sn_ := sn_) (a_fv := a0) (n_fv := (o11V h).length) (c_fv := c0) (w := v_) (H9.ext x_).mb (hT.ext (H9.ext x_).below) ((H9.ext x_).rv 2 rfl) ((H9.ext x_).rv 1 rfl) h_lv h_kd h_rd_ h_wa_ h_wb_ h_op_ ((H9.ext x_).rv 5 rfl) h_fs_ h_sn_ (by exact o11_ord h) (by omega) (by exact o11F_len h) (by exact o11F_lt h) (by omega)
  exact ca go8 rfl (ec rfl (ec rfl (ec rfl e0))) cc fun _ _ h_ => e2 h_
 refine qy rfl rfl rfl rfl (kq (fun _ x_ => ldX (H9.ext x_) 0 rfl ty32 rfl rfl (by decide) rfl e1) (qy rfl rfl rfl rfl (kq (fun _ _ => mv rfl i1 e1) (qy rfl rfl rfl rfl (kq (fun _ x_ => ldX (H9.ext x_) 4 rfl ty25 rfl rfl (by decide) rfl e1) (qy rfl rfl rfl rfl ?_))))))
 refine kq (v := .bool (holdsR (o11I h) (o11F h) lv kd rd_ wa_ wb_ op_ sl_ fs_ sn_)) (fun v_ x_ => ?_) ?_
 ·
  have cc := ref21_Holds (fi := (o11I h)) (fo := (o11F h)) (lv := lv) (kd := kd) (rd_ := rd_) (wa_ := wa_) (wb_ := wb_) (op_ := op_) (sl_ := sl_) (fs_ := fs_) (sn_ := sn_) (a_fv := a0) (n_fv := (o11V h).length) (c_fv := c0) (w := v_) (H9.ext x_).mb ((H9.ext x_).rv 2 rfl) ((H9.ext x_).rv 1 rfl) h_lv h_kd h_rd_ h_wa_ h_wb_ h_op_ ((H9.ext x_).rv 5 rfl) h_fs_ h_sn_ (by exact o11_ord h) (by omega) (by exact o11F_len h) (by exact o11F_lt h) (by omega)
  exact ca go9 rfl (ec rfl (ec rfl (ec rfl e0))) cc fun _ _ h_ => e2 h_
 refine qy rfl rfl rfl rfl (kq (fun _ _ => eqB rfl rfl rfl rfl un4 e1) (kq (fun _ _ => pickT rfl rfl rfl rfl rfl rfl e1) (kq (fun _ _ => mv (v := .bool ((holdsO (o11I h) (o11F h) lv kd rd_ wa_ wb_ op_ sl_ fs_ sn_) == (holdsR (o11I h) (o11F h) lv kd rd_ wa_ wb_ op_ sl_ fs_ sn_))) rfl rfl e1) ?_)))
 have tr0 : ((holdsO (o11I h) (o11F h) lv kd rd_ wa_ wb_ op_ sl_ fs_ sn_) == (holdsR (o11I h) (o11F h) lv kd rd_ wa_ wb_ op_ sl_ fs_ sn_)) = true := (by rw [beq_iff_eq]; exact (holds_two (o11_ord h) _ _ _ _ _ _ _ _).symm)
 refine qy rfl rfl rfl tr0 (kq (fun _ x_ => ldX (H9.ext x_) 0 rfl ty32 rfl rfl (by decide) rfl e1) (qy rfl rfl rfl tr0 (kq (fun _ _ => fa fl25_5 rfl rfl e1) (qy rfl rfl rfl tr0 (kq (fun _ x_ => lx (H9.ext x_) 4 rfl ty23 rfl rfl rfl e1) (qy rfl rfl rfl tr0 ?_))))))
 refine kq (v := .bool (stepsO (o11I h) (o11F h) sl_)) (fun v_ x_ => ?_) ?_
 ·
  have cc := audit_Steps (fi := (o11I h)) (fo := (o11F h)) (l := sl_) (a_fv := a0) (n_fv := (o11V h).length) (c_fv := c0) (w := v_) (H9.ext x_).mb ((H9.ext x_).rv 2 rfl) ((H9.ext x_).rv 1 rfl) ((H9.ext x_).rv 5 rfl) (by exact o11_ord h) (by omega) (by exact o11F_len h) (by omega)
  exact ca go10 rfl (ec rfl (ec rfl e0)) cc fun _ _ h_ => e2 h_
 refine qy rfl rfl rfl tr0 (kq (fun _ x_ => ldX (H9.ext x_) 0 rfl ty32 rfl rfl (by decide) rfl e1) (qy rfl rfl rfl tr0 (kq (fun _ _ => fa fl25_5 rfl rfl e1) (qy rfl rfl rfl tr0 (kq (fun _ x_ => lx (H9.ext x_) 4 rfl ty23 rfl rfl rfl e1) (qy rfl rfl rfl tr0 ?_))))))
 refine kq (v := .bool (stepsR (o11I h) (o11F h) sl_)) (fun v_ x_ => ?_) ?_
 ·
  have cc := ref21_Steps (fi := (o11I h)) (fo := (o11F h)) (l := sl_) (a_fv := a0) (n_fv := (o11V h).length) (c_fv := c0) (w := v_) (H9.ext x_).mb ((H9.ext x_).rv 2 rfl) ((H9.ext x_).rv 1 rfl) ((H9.ext x_).rv 5 rfl) (by omega) (by exact o11F_len h)
  exact ca go11 rfl (ec rfl (ec rfl e0)) cc fun _ _ h_ => e2 h_
 refine qy rfl rfl rfl tr0 (kq (fun _ _ => eqB rfl rfl rfl rfl un4 e1) (kq (fun _ _ => pickT rfl rfl rfl rfl tr0 rfl e1) (kq (fun _ _ => asg (v := .bool ((stepsO (o11I h) (o11F h) sl_) == (stepsR (o11I h) (o11F h) sl_))) rfl rfl e1) (zq ?_))))
 intro w5 xt4
 have H10 := H9.ext xt4
 refine nx (rt (r1 rfl rfl ?_))
 have tr1 : ((stepsO (o11I h) (o11F h) sl_) == (stepsR (o11I h) (o11F h) sl_)) = true := (by rw [beq_iff_eq]; exact (stepsR_eq (o11_ord h) _).symm)
 exact ⟨congrArg Value.bool (by exact tr1), H10.below⟩
end Go.Proofs.YtefcbihikknlkaaGreatDoor
