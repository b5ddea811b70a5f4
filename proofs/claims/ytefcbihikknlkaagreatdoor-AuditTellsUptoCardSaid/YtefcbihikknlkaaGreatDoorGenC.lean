/- PRINTED by my own tool (wip/tool/gen.py): contracts of Go functions of this seat, each with its proof. -/
import Derived.Test.YtefcbihikknlkaaGreatDoorOwnB
import Derived.Test.YtefcbihikknlkaaGreatDoorGenA
import Derived.Test.YtefcbihikknlkaaGreatDoorGenB
import Derived.Test.YtefcbihikknlkaaGreatDoorOwnA
set_option linter.unusedVariables false
set_option linter.unusedSimpArgs false
namespace Go.Proofs.YtefcbihikknlkaaGreatDoor
open Go.Ew Go.RowKit
set_option maxRecDepth 100000
set_option maxHeartbeats 1600000
attribute [local irreducible] WL WC SO PW PX Code.wp wpList retQ Ret
attribute [local irreducible] bitB hasW inR hasR setR countW countR subR words newR listR orR firstW tab8
variable {M : Nat → Prop} {w w_ : World}
theorem fl92_0 : FldF Tryz.prog 92 0 0 := ⟨_, _, Tryz.underlying92, rfl, rfl, by kernel_rfl⟩
theorem go19 : GoF Tryz.prog 19 := ⟨_, _, Tryz.func19, rfl, by kernel_rfl⟩
theorem fl92_4 : FldF Tryz.prog 92 4 4 := ⟨_, _, Tryz.underlying92, rfl, rfl, by kernel_rfl⟩
theorem go92 : GoF Tryz.prog 92 := ⟨_, _, Tryz.func92, rfl, by kernel_rfl⟩
theorem go91 : GoF Tryz.prog 91 := ⟨_, _, Tryz.func91, rfl, by kernel_rfl⟩
theorem go52 : GoF Tryz.prog 52 := ⟨_, _, Tryz.func52, rfl, by kernel_rfl⟩
theorem go93 : GoF Tryz.prog 93 := ⟨_, _, Tryz.func93, rfl, by kernel_rfl⟩
theorem go86 : GoF Tryz.prog 86 := ⟨_, _, Tryz.func86, rfl, by kernel_rfl⟩
theorem go46 : GoF Tryz.prog 46 := ⟨_, _, Tryz.func46, rfl, by kernel_rfl⟩
theorem aud_within1 {kd : Int} {fr : Int} {to : Int} {sa : Int} {sb : Int} {b_b1_ : Nat} {ty_b1_ : TypeId} {a_wl : OA} {c_wl : Nat} {wl : List Int} {b_b2_ : Nat} {ty_b2_ : TypeId} {a_kl : OA} {c_kl : Nat} {kl : List Int} (hM : ∀ b, M b → b < w.heap.size) (h_kd : I64 kd) (h_fr : I64 fr) (h_to : I64 to) (h_sa : I64 sa) (h_sb : I64 sb) (h_wl : RV M w (.slice a_wl wl.length c_wl) wl) (h_kl : RV M w (.slice a_kl kl.length c_kl) kl) (h_b1_ : w.heap[b_b1_]? = some (.cells #[.slice a_wl wl.length c_wl] ty_b1_ (0, 0)) ∧ ¬ M b_b1_) (h_b2_ : w.heap[b_b2_]? = some (.cells #[.slice a_kl kl.length c_kl] ty_b2_ (0, 0)) ∧ ¬ M b_b2_) : Calls Tryz.prog 93 #[.agg #[.int .i64 kd, .int .i64 fr, .int .i64 to, .int .i64 sa, .int .i64 sb], .pointer (some ⟨b_b1_, 0, none⟩), .pointer (some ⟨b_b2_, 0, none⟩)] w (Ret fun v w' =>  v = .bool (withinO wl kl (kd, fr, to, sa, sb)) ∧ Ext w w') := by
 refine enter 22 Tryz.func93 rfl rfl rfl fun f0 ha => ?_
 have H := HI.start (M0 := M) (w := w) hM
 have H0 := H.put (it := iL a_wl wl c_wl) rfl (by rw [MS_nil]; exact h_wl)
 have H1 := H0.put (it := iL a_kl kl c_kl) rfl (by rw [MS_cons_none rfl, MS_nil]; exact h_kl)
 have ln_wl := rv_len h_wl
 have ln_kl := rv_len h_kl
 have i0 : f0 0 = .agg #[iV kd, iV fr, iV to, iV sa, iV sb] := ha 0 (by simp)
 have H2 := H1.put (it := ro b_b1_ #[sL a_wl wl c_wl] ty_b1_) rfl (by rw [MS_cons_none rfl, MS_cons_none rfl, MS_nil]; exact h_b1_)
 have i1 : f0 1 = pV b_b1_ 0 := ha 1 (by simp)
 have H3 := H2.put (it := ro b_b2_ #[sL a_kl kl c_kl] ty_b2_) rfl (by rw [MS_cons_none rfl, MS_cons_none rfl, MS_cons_none rfl, MS_nil]; exact h_b2_)
 have i2 : f0 2 = pV b_b2_ 0 := ha 2 (by simp)
 refine sq (rg (k (bx H3 rfl i0 ?_)))
 intro bb0 w0 xt0 (H4 : HI M w w0 [box bb0 #[iV kd, iV fr, iV to, iV sa, iV sb] 92, ro b_b2_ #[sL a_kl kl c_kl] ty_b2_, ro b_b1_ #[sL a_wl wl c_wl] ty_b1_, iL a_kl kl c_kl, iL a_wl wl c_wl])
 refine k (asg (v := .bool false) rfl rfl (z (nx (sq (sq (rg (k (fa fl92_0 rfl rfl (k (lx H4 0 rfl ty3 rfl rfl rfl (z (nx (bk (sq (sq (rg (k (eql rfl rfl rfl rfl (k (asg (v := .bool (decide (kd = 1))) rfl rfl (z (nx ?_))))))))))))))))))))))
 refine cd (b := decide (kd = 1)) rfl rfl (fun b0 => ?_) (fun b0 => ?_)
 ·
  have p0 := dT b0
  refine sk (nx (cdT rfl rfl b0 (sq (rg (k (lr H4 2 rfl ty30 rfl i1 rfl (k (fa fl92_2 rfl rfl (k (lx H4 0 rfl ty3 rfl rfl rfl (k ?_)))))))))))
  have cc0 := contains_int (l0_ := wl) (v0_ := to) (w := w0) H4.mb (H4.rv 4 rfl) h_to
  refine ca go19 rfl (ec rfl (ec rfl e0)) cc0 ?_
  rintro _ w1 ⟨rfl, xt1⟩
  have H5 := H4.ext xt1
  refine k (not_ rfl rfl (k (asg (v := .bool (!(wl.any (fun (z_ : Int) => decide (to = z_))))) rfl rfl (z (nx (rt (inb_ret (then_ret (r1 rfl rfl ?_)))))))))
  exact ⟨congrArg Value.bool (by simp only [withinO, hasI, b0, BL]), H5.below⟩
 have p0 := dF b0
 refine rg (k (eql rfl rfl rfl rfl (k (asg (v := .bool (decide (kd = 2))) rfl rfl (z (nx ?_))))))
 refine cd (b := decide (kd = 2)) rfl rfl (fun b1 => ?_) (fun b1 => ?_)
 ·
  have p1 := dT b1
  refine sq (rg (k (lr H4 2 rfl ty30 rfl i1 rfl (k (fa fl92_2 rfl rfl (k (lx H4 0 rfl ty3 rfl rfl rfl (k ?_))))))))
  have cc0 := contains_int (l0_ := wl) (v0_ := to) (w := w0) H4.mb (H4.rv 4 rfl) h_to
  refine ca go19 rfl (ec rfl (ec rfl e0)) cc0 ?_
  rintro _ w1 ⟨rfl, xt1⟩
  have H5 := H4.ext xt1
  refine k (not_ rfl rfl (k (asg (v := .bool (!(wl.any (fun (z_ : Int) => decide (to = z_))))) rfl rfl (z (nx (rt (inb_ret (then_ret (r1 rfl rfl ?_)))))))))
  exact ⟨congrArg Value.bool (by simp only [withinO, hasI, b0, b1, BL]), H5.below⟩
 have p1 := dF b1
 refine sq (rg (k (eql rfl rfl rfl rfl (k (asg (v := .bool (decide (kd = 4))) rfl rfl (z (nx ?_)))))))
 refine cd (b := decide (kd = 4)) rfl rfl (fun b2 => ?_) (fun b2 => ?_)
 ·
  have p2 := dT b2
  refine sq (rg (k (lr H4 1 rfl ty30 rfl i2 rfl (k (fa fl92_4 rfl rfl (k (lx H4 0 rfl ty3 rfl rfl rfl (k ?_))))))))
  have cc0 := contains_int (l0_ := kl) (v0_ := sb) (w := w0) H4.mb (H4.rv 3 rfl) h_sb
  refine ca go19 rfl (ec rfl (ec rfl e0)) cc0 ?_
  rintro _ w1 ⟨rfl, xt1⟩
  have H5 := H4.ext xt1
  refine k (not_ rfl rfl (k (asg (v := .bool (!(kl.any (fun (z_ : Int) => decide (sb = z_))))) rfl rfl (z (nx (rt (inb_ret (then_ret (r1 rfl rfl ?_)))))))))
  exact ⟨congrArg Value.bool (by simp only [withinO, hasI, b0, b1, b2, BL]), H5.below⟩
 have p2 := dF b2
 refine sk (inb_normal (nx (sq (rg (k (asg (v := .bool false) rfl rfl (z (nx (rt (r1 rfl rfl ?_))))))))))
 exact ⟨congrArg Value.bool (by simp only [withinO, hasI, b0, b1, b2, BL]), H4.below⟩
theorem aud_within {b_a : Nat} {ty_a : TypeId} {a_fv : OA} {n_fv c_fv : Nat} {a_fi : OA} {c_fi : Nat} {fi : List ItemL} {a_fo : OA} {c_fo : Nat} {fo : List Int} {a_stp : OA} {c_stp : Nat} {stp : List StepL} {a_pl : OA} {n_pl c_pl : Nat} {op_ : Int} (hM : ∀ b, M b → b < w.heap.size) (hT : TabAt 0 w) (h_fi : RV M w (.slice a_fi fi.length c_fi) fi) (h_fo : RV M w (.slice a_fo fo.length c_fo) fo) (h_stp : RV M w (.slice a_stp stp.length c_stp) stp) (h_op_ : I64 op_) (h_a : w.heap[b_a]? = some (.cells #[.slice a_fv n_fv c_fv, .slice a_fi fi.length c_fi, .slice a_fo fo.length c_fo, .slice a_stp stp.length c_stp, .slice a_pl n_pl c_pl] ty_a (0, 0)) ∧ ¬ M b_a) (ho : OrdI fi) (hn_fi : fi.length ≤ 4096) (hfo : fo.length = fi.length) (hfr : ∀ x ∈ fo, x < ((fi.length : Nat) : Int)) : Calls Tryz.prog 53 #[.pointer (some ⟨b_a, 0, none⟩), .int .i64 op_] w (Ret fun v w' =>  v = .bool (wthO fi fo stp op_) ∧ Ext w w') := by
 refine enter 27 Tryz.func53 rfl rfl rfl fun f0 ha => ?_
 have H := HI.start (M0 := M) (w := w) hM
 have H0 := H.put (it := iL a_fi fi c_fi) rfl (by rw [MS_nil]; exact h_fi)
 have H1 := H0.put (it := iL a_fo fo c_fo) rfl (by rw [MS_cons_none rfl, MS_nil]; exact h_fo)
 have H2 := H1.put (it := iL a_stp stp c_stp) rfl (by rw [MS_cons_none rfl, MS_cons_none rfl, MS_nil]; exact h_stp)
 have ln_fi := rv_len h_fi
 have ln_fo := rv_len h_fo
 have ln_stp := rv_len h_stp
 have H3 := H2.put (it := ro b_a #[.slice a_fv n_fv c_fv, sL a_fi fi c_fi, sL a_fo fo c_fo, sL a_stp stp c_stp, .slice a_pl n_pl c_pl] ty_a) rfl (by rw [MS_cons_none rfl, MS_cons_none rfl, MS_cons_none rfl, MS_nil]; exact h_a)
 have i0 : f0 0 = pV b_a 0 := ha 0 (by simp)
 have i1 : f0 1 = iV op_ := ha 1 (by simp)
 refine sq (rg (k (asg (v := .bool false) rfl rfl (z (nx (sq ?_))))))
 refine drn [.v, .v, .v, .v, .v, .v, .v, .v, .v, .v, .v, .v, .v, .n, .n, .s 13 6, .s 14 12] [fun (N : Nat → Prop) (v : Value) (w' : World) => v = pV b_a 0, fun (N : Nat → Prop) (v : Value) (w' : World) => v = pV b_a 0, fun (N : Nat → Prop) (v : Value) (w' : World) => v = pV b_a 0, fun (N : Nat → Prop) (v : Value) (w' : World) => v = .agg #[.slice a_fv n_fv c_fv, sL a_fi fi c_fi, sL a_fo fo c_fo], fun (N : Nat → Prop) (v : Value) (w' : World) => ∃ (a0 : OA) (c0 : Nat), v = .agg #[iV (fi.length : Int), sL a0 (coR fi fo) c0] ∧ RV (MN (MS M [ro b_a #[.slice a_fv n_fv c_fv, sL a_fi fi c_fi, sL a_fo fo c_fo, sL a_stp stp c_stp, .slice a_pl n_pl c_pl] ty_a, iL a_stp stp c_stp, iL a_fo fo c_fo, iL a_fi fi c_fi]) N) w' (sL a0 (coR fi fo) c0) (coR fi fo), fun (N : Nat → Prop) (v : Value) (w' : World) => v = iV op_, fun (N : Nat → Prop) (v : Value) (w' : World) => ∃ (a1 : OA) (c1 : Nat), v = sL a1 (withL (fi.length : Int) (coR fi fo) op_) c1 ∧ RV (MN (MS M [ro b_a #[.slice a_fv n_fv c_fv, sL a_fi fi c_fi, sL a_fo fo c_fo, sL a_stp stp c_stp, .slice a_pl n_pl c_pl] ty_a, iL a_stp stp c_stp, iL a_fo fo c_fo, iL a_fi fi c_fi]) N) w' (sL a1 (withL (fi.length : Int) (coR fi fo) op_) c1) (withL (fi.length : Int) (coR fi fo) op_), fun (N : Nat → Prop) (v : Value) (w' : World) => v = pV b_a 0, fun (N : Nat → Prop) (v : Value) (w' : World) => v = pV b_a 0, fun (N : Nat → Prop) (v : Value) (w' : World) => v = pV b_a 0, fun (N : Nat → Prop) (v : Value) (w' : World) => v = .agg #[.slice a_fv n_fv c_fv, sL a_fi fi c_fi, sL a_fo fo c_fo], fun (N : Nat → Prop) (v : Value) (w' : World) => v = iV op_, fun (N : Nat → Prop) (v : Value) (w' : World) => ∃ (a2 : OA) (c2 : Nat), v = sL a2 (keepL (wrQ fi) (pastA fi op_)) c2 ∧ RV (MN (MS M [ro b_a #[.slice a_fv n_fv c_fv, sL a_fi fi c_fi, sL a_fo fo c_fo, sL a_stp stp c_stp, .slice a_pl n_pl c_pl] ty_a, iL a_stp stp c_stp, iL a_fo fo c_fo, iL a_fi fi c_fi]) N) w' (sL a2 (keepL (wrQ fi) (pastA fi op_)) c2) (keepL (wrQ fi) (pastA fi op_)), fun _ _ _ => True, fun _ _ _ => True, fun _ _ _ => True, fun _ _ _ => True] [(#[], 0), (#[], 0), (#[], 0), (#[], 0), (#[], 0), (#[], 0), (#[], 0), (#[], 0), (#[], 0), (#[], 0), (#[], 0), (#[], 0), (#[], 0), (#[.slice none 0 0], 30), (#[.slice none 0 0], 30), (#[], 0), (#[], 0)] rfl (by kernel_rfl) ?_ ?_
 ·
  refine ⟨⟨fun _ _ _ _ _ _ h => h, rfl, fun f0 w5 N0 hf0 xt5 hN0 hp0 => ?_⟩, ?_⟩
  ·
   refine mv rfl ((hf0 0 rfl).trans i0) ?_
   exact ⟨_, rfl, Ext.refl _, rfl⟩
  refine ⟨⟨fun _ _ _ _ _ _ h => h, rfl, fun f1 w6 N1 hf1 xt6 hN1 hp1 => ?_⟩, ?_⟩
  ·
   have hq0 := hp1 0 rfl ⟨_, rfl, rfl⟩
   have s0 : f1 7 = pV b_a 0 := hq0
   refine nc rfl s0 ?_
   exact ⟨_, rfl, Ext.refl _, rfl⟩
  refine ⟨⟨fun _ _ _ _ _ _ h => h, rfl, fun f2 w7 N2 hf2 xt7 hN2 hp2 => ?_⟩, ?_⟩
  ·
   have hq1 := hp2 1 rfl ⟨_, rfl, rfl⟩
   have s1 : f2 8 = pV b_a 0 := hq1
   refine fa fl57_0 rfl s1 ?_
   exact ⟨_, rfl, Ext.refl _, rfl⟩
  refine ⟨⟨fun _ _ _ _ _ _ h => h, rfl, fun f3 w8 N3 hf3 xt8 hN3 hp3 => ?_⟩, ?_⟩
  ·
   have hq2 := hp3 2 rfl ⟨_, rfl, rfl⟩
   have s2 : f3 9 = pV b_a 0 := hq2
   refine ldR (H3.ext xt8) 0 rfl ty32 rfl s2 (by decide) rfl ?_
   exact ⟨_, rfl, Ext.refl _, rfl⟩
  refine ⟨⟨by rintro _ _ _ _ _ k_ ⟨a0, c0, e_, rv3⟩; exact ⟨a0, c0, e_, rvn_keep rv3 k_⟩, rfl, fun f4 w9 N4 hf4 xt9 hN4 hp4 => ?_⟩, ?_⟩
  ·
   have hq3 := hp4 3 rfl ⟨_, rfl, rfl⟩
   have s3 : f4 10 = .agg #[.slice a_fv n_fv c_fv, sL a_fi fi c_fi, sL a_fo fo c_fo] := hq3
   have cc3 := cause_Co (fi := fi) (fo := fo) (a_fv := a_fv) (n_fv := n_fv) (c_fv := c_fv) (w := w9) (mn_below H3.mb xt9 hN4) (rvn_old (H3.rv 3 rfl) xt9 hN4) (rvn_old (H3.rv 2 rfl) xt9 hN4) (by exact ho) (by first | exact hn_fi | omega) (by exact hfo) (by exact hfr)
   refine ca go92 rfl (ec s3 e0) cc3 ?_
   rintro _ w10 ⟨a3, c3, rfl, xt10, rv6⟩
   exact ⟨_, rfl, xt10, ⟨a3, c3, rfl, rv6⟩⟩
  refine ⟨⟨fun _ _ _ _ _ _ h => h, rfl, fun f5 w11 N5 hf5 xt11 hN5 hp5 => ?_⟩, ?_⟩
  ·
   refine mv rfl ((hf5 1 rfl).trans i1) ?_
   exact ⟨_, rfl, Ext.refl _, rfl⟩
  refine ⟨⟨by rintro _ _ _ _ _ k_ ⟨a1, c1, e_, rv4⟩; exact ⟨a1, c1, e_, rvn_keep rv4 k_⟩, rfl, fun f6 w12 N6 hf6 xt12 hN6 hp6 => ?_⟩, ?_⟩
  ·
   have hq4 := hp6 4 rfl ⟨_, rfl, rfl⟩
   obtain ⟨a0, c0, s4, rv3⟩ := hq4
   have hq5 := hp6 5 rfl ⟨_, rfl, rfl⟩
   have s5 : f6 12 = iV op_ := hq5
   have cc4 := past_With (mn := (fi.length : Int)) (mr := (coR fi fo)) (o := op_) (w := w12) (mn_below H3.mb xt12 hN6) (hT.ext (H3.below.trans xt12)) (by unfold I64 at *; omega) rv3 h_op_ (by exact co_right _ hn_fi)
   refine ca go91 rfl (ec s4 (ec s5 e0)) cc4 ?_
   rintro _ w13 ⟨a4, c4, rfl, xt13, rv7⟩
   exact ⟨_, rfl, xt13, ⟨a4, c4, rfl, (OwnsG.rv rv7 (mn_below H3.mb xt12 hN6))⟩⟩
  refine ⟨⟨fun _ _ _ _ _ _ h => h, rfl, fun f7 w14 N7 hf7 xt14 hN7 hp7 => ?_⟩, ?_⟩
  ·
   refine mv rfl ((hf7 0 rfl).trans i0) ?_
   exact ⟨_, rfl, Ext.refl _, rfl⟩
  refine ⟨⟨fun _ _ _ _ _ _ h => h, rfl, fun f8 w15 N8 hf8 xt15 hN8 hp8 => ?_⟩, ?_⟩
  ·
   have hq6 := hp8 7 rfl ⟨_, rfl, rfl⟩
   have s6 : f8 14 = pV b_a 0 := hq6
   refine nc rfl s6 ?_
   exact ⟨_, rfl, Ext.refl _, rfl⟩
  refine ⟨⟨fun _ _ _ _ _ _ h => h, rfl, fun f9 w16 N9 hf9 xt16 hN9 hp9 => ?_⟩, ?_⟩
  ·
   have hq7 := hp9 8 rfl ⟨_, rfl, rfl⟩
   have s7 : f9 15 = pV b_a 0 := hq7
   refine fa fl57_0 rfl s7 ?_
   exact ⟨_, rfl, Ext.refl _, rfl⟩
  refine ⟨⟨fun _ _ _ _ _ _ h => h, rfl, fun f10 w17 N10 hf10 xt17 hN10 hp10 => ?_⟩, ?_⟩
  ·
   have hq8 := hp10 9 rfl ⟨_, rfl, rfl⟩
   have s8 : f10 16 = pV b_a 0 := hq8
   refine ldR (H3.ext xt17) 0 rfl ty32 rfl s8 (by decide) rfl ?_
   exact ⟨_, rfl, Ext.refl _, rfl⟩
  refine ⟨⟨fun _ _ _ _ _ _ h => h, rfl, fun f11 w18 N11 hf11 xt18 hN11 hp11 => ?_⟩, ?_⟩
  ·
   refine mv rfl ((hf11 1 rfl).trans i1) ?_
   exact ⟨_, rfl, Ext.refl _, rfl⟩
  refine ⟨⟨by rintro _ _ _ _ _ k_ ⟨a2, c2, e_, rv5⟩; exact ⟨a2, c2, e_, rvn_keep rv5 k_⟩, rfl, fun f12 w19 N12 hf12 xt19 hN12 hp12 => ?_⟩, ?_⟩
  ·
   have hq9 := hp12 10 rfl ⟨_, rfl, rfl⟩
   have s9 : f12 17 = .agg #[.slice a_fv n_fv c_fv, sL a_fi fi c_fi, sL a_fo fo c_fo] := hq9
   have hq10 := hp12 11 rfl ⟨_, rfl, rfl⟩
   have s10 : f12 18 = iV op_ := hq10
   have cc5 := past_Kept (fi := fi) (o := op_) (a_fv := a_fv) (n_fv := n_fv) (c_fv := c_fv) (a_fo := a_fo) (n_fo := fo.length) (c_fo := c_fo) (w := w19) (mn_below H3.mb xt19 hN12) (rvn_old (H3.rv 3 rfl) xt19 hN12) h_op_ (by exact ho) (by first | exact hn_fi | omega)
   refine ca go52 rfl (ec s9 (ec s10 e0)) cc5 ?_
   rintro _ w20 ⟨a5, c5, rfl, xt20, rv8⟩
   exact ⟨_, rfl, xt20, ⟨a5, c5, rfl, (OwnsG.rv rv8 (mn_below H3.mb xt19 hN12))⟩⟩
  refine ⟨⟨fun _ _ _ _ _ _ h => h, rfl, fun _ _ _ => trivial, fun f13 w21 N13 hf13 xt21 hN13 hp13 => ?_⟩, ?_⟩
  ·
   refine alS ty30 ?_
   exact ⟨rfl, rfl⟩
  refine ⟨⟨fun _ _ _ _ _ _ h => h, rfl, fun _ _ _ => trivial, fun f14 w22 N14 hf14 xt22 hN14 hp14 => ?_⟩, ?_⟩
  ·
   refine alS ty30 ?_
   exact ⟨rfl, rfl⟩
  refine ⟨⟨fun _ _ _ _ _ _ h => h, rfl, rfl, rfl, ⟨_, rfl, rfl⟩, ⟨_, rfl, rfl⟩, by decide, trivial, by rintro _ _ _ ⟨a1, c1, e_, rv4⟩; subst e_; rfl, fun f15 w23 N_ bb2 cur0 xt23 s11 hb0 hc0 hv0 => ?_⟩, ?_⟩
  ·
   obtain ⟨a1, c1, e_, rv4⟩ := hv0
   exact stS ty30 rfl rfl s11 rfl hb0 ((congrArg (fun v => v.cells.size) e_).trans rfl) hc0 ((congrArg (fun v => v.cells.toList.all Value.oneCell') e_).trans rfl)
  refine ⟨⟨fun _ _ _ _ _ _ h => h, rfl, rfl, rfl, ⟨_, rfl, rfl⟩, ⟨_, rfl, rfl⟩, by decide, trivial, by rintro _ _ _ ⟨a2, c2, e_, rv5⟩; subst e_; rfl, fun f16 w24 N_ bb3 cur1 xt24 s12 hb1 hc1 hv1 => ?_⟩, ?_⟩
  ·
   obtain ⟨a2, c2, e_, rv5⟩ := hv1
   exact stS ty30 rfl rfl s12 rfl hb1 ((congrArg (fun v => v.cells.size) e_).trans rfl) hc1 ((congrArg (fun v => v.cells.toList.all Value.oneCell') e_).trans rfl)
  exact trivial
 ·
  intro f17 w25 I0 hf15 xt25 hp15 hN15 hd0
  have s13 : f17 0 = pV b_a 0 := (hf15 0 rfl).trans i0
  obtain ⟨a6, c6, s14, rv9⟩ := (hp15 6 _ rfl rfl)
  obtain ⟨a7, c7, s15, rv10⟩ := (hp15 12 _ rfl rfl)
  obtain ⟨s16, hg0, -, cur2, hc2, hk0⟩ := hN15 13 (by decide) trivial
  have hq11 : cur2 = #[sL a6 (withL (fi.length : Int) (coR fi fo) op_) c6] := (hk0.2.1 15 6 rfl rfl).trans (congrArg Value.cells s14)
  rw [hq11] at hc2
  have hz13_ := hg0
  obtain ⟨s17, hg1, -, cur3, hc3, hk1⟩ := hN15 14 (by decide) trivial
  have hq12 : cur3 = #[sL a7 (keepL (wrQ fi) (pastA fi op_)) c7] := (hk1.2.1 16 12 rfl rfl).trans (congrArg Value.cells s15)
  rw [hq12] at hc3
  have hz14_ := hg1
  have hd13_14 := hd0 13 14 (by decide) (by decide) (by decide) trivial trivial
  have H6 : HI M w w25 [box (I0 13) #[sL a6 (withL (fi.length : Int) (coR fi fo) op_) c6] 30, box (I0 14) #[sL a7 (keepL (wrQ fi) (pastA fi op_)) c7] 30, ro b_a #[.slice a_fv n_fv c_fv, sL a_fi fi c_fi, sL a_fo fo c_fo, sL a_stp stp c_stp, .slice a_pl n_pl c_pl] ty_a, iL a_stp stp c_stp, iL a_fo fo c_fo, iL a_fi fi c_fi] := H3.lays xt25 [((I0 13), #[sL a6 (withL (fi.length : Int) (coR fi fo) op_) c6], 30), ((I0 14), #[sL a7 (keepL (wrQ fi) (pastA fi op_)) c7], 30)] (by intro q_ hq_; simp only [List.mem_cons, List.not_mem_nil, or_false] at hq_; rcases hq_ with rfl | rfl <;> first | exact ⟨hz13_, hc2⟩ | exact ⟨hz14_, hc3⟩) (by simp only [List.map_cons, List.map_nil, List.nodup_cons, List.mem_cons, List.not_mem_nil, or_false, List.nodup_nil, and_true, not_or, not_false_eq_true, true_and] <;> omega)
  have H7 := H6.put (it := iL a6 (withL (fi.length : Int) (coR fi fo) op_) c6) rfl (rvn_out [((I0 13), #[sL a6 (withL (fi.length : Int) (coR fi fo) op_) c6], 30), ((I0 14), #[sL a7 (keepL (wrQ fi) (pastA fi op_)) c7], 30)] rv9 (by intro q_ hq_; simp only [List.mem_cons, List.not_mem_nil, or_false] at hq_; rcases hq_ with rfl | rfl <;> first | exact ⟨13, by decide, rfl, trivial, rfl⟩ | exact ⟨14, by decide, rfl, trivial, rfl⟩))
  have H8 := H7.put (it := iL a7 (keepL (wrQ fi) (pastA fi op_)) c7) rfl (by rw [MS_cons_none rfl]; exact (rvn_out [((I0 13), #[sL a6 (withL (fi.length : Int) (coR fi fo) op_) c6], 30), ((I0 14), #[sL a7 (keepL (wrQ fi) (pastA fi op_)) c7], 30)] rv10 (by intro q_ hq_; simp only [List.mem_cons, List.not_mem_nil, or_false] at hq_; rcases hq_ with rfl | rfl <;> first | exact ⟨13, by decide, rfl, trivial, rfl⟩ | exact ⟨14, by decide, rfl, trivial, rfl⟩)))
  refine nx (sq (rg (k (mv rfl s13 (k (nc rfl rfl (k (fa fl57_1 rfl rfl (k (lr H8 4 rfl ty23 rfl rfl rfl (k (mf2 rfl (mfc s16 (mfc s17 mf0)) (k ?_)))))))))))))
  have cc6 := containsFunc_step (r := stp) (p := (fun (x_ : StepL) => withinO (withL (fi.length : Int) (coR fi fo) op_) (keepL (wrQ fi) (pastA fi op_)) (x_.1, x_.2.1, x_.2.2.1, x_.2.2.2.1, x_.2.2.2.2))) (w := w25) H8.mb (H8.rv 5 rfl) ⟨go93, fun w_ v_ x_ hx_ e_ hv_ => by have H_ := H8.ext e_; obtain ⟨_, ⟨_, _, rfl, ⟨rfl, rv11⟩, ⟨_, _, rfl, ⟨rfl, rv12⟩, ⟨_, _, rfl, ⟨rfl, rv13⟩, ⟨_, _, rfl, ⟨rfl, rv14⟩, ⟨rfl, rv15⟩⟩⟩⟩⟩, rfl⟩ := hv_; exact aud_within1 (wl := (withL (fi.length : Int) (coR fi fo) op_)) (kl := (keepL (wrQ fi) (pastA fi op_))) (M := fun _ => False) (fun _ h_ => h_.elim) rv11 rv12 rv13 rv14 rv15 ((H_.rv 1 rfl).lift (Up.less fun _ _ h_ => h_.elim)) ((H_.rv 0 rfl).lift (Up.less fun _ _ h_ => h_.elim)) ⟨H_.at_ 2 rfl, fun h_ => h_⟩ ⟨H_.at_ 3 rfl, fun h_ => h_⟩⟩
  refine ca go86 rfl (ec rfl (ec rfl e0)) cc6 ?_
  rintro _ w26 ⟨rfl, xt26⟩
  have H9 := H8.ext xt26
  refine k (not_ rfl rfl (k (asg (v := .bool (!(stp.any (fun (x_ : StepL) => withinO (withL (fi.length : Int) (coR fi fo) op_) (keepL (wrQ fi) (pastA fi op_)) (x_.1, x_.2.1, x_.2.2.1, x_.2.2.2.1, x_.2.2.2.2))))) rfl rfl (z (nx (rt (r1 rfl rfl ?_)))))))
  exact ⟨congrArg Value.bool (show (!(stp.any (fun (x_ : StepL) => withinO (withL (fi.length : Int) (coR fi fo) op_) (keepL (wrQ fi) (pastA fi op_)) (x_.1, x_.2.1, x_.2.2.1, x_.2.2.2.1, x_.2.2.2.2)))) = (wthO fi fo stp op_) from rfl), H9.below⟩
theorem aud_early {b_a : Nat} {ty_a : TypeId} {a_fv : OA} {n_fv c_fv : Nat} {a_fi : OA} {c_fi : Nat} {fi : List ItemL} {a_fo : OA} {c_fo : Nat} {fo : List Int} {a_stp : OA} {n_stp c_stp : Nat} {a_pl : OA} {n_pl c_pl : Nat} {n1 : Int} {n2 : Int} (hM : ∀ b, M b → b < w.heap.size) (h_fi : RV M w (.slice a_fi fi.length c_fi) fi) (h_fo : RV M w (.slice a_fo fo.length c_fo) fo) (h_n1 : I64 n1) (h_n2 : I64 n2) (h_a : w.heap[b_a]? = some (.cells #[.slice a_fv n_fv c_fv, .slice a_fi fi.length c_fi, .slice a_fo fo.length c_fo, .slice a_stp n_stp c_stp, .slice a_pl n_pl c_pl] ty_a (0, 0)) ∧ ¬ M b_a) (hfo : fo.length = fi.length) : Calls Tryz.prog 49 #[.pointer (some ⟨b_a, 0, none⟩), .int .i64 n1, .int .i64 n2] w (Ret fun v w' =>  v = .bool (earlyO fi fo n1 n2) ∧ Ext w w') := by
 refine enter 55 Tryz.func49 rfl rfl rfl fun f0 ha => ?_
 have H := HI.start (M0 := M) (w := w) hM
 have H0 := H.put (it := iL a_fi fi c_fi) rfl (by rw [MS_nil]; exact h_fi)
 have H1 := H0.put (it := iL a_fo fo c_fo) rfl (by rw [MS_cons_none rfl, MS_nil]; exact h_fo)
 have ln_fi := rv_len h_fi
 have ln_fo := rv_len h_fo
 have H2 := H1.put (it := ro b_a #[.slice a_fv n_fv c_fv, sL a_fi fi c_fi, sL a_fo fo c_fo, .slice a_stp n_stp c_stp, .slice a_pl n_pl c_pl] ty_a) rfl (by rw [MS_cons_none rfl, MS_cons_none rfl, MS_nil]; exact h_a)
 have i0 : f0 0 = pV b_a 0 := ha 0 (by simp)
 have i1 : f0 1 = iV n1 := ha 1 (by simp)
 have i2 : f0 2 = iV n2 := ha 2 (by simp)
 refine sq (rg (k (asg (v := .bool false) rfl rfl (z (nx (sq ?_))))))
 refine drX rfl (by kernel_rfl) ?_
 refine xq rfl (kq (fun _ _ => mv rfl i0 e1) (zq (xq rfl (kq (fun _ _ => mv rfl i1 e1) (zq (xq rfl (kq (fun _ _ => mv rfl i2 e1) (zq ?_))))))))
 refine xu (fun v w' => ∃ (a0 : OA) (c0 : Nat), v = sL a0 ([n1, n2] : List Int) c0 ∧ RV (MS M [ro b_a #[.slice a_fv n_fv c_fv, sL a_fi fi c_fi, sL a_fo fo c_fo, .slice a_stp n_stp c_stp, .slice a_pl n_pl c_pl] ty_a, iL a_fo fo c_fo, iL a_fi fi c_fi]) w' (sL a0 ([n1, n2] : List Int) c0) ([n1, n2] : List Int)) rfl (by rintro _ _ _ x_ ⟨a0, c0, e_, rv0⟩; exact ⟨a0, c0, e_, rv0.lift (Up.ext x_)⟩) rfl (fun v_ x_ => ?_) ?_
 ·
  have H5 := H2.ext x_
  refine bs (xs := ([n1, n2] : List Int)) (cells := #[iV n1, iV n2]) (e := 3) H5 rfl (pbc rfl (pbc rfl pb0)) (fun _ => by kernel_rfl) ⟨[iV n1], [iV n2], rfl, ⟨rfl, h_n1⟩, ⟨[iV n2], [], rfl, ⟨rfl, h_n2⟩, rfl⟩⟩ rfl (by decide) ?_
  intro g1 w1 xt1 (H6 : HI M w w1 [own w.heap.size 3 (.slice (some ⟨g1, 0, none⟩) 2 2) ([n1, n2] : List Int), ro b_a #[.slice a_fv n_fv c_fv, sL a_fi fi c_fi, sL a_fo fo c_fo, .slice a_stp n_stp c_stp, .slice a_pl n_pl c_pl] ty_a, iL a_fo fo c_fo, iL a_fi fi c_fi])
  have H7 := H6.freeze 0 rfl
  exact ⟨_, rfl, xt1, ⟨(some ⟨g1, 0, none⟩), 2, rfl, (rv_drop rfl (H7.rv 0 rfl))⟩⟩
 refine xk1 (X := .bool (!(([n1, n2] : List Int).any (outO fi)))) 0 rfl rfl (fun v_ u_ x_ h_ => ?_) ?_
 ·
  have H9 := H2.ext x_
  obtain ⟨a2, c2, s0, rv2⟩ := h_
  have H10 := H9.put (it := iL a2 ([n1, n2] : List Int) c2) rfl rv2
  have cc := aud_op (fi := fi) (l := ([n1, n2] : List Int)) (w := v_) H10.mb (H10.rv 3 rfl) (H10.rv 0 rfl) (H10.at_ 1 rfl)
  exact ca go46 rfl (ec rfl (ec s0 e0)) cc fun _ _ h_ => e2 h_
 refine xq rfl (kq (fun _ _ => mv (v := .bool (!(([n1, n2] : List Int).any (outO fi)))) rfl rfl e1) (zq ?_))
 rcases bE (!(([n1, n2] : List Int).any (outO fi))) with b0 | b0
 ·
  refine xq rfl (qy rfl rfl rfl b0 (kq (fun _ _ => mv rfl i0 e1) (zq (xq rfl (qy rfl rfl rfl b0 (kq (fun _ _ => nc rfl rfl e1) (zq (xq rfl (qy rfl rfl rfl b0 (kq (fun _ _ => fa fl57_0 rfl rfl e1) (zq (xq rfl (qy rfl rfl rfl b0 (kq (fun _ _ => fa fl32_2 rfl rfl e1) (zq (xq rfl (qy rfl rfl rfl b0 (kq (fun _ x_ => lr (H2.ext x_) 0 rfl ty30 rfl rfl rfl e1) (zq (xq rfl (qy rfl rfl rfl b0 (kq (fun _ _ => mv rfl i1 e1) (zq (xq rfl (qy rfl rfl rfl b0 (q_ia (H2.rv 1 rfl) rfl rfl rfl rfl (by have h_ := ok_rng (fi := fi) (fr := n1) (to := n2) (by assumption); omega) un30 ty3 ?_))))))))))))))))))))))))))
  intro ad0 x0 hx0 hA0
  refine zq (xq rfl (qy rfl rfl rfl b0 (q_ldI hA0.w ty3 rfl rfl ?_)))
  intro rv3
  refine zq (xq rfl (qy rfl rfl rfl b0 (kq (fun _ _ => eql rfl rfl rfl rfl e1) (zq (xq rfl (kq (fun _ _ => pickT rfl rfl rfl rfl b0 rfl e1) (zq (xq rfl (kq (fun _ _ => mv (v := .bool (decide (x0 = (-1)))) rfl rfl e1) (zq ?_))))))))))
  rcases bE (decide (x0 = (-1))) with b1 | b1
  ·
   have p1 := dT b1
   refine xq rfl (qy rfl rfl rfl b1 (kq (fun _ _ => mv rfl i0 e1) (zq (xq rfl (qy rfl rfl rfl b1 (kq (fun _ _ => nc rfl rfl e1) (zq (xq rfl (qy rfl rfl rfl b1 (kq (fun _ _ => fa fl57_0 rfl rfl e1) (zq (xq rfl (qy rfl rfl rfl b1 (kq (fun _ _ => fa fl32_1 rfl rfl e1) (zq (xq rfl (qy rfl rfl rfl b1 (kq (fun _ x_ => lr (H2.ext x_) 0 rfl ty29 rfl rfl rfl e1) (zq (xq rfl (qy rfl rfl rfl b1 (kq (fun _ _ => mv rfl i2 e1) (zq (xq rfl (qy rfl rfl rfl b1 (q_ia (H2.rv 2 rfl) rfl rfl rfl rfl (by have h_ := ok_rng (fi := fi) (fr := n1) (to := n2) (by assumption); omega) un29 ty85 ?_))))))))))))))))))))))))))
   intro ad1 x1 hx1 hA1
   refine zq (xq rfl (qy rfl rfl rfl b1 (kq (fun _ _ => fa fl85_2 rfl rfl e1) (zq (xq rfl (qy rfl rfl rfl b1 (q_ldB ((hA1).s2).fst.w ty4 rfl rfl (zq (xq rfl (kq (fun _ _ => pickT rfl rfl rfl rfl b1 rfl e1) (zq (xq rfl (kq (fun _ _ => mv (v := .bool x1.2.2.1) rfl rfl e1) (zq ?_))))))))))))))
   rcases bE (x1.2.2.1) with b2 | b2
   ·
    refine xq rfl (qy rfl rfl rfl b2 (kq (fun _ _ => mv rfl i0 e1) (zq (xq rfl (qy rfl rfl rfl b2 (kq (fun _ _ => nc rfl rfl e1) (zq (xq rfl (qy rfl rfl rfl b2 (kq (fun _ _ => fa fl57_0 rfl rfl e1) (zq (xq rfl (qy rfl rfl rfl b2 (kq (fun _ _ => fa fl32_1 rfl rfl e1) (zq (xq rfl (qy rfl rfl rfl b2 (kq (fun _ x_ => lr (H2.ext x_) 0 rfl ty29 rfl rfl rfl e1) (zq (xq rfl (qy rfl rfl rfl b2 (kq (fun _ _ => mv rfl i2 e1) (zq (xq rfl (qy rfl rfl rfl b2 (q_ia (H2.rv 2 rfl) rfl rfl rfl rfl (by have h_ := ok_rng (fi := fi) (fr := n1) (to := n2) (by assumption); omega) un29 ty85 ?_))))))))))))))))))))))))))
    intro ad2 x_ hx_ hA2
    obtain rfl : x1 = x_ := Option.some.inj (hx1.symm.trans hx_)
    refine zq (xq rfl (qy rfl rfl rfl b2 (kq (fun _ _ => fa fl85_3 rfl rfl e1) (zq (xq rfl (qy rfl rfl rfl b2 (q_ldI ((hA2).s3).fst.w ty3 rfl rfl ?_)))))))
    intro rv4
    refine zq (xq rfl (qy rfl rfl rfl b2 (kq (fun _ _ => mv rfl i0 e1) (zq (xq rfl (qy rfl rfl rfl b2 (kq (fun _ _ => nc rfl rfl e1) (zq (xq rfl (qy rfl rfl rfl b2 (kq (fun _ _ => fa fl57_0 rfl rfl e1) (zq (xq rfl (qy rfl rfl rfl b2 (kq (fun _ _ => fa fl32_1 rfl rfl e1) (zq (xq rfl (qy rfl rfl rfl b2 (kq (fun _ x_ => lr (H2.ext x_) 0 rfl ty29 rfl rfl rfl e1) (zq (xq rfl (qy rfl rfl rfl b2 (kq (fun _ _ => mv rfl i1 e1) (zq (xq rfl (qy rfl rfl rfl b2 (q_ia (H2.rv 2 rfl) rfl rfl rfl rfl (by have h_ := ok_rng (fi := fi) (fr := n1) (to := n2) (by assumption); omega) un29 ty85 ?_)))))))))))))))))))))))))))
    intro ad3 x2 hx2 hA3
    refine zq (xq rfl (qy rfl rfl rfl b2 (kq (fun _ _ => fa fl85_3 rfl rfl e1) (zq (xq rfl (qy rfl rfl rfl b2 (q_ldI ((hA3).s3).fst.w ty3 rfl rfl ?_)))))))
    intro rv5
    refine zq (xq rfl (qy rfl rfl rfl b2 (kq (fun _ _ => eql rfl rfl rfl rfl e1) (zq (xq rfl (kq (fun _ _ => pickT rfl rfl rfl rfl b2 rfl e1) (zq (xq rfl (kq (fun _ _ => asg (v := .bool (decide (x1.2.2.2.1 = x2.2.2.2.1))) rfl rfl e1) (zq (zx ?_)))))))))))
    intro w3 f0 xt3 hk0 hu0
    have H11 := H2.ext xt3
    have s1 : f0 6 = .bool (decide (x1.2.2.2.1 = x2.2.2.2.1)) := hk0 6 rfl
    refine nx (rt (r1 rfl rfl ?_))
    rw [s1]
    exact ⟨congrArg Value.bool (by simp only [earlyO, wrQ, vrO, hx0, hx1, hx2, (nott b0), b1, b2, BL]), H11.below⟩
   refine xq rfl (qn rfl rfl rfl b2 (zq (xq rfl (qn rfl rfl rfl b2 (zq (xq rfl (qn rfl rfl rfl b2 (zq (xq rfl (qn rfl rfl rfl b2 (zq (xq rfl (qn rfl rfl rfl b2 (zq (xq rfl (qn rfl rfl rfl b2 (zq (xq rfl (qn rfl rfl rfl b2 (zq (xq rfl (qn rfl rfl rfl b2 (zq (xq rfl (qn rfl rfl rfl b2 (zq (xq rfl (qn rfl rfl rfl b2 (zq (xq rfl (qn rfl rfl rfl b2 (zq (xq rfl (qn rfl rfl rfl b2 (zq (xq rfl (qn rfl rfl rfl b2 (zq (xq rfl (qn rfl rfl rfl b2 (zq (xq rfl (qn rfl rfl rfl b2 (zq (xq rfl (qn rfl rfl rfl b2 (zq (xq rfl (qn rfl rfl rfl b2 (zq (xq rfl (qn rfl rfl rfl b2 (zq (xq rfl (qn rfl rfl rfl b2 (zq (xq rfl (kq (fun _ _ => pickF rfl rfl rfl rfl b2 rfl e1) (zq (xq rfl (kq (fun _ _ => asg (v := .bool false) rfl rfl e1) (zq (zx ?_)))))))))))))))))))))))))))))))))))))))))))))))))))))))))))))))
   intro w3 f0 xt3 hk0 hu0
   have H11 := H2.ext xt3
   have s1 : f0 6 = .bool false := hk0 6 rfl
   refine nx (rt (r1 rfl rfl ?_))
   rw [s1]
   exact ⟨congrArg Value.bool (by simp only [earlyO, wrQ, vrO, hx0, hx1, (nott b0), b1, b2, BL]), H11.below⟩
  have p1 := dF b1
  refine xq rfl (qn rfl rfl rfl b1 (zq (xq rfl (qn rfl rfl rfl b1 (zq (xq rfl (qn rfl rfl rfl b1 (zq (xq rfl (qn rfl rfl rfl b1 (zq (xq rfl (qn rfl rfl rfl b1 (zq (xq rfl (qn rfl rfl rfl b1 (zq (xq rfl (qn rfl rfl rfl b1 (zq (xq rfl (qn rfl rfl rfl b1 (zq (xq rfl (qn rfl rfl rfl b1 (zq (xq rfl (kq (fun _ _ => pickF rfl rfl rfl rfl b1 rfl e1) (zq (xq rfl (kq (fun _ _ => mv (v := .bool false) rfl rfl e1) (zq (xq rfl (qn rfl rfl rfl rfl (zq (xq rfl (qn rfl rfl rfl rfl (zq (xq rfl (qn rfl rfl rfl rfl (zq (xq rfl (qn rfl rfl rfl rfl (zq (xq rfl (qn rfl rfl rfl rfl (zq (xq rfl (qn rfl rfl rfl rfl (zq (xq rfl (qn rfl rfl rfl rfl (zq (xq rfl (qn rfl rfl rfl rfl (zq (xq rfl (qn rfl rfl rfl rfl (zq (xq rfl (qn rfl rfl rfl rfl (zq (xq rfl (qn rfl rfl rfl rfl (zq (xq rfl (qn rfl rfl rfl rfl (zq (xq rfl (qn rfl rfl rfl rfl (zq (xq rfl (qn rfl rfl rfl rfl (zq (xq rfl (qn rfl rfl rfl rfl (zq (xq rfl (qn rfl rfl rfl rfl (zq (xq rfl (qn rfl rfl rfl rfl (zq (xq rfl (qn rfl rfl rfl rfl (zq (xq rfl (qn rfl rfl rfl rfl (zq (xq rfl (kq (fun _ _ => pickF rfl rfl rfl rfl rfl rfl e1) (zq (xq rfl (kq (fun _ _ => asg (v := .bool false) rfl rfl e1) (zq (zx ?_))))))))))))))))))))))))))))))))))))))))))))))))))))))))))))))))))))))))))))))))))))))))))))))))
  intro w3 f0 xt3 hk0 hu0
  have H11 := H2.ext xt3
  have s1 : f0 6 = .bool false := hk0 6 rfl
  refine nx (rt (r1 rfl rfl ?_))
  rw [s1]
  exact ⟨congrArg Value.bool (by simp only [earlyO, wrQ, vrO, hx0, (nott b0), b1, BL]), H11.below⟩
 refine xq rfl (qn rfl rfl rfl b0 (zq (xq rfl (qn rfl rfl rfl b0 (zq (xq rfl (qn rfl rfl rfl b0 (zq (xq rfl (qn rfl rfl rfl b0 (zq (xq rfl (qn rfl rfl rfl b0 (zq (xq rfl (qn rfl rfl rfl b0 (zq (xq rfl (qn rfl rfl rfl b0 (zq (xq rfl (qn rfl rfl rfl b0 (zq (xq rfl (qn rfl rfl rfl b0 (zq (xq rfl (kq (fun _ _ => pickF rfl rfl rfl rfl b0 rfl e1) (zq (xq rfl (kq (fun _ _ => mv (v := .bool false) rfl rfl e1) (zq (xq rfl (qn rfl rfl rfl rfl (zq (xq rfl (qn rfl rfl rfl rfl (zq (xq rfl (qn rfl rfl rfl rfl (zq (xq rfl (qn rfl rfl rfl rfl (zq (xq rfl (qn rfl rfl rfl rfl (zq (xq rfl (qn rfl rfl rfl rfl (zq (xq rfl (qn rfl rfl rfl rfl (zq (xq rfl (qn rfl rfl rfl rfl (zq (xq rfl (qn rfl rfl rfl rfl (zq (xq rfl (kq (fun _ _ => pickF rfl rfl rfl rfl rfl rfl e1) (zq (xq rfl (kq (fun _ _ => mv (v := .bool false) rfl rfl e1) (zq (xq rfl (qn rfl rfl rfl rfl (zq (xq rfl (qn rfl rfl rfl rfl (zq (xq rfl (qn rfl rfl rfl rfl (zq (xq rfl (qn rfl rfl rfl rfl (zq (xq rfl (qn rfl rfl rfl rfl (zq (xq rfl (qn rfl rfl rfl rfl (zq (xq rfl (qn rfl rfl rfl rfl (zq (xq rfl (qn rfl rfl rfl rfl (zq (xq rfl (qn rfl rfl rfl rfl (zq (xq rfl (qn rfl rfl rfl rfl (zq (xq rfl (qn rfl rfl rfl rfl (zq (xq rfl (qn rfl rfl rfl rfl (zq (xq rfl (qn rfl rfl rfl rfl (zq (xq rfl (qn rfl rfl rfl rfl (zq (xq rfl (qn rfl rfl rfl rfl (zq (xq rfl (qn rfl rfl rfl rfl (zq (xq rfl (qn rfl rfl rfl rfl (zq (xq rfl (qn rfl rfl rfl rfl (zq (xq rfl (qn rfl rfl rfl rfl (zq (xq rfl (kq (fun _ _ => pickF rfl rfl rfl rfl rfl rfl e1) (zq (xq rfl (kq (fun _ _ => asg (v := .bool false) rfl rfl e1) (zq (zx ?_)))))))))))))))))))))))))))))))))))))))))))))))))))))))))))))))))))))))))))))))))))))))))))))))))))))))))))))))))))))))))))))))))
 intro w3 f0 xt3 hk0 hu0
 have H11 := H2.ext xt3
 have s1 : f0 6 = .bool false := hk0 6 rfl
 refine nx (rt (r1 rfl rfl ?_))
 rw [s1]
 exact ⟨congrArg Value.bool (by simp only [earlyO, wrQ, vrO, (notf b0), BL]), H11.below⟩
theorem fl92_3 : FldF Tryz.prog 92 3 3 := ⟨_, _, Tryz.underlying92, rfl, rfl, by kernel_rfl⟩
theorem go82 : GoF Tryz.prog 82 := ⟨_, _, Tryz.func82, rfl, by kernel_rfl⟩
theorem fl57_2 : FldF Tryz.prog 57 2 4 := ⟨_, _, Tryz.underlying57, rfl, rfl, by kernel_rfl⟩
theorem ty55 : TyF Tryz.prog 55 1 false 24 (.slice none 0 0) := ⟨by kernel_rfl, by kernel_rfl⟩
theorem go50 : GoF Tryz.prog 50 := ⟨_, _, Tryz.func50, rfl, by kernel_rfl⟩
theorem go48 : GoF Tryz.prog 48 := ⟨_, _, Tryz.func48, rfl, by kernel_rfl⟩
theorem session_Ahead {a_fv : OA} {n_fv c_fv : Nat} {a_fi : OA} {c_fi : Nat} {fi : List ItemL} {a_fo : OA} {n_fo c_fo : Nat} {i : Int} {j : Int} (hM : ∀ b, M b → b < w.heap.size) (h_fi : RV M w (.slice a_fi fi.length c_fi) fi) (h_i : I64 i) (h_j : I64 j) : Calls Tryz.prog 82 #[.agg #[.slice a_fv n_fv c_fv, .slice a_fi fi.length c_fi, .slice a_fo n_fo c_fo], .int .i64 i, .int .i64 j] w (Ret fun v w' =>  v = .bool (ahA fi i j) ∧ Ext w w') := by
 refine enter 34 Tryz.func82 rfl rfl rfl fun f0 ha => ?_
 have H := HI.start (M0 := M) (w := w) hM
 have H0 := H.put (it := iL a_fi fi c_fi) rfl (by rw [MS_nil]; exact h_fi)
 have ln_fi := rv_len h_fi
 have i0 : f0 0 = .agg #[.slice a_fv n_fv c_fv, sL a_fi fi c_fi, .slice a_fo n_fo c_fo] := ha 0 (by simp)
 have i1 : f0 1 = iV i := ha 1 (by simp)
 have i2 : f0 2 = iV j := ha 2 (by simp)
 refine sq (rg (k (bx H0 rfl i0 ?_)))
 intro bb0 w0 xt0 (H1 : HI M w w0 [box bb0 #[.slice a_fv n_fv c_fv, sL a_fi fi c_fi, .slice a_fo n_fo c_fo] 32, iL a_fi fi c_fi])
 refine k (asg (v := .bool false) rfl rfl (z (nx (sq (sq (rg (k (mv rfl i1 (k (lss rfl rfl rfl rfl (k (mv (v := .bool (decide (i < 0))) rfl rfl ?_))))))))))))
 rcases bE (decide (i < 0)) with b0 | b0
 ·
  have p0 := dT b0
  refine k (gn rfl rfl rfl b0 (k (gn rfl rfl rfl b0 (k (gn rfl rfl rfl b0 (k (gn rfl rfl rfl b0 (k (gn rfl rfl rfl b0 (k (pickT rfl rfl rfl rfl b0 rfl (k (mv (v := .bool true) rfl rfl (k (gn rfl rfl rfl rfl (k (gn rfl rfl rfl rfl (k (gn rfl rfl rfl rfl (k (pickT rfl rfl rfl rfl rfl rfl (z (nx (cdT rfl rfl rfl (sq (rg (k (asg (v := .bool false) rfl rfl (z (nx (rt (then_ret (r1 rfl rfl ?_)))))))))))))))))))))))))))))))))
  exact ⟨congrArg Value.bool (by first | exact ahA_no (by omega) | exact ahA_yes (by omega) (by omega) (by omega) hx0 hx1), H1.below⟩
 have p0 := dF b0
 refine k (gy rfl rfl rfl b0 (mv rfl i2 (k (gy rfl rfl rfl b0 (fa fl32_1 rfl rfl (k (gy rfl rfl rfl b0 (lx H1 0 rfl ty29 rfl rfl rfl (k (gy rfl rfl rfl b0 (lnS rfl rfl un29 (k (gy rfl rfl rfl b0 (geq rfl rfl rfl rfl (k (pickF rfl rfl rfl rfl b0 rfl (k (mv (v := .bool (decide ((fi.length : Int) ≤ j))) rfl rfl ?_))))))))))))))))))
 rcases bE (decide ((fi.length : Int) ≤ j)) with b1 | b1
 ·
  have p1 := dT b1
  refine k (gn rfl rfl rfl b1 (k (gn rfl rfl rfl b1 (k (gn rfl rfl rfl b1 (k (pickT rfl rfl rfl rfl b1 rfl (z (nx (cdT rfl rfl rfl (sq (rg (k (asg (v := .bool false) rfl rfl (z (nx (rt (then_ret (r1 rfl rfl ?_)))))))))))))))))))
  exact ⟨congrArg Value.bool (by first | exact ahA_no (by omega) | exact ahA_yes (by omega) (by omega) (by omega) hx0 hx1), H1.below⟩
 have p1 := dF b1
 refine k (gy rfl rfl rfl b1 (mv rfl i1 (k (gy rfl rfl rfl b1 (mv rfl i2 (k (gy rfl rfl rfl b1 (geq rfl rfl rfl rfl (k (pickF rfl rfl rfl rfl b1 rfl (z (nx ?_))))))))))))
 refine cd (b := decide (j ≤ i)) rfl rfl (fun b2 => ?_) (fun b2 => ?_)
 ·
  have p2 := dT b2
  refine sq (rg (k (asg (v := .bool false) rfl rfl (z (nx (rt (then_ret (r1 rfl rfl ?_))))))))
  exact ⟨congrArg Value.bool (by first | exact ahA_no (by omega) | exact ahA_yes (by omega) (by omega) (by omega) hx0 hx1), H1.below⟩
 have p2 := dF b2
 refine sk (nx (sq ?_))
 refine drS rfl (by kernel_rfl) ?_
 refine kq (fun _ _ => fa fl32_1 rfl rfl e1) (kq (fun _ x_ => lx (H1.ext x_) 0 rfl ty29 rfl rfl rfl e1) (kq (fun _ _ => mv rfl i1 e1) (q_ia (H1.rv 1 rfl) rfl rfl rfl rfl (by omega) un29 ty85 ?_)))
 intro ad0 x0 hx0 hA0
 refine kq (fun _ _ => fa fl85_0 rfl rfl e1) (q_ldI (hA0).fst.w ty3 rfl rfl ?_)
 intro rv0
 refine kq (fun _ _ => fa fl32_1 rfl rfl e1) (kq (fun _ x_ => lx (H1.ext x_) 0 rfl ty29 rfl rfl rfl e1) (kq (fun _ _ => mv rfl i2 e1) (q_ia (H1.rv 1 rfl) rfl rfl rfl rfl (by omega) un29 ty85 ?_)))
 intro ad1 x1 hx1 hA1
 refine kq (fun _ _ => fa fl85_0 rfl rfl e1) (q_ldI (hA1).fst.w ty3 rfl rfl ?_)
 intro rv1
 refine kq (fun _ _ => eql rfl rfl rfl rfl e1) (kq (fun _ _ => asg (v := .bool (decide (x0.1 = x1.1))) rfl rfl e1) (zq ?_))
 intro w1 xt1
 have H2 := H1.ext xt1
 refine nx (rt (r1 rfl rfl ?_))
 exact ⟨congrArg Value.bool (by first | exact ahA_no (by omega) | exact ahA_yes (by omega) (by omega) (by omega) hx0 hx1), H2.below⟩
theorem aud_next {r : List Go.Ew.Item} {b_a : Nat} {a_fv : OA} {n_fv c_fv : Nat} {a_fi : OA} {c_fi : Nat} {fi : List ItemL} {a_fo : OA} {c_fo : Nat} {fo : List Int} {a_stp : OA} {c_stp : Nat} {stp : List StepL} {a_pl : OA} {c_pl : Nat} {pl : List Bool} {kd : Int} {fr : Int} {to : Int} {sa : Int} {sb : Int} (h_kd : I64 kd) (h_fr : I64 fr) (h_to : I64 to) (h_sa : I64 sa) (h_sb : I64 sb) (ho : OrdI fi) (hn_fi : fi.length ≤ 4096) (hfo : fo.length = fi.length) (hpl : pl.length = stp.length) (hst : stp.length ≤ 100000) (H : HI M w w_ ([box b_a #[.slice a_fv n_fv c_fv, sL a_fi fi c_fi, sL a_fo fo c_fo, sL a_stp stp c_stp, sL a_pl pl c_pl] 57, iL a_fi fi c_fi, iL a_fo fo c_fo, oL w 92 a_stp stp c_stp, oL w 4 a_pl pl c_pl] ++ r)) : Calls Tryz.prog 45 #[pV b_a 0, .agg #[iV kd, iV fr, iV to, iV sa, iV sb]] w_ (Ret fun v w' => ∃ (a'_stp : OA) (c'_stp : Nat) (a'_pl : OA) (c'_pl : Nat), v = .bool (nxG fi fo stp (kd, fr, to, sa, sb)) ∧ HI M w w' ([box b_a #[.slice a_fv n_fv c_fv, .slice a_fi fi.length c_fi, .slice a_fo fo.length c_fo, .slice a'_stp (nxS fi stp (kd, fr, to, sa, sb)).length c'_stp, .slice a'_pl (nxP fi stp pl (kd, fr, to, sa, sb)).length c'_pl] 57, iL a_fi fi c_fi, iL a_fo fo c_fo, oL w 92 a'_stp (nxS fi stp (kd, fr, to, sa, sb)) c'_stp, oL w 4 a'_pl (nxP fi stp pl (kd, fr, to, sa, sb)) c'_pl] ++ r)) := by
 refine enter 186 Tryz.func45 rfl rfl rfl fun f0 ha => ?_
 have ln_fi := rv_len (H.rv 1 rfl)
 have ln_fo := rv_len (H.rv 2 rfl)
 have ln_stp := own_len_ (H.at_ 3 rfl)
 have ln_pl := own_len_ (H.at_ 4 rfl)
 have i0 : f0 0 = pV b_a 0 := ha 0 (by simp)
 have i1 : f0 1 = .agg #[iV kd, iV fr, iV to, iV sa, iV sb] := ha 1 (by simp)
 refine sq (rg (k (bx H rfl i1 ?_)))
 intro bb0 w0 xt0 (H0 : HI M w w0 ([box bb0 #[iV kd, iV fr, iV to, iV sa, iV sb] 92, box b_a #[.slice a_fv n_fv c_fv, sL a_fi fi c_fi, sL a_fo fo c_fo, sL a_stp stp c_stp, sL a_pl pl c_pl] 57, iL a_fi fi c_fi, iL a_fo fo c_fo, oL w 92 a_stp stp c_stp, oL w 4 a_pl pl c_pl] ++ r))
 refine k (asg (v := .bool false) rfl rfl (z (nx (sq (sq (rg (k (mv rfl i0 (k (fa fl92_1 rfl rfl (k (lx H0 0 rfl ty3 rfl rfl rfl (k (fa fl92_2 rfl rfl (k (lx H0 0 rfl ty3 rfl rfl rfl (k (bs (xs := ([fr, to] : List Int)) (cells := #[iV fr, iV to]) (e := 3) H0 rfl (pbc rfl (pbc rfl pb0)) (fun _ => by kernel_rfl) ⟨[iV fr], [iV to], rfl, ⟨rfl, h_fr⟩, ⟨[iV to], [], rfl, ⟨rfl, h_to⟩, rfl⟩⟩ rfl (by decide) ?_))))))))))))))))))
 intro g0 w1 xt1 (H1 : HI M w w1 ([own w.heap.size 3 (.slice (some ⟨g0, 0, none⟩) 2 2) ([fr, to] : List Int), box bb0 #[iV kd, iV fr, iV to, iV sa, iV sb] 92, box b_a #[.slice a_fv n_fv c_fv, sL a_fi fi c_fi, sL a_fo fo c_fo, sL a_stp stp c_stp, sL a_pl pl c_pl] 57, iL a_fi fi c_fi, iL a_fo fo c_fo, oL w 92 a_stp stp c_stp, oL w 4 a_pl pl c_pl] ++ r))
 refine k ?_
 have H2 := H1.freeze 0 rfl
 have H3 : HI M w w1 ([imm (.slice (some ⟨g0, 0, none⟩) 2 2) ([fr, to] : List Int), box bb0 #[iV kd, iV fr, iV to, iV sa, iV sb] 92, box b_a #[.slice a_fv n_fv c_fv, sL a_fi fi c_fi, sL a_fo fo c_fo, sL a_stp stp c_stp, sL a_pl pl c_pl] 57, iL a_fi fi c_fi, iL a_fo fo c_fo, oL w 92 a_stp stp c_stp, oL w 4 a_pl pl c_pl] ++ r) := H2
 have cc0 := aud_op (fi := fi) (l := ([fr, to] : List Int)) (w := w1) (M := fun _ => False) (fun _ h_ => h_.elim) ((H3.rv 3 rfl).lift (Up.less fun _ _ h_ => h_.elim)) ((H3.rv 0 rfl).lift (Up.less fun _ _ h_ => h_.elim)) ⟨H3.at_ 2 rfl, fun h_ => h_⟩
 refine ca go46 rfl (ec rfl (ec rfl e0)) cc0 ?_
 rintro _ w2 ⟨rfl, xt2⟩
 have H4 := H1.ext xt2
 refine k (not_ rfl rfl (z (nx ?_)))
 refine cd (b := !(!(([fr, to] : List Int).any (outO fi)))) rfl rfl (fun b0 => ?_) (fun b0 => ?_)
 ·
  refine sq ?_
  have hk1_ : (!([fr, to].any (outO fi))) = false := nott b0
  refine rg (k (asg (v := .bool false) rfl rfl (z (nx (rt (then_ret (r1 rfl rfl ?_)))))))
  have H5 := HI.pickT (l := [own w.heap.size 3 (.slice (some ⟨g0, 0, none⟩) 2 2) ([fr, to] : List Int), box bb0 #[iV kd, iV fr, iV to, iV sa, iV sb] 92, box b_a #[.slice a_fv n_fv c_fv, sL a_fi fi c_fi, sL a_fo fo c_fo, sL a_stp stp c_stp, sL a_pl pl c_pl] 57, iL a_fi fi c_fi, iL a_fo fo c_fo, oL w 92 a_stp stp c_stp, oL w 4 a_pl pl c_pl]) (l' := [box b_a #[.slice a_fv n_fv c_fv, sL a_fi fi c_fi, sL a_fo fo c_fo, sL a_stp stp c_stp, sL a_pl pl c_pl] 57, iL a_fi fi c_fi, iL a_fo fo c_fo, oL w 92 a_stp stp c_stp, oL w 4 a_pl pl c_pl]) (t := r) H4 [2, 3, 4, 5, 6] (by decide) rfl rfl
  have e0 : (false : Bool) = nxG fi fo stp (kd, fr, to, sa, sb) := by first | exact nx_no hk1_ | exact nx_yes hk0_ hgd_
  have e1 : (stp : List _) = (nxS fi stp (kd, fr, to, sa, sb)) := by first | exact nxS_no hk1_ | exact nxS_yes hk0_
  have e2 : (pl : List _) = (nxP fi stp pl (kd, fr, to, sa, sb)) := by first | exact nxP_no hk1_ | exact nxP_yes hk0_ hpn_
  try rw [← e0]
  try rw [← e1]
  try rw [← e2]
  refine ⟨a_stp, c_stp, a_pl, c_pl, ?_, ?_⟩
  · first | rfl | simp only [e0, e1, e2] | (simp only [List.length_set])
  · first | exact H5 | simpa only [e0, e1, e2, List.length_set] using H5
 refine sk (nx (sq ?_))
 have hk0_ : (!([fr, to].any (outO fi))) = true := notf b0
 obtain ⟨⟨hr0_, hr1_⟩, hr2_, hr3_⟩ := ok_rng hk0_
 refine rg (k (asg (v := .bool false) rfl rfl (k (asg (v := .bool true) rfl rfl (z (nx ?_))))))
 refine cut (fun f w' => ∃ (gd : Bool) (pn : Bool), f 0 = pV b_a 0 ∧ f 3 = pV bb0 0 ∧ f 5 = .bool gd ∧ f 6 = .bool pn ∧  HI M w w' ([own w.heap.size 3 (.slice (some ⟨g0, 0, none⟩) 2 2) ([fr, to] : List Int), box bb0 #[iV kd, iV fr, iV to, iV sa, iV sb] 92, box b_a #[.slice a_fv n_fv c_fv, sL a_fi fi c_fi, sL a_fo fo c_fo, sL a_stp stp c_stp, sL a_pl pl c_pl] 57, iL a_fi fi c_fi, iL a_fo fo c_fo, oL w 92 a_stp stp c_stp, oL w 4 a_pl pl c_pl] ++ r) ∧ (gd = goodO fi fo stp (kd, fr, to, sa, sb)) ∧ (pn = plainO stp pl (kd, fr, to, sa, sb))) ?_ ?_
 ·
  refine sq (rg (k (fa fl92_0 rfl rfl (k (lx H4 1 rfl ty3 rfl rfl rfl (z (nx (bk (sq (rg (k (eql rfl rfl rfl rfl (k (asg (v := .bool (decide (kd = 1))) rfl rfl (z (nx ?_))))))))))))))))
  refine cd (b := decide (kd = 1)) rfl rfl (fun b1 => ?_) (fun b1 => ?_)
  ·
   have p1 := dT b1
   refine drS rfl (by kernel_rfl) ?_
   refine kq (fun _ _ => fa fl92_3 rfl rfl e1) (kq (fun _ x_ => lx (H4.ext x_) 1 rfl ty3 rfl rfl rfl e1) (kq (fun _ _ => eql rfl rfl rfl rfl e1) (kq (fun _ _ => mv (v := .bool (decide (sa = (-1)))) rfl rfl e1) ?_)))
   rcases bE (decide (sa = (-1))) with b2 | b2
   ·
    have p2 := dT b2
    refine qy rfl rfl rfl b2 (kq (fun _ _ => fa fl92_4 rfl rfl e1) (qy rfl rfl rfl b2 (kq (fun _ x_ => lx (H4.ext x_) 1 rfl ty3 rfl rfl rfl e1) (qy rfl rfl rfl b2 (kq (fun _ _ => eql rfl rfl rfl rfl e1) (kq (fun _ _ => pickT rfl rfl rfl rfl b2 rfl e1) (kq (fun _ _ => mv (v := .bool (decide (sb = (-1)))) rfl rfl e1) ?_)))))))
    rcases bE (decide (sb = (-1))) with b3 | b3
    ·
     have p3 := dT b3
     refine qy rfl rfl rfl b3 (kq (fun _ _ => mv rfl i0 e1) (qy rfl rfl rfl b3 (kq (fun _ _ => nc rfl rfl e1) (qy rfl rfl rfl b3 (kq (fun _ _ => fa fl57_0 rfl rfl e1) (qy rfl rfl rfl b3 (kq (fun _ x_ => ldX (H4.ext x_) 2 rfl ty32 rfl rfl (by decide) rfl e1) (qy rfl rfl rfl b3 (kq (fun _ _ => fa fl92_1 rfl rfl e1) (qy rfl rfl rfl b3 (kq (fun _ x_ => lx (H4.ext x_) 1 rfl ty3 rfl rfl rfl e1) (qy rfl rfl rfl b3 (kq (fun _ _ => fa fl92_2 rfl rfl e1) (qy rfl rfl rfl b3 (kq (fun _ x_ => lx (H4.ext x_) 1 rfl ty3 rfl rfl rfl e1) (qy rfl rfl rfl b3 ?_))))))))))))))))
     refine kq (v := .bool (ahA fi fr to)) (fun v_ x_ => ?_) ?_
     ·
      have cc := session_Ahead (fi := fi) (i := fr) (j := to) (a_fv := a_fv) (n_fv := n_fv) (c_fv := c_fv) (a_fo := a_fo) (n_fo := fo.length) (c_fo := c_fo) (w := v_) (H4.ext x_).mb ((H4.ext x_).rv 3 rfl) h_fr h_to
      exact ca go82 rfl (ec rfl (ec rfl (ec rfl e0))) cc fun _ _ h_ => e2 h_
     refine kq (fun _ _ => pickT rfl rfl rfl rfl b3 rfl e1) (kq (fun _ _ => asg (v := .bool (ahA fi fr to)) rfl rfl e1) (zq ?_))
     intro w4 xt3
     have H5 := H4.ext xt3
     refine inb_normal ?_
     refine cutN ⟨(ahA fi fr to), true, i0, rfl, rfl, rfl, H5, (by first | exact g1a ‹_› ‹_› | exact g1b ‹_› ‹_› ‹_› | exact g1c ‹_› ‹_› ‹_›), (by first | exact p_1 ‹_›)⟩
    have p3 := dF b3
    refine qn rfl rfl rfl b3 (qn rfl rfl rfl b3 (qn rfl rfl rfl b3 (qn rfl rfl rfl b3 (qn rfl rfl rfl b3 (qn rfl rfl rfl b3 (qn rfl rfl rfl b3 (qn rfl rfl rfl b3 (qn rfl rfl rfl b3 (kq (fun _ _ => pickF rfl rfl rfl rfl b3 rfl e1) (kq (fun _ _ => asg (v := .bool false) rfl rfl e1) (zq ?_)))))))))))
    intro w4 xt3
    have H5 := H4.ext xt3
    refine inb_normal ?_
    refine cutN ⟨false, true, i0, rfl, rfl, rfl, H5, (by first | exact g1a ‹_› ‹_› | exact g1b ‹_› ‹_› ‹_› | exact g1c ‹_› ‹_› ‹_›), (by first | exact p_1 ‹_›)⟩
   have p2 := dF b2
   refine qn rfl rfl rfl b2 (qn rfl rfl rfl b2 (qn rfl rfl rfl b2 (kq (fun _ _ => pickF rfl rfl rfl rfl b2 rfl e1) (kq (fun _ _ => mv (v := .bool false) rfl rfl e1) (qn rfl rfl rfl rfl (qn rfl rfl rfl rfl (qn rfl rfl rfl rfl (qn rfl rfl rfl rfl (qn rfl rfl rfl rfl (qn rfl rfl rfl rfl (qn rfl rfl rfl rfl (qn rfl rfl rfl rfl (qn rfl rfl rfl rfl (kq (fun _ _ => pickF rfl rfl rfl rfl rfl rfl e1) (kq (fun _ _ => asg (v := .bool false) rfl rfl e1) (zq ?_))))))))))))))))
   intro w4 xt3
   have H5 := H4.ext xt3
   refine inb_normal ?_
   refine cutN ⟨false, true, i0, rfl, rfl, rfl, H5, (by first | exact g1a ‹_› ‹_› | exact g1b ‹_› ‹_› ‹_› | exact g1c ‹_› ‹_› ‹_›), (by first | exact p_1 ‹_›)⟩
  have p1 := dF b1
  refine sq (rg (k (eql rfl rfl rfl rfl (k (asg (v := .bool (decide (kd = 2))) rfl rfl (z (nx ?_)))))))
  refine cd (b := decide (kd = 2)) rfl rfl (fun b2 => ?_) (fun b2 => ?_)
  ·
   have p2 := dT b2
   refine drS rfl (by kernel_rfl) ?_
   refine kq (fun _ _ => fa fl92_3 rfl rfl e1) (kq (fun _ x_ => lx (H4.ext x_) 1 rfl ty3 rfl rfl rfl e1) (kq (fun _ _ => eql rfl rfl rfl rfl e1) (kq (fun _ _ => mv (v := .bool (decide (sa = (-1)))) rfl rfl e1) ?_)))
   rcases bE (decide (sa = (-1))) with b3 | b3
   ·
    have p3 := dT b3
    refine qy rfl rfl rfl b3 (kq (fun _ _ => fa fl92_4 rfl rfl e1) (qy rfl rfl rfl b3 (kq (fun _ x_ => lx (H4.ext x_) 1 rfl ty3 rfl rfl rfl e1) (qy rfl rfl rfl b3 (kq (fun _ _ => eql rfl rfl rfl rfl e1) (kq (fun _ _ => pickT rfl rfl rfl rfl b3 rfl e1) (kq (fun _ _ => mv (v := .bool (decide (sb = (-1)))) rfl rfl e1) ?_)))))))
    rcases bE (decide (sb = (-1))) with b4 | b4
    ·
     have p4 := dT b4
     refine qy rfl rfl rfl b4 (kq (fun _ _ => mv rfl i0 e1) (qy rfl rfl rfl b4 (kq (fun _ _ => nc rfl rfl e1) (qy rfl rfl rfl b4 (kq (fun _ _ => fa fl57_0 rfl rfl e1) (qy rfl rfl rfl b4 (kq (fun _ _ => fa fl32_2 rfl rfl e1) (qy rfl rfl rfl b4 (kq (fun _ x_ => lx (H4.ext x_) 2 rfl ty30 rfl rfl rfl e1) (qy rfl rfl rfl b4 (kq (fun _ _ => fa fl92_2 rfl rfl e1) (qy rfl rfl rfl b4 (kq (fun _ x_ => lx (H4.ext x_) 1 rfl ty3 rfl rfl rfl e1) (qy rfl rfl rfl b4 (q_ia (H4.rv 4 rfl) rfl rfl rfl rfl (by omega) un30 ty3 ?_)))))))))))))))
     intro ad0 x0 hx0 hA0
     refine qy rfl rfl rfl b4 (q_ldI hA0.w ty3 rfl rfl ?_)
     intro rv0
     refine qy rfl rfl rfl b4 (kq (fun _ _ => fa fl92_1 rfl rfl e1) (qy rfl rfl rfl b4 (kq (fun _ x_ => lx (H4.ext x_) 1 rfl ty3 rfl rfl rfl e1) (qy rfl rfl rfl b4 (kq (fun _ _ => eql rfl rfl rfl rfl e1) (kq (fun _ _ => pickT rfl rfl rfl rfl b4 rfl e1) (kq (fun _ _ => asg (v := .bool (decide (x0 = fr))) rfl rfl e1) (zq ?_))))))))
     intro w4 xt3
     have H5 := H4.ext xt3
     refine inb_normal ?_
     refine cutN ⟨(decide (x0 = fr)), true, i0, rfl, rfl, rfl, H5, (by first | exact g2a ‹_› ‹_› | exact g2b ‹_› ‹_› ‹_› | exact g2c ‹_› ‹_› ‹_› ‹_›), (by first | exact p_2 ‹_›)⟩
    have p4 := dF b4
    refine qn rfl rfl rfl b4 (qn rfl rfl rfl b4 (qn rfl rfl rfl b4 (qn rfl rfl rfl b4 (qn rfl rfl rfl b4 (qn rfl rfl rfl b4 (qn rfl rfl rfl b4 (qn rfl rfl rfl b4 (qn rfl rfl rfl b4 (qn rfl rfl rfl b4 (qn rfl rfl rfl b4 (qn rfl rfl rfl b4 (kq (fun _ _ => pickF rfl rfl rfl rfl b4 rfl e1) (kq (fun _ _ => asg (v := .bool false) rfl rfl e1) (zq ?_))))))))))))))
    intro w4 xt3
    have H5 := H4.ext xt3
    refine inb_normal ?_
    refine cutN ⟨false, true, i0, rfl, rfl, rfl, H5, (by first | exact g2a ‹_› ‹_› | exact g2b ‹_› ‹_› ‹_› | exact g2c ‹_› ‹_› ‹_› ‹_›), (by first | exact p_2 ‹_›)⟩
   have p3 := dF b3
   refine qn rfl rfl rfl b3 (qn rfl rfl rfl b3 (qn rfl rfl rfl b3 (kq (fun _ _ => pickF rfl rfl rfl rfl b3 rfl e1) (kq (fun _ _ => mv (v := .bool false) rfl rfl e1) (qn rfl rfl rfl rfl (qn rfl rfl rfl rfl (qn rfl rfl rfl rfl (qn rfl rfl rfl rfl (qn rfl rfl rfl rfl (qn rfl rfl rfl rfl (qn rfl rfl rfl rfl (qn rfl rfl rfl rfl (qn rfl rfl rfl rfl (qn rfl rfl rfl rfl (qn rfl rfl rfl rfl (qn rfl rfl rfl rfl (kq (fun _ _ => pickF rfl rfl rfl rfl rfl rfl e1) (kq (fun _ _ => asg (v := .bool false) rfl rfl e1) (zq ?_)))))))))))))))))))
   intro w4 xt3
   have H5 := H4.ext xt3
   refine inb_normal ?_
   refine cutN ⟨false, true, i0, rfl, rfl, rfl, H5, (by first | exact g2a ‹_› ‹_› | exact g2b ‹_› ‹_› ‹_› | exact g2c ‹_› ‹_› ‹_› ‹_›), (by first | exact p_2 ‹_›)⟩
  have p2 := dF b2
  refine sq (rg (k (eql rfl rfl rfl rfl (k (asg (v := .bool (decide (kd = 3))) rfl rfl (z (nx ?_)))))))
  refine cd (b := decide (kd = 3)) rfl rfl (fun b3 => ?_) (fun b3 => ?_)
  ·
   have p3 := dT b3
   refine sq (rg (k (mv rfl i0 (k (fa fl92_3 rfl rfl (k (lx H4 1 rfl ty3 rfl rfl rfl (k ?_))))))))
   have H5 := H4.freeze 5 rfl
   have H6 : HI M w w2 ([own w.heap.size 3 (.slice (some ⟨g0, 0, none⟩) 2 2) ([fr, to] : List Int), box bb0 #[iV kd, iV fr, iV to, iV sa, iV sb] 92, box b_a #[.slice a_fv n_fv c_fv, sL a_fi fi c_fi, sL a_fo fo c_fo, sL a_stp stp c_stp, sL a_pl pl c_pl] 57, iL a_fi fi c_fi, iL a_fo fo c_fo, iL a_stp stp c_stp, oL w 4 a_pl pl c_pl] ++ r) := H5
   have cc1 := aud_step (stp := stp) (i := sa) (w := w2) (M := fun _ => False) (fun _ h_ => h_.elim) ((H6.rv 5 rfl).lift (Up.less fun _ _ h_ => h_.elim)) h_sa ⟨H6.at_ 2 rfl, fun h_ => h_⟩
   refine ca go83 rfl (ec rfl (ec rfl e0)) cc1 ?_
   rintro _ w4 ⟨rfl, xt3⟩
   have H7 := H4.ext xt3
   refine k (mv (v := .tuple #[.agg #[iV ((stpO stp sa).elim 0 (·.1)), iV ((stpO stp sa).elim 0 (·.2.1)), iV ((stpO stp sa).elim 0 (·.2.2.1)), iV ((stpO stp sa).elim 0 (·.2.2.2.1)), iV ((stpO stp sa).elim 0 (·.2.2.2.2))], .bool ((stpO stp sa).isSome)]) rfl rfl (k (xt rfl rfl rfl (k (xt rfl rfl rfl (k (al H7 ty92 ?_)))))))
   intro bb1 w5 xt4 (H8 : HI M w w5 ([box bb1 #[iV 0, iV 0, iV 0, iV 0, iV 0] 92, own w.heap.size 3 (.slice (some ⟨g0, 0, none⟩) 2 2) ([fr, to] : List Int), box bb0 #[iV kd, iV fr, iV to, iV sa, iV sb] 92, box b_a #[.slice a_fv n_fv c_fv, sL a_fi fi c_fi, sL a_fo fo c_fo, sL a_stp stp c_stp, sL a_pl pl c_pl] 57, iL a_fi fi c_fi, iL a_fo fo c_fo, oL w 92 a_stp stp c_stp, oL w 4 a_pl pl c_pl] ++ r))
   refine k (stX H8 0 rfl ty92 rfl rfl rfl rfl rfl rfl rfl ?_)
   intro w6 (H9 : HI M w w6 ([box bb1 #[iV ((stpO stp sa).elim 0 (·.1)), iV ((stpO stp sa).elim 0 (·.2.1)), iV ((stpO stp sa).elim 0 (·.2.2.1)), iV ((stpO stp sa).elim 0 (·.2.2.2.1)), iV ((stpO stp sa).elim 0 (·.2.2.2.2))] 92, own w.heap.size 3 (.slice (some ⟨g0, 0, none⟩) 2 2) ([fr, to] : List Int), box bb0 #[iV kd, iV fr, iV to, iV sa, iV sb] 92, box b_a #[.slice a_fv n_fv c_fv, sL a_fi fi c_fi, sL a_fo fo c_fo, sL a_stp stp c_stp, sL a_pl pl c_pl] 57, iL a_fi fi c_fi, iL a_fo fo c_fo, oL w 92 a_stp stp c_stp, oL w 4 a_pl pl c_pl] ++ r))
   refine k (asg (v := .bool ((stpO stp sa).isSome)) rfl rfl (z (nx (sq (rg (k (mv rfl i0 (k (fa fl92_4 rfl rfl (k (lx H9 2 rfl ty3 rfl rfl rfl (k ?_))))))))))))
   have H10 := H9.freeze 6 rfl
   have H11 : HI M w w6 ([box bb1 #[iV ((stpO stp sa).elim 0 (·.1)), iV ((stpO stp sa).elim 0 (·.2.1)), iV ((stpO stp sa).elim 0 (·.2.2.1)), iV ((stpO stp sa).elim 0 (·.2.2.2.1)), iV ((stpO stp sa).elim 0 (·.2.2.2.2))] 92, own w.heap.size 3 (.slice (some ⟨g0, 0, none⟩) 2 2) ([fr, to] : List Int), box bb0 #[iV kd, iV fr, iV to, iV sa, iV sb] 92, box b_a #[.slice a_fv n_fv c_fv, sL a_fi fi c_fi, sL a_fo fo c_fo, sL a_stp stp c_stp, sL a_pl pl c_pl] 57, iL a_fi fi c_fi, iL a_fo fo c_fo, iL a_stp stp c_stp, oL w 4 a_pl pl c_pl] ++ r) := H10
   have cc2 := aud_step (stp := stp) (i := sb) (w := w6) (M := fun _ => False) (fun _ h_ => h_.elim) ((H11.rv 6 rfl).lift (Up.less fun _ _ h_ => h_.elim)) h_sb ⟨H11.at_ 3 rfl, fun h_ => h_⟩
   refine ca go83 rfl (ec rfl (ec rfl e0)) cc2 ?_
   rintro _ w7 ⟨rfl, xt5⟩
   have H12 := H9.ext xt5
   refine k (mv (v := .tuple #[.agg #[iV ((stpO stp sb).elim 0 (·.1)), iV ((stpO stp sb).elim 0 (·.2.1)), iV ((stpO stp sb).elim 0 (·.2.2.1)), iV ((stpO stp sb).elim 0 (·.2.2.2.1)), iV ((stpO stp sb).elim 0 (·.2.2.2.2))], .bool ((stpO stp sb).isSome)]) rfl rfl (k (xt rfl rfl rfl (k (xt rfl rfl rfl (k (al H12 ty92 ?_)))))))
   intro bb2 w8 xt6 (H13 : HI M w w8 ([box bb2 #[iV 0, iV 0, iV 0, iV 0, iV 0] 92, box bb1 #[iV ((stpO stp sa).elim 0 (·.1)), iV ((stpO stp sa).elim 0 (·.2.1)), iV ((stpO stp sa).elim 0 (·.2.2.1)), iV ((stpO stp sa).elim 0 (·.2.2.2.1)), iV ((stpO stp sa).elim 0 (·.2.2.2.2))] 92, own w.heap.size 3 (.slice (some ⟨g0, 0, none⟩) 2 2) ([fr, to] : List Int), box bb0 #[iV kd, iV fr, iV to, iV sa, iV sb] 92, box b_a #[.slice a_fv n_fv c_fv, sL a_fi fi c_fi, sL a_fo fo c_fo, sL a_stp stp c_stp, sL a_pl pl c_pl] 57, iL a_fi fi c_fi, iL a_fo fo c_fo, oL w 92 a_stp stp c_stp, oL w 4 a_pl pl c_pl] ++ r))
   refine k (stX H13 0 rfl ty92 rfl rfl rfl rfl rfl rfl rfl ?_)
   intro w9 (H14 : HI M w w9 ([box bb2 #[iV ((stpO stp sb).elim 0 (·.1)), iV ((stpO stp sb).elim 0 (·.2.1)), iV ((stpO stp sb).elim 0 (·.2.2.1)), iV ((stpO stp sb).elim 0 (·.2.2.2.1)), iV ((stpO stp sb).elim 0 (·.2.2.2.2))] 92, box bb1 #[iV ((stpO stp sa).elim 0 (·.1)), iV ((stpO stp sa).elim 0 (·.2.1)), iV ((stpO stp sa).elim 0 (·.2.2.1)), iV ((stpO stp sa).elim 0 (·.2.2.2.1)), iV ((stpO stp sa).elim 0 (·.2.2.2.2))] 92, own w.heap.size 3 (.slice (some ⟨g0, 0, none⟩) 2 2) ([fr, to] : List Int), box bb0 #[iV kd, iV fr, iV to, iV sa, iV sb] 92, box b_a #[.slice a_fv n_fv c_fv, sL a_fi fi c_fi, sL a_fo fo c_fo, sL a_stp stp c_stp, sL a_pl pl c_pl] 57, iL a_fi fi c_fi, iL a_fo fo c_fo, oL w 92 a_stp stp c_stp, oL w 4 a_pl pl c_pl] ++ r))
   refine k (asg (v := .bool ((stpO stp sb).isSome)) rfl rfl (z (nx (sq (rg (k (mv (v := .bool ((stpO stp sa).isSome)) rfl rfl (k (mv (v := .bool ((stpO stp sa).isSome)) rfl rfl ?_)))))))))
   rcases bE ((stpO stp sa).isSome) with b4 | b4
   ·
    refine k (gy rfl rfl rfl b4 (mv (v := .bool ((stpO stp sb).isSome)) rfl rfl (k (pickT rfl rfl rfl rfl b4 rfl (k (mv (v := .bool ((stpO stp sb).isSome)) rfl rfl ?_))))))
    rcases bE ((stpO stp sb).isSome) with b5 | b5
    ·
     refine k (gy rfl rfl rfl b5 (fa fl92_1 rfl rfl (k (gy rfl rfl rfl b5 (lx H14 1 rfl ty3 rfl rfl rfl (k (gy rfl rfl rfl b5 (fa fl92_1 rfl rfl (k (gy rfl rfl rfl b5 (lx H14 3 rfl ty3 rfl rfl rfl (k (gy rfl rfl rfl b5 (eql rfl rfl rfl rfl (k (pickT rfl rfl rfl rfl b5 rfl (k (mv (v := .bool (decide (((stpO stp sa).elim 0 (·.2.1)) = fr))) rfl rfl ?_))))))))))))))))))
     rcases bE (decide (((stpO stp sa).elim 0 (·.2.1)) = fr)) with b6 | b6
     ·
      have p6 := dT b6
      refine k (gy rfl rfl rfl b6 (fa fl92_2 rfl rfl (k (gy rfl rfl rfl b6 (lx H14 1 rfl ty3 rfl rfl rfl (k (gy rfl rfl rfl b6 (fa fl92_1 rfl rfl (k (gy rfl rfl rfl b6 (lx H14 0 rfl ty3 rfl rfl rfl (k (gy rfl rfl rfl b6 (eql rfl rfl rfl rfl (k (pickT rfl rfl rfl rfl b6 rfl (k (mv (v := .bool (decide (((stpO stp sa).elim 0 (·.2.2.1)) = ((stpO stp sb).elim 0 (·.2.1))))) rfl rfl ?_))))))))))))))))))
      rcases bE (decide (((stpO stp sa).elim 0 (·.2.2.1)) = ((stpO stp sb).elim 0 (·.2.1)))) with b7 | b7
      ·
       have p7 := dT b7
       refine k (gy rfl rfl rfl b7 (fa fl92_2 rfl rfl (k (gy rfl rfl rfl b7 (lx H14 0 rfl ty3 rfl rfl rfl (k (gy rfl rfl rfl b7 (fa fl92_2 rfl rfl (k (gy rfl rfl rfl b7 (lx H14 3 rfl ty3 rfl rfl rfl (k (gy rfl rfl rfl b7 (eql rfl rfl rfl rfl (k (pickT rfl rfl rfl rfl b7 rfl (k (asg (v := .bool (decide (((stpO stp sb).elim 0 (·.2.2.1)) = to))) rfl rfl (z (nx (sq (rg (k (mv (v := .bool (decide (((stpO stp sb).elim 0 (·.2.2.1)) = to))) rfl rfl (z (nx ?_))))))))))))))))))))))))))
       refine cd (b := decide (((stpO stp sb).elim 0 (·.2.2.1)) = to)) rfl rfl (fun b8 => ?_) (fun b8 => ?_)
       ·
        have p8 := dT b8
        have hq0_ := stpO_rng (pre := stp) (sa := sa) (by assumption)
        have hq1_ := stpO_rng (pre := stp) (sa := sb) (by assumption)
        refine drS rfl (by kernel_rfl) ?_
        refine kq (fun _ _ => mv rfl i0 e1) (kq (fun _ _ => nc rfl rfl e1) (kq (fun _ _ => fa fl57_2 rfl rfl e1) (kq (fun _ x_ => lx (H14.ext x_) 4 rfl ty55 rfl rfl rfl e1) (kq (fun _ _ => fa fl92_3 rfl rfl e1) (kq (fun _ x_ => lx (H14.ext x_) 3 rfl ty3 rfl rfl rfl e1) (q_iaO (H14.at_ 8 rfl) rfl rfl rfl rfl (by omega) un55 ty4 ?_))))))
        intro ad0 x0 hx0 hA0
        refine q_ldB hA0 ty4 rfl rfl (kq (fun _ _ => mv (v := .bool x0) rfl rfl e1) ?_)
        rcases bE (x0) with b9 | b9
        ·
         refine qy rfl rfl rfl b9 (kq (fun _ _ => mv rfl i0 e1) (qy rfl rfl rfl b9 (kq (fun _ _ => nc rfl rfl e1) (qy rfl rfl rfl b9 (kq (fun _ _ => fa fl57_2 rfl rfl e1) (qy rfl rfl rfl b9 (kq (fun _ x_ => lx (H14.ext x_) 4 rfl ty55 rfl rfl rfl e1) (qy rfl rfl rfl b9 (kq (fun _ _ => fa fl92_4 rfl rfl e1) (qy rfl rfl rfl b9 (kq (fun _ x_ => lx (H14.ext x_) 3 rfl ty3 rfl rfl rfl e1) (qy rfl rfl rfl b9 (q_iaO (H14.at_ 8 rfl) rfl rfl rfl rfl (by (first | (have h_ := op1_rng (fi := fi) (sb := sb) (by assumption); omega) | (have h_ := stpO_rng (pre := stp) (sa := sb) (by assumption); omega))) un55 ty4 ?_)))))))))))))
         intro ad1 x1 hx1 hA1
         refine qy rfl rfl rfl b9 (q_ldB hA1 ty4 rfl rfl (kq (fun _ _ => pickT rfl rfl rfl rfl b9 rfl e1) (kq (fun _ _ => asg (v := .bool x1) rfl rfl e1) (zq ?_))))
         intro w10 xt7
         have H15 := H14.ext xt7
         refine inb_normal ?_
         have H16 : HI M w w10 ([own w.heap.size 3 (.slice (some ⟨g0, 0, none⟩) 2 2) ([fr, to] : List Int), box bb0 #[iV kd, iV fr, iV to, iV sa, iV sb] 92, box b_a #[.slice a_fv n_fv c_fv, sL a_fi fi c_fi, sL a_fo fo c_fo, sL a_stp stp c_stp, sL a_pl pl c_pl] 57, iL a_fi fi c_fi, iL a_fo fo c_fo, oL w 92 a_stp stp c_stp, oL w 4 a_pl pl c_pl] ++ r) := HI.pickT (l := [box bb2 #[iV ((stpO stp sb).elim 0 (·.1)), iV ((stpO stp sb).elim 0 (·.2.1)), iV ((stpO stp sb).elim 0 (·.2.2.1)), iV ((stpO stp sb).elim 0 (·.2.2.2.1)), iV ((stpO stp sb).elim 0 (·.2.2.2.2))] 92, box bb1 #[iV ((stpO stp sa).elim 0 (·.1)), iV ((stpO stp sa).elim 0 (·.2.1)), iV ((stpO stp sa).elim 0 (·.2.2.1)), iV ((stpO stp sa).elim 0 (·.2.2.2.1)), iV ((stpO stp sa).elim 0 (·.2.2.2.2))] 92, own w.heap.size 3 (.slice (some ⟨g0, 0, none⟩) 2 2) ([fr, to] : List Int), box bb0 #[iV kd, iV fr, iV to, iV sa, iV sb] 92, box b_a #[.slice a_fv n_fv c_fv, sL a_fi fi c_fi, sL a_fo fo c_fo, sL a_stp stp c_stp, sL a_pl pl c_pl] 57, iL a_fi fi c_fi, iL a_fo fo c_fo, oL w 92 a_stp stp c_stp, oL w 4 a_pl pl c_pl]) (l' := [own w.heap.size 3 (.slice (some ⟨g0, 0, none⟩) 2 2) ([fr, to] : List Int), box bb0 #[iV kd, iV fr, iV to, iV sa, iV sb] 92, box b_a #[.slice a_fv n_fv c_fv, sL a_fi fi c_fi, sL a_fo fo c_fo, sL a_stp stp c_stp, sL a_pl pl c_pl] 57, iL a_fi fi c_fi, iL a_fo fo c_fo, oL w 92 a_stp stp c_stp, oL w 4 a_pl pl c_pl]) (t := r) H15 [2, 3, 4, 5, 6, 7, 8] (by decide) rfl rfl
         refine cutN ⟨(decide (((stpO stp sb).elim 0 (·.2.2.1)) = to)), x1, i0, rfl, rfl, rfl, H16, (by first | exact g3a ‹_› ‹_› | exact g3b ‹_› ‹_› | exact g3c ‹_› ‹_› ‹_› ‹_› | exact g3d ‹_› ‹_› ‹_› ‹_› ‹_› | exact g3e ‹_› ‹_› ‹_› ‹_› ‹_›), (by first | exact p3a ‹_› ‹_› | exact p3b ‹_› ‹_› | exact p3c ‹_› ‹_› ‹_› ‹_› | exact p3d ‹_› ‹_› ‹_› ‹_› ‹_› | exact p3e ‹_› ‹_› ‹_› ‹_› ‹_› ‹_› | exact p3f ‹_› ‹_› ‹_› ‹_› ‹_› ‹_› ‹_› ‹_› | exact p3g ‹_› ‹_› ‹_› ‹_› ‹_› ‹_› ‹_› ‹_› ‹_›)⟩
        refine qn rfl rfl rfl b9 (qn rfl rfl rfl b9 (qn rfl rfl rfl b9 (qn rfl rfl rfl b9 (qn rfl rfl rfl b9 (qn rfl rfl rfl b9 (qn rfl rfl rfl b9 (qn rfl rfl rfl b9 (kq (fun _ _ => pickF rfl rfl rfl rfl b9 rfl e1) (kq (fun _ _ => asg (v := .bool false) rfl rfl e1) (zq ?_))))))))))
        intro w10 xt7
        have H15 := H14.ext xt7
        refine inb_normal ?_
        have H16 : HI M w w10 ([own w.heap.size 3 (.slice (some ⟨g0, 0, none⟩) 2 2) ([fr, to] : List Int), box bb0 #[iV kd, iV fr, iV to, iV sa, iV sb] 92, box b_a #[.slice a_fv n_fv c_fv, sL a_fi fi c_fi, sL a_fo fo c_fo, sL a_stp stp c_stp, sL a_pl pl c_pl] 57, iL a_fi fi c_fi, iL a_fo fo c_fo, oL w 92 a_stp stp c_stp, oL w 4 a_pl pl c_pl] ++ r) := HI.pickT (l := [box bb2 #[iV ((stpO stp sb).elim 0 (·.1)), iV ((stpO stp sb).elim 0 (·.2.1)), iV ((stpO stp sb).elim 0 (·.2.2.1)), iV ((stpO stp sb).elim 0 (·.2.2.2.1)), iV ((stpO stp sb).elim 0 (·.2.2.2.2))] 92, box bb1 #[iV ((stpO stp sa).elim 0 (·.1)), iV ((stpO stp sa).elim 0 (·.2.1)), iV ((stpO stp sa).elim 0 (·.2.2.1)), iV ((stpO stp sa).elim 0 (·.2.2.2.1)), iV ((stpO stp sa).elim 0 (·.2.2.2.2))] 92, own w.heap.size 3 (.slice (some ⟨g0, 0, none⟩) 2 2) ([fr, to] : List Int), box bb0 #[iV kd, iV fr, iV to, iV sa, iV sb] 92, box b_a #[.slice a_fv n_fv c_fv, sL a_fi fi c_fi, sL a_fo fo c_fo, sL a_stp stp c_stp, sL a_pl pl c_pl] 57, iL a_fi fi c_fi, iL a_fo fo c_fo, oL w 92 a_stp stp c_stp, oL w 4 a_pl pl c_pl]) (l' := [own w.heap.size 3 (.slice (some ⟨g0, 0, none⟩) 2 2) ([fr, to] : List Int), box bb0 #[iV kd, iV fr, iV to, iV sa, iV sb] 92, box b_a #[.slice a_fv n_fv c_fv, sL a_fi fi c_fi, sL a_fo fo c_fo, sL a_stp stp c_stp, sL a_pl pl c_pl] 57, iL a_fi fi c_fi, iL a_fo fo c_fo, oL w 92 a_stp stp c_stp, oL w 4 a_pl pl c_pl]) (t := r) H15 [2, 3, 4, 5, 6, 7, 8] (by decide) rfl rfl
        refine cutN ⟨(decide (((stpO stp sb).elim 0 (·.2.2.1)) = to)), false, i0, rfl, rfl, rfl, H16, (by first | exact g3a ‹_› ‹_› | exact g3b ‹_› ‹_› | exact g3c ‹_› ‹_› ‹_› ‹_› | exact g3d ‹_› ‹_› ‹_› ‹_› ‹_› | exact g3e ‹_› ‹_› ‹_› ‹_› ‹_›), (by first | exact p3a ‹_› ‹_› | exact p3b ‹_› ‹_› | exact p3c ‹_› ‹_› ‹_› ‹_› | exact p3d ‹_› ‹_› ‹_› ‹_› ‹_› | exact p3e ‹_› ‹_› ‹_› ‹_› ‹_› ‹_› | exact p3f ‹_› ‹_› ‹_› ‹_› ‹_› ‹_› ‹_› ‹_› | exact p3g ‹_› ‹_› ‹_› ‹_› ‹_› ‹_› ‹_› ‹_› ‹_›)⟩
       have p8 := dF b8
       refine sk (inb_normal ?_)
       have H15 : HI M w w9 ([own w.heap.size 3 (.slice (some ⟨g0, 0, none⟩) 2 2) ([fr, to] : List Int), box bb0 #[iV kd, iV fr, iV to, iV sa, iV sb] 92, box b_a #[.slice a_fv n_fv c_fv, sL a_fi fi c_fi, sL a_fo fo c_fo, sL a_stp stp c_stp, sL a_pl pl c_pl] 57, iL a_fi fi c_fi, iL a_fo fo c_fo, oL w 92 a_stp stp c_stp, oL w 4 a_pl pl c_pl] ++ r) := HI.pickT (l := [box bb2 #[iV ((stpO stp sb).elim 0 (·.1)), iV ((stpO stp sb).elim 0 (·.2.1)), iV ((stpO stp sb).elim 0 (·.2.2.1)), iV ((stpO stp sb).elim 0 (·.2.2.2.1)), iV ((stpO stp sb).elim 0 (·.2.2.2.2))] 92, box bb1 #[iV ((stpO stp sa).elim 0 (·.1)), iV ((stpO stp sa).elim 0 (·.2.1)), iV ((stpO stp sa).elim 0 (·.2.2.1)), iV ((stpO stp sa).elim 0 (·.2.2.2.1)), iV ((stpO stp sa).elim 0 (·.2.2.2.2))] 92, own w.heap.size 3 (.slice (some ⟨g0, 0, none⟩) 2 2) ([fr, to] : List Int), box bb0 #[iV kd, iV fr, iV to, iV sa, iV sb] 92, box b_a #[.slice a_fv n_fv c_fv, sL a_fi fi c_fi, sL a_fo fo c_fo, sL a_stp stp c_stp, sL a_pl pl c_pl] 57, iL a_fi fi c_fi, iL a_fo fo c_fo, oL w 92 a_stp stp c_stp, oL w 4 a_pl pl c_pl]) (l' := [own w.heap.size 3 (.slice (some ⟨g0, 0, none⟩) 2 2) ([fr, to] : List Int), box bb0 #[iV kd, iV fr, iV to, iV sa, iV sb] 92, box b_a #[.slice a_fv n_fv c_fv, sL a_fi fi c_fi, sL a_fo fo c_fo, sL a_stp stp c_stp, sL a_pl pl c_pl] 57, iL a_fi fi c_fi, iL a_fo fo c_fo, oL w 92 a_stp stp c_stp, oL w 4 a_pl pl c_pl]) (t := r) H14 [2, 3, 4, 5, 6, 7, 8] (by decide) rfl rfl
       refine cutN ⟨(decide (((stpO stp sb).elim 0 (·.2.2.1)) = to)), true, i0, rfl, rfl, rfl, H15, (by first | exact g3a ‹_› ‹_› | exact g3b ‹_› ‹_› | exact g3c ‹_› ‹_› ‹_› ‹_› | exact g3d ‹_› ‹_› ‹_› ‹_› ‹_› | exact g3e ‹_› ‹_› ‹_› ‹_› ‹_›), (by first | exact p3a ‹_› ‹_› | exact p3b ‹_› ‹_› | exact p3c ‹_› ‹_› ‹_› ‹_› | exact p3d ‹_› ‹_› ‹_› ‹_› ‹_› | exact p3e ‹_› ‹_› ‹_› ‹_› ‹_› ‹_› | exact p3f ‹_› ‹_› ‹_› ‹_› ‹_› ‹_› ‹_› ‹_› | exact p3g ‹_› ‹_› ‹_› ‹_› ‹_› ‹_› ‹_› ‹_› ‹_›)⟩
      have p7 := dF b7
      refine k (gn rfl rfl rfl b7 (k (gn rfl rfl rfl b7 (k (gn rfl rfl rfl b7 (k (gn rfl rfl rfl b7 (k (gn rfl rfl rfl b7 (k (pickF rfl rfl rfl rfl b7 rfl (k (asg (v := .bool false) rfl rfl (z (nx (sq (rg (k (mv (v := .bool false) rfl rfl (z (nx (cdF rfl rfl rfl (sk (inb_normal ?_))))))))))))))))))))))))
      have H15 : HI M w w9 ([own w.heap.size 3 (.slice (some ⟨g0, 0, none⟩) 2 2) ([fr, to] : List Int), box bb0 #[iV kd, iV fr, iV to, iV sa, iV sb] 92, box b_a #[.slice a_fv n_fv c_fv, sL a_fi fi c_fi, sL a_fo fo c_fo, sL a_stp stp c_stp, sL a_pl pl c_pl] 57, iL a_fi fi c_fi, iL a_fo fo c_fo, oL w 92 a_stp stp c_stp, oL w 4 a_pl pl c_pl] ++ r) := HI.pickT (l := [box bb2 #[iV ((stpO stp sb).elim 0 (·.1)), iV ((stpO stp sb).elim 0 (·.2.1)), iV ((stpO stp sb).elim 0 (·.2.2.1)), iV ((stpO stp sb).elim 0 (·.2.2.2.1)), iV ((stpO stp sb).elim 0 (·.2.2.2.2))] 92, box bb1 #[iV ((stpO stp sa).elim 0 (·.1)), iV ((stpO stp sa).elim 0 (·.2.1)), iV ((stpO stp sa).elim 0 (·.2.2.1)), iV ((stpO stp sa).elim 0 (·.2.2.2.1)), iV ((stpO stp sa).elim 0 (·.2.2.2.2))] 92, own w.heap.size 3 (.slice (some ⟨g0, 0, none⟩) 2 2) ([fr, to] : List Int), box bb0 #[iV kd, iV fr, iV to, iV sa, iV sb] 92, box b_a #[.slice a_fv n_fv c_fv, sL a_fi fi c_fi, sL a_fo fo c_fo, sL a_stp stp c_stp, sL a_pl pl c_pl] 57, iL a_fi fi c_fi, iL a_fo fo c_fo, oL w 92 a_stp stp c_stp, oL w 4 a_pl pl c_pl]) (l' := [own w.heap.size 3 (.slice (some ⟨g0, 0, none⟩) 2 2) ([fr, to] : List Int), box bb0 #[iV kd, iV fr, iV to, iV sa, iV sb] 92, box b_a #[.slice a_fv n_fv c_fv, sL a_fi fi c_fi, sL a_fo fo c_fo, sL a_stp stp c_stp, sL a_pl pl c_pl] 57, iL a_fi fi c_fi, iL a_fo fo c_fo, oL w 92 a_stp stp c_stp, oL w 4 a_pl pl c_pl]) (t := r) H14 [2, 3, 4, 5, 6, 7, 8] (by decide) rfl rfl
      refine cutN ⟨false, true, i0, rfl, rfl, rfl, H15, (by first | exact g3a ‹_› ‹_› | exact g3b ‹_› ‹_› | exact g3c ‹_› ‹_› ‹_› ‹_› | exact g3d ‹_› ‹_› ‹_› ‹_› ‹_› | exact g3e ‹_› ‹_› ‹_› ‹_› ‹_›), (by first | exact p3a ‹_› ‹_› | exact p3b ‹_› ‹_› | exact p3c ‹_› ‹_› ‹_› ‹_› | exact p3d ‹_› ‹_› ‹_› ‹_› ‹_› | exact p3e ‹_› ‹_› ‹_› ‹_› ‹_› ‹_› | exact p3f ‹_› ‹_› ‹_› ‹_› ‹_› ‹_› ‹_› ‹_› | exact p3g ‹_› ‹_› ‹_› ‹_› ‹_› ‹_› ‹_› ‹_› ‹_›)⟩
     have p6 := dF b6
     refine k (gn rfl rfl rfl b6 (k (gn rfl rfl rfl b6 (k (gn rfl rfl rfl b6 (k (gn rfl rfl rfl b6 (k (gn rfl rfl rfl b6 (k (pickF rfl rfl rfl rfl b6 rfl (k (mv (v := .bool false) rfl rfl (k (gn rfl rfl rfl rfl (k (gn rfl rfl rfl rfl (k (gn rfl rfl rfl rfl (k (gn rfl rfl rfl rfl (k (gn rfl rfl rfl rfl (k (pickF rfl rfl rfl rfl rfl rfl (k (asg (v := .bool false) rfl rfl (z (nx (sq (rg (k (mv (v := .bool false) rfl rfl (z (nx (cdF rfl rfl rfl (sk (inb_normal ?_))))))))))))))))))))))))))))))))))))))
     have H15 : HI M w w9 ([own w.heap.size 3 (.slice (some ⟨g0, 0, none⟩) 2 2) ([fr, to] : List Int), box bb0 #[iV kd, iV fr, iV to, iV sa, iV sb] 92, box b_a #[.slice a_fv n_fv c_fv, sL a_fi fi c_fi, sL a_fo fo c_fo, sL a_stp stp c_stp, sL a_pl pl c_pl] 57, iL a_fi fi c_fi, iL a_fo fo c_fo, oL w 92 a_stp stp c_stp, oL w 4 a_pl pl c_pl] ++ r) := HI.pickT (l := [box bb2 #[iV ((stpO stp sb).elim 0 (·.1)), iV ((stpO stp sb).elim 0 (·.2.1)), iV ((stpO stp sb).elim 0 (·.2.2.1)), iV ((stpO stp sb).elim 0 (·.2.2.2.1)), iV ((stpO stp sb).elim 0 (·.2.2.2.2))] 92, box bb1 #[iV ((stpO stp sa).elim 0 (·.1)), iV ((stpO stp sa).elim 0 (·.2.1)), iV ((stpO stp sa).elim 0 (·.2.2.1)), iV ((stpO stp sa).elim 0 (·.2.2.2.1)), iV ((stpO stp sa).elim 0 (·.2.2.2.2))] 92, own w.heap.size 3 (.slice (some ⟨g0, 0, none⟩) 2 2) ([fr, to] : List Int), box bb0 #[iV kd, iV fr, iV to, iV sa, iV sb] 92, box b_a #[.slice a_fv n_fv c_fv, sL a_fi fi c_fi, sL a_fo fo c_fo, sL a_stp stp c_stp, sL a_pl pl c_pl] 57, iL a_fi fi c_fi, iL a_fo fo c_fo, oL w 92 a_stp stp c_stp, oL w 4 a_pl pl c_pl]) (l' := [own w.heap.size 3 (.slice (some ⟨g0, 0, none⟩) 2 2) ([fr, to] : List Int), box bb0 #[iV kd, iV fr, iV to, iV sa, iV sb] 92, box b_a #[.slice a_fv n_fv c_fv, sL a_fi fi c_fi, sL a_fo fo c_fo, sL a_stp stp c_stp, sL a_pl pl c_pl] 57, iL a_fi fi c_fi, iL a_fo fo c_fo, oL w 92 a_stp stp c_stp, oL w 4 a_pl pl c_pl]) (t := r) H14 [2, 3, 4, 5, 6, 7, 8] (by decide) rfl rfl
     refine cutN ⟨false, true, i0, rfl, rfl, rfl, H15, (by first | exact g3a ‹_› ‹_› | exact g3b ‹_› ‹_› | exact g3c ‹_› ‹_› ‹_› ‹_› | exact g3d ‹_› ‹_› ‹_› ‹_› ‹_› | exact g3e ‹_› ‹_› ‹_› ‹_› ‹_›), (by first | exact p3a ‹_› ‹_› | exact p3b ‹_› ‹_› | exact p3c ‹_› ‹_› ‹_› ‹_› | exact p3d ‹_› ‹_› ‹_› ‹_› ‹_› | exact p3e ‹_› ‹_› ‹_› ‹_› ‹_› ‹_› | exact p3f ‹_› ‹_› ‹_› ‹_› ‹_› ‹_› ‹_› ‹_› | exact p3g ‹_› ‹_› ‹_› ‹_› ‹_› ‹_› ‹_› ‹_› ‹_›)⟩
    refine k (gn rfl rfl rfl b5 (k (gn rfl rfl rfl b5 (k (gn rfl rfl rfl b5 (k (gn rfl rfl rfl b5 (k (gn rfl rfl rfl b5 (k (pickF rfl rfl rfl rfl b5 rfl (k (mv (v := .bool false) rfl rfl (k (gn rfl rfl rfl rfl (k (gn rfl rfl rfl rfl (k (gn rfl rfl rfl rfl (k (gn rfl rfl rfl rfl (k (gn rfl rfl rfl rfl (k (pickF rfl rfl rfl rfl rfl rfl (k (mv (v := .bool false) rfl rfl (k (gn rfl rfl rfl rfl (k (gn rfl rfl rfl rfl (k (gn rfl rfl rfl rfl (k (gn rfl rfl rfl rfl (k (gn rfl rfl rfl rfl (k (pickF rfl rfl rfl rfl rfl rfl (k (asg (v := .bool false) rfl rfl (z (nx (sq (rg (k (mv (v := .bool false) rfl rfl (z (nx (cdF rfl rfl rfl (sk (inb_normal ?_))))))))))))))))))))))))))))))))))))))))))))))))))))
    have H15 : HI M w w9 ([own w.heap.size 3 (.slice (some ⟨g0, 0, none⟩) 2 2) ([fr, to] : List Int), box bb0 #[iV kd, iV fr, iV to, iV sa, iV sb] 92, box b_a #[.slice a_fv n_fv c_fv, sL a_fi fi c_fi, sL a_fo fo c_fo, sL a_stp stp c_stp, sL a_pl pl c_pl] 57, iL a_fi fi c_fi, iL a_fo fo c_fo, oL w 92 a_stp stp c_stp, oL w 4 a_pl pl c_pl] ++ r) := HI.pickT (l := [box bb2 #[iV ((stpO stp sb).elim 0 (·.1)), iV ((stpO stp sb).elim 0 (·.2.1)), iV ((stpO stp sb).elim 0 (·.2.2.1)), iV ((stpO stp sb).elim 0 (·.2.2.2.1)), iV ((stpO stp sb).elim 0 (·.2.2.2.2))] 92, box bb1 #[iV ((stpO stp sa).elim 0 (·.1)), iV ((stpO stp sa).elim 0 (·.2.1)), iV ((stpO stp sa).elim 0 (·.2.2.1)), iV ((stpO stp sa).elim 0 (·.2.2.2.1)), iV ((stpO stp sa).elim 0 (·.2.2.2.2))] 92, own w.heap.size 3 (.slice (some ⟨g0, 0, none⟩) 2 2) ([fr, to] : List Int), box bb0 #[iV kd, iV fr, iV to, iV sa, iV sb] 92, box b_a #[.slice a_fv n_fv c_fv, sL a_fi fi c_fi, sL a_fo fo c_fo, sL a_stp stp c_stp, sL a_pl pl c_pl] 57, iL a_fi fi c_fi, iL a_fo fo c_fo, oL w 92 a_stp stp c_stp, oL w 4 a_pl pl c_pl]) (l' := [own w.heap.size 3 (.slice (some ⟨g0, 0, none⟩) 2 2) ([fr, to] : List Int), box bb0 #[iV kd, iV fr, iV to, iV sa, iV sb] 92, box b_a #[.slice a_fv n_fv c_fv, sL a_fi fi c_fi, sL a_fo fo c_fo, sL a_stp stp c_stp, sL a_pl pl c_pl] 57, iL a_fi fi c_fi, iL a_fo fo c_fo, oL w 92 a_stp stp c_stp, oL w 4 a_pl pl c_pl]) (t := r) H14 [2, 3, 4, 5, 6, 7, 8] (by decide) rfl rfl
    refine cutN ⟨false, true, i0, rfl, rfl, rfl, H15, (by first | exact g3a ‹_› ‹_› | exact g3b ‹_› ‹_› | exact g3c ‹_› ‹_› ‹_› ‹_› | exact g3d ‹_› ‹_› ‹_› ‹_› ‹_› | exact g3e ‹_› ‹_› ‹_› ‹_› ‹_›), (by first | exact p3a ‹_› ‹_› | exact p3b ‹_› ‹_› | exact p3c ‹_› ‹_› ‹_› ‹_› | exact p3d ‹_› ‹_› ‹_› ‹_› ‹_› | exact p3e ‹_› ‹_› ‹_› ‹_› ‹_› ‹_› | exact p3f ‹_› ‹_› ‹_› ‹_› ‹_› ‹_› ‹_› ‹_› | exact p3g ‹_› ‹_› ‹_› ‹_› ‹_› ‹_› ‹_› ‹_› ‹_›)⟩
   refine k (gn rfl rfl rfl b4 (k (pickF rfl rfl rfl rfl b4 rfl (k (mv (v := .bool false) rfl rfl (k (gn rfl rfl rfl rfl (k (gn rfl rfl rfl rfl (k (gn rfl rfl rfl rfl (k (gn rfl rfl rfl rfl (k (gn rfl rfl rfl rfl (k (pickF rfl rfl rfl rfl rfl rfl (k (mv (v := .bool false) rfl rfl (k (gn rfl rfl rfl rfl (k (gn rfl rfl rfl rfl (k (gn rfl rfl rfl rfl (k (gn rfl rfl rfl rfl (k (gn rfl rfl rfl rfl (k (pickF rfl rfl rfl rfl rfl rfl (k (mv (v := .bool false) rfl rfl (k (gn rfl rfl rfl rfl (k (gn rfl rfl rfl rfl (k (gn rfl rfl rfl rfl (k (gn rfl rfl rfl rfl (k (gn rfl rfl rfl rfl (k (pickF rfl rfl rfl rfl rfl rfl (k (asg (v := .bool false) rfl rfl (z (nx (sq (rg (k (mv (v := .bool false) rfl rfl (z (nx (cdF rfl rfl rfl (sk (inb_normal ?_))))))))))))))))))))))))))))))))))))))))))))))))))))))))))
   have H15 : HI M w w9 ([own w.heap.size 3 (.slice (some ⟨g0, 0, none⟩) 2 2) ([fr, to] : List Int), box bb0 #[iV kd, iV fr, iV to, iV sa, iV sb] 92, box b_a #[.slice a_fv n_fv c_fv, sL a_fi fi c_fi, sL a_fo fo c_fo, sL a_stp stp c_stp, sL a_pl pl c_pl] 57, iL a_fi fi c_fi, iL a_fo fo c_fo, oL w 92 a_stp stp c_stp, oL w 4 a_pl pl c_pl] ++ r) := HI.pickT (l := [box bb2 #[iV ((stpO stp sb).elim 0 (·.1)), iV ((stpO stp sb).elim 0 (·.2.1)), iV ((stpO stp sb).elim 0 (·.2.2.1)), iV ((stpO stp sb).elim 0 (·.2.2.2.1)), iV ((stpO stp sb).elim 0 (·.2.2.2.2))] 92, box bb1 #[iV ((stpO stp sa).elim 0 (·.1)), iV ((stpO stp sa).elim 0 (·.2.1)), iV ((stpO stp sa).elim 0 (·.2.2.1)), iV ((stpO stp sa).elim 0 (·.2.2.2.1)), iV ((stpO stp sa).elim 0 (·.2.2.2.2))] 92, own w.heap.size 3 (.slice (some ⟨g0, 0, none⟩) 2 2) ([fr, to] : List Int), box bb0 #[iV kd, iV fr, iV to, iV sa, iV sb] 92, box b_a #[.slice a_fv n_fv c_fv, sL a_fi fi c_fi, sL a_fo fo c_fo, sL a_stp stp c_stp, sL a_pl pl c_pl] 57, iL a_fi fi c_fi, iL a_fo fo c_fo, oL w 92 a_stp stp c_stp, oL w 4 a_pl pl c_pl]) (l' := [own w.heap.size 3 (.slice (some ⟨g0, 0, none⟩) 2 2) ([fr, to] : List Int), box bb0 #[iV kd, iV fr, iV to, iV sa, iV sb] 92, box b_a #[.slice a_fv n_fv c_fv, sL a_fi fi c_fi, sL a_fo fo c_fo, sL a_stp stp c_stp, sL a_pl pl c_pl] 57, iL a_fi fi c_fi, iL a_fo fo c_fo, oL w 92 a_stp stp c_stp, oL w 4 a_pl pl c_pl]) (t := r) H14 [2, 3, 4, 5, 6, 7, 8] (by decide) rfl rfl
   refine cutN ⟨false, true, i0, rfl, rfl, rfl, H15, (by first | exact g3a ‹_› ‹_› | exact g3b ‹_› ‹_› | exact g3c ‹_› ‹_› ‹_› ‹_› | exact g3d ‹_› ‹_› ‹_› ‹_› ‹_› | exact g3e ‹_› ‹_› ‹_› ‹_› ‹_›), (by first | exact p3a ‹_› ‹_› | exact p3b ‹_› ‹_› | exact p3c ‹_› ‹_› ‹_› ‹_› | exact p3d ‹_› ‹_› ‹_› ‹_› ‹_› | exact p3e ‹_› ‹_› ‹_› ‹_› ‹_› ‹_› | exact p3f ‹_› ‹_› ‹_› ‹_› ‹_› ‹_› ‹_› ‹_› | exact p3g ‹_› ‹_› ‹_› ‹_› ‹_› ‹_› ‹_› ‹_› ‹_›)⟩
  have p3 := dF b3
  refine sq (rg (k (eql rfl rfl rfl rfl (k (asg (v := .bool (decide (kd = 4))) rfl rfl (z (nx ?_)))))))
  refine cd (b := decide (kd = 4)) rfl rfl (fun b4 => ?_) (fun b4 => ?_)
  ·
   have p4 := dT b4
   refine sq ?_
   refine drX rfl (by kernel_rfl) ?_
   refine xq rfl (kq (fun _ _ => mv rfl i0 e1) (zq (xq rfl (kq (fun _ _ => fa fl92_4 rfl rfl e1) (zq (xq rfl (kq (fun _ x_ => lx (H4.ext x_) 1 rfl ty3 rfl rfl rfl e1) (zq ?_))))))))
   refine xu (fun v w' => ∃ (a0 : OA) (c0 : Nat), v = sL a0 ([sb] : List Int) c0 ∧ RV (MS M ([own w.heap.size 3 (.slice (some ⟨g0, 0, none⟩) 2 2) ([fr, to] : List Int), box bb0 #[iV kd, iV fr, iV to, iV sa, iV sb] 92, box b_a #[.slice a_fv n_fv c_fv, sL a_fi fi c_fi, sL a_fo fo c_fo, sL a_stp stp c_stp, sL a_pl pl c_pl] 57, iL a_fi fi c_fi, iL a_fo fo c_fo, oL w 92 a_stp stp c_stp, oL w 4 a_pl pl c_pl] ++ r)) w' (sL a0 ([sb] : List Int) c0) ([sb] : List Int)) rfl (by rintro _ _ _ x_ ⟨a0, c0, e_, rv0⟩; exact ⟨a0, c0, e_, rv0.lift (Up.ext x_)⟩) rfl (fun v_ x_ => ?_) ?_
   ·
    have H7 := H4.ext x_
    refine bs (xs := ([sb] : List Int)) (cells := #[iV sb]) (e := 3) H7 rfl (pbc rfl pb0) (fun _ => by kernel_rfl) ⟨[iV sb], [], rfl, ⟨rfl, h_sb⟩, rfl⟩ rfl (by decide) ?_
    intro g2 w5 xt4 (H8 : HI M w w5 ([own w.heap.size 3 (.slice (some ⟨g2, 0, none⟩) 1 1) ([sb] : List Int), own w.heap.size 3 (.slice (some ⟨g0, 0, none⟩) 2 2) ([fr, to] : List Int), box bb0 #[iV kd, iV fr, iV to, iV sa, iV sb] 92, box b_a #[.slice a_fv n_fv c_fv, sL a_fi fi c_fi, sL a_fo fo c_fo, sL a_stp stp c_stp, sL a_pl pl c_pl] 57, iL a_fi fi c_fi, iL a_fo fo c_fo, oL w 92 a_stp stp c_stp, oL w 4 a_pl pl c_pl] ++ r))
    have H9 := H8.freeze 0 rfl
    exact ⟨_, rfl, xt4, ⟨(some ⟨g2, 0, none⟩), 1, rfl, (rv_drop rfl (H9.rv 0 rfl))⟩⟩
   refine xk1 (X := .bool (!(([sb] : List Int).any (outO fi)))) 0 rfl rfl (fun v_ u_ x_ h_ => ?_) ?_
   ·
    have H11 := H4.ext x_
    obtain ⟨a2, c2, s0, rv2⟩ := h_
    have H12 := H11.put (it := iL a2 ([sb] : List Int) c2) rfl rv2
    have H13 : HI M w v_ ([iL a2 ([sb] : List Int) c2, own w.heap.size 3 (.slice (some ⟨g0, 0, none⟩) 2 2) ([fr, to] : List Int), box bb0 #[iV kd, iV fr, iV to, iV sa, iV sb] 92, box b_a #[.slice a_fv n_fv c_fv, sL a_fi fi c_fi, sL a_fo fo c_fo, sL a_stp stp c_stp, sL a_pl pl c_pl] 57, iL a_fi fi c_fi, iL a_fo fo c_fo, oL w 92 a_stp stp c_stp, oL w 4 a_pl pl c_pl] ++ r) := H12
    have cc := aud_op (fi := fi) (l := ([sb] : List Int)) (w := v_) (M := fun _ => False) (fun _ h_ => h_.elim) ((H13.rv 4 rfl).lift (Up.less fun _ _ h_ => h_.elim)) ((H13.rv 0 rfl).lift (Up.less fun _ _ h_ => h_.elim)) ⟨H13.at_ 3 rfl, fun h_ => h_⟩
    exact ca go46 rfl (ec rfl (ec s0 e0)) cc fun _ _ h_ => e2 h_
   refine xq rfl (kq (fun _ _ => mv (v := .bool (!(([sb] : List Int).any (outO fi)))) rfl rfl e1) (zq ?_))
   rcases bE (!(([sb] : List Int).any (outO fi))) with b5 | b5
   ·
    refine xq rfl (qy rfl rfl rfl b5 (kq (fun _ _ => mv rfl i0 e1) (zq (xq rfl (qy rfl rfl rfl b5 (kq (fun _ _ => nc rfl rfl e1) (zq (xq rfl (qy rfl rfl rfl b5 (kq (fun _ _ => fa fl57_0 rfl rfl e1) (zq (xq rfl (qy rfl rfl rfl b5 (kq (fun _ _ => fa fl32_2 rfl rfl e1) (zq (xq rfl (qy rfl rfl rfl b5 (kq (fun _ x_ => lx (H4.ext x_) 2 rfl ty30 rfl rfl rfl e1) (zq (xq rfl (qy rfl rfl rfl b5 (kq (fun _ _ => fa fl92_4 rfl rfl e1) (zq (xq rfl (qy rfl rfl rfl b5 (kq (fun _ x_ => lx (H4.ext x_) 1 rfl ty3 rfl rfl rfl e1) (zq (xq rfl (qy rfl rfl rfl b5 (q_ia (H4.rv 4 rfl) rfl rfl rfl rfl (by (first | (have h_ := op1_rng (fi := fi) (sb := sb) (by assumption); omega) | (have h_ := stpO_rng (pre := stp) (sa := sb) (by assumption); omega))) un30 ty3 ?_))))))))))))))))))))))))))))))
    intro ad0 x0 hx0 hA0
    refine zq (xq rfl (qy rfl rfl rfl b5 (q_ldI hA0.w ty3 rfl rfl ?_)))
    intro rv3
    refine zq (xq rfl (qy rfl rfl rfl b5 (kq (fun _ _ => fa fl92_2 rfl rfl e1) (zq (xq rfl (qy rfl rfl rfl b5 (kq (fun _ x_ => lx (H4.ext x_) 1 rfl ty3 rfl rfl rfl e1) (zq (xq rfl (qy rfl rfl rfl b5 (kq (fun _ _ => eql rfl rfl rfl rfl e1) (zq (xq rfl (kq (fun _ _ => pickT rfl rfl rfl rfl b5 rfl e1) (zq (xq rfl (kq (fun _ _ => mv (v := .bool (decide (x0 = to))) rfl rfl e1) (zq ?_))))))))))))))))))
    rcases bE (decide (x0 = to)) with b6 | b6
    ·
     have p6 := dT b6
     refine xq rfl (qy rfl rfl rfl b6 (kq (fun _ _ => mv rfl i0 e1) (zq (xq rfl (qy rfl rfl rfl b6 (kq (fun _ _ => fa fl92_1 rfl rfl e1) (zq (xq rfl (qy rfl rfl rfl b6 (kq (fun _ x_ => lx (H4.ext x_) 1 rfl ty3 rfl rfl rfl e1) (zq (xq rfl (qy rfl rfl rfl b6 (kq (fun _ _ => fa fl92_2 rfl rfl e1) (zq (xq rfl (qy rfl rfl rfl b6 (kq (fun _ x_ => lx (H4.ext x_) 1 rfl ty3 rfl rfl rfl e1) (zq (xq rfl (qy rfl rfl rfl b6 ?_)))))))))))))))))))))
     refine kq (v := .bool (otherO fi fr to)) (fun v_ x_ => ?_) ?_
     ·
      have cc := aud_other (fi := fi) (n1 := fr) (n2 := to) (w := v_) (M := fun _ => False) (fun _ h_ => h_.elim) (((H4.ext x_).rv 3 rfl).lift (Up.less fun _ _ h_ => h_.elim)) h_fr h_to ⟨(H4.ext x_).at_ 2 rfl, fun h_ => h_⟩ (by omega) (by omega)
      exact ca go50 rfl (ec rfl (ec rfl (ec rfl e0))) cc fun _ _ h_ => e2 h_
     refine zq (xq rfl (kq (fun _ _ => pickT rfl rfl rfl rfl b6 rfl e1) (zq (xq rfl (kq (fun _ _ => mv (v := .bool (otherO fi fr to)) rfl rfl e1) (zq ?_))))))
     rcases bE (otherO fi fr to) with b7 | b7
     ·
      refine xq rfl (qy rfl rfl rfl b7 (kq (fun _ _ => mv rfl i0 e1) (zq (xq rfl (qy rfl rfl rfl b7 (kq (fun _ _ => fa fl92_3 rfl rfl e1) (zq (xq rfl (qy rfl rfl rfl b7 (kq (fun _ x_ => lx (H4.ext x_) 1 rfl ty3 rfl rfl rfl e1) (zq (xq rfl (qy rfl rfl rfl b7 (kq (fun _ _ => fa fl92_1 rfl rfl e1) (zq (xq rfl (qy rfl rfl rfl b7 (kq (fun _ x_ => lx (H4.ext x_) 1 rfl ty3 rfl rfl rfl e1) (zq (xq rfl (qy rfl rfl rfl b7 (kq (fun _ _ => fa fl92_4 rfl rfl e1) (zq (xq rfl (qy rfl rfl rfl b7 (kq (fun _ x_ => lx (H4.ext x_) 1 rfl ty3 rfl rfl rfl e1) (zq (xq rfl (qy rfl rfl rfl b7 ?_)))))))))))))))))))))))))))))
      refine kq (v := .bool (saysO stp sa fr sb)) (fun v_ x_ => ?_) ?_
      ·
       have H14 := (H4.ext x_).freeze 5 rfl
       have H15 : HI M w v_ ([own w.heap.size 3 (.slice (some ⟨g0, 0, none⟩) 2 2) ([fr, to] : List Int), box bb0 #[iV kd, iV fr, iV to, iV sa, iV sb] 92, box b_a #[.slice a_fv n_fv c_fv, sL a_fi fi c_fi, sL a_fo fo c_fo, sL a_stp stp c_stp, sL a_pl pl c_pl] 57, iL a_fi fi c_fi, iL a_fo fo c_fo, iL a_stp stp c_stp, oL w 4 a_pl pl c_pl] ++ r) := H14
       have cc := aud_says (stp := stp) (n1 := sa) (n2 := fr) (n3 := sb) (w := v_) (M := fun _ => False) (fun _ h_ => h_.elim) ((H15.rv 5 rfl).lift (Up.less fun _ _ h_ => h_.elim)) h_sa h_fr h_sb ⟨H15.at_ 2 rfl, fun h_ => h_⟩
       exact ca go48 rfl (ec rfl (ec rfl (ec rfl (ec rfl e0)))) cc fun _ _ h_ => e2 h_
      refine zq (xq rfl (kq (fun _ _ => pickT rfl rfl rfl rfl b7 rfl e1) (zq (xq rfl (kq (fun _ _ => asg (v := .bool (saysO stp sa fr sb)) rfl rfl e1) (zq (zx ?_)))))))
      intro w7 f1 xt6 hk0 hu0
      have H16 := H4.ext xt6
      have s1 : f1 0 = pV b_a 0 := (hk0 0 rfl).trans i0
      have s2 : f1 3 = pV bb0 0 := hk0 3 rfl
      have s3 : f1 5 = .bool (saysO stp sa fr sb) := hk0 5 rfl
      refine nx (rg (k (asg (v := .bool false) rfl rfl (z (inb_normal ?_)))))
      refine cutN ⟨(saysO stp sa fr sb), false, s1, s2, s3, rfl, H16, (by first | exact g4a ‹_› ‹_› | exact g4b ‹_› ‹_› ‹_› ‹_› | exact g4c ‹_› ‹_› ‹_› ‹_› ‹_› | exact g4d ‹_› ‹_› ‹_› ‹_› ‹_›), (by first | exact p_4 ‹_›)⟩
     refine xq rfl (qn rfl rfl rfl b7 (zq (xq rfl (qn rfl rfl rfl b7 (zq (xq rfl (qn rfl rfl rfl b7 (zq (xq rfl (qn rfl rfl rfl b7 (zq (xq rfl (qn rfl rfl rfl b7 (zq (xq rfl (qn rfl rfl rfl b7 (zq (xq rfl (qn rfl rfl rfl b7 (zq (xq rfl (qn rfl rfl rfl b7 (zq (xq rfl (kq (fun _ _ => pickF rfl rfl rfl rfl b7 rfl e1) (zq (xq rfl (kq (fun _ _ => asg (v := .bool false) rfl rfl e1) (zq (zx ?_))))))))))))))))))))))))))))))
     intro w7 f1 xt6 hk0 hu0
     have H14 := H4.ext xt6
     have s1 : f1 0 = pV b_a 0 := (hk0 0 rfl).trans i0
     have s2 : f1 3 = pV bb0 0 := hk0 3 rfl
     have s3 : f1 5 = .bool false := hk0 5 rfl
     refine nx (rg (k (asg (v := .bool false) rfl rfl (z (inb_normal ?_)))))
     refine cutN ⟨false, false, s1, s2, s3, rfl, H14, (by first | exact g4a ‹_› ‹_› | exact g4b ‹_› ‹_› ‹_› ‹_› | exact g4c ‹_› ‹_› ‹_› ‹_› ‹_› | exact g4d ‹_› ‹_› ‹_› ‹_› ‹_›), (by first | exact p_4 ‹_›)⟩
    have p6 := dF b6
    refine xq rfl (qn rfl rfl rfl b6 (zq (xq rfl (qn rfl rfl rfl b6 (zq (xq rfl (qn rfl rfl rfl b6 (zq (xq rfl (qn rfl rfl rfl b6 (zq (xq rfl (qn rfl rfl rfl b6 (zq (xq rfl (qn rfl rfl rfl b6 (zq (xq rfl (kq (fun _ _ => pickF rfl rfl rfl rfl b6 rfl e1) (zq (xq rfl (kq (fun _ _ => mv (v := .bool false) rfl rfl e1) (zq (xq rfl (qn rfl rfl rfl rfl (zq (xq rfl (qn rfl rfl rfl rfl (zq (xq rfl (qn rfl rfl rfl rfl (zq (xq rfl (qn rfl rfl rfl rfl (zq (xq rfl (qn rfl rfl rfl rfl (zq (xq rfl (qn rfl rfl rfl rfl (zq (xq rfl (qn rfl rfl rfl rfl (zq (xq rfl (qn rfl rfl rfl rfl (zq (xq rfl (kq (fun _ _ => pickF rfl rfl rfl rfl rfl rfl e1) (zq (xq rfl (kq (fun _ _ => asg (v := .bool false) rfl rfl e1) (zq (zx ?_))))))))))))))))))))))))))))))))))))))))))))))))))))))
    intro w7 f1 xt6 hk0 hu0
    have H14 := H4.ext xt6
    have s1 : f1 0 = pV b_a 0 := (hk0 0 rfl).trans i0
    have s2 : f1 3 = pV bb0 0 := hk0 3 rfl
    have s3 : f1 5 = .bool false := hk0 5 rfl
    refine nx (rg (k (asg (v := .bool false) rfl rfl (z (inb_normal ?_)))))
    refine cutN ⟨false, false, s1, s2, s3, rfl, H14, (by first | exact g4a ‹_› ‹_› | exact g4b ‹_› ‹_› ‹_› ‹_› | exact g4c ‹_› ‹_› ‹_› ‹_› ‹_› | exact g4d ‹_› ‹_› ‹_› ‹_› ‹_›), (by first | exact p_4 ‹_›)⟩
   refine xq rfl (qn rfl rfl rfl b5 (zq (xq rfl (qn rfl rfl rfl b5 (zq (xq rfl (qn rfl rfl rfl b5 (zq (xq rfl (qn rfl rfl rfl b5 (zq (xq rfl (qn rfl rfl rfl b5 (zq (xq rfl (qn rfl rfl rfl b5 (zq (xq rfl (qn rfl rfl rfl b5 (zq (xq rfl (qn rfl rfl rfl b5 (zq (xq rfl (qn rfl rfl rfl b5 (zq (xq rfl (qn rfl rfl rfl b5 (zq (xq rfl (qn rfl rfl rfl b5 (zq (xq rfl (qn rfl rfl rfl b5 (zq (xq rfl (kq (fun _ _ => pickF rfl rfl rfl rfl b5 rfl e1) (zq (xq rfl (kq (fun _ _ => mv (v := .bool false) rfl rfl e1) (zq (xq rfl (qn rfl rfl rfl rfl (zq (xq rfl (qn rfl rfl rfl rfl (zq (xq rfl (qn rfl rfl rfl rfl (zq (xq rfl (qn rfl rfl rfl rfl (zq (xq rfl (qn rfl rfl rfl rfl (zq (xq rfl (qn rfl rfl rfl rfl (zq (xq rfl (kq (fun _ _ => pickF rfl rfl rfl rfl rfl rfl e1) (zq (xq rfl (kq (fun _ _ => mv (v := .bool false) rfl rfl e1) (zq (xq rfl (qn rfl rfl rfl rfl (zq (xq rfl (qn rfl rfl rfl rfl (zq (xq rfl (qn rfl rfl rfl rfl (zq (xq rfl (qn rfl rfl rfl rfl (zq (xq rfl (qn rfl rfl rfl rfl (zq (xq rfl (qn rfl rfl rfl rfl (zq (xq rfl (qn rfl rfl rfl rfl (zq (xq rfl (qn rfl rfl rfl rfl (zq (xq rfl (kq (fun _ _ => pickF rfl rfl rfl rfl rfl rfl e1) (zq (xq rfl (kq (fun _ _ => asg (v := .bool false) rfl rfl e1) (zq (zx ?_))))))))))))))))))))))))))))))))))))))))))))))))))))))))))))))))))))))))))))))))))))))))))))))))
   intro w7 f1 xt6 hk0 hu0
   have H14 := H4.ext xt6
   have s1 : f1 0 = pV b_a 0 := (hk0 0 rfl).trans i0
   have s2 : f1 3 = pV bb0 0 := hk0 3 rfl
   have s3 : f1 5 = .bool false := hk0 5 rfl
   refine nx (rg (k (asg (v := .bool false) rfl rfl (z (inb_normal ?_)))))
   refine cutN ⟨false, false, s1, s2, s3, rfl, H14, (by first | exact g4a ‹_› ‹_› | exact g4b ‹_› ‹_› ‹_› ‹_› | exact g4c ‹_› ‹_› ‹_› ‹_› ‹_› | exact g4d ‹_› ‹_› ‹_› ‹_› ‹_›), (by first | exact p_4 ‹_›)⟩
  have p4 := dF b4
  refine sk (inb_normal ?_)
  refine cutN ⟨false, true, i0, rfl, rfl, rfl, H4, (by first | exact gnone ‹_› ‹_› ‹_› ‹_›), (by first | exact p_n ‹_› ‹_›)⟩
 ·
  rintro f0 w3 ⟨gd, pn, s0, s1, s2, s3, H6, hgd_, hpn_⟩
  refine sq ?_
  have H13 : HI M w w3 ([own w.heap.size 3 (.slice (some ⟨g0, 0, none⟩) 2 2) ([fr, to] : List Int), box bb0 #[iV kd, iV fr, iV to, iV sa, iV sb] 92, box b_a #[.slice a_fv n_fv c_fv, sL a_fi fi c_fi, sL a_fo fo c_fo, sL a_stp stp c_stp, sL a_pl pl c_pl] 57, iL a_fi fi c_fi, iL a_fo fo c_fo, oL w 92 a_stp stp c_stp, oL w 4 a_pl pl c_pl] ++ r) := H6
  have H14 : HI M w w3 ([own w.heap.size 3 (.slice (some ⟨g0, 0, none⟩) 2 2) ([fr, to] : List Int), box bb0 #[iV kd, iV fr, iV to, iV sa, iV sb] 92, iL a_fi fi c_fi, iL a_fo fo c_fo, oL w 92 a_stp stp c_stp, oL w 4 a_pl pl c_pl, box b_a #[.slice a_fv n_fv c_fv, sL a_fi fi c_fi, sL a_fo fo c_fo, sL a_stp stp c_stp, sL a_pl pl c_pl] 57] ++ r) := HI.pickT (l := [own w.heap.size 3 (.slice (some ⟨g0, 0, none⟩) 2 2) ([fr, to] : List Int), box bb0 #[iV kd, iV fr, iV to, iV sa, iV sb] 92, box b_a #[.slice a_fv n_fv c_fv, sL a_fi fi c_fi, sL a_fo fo c_fo, sL a_stp stp c_stp, sL a_pl pl c_pl] 57, iL a_fi fi c_fi, iL a_fo fo c_fo, oL w 92 a_stp stp c_stp, oL w 4 a_pl pl c_pl]) (l' := [own w.heap.size 3 (.slice (some ⟨g0, 0, none⟩) 2 2) ([fr, to] : List Int), box bb0 #[iV kd, iV fr, iV to, iV sa, iV sb] 92, iL a_fi fi c_fi, iL a_fo fo c_fo, oL w 92 a_stp stp c_stp, oL w 4 a_pl pl c_pl, box b_a #[.slice a_fv n_fv c_fv, sL a_fi fi c_fi, sL a_fo fo c_fo, sL a_stp stp c_stp, sL a_pl pl c_pl] 57]) (t := r) H13 [0, 1, 3, 4, 5, 6, 2] (by decide) rfl rfl
  refine drgML [none, none, none, none, none, none, none, none, none, none, none, none, none, none, none, none, none, none, some 21, none, none, none, some 8, some 15, some 18, none] [0, 0, 0, 4, 12, 28, 0, 64, 252, 0, 512, 1536, 3584, 0, 8192, 32764, 65533, 131069, 262141, 524287, 1048575, 2097151] [fun v_ => [], fun v_ => [], fun v_ => [], fun v_ => [], fun v_ => [], fun v_ => [], fun v_ => [], fun v_ => [own w.heap.size 92 (.slice (some ⟨((vA (v_ 7)).elim 0 (·.block)), 0, none⟩) 1 1) ([(kd, fr, to, sa, sb)] : List StepL)], fun v_ => [oL w 92 (vA (v_ 8)) (stp ++ ([(kd, fr, to, sa, sb)] : List StepL)) (vC (v_ 8))], fun v_ => [], fun v_ => [], fun v_ => [], fun v_ => [], fun v_ => [], fun v_ => [own w.heap.size 4 (.slice (some ⟨((vA (v_ 14)).elim 0 (·.block)), 0, none⟩) 1 1) ([pn] : List Bool)], fun v_ => [oL w 4 (vA (v_ 15)) (pl ++ ([pn] : List Bool)) (vC (v_ 15))], fun v_ => [], fun v_ => [], fun v_ => [box b_a #[.slice a_fv n_fv c_fv, sL a_fi fi c_fi, sL a_fo fo c_fo, sL (vA (v_ 8)) (stp ++ ([(kd, fr, to, sa, sb)] : List StepL)) (vC (v_ 8)), sL a_pl pl c_pl] 57], fun v_ => [], fun v_ => [], fun v_ => [box b_a #[.slice a_fv n_fv c_fv, sL a_fi fi c_fi, sL a_fo fo c_fo, sL (vA (v_ 8)) (stp ++ ([(kd, fr, to, sa, sb)] : List StepL)) (vC (v_ 8)), sL (vA (v_ 15)) (pl ++ ([pn] : List Bool)) (vC (v_ 15))] 57], fun v_ => [oL w 92 a_stp stp c_stp], fun v_ => [oL w 4 a_pl pl c_pl], fun v_ => [box b_a #[.slice a_fv n_fv c_fv, sL a_fi fi c_fi, sL a_fo fo c_fo, sL a_stp stp c_stp, sL a_pl pl c_pl] 57], fun _ => r] [[], [], [], [], [], [24], [], [], [7, 22], [], [], [], [24], [], [], [14, 23], [], [], [24], [], [], [18]] [fun v_ => v_ = pV b_a 0, fun v_ => v_ = pV b_a 0, fun v_ => v_ = pV b_a 0, fun v_ => v_ = pV b_a 0, fun v_ => v_ = pV b_a 3, fun v_ => v_ = sL a_stp stp c_stp, fun v_ => v_ = .agg #[iV kd, iV fr, iV to, iV sa, iV sb], fun v_ => ∃ (g1 : Nat), v_ = .slice (some ⟨g1, 0, none⟩) 1 1, fun v_ => ∃ (a0 : Option Addr) (c0 : Nat), v_ = sL a0 (stp ++ ([(kd, fr, to, sa, sb)] : List StepL)) c0, fun v_ => v_ = pV b_a 0, fun v_ => v_ = pV b_a 0, fun v_ => v_ = pV b_a 4, fun v_ => v_ = sL a_pl pl c_pl, fun v_ => v_ = .bool pn, fun v_ => ∃ (g2 : Nat), v_ = .slice (some ⟨g2, 0, none⟩) 1 1, fun v_ => ∃ (a1 : Option Addr) (c1 : Nat), v_ = sL a1 (pl ++ ([pn] : List Bool)) c1, fun v_ => v_ = pV b_a 0, fun v_ => v_ = pV b_a 3, fun _ => True, fun v_ => v_ = pV b_a 0, fun v_ => v_ = pV b_a 4, fun _ => True] [own w.heap.size 3 (.slice (some ⟨g0, 0, none⟩) 2 2) ([fr, to] : List Int), box bb0 #[iV kd, iV fr, iV to, iV sa, iV sb] 92, iL a_fi fi c_fi, iL a_fo fo c_fo] rfl (by kernel_rfl) rfl rfl (by show HI _ _ _ ([own w.heap.size 3 (.slice (some ⟨g0, 0, none⟩) 2 2) ([fr, to] : List Int), box bb0 #[iV kd, iV fr, iV to, iV sa, iV sb] 92, iL a_fi fi c_fi, iL a_fo fo c_fo] ++ ([oL w 92 a_stp stp c_stp] ++ ([oL w 4 a_pl pl c_pl] ++ ([box b_a #[.slice a_fv n_fv c_fv, sL a_fi fi c_fi, sL a_fo fo c_fo, sL a_stp stp c_stp, sL a_pl pl c_pl] 57] ++ (r ++ []))))); rw [List.append_nil]; exact H14) ?_ ?_
  ·
   refine ⟨fun f1 w10 V_ rg_ hs0 hp0 hq0 H15 => ?_, ?_⟩
   ·
    have H16 : HI M w w10 ([own w.heap.size 3 (.slice (some ⟨g0, 0, none⟩) 2 2) ([fr, to] : List Int), box bb0 #[iV kd, iV fr, iV to, iV sa, iV sb] 92, iL a_fi fi c_fi, iL a_fo fo c_fo] ++ rg_) := (by have h_ : HI M w w10 ([own w.heap.size 3 (.slice (some ⟨g0, 0, none⟩) 2 2) ([fr, to] : List Int), box bb0 #[iV kd, iV fr, iV to, iV sa, iV sb] 92, iL a_fi fi c_fi, iL a_fo fo c_fo] ++ (rg_)) := H15; exact h_)
    refine mv rfl ((hs0 0 rfl).trans s0) ?_
    exact ⟨_, rfl, rfl, H16⟩
   refine ⟨fun f2 w11 V_ rg_ hs1 hp1 hq1 H18 => ?_, ?_⟩
   ·
    have H19 : HI M w w11 ([own w.heap.size 3 (.slice (some ⟨g0, 0, none⟩) 2 2) ([fr, to] : List Int), box bb0 #[iV kd, iV fr, iV to, iV sa, iV sb] 92, iL a_fi fi c_fi, iL a_fo fo c_fo] ++ rg_) := (by have h_ : HI M w w11 ([own w.heap.size 3 (.slice (some ⟨g0, 0, none⟩) 2 2) ([fr, to] : List Int), box bb0 #[iV kd, iV fr, iV to, iV sa, iV sb] 92, iL a_fi fi c_fi, iL a_fo fo c_fo] ++ (rg_)) := H18; exact h_)
    refine mv rfl ((hs1 0 rfl).trans s0) ?_
    exact ⟨_, rfl, rfl, H19⟩
   refine ⟨fun f3 w12 V_ rg_ hs2 hp2 hq2 H21 => ?_, ?_⟩
   ·
    have H22 : HI M w w12 ([own w.heap.size 3 (.slice (some ⟨g0, 0, none⟩) 2 2) ([fr, to] : List Int), box bb0 #[iV kd, iV fr, iV to, iV sa, iV sb] 92, iL a_fi fi c_fi, iL a_fo fo c_fo] ++ rg_) := (by have h_ : HI M w w12 ([own w.heap.size 3 (.slice (some ⟨g0, 0, none⟩) 2 2) ([fr, to] : List Int), box bb0 #[iV kd, iV fr, iV to, iV sa, iV sb] 92, iL a_fi fi c_fi, iL a_fo fo c_fo] ++ (rg_)) := H21; exact h_)
    refine mv rfl ((hs2 0 rfl).trans s0) ?_
    exact ⟨_, rfl, rfl, H22⟩
   refine ⟨fun f4 w13 V_ rg_ hs3 hp3 hq3 H24 => ?_, ?_⟩
   ·
    obtain ⟨e0, q0⟩ := hp3 2 _ rfl rfl rfl
    have e1 : V_ 2 = pV b_a 0 := q0
    have s4 : f4 167 = pV b_a 0 := e0.trans e1
    have H25 : HI M w w13 ([own w.heap.size 3 (.slice (some ⟨g0, 0, none⟩) 2 2) ([fr, to] : List Int), box bb0 #[iV kd, iV fr, iV to, iV sa, iV sb] 92, iL a_fi fi c_fi, iL a_fo fo c_fo] ++ rg_) := (by have h_ : HI M w w13 ([own w.heap.size 3 (.slice (some ⟨g0, 0, none⟩) 2 2) ([fr, to] : List Int), box bb0 #[iV kd, iV fr, iV to, iV sa, iV sb] 92, iL a_fi fi c_fi, iL a_fo fo c_fo] ++ (rg_)) := H24; exact h_)
    refine nc rfl s4 ?_
    exact ⟨_, rfl, rfl, H25⟩
   refine ⟨fun f5 w14 V_ rg_ hs4 hp4 hq4 H27 => ?_, ?_⟩
   ·
    obtain ⟨e2, q1⟩ := hp4 3 _ rfl rfl rfl
    have e3 : V_ 3 = pV b_a 0 := q1
    have s5 : f5 168 = pV b_a 0 := e2.trans e3
    have H28 : HI M w w14 ([own w.heap.size 3 (.slice (some ⟨g0, 0, none⟩) 2 2) ([fr, to] : List Int), box bb0 #[iV kd, iV fr, iV to, iV sa, iV sb] 92, iL a_fi fi c_fi, iL a_fo fo c_fo] ++ rg_) := (by have h_ : HI M w w14 ([own w.heap.size 3 (.slice (some ⟨g0, 0, none⟩) 2 2) ([fr, to] : List Int), box bb0 #[iV kd, iV fr, iV to, iV sa, iV sb] 92, iL a_fi fi c_fi, iL a_fo fo c_fo] ++ (rg_)) := H27; exact h_)
    refine fa fl57_1 rfl s5 ?_
    exact ⟨_, rfl, rfl, H28⟩
   refine ⟨fun f6 w15 V_ rg_ hs5 hp5 hq5 H30 => ?_, ?_⟩
   ·
    obtain ⟨e4, q2⟩ := hp5 4 _ rfl rfl rfl
    have e5 : V_ 4 = pV b_a 3 := q2
    have s6 : f6 169 = pV b_a 3 := e4.trans e5
    have H31 : HI M w w15 ([own w.heap.size 3 (.slice (some ⟨g0, 0, none⟩) 2 2) ([fr, to] : List Int), box bb0 #[iV kd, iV fr, iV to, iV sa, iV sb] 92, iL a_fi fi c_fi, iL a_fo fo c_fo, box b_a #[.slice a_fv n_fv c_fv, sL a_fi fi c_fi, sL a_fo fo c_fo, sL a_stp stp c_stp, sL a_pl pl c_pl] 57] ++ rg_) := (by have h_ : HI M w w15 ([own w.heap.size 3 (.slice (some ⟨g0, 0, none⟩) 2 2) ([fr, to] : List Int), box bb0 #[iV kd, iV fr, iV to, iV sa, iV sb] 92, iL a_fi fi c_fi, iL a_fo fo c_fo] ++ ([box b_a #[.slice a_fv n_fv c_fv, sL a_fi fi c_fi, sL a_fo fo c_fo, sL a_stp stp c_stp, sL a_pl pl c_pl] 57] ++ (rg_))) := H30; exact h_)
    refine lx H31 4 rfl ty23 rfl s6 rfl ?_
    exact ⟨_, rfl, rfl, H31⟩
   refine ⟨fun f7 w16 V_ rg_ hs6 hp6 hq6 H33 => ?_, ?_⟩
   ·
    have H34 : HI M w w16 ([own w.heap.size 3 (.slice (some ⟨g0, 0, none⟩) 2 2) ([fr, to] : List Int), box bb0 #[iV kd, iV fr, iV to, iV sa, iV sb] 92, iL a_fi fi c_fi, iL a_fo fo c_fo] ++ rg_) := (by have h_ : HI M w w16 ([own w.heap.size 3 (.slice (some ⟨g0, 0, none⟩) 2 2) ([fr, to] : List Int), box bb0 #[iV kd, iV fr, iV to, iV sa, iV sb] 92, iL a_fi fi c_fi, iL a_fo fo c_fo] ++ (rg_)) := H33; exact h_)
    refine ldX H34 1 rfl ty92 rfl ((hs6 3 rfl).trans s1) (by decide) rfl ?_
    exact ⟨_, rfl, rfl, H34⟩
   refine ⟨fun f8 w17 V_ rg_ hs7 hp7 hq7 H36 => ?_, ?_⟩
   ·
    obtain ⟨e6, q3⟩ := hp7 6 _ rfl rfl rfl
    have e7 : V_ 6 = .agg #[iV kd, iV fr, iV to, iV sa, iV sb] := q3
    have s7 : f8 171 = .agg #[iV kd, iV fr, iV to, iV sa, iV sb] := e6.trans e7
    have H37 : HI M w w17 ([own w.heap.size 3 (.slice (some ⟨g0, 0, none⟩) 2 2) ([fr, to] : List Int), box bb0 #[iV kd, iV fr, iV to, iV sa, iV sb] 92, iL a_fi fi c_fi, iL a_fo fo c_fo] ++ rg_) := (by have h_ : HI M w w17 ([own w.heap.size 3 (.slice (some ⟨g0, 0, none⟩) 2 2) ([fr, to] : List Int), box bb0 #[iV kd, iV fr, iV to, iV sa, iV sb] 92, iL a_fi fi c_fi, iL a_fo fo c_fo] ++ (rg_)) := H36; exact h_)
    refine bs (xs := ([(kd, fr, to, sa, sb)] : List StepL)) (cells := #[iV kd, iV fr, iV to, iV sa, iV sb]) (e := 92) H37 rfl (pbc s7 pb0) (fun _ => by kernel_rfl) ⟨[iV kd, iV fr, iV to, iV sa, iV sb], [], rfl, ⟨_, _, rfl, ⟨rfl, h_kd⟩, ⟨_, _, rfl, ⟨rfl, h_fr⟩, ⟨_, _, rfl, ⟨rfl, h_to⟩, ⟨_, _, rfl, ⟨rfl, h_sa⟩, ⟨rfl, h_sb⟩⟩⟩⟩⟩, rfl⟩ rfl (by decide) ?_
    intro g3 w18 xt5 (H38 : HI M w w18 ([own w.heap.size 92 (.slice (some ⟨g3, 0, none⟩) 1 1) ([(kd, fr, to, sa, sb)] : List StepL), own w.heap.size 3 (.slice (some ⟨g0, 0, none⟩) 2 2) ([fr, to] : List Int), box bb0 #[iV kd, iV fr, iV to, iV sa, iV sb] 92, iL a_fi fi c_fi, iL a_fo fo c_fo] ++ rg_))
    have H39 := HI.pickT (l := [own w.heap.size 92 (.slice (some ⟨g3, 0, none⟩) 1 1) ([(kd, fr, to, sa, sb)] : List StepL), own w.heap.size 3 (.slice (some ⟨g0, 0, none⟩) 2 2) ([fr, to] : List Int), box bb0 #[iV kd, iV fr, iV to, iV sa, iV sb] 92, iL a_fi fi c_fi, iL a_fo fo c_fo]) (l' := [own w.heap.size 3 (.slice (some ⟨g0, 0, none⟩) 2 2) ([fr, to] : List Int), box bb0 #[iV kd, iV fr, iV to, iV sa, iV sb] 92, iL a_fi fi c_fi, iL a_fo fo c_fo, own w.heap.size 92 (.slice (some ⟨g3, 0, none⟩) 1 1) ([(kd, fr, to, sa, sb)] : List StepL)]) (t := rg_) H38 [1, 2, 3, 4, 0] (by decide) rfl rfl
    exact ⟨_, rfl, ⟨g3, rfl⟩, H39⟩
   refine ⟨fun f9 w19 V_ rg_ hs8 hp8 hq8 H40 => ?_, ?_⟩
   ·
    obtain ⟨e8, q4⟩ := hp8 5 _ rfl rfl rfl
    have e9 : V_ 5 = sL a_stp stp c_stp := q4
    have s8 : f9 170 = sL a_stp stp c_stp := e8.trans e9
    obtain ⟨e10, q5⟩ := hp8 7 _ rfl rfl rfl
    obtain ⟨g4, e11⟩ : ∃ (g4 : Nat), V_ 7 = .slice (some ⟨g4, 0, none⟩) 1 1 := q5
    have s9 : f9 172 = .slice (some ⟨g4, 0, none⟩) 1 1 := e10.trans e11
    have H41 : HI M w w19 ([own w.heap.size 3 (.slice (some ⟨g0, 0, none⟩) 2 2) ([fr, to] : List Int), box bb0 #[iV kd, iV fr, iV to, iV sa, iV sb] 92, iL a_fi fi c_fi, iL a_fo fo c_fo, own w.heap.size 92 (.slice (some ⟨g4, 0, none⟩) 1 1) ([(kd, fr, to, sa, sb)] : List StepL), oL w 92 a_stp stp c_stp] ++ rg_) := (by have h_ : HI M w w19 ([own w.heap.size 3 (.slice (some ⟨g0, 0, none⟩) 2 2) ([fr, to] : List Int), box bb0 #[iV kd, iV fr, iV to, iV sa, iV sb] 92, iL a_fi fi c_fi, iL a_fo fo c_fo] ++ ([own w.heap.size 92 (.slice (some ⟨((vA (V_ 7)).elim 0 (·.block)), 0, none⟩) 1 1) ([(kd, fr, to, sa, sb)] : List StepL)] ++ ([oL w 92 a_stp stp c_stp] ++ (rg_)))) := H40; rw [e11] at h_; exact h_)
    refine apB H41 5 rfl rfl rfl rfl s8 s9 (own_src (H41.at_ 4 rfl)) un23 ty92 rfl (by simp only [lC_, lN_]; omega) rfl ?_
    intro a2 c2 w20 (H42 : HI M w w20 ([own w.heap.size 3 (.slice (some ⟨g0, 0, none⟩) 2 2) ([fr, to] : List Int), box bb0 #[iV kd, iV fr, iV to, iV sa, iV sb] 92, iL a_fi fi c_fi, iL a_fo fo c_fo, own w.heap.size 92 (.slice (some ⟨g4, 0, none⟩) 1 1) ([(kd, fr, to, sa, sb)] : List StepL), oL w 92 a2 (stp ++ ([(kd, fr, to, sa, sb)] : List StepL)) c2] ++ rg_))
    exact ⟨_, rfl, ⟨a2, c2, rfl⟩, (by have h_ := H42; rw [show (g4 : Nat) = ((vA (V_ 7)).elim 0 (·.block)) from by rw [e11] <;> rfl] at h_; exact h_)⟩
   refine ⟨fun f10 w21 V_ rg_ hs9 hp9 hq9 H44 => ?_, ?_⟩
   ·
    have H45 : HI M w w21 ([own w.heap.size 3 (.slice (some ⟨g0, 0, none⟩) 2 2) ([fr, to] : List Int), box bb0 #[iV kd, iV fr, iV to, iV sa, iV sb] 92, iL a_fi fi c_fi, iL a_fo fo c_fo] ++ rg_) := (by have h_ : HI M w w21 ([own w.heap.size 3 (.slice (some ⟨g0, 0, none⟩) 2 2) ([fr, to] : List Int), box bb0 #[iV kd, iV fr, iV to, iV sa, iV sb] 92, iL a_fi fi c_fi, iL a_fo fo c_fo] ++ (rg_)) := H44; exact h_)
    refine mv rfl ((hs9 0 rfl).trans s0) ?_
    exact ⟨_, rfl, rfl, H45⟩
   refine ⟨fun f11 w22 V_ rg_ hs10 hp10 hq10 H47 => ?_, ?_⟩
   ·
    obtain ⟨e12, q6⟩ := hp10 9 _ rfl rfl rfl
    have e13 : V_ 9 = pV b_a 0 := q6
    have s10 : f11 174 = pV b_a 0 := e12.trans e13
    have H48 : HI M w w22 ([own w.heap.size 3 (.slice (some ⟨g0, 0, none⟩) 2 2) ([fr, to] : List Int), box bb0 #[iV kd, iV fr, iV to, iV sa, iV sb] 92, iL a_fi fi c_fi, iL a_fo fo c_fo] ++ rg_) := (by have h_ : HI M w w22 ([own w.heap.size 3 (.slice (some ⟨g0, 0, none⟩) 2 2) ([fr, to] : List Int), box bb0 #[iV kd, iV fr, iV to, iV sa, iV sb] 92, iL a_fi fi c_fi, iL a_fo fo c_fo] ++ (rg_)) := H47; exact h_)
    refine nc rfl s10 ?_
    exact ⟨_, rfl, rfl, H48⟩
   refine ⟨fun f12 w23 V_ rg_ hs11 hp11 hq11 H50 => ?_, ?_⟩
   ·
    obtain ⟨e14, q7⟩ := hp11 10 _ rfl rfl rfl
    have e15 : V_ 10 = pV b_a 0 := q7
    have s11 : f12 175 = pV b_a 0 := e14.trans e15
    have H51 : HI M w w23 ([own w.heap.size 3 (.slice (some ⟨g0, 0, none⟩) 2 2) ([fr, to] : List Int), box bb0 #[iV kd, iV fr, iV to, iV sa, iV sb] 92, iL a_fi fi c_fi, iL a_fo fo c_fo] ++ rg_) := (by have h_ : HI M w w23 ([own w.heap.size 3 (.slice (some ⟨g0, 0, none⟩) 2 2) ([fr, to] : List Int), box bb0 #[iV kd, iV fr, iV to, iV sa, iV sb] 92, iL a_fi fi c_fi, iL a_fo fo c_fo] ++ (rg_)) := H50; exact h_)
    refine fa fl57_2 rfl s11 ?_
    exact ⟨_, rfl, rfl, H51⟩
   refine ⟨fun f13 w24 V_ rg_ hs12 hp12 hq12 H53 => ?_, ?_⟩
   ·
    obtain ⟨e16, q8⟩ := hp12 11 _ rfl rfl rfl
    have e17 : V_ 11 = pV b_a 4 := q8
    have s12 : f13 176 = pV b_a 4 := e16.trans e17
    have H54 : HI M w w24 ([own w.heap.size 3 (.slice (some ⟨g0, 0, none⟩) 2 2) ([fr, to] : List Int), box bb0 #[iV kd, iV fr, iV to, iV sa, iV sb] 92, iL a_fi fi c_fi, iL a_fo fo c_fo, box b_a #[.slice a_fv n_fv c_fv, sL a_fi fi c_fi, sL a_fo fo c_fo, sL a_stp stp c_stp, sL a_pl pl c_pl] 57] ++ rg_) := (by have h_ : HI M w w24 ([own w.heap.size 3 (.slice (some ⟨g0, 0, none⟩) 2 2) ([fr, to] : List Int), box bb0 #[iV kd, iV fr, iV to, iV sa, iV sb] 92, iL a_fi fi c_fi, iL a_fo fo c_fo] ++ ([box b_a #[.slice a_fv n_fv c_fv, sL a_fi fi c_fi, sL a_fo fo c_fo, sL a_stp stp c_stp, sL a_pl pl c_pl] 57] ++ (rg_))) := H53; exact h_)
    refine lx H54 4 rfl ty55 rfl s12 rfl ?_
    exact ⟨_, rfl, rfl, H54⟩
   refine ⟨fun f14 w25 V_ rg_ hs13 hp13 hq13 H56 => ?_, ?_⟩
   ·
    have H57 : HI M w w25 ([own w.heap.size 3 (.slice (some ⟨g0, 0, none⟩) 2 2) ([fr, to] : List Int), box bb0 #[iV kd, iV fr, iV to, iV sa, iV sb] 92, iL a_fi fi c_fi, iL a_fo fo c_fo] ++ rg_) := (by have h_ : HI M w w25 ([own w.heap.size 3 (.slice (some ⟨g0, 0, none⟩) 2 2) ([fr, to] : List Int), box bb0 #[iV kd, iV fr, iV to, iV sa, iV sb] 92, iL a_fi fi c_fi, iL a_fo fo c_fo] ++ (rg_)) := H56; exact h_)
    refine mv rfl ((hs13 6 rfl).trans s3) ?_
    exact ⟨_, rfl, rfl, H57⟩
   refine ⟨fun f15 w26 V_ rg_ hs14 hp14 hq14 H59 => ?_, ?_⟩
   ·
    obtain ⟨e18, q9⟩ := hp14 13 _ rfl rfl rfl
    have e19 : V_ 13 = .bool pn := q9
    have s13 : f15 178 = .bool pn := e18.trans e19
    have H60 : HI M w w26 ([own w.heap.size 3 (.slice (some ⟨g0, 0, none⟩) 2 2) ([fr, to] : List Int), box bb0 #[iV kd, iV fr, iV to, iV sa, iV sb] 92, iL a_fi fi c_fi, iL a_fo fo c_fo] ++ rg_) := (by have h_ : HI M w w26 ([own w.heap.size 3 (.slice (some ⟨g0, 0, none⟩) 2 2) ([fr, to] : List Int), box bb0 #[iV kd, iV fr, iV to, iV sa, iV sb] 92, iL a_fi fi c_fi, iL a_fo fo c_fo] ++ (rg_)) := H59; exact h_)
    refine bs (xs := ([pn] : List Bool)) (cells := #[.bool pn]) (e := 4) H60 rfl (pbc s13 pb0) (fun _ => by kernel_rfl) ⟨[.bool pn], [], rfl, rfl, rfl⟩ rfl (by decide) ?_
    intro g5 w27 xt6 (H61 : HI M w w27 ([own w.heap.size 4 (.slice (some ⟨g5, 0, none⟩) 1 1) ([pn] : List Bool), own w.heap.size 3 (.slice (some ⟨g0, 0, none⟩) 2 2) ([fr, to] : List Int), box bb0 #[iV kd, iV fr, iV to, iV sa, iV sb] 92, iL a_fi fi c_fi, iL a_fo fo c_fo] ++ rg_))
    have H62 := HI.pickT (l := [own w.heap.size 4 (.slice (some ⟨g5, 0, none⟩) 1 1) ([pn] : List Bool), own w.heap.size 3 (.slice (some ⟨g0, 0, none⟩) 2 2) ([fr, to] : List Int), box bb0 #[iV kd, iV fr, iV to, iV sa, iV sb] 92, iL a_fi fi c_fi, iL a_fo fo c_fo]) (l' := [own w.heap.size 3 (.slice (some ⟨g0, 0, none⟩) 2 2) ([fr, to] : List Int), box bb0 #[iV kd, iV fr, iV to, iV sa, iV sb] 92, iL a_fi fi c_fi, iL a_fo fo c_fo, own w.heap.size 4 (.slice (some ⟨g5, 0, none⟩) 1 1) ([pn] : List Bool)]) (t := rg_) H61 [1, 2, 3, 4, 0] (by decide) rfl rfl
    exact ⟨_, rfl, ⟨g5, rfl⟩, H62⟩
   refine ⟨fun f16 w28 V_ rg_ hs15 hp15 hq15 H63 => ?_, ?_⟩
   ·
    obtain ⟨e20, q10⟩ := hp15 12 _ rfl rfl rfl
    have e21 : V_ 12 = sL a_pl pl c_pl := q10
    have s14 : f16 177 = sL a_pl pl c_pl := e20.trans e21
    obtain ⟨e22, q11⟩ := hp15 14 _ rfl rfl rfl
    obtain ⟨g6, e23⟩ : ∃ (g6 : Nat), V_ 14 = .slice (some ⟨g6, 0, none⟩) 1 1 := q11
    have s15 : f16 179 = .slice (some ⟨g6, 0, none⟩) 1 1 := e22.trans e23
    have H64 : HI M w w28 ([own w.heap.size 3 (.slice (some ⟨g0, 0, none⟩) 2 2) ([fr, to] : List Int), box bb0 #[iV kd, iV fr, iV to, iV sa, iV sb] 92, iL a_fi fi c_fi, iL a_fo fo c_fo, own w.heap.size 4 (.slice (some ⟨g6, 0, none⟩) 1 1) ([pn] : List Bool), oL w 4 a_pl pl c_pl] ++ rg_) := (by have h_ : HI M w w28 ([own w.heap.size 3 (.slice (some ⟨g0, 0, none⟩) 2 2) ([fr, to] : List Int), box bb0 #[iV kd, iV fr, iV to, iV sa, iV sb] 92, iL a_fi fi c_fi, iL a_fo fo c_fo] ++ ([own w.heap.size 4 (.slice (some ⟨((vA (V_ 14)).elim 0 (·.block)), 0, none⟩) 1 1) ([pn] : List Bool)] ++ ([oL w 4 a_pl pl c_pl] ++ (rg_)))) := H63; rw [e23] at h_; exact h_)
    refine apB H64 5 rfl rfl rfl rfl s14 s15 (own_src (H64.at_ 4 rfl)) un55 ty4 rfl (by simp only [lC_, lN_]; omega) rfl ?_
    intro a3 c3 w29 (H65 : HI M w w29 ([own w.heap.size 3 (.slice (some ⟨g0, 0, none⟩) 2 2) ([fr, to] : List Int), box bb0 #[iV kd, iV fr, iV to, iV sa, iV sb] 92, iL a_fi fi c_fi, iL a_fo fo c_fo, own w.heap.size 4 (.slice (some ⟨g6, 0, none⟩) 1 1) ([pn] : List Bool), oL w 4 a3 (pl ++ ([pn] : List Bool)) c3] ++ rg_))
    exact ⟨_, rfl, ⟨a3, c3, rfl⟩, (by have h_ := H65; rw [show (g6 : Nat) = ((vA (V_ 14)).elim 0 (·.block)) from by rw [e23] <;> rfl] at h_; exact h_)⟩
   refine ⟨fun f17 w30 V_ rg_ hs16 hp16 hq16 H67 => ?_, ?_⟩
   ·
    obtain ⟨e24, q12⟩ := hp16 0 _ rfl rfl rfl
    have e25 : V_ 0 = pV b_a 0 := q12
    have s16 : f17 165 = pV b_a 0 := e24.trans e25
    have H68 : HI M w w30 ([own w.heap.size 3 (.slice (some ⟨g0, 0, none⟩) 2 2) ([fr, to] : List Int), box bb0 #[iV kd, iV fr, iV to, iV sa, iV sb] 92, iL a_fi fi c_fi, iL a_fo fo c_fo] ++ rg_) := (by have h_ : HI M w w30 ([own w.heap.size 3 (.slice (some ⟨g0, 0, none⟩) 2 2) ([fr, to] : List Int), box bb0 #[iV kd, iV fr, iV to, iV sa, iV sb] 92, iL a_fi fi c_fi, iL a_fo fo c_fo] ++ (rg_)) := H67; exact h_)
    refine nc rfl s16 ?_
    exact ⟨_, rfl, rfl, H68⟩
   refine ⟨fun f18 w31 V_ rg_ hs17 hp17 hq17 H70 => ?_, ?_⟩
   ·
    obtain ⟨e26, q13⟩ := hp17 16 _ rfl rfl rfl
    have e27 : V_ 16 = pV b_a 0 := q13
    have s17 : f18 181 = pV b_a 0 := e26.trans e27
    have H71 : HI M w w31 ([own w.heap.size 3 (.slice (some ⟨g0, 0, none⟩) 2 2) ([fr, to] : List Int), box bb0 #[iV kd, iV fr, iV to, iV sa, iV sb] 92, iL a_fi fi c_fi, iL a_fo fo c_fo] ++ rg_) := (by have h_ : HI M w w31 ([own w.heap.size 3 (.slice (some ⟨g0, 0, none⟩) 2 2) ([fr, to] : List Int), box bb0 #[iV kd, iV fr, iV to, iV sa, iV sb] 92, iL a_fi fi c_fi, iL a_fo fo c_fo] ++ (rg_)) := H70; exact h_)
    refine fa fl57_1 rfl s17 ?_
    exact ⟨_, rfl, rfl, H71⟩
   refine ⟨fun f19 w32 V_ rg_ hs18 hp18 hq18 H73 => ?_, ?_⟩
   ·
    obtain ⟨e28, q14⟩ := hp18 8 _ rfl rfl rfl
    obtain ⟨a4, c4, e29⟩ : ∃ (a4 : Option Addr) (c4 : Nat), V_ 8 = sL a4 (stp ++ ([(kd, fr, to, sa, sb)] : List StepL)) c4 := q14
    have s18 : f19 173 = sL a4 (stp ++ ([(kd, fr, to, sa, sb)] : List StepL)) c4 := e28.trans e29
    obtain ⟨e30, q15⟩ := hp18 17 _ rfl rfl rfl
    have e31 : V_ 17 = pV b_a 3 := q15
    have s19 : f19 182 = pV b_a 3 := e30.trans e31
    have H74 : HI M w w32 ([own w.heap.size 3 (.slice (some ⟨g0, 0, none⟩) 2 2) ([fr, to] : List Int), box bb0 #[iV kd, iV fr, iV to, iV sa, iV sb] 92, iL a_fi fi c_fi, iL a_fo fo c_fo, box b_a #[.slice a_fv n_fv c_fv, sL a_fi fi c_fi, sL a_fo fo c_fo, sL a_stp stp c_stp, sL a_pl pl c_pl] 57] ++ rg_) := (by have h_ : HI M w w32 ([own w.heap.size 3 (.slice (some ⟨g0, 0, none⟩) 2 2) ([fr, to] : List Int), box bb0 #[iV kd, iV fr, iV to, iV sa, iV sb] 92, iL a_fi fi c_fi, iL a_fo fo c_fo] ++ ([box b_a #[.slice a_fv n_fv c_fv, sL a_fi fi c_fi, sL a_fo fo c_fo, sL a_stp stp c_stp, sL a_pl pl c_pl] 57] ++ (rg_))) := H73; exact h_)
    refine stX H74 4 rfl ty23 rfl rfl s19 s18 rfl rfl rfl ?_
    intro w33 (H75 : HI M w w33 ([own w.heap.size 3 (.slice (some ⟨g0, 0, none⟩) 2 2) ([fr, to] : List Int), box bb0 #[iV kd, iV fr, iV to, iV sa, iV sb] 92, iL a_fi fi c_fi, iL a_fo fo c_fo, box b_a #[.slice a_fv n_fv c_fv, sL a_fi fi c_fi, sL a_fo fo c_fo, sL a4 (stp ++ ([(kd, fr, to, sa, sb)] : List StepL)) c4, sL a_pl pl c_pl] 57] ++ rg_))
    exact ⟨undef, rfl, trivial, (by have h_ := H75; rw [show (a4 : Option Addr) = (vA (V_ 8)) from by rw [e29] <;> rfl, show (c4 : Nat) = (vC (V_ 8)) from by rw [e29] <;> rfl] at h_; exact h_)⟩
   refine ⟨fun f20 w34 V_ rg_ hs19 hp19 hq19 H77 => ?_, ?_⟩
   ·
    obtain ⟨e32, q16⟩ := hp19 1 _ rfl rfl rfl
    have e33 : V_ 1 = pV b_a 0 := q16
    have s20 : f20 166 = pV b_a 0 := e32.trans e33
    have H78 : HI M w w34 ([own w.heap.size 3 (.slice (some ⟨g0, 0, none⟩) 2 2) ([fr, to] : List Int), box bb0 #[iV kd, iV fr, iV to, iV sa, iV sb] 92, iL a_fi fi c_fi, iL a_fo fo c_fo] ++ rg_) := (by have h_ : HI M w w34 ([own w.heap.size 3 (.slice (some ⟨g0, 0, none⟩) 2 2) ([fr, to] : List Int), box bb0 #[iV kd, iV fr, iV to, iV sa, iV sb] 92, iL a_fi fi c_fi, iL a_fo fo c_fo] ++ (rg_)) := H77; exact h_)
    refine nc rfl s20 ?_
    exact ⟨_, rfl, rfl, H78⟩
   refine ⟨fun f21 w35 V_ rg_ hs20 hp20 hq20 H80 => ?_, ?_⟩
   ·
    obtain ⟨e34, q17⟩ := hp20 19 _ rfl rfl rfl
    have e35 : V_ 19 = pV b_a 0 := q17
    have s21 : f21 183 = pV b_a 0 := e34.trans e35
    have H81 : HI M w w35 ([own w.heap.size 3 (.slice (some ⟨g0, 0, none⟩) 2 2) ([fr, to] : List Int), box bb0 #[iV kd, iV fr, iV to, iV sa, iV sb] 92, iL a_fi fi c_fi, iL a_fo fo c_fo] ++ rg_) := (by have h_ : HI M w w35 ([own w.heap.size 3 (.slice (some ⟨g0, 0, none⟩) 2 2) ([fr, to] : List Int), box bb0 #[iV kd, iV fr, iV to, iV sa, iV sb] 92, iL a_fi fi c_fi, iL a_fo fo c_fo] ++ (rg_)) := H80; exact h_)
    refine fa fl57_2 rfl s21 ?_
    exact ⟨_, rfl, rfl, H81⟩
   refine ⟨fun f22 w36 V_ rg_ hs21 hp21 hq21 H83 => ?_, ?_⟩
   ·
    obtain ⟨e36, q18⟩ := hp21 15 _ rfl rfl rfl
    obtain ⟨a5, c5, e37⟩ : ∃ (a5 : Option Addr) (c5 : Nat), V_ 15 = sL a5 (pl ++ ([pn] : List Bool)) c5 := q18
    have s22 : f22 180 = sL a5 (pl ++ ([pn] : List Bool)) c5 := e36.trans e37
    obtain ⟨e38, q19⟩ := hp21 20 _ rfl rfl rfl
    have e39 : V_ 20 = pV b_a 4 := q19
    have s23 : f22 184 = pV b_a 4 := e38.trans e39
    obtain ⟨e40, q20⟩ := hp21 8 _ rfl rfl rfl
    obtain ⟨a6, c6, e41⟩ : ∃ (a6 : Option Addr) (c6 : Nat), V_ 8 = sL a6 (stp ++ ([(kd, fr, to, sa, sb)] : List StepL)) c6 := q20
    have H84 : HI M w w36 ([own w.heap.size 3 (.slice (some ⟨g0, 0, none⟩) 2 2) ([fr, to] : List Int), box bb0 #[iV kd, iV fr, iV to, iV sa, iV sb] 92, iL a_fi fi c_fi, iL a_fo fo c_fo, box b_a #[.slice a_fv n_fv c_fv, sL a_fi fi c_fi, sL a_fo fo c_fo, sL a6 (stp ++ ([(kd, fr, to, sa, sb)] : List StepL)) c6, sL a_pl pl c_pl] 57] ++ rg_) := (by have h_ : HI M w w36 ([own w.heap.size 3 (.slice (some ⟨g0, 0, none⟩) 2 2) ([fr, to] : List Int), box bb0 #[iV kd, iV fr, iV to, iV sa, iV sb] 92, iL a_fi fi c_fi, iL a_fo fo c_fo] ++ ([box b_a #[.slice a_fv n_fv c_fv, sL a_fi fi c_fi, sL a_fo fo c_fo, sL (vA (V_ 8)) (stp ++ ([(kd, fr, to, sa, sb)] : List StepL)) (vC (V_ 8)), sL a_pl pl c_pl] 57] ++ (rg_))) := H83; rw [e41] at h_; exact h_)
    refine stX H84 4 rfl ty55 rfl rfl s23 s22 rfl rfl rfl ?_
    intro w37 (H85 : HI M w w37 ([own w.heap.size 3 (.slice (some ⟨g0, 0, none⟩) 2 2) ([fr, to] : List Int), box bb0 #[iV kd, iV fr, iV to, iV sa, iV sb] 92, iL a_fi fi c_fi, iL a_fo fo c_fo, box b_a #[.slice a_fv n_fv c_fv, sL a_fi fi c_fi, sL a_fo fo c_fo, sL a6 (stp ++ ([(kd, fr, to, sa, sb)] : List StepL)) c6, sL a5 (pl ++ ([pn] : List Bool)) c5] 57] ++ rg_))
    exact ⟨undef, rfl, trivial, (by have h_ := H85; rw [show (a5 : Option Addr) = (vA (V_ 15)) from by rw [e37] <;> rfl, show (c5 : Nat) = (vC (V_ 15)) from by rw [e37] <;> rfl, show (a6 : Option Addr) = (vA (V_ 8)) from by rw [e41] <;> rfl, show (c6 : Nat) = (vC (V_ 8)) from by rw [e41] <;> rfl] at h_; exact h_)⟩
   exact trivial
  ·
   intro f23 w38 V_ hs22 hp22 H87
   obtain ⟨e42, q21⟩ := hp22 7 _ rfl rfl
   obtain ⟨g7, e43⟩ : ∃ (g7 : Nat), V_ 7 = .slice (some ⟨g7, 0, none⟩) 1 1 := q21
   obtain ⟨e44, q22⟩ := hp22 8 _ rfl rfl
   obtain ⟨a7, c7, e45⟩ : ∃ (a7 : Option Addr) (c7 : Nat), V_ 8 = sL a7 (stp ++ ([(kd, fr, to, sa, sb)] : List StepL)) c7 := q22
   obtain ⟨e46, q23⟩ := hp22 14 _ rfl rfl
   obtain ⟨g8, e47⟩ : ∃ (g8 : Nat), V_ 14 = .slice (some ⟨g8, 0, none⟩) 1 1 := q23
   obtain ⟨e48, q24⟩ := hp22 15 _ rfl rfl
   obtain ⟨a8, c8, e49⟩ : ∃ (a8 : Option Addr) (c8 : Nat), V_ 15 = sL a8 (pl ++ ([pn] : List Bool)) c8 := q24
   have s29 : f23 5 = .bool gd := (hs22 5 rfl).trans s2
   have H88 : HI M w w38 ([own w.heap.size 3 (.slice (some ⟨g0, 0, none⟩) 2 2) ([fr, to] : List Int), box bb0 #[iV kd, iV fr, iV to, iV sa, iV sb] 92, iL a_fi fi c_fi, iL a_fo fo c_fo, own w.heap.size 92 (.slice (some ⟨g7, 0, none⟩) 1 1) ([(kd, fr, to, sa, sb)] : List StepL), oL w 92 a7 (stp ++ ([(kd, fr, to, sa, sb)] : List StepL)) c7, own w.heap.size 4 (.slice (some ⟨g8, 0, none⟩) 1 1) ([pn] : List Bool), oL w 4 a8 (pl ++ ([pn] : List Bool)) c8, box b_a #[.slice a_fv n_fv c_fv, sL a_fi fi c_fi, sL a_fo fo c_fo, sL a7 (stp ++ ([(kd, fr, to, sa, sb)] : List StepL)) c7, sL a8 (pl ++ ([pn] : List Bool)) c8] 57] ++ r) := (by have h_ : HI M w w38 ([own w.heap.size 3 (.slice (some ⟨g0, 0, none⟩) 2 2) ([fr, to] : List Int), box bb0 #[iV kd, iV fr, iV to, iV sa, iV sb] 92, iL a_fi fi c_fi, iL a_fo fo c_fo] ++ ([] ++ ([] ++ ([] ++ ([] ++ ([] ++ ([] ++ ([] ++ ([own w.heap.size 92 (.slice (some ⟨((vA (V_ 7)).elim 0 (·.block)), 0, none⟩) 1 1) ([(kd, fr, to, sa, sb)] : List StepL)] ++ ([oL w 92 (vA (V_ 8)) (stp ++ ([(kd, fr, to, sa, sb)] : List StepL)) (vC (V_ 8))] ++ ([] ++ ([] ++ ([] ++ ([] ++ ([] ++ ([own w.heap.size 4 (.slice (some ⟨((vA (V_ 14)).elim 0 (·.block)), 0, none⟩) 1 1) ([pn] : List Bool)] ++ ([oL w 4 (vA (V_ 15)) (pl ++ ([pn] : List Bool)) (vC (V_ 15))] ++ ([] ++ ([] ++ ([] ++ ([] ++ ([box b_a #[.slice a_fv n_fv c_fv, sL a_fi fi c_fi, sL a_fo fo c_fo, sL (vA (V_ 8)) (stp ++ ([(kd, fr, to, sa, sb)] : List StepL)) (vC (V_ 8)), sL (vA (V_ 15)) (pl ++ ([pn] : List Bool)) (vC (V_ 15))] 57] ++ (r ++ ([])))))))))))))))))))))))) := (by refine cast ?_ H87; kernel_rfl); rw [e43] at h_; rw [e45] at h_; rw [e47] at h_; rw [e49] at h_; rw [List.append_nil] at h_; exact h_)
   refine nx (sq (rg (k (mv rfl s29 (k (asg (v := .bool gd) rfl rfl (z (nx (rt (r1 rfl rfl ?_))))))))))
   have H89 := HI.pickT (l := [own w.heap.size 3 (.slice (some ⟨g0, 0, none⟩) 2 2) ([fr, to] : List Int), box bb0 #[iV kd, iV fr, iV to, iV sa, iV sb] 92, iL a_fi fi c_fi, iL a_fo fo c_fo, own w.heap.size 92 (.slice (some ⟨g7, 0, none⟩) 1 1) ([(kd, fr, to, sa, sb)] : List StepL), oL w 92 a7 (stp ++ ([(kd, fr, to, sa, sb)] : List StepL)) c7, own w.heap.size 4 (.slice (some ⟨g8, 0, none⟩) 1 1) ([pn] : List Bool), oL w 4 a8 (pl ++ ([pn] : List Bool)) c8, box b_a #[.slice a_fv n_fv c_fv, sL a_fi fi c_fi, sL a_fo fo c_fo, sL a7 (stp ++ ([(kd, fr, to, sa, sb)] : List StepL)) c7, sL a8 (pl ++ ([pn] : List Bool)) c8] 57]) (l' := [box b_a #[.slice a_fv n_fv c_fv, sL a_fi fi c_fi, sL a_fo fo c_fo, sL a7 (stp ++ ([(kd, fr, to, sa, sb)] : List StepL)) c7, sL a8 (pl ++ ([pn] : List Bool)) c8] 57, iL a_fi fi c_fi, iL a_fo fo c_fo, oL w 92 a7 (stp ++ ([(kd, fr, to, sa, sb)] : List StepL)) c7, oL w 4 a8 (pl ++ ([pn] : List Bool)) c8]) (t := r) H88 [8, 2, 3, 5, 7] (by decide) rfl rfl
   have e50 : (gd : Bool) = nxG fi fo stp (kd, fr, to, sa, sb) := by first | exact nx_no hk1_ | exact nx_yes hk0_ hgd_
   have e51 : ((stp ++ ([(kd, fr, to, sa, sb)] : List StepL)) : List _) = (nxS fi stp (kd, fr, to, sa, sb)) := by first | exact nxS_no hk1_ | exact nxS_yes hk0_
   have e52 : ((pl ++ ([pn] : List Bool)) : List _) = (nxP fi stp pl (kd, fr, to, sa, sb)) := by first | exact nxP_no hk1_ | exact nxP_yes hk0_ hpn_
   try rw [← e50]
   try rw [← e51]
   try rw [← e52]
   refine ⟨a7, c7, a8, c8, ?_, ?_⟩
   · first | rfl | simp only [e50, e51, e52] | (simp only [List.length_set])
   · first | exact H89 | simpa only [e50, e51, e52, List.length_set] using H89
theorem go45 : GoF Tryz.prog 45 := ⟨_, _, Tryz.func45, rfl, by kernel_rfl⟩
theorem go24 : GoF Tryz.prog 24 := ⟨_, _, Tryz.func24, rfl, by kernel_rfl⟩
theorem go85 : GoF Tryz.prog 85 := ⟨_, _, Tryz.func85, rfl, by kernel_rfl⟩
theorem go87 : GoF Tryz.prog 87 := ⟨_, _, Tryz.func87, rfl, by kernel_rfl⟩
theorem fl25_0 : FldF Tryz.prog 25 0 0 := ⟨_, _, Tryz.underlying25, rfl, rfl, by kernel_rfl⟩
theorem fl25_2 : FldF Tryz.prog 25 2 2 := ⟨_, _, Tryz.underlying25, rfl, rfl, by kernel_rfl⟩
theorem fl25_3 : FldF Tryz.prog 25 3 3 := ⟨_, _, Tryz.underlying25, rfl, rfl, by kernel_rfl⟩
theorem fl25_4 : FldF Tryz.prog 25 4 4 := ⟨_, _, Tryz.underlying25, rfl, rfl, by kernel_rfl⟩
theorem fl25_6 : FldF Tryz.prog 25 6 6 := ⟨_, _, Tryz.underlying25, rfl, rfl, by kernel_rfl⟩
theorem fl25_7 : FldF Tryz.prog 25 7 7 := ⟨_, _, Tryz.underlying25, rfl, rfl, by kernel_rfl⟩
theorem fl25_1 : FldF Tryz.prog 25 1 1 := ⟨_, _, Tryz.underlying25, rfl, rfl, by kernel_rfl⟩
theorem aud_take {r : List Go.Ew.Item} {b_a : Nat} {a_fv : OA} {n_fv c_fv : Nat} {a_fi : OA} {c_fi : Nat} {fi : List ItemL} {a_fo : OA} {c_fo : Nat} {fo : List Int} {a_stp : OA} {c_stp : Nat} {stp : List StepL} {a_pl : OA} {c_pl : Nat} {pl : List Bool} {a_l : OA} {c_l : Nat} {l : List StepL} (ho : OrdI fi) (hn_fi : fi.length ≤ 4096) (hfo : fo.length = fi.length) (hpl : pl.length = stp.length) (hst : stp.length + l.length ≤ 100000) (H : HI M w w_ ([box b_a #[.slice a_fv n_fv c_fv, sL a_fi fi c_fi, sL a_fo fo c_fo, sL a_stp stp c_stp, sL a_pl pl c_pl] 57, iL a_fi fi c_fi, iL a_fo fo c_fo, oL w 92 a_stp stp c_stp, oL w 4 a_pl pl c_pl, iL a_l l c_l] ++ r)) : Calls Tryz.prog 24 #[pV b_a 0, sL a_l l c_l] w_ (Ret fun v w' => ∃ (a'_stp : OA) (c'_stp : Nat) (a'_pl : OA) (c'_pl : Nat), v = .bool ((takeO fi fo stp pl l).1) ∧ HI M w w' ([box b_a #[.slice a_fv n_fv c_fv, .slice a_fi fi.length c_fi, .slice a_fo fo.length c_fo, .slice a'_stp ((takeO fi fo stp pl l).2.1).length c'_stp, .slice a'_pl ((takeO fi fo stp pl l).2.2).length c'_pl] 57, iL a_fi fi c_fi, iL a_fo fo c_fo, oL w 92 a'_stp ((takeO fi fo stp pl l).2.1) c'_stp, oL w 4 a'_pl ((takeO fi fo stp pl l).2.2) c'_pl, iL a_l l c_l] ++ r)) := by
 refine enter 18 Tryz.func24 rfl rfl rfl fun f0 ha => ?_
 have ln_fi := rv_len (H.rv 1 rfl)
 have ln_fo := rv_len (H.rv 2 rfl)
 have ln_stp := own_len_ (H.at_ 3 rfl)
 have ln_pl := own_len_ (H.at_ 4 rfl)
 have ln_l := rv_len (H.rv 5 rfl)
 have i0 : f0 0 = pV b_a 0 := ha 0 (by simp)
 have i1 : f0 1 = sL a_l l c_l := ha 1 (by simp)
 refine sq (rg (k (asg (v := .bool false) rfl rfl (z (nx (sq (sq (rg (k (mv rfl i1 (k (lnS rfl rfl un23 (k (mv (v := iV 0) rfl rfl (z (nx (bk ?_)))))))))))))))))
 refine lp (fun m f w' => ∃ (j_ : Nat) (st_ : List StepL) (pq_ : List Bool) (a0 : OA) (c0 : Nat) (a1 : OA) (c1 : Nat), m = l.length - j_ ∧ f 0 = pV b_a 0 ∧ f 7 = sL a_l l c_l ∧ f 8 = iV (l.length : Int) ∧ f 9 = iV (j_ : Int) ∧  HI M w w' ([box b_a #[.slice a_fv n_fv c_fv, sL a_fi fi c_fi, sL a_fo fo c_fo, sL a0 st_ c0, sL a1 pq_ c1] 57, iL a_fi fi c_fi, iL a_fo fo c_fo, oL w 92 a0 st_ c0, oL w 4 a1 pq_ c1, iL a_l l c_l] ++ r) ∧ (j_ ≤ l.length) ∧ (takeO fi fo stp pl l = takeO fi fo st_ pq_ (l.drop j_)) ∧ (st_.length = stp.length + j_) ∧ (pq_.length = st_.length)) _ ⟨0, stp, pl, a_stp, c_stp, a_pl, c_pl, rfl, i0, rfl, rfl, (ieq rfl (by first | rfl | omega | simp)), H, (by first | omega | assumption | simp), (by rfl), (by rfl), (by exact hpl)⟩ ?_
 rintro _ f0 w0 ⟨j_, st_, pq_, a0, c0, a1, c1, rfl, s0, s1, s2, s3, H0, hj_, hs, hl1_, hl2_⟩
 refine sq (rg (k (lss rfl rfl s3 s2 (z (nx (sq ?_))))))
 refine cd (b := decide ((j_ : Int) < (l.length : Int))) rfl rfl (fun b0 => ?_) (fun b0 => ?_)
 ·
  have p0 := dT b0
  refine sk (nx (sq (bk (sq (rg (k (ia (H0.rv 5 rfl) rfl rfl s1 s3 (by omega) un23 ty92 ?_)))))))
  intro ad0 x0 hx0 hA0
  refine k (ldW hA0.w ty92 rfl rfl ?_)
  intro v0 rv0
  obtain ⟨_, ⟨_, _, rfl, ⟨rfl, rv1⟩, ⟨_, _, rfl, ⟨rfl, rv2⟩, ⟨_, _, rfl, ⟨rfl, rv3⟩, ⟨_, _, rfl, ⟨rfl, rv4⟩, ⟨rfl, rv5⟩⟩⟩⟩⟩, rfl⟩ := rv0
  refine k (al H0 ty92 ?_)
  intro bb0 w1 xt0 (H1 : HI M w w1 ([box bb0 #[iV 0, iV 0, iV 0, iV 0, iV 0] 92, box b_a #[.slice a_fv n_fv c_fv, sL a_fi fi c_fi, sL a_fo fo c_fo, sL a0 st_ c0, sL a1 pq_ c1] 57, iL a_fi fi c_fi, iL a_fo fo c_fo, oL w 92 a0 st_ c0, oL w 4 a1 pq_ c1, iL a_l l c_l] ++ r))
  refine k (stX H1 0 rfl ty92 rfl rfl rfl rfl rfl rfl rfl ?_)
  intro w2 (H2 : HI M w w2 ([box bb0 #[iV x0.1, iV x0.2.1, iV x0.2.2.1, iV x0.2.2.2.1, iV x0.2.2.2.2] 92, box b_a #[.slice a_fv n_fv c_fv, sL a_fi fi c_fi, sL a_fo fo c_fo, sL a0 st_ c0, sL a1 pq_ c1] 57, iL a_fi fi c_fi, iL a_fo fo c_fo, oL w 92 a0 st_ c0, oL w 4 a1 pq_ c1, iL a_l l c_l] ++ r))
  refine z (nx (sq (rg (k (mv rfl s0 (k (ldX H2 0 rfl ty92 rfl rfl (by decide) rfl (k ?_))))))))
  have H3 : HI M w w2 ([box b_a #[.slice a_fv n_fv c_fv, sL a_fi fi c_fi, sL a_fo fo c_fo, sL a0 st_ c0, sL a1 pq_ c1] 57, iL a_fi fi c_fi, iL a_fo fo c_fo, oL w 92 a0 st_ c0, oL w 4 a1 pq_ c1] ++ ([box bb0 #[iV x0.1, iV x0.2.1, iV x0.2.2.1, iV x0.2.2.2.1, iV x0.2.2.2.2] 92, iL a_l l c_l] ++ r)) := HI.pickT (l := [box bb0 #[iV x0.1, iV x0.2.1, iV x0.2.2.1, iV x0.2.2.2.1, iV x0.2.2.2.2] 92, box b_a #[.slice a_fv n_fv c_fv, sL a_fi fi c_fi, sL a_fo fo c_fo, sL a0 st_ c0, sL a1 pq_ c1] 57, iL a_fi fi c_fi, iL a_fo fo c_fo, oL w 92 a0 st_ c0, oL w 4 a1 pq_ c1, iL a_l l c_l]) (l' := [box b_a #[.slice a_fv n_fv c_fv, sL a_fi fi c_fi, sL a_fo fo c_fo, sL a0 st_ c0, sL a1 pq_ c1] 57, iL a_fi fi c_fi, iL a_fo fo c_fo, oL w 92 a0 st_ c0, oL w 4 a1 pq_ c1, box bb0 #[iV x0.1, iV x0.2.1, iV x0.2.2.1, iV x0.2.2.2.1, iV x0.2.2.2.2] 92, iL a_l l c_l]) (t := r) H2 [1, 2, 3, 4, 5, 0, 6] (by decide) rfl rfl
  have cc0 := aud_next (b_a := b_a) (a_fv := a_fv) (n_fv := n_fv) (c_fv := c_fv) (a_fi := a_fi) (c_fi := c_fi) (fi := fi) (a_fo := a_fo) (c_fo := c_fo) (fo := fo) (a_stp := a0) (c_stp := c0) (stp := st_) (a_pl := a1) (c_pl := c1) (pl := pq_) (kd := x0.1) (fr := x0.2.1) (to := x0.2.2.1) (sa := x0.2.2.2.1) (sb := x0.2.2.2.2) (w := w) (w_ := w2) (r := ([box bb0 #[iV x0.1, iV x0.2.1, iV x0.2.2.1, iV x0.2.2.2.1, iV x0.2.2.2.2] 92, iL a_l l c_l] ++ r)) (M := M) rv1 rv2 rv3 rv4 rv5 (by exact ho) (by omega) (by omega) (by omega) (by omega) H3
  refine ca go45 rfl (ec rfl (ec rfl e0)) cc0 ?_
  rintro _ w3 ⟨a2, c2, a3, c3, rfl, H4⟩
  have H5 : HI M w w3 ([box b_a #[.slice a_fv n_fv c_fv, sL a_fi fi c_fi, sL a_fo fo c_fo, sL a2 (nxS fi st_ (x0.1, x0.2.1, x0.2.2.1, x0.2.2.2.1, x0.2.2.2.2)) c2, sL a3 (nxP fi st_ pq_ (x0.1, x0.2.1, x0.2.2.1, x0.2.2.2.1, x0.2.2.2.2)) c3] 57, iL a_fi fi c_fi, iL a_fo fo c_fo, oL w 92 a2 (nxS fi st_ (x0.1, x0.2.1, x0.2.2.1, x0.2.2.2.1, x0.2.2.2.2)) c2, oL w 4 a3 (nxP fi st_ pq_ (x0.1, x0.2.1, x0.2.2.1, x0.2.2.2.1, x0.2.2.2.2)) c3, box bb0 #[iV x0.1, iV x0.2.1, iV x0.2.2.1, iV x0.2.2.2.1, iV x0.2.2.2.2] 92, iL a_l l c_l] ++ r) := H4
  refine k (not_ rfl rfl (z (nx ?_)))
  refine cd (b := !(nxG fi fo st_ (x0.1, x0.2.1, x0.2.2.1, x0.2.2.2.1, x0.2.2.2.2))) rfl rfl (fun b1 => ?_) (fun b1 => ?_)
  ·
   refine sq (rg (k (asg (v := .bool false) rfl rfl (z (nx (rt (inb_ret (then_ret (loop_ret (inb_ret (then_ret (r1 rfl rfl ?_))))))))))))
   have H6 := HI.pickT (l := [box b_a #[.slice a_fv n_fv c_fv, sL a_fi fi c_fi, sL a_fo fo c_fo, sL a2 (nxS fi st_ (x0.1, x0.2.1, x0.2.2.1, x0.2.2.2.1, x0.2.2.2.2)) c2, sL a3 (nxP fi st_ pq_ (x0.1, x0.2.1, x0.2.2.1, x0.2.2.2.1, x0.2.2.2.2)) c3] 57, iL a_fi fi c_fi, iL a_fo fo c_fo, oL w 92 a2 (nxS fi st_ (x0.1, x0.2.1, x0.2.2.1, x0.2.2.2.1, x0.2.2.2.2)) c2, oL w 4 a3 (nxP fi st_ pq_ (x0.1, x0.2.1, x0.2.2.1, x0.2.2.2.1, x0.2.2.2.2)) c3, box bb0 #[iV x0.1, iV x0.2.1, iV x0.2.2.1, iV x0.2.2.2.1, iV x0.2.2.2.2] 92, iL a_l l c_l]) (l' := [box b_a #[.slice a_fv n_fv c_fv, sL a_fi fi c_fi, sL a_fo fo c_fo, sL a2 (nxS fi st_ (x0.1, x0.2.1, x0.2.2.1, x0.2.2.2.1, x0.2.2.2.2)) c2, sL a3 (nxP fi st_ pq_ (x0.1, x0.2.1, x0.2.2.1, x0.2.2.2.1, x0.2.2.2.2)) c3] 57, iL a_fi fi c_fi, iL a_fo fo c_fo, oL w 92 a2 (nxS fi st_ (x0.1, x0.2.1, x0.2.2.1, x0.2.2.2.1, x0.2.2.2.2)) c2, oL w 4 a3 (nxP fi st_ pq_ (x0.1, x0.2.1, x0.2.2.1, x0.2.2.2.1, x0.2.2.2.2)) c3, iL a_l l c_l]) (t := r) H5 [0, 1, 2, 3, 4, 6] (by decide) rfl rfl
   have e0 : (false : Bool) = (takeO fi fo stp pl l).1 := by rw [hs, takeO_no hx0 (nott b1)]
   have e1 : ((nxS fi st_ (x0.1, x0.2.1, x0.2.2.1, x0.2.2.2.1, x0.2.2.2.2)) : List _) = ((takeO fi fo stp pl l).2.1) := by rw [hs, takeO_no hx0 (nott b1)]
   have e2 : ((nxP fi st_ pq_ (x0.1, x0.2.1, x0.2.2.1, x0.2.2.2.1, x0.2.2.2.2)) : List _) = ((takeO fi fo stp pl l).2.2) := by rw [hs, takeO_no hx0 (nott b1)]
   try rw [← e0]
   try rw [← e1]
   try rw [← e2]
   refine ⟨a2, c2, a3, c3, ?_, ?_⟩
   · first | rfl | simp only [e0, e1, e2] | (simp only [List.length_set])
   · first | exact H6 | simpa only [e0, e1, e2, List.length_set] using H6
  refine sk (inb_normal (nx (rg (k (add rfl rfl s3 rfl (by first | assumption | (unfold I64 at *; omega)) (k (mv (v := iV ((j_ : Int) + 1)) rfl rfl (z ?_))))))))
  have H6 := H5.put (it := iL a_fi fi c_fi) rfl (H5.rv 1 rfl)
  have H7 : HI M w w3 ([iL a_fi fi c_fi, box b_a #[.slice a_fv n_fv c_fv, sL a_fi fi c_fi, sL a_fo fo c_fo, sL a2 (nxS fi st_ (x0.1, x0.2.1, x0.2.2.1, x0.2.2.2.1, x0.2.2.2.2)) c2, sL a3 (nxP fi st_ pq_ (x0.1, x0.2.1, x0.2.2.1, x0.2.2.2.1, x0.2.2.2.2)) c3] 57, iL a_fi fi c_fi, iL a_fo fo c_fo, oL w 92 a2 (nxS fi st_ (x0.1, x0.2.1, x0.2.2.1, x0.2.2.2.1, x0.2.2.2.2)) c2, oL w 4 a3 (nxP fi st_ pq_ (x0.1, x0.2.1, x0.2.2.1, x0.2.2.2.1, x0.2.2.2.2)) c3, box bb0 #[iV x0.1, iV x0.2.1, iV x0.2.2.1, iV x0.2.2.2.1, iV x0.2.2.2.2] 92, iL a_l l c_l] ++ r) := H6
  have H8 := H7.put (it := iL a_fo fo c_fo) rfl (H7.rv 3 rfl)
  have H9 : HI M w w3 ([iL a_fo fo c_fo, iL a_fi fi c_fi, box b_a #[.slice a_fv n_fv c_fv, sL a_fi fi c_fi, sL a_fo fo c_fo, sL a2 (nxS fi st_ (x0.1, x0.2.1, x0.2.2.1, x0.2.2.2.1, x0.2.2.2.2)) c2, sL a3 (nxP fi st_ pq_ (x0.1, x0.2.1, x0.2.2.1, x0.2.2.2.1, x0.2.2.2.2)) c3] 57, iL a_fi fi c_fi, iL a_fo fo c_fo, oL w 92 a2 (nxS fi st_ (x0.1, x0.2.1, x0.2.2.1, x0.2.2.2.1, x0.2.2.2.2)) c2, oL w 4 a3 (nxP fi st_ pq_ (x0.1, x0.2.1, x0.2.2.1, x0.2.2.2.1, x0.2.2.2.2)) c3, box bb0 #[iV x0.1, iV x0.2.1, iV x0.2.2.1, iV x0.2.2.2.1, iV x0.2.2.2.2] 92, iL a_l l c_l] ++ r) := H8
  have H10 : HI M w w3 ([box b_a #[.slice a_fv n_fv c_fv, sL a_fi fi c_fi, sL a_fo fo c_fo, sL a2 (nxS fi st_ (x0.1, x0.2.1, x0.2.2.1, x0.2.2.2.1, x0.2.2.2.2)) c2, sL a3 (nxP fi st_ pq_ (x0.1, x0.2.1, x0.2.2.1, x0.2.2.2.1, x0.2.2.2.2)) c3] 57, iL a_fi fi c_fi, iL a_fo fo c_fo, oL w 92 a2 (nxS fi st_ (x0.1, x0.2.1, x0.2.2.1, x0.2.2.2.1, x0.2.2.2.2)) c2, oL w 4 a3 (nxP fi st_ pq_ (x0.1, x0.2.1, x0.2.2.1, x0.2.2.2.1, x0.2.2.2.2)) c3, iL a_l l c_l] ++ r) := HI.pickT (l := [iL a_fo fo c_fo, iL a_fi fi c_fi, box b_a #[.slice a_fv n_fv c_fv, sL a_fi fi c_fi, sL a_fo fo c_fo, sL a2 (nxS fi st_ (x0.1, x0.2.1, x0.2.2.1, x0.2.2.2.1, x0.2.2.2.2)) c2, sL a3 (nxP fi st_ pq_ (x0.1, x0.2.1, x0.2.2.1, x0.2.2.2.1, x0.2.2.2.2)) c3] 57, iL a_fi fi c_fi, iL a_fo fo c_fo, oL w 92 a2 (nxS fi st_ (x0.1, x0.2.1, x0.2.2.1, x0.2.2.2.1, x0.2.2.2.2)) c2, oL w 4 a3 (nxP fi st_ pq_ (x0.1, x0.2.1, x0.2.2.1, x0.2.2.2.1, x0.2.2.2.2)) c3, box bb0 #[iV x0.1, iV x0.2.1, iV x0.2.2.1, iV x0.2.2.2.1, iV x0.2.2.2.2] 92, iL a_l l c_l]) (l' := [box b_a #[.slice a_fv n_fv c_fv, sL a_fi fi c_fi, sL a_fo fo c_fo, sL a2 (nxS fi st_ (x0.1, x0.2.1, x0.2.2.1, x0.2.2.2.1, x0.2.2.2.2)) c2, sL a3 (nxP fi st_ pq_ (x0.1, x0.2.1, x0.2.2.1, x0.2.2.2.1, x0.2.2.2.2)) c3] 57, iL a_fi fi c_fi, iL a_fo fo c_fo, oL w 92 a2 (nxS fi st_ (x0.1, x0.2.1, x0.2.2.1, x0.2.2.2.1, x0.2.2.2.2)) c2, oL w 4 a3 (nxP fi st_ pq_ (x0.1, x0.2.1, x0.2.2.1, x0.2.2.2.1, x0.2.2.2.2)) c3, iL a_l l c_l]) (t := r) H9 [2, 1, 0, 5, 6, 8] (by decide) rfl rfl
  refine loopN _ ?_ ⟨(j_ + 1), (nxS fi st_ (x0.1, x0.2.1, x0.2.2.1, x0.2.2.2.1, x0.2.2.2.2)), (nxP fi st_ pq_ (x0.1, x0.2.1, x0.2.2.1, x0.2.2.2.1, x0.2.2.2.2)), a2, c2, a3, c3, rfl, s0, s1, s2, (ieq rfl (by first | rfl | omega)), H10, (by first | omega | assumption | simp), (by exact hs.trans (takeO_yes hx0 (notf b1))), (by rw [nxS_len (notf b1)]; omega), (by rw [nxS_len (notf b1), nxP_len (notf b1)]; omega)⟩
  omega
 have p0 := dF b0
 refine ex (then_exit (loop_exit (inb_here (nx (sq (rg (k (asg (v := .bool true) rfl rfl (z (nx (rt (r1 rfl rfl ?_))))))))))))
 have e0 : (true : Bool) = (takeO fi fo stp pl l).1 := by rw [hs, takeO_end (by omega)]
 have e1 : (st_ : List _) = ((takeO fi fo stp pl l).2.1) := by rw [hs, takeO_end (by omega)]
 have e2 : (pq_ : List _) = ((takeO fi fo stp pl l).2.2) := by rw [hs, takeO_end (by omega)]
 try rw [← e0]
 try rw [← e1]
 try rw [← e2]
 refine ⟨a0, c0, a1, c1, ?_, ?_⟩
 · first | rfl | simp only [e0, e1, e2] | (simp only [List.length_set])
 · first | exact H0 | simpa only [e0, e1, e2, List.length_set] using H0
theorem audit_Steps {a_fv : OA} {n_fv c_fv : Nat} {a_fi : OA} {c_fi : Nat} {fi : List ItemL} {a_fo : OA} {c_fo : Nat} {fo : List Int} {a_l : OA} {c_l : Nat} {l : List StepL} (hM : ∀ b, M b → b < w.heap.size) (h_fi : RV M w (.slice a_fi fi.length c_fi) fi) (h_fo : RV M w (.slice a_fo fo.length c_fo) fo) (h_l : RV M w (.slice a_l l.length c_l) l) (ho : OrdI fi) (hn_fi : fi.length ≤ 4096) (hfo : fo.length = fi.length) (hst : l.length ≤ 90000) : Calls Tryz.prog 10 #[.agg #[.slice a_fv n_fv c_fv, .slice a_fi fi.length c_fi, .slice a_fo fo.length c_fo], .slice a_l l.length c_l] w (Ret fun v w' =>  v = .bool (stepsO fi fo l) ∧ Ext w w') := by
 refine enter 12 Tryz.func10 rfl rfl rfl fun f0 ha => ?_
 have H := HI.start (M0 := M) (w := w) hM
 have H0 := H.put (it := iL a_fi fi c_fi) rfl (by rw [MS_nil]; exact h_fi)
 have H1 := H0.put (it := iL a_fo fo c_fo) rfl (by rw [MS_cons_none rfl, MS_nil]; exact h_fo)
 have H2 := H1.put (it := iL a_l l c_l) rfl (by rw [MS_cons_none rfl, MS_cons_none rfl, MS_nil]; exact h_l)
 have ln_fi := rv_len h_fi
 have ln_fo := rv_len h_fo
 have ln_l := rv_len h_l
 have i0 : f0 0 = .agg #[.slice a_fv n_fv c_fv, sL a_fi fi c_fi, sL a_fo fo c_fo] := ha 0 (by simp)
 have i1 : f0 1 = sL a_l l c_l := ha 1 (by simp)
 refine sq (rg (k (bx H2 rfl i0 ?_)))
 intro bb0 w0 xt0 (H3 : HI M w w0 [box bb0 #[.slice a_fv n_fv c_fv, sL a_fi fi c_fi, sL a_fo fo c_fo] 32, iL a_l l c_l, iL a_fo fo c_fo, iL a_fi fi c_fi])
 refine k (asg (v := .bool false) rfl rfl (z (nx (sq (rg (k (ldX H3 0 rfl ty32 rfl rfl (by decide) rfl (k (bd (v := .agg #[.slice a_fv n_fv c_fv, sL a_fi fi c_fi, sL a_fo fo c_fo, .slice none 0 0, .slice none 0 0]) rfl (pbc rfl pb0) (fun _ => by kernel_rfl) (k (bx H3 rfl rfl ?_)))))))))))
 intro bb1 w1 xt1 (H4 : HI M w w1 [box bb1 #[.slice a_fv n_fv c_fv, sL a_fi fi c_fi, sL a_fo fo c_fo, .slice none 0 0, .slice none 0 0] 57, box bb0 #[.slice a_fv n_fv c_fv, sL a_fi fi c_fi, sL a_fo fo c_fo] 32, iL a_l l c_l, iL a_fo fo c_fo, iL a_fi fi c_fi])
 refine k (asg (v := pV bb1 0) rfl rfl (z (nx (sq (rg (k (mv (v := pV bb1 0) rfl rfl (k (mv rfl i1 (k ?_))))))))))
 have H5 := H4.nil_ StepL 92
 have H6 := H5.nil_ Bool 4
 have H7 : HI M w w1 ([box bb1 #[.slice a_fv n_fv c_fv, sL a_fi fi c_fi, sL a_fo fo c_fo, .slice none 0 0, .slice none 0 0] 57, iL a_fi fi c_fi, iL a_fo fo c_fo, own w.heap.size 92 (.slice none 0 0) ([] : List StepL), own w.heap.size 4 (.slice none 0 0) ([] : List Bool), iL a_l l c_l] ++ [box bb0 #[.slice a_fv n_fv c_fv, sL a_fi fi c_fi, sL a_fo fo c_fo] 32]) := H6.pickN [2, 6, 5, 1, 0, 4, 3] (by decide) rfl
 have cc0 := aud_take (b_a := bb1) (a_fv := a_fv) (n_fv := n_fv) (c_fv := c_fv) (a_fi := a_fi) (c_fi := c_fi) (fi := fi) (a_fo := a_fo) (c_fo := c_fo) (fo := fo) (a_stp := none) (c_stp := 0) (stp := ([] : List StepL)) (a_pl := none) (c_pl := 0) (pl := ([] : List Bool)) (a_l := a_l) (c_l := c_l) (l := l) (w := w) (w_ := w1) (r := [box bb0 #[.slice a_fv n_fv c_fv, sL a_fi fi c_fi, sL a_fo fo c_fo] 32]) (M := M) (by exact ho) (by omega) (by first | exact hfo | rfl) (by first | exact hfo | rfl) (by first | omega | (simp; omega)) H7
 refine ca go24 rfl (ec rfl (ec rfl e0)) cc0 ?_
 rintro _ w2 ⟨a0, c0, a1, c1, rfl, H8⟩
 have H9 : HI M w w2 [box bb1 #[.slice a_fv n_fv c_fv, sL a_fi fi c_fi, sL a_fo fo c_fo, sL a0 ((takeO fi fo ([] : List StepL) ([] : List Bool) l).2.1) c0, sL a1 ((takeO fi fo ([] : List StepL) ([] : List Bool) l).2.2) c1] 57, iL a_fi fi c_fi, iL a_fo fo c_fo, oL w 92 a0 ((takeO fi fo ([] : List StepL) ([] : List Bool) l).2.1) c0, oL w 4 a1 ((takeO fi fo ([] : List StepL) ([] : List Bool) l).2.2) c1, iL a_l l c_l, box bb0 #[.slice a_fv n_fv c_fv, sL a_fi fi c_fi, sL a_fo fo c_fo] 32] := H8
 refine k (asg (v := .bool ((takeO fi fo ([] : List StepL) ([] : List Bool) l).1)) rfl rfl (z (nx (rt (r1 rfl rfl ?_)))))
 exact ⟨congrArg Value.bool (show ((takeO fi fo ([] : List StepL) ([] : List Bool) l).1) = (stepsO fi fo l) from rfl), H9.below⟩
theorem aud_bare {b_a : Nat} {ty_a : TypeId} {a_fv : OA} {n_fv c_fv : Nat} {a_fi : OA} {n_fi c_fi : Nat} {a_fo : OA} {n_fo c_fo : Nat} {a_stp : OA} {n_stp c_stp : Nat} {a_pl : OA} {c_pl : Nat} {pl : List Bool} (hM : ∀ b, M b → b < w.heap.size) (h_pl : RV M w (.slice a_pl pl.length c_pl) pl) (h_a : w.heap[b_a]? = some (.cells #[.slice a_fv n_fv c_fv, .slice a_fi n_fi c_fi, .slice a_fo n_fo c_fo, .slice a_stp n_stp c_stp, .slice a_pl pl.length c_pl] ty_a (0, 0)) ∧ ¬ M b_a) : Calls Tryz.prog 47 #[.pointer (some ⟨b_a, 0, none⟩)] w (Ret fun v w' =>  v = .bool (!(pl.any (fun z_ => false == z_))) ∧ Ext w w') := by
 refine enter 9 Tryz.func47 rfl rfl rfl fun f0 ha => ?_
 have H := HI.start (M0 := M) (w := w) hM
 have H0 := H.put (it := iL a_pl pl c_pl) rfl (by rw [MS_nil]; exact h_pl)
 have ln_pl := rv_len h_pl
 have H1 := H0.put (it := ro b_a #[.slice a_fv n_fv c_fv, .slice a_fi n_fi c_fi, .slice a_fo n_fo c_fo, .slice a_stp n_stp c_stp, sL a_pl pl c_pl] ty_a) rfl (by rw [MS_cons_none rfl, MS_nil]; exact h_a)
 have i0 : f0 0 = pV b_a 0 := ha 0 (by simp)
 refine sq (rg (k (asg (v := .bool false) rfl rfl (z (nx (sq (rg (k (mv rfl i0 (k (nc rfl rfl (k (fa fl57_2 rfl rfl (k (lr H1 0 rfl ty55 rfl rfl rfl (k ?_))))))))))))))))
 have cc0 := contains_bool (l0_ := pl) (v0_ := false) (w := w) H1.mb (H1.rv 1 rfl)
 refine ca go85 rfl (ec rfl (ec rfl e0)) cc0 ?_
 rintro _ w0 ⟨rfl, xt0⟩
 have H2 := H1.ext xt0
 refine k (not_ rfl rfl (k (asg (v := .bool (!(pl.any (fun (z_ : Bool) => false == z_)))) rfl rfl (z (nx (rt (r1 rfl rfl ?_)))))))
 exact ⟨congrArg Value.bool (show (!(pl.any (fun (z_ : Bool) => false == z_))) = (!(pl.any (fun z_ => false == z_))) from rfl), H2.below⟩
theorem aud_founded1 {kd : Int} {fr : Int} {to : Int} {sa : Int} {sb : Int} {b_ap : Nat} {ty_ap : TypeId} {b_a : Nat} {ty_a : TypeId} {a_fv : OA} {n_fv c_fv : Nat} {a_fi : OA} {n_fi c_fi : Nat} {a_fo : OA} {n_fo c_fo : Nat} {a_stp : OA} {n_stp c_stp : Nat} {a_pl : OA} {c_pl : Nat} {pl : List Bool} (hM : ∀ b, M b → b < w.heap.size) (h_kd : I64 kd) (h_fr : I64 fr) (h_to : I64 to) (h_sa : I64 sa) (h_sb : I64 sb) (h_pl : RV M w (.slice a_pl pl.length c_pl) pl) (h_ap : w.heap[b_ap]? = some (.cells #[.pointer (some ⟨b_a, 0, none⟩)] ty_ap (0, 0)) ∧ ¬ M b_ap) (h_a : w.heap[b_a]? = some (.cells #[.slice a_fv n_fv c_fv, .slice a_fi n_fi c_fi, .slice a_fo n_fo c_fo, .slice a_stp n_stp c_stp, .slice a_pl pl.length c_pl] ty_a (0, 0)) ∧ ¬ M b_a) (hk0_ : kd = 4 → 0 ≤ sa ∧ sa < ((pl.length : Nat) : Int)) : Calls Tryz.prog 87 #[.agg #[.int .i64 kd, .int .i64 fr, .int .i64 to, .int .i64 sa, .int .i64 sb], .pointer (some ⟨b_ap, 0, none⟩)] w (Ret fun v w' =>  v = .bool (foundO pl (kd, fr, to, sa, sb)) ∧ Ext w w') := by
 refine enter 18 Tryz.func87 rfl rfl rfl fun f0 ha => ?_
 have H := HI.start (M0 := M) (w := w) hM
 have H0 := H.put (it := iL a_pl pl c_pl) rfl (by rw [MS_nil]; exact h_pl)
 have ln_pl := rv_len h_pl
 have i0 : f0 0 = .agg #[iV kd, iV fr, iV to, iV sa, iV sb] := ha 0 (by simp)
 have H1 := H0.put (it := ro b_a #[.slice a_fv n_fv c_fv, .slice a_fi n_fi c_fi, .slice a_fo n_fo c_fo, .slice a_stp n_stp c_stp, sL a_pl pl c_pl] ty_a) rfl (by rw [MS_cons_none rfl, MS_nil]; exact h_a)
 have H2 := H1.put (it := ro b_ap #[pV b_a 0] ty_ap) rfl (by rw [MS_cons_none rfl, MS_cons_none rfl, MS_nil]; exact h_ap)
 have i1 : f0 1 = pV b_ap 0 := ha 1 (by simp)
 refine sq (rg (k (bx H2 rfl i0 ?_)))
 intro bb0 w0 xt0 (H3 : HI M w w0 [box bb0 #[iV kd, iV fr, iV to, iV sa, iV sb] 92, ro b_ap #[pV b_a 0] ty_ap, ro b_a #[.slice a_fv n_fv c_fv, .slice a_fi n_fi c_fi, .slice a_fo n_fo c_fo, .slice a_stp n_stp c_stp, sL a_pl pl c_pl] ty_a, iL a_pl pl c_pl])
 refine k (asg (v := .bool false) rfl rfl (z (nx (sq ?_))))
 refine drS rfl (by kernel_rfl) ?_
 refine kq (fun _ _ => fa fl92_0 rfl rfl e1) (kq (fun _ x_ => lx (H3.ext x_) 0 rfl ty3 rfl rfl rfl e1) (kq (fun _ _ => eql rfl rfl rfl rfl e1) (kq (fun _ _ => mv (v := .bool (decide (kd = 4))) rfl rfl e1) ?_)))
 rcases bE (decide (kd = 4)) with b0 | b0
 ·
  have p0 := dT b0
  refine qy rfl rfl rfl b0 (kq (fun _ x_ => lr (H3.ext x_) 1 rfl ty54 rfl i1 rfl e1) (qy rfl rfl rfl b0 (kq (fun _ _ => nc rfl rfl e1) (qy rfl rfl rfl b0 (kq (fun _ _ => fa fl57_2 rfl rfl e1) (qy rfl rfl rfl b0 (kq (fun _ x_ => lr (H3.ext x_) 2 rfl ty55 rfl rfl rfl e1) (qy rfl rfl rfl b0 (kq (fun _ _ => fa fl92_3 rfl rfl e1) (qy rfl rfl rfl b0 (kq (fun _ x_ => lx (H3.ext x_) 0 rfl ty3 rfl rfl rfl e1) (qy rfl rfl rfl b0 (q_ia (H3.rv 3 rfl) rfl rfl rfl rfl (by have h_ := hk0_ (by assumption); omega) un55 ty4 ?_)))))))))))))
  intro ad0 x0 hx0 hA0
  refine qy rfl rfl rfl b0 (q_ldB hA0.w ty4 rfl rfl (qy rfl rfl rfl b0 (kq (fun _ _ => not_ rfl rfl e1) (kq (fun _ _ => pickT rfl rfl rfl rfl b0 rfl e1) (kq (fun _ _ => asg (v := .bool (!x0)) rfl rfl e1) (zq ?_))))))
  intro w1 xt1
  have H4 := H3.ext xt1
  refine nx (rt (r1 rfl rfl ?_))
  exact ⟨congrArg Value.bool (by simp only [foundO, hx0, b0, BL]), H4.below⟩
 have p0 := dF b0
 refine qn rfl rfl rfl b0 (qn rfl rfl rfl b0 (qn rfl rfl rfl b0 (qn rfl rfl rfl b0 (qn rfl rfl rfl b0 (qn rfl rfl rfl b0 (qn rfl rfl rfl b0 (qn rfl rfl rfl b0 (qn rfl rfl rfl b0 (kq (fun _ _ => pickF rfl rfl rfl rfl b0 rfl e1) (kq (fun _ _ => asg (v := .bool false) rfl rfl e1) (zq ?_)))))))))))
 intro w1 xt1
 have H4 := H3.ext xt1
 refine nx (rt (r1 rfl rfl ?_))
 exact ⟨congrArg Value.bool (by simp only [foundO, b0, BL]), H4.below⟩
theorem aud_founded {b_a : Nat} {ty_a : TypeId} {a_fv : OA} {n_fv c_fv : Nat} {a_fi : OA} {n_fi c_fi : Nat} {a_fo : OA} {n_fo c_fo : Nat} {a_stp : OA} {c_stp : Nat} {stp : List StepL} {a_pl : OA} {c_pl : Nat} {pl : List Bool} (hM : ∀ b, M b → b < w.heap.size) (h_stp : RV M w (.slice a_stp stp.length c_stp) stp) (h_pl : RV M w (.slice a_pl pl.length c_pl) pl) (h_a : w.heap[b_a]? = some (.cells #[.slice a_fv n_fv c_fv, .slice a_fi n_fi c_fi, .slice a_fo n_fo c_fo, .slice a_stp stp.length c_stp, .slice a_pl pl.length c_pl] ty_a (0, 0)) ∧ ¬ M b_a) (hrule : ∀ x ∈ stp, x.1 = 4 → 0 ≤ x.2.2.2.1 ∧ x.2.2.2.1 < ((pl.length : Nat) : Int)) : Calls Tryz.prog 51 #[.pointer (some ⟨b_a, 0, none⟩)] w (Ret fun v w' =>  v = .bool (!(stp.any (foundO pl))) ∧ Ext w w') := by
 refine enter 10 Tryz.func51 rfl rfl rfl fun f0 ha => ?_
 have H := HI.start (M0 := M) (w := w) hM
 have H0 := H.put (it := iL a_stp stp c_stp) rfl (by rw [MS_nil]; exact h_stp)
 have H1 := H0.put (it := iL a_pl pl c_pl) rfl (by rw [MS_cons_none rfl, MS_nil]; exact h_pl)
 have ln_stp := rv_len h_stp
 have ln_pl := rv_len h_pl
 have H2 := H1.put (it := ro b_a #[.slice a_fv n_fv c_fv, .slice a_fi n_fi c_fi, .slice a_fo n_fo c_fo, sL a_stp stp c_stp, sL a_pl pl c_pl] ty_a) rfl (by rw [MS_cons_none rfl, MS_cons_none rfl, MS_nil]; exact h_a)
 have i0 : f0 0 = pV b_a 0 := ha 0 (by simp)
 refine sq (rg (k (bx H2 rfl i0 ?_)))
 intro bb0 w0 xt0 (H3 : HI M w w0 [box bb0 #[pV b_a 0] 54, ro b_a #[.slice a_fv n_fv c_fv, .slice a_fi n_fi c_fi, .slice a_fo n_fo c_fo, sL a_stp stp c_stp, sL a_pl pl c_pl] ty_a, iL a_pl pl c_pl, iL a_stp stp c_stp])
 refine k (asg (v := .bool false) rfl rfl (z (nx (sq (rg (k (lx H3 0 rfl ty54 rfl rfl rfl (k (nc rfl rfl (k (fa fl57_1 rfl rfl (k (lr H3 1 rfl ty23 rfl rfl rfl (k (mf rfl (k ?_))))))))))))))))
 have cc0 := containsFunc_step (r := stp) (p := (fun (x_ : StepL) => foundO pl (x_.1, x_.2.1, x_.2.2.1, x_.2.2.2.1, x_.2.2.2.2))) (w := w0) H3.mb (H3.rv 3 rfl) ⟨go87, fun w_ v_ x_ hx_ e_ hv_ => by have H_ := H3.ext e_; obtain ⟨_, ⟨_, _, rfl, ⟨rfl, rv0⟩, ⟨_, _, rfl, ⟨rfl, rv1⟩, ⟨_, _, rfl, ⟨rfl, rv2⟩, ⟨_, _, rfl, ⟨rfl, rv3⟩, ⟨rfl, rv4⟩⟩⟩⟩⟩, rfl⟩ := hv_; exact aud_founded1 (pl := pl) (M := fun _ => False) (fun _ h_ => h_.elim) rv0 rv1 rv2 rv3 rv4 ((H_.rv 2 rfl).lift (Up.less fun _ _ h_ => h_.elim)) ⟨H_.at_ 0 rfl, fun h_ => h_⟩ ⟨(H_.at_ 1 rfl).1, fun h_ => h_⟩ (by exact hrule x_ hx_)⟩
 refine ca go86 rfl (ec rfl (ec rfl e0)) cc0 ?_
 rintro _ w1 ⟨rfl, xt1⟩
 have H4 := H3.ext xt1
 refine k (not_ rfl rfl (k (asg (v := .bool (!(stp.any (fun (x_ : StepL) => foundO pl (x_.1, x_.2.1, x_.2.2.1, x_.2.2.2.1, x_.2.2.2.2))))) rfl rfl (z (nx (rt (r1 rfl rfl ?_)))))))
 exact ⟨congrArg Value.bool (show (!(stp.any (fun (x_ : StepL) => foundO pl (x_.1, x_.2.1, x_.2.2.1, x_.2.2.2.1, x_.2.2.2.2)))) = (!(stp.any (foundO pl))) from rfl), H4.below⟩
theorem bad_Kinds {lv : Int} (hM : ∀ b, M b → b < w.heap.size) (h_lv : I64 lv) : Calls Tryz.prog 20 #[.int .i64 lv] w (Ret fun v w' => ∃ (a0 : OA) (c0 : Nat), v = .slice a0 (kindsO lv).length c0 ∧ Ext w w' ∧ OwnsG M 3 w (kindsO lv) (.slice a0 (kindsO lv).length c0) w') := by
 refine enter 19 Tryz.func20 rfl rfl rfl fun f0 ha => ?_
 have H := HI.start (M0 := M) (w := w) hM
 have i0 : f0 0 = iV lv := ha 0 (by simp)
 refine sq (rg (k (asg (v := .slice none 0 0) rfl rfl (z (nx (sq (rg (k (bs (xs := ([1, 2, 3, 4] : List Int)) (cells := #[iV 1, iV 2, iV 3, iV 4]) (e := 3) H rfl (pbc rfl (pbc rfl (pbc rfl (pbc rfl pb0)))) (fun _ => by kernel_rfl) ⟨[iV 1], [iV 2, iV 3, iV 4], rfl, ⟨rfl, (show I64 (1) from (by unfold I64 at *; omega))⟩, ⟨[iV 2], [iV 3, iV 4], rfl, ⟨rfl, (show I64 (2) from (by unfold I64 at *; omega))⟩, ⟨[iV 3], [iV 4], rfl, ⟨rfl, (show I64 (3) from (by unfold I64 at *; omega))⟩, ⟨[iV 4], [], rfl, ⟨rfl, (show I64 (4) from (by unfold I64 at *; omega))⟩, rfl⟩⟩⟩⟩ rfl (by decide) ?_)))))))))
 intro g0 w0 xt0 H0
 refine k (asg (v := .slice (some ⟨g0, 0, none⟩) 4 4) rfl rfl (z (nx (sq (sq (rg (k (mv rfl i0 (z (nx (bk (sq (rg (k (eql rfl rfl rfl rfl (k (asg (v := .bool (decide (lv = 1))) rfl rfl (z (nx ?_)))))))))))))))))))
 refine cd (b := decide (lv = 1)) rfl rfl (fun b0 => ?_) (fun b0 => ?_)
 ·
  have p0 := dT b0
  refine sq (rg (k (mv (v := .slice (some ⟨g0, 0, none⟩) 4 4) rfl rfl (k (asg (v := .slice (some ⟨g0, 0, none⟩) 4 4) rfl rfl (z (nx (rt (inb_ret (then_ret (r1 rfl rfl ?_)))))))))))
  have e0 : (([1, 2, 3, 4] : List Int) : List Int) = kindsO lv := by simp only [kindsO, b0, BL]
  have l0 : 4 = (kindsO lv).length := by first | rfl | (rw [← e0]; simp) | simp
  have ev_ := cg1 (fun (n_0 : Nat) => (.slice (some ⟨g0, 0, none⟩) n_0 4 : Value)) l0
  exact ⟨(some ⟨g0, 0, none⟩), 4, ev_, H0.below, (congrArg (fun (n_ : Nat) => OwnsG _ _ _ (kindsO lv) (.slice (some ⟨g0, 0, none⟩) n_ 4) _) l0).mp ((congrArg (fun (x_ : List Int) => OwnsG _ _ _ x_ (.slice (some ⟨g0, 0, none⟩) 4 4) _) e0).mp (H0.ownsG_out 0 rfl))⟩
 have p0 := dF b0
 refine sq (rg (k (eql rfl rfl rfl rfl (k (asg (v := .bool (decide (lv = 2))) rfl rfl (z (nx ?_)))))))
 refine cd (b := decide (lv = 2)) rfl rfl (fun b1 => ?_) (fun b1 => ?_)
 ·
  have p1 := dT b1
  refine sq (rg (k (mv (v := .slice (some ⟨g0, 0, none⟩) 4 4) rfl rfl (k (bs (xs := ([5] : List Int)) (cells := #[iV 5]) (e := 3) H0 rfl (pbc rfl pb0) (fun _ => by kernel_rfl) ⟨[iV 5], [], rfl, ⟨rfl, (show I64 (5) from (by unfold I64 at *; omega))⟩, rfl⟩ rfl (by decide) ?_)))))
  intro g1 w1 xt1 H1
  refine k (apB H1 1 rfl rfl rfl rfl rfl rfl (own_src (H1.at_ 0 rfl)) un30 ty3 rfl (by simp) rfl ?_)
  intro a0 c0 w2 (H2 : HI M w w2 [own w.heap.size 3 (.slice (some ⟨g1, 0, none⟩) 1 1) ([5] : List Int), oL w 3 a0 (([1, 2, 3, 4] : List Int) ++ ([5] : List Int)) c0])
  refine k (asg (v := sL a0 (([1, 2, 3, 4] : List Int) ++ ([5] : List Int)) c0) rfl rfl (z (nx (rt (inb_ret (then_ret (r1 rfl rfl ?_)))))))
  have e0 : ((([1, 2, 3, 4] : List Int) ++ ([5] : List Int)) : List Int) = kindsO lv := by simp only [kindsO, b0, b1, BL]
  have ev_ := cg1 (fun (x_0 : List Int) => (.slice a0 x_0.length c0 : Value)) e0
  exact ⟨a0, c0, ev_, H2.below, (congrArg (fun (x_ : List Int) => OwnsG _ _ _ x_ (.slice a0 x_.length c0) _) e0).mp (H2.ownsG_out 1 rfl)⟩
 have p1 := dF b1
 refine sq (rg (k (eql rfl rfl rfl rfl (k (asg (v := .bool (decide (lv = 3))) rfl rfl (z (nx ?_)))))))
 refine cd (b := decide (lv = 3)) rfl rfl (fun b2 => ?_) (fun b2 => ?_)
 ·
  have p2 := dT b2
  refine sq (rg (k (mv (v := .slice (some ⟨g0, 0, none⟩) 4 4) rfl rfl (k (bs (xs := ([6, 7] : List Int)) (cells := #[iV 6, iV 7]) (e := 3) H0 rfl (pbc rfl (pbc rfl pb0)) (fun _ => by kernel_rfl) ⟨[iV 6], [iV 7], rfl, ⟨rfl, (show I64 (6) from (by unfold I64 at *; omega))⟩, ⟨[iV 7], [], rfl, ⟨rfl, (show I64 (7) from (by unfold I64 at *; omega))⟩, rfl⟩⟩ rfl (by decide) ?_)))))
  intro g1 w1 xt1 H1
  refine k (apB H1 1 rfl rfl rfl rfl rfl rfl (own_src (H1.at_ 0 rfl)) un30 ty3 rfl (by simp) rfl ?_)
  intro a0 c0 w2 (H2 : HI M w w2 [own w.heap.size 3 (.slice (some ⟨g1, 0, none⟩) 2 2) ([6, 7] : List Int), oL w 3 a0 (([1, 2, 3, 4] : List Int) ++ ([6, 7] : List Int)) c0])
  refine k (asg (v := sL a0 (([1, 2, 3, 4] : List Int) ++ ([6, 7] : List Int)) c0) rfl rfl (z (nx (rt (inb_ret (then_ret (r1 rfl rfl ?_)))))))
  have e0 : ((([1, 2, 3, 4] : List Int) ++ ([6, 7] : List Int)) : List Int) = kindsO lv := by simp only [kindsO, b0, b1, b2, BL]
  have ev_ := cg1 (fun (x_0 : List Int) => (.slice a0 x_0.length c0 : Value)) e0
  exact ⟨a0, c0, ev_, H2.below, (congrArg (fun (x_ : List Int) => OwnsG _ _ _ x_ (.slice a0 x_.length c0) _) e0).mp (H2.ownsG_out 1 rfl)⟩
 have p2 := dF b2
 refine sk (inb_normal (nx (sq (rg (k (asg (v := .slice none 0 0) rfl rfl (z (nx (rt (r1 rfl rfl ?_))))))))))
 have e0 : ([] : List Int) = kindsO lv := by simp only [kindsO, b0, b1, b2, BL]
 have ev_ := cg1 (fun (x_0 : List Int) => (.slice none x_0.length 0 : Value)) e0
 exact ⟨none, 0, ev_, H0.below, (congrArg (fun (x_ : List Int) => OwnsG _ _ _ x_ (.slice none x_.length 0) _) e0).mp (ownsG_nil H0.below)⟩
theorem audit_unnamed {kd : Int} {rd_ : Int} {wa_ : Int} {wb_ : Int} {op_ : Int} {a_sl_ : OA} {n_sl_ c_sl_ : Nat} {fs_ : Int} {sn_ : Int} (hM : ∀ b, M b → b < w.heap.size) (h_kd : I64 kd) (h_rd_ : I64 rd_) (h_wa_ : I64 wa_) (h_wb_ : I64 wb_) (h_op_ : I64 op_) (h_fs_ : I64 fs_) (h_sn_ : I64 sn_) : Calls Tryz.prog 22 #[.agg #[.int .i64 kd, .int .i64 rd_, .int .i64 wa_, .int .i64 wb_, .int .i64 op_, .slice a_sl_ n_sl_ c_sl_, .int .i64 fs_, .int .i64 sn_]] w (Ret fun v w' => ∃ (a0 : OA) (c0 : Nat), v = .slice a0 (unnO kd rd_ wa_ wb_ op_ fs_ sn_).length c0 ∧ Ext w w' ∧ OwnsG M 3 w (unnO kd rd_ wa_ wb_ op_ fs_ sn_) (.slice a0 (unnO kd rd_ wa_ wb_ op_ fs_ sn_).length c0) w') := by
 refine enter 58 Tryz.func22 rfl rfl rfl fun f0 ha => ?_
 have H := HI.start (M0 := M) (w := w) hM
 have i0 : f0 0 = .agg #[iV kd, iV rd_, iV wa_, iV wb_, iV op_, .slice a_sl_ n_sl_ c_sl_, iV fs_, iV sn_] := ha 0 (by simp)
 refine sq (rg (k (bx H rfl i0 ?_)))
 intro bb0 w0 xt0 (H0 : HI M w w0 [box bb0 #[iV kd, iV rd_, iV wa_, iV wb_, iV op_, .slice a_sl_ n_sl_ c_sl_, iV fs_, iV sn_] 25])
 refine k (asg (v := .slice none 0 0) rfl rfl (z (nx (sq (sq (rg (k (fa fl25_0 rfl rfl (k (lx H0 0 rfl ty3 rfl rfl rfl (z (nx (bk (sq (rg (k (eql rfl rfl rfl rfl (k (asg (v := .bool (decide (kd = 1))) rfl rfl (z (nx ?_)))))))))))))))))))))
 refine cd (b := decide (kd = 1)) rfl rfl (fun b0 => ?_) (fun b0 => ?_)
 ·
  have p0 := dT b0
  refine sq (rg (k (fa fl25_2 rfl rfl (k (lx H0 0 rfl ty3 rfl rfl rfl (k (fa fl25_3 rfl rfl (k (lx H0 0 rfl ty3 rfl rfl rfl (k (fa fl25_4 rfl rfl (k (lx H0 0 rfl ty3 rfl rfl rfl (k (fa fl25_6 rfl rfl (k (lx H0 0 rfl ty3 rfl rfl rfl (k (fa fl25_7 rfl rfl (k (lx H0 0 rfl ty3 rfl rfl rfl (k (bs (xs := ([wa_, wb_, op_, fs_, sn_] : List Int)) (cells := #[iV wa_, iV wb_, iV op_, iV fs_, iV sn_]) (e := 3) H0 rfl (pbc rfl (pbc rfl (pbc rfl (pbc rfl (pbc rfl pb0))))) (fun _ => by kernel_rfl) ⟨[iV wa_], [iV wb_, iV op_, iV fs_, iV sn_], rfl, ⟨rfl, h_wa_⟩, ⟨[iV wb_], [iV op_, iV fs_, iV sn_], rfl, ⟨rfl, h_wb_⟩, ⟨[iV op_], [iV fs_, iV sn_], rfl, ⟨rfl, h_op_⟩, ⟨[iV fs_], [iV sn_], rfl, ⟨rfl, h_fs_⟩, ⟨[iV sn_], [], rfl, ⟨rfl, h_sn_⟩, rfl⟩⟩⟩⟩⟩ rfl (by decide) ?_)))))))))))))))))))))))
  intro g0 w1 xt1 H1
  refine k (asg (v := .slice (some ⟨g0, 0, none⟩) 5 5) rfl rfl (z (nx (rt (inb_ret (then_ret (r1 rfl rfl ?_)))))))
  have e0 : (([wa_, wb_, op_, fs_, sn_] : List Int) : List Int) = unnO kd rd_ wa_ wb_ op_ fs_ sn_ := by simp only [unnO, b0, BL]
  have l0 : 5 = (unnO kd rd_ wa_ wb_ op_ fs_ sn_).length := by first | rfl | (rw [← e0]; simp) | simp
  have ev_ := cg1 (fun (n_0 : Nat) => (.slice (some ⟨g0, 0, none⟩) n_0 5 : Value)) l0
  exact ⟨(some ⟨g0, 0, none⟩), 5, ev_, H1.below, (congrArg (fun (n_ : Nat) => OwnsG _ _ _ (unnO kd rd_ wa_ wb_ op_ fs_ sn_) (.slice (some ⟨g0, 0, none⟩) n_ 5) _) l0).mp ((congrArg (fun (x_ : List Int) => OwnsG _ _ _ x_ (.slice (some ⟨g0, 0, none⟩) 5 5) _) e0).mp (H1.ownsG_out 0 rfl))⟩
 have p0 := dF b0
 refine sq (sq (rg (k (eql rfl rfl rfl rfl (k (asg (v := .bool (decide (kd = 2))) rfl rfl (z (nx ?_))))))))
 refine cd (b := decide (kd = 2)) rfl rfl (fun b1 => ?_) (fun b1 => ?_)
 ·
  have p1 := dT b1
  refine sk (nx (cdT rfl rfl b1 (sq (rg (k (fa fl25_1 rfl rfl (k (lx H0 0 rfl ty3 rfl rfl rfl (k (fa fl25_2 rfl rfl (k (lx H0 0 rfl ty3 rfl rfl rfl (k (fa fl25_3 rfl rfl (k (lx H0 0 rfl ty3 rfl rfl rfl (k (fa fl25_7 rfl rfl (k (lx H0 0 rfl ty3 rfl rfl rfl (k (bs (xs := ([rd_, wa_, wb_, sn_] : List Int)) (cells := #[iV rd_, iV wa_, iV wb_, iV sn_]) (e := 3) H0 rfl (pbc rfl (pbc rfl (pbc rfl (pbc rfl pb0)))) (fun _ => by kernel_rfl) ⟨[iV rd_], [iV wa_, iV wb_, iV sn_], rfl, ⟨rfl, h_rd_⟩, ⟨[iV wa_], [iV wb_, iV sn_], rfl, ⟨rfl, h_wa_⟩, ⟨[iV wb_], [iV sn_], rfl, ⟨rfl, h_wb_⟩, ⟨[iV sn_], [], rfl, ⟨rfl, h_sn_⟩, rfl⟩⟩⟩⟩ rfl (by decide) ?_))))))))))))))))))))))
  intro g0 w1 xt1 H1
  refine k (asg (v := .slice (some ⟨g0, 0, none⟩) 4 4) rfl rfl (z (nx (rt (inb_ret (then_ret (r1 rfl rfl ?_)))))))
  have e0 : (([rd_, wa_, wb_, sn_] : List Int) : List Int) = unnO kd rd_ wa_ wb_ op_ fs_ sn_ := by simp only [unnO, b0, b1, BL]
  have l0 : 4 = (unnO kd rd_ wa_ wb_ op_ fs_ sn_).length := by first | rfl | (rw [← e0]; simp) | simp
  have ev_ := cg1 (fun (n_0 : Nat) => (.slice (some ⟨g0, 0, none⟩) n_0 4 : Value)) l0
  exact ⟨(some ⟨g0, 0, none⟩), 4, ev_, H1.below, (congrArg (fun (n_ : Nat) => OwnsG _ _ _ (unnO kd rd_ wa_ wb_ op_ fs_ sn_) (.slice (some ⟨g0, 0, none⟩) n_ 4) _) l0).mp ((congrArg (fun (x_ : List Int) => OwnsG _ _ _ x_ (.slice (some ⟨g0, 0, none⟩) 4 4) _) e0).mp (H1.ownsG_out 0 rfl))⟩
 have p1 := dF b1
 refine rg (k (eql rfl rfl rfl rfl (k (asg (v := .bool (decide (kd = 5))) rfl rfl (z (nx ?_))))))
 refine cd (b := decide (kd = 5)) rfl rfl (fun b2 => ?_) (fun b2 => ?_)
 ·
  have p2 := dT b2
  refine sq (rg (k (fa fl25_1 rfl rfl (k (lx H0 0 rfl ty3 rfl rfl rfl (k (fa fl25_2 rfl rfl (k (lx H0 0 rfl ty3 rfl rfl rfl (k (fa fl25_3 rfl rfl (k (lx H0 0 rfl ty3 rfl rfl rfl (k (fa fl25_7 rfl rfl (k (lx H0 0 rfl ty3 rfl rfl rfl (k (bs (xs := ([rd_, wa_, wb_, sn_] : List Int)) (cells := #[iV rd_, iV wa_, iV wb_, iV sn_]) (e := 3) H0 rfl (pbc rfl (pbc rfl (pbc rfl (pbc rfl pb0)))) (fun _ => by kernel_rfl) ⟨[iV rd_], [iV wa_, iV wb_, iV sn_], rfl, ⟨rfl, h_rd_⟩, ⟨[iV wa_], [iV wb_, iV sn_], rfl, ⟨rfl, h_wa_⟩, ⟨[iV wb_], [iV sn_], rfl, ⟨rfl, h_wb_⟩, ⟨[iV sn_], [], rfl, ⟨rfl, h_sn_⟩, rfl⟩⟩⟩⟩ rfl (by decide) ?_)))))))))))))))))))
  intro g0 w1 xt1 H1
  refine k (asg (v := .slice (some ⟨g0, 0, none⟩) 4 4) rfl rfl (z (nx (rt (inb_ret (then_ret (r1 rfl rfl ?_)))))))
  have e0 : (([rd_, wa_, wb_, sn_] : List Int) : List Int) = unnO kd rd_ wa_ wb_ op_ fs_ sn_ := by simp only [unnO, b0, b1, b2, BL]
  have l0 : 4 = (unnO kd rd_ wa_ wb_ op_ fs_ sn_).length := by first | rfl | (rw [← e0]; simp) | simp
  have ev_ := cg1 (fun (n_0 : Nat) => (.slice (some ⟨g0, 0, none⟩) n_0 4 : Value)) l0
  exact ⟨(some ⟨g0, 0, none⟩), 4, ev_, H1.below, (congrArg (fun (n_ : Nat) => OwnsG _ _ _ (unnO kd rd_ wa_ wb_ op_ fs_ sn_) (.slice (some ⟨g0, 0, none⟩) n_ 4) _) l0).mp ((congrArg (fun (x_ : List Int) => OwnsG _ _ _ x_ (.slice (some ⟨g0, 0, none⟩) 4 4) _) e0).mp (H1.ownsG_out 0 rfl))⟩
 have p2 := dF b2
 refine sq (rg (k (eql rfl rfl rfl rfl (k (asg (v := .bool (decide (kd = 3))) rfl rfl (z (nx ?_)))))))
 refine cd (b := decide (kd = 3)) rfl rfl (fun b3 => ?_) (fun b3 => ?_)
 ·
  have p3 := dT b3
  refine sq (rg (k (fa fl25_3 rfl rfl (k (lx H0 0 rfl ty3 rfl rfl rfl (k (fa fl25_4 rfl rfl (k (lx H0 0 rfl ty3 rfl rfl rfl (k (fa fl25_7 rfl rfl (k (lx H0 0 rfl ty3 rfl rfl rfl (k (bs (xs := ([wb_, op_, sn_] : List Int)) (cells := #[iV wb_, iV op_, iV sn_]) (e := 3) H0 rfl (pbc rfl (pbc rfl (pbc rfl pb0))) (fun _ => by kernel_rfl) ⟨[iV wb_], [iV op_, iV sn_], rfl, ⟨rfl, h_wb_⟩, ⟨[iV op_], [iV sn_], rfl, ⟨rfl, h_op_⟩, ⟨[iV sn_], [], rfl, ⟨rfl, h_sn_⟩, rfl⟩⟩⟩ rfl (by decide) ?_)))))))))))))))
  intro g0 w1 xt1 H1
  refine k (asg (v := .slice (some ⟨g0, 0, none⟩) 3 3) rfl rfl (z (nx (rt (inb_ret (then_ret (r1 rfl rfl ?_)))))))
  have e0 : (([wb_, op_, sn_] : List Int) : List Int) = unnO kd rd_ wa_ wb_ op_ fs_ sn_ := by simp only [unnO, b0, b1, b2, b3, BL]
  have l0 : 3 = (unnO kd rd_ wa_ wb_ op_ fs_ sn_).length := by first | rfl | (rw [← e0]; simp) | simp
  have ev_ := cg1 (fun (n_0 : Nat) => (.slice (some ⟨g0, 0, none⟩) n_0 3 : Value)) l0
  exact ⟨(some ⟨g0, 0, none⟩), 3, ev_, H1.below, (congrArg (fun (n_ : Nat) => OwnsG _ _ _ (unnO kd rd_ wa_ wb_ op_ fs_ sn_) (.slice (some ⟨g0, 0, none⟩) n_ 3) _) l0).mp ((congrArg (fun (x_ : List Int) => OwnsG _ _ _ x_ (.slice (some ⟨g0, 0, none⟩) 3 3) _) e0).mp (H1.ownsG_out 0 rfl))⟩
 have p3 := dF b3
 refine sq (rg (k (eql rfl rfl rfl rfl (k (asg (v := .bool (decide (kd = 4))) rfl rfl (z (nx ?_)))))))
 refine cd (b := decide (kd = 4)) rfl rfl (fun b4 => ?_) (fun b4 => ?_)
 ·
  have p4 := dT b4
  refine sq (rg (k (fa fl25_4 rfl rfl (k (lx H0 0 rfl ty3 rfl rfl rfl (k (bs (xs := ([op_] : List Int)) (cells := #[iV op_]) (e := 3) H0 rfl (pbc rfl pb0) (fun _ => by kernel_rfl) ⟨[iV op_], [], rfl, ⟨rfl, h_op_⟩, rfl⟩ rfl (by decide) ?_)))))))
  intro g0 w1 xt1 H1
  refine k (asg (v := .slice (some ⟨g0, 0, none⟩) 1 1) rfl rfl (z (nx (rt (inb_ret (then_ret (r1 rfl rfl ?_)))))))
  have e0 : (([op_] : List Int) : List Int) = unnO kd rd_ wa_ wb_ op_ fs_ sn_ := by simp only [unnO, b0, b1, b2, b3, b4, BL]
  have l0 : 1 = (unnO kd rd_ wa_ wb_ op_ fs_ sn_).length := by first | rfl | (rw [← e0]; simp) | simp
  have ev_ := cg1 (fun (n_0 : Nat) => (.slice (some ⟨g0, 0, none⟩) n_0 1 : Value)) l0
  exact ⟨(some ⟨g0, 0, none⟩), 1, ev_, H1.below, (congrArg (fun (n_ : Nat) => OwnsG _ _ _ (unnO kd rd_ wa_ wb_ op_ fs_ sn_) (.slice (some ⟨g0, 0, none⟩) n_ 1) _) l0).mp ((congrArg (fun (x_ : List Int) => OwnsG _ _ _ x_ (.slice (some ⟨g0, 0, none⟩) 1 1) _) e0).mp (H1.ownsG_out 0 rfl))⟩
 have p4 := dF b4
 refine sq (rg (k (eql rfl rfl rfl rfl (k (asg (v := .bool (decide (kd = 6))) rfl rfl (z (nx ?_)))))))
 refine cd (b := decide (kd = 6)) rfl rfl (fun b5 => ?_) (fun b5 => ?_)
 ·
  have p5 := dT b5
  refine sq (rg (k (fa fl25_3 rfl rfl (k (lx H0 0 rfl ty3 rfl rfl rfl (k (fa fl25_7 rfl rfl (k (lx H0 0 rfl ty3 rfl rfl rfl (k (bs (xs := ([wb_, sn_] : List Int)) (cells := #[iV wb_, iV sn_]) (e := 3) H0 rfl (pbc rfl (pbc rfl pb0)) (fun _ => by kernel_rfl) ⟨[iV wb_], [iV sn_], rfl, ⟨rfl, h_wb_⟩, ⟨[iV sn_], [], rfl, ⟨rfl, h_sn_⟩, rfl⟩⟩ rfl (by decide) ?_)))))))))))
  intro g0 w1 xt1 H1
  refine k (asg (v := .slice (some ⟨g0, 0, none⟩) 2 2) rfl rfl (z (nx (rt (inb_ret (then_ret (r1 rfl rfl ?_)))))))
  have e0 : (([wb_, sn_] : List Int) : List Int) = unnO kd rd_ wa_ wb_ op_ fs_ sn_ := by simp only [unnO, b0, b1, b2, b3, b4, b5, BL]
  have l0 : 2 = (unnO kd rd_ wa_ wb_ op_ fs_ sn_).length := by first | rfl | (rw [← e0]; simp) | simp
  have ev_ := cg1 (fun (n_0 : Nat) => (.slice (some ⟨g0, 0, none⟩) n_0 2 : Value)) l0
  exact ⟨(some ⟨g0, 0, none⟩), 2, ev_, H1.below, (congrArg (fun (n_ : Nat) => OwnsG _ _ _ (unnO kd rd_ wa_ wb_ op_ fs_ sn_) (.slice (some ⟨g0, 0, none⟩) n_ 2) _) l0).mp ((congrArg (fun (x_ : List Int) => OwnsG _ _ _ x_ (.slice (some ⟨g0, 0, none⟩) 2 2) _) e0).mp (H1.ownsG_out 0 rfl))⟩
 have p5 := dF b5
 refine sk (inb_normal (nx (sq (rg (k (fa fl25_1 rfl rfl (k (lx H0 0 rfl ty3 rfl rfl rfl (k (fa fl25_3 rfl rfl (k (lx H0 0 rfl ty3 rfl rfl rfl (k (fa fl25_7 rfl rfl (k (lx H0 0 rfl ty3 rfl rfl rfl (k (bs (xs := ([rd_, wb_, sn_] : List Int)) (cells := #[iV rd_, iV wb_, iV sn_]) (e := 3) H0 rfl (pbc rfl (pbc rfl (pbc rfl pb0))) (fun _ => by kernel_rfl) ⟨[iV rd_], [iV wb_, iV sn_], rfl, ⟨rfl, h_rd_⟩, ⟨[iV wb_], [iV sn_], rfl, ⟨rfl, h_wb_⟩, ⟨[iV sn_], [], rfl, ⟨rfl, h_sn_⟩, rfl⟩⟩⟩ rfl (by decide) ?_))))))))))))))))))
 intro g0 w1 xt1 H1
 refine k (asg (v := .slice (some ⟨g0, 0, none⟩) 3 3) rfl rfl (z (nx (rt (r1 rfl rfl ?_)))))
 have e0 : (([rd_, wb_, sn_] : List Int) : List Int) = unnO kd rd_ wa_ wb_ op_ fs_ sn_ := by simp only [unnO, b0, b1, b2, b3, b4, b5, BL]
 have l0 : 3 = (unnO kd rd_ wa_ wb_ op_ fs_ sn_).length := by first | rfl | (rw [← e0]; simp) | simp
 have ev_ := cg1 (fun (n_0 : Nat) => (.slice (some ⟨g0, 0, none⟩) n_0 3 : Value)) l0
 exact ⟨(some ⟨g0, 0, none⟩), 3, ev_, H1.below, (congrArg (fun (n_ : Nat) => OwnsG _ _ _ (unnO kd rd_ wa_ wb_ op_ fs_ sn_) (.slice (some ⟨g0, 0, none⟩) n_ 3) _) l0).mp ((congrArg (fun (x_ : List Int) => OwnsG _ _ _ x_ (.slice (some ⟨g0, 0, none⟩) 3 3) _) e0).mp (H1.ownsG_out 0 rfl))⟩
theorem audit_Holds1 {n1 : Int} (h_n1 : I64 n1) : Calls Tryz.prog 23 #[.int .i64 n1] w (Ret fun v w' =>  v = .bool (!decide (n1 = (-1))) ∧ Ext w w') := by
 refine enter 5 Tryz.func23 rfl rfl rfl fun f0 ha => ?_
 have H := HI.start (M0 := (fun _ => False)) (w := w) (fun _ h => h.elim)
 have i0 : f0 0 = iV n1 := ha 0 (by simp)
 refine sq (rg (k (asg (v := .bool false) rfl rfl (z (nx (sq (rg (k (mv rfl i0 (k (neq rfl rfl rfl rfl (k (asg (v := .bool (!decide (n1 = (-1)))) rfl rfl (z (nx (rt (r1 rfl rfl ?_)))))))))))))))))
 exact ⟨rfl, H.below⟩
theorem go47 : GoF Tryz.prog 47 := ⟨_, _, Tryz.func47, rfl, by kernel_rfl⟩
theorem go49 : GoF Tryz.prog 49 := ⟨_, _, Tryz.func49, rfl, by kernel_rfl⟩
theorem go51 : GoF Tryz.prog 51 := ⟨_, _, Tryz.func51, rfl, by kernel_rfl⟩
theorem go53 : GoF Tryz.prog 53 := ⟨_, _, Tryz.func53, rfl, by kernel_rfl⟩
theorem aud_pattern {b_a : Nat} {ty_a : TypeId} {a_fv : OA} {n_fv c_fv : Nat} {a_fi : OA} {c_fi : Nat} {fi : List ItemL} {a_fo : OA} {c_fo : Nat} {fo : List Int} {a_stp : OA} {c_stp : Nat} {stp : List StepL} {a_pl : OA} {c_pl : Nat} {pl : List Bool} {kd : Int} {rd_ : Int} {wa_ : Int} {wb_ : Int} {op_ : Int} {a_sl_ : OA} {n_sl_ c_sl_ : Nat} {fs_ : Int} {sn_ : Int} (hM : ∀ b, M b → b < w.heap.size) (hT : TabAt 0 w) (h_fi : RV M w (.slice a_fi fi.length c_fi) fi) (h_fo : RV M w (.slice a_fo fo.length c_fo) fo) (h_stp : RV M w (.slice a_stp stp.length c_stp) stp) (h_pl : RV M w (.slice a_pl pl.length c_pl) pl) (h_kd : I64 kd) (h_rd_ : I64 rd_) (h_wa_ : I64 wa_) (h_wb_ : I64 wb_) (h_op_ : I64 op_) (h_fs_ : I64 fs_) (h_sn_ : I64 sn_) (h_a : w.heap[b_a]? = some (.cells #[.slice a_fv n_fv c_fv, .slice a_fi fi.length c_fi, .slice a_fo fo.length c_fo, .slice a_stp stp.length c_stp, .slice a_pl pl.length c_pl] ty_a (0, 0)) ∧ ¬ M b_a) (ho : OrdI fi) (hn_fi : fi.length ≤ 4096) (hfo : fo.length = fi.length) (hfr : ∀ x ∈ fo, x < ((fi.length : Nat) : Int)) (hrule : ∀ x ∈ stp, x.1 = 4 → 0 ≤ x.2.2.2.1 ∧ x.2.2.2.1 < ((pl.length : Nat) : Int)) : Calls Tryz.prog 25 #[.pointer (some ⟨b_a, 0, none⟩), .agg #[.int .i64 kd, .int .i64 rd_, .int .i64 wa_, .int .i64 wb_, .int .i64 op_, .slice a_sl_ n_sl_ c_sl_, .int .i64 fs_, .int .i64 sn_]] w (Ret fun v w' =>  v = .bool (patO fi fo stp pl kd rd_ wa_ wb_ op_ fs_ sn_) ∧ Ext w w') := by
 refine enter 223 Tryz.func25 rfl rfl rfl fun f0 ha => ?_
 have H := HI.start (M0 := M) (w := w) hM
 have H0 := H.put (it := iL a_fi fi c_fi) rfl (by rw [MS_nil]; exact h_fi)
 have H1 := H0.put (it := iL a_fo fo c_fo) rfl (by rw [MS_cons_none rfl, MS_nil]; exact h_fo)
 have H2 := H1.put (it := iL a_stp stp c_stp) rfl (by rw [MS_cons_none rfl, MS_cons_none rfl, MS_nil]; exact h_stp)
 have H3 := H2.put (it := iL a_pl pl c_pl) rfl (by rw [MS_cons_none rfl, MS_cons_none rfl, MS_cons_none rfl, MS_nil]; exact h_pl)
 have ln_fi := rv_len h_fi
 have ln_fo := rv_len h_fo
 have ln_stp := rv_len h_stp
 have ln_pl := rv_len h_pl
 have H4 := H3.put (it := ro b_a #[.slice a_fv n_fv c_fv, sL a_fi fi c_fi, sL a_fo fo c_fo, sL a_stp stp c_stp, sL a_pl pl c_pl] ty_a) rfl (by rw [MS_cons_none rfl, MS_cons_none rfl, MS_cons_none rfl, MS_cons_none rfl, MS_nil]; exact h_a)
 have i0 : f0 0 = pV b_a 0 := ha 0 (by simp)
 have i1 : f0 1 = .agg #[iV kd, iV rd_, iV wa_, iV wb_, iV op_, .slice a_sl_ n_sl_ c_sl_, iV fs_, iV sn_] := ha 1 (by simp)
 refine sq (rg (k (bx H4 rfl i1 ?_)))
 intro bb0 w0 xt0 (H5 : HI M w w0 [box bb0 #[iV kd, iV rd_, iV wa_, iV wb_, iV op_, .slice a_sl_ n_sl_ c_sl_, iV fs_, iV sn_] 25, ro b_a #[.slice a_fv n_fv c_fv, sL a_fi fi c_fi, sL a_fo fo c_fo, sL a_stp stp c_stp, sL a_pl pl c_pl] ty_a, iL a_pl pl c_pl, iL a_stp stp c_stp, iL a_fo fo c_fo, iL a_fi fi c_fi])
 refine k (asg (v := .bool false) rfl rfl (z (nx (sq (sq (rg (k (fa fl25_0 rfl rfl (k (lx H5 0 rfl ty3 rfl rfl rfl (z (nx (bk (sq (rg (k (eql rfl rfl rfl rfl (k (asg (v := .bool (decide (kd = 1))) rfl rfl (z (nx ?_)))))))))))))))))))))
 refine cd (b := decide (kd = 1)) rfl rfl (fun b0 => ?_) (fun b0 => ?_)
 ·
  have p0 := dT b0
  refine sq ?_
  refine drX rfl (by kernel_rfl) ?_
  refine xq rfl (kq (fun _ _ => mv rfl i0 e1) (zq (xq rfl (kq (fun _ _ => fa fl25_1 rfl rfl e1) (zq (xq rfl (kq (fun _ x_ => lx (H5.ext x_) 0 rfl ty3 rfl rfl rfl e1) (zq ?_))))))))
  refine xu (fun v w' => ∃ (a0 : OA) (c0 : Nat), v = sL a0 ([rd_] : List Int) c0 ∧ RV (MS M [box bb0 #[iV kd, iV rd_, iV wa_, iV wb_, iV op_, .slice a_sl_ n_sl_ c_sl_, iV fs_, iV sn_] 25, ro b_a #[.slice a_fv n_fv c_fv, sL a_fi fi c_fi, sL a_fo fo c_fo, sL a_stp stp c_stp, sL a_pl pl c_pl] ty_a, iL a_pl pl c_pl, iL a_stp stp c_stp, iL a_fo fo c_fo, iL a_fi fi c_fi]) w' (sL a0 ([rd_] : List Int) c0) ([rd_] : List Int)) rfl (by rintro _ _ _ x_ ⟨a0, c0, e_, rv0⟩; exact ⟨a0, c0, e_, rv0.lift (Up.ext x_)⟩) rfl (fun v_ x_ => ?_) ?_
  ·
   have H8 := H5.ext x_
   refine bs (xs := ([rd_] : List Int)) (cells := #[iV rd_]) (e := 3) H8 rfl (pbc rfl pb0) (fun _ => by kernel_rfl) ⟨[iV rd_], [], rfl, ⟨rfl, h_rd_⟩, rfl⟩ rfl (by decide) ?_
   intro g1 w2 xt2 (H9 : HI M w w2 [own w.heap.size 3 (.slice (some ⟨g1, 0, none⟩) 1 1) ([rd_] : List Int), box bb0 #[iV kd, iV rd_, iV wa_, iV wb_, iV op_, .slice a_sl_ n_sl_ c_sl_, iV fs_, iV sn_] 25, ro b_a #[.slice a_fv n_fv c_fv, sL a_fi fi c_fi, sL a_fo fo c_fo, sL a_stp stp c_stp, sL a_pl pl c_pl] ty_a, iL a_pl pl c_pl, iL a_stp stp c_stp, iL a_fo fo c_fo, iL a_fi fi c_fi])
   have H10 := H9.freeze 0 rfl
   exact ⟨_, rfl, xt2, ⟨(some ⟨g1, 0, none⟩), 1, rfl, (rv_drop rfl (H10.rv 0 rfl))⟩⟩
  refine xk1 (X := .bool (!(([rd_] : List Int).any (outO fi)))) 0 rfl rfl (fun v_ u_ x_ h_ => ?_) ?_
  ·
   have H12 := H5.ext x_
   obtain ⟨a2, c2, s0, rv2⟩ := h_
   have H13 := H12.put (it := iL a2 ([rd_] : List Int) c2) rfl rv2
   have cc := aud_op (fi := fi) (l := ([rd_] : List Int)) (w := v_) H13.mb (H13.rv 6 rfl) (H13.rv 0 rfl) (H13.at_ 2 rfl)
   exact ca go46 rfl (ec rfl (ec s0 e0)) cc fun _ _ h_ => e2 h_
  refine xq rfl (kq (fun _ _ => mv (v := .bool (!(([rd_] : List Int).any (outO fi)))) rfl rfl e1) (zq ?_))
  rcases bE (!(([rd_] : List Int).any (outO fi))) with b1 | b1
  ·
   refine xq rfl (qy rfl rfl rfl b1 (kq (fun _ _ => mv rfl i0 e1) (zq (xq rfl (qy rfl rfl rfl b1 (kq (fun _ _ => nc rfl rfl e1) (zq (xq rfl (qy rfl rfl rfl b1 (kq (fun _ _ => fa fl57_0 rfl rfl e1) (zq (xq rfl (qy rfl rfl rfl b1 (kq (fun _ _ => fa fl32_2 rfl rfl e1) (zq (xq rfl (qy rfl rfl rfl b1 (kq (fun _ x_ => lr (H5.ext x_) 1 rfl ty30 rfl rfl rfl e1) (zq (xq rfl (qy rfl rfl rfl b1 (kq (fun _ _ => fa fl25_1 rfl rfl e1) (zq (xq rfl (qy rfl rfl rfl b1 (kq (fun _ x_ => lx (H5.ext x_) 0 rfl ty3 rfl rfl rfl e1) (zq (xq rfl (qy rfl rfl rfl b1 (q_ia (H5.rv 4 rfl) rfl rfl rfl rfl (by first | omega | (have h_ := op1_rng (fi := fi) (sb := rd_) (by assumption); omega) | (have h_ := op3_rng (fi := fi) (fr := rd_) (to := wa_) (sb := wb_) (by assumption); omega)) un30 ty3 ?_))))))))))))))))))))))))))))))
   intro ad0 x0 hx0 hA0
   refine zq (xq rfl (qy rfl rfl rfl b1 (q_ldI hA0.w ty3 rfl rfl ?_)))
   intro rv3
   refine zq (xq rfl (qy rfl rfl rfl b1 (kq (fun _ _ => eql rfl rfl rfl rfl e1) (zq (xq rfl (kq (fun _ _ => pickT rfl rfl rfl rfl b1 rfl e1) (zq (xq rfl (kq (fun _ _ => mv (v := .bool (decide (x0 = (-2)))) rfl rfl e1) (zq ?_))))))))))
   rcases bE (decide (x0 = (-2))) with b2 | b2
   ·
    have p2 := dT b2
    refine xq rfl (qy rfl rfl rfl b2 (kq (fun _ _ => mv rfl i0 e1) (zq (xq rfl (qy rfl rfl rfl b2 (kq (fun _ _ => nc rfl rfl e1) (zq (xq rfl (qy rfl rfl rfl b2 (kq (fun _ _ => fa fl57_1 rfl rfl e1) (zq (xq rfl (qy rfl rfl rfl b2 (kq (fun _ x_ => lr (H5.ext x_) 1 rfl ty23 rfl rfl rfl e1) (zq (xq rfl (qy rfl rfl rfl b2 (kq (fun _ _ => lnS rfl rfl un23 e1) (zq (xq rfl (qy rfl rfl rfl b2 (kq (fun _ _ => eql rfl rfl rfl rfl e1) (zq (xq rfl (kq (fun _ _ => pickT rfl rfl rfl rfl b2 rfl e1) (zq (xq rfl (kq (fun _ _ => asg (v := .bool (decide ((stp.length : Int) = 0))) rfl rfl e1) (zq (zx ?_))))))))))))))))))))))))))))))
    intro w4 f0 xt4 hk0 hu0
    have H14 := H5.ext xt4
    have s1 : f0 4 = .bool (decide ((stp.length : Int) = 0)) := hk0 4 rfl
    refine nx (rt (inb_ret (then_ret (r1 rfl rfl ?_))))
    rw [s1]
    exact ⟨congrArg Value.bool (by simp only [patO, hasI, keptO, hx0, b0, (nott b1), b2, BL]), H14.below⟩
   have p2 := dF b2
   refine xq rfl (qn rfl rfl rfl b2 (zq (xq rfl (qn rfl rfl rfl b2 (zq (xq rfl (qn rfl rfl rfl b2 (zq (xq rfl (qn rfl rfl rfl b2 (zq (xq rfl (qn rfl rfl rfl b2 (zq (xq rfl (qn rfl rfl rfl b2 (zq (xq rfl (kq (fun _ _ => pickF rfl rfl rfl rfl b2 rfl e1) (zq (xq rfl (kq (fun _ _ => asg (v := .bool false) rfl rfl e1) (zq (zx ?_))))))))))))))))))))))))
   intro w4 f0 xt4 hk0 hu0
   have H14 := H5.ext xt4
   have s1 : f0 4 = .bool false := hk0 4 rfl
   refine nx (rt (inb_ret (then_ret (r1 rfl rfl ?_))))
   rw [s1]
   exact ⟨congrArg Value.bool (by simp only [patO, hasI, keptO, hx0, b0, (nott b1), b2, BL]), H14.below⟩
  refine xq rfl (qn rfl rfl rfl b1 (zq (xq rfl (qn rfl rfl rfl b1 (zq (xq rfl (qn rfl rfl rfl b1 (zq (xq rfl (qn rfl rfl rfl b1 (zq (xq rfl (qn rfl rfl rfl b1 (zq (xq rfl (qn rfl rfl rfl b1 (zq (xq rfl (qn rfl rfl rfl b1 (zq (xq rfl (qn rfl rfl rfl b1 (zq (xq rfl (qn rfl rfl rfl b1 (zq (xq rfl (qn rfl rfl rfl b1 (zq (xq rfl (kq (fun _ _ => pickF rfl rfl rfl rfl b1 rfl e1) (zq (xq rfl (kq (fun _ _ => mv (v := .bool false) rfl rfl e1) (zq (xq rfl (qn rfl rfl rfl rfl (zq (xq rfl (qn rfl rfl rfl rfl (zq (xq rfl (qn rfl rfl rfl rfl (zq (xq rfl (qn rfl rfl rfl rfl (zq (xq rfl (qn rfl rfl rfl rfl (zq (xq rfl (qn rfl rfl rfl rfl (zq (xq rfl (kq (fun _ _ => pickF rfl rfl rfl rfl rfl rfl e1) (zq (xq rfl (kq (fun _ _ => asg (v := .bool false) rfl rfl e1) (zq (zx ?_))))))))))))))))))))))))))))))))))))))))))))))))))))))))))))
  intro w4 f0 xt4 hk0 hu0
  have H14 := H5.ext xt4
  have s1 : f0 4 = .bool false := hk0 4 rfl
  refine nx (rt (inb_ret (then_ret (r1 rfl rfl ?_))))
  rw [s1]
  exact ⟨congrArg Value.bool (by simp only [patO, hasI, keptO, b0, (notf b1), BL]), H14.below⟩
 have p0 := dF b0
 refine sq (rg (k (eql rfl rfl rfl rfl (k (asg (v := .bool (decide (kd = 2))) rfl rfl (z (nx ?_)))))))
 refine cd (b := decide (kd = 2)) rfl rfl (fun b1 => ?_) (fun b1 => ?_)
 ·
  have p1 := dT b1
  refine sq (rg (k (mv rfl i0 (k (fa fl25_4 rfl rfl (k (lx H5 0 rfl ty3 rfl rfl rfl (k (bs (xs := ([op_] : List Int)) (cells := #[iV op_]) (e := 3) H5 rfl (pbc rfl pb0) (fun _ => by kernel_rfl) ⟨[iV op_], [], rfl, ⟨rfl, h_op_⟩, rfl⟩ rfl (by decide) ?_)))))))))
  intro g0 w1 xt1 H6
  refine k ?_
  have H7 := H6.freeze 0 rfl
  have cc0 := aud_op (fi := fi) (l := ([op_] : List Int)) (w := w1) H7.mb (H7.rv 6 rfl) (H7.rv 0 rfl) (H7.at_ 2 rfl)
  refine ca go46 rfl (ec rfl (ec rfl e0)) cc0 ?_
  rintro _ w2 ⟨rfl, xt2⟩
  have H8 := H6.ext xt2
  refine k (mv (v := .bool (!(([op_] : List Int).any (outO fi)))) rfl rfl ?_)
  rcases bE (!(([op_] : List Int).any (outO fi))) with b2 | b2
  ·
   refine k (gy rfl rfl rfl b2 (mv rfl i0 (k (gy rfl rfl rfl b2 ?_))))
   have cc1 := aud_bare (pl := pl) (w := w2) H8.mb (H8.rv 3 rfl) (H8.at_ 2 rfl)
   refine ca go47 rfl (ec rfl e0) cc1 ?_
   rintro _ w3 ⟨rfl, xt3⟩
   have H9 := H8.ext xt3
   refine k (pickT rfl rfl rfl rfl b2 rfl (k (mv (v := .bool (!(pl.any (fun z_ => false == z_)))) rfl rfl ?_)))
   rcases bE (!(pl.any (fun z_ => false == z_))) with b3 | b3
   ·
    refine k (gy rfl rfl rfl b3 (mv rfl i0 (k (gy rfl rfl rfl b3 (fa fl25_6 rfl rfl (k (gy rfl rfl rfl b3 (lx H9 1 rfl ty3 rfl rfl rfl (k (gy rfl rfl rfl b3 (fa fl25_4 rfl rfl (k (gy rfl rfl rfl b3 (lx H9 1 rfl ty3 rfl rfl rfl (k (gy rfl rfl rfl b3 (fa fl25_4 rfl rfl (k (gy rfl rfl rfl b3 (lx H9 1 rfl ty3 rfl rfl rfl (k (gy rfl rfl rfl b3 ?_))))))))))))))))))))))
    have cc2 := aud_says (stp := stp) (n1 := fs_) (n2 := op_) (n3 := op_) (w := w3) H9.mb (H9.rv 4 rfl) h_fs_ h_op_ h_op_ (H9.at_ 2 rfl)
    refine ca go48 rfl (ec rfl (ec rfl (ec rfl (ec rfl e0)))) cc2 ?_
    rintro _ w4 ⟨rfl, xt4⟩
    have H10 := H9.ext xt4
    refine k (pickT rfl rfl rfl rfl b3 rfl (k (asg (v := .bool (saysO stp fs_ op_ op_)) rfl rfl (z (nx (rt (inb_ret (then_ret (r1 rfl rfl ?_)))))))))
    exact ⟨congrArg Value.bool (by simp only [patO, hasI, keptO, b0, b1, (nott b2), (nott b3), BL]), H10.below⟩
   refine k (gn rfl rfl rfl b3 (k (gn rfl rfl rfl b3 (k (gn rfl rfl rfl b3 (k (gn rfl rfl rfl b3 (k (gn rfl rfl rfl b3 (k (gn rfl rfl rfl b3 (k (gn rfl rfl rfl b3 (k (gn rfl rfl rfl b3 (k (pickF rfl rfl rfl rfl b3 rfl (k (asg (v := .bool false) rfl rfl (z (nx (rt (inb_ret (then_ret (r1 rfl rfl ?_)))))))))))))))))))))))))
   exact ⟨congrArg Value.bool (by simp only [patO, hasI, keptO, b0, b1, (nott b2), (notf b3), BL]), H9.below⟩
  refine k (gn rfl rfl rfl b2 (k (gn rfl rfl rfl b2 (k (pickF rfl rfl rfl rfl b2 rfl (k (mv (v := .bool false) rfl rfl (k (gn rfl rfl rfl rfl (k (gn rfl rfl rfl rfl (k (gn rfl rfl rfl rfl (k (gn rfl rfl rfl rfl (k (gn rfl rfl rfl rfl (k (gn rfl rfl rfl rfl (k (gn rfl rfl rfl rfl (k (gn rfl rfl rfl rfl (k (pickF rfl rfl rfl rfl rfl rfl (k (asg (v := .bool false) rfl rfl (z (nx (rt (inb_ret (then_ret (r1 rfl rfl ?_)))))))))))))))))))))))))))))))))
  exact ⟨congrArg Value.bool (by simp only [patO, hasI, keptO, b0, b1, (notf b2), BL]), H8.below⟩
 have p1 := dF b1
 refine sq (rg (k (eql rfl rfl rfl rfl (k (asg (v := .bool (decide (kd = 3))) rfl rfl (z (nx ?_)))))))
 refine cd (b := decide (kd = 3)) rfl rfl (fun b2 => ?_) (fun b2 => ?_)
 ·
  have p2 := dT b2
  refine sq (rg (k (mv rfl i0 (k (fa fl25_1 rfl rfl (k (lx H5 0 rfl ty3 rfl rfl rfl (k (fa fl25_2 rfl rfl (k (lx H5 0 rfl ty3 rfl rfl rfl (k ?_))))))))))))
  have cc0 := aud_early (fi := fi) (fo := fo) (n1 := rd_) (n2 := wa_) (w := w0) H5.mb (H5.rv 5 rfl) (H5.rv 4 rfl) h_rd_ h_wa_ (H5.at_ 1 rfl) (by exact hfo)
  refine ca go49 rfl (ec rfl (ec rfl (ec rfl e0))) cc0 ?_
  rintro _ w1 ⟨rfl, xt1⟩
  have H6 := H5.ext xt1
  refine k (mv (v := .bool (earlyO fi fo rd_ wa_)) rfl rfl ?_)
  rcases bE (earlyO fi fo rd_ wa_) with b3 | b3
  ·
   refine k (gy rfl rfl rfl b3 (mv rfl i0 (k (gy rfl rfl rfl b3 ?_))))
   have cc1 := aud_bare (pl := pl) (w := w1) H6.mb (H6.rv 2 rfl) (H6.at_ 1 rfl)
   refine ca go47 rfl (ec rfl e0) cc1 ?_
   rintro _ w2 ⟨rfl, xt2⟩
   have H7 := H6.ext xt2
   refine k (pickT rfl rfl rfl rfl b3 rfl (k (mv (v := .bool (!(pl.any (fun z_ => false == z_)))) rfl rfl ?_)))
   rcases bE (!(pl.any (fun z_ => false == z_))) with b4 | b4
   ·
    refine k (gy rfl rfl rfl b4 (mv rfl i0 (k (gy rfl rfl rfl b4 (fa fl25_6 rfl rfl (k (gy rfl rfl rfl b4 (lx H7 0 rfl ty3 rfl rfl rfl (k (gy rfl rfl rfl b4 (fa fl25_2 rfl rfl (k (gy rfl rfl rfl b4 (lx H7 0 rfl ty3 rfl rfl rfl (k (gy rfl rfl rfl b4 (fa fl25_1 rfl rfl (k (gy rfl rfl rfl b4 (lx H7 0 rfl ty3 rfl rfl rfl (k (gy rfl rfl rfl b4 ?_))))))))))))))))))))))
    have cc2 := aud_says (stp := stp) (n1 := fs_) (n2 := wa_) (n3 := rd_) (w := w2) H7.mb (H7.rv 3 rfl) h_fs_ h_wa_ h_rd_ (H7.at_ 1 rfl)
    refine ca go48 rfl (ec rfl (ec rfl (ec rfl (ec rfl e0)))) cc2 ?_
    rintro _ w3 ⟨rfl, xt3⟩
    have H8 := H7.ext xt3
    refine k (pickT rfl rfl rfl rfl b4 rfl (k (asg (v := .bool (saysO stp fs_ wa_ rd_)) rfl rfl (z (nx (rt (inb_ret (then_ret (r1 rfl rfl ?_)))))))))
    exact ⟨congrArg Value.bool (by simp only [patO, hasI, keptO, b0, b1, b2, b3, (nott b4), BL]), H8.below⟩
   refine k (gn rfl rfl rfl b4 (k (gn rfl rfl rfl b4 (k (gn rfl rfl rfl b4 (k (gn rfl rfl rfl b4 (k (gn rfl rfl rfl b4 (k (gn rfl rfl rfl b4 (k (gn rfl rfl rfl b4 (k (gn rfl rfl rfl b4 (k (pickF rfl rfl rfl rfl b4 rfl (k (asg (v := .bool false) rfl rfl (z (nx (rt (inb_ret (then_ret (r1 rfl rfl ?_)))))))))))))))))))))))))
   exact ⟨congrArg Value.bool (by simp only [patO, hasI, keptO, b0, b1, b2, b3, (notf b4), BL]), H7.below⟩
  refine k (gn rfl rfl rfl b3 (k (gn rfl rfl rfl b3 (k (pickF rfl rfl rfl rfl b3 rfl (k (mv (v := .bool false) rfl rfl (k (gn rfl rfl rfl rfl (k (gn rfl rfl rfl rfl (k (gn rfl rfl rfl rfl (k (gn rfl rfl rfl rfl (k (gn rfl rfl rfl rfl (k (gn rfl rfl rfl rfl (k (gn rfl rfl rfl rfl (k (gn rfl rfl rfl rfl (k (pickF rfl rfl rfl rfl rfl rfl (k (asg (v := .bool false) rfl rfl (z (nx (rt (inb_ret (then_ret (r1 rfl rfl ?_)))))))))))))))))))))))))))))))))
  exact ⟨congrArg Value.bool (by simp only [patO, hasI, keptO, b0, b1, b2, b3, BL]), H6.below⟩
 have p2 := dF b2
 refine sq (rg (k (eql rfl rfl rfl rfl (k (asg (v := .bool (decide (kd = 4))) rfl rfl (z (nx ?_)))))))
 refine cd (b := decide (kd = 4)) rfl rfl (fun b3 => ?_) (fun b3 => ?_)
 ·
  have p3 := dT b3
  refine sq ?_
  refine drX rfl (by kernel_rfl) ?_
  refine xq rfl (kq (fun _ _ => mv rfl i0 e1) (zq (xq rfl (kq (fun _ _ => fa fl25_1 rfl rfl e1) (zq (xq rfl (kq (fun _ x_ => lx (H5.ext x_) 0 rfl ty3 rfl rfl rfl e1) (zq (xq rfl (kq (fun _ _ => fa fl25_2 rfl rfl e1) (zq (xq rfl (kq (fun _ x_ => lx (H5.ext x_) 0 rfl ty3 rfl rfl rfl e1) (zq (xq rfl (kq (fun _ _ => fa fl25_3 rfl rfl e1) (zq (xq rfl (kq (fun _ x_ => lx (H5.ext x_) 0 rfl ty3 rfl rfl rfl e1) (zq ?_))))))))))))))))))))
  refine xu (fun v w' => ∃ (a0 : OA) (c0 : Nat), v = sL a0 ([rd_, wa_, wb_] : List Int) c0 ∧ RV (MS M [box bb0 #[iV kd, iV rd_, iV wa_, iV wb_, iV op_, .slice a_sl_ n_sl_ c_sl_, iV fs_, iV sn_] 25, ro b_a #[.slice a_fv n_fv c_fv, sL a_fi fi c_fi, sL a_fo fo c_fo, sL a_stp stp c_stp, sL a_pl pl c_pl] ty_a, iL a_pl pl c_pl, iL a_stp stp c_stp, iL a_fo fo c_fo, iL a_fi fi c_fi]) w' (sL a0 ([rd_, wa_, wb_] : List Int) c0) ([rd_, wa_, wb_] : List Int)) rfl (by rintro _ _ _ x_ ⟨a0, c0, e_, rv0⟩; exact ⟨a0, c0, e_, rv0.lift (Up.ext x_)⟩) rfl (fun v_ x_ => ?_) ?_
  ·
   have H8 := H5.ext x_
   refine bs (xs := ([rd_, wa_, wb_] : List Int)) (cells := #[iV rd_, iV wa_, iV wb_]) (e := 3) H8 rfl (pbc rfl (pbc rfl (pbc rfl pb0))) (fun _ => by kernel_rfl) ⟨[iV rd_], [iV wa_, iV wb_], rfl, ⟨rfl, h_rd_⟩, ⟨[iV wa_], [iV wb_], rfl, ⟨rfl, h_wa_⟩, ⟨[iV wb_], [], rfl, ⟨rfl, h_wb_⟩, rfl⟩⟩⟩ rfl (by decide) ?_
   intro g1 w2 xt2 (H9 : HI M w w2 [own w.heap.size 3 (.slice (some ⟨g1, 0, none⟩) 3 3) ([rd_, wa_, wb_] : List Int), box bb0 #[iV kd, iV rd_, iV wa_, iV wb_, iV op_, .slice a_sl_ n_sl_ c_sl_, iV fs_, iV sn_] 25, ro b_a #[.slice a_fv n_fv c_fv, sL a_fi fi c_fi, sL a_fo fo c_fo, sL a_stp stp c_stp, sL a_pl pl c_pl] ty_a, iL a_pl pl c_pl, iL a_stp stp c_stp, iL a_fo fo c_fo, iL a_fi fi c_fi])
   have H10 := H9.freeze 0 rfl
   exact ⟨_, rfl, xt2, ⟨(some ⟨g1, 0, none⟩), 3, rfl, (rv_drop rfl (H10.rv 0 rfl))⟩⟩
  refine xk1 (X := .bool (!(([rd_, wa_, wb_] : List Int).any (outO fi)))) 0 rfl rfl (fun v_ u_ x_ h_ => ?_) ?_
  ·
   have H12 := H5.ext x_
   obtain ⟨a2, c2, s0, rv2⟩ := h_
   have H13 := H12.put (it := iL a2 ([rd_, wa_, wb_] : List Int) c2) rfl rv2
   have cc := aud_op (fi := fi) (l := ([rd_, wa_, wb_] : List Int)) (w := v_) H13.mb (H13.rv 6 rfl) (H13.rv 0 rfl) (H13.at_ 2 rfl)
   exact ca go46 rfl (ec rfl (ec s0 e0)) cc fun _ _ h_ => e2 h_
  refine xq rfl (kq (fun _ _ => mv (v := .bool (!(([rd_, wa_, wb_] : List Int).any (outO fi)))) rfl rfl e1) (zq ?_))
  rcases bE (!(([rd_, wa_, wb_] : List Int).any (outO fi))) with b4 | b4
  ·
   refine xq rfl (qy rfl rfl rfl b4 (kq (fun _ _ => mv rfl i0 e1) (zq (xq rfl (qy rfl rfl rfl b4 (kq (fun _ _ => nc rfl rfl e1) (zq (xq rfl (qy rfl rfl rfl b4 (kq (fun _ _ => fa fl57_0 rfl rfl e1) (zq (xq rfl (qy rfl rfl rfl b4 (kq (fun _ _ => fa fl32_2 rfl rfl e1) (zq (xq rfl (qy rfl rfl rfl b4 (kq (fun _ x_ => lr (H5.ext x_) 1 rfl ty30 rfl rfl rfl e1) (zq (xq rfl (qy rfl rfl rfl b4 (kq (fun _ _ => fa fl25_1 rfl rfl e1) (zq (xq rfl (qy rfl rfl rfl b4 (kq (fun _ x_ => lx (H5.ext x_) 0 rfl ty3 rfl rfl rfl e1) (zq (xq rfl (qy rfl rfl rfl b4 (q_ia (H5.rv 4 rfl) rfl rfl rfl rfl (by first | omega | (have h_ := op1_rng (fi := fi) (sb := rd_) (by assumption); omega) | (have h_ := op3_rng (fi := fi) (fr := rd_) (to := wa_) (sb := wb_) (by assumption); omega)) un30 ty3 ?_))))))))))))))))))))))))))))))
   intro ad0 x0 hx0 hA0
   refine zq (xq rfl (qy rfl rfl rfl b4 (q_ldI hA0.w ty3 rfl rfl ?_)))
   intro rv3
   refine zq (xq rfl (qy rfl rfl rfl b4 (kq (fun _ _ => fa fl25_2 rfl rfl e1) (zq (xq rfl (qy rfl rfl rfl b4 (kq (fun _ x_ => lx (H5.ext x_) 0 rfl ty3 rfl rfl rfl e1) (zq (xq rfl (qy rfl rfl rfl b4 (kq (fun _ _ => eql rfl rfl rfl rfl e1) (zq (xq rfl (kq (fun _ _ => pickT rfl rfl rfl rfl b4 rfl e1) (zq (xq rfl (kq (fun _ _ => mv (v := .bool (decide (x0 = wa_))) rfl rfl e1) (zq ?_))))))))))))))))))
   rcases bE (decide (x0 = wa_)) with b5 | b5
   ·
    have p5 := dT b5
    refine xq rfl (qy rfl rfl rfl b5 (kq (fun _ _ => mv rfl i0 e1) (zq (xq rfl (qy rfl rfl rfl b5 (kq (fun _ _ => fa fl25_2 rfl rfl e1) (zq (xq rfl (qy rfl rfl rfl b5 (kq (fun _ x_ => lx (H5.ext x_) 0 rfl ty3 rfl rfl rfl e1) (zq (xq rfl (qy rfl rfl rfl b5 (kq (fun _ _ => fa fl25_3 rfl rfl e1) (zq (xq rfl (qy rfl rfl rfl b5 (kq (fun _ x_ => lx (H5.ext x_) 0 rfl ty3 rfl rfl rfl e1) (zq (xq rfl (qy rfl rfl rfl b5 ?_)))))))))))))))))))))
    refine kq (v := .bool (otherO fi wa_ wb_)) (fun v_ x_ => ?_) ?_
    ·
     have cc := aud_other (fi := fi) (n1 := wa_) (n2 := wb_) (w := v_) (H5.ext x_).mb ((H5.ext x_).rv 5 rfl) h_wa_ h_wb_ ((H5.ext x_).at_ 1 rfl) (by first | omega | (have h_ := op1_rng (fi := fi) (sb := rd_) (by assumption); omega) | (have h_ := op3_rng (fi := fi) (fr := rd_) (to := wa_) (sb := wb_) (by assumption); omega)) (by first | omega | (have h_ := op1_rng (fi := fi) (sb := rd_) (by assumption); omega) | (have h_ := op3_rng (fi := fi) (fr := rd_) (to := wa_) (sb := wb_) (by assumption); omega))
     exact ca go50 rfl (ec rfl (ec rfl (ec rfl e0))) cc fun _ _ h_ => e2 h_
    refine zq (xq rfl (kq (fun _ _ => pickT rfl rfl rfl rfl b5 rfl e1) (zq (xq rfl (kq (fun _ _ => mv (v := .bool (otherO fi wa_ wb_)) rfl rfl e1) (zq ?_))))))
    rcases bE (otherO fi wa_ wb_) with b6 | b6
    ·
     refine xq rfl (qy rfl rfl rfl b6 (kq (fun _ _ => mv rfl i0 e1) (zq (xq rfl (qy rfl rfl rfl b6 ?_)))))
     refine kq (v := .bool (!(pl.any (fun z_ => false == z_)))) (fun v_ x_ => ?_) ?_
     ·
      have cc := aud_bare (pl := pl) (w := v_) (H5.ext x_).mb ((H5.ext x_).rv 2 rfl) ((H5.ext x_).at_ 1 rfl)
      exact ca go47 rfl (ec rfl e0) cc fun _ _ h_ => e2 h_
     refine zq (xq rfl (kq (fun _ _ => pickT rfl rfl rfl rfl b6 rfl e1) (zq (xq rfl (kq (fun _ _ => mv (v := .bool (!(pl.any (fun z_ => false == z_)))) rfl rfl e1) (zq ?_))))))
     rcases bE (!(pl.any (fun z_ => false == z_))) with b7 | b7
     ·
      refine xq rfl (qy rfl rfl rfl b7 (kq (fun _ _ => mv rfl i0 e1) (zq (xq rfl (qy rfl rfl rfl b7 (kq (fun _ _ => fa fl25_6 rfl rfl e1) (zq (xq rfl (qy rfl rfl rfl b7 (kq (fun _ x_ => lx (H5.ext x_) 0 rfl ty3 rfl rfl rfl e1) (zq (xq rfl (qy rfl rfl rfl b7 (kq (fun _ _ => fa fl25_2 rfl rfl e1) (zq (xq rfl (qy rfl rfl rfl b7 (kq (fun _ x_ => lx (H5.ext x_) 0 rfl ty3 rfl rfl rfl e1) (zq (xq rfl (qy rfl rfl rfl b7 (kq (fun _ _ => fa fl25_3 rfl rfl e1) (zq (xq rfl (qy rfl rfl rfl b7 (kq (fun _ x_ => lx (H5.ext x_) 0 rfl ty3 rfl rfl rfl e1) (zq (xq rfl (qy rfl rfl rfl b7 ?_)))))))))))))))))))))))))))))
      refine kq (v := .bool (saysO stp fs_ wa_ wb_)) (fun v_ x_ => ?_) ?_
      ·
       have cc := aud_says (stp := stp) (n1 := fs_) (n2 := wa_) (n3 := wb_) (w := v_) (H5.ext x_).mb ((H5.ext x_).rv 3 rfl) h_fs_ h_wa_ h_wb_ ((H5.ext x_).at_ 1 rfl)
       exact ca go48 rfl (ec rfl (ec rfl (ec rfl (ec rfl e0)))) cc fun _ _ h_ => e2 h_
      refine zq (xq rfl (kq (fun _ _ => pickT rfl rfl rfl rfl b7 rfl e1) (zq (xq rfl (kq (fun _ _ => mv (v := .bool (saysO stp fs_ wa_ wb_)) rfl rfl e1) (zq ?_))))))
      rcases bE (saysO stp fs_ wa_ wb_) with b8 | b8
      ·
       refine xq rfl (qy rfl rfl rfl b8 (kq (fun _ _ => mv rfl i0 e1) (zq (xq rfl (qy rfl rfl rfl b8 (kq (fun _ _ => fa fl25_7 rfl rfl e1) (zq (xq rfl (qy rfl rfl rfl b8 (kq (fun _ x_ => lx (H5.ext x_) 0 rfl ty3 rfl rfl rfl e1) (zq (xq rfl (qy rfl rfl rfl b8 (kq (fun _ _ => fa fl25_3 rfl rfl e1) (zq (xq rfl (qy rfl rfl rfl b8 (kq (fun _ x_ => lx (H5.ext x_) 0 rfl ty3 rfl rfl rfl e1) (zq (xq rfl (qy rfl rfl rfl b8 (kq (fun _ _ => fa fl25_1 rfl rfl e1) (zq (xq rfl (qy rfl rfl rfl b8 (kq (fun _ x_ => lx (H5.ext x_) 0 rfl ty3 rfl rfl rfl e1) (zq (xq rfl (qy rfl rfl rfl b8 ?_)))))))))))))))))))))))))))))
       refine kq (v := .bool (saysO stp sn_ wb_ rd_)) (fun v_ x_ => ?_) ?_
       ·
        have cc := aud_says (stp := stp) (n1 := sn_) (n2 := wb_) (n3 := rd_) (w := v_) (H5.ext x_).mb ((H5.ext x_).rv 3 rfl) h_sn_ h_wb_ h_rd_ ((H5.ext x_).at_ 1 rfl)
        exact ca go48 rfl (ec rfl (ec rfl (ec rfl (ec rfl e0)))) cc fun _ _ h_ => e2 h_
       refine zq (xq rfl (kq (fun _ _ => pickT rfl rfl rfl rfl b8 rfl e1) (zq (xq rfl (kq (fun _ _ => asg (v := .bool (saysO stp sn_ wb_ rd_)) rfl rfl e1) (zq (zx ?_)))))))
       intro w4 f0 xt4 hk0 hu0
       have H14 := H5.ext xt4
       have s1 : f0 4 = .bool (saysO stp sn_ wb_ rd_) := hk0 4 rfl
       refine nx (rt (inb_ret (then_ret (r1 rfl rfl ?_))))
       rw [s1]
       exact ⟨congrArg Value.bool (by simp only [patO, hasI, keptO, hx0, b0, b1, b2, b3, (nott b4), b5, b6, (nott b7), b8, BL]), H14.below⟩
      refine xq rfl (qn rfl rfl rfl b8 (zq (xq rfl (qn rfl rfl rfl b8 (zq (xq rfl (qn rfl rfl rfl b8 (zq (xq rfl (qn rfl rfl rfl b8 (zq (xq rfl (qn rfl rfl rfl b8 (zq (xq rfl (qn rfl rfl rfl b8 (zq (xq rfl (qn rfl rfl rfl b8 (zq (xq rfl (qn rfl rfl rfl b8 (zq (xq rfl (kq (fun _ _ => pickF rfl rfl rfl rfl b8 rfl e1) (zq (xq rfl (kq (fun _ _ => asg (v := .bool false) rfl rfl e1) (zq (zx ?_))))))))))))))))))))))))))))))
      intro w4 f0 xt4 hk0 hu0
      have H14 := H5.ext xt4
      have s1 : f0 4 = .bool false := hk0 4 rfl
      refine nx (rt (inb_ret (then_ret (r1 rfl rfl ?_))))
      rw [s1]
      exact ⟨congrArg Value.bool (by simp only [patO, hasI, keptO, hx0, b0, b1, b2, b3, (nott b4), b5, b6, (nott b7), b8, BL]), H14.below⟩
     refine xq rfl (qn rfl rfl rfl b7 (zq (xq rfl (qn rfl rfl rfl b7 (zq (xq rfl (qn rfl rfl rfl b7 (zq (xq rfl (qn rfl rfl rfl b7 (zq (xq rfl (qn rfl rfl rfl b7 (zq (xq rfl (qn rfl rfl rfl b7 (zq (xq rfl (qn rfl rfl rfl b7 (zq (xq rfl (qn rfl rfl rfl b7 (zq (xq rfl (kq (fun _ _ => pickF rfl rfl rfl rfl b7 rfl e1) (zq (xq rfl (kq (fun _ _ => mv (v := .bool false) rfl rfl e1) (zq (xq rfl (qn rfl rfl rfl rfl (zq (xq rfl (qn rfl rfl rfl rfl (zq (xq rfl (qn rfl rfl rfl rfl (zq (xq rfl (qn rfl rfl rfl rfl (zq (xq rfl (qn rfl rfl rfl rfl (zq (xq rfl (qn rfl rfl rfl rfl (zq (xq rfl (qn rfl rfl rfl rfl (zq (xq rfl (qn rfl rfl rfl rfl (zq (xq rfl (kq (fun _ _ => pickF rfl rfl rfl rfl rfl rfl e1) (zq (xq rfl (kq (fun _ _ => asg (v := .bool false) rfl rfl e1) (zq (zx ?_))))))))))))))))))))))))))))))))))))))))))))))))))))))))))))
     intro w4 f0 xt4 hk0 hu0
     have H14 := H5.ext xt4
     have s1 : f0 4 = .bool false := hk0 4 rfl
     refine nx (rt (inb_ret (then_ret (r1 rfl rfl ?_))))
     rw [s1]
     exact ⟨congrArg Value.bool (by simp only [patO, hasI, keptO, hx0, b0, b1, b2, b3, (nott b4), b5, b6, (notf b7), BL]), H14.below⟩
    refine xq rfl (qn rfl rfl rfl b6 (zq (xq rfl (qn rfl rfl rfl b6 (zq (xq rfl (kq (fun _ _ => pickF rfl rfl rfl rfl b6 rfl e1) (zq (xq rfl (kq (fun _ _ => mv (v := .bool false) rfl rfl e1) (zq (xq rfl (qn rfl rfl rfl rfl (zq (xq rfl (qn rfl rfl rfl rfl (zq (xq rfl (qn rfl rfl rfl rfl (zq (xq rfl (qn rfl rfl rfl rfl (zq (xq rfl (qn rfl rfl rfl rfl (zq (xq rfl (qn rfl rfl rfl rfl (zq (xq rfl (qn rfl rfl rfl rfl (zq (xq rfl (qn rfl rfl rfl rfl (zq (xq rfl (kq (fun _ _ => pickF rfl rfl rfl rfl rfl rfl e1) (zq (xq rfl (kq (fun _ _ => mv (v := .bool false) rfl rfl e1) (zq (xq rfl (qn rfl rfl rfl rfl (zq (xq rfl (qn rfl rfl rfl rfl (zq (xq rfl (qn rfl rfl rfl rfl (zq (xq rfl (qn rfl rfl rfl rfl (zq (xq rfl (qn rfl rfl rfl rfl (zq (xq rfl (qn rfl rfl rfl rfl (zq (xq rfl (qn rfl rfl rfl rfl (zq (xq rfl (qn rfl rfl rfl rfl (zq (xq rfl (kq (fun _ _ => pickF rfl rfl rfl rfl rfl rfl e1) (zq (xq rfl (kq (fun _ _ => asg (v := .bool false) rfl rfl e1) (zq (zx ?_))))))))))))))))))))))))))))))))))))))))))))))))))))))))))))))))))))))))
    intro w4 f0 xt4 hk0 hu0
    have H14 := H5.ext xt4
    have s1 : f0 4 = .bool false := hk0 4 rfl
    refine nx (rt (inb_ret (then_ret (r1 rfl rfl ?_))))
    rw [s1]
    exact ⟨congrArg Value.bool (by simp only [patO, hasI, keptO, hx0, b0, b1, b2, b3, (nott b4), b5, b6, BL]), H14.below⟩
   have p5 := dF b5
   refine xq rfl (qn rfl rfl rfl b5 (zq (xq rfl (qn rfl rfl rfl b5 (zq (xq rfl (qn rfl rfl rfl b5 (zq (xq rfl (qn rfl rfl rfl b5 (zq (xq rfl (qn rfl rfl rfl b5 (zq (xq rfl (qn rfl rfl rfl b5 (zq (xq rfl (kq (fun _ _ => pickF rfl rfl rfl rfl b5 rfl e1) (zq (xq rfl (kq (fun _ _ => mv (v := .bool false) rfl rfl e1) (zq (xq rfl (qn rfl rfl rfl rfl (zq (xq rfl (qn rfl rfl rfl rfl (zq (xq rfl (kq (fun _ _ => pickF rfl rfl rfl rfl rfl rfl e1) (zq (xq rfl (kq (fun _ _ => mv (v := .bool false) rfl rfl e1) (zq (xq rfl (qn rfl rfl rfl rfl (zq (xq rfl (qn rfl rfl rfl rfl (zq (xq rfl (qn rfl rfl rfl rfl (zq (xq rfl (qn rfl rfl rfl rfl (zq (xq rfl (qn rfl rfl rfl rfl (zq (xq rfl (qn rfl rfl rfl rfl (zq (xq rfl (qn rfl rfl rfl rfl (zq (xq rfl (qn rfl rfl rfl rfl (zq (xq rfl (kq (fun _ _ => pickF rfl rfl rfl rfl rfl rfl e1) (zq (xq rfl (kq (fun _ _ => mv (v := .bool false) rfl rfl e1) (zq (xq rfl (qn rfl rfl rfl rfl (zq (xq rfl (qn rfl rfl rfl rfl (zq (xq rfl (qn rfl rfl rfl rfl (zq (xq rfl (qn rfl rfl rfl rfl (zq (xq rfl (qn rfl rfl rfl rfl (zq (xq rfl (qn rfl rfl rfl rfl (zq (xq rfl (qn rfl rfl rfl rfl (zq (xq rfl (qn rfl rfl rfl rfl (zq (xq rfl (kq (fun _ _ => pickF rfl rfl rfl rfl rfl rfl e1) (zq (xq rfl (kq (fun _ _ => asg (v := .bool false) rfl rfl e1) (zq (zx ?_))))))))))))))))))))))))))))))))))))))))))))))))))))))))))))))))))))))))))))))))))))))))))))))))
   intro w4 f0 xt4 hk0 hu0
   have H14 := H5.ext xt4
   have s1 : f0 4 = .bool false := hk0 4 rfl
   refine nx (rt (inb_ret (then_ret (r1 rfl rfl ?_))))
   rw [s1]
   exact ⟨congrArg Value.bool (by simp only [patO, hasI, keptO, hx0, b0, b1, b2, b3, (nott b4), b5, BL]), H14.below⟩
  refine xq rfl (qn rfl rfl rfl b4 (zq (xq rfl (qn rfl rfl rfl b4 (zq (xq rfl (qn rfl rfl rfl b4 (zq (xq rfl (qn rfl rfl rfl b4 (zq (xq rfl (qn rfl rfl rfl b4 (zq (xq rfl (qn rfl rfl rfl b4 (zq (xq rfl (qn rfl rfl rfl b4 (zq (xq rfl (qn rfl rfl rfl b4 (zq (xq rfl (qn rfl rfl rfl b4 (zq (xq rfl (qn rfl rfl rfl b4 (zq (xq rfl (qn rfl rfl rfl b4 (zq (xq rfl (qn rfl rfl rfl b4 (zq (xq rfl (kq (fun _ _ => pickF rfl rfl rfl rfl b4 rfl e1) (zq (xq rfl (kq (fun _ _ => mv (v := .bool false) rfl rfl e1) (zq (xq rfl (qn rfl rfl rfl rfl (zq (xq rfl (qn rfl rfl rfl rfl (zq (xq rfl (qn rfl rfl rfl rfl (zq (xq rfl (qn rfl rfl rfl rfl (zq (xq rfl (qn rfl rfl rfl rfl (zq (xq rfl (qn rfl rfl rfl rfl (zq (xq rfl (kq (fun _ _ => pickF rfl rfl rfl rfl rfl rfl e1) (zq (xq rfl (kq (fun _ _ => mv (v := .bool false) rfl rfl e1) (zq (xq rfl (qn rfl rfl rfl rfl (zq (xq rfl (qn rfl rfl rfl rfl (zq (xq rfl (kq (fun _ _ => pickF rfl rfl rfl rfl rfl rfl e1) (zq (xq rfl (kq (fun _ _ => mv (v := .bool false) rfl rfl e1) (zq (xq rfl (qn rfl rfl rfl rfl (zq (xq rfl (qn rfl rfl rfl rfl (zq (xq rfl (qn rfl rfl rfl rfl (zq (xq rfl (qn rfl rfl rfl rfl (zq (xq rfl (qn rfl rfl rfl rfl (zq (xq rfl (qn rfl rfl rfl rfl (zq (xq rfl (qn rfl rfl rfl rfl (zq (xq rfl (qn rfl rfl rfl rfl (zq (xq rfl (kq (fun _ _ => pickF rfl rfl rfl rfl rfl rfl e1) (zq (xq rfl (kq (fun _ _ => mv (v := .bool false) rfl rfl e1) (zq (xq rfl (qn rfl rfl rfl rfl (zq (xq rfl (qn rfl rfl rfl rfl (zq (xq rfl (qn rfl rfl rfl rfl (zq (xq rfl (qn rfl rfl rfl rfl (zq (xq rfl (qn rfl rfl rfl rfl (zq (xq rfl (qn rfl rfl rfl rfl (zq (xq rfl (qn rfl rfl rfl rfl (zq (xq rfl (qn rfl rfl rfl rfl (zq (xq rfl (kq (fun _ _ => pickF rfl rfl rfl rfl rfl rfl e1) (zq (xq rfl (kq (fun _ _ => asg (v := .bool false) rfl rfl e1) (zq (zx ?_))))))))))))))))))))))))))))))))))))))))))))))))))))))))))))))))))))))))))))))))))))))))))))))))))))))))))))))))))))))))))))))))))))))))))
  intro w4 f0 xt4 hk0 hu0
  have H14 := H5.ext xt4
  have s1 : f0 4 = .bool false := hk0 4 rfl
  refine nx (rt (inb_ret (then_ret (r1 rfl rfl ?_))))
  rw [s1]
  exact ⟨congrArg Value.bool (by simp only [patO, hasI, keptO, b0, b1, b2, b3, (notf b4), BL]), H14.below⟩
 have p3 := dF b3
 refine sq (rg (k (eql rfl rfl rfl rfl (k (asg (v := .bool (decide (kd = 5))) rfl rfl (z (nx ?_)))))))
 refine cd (b := decide (kd = 5)) rfl rfl (fun b4 => ?_) (fun b4 => ?_)
 ·
  have p4 := dT b4
  refine sq (rg (k (mv rfl i0 (k (fa fl25_4 rfl rfl (k (lx H5 0 rfl ty3 rfl rfl rfl (k (bs (xs := ([op_] : List Int)) (cells := #[iV op_]) (e := 3) H5 rfl (pbc rfl pb0) (fun _ => by kernel_rfl) ⟨[iV op_], [], rfl, ⟨rfl, h_op_⟩, rfl⟩ rfl (by decide) ?_)))))))))
  intro g0 w1 xt1 H6
  refine k ?_
  have H7 := H6.freeze 0 rfl
  have cc0 := aud_op (fi := fi) (l := ([op_] : List Int)) (w := w1) H7.mb (H7.rv 6 rfl) (H7.rv 0 rfl) (H7.at_ 2 rfl)
  refine ca go46 rfl (ec rfl (ec rfl e0)) cc0 ?_
  rintro _ w2 ⟨rfl, xt2⟩
  have H8 := H6.ext xt2
  refine k (mv (v := .bool (!(([op_] : List Int).any (outO fi)))) rfl rfl ?_)
  rcases bE (!(([op_] : List Int).any (outO fi))) with b5 | b5
  ·
   refine k (gy rfl rfl rfl b5 (mv rfl i0 (k (gy rfl rfl rfl b5 ?_))))
   have cc1 := aud_founded (stp := stp) (pl := pl) (w := w2) H8.mb (H8.rv 4 rfl) (H8.rv 3 rfl) (H8.at_ 2 rfl) (by exact hrule)
   refine ca go51 rfl (ec rfl e0) cc1 ?_
   rintro _ w3 ⟨rfl, xt3⟩
   have H9 := H8.ext xt3
   refine k (pickT rfl rfl rfl rfl b5 rfl (k (mv (v := .bool (!(stp.any (foundO pl)))) rfl rfl ?_)))
   rcases bE (!(stp.any (foundO pl))) with b6 | b6
   ·
    refine k (gy rfl rfl rfl b6 (mv rfl i0 (k (gy rfl rfl rfl b6 (fa fl25_6 rfl rfl (k (gy rfl rfl rfl b6 (lx H9 1 rfl ty3 rfl rfl rfl (k (gy rfl rfl rfl b6 (fa fl25_4 rfl rfl (k (gy rfl rfl rfl b6 (lx H9 1 rfl ty3 rfl rfl rfl (k (gy rfl rfl rfl b6 (fa fl25_4 rfl rfl (k (gy rfl rfl rfl b6 (lx H9 1 rfl ty3 rfl rfl rfl (k (gy rfl rfl rfl b6 ?_))))))))))))))))))))))
    have cc2 := aud_says (stp := stp) (n1 := fs_) (n2 := op_) (n3 := op_) (w := w3) H9.mb (H9.rv 4 rfl) h_fs_ h_op_ h_op_ (H9.at_ 2 rfl)
    refine ca go48 rfl (ec rfl (ec rfl (ec rfl (ec rfl e0)))) cc2 ?_
    rintro _ w4 ⟨rfl, xt4⟩
    have H10 := H9.ext xt4
    refine k (pickT rfl rfl rfl rfl b6 rfl (k (asg (v := .bool (saysO stp fs_ op_ op_)) rfl rfl (z (nx (rt (inb_ret (then_ret (r1 rfl rfl ?_)))))))))
    exact ⟨congrArg Value.bool (by simp only [patO, hasI, keptO, b0, b1, b2, b3, b4, (nott b5), (nott b6), BL]), H10.below⟩
   refine k (gn rfl rfl rfl b6 (k (gn rfl rfl rfl b6 (k (gn rfl rfl rfl b6 (k (gn rfl rfl rfl b6 (k (gn rfl rfl rfl b6 (k (gn rfl rfl rfl b6 (k (gn rfl rfl rfl b6 (k (gn rfl rfl rfl b6 (k (pickF rfl rfl rfl rfl b6 rfl (k (asg (v := .bool false) rfl rfl (z (nx (rt (inb_ret (then_ret (r1 rfl rfl ?_)))))))))))))))))))))))))
   exact ⟨congrArg Value.bool (by simp only [patO, hasI, keptO, b0, b1, b2, b3, b4, (nott b5), (notf b6), BL]), H9.below⟩
  refine k (gn rfl rfl rfl b5 (k (gn rfl rfl rfl b5 (k (pickF rfl rfl rfl rfl b5 rfl (k (mv (v := .bool false) rfl rfl (k (gn rfl rfl rfl rfl (k (gn rfl rfl rfl rfl (k (gn rfl rfl rfl rfl (k (gn rfl rfl rfl rfl (k (gn rfl rfl rfl rfl (k (gn rfl rfl rfl rfl (k (gn rfl rfl rfl rfl (k (gn rfl rfl rfl rfl (k (pickF rfl rfl rfl rfl rfl rfl (k (asg (v := .bool false) rfl rfl (z (nx (rt (inb_ret (then_ret (r1 rfl rfl ?_)))))))))))))))))))))))))))))))))
  exact ⟨congrArg Value.bool (by simp only [patO, hasI, keptO, b0, b1, b2, b3, b4, (notf b5), BL]), H8.below⟩
 have p4 := dF b4
 refine sq (rg (k (eql rfl rfl rfl rfl (k (asg (v := .bool (decide (kd = 6))) rfl rfl (z (nx ?_)))))))
 refine cd (b := decide (kd = 6)) rfl rfl (fun b5 => ?_) (fun b5 => ?_)
 ·
  have p5 := dT b5
  refine sq ?_
  refine drX rfl (by kernel_rfl) ?_
  refine xq rfl (kq (fun _ _ => mv rfl i0 e1) (zq (xq rfl (kq (fun _ _ => fa fl25_4 rfl rfl e1) (zq (xq rfl (kq (fun _ x_ => lx (H5.ext x_) 0 rfl ty3 rfl rfl rfl e1) (zq ?_))))))))
  refine xu (fun v w' => ∃ (a0 : OA) (c0 : Nat), v = sL a0 ([op_] : List Int) c0 ∧ RV (MS M [box bb0 #[iV kd, iV rd_, iV wa_, iV wb_, iV op_, .slice a_sl_ n_sl_ c_sl_, iV fs_, iV sn_] 25, ro b_a #[.slice a_fv n_fv c_fv, sL a_fi fi c_fi, sL a_fo fo c_fo, sL a_stp stp c_stp, sL a_pl pl c_pl] ty_a, iL a_pl pl c_pl, iL a_stp stp c_stp, iL a_fo fo c_fo, iL a_fi fi c_fi]) w' (sL a0 ([op_] : List Int) c0) ([op_] : List Int)) rfl (by rintro _ _ _ x_ ⟨a0, c0, e_, rv0⟩; exact ⟨a0, c0, e_, rv0.lift (Up.ext x_)⟩) rfl (fun v_ x_ => ?_) ?_
  ·
   have H8 := H5.ext x_
   refine bs (xs := ([op_] : List Int)) (cells := #[iV op_]) (e := 3) H8 rfl (pbc rfl pb0) (fun _ => by kernel_rfl) ⟨[iV op_], [], rfl, ⟨rfl, h_op_⟩, rfl⟩ rfl (by decide) ?_
   intro g1 w2 xt2 (H9 : HI M w w2 [own w.heap.size 3 (.slice (some ⟨g1, 0, none⟩) 1 1) ([op_] : List Int), box bb0 #[iV kd, iV rd_, iV wa_, iV wb_, iV op_, .slice a_sl_ n_sl_ c_sl_, iV fs_, iV sn_] 25, ro b_a #[.slice a_fv n_fv c_fv, sL a_fi fi c_fi, sL a_fo fo c_fo, sL a_stp stp c_stp, sL a_pl pl c_pl] ty_a, iL a_pl pl c_pl, iL a_stp stp c_stp, iL a_fo fo c_fo, iL a_fi fi c_fi])
   have H10 := H9.freeze 0 rfl
   exact ⟨_, rfl, xt2, ⟨(some ⟨g1, 0, none⟩), 1, rfl, (rv_drop rfl (H10.rv 0 rfl))⟩⟩
  refine xk1 (X := .bool (!(([op_] : List Int).any (outO fi)))) 0 rfl rfl (fun v_ u_ x_ h_ => ?_) ?_
  ·
   have H12 := H5.ext x_
   obtain ⟨a2, c2, s0, rv2⟩ := h_
   have H13 := H12.put (it := iL a2 ([op_] : List Int) c2) rfl rv2
   have cc := aud_op (fi := fi) (l := ([op_] : List Int)) (w := v_) H13.mb (H13.rv 6 rfl) (H13.rv 0 rfl) (H13.at_ 2 rfl)
   exact ca go46 rfl (ec rfl (ec s0 e0)) cc fun _ _ h_ => e2 h_
  refine xq rfl (kq (fun _ _ => mv (v := .bool (!(([op_] : List Int).any (outO fi)))) rfl rfl e1) (zq ?_))
  rcases bE (!(([op_] : List Int).any (outO fi))) with b6 | b6
  ·
   refine xq rfl (qy rfl rfl rfl b6 (kq (fun _ _ => mv rfl i0 e1) (zq (xq rfl (qy rfl rfl rfl b6 (kq (fun _ _ => fa fl25_1 rfl rfl e1) (zq (xq rfl (qy rfl rfl rfl b6 (kq (fun _ x_ => lx (H5.ext x_) 0 rfl ty3 rfl rfl rfl e1) (zq (xq rfl (qy rfl rfl rfl b6 (kq (fun _ _ => fa fl25_2 rfl rfl e1) (zq (xq rfl (qy rfl rfl rfl b6 (kq (fun _ x_ => lx (H5.ext x_) 0 rfl ty3 rfl rfl rfl e1) (zq (xq rfl (qy rfl rfl rfl b6 ?_)))))))))))))))))))))
   refine kq (v := .bool (earlyO fi fo rd_ wa_)) (fun v_ x_ => ?_) ?_
   ·
    have cc := aud_early (fi := fi) (fo := fo) (n1 := rd_) (n2 := wa_) (w := v_) (H5.ext x_).mb ((H5.ext x_).rv 5 rfl) ((H5.ext x_).rv 4 rfl) h_rd_ h_wa_ ((H5.ext x_).at_ 1 rfl) (by exact hfo)
    exact ca go49 rfl (ec rfl (ec rfl (ec rfl e0))) cc fun _ _ h_ => e2 h_
   refine zq (xq rfl (kq (fun _ _ => pickT rfl rfl rfl rfl b6 rfl e1) (zq (xq rfl (kq (fun _ _ => mv (v := .bool (earlyO fi fo rd_ wa_)) rfl rfl e1) (zq ?_))))))
   rcases bE (earlyO fi fo rd_ wa_) with b7 | b7
   ·
    refine xq rfl (qy rfl rfl rfl b7 (kq (fun _ _ => mv rfl i0 e1) (zq (xq rfl (qy rfl rfl rfl b7 (kq (fun _ _ => nc rfl rfl e1) (zq (xq rfl (qy rfl rfl rfl b7 (kq (fun _ _ => fa fl57_0 rfl rfl e1) (zq (xq rfl (qy rfl rfl rfl b7 (kq (fun _ x_ => ldR (H5.ext x_) 1 rfl ty32 rfl rfl (by decide) rfl e1) (zq (xq rfl (qy rfl rfl rfl b7 (kq (fun _ _ => fa fl25_4 rfl rfl e1) (zq (xq rfl (qy rfl rfl rfl b7 (kq (fun _ x_ => lx (H5.ext x_) 0 rfl ty3 rfl rfl rfl e1) (zq ?_)))))))))))))))))))))))
    refine xu (fun v w' => ∃ (a3 : OA) (c3 : Nat), v = sL a3 (keepL (wrQ fi) (pastA fi op_)) c3 ∧ RV (MS M [box bb0 #[iV kd, iV rd_, iV wa_, iV wb_, iV op_, .slice a_sl_ n_sl_ c_sl_, iV fs_, iV sn_] 25, ro b_a #[.slice a_fv n_fv c_fv, sL a_fi fi c_fi, sL a_fo fo c_fo, sL a_stp stp c_stp, sL a_pl pl c_pl] ty_a, iL a_pl pl c_pl, iL a_stp stp c_stp, iL a_fo fo c_fo, iL a_fi fi c_fi]) w' (sL a3 (keepL (wrQ fi) (pastA fi op_)) c3) (keepL (wrQ fi) (pastA fi op_))) rfl (by rintro _ _ _ x_ ⟨a3, c3, e_, rv4⟩; exact ⟨a3, c3, e_, rv4.lift (Up.ext x_)⟩) rfl (fun v_ x_ => ?_) ?_
    ·
     have H16 := H5.ext x_
     refine gy rfl rfl rfl b7 ?_
     have cc2 := past_Kept (fi := fi) (o := op_) (a_fv := a_fv) (n_fv := n_fv) (c_fv := c_fv) (a_fo := a_fo) (n_fo := fo.length) (c_fo := c_fo) (w := v_) H16.mb (H16.rv 5 rfl) h_op_ (by exact ho) (by first | exact hn_fi | omega)
     refine ca go52 rfl (ec rfl (ec rfl e0)) cc2 ?_
     rintro _ w5 ⟨a4, c4, rfl, xt5, rv5⟩
     have rv6 := OwnsG.rv rv5 H16.mb
     exact ⟨_, rfl, xt5, ⟨a4, c4, rfl, rv6⟩⟩
    refine xq rfl (qy rfl rfl rfl b7 (kq (fun _ _ => fa fl25_1 rfl rfl e1) (zq (xq rfl (qy rfl rfl rfl b7 (kq (fun _ x_ => lx (H5.ext x_) 0 rfl ty3 rfl rfl rfl e1) (zq ?_)))))))
    refine xk1 (X := .bool ((keepL (wrQ fi) (pastA fi op_)).any (fun (z_ : Int) => decide (rd_ = z_)))) 0 rfl rfl (fun v_ u_ x_ h_ => ?_) ?_
    ·
     have H20 := H5.ext x_
     obtain ⟨a6, c6, s1, rv8⟩ := h_
     have H21 := H20.put (it := iL a6 (keepL (wrQ fi) (pastA fi op_)) c6) rfl rv8
     refine gy rfl rfl rfl b7 ?_
     have cc := contains_int (l0_ := (keepL (wrQ fi) (pastA fi op_))) (v0_ := rd_) (w := v_) H21.mb (H21.rv 0 rfl) h_rd_
     exact ca go19 rfl (ec s1 (ec rfl e0)) cc fun _ _ h_ => e2 h_
    refine xq rfl (kq (fun _ _ => pickT rfl rfl rfl rfl b7 rfl e1) (zq (xq rfl (kq (fun _ _ => mv (v := .bool ((keepL (wrQ fi) (pastA fi op_)).any (fun (z_ : Int) => decide (rd_ = z_)))) rfl rfl e1) (zq ?_)))))
    rcases bE ((keepL (wrQ fi) (pastA fi op_)).any (fun (z_ : Int) => decide (rd_ = z_))) with b8 | b8
    ·
     refine xq rfl (qy rfl rfl rfl b8 (kq (fun _ _ => mv rfl i0 e1) (zq (xq rfl (qy rfl rfl rfl b8 (kq (fun _ _ => fa fl25_4 rfl rfl e1) (zq (xq rfl (qy rfl rfl rfl b8 (kq (fun _ x_ => lx (H5.ext x_) 0 rfl ty3 rfl rfl rfl e1) (zq (xq rfl (qy rfl rfl rfl b8 ?_)))))))))))))
     refine kq (v := .bool (wthO fi fo stp op_)) (fun v_ x_ => ?_) ?_
     ·
      have cc := aud_within (fi := fi) (fo := fo) (stp := stp) (op_ := op_) (w := v_) (H5.ext x_).mb (hT.ext (H5.ext x_).below) ((H5.ext x_).rv 5 rfl) ((H5.ext x_).rv 4 rfl) ((H5.ext x_).rv 3 rfl) h_op_ ((H5.ext x_).at_ 1 rfl) (by exact ho) (by first | exact hn_fi | omega) (by exact hfo) (by exact hfr)
      exact ca go53 rfl (ec rfl (ec rfl e0)) cc fun _ _ h_ => e2 h_
     refine zq (xq rfl (kq (fun _ _ => pickT rfl rfl rfl rfl b8 rfl e1) (zq (xq rfl (kq (fun _ _ => mv (v := .bool (wthO fi fo stp op_)) rfl rfl e1) (zq ?_))))))
     rcases bE (wthO fi fo stp op_) with b9 | b9
     ·
      refine xq rfl (qy rfl rfl rfl b9 (kq (fun _ _ => mv rfl i0 e1) (zq (xq rfl (qy rfl rfl rfl b9 (kq (fun _ _ => fa fl25_6 rfl rfl e1) (zq (xq rfl (qy rfl rfl rfl b9 (kq (fun _ x_ => lx (H5.ext x_) 0 rfl ty3 rfl rfl rfl e1) (zq (xq rfl (qy rfl rfl rfl b9 (kq (fun _ _ => fa fl25_2 rfl rfl e1) (zq (xq rfl (qy rfl rfl rfl b9 (kq (fun _ x_ => lx (H5.ext x_) 0 rfl ty3 rfl rfl rfl e1) (zq (xq rfl (qy rfl rfl rfl b9 (kq (fun _ _ => fa fl25_1 rfl rfl e1) (zq (xq rfl (qy rfl rfl rfl b9 (kq (fun _ x_ => lx (H5.ext x_) 0 rfl ty3 rfl rfl rfl e1) (zq (xq rfl (qy rfl rfl rfl b9 ?_)))))))))))))))))))))))))))))
      refine kq (v := .bool (saysO stp fs_ wa_ rd_)) (fun v_ x_ => ?_) ?_
      ·
       have cc := aud_says (stp := stp) (n1 := fs_) (n2 := wa_) (n3 := rd_) (w := v_) (H5.ext x_).mb ((H5.ext x_).rv 3 rfl) h_fs_ h_wa_ h_rd_ ((H5.ext x_).at_ 1 rfl)
       exact ca go48 rfl (ec rfl (ec rfl (ec rfl (ec rfl e0)))) cc fun _ _ h_ => e2 h_
      refine zq (xq rfl (kq (fun _ _ => pickT rfl rfl rfl rfl b9 rfl e1) (zq (xq rfl (kq (fun _ _ => asg (v := .bool (saysO stp fs_ wa_ rd_)) rfl rfl e1) (zq (zx ?_)))))))
      intro w7 f0 xt7 hk0 hu0
      have H22 := H5.ext xt7
      have s2 : f0 4 = .bool (saysO stp fs_ wa_ rd_) := hk0 4 rfl
      refine nx (rt (inb_ret (then_ret (r1 rfl rfl ?_))))
      rw [s2]
      exact ⟨congrArg Value.bool (by simp only [patO, hasI, keptO, b0, b1, b2, b3, b4, b5, (nott b6), b7, b8, b9, BL]), H22.below⟩
     refine xq rfl (qn rfl rfl rfl b9 (zq (xq rfl (qn rfl rfl rfl b9 (zq (xq rfl (qn rfl rfl rfl b9 (zq (xq rfl (qn rfl rfl rfl b9 (zq (xq rfl (qn rfl rfl rfl b9 (zq (xq rfl (qn rfl rfl rfl b9 (zq (xq rfl (qn rfl rfl rfl b9 (zq (xq rfl (qn rfl rfl rfl b9 (zq (xq rfl (kq (fun _ _ => pickF rfl rfl rfl rfl b9 rfl e1) (zq (xq rfl (kq (fun _ _ => asg (v := .bool false) rfl rfl e1) (zq (zx ?_))))))))))))))))))))))))))))))
     intro w7 f0 xt7 hk0 hu0
     have H22 := H5.ext xt7
     have s2 : f0 4 = .bool false := hk0 4 rfl
     refine nx (rt (inb_ret (then_ret (r1 rfl rfl ?_))))
     rw [s2]
     exact ⟨congrArg Value.bool (by simp only [patO, hasI, keptO, b0, b1, b2, b3, b4, b5, (nott b6), b7, b8, b9, BL]), H22.below⟩
    refine xq rfl (qn rfl rfl rfl b8 (zq (xq rfl (qn rfl rfl rfl b8 (zq (xq rfl (qn rfl rfl rfl b8 (zq (xq rfl (qn rfl rfl rfl b8 (zq (xq rfl (kq (fun _ _ => pickF rfl rfl rfl rfl b8 rfl e1) (zq (xq rfl (kq (fun _ _ => mv (v := .bool false) rfl rfl e1) (zq (xq rfl (qn rfl rfl rfl rfl (zq (xq rfl (qn rfl rfl rfl rfl (zq (xq rfl (qn rfl rfl rfl rfl (zq (xq rfl (qn rfl rfl rfl rfl (zq (xq rfl (qn rfl rfl rfl rfl (zq (xq rfl (qn rfl rfl rfl rfl (zq (xq rfl (qn rfl rfl rfl rfl (zq (xq rfl (qn rfl rfl rfl rfl (zq (xq rfl (kq (fun _ _ => pickF rfl rfl rfl rfl rfl rfl e1) (zq (xq rfl (kq (fun _ _ => asg (v := .bool false) rfl rfl e1) (zq (zx ?_))))))))))))))))))))))))))))))))))))))))))))))))
    intro w7 f0 xt7 hk0 hu0
    have H22 := H5.ext xt7
    have s2 : f0 4 = .bool false := hk0 4 rfl
    refine nx (rt (inb_ret (then_ret (r1 rfl rfl ?_))))
    rw [s2]
    exact ⟨congrArg Value.bool (by simp only [patO, hasI, keptO, b0, b1, b2, b3, b4, b5, (nott b6), b7, b8, BL]), H22.below⟩
   refine xq rfl (qn rfl rfl rfl b7 (zq (xq rfl (qn rfl rfl rfl b7 (zq (xq rfl (qn rfl rfl rfl b7 (zq (xq rfl (qn rfl rfl rfl b7 (zq (xq rfl (qn rfl rfl rfl b7 (zq (xq rfl (qn rfl rfl rfl b7 (zq (xq rfl (qn rfl rfl rfl b7 (zq (xq rfl (qn rfl rfl rfl b7 (zq (xq rfl (qn rfl rfl rfl b7 (zq (xq rfl (qn rfl rfl rfl b7 (zq (xq rfl (kq (fun _ _ => pickF rfl rfl rfl rfl b7 rfl e1) (zq (xq rfl (kq (fun _ _ => mv (v := .bool false) rfl rfl e1) (zq (xq rfl (qn rfl rfl rfl rfl (zq (xq rfl (qn rfl rfl rfl rfl (zq (xq rfl (qn rfl rfl rfl rfl (zq (xq rfl (qn rfl rfl rfl rfl (zq (xq rfl (kq (fun _ _ => pickF rfl rfl rfl rfl rfl rfl e1) (zq (xq rfl (kq (fun _ _ => mv (v := .bool false) rfl rfl e1) (zq (xq rfl (qn rfl rfl rfl rfl (zq (xq rfl (qn rfl rfl rfl rfl (zq (xq rfl (qn rfl rfl rfl rfl (zq (xq rfl (qn rfl rfl rfl rfl (zq (xq rfl (qn rfl rfl rfl rfl (zq (xq rfl (qn rfl rfl rfl rfl (zq (xq rfl (qn rfl rfl rfl rfl (zq (xq rfl (qn rfl rfl rfl rfl (zq (xq rfl (kq (fun _ _ => pickF rfl rfl rfl rfl rfl rfl e1) (zq (xq rfl (kq (fun _ _ => asg (v := .bool false) rfl rfl e1) (zq (zx ?_))))))))))))))))))))))))))))))))))))))))))))))))))))))))))))))))))))))))))))))))))))
   intro w4 f0 xt4 hk0 hu0
   have H14 := H5.ext xt4
   have s1 : f0 4 = .bool false := hk0 4 rfl
   refine nx (rt (inb_ret (then_ret (r1 rfl rfl ?_))))
   rw [s1]
   exact ⟨congrArg Value.bool (by simp only [patO, hasI, keptO, b0, b1, b2, b3, b4, b5, (nott b6), b7, BL]), H14.below⟩
  refine xq rfl (qn rfl rfl rfl b6 (zq (xq rfl (qn rfl rfl rfl b6 (zq (xq rfl (qn rfl rfl rfl b6 (zq (xq rfl (qn rfl rfl rfl b6 (zq (xq rfl (qn rfl rfl rfl b6 (zq (xq rfl (qn rfl rfl rfl b6 (zq (xq rfl (kq (fun _ _ => pickF rfl rfl rfl rfl b6 rfl e1) (zq (xq rfl (kq (fun _ _ => mv (v := .bool false) rfl rfl e1) (zq (xq rfl (qn rfl rfl rfl rfl (zq (xq rfl (qn rfl rfl rfl rfl (zq (xq rfl (qn rfl rfl rfl rfl (zq (xq rfl (qn rfl rfl rfl rfl (zq (xq rfl (qn rfl rfl rfl rfl (zq (xq rfl (qn rfl rfl rfl rfl (zq (xq rfl (qn rfl rfl rfl rfl (zq (xq rfl (qn rfl rfl rfl rfl (zq (xq rfl (qn rfl rfl rfl rfl (zq (xq rfl (qn rfl rfl rfl rfl (zq (xq rfl (kq (fun _ _ => pickF rfl rfl rfl rfl rfl rfl e1) (zq (xq rfl (kq (fun _ _ => mv (v := .bool false) rfl rfl e1) (zq (xq rfl (qn rfl rfl rfl rfl (zq (xq rfl (qn rfl rfl rfl rfl (zq (xq rfl (qn rfl rfl rfl rfl (zq (xq rfl (qn rfl rfl rfl rfl (zq (xq rfl (kq (fun _ _ => pickF rfl rfl rfl rfl rfl rfl e1) (zq (xq rfl (kq (fun _ _ => mv (v := .bool false) rfl rfl e1) (zq (xq rfl (qn rfl rfl rfl rfl (zq (xq rfl (qn rfl rfl rfl rfl (zq (xq rfl (qn rfl rfl rfl rfl (zq (xq rfl (qn rfl rfl rfl rfl (zq (xq rfl (qn rfl rfl rfl rfl (zq (xq rfl (qn rfl rfl rfl rfl (zq (xq rfl (qn rfl rfl rfl rfl (zq (xq rfl (qn rfl rfl rfl rfl (zq (xq rfl (kq (fun _ _ => pickF rfl rfl rfl rfl rfl rfl e1) (zq (xq rfl (kq (fun _ _ => asg (v := .bool false) rfl rfl e1) (zq (zx ?_))))))))))))))))))))))))))))))))))))))))))))))))))))))))))))))))))))))))))))))))))))))))))))))))))))))))))))
  intro w4 f0 xt4 hk0 hu0
  have H14 := H5.ext xt4
  have s1 : f0 4 = .bool false := hk0 4 rfl
  refine nx (rt (inb_ret (then_ret (r1 rfl rfl ?_))))
  rw [s1]
  exact ⟨congrArg Value.bool (by simp only [patO, hasI, keptO, b0, b1, b2, b3, b4, b5, (notf b6), BL]), H14.below⟩
 have p5 := dF b5
 refine sq (rg (k (eql rfl rfl rfl rfl (k (asg (v := .bool (decide (kd = 7))) rfl rfl (z (nx ?_)))))))
 refine cd (b := decide (kd = 7)) rfl rfl (fun b6 => ?_) (fun b6 => ?_)
 ·
  have p6 := dT b6
  refine sq (rg (k (mv rfl i0 (k (fa fl25_4 rfl rfl (k (lx H5 0 rfl ty3 rfl rfl rfl (k (fa fl25_2 rfl rfl (k (lx H5 0 rfl ty3 rfl rfl rfl (k (bs (xs := ([op_, wa_] : List Int)) (cells := #[iV op_, iV wa_]) (e := 3) H5 rfl (pbc rfl (pbc rfl pb0)) (fun _ => by kernel_rfl) ⟨[iV op_], [iV wa_], rfl, ⟨rfl, h_op_⟩, ⟨[iV wa_], [], rfl, ⟨rfl, h_wa_⟩, rfl⟩⟩ rfl (by decide) ?_)))))))))))))
  intro g0 w1 xt1 H6
  refine k ?_
  have H7 := H6.freeze 0 rfl
  have cc0 := aud_op (fi := fi) (l := ([op_, wa_] : List Int)) (w := w1) H7.mb (H7.rv 6 rfl) (H7.rv 0 rfl) (H7.at_ 2 rfl)
  refine ca go46 rfl (ec rfl (ec rfl e0)) cc0 ?_
  rintro _ w2 ⟨rfl, xt2⟩
  have H8 := H6.ext xt2
  refine k (mv (v := .bool (!(([op_, wa_] : List Int).any (outO fi)))) rfl rfl ?_)
  rcases bE (!(([op_, wa_] : List Int).any (outO fi))) with b7 | b7
  ·
   refine k (gy rfl rfl rfl b7 (mv rfl i0 (k (gy rfl rfl rfl b7 (fa fl25_4 rfl rfl (k (gy rfl rfl rfl b7 (lx H8 1 rfl ty3 rfl rfl rfl (k (gy rfl rfl rfl b7 ?_))))))))))
   have cc1 := aud_within (fi := fi) (fo := fo) (stp := stp) (op_ := op_) (w := w2) H8.mb (hT.ext H8.below) (H8.rv 6 rfl) (H8.rv 5 rfl) (H8.rv 4 rfl) h_op_ (H8.at_ 2 rfl) (by exact ho) (by first | exact hn_fi | omega) (by exact hfo) (by exact hfr)
   refine ca go53 rfl (ec rfl (ec rfl e0)) cc1 ?_
   rintro _ w3 ⟨rfl, xt3⟩
   have H9 := H8.ext xt3
   refine k (pickT rfl rfl rfl rfl b7 rfl (k (mv (v := .bool (wthO fi fo stp op_)) rfl rfl ?_)))
   rcases bE (wthO fi fo stp op_) with b8 | b8
   ·
    refine k (gy rfl rfl rfl b8 (mv rfl i0 (k (gy rfl rfl rfl b8 (fa fl25_6 rfl rfl (k (gy rfl rfl rfl b8 (lx H9 1 rfl ty3 rfl rfl rfl (k (gy rfl rfl rfl b8 (fa fl25_2 rfl rfl (k (gy rfl rfl rfl b8 (lx H9 1 rfl ty3 rfl rfl rfl (k (gy rfl rfl rfl b8 (fa fl25_2 rfl rfl (k (gy rfl rfl rfl b8 (lx H9 1 rfl ty3 rfl rfl rfl (k (gy rfl rfl rfl b8 ?_))))))))))))))))))))))
    have cc2 := aud_says (stp := stp) (n1 := fs_) (n2 := wa_) (n3 := wa_) (w := w3) H9.mb (H9.rv 4 rfl) h_fs_ h_wa_ h_wa_ (H9.at_ 2 rfl)
    refine ca go48 rfl (ec rfl (ec rfl (ec rfl (ec rfl e0)))) cc2 ?_
    rintro _ w4 ⟨rfl, xt4⟩
    have H10 := H9.ext xt4
    refine k (pickT rfl rfl rfl rfl b8 rfl (k (asg (v := .bool (saysO stp fs_ wa_ wa_)) rfl rfl (z (nx (rt (inb_ret (then_ret (r1 rfl rfl ?_)))))))))
    exact ⟨congrArg Value.bool (by simp only [patO, hasI, keptO, b0, b1, b2, b3, b4, b5, b6, (nott b7), b8, BL]), H10.below⟩
   refine k (gn rfl rfl rfl b8 (k (gn rfl rfl rfl b8 (k (gn rfl rfl rfl b8 (k (gn rfl rfl rfl b8 (k (gn rfl rfl rfl b8 (k (gn rfl rfl rfl b8 (k (gn rfl rfl rfl b8 (k (gn rfl rfl rfl b8 (k (pickF rfl rfl rfl rfl b8 rfl (k (asg (v := .bool false) rfl rfl (z (nx (rt (inb_ret (then_ret (r1 rfl rfl ?_)))))))))))))))))))))))))
   exact ⟨congrArg Value.bool (by simp only [patO, hasI, keptO, b0, b1, b2, b3, b4, b5, b6, (nott b7), b8, BL]), H9.below⟩
  refine k (gn rfl rfl rfl b7 (k (gn rfl rfl rfl b7 (k (gn rfl rfl rfl b7 (k (gn rfl rfl rfl b7 (k (pickF rfl rfl rfl rfl b7 rfl (k (mv (v := .bool false) rfl rfl (k (gn rfl rfl rfl rfl (k (gn rfl rfl rfl rfl (k (gn rfl rfl rfl rfl (k (gn rfl rfl rfl rfl (k (gn rfl rfl rfl rfl (k (gn rfl rfl rfl rfl (k (gn rfl rfl rfl rfl (k (gn rfl rfl rfl rfl (k (pickF rfl rfl rfl rfl rfl rfl (k (asg (v := .bool false) rfl rfl (z (nx (rt (inb_ret (then_ret (r1 rfl rfl ?_)))))))))))))))))))))))))))))))))))))
  exact ⟨congrArg Value.bool (by simp only [patO, hasI, keptO, b0, b1, b2, b3, b4, b5, b6, (notf b7), BL]), H8.below⟩
 have p6 := dF b6
 refine sk (inb_normal (nx (sq (rg (k (asg (v := .bool false) rfl rfl (z (nx (rt (r1 rfl rfl ?_))))))))))
 exact ⟨congrArg Value.bool (by simp only [patO, hasI, keptO, b0, b1, b2, b3, b4, b5, b6, BL]), H5.below⟩
theorem go20 : GoF Tryz.prog 20 := ⟨_, _, Tryz.func20, rfl, by kernel_rfl⟩
theorem ty25 : TyF Tryz.prog 25 8 true 80 (.agg #[.int .i64 0, .int .i64 0, .int .i64 0, .int .i64 0, .int .i64 0, .slice none 0 0, .int .i64 0, .int .i64 0]) := ⟨by kernel_rfl, by kernel_rfl⟩
theorem go22 : GoF Tryz.prog 22 := ⟨_, _, Tryz.func22, rfl, by kernel_rfl⟩
theorem go23 : GoF Tryz.prog 23 := ⟨_, _, Tryz.func23, rfl, by kernel_rfl⟩
theorem fl25_5 : FldF Tryz.prog 25 5 5 := ⟨_, _, Tryz.underlying25, rfl, rfl, by kernel_rfl⟩
theorem go25 : GoF Tryz.prog 25 := ⟨_, _, Tryz.func25, rfl, by kernel_rfl⟩
theorem audit_Holds {a_fv : OA} {n_fv c_fv : Nat} {a_fi : OA} {c_fi : Nat} {fi : List ItemL} {a_fo : OA} {c_fo : Nat} {fo : List Int} {lv : Int} {kd : Int} {rd_ : Int} {wa_ : Int} {wb_ : Int} {op_ : Int} {a_sl_ : OA} {c_sl_ : Nat} {sl_ : List StepL} {fs_ : Int} {sn_ : Int} (hM : ∀ b, M b → b < w.heap.size) (hT : TabAt 0 w) (h_fi : RV M w (.slice a_fi fi.length c_fi) fi) (h_fo : RV M w (.slice a_fo fo.length c_fo) fo) (h_lv : I64 lv) (h_kd : I64 kd) (h_rd_ : I64 rd_) (h_wa_ : I64 wa_) (h_wb_ : I64 wb_) (h_op_ : I64 op_) (h_sl_ : RV M w (.slice a_sl_ sl_.length c_sl_) sl_) (h_fs_ : I64 fs_) (h_sn_ : I64 sn_) (ho : OrdI fi) (hn_fi : fi.length ≤ 4096) (hfo : fo.length = fi.length) (hfr : ∀ x ∈ fo, x < ((fi.length : Nat) : Int)) (hst : sl_.length ≤ 90000) : Calls Tryz.prog 8 #[.agg #[.slice a_fv n_fv c_fv, .slice a_fi fi.length c_fi, .slice a_fo fo.length c_fo], .int .i64 lv, .agg #[.int .i64 kd, .int .i64 rd_, .int .i64 wa_, .int .i64 wb_, .int .i64 op_, .slice a_sl_ sl_.length c_sl_, .int .i64 fs_, .int .i64 sn_]] w (Ret fun v w' =>  v = .bool (holdsO fi fo lv kd rd_ wa_ wb_ op_ sl_ fs_ sn_) ∧ Ext w w') := by
 refine enter 31 Tryz.func8 rfl rfl rfl fun f0 ha => ?_
 have H := HI.start (M0 := M) (w := w) hM
 have H0 := H.put (it := iL a_fi fi c_fi) rfl (by rw [MS_nil]; exact h_fi)
 have H1 := H0.put (it := iL a_fo fo c_fo) rfl (by rw [MS_cons_none rfl, MS_nil]; exact h_fo)
 have H2 := H1.put (it := iL a_sl_ sl_ c_sl_) rfl (by rw [MS_cons_none rfl, MS_cons_none rfl, MS_nil]; exact h_sl_)
 have ln_fi := rv_len h_fi
 have ln_fo := rv_len h_fo
 have ln_sl_ := rv_len h_sl_
 have i0 : f0 0 = .agg #[.slice a_fv n_fv c_fv, sL a_fi fi c_fi, sL a_fo fo c_fo] := ha 0 (by simp)
 have i1 : f0 1 = iV lv := ha 1 (by simp)
 have i2 : f0 2 = .agg #[iV kd, iV rd_, iV wa_, iV wb_, iV op_, sL a_sl_ sl_ c_sl_, iV fs_, iV sn_] := ha 2 (by simp)
 refine sq (rg (k (bx H2 rfl i0 ?_)))
 intro bb0 w0 xt0 (H3 : HI M w w0 [box bb0 #[.slice a_fv n_fv c_fv, sL a_fi fi c_fi, sL a_fo fo c_fo] 32, iL a_sl_ sl_ c_sl_, iL a_fo fo c_fo, iL a_fi fi c_fi])
 refine k (bx H3 rfl i2 ?_)
 intro bb1 w1 xt1 (H4 : HI M w w1 [box bb1 #[iV kd, iV rd_, iV wa_, iV wb_, iV op_, sL a_sl_ sl_ c_sl_, iV fs_, iV sn_] 25, box bb0 #[.slice a_fv n_fv c_fv, sL a_fi fi c_fi, sL a_fo fo c_fo] 32, iL a_sl_ sl_ c_sl_, iL a_fo fo c_fo, iL a_fi fi c_fi])
 refine k (asg (v := .bool false) rfl rfl (z (nx (sq (rg (k (ldX H4 1 rfl ty32 rfl rfl (by decide) rfl (k (bd (v := .agg #[.slice a_fv n_fv c_fv, sL a_fi fi c_fi, sL a_fo fo c_fo, .slice none 0 0, .slice none 0 0]) rfl (pbc rfl pb0) (fun _ => by kernel_rfl) (k (bx H4 rfl rfl ?_)))))))))))
 intro bb2 w2 xt2 (H5 : HI M w w2 [box bb2 #[.slice a_fv n_fv c_fv, sL a_fi fi c_fi, sL a_fo fo c_fo, .slice none 0 0, .slice none 0 0] 57, box bb1 #[iV kd, iV rd_, iV wa_, iV wb_, iV op_, sL a_sl_ sl_ c_sl_, iV fs_, iV sn_] 25, box bb0 #[.slice a_fv n_fv c_fv, sL a_fi fi c_fi, sL a_fo fo c_fo] 32, iL a_sl_ sl_ c_sl_, iL a_fo fo c_fo, iL a_fi fi c_fi])
 refine k (asg (v := pV bb2 0) rfl rfl (z (nx (sq (sq ?_)))))
 refine drX rfl (by kernel_rfl) ?_
 refine xq rfl (kq (fun _ _ => mv rfl i1 e1) (zq ?_))
 refine xu (fun v w' => ∃ (a0 : OA) (c0 : Nat), v = sL a0 (kindsO lv) c0 ∧ RV (MS M [box bb2 #[.slice a_fv n_fv c_fv, sL a_fi fi c_fi, sL a_fo fo c_fo, .slice none 0 0, .slice none 0 0] 57, box bb1 #[iV kd, iV rd_, iV wa_, iV wb_, iV op_, sL a_sl_ sl_ c_sl_, iV fs_, iV sn_] 25, box bb0 #[.slice a_fv n_fv c_fv, sL a_fi fi c_fi, sL a_fo fo c_fo] 32, iL a_sl_ sl_ c_sl_, iL a_fo fo c_fo, iL a_fi fi c_fi]) w' (sL a0 (kindsO lv) c0) (kindsO lv)) rfl (by rintro _ _ _ x_ ⟨a0, c0, e_, rv1⟩; exact ⟨a0, c0, e_, rv1.lift (Up.ext x_)⟩) rfl (fun v_ x_ => ?_) ?_
 ·
  have H8 := H5.ext x_
  have cc1 := bad_Kinds (lv := lv) (w := v_) H8.mb h_lv
  refine ca go20 rfl (ec rfl e0) cc1 ?_
  rintro _ w4 ⟨a1, c1, rfl, xt4, rv2⟩
  have rv3 := OwnsG.rv rv2 H8.mb
  exact ⟨_, rfl, xt4, ⟨a1, c1, rfl, rv3⟩⟩
 refine xq rfl (kq (fun _ _ => fa fl25_0 rfl rfl e1) (zq (xq rfl (kq (fun _ x_ => lx (H5.ext x_) 1 rfl ty3 rfl rfl rfl e1) (zq ?_)))))
 refine xk1 (X := .bool ((kindsO lv).any (fun (z_ : Int) => decide (kd = z_)))) 0 rfl rfl (fun v_ u_ x_ h_ => ?_) ?_
 ·
  have H12 := H5.ext x_
  obtain ⟨a3, c3, s0, rv5⟩ := h_
  have H13 := H12.put (it := iL a3 (kindsO lv) c3) rfl rv5
  have cc := contains_int (l0_ := (kindsO lv)) (v0_ := kd) (w := v_) H13.mb (H13.rv 0 rfl) h_kd
  exact ca go19 rfl (ec s0 (ec rfl e0)) cc fun _ _ h_ => e2 h_
 refine xq rfl (kq (fun _ _ => not_ rfl rfl e1) (zq (xq rfl (kq (fun _ _ => mv (v := .bool (!((kindsO lv).any (fun (z_ : Int) => decide (kd = z_))))) rfl rfl e1) (zq ?_)))))
 rcases bE (!((kindsO lv).any (fun (z_ : Int) => decide (kd = z_)))) with b0 | b0
 ·
  refine xq rfl (qn rfl rfl rfl b0 (zq (xq rfl (qn rfl rfl rfl b0 (zq (xq rfl (qn rfl rfl rfl b0 (zq (xq rfl (kq (fun _ _ => pickT rfl rfl rfl rfl b0 rfl e1) (zq (zx ?_))))))))))))
  intro w6 f0 xt6 hk0 hu0
  have H14 := H5.ext xt6
  have s3 : f0 21 = .bool true := hk0 21 rfl
  refine nx (cdT rfl s3 rfl (sq (rg (k (asg (v := .bool false) rfl rfl (z (nx (rt (then_ret (r1 rfl rfl ?_))))))))))
  exact ⟨congrArg Value.bool (by simp only [holdsO, hasI, (nott b0), BL]), H14.below⟩
 refine xq rfl (qy rfl rfl rfl b0 (kq (fun _ x_ => ldX (H5.ext x_) 1 rfl ty25 rfl rfl (by decide) rfl e1) (zq ?_)))
 refine xu (fun v w' => ∃ (a4 : OA) (c4 : Nat), v = sL a4 (unnO kd rd_ wa_ wb_ op_ fs_ sn_) c4 ∧ RV (MS M [box bb2 #[.slice a_fv n_fv c_fv, sL a_fi fi c_fi, sL a_fo fo c_fo, .slice none 0 0, .slice none 0 0] 57, box bb1 #[iV kd, iV rd_, iV wa_, iV wb_, iV op_, sL a_sl_ sl_ c_sl_, iV fs_, iV sn_] 25, box bb0 #[.slice a_fv n_fv c_fv, sL a_fi fi c_fi, sL a_fo fo c_fo] 32, iL a_sl_ sl_ c_sl_, iL a_fo fo c_fo, iL a_fi fi c_fi]) w' (sL a4 (unnO kd rd_ wa_ wb_ op_ fs_ sn_) c4) (unnO kd rd_ wa_ wb_ op_ fs_ sn_)) rfl (by rintro _ _ _ x_ ⟨a4, c4, e_, rv7⟩; exact ⟨a4, c4, e_, rv7.lift (Up.ext x_)⟩) rfl (fun v_ x_ => ?_) ?_
 ·
  have H16 := H5.ext x_
  refine gy rfl rfl rfl b0 ?_
  have cc4 := audit_unnamed (kd := kd) (rd_ := rd_) (wa_ := wa_) (wb_ := wb_) (op_ := op_) (fs_ := fs_) (sn_ := sn_) (a_sl_ := a_sl_) (n_sl_ := sl_.length) (c_sl_ := c_sl_) (w := v_) H16.mb h_kd h_rd_ h_wa_ h_wb_ h_op_ h_fs_ h_sn_
  refine ca go22 rfl (ec rfl e0) cc4 ?_
  rintro _ w7 ⟨a5, c5, rfl, xt7, rv8⟩
  have rv9 := OwnsG.rv rv8 H16.mb
  exact ⟨_, rfl, xt7, ⟨a5, c5, rfl, rv9⟩⟩
 refine xk1 (X := .bool ((unnO kd rd_ wa_ wb_ op_ fs_ sn_).any (fun (x_ : Int) => !decide (x_ = (-1))))) 0 rfl rfl (fun v_ u_ x_ h_ => ?_) ?_
 ·
  have H20 := H5.ext x_
  obtain ⟨a7, c7, s1, rv12⟩ := h_
  have H21 := H20.put (it := iL a7 (unnO kd rd_ wa_ wb_ op_ fs_ sn_) c7) rfl rv12
  refine gy rfl rfl rfl b0 ?_
  have cc := containsFunc_int (r := (unnO kd rd_ wa_ wb_ op_ fs_ sn_)) (p := (fun (x_ : Int) => !decide (x_ = (-1)))) (w := v_) H21.mb (H21.rv 0 rfl) ⟨go23, fun w_ v_ x_ hx_ e_ hv_ => by have H_ := H21.ext e_; obtain ⟨_, ⟨rfl, rv13⟩, rfl⟩ := hv_; exact audit_Holds1 rv13⟩
  exact ca go21 rfl (ec s1 (ec rfl e0)) cc fun _ _ h_ => e2 h_
 refine xq rfl (kq (fun _ _ => pickF rfl rfl rfl rfl b0 rfl e1) (zq (zx ?_)))
 intro w9 f0 xt9 hk0 hu0
 have H22 := H5.ext xt9
 have s2 : f0 5 = pV bb1 0 := hk0 5 rfl
 have s3 : f0 7 = pV bb2 0 := hk0 7 rfl
 have s4 : f0 21 = .bool ((unnO kd rd_ wa_ wb_ op_ fs_ sn_).any (fun (x_ : Int) => !decide (x_ = (-1)))) := hk0 21 rfl
 refine nx ?_
 refine cd (b := (unnO kd rd_ wa_ wb_ op_ fs_ sn_).any (fun (x_ : Int) => !decide (x_ = (-1)))) rfl s4 (fun b1 => ?_) (fun b1 => ?_)
 ·
  refine sq (rg (k (asg (v := .bool false) rfl rfl (z (nx (rt (then_ret (r1 rfl rfl ?_))))))))
  exact ⟨congrArg Value.bool (by simp only [holdsO, hasI, (notf b0), b1, BL]), H22.below⟩
 refine sk (nx (sq (rg (k (mv rfl s3 (k (fa fl25_5 rfl s2 (k (lx H22 1 rfl ty23 rfl rfl rfl (k ?_))))))))))
 have H23 := H22.nil_ StepL 92
 have H24 := H23.nil_ Bool 4
 have H25 : HI M w w9 ([box bb2 #[.slice a_fv n_fv c_fv, sL a_fi fi c_fi, sL a_fo fo c_fo, .slice none 0 0, .slice none 0 0] 57, iL a_fi fi c_fi, iL a_fo fo c_fo, own w.heap.size 92 (.slice none 0 0) ([] : List StepL), own w.heap.size 4 (.slice none 0 0) ([] : List Bool), iL a_sl_ sl_ c_sl_] ++ [box bb1 #[iV kd, iV rd_, iV wa_, iV wb_, iV op_, sL a_sl_ sl_ c_sl_, iV fs_, iV sn_] 25, box bb0 #[.slice a_fv n_fv c_fv, sL a_fi fi c_fi, sL a_fo fo c_fo] 32]) := H24.pickN [2, 7, 6, 1, 0, 5, 3, 4] (by decide) rfl
 have cc6 := aud_take (b_a := bb2) (a_fv := a_fv) (n_fv := n_fv) (c_fv := c_fv) (a_fi := a_fi) (c_fi := c_fi) (fi := fi) (a_fo := a_fo) (c_fo := c_fo) (fo := fo) (a_stp := none) (c_stp := 0) (stp := ([] : List StepL)) (a_pl := none) (c_pl := 0) (pl := ([] : List Bool)) (a_l := a_sl_) (c_l := c_sl_) (l := sl_) (w := w) (w_ := w9) (r := [box bb1 #[iV kd, iV rd_, iV wa_, iV wb_, iV op_, sL a_sl_ sl_ c_sl_, iV fs_, iV sn_] 25, box bb0 #[.slice a_fv n_fv c_fv, sL a_fi fi c_fi, sL a_fo fo c_fo] 32]) (M := M) (by exact ho) (by first | exact hn_fi | omega) (by exact hfo) (by rfl) (by first | omega | (simp; omega)) H25
 refine ca go24 rfl (ec rfl (ec rfl e0)) cc6 ?_
 rintro _ w10 ⟨a8, c8, a9, c9, rfl, H26⟩
 have H27 : HI M w w10 [box bb2 #[.slice a_fv n_fv c_fv, sL a_fi fi c_fi, sL a_fo fo c_fo, sL a8 ((takeO fi fo ([] : List StepL) ([] : List Bool) sl_).2.1) c8, sL a9 ((takeO fi fo ([] : List StepL) ([] : List Bool) sl_).2.2) c9] 57, iL a_fi fi c_fi, iL a_fo fo c_fo, oL w 92 a8 ((takeO fi fo ([] : List StepL) ([] : List Bool) sl_).2.1) c8, oL w 4 a9 ((takeO fi fo ([] : List StepL) ([] : List Bool) sl_).2.2) c9, iL a_sl_ sl_ c_sl_, box bb1 #[iV kd, iV rd_, iV wa_, iV wb_, iV op_, sL a_sl_ sl_ c_sl_, iV fs_, iV sn_] 25, box bb0 #[.slice a_fv n_fv c_fv, sL a_fi fi c_fi, sL a_fo fo c_fo] 32] := H26
 refine k (mv (v := .bool ((takeO fi fo ([] : List StepL) ([] : List Bool) sl_).1)) rfl rfl ?_)
 rcases bE ((takeO fi fo ([] : List StepL) ([] : List Bool) sl_).1) with b2 | b2
 ·
  refine k (gy rfl rfl rfl b2 (mv rfl s3 (k (gy rfl rfl rfl b2 (ldX H27 6 rfl ty25 rfl s2 (by decide) rfl (k (gy rfl rfl rfl b2 ?_)))))))
  have H28 := H27.freeze 3 rfl
  have H29 := H28.freeze 4 rfl
  have cc7 := aud_pattern (fi := fi) (fo := fo) (stp := ((takeO fi fo ([] : List StepL) ([] : List Bool) sl_).2.1)) (pl := ((takeO fi fo ([] : List StepL) ([] : List Bool) sl_).2.2)) (kd := kd) (rd_ := rd_) (wa_ := wa_) (wb_ := wb_) (op_ := op_) (fs_ := fs_) (sn_ := sn_) (a_sl_ := a_sl_) (n_sl_ := sl_.length) (c_sl_ := c_sl_) (w := w10) (M := fun _ => False) (fun _ h_ => h_.elim) (hT.ext H29.below) ((H29.rv 1 rfl).lift (Up.less fun _ _ h_ => h_.elim)) ((H29.rv 2 rfl).lift (Up.less fun _ _ h_ => h_.elim)) ((H29.rv 3 rfl).lift (Up.less fun _ _ h_ => h_.elim)) ((H29.rv 4 rfl).lift (Up.less fun _ _ h_ => h_.elim)) h_kd h_rd_ h_wa_ h_wb_ h_op_ h_fs_ h_sn_ ⟨H29.at_ 0 rfl, fun h_ => h_⟩ (by exact ho) (by first | exact hn_fi | omega) (by exact hfo) (by exact hfr) (by exact rule_in (by assumption))
  refine ca go25 rfl (ec rfl (ec rfl e0)) cc7 ?_
  rintro _ w11 ⟨rfl, xt10⟩
  have H30 := H27.ext xt10
  refine k (pickT rfl rfl rfl rfl b2 rfl (k (asg (v := .bool (patO fi fo ((takeO fi fo ([] : List StepL) ([] : List Bool) sl_).2.1) ((takeO fi fo ([] : List StepL) ([] : List Bool) sl_).2.2) kd rd_ wa_ wb_ op_ fs_ sn_)) rfl rfl (z (nx (rt (r1 rfl rfl ?_)))))))
  exact ⟨congrArg Value.bool (by simp only [holdsO, hasI, (notf b0), b1, b2, BL]), H30.below⟩
 refine k (gn rfl rfl rfl b2 (k (gn rfl rfl rfl b2 (k (gn rfl rfl rfl b2 (k (pickF rfl rfl rfl rfl b2 rfl (k (asg (v := .bool false) rfl rfl (z (nx (rt (r1 rfl rfl ?_)))))))))))))
 exact ⟨congrArg Value.bool (by simp only [holdsO, hasI, (notf b0), b1, b2, BL]), H27.below⟩
theorem go7 : GoF Tryz.prog 7 := ⟨_, _, Tryz.func7, rfl, by kernel_rfl⟩
theorem go8 : GoF Tryz.prog 8 := ⟨_, _, Tryz.func8, rfl, by kernel_rfl⟩
theorem go10 : GoF Tryz.prog 10 := ⟨_, _, Tryz.func10, rfl, by kernel_rfl⟩
theorem awake21 (hT : TabAt 0 w) : Calls Tryz.prog 6 #[] w (Ret fun v w' =>  v = .bool true ∧ Ext w w') := by
 refine enter 39 Tryz.func6 rfl rfl rfl fun f0 ha => ?_
 have H := HI.start (M0 := (fun _ => False)) (w := w) (fun _ h => h.elim)
 refine sq (rg (k (asg (v := .bool false) rfl rfl (z (nx (sq (rg (k (bd (v := .agg #[.bool false, .string ⟨#[120]⟩, iV 1]) rfl (pbc rfl (pbc rfl pb0)) (fun _ => by kernel_rfl) (k (bs (xs := ([(false, ⟨#[120]⟩, 1)] : List (Bool × ByteArray × Int))) (cells := #[.bool false, .string ⟨#[120]⟩, iV 1]) (e := 48) H rfl (pbc rfl pb0) (fun _ => by kernel_rfl) ⟨[.bool false, .string ⟨#[120]⟩, iV 1], [], rfl, ⟨_, _, rfl, rfl, ⟨_, _, rfl, ⟨rfl, (by decide +kernel)⟩, ⟨rfl, (show I64 (1) from (by first | (unfold I64; decide +kernel) | decide +kernel))⟩⟩⟩, rfl⟩ rfl (by decide) ?_)))))))))))
 intro g0 w0 xt0 H0
 refine k ?_
 have H1 := H0.freeze 0 rfl
 refine bs (xs := h21) (cells := #[sL (some ⟨g0, 0, none⟩) ([(false, ⟨#[120]⟩, 1)] : List (Bool × ByteArray × Int)) 1]) (e := 45) H1 rfl (pbc rfl pb0) (fun _ => by kernel_rfl) ⟨[sL (some ⟨g0, 0, none⟩) ([(false, ⟨#[120]⟩, 1)] : List (Bool × ByteArray × Int)) 1], [], rfl, ⟨_, rfl, RV.list.1 (H1.rv 0 rfl)⟩, rfl⟩ rfl (by decide) ?_
 intro g1 w1 xt1 H2
 refine k ?_
 have H3 := H2.freeze 0 rfl
 have cc0 := ref11_Of (h := h21) (w := w1) H3.mb (H3.rv 0 rfl) (by decide +kernel)
 refine ca go7 rfl (ec rfl e0) cc0 ?_
 rintro _ w2 ⟨a0, c0, a1, c1, a2, c2, rfl, xt2, rv0, rv1, rv2⟩
 have H4 := H3.ext xt2
 have H5 := H4.put (it := iL a0 (o11V h21) c0) rfl rv0
 have H6 := H5.put (it := iL a1 (o11I h21) c1) rfl (by rw [MS_cons_none rfl]; exact rv1)
 have H7 := H6.put (it := iL a2 (o11F h21) c2) rfl (by rw [MS_cons_none rfl, MS_cons_none rfl]; exact rv2)
 refine k (mv (v := .tuple #[.agg #[sL a0 (o11V h21) c0, sL a1 (o11I h21) c1, sL a2 (o11F h21) c2], .bool (o11 h21)]) rfl rfl (k (xt rfl rfl rfl (k (xt rfl rfl rfl (k (al H7 ty32 ?_)))))))
 intro bb0 w3 xt3 (H8 : HI (fun _ => False) w w3 [box bb0 #[.slice none 0 0, .slice none 0 0, .slice none 0 0] 32, iL a2 (o11F h21) c2, iL a1 (o11I h21) c1, iL a0 (o11V h21) c0, imm (.slice (some ⟨g1, 0, none⟩) 1 1) h21, imm (.slice (some ⟨g0, 0, none⟩) 1 1) ([(false, ⟨#[120]⟩, 1)] : List (Bool × ByteArray × Int))])
 refine k (stX H8 0 rfl ty32 rfl rfl rfl rfl rfl rfl rfl ?_)
 intro w4 (H9 : HI (fun _ => False) w w4 [box bb0 #[sL a0 (o11V h21) c0, sL a1 (o11I h21) c1, sL a2 (o11F h21) c2] 32, iL a2 (o11F h21) c2, iL a1 (o11I h21) c1, iL a0 (o11V h21) c0, imm (.slice (some ⟨g1, 0, none⟩) 1 1) h21, imm (.slice (some ⟨g0, 0, none⟩) 1 1) ([(false, ⟨#[120]⟩, 1)] : List (Bool × ByteArray × Int))])
 refine k (asg (v := .bool (o11 h21)) rfl rfl (z (nx (sq (rg (k (bd (v := .agg #[iV 1, iV 0, iV (-1), iV (-1), iV (-1), .slice none 0 0, iV (-1), iV (-1)]) rfl (pbc rfl (pbc rfl (pbc rfl (pbc rfl (pbc rfl (pbc rfl (pbc rfl pb0))))))) (fun _ => by kernel_rfl) (k (al H9 ty25 ?_)))))))))
 intro bb1 w5 xt4 (H10 : HI (fun _ => False) w w5 [box bb1 #[iV 0, iV 0, iV 0, iV 0, iV 0, .slice none 0 0, iV 0, iV 0] 25, box bb0 #[sL a0 (o11V h21) c0, sL a1 (o11I h21) c1, sL a2 (o11F h21) c2] 32, iL a2 (o11F h21) c2, iL a1 (o11I h21) c1, iL a0 (o11V h21) c0, imm (.slice (some ⟨g1, 0, none⟩) 1 1) h21, imm (.slice (some ⟨g0, 0, none⟩) 1 1) ([(false, ⟨#[120]⟩, 1)] : List (Bool × ByteArray × Int))])
 refine k (stX H10 0 rfl ty25 rfl rfl rfl rfl rfl rfl rfl ?_)
 intro w6 (H11 : HI (fun _ => False) w w6 [box bb1 #[iV 1, iV 0, iV (-1), iV (-1), iV (-1), .slice none 0 0, iV (-1), iV (-1)] 25, box bb0 #[sL a0 (o11V h21) c0, sL a1 (o11I h21) c1, sL a2 (o11F h21) c2] 32, iL a2 (o11F h21) c2, iL a1 (o11I h21) c1, iL a0 (o11V h21) c0, imm (.slice (some ⟨g1, 0, none⟩) 1 1) h21, imm (.slice (some ⟨g0, 0, none⟩) 1 1) ([(false, ⟨#[120]⟩, 1)] : List (Bool × ByteArray × Int))])
 refine z (nx (sq (rg (k (ldX H11 0 rfl ty25 rfl rfl (by decide) rfl (k (al H11 ty25 ?_)))))))
 intro bb2 w7 xt5 (H12 : HI (fun _ => False) w w7 [box bb2 #[iV 0, iV 0, iV 0, iV 0, iV 0, .slice none 0 0, iV 0, iV 0] 25, box bb1 #[iV 1, iV 0, iV (-1), iV (-1), iV (-1), .slice none 0 0, iV (-1), iV (-1)] 25, box bb0 #[sL a0 (o11V h21) c0, sL a1 (o11I h21) c1, sL a2 (o11F h21) c2] 32, iL a2 (o11F h21) c2, iL a1 (o11I h21) c1, iL a0 (o11V h21) c0, imm (.slice (some ⟨g1, 0, none⟩) 1 1) h21, imm (.slice (some ⟨g0, 0, none⟩) 1 1) ([(false, ⟨#[120]⟩, 1)] : List (Bool × ByteArray × Int))])
 refine k (stX H12 0 rfl ty25 rfl rfl rfl rfl rfl rfl rfl ?_)
 intro w8 (H13 : HI (fun _ => False) w w8 [box bb2 #[iV 1, iV 0, iV (-1), iV (-1), iV (-1), .slice none 0 0, iV (-1), iV (-1)] 25, box bb1 #[iV 1, iV 0, iV (-1), iV (-1), iV (-1), .slice none 0 0, iV (-1), iV (-1)] 25, box bb0 #[sL a0 (o11V h21) c0, sL a1 (o11I h21) c1, sL a2 (o11F h21) c2] 32, iL a2 (o11F h21) c2, iL a1 (o11I h21) c1, iL a0 (o11V h21) c0, imm (.slice (some ⟨g1, 0, none⟩) 1 1) h21, imm (.slice (some ⟨g0, 0, none⟩) 1 1) ([(false, ⟨#[120]⟩, 1)] : List (Bool × ByteArray × Int))])
 refine z (nx (sq (rg (k (fa fl25_4 rfl rfl (k (stX H13 0 rfl ty3 rfl rfl rfl rfl rfl rfl rfl ?_)))))))
 intro w9 (H14 : HI (fun _ => False) w w9 [box bb2 #[iV 1, iV 0, iV (-1), iV (-1), iV 0, .slice none 0 0, iV (-1), iV (-1)] 25, box bb1 #[iV 1, iV 0, iV (-1), iV (-1), iV (-1), .slice none 0 0, iV (-1), iV (-1)] 25, box bb0 #[sL a0 (o11V h21) c0, sL a1 (o11I h21) c1, sL a2 (o11F h21) c2] 32, iL a2 (o11F h21) c2, iL a1 (o11I h21) c1, iL a0 (o11V h21) c0, imm (.slice (some ⟨g1, 0, none⟩) 1 1) h21, imm (.slice (some ⟨g0, 0, none⟩) 1 1) ([(false, ⟨#[120]⟩, 1)] : List (Bool × ByteArray × Int))])
 refine z (nx (sq (rg (k (ldX H14 2 rfl ty32 rfl rfl (by decide) rfl (k (ldX H14 1 rfl ty25 rfl rfl (by decide) rfl (k ?_))))))))
 have cc1 := audit_Holds (fi := (o11I h21)) (fo := (o11F h21)) (lv := 1) (kd := 1) (rd_ := 0) (wa_ := (-1)) (wb_ := (-1)) (op_ := (-1)) (sl_ := ([] : List StepL)) (fs_ := (-1)) (sn_ := (-1)) (a_fv := a0) (n_fv := (o11V h21).length) (c_fv := c0) (w := w9) H14.mb (hT.ext H14.below) (H14.rv 4 rfl) (H14.rv 3 rfl) (by first | (unfold I64; decide +kernel) | decide +kernel) (by first | (unfold I64; decide +kernel) | decide +kernel) (by first | (unfold I64; decide +kernel) | decide +kernel) (by first | (unfold I64; decide +kernel) | decide +kernel) (by first | (unfold I64; decide +kernel) | decide +kernel) (by first | (unfold I64; decide +kernel) | decide +kernel) (rv_nil _ _) (by first | (unfold I64; decide +kernel) | decide +kernel) (by first | (unfold I64; decide +kernel) | decide +kernel) (by exact o11_ord _) (by decide +kernel) (by decide +kernel) (by decide +kernel) (by decide +kernel)
 refine ca go8 rfl (ec rfl (ec rfl (ec rfl e0))) cc1 ?_
 rintro _ w10 ⟨rfl, xt6⟩
 have H15 := H14.ext xt6
 refine k (mv (v := .bool (holdsO (o11I h21) (o11F h21) 1 1 0 (-1) (-1) (-1) ([] : List StepL) (-1) (-1))) rfl rfl ?_)
 have tr0 : (holdsO (o11I h21) (o11F h21) 1 1 0 (-1) (-1) (-1) ([] : List StepL) (-1) (-1)) = true := (by decide +kernel)
 refine k (gy rfl rfl rfl tr0 (ldX H15 2 rfl ty32 rfl rfl (by decide) rfl (k (gy rfl rfl rfl tr0 (ldX H15 1 rfl ty25 rfl rfl (by decide) rfl (k (gy rfl rfl rfl tr0 ?_)))))))
 have cc2 := audit_Holds (fi := (o11I h21)) (fo := (o11F h21)) (lv := 3) (kd := 1) (rd_ := 0) (wa_ := (-1)) (wb_ := (-1)) (op_ := (-1)) (sl_ := ([] : List StepL)) (fs_ := (-1)) (sn_ := (-1)) (a_fv := a0) (n_fv := (o11V h21).length) (c_fv := c0) (w := w10) H15.mb (hT.ext H15.below) (H15.rv 4 rfl) (H15.rv 3 rfl) (by first | (unfold I64; decide +kernel) | decide +kernel) (by first | (unfold I64; decide +kernel) | decide +kernel) (by first | (unfold I64; decide +kernel) | decide +kernel) (by first | (unfold I64; decide +kernel) | decide +kernel) (by first | (unfold I64; decide +kernel) | decide +kernel) (by first | (unfold I64; decide +kernel) | decide +kernel) (rv_nil _ _) (by first | (unfold I64; decide +kernel) | decide +kernel) (by first | (unfold I64; decide +kernel) | decide +kernel) (by exact o11_ord _) (by decide +kernel) (by decide +kernel) (by decide +kernel) (by decide +kernel)
 refine ca go8 rfl (ec rfl (ec rfl (ec rfl e0))) cc2 ?_
 rintro _ w11 ⟨rfl, xt7⟩
 have H16 := H15.ext xt7
 refine k (pickT rfl rfl rfl rfl tr0 rfl (k (mv (v := .bool (holdsO (o11I h21) (o11F h21) 3 1 0 (-1) (-1) (-1) ([] : List StepL) (-1) (-1))) rfl rfl ?_)))
 have tr1 : (holdsO (o11I h21) (o11F h21) 3 1 0 (-1) (-1) (-1) ([] : List StepL) (-1) (-1)) = true := (by decide +kernel)
 refine k (gy rfl rfl rfl tr1 (ldX H16 2 rfl ty32 rfl rfl (by decide) rfl (k (gy rfl rfl rfl tr1 (ldX H16 1 rfl ty25 rfl rfl (by decide) rfl (k (gy rfl rfl rfl tr1 ?_)))))))
 have cc3 := audit_Holds (fi := (o11I h21)) (fo := (o11F h21)) (lv := 0) (kd := 1) (rd_ := 0) (wa_ := (-1)) (wb_ := (-1)) (op_ := (-1)) (sl_ := ([] : List StepL)) (fs_ := (-1)) (sn_ := (-1)) (a_fv := a0) (n_fv := (o11V h21).length) (c_fv := c0) (w := w11) H16.mb (hT.ext H16.below) (H16.rv 4 rfl) (H16.rv 3 rfl) (by first | (unfold I64; decide +kernel) | decide +kernel) (by first | (unfold I64; decide +kernel) | decide +kernel) (by first | (unfold I64; decide +kernel) | decide +kernel) (by first | (unfold I64; decide +kernel) | decide +kernel) (by first | (unfold I64; decide +kernel) | decide +kernel) (by first | (unfold I64; decide +kernel) | decide +kernel) (rv_nil _ _) (by first | (unfold I64; decide +kernel) | decide +kernel) (by first | (unfold I64; decide +kernel) | decide +kernel) (by exact o11_ord _) (by decide +kernel) (by decide +kernel) (by decide +kernel) (by decide +kernel)
 refine ca go8 rfl (ec rfl (ec rfl (ec rfl e0))) cc3 ?_
 rintro _ w12 ⟨rfl, xt8⟩
 have H17 := H16.ext xt8
 refine k (gy rfl rfl rfl tr1 (not_ rfl rfl (k (pickT rfl rfl rfl rfl tr1 rfl (k (mv (v := .bool (!(holdsO (o11I h21) (o11F h21) 0 1 0 (-1) (-1) (-1) ([] : List StepL) (-1) (-1)))) rfl rfl ?_))))))
 have tr2 : (holdsO (o11I h21) (o11F h21) 0 1 0 (-1) (-1) (-1) ([] : List StepL) (-1) (-1)) = false := (by decide +kernel)
 refine k (gy rfl rfl rfl (by rw [show (holdsO (o11I h21) (o11F h21) 0 1 0 (-1) (-1) (-1) ([] : List StepL) (-1) (-1)) = false from tr2] <;> rfl) (ldX H17 2 rfl ty32 rfl rfl (by decide) rfl (k (gy rfl rfl rfl (by rw [show (holdsO (o11I h21) (o11F h21) 0 1 0 (-1) (-1) (-1) ([] : List StepL) (-1) (-1)) = false from tr2] <;> rfl) (ldX H17 0 rfl ty25 rfl rfl (by decide) rfl (k (gy rfl rfl rfl (by rw [show (holdsO (o11I h21) (o11F h21) 0 1 0 (-1) (-1) (-1) ([] : List StepL) (-1) (-1)) = false from tr2] <;> rfl) ?_)))))))
 have cc4 := audit_Holds (fi := (o11I h21)) (fo := (o11F h21)) (lv := 1) (kd := 1) (rd_ := 0) (wa_ := (-1)) (wb_ := (-1)) (op_ := 0) (sl_ := ([] : List StepL)) (fs_ := (-1)) (sn_ := (-1)) (a_fv := a0) (n_fv := (o11V h21).length) (c_fv := c0) (w := w12) H17.mb (hT.ext H17.below) (H17.rv 4 rfl) (H17.rv 3 rfl) (by first | (unfold I64; decide +kernel) | decide +kernel) (by first | (unfold I64; decide +kernel) | decide +kernel) (by first | (unfold I64; decide +kernel) | decide +kernel) (by first | (unfold I64; decide +kernel) | decide +kernel) (by first | (unfold I64; decide +kernel) | decide +kernel) (by first | (unfold I64; decide +kernel) | decide +kernel) (rv_nil _ _) (by first | (unfold I64; decide +kernel) | decide +kernel) (by first | (unfold I64; decide +kernel) | decide +kernel) (by exact o11_ord _) (by decide +kernel) (by decide +kernel) (by decide +kernel) (by decide +kernel)
 refine ca go8 rfl (ec rfl (ec rfl (ec rfl e0))) cc4 ?_
 rintro _ w13 ⟨rfl, xt9⟩
 have H18 := H17.ext xt9
 refine k (gy rfl rfl rfl (by rw [show (holdsO (o11I h21) (o11F h21) 0 1 0 (-1) (-1) (-1) ([] : List StepL) (-1) (-1)) = false from tr2] <;> rfl) (not_ rfl rfl (k (pickT rfl rfl rfl rfl (by rw [show (holdsO (o11I h21) (o11F h21) 0 1 0 (-1) (-1) (-1) ([] : List StepL) (-1) (-1)) = false from tr2] <;> rfl) rfl (k (mv (v := .bool (!(holdsO (o11I h21) (o11F h21) 1 1 0 (-1) (-1) 0 ([] : List StepL) (-1) (-1)))) rfl rfl ?_))))))
 have tr3 : (holdsO (o11I h21) (o11F h21) 1 1 0 (-1) (-1) 0 ([] : List StepL) (-1) (-1)) = false := (by decide +kernel)
 refine k (gy rfl rfl rfl (by rw [show (holdsO (o11I h21) (o11F h21) 1 1 0 (-1) (-1) 0 ([] : List StepL) (-1) (-1)) = false from tr3] <;> rfl) (ldX H18 2 rfl ty32 rfl rfl (by decide) rfl (k (gy rfl rfl rfl (by rw [show (holdsO (o11I h21) (o11F h21) 1 1 0 (-1) (-1) 0 ([] : List StepL) (-1) (-1)) = false from tr3] <;> rfl) ?_))))
 have cc5 := audit_Steps (fi := (o11I h21)) (fo := (o11F h21)) (l := ([] : List StepL)) (a_fv := a0) (n_fv := (o11V h21).length) (c_fv := c0) (w := w13) H18.mb (H18.rv 4 rfl) (H18.rv 3 rfl) (rv_nil _ _) (by exact o11_ord _) (by decide +kernel) (by decide +kernel) (by decide +kernel)
 refine ca go10 rfl (ec rfl (ec rfl e0)) cc5 ?_
 rintro _ w14 ⟨rfl, xt10⟩
 have H19 := H18.ext xt10
 refine k (pickT rfl rfl rfl rfl (by rw [show (holdsO (o11I h21) (o11F h21) 1 1 0 (-1) (-1) 0 ([] : List StepL) (-1) (-1)) = false from tr3] <;> rfl) rfl (k (asg (v := .bool (stepsO (o11I h21) (o11F h21) ([] : List StepL))) rfl rfl (z (nx (rt (r1 rfl rfl ?_)))))))
 have tr4 : (stepsO (o11I h21) (o11F h21) ([] : List StepL)) = true := (by decide +kernel)
 exact ⟨congrArg Value.bool (by exact tr4), H19.below⟩
end Go.Proofs.YtefcbihikknlkaaGreatDoor
