/- PRINTED by my own tool (wip/tool/gen.py): contracts of Go functions of this seat, each with its proof. -/
import Derived.Test.YtmliihgaoaolmaaR03Fns
import Derived.Test.YtmliihgaoaolmaaEngV
import Derived.Test.YtmliihgaoaolmaaEwSpecN
namespace Go.Proofs.Ytmliihgaoaolmaa
open Go.Ew Go.RowKit
set_option linter.unusedVariables false
set_option linter.unusedSimpArgs false
attribute [local irreducible] WL WC SO Code.wp wpList retQ Ret
attribute [local irreducible] bitB hasW inR hasR setR countW countR subR words newR listR orR firstW tab8
theorem un28 : Try.prog.underlying 28 = some (.slice 3) := by kernel_rfl
theorem un88 : Try.prog.underlying 88 = some (.array 2 3) := by kernel_rfl
theorem un3 : Try.prog.underlying 3 = some (.int .i64) := by kernel_rfl
theorem ar88 : ArF Try.prog 88 := arF un88 un3 (by kernel_rfl) (by kernel_rfl) (by kernel_rfl)
theorem mp87 : MapF Try.prog 87 := mapF (by kernel_rfl : Try.prog.underlying 87 = some (.map 88 3)) (key2_array ar88) ty3
theorem go48 : GoF Try.prog 48 := ⟨_, _, Try.func48, rfl, by kernel_rfl⟩
theorem fl30_2 : FldF Try.prog 30 2 2 := ⟨_, _, Try.underlying30, rfl, rfl, by kernel_rfl⟩
theorem ty28 : TyF Try.prog 28 1 false 24 (.slice none 0 0) := ⟨by kernel_rfl, by kernel_rfl⟩
theorem go49 : GoF Try.prog 49 := ⟨_, _, Try.func49, rfl, by kernel_rfl⟩
theorem st40 : StF Try.prog 40 [some (0, 0), some (1, 0), some (2, 1), some (3, 0), some (4, 0)] := ⟨by kernel_rfl, by kernel_rfl, by kernel_rfl, by kernel_rfl⟩
theorem go50 : GoF Try.prog 50 := ⟨_, _, Try.func50, rfl, by kernel_rfl⟩
theorem go51 : GoF Try.prog 51 := ⟨_, _, Try.func51, rfl, by kernel_rfl⟩
theorem go27 : GoF Try.prog 27 := ⟨_, _, Try.func27, rfl, by kernel_rfl⟩
theorem go52 : GoF Try.prog 52 := ⟨_, _, Try.func52, rfl, by kernel_rfl⟩
/- eyewitness/eyewitnessref02.Ints -/
set_option maxRecDepth 100000 in
set_option maxHeartbeats 1600000 in
theorem ref02_Ints {M : Nat → Prop} {w : World} {a_a : Option Addr} {c_a : Nat} {a : List Int} {a_b : Option Addr} {c_b : Nat} {b : List Int} (hM : ∀ b, M b → b < w.heap.size) (h_a : RV M w (.slice a_a a.length c_a) a) (h_b : RV M w (.slice a_b b.length c_b) b) : Calls Try.prog 27 #[.slice a_a a.length c_a, .slice a_b b.length c_b] w (Ret fun v w' =>  v = .bool (decide (a = b)) ∧ Ext w w') := by
  refine enter 26 Try.func27 rfl rfl rfl fun f0 ha => ?_
  have H := HI.start (M0 := M) (w := w) hM
  have H0 := H.put (it := imm (.slice a_a a.length c_a) a) rfl (by rw [MS_nil]; exact h_a)
  have H1 := H0.put (it := imm (.slice a_b b.length c_b) b) rfl (by rw [MS_cons_none rfl, MS_nil]; exact h_b)
  have ln_a := rv_len h_a
  have ln_b := rv_len h_b
  have i0 : f0 0 = .slice a_a a.length c_a := ha 0 (by simp)
  have i1 : f0 1 = .slice a_b b.length c_b := ha 1 (by simp)
  refine sq (rg (k (asg (v := .bool false) rfl rfl (z (nx (sq (sq (rg (k (mv rfl i0 (k (lnS rfl rfl un28 (k (mv rfl i1 (k (lnS rfl rfl un28 (k (neq rfl rfl rfl rfl (z (nx ?_))))))))))))))))))))
  refine cd (b := !decide ((a.length : Int) = (b.length : Int))) rfl rfl (fun b0 => ?_) (fun b0 => ?_)
  ·
    have p0 := of_decide_eq_false (nott b0)
    refine sq (rg (k (asg (v := .bool false) rfl rfl (z (nx (rt (then_ret (r1 rfl rfl ?_))))))))
    have e0 : (false : Bool) = decide (a = b) := by symm; rw [decide_eq_false_iff_not]; intro e; subst e; exact p0 rfl
    have ev_ := cg1 (fun (x_0 : Bool) => (.bool x_0 : Value)) e0
    exact ⟨ev_, H1.below⟩
  ·
    have p0 := of_decide_eq_true (notf b0)
    refine sk (nx (sq (sq (rg (k (asg (v := .int .i64 0) rfl rfl (z (nx (bk ?_)))))))))
    refine lp (fun m f w' => ∃ (j : Nat), m = a.length - j ∧ f 0 = .slice a_a a.length c_a ∧ f 1 = .slice a_b b.length c_b ∧ f 5 = .int .i64 (j : Int) ∧  HI M w w' [imm (.slice a_b b.length c_b) b, imm (.slice a_a a.length c_a) a] ∧ (j ≤ a.length) ∧ (a.take j = b.take j)) _ ⟨0, rfl, i0, i1, (ieq rfl (by first | rfl | omega | simp)), H1, (by first | assumption | omega | simp | (simp; omega)), (by first | assumption | omega | simp | (simp; omega))⟩ ?_
    rintro _ f0 w0 ⟨j, rfl, s0, s1, s2, H2, hk, hs⟩
    refine sq (sq (rg (k (mv rfl s2 (k (mv rfl s0 (k (lnS rfl rfl un28 (k (lss rfl rfl rfl rfl (z (nx ?_))))))))))))
    refine cd (b := decide ((j : Int) < (a.length : Int))) rfl rfl (fun b1 => ?_) (fun b1 => ?_)
    ·
      have p1 := of_decide_eq_true b1
      refine sk (nx (sq (bk (sq ?_))))
      obtain ⟨x0, hx0⟩ : ∃ x, a[(j : Int).toNat]? = some x := ⟨_, List.getElem?_eq_getElem (by first | omega | (simp; omega))⟩
      obtain ⟨x1, hx1⟩ : ∃ x, b[(j : Int).toNat]? = some x := ⟨_, List.getElem?_eq_getElem (by first | omega | (simp; omega))⟩
      refine dr 8 [fun (v : Value) (w' : World) => v = .slice a_a a.length c_a, fun (v : Value) (w' : World) => v = .int .i64 (j : Int), fun (v : Value) (w' : World) => ∃ (ad0 : Addr), v = .pointer (some ad0) ∧ At (MS M [imm (.slice a_b b.length c_b) b, imm (.slice a_a a.length c_a) a]) w' ad0 x0, fun (v : Value) (w' : World) => v = .int .i64 x0 ∧ I64 (x0), fun (v : Value) (w' : World) => v = .slice a_b b.length c_b, fun (v : Value) (w' : World) => v = .int .i64 (j : Int), fun (v : Value) (w' : World) => ∃ (ad1 : Addr), v = .pointer (some ad1) ∧ At (MS M [imm (.slice a_b b.length c_b) b, imm (.slice a_a a.length c_a) a]) w' ad1 x1, fun (v : Value) (w' : World) => v = .int .i64 x1 ∧ I64 (x1)] rfl (by kernel_rfl) ?_ ?_
      ·
        refine ⟨fun _ => ⟨fun f1 w1 hf0 xt0 hp0 => ?_, fun _ _ _ _ h => h⟩, ?_⟩
        ·
          have H3 := H2.ext xt0
          refine mv rfl ((hf0 0 rfl).trans s0) ?_
          exact ⟨_, rfl, Ext.refl _, rfl⟩
        refine ⟨fun _ => ⟨fun f2 w2 hf1 xt1 hp1 => ?_, fun _ _ _ _ h => h⟩, ?_⟩
        ·
          have H4 := H2.ext xt1
          refine mv rfl ((hf1 5 rfl).trans s2) ?_
          exact ⟨_, rfl, Ext.refl _, rfl⟩
        refine ⟨fun _ => ⟨fun f3 w3 hf2 xt2 hp2 => ?_, by rintro _ _ _ x_ ⟨ad0, e_, hA0⟩; exact ⟨ad0, e_, hA0.lift (Up.ext x_)⟩⟩, ?_⟩
        ·
          have H5 := H2.ext xt2
          have s3 : f3 17 = .slice a_a a.length c_a := hp2 0 rfl rfl
          have s4 : f3 18 = .int .i64 (j : Int) := hp2 1 rfl rfl
          refine ia (H5.rv 1 rfl) rfl rfl s3 s4 (by first | omega | (simp; omega)) un28 ty3 ?_
          intro ad2 x2 hx2 hA2
          obtain rfl : x0 = x2 := Option.some.inj (hx0.symm.trans hx2)
          exact ⟨_, rfl, Ext.refl _, ⟨ad2, rfl, hA2⟩⟩
        refine ⟨fun _ => ⟨fun f4 w4 hf3 xt3 hp3 => ?_, fun _ _ _ _ h => h⟩, ?_⟩
        ·
          have H6 := H2.ext xt3
          obtain ⟨ad3, s5, hA3⟩ : ∃ (ad3 : Addr), f4 19 = .pointer (some ad3) ∧ At (MS M [imm (.slice a_b b.length c_b) b, imm (.slice a_a a.length c_a) a]) w4 ad3 x0 := hp3 2 rfl rfl
          have H7 := H6.put (it := atI ad3 x0) rfl hA3
          refine ldI (H7.atv 0 rfl).w ty3 rfl s5 ?_
          intro rv2
          exact ⟨_, rfl, Ext.refl _, ⟨rfl, rv2⟩⟩
        refine ⟨fun _ => ⟨fun f5 w5 hf4 xt4 hp4 => ?_, fun _ _ _ _ h => h⟩, ?_⟩
        ·
          have H8 := H2.ext xt4
          refine mv rfl ((hf4 1 rfl).trans s1) ?_
          exact ⟨_, rfl, Ext.refl _, rfl⟩
        refine ⟨fun _ => ⟨fun f6 w6 hf5 xt5 hp5 => ?_, fun _ _ _ _ h => h⟩, ?_⟩
        ·
          have H9 := H2.ext xt5
          refine mv rfl ((hf5 5 rfl).trans s2) ?_
          exact ⟨_, rfl, Ext.refl _, rfl⟩
        refine ⟨fun _ => ⟨fun f7 w7 hf6 xt6 hp6 => ?_, by rintro _ _ _ x_ ⟨ad1, e_, hA1⟩; exact ⟨ad1, e_, hA1.lift (Up.ext x_)⟩⟩, ?_⟩
        ·
          have H10 := H2.ext xt6
          have s6 : f7 21 = .slice a_b b.length c_b := hp6 4 rfl rfl
          have s7 : f7 22 = .int .i64 (j : Int) := hp6 5 rfl rfl
          refine ia (H10.rv 0 rfl) rfl rfl s6 s7 (by first | omega | (simp; omega)) un28 ty3 ?_
          intro ad4 x3 hx3 hA4
          obtain rfl : x1 = x3 := Option.some.inj (hx1.symm.trans hx3)
          exact ⟨_, rfl, Ext.refl _, ⟨ad4, rfl, hA4⟩⟩
        refine ⟨fun _ => ⟨fun f8 w8 hf7 xt7 hp7 => ?_, fun _ _ _ _ h => h⟩, ?_⟩
        ·
          have H11 := H2.ext xt7
          obtain ⟨ad5, s8, hA5⟩ : ∃ (ad5 : Addr), f8 23 = .pointer (some ad5) ∧ At (MS M [imm (.slice a_b b.length c_b) b, imm (.slice a_a a.length c_a) a]) w8 ad5 x1 := hp7 6 rfl rfl
          have H12 := H11.put (it := atI ad5 x1) rfl hA5
          refine ldI (H12.atv 0 rfl).w ty3 rfl s8 ?_
          intro rv3
          exact ⟨_, rfl, Ext.refl _, ⟨rfl, rv3⟩⟩
        exact DSteps.rest rfl _
      · intro f9 w9 hf8 xt8 hp8
        have H13 := H2.ext xt8
        have s9 : f9 0 = .slice a_a a.length c_a := (hf8 0 rfl).trans s0
        have s10 : f9 1 = .slice a_b b.length c_b := (hf8 1 rfl).trans s1
        have s11 : f9 5 = .int .i64 (j : Int) := (hf8 5 rfl).trans s2
        obtain ⟨s12, rv4⟩ : f9 20 = .int .i64 x0 ∧ I64 (x0) := hp8 3 rfl
        obtain ⟨s13, rv5⟩ : f9 24 = .int .i64 x1 ∧ I64 (x1) := hp8 7 rfl
        refine k (neq rfl rfl s12 s13 (z (nx ?_)))
        refine cd (b := !decide (x0 = x1)) rfl rfl (fun b2 => ?_) (fun b2 => ?_)
        ·
          have p2 := of_decide_eq_false (nott b2)
          refine sq (rg (k (asg (v := .bool false) rfl rfl (z (nx (rt (inb_ret (then_ret (loop_ret (inb_ret (then_ret (r1 rfl rfl ?_))))))))))))
          have e0 : (false : Bool) = decide (a = b) := by symm; rw [decide_eq_false_iff_not]; exact ne_of_at hx0 hx1 p2
          have ev_ := cg1 (fun (x_0 : Bool) => (.bool x_0 : Value)) e0
          exact ⟨ev_, H13.below⟩
        ·
          have p2 := of_decide_eq_true (notf b2)
          refine sk (inb_normal (nx (rg (k (mv rfl s11 (k (add rfl rfl rfl rfl (by unfold I64 at *; omega) (k (asg (v := .int .i64 ((j : Int) + 1)) rfl rfl (z ?_))))))))))
          refine loopN _ ?_ ⟨(j + 1), rfl, s9, s10, (ieq rfl (by first | rfl | omega | (push_cast; omega))), H13, (by first | assumption | omega | simp | (simp; omega)), (by exact take_eq_step hs hx0 hx1 p2)⟩
          omega
    ·
      have p1 := of_decide_eq_false b1
      refine ex (then_exit (loop_exit (inb_here (nx (sq (rg (k (asg (v := .bool true) rfl rfl (z (nx (rt (r1 rfl rfl ?_))))))))))))
      have e0 : (true : Bool) = decide (a = b) := by symm; rw [decide_eq_true_eq]; exact eq_of_take (by omega) hs (by omega)
      have ev_ := cg1 (fun (x_0 : Bool) => (.bool x_0 : Value)) e0
      exact ⟨ev_, H2.below⟩
/- eyewitness/origin.from -/
set_option maxRecDepth 100000 in
set_option maxHeartbeats 1600000 in
theorem origin_from {M : Nat → Prop} {w : World} {a_fv : Option Addr} {n_fv c_fv : Nat} {a_fi : Option Addr} {c_fi : Nat} {fi : List (Int × Int × Bool × Int × Int)} {a_fo : Option Addr} {n_fo c_fo : Nat} (hM : ∀ b, M b → b < w.heap.size) (h_fi : RV M w (.slice a_fi fi.length c_fi) fi) (hn_fi : fi.length ≤ 4096) : Calls Try.prog 48 #[.agg #[.slice a_fv n_fv c_fv, .slice a_fi fi.length c_fi, .slice a_fo n_fo c_fo]] w (Ret fun v w' => ∃ (a0 : Option Addr) (c0 : Nat), v = .slice a0 (fromM fi).length c0 ∧ Ext w w' ∧ OwnsG M 3 w (fromM fi) (.slice a0 (fromM fi).length c0) w') := by
  refine enter 76 Try.func48 rfl rfl rfl fun f0 ha => ?_
  have H := HI.start (M0 := M) (w := w) hM
  have H0 := H.put (it := imm (.slice a_fi fi.length c_fi) fi) rfl (by rw [MS_nil]; exact h_fi)
  have ln_fi := rv_len h_fi
  have i0 : f0 0 = .agg #[.slice a_fv n_fv c_fv, .slice a_fi fi.length c_fi, .slice a_fo n_fo c_fo] := ha 0 (by simp)
  refine sq (rg (k (bx H0 rfl i0 ?_)))
  intro bb0 w0 xt0 (H1 : HI M w w0 [box bb0 #[.slice a_fv n_fv c_fv, .slice a_fi fi.length c_fi, .slice a_fo n_fo c_fo] 30, imm (.slice a_fi fi.length c_fi) fi])
  refine k (asg (v := .slice none 0 0) rfl rfl (z (nx (sq (rg (k (mm H1 ?_)))))))
  intro bm0 w1 xt1 (H2 : HI M w w1 [mapI bm0 ([] : KV), box bb0 #[.slice a_fv n_fv c_fv, .slice a_fi fi.length c_fi, .slice a_fo n_fo c_fo] 30, imm (.slice a_fi fi.length c_fi) fi])
  refine k (asg (v := .map (some bm0)) rfl rfl (z (nx (sq (sq (rg (k (fa fl30_1 rfl rfl (k (ldX H2 1 rfl ty27 rfl rfl (by decide) rfl (k (lnS rfl rfl un27 (k (mv (v := .int .i64 0) rfl rfl (z (nx (bk ?_)))))))))))))))))
  refine lp (fun m f w' => ∃ (j : Nat) (mk_ : KV), m = fi.length - j ∧ f 1 = .pointer (some ⟨bb0, 0, none⟩) ∧ f 3 = .map (some bm0) ∧ f 13 = .slice a_fi fi.length c_fi ∧ f 14 = .int .i64 (fi.length : Int) ∧ f 15 = .int .i64 (j : Int) ∧  HI M w w' [mapI bm0 mk_, box bb0 #[.slice a_fv n_fv c_fv, .slice a_fi fi.length c_fi, .slice a_fo n_fo c_fo] 30, imm (.slice a_fi fi.length c_fi) fi] ∧ (j ≤ fi.length) ∧ (mk_ = lastM fi j)) _ ⟨0, ([] : KV), rfl, rfl, rfl, rfl, rfl, (ieq rfl (by first | rfl | omega | simp)), H2, (by first | assumption | omega | simp | (simp; omega)), (by rfl)⟩ ?_
  rintro _ f0 w2 ⟨j, mk_, rfl, s0, s1, s2, s3, s4, H3, hk, hm⟩
  refine sq (rg (k (lss rfl rfl s4 s3 (z (nx (sq ?_))))))
  refine cd (b := decide ((j : Int) < (fi.length : Int))) rfl rfl (fun b0 => ?_) (fun b0 => ?_)
  ·
    have p0 := of_decide_eq_true b0
    refine sk (nx (sq (bk (sq (rg (k (mv rfl s4 (k (ia (H3.rv 2 rfl) rfl rfl s2 s4 (by first | omega | (simp; omega)) un27 ty40 ?_)))))))))
    intro ad0 x0 hx0 hA0
    refine k (ldW hA0.w ty40 rfl rfl ?_)
    intro v0 rv0
    obtain ⟨_, ⟨_, _, rfl, ⟨rfl, rv1⟩, ⟨_, _, rfl, ⟨rfl, rv2⟩, ⟨_, _, rfl, rfl, ⟨_, _, rfl, ⟨rfl, rv3⟩, ⟨rfl, rv4⟩⟩⟩⟩⟩, rfl⟩ := rv0
    refine k (al H3 ty40 ?_)
    intro bb1 w3 xt2 (H4 : HI M w w3 [box bb1 #[.int .i64 0, .int .i64 0, .bool false, .int .i64 0, .int .i64 0] 40, mapI bm0 mk_, box bb0 #[.slice a_fv n_fv c_fv, .slice a_fi fi.length c_fi, .slice a_fo n_fo c_fo] 30, imm (.slice a_fi fi.length c_fi) fi])
    refine k (asg (v := .int .i64 (j : Int)) rfl rfl (k (stX H4 0 rfl ty40 rfl rfl rfl rfl rfl rfl rfl ?_)))
    intro w4 (H5 : HI M w w4 [box bb1 #[.int .i64 x0.1, .int .i64 x0.2.1, .bool x0.2.2.1, .int .i64 x0.2.2.2.1, .int .i64 x0.2.2.2.2] 40, mapI bm0 mk_, box bb0 #[.slice a_fv n_fv c_fv, .slice a_fi fi.length c_fi, .slice a_fo n_fo c_fo] 30, imm (.slice a_fi fi.length c_fi) fi])
    refine z (nx (sq (rg (k (fa fl40_2 rfl rfl (k (ldX H5 0 rfl ty4 rfl rfl (by decide) rfl (z (nx ?_)))))))))
    refine cd (b := x0.2.2.1) rfl rfl (fun b1 => ?_) (fun b1 => ?_)
    ·
      refine rg (k (mv rfl s1 (k (fa fl40_3 rfl rfl (k (ldX H5 0 rfl ty3 rfl rfl (by decide) rfl (k (fa fl40_4 rfl rfl (k (ldX H5 0 rfl ty3 rfl rfl (by decide) rfl (k (bd (v := .agg #[.int .i64 x0.2.2.2.1, .int .i64 x0.2.2.2.2]) rfl (pbc rfl (pbc rfl pb0)) (fun _ => by kernel_rfl) (k (mv (v := .int .i64 (j : Int)) rfl rfl (k (mup (k := (x0.2.2.2.1, x0.2.2.2.2)) mp87 H5 1 rfl rfl rfl rfl rfl rfl rfl (by unfold I64 at *; omega) ?_))))))))))))))))
      intro w5 (H6 : HI M w w5 [box bb1 #[.int .i64 x0.1, .int .i64 x0.2.1, .bool x0.2.2.1, .int .i64 x0.2.2.2.1, .int .i64 x0.2.2.2.2] 40, mapI bm0 (putM mk_ (x0.2.2.2.1, x0.2.2.2.2) (j : Int)), box bb0 #[.slice a_fv n_fv c_fv, .slice a_fi fi.length c_fi, .slice a_fo n_fo c_fo] 30, imm (.slice a_fi fi.length c_fi) fi])
      refine z (inb_normal (nx (rg (k (add rfl rfl s4 rfl (by unfold I64 at *; omega) (k (mv (v := .int .i64 ((j : Int) + 1)) rfl rfl (z ?_))))))))
      have H7 : HI M w w5 [mapI bm0 (putM mk_ (x0.2.2.2.1, x0.2.2.2.2) (j : Int)), box bb0 #[.slice a_fv n_fv c_fv, .slice a_fi fi.length c_fi, .slice a_fo n_fo c_fo] 30, imm (.slice a_fi fi.length c_fi) fi] := H6.pickN [1, 2, 3] (by decide) rfl
      refine loopN _ ?_ ⟨(j + 1), (putM mk_ (x0.2.2.2.1, x0.2.2.2.2) (j : Int)), rfl, s0, s1, s2, s3, (ieq rfl (by first | rfl | omega | (push_cast; omega))), H7, (by first | assumption | omega | simp | (simp; omega)), (by rw [hm]; first | exact lastM_write hx0 b1 | exact lastM_read hx0 b1)⟩
      omega
    ·
      refine sk (inb_normal (nx (rg (k (add rfl rfl s4 rfl (by unfold I64 at *; omega) (k (mv (v := .int .i64 ((j : Int) + 1)) rfl rfl (z ?_))))))))
      have H6 : HI M w w4 [mapI bm0 mk_, box bb0 #[.slice a_fv n_fv c_fv, .slice a_fi fi.length c_fi, .slice a_fo n_fo c_fo] 30, imm (.slice a_fi fi.length c_fi) fi] := H5.pickN [1, 2, 3] (by decide) rfl
      refine loopN _ ?_ ⟨(j + 1), mk_, rfl, s0, s1, s2, s3, (ieq rfl (by first | rfl | omega | (push_cast; omega))), H6, (by first | assumption | omega | simp | (simp; omega)), (by rw [hm]; first | exact lastM_write hx0 b1 | exact lastM_read hx0 b1)⟩
      omega
  ·
    have p0 := of_decide_eq_false b0
    refine ex (then_exit (loop_exit (inb_here (nx (sq (rg (k (fa fl30_1 rfl s0 (k (ldX H3 1 rfl ty27 rfl rfl (by decide) rfl (k (lnS rfl rfl un27 (k (mk (m := fi.length) (zx := (0 : Int)) H3 rfl rfl rfl rfl un28 ty3 (fun _ _ => ⟨rfl, by unfold I64; omega⟩) (by omega) (by omega) ?_))))))))))))))
    intro g0 w3 xt2 (H4 : HI M w w3 [own w.heap.size 3 (.slice (some ⟨g0, 0, none⟩) fi.length fi.length) (List.replicate fi.length (0 : Int)), mapI bm0 mk_, box bb0 #[.slice a_fv n_fv c_fv, .slice a_fi fi.length c_fi, .slice a_fo n_fo c_fo] 30, imm (.slice a_fi fi.length c_fi) fi])
    refine k (asg (v := .slice (some ⟨g0, 0, none⟩) fi.length fi.length) rfl rfl (z (nx (sq (sq (rg (k (fa fl30_1 rfl s0 (k (ldX H4 2 rfl ty27 rfl rfl (by decide) rfl (k (lnS rfl rfl un27 (k (mv (v := .int .i64 0) rfl rfl (z (nx (bk ?_)))))))))))))))))
    refine lp (fun m f w' => ∃ (q : Nat) (xs : List Int), m = fi.length - q ∧ f 3 = .map (some bm0) ∧ f 6 = .slice (some ⟨g0, 0, none⟩) fi.length fi.length ∧ f 35 = .slice a_fi fi.length c_fi ∧ f 36 = .int .i64 (fi.length : Int) ∧ f 37 = .int .i64 (q : Int) ∧  HI M w w' [own w.heap.size 3 (.slice (some ⟨g0, 0, none⟩) fi.length fi.length) xs, mapI bm0 mk_, box bb0 #[.slice a_fv n_fv c_fv, .slice a_fi fi.length c_fi, .slice a_fo n_fo c_fo] 30, imm (.slice a_fi fi.length c_fi) fi] ∧ (q ≤ fi.length) ∧ (xs.length = fi.length) ∧ (xs = frTo mk_ fi q)) _ ⟨0, (List.replicate fi.length (0 : Int)), rfl, s1, rfl, rfl, rfl, (ieq rfl (by first | rfl | omega | simp)), H4, (by first | assumption | omega | simp | (simp; omega)), (by simp), (by exact frTo_zero _ _)⟩ ?_
    rintro _ f1 w4 ⟨q, xs, rfl, s5, s6, s7, s8, s9, H5, hq_, hl, hs⟩
    refine sq (rg (k (lss rfl rfl s9 s8 (z (nx (sq ?_))))))
    refine cd (b := decide ((q : Int) < (fi.length : Int))) rfl rfl (fun b1 => ?_) (fun b1 => ?_)
    ·
      have p1 := of_decide_eq_true b1
      refine sk (nx (sq (bk (sq (rg (k (mv rfl s9 (k (ia (H5.rv 3 rfl) rfl rfl s7 s9 (by first | omega | (simp; omega)) un27 ty40 ?_)))))))))
      intro ad0 x0 hx0 hA0
      refine k (ldW hA0.w ty40 rfl rfl ?_)
      intro v0 rv0
      obtain ⟨_, ⟨_, _, rfl, ⟨rfl, rv1⟩, ⟨_, _, rfl, ⟨rfl, rv2⟩, ⟨_, _, rfl, rfl, ⟨_, _, rfl, ⟨rfl, rv3⟩, ⟨rfl, rv4⟩⟩⟩⟩⟩, rfl⟩ := rv0
      refine k (al H5 ty40 ?_)
      intro bb1 w5 xt3 (H6 : HI M w w5 [box bb1 #[.int .i64 0, .int .i64 0, .bool false, .int .i64 0, .int .i64 0] 40, own w.heap.size 3 (.slice (some ⟨g0, 0, none⟩) fi.length fi.length) xs, mapI bm0 mk_, box bb0 #[.slice a_fv n_fv c_fv, .slice a_fi fi.length c_fi, .slice a_fo n_fo c_fo] 30, imm (.slice a_fi fi.length c_fi) fi])
      refine k (asg (v := .int .i64 (q : Int)) rfl rfl (k (stX H6 0 rfl ty40 rfl rfl rfl rfl rfl rfl rfl ?_)))
      intro w6 (H7 : HI M w w6 [box bb1 #[.int .i64 x0.1, .int .i64 x0.2.1, .bool x0.2.2.1, .int .i64 x0.2.2.2.1, .int .i64 x0.2.2.2.2] 40, own w.heap.size 3 (.slice (some ⟨g0, 0, none⟩) fi.length fi.length) xs, mapI bm0 mk_, box bb0 #[.slice a_fv n_fv c_fv, .slice a_fi fi.length c_fi, .slice a_fo n_fo c_fo] 30, imm (.slice a_fi fi.length c_fi) fi])
      refine z (nx (sq (rg (k (mv rfl s5 (k (fa fl40_3 rfl rfl (k (ldX H7 0 rfl ty3 rfl rfl (by decide) rfl (k (fa fl40_4 rfl rfl (k (ldX H7 0 rfl ty3 rfl rfl (by decide) rfl (k (bd (v := .agg #[.int .i64 x0.2.2.2.1, .int .i64 x0.2.2.2.2]) rfl (pbc rfl (pbc rfl pb0)) (fun _ => by kernel_rfl) (k (mlk (k := (x0.2.2.2.1, x0.2.2.2.2)) mp87 H7 2 rfl rfl rfl rfl rfl ?_)))))))))))))))))
      intro rv5
      refine k (mv (v := .tuple #[.int .i64 ((getM mk_ (x0.2.2.2.1, x0.2.2.2.2)).getD 0), .bool ((getM mk_ (x0.2.2.2.1, x0.2.2.2.2)).isSome)]) rfl rfl (k (xt rfl rfl rfl (k (xt rfl rfl rfl (k (asg (v := .int .i64 ((getM mk_ (x0.2.2.2.1, x0.2.2.2.2)).getD 0)) rfl rfl (k (asg (v := .bool ((getM mk_ (x0.2.2.2.1, x0.2.2.2.2)).isSome)) rfl rfl (z (nx (bk (sq (rg (k (fa fl40_2 rfl rfl (k (ldX H7 0 rfl ty4 rfl rfl (by decide) rfl (k (asg (v := .bool x0.2.2.1) rfl rfl (z (nx ?_))))))))))))))))))))))
      refine cd (b := x0.2.2.1) rfl rfl (fun b2 => ?_) (fun b2 => ?_)
      ·
        refine rg (k (mv rfl s6 (k (mv (v := .int .i64 (q : Int)) rfl rfl (k (iaO (H7.at_ 1 rfl) rfl rfl rfl rfl (by first | omega | (simp; omega)) un28 ty3 ?_))))))
        intro g1 x1 hv0 hx1 hA1
        refine k (stO H7 1 rfl hv0 rfl (by first | omega | (simp; omega)) ty3 rfl rfl rfl rfl (RV.int.2 ⟨rfl, (by unfold I64 at *; omega)⟩) ?_)
        intro w7 (H8 : HI M w w7 [box bb1 #[.int .i64 x0.1, .int .i64 x0.2.1, .bool x0.2.2.1, .int .i64 x0.2.2.2.1, .int .i64 x0.2.2.2.2] 40, own w.heap.size 3 (.slice (some ⟨g0, 0, none⟩) fi.length fi.length) (xs.set ((q : Int).toNat) (-3)), mapI bm0 mk_, box bb0 #[.slice a_fv n_fv c_fv, .slice a_fi fi.length c_fi, .slice a_fo n_fo c_fo] 30, imm (.slice a_fi fi.length c_fi) fi])
        refine z (inb_normal (inb_normal (nx (rg (k (add rfl rfl s9 rfl (by unfold I64 at *; omega) (k (mv (v := .int .i64 ((q : Int) + 1)) rfl rfl (z ?_)))))))))
        have H9 : HI M w w7 [own w.heap.size 3 (.slice (some ⟨g0, 0, none⟩) fi.length fi.length) (xs.set ((q : Int).toNat) (-3)), mapI bm0 mk_, box bb0 #[.slice a_fv n_fv c_fv, .slice a_fi fi.length c_fi, .slice a_fo n_fo c_fo] 30, imm (.slice a_fi fi.length c_fi) fi] := H8.pickN [1, 2, 3, 4] (by decide) rfl
        refine loopN _ ?_ ⟨(q + 1), (xs.set ((q : Int).toNat) (-3)), rfl, s5, s6, s7, s8, (ieq rfl (by first | rfl | omega | (push_cast; omega))), H9, (by first | assumption | omega | simp | (simp; omega)), (by simpa using hl), (by rw [hs]; first | exact frTo_set hx0 (frM_w b2) | exact frTo_set hx0 (frM_0 b2 p3) | exact frTo_set hx0 (frM_s b2 p3 b4) | exact frTo_set hx0 (frM_n b2 p3 b4))⟩
        omega
      ·
        refine sq (rg (k (fa fl40_4 rfl rfl (k (ldX H7 0 rfl ty3 rfl rfl (by decide) rfl (k (eql rfl rfl rfl rfl (k (asg (v := .bool (decide (x0.2.2.2.2 = 0))) rfl rfl (z (nx ?_)))))))))))
        refine cd (b := decide (x0.2.2.2.2 = 0)) rfl rfl (fun b3 => ?_) (fun b3 => ?_)
        ·
          have p3 := of_decide_eq_true b3
          refine rg (k (mv rfl s6 (k (mv (v := .int .i64 (q : Int)) rfl rfl (k (iaO (H7.at_ 1 rfl) rfl rfl rfl rfl (by first | omega | (simp; omega)) un28 ty3 ?_))))))
          intro g1 x1 hv0 hx1 hA1
          refine k (stO H7 1 rfl hv0 rfl (by first | omega | (simp; omega)) ty3 rfl rfl rfl rfl (RV.int.2 ⟨rfl, (by unfold I64 at *; omega)⟩) ?_)
          intro w7 (H8 : HI M w w7 [box bb1 #[.int .i64 x0.1, .int .i64 x0.2.1, .bool x0.2.2.1, .int .i64 x0.2.2.2.1, .int .i64 x0.2.2.2.2] 40, own w.heap.size 3 (.slice (some ⟨g0, 0, none⟩) fi.length fi.length) (xs.set ((q : Int).toNat) (-1)), mapI bm0 mk_, box bb0 #[.slice a_fv n_fv c_fv, .slice a_fi fi.length c_fi, .slice a_fo n_fo c_fo] 30, imm (.slice a_fi fi.length c_fi) fi])
          refine z (inb_normal (inb_normal (nx (rg (k (add rfl rfl s9 rfl (by unfold I64 at *; omega) (k (mv (v := .int .i64 ((q : Int) + 1)) rfl rfl (z ?_)))))))))
          have H9 : HI M w w7 [own w.heap.size 3 (.slice (some ⟨g0, 0, none⟩) fi.length fi.length) (xs.set ((q : Int).toNat) (-1)), mapI bm0 mk_, box bb0 #[.slice a_fv n_fv c_fv, .slice a_fi fi.length c_fi, .slice a_fo n_fo c_fo] 30, imm (.slice a_fi fi.length c_fi) fi] := H8.pickN [1, 2, 3, 4] (by decide) rfl
          refine loopN _ ?_ ⟨(q + 1), (xs.set ((q : Int).toNat) (-1)), rfl, s5, s6, s7, s8, (ieq rfl (by first | rfl | omega | (push_cast; omega))), H9, (by first | assumption | omega | simp | (simp; omega)), (by simpa using hl), (by rw [hs]; first | exact frTo_set hx0 (frM_w b2) | exact frTo_set hx0 (frM_0 b2 p3) | exact frTo_set hx0 (frM_s b2 p3 b4) | exact frTo_set hx0 (frM_n b2 p3 b4))⟩
          omega
        ·
          have p3 := of_decide_eq_false b3
          refine sq (rg (k (mv (v := .bool ((getM mk_ (x0.2.2.2.1, x0.2.2.2.2)).isSome)) rfl rfl (k (asg (v := .bool ((getM mk_ (x0.2.2.2.1, x0.2.2.2.2)).isSome)) rfl rfl (z (nx ?_)))))))
          refine cd (b := (getM mk_ (x0.2.2.2.1, x0.2.2.2.2)).isSome) rfl rfl (fun b4 => ?_) (fun b4 => ?_)
          ·
            refine rg (k (mv rfl s6 (k (mv (v := .int .i64 (q : Int)) rfl rfl (k (mv (v := .int .i64 ((getM mk_ (x0.2.2.2.1, x0.2.2.2.2)).getD 0)) rfl rfl (k (iaO (H7.at_ 1 rfl) rfl rfl rfl rfl (by first | omega | (simp; omega)) un28 ty3 ?_))))))))
            intro g1 x1 hv0 hx1 hA1
            refine k (stO H7 1 rfl hv0 rfl (by first | omega | (simp; omega)) ty3 rfl rfl rfl rfl (RV.int.2 ⟨rfl, (by unfold I64 at *; omega)⟩) ?_)
            intro w7 (H8 : HI M w w7 [box bb1 #[.int .i64 x0.1, .int .i64 x0.2.1, .bool x0.2.2.1, .int .i64 x0.2.2.2.1, .int .i64 x0.2.2.2.2] 40, own w.heap.size 3 (.slice (some ⟨g0, 0, none⟩) fi.length fi.length) (xs.set ((q : Int).toNat) ((getM mk_ (x0.2.2.2.1, x0.2.2.2.2)).getD 0)), mapI bm0 mk_, box bb0 #[.slice a_fv n_fv c_fv, .slice a_fi fi.length c_fi, .slice a_fo n_fo c_fo] 30, imm (.slice a_fi fi.length c_fi) fi])
            refine z (inb_normal (inb_normal (nx (rg (k (add rfl rfl s9 rfl (by unfold I64 at *; omega) (k (mv (v := .int .i64 ((q : Int) + 1)) rfl rfl (z ?_)))))))))
            have H9 : HI M w w7 [own w.heap.size 3 (.slice (some ⟨g0, 0, none⟩) fi.length fi.length) (xs.set ((q : Int).toNat) ((getM mk_ (x0.2.2.2.1, x0.2.2.2.2)).getD 0)), mapI bm0 mk_, box bb0 #[.slice a_fv n_fv c_fv, .slice a_fi fi.length c_fi, .slice a_fo n_fo c_fo] 30, imm (.slice a_fi fi.length c_fi) fi] := H8.pickN [1, 2, 3, 4] (by decide) rfl
            refine loopN _ ?_ ⟨(q + 1), (xs.set ((q : Int).toNat) ((getM mk_ (x0.2.2.2.1, x0.2.2.2.2)).getD 0)), rfl, s5, s6, s7, s8, (ieq rfl (by first | rfl | omega | (push_cast; omega))), H9, (by first | assumption | omega | simp | (simp; omega)), (by simpa using hl), (by rw [hs]; first | exact frTo_set hx0 (frM_w b2) | exact frTo_set hx0 (frM_0 b2 p3) | exact frTo_set hx0 (frM_s b2 p3 b4) | exact frTo_set hx0 (frM_n b2 p3 b4))⟩
            omega
          ·
            refine rg (k (mv rfl s6 (k (mv (v := .int .i64 (q : Int)) rfl rfl (k (iaO (H7.at_ 1 rfl) rfl rfl rfl rfl (by first | omega | (simp; omega)) un28 ty3 ?_))))))
            intro g1 x1 hv0 hx1 hA1
            refine k (stO H7 1 rfl hv0 rfl (by first | omega | (simp; omega)) ty3 rfl rfl rfl rfl (RV.int.2 ⟨rfl, (by unfold I64 at *; omega)⟩) ?_)
            intro w7 (H8 : HI M w w7 [box bb1 #[.int .i64 x0.1, .int .i64 x0.2.1, .bool x0.2.2.1, .int .i64 x0.2.2.2.1, .int .i64 x0.2.2.2.2] 40, own w.heap.size 3 (.slice (some ⟨g0, 0, none⟩) fi.length fi.length) (xs.set ((q : Int).toNat) (-2)), mapI bm0 mk_, box bb0 #[.slice a_fv n_fv c_fv, .slice a_fi fi.length c_fi, .slice a_fo n_fo c_fo] 30, imm (.slice a_fi fi.length c_fi) fi])
            refine z (inb_normal (inb_normal (nx (rg (k (add rfl rfl s9 rfl (by unfold I64 at *; omega) (k (mv (v := .int .i64 ((q : Int) + 1)) rfl rfl (z ?_)))))))))
            have H9 : HI M w w7 [own w.heap.size 3 (.slice (some ⟨g0, 0, none⟩) fi.length fi.length) (xs.set ((q : Int).toNat) (-2)), mapI bm0 mk_, box bb0 #[.slice a_fv n_fv c_fv, .slice a_fi fi.length c_fi, .slice a_fo n_fo c_fo] 30, imm (.slice a_fi fi.length c_fi) fi] := H8.pickN [1, 2, 3, 4] (by decide) rfl
            refine loopN _ ?_ ⟨(q + 1), (xs.set ((q : Int).toNat) (-2)), rfl, s5, s6, s7, s8, (ieq rfl (by first | rfl | omega | (push_cast; omega))), H9, (by first | assumption | omega | simp | (simp; omega)), (by simpa using hl), (by rw [hs]; first | exact frTo_set hx0 (frM_w b2) | exact frTo_set hx0 (frM_0 b2 p3) | exact frTo_set hx0 (frM_s b2 p3 b4) | exact frTo_set hx0 (frM_n b2 p3 b4))⟩
            omega
    ·
      have p1 := of_decide_eq_false b1
      refine ex (then_exit (loop_exit (inb_here (nx (sq (rg (k (mv rfl s6 (k (asg (v := .slice (some ⟨g0, 0, none⟩) fi.length fi.length) rfl rfl (z (nx (rt (r1 rfl rfl ?_))))))))))))))
      have e0 : (xs : List Int) = fromM fi := by rw [hs, hm]; unfold fromM; rw [frTo_end (by omega), show j = fi.length from by omega]
      have l0 : fi.length = (fromM fi).length := by rw [← e0]; omega
      have ev_ := cg1 (fun (n_0 : Nat) => (.slice (some ⟨g0, 0, none⟩) n_0 fi.length : Value)) l0
      exact ⟨(some ⟨g0, 0, none⟩), fi.length, ev_, H5.below, (congrArg (fun (n_ : Nat) => OwnsG _ _ _ (fromM fi) (.slice (some ⟨g0, 0, none⟩) n_ fi.length) _) l0).mp ((congrArg (fun (x_ : List Int) => OwnsG _ _ _ x_ (.slice (some ⟨g0, 0, none⟩) fi.length fi.length) _) e0).mp (H5.ownsG_out 0 rfl))⟩
/- eyewitness/origin.Fill -/
set_option maxRecDepth 100000 in
set_option maxHeartbeats 1600000 in
theorem origin_Fill {M : Nat → Prop} {w : World} {a_fv : Option Addr} {c_fv : Nat} {fv : List ByteArray} {a_fi : Option Addr} {c_fi : Nat} {fi : List (Int × Int × Bool × Int × Int)} {a_fo : Option Addr} {c_fo : Nat} {fo : List Int} (hM : ∀ b, M b → b < w.heap.size) (h_fv : RV M w (.slice a_fv fv.length c_fv) fv) (h_fi : RV M w (.slice a_fi fi.length c_fi) fi) (h_fo : RV M w (.slice a_fo fo.length c_fo) fo) (hn_fi : fi.length ≤ 4096) : Calls Try.prog 22 #[.agg #[.slice a_fv fv.length c_fv, .slice a_fi fi.length c_fi, .slice a_fo fo.length c_fo]] w (Ret fun v w' => ∃ (a0 : Option Addr) (c0 : Nat) (a1 : Option Addr) (c1 : Nat) (a2 : Option Addr) (c2 : Nat), v = .agg #[.slice a0 fv.length c0, .slice a1 fi.length c1, .slice a2 (fromM fi).length c2] ∧ Ext w w' ∧ RV M w' (.slice a0 fv.length c0) fv ∧ RV M w' (.slice a1 fi.length c1) fi ∧ RV M w' (.slice a2 (fromM fi).length c2) (fromM fi)) := by
  refine enter 7 Try.func22 rfl rfl rfl fun f0 ha => ?_
  have H := HI.start (M0 := M) (w := w) hM
  have H0 := H.put (it := imm (.slice a_fv fv.length c_fv) fv) rfl (by rw [MS_nil]; exact h_fv)
  have H1 := H0.put (it := imm (.slice a_fi fi.length c_fi) fi) rfl (by rw [MS_cons_none rfl, MS_nil]; exact h_fi)
  have H2 := H1.put (it := imm (.slice a_fo fo.length c_fo) fo) rfl (by rw [MS_cons_none rfl, MS_cons_none rfl, MS_nil]; exact h_fo)
  have ln_fv := rv_len h_fv
  have ln_fi := rv_len h_fi
  have ln_fo := rv_len h_fo
  have i0 : f0 0 = .agg #[.slice a_fv fv.length c_fv, .slice a_fi fi.length c_fi, .slice a_fo fo.length c_fo] := ha 0 (by simp)
  refine sq (rg (k (bx H2 rfl i0 ?_)))
  intro bb0 w0 xt0 (H3 : HI M w w0 [box bb0 #[.slice a_fv fv.length c_fv, .slice a_fi fi.length c_fi, .slice a_fo fo.length c_fo] 30, imm (.slice a_fo fo.length c_fo) fo, imm (.slice a_fi fi.length c_fi) fi, imm (.slice a_fv fv.length c_fv) fv])
  refine k (al H3 ty30 ?_)
  intro bb1 w1 xt1 (H4 : HI M w w1 [box bb1 #[.slice none 0 0, .slice none 0 0, .slice none 0 0] 30, box bb0 #[.slice a_fv fv.length c_fv, .slice a_fi fi.length c_fi, .slice a_fo fo.length c_fo] 30, imm (.slice a_fo fo.length c_fo) fo, imm (.slice a_fi fi.length c_fi) fi, imm (.slice a_fv fv.length c_fv) fv])
  refine z (nx (sq (rg (k (ldX H4 1 rfl ty30 rfl rfl (by decide) rfl (k ?_))))))
  have cc0 := origin_from (fi := fi) (a_fv := a_fv) (n_fv := fv.length) (c_fv := c_fv) (a_fo := a_fo) (n_fo := fo.length) (c_fo := c_fo) (w := w1) H4.mb (H4.rv 3 rfl) (by assumption)
  refine ca go48 rfl (ec rfl e0) cc0 ?_
  rintro _ w2 ⟨a0, c0, rfl, xt2, rv0⟩
  have H5 := H4.ownsG rv0
  refine k (fa fl30_2 rfl rfl (k (stX H5 2 rfl ty28 rfl rfl rfl rfl rfl rfl rfl ?_)))
  intro w3 (H6 : HI M w w3 [own w.heap.size 3 (.slice a0 (fromM fi).length c0) (fromM fi), box bb1 #[.slice none 0 0, .slice none 0 0, .slice none 0 0] 30, box bb0 #[.slice a_fv fv.length c_fv, .slice a_fi fi.length c_fi, .slice a0 (fromM fi).length c0] 30, imm (.slice a_fo fo.length c_fo) fo, imm (.slice a_fi fi.length c_fi) fi, imm (.slice a_fv fv.length c_fv) fv])
  refine z (nx (sq (rg (k (ldX H6 2 rfl ty30 rfl rfl (by decide) rfl (k (stX H6 1 rfl ty30 rfl rfl rfl rfl rfl rfl rfl ?_)))))))
  intro w4 (H7 : HI M w w4 [own w.heap.size 3 (.slice a0 (fromM fi).length c0) (fromM fi), box bb1 #[.slice a_fv fv.length c_fv, .slice a_fi fi.length c_fi, .slice a0 (fromM fi).length c0] 30, box bb0 #[.slice a_fv fv.length c_fv, .slice a_fi fi.length c_fi, .slice a0 (fromM fi).length c0] 30, imm (.slice a_fo fo.length c_fo) fo, imm (.slice a_fi fi.length c_fi) fi, imm (.slice a_fv fv.length c_fv) fv])
  refine z (nx (rt (rc1 H7 1 rfl ty30 rfl rfl rfl rfl (by decide) ?_)))
  exact ⟨a_fv, c_fv, a_fi, c_fi, a0, c0, rfl, H7.below, (H7.gives_out 5 rfl), (H7.gives_out 4 rfl), (H7.outO 0 rfl)⟩
/- eyewitness/eyewitnessref11.From -/
set_option maxRecDepth 100000 in
set_option maxHeartbeats 1600000 in
theorem ref11_From {M : Nat → Prop} {w : World} {a_fv : Option Addr} {n_fv c_fv : Nat} {a_fi : Option Addr} {c_fi : Nat} {fi : List (Int × Int × Bool × Int × Int)} {a_fo : Option Addr} {n_fo c_fo : Nat} (hM : ∀ b, M b → b < w.heap.size) (h_fi : RV M w (.slice a_fi fi.length c_fi) fi) (hn_fi : fi.length ≤ 4096) : Calls Try.prog 49 #[.agg #[.slice a_fv n_fv c_fv, .slice a_fi fi.length c_fi, .slice a_fo n_fo c_fo]] w (Ret fun v w' => ∃ (a0 : Option Addr) (c0 : Nat), v = .slice a0 (fromR fi).length c0 ∧ Ext w w' ∧ OwnsG M 3 w (fromR fi) (.slice a0 (fromR fi).length c0) w') := by
  refine enter 42 Try.func49 rfl rfl rfl fun f0 ha => ?_
  have H := HI.start (M0 := M) (w := w) hM
  have H0 := H.put (it := imm (.slice a_fi fi.length c_fi) fi) rfl (by rw [MS_nil]; exact h_fi)
  have ln_fi := rv_len h_fi
  have i0 : f0 0 = .agg #[.slice a_fv n_fv c_fv, .slice a_fi fi.length c_fi, .slice a_fo n_fo c_fo] := ha 0 (by simp)
  refine sq (rg (k (bx H0 rfl i0 ?_)))
  intro bb0 w0 xt0 (H1 : HI M w w0 [box bb0 #[.slice a_fv n_fv c_fv, .slice a_fi fi.length c_fi, .slice a_fo n_fo c_fo] 30, imm (.slice a_fi fi.length c_fi) fi])
  refine k (asg (v := .slice none 0 0) rfl rfl (z (nx (sq (rg (k (asg (v := .slice none 0 0) rfl rfl (z (nx (sq (sq (rg (k (asg (v := .int .i64 0) rfl rfl (z (nx (bk ?_)))))))))))))))))
  have H2 := H1.nil_ Int 3
  refine lp (fun m f w' => ∃ (j : Nat) (xs : List Int) (a0 : Option Addr) (c0 : Nat), m = fi.length - j ∧ f 1 = .pointer (some ⟨bb0, 0, none⟩) ∧ f 3 = .slice a0 xs.length c0 ∧ f 4 = .int .i64 (j : Int) ∧  HI M w w' [own w.heap.size 3 (.slice a0 xs.length c0) xs, box bb0 #[.slice a_fv n_fv c_fv, .slice a_fi fi.length c_fi, .slice a_fo n_fo c_fo] 30, imm (.slice a_fi fi.length c_fi) fi] ∧ (j ≤ fi.length) ∧ (xs = (fi.take j).map (frI fi))) _ ⟨0, ([] : List Int), none, 0, rfl, rfl, rfl, (ieq rfl (by first | rfl | omega | simp)), H2, (by first | assumption | omega | simp | (simp; omega)), (by rfl)⟩ ?_
  rintro _ f0 w1 ⟨j, xs, a0, c0, rfl, s0, s1, s2, H3, hk, hs⟩
  refine sq (sq (rg (k (mv rfl s2 (k (fa fl30_1 rfl s0 (k (ldX H3 1 rfl ty27 rfl rfl (by decide) rfl (k (lnS rfl rfl un27 (k (lss rfl rfl rfl rfl (z (nx ?_))))))))))))))
  refine cd (b := decide ((j : Int) < (fi.length : Int))) rfl rfl (fun b0 => ?_) (fun b0 => ?_)
  ·
    have p0 := of_decide_eq_true b0
    refine sk (nx (sq (bk (sq (rg (k (fa fl30_1 rfl s0 (k (ldX H3 1 rfl ty27 rfl rfl (by decide) rfl (k (mv rfl s2 (k (ia (H3.rv 2 rfl) rfl rfl rfl rfl (by first | omega | (simp; omega)) un27 ty40 ?_)))))))))))))
    intro ad0 x0 hx0 hA0
    refine k (ldW hA0.w ty40 rfl rfl ?_)
    intro v0 rv0
    obtain ⟨_, ⟨_, _, rfl, ⟨rfl, rv1⟩, ⟨_, _, rfl, ⟨rfl, rv2⟩, ⟨_, _, rfl, rfl, ⟨_, _, rfl, ⟨rfl, rv3⟩, ⟨rfl, rv4⟩⟩⟩⟩⟩, rfl⟩ := rv0
    refine k (al H3 ty40 ?_)
    intro bb1 w2 xt1 (H4 : HI M w w2 [box bb1 #[.int .i64 0, .int .i64 0, .bool false, .int .i64 0, .int .i64 0] 40, own w.heap.size 3 (.slice a0 xs.length c0) xs, box bb0 #[.slice a_fv n_fv c_fv, .slice a_fi fi.length c_fi, .slice a_fo n_fo c_fo] 30, imm (.slice a_fi fi.length c_fi) fi])
    refine k (stX H4 0 rfl ty40 rfl rfl rfl rfl rfl rfl rfl ?_)
    intro w3 (H5 : HI M w w3 [box bb1 #[.int .i64 x0.1, .int .i64 x0.2.1, .bool x0.2.2.1, .int .i64 x0.2.2.2.1, .int .i64 x0.2.2.2.2] 40, own w.heap.size 3 (.slice a0 xs.length c0) xs, box bb0 #[.slice a_fv n_fv c_fv, .slice a_fi fi.length c_fi, .slice a_fo n_fo c_fo] 30, imm (.slice a_fi fi.length c_fi) fi])
    refine z (nx (sq (rg (k (asg (v := .int .i64 (-2)) rfl rfl (z (nx (sq (rg (k (ldX H5 2 rfl ty30 rfl s0 (by decide) rfl (k (fa fl40_3 rfl rfl (k (ldX H5 0 rfl ty3 rfl rfl (by decide) rfl (k (fa fl40_4 rfl rfl (k (ldX H5 0 rfl ty3 rfl rfl (by decide) rfl (k ?_))))))))))))))))))))
    have cc0 := ref10_Write (fi := fi) (vr := x0.2.2.2.1) (val := x0.2.2.2.2) (a_fv := a_fv) (n_fv := n_fv) (c_fv := c_fv) (a_fo := a_fo) (n_fo := n_fo) (c_fo := c_fo) (w := w3) H5.mb (H5.rv 3 rfl) (by unfold I64 at *; omega) (by unfold I64 at *; omega)
    refine ca go19 rfl (ec rfl (ec rfl (ec rfl e0))) cc0 ?_
    rintro _ w4 ⟨rfl, xt2⟩
    have H6 := H5.ext xt2
    refine k (mv (v := .tuple #[.int .i64 (max (wrI fi x0.2.2.2.1 x0.2.2.2.2) 0), .bool (decide (0 ≤ wrI fi x0.2.2.2.1 x0.2.2.2.2))]) rfl rfl (k (xt rfl rfl rfl (k (xt rfl rfl rfl (k (asg (v := .int .i64 (max (wrI fi x0.2.2.2.1 x0.2.2.2.2) 0)) rfl rfl (k (asg (v := .bool (decide (0 ≤ wrI fi x0.2.2.2.1 x0.2.2.2.2))) rfl rfl (z (nx (sq (sq (rg (k (fa fl40_2 rfl rfl (k (ldX H6 0 rfl ty4 rfl rfl (by decide) rfl (z (nx ?_))))))))))))))))))))
    refine cd (b := x0.2.2.1) rfl rfl (fun b1 => ?_) (fun b1 => ?_)
    ·
      refine rg (k (asg (v := .int .i64 (-3)) rfl rfl (z (nx (rg (k (mv rfl s1 (k (mv (v := .int .i64 (-3)) rfl rfl (k (bs (xs := ([(-3)] : List Int)) (cells := #[.int .i64 (-3)]) (e := 3) H6 rfl (pbc rfl pb0) (fun _ => by kernel_rfl) ⟨[.int .i64 (-3)], [], rfl, ⟨rfl, (show I64 ((-3)) from (by unfold I64 at *; omega))⟩, rfl⟩ rfl (by unfold maxLen; omega) ?_)))))))))))
      intro g0 w5 xt3 (H7 : HI M w w5 [own w.heap.size 3 (.slice (some ⟨g0, 0, none⟩) 1 1) ([(-3)] : List Int), box bb1 #[.int .i64 x0.1, .int .i64 x0.2.1, .bool x0.2.2.1, .int .i64 x0.2.2.2.1, .int .i64 x0.2.2.2.2] 40, own w.heap.size 3 (.slice a0 xs.length c0) xs, box bb0 #[.slice a_fv n_fv c_fv, .slice a_fi fi.length c_fi, .slice a_fo n_fo c_fo] 30, imm (.slice a_fi fi.length c_fi) fi])
      refine k (ap H7 2 rfl rfl rfl rfl rfl rfl (own_src (H7.at_ 0 rfl)) un28 ty3 rfl (by rw [hs, List.length_map, List.length_take]; simp only [List.length_cons, List.length_nil]; omega) (by rw [hs, List.length_map, List.length_take]; simp only [List.length_cons, List.length_nil]; omega) ?_)
      intro a1 c1 w6 (H8 : HI M w w6 [own w.heap.size 3 (.slice (some ⟨g0, 0, none⟩) 1 1) ([(-3)] : List Int), box bb1 #[.int .i64 x0.1, .int .i64 x0.2.1, .bool x0.2.2.1, .int .i64 x0.2.2.2.1, .int .i64 x0.2.2.2.2] 40, own w.heap.size 3 (.slice a1 (xs ++ ([(-3)] : List Int)).length c1) (xs ++ ([(-3)] : List Int)), box bb0 #[.slice a_fv n_fv c_fv, .slice a_fi fi.length c_fi, .slice a_fo n_fo c_fo] 30, imm (.slice a_fi fi.length c_fi) fi])
      refine k (asg (v := .slice a1 (xs ++ ([(-3)] : List Int)).length c1) rfl rfl (z (inb_normal (nx (rg (k (mv rfl s2 (k (add rfl rfl rfl rfl (by unfold I64 at *; omega) (k (asg (v := .int .i64 ((j : Int) + 1)) rfl rfl (z ?_))))))))))))
      have H9 : HI M w w6 [own w.heap.size 3 (.slice a1 (xs ++ ([(-3)] : List Int)).length c1) (xs ++ ([(-3)] : List Int)), box bb0 #[.slice a_fv n_fv c_fv, .slice a_fi fi.length c_fi, .slice a_fo n_fo c_fo] 30, imm (.slice a_fi fi.length c_fi) fi] := H8.pickN [2, 3, 4] (by decide) rfl
      refine loopN _ ?_ ⟨(j + 1), (xs ++ ([(-3)] : List Int)), a1, c1, rfl, s0, rfl, (ieq rfl (by first | rfl | omega | (push_cast; omega))), H9, (by first | assumption | omega | simp | (simp; omega)), (by rw [hs]; first | exact fromR_step hx0 (frI_w b1) | exact fromR_step hx0 (frI_0 b1 p2) | exact fromR_step hx0 (frI_s b1 p2 b3) | exact fromR_step hx0 (frI_n b1 p2 b3))⟩
      omega
    ·
      refine sq (rg (k (fa fl40_4 rfl rfl (k (ldX H6 0 rfl ty3 rfl rfl (by decide) rfl (k (eql rfl rfl rfl rfl (z (nx ?_)))))))))
      refine cd (b := decide (x0.2.2.2.2 = 0)) rfl rfl (fun b2 => ?_) (fun b2 => ?_)
      ·
        have p2 := of_decide_eq_true b2
        refine rg (k (asg (v := .int .i64 (-1)) rfl rfl (z (nx (rg (k (mv rfl s1 (k (mv (v := .int .i64 (-1)) rfl rfl (k (bs (xs := ([(-1)] : List Int)) (cells := #[.int .i64 (-1)]) (e := 3) H6 rfl (pbc rfl pb0) (fun _ => by kernel_rfl) ⟨[.int .i64 (-1)], [], rfl, ⟨rfl, (show I64 ((-1)) from (by unfold I64 at *; omega))⟩, rfl⟩ rfl (by unfold maxLen; omega) ?_)))))))))))
        intro g0 w5 xt3 (H7 : HI M w w5 [own w.heap.size 3 (.slice (some ⟨g0, 0, none⟩) 1 1) ([(-1)] : List Int), box bb1 #[.int .i64 x0.1, .int .i64 x0.2.1, .bool x0.2.2.1, .int .i64 x0.2.2.2.1, .int .i64 x0.2.2.2.2] 40, own w.heap.size 3 (.slice a0 xs.length c0) xs, box bb0 #[.slice a_fv n_fv c_fv, .slice a_fi fi.length c_fi, .slice a_fo n_fo c_fo] 30, imm (.slice a_fi fi.length c_fi) fi])
        refine k (ap H7 2 rfl rfl rfl rfl rfl rfl (own_src (H7.at_ 0 rfl)) un28 ty3 rfl (by rw [hs, List.length_map, List.length_take]; simp only [List.length_cons, List.length_nil]; omega) (by rw [hs, List.length_map, List.length_take]; simp only [List.length_cons, List.length_nil]; omega) ?_)
        intro a1 c1 w6 (H8 : HI M w w6 [own w.heap.size 3 (.slice (some ⟨g0, 0, none⟩) 1 1) ([(-1)] : List Int), box bb1 #[.int .i64 x0.1, .int .i64 x0.2.1, .bool x0.2.2.1, .int .i64 x0.2.2.2.1, .int .i64 x0.2.2.2.2] 40, own w.heap.size 3 (.slice a1 (xs ++ ([(-1)] : List Int)).length c1) (xs ++ ([(-1)] : List Int)), box bb0 #[.slice a_fv n_fv c_fv, .slice a_fi fi.length c_fi, .slice a_fo n_fo c_fo] 30, imm (.slice a_fi fi.length c_fi) fi])
        refine k (asg (v := .slice a1 (xs ++ ([(-1)] : List Int)).length c1) rfl rfl (z (inb_normal (nx (rg (k (mv rfl s2 (k (add rfl rfl rfl rfl (by unfold I64 at *; omega) (k (asg (v := .int .i64 ((j : Int) + 1)) rfl rfl (z ?_))))))))))))
        have H9 : HI M w w6 [own w.heap.size 3 (.slice a1 (xs ++ ([(-1)] : List Int)).length c1) (xs ++ ([(-1)] : List Int)), box bb0 #[.slice a_fv n_fv c_fv, .slice a_fi fi.length c_fi, .slice a_fo n_fo c_fo] 30, imm (.slice a_fi fi.length c_fi) fi] := H8.pickN [2, 3, 4] (by decide) rfl
        refine loopN _ ?_ ⟨(j + 1), (xs ++ ([(-1)] : List Int)), a1, c1, rfl, s0, rfl, (ieq rfl (by first | rfl | omega | (push_cast; omega))), H9, (by first | assumption | omega | simp | (simp; omega)), (by rw [hs]; first | exact fromR_step hx0 (frI_w b1) | exact fromR_step hx0 (frI_0 b1 p2) | exact fromR_step hx0 (frI_s b1 p2 b3) | exact fromR_step hx0 (frI_n b1 p2 b3))⟩
        omega
      ·
        have p2 := of_decide_eq_false b2
        refine sq (rg (k (mv (v := .bool (decide (0 ≤ wrI fi x0.2.2.2.1 x0.2.2.2.2))) rfl rfl (z (nx ?_)))))
        refine cd (b := decide (0 ≤ wrI fi x0.2.2.2.1 x0.2.2.2.2)) rfl rfl (fun b3 => ?_) (fun b3 => ?_)
        ·
          have p3 := of_decide_eq_true b3
          refine rg (k (mv (v := .int .i64 (max (wrI fi x0.2.2.2.1 x0.2.2.2.2) 0)) rfl rfl (k (asg (v := .int .i64 (max (wrI fi x0.2.2.2.1 x0.2.2.2.2) 0)) rfl rfl (z (nx (rg (k (mv rfl s1 (k (mv (v := .int .i64 (max (wrI fi x0.2.2.2.1 x0.2.2.2.2) 0)) rfl rfl (k (bs (xs := ([(max (wrI fi x0.2.2.2.1 x0.2.2.2.2) 0)] : List Int)) (cells := #[.int .i64 (max (wrI fi x0.2.2.2.1 x0.2.2.2.2) 0)]) (e := 3) H6 rfl (pbc rfl pb0) (fun _ => by kernel_rfl) ⟨[.int .i64 (max (wrI fi x0.2.2.2.1 x0.2.2.2.2) 0)], [], rfl, ⟨rfl, (show I64 ((max (wrI fi x0.2.2.2.1 x0.2.2.2.2) 0)) from (by have h_ := idxF_range (p := isW x0.2.2.2.1 x0.2.2.2.2) (r := fi); unfold wrI; unfold I64; omega))⟩, rfl⟩ rfl (by unfold maxLen; omega) ?_)))))))))))))
          intro g0 w5 xt3 (H7 : HI M w w5 [own w.heap.size 3 (.slice (some ⟨g0, 0, none⟩) 1 1) ([(max (wrI fi x0.2.2.2.1 x0.2.2.2.2) 0)] : List Int), box bb1 #[.int .i64 x0.1, .int .i64 x0.2.1, .bool x0.2.2.1, .int .i64 x0.2.2.2.1, .int .i64 x0.2.2.2.2] 40, own w.heap.size 3 (.slice a0 xs.length c0) xs, box bb0 #[.slice a_fv n_fv c_fv, .slice a_fi fi.length c_fi, .slice a_fo n_fo c_fo] 30, imm (.slice a_fi fi.length c_fi) fi])
          refine k (ap H7 2 rfl rfl rfl rfl rfl rfl (own_src (H7.at_ 0 rfl)) un28 ty3 rfl (by rw [hs, List.length_map, List.length_take]; simp only [List.length_cons, List.length_nil]; omega) (by rw [hs, List.length_map, List.length_take]; simp only [List.length_cons, List.length_nil]; omega) ?_)
          intro a1 c1 w6 (H8 : HI M w w6 [own w.heap.size 3 (.slice (some ⟨g0, 0, none⟩) 1 1) ([(max (wrI fi x0.2.2.2.1 x0.2.2.2.2) 0)] : List Int), box bb1 #[.int .i64 x0.1, .int .i64 x0.2.1, .bool x0.2.2.1, .int .i64 x0.2.2.2.1, .int .i64 x0.2.2.2.2] 40, own w.heap.size 3 (.slice a1 (xs ++ ([(max (wrI fi x0.2.2.2.1 x0.2.2.2.2) 0)] : List Int)).length c1) (xs ++ ([(max (wrI fi x0.2.2.2.1 x0.2.2.2.2) 0)] : List Int)), box bb0 #[.slice a_fv n_fv c_fv, .slice a_fi fi.length c_fi, .slice a_fo n_fo c_fo] 30, imm (.slice a_fi fi.length c_fi) fi])
          refine k (asg (v := .slice a1 (xs ++ ([(max (wrI fi x0.2.2.2.1 x0.2.2.2.2) 0)] : List Int)).length c1) rfl rfl (z (inb_normal (nx (rg (k (mv rfl s2 (k (add rfl rfl rfl rfl (by unfold I64 at *; omega) (k (asg (v := .int .i64 ((j : Int) + 1)) rfl rfl (z ?_))))))))))))
          have H9 : HI M w w6 [own w.heap.size 3 (.slice a1 (xs ++ ([(max (wrI fi x0.2.2.2.1 x0.2.2.2.2) 0)] : List Int)).length c1) (xs ++ ([(max (wrI fi x0.2.2.2.1 x0.2.2.2.2) 0)] : List Int)), box bb0 #[.slice a_fv n_fv c_fv, .slice a_fi fi.length c_fi, .slice a_fo n_fo c_fo] 30, imm (.slice a_fi fi.length c_fi) fi] := H8.pickN [2, 3, 4] (by decide) rfl
          refine loopN _ ?_ ⟨(j + 1), (xs ++ ([(max (wrI fi x0.2.2.2.1 x0.2.2.2.2) 0)] : List Int)), a1, c1, rfl, s0, rfl, (ieq rfl (by first | rfl | omega | (push_cast; omega))), H9, (by first | assumption | omega | simp | (simp; omega)), (by rw [hs]; first | exact fromR_step hx0 (frI_w b1) | exact fromR_step hx0 (frI_0 b1 p2) | exact fromR_step hx0 (frI_s b1 p2 b3) | exact fromR_step hx0 (frI_n b1 p2 b3))⟩
          omega
        ·
          have p3 := of_decide_eq_false b3
          refine sk (nx (rg (k (mv rfl s1 (k (mv (v := .int .i64 (-2)) rfl rfl (k (bs (xs := ([(-2)] : List Int)) (cells := #[.int .i64 (-2)]) (e := 3) H6 rfl (pbc rfl pb0) (fun _ => by kernel_rfl) ⟨[.int .i64 (-2)], [], rfl, ⟨rfl, (show I64 ((-2)) from (by unfold I64 at *; omega))⟩, rfl⟩ rfl (by unfold maxLen; omega) ?_))))))))
          intro g0 w5 xt3 (H7 : HI M w w5 [own w.heap.size 3 (.slice (some ⟨g0, 0, none⟩) 1 1) ([(-2)] : List Int), box bb1 #[.int .i64 x0.1, .int .i64 x0.2.1, .bool x0.2.2.1, .int .i64 x0.2.2.2.1, .int .i64 x0.2.2.2.2] 40, own w.heap.size 3 (.slice a0 xs.length c0) xs, box bb0 #[.slice a_fv n_fv c_fv, .slice a_fi fi.length c_fi, .slice a_fo n_fo c_fo] 30, imm (.slice a_fi fi.length c_fi) fi])
          refine k (ap H7 2 rfl rfl rfl rfl rfl rfl (own_src (H7.at_ 0 rfl)) un28 ty3 rfl (by rw [hs, List.length_map, List.length_take]; simp only [List.length_cons, List.length_nil]; omega) (by rw [hs, List.length_map, List.length_take]; simp only [List.length_cons, List.length_nil]; omega) ?_)
          intro a1 c1 w6 (H8 : HI M w w6 [own w.heap.size 3 (.slice (some ⟨g0, 0, none⟩) 1 1) ([(-2)] : List Int), box bb1 #[.int .i64 x0.1, .int .i64 x0.2.1, .bool x0.2.2.1, .int .i64 x0.2.2.2.1, .int .i64 x0.2.2.2.2] 40, own w.heap.size 3 (.slice a1 (xs ++ ([(-2)] : List Int)).length c1) (xs ++ ([(-2)] : List Int)), box bb0 #[.slice a_fv n_fv c_fv, .slice a_fi fi.length c_fi, .slice a_fo n_fo c_fo] 30, imm (.slice a_fi fi.length c_fi) fi])
          refine k (asg (v := .slice a1 (xs ++ ([(-2)] : List Int)).length c1) rfl rfl (z (inb_normal (nx (rg (k (mv rfl s2 (k (add rfl rfl rfl rfl (by unfold I64 at *; omega) (k (asg (v := .int .i64 ((j : Int) + 1)) rfl rfl (z ?_))))))))))))
          have H9 : HI M w w6 [own w.heap.size 3 (.slice a1 (xs ++ ([(-2)] : List Int)).length c1) (xs ++ ([(-2)] : List Int)), box bb0 #[.slice a_fv n_fv c_fv, .slice a_fi fi.length c_fi, .slice a_fo n_fo c_fo] 30, imm (.slice a_fi fi.length c_fi) fi] := H8.pickN [2, 3, 4] (by decide) rfl
          refine loopN _ ?_ ⟨(j + 1), (xs ++ ([(-2)] : List Int)), a1, c1, rfl, s0, rfl, (ieq rfl (by first | rfl | omega | (push_cast; omega))), H9, (by first | assumption | omega | simp | (simp; omega)), (by rw [hs]; first | exact fromR_step hx0 (frI_w b1) | exact fromR_step hx0 (frI_0 b1 p2) | exact fromR_step hx0 (frI_s b1 p2 b3) | exact fromR_step hx0 (frI_n b1 p2 b3))⟩
          omega
  ·
    have p0 := of_decide_eq_false b0
    refine ex (then_exit (loop_exit (inb_here (nx (sq (rg (k (mv rfl s1 (k (asg (v := .slice a0 xs.length c0) rfl rfl (z (nx (rt (r1 rfl rfl ?_))))))))))))))
    have e0 : (xs : List Int) = fromR fi := by rw [hs]; unfold fromR; rw [take_end (by omega)]
    have ev_ := cg1 (fun (x_0 : List Int) => (.slice a0 x_0.length c0 : Value)) e0
    exact ⟨a0, c0, ev_, H3.below, (congrArg (fun (x_ : List Int) => OwnsG _ _ _ x_ (.slice a0 x_.length c0) _) e0).mp (H3.ownsG_out 0 rfl)⟩
/- eyewitness/eyewitnessref11.Fill -/
set_option maxRecDepth 100000 in
set_option maxHeartbeats 1600000 in
theorem ref11_Fill {M : Nat → Prop} {w : World} {a_fv : Option Addr} {c_fv : Nat} {fv : List ByteArray} {a_fi : Option Addr} {c_fi : Nat} {fi : List (Int × Int × Bool × Int × Int)} {a_fo : Option Addr} {c_fo : Nat} {fo : List Int} (hM : ∀ b, M b → b < w.heap.size) (h_fv : RV M w (.slice a_fv fv.length c_fv) fv) (h_fi : RV M w (.slice a_fi fi.length c_fi) fi) (h_fo : RV M w (.slice a_fo fo.length c_fo) fo) (hn_fi : fi.length ≤ 4096) : Calls Try.prog 23 #[.agg #[.slice a_fv fv.length c_fv, .slice a_fi fi.length c_fi, .slice a_fo fo.length c_fo]] w (Ret fun v w' => ∃ (a0 : Option Addr) (c0 : Nat) (a1 : Option Addr) (c1 : Nat) (a2 : Option Addr) (c2 : Nat), v = .agg #[.slice a0 fv.length c0, .slice a1 fi.length c1, .slice a2 (fromR fi).length c2] ∧ Ext w w' ∧ RV M w' (.slice a0 fv.length c0) fv ∧ RV M w' (.slice a1 fi.length c1) fi ∧ RV M w' (.slice a2 (fromR fi).length c2) (fromR fi)) := by
  refine enter 10 Try.func23 rfl rfl rfl fun f0 ha => ?_
  have H := HI.start (M0 := M) (w := w) hM
  have H0 := H.put (it := imm (.slice a_fv fv.length c_fv) fv) rfl (by rw [MS_nil]; exact h_fv)
  have H1 := H0.put (it := imm (.slice a_fi fi.length c_fi) fi) rfl (by rw [MS_cons_none rfl, MS_nil]; exact h_fi)
  have H2 := H1.put (it := imm (.slice a_fo fo.length c_fo) fo) rfl (by rw [MS_cons_none rfl, MS_cons_none rfl, MS_nil]; exact h_fo)
  have ln_fv := rv_len h_fv
  have ln_fi := rv_len h_fi
  have ln_fo := rv_len h_fo
  have i0 : f0 0 = .agg #[.slice a_fv fv.length c_fv, .slice a_fi fi.length c_fi, .slice a_fo fo.length c_fo] := ha 0 (by simp)
  refine sq (rg (k (bx H2 rfl i0 ?_)))
  intro bb0 w0 xt0 (H3 : HI M w w0 [box bb0 #[.slice a_fv fv.length c_fv, .slice a_fi fi.length c_fi, .slice a_fo fo.length c_fo] 30, imm (.slice a_fo fo.length c_fo) fo, imm (.slice a_fi fi.length c_fi) fi, imm (.slice a_fv fv.length c_fv) fv])
  refine k (al H3 ty30 ?_)
  intro bb1 w1 xt1 (H4 : HI M w w1 [box bb1 #[.slice none 0 0, .slice none 0 0, .slice none 0 0] 30, box bb0 #[.slice a_fv fv.length c_fv, .slice a_fi fi.length c_fi, .slice a_fo fo.length c_fo] 30, imm (.slice a_fo fo.length c_fo) fo, imm (.slice a_fi fi.length c_fi) fi, imm (.slice a_fv fv.length c_fv) fv])
  refine z (nx (sq ?_))
  refine dr 6 [fun (v : Value) (w' : World) => v = .pointer (some ⟨bb0, 0, none⟩), fun (v : Value) (w' : World) => v = .slice a_fv fv.length c_fv, fun (v : Value) (w' : World) => v = .pointer (some ⟨bb0, 1, none⟩), fun (v : Value) (w' : World) => v = .slice a_fi fi.length c_fi, fun (v : Value) (w' : World) => v = .agg #[.slice a_fv fv.length c_fv, .slice a_fi fi.length c_fi, .slice a_fo fo.length c_fo], fun (v : Value) (w' : World) => ∃ (a0 : Option Addr) (c0 : Nat), v = .slice a0 (fromR fi).length c0 ∧ RV (MS M [box bb1 #[.slice none 0 0, .slice none 0 0, .slice none 0 0] 30, box bb0 #[.slice a_fv fv.length c_fv, .slice a_fi fi.length c_fi, .slice a_fo fo.length c_fo] 30, imm (.slice a_fo fo.length c_fo) fo, imm (.slice a_fi fi.length c_fi) fi, imm (.slice a_fv fv.length c_fv) fv]) w' (.slice a0 (fromR fi).length c0) (fromR fi)] rfl (by kernel_rfl) ?_ ?_
  ·
    refine ⟨fun _ => ⟨fun f0 w3 hf0 xt3 hp0 => ?_, fun _ _ _ _ h => h⟩, ?_⟩
    ·
      have H7 := H4.ext xt3
      refine fa fl30_0 rfl (hf0 1 rfl) ?_
      exact ⟨_, rfl, Ext.refl _, rfl⟩
    refine ⟨fun _ => ⟨fun f1 w4 hf1 xt4 hp1 => ?_, fun _ _ _ _ h => h⟩, ?_⟩
    ·
      have H8 := H4.ext xt4
      have s0 : f1 3 = .pointer (some ⟨bb0, 0, none⟩) := hp1 0 rfl rfl
      refine ldX H8 1 rfl ty26 rfl s0 (by decide) rfl ?_
      exact ⟨_, rfl, Ext.refl _, rfl⟩
    refine ⟨fun _ => ⟨fun f2 w5 hf2 xt5 hp2 => ?_, fun _ _ _ _ h => h⟩, ?_⟩
    ·
      have H9 := H4.ext xt5
      refine fa fl30_1 rfl (hf2 1 rfl) ?_
      exact ⟨_, rfl, Ext.refl _, rfl⟩
    refine ⟨fun _ => ⟨fun f3 w6 hf3 xt6 hp3 => ?_, fun _ _ _ _ h => h⟩, ?_⟩
    ·
      have H10 := H4.ext xt6
      have s1 : f3 5 = .pointer (some ⟨bb0, 1, none⟩) := hp3 2 rfl rfl
      refine ldX H10 1 rfl ty27 rfl s1 (by decide) rfl ?_
      exact ⟨_, rfl, Ext.refl _, rfl⟩
    refine ⟨fun _ => ⟨fun f4 w7 hf4 xt7 hp4 => ?_, fun _ _ _ _ h => h⟩, ?_⟩
    ·
      have H11 := H4.ext xt7
      refine ldX H11 1 rfl ty30 rfl (hf4 1 rfl) (by decide) rfl ?_
      exact ⟨_, rfl, Ext.refl _, rfl⟩
    refine ⟨fun _ => ⟨fun f5 w8 hf5 xt8 hp5 => ?_, by rintro _ _ _ x_ ⟨a0, c0, e_, rv1⟩; exact ⟨a0, c0, e_, rv1.lift (Up.ext x_)⟩⟩, ?_⟩
    ·
      have H12 := H4.ext xt8
      have s2 : f5 7 = .agg #[.slice a_fv fv.length c_fv, .slice a_fi fi.length c_fi, .slice a_fo fo.length c_fo] := hp5 4 rfl rfl
      have cc1 := ref11_From (fi := fi) (a_fv := a_fv) (n_fv := fv.length) (c_fv := c_fv) (a_fo := a_fo) (n_fo := fo.length) (c_fo := c_fo) (w := w8) H12.mb (H12.rv 3 rfl) (by assumption)
      refine ca go49 rfl (ec s2 e0) cc1 ?_
      rintro _ w9 ⟨a1, c1, rfl, xt9, rv2⟩
      have rv3 := OwnsG.rv rv2 H12.mb
      have H13 := H12.ext xt9
      have H14 := H13.put (it := imm (.slice a1 (fromR fi).length c1) (fromR fi)) rfl rv3
      exact ⟨_, rfl, xt9, ⟨a1, c1, rfl, rv3⟩⟩
    exact DSteps.rest rfl _
  · intro f6 w10 hf6 xt10 hp6
    have H15 := H4.ext xt10
    have s3 : f6 2 = .pointer (some ⟨bb1, 0, none⟩) := hf6 2 rfl
    have s4 : f6 4 = .slice a_fv fv.length c_fv := hp6 1 rfl
    have s5 : f6 6 = .slice a_fi fi.length c_fi := hp6 3 rfl
    obtain ⟨a2, c2, s6, rv4⟩ : ∃ (a2 : Option Addr) (c2 : Nat), f6 8 = .slice a2 (fromR fi).length c2 ∧ RV (MS M [box bb1 #[.slice none 0 0, .slice none 0 0, .slice none 0 0] 30, box bb0 #[.slice a_fv fv.length c_fv, .slice a_fi fi.length c_fi, .slice a_fo fo.length c_fo] 30, imm (.slice a_fo fo.length c_fo) fo, imm (.slice a_fi fi.length c_fi) fi, imm (.slice a_fv fv.length c_fv) fv]) w10 (.slice a2 (fromR fi).length c2) (fromR fi) := hp6 5 rfl
    have H16 := H15.put (it := imm (.slice a2 (fromR fi).length c2) (fromR fi)) rfl rv4
    refine k (bd (v := .agg #[.slice a_fv fv.length c_fv, .slice a_fi fi.length c_fi, .slice a2 (fromR fi).length c2]) rfl (pbc s4 (pbc s5 (pbc s6 pb0))) (fun _ => by kernel_rfl) (k (stX H16 1 rfl ty30 rfl rfl s3 rfl rfl rfl rfl ?_)))
    intro w11 (H17 : HI M w w11 [imm (.slice a2 (fromR fi).length c2) (fromR fi), box bb1 #[.slice a_fv fv.length c_fv, .slice a_fi fi.length c_fi, .slice a2 (fromR fi).length c2] 30, box bb0 #[.slice a_fv fv.length c_fv, .slice a_fi fi.length c_fi, .slice a_fo fo.length c_fo] 30, imm (.slice a_fo fo.length c_fo) fo, imm (.slice a_fi fi.length c_fi) fi, imm (.slice a_fv fv.length c_fv) fv])
    refine z (nx (rt (rc1 H17 1 rfl ty30 rfl rfl s3 rfl (by decide) ?_)))
    exact ⟨a_fv, c_fv, a_fi, c_fi, a2, c2, rfl, H17.below, (H17.gives_out 5 rfl), (H17.gives_out 4 rfl), (H17.gives_out 0 rfl)⟩
/- slices.Equal[[]int,int] -/
set_option maxRecDepth 100000 in
set_option maxHeartbeats 1600000 in
theorem equal_int {M : Nat → Prop} {w : World} {a_a : Option Addr} {c_a : Nat} {a : List Int} {a_b : Option Addr} {c_b : Nat} {b : List Int} (hM : ∀ b, M b → b < w.heap.size) (h_a : RV M w (.slice a_a a.length c_a) a) (h_b : RV M w (.slice a_b b.length c_b) b) : Calls Try.prog 52 #[.slice a_a a.length c_a, .slice a_b b.length c_b] w (Ret fun v w' =>  v = .bool (decide (a = b)) ∧ Ext w w') := by
  refine enter 26 Try.func52 rfl rfl rfl fun f0 ha => ?_
  have H := HI.start (M0 := M) (w := w) hM
  have H0 := H.put (it := imm (.slice a_a a.length c_a) a) rfl (by rw [MS_nil]; exact h_a)
  have H1 := H0.put (it := imm (.slice a_b b.length c_b) b) rfl (by rw [MS_cons_none rfl, MS_nil]; exact h_b)
  have ln_a := rv_len h_a
  have ln_b := rv_len h_b
  have i0 : f0 0 = .slice a_a a.length c_a := ha 0 (by simp)
  have i1 : f0 1 = .slice a_b b.length c_b := ha 1 (by simp)
  refine sq (rg (k (asg (v := .bool false) rfl rfl (z (nx (sq (sq (rg (k (mv rfl i0 (k (lnS rfl rfl un28 (k (mv rfl i1 (k (lnS rfl rfl un28 (k (neq rfl rfl rfl rfl (z (nx ?_))))))))))))))))))))
  refine cd (b := !decide ((a.length : Int) = (b.length : Int))) rfl rfl (fun b0 => ?_) (fun b0 => ?_)
  ·
    have p0 := of_decide_eq_false (nott b0)
    refine sq (rg (k (asg (v := .bool false) rfl rfl (z (nx (rt (then_ret (r1 rfl rfl ?_))))))))
    have e0 : (false : Bool) = decide (a = b) := by symm; rw [decide_eq_false_iff_not]; intro e; subst e; exact p0 rfl
    have ev_ := cg1 (fun (x_0 : Bool) => (.bool x_0 : Value)) e0
    exact ⟨ev_, H1.below⟩
  ·
    have p0 := of_decide_eq_true (notf b0)
    refine sk (nx (sq (sq (rg (k (mv rfl i0 (k (lnS rfl rfl un28 (k (mv (v := .int .i64 0) rfl rfl (z (nx (bk ?_)))))))))))))
    refine lp (fun m f w' => ∃ (j : Nat), m = a.length - j ∧ f 0 = .slice a_a a.length c_a ∧ f 1 = .slice a_b b.length c_b ∧ f 12 = .int .i64 (a.length : Int) ∧ f 13 = .int .i64 (j : Int) ∧  HI M w w' [imm (.slice a_b b.length c_b) b, imm (.slice a_a a.length c_a) a] ∧ (j ≤ a.length) ∧ (a.take j = b.take j)) _ ⟨0, rfl, i0, i1, rfl, (ieq rfl (by first | rfl | omega | simp)), H1, (by first | assumption | omega | simp | (simp; omega)), (by first | assumption | omega | simp | (simp; omega))⟩ ?_
    rintro _ f0 w0 ⟨j, rfl, s0, s1, s2, s3, H2, hk, hs⟩
    refine sq (rg (k (lss rfl rfl s3 s2 (z (nx (sq ?_))))))
    refine cd (b := decide ((j : Int) < (a.length : Int))) rfl rfl (fun b1 => ?_) (fun b1 => ?_)
    ·
      have p1 := of_decide_eq_true b1
      refine sk (nx (sq (bk (sq (rg (k (mv rfl s3 (k (asg (v := .int .i64 (j : Int)) rfl rfl (z (nx (sq ?_))))))))))))
      obtain ⟨x0, hx0⟩ : ∃ x, a[(j : Int).toNat]? = some x := ⟨_, List.getElem?_eq_getElem (by first | omega | (simp; omega))⟩
      obtain ⟨x1, hx1⟩ : ∃ x, b[(j : Int).toNat]? = some x := ⟨_, List.getElem?_eq_getElem (by first | omega | (simp; omega))⟩
      refine dr 8 [fun (v : Value) (w' : World) => v = .slice a_a a.length c_a, fun (v : Value) (w' : World) => v = .int .i64 (j : Int), fun (v : Value) (w' : World) => ∃ (ad0 : Addr), v = .pointer (some ad0) ∧ At (MS M [imm (.slice a_b b.length c_b) b, imm (.slice a_a a.length c_a) a]) w' ad0 x0, fun (v : Value) (w' : World) => v = .int .i64 x0 ∧ I64 (x0), fun (v : Value) (w' : World) => v = .slice a_b b.length c_b, fun (v : Value) (w' : World) => v = .int .i64 (j : Int), fun (v : Value) (w' : World) => ∃ (ad1 : Addr), v = .pointer (some ad1) ∧ At (MS M [imm (.slice a_b b.length c_b) b, imm (.slice a_a a.length c_a) a]) w' ad1 x1, fun (v : Value) (w' : World) => v = .int .i64 x1 ∧ I64 (x1)] rfl (by kernel_rfl) ?_ ?_
      ·
        refine ⟨fun _ => ⟨fun f1 w1 hf0 xt0 hp0 => ?_, fun _ _ _ _ h => h⟩, ?_⟩
        ·
          have H3 := H2.ext xt0
          refine mv rfl ((hf0 0 rfl).trans s0) ?_
          exact ⟨_, rfl, Ext.refl _, rfl⟩
        refine ⟨fun _ => ⟨fun f2 w2 hf1 xt1 hp1 => ?_, fun _ _ _ _ h => h⟩, ?_⟩
        ·
          have H4 := H2.ext xt1
          refine mv rfl (hf1 5 rfl) ?_
          exact ⟨_, rfl, Ext.refl _, rfl⟩
        refine ⟨fun _ => ⟨fun f3 w3 hf2 xt2 hp2 => ?_, by rintro _ _ _ x_ ⟨ad0, e_, hA0⟩; exact ⟨ad0, e_, hA0.lift (Up.ext x_)⟩⟩, ?_⟩
        ·
          have H5 := H2.ext xt2
          have s4 : f3 16 = .slice a_a a.length c_a := hp2 0 rfl rfl
          have s5 : f3 17 = .int .i64 (j : Int) := hp2 1 rfl rfl
          refine ia (H5.rv 1 rfl) rfl rfl s4 s5 (by first | omega | (simp; omega)) un28 ty3 ?_
          intro ad2 x2 hx2 hA2
          obtain rfl : x0 = x2 := Option.some.inj (hx0.symm.trans hx2)
          exact ⟨_, rfl, Ext.refl _, ⟨ad2, rfl, hA2⟩⟩
        refine ⟨fun _ => ⟨fun f4 w4 hf3 xt3 hp3 => ?_, fun _ _ _ _ h => h⟩, ?_⟩
        ·
          have H6 := H2.ext xt3
          obtain ⟨ad3, s6, hA3⟩ : ∃ (ad3 : Addr), f4 18 = .pointer (some ad3) ∧ At (MS M [imm (.slice a_b b.length c_b) b, imm (.slice a_a a.length c_a) a]) w4 ad3 x0 := hp3 2 rfl rfl
          have H7 := H6.put (it := atI ad3 x0) rfl hA3
          refine ldI (H7.atv 0 rfl).w ty3 rfl s6 ?_
          intro rv2
          exact ⟨_, rfl, Ext.refl _, ⟨rfl, rv2⟩⟩
        refine ⟨fun _ => ⟨fun f5 w5 hf4 xt4 hp4 => ?_, fun _ _ _ _ h => h⟩, ?_⟩
        ·
          have H8 := H2.ext xt4
          refine mv rfl ((hf4 1 rfl).trans s1) ?_
          exact ⟨_, rfl, Ext.refl _, rfl⟩
        refine ⟨fun _ => ⟨fun f6 w6 hf5 xt5 hp5 => ?_, fun _ _ _ _ h => h⟩, ?_⟩
        ·
          have H9 := H2.ext xt5
          refine mv rfl (hf5 5 rfl) ?_
          exact ⟨_, rfl, Ext.refl _, rfl⟩
        refine ⟨fun _ => ⟨fun f7 w7 hf6 xt6 hp6 => ?_, by rintro _ _ _ x_ ⟨ad1, e_, hA1⟩; exact ⟨ad1, e_, hA1.lift (Up.ext x_)⟩⟩, ?_⟩
        ·
          have H10 := H2.ext xt6
          have s7 : f7 20 = .slice a_b b.length c_b := hp6 4 rfl rfl
          have s8 : f7 21 = .int .i64 (j : Int) := hp6 5 rfl rfl
          refine ia (H10.rv 0 rfl) rfl rfl s7 s8 (by first | omega | (simp; omega)) un28 ty3 ?_
          intro ad4 x3 hx3 hA4
          obtain rfl : x1 = x3 := Option.some.inj (hx1.symm.trans hx3)
          exact ⟨_, rfl, Ext.refl _, ⟨ad4, rfl, hA4⟩⟩
        refine ⟨fun _ => ⟨fun f8 w8 hf7 xt7 hp7 => ?_, fun _ _ _ _ h => h⟩, ?_⟩
        ·
          have H11 := H2.ext xt7
          obtain ⟨ad5, s9, hA5⟩ : ∃ (ad5 : Addr), f8 22 = .pointer (some ad5) ∧ At (MS M [imm (.slice a_b b.length c_b) b, imm (.slice a_a a.length c_a) a]) w8 ad5 x1 := hp7 6 rfl rfl
          have H12 := H11.put (it := atI ad5 x1) rfl hA5
          refine ldI (H12.atv 0 rfl).w ty3 rfl s9 ?_
          intro rv3
          exact ⟨_, rfl, Ext.refl _, ⟨rfl, rv3⟩⟩
        exact DSteps.rest rfl _
      · intro f9 w9 hf8 xt8 hp8
        have H13 := H2.ext xt8
        have s10 : f9 0 = .slice a_a a.length c_a := (hf8 0 rfl).trans s0
        have s11 : f9 1 = .slice a_b b.length c_b := (hf8 1 rfl).trans s1
        have s12 : f9 12 = .int .i64 (a.length : Int) := (hf8 12 rfl).trans s2
        have s13 : f9 13 = .int .i64 (j : Int) := (hf8 13 rfl).trans s3
        obtain ⟨s14, rv4⟩ : f9 19 = .int .i64 x0 ∧ I64 (x0) := hp8 3 rfl
        obtain ⟨s15, rv5⟩ : f9 23 = .int .i64 x1 ∧ I64 (x1) := hp8 7 rfl
        refine k (neq rfl rfl s14 s15 (z (nx ?_)))
        refine cd (b := !decide (x0 = x1)) rfl rfl (fun b2 => ?_) (fun b2 => ?_)
        ·
          have p2 := of_decide_eq_false (nott b2)
          refine sq (rg (k (asg (v := .bool false) rfl rfl (z (nx (rt (inb_ret (then_ret (loop_ret (inb_ret (then_ret (r1 rfl rfl ?_))))))))))))
          have e0 : (false : Bool) = decide (a = b) := by symm; rw [decide_eq_false_iff_not]; exact ne_of_at hx0 hx1 p2
          have ev_ := cg1 (fun (x_0 : Bool) => (.bool x_0 : Value)) e0
          exact ⟨ev_, H13.below⟩
        ·
          have p2 := of_decide_eq_true (notf b2)
          refine sk (inb_normal (nx (rg (k (add rfl rfl s13 rfl (by unfold I64 at *; omega) (k (mv (v := .int .i64 ((j : Int) + 1)) rfl rfl (z ?_))))))))
          refine loopN _ ?_ ⟨(j + 1), rfl, s10, s11, s12, (ieq rfl (by first | rfl | omega | (push_cast; omega))), H13, (by first | assumption | omega | simp | (simp; omega)), (by exact take_eq_step hs hx0 hx1 p2)⟩
          omega
    ·
      have p1 := of_decide_eq_false b1
      refine ex (then_exit (loop_exit (inb_here (nx (sq (rg (k (asg (v := .bool true) rfl rfl (z (nx (rt (r1 rfl rfl ?_))))))))))))
      have e0 : (true : Bool) = decide (a = b) := by symm; rw [decide_eq_true_eq]; exact eq_of_take (by omega) hs (by omega)
      have ev_ := cg1 (fun (x_0 : Bool) => (.bool x_0 : Value)) e0
      exact ⟨ev_, H2.below⟩
/- eyewitness/eyewitnessref09.texts -/
set_option maxRecDepth 100000 in
set_option maxHeartbeats 1600000 in
theorem ref09_texts {M : Nat → Prop} {w : World} {a_a : Option Addr} {c_a : Nat} {a : List ByteArray} {a_b : Option Addr} {c_b : Nat} {b : List ByteArray} (hM : ∀ b, M b → b < w.heap.size) (h_a : RV M w (.slice a_a a.length c_a) a) (h_b : RV M w (.slice a_b b.length c_b) b) : Calls Try.prog 50 #[.slice a_a a.length c_a, .slice a_b b.length c_b] w (Ret fun v w' =>  v = .bool (decide (a = b)) ∧ Ext w w') := by
  refine enter 26 Try.func50 rfl rfl rfl fun f0 ha => ?_
  have H := HI.start (M0 := M) (w := w) hM
  have H0 := H.put (it := imm (.slice a_a a.length c_a) a) rfl (by rw [MS_nil]; exact h_a)
  have H1 := H0.put (it := imm (.slice a_b b.length c_b) b) rfl (by rw [MS_cons_none rfl, MS_nil]; exact h_b)
  have ln_a := rv_len h_a
  have ln_b := rv_len h_b
  have i0 : f0 0 = .slice a_a a.length c_a := ha 0 (by simp)
  have i1 : f0 1 = .slice a_b b.length c_b := ha 1 (by simp)
  refine sq (rg (k (asg (v := .bool false) rfl rfl (z (nx (sq (sq (rg (k (mv rfl i0 (k (lnS rfl rfl un26 (k (mv rfl i1 (k (lnS rfl rfl un26 (k (neq rfl rfl rfl rfl (z (nx ?_))))))))))))))))))))
  refine cd (b := !decide ((a.length : Int) = (b.length : Int))) rfl rfl (fun b0 => ?_) (fun b0 => ?_)
  ·
    have p0 := of_decide_eq_false (nott b0)
    refine sq (rg (k (asg (v := .bool false) rfl rfl (z (nx (rt (then_ret (r1 rfl rfl ?_))))))))
    have e0 : (false : Bool) = decide (a = b) := by symm; rw [decide_eq_false_iff_not]; intro e; subst e; exact p0 rfl
    have ev_ := cg1 (fun (x_0 : Bool) => (.bool x_0 : Value)) e0
    exact ⟨ev_, H1.below⟩
  ·
    have p0 := of_decide_eq_true (notf b0)
    refine sk (nx (sq (sq (rg (k (asg (v := .int .i64 0) rfl rfl (z (nx (bk ?_)))))))))
    refine lp (fun m f w' => ∃ (j : Nat), m = a.length - j ∧ f 0 = .slice a_a a.length c_a ∧ f 1 = .slice a_b b.length c_b ∧ f 5 = .int .i64 (j : Int) ∧  HI M w w' [imm (.slice a_b b.length c_b) b, imm (.slice a_a a.length c_a) a] ∧ (j ≤ a.length) ∧ (a.take j = b.take j)) _ ⟨0, rfl, i0, i1, (ieq rfl (by first | rfl | omega | simp)), H1, (by first | assumption | omega | simp | (simp; omega)), (by first | assumption | omega | simp | (simp; omega))⟩ ?_
    rintro _ f0 w0 ⟨j, rfl, s0, s1, s2, H2, hk, hs⟩
    refine sq (sq (rg (k (mv rfl s2 (k (mv rfl s0 (k (lnS rfl rfl un26 (k (lss rfl rfl rfl rfl (z (nx ?_))))))))))))
    refine cd (b := decide ((j : Int) < (a.length : Int))) rfl rfl (fun b1 => ?_) (fun b1 => ?_)
    ·
      have p1 := of_decide_eq_true b1
      refine sk (nx (sq (bk (sq ?_))))
      obtain ⟨x0, hx0⟩ : ∃ x, a[(j : Int).toNat]? = some x := ⟨_, List.getElem?_eq_getElem (by first | omega | (simp; omega))⟩
      obtain ⟨x1, hx1⟩ : ∃ x, b[(j : Int).toNat]? = some x := ⟨_, List.getElem?_eq_getElem (by first | omega | (simp; omega))⟩
      refine dr 8 [fun (v : Value) (w' : World) => v = .slice a_a a.length c_a, fun (v : Value) (w' : World) => v = .int .i64 (j : Int), fun (v : Value) (w' : World) => ∃ (ad0 : Addr), v = .pointer (some ad0) ∧ At (MS M [imm (.slice a_b b.length c_b) b, imm (.slice a_a a.length c_a) a]) w' ad0 x0, fun (v : Value) (w' : World) => v = .string x0, fun (v : Value) (w' : World) => v = .slice a_b b.length c_b, fun (v : Value) (w' : World) => v = .int .i64 (j : Int), fun (v : Value) (w' : World) => ∃ (ad1 : Addr), v = .pointer (some ad1) ∧ At (MS M [imm (.slice a_b b.length c_b) b, imm (.slice a_a a.length c_a) a]) w' ad1 x1, fun (v : Value) (w' : World) => v = .string x1] rfl (by kernel_rfl) ?_ ?_
      ·
        refine ⟨fun _ => ⟨fun f1 w1 hf0 xt0 hp0 => ?_, fun _ _ _ _ h => h⟩, ?_⟩
        ·
          have H3 := H2.ext xt0
          refine mv rfl ((hf0 0 rfl).trans s0) ?_
          exact ⟨_, rfl, Ext.refl _, rfl⟩
        refine ⟨fun _ => ⟨fun f2 w2 hf1 xt1 hp1 => ?_, fun _ _ _ _ h => h⟩, ?_⟩
        ·
          have H4 := H2.ext xt1
          refine mv rfl ((hf1 5 rfl).trans s2) ?_
          exact ⟨_, rfl, Ext.refl _, rfl⟩
        refine ⟨fun _ => ⟨fun f3 w3 hf2 xt2 hp2 => ?_, by rintro _ _ _ x_ ⟨ad0, e_, hA0⟩; exact ⟨ad0, e_, hA0.lift (Up.ext x_)⟩⟩, ?_⟩
        ·
          have H5 := H2.ext xt2
          have s3 : f3 17 = .slice a_a a.length c_a := hp2 0 rfl rfl
          have s4 : f3 18 = .int .i64 (j : Int) := hp2 1 rfl rfl
          refine ia (H5.rv 1 rfl) rfl rfl s3 s4 (by first | omega | (simp; omega)) un26 ty9 ?_
          intro ad2 x2 hx2 hA2
          obtain rfl : x0 = x2 := Option.some.inj (hx0.symm.trans hx2)
          exact ⟨_, rfl, Ext.refl _, ⟨ad2, rfl, hA2⟩⟩
        refine ⟨fun _ => ⟨fun f4 w4 hf3 xt3 hp3 => ?_, fun _ _ _ _ h => h⟩, ?_⟩
        ·
          have H6 := H2.ext xt3
          obtain ⟨ad3, s5, hA3⟩ : ∃ (ad3 : Addr), f4 19 = .pointer (some ad3) ∧ At (MS M [imm (.slice a_b b.length c_b) b, imm (.slice a_a a.length c_a) a]) w4 ad3 x0 := hp3 2 rfl rfl
          have H7 := H6.put (it := atI ad3 x0) rfl hA3
          refine ldS (H7.atv 0 rfl).w ty9 rfl s5 ?_
          intro rv2
          exact ⟨_, rfl, Ext.refl _, rfl⟩
        refine ⟨fun _ => ⟨fun f5 w5 hf4 xt4 hp4 => ?_, fun _ _ _ _ h => h⟩, ?_⟩
        ·
          have H8 := H2.ext xt4
          refine mv rfl ((hf4 1 rfl).trans s1) ?_
          exact ⟨_, rfl, Ext.refl _, rfl⟩
        refine ⟨fun _ => ⟨fun f6 w6 hf5 xt5 hp5 => ?_, fun _ _ _ _ h => h⟩, ?_⟩
        ·
          have H9 := H2.ext xt5
          refine mv rfl ((hf5 5 rfl).trans s2) ?_
          exact ⟨_, rfl, Ext.refl _, rfl⟩
        refine ⟨fun _ => ⟨fun f7 w7 hf6 xt6 hp6 => ?_, by rintro _ _ _ x_ ⟨ad1, e_, hA1⟩; exact ⟨ad1, e_, hA1.lift (Up.ext x_)⟩⟩, ?_⟩
        ·
          have H10 := H2.ext xt6
          have s6 : f7 21 = .slice a_b b.length c_b := hp6 4 rfl rfl
          have s7 : f7 22 = .int .i64 (j : Int) := hp6 5 rfl rfl
          refine ia (H10.rv 0 rfl) rfl rfl s6 s7 (by first | omega | (simp; omega)) un26 ty9 ?_
          intro ad4 x3 hx3 hA4
          obtain rfl : x1 = x3 := Option.some.inj (hx1.symm.trans hx3)
          exact ⟨_, rfl, Ext.refl _, ⟨ad4, rfl, hA4⟩⟩
        refine ⟨fun _ => ⟨fun f8 w8 hf7 xt7 hp7 => ?_, fun _ _ _ _ h => h⟩, ?_⟩
        ·
          have H11 := H2.ext xt7
          obtain ⟨ad5, s8, hA5⟩ : ∃ (ad5 : Addr), f8 23 = .pointer (some ad5) ∧ At (MS M [imm (.slice a_b b.length c_b) b, imm (.slice a_a a.length c_a) a]) w8 ad5 x1 := hp7 6 rfl rfl
          have H12 := H11.put (it := atI ad5 x1) rfl hA5
          refine ldS (H12.atv 0 rfl).w ty9 rfl s8 ?_
          intro rv3
          exact ⟨_, rfl, Ext.refl _, rfl⟩
        exact DSteps.rest rfl _
      · intro f9 w9 hf8 xt8 hp8
        have H13 := H2.ext xt8
        have s9 : f9 0 = .slice a_a a.length c_a := (hf8 0 rfl).trans s0
        have s10 : f9 1 = .slice a_b b.length c_b := (hf8 1 rfl).trans s1
        have s11 : f9 5 = .int .i64 (j : Int) := (hf8 5 rfl).trans s2
        have s12 : f9 20 = .string x0 := hp8 3 rfl
        have s13 : f9 24 = .string x1 := hp8 7 rfl
        refine k (neS rfl rfl s12 s13 (z (nx ?_)))
        refine cd (b := !decide (x0 = x1)) rfl rfl (fun b2 => ?_) (fun b2 => ?_)
        ·
          have p2 := of_decide_eq_false (nott b2)
          refine sq (rg (k (asg (v := .bool false) rfl rfl (z (nx (rt (inb_ret (then_ret (loop_ret (inb_ret (then_ret (r1 rfl rfl ?_))))))))))))
          have e0 : (false : Bool) = decide (a = b) := by symm; rw [decide_eq_false_iff_not]; exact ne_of_at hx0 hx1 p2
          have ev_ := cg1 (fun (x_0 : Bool) => (.bool x_0 : Value)) e0
          exact ⟨ev_, H13.below⟩
        ·
          have p2 := of_decide_eq_true (notf b2)
          refine sk (inb_normal (nx (rg (k (mv rfl s11 (k (add rfl rfl rfl rfl (by unfold I64 at *; omega) (k (asg (v := .int .i64 ((j : Int) + 1)) rfl rfl (z ?_))))))))))
          refine loopN _ ?_ ⟨(j + 1), rfl, s9, s10, (ieq rfl (by first | rfl | omega | (push_cast; omega))), H13, (by first | assumption | omega | simp | (simp; omega)), (by exact take_eq_step hs hx0 hx1 p2)⟩
          omega
    ·
      have p1 := of_decide_eq_false b1
      refine ex (then_exit (loop_exit (inb_here (nx (sq (rg (k (asg (v := .bool true) rfl rfl (z (nx (rt (r1 rfl rfl ?_))))))))))))
      have e0 : (true : Bool) = decide (a = b) := by symm; rw [decide_eq_true_eq]; exact eq_of_take (by omega) hs (by omega)
      have ev_ := cg1 (fun (x_0 : Bool) => (.bool x_0 : Value)) e0
      exact ⟨ev_, H2.below⟩
/- eyewitness/eyewitnessref09.items -/
set_option maxRecDepth 100000 in
set_option maxHeartbeats 1600000 in
theorem ref09_items {M : Nat → Prop} {w : World} {a_a : Option Addr} {c_a : Nat} {a : List (Int × Int × Bool × Int × Int)} {a_b : Option Addr} {c_b : Nat} {b : List (Int × Int × Bool × Int × Int)} (hM : ∀ b, M b → b < w.heap.size) (h_a : RV M w (.slice a_a a.length c_a) a) (h_b : RV M w (.slice a_b b.length c_b) b) : Calls Try.prog 51 #[.slice a_a a.length c_a, .slice a_b b.length c_b] w (Ret fun v w' =>  v = .bool (decide (a = b)) ∧ Ext w w') := by
  refine enter 26 Try.func51 rfl rfl rfl fun f0 ha => ?_
  have H := HI.start (M0 := M) (w := w) hM
  have H0 := H.put (it := imm (.slice a_a a.length c_a) a) rfl (by rw [MS_nil]; exact h_a)
  have H1 := H0.put (it := imm (.slice a_b b.length c_b) b) rfl (by rw [MS_cons_none rfl, MS_nil]; exact h_b)
  have ln_a := rv_len h_a
  have ln_b := rv_len h_b
  have i0 : f0 0 = .slice a_a a.length c_a := ha 0 (by simp)
  have i1 : f0 1 = .slice a_b b.length c_b := ha 1 (by simp)
  refine sq (rg (k (asg (v := .bool false) rfl rfl (z (nx (sq (sq (rg (k (mv rfl i0 (k (lnS rfl rfl un27 (k (mv rfl i1 (k (lnS rfl rfl un27 (k (neq rfl rfl rfl rfl (z (nx ?_))))))))))))))))))))
  refine cd (b := !decide ((a.length : Int) = (b.length : Int))) rfl rfl (fun b0 => ?_) (fun b0 => ?_)
  ·
    have p0 := of_decide_eq_false (nott b0)
    refine sq (rg (k (asg (v := .bool false) rfl rfl (z (nx (rt (then_ret (r1 rfl rfl ?_))))))))
    have e0 : (false : Bool) = decide (a = b) := by symm; rw [decide_eq_false_iff_not]; intro e; subst e; exact p0 rfl
    have ev_ := cg1 (fun (x_0 : Bool) => (.bool x_0 : Value)) e0
    exact ⟨ev_, H1.below⟩
  ·
    have p0 := of_decide_eq_true (notf b0)
    refine sk (nx (sq (sq (rg (k (asg (v := .int .i64 0) rfl rfl (z (nx (bk ?_)))))))))
    refine lp (fun m f w' => ∃ (j : Nat), m = a.length - j ∧ f 0 = .slice a_a a.length c_a ∧ f 1 = .slice a_b b.length c_b ∧ f 5 = .int .i64 (j : Int) ∧  HI M w w' [imm (.slice a_b b.length c_b) b, imm (.slice a_a a.length c_a) a] ∧ (j ≤ a.length) ∧ (a.take j = b.take j)) _ ⟨0, rfl, i0, i1, (ieq rfl (by first | rfl | omega | simp)), H1, (by first | assumption | omega | simp | (simp; omega)), (by first | assumption | omega | simp | (simp; omega))⟩ ?_
    rintro _ f0 w0 ⟨j, rfl, s0, s1, s2, H2, hk, hs⟩
    refine sq (sq (rg (k (mv rfl s2 (k (mv rfl s0 (k (lnS rfl rfl un27 (k (lss rfl rfl rfl rfl (z (nx ?_))))))))))))
    refine cd (b := decide ((j : Int) < (a.length : Int))) rfl rfl (fun b1 => ?_) (fun b1 => ?_)
    ·
      have p1 := of_decide_eq_true b1
      refine sk (nx (sq (bk (sq ?_))))
      obtain ⟨x0, hx0⟩ : ∃ x, a[(j : Int).toNat]? = some x := ⟨_, List.getElem?_eq_getElem (by first | omega | (simp; omega))⟩
      obtain ⟨x1, hx1⟩ : ∃ x, b[(j : Int).toNat]? = some x := ⟨_, List.getElem?_eq_getElem (by first | omega | (simp; omega))⟩
      refine dr 8 [fun (v : Value) (w' : World) => v = .slice a_a a.length c_a, fun (v : Value) (w' : World) => v = .int .i64 (j : Int), fun (v : Value) (w' : World) => ∃ (ad0 : Addr), v = .pointer (some ad0) ∧ At (MS M [imm (.slice a_b b.length c_b) b, imm (.slice a_a a.length c_a) a]) w' ad0 x0, fun (v : Value) (w' : World) => v = .agg #[.int .i64 x0.1, .int .i64 x0.2.1, .bool x0.2.2.1, .int .i64 x0.2.2.2.1, .int .i64 x0.2.2.2.2] ∧ I64 (x0.1) ∧ I64 (x0.2.1) ∧ I64 (x0.2.2.2.1) ∧ I64 (x0.2.2.2.2), fun (v : Value) (w' : World) => v = .slice a_b b.length c_b, fun (v : Value) (w' : World) => v = .int .i64 (j : Int), fun (v : Value) (w' : World) => ∃ (ad1 : Addr), v = .pointer (some ad1) ∧ At (MS M [imm (.slice a_b b.length c_b) b, imm (.slice a_a a.length c_a) a]) w' ad1 x1, fun (v : Value) (w' : World) => v = .agg #[.int .i64 x1.1, .int .i64 x1.2.1, .bool x1.2.2.1, .int .i64 x1.2.2.2.1, .int .i64 x1.2.2.2.2] ∧ I64 (x1.1) ∧ I64 (x1.2.1) ∧ I64 (x1.2.2.2.1) ∧ I64 (x1.2.2.2.2)] rfl (by kernel_rfl) ?_ ?_
      ·
        refine ⟨fun _ => ⟨fun f1 w1 hf0 xt0 hp0 => ?_, fun _ _ _ _ h => h⟩, ?_⟩
        ·
          have H3 := H2.ext xt0
          refine mv rfl ((hf0 0 rfl).trans s0) ?_
          exact ⟨_, rfl, Ext.refl _, rfl⟩
        refine ⟨fun _ => ⟨fun f2 w2 hf1 xt1 hp1 => ?_, fun _ _ _ _ h => h⟩, ?_⟩
        ·
          have H4 := H2.ext xt1
          refine mv rfl ((hf1 5 rfl).trans s2) ?_
          exact ⟨_, rfl, Ext.refl _, rfl⟩
        refine ⟨fun _ => ⟨fun f3 w3 hf2 xt2 hp2 => ?_, by rintro _ _ _ x_ ⟨ad0, e_, hA0⟩; exact ⟨ad0, e_, hA0.lift (Up.ext x_)⟩⟩, ?_⟩
        ·
          have H5 := H2.ext xt2
          have s3 : f3 17 = .slice a_a a.length c_a := hp2 0 rfl rfl
          have s4 : f3 18 = .int .i64 (j : Int) := hp2 1 rfl rfl
          refine ia (H5.rv 1 rfl) rfl rfl s3 s4 (by first | omega | (simp; omega)) un27 ty40 ?_
          intro ad2 x2 hx2 hA2
          obtain rfl : x0 = x2 := Option.some.inj (hx0.symm.trans hx2)
          exact ⟨_, rfl, Ext.refl _, ⟨ad2, rfl, hA2⟩⟩
        refine ⟨fun _ => ⟨fun f4 w4 hf3 xt3 hp3 => ?_, fun _ _ _ _ h => h⟩, ?_⟩
        ·
          have H6 := H2.ext xt3
          obtain ⟨ad3, s5, hA3⟩ : ∃ (ad3 : Addr), f4 19 = .pointer (some ad3) ∧ At (MS M [imm (.slice a_b b.length c_b) b, imm (.slice a_a a.length c_a) a]) w4 ad3 x0 := hp3 2 rfl rfl
          have H7 := H6.put (it := atI ad3 x0) rfl hA3
          refine ldW (H7.atv 0 rfl).w ty40 rfl s5 ?_
          intro v2 rv10
          obtain ⟨_, ⟨_, _, rfl, ⟨rfl, rv11⟩, ⟨_, _, rfl, ⟨rfl, rv12⟩, ⟨_, _, rfl, rfl, ⟨_, _, rfl, ⟨rfl, rv13⟩, ⟨rfl, rv14⟩⟩⟩⟩⟩, rfl⟩ := rv10
          exact ⟨_, rfl, Ext.refl _, ⟨rfl, rv11, rv12, rv13, rv14⟩⟩
        refine ⟨fun _ => ⟨fun f5 w5 hf4 xt4 hp4 => ?_, fun _ _ _ _ h => h⟩, ?_⟩
        ·
          have H8 := H2.ext xt4
          refine mv rfl ((hf4 1 rfl).trans s1) ?_
          exact ⟨_, rfl, Ext.refl _, rfl⟩
        refine ⟨fun _ => ⟨fun f6 w6 hf5 xt5 hp5 => ?_, fun _ _ _ _ h => h⟩, ?_⟩
        ·
          have H9 := H2.ext xt5
          refine mv rfl ((hf5 5 rfl).trans s2) ?_
          exact ⟨_, rfl, Ext.refl _, rfl⟩
        refine ⟨fun _ => ⟨fun f7 w7 hf6 xt6 hp6 => ?_, by rintro _ _ _ x_ ⟨ad1, e_, hA1⟩; exact ⟨ad1, e_, hA1.lift (Up.ext x_)⟩⟩, ?_⟩
        ·
          have H10 := H2.ext xt6
          have s6 : f7 21 = .slice a_b b.length c_b := hp6 4 rfl rfl
          have s7 : f7 22 = .int .i64 (j : Int) := hp6 5 rfl rfl
          refine ia (H10.rv 0 rfl) rfl rfl s6 s7 (by first | omega | (simp; omega)) un27 ty40 ?_
          intro ad4 x3 hx3 hA4
          obtain rfl : x1 = x3 := Option.some.inj (hx1.symm.trans hx3)
          exact ⟨_, rfl, Ext.refl _, ⟨ad4, rfl, hA4⟩⟩
        refine ⟨fun _ => ⟨fun f8 w8 hf7 xt7 hp7 => ?_, fun _ _ _ _ h => h⟩, ?_⟩
        ·
          have H11 := H2.ext xt7
          obtain ⟨ad5, s8, hA5⟩ : ∃ (ad5 : Addr), f8 23 = .pointer (some ad5) ∧ At (MS M [imm (.slice a_b b.length c_b) b, imm (.slice a_a a.length c_a) a]) w8 ad5 x1 := hp7 6 rfl rfl
          have H12 := H11.put (it := atI ad5 x1) rfl hA5
          refine ldW (H12.atv 0 rfl).w ty40 rfl s8 ?_
          intro v3 rv15
          obtain ⟨_, ⟨_, _, rfl, ⟨rfl, rv16⟩, ⟨_, _, rfl, ⟨rfl, rv17⟩, ⟨_, _, rfl, rfl, ⟨_, _, rfl, ⟨rfl, rv18⟩, ⟨rfl, rv19⟩⟩⟩⟩⟩, rfl⟩ := rv15
          exact ⟨_, rfl, Ext.refl _, ⟨rfl, rv16, rv17, rv18, rv19⟩⟩
        exact DSteps.rest rfl _
      · intro f9 w9 hf8 xt8 hp8
        have H13 := H2.ext xt8
        have s9 : f9 0 = .slice a_a a.length c_a := (hf8 0 rfl).trans s0
        have s10 : f9 1 = .slice a_b b.length c_b := (hf8 1 rfl).trans s1
        have s11 : f9 5 = .int .i64 (j : Int) := (hf8 5 rfl).trans s2
        obtain ⟨s12, rv20, rv21, rv22, rv23⟩ : f9 20 = .agg #[.int .i64 x0.1, .int .i64 x0.2.1, .bool x0.2.2.1, .int .i64 x0.2.2.2.1, .int .i64 x0.2.2.2.2] ∧ I64 (x0.1) ∧ I64 (x0.2.1) ∧ I64 (x0.2.2.2.1) ∧ I64 (x0.2.2.2.2) := hp8 3 rfl
        obtain ⟨s13, rv24, rv25, rv26, rv27⟩ : f9 24 = .agg #[.int .i64 x1.1, .int .i64 x1.2.1, .bool x1.2.2.1, .int .i64 x1.2.2.2.1, .int .i64 x1.2.2.2.2] ∧ I64 (x1.1) ∧ I64 (x1.2.1) ∧ I64 (x1.2.2.2.1) ∧ I64 (x1.2.2.2.2) := hp8 7 rfl
        refine k (neG st40 rfl rfl s12 s13 (rs := [decide (x0.1 = x1.1), decide (x0.2.1 = x1.2.1), decide (x0.2.2.1 = x1.2.2.1), decide (x0.2.2.2.1 = x1.2.2.2.1), decide (x0.2.2.2.2 = x1.2.2.2.2)]) (q := decide ((x0.1, x0.2.1, x0.2.2.1, x0.2.2.2.1, x0.2.2.2.2) = (x1.1, x1.2.1, x1.2.2.1, x1.2.2.2.1, x1.2.2.2.2))) ⟨⟨_, _, _, rfl, rfl, rfl⟩, ⟨_, _, _, rfl, rfl, rfl⟩, ⟨_, _, rfl, rfl, rfl⟩, ⟨_, _, _, rfl, rfl, rfl⟩, ⟨_, _, _, rfl, rfl, rfl⟩, trivial⟩ (by rw [Bool.eq_iff_iff]; simp [Prod.ext_iff] <;> done) (z (nx ?_)))
        refine cd (b := !decide ((x0.1, x0.2.1, x0.2.2.1, x0.2.2.2.1, x0.2.2.2.2) = (x1.1, x1.2.1, x1.2.2.1, x1.2.2.2.1, x1.2.2.2.2))) rfl rfl (fun b2 => ?_) (fun b2 => ?_)
        ·
          have p2 := of_decide_eq_false (nott b2)
          refine sq (rg (k (asg (v := .bool false) rfl rfl (z (nx (rt (inb_ret (then_ret (loop_ret (inb_ret (then_ret (r1 rfl rfl ?_))))))))))))
          have e0 : (false : Bool) = decide (a = b) := by symm; rw [decide_eq_false_iff_not]; exact ne_of_at hx0 hx1 p2
          have ev_ := cg1 (fun (x_0 : Bool) => (.bool x_0 : Value)) e0
          exact ⟨ev_, H13.below⟩
        ·
          have p2 := of_decide_eq_true (notf b2)
          refine sk (inb_normal (nx (rg (k (mv rfl s11 (k (add rfl rfl rfl rfl (by unfold I64 at *; omega) (k (asg (v := .int .i64 ((j : Int) + 1)) rfl rfl (z ?_))))))))))
          refine loopN _ ?_ ⟨(j + 1), rfl, s9, s10, (ieq rfl (by first | rfl | omega | (push_cast; omega))), H13, (by first | assumption | omega | simp | (simp; omega)), (by exact take_eq_step hs hx0 hx1 p2)⟩
          omega
    ·
      have p1 := of_decide_eq_false b1
      refine ex (then_exit (loop_exit (inb_here (nx (sq (rg (k (asg (v := .bool true) rfl rfl (z (nx (rt (r1 rfl rfl ?_))))))))))))
      have e0 : (true : Bool) = decide (a = b) := by symm; rw [decide_eq_true_eq]; exact eq_of_take (by omega) hs (by omega)
      have ev_ := cg1 (fun (x_0 : Bool) => (.bool x_0 : Value)) e0
      exact ⟨ev_, H2.below⟩
/- eyewitness/eyewitnessref09.Same -/
set_option maxRecDepth 100000 in
set_option maxHeartbeats 1600000 in
theorem ref09_Same {M : Nat → Prop} {w : World} {a_av : Option Addr} {c_av : Nat} {av : List ByteArray} {a_ai : Option Addr} {c_ai : Nat} {ai : List (Int × Int × Bool × Int × Int)} {a_ao : Option Addr} {c_ao : Nat} {ao : List Int} {a_bv : Option Addr} {c_bv : Nat} {bv : List ByteArray} {a_bi : Option Addr} {c_bi : Nat} {bi : List (Int × Int × Bool × Int × Int)} {a_bo : Option Addr} {c_bo : Nat} {bo : List Int} (hM : ∀ b, M b → b < w.heap.size) (h_av : RV M w (.slice a_av av.length c_av) av) (h_ai : RV M w (.slice a_ai ai.length c_ai) ai) (h_ao : RV M w (.slice a_ao ao.length c_ao) ao) (h_bv : RV M w (.slice a_bv bv.length c_bv) bv) (h_bi : RV M w (.slice a_bi bi.length c_bi) bi) (h_bo : RV M w (.slice a_bo bo.length c_bo) bo) : Calls Try.prog 24 #[.agg #[.slice a_av av.length c_av, .slice a_ai ai.length c_ai, .slice a_ao ao.length c_ao], .agg #[.slice a_bv bv.length c_bv, .slice a_bi bi.length c_bi, .slice a_bo bo.length c_bo]] w (Ret fun v w' =>  v = .bool (decide (av = bv) && decide (ai = bi) && decide (ao = bo)) ∧ Ext w w') := by
  refine enter 24 Try.func24 rfl rfl rfl fun f0 ha => ?_
  have H := HI.start (M0 := M) (w := w) hM
  have H0 := H.put (it := imm (.slice a_av av.length c_av) av) rfl (by rw [MS_nil]; exact h_av)
  have H1 := H0.put (it := imm (.slice a_ai ai.length c_ai) ai) rfl (by rw [MS_cons_none rfl, MS_nil]; exact h_ai)
  have H2 := H1.put (it := imm (.slice a_ao ao.length c_ao) ao) rfl (by rw [MS_cons_none rfl, MS_cons_none rfl, MS_nil]; exact h_ao)
  have H3 := H2.put (it := imm (.slice a_bv bv.length c_bv) bv) rfl (by rw [MS_cons_none rfl, MS_cons_none rfl, MS_cons_none rfl, MS_nil]; exact h_bv)
  have H4 := H3.put (it := imm (.slice a_bi bi.length c_bi) bi) rfl (by rw [MS_cons_none rfl, MS_cons_none rfl, MS_cons_none rfl, MS_cons_none rfl, MS_nil]; exact h_bi)
  have H5 := H4.put (it := imm (.slice a_bo bo.length c_bo) bo) rfl (by rw [MS_cons_none rfl, MS_cons_none rfl, MS_cons_none rfl, MS_cons_none rfl, MS_cons_none rfl, MS_nil]; exact h_bo)
  have ln_av := rv_len h_av
  have ln_ai := rv_len h_ai
  have ln_ao := rv_len h_ao
  have ln_bv := rv_len h_bv
  have ln_bi := rv_len h_bi
  have ln_bo := rv_len h_bo
  have i0 : f0 0 = .agg #[.slice a_av av.length c_av, .slice a_ai ai.length c_ai, .slice a_ao ao.length c_ao] := ha 0 (by simp)
  have i1 : f0 1 = .agg #[.slice a_bv bv.length c_bv, .slice a_bi bi.length c_bi, .slice a_bo bo.length c_bo] := ha 1 (by simp)
  refine sq (rg (k (bx H5 rfl i0 ?_)))
  intro bb0 w0 xt0 (H6 : HI M w w0 [box bb0 #[.slice a_av av.length c_av, .slice a_ai ai.length c_ai, .slice a_ao ao.length c_ao] 30, imm (.slice a_bo bo.length c_bo) bo, imm (.slice a_bi bi.length c_bi) bi, imm (.slice a_bv bv.length c_bv) bv, imm (.slice a_ao ao.length c_ao) ao, imm (.slice a_ai ai.length c_ai) ai, imm (.slice a_av av.length c_av) av])
  refine k (bx H6 rfl i1 ?_)
  intro bb1 w1 xt1 (H7 : HI M w w1 [box bb1 #[.slice a_bv bv.length c_bv, .slice a_bi bi.length c_bi, .slice a_bo bo.length c_bo] 30, box bb0 #[.slice a_av av.length c_av, .slice a_ai ai.length c_ai, .slice a_ao ao.length c_ao] 30, imm (.slice a_bo bo.length c_bo) bo, imm (.slice a_bi bi.length c_bi) bi, imm (.slice a_bv bv.length c_bv) bv, imm (.slice a_ao ao.length c_ao) ao, imm (.slice a_ai ai.length c_ai) ai, imm (.slice a_av av.length c_av) av])
  refine k (asg (v := .bool false) rfl rfl (z (nx (sq (rg (k (fa fl30_0 rfl rfl (k (ldX H7 1 rfl ty26 rfl rfl (by decide) rfl (k (fa fl30_0 rfl rfl (k (ldX H7 0 rfl ty26 rfl rfl (by decide) rfl (k ?_))))))))))))))
  have cc0 := ref09_texts (a := av) (b := bv) (w := w1) H7.mb (H7.rv 7 rfl) (H7.rv 4 rfl)
  refine ca go50 rfl (ec rfl (ec rfl e0)) cc0 ?_
  rintro _ w2 ⟨rfl, xt2⟩
  have H8 := H7.ext xt2
  refine k (mv (v := .bool (decide (av = bv))) rfl rfl ?_)
  rcases Bool.eq_false_or_eq_true (decide (av = bv)) with b0 | b0
  · -- decide (av = bv) is True
    have p0 := of_decide_eq_true b0
    refine k (gy rfl rfl rfl b0 (fa fl30_1 rfl rfl (k (gy rfl rfl rfl b0 (ldX H8 1 rfl ty27 rfl rfl (by decide) rfl (k (gy rfl rfl rfl b0 (fa fl30_1 rfl rfl (k (gy rfl rfl rfl b0 (ldX H8 0 rfl ty27 rfl rfl (by decide) rfl (k (gy rfl rfl rfl b0 ?_)))))))))))))
    have cc1 := ref09_items (a := ai) (b := bi) (w := w2) H8.mb (H8.rv 6 rfl) (H8.rv 3 rfl)
    refine ca go51 rfl (ec rfl (ec rfl e0)) cc1 ?_
    rintro _ w3 ⟨rfl, xt3⟩
    have H9 := H8.ext xt3
    refine k (pickT rfl rfl rfl rfl b0 rfl (k (mv (v := .bool (decide (ai = bi))) rfl rfl ?_)))
    rcases Bool.eq_false_or_eq_true (decide (ai = bi)) with b1 | b1
    · -- decide (ai = bi) is True
      have p1 := of_decide_eq_true b1
      refine k (gy rfl rfl rfl b1 (fa fl30_2 rfl rfl (k (gy rfl rfl rfl b1 (ldX H9 1 rfl ty28 rfl rfl (by decide) rfl (k (gy rfl rfl rfl b1 (fa fl30_2 rfl rfl (k (gy rfl rfl rfl b1 (ldX H9 0 rfl ty28 rfl rfl (by decide) rfl (k (gy rfl rfl rfl b1 ?_)))))))))))))
      have cc2 := ref02_Ints (a := ao) (b := bo) (w := w3) H9.mb (H9.rv 5 rfl) (H9.rv 2 rfl)
      refine ca go27 rfl (ec rfl (ec rfl e0)) cc2 ?_
      rintro _ w4 ⟨rfl, xt4⟩
      have H10 := H9.ext xt4
      refine k (pickT rfl rfl rfl rfl b1 rfl (k (asg (v := .bool (decide (ao = bo))) rfl rfl (z (nx (rt (r1 rfl rfl ?_)))))))
      have e0 : (decide (ao = bo) : Bool) = (decide (av = bv) && decide (ai = bi) && decide (ao = bo)) := by first | (rw [b0, b1]; rfl) | (rw [b0, b1]; simp) | (rw [b0]; simp)
      have ev_ := cg1 (fun (x_0 : Bool) => (.bool x_0 : Value)) e0
      exact ⟨ev_, H10.below⟩
    · -- decide (ai = bi) is False
      have p1 := of_decide_eq_false b1
      refine k (gn rfl rfl rfl b1 (k (gn rfl rfl rfl b1 (k (gn rfl rfl rfl b1 (k (gn rfl rfl rfl b1 (k (gn rfl rfl rfl b1 (k (pickF rfl rfl rfl rfl b1 rfl (k (asg (v := .bool false) rfl rfl (z (nx (rt (r1 rfl rfl ?_)))))))))))))))))
      have e0 : (false : Bool) = (decide (av = bv) && decide (ai = bi) && decide (ao = bo)) := by first | (rw [b0, b1]; rfl) | (rw [b0, b1]; simp) | (rw [b0]; simp)
      have ev_ := cg1 (fun (x_0 : Bool) => (.bool x_0 : Value)) e0
      exact ⟨ev_, H9.below⟩
  · -- decide (av = bv) is False
    have p0 := of_decide_eq_false b0
    refine k (gn rfl rfl rfl b0 (k (gn rfl rfl rfl b0 (k (gn rfl rfl rfl b0 (k (gn rfl rfl rfl b0 (k (gn rfl rfl rfl b0 (k (pickF rfl rfl rfl rfl b0 rfl (k (mv (v := .bool false) rfl rfl (k (gn rfl rfl rfl rfl (k (gn rfl rfl rfl rfl (k (gn rfl rfl rfl rfl (k (gn rfl rfl rfl rfl (k (gn rfl rfl rfl rfl (k (pickF rfl rfl rfl rfl rfl rfl (k (asg (v := .bool false) rfl rfl (z (nx (rt (r1 rfl rfl ?_)))))))))))))))))))))))))))))))
    have e0 : (false : Bool) = (decide (av = bv) && decide (ai = bi) && decide (ao = bo)) := by first | (rw [b0, b1]; rfl) | (rw [b0, b1]; simp) | (rw [b0]; simp)
    have ev_ := cg1 (fun (x_0 : Bool) => (.bool x_0 : Value)) e0
    exact ⟨ev_, H8.below⟩
/- eyewitness/origin.Whole -/
set_option maxRecDepth 100000 in
set_option maxHeartbeats 1600000 in
theorem origin_Whole {M : Nat → Prop} {w : World} {a_fv : Option Addr} {n_fv c_fv : Nat} {a_fi : Option Addr} {c_fi : Nat} {fi : List (Int × Int × Bool × Int × Int)} {a_fo : Option Addr} {c_fo : Nat} {fo : List Int} (hM : ∀ b, M b → b < w.heap.size) (h_fi : RV M w (.slice a_fi fi.length c_fi) fi) (h_fo : RV M w (.slice a_fo fo.length c_fo) fo) (hn_fi : fi.length ≤ 4096) : Calls Try.prog 25 #[.agg #[.slice a_fv n_fv c_fv, .slice a_fi fi.length c_fi, .slice a_fo fo.length c_fo]] w (Ret fun v w' =>  v = .bool (decide (fo = fromM fi)) ∧ Ext w w') := by
  refine enter 8 Try.func25 rfl rfl rfl fun f0 ha => ?_
  have H := HI.start (M0 := M) (w := w) hM
  have H0 := H.put (it := imm (.slice a_fi fi.length c_fi) fi) rfl (by rw [MS_nil]; exact h_fi)
  have H1 := H0.put (it := imm (.slice a_fo fo.length c_fo) fo) rfl (by rw [MS_cons_none rfl, MS_nil]; exact h_fo)
  have ln_fi := rv_len h_fi
  have ln_fo := rv_len h_fo
  have i0 : f0 0 = .agg #[.slice a_fv n_fv c_fv, .slice a_fi fi.length c_fi, .slice a_fo fo.length c_fo] := ha 0 (by simp)
  refine sq (rg (k (bx H1 rfl i0 ?_)))
  intro bb0 w0 xt0 (H2 : HI M w w0 [box bb0 #[.slice a_fv n_fv c_fv, .slice a_fi fi.length c_fi, .slice a_fo fo.length c_fo] 30, imm (.slice a_fo fo.length c_fo) fo, imm (.slice a_fi fi.length c_fi) fi])
  refine k (asg (v := .bool false) rfl rfl (z (nx (sq ?_))))
  refine dr 4 [fun (v : Value) (w' : World) => v = .pointer (some ⟨bb0, 2, none⟩), fun (v : Value) (w' : World) => v = .slice a_fo fo.length c_fo, fun (v : Value) (w' : World) => v = .agg #[.slice a_fv n_fv c_fv, .slice a_fi fi.length c_fi, .slice a_fo fo.length c_fo], fun (v : Value) (w' : World) => ∃ (a0 : Option Addr) (c0 : Nat), v = .slice a0 (fromM fi).length c0 ∧ RV (MS M [box bb0 #[.slice a_fv n_fv c_fv, .slice a_fi fi.length c_fi, .slice a_fo fo.length c_fo] 30, imm (.slice a_fo fo.length c_fo) fo, imm (.slice a_fi fi.length c_fi) fi]) w' (.slice a0 (fromM fi).length c0) (fromM fi)] rfl (by kernel_rfl) ?_ ?_
  ·
    refine ⟨fun _ => ⟨fun f0 w2 hf0 xt2 hp0 => ?_, fun _ _ _ _ h => h⟩, ?_⟩
    ·
      have H5 := H2.ext xt2
      refine fa fl30_2 rfl (hf0 1 rfl) ?_
      exact ⟨_, rfl, Ext.refl _, rfl⟩
    refine ⟨fun _ => ⟨fun f1 w3 hf1 xt3 hp1 => ?_, fun _ _ _ _ h => h⟩, ?_⟩
    ·
      have H6 := H2.ext xt3
      have s0 : f1 3 = .pointer (some ⟨bb0, 2, none⟩) := hp1 0 rfl rfl
      refine ldX H6 0 rfl ty28 rfl s0 (by decide) rfl ?_
      exact ⟨_, rfl, Ext.refl _, rfl⟩
    refine ⟨fun _ => ⟨fun f2 w4 hf2 xt4 hp2 => ?_, fun _ _ _ _ h => h⟩, ?_⟩
    ·
      have H7 := H2.ext xt4
      refine ldX H7 0 rfl ty30 rfl (hf2 1 rfl) (by decide) rfl ?_
      exact ⟨_, rfl, Ext.refl _, rfl⟩
    refine ⟨fun _ => ⟨fun f3 w5 hf3 xt5 hp3 => ?_, by rintro _ _ _ x_ ⟨a0, c0, e_, rv1⟩; exact ⟨a0, c0, e_, rv1.lift (Up.ext x_)⟩⟩, ?_⟩
    ·
      have H8 := H2.ext xt5
      have s1 : f3 5 = .agg #[.slice a_fv n_fv c_fv, .slice a_fi fi.length c_fi, .slice a_fo fo.length c_fo] := hp3 2 rfl rfl
      have cc1 := origin_from (fi := fi) (a_fv := a_fv) (n_fv := n_fv) (c_fv := c_fv) (a_fo := a_fo) (n_fo := fo.length) (c_fo := c_fo) (w := w5) H8.mb (H8.rv 2 rfl) (by assumption)
      refine ca go48 rfl (ec s1 e0) cc1 ?_
      rintro _ w6 ⟨a1, c1, rfl, xt6, rv2⟩
      have rv3 := OwnsG.rv rv2 H8.mb
      have H9 := H8.ext xt6
      have H10 := H9.put (it := imm (.slice a1 (fromM fi).length c1) (fromM fi)) rfl rv3
      exact ⟨_, rfl, xt6, ⟨a1, c1, rfl, rv3⟩⟩
    exact DSteps.rest rfl _
  · intro f4 w7 hf4 xt7 hp4
    have H11 := H2.ext xt7
    have s2 : f4 4 = .slice a_fo fo.length c_fo := hp4 1 rfl
    obtain ⟨a2, c2, s3, rv4⟩ : ∃ (a2 : Option Addr) (c2 : Nat), f4 6 = .slice a2 (fromM fi).length c2 ∧ RV (MS M [box bb0 #[.slice a_fv n_fv c_fv, .slice a_fi fi.length c_fi, .slice a_fo fo.length c_fo] 30, imm (.slice a_fo fo.length c_fo) fo, imm (.slice a_fi fi.length c_fi) fi]) w7 (.slice a2 (fromM fi).length c2) (fromM fi) := hp4 3 rfl
    have H12 := H11.put (it := imm (.slice a2 (fromM fi).length c2) (fromM fi)) rfl rv4
    refine k ?_
    have cc2 := equal_int (a := fo) (b := (fromM fi)) (w := w7) H12.mb (H12.rv 2 rfl) (H12.rv 0 rfl)
    refine ca go52 rfl (ec s2 (ec s3 e0)) cc2 ?_
    rintro _ w8 ⟨rfl, xt8⟩
    have H13 := H12.ext xt8
    refine k (asg (v := .bool (decide (fo = (fromM fi)))) rfl rfl (z (nx (rt (r1 rfl rfl ?_)))))
    have e0 : (decide (fo = (fromM fi)) : Bool) = decide (fo = fromM fi) := rfl
    have ev_ := cg1 (fun (x_0 : Bool) => (.bool x_0 : Value)) e0
    exact ⟨ev_, H13.below⟩
/- eyewitness/eyewitnessref11.Whole -/
set_option maxRecDepth 100000 in
set_option maxHeartbeats 1600000 in
theorem ref11_Whole {M : Nat → Prop} {w : World} {a_fv : Option Addr} {n_fv c_fv : Nat} {a_fi : Option Addr} {c_fi : Nat} {fi : List (Int × Int × Bool × Int × Int)} {a_fo : Option Addr} {c_fo : Nat} {fo : List Int} (hM : ∀ b, M b → b < w.heap.size) (h_fi : RV M w (.slice a_fi fi.length c_fi) fi) (h_fo : RV M w (.slice a_fo fo.length c_fo) fo) (hn_fi : fi.length ≤ 4096) : Calls Try.prog 26 #[.agg #[.slice a_fv n_fv c_fv, .slice a_fi fi.length c_fi, .slice a_fo fo.length c_fo]] w (Ret fun v w' =>  v = .bool (decide (fo = fromR fi)) ∧ Ext w w') := by
  refine enter 8 Try.func26 rfl rfl rfl fun f0 ha => ?_
  have H := HI.start (M0 := M) (w := w) hM
  have H0 := H.put (it := imm (.slice a_fi fi.length c_fi) fi) rfl (by rw [MS_nil]; exact h_fi)
  have H1 := H0.put (it := imm (.slice a_fo fo.length c_fo) fo) rfl (by rw [MS_cons_none rfl, MS_nil]; exact h_fo)
  have ln_fi := rv_len h_fi
  have ln_fo := rv_len h_fo
  have i0 : f0 0 = .agg #[.slice a_fv n_fv c_fv, .slice a_fi fi.length c_fi, .slice a_fo fo.length c_fo] := ha 0 (by simp)
  refine sq (rg (k (bx H1 rfl i0 ?_)))
  intro bb0 w0 xt0 (H2 : HI M w w0 [box bb0 #[.slice a_fv n_fv c_fv, .slice a_fi fi.length c_fi, .slice a_fo fo.length c_fo] 30, imm (.slice a_fo fo.length c_fo) fo, imm (.slice a_fi fi.length c_fi) fi])
  refine k (asg (v := .bool false) rfl rfl (z (nx (sq ?_))))
  refine dr 4 [fun (v : Value) (w' : World) => v = .pointer (some ⟨bb0, 2, none⟩), fun (v : Value) (w' : World) => v = .slice a_fo fo.length c_fo, fun (v : Value) (w' : World) => v = .agg #[.slice a_fv n_fv c_fv, .slice a_fi fi.length c_fi, .slice a_fo fo.length c_fo], fun (v : Value) (w' : World) => ∃ (a0 : Option Addr) (c0 : Nat), v = .slice a0 (fromR fi).length c0 ∧ RV (MS M [box bb0 #[.slice a_fv n_fv c_fv, .slice a_fi fi.length c_fi, .slice a_fo fo.length c_fo] 30, imm (.slice a_fo fo.length c_fo) fo, imm (.slice a_fi fi.length c_fi) fi]) w' (.slice a0 (fromR fi).length c0) (fromR fi)] rfl (by kernel_rfl) ?_ ?_
  ·
    refine ⟨fun _ => ⟨fun f0 w2 hf0 xt2 hp0 => ?_, fun _ _ _ _ h => h⟩, ?_⟩
    ·
      have H5 := H2.ext xt2
      refine fa fl30_2 rfl (hf0 1 rfl) ?_
      exact ⟨_, rfl, Ext.refl _, rfl⟩
    refine ⟨fun _ => ⟨fun f1 w3 hf1 xt3 hp1 => ?_, fun _ _ _ _ h => h⟩, ?_⟩
    ·
      have H6 := H2.ext xt3
      have s0 : f1 3 = .pointer (some ⟨bb0, 2, none⟩) := hp1 0 rfl rfl
      refine ldX H6 0 rfl ty28 rfl s0 (by decide) rfl ?_
      exact ⟨_, rfl, Ext.refl _, rfl⟩
    refine ⟨fun _ => ⟨fun f2 w4 hf2 xt4 hp2 => ?_, fun _ _ _ _ h => h⟩, ?_⟩
    ·
      have H7 := H2.ext xt4
      refine ldX H7 0 rfl ty30 rfl (hf2 1 rfl) (by decide) rfl ?_
      exact ⟨_, rfl, Ext.refl _, rfl⟩
    refine ⟨fun _ => ⟨fun f3 w5 hf3 xt5 hp3 => ?_, by rintro _ _ _ x_ ⟨a0, c0, e_, rv1⟩; exact ⟨a0, c0, e_, rv1.lift (Up.ext x_)⟩⟩, ?_⟩
    ·
      have H8 := H2.ext xt5
      have s1 : f3 5 = .agg #[.slice a_fv n_fv c_fv, .slice a_fi fi.length c_fi, .slice a_fo fo.length c_fo] := hp3 2 rfl rfl
      have cc1 := ref11_From (fi := fi) (a_fv := a_fv) (n_fv := n_fv) (c_fv := c_fv) (a_fo := a_fo) (n_fo := fo.length) (c_fo := c_fo) (w := w5) H8.mb (H8.rv 2 rfl) (by assumption)
      refine ca go49 rfl (ec s1 e0) cc1 ?_
      rintro _ w6 ⟨a1, c1, rfl, xt6, rv2⟩
      have rv3 := OwnsG.rv rv2 H8.mb
      have H9 := H8.ext xt6
      have H10 := H9.put (it := imm (.slice a1 (fromR fi).length c1) (fromR fi)) rfl rv3
      exact ⟨_, rfl, xt6, ⟨a1, c1, rfl, rv3⟩⟩
    exact DSteps.rest rfl _
  · intro f4 w7 hf4 xt7 hp4
    have H11 := H2.ext xt7
    have s2 : f4 4 = .slice a_fo fo.length c_fo := hp4 1 rfl
    obtain ⟨a2, c2, s3, rv4⟩ : ∃ (a2 : Option Addr) (c2 : Nat), f4 6 = .slice a2 (fromR fi).length c2 ∧ RV (MS M [box bb0 #[.slice a_fv n_fv c_fv, .slice a_fi fi.length c_fi, .slice a_fo fo.length c_fo] 30, imm (.slice a_fo fo.length c_fo) fo, imm (.slice a_fi fi.length c_fi) fi]) w7 (.slice a2 (fromR fi).length c2) (fromR fi) := hp4 3 rfl
    have H12 := H11.put (it := imm (.slice a2 (fromR fi).length c2) (fromR fi)) rfl rv4
    refine k ?_
    have cc2 := ref02_Ints (a := fo) (b := (fromR fi)) (w := w7) H12.mb (H12.rv 2 rfl) (H12.rv 0 rfl)
    refine ca go27 rfl (ec s2 (ec s3 e0)) cc2 ?_
    rintro _ w8 ⟨rfl, xt8⟩
    have H13 := H12.ext xt8
    refine k (asg (v := .bool (decide (fo = (fromR fi)))) rfl rfl (z (nx (rt (r1 rfl rfl ?_)))))
    have e0 : (decide (fo = (fromR fi)) : Bool) = decide (fo = fromR fi) := rfl
    have ev_ := cg1 (fun (x_0 : Bool) => (.bool x_0 : Value)) e0
    exact ⟨ev_, H13.below⟩
/- eyewitness/origin.Readers -/
set_option maxRecDepth 100000 in
set_option maxHeartbeats 1600000 in
theorem origin_Readers {M : Nat → Prop} {w : World} {a_fv : Option Addr} {n_fv c_fv : Nat} {a_fi : Option Addr} {n_fi c_fi : Nat} {a_fo : Option Addr} {c_fo : Nat} {fo : List Int} {tr : Int} (hM : ∀ b, M b → b < w.heap.size) (h_fo : RV M w (.slice a_fo fo.length c_fo) fo) (h_tr : I64 tr) (hn_fo : fo.length ≤ 4096) : Calls Try.prog 28 #[.agg #[.slice a_fv n_fv c_fv, .slice a_fi n_fi c_fi, .slice a_fo fo.length c_fo], .int .i64 tr] w (Ret fun v w' => ∃ (a0 : Option Addr) (c0 : Nat), v = .slice a0 (readsO fo tr fo.length).length c0 ∧ Ext w w' ∧ OwnsG M 3 w (readsO fo tr fo.length) (.slice a0 (readsO fo tr fo.length).length c0) w') := by
  refine enter 29 Try.func28 rfl rfl rfl fun f0 ha => ?_
  have H := HI.start (M0 := M) (w := w) hM
  have H0 := H.put (it := imm (.slice a_fo fo.length c_fo) fo) rfl (by rw [MS_nil]; exact h_fo)
  have ln_fo := rv_len h_fo
  have i0 : f0 0 = .agg #[.slice a_fv n_fv c_fv, .slice a_fi n_fi c_fi, .slice a_fo fo.length c_fo] := ha 0 (by simp)
  have i1 : f0 1 = .int .i64 tr := ha 1 (by simp)
  refine sq (rg (k (bx H0 rfl i0 ?_)))
  intro bb0 w0 xt0 (H1 : HI M w w0 [box bb0 #[.slice a_fv n_fv c_fv, .slice a_fi n_fi c_fi, .slice a_fo fo.length c_fo] 30, imm (.slice a_fo fo.length c_fo) fo])
  refine k (asg (v := .slice none 0 0) rfl rfl (z (nx (sq (rg (k (asg (v := .slice none 0 0) rfl rfl (z (nx (sq (sq (rg (k (fa fl30_2 rfl rfl (k (ldX H1 0 rfl ty28 rfl rfl (by decide) rfl (k (lnS rfl rfl un28 (k (mv (v := .int .i64 0) rfl rfl (z (nx (bk ?_)))))))))))))))))))))))
  have H2 := H1.nil_ Int 3
  refine lp (fun m f w' => ∃ (j : Nat) (xs : List Int) (a0 : Option Addr) (c0 : Nat), m = fo.length - j ∧ f 1 = .int .i64 tr ∧ f 5 = .slice a0 xs.length c0 ∧ f 9 = .slice a_fo fo.length c_fo ∧ f 10 = .int .i64 (fo.length : Int) ∧ f 11 = .int .i64 (j : Int) ∧  HI M w w' [own w.heap.size 3 (.slice a0 xs.length c0) xs, box bb0 #[.slice a_fv n_fv c_fv, .slice a_fi n_fi c_fi, .slice a_fo fo.length c_fo] 30, imm (.slice a_fo fo.length c_fo) fo] ∧ (j ≤ fo.length) ∧ (xs = readsO fo tr j)) _ ⟨0, ([] : List Int), none, 0, rfl, i1, rfl, rfl, rfl, (ieq rfl (by first | rfl | omega | simp)), H2, (by first | assumption | omega | simp | (simp; omega)), (by rfl)⟩ ?_
  rintro _ f0 w1 ⟨j, xs, a0, c0, rfl, s0, s1, s2, s3, s4, H3, hk, hs⟩
  refine sq (rg (k (lss rfl rfl s4 s3 (z (nx (sq ?_))))))
  refine cd (b := decide ((j : Int) < (fo.length : Int))) rfl rfl (fun b0 => ?_) (fun b0 => ?_)
  ·
    have p0 := of_decide_eq_true b0
    refine sk (nx (sq (bk (sq (rg (k (mv rfl s4 (k (ia (H3.rv 2 rfl) rfl rfl s2 s4 (by first | omega | (simp; omega)) un28 ty3 ?_)))))))))
    intro ad0 x0 hx0 hA0
    refine k (ldI hA0.w ty3 rfl rfl ?_)
    intro rv0
    refine k (asg (v := .int .i64 (j : Int)) rfl rfl (k (asg (v := .int .i64 x0) rfl rfl (z (nx (sq (rg (k (mv (v := .int .i64 x0) rfl rfl (k (mv rfl s0 (k (eql rfl rfl rfl rfl (k (mv (v := .bool (decide (x0 = tr))) rfl rfl ?_)))))))))))))))
    rcases Bool.eq_false_or_eq_true (decide (x0 = tr)) with b1 | b1
    · -- decide (x0 = tr) is True
      have p1 := of_decide_eq_true b1
      refine k (gy rfl rfl rfl b1 (mv rfl s0 (k (gy rfl rfl rfl b1 (geq rfl rfl rfl rfl (k (pickT rfl rfl rfl rfl b1 rfl (z (nx ?_)))))))))
      refine cd (b := decide (0 ≤ tr)) rfl rfl (fun b2 => ?_) (fun b2 => ?_)
      ·
        have p2 := of_decide_eq_true b2
        refine rg (k (mv rfl s1 (k (mv (v := .int .i64 (j : Int)) rfl rfl (k (bs (xs := ([(j : Int)] : List Int)) (cells := #[.int .i64 (j : Int)]) (e := 3) H3 rfl (pbc rfl pb0) (fun _ => by kernel_rfl) ⟨[.int .i64 (j : Int)], [], rfl, ⟨rfl, (show I64 ((j : Int)) from (by unfold I64 at *; omega))⟩, rfl⟩ rfl (by unfold maxLen; omega) ?_))))))
        intro g0 w2 xt1 (H4 : HI M w w2 [own w.heap.size 3 (.slice (some ⟨g0, 0, none⟩) 1 1) ([(j : Int)] : List Int), own w.heap.size 3 (.slice a0 xs.length c0) xs, box bb0 #[.slice a_fv n_fv c_fv, .slice a_fi n_fi c_fi, .slice a_fo fo.length c_fo] 30, imm (.slice a_fo fo.length c_fo) fo])
        refine k (ap H4 1 rfl rfl rfl rfl rfl rfl (own_src (H4.at_ 0 rfl)) un28 ty3 rfl (by have h_ := readsO_len fo tr j; rw [hs]; simp only [List.length_cons, List.length_nil]; omega) (by have h_ := readsO_len fo tr j; rw [hs]; simp only [List.length_cons, List.length_nil]; omega) ?_)
        intro a1 c1 w3 (H5 : HI M w w3 [own w.heap.size 3 (.slice (some ⟨g0, 0, none⟩) 1 1) ([(j : Int)] : List Int), own w.heap.size 3 (.slice a1 (xs ++ ([(j : Int)] : List Int)).length c1) (xs ++ ([(j : Int)] : List Int)), box bb0 #[.slice a_fv n_fv c_fv, .slice a_fi n_fi c_fi, .slice a_fo fo.length c_fo] 30, imm (.slice a_fo fo.length c_fo) fo])
        refine k (asg (v := .slice a1 (xs ++ ([(j : Int)] : List Int)).length c1) rfl rfl (z (inb_normal (nx (rg (k (add rfl rfl s4 rfl (by unfold I64 at *; omega) (k (mv (v := .int .i64 ((j : Int) + 1)) rfl rfl (z ?_))))))))))
        have H6 : HI M w w3 [own w.heap.size 3 (.slice a1 (xs ++ ([(j : Int)] : List Int)).length c1) (xs ++ ([(j : Int)] : List Int)), box bb0 #[.slice a_fv n_fv c_fv, .slice a_fi n_fi c_fi, .slice a_fo fo.length c_fo] 30, imm (.slice a_fo fo.length c_fo) fo] := H5.pickN [1, 2, 3] (by decide) rfl
        refine loopN _ ?_ ⟨(j + 1), (xs ++ ([(j : Int)] : List Int)), a1, c1, rfl, s0, rfl, s2, s3, (ieq rfl (by first | rfl | omega | (push_cast; omega))), H6, (by first | assumption | omega | simp | (simp; omega)), (by rw [hs]; first | exact readsO_yes hx0 p1 p2 | exact readsO_no hx0 (.inl p1) | exact readsO_no hx0 (.inr p2))⟩
        omega
      ·
        have p2 := of_decide_eq_false b2
        refine sk (inb_normal (nx (rg (k (add rfl rfl s4 rfl (by unfold I64 at *; omega) (k (mv (v := .int .i64 ((j : Int) + 1)) rfl rfl (z ?_))))))))
        refine loopN _ ?_ ⟨(j + 1), xs, a0, c0, rfl, s0, s1, s2, s3, (ieq rfl (by first | rfl | omega | (push_cast; omega))), H3, (by first | assumption | omega | simp | (simp; omega)), (by rw [hs]; first | exact readsO_yes hx0 p1 p2 | exact readsO_no hx0 (.inl p1) | exact readsO_no hx0 (.inr p2))⟩
        omega
    · -- decide (x0 = tr) is False
      have p1 := of_decide_eq_false b1
      refine k (gn rfl rfl rfl b1 (k (gn rfl rfl rfl b1 (k (pickF rfl rfl rfl rfl b1 rfl (z (nx (cdF rfl rfl rfl (sk (inb_normal (nx (rg (k (add rfl rfl s4 rfl (by unfold I64 at *; omega) (k (mv (v := .int .i64 ((j : Int) + 1)) rfl rfl (z ?_)))))))))))))))))
      refine loopN _ ?_ ⟨(j + 1), xs, a0, c0, rfl, s0, s1, s2, s3, (ieq rfl (by first | rfl | omega | (push_cast; omega))), H3, (by first | assumption | omega | simp | (simp; omega)), (by rw [hs]; first | exact readsO_yes hx0 p1 p2 | exact readsO_no hx0 (.inl p1) | exact readsO_no hx0 (.inr p2))⟩
      omega
  ·
    have p0 := of_decide_eq_false b0
    refine ex (then_exit (loop_exit (inb_here (nx (sq (rg (k (mv rfl s1 (k (asg (v := .slice a0 xs.length c0) rfl rfl (z (nx (rt (r1 rfl rfl ?_))))))))))))))
    have e0 : (xs : List Int) = readsO fo tr fo.length := by rw [hs, show j = fo.length from by omega]
    have ev_ := cg1 (fun (x_0 : List Int) => (.slice a0 x_0.length c0 : Value)) e0
    exact ⟨a0, c0, ev_, H3.below, (congrArg (fun (x_ : List Int) => OwnsG _ _ _ x_ (.slice a0 x_.length c0) _) e0).mp (H3.ownsG_out 0 rfl)⟩
/- eyewitness/eyewitnessref11.Readers -/
set_option maxRecDepth 100000 in
set_option maxHeartbeats 1600000 in
theorem ref11_Readers {M : Nat → Prop} {w : World} {a_fv : Option Addr} {n_fv c_fv : Nat} {a_fi : Option Addr} {c_fi : Nat} {fi : List (Int × Int × Bool × Int × Int)} {a_fo : Option Addr} {c_fo : Nat} {fo : List Int} {tr : Int} (hM : ∀ b, M b → b < w.heap.size) (h_fi : RV M w (.slice a_fi fi.length c_fi) fi) (h_fo : RV M w (.slice a_fo fo.length c_fo) fo) (h_tr : I64 tr) (hn_fo : fo.length ≤ 4096) (hi_f : fi.length = fo.length) : Calls Try.prog 29 #[.agg #[.slice a_fv n_fv c_fv, .slice a_fi fi.length c_fi, .slice a_fo fo.length c_fo], .int .i64 tr] w (Ret fun v w' => ∃ (a0 : Option Addr) (c0 : Nat), v = .slice a0 (readsO fo tr fo.length).length c0 ∧ Ext w w' ∧ OwnsG M 3 w (readsO fo tr fo.length) (.slice a0 (readsO fo tr fo.length).length c0) w') := by
  refine enter 30 Try.func29 rfl rfl rfl fun f0 ha => ?_
  have H := HI.start (M0 := M) (w := w) hM
  have H0 := H.put (it := imm (.slice a_fi fi.length c_fi) fi) rfl (by rw [MS_nil]; exact h_fi)
  have H1 := H0.put (it := imm (.slice a_fo fo.length c_fo) fo) rfl (by rw [MS_cons_none rfl, MS_nil]; exact h_fo)
  have ln_fi := rv_len h_fi
  have ln_fo := rv_len h_fo
  have i0 : f0 0 = .agg #[.slice a_fv n_fv c_fv, .slice a_fi fi.length c_fi, .slice a_fo fo.length c_fo] := ha 0 (by simp)
  have i1 : f0 1 = .int .i64 tr := ha 1 (by simp)
  refine sq (rg (k (bx H1 rfl i0 ?_)))
  intro bb0 w0 xt0 (H2 : HI M w w0 [box bb0 #[.slice a_fv n_fv c_fv, .slice a_fi fi.length c_fi, .slice a_fo fo.length c_fo] 30, imm (.slice a_fo fo.length c_fo) fo, imm (.slice a_fi fi.length c_fi) fi])
  refine k (asg (v := .slice none 0 0) rfl rfl (z (nx (sq (rg (k (asg (v := .slice none 0 0) rfl rfl (z (nx (sq (sq (rg (k (asg (v := .int .i64 0) rfl rfl (z (nx (bk ?_)))))))))))))))))
  have H3 := H2.nil_ Int 3
  refine lp (fun m f w' => ∃ (j : Nat) (xs : List Int) (a0 : Option Addr) (c0 : Nat), m = fo.length - j ∧ f 1 = .int .i64 tr ∧ f 2 = .pointer (some ⟨bb0, 0, none⟩) ∧ f 5 = .slice a0 xs.length c0 ∧ f 6 = .int .i64 (j : Int) ∧  HI M w w' [own w.heap.size 3 (.slice a0 xs.length c0) xs, box bb0 #[.slice a_fv n_fv c_fv, .slice a_fi fi.length c_fi, .slice a_fo fo.length c_fo] 30, imm (.slice a_fo fo.length c_fo) fo, imm (.slice a_fi fi.length c_fi) fi] ∧ (j ≤ fo.length) ∧ (xs = readsO fo tr j)) _ ⟨0, ([] : List Int), none, 0, rfl, i1, rfl, rfl, (ieq rfl (by first | rfl | omega | simp)), H3, (by first | assumption | omega | simp | (simp; omega)), (by rfl)⟩ ?_
  rintro _ f0 w1 ⟨j, xs, a0, c0, rfl, s0, s1, s2, s3, H4, hk, hs⟩
  refine sq (sq (rg (k (mv rfl s3 (k (fa fl30_1 rfl s1 (k (ldX H4 1 rfl ty27 rfl rfl (by decide) rfl (k (lnS rfl rfl un27 (k (lss rfl rfl rfl rfl (z (nx ?_))))))))))))))
  refine cd (b := decide ((j : Int) < (fi.length : Int))) rfl rfl (fun b0 => ?_) (fun b0 => ?_)
  ·
    have p0 := of_decide_eq_true b0
    refine sk (nx (sq (bk (sq (rg (k (mv rfl s0 (k (geq rfl rfl rfl rfl (k (mv (v := .bool (decide (0 ≤ tr))) rfl rfl ?_)))))))))))
    rcases Bool.eq_false_or_eq_true (decide (0 ≤ tr)) with b1 | b1
    · -- decide (0 ≤ tr) is True
      have p1 := of_decide_eq_true b1
      refine k (gy rfl rfl rfl b1 (fa fl30_2 rfl s1 (k (gy rfl rfl rfl b1 (ldX H4 1 rfl ty28 rfl rfl (by decide) rfl (k (gy rfl rfl rfl b1 (mv rfl s3 (k (gy rfl rfl rfl b1 (ia (H4.rv 2 rfl) rfl rfl rfl rfl (by first | omega | (simp; omega)) un28 ty3 ?_)))))))))))
      intro ad0 x0 hx0 hA0
      refine k (gy rfl rfl rfl b1 (ldI hA0.w ty3 rfl rfl ?_))
      intro rv0
      refine k (gy rfl rfl rfl b1 (mv rfl s0 (k (gy rfl rfl rfl b1 (eql rfl rfl rfl rfl (k (pickT rfl rfl rfl rfl b1 rfl (z (nx ?_)))))))))
      refine cd (b := decide (x0 = tr)) rfl rfl (fun b2 => ?_) (fun b2 => ?_)
      ·
        have p2 := of_decide_eq_true b2
        refine rg (k (mv rfl s2 (k (mv rfl s3 (k (bs (xs := ([(j : Int)] : List Int)) (cells := #[.int .i64 (j : Int)]) (e := 3) H4 rfl (pbc rfl pb0) (fun _ => by kernel_rfl) ⟨[.int .i64 (j : Int)], [], rfl, ⟨rfl, (show I64 ((j : Int)) from (by unfold I64 at *; omega))⟩, rfl⟩ rfl (by unfold maxLen; omega) ?_))))))
        intro g0 w2 xt1 (H5 : HI M w w2 [own w.heap.size 3 (.slice (some ⟨g0, 0, none⟩) 1 1) ([(j : Int)] : List Int), own w.heap.size 3 (.slice a0 xs.length c0) xs, box bb0 #[.slice a_fv n_fv c_fv, .slice a_fi fi.length c_fi, .slice a_fo fo.length c_fo] 30, imm (.slice a_fo fo.length c_fo) fo, imm (.slice a_fi fi.length c_fi) fi])
        refine k (ap H5 1 rfl rfl rfl rfl rfl rfl (own_src (H5.at_ 0 rfl)) un28 ty3 rfl (by have h_ := readsO_len fo tr j; rw [hs]; simp only [List.length_cons, List.length_nil]; omega) (by have h_ := readsO_len fo tr j; rw [hs]; simp only [List.length_cons, List.length_nil]; omega) ?_)
        intro a1 c1 w3 (H6 : HI M w w3 [own w.heap.size 3 (.slice (some ⟨g0, 0, none⟩) 1 1) ([(j : Int)] : List Int), own w.heap.size 3 (.slice a1 (xs ++ ([(j : Int)] : List Int)).length c1) (xs ++ ([(j : Int)] : List Int)), box bb0 #[.slice a_fv n_fv c_fv, .slice a_fi fi.length c_fi, .slice a_fo fo.length c_fo] 30, imm (.slice a_fo fo.length c_fo) fo, imm (.slice a_fi fi.length c_fi) fi])
        refine k (asg (v := .slice a1 (xs ++ ([(j : Int)] : List Int)).length c1) rfl rfl (z (inb_normal (nx (rg (k (mv rfl s3 (k (add rfl rfl rfl rfl (by unfold I64 at *; omega) (k (asg (v := .int .i64 ((j : Int) + 1)) rfl rfl (z ?_))))))))))))
        have H7 : HI M w w3 [own w.heap.size 3 (.slice a1 (xs ++ ([(j : Int)] : List Int)).length c1) (xs ++ ([(j : Int)] : List Int)), box bb0 #[.slice a_fv n_fv c_fv, .slice a_fi fi.length c_fi, .slice a_fo fo.length c_fo] 30, imm (.slice a_fo fo.length c_fo) fo, imm (.slice a_fi fi.length c_fi) fi] := H6.pickN [1, 2, 3, 4] (by decide) rfl
        refine loopN _ ?_ ⟨(j + 1), (xs ++ ([(j : Int)] : List Int)), a1, c1, rfl, s0, s1, rfl, (ieq rfl (by first | rfl | omega | (push_cast; omega))), H7, (by first | assumption | omega | simp | (simp; omega)), (by rw [hs]; first | exact readsO_yes hx0 p2 p1 | exact readsO_no hx0 (.inl p2) | exact (readsO_neg p1 j).trans (readsO_neg p1 (j + 1)).symm)⟩
        omega
      ·
        have p2 := of_decide_eq_false b2
        refine sk (inb_normal (nx (rg (k (mv rfl s3 (k (add rfl rfl rfl rfl (by unfold I64 at *; omega) (k (asg (v := .int .i64 ((j : Int) + 1)) rfl rfl (z ?_))))))))))
        refine loopN _ ?_ ⟨(j + 1), xs, a0, c0, rfl, s0, s1, s2, (ieq rfl (by first | rfl | omega | (push_cast; omega))), H4, (by first | assumption | omega | simp | (simp; omega)), (by rw [hs]; first | exact readsO_yes hx0 p2 p1 | exact readsO_no hx0 (.inl p2) | exact (readsO_neg p1 j).trans (readsO_neg p1 (j + 1)).symm)⟩
        omega
    · -- decide (0 ≤ tr) is False
      have p1 := of_decide_eq_false b1
      refine k (gn rfl rfl rfl b1 (k (gn rfl rfl rfl b1 (k (gn rfl rfl rfl b1 (k (gn rfl rfl rfl b1 (k (gn rfl rfl rfl b1 (k (gn rfl rfl rfl b1 (k (gn rfl rfl rfl b1 (k (pickF rfl rfl rfl rfl b1 rfl (z (nx (cdF rfl rfl rfl (sk (inb_normal (nx (rg (k (mv rfl s3 (k (add rfl rfl rfl rfl (by unfold I64 at *; omega) (k (asg (v := .int .i64 ((j : Int) + 1)) rfl rfl (z ?_)))))))))))))))))))))))))))))
      refine loopN _ ?_ ⟨(j + 1), xs, a0, c0, rfl, s0, s1, s2, (ieq rfl (by first | rfl | omega | (push_cast; omega))), H4, (by first | assumption | omega | simp | (simp; omega)), (by rw [hs]; first | exact readsO_yes hx0 p2 p1 | exact readsO_no hx0 (.inl p2) | exact (readsO_neg p1 j).trans (readsO_neg p1 (j + 1)).symm)⟩
      omega
  ·
    have p0 := of_decide_eq_false b0
    refine ex (then_exit (loop_exit (inb_here (nx (sq (rg (k (mv rfl s2 (k (asg (v := .slice a0 xs.length c0) rfl rfl (z (nx (rt (r1 rfl rfl ?_))))))))))))))
    have e0 : (xs : List Int) = readsO fo tr fo.length := by rw [hs, show j = fo.length from by omega]
    have ev_ := cg1 (fun (x_0 : List Int) => (.slice a0 x_0.length c0 : Value)) e0
    exact ⟨a0, c0, ev_, H4.below, (congrArg (fun (x_ : List Int) => OwnsG _ _ _ x_ (.slice a0 x_.length c0) _) e0).mp (H4.ownsG_out 0 rfl)⟩
end Go.Proofs.Ytmliihgaoaolmaa
