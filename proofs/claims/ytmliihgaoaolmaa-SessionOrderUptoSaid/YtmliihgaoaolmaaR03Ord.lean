/- PRINTED by my own tool (wip/tool/gen.py): contracts of Go functions of this seat, each with its proof. -/
import Derived.Test.YtmliihgaoaolmaaR03Sess
import Derived.Test.YtmliihgaoaolmaaR03Mat
import Derived.Test.YtmliihgaoaolmaaR03Fns
import Derived.Test.YtmliihgaoaolmaaEngV
import Derived.Test.YtmliihgaoaolmaaEwSpecS
namespace Go.Proofs.Ytmliihgaoaolmaa
open Go.Ew Go.RowKit
set_option linter.unusedVariables false
set_option linter.unusedSimpArgs false
attribute [local irreducible] WL WC SO Code.wp wpList retQ Ret
attribute [local irreducible] bitB hasW inR hasR setR countW countR subR words newR listR orR firstW tab8
theorem go53 : GoF Try.prog 53 := ⟨_, _, Try.func53, rfl, by kernel_rfl⟩
theorem go61 : GoF Try.prog 61 := ⟨_, _, Try.func61, rfl, by kernel_rfl⟩
theorem un59 : Try.prog.underlying 59 = some (.slice 61) := by kernel_rfl
theorem ty61 : TyF Try.prog 61 2 true 16 (.agg #[.int .i64 0, .int .i64 0]) := ⟨by kernel_rfl, by kernel_rfl⟩
/- eyewitness/eyewitnessref02.List -/
set_option maxRecDepth 100000 in
set_option maxHeartbeats 1600000 in
theorem ref02_List {M : Nat → Prop} {w : World} {a_r : Option Addr} {c_r : Nat} {r : List (BitVec 64)} (hM : ∀ b, M b → b < w.heap.size) (h_r : RV M w (.slice a_r r.length c_r) r) (hl_r : r.length ≤ 1000000000) : Calls Try.prog 61 #[.slice a_r r.length c_r] w (Ret fun v w' => ∃ (a0 : Option Addr) (c0 : Nat), v = .slice a0 (listR r).length c0 ∧ Ext w w' ∧ OwnsG M 3 w (listR r) (.slice a0 (listR r).length c0) w') := by
  refine enter 20 Try.func61 rfl rfl rfl fun f0 ha => ?_
  have H := HI.start (M0 := M) (w := w) hM
  have H0 := H.put (it := imm (.slice a_r r.length c_r) r) rfl (by rw [MS_nil]; exact h_r)
  have ln_r := rv_len h_r
  have i0 : f0 0 = .slice a_r r.length c_r := ha 0 (by simp)
  refine sq (rg (k (asg (v := .slice none 0 0) rfl rfl (z (nx (sq (rg (k (asg (v := .slice none 0 0) rfl rfl (z (nx (sq (sq (rg (k (asg (v := .int .i64 0) rfl rfl (z (nx (bk ?_)))))))))))))))))))
  have H1 := H0.nil_ Int 3
  refine lp (fun m f w' => ∃ (n : Nat) (xs : List Int) (a0 : Option Addr) (c0 : Nat), m = 64 * r.length - n ∧ f 0 = .slice a_r r.length c_r ∧ f 3 = .slice a0 xs.length c0 ∧ f 4 = .int .i64 (n : Int) ∧  HI M w w' [own w.heap.size 3 (.slice a0 xs.length c0) xs, imm (.slice a_r r.length c_r) r] ∧ (n ≤ 64 * r.length) ∧ (xs = listN r n)) _ ⟨0, ([] : List Int), none, 0, rfl, i0, rfl, (ieq rfl (by first | rfl | omega | simp)), H1, (by first | assumption | omega | simp | (simp; omega)), (by rfl)⟩ ?_
  rintro _ f0 w0 ⟨n, xs, a0, c0, rfl, s0, s1, s2, H2, hk, hs⟩
  refine sq (sq (rg (k (mv rfl s2 (k (mv rfl s0 (k (lnS rfl rfl un79 (k (mul rfl rfl rfl rfl (by unfold I64 at *; omega) (k (lss rfl rfl rfl rfl (z (nx ?_))))))))))))))
  refine cd (b := decide ((n : Int) < (64 * (r.length : Int)))) rfl rfl (fun b0 => ?_) (fun b0 => ?_)
  ·
    have p0 := of_decide_eq_true b0
    refine sk (nx (sq (bk (sq (rg (k (mv rfl s0 (k (mv rfl s2 (k ?_))))))))))
    have cc0 := ref02_Has (r := r) (i := (n : Int)) (w := w0) H2.mb (H2.rv 1 rfl) (by unfold I64 at *; omega) (by first | omega | (simp; omega))
    refine ca go60 rfl (ec rfl (ec rfl e0)) cc0 ?_
    rintro _ w1 ⟨rfl, xt0⟩
    have H3 := H2.ext xt0
    refine z (nx ?_)
    refine cd (b := hasR r (n : Int)) rfl rfl (fun b1 => ?_) (fun b1 => ?_)
    ·
      refine rg (k (mv rfl s1 (k (mv rfl s2 (k (bs (xs := ([(n : Int)] : List Int)) (cells := #[.int .i64 (n : Int)]) (e := 3) H3 rfl (pbc rfl pb0) (fun _ => by kernel_rfl) ⟨[.int .i64 (n : Int)], [], rfl, ⟨rfl, (show I64 ((n : Int)) from (by unfold I64 at *; omega))⟩, rfl⟩ rfl (by unfold maxLen; omega) ?_))))))
      intro g0 w2 xt1 (H4 : HI M w w2 [own w.heap.size 3 (.slice (some ⟨g0, 0, none⟩) 1 1) ([(n : Int)] : List Int), own w.heap.size 3 (.slice a0 xs.length c0) xs, imm (.slice a_r r.length c_r) r])
      refine k (ap H4 1 rfl rfl rfl rfl rfl rfl (own_src (H4.at_ 0 rfl)) un28 ty3 rfl (by have h_ := listN_length r n; rw [hs]; simp only [List.length_cons, List.length_nil]; omega) (by have h_ := listN_length r n; rw [hs]; simp only [List.length_cons, List.length_nil]; omega) ?_)
      intro a1 c1 w3 (H5 : HI M w w3 [own w.heap.size 3 (.slice (some ⟨g0, 0, none⟩) 1 1) ([(n : Int)] : List Int), own w.heap.size 3 (.slice a1 (xs ++ ([(n : Int)] : List Int)).length c1) (xs ++ ([(n : Int)] : List Int)), imm (.slice a_r r.length c_r) r])
      refine k (asg (v := .slice a1 (xs ++ ([(n : Int)] : List Int)).length c1) rfl rfl (z (inb_normal (nx (rg (k (mv rfl s2 (k (add rfl rfl rfl rfl (by unfold I64 at *; omega) (k (asg (v := .int .i64 ((n : Int) + 1)) rfl rfl (z ?_))))))))))))
      have H6 : HI M w w3 [own w.heap.size 3 (.slice a1 (xs ++ ([(n : Int)] : List Int)).length c1) (xs ++ ([(n : Int)] : List Int)), imm (.slice a_r r.length c_r) r] := H5.pickN [1, 2] (by decide) rfl
      refine loopN _ ?_ ⟨(n + 1), (xs ++ ([(n : Int)] : List Int)), a1, c1, rfl, s0, rfl, (ieq rfl (by first | rfl | omega | (push_cast; omega))), H6, (by first | assumption | omega | simp | (simp; omega)), (by rw [hs]; first | exact (listN_succ_yes b1).symm | exact (listN_succ_no b1).symm)⟩
      omega
    ·
      refine sk (inb_normal (nx (rg (k (mv rfl s2 (k (add rfl rfl rfl rfl (by unfold I64 at *; omega) (k (asg (v := .int .i64 ((n : Int) + 1)) rfl rfl (z ?_))))))))))
      refine loopN _ ?_ ⟨(n + 1), xs, a0, c0, rfl, s0, s1, (ieq rfl (by first | rfl | omega | (push_cast; omega))), H3, (by first | assumption | omega | simp | (simp; omega)), (by rw [hs]; first | exact (listN_succ_yes b1).symm | exact (listN_succ_no b1).symm)⟩
      omega
  ·
    have p0 := of_decide_eq_false b0
    refine ex (then_exit (loop_exit (inb_here (nx (sq (rg (k (mv rfl s1 (k (asg (v := .slice a0 xs.length c0) rfl rfl (z (nx (rt (r1 rfl rfl ?_))))))))))))))
    have e0 : (xs : List Int) = listR r := by rw [hs, show n = 64 * r.length from by omega]; exact listN_all r
    have ev_ := cg1 (fun (x_0 : List Int) => (.slice a0 x_0.length c0 : Value)) e0
    exact ⟨a0, c0, ev_, H2.below, (congrArg (fun (x_ : List Int) => OwnsG _ _ _ x_ (.slice a0 x_.length c0) _) e0).mp (H2.ownsG_out 0 rfl)⟩
/- eyewitness/eyewitnessref03.Right -/
set_option maxRecDepth 100000 in
set_option maxHeartbeats 1600000 in
theorem ref03_Right {M : Nat → Prop} {w : World} {mn : Int} {a_mr : Option Addr} {c_mr : Nat} {mr : List (List (BitVec 64))} (hM : ∀ b, M b → b < w.heap.size) (h_mn : I64 mn) (h_mr : RV M w (.slice a_mr mr.length c_mr) mr) : Calls Try.prog 38 #[.agg #[.int .i64 mn, .slice a_mr mr.length c_mr]] w (Ret fun v w' =>  v = .bool (rightS mn mr) ∧ Ext w w') := by
  refine enter 57 Try.func38 rfl rfl rfl fun f0 ha => ?_
  have H := HI.start (M0 := M) (w := w) hM
  have H0 := H.put (it := imm (.slice a_mr mr.length c_mr) mr) rfl (by rw [MS_nil]; exact h_mr)
  have ln_mr := rv_len h_mr
  have i0 : f0 0 = .agg #[.int .i64 mn, .slice a_mr mr.length c_mr] := ha 0 (by simp)
  refine sq (rg (k (bx H0 rfl i0 ?_)))
  intro bb0 w0 xt0 (H1 : HI M w w0 [box bb0 #[.int .i64 mn, .slice a_mr mr.length c_mr] 53, imm (.slice a_mr mr.length c_mr) mr])
  refine k (asg (v := .bool false) rfl rfl (z (nx (sq (sq (rg (k (fa fl53_0 rfl rfl (k (ldX H1 0 rfl ty3 rfl rfl (by decide) rfl (k (lss rfl rfl rfl rfl (k (mv (v := .bool (decide (mn < 0))) rfl rfl ?_))))))))))))))
  rcases Bool.eq_false_or_eq_true (decide (mn < 0)) with b0 | b0
  · -- decide (mn < 0) is True
    have p0 := of_decide_eq_true b0
    refine k (gn rfl rfl rfl b0 (k (gn rfl rfl rfl b0 (k (gn rfl rfl rfl b0 (k (pickT rfl rfl rfl rfl b0 rfl (k (mv (v := .bool true) rfl rfl (k (gn rfl rfl rfl rfl (k (gn rfl rfl rfl rfl (k (gn rfl rfl rfl rfl (k (gn rfl rfl rfl rfl (k (gn rfl rfl rfl rfl (k (gn rfl rfl rfl rfl (k (pickT rfl rfl rfl rfl rfl rfl (z (nx (cdT rfl rfl rfl (sq (rg (k (asg (v := .bool false) rfl rfl (z (nx (rt (then_ret (r1 rfl rfl ?_)))))))))))))))))))))))))))))))))))
    have e0 : (false : Bool) = rightS mn mr := by first | exact rightS_no (by omega) | exact right_end_ (by omega) (by omega) (by omega) hs (by omega) | exact right_row hx0 (rowOk_len (by omega)) | ((try (have e_ := at_is hx1 hx0; subst e_)); (try (have e_ := at_is hx2 hx0; subst e_)); (try (have e_ := at_is hx3 hx0; subst e_)); (try (have e_ := at_is hx4 hx0; subst e_)); (try (have e_ := at_is hx5 hx0; subst e_)); (try (have e_ := at_is hx6 hx0; subst e_)); exact right_row hx0 (rowOk_bit (k := mn + (q : Int)) (by omega) (by omega) (by omega) (by assumption)))
    have ev_ := cg1 (fun (x_0 : Bool) => (.bool x_0 : Value)) e0
    exact ⟨ev_, H1.below⟩
  · -- decide (mn < 0) is False
    have p0 := of_decide_eq_false b0
    refine k (gy rfl rfl rfl b0 (fa fl53_0 rfl rfl (k (gy rfl rfl rfl b0 (ldX H1 0 rfl ty3 rfl rfl (by decide) rfl (k (gy rfl rfl rfl b0 (gtr rfl rfl rfl rfl (k (pickF rfl rfl rfl rfl b0 rfl (k (mv (v := .bool (decide (4096 < mn))) rfl rfl ?_))))))))))))
    rcases Bool.eq_false_or_eq_true (decide (4096 < mn)) with b1 | b1
    · -- decide (4096 < mn) is True
      have p1 := of_decide_eq_true b1
      refine k (gn rfl rfl rfl b1 (k (gn rfl rfl rfl b1 (k (gn rfl rfl rfl b1 (k (gn rfl rfl rfl b1 (k (gn rfl rfl rfl b1 (k (gn rfl rfl rfl b1 (k (pickT rfl rfl rfl rfl b1 rfl (z (nx (cdT rfl rfl rfl (sq (rg (k (asg (v := .bool false) rfl rfl (z (nx (rt (then_ret (r1 rfl rfl ?_)))))))))))))))))))))))))
      have e0 : (false : Bool) = rightS mn mr := by first | exact rightS_no (by omega) | exact right_end_ (by omega) (by omega) (by omega) hs (by omega) | exact right_row hx0 (rowOk_len (by omega)) | ((try (have e_ := at_is hx1 hx0; subst e_)); (try (have e_ := at_is hx2 hx0; subst e_)); (try (have e_ := at_is hx3 hx0; subst e_)); (try (have e_ := at_is hx4 hx0; subst e_)); (try (have e_ := at_is hx5 hx0; subst e_)); (try (have e_ := at_is hx6 hx0; subst e_)); exact right_row hx0 (rowOk_bit (k := mn + (q : Int)) (by omega) (by omega) (by omega) (by assumption)))
      have ev_ := cg1 (fun (x_0 : Bool) => (.bool x_0 : Value)) e0
      exact ⟨ev_, H1.below⟩
    · -- decide (4096 < mn) is False
      have p1 := of_decide_eq_false b1
      refine k (gy rfl rfl rfl b1 (fa fl53_1 rfl rfl (k (gy rfl rfl rfl b1 (ldX H1 0 rfl ty51 rfl rfl (by decide) rfl (k (gy rfl rfl rfl b1 (lnS rfl rfl un51 (k (gy rfl rfl rfl b1 (fa fl53_0 rfl rfl (k (gy rfl rfl rfl b1 (ldX H1 0 rfl ty3 rfl rfl (by decide) rfl (k (gy rfl rfl rfl b1 (neq rfl rfl rfl rfl (k (pickF rfl rfl rfl rfl b1 rfl (z (nx ?_)))))))))))))))))))))
      refine cd (b := !decide ((mr.length : Int) = mn)) rfl rfl (fun b2 => ?_) (fun b2 => ?_)
      ·
        have p2 := of_decide_eq_false (nott b2)
        refine sq (rg (k (asg (v := .bool false) rfl rfl (z (nx (rt (then_ret (r1 rfl rfl ?_))))))))
        have e0 : (false : Bool) = rightS mn mr := by first | exact rightS_no (by omega) | exact right_end_ (by omega) (by omega) (by omega) hs (by omega) | exact right_row hx0 (rowOk_len (by omega)) | ((try (have e_ := at_is hx1 hx0; subst e_)); (try (have e_ := at_is hx2 hx0; subst e_)); (try (have e_ := at_is hx3 hx0; subst e_)); (try (have e_ := at_is hx4 hx0; subst e_)); (try (have e_ := at_is hx5 hx0; subst e_)); (try (have e_ := at_is hx6 hx0; subst e_)); exact right_row hx0 (rowOk_bit (k := mn + (q : Int)) (by omega) (by omega) (by omega) (by assumption)))
        have ev_ := cg1 (fun (x_0 : Bool) => (.bool x_0 : Value)) e0
        exact ⟨ev_, H1.below⟩
      ·
        have p2 := of_decide_eq_true (notf b2)
        refine sk (nx (sq (sq (rg (k (asg (v := .int .i64 0) rfl rfl (z (nx (bk ?_)))))))))
        refine lp (fun m f w' => ∃ (i : Nat), m = mr.length - i ∧ f 1 = .pointer (some ⟨bb0, 0, none⟩) ∧ f 3 = .int .i64 (i : Int) ∧  HI M w w' [box bb0 #[.int .i64 mn, .slice a_mr mr.length c_mr] 53, imm (.slice a_mr mr.length c_mr) mr] ∧ (i ≤ mr.length) ∧ ((mr.take i).all (rowOk mn) = true)) _ ⟨0, rfl, rfl, (ieq rfl (by first | rfl | omega | simp)), H1, (by first | assumption | omega | simp | (simp; omega)), (by rfl)⟩ ?_
        rintro _ f0 w1 ⟨i, rfl, s0, s1, H2, hi_, hs⟩
        refine sq (sq (rg (k (mv rfl s1 (k (fa fl53_0 rfl s0 (k (ldX H2 0 rfl ty3 rfl rfl (by decide) rfl (k (lss rfl rfl rfl rfl (z (nx ?_))))))))))))
        refine cd (b := decide ((i : Int) < mn)) rfl rfl (fun b3 => ?_) (fun b3 => ?_)
        ·
          have p3 := of_decide_eq_true b3
          refine sk (nx (sq (bk (sq (sq ?_)))))
          obtain ⟨x0, hx0⟩ : ∃ x, mr[(i : Int).toNat]? = some x := ⟨_, List.getElem?_eq_getElem (by first | omega | (simp; omega))⟩
          refine dr 9 [fun (v : Value) (w' : World) => v = .pointer (some ⟨bb0, 1, none⟩), fun (v : Value) (w' : World) => v = .slice a_mr mr.length c_mr, fun (v : Value) (w' : World) => v = .int .i64 (i : Int), fun (v : Value) (w' : World) => ∃ (ad0 : Addr), v = .pointer (some ad0) ∧ At (MS M [box bb0 #[.int .i64 mn, .slice a_mr mr.length c_mr] 53, imm (.slice a_mr mr.length c_mr) mr]) w' ad0 x0, fun (v : Value) (w' : World) => ∃ (a0 : Option Addr) (c0 : Nat), v = .slice a0 x0.length c0 ∧ RV (MS M [box bb0 #[.int .i64 mn, .slice a_mr mr.length c_mr] 53, imm (.slice a_mr mr.length c_mr) mr]) w' (.slice a0 x0.length c0) x0, fun (v : Value) (w' : World) => v = .int .i64 (x0.length : Int), fun (v : Value) (w' : World) => v = .pointer (some ⟨bb0, 0, none⟩), fun (v : Value) (w' : World) => v = .int .i64 mn, fun (v : Value) (w' : World) => v = .int .i64 ((words mn : Nat) : Int)] rfl (by kernel_rfl) ?_ ?_
          ·
            refine ⟨fun _ => ⟨fun f1 w3 hf0 xt2 hp0 => ?_, fun _ _ _ _ h => h⟩, ?_⟩
            ·
              have H5 := H2.ext xt2
              refine fa fl53_1 rfl ((hf0 1 rfl).trans s0) ?_
              exact ⟨_, rfl, Ext.refl _, rfl⟩
            refine ⟨fun _ => ⟨fun f2 w4 hf1 xt3 hp1 => ?_, fun _ _ _ _ h => h⟩, ?_⟩
            ·
              have H6 := H2.ext xt3
              have s2 : f2 27 = .pointer (some ⟨bb0, 1, none⟩) := hp1 0 rfl rfl
              refine ldX H6 0 rfl ty51 rfl s2 (by decide) rfl ?_
              exact ⟨_, rfl, Ext.refl _, rfl⟩
            refine ⟨fun _ => ⟨fun f3 w5 hf2 xt4 hp2 => ?_, fun _ _ _ _ h => h⟩, ?_⟩
            ·
              have H7 := H2.ext xt4
              refine mv rfl ((hf2 3 rfl).trans s1) ?_
              exact ⟨_, rfl, Ext.refl _, rfl⟩
            refine ⟨fun _ => ⟨fun f4 w6 hf3 xt5 hp3 => ?_, by rintro _ _ _ x_ ⟨ad0, e_, hA0⟩; exact ⟨ad0, e_, hA0.lift (Up.ext x_)⟩⟩, ?_⟩
            ·
              have H8 := H2.ext xt5
              have s3 : f4 28 = .slice a_mr mr.length c_mr := hp3 1 rfl rfl
              have s4 : f4 29 = .int .i64 (i : Int) := hp3 2 rfl rfl
              refine ia (H8.rv 1 rfl) rfl rfl s3 s4 (by first | omega | (simp; omega)) un51 ty79 ?_
              intro ad1 x1 hx1 hA1
              obtain rfl : x0 = x1 := Option.some.inj (hx0.symm.trans hx1)
              exact ⟨_, rfl, Ext.refl _, ⟨ad1, rfl, hA1⟩⟩
            refine ⟨fun _ => ⟨fun f5 w7 hf4 xt6 hp4 => ?_, by rintro _ _ _ x_ ⟨a0, c0, e_, rv0⟩; exact ⟨a0, c0, e_, rv0.lift (Up.ext x_)⟩⟩, ?_⟩
            ·
              have H9 := H2.ext xt6
              obtain ⟨ad2, s5, hA2⟩ : ∃ (ad2 : Addr), f5 30 = .pointer (some ad2) ∧ At (MS M [box bb0 #[.int .i64 mn, .slice a_mr mr.length c_mr] 53, imm (.slice a_mr mr.length c_mr) mr]) w7 ad2 x0 := hp4 3 rfl rfl
              have H10 := H9.put (it := atI ad2 x0) rfl hA2
              refine ldL (H10.atv 0 rfl).w ty79 rfl s5 ?_
              intro a1 c1 rv1
              have ln1 := rv_len rv1
              have H11 := H10.put (it := imm (.slice a1 x0.length c1) x0) rfl rv1
              exact ⟨_, rfl, Ext.refl _, ⟨a1, c1, rfl, (rv_drop rfl rv1)⟩⟩
            refine ⟨fun _ => ⟨fun f6 w8 hf5 xt7 hp5 => ?_, fun _ _ _ _ h => h⟩, ?_⟩
            ·
              have H12 := H2.ext xt7
              obtain ⟨a2, c2, s6, rv2⟩ : ∃ (a2 : Option Addr) (c2 : Nat), f6 31 = .slice a2 x0.length c2 ∧ RV (MS M [box bb0 #[.int .i64 mn, .slice a_mr mr.length c_mr] 53, imm (.slice a_mr mr.length c_mr) mr]) w8 (.slice a2 x0.length c2) x0 := hp5 4 rfl rfl
              have H13 := H12.put (it := imm (.slice a2 x0.length c2) x0) rfl rv2
              refine lnS rfl s6 un79 ?_
              exact ⟨_, rfl, Ext.refl _, rfl⟩
            refine ⟨fun _ => ⟨fun f7 w9 hf6 xt8 hp6 => ?_, fun _ _ _ _ h => h⟩, ?_⟩
            ·
              have H14 := H2.ext xt8
              refine fa fl53_0 rfl ((hf6 1 rfl).trans s0) ?_
              exact ⟨_, rfl, Ext.refl _, rfl⟩
            refine ⟨fun _ => ⟨fun f8 w10 hf7 xt9 hp7 => ?_, fun _ _ _ _ h => h⟩, ?_⟩
            ·
              have H15 := H2.ext xt9
              have s7 : f8 33 = .pointer (some ⟨bb0, 0, none⟩) := hp7 6 rfl rfl
              refine ldX H15 0 rfl ty3 rfl s7 (by decide) rfl ?_
              exact ⟨_, rfl, Ext.refl _, rfl⟩
            refine ⟨fun _ => ⟨fun f9 w11 hf8 xt10 hp8 => ?_, fun _ _ _ _ h => h⟩, ?_⟩
            ·
              have H16 := H2.ext xt10
              have s8 : f9 34 = .int .i64 mn := hp8 7 rfl rfl
              have cc1 := ref02_Words (n := mn) (w := w11) (by unfold I64 at *; omega) (by omega)
              refine ca go59 rfl (ec s8 e0) cc1 ?_
              rintro _ w12 ⟨rfl, xt11⟩
              have H17 := H16.ext xt11
              exact ⟨_, rfl, xt11, rfl⟩
            exact DSteps.rest rfl _
          · intro f10 w13 hf9 xt12 hp9
            have H18 := H2.ext xt12
            have s9 : f10 1 = .pointer (some ⟨bb0, 0, none⟩) := (hf9 1 rfl).trans s0
            have s10 : f10 3 = .int .i64 (i : Int) := (hf9 3 rfl).trans s1
            have s11 : f10 32 = .int .i64 (x0.length : Int) := hp9 5 rfl
            have s12 : f10 35 = .int .i64 ((words mn : Nat) : Int) := hp9 8 rfl
            refine k (neq rfl rfl s11 s12 (z (nx ?_)))
            refine cd (b := !decide ((x0.length : Int) = ((words mn : Nat) : Int))) rfl rfl (fun b4 => ?_) (fun b4 => ?_)
            ·
              have p4 := of_decide_eq_false (nott b4)
              refine sq (rg (k (asg (v := .bool false) rfl rfl (z (nx (rt (then_ret (inb_ret (then_ret (loop_ret (inb_ret (then_ret (r1 rfl rfl ?_)))))))))))))
              have e0 : (false : Bool) = rightS mn mr := by first | exact rightS_no (by omega) | exact right_end_ (by omega) (by omega) (by omega) hs (by omega) | exact right_row hx0 (rowOk_len (by omega)) | ((try (have e_ := at_is hx1 hx0; subst e_)); (try (have e_ := at_is hx2 hx0; subst e_)); (try (have e_ := at_is hx3 hx0; subst e_)); (try (have e_ := at_is hx4 hx0; subst e_)); (try (have e_ := at_is hx5 hx0; subst e_)); (try (have e_ := at_is hx6 hx0; subst e_)); exact right_row hx0 (rowOk_bit (k := mn + (q : Int)) (by omega) (by omega) (by omega) (by assumption)))
              have ev_ := cg1 (fun (x_0 : Bool) => (.bool x_0 : Value)) e0
              exact ⟨ev_, H18.below⟩
            ·
              have p4 := of_decide_eq_true (notf b4)
              refine sk (nx (sq (rg (k (fa fl53_0 rfl s9 (k (ldX H18 0 rfl ty3 rfl rfl (by decide) rfl (k (asg (v := .int .i64 mn) rfl rfl (z (nx (bk ?_))))))))))))
              refine lp (fun m f w' => ∃ (q : Nat), m = (64 * ((mr.getD i []).length : Int) - mn).toNat - q ∧ f 1 = .pointer (some ⟨bb0, 0, none⟩) ∧ f 3 = .int .i64 (i : Int) ∧ f 4 = .int .i64 (mn + (q : Int)) ∧  HI M w w' [box bb0 #[.int .i64 mn, .slice a_mr mr.length c_mr] 53, imm (.slice a_mr mr.length c_mr) mr] ∧ (q = 0 ∨ mn + (q : Int) ≤ 64 * ((mr.getD i []).length : Int)) ∧ (∀ k : Int, mn ≤ k → k < mn + (q : Int) → hasR (mr.getD i []) k = false)) _ ⟨0, rfl, s9, s10, (ieq rfl (by omega)), H18, (by left; rfl), (by intro k_ h1_ h2_; omega)⟩ ?_
              rintro _ f11 w14 ⟨q, rfl, s13, s14, s15, H19, hq_, hz⟩
              refine sq (sq (rg (k (mv rfl s15 (k (fa fl53_1 rfl s13 (k (ldX H19 0 rfl ty51 rfl rfl (by decide) rfl (k (mv rfl s14 (k (ia (H19.rv 1 rfl) rfl rfl rfl rfl (by first | omega | (simp; omega)) un51 ty79 ?_))))))))))))
              intro ad3 x2 hx2 hA3
              refine k (ldL hA3.w ty79 rfl rfl ?_)
              intro a3 c3 rv3
              have ln2 := rv_len rv3
              have H20 := H19.put (it := imm (.slice a3 x2.length c3) x2) rfl rv3
              refine k (lnS rfl rfl un79 (k (mul rfl rfl rfl rfl (by have h_ := words_le (n := mn) (by omega); (try (have e_ := at_is hx1 hx0; subst e_)); (try (have e_ := at_is hx2 hx0; subst e_)); (try (have e_ := at_is hx3 hx0; subst e_)); (try (have e_ := at_is hx4 hx0; subst e_)); (try (have e_ := at_is hx5 hx0; subst e_)); (try (have e_ := at_is hx6 hx0; subst e_)); unfold I64; omega) (k (lss rfl rfl rfl rfl (z (nx ?_)))))))
              refine cd (b := decide ((mn + (q : Int)) < (64 * (x2.length : Int)))) rfl rfl (fun b5 => ?_) (fun b5 => ?_)
              ·
                have p5 := of_decide_eq_true b5
                refine sk (nx (sq (bk (sq (rg (k (fa fl53_1 rfl s13 (k (ldX H20 1 rfl ty51 rfl rfl (by decide) rfl (k (mv rfl s14 (k (ia (H20.rv 2 rfl) rfl rfl rfl rfl (by first | omega | (simp; omega)) un51 ty79 ?_)))))))))))))
                intro ad4 x3 hx3 hA4
                refine k (ldL hA4.w ty79 rfl rfl ?_)
                intro a4 c4 rv4
                have ln3 := rv_len rv4
                have H21 := H20.put (it := imm (.slice a4 x3.length c4) x3) rfl rv4
                refine k (mv rfl s15 (k ?_))
                have cc2 := ref02_Has (r := x3) (i := (mn + (q : Int))) (w := w14) H21.mb (H21.rv 0 rfl) (by have h_ := words_le (n := mn) (by omega); (try (have e_ := at_is hx1 hx0; subst e_)); (try (have e_ := at_is hx2 hx0; subst e_)); (try (have e_ := at_is hx3 hx0; subst e_)); (try (have e_ := at_is hx4 hx0; subst e_)); (try (have e_ := at_is hx5 hx0; subst e_)); (try (have e_ := at_is hx6 hx0; subst e_)); unfold I64; omega) (by have h_ := words_le (n := mn) (by omega); (try (have e_ := at_is hx1 hx0; subst e_)); (try (have e_ := at_is hx2 hx0; subst e_)); (try (have e_ := at_is hx3 hx0; subst e_)); (try (have e_ := at_is hx4 hx0; subst e_)); (try (have e_ := at_is hx5 hx0; subst e_)); (try (have e_ := at_is hx6 hx0; subst e_)); omega)
                refine ca go60 rfl (ec rfl (ec rfl e0)) cc2 ?_
                rintro _ w15 ⟨rfl, xt13⟩
                have H22 := H21.ext xt13
                refine z (nx ?_)
                refine cd (b := hasR x3 (mn + (q : Int))) rfl rfl (fun b6 => ?_) (fun b6 => ?_)
                ·
                  refine sq (rg (k (asg (v := .bool false) rfl rfl (z (nx (rt (inb_ret (then_ret (loop_ret (inb_ret (inb_ret (then_ret (loop_ret (inb_ret (then_ret (r1 rfl rfl ?_))))))))))))))))
                  have e0 : (false : Bool) = rightS mn mr := by first | exact rightS_no (by omega) | exact right_end_ (by omega) (by omega) (by omega) hs (by omega) | exact right_row hx0 (rowOk_len (by omega)) | ((try (have e_ := at_is hx1 hx0; subst e_)); (try (have e_ := at_is hx2 hx0; subst e_)); (try (have e_ := at_is hx3 hx0; subst e_)); (try (have e_ := at_is hx4 hx0; subst e_)); (try (have e_ := at_is hx5 hx0; subst e_)); (try (have e_ := at_is hx6 hx0; subst e_)); exact right_row hx0 (rowOk_bit (k := mn + (q : Int)) (by omega) (by omega) (by omega) (by assumption)))
                  have ev_ := cg1 (fun (x_0 : Bool) => (.bool x_0 : Value)) e0
                  exact ⟨ev_, H22.below⟩
                ·
                  refine sk (inb_normal (nx (rg (k (mv rfl s15 (k (add rfl rfl rfl rfl (by have h_ := words_le (n := mn) (by omega); (try (have e_ := at_is hx1 hx0; subst e_)); (try (have e_ := at_is hx2 hx0; subst e_)); (try (have e_ := at_is hx3 hx0; subst e_)); (try (have e_ := at_is hx4 hx0; subst e_)); (try (have e_ := at_is hx5 hx0; subst e_)); (try (have e_ := at_is hx6 hx0; subst e_)); unfold I64; omega) (k (asg (v := .int .i64 ((mn + (q : Int)) + 1)) rfl rfl (z ?_))))))))))
                  have H23 : HI M w w15 [box bb0 #[.int .i64 mn, .slice a_mr mr.length c_mr] 53, imm (.slice a_mr mr.length c_mr) mr] := H22.pickN [2, 3] (by decide) rfl
                  refine loopN _ ?_ ⟨(q + 1), rfl, s13, s14, (ieq rfl (by omega)), H23, (by right; rw [getD_row hx0]; (try (have e_ := at_is hx1 hx0; subst e_)); (try (have e_ := at_is hx2 hx0; subst e_)); (try (have e_ := at_is hx3 hx0; subst e_)); (try (have e_ := at_is hx4 hx0; subst e_)); (try (have e_ := at_is hx5 hx0; subst e_)); (try (have e_ := at_is hx6 hx0; subst e_)); omega), (by intro k_ h1_ h2_; exact if e_ : k_ = mn + (q : Int) then (by rw [e_, getD_row hx0]; (try (have e_ := at_is hx1 hx0; subst e_)); (try (have e_ := at_is hx2 hx0; subst e_)); (try (have e_ := at_is hx3 hx0; subst e_)); (try (have e_ := at_is hx4 hx0; subst e_)); (try (have e_ := at_is hx5 hx0; subst e_)); (try (have e_ := at_is hx6 hx0; subst e_)); assumption) else hz k_ h1_ (by omega))⟩
                  (try (have e_ := at_is hx1 hx0; subst e_)); (try (have e_ := at_is hx2 hx0; subst e_)); (try (have e_ := at_is hx3 hx0; subst e_)); (try (have e_ := at_is hx4 hx0; subst e_)); (try (have e_ := at_is hx5 hx0; subst e_)); (try (have e_ := at_is hx6 hx0; subst e_)); rw [getD_row hx0] at *; omega
              ·
                have p5 := of_decide_eq_false b5
                refine ex (then_exit (loop_exit (inb_here (inb_normal (nx (rg (k (mv rfl s14 (k (add rfl rfl rfl rfl (by unfold I64 at *; omega) (k (asg (v := .int .i64 ((i : Int) + 1)) rfl rfl (z ?_)))))))))))))
                have H21 : HI M w w14 [box bb0 #[.int .i64 mn, .slice a_mr mr.length c_mr] 53, imm (.slice a_mr mr.length c_mr) mr] := H20.pickN [1, 2] (by decide) rfl
                refine loopN _ ?_ ⟨(i + 1), rfl, s13, (ieq rfl (by first | rfl | omega | (push_cast; omega))), H21, (by first | assumption | omega | simp | (simp; omega)), (by (try (have e_ := at_is hx1 hx0; subst e_)); (try (have e_ := at_is hx2 hx0; subst e_)); (try (have e_ := at_is hx3 hx0; subst e_)); (try (have e_ := at_is hx4 hx0; subst e_)); (try (have e_ := at_is hx5 hx0; subst e_)); (try (have e_ := at_is hx6 hx0; subst e_)); exact all_take hx0 hs (rowOk_yes (j := mn + (q : Int)) (by omega) (by rw [getD_row hx0] at hz; exact hz) (by omega)))⟩
                omega
        ·
          have p3 := of_decide_eq_false b3
          refine ex (then_exit (loop_exit (inb_here (nx (sq (rg (k (asg (v := .bool true) rfl rfl (z (nx (rt (r1 rfl rfl ?_))))))))))))
          have e0 : (true : Bool) = rightS mn mr := by first | exact rightS_no (by omega) | exact right_end_ (by omega) (by omega) (by omega) hs (by omega) | exact right_row hx0 (rowOk_len (by omega)) | ((try (have e_ := at_is hx1 hx0; subst e_)); (try (have e_ := at_is hx2 hx0; subst e_)); (try (have e_ := at_is hx3 hx0; subst e_)); (try (have e_ := at_is hx4 hx0; subst e_)); (try (have e_ := at_is hx5 hx0; subst e_)); (try (have e_ := at_is hx6 hx0; subst e_)); exact right_row hx0 (rowOk_bit (k := mn + (q : Int)) (by omega) (by omega) (by omega) (by assumption)))
          have ev_ := cg1 (fun (x_0 : Bool) => (.bool x_0 : Value)) e0
          exact ⟨ev_, H2.below⟩
/- eyewitness/eyewitnessref04.Loop -/
set_option maxRecDepth 100000 in
set_option maxHeartbeats 1600000 in
theorem ref04_Loop {M : Nat → Prop} {w : World} {mn : Int} {a_mr : Option Addr} {c_mr : Nat} {mr : List (List (BitVec 64))} (hM : ∀ b, M b → b < w.heap.size) (h_mn : I64 mn) (h_mr : RV M w (.slice a_mr mr.length c_mr) mr) (hsq_m : ((mr.length : Nat) : Int) = mn) (hrw_m : ∀ x ∈ mr, x.length ≤ 1000000000) (hl4_m : mn ≤ 4096) : Calls Try.prog 39 #[.agg #[.int .i64 mn, .slice a_mr mr.length c_mr]] w (Ret fun v w' =>  v = .tuple #[.int .i64 (((loopF mn mr).getD 0 : Nat) : Int), .bool ((loopF mn mr).isSome)] ∧ Ext w w') := by
  refine enter 16 Try.func39 rfl rfl rfl fun f0 ha => ?_
  have H := HI.start (M0 := M) (w := w) hM
  have H0 := H.put (it := imm (.slice a_mr mr.length c_mr) mr) rfl (by rw [MS_nil]; exact h_mr)
  have ln_mr := rv_len h_mr
  have i0 : f0 0 = .agg #[.int .i64 mn, .slice a_mr mr.length c_mr] := ha 0 (by simp)
  refine sq (rg (k (bx H0 rfl i0 ?_)))
  intro bb0 w0 xt0 (H1 : HI M w w0 [box bb0 #[.int .i64 mn, .slice a_mr mr.length c_mr] 53, imm (.slice a_mr mr.length c_mr) mr])
  refine k (asg (v := .int .i64 0) rfl rfl (k (asg (v := .bool false) rfl rfl (z (nx (sq (sq (rg (k (asg (v := .int .i64 0) rfl rfl (z (nx (bk ?_)))))))))))))
  refine lp (fun m f w' => ∃ (j : Nat), m = mn.toNat - j ∧ f 1 = .pointer (some ⟨bb0, 0, none⟩) ∧ f 4 = .int .i64 (j : Int) ∧  HI M w w' [box bb0 #[.int .i64 mn, .slice a_mr mr.length c_mr] 53, imm (.slice a_mr mr.length c_mr) mr] ∧ (((j : Nat) : Int) ≤ mn ∨ j = 0) ∧ (∀ k, k < j → hasM mn mr ((k : Nat) : Int) ((k : Nat) : Int) = false)) _ ⟨0, rfl, rfl, (ieq rfl (by first | rfl | omega | simp)), H1, (by right; rfl), (by intro k_ h_; omega)⟩ ?_
  rintro _ f0 w1 ⟨j, rfl, s0, s1, H2, hk, hs⟩
  refine sq (sq (rg (k (mv rfl s1 (k (fa fl53_0 rfl s0 (k (ldX H2 0 rfl ty3 rfl rfl (by decide) rfl (k (lss rfl rfl rfl rfl (z (nx ?_))))))))))))
  refine cd (b := decide ((j : Int) < mn)) rfl rfl (fun b0 => ?_) (fun b0 => ?_)
  ·
    have p0 := of_decide_eq_true b0
    refine sk (nx (sq (bk (sq (rg (k (ldX H2 0 rfl ty53 rfl s0 (by decide) rfl (k (mv rfl s1 (k (mv rfl s1 (k ?_))))))))))))
    have cc0 := ref03_Has (mn := mn) (mr := mr) (i := (j : Int)) (j := (j : Int)) (w := w1) H2.mb (by unfold I64 at *; omega) (H2.rv 1 rfl) (by unfold I64 at *; omega) (by unfold I64 at *; omega) (by first | assumption | omega) (by first | assumption | omega) (by first | assumption | omega)
    refine ca go53 rfl (ec rfl (ec rfl (ec rfl e0))) cc0 ?_
    rintro _ w2 ⟨rfl, xt1⟩
    have H3 := H2.ext xt1
    refine z (nx ?_)
    refine cd (b := hasM mn mr (j : Int) (j : Int)) rfl rfl (fun b1 => ?_) (fun b1 => ?_)
    ·
      refine sq (rg (k (mv rfl s1 (k (asg (v := .int .i64 (j : Int)) rfl rfl (k (asg (v := .bool true) rfl rfl (z (nx (rt (inb_ret (then_ret (loop_ret (inb_ret (then_ret (r2 rfl rfl rfl ?_))))))))))))))))
      have e0 : ((j : Int) : Int) = (((loopF mn mr).getD 0 : Nat) : Int) := by first | (rw [loop_hit p0 b1 hs]; rfl) | (rw [loop_miss (by omega) hs]; rfl)
      have e1 : (true : Bool) = (loopF mn mr).isSome := by first | (rw [loop_hit p0 b1 hs]; rfl) | (rw [loop_miss (by omega) hs]; rfl)
      have ev_ := cg2 (fun (x_0 : Int) (x_1 : Bool) => (.tuple #[.int .i64 x_0, .bool x_1] : Value)) e0 e1
      exact ⟨ev_, H3.below⟩
    ·
      refine sk (inb_normal (nx (rg (k (mv rfl s1 (k (add rfl rfl rfl rfl (by unfold I64 at *; omega) (k (asg (v := .int .i64 ((j : Int) + 1)) rfl rfl (z ?_))))))))))
      refine loopN _ ?_ ⟨(j + 1), rfl, s0, (ieq rfl (by first | rfl | omega | (push_cast; omega))), H3, (by left; omega), (by exact below_step (p := fun k => hasM mn mr ((k : Nat) : Int) ((k : Nat) : Int)) hs b1)⟩
      omega
  ·
    have p0 := of_decide_eq_false b0
    refine ex (then_exit (loop_exit (inb_here (nx (sq (rg (k (asg (v := .int .i64 0) rfl rfl (k (asg (v := .bool false) rfl rfl (z (nx (rt (r2 rfl rfl rfl ?_))))))))))))))
    have e0 : (0 : Int) = (((loopF mn mr).getD 0 : Nat) : Int) := by first | (rw [loop_hit p0 b1 hs]; rfl) | (rw [loop_miss (by omega) hs]; rfl)
    have e1 : (false : Bool) = (loopF mn mr).isSome := by first | (rw [loop_hit p0 b1 hs]; rfl) | (rw [loop_miss (by omega) hs]; rfl)
    have ev_ := cg2 (fun (x_0 : Int) (x_1 : Bool) => (.tuple #[.int .i64 x_0, .bool x_1] : Value)) e0 e1
    exact ⟨ev_, H2.below⟩
/- eyewitness/eyewitnessref04.Closed -/
set_option maxRecDepth 100000 in
set_option maxHeartbeats 1600000 in
theorem ref04_Closed {M : Nat → Prop} {w : World} {mn : Int} {a_mr : Option Addr} {c_mr : Nat} {mr : List (List (BitVec 64))} (hM : ∀ b, M b → b < w.heap.size) (h_mn : I64 mn) (h_mr : RV M w (.slice a_mr mr.length c_mr) mr) (hsq_m : ((mr.length : Nat) : Int) = mn) (hrw_m : ∀ x ∈ mr, x.length ≤ 1000000000) (hl4_m : mn ≤ 4096) : Calls Try.prog 41 #[.agg #[.int .i64 mn, .slice a_mr mr.length c_mr]] w (Ret fun v w' =>  v = .bool (closedM mn mr) ∧ Ext w w') := by
  refine enter 41 Try.func41 rfl rfl rfl fun f0 ha => ?_
  have H := HI.start (M0 := M) (w := w) hM
  have H0 := H.put (it := imm (.slice a_mr mr.length c_mr) mr) rfl (by rw [MS_nil]; exact h_mr)
  have ln_mr := rv_len h_mr
  have i0 : f0 0 = .agg #[.int .i64 mn, .slice a_mr mr.length c_mr] := ha 0 (by simp)
  refine sq (rg (k (bx H0 rfl i0 ?_)))
  intro bb0 w0 xt0 (H1 : HI M w w0 [box bb0 #[.int .i64 mn, .slice a_mr mr.length c_mr] 53, imm (.slice a_mr mr.length c_mr) mr])
  refine k (asg (v := .bool false) rfl rfl (z (nx (sq (sq (rg (k (asg (v := .int .i64 0) rfl rfl (z (nx (bk ?_)))))))))))
  refine lp (fun m f w' => ∃ (i : Nat), m = mn.toNat - i ∧ f 1 = .pointer (some ⟨bb0, 0, none⟩) ∧ f 3 = .int .i64 (i : Int) ∧  HI M w w' [box bb0 #[.int .i64 mn, .slice a_mr mr.length c_mr] 53, imm (.slice a_mr mr.length c_mr) mr] ∧ (((i : Nat) : Int) ≤ mn ∨ i = 0) ∧ ((List.range i).all (cl1 mn mr) = true)) _ ⟨0, rfl, rfl, (ieq rfl (by first | rfl | omega | simp)), H1, (by right; rfl), (by rfl)⟩ ?_
  rintro _ f0 w1 ⟨i, rfl, s0, s1, H2, hi_, hs⟩
  refine sq (sq (rg (k (mv rfl s1 (k (fa fl53_0 rfl s0 (k (ldX H2 0 rfl ty3 rfl rfl (by decide) rfl (k (lss rfl rfl rfl rfl (z (nx ?_))))))))))))
  refine cd (b := decide ((i : Int) < mn)) rfl rfl (fun b0 => ?_) (fun b0 => ?_)
  ·
    have p0 := of_decide_eq_true b0
    refine sk (nx (sq (bk (sq (rg (k (asg (v := .int .i64 0) rfl rfl (z (nx (bk ?_))))))))))
    refine lp (fun m f w' => ∃ (j : Nat), m = mn.toNat - j ∧ f 1 = .pointer (some ⟨bb0, 0, none⟩) ∧ f 3 = .int .i64 (i : Int) ∧ f 4 = .int .i64 (j : Int) ∧  HI M w w' [box bb0 #[.int .i64 mn, .slice a_mr mr.length c_mr] 53, imm (.slice a_mr mr.length c_mr) mr] ∧ (((j : Nat) : Int) ≤ mn ∨ j = 0) ∧ ((List.range j).all (cl2 mn mr i) = true)) _ ⟨0, rfl, s0, s1, (ieq rfl (by first | rfl | omega | simp)), H2, (by right; rfl), (by rfl)⟩ ?_
    rintro _ f1 w2 ⟨j, rfl, s2, s3, s4, H3, hj_, hs2⟩
    refine sq (sq (rg (k (mv rfl s4 (k (fa fl53_0 rfl s2 (k (ldX H3 0 rfl ty3 rfl rfl (by decide) rfl (k (lss rfl rfl rfl rfl (z (nx ?_))))))))))))
    refine cd (b := decide ((j : Int) < mn)) rfl rfl (fun b1 => ?_) (fun b1 => ?_)
    ·
      have p1 := of_decide_eq_true b1
      refine sk (nx (sq (bk (sq (rg (k (asg (v := .int .i64 0) rfl rfl (z (nx (bk ?_))))))))))
      refine lp (fun m f w' => ∃ (q : Nat), m = mn.toNat - q ∧ f 1 = .pointer (some ⟨bb0, 0, none⟩) ∧ f 3 = .int .i64 (i : Int) ∧ f 4 = .int .i64 (j : Int) ∧ f 5 = .int .i64 (q : Int) ∧  HI M w w' [box bb0 #[.int .i64 mn, .slice a_mr mr.length c_mr] 53, imm (.slice a_mr mr.length c_mr) mr] ∧ (((q : Nat) : Int) ≤ mn ∨ q = 0) ∧ ((List.range q).all (cl3 mn mr i j) = true)) _ ⟨0, rfl, s2, s3, s4, (ieq rfl (by first | rfl | omega | simp)), H3, (by right; rfl), (by rfl)⟩ ?_
      rintro _ f2 w3 ⟨q, rfl, s5, s6, s7, s8, H4, hq_, hs3⟩
      refine sq (sq (rg (k (mv rfl s8 (k (fa fl53_0 rfl s5 (k (ldX H4 0 rfl ty3 rfl rfl (by decide) rfl (k (lss rfl rfl rfl rfl (k (mv (v := .bool (decide ((q : Int) < mn))) rfl rfl ?_))))))))))))
      rcases Bool.eq_false_or_eq_true (decide ((q : Int) < mn)) with b2 | b2
      · -- decide ((q : Int) < mn) is True
        have p2 := of_decide_eq_true b2
        refine k (gy rfl rfl rfl b2 (ldX H4 0 rfl ty53 rfl s5 (by decide) rfl (k (gy rfl rfl rfl b2 (mv rfl s6 (k (gy rfl rfl rfl b2 (mv rfl s7 (k (gy rfl rfl rfl b2 ?_))))))))))
        have cc0 := ref03_Has (mn := mn) (mr := mr) (i := (i : Int)) (j := (j : Int)) (w := w3) H4.mb (by unfold I64 at *; omega) (H4.rv 1 rfl) (by unfold I64 at *; omega) (by unfold I64 at *; omega) (by first | assumption | omega) (by first | assumption | omega) (by first | assumption | omega)
        refine ca go53 rfl (ec rfl (ec rfl (ec rfl e0))) cc0 ?_
        rintro _ w4 ⟨rfl, xt1⟩
        have H5 := H4.ext xt1
        refine k (pickT rfl rfl rfl rfl b2 rfl (z (nx ?_)))
        refine cd (b := hasM mn mr (i : Int) (j : Int)) rfl rfl (fun b3 => ?_) (fun b3 => ?_)
        ·
          refine sk (nx (sq (bk (sq (rg (k (ldX H5 0 rfl ty53 rfl s5 (by decide) rfl (k (mv rfl s7 (k (mv rfl s8 (k ?_))))))))))))
          have cc1 := ref03_Has (mn := mn) (mr := mr) (i := (j : Int)) (j := (q : Int)) (w := w4) H5.mb (by unfold I64 at *; omega) (H5.rv 1 rfl) (by unfold I64 at *; omega) (by unfold I64 at *; omega) (by first | assumption | omega) (by first | assumption | omega) (by first | assumption | omega)
          refine ca go53 rfl (ec rfl (ec rfl (ec rfl e0))) cc1 ?_
          rintro _ w5 ⟨rfl, xt2⟩
          have H6 := H5.ext xt2
          refine k (mv (v := .bool (hasM mn mr (j : Int) (q : Int))) rfl rfl ?_)
          rcases Bool.eq_false_or_eq_true (hasM mn mr (j : Int) (q : Int)) with b4 | b4
          · -- hasM mn mr (j : Int) (q : Int) is True
            refine k (gy rfl rfl rfl b4 (ldX H6 0 rfl ty53 rfl s5 (by decide) rfl (k (gy rfl rfl rfl b4 (mv rfl s6 (k (gy rfl rfl rfl b4 (mv rfl s8 (k (gy rfl rfl rfl b4 ?_))))))))))
            have cc2 := ref03_Has (mn := mn) (mr := mr) (i := (i : Int)) (j := (q : Int)) (w := w5) H6.mb (by unfold I64 at *; omega) (H6.rv 1 rfl) (by unfold I64 at *; omega) (by unfold I64 at *; omega) (by first | assumption | omega) (by first | assumption | omega) (by first | assumption | omega)
            refine ca go53 rfl (ec rfl (ec rfl (ec rfl e0))) cc2 ?_
            rintro _ w6 ⟨rfl, xt3⟩
            have H7 := H6.ext xt3
            refine k (gy rfl rfl rfl b4 (not_ rfl rfl (k (pickT rfl rfl rfl rfl b4 rfl (z (nx ?_))))))
            refine cd (b := !(hasM mn mr (i : Int) (q : Int))) rfl rfl (fun b5 => ?_) (fun b5 => ?_)
            ·
              refine sq (rg (k (asg (v := .bool false) rfl rfl (z (nx (rt (inb_ret (then_ret (loop_ret (inb_ret (inb_ret (then_ret (loop_ret (inb_ret (inb_ret (then_ret (loop_ret (inb_ret (then_ret (r1 rfl rfl ?_))))))))))))))))))))
              have e0 : (false : Bool) = closedM mn mr := by first | exact closed_no p0 p1 p2 b3 b4 (by simpa using b5) | exact (ra_end hs (by omega)).symm
              have ev_ := cg1 (fun (x_0 : Bool) => (.bool x_0 : Value)) e0
              exact ⟨ev_, H7.below⟩
            ·
              refine sk (inb_normal (nx (rg (k (mv rfl s8 (k (add rfl rfl rfl rfl (by unfold I64 at *; omega) (k (asg (v := .int .i64 ((q : Int) + 1)) rfl rfl (z ?_))))))))))
              refine loopN _ ?_ ⟨(q + 1), rfl, s5, s6, s7, (ieq rfl (by first | rfl | omega | (push_cast; omega))), H7, (by left; omega), (by first | exact ra_step hs3 (cl3_yes (.inl (by assumption))) | exact ra_step hs3 (cl3_yes (.inr (by simpa using b5))))⟩
              omega
          · -- hasM mn mr (j : Int) (q : Int) is False
            refine k (gn rfl rfl rfl b4 (k (gn rfl rfl rfl b4 (k (gn rfl rfl rfl b4 (k (gn rfl rfl rfl b4 (k (gn rfl rfl rfl b4 (k (pickF rfl rfl rfl rfl b4 rfl (z (nx (cdF rfl rfl rfl (sk (inb_normal (nx (rg (k (mv rfl s8 (k (add rfl rfl rfl rfl (by unfold I64 at *; omega) (k (asg (v := .int .i64 ((q : Int) + 1)) rfl rfl (z ?_)))))))))))))))))))))))))
            refine loopN _ ?_ ⟨(q + 1), rfl, s5, s6, s7, (ieq rfl (by first | rfl | omega | (push_cast; omega))), H6, (by left; omega), (by first | exact ra_step hs3 (cl3_yes (.inl (by assumption))) | exact ra_step hs3 (cl3_yes (.inr (by simpa using b5))))⟩
            omega
        ·
          refine ex (then_exit (loop_exit (inb_here (inb_normal (nx (rg (k (mv rfl s7 (k (add rfl rfl rfl rfl (by unfold I64 at *; omega) (k (asg (v := .int .i64 ((j : Int) + 1)) rfl rfl (z ?_)))))))))))))
          refine loopN _ ?_ ⟨(j + 1), rfl, s5, s6, (ieq rfl (by first | rfl | omega | (push_cast; omega))), H5, (by left; omega), (by first | exact ra_step hs2 (ra_end hs3 (by omega)) | exact ra_step hs2 (cl2_no (by assumption)))⟩
          omega
      · -- decide ((q : Int) < mn) is False
        have p2 := of_decide_eq_false b2
        refine k (gn rfl rfl rfl b2 (k (gn rfl rfl rfl b2 (k (gn rfl rfl rfl b2 (k (gn rfl rfl rfl b2 (k (pickF rfl rfl rfl rfl b2 rfl (z (nx (cdF rfl rfl rfl (ex (then_exit (loop_exit (inb_here (inb_normal (nx (rg (k (mv rfl s7 (k (add rfl rfl rfl rfl (by unfold I64 at *; omega) (k (asg (v := .int .i64 ((j : Int) + 1)) rfl rfl (z ?_))))))))))))))))))))))))))
        refine loopN _ ?_ ⟨(j + 1), rfl, s5, s6, (ieq rfl (by first | rfl | omega | (push_cast; omega))), H4, (by left; omega), (by first | exact ra_step hs2 (ra_end hs3 (by omega)) | exact ra_step hs2 (cl2_no (by assumption)))⟩
        omega
    ·
      have p1 := of_decide_eq_false b1
      refine ex (then_exit (loop_exit (inb_here (inb_normal (nx (rg (k (mv rfl s3 (k (add rfl rfl rfl rfl (by unfold I64 at *; omega) (k (asg (v := .int .i64 ((i : Int) + 1)) rfl rfl (z ?_)))))))))))))
      refine loopN _ ?_ ⟨(i + 1), rfl, s2, (ieq rfl (by first | rfl | omega | (push_cast; omega))), H3, (by left; omega), (by exact ra_step hs (ra_end hs2 (by omega)))⟩
      omega
  ·
    have p0 := of_decide_eq_false b0
    refine ex (then_exit (loop_exit (inb_here (nx (sq (rg (k (asg (v := .bool true) rfl rfl (z (nx (rt (r1 rfl rfl ?_))))))))))))
    have e0 : (true : Bool) = closedM mn mr := by first | exact closed_no p0 p1 p2 b3 b4 (by simpa using b5) | exact (ra_end hs (by omega)).symm
    have ev_ := cg1 (fun (x_0 : Bool) => (.bool x_0 : Value)) e0
    exact ⟨ev_, H2.below⟩
/- eyewitness/eyewitnessref03.Pairs -/
set_option maxRecDepth 100000 in
set_option maxHeartbeats 1600000 in
theorem ref03_Pairs {M : Nat → Prop} {w : World} {mn : Int} {a_mr : Option Addr} {c_mr : Nat} {mr : List (List (BitVec 64))} (hM : ∀ b, M b → b < w.heap.size) (h_mn : I64 mn) (h_mr : RV M w (.slice a_mr mr.length c_mr) mr) (hsq_m : ((mr.length : Nat) : Int) = mn) (hrw_m : ∀ x ∈ mr, x.length ≤ 1000000000) (hl4_m : mn ≤ 4096) (hrs_m : ∀ x ∈ mr, x.length ≤ 64) : Calls Try.prog 40 #[.agg #[.int .i64 mn, .slice a_mr mr.length c_mr]] w (Ret fun v w' => ∃ (a0 : Option Addr) (c0 : Nat), v = .slice a0 (pairsM mn mr).length c0 ∧ Ext w w' ∧ RV M w' (.slice a0 (pairsM mn mr).length c0) (pairsM mn mr)) := by
  refine enter 35 Try.func40 rfl rfl rfl fun f0 ha => ?_
  have H := HI.start (M0 := M) (w := w) hM
  have H0 := H.put (it := imm (.slice a_mr mr.length c_mr) mr) rfl (by rw [MS_nil]; exact h_mr)
  have ln_mr := rv_len h_mr
  have i0 : f0 0 = .agg #[.int .i64 mn, .slice a_mr mr.length c_mr] := ha 0 (by simp)
  refine sq (rg (k (bx H0 rfl i0 ?_)))
  intro bb0 w0 xt0 (H1 : HI M w w0 [box bb0 #[.int .i64 mn, .slice a_mr mr.length c_mr] 53, imm (.slice a_mr mr.length c_mr) mr])
  refine k (asg (v := .slice none 0 0) rfl rfl (z (nx (sq (rg (k (asg (v := .slice none 0 0) rfl rfl (z (nx (sq (sq (rg (k (asg (v := .int .i64 0) rfl rfl (z (nx (bk ?_)))))))))))))))))
  have H2 := H1.nil_ (Int × Int) 61
  refine lp (fun m f w' => ∃ (i : Nat) (xs : List (Int × Int)) (a0 : Option Addr) (c0 : Nat), m = mn.toNat - i ∧ f 1 = .pointer (some ⟨bb0, 0, none⟩) ∧ f 3 = .slice a0 xs.length c0 ∧ f 4 = .int .i64 (i : Int) ∧  HI M w w' [own w.heap.size 61 (.slice a0 xs.length c0) xs, box bb0 #[.int .i64 mn, .slice a_mr mr.length c_mr] 53, imm (.slice a_mr mr.length c_mr) mr] ∧ (((i : Nat) : Int) ≤ mn ∨ i = 0) ∧ (xs = pairsTo mr i)) _ ⟨0, ([] : List (Int × Int)), none, 0, rfl, rfl, rfl, (ieq rfl (by first | rfl | omega | simp)), H2, (by right; rfl), (by rfl)⟩ ?_
  rintro _ f0 w1 ⟨i, xs, a0, c0, rfl, s0, s1, s2, H3, hi_, hs⟩
  refine sq (sq (rg (k (mv rfl s2 (k (fa fl53_0 rfl s0 (k (ldX H3 1 rfl ty3 rfl rfl (by decide) rfl (k (lss rfl rfl rfl rfl (z (nx ?_))))))))))))
  refine cd (b := decide ((i : Int) < mn)) rfl rfl (fun b0 => ?_) (fun b0 => ?_)
  ·
    have p0 := of_decide_eq_true b0
    refine sk (nx (sq (bk (sq (rg (k (fa fl53_1 rfl s0 (k (ldX H3 1 rfl ty51 rfl rfl (by decide) rfl (k (mv rfl s2 (k (ia (H3.rv 2 rfl) rfl rfl rfl rfl (by first | omega | (simp; omega)) un51 ty79 ?_)))))))))))))
    intro ad0 x0 hx0 hA0
    refine k (ldL hA0.w ty79 rfl rfl ?_)
    intro a1 c1 rv0
    have ln0 := rv_len rv0
    have H4 := H3.put (it := imm (.slice a1 x0.length c1) x0) rfl rv0
    refine k ?_
    have cc0 := ref02_List (r := x0) (w := w1) H4.mb (H4.rv 0 rfl) (by have h_ := hrs_m _ (List.mem_of_getElem? hx0); omega)
    refine ca go61 rfl (ec rfl e0) cc0 ?_
    rintro _ w2 ⟨a2, c2, rfl, xt1, rv1⟩
    have H5 := H4.ownsG rv1
    refine k (asg (v := .slice a2 (listR x0).length c2) rfl rfl (z (nx (sq (rg (k (asg (v := .int .i64 0) rfl rfl (z (nx (bk ?_))))))))))
    refine lp (fun m f w' => ∃ (q : Nat) (xs2 : List (Int × Int)) (a3 : Option Addr) (c3 : Nat), m = (listR x0).length - q ∧ f 1 = .pointer (some ⟨bb0, 0, none⟩) ∧ f 3 = .slice a3 xs2.length c3 ∧ f 4 = .int .i64 (i : Int) ∧ f 5 = .slice a2 (listR x0).length c2 ∧ f 6 = .int .i64 (q : Int) ∧  HI M w w' [own w.heap.size 3 (.slice a2 (listR x0).length c2) (listR x0), imm (.slice a1 x0.length c1) x0, own w.heap.size 61 (.slice a3 xs2.length c3) xs2, box bb0 #[.int .i64 mn, .slice a_mr mr.length c_mr] 53, imm (.slice a_mr mr.length c_mr) mr] ∧ (q ≤ (listR x0).length) ∧ (xs2 = pairsTo mr i ++ ((listR x0).take q).map fun j => (((i : Nat) : Int), j))) _ ⟨0, xs, a0, c0, rfl, s0, s1, s2, rfl, (ieq rfl (by first | rfl | omega | simp)), H5, (by first | assumption | omega | simp | (simp; omega)), (by rw [hs]; simp)⟩ ?_
    rintro _ f1 w3 ⟨q, xs2, a3, c3, rfl, s3, s4, s5, s6, s7, H6, hq_, hs2⟩
    refine sq (sq (rg (k (mv rfl s7 (k (mv rfl s6 (k (lnS rfl rfl un28 (k (lss rfl rfl rfl rfl (z (nx ?_))))))))))))
    refine cd (b := decide ((q : Int) < ((listR x0).length : Int))) rfl rfl (fun b1 => ?_) (fun b1 => ?_)
    ·
      have p1 := of_decide_eq_true b1
      refine sk (nx (sq (bk (rg (k (mv rfl s4 (k (mv rfl s5 (k (mv rfl s6 (k (mv rfl s7 (k (iaO (H6.at_ 0 rfl) rfl rfl rfl rfl (by first | omega | (simp; omega)) un28 ty3 ?_))))))))))))))
      intro g0 x1 hv0 hx1 hA1
      refine k (ldI hA1 ty3 rfl rfl ?_)
      intro rv2
      refine k (bd (v := .agg #[.int .i64 (i : Int), .int .i64 x1]) rfl (pbc rfl (pbc rfl pb0)) (fun _ => by kernel_rfl) (k (bs (xs := ([((i : Int), x1)] : List (Int × Int))) (cells := #[.int .i64 (i : Int), .int .i64 x1]) (e := 61) H6 rfl (pbc rfl pb0) (fun _ => by kernel_rfl) ⟨[.int .i64 (i : Int), .int .i64 x1], [], rfl, ⟨_, _, rfl, ⟨rfl, (show I64 ((i : Int)) from (by unfold I64 at *; omega))⟩, ⟨rfl, (show I64 (x1) from (by unfold I64 at *; omega))⟩⟩, rfl⟩ rfl (by unfold maxLen; omega) ?_)))
      intro g1 w4 xt2 (H7 : HI M w w4 [own w.heap.size 61 (.slice (some ⟨g1, 0, none⟩) 1 1) ([((i : Int), x1)] : List (Int × Int)), own w.heap.size 3 (.slice a2 (listR x0).length c2) (listR x0), imm (.slice a1 x0.length c1) x0, own w.heap.size 61 (.slice a3 xs2.length c3) xs2, box bb0 #[.int .i64 mn, .slice a_mr mr.length c_mr] 53, imm (.slice a_mr mr.length c_mr) mr])
      refine k (ap H7 3 rfl rfl rfl rfl rfl rfl (own_src (H7.at_ 0 rfl)) un59 ty61 rfl (by have h1_ := pairsTo_len hrs_m i; have h2_ := listR_length x0; have h3_ := hrs_m _ (List.mem_of_getElem? hx0); rw [hs2, List.length_append, List.length_map, List.length_take]; simp only [List.length_cons, List.length_nil]; omega) (by have h1_ := pairsTo_len hrs_m i; have h2_ := listR_length x0; have h3_ := hrs_m _ (List.mem_of_getElem? hx0); rw [hs2, List.length_append, List.length_map, List.length_take]; simp only [List.length_cons, List.length_nil]; omega) ?_)
      intro a4 c4 w5 (H8 : HI M w w5 [own w.heap.size 61 (.slice (some ⟨g1, 0, none⟩) 1 1) ([((i : Int), x1)] : List (Int × Int)), own w.heap.size 3 (.slice a2 (listR x0).length c2) (listR x0), imm (.slice a1 x0.length c1) x0, own w.heap.size 61 (.slice a4 (xs2 ++ ([((i : Int), x1)] : List (Int × Int))).length c4) (xs2 ++ ([((i : Int), x1)] : List (Int × Int))), box bb0 #[.int .i64 mn, .slice a_mr mr.length c_mr] 53, imm (.slice a_mr mr.length c_mr) mr])
      refine k (asg (v := .slice a4 (xs2 ++ ([((i : Int), x1)] : List (Int × Int))).length c4) rfl rfl (z (inb_normal (nx (rg (k (mv rfl s7 (k (add rfl rfl rfl rfl (by have h2_ := listR_length x0; have h3_ := hrs_m _ (List.mem_of_getElem? hx0); unfold I64; omega) (k (asg (v := .int .i64 ((q : Int) + 1)) rfl rfl (z ?_))))))))))))
      have H9 : HI M w w5 [own w.heap.size 3 (.slice a2 (listR x0).length c2) (listR x0), imm (.slice a1 x0.length c1) x0, own w.heap.size 61 (.slice a4 (xs2 ++ ([((i : Int), x1)] : List (Int × Int))).length c4) (xs2 ++ ([((i : Int), x1)] : List (Int × Int))), box bb0 #[.int .i64 mn, .slice a_mr mr.length c_mr] 53, imm (.slice a_mr mr.length c_mr) mr] := H8.pickN [1, 2, 3, 4, 5] (by decide) rfl
      refine loopN _ ?_ ⟨(q + 1), (xs2 ++ ([((i : Int), x1)] : List (Int × Int))), a4, c4, rfl, s3, rfl, s5, s6, (ieq rfl (by first | rfl | omega | (push_cast; omega))), H9, (by first | assumption | omega | simp | (simp; omega)), (by rw [hs2]; exact pair_step hx1)⟩
      omega
    ·
      have p1 := of_decide_eq_false b1
      refine ex (then_exit (loop_exit (inb_here (inb_normal (nx (rg (k (mv rfl s5 (k (add rfl rfl rfl rfl (by unfold I64 at *; omega) (k (asg (v := .int .i64 ((i : Int) + 1)) rfl rfl (z ?_)))))))))))))
      have H7 : HI M w w3 [own w.heap.size 61 (.slice a3 xs2.length c3) xs2, box bb0 #[.int .i64 mn, .slice a_mr mr.length c_mr] 53, imm (.slice a_mr mr.length c_mr) mr] := H6.pickN [2, 3, 4] (by decide) rfl
      refine loopN _ ?_ ⟨(i + 1), xs2, a3, c3, rfl, s3, s4, (ieq rfl (by first | rfl | omega | (push_cast; omega))), H7, (by left; omega), (by rw [hs2]; exact pair_row hx0 (by omega))⟩
      omega
  ·
    have p0 := of_decide_eq_false b0
    refine ex (then_exit (loop_exit (inb_here (nx (sq (rg (k (mv rfl s1 (k (asg (v := .slice a0 xs.length c0) rfl rfl (z (nx (rt (r1 rfl rfl ?_))))))))))))))
    have e0 : (xs : List (Int × Int)) = pairsM mn mr := by rw [hs]; exact pairs_end (by omega) (by omega)
    have ev_ := cg1 (fun (x_0 : List (Int × Int)) => (.slice a0 x_0.length c0 : Value)) e0
    exact ⟨a0, c0, ev_, H3.below, (congrArg (fun (x_ : List (Int × Int)) => RV _ _ (.slice a0 x_.length c0) x_) e0).mp (H3.outO 0 rfl)⟩
end Go.Proofs.Ytmliihgaoaolmaa
