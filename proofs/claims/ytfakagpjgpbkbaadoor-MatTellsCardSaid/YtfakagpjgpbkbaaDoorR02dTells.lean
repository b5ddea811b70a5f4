/- PRINTED by my own tool (wip/tool/gen.py): contracts of Go functions of this seat, each with its proof. -/
import Derived.Test.YtfakagpjgpbkbaaDoorR02dTurn
import Derived.Test.YtfakagpjgpbkbaaDoorR02dJoin
import Derived.Test.YtfakagpjgpbkbaaDoorR02dOne
import Derived.Test.YtfakagpjgpbkbaaDoorR02dRef
import Derived.Test.YtfakagpjgpbkbaaDoorR02dMt2
import Derived.Test.YtfakagpjgpbkbaaDoorR02dMat
import Derived.Test.YtfakagpjgpbkbaaDoorR02dOr
import Derived.Test.YtfakagpjgpbkbaaDoorR02dFns
import Derived.Test.YtfakagpjgpbkbaaDoorEngX
import Derived.Test.YtfakagpjgpbkbaaDoorEwSpecZ
namespace Go.Proofs.YtfakagpjgpbkbaaDoor
open Go.Ew Go.RowKit
set_option linter.unusedVariables false
set_option linter.unusedSimpArgs false
attribute [local irreducible] WL WC SO Code.wp wpList retQ Ret
attribute [local irreducible] bitB hasW inR hasR setR countW countR subR words newR listR orR firstW tab8
theorem ar72 : ArF Tryd.prog 72 := arF un72 un3 (by kernel_rfl) (by kernel_rfl) (by kernel_rfl)
theorem fl63_0 : FldF Tryd.prog 63 0 0 := ⟨_, _, Tryd.underlying63, rfl, rfl, by kernel_rfl⟩
theorem fl63_1 : FldF Tryd.prog 63 1 2 := ⟨_, _, Tryd.underlying63, rfl, rfl, by kernel_rfl⟩
theorem fl63_2 : FldF Tryd.prog 63 2 4 := ⟨_, _, Tryd.underlying63, rfl, rfl, by kernel_rfl⟩
theorem fl63_3 : FldF Tryd.prog 63 3 5 := ⟨_, _, Tryd.underlying63, rfl, rfl, by kernel_rfl⟩
theorem un4 : Tryd.prog.underlying 4 = some (.bool) := by kernel_rfl
theorem go62 : GoF Tryd.prog 62 := ⟨_, _, Tryd.func62, rfl, by kernel_rfl⟩
theorem go63 : GoF Tryd.prog 63 := ⟨_, _, Tryd.func63, rfl, by kernel_rfl⟩
theorem go39 : GoF Tryd.prog 39 := ⟨_, _, Tryd.func39, rfl, by kernel_rfl⟩
theorem go64 : GoF Tryd.prog 64 := ⟨_, _, Tryd.func64, rfl, by kernel_rfl⟩
theorem go38 : GoF Tryd.prog 38 := ⟨_, _, Tryd.func38, rfl, by kernel_rfl⟩
theorem go50 : GoF Tryd.prog 50 := ⟨_, _, Tryd.func50, rfl, by kernel_rfl⟩
theorem go66 : GoF Tryd.prog 66 := ⟨_, _, Tryd.func66, rfl, by kernel_rfl⟩
/- eyewitness/eyewitnesslaw03.pairs -/
set_option maxRecDepth 100000 in
set_option maxHeartbeats 1600000 in
theorem law03_pairs {M : Nat → Prop} {w : World} {a_a : Option Addr} {c_a : Nat} {a : List (Int × Int)} {a_b : Option Addr} {c_b : Nat} {b : List (Int × Int)} (hM : ∀ b, M b → b < w.heap.size) (h_a : RV M w (.slice a_a a.length c_a) a) (h_b : RV M w (.slice a_b b.length c_b) b) : Calls Tryd.prog 64 #[.slice a_a a.length c_a, .slice a_b b.length c_b] w (Ret fun v w' =>  v = .bool (decide (a = b)) ∧ Ext w w') := by
  refine enter 26 Tryd.func64 rfl rfl rfl fun f0 ha => ?_
  have H := HI.start (M0 := M) (w := w) hM
  have H0 := H.put (it := imm (.slice a_a a.length c_a) a) rfl (by rw [MS_nil]; exact h_a)
  have H1 := H0.put (it := imm (.slice a_b b.length c_b) b) rfl (by rw [MS_cons_none rfl, MS_nil]; exact h_b)
  have ln_a := rv_len h_a
  have ln_b := rv_len h_b
  have i0 : f0 0 = .slice a_a a.length c_a := ha 0 (by simp)
  have i1 : f0 1 = .slice a_b b.length c_b := ha 1 (by simp)
  refine sq (rg (k (asg (v := .bool false) rfl rfl (z (nx (sq (sq (rg (k (mv rfl i0 (k (lnS rfl rfl un44 (k (mv rfl i1 (k (lnS rfl rfl un44 (k (neq rfl rfl rfl rfl (z (nx ?_))))))))))))))))))))
  refine cd (b := !decide ((a.length : Int) = (b.length : Int))) rfl rfl (fun b0 => ?_) (fun b0 => ?_)
  ·
    have p0 := of_decide_eq_false (nott b0)
    refine sq (rg (k (asg (v := .bool false) rfl rfl (z (nx (rt (then_ret (r1 rfl rfl ?_))))))))
    have e0 : (false : Bool) = decide (a = b) := by symm; rw [decide_eq_false_iff_not]; intro e; subst e; exact p0 rfl
    have ev_ := cg1 (fun (x_0 : Bool) => (.bool x_0 : Value)) e0
    exact ⟨ev_, H1.below⟩
  ·
    have p0 := of_decide_eq_true (notf b0)
    refine sk (nx (sq (sq (rg (k (asg (v := .int .i64 0) rfl rfl (z (nx (bk ?_)))))))))
    refine lp (fun m f w' => ∃ (j : Nat), m = a.length - j ∧ f 0 = .slice a_a a.length c_a ∧ f 1 = .slice a_b b.length c_b ∧ f 5 = .int .i64 (j : Int) ∧  HI M w w' [imm (.slice a_b b.length c_b) b, imm (.slice a_a a.length c_a) a] ∧ (j ≤ a.length) ∧ (a.take j = b.take j)) _ ⟨0, rfl, i0, i1, (ieq rfl (by first | rfl | omega | simp)), H1, (by first | assumption | omega | simp | (simp; omega)), (by first | assumption | omega | simp | (simp; omega))⟩ ?_
    rintro _ f0 w0 ⟨j, rfl, s0, s1, s2, H2, hk, hs⟩
    refine sq (sq (rg (k (mv rfl s2 (k (mv rfl s0 (k (lnS rfl rfl un44 (k (lss rfl rfl rfl rfl (z (nx ?_))))))))))))
    refine cd (b := decide ((j : Int) < (a.length : Int))) rfl rfl (fun b1 => ?_) (fun b1 => ?_)
    ·
      have p1 := of_decide_eq_true b1
      refine sk (nx (sq (bk (sq ?_))))
      obtain ⟨x0, hx0⟩ : ∃ x, a[(j : Int).toNat]? = some x := ⟨_, List.getElem?_eq_getElem (by first | omega | (simp; omega))⟩
      obtain ⟨x1, hx1⟩ : ∃ x, b[(j : Int).toNat]? = some x := ⟨_, List.getElem?_eq_getElem (by first | omega | (simp; omega))⟩
      refine dr 8 [fun (v : Value) (w' : World) => v = .slice a_a a.length c_a, fun (v : Value) (w' : World) => v = .int .i64 (j : Int), fun (v : Value) (w' : World) => ∃ (ad0 : Addr), v = .pointer (some ad0) ∧ At (MS M [imm (.slice a_b b.length c_b) b, imm (.slice a_a a.length c_a) a]) w' ad0 x0, fun (v : Value) (w' : World) => v = .agg #[.int .i64 x0.1, .int .i64 x0.2] ∧ I64 (x0.1) ∧ I64 (x0.2), fun (v : Value) (w' : World) => v = .slice a_b b.length c_b, fun (v : Value) (w' : World) => v = .int .i64 (j : Int), fun (v : Value) (w' : World) => ∃ (ad1 : Addr), v = .pointer (some ad1) ∧ At (MS M [imm (.slice a_b b.length c_b) b, imm (.slice a_a a.length c_a) a]) w' ad1 x1, fun (v : Value) (w' : World) => v = .agg #[.int .i64 x1.1, .int .i64 x1.2] ∧ I64 (x1.1) ∧ I64 (x1.2)] rfl (by kernel_rfl) ?_ ?_
      ·
        refine ⟨fun _ => ⟨fun f1 w1 hf0 xt0 hp0 => ?_, fun _ _ _ _ h => h⟩, ?_⟩
        ·
          have H3 := H2.ext xt0
          refine mv rfl ((hf0 0 rfl).trans s0) ?_
          exact ⟨_, rfl, Ext.refl _, rfl⟩
        refine ⟨fun _ => ⟨fun f2 w2 hf1 xt1 hp1 => ?_, fun _ _ _ _ h => h⟩, ?_⟩
        ·
          have H4 := H2.ext xt1
          refine mv rfl ((hf1 5 rfl).trans s2) ?_
          exact ⟨_, rfl, Ext.refl _, rfl⟩
        refine ⟨fun _ => ⟨fun f3 w3 hf2 xt2 hp2 => ?_, by rintro _ _ _ x_ ⟨ad0, e_, hA0⟩; exact ⟨ad0, e_, hA0.lift (Up.ext x_)⟩⟩, ?_⟩
        ·
          have H5 := H2.ext xt2
          have s3 : f3 17 = .slice a_a a.length c_a := hp2 0 rfl rfl
          have s4 : f3 18 = .int .i64 (j : Int) := hp2 1 rfl rfl
          refine ia (H5.rv 1 rfl) rfl rfl s3 s4 (by first | omega | (simp; omega)) un44 ty72 ?_
          intro ad2 x2 hx2 hA2
          obtain rfl : x0 = x2 := Option.some.inj (hx0.symm.trans hx2)
          exact ⟨_, rfl, Ext.refl _, ⟨ad2, rfl, hA2⟩⟩
        refine ⟨fun _ => ⟨fun f4 w4 hf3 xt3 hp3 => ?_, fun _ _ _ _ h => h⟩, ?_⟩
        ·
          have H6 := H2.ext xt3
          obtain ⟨ad3, s5, hA3⟩ : ∃ (ad3 : Addr), f4 19 = .pointer (some ad3) ∧ At (MS M [imm (.slice a_b b.length c_b) b, imm (.slice a_a a.length c_a) a]) w4 ad3 x0 := hp3 2 rfl rfl
          have H7 := H6.put (it := atI ad3 x0) rfl hA3
          refine ldW (H7.atv 0 rfl).w ty72 rfl s5 ?_
          intro v2 rv6
          obtain ⟨_, ⟨_, _, rfl, ⟨rfl, rv7⟩, ⟨rfl, rv8⟩⟩, rfl⟩ := rv6
          exact ⟨_, rfl, Ext.refl _, ⟨rfl, rv7, rv8⟩⟩
        refine ⟨fun _ => ⟨fun f5 w5 hf4 xt4 hp4 => ?_, fun _ _ _ _ h => h⟩, ?_⟩
        ·
          have H8 := H2.ext xt4
          refine mv rfl ((hf4 1 rfl).trans s1) ?_
          exact ⟨_, rfl, Ext.refl _, rfl⟩
        refine ⟨fun _ => ⟨fun f6 w6 hf5 xt5 hp5 => ?_, fun _ _ _ _ h => h⟩, ?_⟩
        ·
          have H9 := H2.ext xt5
          refine mv rfl ((hf5 5 rfl).trans s2) ?_
          exact ⟨_, rfl, Ext.refl _, rfl⟩
        refine ⟨fun _ => ⟨fun f7 w7 hf6 xt6 hp6 => ?_, by rintro _ _ _ x_ ⟨ad1, e_, hA1⟩; exact ⟨ad1, e_, hA1.lift (Up.ext x_)⟩⟩, ?_⟩
        ·
          have H10 := H2.ext xt6
          have s6 : f7 21 = .slice a_b b.length c_b := hp6 4 rfl rfl
          have s7 : f7 22 = .int .i64 (j : Int) := hp6 5 rfl rfl
          refine ia (H10.rv 0 rfl) rfl rfl s6 s7 (by first | omega | (simp; omega)) un44 ty72 ?_
          intro ad4 x3 hx3 hA4
          obtain rfl : x1 = x3 := Option.some.inj (hx1.symm.trans hx3)
          exact ⟨_, rfl, Ext.refl _, ⟨ad4, rfl, hA4⟩⟩
        refine ⟨fun _ => ⟨fun f8 w8 hf7 xt7 hp7 => ?_, fun _ _ _ _ h => h⟩, ?_⟩
        ·
          have H11 := H2.ext xt7
          obtain ⟨ad5, s8, hA5⟩ : ∃ (ad5 : Addr), f8 23 = .pointer (some ad5) ∧ At (MS M [imm (.slice a_b b.length c_b) b, imm (.slice a_a a.length c_a) a]) w8 ad5 x1 := hp7 6 rfl rfl
          have H12 := H11.put (it := atI ad5 x1) rfl hA5
          refine ldW (H12.atv 0 rfl).w ty72 rfl s8 ?_
          intro v3 rv9
          obtain ⟨_, ⟨_, _, rfl, ⟨rfl, rv10⟩, ⟨rfl, rv11⟩⟩, rfl⟩ := rv9
          exact ⟨_, rfl, Ext.refl _, ⟨rfl, rv10, rv11⟩⟩
        exact DSteps.rest rfl _
      · intro f9 w9 hf8 xt8 hp8
        have H13 := H2.ext xt8
        have s9 : f9 0 = .slice a_a a.length c_a := (hf8 0 rfl).trans s0
        have s10 : f9 1 = .slice a_b b.length c_b := (hf8 1 rfl).trans s1
        have s11 : f9 5 = .int .i64 (j : Int) := (hf8 5 rfl).trans s2
        obtain ⟨s12, rv12, rv13⟩ : f9 20 = .agg #[.int .i64 x0.1, .int .i64 x0.2] ∧ I64 (x0.1) ∧ I64 (x0.2) := hp8 3 rfl
        obtain ⟨s13, rv14, rv15⟩ : f9 24 = .agg #[.int .i64 x1.1, .int .i64 x1.2] ∧ I64 (x1.1) ∧ I64 (x1.2) := hp8 7 rfl
        refine k (neA ar72 rfl rfl s12 s13 (q := decide ((x0.1, x0.2) = (x1.1, x1.2))) (by rw [Bool.eq_iff_iff]; simp [Prod.ext_iff] <;> done) (z (nx ?_)))
        refine cd (b := !decide ((x0.1, x0.2) = (x1.1, x1.2))) rfl rfl (fun b2 => ?_) (fun b2 => ?_)
        ·
          have p2 := of_decide_eq_false (nott b2)
          refine sq (rg (k (asg (v := .bool false) rfl rfl (z (nx (rt (inb_ret (then_ret (loop_ret (inb_ret (then_ret (r1 rfl rfl ?_))))))))))))
          have e0 : (false : Bool) = decide (a = b) := by symm; rw [decide_eq_false_iff_not]; exact ne_of_at hx0 hx1 p2
          have ev_ := cg1 (fun (x_0 : Bool) => (.bool x_0 : Value)) e0
          exact ⟨ev_, H13.below⟩
        ·
          have p2 := of_decide_eq_true (notf b2)
          refine sk (inb_normal (nx (rg (k (mv rfl s11 (k (add rfl rfl rfl rfl (by unfold I64 at *; omega) (k (asg (v := .int .i64 ((j : Int) + 1)) rfl rfl (z ?_))))))))))
          refine loopN _ ?_ ⟨(j + 1), rfl, s9, s10, (ieq rfl (by first | rfl | omega | (push_cast; omega))), H13, (by first | assumption | omega | simp | (simp; omega)), (by exact take_eq_step hs hx0 hx1 p2)⟩
          omega
    ·
      have p1 := of_decide_eq_false b1
      refine ex (then_exit (loop_exit (inb_here (nx (sq (rg (k (asg (v := .bool true) rfl rfl (z (nx (rt (r1 rfl rfl ?_))))))))))))
      have e0 : (true : Bool) = decide (a = b) := by symm; rw [decide_eq_true_eq]; exact eq_of_take (by omega) hs (by omega)
      have ev_ := cg1 (fun (x_0 : Bool) => (.bool x_0 : Value)) e0
      exact ⟨ev_, H2.below⟩
/- eyewitness/eyewitnesslaw03.MatTells -/
set_option maxRecDepth 100000 in
set_option maxHeartbeats 1600000 in
theorem law_MatTells {M : Nat → Prop} {w : World} {an : Int} {a_ar : Option Addr} {c_ar : Nat} {ar : List (List (BitVec 64))} {bn : Int} {a_br : Option Addr} {c_br : Nat} {br : List (List (BitVec 64))} {i : Int} {j : Int} (hM : ∀ b, M b → b < w.heap.size) (hT : TabAt 0 w) (h_an : I64 an) (h_ar : RV M w (.slice a_ar ar.length c_ar) ar) (h_bn : I64 bn) (h_br : RV M w (.slice a_br br.length c_br) br) (h_i : I64 i) (h_j : I64 j) : Calls Tryd.prog 12 #[.agg #[.int .i64 an, .slice a_ar ar.length c_ar, .int .i64 bn, .slice a_br br.length c_br, .int .i64 i, .int .i64 j]] w (Ret fun v w' =>  v = .bool true ∧ Ext w w') := by
  refine enter 136 Tryd.func12 rfl rfl rfl fun f0 ha => ?_
  have H := HI.start (M0 := M) (w := w) hM
  have H0 := H.put (it := imm (.slice a_ar ar.length c_ar) ar) rfl (by rw [MS_nil]; exact h_ar)
  have H1 := H0.put (it := imm (.slice a_br br.length c_br) br) rfl (by rw [MS_cons_none rfl, MS_nil]; exact h_br)
  have ln_ar := rv_len h_ar
  have ln_br := rv_len h_br
  have i0 : f0 0 = .agg #[.int .i64 an, .slice a_ar ar.length c_ar, .int .i64 bn, .slice a_br br.length c_br, .int .i64 i, .int .i64 j] := ha 0 (by simp)
  refine sq (rg (k (bx H1 rfl i0 ?_)))
  intro bb0 w0 xt0 (H2 : HI M w w0 [box bb0 #[.int .i64 an, .slice a_ar ar.length c_ar, .int .i64 bn, .slice a_br br.length c_br, .int .i64 i, .int .i64 j] 63, imm (.slice a_br br.length c_br) br, imm (.slice a_ar ar.length c_ar) ar])
  refine k (asg (v := .bool false) rfl rfl (z (nx (sq ?_))))
  refine drs [.v, .v, .v, .v, .v, .v, .v, .v, .n, .n, .s 8 1, .s 9 3, .v, .v] [fun (v : Value) => v = .pointer (some ⟨bb0, 0, none⟩), fun (v : Value) => v = .agg #[.int .i64 an, .slice a_ar ar.length c_ar], fun (v : Value) => v = .pointer (some ⟨bb0, 2, none⟩), fun (v : Value) => v = .agg #[.int .i64 bn, .slice a_br br.length c_br], fun (v : Value) => v = .pointer (some ⟨bb0, 4, none⟩), fun (v : Value) => v = .int .i64 i, fun (v : Value) => v = .pointer (some ⟨bb0, 5, none⟩), fun (v : Value) => v = .int .i64 j, fun _ => True, fun _ => True, fun _ => True, fun _ => True, fun (v : Value) => v = .int .i64 i, fun (v : Value) => v = .int .i64 j] [(#[], 0), (#[], 0), (#[], 0), (#[], 0), (#[], 0), (#[], 0), (#[], 0), (#[], 0), (#[.int .i64 0, .slice none 0 0], 38), (#[.int .i64 0, .slice none 0 0], 38), (#[], 0), (#[], 0), (#[], 0), (#[], 0)] rfl (by kernel_rfl) ?_ ?_
  ·
    refine ⟨⟨rfl, fun f0 w3 hf0 xt3 hp0 => ?_⟩, ?_⟩
    ·
      refine fa fl63_0 rfl (hf0 1 rfl) ?_
      exact ⟨_, rfl, rfl, rfl⟩
    refine ⟨⟨rfl, fun f1 w4 hf1 xt4 hp1 => ?_⟩, ?_⟩
    ·
      have s0 : f1 15 = .pointer (some ⟨bb0, 0, none⟩) := hp1 0 rfl ⟨_, rfl, rfl⟩
      refine ldX (H2.ext xt4) 0 rfl ty38 rfl s0 (by decide) rfl ?_
      exact ⟨_, rfl, rfl, rfl⟩
    refine ⟨⟨rfl, fun f2 w5 hf2 xt5 hp2 => ?_⟩, ?_⟩
    ·
      refine fa fl63_1 rfl (hf2 1 rfl) ?_
      exact ⟨_, rfl, rfl, rfl⟩
    refine ⟨⟨rfl, fun f3 w6 hf3 xt6 hp3 => ?_⟩, ?_⟩
    ·
      have s1 : f3 17 = .pointer (some ⟨bb0, 2, none⟩) := hp3 2 rfl ⟨_, rfl, rfl⟩
      refine ldX (H2.ext xt6) 0 rfl ty38 rfl s1 (by decide) rfl ?_
      exact ⟨_, rfl, rfl, rfl⟩
    refine ⟨⟨rfl, fun f4 w7 hf4 xt7 hp4 => ?_⟩, ?_⟩
    ·
      refine fa fl63_2 rfl (hf4 1 rfl) ?_
      exact ⟨_, rfl, rfl, rfl⟩
    refine ⟨⟨rfl, fun f5 w8 hf5 xt8 hp5 => ?_⟩, ?_⟩
    ·
      have s2 : f5 19 = .pointer (some ⟨bb0, 4, none⟩) := hp5 4 rfl ⟨_, rfl, rfl⟩
      refine ldX (H2.ext xt8) 0 rfl ty3 rfl s2 (by decide) rfl ?_
      exact ⟨_, rfl, rfl, rfl⟩
    refine ⟨⟨rfl, fun f6 w9 hf6 xt9 hp6 => ?_⟩, ?_⟩
    ·
      refine fa fl63_3 rfl (hf6 1 rfl) ?_
      exact ⟨_, rfl, rfl, rfl⟩
    refine ⟨⟨rfl, fun f7 w10 hf7 xt10 hp7 => ?_⟩, ?_⟩
    ·
      have s3 : f7 21 = .pointer (some ⟨bb0, 5, none⟩) := hp7 6 rfl ⟨_, rfl, rfl⟩
      refine ldX (H2.ext xt10) 0 rfl ty3 rfl s3 (by decide) rfl ?_
      exact ⟨_, rfl, rfl, rfl⟩
    refine ⟨⟨rfl, fun f8 w11 hf8 xt11 hp8 => ?_⟩, ?_⟩
    ·
      refine alS ty38 ?_
      exact ⟨rfl, rfl, trivial⟩
    refine ⟨⟨rfl, fun f9 w13 hf9 xt13 hp9 => ?_⟩, ?_⟩
    ·
      refine alS ty38 ?_
      exact ⟨rfl, rfl, trivial⟩
    refine ⟨⟨rfl, rfl, rfl, ⟨_, rfl, rfl⟩, ⟨_, rfl, rfl⟩, trivial, by intro _ e_; rw [e_]; rfl, fun f10 w15 bb3 cur0 xt15 s4 hb0 hc0 hv0 => ?_⟩, ?_⟩
    ·
      have e_ := hv0
      exact stS ty38 rfl rfl s4 rfl hb0 ((congrArg (fun v => v.cells.size) e_).trans rfl) hc0 ((congrArg (fun v => v.cells.toList.all Value.oneCell') e_).trans rfl)
    refine ⟨⟨rfl, rfl, rfl, ⟨_, rfl, rfl⟩, ⟨_, rfl, rfl⟩, trivial, by intro _ e_; rw [e_]; rfl, fun f11 w16 bb4 cur1 xt16 s5 hb1 hc1 hv1 => ?_⟩, ?_⟩
    ·
      have e_ := hv1
      exact stS ty38 rfl rfl s5 rfl hb1 ((congrArg (fun v => v.cells.size) e_).trans rfl) hc1 ((congrArg (fun v => v.cells.toList.all Value.oneCell') e_).trans rfl)
    refine ⟨⟨rfl, fun f12 w17 hf10 xt17 hp10 => ?_⟩, ?_⟩
    ·
      have s6 : f12 20 = .int .i64 i := hp10 5 rfl ⟨_, rfl, rfl⟩
      refine asg rfl s6 ?_
      exact ⟨_, rfl, rfl, rfl⟩
    refine ⟨⟨rfl, fun f13 w18 hf11 xt18 hp11 => ?_⟩, ?_⟩
    ·
      have s7 : f13 22 = .int .i64 j := hp11 7 rfl ⟨_, rfl, rfl⟩
      refine asg rfl s7 ?_
      exact ⟨_, rfl, rfl, rfl⟩
    exact trivial
  · intro f14 w19 B0 hf12 xt19 hp12 hB0 hd0
    have s8 : f14 5 = .int .i64 i := hp12 12 _ rfl rfl
    have s9 : f14 6 = .int .i64 j := hp12 13 _ rfl rfl
    have s10 : f14 16 = .agg #[.int .i64 an, .slice a_ar ar.length c_ar] := hp12 1 _ rfl rfl
    have s11 : f14 18 = .agg #[.int .i64 bn, .slice a_br br.length c_br] := hp12 3 _ rfl rfl
    obtain ⟨s12, hg0, cur2, hc2, hk0⟩ := hB0 8 (by decide) trivial
    have hq0 : cur2 = #[.int .i64 an, .slice a_ar ar.length c_ar] := (hk0.2.1 10 1 rfl rfl).trans (congrArg Value.cells s10)
    rw [hq0] at hc2
    obtain ⟨s13, hg1, cur3, hc3, hk1⟩ := hB0 9 (by decide) trivial
    have hq1 : cur3 = #[.int .i64 bn, .slice a_br br.length c_br] := (hk1.2.1 11 3 rfl rfl).trans (congrArg Value.cells s11)
    rw [hq1] at hc3
    have hd0_1 := hd0 8 9 (by decide) (by decide) (by decide) trivial trivial
    have H5 : HI M w w19 [box (B0 8) #[.int .i64 an, .slice a_ar ar.length c_ar] 38, box (B0 9) #[.int .i64 bn, .slice a_br br.length c_br] 38, box bb0 #[.int .i64 an, .slice a_ar ar.length c_ar, .int .i64 bn, .slice a_br br.length c_br, .int .i64 i, .int .i64 j] 63, imm (.slice a_br br.length c_br) br, imm (.slice a_ar ar.length c_ar) ar] := H2.lays xt19 [((B0 8), #[.int .i64 an, .slice a_ar ar.length c_ar], 38), ((B0 9), #[.int .i64 bn, .slice a_br br.length c_br], 38)] (by intro q_ hq_; simp only [List.mem_cons, List.not_mem_nil, or_false] at hq_; rcases hq_ with rfl | rfl <;> first | exact ⟨hg0, hc2⟩ | exact ⟨hg1, hc3⟩) (by simp only [List.map_cons, List.map_nil, List.nodup_cons, List.mem_cons, List.not_mem_nil, or_false, List.nodup_nil, and_true, not_or, not_false_eq_true, true_and] <;> omega)
    refine nx (sq (sq (rg (k (ldX H5 0 rfl ty38 rfl s12 (by decide) rfl (k ?_))))))
    have cc0 := ref03_Small (mn := an) (mr := ar) (mo := 20) (w := w19) H5.mb (by unfold I64 at *; omega) (H5.rv 4 rfl) (by unfold I64 at *; omega)
    refine ca go33 rfl (ec rfl (ec rfl e0)) cc0 ?_
    rintro _ w20 ⟨rfl, xt20⟩
    have H6 := H5.ext xt20
    refine k (not_ rfl rfl (k (mv (v := .bool (!(smallM ar 20))) rfl rfl ?_)))
    rcases Bool.eq_false_or_eq_true (!(smallM ar 20)) with b0 | b0
    · -- !(smallM ar 20) is True
      refine k (gn rfl rfl rfl b0 (k (gn rfl rfl rfl b0 (k (gn rfl rfl rfl b0 (k (pickT rfl rfl rfl rfl b0 rfl (z (nx (cdT rfl rfl rfl (sq (rg (k ?_)))))))))))))
      have cc1 := awake03 (w := w20)
      refine ca go35 rfl e0 cc1 ?_
      rintro _ w21 ⟨rfl, xt21⟩
      have H7 := H6.ext xt21
      refine k (asg (v := .bool true) rfl rfl (z (nx (rt (then_ret (r1 rfl rfl ?_))))))
      exact ⟨rfl, H7.below⟩
    · -- !(smallM ar 20) is False
      refine k (gy rfl rfl rfl b0 (ldX H6 1 rfl ty38 rfl s13 (by decide) rfl (k (gy rfl rfl rfl b0 ?_))))
      have cc1 := ref03_Small (mn := bn) (mr := br) (mo := 20) (w := w20) H6.mb (by unfold I64 at *; omega) (H6.rv 3 rfl) (by unfold I64 at *; omega)
      refine ca go33 rfl (ec rfl (ec rfl e0)) cc1 ?_
      rintro _ w21 ⟨rfl, xt21⟩
      have H7 := H6.ext xt21
      refine k (gy rfl rfl rfl b0 (not_ rfl rfl (k (pickF rfl rfl rfl rfl b0 rfl (z (nx ?_))))))
      refine cd (b := !(smallM br 20)) rfl rfl (fun b1 => ?_) (fun b1 => ?_)
      ·
        refine sq (rg (k ?_))
        have cc2 := awake03 (w := w21)
        refine ca go35 rfl e0 cc2 ?_
        rintro _ w22 ⟨rfl, xt22⟩
        have H8 := H7.ext xt22
        refine k (asg (v := .bool true) rfl rfl (z (nx (rt (then_ret (r1 rfl rfl ?_))))))
        exact ⟨rfl, H8.below⟩
      ·
        refine sk (nx (sq (sq ?_)))
        refine dr 3 [fun (v : Value) (w' : World) => v = .agg #[.int .i64 an, .slice a_ar ar.length c_ar], fun (v : Value) (w' : World) => v = .bool (rightM an ar), fun (v : Value) (w' : World) => v = .agg #[.int .i64 an, .slice a_ar ar.length c_ar]] rfl (by kernel_rfl) ?_ ?_
        ·
          refine ⟨fun _ => ⟨fun f15 w23 hf13 xt23 hp13 => ?_, fun _ _ _ _ h => h⟩, ?_⟩
          ·
            have H9 := H7.ext xt23
            refine ldX H9 0 rfl ty38 rfl ((hf13 3 rfl).trans s12) (by decide) rfl ?_
            exact ⟨_, rfl, Ext.refl _, rfl⟩
          refine ⟨fun _ => ⟨fun f16 w24 hf14 xt24 hp14 => ?_, fun _ _ _ _ h => h⟩, ?_⟩
          ·
            have H10 := H7.ext xt24
            have s14 : f16 32 = .agg #[.int .i64 an, .slice a_ar ar.length c_ar] := hp14 0 rfl rfl
            have cc3 := mat_Right (mn := an) (mr := ar) (w := w24) H10.mb (by unfold I64 at *; omega) (H10.rv 4 rfl)
            refine ca go61 rfl (ec s14 e0) cc3 ?_
            rintro _ w25 ⟨rfl, xt25⟩
            have H11 := H10.ext xt25
            exact ⟨_, rfl, xt25, rfl⟩
          refine ⟨fun _ => ⟨fun f17 w26 hf15 xt26 hp15 => ?_, fun _ _ _ _ h => h⟩, ?_⟩
          ·
            have H12 := H7.ext xt26
            refine ldX H12 0 rfl ty38 rfl ((hf15 3 rfl).trans s12) (by decide) rfl ?_
            exact ⟨_, rfl, Ext.refl _, rfl⟩
          exact DSteps.rest rfl _
        · intro f18 w27 hf16 xt27 hp16
          have H13 := H7.ext xt27
          have s15 : f18 3 = .pointer (some ⟨(B0 8), 0, none⟩) := (hf16 3 rfl).trans s12
          have s16 : f18 4 = .pointer (some ⟨(B0 9), 0, none⟩) := (hf16 4 rfl).trans s13
          have s17 : f18 5 = .int .i64 i := (hf16 5 rfl).trans s8
          have s18 : f18 6 = .int .i64 j := (hf16 6 rfl).trans s9
          have s19 : f18 33 = .bool (rightM an ar) := hp16 1 rfl
          have s20 : f18 34 = .agg #[.int .i64 an, .slice a_ar ar.length c_ar] := hp16 2 rfl
          refine k ?_
          have cc4 := ref03_Right (mn := an) (mr := ar) (w := w27) H13.mb (by unfold I64 at *; omega) (H13.rv 4 rfl)
          refine ca go34 rfl (ec s20 e0) cc4 ?_
          rintro _ w28 ⟨rfl, xt28⟩
          have H14 := H13.ext xt28
          refine k (neB rfl rfl s19 rfl un4 (z (nx ?_)))
          have tr0 : ((rightM an ar) == (rightS an ar)) = true := (by rw [right_two]; simp)
          refine cdF rfl rfl (by rw [show ((rightM an ar) == (rightS an ar)) = true from tr0]; rfl) (sk (nx (sq (sq (rg (k (ldX H14 0 rfl ty38 rfl s15 (by decide) rfl (k ?_))))))))
          have cc5 := ref03_Right (mn := an) (mr := ar) (w := w28) H14.mb (by unfold I64 at *; omega) (H14.rv 4 rfl)
          refine ca go34 rfl (ec rfl e0) cc5 ?_
          rintro _ w29 ⟨rfl, xt29⟩
          have H15 := H14.ext xt29
          refine k (not_ rfl rfl (k (mv (v := .bool (!(rightS an ar))) rfl rfl ?_)))
          rcases Bool.eq_false_or_eq_true (!(rightS an ar)) with b2 | b2
          · -- !(rightS an ar) is True
            refine k (gn rfl rfl rfl b2 (k (gn rfl rfl rfl b2 (k (gn rfl rfl rfl b2 (k (pickT rfl rfl rfl rfl b2 rfl (z (nx (cdT rfl rfl rfl (sq (rg (k ?_)))))))))))))
            have cc6 := awake03 (w := w29)
            refine ca go35 rfl e0 cc6 ?_
            rintro _ w30 ⟨rfl, xt30⟩
            have H16 := H15.ext xt30
            refine k (asg (v := .bool true) rfl rfl (z (nx (rt (then_ret (r1 rfl rfl ?_))))))
            exact ⟨rfl, H16.below⟩
          · -- !(rightS an ar) is False
            refine k (gy rfl rfl rfl b2 (ldX H15 1 rfl ty38 rfl s16 (by decide) rfl (k (gy rfl rfl rfl b2 ?_))))
            have cc6 := ref03_Right (mn := bn) (mr := br) (w := w29) H15.mb (by unfold I64 at *; omega) (H15.rv 3 rfl)
            refine ca go34 rfl (ec rfl e0) cc6 ?_
            rintro _ w30 ⟨rfl, xt30⟩
            have H16 := H15.ext xt30
            refine k (gy rfl rfl rfl b2 (not_ rfl rfl (k (pickF rfl rfl rfl rfl b2 rfl (z (nx ?_))))))
            refine cd (b := !(rightS bn br)) rfl rfl (fun b3 => ?_) (fun b3 => ?_)
            ·
              refine sq (rg (k ?_))
              have cc7 := awake03 (w := w30)
              refine ca go35 rfl e0 cc7 ?_
              rintro _ w31 ⟨rfl, xt31⟩
              have H17 := H16.ext xt31
              refine k (asg (v := .bool true) rfl rfl (z (nx (rt (then_ret (r1 rfl rfl ?_))))))
              exact ⟨rfl, H17.below⟩
            ·
              refine sk (nx (sq ?_))
              have ra_ : rightS an ar = true := by simpa using ‹(!rightS an ar) = false›
              have rb_ : rightS bn br = true := by simpa using ‹(!rightS bn br) = false›
              refine rg (k (ldX H16 0 rfl ty38 rfl s15 (by decide) rfl (k (mv rfl s17 (k (mv rfl s18 (k ?_)))))))
              have cc7 := mat_Set (mn := an) (mr := ar) (i := i) (j := j) (w := w30) H16.mb (by unfold I64 at *; omega) (H16.rv 4 rfl) (by unfold I64 at *; omega) (by unfold I64 at *; omega) (by first | exact (right_sq ra_).1 | exact (right_sq ra_).2.1 | exact (right_sq ra_).2.2.1 | exact (right_sq ra_).2.2.2.2 | exact (right_sq rb_).1 | exact (right_sq rb_).2.1 | exact (right_sq rb_).2.2.1 | exact (right_sq rb_).2.2.2.2) (by first | exact (right_sq ra_).1 | exact (right_sq ra_).2.1 | exact (right_sq ra_).2.2.1 | exact (right_sq ra_).2.2.2.2 | exact (right_sq rb_).1 | exact (right_sq rb_).2.1 | exact (right_sq rb_).2.2.1 | exact (right_sq rb_).2.2.2.2) (by first | exact (right_sq ra_).1 | exact (right_sq ra_).2.1 | exact (right_sq ra_).2.2.1 | exact (right_sq ra_).2.2.2.2 | exact (right_sq rb_).1 | exact (right_sq rb_).2.1 | exact (right_sq rb_).2.2.1 | exact (right_sq rb_).2.2.2.2)
              refine ca go57 rfl (ec rfl (ec rfl (ec rfl e0))) cc7 ?_
              rintro _ w31 ⟨a0, c0, rfl, xt31, rv0⟩
              have H17 := H16.ownsG rv0
              refine k (mv (v := .tuple #[.agg #[.int .i64 (setMN an i j), .slice a0 (setMR an ar i j).length c0], .int .i64 (setME an i j)]) rfl rfl (k (xt rfl rfl rfl (k (xt rfl rfl rfl (k (al H17 ty38 ?_)))))))
              intro bb5 w32 xt32 (H18 : HI M w w32 [box bb5 #[.int .i64 0, .slice none 0 0] 38, own w.heap.size 22 (.slice a0 (setMR an ar i j).length c0) (setMR an ar i j), box (B0 8) #[.int .i64 an, .slice a_ar ar.length c_ar] 38, box (B0 9) #[.int .i64 bn, .slice a_br br.length c_br] 38, box bb0 #[.int .i64 an, .slice a_ar ar.length c_ar, .int .i64 bn, .slice a_br br.length c_br, .int .i64 i, .int .i64 j] 63, imm (.slice a_br br.length c_br) br, imm (.slice a_ar ar.length c_ar) ar])
              refine k (stX H18 0 rfl ty38 rfl rfl rfl rfl rfl rfl rfl ?_)
              intro w33 (H19 : HI M w w33 [box bb5 #[.int .i64 (setMN an i j), .slice a0 (setMR an ar i j).length c0] 38, own w.heap.size 22 (.slice a0 (setMR an ar i j).length c0) (setMR an ar i j), box (B0 8) #[.int .i64 an, .slice a_ar ar.length c_ar] 38, box (B0 9) #[.int .i64 bn, .slice a_br br.length c_br] 38, box bb0 #[.int .i64 an, .slice a_ar ar.length c_ar, .int .i64 bn, .slice a_br br.length c_br, .int .i64 i, .int .i64 j] 63, imm (.slice a_br br.length c_br) br, imm (.slice a_ar ar.length c_ar) ar])
              refine k (asg (v := .int .i64 (setME an i j)) rfl rfl (z (nx (sq (rg (k (ldX H19 2 rfl ty38 rfl s15 (by decide) rfl (k (mv rfl s17 (k (mv rfl s18 (k ?_))))))))))))
              have cc8 := ref03_Set (mn := an) (mr := ar) (i := i) (j := j) (w := w33) H19.mb (by unfold I64 at *; omega) (H19.rv 6 rfl) (by unfold I64 at *; omega) (by unfold I64 at *; omega) (by first | exact (right_sq ra_).1 | exact (right_sq ra_).2.1 | exact (right_sq ra_).2.2.1 | exact (right_sq ra_).2.2.2.2 | exact (right_sq rb_).1 | exact (right_sq rb_).2.1 | exact (right_sq rb_).2.2.1 | exact (right_sq rb_).2.2.2.2) (by first | exact (right_sq ra_).1 | exact (right_sq ra_).2.1 | exact (right_sq ra_).2.2.1 | exact (right_sq ra_).2.2.2.2 | exact (right_sq rb_).1 | exact (right_sq rb_).2.1 | exact (right_sq rb_).2.2.1 | exact (right_sq rb_).2.2.2.2) (by first | exact (right_sq ra_).1 | exact (right_sq ra_).2.1 | exact (right_sq ra_).2.2.1 | exact (right_sq ra_).2.2.2.2 | exact (right_sq rb_).1 | exact (right_sq rb_).2.1 | exact (right_sq rb_).2.2.1 | exact (right_sq rb_).2.2.2.2)
              refine ca go49 rfl (ec rfl (ec rfl (ec rfl e0))) cc8 ?_
              rintro _ w34 ⟨a1, c1, rfl, xt33, rv1⟩
              have H20 := H19.ownsG rv1
              refine k (mv (v := .tuple #[.agg #[.int .i64 (setMN an i j), .slice a1 (setMR an ar i j).length c1], .int .i64 (setME an i j)]) rfl rfl (k (xt rfl rfl rfl (k (xt rfl rfl rfl (k (al H20 ty38 ?_)))))))
              intro bb6 w35 xt34 (H21 : HI M w w35 [box bb6 #[.int .i64 0, .slice none 0 0] 38, own w.heap.size 22 (.slice a1 (setMR an ar i j).length c1) (setMR an ar i j), box bb5 #[.int .i64 (setMN an i j), .slice a0 (setMR an ar i j).length c0] 38, own w.heap.size 22 (.slice a0 (setMR an ar i j).length c0) (setMR an ar i j), box (B0 8) #[.int .i64 an, .slice a_ar ar.length c_ar] 38, box (B0 9) #[.int .i64 bn, .slice a_br br.length c_br] 38, box bb0 #[.int .i64 an, .slice a_ar ar.length c_ar, .int .i64 bn, .slice a_br br.length c_br, .int .i64 i, .int .i64 j] 63, imm (.slice a_br br.length c_br) br, imm (.slice a_ar ar.length c_ar) ar])
              refine k (stX H21 0 rfl ty38 rfl rfl rfl rfl rfl rfl rfl ?_)
              intro w36 (H22 : HI M w w36 [box bb6 #[.int .i64 (setMN an i j), .slice a1 (setMR an ar i j).length c1] 38, own w.heap.size 22 (.slice a1 (setMR an ar i j).length c1) (setMR an ar i j), box bb5 #[.int .i64 (setMN an i j), .slice a0 (setMR an ar i j).length c0] 38, own w.heap.size 22 (.slice a0 (setMR an ar i j).length c0) (setMR an ar i j), box (B0 8) #[.int .i64 an, .slice a_ar ar.length c_ar] 38, box (B0 9) #[.int .i64 bn, .slice a_br br.length c_br] 38, box bb0 #[.int .i64 an, .slice a_ar ar.length c_ar, .int .i64 bn, .slice a_br br.length c_br, .int .i64 i, .int .i64 j] 63, imm (.slice a_br br.length c_br) br, imm (.slice a_ar ar.length c_ar) ar])
              refine k (asg (v := .int .i64 (setME an i j)) rfl rfl (z (nx (sq (rg (k (ldX H22 4 rfl ty38 rfl s15 (by decide) rfl (k (ldX H22 5 rfl ty38 rfl s16 (by decide) rfl (k ?_))))))))))
              have cc9 := mat_Or (an := an) (ar := ar) (bn := bn) (br := br) (w := w36) H22.mb (by unfold I64 at *; omega) (H22.rv 8 rfl) (by unfold I64 at *; omega) (H22.rv 7 rfl) (by first | exact (right_sq ra_).1 | exact (right_sq ra_).2.1 | exact (right_sq ra_).2.2.1 | exact (right_sq ra_).2.2.2.2 | exact (right_sq rb_).1 | exact (right_sq rb_).2.1 | exact (right_sq rb_).2.2.1 | exact (right_sq rb_).2.2.2.2) (by first | exact (right_sq ra_).1 | exact (right_sq ra_).2.1 | exact (right_sq ra_).2.2.1 | exact (right_sq ra_).2.2.2.2 | exact (right_sq rb_).1 | exact (right_sq rb_).2.1 | exact (right_sq rb_).2.2.1 | exact (right_sq rb_).2.2.2.2) (by first | exact (right_sq ra_).1 | exact (right_sq ra_).2.1 | exact (right_sq ra_).2.2.1 | exact (right_sq ra_).2.2.2.2 | exact (right_sq rb_).1 | exact (right_sq rb_).2.1 | exact (right_sq rb_).2.2.1 | exact (right_sq rb_).2.2.2.2) (by first | exact (right_sq ra_).1 | exact (right_sq ra_).2.1 | exact (right_sq ra_).2.2.1 | exact (right_sq ra_).2.2.2.2 | exact (right_sq rb_).1 | exact (right_sq rb_).2.1 | exact (right_sq rb_).2.2.1 | exact (right_sq rb_).2.2.2.2) (by first | exact (right_sq ra_).1 | exact (right_sq ra_).2.1 | exact (right_sq ra_).2.2.1 | exact (right_sq ra_).2.2.2.2 | exact (right_sq rb_).1 | exact (right_sq rb_).2.1 | exact (right_sq rb_).2.2.1 | exact (right_sq rb_).2.2.2.2) (by first | exact (right_sq ra_).1 | exact (right_sq ra_).2.1 | exact (right_sq ra_).2.2.1 | exact (right_sq ra_).2.2.2.2 | exact (right_sq rb_).1 | exact (right_sq rb_).2.1 | exact (right_sq rb_).2.2.1 | exact (right_sq rb_).2.2.2.2)
              refine ca go58 rfl (ec rfl (ec rfl e0)) cc9 ?_
              rintro _ w37 ⟨a2, c2, rfl, xt35, rv2⟩
              have H23 := H22.ownsG rv2
              refine k (mv (v := .tuple #[.agg #[.int .i64 (orMN an bn), .slice a2 (orMR an ar bn br).length c2], .int .i64 (orME an bn)]) rfl rfl (k (xt rfl rfl rfl (k (xt rfl rfl rfl (k (al H23 ty38 ?_)))))))
              intro bb7 w38 xt36 (H24 : HI M w w38 [box bb7 #[.int .i64 0, .slice none 0 0] 38, own w.heap.size 22 (.slice a2 (orMR an ar bn br).length c2) (orMR an ar bn br), box bb6 #[.int .i64 (setMN an i j), .slice a1 (setMR an ar i j).length c1] 38, own w.heap.size 22 (.slice a1 (setMR an ar i j).length c1) (setMR an ar i j), box bb5 #[.int .i64 (setMN an i j), .slice a0 (setMR an ar i j).length c0] 38, own w.heap.size 22 (.slice a0 (setMR an ar i j).length c0) (setMR an ar i j), box (B0 8) #[.int .i64 an, .slice a_ar ar.length c_ar] 38, box (B0 9) #[.int .i64 bn, .slice a_br br.length c_br] 38, box bb0 #[.int .i64 an, .slice a_ar ar.length c_ar, .int .i64 bn, .slice a_br br.length c_br, .int .i64 i, .int .i64 j] 63, imm (.slice a_br br.length c_br) br, imm (.slice a_ar ar.length c_ar) ar])
              refine k (stX H24 0 rfl ty38 rfl rfl rfl rfl rfl rfl rfl ?_)
              intro w39 (H25 : HI M w w39 [box bb7 #[.int .i64 (orMN an bn), .slice a2 (orMR an ar bn br).length c2] 38, own w.heap.size 22 (.slice a2 (orMR an ar bn br).length c2) (orMR an ar bn br), box bb6 #[.int .i64 (setMN an i j), .slice a1 (setMR an ar i j).length c1] 38, own w.heap.size 22 (.slice a1 (setMR an ar i j).length c1) (setMR an ar i j), box bb5 #[.int .i64 (setMN an i j), .slice a0 (setMR an ar i j).length c0] 38, own w.heap.size 22 (.slice a0 (setMR an ar i j).length c0) (setMR an ar i j), box (B0 8) #[.int .i64 an, .slice a_ar ar.length c_ar] 38, box (B0 9) #[.int .i64 bn, .slice a_br br.length c_br] 38, box bb0 #[.int .i64 an, .slice a_ar ar.length c_ar, .int .i64 bn, .slice a_br br.length c_br, .int .i64 i, .int .i64 j] 63, imm (.slice a_br br.length c_br) br, imm (.slice a_ar ar.length c_ar) ar])
              refine k (asg (v := .int .i64 (orME an bn)) rfl rfl (z (nx (sq (rg (k (ldX H25 6 rfl ty38 rfl s15 (by decide) rfl (k (ldX H25 7 rfl ty38 rfl s16 (by decide) rfl (k ?_))))))))))
              have cc10 := ref03_Or (an := an) (ar := ar) (bn := bn) (br := br) (w := w39) H25.mb (by unfold I64 at *; omega) (H25.rv 10 rfl) (by unfold I64 at *; omega) (H25.rv 9 rfl) (by first | exact (right_sq ra_).1 | exact (right_sq ra_).2.1 | exact (right_sq ra_).2.2.1 | exact (right_sq ra_).2.2.2.2 | exact (right_sq rb_).1 | exact (right_sq rb_).2.1 | exact (right_sq rb_).2.2.1 | exact (right_sq rb_).2.2.2.2) (by first | exact (right_sq ra_).1 | exact (right_sq ra_).2.1 | exact (right_sq ra_).2.2.1 | exact (right_sq ra_).2.2.2.2 | exact (right_sq rb_).1 | exact (right_sq rb_).2.1 | exact (right_sq rb_).2.2.1 | exact (right_sq rb_).2.2.2.2) (by first | exact (right_sq ra_).1 | exact (right_sq ra_).2.1 | exact (right_sq ra_).2.2.1 | exact (right_sq ra_).2.2.2.2 | exact (right_sq rb_).1 | exact (right_sq rb_).2.1 | exact (right_sq rb_).2.2.1 | exact (right_sq rb_).2.2.2.2) (by first | exact (right_sq ra_).1 | exact (right_sq ra_).2.1 | exact (right_sq ra_).2.2.1 | exact (right_sq ra_).2.2.2.2 | exact (right_sq rb_).1 | exact (right_sq rb_).2.1 | exact (right_sq rb_).2.2.1 | exact (right_sq rb_).2.2.2.2) (by first | exact (right_sq ra_).1 | exact (right_sq ra_).2.1 | exact (right_sq ra_).2.2.1 | exact (right_sq ra_).2.2.2.2 | exact (right_sq rb_).1 | exact (right_sq rb_).2.1 | exact (right_sq rb_).2.2.1 | exact (right_sq rb_).2.2.2.2) (by first | exact (right_sq ra_).1 | exact (right_sq ra_).2.1 | exact (right_sq ra_).2.2.1 | exact (right_sq ra_).2.2.2.2 | exact (right_sq rb_).1 | exact (right_sq rb_).2.1 | exact (right_sq rb_).2.2.1 | exact (right_sq rb_).2.2.2.2)
              refine ca go62 rfl (ec rfl (ec rfl e0)) cc10 ?_
              rintro _ w40 ⟨a3, c3, rfl, xt37, rv3⟩
              have H26 := H25.ownsG rv3
              refine k (mv (v := .tuple #[.agg #[.int .i64 (orMN an bn), .slice a3 (orMR an ar bn br).length c3], .int .i64 (orME an bn)]) rfl rfl (k (xt rfl rfl rfl (k (xt rfl rfl rfl (k (al H26 ty38 ?_)))))))
              intro bb8 w41 xt38 (H27 : HI M w w41 [box bb8 #[.int .i64 0, .slice none 0 0] 38, own w.heap.size 22 (.slice a3 (orMR an ar bn br).length c3) (orMR an ar bn br), box bb7 #[.int .i64 (orMN an bn), .slice a2 (orMR an ar bn br).length c2] 38, own w.heap.size 22 (.slice a2 (orMR an ar bn br).length c2) (orMR an ar bn br), box bb6 #[.int .i64 (setMN an i j), .slice a1 (setMR an ar i j).length c1] 38, own w.heap.size 22 (.slice a1 (setMR an ar i j).length c1) (setMR an ar i j), box bb5 #[.int .i64 (setMN an i j), .slice a0 (setMR an ar i j).length c0] 38, own w.heap.size 22 (.slice a0 (setMR an ar i j).length c0) (setMR an ar i j), box (B0 8) #[.int .i64 an, .slice a_ar ar.length c_ar] 38, box (B0 9) #[.int .i64 bn, .slice a_br br.length c_br] 38, box bb0 #[.int .i64 an, .slice a_ar ar.length c_ar, .int .i64 bn, .slice a_br br.length c_br, .int .i64 i, .int .i64 j] 63, imm (.slice a_br br.length c_br) br, imm (.slice a_ar ar.length c_ar) ar])
              refine k (stX H27 0 rfl ty38 rfl rfl rfl rfl rfl rfl rfl ?_)
              intro w42 (H28 : HI M w w42 [box bb8 #[.int .i64 (orMN an bn), .slice a3 (orMR an ar bn br).length c3] 38, own w.heap.size 22 (.slice a3 (orMR an ar bn br).length c3) (orMR an ar bn br), box bb7 #[.int .i64 (orMN an bn), .slice a2 (orMR an ar bn br).length c2] 38, own w.heap.size 22 (.slice a2 (orMR an ar bn br).length c2) (orMR an ar bn br), box bb6 #[.int .i64 (setMN an i j), .slice a1 (setMR an ar i j).length c1] 38, own w.heap.size 22 (.slice a1 (setMR an ar i j).length c1) (setMR an ar i j), box bb5 #[.int .i64 (setMN an i j), .slice a0 (setMR an ar i j).length c0] 38, own w.heap.size 22 (.slice a0 (setMR an ar i j).length c0) (setMR an ar i j), box (B0 8) #[.int .i64 an, .slice a_ar ar.length c_ar] 38, box (B0 9) #[.int .i64 bn, .slice a_br br.length c_br] 38, box bb0 #[.int .i64 an, .slice a_ar ar.length c_ar, .int .i64 bn, .slice a_br br.length c_br, .int .i64 i, .int .i64 j] 63, imm (.slice a_br br.length c_br) br, imm (.slice a_ar ar.length c_ar) ar])
              refine k (asg (v := .int .i64 (orME an bn)) rfl rfl (z (nx (sq ?_))))
              refine dr 61 [fun (v : Value) (w' : World) => v = .bool true, fun (v : Value) (w' : World) => v = .bool true, fun (v : Value) (w' : World) => v = .agg #[.int .i64 an, .slice a_ar ar.length c_ar], fun (v : Value) (w' : World) => v = .int .i64 i, fun (v : Value) (w' : World) => v = .int .i64 j, fun (v : Value) (w' : World) => v = .bool (hasM an ar i j), fun (v : Value) (w' : World) => v = .agg #[.int .i64 an, .slice a_ar ar.length c_ar], fun (v : Value) (w' : World) => v = .int .i64 i, fun (v : Value) (w' : World) => v = .int .i64 j, fun (v : Value) (w' : World) => v = .bool (hasM an ar i j), fun (v : Value) (w' : World) => v = .bool ((hasM an ar i j) == (hasM an ar i j)), fun (v : Value) (w' : World) => v = .bool ((hasM an ar i j) == (hasM an ar i j)), fun (v : Value) (w' : World) => v = .bool ((hasM an ar i j) == (hasM an ar i j)), fun (v : Value) (w' : World) => v = .agg #[.int .i64 (setMN an i j), .slice a0 (setMR an ar i j).length c0], fun (v : Value) (w' : World) => v = .agg #[.int .i64 (setMN an i j), .slice a1 (setMR an ar i j).length c1], fun (v : Value) (w' : World) => v = .bool (eqM (setMN an i j) (setMR an ar i j) (setMN an i j) (setMR an ar i j)), fun (v : Value) (w' : World) => v = .bool (eqM (setMN an i j) (setMR an ar i j) (setMN an i j) (setMR an ar i j)), fun (v : Value) (w' : World) => v = .bool (eqM (setMN an i j) (setMR an ar i j) (setMN an i j) (setMR an ar i j)), fun (v : Value) (w' : World) => v = .int .i64 (setME an i j), fun (v : Value) (w' : World) => v = .int .i64 (setME an i j), fun (v : Value) (w' : World) => v = .bool (decide ((setME an i j) = (setME an i j))), fun (v : Value) (w' : World) => v = .bool (decide ((setME an i j) = (setME an i j))), fun (v : Value) (w' : World) => v = .bool (decide ((setME an i j) = (setME an i j))), fun (v : Value) (w' : World) => v = .agg #[.int .i64 (orMN an bn), .slice a2 (orMR an ar bn br).length c2], fun (v : Value) (w' : World) => v = .agg #[.int .i64 (orMN an bn), .slice a3 (orMR an ar bn br).length c3], fun (v : Value) (w' : World) => v = .bool (eqM (orMN an bn) (orMR an ar bn br) (orMN an bn) (orMR an ar bn br)), fun (v : Value) (w' : World) => v = .bool (eqM (orMN an bn) (orMR an ar bn br) (orMN an bn) (orMR an ar bn br)), fun (v : Value) (w' : World) => v = .bool (eqM (orMN an bn) (orMR an ar bn br) (orMN an bn) (orMR an ar bn br)), fun (v : Value) (w' : World) => v = .int .i64 (orME an bn), fun (v : Value) (w' : World) => v = .int .i64 (orME an bn), fun (v : Value) (w' : World) => v = .bool (decide ((orME an bn) = (orME an bn))), fun (v : Value) (w' : World) => v = .bool (decide ((orME an bn) = (orME an bn))), fun (v : Value) (w' : World) => v = .bool (decide ((orME an bn) = (orME an bn))), fun (v : Value) (w' : World) => v = .agg #[.int .i64 an, .slice a_ar ar.length c_ar], fun (v : Value) (w' : World) => ∃ (a4 : Option Addr) (c4 : Nat), v = .slice a4 (pairsM an ar).length c4 ∧ RV (MS M [box bb8 #[.int .i64 (orMN an bn), .slice a3 (orMR an ar bn br).length c3] 38, own w.heap.size 22 (.slice a3 (orMR an ar bn br).length c3) (orMR an ar bn br), box bb7 #[.int .i64 (orMN an bn), .slice a2 (orMR an ar bn br).length c2] 38, own w.heap.size 22 (.slice a2 (orMR an ar bn br).length c2) (orMR an ar bn br), box bb6 #[.int .i64 (setMN an i j), .slice a1 (setMR an ar i j).length c1] 38, own w.heap.size 22 (.slice a1 (setMR an ar i j).length c1) (setMR an ar i j), box bb5 #[.int .i64 (setMN an i j), .slice a0 (setMR an ar i j).length c0] 38, own w.heap.size 22 (.slice a0 (setMR an ar i j).length c0) (setMR an ar i j), box (B0 8) #[.int .i64 an, .slice a_ar ar.length c_ar] 38, box (B0 9) #[.int .i64 bn, .slice a_br br.length c_br] 38, box bb0 #[.int .i64 an, .slice a_ar ar.length c_ar, .int .i64 bn, .slice a_br br.length c_br, .int .i64 i, .int .i64 j] 63, imm (.slice a_br br.length c_br) br, imm (.slice a_ar ar.length c_ar) ar]) w' (.slice a4 (pairsM an ar).length c4) (pairsM an ar), fun (v : Value) (w' : World) => v = .agg #[.int .i64 an, .slice a_ar ar.length c_ar], fun (v : Value) (w' : World) => ∃ (a5 : Option Addr) (c5 : Nat), v = .slice a5 (pairsM an ar).length c5 ∧ RV (MS M [box bb8 #[.int .i64 (orMN an bn), .slice a3 (orMR an ar bn br).length c3] 38, own w.heap.size 22 (.slice a3 (orMR an ar bn br).length c3) (orMR an ar bn br), box bb7 #[.int .i64 (orMN an bn), .slice a2 (orMR an ar bn br).length c2] 38, own w.heap.size 22 (.slice a2 (orMR an ar bn br).length c2) (orMR an ar bn br), box bb6 #[.int .i64 (setMN an i j), .slice a1 (setMR an ar i j).length c1] 38, own w.heap.size 22 (.slice a1 (setMR an ar i j).length c1) (setMR an ar i j), box bb5 #[.int .i64 (setMN an i j), .slice a0 (setMR an ar i j).length c0] 38, own w.heap.size 22 (.slice a0 (setMR an ar i j).length c0) (setMR an ar i j), box (B0 8) #[.int .i64 an, .slice a_ar ar.length c_ar] 38, box (B0 9) #[.int .i64 bn, .slice a_br br.length c_br] 38, box bb0 #[.int .i64 an, .slice a_ar ar.length c_ar, .int .i64 bn, .slice a_br br.length c_br, .int .i64 i, .int .i64 j] 63, imm (.slice a_br br.length c_br) br, imm (.slice a_ar ar.length c_ar) ar]) w' (.slice a5 (pairsM an ar).length c5) (pairsM an ar), fun (v : Value) (w' : World) => v = .bool (decide ((pairsM an ar) = (pairsM an ar))), fun (v : Value) (w' : World) => v = .bool (decide ((pairsM an ar) = (pairsM an ar))), fun (v : Value) (w' : World) => v = .bool (decide ((pairsM an ar) = (pairsM an ar))), fun (v : Value) (w' : World) => v = .agg #[.int .i64 an, .slice a_ar ar.length c_ar], fun (v : Value) (w' : World) => ∃ (a6 : Option Addr) (c6 : Nat), v = .agg #[.int .i64 an, .slice a6 (turnM an ar).length c6] ∧ RV (MS M [box bb8 #[.int .i64 (orMN an bn), .slice a3 (orMR an ar bn br).length c3] 38, own w.heap.size 22 (.slice a3 (orMR an ar bn br).length c3) (orMR an ar bn br), box bb7 #[.int .i64 (orMN an bn), .slice a2 (orMR an ar bn br).length c2] 38, own w.heap.size 22 (.slice a2 (orMR an ar bn br).length c2) (orMR an ar bn br), box bb6 #[.int .i64 (setMN an i j), .slice a1 (setMR an ar i j).length c1] 38, own w.heap.size 22 (.slice a1 (setMR an ar i j).length c1) (setMR an ar i j), box bb5 #[.int .i64 (setMN an i j), .slice a0 (setMR an ar i j).length c0] 38, own w.heap.size 22 (.slice a0 (setMR an ar i j).length c0) (setMR an ar i j), box (B0 8) #[.int .i64 an, .slice a_ar ar.length c_ar] 38, box (B0 9) #[.int .i64 bn, .slice a_br br.length c_br] 38, box bb0 #[.int .i64 an, .slice a_ar ar.length c_ar, .int .i64 bn, .slice a_br br.length c_br, .int .i64 i, .int .i64 j] 63, imm (.slice a_br br.length c_br) br, imm (.slice a_ar ar.length c_ar) ar]) w' (.slice a6 (turnM an ar).length c6) (turnM an ar), fun (v : Value) (w' : World) => v = .agg #[.int .i64 an, .slice a_ar ar.length c_ar], fun (v : Value) (w' : World) => ∃ (a7 : Option Addr) (c7 : Nat), v = .agg #[.int .i64 an, .slice a7 (turnM an ar).length c7] ∧ RV (MS M [box bb8 #[.int .i64 (orMN an bn), .slice a3 (orMR an ar bn br).length c3] 38, own w.heap.size 22 (.slice a3 (orMR an ar bn br).length c3) (orMR an ar bn br), box bb7 #[.int .i64 (orMN an bn), .slice a2 (orMR an ar bn br).length c2] 38, own w.heap.size 22 (.slice a2 (orMR an ar bn br).length c2) (orMR an ar bn br), box bb6 #[.int .i64 (setMN an i j), .slice a1 (setMR an ar i j).length c1] 38, own w.heap.size 22 (.slice a1 (setMR an ar i j).length c1) (setMR an ar i j), box bb5 #[.int .i64 (setMN an i j), .slice a0 (setMR an ar i j).length c0] 38, own w.heap.size 22 (.slice a0 (setMR an ar i j).length c0) (setMR an ar i j), box (B0 8) #[.int .i64 an, .slice a_ar ar.length c_ar] 38, box (B0 9) #[.int .i64 bn, .slice a_br br.length c_br] 38, box bb0 #[.int .i64 an, .slice a_ar ar.length c_ar, .int .i64 bn, .slice a_br br.length c_br, .int .i64 i, .int .i64 j] 63, imm (.slice a_br br.length c_br) br, imm (.slice a_ar ar.length c_ar) ar]) w' (.slice a7 (turnM an ar).length c7) (turnM an ar), fun (v : Value) (w' : World) => v = .bool (eqM an (turnM an ar) an (turnM an ar)), fun (v : Value) (w' : World) => v = .bool (eqM an (turnM an ar) an (turnM an ar)), fun (v : Value) (w' : World) => v = .bool (eqM an (turnM an ar) an (turnM an ar)), fun (v : Value) (w' : World) => v = .agg #[.int .i64 an, .slice a_ar ar.length c_ar], fun (v : Value) (w' : World) => v = .agg #[.int .i64 bn, .slice a_br br.length c_br], fun (v : Value) (w' : World) => v = .bool (subM an ar bn br), fun (v : Value) (w' : World) => v = .agg #[.int .i64 an, .slice a_ar ar.length c_ar], fun (v : Value) (w' : World) => v = .agg #[.int .i64 bn, .slice a_br br.length c_br], fun (v : Value) (w' : World) => v = .bool (subM an ar bn br), fun (v : Value) (w' : World) => v = .bool ((subM an ar bn br) == (subM an ar bn br)), fun (v : Value) (w' : World) => v = .bool ((subM an ar bn br) == (subM an ar bn br)), fun (v : Value) (w' : World) => v = .bool ((subM an ar bn br) == (subM an ar bn br)), fun (v : Value) (w' : World) => v = .agg #[.int .i64 an, .slice a_ar ar.length c_ar], fun (v : Value) (w' : World) => v = .agg #[.int .i64 bn, .slice a_br br.length c_br], fun (v : Value) (w' : World) => v = .bool (sameM an ar bn br), fun (v : Value) (w' : World) => v = .agg #[.int .i64 an, .slice a_ar ar.length c_ar], fun (v : Value) (w' : World) => v = .agg #[.int .i64 bn, .slice a_br br.length c_br]] rfl (by kernel_rfl) ?_ ?_
              ·
                refine ⟨fun _ => ⟨fun f19 w57 hf17 xt53 hp17 => ?_, fun _ _ _ _ h => h⟩, ?_⟩
                ·
                  have H51 := H28.ext xt53
                  have cc25 := awake03 (w := w57)
                  refine ca go35 rfl e0 cc25 ?_
                  rintro _ w58 ⟨rfl, xt54⟩
                  have H52 := H51.ext xt54
                  exact ⟨_, rfl, xt54, rfl⟩
                refine ⟨fun _ => ⟨fun f20 w59 hf18 xt55 hp18 => ?_, fun _ _ _ _ h => h⟩, ?_⟩
                ·
                  have H53 := H28.ext xt55
                  have s21 : f20 72 = .bool true := hp18 0 rfl rfl
                  refine mv rfl s21 ?_
                  exact ⟨_, rfl, Ext.refl _, rfl⟩
                refine ⟨fun _ => ⟨fun f21 w60 hf19 xt56 hp19 => ?_, fun _ _ _ _ h => h⟩, ?_⟩
                ·
                  have H54 := H28.ext xt56
                  have s22 : f21 73 = .bool true := hp19 1 rfl rfl
                  refine gy rfl rfl s22 rfl (ldX H54 8 rfl ty38 rfl ((hf19 3 rfl).trans s15) (by decide) rfl ?_)
                  exact ⟨_, rfl, Ext.refl _, rfl⟩
                refine ⟨fun _ => ⟨fun f22 w61 hf20 xt57 hp20 => ?_, fun _ _ _ _ h => h⟩, ?_⟩
                ·
                  have H55 := H28.ext xt57
                  have s23 : f22 73 = .bool true := hp20 1 rfl rfl
                  refine gy rfl rfl s23 rfl (mv rfl ((hf20 5 rfl).trans s17) ?_)
                  exact ⟨_, rfl, Ext.refl _, rfl⟩
                refine ⟨fun _ => ⟨fun f23 w62 hf21 xt58 hp21 => ?_, fun _ _ _ _ h => h⟩, ?_⟩
                ·
                  have H56 := H28.ext xt58
                  have s24 : f23 73 = .bool true := hp21 1 rfl rfl
                  refine gy rfl rfl s24 rfl (mv rfl ((hf21 6 rfl).trans s18) ?_)
                  exact ⟨_, rfl, Ext.refl _, rfl⟩
                refine ⟨fun _ => ⟨fun f24 w63 hf22 xt59 hp22 => ?_, fun _ _ _ _ h => h⟩, ?_⟩
                ·
                  have H57 := H28.ext xt59
                  have s25 : f24 73 = .bool true := hp22 1 rfl rfl
                  have s26 : f24 74 = .agg #[.int .i64 an, .slice a_ar ar.length c_ar] := hp22 2 rfl rfl
                  have s27 : f24 75 = .int .i64 i := hp22 3 rfl rfl
                  have s28 : f24 76 = .int .i64 j := hp22 4 rfl rfl
                  refine gy rfl rfl s25 rfl ?_
                  have cc26 := mat_Has (mn := an) (mr := ar) (i := i) (j := j) (w := w63) H57.mb (by unfold I64 at *; omega) (H57.rv 12 rfl) (by unfold I64 at *; omega) (by unfold I64 at *; omega) (by first | exact (right_sq ra_).1 | exact (right_sq ra_).2.1 | exact (right_sq ra_).2.2.1 | exact (right_sq ra_).2.2.2.2 | exact (right_sq rb_).1 | exact (right_sq rb_).2.1 | exact (right_sq rb_).2.2.1 | exact (right_sq rb_).2.2.2.2) (by first | exact (right_sq ra_).1 | exact (right_sq ra_).2.1 | exact (right_sq ra_).2.2.1 | exact (right_sq ra_).2.2.2.2 | exact (right_sq rb_).1 | exact (right_sq rb_).2.1 | exact (right_sq rb_).2.2.1 | exact (right_sq rb_).2.2.2.2) (by first | exact (right_sq ra_).1 | exact (right_sq ra_).2.1 | exact (right_sq ra_).2.2.1 | exact (right_sq ra_).2.2.2.2 | exact (right_sq rb_).1 | exact (right_sq rb_).2.1 | exact (right_sq rb_).2.2.1 | exact (right_sq rb_).2.2.2.2)
                  refine ca go40 rfl (ec s26 (ec s27 (ec s28 e0))) cc26 ?_
                  rintro _ w64 ⟨rfl, xt60⟩
                  have H58 := H57.ext xt60
                  exact ⟨_, rfl, xt60, rfl⟩
                refine ⟨fun _ => ⟨fun f25 w65 hf23 xt61 hp23 => ?_, fun _ _ _ _ h => h⟩, ?_⟩
                ·
                  have H59 := H28.ext xt61
                  have s29 : f25 73 = .bool true := hp23 1 rfl rfl
                  refine gy rfl rfl s29 rfl (ldX H59 8 rfl ty38 rfl ((hf23 3 rfl).trans s15) (by decide) rfl ?_)
                  exact ⟨_, rfl, Ext.refl _, rfl⟩
                refine ⟨fun _ => ⟨fun f26 w66 hf24 xt62 hp24 => ?_, fun _ _ _ _ h => h⟩, ?_⟩
                ·
                  have H60 := H28.ext xt62
                  have s30 : f26 73 = .bool true := hp24 1 rfl rfl
                  refine gy rfl rfl s30 rfl (mv rfl ((hf24 5 rfl).trans s17) ?_)
                  exact ⟨_, rfl, Ext.refl _, rfl⟩
                refine ⟨fun _ => ⟨fun f27 w67 hf25 xt63 hp25 => ?_, fun _ _ _ _ h => h⟩, ?_⟩
                ·
                  have H61 := H28.ext xt63
                  have s31 : f27 73 = .bool true := hp25 1 rfl rfl
                  refine gy rfl rfl s31 rfl (mv rfl ((hf25 6 rfl).trans s18) ?_)
                  exact ⟨_, rfl, Ext.refl _, rfl⟩
                refine ⟨fun _ => ⟨fun f28 w68 hf26 xt64 hp26 => ?_, fun _ _ _ _ h => h⟩, ?_⟩
                ·
                  have H62 := H28.ext xt64
                  have s32 : f28 73 = .bool true := hp26 1 rfl rfl
                  have s33 : f28 78 = .agg #[.int .i64 an, .slice a_ar ar.length c_ar] := hp26 6 rfl rfl
                  have s34 : f28 79 = .int .i64 i := hp26 7 rfl rfl
                  have s35 : f28 80 = .int .i64 j := hp26 8 rfl rfl
                  refine gy rfl rfl s32 rfl ?_
                  have cc27 := ref03_Has (mn := an) (mr := ar) (i := i) (j := j) (w := w68) H62.mb (by unfold I64 at *; omega) (H62.rv 12 rfl) (by unfold I64 at *; omega) (by unfold I64 at *; omega) (by first | exact (right_sq ra_).1 | exact (right_sq ra_).2.1 | exact (right_sq ra_).2.2.1 | exact (right_sq ra_).2.2.2.2 | exact (right_sq rb_).1 | exact (right_sq rb_).2.1 | exact (right_sq rb_).2.2.1 | exact (right_sq rb_).2.2.2.2) (by first | exact (right_sq ra_).1 | exact (right_sq ra_).2.1 | exact (right_sq ra_).2.2.1 | exact (right_sq ra_).2.2.2.2 | exact (right_sq rb_).1 | exact (right_sq rb_).2.1 | exact (right_sq rb_).2.2.1 | exact (right_sq rb_).2.2.2.2) (by first | exact (right_sq ra_).1 | exact (right_sq ra_).2.1 | exact (right_sq ra_).2.2.1 | exact (right_sq ra_).2.2.2.2 | exact (right_sq rb_).1 | exact (right_sq rb_).2.1 | exact (right_sq rb_).2.2.1 | exact (right_sq rb_).2.2.2.2)
                  refine ca go63 rfl (ec s33 (ec s34 (ec s35 e0))) cc27 ?_
                  rintro _ w69 ⟨rfl, xt65⟩
                  have H63 := H62.ext xt65
                  exact ⟨_, rfl, xt65, rfl⟩
                refine ⟨fun _ => ⟨fun f29 w70 hf27 xt66 hp27 => ?_, fun _ _ _ _ h => h⟩, ?_⟩
                ·
                  have H64 := H28.ext xt66
                  have s36 : f29 73 = .bool true := hp27 1 rfl rfl
                  have s37 : f29 77 = .bool (hasM an ar i j) := hp27 5 rfl rfl
                  have s38 : f29 81 = .bool (hasM an ar i j) := hp27 9 rfl rfl
                  refine gy rfl rfl s36 rfl (eqB rfl rfl s37 s38 un4 ?_)
                  exact ⟨_, rfl, Ext.refl _, rfl⟩
                refine ⟨fun _ => ⟨fun f30 w71 hf28 xt67 hp28 => ?_, fun _ _ _ _ h => h⟩, ?_⟩
                ·
                  have H65 := H28.ext xt67
                  have s39 : f30 73 = .bool true := hp28 1 rfl rfl
                  have s40 : f30 82 = .bool ((hasM an ar i j) == (hasM an ar i j)) := hp28 10 rfl rfl
                  refine pickT rfl rfl rfl s39 rfl s40 ?_
                  exact ⟨_, rfl, Ext.refl _, rfl⟩
                refine ⟨fun _ => ⟨fun f31 w72 hf29 xt68 hp29 => ?_, fun _ _ _ _ h => h⟩, ?_⟩
                ·
                  have H66 := H28.ext xt68
                  have s41 : f31 83 = .bool ((hasM an ar i j) == (hasM an ar i j)) := hp29 11 rfl rfl
                  refine mv rfl s41 ?_
                  exact ⟨_, rfl, Ext.refl _, rfl⟩
                refine ⟨fun _ => ⟨fun f32 w73 hf30 xt69 hp30 => ?_, fun _ _ _ _ h => h⟩, ?_⟩
                ·
                  have H67 := H28.ext xt69
                  have s42 : f32 84 = .bool ((hasM an ar i j) == (hasM an ar i j)) := hp30 12 rfl rfl
                  have tr6 : ((hasM an ar i j) == (hasM an ar i j)) = true := (by simp)
                  refine gy rfl rfl s42 tr6 (ldX H67 6 rfl ty38 rfl (hf30 7 rfl) (by decide) rfl ?_)
                  exact ⟨_, rfl, Ext.refl _, rfl⟩
                refine ⟨fun _ => ⟨fun f33 w74 hf31 xt70 hp31 => ?_, fun _ _ _ _ h => h⟩, ?_⟩
                ·
                  have H68 := H28.ext xt70
                  have s43 : f33 84 = .bool ((hasM an ar i j) == (hasM an ar i j)) := hp31 12 rfl rfl
                  have tr7 : ((hasM an ar i j) == (hasM an ar i j)) = true := (by simp)
                  refine gy rfl rfl s43 tr7 (ldX H68 4 rfl ty38 rfl (hf31 9 rfl) (by decide) rfl ?_)
                  exact ⟨_, rfl, Ext.refl _, rfl⟩
                refine ⟨fun _ => ⟨fun f34 w75 hf32 xt71 hp32 => ?_, fun _ _ _ _ h => h⟩, ?_⟩
                ·
                  have H69 := H28.ext xt71
                  have s44 : f34 84 = .bool ((hasM an ar i j) == (hasM an ar i j)) := hp32 12 rfl rfl
                  have s45 : f34 85 = .agg #[.int .i64 (setMN an i j), .slice a0 (setMR an ar i j).length c0] := hp32 13 rfl rfl
                  have s46 : f34 86 = .agg #[.int .i64 (setMN an i j), .slice a1 (setMR an ar i j).length c1] := hp32 14 rfl rfl
                  have tr8 : ((hasM an ar i j) == (hasM an ar i j)) = true := (by simp)
                  refine gy rfl rfl s44 tr8 ?_
                  have H70 := H69.freeze 7 rfl
                  have H71 := H70.freeze 5 rfl
                  have cc28 := ref03_Equal (an := (setMN an i j)) (ar := (setMR an ar i j)) (bn := (setMN an i j)) (br := (setMR an ar i j)) (w := w75) H71.mb (by unfold setMN; unfold I64 at *; split <;> omega) (H71.rv 7 rfl) (by unfold setMN; unfold I64 at *; split <;> omega) (H71.rv 5 rfl)
                  refine ca go39 rfl (ec s45 (ec s46 e0)) cc28 ?_
                  rintro _ w76 ⟨rfl, xt72⟩
                  have H72 := H69.ext xt72
                  exact ⟨_, rfl, xt72, rfl⟩
                refine ⟨fun _ => ⟨fun f35 w77 hf33 xt73 hp33 => ?_, fun _ _ _ _ h => h⟩, ?_⟩
                ·
                  have H73 := H28.ext xt73
                  have s47 : f35 84 = .bool ((hasM an ar i j) == (hasM an ar i j)) := hp33 12 rfl rfl
                  have s48 : f35 87 = .bool (eqM (setMN an i j) (setMR an ar i j) (setMN an i j) (setMR an ar i j)) := hp33 15 rfl rfl
                  have tr9 : ((hasM an ar i j) == (hasM an ar i j)) = true := (by simp)
                  refine pickT rfl rfl rfl s47 tr9 s48 ?_
                  exact ⟨_, rfl, Ext.refl _, rfl⟩
                refine ⟨fun _ => ⟨fun f36 w78 hf34 xt74 hp34 => ?_, fun _ _ _ _ h => h⟩, ?_⟩
                ·
                  have H74 := H28.ext xt74
                  have s49 : f36 88 = .bool (eqM (setMN an i j) (setMR an ar i j) (setMN an i j) (setMR an ar i j)) := hp34 16 rfl rfl
                  refine mv rfl s49 ?_
                  exact ⟨_, rfl, Ext.refl _, rfl⟩
                refine ⟨fun _ => ⟨fun f37 w79 hf35 xt75 hp35 => ?_, fun _ _ _ _ h => h⟩, ?_⟩
                ·
                  have H75 := H28.ext xt75
                  have s50 : f37 89 = .bool (eqM (setMN an i j) (setMR an ar i j) (setMN an i j) (setMR an ar i j)) := hp35 17 rfl rfl
                  refine gy rfl rfl s50 (eqM_refl _ _) (mv rfl (hf35 8 rfl) ?_)
                  exact ⟨_, rfl, Ext.refl _, rfl⟩
                refine ⟨fun _ => ⟨fun f38 w80 hf36 xt76 hp36 => ?_, fun _ _ _ _ h => h⟩, ?_⟩
                ·
                  have H76 := H28.ext xt76
                  have s51 : f38 89 = .bool (eqM (setMN an i j) (setMR an ar i j) (setMN an i j) (setMR an ar i j)) := hp36 17 rfl rfl
                  refine gy rfl rfl s51 (eqM_refl _ _) (mv rfl (hf36 10 rfl) ?_)
                  exact ⟨_, rfl, Ext.refl _, rfl⟩
                refine ⟨fun _ => ⟨fun f39 w81 hf37 xt77 hp37 => ?_, fun _ _ _ _ h => h⟩, ?_⟩
                ·
                  have H77 := H28.ext xt77
                  have s52 : f39 89 = .bool (eqM (setMN an i j) (setMR an ar i j) (setMN an i j) (setMR an ar i j)) := hp37 17 rfl rfl
                  have s53 : f39 90 = .int .i64 (setME an i j) := hp37 18 rfl rfl
                  have s54 : f39 91 = .int .i64 (setME an i j) := hp37 19 rfl rfl
                  refine gy rfl rfl s52 (eqM_refl _ _) (eql rfl rfl s53 s54 ?_)
                  exact ⟨_, rfl, Ext.refl _, rfl⟩
                refine ⟨fun _ => ⟨fun f40 w82 hf38 xt78 hp38 => ?_, fun _ _ _ _ h => h⟩, ?_⟩
                ·
                  have H78 := H28.ext xt78
                  have s55 : f40 89 = .bool (eqM (setMN an i j) (setMR an ar i j) (setMN an i j) (setMR an ar i j)) := hp38 17 rfl rfl
                  have s56 : f40 92 = .bool (decide ((setME an i j) = (setME an i j))) := hp38 20 rfl rfl
                  refine pickT rfl rfl rfl s55 (eqM_refl _ _) s56 ?_
                  exact ⟨_, rfl, Ext.refl _, rfl⟩
                refine ⟨fun _ => ⟨fun f41 w83 hf39 xt79 hp39 => ?_, fun _ _ _ _ h => h⟩, ?_⟩
                ·
                  have H79 := H28.ext xt79
                  have s57 : f41 93 = .bool (decide ((setME an i j) = (setME an i j))) := hp39 21 rfl rfl
                  refine mv rfl s57 ?_
                  exact ⟨_, rfl, Ext.refl _, rfl⟩
                refine ⟨fun _ => ⟨fun f42 w84 hf40 xt80 hp40 => ?_, fun _ _ _ _ h => h⟩, ?_⟩
                ·
                  have H80 := H28.ext xt80
                  have s58 : f42 94 = .bool (decide ((setME an i j) = (setME an i j))) := hp40 22 rfl rfl
                  have tr10 : (decide ((setME an i j) = (setME an i j))) = true := (by simp)
                  refine gy rfl rfl s58 tr10 (ldX H80 2 rfl ty38 rfl (hf40 11 rfl) (by decide) rfl ?_)
                  exact ⟨_, rfl, Ext.refl _, rfl⟩
                refine ⟨fun _ => ⟨fun f43 w85 hf41 xt81 hp41 => ?_, fun _ _ _ _ h => h⟩, ?_⟩
                ·
                  have H81 := H28.ext xt81
                  have s59 : f43 94 = .bool (decide ((setME an i j) = (setME an i j))) := hp41 22 rfl rfl
                  have tr11 : (decide ((setME an i j) = (setME an i j))) = true := (by simp)
                  refine gy rfl rfl s59 tr11 (ldX H81 0 rfl ty38 rfl (hf41 13 rfl) (by decide) rfl ?_)
                  exact ⟨_, rfl, Ext.refl _, rfl⟩
                refine ⟨fun _ => ⟨fun f44 w86 hf42 xt82 hp42 => ?_, fun _ _ _ _ h => h⟩, ?_⟩
                ·
                  have H82 := H28.ext xt82
                  have s60 : f44 94 = .bool (decide ((setME an i j) = (setME an i j))) := hp42 22 rfl rfl
                  have s61 : f44 95 = .agg #[.int .i64 (orMN an bn), .slice a2 (orMR an ar bn br).length c2] := hp42 23 rfl rfl
                  have s62 : f44 96 = .agg #[.int .i64 (orMN an bn), .slice a3 (orMR an ar bn br).length c3] := hp42 24 rfl rfl
                  have tr12 : (decide ((setME an i j) = (setME an i j))) = true := (by simp)
                  refine gy rfl rfl s60 tr12 ?_
                  have H83 := H82.freeze 3 rfl
                  have H84 := H83.freeze 1 rfl
                  have cc29 := ref03_Equal (an := (orMN an bn)) (ar := (orMR an ar bn br)) (bn := (orMN an bn)) (br := (orMR an ar bn br)) (w := w86) H84.mb (by unfold orMN; unfold I64 at *; split <;> omega) (H84.rv 3 rfl) (by unfold orMN; unfold I64 at *; split <;> omega) (H84.rv 1 rfl)
                  refine ca go39 rfl (ec s61 (ec s62 e0)) cc29 ?_
                  rintro _ w87 ⟨rfl, xt83⟩
                  have H85 := H82.ext xt83
                  exact ⟨_, rfl, xt83, rfl⟩
                refine ⟨fun _ => ⟨fun f45 w88 hf43 xt84 hp43 => ?_, fun _ _ _ _ h => h⟩, ?_⟩
                ·
                  have H86 := H28.ext xt84
                  have s63 : f45 94 = .bool (decide ((setME an i j) = (setME an i j))) := hp43 22 rfl rfl
                  have s64 : f45 97 = .bool (eqM (orMN an bn) (orMR an ar bn br) (orMN an bn) (orMR an ar bn br)) := hp43 25 rfl rfl
                  have tr13 : (decide ((setME an i j) = (setME an i j))) = true := (by simp)
                  refine pickT rfl rfl rfl s63 tr13 s64 ?_
                  exact ⟨_, rfl, Ext.refl _, rfl⟩
                refine ⟨fun _ => ⟨fun f46 w89 hf44 xt85 hp44 => ?_, fun _ _ _ _ h => h⟩, ?_⟩
                ·
                  have H87 := H28.ext xt85
                  have s65 : f46 98 = .bool (eqM (orMN an bn) (orMR an ar bn br) (orMN an bn) (orMR an ar bn br)) := hp44 26 rfl rfl
                  refine mv rfl s65 ?_
                  exact ⟨_, rfl, Ext.refl _, rfl⟩
                refine ⟨fun _ => ⟨fun f47 w90 hf45 xt86 hp45 => ?_, fun _ _ _ _ h => h⟩, ?_⟩
                ·
                  have H88 := H28.ext xt86
                  have s66 : f47 99 = .bool (eqM (orMN an bn) (orMR an ar bn br) (orMN an bn) (orMR an ar bn br)) := hp45 27 rfl rfl
                  refine gy rfl rfl s66 (eqM_refl _ _) (mv rfl (hf45 12 rfl) ?_)
                  exact ⟨_, rfl, Ext.refl _, rfl⟩
                refine ⟨fun _ => ⟨fun f48 w91 hf46 xt87 hp46 => ?_, fun _ _ _ _ h => h⟩, ?_⟩
                ·
                  have H89 := H28.ext xt87
                  have s67 : f48 99 = .bool (eqM (orMN an bn) (orMR an ar bn br) (orMN an bn) (orMR an ar bn br)) := hp46 27 rfl rfl
                  refine gy rfl rfl s67 (eqM_refl _ _) (mv rfl (hf46 14 rfl) ?_)
                  exact ⟨_, rfl, Ext.refl _, rfl⟩
                refine ⟨fun _ => ⟨fun f49 w92 hf47 xt88 hp47 => ?_, fun _ _ _ _ h => h⟩, ?_⟩
                ·
                  have H90 := H28.ext xt88
                  have s68 : f49 99 = .bool (eqM (orMN an bn) (orMR an ar bn br) (orMN an bn) (orMR an ar bn br)) := hp47 27 rfl rfl
                  have s69 : f49 100 = .int .i64 (orME an bn) := hp47 28 rfl rfl
                  have s70 : f49 101 = .int .i64 (orME an bn) := hp47 29 rfl rfl
                  refine gy rfl rfl s68 (eqM_refl _ _) (eql rfl rfl s69 s70 ?_)
                  exact ⟨_, rfl, Ext.refl _, rfl⟩
                refine ⟨fun _ => ⟨fun f50 w93 hf48 xt89 hp48 => ?_, fun _ _ _ _ h => h⟩, ?_⟩
                ·
                  have H91 := H28.ext xt89
                  have s71 : f50 99 = .bool (eqM (orMN an bn) (orMR an ar bn br) (orMN an bn) (orMR an ar bn br)) := hp48 27 rfl rfl
                  have s72 : f50 102 = .bool (decide ((orME an bn) = (orME an bn))) := hp48 30 rfl rfl
                  refine pickT rfl rfl rfl s71 (eqM_refl _ _) s72 ?_
                  exact ⟨_, rfl, Ext.refl _, rfl⟩
                refine ⟨fun _ => ⟨fun f51 w94 hf49 xt90 hp49 => ?_, fun _ _ _ _ h => h⟩, ?_⟩
                ·
                  have H92 := H28.ext xt90
                  have s73 : f51 103 = .bool (decide ((orME an bn) = (orME an bn))) := hp49 31 rfl rfl
                  refine mv rfl s73 ?_
                  exact ⟨_, rfl, Ext.refl _, rfl⟩
                refine ⟨fun _ => ⟨fun f52 w95 hf50 xt91 hp50 => ?_, fun _ _ _ _ h => h⟩, ?_⟩
                ·
                  have H93 := H28.ext xt91
                  have s74 : f52 104 = .bool (decide ((orME an bn) = (orME an bn))) := hp50 32 rfl rfl
                  have tr14 : (decide ((orME an bn) = (orME an bn))) = true := (by simp)
                  refine gy rfl rfl s74 tr14 (ldX H93 8 rfl ty38 rfl ((hf50 3 rfl).trans s15) (by decide) rfl ?_)
                  exact ⟨_, rfl, Ext.refl _, rfl⟩
                refine ⟨fun _ => ⟨fun f53 w96 hf51 xt92 hp51 => ?_, by rintro _ _ _ x_ ⟨a4, c4, e_, rv4⟩; exact ⟨a4, c4, e_, rv4.lift (Up.ext x_)⟩⟩, ?_⟩
                ·
                  have H94 := H28.ext xt92
                  have s75 : f53 104 = .bool (decide ((orME an bn) = (orME an bn))) := hp51 32 rfl rfl
                  have s76 : f53 105 = .agg #[.int .i64 an, .slice a_ar ar.length c_ar] := hp51 33 rfl rfl
                  have tr15 : (decide ((orME an bn) = (orME an bn))) = true := (by simp)
                  refine gy rfl rfl s75 tr15 ?_
                  have cc30 := mat_Pairs (mn := an) (mr := ar) (w := w96) H94.mb (hT.ext H94.below) (by unfold I64 at *; omega) (H94.rv 12 rfl) (by first | exact (right_sq ra_).1 | exact (right_sq ra_).2.1 | exact (right_sq ra_).2.2.1 | exact (right_sq ra_).2.2.2.2 | exact (right_sq rb_).1 | exact (right_sq rb_).2.1 | exact (right_sq rb_).2.2.1 | exact (right_sq rb_).2.2.2.2) (by first | exact (right_sq ra_).1 | exact (right_sq ra_).2.1 | exact (right_sq ra_).2.2.1 | exact (right_sq ra_).2.2.2.2 | exact (right_sq rb_).1 | exact (right_sq rb_).2.1 | exact (right_sq rb_).2.2.1 | exact (right_sq rb_).2.2.2.2) (by first | exact (right_sq ra_).1 | exact (right_sq ra_).2.1 | exact (right_sq ra_).2.2.1 | exact (right_sq ra_).2.2.2.2 | exact (right_sq rb_).1 | exact (right_sq rb_).2.1 | exact (right_sq rb_).2.2.1 | exact (right_sq rb_).2.2.2.2) (by first | exact (right_sq ra_).1 | exact (right_sq ra_).2.1 | exact (right_sq ra_).2.2.1 | exact (right_sq ra_).2.2.2.2 | exact (right_sq rb_).1 | exact (right_sq rb_).2.1 | exact (right_sq rb_).2.2.1 | exact (right_sq rb_).2.2.2.2)
                  refine ca go37 rfl (ec s76 e0) cc30 ?_
                  rintro _ w97 ⟨a8, c8, rfl, xt93, rv9⟩
                  have H95 := H94.ext xt93
                  have H96 := H95.put (it := imm (.slice a8 (pairsM an ar).length c8) (pairsM an ar)) rfl rv9
                  exact ⟨_, rfl, xt93, ⟨a8, c8, rfl, rv9⟩⟩
                refine ⟨fun _ => ⟨fun f54 w98 hf52 xt94 hp52 => ?_, fun _ _ _ _ h => h⟩, ?_⟩
                ·
                  have H97 := H28.ext xt94
                  have s77 : f54 104 = .bool (decide ((orME an bn) = (orME an bn))) := hp52 32 rfl rfl
                  have tr16 : (decide ((orME an bn) = (orME an bn))) = true := (by simp)
                  refine gy rfl rfl s77 tr16 (ldX H97 8 rfl ty38 rfl ((hf52 3 rfl).trans s15) (by decide) rfl ?_)
                  exact ⟨_, rfl, Ext.refl _, rfl⟩
                refine ⟨fun _ => ⟨fun f55 w99 hf53 xt95 hp53 => ?_, by rintro _ _ _ x_ ⟨a5, c5, e_, rv5⟩; exact ⟨a5, c5, e_, rv5.lift (Up.ext x_)⟩⟩, ?_⟩
                ·
                  have H98 := H28.ext xt95
                  have s78 : f55 104 = .bool (decide ((orME an bn) = (orME an bn))) := hp53 32 rfl rfl
                  have s79 : f55 107 = .agg #[.int .i64 an, .slice a_ar ar.length c_ar] := hp53 35 rfl rfl
                  have tr17 : (decide ((orME an bn) = (orME an bn))) = true := (by simp)
                  refine gy rfl rfl s78 tr17 ?_
                  have cc31 := ref03_Pairs (mn := an) (mr := ar) (w := w99) H98.mb (by unfold I64 at *; omega) (H98.rv 12 rfl) (by first | exact (right_sq ra_).1 | exact (right_sq ra_).2.1 | exact (right_sq ra_).2.2.1 | exact (right_sq ra_).2.2.2.2 | exact (right_sq rb_).1 | exact (right_sq rb_).2.1 | exact (right_sq rb_).2.2.1 | exact (right_sq rb_).2.2.2.2) (by first | exact (right_sq ra_).1 | exact (right_sq ra_).2.1 | exact (right_sq ra_).2.2.1 | exact (right_sq ra_).2.2.2.2 | exact (right_sq rb_).1 | exact (right_sq rb_).2.1 | exact (right_sq rb_).2.2.1 | exact (right_sq rb_).2.2.2.2) (by first | exact (right_sq ra_).1 | exact (right_sq ra_).2.1 | exact (right_sq ra_).2.2.1 | exact (right_sq ra_).2.2.2.2 | exact (right_sq rb_).1 | exact (right_sq rb_).2.1 | exact (right_sq rb_).2.2.1 | exact (right_sq rb_).2.2.2.2) (by first | exact (right_sq ra_).1 | exact (right_sq ra_).2.1 | exact (right_sq ra_).2.2.1 | exact (right_sq ra_).2.2.2.2 | exact (right_sq rb_).1 | exact (right_sq rb_).2.1 | exact (right_sq rb_).2.2.1 | exact (right_sq rb_).2.2.2.2)
                  refine ca go65 rfl (ec s79 e0) cc31 ?_
                  rintro _ w100 ⟨a9, c9, rfl, xt96, rv10⟩
                  have H99 := H98.ext xt96
                  have H100 := H99.put (it := imm (.slice a9 (pairsM an ar).length c9) (pairsM an ar)) rfl rv10
                  exact ⟨_, rfl, xt96, ⟨a9, c9, rfl, rv10⟩⟩
                refine ⟨fun _ => ⟨fun f56 w101 hf54 xt97 hp54 => ?_, fun _ _ _ _ h => h⟩, ?_⟩
                ·
                  have H101 := H28.ext xt97
                  have s80 : f56 104 = .bool (decide ((orME an bn) = (orME an bn))) := hp54 32 rfl rfl
                  obtain ⟨a10, c10, s81, rv11⟩ : ∃ (a10 : Option Addr) (c10 : Nat), f56 106 = .slice a10 (pairsM an ar).length c10 ∧ RV (MS M [box bb8 #[.int .i64 (orMN an bn), .slice a3 (orMR an ar bn br).length c3] 38, own w.heap.size 22 (.slice a3 (orMR an ar bn br).length c3) (orMR an ar bn br), box bb7 #[.int .i64 (orMN an bn), .slice a2 (orMR an ar bn br).length c2] 38, own w.heap.size 22 (.slice a2 (orMR an ar bn br).length c2) (orMR an ar bn br), box bb6 #[.int .i64 (setMN an i j), .slice a1 (setMR an ar i j).length c1] 38, own w.heap.size 22 (.slice a1 (setMR an ar i j).length c1) (setMR an ar i j), box bb5 #[.int .i64 (setMN an i j), .slice a0 (setMR an ar i j).length c0] 38, own w.heap.size 22 (.slice a0 (setMR an ar i j).length c0) (setMR an ar i j), box (B0 8) #[.int .i64 an, .slice a_ar ar.length c_ar] 38, box (B0 9) #[.int .i64 bn, .slice a_br br.length c_br] 38, box bb0 #[.int .i64 an, .slice a_ar ar.length c_ar, .int .i64 bn, .slice a_br br.length c_br, .int .i64 i, .int .i64 j] 63, imm (.slice a_br br.length c_br) br, imm (.slice a_ar ar.length c_ar) ar]) w101 (.slice a10 (pairsM an ar).length c10) (pairsM an ar) := hp54 34 rfl rfl
                  have H102 := H101.put (it := imm (.slice a10 (pairsM an ar).length c10) (pairsM an ar)) rfl rv11
                  obtain ⟨a11, c11, s82, rv12⟩ : ∃ (a11 : Option Addr) (c11 : Nat), f56 108 = .slice a11 (pairsM an ar).length c11 ∧ RV (MS M [box bb8 #[.int .i64 (orMN an bn), .slice a3 (orMR an ar bn br).length c3] 38, own w.heap.size 22 (.slice a3 (orMR an ar bn br).length c3) (orMR an ar bn br), box bb7 #[.int .i64 (orMN an bn), .slice a2 (orMR an ar bn br).length c2] 38, own w.heap.size 22 (.slice a2 (orMR an ar bn br).length c2) (orMR an ar bn br), box bb6 #[.int .i64 (setMN an i j), .slice a1 (setMR an ar i j).length c1] 38, own w.heap.size 22 (.slice a1 (setMR an ar i j).length c1) (setMR an ar i j), box bb5 #[.int .i64 (setMN an i j), .slice a0 (setMR an ar i j).length c0] 38, own w.heap.size 22 (.slice a0 (setMR an ar i j).length c0) (setMR an ar i j), box (B0 8) #[.int .i64 an, .slice a_ar ar.length c_ar] 38, box (B0 9) #[.int .i64 bn, .slice a_br br.length c_br] 38, box bb0 #[.int .i64 an, .slice a_ar ar.length c_ar, .int .i64 bn, .slice a_br br.length c_br, .int .i64 i, .int .i64 j] 63, imm (.slice a_br br.length c_br) br, imm (.slice a_ar ar.length c_ar) ar]) w101 (.slice a11 (pairsM an ar).length c11) (pairsM an ar) := hp54 36 rfl rfl
                  have H103 := H102.put (it := imm (.slice a11 (pairsM an ar).length c11) (pairsM an ar)) rfl (by rw [MS_cons_none rfl]; exact rv12)
                  have tr18 : (decide ((orME an bn) = (orME an bn))) = true := (by simp)
                  refine gy rfl rfl s80 tr18 ?_
                  have cc32 := law03_pairs (a := (pairsM an ar)) (b := (pairsM an ar)) (w := w101) H103.mb (H103.rv 1 rfl) (H103.rv 0 rfl)
                  refine ca go64 rfl (ec s81 (ec s82 e0)) cc32 ?_
                  rintro _ w102 ⟨rfl, xt98⟩
                  have H104 := H103.ext xt98
                  exact ⟨_, rfl, xt98, rfl⟩
                refine ⟨fun _ => ⟨fun f57 w103 hf55 xt99 hp55 => ?_, fun _ _ _ _ h => h⟩, ?_⟩
                ·
                  have H105 := H28.ext xt99
                  have s83 : f57 104 = .bool (decide ((orME an bn) = (orME an bn))) := hp55 32 rfl rfl
                  have s84 : f57 109 = .bool (decide ((pairsM an ar) = (pairsM an ar))) := hp55 37 rfl rfl
                  have tr19 : (decide ((orME an bn) = (orME an bn))) = true := (by simp)
                  refine pickT rfl rfl rfl s83 tr19 s84 ?_
                  exact ⟨_, rfl, Ext.refl _, rfl⟩
                refine ⟨fun _ => ⟨fun f58 w104 hf56 xt100 hp56 => ?_, fun _ _ _ _ h => h⟩, ?_⟩
                ·
                  have H106 := H28.ext xt100
                  have s85 : f58 110 = .bool (decide ((pairsM an ar) = (pairsM an ar))) := hp56 38 rfl rfl
                  refine mv rfl s85 ?_
                  exact ⟨_, rfl, Ext.refl _, rfl⟩
                refine ⟨fun _ => ⟨fun f59 w105 hf57 xt101 hp57 => ?_, fun _ _ _ _ h => h⟩, ?_⟩
                ·
                  have H107 := H28.ext xt101
                  have s86 : f59 111 = .bool (decide ((pairsM an ar) = (pairsM an ar))) := hp57 39 rfl rfl
                  have tr20 : (decide ((pairsM an ar) = (pairsM an ar))) = true := (by simp)
                  refine gy rfl rfl s86 tr20 (ldX H107 8 rfl ty38 rfl ((hf57 3 rfl).trans s15) (by decide) rfl ?_)
                  exact ⟨_, rfl, Ext.refl _, rfl⟩
                refine ⟨fun _ => ⟨fun f60 w106 hf58 xt102 hp58 => ?_, by rintro _ _ _ x_ ⟨a6, c6, e_, rv7⟩; exact ⟨a6, c6, e_, rv7.lift (Up.ext x_)⟩⟩, ?_⟩
                ·
                  have H108 := H28.ext xt102
                  have s87 : f60 111 = .bool (decide ((pairsM an ar) = (pairsM an ar))) := hp58 39 rfl rfl
                  have s88 : f60 112 = .agg #[.int .i64 an, .slice a_ar ar.length c_ar] := hp58 40 rfl rfl
                  have tr21 : (decide ((pairsM an ar) = (pairsM an ar))) = true := (by simp)
                  refine gy rfl rfl s87 tr21 ?_
                  have cc33 := mat_Turn (mn := an) (mr := ar) (w := w106) H108.mb (hT.ext H108.below) (by unfold I64 at *; omega) (H108.rv 12 rfl) (by first | exact ra_ | exact rb_)
                  refine ca go38 rfl (ec s88 e0) cc33 ?_
                  rintro _ w107 ⟨a12, c12, rfl, xt103, rv13⟩
                  have rv14 := OwnsG.rv rv13 H108.mb
                  have H109 := H108.ext xt103
                  have H110 := H109.put (it := imm (.slice a12 (turnM an ar).length c12) (turnM an ar)) rfl rv14
                  exact ⟨_, rfl, xt103, ⟨a12, c12, rfl, rv14⟩⟩
                refine ⟨fun _ => ⟨fun f61 w108 hf59 xt104 hp59 => ?_, fun _ _ _ _ h => h⟩, ?_⟩
                ·
                  have H111 := H28.ext xt104
                  have s89 : f61 111 = .bool (decide ((pairsM an ar) = (pairsM an ar))) := hp59 39 rfl rfl
                  have tr22 : (decide ((pairsM an ar) = (pairsM an ar))) = true := (by simp)
                  refine gy rfl rfl s89 tr22 (ldX H111 8 rfl ty38 rfl ((hf59 3 rfl).trans s15) (by decide) rfl ?_)
                  exact ⟨_, rfl, Ext.refl _, rfl⟩
                refine ⟨fun _ => ⟨fun f62 w109 hf60 xt105 hp60 => ?_, by rintro _ _ _ x_ ⟨a7, c7, e_, rv8⟩; exact ⟨a7, c7, e_, rv8.lift (Up.ext x_)⟩⟩, ?_⟩
                ·
                  have H112 := H28.ext xt105
                  have s90 : f62 111 = .bool (decide ((pairsM an ar) = (pairsM an ar))) := hp60 39 rfl rfl
                  have s91 : f62 114 = .agg #[.int .i64 an, .slice a_ar ar.length c_ar] := hp60 42 rfl rfl
                  have tr23 : (decide ((pairsM an ar) = (pairsM an ar))) = true := (by simp)
                  refine gy rfl rfl s90 tr23 ?_
                  have cc34 := ref03_Turn (mn := an) (mr := ar) (w := w109) H112.mb (by unfold I64 at *; omega) (H112.rv 12 rfl) (by first | exact ra_ | exact rb_)
                  refine ca go50 rfl (ec s91 e0) cc34 ?_
                  rintro _ w110 ⟨a13, c13, rfl, xt106, rv15⟩
                  have H113 := H112.ext xt106
                  have H114 := H113.put (it := imm (.slice a13 (turnM an ar).length c13) (turnM an ar)) rfl rv15
                  exact ⟨_, rfl, xt106, ⟨a13, c13, rfl, rv15⟩⟩
                refine ⟨fun _ => ⟨fun f63 w111 hf61 xt107 hp61 => ?_, fun _ _ _ _ h => h⟩, ?_⟩
                ·
                  have H115 := H28.ext xt107
                  have s92 : f63 111 = .bool (decide ((pairsM an ar) = (pairsM an ar))) := hp61 39 rfl rfl
                  obtain ⟨a14, c14, s93, rv16⟩ : ∃ (a14 : Option Addr) (c14 : Nat), f63 113 = .agg #[.int .i64 an, .slice a14 (turnM an ar).length c14] ∧ RV (MS M [box bb8 #[.int .i64 (orMN an bn), .slice a3 (orMR an ar bn br).length c3] 38, own w.heap.size 22 (.slice a3 (orMR an ar bn br).length c3) (orMR an ar bn br), box bb7 #[.int .i64 (orMN an bn), .slice a2 (orMR an ar bn br).length c2] 38, own w.heap.size 22 (.slice a2 (orMR an ar bn br).length c2) (orMR an ar bn br), box bb6 #[.int .i64 (setMN an i j), .slice a1 (setMR an ar i j).length c1] 38, own w.heap.size 22 (.slice a1 (setMR an ar i j).length c1) (setMR an ar i j), box bb5 #[.int .i64 (setMN an i j), .slice a0 (setMR an ar i j).length c0] 38, own w.heap.size 22 (.slice a0 (setMR an ar i j).length c0) (setMR an ar i j), box (B0 8) #[.int .i64 an, .slice a_ar ar.length c_ar] 38, box (B0 9) #[.int .i64 bn, .slice a_br br.length c_br] 38, box bb0 #[.int .i64 an, .slice a_ar ar.length c_ar, .int .i64 bn, .slice a_br br.length c_br, .int .i64 i, .int .i64 j] 63, imm (.slice a_br br.length c_br) br, imm (.slice a_ar ar.length c_ar) ar]) w111 (.slice a14 (turnM an ar).length c14) (turnM an ar) := hp61 41 rfl rfl
                  have H116 := H115.put (it := imm (.slice a14 (turnM an ar).length c14) (turnM an ar)) rfl rv16
                  obtain ⟨a15, c15, s94, rv17⟩ : ∃ (a15 : Option Addr) (c15 : Nat), f63 115 = .agg #[.int .i64 an, .slice a15 (turnM an ar).length c15] ∧ RV (MS M [box bb8 #[.int .i64 (orMN an bn), .slice a3 (orMR an ar bn br).length c3] 38, own w.heap.size 22 (.slice a3 (orMR an ar bn br).length c3) (orMR an ar bn br), box bb7 #[.int .i64 (orMN an bn), .slice a2 (orMR an ar bn br).length c2] 38, own w.heap.size 22 (.slice a2 (orMR an ar bn br).length c2) (orMR an ar bn br), box bb6 #[.int .i64 (setMN an i j), .slice a1 (setMR an ar i j).length c1] 38, own w.heap.size 22 (.slice a1 (setMR an ar i j).length c1) (setMR an ar i j), box bb5 #[.int .i64 (setMN an i j), .slice a0 (setMR an ar i j).length c0] 38, own w.heap.size 22 (.slice a0 (setMR an ar i j).length c0) (setMR an ar i j), box (B0 8) #[.int .i64 an, .slice a_ar ar.length c_ar] 38, box (B0 9) #[.int .i64 bn, .slice a_br br.length c_br] 38, box bb0 #[.int .i64 an, .slice a_ar ar.length c_ar, .int .i64 bn, .slice a_br br.length c_br, .int .i64 i, .int .i64 j] 63, imm (.slice a_br br.length c_br) br, imm (.slice a_ar ar.length c_ar) ar]) w111 (.slice a15 (turnM an ar).length c15) (turnM an ar) := hp61 43 rfl rfl
                  have H117 := H116.put (it := imm (.slice a15 (turnM an ar).length c15) (turnM an ar)) rfl (by rw [MS_cons_none rfl]; exact rv17)
                  have tr24 : (decide ((pairsM an ar) = (pairsM an ar))) = true := (by simp)
                  refine gy rfl rfl s92 tr24 ?_
                  have cc35 := ref03_Equal (an := an) (ar := (turnM an ar)) (bn := an) (br := (turnM an ar)) (w := w111) H117.mb (by unfold I64 at *; omega) (H117.rv 1 rfl) (by unfold I64 at *; omega) (H117.rv 0 rfl)
                  refine ca go39 rfl (ec s93 (ec s94 e0)) cc35 ?_
                  rintro _ w112 ⟨rfl, xt108⟩
                  have H118 := H117.ext xt108
                  exact ⟨_, rfl, xt108, rfl⟩
                refine ⟨fun _ => ⟨fun f64 w113 hf62 xt109 hp62 => ?_, fun _ _ _ _ h => h⟩, ?_⟩
                ·
                  have H119 := H28.ext xt109
                  have s95 : f64 111 = .bool (decide ((pairsM an ar) = (pairsM an ar))) := hp62 39 rfl rfl
                  have s96 : f64 116 = .bool (eqM an (turnM an ar) an (turnM an ar)) := hp62 44 rfl rfl
                  have tr25 : (decide ((pairsM an ar) = (pairsM an ar))) = true := (by simp)
                  refine pickT rfl rfl rfl s95 tr25 s96 ?_
                  exact ⟨_, rfl, Ext.refl _, rfl⟩
                refine ⟨fun _ => ⟨fun f65 w114 hf63 xt110 hp63 => ?_, fun _ _ _ _ h => h⟩, ?_⟩
                ·
                  have H120 := H28.ext xt110
                  have s97 : f65 117 = .bool (eqM an (turnM an ar) an (turnM an ar)) := hp63 45 rfl rfl
                  refine mv rfl s97 ?_
                  exact ⟨_, rfl, Ext.refl _, rfl⟩
                refine ⟨fun _ => ⟨fun f66 w115 hf64 xt111 hp64 => ?_, fun _ _ _ _ h => h⟩, ?_⟩
                ·
                  have H121 := H28.ext xt111
                  have s98 : f66 118 = .bool (eqM an (turnM an ar) an (turnM an ar)) := hp64 46 rfl rfl
                  refine gy rfl rfl s98 (eqM_refl _ _) (ldX H121 8 rfl ty38 rfl ((hf64 3 rfl).trans s15) (by decide) rfl ?_)
                  exact ⟨_, rfl, Ext.refl _, rfl⟩
                refine ⟨fun _ => ⟨fun f67 w116 hf65 xt112 hp65 => ?_, fun _ _ _ _ h => h⟩, ?_⟩
                ·
                  have H122 := H28.ext xt112
                  have s99 : f67 118 = .bool (eqM an (turnM an ar) an (turnM an ar)) := hp65 46 rfl rfl
                  refine gy rfl rfl s99 (eqM_refl _ _) (ldX H122 9 rfl ty38 rfl ((hf65 4 rfl).trans s16) (by decide) rfl ?_)
                  exact ⟨_, rfl, Ext.refl _, rfl⟩
                refine ⟨fun _ => ⟨fun f68 w117 hf66 xt113 hp66 => ?_, fun _ _ _ _ h => h⟩, ?_⟩
                ·
                  have H123 := H28.ext xt113
                  have s100 : f68 118 = .bool (eqM an (turnM an ar) an (turnM an ar)) := hp66 46 rfl rfl
                  have s101 : f68 119 = .agg #[.int .i64 an, .slice a_ar ar.length c_ar] := hp66 47 rfl rfl
                  have s102 : f68 120 = .agg #[.int .i64 bn, .slice a_br br.length c_br] := hp66 48 rfl rfl
                  refine gy rfl rfl s100 (eqM_refl _ _) ?_
                  have cc36 := mat_Sub (an := an) (ar := ar) (bn := bn) (br := br) (w := w117) H123.mb (by unfold I64 at *; omega) (H123.rv 12 rfl) (by unfold I64 at *; omega) (H123.rv 11 rfl) (by first | exact (right_sq ra_).1 | exact (right_sq ra_).2.1 | exact (right_sq ra_).2.2.1 | exact (right_sq ra_).2.2.2.2 | exact (right_sq rb_).1 | exact (right_sq rb_).2.1 | exact (right_sq rb_).2.2.1 | exact (right_sq rb_).2.2.2.2) (by first | exact (right_sq ra_).1 | exact (right_sq ra_).2.1 | exact (right_sq ra_).2.2.1 | exact (right_sq ra_).2.2.2.2 | exact (right_sq rb_).1 | exact (right_sq rb_).2.1 | exact (right_sq rb_).2.2.1 | exact (right_sq rb_).2.2.2.2) (by first | exact (right_sq ra_).1 | exact (right_sq ra_).2.1 | exact (right_sq ra_).2.2.1 | exact (right_sq ra_).2.2.2.2 | exact (right_sq rb_).1 | exact (right_sq rb_).2.1 | exact (right_sq rb_).2.2.1 | exact (right_sq rb_).2.2.2.2) (by first | exact (right_sq ra_).1 | exact (right_sq ra_).2.1 | exact (right_sq ra_).2.2.1 | exact (right_sq ra_).2.2.2.2 | exact (right_sq rb_).1 | exact (right_sq rb_).2.1 | exact (right_sq rb_).2.2.1 | exact (right_sq rb_).2.2.2.2) (by first | exact (right_sq ra_).1 | exact (right_sq ra_).2.1 | exact (right_sq ra_).2.2.1 | exact (right_sq ra_).2.2.2.2 | exact (right_sq rb_).1 | exact (right_sq rb_).2.1 | exact (right_sq rb_).2.2.1 | exact (right_sq rb_).2.2.2.2) (by first | exact (right_sq ra_).1 | exact (right_sq ra_).2.1 | exact (right_sq ra_).2.2.1 | exact (right_sq ra_).2.2.2.2 | exact (right_sq rb_).1 | exact (right_sq rb_).2.1 | exact (right_sq rb_).2.2.1 | exact (right_sq rb_).2.2.2.2)
                  refine ca go59 rfl (ec s101 (ec s102 e0)) cc36 ?_
                  rintro _ w118 ⟨rfl, xt114⟩
                  have H124 := H123.ext xt114
                  exact ⟨_, rfl, xt114, rfl⟩
                refine ⟨fun _ => ⟨fun f69 w119 hf67 xt115 hp67 => ?_, fun _ _ _ _ h => h⟩, ?_⟩
                ·
                  have H125 := H28.ext xt115
                  have s103 : f69 118 = .bool (eqM an (turnM an ar) an (turnM an ar)) := hp67 46 rfl rfl
                  refine gy rfl rfl s103 (eqM_refl _ _) (ldX H125 8 rfl ty38 rfl ((hf67 3 rfl).trans s15) (by decide) rfl ?_)
                  exact ⟨_, rfl, Ext.refl _, rfl⟩
                refine ⟨fun _ => ⟨fun f70 w120 hf68 xt116 hp68 => ?_, fun _ _ _ _ h => h⟩, ?_⟩
                ·
                  have H126 := H28.ext xt116
                  have s104 : f70 118 = .bool (eqM an (turnM an ar) an (turnM an ar)) := hp68 46 rfl rfl
                  refine gy rfl rfl s104 (eqM_refl _ _) (ldX H126 9 rfl ty38 rfl ((hf68 4 rfl).trans s16) (by decide) rfl ?_)
                  exact ⟨_, rfl, Ext.refl _, rfl⟩
                refine ⟨fun _ => ⟨fun f71 w121 hf69 xt117 hp69 => ?_, fun _ _ _ _ h => h⟩, ?_⟩
                ·
                  have H127 := H28.ext xt117
                  have s105 : f71 118 = .bool (eqM an (turnM an ar) an (turnM an ar)) := hp69 46 rfl rfl
                  have s106 : f71 122 = .agg #[.int .i64 an, .slice a_ar ar.length c_ar] := hp69 50 rfl rfl
                  have s107 : f71 123 = .agg #[.int .i64 bn, .slice a_br br.length c_br] := hp69 51 rfl rfl
                  refine gy rfl rfl s105 (eqM_refl _ _) ?_
                  have cc37 := ref03_Sub (an := an) (ar := ar) (bn := bn) (br := br) (w := w121) H127.mb (by unfold I64 at *; omega) (H127.rv 12 rfl) (by unfold I64 at *; omega) (H127.rv 11 rfl) (by first | exact (right_sq ra_).1 | exact (right_sq ra_).2.1 | exact (right_sq ra_).2.2.1 | exact (right_sq ra_).2.2.2.2 | exact (right_sq rb_).1 | exact (right_sq rb_).2.1 | exact (right_sq rb_).2.2.1 | exact (right_sq rb_).2.2.2.2) (by first | exact (right_sq ra_).1 | exact (right_sq ra_).2.1 | exact (right_sq ra_).2.2.1 | exact (right_sq ra_).2.2.2.2 | exact (right_sq rb_).1 | exact (right_sq rb_).2.1 | exact (right_sq rb_).2.2.1 | exact (right_sq rb_).2.2.2.2) (by first | exact (right_sq ra_).1 | exact (right_sq ra_).2.1 | exact (right_sq ra_).2.2.1 | exact (right_sq ra_).2.2.2.2 | exact (right_sq rb_).1 | exact (right_sq rb_).2.1 | exact (right_sq rb_).2.2.1 | exact (right_sq rb_).2.2.2.2) (by first | exact (right_sq ra_).1 | exact (right_sq ra_).2.1 | exact (right_sq ra_).2.2.1 | exact (right_sq ra_).2.2.2.2 | exact (right_sq rb_).1 | exact (right_sq rb_).2.1 | exact (right_sq rb_).2.2.1 | exact (right_sq rb_).2.2.2.2) (by first | exact (right_sq ra_).1 | exact (right_sq ra_).2.1 | exact (right_sq ra_).2.2.1 | exact (right_sq ra_).2.2.2.2 | exact (right_sq rb_).1 | exact (right_sq rb_).2.1 | exact (right_sq rb_).2.2.1 | exact (right_sq rb_).2.2.2.2) (by first | exact (right_sq ra_).1 | exact (right_sq ra_).2.1 | exact (right_sq ra_).2.2.1 | exact (right_sq ra_).2.2.2.2 | exact (right_sq rb_).1 | exact (right_sq rb_).2.1 | exact (right_sq rb_).2.2.1 | exact (right_sq rb_).2.2.2.2)
                  refine ca go46 rfl (ec s106 (ec s107 e0)) cc37 ?_
                  rintro _ w122 ⟨rfl, xt118⟩
                  have H128 := H127.ext xt118
                  exact ⟨_, rfl, xt118, rfl⟩
                refine ⟨fun _ => ⟨fun f72 w123 hf70 xt119 hp70 => ?_, fun _ _ _ _ h => h⟩, ?_⟩
                ·
                  have H129 := H28.ext xt119
                  have s108 : f72 118 = .bool (eqM an (turnM an ar) an (turnM an ar)) := hp70 46 rfl rfl
                  have s109 : f72 121 = .bool (subM an ar bn br) := hp70 49 rfl rfl
                  have s110 : f72 124 = .bool (subM an ar bn br) := hp70 52 rfl rfl
                  refine gy rfl rfl s108 (eqM_refl _ _) (eqB rfl rfl s109 s110 un4 ?_)
                  exact ⟨_, rfl, Ext.refl _, rfl⟩
                refine ⟨fun _ => ⟨fun f73 w124 hf71 xt120 hp71 => ?_, fun _ _ _ _ h => h⟩, ?_⟩
                ·
                  have H130 := H28.ext xt120
                  have s111 : f73 118 = .bool (eqM an (turnM an ar) an (turnM an ar)) := hp71 46 rfl rfl
                  have s112 : f73 125 = .bool ((subM an ar bn br) == (subM an ar bn br)) := hp71 53 rfl rfl
                  refine pickT rfl rfl rfl s111 (eqM_refl _ _) s112 ?_
                  exact ⟨_, rfl, Ext.refl _, rfl⟩
                refine ⟨fun _ => ⟨fun f74 w125 hf72 xt121 hp72 => ?_, fun _ _ _ _ h => h⟩, ?_⟩
                ·
                  have H131 := H28.ext xt121
                  have s113 : f74 126 = .bool ((subM an ar bn br) == (subM an ar bn br)) := hp72 54 rfl rfl
                  refine mv rfl s113 ?_
                  exact ⟨_, rfl, Ext.refl _, rfl⟩
                refine ⟨fun _ => ⟨fun f75 w126 hf73 xt122 hp73 => ?_, fun _ _ _ _ h => h⟩, ?_⟩
                ·
                  have H132 := H28.ext xt122
                  have s114 : f75 127 = .bool ((subM an ar bn br) == (subM an ar bn br)) := hp73 55 rfl rfl
                  have tr26 : ((subM an ar bn br) == (subM an ar bn br)) = true := (by simp)
                  refine gy rfl rfl s114 tr26 (ldX H132 8 rfl ty38 rfl ((hf73 3 rfl).trans s15) (by decide) rfl ?_)
                  exact ⟨_, rfl, Ext.refl _, rfl⟩
                refine ⟨fun _ => ⟨fun f76 w127 hf74 xt123 hp74 => ?_, fun _ _ _ _ h => h⟩, ?_⟩
                ·
                  have H133 := H28.ext xt123
                  have s115 : f76 127 = .bool ((subM an ar bn br) == (subM an ar bn br)) := hp74 55 rfl rfl
                  have tr27 : ((subM an ar bn br) == (subM an ar bn br)) = true := (by simp)
                  refine gy rfl rfl s115 tr27 (ldX H133 9 rfl ty38 rfl ((hf74 4 rfl).trans s16) (by decide) rfl ?_)
                  exact ⟨_, rfl, Ext.refl _, rfl⟩
                refine ⟨fun _ => ⟨fun f77 w128 hf75 xt124 hp75 => ?_, fun _ _ _ _ h => h⟩, ?_⟩
                ·
                  have H134 := H28.ext xt124
                  have s116 : f77 127 = .bool ((subM an ar bn br) == (subM an ar bn br)) := hp75 55 rfl rfl
                  have s117 : f77 128 = .agg #[.int .i64 an, .slice a_ar ar.length c_ar] := hp75 56 rfl rfl
                  have s118 : f77 129 = .agg #[.int .i64 bn, .slice a_br br.length c_br] := hp75 57 rfl rfl
                  have tr28 : ((subM an ar bn br) == (subM an ar bn br)) = true := (by simp)
                  refine gy rfl rfl s116 tr28 ?_
                  have cc38 := mat_Same (an := an) (ar := ar) (bn := bn) (br := br) (w := w128) H134.mb (by unfold I64 at *; omega) (H134.rv 12 rfl) (by unfold I64 at *; omega) (H134.rv 11 rfl)
                  refine ca go60 rfl (ec s117 (ec s118 e0)) cc38 ?_
                  rintro _ w129 ⟨rfl, xt125⟩
                  have H135 := H134.ext xt125
                  exact ⟨_, rfl, xt125, rfl⟩
                refine ⟨fun _ => ⟨fun f78 w130 hf76 xt126 hp76 => ?_, fun _ _ _ _ h => h⟩, ?_⟩
                ·
                  have H136 := H28.ext xt126
                  have s119 : f78 127 = .bool ((subM an ar bn br) == (subM an ar bn br)) := hp76 55 rfl rfl
                  have tr29 : ((subM an ar bn br) == (subM an ar bn br)) = true := (by simp)
                  refine gy rfl rfl s119 tr29 (ldX H136 8 rfl ty38 rfl ((hf76 3 rfl).trans s15) (by decide) rfl ?_)
                  exact ⟨_, rfl, Ext.refl _, rfl⟩
                refine ⟨fun _ => ⟨fun f79 w131 hf77 xt127 hp77 => ?_, fun _ _ _ _ h => h⟩, ?_⟩
                ·
                  have H137 := H28.ext xt127
                  have s120 : f79 127 = .bool ((subM an ar bn br) == (subM an ar bn br)) := hp77 55 rfl rfl
                  have tr30 : ((subM an ar bn br) == (subM an ar bn br)) = true := (by simp)
                  refine gy rfl rfl s120 tr30 (ldX H137 9 rfl ty38 rfl ((hf77 4 rfl).trans s16) (by decide) rfl ?_)
                  exact ⟨_, rfl, Ext.refl _, rfl⟩
                exact DSteps.rest rfl _
              · intro f80 w132 hf78 xt128 hp78
                have H138 := H28.ext xt128
                have s121 : f80 127 = .bool ((subM an ar bn br) == (subM an ar bn br)) := hp78 55 rfl
                have s122 : f80 130 = .bool (sameM an ar bn br) := hp78 58 rfl
                have s123 : f80 131 = .agg #[.int .i64 an, .slice a_ar ar.length c_ar] := hp78 59 rfl
                have s124 : f80 132 = .agg #[.int .i64 bn, .slice a_br br.length c_br] := hp78 60 rfl
                have tr31 : ((subM an ar bn br) == (subM an ar bn br)) = true := (by simp)
                refine k (gy rfl rfl s121 tr31 ?_)
                have cc39 := ref03_Same (an := an) (ar := ar) (bn := bn) (br := br) (w := w132) H138.mb (by unfold I64 at *; omega) (H138.rv 12 rfl) (by unfold I64 at *; omega) (H138.rv 11 rfl) (by first | exact (right_sq ra_).1 | exact (right_sq ra_).2.1 | exact (right_sq ra_).2.2.1 | exact (right_sq ra_).2.2.2.2 | exact (right_sq rb_).1 | exact (right_sq rb_).2.1 | exact (right_sq rb_).2.2.1 | exact (right_sq rb_).2.2.2.2) (by first | exact (right_sq ra_).1 | exact (right_sq ra_).2.1 | exact (right_sq ra_).2.2.1 | exact (right_sq ra_).2.2.2.2 | exact (right_sq rb_).1 | exact (right_sq rb_).2.1 | exact (right_sq rb_).2.2.1 | exact (right_sq rb_).2.2.2.2) (by first | exact (right_sq ra_).1 | exact (right_sq ra_).2.1 | exact (right_sq ra_).2.2.1 | exact (right_sq ra_).2.2.2.2 | exact (right_sq rb_).1 | exact (right_sq rb_).2.1 | exact (right_sq rb_).2.2.1 | exact (right_sq rb_).2.2.2.2) (by first | exact (right_sq ra_).1 | exact (right_sq ra_).2.1 | exact (right_sq ra_).2.2.1 | exact (right_sq ra_).2.2.2.2 | exact (right_sq rb_).1 | exact (right_sq rb_).2.1 | exact (right_sq rb_).2.2.1 | exact (right_sq rb_).2.2.2.2) (by first | exact (right_sq ra_).1 | exact (right_sq ra_).2.1 | exact (right_sq ra_).2.2.1 | exact (right_sq ra_).2.2.2.2 | exact (right_sq rb_).1 | exact (right_sq rb_).2.1 | exact (right_sq rb_).2.2.1 | exact (right_sq rb_).2.2.2.2) (by first | exact (right_sq ra_).1 | exact (right_sq ra_).2.1 | exact (right_sq ra_).2.2.1 | exact (right_sq ra_).2.2.2.2 | exact (right_sq rb_).1 | exact (right_sq rb_).2.1 | exact (right_sq rb_).2.2.1 | exact (right_sq rb_).2.2.2.2)
                refine ca go66 rfl (ec s123 (ec s124 e0)) cc39 ?_
                rintro _ w133 ⟨rfl, xt129⟩
                have H139 := H138.ext xt129
                refine k (gy rfl rfl s121 tr31 (eqB rfl rfl s122 rfl un4 (k (pickT rfl rfl rfl s121 tr31 rfl (k (asg (v := .bool ((sameM an ar bn br) == (subM an ar bn br && subM bn br an ar))) rfl rfl (z (nx (rt (r1 rfl rfl ?_))))))))))
                have tr32 : ((sameM an ar bn br) == (subM an ar bn br && subM bn br an ar)) = true := (by rw [same_two ra_ rb_]; simp)
                have e0 : ((sameM an ar bn br) == (subM an ar bn br && subM bn br an ar) : Bool) = true := by exact tr32
                have ev_ := cg1 (fun (x_0 : Bool) => (.bool x_0 : Value)) e0
                exact ⟨ev_, H139.below⟩
end Go.Proofs.YtfakagpjgpbkbaaDoor
