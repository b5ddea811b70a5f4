/- PRINTED by my own tool (wip/tool/gen.py): contracts of Go functions of this seat, each with its proof. -/
import Derived.Test.YtfakagpjgpbkbaaDoorProg
import Derived.Test.YtfakagpjgpbkbaaDoorEwSpecJ
import Derived.Test.YtfakagpjgpbkbaaDoorR02dFns
namespace Go.Proofs.YtfakagpjgpbkbaaDoor
open Go.Ew Go.RowKit
set_option linter.unusedVariables false
set_option linter.unusedSimpArgs false
attribute [local irreducible] WL WC SO Code.wp wpList retQ Ret
attribute [local irreducible] bitB hasW inR hasR setR countW countR subR words newR listR orR firstW tab8
theorem go15 : GoF Tryd.prog 15 := ⟨_, _, Tryd.func15, rfl, by kernel_rfl⟩
theorem go17 : GoF Tryd.prog 17 := ⟨_, _, Tryd.func17, rfl, by kernel_rfl⟩
theorem go32 : GoF Tryd.prog 32 := ⟨_, _, Tryd.func32, rfl, by kernel_rfl⟩
theorem go19 : GoF Tryd.prog 19 := ⟨_, _, Tryd.func19, rfl, by kernel_rfl⟩
theorem go16 : GoF Tryd.prog 16 := ⟨_, _, Tryd.func16, rfl, by kernel_rfl⟩
theorem go13 : GoF Tryd.prog 13 := ⟨_, _, Tryd.func13, rfl, by kernel_rfl⟩
theorem go14 : GoF Tryd.prog 14 := ⟨_, _, Tryd.func14, rfl, by kernel_rfl⟩
theorem go18 : GoF Tryd.prog 18 := ⟨_, _, Tryd.func18, rfl, by kernel_rfl⟩
theorem go25 : GoF Tryd.prog 25 := ⟨_, _, Tryd.func25, rfl, by kernel_rfl⟩
theorem go27 : GoF Tryd.prog 27 := ⟨_, _, Tryd.func27, rfl, by kernel_rfl⟩
theorem un4 : Tryd.prog.underlying 4 = some (.bool) := by kernel_rfl
/- eyewitness/eyewitnesslaw02.awake -/
set_option maxRecDepth 100000 in
set_option maxHeartbeats 200000 in
theorem awake02 {w : World}  : Calls Tryd.prog 13 #[] w (Ret fun v w' =>  v = .bool true ∧ Ext w w') := by
  refine enter 22 Tryd.func13 rfl rfl rfl fun f0 ha => ?_
  have H := HI.start (M0 := (fun _ => False)) (w := w) (fun _ h => h.elim)
  refine sq (rg (k (asg rfl rfl (z (nx (sq (rg (k ?_))))))))
  have cc0 := row_New (n := 66) (w := w) H.mb (by unfold I64 at *; omega) (by first | omega | (simp; omega))
  refine ca go15 rfl (ec rfl e0) cc0 ?_
  rintro _ w0 ⟨a0, c0, rfl, xt0, rv0⟩
  have H0 := H.ownsG rv0
  refine k ?_
  have H1 := H0.freeze 0 rfl
  have cc1 := row_Set (r := (newR 66)) (i := 0) (w := w0) H1.mb (H1.rv 0 rfl) (by unfold I64 at *; omega) (by decide +kernel)
  refine ca go17 rfl (ec rfl (ec rfl e0)) cc1 ?_
  rintro _ w1 ⟨a1, c1, rfl, xt1, rv1⟩
  have H2 := H1.ownsG rv1
  refine k ?_
  have H3 := H2.freeze 0 rfl
  have cc2 := row_Set (r := (setR (newR 66) 0)) (i := 65) (w := w1) H3.mb (H3.rv 0 rfl) (by unfold I64 at *; omega) (by decide +kernel)
  refine ca go17 rfl (ec rfl (ec rfl e0)) cc2 ?_
  rintro _ w2 ⟨a2, c2, rfl, xt2, rv2⟩
  have H4 := H3.ownsG rv2
  refine k (asg rfl rfl (z (nx (sq (rg (k (mv rfl rfl (k (bs (xs := ([1#64, 2#64] : List (BitVec 64))) (cells := #[U (1#64), U (2#64)]) (e := 66) H4 rfl (pbc rfl (pbc rfl pb0)) (fun _ => by kernel_rfl) ⟨[U (1#64)], [U (2#64)], rfl, rfl, ⟨[U (2#64)], [], rfl, rfl, rfl⟩⟩ rfl (by unfold maxLen; omega) ?_)))))))))
  intro g0 w3 xt3 (H5 : HI (fun _ => False) w w3 [own w.heap.size 66 (.slice (some ⟨g0, 0, none⟩) 2 2) ([1#64, 2#64] : List (BitVec 64)), own w.heap.size 66 (.slice a2 (setR (setR (newR 66) 0) 65).length c2) (setR (setR (newR 66) 0) 65), imm (.slice a1 (setR (newR 66) 0).length c1) (setR (newR 66) 0), imm (.slice a0 (newR 66).length c0) (newR 66)])
  refine k ?_
  have H6 := H5.freeze 1 rfl
  have H7 := H6.freeze 0 rfl
  have cc3 := row_Same (a := (setR (setR (newR 66) 0) 65)) (b := ([1#64, 2#64] : List (BitVec 64))) (w := w3) H7.mb (H7.rv 1 rfl) (H7.rv 0 rfl)
  refine ca go32 rfl (ec rfl (ec rfl e0)) cc3 ?_
  rintro _ w4 ⟨rfl, xt4⟩
  have H8 := H7.ext xt4
  refine k (mv rfl rfl (k (gy rfl rfl rfl (by decide +kernel) (mv rfl rfl (k (gy rfl rfl rfl (by decide +kernel) ?_))))))
  have cc4 := row_Count (r := (setR (setR (newR 66) 0) 65)) (w := w4) H8.mb (H8.rv 1 rfl) (by decide +kernel)
  refine ca go19 rfl (ec rfl e0) cc4 ?_
  rintro _ w5 ⟨rfl, xt5⟩
  have H9 := H8.ext xt5
  refine k (gy rfl rfl rfl (by decide +kernel) (eql rfl rfl rfl rfl (k (pickT rfl rfl rfl rfl (by decide +kernel) rfl (k (mv rfl rfl (k (gy rfl rfl rfl (by decide +kernel) (mv rfl rfl (k (gy rfl rfl rfl (by decide +kernel) ?_)))))))))))
  have cc5 := row_Has (r := (setR (setR (newR 66) 0) 65)) (i := 65) (w := w5) H9.mb (H9.rv 1 rfl) (by unfold I64 at *; omega)
  refine ca go16 rfl (ec rfl (ec rfl e0)) cc5 ?_
  rintro _ w6 ⟨rfl, xt6⟩
  have H10 := H9.ext xt6
  refine k (pickT rfl rfl rfl rfl (by decide +kernel) rfl (k (mv rfl rfl (k (gy rfl rfl rfl (by decide +kernel) (mv rfl rfl (k (gy rfl rfl rfl (by decide +kernel) ?_))))))))
  have cc6 := row_Has (r := (setR (setR (newR 66) 0) 65)) (i := 64) (w := w6) H10.mb (H10.rv 1 rfl) (by unfold I64 at *; omega)
  refine ca go16 rfl (ec rfl (ec rfl e0)) cc6 ?_
  rintro _ w7 ⟨rfl, xt7⟩
  have H11 := H10.ext xt7
  refine k (gy rfl rfl rfl (by decide +kernel) (not_ rfl rfl (k (pickT rfl rfl rfl rfl (by decide +kernel) rfl (k (asg rfl rfl (z (nx (rt (r1 rfl rfl ?_))))))))))
  have e0 : (!(hasR (setR (setR (newR 66) 0) 65) 64) : Bool) = true := by exact (by rw [show hasR (setR (setR (newR 66) 0) 65) 64 = false from (by decide +kernel)]; rfl)
  have ev_ := cg1 (fun (x_0 : Bool) => (.bool x_0 : Value)) e0
  exact ⟨ev_, H11.below⟩
/- eyewitness/eyewitnesslaw02.RowLists -/
set_option maxRecDepth 100000 in
set_option maxHeartbeats 200000 in
theorem law_RowLists {M : Nat → Prop} {w : World} {a_a : Option Addr} {c_a : Nat} {a : List (BitVec 64)} (hM : ∀ b, M b → b < w.heap.size) (hT : TabAt 0 w) (h_a : RV M w (.slice a_a a.length c_a) a) : Calls Tryd.prog 3 #[.slice a_a a.length c_a] w (Ret fun v w' =>  v = .bool true ∧ Ext w w') := by
  refine enter 64 Tryd.func3 rfl rfl rfl fun f0 ha => ?_
  have H := HI.start (M0 := M) (w := w) hM
  have H0 := H.put (it := imm (.slice a_a a.length c_a) a) rfl (by rw [MS_nil]; exact h_a)
  have ln_a := rv_len h_a
  have i0 : f0 0 = .slice a_a a.length c_a := ha 0 (by simp)
  refine sq (rg (k (asg rfl rfl (z (nx (sq (sq (rg (k (mv rfl i0 (k (lnS rfl rfl un22 (k (gtr rfl rfl rfl rfl (z (nx ?_))))))))))))))))
  refine cd (b := decide (10 < (a.length : Int))) rfl rfl (fun b0 => ?_) (fun b0 => ?_)
  ·
    have p0 := of_decide_eq_true b0
    refine sq (rg (k ?_))
    have cc0 := awake02 (w := w)
    refine ca go13 rfl e0 cc0 ?_
    rintro _ w0 ⟨rfl, xt0⟩
    have H1 := H0.ext xt0
    refine k (asg rfl rfl (z (nx (rt (then_ret (r1 rfl rfl ?_))))))
    exact ⟨rfl, H1.below⟩
  ·
    have p0 := of_decide_eq_false b0
    refine sk (nx (sq (rg (k (mv rfl i0 (k ?_))))))
    have cc0 := row_List (r := a) (w := w) H0.mb (hT.ext H0.below) (H0.rv 0 rfl) (by first | omega | (simp; omega))
    refine ca go14 rfl (ec rfl e0) cc0 ?_
    rintro _ w0 ⟨a0, c0, rfl, xt0, rv0⟩
    have H1 := H0.ownsG rv0
    refine k (asg rfl rfl (z (nx (sq (rg (k (mv rfl i0 (k (lnS rfl rfl un22 (k (mul rfl rfl rfl rfl (by first | assumption | (unfold I64 at *; omega)) (k ?_))))))))))))
    have cc1 := row_New (n := (64 * (a.length : Int))) (w := w0) H1.mb (by first | assumption | (unfold I64 at *; omega)) (by first | omega | (simp; omega))
    refine ca go15 rfl (ec rfl e0) cc1 ?_
    rintro _ w1 ⟨a1, c1, rfl, xt1, rv1⟩
    have H2 := H1.ownsG rv1
    refine k (asg rfl rfl (z (nx (sq (sq (rg (k (asg rfl rfl (z (nx (bk ?_)))))))))))
    have H3 := H2.freeze 0 rfl
    have H4 := H3.put (it := imm (.slice a1 (newR (64 * (a.length : Int))).length c1) (newR (64 * (a.length : Int)))) rfl (H3.rv 0 rfl)
    refine lp (fun m f w' => ∃ (j : Nat) (xs : List (BitVec 64)) (a2 : Option Addr) (c2 : Nat), m = (listR a).length - j ∧ f 0 = .slice a_a a.length c_a ∧ f 3 = .slice a0 (listR a).length c0 ∧ f 4 = .slice a2 xs.length c2 ∧ f 5 = .int .i64 (j : Int) ∧  HI M w w' [imm (.slice a2 xs.length c2) xs, imm (.slice a1 (newR (64 * (a.length : Int))).length c1) (newR (64 * (a.length : Int))), own w.heap.size 3 (.slice a0 (listR a).length c0) (listR a), imm (.slice a_a a.length c_a) a] ∧ (j ≤ (listR a).length) ∧ (xs = ((listR a).take j).foldl setR (newR (64 * (a.length : Int))))) _ ⟨0, (newR (64 * (a.length : Int))), a1, c1, rfl, i0, rfl, rfl, (ieq rfl (by first | rfl | omega | simp)), H4, (by first | assumption | omega | simp | (simp; omega)), (by rfl)⟩ ?_
    rintro _ f0 w2 ⟨j, xs, a2, c2, rfl, s0, s1, s2, s3, H5, hk, hs⟩
    refine sq (sq (rg (k (mv rfl s3 (k (mv rfl s1 (k (lnS rfl rfl un24 (k (lss rfl rfl rfl rfl (z (nx ?_))))))))))))
    refine cd (b := decide ((j : Int) < ((listR a).length : Int))) rfl rfl (fun b1 => ?_) (fun b1 => ?_)
    ·
      have p1 := of_decide_eq_true b1
      refine sk (nx (sq (bk (sq (sq ?_)))))
      rcases Bool.eq_false_or_eq_true (decide (0 < (j : Int))) with b2 | b2
      · -- decide (0 < (j : Int)) is True
        have p2 := of_decide_eq_true b2
        obtain ⟨x0, hx0⟩ : ∃ x, (listR a)[(j : Int).toNat]? = some x := ⟨_, List.getElem?_eq_getElem (by first | omega | (simp; omega))⟩
        obtain ⟨x1, hx1⟩ : ∃ x, (listR a)[((j : Int) - 1).toNat]? = some x := ⟨_, List.getElem?_eq_getElem (by first | omega | (simp; omega))⟩
        obtain ⟨x2, hx2⟩ : ∃ x, (listR a)[(j : Int).toNat]? = some x := ⟨_, List.getElem?_eq_getElem (by first | omega | (simp; omega))⟩
        refine dr 20 [fun (v : Value) (w' : World) => v = .int .i64 (j : Int), fun (v : Value) (w' : World) => v = .bool (decide (0 < (j : Int))), fun (v : Value) (w' : World) => v = .bool (decide (0 < (j : Int))), fun (v : Value) (w' : World) => v = .slice a0 (listR a).length c0, fun (v : Value) (w' : World) => v = .int .i64 (j : Int), fun (v : Value) (w' : World) => ∃ (g0 : Nat), v = .pointer (some ⟨g0, (j : Int).toNat * 1, none⟩) ∧ (.slice a0 (listR a).length c0 : Value).ownBlock = some g0 ∧ AtW (MS M [imm (.slice a2 xs.length c2) xs, imm (.slice a1 (newR (64 * (a.length : Int))).length c1) (newR (64 * (a.length : Int))), own w.heap.size 3 (.slice a0 (listR a).length c0) (listR a), imm (.slice a_a a.length c_a) a]) w' ⟨g0, (j : Int).toNat * 1, none⟩ x0, fun (v : Value) (w' : World) => v = .int .i64 x0 ∧ I64 (x0), fun (v : Value) (w' : World) => v = .slice a0 (listR a).length c0, fun (v : Value) (w' : World) => v = .int .i64 (j : Int), fun (v : Value) (w' : World) => v = .int .i64 ((j : Int) - 1), fun (v : Value) (w' : World) => ∃ (g1 : Nat), v = .pointer (some ⟨g1, ((j : Int) - 1).toNat * 1, none⟩) ∧ (.slice a0 (listR a).length c0 : Value).ownBlock = some g1 ∧ AtW (MS M [imm (.slice a2 xs.length c2) xs, imm (.slice a1 (newR (64 * (a.length : Int))).length c1) (newR (64 * (a.length : Int))), own w.heap.size 3 (.slice a0 (listR a).length c0) (listR a), imm (.slice a_a a.length c_a) a]) w' ⟨g1, ((j : Int) - 1).toNat * 1, none⟩ x1, fun (v : Value) (w' : World) => v = .int .i64 x1 ∧ I64 (x1), fun (v : Value) (w' : World) => v = .bool (decide (x0 ≤ x1)), fun (v : Value) (w' : World) => v = .bool (decide (x0 ≤ x1)), fun (v : Value) (w' : World) => v = .bool (decide (x0 ≤ x1)), fun (v : Value) (w' : World) => v = .slice a_a a.length c_a, fun (v : Value) (w' : World) => v = .slice a0 (listR a).length c0, fun (v : Value) (w' : World) => v = .int .i64 (j : Int), fun (v : Value) (w' : World) => ∃ (g2 : Nat), v = .pointer (some ⟨g2, (j : Int).toNat * 1, none⟩) ∧ (.slice a0 (listR a).length c0 : Value).ownBlock = some g2 ∧ AtW (MS M [imm (.slice a2 xs.length c2) xs, imm (.slice a1 (newR (64 * (a.length : Int))).length c1) (newR (64 * (a.length : Int))), own w.heap.size 3 (.slice a0 (listR a).length c0) (listR a), imm (.slice a_a a.length c_a) a]) w' ⟨g2, (j : Int).toNat * 1, none⟩ x2, fun (v : Value) (w' : World) => v = .int .i64 x2 ∧ I64 (x2)] rfl (by kernel_rfl) ?_ ?_
        ·
          refine ⟨fun _ => ⟨fun f1 w3 hf0 xt2 hp0 => ?_, fun _ _ _ _ h => h⟩, ?_⟩
          ·
            have H6 := H5.ext xt2
            refine mv rfl ((hf0 5 rfl).trans s3) ?_
            exact ⟨_, rfl, Ext.refl _, rfl⟩
          refine ⟨fun _ => ⟨fun f2 w4 hf1 xt3 hp1 => ?_, fun _ _ _ _ h => h⟩, ?_⟩
          ·
            have H7 := H5.ext xt3
            have s4 : f2 22 = .int .i64 (j : Int) := hp1 0 rfl rfl
            refine gtr rfl rfl s4 rfl ?_
            exact ⟨_, rfl, Ext.refl _, rfl⟩
          refine ⟨fun _ => ⟨fun f3 w5 hf2 xt4 hp2 => ?_, fun _ _ _ _ h => h⟩, ?_⟩
          ·
            have H8 := H5.ext xt4
            have s5 : f3 23 = .bool (decide (0 < (j : Int))) := hp2 1 rfl rfl
            refine mv rfl s5 ?_
            exact ⟨_, rfl, Ext.refl _, rfl⟩
          refine ⟨fun _ => ⟨fun f4 w6 hf3 xt5 hp3 => ?_, fun _ _ _ _ h => h⟩, ?_⟩
          ·
            have H9 := H5.ext xt5
            have s6 : f4 24 = .bool (decide (0 < (j : Int))) := hp3 2 rfl rfl
            refine gy rfl rfl s6 b2 (mv rfl ((hf3 3 rfl).trans s1) ?_)
            exact ⟨_, rfl, Ext.refl _, rfl⟩
          refine ⟨fun _ => ⟨fun f5 w7 hf4 xt6 hp4 => ?_, fun _ _ _ _ h => h⟩, ?_⟩
          ·
            have H10 := H5.ext xt6
            have s7 : f5 24 = .bool (decide (0 < (j : Int))) := hp4 2 rfl rfl
            refine gy rfl rfl s7 b2 (mv rfl ((hf4 5 rfl).trans s3) ?_)
            exact ⟨_, rfl, Ext.refl _, rfl⟩
          refine ⟨fun _ => ⟨fun f6 w8 hf5 xt7 hp5 => ?_, by rintro _ _ _ x_ ⟨g0, e_, hv0, hA0⟩; exact ⟨g0, e_, hv0, hA0.ext x_⟩⟩, ?_⟩
          ·
            have H11 := H5.ext xt7
            have s8 : f6 24 = .bool (decide (0 < (j : Int))) := hp5 2 rfl rfl
            have s9 : f6 25 = .slice a0 (listR a).length c0 := hp5 3 rfl rfl
            have s10 : f6 26 = .int .i64 (j : Int) := hp5 4 rfl rfl
            refine gy rfl rfl s8 b2 (iaO (H11.at_ 2 rfl) rfl rfl s9 s10 (by first | omega | (simp; omega)) un24 ty3 ?_)
            intro g3 x3 hv3 hx3 hA3
            obtain rfl : x0 = x3 := Option.some.inj (hx0.symm.trans hx3)
            exact ⟨_, rfl, Ext.refl _, ⟨g3, rfl, hv3, hA3⟩⟩
          refine ⟨fun _ => ⟨fun f7 w9 hf6 xt8 hp6 => ?_, fun _ _ _ _ h => h⟩, ?_⟩
          ·
            have H12 := H5.ext xt8
            have s11 : f7 24 = .bool (decide (0 < (j : Int))) := hp6 2 rfl rfl
            obtain ⟨g4, s12, hv4, hA4⟩ : ∃ (g4 : Nat), f7 27 = .pointer (some ⟨g4, (j : Int).toNat * 1, none⟩) ∧ (.slice a0 (listR a).length c0 : Value).ownBlock = some g4 ∧ AtW (MS M [imm (.slice a2 xs.length c2) xs, imm (.slice a1 (newR (64 * (a.length : Int))).length c1) (newR (64 * (a.length : Int))), own w.heap.size 3 (.slice a0 (listR a).length c0) (listR a), imm (.slice a_a a.length c_a) a]) w9 ⟨g4, (j : Int).toNat * 1, none⟩ x0 := hp6 5 rfl rfl
            refine gy rfl rfl s11 b2 (ldI hA4 ty3 rfl s12 ?_)
            intro rv5
            exact ⟨_, rfl, Ext.refl _, ⟨rfl, rv5⟩⟩
          refine ⟨fun _ => ⟨fun f8 w10 hf7 xt9 hp7 => ?_, fun _ _ _ _ h => h⟩, ?_⟩
          ·
            have H13 := H5.ext xt9
            have s13 : f8 24 = .bool (decide (0 < (j : Int))) := hp7 2 rfl rfl
            refine gy rfl rfl s13 b2 (mv rfl ((hf7 3 rfl).trans s1) ?_)
            exact ⟨_, rfl, Ext.refl _, rfl⟩
          refine ⟨fun _ => ⟨fun f9 w11 hf8 xt10 hp8 => ?_, fun _ _ _ _ h => h⟩, ?_⟩
          ·
            have H14 := H5.ext xt10
            have s14 : f9 24 = .bool (decide (0 < (j : Int))) := hp8 2 rfl rfl
            refine gy rfl rfl s14 b2 (mv rfl ((hf8 5 rfl).trans s3) ?_)
            exact ⟨_, rfl, Ext.refl _, rfl⟩
          refine ⟨fun _ => ⟨fun f10 w12 hf9 xt11 hp9 => ?_, fun _ _ _ _ h => h⟩, ?_⟩
          ·
            have H15 := H5.ext xt11
            have s15 : f10 24 = .bool (decide (0 < (j : Int))) := hp9 2 rfl rfl
            have s16 : f10 30 = .int .i64 (j : Int) := hp9 8 rfl rfl
            refine gy rfl rfl s15 b2 (sub rfl rfl s16 rfl (by have h_ := listR_length a; first | omega | (unfold I64; omega)) ?_)
            exact ⟨_, rfl, Ext.refl _, rfl⟩
          refine ⟨fun _ => ⟨fun f11 w13 hf10 xt12 hp10 => ?_, by rintro _ _ _ x_ ⟨g1, e_, hv1, hA1⟩; exact ⟨g1, e_, hv1, hA1.ext x_⟩⟩, ?_⟩
          ·
            have H16 := H5.ext xt12
            have s17 : f11 24 = .bool (decide (0 < (j : Int))) := hp10 2 rfl rfl
            have s18 : f11 29 = .slice a0 (listR a).length c0 := hp10 7 rfl rfl
            have s19 : f11 31 = .int .i64 ((j : Int) - 1) := hp10 9 rfl rfl
            refine gy rfl rfl s17 b2 (iaO (H16.at_ 2 rfl) rfl rfl s18 s19 (by first | omega | (simp; omega)) un24 ty3 ?_)
            intro g5 x4 hv5 hx4 hA5
            obtain rfl : x1 = x4 := Option.some.inj (hx1.symm.trans hx4)
            exact ⟨_, rfl, Ext.refl _, ⟨g5, rfl, hv5, hA5⟩⟩
          refine ⟨fun _ => ⟨fun f12 w14 hf11 xt13 hp11 => ?_, fun _ _ _ _ h => h⟩, ?_⟩
          ·
            have H17 := H5.ext xt13
            have s20 : f12 24 = .bool (decide (0 < (j : Int))) := hp11 2 rfl rfl
            obtain ⟨g6, s21, hv6, hA6⟩ : ∃ (g6 : Nat), f12 32 = .pointer (some ⟨g6, ((j : Int) - 1).toNat * 1, none⟩) ∧ (.slice a0 (listR a).length c0 : Value).ownBlock = some g6 ∧ AtW (MS M [imm (.slice a2 xs.length c2) xs, imm (.slice a1 (newR (64 * (a.length : Int))).length c1) (newR (64 * (a.length : Int))), own w.heap.size 3 (.slice a0 (listR a).length c0) (listR a), imm (.slice a_a a.length c_a) a]) w14 ⟨g6, ((j : Int) - 1).toNat * 1, none⟩ x1 := hp11 10 rfl rfl
            refine gy rfl rfl s20 b2 (ldI hA6 ty3 rfl s21 ?_)
            intro rv6
            exact ⟨_, rfl, Ext.refl _, ⟨rfl, rv6⟩⟩
          refine ⟨fun _ => ⟨fun f13 w15 hf12 xt14 hp12 => ?_, fun _ _ _ _ h => h⟩, ?_⟩
          ·
            have H18 := H5.ext xt14
            have s22 : f13 24 = .bool (decide (0 < (j : Int))) := hp12 2 rfl rfl
            obtain ⟨s23, rv7⟩ : f13 28 = .int .i64 x0 ∧ I64 (x0) := hp12 6 rfl rfl
            obtain ⟨s24, rv8⟩ : f13 33 = .int .i64 x1 ∧ I64 (x1) := hp12 11 rfl rfl
            refine gy rfl rfl s22 b2 (leq rfl rfl s23 s24 ?_)
            exact ⟨_, rfl, Ext.refl _, rfl⟩
          refine ⟨fun _ => ⟨fun f14 w16 hf13 xt15 hp13 => ?_, fun _ _ _ _ h => h⟩, ?_⟩
          ·
            have H19 := H5.ext xt15
            have s25 : f14 24 = .bool (decide (0 < (j : Int))) := hp13 2 rfl rfl
            have s26 : f14 34 = .bool (decide (x0 ≤ x1)) := hp13 12 rfl rfl
            refine pickT rfl rfl rfl s25 b2 s26 ?_
            exact ⟨_, rfl, Ext.refl _, rfl⟩
          refine ⟨fun _ => ⟨fun f15 w17 hf14 xt16 hp14 => ?_, fun _ _ _ _ h => h⟩, ?_⟩
          ·
            have H20 := H5.ext xt16
            have s27 : f15 35 = .bool (decide (x0 ≤ x1)) := hp14 13 rfl rfl
            refine mv rfl s27 ?_
            exact ⟨_, rfl, Ext.refl _, rfl⟩
          refine ⟨fun _ => ⟨fun f16 w18 hf15 xt17 hp15 => ?_, fun _ _ _ _ h => h⟩, ?_⟩
          ·
            have H21 := H5.ext xt17
            have s28 : f16 36 = .bool (decide (x0 ≤ x1)) := hp15 14 rfl rfl
            refine gy rfl rfl s28 (rise_at (by omega) hx0 hx1) (mv rfl ((hf15 0 rfl).trans s0) ?_)
            exact ⟨_, rfl, Ext.refl _, rfl⟩
          refine ⟨fun _ => ⟨fun f17 w19 hf16 xt18 hp16 => ?_, fun _ _ _ _ h => h⟩, ?_⟩
          ·
            have H22 := H5.ext xt18
            have s29 : f17 36 = .bool (decide (x0 ≤ x1)) := hp16 14 rfl rfl
            refine gy rfl rfl s29 (rise_at (by omega) hx0 hx1) (mv rfl ((hf16 3 rfl).trans s1) ?_)
            exact ⟨_, rfl, Ext.refl _, rfl⟩
          refine ⟨fun _ => ⟨fun f18 w20 hf17 xt19 hp17 => ?_, fun _ _ _ _ h => h⟩, ?_⟩
          ·
            have H23 := H5.ext xt19
            have s30 : f18 36 = .bool (decide (x0 ≤ x1)) := hp17 14 rfl rfl
            refine gy rfl rfl s30 (rise_at (by omega) hx0 hx1) (mv rfl ((hf17 5 rfl).trans s3) ?_)
            exact ⟨_, rfl, Ext.refl _, rfl⟩
          refine ⟨fun _ => ⟨fun f19 w21 hf18 xt20 hp18 => ?_, by rintro _ _ _ x_ ⟨g2, e_, hv2, hA2⟩; exact ⟨g2, e_, hv2, hA2.ext x_⟩⟩, ?_⟩
          ·
            have H24 := H5.ext xt20
            have s31 : f19 36 = .bool (decide (x0 ≤ x1)) := hp18 14 rfl rfl
            have s32 : f19 38 = .slice a0 (listR a).length c0 := hp18 16 rfl rfl
            have s33 : f19 39 = .int .i64 (j : Int) := hp18 17 rfl rfl
            refine gy rfl rfl s31 (rise_at (by omega) hx0 hx1) (iaO (H24.at_ 2 rfl) rfl rfl s32 s33 (by first | omega | (simp; omega)) un24 ty3 ?_)
            intro g7 x5 hv7 hx5 hA7
            obtain rfl : x2 = x5 := Option.some.inj (hx2.symm.trans hx5)
            exact ⟨_, rfl, Ext.refl _, ⟨g7, rfl, hv7, hA7⟩⟩
          refine ⟨fun _ => ⟨fun f20 w22 hf19 xt21 hp19 => ?_, fun _ _ _ _ h => h⟩, ?_⟩
          ·
            have H25 := H5.ext xt21
            have s34 : f20 36 = .bool (decide (x0 ≤ x1)) := hp19 14 rfl rfl
            obtain ⟨g8, s35, hv8, hA8⟩ : ∃ (g8 : Nat), f20 40 = .pointer (some ⟨g8, (j : Int).toNat * 1, none⟩) ∧ (.slice a0 (listR a).length c0 : Value).ownBlock = some g8 ∧ AtW (MS M [imm (.slice a2 xs.length c2) xs, imm (.slice a1 (newR (64 * (a.length : Int))).length c1) (newR (64 * (a.length : Int))), own w.heap.size 3 (.slice a0 (listR a).length c0) (listR a), imm (.slice a_a a.length c_a) a]) w22 ⟨g8, (j : Int).toNat * 1, none⟩ x2 := hp19 18 rfl rfl
            refine gy rfl rfl s34 (rise_at (by omega) hx0 hx1) (ldI hA8 ty3 rfl s35 ?_)
            intro rv9
            exact ⟨_, rfl, Ext.refl _, ⟨rfl, rv9⟩⟩
          exact DSteps.rest rfl _
        · intro f21 w23 hf20 xt22 hp20
          have H26 := H5.ext xt22
          have s36 : f21 0 = .slice a_a a.length c_a := (hf20 0 rfl).trans s0
          have s37 : f21 3 = .slice a0 (listR a).length c0 := (hf20 3 rfl).trans s1
          have s38 : f21 4 = .slice a2 xs.length c2 := (hf20 4 rfl).trans s2
          have s39 : f21 5 = .int .i64 (j : Int) := (hf20 5 rfl).trans s3
          have s40 : f21 36 = .bool (decide (x0 ≤ x1)) := hp20 14 rfl
          have s41 : f21 37 = .slice a_a a.length c_a := hp20 15 rfl
          obtain ⟨s42, rv10⟩ : f21 41 = .int .i64 x2 ∧ I64 (x2) := hp20 19 rfl
          refine k (gy rfl rfl s40 (rise_at (by omega) hx0 hx1) ?_)
          have cc2 := row_Has (r := a) (i := x2) (w := w23) H26.mb (H26.rv 3 rfl) (by first | assumption | (unfold I64 at *; omega))
          refine ca go16 rfl (ec s41 (ec s42 e0)) cc2 ?_
          rintro _ w24 ⟨rfl, xt23⟩
          have H27 := H26.ext xt23
          refine k (gy rfl rfl s40 (rise_at (by omega) hx0 hx1) (not_ rfl rfl (k (pickF rfl rfl rfl s40 (rise_at (by omega) hx0 hx1) rfl (z (nx (cdF rfl rfl (by rw [show hasR a x2 = true from (mem_listR.1 (List.mem_of_getElem? (by assumption)))]; rfl) (sk (nx (rg (k (mv rfl s38 (k (mv rfl s37 (k (mv rfl s39 (k (iaO (H27.at_ 2 rfl) rfl rfl rfl rfl (by first | omega | (simp; omega)) un24 ty3 ?_))))))))))))))))))
          intro g9 x6 hv9 hx6 hA9
          refine k (ldI hA9 ty3 rfl rfl ?_)
          intro rv11
          refine k ?_
          have cc3 := row_Set (r := xs) (i := x6) (w := w24) H27.mb (H27.rv 0 rfl) (by first | assumption | (unfold I64 at *; omega)) (by rw [hs, foldl_setR_length, newR_length, words_mul]; omega)
          refine ca go17 rfl (ec rfl (ec rfl e0)) cc3 ?_
          rintro _ w25 ⟨a3, c3, rfl, xt24, rv12⟩
          have H28 := H27.ownsG rv12
          refine k (asg rfl rfl (z (inb_normal (nx (rg (k (mv rfl s39 (k (add rfl rfl rfl rfl (by have h_ := listR_length a; first | omega | (unfold I64; omega)) (k (asg rfl rfl (z ?_))))))))))))
          have H29 := H28.freeze 0 rfl
          have H30 := H29.put (it := imm (.slice a3 (setR xs x6).length c3) (setR xs x6)) rfl (H29.rv 0 rfl)
          have H31 : HI M w w25 [imm (.slice a3 (setR xs x6).length c3) (setR xs x6), imm (.slice a1 (newR (64 * (a.length : Int))).length c1) (newR (64 * (a.length : Int))), own w.heap.size 3 (.slice a0 (listR a).length c0) (listR a), imm (.slice a_a a.length c_a) a] := H30.pickN [0, 3, 4, 5] (by decide) rfl
          refine loopN _ ?_ ⟨(j + 1), (setR xs x6), a3, c3, rfl, s36, s37, rfl, (ieq rfl (by first | rfl | omega | (push_cast; omega))), H31, (by first | assumption | omega | simp | (simp; omega)), (by have e_ := take_at (r := listR a) (k := j) (by assumption); rw [e_, List.foldl_append, ← hs]; rfl)⟩
          omega
      · -- decide (0 < (j : Int)) is False
        have p2 := of_decide_eq_false b2
        obtain ⟨x0, hx0⟩ : ∃ x, (listR a)[(j : Int).toNat]? = some x := ⟨_, List.getElem?_eq_getElem (by first | omega | (simp; omega))⟩
        refine dr 20 [fun (v : Value) (w' : World) => v = .int .i64 (j : Int), fun (v : Value) (w' : World) => v = .bool (decide (0 < (j : Int))), fun (v : Value) (w' : World) => v = .bool (decide (0 < (j : Int))), fun (_ : Value) (_ : World) => True, fun (_ : Value) (_ : World) => True, fun (_ : Value) (_ : World) => True, fun (_ : Value) (_ : World) => True, fun (_ : Value) (_ : World) => True, fun (_ : Value) (_ : World) => True, fun (_ : Value) (_ : World) => True, fun (_ : Value) (_ : World) => True, fun (_ : Value) (_ : World) => True, fun (_ : Value) (_ : World) => True, fun (v : Value) (w' : World) => v = .bool false, fun (v : Value) (w' : World) => v = .bool false, fun (v : Value) (w' : World) => v = .slice a_a a.length c_a, fun (v : Value) (w' : World) => v = .slice a0 (listR a).length c0, fun (v : Value) (w' : World) => v = .int .i64 (j : Int), fun (v : Value) (w' : World) => ∃ (g0 : Nat), v = .pointer (some ⟨g0, (j : Int).toNat * 1, none⟩) ∧ (.slice a0 (listR a).length c0 : Value).ownBlock = some g0 ∧ AtW (MS M [imm (.slice a2 xs.length c2) xs, imm (.slice a1 (newR (64 * (a.length : Int))).length c1) (newR (64 * (a.length : Int))), own w.heap.size 3 (.slice a0 (listR a).length c0) (listR a), imm (.slice a_a a.length c_a) a]) w' ⟨g0, (j : Int).toNat * 1, none⟩ x0, fun (v : Value) (w' : World) => v = .int .i64 x0 ∧ I64 (x0)] rfl (by kernel_rfl) ?_ ?_
        ·
          refine ⟨fun _ => ⟨fun f1 w3 hf0 xt2 hp0 => ?_, fun _ _ _ _ h => h⟩, ?_⟩
          ·
            have H6 := H5.ext xt2
            refine mv rfl ((hf0 5 rfl).trans s3) ?_
            exact ⟨_, rfl, Ext.refl _, rfl⟩
          refine ⟨fun _ => ⟨fun f2 w4 hf1 xt3 hp1 => ?_, fun _ _ _ _ h => h⟩, ?_⟩
          ·
            have H7 := H5.ext xt3
            have s4 : f2 22 = .int .i64 (j : Int) := hp1 0 rfl rfl
            refine gtr rfl rfl s4 rfl ?_
            exact ⟨_, rfl, Ext.refl _, rfl⟩
          refine ⟨fun _ => ⟨fun f3 w5 hf2 xt4 hp2 => ?_, fun _ _ _ _ h => h⟩, ?_⟩
          ·
            have H8 := H5.ext xt4
            have s5 : f3 23 = .bool (decide (0 < (j : Int))) := hp2 1 rfl rfl
            refine mv rfl s5 ?_
            exact ⟨_, rfl, Ext.refl _, rfl⟩
          refine ⟨fun _ => ⟨fun f4 w6 hf3 xt5 hp3 => ?_, fun _ _ _ _ h => h⟩, ?_⟩
          ·
            have H9 := H5.ext xt5
            have s6 : f4 24 = .bool (decide (0 < (j : Int))) := hp3 2 rfl rfl
            refine gn rfl rfl s6 b2 ?_
            exact ⟨_, rfl, Ext.refl _, trivial⟩
          refine ⟨fun _ => ⟨fun f5 w7 hf4 xt6 hp4 => ?_, fun _ _ _ _ h => h⟩, ?_⟩
          ·
            have H10 := H5.ext xt6
            have s7 : f5 24 = .bool (decide (0 < (j : Int))) := hp4 2 rfl rfl
            refine gn rfl rfl s7 b2 ?_
            exact ⟨_, rfl, Ext.refl _, trivial⟩
          refine ⟨fun _ => ⟨fun f6 w8 hf5 xt7 hp5 => ?_, fun _ _ _ _ h => h⟩, ?_⟩
          ·
            have H11 := H5.ext xt7
            have s8 : f6 24 = .bool (decide (0 < (j : Int))) := hp5 2 rfl rfl
            refine gn rfl rfl s8 b2 ?_
            exact ⟨_, rfl, Ext.refl _, trivial⟩
          refine ⟨fun _ => ⟨fun f7 w9 hf6 xt8 hp6 => ?_, fun _ _ _ _ h => h⟩, ?_⟩
          ·
            have H12 := H5.ext xt8
            have s9 : f7 24 = .bool (decide (0 < (j : Int))) := hp6 2 rfl rfl
            refine gn rfl rfl s9 b2 ?_
            exact ⟨_, rfl, Ext.refl _, trivial⟩
          refine ⟨fun _ => ⟨fun f8 w10 hf7 xt9 hp7 => ?_, fun _ _ _ _ h => h⟩, ?_⟩
          ·
            have H13 := H5.ext xt9
            have s10 : f8 24 = .bool (decide (0 < (j : Int))) := hp7 2 rfl rfl
            refine gn rfl rfl s10 b2 ?_
            exact ⟨_, rfl, Ext.refl _, trivial⟩
          refine ⟨fun _ => ⟨fun f9 w11 hf8 xt10 hp8 => ?_, fun _ _ _ _ h => h⟩, ?_⟩
          ·
            have H14 := H5.ext xt10
            have s11 : f9 24 = .bool (decide (0 < (j : Int))) := hp8 2 rfl rfl
            refine gn rfl rfl s11 b2 ?_
            exact ⟨_, rfl, Ext.refl _, trivial⟩
          refine ⟨fun _ => ⟨fun f10 w12 hf9 xt11 hp9 => ?_, fun _ _ _ _ h => h⟩, ?_⟩
          ·
            have H15 := H5.ext xt11
            have s12 : f10 24 = .bool (decide (0 < (j : Int))) := hp9 2 rfl rfl
            refine gn rfl rfl s12 b2 ?_
            exact ⟨_, rfl, Ext.refl _, trivial⟩
          refine ⟨fun _ => ⟨fun f11 w13 hf10 xt12 hp10 => ?_, fun _ _ _ _ h => h⟩, ?_⟩
          ·
            have H16 := H5.ext xt12
            have s13 : f11 24 = .bool (decide (0 < (j : Int))) := hp10 2 rfl rfl
            refine gn rfl rfl s13 b2 ?_
            exact ⟨_, rfl, Ext.refl _, trivial⟩
          refine ⟨fun _ => ⟨fun f12 w14 hf11 xt13 hp11 => ?_, fun _ _ _ _ h => h⟩, ?_⟩
          ·
            have H17 := H5.ext xt13
            have s14 : f12 24 = .bool (decide (0 < (j : Int))) := hp11 2 rfl rfl
            refine gn rfl rfl s14 b2 ?_
            exact ⟨_, rfl, Ext.refl _, trivial⟩
          refine ⟨fun _ => ⟨fun f13 w15 hf12 xt14 hp12 => ?_, fun _ _ _ _ h => h⟩, ?_⟩
          ·
            have H18 := H5.ext xt14
            have s15 : f13 24 = .bool (decide (0 < (j : Int))) := hp12 2 rfl rfl
            refine gn rfl rfl s15 b2 ?_
            exact ⟨_, rfl, Ext.refl _, trivial⟩
          refine ⟨fun _ => ⟨fun f14 w16 hf13 xt15 hp13 => ?_, fun _ _ _ _ h => h⟩, ?_⟩
          ·
            have H19 := H5.ext xt15
            have s16 : f14 24 = .bool (decide (0 < (j : Int))) := hp13 2 rfl rfl
            refine pickF rfl rfl rfl s16 b2 rfl ?_
            exact ⟨_, rfl, Ext.refl _, rfl⟩
          refine ⟨fun _ => ⟨fun f15 w17 hf14 xt16 hp14 => ?_, fun _ _ _ _ h => h⟩, ?_⟩
          ·
            have H20 := H5.ext xt16
            have s17 : f15 35 = .bool false := hp14 13 rfl rfl
            refine mv rfl s17 ?_
            exact ⟨_, rfl, Ext.refl _, rfl⟩
          refine ⟨fun _ => ⟨fun f16 w18 hf15 xt17 hp15 => ?_, fun _ _ _ _ h => h⟩, ?_⟩
          ·
            have H21 := H5.ext xt17
            have s18 : f16 36 = .bool false := hp15 14 rfl rfl
            refine gy rfl rfl s18 rfl (mv rfl ((hf15 0 rfl).trans s0) ?_)
            exact ⟨_, rfl, Ext.refl _, rfl⟩
          refine ⟨fun _ => ⟨fun f17 w19 hf16 xt18 hp16 => ?_, fun _ _ _ _ h => h⟩, ?_⟩
          ·
            have H22 := H5.ext xt18
            have s19 : f17 36 = .bool false := hp16 14 rfl rfl
            refine gy rfl rfl s19 rfl (mv rfl ((hf16 3 rfl).trans s1) ?_)
            exact ⟨_, rfl, Ext.refl _, rfl⟩
          refine ⟨fun _ => ⟨fun f18 w20 hf17 xt19 hp17 => ?_, fun _ _ _ _ h => h⟩, ?_⟩
          ·
            have H23 := H5.ext xt19
            have s20 : f18 36 = .bool false := hp17 14 rfl rfl
            refine gy rfl rfl s20 rfl (mv rfl ((hf17 5 rfl).trans s3) ?_)
            exact ⟨_, rfl, Ext.refl _, rfl⟩
          refine ⟨fun _ => ⟨fun f19 w21 hf18 xt20 hp18 => ?_, by rintro _ _ _ x_ ⟨g0, e_, hv0, hA0⟩; exact ⟨g0, e_, hv0, hA0.ext x_⟩⟩, ?_⟩
          ·
            have H24 := H5.ext xt20
            have s21 : f19 36 = .bool false := hp18 14 rfl rfl
            have s22 : f19 38 = .slice a0 (listR a).length c0 := hp18 16 rfl rfl
            have s23 : f19 39 = .int .i64 (j : Int) := hp18 17 rfl rfl
            refine gy rfl rfl s21 rfl (iaO (H24.at_ 2 rfl) rfl rfl s22 s23 (by first | omega | (simp; omega)) un24 ty3 ?_)
            intro g1 x1 hv1 hx1 hA1
            obtain rfl : x0 = x1 := Option.some.inj (hx0.symm.trans hx1)
            exact ⟨_, rfl, Ext.refl _, ⟨g1, rfl, hv1, hA1⟩⟩
          refine ⟨fun _ => ⟨fun f20 w22 hf19 xt21 hp19 => ?_, fun _ _ _ _ h => h⟩, ?_⟩
          ·
            have H25 := H5.ext xt21
            have s24 : f20 36 = .bool false := hp19 14 rfl rfl
            obtain ⟨g2, s25, hv2, hA2⟩ : ∃ (g2 : Nat), f20 40 = .pointer (some ⟨g2, (j : Int).toNat * 1, none⟩) ∧ (.slice a0 (listR a).length c0 : Value).ownBlock = some g2 ∧ AtW (MS M [imm (.slice a2 xs.length c2) xs, imm (.slice a1 (newR (64 * (a.length : Int))).length c1) (newR (64 * (a.length : Int))), own w.heap.size 3 (.slice a0 (listR a).length c0) (listR a), imm (.slice a_a a.length c_a) a]) w22 ⟨g2, (j : Int).toNat * 1, none⟩ x0 := hp19 18 rfl rfl
            refine gy rfl rfl s24 rfl (ldI hA2 ty3 rfl s25 ?_)
            intro rv3
            exact ⟨_, rfl, Ext.refl _, ⟨rfl, rv3⟩⟩
          exact DSteps.rest rfl _
        · intro f21 w23 hf20 xt22 hp20
          have H26 := H5.ext xt22
          have s26 : f21 0 = .slice a_a a.length c_a := (hf20 0 rfl).trans s0
          have s27 : f21 3 = .slice a0 (listR a).length c0 := (hf20 3 rfl).trans s1
          have s28 : f21 4 = .slice a2 xs.length c2 := (hf20 4 rfl).trans s2
          have s29 : f21 5 = .int .i64 (j : Int) := (hf20 5 rfl).trans s3
          have s30 : f21 36 = .bool false := hp20 14 rfl
          have s31 : f21 37 = .slice a_a a.length c_a := hp20 15 rfl
          obtain ⟨s32, rv4⟩ : f21 41 = .int .i64 x0 ∧ I64 (x0) := hp20 19 rfl
          refine k (gy rfl rfl s30 rfl ?_)
          have cc2 := row_Has (r := a) (i := x0) (w := w23) H26.mb (H26.rv 3 rfl) (by first | assumption | (unfold I64 at *; omega))
          refine ca go16 rfl (ec s31 (ec s32 e0)) cc2 ?_
          rintro _ w24 ⟨rfl, xt23⟩
          have H27 := H26.ext xt23
          refine k (gy rfl rfl s30 rfl (not_ rfl rfl (k (pickF rfl rfl rfl s30 rfl rfl (z (nx (cdF rfl rfl (by rw [show hasR a x0 = true from (mem_listR.1 (List.mem_of_getElem? (by assumption)))]; rfl) (sk (nx (rg (k (mv rfl s28 (k (mv rfl s27 (k (mv rfl s29 (k (iaO (H27.at_ 2 rfl) rfl rfl rfl rfl (by first | omega | (simp; omega)) un24 ty3 ?_))))))))))))))))))
          intro g3 x2 hv3 hx2 hA3
          refine k (ldI hA3 ty3 rfl rfl ?_)
          intro rv5
          refine k ?_
          have cc3 := row_Set (r := xs) (i := x2) (w := w24) H27.mb (H27.rv 0 rfl) (by first | assumption | (unfold I64 at *; omega)) (by rw [hs, foldl_setR_length, newR_length, words_mul]; omega)
          refine ca go17 rfl (ec rfl (ec rfl e0)) cc3 ?_
          rintro _ w25 ⟨a3, c3, rfl, xt24, rv6⟩
          have H28 := H27.ownsG rv6
          refine k (asg rfl rfl (z (inb_normal (nx (rg (k (mv rfl s29 (k (add rfl rfl rfl rfl (by have h_ := listR_length a; first | omega | (unfold I64; omega)) (k (asg rfl rfl (z ?_))))))))))))
          have H29 := H28.freeze 0 rfl
          have H30 := H29.put (it := imm (.slice a3 (setR xs x2).length c3) (setR xs x2)) rfl (H29.rv 0 rfl)
          have H31 : HI M w w25 [imm (.slice a3 (setR xs x2).length c3) (setR xs x2), imm (.slice a1 (newR (64 * (a.length : Int))).length c1) (newR (64 * (a.length : Int))), own w.heap.size 3 (.slice a0 (listR a).length c0) (listR a), imm (.slice a_a a.length c_a) a] := H30.pickN [0, 3, 4, 5] (by decide) rfl
          refine loopN _ ?_ ⟨(j + 1), (setR xs x2), a3, c3, rfl, s26, s27, rfl, (ieq rfl (by first | rfl | omega | (push_cast; omega))), H31, (by first | assumption | omega | simp | (simp; omega)), (by have e_ := take_at (r := listR a) (k := j) (by assumption); rw [e_, List.foldl_append, ← hs]; rfl)⟩
          omega
    ·
      have p1 := of_decide_eq_false b1
      refine ex (then_exit (loop_exit (inb_here (nx (sq (rg (k ?_)))))))
      have cc2 := awake02 (w := w2)
      refine ca go13 rfl e0 cc2 ?_
      rintro _ w3 ⟨rfl, xt2⟩
      have H6 := H5.ext xt2
      refine k (mv rfl rfl (k (gy rfl rfl rfl rfl (mv rfl s0 (k (gy rfl rfl rfl rfl (mv rfl s2 (k (gy rfl rfl rfl rfl ?_)))))))))
      have cc3 := ref02_Same (a := a) (b := xs) (w := w3) H6.mb (H6.rv 3 rfl) (H6.rv 0 rfl)
      refine ca go18 rfl (ec rfl (ec rfl e0)) cc3 ?_
      rintro _ w4 ⟨rfl, xt3⟩
      have H7 := H6.ext xt3
      refine k (pickT rfl rfl rfl rfl rfl rfl (k (mv rfl rfl (k (gy rfl rfl rfl (by rw [hs, take_end (by omega), setAll]; simp) (mv rfl s1 (k (gy rfl rfl rfl (by rw [hs, take_end (by omega), setAll]; simp) (lnS rfl rfl un24 (k (gy rfl rfl rfl (by rw [hs, take_end (by omega), setAll]; simp) (mv rfl s0 (k (gy rfl rfl rfl (by rw [hs, take_end (by omega), setAll]; simp) ?_))))))))))))))
      have cc4 := row_Count (r := a) (w := w4) H7.mb (H7.rv 3 rfl) (by first | omega | (simp; omega))
      refine ca go19 rfl (ec rfl e0) cc4 ?_
      rintro _ w5 ⟨rfl, xt4⟩
      have H8 := H7.ext xt4
      refine k (gy rfl rfl rfl (by rw [hs, take_end (by omega), setAll]; simp) (eql rfl rfl rfl rfl (k (pickT rfl rfl rfl rfl (by rw [hs, take_end (by omega), setAll]; simp) rfl (k (asg rfl rfl (z (nx (rt (r1 rfl rfl ?_))))))))))
      have e0 : (decide (((listR a).length : Int) = ((countR a : Nat) : Int)) : Bool) = true := by exact (by rw [listR_count]; simp)
      have ev_ := cg1 (fun (x_0 : Bool) => (.bool x_0 : Value)) e0
      exact ⟨ev_, H8.below⟩
/- eyewitness/eyewitnesslaw02.RowSets -/
set_option maxRecDepth 100000 in
set_option maxHeartbeats 200000 in
theorem law_RowSets {M : Nat → Prop} {w : World} {a_a : Option Addr} {c_a : Nat} {a : List (BitVec 64)} {a_b : Option Addr} {c_b : Nat} {b : List (BitVec 64)} (hM : ∀ b, M b → b < w.heap.size) (hT : TabAt 0 w) (h_a : RV M w (.slice a_a a.length c_a) a) (h_b : RV M w (.slice a_b b.length c_b) b) : Calls Tryd.prog 5 #[.slice a_a a.length c_a, .slice a_b b.length c_b] w (Ret fun v w' =>  v = .bool true ∧ Ext w w') := by
  refine enter 75 Tryd.func5 rfl rfl rfl fun f0 ha => ?_
  have H := HI.start (M0 := M) (w := w) hM
  have H0 := H.put (it := imm (.slice a_a a.length c_a) a) rfl (by rw [MS_nil]; exact h_a)
  have H1 := H0.put (it := imm (.slice a_b b.length c_b) b) rfl (by rw [MS_cons_none rfl, MS_nil]; exact h_b)
  have ln_a := rv_len h_a
  have ln_b := rv_len h_b
  have i0 : f0 0 = .slice a_a a.length c_a := ha 0 (by simp)
  have i1 : f0 1 = .slice a_b b.length c_b := ha 1 (by simp)
  refine sq (rg (k (asg rfl rfl (z (nx (sq (sq (rg (k (mv rfl i0 (k (lnS rfl rfl un22 (k (gtr rfl rfl rfl rfl (k (mv rfl rfl ?_))))))))))))))))
  rcases Bool.eq_false_or_eq_true (decide (10 < (a.length : Int))) with b0 | b0
  · -- decide (10 < (a.length : Int)) is True
    have p0 := of_decide_eq_true b0
    refine k (gn rfl rfl rfl b0 (k (gn rfl rfl rfl b0 (k (gn rfl rfl rfl b0 (k (pickT rfl rfl rfl rfl b0 rfl (z (nx (cdT rfl rfl rfl (sq (rg (k ?_)))))))))))))
    have cc0 := awake02 (w := w)
    refine ca go13 rfl e0 cc0 ?_
    rintro _ w0 ⟨rfl, xt0⟩
    have H2 := H1.ext xt0
    refine k (asg rfl rfl (z (nx (rt (then_ret (r1 rfl rfl ?_))))))
    exact ⟨rfl, H2.below⟩
  · -- decide (10 < (a.length : Int)) is False
    have p0 := of_decide_eq_false b0
    refine k (gy rfl rfl rfl b0 (mv rfl i1 (k (gy rfl rfl rfl b0 (lnS rfl rfl un22 (k (gy rfl rfl rfl b0 (gtr rfl rfl rfl rfl (k (pickF rfl rfl rfl rfl b0 rfl (z (nx ?_))))))))))))
    refine cd (b := decide (10 < (b.length : Int))) rfl rfl (fun b1 => ?_) (fun b1 => ?_)
    ·
      have p1 := of_decide_eq_true b1
      refine sq (rg (k ?_))
      have cc0 := awake02 (w := w)
      refine ca go13 rfl e0 cc0 ?_
      rintro _ w0 ⟨rfl, xt0⟩
      have H2 := H1.ext xt0
      refine k (asg rfl rfl (z (nx (rt (then_ret (r1 rfl rfl ?_))))))
      exact ⟨rfl, H2.below⟩
    ·
      have p1 := of_decide_eq_false b1
      refine sk (nx (sq (rg (k (mv rfl i0 (k (mv rfl i1 (k ?_))))))))
      have cc0 := row_Or (a := a) (b := b) (w := w) H1.mb (H1.rv 1 rfl) (H1.rv 0 rfl) (by first | omega | (simp; omega)) (by first | omega | (simp; omega))
      refine ca go25 rfl (ec rfl (ec rfl e0)) cc0 ?_
      rintro _ w0 ⟨a0, c0, rfl, xt0, rv0⟩
      have H2 := H1.ownsG rv0
      refine k (asg rfl rfl (z (nx (sq (rg (k (mv rfl rfl (k ?_))))))))
      have H3 := H2.freeze 0 rfl
      have cc1 := row_List (r := (orR a b)) (w := w0) H3.mb (hT.ext H3.below) (H3.rv 0 rfl) (by rw [orR_length]; omega)
      refine ca go14 rfl (ec rfl e0) cc1 ?_
      rintro _ w1 ⟨a1, c1, rfl, xt1, rv1⟩
      have H4 := H3.ownsG rv1
      refine k (asg rfl rfl (z (nx (sq (sq (rg (k (asg rfl rfl (z (nx (bk ?_)))))))))))
      refine lp (fun m f w' => ∃ (j : Nat), m = (listR (orR a b)).length - j ∧ f 0 = .slice a_a a.length c_a ∧ f 1 = .slice a_b b.length c_b ∧ f 5 = .slice a0 (orR a b).length c0 ∧ f 6 = .slice a1 (listR (orR a b)).length c1 ∧ f 7 = .int .i64 (j : Int) ∧  HI M w w' [own w.heap.size 3 (.slice a1 (listR (orR a b)).length c1) (listR (orR a b)), imm (.slice a0 (orR a b).length c0) (orR a b), imm (.slice a_b b.length c_b) b, imm (.slice a_a a.length c_a) a] ∧ (j ≤ (listR (orR a b)).length)) _ ⟨0, rfl, i0, i1, rfl, rfl, (ieq rfl (by first | rfl | omega | simp)), H4, (by first | assumption | omega | simp | (simp; omega))⟩ ?_
      rintro _ f0 w2 ⟨j, rfl, s0, s1, s2, s3, s4, H5, hk⟩
      refine sq (sq (rg (k (mv rfl s4 (k (mv rfl s3 (k (lnS rfl rfl un24 (k (lss rfl rfl rfl rfl (z (nx ?_))))))))))))
      refine cd (b := decide ((j : Int) < ((listR (orR a b)).length : Int))) rfl rfl (fun b2 => ?_) (fun b2 => ?_)
      ·
        have p2 := of_decide_eq_true b2
        refine sk (nx (sq (bk (sq (rg (k (mv rfl s0 (k (mv rfl s3 (k (mv rfl s4 (k (iaO (H5.at_ 0 rfl) rfl rfl rfl rfl (by first | omega | (simp; omega)) un24 ty3 ?_)))))))))))))
        intro g0 x0 hv0 hx0 hA0
        refine k (ldI hA0 ty3 rfl rfl ?_)
        intro rv2
        refine k ?_
        have cc2 := row_Has (r := a) (i := x0) (w := w2) H5.mb (H5.rv 3 rfl) (by first | assumption | (unfold I64 at *; omega))
        refine ca go16 rfl (ec rfl (ec rfl e0)) cc2 ?_
        rintro _ w3 ⟨rfl, xt2⟩
        have H6 := H5.ext xt2
        refine k (not_ rfl rfl (k (mv rfl rfl ?_)))
        rcases Bool.eq_false_or_eq_true (!(hasR a x0)) with b3 | b3
        · -- !(hasR a x0) is True
          refine k (gy rfl rfl rfl b3 (mv rfl s1 (k (gy rfl rfl rfl b3 (mv rfl s3 (k (gy rfl rfl rfl b3 (mv rfl s4 (k (gy rfl rfl rfl b3 (iaO (H6.at_ 0 rfl) rfl rfl rfl rfl (by first | omega | (simp; omega)) un24 ty3 ?_)))))))))))
          intro g1 x1 hv1 hx1 hA1
          refine k (gy rfl rfl rfl b3 (ldI hA1 ty3 rfl rfl ?_))
          intro rv3
          refine k (gy rfl rfl rfl b3 ?_)
          have cc3 := row_Has (r := b) (i := x1) (w := w3) H6.mb (H6.rv 2 rfl) (by first | assumption | (unfold I64 at *; omega))
          refine ca go16 rfl (ec rfl (ec rfl e0)) cc3 ?_
          rintro _ w4 ⟨rfl, xt3⟩
          have H7 := H6.ext xt3
          refine k (gy rfl rfl rfl b3 (not_ rfl rfl (k (pickT rfl rfl rfl rfl b3 rfl (z (nx (cdF rfl rfl (by rw [show hasR b x1 = true from (by have e_ := at_is hx1 hx0; subst e_; have h_ := mem_listR.1 (List.mem_of_getElem? hx0); rw [hasR_or] at h_; have b_ := b1; simp_all)]; rfl) (sk (inb_normal (nx (rg (k (mv rfl s4 (k (add rfl rfl rfl rfl (by have h_ := listR_length (orR a b); rw [orR_length] at h_; unfold I64; omega) (k (asg rfl rfl (z ?_))))))))))))))))))
          refine loopN _ ?_ ⟨(j + 1), rfl, s0, s1, s2, s3, (ieq rfl (by first | rfl | omega | (push_cast; omega))), H7, (by first | assumption | omega | simp | (simp; omega))⟩
          omega
        · -- !(hasR a x0) is False
          refine k (gn rfl rfl rfl b3 (k (gn rfl rfl rfl b3 (k (gn rfl rfl rfl b3 (k (gn rfl rfl rfl b3 (k (gn rfl rfl rfl b3 (k (gn rfl rfl rfl b3 (k (gn rfl rfl rfl b3 (k (pickF rfl rfl rfl rfl b3 rfl (z (nx (cdF rfl rfl rfl (sk (inb_normal (nx (rg (k (mv rfl s4 (k (add rfl rfl rfl rfl (by have h_ := listR_length (orR a b); rw [orR_length] at h_; unfold I64; omega) (k (asg rfl rfl (z ?_)))))))))))))))))))))))))))))
          refine loopN _ ?_ ⟨(j + 1), rfl, s0, s1, s2, s3, (ieq rfl (by first | rfl | omega | (push_cast; omega))), H6, (by first | assumption | omega | simp | (simp; omega))⟩
          omega
      ·
        have p2 := of_decide_eq_false b2
        refine ex (then_exit (loop_exit (inb_here (nx (sq (rg (k ?_)))))))
        have cc2 := awake02 (w := w2)
        refine ca go13 rfl e0 cc2 ?_
        rintro _ w3 ⟨rfl, xt2⟩
        have H6 := H5.ext xt2
        refine k (mv rfl rfl (k (gy rfl rfl rfl rfl (mv rfl s0 (k (gy rfl rfl rfl rfl (mv rfl s2 (k (gy rfl rfl rfl rfl ?_)))))))))
        have cc3 := row_Sub (a := a) (b := (orR a b)) (w := w3) H6.mb (H6.rv 3 rfl) (H6.rv 1 rfl)
        refine ca go27 rfl (ec rfl (ec rfl e0)) cc3 ?_
        rintro _ w4 ⟨rfl, xt3⟩
        have H7 := H6.ext xt3
        refine k (pickT rfl rfl rfl rfl rfl rfl (k (mv rfl rfl (k (gy rfl rfl rfl (subR_or _ _) (mv rfl s1 (k (gy rfl rfl rfl (subR_or _ _) (mv rfl s2 (k (gy rfl rfl rfl (subR_or _ _) ?_)))))))))))
        have cc4 := row_Sub (a := b) (b := (orR a b)) (w := w4) H7.mb (H7.rv 2 rfl) (H7.rv 1 rfl)
        refine ca go27 rfl (ec rfl (ec rfl e0)) cc4 ?_
        rintro _ w5 ⟨rfl, xt4⟩
        have H8 := H7.ext xt4
        refine k (pickT rfl rfl rfl rfl (subR_or _ _) rfl (k (mv rfl rfl (k (gy rfl rfl rfl (subR_or' _ _) (mv rfl s2 (k (gy rfl rfl rfl (subR_or' _ _) (mv rfl s1 (k (gy rfl rfl rfl (subR_or' _ _) (mv rfl s0 (k (gy rfl rfl rfl (subR_or' _ _) ?_))))))))))))))
        have cc5 := row_Or (a := b) (b := a) (w := w5) H8.mb (H8.rv 2 rfl) (H8.rv 3 rfl) (by first | omega | (simp; omega)) (by first | omega | (simp; omega))
        refine ca go25 rfl (ec rfl (ec rfl e0)) cc5 ?_
        rintro _ w6 ⟨a2, c2, rfl, xt5, rv2⟩
        have H9 := H8.ownsG rv2
        refine k (gy rfl rfl rfl (subR_or' _ _) ?_)
        have H10 := H9.freeze 0 rfl
        have cc6 := row_Same (a := (orR a b)) (b := (orR b a)) (w := w6) H10.mb (H10.rv 2 rfl) (H10.rv 0 rfl)
        refine ca go32 rfl (ec rfl (ec rfl e0)) cc6 ?_
        rintro _ w7 ⟨rfl, xt6⟩
        have H11 := H10.ext xt6
        refine k (pickT rfl rfl rfl rfl (subR_or' _ _) rfl (k (mv rfl rfl (k (gy rfl rfl rfl (by rw [orR_comm b a]; simp) (mv rfl s0 (k (gy rfl rfl rfl (by rw [orR_comm b a]; simp) (mv rfl s1 (k (gy rfl rfl rfl (by rw [orR_comm b a]; simp) ?_)))))))))))
        have cc7 := row_Sub (a := a) (b := b) (w := w7) H11.mb (H11.rv 4 rfl) (H11.rv 3 rfl)
        refine ca go27 rfl (ec rfl (ec rfl e0)) cc7 ?_
        rintro _ w8 ⟨rfl, xt7⟩
        have H12 := H11.ext xt7
        refine k (gy rfl rfl rfl (by rw [orR_comm b a]; simp) (mv rfl s0 (k (gy rfl rfl rfl (by rw [orR_comm b a]; simp) (mv rfl s1 (k (gy rfl rfl rfl (by rw [orR_comm b a]; simp) ?_)))))))
        have cc8 := row_Or (a := a) (b := b) (w := w8) H12.mb (H12.rv 4 rfl) (H12.rv 3 rfl) (by first | omega | (simp; omega)) (by first | omega | (simp; omega))
        refine ca go25 rfl (ec rfl (ec rfl e0)) cc8 ?_
        rintro _ w9 ⟨a3, c3, rfl, xt8, rv3⟩
        have H13 := H12.ownsG rv3
        refine k (gy rfl rfl rfl (by rw [orR_comm b a]; simp) ?_)
        have H14 := H13.freeze 0 rfl
        have cc9 := row_Count (r := (orR a b)) (w := w9) H14.mb (H14.rv 0 rfl) (by rw [orR_length]; omega)
        refine ca go19 rfl (ec rfl e0) cc9 ?_
        rintro _ w10 ⟨rfl, xt9⟩
        have H15 := H14.ext xt9
        refine k (gy rfl rfl rfl (by rw [orR_comm b a]; simp) (mv rfl s1 (k (gy rfl rfl rfl (by rw [orR_comm b a]; simp) ?_))))
        have cc10 := row_Count (r := b) (w := w10) H15.mb (H15.rv 4 rfl) (by first | omega | (simp; omega))
        refine ca go19 rfl (ec rfl e0) cc10 ?_
        rintro _ w11 ⟨rfl, xt10⟩
        have H16 := H15.ext xt10
        refine k (gy rfl rfl rfl (by rw [orR_comm b a]; simp) (eql rfl rfl rfl rfl (k (gy rfl rfl rfl (by rw [orR_comm b a]; simp) (eqB rfl rfl rfl rfl un4 (k (pickT rfl rfl rfl rfl (by rw [orR_comm b a]; simp) rfl (k (asg rfl rfl (z (nx (rt (r1 rfl rfl ?_)))))))))))))
        have e0 : ((subR a b) == (decide (((countR (orR a b) : Nat) : Int) = ((countR b : Nat) : Int))) : Bool) = true := by exact (sub_count a b)
        have ev_ := cg1 (fun (x_0 : Bool) => (.bool x_0 : Value)) e0
        exact ⟨ev_, H16.below⟩
end Go.Proofs.YtfakagpjgpbkbaaDoor
