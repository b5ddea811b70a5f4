/- PRINTED by my own tool (wip/tool/gen.py): contracts of Go functions of this seat, each with its proof. -/
import Derived.Test.YtmhopljngkgidaaDoorOwnA
import Derived.Test.YtmhopljngkgidaaDoorOwnB
import Derived.Test.YtmhopljngkgidaaDoorGenA
namespace Go.Proofs.YtmhopljngkgidaaDoor
open Go.Ew Go.RowKit
set_option linter.unusedVariables false
set_option linter.unusedSimpArgs false
attribute [local irreducible] WL WC SO Code.wp wpList retQ Ret
attribute [local irreducible] bitB hasW inR hasR setR countW countR subR words newR listR orR firstW tab8
theorem fl57_0 : FldF Tryd.prog 57 0 0 := ⟨_, _, Tryd.underlying57, rfl, rfl, by kernel_rfl⟩
theorem fl57_1 : FldF Tryd.prog 57 1 2 := ⟨_, _, Tryd.underlying57, rfl, rfl, by kernel_rfl⟩
theorem fl57_2 : FldF Tryd.prog 57 2 3 := ⟨_, _, Tryd.underlying57, rfl, rfl, by kernel_rfl⟩
theorem fl57_3 : FldF Tryd.prog 57 3 4 := ⟨_, _, Tryd.underlying57, rfl, rfl, by kernel_rfl⟩
theorem go36 : GoF Tryd.prog 36 := ⟨_, _, Tryd.func36, rfl, by kernel_rfl⟩
theorem go37 : GoF Tryd.prog 37 := ⟨_, _, Tryd.func37, rfl, by kernel_rfl⟩
set_option maxRecDepth 100000 in
set_option maxHeartbeats 1600000 in
theorem law_PathShort {M : Nat → Prop} {w : World} {mn : Int} {a_mr : Option Addr} {c_mr : Nat} {mr : List (List (BitVec 64))} {i : Int} {j : Int} {k3 : Int} (hM : ∀ b, M b → b < w.heap.size) (hT : TabAt 0 w) (h_mn : I64 mn) (h_mr : RV M w (.slice a_mr mr.length c_mr) mr) (h_i : 0 ≤ i ∧ i ≤ 255) (h_j : 0 ≤ j ∧ j ≤ 255) (h_k3 : 0 ≤ k3 ∧ k3 ≤ 255) : Calls Tryd.prog 10 #[.agg #[.int .i64 mn, .slice a_mr mr.length c_mr, .int .u8 i, .int .u8 j, .int .u8 k3]] w (Ret fun v w' =>  v = .bool true ∧ Ext w w') := by
  refine enter 107 Tryd.func10 rfl rfl rfl fun f0 ha => ?_
  have H := HI.start (M0 := M) (w := w) hM
  have H0 := H.put (it := imm (.slice a_mr mr.length c_mr) mr) rfl (by rw [MS_nil]; exact h_mr)
  have ln_mr := rv_len h_mr
  have i0 : f0 0 = .agg #[.int .i64 mn, .slice a_mr mr.length c_mr, .int .u8 i, .int .u8 j, .int .u8 k3] := ha 0 (by simp)
  refine sq (rg (k (bx H0 rfl i0 ?_)))
  intro bb0 w0 xt0 (H1 : HI M w w0 [box bb0 #[.int .i64 mn, .slice a_mr mr.length c_mr, .int .u8 i, .int .u8 j, .int .u8 k3] 57, imm (.slice a_mr mr.length c_mr) mr])
  refine k (asg (v := .bool false) rfl rfl (z (nx (sq ?_))))
  refine drs [.v, .v, .v, .v, .v, .v, .v, .v, .n, .s 8 1, .v, .v, .v] [fun (v : Value) => v = .pointer (some ⟨bb0, 0, none⟩), fun (v : Value) => v = .agg #[.int .i64 mn, .slice a_mr mr.length c_mr], fun (v : Value) => v = .pointer (some ⟨bb0, 2, none⟩), fun (v : Value) => v = .int .u8 i, fun (v : Value) => v = .pointer (some ⟨bb0, 3, none⟩), fun (v : Value) => v = .int .u8 j, fun (v : Value) => v = .pointer (some ⟨bb0, 4, none⟩), fun (v : Value) => v = .int .u8 k3, fun _ => True, fun _ => True, fun (v : Value) => v = .int .u8 i, fun (v : Value) => v = .int .u8 j, fun (v : Value) => v = .int .u8 k3] [(#[], 0), (#[], 0), (#[], 0), (#[], 0), (#[], 0), (#[], 0), (#[], 0), (#[], 0), (#[.int .i64 0, .slice none 0 0], 24), (#[], 0), (#[], 0), (#[], 0), (#[], 0)] rfl (by kernel_rfl) ?_ ?_
  ·
    refine ⟨⟨rfl, fun f0 w2 hf0 xt2 hp0 => ?_⟩, ?_⟩
    ·
      refine fa fl57_0 rfl (hf0 1 rfl) ?_
      exact ⟨_, rfl, rfl, rfl⟩
    refine ⟨⟨rfl, fun f1 w3 hf1 xt3 hp1 => ?_⟩, ?_⟩
    ·
      have s0 : f1 16 = .pointer (some ⟨bb0, 0, none⟩) := hp1 0 rfl ⟨_, rfl, rfl⟩
      refine ldX (H1.ext xt3) 0 rfl ty24 rfl s0 (by decide) rfl ?_
      exact ⟨_, rfl, rfl, rfl⟩
    refine ⟨⟨rfl, fun f2 w4 hf2 xt4 hp2 => ?_⟩, ?_⟩
    ·
      refine fa fl57_1 rfl (hf2 1 rfl) ?_
      exact ⟨_, rfl, rfl, rfl⟩
    refine ⟨⟨rfl, fun f3 w5 hf3 xt5 hp3 => ?_⟩, ?_⟩
    ·
      have s1 : f3 18 = .pointer (some ⟨bb0, 2, none⟩) := hp3 2 rfl ⟨_, rfl, rfl⟩
      refine ldX (H1.ext xt5) 0 rfl ty5 rfl s1 (by decide) rfl ?_
      exact ⟨_, rfl, rfl, rfl⟩
    refine ⟨⟨rfl, fun f4 w6 hf4 xt6 hp4 => ?_⟩, ?_⟩
    ·
      refine fa fl57_2 rfl (hf4 1 rfl) ?_
      exact ⟨_, rfl, rfl, rfl⟩
    refine ⟨⟨rfl, fun f5 w7 hf5 xt7 hp5 => ?_⟩, ?_⟩
    ·
      have s2 : f5 20 = .pointer (some ⟨bb0, 3, none⟩) := hp5 4 rfl ⟨_, rfl, rfl⟩
      refine ldX (H1.ext xt7) 0 rfl ty5 rfl s2 (by decide) rfl ?_
      exact ⟨_, rfl, rfl, rfl⟩
    refine ⟨⟨rfl, fun f6 w8 hf6 xt8 hp6 => ?_⟩, ?_⟩
    ·
      refine fa fl57_3 rfl (hf6 1 rfl) ?_
      exact ⟨_, rfl, rfl, rfl⟩
    refine ⟨⟨rfl, fun f7 w9 hf7 xt9 hp7 => ?_⟩, ?_⟩
    ·
      have s3 : f7 22 = .pointer (some ⟨bb0, 4, none⟩) := hp7 6 rfl ⟨_, rfl, rfl⟩
      refine ldX (H1.ext xt9) 0 rfl ty5 rfl s3 (by decide) rfl ?_
      exact ⟨_, rfl, rfl, rfl⟩
    refine ⟨⟨rfl, fun f8 w10 hf8 xt10 hp8 => ?_⟩, ?_⟩
    ·
      refine alS ty24 ?_
      exact ⟨rfl, rfl, trivial⟩
    refine ⟨⟨rfl, rfl, rfl, ⟨_, rfl, rfl⟩, ⟨_, rfl, rfl⟩, trivial, by intro _ e_; rw [e_]; rfl, fun f9 w12 bb2 cur0 xt12 s4 hb0 hc0 hv0 => ?_⟩, ?_⟩
    ·
      have e_ := hv0
      exact stS ty24 rfl rfl s4 rfl hb0 ((congrArg (fun v => v.cells.size) e_).trans rfl) hc0 ((congrArg (fun v => v.cells.toList.all Value.oneCell') e_).trans rfl)
    refine ⟨⟨rfl, fun f10 w13 hf9 xt13 hp9 => ?_⟩, ?_⟩
    ·
      have s5 : f10 19 = .int .u8 i := hp9 3 rfl ⟨_, rfl, rfl⟩
      refine asg rfl s5 ?_
      exact ⟨_, rfl, rfl, rfl⟩
    refine ⟨⟨rfl, fun f11 w14 hf10 xt14 hp10 => ?_⟩, ?_⟩
    ·
      have s6 : f11 21 = .int .u8 j := hp10 5 rfl ⟨_, rfl, rfl⟩
      refine asg rfl s6 ?_
      exact ⟨_, rfl, rfl, rfl⟩
    refine ⟨⟨rfl, fun f12 w15 hf11 xt15 hp11 => ?_⟩, ?_⟩
    ·
      have s7 : f12 23 = .int .u8 k3 := hp11 7 rfl ⟨_, rfl, rfl⟩
      refine asg rfl s7 ?_
      exact ⟨_, rfl, rfl, rfl⟩
    exact trivial
  · intro f13 w16 B0 hf12 xt16 hp12 hB0 hd0
    have s8 : f13 4 = .int .u8 i := hp12 10 _ rfl rfl
    have s9 : f13 5 = .int .u8 j := hp12 11 _ rfl rfl
    have s10 : f13 6 = .int .u8 k3 := hp12 12 _ rfl rfl
    have s11 : f13 17 = .agg #[.int .i64 mn, .slice a_mr mr.length c_mr] := hp12 1 _ rfl rfl
    obtain ⟨s12, hg0, cur1, hc1, hk0⟩ := hB0 8 (by decide) trivial
    have hq0 : cur1 = #[.int .i64 mn, .slice a_mr mr.length c_mr] := (hk0.2.1 9 1 rfl rfl).trans (congrArg Value.cells s11)
    rw [hq0] at hc1
    have H3 : HI M w w16 [box (B0 8) #[.int .i64 mn, .slice a_mr mr.length c_mr] 24, box bb0 #[.int .i64 mn, .slice a_mr mr.length c_mr, .int .u8 i, .int .u8 j, .int .u8 k3] 57, imm (.slice a_mr mr.length c_mr) mr] := H1.lays xt16 [((B0 8), #[.int .i64 mn, .slice a_mr mr.length c_mr], 24)] (by intro q_ hq_; simp only [List.mem_cons, List.not_mem_nil, or_false] at hq_; rcases hq_ with rfl <;> first | exact ⟨hg0, hc1⟩) (by simp only [List.map_cons, List.map_nil, List.nodup_cons, List.mem_cons, List.not_mem_nil, or_false, List.nodup_nil, and_true, not_or, not_false_eq_true, true_and] <;> omega)
    refine nx (sq (sq (rg (k (ldX H3 0 rfl ty24 rfl s12 (by decide) rfl (k ?_))))))
    have cc0 := may14 (mn := mn) (mr := mr) (w := w16) H3.mb (by first | assumption | (unfold I64 at *; omega)) (H3.rv 2 rfl)
    refine ca go36 rfl (ec rfl e0) cc0 ?_
    rintro _ w17 ⟨rfl, xt17⟩
    have H4 := H3.ext xt17
    refine k (not_ rfl rfl (k (mv (v := .bool (!(smallM mr 16 && rightS mn mr))) rfl rfl ?_)))
    rcases Bool.eq_false_or_eq_true (!(smallM mr 16 && rightS mn mr)) with b0 | b0
    · -- !(smallM mr 16 && rightS mn mr) is True
      refine k (gn rfl rfl rfl b0 (k (gn rfl rfl rfl b0 (k (gn rfl rfl rfl b0 (k (pickT rfl rfl rfl rfl b0 rfl (z (nx (cdT rfl rfl rfl (sq (rg (k ?_)))))))))))))
      have cc1 := awake14 (w := w17) (hT.ext H4.below)
      refine ca go37 rfl e0 cc1 ?_
      rintro _ w18 ⟨rfl, xt18⟩
      have H5 := H4.ext xt18
      refine k (asg (v := .bool true) rfl rfl (z (nx (rt (then_ret (r1 rfl rfl ?_))))))
      exact ⟨rfl, H5.below⟩
    · -- !(smallM mr 16 && rightS mn mr) is False
      refine k (gy rfl rfl rfl b0 (fa fl24_0 rfl s12 (k (gy rfl rfl rfl b0 (ldX H4 0 rfl ty3 rfl rfl (by decide) rfl (k (gy rfl rfl rfl b0 (eql rfl rfl rfl rfl (k (pickF rfl rfl rfl rfl b0 rfl (z (nx ?_))))))))))))
      refine cd (b := decide (mn = 0)) rfl rfl (fun b1 => ?_) (fun b1 => ?_)
      ·
        have p1 := of_decide_eq_true b1
        refine sq (rg (k ?_))
        have cc1 := awake14 (w := w17) (hT.ext H4.below)
        refine ca go37 rfl e0 cc1 ?_
        rintro _ w18 ⟨rfl, xt18⟩
        have H5 := H4.ext xt18
        refine k (asg (v := .bool true) rfl rfl (z (nx (rt (then_ret (r1 rfl rfl ?_))))))
        exact ⟨rfl, H5.below⟩
      ·
        have p1 := of_decide_eq_false b1
        refine sk (nx (sq ?_))
        have mmm_ : (smallM mr 16 && rightS mn mr) = true := by simpa using ‹(!(smallM mr 16 && rightS mn mr)) = false›
        have rtm_ : rightS mn mr = true := by simp only [Bool.and_eq_true] at mmm_; exact mmm_.2
        have h0_ := right_pos rtm_
        have h4_ := (right_sq rtm_).2.2.1
        have hz_ : ¬ mn = 0 := by assumption
        have ha_ : 0 ≤ i % mn ∧ i % mn < mn := ⟨Int.emod_nonneg i hz_, Int.emod_lt_of_pos i (by omega)⟩
        have hb_ : 0 ≤ j % mn ∧ j % mn < mn := ⟨Int.emod_nonneg j hz_, Int.emod_lt_of_pos j (by omega)⟩
        have hc_ : 0 ≤ k3 % mn ∧ k3 % mn < mn := ⟨Int.emod_nonneg k3 hz_, Int.emod_lt_of_pos k3 (by omega)⟩
        refine dr 17 [fun (v : Value) (w' : World) => v = .int .u8 i, fun (v : Value) (w' : World) => v = .int .i64 i, fun (v : Value) (w' : World) => v = .pointer (some ⟨(B0 8), 0, none⟩), fun (v : Value) (w' : World) => v = .int .i64 mn, fun (v : Value) (w' : World) => v = .int .i64 (i % mn), fun (v : Value) (w' : World) => v = .int .u8 j, fun (v : Value) (w' : World) => v = .int .i64 j, fun (v : Value) (w' : World) => v = .pointer (some ⟨(B0 8), 0, none⟩), fun (v : Value) (w' : World) => v = .int .i64 mn, fun (v : Value) (w' : World) => v = .int .i64 (j % mn), fun (v : Value) (w' : World) => v = .int .u8 k3, fun (v : Value) (w' : World) => v = .int .i64 k3, fun (v : Value) (w' : World) => v = .pointer (some ⟨(B0 8), 0, none⟩), fun (v : Value) (w' : World) => v = .int .i64 mn, fun (v : Value) (w' : World) => v = .int .i64 (k3 % mn), fun (v : Value) (w' : World) => v = .int .i64 (i % mn), fun (v : Value) (w' : World) => v = .int .i64 (j % mn)] rfl (by kernel_rfl) ?_ ?_
        ·
          refine ⟨fun _ => ⟨fun f14 w18 hf13 xt18 hp13 => ?_, fun _ _ _ _ h => h⟩, ?_⟩
          ·
            have H5 := H4.ext xt18
            refine mv rfl ((hf13 4 rfl).trans s8) ?_
            exact ⟨_, rfl, Ext.refl _, rfl⟩
          refine ⟨fun _ => ⟨fun f15 w19 hf14 xt19 hp14 => ?_, fun _ _ _ _ h => h⟩, ?_⟩
          ·
            have H6 := H4.ext xt19
            have s13 : f15 33 = .int .u8 i := hp14 0 rfl rfl
            refine cvI rfl s13 (by first | assumption | (unfold I64 at *; omega)) un5 un3 ?_
            exact ⟨_, rfl, Ext.refl _, rfl⟩
          refine ⟨fun _ => ⟨fun f16 w20 hf15 xt20 hp15 => ?_, fun _ _ _ _ h => h⟩, ?_⟩
          ·
            have H7 := H4.ext xt20
            refine fa fl24_0 rfl ((hf15 3 rfl).trans s12) ?_
            exact ⟨_, rfl, Ext.refl _, rfl⟩
          refine ⟨fun _ => ⟨fun f17 w21 hf16 xt21 hp16 => ?_, fun _ _ _ _ h => h⟩, ?_⟩
          ·
            have H8 := H4.ext xt21
            have s14 : f17 35 = .pointer (some ⟨(B0 8), 0, none⟩) := hp16 2 rfl rfl
            refine ldX H8 0 rfl ty3 rfl s14 (by decide) rfl ?_
            exact ⟨_, rfl, Ext.refl _, rfl⟩
          refine ⟨fun _ => ⟨fun f18 w22 hf17 xt22 hp17 => ?_, fun _ _ _ _ h => h⟩, ?_⟩
          ·
            have H9 := H4.ext xt22
            have s15 : f18 34 = .int .i64 i := hp17 1 rfl rfl
            have s16 : f18 36 = .int .i64 mn := hp17 3 rfl rfl
            refine rem rfl rfl s15 s16 (by first | omega | (simp; omega)) ?_
            exact ⟨_, rfl, Ext.refl _, rfl⟩
          refine ⟨fun _ => ⟨fun f19 w23 hf18 xt23 hp18 => ?_, fun _ _ _ _ h => h⟩, ?_⟩
          ·
            have H10 := H4.ext xt23
            refine mv rfl ((hf18 5 rfl).trans s9) ?_
            exact ⟨_, rfl, Ext.refl _, rfl⟩
          refine ⟨fun _ => ⟨fun f20 w24 hf19 xt24 hp19 => ?_, fun _ _ _ _ h => h⟩, ?_⟩
          ·
            have H11 := H4.ext xt24
            have s17 : f20 38 = .int .u8 j := hp19 5 rfl rfl
            refine cvI rfl s17 (by first | assumption | (unfold I64 at *; omega)) un5 un3 ?_
            exact ⟨_, rfl, Ext.refl _, rfl⟩
          refine ⟨fun _ => ⟨fun f21 w25 hf20 xt25 hp20 => ?_, fun _ _ _ _ h => h⟩, ?_⟩
          ·
            have H12 := H4.ext xt25
            refine fa fl24_0 rfl ((hf20 3 rfl).trans s12) ?_
            exact ⟨_, rfl, Ext.refl _, rfl⟩
          refine ⟨fun _ => ⟨fun f22 w26 hf21 xt26 hp21 => ?_, fun _ _ _ _ h => h⟩, ?_⟩
          ·
            have H13 := H4.ext xt26
            have s18 : f22 40 = .pointer (some ⟨(B0 8), 0, none⟩) := hp21 7 rfl rfl
            refine ldX H13 0 rfl ty3 rfl s18 (by decide) rfl ?_
            exact ⟨_, rfl, Ext.refl _, rfl⟩
          refine ⟨fun _ => ⟨fun f23 w27 hf22 xt27 hp22 => ?_, fun _ _ _ _ h => h⟩, ?_⟩
          ·
            have H14 := H4.ext xt27
            have s19 : f23 39 = .int .i64 j := hp22 6 rfl rfl
            have s20 : f23 41 = .int .i64 mn := hp22 8 rfl rfl
            refine rem rfl rfl s19 s20 (by first | omega | (simp; omega)) ?_
            exact ⟨_, rfl, Ext.refl _, rfl⟩
          refine ⟨fun _ => ⟨fun f24 w28 hf23 xt28 hp23 => ?_, fun _ _ _ _ h => h⟩, ?_⟩
          ·
            have H15 := H4.ext xt28
            refine mv rfl ((hf23 6 rfl).trans s10) ?_
            exact ⟨_, rfl, Ext.refl _, rfl⟩
          refine ⟨fun _ => ⟨fun f25 w29 hf24 xt29 hp24 => ?_, fun _ _ _ _ h => h⟩, ?_⟩
          ·
            have H16 := H4.ext xt29
            have s21 : f25 43 = .int .u8 k3 := hp24 10 rfl rfl
            refine cvI rfl s21 (by first | assumption | (unfold I64 at *; omega)) un5 un3 ?_
            exact ⟨_, rfl, Ext.refl _, rfl⟩
          refine ⟨fun _ => ⟨fun f26 w30 hf25 xt30 hp25 => ?_, fun _ _ _ _ h => h⟩, ?_⟩
          ·
            have H17 := H4.ext xt30
            refine fa fl24_0 rfl ((hf25 3 rfl).trans s12) ?_
            exact ⟨_, rfl, Ext.refl _, rfl⟩
          refine ⟨fun _ => ⟨fun f27 w31 hf26 xt31 hp26 => ?_, fun _ _ _ _ h => h⟩, ?_⟩
          ·
            have H18 := H4.ext xt31
            have s22 : f27 45 = .pointer (some ⟨(B0 8), 0, none⟩) := hp26 12 rfl rfl
            refine ldX H18 0 rfl ty3 rfl s22 (by decide) rfl ?_
            exact ⟨_, rfl, Ext.refl _, rfl⟩
          refine ⟨fun _ => ⟨fun f28 w32 hf27 xt32 hp27 => ?_, fun _ _ _ _ h => h⟩, ?_⟩
          ·
            have H19 := H4.ext xt32
            have s23 : f28 44 = .int .i64 k3 := hp27 11 rfl rfl
            have s24 : f28 46 = .int .i64 mn := hp27 13 rfl rfl
            refine rem rfl rfl s23 s24 (by first | omega | (simp; omega)) ?_
            exact ⟨_, rfl, Ext.refl _, rfl⟩
          refine ⟨fun _ => ⟨fun f29 w33 hf28 xt33 hp28 => ?_, fun _ _ _ _ h => h⟩, ?_⟩
          ·
            have H20 := H4.ext xt33
            have s25 : f29 37 = .int .i64 (i % mn) := hp28 4 rfl rfl
            refine asg rfl s25 ?_
            exact ⟨_, rfl, Ext.refl _, rfl⟩
          refine ⟨fun _ => ⟨fun f30 w34 hf29 xt34 hp29 => ?_, fun _ _ _ _ h => h⟩, ?_⟩
          ·
            have H21 := H4.ext xt34
            have s26 : f30 42 = .int .i64 (j % mn) := hp29 9 rfl rfl
            refine asg rfl s26 ?_
            exact ⟨_, rfl, Ext.refl _, rfl⟩
          exact DSteps.rest rfl _
        · intro f31 w35 hf30 xt35 hp30
          have H22 := H4.ext xt35
          have s27 : f31 3 = .pointer (some ⟨(B0 8), 0, none⟩) := (hf30 3 rfl).trans s12
          have s28 : f31 7 = .int .i64 (i % mn) := hp30 15 rfl
          have s29 : f31 8 = .int .i64 (j % mn) := hp30 16 rfl
          have s30 : f31 47 = .int .i64 (k3 % mn) := hp30 14 rfl
          refine k (asg rfl s30 (z (nx (sq (rg (k (ldX H22 0 rfl ty24 rfl s27 (by decide) rfl (k (mv rfl s28 (k (mv rfl s29 (k ?_))))))))))))
          have cc1 := path_Find (mn := mn) (mr := mr) (i := (i % mn)) (j := (j % mn)) (w := w35) H22.mb (hT.ext H22.below) (by first | assumption | (unfold I64 at *; omega)) (H22.rv 2 rfl) (by first | assumption | (unfold I64 at *; omega)) (by first | assumption | (unfold I64 at *; omega)) (by first | exact rtm_)
          refine ca go38 rfl (ec rfl (ec rfl (ec rfl e0))) cc1 ?_
          rintro _ w36 ⟨a0, c0, rfl, xt36, rv0⟩
          have H23 := H22.ownsG rv0
          refine k (mv (v := .tuple #[.slice a0 ((pathM mn mr (i % mn) (j % mn)).getD []).length c0, .bool ((pathM mn mr (i % mn) (j % mn)).isSome)]) rfl rfl (k (xt rfl rfl rfl (k (xt rfl rfl rfl (k (asg (v := .slice a0 ((pathM mn mr (i % mn) (j % mn)).getD []).length c0) rfl rfl (k (asg (v := .bool ((pathM mn mr (i % mn) (j % mn)).isSome)) rfl rfl (z (nx (sq (rg (k (ldX H23 1 rfl ty24 rfl s27 (by decide) rfl (k (mv rfl s28 (k (mv (v := .int .i64 (k3 % mn)) rfl rfl (k ?_))))))))))))))))))))
          have cc2 := path_Find (mn := mn) (mr := mr) (i := (i % mn)) (j := (k3 % mn)) (w := w36) H23.mb (hT.ext H23.below) (by first | assumption | (unfold I64 at *; omega)) (H23.rv 3 rfl) (by first | assumption | (unfold I64 at *; omega)) (by first | assumption | (unfold I64 at *; omega)) (by first | exact rtm_)
          refine ca go38 rfl (ec rfl (ec rfl (ec rfl e0))) cc2 ?_
          rintro _ w37 ⟨a1, c1, rfl, xt37, rv1⟩
          have H24 := H23.ownsG rv1
          refine k (mv (v := .tuple #[.slice a1 ((pathM mn mr (i % mn) (k3 % mn)).getD []).length c1, .bool ((pathM mn mr (i % mn) (k3 % mn)).isSome)]) rfl rfl (k (xt rfl rfl rfl (k (xt rfl rfl rfl (k (asg (v := .slice a1 ((pathM mn mr (i % mn) (k3 % mn)).getD []).length c1) rfl rfl (k (asg (v := .bool ((pathM mn mr (i % mn) (k3 % mn)).isSome)) rfl rfl (z (nx (sq (rg (k (ldX H24 2 rfl ty24 rfl s27 (by decide) rfl (k (mv (v := .int .i64 (k3 % mn)) rfl rfl (k (mv rfl s29 (k ?_))))))))))))))))))))
          have cc3 := path_Find (mn := mn) (mr := mr) (i := (k3 % mn)) (j := (j % mn)) (w := w37) H24.mb (hT.ext H24.below) (by first | assumption | (unfold I64 at *; omega)) (H24.rv 4 rfl) (by first | assumption | (unfold I64 at *; omega)) (by first | assumption | (unfold I64 at *; omega)) (by first | exact rtm_)
          refine ca go38 rfl (ec rfl (ec rfl (ec rfl e0))) cc3 ?_
          rintro _ w38 ⟨a2, c2, rfl, xt38, rv2⟩
          have H25 := H24.ownsG rv2
          refine k (mv (v := .tuple #[.slice a2 ((pathM mn mr (k3 % mn) (j % mn)).getD []).length c2, .bool ((pathM mn mr (k3 % mn) (j % mn)).isSome)]) rfl rfl (k (xt rfl rfl rfl (k (xt rfl rfl rfl (k (asg (v := .slice a2 ((pathM mn mr (k3 % mn) (j % mn)).getD []).length c2) rfl rfl (k (asg (v := .bool ((pathM mn mr (k3 % mn) (j % mn)).isSome)) rfl rfl (z (nx (sq ?_))))))))))))
          have l1_ := path_le rtm_ ha_ hb_
          have l2_ := path_le rtm_ ha_ hc_
          have l3_ := path_le rtm_ hc_ hb_
          refine rg (k ?_)
          have cc4 := awake14 (w := w38) (hT.ext H25.below)
          refine ca go37 rfl e0 cc4 ?_
          rintro _ w39 ⟨rfl, xt39⟩
          have H26 := H25.ext xt39
          refine k (mv (v := .bool true) rfl rfl (k (gy rfl rfl rfl rfl (mv (v := .bool ((pathM mn mr (i % mn) (k3 % mn)).isSome)) rfl rfl (k (gy rfl rfl rfl rfl (not_ rfl rfl (k (gy rfl rfl rfl rfl (mv (v := .bool (!((pathM mn mr (i % mn) (k3 % mn)).isSome))) rfl rfl ?_))))))))))
          rcases Bool.eq_false_or_eq_true (!((pathM mn mr (i % mn) (k3 % mn)).isSome)) with b2 | b2
          · -- !((pathM mn mr (i % mn) (k3 % mn)).isSome) is True
            refine k (gn rfl rfl rfl b2 (k (gn rfl rfl rfl b2 (k (gy rfl rfl rfl rfl (pickT rfl rfl rfl rfl b2 rfl (k (gy rfl rfl rfl rfl (mv (v := .bool true) rfl rfl (k (gn rfl rfl rfl rfl (k (gn rfl rfl rfl rfl (k (gu rfl rfl rfl (k (gu rfl rfl rfl (k (gu rfl rfl rfl (k (gu rfl rfl rfl (k (gu rfl rfl rfl (k (gu rfl rfl rfl (k (gu rfl rfl rfl (k (gu rfl rfl rfl (k (gu rfl rfl rfl (k (gn rfl rfl rfl rfl (k (gy rfl rfl rfl rfl (pickT rfl rfl rfl rfl rfl rfl (k (pickT rfl rfl rfl rfl rfl rfl (k (mv (v := .bool true) rfl rfl (k (gy rfl rfl rfl rfl (ldX H26 3 rfl ty24 rfl s27 (by decide) rfl (k (gy rfl rfl rfl rfl (mv rfl s28 (k (gy rfl rfl rfl rfl (mv rfl s29 (k (gy rfl rfl rfl rfl ?_)))))))))))))))))))))))))))))))))))))))))))))))))))
            have cc5 := ref03_Has (mn := mn) (mr := mr) (i := (i % mn)) (j := (j % mn)) (w := w39) H26.mb (by first | assumption | (unfold I64 at *; omega)) (H26.rv 5 rfl) (by first | assumption | (unfold I64 at *; omega)) (by first | assumption | (unfold I64 at *; omega)) (by first | exact (right_sq rtm_).1 | exact (right_sq rtm_).2.1 | exact (right_sq rtm_).2.2.1 | exact (right_sq rtm_).2.2.2.2) (by first | exact (right_sq rtm_).1 | exact (right_sq rtm_).2.1 | exact (right_sq rtm_).2.2.1 | exact (right_sq rtm_).2.2.2.2) (by first | exact (right_sq rtm_).1 | exact (right_sq rtm_).2.1 | exact (right_sq rtm_).2.2.1 | exact (right_sq rtm_).2.2.2.2)
            refine ca go45 rfl (ec rfl (ec rfl (ec rfl e0))) cc5 ?_
            rintro _ w40 ⟨rfl, xt40⟩
            have H27 := H26.ext xt40
            refine k (gy rfl rfl rfl rfl (not_ rfl rfl (k (gy rfl rfl rfl rfl (mv (v := .bool (!(hasM mn mr (i % mn) (j % mn)))) rfl rfl ?_)))))
            rcases Bool.eq_false_or_eq_true (!(hasM mn mr (i % mn) (j % mn))) with b3 | b3
            · -- !(hasM mn mr (i % mn) (j % mn)) is True
              refine k (gn rfl rfl rfl b3 (k (gn rfl rfl rfl b3 (k (gu rfl rfl rfl (k (gu rfl rfl rfl (k (gu rfl rfl rfl (k (gn rfl rfl rfl b3 (k (gy rfl rfl rfl rfl (pickT rfl rfl rfl rfl b3 rfl (k (pickT rfl rfl rfl rfl rfl rfl (k (asg (v := .bool true) rfl rfl (z (nx (rt (r1 rfl rfl ?_))))))))))))))))))))))
              exact ⟨rfl, H27.below⟩
            · -- !(hasM mn mr (i % mn) (j % mn)) is False
              refine k (gy rfl rfl rfl b3 (mv (v := .bool ((pathM mn mr (i % mn) (j % mn)).isSome)) rfl rfl (k (gy rfl rfl rfl b3 (mv (v := .bool ((pathM mn mr (i % mn) (j % mn)).isSome)) rfl rfl (k (gy rfl rfl rfl (path_one rtm_ ha_ hb_ (notf b3)).1 (mv (v := .slice a0 ((pathM mn mr (i % mn) (j % mn)).getD []).length c0) rfl rfl (k (gy rfl rfl rfl (path_one rtm_ ha_ hb_ (notf b3)).1 (lnS rfl rfl un42 (k (gy rfl rfl rfl (path_one rtm_ ha_ hb_ (notf b3)).1 (eql rfl rfl rfl rfl (k (gy rfl rfl rfl b3 (pickT rfl rfl rfl rfl (path_one rtm_ ha_ hb_ (notf b3)).1 rfl (k (gy rfl rfl rfl rfl (pickF rfl rfl rfl rfl b3 rfl (k (pickT rfl rfl rfl rfl rfl rfl (k (asg (v := .bool (decide ((((pathM mn mr (i % mn) (j % mn)).getD []).length : Int) = 2))) rfl rfl (z (nx (rt (r1 rfl rfl ?_))))))))))))))))))))))))))))
              have e0 : (decide ((((pathM mn mr (i % mn) (j % mn)).getD []).length : Int) = 2) : Bool) = true := by exact (decide_eq_true (by have h_ := (path_one rtm_ ha_ hb_ (notf b3)).2; omega))
              have ev_ := cg1 (fun (x_0 : Bool) => (.bool x_0 : Value)) e0
              exact ⟨ev_, H27.below⟩
          · -- !((pathM mn mr (i % mn) (k3 % mn)).isSome) is False
            refine k (gy rfl rfl rfl b2 (mv (v := .bool ((pathM mn mr (k3 % mn) (j % mn)).isSome)) rfl rfl (k (gy rfl rfl rfl b2 (not_ rfl rfl (k (gy rfl rfl rfl rfl (pickF rfl rfl rfl rfl b2 rfl (k (gy rfl rfl rfl rfl (mv (v := .bool (!((pathM mn mr (k3 % mn) (j % mn)).isSome))) rfl rfl ?_)))))))))))
            rcases Bool.eq_false_or_eq_true (!((pathM mn mr (k3 % mn) (j % mn)).isSome)) with b3 | b3
            · -- !((pathM mn mr (k3 % mn) (j % mn)).isSome) is True
              refine k (gn rfl rfl rfl b3 (k (gn rfl rfl rfl b3 (k (gu rfl rfl rfl (k (gu rfl rfl rfl (k (gu rfl rfl rfl (k (gu rfl rfl rfl (k (gu rfl rfl rfl (k (gu rfl rfl rfl (k (gu rfl rfl rfl (k (gu rfl rfl rfl (k (gu rfl rfl rfl (k (gn rfl rfl rfl b3 (k (gy rfl rfl rfl rfl (pickT rfl rfl rfl rfl b3 rfl (k (pickT rfl rfl rfl rfl rfl rfl (k (mv (v := .bool true) rfl rfl (k (gy rfl rfl rfl rfl (ldX H26 3 rfl ty24 rfl s27 (by decide) rfl (k (gy rfl rfl rfl rfl (mv rfl s28 (k (gy rfl rfl rfl rfl (mv rfl s29 (k (gy rfl rfl rfl rfl ?_)))))))))))))))))))))))))))))))))))))))))
              have cc5 := ref03_Has (mn := mn) (mr := mr) (i := (i % mn)) (j := (j % mn)) (w := w39) H26.mb (by first | assumption | (unfold I64 at *; omega)) (H26.rv 5 rfl) (by first | assumption | (unfold I64 at *; omega)) (by first | assumption | (unfold I64 at *; omega)) (by first | exact (right_sq rtm_).1 | exact (right_sq rtm_).2.1 | exact (right_sq rtm_).2.2.1 | exact (right_sq rtm_).2.2.2.2) (by first | exact (right_sq rtm_).1 | exact (right_sq rtm_).2.1 | exact (right_sq rtm_).2.2.1 | exact (right_sq rtm_).2.2.2.2) (by first | exact (right_sq rtm_).1 | exact (right_sq rtm_).2.1 | exact (right_sq rtm_).2.2.1 | exact (right_sq rtm_).2.2.2.2)
              refine ca go45 rfl (ec rfl (ec rfl (ec rfl e0))) cc5 ?_
              rintro _ w40 ⟨rfl, xt40⟩
              have H27 := H26.ext xt40
              refine k (gy rfl rfl rfl rfl (not_ rfl rfl (k (gy rfl rfl rfl rfl (mv (v := .bool (!(hasM mn mr (i % mn) (j % mn)))) rfl rfl ?_)))))
              rcases Bool.eq_false_or_eq_true (!(hasM mn mr (i % mn) (j % mn))) with b4 | b4
              · -- !(hasM mn mr (i % mn) (j % mn)) is True
                refine k (gn rfl rfl rfl b4 (k (gn rfl rfl rfl b4 (k (gu rfl rfl rfl (k (gu rfl rfl rfl (k (gu rfl rfl rfl (k (gn rfl rfl rfl b4 (k (gy rfl rfl rfl rfl (pickT rfl rfl rfl rfl b4 rfl (k (pickT rfl rfl rfl rfl rfl rfl (k (asg (v := .bool true) rfl rfl (z (nx (rt (r1 rfl rfl ?_))))))))))))))))))))))
                exact ⟨rfl, H27.below⟩
              · -- !(hasM mn mr (i % mn) (j % mn)) is False
                refine k (gy rfl rfl rfl b4 (mv (v := .bool ((pathM mn mr (i % mn) (j % mn)).isSome)) rfl rfl (k (gy rfl rfl rfl b4 (mv (v := .bool ((pathM mn mr (i % mn) (j % mn)).isSome)) rfl rfl (k (gy rfl rfl rfl (path_one rtm_ ha_ hb_ (notf b4)).1 (mv (v := .slice a0 ((pathM mn mr (i % mn) (j % mn)).getD []).length c0) rfl rfl (k (gy rfl rfl rfl (path_one rtm_ ha_ hb_ (notf b4)).1 (lnS rfl rfl un42 (k (gy rfl rfl rfl (path_one rtm_ ha_ hb_ (notf b4)).1 (eql rfl rfl rfl rfl (k (gy rfl rfl rfl b4 (pickT rfl rfl rfl rfl (path_one rtm_ ha_ hb_ (notf b4)).1 rfl (k (gy rfl rfl rfl rfl (pickF rfl rfl rfl rfl b4 rfl (k (pickT rfl rfl rfl rfl rfl rfl (k (asg (v := .bool (decide ((((pathM mn mr (i % mn) (j % mn)).getD []).length : Int) = 2))) rfl rfl (z (nx (rt (r1 rfl rfl ?_))))))))))))))))))))))))))))
                have e0 : (decide ((((pathM mn mr (i % mn) (j % mn)).getD []).length : Int) = 2) : Bool) = true := by exact (decide_eq_true (by have h_ := (path_one rtm_ ha_ hb_ (notf b4)).2; omega))
                have ev_ := cg1 (fun (x_0 : Bool) => (.bool x_0 : Value)) e0
                exact ⟨ev_, H27.below⟩
            · -- !((pathM mn mr (k3 % mn) (j % mn)).isSome) is False
              refine k (gy rfl rfl rfl b3 (mv (v := .bool ((pathM mn mr (i % mn) (j % mn)).isSome)) rfl rfl (k (gy rfl rfl rfl b3 (mv (v := .bool ((pathM mn mr (i % mn) (j % mn)).isSome)) rfl rfl (k (gy rfl rfl rfl (path_join rtm_ ha_ hb_ hc_ (notf b2) (notf b3)).1 (mv (v := .slice a0 ((pathM mn mr (i % mn) (j % mn)).getD []).length c0) rfl rfl (k (gy rfl rfl rfl (path_join rtm_ ha_ hb_ hc_ (notf b2) (notf b3)).1 (lnS rfl rfl un42 (k (gy rfl rfl rfl (path_join rtm_ ha_ hb_ hc_ (notf b2) (notf b3)).1 (mv (v := .slice a1 ((pathM mn mr (i % mn) (k3 % mn)).getD []).length c1) rfl rfl (k (gy rfl rfl rfl (path_join rtm_ ha_ hb_ hc_ (notf b2) (notf b3)).1 (lnS rfl rfl un42 (k (gy rfl rfl rfl (path_join rtm_ ha_ hb_ hc_ (notf b2) (notf b3)).1 (mv (v := .slice a2 ((pathM mn mr (k3 % mn) (j % mn)).getD []).length c2) rfl rfl (k (gy rfl rfl rfl (path_join rtm_ ha_ hb_ hc_ (notf b2) (notf b3)).1 (lnS rfl rfl un42 (k (gy rfl rfl rfl (path_join rtm_ ha_ hb_ hc_ (notf b2) (notf b3)).1 (add rfl rfl rfl rfl (by first | assumption | (unfold I64 at *; omega)) (k (gy rfl rfl rfl (path_join rtm_ ha_ hb_ hc_ (notf b2) (notf b3)).1 (sub rfl rfl rfl rfl (by first | assumption | (unfold I64 at *; omega)) (k (gy rfl rfl rfl (path_join rtm_ ha_ hb_ hc_ (notf b2) (notf b3)).1 (leq rfl rfl rfl rfl (k (gy rfl rfl rfl b3 (pickT rfl rfl rfl rfl (path_join rtm_ ha_ hb_ hc_ (notf b2) (notf b3)).1 rfl (k (gy rfl rfl rfl rfl (pickF rfl rfl rfl rfl b3 rfl (k (pickT rfl rfl rfl rfl rfl rfl (k (mv (v := .bool (decide ((((pathM mn mr (i % mn) (j % mn)).getD []).length : Int) ≤ (((((pathM mn mr (i % mn) (k3 % mn)).getD []).length : Int) + (((pathM mn mr (k3 % mn) (j % mn)).getD []).length : Int)) - 1)))) rfl rfl (k (gy rfl rfl rfl (decide_eq_true (by have h_ := (path_join rtm_ ha_ hb_ hc_ (notf b2) (notf b3)).2; omega)) (ldX H26 3 rfl ty24 rfl s27 (by decide) rfl (k (gy rfl rfl rfl (decide_eq_true (by have h_ := (path_join rtm_ ha_ hb_ hc_ (notf b2) (notf b3)).2; omega)) (mv rfl s28 (k (gy rfl rfl rfl (decide_eq_true (by have h_ := (path_join rtm_ ha_ hb_ hc_ (notf b2) (notf b3)).2; omega)) (mv rfl s29 (k (gy rfl rfl rfl (decide_eq_true (by have h_ := (path_join rtm_ ha_ hb_ hc_ (notf b2) (notf b3)).2; omega)) ?_)))))))))))))))))))))))))))))))))))))))))))))))))))))
              have cc5 := ref03_Has (mn := mn) (mr := mr) (i := (i % mn)) (j := (j % mn)) (w := w39) H26.mb (by first | assumption | (unfold I64 at *; omega)) (H26.rv 5 rfl) (by first | assumption | (unfold I64 at *; omega)) (by first | assumption | (unfold I64 at *; omega)) (by first | exact (right_sq rtm_).1 | exact (right_sq rtm_).2.1 | exact (right_sq rtm_).2.2.1 | exact (right_sq rtm_).2.2.2.2) (by first | exact (right_sq rtm_).1 | exact (right_sq rtm_).2.1 | exact (right_sq rtm_).2.2.1 | exact (right_sq rtm_).2.2.2.2) (by first | exact (right_sq rtm_).1 | exact (right_sq rtm_).2.1 | exact (right_sq rtm_).2.2.1 | exact (right_sq rtm_).2.2.2.2)
              refine ca go45 rfl (ec rfl (ec rfl (ec rfl e0))) cc5 ?_
              rintro _ w40 ⟨rfl, xt40⟩
              have H27 := H26.ext xt40
              refine k (gy rfl rfl rfl (decide_eq_true (by have h_ := (path_join rtm_ ha_ hb_ hc_ (notf b2) (notf b3)).2; omega)) (not_ rfl rfl (k (gy rfl rfl rfl (decide_eq_true (by have h_ := (path_join rtm_ ha_ hb_ hc_ (notf b2) (notf b3)).2; omega)) (mv (v := .bool (!(hasM mn mr (i % mn) (j % mn)))) rfl rfl ?_)))))
              rcases Bool.eq_false_or_eq_true (!(hasM mn mr (i % mn) (j % mn))) with b4 | b4
              · -- !(hasM mn mr (i % mn) (j % mn)) is True
                refine k (gn rfl rfl rfl b4 (k (gn rfl rfl rfl b4 (k (gu rfl rfl rfl (k (gu rfl rfl rfl (k (gu rfl rfl rfl (k (gn rfl rfl rfl b4 (k (gy rfl rfl rfl (decide_eq_true (by have h_ := (path_join rtm_ ha_ hb_ hc_ (notf b2) (notf b3)).2; omega)) (pickT rfl rfl rfl rfl b4 rfl (k (pickT rfl rfl rfl rfl (decide_eq_true (by have h_ := (path_join rtm_ ha_ hb_ hc_ (notf b2) (notf b3)).2; omega)) rfl (k (asg (v := .bool true) rfl rfl (z (nx (rt (r1 rfl rfl ?_))))))))))))))))))))))
                exact ⟨rfl, H27.below⟩
              · -- !(hasM mn mr (i % mn) (j % mn)) is False
                refine k (gy rfl rfl rfl b4 (mv (v := .bool ((pathM mn mr (i % mn) (j % mn)).isSome)) rfl rfl (k (gy rfl rfl rfl b4 (mv (v := .bool ((pathM mn mr (i % mn) (j % mn)).isSome)) rfl rfl (k (gy rfl rfl rfl (path_one rtm_ ha_ hb_ (notf b4)).1 (mv (v := .slice a0 ((pathM mn mr (i % mn) (j % mn)).getD []).length c0) rfl rfl (k (gy rfl rfl rfl (path_one rtm_ ha_ hb_ (notf b4)).1 (lnS rfl rfl un42 (k (gy rfl rfl rfl (path_one rtm_ ha_ hb_ (notf b4)).1 (eql rfl rfl rfl rfl (k (gy rfl rfl rfl b4 (pickT rfl rfl rfl rfl (path_one rtm_ ha_ hb_ (notf b4)).1 rfl (k (gy rfl rfl rfl (decide_eq_true (by have h_ := (path_join rtm_ ha_ hb_ hc_ (notf b2) (notf b3)).2; omega)) (pickF rfl rfl rfl rfl b4 rfl (k (pickT rfl rfl rfl rfl (decide_eq_true (by have h_ := (path_join rtm_ ha_ hb_ hc_ (notf b2) (notf b3)).2; omega)) rfl (k (asg (v := .bool (decide ((((pathM mn mr (i % mn) (j % mn)).getD []).length : Int) = 2))) rfl rfl (z (nx (rt (r1 rfl rfl ?_))))))))))))))))))))))))))))
                have e0 : (decide ((((pathM mn mr (i % mn) (j % mn)).getD []).length : Int) = 2) : Bool) = true := by exact (decide_eq_true (by have h_ := (path_one rtm_ ha_ hb_ (notf b4)).2; omega))
                have ev_ := cg1 (fun (x_0 : Bool) => (.bool x_0 : Value)) e0
                exact ⟨ev_, H27.below⟩
end Go.Proofs.YtmhopljngkgidaaDoor

