/- PRINTED by my own tool (wip/tool/gen.py): contracts of Go functions of this seat, each with its proof. -/
import Derived.Test.YtmhopljngkgidaaDoorEngZN
import Derived.Test.YtmhopljngkgidaaDoorEwSpecZ
import Derived.Test.YtmhopljngkgidaaDoorR10Aw3
import Derived.Test.YtmhopljngkgidaaDoorR10Turn
import Derived.Test.YtmhopljngkgidaaDoorR10Join
import Derived.Test.YtmhopljngkgidaaDoorR10Ref
import Derived.Test.YtmhopljngkgidaaDoorR10Mt2
import Derived.Test.YtmhopljngkgidaaDoorR10Mat
import Derived.Test.YtmhopljngkgidaaDoorR10Or
import Derived.Test.YtmhopljngkgidaaDoorR10Fns
namespace Go.Proofs.YtmhopljngkgidaaDoor
open Go.Ew Go.RowKit
set_option linter.unusedVariables false
set_option linter.unusedSimpArgs false
attribute [local irreducible] WL WC SO Code.wp wpList retQ Ret
attribute [local irreducible] bitB hasW inR hasR setR countW countR subR words newR listR orR firstW tab8
theorem go12 : GoF Tryd.prog 12 := ⟨_, _, Tryd.func12, rfl, by kernel_rfl⟩
theorem go14 : GoF Tryd.prog 14 := ⟨_, _, Tryd.func14, rfl, by kernel_rfl⟩
theorem go13 : GoF Tryd.prog 13 := ⟨_, _, Tryd.func13, rfl, by kernel_rfl⟩
theorem go17 : GoF Tryd.prog 17 := ⟨_, _, Tryd.func17, rfl, by kernel_rfl⟩
theorem go18 : GoF Tryd.prog 18 := ⟨_, _, Tryd.func18, rfl, by kernel_rfl⟩
theorem un4 : Tryd.prog.underlying 4 = some (.bool) := by kernel_rfl
/- eyewitness/eyewitnesslaw03.MatBack -/
set_option maxRecDepth 100000 in
set_option maxHeartbeats 1600000 in
theorem law_MatBack {M : Nat → Prop} {w : World} {mn : Int} {a_mr : Option Addr} {c_mr : Nat} {mr : List (List (BitVec 64))} {i : Int} {j : Int} (hM : ∀ b, M b → b < w.heap.size) (hT : TabAt 0 w) (h_mn : I64 mn) (h_mr : RV M w (.slice a_mr mr.length c_mr) mr) (h_i : 0 ≤ i ∧ i ≤ 255) (h_j : 0 ≤ j ∧ j ≤ 255) : Calls Tryd.prog 3 #[.agg #[.int .i64 mn, .slice a_mr mr.length c_mr], .int .u8 i, .int .u8 j] w (Ret fun v w' =>  v = .bool true ∧ Ext w w') := by
  refine enter 69 Tryd.func3 rfl rfl rfl fun f0 ha => ?_
  have H := HI.start (M0 := M) (w := w) hM
  have H0 := H.put (it := imm (.slice a_mr mr.length c_mr) mr) rfl (by rw [MS_nil]; exact h_mr)
  have ln_mr := rv_len h_mr
  have i0 : f0 0 = .agg #[.int .i64 mn, .slice a_mr mr.length c_mr] := ha 0 (by simp)
  have i1 : f0 1 = .int .u8 i := ha 1 (by simp)
  have i2 : f0 2 = .int .u8 j := ha 2 (by simp)
  refine sq (rg (k (bx H0 rfl i0 ?_)))
  intro bb0 w0 xt0 (H1 : HI M w w0 [box bb0 #[.int .i64 mn, .slice a_mr mr.length c_mr] 24, imm (.slice a_mr mr.length c_mr) mr])
  refine k (asg (v := .bool false) rfl rfl (z (nx (sq (sq (rg (k (ldX H1 0 rfl ty24 rfl rfl (by decide) rfl (k ?_)))))))))
  have cc0 := ref03_Small (mn := mn) (mr := mr) (mo := 20) (w := w0) H1.mb (by unfold I64 at *; omega) (H1.rv 1 rfl) (by unfold I64 at *; omega)
  refine ca go12 rfl (ec rfl (ec rfl e0)) cc0 ?_
  rintro _ w1 ⟨rfl, xt1⟩
  have H2 := H1.ext xt1
  refine k (not_ rfl rfl (k (mv (v := .bool (!(smallM mr 20))) rfl rfl ?_)))
  rcases Bool.eq_false_or_eq_true (!(smallM mr 20)) with b0 | b0
  · -- !(smallM mr 20) is True
    refine k (gn rfl rfl rfl b0 (k (gn rfl rfl rfl b0 (k (gn rfl rfl rfl b0 (k (pickT rfl rfl rfl rfl b0 rfl (z (nx (cdT rfl rfl rfl (sq (rg (k ?_)))))))))))))
    have cc1 := awake03 (w := w1)
    refine ca go14 rfl e0 cc1 ?_
    rintro _ w2 ⟨rfl, xt2⟩
    have H3 := H2.ext xt2
    refine k (asg (v := .bool true) rfl rfl (z (nx (rt (then_ret (r1 rfl rfl ?_))))))
    exact ⟨rfl, H3.below⟩
  · -- !(smallM mr 20) is False
    refine k (gy rfl rfl rfl b0 (ldX H2 0 rfl ty24 rfl rfl (by decide) rfl (k (gy rfl rfl rfl b0 ?_))))
    have cc1 := ref03_Right (mn := mn) (mr := mr) (w := w1) H2.mb (by unfold I64 at *; omega) (H2.rv 1 rfl)
    refine ca go13 rfl (ec rfl e0) cc1 ?_
    rintro _ w2 ⟨rfl, xt2⟩
    have H3 := H2.ext xt2
    refine k (gy rfl rfl rfl b0 (not_ rfl rfl (k (pickF rfl rfl rfl rfl b0 rfl (z (nx ?_))))))
    refine cd (b := !(rightS mn mr)) rfl rfl (fun b1 => ?_) (fun b1 => ?_)
    ·
      refine sq (rg (k ?_))
      have cc2 := awake03 (w := w2)
      refine ca go14 rfl e0 cc2 ?_
      rintro _ w3 ⟨rfl, xt3⟩
      have H4 := H3.ext xt3
      refine k (asg (v := .bool true) rfl rfl (z (nx (rt (then_ret (r1 rfl rfl ?_))))))
      exact ⟨rfl, H4.below⟩
    ·
      refine sk (nx (sq ?_))
      have rt_ : rightS mn mr = true := by simpa using ‹(!rightS mn mr) = false›
      refine drn [.v, .v, .v, .v, .v, .v, .v, .v, .n, .s 8 6, .v] [fun (N : Nat → Prop) (v : Value) (w' : World) => v = .pointer (some ⟨bb0, 0, none⟩), fun (N : Nat → Prop) (v : Value) (w' : World) => v = .int .i64 mn, fun (N : Nat → Prop) (v : Value) (w' : World) => v = .agg #[.int .i64 mn, .slice a_mr mr.length c_mr], fun (N : Nat → Prop) (v : Value) (w' : World) => ∃ (a0 : Option Addr) (c0 : Nat), v = .slice a0 (pairsM mn mr).length c0 ∧ RV (MN (MS M [box bb0 #[.int .i64 mn, .slice a_mr mr.length c_mr] 24, imm (.slice a_mr mr.length c_mr) mr]) N) w' (.slice a0 (pairsM mn mr).length c0) (pairsM mn mr), fun (N : Nat → Prop) (v : Value) (w' : World) => ∃ (a1 : Option Addr) (c1 : Nat), v = .tuple #[.agg #[.int .i64 (ofMN mn (pairsM mn mr)), .slice a1 (ofMR mn (pairsM mn mr)).length c1], .int .i64 (ofME mn (pairsM mn mr))] ∧ RV (MN (MS M [box bb0 #[.int .i64 mn, .slice a_mr mr.length c_mr] 24, imm (.slice a_mr mr.length c_mr) mr]) N) w' (.slice a1 (ofMR mn (pairsM mn mr)).length c1) (ofMR mn (pairsM mn mr)), fun (N : Nat → Prop) (v : Value) (w' : World) => ∃ (a1 : Option Addr) (c1 : Nat), v = .tuple #[.agg #[.int .i64 (ofMN mn (pairsM mn mr)), .slice a1 (ofMR mn (pairsM mn mr)).length c1], .int .i64 (ofME mn (pairsM mn mr))] ∧ RV (MN (MS M [box bb0 #[.int .i64 mn, .slice a_mr mr.length c_mr] 24, imm (.slice a_mr mr.length c_mr) mr]) N) w' (.slice a1 (ofMR mn (pairsM mn mr)).length c1) (ofMR mn (pairsM mn mr)), fun (N : Nat → Prop) (v : Value) (w' : World) => ∃ (a1 : Option Addr) (c1 : Nat), v = .agg #[.int .i64 (ofMN mn (pairsM mn mr)), .slice a1 (ofMR mn (pairsM mn mr)).length c1] ∧ RV (MN (MS M [box bb0 #[.int .i64 mn, .slice a_mr mr.length c_mr] 24, imm (.slice a_mr mr.length c_mr) mr]) N) w' (.slice a1 (ofMR mn (pairsM mn mr)).length c1) (ofMR mn (pairsM mn mr)), fun (N : Nat → Prop) (v : Value) (w' : World) => v = .int .i64 (ofME mn (pairsM mn mr)), fun _ _ _ => True, fun _ _ _ => True, fun (N : Nat → Prop) (v : Value) (w' : World) => v = .int .i64 (ofME mn (pairsM mn mr))] [(#[], 0), (#[], 0), (#[], 0), (#[], 0), (#[], 0), (#[], 0), (#[], 0), (#[], 0), (#[.int .i64 0, .slice none 0 0], 24), (#[], 0), (#[], 0)] rfl (by kernel_rfl) ?_ ?_
      ·
        refine ⟨⟨fun _ _ _ _ _ _ h => h, rfl, fun f0 w6 N0 hf0 xt6 hN0 hp0 => ?_⟩, ?_⟩
        ·
          refine fa fl24_0 rfl (hf0 3 rfl) ?_
          exact ⟨_, rfl, Ext.refl _, rfl⟩
        refine ⟨⟨fun _ _ _ _ _ _ h => h, rfl, fun f1 w7 N1 hf1 xt7 hN1 hp1 => ?_⟩, ?_⟩
        ·
          have hq0 := hp1 0 rfl ⟨_, rfl, rfl⟩
          have s0 : f1 20 = .pointer (some ⟨bb0, 0, none⟩) := hq0
          refine ldX (H3.ext xt7) 0 rfl ty3 rfl s0 (by decide) rfl ?_
          exact ⟨_, rfl, Ext.refl _, rfl⟩
        refine ⟨⟨fun _ _ _ _ _ _ h => h, rfl, fun f2 w8 N2 hf2 xt8 hN2 hp2 => ?_⟩, ?_⟩
        ·
          refine ldX (H3.ext xt8) 0 rfl ty24 rfl (hf2 3 rfl) (by decide) rfl ?_
          exact ⟨_, rfl, Ext.refl _, rfl⟩
        refine ⟨⟨by rintro _ _ _ _ _ k_ ⟨a0, c0, e_, rv2⟩; exact ⟨a0, c0, e_, rvn_keep rv2 k_⟩, rfl, fun f3 w9 N3 hf3 xt9 hN3 hp3 => ?_⟩, ?_⟩
        ·
          have hq1 := hp3 2 rfl ⟨_, rfl, rfl⟩
          have s1 : f3 22 = .agg #[.int .i64 mn, .slice a_mr mr.length c_mr] := hq1
          have cc4 := mat_Pairs (mn := mn) (mr := mr) (w := w9) (mn_below H3.mb xt9 hN3) (hT.ext (H3.below.trans xt9)) (by unfold I64 at *; omega) (rvn_old (H3.rv 1 rfl) xt9 hN3) (by first | exact (right_sq rt_).1 | exact (right_sq rt_).2.1 | exact (right_sq rt_).2.2.1 | exact (right_sq rt_).2.2.2.2 | exact (right_sq (turn_right rt_)).1 | exact (right_sq (turn_right rt_)).2.1 | exact (right_sq (turn_right rt_)).2.2.1 | exact (right_sq (turn_right rt_)).2.2.2.2) (by first | exact (right_sq rt_).1 | exact (right_sq rt_).2.1 | exact (right_sq rt_).2.2.1 | exact (right_sq rt_).2.2.2.2 | exact (right_sq (turn_right rt_)).1 | exact (right_sq (turn_right rt_)).2.1 | exact (right_sq (turn_right rt_)).2.2.1 | exact (right_sq (turn_right rt_)).2.2.2.2) (by first | exact (right_sq rt_).1 | exact (right_sq rt_).2.1 | exact (right_sq rt_).2.2.1 | exact (right_sq rt_).2.2.2.2 | exact (right_sq (turn_right rt_)).1 | exact (right_sq (turn_right rt_)).2.1 | exact (right_sq (turn_right rt_)).2.2.1 | exact (right_sq (turn_right rt_)).2.2.2.2) (by first | exact (right_sq rt_).1 | exact (right_sq rt_).2.1 | exact (right_sq rt_).2.2.1 | exact (right_sq rt_).2.2.2.2 | exact (right_sq (turn_right rt_)).1 | exact (right_sq (turn_right rt_)).2.1 | exact (right_sq (turn_right rt_)).2.2.1 | exact (right_sq (turn_right rt_)).2.2.2.2)
          refine ca go16 rfl (ec s1 e0) cc4 ?_
          rintro _ w10 ⟨a2, c2, rfl, xt10, rv4⟩
          exact ⟨_, rfl, xt10, ⟨a2, c2, rfl, rv4⟩⟩
        refine ⟨⟨by rintro _ _ _ _ _ k_ ⟨a1, c1, e_, rv3⟩; exact ⟨a1, c1, e_, rvn_keep rv3 k_⟩, rfl, fun f4 w11 N4 hf4 xt11 hN4 hp4 => ?_⟩, ?_⟩
        ·
          have hq2 := hp4 1 rfl ⟨_, rfl, rfl⟩
          have s2 : f4 21 = .int .i64 mn := hq2
          have hq3 := hp4 3 rfl ⟨_, rfl, rfl⟩
          obtain ⟨a0, c0, s3, rv2⟩ := hq3
          have cc5 := mat_Of (n := mn) (ps := (pairsM mn mr)) (w := w11) (mn_below H3.mb xt11 hN4) (by unfold I64 at *; omega) rv2
          refine ca go15 rfl (ec s2 (ec s3 e0)) cc5 ?_
          rintro _ w12 ⟨a3, c3, rfl, xt12, rv5⟩
          exact ⟨_, rfl, xt12, ⟨a3, c3, rfl, (OwnsG.rv rv5 (mn_below H3.mb xt11 hN4))⟩⟩
        refine ⟨⟨by rintro _ _ _ _ _ k_ ⟨a1, c1, e_, rv3⟩; exact ⟨a1, c1, e_, rvn_keep rv3 k_⟩, rfl, fun f5 w13 N5 hf5 xt13 hN5 hp5 => ?_⟩, ?_⟩
        ·
          have hq4 := hp5 4 rfl ⟨_, rfl, rfl⟩
          obtain ⟨a1, c1, s4, rv3⟩ := hq4
          refine mv rfl s4 ?_
          exact ⟨_, rfl, Ext.refl _, ⟨a1, c1, rfl, rv3⟩⟩
        refine ⟨⟨by rintro _ _ _ _ _ k_ ⟨a1, c1, e_, rv3⟩; exact ⟨a1, c1, e_, rvn_keep rv3 k_⟩, rfl, fun f6 w14 N6 hf6 xt14 hN6 hp6 => ?_⟩, ?_⟩
        ·
          have hq5 := hp6 5 rfl ⟨_, rfl, rfl⟩
          obtain ⟨a1, c1, s5, rv3⟩ := hq5
          refine xt rfl s5 rfl ?_
          exact ⟨_, rfl, Ext.refl _, ⟨a1, c1, rfl, rv3⟩⟩
        refine ⟨⟨fun _ _ _ _ _ _ h => h, rfl, fun f7 w15 N7 hf7 xt15 hN7 hp7 => ?_⟩, ?_⟩
        ·
          have hq6 := hp7 5 rfl ⟨_, rfl, rfl⟩
          obtain ⟨a1, c1, s6, rv3⟩ := hq6
          refine xt rfl s6 rfl ?_
          exact ⟨_, rfl, Ext.refl _, rfl⟩
        refine ⟨⟨fun _ _ _ _ _ _ h => h, rfl, fun _ _ _ => trivial, fun f8 w16 N8 hf8 xt16 hN8 hp8 => ?_⟩, ?_⟩
        ·
          refine alS ty24 ?_
          exact ⟨rfl, rfl⟩
        refine ⟨⟨fun _ _ _ _ _ _ h => h, rfl, rfl, rfl, ⟨_, rfl, rfl⟩, ⟨_, rfl, rfl⟩, by decide, trivial, by rintro _ _ _ ⟨a1, c1, e_, rv3⟩; subst e_; rfl, fun f9 w17 N_ bb2 cur0 xt17 s7 hb0 hc0 hv0 => ?_⟩, ?_⟩
        ·
          obtain ⟨a1, c1, e_, rv3⟩ := hv0
          exact stS ty24 rfl rfl s7 rfl hb0 ((congrArg (fun v => v.cells.size) e_).trans rfl) hc0 ((congrArg (fun v => v.cells.toList.all Value.oneCell') e_).trans rfl)
        refine ⟨⟨fun _ _ _ _ _ _ h => h, rfl, fun f10 w18 N9 hf9 xt18 hN9 hp9 => ?_⟩, ?_⟩
        ·
          have hq7 := hp9 7 rfl ⟨_, rfl, rfl⟩
          have s8 : f10 26 = .int .i64 (ofME mn (pairsM mn mr)) := hq7
          refine asg rfl s8 ?_
          exact ⟨_, rfl, Ext.refl _, rfl⟩
        exact trivial
      · intro f11 w19 I0 hf10 xt19 hp10 hN10 hd0
        have s9 : f11 1 = .int .u8 i := (hf10 1 rfl).trans i1
        have s10 : f11 2 = .int .u8 j := (hf10 2 rfl).trans i2
        have s11 : f11 3 = .pointer (some ⟨bb0, 0, none⟩) := hf10 3 rfl
        have s12 : f11 8 = .int .i64 (ofME mn (pairsM mn mr)) := (hp10 10 _ rfl rfl)
        obtain ⟨a4, c4, s13, rv6⟩ := (hp10 6 _ rfl rfl)
        obtain ⟨s14, hg0, -, cur1, hc1, hk0⟩ := hN10 8 (by decide) trivial
        have hq8 : cur1 = #[.int .i64 (ofMN mn (pairsM mn mr)), .slice a4 (ofMR mn (pairsM mn mr)).length c4] := (hk0.2.1 9 6 rfl rfl).trans (congrArg Value.cells s13)
        rw [hq8] at hc1
        have hz8_ := hg0
        have H5 : HI M w w19 [box (I0 8) #[.int .i64 (ofMN mn (pairsM mn mr)), .slice a4 (ofMR mn (pairsM mn mr)).length c4] 24, box bb0 #[.int .i64 mn, .slice a_mr mr.length c_mr] 24, imm (.slice a_mr mr.length c_mr) mr] := H3.lays xt19 [((I0 8), #[.int .i64 (ofMN mn (pairsM mn mr)), .slice a4 (ofMR mn (pairsM mn mr)).length c4], 24)] (by intro q_ hq_; simp only [List.mem_cons, List.not_mem_nil, or_false] at hq_; rcases hq_ with rfl <;> first | exact ⟨hz8_, hc1⟩) (by simp only [List.map_cons, List.map_nil, List.nodup_cons, List.mem_cons, List.not_mem_nil, or_false, List.nodup_nil, and_true, not_or, not_false_eq_true, true_and] <;> omega)
        have H6 := H5.put (it := imm (.slice a4 (ofMR mn (pairsM mn mr)).length c4) (ofMR mn (pairsM mn mr))) rfl (rvn_out [((I0 8), #[.int .i64 (ofMN mn (pairsM mn mr)), .slice a4 (ofMR mn (pairsM mn mr)).length c4], 24)] rv6 (by intro q_ hq_; simp only [List.mem_cons, List.not_mem_nil, or_false] at hq_; rcases hq_ with rfl <;> first | exact ⟨8, by decide, rfl, trivial, rfl⟩))
        refine nx (sq (rg (k (ldX H6 2 rfl ty24 rfl s11 (by decide) rfl (k ?_)))))
        have cc6 := mat_Turn (mn := mn) (mr := mr) (w := w19) H6.mb (hT.ext H6.below) (by unfold I64 at *; omega) (H6.rv 3 rfl) (by exact rt_)
        refine ca go17 rfl (ec rfl e0) cc6 ?_
        rintro _ w20 ⟨a5, c5, rfl, xt20, rv7⟩
        have H7 := H6.ownsG rv7
        refine k (al H7 ty24 ?_)
        intro bb3 w21 xt21 (H8 : HI M w w21 [box bb3 #[.int .i64 0, .slice none 0 0] 24, own w.heap.size 73 (.slice a5 (turnM mn mr).length c5) (turnM mn mr), imm (.slice a4 (ofMR mn (pairsM mn mr)).length c4) (ofMR mn (pairsM mn mr)), box (I0 8) #[.int .i64 (ofMN mn (pairsM mn mr)), .slice a4 (ofMR mn (pairsM mn mr)).length c4] 24, box bb0 #[.int .i64 mn, .slice a_mr mr.length c_mr] 24, imm (.slice a_mr mr.length c_mr) mr])
        refine k (stX H8 0 rfl ty24 rfl rfl rfl rfl rfl rfl rfl ?_)
        intro w22 (H9 : HI M w w22 [box bb3 #[.int .i64 mn, .slice a5 (turnM mn mr).length c5] 24, own w.heap.size 73 (.slice a5 (turnM mn mr).length c5) (turnM mn mr), imm (.slice a4 (ofMR mn (pairsM mn mr)).length c4) (ofMR mn (pairsM mn mr)), box (I0 8) #[.int .i64 (ofMN mn (pairsM mn mr)), .slice a4 (ofMR mn (pairsM mn mr)).length c4] 24, box bb0 #[.int .i64 mn, .slice a_mr mr.length c_mr] 24, imm (.slice a_mr mr.length c_mr) mr])
        refine z (nx (sq ?_))
        have H10 := H9.freeze 1 rfl
        refine dr 38 [fun (v : Value) (w' : World) => v = .bool true, fun (v : Value) (w' : World) => v = .bool true, fun (v : Value) (w' : World) => v = .int .i64 (ofME mn (pairsM mn mr)), fun (v : Value) (w' : World) => v = .bool (decide ((ofME mn (pairsM mn mr)) = 0)), fun (v : Value) (w' : World) => v = .bool (decide ((ofME mn (pairsM mn mr)) = 0)), fun (v : Value) (w' : World) => v = .bool (decide ((ofME mn (pairsM mn mr)) = 0)), fun (v : Value) (w' : World) => v = .agg #[.int .i64 (ofMN mn (pairsM mn mr)), .slice a4 (ofMR mn (pairsM mn mr)).length c4], fun (v : Value) (w' : World) => v = .agg #[.int .i64 mn, .slice a_mr mr.length c_mr], fun (v : Value) (w' : World) => v = .bool (eqM (ofMN mn (pairsM mn mr)) (ofMR mn (pairsM mn mr)) mn mr), fun (v : Value) (w' : World) => v = .bool (eqM (ofMN mn (pairsM mn mr)) (ofMR mn (pairsM mn mr)) mn mr), fun (v : Value) (w' : World) => v = .bool (eqM (ofMN mn (pairsM mn mr)) (ofMR mn (pairsM mn mr)) mn mr), fun (v : Value) (w' : World) => v = .agg #[.int .i64 mn, .slice a5 (turnM mn mr).length c5], fun (v : Value) (w' : World) => ∃ (a6 : Option Addr) (c6 : Nat), v = .agg #[.int .i64 mn, .slice a6 (turnM mn (turnM mn mr)).length c6] ∧ RV (MS M [box bb3 #[.int .i64 mn, .slice a5 (turnM mn mr).length c5] 24, imm (.slice a5 (turnM mn mr).length c5) (turnM mn mr), imm (.slice a4 (ofMR mn (pairsM mn mr)).length c4) (ofMR mn (pairsM mn mr)), box (I0 8) #[.int .i64 (ofMN mn (pairsM mn mr)), .slice a4 (ofMR mn (pairsM mn mr)).length c4] 24, box bb0 #[.int .i64 mn, .slice a_mr mr.length c_mr] 24, imm (.slice a_mr mr.length c_mr) mr]) w' (.slice a6 (turnM mn (turnM mn mr)).length c6) (turnM mn (turnM mn mr)), fun (v : Value) (w' : World) => v = .agg #[.int .i64 mn, .slice a_mr mr.length c_mr], fun (v : Value) (w' : World) => v = .bool (eqM mn (turnM mn (turnM mn mr)) mn mr), fun (v : Value) (w' : World) => v = .bool (eqM mn (turnM mn (turnM mn mr)) mn mr), fun (v : Value) (w' : World) => v = .bool (eqM mn (turnM mn (turnM mn mr)) mn mr), fun (v : Value) (w' : World) => v = .agg #[.int .i64 mn, .slice a_mr mr.length c_mr], fun (v : Value) (w' : World) => v = .int .u8 i, fun (v : Value) (w' : World) => v = .int .i64 i, fun (v : Value) (w' : World) => v = .int .u8 j, fun (v : Value) (w' : World) => v = .int .i64 j, fun (v : Value) (w' : World) => v = .bool (hasM mn mr i j), fun (v : Value) (w' : World) => v = .agg #[.int .i64 mn, .slice a5 (turnM mn mr).length c5], fun (v : Value) (w' : World) => v = .int .u8 j, fun (v : Value) (w' : World) => v = .int .i64 j, fun (v : Value) (w' : World) => v = .int .u8 i, fun (v : Value) (w' : World) => v = .int .i64 i, fun (v : Value) (w' : World) => v = .bool (hasM mn (turnM mn mr) j i), fun (v : Value) (w' : World) => v = .bool ((hasM mn mr i j) == (hasM mn (turnM mn mr) j i)), fun (v : Value) (w' : World) => v = .bool ((hasM mn mr i j) == (hasM mn (turnM mn mr) j i)), fun (v : Value) (w' : World) => v = .bool ((hasM mn mr i j) == (hasM mn (turnM mn mr) j i)), fun (v : Value) (w' : World) => v = .agg #[.int .i64 mn, .slice a5 (turnM mn mr).length c5], fun (v : Value) (w' : World) => ∃ (a7 : Option Addr) (c7 : Nat), v = .slice a7 (pairsM mn (turnM mn mr)).length c7 ∧ RV (MS M [box bb3 #[.int .i64 mn, .slice a5 (turnM mn mr).length c5] 24, imm (.slice a5 (turnM mn mr).length c5) (turnM mn mr), imm (.slice a4 (ofMR mn (pairsM mn mr)).length c4) (ofMR mn (pairsM mn mr)), box (I0 8) #[.int .i64 (ofMN mn (pairsM mn mr)), .slice a4 (ofMR mn (pairsM mn mr)).length c4] 24, box bb0 #[.int .i64 mn, .slice a_mr mr.length c_mr] 24, imm (.slice a_mr mr.length c_mr) mr]) w' (.slice a7 (pairsM mn (turnM mn mr)).length c7) (pairsM mn (turnM mn mr)), fun (v : Value) (w' : World) => v = .int .i64 ((pairsM mn (turnM mn mr)).length : Int), fun (v : Value) (w' : World) => v = .agg #[.int .i64 mn, .slice a_mr mr.length c_mr], fun (v : Value) (w' : World) => ∃ (a8 : Option Addr) (c8 : Nat), v = .slice a8 (pairsM mn mr).length c8 ∧ RV (MS M [box bb3 #[.int .i64 mn, .slice a5 (turnM mn mr).length c5] 24, imm (.slice a5 (turnM mn mr).length c5) (turnM mn mr), imm (.slice a4 (ofMR mn (pairsM mn mr)).length c4) (ofMR mn (pairsM mn mr)), box (I0 8) #[.int .i64 (ofMN mn (pairsM mn mr)), .slice a4 (ofMR mn (pairsM mn mr)).length c4] 24, box bb0 #[.int .i64 mn, .slice a_mr mr.length c_mr] 24, imm (.slice a_mr mr.length c_mr) mr]) w' (.slice a8 (pairsM mn mr).length c8) (pairsM mn mr), fun (v : Value) (w' : World) => v = .int .i64 ((pairsM mn mr).length : Int)] rfl (by kernel_rfl) ?_ ?_
        ·
          refine ⟨fun _ => ⟨fun f12 w31 hf11 xt30 hp11 => ?_, fun _ _ _ _ h => h⟩, ?_⟩
          ·
            have H22 := H10.ext xt30
            have cc15 := awake03 (w := w31)
            refine ca go14 rfl e0 cc15 ?_
            rintro _ w32 ⟨rfl, xt31⟩
            have H23 := H22.ext xt31
            exact ⟨_, rfl, xt31, rfl⟩
          refine ⟨fun _ => ⟨fun f13 w33 hf12 xt32 hp12 => ?_, fun _ _ _ _ h => h⟩, ?_⟩
          ·
            have H24 := H10.ext xt32
            have s15 : f13 29 = .bool true := hp12 0 rfl rfl
            refine mv rfl s15 ?_
            exact ⟨_, rfl, Ext.refl _, rfl⟩
          refine ⟨fun _ => ⟨fun f14 w34 hf13 xt33 hp13 => ?_, fun _ _ _ _ h => h⟩, ?_⟩
          ·
            have H25 := H10.ext xt33
            have s16 : f14 30 = .bool true := hp13 1 rfl rfl
            refine gy rfl rfl s16 rfl (mv rfl ((hf13 8 rfl).trans s12) ?_)
            exact ⟨_, rfl, Ext.refl _, rfl⟩
          refine ⟨fun _ => ⟨fun f15 w35 hf14 xt34 hp14 => ?_, fun _ _ _ _ h => h⟩, ?_⟩
          ·
            have H26 := H10.ext xt34
            have s17 : f15 30 = .bool true := hp14 1 rfl rfl
            have s18 : f15 31 = .int .i64 (ofME mn (pairsM mn mr)) := hp14 2 rfl rfl
            refine gy rfl rfl s17 rfl (eql rfl rfl s18 rfl ?_)
            exact ⟨_, rfl, Ext.refl _, rfl⟩
          refine ⟨fun _ => ⟨fun f16 w36 hf15 xt35 hp15 => ?_, fun _ _ _ _ h => h⟩, ?_⟩
          ·
            have H27 := H10.ext xt35
            have s19 : f16 30 = .bool true := hp15 1 rfl rfl
            have s20 : f16 32 = .bool (decide ((ofME mn (pairsM mn mr)) = 0)) := hp15 3 rfl rfl
            refine pickT rfl rfl rfl s19 rfl s20 ?_
            exact ⟨_, rfl, Ext.refl _, rfl⟩
          refine ⟨fun _ => ⟨fun f17 w37 hf16 xt36 hp16 => ?_, fun _ _ _ _ h => h⟩, ?_⟩
          ·
            have H28 := H10.ext xt36
            have s21 : f17 33 = .bool (decide ((ofME mn (pairsM mn mr)) = 0)) := hp16 4 rfl rfl
            refine mv rfl s21 ?_
            exact ⟨_, rfl, Ext.refl _, rfl⟩
          refine ⟨fun _ => ⟨fun f18 w38 hf17 xt37 hp17 => ?_, fun _ _ _ _ h => h⟩, ?_⟩
          ·
            have H29 := H10.ext xt37
            have s22 : f18 34 = .bool (decide ((ofME mn (pairsM mn mr)) = 0)) := hp17 5 rfl rfl
            refine gy rfl rfl s22 (decide_eq_true (back_e rt_)) (ldX H29 3 rfl ty24 rfl ((hf17 7 rfl).trans s14) (by decide) rfl ?_)
            exact ⟨_, rfl, Ext.refl _, rfl⟩
          refine ⟨fun _ => ⟨fun f19 w39 hf18 xt38 hp18 => ?_, fun _ _ _ _ h => h⟩, ?_⟩
          ·
            have H30 := H10.ext xt38
            have s23 : f19 34 = .bool (decide ((ofME mn (pairsM mn mr)) = 0)) := hp18 5 rfl rfl
            refine gy rfl rfl s23 (decide_eq_true (back_e rt_)) (ldX H30 4 rfl ty24 rfl ((hf18 3 rfl).trans s11) (by decide) rfl ?_)
            exact ⟨_, rfl, Ext.refl _, rfl⟩
          refine ⟨fun _ => ⟨fun f20 w40 hf19 xt39 hp19 => ?_, fun _ _ _ _ h => h⟩, ?_⟩
          ·
            have H31 := H10.ext xt39
            have s24 : f20 34 = .bool (decide ((ofME mn (pairsM mn mr)) = 0)) := hp19 5 rfl rfl
            have s25 : f20 35 = .agg #[.int .i64 (ofMN mn (pairsM mn mr)), .slice a4 (ofMR mn (pairsM mn mr)).length c4] := hp19 6 rfl rfl
            have s26 : f20 36 = .agg #[.int .i64 mn, .slice a_mr mr.length c_mr] := hp19 7 rfl rfl
            refine gy rfl rfl s24 (decide_eq_true (back_e rt_)) ?_
            have cc16 := ref03_Equal (an := (ofMN mn (pairsM mn mr))) (ar := (ofMR mn (pairsM mn mr))) (bn := mn) (br := mr) (w := w40) H31.mb (by rw [(of_yes (back_ok rt_)).1]; exact h_mn) (H31.rv 2 rfl) (by unfold I64 at *; omega) (H31.rv 5 rfl)
            refine ca go18 rfl (ec s25 (ec s26 e0)) cc16 ?_
            rintro _ w41 ⟨rfl, xt40⟩
            have H32 := H31.ext xt40
            exact ⟨_, rfl, xt40, rfl⟩
          refine ⟨fun _ => ⟨fun f21 w42 hf20 xt41 hp20 => ?_, fun _ _ _ _ h => h⟩, ?_⟩
          ·
            have H33 := H10.ext xt41
            have s27 : f21 34 = .bool (decide ((ofME mn (pairsM mn mr)) = 0)) := hp20 5 rfl rfl
            have s28 : f21 37 = .bool (eqM (ofMN mn (pairsM mn mr)) (ofMR mn (pairsM mn mr)) mn mr) := hp20 8 rfl rfl
            refine pickT rfl rfl rfl s27 (decide_eq_true (back_e rt_)) s28 ?_
            exact ⟨_, rfl, Ext.refl _, rfl⟩
          refine ⟨fun _ => ⟨fun f22 w43 hf21 xt42 hp21 => ?_, fun _ _ _ _ h => h⟩, ?_⟩
          ·
            have H34 := H10.ext xt42
            have s29 : f22 38 = .bool (eqM (ofMN mn (pairsM mn mr)) (ofMR mn (pairsM mn mr)) mn mr) := hp21 9 rfl rfl
            refine mv rfl s29 ?_
            exact ⟨_, rfl, Ext.refl _, rfl⟩
          refine ⟨fun _ => ⟨fun f23 w44 hf22 xt43 hp22 => ?_, fun _ _ _ _ h => h⟩, ?_⟩
          ·
            have H35 := H10.ext xt43
            have s30 : f23 39 = .bool (eqM (ofMN mn (pairsM mn mr)) (ofMR mn (pairsM mn mr)) mn mr) := hp22 10 rfl rfl
            refine gy rfl rfl s30 (back_of rt_) (ldX H35 0 rfl ty24 rfl (hf22 9 rfl) (by decide) rfl ?_)
            exact ⟨_, rfl, Ext.refl _, rfl⟩
          refine ⟨fun _ => ⟨fun f24 w45 hf23 xt44 hp23 => ?_, by rintro _ _ _ x_ ⟨a6, c6, e_, rv9⟩; exact ⟨a6, c6, e_, rv9.lift (Up.ext x_)⟩⟩, ?_⟩
          ·
            have H36 := H10.ext xt44
            have s31 : f24 39 = .bool (eqM (ofMN mn (pairsM mn mr)) (ofMR mn (pairsM mn mr)) mn mr) := hp23 10 rfl rfl
            have s32 : f24 40 = .agg #[.int .i64 mn, .slice a5 (turnM mn mr).length c5] := hp23 11 rfl rfl
            refine gy rfl rfl s31 (back_of rt_) ?_
            have cc17 := mat_Turn (mn := mn) (mr := (turnM mn mr)) (w := w45) H36.mb (hT.ext H36.below) (by unfold I64 at *; omega) (H36.rv 1 rfl) (by exact turn_right rt_)
            refine ca go17 rfl (ec s32 e0) cc17 ?_
            rintro _ w46 ⟨a9, c9, rfl, xt45, rv12⟩
            have rv13 := OwnsG.rv rv12 H36.mb
            have H37 := H36.ext xt45
            have H38 := H37.put (it := imm (.slice a9 (turnM mn (turnM mn mr)).length c9) (turnM mn (turnM mn mr))) rfl rv13
            exact ⟨_, rfl, xt45, ⟨a9, c9, rfl, rv13⟩⟩
          refine ⟨fun _ => ⟨fun f25 w47 hf24 xt46 hp24 => ?_, fun _ _ _ _ h => h⟩, ?_⟩
          ·
            have H39 := H10.ext xt46
            have s33 : f25 39 = .bool (eqM (ofMN mn (pairsM mn mr)) (ofMR mn (pairsM mn mr)) mn mr) := hp24 10 rfl rfl
            refine gy rfl rfl s33 (back_of rt_) (ldX H39 4 rfl ty24 rfl ((hf24 3 rfl).trans s11) (by decide) rfl ?_)
            exact ⟨_, rfl, Ext.refl _, rfl⟩
          refine ⟨fun _ => ⟨fun f26 w48 hf25 xt47 hp25 => ?_, fun _ _ _ _ h => h⟩, ?_⟩
          ·
            have H40 := H10.ext xt47
            have s34 : f26 39 = .bool (eqM (ofMN mn (pairsM mn mr)) (ofMR mn (pairsM mn mr)) mn mr) := hp25 10 rfl rfl
            obtain ⟨a10, c10, s35, rv14⟩ : ∃ (a10 : Option Addr) (c10 : Nat), f26 41 = .agg #[.int .i64 mn, .slice a10 (turnM mn (turnM mn mr)).length c10] ∧ RV (MS M [box bb3 #[.int .i64 mn, .slice a5 (turnM mn mr).length c5] 24, imm (.slice a5 (turnM mn mr).length c5) (turnM mn mr), imm (.slice a4 (ofMR mn (pairsM mn mr)).length c4) (ofMR mn (pairsM mn mr)), box (I0 8) #[.int .i64 (ofMN mn (pairsM mn mr)), .slice a4 (ofMR mn (pairsM mn mr)).length c4] 24, box bb0 #[.int .i64 mn, .slice a_mr mr.length c_mr] 24, imm (.slice a_mr mr.length c_mr) mr]) w48 (.slice a10 (turnM mn (turnM mn mr)).length c10) (turnM mn (turnM mn mr)) := hp25 12 rfl rfl
            have H41 := H40.put (it := imm (.slice a10 (turnM mn (turnM mn mr)).length c10) (turnM mn (turnM mn mr))) rfl rv14
            have s36 : f26 42 = .agg #[.int .i64 mn, .slice a_mr mr.length c_mr] := hp25 13 rfl rfl
            refine gy rfl rfl s34 (back_of rt_) ?_
            have cc18 := ref03_Equal (an := mn) (ar := (turnM mn (turnM mn mr))) (bn := mn) (br := mr) (w := w48) H41.mb (by unfold I64 at *; omega) (H41.rv 0 rfl) (by unfold I64 at *; omega) (H41.rv 6 rfl)
            refine ca go18 rfl (ec s35 (ec s36 e0)) cc18 ?_
            rintro _ w49 ⟨rfl, xt48⟩
            have H42 := H41.ext xt48
            exact ⟨_, rfl, xt48, rfl⟩
          refine ⟨fun _ => ⟨fun f27 w50 hf26 xt49 hp26 => ?_, fun _ _ _ _ h => h⟩, ?_⟩
          ·
            have H43 := H10.ext xt49
            have s37 : f27 39 = .bool (eqM (ofMN mn (pairsM mn mr)) (ofMR mn (pairsM mn mr)) mn mr) := hp26 10 rfl rfl
            have s38 : f27 43 = .bool (eqM mn (turnM mn (turnM mn mr)) mn mr) := hp26 14 rfl rfl
            refine pickT rfl rfl rfl s37 (back_of rt_) s38 ?_
            exact ⟨_, rfl, Ext.refl _, rfl⟩
          refine ⟨fun _ => ⟨fun f28 w51 hf27 xt50 hp27 => ?_, fun _ _ _ _ h => h⟩, ?_⟩
          ·
            have H44 := H10.ext xt50
            have s39 : f28 44 = .bool (eqM mn (turnM mn (turnM mn mr)) mn mr) := hp27 15 rfl rfl
            refine mv rfl s39 ?_
            exact ⟨_, rfl, Ext.refl _, rfl⟩
          refine ⟨fun _ => ⟨fun f29 w52 hf28 xt51 hp28 => ?_, fun _ _ _ _ h => h⟩, ?_⟩
          ·
            have H45 := H10.ext xt51
            have s40 : f29 45 = .bool (eqM mn (turnM mn (turnM mn mr)) mn mr) := hp28 16 rfl rfl
            have tr2 : (eqM mn (turnM mn (turnM mn mr)) mn mr) = true := (by rw [turn_turn rt_]; exact eqM_refl _ _)
            refine gy rfl rfl s40 tr2 (ldX H45 4 rfl ty24 rfl ((hf28 3 rfl).trans s11) (by decide) rfl ?_)
            exact ⟨_, rfl, Ext.refl _, rfl⟩
          refine ⟨fun _ => ⟨fun f30 w53 hf29 xt52 hp29 => ?_, fun _ _ _ _ h => h⟩, ?_⟩
          ·
            have H46 := H10.ext xt52
            have s41 : f30 45 = .bool (eqM mn (turnM mn (turnM mn mr)) mn mr) := hp29 16 rfl rfl
            have tr3 : (eqM mn (turnM mn (turnM mn mr)) mn mr) = true := (by rw [turn_turn rt_]; exact eqM_refl _ _)
            refine gy rfl rfl s41 tr3 (mv rfl ((hf29 1 rfl).trans s9) ?_)
            exact ⟨_, rfl, Ext.refl _, rfl⟩
          refine ⟨fun _ => ⟨fun f31 w54 hf30 xt53 hp30 => ?_, fun _ _ _ _ h => h⟩, ?_⟩
          ·
            have H47 := H10.ext xt53
            have s42 : f31 45 = .bool (eqM mn (turnM mn (turnM mn mr)) mn mr) := hp30 16 rfl rfl
            have s43 : f31 47 = .int .u8 i := hp30 18 rfl rfl
            have tr4 : (eqM mn (turnM mn (turnM mn mr)) mn mr) = true := (by rw [turn_turn rt_]; exact eqM_refl _ _)
            refine gy rfl rfl s42 tr4 (cvI rfl s43 (by unfold I64 at *; omega) un5 un3 ?_)
            exact ⟨_, rfl, Ext.refl _, rfl⟩
          refine ⟨fun _ => ⟨fun f32 w55 hf31 xt54 hp31 => ?_, fun _ _ _ _ h => h⟩, ?_⟩
          ·
            have H48 := H10.ext xt54
            have s44 : f32 45 = .bool (eqM mn (turnM mn (turnM mn mr)) mn mr) := hp31 16 rfl rfl
            have tr5 : (eqM mn (turnM mn (turnM mn mr)) mn mr) = true := (by rw [turn_turn rt_]; exact eqM_refl _ _)
            refine gy rfl rfl s44 tr5 (mv rfl ((hf31 2 rfl).trans s10) ?_)
            exact ⟨_, rfl, Ext.refl _, rfl⟩
          refine ⟨fun _ => ⟨fun f33 w56 hf32 xt55 hp32 => ?_, fun _ _ _ _ h => h⟩, ?_⟩
          ·
            have H49 := H10.ext xt55
            have s45 : f33 45 = .bool (eqM mn (turnM mn (turnM mn mr)) mn mr) := hp32 16 rfl rfl
            have s46 : f33 49 = .int .u8 j := hp32 20 rfl rfl
            have tr6 : (eqM mn (turnM mn (turnM mn mr)) mn mr) = true := (by rw [turn_turn rt_]; exact eqM_refl _ _)
            refine gy rfl rfl s45 tr6 (cvI rfl s46 (by unfold I64 at *; omega) un5 un3 ?_)
            exact ⟨_, rfl, Ext.refl _, rfl⟩
          refine ⟨fun _ => ⟨fun f34 w57 hf33 xt56 hp33 => ?_, fun _ _ _ _ h => h⟩, ?_⟩
          ·
            have H50 := H10.ext xt56
            have s47 : f34 45 = .bool (eqM mn (turnM mn (turnM mn mr)) mn mr) := hp33 16 rfl rfl
            have s48 : f34 46 = .agg #[.int .i64 mn, .slice a_mr mr.length c_mr] := hp33 17 rfl rfl
            have s49 : f34 48 = .int .i64 i := hp33 19 rfl rfl
            have s50 : f34 50 = .int .i64 j := hp33 21 rfl rfl
            have tr7 : (eqM mn (turnM mn (turnM mn mr)) mn mr) = true := (by rw [turn_turn rt_]; exact eqM_refl _ _)
            refine gy rfl rfl s47 tr7 ?_
            have cc19 := mat_Has (mn := mn) (mr := mr) (i := i) (j := j) (w := w57) H50.mb (by unfold I64 at *; omega) (H50.rv 5 rfl) (by unfold I64 at *; omega) (by unfold I64 at *; omega) (by first | exact (right_sq rt_).1 | exact (right_sq rt_).2.1 | exact (right_sq rt_).2.2.1 | exact (right_sq rt_).2.2.2.2 | exact (right_sq (turn_right rt_)).1 | exact (right_sq (turn_right rt_)).2.1 | exact (right_sq (turn_right rt_)).2.2.1 | exact (right_sq (turn_right rt_)).2.2.2.2) (by first | exact (right_sq rt_).1 | exact (right_sq rt_).2.1 | exact (right_sq rt_).2.2.1 | exact (right_sq rt_).2.2.2.2 | exact (right_sq (turn_right rt_)).1 | exact (right_sq (turn_right rt_)).2.1 | exact (right_sq (turn_right rt_)).2.2.1 | exact (right_sq (turn_right rt_)).2.2.2.2) (by first | exact (right_sq rt_).1 | exact (right_sq rt_).2.1 | exact (right_sq rt_).2.2.1 | exact (right_sq rt_).2.2.2.2 | exact (right_sq (turn_right rt_)).1 | exact (right_sq (turn_right rt_)).2.1 | exact (right_sq (turn_right rt_)).2.2.1 | exact (right_sq (turn_right rt_)).2.2.2.2)
            refine ca go19 rfl (ec s48 (ec s49 (ec s50 e0))) cc19 ?_
            rintro _ w58 ⟨rfl, xt57⟩
            have H51 := H50.ext xt57
            exact ⟨_, rfl, xt57, rfl⟩
          refine ⟨fun _ => ⟨fun f35 w59 hf34 xt58 hp34 => ?_, fun _ _ _ _ h => h⟩, ?_⟩
          ·
            have H52 := H10.ext xt58
            have s51 : f35 45 = .bool (eqM mn (turnM mn (turnM mn mr)) mn mr) := hp34 16 rfl rfl
            have tr8 : (eqM mn (turnM mn (turnM mn mr)) mn mr) = true := (by rw [turn_turn rt_]; exact eqM_refl _ _)
            refine gy rfl rfl s51 tr8 (ldX H52 0 rfl ty24 rfl (hf34 9 rfl) (by decide) rfl ?_)
            exact ⟨_, rfl, Ext.refl _, rfl⟩
          refine ⟨fun _ => ⟨fun f36 w60 hf35 xt59 hp35 => ?_, fun _ _ _ _ h => h⟩, ?_⟩
          ·
            have H53 := H10.ext xt59
            have s52 : f36 45 = .bool (eqM mn (turnM mn (turnM mn mr)) mn mr) := hp35 16 rfl rfl
            have tr9 : (eqM mn (turnM mn (turnM mn mr)) mn mr) = true := (by rw [turn_turn rt_]; exact eqM_refl _ _)
            refine gy rfl rfl s52 tr9 (mv rfl ((hf35 2 rfl).trans s10) ?_)
            exact ⟨_, rfl, Ext.refl _, rfl⟩
          refine ⟨fun _ => ⟨fun f37 w61 hf36 xt60 hp36 => ?_, fun _ _ _ _ h => h⟩, ?_⟩
          ·
            have H54 := H10.ext xt60
            have s53 : f37 45 = .bool (eqM mn (turnM mn (turnM mn mr)) mn mr) := hp36 16 rfl rfl
            have s54 : f37 53 = .int .u8 j := hp36 24 rfl rfl
            have tr10 : (eqM mn (turnM mn (turnM mn mr)) mn mr) = true := (by rw [turn_turn rt_]; exact eqM_refl _ _)
            refine gy rfl rfl s53 tr10 (cvI rfl s54 (by unfold I64 at *; omega) un5 un3 ?_)
            exact ⟨_, rfl, Ext.refl _, rfl⟩
          refine ⟨fun _ => ⟨fun f38 w62 hf37 xt61 hp37 => ?_, fun _ _ _ _ h => h⟩, ?_⟩
          ·
            have H55 := H10.ext xt61
            have s55 : f38 45 = .bool (eqM mn (turnM mn (turnM mn mr)) mn mr) := hp37 16 rfl rfl
            have tr11 : (eqM mn (turnM mn (turnM mn mr)) mn mr) = true := (by rw [turn_turn rt_]; exact eqM_refl _ _)
            refine gy rfl rfl s55 tr11 (mv rfl ((hf37 1 rfl).trans s9) ?_)
            exact ⟨_, rfl, Ext.refl _, rfl⟩
          refine ⟨fun _ => ⟨fun f39 w63 hf38 xt62 hp38 => ?_, fun _ _ _ _ h => h⟩, ?_⟩
          ·
            have H56 := H10.ext xt62
            have s56 : f39 45 = .bool (eqM mn (turnM mn (turnM mn mr)) mn mr) := hp38 16 rfl rfl
            have s57 : f39 55 = .int .u8 i := hp38 26 rfl rfl
            have tr12 : (eqM mn (turnM mn (turnM mn mr)) mn mr) = true := (by rw [turn_turn rt_]; exact eqM_refl _ _)
            refine gy rfl rfl s56 tr12 (cvI rfl s57 (by unfold I64 at *; omega) un5 un3 ?_)
            exact ⟨_, rfl, Ext.refl _, rfl⟩
          refine ⟨fun _ => ⟨fun f40 w64 hf39 xt63 hp39 => ?_, fun _ _ _ _ h => h⟩, ?_⟩
          ·
            have H57 := H10.ext xt63
            have s58 : f40 45 = .bool (eqM mn (turnM mn (turnM mn mr)) mn mr) := hp39 16 rfl rfl
            have s59 : f40 52 = .agg #[.int .i64 mn, .slice a5 (turnM mn mr).length c5] := hp39 23 rfl rfl
            have s60 : f40 54 = .int .i64 j := hp39 25 rfl rfl
            have s61 : f40 56 = .int .i64 i := hp39 27 rfl rfl
            have tr13 : (eqM mn (turnM mn (turnM mn mr)) mn mr) = true := (by rw [turn_turn rt_]; exact eqM_refl _ _)
            refine gy rfl rfl s58 tr13 ?_
            have cc20 := mat_Has (mn := mn) (mr := (turnM mn mr)) (i := j) (j := i) (w := w64) H57.mb (by unfold I64 at *; omega) (H57.rv 1 rfl) (by unfold I64 at *; omega) (by unfold I64 at *; omega) (by first | exact (right_sq rt_).1 | exact (right_sq rt_).2.1 | exact (right_sq rt_).2.2.1 | exact (right_sq rt_).2.2.2.2 | exact (right_sq (turn_right rt_)).1 | exact (right_sq (turn_right rt_)).2.1 | exact (right_sq (turn_right rt_)).2.2.1 | exact (right_sq (turn_right rt_)).2.2.2.2) (by first | exact (right_sq rt_).1 | exact (right_sq rt_).2.1 | exact (right_sq rt_).2.2.1 | exact (right_sq rt_).2.2.2.2 | exact (right_sq (turn_right rt_)).1 | exact (right_sq (turn_right rt_)).2.1 | exact (right_sq (turn_right rt_)).2.2.1 | exact (right_sq (turn_right rt_)).2.2.2.2) (by first | exact (right_sq rt_).1 | exact (right_sq rt_).2.1 | exact (right_sq rt_).2.2.1 | exact (right_sq rt_).2.2.2.2 | exact (right_sq (turn_right rt_)).1 | exact (right_sq (turn_right rt_)).2.1 | exact (right_sq (turn_right rt_)).2.2.1 | exact (right_sq (turn_right rt_)).2.2.2.2)
            refine ca go19 rfl (ec s59 (ec s60 (ec s61 e0))) cc20 ?_
            rintro _ w65 ⟨rfl, xt64⟩
            have H58 := H57.ext xt64
            exact ⟨_, rfl, xt64, rfl⟩
          refine ⟨fun _ => ⟨fun f41 w66 hf40 xt65 hp40 => ?_, fun _ _ _ _ h => h⟩, ?_⟩
          ·
            have H59 := H10.ext xt65
            have s62 : f41 45 = .bool (eqM mn (turnM mn (turnM mn mr)) mn mr) := hp40 16 rfl rfl
            have s63 : f41 51 = .bool (hasM mn mr i j) := hp40 22 rfl rfl
            have s64 : f41 57 = .bool (hasM mn (turnM mn mr) j i) := hp40 28 rfl rfl
            have tr14 : (eqM mn (turnM mn (turnM mn mr)) mn mr) = true := (by rw [turn_turn rt_]; exact eqM_refl _ _)
            refine gy rfl rfl s62 tr14 (eqB rfl rfl s63 s64 un4 ?_)
            exact ⟨_, rfl, Ext.refl _, rfl⟩
          refine ⟨fun _ => ⟨fun f42 w67 hf41 xt66 hp41 => ?_, fun _ _ _ _ h => h⟩, ?_⟩
          ·
            have H60 := H10.ext xt66
            have s65 : f42 45 = .bool (eqM mn (turnM mn (turnM mn mr)) mn mr) := hp41 16 rfl rfl
            have s66 : f42 58 = .bool ((hasM mn mr i j) == (hasM mn (turnM mn mr) j i)) := hp41 29 rfl rfl
            have tr15 : (eqM mn (turnM mn (turnM mn mr)) mn mr) = true := (by rw [turn_turn rt_]; exact eqM_refl _ _)
            refine pickT rfl rfl rfl s65 tr15 s66 ?_
            exact ⟨_, rfl, Ext.refl _, rfl⟩
          refine ⟨fun _ => ⟨fun f43 w68 hf42 xt67 hp42 => ?_, fun _ _ _ _ h => h⟩, ?_⟩
          ·
            have H61 := H10.ext xt67
            have s67 : f43 59 = .bool ((hasM mn mr i j) == (hasM mn (turnM mn mr) j i)) := hp42 30 rfl rfl
            refine mv rfl s67 ?_
            exact ⟨_, rfl, Ext.refl _, rfl⟩
          refine ⟨fun _ => ⟨fun f44 w69 hf43 xt68 hp43 => ?_, fun _ _ _ _ h => h⟩, ?_⟩
          ·
            have H62 := H10.ext xt68
            have s68 : f44 60 = .bool ((hasM mn mr i j) == (hasM mn (turnM mn mr) j i)) := hp43 31 rfl rfl
            have tr16 : ((hasM mn mr i j) == (hasM mn (turnM mn mr) j i)) = true := (by rw [turn_has rt_]; simp)
            refine gy rfl rfl s68 tr16 (ldX H62 0 rfl ty24 rfl (hf43 9 rfl) (by decide) rfl ?_)
            exact ⟨_, rfl, Ext.refl _, rfl⟩
          refine ⟨fun _ => ⟨fun f45 w70 hf44 xt69 hp44 => ?_, by rintro _ _ _ x_ ⟨a7, c7, e_, rv10⟩; exact ⟨a7, c7, e_, rv10.lift (Up.ext x_)⟩⟩, ?_⟩
          ·
            have H63 := H10.ext xt69
            have s69 : f45 60 = .bool ((hasM mn mr i j) == (hasM mn (turnM mn mr) j i)) := hp44 31 rfl rfl
            have s70 : f45 61 = .agg #[.int .i64 mn, .slice a5 (turnM mn mr).length c5] := hp44 32 rfl rfl
            have tr17 : ((hasM mn mr i j) == (hasM mn (turnM mn mr) j i)) = true := (by rw [turn_has rt_]; simp)
            refine gy rfl rfl s69 tr17 ?_
            have cc21 := mat_Pairs (mn := mn) (mr := (turnM mn mr)) (w := w70) H63.mb (hT.ext H63.below) (by unfold I64 at *; omega) (H63.rv 1 rfl) (by first | exact (right_sq rt_).1 | exact (right_sq rt_).2.1 | exact (right_sq rt_).2.2.1 | exact (right_sq rt_).2.2.2.2 | exact (right_sq (turn_right rt_)).1 | exact (right_sq (turn_right rt_)).2.1 | exact (right_sq (turn_right rt_)).2.2.1 | exact (right_sq (turn_right rt_)).2.2.2.2) (by first | exact (right_sq rt_).1 | exact (right_sq rt_).2.1 | exact (right_sq rt_).2.2.1 | exact (right_sq rt_).2.2.2.2 | exact (right_sq (turn_right rt_)).1 | exact (right_sq (turn_right rt_)).2.1 | exact (right_sq (turn_right rt_)).2.2.1 | exact (right_sq (turn_right rt_)).2.2.2.2) (by first | exact (right_sq rt_).1 | exact (right_sq rt_).2.1 | exact (right_sq rt_).2.2.1 | exact (right_sq rt_).2.2.2.2 | exact (right_sq (turn_right rt_)).1 | exact (right_sq (turn_right rt_)).2.1 | exact (right_sq (turn_right rt_)).2.2.1 | exact (right_sq (turn_right rt_)).2.2.2.2) (by first | exact (right_sq rt_).1 | exact (right_sq rt_).2.1 | exact (right_sq rt_).2.2.1 | exact (right_sq rt_).2.2.2.2 | exact (right_sq (turn_right rt_)).1 | exact (right_sq (turn_right rt_)).2.1 | exact (right_sq (turn_right rt_)).2.2.1 | exact (right_sq (turn_right rt_)).2.2.2.2)
            refine ca go16 rfl (ec s70 e0) cc21 ?_
            rintro _ w71 ⟨a11, c11, rfl, xt70, rv15⟩
            have H64 := H63.ext xt70
            have H65 := H64.put (it := imm (.slice a11 (pairsM mn (turnM mn mr)).length c11) (pairsM mn (turnM mn mr))) rfl rv15
            exact ⟨_, rfl, xt70, ⟨a11, c11, rfl, rv15⟩⟩
          refine ⟨fun _ => ⟨fun f46 w72 hf45 xt71 hp45 => ?_, fun _ _ _ _ h => h⟩, ?_⟩
          ·
            have H66 := H10.ext xt71
            have s71 : f46 60 = .bool ((hasM mn mr i j) == (hasM mn (turnM mn mr) j i)) := hp45 31 rfl rfl
            obtain ⟨a12, c12, s72, rv16⟩ : ∃ (a12 : Option Addr) (c12 : Nat), f46 62 = .slice a12 (pairsM mn (turnM mn mr)).length c12 ∧ RV (MS M [box bb3 #[.int .i64 mn, .slice a5 (turnM mn mr).length c5] 24, imm (.slice a5 (turnM mn mr).length c5) (turnM mn mr), imm (.slice a4 (ofMR mn (pairsM mn mr)).length c4) (ofMR mn (pairsM mn mr)), box (I0 8) #[.int .i64 (ofMN mn (pairsM mn mr)), .slice a4 (ofMR mn (pairsM mn mr)).length c4] 24, box bb0 #[.int .i64 mn, .slice a_mr mr.length c_mr] 24, imm (.slice a_mr mr.length c_mr) mr]) w72 (.slice a12 (pairsM mn (turnM mn mr)).length c12) (pairsM mn (turnM mn mr)) := hp45 33 rfl rfl
            have H67 := H66.put (it := imm (.slice a12 (pairsM mn (turnM mn mr)).length c12) (pairsM mn (turnM mn mr))) rfl rv16
            have tr18 : ((hasM mn mr i j) == (hasM mn (turnM mn mr) j i)) = true := (by rw [turn_has rt_]; simp)
            refine gy rfl rfl s71 tr18 (lnS rfl s72 un31 ?_)
            exact ⟨_, rfl, Ext.refl _, rfl⟩
          refine ⟨fun _ => ⟨fun f47 w73 hf46 xt72 hp46 => ?_, fun _ _ _ _ h => h⟩, ?_⟩
          ·
            have H68 := H10.ext xt72
            have s73 : f47 60 = .bool ((hasM mn mr i j) == (hasM mn (turnM mn mr) j i)) := hp46 31 rfl rfl
            have tr19 : ((hasM mn mr i j) == (hasM mn (turnM mn mr) j i)) = true := (by rw [turn_has rt_]; simp)
            refine gy rfl rfl s73 tr19 (ldX H68 4 rfl ty24 rfl ((hf46 3 rfl).trans s11) (by decide) rfl ?_)
            exact ⟨_, rfl, Ext.refl _, rfl⟩
          refine ⟨fun _ => ⟨fun f48 w74 hf47 xt73 hp47 => ?_, by rintro _ _ _ x_ ⟨a8, c8, e_, rv11⟩; exact ⟨a8, c8, e_, rv11.lift (Up.ext x_)⟩⟩, ?_⟩
          ·
            have H69 := H10.ext xt73
            have s74 : f48 60 = .bool ((hasM mn mr i j) == (hasM mn (turnM mn mr) j i)) := hp47 31 rfl rfl
            have s75 : f48 64 = .agg #[.int .i64 mn, .slice a_mr mr.length c_mr] := hp47 35 rfl rfl
            have tr20 : ((hasM mn mr i j) == (hasM mn (turnM mn mr) j i)) = true := (by rw [turn_has rt_]; simp)
            refine gy rfl rfl s74 tr20 ?_
            have cc22 := mat_Pairs (mn := mn) (mr := mr) (w := w74) H69.mb (hT.ext H69.below) (by unfold I64 at *; omega) (H69.rv 5 rfl) (by first | exact (right_sq rt_).1 | exact (right_sq rt_).2.1 | exact (right_sq rt_).2.2.1 | exact (right_sq rt_).2.2.2.2 | exact (right_sq (turn_right rt_)).1 | exact (right_sq (turn_right rt_)).2.1 | exact (right_sq (turn_right rt_)).2.2.1 | exact (right_sq (turn_right rt_)).2.2.2.2) (by first | exact (right_sq rt_).1 | exact (right_sq rt_).2.1 | exact (right_sq rt_).2.2.1 | exact (right_sq rt_).2.2.2.2 | exact (right_sq (turn_right rt_)).1 | exact (right_sq (turn_right rt_)).2.1 | exact (right_sq (turn_right rt_)).2.2.1 | exact (right_sq (turn_right rt_)).2.2.2.2) (by first | exact (right_sq rt_).1 | exact (right_sq rt_).2.1 | exact (right_sq rt_).2.2.1 | exact (right_sq rt_).2.2.2.2 | exact (right_sq (turn_right rt_)).1 | exact (right_sq (turn_right rt_)).2.1 | exact (right_sq (turn_right rt_)).2.2.1 | exact (right_sq (turn_right rt_)).2.2.2.2) (by first | exact (right_sq rt_).1 | exact (right_sq rt_).2.1 | exact (right_sq rt_).2.2.1 | exact (right_sq rt_).2.2.2.2 | exact (right_sq (turn_right rt_)).1 | exact (right_sq (turn_right rt_)).2.1 | exact (right_sq (turn_right rt_)).2.2.1 | exact (right_sq (turn_right rt_)).2.2.2.2)
            refine ca go16 rfl (ec s75 e0) cc22 ?_
            rintro _ w75 ⟨a13, c13, rfl, xt74, rv17⟩
            have H70 := H69.ext xt74
            have H71 := H70.put (it := imm (.slice a13 (pairsM mn mr).length c13) (pairsM mn mr)) rfl rv17
            exact ⟨_, rfl, xt74, ⟨a13, c13, rfl, rv17⟩⟩
          refine ⟨fun _ => ⟨fun f49 w76 hf48 xt75 hp48 => ?_, fun _ _ _ _ h => h⟩, ?_⟩
          ·
            have H72 := H10.ext xt75
            have s76 : f49 60 = .bool ((hasM mn mr i j) == (hasM mn (turnM mn mr) j i)) := hp48 31 rfl rfl
            obtain ⟨a14, c14, s77, rv18⟩ : ∃ (a14 : Option Addr) (c14 : Nat), f49 65 = .slice a14 (pairsM mn mr).length c14 ∧ RV (MS M [box bb3 #[.int .i64 mn, .slice a5 (turnM mn mr).length c5] 24, imm (.slice a5 (turnM mn mr).length c5) (turnM mn mr), imm (.slice a4 (ofMR mn (pairsM mn mr)).length c4) (ofMR mn (pairsM mn mr)), box (I0 8) #[.int .i64 (ofMN mn (pairsM mn mr)), .slice a4 (ofMR mn (pairsM mn mr)).length c4] 24, box bb0 #[.int .i64 mn, .slice a_mr mr.length c_mr] 24, imm (.slice a_mr mr.length c_mr) mr]) w76 (.slice a14 (pairsM mn mr).length c14) (pairsM mn mr) := hp48 36 rfl rfl
            have H73 := H72.put (it := imm (.slice a14 (pairsM mn mr).length c14) (pairsM mn mr)) rfl rv18
            have tr21 : ((hasM mn mr i j) == (hasM mn (turnM mn mr) j i)) = true := (by rw [turn_has rt_]; simp)
            refine gy rfl rfl s76 tr21 (lnS rfl s77 un31 ?_)
            exact ⟨_, rfl, Ext.refl _, rfl⟩
          exact DSteps.rest rfl _
        · intro f50 w77 hf49 xt76 hp49
          have H74 := H10.ext xt76
          have s78 : f50 60 = .bool ((hasM mn mr i j) == (hasM mn (turnM mn mr) j i)) := hp49 31 rfl
          have s79 : f50 63 = .int .i64 ((pairsM mn (turnM mn mr)).length : Int) := hp49 34 rfl
          have s80 : f50 66 = .int .i64 ((pairsM mn mr).length : Int) := hp49 37 rfl
          have tr22 : ((hasM mn mr i j) == (hasM mn (turnM mn mr) j i)) = true := (by rw [turn_has rt_]; simp)
          refine k (gy rfl rfl s78 tr22 (eql rfl rfl s79 s80 (k (pickT rfl rfl rfl s78 tr22 rfl (k (asg (v := .bool (decide (((pairsM mn (turnM mn mr)).length : Int) = ((pairsM mn mr).length : Int)))) rfl rfl (z (nx (rt (r1 rfl rfl ?_))))))))))
          have e0 : (decide (((pairsM mn (turnM mn mr)).length : Int) = ((pairsM mn mr).length : Int)) : Bool) = true := by exact (decide_eq_true (by rw [turn_len rt_]))
          have ev_ := cg1 (fun (x_0 : Bool) => (.bool x_0 : Value)) e0
          exact ⟨ev_, H74.below⟩
end Go.Proofs.YtmhopljngkgidaaDoor
