/- PRINTED by my own tool (wip/tool/gen.py): contracts of Go functions of this seat, each with its proof. -/
import Derived.Test.YtmliihgaoaolmaaR03L11A
import Derived.Test.YtmliihgaoaolmaaR03Orig
import Derived.Test.YtmliihgaoaolmaaR03Fns
import Derived.Test.YtmliihgaoaolmaaEngV
import Derived.Test.YtmliihgaoaolmaaEwSpecO
namespace Go.Proofs.Ytmliihgaoaolmaa
open Go.Ew Go.RowKit
set_option linter.unusedVariables false
set_option linter.unusedSimpArgs false
attribute [local irreducible] WL WC SO Code.wp wpList retQ Ret
attribute [local irreducible] bitB hasW inR hasR setR countW countR subR words newR listR orR firstW tab8
theorem go20 : GoF Try.prog 20 := ⟨_, _, Try.func20, rfl, by kernel_rfl⟩
theorem go21 : GoF Try.prog 21 := ⟨_, _, Try.func21, rfl, by kernel_rfl⟩
theorem go23 : GoF Try.prog 23 := ⟨_, _, Try.func23, rfl, by kernel_rfl⟩
theorem go24 : GoF Try.prog 24 := ⟨_, _, Try.func24, rfl, by kernel_rfl⟩
theorem go26 : GoF Try.prog 26 := ⟨_, _, Try.func26, rfl, by kernel_rfl⟩
theorem un4 : Try.prog.underlying 4 = some (.bool) := by kernel_rfl
theorem go29 : GoF Try.prog 29 := ⟨_, _, Try.func29, rfl, by kernel_rfl⟩
/- eyewitness/eyewitnesslaw11.OriginTells -/
set_option maxRecDepth 100000 in
set_option maxHeartbeats 1600000 in
theorem law_OriginTells {M : Nat → Prop} {w : World} {a_h : Option Addr} {c_h : Nat} {h : List (List (Bool × ByteArray × Int))} {a_fr : Option Addr} {c_fr : Nat} {fr : List Int} {tr : Int} (hM : ∀ b, M b → b < w.heap.size) (h_h : RV M w (.slice a_h h.length c_h) h) (h_fr : RV M w (.slice a_fr fr.length c_fr) fr) (h_tr : I64 tr) (hb_h : h.flatten.length ≤ 1048576) : Calls Try.prog 6 #[.slice a_h h.length c_h, .slice a_fr fr.length c_fr, .int .i64 tr] w (Ret fun v w' =>  v = .bool true ∧ Ext w w') := by
  refine enter 54 Try.func6 rfl rfl rfl fun f0 ha => ?_
  have H := HI.start (M0 := M) (w := w) hM
  have H0 := H.put (it := imm (.slice a_h h.length c_h) h) rfl (by rw [MS_nil]; exact h_h)
  have H1 := H0.put (it := imm (.slice a_fr fr.length c_fr) fr) rfl (by rw [MS_cons_none rfl, MS_nil]; exact h_fr)
  have ln_h := rv_len h_h
  have ln_fr := rv_len h_fr
  have i0 : f0 0 = .slice a_h h.length c_h := ha 0 (by simp)
  have i1 : f0 1 = .slice a_fr fr.length c_fr := ha 1 (by simp)
  have i2 : f0 2 = .int .i64 tr := ha 2 (by simp)
  refine sq (rg (k (asg (v := .bool false) rfl rfl (z (nx (sq (rg (k (mv rfl i0 (k ?_))))))))))
  have cc0 := law11_facts (h := h) (w := w) H1.mb (H1.rv 1 rfl) (by first | assumption | decide +kernel)
  refine ca go20 rfl (ec rfl e0) cc0 ?_
  rintro _ w0 ⟨a0, c0, a1, c1, a2, c2, rfl, xt0, rv0, rv1, rv2⟩
  have H2 := H1.ext xt0
  have H3 := H2.put (it := imm (.slice a0 (fxV h).length c0) (fxV h)) rfl rv0
  have H4 := H3.put (it := imm (.slice a1 (fxI h).length c1) (fxI h)) rfl (by rw [MS_cons_none rfl]; exact rv1)
  have H5 := H4.put (it := imm (.slice a2 ([] : List Int).length c2) ([] : List Int)) rfl (by rw [MS_cons_none rfl, MS_cons_none rfl]; exact rv2)
  refine k (mv (v := .tuple #[.agg #[.slice a0 (fxV h).length c0, .slice a1 (fxI h).length c1, .slice a2 ([] : List Int).length c2], .bool (fOk h)]) rfl rfl (k (xt rfl rfl rfl (k (xt rfl rfl rfl (k (al H5 ty30 ?_)))))))
  intro bb0 w1 xt1 (H6 : HI M w w1 [box bb0 #[.slice none 0 0, .slice none 0 0, .slice none 0 0] 30, imm (.slice a2 ([] : List Int).length c2) ([] : List Int), imm (.slice a1 (fxI h).length c1) (fxI h), imm (.slice a0 (fxV h).length c0) (fxV h), imm (.slice a_fr fr.length c_fr) fr, imm (.slice a_h h.length c_h) h])
  refine k (stX H6 0 rfl ty30 rfl rfl rfl rfl rfl rfl rfl ?_)
  intro w2 (H7 : HI M w w2 [box bb0 #[.slice a0 (fxV h).length c0, .slice a1 (fxI h).length c1, .slice a2 ([] : List Int).length c2] 30, imm (.slice a2 ([] : List Int).length c2) ([] : List Int), imm (.slice a1 (fxI h).length c1) (fxI h), imm (.slice a0 (fxV h).length c0) (fxV h), imm (.slice a_fr fr.length c_fr) fr, imm (.slice a_h h.length c_h) h])
  refine k (asg (v := .bool (fOk h)) rfl rfl (z (nx (sq (sq (rg (k (mv (v := .bool (fOk h)) rfl rfl (k (not_ rfl rfl (k (mv (v := .bool (!(fOk h))) rfl rfl ?_))))))))))))
  rcases Bool.eq_false_or_eq_true (!(fOk h)) with b0 | b0
  · -- !(fOk h) is True
    refine k (gn rfl rfl rfl b0 (k (gn rfl rfl rfl b0 (k (gn rfl rfl rfl b0 (k (pickT rfl rfl rfl rfl b0 rfl (z (nx (cdT rfl rfl rfl (sq (rg (k ?_)))))))))))))
    have cc1 := awake11 (w := w2)
    refine ca go21 rfl e0 cc1 ?_
    rintro _ w3 ⟨rfl, xt2⟩
    have H8 := H7.ext xt2
    refine k (asg (v := .bool true) rfl rfl (z (nx (rt (then_ret (r1 rfl rfl ?_))))))
    exact ⟨rfl, H8.below⟩
  · -- !(fOk h) is False
    refine k (gy rfl rfl rfl b0 (mv rfl i1 (k (gy rfl rfl rfl b0 (lnS rfl rfl un28 (k (gy rfl rfl rfl b0 (gtr rfl rfl rfl rfl (k (pickF rfl rfl rfl rfl b0 rfl (z (nx ?_))))))))))))
    refine cd (b := decide (60 < (fr.length : Int))) rfl rfl (fun b1 => ?_) (fun b1 => ?_)
    ·
      have p1 := of_decide_eq_true b1
      refine sq (rg (k ?_))
      have cc1 := awake11 (w := w2)
      refine ca go21 rfl e0 cc1 ?_
      rintro _ w3 ⟨rfl, xt2⟩
      have H8 := H7.ext xt2
      refine k (asg (v := .bool true) rfl rfl (z (nx (rt (then_ret (r1 rfl rfl ?_))))))
      exact ⟨rfl, H8.below⟩
    ·
      have p1 := of_decide_eq_false b1
      refine sk (nx (sq ?_))
      have hk_ : fOk h = true := by simpa using ‹(!fOk h) = false›
      have hl_ := fxI_len h
      have hr_ := fromR_len (fxI h)
      refine drx [.v, .v, .v, .v, .n, .n, .s 4 1, .s 5 3] [fun (lo hi : Nat) (v : Value) (w' : World) => v = .agg #[.slice a0 (fxV h).length c0, .slice a1 (fxI h).length c1, .slice a2 ([] : List Int).length c2], fun (lo hi : Nat) (v : Value) (w' : World) => ∃ (a3 : Option Addr) (c3 : Nat) (a4 : Option Addr) (c4 : Nat) (a5 : Option Addr) (c5 : Nat), v = .agg #[.slice a3 (fxV h).length c3, .slice a4 (fxI h).length c4, .slice a5 (fromM (fxI h)).length c5] ∧ RV (MX (MS M [box bb0 #[.slice a0 (fxV h).length c0, .slice a1 (fxI h).length c1, .slice a2 ([] : List Int).length c2] 30, imm (.slice a2 ([] : List Int).length c2) ([] : List Int), imm (.slice a1 (fxI h).length c1) (fxI h), imm (.slice a0 (fxV h).length c0) (fxV h), imm (.slice a_fr fr.length c_fr) fr, imm (.slice a_h h.length c_h) h]) w2.heap.size lo hi) w' (.slice a3 (fxV h).length c3) (fxV h) ∧ RV (MX (MS M [box bb0 #[.slice a0 (fxV h).length c0, .slice a1 (fxI h).length c1, .slice a2 ([] : List Int).length c2] 30, imm (.slice a2 ([] : List Int).length c2) ([] : List Int), imm (.slice a1 (fxI h).length c1) (fxI h), imm (.slice a0 (fxV h).length c0) (fxV h), imm (.slice a_fr fr.length c_fr) fr, imm (.slice a_h h.length c_h) h]) w2.heap.size lo hi) w' (.slice a4 (fxI h).length c4) (fxI h) ∧ RV (MX (MS M [box bb0 #[.slice a0 (fxV h).length c0, .slice a1 (fxI h).length c1, .slice a2 ([] : List Int).length c2] 30, imm (.slice a2 ([] : List Int).length c2) ([] : List Int), imm (.slice a1 (fxI h).length c1) (fxI h), imm (.slice a0 (fxV h).length c0) (fxV h), imm (.slice a_fr fr.length c_fr) fr, imm (.slice a_h h.length c_h) h]) w2.heap.size lo hi) w' (.slice a5 (fromM (fxI h)).length c5) (fromM (fxI h)), fun (lo hi : Nat) (v : Value) (w' : World) => v = .agg #[.slice a0 (fxV h).length c0, .slice a1 (fxI h).length c1, .slice a2 ([] : List Int).length c2], fun (lo hi : Nat) (v : Value) (w' : World) => ∃ (a6 : Option Addr) (c6 : Nat) (a7 : Option Addr) (c7 : Nat) (a8 : Option Addr) (c8 : Nat), v = .agg #[.slice a6 (fxV h).length c6, .slice a7 (fxI h).length c7, .slice a8 (fromR (fxI h)).length c8] ∧ RV (MX (MS M [box bb0 #[.slice a0 (fxV h).length c0, .slice a1 (fxI h).length c1, .slice a2 ([] : List Int).length c2] 30, imm (.slice a2 ([] : List Int).length c2) ([] : List Int), imm (.slice a1 (fxI h).length c1) (fxI h), imm (.slice a0 (fxV h).length c0) (fxV h), imm (.slice a_fr fr.length c_fr) fr, imm (.slice a_h h.length c_h) h]) w2.heap.size lo hi) w' (.slice a6 (fxV h).length c6) (fxV h) ∧ RV (MX (MS M [box bb0 #[.slice a0 (fxV h).length c0, .slice a1 (fxI h).length c1, .slice a2 ([] : List Int).length c2] 30, imm (.slice a2 ([] : List Int).length c2) ([] : List Int), imm (.slice a1 (fxI h).length c1) (fxI h), imm (.slice a0 (fxV h).length c0) (fxV h), imm (.slice a_fr fr.length c_fr) fr, imm (.slice a_h h.length c_h) h]) w2.heap.size lo hi) w' (.slice a7 (fxI h).length c7) (fxI h) ∧ RV (MX (MS M [box bb0 #[.slice a0 (fxV h).length c0, .slice a1 (fxI h).length c1, .slice a2 ([] : List Int).length c2] 30, imm (.slice a2 ([] : List Int).length c2) ([] : List Int), imm (.slice a1 (fxI h).length c1) (fxI h), imm (.slice a0 (fxV h).length c0) (fxV h), imm (.slice a_fr fr.length c_fr) fr, imm (.slice a_h h.length c_h) h]) w2.heap.size lo hi) w' (.slice a8 (fromR (fxI h)).length c8) (fromR (fxI h)), fun _ _ _ _ => True, fun _ _ _ _ => True, fun _ _ _ _ => True, fun _ _ _ _ => True] [(#[], 0), (#[], 0), (#[], 0), (#[], 0), (#[.slice none 0 0, .slice none 0 0, .slice none 0 0], 30), (#[.slice none 0 0, .slice none 0 0, .slice none 0 0], 30), (#[], 0), (#[], 0)] rfl (by kernel_rfl) (by intro i_ hi_ lo_ hi2_ v_ w_ w2_ h_; rcases i_ with _ | _ | _ | _ | _ | _ | _ | _ | i_ <;> first | exact False.elim hi_ | exact trivial) ?_ ?_
      ·
        refine ⟨⟨fun _ _ _ _ _ _ h => h, rfl, fun f0 w7 hf0 xt6 hp0 => ?_⟩, ?_⟩
        ·
          refine ldX (H7.ext xt6) 0 rfl ty30 rfl (hf0 7 rfl) (by decide) rfl ?_
          exact ⟨_, rfl, Ext.refl _, rfl⟩
        refine ⟨⟨by rintro _ _ _ _ _ k_ ⟨a3, c3, a4, c4, a5, c5, e_, rv9, rv10, rv11⟩; exact ⟨a3, c3, a4, c4, a5, c5, e_, rvx_keep H7.mb rv9 k_, rvx_keep H7.mb rv10 k_, rvx_keep H7.mb rv11 k_⟩, rfl, fun f1 w8 hf1 xt7 hp1 => ?_⟩, ?_⟩
        ·
          obtain ⟨_, _, _, _, hq0⟩ := hp1 0 rfl ⟨_, rfl, rfl⟩
          have s0 : f1 25 = .agg #[.slice a0 (fxV h).length c0, .slice a1 (fxI h).length c1, .slice a2 ([] : List Int).length c2] := hq0
          have cc3 := origin_Fill (fv := (fxV h)) (fi := (fxI h)) (fo := ([] : List Int)) (w := w8) (md_below H7.mb xt7) (rv_md (H7.rv 3 rfl) xt7) (rv_md (H7.rv 2 rfl) xt7) (rv_md (H7.rv 1 rfl) xt7) (by first | omega | (rw [fromR_len]; omega))
          refine ca go22 rfl (ec s0 e0) cc3 ?_
          rintro _ w9 ⟨a9, c9, a10, c10, a11, c11, rfl, xt8, rv15, rv16, rv17⟩
          exact ⟨_, rfl, xt8, ⟨a9, c9, a10, c10, a11, c11, rfl, (rvx_new rv15), (rvx_new rv16), (rvx_new rv17)⟩⟩
        refine ⟨⟨fun _ _ _ _ _ _ h => h, rfl, fun f2 w10 hf2 xt9 hp2 => ?_⟩, ?_⟩
        ·
          refine ldX (H7.ext xt9) 0 rfl ty30 rfl (hf2 7 rfl) (by decide) rfl ?_
          exact ⟨_, rfl, Ext.refl _, rfl⟩
        refine ⟨⟨by rintro _ _ _ _ _ k_ ⟨a6, c6, a7, c7, a8, c8, e_, rv12, rv13, rv14⟩; exact ⟨a6, c6, a7, c7, a8, c8, e_, rvx_keep H7.mb rv12 k_, rvx_keep H7.mb rv13 k_, rvx_keep H7.mb rv14 k_⟩, rfl, fun f3 w11 hf3 xt10 hp3 => ?_⟩, ?_⟩
        ·
          obtain ⟨_, _, _, _, hq1⟩ := hp3 2 rfl ⟨_, rfl, rfl⟩
          have s1 : f3 27 = .agg #[.slice a0 (fxV h).length c0, .slice a1 (fxI h).length c1, .slice a2 ([] : List Int).length c2] := hq1
          have cc4 := ref11_Fill (fv := (fxV h)) (fi := (fxI h)) (fo := ([] : List Int)) (w := w11) (md_below H7.mb xt10) (rv_md (H7.rv 3 rfl) xt10) (rv_md (H7.rv 2 rfl) xt10) (rv_md (H7.rv 1 rfl) xt10) (by first | omega | (rw [fromR_len]; omega))
          refine ca go23 rfl (ec s1 e0) cc4 ?_
          rintro _ w12 ⟨a12, c12, a13, c13, a14, c14, rfl, xt11, rv18, rv19, rv20⟩
          exact ⟨_, rfl, xt11, ⟨a12, c12, a13, c13, a14, c14, rfl, (rvx_new rv18), (rvx_new rv19), (rvx_new rv20)⟩⟩
        refine ⟨⟨fun _ _ _ _ _ _ h => h, rfl, fun f4 w13 hf4 xt12 hp4 => ?_⟩, ?_⟩
        ·
          refine alS ty30 ?_
          exact ⟨rfl, rfl, trivial⟩
        refine ⟨⟨fun _ _ _ _ _ _ h => h, rfl, fun f5 w14 hf5 xt13 hp5 => ?_⟩, ?_⟩
        ·
          refine alS ty30 ?_
          exact ⟨rfl, rfl, trivial⟩
        refine ⟨⟨fun _ _ _ _ _ _ h => h, rfl, rfl, rfl, ⟨_, rfl, rfl⟩, ⟨_, rfl, rfl⟩, by decide, trivial, by rintro _ _ _ _ ⟨a3, c3, a4, c4, a5, c5, e_, rv9, rv10, rv11⟩; subst e_; rfl, fun f6 w15 bb3 cur0 _ _ xt14 s2 hb0 hc0 hv0 => ?_⟩, ?_⟩
        ·
          obtain ⟨a3, c3, a4, c4, a5, c5, e_, rv9, rv10, rv11⟩ := hv0
          exact stS ty30 rfl rfl s2 rfl hb0 ((congrArg (fun v => v.cells.size) e_).trans rfl) hc0 ((congrArg (fun v => v.cells.toList.all Value.oneCell') e_).trans rfl)
        refine ⟨⟨fun _ _ _ _ _ _ h => h, rfl, rfl, rfl, ⟨_, rfl, rfl⟩, ⟨_, rfl, rfl⟩, by decide, trivial, by rintro _ _ _ _ ⟨a6, c6, a7, c7, a8, c8, e_, rv12, rv13, rv14⟩; subst e_; rfl, fun f7 w16 bb4 cur1 _ _ xt15 s3 hb1 hc1 hv1 => ?_⟩, ?_⟩
        ·
          obtain ⟨a6, c6, a7, c7, a8, c8, e_, rv12, rv13, rv14⟩ := hv1
          exact stS ty30 rfl rfl s3 rfl hb1 ((congrArg (fun v => v.cells.size) e_).trans rfl) hc1 ((congrArg (fun v => v.cells.toList.all Value.oneCell') e_).trans rfl)
        exact trivial
      · intro f8 w17 I0 hf6 xt16 hp6 hN0 hd0
        have s4 : f8 1 = .slice a_fr fr.length c_fr := (hf6 1 rfl).trans i1
        have s5 : f8 2 = .int .i64 tr := (hf6 2 rfl).trans i2
        have s6 : f8 7 = .pointer (some ⟨bb0, 0, none⟩) := hf6 7 rfl
        obtain ⟨a15, c15, a16, c16, a17, c17, s7, rv21, rv22, rv23⟩ := (hp6 1 _ rfl rfl).2.2
        obtain ⟨a18, c18, a19, c19, a20, c20, s8, rv24, rv25, rv26⟩ := (hp6 3 _ rfl rfl).2.2
        obtain ⟨s9, hg0, cur2, hc2, hk0⟩ := hN0 4 (by decide) trivial
        have hq2 : cur2 = #[.slice a15 (fxV h).length c15, .slice a16 (fxI h).length c16, .slice a17 (fromM (fxI h)).length c17] := (hk0.2.1 6 1 rfl rfl).trans (congrArg Value.cells s7)
        rw [hq2] at hc2
        have hz4_ := (hp6 4 _ rfl rfl).1
        obtain ⟨s10, hg1, cur3, hc3, hk1⟩ := hN0 5 (by decide) trivial
        have hq3 : cur3 = #[.slice a18 (fxV h).length c18, .slice a19 (fxI h).length c19, .slice a20 (fromR (fxI h)).length c20] := (hk1.2.1 7 3 rfl rfl).trans (congrArg Value.cells s8)
        rw [hq3] at hc3
        have hz5_ := (hp6 5 _ rfl rfl).1
        have hd4_5 := hd0 4 5 _ _ rfl rfl rfl rfl (by decide)
        have hd4_1 := hd0 4 1 _ _ rfl rfl rfl rfl (by decide)
        have hd4_3 := hd0 4 3 _ _ rfl rfl rfl rfl (by decide)
        have hd5_1 := hd0 5 1 _ _ rfl rfl rfl rfl (by decide)
        have hd5_3 := hd0 5 3 _ _ rfl rfl rfl rfl (by decide)
        have H10 : HI M w w17 [box (I0 4).1 #[.slice a15 (fxV h).length c15, .slice a16 (fxI h).length c16, .slice a17 (fromM (fxI h)).length c17] 30, box (I0 5).1 #[.slice a18 (fxV h).length c18, .slice a19 (fxI h).length c19, .slice a20 (fromR (fxI h)).length c20] 30, box bb0 #[.slice a0 (fxV h).length c0, .slice a1 (fxI h).length c1, .slice a2 ([] : List Int).length c2] 30, imm (.slice a2 ([] : List Int).length c2) ([] : List Int), imm (.slice a1 (fxI h).length c1) (fxI h), imm (.slice a0 (fxV h).length c0) (fxV h), imm (.slice a_fr fr.length c_fr) fr, imm (.slice a_h h.length c_h) h] := H7.lays xt16 [((I0 4).1, #[.slice a15 (fxV h).length c15, .slice a16 (fxI h).length c16, .slice a17 (fromM (fxI h)).length c17], 30), ((I0 5).1, #[.slice a18 (fxV h).length c18, .slice a19 (fxI h).length c19, .slice a20 (fromR (fxI h)).length c20], 30)] (by intro q_ hq_; simp only [List.mem_cons, List.not_mem_nil, or_false] at hq_; rcases hq_ with rfl | rfl <;> first | exact ⟨hz4_, hc2⟩ | exact ⟨hz5_, hc3⟩) (by simp only [List.map_cons, List.map_nil, List.nodup_cons, List.mem_cons, List.not_mem_nil, or_false, List.nodup_nil, and_true, not_or, not_false_eq_true, true_and] <;> omega)
        have H11 := H10.put (it := imm (.slice a15 (fxV h).length c15) (fxV h)) rfl (rvx_out [((I0 4).1, #[.slice a15 (fxV h).length c15, .slice a16 (fxI h).length c16, .slice a17 (fromM (fxI h)).length c17], 30), ((I0 5).1, #[.slice a18 (fxV h).length c18, .slice a19 (fxI h).length c19, .slice a20 (fromR (fxI h)).length c20], 30)] rv21 (by intro q_ hq_; simp only [List.mem_cons, List.not_mem_nil, or_false] at hq_; rcases hq_ with rfl | rfl <;> exact ⟨by assumption, by dsimp only; omega⟩))
        have H12 := H11.put (it := imm (.slice a16 (fxI h).length c16) (fxI h)) rfl (by rw [MS_cons_none rfl]; exact (rvx_out [((I0 4).1, #[.slice a15 (fxV h).length c15, .slice a16 (fxI h).length c16, .slice a17 (fromM (fxI h)).length c17], 30), ((I0 5).1, #[.slice a18 (fxV h).length c18, .slice a19 (fxI h).length c19, .slice a20 (fromR (fxI h)).length c20], 30)] rv22 (by intro q_ hq_; simp only [List.mem_cons, List.not_mem_nil, or_false] at hq_; rcases hq_ with rfl | rfl <;> exact ⟨by assumption, by dsimp only; omega⟩)))
        have H13 := H12.put (it := imm (.slice a17 (fromM (fxI h)).length c17) (fromM (fxI h))) rfl (by rw [MS_cons_none rfl, MS_cons_none rfl]; exact (rvx_out [((I0 4).1, #[.slice a15 (fxV h).length c15, .slice a16 (fxI h).length c16, .slice a17 (fromM (fxI h)).length c17], 30), ((I0 5).1, #[.slice a18 (fxV h).length c18, .slice a19 (fxI h).length c19, .slice a20 (fromR (fxI h)).length c20], 30)] rv23 (by intro q_ hq_; simp only [List.mem_cons, List.not_mem_nil, or_false] at hq_; rcases hq_ with rfl | rfl <;> exact ⟨by assumption, by dsimp only; omega⟩)))
        have H14 := H13.put (it := imm (.slice a18 (fxV h).length c18) (fxV h)) rfl (by rw [MS_cons_none rfl, MS_cons_none rfl, MS_cons_none rfl]; exact (rvx_out [((I0 4).1, #[.slice a15 (fxV h).length c15, .slice a16 (fxI h).length c16, .slice a17 (fromM (fxI h)).length c17], 30), ((I0 5).1, #[.slice a18 (fxV h).length c18, .slice a19 (fxI h).length c19, .slice a20 (fromR (fxI h)).length c20], 30)] rv24 (by intro q_ hq_; simp only [List.mem_cons, List.not_mem_nil, or_false] at hq_; rcases hq_ with rfl | rfl <;> exact ⟨by assumption, by dsimp only; omega⟩)))
        have H15 := H14.put (it := imm (.slice a19 (fxI h).length c19) (fxI h)) rfl (by rw [MS_cons_none rfl, MS_cons_none rfl, MS_cons_none rfl, MS_cons_none rfl]; exact (rvx_out [((I0 4).1, #[.slice a15 (fxV h).length c15, .slice a16 (fxI h).length c16, .slice a17 (fromM (fxI h)).length c17], 30), ((I0 5).1, #[.slice a18 (fxV h).length c18, .slice a19 (fxI h).length c19, .slice a20 (fromR (fxI h)).length c20], 30)] rv25 (by intro q_ hq_; simp only [List.mem_cons, List.not_mem_nil, or_false] at hq_; rcases hq_ with rfl | rfl <;> exact ⟨by assumption, by dsimp only; omega⟩)))
        have H16 := H15.put (it := imm (.slice a20 (fromR (fxI h)).length c20) (fromR (fxI h))) rfl (by rw [MS_cons_none rfl, MS_cons_none rfl, MS_cons_none rfl, MS_cons_none rfl, MS_cons_none rfl]; exact (rvx_out [((I0 4).1, #[.slice a15 (fxV h).length c15, .slice a16 (fxI h).length c16, .slice a17 (fromM (fxI h)).length c17], 30), ((I0 5).1, #[.slice a18 (fxV h).length c18, .slice a19 (fxI h).length c19, .slice a20 (fromR (fxI h)).length c20], 30)] rv26 (by intro q_ hq_; simp only [List.mem_cons, List.not_mem_nil, or_false] at hq_; rcases hq_ with rfl | rfl <;> exact ⟨by assumption, by dsimp only; omega⟩)))
        refine nx (sq (rg (k (ldX H16 8 rfl ty30 rfl s6 (by decide) rfl (k (al H16 ty30 ?_))))))
        intro bb5 w18 xt17 (H17 : HI M w w18 [box bb5 #[.slice none 0 0, .slice none 0 0, .slice none 0 0] 30, imm (.slice a20 (fromR (fxI h)).length c20) (fromR (fxI h)), imm (.slice a19 (fxI h).length c19) (fxI h), imm (.slice a18 (fxV h).length c18) (fxV h), imm (.slice a17 (fromM (fxI h)).length c17) (fromM (fxI h)), imm (.slice a16 (fxI h).length c16) (fxI h), imm (.slice a15 (fxV h).length c15) (fxV h), box (I0 4).1 #[.slice a15 (fxV h).length c15, .slice a16 (fxI h).length c16, .slice a17 (fromM (fxI h)).length c17] 30, box (I0 5).1 #[.slice a18 (fxV h).length c18, .slice a19 (fxI h).length c19, .slice a20 (fromR (fxI h)).length c20] 30, box bb0 #[.slice a0 (fxV h).length c0, .slice a1 (fxI h).length c1, .slice a2 ([] : List Int).length c2] 30, imm (.slice a2 ([] : List Int).length c2) ([] : List Int), imm (.slice a1 (fxI h).length c1) (fxI h), imm (.slice a0 (fxV h).length c0) (fxV h), imm (.slice a_fr fr.length c_fr) fr, imm (.slice a_h h.length c_h) h])
        refine k (stX H17 0 rfl ty30 rfl rfl rfl rfl rfl rfl rfl ?_)
        intro w19 (H18 : HI M w w19 [box bb5 #[.slice a0 (fxV h).length c0, .slice a1 (fxI h).length c1, .slice a2 ([] : List Int).length c2] 30, imm (.slice a20 (fromR (fxI h)).length c20) (fromR (fxI h)), imm (.slice a19 (fxI h).length c19) (fxI h), imm (.slice a18 (fxV h).length c18) (fxV h), imm (.slice a17 (fromM (fxI h)).length c17) (fromM (fxI h)), imm (.slice a16 (fxI h).length c16) (fxI h), imm (.slice a15 (fxV h).length c15) (fxV h), box (I0 4).1 #[.slice a15 (fxV h).length c15, .slice a16 (fxI h).length c16, .slice a17 (fromM (fxI h)).length c17] 30, box (I0 5).1 #[.slice a18 (fxV h).length c18, .slice a19 (fxI h).length c19, .slice a20 (fromR (fxI h)).length c20] 30, box bb0 #[.slice a0 (fxV h).length c0, .slice a1 (fxI h).length c1, .slice a2 ([] : List Int).length c2] 30, imm (.slice a2 ([] : List Int).length c2) ([] : List Int), imm (.slice a1 (fxI h).length c1) (fxI h), imm (.slice a0 (fxV h).length c0) (fxV h), imm (.slice a_fr fr.length c_fr) fr, imm (.slice a_h h.length c_h) h])
        refine z (nx (sq (rg (k (mv rfl s4 (k (fa fl30_2 rfl rfl (k (stX H18 0 rfl ty28 rfl rfl rfl rfl rfl rfl rfl ?_)))))))))
        intro w20 (H19 : HI M w w20 [box bb5 #[.slice a0 (fxV h).length c0, .slice a1 (fxI h).length c1, .slice a_fr fr.length c_fr] 30, imm (.slice a20 (fromR (fxI h)).length c20) (fromR (fxI h)), imm (.slice a19 (fxI h).length c19) (fxI h), imm (.slice a18 (fxV h).length c18) (fxV h), imm (.slice a17 (fromM (fxI h)).length c17) (fromM (fxI h)), imm (.slice a16 (fxI h).length c16) (fxI h), imm (.slice a15 (fxV h).length c15) (fxV h), box (I0 4).1 #[.slice a15 (fxV h).length c15, .slice a16 (fxI h).length c16, .slice a17 (fromM (fxI h)).length c17] 30, box (I0 5).1 #[.slice a18 (fxV h).length c18, .slice a19 (fxI h).length c19, .slice a20 (fromR (fxI h)).length c20] 30, box bb0 #[.slice a0 (fxV h).length c0, .slice a1 (fxI h).length c1, .slice a2 ([] : List Int).length c2] 30, imm (.slice a2 ([] : List Int).length c2) ([] : List Int), imm (.slice a1 (fxI h).length c1) (fxI h), imm (.slice a0 (fxV h).length c0) (fxV h), imm (.slice a_fr fr.length c_fr) fr, imm (.slice a_h h.length c_h) h])
        refine z (nx (sq ?_))
        refine dr 19 [fun (v : Value) (w' : World) => v = .bool true, fun (v : Value) (w' : World) => v = .bool true, fun (v : Value) (w' : World) => v = .agg #[.slice a15 (fxV h).length c15, .slice a16 (fxI h).length c16, .slice a17 (fromM (fxI h)).length c17], fun (v : Value) (w' : World) => v = .agg #[.slice a18 (fxV h).length c18, .slice a19 (fxI h).length c19, .slice a20 (fromR (fxI h)).length c20], fun (v : Value) (w' : World) => v = .bool (decide ((fxV h) = (fxV h)) && decide ((fxI h) = (fxI h)) && decide ((fromM (fxI h)) = (fromR (fxI h)))), fun (v : Value) (w' : World) => v = .bool (decide ((fxV h) = (fxV h)) && decide ((fxI h) = (fxI h)) && decide ((fromM (fxI h)) = (fromR (fxI h)))), fun (v : Value) (w' : World) => v = .bool (decide ((fxV h) = (fxV h)) && decide ((fxI h) = (fxI h)) && decide ((fromM (fxI h)) = (fromR (fxI h)))), fun (v : Value) (w' : World) => v = .agg #[.slice a0 (fxV h).length c0, .slice a1 (fxI h).length c1, .slice a_fr fr.length c_fr], fun (v : Value) (w' : World) => v = .bool (decide (fr = fromM (fxI h))), fun (v : Value) (w' : World) => v = .agg #[.slice a0 (fxV h).length c0, .slice a1 (fxI h).length c1, .slice a_fr fr.length c_fr], fun (v : Value) (w' : World) => v = .bool (decide (fr = fromR (fxI h))), fun (v : Value) (w' : World) => v = .bool ((decide (fr = fromM (fxI h))) == (decide (fr = fromR (fxI h)))), fun (v : Value) (w' : World) => v = .bool ((decide (fr = fromM (fxI h))) == (decide (fr = fromR (fxI h)))), fun (v : Value) (w' : World) => v = .bool ((decide (fr = fromM (fxI h))) == (decide (fr = fromR (fxI h)))), fun (v : Value) (w' : World) => v = .agg #[.slice a18 (fxV h).length c18, .slice a19 (fxI h).length c19, .slice a20 (fromR (fxI h)).length c20], fun (v : Value) (w' : World) => v = .int .i64 tr, fun (v : Value) (w' : World) => ∃ (a21 : Option Addr) (c21 : Nat), v = .slice a21 (readsO (fromR (fxI h)) tr (fromR (fxI h)).length).length c21 ∧ RV (MS M [box bb5 #[.slice a0 (fxV h).length c0, .slice a1 (fxI h).length c1, .slice a_fr fr.length c_fr] 30, imm (.slice a20 (fromR (fxI h)).length c20) (fromR (fxI h)), imm (.slice a19 (fxI h).length c19) (fxI h), imm (.slice a18 (fxV h).length c18) (fxV h), imm (.slice a17 (fromM (fxI h)).length c17) (fromM (fxI h)), imm (.slice a16 (fxI h).length c16) (fxI h), imm (.slice a15 (fxV h).length c15) (fxV h), box (I0 4).1 #[.slice a15 (fxV h).length c15, .slice a16 (fxI h).length c16, .slice a17 (fromM (fxI h)).length c17] 30, box (I0 5).1 #[.slice a18 (fxV h).length c18, .slice a19 (fxI h).length c19, .slice a20 (fromR (fxI h)).length c20] 30, box bb0 #[.slice a0 (fxV h).length c0, .slice a1 (fxI h).length c1, .slice a2 ([] : List Int).length c2] 30, imm (.slice a2 ([] : List Int).length c2) ([] : List Int), imm (.slice a1 (fxI h).length c1) (fxI h), imm (.slice a0 (fxV h).length c0) (fxV h), imm (.slice a_fr fr.length c_fr) fr, imm (.slice a_h h.length c_h) h]) w' (.slice a21 (readsO (fromR (fxI h)) tr (fromR (fxI h)).length).length c21) (readsO (fromR (fxI h)) tr (fromR (fxI h)).length), fun (v : Value) (w' : World) => v = .agg #[.slice a18 (fxV h).length c18, .slice a19 (fxI h).length c19, .slice a20 (fromR (fxI h)).length c20], fun (v : Value) (w' : World) => v = .int .i64 tr] rfl (by kernel_rfl) ?_ ?_
        ·
          refine ⟨fun _ => ⟨fun f9 w26 hf7 xt23 hp7 => ?_, fun _ _ _ _ h => h⟩, ?_⟩
          ·
            have H26 := H19.ext xt23
            have cc10 := awake11 (w := w26)
            refine ca go21 rfl e0 cc10 ?_
            rintro _ w27 ⟨rfl, xt24⟩
            have H27 := H26.ext xt24
            exact ⟨_, rfl, xt24, rfl⟩
          refine ⟨fun _ => ⟨fun f10 w28 hf8 xt25 hp8 => ?_, fun _ _ _ _ h => h⟩, ?_⟩
          ·
            have H28 := H19.ext xt25
            have s11 : f10 32 = .bool true := hp8 0 rfl rfl
            refine mv rfl s11 ?_
            exact ⟨_, rfl, Ext.refl _, rfl⟩
          refine ⟨fun _ => ⟨fun f11 w29 hf9 xt26 hp9 => ?_, fun _ _ _ _ h => h⟩, ?_⟩
          ·
            have H29 := H19.ext xt26
            have s12 : f11 33 = .bool true := hp9 1 rfl rfl
            refine gy rfl rfl s12 rfl (ldX H29 7 rfl ty30 rfl ((hf9 9 rfl).trans s9) (by decide) rfl ?_)
            exact ⟨_, rfl, Ext.refl _, rfl⟩
          refine ⟨fun _ => ⟨fun f12 w30 hf10 xt27 hp10 => ?_, fun _ _ _ _ h => h⟩, ?_⟩
          ·
            have H30 := H19.ext xt27
            have s13 : f12 33 = .bool true := hp10 1 rfl rfl
            refine gy rfl rfl s13 rfl (ldX H30 8 rfl ty30 rfl ((hf10 10 rfl).trans s10) (by decide) rfl ?_)
            exact ⟨_, rfl, Ext.refl _, rfl⟩
          refine ⟨fun _ => ⟨fun f13 w31 hf11 xt28 hp11 => ?_, fun _ _ _ _ h => h⟩, ?_⟩
          ·
            have H31 := H19.ext xt28
            have s14 : f13 33 = .bool true := hp11 1 rfl rfl
            have s15 : f13 34 = .agg #[.slice a15 (fxV h).length c15, .slice a16 (fxI h).length c16, .slice a17 (fromM (fxI h)).length c17] := hp11 2 rfl rfl
            have s16 : f13 35 = .agg #[.slice a18 (fxV h).length c18, .slice a19 (fxI h).length c19, .slice a20 (fromR (fxI h)).length c20] := hp11 3 rfl rfl
            refine gy rfl rfl s14 rfl ?_
            have cc11 := ref09_Same (av := (fxV h)) (ai := (fxI h)) (ao := (fromM (fxI h))) (bv := (fxV h)) (bi := (fxI h)) (bo := (fromR (fxI h))) (w := w31) H31.mb (H31.rv 6 rfl) (H31.rv 5 rfl) (H31.rv 4 rfl) (H31.rv 3 rfl) (H31.rv 2 rfl) (H31.rv 1 rfl)
            refine ca go24 rfl (ec s15 (ec s16 e0)) cc11 ?_
            rintro _ w32 ⟨rfl, xt29⟩
            have H32 := H31.ext xt29
            exact ⟨_, rfl, xt29, rfl⟩
          refine ⟨fun _ => ⟨fun f14 w33 hf12 xt30 hp12 => ?_, fun _ _ _ _ h => h⟩, ?_⟩
          ·
            have H33 := H19.ext xt30
            have s17 : f14 33 = .bool true := hp12 1 rfl rfl
            have s18 : f14 36 = .bool (decide ((fxV h) = (fxV h)) && decide ((fxI h) = (fxI h)) && decide ((fromM (fxI h)) = (fromR (fxI h)))) := hp12 4 rfl rfl
            refine pickT rfl rfl rfl s17 rfl s18 ?_
            exact ⟨_, rfl, Ext.refl _, rfl⟩
          refine ⟨fun _ => ⟨fun f15 w34 hf13 xt31 hp13 => ?_, fun _ _ _ _ h => h⟩, ?_⟩
          ·
            have H34 := H19.ext xt31
            have s19 : f15 37 = .bool (decide ((fxV h) = (fxV h)) && decide ((fxI h) = (fxI h)) && decide ((fromM (fxI h)) = (fromR (fxI h)))) := hp13 5 rfl rfl
            refine mv rfl s19 ?_
            exact ⟨_, rfl, Ext.refl _, rfl⟩
          refine ⟨fun _ => ⟨fun f16 w35 hf14 xt32 hp14 => ?_, fun _ _ _ _ h => h⟩, ?_⟩
          ·
            have H35 := H19.ext xt32
            have s20 : f16 38 = .bool (decide ((fxV h) = (fxV h)) && decide ((fxI h) = (fxI h)) && decide ((fromM (fxI h)) = (fromR (fxI h)))) := hp14 6 rfl rfl
            have tr2 : ((decide ((fxV h) = (fxV h)) && decide ((fxI h) = (fxI h)) && decide ((fromM (fxI h)) = (fromR (fxI h))))) = true := (by rw [fx_from hk_]; simp)
            refine gy rfl rfl s20 tr2 (ldX H35 0 rfl ty30 rfl (hf14 11 rfl) (by decide) rfl ?_)
            exact ⟨_, rfl, Ext.refl _, rfl⟩
          refine ⟨fun _ => ⟨fun f17 w36 hf15 xt33 hp15 => ?_, fun _ _ _ _ h => h⟩, ?_⟩
          ·
            have H36 := H19.ext xt33
            have s21 : f17 38 = .bool (decide ((fxV h) = (fxV h)) && decide ((fxI h) = (fxI h)) && decide ((fromM (fxI h)) = (fromR (fxI h)))) := hp15 6 rfl rfl
            have s22 : f17 39 = .agg #[.slice a0 (fxV h).length c0, .slice a1 (fxI h).length c1, .slice a_fr fr.length c_fr] := hp15 7 rfl rfl
            have tr3 : ((decide ((fxV h) = (fxV h)) && decide ((fxI h) = (fxI h)) && decide ((fromM (fxI h)) = (fromR (fxI h))))) = true := (by rw [fx_from hk_]; simp)
            refine gy rfl rfl s21 tr3 ?_
            have cc12 := origin_Whole (fi := (fxI h)) (fo := fr) (a_fv := a0) (n_fv := (fxV h).length) (c_fv := c0) (w := w36) H36.mb (H36.rv 11 rfl) (H36.rv 13 rfl) (by first | omega | (rw [fromR_len]; omega))
            refine ca go25 rfl (ec s22 e0) cc12 ?_
            rintro _ w37 ⟨rfl, xt34⟩
            have H37 := H36.ext xt34
            exact ⟨_, rfl, xt34, rfl⟩
          refine ⟨fun _ => ⟨fun f18 w38 hf16 xt35 hp16 => ?_, fun _ _ _ _ h => h⟩, ?_⟩
          ·
            have H38 := H19.ext xt35
            have s23 : f18 38 = .bool (decide ((fxV h) = (fxV h)) && decide ((fxI h) = (fxI h)) && decide ((fromM (fxI h)) = (fromR (fxI h)))) := hp16 6 rfl rfl
            have tr4 : ((decide ((fxV h) = (fxV h)) && decide ((fxI h) = (fxI h)) && decide ((fromM (fxI h)) = (fromR (fxI h))))) = true := (by rw [fx_from hk_]; simp)
            refine gy rfl rfl s23 tr4 (ldX H38 0 rfl ty30 rfl (hf16 11 rfl) (by decide) rfl ?_)
            exact ⟨_, rfl, Ext.refl _, rfl⟩
          refine ⟨fun _ => ⟨fun f19 w39 hf17 xt36 hp17 => ?_, fun _ _ _ _ h => h⟩, ?_⟩
          ·
            have H39 := H19.ext xt36
            have s24 : f19 38 = .bool (decide ((fxV h) = (fxV h)) && decide ((fxI h) = (fxI h)) && decide ((fromM (fxI h)) = (fromR (fxI h)))) := hp17 6 rfl rfl
            have s25 : f19 41 = .agg #[.slice a0 (fxV h).length c0, .slice a1 (fxI h).length c1, .slice a_fr fr.length c_fr] := hp17 9 rfl rfl
            have tr5 : ((decide ((fxV h) = (fxV h)) && decide ((fxI h) = (fxI h)) && decide ((fromM (fxI h)) = (fromR (fxI h))))) = true := (by rw [fx_from hk_]; simp)
            refine gy rfl rfl s24 tr5 ?_
            have cc13 := ref11_Whole (fi := (fxI h)) (fo := fr) (a_fv := a0) (n_fv := (fxV h).length) (c_fv := c0) (w := w39) H39.mb (H39.rv 11 rfl) (H39.rv 13 rfl) (by first | omega | (rw [fromR_len]; omega))
            refine ca go26 rfl (ec s25 e0) cc13 ?_
            rintro _ w40 ⟨rfl, xt37⟩
            have H40 := H39.ext xt37
            exact ⟨_, rfl, xt37, rfl⟩
          refine ⟨fun _ => ⟨fun f20 w41 hf18 xt38 hp18 => ?_, fun _ _ _ _ h => h⟩, ?_⟩
          ·
            have H41 := H19.ext xt38
            have s26 : f20 38 = .bool (decide ((fxV h) = (fxV h)) && decide ((fxI h) = (fxI h)) && decide ((fromM (fxI h)) = (fromR (fxI h)))) := hp18 6 rfl rfl
            have s27 : f20 40 = .bool (decide (fr = fromM (fxI h))) := hp18 8 rfl rfl
            have s28 : f20 42 = .bool (decide (fr = fromR (fxI h))) := hp18 10 rfl rfl
            have tr6 : ((decide ((fxV h) = (fxV h)) && decide ((fxI h) = (fxI h)) && decide ((fromM (fxI h)) = (fromR (fxI h))))) = true := (by rw [fx_from hk_]; simp)
            refine gy rfl rfl s26 tr6 (eqB rfl rfl s27 s28 un4 ?_)
            exact ⟨_, rfl, Ext.refl _, rfl⟩
          refine ⟨fun _ => ⟨fun f21 w42 hf19 xt39 hp19 => ?_, fun _ _ _ _ h => h⟩, ?_⟩
          ·
            have H42 := H19.ext xt39
            have s29 : f21 38 = .bool (decide ((fxV h) = (fxV h)) && decide ((fxI h) = (fxI h)) && decide ((fromM (fxI h)) = (fromR (fxI h)))) := hp19 6 rfl rfl
            have s30 : f21 43 = .bool ((decide (fr = fromM (fxI h))) == (decide (fr = fromR (fxI h)))) := hp19 11 rfl rfl
            have tr7 : ((decide ((fxV h) = (fxV h)) && decide ((fxI h) = (fxI h)) && decide ((fromM (fxI h)) = (fromR (fxI h))))) = true := (by rw [fx_from hk_]; simp)
            refine pickT rfl rfl rfl s29 tr7 s30 ?_
            exact ⟨_, rfl, Ext.refl _, rfl⟩
          refine ⟨fun _ => ⟨fun f22 w43 hf20 xt40 hp20 => ?_, fun _ _ _ _ h => h⟩, ?_⟩
          ·
            have H43 := H19.ext xt40
            have s31 : f22 44 = .bool ((decide (fr = fromM (fxI h))) == (decide (fr = fromR (fxI h)))) := hp20 12 rfl rfl
            refine mv rfl s31 ?_
            exact ⟨_, rfl, Ext.refl _, rfl⟩
          refine ⟨fun _ => ⟨fun f23 w44 hf21 xt41 hp21 => ?_, fun _ _ _ _ h => h⟩, ?_⟩
          ·
            have H44 := H19.ext xt41
            have s32 : f23 45 = .bool ((decide (fr = fromM (fxI h))) == (decide (fr = fromR (fxI h)))) := hp21 13 rfl rfl
            have tr8 : ((decide (fr = fromM (fxI h))) == (decide (fr = fromR (fxI h)))) = true := (by rw [fx_from hk_]; simp)
            refine gy rfl rfl s32 tr8 (ldX H44 8 rfl ty30 rfl ((hf21 10 rfl).trans s10) (by decide) rfl ?_)
            exact ⟨_, rfl, Ext.refl _, rfl⟩
          refine ⟨fun _ => ⟨fun f24 w45 hf22 xt42 hp22 => ?_, fun _ _ _ _ h => h⟩, ?_⟩
          ·
            have H45 := H19.ext xt42
            have s33 : f24 45 = .bool ((decide (fr = fromM (fxI h))) == (decide (fr = fromR (fxI h)))) := hp22 13 rfl rfl
            have tr9 : ((decide (fr = fromM (fxI h))) == (decide (fr = fromR (fxI h)))) = true := (by rw [fx_from hk_]; simp)
            refine gy rfl rfl s33 tr9 (mv rfl ((hf22 2 rfl).trans s5) ?_)
            exact ⟨_, rfl, Ext.refl _, rfl⟩
          refine ⟨fun _ => ⟨fun f25 w46 hf23 xt43 hp23 => ?_, by rintro _ _ _ x_ ⟨a21, c21, e_, rv28⟩; exact ⟨a21, c21, e_, rv28.lift (Up.ext x_)⟩⟩, ?_⟩
          ·
            have H46 := H19.ext xt43
            have s34 : f25 45 = .bool ((decide (fr = fromM (fxI h))) == (decide (fr = fromR (fxI h)))) := hp23 13 rfl rfl
            have s35 : f25 46 = .agg #[.slice a18 (fxV h).length c18, .slice a19 (fxI h).length c19, .slice a20 (fromR (fxI h)).length c20] := hp23 14 rfl rfl
            have s36 : f25 47 = .int .i64 tr := hp23 15 rfl rfl
            have tr10 : ((decide (fr = fromM (fxI h))) == (decide (fr = fromR (fxI h)))) = true := (by rw [fx_from hk_]; simp)
            refine gy rfl rfl s34 tr10 ?_
            have cc14 := origin_Readers (fo := (fromR (fxI h))) (tr := tr) (a_fv := a18) (n_fv := (fxV h).length) (c_fv := c18) (a_fi := a19) (n_fi := (fxI h).length) (c_fi := c19) (w := w46) H46.mb (H46.rv 1 rfl) (by unfold I64 at *; omega) (by first | omega | (rw [fromR_len]; omega))
            refine ca go28 rfl (ec s35 (ec s36 e0)) cc14 ?_
            rintro _ w47 ⟨a22, c22, rfl, xt44, rv29⟩
            have rv30 := OwnsG.rv rv29 H46.mb
            have H47 := H46.ext xt44
            have H48 := H47.put (it := imm (.slice a22 (readsO (fromR (fxI h)) tr (fromR (fxI h)).length).length c22) (readsO (fromR (fxI h)) tr (fromR (fxI h)).length)) rfl rv30
            exact ⟨_, rfl, xt44, ⟨a22, c22, rfl, rv30⟩⟩
          refine ⟨fun _ => ⟨fun f26 w48 hf24 xt45 hp24 => ?_, fun _ _ _ _ h => h⟩, ?_⟩
          ·
            have H49 := H19.ext xt45
            have s37 : f26 45 = .bool ((decide (fr = fromM (fxI h))) == (decide (fr = fromR (fxI h)))) := hp24 13 rfl rfl
            have tr11 : ((decide (fr = fromM (fxI h))) == (decide (fr = fromR (fxI h)))) = true := (by rw [fx_from hk_]; simp)
            refine gy rfl rfl s37 tr11 (ldX H49 8 rfl ty30 rfl ((hf24 10 rfl).trans s10) (by decide) rfl ?_)
            exact ⟨_, rfl, Ext.refl _, rfl⟩
          refine ⟨fun _ => ⟨fun f27 w49 hf25 xt46 hp25 => ?_, fun _ _ _ _ h => h⟩, ?_⟩
          ·
            have H50 := H19.ext xt46
            have s38 : f27 45 = .bool ((decide (fr = fromM (fxI h))) == (decide (fr = fromR (fxI h)))) := hp25 13 rfl rfl
            have tr12 : ((decide (fr = fromM (fxI h))) == (decide (fr = fromR (fxI h)))) = true := (by rw [fx_from hk_]; simp)
            refine gy rfl rfl s38 tr12 (mv rfl ((hf25 2 rfl).trans s5) ?_)
            exact ⟨_, rfl, Ext.refl _, rfl⟩
          exact DSteps.rest rfl _
        · intro f28 w50 hf26 xt47 hp26
          have H51 := H19.ext xt47
          have s39 : f28 45 = .bool ((decide (fr = fromM (fxI h))) == (decide (fr = fromR (fxI h)))) := hp26 13 rfl
          obtain ⟨a23, c23, s40, rv31⟩ : ∃ (a23 : Option Addr) (c23 : Nat), f28 48 = .slice a23 (readsO (fromR (fxI h)) tr (fromR (fxI h)).length).length c23 ∧ RV (MS M [box bb5 #[.slice a0 (fxV h).length c0, .slice a1 (fxI h).length c1, .slice a_fr fr.length c_fr] 30, imm (.slice a20 (fromR (fxI h)).length c20) (fromR (fxI h)), imm (.slice a19 (fxI h).length c19) (fxI h), imm (.slice a18 (fxV h).length c18) (fxV h), imm (.slice a17 (fromM (fxI h)).length c17) (fromM (fxI h)), imm (.slice a16 (fxI h).length c16) (fxI h), imm (.slice a15 (fxV h).length c15) (fxV h), box (I0 4).1 #[.slice a15 (fxV h).length c15, .slice a16 (fxI h).length c16, .slice a17 (fromM (fxI h)).length c17] 30, box (I0 5).1 #[.slice a18 (fxV h).length c18, .slice a19 (fxI h).length c19, .slice a20 (fromR (fxI h)).length c20] 30, box bb0 #[.slice a0 (fxV h).length c0, .slice a1 (fxI h).length c1, .slice a2 ([] : List Int).length c2] 30, imm (.slice a2 ([] : List Int).length c2) ([] : List Int), imm (.slice a1 (fxI h).length c1) (fxI h), imm (.slice a0 (fxV h).length c0) (fxV h), imm (.slice a_fr fr.length c_fr) fr, imm (.slice a_h h.length c_h) h]) w50 (.slice a23 (readsO (fromR (fxI h)) tr (fromR (fxI h)).length).length c23) (readsO (fromR (fxI h)) tr (fromR (fxI h)).length) := hp26 16 rfl
          have H52 := H51.put (it := imm (.slice a23 (readsO (fromR (fxI h)) tr (fromR (fxI h)).length).length c23) (readsO (fromR (fxI h)) tr (fromR (fxI h)).length)) rfl rv31
          have s41 : f28 49 = .agg #[.slice a18 (fxV h).length c18, .slice a19 (fxI h).length c19, .slice a20 (fromR (fxI h)).length c20] := hp26 17 rfl
          have s42 : f28 50 = .int .i64 tr := hp26 18 rfl
          have tr13 : ((decide (fr = fromM (fxI h))) == (decide (fr = fromR (fxI h)))) = true := (by rw [fx_from hk_]; simp)
          refine k (gy rfl rfl s39 tr13 ?_)
          have cc15 := ref11_Readers (fi := (fxI h)) (fo := (fromR (fxI h))) (tr := tr) (a_fv := a18) (n_fv := (fxV h).length) (c_fv := c18) (w := w50) H52.mb (H52.rv 3 rfl) (H52.rv 2 rfl) (by unfold I64 at *; omega) (by first | omega | (rw [fromR_len]; omega)) (by first | omega | (rw [fromR_len]))
          refine ca go29 rfl (ec s41 (ec s42 e0)) cc15 ?_
          rintro _ w51 ⟨a24, c24, rfl, xt48, rv32⟩
          have H53 := H52.ownsG rv32
          refine k (gy rfl rfl s39 tr13 ?_)
          have H54 := H53.freeze 0 rfl
          have cc16 := ref02_Ints (a := (readsO (fromR (fxI h)) tr (fromR (fxI h)).length)) (b := (readsO (fromR (fxI h)) tr (fromR (fxI h)).length)) (w := w51) H54.mb (H54.rv 1 rfl) (H54.rv 0 rfl)
          refine ca go27 rfl (ec s40 (ec rfl e0)) cc16 ?_
          rintro _ w52 ⟨rfl, xt49⟩
          have H55 := H53.ext xt49
          refine k (pickT rfl rfl rfl s39 tr13 rfl (k (asg (v := .bool (decide ((readsO (fromR (fxI h)) tr (fromR (fxI h)).length) = (readsO (fromR (fxI h)) tr (fromR (fxI h)).length)))) rfl rfl (z (nx (rt (r1 rfl rfl ?_)))))))
          have tr14 : (decide ((readsO (fromR (fxI h)) tr (fromR (fxI h)).length) = (readsO (fromR (fxI h)) tr (fromR (fxI h)).length))) = true := (by simp)
          have e0 : (decide ((readsO (fromR (fxI h)) tr (fromR (fxI h)).length) = (readsO (fromR (fxI h)) tr (fromR (fxI h)).length)) : Bool) = true := by exact tr14
          have ev_ := cg1 (fun (x_0 : Bool) => (.bool x_0 : Value)) e0
          exact ⟨ev_, H55.below⟩
end Go.Proofs.Ytmliihgaoaolmaa
