/- PRINTED by my own tool (wip/tool/gen.py): contracts of Go functions of this seat, each with its proof. -/
import Derived.Test.YtmliihgaoaolmaaR03Fns
import Derived.Test.YtmliihgaoaolmaaEngV
import Derived.Test.YtmliihgaoaolmaaEwSpecQ
namespace Go.Proofs.Ytmliihgaoaolmaa
open Go.Ew Go.RowKit
set_option linter.unusedVariables false
set_option linter.unusedSimpArgs false
attribute [local irreducible] WL WC SO Code.wp wpList retQ Ret
attribute [local irreducible] bitB hasW inR hasR setR countW countR subR words newR listR orR firstW tab8
theorem un92 : Try.prog.underlying 92 = some (.int .u64) := by kernel_rfl
theorem un3 : Try.prog.underlying 3 = some (.int .i64) := by kernel_rfl
theorem un79 : Try.prog.underlying 79 = some (.slice 89) := by kernel_rfl
theorem ty89 : TyF Try.prog 89 1 false 8 (.int .u64 0) := ⟨by kernel_rfl, by kernel_rfl⟩
theorem go64 : GoF Try.prog 64 := ⟨_, _, Try.func64, rfl, by kernel_rfl⟩
theorem go65 : GoF Try.prog 65 := ⟨_, _, Try.func65, rfl, by kernel_rfl⟩
theorem go66 : GoF Try.prog 66 := ⟨_, _, Try.func66, rfl, by kernel_rfl⟩
theorem go70 : GoF Try.prog 70 := ⟨_, _, Try.func70, rfl, by kernel_rfl⟩
theorem ty53 : TyF Try.prog 53 2 true 32 (.agg #[.int .i64 0, .slice none 0 0]) := ⟨by kernel_rfl, by kernel_rfl⟩
theorem ty79 : TyF Try.prog 79 1 false 24 (.slice none 0 0) := ⟨by kernel_rfl, by kernel_rfl⟩
theorem un51 : Try.prog.underlying 51 = some (.slice 79) := by kernel_rfl
theorem go63 : GoF Try.prog 63 := ⟨_, _, Try.func63, rfl, by kernel_rfl⟩
theorem go71 : GoF Try.prog 71 := ⟨_, _, Try.func71, rfl, by kernel_rfl⟩
theorem go59 : GoF Try.prog 59 := ⟨_, _, Try.func59, rfl, by kernel_rfl⟩
theorem go69 : GoF Try.prog 69 := ⟨_, _, Try.func69, rfl, by kernel_rfl⟩
theorem go60 : GoF Try.prog 60 := ⟨_, _, Try.func60, rfl, by kernel_rfl⟩
theorem fl53_0 : FldF Try.prog 53 0 0 := ⟨_, _, Try.underlying53, rfl, rfl, by kernel_rfl⟩
theorem fl53_1 : FldF Try.prog 53 1 1 := ⟨_, _, Try.underlying53, rfl, rfl, by kernel_rfl⟩
theorem ty51 : TyF Try.prog 51 1 false 24 (.slice none 0 0) := ⟨by kernel_rfl, by kernel_rfl⟩
theorem go67 : GoF Try.prog 67 := ⟨_, _, Try.func67, rfl, by kernel_rfl⟩
theorem go62 : GoF Try.prog 62 := ⟨_, _, Try.func62, rfl, by kernel_rfl⟩
theorem go68 : GoF Try.prog 68 := ⟨_, _, Try.func68, rfl, by kernel_rfl⟩
theorem go54 : GoF Try.prog 54 := ⟨_, _, Try.func54, rfl, by kernel_rfl⟩
/- eyewitness/word.Bit -/
set_option maxRecDepth 100000 in
set_option maxHeartbeats 1600000 in
theorem word_Bit {w : World} {i : Int} (h_i : I64 i) : Calls Try.prog 66 #[.int .i64 i] w (Ret fun v w' =>  v = U (bitB i) ∧ Ext w w') := by
  refine enter 9 Try.func66 rfl rfl rfl fun f0 ha => ?_
  have H := HI.start (M0 := (fun _ => False)) (w := w) (fun _ h => h.elim)
  have i0 : f0 0 = .int .i64 i := ha 0 (by simp)
  refine sq (rg (k (asg (v := U (0#64)) rfl rfl (z (nx (sq (sq (rg (k (mv rfl i0 (k (cvU rfl rfl un3 un92 (k (gtU (BitVec.ofInt 64 i) (63#64) rfl rfl rfl rfl (z (nx ?_))))))))))))))))
  refine cd (b := decide ((63#64).toNat < (BitVec.ofInt 64 i).toNat)) rfl rfl (fun b0 => ?_) (fun b0 => ?_)
  ·
    have p0 := of_decide_eq_true b0
    refine sq (rg (k (asg (v := U (0#64)) rfl rfl (z (nx (rt (then_ret (r1 rfl rfl ?_))))))))
    have e0 : (0#64 : BitVec 64) = bitB i := by exact bitB_hi h_i p0
    have ev_ := cg1 (fun (x_0 : BitVec 64) => (U x_0 : Value)) e0
    exact ⟨ev_, H.below⟩
  ·
    have p0 := of_decide_eq_false b0
    refine sk (nx (sq (rg (k (mv rfl i0 (k (cvU rfl rfl un3 un92 (k (shlU (1#64) ((BitVec.ofInt 64 i).toNat : Int) (by omega) rfl rfl rfl rfl (k (asg (v := U ((1#64) <<< ((BitVec.ofInt 64 i).toNat : Int).toNat)) rfl rfl (z (nx (rt (r1 rfl rfl ?_)))))))))))))))
    have e0 : ((1#64) <<< ((BitVec.ofInt 64 i).toNat : Int).toNat : BitVec 64) = bitB i := by exact bitB_lo h_i p0
    have ev_ := cg1 (fun (x_0 : BitVec 64) => (U x_0 : Value)) e0
    exact ⟨ev_, H.below⟩
/- eyewitness/row.in -/
set_option maxRecDepth 100000 in
set_option maxHeartbeats 1600000 in
theorem row_in {M : Nat → Prop} {w : World} {a_r : Option Addr} {c_r : Nat} {r : List (BitVec 64)} {i : Int} (hM : ∀ b, M b → b < w.heap.size) (h_r : RV M w (.slice a_r r.length c_r) r) (h_i : I64 i) : Calls Try.prog 65 #[.slice a_r r.length c_r, .int .i64 i] w (Ret fun v w' =>  v = .bool (inR r i) ∧ Ext w w') := by
  refine enter 14 Try.func65 rfl rfl rfl fun f0 ha => ?_
  have H := HI.start (M0 := M) (w := w) hM
  have H0 := H.put (it := imm (.slice a_r r.length c_r) r) rfl (by rw [MS_nil]; exact h_r)
  have ln_r := rv_len h_r
  have i0 : f0 0 = .slice a_r r.length c_r := ha 0 (by simp)
  have i1 : f0 1 = .int .i64 i := ha 1 (by simp)
  refine sq (rg (k (asg (v := .bool false) rfl rfl (z (nx (sq (rg (k (mv rfl i1 (k (geq rfl rfl rfl rfl (k (mv (v := .bool (decide (0 ≤ i))) rfl rfl ?_)))))))))))))
  rcases Bool.eq_false_or_eq_true (decide (0 ≤ i)) with b0 | b0
  · -- decide (0 ≤ i) is True
    have p0 := of_decide_eq_true b0
    refine k (gy rfl rfl rfl b0 (mv rfl i1 (k (gy rfl rfl rfl b0 (shrI rfl rfl rfl rfl (k (gy rfl rfl rfl b0 (mv rfl i0 (k (gy rfl rfl rfl b0 (lnS rfl rfl un79 (k (gy rfl rfl rfl b0 (lss rfl rfl rfl rfl (k (pickT rfl rfl rfl rfl b0 rfl (k (asg (v := .bool (decide ((i / 64) < (r.length : Int)))) rfl rfl (z (nx (rt (r1 rfl rfl ?_))))))))))))))))))))))
    have e0 : (decide ((i / 64) < (r.length : Int)) : Bool) = inR r i := by exact inR_yes p0
    have ev_ := cg1 (fun (x_0 : Bool) => (.bool x_0 : Value)) e0
    exact ⟨ev_, H0.below⟩
  · -- decide (0 ≤ i) is False
    have p0 := of_decide_eq_false b0
    refine k (gn rfl rfl rfl b0 (k (gn rfl rfl rfl b0 (k (gn rfl rfl rfl b0 (k (gn rfl rfl rfl b0 (k (gn rfl rfl rfl b0 (k (pickF rfl rfl rfl rfl b0 rfl (k (asg (v := .bool false) rfl rfl (z (nx (rt (r1 rfl rfl ?_)))))))))))))))))
    have e0 : (false : Bool) = inR r i := by exact inR_no (by omega)
    have ev_ := cg1 (fun (x_0 : Bool) => (.bool x_0 : Value)) e0
    exact ⟨ev_, H0.below⟩
/- slices.Clone[[]uint64,uint64] -/
set_option maxRecDepth 100000 in
set_option maxHeartbeats 1600000 in
theorem clone_u64 {M : Nat → Prop} {w : World} {a_r : Option Addr} {c_r : Nat} {r : List (BitVec 64)} (hM : ∀ b, M b → b < w.heap.size) (h_r : RV M w (.slice a_r r.length c_r) r) (hl_r : r.length ≤ 1000000000) : Calls Try.prog 64 #[.slice a_r r.length c_r] w (Ret fun v w' => ∃ (a0 : Option Addr) (c0 : Nat), v = .slice a0 r.length c0 ∧ Ext w w' ∧ OwnsG M 89 w r (.slice a0 r.length c0) w') := by
  refine enter 8 Try.func64 rfl rfl rfl fun f0 ha => ?_
  have H := HI.start (M0 := M) (w := w) hM
  have H0 := H.put (it := imm (.slice a_r r.length c_r) r) rfl (by rw [MS_nil]; exact h_r)
  have ln_r := rv_len h_r
  have i0 : f0 0 = .slice a_r r.length c_r := ha 0 (by simp)
  refine sq (rg (k (asg (v := .slice none 0 0) rfl rfl (z (nx (sq (sq (rg (k (mv rfl i0 (k (eqN rfl rfl rfl rfl un79 (z (nx ?_))))))))))))))
  refine cd (b := a_r.isNone) rfl rfl (fun b0 => ?_) (fun b0 => ?_)
  ·
    refine sq (rg (k (asg (v := .slice none 0 0) rfl rfl (z (nx (rt (then_ret (r1 rfl rfl ?_))))))))
    have e0 : ([] : List (BitVec 64)) = r := by exact (rv_none h_r b0).symm
    have ev_ := cg1 (fun (x_0 : List (BitVec 64)) => (.slice none x_0.length 0 : Value)) e0
    exact ⟨none, 0, ev_, H0.below, (congrArg (fun (x_ : List (BitVec 64)) => OwnsG _ _ _ x_ (.slice none x_.length 0) _) e0).mp (ownsG_nil H0.below)⟩
  ·
    refine sk (nx (sq (rg (k (bs (xs := ([] : List (BitVec 64))) (cells := #[]) (e := 89) H0 rfl pb0 (fun _ => by kernel_rfl) rfl rfl (by unfold maxLen; omega) ?_)))))
    intro g0 w0 xt0 (H1 : HI M w w0 [own w.heap.size 89 (.slice (some ⟨g0, 0, none⟩) 0 0) ([] : List (BitVec 64)), imm (.slice a_r r.length c_r) r])
    refine k (mv rfl i0 (k (ap H1 0 rfl rfl rfl rfl rfl rfl (H1.rv 1 rfl).src un79 ty89 rfl (by first | omega | (simp; omega)) (by first | omega | (simp; omega)) ?_)))
    intro a0 c0 w1 (H2 : HI M w w1 [own w.heap.size 89 (.slice a0 r.length c0) r, imm (.slice a_r r.length c_r) r])
    refine k (asg (v := .slice a0 r.length c0) rfl rfl (z (nx (rt (r1 rfl rfl ?_)))))
    exact ⟨a0, c0, rfl, H2.below, (H2.ownsG_out 0 rfl)⟩
/- eyewitness/row.Set -/
set_option maxRecDepth 100000 in
set_option maxHeartbeats 1600000 in
theorem row_Set {M : Nat → Prop} {w : World} {a_r : Option Addr} {c_r : Nat} {r : List (BitVec 64)} {i : Int} (hM : ∀ b, M b → b < w.heap.size) (h_r : RV M w (.slice a_r r.length c_r) r) (h_i : I64 i) (hl_r : r.length ≤ 1000000000) : Calls Try.prog 56 #[.slice a_r r.length c_r, .int .i64 i] w (Ret fun v w' => ∃ (a0 : Option Addr) (c0 : Nat), v = .slice a0 (setR r i).length c0 ∧ Ext w w' ∧ OwnsG M 89 w (setR r i) (.slice a0 (setR r i).length c0) w') := by
  refine enter 22 Try.func56 rfl rfl rfl fun f0 ha => ?_
  have H := HI.start (M0 := M) (w := w) hM
  have H0 := H.put (it := imm (.slice a_r r.length c_r) r) rfl (by rw [MS_nil]; exact h_r)
  have ln_r := rv_len h_r
  have i0 : f0 0 = .slice a_r r.length c_r := ha 0 (by simp)
  have i1 : f0 1 = .int .i64 i := ha 1 (by simp)
  refine sq (rg (k (asg (v := .slice none 0 0) rfl rfl (z (nx (sq (rg (k (mv rfl i0 (k ?_))))))))))
  have cc0 := clone_u64 (r := r) (w := w) H0.mb (H0.rv 0 rfl) (by first | omega | (simp; omega))
  refine ca go64 rfl (ec rfl e0) cc0 ?_
  rintro _ w0 ⟨a0, c0, rfl, xt0, rv0⟩
  have H1 := H0.ownsG rv0
  refine k (asg (v := .slice a0 r.length c0) rfl rfl (z (nx (sq (sq (rg (k (mv rfl i0 (k (mv rfl i1 (k ?_)))))))))))
  have cc1 := row_in (r := r) (i := i) (w := w0) H1.mb (H1.rv 1 rfl) (by unfold I64 at *; omega)
  refine ca go65 rfl (ec rfl (ec rfl e0)) cc1 ?_
  rintro _ w1 ⟨rfl, xt1⟩
  have H2 := H1.ext xt1
  refine z (nx ?_)
  refine cd (b := inR r i) rfl rfl (fun b0 => ?_) (fun b0 => ?_)
  ·
    obtain ⟨x0, hx0⟩ : ∃ x, r[(i / 64).toNat]? = some x := ⟨_, List.getElem?_eq_getElem (by have hb := b0; unfold inR at hb; simp only [decide_eq_true_eq] at hb; omega)⟩
    refine dr 8 [fun (v : Value) (w' : World) => v = .slice a0 r.length c0, fun (v : Value) (w' : World) => v = .int .i64 i, fun (v : Value) (w' : World) => v = .int .i64 (i / 64), fun (v : Value) (w' : World) => ∃ (g0 : Nat), v = .pointer (some ⟨g0, (i / 64).toNat * 1, none⟩) ∧ (.slice a0 r.length c0 : Value).ownBlock = some g0 ∧ AtW (MS M [own w.heap.size 89 (.slice a0 r.length c0) r, imm (.slice a_r r.length c_r) r]) w' ⟨g0, (i / 64).toNat * 1, none⟩ x0, fun (v : Value) (w' : World) => v = U x0, fun (v : Value) (w' : World) => v = .int .i64 i, fun (v : Value) (w' : World) => v = .int .i64 (i % 64), fun (v : Value) (w' : World) => v = U (bitB (i % 64))] rfl (by kernel_rfl) ?_ ?_
    ·
      refine ⟨fun _ => ⟨fun f0 w3 hf0 xt3 hp0 => ?_, fun _ _ _ _ h => h⟩, ?_⟩
      ·
        have H4 := H2.ext xt3
        refine mv rfl (hf0 5 rfl) ?_
        exact ⟨_, rfl, Ext.refl _, rfl⟩
      refine ⟨fun _ => ⟨fun f1 w4 hf1 xt4 hp1 => ?_, fun _ _ _ _ h => h⟩, ?_⟩
      ·
        have H5 := H2.ext xt4
        refine mv rfl ((hf1 1 rfl).trans i1) ?_
        exact ⟨_, rfl, Ext.refl _, rfl⟩
      refine ⟨fun _ => ⟨fun f2 w5 hf2 xt5 hp2 => ?_, fun _ _ _ _ h => h⟩, ?_⟩
      ·
        have H6 := H2.ext xt5
        have s0 : f2 12 = .int .i64 i := hp2 1 rfl rfl
        refine shrI rfl rfl s0 rfl ?_
        exact ⟨_, rfl, Ext.refl _, rfl⟩
      refine ⟨fun _ => ⟨fun f3 w6 hf3 xt6 hp3 => ?_, by rintro _ _ _ x_ ⟨g0, e_, hv0, hA0⟩; exact ⟨g0, e_, hv0, hA0.ext x_⟩⟩, ?_⟩
      ·
        have H7 := H2.ext xt6
        have s1 : f3 11 = .slice a0 r.length c0 := hp3 0 rfl rfl
        have s2 : f3 13 = .int .i64 (i / 64) := hp3 2 rfl rfl
        refine iaO (H7.at_ 0 rfl) rfl rfl s1 s2 (by have hb := b0; unfold inR at hb; simp only [decide_eq_true_eq] at hb; omega) un79 ty89 ?_
        intro g1 x1 hv1 hx1 hA1
        obtain rfl : x0 = x1 := Option.some.inj (hx0.symm.trans hx1)
        exact ⟨_, rfl, Ext.refl _, ⟨g1, rfl, hv1, hA1⟩⟩
      refine ⟨fun _ => ⟨fun f4 w7 hf4 xt7 hp4 => ?_, fun _ _ _ _ h => h⟩, ?_⟩
      ·
        have H8 := H2.ext xt7
        obtain ⟨g2, s3, hv2, hA2⟩ : ∃ (g2 : Nat), f4 14 = .pointer (some ⟨g2, (i / 64).toNat * 1, none⟩) ∧ (.slice a0 r.length c0 : Value).ownBlock = some g2 ∧ AtW (MS M [own w.heap.size 89 (.slice a0 r.length c0) r, imm (.slice a_r r.length c_r) r]) w7 ⟨g2, (i / 64).toNat * 1, none⟩ x0 := hp4 3 rfl rfl
        refine ldU hA2 ty89 rfl s3 ?_
        exact ⟨_, rfl, Ext.refl _, rfl⟩
      refine ⟨fun _ => ⟨fun f5 w8 hf5 xt8 hp5 => ?_, fun _ _ _ _ h => h⟩, ?_⟩
      ·
        have H9 := H2.ext xt8
        refine mv rfl ((hf5 1 rfl).trans i1) ?_
        exact ⟨_, rfl, Ext.refl _, rfl⟩
      refine ⟨fun _ => ⟨fun f6 w9 hf6 xt9 hp6 => ?_, fun _ _ _ _ h => h⟩, ?_⟩
      ·
        have H10 := H2.ext xt9
        have s4 : f6 16 = .int .i64 i := hp6 5 rfl rfl
        refine and63 rfl rfl s4 rfl ?_
        exact ⟨_, rfl, Ext.refl _, rfl⟩
      refine ⟨fun _ => ⟨fun f7 w10 hf7 xt10 hp7 => ?_, fun _ _ _ _ h => h⟩, ?_⟩
      ·
        have H11 := H2.ext xt10
        have s5 : f7 17 = .int .i64 (i % 64) := hp7 6 rfl rfl
        have cc3 := word_Bit (i := (i % 64)) (w := w10) (by unfold I64 at *; omega)
        refine ca go66 rfl (ec s5 e0) cc3 ?_
        rintro _ w11 ⟨rfl, xt11⟩
        have H12 := H11.ext xt11
        exact ⟨_, rfl, xt11, rfl⟩
      exact DSteps.rest rfl _
    · intro f8 w12 hf8 xt12 hp8
      have H13 := H2.ext xt12
      have s6 : f8 5 = .slice a0 r.length c0 := hf8 5 rfl
      have s7 : f8 11 = .slice a0 r.length c0 := hp8 0 rfl
      have s8 : f8 13 = .int .i64 (i / 64) := hp8 2 rfl
      have s9 : f8 15 = U x0 := hp8 4 rfl
      have s10 : f8 18 = U (bitB (i % 64)) := hp8 7 rfl
      refine k (orU x0 (bitB (i % 64)) rfl rfl s9 s10 (k (iaO (H13.at_ 0 rfl) rfl rfl s7 s8 (by have hb := b0; unfold inR at hb; simp only [decide_eq_true_eq] at hb; omega) un79 ty89 ?_)))
      intro g3 x2 hv3 hx2 hA3
      refine k (stO H13 0 rfl hv3 rfl (by have hb := b0; unfold inR at hb; simp only [decide_eq_true_eq] at hb; omega) ty89 rfl rfl rfl rfl (RV.bv.2 rfl) ?_)
      intro w13 (H14 : HI M w w13 [own w.heap.size 89 (.slice a0 r.length c0) (r.set ((i / 64).toNat) (x0 ||| (bitB (i % 64)))), imm (.slice a_r r.length c_r) r])
      refine z (nx (sq (rg (k (mv rfl s6 (k (asg (v := .slice a0 r.length c0) rfl rfl (z (nx (rt (r1 rfl rfl ?_)))))))))))
      have e0 : (r.set ((i / 64).toNat) (x0 ||| (bitB (i % 64))) : List (BitVec 64)) = setR r i := by exact setR_in b0 hx0
      have l0 : r.length = (setR r i).length := by first | rfl | (rw [← e0]; simp) | simp
      have ev_ := cg1 (fun (n_0 : Nat) => (.slice a0 n_0 c0 : Value)) l0
      exact ⟨a0, c0, ev_, H14.below, (congrArg (fun (n_ : Nat) => OwnsG _ _ _ (setR r i) (.slice a0 n_ c0) _) l0).mp ((congrArg (fun (x_ : List (BitVec 64)) => OwnsG _ _ _ x_ (.slice a0 r.length c0) _) e0).mp (H14.ownsG_out 0 rfl))⟩
  ·
    refine sk (nx (sq (rg (k (mv (v := .slice a0 r.length c0) rfl rfl (k (asg (v := .slice a0 r.length c0) rfl rfl (z (nx (rt (r1 rfl rfl ?_)))))))))))
    have e0 : (r : List (BitVec 64)) = setR r i := by exact setR_out b0
    have ev_ := cg1 (fun (x_0 : List (BitVec 64)) => (.slice a0 x_0.length c0 : Value)) e0
    exact ⟨a0, c0, ev_, H2.below, (congrArg (fun (x_ : List (BitVec 64)) => OwnsG _ _ _ x_ (.slice a0 x_.length c0) _) e0).mp (H2.ownsG_out 0 rfl)⟩
/- eyewitness/row.Words -/
set_option maxRecDepth 100000 in
set_option maxHeartbeats 1600000 in
theorem row_Words {w : World} {n : Int} (h_n : I64 n) (hn : n ≤ 1000000000000000000) : Calls Try.prog 70 #[.int .i64 n] w (Ret fun v w' =>  v = .int .i64 ((words n : Nat) : Int) ∧ Ext w w') := by
  refine enter 8 Try.func70 rfl rfl rfl fun f0 ha => ?_
  have H := HI.start (M0 := (fun _ => False)) (w := w) (fun _ h => h.elim)
  have i0 : f0 0 = .int .i64 n := ha 0 (by simp)
  refine sq (rg (k (asg (v := .int .i64 0) rfl rfl (z (nx (sq (rg (k (mv rfl i0 (k (max2 rfl rfl rfl rfl (k (add rfl rfl rfl rfl (by unfold I64 at *; omega) (k (sub rfl rfl rfl rfl (by unfold I64 at *; omega) (k (quo rfl rfl rfl rfl (by first | omega | (simp; omega)) (k (asg (v := .int .i64 ((((max n 0) + 64) - 1) / 64)) rfl rfl (z (nx (rt (r1 rfl rfl ?_)))))))))))))))))))))))
  have e0 : ((((max n 0) + 64) - 1) / 64 : Int) = ((words n : Nat) : Int) := by unfold words; omega
  have ev_ := cg1 (fun (x_0 : Int) => (.int .i64 x_0 : Value)) e0
  exact ⟨ev_, H.below⟩
/- eyewitness/row.New -/
set_option maxRecDepth 100000 in
set_option maxHeartbeats 1600000 in
theorem row_New {M : Nat → Prop} {w : World} {n : Int} (hM : ∀ b, M b → b < w.heap.size) (h_n : I64 n) (hn : n ≤ 1000000) : Calls Try.prog 63 #[.int .i64 n] w (Ret fun v w' => ∃ (a0 : Option Addr) (c0 : Nat), v = .slice a0 (newR n).length c0 ∧ Ext w w' ∧ OwnsG M 89 w (newR n) (.slice a0 (newR n).length c0) w') := by
  refine enter 6 Try.func63 rfl rfl rfl fun f0 ha => ?_
  have H := HI.start (M0 := M) (w := w) hM
  have i0 : f0 0 = .int .i64 n := ha 0 (by simp)
  refine sq (rg (k (asg (v := .slice none 0 0) rfl rfl (z (nx (sq (rg (k (mv rfl i0 (k ?_))))))))))
  have cc0 := row_Words (n := n) (w := w) (by unfold I64 at *; omega) (by first | omega | (simp; omega))
  refine ca go70 rfl (ec rfl e0) cc0 ?_
  rintro _ w0 ⟨rfl, xt0⟩
  have H0 := H.ext xt0
  refine k (mk (m := (words n : Nat)) (zx := (0#64 : (BitVec 64))) H0 rfl rfl rfl rfl un79 ty89 (fun _ _ => rfl) (by unfold words; omega) (by unfold words; omega) ?_)
  intro g0 w1 xt1 (H1 : HI M w w1 [own w.heap.size 89 (.slice (some ⟨g0, 0, none⟩) (words n : Nat) (words n : Nat)) (List.replicate (words n : Nat) (0#64 : (BitVec 64)))])
  refine k (asg (v := .slice (some ⟨g0, 0, none⟩) (words n : Nat) (words n : Nat)) rfl rfl (z (nx (rt (r1 rfl rfl ?_)))))
  have e0 : ((List.replicate (words n : Nat) (0#64 : (BitVec 64))) : List (BitVec 64)) = newR n := by unfold newR; rfl
  have l0 : (words n : Nat) = (newR n).length := by first | rfl | (rw [← e0]; simp) | simp
  have ev_ := cg1 (fun (n_0 : Nat) => (.slice (some ⟨g0, 0, none⟩) n_0 (words n : Nat) : Value)) l0
  exact ⟨(some ⟨g0, 0, none⟩), (words n : Nat), ev_, H1.below, (congrArg (fun (n_ : Nat) => OwnsG _ _ _ (newR n) (.slice (some ⟨g0, 0, none⟩) n_ (words n : Nat)) _) l0).mp ((congrArg (fun (x_ : List (BitVec 64)) => OwnsG _ _ _ x_ (.slice (some ⟨g0, 0, none⟩) (words n : Nat) (words n : Nat)) _) e0).mp (H1.ownsG_out 0 rfl))⟩
/- eyewitness/mat.New -/
set_option maxRecDepth 100000 in
set_option maxHeartbeats 1600000 in
theorem mat_New {M : Nat → Prop} {w : World} {n : Int} (hM : ∀ b, M b → b < w.heap.size) (h_n : I64 n) : Calls Try.prog 55 #[.int .i64 n] w (Ret fun v w' => ∃ (a0 : Option Addr) (c0 : Nat), v = .tuple #[.agg #[.int .i64 (newMN n), .slice a0 (newMR n).length c0], .int .i64 (newME n)] ∧ Ext w w' ∧ OwnsG M 79 w (newMR n) (.slice a0 (newMR n).length c0) w') := by
  refine enter 29 Try.func55 rfl rfl rfl fun f0 ha => ?_
  have H := HI.start (M0 := M) (w := w) hM
  have i0 : f0 0 = .int .i64 n := ha 0 (by simp)
  refine sq (rg (k (al H ty53 ?_)))
  intro bb0 w0 xt0 (H0 : HI M w w0 [box bb0 #[.int .i64 0, .slice none 0 0] 53])
  refine k (asg (v := .int .i64 0) rfl rfl (z (nx (sq (sq (rg (k (mv rfl i0 (k (lss rfl rfl rfl rfl (k (mv (v := .bool (decide (n < 0))) rfl rfl ?_))))))))))))
  rcases Bool.eq_false_or_eq_true (decide (n < 0)) with b0 | b0
  · -- decide (n < 0) is True
    have p0 := of_decide_eq_true b0
    refine k (gn rfl rfl rfl b0 (k (gn rfl rfl rfl b0 (k (pickT rfl rfl rfl rfl b0 rfl (z (nx (cdT rfl rfl rfl (sq (rg (k (bd (v := .agg #[.int .i64 0, .slice none 0 0]) rfl pb0 (fun _ => by kernel_rfl) (k (stX H0 0 rfl ty53 rfl rfl rfl rfl rfl rfl rfl ?_))))))))))))))
    intro w1 (H1 : HI M w w1 [box bb0 #[.int .i64 0, .slice none 0 0] 53])
    refine k (asg (v := .int .i64 1) rfl rfl (z (nx (rt (then_ret (rc2 H1 0 rfl ty53 rfl rfl rfl rfl rfl (by decide) ?_))))))
    have e0 : (0 : Int) = newMN n := by first | exact (newM_no (okN_no.2 (by omega))).1.symm | exact (newM_yes (okN_iff.2 (by omega))).1.symm
    have e1 : ([] : List (List (BitVec 64))) = newMR n := by first | exact (newM_no (okN_no.2 (by omega))).2.1.symm | (rw [(newM_yes (okN_iff.2 (by omega))).2.1, hs]; exact fillTo_end (by omega))
    have e2 : (1 : Int) = newME n := by first | exact (newM_no (okN_no.2 (by omega))).2.2.symm | exact (newM_yes (okN_iff.2 (by omega))).2.2.symm
    have ev_ := cg3 (fun (x_0 : Int) (x_1 : List (List (BitVec 64))) (x_2 : Int) => (.tuple #[.agg #[.int .i64 x_0, .slice none x_1.length 0], .int .i64 x_2] : Value)) e0 e1 e2
    exact ⟨none, 0, ev_, H1.below, (congrArg (fun (x_ : List (List (BitVec 64))) => OwnsG _ _ _ x_ (.slice none x_.length 0) _) e1).mp (ownsG_nil H1.below)⟩
  · -- decide (n < 0) is False
    have p0 := of_decide_eq_false b0
    refine k (gy rfl rfl rfl b0 (mv rfl i0 (k (gy rfl rfl rfl b0 (gtr rfl rfl rfl rfl (k (pickF rfl rfl rfl rfl b0 rfl (z (nx ?_)))))))))
    refine cd (b := decide (4096 < n)) rfl rfl (fun b1 => ?_) (fun b1 => ?_)
    ·
      have p1 := of_decide_eq_true b1
      refine sq (rg (k (bd (v := .agg #[.int .i64 0, .slice none 0 0]) rfl pb0 (fun _ => by kernel_rfl) (k (stX H0 0 rfl ty53 rfl rfl rfl rfl rfl rfl rfl ?_)))))
      intro w1 (H1 : HI M w w1 [box bb0 #[.int .i64 0, .slice none 0 0] 53])
      refine k (asg (v := .int .i64 1) rfl rfl (z (nx (rt (then_ret (rc2 H1 0 rfl ty53 rfl rfl rfl rfl rfl (by decide) ?_))))))
      have e0 : (0 : Int) = newMN n := by first | exact (newM_no (okN_no.2 (by omega))).1.symm | exact (newM_yes (okN_iff.2 (by omega))).1.symm
      have e1 : ([] : List (List (BitVec 64))) = newMR n := by first | exact (newM_no (okN_no.2 (by omega))).2.1.symm | (rw [(newM_yes (okN_iff.2 (by omega))).2.1, hs]; exact fillTo_end (by omega))
      have e2 : (1 : Int) = newME n := by first | exact (newM_no (okN_no.2 (by omega))).2.2.symm | exact (newM_yes (okN_iff.2 (by omega))).2.2.symm
      have ev_ := cg3 (fun (x_0 : Int) (x_1 : List (List (BitVec 64))) (x_2 : Int) => (.tuple #[.agg #[.int .i64 x_0, .slice none x_1.length 0], .int .i64 x_2] : Value)) e0 e1 e2
      exact ⟨none, 0, ev_, H1.below, (congrArg (fun (x_ : List (List (BitVec 64))) => OwnsG _ _ _ x_ (.slice none x_.length 0) _) e1).mp (ownsG_nil H1.below)⟩
    ·
      have p1 := of_decide_eq_false b1
      refine sk (nx (sq (rg (k (mv rfl i0 (k ?_))))))
      have n0 : ((n.toNat : Nat) : Int) = n := Int.toNat_of_nonneg (by omega)
      refine mk (m := n.toNat) (zx := ([] : (List (BitVec 64)))) H0 rfl rfl (by rw [n0]; exact rfl) (by rw [n0]; exact rfl) un51 ty79 (fun _ _ => ⟨_, rfl, rs_nil _ _⟩) (by first | omega | (simp; omega)) (by first | omega | (simp; omega)) ?_
      intro g0 w1 xt1 (H1 : HI M w w1 [own w.heap.size 79 (.slice (some ⟨g0, 0, none⟩) n.toNat n.toNat) (List.replicate n.toNat ([] : (List (BitVec 64)))), box bb0 #[.int .i64 0, .slice none 0 0] 53])
      refine k (asg (v := .slice (some ⟨g0, 0, none⟩) n.toNat n.toNat) rfl rfl (z (nx (sq (sq (rg (k (mv (v := .slice (some ⟨g0, 0, none⟩) n.toNat n.toNat) rfl rfl (k (lnS rfl rfl un51 (k (mv (v := .int .i64 0) rfl rfl (z (nx (bk ?_)))))))))))))))
      refine lp (fun m f w' => ∃ (j : Nat) (xs : List (List (BitVec 64))), m = n.toNat - j ∧ f 0 = .int .i64 n ∧ f 2 = .pointer (some ⟨bb0, 0, none⟩) ∧ f 4 = .slice (some ⟨g0, 0, none⟩) n.toNat n.toNat ∧ f 16 = .int .i64 (n.toNat : Int) ∧ f 17 = .int .i64 (j : Int) ∧  HI M w w' [own w.heap.size 79 (.slice (some ⟨g0, 0, none⟩) n.toNat n.toNat) xs, box bb0 #[.int .i64 0, .slice none 0 0] 53] ∧ (j ≤ n.toNat) ∧ (xs.length = n.toNat) ∧ (xs = fillTo n.toNat j (newR n) [])) _ ⟨0, (List.replicate n.toNat ([] : (List (BitVec 64)))), rfl, i0, rfl, rfl, rfl, (ieq rfl (by first | rfl | omega | simp)), H1, (by first | assumption | omega | simp | (simp; omega)), (by simp), (by exact fillTo_zero _ _ _)⟩ ?_
      rintro _ f0 w2 ⟨j, xs, rfl, s0, s1, s2, s3, s4, H2, hk, hl, hs⟩
      refine sq (rg (k (lss rfl rfl s4 s3 (z (nx (sq ?_))))))
      refine cd (b := decide ((j : Int) < (n.toNat : Int))) rfl rfl (fun b2 => ?_) (fun b2 => ?_)
      ·
        have p2 := of_decide_eq_true b2
        refine sk (nx (sq (bk (sq (rg (k (mv rfl s4 (k (asg (v := .int .i64 (j : Int)) rfl rfl (z (nx (rg (k (mv rfl s2 (k (mv (v := .int .i64 (j : Int)) rfl rfl (k (mv rfl s0 (k ?_)))))))))))))))))))
        have cc0 := row_New (n := n) (w := w2) H2.mb (by unfold I64 at *; omega) (by first | omega | (simp; omega))
        refine ca go63 rfl (ec rfl e0) cc0 ?_
        rintro _ w3 ⟨a0, c0, rfl, xt2, rv0⟩
        have H3 := H2.ownsG rv0
        refine k (iaO (H3.at_ 1 rfl) rfl rfl rfl rfl (by first | omega | (simp; omega)) un51 ty79 ?_)
        intro g1 x0 hv0 hx0 hA0
        refine k ?_
        have H4 := H3.freeze 0 rfl
        refine stO H4 1 rfl hv0 rfl (by first | omega | (simp; omega)) ty79 rfl rfl rfl rfl (H4.rv 0 rfl) ?_
        intro w4 (H5 : HI M w w4 [imm (.slice a0 (newR n).length c0) (newR n), own w.heap.size 79 (.slice (some ⟨g0, 0, none⟩) n.toNat n.toNat) (xs.set ((j : Int).toNat) (newR n)), box bb0 #[.int .i64 0, .slice none 0 0] 53])
        refine z (inb_normal (nx (rg (k (add rfl rfl s4 rfl (by unfold I64 at *; omega) (k (mv (v := .int .i64 ((j : Int) + 1)) rfl rfl (z ?_))))))))
        have H6 : HI M w w4 [own w.heap.size 79 (.slice (some ⟨g0, 0, none⟩) n.toNat n.toNat) (xs.set ((j : Int).toNat) (newR n)), box bb0 #[.int .i64 0, .slice none 0 0] 53] := H5.pickN [1, 2] (by decide) rfl
        refine loopN _ ?_ ⟨(j + 1), (xs.set ((j : Int).toNat) (newR n)), rfl, s0, s1, s2, s3, (ieq rfl (by first | rfl | omega | (push_cast; omega))), H6, (by first | assumption | omega | simp | (simp; omega)), (by simpa using hl), (by rw [hs]; exact fillTo_set (by omega))⟩
        omega
      ·
        have p2 := of_decide_eq_false b2
        refine ex (then_exit (loop_exit (inb_here (nx (sq (rg (k (mv rfl s0 (k (mv rfl s2 (k (bd (v := .agg #[.int .i64 n, .slice (some ⟨g0, 0, none⟩) n.toNat n.toNat]) rfl (pbc rfl (pbc rfl pb0)) (fun _ => by kernel_rfl) (k (stX H2 1 rfl ty53 rfl rfl s1 rfl rfl rfl rfl ?_))))))))))))))
        intro w3 (H3 : HI M w w3 [own w.heap.size 79 (.slice (some ⟨g0, 0, none⟩) n.toNat n.toNat) xs, box bb0 #[.int .i64 n, .slice (some ⟨g0, 0, none⟩) n.toNat n.toNat] 53])
        refine k (asg (v := .int .i64 0) rfl rfl (z (nx (rt (rc2 H3 1 rfl ty53 rfl rfl rfl s1 rfl (by decide) ?_)))))
        have e0 : (n : Int) = newMN n := by first | exact (newM_no (okN_no.2 (by omega))).1.symm | exact (newM_yes (okN_iff.2 (by omega))).1.symm
        have e1 : (xs : List (List (BitVec 64))) = newMR n := by first | exact (newM_no (okN_no.2 (by omega))).2.1.symm | (rw [(newM_yes (okN_iff.2 (by omega))).2.1, hs]; exact fillTo_end (by omega))
        have l1 : n.toNat = (newMR n).length := by first | rfl | (rw [← e1]; omega) | (rw [← e1]; simp) | simp
        have e2 : (0 : Int) = newME n := by first | exact (newM_no (okN_no.2 (by omega))).2.2.symm | exact (newM_yes (okN_iff.2 (by omega))).2.2.symm
        have ev_ := cg3 (fun (x_0 : Int) (n_1 : Nat) (x_2 : Int) => (.tuple #[.agg #[.int .i64 x_0, .slice (some ⟨g0, 0, none⟩) n_1 n.toNat], .int .i64 x_2] : Value)) e0 l1 e2
        exact ⟨(some ⟨g0, 0, none⟩), n.toNat, ev_, H3.below, (congrArg (fun (n_ : Nat) => OwnsG _ _ _ (newMR n) (.slice (some ⟨g0, 0, none⟩) n_ n.toNat) _) l1).mp ((congrArg (fun (x_ : List (List (BitVec 64))) => OwnsG _ _ _ x_ (.slice (some ⟨g0, 0, none⟩) n.toNat n.toNat) _) e1).mp (H3.ownsG_out 0 rfl))⟩
/- eyewitness/eyewitnessref01.Bit -/
set_option maxRecDepth 100000 in
set_option maxHeartbeats 1600000 in
theorem ref01_Bit {w : World} {i : Int} (h_i : I64 i) : Calls Try.prog 71 #[.int .i64 i] w (Ret fun v w' =>  v = U (bitB i) ∧ Ext w w') := by
  refine enter 17 Try.func71 rfl rfl rfl fun f0 ha => ?_
  have H := HI.start (M0 := (fun _ => False)) (w := w) (fun _ h => h.elim)
  have i0 : f0 0 = .int .i64 i := ha 0 (by simp)
  refine sq (rg (k (asg (v := U (0#64)) rfl rfl (z (nx (sq (sq (rg (k (mv rfl i0 (k (lss rfl rfl rfl rfl (k (mv (v := .bool (decide (i < 0))) rfl rfl ?_))))))))))))))
  rcases Bool.eq_false_or_eq_true (decide (i < 0)) with b0 | b0
  · -- decide (i < 0) is True
    have p0 := of_decide_eq_true b0
    refine k (gn rfl rfl rfl b0 (k (gn rfl rfl rfl b0 (k (pickT rfl rfl rfl rfl b0 rfl (z (nx (cdT rfl rfl rfl (sq (rg (k (asg (v := U (0#64)) rfl rfl (z (nx (rt (then_ret (r1 rfl rfl ?_)))))))))))))))))
    have e0 : (0#64 : BitVec 64) = bitB i := by first | exact (bitB_out (by omega)).symm | (rw [bitB_pow (by omega) (by omega), show i.toNat = j from by omega])
    have ev_ := cg1 (fun (x_0 : BitVec 64) => (U x_0 : Value)) e0
    exact ⟨ev_, H.below⟩
  · -- decide (i < 0) is False
    have p0 := of_decide_eq_false b0
    refine k (gy rfl rfl rfl b0 (mv rfl i0 (k (gy rfl rfl rfl b0 (gtr rfl rfl rfl rfl (k (pickF rfl rfl rfl rfl b0 rfl (z (nx ?_)))))))))
    refine cd (b := decide (63 < i)) rfl rfl (fun b1 => ?_) (fun b1 => ?_)
    ·
      have p1 := of_decide_eq_true b1
      refine sq (rg (k (asg (v := U (0#64)) rfl rfl (z (nx (rt (then_ret (r1 rfl rfl ?_))))))))
      have e0 : (0#64 : BitVec 64) = bitB i := by first | exact (bitB_out (by omega)).symm | (rw [bitB_pow (by omega) (by omega), show i.toNat = j from by omega])
      have ev_ := cg1 (fun (x_0 : BitVec 64) => (U x_0 : Value)) e0
      exact ⟨ev_, H.below⟩
    ·
      have p1 := of_decide_eq_false b1
      refine sk (nx (sq (rg (k (asg (v := U (1#64)) rfl rfl (z (nx (sq (bk ?_)))))))))
      refine lp (fun m f w' => ∃ (j : Nat), m = i.toNat - j ∧ f 0 = .int .i64 (i - (j : Int)) ∧ f 3 = U (1#64 <<< j) ∧  HI (fun _ => False) w w' [] ∧ (j ≤ i.toNat)) _ ⟨0, rfl, (ieq i0 (by omega)), (ueq rfl (by first | rfl | simp)), H, (by first | assumption | omega | simp | (simp; omega))⟩ ?_
      rintro _ f0 w0 ⟨j, rfl, s0, s1, H0, hj⟩
      refine sq (sq (rg (k (mv rfl s0 (k (gtr rfl rfl rfl rfl (z (nx ?_))))))))
      refine cd (b := decide (0 < (i - (j : Int)))) rfl rfl (fun b2 => ?_) (fun b2 => ?_)
      ·
        have p2 := of_decide_eq_true b2
        refine sk (nx (sq (bk (rg (k (mv rfl s1 (k (mulU (1#64 <<< j) (2#64) rfl rfl rfl rfl (k (asg (v := U ((1#64 <<< j) * (2#64))) rfl rfl (z (inb_normal (nx (rg (k (mv rfl s0 (k (sub rfl rfl rfl rfl (by unfold I64 at *; omega) (k (asg (v := .int .i64 ((i - (j : Int)) - 1)) rfl rfl (z ?_)))))))))))))))))))))
        refine loopN _ ?_ ⟨(j + 1), rfl, (ieq rfl (by omega)), (ueq rfl (by exact shl_step j)), H0, (by first | assumption | omega | simp | (simp; omega))⟩
        omega
      ·
        have p2 := of_decide_eq_false b2
        refine ex (then_exit (loop_exit (inb_here (nx (sq (rg (k (mv rfl s1 (k (asg (v := U (1#64 <<< j)) rfl rfl (z (nx (rt (r1 rfl rfl ?_))))))))))))))
        have e0 : ((1#64 <<< j) : BitVec 64) = bitB i := by first | exact (bitB_out (by omega)).symm | (rw [bitB_pow (by omega) (by omega), show i.toNat = j from by omega])
        have ev_ := cg1 (fun (x_0 : BitVec 64) => (U x_0 : Value)) e0
        exact ⟨ev_, H0.below⟩
/- eyewitness/eyewitnessref01.Has -/
set_option maxRecDepth 100000 in
set_option maxHeartbeats 1600000 in
theorem ref01_Has {w : World} {x : BitVec 64} {i : Int} (h_i : I64 i) : Calls Try.prog 69 #[U x, .int .i64 i] w (Ret fun v w' =>  v = .bool (hasW x i) ∧ Ext w w') := by
  refine enter 17 Try.func69 rfl rfl rfl fun f0 ha => ?_
  have H := HI.start (M0 := (fun _ => False)) (w := w) (fun _ h => h.elim)
  have i0 : f0 0 = U x := ha 0 (by simp)
  have i1 : f0 1 = .int .i64 i := ha 1 (by simp)
  refine sq (rg (k (asg (v := .bool false) rfl rfl (z (nx (sq (rg (k (mv rfl i1 (k ?_))))))))))
  have cc0 := ref01_Bit (i := i) (w := w) (by unfold I64 at *; omega)
  refine ca go71 rfl (ec rfl e0) cc0 ?_
  rintro _ w0 ⟨rfl, xt0⟩
  have H0 := H.ext xt0
  refine k (asg (v := U (bitB i)) rfl rfl (z (nx (sq (rg (k (mv (v := U (bitB i)) rfl rfl (k (neU (bitB i) (0#64) rfl rfl rfl rfl (k (mv (v := .bool (!decide ((bitB i) = (0#64)))) rfl rfl ?_)))))))))))
  rcases Bool.eq_false_or_eq_true (!decide ((bitB i) = (0#64))) with b0 | b0
  · -- !decide ((bitB i) = (0#64)) is True
    have p0 := of_decide_eq_false (nott b0)
    refine k (gy rfl rfl rfl b0 (mv rfl i0 (k (gy rfl rfl rfl b0 (mv (v := U (bitB i)) rfl rfl (k (gy rfl rfl rfl b0 (quoU x (bitB i) (by first | decide | simpa using b0) rfl rfl rfl rfl (k (gy rfl rfl rfl b0 (remU (x / (bitB i)) (2#64) (by first | decide | simpa using b0) rfl rfl rfl rfl (k (gy rfl rfl rfl b0 (eqU ((x / (bitB i)) % (2#64)) (1#64) rfl rfl rfl rfl (k (pickT rfl rfl rfl rfl b0 rfl (k (asg (v := .bool (decide (((x / (bitB i)) % (2#64)) = (1#64)))) rfl rfl (z (nx (rt (r1 rfl rfl ?_))))))))))))))))))))))
    have e0 : (decide (((x / (bitB i)) % (2#64)) = (1#64)) : Bool) = hasW x i := by first | exact hasW_quo (by simpa using b0) | exact hasW_zero (by simpa using b0)
    have ev_ := cg1 (fun (x_0 : Bool) => (.bool x_0 : Value)) e0
    exact ⟨ev_, H0.below⟩
  · -- !decide ((bitB i) = (0#64)) is False
    have p0 := of_decide_eq_true (notf b0)
    refine k (gn rfl rfl rfl b0 (k (gn rfl rfl rfl b0 (k (gn rfl rfl rfl b0 (k (gn rfl rfl rfl b0 (k (gn rfl rfl rfl b0 (k (pickF rfl rfl rfl rfl b0 rfl (k (asg (v := .bool false) rfl rfl (z (nx (rt (r1 rfl rfl ?_)))))))))))))))))
    have e0 : (false : Bool) = hasW x i := by first | exact hasW_quo (by simpa using b0) | exact hasW_zero (by simpa using b0)
    have ev_ := cg1 (fun (x_0 : Bool) => (.bool x_0 : Value)) e0
    exact ⟨ev_, H0.below⟩
/- eyewitness/eyewitnessref02.Words -/
set_option maxRecDepth 100000 in
set_option maxHeartbeats 1600000 in
theorem ref02_Words {w : World} {n : Int} (h_n : I64 n) (hn : n ≤ 1000000000000000000) : Calls Try.prog 59 #[.int .i64 n] w (Ret fun v w' =>  v = .int .i64 ((words n : Nat) : Int) ∧ Ext w w') := by
  refine enter 8 Try.func59 rfl rfl rfl fun f0 ha => ?_
  have H := HI.start (M0 := (fun _ => False)) (w := w) (fun _ h => h.elim)
  have i0 : f0 0 = .int .i64 n := ha 0 (by simp)
  refine sq (rg (k (asg (v := .int .i64 0) rfl rfl (z (nx (sq (sq (rg (k (mv rfl i0 (k (lss rfl rfl rfl rfl (z (nx ?_))))))))))))))
  refine cd (b := decide (n < 0)) rfl rfl (fun b0 => ?_) (fun b0 => ?_)
  ·
    have p0 := of_decide_eq_true b0
    refine sq (rg (k (asg (v := .int .i64 0) rfl rfl (z (nx (rt (then_ret (r1 rfl rfl ?_))))))))
    have e0 : (0 : Int) = ((words n : Nat) : Int) := by first | exact (words_neg (by omega)).symm | exact (words_pos (by omega)).symm
    have ev_ := cg1 (fun (x_0 : Int) => (.int .i64 x_0 : Value)) e0
    exact ⟨ev_, H.below⟩
  ·
    have p0 := of_decide_eq_false b0
    refine sk (nx (sq (rg (k (mv rfl i0 (k (add rfl rfl rfl rfl (by unfold I64 at *; omega) (k (quo rfl rfl rfl rfl (by first | omega | (simp; omega)) (k (asg (v := .int .i64 ((n + 63) / 64)) rfl rfl (z (nx (rt (r1 rfl rfl ?_)))))))))))))))
    have e0 : ((n + 63) / 64 : Int) = ((words n : Nat) : Int) := by first | exact (words_neg (by omega)).symm | exact (words_pos (by omega)).symm
    have ev_ := cg1 (fun (x_0 : Int) => (.int .i64 x_0 : Value)) e0
    exact ⟨ev_, H.below⟩
/- eyewitness/eyewitnessref02.New -/
set_option maxRecDepth 100000 in
set_option maxHeartbeats 1600000 in
theorem ref02_New {M : Nat → Prop} {w : World} {n : Int} (hM : ∀ b, M b → b < w.heap.size) (h_n : I64 n) (hn : n ≤ 1000000) : Calls Try.prog 67 #[.int .i64 n] w (Ret fun v w' => ∃ (a0 : Option Addr) (c0 : Nat), v = .slice a0 (newR n).length c0 ∧ Ext w w' ∧ OwnsG M 89 w (newR n) (.slice a0 (newR n).length c0) w') := by
  refine enter 6 Try.func67 rfl rfl rfl fun f0 ha => ?_
  have H := HI.start (M0 := M) (w := w) hM
  have i0 : f0 0 = .int .i64 n := ha 0 (by simp)
  refine sq (rg (k (asg (v := .slice none 0 0) rfl rfl (z (nx (sq (rg (k (mv rfl i0 (k ?_))))))))))
  have cc0 := ref02_Words (n := n) (w := w) (by unfold I64 at *; omega) (by first | omega | (simp; omega))
  refine ca go59 rfl (ec rfl e0) cc0 ?_
  rintro _ w0 ⟨rfl, xt0⟩
  have H0 := H.ext xt0
  refine k (mk (m := (words n : Nat)) (zx := (0#64 : (BitVec 64))) H0 rfl rfl rfl rfl un79 ty89 (fun _ _ => rfl) (by unfold words; omega) (by unfold words; omega) ?_)
  intro g0 w1 xt1 (H1 : HI M w w1 [own w.heap.size 89 (.slice (some ⟨g0, 0, none⟩) (words n : Nat) (words n : Nat)) (List.replicate (words n : Nat) (0#64 : (BitVec 64)))])
  refine k (asg (v := .slice (some ⟨g0, 0, none⟩) (words n : Nat) (words n : Nat)) rfl rfl (z (nx (rt (r1 rfl rfl ?_)))))
  have e0 : ((List.replicate (words n : Nat) (0#64 : (BitVec 64))) : List (BitVec 64)) = newR n := by unfold newR; rfl
  have l0 : (words n : Nat) = (newR n).length := by first | rfl | (rw [← e0]; simp) | simp
  have ev_ := cg1 (fun (n_0 : Nat) => (.slice (some ⟨g0, 0, none⟩) n_0 (words n : Nat) : Value)) l0
  exact ⟨(some ⟨g0, 0, none⟩), (words n : Nat), ev_, H1.below, (congrArg (fun (n_ : Nat) => OwnsG _ _ _ (newR n) (.slice (some ⟨g0, 0, none⟩) n_ (words n : Nat)) _) l0).mp ((congrArg (fun (x_ : List (BitVec 64)) => OwnsG _ _ _ x_ (.slice (some ⟨g0, 0, none⟩) (words n : Nat) (words n : Nat)) _) e0).mp (H1.ownsG_out 0 rfl))⟩
/- eyewitness/eyewitnessref02.Has -/
set_option maxRecDepth 100000 in
set_option maxHeartbeats 1600000 in
theorem ref02_Has {M : Nat → Prop} {w : World} {a_r : Option Addr} {c_r : Nat} {r : List (BitVec 64)} {i : Int} (hM : ∀ b, M b → b < w.heap.size) (h_r : RV M w (.slice a_r r.length c_r) r) (h_i : I64 i) (hl_r : r.length ≤ 1000000000) : Calls Try.prog 60 #[.slice a_r r.length c_r, .int .i64 i] w (Ret fun v w' =>  v = .bool (hasR r i) ∧ Ext w w') := by
  refine enter 24 Try.func60 rfl rfl rfl fun f0 ha => ?_
  have H := HI.start (M0 := M) (w := w) hM
  have H0 := H.put (it := imm (.slice a_r r.length c_r) r) rfl (by rw [MS_nil]; exact h_r)
  have ln_r := rv_len h_r
  have i0 : f0 0 = .slice a_r r.length c_r := ha 0 (by simp)
  have i1 : f0 1 = .int .i64 i := ha 1 (by simp)
  refine sq (rg (k (asg (v := .bool false) rfl rfl (z (nx (sq (rg (k (mv rfl i1 (k (geq rfl rfl rfl rfl (k (mv (v := .bool (decide (0 ≤ i))) rfl rfl ?_)))))))))))))
  rcases Bool.eq_false_or_eq_true (decide (0 ≤ i)) with b0 | b0
  · -- decide (0 ≤ i) is True
    have p0 := of_decide_eq_true b0
    refine k (gy rfl rfl rfl b0 (mv rfl i1 (k (gy rfl rfl rfl b0 (mv rfl i0 (k (gy rfl rfl rfl b0 (lnS rfl rfl un79 (k (gy rfl rfl rfl b0 (mul rfl rfl rfl rfl (by unfold I64 at *; omega) (k (gy rfl rfl rfl b0 (lss rfl rfl rfl rfl (k (pickT rfl rfl rfl rfl b0 rfl (k (mv (v := .bool (decide (i < (64 * (r.length : Int))))) rfl rfl ?_))))))))))))))))))
    rcases Bool.eq_false_or_eq_true (decide (i < (64 * (r.length : Int)))) with b1 | b1
    · -- decide (i < (64 * (r.length : Int))) is True
      have p1 := of_decide_eq_true b1
      refine k (gy rfl rfl rfl b1 (mv rfl i0 (k (gy rfl rfl rfl b1 (mv rfl i1 (k (gy rfl rfl rfl b1 (quo rfl rfl rfl rfl (by first | omega | (simp; omega)) (k (gy rfl rfl rfl b1 (ia (H0.rv 0 rfl) rfl rfl rfl rfl (by first | omega | (simp; omega)) un79 ty89 ?_)))))))))))
      intro ad0 x0 hx0 hA0
      refine k (gy rfl rfl rfl b1 (ldU hA0.w ty89 rfl rfl (k (gy rfl rfl rfl b1 (mv rfl i1 (k (gy rfl rfl rfl b1 (rem rfl rfl rfl rfl (by first | omega | (simp; omega)) (k (gy rfl rfl rfl b1 ?_))))))))))
      have cc0 := ref01_Has (x := x0) (i := (i % 64)) (w := w) (by unfold I64 at *; omega)
      refine ca go69 rfl (ec rfl (ec rfl e0)) cc0 ?_
      rintro _ w0 ⟨rfl, xt0⟩
      have H1 := H0.ext xt0
      refine k (pickT rfl rfl rfl rfl b1 rfl (k (asg (v := .bool (hasW x0 (i % 64))) rfl rfl (z (nx (rt (r1 rfl rfl ?_)))))))
      have e0 : (hasW x0 (i % 64) : Bool) = hasR r i := by first | exact hasR_of (by omega) (by omega) hx0 | exact hasR_no (by omega)
      have ev_ := cg1 (fun (x_0 : Bool) => (.bool x_0 : Value)) e0
      exact ⟨ev_, H1.below⟩
    · -- decide (i < (64 * (r.length : Int))) is False
      have p1 := of_decide_eq_false b1
      refine k (gn rfl rfl rfl b1 (k (gn rfl rfl rfl b1 (k (gn rfl rfl rfl b1 (k (gn rfl rfl rfl b1 (k (gn rfl rfl rfl b1 (k (gn rfl rfl rfl b1 (k (gn rfl rfl rfl b1 (k (gn rfl rfl rfl b1 (k (pickF rfl rfl rfl rfl b1 rfl (k (asg (v := .bool false) rfl rfl (z (nx (rt (r1 rfl rfl ?_)))))))))))))))))))))))
      have e0 : (false : Bool) = hasR r i := by first | exact hasR_of (by omega) (by omega) hx0 | exact hasR_no (by omega)
      have ev_ := cg1 (fun (x_0 : Bool) => (.bool x_0 : Value)) e0
      exact ⟨ev_, H0.below⟩
  · -- decide (0 ≤ i) is False
    have p0 := of_decide_eq_false b0
    refine k (gn rfl rfl rfl b0 (k (gn rfl rfl rfl b0 (k (gn rfl rfl rfl b0 (k (gn rfl rfl rfl b0 (k (gn rfl rfl rfl b0 (k (pickF rfl rfl rfl rfl b0 rfl (k (mv (v := .bool false) rfl rfl (k (gn rfl rfl rfl rfl (k (gn rfl rfl rfl rfl (k (gn rfl rfl rfl rfl (k (gn rfl rfl rfl rfl (k (gn rfl rfl rfl rfl (k (gn rfl rfl rfl rfl (k (gn rfl rfl rfl rfl (k (gn rfl rfl rfl rfl (k (pickF rfl rfl rfl rfl rfl rfl (k (asg (v := .bool false) rfl rfl (z (nx (rt (r1 rfl rfl ?_)))))))))))))))))))))))))))))))))))))
    have e0 : (false : Bool) = hasR r i := by first | exact hasR_of (by omega) (by omega) hx0 | exact hasR_no (by omega)
    have ev_ := cg1 (fun (x_0 : Bool) => (.bool x_0 : Value)) e0
    exact ⟨ev_, H0.below⟩
/- eyewitness/eyewitnessref02.Set -/
set_option maxRecDepth 100000 in
set_option maxHeartbeats 1600000 in
theorem ref02_Set {M : Nat → Prop} {w : World} {a_r : Option Addr} {c_r : Nat} {r : List (BitVec 64)} {i : Int} (hM : ∀ b, M b → b < w.heap.size) (h_r : RV M w (.slice a_r r.length c_r) r) (h_i : I64 i) (hl_r : r.length ≤ 1000000000) : Calls Try.prog 68 #[.slice a_r r.length c_r, .int .i64 i] w (Ret fun v w' => ∃ (a0 : Option Addr) (c0 : Nat), v = .slice a0 (setR r i).length c0 ∧ Ext w w' ∧ OwnsG M 89 w (setR r i) (.slice a0 (setR r i).length c0) w') := by
  refine enter 38 Try.func68 rfl rfl rfl fun f0 ha => ?_
  have H := HI.start (M0 := M) (w := w) hM
  have H0 := H.put (it := imm (.slice a_r r.length c_r) r) rfl (by rw [MS_nil]; exact h_r)
  have ln_r := rv_len h_r
  have i0 : f0 0 = .slice a_r r.length c_r := ha 0 (by simp)
  have i1 : f0 1 = .int .i64 i := ha 1 (by simp)
  refine sq (rg (k (asg (v := .slice none 0 0) rfl rfl (z (nx (sq (rg (k (bs (xs := ([] : List (BitVec 64))) (cells := #[]) (e := 89) H0 rfl pb0 (fun _ => by kernel_rfl) rfl rfl (by unfold maxLen; omega) ?_)))))))))
  intro g0 w0 xt0 (H1 : HI M w w0 [own w.heap.size 89 (.slice (some ⟨g0, 0, none⟩) 0 0) ([] : List (BitVec 64)), imm (.slice a_r r.length c_r) r])
  refine k (mv rfl i0 (k (ap H1 0 rfl rfl rfl rfl rfl rfl (H1.rv 1 rfl).src un79 ty89 rfl (by simp; omega) (by simp; omega) ?_)))
  intro a0 c0 w1 (H2 : HI M w w1 [own w.heap.size 89 (.slice a0 r.length c0) r, imm (.slice a_r r.length c_r) r])
  refine k (asg (v := .slice a0 r.length c0) rfl rfl (z (nx (sq (sq (rg (k (mv rfl i1 (k (geq rfl rfl rfl rfl (k (mv (v := .bool (decide (0 ≤ i))) rfl rfl ?_))))))))))))
  rcases Bool.eq_false_or_eq_true (decide (0 ≤ i)) with b0 | b0
  · -- decide (0 ≤ i) is True
    have p0 := of_decide_eq_true b0
    refine k (gy rfl rfl rfl b0 (mv rfl i1 (k (gy rfl rfl rfl b0 (mv rfl i0 (k (gy rfl rfl rfl b0 (lnS rfl rfl un79 (k (gy rfl rfl rfl b0 (mul rfl rfl rfl rfl (by unfold I64 at *; omega) (k (gy rfl rfl rfl b0 (lss rfl rfl rfl rfl (k (pickT rfl rfl rfl rfl b0 rfl (k (mv (v := .bool (decide (i < (64 * (r.length : Int))))) rfl rfl ?_))))))))))))))))))
    rcases Bool.eq_false_or_eq_true (decide (i < (64 * (r.length : Int)))) with b1 | b1
    · -- decide (i < (64 * (r.length : Int))) is True
      have p1 := of_decide_eq_true b1
      refine k (gy rfl rfl rfl b1 (mv rfl i0 (k (gy rfl rfl rfl b1 (mv rfl i1 (k (gy rfl rfl rfl b1 ?_)))))))
      have cc0 := ref02_Has (r := r) (i := i) (w := w1) H2.mb (H2.rv 1 rfl) (by unfold I64 at *; omega) (by first | omega | (simp; omega))
      refine ca go60 rfl (ec rfl (ec rfl e0)) cc0 ?_
      rintro _ w2 ⟨rfl, xt1⟩
      have H3 := H2.ext xt1
      refine k (gy rfl rfl rfl b1 (not_ rfl rfl (k (pickT rfl rfl rfl rfl b1 rfl (z (nx ?_))))))
      refine cd (b := !(hasR r i)) rfl rfl (fun b2 => ?_) (fun b2 => ?_)
      ·
        obtain ⟨x0, hx0⟩ : ∃ x, r[(i / 64).toNat]? = some x := ⟨_, List.getElem?_eq_getElem (by first | omega | (simp; omega))⟩
        refine dr 12 [fun (v : Value) (w' : World) => v = .slice a0 r.length c0, fun (v : Value) (w' : World) => v = .int .i64 i, fun (v : Value) (w' : World) => v = .int .i64 (i / 64), fun (v : Value) (w' : World) => v = .slice a0 r.length c0, fun (v : Value) (w' : World) => v = .int .i64 i, fun (v : Value) (w' : World) => v = .int .i64 (i / 64), fun (v : Value) (w' : World) => ∃ (g1 : Nat), v = .pointer (some ⟨g1, (i / 64).toNat * 1, none⟩) ∧ (.slice a0 r.length c0 : Value).ownBlock = some g1 ∧ AtW (MS M [own w.heap.size 89 (.slice a0 r.length c0) r, imm (.slice a_r r.length c_r) r]) w' ⟨g1, (i / 64).toNat * 1, none⟩ x0, fun (v : Value) (w' : World) => v = U x0, fun (v : Value) (w' : World) => v = .int .i64 i, fun (v : Value) (w' : World) => v = .int .i64 (i % 64), fun (v : Value) (w' : World) => v = U (bitB (i % 64)), fun (v : Value) (w' : World) => v = U (x0 + (bitB (i % 64)))] rfl (by kernel_rfl) ?_ ?_
        ·
          refine ⟨fun _ => ⟨fun f0 w4 hf0 xt3 hp0 => ?_, fun _ _ _ _ h => h⟩, ?_⟩
          ·
            have H5 := H3.ext xt3
            refine mv rfl (hf0 5 rfl) ?_
            exact ⟨_, rfl, Ext.refl _, rfl⟩
          refine ⟨fun _ => ⟨fun f1 w5 hf1 xt4 hp1 => ?_, fun _ _ _ _ h => h⟩, ?_⟩
          ·
            have H6 := H3.ext xt4
            refine mv rfl ((hf1 1 rfl).trans i1) ?_
            exact ⟨_, rfl, Ext.refl _, rfl⟩
          refine ⟨fun _ => ⟨fun f2 w6 hf2 xt5 hp2 => ?_, fun _ _ _ _ h => h⟩, ?_⟩
          ·
            have H7 := H3.ext xt5
            have s0 : f2 25 = .int .i64 i := hp2 1 rfl rfl
            refine quo rfl rfl s0 rfl (by first | omega | (simp; omega)) ?_
            exact ⟨_, rfl, Ext.refl _, rfl⟩
          refine ⟨fun _ => ⟨fun f3 w7 hf3 xt6 hp3 => ?_, fun _ _ _ _ h => h⟩, ?_⟩
          ·
            have H8 := H3.ext xt6
            refine mv rfl (hf3 5 rfl) ?_
            exact ⟨_, rfl, Ext.refl _, rfl⟩
          refine ⟨fun _ => ⟨fun f4 w8 hf4 xt7 hp4 => ?_, fun _ _ _ _ h => h⟩, ?_⟩
          ·
            have H9 := H3.ext xt7
            refine mv rfl ((hf4 1 rfl).trans i1) ?_
            exact ⟨_, rfl, Ext.refl _, rfl⟩
          refine ⟨fun _ => ⟨fun f5 w9 hf5 xt8 hp5 => ?_, fun _ _ _ _ h => h⟩, ?_⟩
          ·
            have H10 := H3.ext xt8
            have s1 : f5 28 = .int .i64 i := hp5 4 rfl rfl
            refine quo rfl rfl s1 rfl (by first | omega | (simp; omega)) ?_
            exact ⟨_, rfl, Ext.refl _, rfl⟩
          refine ⟨fun _ => ⟨fun f6 w10 hf6 xt9 hp6 => ?_, by rintro _ _ _ x_ ⟨g1, e_, hv0, hA0⟩; exact ⟨g1, e_, hv0, hA0.ext x_⟩⟩, ?_⟩
          ·
            have H11 := H3.ext xt9
            have s2 : f6 27 = .slice a0 r.length c0 := hp6 3 rfl rfl
            have s3 : f6 29 = .int .i64 (i / 64) := hp6 5 rfl rfl
            refine iaO (H11.at_ 0 rfl) rfl rfl s2 s3 (by first | omega | (simp; omega)) un79 ty89 ?_
            intro g2 x1 hv1 hx1 hA1
            obtain rfl : x0 = x1 := Option.some.inj (hx0.symm.trans hx1)
            exact ⟨_, rfl, Ext.refl _, ⟨g2, rfl, hv1, hA1⟩⟩
          refine ⟨fun _ => ⟨fun f7 w11 hf7 xt10 hp7 => ?_, fun _ _ _ _ h => h⟩, ?_⟩
          ·
            have H12 := H3.ext xt10
            obtain ⟨g3, s4, hv2, hA2⟩ : ∃ (g3 : Nat), f7 30 = .pointer (some ⟨g3, (i / 64).toNat * 1, none⟩) ∧ (.slice a0 r.length c0 : Value).ownBlock = some g3 ∧ AtW (MS M [own w.heap.size 89 (.slice a0 r.length c0) r, imm (.slice a_r r.length c_r) r]) w11 ⟨g3, (i / 64).toNat * 1, none⟩ x0 := hp7 6 rfl rfl
            refine ldU hA2 ty89 rfl s4 ?_
            exact ⟨_, rfl, Ext.refl _, rfl⟩
          refine ⟨fun _ => ⟨fun f8 w12 hf8 xt11 hp8 => ?_, fun _ _ _ _ h => h⟩, ?_⟩
          ·
            have H13 := H3.ext xt11
            refine mv rfl ((hf8 1 rfl).trans i1) ?_
            exact ⟨_, rfl, Ext.refl _, rfl⟩
          refine ⟨fun _ => ⟨fun f9 w13 hf9 xt12 hp9 => ?_, fun _ _ _ _ h => h⟩, ?_⟩
          ·
            have H14 := H3.ext xt12
            have s5 : f9 32 = .int .i64 i := hp9 8 rfl rfl
            refine rem rfl rfl s5 rfl (by first | omega | (simp; omega)) ?_
            exact ⟨_, rfl, Ext.refl _, rfl⟩
          refine ⟨fun _ => ⟨fun f10 w14 hf10 xt13 hp10 => ?_, fun _ _ _ _ h => h⟩, ?_⟩
          ·
            have H15 := H3.ext xt13
            have s6 : f10 33 = .int .i64 (i % 64) := hp10 9 rfl rfl
            have cc2 := ref01_Bit (i := (i % 64)) (w := w14) (by unfold I64 at *; omega)
            refine ca go71 rfl (ec s6 e0) cc2 ?_
            rintro _ w15 ⟨rfl, xt14⟩
            have H16 := H15.ext xt14
            exact ⟨_, rfl, xt14, rfl⟩
          refine ⟨fun _ => ⟨fun f11 w16 hf11 xt15 hp11 => ?_, fun _ _ _ _ h => h⟩, ?_⟩
          ·
            have H17 := H3.ext xt15
            have s7 : f11 31 = U x0 := hp11 7 rfl rfl
            have s8 : f11 34 = U (bitB (i % 64)) := hp11 10 rfl rfl
            refine addU x0 (bitB (i % 64)) rfl rfl s7 s8 ?_
            exact ⟨_, rfl, Ext.refl _, rfl⟩
          exact DSteps.rest rfl _
        · intro f12 w17 hf12 xt16 hp12
          have H18 := H3.ext xt16
          have s9 : f12 5 = .slice a0 r.length c0 := hf12 5 rfl
          have s10 : f12 24 = .slice a0 r.length c0 := hp12 0 rfl
          have s11 : f12 26 = .int .i64 (i / 64) := hp12 2 rfl
          have s12 : f12 35 = U (x0 + (bitB (i % 64))) := hp12 11 rfl
          refine k (iaO (H18.at_ 0 rfl) rfl rfl s10 s11 (by first | omega | (simp; omega)) un79 ty89 ?_)
          intro g4 x2 hv3 hx2 hA3
          refine k (stO H18 0 rfl hv3 rfl (by first | omega | (simp; omega)) ty89 rfl rfl rfl s12 (RV.bv.2 rfl) ?_)
          intro w18 (H19 : HI M w w18 [own w.heap.size 89 (.slice a0 r.length c0) (r.set ((i / 64).toNat) (x0 + (bitB (i % 64)))), imm (.slice a_r r.length c_r) r])
          refine z (nx (sq (rg (k (mv rfl s9 (k (asg (v := .slice a0 r.length c0) rfl rfl (z (nx (rt (r1 rfl rfl ?_)))))))))))
          have e0 : (r.set ((i / 64).toNat) (x0 + (bitB (i % 64))) : List (BitVec 64)) = setR r i := by first | exact setR_add (by omega) (by omega) (by simpa using b2) hx0 | exact setR_no (by omega) | exact (setR_had (by simpa using b2)).symm
          have l0 : r.length = (setR r i).length := by first | rfl | (rw [← e0]; simp) | simp
          have ev_ := cg1 (fun (n_0 : Nat) => (.slice a0 n_0 c0 : Value)) l0
          exact ⟨a0, c0, ev_, H19.below, (congrArg (fun (n_ : Nat) => OwnsG _ _ _ (setR r i) (.slice a0 n_ c0) _) l0).mp ((congrArg (fun (x_ : List (BitVec 64)) => OwnsG _ _ _ x_ (.slice a0 r.length c0) _) e0).mp (H19.ownsG_out 0 rfl))⟩
      ·
        refine sk (nx (sq (rg (k (mv (v := .slice a0 r.length c0) rfl rfl (k (asg (v := .slice a0 r.length c0) rfl rfl (z (nx (rt (r1 rfl rfl ?_)))))))))))
        have e0 : (r : List (BitVec 64)) = setR r i := by first | exact setR_add (by omega) (by omega) (by simpa using b2) hx0 | exact setR_no (by omega) | exact (setR_had (by simpa using b2)).symm
        have ev_ := cg1 (fun (x_0 : List (BitVec 64)) => (.slice a0 x_0.length c0 : Value)) e0
        exact ⟨a0, c0, ev_, H3.below, (congrArg (fun (x_ : List (BitVec 64)) => OwnsG _ _ _ x_ (.slice a0 x_.length c0) _) e0).mp (H3.ownsG_out 0 rfl)⟩
    · -- decide (i < (64 * (r.length : Int))) is False
      have p1 := of_decide_eq_false b1
      refine k (gn rfl rfl rfl b1 (k (gn rfl rfl rfl b1 (k (gn rfl rfl rfl b1 (k (gn rfl rfl rfl b1 (k (pickF rfl rfl rfl rfl b1 rfl (z (nx (cdF rfl rfl rfl (sk (nx (sq (rg (k (mv (v := .slice a0 r.length c0) rfl rfl (k (asg (v := .slice a0 r.length c0) rfl rfl (z (nx (rt (r1 rfl rfl ?_))))))))))))))))))))))))
      have e0 : (r : List (BitVec 64)) = setR r i := by first | exact setR_add (by omega) (by omega) (by simpa using b2) hx0 | exact setR_no (by omega) | exact (setR_had (by simpa using b2)).symm
      have ev_ := cg1 (fun (x_0 : List (BitVec 64)) => (.slice a0 x_0.length c0 : Value)) e0
      exact ⟨a0, c0, ev_, H2.below, (congrArg (fun (x_ : List (BitVec 64)) => OwnsG _ _ _ x_ (.slice a0 x_.length c0) _) e0).mp (H2.ownsG_out 0 rfl)⟩
  · -- decide (0 ≤ i) is False
    have p0 := of_decide_eq_false b0
    refine k (gn rfl rfl rfl b0 (k (gn rfl rfl rfl b0 (k (gn rfl rfl rfl b0 (k (gn rfl rfl rfl b0 (k (gn rfl rfl rfl b0 (k (pickF rfl rfl rfl rfl b0 rfl (k (mv (v := .bool false) rfl rfl (k (gn rfl rfl rfl rfl (k (gn rfl rfl rfl rfl (k (gn rfl rfl rfl rfl (k (gn rfl rfl rfl rfl (k (pickF rfl rfl rfl rfl rfl rfl (z (nx (cdF rfl rfl rfl (sk (nx (sq (rg (k (mv (v := .slice a0 r.length c0) rfl rfl (k (asg (v := .slice a0 r.length c0) rfl rfl (z (nx (rt (r1 rfl rfl ?_))))))))))))))))))))))))))))))))))))))
    have e0 : (r : List (BitVec 64)) = setR r i := by first | exact setR_add (by omega) (by omega) (by simpa using b2) hx0 | exact setR_no (by omega) | exact (setR_had (by simpa using b2)).symm
    have ev_ := cg1 (fun (x_0 : List (BitVec 64)) => (.slice a0 x_0.length c0 : Value)) e0
    exact ⟨a0, c0, ev_, H2.below, (congrArg (fun (x_ : List (BitVec 64)) => OwnsG _ _ _ x_ (.slice a0 x_.length c0) _) e0).mp (H2.ownsG_out 0 rfl)⟩
/- eyewitness/eyewitnessref02.Same -/
set_option maxRecDepth 100000 in
set_option maxHeartbeats 1600000 in
theorem ref02_Same {M : Nat → Prop} {w : World} {a_a : Option Addr} {c_a : Nat} {a : List (BitVec 64)} {a_b : Option Addr} {c_b : Nat} {b : List (BitVec 64)} (hM : ∀ b, M b → b < w.heap.size) (h_a : RV M w (.slice a_a a.length c_a) a) (h_b : RV M w (.slice a_b b.length c_b) b) : Calls Try.prog 54 #[.slice a_a a.length c_a, .slice a_b b.length c_b] w (Ret fun v w' =>  v = .bool (decide (a = b)) ∧ Ext w w') := by
  refine enter 26 Try.func54 rfl rfl rfl fun f0 ha => ?_
  have H := HI.start (M0 := M) (w := w) hM
  have H0 := H.put (it := imm (.slice a_a a.length c_a) a) rfl (by rw [MS_nil]; exact h_a)
  have H1 := H0.put (it := imm (.slice a_b b.length c_b) b) rfl (by rw [MS_cons_none rfl, MS_nil]; exact h_b)
  have ln_a := rv_len h_a
  have ln_b := rv_len h_b
  have i0 : f0 0 = .slice a_a a.length c_a := ha 0 (by simp)
  have i1 : f0 1 = .slice a_b b.length c_b := ha 1 (by simp)
  refine sq (rg (k (asg (v := .bool false) rfl rfl (z (nx (sq (sq (rg (k (mv rfl i0 (k (lnS rfl rfl un79 (k (mv rfl i1 (k (lnS rfl rfl un79 (k (neq rfl rfl rfl rfl (z (nx ?_))))))))))))))))))))
  refine cd (b := !decide ((a.length : Int) = (b.length : Int))) rfl rfl (fun b0 => ?_) (fun b0 => ?_)
  ·
    have p0 := of_decide_eq_false (nott b0)
    refine sq (rg (k (asg (v := .bool false) rfl rfl (z (nx (rt (then_ret (r1 rfl rfl ?_))))))))
    have e0 : (false : Bool) = decide (a = b) := by symm; rw [decide_eq_false_iff_not]; intro e; subst e; exact p0 rfl
    have ev_ := cg1 (fun (x_0 : Bool) => (.bool x_0 : Value)) e0
    exact ⟨ev_, H1.below⟩
  ·
    have p0 := of_decide_eq_true (notf b0)
    refine sk (nx (sq (sq (rg (k (asg (v := .int .i64 0) rfl rfl (z (nx (bk ?_)))))))))
    refine lp (fun m f w' => ∃ (j : Nat), m = a.length - j ∧ f 0 = .slice a_a a.length c_a ∧ f 1 = .slice a_b b.length c_b ∧ f 5 = .int .i64 (j : Int) ∧  HI M w w' [imm (.slice a_b b.length c_b) b, imm (.slice a_a a.length c_a) a] ∧ (j ≤ a.length) ∧ (a.take j = b.take j)) _ ⟨0, rfl, i0, i1, (ieq rfl (by first | rfl | omega | simp)), H1, (by first | assumption | omega | simp | (simp; omega)), (by first | assumption | omega | simp | (simp; omega))⟩ ?_
    rintro _ f0 w0 ⟨j, rfl, s0, s1, s2, H2, hk, hs⟩
    refine sq (sq (rg (k (mv rfl s2 (k (mv rfl s0 (k (lnS rfl rfl un79 (k (lss rfl rfl rfl rfl (z (nx ?_))))))))))))
    refine cd (b := decide ((j : Int) < (a.length : Int))) rfl rfl (fun b1 => ?_) (fun b1 => ?_)
    ·
      have p1 := of_decide_eq_true b1
      refine sk (nx (sq (bk (sq ?_))))
      obtain ⟨x0, hx0⟩ : ∃ x, a[(j : Int).toNat]? = some x := ⟨_, List.getElem?_eq_getElem (by first | omega | (simp; omega))⟩
      obtain ⟨x1, hx1⟩ : ∃ x, b[(j : Int).toNat]? = some x := ⟨_, List.getElem?_eq_getElem (by first | omega | (simp; omega))⟩
      refine dr 8 [fun (v : Value) (w' : World) => v = .slice a_a a.length c_a, fun (v : Value) (w' : World) => v = .int .i64 (j : Int), fun (v : Value) (w' : World) => ∃ (ad0 : Addr), v = .pointer (some ad0) ∧ At (MS M [imm (.slice a_b b.length c_b) b, imm (.slice a_a a.length c_a) a]) w' ad0 x0, fun (v : Value) (w' : World) => v = U x0, fun (v : Value) (w' : World) => v = .slice a_b b.length c_b, fun (v : Value) (w' : World) => v = .int .i64 (j : Int), fun (v : Value) (w' : World) => ∃ (ad1 : Addr), v = .pointer (some ad1) ∧ At (MS M [imm (.slice a_b b.length c_b) b, imm (.slice a_a a.length c_a) a]) w' ad1 x1, fun (v : Value) (w' : World) => v = U x1] rfl (by kernel_rfl) ?_ ?_
      ·
        refine ⟨fun _ => ⟨fun f1 w1 hf0 xt0 hp0 => ?_, fun _ _ _ _ h => h⟩, ?_⟩
        ·
          have H3 := H2.ext xt0
          refine mv rfl ((hf0 0 rfl).trans s0) ?_
          exact ⟨_, rfl, Ext.refl _, rfl⟩
        refine ⟨fun _ => ⟨fun f2 w2 hf1 xt1 hp1 => ?_, fun _ _ _ _ h => h⟩, ?_⟩
        ·
          have H4 := H2.ext xt1
          refine mv rfl ((hf1 5 rfl).trans s2) ?_
          exact ⟨_, rfl, Ext.refl _, rfl⟩
        refine ⟨fun _ => ⟨fun f3 w3 hf2 xt2 hp2 => ?_, by rintro _ _ _ x_ ⟨ad0, e_, hA0⟩; exact ⟨ad0, e_, hA0.lift (Up.ext x_)⟩⟩, ?_⟩
        ·
          have H5 := H2.ext xt2
          have s3 : f3 17 = .slice a_a a.length c_a := hp2 0 rfl rfl
          have s4 : f3 18 = .int .i64 (j : Int) := hp2 1 rfl rfl
          refine ia (H5.rv 1 rfl) rfl rfl s3 s4 (by first | omega | (simp; omega)) un79 ty89 ?_
          intro ad2 x2 hx2 hA2
          obtain rfl : x0 = x2 := Option.some.inj (hx0.symm.trans hx2)
          exact ⟨_, rfl, Ext.refl _, ⟨ad2, rfl, hA2⟩⟩
        refine ⟨fun _ => ⟨fun f4 w4 hf3 xt3 hp3 => ?_, fun _ _ _ _ h => h⟩, ?_⟩
        ·
          have H6 := H2.ext xt3
          obtain ⟨ad3, s5, hA3⟩ : ∃ (ad3 : Addr), f4 19 = .pointer (some ad3) ∧ At (MS M [imm (.slice a_b b.length c_b) b, imm (.slice a_a a.length c_a) a]) w4 ad3 x0 := hp3 2 rfl rfl
          have H7 := H6.put (it := atI ad3 x0) rfl hA3
          refine ldU (H7.atv 0 rfl).w ty89 rfl s5 ?_
          exact ⟨_, rfl, Ext.refl _, rfl⟩
        refine ⟨fun _ => ⟨fun f5 w5 hf4 xt4 hp4 => ?_, fun _ _ _ _ h => h⟩, ?_⟩
        ·
          have H8 := H2.ext xt4
          refine mv rfl ((hf4 1 rfl).trans s1) ?_
          exact ⟨_, rfl, Ext.refl _, rfl⟩
        refine ⟨fun _ => ⟨fun f6 w6 hf5 xt5 hp5 => ?_, fun _ _ _ _ h => h⟩, ?_⟩
        ·
          have H9 := H2.ext xt5
          refine mv rfl ((hf5 5 rfl).trans s2) ?_
          exact ⟨_, rfl, Ext.refl _, rfl⟩
        refine ⟨fun _ => ⟨fun f7 w7 hf6 xt6 hp6 => ?_, by rintro _ _ _ x_ ⟨ad1, e_, hA1⟩; exact ⟨ad1, e_, hA1.lift (Up.ext x_)⟩⟩, ?_⟩
        ·
          have H10 := H2.ext xt6
          have s6 : f7 21 = .slice a_b b.length c_b := hp6 4 rfl rfl
          have s7 : f7 22 = .int .i64 (j : Int) := hp6 5 rfl rfl
          refine ia (H10.rv 0 rfl) rfl rfl s6 s7 (by first | omega | (simp; omega)) un79 ty89 ?_
          intro ad4 x3 hx3 hA4
          obtain rfl : x1 = x3 := Option.some.inj (hx1.symm.trans hx3)
          exact ⟨_, rfl, Ext.refl _, ⟨ad4, rfl, hA4⟩⟩
        refine ⟨fun _ => ⟨fun f8 w8 hf7 xt7 hp7 => ?_, fun _ _ _ _ h => h⟩, ?_⟩
        ·
          have H11 := H2.ext xt7
          obtain ⟨ad5, s8, hA5⟩ : ∃ (ad5 : Addr), f8 23 = .pointer (some ad5) ∧ At (MS M [imm (.slice a_b b.length c_b) b, imm (.slice a_a a.length c_a) a]) w8 ad5 x1 := hp7 6 rfl rfl
          have H12 := H11.put (it := atI ad5 x1) rfl hA5
          refine ldU (H12.atv 0 rfl).w ty89 rfl s8 ?_
          exact ⟨_, rfl, Ext.refl _, rfl⟩
        exact DSteps.rest rfl _
      · intro f9 w9 hf8 xt8 hp8
        have H13 := H2.ext xt8
        have s9 : f9 0 = .slice a_a a.length c_a := (hf8 0 rfl).trans s0
        have s10 : f9 1 = .slice a_b b.length c_b := (hf8 1 rfl).trans s1
        have s11 : f9 5 = .int .i64 (j : Int) := (hf8 5 rfl).trans s2
        have s12 : f9 20 = U x0 := hp8 3 rfl
        have s13 : f9 24 = U x1 := hp8 7 rfl
        refine k (neU x0 x1 rfl rfl s12 s13 (z (nx ?_)))
        refine cd (b := !decide (x0 = x1)) rfl rfl (fun b2 => ?_) (fun b2 => ?_)
        ·
          have p2 := of_decide_eq_false (nott b2)
          refine sq (rg (k (asg (v := .bool false) rfl rfl (z (nx (rt (inb_ret (then_ret (loop_ret (inb_ret (then_ret (r1 rfl rfl ?_))))))))))))
          have e0 : (false : Bool) = decide (a = b) := by symm; rw [decide_eq_false_iff_not]; exact ne_of_at hx0 hx1 p2
          have ev_ := cg1 (fun (x_0 : Bool) => (.bool x_0 : Value)) e0
          exact ⟨ev_, H13.below⟩
        ·
          have p2 := of_decide_eq_true (notf b2)
          refine sk (inb_normal (nx (rg (k (mv rfl s11 (k (add rfl rfl rfl rfl (by unfold I64 at *; omega) (k (asg (v := .int .i64 ((j : Int) + 1)) rfl rfl (z ?_))))))))))
          refine loopN _ ?_ ⟨(j + 1), rfl, s9, s10, (ieq rfl (by first | rfl | omega | (push_cast; omega))), H13, (by first | assumption | omega | simp | (simp; omega)), (by exact take_eq_step hs hx0 hx1 p2)⟩
          omega
    ·
      have p1 := of_decide_eq_false b1
      refine ex (then_exit (loop_exit (inb_here (nx (sq (rg (k (asg (v := .bool true) rfl rfl (z (nx (rt (r1 rfl rfl ?_))))))))))))
      have e0 : (true : Bool) = decide (a = b) := by symm; rw [decide_eq_true_eq]; exact eq_of_take (by omega) hs (by omega)
      have ev_ := cg1 (fun (x_0 : Bool) => (.bool x_0 : Value)) e0
      exact ⟨ev_, H2.below⟩
/- eyewitness/eyewitnessref03.in -/
set_option maxRecDepth 100000 in
set_option maxHeartbeats 1600000 in
theorem ref03_in {w : World} {mn : Int} {a_mu : Option Addr} {n_mu c_mu : Nat} {i : Int} {j : Int} (h_mn : I64 mn) (h_i : I64 i) (h_j : I64 j) : Calls Try.prog 62 #[.agg #[.int .i64 mn, .slice a_mu n_mu c_mu], .int .i64 i, .int .i64 j] w (Ret fun v w' =>  v = .bool (inM mn [i, j]) ∧ Ext w w') := by
  refine enter 25 Try.func62 rfl rfl rfl fun f0 ha => ?_
  have H := HI.start (M0 := (fun _ => False)) (w := w) (fun _ h => h.elim)
  have i0 : f0 0 = .agg #[.int .i64 mn, .slice a_mu n_mu c_mu] := ha 0 (by simp)
  have i1 : f0 1 = .int .i64 i := ha 1 (by simp)
  have i2 : f0 2 = .int .i64 j := ha 2 (by simp)
  refine sq (rg (k (bx H rfl i0 ?_)))
  intro bb0 w0 xt0 (H0 : HI (fun _ => False) w w0 [box bb0 #[.int .i64 mn, .slice a_mu n_mu c_mu] 53])
  refine k (asg (v := .bool false) rfl rfl (z (nx (sq (rg (k (mv rfl i1 (k (geq rfl rfl rfl rfl (k (mv (v := .bool (decide (0 ≤ i))) rfl rfl ?_)))))))))))
  rcases Bool.eq_false_or_eq_true (decide (0 ≤ i)) with b0 | b0
  · -- decide (0 ≤ i) is True
    have p0 := of_decide_eq_true b0
    refine k (gy rfl rfl rfl b0 (mv rfl i1 (k (gy rfl rfl rfl b0 (fa fl53_0 rfl rfl (k (gy rfl rfl rfl b0 (ldX H0 0 rfl ty3 rfl rfl (by decide) rfl (k (gy rfl rfl rfl b0 (lss rfl rfl rfl rfl (k (pickT rfl rfl rfl rfl b0 rfl (k (mv (v := .bool (decide (i < mn))) rfl rfl ?_)))))))))))))))
    rcases Bool.eq_false_or_eq_true (decide (i < mn)) with b1 | b1
    · -- decide (i < mn) is True
      have p1 := of_decide_eq_true b1
      refine k (gy rfl rfl rfl b1 (mv rfl i2 (k (gy rfl rfl rfl b1 (geq rfl rfl rfl rfl (k (pickT rfl rfl rfl rfl b1 rfl (k (mv (v := .bool (decide (0 ≤ j))) rfl rfl ?_)))))))))
      rcases Bool.eq_false_or_eq_true (decide (0 ≤ j)) with b2 | b2
      · -- decide (0 ≤ j) is True
        have p2 := of_decide_eq_true b2
        refine k (gy rfl rfl rfl b2 (mv rfl i2 (k (gy rfl rfl rfl b2 (fa fl53_0 rfl rfl (k (gy rfl rfl rfl b2 (ldX H0 0 rfl ty3 rfl rfl (by decide) rfl (k (gy rfl rfl rfl b2 (lss rfl rfl rfl rfl (k (pickT rfl rfl rfl rfl b2 rfl (k (asg (v := .bool (decide (j < mn))) rfl rfl (z (nx (rt (r1 rfl rfl ?_)))))))))))))))))))
        have e0 : (decide (j < mn) : Bool) = inM mn [i, j] := by rw [inM_eq]; simp_all <;> omega
        have ev_ := cg1 (fun (x_0 : Bool) => (.bool x_0 : Value)) e0
        exact ⟨ev_, H0.below⟩
      · -- decide (0 ≤ j) is False
        have p2 := of_decide_eq_false b2
        refine k (gn rfl rfl rfl b2 (k (gn rfl rfl rfl b2 (k (gn rfl rfl rfl b2 (k (gn rfl rfl rfl b2 (k (pickF rfl rfl rfl rfl b2 rfl (k (asg (v := .bool false) rfl rfl (z (nx (rt (r1 rfl rfl ?_)))))))))))))))
        have e0 : (false : Bool) = inM mn [i, j] := by rw [inM_eq]; simp_all <;> omega
        have ev_ := cg1 (fun (x_0 : Bool) => (.bool x_0 : Value)) e0
        exact ⟨ev_, H0.below⟩
    · -- decide (i < mn) is False
      have p1 := of_decide_eq_false b1
      refine k (gn rfl rfl rfl b1 (k (gn rfl rfl rfl b1 (k (pickF rfl rfl rfl rfl b1 rfl (k (mv (v := .bool false) rfl rfl (k (gn rfl rfl rfl rfl (k (gn rfl rfl rfl rfl (k (gn rfl rfl rfl rfl (k (gn rfl rfl rfl rfl (k (pickF rfl rfl rfl rfl rfl rfl (k (asg (v := .bool false) rfl rfl (z (nx (rt (r1 rfl rfl ?_)))))))))))))))))))))))
      have e0 : (false : Bool) = inM mn [i, j] := by rw [inM_eq]; simp_all <;> omega
      have ev_ := cg1 (fun (x_0 : Bool) => (.bool x_0 : Value)) e0
      exact ⟨ev_, H0.below⟩
  · -- decide (0 ≤ i) is False
    have p0 := of_decide_eq_false b0
    refine k (gn rfl rfl rfl b0 (k (gn rfl rfl rfl b0 (k (gn rfl rfl rfl b0 (k (gn rfl rfl rfl b0 (k (pickF rfl rfl rfl rfl b0 rfl (k (mv (v := .bool false) rfl rfl (k (gn rfl rfl rfl rfl (k (gn rfl rfl rfl rfl (k (pickF rfl rfl rfl rfl rfl rfl (k (mv (v := .bool false) rfl rfl (k (gn rfl rfl rfl rfl (k (gn rfl rfl rfl rfl (k (gn rfl rfl rfl rfl (k (gn rfl rfl rfl rfl (k (pickF rfl rfl rfl rfl rfl rfl (k (asg (v := .bool false) rfl rfl (z (nx (rt (r1 rfl rfl ?_)))))))))))))))))))))))))))))))))))
    have e0 : (false : Bool) = inM mn [i, j] := by rw [inM_eq]; simp_all <;> omega
    have ev_ := cg1 (fun (x_0 : Bool) => (.bool x_0 : Value)) e0
    exact ⟨ev_, H0.below⟩
/- eyewitness/eyewitnessref03.New -/
set_option maxRecDepth 100000 in
set_option maxHeartbeats 1600000 in
theorem ref03_New {M : Nat → Prop} {w : World} {n : Int} (hM : ∀ b, M b → b < w.heap.size) (h_n : I64 n) : Calls Try.prog 57 #[.int .i64 n] w (Ret fun v w' => ∃ (a0 : Option Addr) (c0 : Nat), v = .tuple #[.agg #[.int .i64 (newMN n), .slice a0 (newMR n).length c0], .int .i64 (newME n)] ∧ Ext w w' ∧ OwnsG M 79 w (newMR n) (.slice a0 (newMR n).length c0) w') := by
  refine enter 28 Try.func57 rfl rfl rfl fun f0 ha => ?_
  have H := HI.start (M0 := M) (w := w) hM
  have i0 : f0 0 = .int .i64 n := ha 0 (by simp)
  refine sq (rg (k (al H ty53 ?_)))
  intro bb0 w0 xt0 (H0 : HI M w w0 [box bb0 #[.int .i64 0, .slice none 0 0] 53])
  refine k (asg (v := .int .i64 0) rfl rfl (z (nx (sq (sq (rg (k (mv rfl i0 (k (lss rfl rfl rfl rfl (k (mv (v := .bool (decide (n < 0))) rfl rfl ?_))))))))))))
  rcases Bool.eq_false_or_eq_true (decide (n < 0)) with b0 | b0
  · -- decide (n < 0) is True
    have p0 := of_decide_eq_true b0
    refine k (gn rfl rfl rfl b0 (k (gn rfl rfl rfl b0 (k (pickT rfl rfl rfl rfl b0 rfl (z (nx (cdT rfl rfl rfl (sq (rg (k (bd (v := .agg #[.int .i64 0, .slice none 0 0]) rfl pb0 (fun _ => by kernel_rfl) (k (stX H0 0 rfl ty53 rfl rfl rfl rfl rfl rfl rfl ?_))))))))))))))
    intro w1 (H1 : HI M w w1 [box bb0 #[.int .i64 0, .slice none 0 0] 53])
    refine k (asg (v := .int .i64 1) rfl rfl (z (nx (rt (then_ret (rc2 H1 0 rfl ty53 rfl rfl rfl rfl rfl (by decide) ?_))))))
    have e0 : (0 : Int) = newMN n := by first | exact (newM_no (okN_no.2 (by omega))).1.symm | exact (newM_yes (okN_iff.2 (by omega))).1.symm
    have e1 : ([] : List (List (BitVec 64))) = newMR n := by first | exact (newM_no (okN_no.2 (by omega))).2.1.symm | (rw [(newM_yes (okN_iff.2 (by omega))).2.1, hs, show j = n.toNat from by omega]; rfl)
    have e2 : (1 : Int) = newME n := by first | exact (newM_no (okN_no.2 (by omega))).2.2.symm | exact (newM_yes (okN_iff.2 (by omega))).2.2.symm
    have ev_ := cg3 (fun (x_0 : Int) (x_1 : List (List (BitVec 64))) (x_2 : Int) => (.tuple #[.agg #[.int .i64 x_0, .slice none x_1.length 0], .int .i64 x_2] : Value)) e0 e1 e2
    exact ⟨none, 0, ev_, H1.below, (congrArg (fun (x_ : List (List (BitVec 64))) => OwnsG _ _ _ x_ (.slice none x_.length 0) _) e1).mp (ownsG_nil H1.below)⟩
  · -- decide (n < 0) is False
    have p0 := of_decide_eq_false b0
    refine k (gy rfl rfl rfl b0 (mv rfl i0 (k (gy rfl rfl rfl b0 (gtr rfl rfl rfl rfl (k (pickF rfl rfl rfl rfl b0 rfl (z (nx ?_)))))))))
    refine cd (b := decide (4096 < n)) rfl rfl (fun b1 => ?_) (fun b1 => ?_)
    ·
      have p1 := of_decide_eq_true b1
      refine sq (rg (k (bd (v := .agg #[.int .i64 0, .slice none 0 0]) rfl pb0 (fun _ => by kernel_rfl) (k (stX H0 0 rfl ty53 rfl rfl rfl rfl rfl rfl rfl ?_)))))
      intro w1 (H1 : HI M w w1 [box bb0 #[.int .i64 0, .slice none 0 0] 53])
      refine k (asg (v := .int .i64 1) rfl rfl (z (nx (rt (then_ret (rc2 H1 0 rfl ty53 rfl rfl rfl rfl rfl (by decide) ?_))))))
      have e0 : (0 : Int) = newMN n := by first | exact (newM_no (okN_no.2 (by omega))).1.symm | exact (newM_yes (okN_iff.2 (by omega))).1.symm
      have e1 : ([] : List (List (BitVec 64))) = newMR n := by first | exact (newM_no (okN_no.2 (by omega))).2.1.symm | (rw [(newM_yes (okN_iff.2 (by omega))).2.1, hs, show j = n.toNat from by omega]; rfl)
      have e2 : (1 : Int) = newME n := by first | exact (newM_no (okN_no.2 (by omega))).2.2.symm | exact (newM_yes (okN_iff.2 (by omega))).2.2.symm
      have ev_ := cg3 (fun (x_0 : Int) (x_1 : List (List (BitVec 64))) (x_2 : Int) => (.tuple #[.agg #[.int .i64 x_0, .slice none x_1.length 0], .int .i64 x_2] : Value)) e0 e1 e2
      exact ⟨none, 0, ev_, H1.below, (congrArg (fun (x_ : List (List (BitVec 64))) => OwnsG _ _ _ x_ (.slice none x_.length 0) _) e1).mp (ownsG_nil H1.below)⟩
    ·
      have p1 := of_decide_eq_false b1
      refine sk (nx (sq (rg (k (mv rfl i0 (k (bd (v := .agg #[.int .i64 n, .slice none 0 0]) rfl (pbc rfl pb0) (fun _ => by kernel_rfl) (k (al H0 ty53 ?_)))))))))
      intro bb1 w1 xt1 (H1 : HI M w w1 [box bb1 #[.int .i64 0, .slice none 0 0] 53, box bb0 #[.int .i64 0, .slice none 0 0] 53])
      refine k (stX H1 0 rfl ty53 rfl rfl rfl rfl rfl rfl rfl ?_)
      intro w2 (H2 : HI M w w2 [box bb1 #[.int .i64 n, .slice none 0 0] 53, box bb0 #[.int .i64 0, .slice none 0 0] 53])
      refine z (nx (sq (sq (rg (k (asg (v := .int .i64 0) rfl rfl (z (nx (bk ?_)))))))))
      have H3 := H2.nil_ (List (BitVec 64)) 79
      refine lp (fun m f w' => ∃ (j : Nat) (xs : List (List (BitVec 64))) (a0 : Option Addr) (c0 : Nat), m = n.toNat - j ∧ f 0 = .int .i64 n ∧ f 2 = .pointer (some ⟨bb0, 0, none⟩) ∧ f 4 = .pointer (some ⟨bb1, 0, none⟩) ∧ f 5 = .int .i64 (j : Int) ∧  HI M w w' [own w.heap.size 79 (.slice a0 xs.length c0) xs, box bb1 #[.int .i64 n, .slice a0 xs.length c0] 53, box bb0 #[.int .i64 0, .slice none 0 0] 53] ∧ (j ≤ n.toNat) ∧ (xs = List.replicate j (newR n))) _ ⟨0, ([] : List (List (BitVec 64))), none, 0, rfl, i0, rfl, rfl, (ieq rfl (by first | rfl | omega | simp)), H3, (by first | assumption | omega | simp | (simp; omega)), (by rfl)⟩ ?_
      rintro _ f0 w3 ⟨j, xs, a0, c0, rfl, s0, s1, s2, s3, H4, hk, hs⟩
      refine sq (sq (rg (k (mv rfl s3 (k (mv rfl s0 (k (lss rfl rfl rfl rfl (z (nx ?_))))))))))
      refine cd (b := decide ((j : Int) < n)) rfl rfl (fun b2 => ?_) (fun b2 => ?_)
      ·
        have p2 := of_decide_eq_true b2
        refine sk (nx (sq (bk ?_)))
        refine dr 5 [fun (v : Value) (w' : World) => v = .pointer (some ⟨bb1, 1, none⟩), fun (v : Value) (w' : World) => v = .slice a0 xs.length c0, fun (v : Value) (w' : World) => v = .int .i64 n, fun (v : Value) (w' : World) => ∃ (a1 : Option Addr) (c1 : Nat), v = .slice a1 (newR n).length c1 ∧ RV (MS M [own w.heap.size 79 (.slice a0 xs.length c0) xs, box bb1 #[.int .i64 n, .slice a0 xs.length c0] 53, box bb0 #[.int .i64 0, .slice none 0 0] 53]) w' (.slice a1 (newR n).length c1) (newR n), fun (v : Value) (w' : World) => ∃ (a2 : Option Addr) (c2 : Nat), v = .slice a2 ([newR n] : List (List (BitVec 64))).length c2 ∧ RV (MS M [own w.heap.size 79 (.slice a0 xs.length c0) xs, box bb1 #[.int .i64 n, .slice a0 xs.length c0] 53, box bb0 #[.int .i64 0, .slice none 0 0] 53]) w' (.slice a2 ([newR n] : List (List (BitVec 64))).length c2) ([newR n] : List (List (BitVec 64)))] rfl (by kernel_rfl) ?_ ?_
        ·
          refine ⟨fun _ => ⟨fun f1 w6 hf0 xt4 hp0 => ?_, fun _ _ _ _ h => h⟩, ?_⟩
          ·
            have H9 := H4.ext xt4
            refine fa fl53_1 rfl ((hf0 4 rfl).trans s2) ?_
            exact ⟨_, rfl, Ext.refl _, rfl⟩
          refine ⟨fun _ => ⟨fun f2 w7 hf1 xt5 hp1 => ?_, fun _ _ _ _ h => h⟩, ?_⟩
          ·
            have H10 := H4.ext xt5
            have s4 : f2 20 = .pointer (some ⟨bb1, 1, none⟩) := hp1 0 rfl rfl
            refine ldX H10 1 rfl ty51 rfl s4 (by decide) rfl ?_
            exact ⟨_, rfl, Ext.refl _, rfl⟩
          refine ⟨fun _ => ⟨fun f3 w8 hf2 xt6 hp2 => ?_, fun _ _ _ _ h => h⟩, ?_⟩
          ·
            have H11 := H4.ext xt6
            refine mv rfl ((hf2 0 rfl).trans s0) ?_
            exact ⟨_, rfl, Ext.refl _, rfl⟩
          refine ⟨fun _ => ⟨fun f4 w9 hf3 xt7 hp3 => ?_, by rintro _ _ _ x_ ⟨a1, c1, e_, rv1⟩; exact ⟨a1, c1, e_, rv1.lift (Up.ext x_)⟩⟩, ?_⟩
          ·
            have H12 := H4.ext xt7
            have s5 : f4 22 = .int .i64 n := hp3 2 rfl rfl
            have cc1 := ref02_New (n := n) (w := w9) H12.mb (by unfold I64 at *; omega) (by first | omega | (simp; omega))
            refine ca go67 rfl (ec s5 e0) cc1 ?_
            rintro _ w10 ⟨a3, c3, rfl, xt8, rv3⟩
            have rv4 := OwnsG.rv rv3 H12.mb
            have H13 := H12.ext xt8
            have H14 := H13.put (it := imm (.slice a3 (newR n).length c3) (newR n)) rfl rv4
            exact ⟨_, rfl, xt8, ⟨a3, c3, rfl, rv4⟩⟩
          refine ⟨fun _ => ⟨fun f5 w11 hf4 xt9 hp4 => ?_, by rintro _ _ _ x_ ⟨a2, c2, e_, rv2⟩; exact ⟨a2, c2, e_, rv2.lift (Up.ext x_)⟩⟩, ?_⟩
          ·
            have H15 := H4.ext xt9
            obtain ⟨a4, c4, s6, rv5⟩ : ∃ (a4 : Option Addr) (c4 : Nat), f5 23 = .slice a4 (newR n).length c4 ∧ RV (MS M [own w.heap.size 79 (.slice a0 xs.length c0) xs, box bb1 #[.int .i64 n, .slice a0 xs.length c0] 53, box bb0 #[.int .i64 0, .slice none 0 0] 53]) w11 (.slice a4 (newR n).length c4) (newR n) := hp4 3 rfl rfl
            have H16 := H15.put (it := imm (.slice a4 (newR n).length c4) (newR n)) rfl rv5
            refine bs (xs := ([newR n] : List (List (BitVec 64)))) (cells := #[.slice a4 (newR n).length c4]) (e := 79) H16 rfl (pbc s6 pb0) (fun _ => by kernel_rfl) ⟨[.slice a4 (newR n).length c4], [], rfl, ⟨_, rfl, RV.list.1 (H16.rv 0 rfl)⟩, rfl⟩ rfl (by unfold maxLen; omega) ?_
            intro g1 w12 xt10 (H17 : HI M w w12 [own w.heap.size 79 (.slice (some ⟨g1, 0, none⟩) 1 1) ([newR n] : List (List (BitVec 64))), imm (.slice a4 (newR n).length c4) (newR n), own w.heap.size 79 (.slice a0 xs.length c0) xs, box bb1 #[.int .i64 n, .slice a0 xs.length c0] 53, box bb0 #[.int .i64 0, .slice none 0 0] 53])
            have H18 := H17.freeze 0 rfl
            exact ⟨_, rfl, xt10, ⟨(some ⟨g1, 0, none⟩), 1, rfl, (rv_drop rfl (rv_drop rfl (H18.rv 0 rfl)))⟩⟩
          exact DSteps.rest rfl _
        · intro f6 w13 hf5 xt11 hp5
          have H19 := H4.ext xt11
          have s7 : f6 0 = .int .i64 n := (hf5 0 rfl).trans s0
          have s8 : f6 2 = .pointer (some ⟨bb0, 0, none⟩) := (hf5 2 rfl).trans s1
          have s9 : f6 4 = .pointer (some ⟨bb1, 0, none⟩) := (hf5 4 rfl).trans s2
          have s10 : f6 5 = .int .i64 (j : Int) := (hf5 5 rfl).trans s3
          have s11 : f6 21 = .slice a0 xs.length c0 := hp5 1 rfl
          obtain ⟨a5, c5, s12, rv6⟩ : ∃ (a5 : Option Addr) (c5 : Nat), f6 24 = .slice a5 ([newR n] : List (List (BitVec 64))).length c5 ∧ RV (MS M [own w.heap.size 79 (.slice a0 xs.length c0) xs, box bb1 #[.int .i64 n, .slice a0 xs.length c0] 53, box bb0 #[.int .i64 0, .slice none 0 0] 53]) w13 (.slice a5 ([newR n] : List (List (BitVec 64))).length c5) ([newR n] : List (List (BitVec 64))) := hp5 4 rfl
          have H20 := H19.put (it := imm (.slice a5 ([newR n] : List (List (BitVec 64))).length c5) ([newR n] : List (List (BitVec 64)))) rfl rv6
          refine k (ap H20 1 rfl rfl rfl rfl s11 s12 (H20.rv 0 rfl).src un51 ty79 rfl (by rw [hs]; simp; omega) (by rw [hs]; simp; omega) ?_)
          intro a6 c6 w14 (H21 : HI M w w14 [imm (.slice a5 ([newR n] : List (List (BitVec 64))).length c5) ([newR n] : List (List (BitVec 64))), own w.heap.size 79 (.slice a6 (xs ++ ([newR n] : List (List (BitVec 64)))).length c6) (xs ++ ([newR n] : List (List (BitVec 64)))), box bb1 #[.int .i64 n, .slice a0 xs.length c0] 53, box bb0 #[.int .i64 0, .slice none 0 0] 53])
          refine k (fa fl53_1 rfl s9 (k (stX H21 2 rfl ty51 rfl rfl rfl rfl rfl rfl rfl ?_)))
          intro w15 (H22 : HI M w w15 [imm (.slice a5 ([newR n] : List (List (BitVec 64))).length c5) ([newR n] : List (List (BitVec 64))), own w.heap.size 79 (.slice a6 (xs ++ ([newR n] : List (List (BitVec 64)))).length c6) (xs ++ ([newR n] : List (List (BitVec 64)))), box bb1 #[.int .i64 n, .slice a6 (xs ++ ([newR n] : List (List (BitVec 64)))).length c6] 53, box bb0 #[.int .i64 0, .slice none 0 0] 53])
          refine z (inb_normal (nx (rg (k (mv rfl s10 (k (add rfl rfl rfl rfl (by unfold I64 at *; omega) (k (asg (v := .int .i64 ((j : Int) + 1)) rfl rfl (z ?_))))))))))
          have H23 : HI M w w15 [own w.heap.size 79 (.slice a6 (xs ++ ([newR n] : List (List (BitVec 64)))).length c6) (xs ++ ([newR n] : List (List (BitVec 64)))), box bb1 #[.int .i64 n, .slice a6 (xs ++ ([newR n] : List (List (BitVec 64)))).length c6] 53, box bb0 #[.int .i64 0, .slice none 0 0] 53] := H22.pickN [1, 2, 3] (by decide) rfl
          refine loopN _ ?_ ⟨(j + 1), (xs ++ ([newR n] : List (List (BitVec 64)))), a6, c6, rfl, s7, s8, s9, (ieq rfl (by first | rfl | omega | (push_cast; omega))), H23, (by first | assumption | omega | simp | (simp; omega)), (by rw [hs, List.replicate_succ'])⟩
          omega
      ·
        have p2 := of_decide_eq_false b2
        refine ex (then_exit (loop_exit (inb_here (nx (sq (rg (k (ldX H4 1 rfl ty53 rfl s2 (by decide) rfl (k (stX H4 2 rfl ty53 rfl rfl s1 rfl rfl rfl rfl ?_))))))))))
        intro w4 (H5 : HI M w w4 [own w.heap.size 79 (.slice a0 xs.length c0) xs, box bb1 #[.int .i64 n, .slice a0 xs.length c0] 53, box bb0 #[.int .i64 n, .slice a0 xs.length c0] 53])
        refine k (asg (v := .int .i64 0) rfl rfl (z (nx (rt (rc2 H5 2 rfl ty53 rfl rfl rfl s1 rfl (by decide) ?_)))))
        have e0 : (n : Int) = newMN n := by first | exact (newM_no (okN_no.2 (by omega))).1.symm | exact (newM_yes (okN_iff.2 (by omega))).1.symm
        have e1 : (xs : List (List (BitVec 64))) = newMR n := by first | exact (newM_no (okN_no.2 (by omega))).2.1.symm | (rw [(newM_yes (okN_iff.2 (by omega))).2.1, hs, show j = n.toNat from by omega]; rfl)
        have e2 : (0 : Int) = newME n := by first | exact (newM_no (okN_no.2 (by omega))).2.2.symm | exact (newM_yes (okN_iff.2 (by omega))).2.2.symm
        have ev_ := cg3 (fun (x_0 : Int) (x_1 : List (List (BitVec 64))) (x_2 : Int) => (.tuple #[.agg #[.int .i64 x_0, .slice a0 x_1.length c0], .int .i64 x_2] : Value)) e0 e1 e2
        exact ⟨a0, c0, ev_, H5.below, (congrArg (fun (x_ : List (List (BitVec 64))) => OwnsG _ _ _ x_ (.slice a0 x_.length c0) _) e1).mp (H5.ownsG_out 0 rfl)⟩
/- eyewitness/eyewitnessref03.Set -/
set_option maxRecDepth 100000 in
set_option maxHeartbeats 1600000 in
theorem ref03_Set {M : Nat → Prop} {w : World} {mn : Int} {a_mr : Option Addr} {c_mr : Nat} {mr : List (List (BitVec 64))} {i : Int} {j : Int} (hM : ∀ b, M b → b < w.heap.size) (h_mn : I64 mn) (h_mr : RV M w (.slice a_mr mr.length c_mr) mr) (h_i : I64 i) (h_j : I64 j) (hsq_m : ((mr.length : Nat) : Int) = mn) (hrw_m : ∀ x ∈ mr, x.length ≤ 1000000000) (hl4_m : mn ≤ 4096) : Calls Try.prog 58 #[.agg #[.int .i64 mn, .slice a_mr mr.length c_mr], .int .i64 i, .int .i64 j] w (Ret fun v w' => ∃ (a0 : Option Addr) (c0 : Nat), v = .tuple #[.agg #[.int .i64 (setMN mn i j), .slice a0 (setMR mn mr i j).length c0], .int .i64 (setME mn i j)] ∧ Ext w w' ∧ OwnsG M 79 w (setMR mn mr i j) (.slice a0 (setMR mn mr i j).length c0) w') := by
  refine enter 32 Try.func58 rfl rfl rfl fun f0 ha => ?_
  have H := HI.start (M0 := M) (w := w) hM
  have H0 := H.put (it := imm (.slice a_mr mr.length c_mr) mr) rfl (by rw [MS_nil]; exact h_mr)
  have ln_mr := rv_len h_mr
  have i0 : f0 0 = .agg #[.int .i64 mn, .slice a_mr mr.length c_mr] := ha 0 (by simp)
  have i1 : f0 1 = .int .i64 i := ha 1 (by simp)
  have i2 : f0 2 = .int .i64 j := ha 2 (by simp)
  refine sq (rg (k (bx H0 rfl i0 ?_)))
  intro bb0 w0 xt0 (H1 : HI M w w0 [box bb0 #[.int .i64 mn, .slice a_mr mr.length c_mr] 53, imm (.slice a_mr mr.length c_mr) mr])
  refine k (al H1 ty53 ?_)
  intro bb1 w1 xt1 (H2 : HI M w w1 [box bb1 #[.int .i64 0, .slice none 0 0] 53, box bb0 #[.int .i64 mn, .slice a_mr mr.length c_mr] 53, imm (.slice a_mr mr.length c_mr) mr])
  refine k (asg (v := .int .i64 0) rfl rfl (z (nx (sq (sq (rg (k (ldX H2 1 rfl ty53 rfl rfl (by decide) rfl (k (mv rfl i1 (k (mv rfl i2 (k ?_)))))))))))))
  have cc0 := ref03_in (mn := mn) (i := i) (j := j) (a_mu := a_mr) (n_mu := mr.length) (c_mu := c_mr) (w := w1) (by unfold I64 at *; omega) (by unfold I64 at *; omega) (by unfold I64 at *; omega)
  refine ca go62 rfl (ec rfl (ec rfl (ec rfl e0))) cc0 ?_
  rintro _ w2 ⟨rfl, xt2⟩
  have H3 := H2.ext xt2
  refine k (not_ rfl rfl (z (nx ?_)))
  refine cd (b := !(inM mn [i, j])) rfl rfl (fun b0 => ?_) (fun b0 => ?_)
  ·
    refine sq ?_
    have hq : inM mn [i, j] = false := by simpa using b0
    refine rg (k (bd (v := .agg #[.int .i64 0, .slice none 0 0]) rfl pb0 (fun _ => by kernel_rfl) (k (stX H3 0 rfl ty53 rfl rfl rfl rfl rfl rfl rfl ?_))))
    intro w3 (H4 : HI M w w3 [box bb1 #[.int .i64 0, .slice none 0 0] 53, box bb0 #[.int .i64 mn, .slice a_mr mr.length c_mr] 53, imm (.slice a_mr mr.length c_mr) mr])
    refine k (asg (v := .int .i64 1) rfl rfl (z (nx (rt (then_ret (rc2 H4 0 rfl ty53 rfl rfl rfl rfl rfl (by decide) ?_))))))
    have e0 : (0 : Int) = setMN mn i j := by first | exact (set_no (rs := mr) hq).1.symm | exact (set_yes (rs := mr) hq).1.symm
    have e1 : ([] : List (List (BitVec 64))) = setMR mn mr i j := by first | exact (set_no (rs := mr) hq).2.1.symm | (rw [(set_yes (rs := mr) hq).2.1]; exact setM_of hx0)
    have e2 : (1 : Int) = setME mn i j := by first | exact (set_no (rs := mr) hq).2.2.symm | exact (set_yes (rs := mr) hq).2.2.symm
    have ev_ := cg3 (fun (x_0 : Int) (x_1 : List (List (BitVec 64))) (x_2 : Int) => (.tuple #[.agg #[.int .i64 x_0, .slice none x_1.length 0], .int .i64 x_2] : Value)) e0 e1 e2
    exact ⟨none, 0, ev_, H4.below, (congrArg (fun (x_ : List (List (BitVec 64))) => OwnsG _ _ _ x_ (.slice none x_.length 0) _) e1).mp (ownsG_nil H4.below)⟩
  ·
    refine sk (nx (sq ?_))
    have hq : inM mn [i, j] = true := by simpa using b0
    have hr := inM_two.1 hq
    refine rg (k (bs (xs := ([] : List (List (BitVec 64)))) (cells := #[]) (e := 79) H3 rfl pb0 (fun _ => by kernel_rfl) rfl rfl (by unfold maxLen; omega) ?_))
    intro g0 w3 xt3 (H4 : HI M w w3 [own w.heap.size 79 (.slice (some ⟨g0, 0, none⟩) 0 0) ([] : List (List (BitVec 64))), box bb1 #[.int .i64 0, .slice none 0 0] 53, box bb0 #[.int .i64 mn, .slice a_mr mr.length c_mr] 53, imm (.slice a_mr mr.length c_mr) mr])
    refine k (fa fl53_1 rfl rfl (k (ldX H4 2 rfl ty51 rfl rfl (by decide) rfl (k (ap H4 0 rfl rfl rfl rfl rfl rfl (H4.rv 3 rfl).src un51 ty79 rfl (by simp; omega) (by simp; omega) ?_)))))
    intro a0 c0 w4 (H5 : HI M w w4 [own w.heap.size 79 (.slice a0 mr.length c0) mr, box bb1 #[.int .i64 0, .slice none 0 0] 53, box bb0 #[.int .i64 mn, .slice a_mr mr.length c_mr] 53, imm (.slice a_mr mr.length c_mr) mr])
    refine k (asg (v := .slice a0 mr.length c0) rfl rfl (z (nx (sq (rg (k (mv (v := .slice a0 mr.length c0) rfl rfl (k (mv rfl i1 (k (mv (v := .slice a0 mr.length c0) rfl rfl (k (mv rfl i1 (k (iaO (H5.at_ 0 rfl) rfl rfl rfl rfl (by first | omega | (simp; omega)) un51 ty79 ?_)))))))))))))))
    intro g1 x0 hv0 hx0 hA0
    refine k (ldL hA0 ty79 rfl rfl ?_)
    intro a1 c1 rv0
    have ln0 := rv_len rv0
    have H6 := H5.put (it := imm (.slice a1 x0.length c1) x0) rfl rv0
    refine k (mv rfl i2 (k ?_))
    have cc1 := ref02_Set (r := x0) (i := j) (w := w4) H6.mb (H6.rv 0 rfl) (by unfold I64 at *; omega) (by exact hrw_m _ (List.mem_of_getElem? hx0))
    refine ca go68 rfl (ec rfl (ec rfl e0)) cc1 ?_
    rintro _ w5 ⟨a2, c2, rfl, xt4, rv1⟩
    have H7 := H6.ownsG rv1
    refine k (iaO (H7.at_ 2 rfl) rfl rfl rfl rfl (by first | omega | (simp; omega)) un51 ty79 ?_)
    intro g2 x1 hv1 hx1 hA1
    refine k ?_
    have H8 := H7.freeze 0 rfl
    refine stO H8 2 rfl hv1 rfl (by first | omega | (simp; omega)) ty79 rfl rfl rfl rfl (H8.rv 0 rfl) ?_
    intro w6 (H9 : HI M w w6 [imm (.slice a2 (setR x0 j).length c2) (setR x0 j), imm (.slice a1 x0.length c1) x0, own w.heap.size 79 (.slice a0 mr.length c0) (mr.set i.toNat (setR x0 j)), box bb1 #[.int .i64 0, .slice none 0 0] 53, box bb0 #[.int .i64 mn, .slice a_mr mr.length c_mr] 53, imm (.slice a_mr mr.length c_mr) mr])
    refine z (nx (sq (rg (k (fa fl53_0 rfl rfl (k (ldX H9 4 rfl ty3 rfl rfl (by decide) rfl (k (mv (v := .slice a0 mr.length c0) rfl rfl (k (bd (v := .agg #[.int .i64 mn, .slice a0 mr.length c0]) rfl (pbc rfl (pbc rfl pb0)) (fun _ => by kernel_rfl) (k (stX H9 3 rfl ty53 rfl rfl rfl rfl rfl rfl rfl ?_)))))))))))))
    intro w7 (H10 : HI M w w7 [imm (.slice a2 (setR x0 j).length c2) (setR x0 j), imm (.slice a1 x0.length c1) x0, own w.heap.size 79 (.slice a0 mr.length c0) (mr.set i.toNat (setR x0 j)), box bb1 #[.int .i64 mn, .slice a0 mr.length c0] 53, box bb0 #[.int .i64 mn, .slice a_mr mr.length c_mr] 53, imm (.slice a_mr mr.length c_mr) mr])
    refine k (asg (v := .int .i64 0) rfl rfl (z (nx (rt (rc2 H10 3 rfl ty53 rfl rfl rfl rfl rfl (by decide) ?_)))))
    have e0 : (mn : Int) = setMN mn i j := by first | exact (set_no (rs := mr) hq).1.symm | exact (set_yes (rs := mr) hq).1.symm
    have e1 : (mr.set i.toNat (setR x0 j) : List (List (BitVec 64))) = setMR mn mr i j := by first | exact (set_no (rs := mr) hq).2.1.symm | (rw [(set_yes (rs := mr) hq).2.1]; exact setM_of hx0)
    have l1 : mr.length = (setMR mn mr i j).length := by rw [← e1]; simp
    have e2 : (0 : Int) = setME mn i j := by first | exact (set_no (rs := mr) hq).2.2.symm | exact (set_yes (rs := mr) hq).2.2.symm
    have ev_ := cg3 (fun (x_0 : Int) (n_1 : Nat) (x_2 : Int) => (.tuple #[.agg #[.int .i64 x_0, .slice a0 n_1 c0], .int .i64 x_2] : Value)) e0 l1 e2
    exact ⟨a0, c0, ev_, H10.below, (congrArg (fun (n_ : Nat) => OwnsG _ _ _ (setMR mn mr i j) (.slice a0 n_ c0) _) l1).mp ((congrArg (fun (x_ : List (List (BitVec 64))) => OwnsG _ _ _ x_ (.slice a0 mr.length c0) _) e1).mp (H10.ownsG_out 2 rfl))⟩
/- eyewitness/eyewitnessref03.Has -/
set_option maxRecDepth 100000 in
set_option maxHeartbeats 1600000 in
theorem ref03_Has {M : Nat → Prop} {w : World} {mn : Int} {a_mr : Option Addr} {c_mr : Nat} {mr : List (List (BitVec 64))} {i : Int} {j : Int} (hM : ∀ b, M b → b < w.heap.size) (h_mn : I64 mn) (h_mr : RV M w (.slice a_mr mr.length c_mr) mr) (h_i : I64 i) (h_j : I64 j) (hsq_m : ((mr.length : Nat) : Int) = mn) (hrw_m : ∀ x ∈ mr, x.length ≤ 1000000000) (hl4_m : mn ≤ 4096) : Calls Try.prog 53 #[.agg #[.int .i64 mn, .slice a_mr mr.length c_mr], .int .i64 i, .int .i64 j] w (Ret fun v w' =>  v = .bool (hasM mn mr i j) ∧ Ext w w') := by
  refine enter 20 Try.func53 rfl rfl rfl fun f0 ha => ?_
  have H := HI.start (M0 := M) (w := w) hM
  have H0 := H.put (it := imm (.slice a_mr mr.length c_mr) mr) rfl (by rw [MS_nil]; exact h_mr)
  have ln_mr := rv_len h_mr
  have i0 : f0 0 = .agg #[.int .i64 mn, .slice a_mr mr.length c_mr] := ha 0 (by simp)
  have i1 : f0 1 = .int .i64 i := ha 1 (by simp)
  have i2 : f0 2 = .int .i64 j := ha 2 (by simp)
  refine sq (rg (k (bx H0 rfl i0 ?_)))
  intro bb0 w0 xt0 (H1 : HI M w w0 [box bb0 #[.int .i64 mn, .slice a_mr mr.length c_mr] 53, imm (.slice a_mr mr.length c_mr) mr])
  refine k (asg (v := .bool false) rfl rfl (z (nx (sq (rg (k (ldX H1 0 rfl ty53 rfl rfl (by decide) rfl (k (mv rfl i1 (k (mv rfl i2 (k ?_))))))))))))
  have cc0 := ref03_in (mn := mn) (i := i) (j := j) (a_mu := a_mr) (n_mu := mr.length) (c_mu := c_mr) (w := w0) (by unfold I64 at *; omega) (by unfold I64 at *; omega) (by unfold I64 at *; omega)
  refine ca go62 rfl (ec rfl (ec rfl (ec rfl e0))) cc0 ?_
  rintro _ w1 ⟨rfl, xt1⟩
  have H2 := H1.ext xt1
  refine k (mv (v := .bool (inM mn [i, j])) rfl rfl ?_)
  rcases Bool.eq_false_or_eq_true (inM mn [i, j]) with b0 | b0
  · -- inM mn [i, j] is True
    refine k (gy rfl rfl rfl b0 (fa fl53_1 rfl rfl (k (gy rfl rfl rfl b0 (ldX H2 0 rfl ty51 rfl rfl (by decide) rfl (k (gy rfl rfl rfl b0 (mv rfl i1 (k (gy rfl rfl rfl b0 (ia (H2.rv 1 rfl) rfl rfl rfl rfl (by have hr := inM_two.1 b0; omega) un51 ty79 ?_)))))))))))
    intro ad0 x0 hx0 hA0
    refine k (gy rfl rfl rfl b0 (ldL hA0.w ty79 rfl rfl ?_))
    intro a0 c0 rv0
    have ln0 := rv_len rv0
    have H3 := H2.put (it := imm (.slice a0 x0.length c0) x0) rfl rv0
    refine k (gy rfl rfl rfl b0 (mv rfl i2 (k (gy rfl rfl rfl b0 ?_))))
    have cc1 := ref02_Has (r := x0) (i := j) (w := w1) H3.mb (H3.rv 0 rfl) (by unfold I64 at *; omega) (by first | omega | exact hrw_m _ (List.mem_of_getElem? hx0))
    refine ca go60 rfl (ec rfl (ec rfl e0)) cc1 ?_
    rintro _ w2 ⟨rfl, xt2⟩
    have H4 := H3.ext xt2
    refine k (pickT rfl rfl rfl rfl b0 rfl (k (asg (v := .bool (hasR x0 j)) rfl rfl (z (nx (rt (r1 rfl rfl ?_)))))))
    have e0 : (hasR x0 j : Bool) = hasM mn mr i j := by unfold hasM; first | (rw [rowAt_of hx0, b0]; rfl) | (rw [b0]; rfl)
    have ev_ := cg1 (fun (x_0 : Bool) => (.bool x_0 : Value)) e0
    exact ⟨ev_, H4.below⟩
  · -- inM mn [i, j] is False
    refine k (gn rfl rfl rfl b0 (k (gn rfl rfl rfl b0 (k (gn rfl rfl rfl b0 (k (gn rfl rfl rfl b0 (k (gn rfl rfl rfl b0 (k (gn rfl rfl rfl b0 (k (gn rfl rfl rfl b0 (k (pickF rfl rfl rfl rfl b0 rfl (k (asg (v := .bool false) rfl rfl (z (nx (rt (r1 rfl rfl ?_)))))))))))))))))))))
    have e0 : (false : Bool) = hasM mn mr i j := by unfold hasM; first | (rw [rowAt_of hx0, b0]; rfl) | (rw [b0]; rfl)
    have ev_ := cg1 (fun (x_0 : Bool) => (.bool x_0 : Value)) e0
    exact ⟨ev_, H2.below⟩
/- eyewitness/eyewitnessref03.Equal -/
set_option maxRecDepth 100000 in
set_option maxHeartbeats 1600000 in
theorem ref03_Equal {M : Nat → Prop} {w : World} {an : Int} {a_ar : Option Addr} {c_ar : Nat} {ar : List (List (BitVec 64))} {bn : Int} {a_br : Option Addr} {c_br : Nat} {br : List (List (BitVec 64))} (hM : ∀ b, M b → b < w.heap.size) (h_an : I64 an) (h_ar : RV M w (.slice a_ar ar.length c_ar) ar) (h_bn : I64 bn) (h_br : RV M w (.slice a_br br.length c_br) br) : Calls Try.prog 31 #[.agg #[.int .i64 an, .slice a_ar ar.length c_ar], .agg #[.int .i64 bn, .slice a_br br.length c_br]] w (Ret fun v w' =>  v = .bool (eqM an ar bn br) ∧ Ext w w') := by
  refine enter 39 Try.func31 rfl rfl rfl fun f0 ha => ?_
  have H := HI.start (M0 := M) (w := w) hM
  have H0 := H.put (it := imm (.slice a_ar ar.length c_ar) ar) rfl (by rw [MS_nil]; exact h_ar)
  have H1 := H0.put (it := imm (.slice a_br br.length c_br) br) rfl (by rw [MS_cons_none rfl, MS_nil]; exact h_br)
  have ln_ar := rv_len h_ar
  have ln_br := rv_len h_br
  have i0 : f0 0 = .agg #[.int .i64 an, .slice a_ar ar.length c_ar] := ha 0 (by simp)
  have i1 : f0 1 = .agg #[.int .i64 bn, .slice a_br br.length c_br] := ha 1 (by simp)
  refine sq (rg (k (bx H1 rfl i0 ?_)))
  intro bb0 w0 xt0 (H2 : HI M w w0 [box bb0 #[.int .i64 an, .slice a_ar ar.length c_ar] 53, imm (.slice a_br br.length c_br) br, imm (.slice a_ar ar.length c_ar) ar])
  refine k (bx H2 rfl i1 ?_)
  intro bb1 w1 xt1 (H3 : HI M w w1 [box bb1 #[.int .i64 bn, .slice a_br br.length c_br] 53, box bb0 #[.int .i64 an, .slice a_ar ar.length c_ar] 53, imm (.slice a_br br.length c_br) br, imm (.slice a_ar ar.length c_ar) ar])
  refine k (asg (v := .bool false) rfl rfl (z (nx (sq (sq (rg (k (fa fl53_0 rfl rfl (k (ldX H3 1 rfl ty3 rfl rfl (by decide) rfl (k (fa fl53_0 rfl rfl (k (ldX H3 0 rfl ty3 rfl rfl (by decide) rfl (k (neq rfl rfl rfl rfl (k (mv (v := .bool (!decide (an = bn))) rfl rfl ?_))))))))))))))))))
  rcases Bool.eq_false_or_eq_true (!decide (an = bn)) with b0 | b0
  · -- !decide (an = bn) is True
    have p0 := of_decide_eq_false (nott b0)
    refine k (gn rfl rfl rfl b0 (k (gn rfl rfl rfl b0 (k (gn rfl rfl rfl b0 (k (gn rfl rfl rfl b0 (k (gn rfl rfl rfl b0 (k (gn rfl rfl rfl b0 (k (gn rfl rfl rfl b0 (k (pickT rfl rfl rfl rfl b0 rfl (z (nx (cdT rfl rfl rfl (sq (rg (k (asg (v := .bool false) rfl rfl (z (nx (rt (then_ret (r1 rfl rfl ?_)))))))))))))))))))))))))))
    have e0 : (false : Bool) = eqM an ar bn br := by first | exact eqM_no (by rintro ⟨e1, e2⟩; first | omega | (subst e2; omega)) | exact eqM_no (by rintro ⟨e1, e2⟩; exact ne_of_at hx0 hx1 (by first | assumption | simpa using b3) e2) | exact eqM_yes (by omega) (eq_of_take (by omega) hs (by omega))
    have ev_ := cg1 (fun (x_0 : Bool) => (.bool x_0 : Value)) e0
    exact ⟨ev_, H3.below⟩
  · -- !decide (an = bn) is False
    have p0 := of_decide_eq_true (notf b0)
    refine k (gy rfl rfl rfl b0 (fa fl53_1 rfl rfl (k (gy rfl rfl rfl b0 (ldX H3 1 rfl ty51 rfl rfl (by decide) rfl (k (gy rfl rfl rfl b0 (lnS rfl rfl un51 (k (gy rfl rfl rfl b0 (fa fl53_1 rfl rfl (k (gy rfl rfl rfl b0 (ldX H3 0 rfl ty51 rfl rfl (by decide) rfl (k (gy rfl rfl rfl b0 (lnS rfl rfl un51 (k (gy rfl rfl rfl b0 (neq rfl rfl rfl rfl (k (pickF rfl rfl rfl rfl b0 rfl (z (nx ?_))))))))))))))))))))))))
    refine cd (b := !decide ((ar.length : Int) = (br.length : Int))) rfl rfl (fun b1 => ?_) (fun b1 => ?_)
    ·
      have p1 := of_decide_eq_false (nott b1)
      refine sq (rg (k (asg (v := .bool false) rfl rfl (z (nx (rt (then_ret (r1 rfl rfl ?_))))))))
      have e0 : (false : Bool) = eqM an ar bn br := by first | exact eqM_no (by rintro ⟨e1, e2⟩; first | omega | (subst e2; omega)) | exact eqM_no (by rintro ⟨e1, e2⟩; exact ne_of_at hx0 hx1 (by first | assumption | simpa using b3) e2) | exact eqM_yes (by omega) (eq_of_take (by omega) hs (by omega))
      have ev_ := cg1 (fun (x_0 : Bool) => (.bool x_0 : Value)) e0
      exact ⟨ev_, H3.below⟩
    ·
      have p1 := of_decide_eq_true (notf b1)
      refine sk (nx (sq (sq (rg (k (asg (v := .int .i64 0) rfl rfl (z (nx (bk ?_)))))))))
      refine lp (fun m f w' => ∃ (j : Nat), m = ar.length - j ∧ f 2 = .pointer (some ⟨bb0, 0, none⟩) ∧ f 3 = .pointer (some ⟨bb1, 0, none⟩) ∧ f 5 = .int .i64 (j : Int) ∧  HI M w w' [box bb1 #[.int .i64 bn, .slice a_br br.length c_br] 53, box bb0 #[.int .i64 an, .slice a_ar ar.length c_ar] 53, imm (.slice a_br br.length c_br) br, imm (.slice a_ar ar.length c_ar) ar] ∧ (j ≤ ar.length) ∧ (ar.take j = br.take j)) _ ⟨0, rfl, rfl, rfl, (ieq rfl (by first | rfl | omega | simp)), H3, (by first | assumption | omega | simp | (simp; omega)), (by first | assumption | omega | simp | (simp; omega))⟩ ?_
      rintro _ f0 w2 ⟨j, rfl, s0, s1, s2, H4, hk, hs⟩
      refine sq (sq (rg (k (mv rfl s2 (k (fa fl53_1 rfl s0 (k (ldX H4 1 rfl ty51 rfl rfl (by decide) rfl (k (lnS rfl rfl un51 (k (lss rfl rfl rfl rfl (z (nx ?_))))))))))))))
      refine cd (b := decide ((j : Int) < (ar.length : Int))) rfl rfl (fun b2 => ?_) (fun b2 => ?_)
      ·
        have p2 := of_decide_eq_true b2
        refine sk (nx (sq (bk (sq ?_))))
        obtain ⟨x0, hx0⟩ : ∃ x, ar[(j : Int).toNat]? = some x := ⟨_, List.getElem?_eq_getElem (by first | omega | (simp; omega))⟩
        obtain ⟨x1, hx1⟩ : ∃ x, br[(j : Int).toNat]? = some x := ⟨_, List.getElem?_eq_getElem (by first | omega | (simp; omega))⟩
        refine dr 10 [fun (v : Value) (w' : World) => v = .pointer (some ⟨bb0, 1, none⟩), fun (v : Value) (w' : World) => v = .slice a_ar ar.length c_ar, fun (v : Value) (w' : World) => v = .int .i64 (j : Int), fun (v : Value) (w' : World) => ∃ (ad0 : Addr), v = .pointer (some ad0) ∧ At (MS M [box bb1 #[.int .i64 bn, .slice a_br br.length c_br] 53, box bb0 #[.int .i64 an, .slice a_ar ar.length c_ar] 53, imm (.slice a_br br.length c_br) br, imm (.slice a_ar ar.length c_ar) ar]) w' ad0 x0, fun (v : Value) (w' : World) => ∃ (a0 : Option Addr) (c0 : Nat), v = .slice a0 x0.length c0 ∧ RV (MS M [box bb1 #[.int .i64 bn, .slice a_br br.length c_br] 53, box bb0 #[.int .i64 an, .slice a_ar ar.length c_ar] 53, imm (.slice a_br br.length c_br) br, imm (.slice a_ar ar.length c_ar) ar]) w' (.slice a0 x0.length c0) x0, fun (v : Value) (w' : World) => v = .pointer (some ⟨bb1, 1, none⟩), fun (v : Value) (w' : World) => v = .slice a_br br.length c_br, fun (v : Value) (w' : World) => v = .int .i64 (j : Int), fun (v : Value) (w' : World) => ∃ (ad1 : Addr), v = .pointer (some ad1) ∧ At (MS M [box bb1 #[.int .i64 bn, .slice a_br br.length c_br] 53, box bb0 #[.int .i64 an, .slice a_ar ar.length c_ar] 53, imm (.slice a_br br.length c_br) br, imm (.slice a_ar ar.length c_ar) ar]) w' ad1 x1, fun (v : Value) (w' : World) => ∃ (a1 : Option Addr) (c1 : Nat), v = .slice a1 x1.length c1 ∧ RV (MS M [box bb1 #[.int .i64 bn, .slice a_br br.length c_br] 53, box bb0 #[.int .i64 an, .slice a_ar ar.length c_ar] 53, imm (.slice a_br br.length c_br) br, imm (.slice a_ar ar.length c_ar) ar]) w' (.slice a1 x1.length c1) x1] rfl (by kernel_rfl) ?_ ?_
        ·
          refine ⟨fun _ => ⟨fun f1 w3 hf0 xt2 hp0 => ?_, fun _ _ _ _ h => h⟩, ?_⟩
          ·
            have H7 := H4.ext xt2
            refine fa fl53_1 rfl ((hf0 2 rfl).trans s0) ?_
            exact ⟨_, rfl, Ext.refl _, rfl⟩
          refine ⟨fun _ => ⟨fun f2 w4 hf1 xt3 hp1 => ?_, fun _ _ _ _ h => h⟩, ?_⟩
          ·
            have H8 := H4.ext xt3
            have s3 : f2 27 = .pointer (some ⟨bb0, 1, none⟩) := hp1 0 rfl rfl
            refine ldX H8 1 rfl ty51 rfl s3 (by decide) rfl ?_
            exact ⟨_, rfl, Ext.refl _, rfl⟩
          refine ⟨fun _ => ⟨fun f3 w5 hf2 xt4 hp2 => ?_, fun _ _ _ _ h => h⟩, ?_⟩
          ·
            have H9 := H4.ext xt4
            refine mv rfl ((hf2 5 rfl).trans s2) ?_
            exact ⟨_, rfl, Ext.refl _, rfl⟩
          refine ⟨fun _ => ⟨fun f4 w6 hf3 xt5 hp3 => ?_, by rintro _ _ _ x_ ⟨ad0, e_, hA0⟩; exact ⟨ad0, e_, hA0.lift (Up.ext x_)⟩⟩, ?_⟩
          ·
            have H10 := H4.ext xt5
            have s4 : f4 28 = .slice a_ar ar.length c_ar := hp3 1 rfl rfl
            have s5 : f4 29 = .int .i64 (j : Int) := hp3 2 rfl rfl
            refine ia (H10.rv 3 rfl) rfl rfl s4 s5 (by first | omega | (simp; omega)) un51 ty79 ?_
            intro ad2 x2 hx2 hA2
            obtain rfl : x0 = x2 := Option.some.inj (hx0.symm.trans hx2)
            exact ⟨_, rfl, Ext.refl _, ⟨ad2, rfl, hA2⟩⟩
          refine ⟨fun _ => ⟨fun f5 w7 hf4 xt6 hp4 => ?_, by rintro _ _ _ x_ ⟨a0, c0, e_, rv0⟩; exact ⟨a0, c0, e_, rv0.lift (Up.ext x_)⟩⟩, ?_⟩
          ·
            have H11 := H4.ext xt6
            obtain ⟨ad3, s6, hA3⟩ : ∃ (ad3 : Addr), f5 30 = .pointer (some ad3) ∧ At (MS M [box bb1 #[.int .i64 bn, .slice a_br br.length c_br] 53, box bb0 #[.int .i64 an, .slice a_ar ar.length c_ar] 53, imm (.slice a_br br.length c_br) br, imm (.slice a_ar ar.length c_ar) ar]) w7 ad3 x0 := hp4 3 rfl rfl
            have H12 := H11.put (it := atI ad3 x0) rfl hA3
            refine ldL (H12.atv 0 rfl).w ty79 rfl s6 ?_
            intro a2 c2 rv2
            have ln2 := rv_len rv2
            have H13 := H12.put (it := imm (.slice a2 x0.length c2) x0) rfl rv2
            exact ⟨_, rfl, Ext.refl _, ⟨a2, c2, rfl, (rv_drop rfl rv2)⟩⟩
          refine ⟨fun _ => ⟨fun f6 w8 hf5 xt7 hp5 => ?_, fun _ _ _ _ h => h⟩, ?_⟩
          ·
            have H14 := H4.ext xt7
            refine fa fl53_1 rfl ((hf5 3 rfl).trans s1) ?_
            exact ⟨_, rfl, Ext.refl _, rfl⟩
          refine ⟨fun _ => ⟨fun f7 w9 hf6 xt8 hp6 => ?_, fun _ _ _ _ h => h⟩, ?_⟩
          ·
            have H15 := H4.ext xt8
            have s7 : f7 32 = .pointer (some ⟨bb1, 1, none⟩) := hp6 5 rfl rfl
            refine ldX H15 0 rfl ty51 rfl s7 (by decide) rfl ?_
            exact ⟨_, rfl, Ext.refl _, rfl⟩
          refine ⟨fun _ => ⟨fun f8 w10 hf7 xt9 hp7 => ?_, fun _ _ _ _ h => h⟩, ?_⟩
          ·
            have H16 := H4.ext xt9
            refine mv rfl ((hf7 5 rfl).trans s2) ?_
            exact ⟨_, rfl, Ext.refl _, rfl⟩
          refine ⟨fun _ => ⟨fun f9 w11 hf8 xt10 hp8 => ?_, by rintro _ _ _ x_ ⟨ad1, e_, hA1⟩; exact ⟨ad1, e_, hA1.lift (Up.ext x_)⟩⟩, ?_⟩
          ·
            have H17 := H4.ext xt10
            have s8 : f9 33 = .slice a_br br.length c_br := hp8 6 rfl rfl
            have s9 : f9 34 = .int .i64 (j : Int) := hp8 7 rfl rfl
            refine ia (H17.rv 2 rfl) rfl rfl s8 s9 (by first | omega | (simp; omega)) un51 ty79 ?_
            intro ad4 x3 hx3 hA4
            obtain rfl : x1 = x3 := Option.some.inj (hx1.symm.trans hx3)
            exact ⟨_, rfl, Ext.refl _, ⟨ad4, rfl, hA4⟩⟩
          refine ⟨fun _ => ⟨fun f10 w12 hf9 xt11 hp9 => ?_, by rintro _ _ _ x_ ⟨a1, c1, e_, rv1⟩; exact ⟨a1, c1, e_, rv1.lift (Up.ext x_)⟩⟩, ?_⟩
          ·
            have H18 := H4.ext xt11
            obtain ⟨ad5, s10, hA5⟩ : ∃ (ad5 : Addr), f10 35 = .pointer (some ad5) ∧ At (MS M [box bb1 #[.int .i64 bn, .slice a_br br.length c_br] 53, box bb0 #[.int .i64 an, .slice a_ar ar.length c_ar] 53, imm (.slice a_br br.length c_br) br, imm (.slice a_ar ar.length c_ar) ar]) w12 ad5 x1 := hp9 8 rfl rfl
            have H19 := H18.put (it := atI ad5 x1) rfl hA5
            refine ldL (H19.atv 0 rfl).w ty79 rfl s10 ?_
            intro a3 c3 rv3
            have ln3 := rv_len rv3
            have H20 := H19.put (it := imm (.slice a3 x1.length c3) x1) rfl rv3
            exact ⟨_, rfl, Ext.refl _, ⟨a3, c3, rfl, (rv_drop rfl rv3)⟩⟩
          exact DSteps.rest rfl _
        · intro f11 w13 hf10 xt12 hp10
          have H21 := H4.ext xt12
          have s11 : f11 2 = .pointer (some ⟨bb0, 0, none⟩) := (hf10 2 rfl).trans s0
          have s12 : f11 3 = .pointer (some ⟨bb1, 0, none⟩) := (hf10 3 rfl).trans s1
          have s13 : f11 5 = .int .i64 (j : Int) := (hf10 5 rfl).trans s2
          obtain ⟨a4, c4, s14, rv4⟩ : ∃ (a4 : Option Addr) (c4 : Nat), f11 31 = .slice a4 x0.length c4 ∧ RV (MS M [box bb1 #[.int .i64 bn, .slice a_br br.length c_br] 53, box bb0 #[.int .i64 an, .slice a_ar ar.length c_ar] 53, imm (.slice a_br br.length c_br) br, imm (.slice a_ar ar.length c_ar) ar]) w13 (.slice a4 x0.length c4) x0 := hp10 4 rfl
          have H22 := H21.put (it := imm (.slice a4 x0.length c4) x0) rfl rv4
          obtain ⟨a5, c5, s15, rv5⟩ : ∃ (a5 : Option Addr) (c5 : Nat), f11 36 = .slice a5 x1.length c5 ∧ RV (MS M [box bb1 #[.int .i64 bn, .slice a_br br.length c_br] 53, box bb0 #[.int .i64 an, .slice a_ar ar.length c_ar] 53, imm (.slice a_br br.length c_br) br, imm (.slice a_ar ar.length c_ar) ar]) w13 (.slice a5 x1.length c5) x1 := hp10 9 rfl
          have H23 := H22.put (it := imm (.slice a5 x1.length c5) x1) rfl (by rw [MS_cons_none rfl]; exact rv5)
          refine k ?_
          have cc0 := ref02_Same (a := x0) (b := x1) (w := w13) H23.mb (H23.rv 1 rfl) (H23.rv 0 rfl)
          refine ca go54 rfl (ec s14 (ec s15 e0)) cc0 ?_
          rintro _ w14 ⟨rfl, xt13⟩
          have H24 := H23.ext xt13
          refine k (not_ rfl rfl (z (nx ?_)))
          refine cd (b := !(decide (x0 = x1))) rfl rfl (fun b3 => ?_) (fun b3 => ?_)
          ·
            have p3 := of_decide_eq_false (nott b3)
            refine sq (rg (k (asg (v := .bool false) rfl rfl (z (nx (rt (inb_ret (then_ret (loop_ret (inb_ret (then_ret (r1 rfl rfl ?_))))))))))))
            have e0 : (false : Bool) = eqM an ar bn br := by first | exact eqM_no (by rintro ⟨e1, e2⟩; first | omega | (subst e2; omega)) | exact eqM_no (by rintro ⟨e1, e2⟩; exact ne_of_at hx0 hx1 (by first | assumption | simpa using b3) e2) | exact eqM_yes (by omega) (eq_of_take (by omega) hs (by omega))
            have ev_ := cg1 (fun (x_0 : Bool) => (.bool x_0 : Value)) e0
            exact ⟨ev_, H24.below⟩
          ·
            have p3 := of_decide_eq_true (notf b3)
            refine sk (inb_normal (nx (rg (k (mv rfl s13 (k (add rfl rfl rfl rfl (by unfold I64 at *; omega) (k (asg (v := .int .i64 ((j : Int) + 1)) rfl rfl (z ?_))))))))))
            have H25 : HI M w w14 [box bb1 #[.int .i64 bn, .slice a_br br.length c_br] 53, box bb0 #[.int .i64 an, .slice a_ar ar.length c_ar] 53, imm (.slice a_br br.length c_br) br, imm (.slice a_ar ar.length c_ar) ar] := H24.pickN [2, 3, 4, 5] (by decide) rfl
            refine loopN _ ?_ ⟨(j + 1), rfl, s11, s12, (ieq rfl (by first | rfl | omega | (push_cast; omega))), H25, (by first | assumption | omega | simp | (simp; omega)), (by exact take_eq_step hs hx0 hx1 (by first | assumption | simpa using b3))⟩
            omega
      ·
        have p2 := of_decide_eq_false b2
        refine ex (then_exit (loop_exit (inb_here (nx (sq (rg (k (asg (v := .bool true) rfl rfl (z (nx (rt (r1 rfl rfl ?_))))))))))))
        have e0 : (true : Bool) = eqM an ar bn br := by first | exact eqM_no (by rintro ⟨e1, e2⟩; first | omega | (subst e2; omega)) | exact eqM_no (by rintro ⟨e1, e2⟩; exact ne_of_at hx0 hx1 (by first | assumption | simpa using b3) e2) | exact eqM_yes (by omega) (eq_of_take (by omega) hs (by omega))
        have ev_ := cg1 (fun (x_0 : Bool) => (.bool x_0 : Value)) e0
        exact ⟨ev_, H4.below⟩
end Go.Proofs.Ytmliihgaoaolmaa
