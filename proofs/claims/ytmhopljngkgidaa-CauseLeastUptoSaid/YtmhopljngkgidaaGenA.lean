/- PRINTED by my own tool (wip/tool/gen.py): contracts of Go functions of this seat, each with its proof. -/
import Derived.Test.YtmhopljngkgidaaProg
import Derived.Test.YtmhopljngkgidaaOwnB
import Derived.Test.YtmhopljngkgidaaOwnA
namespace Go.Proofs.Ytmhopljngkgidaa
open Go.Ew Go.RowKit
set_option linter.unusedVariables false
set_option linter.unusedSimpArgs false
attribute [local irreducible] WL WC SO Code.wp wpList retQ Ret
attribute [local irreducible] bitB hasW inR hasR setR countW countR subR words newR listR orR firstW tab8
theorem un77 : Try.prog.underlying 77 = some (.int .u64) := by kernel_rfl
theorem un3 : Try.prog.underlying 3 = some (.int .i64) := by kernel_rfl
theorem go50 : GoF Try.prog 50 := ⟨_, _, Try.func50, rfl, by kernel_rfl⟩
theorem un60 : Try.prog.underlying 60 = some (.slice 74) := by kernel_rfl
theorem go49 : GoF Try.prog 49 := ⟨_, _, Try.func49, rfl, by kernel_rfl⟩
theorem ty74 : TyF Try.prog 74 1 false 8 (.int .u64 0) := ⟨by kernel_rfl, by kernel_rfl⟩
theorem go62 : GoF Try.prog 62 := ⟨_, _, Try.func62, rfl, by kernel_rfl⟩
theorem go48 : GoF Try.prog 48 := ⟨_, _, Try.func48, rfl, by kernel_rfl⟩
theorem go61 : GoF Try.prog 61 := ⟨_, _, Try.func61, rfl, by kernel_rfl⟩
theorem go59 : GoF Try.prog 59 := ⟨_, _, Try.func59, rfl, by kernel_rfl⟩
theorem go36 : GoF Try.prog 36 := ⟨_, _, Try.func36, rfl, by kernel_rfl⟩
theorem go57 : GoF Try.prog 57 := ⟨_, _, Try.func57, rfl, by kernel_rfl⟩
theorem go37 : GoF Try.prog 37 := ⟨_, _, Try.func37, rfl, by kernel_rfl⟩
theorem un27 : Try.prog.underlying 27 = some (.slice 3) := by kernel_rfl
theorem ty3 : TyF Try.prog 3 1 false 8 (.int .i64 0) := ⟨by kernel_rfl, by kernel_rfl⟩
theorem go58 : GoF Try.prog 58 := ⟨_, _, Try.func58, rfl, by kernel_rfl⟩
/- eyewitness/word.Bit -/
set_option maxRecDepth 100000 in
set_option maxHeartbeats 1600000 in
theorem word_Bit {w : World} {i : Int} (h_i : I64 i) : Calls Try.prog 50 #[.int .i64 i] w (Ret fun v w' =>  v = U (bitB i) ∧ Ext w w') := by
  refine enter 9 Try.func50 rfl rfl rfl fun f0 ha => ?_
  have H := HI.start (M0 := (fun _ => False)) (w := w) (fun _ h => h.elim)
  have i0 : f0 0 = .int .i64 i := ha 0 (by simp)
  refine sq (rg (k (asg (v := U (0#64)) rfl rfl (z (nx (sq (sq (rg (k (mv rfl i0 (k (cvU rfl rfl un3 un77 (k (gtU (BitVec.ofInt 64 i) (63#64) rfl rfl rfl rfl (z (nx ?_))))))))))))))))
  refine cd (b := decide ((63#64).toNat < (BitVec.ofInt 64 i).toNat)) rfl rfl (fun b0 => ?_) (fun b0 => ?_)
  ·
    have p0 := of_decide_eq_true b0
    refine sq (rg (k (asg (v := U (0#64)) rfl rfl (z (nx (rt (then_ret (r1 rfl rfl ?_))))))))
    have e0 : (0#64 : BitVec 64) = bitB i := by exact bitB_hi h_i p0
    have ev_ := cg1 (fun (x_0 : BitVec 64) => (U x_0 : Value)) e0
    exact ⟨ev_, H.below⟩
  ·
    have p0 := of_decide_eq_false b0
    refine sk (nx (sq (rg (k (mv rfl i0 (k (cvU rfl rfl un3 un77 (k (shlU (1#64) ((BitVec.ofInt 64 i).toNat : Int) (by omega) rfl rfl rfl rfl (k (asg (v := U ((1#64) <<< ((BitVec.ofInt 64 i).toNat : Int).toNat)) rfl rfl (z (nx (rt (r1 rfl rfl ?_)))))))))))))))
    have e0 : ((1#64) <<< ((BitVec.ofInt 64 i).toNat : Int).toNat : BitVec 64) = bitB i := by exact bitB_lo h_i p0
    have ev_ := cg1 (fun (x_0 : BitVec 64) => (U x_0 : Value)) e0
    exact ⟨ev_, H.below⟩
/- eyewitness/word.Has -/
set_option maxRecDepth 100000 in
set_option maxHeartbeats 1600000 in
theorem word_Has {w : World} {x : BitVec 64} {i : Int} (h_i : I64 i) : Calls Try.prog 62 #[U x, .int .i64 i] w (Ret fun v w' =>  v = .bool (hasW x i) ∧ Ext w w') := by
  refine enter 10 Try.func62 rfl rfl rfl fun f0 ha => ?_
  have H := HI.start (M0 := (fun _ => False)) (w := w) (fun _ h => h.elim)
  have i0 : f0 0 = U x := ha 0 (by simp)
  have i1 : f0 1 = .int .i64 i := ha 1 (by simp)
  refine sq (rg (k (asg (v := .bool false) rfl rfl (z (nx (sq (rg (k (mv rfl i0 (k (mv rfl i1 (k ?_))))))))))))
  have cc0 := word_Bit (i := i) (w := w) (by unfold I64 at *; omega)
  refine ca go50 rfl (ec rfl e0) cc0 ?_
  rintro _ w0 ⟨rfl, xt0⟩
  have H0 := H.ext xt0
  refine k (andU x (bitB i) rfl rfl rfl rfl (k (neU (x &&& (bitB i)) (0#64) rfl rfl rfl rfl (k (asg (v := .bool (!decide ((x &&& (bitB i)) = (0#64)))) rfl rfl (z (nx (rt (r1 rfl rfl ?_)))))))))
  have e0 : (!decide ((x &&& (bitB i)) = (0#64)) : Bool) = hasW x i := by exact hasW_eq _ _
  have ev_ := cg1 (fun (x_0 : Bool) => (.bool x_0 : Value)) e0
  exact ⟨ev_, H0.below⟩
/- eyewitness/row.in -/
set_option maxRecDepth 100000 in
set_option maxHeartbeats 1600000 in
theorem row_in {M : Nat → Prop} {w : World} {a_r : Option Addr} {c_r : Nat} {r : List (BitVec 64)} {i : Int} (hM : ∀ b, M b → b < w.heap.size) (h_r : RV M w (.slice a_r r.length c_r) r) (h_i : I64 i) : Calls Try.prog 49 #[.slice a_r r.length c_r, .int .i64 i] w (Ret fun v w' =>  v = .bool (inR r i) ∧ Ext w w') := by
  refine enter 14 Try.func49 rfl rfl rfl fun f0 ha => ?_
  have H := HI.start (M0 := M) (w := w) hM
  have H0 := H.put (it := imm (.slice a_r r.length c_r) r) rfl (by rw [MS_nil]; exact h_r)
  have ln_r := rv_len h_r
  have i0 : f0 0 = .slice a_r r.length c_r := ha 0 (by simp)
  have i1 : f0 1 = .int .i64 i := ha 1 (by simp)
  refine sq (rg (k (asg (v := .bool false) rfl rfl (z (nx (sq (rg (k (mv rfl i1 (k (geq rfl rfl rfl rfl (k (mv (v := .bool (decide (0 ≤ i))) rfl rfl ?_)))))))))))))
  rcases Bool.eq_false_or_eq_true (decide (0 ≤ i)) with b0 | b0
  · -- decide (0 ≤ i) is True
    have p0 := of_decide_eq_true b0
    refine k (gy rfl rfl rfl b0 (mv rfl i1 (k (gy rfl rfl rfl b0 (shrI rfl rfl rfl rfl (k (gy rfl rfl rfl b0 (mv rfl i0 (k (gy rfl rfl rfl b0 (lnS rfl rfl un60 (k (gy rfl rfl rfl b0 (lss rfl rfl rfl rfl (k (pickT rfl rfl rfl rfl b0 rfl (k (asg (v := .bool (decide ((i / 64) < (r.length : Int)))) rfl rfl (z (nx (rt (r1 rfl rfl ?_))))))))))))))))))))))
    have e0 : (decide ((i / 64) < (r.length : Int)) : Bool) = inR r i := by exact inR_yes p0
    have ev_ := cg1 (fun (x_0 : Bool) => (.bool x_0 : Value)) e0
    exact ⟨ev_, H0.below⟩
  · -- decide (0 ≤ i) is False
    have p0 := of_decide_eq_false b0
    refine k (gn rfl rfl rfl b0 (k (gn rfl rfl rfl b0 (k (gn rfl rfl rfl b0 (k (gn rfl rfl rfl b0 (k (gn rfl rfl rfl b0 (k (pickF rfl rfl rfl rfl b0 rfl (k (asg (v := .bool false) rfl rfl (z (nx (rt (r1 rfl rfl ?_)))))))))))))))))
    have e0 : (false : Bool) = inR r i := by exact inR_no (by omega)
    have ev_ := cg1 (fun (x_0 : Bool) => (.bool x_0 : Value)) e0
    exact ⟨ev_, H0.below⟩
/- eyewitness/row.Has -/
set_option maxRecDepth 100000 in
set_option maxHeartbeats 1600000 in
theorem row_Has {M : Nat → Prop} {w : World} {a_r : Option Addr} {c_r : Nat} {r : List (BitVec 64)} {i : Int} (hM : ∀ b, M b → b < w.heap.size) (h_r : RV M w (.slice a_r r.length c_r) r) (h_i : I64 i) : Calls Try.prog 55 #[.slice a_r r.length c_r, .int .i64 i] w (Ret fun v w' =>  v = .bool (hasR r i) ∧ Ext w w') := by
  refine enter 18 Try.func55 rfl rfl rfl fun f0 ha => ?_
  have H := HI.start (M0 := M) (w := w) hM
  have H0 := H.put (it := imm (.slice a_r r.length c_r) r) rfl (by rw [MS_nil]; exact h_r)
  have ln_r := rv_len h_r
  have i0 : f0 0 = .slice a_r r.length c_r := ha 0 (by simp)
  have i1 : f0 1 = .int .i64 i := ha 1 (by simp)
  refine sq (rg (k (asg (v := .bool false) rfl rfl (z (nx (sq (rg (k (mv rfl i0 (k (mv rfl i1 (k ?_))))))))))))
  have cc0 := row_in (r := r) (i := i) (w := w) H0.mb (H0.rv 0 rfl) (by unfold I64 at *; omega)
  refine ca go49 rfl (ec rfl (ec rfl e0)) cc0 ?_
  rintro _ w0 ⟨rfl, xt0⟩
  have H1 := H0.ext xt0
  refine k (mv (v := .bool (inR r i)) rfl rfl ?_)
  rcases Bool.eq_false_or_eq_true (inR r i) with b0 | b0
  · -- inR r i is True
    refine k (gy rfl rfl rfl b0 (mv rfl i0 (k (gy rfl rfl rfl b0 (mv rfl i1 (k (gy rfl rfl rfl b0 (shrI rfl rfl rfl rfl (k (gy rfl rfl rfl b0 (ia (H1.rv 0 rfl) rfl rfl rfl rfl (by have hb := b0; unfold inR at hb; simp only [decide_eq_true_eq] at hb; omega) un60 ty74 ?_)))))))))))
    intro ad0 x0 hx0 hA0
    refine k (gy rfl rfl rfl b0 (ldU hA0.w ty74 rfl rfl (k (gy rfl rfl rfl b0 (mv rfl i1 (k (gy rfl rfl rfl b0 (and63 rfl rfl rfl rfl (k (gy rfl rfl rfl b0 ?_))))))))))
    have cc1 := word_Has (x := x0) (i := (i % 64)) (w := w0) (by unfold I64 at *; omega)
    refine ca go62 rfl (ec rfl (ec rfl e0)) cc1 ?_
    rintro _ w1 ⟨rfl, xt1⟩
    have H2 := H1.ext xt1
    refine k (pickT rfl rfl rfl rfl b0 rfl (k (asg (v := .bool (hasW x0 (i % 64))) rfl rfl (z (nx (rt (r1 rfl rfl ?_)))))))
    have e0 : (hasW x0 (i % 64) : Bool) = hasR r i := by exact hasR_in b0 hx0
    have ev_ := cg1 (fun (x_0 : Bool) => (.bool x_0 : Value)) e0
    exact ⟨ev_, H2.below⟩
  · -- inR r i is False
    refine k (gn rfl rfl rfl b0 (k (gn rfl rfl rfl b0 (k (gn rfl rfl rfl b0 (k (gn rfl rfl rfl b0 (k (gn rfl rfl rfl b0 (k (gn rfl rfl rfl b0 (k (gn rfl rfl rfl b0 (k (gn rfl rfl rfl b0 (k (pickF rfl rfl rfl rfl b0 rfl (k (asg (v := .bool false) rfl rfl (z (nx (rt (r1 rfl rfl ?_)))))))))))))))))))))))
    have e0 : (false : Bool) = hasR r i := by exact hasR_out b0
    have ev_ := cg1 (fun (x_0 : Bool) => (.bool x_0 : Value)) e0
    exact ⟨ev_, H1.below⟩
/- slices.Clone[[]uint64,uint64] -/
set_option maxRecDepth 100000 in
set_option maxHeartbeats 1600000 in
theorem clone_u64 {M : Nat → Prop} {w : World} {a_r : Option Addr} {c_r : Nat} {r : List (BitVec 64)} (hM : ∀ b, M b → b < w.heap.size) (h_r : RV M w (.slice a_r r.length c_r) r) (hl_r : r.length ≤ 1000000000) : Calls Try.prog 48 #[.slice a_r r.length c_r] w (Ret fun v w' => ∃ (a0 : Option Addr) (c0 : Nat), v = .slice a0 r.length c0 ∧ Ext w w' ∧ OwnsG M 74 w r (.slice a0 r.length c0) w') := by
  refine enter 8 Try.func48 rfl rfl rfl fun f0 ha => ?_
  have H := HI.start (M0 := M) (w := w) hM
  have H0 := H.put (it := imm (.slice a_r r.length c_r) r) rfl (by rw [MS_nil]; exact h_r)
  have ln_r := rv_len h_r
  have i0 : f0 0 = .slice a_r r.length c_r := ha 0 (by simp)
  refine sq (rg (k (asg (v := .slice none 0 0) rfl rfl (z (nx (sq (sq (rg (k (mv rfl i0 (k (eqN rfl rfl rfl rfl un60 (z (nx ?_))))))))))))))
  refine cd (b := a_r.isNone) rfl rfl (fun b0 => ?_) (fun b0 => ?_)
  ·
    refine sq (rg (k (asg (v := .slice none 0 0) rfl rfl (z (nx (rt (then_ret (r1 rfl rfl ?_))))))))
    have e0 : ([] : List (BitVec 64)) = r := by exact (rv_none h_r b0).symm
    have ev_ := cg1 (fun (x_0 : List (BitVec 64)) => (.slice none x_0.length 0 : Value)) e0
    exact ⟨none, 0, ev_, H0.below, (congrArg (fun (x_ : List (BitVec 64)) => OwnsG _ _ _ x_ (.slice none x_.length 0) _) e0).mp (ownsG_nil H0.below)⟩
  ·
    refine sk (nx (sq (rg (k (bs (xs := ([] : List (BitVec 64))) (cells := #[]) (e := 74) H0 rfl pb0 (fun _ => by kernel_rfl) rfl rfl (by unfold maxLen; omega) ?_)))))
    intro g0 w0 xt0 (H1 : HI M w w0 [own w.heap.size 74 (.slice (some ⟨g0, 0, none⟩) 0 0) ([] : List (BitVec 64)), imm (.slice a_r r.length c_r) r])
    refine k (mv rfl i0 (k (ap H1 0 rfl rfl rfl rfl rfl rfl (H1.rv 1 rfl).src un60 ty74 rfl (by first | omega | (simp; omega)) (by first | omega | (simp; omega)) ?_)))
    intro a0 c0 w1 (H2 : HI M w w1 [own w.heap.size 74 (.slice a0 r.length c0) r, imm (.slice a_r r.length c_r) r])
    refine k (asg (v := .slice a0 r.length c0) rfl rfl (z (nx (rt (r1 rfl rfl ?_)))))
    exact ⟨a0, c0, rfl, H2.below, (H2.ownsG_out 0 rfl)⟩
/- eyewitness/row.Set -/
set_option maxRecDepth 100000 in
set_option maxHeartbeats 1600000 in
theorem row_Set {M : Nat → Prop} {w : World} {a_r : Option Addr} {c_r : Nat} {r : List (BitVec 64)} {i : Int} (hM : ∀ b, M b → b < w.heap.size) (h_r : RV M w (.slice a_r r.length c_r) r) (h_i : I64 i) (hl_r : r.length ≤ 1000000000) : Calls Try.prog 30 #[.slice a_r r.length c_r, .int .i64 i] w (Ret fun v w' => ∃ (a0 : Option Addr) (c0 : Nat), v = .slice a0 (setR r i).length c0 ∧ Ext w w' ∧ OwnsG M 74 w (setR r i) (.slice a0 (setR r i).length c0) w') := by
  refine enter 22 Try.func30 rfl rfl rfl fun f0 ha => ?_
  have H := HI.start (M0 := M) (w := w) hM
  have H0 := H.put (it := imm (.slice a_r r.length c_r) r) rfl (by rw [MS_nil]; exact h_r)
  have ln_r := rv_len h_r
  have i0 : f0 0 = .slice a_r r.length c_r := ha 0 (by simp)
  have i1 : f0 1 = .int .i64 i := ha 1 (by simp)
  refine sq (rg (k (asg (v := .slice none 0 0) rfl rfl (z (nx (sq (rg (k (mv rfl i0 (k ?_))))))))))
  have cc0 := clone_u64 (r := r) (w := w) H0.mb (H0.rv 0 rfl) (by first | omega | (simp; omega))
  refine ca go48 rfl (ec rfl e0) cc0 ?_
  rintro _ w0 ⟨a0, c0, rfl, xt0, rv0⟩
  have H1 := H0.ownsG rv0
  refine k (asg (v := .slice a0 r.length c0) rfl rfl (z (nx (sq (sq (rg (k (mv rfl i0 (k (mv rfl i1 (k ?_)))))))))))
  have cc1 := row_in (r := r) (i := i) (w := w0) H1.mb (H1.rv 1 rfl) (by unfold I64 at *; omega)
  refine ca go49 rfl (ec rfl (ec rfl e0)) cc1 ?_
  rintro _ w1 ⟨rfl, xt1⟩
  have H2 := H1.ext xt1
  refine z (nx ?_)
  refine cd (b := inR r i) rfl rfl (fun b0 => ?_) (fun b0 => ?_)
  ·
    obtain ⟨x0, hx0⟩ : ∃ x, r[(i / 64).toNat]? = some x := ⟨_, List.getElem?_eq_getElem (by have hb := b0; unfold inR at hb; simp only [decide_eq_true_eq] at hb; omega)⟩
    refine dr 8 [fun (v : Value) (w' : World) => v = .slice a0 r.length c0, fun (v : Value) (w' : World) => v = .int .i64 i, fun (v : Value) (w' : World) => v = .int .i64 (i / 64), fun (v : Value) (w' : World) => ∃ (g0 : Nat), v = .pointer (some ⟨g0, (i / 64).toNat * 1, none⟩) ∧ (.slice a0 r.length c0 : Value).ownBlock = some g0 ∧ AtW (MS M [own w.heap.size 74 (.slice a0 r.length c0) r, imm (.slice a_r r.length c_r) r]) w' ⟨g0, (i / 64).toNat * 1, none⟩ x0, fun (v : Value) (w' : World) => v = U x0, fun (v : Value) (w' : World) => v = .int .i64 i, fun (v : Value) (w' : World) => v = .int .i64 (i % 64), fun (v : Value) (w' : World) => v = U (bitB (i % 64))] rfl (by kernel_rfl) ?_ ?_
    ·
      refine ⟨fun _ => ⟨fun f0 w3 hf0 xt3 hp0 => ?_, fun _ _ _ _ h => h⟩, ?_⟩
      ·
        have H4 := H2.ext xt3
        refine mv rfl (hf0 5 rfl) ?_
        exact ⟨_, rfl, Ext.refl _, rfl⟩
      refine ⟨fun _ => ⟨fun f1 w4 hf1 xt4 hp1 => ?_, fun _ _ _ _ h => h⟩, ?_⟩
      ·
        have H5 := H2.ext xt4
        refine mv rfl ((hf1 1 rfl).trans i1) ?_
        exact ⟨_, rfl, Ext.refl _, rfl⟩
      refine ⟨fun _ => ⟨fun f2 w5 hf2 xt5 hp2 => ?_, fun _ _ _ _ h => h⟩, ?_⟩
      ·
        have H6 := H2.ext xt5
        have s0 : f2 12 = .int .i64 i := hp2 1 rfl rfl
        refine shrI rfl rfl s0 rfl ?_
        exact ⟨_, rfl, Ext.refl _, rfl⟩
      refine ⟨fun _ => ⟨fun f3 w6 hf3 xt6 hp3 => ?_, by rintro _ _ _ x_ ⟨g0, e_, hv0, hA0⟩; exact ⟨g0, e_, hv0, hA0.ext x_⟩⟩, ?_⟩
      ·
        have H7 := H2.ext xt6
        have s1 : f3 11 = .slice a0 r.length c0 := hp3 0 rfl rfl
        have s2 : f3 13 = .int .i64 (i / 64) := hp3 2 rfl rfl
        refine iaO (H7.at_ 0 rfl) rfl rfl s1 s2 (by have hb := b0; unfold inR at hb; simp only [decide_eq_true_eq] at hb; omega) un60 ty74 ?_
        intro g1 x1 hv1 hx1 hA1
        obtain rfl : x0 = x1 := Option.some.inj (hx0.symm.trans hx1)
        exact ⟨_, rfl, Ext.refl _, ⟨g1, rfl, hv1, hA1⟩⟩
      refine ⟨fun _ => ⟨fun f4 w7 hf4 xt7 hp4 => ?_, fun _ _ _ _ h => h⟩, ?_⟩
      ·
        have H8 := H2.ext xt7
        obtain ⟨g2, s3, hv2, hA2⟩ : ∃ (g2 : Nat), f4 14 = .pointer (some ⟨g2, (i / 64).toNat * 1, none⟩) ∧ (.slice a0 r.length c0 : Value).ownBlock = some g2 ∧ AtW (MS M [own w.heap.size 74 (.slice a0 r.length c0) r, imm (.slice a_r r.length c_r) r]) w7 ⟨g2, (i / 64).toNat * 1, none⟩ x0 := hp4 3 rfl rfl
        refine ldU hA2 ty74 rfl s3 ?_
        exact ⟨_, rfl, Ext.refl _, rfl⟩
      refine ⟨fun _ => ⟨fun f5 w8 hf5 xt8 hp5 => ?_, fun _ _ _ _ h => h⟩, ?_⟩
      ·
        have H9 := H2.ext xt8
        refine mv rfl ((hf5 1 rfl).trans i1) ?_
        exact ⟨_, rfl, Ext.refl _, rfl⟩
      refine ⟨fun _ => ⟨fun f6 w9 hf6 xt9 hp6 => ?_, fun _ _ _ _ h => h⟩, ?_⟩
      ·
        have H10 := H2.ext xt9
        have s4 : f6 16 = .int .i64 i := hp6 5 rfl rfl
        refine and63 rfl rfl s4 rfl ?_
        exact ⟨_, rfl, Ext.refl _, rfl⟩
      refine ⟨fun _ => ⟨fun f7 w10 hf7 xt10 hp7 => ?_, fun _ _ _ _ h => h⟩, ?_⟩
      ·
        have H11 := H2.ext xt10
        have s5 : f7 17 = .int .i64 (i % 64) := hp7 6 rfl rfl
        have cc3 := word_Bit (i := (i % 64)) (w := w10) (by unfold I64 at *; omega)
        refine ca go50 rfl (ec s5 e0) cc3 ?_
        rintro _ w11 ⟨rfl, xt11⟩
        have H12 := H11.ext xt11
        exact ⟨_, rfl, xt11, rfl⟩
      exact DSteps.rest rfl _
    · intro f8 w12 hf8 xt12 hp8
      have H13 := H2.ext xt12
      have s6 : f8 5 = .slice a0 r.length c0 := hf8 5 rfl
      have s7 : f8 11 = .slice a0 r.length c0 := hp8 0 rfl
      have s8 : f8 13 = .int .i64 (i / 64) := hp8 2 rfl
      have s9 : f8 15 = U x0 := hp8 4 rfl
      have s10 : f8 18 = U (bitB (i % 64)) := hp8 7 rfl
      refine k (orU x0 (bitB (i % 64)) rfl rfl s9 s10 (k (iaO (H13.at_ 0 rfl) rfl rfl s7 s8 (by have hb := b0; unfold inR at hb; simp only [decide_eq_true_eq] at hb; omega) un60 ty74 ?_)))
      intro g3 x2 hv3 hx2 hA3
      refine k (stO H13 0 rfl hv3 rfl (by have hb := b0; unfold inR at hb; simp only [decide_eq_true_eq] at hb; omega) ty74 rfl rfl rfl rfl (RV.bv.2 rfl) ?_)
      intro w13 (H14 : HI M w w13 [own w.heap.size 74 (.slice a0 r.length c0) (r.set ((i / 64).toNat) (x0 ||| (bitB (i % 64)))), imm (.slice a_r r.length c_r) r])
      refine z (nx (sq (rg (k (mv rfl s6 (k (asg (v := .slice a0 r.length c0) rfl rfl (z (nx (rt (r1 rfl rfl ?_)))))))))))
      have e0 : (r.set ((i / 64).toNat) (x0 ||| (bitB (i % 64))) : List (BitVec 64)) = setR r i := by exact setR_in b0 hx0
      have l0 : r.length = (setR r i).length := by first | rfl | (rw [← e0]; simp) | simp
      have ev_ := cg1 (fun (n_0 : Nat) => (.slice a0 n_0 c0 : Value)) l0
      exact ⟨a0, c0, ev_, H14.below, (congrArg (fun (n_ : Nat) => OwnsG _ _ _ (setR r i) (.slice a0 n_ c0) _) l0).mp ((congrArg (fun (x_ : List (BitVec 64)) => OwnsG _ _ _ x_ (.slice a0 r.length c0) _) e0).mp (H14.ownsG_out 0 rfl))⟩
  ·
    refine sk (nx (sq (rg (k (mv (v := .slice a0 r.length c0) rfl rfl (k (asg (v := .slice a0 r.length c0) rfl rfl (z (nx (rt (r1 rfl rfl ?_)))))))))))
    have e0 : (r : List (BitVec 64)) = setR r i := by exact setR_out b0
    have ev_ := cg1 (fun (x_0 : List (BitVec 64)) => (.slice a0 x_0.length c0 : Value)) e0
    exact ⟨a0, c0, ev_, H2.below, (congrArg (fun (x_ : List (BitVec 64)) => OwnsG _ _ _ x_ (.slice a0 x_.length c0) _) e0).mp (H2.ownsG_out 0 rfl)⟩
/- eyewitness/row.Words -/
set_option maxRecDepth 100000 in
set_option maxHeartbeats 1600000 in
theorem row_Words {w : World} {n : Int} (h_n : I64 n) (hn : n ≤ 1000000000000000000) : Calls Try.prog 61 #[.int .i64 n] w (Ret fun v w' =>  v = .int .i64 ((words n : Nat) : Int) ∧ Ext w w') := by
  refine enter 8 Try.func61 rfl rfl rfl fun f0 ha => ?_
  have H := HI.start (M0 := (fun _ => False)) (w := w) (fun _ h => h.elim)
  have i0 : f0 0 = .int .i64 n := ha 0 (by simp)
  refine sq (rg (k (asg (v := .int .i64 0) rfl rfl (z (nx (sq (rg (k (mv rfl i0 (k (max2 rfl rfl rfl rfl (k (add rfl rfl rfl rfl (by unfold I64 at *; omega) (k (sub rfl rfl rfl rfl (by unfold I64 at *; omega) (k (quo rfl rfl rfl rfl (by first | omega | (simp; omega)) (k (asg (v := .int .i64 ((((max n 0) + 64) - 1) / 64)) rfl rfl (z (nx (rt (r1 rfl rfl ?_)))))))))))))))))))))))
  have e0 : ((((max n 0) + 64) - 1) / 64 : Int) = ((words n : Nat) : Int) := by unfold words; omega
  have ev_ := cg1 (fun (x_0 : Int) => (.int .i64 x_0 : Value)) e0
  exact ⟨ev_, H.below⟩
/- eyewitness/row.New -/
set_option maxRecDepth 100000 in
set_option maxHeartbeats 1600000 in
theorem row_New {M : Nat → Prop} {w : World} {n : Int} (hM : ∀ b, M b → b < w.heap.size) (h_n : I64 n) (hn : n ≤ 1000000) : Calls Try.prog 47 #[.int .i64 n] w (Ret fun v w' => ∃ (a0 : Option Addr) (c0 : Nat), v = .slice a0 (newR n).length c0 ∧ Ext w w' ∧ OwnsG M 74 w (newR n) (.slice a0 (newR n).length c0) w') := by
  refine enter 6 Try.func47 rfl rfl rfl fun f0 ha => ?_
  have H := HI.start (M0 := M) (w := w) hM
  have i0 : f0 0 = .int .i64 n := ha 0 (by simp)
  refine sq (rg (k (asg (v := .slice none 0 0) rfl rfl (z (nx (sq (rg (k (mv rfl i0 (k ?_))))))))))
  have cc0 := row_Words (n := n) (w := w) (by unfold I64 at *; omega) (by first | omega | (simp; omega))
  refine ca go61 rfl (ec rfl e0) cc0 ?_
  rintro _ w0 ⟨rfl, xt0⟩
  have H0 := H.ext xt0
  refine k (mk (m := (words n : Nat)) (zx := (0#64 : (BitVec 64))) H0 rfl rfl rfl rfl un60 ty74 (fun _ _ => rfl) (by unfold words; omega) (by unfold words; omega) ?_)
  intro g0 w1 xt1 (H1 : HI M w w1 [own w.heap.size 74 (.slice (some ⟨g0, 0, none⟩) (words n : Nat) (words n : Nat)) (List.replicate (words n : Nat) (0#64 : (BitVec 64)))])
  refine k (asg (v := .slice (some ⟨g0, 0, none⟩) (words n : Nat) (words n : Nat)) rfl rfl (z (nx (rt (r1 rfl rfl ?_)))))
  have e0 : ((List.replicate (words n : Nat) (0#64 : (BitVec 64))) : List (BitVec 64)) = newR n := by unfold newR; rfl
  have l0 : (words n : Nat) = (newR n).length := by first | rfl | (rw [← e0]; simp) | simp
  have ev_ := cg1 (fun (n_0 : Nat) => (.slice (some ⟨g0, 0, none⟩) n_0 (words n : Nat) : Value)) l0
  exact ⟨(some ⟨g0, 0, none⟩), (words n : Nat), ev_, H1.below, (congrArg (fun (n_ : Nat) => OwnsG _ _ _ (newR n) (.slice (some ⟨g0, 0, none⟩) n_ (words n : Nat)) _) l0).mp ((congrArg (fun (x_ : List (BitVec 64)) => OwnsG _ _ _ x_ (.slice (some ⟨g0, 0, none⟩) (words n : Nat) (words n : Nat)) _) e0).mp (H1.ownsG_out 0 rfl))⟩
/- eyewitness/row.Or -/
set_option maxRecDepth 100000 in
set_option maxHeartbeats 1600000 in
theorem row_Or {M : Nat → Prop} {w : World} {a_a : Option Addr} {c_a : Nat} {a : List (BitVec 64)} {a_b : Option Addr} {c_b : Nat} {b : List (BitVec 64)} (hM : ∀ b, M b → b < w.heap.size) (h_a : RV M w (.slice a_a a.length c_a) a) (h_b : RV M w (.slice a_b b.length c_b) b) (hl_a : a.length ≤ 1000000000) (hl_b : b.length ≤ 1000000000) : Calls Try.prog 52 #[.slice a_a a.length c_a, .slice a_b b.length c_b] w (Ret fun v w' => ∃ (a0 : Option Addr) (c0 : Nat), v = .slice a0 (orR a b).length c0 ∧ Ext w w' ∧ OwnsG M 74 w (orR a b) (.slice a0 (orR a b).length c0) w') := by
  refine enter 33 Try.func52 rfl rfl rfl fun f0 ha => ?_
  have H := HI.start (M0 := M) (w := w) hM
  have H0 := H.put (it := imm (.slice a_a a.length c_a) a) rfl (by rw [MS_nil]; exact h_a)
  have H1 := H0.put (it := imm (.slice a_b b.length c_b) b) rfl (by rw [MS_cons_none rfl, MS_nil]; exact h_b)
  have ln_a := rv_len h_a
  have ln_b := rv_len h_b
  have i0 : f0 0 = .slice a_a a.length c_a := ha 0 (by simp)
  have i1 : f0 1 = .slice a_b b.length c_b := ha 1 (by simp)
  refine sq (rg (k (asg (v := .slice none 0 0) rfl rfl (z (nx (sq (sq (rg (k (mv rfl i0 (k (lnS rfl rfl un60 (k (mv rfl i1 (k (lnS rfl rfl un60 (k (lss rfl rfl rfl rfl (z (nx ?_))))))))))))))))))))
  refine cd (b := decide ((a.length : Int) < (b.length : Int))) rfl rfl (fun b0 => ?_) (fun b0 => ?_)
  ·
    have p0 := of_decide_eq_true b0
    refine rg (k (mv rfl i1 (k (mv rfl i0 (k (asg (v := .slice a_b b.length c_b) rfl rfl (k (asg (v := .slice a_a a.length c_a) rfl rfl (z (nx (sq (rg (k (mv (v := .slice a_b b.length c_b) rfl rfl (k ?_)))))))))))))))
    have cc0 := clone_u64 (r := b) (w := w) H1.mb (H1.rv 0 rfl) (by first | omega | (simp; omega))
    refine ca go48 rfl (ec rfl e0) cc0 ?_
    rintro _ w0 ⟨a0, c0, rfl, xt0, rv0⟩
    have H2 := H1.ownsG rv0
    refine k (asg (v := .slice a0 b.length c0) rfl rfl (z (nx (sq (sq (rg (k (mv (v := .slice a_a a.length c_a) rfl rfl (k (lnS rfl rfl un60 (k (mv (v := .int .i64 0) rfl rfl (z (nx (bk ?_)))))))))))))))
    refine lp (fun m f w' => ∃ (j : Nat) (xs : List (BitVec 64)), m = a.length - j ∧ f 5 = .slice a0 b.length c0 ∧ f 17 = .slice a_a a.length c_a ∧ f 18 = .int .i64 (a.length : Int) ∧ f 19 = .int .i64 (j : Int) ∧  HI M w w' [own w.heap.size 74 (.slice a0 b.length c0) xs, imm (.slice a_b b.length c_b) b, imm (.slice a_a a.length c_a) a] ∧ (j ≤ a.length) ∧ (xs.length = b.length) ∧ (xs = orTo b.length b a b j)) _ ⟨0, b, rfl, rfl, rfl, rfl, (ieq rfl (by first | rfl | omega | simp)), H2, (by first | assumption | omega | simp | (simp; omega)), (by rfl), (by exact orTo_zero _ _ _)⟩ ?_
    rintro _ f0 w1 ⟨j, xs, rfl, s0, s1, s2, s3, H3, hk, hl, hs⟩
    refine sq (rg (k (lss rfl rfl s3 s2 (z (nx (sq ?_))))))
    refine cd (b := decide ((j : Int) < (a.length : Int))) rfl rfl (fun b1 => ?_) (fun b1 => ?_)
    ·
      have p1 := of_decide_eq_true b1
      refine sk (nx (sq (bk (sq (rg (k (mv rfl s3 (k (ia (H3.rv 2 rfl) rfl rfl s1 s3 (by first | omega | (simp; omega)) un60 ty74 ?_)))))))))
      intro ad0 x0 hx0 hA0
      refine k (ldU hA0.w ty74 rfl rfl (k (asg (v := .int .i64 (j : Int)) rfl rfl (k (asg (v := U x0) rfl rfl (z (nx (rg (k (mv rfl s0 (k (mv (v := .int .i64 (j : Int)) rfl rfl (k (iaO (H3.at_ 0 rfl) rfl rfl rfl rfl (by first | omega | (simp; omega)) un60 ty74 ?_))))))))))))))
      intro g0 x1 hv0 hx1 hA1
      refine k (ldU hA1 ty74 rfl rfl (k (mv (v := U x0) rfl rfl (k (orU x1 x0 rfl rfl rfl rfl (k (iaO (H3.at_ 0 rfl) rfl rfl rfl rfl (by first | omega | (simp; omega)) un60 ty74 ?_)))))))
      intro g1 x2 hv1 hx2 hA2
      refine k (stO H3 0 rfl hv1 rfl (by first | omega | (simp; omega)) ty74 rfl rfl rfl rfl (RV.bv.2 rfl) ?_)
      intro w2 (H4 : HI M w w2 [own w.heap.size 74 (.slice a0 b.length c0) (xs.set ((j : Int).toNat) (x1 ||| x0)), imm (.slice a_b b.length c_b) b, imm (.slice a_a a.length c_a) a])
      refine z (inb_normal (nx (rg (k (add rfl rfl s3 rfl (by unfold I64 at *; omega) (k (mv (v := .int .i64 ((j : Int) + 1)) rfl rfl (z ?_))))))))
      refine loopN _ ?_ ⟨(j + 1), (xs.set ((j : Int).toNat) (x1 ||| x0)), rfl, s0, s1, s2, (ieq rfl (by first | rfl | omega | (push_cast; omega))), H4, (by first | assumption | omega | simp | (simp; omega)), (by simpa using hl), (by have e1 := orTo_get (hs ▸ hx1); have e2 := getD_at hx0; rw [hs]; exact orTo_set (by rw [e1]; unfold orAt; rw [e2]))⟩
      omega
    ·
      have p1 := of_decide_eq_false b1
      refine ex (then_exit (loop_exit (inb_here (nx (sq (rg (k (mv rfl s0 (k (asg (v := .slice a0 b.length c0) rfl rfl (z (nx (rt (r1 rfl rfl ?_))))))))))))))
      have e0 : (xs : List (BitVec 64)) = orR a b := by rw [hs]; first | exact orTo_all (by omega) (fun i h1 h2 => orAt_left (by omega)) | (rw [orR_comm]; exact orTo_all (by omega) (fun i h1 h2 => orAt_left (by omega)))
      have l0 : b.length = (orR a b).length := by rw [← e0]; omega
      have ev_ := cg1 (fun (n_0 : Nat) => (.slice a0 n_0 c0 : Value)) l0
      exact ⟨a0, c0, ev_, H3.below, (congrArg (fun (n_ : Nat) => OwnsG _ _ _ (orR a b) (.slice a0 n_ c0) _) l0).mp ((congrArg (fun (x_ : List (BitVec 64)) => OwnsG _ _ _ x_ (.slice a0 b.length c0) _) e0).mp (H3.ownsG_out 0 rfl))⟩
  ·
    have p0 := of_decide_eq_false b0
    refine sk (nx (sq (rg (k (mv rfl i0 (k ?_))))))
    have cc0 := clone_u64 (r := a) (w := w) H1.mb (H1.rv 1 rfl) (by first | omega | (simp; omega))
    refine ca go48 rfl (ec rfl e0) cc0 ?_
    rintro _ w0 ⟨a0, c0, rfl, xt0, rv0⟩
    have H2 := H1.ownsG rv0
    refine k (asg (v := .slice a0 a.length c0) rfl rfl (z (nx (sq (sq (rg (k (mv rfl i1 (k (lnS rfl rfl un60 (k (mv (v := .int .i64 0) rfl rfl (z (nx (bk ?_)))))))))))))))
    refine lp (fun m f w' => ∃ (j : Nat) (xs : List (BitVec 64)), m = b.length - j ∧ f 5 = .slice a0 a.length c0 ∧ f 17 = .slice a_b b.length c_b ∧ f 18 = .int .i64 (b.length : Int) ∧ f 19 = .int .i64 (j : Int) ∧  HI M w w' [own w.heap.size 74 (.slice a0 a.length c0) xs, imm (.slice a_b b.length c_b) b, imm (.slice a_a a.length c_a) a] ∧ (j ≤ b.length) ∧ (xs.length = a.length) ∧ (xs = orTo a.length a b a j)) _ ⟨0, a, rfl, rfl, rfl, rfl, (ieq rfl (by first | rfl | omega | simp)), H2, (by first | assumption | omega | simp | (simp; omega)), (by rfl), (by exact orTo_zero _ _ _)⟩ ?_
    rintro _ f0 w1 ⟨j, xs, rfl, s0, s1, s2, s3, H3, hk, hl, hs⟩
    refine sq (rg (k (lss rfl rfl s3 s2 (z (nx (sq ?_))))))
    refine cd (b := decide ((j : Int) < (b.length : Int))) rfl rfl (fun b1 => ?_) (fun b1 => ?_)
    ·
      have p1 := of_decide_eq_true b1
      refine sk (nx (sq (bk (sq (rg (k (mv rfl s3 (k (ia (H3.rv 1 rfl) rfl rfl s1 s3 (by first | omega | (simp; omega)) un60 ty74 ?_)))))))))
      intro ad0 x0 hx0 hA0
      refine k (ldU hA0.w ty74 rfl rfl (k (asg (v := .int .i64 (j : Int)) rfl rfl (k (asg (v := U x0) rfl rfl (z (nx (rg (k (mv rfl s0 (k (mv (v := .int .i64 (j : Int)) rfl rfl (k (iaO (H3.at_ 0 rfl) rfl rfl rfl rfl (by first | omega | (simp; omega)) un60 ty74 ?_))))))))))))))
      intro g0 x1 hv0 hx1 hA1
      refine k (ldU hA1 ty74 rfl rfl (k (mv (v := U x0) rfl rfl (k (orU x1 x0 rfl rfl rfl rfl (k (iaO (H3.at_ 0 rfl) rfl rfl rfl rfl (by first | omega | (simp; omega)) un60 ty74 ?_)))))))
      intro g1 x2 hv1 hx2 hA2
      refine k (stO H3 0 rfl hv1 rfl (by first | omega | (simp; omega)) ty74 rfl rfl rfl rfl (RV.bv.2 rfl) ?_)
      intro w2 (H4 : HI M w w2 [own w.heap.size 74 (.slice a0 a.length c0) (xs.set ((j : Int).toNat) (x1 ||| x0)), imm (.slice a_b b.length c_b) b, imm (.slice a_a a.length c_a) a])
      refine z (inb_normal (nx (rg (k (add rfl rfl s3 rfl (by unfold I64 at *; omega) (k (mv (v := .int .i64 ((j : Int) + 1)) rfl rfl (z ?_))))))))
      refine loopN _ ?_ ⟨(j + 1), (xs.set ((j : Int).toNat) (x1 ||| x0)), rfl, s0, s1, s2, (ieq rfl (by first | rfl | omega | (push_cast; omega))), H4, (by first | assumption | omega | simp | (simp; omega)), (by simpa using hl), (by have e1 := orTo_get (hs ▸ hx1); have e2 := getD_at hx0; rw [hs]; exact orTo_set (by rw [e1]; unfold orAt; rw [e2]))⟩
      omega
    ·
      have p1 := of_decide_eq_false b1
      refine ex (then_exit (loop_exit (inb_here (nx (sq (rg (k (mv rfl s0 (k (asg (v := .slice a0 a.length c0) rfl rfl (z (nx (rt (r1 rfl rfl ?_))))))))))))))
      have e0 : (xs : List (BitVec 64)) = orR a b := by rw [hs]; first | exact orTo_all (by omega) (fun i h1 h2 => orAt_left (by omega)) | (rw [orR_comm]; exact orTo_all (by omega) (fun i h1 h2 => orAt_left (by omega)))
      have l0 : a.length = (orR a b).length := by rw [← e0]; omega
      have ev_ := cg1 (fun (n_0 : Nat) => (.slice a0 n_0 c0 : Value)) l0
      exact ⟨a0, c0, ev_, H3.below, (congrArg (fun (n_ : Nat) => OwnsG _ _ _ (orR a b) (.slice a0 n_ c0) _) l0).mp ((congrArg (fun (x_ : List (BitVec 64)) => OwnsG _ _ _ x_ (.slice a0 a.length c0) _) e0).mp (H3.ownsG_out 0 rfl))⟩
/- eyewitness/eyewitnessref01.Bit -/
set_option maxRecDepth 100000 in
set_option maxHeartbeats 1600000 in
theorem ref01_Bit {w : World} {i : Int} (h_i : I64 i) : Calls Try.prog 59 #[.int .i64 i] w (Ret fun v w' =>  v = U (bitB i) ∧ Ext w w') := by
  refine enter 17 Try.func59 rfl rfl rfl fun f0 ha => ?_
  have H := HI.start (M0 := (fun _ => False)) (w := w) (fun _ h => h.elim)
  have i0 : f0 0 = .int .i64 i := ha 0 (by simp)
  refine sq (rg (k (asg (v := U (0#64)) rfl rfl (z (nx (sq (sq (rg (k (mv rfl i0 (k (lss rfl rfl rfl rfl (k (mv (v := .bool (decide (i < 0))) rfl rfl ?_))))))))))))))
  rcases Bool.eq_false_or_eq_true (decide (i < 0)) with b0 | b0
  · -- decide (i < 0) is True
    have p0 := of_decide_eq_true b0
    refine k (gn rfl rfl rfl b0 (k (gn rfl rfl rfl b0 (k (pickT rfl rfl rfl rfl b0 rfl (z (nx (cdT rfl rfl rfl (sq (rg (k (asg (v := U (0#64)) rfl rfl (z (nx (rt (then_ret (r1 rfl rfl ?_)))))))))))))))))
    have e0 : (0#64 : BitVec 64) = bitB i := by first | exact (bitB_out (by omega)).symm | (rw [bitB_pow (by omega) (by omega), show i.toNat = j from by omega])
    have ev_ := cg1 (fun (x_0 : BitVec 64) => (U x_0 : Value)) e0
    exact ⟨ev_, H.below⟩
  · -- decide (i < 0) is False
    have p0 := of_decide_eq_false b0
    refine k (gy rfl rfl rfl b0 (mv rfl i0 (k (gy rfl rfl rfl b0 (gtr rfl rfl rfl rfl (k (pickF rfl rfl rfl rfl b0 rfl (z (nx ?_)))))))))
    refine cd (b := decide (63 < i)) rfl rfl (fun b1 => ?_) (fun b1 => ?_)
    ·
      have p1 := of_decide_eq_true b1
      refine sq (rg (k (asg (v := U (0#64)) rfl rfl (z (nx (rt (then_ret (r1 rfl rfl ?_))))))))
      have e0 : (0#64 : BitVec 64) = bitB i := by first | exact (bitB_out (by omega)).symm | (rw [bitB_pow (by omega) (by omega), show i.toNat = j from by omega])
      have ev_ := cg1 (fun (x_0 : BitVec 64) => (U x_0 : Value)) e0
      exact ⟨ev_, H.below⟩
    ·
      have p1 := of_decide_eq_false b1
      refine sk (nx (sq (rg (k (asg (v := U (1#64)) rfl rfl (z (nx (sq (bk ?_)))))))))
      refine lp (fun m f w' => ∃ (j : Nat), m = i.toNat - j ∧ f 0 = .int .i64 (i - (j : Int)) ∧ f 3 = U (1#64 <<< j) ∧  HI (fun _ => False) w w' [] ∧ (j ≤ i.toNat)) _ ⟨0, rfl, (ieq i0 (by omega)), (ueq rfl (by first | rfl | simp)), H, (by first | assumption | omega | simp | (simp; omega))⟩ ?_
      rintro _ f0 w0 ⟨j, rfl, s0, s1, H0, hj⟩
      refine sq (sq (rg (k (mv rfl s0 (k (gtr rfl rfl rfl rfl (z (nx ?_))))))))
      refine cd (b := decide (0 < (i - (j : Int)))) rfl rfl (fun b2 => ?_) (fun b2 => ?_)
      ·
        have p2 := of_decide_eq_true b2
        refine sk (nx (sq (bk (rg (k (mv rfl s1 (k (mulU (1#64 <<< j) (2#64) rfl rfl rfl rfl (k (asg (v := U ((1#64 <<< j) * (2#64))) rfl rfl (z (inb_normal (nx (rg (k (mv rfl s0 (k (sub rfl rfl rfl rfl (by unfold I64 at *; omega) (k (asg (v := .int .i64 ((i - (j : Int)) - 1)) rfl rfl (z ?_)))))))))))))))))))))
        refine loopN _ ?_ ⟨(j + 1), rfl, (ieq rfl (by omega)), (ueq rfl (by exact shl_step j)), H0, (by first | assumption | omega | simp | (simp; omega))⟩
        omega
      ·
        have p2 := of_decide_eq_false b2
        refine ex (then_exit (loop_exit (inb_here (nx (sq (rg (k (mv rfl s1 (k (asg (v := U (1#64 <<< j)) rfl rfl (z (nx (rt (r1 rfl rfl ?_))))))))))))))
        have e0 : ((1#64 <<< j) : BitVec 64) = bitB i := by first | exact (bitB_out (by omega)).symm | (rw [bitB_pow (by omega) (by omega), show i.toNat = j from by omega])
        have ev_ := cg1 (fun (x_0 : BitVec 64) => (U x_0 : Value)) e0
        exact ⟨ev_, H0.below⟩
/- eyewitness/eyewitnessref01.Has -/
set_option maxRecDepth 100000 in
set_option maxHeartbeats 1600000 in
theorem ref01_Has {w : World} {x : BitVec 64} {i : Int} (h_i : I64 i) : Calls Try.prog 57 #[U x, .int .i64 i] w (Ret fun v w' =>  v = .bool (hasW x i) ∧ Ext w w') := by
  refine enter 17 Try.func57 rfl rfl rfl fun f0 ha => ?_
  have H := HI.start (M0 := (fun _ => False)) (w := w) (fun _ h => h.elim)
  have i0 : f0 0 = U x := ha 0 (by simp)
  have i1 : f0 1 = .int .i64 i := ha 1 (by simp)
  refine sq (rg (k (asg (v := .bool false) rfl rfl (z (nx (sq (rg (k (mv rfl i1 (k ?_))))))))))
  have cc0 := ref01_Bit (i := i) (w := w) (by unfold I64 at *; omega)
  refine ca go59 rfl (ec rfl e0) cc0 ?_
  rintro _ w0 ⟨rfl, xt0⟩
  have H0 := H.ext xt0
  refine k (asg (v := U (bitB i)) rfl rfl (z (nx (sq (rg (k (mv (v := U (bitB i)) rfl rfl (k (neU (bitB i) (0#64) rfl rfl rfl rfl (k (mv (v := .bool (!decide ((bitB i) = (0#64)))) rfl rfl ?_)))))))))))
  rcases Bool.eq_false_or_eq_true (!decide ((bitB i) = (0#64))) with b0 | b0
  · -- !decide ((bitB i) = (0#64)) is True
    have p0 := of_decide_eq_false (nott b0)
    refine k (gy rfl rfl rfl b0 (mv rfl i0 (k (gy rfl rfl rfl b0 (mv (v := U (bitB i)) rfl rfl (k (gy rfl rfl rfl b0 (quoU x (bitB i) (by first | decide | simpa using b0) rfl rfl rfl rfl (k (gy rfl rfl rfl b0 (remU (x / (bitB i)) (2#64) (by first | decide | simpa using b0) rfl rfl rfl rfl (k (gy rfl rfl rfl b0 (eqU ((x / (bitB i)) % (2#64)) (1#64) rfl rfl rfl rfl (k (pickT rfl rfl rfl rfl b0 rfl (k (asg (v := .bool (decide (((x / (bitB i)) % (2#64)) = (1#64)))) rfl rfl (z (nx (rt (r1 rfl rfl ?_))))))))))))))))))))))
    have e0 : (decide (((x / (bitB i)) % (2#64)) = (1#64)) : Bool) = hasW x i := by first | exact hasW_quo (by simpa using b0) | exact hasW_zero (by simpa using b0)
    have ev_ := cg1 (fun (x_0 : Bool) => (.bool x_0 : Value)) e0
    exact ⟨ev_, H0.below⟩
  · -- !decide ((bitB i) = (0#64)) is False
    have p0 := of_decide_eq_true (notf b0)
    refine k (gn rfl rfl rfl b0 (k (gn rfl rfl rfl b0 (k (gn rfl rfl rfl b0 (k (gn rfl rfl rfl b0 (k (gn rfl rfl rfl b0 (k (pickF rfl rfl rfl rfl b0 rfl (k (asg (v := .bool false) rfl rfl (z (nx (rt (r1 rfl rfl ?_)))))))))))))))))
    have e0 : (false : Bool) = hasW x i := by first | exact hasW_quo (by simpa using b0) | exact hasW_zero (by simpa using b0)
    have ev_ := cg1 (fun (x_0 : Bool) => (.bool x_0 : Value)) e0
    exact ⟨ev_, H0.below⟩
/- eyewitness/eyewitnessref02.Words -/
set_option maxRecDepth 100000 in
set_option maxHeartbeats 1600000 in
theorem ref02_Words {w : World} {n : Int} (h_n : I64 n) (hn : n ≤ 1000000000000000000) : Calls Try.prog 36 #[.int .i64 n] w (Ret fun v w' =>  v = .int .i64 ((words n : Nat) : Int) ∧ Ext w w') := by
  refine enter 8 Try.func36 rfl rfl rfl fun f0 ha => ?_
  have H := HI.start (M0 := (fun _ => False)) (w := w) (fun _ h => h.elim)
  have i0 : f0 0 = .int .i64 n := ha 0 (by simp)
  refine sq (rg (k (asg (v := .int .i64 0) rfl rfl (z (nx (sq (sq (rg (k (mv rfl i0 (k (lss rfl rfl rfl rfl (z (nx ?_))))))))))))))
  refine cd (b := decide (n < 0)) rfl rfl (fun b0 => ?_) (fun b0 => ?_)
  ·
    have p0 := of_decide_eq_true b0
    refine sq (rg (k (asg (v := .int .i64 0) rfl rfl (z (nx (rt (then_ret (r1 rfl rfl ?_))))))))
    have e0 : (0 : Int) = ((words n : Nat) : Int) := by first | exact (words_neg (by omega)).symm | exact (words_pos (by omega)).symm
    have ev_ := cg1 (fun (x_0 : Int) => (.int .i64 x_0 : Value)) e0
    exact ⟨ev_, H.below⟩
  ·
    have p0 := of_decide_eq_false b0
    refine sk (nx (sq (rg (k (mv rfl i0 (k (add rfl rfl rfl rfl (by unfold I64 at *; omega) (k (quo rfl rfl rfl rfl (by first | omega | (simp; omega)) (k (asg (v := .int .i64 ((n + 63) / 64)) rfl rfl (z (nx (rt (r1 rfl rfl ?_)))))))))))))))
    have e0 : ((n + 63) / 64 : Int) = ((words n : Nat) : Int) := by first | exact (words_neg (by omega)).symm | exact (words_pos (by omega)).symm
    have ev_ := cg1 (fun (x_0 : Int) => (.int .i64 x_0 : Value)) e0
    exact ⟨ev_, H.below⟩
/- eyewitness/eyewitnessref02.New -/
set_option maxRecDepth 100000 in
set_option maxHeartbeats 1600000 in
theorem ref02_New {M : Nat → Prop} {w : World} {n : Int} (hM : ∀ b, M b → b < w.heap.size) (h_n : I64 n) (hn : n ≤ 1000000) : Calls Try.prog 51 #[.int .i64 n] w (Ret fun v w' => ∃ (a0 : Option Addr) (c0 : Nat), v = .slice a0 (newR n).length c0 ∧ Ext w w' ∧ OwnsG M 74 w (newR n) (.slice a0 (newR n).length c0) w') := by
  refine enter 6 Try.func51 rfl rfl rfl fun f0 ha => ?_
  have H := HI.start (M0 := M) (w := w) hM
  have i0 : f0 0 = .int .i64 n := ha 0 (by simp)
  refine sq (rg (k (asg (v := .slice none 0 0) rfl rfl (z (nx (sq (rg (k (mv rfl i0 (k ?_))))))))))
  have cc0 := ref02_Words (n := n) (w := w) (by unfold I64 at *; omega) (by first | omega | (simp; omega))
  refine ca go36 rfl (ec rfl e0) cc0 ?_
  rintro _ w0 ⟨rfl, xt0⟩
  have H0 := H.ext xt0
  refine k (mk (m := (words n : Nat)) (zx := (0#64 : (BitVec 64))) H0 rfl rfl rfl rfl un60 ty74 (fun _ _ => rfl) (by unfold words; omega) (by unfold words; omega) ?_)
  intro g0 w1 xt1 (H1 : HI M w w1 [own w.heap.size 74 (.slice (some ⟨g0, 0, none⟩) (words n : Nat) (words n : Nat)) (List.replicate (words n : Nat) (0#64 : (BitVec 64)))])
  refine k (asg (v := .slice (some ⟨g0, 0, none⟩) (words n : Nat) (words n : Nat)) rfl rfl (z (nx (rt (r1 rfl rfl ?_)))))
  have e0 : ((List.replicate (words n : Nat) (0#64 : (BitVec 64))) : List (BitVec 64)) = newR n := by unfold newR; rfl
  have l0 : (words n : Nat) = (newR n).length := by first | rfl | (rw [← e0]; simp) | simp
  have ev_ := cg1 (fun (n_0 : Nat) => (.slice (some ⟨g0, 0, none⟩) n_0 (words n : Nat) : Value)) l0
  exact ⟨(some ⟨g0, 0, none⟩), (words n : Nat), ev_, H1.below, (congrArg (fun (n_ : Nat) => OwnsG _ _ _ (newR n) (.slice (some ⟨g0, 0, none⟩) n_ (words n : Nat)) _) l0).mp ((congrArg (fun (x_ : List (BitVec 64)) => OwnsG _ _ _ x_ (.slice (some ⟨g0, 0, none⟩) (words n : Nat) (words n : Nat)) _) e0).mp (H1.ownsG_out 0 rfl))⟩
/- eyewitness/eyewitnessref02.Has -/
set_option maxRecDepth 100000 in
set_option maxHeartbeats 1600000 in
theorem ref02_Has {M : Nat → Prop} {w : World} {a_r : Option Addr} {c_r : Nat} {r : List (BitVec 64)} {i : Int} (hM : ∀ b, M b → b < w.heap.size) (h_r : RV M w (.slice a_r r.length c_r) r) (h_i : I64 i) (hl_r : r.length ≤ 1000000000) : Calls Try.prog 37 #[.slice a_r r.length c_r, .int .i64 i] w (Ret fun v w' =>  v = .bool (hasR r i) ∧ Ext w w') := by
  refine enter 24 Try.func37 rfl rfl rfl fun f0 ha => ?_
  have H := HI.start (M0 := M) (w := w) hM
  have H0 := H.put (it := imm (.slice a_r r.length c_r) r) rfl (by rw [MS_nil]; exact h_r)
  have ln_r := rv_len h_r
  have i0 : f0 0 = .slice a_r r.length c_r := ha 0 (by simp)
  have i1 : f0 1 = .int .i64 i := ha 1 (by simp)
  refine sq (rg (k (asg (v := .bool false) rfl rfl (z (nx (sq (rg (k (mv rfl i1 (k (geq rfl rfl rfl rfl (k (mv (v := .bool (decide (0 ≤ i))) rfl rfl ?_)))))))))))))
  rcases Bool.eq_false_or_eq_true (decide (0 ≤ i)) with b0 | b0
  · -- decide (0 ≤ i) is True
    have p0 := of_decide_eq_true b0
    refine k (gy rfl rfl rfl b0 (mv rfl i1 (k (gy rfl rfl rfl b0 (mv rfl i0 (k (gy rfl rfl rfl b0 (lnS rfl rfl un60 (k (gy rfl rfl rfl b0 (mul rfl rfl rfl rfl (by unfold I64 at *; omega) (k (gy rfl rfl rfl b0 (lss rfl rfl rfl rfl (k (pickT rfl rfl rfl rfl b0 rfl (k (mv (v := .bool (decide (i < (64 * (r.length : Int))))) rfl rfl ?_))))))))))))))))))
    rcases Bool.eq_false_or_eq_true (decide (i < (64 * (r.length : Int)))) with b1 | b1
    · -- decide (i < (64 * (r.length : Int))) is True
      have p1 := of_decide_eq_true b1
      refine k (gy rfl rfl rfl b1 (mv rfl i0 (k (gy rfl rfl rfl b1 (mv rfl i1 (k (gy rfl rfl rfl b1 (quo rfl rfl rfl rfl (by first | omega | (simp; omega)) (k (gy rfl rfl rfl b1 (ia (H0.rv 0 rfl) rfl rfl rfl rfl (by first | omega | (simp; omega)) un60 ty74 ?_)))))))))))
      intro ad0 x0 hx0 hA0
      refine k (gy rfl rfl rfl b1 (ldU hA0.w ty74 rfl rfl (k (gy rfl rfl rfl b1 (mv rfl i1 (k (gy rfl rfl rfl b1 (rem rfl rfl rfl rfl (by first | omega | (simp; omega)) (k (gy rfl rfl rfl b1 ?_))))))))))
      have cc0 := ref01_Has (x := x0) (i := (i % 64)) (w := w) (by unfold I64 at *; omega)
      refine ca go57 rfl (ec rfl (ec rfl e0)) cc0 ?_
      rintro _ w0 ⟨rfl, xt0⟩
      have H1 := H0.ext xt0
      refine k (pickT rfl rfl rfl rfl b1 rfl (k (asg (v := .bool (hasW x0 (i % 64))) rfl rfl (z (nx (rt (r1 rfl rfl ?_)))))))
      have e0 : (hasW x0 (i % 64) : Bool) = hasR r i := by first | exact hasR_of (by omega) (by omega) hx0 | exact hasR_no (by omega)
      have ev_ := cg1 (fun (x_0 : Bool) => (.bool x_0 : Value)) e0
      exact ⟨ev_, H1.below⟩
    · -- decide (i < (64 * (r.length : Int))) is False
      have p1 := of_decide_eq_false b1
      refine k (gn rfl rfl rfl b1 (k (gn rfl rfl rfl b1 (k (gn rfl rfl rfl b1 (k (gn rfl rfl rfl b1 (k (gn rfl rfl rfl b1 (k (gn rfl rfl rfl b1 (k (gn rfl rfl rfl b1 (k (gn rfl rfl rfl b1 (k (pickF rfl rfl rfl rfl b1 rfl (k (asg (v := .bool false) rfl rfl (z (nx (rt (r1 rfl rfl ?_)))))))))))))))))))))))
      have e0 : (false : Bool) = hasR r i := by first | exact hasR_of (by omega) (by omega) hx0 | exact hasR_no (by omega)
      have ev_ := cg1 (fun (x_0 : Bool) => (.bool x_0 : Value)) e0
      exact ⟨ev_, H0.below⟩
  · -- decide (0 ≤ i) is False
    have p0 := of_decide_eq_false b0
    refine k (gn rfl rfl rfl b0 (k (gn rfl rfl rfl b0 (k (gn rfl rfl rfl b0 (k (gn rfl rfl rfl b0 (k (gn rfl rfl rfl b0 (k (pickF rfl rfl rfl rfl b0 rfl (k (mv (v := .bool false) rfl rfl (k (gn rfl rfl rfl rfl (k (gn rfl rfl rfl rfl (k (gn rfl rfl rfl rfl (k (gn rfl rfl rfl rfl (k (gn rfl rfl rfl rfl (k (gn rfl rfl rfl rfl (k (gn rfl rfl rfl rfl (k (gn rfl rfl rfl rfl (k (pickF rfl rfl rfl rfl rfl rfl (k (asg (v := .bool false) rfl rfl (z (nx (rt (r1 rfl rfl ?_)))))))))))))))))))))))))))))))))))))
    have e0 : (false : Bool) = hasR r i := by first | exact hasR_of (by omega) (by omega) hx0 | exact hasR_no (by omega)
    have ev_ := cg1 (fun (x_0 : Bool) => (.bool x_0 : Value)) e0
    exact ⟨ev_, H0.below⟩
/- eyewitness/eyewitnessref02.Set -/
set_option maxRecDepth 100000 in
set_option maxHeartbeats 1600000 in
theorem ref02_Set {M : Nat → Prop} {w : World} {a_r : Option Addr} {c_r : Nat} {r : List (BitVec 64)} {i : Int} (hM : ∀ b, M b → b < w.heap.size) (h_r : RV M w (.slice a_r r.length c_r) r) (h_i : I64 i) (hl_r : r.length ≤ 1000000000) : Calls Try.prog 41 #[.slice a_r r.length c_r, .int .i64 i] w (Ret fun v w' => ∃ (a0 : Option Addr) (c0 : Nat), v = .slice a0 (setR r i).length c0 ∧ Ext w w' ∧ OwnsG M 74 w (setR r i) (.slice a0 (setR r i).length c0) w') := by
  refine enter 38 Try.func41 rfl rfl rfl fun f0 ha => ?_
  have H := HI.start (M0 := M) (w := w) hM
  have H0 := H.put (it := imm (.slice a_r r.length c_r) r) rfl (by rw [MS_nil]; exact h_r)
  have ln_r := rv_len h_r
  have i0 : f0 0 = .slice a_r r.length c_r := ha 0 (by simp)
  have i1 : f0 1 = .int .i64 i := ha 1 (by simp)
  refine sq (rg (k (asg (v := .slice none 0 0) rfl rfl (z (nx (sq (rg (k (bs (xs := ([] : List (BitVec 64))) (cells := #[]) (e := 74) H0 rfl pb0 (fun _ => by kernel_rfl) rfl rfl (by unfold maxLen; omega) ?_)))))))))
  intro g0 w0 xt0 (H1 : HI M w w0 [own w.heap.size 74 (.slice (some ⟨g0, 0, none⟩) 0 0) ([] : List (BitVec 64)), imm (.slice a_r r.length c_r) r])
  refine k (mv rfl i0 (k (ap H1 0 rfl rfl rfl rfl rfl rfl (H1.rv 1 rfl).src un60 ty74 rfl (by simp; omega) (by simp; omega) ?_)))
  intro a0 c0 w1 (H2 : HI M w w1 [own w.heap.size 74 (.slice a0 r.length c0) r, imm (.slice a_r r.length c_r) r])
  refine k (asg (v := .slice a0 r.length c0) rfl rfl (z (nx (sq (sq (rg (k (mv rfl i1 (k (geq rfl rfl rfl rfl (k (mv (v := .bool (decide (0 ≤ i))) rfl rfl ?_))))))))))))
  rcases Bool.eq_false_or_eq_true (decide (0 ≤ i)) with b0 | b0
  · -- decide (0 ≤ i) is True
    have p0 := of_decide_eq_true b0
    refine k (gy rfl rfl rfl b0 (mv rfl i1 (k (gy rfl rfl rfl b0 (mv rfl i0 (k (gy rfl rfl rfl b0 (lnS rfl rfl un60 (k (gy rfl rfl rfl b0 (mul rfl rfl rfl rfl (by unfold I64 at *; omega) (k (gy rfl rfl rfl b0 (lss rfl rfl rfl rfl (k (pickT rfl rfl rfl rfl b0 rfl (k (mv (v := .bool (decide (i < (64 * (r.length : Int))))) rfl rfl ?_))))))))))))))))))
    rcases Bool.eq_false_or_eq_true (decide (i < (64 * (r.length : Int)))) with b1 | b1
    · -- decide (i < (64 * (r.length : Int))) is True
      have p1 := of_decide_eq_true b1
      refine k (gy rfl rfl rfl b1 (mv rfl i0 (k (gy rfl rfl rfl b1 (mv rfl i1 (k (gy rfl rfl rfl b1 ?_)))))))
      have cc0 := ref02_Has (r := r) (i := i) (w := w1) H2.mb (H2.rv 1 rfl) (by unfold I64 at *; omega) (by first | omega | (simp; omega))
      refine ca go37 rfl (ec rfl (ec rfl e0)) cc0 ?_
      rintro _ w2 ⟨rfl, xt1⟩
      have H3 := H2.ext xt1
      refine k (gy rfl rfl rfl b1 (not_ rfl rfl (k (pickT rfl rfl rfl rfl b1 rfl (z (nx ?_))))))
      refine cd (b := !(hasR r i)) rfl rfl (fun b2 => ?_) (fun b2 => ?_)
      ·
        obtain ⟨x0, hx0⟩ : ∃ x, r[(i / 64).toNat]? = some x := ⟨_, List.getElem?_eq_getElem (by first | omega | (simp; omega))⟩
        refine dr 12 [fun (v : Value) (w' : World) => v = .slice a0 r.length c0, fun (v : Value) (w' : World) => v = .int .i64 i, fun (v : Value) (w' : World) => v = .int .i64 (i / 64), fun (v : Value) (w' : World) => v = .slice a0 r.length c0, fun (v : Value) (w' : World) => v = .int .i64 i, fun (v : Value) (w' : World) => v = .int .i64 (i / 64), fun (v : Value) (w' : World) => ∃ (g1 : Nat), v = .pointer (some ⟨g1, (i / 64).toNat * 1, none⟩) ∧ (.slice a0 r.length c0 : Value).ownBlock = some g1 ∧ AtW (MS M [own w.heap.size 74 (.slice a0 r.length c0) r, imm (.slice a_r r.length c_r) r]) w' ⟨g1, (i / 64).toNat * 1, none⟩ x0, fun (v : Value) (w' : World) => v = U x0, fun (v : Value) (w' : World) => v = .int .i64 i, fun (v : Value) (w' : World) => v = .int .i64 (i % 64), fun (v : Value) (w' : World) => v = U (bitB (i % 64)), fun (v : Value) (w' : World) => v = U (x0 + (bitB (i % 64)))] rfl (by kernel_rfl) ?_ ?_
        ·
          refine ⟨fun _ => ⟨fun f0 w4 hf0 xt3 hp0 => ?_, fun _ _ _ _ h => h⟩, ?_⟩
          ·
            have H5 := H3.ext xt3
            refine mv rfl (hf0 5 rfl) ?_
            exact ⟨_, rfl, Ext.refl _, rfl⟩
          refine ⟨fun _ => ⟨fun f1 w5 hf1 xt4 hp1 => ?_, fun _ _ _ _ h => h⟩, ?_⟩
          ·
            have H6 := H3.ext xt4
            refine mv rfl ((hf1 1 rfl).trans i1) ?_
            exact ⟨_, rfl, Ext.refl _, rfl⟩
          refine ⟨fun _ => ⟨fun f2 w6 hf2 xt5 hp2 => ?_, fun _ _ _ _ h => h⟩, ?_⟩
          ·
            have H7 := H3.ext xt5
            have s0 : f2 25 = .int .i64 i := hp2 1 rfl rfl
            refine quo rfl rfl s0 rfl (by first | omega | (simp; omega)) ?_
            exact ⟨_, rfl, Ext.refl _, rfl⟩
          refine ⟨fun _ => ⟨fun f3 w7 hf3 xt6 hp3 => ?_, fun _ _ _ _ h => h⟩, ?_⟩
          ·
            have H8 := H3.ext xt6
            refine mv rfl (hf3 5 rfl) ?_
            exact ⟨_, rfl, Ext.refl _, rfl⟩
          refine ⟨fun _ => ⟨fun f4 w8 hf4 xt7 hp4 => ?_, fun _ _ _ _ h => h⟩, ?_⟩
          ·
            have H9 := H3.ext xt7
            refine mv rfl ((hf4 1 rfl).trans i1) ?_
            exact ⟨_, rfl, Ext.refl _, rfl⟩
          refine ⟨fun _ => ⟨fun f5 w9 hf5 xt8 hp5 => ?_, fun _ _ _ _ h => h⟩, ?_⟩
          ·
            have H10 := H3.ext xt8
            have s1 : f5 28 = .int .i64 i := hp5 4 rfl rfl
            refine quo rfl rfl s1 rfl (by first | omega | (simp; omega)) ?_
            exact ⟨_, rfl, Ext.refl _, rfl⟩
          refine ⟨fun _ => ⟨fun f6 w10 hf6 xt9 hp6 => ?_, by rintro _ _ _ x_ ⟨g1, e_, hv0, hA0⟩; exact ⟨g1, e_, hv0, hA0.ext x_⟩⟩, ?_⟩
          ·
            have H11 := H3.ext xt9
            have s2 : f6 27 = .slice a0 r.length c0 := hp6 3 rfl rfl
            have s3 : f6 29 = .int .i64 (i / 64) := hp6 5 rfl rfl
            refine iaO (H11.at_ 0 rfl) rfl rfl s2 s3 (by first | omega | (simp; omega)) un60 ty74 ?_
            intro g2 x1 hv1 hx1 hA1
            obtain rfl : x0 = x1 := Option.some.inj (hx0.symm.trans hx1)
            exact ⟨_, rfl, Ext.refl _, ⟨g2, rfl, hv1, hA1⟩⟩
          refine ⟨fun _ => ⟨fun f7 w11 hf7 xt10 hp7 => ?_, fun _ _ _ _ h => h⟩, ?_⟩
          ·
            have H12 := H3.ext xt10
            obtain ⟨g3, s4, hv2, hA2⟩ : ∃ (g3 : Nat), f7 30 = .pointer (some ⟨g3, (i / 64).toNat * 1, none⟩) ∧ (.slice a0 r.length c0 : Value).ownBlock = some g3 ∧ AtW (MS M [own w.heap.size 74 (.slice a0 r.length c0) r, imm (.slice a_r r.length c_r) r]) w11 ⟨g3, (i / 64).toNat * 1, none⟩ x0 := hp7 6 rfl rfl
            refine ldU hA2 ty74 rfl s4 ?_
            exact ⟨_, rfl, Ext.refl _, rfl⟩
          refine ⟨fun _ => ⟨fun f8 w12 hf8 xt11 hp8 => ?_, fun _ _ _ _ h => h⟩, ?_⟩
          ·
            have H13 := H3.ext xt11
            refine mv rfl ((hf8 1 rfl).trans i1) ?_
            exact ⟨_, rfl, Ext.refl _, rfl⟩
          refine ⟨fun _ => ⟨fun f9 w13 hf9 xt12 hp9 => ?_, fun _ _ _ _ h => h⟩, ?_⟩
          ·
            have H14 := H3.ext xt12
            have s5 : f9 32 = .int .i64 i := hp9 8 rfl rfl
            refine rem rfl rfl s5 rfl (by first | omega | (simp; omega)) ?_
            exact ⟨_, rfl, Ext.refl _, rfl⟩
          refine ⟨fun _ => ⟨fun f10 w14 hf10 xt13 hp10 => ?_, fun _ _ _ _ h => h⟩, ?_⟩
          ·
            have H15 := H3.ext xt13
            have s6 : f10 33 = .int .i64 (i % 64) := hp10 9 rfl rfl
            have cc2 := ref01_Bit (i := (i % 64)) (w := w14) (by unfold I64 at *; omega)
            refine ca go59 rfl (ec s6 e0) cc2 ?_
            rintro _ w15 ⟨rfl, xt14⟩
            have H16 := H15.ext xt14
            exact ⟨_, rfl, xt14, rfl⟩
          refine ⟨fun _ => ⟨fun f11 w16 hf11 xt15 hp11 => ?_, fun _ _ _ _ h => h⟩, ?_⟩
          ·
            have H17 := H3.ext xt15
            have s7 : f11 31 = U x0 := hp11 7 rfl rfl
            have s8 : f11 34 = U (bitB (i % 64)) := hp11 10 rfl rfl
            refine addU x0 (bitB (i % 64)) rfl rfl s7 s8 ?_
            exact ⟨_, rfl, Ext.refl _, rfl⟩
          exact DSteps.rest rfl _
        · intro f12 w17 hf12 xt16 hp12
          have H18 := H3.ext xt16
          have s9 : f12 5 = .slice a0 r.length c0 := hf12 5 rfl
          have s10 : f12 24 = .slice a0 r.length c0 := hp12 0 rfl
          have s11 : f12 26 = .int .i64 (i / 64) := hp12 2 rfl
          have s12 : f12 35 = U (x0 + (bitB (i % 64))) := hp12 11 rfl
          refine k (iaO (H18.at_ 0 rfl) rfl rfl s10 s11 (by first | omega | (simp; omega)) un60 ty74 ?_)
          intro g4 x2 hv3 hx2 hA3
          refine k (stO H18 0 rfl hv3 rfl (by first | omega | (simp; omega)) ty74 rfl rfl rfl s12 (RV.bv.2 rfl) ?_)
          intro w18 (H19 : HI M w w18 [own w.heap.size 74 (.slice a0 r.length c0) (r.set ((i / 64).toNat) (x0 + (bitB (i % 64)))), imm (.slice a_r r.length c_r) r])
          refine z (nx (sq (rg (k (mv rfl s9 (k (asg (v := .slice a0 r.length c0) rfl rfl (z (nx (rt (r1 rfl rfl ?_)))))))))))
          have e0 : (r.set ((i / 64).toNat) (x0 + (bitB (i % 64))) : List (BitVec 64)) = setR r i := by first | exact setR_add (by omega) (by omega) (by simpa using b2) hx0 | exact setR_no (by omega) | exact (setR_had (by simpa using b2)).symm
          have l0 : r.length = (setR r i).length := by first | rfl | (rw [← e0]; simp) | simp
          have ev_ := cg1 (fun (n_0 : Nat) => (.slice a0 n_0 c0 : Value)) l0
          exact ⟨a0, c0, ev_, H19.below, (congrArg (fun (n_ : Nat) => OwnsG _ _ _ (setR r i) (.slice a0 n_ c0) _) l0).mp ((congrArg (fun (x_ : List (BitVec 64)) => OwnsG _ _ _ x_ (.slice a0 r.length c0) _) e0).mp (H19.ownsG_out 0 rfl))⟩
      ·
        refine sk (nx (sq (rg (k (mv (v := .slice a0 r.length c0) rfl rfl (k (asg (v := .slice a0 r.length c0) rfl rfl (z (nx (rt (r1 rfl rfl ?_)))))))))))
        have e0 : (r : List (BitVec 64)) = setR r i := by first | exact setR_add (by omega) (by omega) (by simpa using b2) hx0 | exact setR_no (by omega) | exact (setR_had (by simpa using b2)).symm
        have ev_ := cg1 (fun (x_0 : List (BitVec 64)) => (.slice a0 x_0.length c0 : Value)) e0
        exact ⟨a0, c0, ev_, H3.below, (congrArg (fun (x_ : List (BitVec 64)) => OwnsG _ _ _ x_ (.slice a0 x_.length c0) _) e0).mp (H3.ownsG_out 0 rfl)⟩
    · -- decide (i < (64 * (r.length : Int))) is False
      have p1 := of_decide_eq_false b1
      refine k (gn rfl rfl rfl b1 (k (gn rfl rfl rfl b1 (k (gn rfl rfl rfl b1 (k (gn rfl rfl rfl b1 (k (pickF rfl rfl rfl rfl b1 rfl (z (nx (cdF rfl rfl rfl (sk (nx (sq (rg (k (mv (v := .slice a0 r.length c0) rfl rfl (k (asg (v := .slice a0 r.length c0) rfl rfl (z (nx (rt (r1 rfl rfl ?_))))))))))))))))))))))))
      have e0 : (r : List (BitVec 64)) = setR r i := by first | exact setR_add (by omega) (by omega) (by simpa using b2) hx0 | exact setR_no (by omega) | exact (setR_had (by simpa using b2)).symm
      have ev_ := cg1 (fun (x_0 : List (BitVec 64)) => (.slice a0 x_0.length c0 : Value)) e0
      exact ⟨a0, c0, ev_, H2.below, (congrArg (fun (x_ : List (BitVec 64)) => OwnsG _ _ _ x_ (.slice a0 x_.length c0) _) e0).mp (H2.ownsG_out 0 rfl)⟩
  · -- decide (0 ≤ i) is False
    have p0 := of_decide_eq_false b0
    refine k (gn rfl rfl rfl b0 (k (gn rfl rfl rfl b0 (k (gn rfl rfl rfl b0 (k (gn rfl rfl rfl b0 (k (gn rfl rfl rfl b0 (k (pickF rfl rfl rfl rfl b0 rfl (k (mv (v := .bool false) rfl rfl (k (gn rfl rfl rfl rfl (k (gn rfl rfl rfl rfl (k (gn rfl rfl rfl rfl (k (gn rfl rfl rfl rfl (k (pickF rfl rfl rfl rfl rfl rfl (z (nx (cdF rfl rfl rfl (sk (nx (sq (rg (k (mv (v := .slice a0 r.length c0) rfl rfl (k (asg (v := .slice a0 r.length c0) rfl rfl (z (nx (rt (r1 rfl rfl ?_))))))))))))))))))))))))))))))))))))))
    have e0 : (r : List (BitVec 64)) = setR r i := by first | exact setR_add (by omega) (by omega) (by simpa using b2) hx0 | exact setR_no (by omega) | exact (setR_had (by simpa using b2)).symm
    have ev_ := cg1 (fun (x_0 : List (BitVec 64)) => (.slice a0 x_0.length c0 : Value)) e0
    exact ⟨a0, c0, ev_, H2.below, (congrArg (fun (x_ : List (BitVec 64)) => OwnsG _ _ _ x_ (.slice a0 x_.length c0) _) e0).mp (H2.ownsG_out 0 rfl)⟩
/- eyewitness/eyewitnessref02.Same -/
set_option maxRecDepth 100000 in
set_option maxHeartbeats 1600000 in
theorem ref02_Same {M : Nat → Prop} {w : World} {a_a : Option Addr} {c_a : Nat} {a : List (BitVec 64)} {a_b : Option Addr} {c_b : Nat} {b : List (BitVec 64)} (hM : ∀ b, M b → b < w.heap.size) (h_a : RV M w (.slice a_a a.length c_a) a) (h_b : RV M w (.slice a_b b.length c_b) b) : Calls Try.prog 28 #[.slice a_a a.length c_a, .slice a_b b.length c_b] w (Ret fun v w' =>  v = .bool (decide (a = b)) ∧ Ext w w') := by
  refine enter 26 Try.func28 rfl rfl rfl fun f0 ha => ?_
  have H := HI.start (M0 := M) (w := w) hM
  have H0 := H.put (it := imm (.slice a_a a.length c_a) a) rfl (by rw [MS_nil]; exact h_a)
  have H1 := H0.put (it := imm (.slice a_b b.length c_b) b) rfl (by rw [MS_cons_none rfl, MS_nil]; exact h_b)
  have ln_a := rv_len h_a
  have ln_b := rv_len h_b
  have i0 : f0 0 = .slice a_a a.length c_a := ha 0 (by simp)
  have i1 : f0 1 = .slice a_b b.length c_b := ha 1 (by simp)
  refine sq (rg (k (asg (v := .bool false) rfl rfl (z (nx (sq (sq (rg (k (mv rfl i0 (k (lnS rfl rfl un60 (k (mv rfl i1 (k (lnS rfl rfl un60 (k (neq rfl rfl rfl rfl (z (nx ?_))))))))))))))))))))
  refine cd (b := !decide ((a.length : Int) = (b.length : Int))) rfl rfl (fun b0 => ?_) (fun b0 => ?_)
  ·
    have p0 := of_decide_eq_false (nott b0)
    refine sq (rg (k (asg (v := .bool false) rfl rfl (z (nx (rt (then_ret (r1 rfl rfl ?_))))))))
    have e0 : (false : Bool) = decide (a = b) := by symm; rw [decide_eq_false_iff_not]; intro e; subst e; exact p0 rfl
    have ev_ := cg1 (fun (x_0 : Bool) => (.bool x_0 : Value)) e0
    exact ⟨ev_, H1.below⟩
  ·
    have p0 := of_decide_eq_true (notf b0)
    refine sk (nx (sq (sq (rg (k (asg (v := .int .i64 0) rfl rfl (z (nx (bk ?_)))))))))
    refine lp (fun m f w' => ∃ (j : Nat), m = a.length - j ∧ f 0 = .slice a_a a.length c_a ∧ f 1 = .slice a_b b.length c_b ∧ f 5 = .int .i64 (j : Int) ∧  HI M w w' [imm (.slice a_b b.length c_b) b, imm (.slice a_a a.length c_a) a] ∧ (j ≤ a.length) ∧ (a.take j = b.take j)) _ ⟨0, rfl, i0, i1, (ieq rfl (by first | rfl | omega | simp)), H1, (by first | assumption | omega | simp | (simp; omega)), (by first | assumption | omega | simp | (simp; omega))⟩ ?_
    rintro _ f0 w0 ⟨j, rfl, s0, s1, s2, H2, hk, hs⟩
    refine sq (sq (rg (k (mv rfl s2 (k (mv rfl s0 (k (lnS rfl rfl un60 (k (lss rfl rfl rfl rfl (z (nx ?_))))))))))))
    refine cd (b := decide ((j : Int) < (a.length : Int))) rfl rfl (fun b1 => ?_) (fun b1 => ?_)
    ·
      have p1 := of_decide_eq_true b1
      refine sk (nx (sq (bk (sq ?_))))
      obtain ⟨x0, hx0⟩ : ∃ x, a[(j : Int).toNat]? = some x := ⟨_, List.getElem?_eq_getElem (by first | omega | (simp; omega))⟩
      obtain ⟨x1, hx1⟩ : ∃ x, b[(j : Int).toNat]? = some x := ⟨_, List.getElem?_eq_getElem (by first | omega | (simp; omega))⟩
      refine dr 8 [fun (v : Value) (w' : World) => v = .slice a_a a.length c_a, fun (v : Value) (w' : World) => v = .int .i64 (j : Int), fun (v : Value) (w' : World) => ∃ (ad0 : Addr), v = .pointer (some ad0) ∧ At (MS M [imm (.slice a_b b.length c_b) b, imm (.slice a_a a.length c_a) a]) w' ad0 x0, fun (v : Value) (w' : World) => v = U x0, fun (v : Value) (w' : World) => v = .slice a_b b.length c_b, fun (v : Value) (w' : World) => v = .int .i64 (j : Int), fun (v : Value) (w' : World) => ∃ (ad1 : Addr), v = .pointer (some ad1) ∧ At (MS M [imm (.slice a_b b.length c_b) b, imm (.slice a_a a.length c_a) a]) w' ad1 x1, fun (v : Value) (w' : World) => v = U x1] rfl (by kernel_rfl) ?_ ?_
      ·
        refine ⟨fun _ => ⟨fun f1 w1 hf0 xt0 hp0 => ?_, fun _ _ _ _ h => h⟩, ?_⟩
        ·
          have H3 := H2.ext xt0
          refine mv rfl ((hf0 0 rfl).trans s0) ?_
          exact ⟨_, rfl, Ext.refl _, rfl⟩
        refine ⟨fun _ => ⟨fun f2 w2 hf1 xt1 hp1 => ?_, fun _ _ _ _ h => h⟩, ?_⟩
        ·
          have H4 := H2.ext xt1
          refine mv rfl ((hf1 5 rfl).trans s2) ?_
          exact ⟨_, rfl, Ext.refl _, rfl⟩
        refine ⟨fun _ => ⟨fun f3 w3 hf2 xt2 hp2 => ?_, by rintro _ _ _ x_ ⟨ad0, e_, hA0⟩; exact ⟨ad0, e_, hA0.lift (Up.ext x_)⟩⟩, ?_⟩
        ·
          have H5 := H2.ext xt2
          have s3 : f3 17 = .slice a_a a.length c_a := hp2 0 rfl rfl
          have s4 : f3 18 = .int .i64 (j : Int) := hp2 1 rfl rfl
          refine ia (H5.rv 1 rfl) rfl rfl s3 s4 (by first | omega | (simp; omega)) un60 ty74 ?_
          intro ad2 x2 hx2 hA2
          obtain rfl : x0 = x2 := Option.some.inj (hx0.symm.trans hx2)
          exact ⟨_, rfl, Ext.refl _, ⟨ad2, rfl, hA2⟩⟩
        refine ⟨fun _ => ⟨fun f4 w4 hf3 xt3 hp3 => ?_, fun _ _ _ _ h => h⟩, ?_⟩
        ·
          have H6 := H2.ext xt3
          obtain ⟨ad3, s5, hA3⟩ : ∃ (ad3 : Addr), f4 19 = .pointer (some ad3) ∧ At (MS M [imm (.slice a_b b.length c_b) b, imm (.slice a_a a.length c_a) a]) w4 ad3 x0 := hp3 2 rfl rfl
          have H7 := H6.put (it := atI ad3 x0) rfl hA3
          refine ldU (H7.atv 0 rfl).w ty74 rfl s5 ?_
          exact ⟨_, rfl, Ext.refl _, rfl⟩
        refine ⟨fun _ => ⟨fun f5 w5 hf4 xt4 hp4 => ?_, fun _ _ _ _ h => h⟩, ?_⟩
        ·
          have H8 := H2.ext xt4
          refine mv rfl ((hf4 1 rfl).trans s1) ?_
          exact ⟨_, rfl, Ext.refl _, rfl⟩
        refine ⟨fun _ => ⟨fun f6 w6 hf5 xt5 hp5 => ?_, fun _ _ _ _ h => h⟩, ?_⟩
        ·
          have H9 := H2.ext xt5
          refine mv rfl ((hf5 5 rfl).trans s2) ?_
          exact ⟨_, rfl, Ext.refl _, rfl⟩
        refine ⟨fun _ => ⟨fun f7 w7 hf6 xt6 hp6 => ?_, by rintro _ _ _ x_ ⟨ad1, e_, hA1⟩; exact ⟨ad1, e_, hA1.lift (Up.ext x_)⟩⟩, ?_⟩
        ·
          have H10 := H2.ext xt6
          have s6 : f7 21 = .slice a_b b.length c_b := hp6 4 rfl rfl
          have s7 : f7 22 = .int .i64 (j : Int) := hp6 5 rfl rfl
          refine ia (H10.rv 0 rfl) rfl rfl s6 s7 (by first | omega | (simp; omega)) un60 ty74 ?_
          intro ad4 x3 hx3 hA4
          obtain rfl : x1 = x3 := Option.some.inj (hx1.symm.trans hx3)
          exact ⟨_, rfl, Ext.refl _, ⟨ad4, rfl, hA4⟩⟩
        refine ⟨fun _ => ⟨fun f8 w8 hf7 xt7 hp7 => ?_, fun _ _ _ _ h => h⟩, ?_⟩
        ·
          have H11 := H2.ext xt7
          obtain ⟨ad5, s8, hA5⟩ : ∃ (ad5 : Addr), f8 23 = .pointer (some ad5) ∧ At (MS M [imm (.slice a_b b.length c_b) b, imm (.slice a_a a.length c_a) a]) w8 ad5 x1 := hp7 6 rfl rfl
          have H12 := H11.put (it := atI ad5 x1) rfl hA5
          refine ldU (H12.atv 0 rfl).w ty74 rfl s8 ?_
          exact ⟨_, rfl, Ext.refl _, rfl⟩
        exact DSteps.rest rfl _
      · intro f9 w9 hf8 xt8 hp8
        have H13 := H2.ext xt8
        have s9 : f9 0 = .slice a_a a.length c_a := (hf8 0 rfl).trans s0
        have s10 : f9 1 = .slice a_b b.length c_b := (hf8 1 rfl).trans s1
        have s11 : f9 5 = .int .i64 (j : Int) := (hf8 5 rfl).trans s2
        have s12 : f9 20 = U x0 := hp8 3 rfl
        have s13 : f9 24 = U x1 := hp8 7 rfl
        refine k (neU x0 x1 rfl rfl s12 s13 (z (nx ?_)))
        refine cd (b := !decide (x0 = x1)) rfl rfl (fun b2 => ?_) (fun b2 => ?_)
        ·
          have p2 := of_decide_eq_false (nott b2)
          refine sq (rg (k (asg (v := .bool false) rfl rfl (z (nx (rt (inb_ret (then_ret (loop_ret (inb_ret (then_ret (r1 rfl rfl ?_))))))))))))
          have e0 : (false : Bool) = decide (a = b) := by symm; rw [decide_eq_false_iff_not]; exact ne_of_at hx0 hx1 p2
          have ev_ := cg1 (fun (x_0 : Bool) => (.bool x_0 : Value)) e0
          exact ⟨ev_, H13.below⟩
        ·
          have p2 := of_decide_eq_true (notf b2)
          refine sk (inb_normal (nx (rg (k (mv rfl s11 (k (add rfl rfl rfl rfl (by unfold I64 at *; omega) (k (asg (v := .int .i64 ((j : Int) + 1)) rfl rfl (z ?_))))))))))
          refine loopN _ ?_ ⟨(j + 1), rfl, s9, s10, (ieq rfl (by first | rfl | omega | (push_cast; omega))), H13, (by first | assumption | omega | simp | (simp; omega)), (by exact take_eq_step hs hx0 hx1 p2)⟩
          omega
    ·
      have p1 := of_decide_eq_false b1
      refine ex (then_exit (loop_exit (inb_here (nx (sq (rg (k (asg (v := .bool true) rfl rfl (z (nx (rt (r1 rfl rfl ?_))))))))))))
      have e0 : (true : Bool) = decide (a = b) := by symm; rw [decide_eq_true_eq]; exact eq_of_take (by omega) hs (by omega)
      have ev_ := cg1 (fun (x_0 : Bool) => (.bool x_0 : Value)) e0
      exact ⟨ev_, H2.below⟩
/- eyewitness/eyewitnessref02.List -/
set_option maxRecDepth 100000 in
set_option maxHeartbeats 1600000 in
theorem ref02_List {M : Nat → Prop} {w : World} {a_r : Option Addr} {c_r : Nat} {r : List (BitVec 64)} (hM : ∀ b, M b → b < w.heap.size) (h_r : RV M w (.slice a_r r.length c_r) r) (hl_r : r.length ≤ 1000000000) : Calls Try.prog 58 #[.slice a_r r.length c_r] w (Ret fun v w' => ∃ (a0 : Option Addr) (c0 : Nat), v = .slice a0 (listR r).length c0 ∧ Ext w w' ∧ OwnsG M 3 w (listR r) (.slice a0 (listR r).length c0) w') := by
  refine enter 20 Try.func58 rfl rfl rfl fun f0 ha => ?_
  have H := HI.start (M0 := M) (w := w) hM
  have H0 := H.put (it := imm (.slice a_r r.length c_r) r) rfl (by rw [MS_nil]; exact h_r)
  have ln_r := rv_len h_r
  have i0 : f0 0 = .slice a_r r.length c_r := ha 0 (by simp)
  refine sq (rg (k (asg (v := .slice none 0 0) rfl rfl (z (nx (sq (rg (k (asg (v := .slice none 0 0) rfl rfl (z (nx (sq (sq (rg (k (asg (v := .int .i64 0) rfl rfl (z (nx (bk ?_)))))))))))))))))))
  have H1 := H0.nil_ Int 3
  refine lp (fun m f w' => ∃ (n : Nat) (xs : List Int) (a0 : Option Addr) (c0 : Nat), m = 64 * r.length - n ∧ f 0 = .slice a_r r.length c_r ∧ f 3 = .slice a0 xs.length c0 ∧ f 4 = .int .i64 (n : Int) ∧  HI M w w' [own w.heap.size 3 (.slice a0 xs.length c0) xs, imm (.slice a_r r.length c_r) r] ∧ (n ≤ 64 * r.length) ∧ (xs = listN r n)) _ ⟨0, ([] : List Int), none, 0, rfl, i0, rfl, (ieq rfl (by first | rfl | omega | simp)), H1, (by first | assumption | omega | simp | (simp; omega)), (by rfl)⟩ ?_
  rintro _ f0 w0 ⟨n, xs, a0, c0, rfl, s0, s1, s2, H2, hk, hs⟩
  refine sq (sq (rg (k (mv rfl s2 (k (mv rfl s0 (k (lnS rfl rfl un60 (k (mul rfl rfl rfl rfl (by unfold I64 at *; omega) (k (lss rfl rfl rfl rfl (z (nx ?_))))))))))))))
  refine cd (b := decide ((n : Int) < (64 * (r.length : Int)))) rfl rfl (fun b0 => ?_) (fun b0 => ?_)
  ·
    have p0 := of_decide_eq_true b0
    refine sk (nx (sq (bk (sq (rg (k (mv rfl s0 (k (mv rfl s2 (k ?_))))))))))
    have cc0 := ref02_Has (r := r) (i := (n : Int)) (w := w0) H2.mb (H2.rv 1 rfl) (by unfold I64 at *; omega) (by first | omega | (simp; omega))
    refine ca go37 rfl (ec rfl (ec rfl e0)) cc0 ?_
    rintro _ w1 ⟨rfl, xt0⟩
    have H3 := H2.ext xt0
    refine z (nx ?_)
    refine cd (b := hasR r (n : Int)) rfl rfl (fun b1 => ?_) (fun b1 => ?_)
    ·
      refine rg (k (mv rfl s1 (k (mv rfl s2 (k (bs (xs := ([(n : Int)] : List Int)) (cells := #[.int .i64 (n : Int)]) (e := 3) H3 rfl (pbc rfl pb0) (fun _ => by kernel_rfl) ⟨[.int .i64 (n : Int)], [], rfl, ⟨rfl, (show I64 ((n : Int)) from (by unfold I64 at *; omega))⟩, rfl⟩ rfl (by unfold maxLen; omega) ?_))))))
      intro g0 w2 xt1 (H4 : HI M w w2 [own w.heap.size 3 (.slice (some ⟨g0, 0, none⟩) 1 1) ([(n : Int)] : List Int), own w.heap.size 3 (.slice a0 xs.length c0) xs, imm (.slice a_r r.length c_r) r])
      refine k (ap H4 1 rfl rfl rfl rfl rfl rfl (own_src (H4.at_ 0 rfl)) un27 ty3 rfl (by have h_ := listN_length r n; rw [hs]; simp only [List.length_cons, List.length_nil]; omega) (by have h_ := listN_length r n; rw [hs]; simp only [List.length_cons, List.length_nil]; omega) ?_)
      intro a1 c1 w3 (H5 : HI M w w3 [own w.heap.size 3 (.slice (some ⟨g0, 0, none⟩) 1 1) ([(n : Int)] : List Int), own w.heap.size 3 (.slice a1 (xs ++ ([(n : Int)] : List Int)).length c1) (xs ++ ([(n : Int)] : List Int)), imm (.slice a_r r.length c_r) r])
      refine k (asg (v := .slice a1 (xs ++ ([(n : Int)] : List Int)).length c1) rfl rfl (z (inb_normal (nx (rg (k (mv rfl s2 (k (add rfl rfl rfl rfl (by unfold I64 at *; omega) (k (asg (v := .int .i64 ((n : Int) + 1)) rfl rfl (z ?_))))))))))))
      have H6 : HI M w w3 [own w.heap.size 3 (.slice a1 (xs ++ ([(n : Int)] : List Int)).length c1) (xs ++ ([(n : Int)] : List Int)), imm (.slice a_r r.length c_r) r] := H5.pickN [1, 2] (by decide) rfl
      refine loopN _ ?_ ⟨(n + 1), (xs ++ ([(n : Int)] : List Int)), a1, c1, rfl, s0, rfl, (ieq rfl (by first | rfl | omega | (push_cast; omega))), H6, (by first | assumption | omega | simp | (simp; omega)), (by rw [hs]; first | exact (listN_succ_yes b1).symm | exact (listN_succ_no b1).symm)⟩
      omega
    ·
      refine sk (inb_normal (nx (rg (k (mv rfl s2 (k (add rfl rfl rfl rfl (by unfold I64 at *; omega) (k (asg (v := .int .i64 ((n : Int) + 1)) rfl rfl (z ?_))))))))))
      refine loopN _ ?_ ⟨(n + 1), xs, a0, c0, rfl, s0, s1, (ieq rfl (by first | rfl | omega | (push_cast; omega))), H3, (by first | assumption | omega | simp | (simp; omega)), (by rw [hs]; first | exact (listN_succ_yes b1).symm | exact (listN_succ_no b1).symm)⟩
      omega
  ·
    have p0 := of_decide_eq_false b0
    refine ex (then_exit (loop_exit (inb_here (nx (sq (rg (k (mv rfl s1 (k (asg (v := .slice a0 xs.length c0) rfl rfl (z (nx (rt (r1 rfl rfl ?_))))))))))))))
    have e0 : (xs : List Int) = listR r := by rw [hs, show n = 64 * r.length from by omega]; exact listN_all r
    have ev_ := cg1 (fun (x_0 : List Int) => (.slice a0 x_0.length c0 : Value)) e0
    exact ⟨a0, c0, ev_, H2.below, (congrArg (fun (x_ : List Int) => OwnsG _ _ _ x_ (.slice a0 x_.length c0) _) e0).mp (H2.ownsG_out 0 rfl)⟩
/- eyewitness/eyewitnessref02.Sub -/
set_option maxRecDepth 100000 in
set_option maxHeartbeats 1600000 in
theorem ref02_Sub {M : Nat → Prop} {w : World} {a_a : Option Addr} {c_a : Nat} {a : List (BitVec 64)} {a_b : Option Addr} {c_b : Nat} {b : List (BitVec 64)} (hM : ∀ b, M b → b < w.heap.size) (h_a : RV M w (.slice a_a a.length c_a) a) (h_b : RV M w (.slice a_b b.length c_b) b) (hl_a : a.length ≤ 1000000000) (hl_b : b.length ≤ 1000000000) : Calls Try.prog 38 #[.slice a_a a.length c_a, .slice a_b b.length c_b] w (Ret fun v w' =>  v = .bool (subR a b) ∧ Ext w w') := by
  refine enter 22 Try.func38 rfl rfl rfl fun f0 ha => ?_
  have H := HI.start (M0 := M) (w := w) hM
  have H0 := H.put (it := imm (.slice a_a a.length c_a) a) rfl (by rw [MS_nil]; exact h_a)
  have H1 := H0.put (it := imm (.slice a_b b.length c_b) b) rfl (by rw [MS_cons_none rfl, MS_nil]; exact h_b)
  have ln_a := rv_len h_a
  have ln_b := rv_len h_b
  have i0 : f0 0 = .slice a_a a.length c_a := ha 0 (by simp)
  have i1 : f0 1 = .slice a_b b.length c_b := ha 1 (by simp)
  refine sq (rg (k (asg (v := .bool false) rfl rfl (z (nx (sq (rg (k (mv rfl i0 (k ?_))))))))))
  have cc0 := ref02_List (r := a) (w := w) H1.mb (H1.rv 1 rfl) (by first | omega | (simp; omega))
  refine ca go58 rfl (ec rfl e0) cc0 ?_
  rintro _ w0 ⟨a0, c0, rfl, xt0, rv0⟩
  have H2 := H1.ownsG rv0
  refine k (asg (v := .slice a0 (listR a).length c0) rfl rfl (z (nx (sq (sq (rg (k (asg (v := .int .i64 0) rfl rfl (z (nx (bk ?_)))))))))))
  refine lp (fun m f w' => ∃ (j : Nat), m = (listR a).length - j ∧ f 1 = .slice a_b b.length c_b ∧ f 5 = .slice a0 (listR a).length c0 ∧ f 6 = .int .i64 (j : Int) ∧  HI M w w' [own w.heap.size 3 (.slice a0 (listR a).length c0) (listR a), imm (.slice a_b b.length c_b) b, imm (.slice a_a a.length c_a) a] ∧ (j ≤ (listR a).length) ∧ (((listR a).take j).all (hasR b) = true)) _ ⟨0, rfl, i1, rfl, (ieq rfl (by first | rfl | omega | simp)), H2, (by first | assumption | omega | simp | (simp; omega)), (by rfl)⟩ ?_
  rintro _ f0 w1 ⟨j, rfl, s0, s1, s2, H3, hk, hs⟩
  refine sq (sq (rg (k (mv rfl s2 (k (mv rfl s1 (k (lnS rfl rfl un27 (k (lss rfl rfl rfl rfl (z (nx ?_))))))))))))
  refine cd (b := decide ((j : Int) < ((listR a).length : Int))) rfl rfl (fun b0 => ?_) (fun b0 => ?_)
  ·
    have p0 := of_decide_eq_true b0
    refine sk (nx (sq (bk (sq (rg (k (mv rfl s0 (k (mv rfl s1 (k (mv rfl s2 (k (iaO (H3.at_ 0 rfl) rfl rfl rfl rfl (by first | omega | (simp; omega)) un27 ty3 ?_)))))))))))))
    intro g0 x0 hv0 hx0 hA0
    refine k (ldI hA0 ty3 rfl rfl ?_)
    intro rv1
    refine k ?_
    have cc1 := ref02_Has (r := b) (i := x0) (w := w1) H3.mb (H3.rv 1 rfl) (by first | assumption | (unfold I64 at *; omega)) (by first | omega | (simp; omega))
    refine ca go37 rfl (ec rfl (ec rfl e0)) cc1 ?_
    rintro _ w2 ⟨rfl, xt1⟩
    have H4 := H3.ext xt1
    refine k (not_ rfl rfl (z (nx ?_)))
    refine cd (b := !(hasR b x0)) rfl rfl (fun b1 => ?_) (fun b1 => ?_)
    ·
      refine sq (rg (k (asg (v := .bool false) rfl rfl (z (nx (rt (inb_ret (then_ret (loop_ret (inb_ret (then_ret (r1 rfl rfl ?_))))))))))))
      have e0 : (false : Bool) = subR a b := by rw [← sub_has]; first | exact (all_no hx0 (by simpa using b1)).symm | (rw [take_end (by omega)] at hs; exact hs.symm)
      have ev_ := cg1 (fun (x_0 : Bool) => (.bool x_0 : Value)) e0
      exact ⟨ev_, H4.below⟩
    ·
      refine sk (inb_normal (nx (rg (k (mv rfl s2 (k (add rfl rfl rfl rfl (by have h_ := listR_length a; unfold I64; omega) (k (asg (v := .int .i64 ((j : Int) + 1)) rfl rfl (z ?_))))))))))
      refine loopN _ ?_ ⟨(j + 1), rfl, s0, s1, (ieq rfl (by first | rfl | omega | (push_cast; omega))), H4, (by first | assumption | omega | simp | (simp; omega)), (by exact all_take hx0 hs (by simpa using b1))⟩
      omega
  ·
    have p0 := of_decide_eq_false b0
    refine ex (then_exit (loop_exit (inb_here (nx (sq (rg (k (asg (v := .bool true) rfl rfl (z (nx (rt (r1 rfl rfl ?_))))))))))))
    have e0 : (true : Bool) = subR a b := by rw [← sub_has]; first | exact (all_no hx0 (by simpa using b1)).symm | (rw [take_end (by omega)] at hs; exact hs.symm)
    have ev_ := cg1 (fun (x_0 : Bool) => (.bool x_0 : Value)) e0
    exact ⟨ev_, H3.below⟩
end Go.Proofs.Ytmhopljngkgidaa
namespace Go.Proofs.Ytmhopljngkgidaa
open Go.Ew Go.RowKit
set_option linter.unusedVariables false
set_option linter.unusedSimpArgs false
attribute [local irreducible] WL WC SO Code.wp wpList retQ Ret
attribute [local irreducible] bitB hasW inR hasR setR countW countR subR words newR listR orR firstW tab8
theorem ty35 : TyF Try.prog 35 2 true 32 (.agg #[.int .i64 0, .slice none 0 0]) := ⟨by kernel_rfl, by kernel_rfl⟩
theorem ty60 : TyF Try.prog 60 1 false 24 (.slice none 0 0) := ⟨by kernel_rfl, by kernel_rfl⟩
theorem un33 : Try.prog.underlying 33 = some (.slice 60) := by kernel_rfl
theorem go47 : GoF Try.prog 47 := ⟨_, _, Try.func47, rfl, by kernel_rfl⟩
/- eyewitness/mat.New -/
set_option maxRecDepth 100000 in
set_option maxHeartbeats 1600000 in
theorem mat_New {M : Nat → Prop} {w : World} {n : Int} (hM : ∀ b, M b → b < w.heap.size) (h_n : I64 n) : Calls Try.prog 29 #[.int .i64 n] w (Ret fun v w' => ∃ (a0 : Option Addr) (c0 : Nat), v = .tuple #[.agg #[.int .i64 (newMN n), .slice a0 (newMR n).length c0], .int .i64 (newME n)] ∧ Ext w w' ∧ OwnsG M 60 w (newMR n) (.slice a0 (newMR n).length c0) w') := by
  refine enter 29 Try.func29 rfl rfl rfl fun f0 ha => ?_
  have H := HI.start (M0 := M) (w := w) hM
  have i0 : f0 0 = .int .i64 n := ha 0 (by simp)
  refine sq (rg (k (al H ty35 ?_)))
  intro bb0 w0 xt0 (H0 : HI M w w0 [box bb0 #[.int .i64 0, .slice none 0 0] 35])
  refine k (asg (v := .int .i64 0) rfl rfl (z (nx (sq (sq (rg (k (mv rfl i0 (k (lss rfl rfl rfl rfl (k (mv (v := .bool (decide (n < 0))) rfl rfl ?_))))))))))))
  rcases Bool.eq_false_or_eq_true (decide (n < 0)) with b0 | b0
  · -- decide (n < 0) is True
    have p0 := of_decide_eq_true b0
    refine k (gn rfl rfl rfl b0 (k (gn rfl rfl rfl b0 (k (pickT rfl rfl rfl rfl b0 rfl (z (nx (cdT rfl rfl rfl (sq (rg (k (bd (v := .agg #[.int .i64 0, .slice none 0 0]) rfl pb0 (fun _ => by kernel_rfl) (k (stX H0 0 rfl ty35 rfl rfl rfl rfl rfl rfl rfl ?_))))))))))))))
    intro w1 (H1 : HI M w w1 [box bb0 #[.int .i64 0, .slice none 0 0] 35])
    refine k (asg (v := .int .i64 1) rfl rfl (z (nx (rt (then_ret (rc2 H1 0 rfl ty35 rfl rfl rfl rfl rfl (by decide) ?_))))))
    have e0 : (0 : Int) = newMN n := by first | exact (newM_no (okN_no.2 (by omega))).1.symm | exact (newM_yes (okN_iff.2 (by omega))).1.symm
    have e1 : ([] : List (List (BitVec 64))) = newMR n := by first | exact (newM_no (okN_no.2 (by omega))).2.1.symm | (rw [(newM_yes (okN_iff.2 (by omega))).2.1, hs]; exact fillTo_end (by omega))
    have e2 : (1 : Int) = newME n := by first | exact (newM_no (okN_no.2 (by omega))).2.2.symm | exact (newM_yes (okN_iff.2 (by omega))).2.2.symm
    have ev_ := cg3 (fun (x_0 : Int) (x_1 : List (List (BitVec 64))) (x_2 : Int) => (.tuple #[.agg #[.int .i64 x_0, .slice none x_1.length 0], .int .i64 x_2] : Value)) e0 e1 e2
    exact ⟨none, 0, ev_, H1.below, (congrArg (fun (x_ : List (List (BitVec 64))) => OwnsG _ _ _ x_ (.slice none x_.length 0) _) e1).mp (ownsG_nil H1.below)⟩
  · -- decide (n < 0) is False
    have p0 := of_decide_eq_false b0
    refine k (gy rfl rfl rfl b0 (mv rfl i0 (k (gy rfl rfl rfl b0 (gtr rfl rfl rfl rfl (k (pickF rfl rfl rfl rfl b0 rfl (z (nx ?_)))))))))
    refine cd (b := decide (4096 < n)) rfl rfl (fun b1 => ?_) (fun b1 => ?_)
    ·
      have p1 := of_decide_eq_true b1
      refine sq (rg (k (bd (v := .agg #[.int .i64 0, .slice none 0 0]) rfl pb0 (fun _ => by kernel_rfl) (k (stX H0 0 rfl ty35 rfl rfl rfl rfl rfl rfl rfl ?_)))))
      intro w1 (H1 : HI M w w1 [box bb0 #[.int .i64 0, .slice none 0 0] 35])
      refine k (asg (v := .int .i64 1) rfl rfl (z (nx (rt (then_ret (rc2 H1 0 rfl ty35 rfl rfl rfl rfl rfl (by decide) ?_))))))
      have e0 : (0 : Int) = newMN n := by first | exact (newM_no (okN_no.2 (by omega))).1.symm | exact (newM_yes (okN_iff.2 (by omega))).1.symm
      have e1 : ([] : List (List (BitVec 64))) = newMR n := by first | exact (newM_no (okN_no.2 (by omega))).2.1.symm | (rw [(newM_yes (okN_iff.2 (by omega))).2.1, hs]; exact fillTo_end (by omega))
      have e2 : (1 : Int) = newME n := by first | exact (newM_no (okN_no.2 (by omega))).2.2.symm | exact (newM_yes (okN_iff.2 (by omega))).2.2.symm
      have ev_ := cg3 (fun (x_0 : Int) (x_1 : List (List (BitVec 64))) (x_2 : Int) => (.tuple #[.agg #[.int .i64 x_0, .slice none x_1.length 0], .int .i64 x_2] : Value)) e0 e1 e2
      exact ⟨none, 0, ev_, H1.below, (congrArg (fun (x_ : List (List (BitVec 64))) => OwnsG _ _ _ x_ (.slice none x_.length 0) _) e1).mp (ownsG_nil H1.below)⟩
    ·
      have p1 := of_decide_eq_false b1
      refine sk (nx (sq (rg (k (mv rfl i0 (k ?_))))))
      have n0 : ((n.toNat : Nat) : Int) = n := Int.toNat_of_nonneg (by omega)
      refine mk (m := n.toNat) (zx := ([] : (List (BitVec 64)))) H0 rfl rfl (by rw [n0]; exact rfl) (by rw [n0]; exact rfl) un33 ty60 (fun _ _ => ⟨_, rfl, rs_nil _ _⟩) (by first | omega | (simp; omega)) (by first | omega | (simp; omega)) ?_
      intro g0 w1 xt1 (H1 : HI M w w1 [own w.heap.size 60 (.slice (some ⟨g0, 0, none⟩) n.toNat n.toNat) (List.replicate n.toNat ([] : (List (BitVec 64)))), box bb0 #[.int .i64 0, .slice none 0 0] 35])
      refine k (asg (v := .slice (some ⟨g0, 0, none⟩) n.toNat n.toNat) rfl rfl (z (nx (sq (sq (rg (k (mv (v := .slice (some ⟨g0, 0, none⟩) n.toNat n.toNat) rfl rfl (k (lnS rfl rfl un33 (k (mv (v := .int .i64 0) rfl rfl (z (nx (bk ?_)))))))))))))))
      refine lp (fun m f w' => ∃ (j : Nat) (xs : List (List (BitVec 64))), m = n.toNat - j ∧ f 0 = .int .i64 n ∧ f 2 = .pointer (some ⟨bb0, 0, none⟩) ∧ f 4 = .slice (some ⟨g0, 0, none⟩) n.toNat n.toNat ∧ f 16 = .int .i64 (n.toNat : Int) ∧ f 17 = .int .i64 (j : Int) ∧  HI M w w' [own w.heap.size 60 (.slice (some ⟨g0, 0, none⟩) n.toNat n.toNat) xs, box bb0 #[.int .i64 0, .slice none 0 0] 35] ∧ (j ≤ n.toNat) ∧ (xs.length = n.toNat) ∧ (xs = fillTo n.toNat j (newR n) [])) _ ⟨0, (List.replicate n.toNat ([] : (List (BitVec 64)))), rfl, i0, rfl, rfl, rfl, (ieq rfl (by first | rfl | omega | simp)), H1, (by first | assumption | omega | simp | (simp; omega)), (by simp), (by exact fillTo_zero _ _ _)⟩ ?_
      rintro _ f0 w2 ⟨j, xs, rfl, s0, s1, s2, s3, s4, H2, hk, hl, hs⟩
      refine sq (rg (k (lss rfl rfl s4 s3 (z (nx (sq ?_))))))
      refine cd (b := decide ((j : Int) < (n.toNat : Int))) rfl rfl (fun b2 => ?_) (fun b2 => ?_)
      ·
        have p2 := of_decide_eq_true b2
        refine sk (nx (sq (bk (sq (rg (k (mv rfl s4 (k (asg (v := .int .i64 (j : Int)) rfl rfl (z (nx (rg (k (mv rfl s2 (k (mv (v := .int .i64 (j : Int)) rfl rfl (k (mv rfl s0 (k ?_)))))))))))))))))))
        have cc0 := row_New (n := n) (w := w2) H2.mb (by unfold I64 at *; omega) (by first | omega | (simp; omega))
        refine ca go47 rfl (ec rfl e0) cc0 ?_
        rintro _ w3 ⟨a0, c0, rfl, xt2, rv0⟩
        have H3 := H2.ownsG rv0
        refine k (iaO (H3.at_ 1 rfl) rfl rfl rfl rfl (by first | omega | (simp; omega)) un33 ty60 ?_)
        intro g1 x0 hv0 hx0 hA0
        refine k ?_
        have H4 := H3.freeze 0 rfl
        refine stO H4 1 rfl hv0 rfl (by first | omega | (simp; omega)) ty60 rfl rfl rfl rfl (H4.rv 0 rfl) ?_
        intro w4 (H5 : HI M w w4 [imm (.slice a0 (newR n).length c0) (newR n), own w.heap.size 60 (.slice (some ⟨g0, 0, none⟩) n.toNat n.toNat) (xs.set ((j : Int).toNat) (newR n)), box bb0 #[.int .i64 0, .slice none 0 0] 35])
        refine z (inb_normal (nx (rg (k (add rfl rfl s4 rfl (by unfold I64 at *; omega) (k (mv (v := .int .i64 ((j : Int) + 1)) rfl rfl (z ?_))))))))
        have H6 : HI M w w4 [own w.heap.size 60 (.slice (some ⟨g0, 0, none⟩) n.toNat n.toNat) (xs.set ((j : Int).toNat) (newR n)), box bb0 #[.int .i64 0, .slice none 0 0] 35] := H5.pickN [1, 2] (by decide) rfl
        refine loopN _ ?_ ⟨(j + 1), (xs.set ((j : Int).toNat) (newR n)), rfl, s0, s1, s2, s3, (ieq rfl (by first | rfl | omega | (push_cast; omega))), H6, (by first | assumption | omega | simp | (simp; omega)), (by simpa using hl), (by rw [hs]; exact fillTo_set (by omega))⟩
        omega
      ·
        have p2 := of_decide_eq_false b2
        refine ex (then_exit (loop_exit (inb_here (nx (sq (rg (k (mv rfl s0 (k (mv rfl s2 (k (bd (v := .agg #[.int .i64 n, .slice (some ⟨g0, 0, none⟩) n.toNat n.toNat]) rfl (pbc rfl (pbc rfl pb0)) (fun _ => by kernel_rfl) (k (stX H2 1 rfl ty35 rfl rfl s1 rfl rfl rfl rfl ?_))))))))))))))
        intro w3 (H3 : HI M w w3 [own w.heap.size 60 (.slice (some ⟨g0, 0, none⟩) n.toNat n.toNat) xs, box bb0 #[.int .i64 n, .slice (some ⟨g0, 0, none⟩) n.toNat n.toNat] 35])
        refine k (asg (v := .int .i64 0) rfl rfl (z (nx (rt (rc2 H3 1 rfl ty35 rfl rfl rfl s1 rfl (by decide) ?_)))))
        have e0 : (n : Int) = newMN n := by first | exact (newM_no (okN_no.2 (by omega))).1.symm | exact (newM_yes (okN_iff.2 (by omega))).1.symm
        have e1 : (xs : List (List (BitVec 64))) = newMR n := by first | exact (newM_no (okN_no.2 (by omega))).2.1.symm | (rw [(newM_yes (okN_iff.2 (by omega))).2.1, hs]; exact fillTo_end (by omega))
        have l1 : n.toNat = (newMR n).length := by first | rfl | (rw [← e1]; omega) | (rw [← e1]; simp) | simp
        have e2 : (0 : Int) = newME n := by first | exact (newM_no (okN_no.2 (by omega))).2.2.symm | exact (newM_yes (okN_iff.2 (by omega))).2.2.symm
        have ev_ := cg3 (fun (x_0 : Int) (n_1 : Nat) (x_2 : Int) => (.tuple #[.agg #[.int .i64 x_0, .slice (some ⟨g0, 0, none⟩) n_1 n.toNat], .int .i64 x_2] : Value)) e0 l1 e2
        exact ⟨(some ⟨g0, 0, none⟩), n.toNat, ev_, H3.below, (congrArg (fun (n_ : Nat) => OwnsG _ _ _ (newMR n) (.slice (some ⟨g0, 0, none⟩) n_ n.toNat) _) l1).mp ((congrArg (fun (x_ : List (List (BitVec 64))) => OwnsG _ _ _ x_ (.slice (some ⟨g0, 0, none⟩) n.toNat n.toNat) _) e1).mp (H3.ownsG_out 0 rfl))⟩
end Go.Proofs.Ytmhopljngkgidaa
namespace Go.Proofs.Ytmhopljngkgidaa
open Go.Ew Go.RowKit
set_option linter.unusedVariables false
set_option linter.unusedSimpArgs false
attribute [local irreducible] WL WC SO Code.wp wpList retQ Ret
attribute [local irreducible] bitB hasW inR hasR setR countW countR subR words newR listR orR firstW tab8
theorem fl35_0 : FldF Try.prog 35 0 0 := ⟨_, _, Try.underlying35, rfl, rfl, by kernel_rfl⟩
theorem fl35_1 : FldF Try.prog 35 1 1 := ⟨_, _, Try.underlying35, rfl, rfl, by kernel_rfl⟩
theorem ty33 : TyF Try.prog 33 1 false 24 (.slice none 0 0) := ⟨by kernel_rfl, by kernel_rfl⟩
theorem go52 : GoF Try.prog 52 := ⟨_, _, Try.func52, rfl, by kernel_rfl⟩
/- eyewitness/mat.Or -/
set_option maxRecDepth 100000 in
set_option maxHeartbeats 1600000 in
theorem mat_Or {M : Nat → Prop} {w : World} {an : Int} {a_ar : Option Addr} {c_ar : Nat} {ar : List (List (BitVec 64))} {bn : Int} {a_br : Option Addr} {c_br : Nat} {br : List (List (BitVec 64))} (hM : ∀ b, M b → b < w.heap.size) (h_an : I64 an) (h_ar : RV M w (.slice a_ar ar.length c_ar) ar) (h_bn : I64 bn) (h_br : RV M w (.slice a_br br.length c_br) br) (hsq_a : ((ar.length : Nat) : Int) = an) (hrw_a : ∀ x ∈ ar, x.length ≤ 1000000000) (hl4_a : an ≤ 4096) (hsq_b : ((br.length : Nat) : Int) = bn) (hrw_b : ∀ x ∈ br, x.length ≤ 1000000000) (hl4_b : bn ≤ 4096) : Calls Try.prog 32 #[.agg #[.int .i64 an, .slice a_ar ar.length c_ar], .agg #[.int .i64 bn, .slice a_br br.length c_br]] w (Ret fun v w' => ∃ (a0 : Option Addr) (c0 : Nat), v = .tuple #[.agg #[.int .i64 (orMN an bn), .slice a0 (orMR an ar bn br).length c0], .int .i64 (orME an bn)] ∧ Ext w w' ∧ OwnsG M 60 w (orMR an ar bn br) (.slice a0 (orMR an ar bn br).length c0) w') := by
  refine enter 41 Try.func32 rfl rfl rfl fun f0 ha => ?_
  have H := HI.start (M0 := M) (w := w) hM
  have H0 := H.put (it := imm (.slice a_ar ar.length c_ar) ar) rfl (by rw [MS_nil]; exact h_ar)
  have H1 := H0.put (it := imm (.slice a_br br.length c_br) br) rfl (by rw [MS_cons_none rfl, MS_nil]; exact h_br)
  have ln_ar := rv_len h_ar
  have ln_br := rv_len h_br
  have i0 : f0 0 = .agg #[.int .i64 an, .slice a_ar ar.length c_ar] := ha 0 (by simp)
  have i1 : f0 1 = .agg #[.int .i64 bn, .slice a_br br.length c_br] := ha 1 (by simp)
  refine sq (rg (k (bx H1 rfl i0 ?_)))
  intro bb0 w0 xt0 (H2 : HI M w w0 [box bb0 #[.int .i64 an, .slice a_ar ar.length c_ar] 35, imm (.slice a_br br.length c_br) br, imm (.slice a_ar ar.length c_ar) ar])
  refine k (bx H2 rfl i1 ?_)
  intro bb1 w1 xt1 (H3 : HI M w w1 [box bb1 #[.int .i64 bn, .slice a_br br.length c_br] 35, box bb0 #[.int .i64 an, .slice a_ar ar.length c_ar] 35, imm (.slice a_br br.length c_br) br, imm (.slice a_ar ar.length c_ar) ar])
  refine k (al H3 ty35 ?_)
  intro bb2 w2 xt2 (H4 : HI M w w2 [box bb2 #[.int .i64 0, .slice none 0 0] 35, box bb1 #[.int .i64 bn, .slice a_br br.length c_br] 35, box bb0 #[.int .i64 an, .slice a_ar ar.length c_ar] 35, imm (.slice a_br br.length c_br) br, imm (.slice a_ar ar.length c_ar) ar])
  refine k (asg (v := .int .i64 0) rfl rfl (z (nx (sq (sq (rg (k (fa fl35_0 rfl rfl (k (ldX H4 2 rfl ty3 rfl rfl (by decide) rfl (k (fa fl35_0 rfl rfl (k (ldX H4 1 rfl ty3 rfl rfl (by decide) rfl (k (neq rfl rfl rfl rfl (z (nx ?_))))))))))))))))))
  refine cd (b := !decide (an = bn)) rfl rfl (fun b0 => ?_) (fun b0 => ?_)
  ·
    have p0 := of_decide_eq_false (nott b0)
    refine sq (rg (k (bd (v := .agg #[.int .i64 0, .slice none 0 0]) rfl pb0 (fun _ => by kernel_rfl) (k (stX H4 0 rfl ty35 rfl rfl rfl rfl rfl rfl rfl ?_)))))
    intro w3 (H5 : HI M w w3 [box bb2 #[.int .i64 0, .slice none 0 0] 35, box bb1 #[.int .i64 bn, .slice a_br br.length c_br] 35, box bb0 #[.int .i64 an, .slice a_ar ar.length c_ar] 35, imm (.slice a_br br.length c_br) br, imm (.slice a_ar ar.length c_ar) ar])
    refine k (asg (v := .int .i64 1) rfl rfl (z (nx (rt (then_ret (rc2 H5 0 rfl ty35 rfl rfl rfl rfl rfl (by decide) ?_))))))
    have e0 : (0 : Int) = orMN an bn := by first | exact (orM_no (ar := ar) (br := br) p0).1.symm | exact (orM_yes (ar := ar) (br := br) p0).1.symm
    have e1 : ([] : List (List (BitVec 64))) = orMR an ar bn br := by first | exact (orM_no p0).2.1.symm | (rw [(orM_yes p0).2.1, hs]; exact orFill_end (by omega) hk)
    have e2 : (1 : Int) = orME an bn := by first | exact (orM_no (ar := ar) (br := br) p0).2.2.symm | exact (orM_yes (ar := ar) (br := br) p0).2.2.symm
    have ev_ := cg3 (fun (x_0 : Int) (x_1 : List (List (BitVec 64))) (x_2 : Int) => (.tuple #[.agg #[.int .i64 x_0, .slice none x_1.length 0], .int .i64 x_2] : Value)) e0 e1 e2
    exact ⟨none, 0, ev_, H5.below, (congrArg (fun (x_ : List (List (BitVec 64))) => OwnsG _ _ _ x_ (.slice none x_.length 0) _) e1).mp (ownsG_nil H5.below)⟩
  ·
    have p0 := of_decide_eq_true (notf b0)
    refine sk (nx (sq (rg (k (fa fl35_0 rfl rfl (k (ldX H4 2 rfl ty3 rfl rfl (by decide) rfl (k ?_))))))))
    have n0 : ((an.toNat : Nat) : Int) = an := Int.toNat_of_nonneg (by omega)
    refine mk (m := an.toNat) (zx := ([] : (List (BitVec 64)))) H4 rfl rfl (by rw [n0]; exact rfl) (by rw [n0]; exact rfl) un33 ty60 (fun _ _ => ⟨_, rfl, rs_nil _ _⟩) (by omega) (by omega) ?_
    intro g0 w3 xt3 (H5 : HI M w w3 [own w.heap.size 60 (.slice (some ⟨g0, 0, none⟩) an.toNat an.toNat) (List.replicate an.toNat ([] : (List (BitVec 64)))), box bb2 #[.int .i64 0, .slice none 0 0] 35, box bb1 #[.int .i64 bn, .slice a_br br.length c_br] 35, box bb0 #[.int .i64 an, .slice a_ar ar.length c_ar] 35, imm (.slice a_br br.length c_br) br, imm (.slice a_ar ar.length c_ar) ar])
    refine k (asg (v := .slice (some ⟨g0, 0, none⟩) an.toNat an.toNat) rfl rfl (z (nx (sq (sq (rg (k (mv (v := .slice (some ⟨g0, 0, none⟩) an.toNat an.toNat) rfl rfl (k (lnS rfl rfl un33 (k (mv (v := .int .i64 0) rfl rfl (z (nx (bk ?_)))))))))))))))
    refine lp (fun m f w' => ∃ (j : Nat) (xs : List (List (BitVec 64))), m = an.toNat - j ∧ f 2 = .pointer (some ⟨bb0, 0, none⟩) ∧ f 3 = .pointer (some ⟨bb1, 0, none⟩) ∧ f 4 = .pointer (some ⟨bb2, 0, none⟩) ∧ f 6 = .slice (some ⟨g0, 0, none⟩) an.toNat an.toNat ∧ f 18 = .int .i64 (an.toNat : Int) ∧ f 19 = .int .i64 (j : Int) ∧  HI M w w' [own w.heap.size 60 (.slice (some ⟨g0, 0, none⟩) an.toNat an.toNat) xs, box bb2 #[.int .i64 0, .slice none 0 0] 35, box bb1 #[.int .i64 bn, .slice a_br br.length c_br] 35, box bb0 #[.int .i64 an, .slice a_ar ar.length c_ar] 35, imm (.slice a_br br.length c_br) br, imm (.slice a_ar ar.length c_ar) ar] ∧ (j ≤ an.toNat) ∧ (xs.length = an.toNat) ∧ (xs = orFill ar br an.toNat j)) _ ⟨0, (List.replicate an.toNat ([] : (List (BitVec 64)))), rfl, rfl, rfl, rfl, rfl, rfl, (ieq rfl (by first | rfl | omega | simp)), H5, (by first | assumption | omega | simp | (simp; omega)), (by simp), (by exact orFill_zero _ _ _)⟩ ?_
    rintro _ f0 w4 ⟨j, xs, rfl, s0, s1, s2, s3, s4, s5, H6, hk, hl, hs⟩
    refine sq (rg (k (lss rfl rfl s5 s4 (z (nx (sq ?_))))))
    refine cd (b := decide ((j : Int) < (an.toNat : Int))) rfl rfl (fun b1 => ?_) (fun b1 => ?_)
    ·
      have p1 := of_decide_eq_true b1
      refine sk (nx (sq (bk (sq (rg (k (mv rfl s5 (k (asg (v := .int .i64 (j : Int)) rfl rfl (z (nx ?_)))))))))))
      obtain ⟨x0, hx0⟩ : ∃ x, ar[(j : Int).toNat]? = some x := ⟨_, List.getElem?_eq_getElem (by first | omega | (simp; omega))⟩
      obtain ⟨x1, hx1⟩ : ∃ x, br[(j : Int).toNat]? = some x := ⟨_, List.getElem?_eq_getElem (by first | omega | (simp; omega))⟩
      refine dr 13 [fun (v : Value) (w' : World) => v = .slice (some ⟨g0, 0, none⟩) an.toNat an.toNat, fun (v : Value) (w' : World) => v = .int .i64 (j : Int), fun (v : Value) (w' : World) => v = .pointer (some ⟨bb0, 1, none⟩), fun (v : Value) (w' : World) => v = .slice a_ar ar.length c_ar, fun (v : Value) (w' : World) => v = .int .i64 (j : Int), fun (v : Value) (w' : World) => ∃ (ad0 : Addr), v = .pointer (some ad0) ∧ At (MS M [own w.heap.size 60 (.slice (some ⟨g0, 0, none⟩) an.toNat an.toNat) xs, box bb2 #[.int .i64 0, .slice none 0 0] 35, box bb1 #[.int .i64 bn, .slice a_br br.length c_br] 35, box bb0 #[.int .i64 an, .slice a_ar ar.length c_ar] 35, imm (.slice a_br br.length c_br) br, imm (.slice a_ar ar.length c_ar) ar]) w' ad0 x0, fun (v : Value) (w' : World) => ∃ (a0 : Option Addr) (c0 : Nat), v = .slice a0 x0.length c0 ∧ RV (MS M [own w.heap.size 60 (.slice (some ⟨g0, 0, none⟩) an.toNat an.toNat) xs, box bb2 #[.int .i64 0, .slice none 0 0] 35, box bb1 #[.int .i64 bn, .slice a_br br.length c_br] 35, box bb0 #[.int .i64 an, .slice a_ar ar.length c_ar] 35, imm (.slice a_br br.length c_br) br, imm (.slice a_ar ar.length c_ar) ar]) w' (.slice a0 x0.length c0) x0, fun (v : Value) (w' : World) => v = .pointer (some ⟨bb1, 1, none⟩), fun (v : Value) (w' : World) => v = .slice a_br br.length c_br, fun (v : Value) (w' : World) => v = .int .i64 (j : Int), fun (v : Value) (w' : World) => ∃ (ad1 : Addr), v = .pointer (some ad1) ∧ At (MS M [own w.heap.size 60 (.slice (some ⟨g0, 0, none⟩) an.toNat an.toNat) xs, box bb2 #[.int .i64 0, .slice none 0 0] 35, box bb1 #[.int .i64 bn, .slice a_br br.length c_br] 35, box bb0 #[.int .i64 an, .slice a_ar ar.length c_ar] 35, imm (.slice a_br br.length c_br) br, imm (.slice a_ar ar.length c_ar) ar]) w' ad1 x1, fun (v : Value) (w' : World) => ∃ (a1 : Option Addr) (c1 : Nat), v = .slice a1 x1.length c1 ∧ RV (MS M [own w.heap.size 60 (.slice (some ⟨g0, 0, none⟩) an.toNat an.toNat) xs, box bb2 #[.int .i64 0, .slice none 0 0] 35, box bb1 #[.int .i64 bn, .slice a_br br.length c_br] 35, box bb0 #[.int .i64 an, .slice a_ar ar.length c_ar] 35, imm (.slice a_br br.length c_br) br, imm (.slice a_ar ar.length c_ar) ar]) w' (.slice a1 x1.length c1) x1, fun (v : Value) (w' : World) => ∃ (a2 : Option Addr) (c2 : Nat), v = .slice a2 (orR x0 x1).length c2 ∧ RV (MS M [own w.heap.size 60 (.slice (some ⟨g0, 0, none⟩) an.toNat an.toNat) xs, box bb2 #[.int .i64 0, .slice none 0 0] 35, box bb1 #[.int .i64 bn, .slice a_br br.length c_br] 35, box bb0 #[.int .i64 an, .slice a_ar ar.length c_ar] 35, imm (.slice a_br br.length c_br) br, imm (.slice a_ar ar.length c_ar) ar]) w' (.slice a2 (orR x0 x1).length c2) (orR x0 x1)] rfl (by kernel_rfl) ?_ ?_
      ·
        refine ⟨fun _ => ⟨fun f1 w6 hf0 xt5 hp0 => ?_, fun _ _ _ _ h => h⟩, ?_⟩
        ·
          have H11 := H6.ext xt5
          refine mv rfl ((hf0 6 rfl).trans s3) ?_
          exact ⟨_, rfl, Ext.refl _, rfl⟩
        refine ⟨fun _ => ⟨fun f2 w7 hf1 xt6 hp1 => ?_, fun _ _ _ _ h => h⟩, ?_⟩
        ·
          have H12 := H6.ext xt6
          refine mv rfl (hf1 7 rfl) ?_
          exact ⟨_, rfl, Ext.refl _, rfl⟩
        refine ⟨fun _ => ⟨fun f3 w8 hf2 xt7 hp2 => ?_, fun _ _ _ _ h => h⟩, ?_⟩
        ·
          have H13 := H6.ext xt7
          refine fa fl35_1 rfl ((hf2 2 rfl).trans s0) ?_
          exact ⟨_, rfl, Ext.refl _, rfl⟩
        refine ⟨fun _ => ⟨fun f4 w9 hf3 xt8 hp3 => ?_, fun _ _ _ _ h => h⟩, ?_⟩
        ·
          have H14 := H6.ext xt8
          have s6 : f4 24 = .pointer (some ⟨bb0, 1, none⟩) := hp3 2 rfl rfl
          refine ldX H14 3 rfl ty33 rfl s6 (by decide) rfl ?_
          exact ⟨_, rfl, Ext.refl _, rfl⟩
        refine ⟨fun _ => ⟨fun f5 w10 hf4 xt9 hp4 => ?_, fun _ _ _ _ h => h⟩, ?_⟩
        ·
          have H15 := H6.ext xt9
          refine mv rfl (hf4 7 rfl) ?_
          exact ⟨_, rfl, Ext.refl _, rfl⟩
        refine ⟨fun _ => ⟨fun f6 w11 hf5 xt10 hp5 => ?_, by rintro _ _ _ x_ ⟨ad0, e_, hA0⟩; exact ⟨ad0, e_, hA0.lift (Up.ext x_)⟩⟩, ?_⟩
        ·
          have H16 := H6.ext xt10
          have s7 : f6 25 = .slice a_ar ar.length c_ar := hp5 3 rfl rfl
          have s8 : f6 26 = .int .i64 (j : Int) := hp5 4 rfl rfl
          refine ia (H16.rv 5 rfl) rfl rfl s7 s8 (by first | omega | (simp; omega)) un33 ty60 ?_
          intro ad2 x2 hx2 hA2
          obtain rfl : x0 = x2 := Option.some.inj (hx0.symm.trans hx2)
          exact ⟨_, rfl, Ext.refl _, ⟨ad2, rfl, hA2⟩⟩
        refine ⟨fun _ => ⟨fun f7 w12 hf6 xt11 hp6 => ?_, by rintro _ _ _ x_ ⟨a0, c0, e_, rv0⟩; exact ⟨a0, c0, e_, rv0.lift (Up.ext x_)⟩⟩, ?_⟩
        ·
          have H17 := H6.ext xt11
          obtain ⟨ad3, s9, hA3⟩ : ∃ (ad3 : Addr), f7 27 = .pointer (some ad3) ∧ At (MS M [own w.heap.size 60 (.slice (some ⟨g0, 0, none⟩) an.toNat an.toNat) xs, box bb2 #[.int .i64 0, .slice none 0 0] 35, box bb1 #[.int .i64 bn, .slice a_br br.length c_br] 35, box bb0 #[.int .i64 an, .slice a_ar ar.length c_ar] 35, imm (.slice a_br br.length c_br) br, imm (.slice a_ar ar.length c_ar) ar]) w12 ad3 x0 := hp6 5 rfl rfl
          have H18 := H17.put (it := atI ad3 x0) rfl hA3
          refine ldL (H18.atv 0 rfl).w ty60 rfl s9 ?_
          intro a3 c3 rv4
          have ln2 := rv_len rv4
          have H19 := H18.put (it := imm (.slice a3 x0.length c3) x0) rfl rv4
          exact ⟨_, rfl, Ext.refl _, ⟨a3, c3, rfl, (rv_drop rfl rv4)⟩⟩
        refine ⟨fun _ => ⟨fun f8 w13 hf7 xt12 hp7 => ?_, fun _ _ _ _ h => h⟩, ?_⟩
        ·
          have H20 := H6.ext xt12
          refine fa fl35_1 rfl ((hf7 3 rfl).trans s1) ?_
          exact ⟨_, rfl, Ext.refl _, rfl⟩
        refine ⟨fun _ => ⟨fun f9 w14 hf8 xt13 hp8 => ?_, fun _ _ _ _ h => h⟩, ?_⟩
        ·
          have H21 := H6.ext xt13
          have s10 : f9 29 = .pointer (some ⟨bb1, 1, none⟩) := hp8 7 rfl rfl
          refine ldX H21 2 rfl ty33 rfl s10 (by decide) rfl ?_
          exact ⟨_, rfl, Ext.refl _, rfl⟩
        refine ⟨fun _ => ⟨fun f10 w15 hf9 xt14 hp9 => ?_, fun _ _ _ _ h => h⟩, ?_⟩
        ·
          have H22 := H6.ext xt14
          refine mv rfl (hf9 7 rfl) ?_
          exact ⟨_, rfl, Ext.refl _, rfl⟩
        refine ⟨fun _ => ⟨fun f11 w16 hf10 xt15 hp10 => ?_, by rintro _ _ _ x_ ⟨ad1, e_, hA1⟩; exact ⟨ad1, e_, hA1.lift (Up.ext x_)⟩⟩, ?_⟩
        ·
          have H23 := H6.ext xt15
          have s11 : f11 30 = .slice a_br br.length c_br := hp10 8 rfl rfl
          have s12 : f11 31 = .int .i64 (j : Int) := hp10 9 rfl rfl
          refine ia (H23.rv 4 rfl) rfl rfl s11 s12 (by first | omega | (simp; omega)) un33 ty60 ?_
          intro ad4 x3 hx3 hA4
          obtain rfl : x1 = x3 := Option.some.inj (hx1.symm.trans hx3)
          exact ⟨_, rfl, Ext.refl _, ⟨ad4, rfl, hA4⟩⟩
        refine ⟨fun _ => ⟨fun f12 w17 hf11 xt16 hp11 => ?_, by rintro _ _ _ x_ ⟨a1, c1, e_, rv1⟩; exact ⟨a1, c1, e_, rv1.lift (Up.ext x_)⟩⟩, ?_⟩
        ·
          have H24 := H6.ext xt16
          obtain ⟨ad5, s13, hA5⟩ : ∃ (ad5 : Addr), f12 32 = .pointer (some ad5) ∧ At (MS M [own w.heap.size 60 (.slice (some ⟨g0, 0, none⟩) an.toNat an.toNat) xs, box bb2 #[.int .i64 0, .slice none 0 0] 35, box bb1 #[.int .i64 bn, .slice a_br br.length c_br] 35, box bb0 #[.int .i64 an, .slice a_ar ar.length c_ar] 35, imm (.slice a_br br.length c_br) br, imm (.slice a_ar ar.length c_ar) ar]) w17 ad5 x1 := hp11 10 rfl rfl
          have H25 := H24.put (it := atI ad5 x1) rfl hA5
          refine ldL (H25.atv 0 rfl).w ty60 rfl s13 ?_
          intro a4 c4 rv5
          have ln3 := rv_len rv5
          have H26 := H25.put (it := imm (.slice a4 x1.length c4) x1) rfl rv5
          exact ⟨_, rfl, Ext.refl _, ⟨a4, c4, rfl, (rv_drop rfl rv5)⟩⟩
        refine ⟨fun _ => ⟨fun f13 w18 hf12 xt17 hp12 => ?_, by rintro _ _ _ x_ ⟨a2, c2, e_, rv3⟩; exact ⟨a2, c2, e_, rv3.lift (Up.ext x_)⟩⟩, ?_⟩
        ·
          have H27 := H6.ext xt17
          obtain ⟨a5, c5, s14, rv6⟩ : ∃ (a5 : Option Addr) (c5 : Nat), f13 28 = .slice a5 x0.length c5 ∧ RV (MS M [own w.heap.size 60 (.slice (some ⟨g0, 0, none⟩) an.toNat an.toNat) xs, box bb2 #[.int .i64 0, .slice none 0 0] 35, box bb1 #[.int .i64 bn, .slice a_br br.length c_br] 35, box bb0 #[.int .i64 an, .slice a_ar ar.length c_ar] 35, imm (.slice a_br br.length c_br) br, imm (.slice a_ar ar.length c_ar) ar]) w18 (.slice a5 x0.length c5) x0 := hp12 6 rfl rfl
          have H28 := H27.put (it := imm (.slice a5 x0.length c5) x0) rfl rv6
          obtain ⟨a6, c6, s15, rv7⟩ : ∃ (a6 : Option Addr) (c6 : Nat), f13 33 = .slice a6 x1.length c6 ∧ RV (MS M [own w.heap.size 60 (.slice (some ⟨g0, 0, none⟩) an.toNat an.toNat) xs, box bb2 #[.int .i64 0, .slice none 0 0] 35, box bb1 #[.int .i64 bn, .slice a_br br.length c_br] 35, box bb0 #[.int .i64 an, .slice a_ar ar.length c_ar] 35, imm (.slice a_br br.length c_br) br, imm (.slice a_ar ar.length c_ar) ar]) w18 (.slice a6 x1.length c6) x1 := hp12 11 rfl rfl
          have H29 := H28.put (it := imm (.slice a6 x1.length c6) x1) rfl (by rw [MS_cons_none rfl]; exact rv7)
          have cc1 := row_Or (a := x0) (b := x1) (w := w18) H29.mb (H29.rv 1 rfl) (H29.rv 0 rfl) (by first | exact hrw_a _ (List.mem_of_getElem? hx0) | exact hrw_b _ (List.mem_of_getElem? hx1)) (by first | exact hrw_a _ (List.mem_of_getElem? hx0) | exact hrw_b _ (List.mem_of_getElem? hx1))
          refine ca go52 rfl (ec s14 (ec s15 e0)) cc1 ?_
          rintro _ w19 ⟨a7, c7, rfl, xt18, rv8⟩
          have rv9 := OwnsG.rv rv8 H29.mb
          have H30 := H29.ext xt18
          have H31 := H30.put (it := imm (.slice a7 (orR x0 x1).length c7) (orR x0 x1)) rfl rv9
          exact ⟨_, rfl, xt18, ⟨a7, c7, rfl, (rv_drop rfl (rv_drop rfl rv9))⟩⟩
        exact DSteps.rest rfl _
      · intro f14 w20 hf13 xt19 hp13
        have H32 := H6.ext xt19
        have s16 : f14 2 = .pointer (some ⟨bb0, 0, none⟩) := (hf13 2 rfl).trans s0
        have s17 : f14 3 = .pointer (some ⟨bb1, 0, none⟩) := (hf13 3 rfl).trans s1
        have s18 : f14 4 = .pointer (some ⟨bb2, 0, none⟩) := (hf13 4 rfl).trans s2
        have s19 : f14 6 = .slice (some ⟨g0, 0, none⟩) an.toNat an.toNat := (hf13 6 rfl).trans s3
        have s20 : f14 18 = .int .i64 (an.toNat : Int) := (hf13 18 rfl).trans s4
        have s21 : f14 19 = .int .i64 (j : Int) := (hf13 19 rfl).trans s5
        have s22 : f14 22 = .slice (some ⟨g0, 0, none⟩) an.toNat an.toNat := hp13 0 rfl
        have s23 : f14 23 = .int .i64 (j : Int) := hp13 1 rfl
        obtain ⟨a8, c8, s24, rv10⟩ : ∃ (a8 : Option Addr) (c8 : Nat), f14 34 = .slice a8 (orR x0 x1).length c8 ∧ RV (MS M [own w.heap.size 60 (.slice (some ⟨g0, 0, none⟩) an.toNat an.toNat) xs, box bb2 #[.int .i64 0, .slice none 0 0] 35, box bb1 #[.int .i64 bn, .slice a_br br.length c_br] 35, box bb0 #[.int .i64 an, .slice a_ar ar.length c_ar] 35, imm (.slice a_br br.length c_br) br, imm (.slice a_ar ar.length c_ar) ar]) w20 (.slice a8 (orR x0 x1).length c8) (orR x0 x1) := hp13 12 rfl
        have H33 := H32.put (it := imm (.slice a8 (orR x0 x1).length c8) (orR x0 x1)) rfl rv10
        refine k (iaO (H33.at_ 1 rfl) rfl rfl s22 s23 (by first | omega | (simp; omega)) un33 ty60 ?_)
        intro g1 x4 hv0 hx4 hA6
        refine k (stO H33 1 rfl hv0 rfl (by first | omega | (simp; omega)) ty60 rfl rfl rfl s24 (H33.rv 0 rfl) ?_)
        intro w21 (H34 : HI M w w21 [imm (.slice a8 (orR x0 x1).length c8) (orR x0 x1), own w.heap.size 60 (.slice (some ⟨g0, 0, none⟩) an.toNat an.toNat) (xs.set ((j : Int).toNat) (orR x0 x1)), box bb2 #[.int .i64 0, .slice none 0 0] 35, box bb1 #[.int .i64 bn, .slice a_br br.length c_br] 35, box bb0 #[.int .i64 an, .slice a_ar ar.length c_ar] 35, imm (.slice a_br br.length c_br) br, imm (.slice a_ar ar.length c_ar) ar])
        refine z (inb_normal (nx (rg (k (add rfl rfl s21 rfl (by unfold I64 at *; omega) (k (mv (v := .int .i64 ((j : Int) + 1)) rfl rfl (z ?_))))))))
        have H35 : HI M w w21 [own w.heap.size 60 (.slice (some ⟨g0, 0, none⟩) an.toNat an.toNat) (xs.set ((j : Int).toNat) (orR x0 x1)), box bb2 #[.int .i64 0, .slice none 0 0] 35, box bb1 #[.int .i64 bn, .slice a_br br.length c_br] 35, box bb0 #[.int .i64 an, .slice a_ar ar.length c_ar] 35, imm (.slice a_br br.length c_br) br, imm (.slice a_ar ar.length c_ar) ar] := H34.pickN [1, 2, 3, 4, 5, 6] (by decide) rfl
        refine loopN _ ?_ ⟨(j + 1), (xs.set ((j : Int).toNat) (orR x0 x1)), rfl, s16, s17, s18, s19, s20, (ieq rfl (by first | rfl | omega | (push_cast; omega))), H35, (by first | assumption | omega | simp | (simp; omega)), (by simpa using hl), (by rw [hs]; exact orFill_set (by omega) hx0 hx1)⟩
        omega
    ·
      have p1 := of_decide_eq_false b1
      refine ex (then_exit (loop_exit (inb_here (nx (sq (rg (k (fa fl35_0 rfl s0 (k (ldX H6 3 rfl ty3 rfl rfl (by decide) rfl (k (mv rfl s3 (k (bd (v := .agg #[.int .i64 an, .slice (some ⟨g0, 0, none⟩) an.toNat an.toNat]) rfl (pbc rfl (pbc rfl pb0)) (fun _ => by kernel_rfl) (k (stX H6 1 rfl ty35 rfl rfl s2 rfl rfl rfl rfl ?_))))))))))))))))
      intro w5 (H7 : HI M w w5 [own w.heap.size 60 (.slice (some ⟨g0, 0, none⟩) an.toNat an.toNat) xs, box bb2 #[.int .i64 an, .slice (some ⟨g0, 0, none⟩) an.toNat an.toNat] 35, box bb1 #[.int .i64 bn, .slice a_br br.length c_br] 35, box bb0 #[.int .i64 an, .slice a_ar ar.length c_ar] 35, imm (.slice a_br br.length c_br) br, imm (.slice a_ar ar.length c_ar) ar])
      refine k (asg (v := .int .i64 0) rfl rfl (z (nx (rt (rc2 H7 1 rfl ty35 rfl rfl rfl s2 rfl (by decide) ?_)))))
      have e0 : (an : Int) = orMN an bn := by first | exact (orM_no (ar := ar) (br := br) p0).1.symm | exact (orM_yes (ar := ar) (br := br) p0).1.symm
      have e1 : (xs : List (List (BitVec 64))) = orMR an ar bn br := by first | exact (orM_no p0).2.1.symm | (rw [(orM_yes p0).2.1, hs]; exact orFill_end (by omega) hk)
      have l1 : an.toNat = (orMR an ar bn br).length := by first | rfl | (rw [← e1]; omega) | (rw [← e1]; simp) | simp
      have e2 : (0 : Int) = orME an bn := by first | exact (orM_no (ar := ar) (br := br) p0).2.2.symm | exact (orM_yes (ar := ar) (br := br) p0).2.2.symm
      have ev_ := cg3 (fun (x_0 : Int) (n_1 : Nat) (x_2 : Int) => (.tuple #[.agg #[.int .i64 x_0, .slice (some ⟨g0, 0, none⟩) n_1 an.toNat], .int .i64 x_2] : Value)) e0 l1 e2
      exact ⟨(some ⟨g0, 0, none⟩), an.toNat, ev_, H7.below, (congrArg (fun (n_ : Nat) => OwnsG _ _ _ (orMR an ar bn br) (.slice (some ⟨g0, 0, none⟩) n_ an.toNat) _) l1).mp ((congrArg (fun (x_ : List (List (BitVec 64))) => OwnsG _ _ _ x_ (.slice (some ⟨g0, 0, none⟩) an.toNat an.toNat) _) e1).mp (H7.ownsG_out 0 rfl))⟩
end Go.Proofs.Ytmhopljngkgidaa
namespace Go.Proofs.Ytmhopljngkgidaa
open Go.Ew Go.RowKit
set_option linter.unusedVariables false
set_option linter.unusedSimpArgs false
attribute [local irreducible] WL WC SO Code.wp wpList retQ Ret
attribute [local irreducible] bitB hasW inR hasR setR countW countR subR words newR listR orR firstW tab8

/- eyewitness/eyewitnessref02.Or -/
set_option maxRecDepth 100000 in
set_option maxHeartbeats 1600000 in
theorem ref02_Or {M : Nat → Prop} {w : World} {a_a : Option Addr} {c_a : Nat} {a : List (BitVec 64)} {a_b : Option Addr} {c_b : Nat} {b : List (BitVec 64)} (hM : ∀ b, M b → b < w.heap.size) (h_a : RV M w (.slice a_a a.length c_a) a) (h_b : RV M w (.slice a_b b.length c_b) b) (hl_a : a.length ≤ 1000000000) (hl_b : b.length ≤ 1000000000) : Calls Try.prog 53 #[.slice a_a a.length c_a, .slice a_b b.length c_b] w (Ret fun v w' => ∃ (a0 : Option Addr) (c0 : Nat), v = .slice a0 (orR a b).length c0 ∧ Ext w w' ∧ OwnsG M 74 w (orR a b) (.slice a0 (orR a b).length c0) w') := by
  refine enter 47 Try.func53 rfl rfl rfl fun f0 ha => ?_
  have H := HI.start (M0 := M) (w := w) hM
  have H0 := H.put (it := imm (.slice a_a a.length c_a) a) rfl (by rw [MS_nil]; exact h_a)
  have H1 := H0.put (it := imm (.slice a_b b.length c_b) b) rfl (by rw [MS_cons_none rfl, MS_nil]; exact h_b)
  have ln_a := rv_len h_a
  have ln_b := rv_len h_b
  have i0 : f0 0 = .slice a_a a.length c_a := ha 0 (by simp)
  have i1 : f0 1 = .slice a_b b.length c_b := ha 1 (by simp)
  refine sq (rg (k (asg (v := .slice none 0 0) rfl rfl (z (nx (sq (rg (k (mv rfl i0 (k (lnS rfl rfl un60 (k (mv rfl i1 (k (lnS rfl rfl un60 (k (max2 rfl rfl rfl rfl (k ?_))))))))))))))))))
  have n0 : (((max (a.length : Int) (b.length : Int)).toNat : Nat) : Int) = max (a.length : Int) (b.length : Int) := Int.toNat_of_nonneg (by omega)
  refine mk (m := (max (a.length : Int) (b.length : Int)).toNat) (zx := (0#64 : (BitVec 64))) H1 rfl rfl (by rw [n0]; exact rfl) (by rw [n0]; exact rfl) un60 ty74 (fun _ _ => rfl) (by first | omega | (simp; omega)) (by first | omega | (simp; omega)) ?_
  intro g0 w0 xt0 (H2 : HI M w w0 [own w.heap.size 74 (.slice (some ⟨g0, 0, none⟩) ((max (a.length : Int) (b.length : Int)).toNat) ((max (a.length : Int) (b.length : Int)).toNat)) (List.replicate ((max (a.length : Int) (b.length : Int)).toNat) (0#64 : (BitVec 64))), imm (.slice a_b b.length c_b) b, imm (.slice a_a a.length c_a) a])
  refine k (asg (v := .slice (some ⟨g0, 0, none⟩) ((max (a.length : Int) (b.length : Int)).toNat) ((max (a.length : Int) (b.length : Int)).toNat)) rfl rfl (z (nx (sq (sq (rg (k (asg (v := .int .i64 0) rfl rfl (z (nx (bk ?_)))))))))))
  refine lp (fun m f w' => ∃ (j : Nat) (xs : List (BitVec 64)), m = (max (a.length : Int) (b.length : Int)).toNat - j ∧ f 0 = .slice a_a a.length c_a ∧ f 1 = .slice a_b b.length c_b ∧ f 5 = .slice (some ⟨g0, 0, none⟩) ((max (a.length : Int) (b.length : Int)).toNat) ((max (a.length : Int) (b.length : Int)).toNat) ∧ f 6 = .int .i64 (j : Int) ∧  HI M w w' [own w.heap.size 74 (.slice (some ⟨g0, 0, none⟩) ((max (a.length : Int) (b.length : Int)).toNat) ((max (a.length : Int) (b.length : Int)).toNat)) xs, imm (.slice a_b b.length c_b) b, imm (.slice a_a a.length c_a) a] ∧ (j ≤ (max (a.length : Int) (b.length : Int)).toNat) ∧ (xs.length = (max (a.length : Int) (b.length : Int)).toNat) ∧ (xs = orTo (max (a.length : Int) (b.length : Int)).toNat a b [] j)) _ ⟨0, (List.replicate ((max (a.length : Int) (b.length : Int)).toNat) (0#64 : (BitVec 64))), rfl, i0, i1, rfl, (ieq rfl (by first | rfl | omega | simp)), H2, (by first | assumption | omega | simp | (simp; omega)), (by simp), (by exact orTo_rep _ _ _)⟩ ?_
  rintro _ f0 w1 ⟨j, xs, rfl, s0, s1, s2, s3, H3, hk, hl, hs⟩
  refine sq (sq (rg (k (mv rfl s3 (k (mv rfl s2 (k (lnS rfl rfl un60 (k (lss rfl rfl rfl rfl (z (nx ?_))))))))))))
  refine cd (b := decide ((j : Int) < (((max (a.length : Int) (b.length : Int)).toNat) : Int))) rfl rfl (fun b0 => ?_) (fun b0 => ?_)
  ·
    have p0 := of_decide_eq_true b0
    refine sk (nx (sq (bk (sq (sq (rg (k (mv rfl s3 (k (mv rfl s0 (k (lnS rfl rfl un60 (k (lss rfl rfl rfl rfl (z (nx ?_))))))))))))))))
    refine cd (b := decide ((j : Int) < (a.length : Int))) rfl rfl (fun b1 => ?_) (fun b1 => ?_)
    ·
      have p1 := of_decide_eq_true b1
      refine rg (k (mv rfl s2 (k (mv rfl s3 (k (mv rfl s0 (k (mv rfl s3 (k (ia (H3.rv 2 rfl) rfl rfl rfl rfl (by first | omega | (simp; omega)) un60 ty74 ?_))))))))))
      intro ad0 x0 hx0 hA0
      refine k (ldU hA0.w ty74 rfl rfl (k (iaO (H3.at_ 0 rfl) rfl rfl rfl rfl (by first | omega | (simp; omega)) un60 ty74 ?_)))
      intro g1 x1 hv0 hx1 hA1
      refine k (stO H3 0 rfl hv0 rfl (by first | omega | (simp; omega)) ty74 rfl rfl rfl rfl (RV.bv.2 rfl) ?_)
      intro w2 (H4 : HI M w w2 [own w.heap.size 74 (.slice (some ⟨g0, 0, none⟩) ((max (a.length : Int) (b.length : Int)).toNat) ((max (a.length : Int) (b.length : Int)).toNat)) (xs.set ((j : Int).toNat) x0), imm (.slice a_b b.length c_b) b, imm (.slice a_a a.length c_a) a])
      refine z (nx (sq (rg (k (mv rfl s3 (k (mv rfl s1 (k (lnS rfl rfl un60 (k (lss rfl rfl rfl rfl (z (nx ?_)))))))))))))
      refine cd (b := decide ((j : Int) < (b.length : Int))) rfl rfl (fun b2 => ?_) (fun b2 => ?_)
      ·
        have p2 := of_decide_eq_true b2
        obtain ⟨x2, hx2⟩ : ∃ x, (xs.set ((j : Int).toNat) x0)[(j : Int).toNat]? = some x := ⟨_, List.getElem?_eq_getElem (by first | omega | (simp; omega))⟩
        obtain ⟨x3, hx3⟩ : ∃ x, b[(j : Int).toNat]? = some x := ⟨_, List.getElem?_eq_getElem (by first | omega | (simp; omega))⟩
        refine dr 11 [fun (v : Value) (w' : World) => v = .slice (some ⟨g0, 0, none⟩) ((max (a.length : Int) (b.length : Int)).toNat) ((max (a.length : Int) (b.length : Int)).toNat), fun (v : Value) (w' : World) => v = .int .i64 (j : Int), fun (v : Value) (w' : World) => v = .slice (some ⟨g0, 0, none⟩) ((max (a.length : Int) (b.length : Int)).toNat) ((max (a.length : Int) (b.length : Int)).toNat), fun (v : Value) (w' : World) => v = .int .i64 (j : Int), fun (v : Value) (w' : World) => ∃ (g2 : Nat), v = .pointer (some ⟨g2, (j : Int).toNat * 1, none⟩) ∧ (.slice (some ⟨g0, 0, none⟩) ((max (a.length : Int) (b.length : Int)).toNat) ((max (a.length : Int) (b.length : Int)).toNat) : Value).ownBlock = some g2 ∧ AtW (MS M [own w.heap.size 74 (.slice (some ⟨g0, 0, none⟩) ((max (a.length : Int) (b.length : Int)).toNat) ((max (a.length : Int) (b.length : Int)).toNat)) (xs.set ((j : Int).toNat) x0), imm (.slice a_b b.length c_b) b, imm (.slice a_a a.length c_a) a]) w' ⟨g2, (j : Int).toNat * 1, none⟩ x2, fun (v : Value) (w' : World) => v = U x2, fun (v : Value) (w' : World) => v = .slice a_b b.length c_b, fun (v : Value) (w' : World) => v = .int .i64 (j : Int), fun (v : Value) (w' : World) => ∃ (ad1 : Addr), v = .pointer (some ad1) ∧ At (MS M [own w.heap.size 74 (.slice (some ⟨g0, 0, none⟩) ((max (a.length : Int) (b.length : Int)).toNat) ((max (a.length : Int) (b.length : Int)).toNat)) (xs.set ((j : Int).toNat) x0), imm (.slice a_b b.length c_b) b, imm (.slice a_a a.length c_a) a]) w' ad1 x3, fun (v : Value) (w' : World) => v = U x3, fun (v : Value) (w' : World) => v = U (x2 ||| x3)] rfl (by kernel_rfl) ?_ ?_
        ·
          refine ⟨fun _ => ⟨fun f1 w3 hf0 xt1 hp0 => ?_, fun _ _ _ _ h => h⟩, ?_⟩
          ·
            have H5 := H4.ext xt1
            refine mv rfl ((hf0 5 rfl).trans s2) ?_
            exact ⟨_, rfl, Ext.refl _, rfl⟩
          refine ⟨fun _ => ⟨fun f2 w4 hf1 xt2 hp1 => ?_, fun _ _ _ _ h => h⟩, ?_⟩
          ·
            have H6 := H4.ext xt2
            refine mv rfl ((hf1 6 rfl).trans s3) ?_
            exact ⟨_, rfl, Ext.refl _, rfl⟩
          refine ⟨fun _ => ⟨fun f3 w5 hf2 xt3 hp2 => ?_, fun _ _ _ _ h => h⟩, ?_⟩
          ·
            have H7 := H4.ext xt3
            refine mv rfl ((hf2 5 rfl).trans s2) ?_
            exact ⟨_, rfl, Ext.refl _, rfl⟩
          refine ⟨fun _ => ⟨fun f4 w6 hf3 xt4 hp3 => ?_, fun _ _ _ _ h => h⟩, ?_⟩
          ·
            have H8 := H4.ext xt4
            refine mv rfl ((hf3 6 rfl).trans s3) ?_
            exact ⟨_, rfl, Ext.refl _, rfl⟩
          refine ⟨fun _ => ⟨fun f5 w7 hf4 xt5 hp4 => ?_, by rintro _ _ _ x_ ⟨g2, e_, hv1, hA2⟩; exact ⟨g2, e_, hv1, hA2.ext x_⟩⟩, ?_⟩
          ·
            have H9 := H4.ext xt5
            have s4 : f5 36 = .slice (some ⟨g0, 0, none⟩) ((max (a.length : Int) (b.length : Int)).toNat) ((max (a.length : Int) (b.length : Int)).toNat) := hp4 2 rfl rfl
            have s5 : f5 37 = .int .i64 (j : Int) := hp4 3 rfl rfl
            refine iaO (H9.at_ 0 rfl) rfl rfl s4 s5 (by first | omega | (simp; omega)) un60 ty74 ?_
            intro g3 x4 hv2 hx4 hA4
            obtain rfl : x2 = x4 := Option.some.inj (hx2.symm.trans hx4)
            exact ⟨_, rfl, Ext.refl _, ⟨g3, rfl, hv2, hA4⟩⟩
          refine ⟨fun _ => ⟨fun f6 w8 hf5 xt6 hp5 => ?_, fun _ _ _ _ h => h⟩, ?_⟩
          ·
            have H10 := H4.ext xt6
            obtain ⟨g4, s6, hv3, hA5⟩ : ∃ (g4 : Nat), f6 38 = .pointer (some ⟨g4, (j : Int).toNat * 1, none⟩) ∧ (.slice (some ⟨g0, 0, none⟩) ((max (a.length : Int) (b.length : Int)).toNat) ((max (a.length : Int) (b.length : Int)).toNat) : Value).ownBlock = some g4 ∧ AtW (MS M [own w.heap.size 74 (.slice (some ⟨g0, 0, none⟩) ((max (a.length : Int) (b.length : Int)).toNat) ((max (a.length : Int) (b.length : Int)).toNat)) (xs.set ((j : Int).toNat) x0), imm (.slice a_b b.length c_b) b, imm (.slice a_a a.length c_a) a]) w8 ⟨g4, (j : Int).toNat * 1, none⟩ x2 := hp5 4 rfl rfl
            refine ldU hA5 ty74 rfl s6 ?_
            exact ⟨_, rfl, Ext.refl _, rfl⟩
          refine ⟨fun _ => ⟨fun f7 w9 hf6 xt7 hp6 => ?_, fun _ _ _ _ h => h⟩, ?_⟩
          ·
            have H11 := H4.ext xt7
            refine mv rfl ((hf6 1 rfl).trans s1) ?_
            exact ⟨_, rfl, Ext.refl _, rfl⟩
          refine ⟨fun _ => ⟨fun f8 w10 hf7 xt8 hp7 => ?_, fun _ _ _ _ h => h⟩, ?_⟩
          ·
            have H12 := H4.ext xt8
            refine mv rfl ((hf7 6 rfl).trans s3) ?_
            exact ⟨_, rfl, Ext.refl _, rfl⟩
          refine ⟨fun _ => ⟨fun f9 w11 hf8 xt9 hp8 => ?_, by rintro _ _ _ x_ ⟨ad1, e_, hA3⟩; exact ⟨ad1, e_, hA3.lift (Up.ext x_)⟩⟩, ?_⟩
          ·
            have H13 := H4.ext xt9
            have s7 : f9 40 = .slice a_b b.length c_b := hp8 6 rfl rfl
            have s8 : f9 41 = .int .i64 (j : Int) := hp8 7 rfl rfl
            refine ia (H13.rv 1 rfl) rfl rfl s7 s8 (by first | omega | (simp; omega)) un60 ty74 ?_
            intro ad2 x5 hx5 hA6
            obtain rfl : x3 = x5 := Option.some.inj (hx3.symm.trans hx5)
            exact ⟨_, rfl, Ext.refl _, ⟨ad2, rfl, hA6⟩⟩
          refine ⟨fun _ => ⟨fun f10 w12 hf9 xt10 hp9 => ?_, fun _ _ _ _ h => h⟩, ?_⟩
          ·
            have H14 := H4.ext xt10
            obtain ⟨ad3, s9, hA7⟩ : ∃ (ad3 : Addr), f10 42 = .pointer (some ad3) ∧ At (MS M [own w.heap.size 74 (.slice (some ⟨g0, 0, none⟩) ((max (a.length : Int) (b.length : Int)).toNat) ((max (a.length : Int) (b.length : Int)).toNat)) (xs.set ((j : Int).toNat) x0), imm (.slice a_b b.length c_b) b, imm (.slice a_a a.length c_a) a]) w12 ad3 x3 := hp9 8 rfl rfl
            have H15 := H14.put (it := atI ad3 x3) rfl hA7
            refine ldU (H15.atv 0 rfl).w ty74 rfl s9 ?_
            exact ⟨_, rfl, Ext.refl _, rfl⟩
          refine ⟨fun _ => ⟨fun f11 w13 hf10 xt11 hp10 => ?_, fun _ _ _ _ h => h⟩, ?_⟩
          ·
            have H16 := H4.ext xt11
            have s10 : f11 39 = U x2 := hp10 5 rfl rfl
            have s11 : f11 43 = U x3 := hp10 9 rfl rfl
            refine orU x2 x3 rfl rfl s10 s11 ?_
            exact ⟨_, rfl, Ext.refl _, rfl⟩
          exact DSteps.rest rfl _
        · intro f12 w14 hf11 xt12 hp11
          have H17 := H4.ext xt12
          have s12 : f12 0 = .slice a_a a.length c_a := (hf11 0 rfl).trans s0
          have s13 : f12 1 = .slice a_b b.length c_b := (hf11 1 rfl).trans s1
          have s14 : f12 5 = .slice (some ⟨g0, 0, none⟩) ((max (a.length : Int) (b.length : Int)).toNat) ((max (a.length : Int) (b.length : Int)).toNat) := (hf11 5 rfl).trans s2
          have s15 : f12 6 = .int .i64 (j : Int) := (hf11 6 rfl).trans s3
          have s16 : f12 34 = .slice (some ⟨g0, 0, none⟩) ((max (a.length : Int) (b.length : Int)).toNat) ((max (a.length : Int) (b.length : Int)).toNat) := hp11 0 rfl
          have s17 : f12 35 = .int .i64 (j : Int) := hp11 1 rfl
          have s18 : f12 44 = U (x2 ||| x3) := hp11 10 rfl
          refine k (iaO (H17.at_ 0 rfl) rfl rfl s16 s17 (by first | omega | (simp; omega)) un60 ty74 ?_)
          intro g5 x6 hv4 hx6 hA8
          refine k (stO H17 0 rfl hv4 rfl (by first | omega | (simp; omega)) ty74 rfl rfl rfl s18 (RV.bv.2 rfl) ?_)
          intro w15 (H18 : HI M w w15 [own w.heap.size 74 (.slice (some ⟨g0, 0, none⟩) ((max (a.length : Int) (b.length : Int)).toNat) ((max (a.length : Int) (b.length : Int)).toNat)) ((xs.set ((j : Int).toNat) x0).set ((j : Int).toNat) (x2 ||| x3)), imm (.slice a_b b.length c_b) b, imm (.slice a_a a.length c_a) a])
          refine z (inb_normal (nx (rg (k (mv rfl s15 (k (add rfl rfl rfl rfl (by unfold I64 at *; omega) (k (asg (v := .int .i64 ((j : Int) + 1)) rfl rfl (z ?_))))))))))
          refine loopN _ ?_ ⟨(j + 1), ((xs.set ((j : Int).toNat) x0).set ((j : Int).toNat) (x2 ||| x3)), rfl, s12, s13, s14, (ieq rfl (by first | rfl | omega | (push_cast; omega))), H18, (by first | assumption | omega | simp | (simp; omega)), (by simpa using hl), (by first | exact or_both hs hx0 hx2 hx3 | exact or_left hs hx0 (by omega) | exact or_right hs (by omega) hx0 hx1 | exact or_none hs (by omega) (by omega))⟩
          omega
      ·
        have p2 := of_decide_eq_false b2
        refine sk (inb_normal (nx (rg (k (mv rfl s3 (k (add rfl rfl rfl rfl (by unfold I64 at *; omega) (k (asg (v := .int .i64 ((j : Int) + 1)) rfl rfl (z ?_))))))))))
        refine loopN _ ?_ ⟨(j + 1), (xs.set ((j : Int).toNat) x0), rfl, s0, s1, s2, (ieq rfl (by first | rfl | omega | (push_cast; omega))), H4, (by first | assumption | omega | simp | (simp; omega)), (by simpa using hl), (by first | exact or_both hs hx0 hx2 hx3 | exact or_left hs hx0 (by omega) | exact or_right hs (by omega) hx0 hx1 | exact or_none hs (by omega) (by omega))⟩
        omega
    ·
      have p1 := of_decide_eq_false b1
      refine sk (nx (sq (rg (k (mv rfl s3 (k (mv rfl s1 (k (lnS rfl rfl un60 (k (lss rfl rfl rfl rfl (z (nx ?_)))))))))))))
      refine cd (b := decide ((j : Int) < (b.length : Int))) rfl rfl (fun b2 => ?_) (fun b2 => ?_)
      ·
        have p2 := of_decide_eq_true b2
        obtain ⟨x0, hx0⟩ : ∃ x, xs[(j : Int).toNat]? = some x := ⟨_, List.getElem?_eq_getElem (by first | omega | (simp; omega))⟩
        obtain ⟨x1, hx1⟩ : ∃ x, b[(j : Int).toNat]? = some x := ⟨_, List.getElem?_eq_getElem (by first | omega | (simp; omega))⟩
        refine dr 11 [fun (v : Value) (w' : World) => v = .slice (some ⟨g0, 0, none⟩) ((max (a.length : Int) (b.length : Int)).toNat) ((max (a.length : Int) (b.length : Int)).toNat), fun (v : Value) (w' : World) => v = .int .i64 (j : Int), fun (v : Value) (w' : World) => v = .slice (some ⟨g0, 0, none⟩) ((max (a.length : Int) (b.length : Int)).toNat) ((max (a.length : Int) (b.length : Int)).toNat), fun (v : Value) (w' : World) => v = .int .i64 (j : Int), fun (v : Value) (w' : World) => ∃ (g1 : Nat), v = .pointer (some ⟨g1, (j : Int).toNat * 1, none⟩) ∧ (.slice (some ⟨g0, 0, none⟩) ((max (a.length : Int) (b.length : Int)).toNat) ((max (a.length : Int) (b.length : Int)).toNat) : Value).ownBlock = some g1 ∧ AtW (MS M [own w.heap.size 74 (.slice (some ⟨g0, 0, none⟩) ((max (a.length : Int) (b.length : Int)).toNat) ((max (a.length : Int) (b.length : Int)).toNat)) xs, imm (.slice a_b b.length c_b) b, imm (.slice a_a a.length c_a) a]) w' ⟨g1, (j : Int).toNat * 1, none⟩ x0, fun (v : Value) (w' : World) => v = U x0, fun (v : Value) (w' : World) => v = .slice a_b b.length c_b, fun (v : Value) (w' : World) => v = .int .i64 (j : Int), fun (v : Value) (w' : World) => ∃ (ad0 : Addr), v = .pointer (some ad0) ∧ At (MS M [own w.heap.size 74 (.slice (some ⟨g0, 0, none⟩) ((max (a.length : Int) (b.length : Int)).toNat) ((max (a.length : Int) (b.length : Int)).toNat)) xs, imm (.slice a_b b.length c_b) b, imm (.slice a_a a.length c_a) a]) w' ad0 x1, fun (v : Value) (w' : World) => v = U x1, fun (v : Value) (w' : World) => v = U (x0 ||| x1)] rfl (by kernel_rfl) ?_ ?_
        ·
          refine ⟨fun _ => ⟨fun f1 w2 hf0 xt1 hp0 => ?_, fun _ _ _ _ h => h⟩, ?_⟩
          ·
            have H4 := H3.ext xt1
            refine mv rfl ((hf0 5 rfl).trans s2) ?_
            exact ⟨_, rfl, Ext.refl _, rfl⟩
          refine ⟨fun _ => ⟨fun f2 w3 hf1 xt2 hp1 => ?_, fun _ _ _ _ h => h⟩, ?_⟩
          ·
            have H5 := H3.ext xt2
            refine mv rfl ((hf1 6 rfl).trans s3) ?_
            exact ⟨_, rfl, Ext.refl _, rfl⟩
          refine ⟨fun _ => ⟨fun f3 w4 hf2 xt3 hp2 => ?_, fun _ _ _ _ h => h⟩, ?_⟩
          ·
            have H6 := H3.ext xt3
            refine mv rfl ((hf2 5 rfl).trans s2) ?_
            exact ⟨_, rfl, Ext.refl _, rfl⟩
          refine ⟨fun _ => ⟨fun f4 w5 hf3 xt4 hp3 => ?_, fun _ _ _ _ h => h⟩, ?_⟩
          ·
            have H7 := H3.ext xt4
            refine mv rfl ((hf3 6 rfl).trans s3) ?_
            exact ⟨_, rfl, Ext.refl _, rfl⟩
          refine ⟨fun _ => ⟨fun f5 w6 hf4 xt5 hp4 => ?_, by rintro _ _ _ x_ ⟨g1, e_, hv0, hA0⟩; exact ⟨g1, e_, hv0, hA0.ext x_⟩⟩, ?_⟩
          ·
            have H8 := H3.ext xt5
            have s4 : f5 36 = .slice (some ⟨g0, 0, none⟩) ((max (a.length : Int) (b.length : Int)).toNat) ((max (a.length : Int) (b.length : Int)).toNat) := hp4 2 rfl rfl
            have s5 : f5 37 = .int .i64 (j : Int) := hp4 3 rfl rfl
            refine iaO (H8.at_ 0 rfl) rfl rfl s4 s5 (by first | omega | (simp; omega)) un60 ty74 ?_
            intro g2 x2 hv1 hx2 hA2
            obtain rfl : x0 = x2 := Option.some.inj (hx0.symm.trans hx2)
            exact ⟨_, rfl, Ext.refl _, ⟨g2, rfl, hv1, hA2⟩⟩
          refine ⟨fun _ => ⟨fun f6 w7 hf5 xt6 hp5 => ?_, fun _ _ _ _ h => h⟩, ?_⟩
          ·
            have H9 := H3.ext xt6
            obtain ⟨g3, s6, hv2, hA3⟩ : ∃ (g3 : Nat), f6 38 = .pointer (some ⟨g3, (j : Int).toNat * 1, none⟩) ∧ (.slice (some ⟨g0, 0, none⟩) ((max (a.length : Int) (b.length : Int)).toNat) ((max (a.length : Int) (b.length : Int)).toNat) : Value).ownBlock = some g3 ∧ AtW (MS M [own w.heap.size 74 (.slice (some ⟨g0, 0, none⟩) ((max (a.length : Int) (b.length : Int)).toNat) ((max (a.length : Int) (b.length : Int)).toNat)) xs, imm (.slice a_b b.length c_b) b, imm (.slice a_a a.length c_a) a]) w7 ⟨g3, (j : Int).toNat * 1, none⟩ x0 := hp5 4 rfl rfl
            refine ldU hA3 ty74 rfl s6 ?_
            exact ⟨_, rfl, Ext.refl _, rfl⟩
          refine ⟨fun _ => ⟨fun f7 w8 hf6 xt7 hp6 => ?_, fun _ _ _ _ h => h⟩, ?_⟩
          ·
            have H10 := H3.ext xt7
            refine mv rfl ((hf6 1 rfl).trans s1) ?_
            exact ⟨_, rfl, Ext.refl _, rfl⟩
          refine ⟨fun _ => ⟨fun f8 w9 hf7 xt8 hp7 => ?_, fun _ _ _ _ h => h⟩, ?_⟩
          ·
            have H11 := H3.ext xt8
            refine mv rfl ((hf7 6 rfl).trans s3) ?_
            exact ⟨_, rfl, Ext.refl _, rfl⟩
          refine ⟨fun _ => ⟨fun f9 w10 hf8 xt9 hp8 => ?_, by rintro _ _ _ x_ ⟨ad0, e_, hA1⟩; exact ⟨ad0, e_, hA1.lift (Up.ext x_)⟩⟩, ?_⟩
          ·
            have H12 := H3.ext xt9
            have s7 : f9 40 = .slice a_b b.length c_b := hp8 6 rfl rfl
            have s8 : f9 41 = .int .i64 (j : Int) := hp8 7 rfl rfl
            refine ia (H12.rv 1 rfl) rfl rfl s7 s8 (by first | omega | (simp; omega)) un60 ty74 ?_
            intro ad1 x3 hx3 hA4
            obtain rfl : x1 = x3 := Option.some.inj (hx1.symm.trans hx3)
            exact ⟨_, rfl, Ext.refl _, ⟨ad1, rfl, hA4⟩⟩
          refine ⟨fun _ => ⟨fun f10 w11 hf9 xt10 hp9 => ?_, fun _ _ _ _ h => h⟩, ?_⟩
          ·
            have H13 := H3.ext xt10
            obtain ⟨ad2, s9, hA5⟩ : ∃ (ad2 : Addr), f10 42 = .pointer (some ad2) ∧ At (MS M [own w.heap.size 74 (.slice (some ⟨g0, 0, none⟩) ((max (a.length : Int) (b.length : Int)).toNat) ((max (a.length : Int) (b.length : Int)).toNat)) xs, imm (.slice a_b b.length c_b) b, imm (.slice a_a a.length c_a) a]) w11 ad2 x1 := hp9 8 rfl rfl
            have H14 := H13.put (it := atI ad2 x1) rfl hA5
            refine ldU (H14.atv 0 rfl).w ty74 rfl s9 ?_
            exact ⟨_, rfl, Ext.refl _, rfl⟩
          refine ⟨fun _ => ⟨fun f11 w12 hf10 xt11 hp10 => ?_, fun _ _ _ _ h => h⟩, ?_⟩
          ·
            have H15 := H3.ext xt11
            have s10 : f11 39 = U x0 := hp10 5 rfl rfl
            have s11 : f11 43 = U x1 := hp10 9 rfl rfl
            refine orU x0 x1 rfl rfl s10 s11 ?_
            exact ⟨_, rfl, Ext.refl _, rfl⟩
          exact DSteps.rest rfl _
        · intro f12 w13 hf11 xt12 hp11
          have H16 := H3.ext xt12
          have s12 : f12 0 = .slice a_a a.length c_a := (hf11 0 rfl).trans s0
          have s13 : f12 1 = .slice a_b b.length c_b := (hf11 1 rfl).trans s1
          have s14 : f12 5 = .slice (some ⟨g0, 0, none⟩) ((max (a.length : Int) (b.length : Int)).toNat) ((max (a.length : Int) (b.length : Int)).toNat) := (hf11 5 rfl).trans s2
          have s15 : f12 6 = .int .i64 (j : Int) := (hf11 6 rfl).trans s3
          have s16 : f12 34 = .slice (some ⟨g0, 0, none⟩) ((max (a.length : Int) (b.length : Int)).toNat) ((max (a.length : Int) (b.length : Int)).toNat) := hp11 0 rfl
          have s17 : f12 35 = .int .i64 (j : Int) := hp11 1 rfl
          have s18 : f12 44 = U (x0 ||| x1) := hp11 10 rfl
          refine k (iaO (H16.at_ 0 rfl) rfl rfl s16 s17 (by first | omega | (simp; omega)) un60 ty74 ?_)
          intro g4 x4 hv3 hx4 hA6
          refine k (stO H16 0 rfl hv3 rfl (by first | omega | (simp; omega)) ty74 rfl rfl rfl s18 (RV.bv.2 rfl) ?_)
          intro w14 (H17 : HI M w w14 [own w.heap.size 74 (.slice (some ⟨g0, 0, none⟩) ((max (a.length : Int) (b.length : Int)).toNat) ((max (a.length : Int) (b.length : Int)).toNat)) (xs.set ((j : Int).toNat) (x0 ||| x1)), imm (.slice a_b b.length c_b) b, imm (.slice a_a a.length c_a) a])
          refine z (inb_normal (nx (rg (k (mv rfl s15 (k (add rfl rfl rfl rfl (by unfold I64 at *; omega) (k (asg (v := .int .i64 ((j : Int) + 1)) rfl rfl (z ?_))))))))))
          refine loopN _ ?_ ⟨(j + 1), (xs.set ((j : Int).toNat) (x0 ||| x1)), rfl, s12, s13, s14, (ieq rfl (by first | rfl | omega | (push_cast; omega))), H17, (by first | assumption | omega | simp | (simp; omega)), (by simpa using hl), (by first | exact or_both hs hx0 hx2 hx3 | exact or_left hs hx0 (by omega) | exact or_right hs (by omega) hx0 hx1 | exact or_none hs (by omega) (by omega))⟩
          omega
      ·
        have p2 := of_decide_eq_false b2
        refine sk (inb_normal (nx (rg (k (mv rfl s3 (k (add rfl rfl rfl rfl (by unfold I64 at *; omega) (k (asg (v := .int .i64 ((j : Int) + 1)) rfl rfl (z ?_))))))))))
        refine loopN _ ?_ ⟨(j + 1), xs, rfl, s0, s1, s2, (ieq rfl (by first | rfl | omega | (push_cast; omega))), H3, (by first | assumption | omega | simp | (simp; omega)), (by simpa using hl), (by first | exact or_both hs hx0 hx2 hx3 | exact or_left hs hx0 (by omega) | exact or_right hs (by omega) hx0 hx1 | exact or_none hs (by omega) (by omega))⟩
        omega
  ·
    have p0 := of_decide_eq_false b0
    refine ex (then_exit (loop_exit (inb_here (nx (sq (rg (k (mv rfl s2 (k (asg (v := .slice (some ⟨g0, 0, none⟩) ((max (a.length : Int) (b.length : Int)).toNat) ((max (a.length : Int) (b.length : Int)).toNat)) rfl rfl (z (nx (rt (r1 rfl rfl ?_))))))))))))))
    have e0 : (xs : List (BitVec 64)) = orR a b := by rw [hs]; exact orTo_all (by omega) (fun i h1 h2 => by omega)
    have l0 : ((max (a.length : Int) (b.length : Int)).toNat) = (orR a b).length := by rw [← e0]; omega
    have ev_ := cg1 (fun (n_0 : Nat) => (.slice (some ⟨g0, 0, none⟩) n_0 ((max (a.length : Int) (b.length : Int)).toNat) : Value)) l0
    exact ⟨(some ⟨g0, 0, none⟩), ((max (a.length : Int) (b.length : Int)).toNat), ev_, H3.below, (congrArg (fun (n_ : Nat) => OwnsG _ _ _ (orR a b) (.slice (some ⟨g0, 0, none⟩) n_ ((max (a.length : Int) (b.length : Int)).toNat)) _) l0).mp ((congrArg (fun (x_ : List (BitVec 64)) => OwnsG _ _ _ x_ (.slice (some ⟨g0, 0, none⟩) ((max (a.length : Int) (b.length : Int)).toNat) ((max (a.length : Int) (b.length : Int)).toNat)) _) e0).mp (H3.ownsG_out 0 rfl))⟩
end Go.Proofs.Ytmhopljngkgidaa
namespace Go.Proofs.Ytmhopljngkgidaa
open Go.Ew Go.RowKit
set_option linter.unusedVariables false
set_option linter.unusedSimpArgs false
attribute [local irreducible] WL WC SO Code.wp wpList retQ Ret
attribute [local irreducible] bitB hasW inR hasR setR countW countR subR words newR listR orR firstW tab8
theorem go51 : GoF Try.prog 51 := ⟨_, _, Try.func51, rfl, by kernel_rfl⟩
theorem go40 : GoF Try.prog 40 := ⟨_, _, Try.func40, rfl, by kernel_rfl⟩
theorem go41 : GoF Try.prog 41 := ⟨_, _, Try.func41, rfl, by kernel_rfl⟩
theorem go28 : GoF Try.prog 28 := ⟨_, _, Try.func28, rfl, by kernel_rfl⟩
theorem go53 : GoF Try.prog 53 := ⟨_, _, Try.func53, rfl, by kernel_rfl⟩
theorem go38 : GoF Try.prog 38 := ⟨_, _, Try.func38, rfl, by kernel_rfl⟩
theorem go20 : GoF Try.prog 20 := ⟨_, _, Try.func20, rfl, by kernel_rfl⟩
/- eyewitness/eyewitnessref03.in -/
set_option maxRecDepth 100000 in
set_option maxHeartbeats 1600000 in
theorem ref03_in {w : World} {mn : Int} {a_mu : Option Addr} {n_mu c_mu : Nat} {i : Int} {j : Int} (h_mn : I64 mn) (h_i : I64 i) (h_j : I64 j) : Calls Try.prog 40 #[.agg #[.int .i64 mn, .slice a_mu n_mu c_mu], .int .i64 i, .int .i64 j] w (Ret fun v w' =>  v = .bool (inM mn [i, j]) ∧ Ext w w') := by
  refine enter 25 Try.func40 rfl rfl rfl fun f0 ha => ?_
  have H := HI.start (M0 := (fun _ => False)) (w := w) (fun _ h => h.elim)
  have i0 : f0 0 = .agg #[.int .i64 mn, .slice a_mu n_mu c_mu] := ha 0 (by simp)
  have i1 : f0 1 = .int .i64 i := ha 1 (by simp)
  have i2 : f0 2 = .int .i64 j := ha 2 (by simp)
  refine sq (rg (k (bx H rfl i0 ?_)))
  intro bb0 w0 xt0 (H0 : HI (fun _ => False) w w0 [box bb0 #[.int .i64 mn, .slice a_mu n_mu c_mu] 35])
  refine k (asg (v := .bool false) rfl rfl (z (nx (sq (rg (k (mv rfl i1 (k (geq rfl rfl rfl rfl (k (mv (v := .bool (decide (0 ≤ i))) rfl rfl ?_)))))))))))
  rcases Bool.eq_false_or_eq_true (decide (0 ≤ i)) with b0 | b0
  · -- decide (0 ≤ i) is True
    have p0 := of_decide_eq_true b0
    refine k (gy rfl rfl rfl b0 (mv rfl i1 (k (gy rfl rfl rfl b0 (fa fl35_0 rfl rfl (k (gy rfl rfl rfl b0 (ldX H0 0 rfl ty3 rfl rfl (by decide) rfl (k (gy rfl rfl rfl b0 (lss rfl rfl rfl rfl (k (pickT rfl rfl rfl rfl b0 rfl (k (mv (v := .bool (decide (i < mn))) rfl rfl ?_)))))))))))))))
    rcases Bool.eq_false_or_eq_true (decide (i < mn)) with b1 | b1
    · -- decide (i < mn) is True
      have p1 := of_decide_eq_true b1
      refine k (gy rfl rfl rfl b1 (mv rfl i2 (k (gy rfl rfl rfl b1 (geq rfl rfl rfl rfl (k (pickT rfl rfl rfl rfl b1 rfl (k (mv (v := .bool (decide (0 ≤ j))) rfl rfl ?_)))))))))
      rcases Bool.eq_false_or_eq_true (decide (0 ≤ j)) with b2 | b2
      · -- decide (0 ≤ j) is True
        have p2 := of_decide_eq_true b2
        refine k (gy rfl rfl rfl b2 (mv rfl i2 (k (gy rfl rfl rfl b2 (fa fl35_0 rfl rfl (k (gy rfl rfl rfl b2 (ldX H0 0 rfl ty3 rfl rfl (by decide) rfl (k (gy rfl rfl rfl b2 (lss rfl rfl rfl rfl (k (pickT rfl rfl rfl rfl b2 rfl (k (asg (v := .bool (decide (j < mn))) rfl rfl (z (nx (rt (r1 rfl rfl ?_)))))))))))))))))))
        have e0 : (decide (j < mn) : Bool) = inM mn [i, j] := by rw [inM_eq]; simp_all <;> omega
        have ev_ := cg1 (fun (x_0 : Bool) => (.bool x_0 : Value)) e0
        exact ⟨ev_, H0.below⟩
      · -- decide (0 ≤ j) is False
        have p2 := of_decide_eq_false b2
        refine k (gn rfl rfl rfl b2 (k (gn rfl rfl rfl b2 (k (gn rfl rfl rfl b2 (k (gn rfl rfl rfl b2 (k (pickF rfl rfl rfl rfl b2 rfl (k (asg (v := .bool false) rfl rfl (z (nx (rt (r1 rfl rfl ?_)))))))))))))))
        have e0 : (false : Bool) = inM mn [i, j] := by rw [inM_eq]; simp_all <;> omega
        have ev_ := cg1 (fun (x_0 : Bool) => (.bool x_0 : Value)) e0
        exact ⟨ev_, H0.below⟩
    · -- decide (i < mn) is False
      have p1 := of_decide_eq_false b1
      refine k (gn rfl rfl rfl b1 (k (gn rfl rfl rfl b1 (k (pickF rfl rfl rfl rfl b1 rfl (k (mv (v := .bool false) rfl rfl (k (gn rfl rfl rfl rfl (k (gn rfl rfl rfl rfl (k (gn rfl rfl rfl rfl (k (gn rfl rfl rfl rfl (k (pickF rfl rfl rfl rfl rfl rfl (k (asg (v := .bool false) rfl rfl (z (nx (rt (r1 rfl rfl ?_)))))))))))))))))))))))
      have e0 : (false : Bool) = inM mn [i, j] := by rw [inM_eq]; simp_all <;> omega
      have ev_ := cg1 (fun (x_0 : Bool) => (.bool x_0 : Value)) e0
      exact ⟨ev_, H0.below⟩
  · -- decide (0 ≤ i) is False
    have p0 := of_decide_eq_false b0
    refine k (gn rfl rfl rfl b0 (k (gn rfl rfl rfl b0 (k (gn rfl rfl rfl b0 (k (gn rfl rfl rfl b0 (k (pickF rfl rfl rfl rfl b0 rfl (k (mv (v := .bool false) rfl rfl (k (gn rfl rfl rfl rfl (k (gn rfl rfl rfl rfl (k (pickF rfl rfl rfl rfl rfl rfl (k (mv (v := .bool false) rfl rfl (k (gn rfl rfl rfl rfl (k (gn rfl rfl rfl rfl (k (gn rfl rfl rfl rfl (k (gn rfl rfl rfl rfl (k (pickF rfl rfl rfl rfl rfl rfl (k (asg (v := .bool false) rfl rfl (z (nx (rt (r1 rfl rfl ?_)))))))))))))))))))))))))))))))))))
    have e0 : (false : Bool) = inM mn [i, j] := by rw [inM_eq]; simp_all <;> omega
    have ev_ := cg1 (fun (x_0 : Bool) => (.bool x_0 : Value)) e0
    exact ⟨ev_, H0.below⟩
/- eyewitness/eyewitnessref03.New -/
set_option maxRecDepth 100000 in
set_option maxHeartbeats 1600000 in
theorem ref03_New {M : Nat → Prop} {w : World} {n : Int} (hM : ∀ b, M b → b < w.heap.size) (h_n : I64 n) : Calls Try.prog 31 #[.int .i64 n] w (Ret fun v w' => ∃ (a0 : Option Addr) (c0 : Nat), v = .tuple #[.agg #[.int .i64 (newMN n), .slice a0 (newMR n).length c0], .int .i64 (newME n)] ∧ Ext w w' ∧ OwnsG M 60 w (newMR n) (.slice a0 (newMR n).length c0) w') := by
  refine enter 28 Try.func31 rfl rfl rfl fun f0 ha => ?_
  have H := HI.start (M0 := M) (w := w) hM
  have i0 : f0 0 = .int .i64 n := ha 0 (by simp)
  refine sq (rg (k (al H ty35 ?_)))
  intro bb0 w0 xt0 (H0 : HI M w w0 [box bb0 #[.int .i64 0, .slice none 0 0] 35])
  refine k (asg (v := .int .i64 0) rfl rfl (z (nx (sq (sq (rg (k (mv rfl i0 (k (lss rfl rfl rfl rfl (k (mv (v := .bool (decide (n < 0))) rfl rfl ?_))))))))))))
  rcases Bool.eq_false_or_eq_true (decide (n < 0)) with b0 | b0
  · -- decide (n < 0) is True
    have p0 := of_decide_eq_true b0
    refine k (gn rfl rfl rfl b0 (k (gn rfl rfl rfl b0 (k (pickT rfl rfl rfl rfl b0 rfl (z (nx (cdT rfl rfl rfl (sq (rg (k (bd (v := .agg #[.int .i64 0, .slice none 0 0]) rfl pb0 (fun _ => by kernel_rfl) (k (stX H0 0 rfl ty35 rfl rfl rfl rfl rfl rfl rfl ?_))))))))))))))
    intro w1 (H1 : HI M w w1 [box bb0 #[.int .i64 0, .slice none 0 0] 35])
    refine k (asg (v := .int .i64 1) rfl rfl (z (nx (rt (then_ret (rc2 H1 0 rfl ty35 rfl rfl rfl rfl rfl (by decide) ?_))))))
    have e0 : (0 : Int) = newMN n := by first | exact (newM_no (okN_no.2 (by omega))).1.symm | exact (newM_yes (okN_iff.2 (by omega))).1.symm
    have e1 : ([] : List (List (BitVec 64))) = newMR n := by first | exact (newM_no (okN_no.2 (by omega))).2.1.symm | (rw [(newM_yes (okN_iff.2 (by omega))).2.1, hs, show j = n.toNat from by omega]; rfl)
    have e2 : (1 : Int) = newME n := by first | exact (newM_no (okN_no.2 (by omega))).2.2.symm | exact (newM_yes (okN_iff.2 (by omega))).2.2.symm
    have ev_ := cg3 (fun (x_0 : Int) (x_1 : List (List (BitVec 64))) (x_2 : Int) => (.tuple #[.agg #[.int .i64 x_0, .slice none x_1.length 0], .int .i64 x_2] : Value)) e0 e1 e2
    exact ⟨none, 0, ev_, H1.below, (congrArg (fun (x_ : List (List (BitVec 64))) => OwnsG _ _ _ x_ (.slice none x_.length 0) _) e1).mp (ownsG_nil H1.below)⟩
  · -- decide (n < 0) is False
    have p0 := of_decide_eq_false b0
    refine k (gy rfl rfl rfl b0 (mv rfl i0 (k (gy rfl rfl rfl b0 (gtr rfl rfl rfl rfl (k (pickF rfl rfl rfl rfl b0 rfl (z (nx ?_)))))))))
    refine cd (b := decide (4096 < n)) rfl rfl (fun b1 => ?_) (fun b1 => ?_)
    ·
      have p1 := of_decide_eq_true b1
      refine sq (rg (k (bd (v := .agg #[.int .i64 0, .slice none 0 0]) rfl pb0 (fun _ => by kernel_rfl) (k (stX H0 0 rfl ty35 rfl rfl rfl rfl rfl rfl rfl ?_)))))
      intro w1 (H1 : HI M w w1 [box bb0 #[.int .i64 0, .slice none 0 0] 35])
      refine k (asg (v := .int .i64 1) rfl rfl (z (nx (rt (then_ret (rc2 H1 0 rfl ty35 rfl rfl rfl rfl rfl (by decide) ?_))))))
      have e0 : (0 : Int) = newMN n := by first | exact (newM_no (okN_no.2 (by omega))).1.symm | exact (newM_yes (okN_iff.2 (by omega))).1.symm
      have e1 : ([] : List (List (BitVec 64))) = newMR n := by first | exact (newM_no (okN_no.2 (by omega))).2.1.symm | (rw [(newM_yes (okN_iff.2 (by omega))).2.1, hs, show j = n.toNat from by omega]; rfl)
      have e2 : (1 : Int) = newME n := by first | exact (newM_no (okN_no.2 (by omega))).2.2.symm | exact (newM_yes (okN_iff.2 (by omega))).2.2.symm
      have ev_ := cg3 (fun (x_0 : Int) (x_1 : List (List (BitVec 64))) (x_2 : Int) => (.tuple #[.agg #[.int .i64 x_0, .slice none x_1.length 0], .int .i64 x_2] : Value)) e0 e1 e2
      exact ⟨none, 0, ev_, H1.below, (congrArg (fun (x_ : List (List (BitVec 64))) => OwnsG _ _ _ x_ (.slice none x_.length 0) _) e1).mp (ownsG_nil H1.below)⟩
    ·
      have p1 := of_decide_eq_false b1
      refine sk (nx (sq (rg (k (mv rfl i0 (k (bd (v := .agg #[.int .i64 n, .slice none 0 0]) rfl (pbc rfl pb0) (fun _ => by kernel_rfl) (k (al H0 ty35 ?_)))))))))
      intro bb1 w1 xt1 (H1 : HI M w w1 [box bb1 #[.int .i64 0, .slice none 0 0] 35, box bb0 #[.int .i64 0, .slice none 0 0] 35])
      refine k (stX H1 0 rfl ty35 rfl rfl rfl rfl rfl rfl rfl ?_)
      intro w2 (H2 : HI M w w2 [box bb1 #[.int .i64 n, .slice none 0 0] 35, box bb0 #[.int .i64 0, .slice none 0 0] 35])
      refine z (nx (sq (sq (rg (k (asg (v := .int .i64 0) rfl rfl (z (nx (bk ?_)))))))))
      have H3 := H2.nil_ (List (BitVec 64)) 60
      refine lp (fun m f w' => ∃ (j : Nat) (xs : List (List (BitVec 64))) (a0 : Option Addr) (c0 : Nat), m = n.toNat - j ∧ f 0 = .int .i64 n ∧ f 2 = .pointer (some ⟨bb0, 0, none⟩) ∧ f 4 = .pointer (some ⟨bb1, 0, none⟩) ∧ f 5 = .int .i64 (j : Int) ∧  HI M w w' [own w.heap.size 60 (.slice a0 xs.length c0) xs, box bb1 #[.int .i64 n, .slice a0 xs.length c0] 35, box bb0 #[.int .i64 0, .slice none 0 0] 35] ∧ (j ≤ n.toNat) ∧ (xs = List.replicate j (newR n))) _ ⟨0, ([] : List (List (BitVec 64))), none, 0, rfl, i0, rfl, rfl, (ieq rfl (by first | rfl | omega | simp)), H3, (by first | assumption | omega | simp | (simp; omega)), (by rfl)⟩ ?_
      rintro _ f0 w3 ⟨j, xs, a0, c0, rfl, s0, s1, s2, s3, H4, hk, hs⟩
      refine sq (sq (rg (k (mv rfl s3 (k (mv rfl s0 (k (lss rfl rfl rfl rfl (z (nx ?_))))))))))
      refine cd (b := decide ((j : Int) < n)) rfl rfl (fun b2 => ?_) (fun b2 => ?_)
      ·
        have p2 := of_decide_eq_true b2
        refine sk (nx (sq (bk ?_)))
        refine dr 5 [fun (v : Value) (w' : World) => v = .pointer (some ⟨bb1, 1, none⟩), fun (v : Value) (w' : World) => v = .slice a0 xs.length c0, fun (v : Value) (w' : World) => v = .int .i64 n, fun (v : Value) (w' : World) => ∃ (a1 : Option Addr) (c1 : Nat), v = .slice a1 (newR n).length c1 ∧ RV (MS M [own w.heap.size 60 (.slice a0 xs.length c0) xs, box bb1 #[.int .i64 n, .slice a0 xs.length c0] 35, box bb0 #[.int .i64 0, .slice none 0 0] 35]) w' (.slice a1 (newR n).length c1) (newR n), fun (v : Value) (w' : World) => ∃ (a2 : Option Addr) (c2 : Nat), v = .slice a2 ([newR n] : List (List (BitVec 64))).length c2 ∧ RV (MS M [own w.heap.size 60 (.slice a0 xs.length c0) xs, box bb1 #[.int .i64 n, .slice a0 xs.length c0] 35, box bb0 #[.int .i64 0, .slice none 0 0] 35]) w' (.slice a2 ([newR n] : List (List (BitVec 64))).length c2) ([newR n] : List (List (BitVec 64)))] rfl (by kernel_rfl) ?_ ?_
        ·
          refine ⟨fun _ => ⟨fun f1 w6 hf0 xt4 hp0 => ?_, fun _ _ _ _ h => h⟩, ?_⟩
          ·
            have H9 := H4.ext xt4
            refine fa fl35_1 rfl ((hf0 4 rfl).trans s2) ?_
            exact ⟨_, rfl, Ext.refl _, rfl⟩
          refine ⟨fun _ => ⟨fun f2 w7 hf1 xt5 hp1 => ?_, fun _ _ _ _ h => h⟩, ?_⟩
          ·
            have H10 := H4.ext xt5
            have s4 : f2 20 = .pointer (some ⟨bb1, 1, none⟩) := hp1 0 rfl rfl
            refine ldX H10 1 rfl ty33 rfl s4 (by decide) rfl ?_
            exact ⟨_, rfl, Ext.refl _, rfl⟩
          refine ⟨fun _ => ⟨fun f3 w8 hf2 xt6 hp2 => ?_, fun _ _ _ _ h => h⟩, ?_⟩
          ·
            have H11 := H4.ext xt6
            refine mv rfl ((hf2 0 rfl).trans s0) ?_
            exact ⟨_, rfl, Ext.refl _, rfl⟩
          refine ⟨fun _ => ⟨fun f4 w9 hf3 xt7 hp3 => ?_, by rintro _ _ _ x_ ⟨a1, c1, e_, rv1⟩; exact ⟨a1, c1, e_, rv1.lift (Up.ext x_)⟩⟩, ?_⟩
          ·
            have H12 := H4.ext xt7
            have s5 : f4 22 = .int .i64 n := hp3 2 rfl rfl
            have cc1 := ref02_New (n := n) (w := w9) H12.mb (by unfold I64 at *; omega) (by first | omega | (simp; omega))
            refine ca go51 rfl (ec s5 e0) cc1 ?_
            rintro _ w10 ⟨a3, c3, rfl, xt8, rv3⟩
            have rv4 := OwnsG.rv rv3 H12.mb
            have H13 := H12.ext xt8
            have H14 := H13.put (it := imm (.slice a3 (newR n).length c3) (newR n)) rfl rv4
            exact ⟨_, rfl, xt8, ⟨a3, c3, rfl, rv4⟩⟩
          refine ⟨fun _ => ⟨fun f5 w11 hf4 xt9 hp4 => ?_, by rintro _ _ _ x_ ⟨a2, c2, e_, rv2⟩; exact ⟨a2, c2, e_, rv2.lift (Up.ext x_)⟩⟩, ?_⟩
          ·
            have H15 := H4.ext xt9
            obtain ⟨a4, c4, s6, rv5⟩ : ∃ (a4 : Option Addr) (c4 : Nat), f5 23 = .slice a4 (newR n).length c4 ∧ RV (MS M [own w.heap.size 60 (.slice a0 xs.length c0) xs, box bb1 #[.int .i64 n, .slice a0 xs.length c0] 35, box bb0 #[.int .i64 0, .slice none 0 0] 35]) w11 (.slice a4 (newR n).length c4) (newR n) := hp4 3 rfl rfl
            have H16 := H15.put (it := imm (.slice a4 (newR n).length c4) (newR n)) rfl rv5
            refine bs (xs := ([newR n] : List (List (BitVec 64)))) (cells := #[.slice a4 (newR n).length c4]) (e := 60) H16 rfl (pbc s6 pb0) (fun _ => by kernel_rfl) ⟨[.slice a4 (newR n).length c4], [], rfl, ⟨_, rfl, RV.list.1 (H16.rv 0 rfl)⟩, rfl⟩ rfl (by unfold maxLen; omega) ?_
            intro g1 w12 xt10 (H17 : HI M w w12 [own w.heap.size 60 (.slice (some ⟨g1, 0, none⟩) 1 1) ([newR n] : List (List (BitVec 64))), imm (.slice a4 (newR n).length c4) (newR n), own w.heap.size 60 (.slice a0 xs.length c0) xs, box bb1 #[.int .i64 n, .slice a0 xs.length c0] 35, box bb0 #[.int .i64 0, .slice none 0 0] 35])
            have H18 := H17.freeze 0 rfl
            exact ⟨_, rfl, xt10, ⟨(some ⟨g1, 0, none⟩), 1, rfl, (rv_drop rfl (rv_drop rfl (H18.rv 0 rfl)))⟩⟩
          exact DSteps.rest rfl _
        · intro f6 w13 hf5 xt11 hp5
          have H19 := H4.ext xt11
          have s7 : f6 0 = .int .i64 n := (hf5 0 rfl).trans s0
          have s8 : f6 2 = .pointer (some ⟨bb0, 0, none⟩) := (hf5 2 rfl).trans s1
          have s9 : f6 4 = .pointer (some ⟨bb1, 0, none⟩) := (hf5 4 rfl).trans s2
          have s10 : f6 5 = .int .i64 (j : Int) := (hf5 5 rfl).trans s3
          have s11 : f6 21 = .slice a0 xs.length c0 := hp5 1 rfl
          obtain ⟨a5, c5, s12, rv6⟩ : ∃ (a5 : Option Addr) (c5 : Nat), f6 24 = .slice a5 ([newR n] : List (List (BitVec 64))).length c5 ∧ RV (MS M [own w.heap.size 60 (.slice a0 xs.length c0) xs, box bb1 #[.int .i64 n, .slice a0 xs.length c0] 35, box bb0 #[.int .i64 0, .slice none 0 0] 35]) w13 (.slice a5 ([newR n] : List (List (BitVec 64))).length c5) ([newR n] : List (List (BitVec 64))) := hp5 4 rfl
          have H20 := H19.put (it := imm (.slice a5 ([newR n] : List (List (BitVec 64))).length c5) ([newR n] : List (List (BitVec 64)))) rfl rv6
          refine k (ap H20 1 rfl rfl rfl rfl s11 s12 (H20.rv 0 rfl).src un33 ty60 rfl (by rw [hs]; simp; omega) (by rw [hs]; simp; omega) ?_)
          intro a6 c6 w14 (H21 : HI M w w14 [imm (.slice a5 ([newR n] : List (List (BitVec 64))).length c5) ([newR n] : List (List (BitVec 64))), own w.heap.size 60 (.slice a6 (xs ++ ([newR n] : List (List (BitVec 64)))).length c6) (xs ++ ([newR n] : List (List (BitVec 64)))), box bb1 #[.int .i64 n, .slice a0 xs.length c0] 35, box bb0 #[.int .i64 0, .slice none 0 0] 35])
          refine k (fa fl35_1 rfl s9 (k (stX H21 2 rfl ty33 rfl rfl rfl rfl rfl rfl rfl ?_)))
          intro w15 (H22 : HI M w w15 [imm (.slice a5 ([newR n] : List (List (BitVec 64))).length c5) ([newR n] : List (List (BitVec 64))), own w.heap.size 60 (.slice a6 (xs ++ ([newR n] : List (List (BitVec 64)))).length c6) (xs ++ ([newR n] : List (List (BitVec 64)))), box bb1 #[.int .i64 n, .slice a6 (xs ++ ([newR n] : List (List (BitVec 64)))).length c6] 35, box bb0 #[.int .i64 0, .slice none 0 0] 35])
          refine z (inb_normal (nx (rg (k (mv rfl s10 (k (add rfl rfl rfl rfl (by unfold I64 at *; omega) (k (asg (v := .int .i64 ((j : Int) + 1)) rfl rfl (z ?_))))))))))
          have H23 : HI M w w15 [own w.heap.size 60 (.slice a6 (xs ++ ([newR n] : List (List (BitVec 64)))).length c6) (xs ++ ([newR n] : List (List (BitVec 64)))), box bb1 #[.int .i64 n, .slice a6 (xs ++ ([newR n] : List (List (BitVec 64)))).length c6] 35, box bb0 #[.int .i64 0, .slice none 0 0] 35] := H22.pickN [1, 2, 3] (by decide) rfl
          refine loopN _ ?_ ⟨(j + 1), (xs ++ ([newR n] : List (List (BitVec 64)))), a6, c6, rfl, s7, s8, s9, (ieq rfl (by first | rfl | omega | (push_cast; omega))), H23, (by first | assumption | omega | simp | (simp; omega)), (by rw [hs, List.replicate_succ'])⟩
          omega
      ·
        have p2 := of_decide_eq_false b2
        refine ex (then_exit (loop_exit (inb_here (nx (sq (rg (k (ldX H4 1 rfl ty35 rfl s2 (by decide) rfl (k (stX H4 2 rfl ty35 rfl rfl s1 rfl rfl rfl rfl ?_))))))))))
        intro w4 (H5 : HI M w w4 [own w.heap.size 60 (.slice a0 xs.length c0) xs, box bb1 #[.int .i64 n, .slice a0 xs.length c0] 35, box bb0 #[.int .i64 n, .slice a0 xs.length c0] 35])
        refine k (asg (v := .int .i64 0) rfl rfl (z (nx (rt (rc2 H5 2 rfl ty35 rfl rfl rfl s1 rfl (by decide) ?_)))))
        have e0 : (n : Int) = newMN n := by first | exact (newM_no (okN_no.2 (by omega))).1.symm | exact (newM_yes (okN_iff.2 (by omega))).1.symm
        have e1 : (xs : List (List (BitVec 64))) = newMR n := by first | exact (newM_no (okN_no.2 (by omega))).2.1.symm | (rw [(newM_yes (okN_iff.2 (by omega))).2.1, hs, show j = n.toNat from by omega]; rfl)
        have e2 : (0 : Int) = newME n := by first | exact (newM_no (okN_no.2 (by omega))).2.2.symm | exact (newM_yes (okN_iff.2 (by omega))).2.2.symm
        have ev_ := cg3 (fun (x_0 : Int) (x_1 : List (List (BitVec 64))) (x_2 : Int) => (.tuple #[.agg #[.int .i64 x_0, .slice a0 x_1.length c0], .int .i64 x_2] : Value)) e0 e1 e2
        exact ⟨a0, c0, ev_, H5.below, (congrArg (fun (x_ : List (List (BitVec 64))) => OwnsG _ _ _ x_ (.slice a0 x_.length c0) _) e1).mp (H5.ownsG_out 0 rfl)⟩
/- eyewitness/eyewitnessref03.Set -/
set_option maxRecDepth 100000 in
set_option maxHeartbeats 1600000 in
theorem ref03_Set {M : Nat → Prop} {w : World} {mn : Int} {a_mr : Option Addr} {c_mr : Nat} {mr : List (List (BitVec 64))} {i : Int} {j : Int} (hM : ∀ b, M b → b < w.heap.size) (h_mn : I64 mn) (h_mr : RV M w (.slice a_mr mr.length c_mr) mr) (h_i : I64 i) (h_j : I64 j) (hsq_m : ((mr.length : Nat) : Int) = mn) (hrw_m : ∀ x ∈ mr, x.length ≤ 1000000000) (hl4_m : mn ≤ 4096) : Calls Try.prog 21 #[.agg #[.int .i64 mn, .slice a_mr mr.length c_mr], .int .i64 i, .int .i64 j] w (Ret fun v w' => ∃ (a0 : Option Addr) (c0 : Nat), v = .tuple #[.agg #[.int .i64 (setMN mn i j), .slice a0 (setMR mn mr i j).length c0], .int .i64 (setME mn i j)] ∧ Ext w w' ∧ OwnsG M 60 w (setMR mn mr i j) (.slice a0 (setMR mn mr i j).length c0) w') := by
  refine enter 32 Try.func21 rfl rfl rfl fun f0 ha => ?_
  have H := HI.start (M0 := M) (w := w) hM
  have H0 := H.put (it := imm (.slice a_mr mr.length c_mr) mr) rfl (by rw [MS_nil]; exact h_mr)
  have ln_mr := rv_len h_mr
  have i0 : f0 0 = .agg #[.int .i64 mn, .slice a_mr mr.length c_mr] := ha 0 (by simp)
  have i1 : f0 1 = .int .i64 i := ha 1 (by simp)
  have i2 : f0 2 = .int .i64 j := ha 2 (by simp)
  refine sq (rg (k (bx H0 rfl i0 ?_)))
  intro bb0 w0 xt0 (H1 : HI M w w0 [box bb0 #[.int .i64 mn, .slice a_mr mr.length c_mr] 35, imm (.slice a_mr mr.length c_mr) mr])
  refine k (al H1 ty35 ?_)
  intro bb1 w1 xt1 (H2 : HI M w w1 [box bb1 #[.int .i64 0, .slice none 0 0] 35, box bb0 #[.int .i64 mn, .slice a_mr mr.length c_mr] 35, imm (.slice a_mr mr.length c_mr) mr])
  refine k (asg (v := .int .i64 0) rfl rfl (z (nx (sq (sq (rg (k (ldX H2 1 rfl ty35 rfl rfl (by decide) rfl (k (mv rfl i1 (k (mv rfl i2 (k ?_)))))))))))))
  have cc0 := ref03_in (mn := mn) (i := i) (j := j) (a_mu := a_mr) (n_mu := mr.length) (c_mu := c_mr) (w := w1) (by unfold I64 at *; omega) (by unfold I64 at *; omega) (by unfold I64 at *; omega)
  refine ca go40 rfl (ec rfl (ec rfl (ec rfl e0))) cc0 ?_
  rintro _ w2 ⟨rfl, xt2⟩
  have H3 := H2.ext xt2
  refine k (not_ rfl rfl (z (nx ?_)))
  refine cd (b := !(inM mn [i, j])) rfl rfl (fun b0 => ?_) (fun b0 => ?_)
  ·
    refine sq ?_
    have hq : inM mn [i, j] = false := by simpa using b0
    refine rg (k (bd (v := .agg #[.int .i64 0, .slice none 0 0]) rfl pb0 (fun _ => by kernel_rfl) (k (stX H3 0 rfl ty35 rfl rfl rfl rfl rfl rfl rfl ?_))))
    intro w3 (H4 : HI M w w3 [box bb1 #[.int .i64 0, .slice none 0 0] 35, box bb0 #[.int .i64 mn, .slice a_mr mr.length c_mr] 35, imm (.slice a_mr mr.length c_mr) mr])
    refine k (asg (v := .int .i64 1) rfl rfl (z (nx (rt (then_ret (rc2 H4 0 rfl ty35 rfl rfl rfl rfl rfl (by decide) ?_))))))
    have e0 : (0 : Int) = setMN mn i j := by first | exact (set_no (rs := mr) hq).1.symm | exact (set_yes (rs := mr) hq).1.symm
    have e1 : ([] : List (List (BitVec 64))) = setMR mn mr i j := by first | exact (set_no (rs := mr) hq).2.1.symm | (rw [(set_yes (rs := mr) hq).2.1]; exact setM_of hx0)
    have e2 : (1 : Int) = setME mn i j := by first | exact (set_no (rs := mr) hq).2.2.symm | exact (set_yes (rs := mr) hq).2.2.symm
    have ev_ := cg3 (fun (x_0 : Int) (x_1 : List (List (BitVec 64))) (x_2 : Int) => (.tuple #[.agg #[.int .i64 x_0, .slice none x_1.length 0], .int .i64 x_2] : Value)) e0 e1 e2
    exact ⟨none, 0, ev_, H4.below, (congrArg (fun (x_ : List (List (BitVec 64))) => OwnsG _ _ _ x_ (.slice none x_.length 0) _) e1).mp (ownsG_nil H4.below)⟩
  ·
    refine sk (nx (sq ?_))
    have hq : inM mn [i, j] = true := by simpa using b0
    have hr := inM_two.1 hq
    refine rg (k (bs (xs := ([] : List (List (BitVec 64)))) (cells := #[]) (e := 60) H3 rfl pb0 (fun _ => by kernel_rfl) rfl rfl (by unfold maxLen; omega) ?_))
    intro g0 w3 xt3 (H4 : HI M w w3 [own w.heap.size 60 (.slice (some ⟨g0, 0, none⟩) 0 0) ([] : List (List (BitVec 64))), box bb1 #[.int .i64 0, .slice none 0 0] 35, box bb0 #[.int .i64 mn, .slice a_mr mr.length c_mr] 35, imm (.slice a_mr mr.length c_mr) mr])
    refine k (fa fl35_1 rfl rfl (k (ldX H4 2 rfl ty33 rfl rfl (by decide) rfl (k (ap H4 0 rfl rfl rfl rfl rfl rfl (H4.rv 3 rfl).src un33 ty60 rfl (by simp; omega) (by simp; omega) ?_)))))
    intro a0 c0 w4 (H5 : HI M w w4 [own w.heap.size 60 (.slice a0 mr.length c0) mr, box bb1 #[.int .i64 0, .slice none 0 0] 35, box bb0 #[.int .i64 mn, .slice a_mr mr.length c_mr] 35, imm (.slice a_mr mr.length c_mr) mr])
    refine k (asg (v := .slice a0 mr.length c0) rfl rfl (z (nx (sq (rg (k (mv (v := .slice a0 mr.length c0) rfl rfl (k (mv rfl i1 (k (mv (v := .slice a0 mr.length c0) rfl rfl (k (mv rfl i1 (k (iaO (H5.at_ 0 rfl) rfl rfl rfl rfl (by first | omega | (simp; omega)) un33 ty60 ?_)))))))))))))))
    intro g1 x0 hv0 hx0 hA0
    refine k (ldL hA0 ty60 rfl rfl ?_)
    intro a1 c1 rv0
    have ln0 := rv_len rv0
    have H6 := H5.put (it := imm (.slice a1 x0.length c1) x0) rfl rv0
    refine k (mv rfl i2 (k ?_))
    have cc1 := ref02_Set (r := x0) (i := j) (w := w4) H6.mb (H6.rv 0 rfl) (by unfold I64 at *; omega) (by exact hrw_m _ (List.mem_of_getElem? hx0))
    refine ca go41 rfl (ec rfl (ec rfl e0)) cc1 ?_
    rintro _ w5 ⟨a2, c2, rfl, xt4, rv1⟩
    have H7 := H6.ownsG rv1
    refine k (iaO (H7.at_ 2 rfl) rfl rfl rfl rfl (by first | omega | (simp; omega)) un33 ty60 ?_)
    intro g2 x1 hv1 hx1 hA1
    refine k ?_
    have H8 := H7.freeze 0 rfl
    refine stO H8 2 rfl hv1 rfl (by first | omega | (simp; omega)) ty60 rfl rfl rfl rfl (H8.rv 0 rfl) ?_
    intro w6 (H9 : HI M w w6 [imm (.slice a2 (setR x0 j).length c2) (setR x0 j), imm (.slice a1 x0.length c1) x0, own w.heap.size 60 (.slice a0 mr.length c0) (mr.set i.toNat (setR x0 j)), box bb1 #[.int .i64 0, .slice none 0 0] 35, box bb0 #[.int .i64 mn, .slice a_mr mr.length c_mr] 35, imm (.slice a_mr mr.length c_mr) mr])
    refine z (nx (sq (rg (k (fa fl35_0 rfl rfl (k (ldX H9 4 rfl ty3 rfl rfl (by decide) rfl (k (mv (v := .slice a0 mr.length c0) rfl rfl (k (bd (v := .agg #[.int .i64 mn, .slice a0 mr.length c0]) rfl (pbc rfl (pbc rfl pb0)) (fun _ => by kernel_rfl) (k (stX H9 3 rfl ty35 rfl rfl rfl rfl rfl rfl rfl ?_)))))))))))))
    intro w7 (H10 : HI M w w7 [imm (.slice a2 (setR x0 j).length c2) (setR x0 j), imm (.slice a1 x0.length c1) x0, own w.heap.size 60 (.slice a0 mr.length c0) (mr.set i.toNat (setR x0 j)), box bb1 #[.int .i64 mn, .slice a0 mr.length c0] 35, box bb0 #[.int .i64 mn, .slice a_mr mr.length c_mr] 35, imm (.slice a_mr mr.length c_mr) mr])
    refine k (asg (v := .int .i64 0) rfl rfl (z (nx (rt (rc2 H10 3 rfl ty35 rfl rfl rfl rfl rfl (by decide) ?_)))))
    have e0 : (mn : Int) = setMN mn i j := by first | exact (set_no (rs := mr) hq).1.symm | exact (set_yes (rs := mr) hq).1.symm
    have e1 : (mr.set i.toNat (setR x0 j) : List (List (BitVec 64))) = setMR mn mr i j := by first | exact (set_no (rs := mr) hq).2.1.symm | (rw [(set_yes (rs := mr) hq).2.1]; exact setM_of hx0)
    have l1 : mr.length = (setMR mn mr i j).length := by rw [← e1]; simp
    have e2 : (0 : Int) = setME mn i j := by first | exact (set_no (rs := mr) hq).2.2.symm | exact (set_yes (rs := mr) hq).2.2.symm
    have ev_ := cg3 (fun (x_0 : Int) (n_1 : Nat) (x_2 : Int) => (.tuple #[.agg #[.int .i64 x_0, .slice a0 n_1 c0], .int .i64 x_2] : Value)) e0 l1 e2
    exact ⟨a0, c0, ev_, H10.below, (congrArg (fun (n_ : Nat) => OwnsG _ _ _ (setMR mn mr i j) (.slice a0 n_ c0) _) l1).mp ((congrArg (fun (x_ : List (List (BitVec 64))) => OwnsG _ _ _ x_ (.slice a0 mr.length c0) _) e1).mp (H10.ownsG_out 2 rfl))⟩
/- eyewitness/eyewitnessref03.Has -/
set_option maxRecDepth 100000 in
set_option maxHeartbeats 1600000 in
theorem ref03_Has {M : Nat → Prop} {w : World} {mn : Int} {a_mr : Option Addr} {c_mr : Nat} {mr : List (List (BitVec 64))} {i : Int} {j : Int} (hM : ∀ b, M b → b < w.heap.size) (h_mn : I64 mn) (h_mr : RV M w (.slice a_mr mr.length c_mr) mr) (h_i : I64 i) (h_j : I64 j) (hsq_m : ((mr.length : Nat) : Int) = mn) (hrw_m : ∀ x ∈ mr, x.length ≤ 1000000000) (hl4_m : mn ≤ 4096) : Calls Try.prog 20 #[.agg #[.int .i64 mn, .slice a_mr mr.length c_mr], .int .i64 i, .int .i64 j] w (Ret fun v w' =>  v = .bool (hasM mn mr i j) ∧ Ext w w') := by
  refine enter 20 Try.func20 rfl rfl rfl fun f0 ha => ?_
  have H := HI.start (M0 := M) (w := w) hM
  have H0 := H.put (it := imm (.slice a_mr mr.length c_mr) mr) rfl (by rw [MS_nil]; exact h_mr)
  have ln_mr := rv_len h_mr
  have i0 : f0 0 = .agg #[.int .i64 mn, .slice a_mr mr.length c_mr] := ha 0 (by simp)
  have i1 : f0 1 = .int .i64 i := ha 1 (by simp)
  have i2 : f0 2 = .int .i64 j := ha 2 (by simp)
  refine sq (rg (k (bx H0 rfl i0 ?_)))
  intro bb0 w0 xt0 (H1 : HI M w w0 [box bb0 #[.int .i64 mn, .slice a_mr mr.length c_mr] 35, imm (.slice a_mr mr.length c_mr) mr])
  refine k (asg (v := .bool false) rfl rfl (z (nx (sq (rg (k (ldX H1 0 rfl ty35 rfl rfl (by decide) rfl (k (mv rfl i1 (k (mv rfl i2 (k ?_))))))))))))
  have cc0 := ref03_in (mn := mn) (i := i) (j := j) (a_mu := a_mr) (n_mu := mr.length) (c_mu := c_mr) (w := w0) (by unfold I64 at *; omega) (by unfold I64 at *; omega) (by unfold I64 at *; omega)
  refine ca go40 rfl (ec rfl (ec rfl (ec rfl e0))) cc0 ?_
  rintro _ w1 ⟨rfl, xt1⟩
  have H2 := H1.ext xt1
  refine k (mv (v := .bool (inM mn [i, j])) rfl rfl ?_)
  rcases Bool.eq_false_or_eq_true (inM mn [i, j]) with b0 | b0
  · -- inM mn [i, j] is True
    refine k (gy rfl rfl rfl b0 (fa fl35_1 rfl rfl (k (gy rfl rfl rfl b0 (ldX H2 0 rfl ty33 rfl rfl (by decide) rfl (k (gy rfl rfl rfl b0 (mv rfl i1 (k (gy rfl rfl rfl b0 (ia (H2.rv 1 rfl) rfl rfl rfl rfl (by have hr := inM_two.1 b0; omega) un33 ty60 ?_)))))))))))
    intro ad0 x0 hx0 hA0
    refine k (gy rfl rfl rfl b0 (ldL hA0.w ty60 rfl rfl ?_))
    intro a0 c0 rv0
    have ln0 := rv_len rv0
    have H3 := H2.put (it := imm (.slice a0 x0.length c0) x0) rfl rv0
    refine k (gy rfl rfl rfl b0 (mv rfl i2 (k (gy rfl rfl rfl b0 ?_))))
    have cc1 := ref02_Has (r := x0) (i := j) (w := w1) H3.mb (H3.rv 0 rfl) (by unfold I64 at *; omega) (by first | omega | exact hrw_m _ (List.mem_of_getElem? hx0))
    refine ca go37 rfl (ec rfl (ec rfl e0)) cc1 ?_
    rintro _ w2 ⟨rfl, xt2⟩
    have H4 := H3.ext xt2
    refine k (pickT rfl rfl rfl rfl b0 rfl (k (asg (v := .bool (hasR x0 j)) rfl rfl (z (nx (rt (r1 rfl rfl ?_)))))))
    have e0 : (hasR x0 j : Bool) = hasM mn mr i j := by unfold hasM; first | (rw [rowAt_of hx0, b0]; rfl) | (rw [b0]; rfl)
    have ev_ := cg1 (fun (x_0 : Bool) => (.bool x_0 : Value)) e0
    exact ⟨ev_, H4.below⟩
  · -- inM mn [i, j] is False
    refine k (gn rfl rfl rfl b0 (k (gn rfl rfl rfl b0 (k (gn rfl rfl rfl b0 (k (gn rfl rfl rfl b0 (k (gn rfl rfl rfl b0 (k (gn rfl rfl rfl b0 (k (gn rfl rfl rfl b0 (k (pickF rfl rfl rfl rfl b0 rfl (k (asg (v := .bool false) rfl rfl (z (nx (rt (r1 rfl rfl ?_)))))))))))))))))))))
    have e0 : (false : Bool) = hasM mn mr i j := by unfold hasM; first | (rw [rowAt_of hx0, b0]; rfl) | (rw [b0]; rfl)
    have ev_ := cg1 (fun (x_0 : Bool) => (.bool x_0 : Value)) e0
    exact ⟨ev_, H2.below⟩
/- eyewitness/eyewitnessref03.Equal -/
set_option maxRecDepth 100000 in
set_option maxHeartbeats 1600000 in
theorem ref03_Equal {M : Nat → Prop} {w : World} {an : Int} {a_ar : Option Addr} {c_ar : Nat} {ar : List (List (BitVec 64))} {bn : Int} {a_br : Option Addr} {c_br : Nat} {br : List (List (BitVec 64))} (hM : ∀ b, M b → b < w.heap.size) (h_an : I64 an) (h_ar : RV M w (.slice a_ar ar.length c_ar) ar) (h_bn : I64 bn) (h_br : RV M w (.slice a_br br.length c_br) br) : Calls Try.prog 9 #[.agg #[.int .i64 an, .slice a_ar ar.length c_ar], .agg #[.int .i64 bn, .slice a_br br.length c_br]] w (Ret fun v w' =>  v = .bool (eqM an ar bn br) ∧ Ext w w') := by
  refine enter 39 Try.func9 rfl rfl rfl fun f0 ha => ?_
  have H := HI.start (M0 := M) (w := w) hM
  have H0 := H.put (it := imm (.slice a_ar ar.length c_ar) ar) rfl (by rw [MS_nil]; exact h_ar)
  have H1 := H0.put (it := imm (.slice a_br br.length c_br) br) rfl (by rw [MS_cons_none rfl, MS_nil]; exact h_br)
  have ln_ar := rv_len h_ar
  have ln_br := rv_len h_br
  have i0 : f0 0 = .agg #[.int .i64 an, .slice a_ar ar.length c_ar] := ha 0 (by simp)
  have i1 : f0 1 = .agg #[.int .i64 bn, .slice a_br br.length c_br] := ha 1 (by simp)
  refine sq (rg (k (bx H1 rfl i0 ?_)))
  intro bb0 w0 xt0 (H2 : HI M w w0 [box bb0 #[.int .i64 an, .slice a_ar ar.length c_ar] 35, imm (.slice a_br br.length c_br) br, imm (.slice a_ar ar.length c_ar) ar])
  refine k (bx H2 rfl i1 ?_)
  intro bb1 w1 xt1 (H3 : HI M w w1 [box bb1 #[.int .i64 bn, .slice a_br br.length c_br] 35, box bb0 #[.int .i64 an, .slice a_ar ar.length c_ar] 35, imm (.slice a_br br.length c_br) br, imm (.slice a_ar ar.length c_ar) ar])
  refine k (asg (v := .bool false) rfl rfl (z (nx (sq (sq (rg (k (fa fl35_0 rfl rfl (k (ldX H3 1 rfl ty3 rfl rfl (by decide) rfl (k (fa fl35_0 rfl rfl (k (ldX H3 0 rfl ty3 rfl rfl (by decide) rfl (k (neq rfl rfl rfl rfl (k (mv (v := .bool (!decide (an = bn))) rfl rfl ?_))))))))))))))))))
  rcases Bool.eq_false_or_eq_true (!decide (an = bn)) with b0 | b0
  · -- !decide (an = bn) is True
    have p0 := of_decide_eq_false (nott b0)
    refine k (gn rfl rfl rfl b0 (k (gn rfl rfl rfl b0 (k (gn rfl rfl rfl b0 (k (gn rfl rfl rfl b0 (k (gn rfl rfl rfl b0 (k (gn rfl rfl rfl b0 (k (gn rfl rfl rfl b0 (k (pickT rfl rfl rfl rfl b0 rfl (z (nx (cdT rfl rfl rfl (sq (rg (k (asg (v := .bool false) rfl rfl (z (nx (rt (then_ret (r1 rfl rfl ?_)))))))))))))))))))))))))))
    have e0 : (false : Bool) = eqM an ar bn br := by first | exact eqM_no (by rintro ⟨e1, e2⟩; first | omega | (subst e2; omega)) | exact eqM_no (by rintro ⟨e1, e2⟩; exact ne_of_at hx0 hx1 (by first | assumption | simpa using b3) e2) | exact eqM_yes (by omega) (eq_of_take (by omega) hs (by omega))
    have ev_ := cg1 (fun (x_0 : Bool) => (.bool x_0 : Value)) e0
    exact ⟨ev_, H3.below⟩
  · -- !decide (an = bn) is False
    have p0 := of_decide_eq_true (notf b0)
    refine k (gy rfl rfl rfl b0 (fa fl35_1 rfl rfl (k (gy rfl rfl rfl b0 (ldX H3 1 rfl ty33 rfl rfl (by decide) rfl (k (gy rfl rfl rfl b0 (lnS rfl rfl un33 (k (gy rfl rfl rfl b0 (fa fl35_1 rfl rfl (k (gy rfl rfl rfl b0 (ldX H3 0 rfl ty33 rfl rfl (by decide) rfl (k (gy rfl rfl rfl b0 (lnS rfl rfl un33 (k (gy rfl rfl rfl b0 (neq rfl rfl rfl rfl (k (pickF rfl rfl rfl rfl b0 rfl (z (nx ?_))))))))))))))))))))))))
    refine cd (b := !decide ((ar.length : Int) = (br.length : Int))) rfl rfl (fun b1 => ?_) (fun b1 => ?_)
    ·
      have p1 := of_decide_eq_false (nott b1)
      refine sq (rg (k (asg (v := .bool false) rfl rfl (z (nx (rt (then_ret (r1 rfl rfl ?_))))))))
      have e0 : (false : Bool) = eqM an ar bn br := by first | exact eqM_no (by rintro ⟨e1, e2⟩; first | omega | (subst e2; omega)) | exact eqM_no (by rintro ⟨e1, e2⟩; exact ne_of_at hx0 hx1 (by first | assumption | simpa using b3) e2) | exact eqM_yes (by omega) (eq_of_take (by omega) hs (by omega))
      have ev_ := cg1 (fun (x_0 : Bool) => (.bool x_0 : Value)) e0
      exact ⟨ev_, H3.below⟩
    ·
      have p1 := of_decide_eq_true (notf b1)
      refine sk (nx (sq (sq (rg (k (asg (v := .int .i64 0) rfl rfl (z (nx (bk ?_)))))))))
      refine lp (fun m f w' => ∃ (j : Nat), m = ar.length - j ∧ f 2 = .pointer (some ⟨bb0, 0, none⟩) ∧ f 3 = .pointer (some ⟨bb1, 0, none⟩) ∧ f 5 = .int .i64 (j : Int) ∧  HI M w w' [box bb1 #[.int .i64 bn, .slice a_br br.length c_br] 35, box bb0 #[.int .i64 an, .slice a_ar ar.length c_ar] 35, imm (.slice a_br br.length c_br) br, imm (.slice a_ar ar.length c_ar) ar] ∧ (j ≤ ar.length) ∧ (ar.take j = br.take j)) _ ⟨0, rfl, rfl, rfl, (ieq rfl (by first | rfl | omega | simp)), H3, (by first | assumption | omega | simp | (simp; omega)), (by first | assumption | omega | simp | (simp; omega))⟩ ?_
      rintro _ f0 w2 ⟨j, rfl, s0, s1, s2, H4, hk, hs⟩
      refine sq (sq (rg (k (mv rfl s2 (k (fa fl35_1 rfl s0 (k (ldX H4 1 rfl ty33 rfl rfl (by decide) rfl (k (lnS rfl rfl un33 (k (lss rfl rfl rfl rfl (z (nx ?_))))))))))))))
      refine cd (b := decide ((j : Int) < (ar.length : Int))) rfl rfl (fun b2 => ?_) (fun b2 => ?_)
      ·
        have p2 := of_decide_eq_true b2
        refine sk (nx (sq (bk (sq ?_))))
        obtain ⟨x0, hx0⟩ : ∃ x, ar[(j : Int).toNat]? = some x := ⟨_, List.getElem?_eq_getElem (by first | omega | (simp; omega))⟩
        obtain ⟨x1, hx1⟩ : ∃ x, br[(j : Int).toNat]? = some x := ⟨_, List.getElem?_eq_getElem (by first | omega | (simp; omega))⟩
        refine dr 10 [fun (v : Value) (w' : World) => v = .pointer (some ⟨bb0, 1, none⟩), fun (v : Value) (w' : World) => v = .slice a_ar ar.length c_ar, fun (v : Value) (w' : World) => v = .int .i64 (j : Int), fun (v : Value) (w' : World) => ∃ (ad0 : Addr), v = .pointer (some ad0) ∧ At (MS M [box bb1 #[.int .i64 bn, .slice a_br br.length c_br] 35, box bb0 #[.int .i64 an, .slice a_ar ar.length c_ar] 35, imm (.slice a_br br.length c_br) br, imm (.slice a_ar ar.length c_ar) ar]) w' ad0 x0, fun (v : Value) (w' : World) => ∃ (a0 : Option Addr) (c0 : Nat), v = .slice a0 x0.length c0 ∧ RV (MS M [box bb1 #[.int .i64 bn, .slice a_br br.length c_br] 35, box bb0 #[.int .i64 an, .slice a_ar ar.length c_ar] 35, imm (.slice a_br br.length c_br) br, imm (.slice a_ar ar.length c_ar) ar]) w' (.slice a0 x0.length c0) x0, fun (v : Value) (w' : World) => v = .pointer (some ⟨bb1, 1, none⟩), fun (v : Value) (w' : World) => v = .slice a_br br.length c_br, fun (v : Value) (w' : World) => v = .int .i64 (j : Int), fun (v : Value) (w' : World) => ∃ (ad1 : Addr), v = .pointer (some ad1) ∧ At (MS M [box bb1 #[.int .i64 bn, .slice a_br br.length c_br] 35, box bb0 #[.int .i64 an, .slice a_ar ar.length c_ar] 35, imm (.slice a_br br.length c_br) br, imm (.slice a_ar ar.length c_ar) ar]) w' ad1 x1, fun (v : Value) (w' : World) => ∃ (a1 : Option Addr) (c1 : Nat), v = .slice a1 x1.length c1 ∧ RV (MS M [box bb1 #[.int .i64 bn, .slice a_br br.length c_br] 35, box bb0 #[.int .i64 an, .slice a_ar ar.length c_ar] 35, imm (.slice a_br br.length c_br) br, imm (.slice a_ar ar.length c_ar) ar]) w' (.slice a1 x1.length c1) x1] rfl (by kernel_rfl) ?_ ?_
        ·
          refine ⟨fun _ => ⟨fun f1 w3 hf0 xt2 hp0 => ?_, fun _ _ _ _ h => h⟩, ?_⟩
          ·
            have H7 := H4.ext xt2
            refine fa fl35_1 rfl ((hf0 2 rfl).trans s0) ?_
            exact ⟨_, rfl, Ext.refl _, rfl⟩
          refine ⟨fun _ => ⟨fun f2 w4 hf1 xt3 hp1 => ?_, fun _ _ _ _ h => h⟩, ?_⟩
          ·
            have H8 := H4.ext xt3
            have s3 : f2 27 = .pointer (some ⟨bb0, 1, none⟩) := hp1 0 rfl rfl
            refine ldX H8 1 rfl ty33 rfl s3 (by decide) rfl ?_
            exact ⟨_, rfl, Ext.refl _, rfl⟩
          refine ⟨fun _ => ⟨fun f3 w5 hf2 xt4 hp2 => ?_, fun _ _ _ _ h => h⟩, ?_⟩
          ·
            have H9 := H4.ext xt4
            refine mv rfl ((hf2 5 rfl).trans s2) ?_
            exact ⟨_, rfl, Ext.refl _, rfl⟩
          refine ⟨fun _ => ⟨fun f4 w6 hf3 xt5 hp3 => ?_, by rintro _ _ _ x_ ⟨ad0, e_, hA0⟩; exact ⟨ad0, e_, hA0.lift (Up.ext x_)⟩⟩, ?_⟩
          ·
            have H10 := H4.ext xt5
            have s4 : f4 28 = .slice a_ar ar.length c_ar := hp3 1 rfl rfl
            have s5 : f4 29 = .int .i64 (j : Int) := hp3 2 rfl rfl
            refine ia (H10.rv 3 rfl) rfl rfl s4 s5 (by first | omega | (simp; omega)) un33 ty60 ?_
            intro ad2 x2 hx2 hA2
            obtain rfl : x0 = x2 := Option.some.inj (hx0.symm.trans hx2)
            exact ⟨_, rfl, Ext.refl _, ⟨ad2, rfl, hA2⟩⟩
          refine ⟨fun _ => ⟨fun f5 w7 hf4 xt6 hp4 => ?_, by rintro _ _ _ x_ ⟨a0, c0, e_, rv0⟩; exact ⟨a0, c0, e_, rv0.lift (Up.ext x_)⟩⟩, ?_⟩
          ·
            have H11 := H4.ext xt6
            obtain ⟨ad3, s6, hA3⟩ : ∃ (ad3 : Addr), f5 30 = .pointer (some ad3) ∧ At (MS M [box bb1 #[.int .i64 bn, .slice a_br br.length c_br] 35, box bb0 #[.int .i64 an, .slice a_ar ar.length c_ar] 35, imm (.slice a_br br.length c_br) br, imm (.slice a_ar ar.length c_ar) ar]) w7 ad3 x0 := hp4 3 rfl rfl
            have H12 := H11.put (it := atI ad3 x0) rfl hA3
            refine ldL (H12.atv 0 rfl).w ty60 rfl s6 ?_
            intro a2 c2 rv2
            have ln2 := rv_len rv2
            have H13 := H12.put (it := imm (.slice a2 x0.length c2) x0) rfl rv2
            exact ⟨_, rfl, Ext.refl _, ⟨a2, c2, rfl, (rv_drop rfl rv2)⟩⟩
          refine ⟨fun _ => ⟨fun f6 w8 hf5 xt7 hp5 => ?_, fun _ _ _ _ h => h⟩, ?_⟩
          ·
            have H14 := H4.ext xt7
            refine fa fl35_1 rfl ((hf5 3 rfl).trans s1) ?_
            exact ⟨_, rfl, Ext.refl _, rfl⟩
          refine ⟨fun _ => ⟨fun f7 w9 hf6 xt8 hp6 => ?_, fun _ _ _ _ h => h⟩, ?_⟩
          ·
            have H15 := H4.ext xt8
            have s7 : f7 32 = .pointer (some ⟨bb1, 1, none⟩) := hp6 5 rfl rfl
            refine ldX H15 0 rfl ty33 rfl s7 (by decide) rfl ?_
            exact ⟨_, rfl, Ext.refl _, rfl⟩
          refine ⟨fun _ => ⟨fun f8 w10 hf7 xt9 hp7 => ?_, fun _ _ _ _ h => h⟩, ?_⟩
          ·
            have H16 := H4.ext xt9
            refine mv rfl ((hf7 5 rfl).trans s2) ?_
            exact ⟨_, rfl, Ext.refl _, rfl⟩
          refine ⟨fun _ => ⟨fun f9 w11 hf8 xt10 hp8 => ?_, by rintro _ _ _ x_ ⟨ad1, e_, hA1⟩; exact ⟨ad1, e_, hA1.lift (Up.ext x_)⟩⟩, ?_⟩
          ·
            have H17 := H4.ext xt10
            have s8 : f9 33 = .slice a_br br.length c_br := hp8 6 rfl rfl
            have s9 : f9 34 = .int .i64 (j : Int) := hp8 7 rfl rfl
            refine ia (H17.rv 2 rfl) rfl rfl s8 s9 (by first | omega | (simp; omega)) un33 ty60 ?_
            intro ad4 x3 hx3 hA4
            obtain rfl : x1 = x3 := Option.some.inj (hx1.symm.trans hx3)
            exact ⟨_, rfl, Ext.refl _, ⟨ad4, rfl, hA4⟩⟩
          refine ⟨fun _ => ⟨fun f10 w12 hf9 xt11 hp9 => ?_, by rintro _ _ _ x_ ⟨a1, c1, e_, rv1⟩; exact ⟨a1, c1, e_, rv1.lift (Up.ext x_)⟩⟩, ?_⟩
          ·
            have H18 := H4.ext xt11
            obtain ⟨ad5, s10, hA5⟩ : ∃ (ad5 : Addr), f10 35 = .pointer (some ad5) ∧ At (MS M [box bb1 #[.int .i64 bn, .slice a_br br.length c_br] 35, box bb0 #[.int .i64 an, .slice a_ar ar.length c_ar] 35, imm (.slice a_br br.length c_br) br, imm (.slice a_ar ar.length c_ar) ar]) w12 ad5 x1 := hp9 8 rfl rfl
            have H19 := H18.put (it := atI ad5 x1) rfl hA5
            refine ldL (H19.atv 0 rfl).w ty60 rfl s10 ?_
            intro a3 c3 rv3
            have ln3 := rv_len rv3
            have H20 := H19.put (it := imm (.slice a3 x1.length c3) x1) rfl rv3
            exact ⟨_, rfl, Ext.refl _, ⟨a3, c3, rfl, (rv_drop rfl rv3)⟩⟩
          exact DSteps.rest rfl _
        · intro f11 w13 hf10 xt12 hp10
          have H21 := H4.ext xt12
          have s11 : f11 2 = .pointer (some ⟨bb0, 0, none⟩) := (hf10 2 rfl).trans s0
          have s12 : f11 3 = .pointer (some ⟨bb1, 0, none⟩) := (hf10 3 rfl).trans s1
          have s13 : f11 5 = .int .i64 (j : Int) := (hf10 5 rfl).trans s2
          obtain ⟨a4, c4, s14, rv4⟩ : ∃ (a4 : Option Addr) (c4 : Nat), f11 31 = .slice a4 x0.length c4 ∧ RV (MS M [box bb1 #[.int .i64 bn, .slice a_br br.length c_br] 35, box bb0 #[.int .i64 an, .slice a_ar ar.length c_ar] 35, imm (.slice a_br br.length c_br) br, imm (.slice a_ar ar.length c_ar) ar]) w13 (.slice a4 x0.length c4) x0 := hp10 4 rfl
          have H22 := H21.put (it := imm (.slice a4 x0.length c4) x0) rfl rv4
          obtain ⟨a5, c5, s15, rv5⟩ : ∃ (a5 : Option Addr) (c5 : Nat), f11 36 = .slice a5 x1.length c5 ∧ RV (MS M [box bb1 #[.int .i64 bn, .slice a_br br.length c_br] 35, box bb0 #[.int .i64 an, .slice a_ar ar.length c_ar] 35, imm (.slice a_br br.length c_br) br, imm (.slice a_ar ar.length c_ar) ar]) w13 (.slice a5 x1.length c5) x1 := hp10 9 rfl
          have H23 := H22.put (it := imm (.slice a5 x1.length c5) x1) rfl (by rw [MS_cons_none rfl]; exact rv5)
          refine k ?_
          have cc0 := ref02_Same (a := x0) (b := x1) (w := w13) H23.mb (H23.rv 1 rfl) (H23.rv 0 rfl)
          refine ca go28 rfl (ec s14 (ec s15 e0)) cc0 ?_
          rintro _ w14 ⟨rfl, xt13⟩
          have H24 := H23.ext xt13
          refine k (not_ rfl rfl (z (nx ?_)))
          refine cd (b := !(decide (x0 = x1))) rfl rfl (fun b3 => ?_) (fun b3 => ?_)
          ·
            have p3 := of_decide_eq_false (nott b3)
            refine sq (rg (k (asg (v := .bool false) rfl rfl (z (nx (rt (inb_ret (then_ret (loop_ret (inb_ret (then_ret (r1 rfl rfl ?_))))))))))))
            have e0 : (false : Bool) = eqM an ar bn br := by first | exact eqM_no (by rintro ⟨e1, e2⟩; first | omega | (subst e2; omega)) | exact eqM_no (by rintro ⟨e1, e2⟩; exact ne_of_at hx0 hx1 (by first | assumption | simpa using b3) e2) | exact eqM_yes (by omega) (eq_of_take (by omega) hs (by omega))
            have ev_ := cg1 (fun (x_0 : Bool) => (.bool x_0 : Value)) e0
            exact ⟨ev_, H24.below⟩
          ·
            have p3 := of_decide_eq_true (notf b3)
            refine sk (inb_normal (nx (rg (k (mv rfl s13 (k (add rfl rfl rfl rfl (by unfold I64 at *; omega) (k (asg (v := .int .i64 ((j : Int) + 1)) rfl rfl (z ?_))))))))))
            have H25 : HI M w w14 [box bb1 #[.int .i64 bn, .slice a_br br.length c_br] 35, box bb0 #[.int .i64 an, .slice a_ar ar.length c_ar] 35, imm (.slice a_br br.length c_br) br, imm (.slice a_ar ar.length c_ar) ar] := H24.pickN [2, 3, 4, 5] (by decide) rfl
            refine loopN _ ?_ ⟨(j + 1), rfl, s11, s12, (ieq rfl (by first | rfl | omega | (push_cast; omega))), H25, (by first | assumption | omega | simp | (simp; omega)), (by exact take_eq_step hs hx0 hx1 (by first | assumption | simpa using b3))⟩
            omega
      ·
        have p2 := of_decide_eq_false b2
        refine ex (then_exit (loop_exit (inb_here (nx (sq (rg (k (asg (v := .bool true) rfl rfl (z (nx (rt (r1 rfl rfl ?_))))))))))))
        have e0 : (true : Bool) = eqM an ar bn br := by first | exact eqM_no (by rintro ⟨e1, e2⟩; first | omega | (subst e2; omega)) | exact eqM_no (by rintro ⟨e1, e2⟩; exact ne_of_at hx0 hx1 (by first | assumption | simpa using b3) e2) | exact eqM_yes (by omega) (eq_of_take (by omega) hs (by omega))
        have ev_ := cg1 (fun (x_0 : Bool) => (.bool x_0 : Value)) e0
        exact ⟨ev_, H4.below⟩
/- eyewitness/eyewitnessref03.Right -/
set_option maxRecDepth 100000 in
set_option maxHeartbeats 1600000 in
theorem ref03_Right {M : Nat → Prop} {w : World} {mn : Int} {a_mr : Option Addr} {c_mr : Nat} {mr : List (List (BitVec 64))} (hM : ∀ b, M b → b < w.heap.size) (h_mn : I64 mn) (h_mr : RV M w (.slice a_mr mr.length c_mr) mr) : Calls Try.prog 16 #[.agg #[.int .i64 mn, .slice a_mr mr.length c_mr]] w (Ret fun v w' =>  v = .bool (rightS mn mr) ∧ Ext w w') := by
  refine enter 57 Try.func16 rfl rfl rfl fun f0 ha => ?_
  have H := HI.start (M0 := M) (w := w) hM
  have H0 := H.put (it := imm (.slice a_mr mr.length c_mr) mr) rfl (by rw [MS_nil]; exact h_mr)
  have ln_mr := rv_len h_mr
  have i0 : f0 0 = .agg #[.int .i64 mn, .slice a_mr mr.length c_mr] := ha 0 (by simp)
  refine sq (rg (k (bx H0 rfl i0 ?_)))
  intro bb0 w0 xt0 (H1 : HI M w w0 [box bb0 #[.int .i64 mn, .slice a_mr mr.length c_mr] 35, imm (.slice a_mr mr.length c_mr) mr])
  refine k (asg (v := .bool false) rfl rfl (z (nx (sq (sq (rg (k (fa fl35_0 rfl rfl (k (ldX H1 0 rfl ty3 rfl rfl (by decide) rfl (k (lss rfl rfl rfl rfl (k (mv (v := .bool (decide (mn < 0))) rfl rfl ?_))))))))))))))
  rcases Bool.eq_false_or_eq_true (decide (mn < 0)) with b0 | b0
  · -- decide (mn < 0) is True
    have p0 := of_decide_eq_true b0
    refine k (gn rfl rfl rfl b0 (k (gn rfl rfl rfl b0 (k (gn rfl rfl rfl b0 (k (pickT rfl rfl rfl rfl b0 rfl (k (mv (v := .bool true) rfl rfl (k (gn rfl rfl rfl rfl (k (gn rfl rfl rfl rfl (k (gn rfl rfl rfl rfl (k (gn rfl rfl rfl rfl (k (gn rfl rfl rfl rfl (k (gn rfl rfl rfl rfl (k (pickT rfl rfl rfl rfl rfl rfl (z (nx (cdT rfl rfl rfl (sq (rg (k (asg (v := .bool false) rfl rfl (z (nx (rt (then_ret (r1 rfl rfl ?_)))))))))))))))))))))))))))))))))))
    have e0 : (false : Bool) = rightS mn mr := by first | exact rightS_no (by omega) | exact right_end_ (by omega) (by omega) (by omega) hs (by omega) | exact right_row hx0 (rowOk_len (by omega)) | ((try (have e_ := at_is hx1 hx0; subst e_)); (try (have e_ := at_is hx2 hx0; subst e_)); (try (have e_ := at_is hx3 hx0; subst e_)); (try (have e_ := at_is hx4 hx0; subst e_)); (try (have e_ := at_is hx5 hx0; subst e_)); (try (have e_ := at_is hx6 hx0; subst e_)); exact right_row hx0 (rowOk_bit (k := mn + (q : Int)) (by omega) (by omega) (by omega) (by assumption)))
    have ev_ := cg1 (fun (x_0 : Bool) => (.bool x_0 : Value)) e0
    exact ⟨ev_, H1.below⟩
  · -- decide (mn < 0) is False
    have p0 := of_decide_eq_false b0
    refine k (gy rfl rfl rfl b0 (fa fl35_0 rfl rfl (k (gy rfl rfl rfl b0 (ldX H1 0 rfl ty3 rfl rfl (by decide) rfl (k (gy rfl rfl rfl b0 (gtr rfl rfl rfl rfl (k (pickF rfl rfl rfl rfl b0 rfl (k (mv (v := .bool (decide (4096 < mn))) rfl rfl ?_))))))))))))
    rcases Bool.eq_false_or_eq_true (decide (4096 < mn)) with b1 | b1
    · -- decide (4096 < mn) is True
      have p1 := of_decide_eq_true b1
      refine k (gn rfl rfl rfl b1 (k (gn rfl rfl rfl b1 (k (gn rfl rfl rfl b1 (k (gn rfl rfl rfl b1 (k (gn rfl rfl rfl b1 (k (gn rfl rfl rfl b1 (k (pickT rfl rfl rfl rfl b1 rfl (z (nx (cdT rfl rfl rfl (sq (rg (k (asg (v := .bool false) rfl rfl (z (nx (rt (then_ret (r1 rfl rfl ?_)))))))))))))))))))))))))
      have e0 : (false : Bool) = rightS mn mr := by first | exact rightS_no (by omega) | exact right_end_ (by omega) (by omega) (by omega) hs (by omega) | exact right_row hx0 (rowOk_len (by omega)) | ((try (have e_ := at_is hx1 hx0; subst e_)); (try (have e_ := at_is hx2 hx0; subst e_)); (try (have e_ := at_is hx3 hx0; subst e_)); (try (have e_ := at_is hx4 hx0; subst e_)); (try (have e_ := at_is hx5 hx0; subst e_)); (try (have e_ := at_is hx6 hx0; subst e_)); exact right_row hx0 (rowOk_bit (k := mn + (q : Int)) (by omega) (by omega) (by omega) (by assumption)))
      have ev_ := cg1 (fun (x_0 : Bool) => (.bool x_0 : Value)) e0
      exact ⟨ev_, H1.below⟩
    · -- decide (4096 < mn) is False
      have p1 := of_decide_eq_false b1
      refine k (gy rfl rfl rfl b1 (fa fl35_1 rfl rfl (k (gy rfl rfl rfl b1 (ldX H1 0 rfl ty33 rfl rfl (by decide) rfl (k (gy rfl rfl rfl b1 (lnS rfl rfl un33 (k (gy rfl rfl rfl b1 (fa fl35_0 rfl rfl (k (gy rfl rfl rfl b1 (ldX H1 0 rfl ty3 rfl rfl (by decide) rfl (k (gy rfl rfl rfl b1 (neq rfl rfl rfl rfl (k (pickF rfl rfl rfl rfl b1 rfl (z (nx ?_)))))))))))))))))))))
      refine cd (b := !decide ((mr.length : Int) = mn)) rfl rfl (fun b2 => ?_) (fun b2 => ?_)
      ·
        have p2 := of_decide_eq_false (nott b2)
        refine sq (rg (k (asg (v := .bool false) rfl rfl (z (nx (rt (then_ret (r1 rfl rfl ?_))))))))
        have e0 : (false : Bool) = rightS mn mr := by first | exact rightS_no (by omega) | exact right_end_ (by omega) (by omega) (by omega) hs (by omega) | exact right_row hx0 (rowOk_len (by omega)) | ((try (have e_ := at_is hx1 hx0; subst e_)); (try (have e_ := at_is hx2 hx0; subst e_)); (try (have e_ := at_is hx3 hx0; subst e_)); (try (have e_ := at_is hx4 hx0; subst e_)); (try (have e_ := at_is hx5 hx0; subst e_)); (try (have e_ := at_is hx6 hx0; subst e_)); exact right_row hx0 (rowOk_bit (k := mn + (q : Int)) (by omega) (by omega) (by omega) (by assumption)))
        have ev_ := cg1 (fun (x_0 : Bool) => (.bool x_0 : Value)) e0
        exact ⟨ev_, H1.below⟩
      ·
        have p2 := of_decide_eq_true (notf b2)
        refine sk (nx (sq (sq (rg (k (asg (v := .int .i64 0) rfl rfl (z (nx (bk ?_)))))))))
        refine lp (fun m f w' => ∃ (i : Nat), m = mr.length - i ∧ f 1 = .pointer (some ⟨bb0, 0, none⟩) ∧ f 3 = .int .i64 (i : Int) ∧  HI M w w' [box bb0 #[.int .i64 mn, .slice a_mr mr.length c_mr] 35, imm (.slice a_mr mr.length c_mr) mr] ∧ (i ≤ mr.length) ∧ ((mr.take i).all (rowOk mn) = true)) _ ⟨0, rfl, rfl, (ieq rfl (by first | rfl | omega | simp)), H1, (by first | assumption | omega | simp | (simp; omega)), (by rfl)⟩ ?_
        rintro _ f0 w1 ⟨i, rfl, s0, s1, H2, hi_, hs⟩
        refine sq (sq (rg (k (mv rfl s1 (k (fa fl35_0 rfl s0 (k (ldX H2 0 rfl ty3 rfl rfl (by decide) rfl (k (lss rfl rfl rfl rfl (z (nx ?_))))))))))))
        refine cd (b := decide ((i : Int) < mn)) rfl rfl (fun b3 => ?_) (fun b3 => ?_)
        ·
          have p3 := of_decide_eq_true b3
          refine sk (nx (sq (bk (sq (sq ?_)))))
          obtain ⟨x0, hx0⟩ : ∃ x, mr[(i : Int).toNat]? = some x := ⟨_, List.getElem?_eq_getElem (by first | omega | (simp; omega))⟩
          refine dr 9 [fun (v : Value) (w' : World) => v = .pointer (some ⟨bb0, 1, none⟩), fun (v : Value) (w' : World) => v = .slice a_mr mr.length c_mr, fun (v : Value) (w' : World) => v = .int .i64 (i : Int), fun (v : Value) (w' : World) => ∃ (ad0 : Addr), v = .pointer (some ad0) ∧ At (MS M [box bb0 #[.int .i64 mn, .slice a_mr mr.length c_mr] 35, imm (.slice a_mr mr.length c_mr) mr]) w' ad0 x0, fun (v : Value) (w' : World) => ∃ (a0 : Option Addr) (c0 : Nat), v = .slice a0 x0.length c0 ∧ RV (MS M [box bb0 #[.int .i64 mn, .slice a_mr mr.length c_mr] 35, imm (.slice a_mr mr.length c_mr) mr]) w' (.slice a0 x0.length c0) x0, fun (v : Value) (w' : World) => v = .int .i64 (x0.length : Int), fun (v : Value) (w' : World) => v = .pointer (some ⟨bb0, 0, none⟩), fun (v : Value) (w' : World) => v = .int .i64 mn, fun (v : Value) (w' : World) => v = .int .i64 ((words mn : Nat) : Int)] rfl (by kernel_rfl) ?_ ?_
          ·
            refine ⟨fun _ => ⟨fun f1 w3 hf0 xt2 hp0 => ?_, fun _ _ _ _ h => h⟩, ?_⟩
            ·
              have H5 := H2.ext xt2
              refine fa fl35_1 rfl ((hf0 1 rfl).trans s0) ?_
              exact ⟨_, rfl, Ext.refl _, rfl⟩
            refine ⟨fun _ => ⟨fun f2 w4 hf1 xt3 hp1 => ?_, fun _ _ _ _ h => h⟩, ?_⟩
            ·
              have H6 := H2.ext xt3
              have s2 : f2 27 = .pointer (some ⟨bb0, 1, none⟩) := hp1 0 rfl rfl
              refine ldX H6 0 rfl ty33 rfl s2 (by decide) rfl ?_
              exact ⟨_, rfl, Ext.refl _, rfl⟩
            refine ⟨fun _ => ⟨fun f3 w5 hf2 xt4 hp2 => ?_, fun _ _ _ _ h => h⟩, ?_⟩
            ·
              have H7 := H2.ext xt4
              refine mv rfl ((hf2 3 rfl).trans s1) ?_
              exact ⟨_, rfl, Ext.refl _, rfl⟩
            refine ⟨fun _ => ⟨fun f4 w6 hf3 xt5 hp3 => ?_, by rintro _ _ _ x_ ⟨ad0, e_, hA0⟩; exact ⟨ad0, e_, hA0.lift (Up.ext x_)⟩⟩, ?_⟩
            ·
              have H8 := H2.ext xt5
              have s3 : f4 28 = .slice a_mr mr.length c_mr := hp3 1 rfl rfl
              have s4 : f4 29 = .int .i64 (i : Int) := hp3 2 rfl rfl
              refine ia (H8.rv 1 rfl) rfl rfl s3 s4 (by first | omega | (simp; omega)) un33 ty60 ?_
              intro ad1 x1 hx1 hA1
              obtain rfl : x0 = x1 := Option.some.inj (hx0.symm.trans hx1)
              exact ⟨_, rfl, Ext.refl _, ⟨ad1, rfl, hA1⟩⟩
            refine ⟨fun _ => ⟨fun f5 w7 hf4 xt6 hp4 => ?_, by rintro _ _ _ x_ ⟨a0, c0, e_, rv0⟩; exact ⟨a0, c0, e_, rv0.lift (Up.ext x_)⟩⟩, ?_⟩
            ·
              have H9 := H2.ext xt6
              obtain ⟨ad2, s5, hA2⟩ : ∃ (ad2 : Addr), f5 30 = .pointer (some ad2) ∧ At (MS M [box bb0 #[.int .i64 mn, .slice a_mr mr.length c_mr] 35, imm (.slice a_mr mr.length c_mr) mr]) w7 ad2 x0 := hp4 3 rfl rfl
              have H10 := H9.put (it := atI ad2 x0) rfl hA2
              refine ldL (H10.atv 0 rfl).w ty60 rfl s5 ?_
              intro a1 c1 rv1
              have ln1 := rv_len rv1
              have H11 := H10.put (it := imm (.slice a1 x0.length c1) x0) rfl rv1
              exact ⟨_, rfl, Ext.refl _, ⟨a1, c1, rfl, (rv_drop rfl rv1)⟩⟩
            refine ⟨fun _ => ⟨fun f6 w8 hf5 xt7 hp5 => ?_, fun _ _ _ _ h => h⟩, ?_⟩
            ·
              have H12 := H2.ext xt7
              obtain ⟨a2, c2, s6, rv2⟩ : ∃ (a2 : Option Addr) (c2 : Nat), f6 31 = .slice a2 x0.length c2 ∧ RV (MS M [box bb0 #[.int .i64 mn, .slice a_mr mr.length c_mr] 35, imm (.slice a_mr mr.length c_mr) mr]) w8 (.slice a2 x0.length c2) x0 := hp5 4 rfl rfl
              have H13 := H12.put (it := imm (.slice a2 x0.length c2) x0) rfl rv2
              refine lnS rfl s6 un60 ?_
              exact ⟨_, rfl, Ext.refl _, rfl⟩
            refine ⟨fun _ => ⟨fun f7 w9 hf6 xt8 hp6 => ?_, fun _ _ _ _ h => h⟩, ?_⟩
            ·
              have H14 := H2.ext xt8
              refine fa fl35_0 rfl ((hf6 1 rfl).trans s0) ?_
              exact ⟨_, rfl, Ext.refl _, rfl⟩
            refine ⟨fun _ => ⟨fun f8 w10 hf7 xt9 hp7 => ?_, fun _ _ _ _ h => h⟩, ?_⟩
            ·
              have H15 := H2.ext xt9
              have s7 : f8 33 = .pointer (some ⟨bb0, 0, none⟩) := hp7 6 rfl rfl
              refine ldX H15 0 rfl ty3 rfl s7 (by decide) rfl ?_
              exact ⟨_, rfl, Ext.refl _, rfl⟩
            refine ⟨fun _ => ⟨fun f9 w11 hf8 xt10 hp8 => ?_, fun _ _ _ _ h => h⟩, ?_⟩
            ·
              have H16 := H2.ext xt10
              have s8 : f9 34 = .int .i64 mn := hp8 7 rfl rfl
              have cc1 := ref02_Words (n := mn) (w := w11) (by unfold I64 at *; omega) (by omega)
              refine ca go36 rfl (ec s8 e0) cc1 ?_
              rintro _ w12 ⟨rfl, xt11⟩
              have H17 := H16.ext xt11
              exact ⟨_, rfl, xt11, rfl⟩
            exact DSteps.rest rfl _
          · intro f10 w13 hf9 xt12 hp9
            have H18 := H2.ext xt12
            have s9 : f10 1 = .pointer (some ⟨bb0, 0, none⟩) := (hf9 1 rfl).trans s0
            have s10 : f10 3 = .int .i64 (i : Int) := (hf9 3 rfl).trans s1
            have s11 : f10 32 = .int .i64 (x0.length : Int) := hp9 5 rfl
            have s12 : f10 35 = .int .i64 ((words mn : Nat) : Int) := hp9 8 rfl
            refine k (neq rfl rfl s11 s12 (z (nx ?_)))
            refine cd (b := !decide ((x0.length : Int) = ((words mn : Nat) : Int))) rfl rfl (fun b4 => ?_) (fun b4 => ?_)
            ·
              have p4 := of_decide_eq_false (nott b4)
              refine sq (rg (k (asg (v := .bool false) rfl rfl (z (nx (rt (then_ret (inb_ret (then_ret (loop_ret (inb_ret (then_ret (r1 rfl rfl ?_)))))))))))))
              have e0 : (false : Bool) = rightS mn mr := by first | exact rightS_no (by omega) | exact right_end_ (by omega) (by omega) (by omega) hs (by omega) | exact right_row hx0 (rowOk_len (by omega)) | ((try (have e_ := at_is hx1 hx0; subst e_)); (try (have e_ := at_is hx2 hx0; subst e_)); (try (have e_ := at_is hx3 hx0; subst e_)); (try (have e_ := at_is hx4 hx0; subst e_)); (try (have e_ := at_is hx5 hx0; subst e_)); (try (have e_ := at_is hx6 hx0; subst e_)); exact right_row hx0 (rowOk_bit (k := mn + (q : Int)) (by omega) (by omega) (by omega) (by assumption)))
              have ev_ := cg1 (fun (x_0 : Bool) => (.bool x_0 : Value)) e0
              exact ⟨ev_, H18.below⟩
            ·
              have p4 := of_decide_eq_true (notf b4)
              refine sk (nx (sq (rg (k (fa fl35_0 rfl s9 (k (ldX H18 0 rfl ty3 rfl rfl (by decide) rfl (k (asg (v := .int .i64 mn) rfl rfl (z (nx (bk ?_))))))))))))
              refine lp (fun m f w' => ∃ (q : Nat), m = (64 * ((mr.getD i []).length : Int) - mn).toNat - q ∧ f 1 = .pointer (some ⟨bb0, 0, none⟩) ∧ f 3 = .int .i64 (i : Int) ∧ f 4 = .int .i64 (mn + (q : Int)) ∧  HI M w w' [box bb0 #[.int .i64 mn, .slice a_mr mr.length c_mr] 35, imm (.slice a_mr mr.length c_mr) mr] ∧ (q = 0 ∨ mn + (q : Int) ≤ 64 * ((mr.getD i []).length : Int)) ∧ (∀ k : Int, mn ≤ k → k < mn + (q : Int) → hasR (mr.getD i []) k = false)) _ ⟨0, rfl, s9, s10, (ieq rfl (by omega)), H18, (by left; rfl), (by intro k_ h1_ h2_; omega)⟩ ?_
              rintro _ f11 w14 ⟨q, rfl, s13, s14, s15, H19, hq_, hz⟩
              refine sq (sq (rg (k (mv rfl s15 (k (fa fl35_1 rfl s13 (k (ldX H19 0 rfl ty33 rfl rfl (by decide) rfl (k (mv rfl s14 (k (ia (H19.rv 1 rfl) rfl rfl rfl rfl (by first | omega | (simp; omega)) un33 ty60 ?_))))))))))))
              intro ad3 x2 hx2 hA3
              refine k (ldL hA3.w ty60 rfl rfl ?_)
              intro a3 c3 rv3
              have ln2 := rv_len rv3
              have H20 := H19.put (it := imm (.slice a3 x2.length c3) x2) rfl rv3
              refine k (lnS rfl rfl un60 (k (mul rfl rfl rfl rfl (by have h_ := words_le (n := mn) (by omega); (try (have e_ := at_is hx1 hx0; subst e_)); (try (have e_ := at_is hx2 hx0; subst e_)); (try (have e_ := at_is hx3 hx0; subst e_)); (try (have e_ := at_is hx4 hx0; subst e_)); (try (have e_ := at_is hx5 hx0; subst e_)); (try (have e_ := at_is hx6 hx0; subst e_)); unfold I64; omega) (k (lss rfl rfl rfl rfl (z (nx ?_)))))))
              refine cd (b := decide ((mn + (q : Int)) < (64 * (x2.length : Int)))) rfl rfl (fun b5 => ?_) (fun b5 => ?_)
              ·
                have p5 := of_decide_eq_true b5
                refine sk (nx (sq (bk (sq (rg (k (fa fl35_1 rfl s13 (k (ldX H20 1 rfl ty33 rfl rfl (by decide) rfl (k (mv rfl s14 (k (ia (H20.rv 2 rfl) rfl rfl rfl rfl (by first | omega | (simp; omega)) un33 ty60 ?_)))))))))))))
                intro ad4 x3 hx3 hA4
                refine k (ldL hA4.w ty60 rfl rfl ?_)
                intro a4 c4 rv4
                have ln3 := rv_len rv4
                have H21 := H20.put (it := imm (.slice a4 x3.length c4) x3) rfl rv4
                refine k (mv rfl s15 (k ?_))
                have cc2 := ref02_Has (r := x3) (i := (mn + (q : Int))) (w := w14) H21.mb (H21.rv 0 rfl) (by have h_ := words_le (n := mn) (by omega); (try (have e_ := at_is hx1 hx0; subst e_)); (try (have e_ := at_is hx2 hx0; subst e_)); (try (have e_ := at_is hx3 hx0; subst e_)); (try (have e_ := at_is hx4 hx0; subst e_)); (try (have e_ := at_is hx5 hx0; subst e_)); (try (have e_ := at_is hx6 hx0; subst e_)); unfold I64; omega) (by have h_ := words_le (n := mn) (by omega); (try (have e_ := at_is hx1 hx0; subst e_)); (try (have e_ := at_is hx2 hx0; subst e_)); (try (have e_ := at_is hx3 hx0; subst e_)); (try (have e_ := at_is hx4 hx0; subst e_)); (try (have e_ := at_is hx5 hx0; subst e_)); (try (have e_ := at_is hx6 hx0; subst e_)); omega)
                refine ca go37 rfl (ec rfl (ec rfl e0)) cc2 ?_
                rintro _ w15 ⟨rfl, xt13⟩
                have H22 := H21.ext xt13
                refine z (nx ?_)
                refine cd (b := hasR x3 (mn + (q : Int))) rfl rfl (fun b6 => ?_) (fun b6 => ?_)
                ·
                  refine sq (rg (k (asg (v := .bool false) rfl rfl (z (nx (rt (inb_ret (then_ret (loop_ret (inb_ret (inb_ret (then_ret (loop_ret (inb_ret (then_ret (r1 rfl rfl ?_))))))))))))))))
                  have e0 : (false : Bool) = rightS mn mr := by first | exact rightS_no (by omega) | exact right_end_ (by omega) (by omega) (by omega) hs (by omega) | exact right_row hx0 (rowOk_len (by omega)) | ((try (have e_ := at_is hx1 hx0; subst e_)); (try (have e_ := at_is hx2 hx0; subst e_)); (try (have e_ := at_is hx3 hx0; subst e_)); (try (have e_ := at_is hx4 hx0; subst e_)); (try (have e_ := at_is hx5 hx0; subst e_)); (try (have e_ := at_is hx6 hx0; subst e_)); exact right_row hx0 (rowOk_bit (k := mn + (q : Int)) (by omega) (by omega) (by omega) (by assumption)))
                  have ev_ := cg1 (fun (x_0 : Bool) => (.bool x_0 : Value)) e0
                  exact ⟨ev_, H22.below⟩
                ·
                  refine sk (inb_normal (nx (rg (k (mv rfl s15 (k (add rfl rfl rfl rfl (by have h_ := words_le (n := mn) (by omega); (try (have e_ := at_is hx1 hx0; subst e_)); (try (have e_ := at_is hx2 hx0; subst e_)); (try (have e_ := at_is hx3 hx0; subst e_)); (try (have e_ := at_is hx4 hx0; subst e_)); (try (have e_ := at_is hx5 hx0; subst e_)); (try (have e_ := at_is hx6 hx0; subst e_)); unfold I64; omega) (k (asg (v := .int .i64 ((mn + (q : Int)) + 1)) rfl rfl (z ?_))))))))))
                  have H23 : HI M w w15 [box bb0 #[.int .i64 mn, .slice a_mr mr.length c_mr] 35, imm (.slice a_mr mr.length c_mr) mr] := H22.pickN [2, 3] (by decide) rfl
                  refine loopN _ ?_ ⟨(q + 1), rfl, s13, s14, (ieq rfl (by omega)), H23, (by right; rw [getD_row hx0]; (try (have e_ := at_is hx1 hx0; subst e_)); (try (have e_ := at_is hx2 hx0; subst e_)); (try (have e_ := at_is hx3 hx0; subst e_)); (try (have e_ := at_is hx4 hx0; subst e_)); (try (have e_ := at_is hx5 hx0; subst e_)); (try (have e_ := at_is hx6 hx0; subst e_)); omega), (by intro k_ h1_ h2_; exact if e_ : k_ = mn + (q : Int) then (by rw [e_, getD_row hx0]; (try (have e_ := at_is hx1 hx0; subst e_)); (try (have e_ := at_is hx2 hx0; subst e_)); (try (have e_ := at_is hx3 hx0; subst e_)); (try (have e_ := at_is hx4 hx0; subst e_)); (try (have e_ := at_is hx5 hx0; subst e_)); (try (have e_ := at_is hx6 hx0; subst e_)); assumption) else hz k_ h1_ (by omega))⟩
                  (try (have e_ := at_is hx1 hx0; subst e_)); (try (have e_ := at_is hx2 hx0; subst e_)); (try (have e_ := at_is hx3 hx0; subst e_)); (try (have e_ := at_is hx4 hx0; subst e_)); (try (have e_ := at_is hx5 hx0; subst e_)); (try (have e_ := at_is hx6 hx0; subst e_)); rw [getD_row hx0] at *; omega
              ·
                have p5 := of_decide_eq_false b5
                refine ex (then_exit (loop_exit (inb_here (inb_normal (nx (rg (k (mv rfl s14 (k (add rfl rfl rfl rfl (by unfold I64 at *; omega) (k (asg (v := .int .i64 ((i : Int) + 1)) rfl rfl (z ?_)))))))))))))
                have H21 : HI M w w14 [box bb0 #[.int .i64 mn, .slice a_mr mr.length c_mr] 35, imm (.slice a_mr mr.length c_mr) mr] := H20.pickN [1, 2] (by decide) rfl
                refine loopN _ ?_ ⟨(i + 1), rfl, s13, (ieq rfl (by first | rfl | omega | (push_cast; omega))), H21, (by first | assumption | omega | simp | (simp; omega)), (by (try (have e_ := at_is hx1 hx0; subst e_)); (try (have e_ := at_is hx2 hx0; subst e_)); (try (have e_ := at_is hx3 hx0; subst e_)); (try (have e_ := at_is hx4 hx0; subst e_)); (try (have e_ := at_is hx5 hx0; subst e_)); (try (have e_ := at_is hx6 hx0; subst e_)); exact all_take hx0 hs (rowOk_yes (j := mn + (q : Int)) (by omega) (by rw [getD_row hx0] at hz; exact hz) (by omega)))⟩
                omega
        ·
          have p3 := of_decide_eq_false b3
          refine ex (then_exit (loop_exit (inb_here (nx (sq (rg (k (asg (v := .bool true) rfl rfl (z (nx (rt (r1 rfl rfl ?_))))))))))))
          have e0 : (true : Bool) = rightS mn mr := by first | exact rightS_no (by omega) | exact right_end_ (by omega) (by omega) (by omega) hs (by omega) | exact right_row hx0 (rowOk_len (by omega)) | ((try (have e_ := at_is hx1 hx0; subst e_)); (try (have e_ := at_is hx2 hx0; subst e_)); (try (have e_ := at_is hx3 hx0; subst e_)); (try (have e_ := at_is hx4 hx0; subst e_)); (try (have e_ := at_is hx5 hx0; subst e_)); (try (have e_ := at_is hx6 hx0; subst e_)); exact right_row hx0 (rowOk_bit (k := mn + (q : Int)) (by omega) (by omega) (by omega) (by assumption)))
          have ev_ := cg1 (fun (x_0 : Bool) => (.bool x_0 : Value)) e0
          exact ⟨ev_, H2.below⟩
/- eyewitness/eyewitnessref03.Or -/
set_option maxRecDepth 100000 in
set_option maxHeartbeats 1600000 in
theorem ref03_Or {M : Nat → Prop} {w : World} {an : Int} {a_ar : Option Addr} {c_ar : Nat} {ar : List (List (BitVec 64))} {bn : Int} {a_br : Option Addr} {c_br : Nat} {br : List (List (BitVec 64))} (hM : ∀ b, M b → b < w.heap.size) (h_an : I64 an) (h_ar : RV M w (.slice a_ar ar.length c_ar) ar) (h_bn : I64 bn) (h_br : RV M w (.slice a_br br.length c_br) br) (hsq_a : ((ar.length : Nat) : Int) = an) (hrw_a : ∀ x ∈ ar, x.length ≤ 1000000000) (hl4_a : an ≤ 4096) (hsq_b : ((br.length : Nat) : Int) = bn) (hrw_b : ∀ x ∈ br, x.length ≤ 1000000000) (hl4_b : bn ≤ 4096) : Calls Try.prog 34 #[.agg #[.int .i64 an, .slice a_ar ar.length c_ar], .agg #[.int .i64 bn, .slice a_br br.length c_br]] w (Ret fun v w' => ∃ (a0 : Option Addr) (c0 : Nat), v = .tuple #[.agg #[.int .i64 (orMN an bn), .slice a0 (orMR an ar bn br).length c0], .int .i64 (orME an bn)] ∧ Ext w w' ∧ OwnsG M 60 w (orMR an ar bn br) (.slice a0 (orMR an ar bn br).length c0) w') := by
  refine enter 40 Try.func34 rfl rfl rfl fun f0 ha => ?_
  have H := HI.start (M0 := M) (w := w) hM
  have H0 := H.put (it := imm (.slice a_ar ar.length c_ar) ar) rfl (by rw [MS_nil]; exact h_ar)
  have H1 := H0.put (it := imm (.slice a_br br.length c_br) br) rfl (by rw [MS_cons_none rfl, MS_nil]; exact h_br)
  have ln_ar := rv_len h_ar
  have ln_br := rv_len h_br
  have i0 : f0 0 = .agg #[.int .i64 an, .slice a_ar ar.length c_ar] := ha 0 (by simp)
  have i1 : f0 1 = .agg #[.int .i64 bn, .slice a_br br.length c_br] := ha 1 (by simp)
  refine sq (rg (k (bx H1 rfl i0 ?_)))
  intro bb0 w0 xt0 (H2 : HI M w w0 [box bb0 #[.int .i64 an, .slice a_ar ar.length c_ar] 35, imm (.slice a_br br.length c_br) br, imm (.slice a_ar ar.length c_ar) ar])
  refine k (bx H2 rfl i1 ?_)
  intro bb1 w1 xt1 (H3 : HI M w w1 [box bb1 #[.int .i64 bn, .slice a_br br.length c_br] 35, box bb0 #[.int .i64 an, .slice a_ar ar.length c_ar] 35, imm (.slice a_br br.length c_br) br, imm (.slice a_ar ar.length c_ar) ar])
  refine k (al H3 ty35 ?_)
  intro bb2 w2 xt2 (H4 : HI M w w2 [box bb2 #[.int .i64 0, .slice none 0 0] 35, box bb1 #[.int .i64 bn, .slice a_br br.length c_br] 35, box bb0 #[.int .i64 an, .slice a_ar ar.length c_ar] 35, imm (.slice a_br br.length c_br) br, imm (.slice a_ar ar.length c_ar) ar])
  refine k (asg (v := .int .i64 0) rfl rfl (z (nx (sq (sq (rg (k (fa fl35_0 rfl rfl (k (ldX H4 2 rfl ty3 rfl rfl (by decide) rfl (k (fa fl35_0 rfl rfl (k (ldX H4 1 rfl ty3 rfl rfl (by decide) rfl (k (neq rfl rfl rfl rfl (z (nx ?_))))))))))))))))))
  refine cd (b := !decide (an = bn)) rfl rfl (fun b0 => ?_) (fun b0 => ?_)
  ·
    have p0 := of_decide_eq_false (nott b0)
    refine sq (rg (k (bd (v := .agg #[.int .i64 0, .slice none 0 0]) rfl pb0 (fun _ => by kernel_rfl) (k (stX H4 0 rfl ty35 rfl rfl rfl rfl rfl rfl rfl ?_)))))
    intro w3 (H5 : HI M w w3 [box bb2 #[.int .i64 0, .slice none 0 0] 35, box bb1 #[.int .i64 bn, .slice a_br br.length c_br] 35, box bb0 #[.int .i64 an, .slice a_ar ar.length c_ar] 35, imm (.slice a_br br.length c_br) br, imm (.slice a_ar ar.length c_ar) ar])
    refine k (asg (v := .int .i64 1) rfl rfl (z (nx (rt (then_ret (rc2 H5 0 rfl ty35 rfl rfl rfl rfl rfl (by decide) ?_))))))
    have e0 : (0 : Int) = orMN an bn := by first | exact (orM_no (ar := ar) (br := br) p0).1.symm | exact (orM_yes (ar := ar) (br := br) p0).1.symm
    have e1 : ([] : List (List (BitVec 64))) = orMR an ar bn br := by first | exact (orM_no p0).2.1.symm | (rw [(orM_yes p0).2.1, hs, show j = an.toNat from by omega])
    have e2 : (1 : Int) = orME an bn := by first | exact (orM_no (ar := ar) (br := br) p0).2.2.symm | exact (orM_yes (ar := ar) (br := br) p0).2.2.symm
    have ev_ := cg3 (fun (x_0 : Int) (x_1 : List (List (BitVec 64))) (x_2 : Int) => (.tuple #[.agg #[.int .i64 x_0, .slice none x_1.length 0], .int .i64 x_2] : Value)) e0 e1 e2
    exact ⟨none, 0, ev_, H5.below, (congrArg (fun (x_ : List (List (BitVec 64))) => OwnsG _ _ _ x_ (.slice none x_.length 0) _) e1).mp (ownsG_nil H5.below)⟩
  ·
    have p0 := of_decide_eq_true (notf b0)
    refine sk (nx (sq (rg (k (fa fl35_0 rfl rfl (k (ldX H4 2 rfl ty3 rfl rfl (by decide) rfl (k (bd (v := .agg #[.int .i64 an, .slice none 0 0]) rfl (pbc rfl pb0) (fun _ => by kernel_rfl) (k (al H4 ty35 ?_)))))))))))
    intro bb3 w3 xt3 (H5 : HI M w w3 [box bb3 #[.int .i64 0, .slice none 0 0] 35, box bb2 #[.int .i64 0, .slice none 0 0] 35, box bb1 #[.int .i64 bn, .slice a_br br.length c_br] 35, box bb0 #[.int .i64 an, .slice a_ar ar.length c_ar] 35, imm (.slice a_br br.length c_br) br, imm (.slice a_ar ar.length c_ar) ar])
    refine k (stX H5 0 rfl ty35 rfl rfl rfl rfl rfl rfl rfl ?_)
    intro w4 (H6 : HI M w w4 [box bb3 #[.int .i64 an, .slice none 0 0] 35, box bb2 #[.int .i64 0, .slice none 0 0] 35, box bb1 #[.int .i64 bn, .slice a_br br.length c_br] 35, box bb0 #[.int .i64 an, .slice a_ar ar.length c_ar] 35, imm (.slice a_br br.length c_br) br, imm (.slice a_ar ar.length c_ar) ar])
    refine z (nx (sq (sq (rg (k (asg (v := .int .i64 0) rfl rfl (z (nx (bk ?_)))))))))
    have H7 := H6.nil_ (List (BitVec 64)) 60
    refine lp (fun m f w' => ∃ (j : Nat) (xs : List (List (BitVec 64))) (a0 : Option Addr) (c0 : Nat), m = an.toNat - j ∧ f 2 = .pointer (some ⟨bb0, 0, none⟩) ∧ f 3 = .pointer (some ⟨bb1, 0, none⟩) ∧ f 4 = .pointer (some ⟨bb2, 0, none⟩) ∧ f 6 = .pointer (some ⟨bb3, 0, none⟩) ∧ f 7 = .int .i64 (j : Int) ∧  HI M w w' [own w.heap.size 60 (.slice a0 xs.length c0) xs, box bb3 #[.int .i64 an, .slice a0 xs.length c0] 35, box bb2 #[.int .i64 0, .slice none 0 0] 35, box bb1 #[.int .i64 bn, .slice a_br br.length c_br] 35, box bb0 #[.int .i64 an, .slice a_ar ar.length c_ar] 35, imm (.slice a_br br.length c_br) br, imm (.slice a_ar ar.length c_ar) ar] ∧ (j ≤ an.toNat) ∧ (xs = orRs ar br j)) _ ⟨0, ([] : List (List (BitVec 64))), none, 0, rfl, rfl, rfl, rfl, rfl, (ieq rfl (by first | rfl | omega | simp)), H7, (by first | assumption | omega | simp | (simp; omega)), (by rfl)⟩ ?_
    rintro _ f0 w5 ⟨j, xs, a0, c0, rfl, s0, s1, s2, s3, s4, H8, hk, hs⟩
    refine sq (sq (rg (k (mv rfl s4 (k (fa fl35_0 rfl s0 (k (ldX H8 4 rfl ty3 rfl rfl (by decide) rfl (k (lss rfl rfl rfl rfl (z (nx ?_))))))))))))
    refine cd (b := decide ((j : Int) < an)) rfl rfl (fun b1 => ?_) (fun b1 => ?_)
    ·
      have p1 := of_decide_eq_true b1
      refine sk (nx (sq (bk ?_)))
      obtain ⟨x0, hx0⟩ : ∃ x, ar[(j : Int).toNat]? = some x := ⟨_, List.getElem?_eq_getElem (by first | omega | (simp; omega))⟩
      obtain ⟨x1, hx1⟩ : ∃ x, br[(j : Int).toNat]? = some x := ⟨_, List.getElem?_eq_getElem (by first | omega | (simp; omega))⟩
      refine dr 14 [fun (v : Value) (w' : World) => v = .pointer (some ⟨bb3, 1, none⟩), fun (v : Value) (w' : World) => v = .slice a0 xs.length c0, fun (v : Value) (w' : World) => v = .pointer (some ⟨bb0, 1, none⟩), fun (v : Value) (w' : World) => v = .slice a_ar ar.length c_ar, fun (v : Value) (w' : World) => v = .int .i64 (j : Int), fun (v : Value) (w' : World) => ∃ (ad0 : Addr), v = .pointer (some ad0) ∧ At (MS M [own w.heap.size 60 (.slice a0 xs.length c0) xs, box bb3 #[.int .i64 an, .slice a0 xs.length c0] 35, box bb2 #[.int .i64 0, .slice none 0 0] 35, box bb1 #[.int .i64 bn, .slice a_br br.length c_br] 35, box bb0 #[.int .i64 an, .slice a_ar ar.length c_ar] 35, imm (.slice a_br br.length c_br) br, imm (.slice a_ar ar.length c_ar) ar]) w' ad0 x0, fun (v : Value) (w' : World) => ∃ (a1 : Option Addr) (c1 : Nat), v = .slice a1 x0.length c1 ∧ RV (MS M [own w.heap.size 60 (.slice a0 xs.length c0) xs, box bb3 #[.int .i64 an, .slice a0 xs.length c0] 35, box bb2 #[.int .i64 0, .slice none 0 0] 35, box bb1 #[.int .i64 bn, .slice a_br br.length c_br] 35, box bb0 #[.int .i64 an, .slice a_ar ar.length c_ar] 35, imm (.slice a_br br.length c_br) br, imm (.slice a_ar ar.length c_ar) ar]) w' (.slice a1 x0.length c1) x0, fun (v : Value) (w' : World) => v = .pointer (some ⟨bb1, 1, none⟩), fun (v : Value) (w' : World) => v = .slice a_br br.length c_br, fun (v : Value) (w' : World) => v = .int .i64 (j : Int), fun (v : Value) (w' : World) => ∃ (ad1 : Addr), v = .pointer (some ad1) ∧ At (MS M [own w.heap.size 60 (.slice a0 xs.length c0) xs, box bb3 #[.int .i64 an, .slice a0 xs.length c0] 35, box bb2 #[.int .i64 0, .slice none 0 0] 35, box bb1 #[.int .i64 bn, .slice a_br br.length c_br] 35, box bb0 #[.int .i64 an, .slice a_ar ar.length c_ar] 35, imm (.slice a_br br.length c_br) br, imm (.slice a_ar ar.length c_ar) ar]) w' ad1 x1, fun (v : Value) (w' : World) => ∃ (a2 : Option Addr) (c2 : Nat), v = .slice a2 x1.length c2 ∧ RV (MS M [own w.heap.size 60 (.slice a0 xs.length c0) xs, box bb3 #[.int .i64 an, .slice a0 xs.length c0] 35, box bb2 #[.int .i64 0, .slice none 0 0] 35, box bb1 #[.int .i64 bn, .slice a_br br.length c_br] 35, box bb0 #[.int .i64 an, .slice a_ar ar.length c_ar] 35, imm (.slice a_br br.length c_br) br, imm (.slice a_ar ar.length c_ar) ar]) w' (.slice a2 x1.length c2) x1, fun (v : Value) (w' : World) => ∃ (a3 : Option Addr) (c3 : Nat), v = .slice a3 (orR x0 x1).length c3 ∧ RV (MS M [own w.heap.size 60 (.slice a0 xs.length c0) xs, box bb3 #[.int .i64 an, .slice a0 xs.length c0] 35, box bb2 #[.int .i64 0, .slice none 0 0] 35, box bb1 #[.int .i64 bn, .slice a_br br.length c_br] 35, box bb0 #[.int .i64 an, .slice a_ar ar.length c_ar] 35, imm (.slice a_br br.length c_br) br, imm (.slice a_ar ar.length c_ar) ar]) w' (.slice a3 (orR x0 x1).length c3) (orR x0 x1), fun (v : Value) (w' : World) => ∃ (a4 : Option Addr) (c4 : Nat), v = .slice a4 ([orR x0 x1] : List (List (BitVec 64))).length c4 ∧ RV (MS M [own w.heap.size 60 (.slice a0 xs.length c0) xs, box bb3 #[.int .i64 an, .slice a0 xs.length c0] 35, box bb2 #[.int .i64 0, .slice none 0 0] 35, box bb1 #[.int .i64 bn, .slice a_br br.length c_br] 35, box bb0 #[.int .i64 an, .slice a_ar ar.length c_ar] 35, imm (.slice a_br br.length c_br) br, imm (.slice a_ar ar.length c_ar) ar]) w' (.slice a4 ([orR x0 x1] : List (List (BitVec 64))).length c4) ([orR x0 x1] : List (List (BitVec 64)))] rfl (by kernel_rfl) ?_ ?_
      ·
        refine ⟨fun _ => ⟨fun f1 w8 hf0 xt6 hp0 => ?_, fun _ _ _ _ h => h⟩, ?_⟩
        ·
          have H15 := H8.ext xt6
          refine fa fl35_1 rfl ((hf0 6 rfl).trans s3) ?_
          exact ⟨_, rfl, Ext.refl _, rfl⟩
        refine ⟨fun _ => ⟨fun f2 w9 hf1 xt7 hp1 => ?_, fun _ _ _ _ h => h⟩, ?_⟩
        ·
          have H16 := H8.ext xt7
          have s5 : f2 23 = .pointer (some ⟨bb3, 1, none⟩) := hp1 0 rfl rfl
          refine ldX H16 1 rfl ty33 rfl s5 (by decide) rfl ?_
          exact ⟨_, rfl, Ext.refl _, rfl⟩
        refine ⟨fun _ => ⟨fun f3 w10 hf2 xt8 hp2 => ?_, fun _ _ _ _ h => h⟩, ?_⟩
        ·
          have H17 := H8.ext xt8
          refine fa fl35_1 rfl ((hf2 2 rfl).trans s0) ?_
          exact ⟨_, rfl, Ext.refl _, rfl⟩
        refine ⟨fun _ => ⟨fun f4 w11 hf3 xt9 hp3 => ?_, fun _ _ _ _ h => h⟩, ?_⟩
        ·
          have H18 := H8.ext xt9
          have s6 : f4 25 = .pointer (some ⟨bb0, 1, none⟩) := hp3 2 rfl rfl
          refine ldX H18 4 rfl ty33 rfl s6 (by decide) rfl ?_
          exact ⟨_, rfl, Ext.refl _, rfl⟩
        refine ⟨fun _ => ⟨fun f5 w12 hf4 xt10 hp4 => ?_, fun _ _ _ _ h => h⟩, ?_⟩
        ·
          have H19 := H8.ext xt10
          refine mv rfl ((hf4 7 rfl).trans s4) ?_
          exact ⟨_, rfl, Ext.refl _, rfl⟩
        refine ⟨fun _ => ⟨fun f6 w13 hf5 xt11 hp5 => ?_, by rintro _ _ _ x_ ⟨ad0, e_, hA0⟩; exact ⟨ad0, e_, hA0.lift (Up.ext x_)⟩⟩, ?_⟩
        ·
          have H20 := H8.ext xt11
          have s7 : f6 26 = .slice a_ar ar.length c_ar := hp5 3 rfl rfl
          have s8 : f6 27 = .int .i64 (j : Int) := hp5 4 rfl rfl
          refine ia (H20.rv 6 rfl) rfl rfl s7 s8 (by first | omega | (simp; omega)) un33 ty60 ?_
          intro ad2 x2 hx2 hA2
          obtain rfl : x0 = x2 := Option.some.inj (hx0.symm.trans hx2)
          exact ⟨_, rfl, Ext.refl _, ⟨ad2, rfl, hA2⟩⟩
        refine ⟨fun _ => ⟨fun f7 w14 hf6 xt12 hp6 => ?_, by rintro _ _ _ x_ ⟨a1, c1, e_, rv0⟩; exact ⟨a1, c1, e_, rv0.lift (Up.ext x_)⟩⟩, ?_⟩
        ·
          have H21 := H8.ext xt12
          obtain ⟨ad3, s9, hA3⟩ : ∃ (ad3 : Addr), f7 28 = .pointer (some ad3) ∧ At (MS M [own w.heap.size 60 (.slice a0 xs.length c0) xs, box bb3 #[.int .i64 an, .slice a0 xs.length c0] 35, box bb2 #[.int .i64 0, .slice none 0 0] 35, box bb1 #[.int .i64 bn, .slice a_br br.length c_br] 35, box bb0 #[.int .i64 an, .slice a_ar ar.length c_ar] 35, imm (.slice a_br br.length c_br) br, imm (.slice a_ar ar.length c_ar) ar]) w14 ad3 x0 := hp6 5 rfl rfl
          have H22 := H21.put (it := atI ad3 x0) rfl hA3
          refine ldL (H22.atv 0 rfl).w ty60 rfl s9 ?_
          intro a5 c5 rv5
          have ln2 := rv_len rv5
          have H23 := H22.put (it := imm (.slice a5 x0.length c5) x0) rfl rv5
          exact ⟨_, rfl, Ext.refl _, ⟨a5, c5, rfl, (rv_drop rfl rv5)⟩⟩
        refine ⟨fun _ => ⟨fun f8 w15 hf7 xt13 hp7 => ?_, fun _ _ _ _ h => h⟩, ?_⟩
        ·
          have H24 := H8.ext xt13
          refine fa fl35_1 rfl ((hf7 3 rfl).trans s1) ?_
          exact ⟨_, rfl, Ext.refl _, rfl⟩
        refine ⟨fun _ => ⟨fun f9 w16 hf8 xt14 hp8 => ?_, fun _ _ _ _ h => h⟩, ?_⟩
        ·
          have H25 := H8.ext xt14
          have s10 : f9 30 = .pointer (some ⟨bb1, 1, none⟩) := hp8 7 rfl rfl
          refine ldX H25 3 rfl ty33 rfl s10 (by decide) rfl ?_
          exact ⟨_, rfl, Ext.refl _, rfl⟩
        refine ⟨fun _ => ⟨fun f10 w17 hf9 xt15 hp9 => ?_, fun _ _ _ _ h => h⟩, ?_⟩
        ·
          have H26 := H8.ext xt15
          refine mv rfl ((hf9 7 rfl).trans s4) ?_
          exact ⟨_, rfl, Ext.refl _, rfl⟩
        refine ⟨fun _ => ⟨fun f11 w18 hf10 xt16 hp10 => ?_, by rintro _ _ _ x_ ⟨ad1, e_, hA1⟩; exact ⟨ad1, e_, hA1.lift (Up.ext x_)⟩⟩, ?_⟩
        ·
          have H27 := H8.ext xt16
          have s11 : f11 31 = .slice a_br br.length c_br := hp10 8 rfl rfl
          have s12 : f11 32 = .int .i64 (j : Int) := hp10 9 rfl rfl
          refine ia (H27.rv 5 rfl) rfl rfl s11 s12 (by first | omega | (simp; omega)) un33 ty60 ?_
          intro ad4 x3 hx3 hA4
          obtain rfl : x1 = x3 := Option.some.inj (hx1.symm.trans hx3)
          exact ⟨_, rfl, Ext.refl _, ⟨ad4, rfl, hA4⟩⟩
        refine ⟨fun _ => ⟨fun f12 w19 hf11 xt17 hp11 => ?_, by rintro _ _ _ x_ ⟨a2, c2, e_, rv1⟩; exact ⟨a2, c2, e_, rv1.lift (Up.ext x_)⟩⟩, ?_⟩
        ·
          have H28 := H8.ext xt17
          obtain ⟨ad5, s13, hA5⟩ : ∃ (ad5 : Addr), f12 33 = .pointer (some ad5) ∧ At (MS M [own w.heap.size 60 (.slice a0 xs.length c0) xs, box bb3 #[.int .i64 an, .slice a0 xs.length c0] 35, box bb2 #[.int .i64 0, .slice none 0 0] 35, box bb1 #[.int .i64 bn, .slice a_br br.length c_br] 35, box bb0 #[.int .i64 an, .slice a_ar ar.length c_ar] 35, imm (.slice a_br br.length c_br) br, imm (.slice a_ar ar.length c_ar) ar]) w19 ad5 x1 := hp11 10 rfl rfl
          have H29 := H28.put (it := atI ad5 x1) rfl hA5
          refine ldL (H29.atv 0 rfl).w ty60 rfl s13 ?_
          intro a6 c6 rv6
          have ln3 := rv_len rv6
          have H30 := H29.put (it := imm (.slice a6 x1.length c6) x1) rfl rv6
          exact ⟨_, rfl, Ext.refl _, ⟨a6, c6, rfl, (rv_drop rfl rv6)⟩⟩
        refine ⟨fun _ => ⟨fun f13 w20 hf12 xt18 hp12 => ?_, by rintro _ _ _ x_ ⟨a3, c3, e_, rv3⟩; exact ⟨a3, c3, e_, rv3.lift (Up.ext x_)⟩⟩, ?_⟩
        ·
          have H31 := H8.ext xt18
          obtain ⟨a7, c7, s14, rv7⟩ : ∃ (a7 : Option Addr) (c7 : Nat), f13 29 = .slice a7 x0.length c7 ∧ RV (MS M [own w.heap.size 60 (.slice a0 xs.length c0) xs, box bb3 #[.int .i64 an, .slice a0 xs.length c0] 35, box bb2 #[.int .i64 0, .slice none 0 0] 35, box bb1 #[.int .i64 bn, .slice a_br br.length c_br] 35, box bb0 #[.int .i64 an, .slice a_ar ar.length c_ar] 35, imm (.slice a_br br.length c_br) br, imm (.slice a_ar ar.length c_ar) ar]) w20 (.slice a7 x0.length c7) x0 := hp12 6 rfl rfl
          have H32 := H31.put (it := imm (.slice a7 x0.length c7) x0) rfl rv7
          obtain ⟨a8, c8, s15, rv8⟩ : ∃ (a8 : Option Addr) (c8 : Nat), f13 34 = .slice a8 x1.length c8 ∧ RV (MS M [own w.heap.size 60 (.slice a0 xs.length c0) xs, box bb3 #[.int .i64 an, .slice a0 xs.length c0] 35, box bb2 #[.int .i64 0, .slice none 0 0] 35, box bb1 #[.int .i64 bn, .slice a_br br.length c_br] 35, box bb0 #[.int .i64 an, .slice a_ar ar.length c_ar] 35, imm (.slice a_br br.length c_br) br, imm (.slice a_ar ar.length c_ar) ar]) w20 (.slice a8 x1.length c8) x1 := hp12 11 rfl rfl
          have H33 := H32.put (it := imm (.slice a8 x1.length c8) x1) rfl (by rw [MS_cons_none rfl]; exact rv8)
          have cc1 := ref02_Or (a := x0) (b := x1) (w := w20) H33.mb (H33.rv 1 rfl) (H33.rv 0 rfl) (by first | exact hrw_a _ (List.mem_of_getElem? hx0) | exact hrw_b _ (List.mem_of_getElem? hx1)) (by first | exact hrw_a _ (List.mem_of_getElem? hx0) | exact hrw_b _ (List.mem_of_getElem? hx1))
          refine ca go53 rfl (ec s14 (ec s15 e0)) cc1 ?_
          rintro _ w21 ⟨a9, c9, rfl, xt19, rv9⟩
          have rv10 := OwnsG.rv rv9 H33.mb
          have H34 := H33.ext xt19
          have H35 := H34.put (it := imm (.slice a9 (orR x0 x1).length c9) (orR x0 x1)) rfl rv10
          exact ⟨_, rfl, xt19, ⟨a9, c9, rfl, (rv_drop rfl (rv_drop rfl rv10))⟩⟩
        refine ⟨fun _ => ⟨fun f14 w22 hf13 xt20 hp13 => ?_, by rintro _ _ _ x_ ⟨a4, c4, e_, rv4⟩; exact ⟨a4, c4, e_, rv4.lift (Up.ext x_)⟩⟩, ?_⟩
        ·
          have H36 := H8.ext xt20
          obtain ⟨a10, c10, s16, rv11⟩ : ∃ (a10 : Option Addr) (c10 : Nat), f14 35 = .slice a10 (orR x0 x1).length c10 ∧ RV (MS M [own w.heap.size 60 (.slice a0 xs.length c0) xs, box bb3 #[.int .i64 an, .slice a0 xs.length c0] 35, box bb2 #[.int .i64 0, .slice none 0 0] 35, box bb1 #[.int .i64 bn, .slice a_br br.length c_br] 35, box bb0 #[.int .i64 an, .slice a_ar ar.length c_ar] 35, imm (.slice a_br br.length c_br) br, imm (.slice a_ar ar.length c_ar) ar]) w22 (.slice a10 (orR x0 x1).length c10) (orR x0 x1) := hp13 12 rfl rfl
          have H37 := H36.put (it := imm (.slice a10 (orR x0 x1).length c10) (orR x0 x1)) rfl rv11
          refine bs (xs := ([orR x0 x1] : List (List (BitVec 64)))) (cells := #[.slice a10 (orR x0 x1).length c10]) (e := 60) H37 rfl (pbc s16 pb0) (fun _ => by kernel_rfl) ⟨[.slice a10 (orR x0 x1).length c10], [], rfl, ⟨_, rfl, RV.list.1 (H37.rv 0 rfl)⟩, rfl⟩ rfl (by unfold maxLen; omega) ?_
          intro g1 w23 xt21 (H38 : HI M w w23 [own w.heap.size 60 (.slice (some ⟨g1, 0, none⟩) 1 1) ([orR x0 x1] : List (List (BitVec 64))), imm (.slice a10 (orR x0 x1).length c10) (orR x0 x1), own w.heap.size 60 (.slice a0 xs.length c0) xs, box bb3 #[.int .i64 an, .slice a0 xs.length c0] 35, box bb2 #[.int .i64 0, .slice none 0 0] 35, box bb1 #[.int .i64 bn, .slice a_br br.length c_br] 35, box bb0 #[.int .i64 an, .slice a_ar ar.length c_ar] 35, imm (.slice a_br br.length c_br) br, imm (.slice a_ar ar.length c_ar) ar])
          have H39 := H38.freeze 0 rfl
          exact ⟨_, rfl, xt21, ⟨(some ⟨g1, 0, none⟩), 1, rfl, (rv_drop rfl (rv_drop rfl (H39.rv 0 rfl)))⟩⟩
        exact DSteps.rest rfl _
      · intro f15 w24 hf14 xt22 hp14
        have H40 := H8.ext xt22
        have s17 : f15 2 = .pointer (some ⟨bb0, 0, none⟩) := (hf14 2 rfl).trans s0
        have s18 : f15 3 = .pointer (some ⟨bb1, 0, none⟩) := (hf14 3 rfl).trans s1
        have s19 : f15 4 = .pointer (some ⟨bb2, 0, none⟩) := (hf14 4 rfl).trans s2
        have s20 : f15 6 = .pointer (some ⟨bb3, 0, none⟩) := (hf14 6 rfl).trans s3
        have s21 : f15 7 = .int .i64 (j : Int) := (hf14 7 rfl).trans s4
        have s22 : f15 24 = .slice a0 xs.length c0 := hp14 1 rfl
        obtain ⟨a11, c11, s23, rv12⟩ : ∃ (a11 : Option Addr) (c11 : Nat), f15 36 = .slice a11 ([orR x0 x1] : List (List (BitVec 64))).length c11 ∧ RV (MS M [own w.heap.size 60 (.slice a0 xs.length c0) xs, box bb3 #[.int .i64 an, .slice a0 xs.length c0] 35, box bb2 #[.int .i64 0, .slice none 0 0] 35, box bb1 #[.int .i64 bn, .slice a_br br.length c_br] 35, box bb0 #[.int .i64 an, .slice a_ar ar.length c_ar] 35, imm (.slice a_br br.length c_br) br, imm (.slice a_ar ar.length c_ar) ar]) w24 (.slice a11 ([orR x0 x1] : List (List (BitVec 64))).length c11) ([orR x0 x1] : List (List (BitVec 64))) := hp14 13 rfl
        have H41 := H40.put (it := imm (.slice a11 ([orR x0 x1] : List (List (BitVec 64))).length c11) ([orR x0 x1] : List (List (BitVec 64)))) rfl rv12
        refine k (ap H41 1 rfl rfl rfl rfl s22 s23 (H41.rv 0 rfl).src un33 ty60 rfl (by rw [hs, orRs_len]; simp only [List.length_cons, List.length_nil]; omega) (by rw [hs, orRs_len]; simp only [List.length_cons, List.length_nil]; omega) ?_)
        intro a12 c12 w25 (H42 : HI M w w25 [imm (.slice a11 ([orR x0 x1] : List (List (BitVec 64))).length c11) ([orR x0 x1] : List (List (BitVec 64))), own w.heap.size 60 (.slice a12 (xs ++ ([orR x0 x1] : List (List (BitVec 64)))).length c12) (xs ++ ([orR x0 x1] : List (List (BitVec 64)))), box bb3 #[.int .i64 an, .slice a0 xs.length c0] 35, box bb2 #[.int .i64 0, .slice none 0 0] 35, box bb1 #[.int .i64 bn, .slice a_br br.length c_br] 35, box bb0 #[.int .i64 an, .slice a_ar ar.length c_ar] 35, imm (.slice a_br br.length c_br) br, imm (.slice a_ar ar.length c_ar) ar])
        refine k (fa fl35_1 rfl s20 (k (stX H42 2 rfl ty33 rfl rfl rfl rfl rfl rfl rfl ?_)))
        intro w26 (H43 : HI M w w26 [imm (.slice a11 ([orR x0 x1] : List (List (BitVec 64))).length c11) ([orR x0 x1] : List (List (BitVec 64))), own w.heap.size 60 (.slice a12 (xs ++ ([orR x0 x1] : List (List (BitVec 64)))).length c12) (xs ++ ([orR x0 x1] : List (List (BitVec 64)))), box bb3 #[.int .i64 an, .slice a12 (xs ++ ([orR x0 x1] : List (List (BitVec 64)))).length c12] 35, box bb2 #[.int .i64 0, .slice none 0 0] 35, box bb1 #[.int .i64 bn, .slice a_br br.length c_br] 35, box bb0 #[.int .i64 an, .slice a_ar ar.length c_ar] 35, imm (.slice a_br br.length c_br) br, imm (.slice a_ar ar.length c_ar) ar])
        refine z (inb_normal (nx (rg (k (mv rfl s21 (k (add rfl rfl rfl rfl (by unfold I64 at *; omega) (k (asg (v := .int .i64 ((j : Int) + 1)) rfl rfl (z ?_))))))))))
        have H44 : HI M w w26 [own w.heap.size 60 (.slice a12 (xs ++ ([orR x0 x1] : List (List (BitVec 64)))).length c12) (xs ++ ([orR x0 x1] : List (List (BitVec 64)))), box bb3 #[.int .i64 an, .slice a12 (xs ++ ([orR x0 x1] : List (List (BitVec 64)))).length c12] 35, box bb2 #[.int .i64 0, .slice none 0 0] 35, box bb1 #[.int .i64 bn, .slice a_br br.length c_br] 35, box bb0 #[.int .i64 an, .slice a_ar ar.length c_ar] 35, imm (.slice a_br br.length c_br) br, imm (.slice a_ar ar.length c_ar) ar] := H43.pickN [1, 2, 3, 4, 5, 6, 7] (by decide) rfl
        refine loopN _ ?_ ⟨(j + 1), (xs ++ ([orR x0 x1] : List (List (BitVec 64)))), a12, c12, rfl, s17, s18, s19, s20, (ieq rfl (by first | rfl | omega | (push_cast; omega))), H44, (by first | assumption | omega | simp | (simp; omega)), (by rw [hs, orRs_step, rowAt_of hx0, rowAt_of hx1])⟩
        omega
    ·
      have p1 := of_decide_eq_false b1
      refine ex (then_exit (loop_exit (inb_here (nx (sq (rg (k (ldX H8 1 rfl ty35 rfl s3 (by decide) rfl (k (stX H8 2 rfl ty35 rfl rfl s2 rfl rfl rfl rfl ?_))))))))))
      intro w6 (H9 : HI M w w6 [own w.heap.size 60 (.slice a0 xs.length c0) xs, box bb3 #[.int .i64 an, .slice a0 xs.length c0] 35, box bb2 #[.int .i64 an, .slice a0 xs.length c0] 35, box bb1 #[.int .i64 bn, .slice a_br br.length c_br] 35, box bb0 #[.int .i64 an, .slice a_ar ar.length c_ar] 35, imm (.slice a_br br.length c_br) br, imm (.slice a_ar ar.length c_ar) ar])
      refine k (asg (v := .int .i64 0) rfl rfl (z (nx (rt (rc2 H9 2 rfl ty35 rfl rfl rfl s2 rfl (by decide) ?_)))))
      have e0 : (an : Int) = orMN an bn := by first | exact (orM_no (ar := ar) (br := br) p0).1.symm | exact (orM_yes (ar := ar) (br := br) p0).1.symm
      have e1 : (xs : List (List (BitVec 64))) = orMR an ar bn br := by first | exact (orM_no p0).2.1.symm | (rw [(orM_yes p0).2.1, hs, show j = an.toNat from by omega])
      have e2 : (0 : Int) = orME an bn := by first | exact (orM_no (ar := ar) (br := br) p0).2.2.symm | exact (orM_yes (ar := ar) (br := br) p0).2.2.symm
      have ev_ := cg3 (fun (x_0 : Int) (x_1 : List (List (BitVec 64))) (x_2 : Int) => (.tuple #[.agg #[.int .i64 x_0, .slice a0 x_1.length c0], .int .i64 x_2] : Value)) e0 e1 e2
      exact ⟨a0, c0, ev_, H9.below, (congrArg (fun (x_ : List (List (BitVec 64))) => OwnsG _ _ _ x_ (.slice a0 x_.length c0) _) e1).mp (H9.ownsG_out 0 rfl)⟩
/- eyewitness/eyewitnessref03.Sub -/
set_option maxRecDepth 100000 in
set_option maxHeartbeats 1600000 in
theorem ref03_Sub {M : Nat → Prop} {w : World} {an : Int} {a_ar : Option Addr} {c_ar : Nat} {ar : List (List (BitVec 64))} {bn : Int} {a_br : Option Addr} {c_br : Nat} {br : List (List (BitVec 64))} (hM : ∀ b, M b → b < w.heap.size) (h_an : I64 an) (h_ar : RV M w (.slice a_ar ar.length c_ar) ar) (h_bn : I64 bn) (h_br : RV M w (.slice a_br br.length c_br) br) (hsq_a : ((ar.length : Nat) : Int) = an) (hrw_a : ∀ x ∈ ar, x.length ≤ 1000000000) (hl4_a : an ≤ 4096) (hsq_b : ((br.length : Nat) : Int) = bn) (hrw_b : ∀ x ∈ br, x.length ≤ 1000000000) (hl4_b : bn ≤ 4096) : Calls Try.prog 18 #[.agg #[.int .i64 an, .slice a_ar ar.length c_ar], .agg #[.int .i64 bn, .slice a_br br.length c_br]] w (Ret fun v w' =>  v = .bool (subM an ar bn br) ∧ Ext w w') := by
  refine enter 36 Try.func18 rfl rfl rfl fun f0 ha => ?_
  have H := HI.start (M0 := M) (w := w) hM
  have H0 := H.put (it := imm (.slice a_ar ar.length c_ar) ar) rfl (by rw [MS_nil]; exact h_ar)
  have H1 := H0.put (it := imm (.slice a_br br.length c_br) br) rfl (by rw [MS_cons_none rfl, MS_nil]; exact h_br)
  have ln_ar := rv_len h_ar
  have ln_br := rv_len h_br
  have i0 : f0 0 = .agg #[.int .i64 an, .slice a_ar ar.length c_ar] := ha 0 (by simp)
  have i1 : f0 1 = .agg #[.int .i64 bn, .slice a_br br.length c_br] := ha 1 (by simp)
  refine sq (rg (k (bx H1 rfl i0 ?_)))
  intro bb0 w0 xt0 (H2 : HI M w w0 [box bb0 #[.int .i64 an, .slice a_ar ar.length c_ar] 35, imm (.slice a_br br.length c_br) br, imm (.slice a_ar ar.length c_ar) ar])
  refine k (bx H2 rfl i1 ?_)
  intro bb1 w1 xt1 (H3 : HI M w w1 [box bb1 #[.int .i64 bn, .slice a_br br.length c_br] 35, box bb0 #[.int .i64 an, .slice a_ar ar.length c_ar] 35, imm (.slice a_br br.length c_br) br, imm (.slice a_ar ar.length c_ar) ar])
  refine k (asg (v := .bool false) rfl rfl (z (nx (sq (sq (rg (k (asg (v := .int .i64 0) rfl rfl (z (nx (bk ?_)))))))))))
  refine lp (fun m f w' => ∃ (j : Nat), m = ar.length - j ∧ f 2 = .pointer (some ⟨bb0, 0, none⟩) ∧ f 3 = .pointer (some ⟨bb1, 0, none⟩) ∧ f 5 = .int .i64 (j : Int) ∧  HI M w w' [box bb1 #[.int .i64 bn, .slice a_br br.length c_br] 35, box bb0 #[.int .i64 an, .slice a_ar ar.length c_ar] 35, imm (.slice a_br br.length c_br) br, imm (.slice a_ar ar.length c_ar) ar] ∧ (j ≤ ar.length) ∧ (subRs ar br j = true)) _ ⟨0, rfl, rfl, rfl, (ieq rfl (by first | rfl | omega | simp)), H3, (by first | assumption | omega | simp | (simp; omega)), (by rfl)⟩ ?_
  rintro _ f0 w2 ⟨j, rfl, s0, s1, s2, H4, hk, hs⟩
  refine sq (sq (rg (k (mv rfl s2 (k (fa fl35_0 rfl s0 (k (ldX H4 1 rfl ty3 rfl rfl (by decide) rfl (k (lss rfl rfl rfl rfl (k (mv (v := .bool (decide ((j : Int) < an))) rfl rfl ?_))))))))))))
  rcases Bool.eq_false_or_eq_true (decide ((j : Int) < an)) with b0 | b0
  · -- decide ((j : Int) < an) is True
    have p0 := of_decide_eq_true b0
    refine k (gy rfl rfl rfl b0 (fa fl35_0 rfl s0 (k (gy rfl rfl rfl b0 (ldX H4 1 rfl ty3 rfl rfl (by decide) rfl (k (gy rfl rfl rfl b0 (fa fl35_0 rfl s1 (k (gy rfl rfl rfl b0 (ldX H4 0 rfl ty3 rfl rfl (by decide) rfl (k (gy rfl rfl rfl b0 (eql rfl rfl rfl rfl (k (pickT rfl rfl rfl rfl b0 rfl (z (nx ?_))))))))))))))))))
    refine cd (b := decide (an = bn)) rfl rfl (fun b1 => ?_) (fun b1 => ?_)
    ·
      have p1 := of_decide_eq_true b1
      refine sk (nx (sq (bk (sq ?_))))
      obtain ⟨x0, hx0⟩ : ∃ x, ar[(j : Int).toNat]? = some x := ⟨_, List.getElem?_eq_getElem (by first | omega | (simp; omega))⟩
      obtain ⟨x1, hx1⟩ : ∃ x, br[(j : Int).toNat]? = some x := ⟨_, List.getElem?_eq_getElem (by first | omega | (simp; omega))⟩
      refine dr 10 [fun (v : Value) (w' : World) => v = .pointer (some ⟨bb0, 1, none⟩), fun (v : Value) (w' : World) => v = .slice a_ar ar.length c_ar, fun (v : Value) (w' : World) => v = .int .i64 (j : Int), fun (v : Value) (w' : World) => ∃ (ad0 : Addr), v = .pointer (some ad0) ∧ At (MS M [box bb1 #[.int .i64 bn, .slice a_br br.length c_br] 35, box bb0 #[.int .i64 an, .slice a_ar ar.length c_ar] 35, imm (.slice a_br br.length c_br) br, imm (.slice a_ar ar.length c_ar) ar]) w' ad0 x0, fun (v : Value) (w' : World) => ∃ (a0 : Option Addr) (c0 : Nat), v = .slice a0 x0.length c0 ∧ RV (MS M [box bb1 #[.int .i64 bn, .slice a_br br.length c_br] 35, box bb0 #[.int .i64 an, .slice a_ar ar.length c_ar] 35, imm (.slice a_br br.length c_br) br, imm (.slice a_ar ar.length c_ar) ar]) w' (.slice a0 x0.length c0) x0, fun (v : Value) (w' : World) => v = .pointer (some ⟨bb1, 1, none⟩), fun (v : Value) (w' : World) => v = .slice a_br br.length c_br, fun (v : Value) (w' : World) => v = .int .i64 (j : Int), fun (v : Value) (w' : World) => ∃ (ad1 : Addr), v = .pointer (some ad1) ∧ At (MS M [box bb1 #[.int .i64 bn, .slice a_br br.length c_br] 35, box bb0 #[.int .i64 an, .slice a_ar ar.length c_ar] 35, imm (.slice a_br br.length c_br) br, imm (.slice a_ar ar.length c_ar) ar]) w' ad1 x1, fun (v : Value) (w' : World) => ∃ (a1 : Option Addr) (c1 : Nat), v = .slice a1 x1.length c1 ∧ RV (MS M [box bb1 #[.int .i64 bn, .slice a_br br.length c_br] 35, box bb0 #[.int .i64 an, .slice a_ar ar.length c_ar] 35, imm (.slice a_br br.length c_br) br, imm (.slice a_ar ar.length c_ar) ar]) w' (.slice a1 x1.length c1) x1] rfl (by kernel_rfl) ?_ ?_
      ·
        refine ⟨fun _ => ⟨fun f1 w3 hf0 xt2 hp0 => ?_, fun _ _ _ _ h => h⟩, ?_⟩
        ·
          have H7 := H4.ext xt2
          refine fa fl35_1 rfl ((hf0 2 rfl).trans s0) ?_
          exact ⟨_, rfl, Ext.refl _, rfl⟩
        refine ⟨fun _ => ⟨fun f2 w4 hf1 xt3 hp1 => ?_, fun _ _ _ _ h => h⟩, ?_⟩
        ·
          have H8 := H4.ext xt3
          have s3 : f2 19 = .pointer (some ⟨bb0, 1, none⟩) := hp1 0 rfl rfl
          refine ldX H8 1 rfl ty33 rfl s3 (by decide) rfl ?_
          exact ⟨_, rfl, Ext.refl _, rfl⟩
        refine ⟨fun _ => ⟨fun f3 w5 hf2 xt4 hp2 => ?_, fun _ _ _ _ h => h⟩, ?_⟩
        ·
          have H9 := H4.ext xt4
          refine mv rfl ((hf2 5 rfl).trans s2) ?_
          exact ⟨_, rfl, Ext.refl _, rfl⟩
        refine ⟨fun _ => ⟨fun f4 w6 hf3 xt5 hp3 => ?_, by rintro _ _ _ x_ ⟨ad0, e_, hA0⟩; exact ⟨ad0, e_, hA0.lift (Up.ext x_)⟩⟩, ?_⟩
        ·
          have H10 := H4.ext xt5
          have s4 : f4 20 = .slice a_ar ar.length c_ar := hp3 1 rfl rfl
          have s5 : f4 21 = .int .i64 (j : Int) := hp3 2 rfl rfl
          refine ia (H10.rv 3 rfl) rfl rfl s4 s5 (by first | omega | (simp; omega)) un33 ty60 ?_
          intro ad2 x2 hx2 hA2
          obtain rfl : x0 = x2 := Option.some.inj (hx0.symm.trans hx2)
          exact ⟨_, rfl, Ext.refl _, ⟨ad2, rfl, hA2⟩⟩
        refine ⟨fun _ => ⟨fun f5 w7 hf4 xt6 hp4 => ?_, by rintro _ _ _ x_ ⟨a0, c0, e_, rv0⟩; exact ⟨a0, c0, e_, rv0.lift (Up.ext x_)⟩⟩, ?_⟩
        ·
          have H11 := H4.ext xt6
          obtain ⟨ad3, s6, hA3⟩ : ∃ (ad3 : Addr), f5 22 = .pointer (some ad3) ∧ At (MS M [box bb1 #[.int .i64 bn, .slice a_br br.length c_br] 35, box bb0 #[.int .i64 an, .slice a_ar ar.length c_ar] 35, imm (.slice a_br br.length c_br) br, imm (.slice a_ar ar.length c_ar) ar]) w7 ad3 x0 := hp4 3 rfl rfl
          have H12 := H11.put (it := atI ad3 x0) rfl hA3
          refine ldL (H12.atv 0 rfl).w ty60 rfl s6 ?_
          intro a2 c2 rv2
          have ln2 := rv_len rv2
          have H13 := H12.put (it := imm (.slice a2 x0.length c2) x0) rfl rv2
          exact ⟨_, rfl, Ext.refl _, ⟨a2, c2, rfl, (rv_drop rfl rv2)⟩⟩
        refine ⟨fun _ => ⟨fun f6 w8 hf5 xt7 hp5 => ?_, fun _ _ _ _ h => h⟩, ?_⟩
        ·
          have H14 := H4.ext xt7
          refine fa fl35_1 rfl ((hf5 3 rfl).trans s1) ?_
          exact ⟨_, rfl, Ext.refl _, rfl⟩
        refine ⟨fun _ => ⟨fun f7 w9 hf6 xt8 hp6 => ?_, fun _ _ _ _ h => h⟩, ?_⟩
        ·
          have H15 := H4.ext xt8
          have s7 : f7 24 = .pointer (some ⟨bb1, 1, none⟩) := hp6 5 rfl rfl
          refine ldX H15 0 rfl ty33 rfl s7 (by decide) rfl ?_
          exact ⟨_, rfl, Ext.refl _, rfl⟩
        refine ⟨fun _ => ⟨fun f8 w10 hf7 xt9 hp7 => ?_, fun _ _ _ _ h => h⟩, ?_⟩
        ·
          have H16 := H4.ext xt9
          refine mv rfl ((hf7 5 rfl).trans s2) ?_
          exact ⟨_, rfl, Ext.refl _, rfl⟩
        refine ⟨fun _ => ⟨fun f9 w11 hf8 xt10 hp8 => ?_, by rintro _ _ _ x_ ⟨ad1, e_, hA1⟩; exact ⟨ad1, e_, hA1.lift (Up.ext x_)⟩⟩, ?_⟩
        ·
          have H17 := H4.ext xt10
          have s8 : f9 25 = .slice a_br br.length c_br := hp8 6 rfl rfl
          have s9 : f9 26 = .int .i64 (j : Int) := hp8 7 rfl rfl
          refine ia (H17.rv 2 rfl) rfl rfl s8 s9 (by first | omega | (simp; omega)) un33 ty60 ?_
          intro ad4 x3 hx3 hA4
          obtain rfl : x1 = x3 := Option.some.inj (hx1.symm.trans hx3)
          exact ⟨_, rfl, Ext.refl _, ⟨ad4, rfl, hA4⟩⟩
        refine ⟨fun _ => ⟨fun f10 w12 hf9 xt11 hp9 => ?_, by rintro _ _ _ x_ ⟨a1, c1, e_, rv1⟩; exact ⟨a1, c1, e_, rv1.lift (Up.ext x_)⟩⟩, ?_⟩
        ·
          have H18 := H4.ext xt11
          obtain ⟨ad5, s10, hA5⟩ : ∃ (ad5 : Addr), f10 27 = .pointer (some ad5) ∧ At (MS M [box bb1 #[.int .i64 bn, .slice a_br br.length c_br] 35, box bb0 #[.int .i64 an, .slice a_ar ar.length c_ar] 35, imm (.slice a_br br.length c_br) br, imm (.slice a_ar ar.length c_ar) ar]) w12 ad5 x1 := hp9 8 rfl rfl
          have H19 := H18.put (it := atI ad5 x1) rfl hA5
          refine ldL (H19.atv 0 rfl).w ty60 rfl s10 ?_
          intro a3 c3 rv3
          have ln3 := rv_len rv3
          have H20 := H19.put (it := imm (.slice a3 x1.length c3) x1) rfl rv3
          exact ⟨_, rfl, Ext.refl _, ⟨a3, c3, rfl, (rv_drop rfl rv3)⟩⟩
        exact DSteps.rest rfl _
      · intro f11 w13 hf10 xt12 hp10
        have H21 := H4.ext xt12
        have s11 : f11 2 = .pointer (some ⟨bb0, 0, none⟩) := (hf10 2 rfl).trans s0
        have s12 : f11 3 = .pointer (some ⟨bb1, 0, none⟩) := (hf10 3 rfl).trans s1
        have s13 : f11 5 = .int .i64 (j : Int) := (hf10 5 rfl).trans s2
        obtain ⟨a4, c4, s14, rv4⟩ : ∃ (a4 : Option Addr) (c4 : Nat), f11 23 = .slice a4 x0.length c4 ∧ RV (MS M [box bb1 #[.int .i64 bn, .slice a_br br.length c_br] 35, box bb0 #[.int .i64 an, .slice a_ar ar.length c_ar] 35, imm (.slice a_br br.length c_br) br, imm (.slice a_ar ar.length c_ar) ar]) w13 (.slice a4 x0.length c4) x0 := hp10 4 rfl
        have H22 := H21.put (it := imm (.slice a4 x0.length c4) x0) rfl rv4
        obtain ⟨a5, c5, s15, rv5⟩ : ∃ (a5 : Option Addr) (c5 : Nat), f11 28 = .slice a5 x1.length c5 ∧ RV (MS M [box bb1 #[.int .i64 bn, .slice a_br br.length c_br] 35, box bb0 #[.int .i64 an, .slice a_ar ar.length c_ar] 35, imm (.slice a_br br.length c_br) br, imm (.slice a_ar ar.length c_ar) ar]) w13 (.slice a5 x1.length c5) x1 := hp10 9 rfl
        have H23 := H22.put (it := imm (.slice a5 x1.length c5) x1) rfl (by rw [MS_cons_none rfl]; exact rv5)
        refine k ?_
        have cc0 := ref02_Sub (a := x0) (b := x1) (w := w13) H23.mb (H23.rv 1 rfl) (H23.rv 0 rfl) (by first | exact hrw_a _ (List.mem_of_getElem? hx0) | exact hrw_b _ (List.mem_of_getElem? hx1)) (by first | exact hrw_a _ (List.mem_of_getElem? hx0) | exact hrw_b _ (List.mem_of_getElem? hx1))
        refine ca go38 rfl (ec s14 (ec s15 e0)) cc0 ?_
        rintro _ w14 ⟨rfl, xt13⟩
        have H24 := H23.ext xt13
        refine k (not_ rfl rfl (z (nx ?_)))
        refine cd (b := !(subR x0 x1)) rfl rfl (fun b2 => ?_) (fun b2 => ?_)
        ·
          refine sq (rg (k (asg (v := .bool false) rfl rfl (z (nx (rt (inb_ret (then_ret (loop_ret (inb_ret (then_ret (r1 rfl rfl ?_))))))))))))
          have e0 : (false : Bool) = subM an ar bn br := by first | exact subM_no (i := j) (by omega) hx0 hx1 (by simpa using b2) | exact subM_no (i := j) (by omega) hx0 hx1 (by assumption) | (exact if h_ : an = bn then (by rw [decide_eq_true h_]; exact subM_yes h_ (by omega) (by omega) hs) else (by rw [decide_eq_false h_]; exact subM_ne h_))
          have ev_ := cg1 (fun (x_0 : Bool) => (.bool x_0 : Value)) e0
          exact ⟨ev_, H24.below⟩
        ·
          refine sk (inb_normal (nx (rg (k (mv rfl s13 (k (add rfl rfl rfl rfl (by unfold I64 at *; omega) (k (asg (v := .int .i64 ((j : Int) + 1)) rfl rfl (z ?_))))))))))
          have H25 : HI M w w14 [box bb1 #[.int .i64 bn, .slice a_br br.length c_br] 35, box bb0 #[.int .i64 an, .slice a_ar ar.length c_ar] 35, imm (.slice a_br br.length c_br) br, imm (.slice a_ar ar.length c_ar) ar] := H24.pickN [2, 3, 4, 5] (by decide) rfl
          refine loopN _ ?_ ⟨(j + 1), rfl, s11, s12, (ieq rfl (by first | rfl | omega | (push_cast; omega))), H25, (by first | assumption | omega | simp | (simp; omega)), (by first | exact subRs_step hs hx0 hx1 (by assumption) | exact subRs_step hs hx0 hx1 (by simpa using b2))⟩
          omega
    ·
      have p1 := of_decide_eq_false b1
      refine ex (then_exit (loop_exit (inb_here (nx (sq (rg (k (fa fl35_0 rfl s0 (k (ldX H4 1 rfl ty3 rfl rfl (by decide) rfl (k (fa fl35_0 rfl s1 (k (ldX H4 0 rfl ty3 rfl rfl (by decide) rfl (k (eql rfl rfl rfl rfl (k (asg (v := .bool (decide (an = bn))) rfl rfl (z (nx (rt (r1 rfl rfl ?_))))))))))))))))))))))
      have e0 : (decide (an = bn) : Bool) = subM an ar bn br := by first | exact subM_no (i := j) (by omega) hx0 hx1 (by simpa using b2) | exact subM_no (i := j) (by omega) hx0 hx1 (by assumption) | (exact if h_ : an = bn then (by rw [decide_eq_true h_]; exact subM_yes h_ (by omega) (by omega) hs) else (by rw [decide_eq_false h_]; exact subM_ne h_))
      have ev_ := cg1 (fun (x_0 : Bool) => (.bool x_0 : Value)) e0
      exact ⟨ev_, H4.below⟩
  · -- decide ((j : Int) < an) is False
    have p0 := of_decide_eq_false b0
    refine k (gn rfl rfl rfl b0 (k (gn rfl rfl rfl b0 (k (gn rfl rfl rfl b0 (k (gn rfl rfl rfl b0 (k (gn rfl rfl rfl b0 (k (pickF rfl rfl rfl rfl b0 rfl (z (nx (cdF rfl rfl rfl (ex (then_exit (loop_exit (inb_here (nx (sq (rg (k (fa fl35_0 rfl s0 (k (ldX H4 1 rfl ty3 rfl rfl (by decide) rfl (k (fa fl35_0 rfl s1 (k (ldX H4 0 rfl ty3 rfl rfl (by decide) rfl (k (eql rfl rfl rfl rfl (k (asg (v := .bool (decide (an = bn))) rfl rfl (z (nx (rt (r1 rfl rfl ?_)))))))))))))))))))))))))))))))))))))
    have e0 : (decide (an = bn) : Bool) = subM an ar bn br := by first | exact subM_no (i := j) (by omega) hx0 hx1 (by simpa using b2) | exact subM_no (i := j) (by omega) hx0 hx1 (by assumption) | (exact if h_ : an = bn then (by rw [decide_eq_true h_]; exact subM_yes h_ (by omega) (by omega) hs) else (by rw [decide_eq_false h_]; exact subM_ne h_))
    have ev_ := cg1 (fun (x_0 : Bool) => (.bool x_0 : Value)) e0
    exact ⟨ev_, H4.below⟩
/- eyewitness/eyewitnessref04.Closed -/
set_option maxRecDepth 100000 in
set_option maxHeartbeats 1600000 in
theorem ref04_Closed {M : Nat → Prop} {w : World} {mn : Int} {a_mr : Option Addr} {c_mr : Nat} {mr : List (List (BitVec 64))} (hM : ∀ b, M b → b < w.heap.size) (h_mn : I64 mn) (h_mr : RV M w (.slice a_mr mr.length c_mr) mr) (hsq_m : ((mr.length : Nat) : Int) = mn) (hrw_m : ∀ x ∈ mr, x.length ≤ 1000000000) (hl4_m : mn ≤ 4096) : Calls Try.prog 17 #[.agg #[.int .i64 mn, .slice a_mr mr.length c_mr]] w (Ret fun v w' =>  v = .bool (closedM mn mr) ∧ Ext w w') := by
  refine enter 41 Try.func17 rfl rfl rfl fun f0 ha => ?_
  have H := HI.start (M0 := M) (w := w) hM
  have H0 := H.put (it := imm (.slice a_mr mr.length c_mr) mr) rfl (by rw [MS_nil]; exact h_mr)
  have ln_mr := rv_len h_mr
  have i0 : f0 0 = .agg #[.int .i64 mn, .slice a_mr mr.length c_mr] := ha 0 (by simp)
  refine sq (rg (k (bx H0 rfl i0 ?_)))
  intro bb0 w0 xt0 (H1 : HI M w w0 [box bb0 #[.int .i64 mn, .slice a_mr mr.length c_mr] 35, imm (.slice a_mr mr.length c_mr) mr])
  refine k (asg (v := .bool false) rfl rfl (z (nx (sq (sq (rg (k (asg (v := .int .i64 0) rfl rfl (z (nx (bk ?_)))))))))))
  refine lp (fun m f w' => ∃ (i : Nat), m = mn.toNat - i ∧ f 1 = .pointer (some ⟨bb0, 0, none⟩) ∧ f 3 = .int .i64 (i : Int) ∧  HI M w w' [box bb0 #[.int .i64 mn, .slice a_mr mr.length c_mr] 35, imm (.slice a_mr mr.length c_mr) mr] ∧ (((i : Nat) : Int) ≤ mn ∨ i = 0) ∧ ((List.range i).all (cl1 mn mr) = true)) _ ⟨0, rfl, rfl, (ieq rfl (by first | rfl | omega | simp)), H1, (by right; rfl), (by rfl)⟩ ?_
  rintro _ f0 w1 ⟨i, rfl, s0, s1, H2, hi_, hs⟩
  refine sq (sq (rg (k (mv rfl s1 (k (fa fl35_0 rfl s0 (k (ldX H2 0 rfl ty3 rfl rfl (by decide) rfl (k (lss rfl rfl rfl rfl (z (nx ?_))))))))))))
  refine cd (b := decide ((i : Int) < mn)) rfl rfl (fun b0 => ?_) (fun b0 => ?_)
  ·
    have p0 := of_decide_eq_true b0
    refine sk (nx (sq (bk (sq (rg (k (asg (v := .int .i64 0) rfl rfl (z (nx (bk ?_))))))))))
    refine lp (fun m f w' => ∃ (j : Nat), m = mn.toNat - j ∧ f 1 = .pointer (some ⟨bb0, 0, none⟩) ∧ f 3 = .int .i64 (i : Int) ∧ f 4 = .int .i64 (j : Int) ∧  HI M w w' [box bb0 #[.int .i64 mn, .slice a_mr mr.length c_mr] 35, imm (.slice a_mr mr.length c_mr) mr] ∧ (((j : Nat) : Int) ≤ mn ∨ j = 0) ∧ ((List.range j).all (cl2 mn mr i) = true)) _ ⟨0, rfl, s0, s1, (ieq rfl (by first | rfl | omega | simp)), H2, (by right; rfl), (by rfl)⟩ ?_
    rintro _ f1 w2 ⟨j, rfl, s2, s3, s4, H3, hj_, hs2⟩
    refine sq (sq (rg (k (mv rfl s4 (k (fa fl35_0 rfl s2 (k (ldX H3 0 rfl ty3 rfl rfl (by decide) rfl (k (lss rfl rfl rfl rfl (z (nx ?_))))))))))))
    refine cd (b := decide ((j : Int) < mn)) rfl rfl (fun b1 => ?_) (fun b1 => ?_)
    ·
      have p1 := of_decide_eq_true b1
      refine sk (nx (sq (bk (sq (rg (k (asg (v := .int .i64 0) rfl rfl (z (nx (bk ?_))))))))))
      refine lp (fun m f w' => ∃ (q : Nat), m = mn.toNat - q ∧ f 1 = .pointer (some ⟨bb0, 0, none⟩) ∧ f 3 = .int .i64 (i : Int) ∧ f 4 = .int .i64 (j : Int) ∧ f 5 = .int .i64 (q : Int) ∧  HI M w w' [box bb0 #[.int .i64 mn, .slice a_mr mr.length c_mr] 35, imm (.slice a_mr mr.length c_mr) mr] ∧ (((q : Nat) : Int) ≤ mn ∨ q = 0) ∧ ((List.range q).all (cl3 mn mr i j) = true)) _ ⟨0, rfl, s2, s3, s4, (ieq rfl (by first | rfl | omega | simp)), H3, (by right; rfl), (by rfl)⟩ ?_
      rintro _ f2 w3 ⟨q, rfl, s5, s6, s7, s8, H4, hq_, hs3⟩
      refine sq (sq (rg (k (mv rfl s8 (k (fa fl35_0 rfl s5 (k (ldX H4 0 rfl ty3 rfl rfl (by decide) rfl (k (lss rfl rfl rfl rfl (k (mv (v := .bool (decide ((q : Int) < mn))) rfl rfl ?_))))))))))))
      rcases Bool.eq_false_or_eq_true (decide ((q : Int) < mn)) with b2 | b2
      · -- decide ((q : Int) < mn) is True
        have p2 := of_decide_eq_true b2
        refine k (gy rfl rfl rfl b2 (ldX H4 0 rfl ty35 rfl s5 (by decide) rfl (k (gy rfl rfl rfl b2 (mv rfl s6 (k (gy rfl rfl rfl b2 (mv rfl s7 (k (gy rfl rfl rfl b2 ?_))))))))))
        have cc0 := ref03_Has (mn := mn) (mr := mr) (i := (i : Int)) (j := (j : Int)) (w := w3) H4.mb (by unfold I64 at *; omega) (H4.rv 1 rfl) (by unfold I64 at *; omega) (by unfold I64 at *; omega) (by first | assumption | omega) (by first | assumption | omega) (by first | assumption | omega)
        refine ca go20 rfl (ec rfl (ec rfl (ec rfl e0))) cc0 ?_
        rintro _ w4 ⟨rfl, xt1⟩
        have H5 := H4.ext xt1
        refine k (pickT rfl rfl rfl rfl b2 rfl (z (nx ?_)))
        refine cd (b := hasM mn mr (i : Int) (j : Int)) rfl rfl (fun b3 => ?_) (fun b3 => ?_)
        ·
          refine sk (nx (sq (bk (sq (rg (k (ldX H5 0 rfl ty35 rfl s5 (by decide) rfl (k (mv rfl s7 (k (mv rfl s8 (k ?_))))))))))))
          have cc1 := ref03_Has (mn := mn) (mr := mr) (i := (j : Int)) (j := (q : Int)) (w := w4) H5.mb (by unfold I64 at *; omega) (H5.rv 1 rfl) (by unfold I64 at *; omega) (by unfold I64 at *; omega) (by first | assumption | omega) (by first | assumption | omega) (by first | assumption | omega)
          refine ca go20 rfl (ec rfl (ec rfl (ec rfl e0))) cc1 ?_
          rintro _ w5 ⟨rfl, xt2⟩
          have H6 := H5.ext xt2
          refine k (mv (v := .bool (hasM mn mr (j : Int) (q : Int))) rfl rfl ?_)
          rcases Bool.eq_false_or_eq_true (hasM mn mr (j : Int) (q : Int)) with b4 | b4
          · -- hasM mn mr (j : Int) (q : Int) is True
            refine k (gy rfl rfl rfl b4 (ldX H6 0 rfl ty35 rfl s5 (by decide) rfl (k (gy rfl rfl rfl b4 (mv rfl s6 (k (gy rfl rfl rfl b4 (mv rfl s8 (k (gy rfl rfl rfl b4 ?_))))))))))
            have cc2 := ref03_Has (mn := mn) (mr := mr) (i := (i : Int)) (j := (q : Int)) (w := w5) H6.mb (by unfold I64 at *; omega) (H6.rv 1 rfl) (by unfold I64 at *; omega) (by unfold I64 at *; omega) (by first | assumption | omega) (by first | assumption | omega) (by first | assumption | omega)
            refine ca go20 rfl (ec rfl (ec rfl (ec rfl e0))) cc2 ?_
            rintro _ w6 ⟨rfl, xt3⟩
            have H7 := H6.ext xt3
            refine k (gy rfl rfl rfl b4 (not_ rfl rfl (k (pickT rfl rfl rfl rfl b4 rfl (z (nx ?_))))))
            refine cd (b := !(hasM mn mr (i : Int) (q : Int))) rfl rfl (fun b5 => ?_) (fun b5 => ?_)
            ·
              refine sq (rg (k (asg (v := .bool false) rfl rfl (z (nx (rt (inb_ret (then_ret (loop_ret (inb_ret (inb_ret (then_ret (loop_ret (inb_ret (inb_ret (then_ret (loop_ret (inb_ret (then_ret (r1 rfl rfl ?_))))))))))))))))))))
              have e0 : (false : Bool) = closedM mn mr := by first | exact closed_no p0 p1 p2 b3 b4 (by simpa using b5) | exact (ra_end hs (by omega)).symm
              have ev_ := cg1 (fun (x_0 : Bool) => (.bool x_0 : Value)) e0
              exact ⟨ev_, H7.below⟩
            ·
              refine sk (inb_normal (nx (rg (k (mv rfl s8 (k (add rfl rfl rfl rfl (by unfold I64 at *; omega) (k (asg (v := .int .i64 ((q : Int) + 1)) rfl rfl (z ?_))))))))))
              refine loopN _ ?_ ⟨(q + 1), rfl, s5, s6, s7, (ieq rfl (by first | rfl | omega | (push_cast; omega))), H7, (by left; omega), (by first | exact ra_step hs3 (cl3_yes (.inl (by assumption))) | exact ra_step hs3 (cl3_yes (.inr (by simpa using b5))))⟩
              omega
          · -- hasM mn mr (j : Int) (q : Int) is False
            refine k (gn rfl rfl rfl b4 (k (gn rfl rfl rfl b4 (k (gn rfl rfl rfl b4 (k (gn rfl rfl rfl b4 (k (gn rfl rfl rfl b4 (k (pickF rfl rfl rfl rfl b4 rfl (z (nx (cdF rfl rfl rfl (sk (inb_normal (nx (rg (k (mv rfl s8 (k (add rfl rfl rfl rfl (by unfold I64 at *; omega) (k (asg (v := .int .i64 ((q : Int) + 1)) rfl rfl (z ?_)))))))))))))))))))))))))
            refine loopN _ ?_ ⟨(q + 1), rfl, s5, s6, s7, (ieq rfl (by first | rfl | omega | (push_cast; omega))), H6, (by left; omega), (by first | exact ra_step hs3 (cl3_yes (.inl (by assumption))) | exact ra_step hs3 (cl3_yes (.inr (by simpa using b5))))⟩
            omega
        ·
          refine ex (then_exit (loop_exit (inb_here (inb_normal (nx (rg (k (mv rfl s7 (k (add rfl rfl rfl rfl (by unfold I64 at *; omega) (k (asg (v := .int .i64 ((j : Int) + 1)) rfl rfl (z ?_)))))))))))))
          refine loopN _ ?_ ⟨(j + 1), rfl, s5, s6, (ieq rfl (by first | rfl | omega | (push_cast; omega))), H5, (by left; omega), (by first | exact ra_step hs2 (ra_end hs3 (by omega)) | exact ra_step hs2 (cl2_no (by assumption)))⟩
          omega
      · -- decide ((q : Int) < mn) is False
        have p2 := of_decide_eq_false b2
        refine k (gn rfl rfl rfl b2 (k (gn rfl rfl rfl b2 (k (gn rfl rfl rfl b2 (k (gn rfl rfl rfl b2 (k (pickF rfl rfl rfl rfl b2 rfl (z (nx (cdF rfl rfl rfl (ex (then_exit (loop_exit (inb_here (inb_normal (nx (rg (k (mv rfl s7 (k (add rfl rfl rfl rfl (by unfold I64 at *; omega) (k (asg (v := .int .i64 ((j : Int) + 1)) rfl rfl (z ?_))))))))))))))))))))))))))
        refine loopN _ ?_ ⟨(j + 1), rfl, s5, s6, (ieq rfl (by first | rfl | omega | (push_cast; omega))), H4, (by left; omega), (by first | exact ra_step hs2 (ra_end hs3 (by omega)) | exact ra_step hs2 (cl2_no (by assumption)))⟩
        omega
    ·
      have p1 := of_decide_eq_false b1
      refine ex (then_exit (loop_exit (inb_here (inb_normal (nx (rg (k (mv rfl s3 (k (add rfl rfl rfl rfl (by unfold I64 at *; omega) (k (asg (v := .int .i64 ((i : Int) + 1)) rfl rfl (z ?_)))))))))))))
      refine loopN _ ?_ ⟨(i + 1), rfl, s2, (ieq rfl (by first | rfl | omega | (push_cast; omega))), H3, (by left; omega), (by exact ra_step hs (ra_end hs2 (by omega)))⟩
      omega
  ·
    have p0 := of_decide_eq_false b0
    refine ex (then_exit (loop_exit (inb_here (nx (sq (rg (k (asg (v := .bool true) rfl rfl (z (nx (rt (r1 rfl rfl ?_))))))))))))
    have e0 : (true : Bool) = closedM mn mr := by first | exact closed_no p0 p1 p2 b3 b4 (by simpa using b5) | exact (ra_end hs (by omega)).symm
    have ev_ := cg1 (fun (x_0 : Bool) => (.bool x_0 : Value)) e0
    exact ⟨ev_, H2.below⟩
end Go.Proofs.Ytmhopljngkgidaa
