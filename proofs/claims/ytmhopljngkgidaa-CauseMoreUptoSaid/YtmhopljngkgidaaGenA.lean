/- PRINTED by my own tool (wip/tool/gen.py): contracts of Go functions of this seat, each with its proof. -/
import Derived.Test.YtmhopljngkgidaaProg
import Derived.Test.YtmhopljngkgidaaOwnA
import Derived.Test.YtmhopljngkgidaaOwnB
namespace Go.Proofs.Ytmhopljngkgidaa
open Go.Ew Go.RowKit
set_option linter.unusedVariables false
set_option linter.unusedSimpArgs false
attribute [local irreducible] WL WC SO Code.wp wpList retQ Ret
attribute [local irreducible] bitB hasW inR hasR setR countW countR subR words newR listR orR firstW tab8
theorem un77 : Try.prog.underlying 77 = some (.int .u64) := by kernel_rfl
theorem un3 : Try.prog.underlying 3 = some (.int .i64) := by kernel_rfl
theorem go50 : GoF Try.prog 50 := ⟨_, _, Try.func50, rfl, by kernel_rfl⟩
theorem un60 : Try.prog.underlying 60 = some (.slice 74) := by kernel_rfl
theorem go49 : GoF Try.prog 49 := ⟨_, _, Try.func49, rfl, by kernel_rfl⟩
theorem ty74 : TyF Try.prog 74 1 false 8 (.int .u64 0) := ⟨by kernel_rfl, by kernel_rfl⟩
theorem go62 : GoF Try.prog 62 := ⟨_, _, Try.func62, rfl, by kernel_rfl⟩
theorem go48 : GoF Try.prog 48 := ⟨_, _, Try.func48, rfl, by kernel_rfl⟩
theorem go61 : GoF Try.prog 61 := ⟨_, _, Try.func61, rfl, by kernel_rfl⟩
theorem go59 : GoF Try.prog 59 := ⟨_, _, Try.func59, rfl, by kernel_rfl⟩
theorem go57 : GoF Try.prog 57 := ⟨_, _, Try.func57, rfl, by kernel_rfl⟩
theorem go37 : GoF Try.prog 37 := ⟨_, _, Try.func37, rfl, by kernel_rfl⟩
theorem un27 : Try.prog.underlying 27 = some (.slice 3) := by kernel_rfl
theorem ty3 : TyF Try.prog 3 1 false 8 (.int .i64 0) := ⟨by kernel_rfl, by kernel_rfl⟩
set_option maxRecDepth 100000 in
set_option maxHeartbeats 1600000 in
theorem word_Bit {w : World} {i : Int} (h_i : I64 i) : Calls Try.prog 50 #[.int .i64 i] w (Ret fun v w' =>  v = U (bitB i) ∧ Ext w w') := by
  refine enter 9 Try.func50 rfl rfl rfl fun f0 ha => ?_
  have H := HI.start (M0 := (fun _ => False)) (w := w) (fun _ h => h.elim)
  have i0 : f0 0 = .int .i64 i := ha 0 (by simp)
  refine sq (rg (k (asg (v := U (0#64)) rfl rfl (z (nx (sq (sq (rg (k (mv rfl i0 (k (cvU rfl rfl un3 un77 (k (gtU (BitVec.ofInt 64 i) (63#64) rfl rfl rfl rfl (z (nx ?_))))))))))))))))
  refine cd (b := decide ((63#64).toNat < (BitVec.ofInt 64 i).toNat)) rfl rfl (fun b0 => ?_) (fun b0 => ?_)
  ·
    have p0 := of_decide_eq_true b0
    refine sq (rg (k (asg (v := U (0#64)) rfl rfl (z (nx (rt (then_ret (r1 rfl rfl ?_))))))))
    have e0 : (0#64 : BitVec 64) = bitB i := by exact bitB_hi h_i p0
    have ev_ := cg1 (fun (x_0 : BitVec 64) => (U x_0 : Value)) e0
    exact ⟨ev_, H.below⟩
  ·
    have p0 := of_decide_eq_false b0
    refine sk (nx (sq (rg (k (mv rfl i0 (k (cvU rfl rfl un3 un77 (k (shlU (1#64) ((BitVec.ofInt 64 i).toNat : Int) (by omega) rfl rfl rfl rfl (k (asg (v := U ((1#64) <<< ((BitVec.ofInt 64 i).toNat : Int).toNat)) rfl rfl (z (nx (rt (r1 rfl rfl ?_)))))))))))))))
    have e0 : ((1#64) <<< ((BitVec.ofInt 64 i).toNat : Int).toNat : BitVec 64) = bitB i := by exact bitB_lo h_i p0
    have ev_ := cg1 (fun (x_0 : BitVec 64) => (U x_0 : Value)) e0
    exact ⟨ev_, H.below⟩
set_option maxRecDepth 100000 in
set_option maxHeartbeats 1600000 in
theorem word_Has {w : World} {x : BitVec 64} {i : Int} (h_i : I64 i) : Calls Try.prog 62 #[U x, .int .i64 i] w (Ret fun v w' =>  v = .bool (hasW x i) ∧ Ext w w') := by
  refine enter 10 Try.func62 rfl rfl rfl fun f0 ha => ?_
  have H := HI.start (M0 := (fun _ => False)) (w := w) (fun _ h => h.elim)
  have i0 : f0 0 = U x := ha 0 (by simp)
  have i1 : f0 1 = .int .i64 i := ha 1 (by simp)
  refine sq (rg (k (asg (v := .bool false) rfl rfl (z (nx (sq (rg (k (mv rfl i0 (k (mv rfl i1 (k ?_))))))))))))
  have cc0 := word_Bit (i := i) (w := w) (by unfold I64 at *; omega)
  refine ca go50 rfl (ec rfl e0) cc0 ?_
  rintro _ w0 ⟨rfl, xt0⟩
  have H0 := H.ext xt0
  refine k (andU x (bitB i) rfl rfl rfl rfl (k (neU (x &&& (bitB i)) (0#64) rfl rfl rfl rfl (k (asg (v := .bool (!decide ((x &&& (bitB i)) = (0#64)))) rfl rfl (z (nx (rt (r1 rfl rfl ?_)))))))))
  have e0 : (!decide ((x &&& (bitB i)) = (0#64)) : Bool) = hasW x i := by exact hasW_eq _ _
  have ev_ := cg1 (fun (x_0 : Bool) => (.bool x_0 : Value)) e0
  exact ⟨ev_, H0.below⟩
set_option maxRecDepth 100000 in
set_option maxHeartbeats 1600000 in
theorem row_in {M : Nat → Prop} {w : World} {a_r : Option Addr} {c_r : Nat} {r : List (BitVec 64)} {i : Int} (hM : ∀ b, M b → b < w.heap.size) (h_r : RV M w (.slice a_r r.length c_r) r) (h_i : I64 i) : Calls Try.prog 49 #[.slice a_r r.length c_r, .int .i64 i] w (Ret fun v w' =>  v = .bool (inR r i) ∧ Ext w w') := by
  refine enter 14 Try.func49 rfl rfl rfl fun f0 ha => ?_
  have H := HI.start (M0 := M) (w := w) hM
  have H0 := H.put (it := imm (.slice a_r r.length c_r) r) rfl (by rw [MS_nil]; exact h_r)
  have ln_r := rv_len h_r
  have i0 : f0 0 = .slice a_r r.length c_r := ha 0 (by simp)
  have i1 : f0 1 = .int .i64 i := ha 1 (by simp)
  refine sq (rg (k (asg (v := .bool false) rfl rfl (z (nx (sq (rg (k (mv rfl i1 (k (geq rfl rfl rfl rfl (k (mv (v := .bool (decide (0 ≤ i))) rfl rfl ?_)))))))))))))
  rcases Bool.eq_false_or_eq_true (decide (0 ≤ i)) with b0 | b0
  · -- decide (0 ≤ i) is True
    have p0 := of_decide_eq_true b0
    refine k (gy rfl rfl rfl b0 (mv rfl i1 (k (gy rfl rfl rfl b0 (shrI rfl rfl rfl rfl (k (gy rfl rfl rfl b0 (mv rfl i0 (k (gy rfl rfl rfl b0 (lnS rfl rfl un60 (k (gy rfl rfl rfl b0 (lss rfl rfl rfl rfl (k (pickT rfl rfl rfl rfl b0 rfl (k (asg (v := .bool (decide ((i / 64) < (r.length : Int)))) rfl rfl (z (nx (rt (r1 rfl rfl ?_))))))))))))))))))))))
    have e0 : (decide ((i / 64) < (r.length : Int)) : Bool) = inR r i := by exact inR_yes p0
    have ev_ := cg1 (fun (x_0 : Bool) => (.bool x_0 : Value)) e0
    exact ⟨ev_, H0.below⟩
  · -- decide (0 ≤ i) is False
    have p0 := of_decide_eq_false b0
    refine k (gn rfl rfl rfl b0 (k (gn rfl rfl rfl b0 (k (gn rfl rfl rfl b0 (k (gn rfl rfl rfl b0 (k (gn rfl rfl rfl b0 (k (pickF rfl rfl rfl rfl b0 rfl (k (asg (v := .bool false) rfl rfl (z (nx (rt (r1 rfl rfl ?_)))))))))))))))))
    have e0 : (false : Bool) = inR r i := by exact inR_no (by omega)
    have ev_ := cg1 (fun (x_0 : Bool) => (.bool x_0 : Value)) e0
    exact ⟨ev_, H0.below⟩
set_option maxRecDepth 100000 in
set_option maxHeartbeats 1600000 in
theorem row_Has {M : Nat → Prop} {w : World} {a_r : Option Addr} {c_r : Nat} {r : List (BitVec 64)} {i : Int} (hM : ∀ b, M b → b < w.heap.size) (h_r : RV M w (.slice a_r r.length c_r) r) (h_i : I64 i) : Calls Try.prog 55 #[.slice a_r r.length c_r, .int .i64 i] w (Ret fun v w' =>  v = .bool (hasR r i) ∧ Ext w w') := by
  refine enter 18 Try.func55 rfl rfl rfl fun f0 ha => ?_
  have H := HI.start (M0 := M) (w := w) hM
  have H0 := H.put (it := imm (.slice a_r r.length c_r) r) rfl (by rw [MS_nil]; exact h_r)
  have ln_r := rv_len h_r
  have i0 : f0 0 = .slice a_r r.length c_r := ha 0 (by simp)
  have i1 : f0 1 = .int .i64 i := ha 1 (by simp)
  refine sq (rg (k (asg (v := .bool false) rfl rfl (z (nx (sq (rg (k (mv rfl i0 (k (mv rfl i1 (k ?_))))))))))))
  have cc0 := row_in (r := r) (i := i) (w := w) H0.mb (H0.rv 0 rfl) (by unfold I64 at *; omega)
  refine ca go49 rfl (ec rfl (ec rfl e0)) cc0 ?_
  rintro _ w0 ⟨rfl, xt0⟩
  have H1 := H0.ext xt0
  refine k (mv (v := .bool (inR r i)) rfl rfl ?_)
  rcases Bool.eq_false_or_eq_true (inR r i) with b0 | b0
  · -- inR r i is True
    refine k (gy rfl rfl rfl b0 (mv rfl i0 (k (gy rfl rfl rfl b0 (mv rfl i1 (k (gy rfl rfl rfl b0 (shrI rfl rfl rfl rfl (k (gy rfl rfl rfl b0 (ia (H1.rv 0 rfl) rfl rfl rfl rfl (by have hb := b0; unfold inR at hb; simp only [decide_eq_true_eq] at hb; omega) un60 ty74 ?_)))))))))))
    intro ad0 x0 hx0 hA0
    refine k (gy rfl rfl rfl b0 (ldU hA0.w ty74 rfl rfl (k (gy rfl rfl rfl b0 (mv rfl i1 (k (gy rfl rfl rfl b0 (and63 rfl rfl rfl rfl (k (gy rfl rfl rfl b0 ?_))))))))))
    have cc1 := word_Has (x := x0) (i := (i % 64)) (w := w0) (by unfold I64 at *; omega)
    refine ca go62 rfl (ec rfl (ec rfl e0)) cc1 ?_
    rintro _ w1 ⟨rfl, xt1⟩
    have H2 := H1.ext xt1
    refine k (pickT rfl rfl rfl rfl b0 rfl (k (asg (v := .bool (hasW x0 (i % 64))) rfl rfl (z (nx (rt (r1 rfl rfl ?_)))))))
    have e0 : (hasW x0 (i % 64) : Bool) = hasR r i := by exact hasR_in b0 hx0
    have ev_ := cg1 (fun (x_0 : Bool) => (.bool x_0 : Value)) e0
    exact ⟨ev_, H2.below⟩
  · -- inR r i is False
    refine k (gn rfl rfl rfl b0 (k (gn rfl rfl rfl b0 (k (gn rfl rfl rfl b0 (k (gn rfl rfl rfl b0 (k (gn rfl rfl rfl b0 (k (gn rfl rfl rfl b0 (k (gn rfl rfl rfl b0 (k (gn rfl rfl rfl b0 (k (pickF rfl rfl rfl rfl b0 rfl (k (asg (v := .bool false) rfl rfl (z (nx (rt (r1 rfl rfl ?_)))))))))))))))))))))))
    have e0 : (false : Bool) = hasR r i := by exact hasR_out b0
    have ev_ := cg1 (fun (x_0 : Bool) => (.bool x_0 : Value)) e0
    exact ⟨ev_, H1.below⟩
set_option maxRecDepth 100000 in
set_option maxHeartbeats 1600000 in
theorem clone_u64 {M : Nat → Prop} {w : World} {a_r : Option Addr} {c_r : Nat} {r : List (BitVec 64)} (hM : ∀ b, M b → b < w.heap.size) (h_r : RV M w (.slice a_r r.length c_r) r) (hl_r : r.length ≤ 1000000000) : Calls Try.prog 48 #[.slice a_r r.length c_r] w (Ret fun v w' => ∃ (a0 : Option Addr) (c0 : Nat), v = .slice a0 r.length c0 ∧ Ext w w' ∧ OwnsG M 74 w r (.slice a0 r.length c0) w') := by
  refine enter 8 Try.func48 rfl rfl rfl fun f0 ha => ?_
  have H := HI.start (M0 := M) (w := w) hM
  have H0 := H.put (it := imm (.slice a_r r.length c_r) r) rfl (by rw [MS_nil]; exact h_r)
  have ln_r := rv_len h_r
  have i0 : f0 0 = .slice a_r r.length c_r := ha 0 (by simp)
  refine sq (rg (k (asg (v := .slice none 0 0) rfl rfl (z (nx (sq (sq (rg (k (mv rfl i0 (k (eqN rfl rfl rfl rfl un60 (z (nx ?_))))))))))))))
  refine cd (b := a_r.isNone) rfl rfl (fun b0 => ?_) (fun b0 => ?_)
  ·
    refine sq (rg (k (asg (v := .slice none 0 0) rfl rfl (z (nx (rt (then_ret (r1 rfl rfl ?_))))))))
    have e0 : ([] : List (BitVec 64)) = r := by exact (rv_none h_r b0).symm
    have ev_ := cg1 (fun (x_0 : List (BitVec 64)) => (.slice none x_0.length 0 : Value)) e0
    exact ⟨none, 0, ev_, H0.below, (congrArg (fun (x_ : List (BitVec 64)) => OwnsG _ _ _ x_ (.slice none x_.length 0) _) e0).mp (ownsG_nil H0.below)⟩
  ·
    refine sk (nx (sq (rg (k (bs (xs := ([] : List (BitVec 64))) (cells := #[]) (e := 74) H0 rfl pb0 (fun _ => by kernel_rfl) rfl rfl (by unfold maxLen; omega) ?_)))))
    intro g0 w0 xt0 (H1 : HI M w w0 [own w.heap.size 74 (.slice (some ⟨g0, 0, none⟩) 0 0) ([] : List (BitVec 64)), imm (.slice a_r r.length c_r) r])
    refine k (mv rfl i0 (k (ap H1 0 rfl rfl rfl rfl rfl rfl (H1.rv 1 rfl).src un60 ty74 rfl (by first | omega | (simp; omega)) (by first | omega | (simp; omega)) ?_)))
    intro a0 c0 w1 (H2 : HI M w w1 [own w.heap.size 74 (.slice a0 r.length c0) r, imm (.slice a_r r.length c_r) r])
    refine k (asg (v := .slice a0 r.length c0) rfl rfl (z (nx (rt (r1 rfl rfl ?_)))))
    exact ⟨a0, c0, rfl, H2.below, (H2.ownsG_out 0 rfl)⟩
set_option maxRecDepth 100000 in
set_option maxHeartbeats 1600000 in
theorem row_Set {M : Nat → Prop} {w : World} {a_r : Option Addr} {c_r : Nat} {r : List (BitVec 64)} {i : Int} (hM : ∀ b, M b → b < w.heap.size) (h_r : RV M w (.slice a_r r.length c_r) r) (h_i : I64 i) (hl_r : r.length ≤ 1000000000) : Calls Try.prog 30 #[.slice a_r r.length c_r, .int .i64 i] w (Ret fun v w' => ∃ (a0 : Option Addr) (c0 : Nat), v = .slice a0 (setR r i).length c0 ∧ Ext w w' ∧ OwnsG M 74 w (setR r i) (.slice a0 (setR r i).length c0) w') := by
  refine enter 22 Try.func30 rfl rfl rfl fun f0 ha => ?_
  have H := HI.start (M0 := M) (w := w) hM
  have H0 := H.put (it := imm (.slice a_r r.length c_r) r) rfl (by rw [MS_nil]; exact h_r)
  have ln_r := rv_len h_r
  have i0 : f0 0 = .slice a_r r.length c_r := ha 0 (by simp)
  have i1 : f0 1 = .int .i64 i := ha 1 (by simp)
  refine sq (rg (k (asg (v := .slice none 0 0) rfl rfl (z (nx (sq (rg (k (mv rfl i0 (k ?_))))))))))
  have cc0 := clone_u64 (r := r) (w := w) H0.mb (H0.rv 0 rfl) (by first | omega | (simp; omega))
  refine ca go48 rfl (ec rfl e0) cc0 ?_
  rintro _ w0 ⟨a0, c0, rfl, xt0, rv0⟩
  have H1 := H0.ownsG rv0
  refine k (asg (v := .slice a0 r.length c0) rfl rfl (z (nx (sq (sq (rg (k (mv rfl i0 (k (mv rfl i1 (k ?_)))))))))))
  have cc1 := row_in (r := r) (i := i) (w := w0) H1.mb (H1.rv 1 rfl) (by unfold I64 at *; omega)
  refine ca go49 rfl (ec rfl (ec rfl e0)) cc1 ?_
  rintro _ w1 ⟨rfl, xt1⟩
  have H2 := H1.ext xt1
  refine z (nx ?_)
  refine cd (b := inR r i) rfl rfl (fun b0 => ?_) (fun b0 => ?_)
  ·
    obtain ⟨x0, hx0⟩ : ∃ x, r[(i / 64).toNat]? = some x := ⟨_, List.getElem?_eq_getElem (by have hb := b0; unfold inR at hb; simp only [decide_eq_true_eq] at hb; omega)⟩
    refine dr 8 [fun (v : Value) (w' : World) => v = .slice a0 r.length c0, fun (v : Value) (w' : World) => v = .int .i64 i, fun (v : Value) (w' : World) => v = .int .i64 (i / 64), fun (v : Value) (w' : World) => ∃ (g0 : Nat), v = .pointer (some ⟨g0, (i / 64).toNat * 1, none⟩) ∧ (.slice a0 r.length c0 : Value).ownBlock = some g0 ∧ AtW (MS M [own w.heap.size 74 (.slice a0 r.length c0) r, imm (.slice a_r r.length c_r) r]) w' ⟨g0, (i / 64).toNat * 1, none⟩ x0, fun (v : Value) (w' : World) => v = U x0, fun (v : Value) (w' : World) => v = .int .i64 i, fun (v : Value) (w' : World) => v = .int .i64 (i % 64), fun (v : Value) (w' : World) => v = U (bitB (i % 64))] rfl (by kernel_rfl) ?_ ?_
    ·
      refine ⟨fun _ => ⟨fun f0 w3 hf0 xt3 hp0 => ?_, fun _ _ _ _ h => h⟩, ?_⟩
      ·
        have H4 := H2.ext xt3
        refine mv rfl (hf0 5 rfl) ?_
        exact ⟨_, rfl, Ext.refl _, rfl⟩
      refine ⟨fun _ => ⟨fun f1 w4 hf1 xt4 hp1 => ?_, fun _ _ _ _ h => h⟩, ?_⟩
      ·
        have H5 := H2.ext xt4
        refine mv rfl ((hf1 1 rfl).trans i1) ?_
        exact ⟨_, rfl, Ext.refl _, rfl⟩
      refine ⟨fun _ => ⟨fun f2 w5 hf2 xt5 hp2 => ?_, fun _ _ _ _ h => h⟩, ?_⟩
      ·
        have H6 := H2.ext xt5
        have s0 : f2 12 = .int .i64 i := hp2 1 rfl rfl
        refine shrI rfl rfl s0 rfl ?_
        exact ⟨_, rfl, Ext.refl _, rfl⟩
      refine ⟨fun _ => ⟨fun f3 w6 hf3 xt6 hp3 => ?_, by rintro _ _ _ x_ ⟨g0, e_, hv0, hA0⟩; exact ⟨g0, e_, hv0, hA0.ext x_⟩⟩, ?_⟩
      ·
        have H7 := H2.ext xt6
        have s1 : f3 11 = .slice a0 r.length c0 := hp3 0 rfl rfl
        have s2 : f3 13 = .int .i64 (i / 64) := hp3 2 rfl rfl
        refine iaO (H7.at_ 0 rfl) rfl rfl s1 s2 (by have hb := b0; unfold inR at hb; simp only [decide_eq_true_eq] at hb; omega) un60 ty74 ?_
        intro g1 x1 hv1 hx1 hA1
        obtain rfl : x0 = x1 := Option.some.inj (hx0.symm.trans hx1)
        exact ⟨_, rfl, Ext.refl _, ⟨g1, rfl, hv1, hA1⟩⟩
      refine ⟨fun _ => ⟨fun f4 w7 hf4 xt7 hp4 => ?_, fun _ _ _ _ h => h⟩, ?_⟩
      ·
        have H8 := H2.ext xt7
        obtain ⟨g2, s3, hv2, hA2⟩ : ∃ (g2 : Nat), f4 14 = .pointer (some ⟨g2, (i / 64).toNat * 1, none⟩) ∧ (.slice a0 r.length c0 : Value).ownBlock = some g2 ∧ AtW (MS M [own w.heap.size 74 (.slice a0 r.length c0) r, imm (.slice a_r r.length c_r) r]) w7 ⟨g2, (i / 64).toNat * 1, none⟩ x0 := hp4 3 rfl rfl
        refine ldU hA2 ty74 rfl s3 ?_
        exact ⟨_, rfl, Ext.refl _, rfl⟩
      refine ⟨fun _ => ⟨fun f5 w8 hf5 xt8 hp5 => ?_, fun _ _ _ _ h => h⟩, ?_⟩
      ·
        have H9 := H2.ext xt8
        refine mv rfl ((hf5 1 rfl).trans i1) ?_
        exact ⟨_, rfl, Ext.refl _, rfl⟩
      refine ⟨fun _ => ⟨fun f6 w9 hf6 xt9 hp6 => ?_, fun _ _ _ _ h => h⟩, ?_⟩
      ·
        have H10 := H2.ext xt9
        have s4 : f6 16 = .int .i64 i := hp6 5 rfl rfl
        refine and63 rfl rfl s4 rfl ?_
        exact ⟨_, rfl, Ext.refl _, rfl⟩
      refine ⟨fun _ => ⟨fun f7 w10 hf7 xt10 hp7 => ?_, fun _ _ _ _ h => h⟩, ?_⟩
      ·
        have H11 := H2.ext xt10
        have s5 : f7 17 = .int .i64 (i % 64) := hp7 6 rfl rfl
        have cc3 := word_Bit (i := (i % 64)) (w := w10) (by unfold I64 at *; omega)
        refine ca go50 rfl (ec s5 e0) cc3 ?_
        rintro _ w11 ⟨rfl, xt11⟩
        have H12 := H11.ext xt11
        exact ⟨_, rfl, xt11, rfl⟩
      exact DSteps.rest rfl _
    · intro f8 w12 hf8 xt12 hp8
      have H13 := H2.ext xt12
      have s6 : f8 5 = .slice a0 r.length c0 := hf8 5 rfl
      have s7 : f8 11 = .slice a0 r.length c0 := hp8 0 rfl
      have s8 : f8 13 = .int .i64 (i / 64) := hp8 2 rfl
      have s9 : f8 15 = U x0 := hp8 4 rfl
      have s10 : f8 18 = U (bitB (i % 64)) := hp8 7 rfl
      refine k (orU x0 (bitB (i % 64)) rfl rfl s9 s10 (k (iaO (H13.at_ 0 rfl) rfl rfl s7 s8 (by have hb := b0; unfold inR at hb; simp only [decide_eq_true_eq] at hb; omega) un60 ty74 ?_)))
      intro g3 x2 hv3 hx2 hA3
      refine k (stO H13 0 rfl hv3 rfl (by have hb := b0; unfold inR at hb; simp only [decide_eq_true_eq] at hb; omega) ty74 rfl rfl rfl rfl (RV.bv.2 rfl) ?_)
      intro w13 (H14 : HI M w w13 [own w.heap.size 74 (.slice a0 r.length c0) (r.set ((i / 64).toNat) (x0 ||| (bitB (i % 64)))), imm (.slice a_r r.length c_r) r])
      refine z (nx (sq (rg (k (mv rfl s6 (k (asg (v := .slice a0 r.length c0) rfl rfl (z (nx (rt (r1 rfl rfl ?_)))))))))))
      have e0 : (r.set ((i / 64).toNat) (x0 ||| (bitB (i % 64))) : List (BitVec 64)) = setR r i := by exact setR_in b0 hx0
      have l0 : r.length = (setR r i).length := by first | rfl | (rw [← e0]; simp) | simp
      have ev_ := cg1 (fun (n_0 : Nat) => (.slice a0 n_0 c0 : Value)) l0
      exact ⟨a0, c0, ev_, H14.below, (congrArg (fun (n_ : Nat) => OwnsG _ _ _ (setR r i) (.slice a0 n_ c0) _) l0).mp ((congrArg (fun (x_ : List (BitVec 64)) => OwnsG _ _ _ x_ (.slice a0 r.length c0) _) e0).mp (H14.ownsG_out 0 rfl))⟩
  ·
    refine sk (nx (sq (rg (k (mv (v := .slice a0 r.length c0) rfl rfl (k (asg (v := .slice a0 r.length c0) rfl rfl (z (nx (rt (r1 rfl rfl ?_)))))))))))
    have e0 : (r : List (BitVec 64)) = setR r i := by exact setR_out b0
    have ev_ := cg1 (fun (x_0 : List (BitVec 64)) => (.slice a0 x_0.length c0 : Value)) e0
    exact ⟨a0, c0, ev_, H2.below, (congrArg (fun (x_ : List (BitVec 64)) => OwnsG _ _ _ x_ (.slice a0 x_.length c0) _) e0).mp (H2.ownsG_out 0 rfl)⟩
set_option maxRecDepth 100000 in
set_option maxHeartbeats 1600000 in
theorem row_Words {w : World} {n : Int} (h_n : I64 n) (hn : n ≤ 1000000000000000000) : Calls Try.prog 61 #[.int .i64 n] w (Ret fun v w' =>  v = .int .i64 ((words n : Nat) : Int) ∧ Ext w w') := by
  refine enter 8 Try.func61 rfl rfl rfl fun f0 ha => ?_
  have H := HI.start (M0 := (fun _ => False)) (w := w) (fun _ h => h.elim)
  have i0 : f0 0 = .int .i64 n := ha 0 (by simp)
  refine sq (rg (k (asg (v := .int .i64 0) rfl rfl (z (nx (sq (rg (k (mv rfl i0 (k (max2 rfl rfl rfl rfl (k (add rfl rfl rfl rfl (by unfold I64 at *; omega) (k (sub rfl rfl rfl rfl (by unfold I64 at *; omega) (k (quo rfl rfl rfl rfl (by first | omega | (simp; omega)) (k (asg (v := .int .i64 ((((max n 0) + 64) - 1) / 64)) rfl rfl (z (nx (rt (r1 rfl rfl ?_)))))))))))))))))))))))
  have e0 : ((((max n 0) + 64) - 1) / 64 : Int) = ((words n : Nat) : Int) := by unfold words; omega
  have ev_ := cg1 (fun (x_0 : Int) => (.int .i64 x_0 : Value)) e0
  exact ⟨ev_, H.below⟩
set_option maxRecDepth 100000 in
set_option maxHeartbeats 1600000 in
theorem row_New {M : Nat → Prop} {w : World} {n : Int} (hM : ∀ b, M b → b < w.heap.size) (h_n : I64 n) (hn : n ≤ 1000000) : Calls Try.prog 47 #[.int .i64 n] w (Ret fun v w' => ∃ (a0 : Option Addr) (c0 : Nat), v = .slice a0 (newR n).length c0 ∧ Ext w w' ∧ OwnsG M 74 w (newR n) (.slice a0 (newR n).length c0) w') := by
  refine enter 6 Try.func47 rfl rfl rfl fun f0 ha => ?_
  have H := HI.start (M0 := M) (w := w) hM
  have i0 : f0 0 = .int .i64 n := ha 0 (by simp)
  refine sq (rg (k (asg (v := .slice none 0 0) rfl rfl (z (nx (sq (rg (k (mv rfl i0 (k ?_))))))))))
  have cc0 := row_Words (n := n) (w := w) (by unfold I64 at *; omega) (by first | omega | (simp; omega))
  refine ca go61 rfl (ec rfl e0) cc0 ?_
  rintro _ w0 ⟨rfl, xt0⟩
  have H0 := H.ext xt0
  refine k (mk (m := (words n : Nat)) (zx := (0#64 : (BitVec 64))) H0 rfl rfl rfl rfl un60 ty74 (fun _ _ => rfl) (by unfold words; omega) (by unfold words; omega) ?_)
  intro g0 w1 xt1 (H1 : HI M w w1 [own w.heap.size 74 (.slice (some ⟨g0, 0, none⟩) (words n : Nat) (words n : Nat)) (List.replicate (words n : Nat) (0#64 : (BitVec 64)))])
  refine k (asg (v := .slice (some ⟨g0, 0, none⟩) (words n : Nat) (words n : Nat)) rfl rfl (z (nx (rt (r1 rfl rfl ?_)))))
  have e0 : ((List.replicate (words n : Nat) (0#64 : (BitVec 64))) : List (BitVec 64)) = newR n := by unfold newR; rfl
  have l0 : (words n : Nat) = (newR n).length := by first | rfl | (rw [← e0]; simp) | simp
  have ev_ := cg1 (fun (n_0 : Nat) => (.slice (some ⟨g0, 0, none⟩) n_0 (words n : Nat) : Value)) l0
  exact ⟨(some ⟨g0, 0, none⟩), (words n : Nat), ev_, H1.below, (congrArg (fun (n_ : Nat) => OwnsG _ _ _ (newR n) (.slice (some ⟨g0, 0, none⟩) n_ (words n : Nat)) _) l0).mp ((congrArg (fun (x_ : List (BitVec 64)) => OwnsG _ _ _ x_ (.slice (some ⟨g0, 0, none⟩) (words n : Nat) (words n : Nat)) _) e0).mp (H1.ownsG_out 0 rfl))⟩
set_option maxRecDepth 100000 in
set_option maxHeartbeats 1600000 in
theorem row_Or {M : Nat → Prop} {w : World} {a_a : Option Addr} {c_a : Nat} {a : List (BitVec 64)} {a_b : Option Addr} {c_b : Nat} {b : List (BitVec 64)} (hM : ∀ b, M b → b < w.heap.size) (h_a : RV M w (.slice a_a a.length c_a) a) (h_b : RV M w (.slice a_b b.length c_b) b) (hl_a : a.length ≤ 1000000000) (hl_b : b.length ≤ 1000000000) : Calls Try.prog 52 #[.slice a_a a.length c_a, .slice a_b b.length c_b] w (Ret fun v w' => ∃ (a0 : Option Addr) (c0 : Nat), v = .slice a0 (orR a b).length c0 ∧ Ext w w' ∧ OwnsG M 74 w (orR a b) (.slice a0 (orR a b).length c0) w') := by
  refine enter 33 Try.func52 rfl rfl rfl fun f0 ha => ?_
  have H := HI.start (M0 := M) (w := w) hM
  have H0 := H.put (it := imm (.slice a_a a.length c_a) a) rfl (by rw [MS_nil]; exact h_a)
  have H1 := H0.put (it := imm (.slice a_b b.length c_b) b) rfl (by rw [MS_cons_none rfl, MS_nil]; exact h_b)
  have ln_a := rv_len h_a
  have ln_b := rv_len h_b
  have i0 : f0 0 = .slice a_a a.length c_a := ha 0 (by simp)
  have i1 : f0 1 = .slice a_b b.length c_b := ha 1 (by simp)
  refine sq (rg (k (asg (v := .slice none 0 0) rfl rfl (z (nx (sq (sq (rg (k (mv rfl i0 (k (lnS rfl rfl un60 (k (mv rfl i1 (k (lnS rfl rfl un60 (k (lss rfl rfl rfl rfl (z (nx ?_))))))))))))))))))))
  refine cd (b := decide ((a.length : Int) < (b.length : Int))) rfl rfl (fun b0 => ?_) (fun b0 => ?_)
  ·
    have p0 := of_decide_eq_true b0
    refine rg (k (mv rfl i1 (k (mv rfl i0 (k (asg (v := .slice a_b b.length c_b) rfl rfl (k (asg (v := .slice a_a a.length c_a) rfl rfl (z (nx (sq (rg (k (mv (v := .slice a_b b.length c_b) rfl rfl (k ?_)))))))))))))))
    have cc0 := clone_u64 (r := b) (w := w) H1.mb (H1.rv 0 rfl) (by first | omega | (simp; omega))
    refine ca go48 rfl (ec rfl e0) cc0 ?_
    rintro _ w0 ⟨a0, c0, rfl, xt0, rv0⟩
    have H2 := H1.ownsG rv0
    refine k (asg (v := .slice a0 b.length c0) rfl rfl (z (nx (sq (sq (rg (k (mv (v := .slice a_a a.length c_a) rfl rfl (k (lnS rfl rfl un60 (k (mv (v := .int .i64 0) rfl rfl (z (nx (bk ?_)))))))))))))))
    refine lp (fun m f w' => ∃ (j : Nat) (xs : List (BitVec 64)), m = a.length - j ∧ f 5 = .slice a0 b.length c0 ∧ f 17 = .slice a_a a.length c_a ∧ f 18 = .int .i64 (a.length : Int) ∧ f 19 = .int .i64 (j : Int) ∧  HI M w w' [own w.heap.size 74 (.slice a0 b.length c0) xs, imm (.slice a_b b.length c_b) b, imm (.slice a_a a.length c_a) a] ∧ (j ≤ a.length) ∧ (xs.length = b.length) ∧ (xs = orTo b.length b a b j)) _ ⟨0, b, rfl, rfl, rfl, rfl, (ieq rfl (by first | rfl | omega | simp)), H2, (by first | assumption | omega | simp | (simp; omega)), (by rfl), (by exact orTo_zero _ _ _)⟩ ?_
    rintro _ f0 w1 ⟨j, xs, rfl, s0, s1, s2, s3, H3, hk, hl, hs⟩
    refine sq (rg (k (lss rfl rfl s3 s2 (z (nx (sq ?_))))))
    refine cd (b := decide ((j : Int) < (a.length : Int))) rfl rfl (fun b1 => ?_) (fun b1 => ?_)
    ·
      have p1 := of_decide_eq_true b1
      refine sk (nx (sq (bk (sq (rg (k (mv rfl s3 (k (ia (H3.rv 2 rfl) rfl rfl s1 s3 (by first | omega | (simp; omega)) un60 ty74 ?_)))))))))
      intro ad0 x0 hx0 hA0
      refine k (ldU hA0.w ty74 rfl rfl (k (asg (v := .int .i64 (j : Int)) rfl rfl (k (asg (v := U x0) rfl rfl (z (nx (rg (k (mv rfl s0 (k (mv (v := .int .i64 (j : Int)) rfl rfl (k (iaO (H3.at_ 0 rfl) rfl rfl rfl rfl (by first | omega | (simp; omega)) un60 ty74 ?_))))))))))))))
      intro g0 x1 hv0 hx1 hA1
      refine k (ldU hA1 ty74 rfl rfl (k (mv (v := U x0) rfl rfl (k (orU x1 x0 rfl rfl rfl rfl (k (iaO (H3.at_ 0 rfl) rfl rfl rfl rfl (by first | omega | (simp; omega)) un60 ty74 ?_)))))))
      intro g1 x2 hv1 hx2 hA2
      refine k (stO H3 0 rfl hv1 rfl (by first | omega | (simp; omega)) ty74 rfl rfl rfl rfl (RV.bv.2 rfl) ?_)
      intro w2 (H4 : HI M w w2 [own w.heap.size 74 (.slice a0 b.length c0) (xs.set ((j : Int).toNat) (x1 ||| x0)), imm (.slice a_b b.length c_b) b, imm (.slice a_a a.length c_a) a])
      refine z (inb_normal (nx (rg (k (add rfl rfl s3 rfl (by unfold I64 at *; omega) (k (mv (v := .int .i64 ((j : Int) + 1)) rfl rfl (z ?_))))))))
      refine loopN _ ?_ ⟨(j + 1), (xs.set ((j : Int).toNat) (x1 ||| x0)), rfl, s0, s1, s2, (ieq rfl (by first | rfl | omega | (push_cast; omega))), H4, (by first | assumption | omega | simp | (simp; omega)), (by simpa using hl), (by have e1 := orTo_get (hs ▸ hx1); have e2 := getD_at hx0; rw [hs]; exact orTo_set (by rw [e1]; unfold orAt; rw [e2]))⟩
      omega
    ·
      have p1 := of_decide_eq_false b1
      refine ex (then_exit (loop_exit (inb_here (nx (sq (rg (k (mv rfl s0 (k (asg (v := .slice a0 b.length c0) rfl rfl (z (nx (rt (r1 rfl rfl ?_))))))))))))))
      have e0 : (xs : List (BitVec 64)) = orR a b := by rw [hs]; first | exact orTo_all (by omega) (fun i h1 h2 => orAt_left (by omega)) | (rw [orR_comm]; exact orTo_all (by omega) (fun i h1 h2 => orAt_left (by omega)))
      have l0 : b.length = (orR a b).length := by rw [← e0]; omega
      have ev_ := cg1 (fun (n_0 : Nat) => (.slice a0 n_0 c0 : Value)) l0
      exact ⟨a0, c0, ev_, H3.below, (congrArg (fun (n_ : Nat) => OwnsG _ _ _ (orR a b) (.slice a0 n_ c0) _) l0).mp ((congrArg (fun (x_ : List (BitVec 64)) => OwnsG _ _ _ x_ (.slice a0 b.length c0) _) e0).mp (H3.ownsG_out 0 rfl))⟩
  ·
    have p0 := of_decide_eq_false b0
    refine sk (nx (sq (rg (k (mv rfl i0 (k ?_))))))
    have cc0 := clone_u64 (r := a) (w := w) H1.mb (H1.rv 1 rfl) (by first | omega | (simp; omega))
    refine ca go48 rfl (ec rfl e0) cc0 ?_
    rintro _ w0 ⟨a0, c0, rfl, xt0, rv0⟩
    have H2 := H1.ownsG rv0
    refine k (asg (v := .slice a0 a.length c0) rfl rfl (z (nx (sq (sq (rg (k (mv rfl i1 (k (lnS rfl rfl un60 (k (mv (v := .int .i64 0) rfl rfl (z (nx (bk ?_)))))))))))))))
    refine lp (fun m f w' => ∃ (j : Nat) (xs : List (BitVec 64)), m = b.length - j ∧ f 5 = .slice a0 a.length c0 ∧ f 17 = .slice a_b b.length c_b ∧ f 18 = .int .i64 (b.length : Int) ∧ f 19 = .int .i64 (j : Int) ∧  HI M w w' [own w.heap.size 74 (.slice a0 a.length c0) xs, imm (.slice a_b b.length c_b) b, imm (.slice a_a a.length c_a) a] ∧ (j ≤ b.length) ∧ (xs.length = a.length) ∧ (xs = orTo a.length a b a j)) _ ⟨0, a, rfl, rfl, rfl, rfl, (ieq rfl (by first | rfl | omega | simp)), H2, (by first | assumption | omega | simp | (simp; omega)), (by rfl), (by exact orTo_zero _ _ _)⟩ ?_
    rintro _ f0 w1 ⟨j, xs, rfl, s0, s1, s2, s3, H3, hk, hl, hs⟩
    refine sq (rg (k (lss rfl rfl s3 s2 (z (nx (sq ?_))))))
    refine cd (b := decide ((j : Int) < (b.length : Int))) rfl rfl (fun b1 => ?_) (fun b1 => ?_)
    ·
      have p1 := of_decide_eq_true b1
      refine sk (nx (sq (bk (sq (rg (k (mv rfl s3 (k (ia (H3.rv 1 rfl) rfl rfl s1 s3 (by first | omega | (simp; omega)) un60 ty74 ?_)))))))))
      intro ad0 x0 hx0 hA0
      refine k (ldU hA0.w ty74 rfl rfl (k (asg (v := .int .i64 (j : Int)) rfl rfl (k (asg (v := U x0) rfl rfl (z (nx (rg (k (mv rfl s0 (k (mv (v := .int .i64 (j : Int)) rfl rfl (k (iaO (H3.at_ 0 rfl) rfl rfl rfl rfl (by first | omega | (simp; omega)) un60 ty74 ?_))))))))))))))
      intro g0 x1 hv0 hx1 hA1
      refine k (ldU hA1 ty74 rfl rfl (k (mv (v := U x0) rfl rfl (k (orU x1 x0 rfl rfl rfl rfl (k (iaO (H3.at_ 0 rfl) rfl rfl rfl rfl (by first | omega | (simp; omega)) un60 ty74 ?_)))))))
      intro g1 x2 hv1 hx2 hA2
      refine k (stO H3 0 rfl hv1 rfl (by first | omega | (simp; omega)) ty74 rfl rfl rfl rfl (RV.bv.2 rfl) ?_)
      intro w2 (H4 : HI M w w2 [own w.heap.size 74 (.slice a0 a.length c0) (xs.set ((j : Int).toNat) (x1 ||| x0)), imm (.slice a_b b.length c_b) b, imm (.slice a_a a.length c_a) a])
      refine z (inb_normal (nx (rg (k (add rfl rfl s3 rfl (by unfold I64 at *; omega) (k (mv (v := .int .i64 ((j : Int) + 1)) rfl rfl (z ?_))))))))
      refine loopN _ ?_ ⟨(j + 1), (xs.set ((j : Int).toNat) (x1 ||| x0)), rfl, s0, s1, s2, (ieq rfl (by first | rfl | omega | (push_cast; omega))), H4, (by first | assumption | omega | simp | (simp; omega)), (by simpa using hl), (by have e1 := orTo_get (hs ▸ hx1); have e2 := getD_at hx0; rw [hs]; exact orTo_set (by rw [e1]; unfold orAt; rw [e2]))⟩
      omega
    ·
      have p1 := of_decide_eq_false b1
      refine ex (then_exit (loop_exit (inb_here (nx (sq (rg (k (mv rfl s0 (k (asg (v := .slice a0 a.length c0) rfl rfl (z (nx (rt (r1 rfl rfl ?_))))))))))))))
      have e0 : (xs : List (BitVec 64)) = orR a b := by rw [hs]; first | exact orTo_all (by omega) (fun i h1 h2 => orAt_left (by omega)) | (rw [orR_comm]; exact orTo_all (by omega) (fun i h1 h2 => orAt_left (by omega)))
      have l0 : a.length = (orR a b).length := by rw [← e0]; omega
      have ev_ := cg1 (fun (n_0 : Nat) => (.slice a0 n_0 c0 : Value)) l0
      exact ⟨a0, c0, ev_, H3.below, (congrArg (fun (n_ : Nat) => OwnsG _ _ _ (orR a b) (.slice a0 n_ c0) _) l0).mp ((congrArg (fun (x_ : List (BitVec 64)) => OwnsG _ _ _ x_ (.slice a0 a.length c0) _) e0).mp (H3.ownsG_out 0 rfl))⟩
set_option maxRecDepth 100000 in
set_option maxHeartbeats 1600000 in
theorem ref01_Bit {w : World} {i : Int} (h_i : I64 i) : Calls Try.prog 59 #[.int .i64 i] w (Ret fun v w' =>  v = U (bitB i) ∧ Ext w w') := by
  refine enter 17 Try.func59 rfl rfl rfl fun f0 ha => ?_
  have H := HI.start (M0 := (fun _ => False)) (w := w) (fun _ h => h.elim)
  have i0 : f0 0 = .int .i64 i := ha 0 (by simp)
  refine sq (rg (k (asg (v := U (0#64)) rfl rfl (z (nx (sq (sq (rg (k (mv rfl i0 (k (lss rfl rfl rfl rfl (k (mv (v := .bool (decide (i < 0))) rfl rfl ?_))))))))))))))
  rcases Bool.eq_false_or_eq_true (decide (i < 0)) with b0 | b0
  · -- decide (i < 0) is True
    have p0 := of_decide_eq_true b0
    refine k (gn rfl rfl rfl b0 (k (gn rfl rfl rfl b0 (k (pickT rfl rfl rfl rfl b0 rfl (z (nx (cdT rfl rfl rfl (sq (rg (k (asg (v := U (0#64)) rfl rfl (z (nx (rt (then_ret (r1 rfl rfl ?_)))))))))))))))))
    have e0 : (0#64 : BitVec 64) = bitB i := by first | exact (bitB_out (by omega)).symm | (rw [bitB_pow (by omega) (by omega), show i.toNat = j from by omega])
    have ev_ := cg1 (fun (x_0 : BitVec 64) => (U x_0 : Value)) e0
    exact ⟨ev_, H.below⟩
  · -- decide (i < 0) is False
    have p0 := of_decide_eq_false b0
    refine k (gy rfl rfl rfl b0 (mv rfl i0 (k (gy rfl rfl rfl b0 (gtr rfl rfl rfl rfl (k (pickF rfl rfl rfl rfl b0 rfl (z (nx ?_)))))))))
    refine cd (b := decide (63 < i)) rfl rfl (fun b1 => ?_) (fun b1 => ?_)
    ·
      have p1 := of_decide_eq_true b1
      refine sq (rg (k (asg (v := U (0#64)) rfl rfl (z (nx (rt (then_ret (r1 rfl rfl ?_))))))))
      have e0 : (0#64 : BitVec 64) = bitB i := by first | exact (bitB_out (by omega)).symm | (rw [bitB_pow (by omega) (by omega), show i.toNat = j from by omega])
      have ev_ := cg1 (fun (x_0 : BitVec 64) => (U x_0 : Value)) e0
      exact ⟨ev_, H.below⟩
    ·
      have p1 := of_decide_eq_false b1
      refine sk (nx (sq (rg (k (asg (v := U (1#64)) rfl rfl (z (nx (sq (bk ?_)))))))))
      refine lp (fun m f w' => ∃ (j : Nat), m = i.toNat - j ∧ f 0 = .int .i64 (i - (j : Int)) ∧ f 3 = U (1#64 <<< j) ∧  HI (fun _ => False) w w' [] ∧ (j ≤ i.toNat)) _ ⟨0, rfl, (ieq i0 (by omega)), (ueq rfl (by first | rfl | simp)), H, (by first | assumption | omega | simp | (simp; omega))⟩ ?_
      rintro _ f0 w0 ⟨j, rfl, s0, s1, H0, hj⟩
      refine sq (sq (rg (k (mv rfl s0 (k (gtr rfl rfl rfl rfl (z (nx ?_))))))))
      refine cd (b := decide (0 < (i - (j : Int)))) rfl rfl (fun b2 => ?_) (fun b2 => ?_)
      ·
        have p2 := of_decide_eq_true b2
        refine sk (nx (sq (bk (rg (k (mv rfl s1 (k (mulU (1#64 <<< j) (2#64) rfl rfl rfl rfl (k (asg (v := U ((1#64 <<< j) * (2#64))) rfl rfl (z (inb_normal (nx (rg (k (mv rfl s0 (k (sub rfl rfl rfl rfl (by unfold I64 at *; omega) (k (asg (v := .int .i64 ((i - (j : Int)) - 1)) rfl rfl (z ?_)))))))))))))))))))))
        refine loopN _ ?_ ⟨(j + 1), rfl, (ieq rfl (by omega)), (ueq rfl (by exact shl_step j)), H0, (by first | assumption | omega | simp | (simp; omega))⟩
        omega
      ·
        have p2 := of_decide_eq_false b2
        refine ex (then_exit (loop_exit (inb_here (nx (sq (rg (k (mv rfl s1 (k (asg (v := U (1#64 <<< j)) rfl rfl (z (nx (rt (r1 rfl rfl ?_))))))))))))))
        have e0 : ((1#64 <<< j) : BitVec 64) = bitB i := by first | exact (bitB_out (by omega)).symm | (rw [bitB_pow (by omega) (by omega), show i.toNat = j from by omega])
        have ev_ := cg1 (fun (x_0 : BitVec 64) => (U x_0 : Value)) e0
        exact ⟨ev_, H0.below⟩
set_option maxRecDepth 100000 in
set_option maxHeartbeats 1600000 in
theorem ref01_Has {w : World} {x : BitVec 64} {i : Int} (h_i : I64 i) : Calls Try.prog 57 #[U x, .int .i64 i] w (Ret fun v w' =>  v = .bool (hasW x i) ∧ Ext w w') := by
  refine enter 17 Try.func57 rfl rfl rfl fun f0 ha => ?_
  have H := HI.start (M0 := (fun _ => False)) (w := w) (fun _ h => h.elim)
  have i0 : f0 0 = U x := ha 0 (by simp)
  have i1 : f0 1 = .int .i64 i := ha 1 (by simp)
  refine sq (rg (k (asg (v := .bool false) rfl rfl (z (nx (sq (rg (k (mv rfl i1 (k ?_))))))))))
  have cc0 := ref01_Bit (i := i) (w := w) (by unfold I64 at *; omega)
  refine ca go59 rfl (ec rfl e0) cc0 ?_
  rintro _ w0 ⟨rfl, xt0⟩
  have H0 := H.ext xt0
  refine k (asg (v := U (bitB i)) rfl rfl (z (nx (sq (rg (k (mv (v := U (bitB i)) rfl rfl (k (neU (bitB i) (0#64) rfl rfl rfl rfl (k (mv (v := .bool (!decide ((bitB i) = (0#64)))) rfl rfl ?_)))))))))))
  rcases Bool.eq_false_or_eq_true (!decide ((bitB i) = (0#64))) with b0 | b0
  · -- !decide ((bitB i) = (0#64)) is True
    have p0 := of_decide_eq_false (nott b0)
    refine k (gy rfl rfl rfl b0 (mv rfl i0 (k (gy rfl rfl rfl b0 (mv (v := U (bitB i)) rfl rfl (k (gy rfl rfl rfl b0 (quoU x (bitB i) (by first | decide | simpa using b0) rfl rfl rfl rfl (k (gy rfl rfl rfl b0 (remU (x / (bitB i)) (2#64) (by first | decide | simpa using b0) rfl rfl rfl rfl (k (gy rfl rfl rfl b0 (eqU ((x / (bitB i)) % (2#64)) (1#64) rfl rfl rfl rfl (k (pickT rfl rfl rfl rfl b0 rfl (k (asg (v := .bool (decide (((x / (bitB i)) % (2#64)) = (1#64)))) rfl rfl (z (nx (rt (r1 rfl rfl ?_))))))))))))))))))))))
    have e0 : (decide (((x / (bitB i)) % (2#64)) = (1#64)) : Bool) = hasW x i := by first | exact hasW_quo (by simpa using b0) | exact hasW_zero (by simpa using b0)
    have ev_ := cg1 (fun (x_0 : Bool) => (.bool x_0 : Value)) e0
    exact ⟨ev_, H0.below⟩
  · -- !decide ((bitB i) = (0#64)) is False
    have p0 := of_decide_eq_true (notf b0)
    refine k (gn rfl rfl rfl b0 (k (gn rfl rfl rfl b0 (k (gn rfl rfl rfl b0 (k (gn rfl rfl rfl b0 (k (gn rfl rfl rfl b0 (k (pickF rfl rfl rfl rfl b0 rfl (k (asg (v := .bool false) rfl rfl (z (nx (rt (r1 rfl rfl ?_)))))))))))))))))
    have e0 : (false : Bool) = hasW x i := by first | exact hasW_quo (by simpa using b0) | exact hasW_zero (by simpa using b0)
    have ev_ := cg1 (fun (x_0 : Bool) => (.bool x_0 : Value)) e0
    exact ⟨ev_, H0.below⟩
set_option maxRecDepth 100000 in
set_option maxHeartbeats 1600000 in
theorem ref02_Has {M : Nat → Prop} {w : World} {a_r : Option Addr} {c_r : Nat} {r : List (BitVec 64)} {i : Int} (hM : ∀ b, M b → b < w.heap.size) (h_r : RV M w (.slice a_r r.length c_r) r) (h_i : I64 i) (hl_r : r.length ≤ 1000000000) : Calls Try.prog 37 #[.slice a_r r.length c_r, .int .i64 i] w (Ret fun v w' =>  v = .bool (hasR r i) ∧ Ext w w') := by
  refine enter 24 Try.func37 rfl rfl rfl fun f0 ha => ?_
  have H := HI.start (M0 := M) (w := w) hM
  have H0 := H.put (it := imm (.slice a_r r.length c_r) r) rfl (by rw [MS_nil]; exact h_r)
  have ln_r := rv_len h_r
  have i0 : f0 0 = .slice a_r r.length c_r := ha 0 (by simp)
  have i1 : f0 1 = .int .i64 i := ha 1 (by simp)
  refine sq (rg (k (asg (v := .bool false) rfl rfl (z (nx (sq (rg (k (mv rfl i1 (k (geq rfl rfl rfl rfl (k (mv (v := .bool (decide (0 ≤ i))) rfl rfl ?_)))))))))))))
  rcases Bool.eq_false_or_eq_true (decide (0 ≤ i)) with b0 | b0
  · -- decide (0 ≤ i) is True
    have p0 := of_decide_eq_true b0
    refine k (gy rfl rfl rfl b0 (mv rfl i1 (k (gy rfl rfl rfl b0 (mv rfl i0 (k (gy rfl rfl rfl b0 (lnS rfl rfl un60 (k (gy rfl rfl rfl b0 (mul rfl rfl rfl rfl (by unfold I64 at *; omega) (k (gy rfl rfl rfl b0 (lss rfl rfl rfl rfl (k (pickT rfl rfl rfl rfl b0 rfl (k (mv (v := .bool (decide (i < (64 * (r.length : Int))))) rfl rfl ?_))))))))))))))))))
    rcases Bool.eq_false_or_eq_true (decide (i < (64 * (r.length : Int)))) with b1 | b1
    · -- decide (i < (64 * (r.length : Int))) is True
      have p1 := of_decide_eq_true b1
      refine k (gy rfl rfl rfl b1 (mv rfl i0 (k (gy rfl rfl rfl b1 (mv rfl i1 (k (gy rfl rfl rfl b1 (quo rfl rfl rfl rfl (by first | omega | (simp; omega)) (k (gy rfl rfl rfl b1 (ia (H0.rv 0 rfl) rfl rfl rfl rfl (by first | omega | (simp; omega)) un60 ty74 ?_)))))))))))
      intro ad0 x0 hx0 hA0
      refine k (gy rfl rfl rfl b1 (ldU hA0.w ty74 rfl rfl (k (gy rfl rfl rfl b1 (mv rfl i1 (k (gy rfl rfl rfl b1 (rem rfl rfl rfl rfl (by first | omega | (simp; omega)) (k (gy rfl rfl rfl b1 ?_))))))))))
      have cc0 := ref01_Has (x := x0) (i := (i % 64)) (w := w) (by unfold I64 at *; omega)
      refine ca go57 rfl (ec rfl (ec rfl e0)) cc0 ?_
      rintro _ w0 ⟨rfl, xt0⟩
      have H1 := H0.ext xt0
      refine k (pickT rfl rfl rfl rfl b1 rfl (k (asg (v := .bool (hasW x0 (i % 64))) rfl rfl (z (nx (rt (r1 rfl rfl ?_)))))))
      have e0 : (hasW x0 (i % 64) : Bool) = hasR r i := by first | exact hasR_of (by omega) (by omega) hx0 | exact hasR_no (by omega)
      have ev_ := cg1 (fun (x_0 : Bool) => (.bool x_0 : Value)) e0
      exact ⟨ev_, H1.below⟩
    · -- decide (i < (64 * (r.length : Int))) is False
      have p1 := of_decide_eq_false b1
      refine k (gn rfl rfl rfl b1 (k (gn rfl rfl rfl b1 (k (gn rfl rfl rfl b1 (k (gn rfl rfl rfl b1 (k (gn rfl rfl rfl b1 (k (gn rfl rfl rfl b1 (k (gn rfl rfl rfl b1 (k (gn rfl rfl rfl b1 (k (pickF rfl rfl rfl rfl b1 rfl (k (asg (v := .bool false) rfl rfl (z (nx (rt (r1 rfl rfl ?_)))))))))))))))))))))))
      have e0 : (false : Bool) = hasR r i := by first | exact hasR_of (by omega) (by omega) hx0 | exact hasR_no (by omega)
      have ev_ := cg1 (fun (x_0 : Bool) => (.bool x_0 : Value)) e0
      exact ⟨ev_, H0.below⟩
  · -- decide (0 ≤ i) is False
    have p0 := of_decide_eq_false b0
    refine k (gn rfl rfl rfl b0 (k (gn rfl rfl rfl b0 (k (gn rfl rfl rfl b0 (k (gn rfl rfl rfl b0 (k (gn rfl rfl rfl b0 (k (pickF rfl rfl rfl rfl b0 rfl (k (mv (v := .bool false) rfl rfl (k (gn rfl rfl rfl rfl (k (gn rfl rfl rfl rfl (k (gn rfl rfl rfl rfl (k (gn rfl rfl rfl rfl (k (gn rfl rfl rfl rfl (k (gn rfl rfl rfl rfl (k (gn rfl rfl rfl rfl (k (gn rfl rfl rfl rfl (k (pickF rfl rfl rfl rfl rfl rfl (k (asg (v := .bool false) rfl rfl (z (nx (rt (r1 rfl rfl ?_)))))))))))))))))))))))))))))))))))))
    have e0 : (false : Bool) = hasR r i := by first | exact hasR_of (by omega) (by omega) hx0 | exact hasR_no (by omega)
    have ev_ := cg1 (fun (x_0 : Bool) => (.bool x_0 : Value)) e0
    exact ⟨ev_, H0.below⟩
end Go.Proofs.Ytmhopljngkgidaa
namespace Go.Proofs.Ytmhopljngkgidaa
open Go.Ew Go.RowKit
set_option linter.unusedVariables false
set_option linter.unusedSimpArgs false
attribute [local irreducible] WL WC SO Code.wp wpList retQ Ret
attribute [local irreducible] bitB hasW inR hasR setR countW countR subR words newR listR orR firstW tab8
theorem ty35 : TyF Try.prog 35 2 true 32 (.agg #[.int .i64 0, .slice none 0 0]) := ⟨by kernel_rfl, by kernel_rfl⟩
theorem ty60 : TyF Try.prog 60 1 false 24 (.slice none 0 0) := ⟨by kernel_rfl, by kernel_rfl⟩
theorem un33 : Try.prog.underlying 33 = some (.slice 60) := by kernel_rfl
theorem go47 : GoF Try.prog 47 := ⟨_, _, Try.func47, rfl, by kernel_rfl⟩
set_option maxRecDepth 100000 in
set_option maxHeartbeats 1600000 in
theorem mat_New {M : Nat → Prop} {w : World} {n : Int} (hM : ∀ b, M b → b < w.heap.size) (h_n : I64 n) : Calls Try.prog 29 #[.int .i64 n] w (Ret fun v w' => ∃ (a0 : Option Addr) (c0 : Nat), v = .tuple #[.agg #[.int .i64 (newMN n), .slice a0 (newMR n).length c0], .int .i64 (newME n)] ∧ Ext w w' ∧ OwnsG M 60 w (newMR n) (.slice a0 (newMR n).length c0) w') := by
  refine enter 29 Try.func29 rfl rfl rfl fun f0 ha => ?_
  have H := HI.start (M0 := M) (w := w) hM
  have i0 : f0 0 = .int .i64 n := ha 0 (by simp)
  refine sq (rg (k (al H ty35 ?_)))
  intro bb0 w0 xt0 (H0 : HI M w w0 [box bb0 #[.int .i64 0, .slice none 0 0] 35])
  refine k (asg (v := .int .i64 0) rfl rfl (z (nx (sq (sq (rg (k (mv rfl i0 (k (lss rfl rfl rfl rfl (k (mv (v := .bool (decide (n < 0))) rfl rfl ?_))))))))))))
  rcases Bool.eq_false_or_eq_true (decide (n < 0)) with b0 | b0
  · -- decide (n < 0) is True
    have p0 := of_decide_eq_true b0
    refine k (gn rfl rfl rfl b0 (k (gn rfl rfl rfl b0 (k (pickT rfl rfl rfl rfl b0 rfl (z (nx (cdT rfl rfl rfl (sq (rg (k (bd (v := .agg #[.int .i64 0, .slice none 0 0]) rfl pb0 (fun _ => by kernel_rfl) (k (stX H0 0 rfl ty35 rfl rfl rfl rfl rfl rfl rfl ?_))))))))))))))
    intro w1 (H1 : HI M w w1 [box bb0 #[.int .i64 0, .slice none 0 0] 35])
    refine k (asg (v := .int .i64 1) rfl rfl (z (nx (rt (then_ret (rc2 H1 0 rfl ty35 rfl rfl rfl rfl rfl (by decide) ?_))))))
    have e0 : (0 : Int) = newMN n := by first | exact (newM_no (okN_no.2 (by omega))).1.symm | exact (newM_yes (okN_iff.2 (by omega))).1.symm
    have e1 : ([] : List (List (BitVec 64))) = newMR n := by first | exact (newM_no (okN_no.2 (by omega))).2.1.symm | (rw [(newM_yes (okN_iff.2 (by omega))).2.1, hs]; exact fillTo_end (by omega))
    have e2 : (1 : Int) = newME n := by first | exact (newM_no (okN_no.2 (by omega))).2.2.symm | exact (newM_yes (okN_iff.2 (by omega))).2.2.symm
    have ev_ := cg3 (fun (x_0 : Int) (x_1 : List (List (BitVec 64))) (x_2 : Int) => (.tuple #[.agg #[.int .i64 x_0, .slice none x_1.length 0], .int .i64 x_2] : Value)) e0 e1 e2
    exact ⟨none, 0, ev_, H1.below, (congrArg (fun (x_ : List (List (BitVec 64))) => OwnsG _ _ _ x_ (.slice none x_.length 0) _) e1).mp (ownsG_nil H1.below)⟩
  · -- decide (n < 0) is False
    have p0 := of_decide_eq_false b0
    refine k (gy rfl rfl rfl b0 (mv rfl i0 (k (gy rfl rfl rfl b0 (gtr rfl rfl rfl rfl (k (pickF rfl rfl rfl rfl b0 rfl (z (nx ?_)))))))))
    refine cd (b := decide (4096 < n)) rfl rfl (fun b1 => ?_) (fun b1 => ?_)
    ·
      have p1 := of_decide_eq_true b1
      refine sq (rg (k (bd (v := .agg #[.int .i64 0, .slice none 0 0]) rfl pb0 (fun _ => by kernel_rfl) (k (stX H0 0 rfl ty35 rfl rfl rfl rfl rfl rfl rfl ?_)))))
      intro w1 (H1 : HI M w w1 [box bb0 #[.int .i64 0, .slice none 0 0] 35])
      refine k (asg (v := .int .i64 1) rfl rfl (z (nx (rt (then_ret (rc2 H1 0 rfl ty35 rfl rfl rfl rfl rfl (by decide) ?_))))))
      have e0 : (0 : Int) = newMN n := by first | exact (newM_no (okN_no.2 (by omega))).1.symm | exact (newM_yes (okN_iff.2 (by omega))).1.symm
      have e1 : ([] : List (List (BitVec 64))) = newMR n := by first | exact (newM_no (okN_no.2 (by omega))).2.1.symm | (rw [(newM_yes (okN_iff.2 (by omega))).2.1, hs]; exact fillTo_end (by omega))
      have e2 : (1 : Int) = newME n := by first | exact (newM_no (okN_no.2 (by omega))).2.2.symm | exact (newM_yes (okN_iff.2 (by omega))).2.2.symm
      have ev_ := cg3 (fun (x_0 : Int) (x_1 : List (List (BitVec 64))) (x_2 : Int) => (.tuple #[.agg #[.int .i64 x_0, .slice none x_1.length 0], .int .i64 x_2] : Value)) e0 e1 e2
      exact ⟨none, 0, ev_, H1.below, (congrArg (fun (x_ : List (List (BitVec 64))) => OwnsG _ _ _ x_ (.slice none x_.length 0) _) e1).mp (ownsG_nil H1.below)⟩
    ·
      have p1 := of_decide_eq_false b1
      refine sk (nx (sq (rg (k (mv rfl i0 (k ?_))))))
      have n0 : ((n.toNat : Nat) : Int) = n := Int.toNat_of_nonneg (by omega)
      refine mk (m := n.toNat) (zx := ([] : (List (BitVec 64)))) H0 rfl rfl (by rw [n0]; exact rfl) (by rw [n0]; exact rfl) un33 ty60 (fun _ _ => ⟨_, rfl, rs_nil _ _⟩) (by first | omega | (simp; omega)) (by first | omega | (simp; omega)) ?_
      intro g0 w1 xt1 (H1 : HI M w w1 [own w.heap.size 60 (.slice (some ⟨g0, 0, none⟩) n.toNat n.toNat) (List.replicate n.toNat ([] : (List (BitVec 64)))), box bb0 #[.int .i64 0, .slice none 0 0] 35])
      refine k (asg (v := .slice (some ⟨g0, 0, none⟩) n.toNat n.toNat) rfl rfl (z (nx (sq (sq (rg (k (mv (v := .slice (some ⟨g0, 0, none⟩) n.toNat n.toNat) rfl rfl (k (lnS rfl rfl un33 (k (mv (v := .int .i64 0) rfl rfl (z (nx (bk ?_)))))))))))))))
      refine lp (fun m f w' => ∃ (j : Nat) (xs : List (List (BitVec 64))), m = n.toNat - j ∧ f 0 = .int .i64 n ∧ f 2 = .pointer (some ⟨bb0, 0, none⟩) ∧ f 4 = .slice (some ⟨g0, 0, none⟩) n.toNat n.toNat ∧ f 16 = .int .i64 (n.toNat : Int) ∧ f 17 = .int .i64 (j : Int) ∧  HI M w w' [own w.heap.size 60 (.slice (some ⟨g0, 0, none⟩) n.toNat n.toNat) xs, box bb0 #[.int .i64 0, .slice none 0 0] 35] ∧ (j ≤ n.toNat) ∧ (xs.length = n.toNat) ∧ (xs = fillTo n.toNat j (newR n) [])) _ ⟨0, (List.replicate n.toNat ([] : (List (BitVec 64)))), rfl, i0, rfl, rfl, rfl, (ieq rfl (by first | rfl | omega | simp)), H1, (by first | assumption | omega | simp | (simp; omega)), (by simp), (by exact fillTo_zero _ _ _)⟩ ?_
      rintro _ f0 w2 ⟨j, xs, rfl, s0, s1, s2, s3, s4, H2, hk, hl, hs⟩
      refine sq (rg (k (lss rfl rfl s4 s3 (z (nx (sq ?_))))))
      refine cd (b := decide ((j : Int) < (n.toNat : Int))) rfl rfl (fun b2 => ?_) (fun b2 => ?_)
      ·
        have p2 := of_decide_eq_true b2
        refine sk (nx (sq (bk (sq (rg (k (mv rfl s4 (k (asg (v := .int .i64 (j : Int)) rfl rfl (z (nx (rg (k (mv rfl s2 (k (mv (v := .int .i64 (j : Int)) rfl rfl (k (mv rfl s0 (k ?_)))))))))))))))))))
        have cc0 := row_New (n := n) (w := w2) H2.mb (by unfold I64 at *; omega) (by first | omega | (simp; omega))
        refine ca go47 rfl (ec rfl e0) cc0 ?_
        rintro _ w3 ⟨a0, c0, rfl, xt2, rv0⟩
        have H3 := H2.ownsG rv0
        refine k (iaO (H3.at_ 1 rfl) rfl rfl rfl rfl (by first | omega | (simp; omega)) un33 ty60 ?_)
        intro g1 x0 hv0 hx0 hA0
        refine k ?_
        have H4 := H3.freeze 0 rfl
        refine stO H4 1 rfl hv0 rfl (by first | omega | (simp; omega)) ty60 rfl rfl rfl rfl (H4.rv 0 rfl) ?_
        intro w4 (H5 : HI M w w4 [imm (.slice a0 (newR n).length c0) (newR n), own w.heap.size 60 (.slice (some ⟨g0, 0, none⟩) n.toNat n.toNat) (xs.set ((j : Int).toNat) (newR n)), box bb0 #[.int .i64 0, .slice none 0 0] 35])
        refine z (inb_normal (nx (rg (k (add rfl rfl s4 rfl (by unfold I64 at *; omega) (k (mv (v := .int .i64 ((j : Int) + 1)) rfl rfl (z ?_))))))))
        have H6 : HI M w w4 [own w.heap.size 60 (.slice (some ⟨g0, 0, none⟩) n.toNat n.toNat) (xs.set ((j : Int).toNat) (newR n)), box bb0 #[.int .i64 0, .slice none 0 0] 35] := H5.pickN [1, 2] (by decide) rfl
        refine loopN _ ?_ ⟨(j + 1), (xs.set ((j : Int).toNat) (newR n)), rfl, s0, s1, s2, s3, (ieq rfl (by first | rfl | omega | (push_cast; omega))), H6, (by first | assumption | omega | simp | (simp; omega)), (by simpa using hl), (by rw [hs]; exact fillTo_set (by omega))⟩
        omega
      ·
        have p2 := of_decide_eq_false b2
        refine ex (then_exit (loop_exit (inb_here (nx (sq (rg (k (mv rfl s0 (k (mv rfl s2 (k (bd (v := .agg #[.int .i64 n, .slice (some ⟨g0, 0, none⟩) n.toNat n.toNat]) rfl (pbc rfl (pbc rfl pb0)) (fun _ => by kernel_rfl) (k (stX H2 1 rfl ty35 rfl rfl s1 rfl rfl rfl rfl ?_))))))))))))))
        intro w3 (H3 : HI M w w3 [own w.heap.size 60 (.slice (some ⟨g0, 0, none⟩) n.toNat n.toNat) xs, box bb0 #[.int .i64 n, .slice (some ⟨g0, 0, none⟩) n.toNat n.toNat] 35])
        refine k (asg (v := .int .i64 0) rfl rfl (z (nx (rt (rc2 H3 1 rfl ty35 rfl rfl rfl s1 rfl (by decide) ?_)))))
        have e0 : (n : Int) = newMN n := by first | exact (newM_no (okN_no.2 (by omega))).1.symm | exact (newM_yes (okN_iff.2 (by omega))).1.symm
        have e1 : (xs : List (List (BitVec 64))) = newMR n := by first | exact (newM_no (okN_no.2 (by omega))).2.1.symm | (rw [(newM_yes (okN_iff.2 (by omega))).2.1, hs]; exact fillTo_end (by omega))
        have l1 : n.toNat = (newMR n).length := by first | rfl | (rw [← e1]; omega) | (rw [← e1]; simp) | simp
        have e2 : (0 : Int) = newME n := by first | exact (newM_no (okN_no.2 (by omega))).2.2.symm | exact (newM_yes (okN_iff.2 (by omega))).2.2.symm
        have ev_ := cg3 (fun (x_0 : Int) (n_1 : Nat) (x_2 : Int) => (.tuple #[.agg #[.int .i64 x_0, .slice (some ⟨g0, 0, none⟩) n_1 n.toNat], .int .i64 x_2] : Value)) e0 l1 e2
        exact ⟨(some ⟨g0, 0, none⟩), n.toNat, ev_, H3.below, (congrArg (fun (n_ : Nat) => OwnsG _ _ _ (newMR n) (.slice (some ⟨g0, 0, none⟩) n_ n.toNat) _) l1).mp ((congrArg (fun (x_ : List (List (BitVec 64))) => OwnsG _ _ _ x_ (.slice (some ⟨g0, 0, none⟩) n.toNat n.toNat) _) e1).mp (H3.ownsG_out 0 rfl))⟩
end Go.Proofs.Ytmhopljngkgidaa
namespace Go.Proofs.Ytmhopljngkgidaa
open Go.Ew Go.RowKit
set_option linter.unusedVariables false
set_option linter.unusedSimpArgs false
attribute [local irreducible] WL WC SO Code.wp wpList retQ Ret
attribute [local irreducible] bitB hasW inR hasR setR countW countR subR words newR listR orR firstW tab8
theorem fl35_0 : FldF Try.prog 35 0 0 := ⟨_, _, Try.underlying35, rfl, rfl, by kernel_rfl⟩
theorem fl35_1 : FldF Try.prog 35 1 1 := ⟨_, _, Try.underlying35, rfl, rfl, by kernel_rfl⟩
theorem ty33 : TyF Try.prog 33 1 false 24 (.slice none 0 0) := ⟨by kernel_rfl, by kernel_rfl⟩
theorem go52 : GoF Try.prog 52 := ⟨_, _, Try.func52, rfl, by kernel_rfl⟩
set_option maxRecDepth 100000 in
set_option maxHeartbeats 1600000 in
theorem mat_Or {M : Nat → Prop} {w : World} {an : Int} {a_ar : Option Addr} {c_ar : Nat} {ar : List (List (BitVec 64))} {bn : Int} {a_br : Option Addr} {c_br : Nat} {br : List (List (BitVec 64))} (hM : ∀ b, M b → b < w.heap.size) (h_an : I64 an) (h_ar : RV M w (.slice a_ar ar.length c_ar) ar) (h_bn : I64 bn) (h_br : RV M w (.slice a_br br.length c_br) br) (hsq_a : ((ar.length : Nat) : Int) = an) (hrw_a : ∀ x ∈ ar, x.length ≤ 1000000000) (hl4_a : an ≤ 4096) (hsq_b : ((br.length : Nat) : Int) = bn) (hrw_b : ∀ x ∈ br, x.length ≤ 1000000000) (hl4_b : bn ≤ 4096) : Calls Try.prog 32 #[.agg #[.int .i64 an, .slice a_ar ar.length c_ar], .agg #[.int .i64 bn, .slice a_br br.length c_br]] w (Ret fun v w' => ∃ (a0 : Option Addr) (c0 : Nat), v = .tuple #[.agg #[.int .i64 (orMN an bn), .slice a0 (orMR an ar bn br).length c0], .int .i64 (orME an bn)] ∧ Ext w w' ∧ OwnsG M 60 w (orMR an ar bn br) (.slice a0 (orMR an ar bn br).length c0) w') := by
  refine enter 41 Try.func32 rfl rfl rfl fun f0 ha => ?_
  have H := HI.start (M0 := M) (w := w) hM
  have H0 := H.put (it := imm (.slice a_ar ar.length c_ar) ar) rfl (by rw [MS_nil]; exact h_ar)
  have H1 := H0.put (it := imm (.slice a_br br.length c_br) br) rfl (by rw [MS_cons_none rfl, MS_nil]; exact h_br)
  have ln_ar := rv_len h_ar
  have ln_br := rv_len h_br
  have i0 : f0 0 = .agg #[.int .i64 an, .slice a_ar ar.length c_ar] := ha 0 (by simp)
  have i1 : f0 1 = .agg #[.int .i64 bn, .slice a_br br.length c_br] := ha 1 (by simp)
  refine sq (rg (k (bx H1 rfl i0 ?_)))
  intro bb0 w0 xt0 (H2 : HI M w w0 [box bb0 #[.int .i64 an, .slice a_ar ar.length c_ar] 35, imm (.slice a_br br.length c_br) br, imm (.slice a_ar ar.length c_ar) ar])
  refine k (bx H2 rfl i1 ?_)
  intro bb1 w1 xt1 (H3 : HI M w w1 [box bb1 #[.int .i64 bn, .slice a_br br.length c_br] 35, box bb0 #[.int .i64 an, .slice a_ar ar.length c_ar] 35, imm (.slice a_br br.length c_br) br, imm (.slice a_ar ar.length c_ar) ar])
  refine k (al H3 ty35 ?_)
  intro bb2 w2 xt2 (H4 : HI M w w2 [box bb2 #[.int .i64 0, .slice none 0 0] 35, box bb1 #[.int .i64 bn, .slice a_br br.length c_br] 35, box bb0 #[.int .i64 an, .slice a_ar ar.length c_ar] 35, imm (.slice a_br br.length c_br) br, imm (.slice a_ar ar.length c_ar) ar])
  refine k (asg (v := .int .i64 0) rfl rfl (z (nx (sq (sq (rg (k (fa fl35_0 rfl rfl (k (ldX H4 2 rfl ty3 rfl rfl (by decide) rfl (k (fa fl35_0 rfl rfl (k (ldX H4 1 rfl ty3 rfl rfl (by decide) rfl (k (neq rfl rfl rfl rfl (z (nx ?_))))))))))))))))))
  refine cd (b := !decide (an = bn)) rfl rfl (fun b0 => ?_) (fun b0 => ?_)
  ·
    have p0 := of_decide_eq_false (nott b0)
    refine sq (rg (k (bd (v := .agg #[.int .i64 0, .slice none 0 0]) rfl pb0 (fun _ => by kernel_rfl) (k (stX H4 0 rfl ty35 rfl rfl rfl rfl rfl rfl rfl ?_)))))
    intro w3 (H5 : HI M w w3 [box bb2 #[.int .i64 0, .slice none 0 0] 35, box bb1 #[.int .i64 bn, .slice a_br br.length c_br] 35, box bb0 #[.int .i64 an, .slice a_ar ar.length c_ar] 35, imm (.slice a_br br.length c_br) br, imm (.slice a_ar ar.length c_ar) ar])
    refine k (asg (v := .int .i64 1) rfl rfl (z (nx (rt (then_ret (rc2 H5 0 rfl ty35 rfl rfl rfl rfl rfl (by decide) ?_))))))
    have e0 : (0 : Int) = orMN an bn := by first | exact (orM_no (ar := ar) (br := br) p0).1.symm | exact (orM_yes (ar := ar) (br := br) p0).1.symm
    have e1 : ([] : List (List (BitVec 64))) = orMR an ar bn br := by first | exact (orM_no p0).2.1.symm | (rw [(orM_yes p0).2.1, hs]; exact orFill_end (by omega) hk)
    have e2 : (1 : Int) = orME an bn := by first | exact (orM_no (ar := ar) (br := br) p0).2.2.symm | exact (orM_yes (ar := ar) (br := br) p0).2.2.symm
    have ev_ := cg3 (fun (x_0 : Int) (x_1 : List (List (BitVec 64))) (x_2 : Int) => (.tuple #[.agg #[.int .i64 x_0, .slice none x_1.length 0], .int .i64 x_2] : Value)) e0 e1 e2
    exact ⟨none, 0, ev_, H5.below, (congrArg (fun (x_ : List (List (BitVec 64))) => OwnsG _ _ _ x_ (.slice none x_.length 0) _) e1).mp (ownsG_nil H5.below)⟩
  ·
    have p0 := of_decide_eq_true (notf b0)
    refine sk (nx (sq (rg (k (fa fl35_0 rfl rfl (k (ldX H4 2 rfl ty3 rfl rfl (by decide) rfl (k ?_))))))))
    have n0 : ((an.toNat : Nat) : Int) = an := Int.toNat_of_nonneg (by omega)
    refine mk (m := an.toNat) (zx := ([] : (List (BitVec 64)))) H4 rfl rfl (by rw [n0]; exact rfl) (by rw [n0]; exact rfl) un33 ty60 (fun _ _ => ⟨_, rfl, rs_nil _ _⟩) (by omega) (by omega) ?_
    intro g0 w3 xt3 (H5 : HI M w w3 [own w.heap.size 60 (.slice (some ⟨g0, 0, none⟩) an.toNat an.toNat) (List.replicate an.toNat ([] : (List (BitVec 64)))), box bb2 #[.int .i64 0, .slice none 0 0] 35, box bb1 #[.int .i64 bn, .slice a_br br.length c_br] 35, box bb0 #[.int .i64 an, .slice a_ar ar.length c_ar] 35, imm (.slice a_br br.length c_br) br, imm (.slice a_ar ar.length c_ar) ar])
    refine k (asg (v := .slice (some ⟨g0, 0, none⟩) an.toNat an.toNat) rfl rfl (z (nx (sq (sq (rg (k (mv (v := .slice (some ⟨g0, 0, none⟩) an.toNat an.toNat) rfl rfl (k (lnS rfl rfl un33 (k (mv (v := .int .i64 0) rfl rfl (z (nx (bk ?_)))))))))))))))
    refine lp (fun m f w' => ∃ (j : Nat) (xs : List (List (BitVec 64))), m = an.toNat - j ∧ f 2 = .pointer (some ⟨bb0, 0, none⟩) ∧ f 3 = .pointer (some ⟨bb1, 0, none⟩) ∧ f 4 = .pointer (some ⟨bb2, 0, none⟩) ∧ f 6 = .slice (some ⟨g0, 0, none⟩) an.toNat an.toNat ∧ f 18 = .int .i64 (an.toNat : Int) ∧ f 19 = .int .i64 (j : Int) ∧  HI M w w' [own w.heap.size 60 (.slice (some ⟨g0, 0, none⟩) an.toNat an.toNat) xs, box bb2 #[.int .i64 0, .slice none 0 0] 35, box bb1 #[.int .i64 bn, .slice a_br br.length c_br] 35, box bb0 #[.int .i64 an, .slice a_ar ar.length c_ar] 35, imm (.slice a_br br.length c_br) br, imm (.slice a_ar ar.length c_ar) ar] ∧ (j ≤ an.toNat) ∧ (xs.length = an.toNat) ∧ (xs = orFill ar br an.toNat j)) _ ⟨0, (List.replicate an.toNat ([] : (List (BitVec 64)))), rfl, rfl, rfl, rfl, rfl, rfl, (ieq rfl (by first | rfl | omega | simp)), H5, (by first | assumption | omega | simp | (simp; omega)), (by simp), (by exact orFill_zero _ _ _)⟩ ?_
    rintro _ f0 w4 ⟨j, xs, rfl, s0, s1, s2, s3, s4, s5, H6, hk, hl, hs⟩
    refine sq (rg (k (lss rfl rfl s5 s4 (z (nx (sq ?_))))))
    refine cd (b := decide ((j : Int) < (an.toNat : Int))) rfl rfl (fun b1 => ?_) (fun b1 => ?_)
    ·
      have p1 := of_decide_eq_true b1
      refine sk (nx (sq (bk (sq (rg (k (mv rfl s5 (k (asg (v := .int .i64 (j : Int)) rfl rfl (z (nx ?_)))))))))))
      obtain ⟨x0, hx0⟩ : ∃ x, ar[(j : Int).toNat]? = some x := ⟨_, List.getElem?_eq_getElem (by first | omega | (simp; omega))⟩
      obtain ⟨x1, hx1⟩ : ∃ x, br[(j : Int).toNat]? = some x := ⟨_, List.getElem?_eq_getElem (by first | omega | (simp; omega))⟩
      refine dr 13 [fun (v : Value) (w' : World) => v = .slice (some ⟨g0, 0, none⟩) an.toNat an.toNat, fun (v : Value) (w' : World) => v = .int .i64 (j : Int), fun (v : Value) (w' : World) => v = .pointer (some ⟨bb0, 1, none⟩), fun (v : Value) (w' : World) => v = .slice a_ar ar.length c_ar, fun (v : Value) (w' : World) => v = .int .i64 (j : Int), fun (v : Value) (w' : World) => ∃ (ad0 : Addr), v = .pointer (some ad0) ∧ At (MS M [own w.heap.size 60 (.slice (some ⟨g0, 0, none⟩) an.toNat an.toNat) xs, box bb2 #[.int .i64 0, .slice none 0 0] 35, box bb1 #[.int .i64 bn, .slice a_br br.length c_br] 35, box bb0 #[.int .i64 an, .slice a_ar ar.length c_ar] 35, imm (.slice a_br br.length c_br) br, imm (.slice a_ar ar.length c_ar) ar]) w' ad0 x0, fun (v : Value) (w' : World) => ∃ (a0 : Option Addr) (c0 : Nat), v = .slice a0 x0.length c0 ∧ RV (MS M [own w.heap.size 60 (.slice (some ⟨g0, 0, none⟩) an.toNat an.toNat) xs, box bb2 #[.int .i64 0, .slice none 0 0] 35, box bb1 #[.int .i64 bn, .slice a_br br.length c_br] 35, box bb0 #[.int .i64 an, .slice a_ar ar.length c_ar] 35, imm (.slice a_br br.length c_br) br, imm (.slice a_ar ar.length c_ar) ar]) w' (.slice a0 x0.length c0) x0, fun (v : Value) (w' : World) => v = .pointer (some ⟨bb1, 1, none⟩), fun (v : Value) (w' : World) => v = .slice a_br br.length c_br, fun (v : Value) (w' : World) => v = .int .i64 (j : Int), fun (v : Value) (w' : World) => ∃ (ad1 : Addr), v = .pointer (some ad1) ∧ At (MS M [own w.heap.size 60 (.slice (some ⟨g0, 0, none⟩) an.toNat an.toNat) xs, box bb2 #[.int .i64 0, .slice none 0 0] 35, box bb1 #[.int .i64 bn, .slice a_br br.length c_br] 35, box bb0 #[.int .i64 an, .slice a_ar ar.length c_ar] 35, imm (.slice a_br br.length c_br) br, imm (.slice a_ar ar.length c_ar) ar]) w' ad1 x1, fun (v : Value) (w' : World) => ∃ (a1 : Option Addr) (c1 : Nat), v = .slice a1 x1.length c1 ∧ RV (MS M [own w.heap.size 60 (.slice (some ⟨g0, 0, none⟩) an.toNat an.toNat) xs, box bb2 #[.int .i64 0, .slice none 0 0] 35, box bb1 #[.int .i64 bn, .slice a_br br.length c_br] 35, box bb0 #[.int .i64 an, .slice a_ar ar.length c_ar] 35, imm (.slice a_br br.length c_br) br, imm (.slice a_ar ar.length c_ar) ar]) w' (.slice a1 x1.length c1) x1, fun (v : Value) (w' : World) => ∃ (a2 : Option Addr) (c2 : Nat), v = .slice a2 (orR x0 x1).length c2 ∧ RV (MS M [own w.heap.size 60 (.slice (some ⟨g0, 0, none⟩) an.toNat an.toNat) xs, box bb2 #[.int .i64 0, .slice none 0 0] 35, box bb1 #[.int .i64 bn, .slice a_br br.length c_br] 35, box bb0 #[.int .i64 an, .slice a_ar ar.length c_ar] 35, imm (.slice a_br br.length c_br) br, imm (.slice a_ar ar.length c_ar) ar]) w' (.slice a2 (orR x0 x1).length c2) (orR x0 x1)] rfl (by kernel_rfl) ?_ ?_
      ·
        refine ⟨fun _ => ⟨fun f1 w6 hf0 xt5 hp0 => ?_, fun _ _ _ _ h => h⟩, ?_⟩
        ·
          have H11 := H6.ext xt5
          refine mv rfl ((hf0 6 rfl).trans s3) ?_
          exact ⟨_, rfl, Ext.refl _, rfl⟩
        refine ⟨fun _ => ⟨fun f2 w7 hf1 xt6 hp1 => ?_, fun _ _ _ _ h => h⟩, ?_⟩
        ·
          have H12 := H6.ext xt6
          refine mv rfl (hf1 7 rfl) ?_
          exact ⟨_, rfl, Ext.refl _, rfl⟩
        refine ⟨fun _ => ⟨fun f3 w8 hf2 xt7 hp2 => ?_, fun _ _ _ _ h => h⟩, ?_⟩
        ·
          have H13 := H6.ext xt7
          refine fa fl35_1 rfl ((hf2 2 rfl).trans s0) ?_
          exact ⟨_, rfl, Ext.refl _, rfl⟩
        refine ⟨fun _ => ⟨fun f4 w9 hf3 xt8 hp3 => ?_, fun _ _ _ _ h => h⟩, ?_⟩
        ·
          have H14 := H6.ext xt8
          have s6 : f4 24 = .pointer (some ⟨bb0, 1, none⟩) := hp3 2 rfl rfl
          refine ldX H14 3 rfl ty33 rfl s6 (by decide) rfl ?_
          exact ⟨_, rfl, Ext.refl _, rfl⟩
        refine ⟨fun _ => ⟨fun f5 w10 hf4 xt9 hp4 => ?_, fun _ _ _ _ h => h⟩, ?_⟩
        ·
          have H15 := H6.ext xt9
          refine mv rfl (hf4 7 rfl) ?_
          exact ⟨_, rfl, Ext.refl _, rfl⟩
        refine ⟨fun _ => ⟨fun f6 w11 hf5 xt10 hp5 => ?_, by rintro _ _ _ x_ ⟨ad0, e_, hA0⟩; exact ⟨ad0, e_, hA0.lift (Up.ext x_)⟩⟩, ?_⟩
        ·
          have H16 := H6.ext xt10
          have s7 : f6 25 = .slice a_ar ar.length c_ar := hp5 3 rfl rfl
          have s8 : f6 26 = .int .i64 (j : Int) := hp5 4 rfl rfl
          refine ia (H16.rv 5 rfl) rfl rfl s7 s8 (by first | omega | (simp; omega)) un33 ty60 ?_
          intro ad2 x2 hx2 hA2
          obtain rfl : x0 = x2 := Option.some.inj (hx0.symm.trans hx2)
          exact ⟨_, rfl, Ext.refl _, ⟨ad2, rfl, hA2⟩⟩
        refine ⟨fun _ => ⟨fun f7 w12 hf6 xt11 hp6 => ?_, by rintro _ _ _ x_ ⟨a0, c0, e_, rv0⟩; exact ⟨a0, c0, e_, rv0.lift (Up.ext x_)⟩⟩, ?_⟩
        ·
          have H17 := H6.ext xt11
          obtain ⟨ad3, s9, hA3⟩ : ∃ (ad3 : Addr), f7 27 = .pointer (some ad3) ∧ At (MS M [own w.heap.size 60 (.slice (some ⟨g0, 0, none⟩) an.toNat an.toNat) xs, box bb2 #[.int .i64 0, .slice none 0 0] 35, box bb1 #[.int .i64 bn, .slice a_br br.length c_br] 35, box bb0 #[.int .i64 an, .slice a_ar ar.length c_ar] 35, imm (.slice a_br br.length c_br) br, imm (.slice a_ar ar.length c_ar) ar]) w12 ad3 x0 := hp6 5 rfl rfl
          have H18 := H17.put (it := atI ad3 x0) rfl hA3
          refine ldL (H18.atv 0 rfl).w ty60 rfl s9 ?_
          intro a3 c3 rv4
          have ln2 := rv_len rv4
          have H19 := H18.put (it := imm (.slice a3 x0.length c3) x0) rfl rv4
          exact ⟨_, rfl, Ext.refl _, ⟨a3, c3, rfl, (rv_drop rfl rv4)⟩⟩
        refine ⟨fun _ => ⟨fun f8 w13 hf7 xt12 hp7 => ?_, fun _ _ _ _ h => h⟩, ?_⟩
        ·
          have H20 := H6.ext xt12
          refine fa fl35_1 rfl ((hf7 3 rfl).trans s1) ?_
          exact ⟨_, rfl, Ext.refl _, rfl⟩
        refine ⟨fun _ => ⟨fun f9 w14 hf8 xt13 hp8 => ?_, fun _ _ _ _ h => h⟩, ?_⟩
        ·
          have H21 := H6.ext xt13
          have s10 : f9 29 = .pointer (some ⟨bb1, 1, none⟩) := hp8 7 rfl rfl
          refine ldX H21 2 rfl ty33 rfl s10 (by decide) rfl ?_
          exact ⟨_, rfl, Ext.refl _, rfl⟩
        refine ⟨fun _ => ⟨fun f10 w15 hf9 xt14 hp9 => ?_, fun _ _ _ _ h => h⟩, ?_⟩
        ·
          have H22 := H6.ext xt14
          refine mv rfl (hf9 7 rfl) ?_
          exact ⟨_, rfl, Ext.refl _, rfl⟩
        refine ⟨fun _ => ⟨fun f11 w16 hf10 xt15 hp10 => ?_, by rintro _ _ _ x_ ⟨ad1, e_, hA1⟩; exact ⟨ad1, e_, hA1.lift (Up.ext x_)⟩⟩, ?_⟩
        ·
          have H23 := H6.ext xt15
          have s11 : f11 30 = .slice a_br br.length c_br := hp10 8 rfl rfl
          have s12 : f11 31 = .int .i64 (j : Int) := hp10 9 rfl rfl
          refine ia (H23.rv 4 rfl) rfl rfl s11 s12 (by first | omega | (simp; omega)) un33 ty60 ?_
          intro ad4 x3 hx3 hA4
          obtain rfl : x1 = x3 := Option.some.inj (hx1.symm.trans hx3)
          exact ⟨_, rfl, Ext.refl _, ⟨ad4, rfl, hA4⟩⟩
        refine ⟨fun _ => ⟨fun f12 w17 hf11 xt16 hp11 => ?_, by rintro _ _ _ x_ ⟨a1, c1, e_, rv1⟩; exact ⟨a1, c1, e_, rv1.lift (Up.ext x_)⟩⟩, ?_⟩
        ·
          have H24 := H6.ext xt16
          obtain ⟨ad5, s13, hA5⟩ : ∃ (ad5 : Addr), f12 32 = .pointer (some ad5) ∧ At (MS M [own w.heap.size 60 (.slice (some ⟨g0, 0, none⟩) an.toNat an.toNat) xs, box bb2 #[.int .i64 0, .slice none 0 0] 35, box bb1 #[.int .i64 bn, .slice a_br br.length c_br] 35, box bb0 #[.int .i64 an, .slice a_ar ar.length c_ar] 35, imm (.slice a_br br.length c_br) br, imm (.slice a_ar ar.length c_ar) ar]) w17 ad5 x1 := hp11 10 rfl rfl
          have H25 := H24.put (it := atI ad5 x1) rfl hA5
          refine ldL (H25.atv 0 rfl).w ty60 rfl s13 ?_
          intro a4 c4 rv5
          have ln3 := rv_len rv5
          have H26 := H25.put (it := imm (.slice a4 x1.length c4) x1) rfl rv5
          exact ⟨_, rfl, Ext.refl _, ⟨a4, c4, rfl, (rv_drop rfl rv5)⟩⟩
        refine ⟨fun _ => ⟨fun f13 w18 hf12 xt17 hp12 => ?_, by rintro _ _ _ x_ ⟨a2, c2, e_, rv3⟩; exact ⟨a2, c2, e_, rv3.lift (Up.ext x_)⟩⟩, ?_⟩
        ·
          have H27 := H6.ext xt17
          obtain ⟨a5, c5, s14, rv6⟩ : ∃ (a5 : Option Addr) (c5 : Nat), f13 28 = .slice a5 x0.length c5 ∧ RV (MS M [own w.heap.size 60 (.slice (some ⟨g0, 0, none⟩) an.toNat an.toNat) xs, box bb2 #[.int .i64 0, .slice none 0 0] 35, box bb1 #[.int .i64 bn, .slice a_br br.length c_br] 35, box bb0 #[.int .i64 an, .slice a_ar ar.length c_ar] 35, imm (.slice a_br br.length c_br) br, imm (.slice a_ar ar.length c_ar) ar]) w18 (.slice a5 x0.length c5) x0 := hp12 6 rfl rfl
          have H28 := H27.put (it := imm (.slice a5 x0.length c5) x0) rfl rv6
          obtain ⟨a6, c6, s15, rv7⟩ : ∃ (a6 : Option Addr) (c6 : Nat), f13 33 = .slice a6 x1.length c6 ∧ RV (MS M [own w.heap.size 60 (.slice (some ⟨g0, 0, none⟩) an.toNat an.toNat) xs, box bb2 #[.int .i64 0, .slice none 0 0] 35, box bb1 #[.int .i64 bn, .slice a_br br.length c_br] 35, box bb0 #[.int .i64 an, .slice a_ar ar.length c_ar] 35, imm (.slice a_br br.length c_br) br, imm (.slice a_ar ar.length c_ar) ar]) w18 (.slice a6 x1.length c6) x1 := hp12 11 rfl rfl
          have H29 := H28.put (it := imm (.slice a6 x1.length c6) x1) rfl (by rw [MS_cons_none rfl]; exact rv7)
          have cc1 := row_Or (a := x0) (b := x1) (w := w18) H29.mb (H29.rv 1 rfl) (H29.rv 0 rfl) (by first | exact hrw_a _ (List.mem_of_getElem? hx0) | exact hrw_b _ (List.mem_of_getElem? hx1)) (by first | exact hrw_a _ (List.mem_of_getElem? hx0) | exact hrw_b _ (List.mem_of_getElem? hx1))
          refine ca go52 rfl (ec s14 (ec s15 e0)) cc1 ?_
          rintro _ w19 ⟨a7, c7, rfl, xt18, rv8⟩
          have rv9 := OwnsG.rv rv8 H29.mb
          have H30 := H29.ext xt18
          have H31 := H30.put (it := imm (.slice a7 (orR x0 x1).length c7) (orR x0 x1)) rfl rv9
          exact ⟨_, rfl, xt18, ⟨a7, c7, rfl, (rv_drop rfl (rv_drop rfl rv9))⟩⟩
        exact DSteps.rest rfl _
      · intro f14 w20 hf13 xt19 hp13
        have H32 := H6.ext xt19
        have s16 : f14 2 = .pointer (some ⟨bb0, 0, none⟩) := (hf13 2 rfl).trans s0
        have s17 : f14 3 = .pointer (some ⟨bb1, 0, none⟩) := (hf13 3 rfl).trans s1
        have s18 : f14 4 = .pointer (some ⟨bb2, 0, none⟩) := (hf13 4 rfl).trans s2
        have s19 : f14 6 = .slice (some ⟨g0, 0, none⟩) an.toNat an.toNat := (hf13 6 rfl).trans s3
        have s20 : f14 18 = .int .i64 (an.toNat : Int) := (hf13 18 rfl).trans s4
        have s21 : f14 19 = .int .i64 (j : Int) := (hf13 19 rfl).trans s5
        have s22 : f14 22 = .slice (some ⟨g0, 0, none⟩) an.toNat an.toNat := hp13 0 rfl
        have s23 : f14 23 = .int .i64 (j : Int) := hp13 1 rfl
        obtain ⟨a8, c8, s24, rv10⟩ : ∃ (a8 : Option Addr) (c8 : Nat), f14 34 = .slice a8 (orR x0 x1).length c8 ∧ RV (MS M [own w.heap.size 60 (.slice (some ⟨g0, 0, none⟩) an.toNat an.toNat) xs, box bb2 #[.int .i64 0, .slice none 0 0] 35, box bb1 #[.int .i64 bn, .slice a_br br.length c_br] 35, box bb0 #[.int .i64 an, .slice a_ar ar.length c_ar] 35, imm (.slice a_br br.length c_br) br, imm (.slice a_ar ar.length c_ar) ar]) w20 (.slice a8 (orR x0 x1).length c8) (orR x0 x1) := hp13 12 rfl
        have H33 := H32.put (it := imm (.slice a8 (orR x0 x1).length c8) (orR x0 x1)) rfl rv10
        refine k (iaO (H33.at_ 1 rfl) rfl rfl s22 s23 (by first | omega | (simp; omega)) un33 ty60 ?_)
        intro g1 x4 hv0 hx4 hA6
        refine k (stO H33 1 rfl hv0 rfl (by first | omega | (simp; omega)) ty60 rfl rfl rfl s24 (H33.rv 0 rfl) ?_)
        intro w21 (H34 : HI M w w21 [imm (.slice a8 (orR x0 x1).length c8) (orR x0 x1), own w.heap.size 60 (.slice (some ⟨g0, 0, none⟩) an.toNat an.toNat) (xs.set ((j : Int).toNat) (orR x0 x1)), box bb2 #[.int .i64 0, .slice none 0 0] 35, box bb1 #[.int .i64 bn, .slice a_br br.length c_br] 35, box bb0 #[.int .i64 an, .slice a_ar ar.length c_ar] 35, imm (.slice a_br br.length c_br) br, imm (.slice a_ar ar.length c_ar) ar])
        refine z (inb_normal (nx (rg (k (add rfl rfl s21 rfl (by unfold I64 at *; omega) (k (mv (v := .int .i64 ((j : Int) + 1)) rfl rfl (z ?_))))))))
        have H35 : HI M w w21 [own w.heap.size 60 (.slice (some ⟨g0, 0, none⟩) an.toNat an.toNat) (xs.set ((j : Int).toNat) (orR x0 x1)), box bb2 #[.int .i64 0, .slice none 0 0] 35, box bb1 #[.int .i64 bn, .slice a_br br.length c_br] 35, box bb0 #[.int .i64 an, .slice a_ar ar.length c_ar] 35, imm (.slice a_br br.length c_br) br, imm (.slice a_ar ar.length c_ar) ar] := H34.pickN [1, 2, 3, 4, 5, 6] (by decide) rfl
        refine loopN _ ?_ ⟨(j + 1), (xs.set ((j : Int).toNat) (orR x0 x1)), rfl, s16, s17, s18, s19, s20, (ieq rfl (by first | rfl | omega | (push_cast; omega))), H35, (by first | assumption | omega | simp | (simp; omega)), (by simpa using hl), (by rw [hs]; exact orFill_set (by omega) hx0 hx1)⟩
        omega
    ·
      have p1 := of_decide_eq_false b1
      refine ex (then_exit (loop_exit (inb_here (nx (sq (rg (k (fa fl35_0 rfl s0 (k (ldX H6 3 rfl ty3 rfl rfl (by decide) rfl (k (mv rfl s3 (k (bd (v := .agg #[.int .i64 an, .slice (some ⟨g0, 0, none⟩) an.toNat an.toNat]) rfl (pbc rfl (pbc rfl pb0)) (fun _ => by kernel_rfl) (k (stX H6 1 rfl ty35 rfl rfl s2 rfl rfl rfl rfl ?_))))))))))))))))
      intro w5 (H7 : HI M w w5 [own w.heap.size 60 (.slice (some ⟨g0, 0, none⟩) an.toNat an.toNat) xs, box bb2 #[.int .i64 an, .slice (some ⟨g0, 0, none⟩) an.toNat an.toNat] 35, box bb1 #[.int .i64 bn, .slice a_br br.length c_br] 35, box bb0 #[.int .i64 an, .slice a_ar ar.length c_ar] 35, imm (.slice a_br br.length c_br) br, imm (.slice a_ar ar.length c_ar) ar])
      refine k (asg (v := .int .i64 0) rfl rfl (z (nx (rt (rc2 H7 1 rfl ty35 rfl rfl rfl s2 rfl (by decide) ?_)))))
      have e0 : (an : Int) = orMN an bn := by first | exact (orM_no (ar := ar) (br := br) p0).1.symm | exact (orM_yes (ar := ar) (br := br) p0).1.symm
      have e1 : (xs : List (List (BitVec 64))) = orMR an ar bn br := by first | exact (orM_no p0).2.1.symm | (rw [(orM_yes p0).2.1, hs]; exact orFill_end (by omega) hk)
      have l1 : an.toNat = (orMR an ar bn br).length := by first | rfl | (rw [← e1]; omega) | (rw [← e1]; simp) | simp
      have e2 : (0 : Int) = orME an bn := by first | exact (orM_no (ar := ar) (br := br) p0).2.2.symm | exact (orM_yes (ar := ar) (br := br) p0).2.2.symm
      have ev_ := cg3 (fun (x_0 : Int) (n_1 : Nat) (x_2 : Int) => (.tuple #[.agg #[.int .i64 x_0, .slice (some ⟨g0, 0, none⟩) n_1 an.toNat], .int .i64 x_2] : Value)) e0 l1 e2
      exact ⟨(some ⟨g0, 0, none⟩), an.toNat, ev_, H7.below, (congrArg (fun (n_ : Nat) => OwnsG _ _ _ (orMR an ar bn br) (.slice (some ⟨g0, 0, none⟩) n_ an.toNat) _) l1).mp ((congrArg (fun (x_ : List (List (BitVec 64))) => OwnsG _ _ _ x_ (.slice (some ⟨g0, 0, none⟩) an.toNat an.toNat) _) e1).mp (H7.ownsG_out 0 rfl))⟩
end Go.Proofs.Ytmhopljngkgidaa
namespace Go.Proofs.Ytmhopljngkgidaa
open Go.Ew Go.RowKit
set_option linter.unusedVariables false
set_option linter.unusedSimpArgs false
attribute [local irreducible] WL WC SO Code.wp wpList retQ Ret
attribute [local irreducible] bitB hasW inR hasR setR countW countR subR words newR listR orR firstW tab8
end Go.Proofs.Ytmhopljngkgidaa
namespace Go.Proofs.Ytmhopljngkgidaa
open Go.Ew Go.RowKit
set_option linter.unusedVariables false
set_option linter.unusedSimpArgs false
attribute [local irreducible] WL WC SO Code.wp wpList retQ Ret
attribute [local irreducible] bitB hasW inR hasR setR countW countR subR words newR listR orR firstW tab8
theorem go40 : GoF Try.prog 40 := ⟨_, _, Try.func40, rfl, by kernel_rfl⟩
theorem go20 : GoF Try.prog 20 := ⟨_, _, Try.func20, rfl, by kernel_rfl⟩
set_option maxRecDepth 100000 in
set_option maxHeartbeats 1600000 in
theorem ref03_in {w : World} {mn : Int} {a_mu : Option Addr} {n_mu c_mu : Nat} {i : Int} {j : Int} (h_mn : I64 mn) (h_i : I64 i) (h_j : I64 j) : Calls Try.prog 40 #[.agg #[.int .i64 mn, .slice a_mu n_mu c_mu], .int .i64 i, .int .i64 j] w (Ret fun v w' =>  v = .bool (inM mn [i, j]) ∧ Ext w w') := by
  refine enter 25 Try.func40 rfl rfl rfl fun f0 ha => ?_
  have H := HI.start (M0 := (fun _ => False)) (w := w) (fun _ h => h.elim)
  have i0 : f0 0 = .agg #[.int .i64 mn, .slice a_mu n_mu c_mu] := ha 0 (by simp)
  have i1 : f0 1 = .int .i64 i := ha 1 (by simp)
  have i2 : f0 2 = .int .i64 j := ha 2 (by simp)
  refine sq (rg (k (bx H rfl i0 ?_)))
  intro bb0 w0 xt0 (H0 : HI (fun _ => False) w w0 [box bb0 #[.int .i64 mn, .slice a_mu n_mu c_mu] 35])
  refine k (asg (v := .bool false) rfl rfl (z (nx (sq (rg (k (mv rfl i1 (k (geq rfl rfl rfl rfl (k (mv (v := .bool (decide (0 ≤ i))) rfl rfl ?_)))))))))))
  rcases Bool.eq_false_or_eq_true (decide (0 ≤ i)) with b0 | b0
  · -- decide (0 ≤ i) is True
    have p0 := of_decide_eq_true b0
    refine k (gy rfl rfl rfl b0 (mv rfl i1 (k (gy rfl rfl rfl b0 (fa fl35_0 rfl rfl (k (gy rfl rfl rfl b0 (ldX H0 0 rfl ty3 rfl rfl (by decide) rfl (k (gy rfl rfl rfl b0 (lss rfl rfl rfl rfl (k (pickT rfl rfl rfl rfl b0 rfl (k (mv (v := .bool (decide (i < mn))) rfl rfl ?_)))))))))))))))
    rcases Bool.eq_false_or_eq_true (decide (i < mn)) with b1 | b1
    · -- decide (i < mn) is True
      have p1 := of_decide_eq_true b1
      refine k (gy rfl rfl rfl b1 (mv rfl i2 (k (gy rfl rfl rfl b1 (geq rfl rfl rfl rfl (k (pickT rfl rfl rfl rfl b1 rfl (k (mv (v := .bool (decide (0 ≤ j))) rfl rfl ?_)))))))))
      rcases Bool.eq_false_or_eq_true (decide (0 ≤ j)) with b2 | b2
      · -- decide (0 ≤ j) is True
        have p2 := of_decide_eq_true b2
        refine k (gy rfl rfl rfl b2 (mv rfl i2 (k (gy rfl rfl rfl b2 (fa fl35_0 rfl rfl (k (gy rfl rfl rfl b2 (ldX H0 0 rfl ty3 rfl rfl (by decide) rfl (k (gy rfl rfl rfl b2 (lss rfl rfl rfl rfl (k (pickT rfl rfl rfl rfl b2 rfl (k (asg (v := .bool (decide (j < mn))) rfl rfl (z (nx (rt (r1 rfl rfl ?_)))))))))))))))))))
        have e0 : (decide (j < mn) : Bool) = inM mn [i, j] := by rw [inM_eq]; simp_all <;> omega
        have ev_ := cg1 (fun (x_0 : Bool) => (.bool x_0 : Value)) e0
        exact ⟨ev_, H0.below⟩
      · -- decide (0 ≤ j) is False
        have p2 := of_decide_eq_false b2
        refine k (gn rfl rfl rfl b2 (k (gn rfl rfl rfl b2 (k (gn rfl rfl rfl b2 (k (gn rfl rfl rfl b2 (k (pickF rfl rfl rfl rfl b2 rfl (k (asg (v := .bool false) rfl rfl (z (nx (rt (r1 rfl rfl ?_)))))))))))))))
        have e0 : (false : Bool) = inM mn [i, j] := by rw [inM_eq]; simp_all <;> omega
        have ev_ := cg1 (fun (x_0 : Bool) => (.bool x_0 : Value)) e0
        exact ⟨ev_, H0.below⟩
    · -- decide (i < mn) is False
      have p1 := of_decide_eq_false b1
      refine k (gn rfl rfl rfl b1 (k (gn rfl rfl rfl b1 (k (pickF rfl rfl rfl rfl b1 rfl (k (mv (v := .bool false) rfl rfl (k (gn rfl rfl rfl rfl (k (gn rfl rfl rfl rfl (k (gn rfl rfl rfl rfl (k (gn rfl rfl rfl rfl (k (pickF rfl rfl rfl rfl rfl rfl (k (asg (v := .bool false) rfl rfl (z (nx (rt (r1 rfl rfl ?_)))))))))))))))))))))))
      have e0 : (false : Bool) = inM mn [i, j] := by rw [inM_eq]; simp_all <;> omega
      have ev_ := cg1 (fun (x_0 : Bool) => (.bool x_0 : Value)) e0
      exact ⟨ev_, H0.below⟩
  · -- decide (0 ≤ i) is False
    have p0 := of_decide_eq_false b0
    refine k (gn rfl rfl rfl b0 (k (gn rfl rfl rfl b0 (k (gn rfl rfl rfl b0 (k (gn rfl rfl rfl b0 (k (pickF rfl rfl rfl rfl b0 rfl (k (mv (v := .bool false) rfl rfl (k (gn rfl rfl rfl rfl (k (gn rfl rfl rfl rfl (k (pickF rfl rfl rfl rfl rfl rfl (k (mv (v := .bool false) rfl rfl (k (gn rfl rfl rfl rfl (k (gn rfl rfl rfl rfl (k (gn rfl rfl rfl rfl (k (gn rfl rfl rfl rfl (k (pickF rfl rfl rfl rfl rfl rfl (k (asg (v := .bool false) rfl rfl (z (nx (rt (r1 rfl rfl ?_)))))))))))))))))))))))))))))))))))
    have e0 : (false : Bool) = inM mn [i, j] := by rw [inM_eq]; simp_all <;> omega
    have ev_ := cg1 (fun (x_0 : Bool) => (.bool x_0 : Value)) e0
    exact ⟨ev_, H0.below⟩
set_option maxRecDepth 100000 in
set_option maxHeartbeats 1600000 in
theorem ref03_Has {M : Nat → Prop} {w : World} {mn : Int} {a_mr : Option Addr} {c_mr : Nat} {mr : List (List (BitVec 64))} {i : Int} {j : Int} (hM : ∀ b, M b → b < w.heap.size) (h_mn : I64 mn) (h_mr : RV M w (.slice a_mr mr.length c_mr) mr) (h_i : I64 i) (h_j : I64 j) (hsq_m : ((mr.length : Nat) : Int) = mn) (hrw_m : ∀ x ∈ mr, x.length ≤ 1000000000) (hl4_m : mn ≤ 4096) : Calls Try.prog 20 #[.agg #[.int .i64 mn, .slice a_mr mr.length c_mr], .int .i64 i, .int .i64 j] w (Ret fun v w' =>  v = .bool (hasM mn mr i j) ∧ Ext w w') := by
  refine enter 20 Try.func20 rfl rfl rfl fun f0 ha => ?_
  have H := HI.start (M0 := M) (w := w) hM
  have H0 := H.put (it := imm (.slice a_mr mr.length c_mr) mr) rfl (by rw [MS_nil]; exact h_mr)
  have ln_mr := rv_len h_mr
  have i0 : f0 0 = .agg #[.int .i64 mn, .slice a_mr mr.length c_mr] := ha 0 (by simp)
  have i1 : f0 1 = .int .i64 i := ha 1 (by simp)
  have i2 : f0 2 = .int .i64 j := ha 2 (by simp)
  refine sq (rg (k (bx H0 rfl i0 ?_)))
  intro bb0 w0 xt0 (H1 : HI M w w0 [box bb0 #[.int .i64 mn, .slice a_mr mr.length c_mr] 35, imm (.slice a_mr mr.length c_mr) mr])
  refine k (asg (v := .bool false) rfl rfl (z (nx (sq (rg (k (ldX H1 0 rfl ty35 rfl rfl (by decide) rfl (k (mv rfl i1 (k (mv rfl i2 (k ?_))))))))))))
  have cc0 := ref03_in (mn := mn) (i := i) (j := j) (a_mu := a_mr) (n_mu := mr.length) (c_mu := c_mr) (w := w0) (by unfold I64 at *; omega) (by unfold I64 at *; omega) (by unfold I64 at *; omega)
  refine ca go40 rfl (ec rfl (ec rfl (ec rfl e0))) cc0 ?_
  rintro _ w1 ⟨rfl, xt1⟩
  have H2 := H1.ext xt1
  refine k (mv (v := .bool (inM mn [i, j])) rfl rfl ?_)
  rcases Bool.eq_false_or_eq_true (inM mn [i, j]) with b0 | b0
  · -- inM mn [i, j] is True
    refine k (gy rfl rfl rfl b0 (fa fl35_1 rfl rfl (k (gy rfl rfl rfl b0 (ldX H2 0 rfl ty33 rfl rfl (by decide) rfl (k (gy rfl rfl rfl b0 (mv rfl i1 (k (gy rfl rfl rfl b0 (ia (H2.rv 1 rfl) rfl rfl rfl rfl (by have hr := inM_two.1 b0; omega) un33 ty60 ?_)))))))))))
    intro ad0 x0 hx0 hA0
    refine k (gy rfl rfl rfl b0 (ldL hA0.w ty60 rfl rfl ?_))
    intro a0 c0 rv0
    have ln0 := rv_len rv0
    have H3 := H2.put (it := imm (.slice a0 x0.length c0) x0) rfl rv0
    refine k (gy rfl rfl rfl b0 (mv rfl i2 (k (gy rfl rfl rfl b0 ?_))))
    have cc1 := ref02_Has (r := x0) (i := j) (w := w1) H3.mb (H3.rv 0 rfl) (by unfold I64 at *; omega) (by first | omega | exact hrw_m _ (List.mem_of_getElem? hx0))
    refine ca go37 rfl (ec rfl (ec rfl e0)) cc1 ?_
    rintro _ w2 ⟨rfl, xt2⟩
    have H4 := H3.ext xt2
    refine k (pickT rfl rfl rfl rfl b0 rfl (k (asg (v := .bool (hasR x0 j)) rfl rfl (z (nx (rt (r1 rfl rfl ?_)))))))
    have e0 : (hasR x0 j : Bool) = hasM mn mr i j := by unfold hasM; first | (rw [rowAt_of hx0, b0]; rfl) | (rw [b0]; rfl)
    have ev_ := cg1 (fun (x_0 : Bool) => (.bool x_0 : Value)) e0
    exact ⟨ev_, H4.below⟩
  · -- inM mn [i, j] is False
    refine k (gn rfl rfl rfl b0 (k (gn rfl rfl rfl b0 (k (gn rfl rfl rfl b0 (k (gn rfl rfl rfl b0 (k (gn rfl rfl rfl b0 (k (gn rfl rfl rfl b0 (k (gn rfl rfl rfl b0 (k (pickF rfl rfl rfl rfl b0 rfl (k (asg (v := .bool false) rfl rfl (z (nx (rt (r1 rfl rfl ?_)))))))))))))))))))))
    have e0 : (false : Bool) = hasM mn mr i j := by unfold hasM; first | (rw [rowAt_of hx0, b0]; rfl) | (rw [b0]; rfl)
    have ev_ := cg1 (fun (x_0 : Bool) => (.bool x_0 : Value)) e0
    exact ⟨ev_, H2.below⟩
end Go.Proofs.Ytmhopljngkgidaa
namespace Go.Proofs.Ytmhopljngkgidaa
open Go.Ew Go.RowKit
set_option linter.unusedVariables false
set_option linter.unusedSimpArgs false
attribute [local irreducible] WL WC SO Code.wp wpList retQ Ret
attribute [local irreducible] bitB hasW inR hasR setR countW countR subR words newR listR orR firstW tab8
theorem un9 : Try.prog.underlying 9 = some (.string) := by kernel_rfl
theorem un22 : Try.prog.underlying 22 = some (.slice 47) := by kernel_rfl
theorem ty47 : TyF Try.prog 47 1 false 24 (.slice none 0 0) := ⟨by kernel_rfl, by kernel_rfl⟩
theorem un47 : Try.prog.underlying 47 = some (.slice 50) := by kernel_rfl
theorem ty50 : TyF Try.prog 50 3 true 32 (.agg #[.bool false, .string ⟨#[]⟩, .int .i64 0]) := ⟨by kernel_rfl, by kernel_rfl⟩
theorem go24 : GoF Try.prog 24 := ⟨_, _, Try.func24, rfl, by kernel_rfl⟩
theorem fl50_1 : FldF Try.prog 50 1 1 := ⟨_, _, Try.underlying50, rfl, rfl, by kernel_rfl⟩
theorem ty9 : TyF Try.prog 9 1 false 16 (.string ⟨#[]⟩) := ⟨by kernel_rfl, by kernel_rfl⟩
theorem go60 : GoF Try.prog 60 := ⟨_, _, Try.func60, rfl, by kernel_rfl⟩
theorem go23 : GoF Try.prog 23 := ⟨_, _, Try.func23, rfl, by kernel_rfl⟩
theorem un25 : Try.prog.underlying 25 = some (.slice 9) := by kernel_rfl
theorem ty29 : TyF Try.prog 29 3 true 72 (.agg #[.slice none 0 0, .slice none 0 0, .slice none 0 0]) := ⟨by kernel_rfl, by kernel_rfl⟩
theorem go43 : GoF Try.prog 43 := ⟨_, _, Try.func43, rfl, by kernel_rfl⟩
theorem fl29_0 : FldF Try.prog 29 0 0 := ⟨_, _, Try.underlying29, rfl, rfl, by kernel_rfl⟩
theorem ty25 : TyF Try.prog 25 1 false 24 (.slice none 0 0) := ⟨by kernel_rfl, by kernel_rfl⟩
theorem go44 : GoF Try.prog 44 := ⟨_, _, Try.func44, rfl, by kernel_rfl⟩
theorem fl29_1 : FldF Try.prog 29 1 1 := ⟨_, _, Try.underlying29, rfl, rfl, by kernel_rfl⟩
theorem ty26 : TyF Try.prog 26 1 false 24 (.slice none 0 0) := ⟨by kernel_rfl, by kernel_rfl⟩
theorem fl50_0 : FldF Try.prog 50 0 0 := ⟨_, _, Try.underlying50, rfl, rfl, by kernel_rfl⟩
theorem ty4 : TyF Try.prog 4 1 false 1 (.bool false) := ⟨by kernel_rfl, by kernel_rfl⟩
theorem fl50_2 : FldF Try.prog 50 2 2 := ⟨_, _, Try.underlying50, rfl, rfl, by kernel_rfl⟩
theorem un26 : Try.prog.underlying 26 = some (.slice 70) := by kernel_rfl
theorem ty70 : TyF Try.prog 70 5 true 40 (.agg #[.int .i64 0, .int .i64 0, .bool false, .int .i64 0, .int .i64 0]) := ⟨by kernel_rfl, by kernel_rfl⟩
theorem fl70_2 : FldF Try.prog 70 2 2 := ⟨_, _, Try.underlying70, rfl, rfl, by kernel_rfl⟩
theorem fl70_3 : FldF Try.prog 70 3 3 := ⟨_, _, Try.underlying70, rfl, rfl, by kernel_rfl⟩
theorem fl70_4 : FldF Try.prog 70 4 4 := ⟨_, _, Try.underlying70, rfl, rfl, by kernel_rfl⟩
theorem go45 : GoF Try.prog 45 := ⟨_, _, Try.func45, rfl, by kernel_rfl⟩
set_option maxRecDepth 100000 in
set_option maxHeartbeats 1600000 in
theorem ref06_Name {w : World} {s : ByteArray} (h_s : s.size ≤ maxLen) : Calls Try.prog 60 #[.string s] w (Ret fun v w' =>  v = .bool (nameS s) ∧ Ext w w') := by
  refine enter 28 Try.func60 rfl rfl rfl fun f0 ha => ?_
  have H := HI.start (M0 := (fun _ => False)) (w := w) (fun _ h => h.elim)
  have i0 : f0 0 = .string s := ha 0 (by simp)
  have hS_ : s.size ≤ 9223372036854775807 := by have h_ := h_s; simp only [maxLen] at h_; exact h_
  refine sq (rg (k (asg (v := .bool false) rfl rfl (z (nx (sq (sq (rg (k (asg (v := .int .i64 0) rfl rfl (z (nx (bk ?_)))))))))))))
  refine lp (fun m f w' => ∃ (j : Nat), m = s.size - j ∧ f 0 = .string s ∧ f 3 = .int .i64 (j : Int) ∧  HI (fun _ => False) w w' [] ∧ (j ≤ s.size) ∧ ((s.data.toList.take j).all okC = true)) _ ⟨0, rfl, i0, (ieq rfl (by first | rfl | omega | simp)), H, (by first | assumption | omega | simp | (simp; omega)), (by rfl)⟩ ?_
  rintro _ f0 w0 ⟨j, rfl, s0, s1, H0, hk, hs⟩
  refine sq (sq (rg (k (mv rfl s1 (k (mv rfl s0 (k (lnT rfl rfl un9 (k (lss rfl rfl rfl rfl (z (nx ?_))))))))))))
  refine cd (b := decide ((j : Int) < (s.size : Int))) rfl rfl (fun b0 => ?_) (fun b0 => ?_)
  ·
    have p0 := of_decide_eq_true b0
    refine sk (nx (sq (bk (sq (rg (k (mv rfl s0 (k (mv rfl s1 (k (ixS rfl rfl rfl rfl (by first | omega | (simp; omega)) un9 ?_)))))))))))
    intro c0 hc0
    refine k (lss rfl rfl rfl rfl (k (mv (v := .bool (decide ((c0.toNat : Int) < 97))) rfl rfl ?_)))
    rcases Bool.eq_false_or_eq_true (decide ((c0.toNat : Int) < 97)) with b1 | b1
    · -- decide ((c0.toNat : Int) < 97) is True
      have p1 := of_decide_eq_true b1
      refine k (gn rfl rfl rfl b1 (k (gn rfl rfl rfl b1 (k (gn rfl rfl rfl b1 (k (gn rfl rfl rfl b1 (k (pickT rfl rfl rfl rfl b1 rfl (z (nx (cdT rfl rfl rfl (sq (rg (k (asg (v := .bool false) rfl rfl (z (nx (rt (inb_ret (then_ret (loop_ret (inb_ret (then_ret (r1 rfl rfl ?_)))))))))))))))))))))))))
      have e0 : (false : Bool) = nameS s := by first | exact name_no hc0 (okC_lo b1) | exact name_no hc0 (by have e_ := Option.some.inj (hc1.symm.trans hc0); subst e_; exact okC_hi b2) | (unfold nameS; rw [name_end hs (by omega)]; first | (rw [show decide (1 ≤ s.size) = true from decide_eq_true (by omega), Bool.true_and, Bool.true_and, decide_eq_decide]; omega) | (rw [show decide (1 ≤ s.size) = false from decide_eq_false (by omega)]; rfl))
      have ev_ := cg1 (fun (x_0 : Bool) => (.bool x_0 : Value)) e0
      exact ⟨ev_, H0.below⟩
    · -- decide ((c0.toNat : Int) < 97) is False
      have p1 := of_decide_eq_false b1
      refine k (gy rfl rfl rfl b1 (mv rfl s0 (k (gy rfl rfl rfl b1 (mv rfl s1 (k (gy rfl rfl rfl b1 (ixS rfl rfl rfl rfl (by first | omega | (simp; omega)) un9 ?_))))))))
      intro c1 hc1
      refine k (gy rfl rfl rfl b1 (gtr rfl rfl rfl rfl (k (pickF rfl rfl rfl rfl b1 rfl (z (nx ?_))))))
      refine cd (b := decide (122 < (c1.toNat : Int))) rfl rfl (fun b2 => ?_) (fun b2 => ?_)
      ·
        have p2 := of_decide_eq_true b2
        refine sq (rg (k (asg (v := .bool false) rfl rfl (z (nx (rt (inb_ret (then_ret (loop_ret (inb_ret (then_ret (r1 rfl rfl ?_))))))))))))
        have e0 : (false : Bool) = nameS s := by first | exact name_no hc0 (okC_lo b1) | exact name_no hc0 (by have e_ := Option.some.inj (hc1.symm.trans hc0); subst e_; exact okC_hi b2) | (unfold nameS; rw [name_end hs (by omega)]; first | (rw [show decide (1 ≤ s.size) = true from decide_eq_true (by omega), Bool.true_and, Bool.true_and, decide_eq_decide]; omega) | (rw [show decide (1 ≤ s.size) = false from decide_eq_false (by omega)]; rfl))
        have ev_ := cg1 (fun (x_0 : Bool) => (.bool x_0 : Value)) e0
        exact ⟨ev_, H0.below⟩
      ·
        have p2 := of_decide_eq_false b2
        refine sk (inb_normal (nx (rg (k (mv rfl s1 (k (add rfl rfl rfl rfl (by unfold I64 at *; omega) (k (asg (v := .int .i64 ((j : Int) + 1)) rfl rfl (z ?_))))))))))
        refine loopN _ ?_ ⟨(j + 1), rfl, s0, (ieq rfl (by first | rfl | omega | (push_cast; omega))), H0, (by first | assumption | omega | simp | (simp; omega)), (by exact all_take (byte_at hc0) hs (by have e_ := Option.some.inj (hc1.symm.trans hc0); subst e_; exact okC_yes b1 b2))⟩
        omega
  ·
    have p0 := of_decide_eq_false b0
    refine ex (then_exit (loop_exit (inb_here (nx (sq (rg (k (mv rfl s0 (k (lnT rfl rfl un9 (k (geq rfl rfl rfl rfl (k (mv (v := .bool (decide (1 ≤ (s.size : Int)))) rfl rfl ?_))))))))))))))
    rcases Bool.eq_false_or_eq_true (decide (1 ≤ (s.size : Int))) with b1 | b1
    · -- decide (1 ≤ (s.size : Int)) is True
      have p1 := of_decide_eq_true b1
      refine k (gy rfl rfl rfl b1 (mv rfl s0 (k (gy rfl rfl rfl b1 (lnT rfl rfl un9 (k (gy rfl rfl rfl b1 (leq rfl rfl rfl rfl (k (pickT rfl rfl rfl rfl b1 rfl (k (asg (v := .bool (decide ((s.size : Int) ≤ 8))) rfl rfl (z (nx (rt (r1 rfl rfl ?_))))))))))))))))
      have e0 : (decide ((s.size : Int) ≤ 8) : Bool) = nameS s := by first | exact name_no hc0 (okC_lo b1) | exact name_no hc0 (by have e_ := Option.some.inj (hc1.symm.trans hc0); subst e_; exact okC_hi b2) | (unfold nameS; rw [name_end hs (by omega)]; first | (rw [show decide (1 ≤ s.size) = true from decide_eq_true (by omega), Bool.true_and, Bool.true_and, decide_eq_decide]; omega) | (rw [show decide (1 ≤ s.size) = false from decide_eq_false (by omega)]; rfl))
      have ev_ := cg1 (fun (x_0 : Bool) => (.bool x_0 : Value)) e0
      exact ⟨ev_, H0.below⟩
    · -- decide (1 ≤ (s.size : Int)) is False
      have p1 := of_decide_eq_false b1
      refine k (gn rfl rfl rfl b1 (k (gn rfl rfl rfl b1 (k (gn rfl rfl rfl b1 (k (pickF rfl rfl rfl rfl b1 rfl (k (asg (v := .bool false) rfl rfl (z (nx (rt (r1 rfl rfl ?_)))))))))))))
      have e0 : (false : Bool) = nameS s := by first | exact name_no hc0 (okC_lo b1) | exact name_no hc0 (by have e_ := Option.some.inj (hc1.symm.trans hc0); subst e_; exact okC_hi b2) | (unfold nameS; rw [name_end hs (by omega)]; first | (rw [show decide (1 ≤ s.size) = true from decide_eq_true (by omega), Bool.true_and, Bool.true_and, decide_eq_decide]; omega) | (rw [show decide (1 ≤ s.size) = false from decide_eq_false (by omega)]; rfl))
      have ev_ := cg1 (fun (x_0 : Bool) => (.bool x_0 : Value)) e0
      exact ⟨ev_, H0.below⟩
set_option maxRecDepth 100000 in
set_option maxHeartbeats 1600000 in
theorem ref06_Flat {M : Nat → Prop} {w : World} {a_h : Option Addr} {c_h : Nat} {h : List (List (Bool × ByteArray × Int))} (hM : ∀ b, M b → b < w.heap.size) (h_h : RV M w (.slice a_h h.length c_h) h) (hb_h : h.flatten.length ≤ 1048576) : Calls Try.prog 24 #[.slice a_h h.length c_h] w (Ret fun v w' => ∃ (a0 : Option Addr) (c0 : Nat), v = .slice a0 h.flatten.length c0 ∧ Ext w w' ∧ RV M w' (.slice a0 h.flatten.length c0) h.flatten) := by
  refine enter 18 Try.func24 rfl rfl rfl fun f0 ha => ?_
  have H := HI.start (M0 := M) (w := w) hM
  have H0 := H.put (it := imm (.slice a_h h.length c_h) h) rfl (by rw [MS_nil]; exact h_h)
  have ln_h := rv_len h_h
  have i0 : f0 0 = .slice a_h h.length c_h := ha 0 (by simp)
  refine sq (rg (k (asg (v := .slice none 0 0) rfl rfl (z (nx (sq (rg (k (asg (v := .slice none 0 0) rfl rfl (z (nx (sq (sq (rg (k (asg (v := .int .i64 0) rfl rfl (z (nx (bk ?_)))))))))))))))))))
  have H1 := H0.nil_ (Bool × ByteArray × Int) 50
  refine lp (fun m f w' => ∃ (j : Nat) (xs : List (Bool × ByteArray × Int)) (a0 : Option Addr) (c0 : Nat), m = h.length - j ∧ f 0 = .slice a_h h.length c_h ∧ f 3 = .slice a0 xs.length c0 ∧ f 4 = .int .i64 (j : Int) ∧  HI M w w' [own w.heap.size 50 (.slice a0 xs.length c0) xs, imm (.slice a_h h.length c_h) h] ∧ (j ≤ h.length) ∧ (xs = (h.take j).flatten)) _ ⟨0, ([] : List (Bool × ByteArray × Int)), none, 0, rfl, i0, rfl, (ieq rfl (by first | rfl | omega | simp)), H1, (by first | assumption | omega | simp | (simp; omega)), (by rfl)⟩ ?_
  rintro _ f0 w0 ⟨j, xs, a0, c0, rfl, s0, s1, s2, H2, hk, hs⟩
  refine sq (sq (rg (k (mv rfl s2 (k (mv rfl s0 (k (lnS rfl rfl un22 (k (lss rfl rfl rfl rfl (z (nx ?_))))))))))))
  refine cd (b := decide ((j : Int) < (h.length : Int))) rfl rfl (fun b0 => ?_) (fun b0 => ?_)
  ·
    have p0 := of_decide_eq_true b0
    refine sk (nx (sq (bk (rg (k (mv rfl s1 (k (mv rfl s0 (k (mv rfl s2 (k (ia (H2.rv 1 rfl) rfl rfl rfl rfl (by first | omega | (simp; omega)) un22 ty47 ?_))))))))))))
    intro ad0 x0 hx0 hA0
    refine k (ldL hA0.w ty47 rfl rfl ?_)
    intro a1 c1 rv0
    have ln0 := rv_len rv0
    have H3 := H2.put (it := imm (.slice a1 x0.length c1) x0) rfl rv0
    refine k (ap H3 1 rfl rfl rfl rfl rfl rfl (H3.rv 0 rfl).src un47 ty50 rfl (by have h_ := flat_len hx0; rw [hs]; omega) (by have h_ := flat_len hx0; rw [hs]; omega) ?_)
    intro a2 c2 w1 (H4 : HI M w w1 [imm (.slice a1 x0.length c1) x0, own w.heap.size 50 (.slice a2 (xs ++ x0).length c2) (xs ++ x0), imm (.slice a_h h.length c_h) h])
    refine k (asg (v := .slice a2 (xs ++ x0).length c2) rfl rfl (z (inb_normal (nx (rg (k (mv rfl s2 (k (add rfl rfl rfl rfl (by unfold I64 at *; omega) (k (asg (v := .int .i64 ((j : Int) + 1)) rfl rfl (z ?_))))))))))))
    have H5 : HI M w w1 [own w.heap.size 50 (.slice a2 (xs ++ x0).length c2) (xs ++ x0), imm (.slice a_h h.length c_h) h] := H4.pickN [1, 2] (by decide) rfl
    refine loopN _ ?_ ⟨(j + 1), (xs ++ x0), a2, c2, rfl, s0, rfl, (ieq rfl (by first | rfl | omega | (push_cast; omega))), H5, (by first | assumption | omega | simp | (simp; omega)), (by rw [hs, flat_step hx0])⟩
    omega
  ·
    have p0 := of_decide_eq_false b0
    refine ex (then_exit (loop_exit (inb_here (nx (sq (rg (k (mv rfl s1 (k (asg (v := .slice a0 xs.length c0) rfl rfl (z (nx (rt (r1 rfl rfl ?_))))))))))))))
    have e0 : (xs : List (Bool × ByteArray × Int)) = h.flatten := by rw [hs, take_end (by omega)]
    have ev_ := cg1 (fun (x_0 : List (Bool × ByteArray × Int)) => (.slice a0 x_0.length c0 : Value)) e0
    exact ⟨a0, c0, ev_, H2.below, (congrArg (fun (x_ : List (Bool × ByteArray × Int)) => RV _ _ (.slice a0 x_.length c0) x_) e0).mp (H2.outO 0 rfl)⟩
set_option maxRecDepth 100000 in
set_option maxHeartbeats 1600000 in
theorem ref06_Count {M : Nat → Prop} {w : World} {a_h : Option Addr} {c_h : Nat} {h : List (List (Bool × ByteArray × Int))} (hM : ∀ b, M b → b < w.heap.size) (h_h : RV M w (.slice a_h h.length c_h) h) (hb_h : h.flatten.length ≤ 1048576) : Calls Try.prog 23 #[.slice a_h h.length c_h] w (Ret fun v w' =>  v = .int .i64 (h.flatten.length : Int) ∧ Ext w w') := by
  refine enter 6 Try.func23 rfl rfl rfl fun f0 ha => ?_
  have H := HI.start (M0 := M) (w := w) hM
  have H0 := H.put (it := imm (.slice a_h h.length c_h) h) rfl (by rw [MS_nil]; exact h_h)
  have ln_h := rv_len h_h
  have i0 : f0 0 = .slice a_h h.length c_h := ha 0 (by simp)
  refine sq (rg (k (asg (v := .int .i64 0) rfl rfl (z (nx (sq (rg (k (mv rfl i0 (k ?_))))))))))
  have cc0 := ref06_Flat (h := h) (w := w) H0.mb (H0.rv 0 rfl) (by exact hb_h)
  refine ca go24 rfl (ec rfl e0) cc0 ?_
  rintro _ w0 ⟨a0, c0, rfl, xt0, rv0⟩
  have H1 := H0.ext xt0
  have H2 := H1.put (it := imm (.slice a0 h.flatten.length c0) h.flatten) rfl rv0
  refine k (lnS rfl rfl un47 (k (asg (v := .int .i64 (h.flatten.length : Int)) rfl rfl (z (nx (rt (r1 rfl rfl ?_)))))))
  exact ⟨rfl, H2.below⟩
set_option maxRecDepth 100000 in
set_option maxHeartbeats 1600000 in
theorem ref06_Right {M : Nat → Prop} {w : World} {a_h : Option Addr} {c_h : Nat} {h : List (List (Bool × ByteArray × Int))} (hM : ∀ b, M b → b < w.heap.size) (h_h : RV M w (.slice a_h h.length c_h) h) (hb_h : h.flatten.length ≤ 1048576) : Calls Try.prog 43 #[.slice a_h h.length c_h] w (Ret fun v w' =>  v = .bool (rightH h) ∧ Ext w w') := by
  refine enter 23 Try.func43 rfl rfl rfl fun f0 ha => ?_
  have H := HI.start (M0 := M) (w := w) hM
  have H0 := H.put (it := imm (.slice a_h h.length c_h) h) rfl (by rw [MS_nil]; exact h_h)
  have ln_h := rv_len h_h
  have i0 : f0 0 = .slice a_h h.length c_h := ha 0 (by simp)
  refine sq (rg (k (asg (v := .bool false) rfl rfl (z (nx (sq (rg (k (mv rfl i0 (k ?_))))))))))
  have cc0 := ref06_Flat (h := h) (w := w) H0.mb (H0.rv 0 rfl) (by exact hb_h)
  refine ca go24 rfl (ec rfl e0) cc0 ?_
  rintro _ w0 ⟨a0, c0, rfl, xt0, rv0⟩
  have H1 := H0.ext xt0
  have H2 := H1.put (it := imm (.slice a0 h.flatten.length c0) h.flatten) rfl rv0
  refine k (asg (v := .slice a0 h.flatten.length c0) rfl rfl (z (nx (sq (sq (rg (k (asg (v := .int .i64 0) rfl rfl (z (nx (bk ?_)))))))))))
  refine lp (fun m f w' => ∃ (j : Nat), m = h.flatten.length - j ∧ f 3 = .slice a0 h.flatten.length c0 ∧ f 4 = .int .i64 (j : Int) ∧  HI M w w' [imm (.slice a0 h.flatten.length c0) h.flatten, imm (.slice a_h h.length c_h) h] ∧ (j ≤ h.flatten.length) ∧ ((h.flatten.take j).all opName = true)) _ ⟨0, rfl, rfl, (ieq rfl (by first | rfl | omega | simp)), H2, (by first | assumption | omega | simp | (simp; omega)), (by rfl)⟩ ?_
  rintro _ f0 w1 ⟨j, rfl, s0, s1, H3, hk, hs⟩
  refine sq (sq (rg (k (mv rfl s1 (k (mv rfl s0 (k (lnS rfl rfl un47 (k (lss rfl rfl rfl rfl (z (nx ?_))))))))))))
  refine cd (b := decide ((j : Int) < (h.flatten.length : Int))) rfl rfl (fun b0 => ?_) (fun b0 => ?_)
  ·
    have p0 := of_decide_eq_true b0
    refine sk (nx (sq (bk (sq (rg (k (mv rfl s0 (k (mv rfl s1 (k (ia (H3.rv 0 rfl) rfl rfl rfl rfl (by first | omega | (simp; omega)) un47 ty50 ?_)))))))))))
    intro ad0 x0 hx0 hA0
    refine k (fa fl50_1 rfl rfl (k (ldS ((hA0).s1).fst.w ty9 rfl rfl ?_)))
    intro rv1
    refine k ?_
    have cc1 := ref06_Name (s := x0.2.1) (w := w1) (by assumption)
    refine ca go60 rfl (ec rfl e0) cc1 ?_
    rintro _ w2 ⟨rfl, xt1⟩
    have H4 := H3.ext xt1
    refine k (not_ rfl rfl (z (nx ?_)))
    refine cd (b := !(nameS x0.2.1)) rfl rfl (fun b1 => ?_) (fun b1 => ?_)
    ·
      refine sq (rg (k (asg (v := .bool false) rfl rfl (z (nx (rt (inb_ret (then_ret (loop_ret (inb_ret (then_ret (r1 rfl rfl ?_))))))))))))
      have e0 : (false : Bool) = rightH h := by first | exact right_no hx0 (by simpa using b1) | exact right_end hs (by omega)
      have ev_ := cg1 (fun (x_0 : Bool) => (.bool x_0 : Value)) e0
      exact ⟨ev_, H4.below⟩
    ·
      refine sk (inb_normal (nx (rg (k (mv rfl s1 (k (add rfl rfl rfl rfl (by unfold I64 at *; omega) (k (asg (v := .int .i64 ((j : Int) + 1)) rfl rfl (z ?_))))))))))
      refine loopN _ ?_ ⟨(j + 1), rfl, s0, (ieq rfl (by first | rfl | omega | (push_cast; omega))), H4, (by first | assumption | omega | simp | (simp; omega)), (by exact all_take hx0 hs (by simpa [opName] using b1))⟩
      omega
  ·
    have p0 := of_decide_eq_false b0
    refine ex (then_exit (loop_exit (inb_here (nx (sq (rg (k (mv rfl s0 (k (lnS rfl rfl un47 (k (leq rfl rfl rfl rfl (k (asg (v := .bool (decide ((h.flatten.length : Int) ≤ 4096))) rfl rfl (z (nx (rt (r1 rfl rfl ?_))))))))))))))))))
    have e0 : (decide ((h.flatten.length : Int) ≤ 4096) : Bool) = rightH h := by first | exact right_no hx0 (by simpa using b1) | exact right_end hs (by omega)
    have ev_ := cg1 (fun (x_0 : Bool) => (.bool x_0 : Value)) e0
    exact ⟨ev_, H3.below⟩
set_option maxRecDepth 100000 in
set_option maxHeartbeats 1600000 in
theorem ref06_Small {M : Nat → Prop} {w : World} {a_h : Option Addr} {c_h : Nat} {h : List (List (Bool × ByteArray × Int))} {m : Int} (hM : ∀ b, M b → b < w.heap.size) (h_h : RV M w (.slice a_h h.length c_h) h) (h_m : I64 m) (hb_h : h.flatten.length ≤ 1048576) : Calls Try.prog 6 #[.slice a_h h.length c_h, .int .i64 m] w (Ret fun v w' =>  v = .bool (smallH h m) ∧ Ext w w') := by
  refine enter 32 Try.func6 rfl rfl rfl fun f0 ha => ?_
  have H := HI.start (M0 := M) (w := w) hM
  have H0 := H.put (it := imm (.slice a_h h.length c_h) h) rfl (by rw [MS_nil]; exact h_h)
  have ln_h := rv_len h_h
  have i0 : f0 0 = .slice a_h h.length c_h := ha 0 (by simp)
  have i1 : f0 1 = .int .i64 m := ha 1 (by simp)
  refine sq (rg (k (asg (v := .bool false) rfl rfl (z (nx (sq (sq (rg (k (mv rfl i0 (k (lnS rfl rfl un22 (k (mv rfl i1 (k (gtr rfl rfl rfl rfl (k (mv (v := .bool (decide (m < (h.length : Int)))) rfl rfl ?_))))))))))))))))))
  rcases Bool.eq_false_or_eq_true (decide (m < (h.length : Int))) with b0 | b0
  · -- decide (m < (h.length : Int)) is True
    have p0 := of_decide_eq_true b0
    refine k (gn rfl rfl rfl b0 (k (gn rfl rfl rfl b0 (k (gn rfl rfl rfl b0 (k (gn rfl rfl rfl b0 (k (pickT rfl rfl rfl rfl b0 rfl (z (nx (cdT rfl rfl rfl (sq (rg (k (asg (v := .bool false) rfl rfl (z (nx (rt (then_ret (r1 rfl rfl ?_)))))))))))))))))))))
    have e0 : (false : Bool) = smallH h m := by first | exact small_no1 p0 | exact small_no2 p1 | exact small_no3 hx0 (by simpa using b3) | exact small_end p0 p1 hs (by omega)
    have ev_ := cg1 (fun (x_0 : Bool) => (.bool x_0 : Value)) e0
    exact ⟨ev_, H0.below⟩
  · -- decide (m < (h.length : Int)) is False
    have p0 := of_decide_eq_false b0
    refine k (gy rfl rfl rfl b0 (mv rfl i0 (k (gy rfl rfl rfl b0 ?_))))
    have cc0 := ref06_Count (h := h) (w := w) H0.mb (H0.rv 0 rfl) (by exact hb_h)
    refine ca go23 rfl (ec rfl e0) cc0 ?_
    rintro _ w0 ⟨rfl, xt0⟩
    have H1 := H0.ext xt0
    refine k (gy rfl rfl rfl b0 (mv rfl i1 (k (gy rfl rfl rfl b0 (gtr rfl rfl rfl rfl (k (pickF rfl rfl rfl rfl b0 rfl (z (nx ?_)))))))))
    refine cd (b := decide (m < (h.flatten.length : Int))) rfl rfl (fun b1 => ?_) (fun b1 => ?_)
    ·
      have p1 := of_decide_eq_true b1
      refine sq (rg (k (asg (v := .bool false) rfl rfl (z (nx (rt (then_ret (r1 rfl rfl ?_))))))))
      have e0 : (false : Bool) = smallH h m := by first | exact small_no1 p0 | exact small_no2 p1 | exact small_no3 hx0 (by simpa using b3) | exact small_end p0 p1 hs (by omega)
      have ev_ := cg1 (fun (x_0 : Bool) => (.bool x_0 : Value)) e0
      exact ⟨ev_, H1.below⟩
    ·
      have p1 := of_decide_eq_false b1
      refine sk (nx (sq (rg (k (mv rfl i0 (k ?_))))))
      have cc1 := ref06_Flat (h := h) (w := w0) H1.mb (H1.rv 0 rfl) (by exact hb_h)
      refine ca go24 rfl (ec rfl e0) cc1 ?_
      rintro _ w1 ⟨a0, c0, rfl, xt1, rv0⟩
      have H2 := H1.ext xt1
      have H3 := H2.put (it := imm (.slice a0 h.flatten.length c0) h.flatten) rfl rv0
      refine k (asg (v := .slice a0 h.flatten.length c0) rfl rfl (z (nx (sq (sq (rg (k (asg (v := .int .i64 0) rfl rfl (z (nx (bk ?_)))))))))))
      refine lp (fun m f w' => ∃ (j : Nat), m = h.flatten.length - j ∧ f 5 = .slice a0 h.flatten.length c0 ∧ f 6 = .int .i64 (j : Int) ∧  HI M w w' [imm (.slice a0 h.flatten.length c0) h.flatten, imm (.slice a_h h.length c_h) h] ∧ (j ≤ h.flatten.length) ∧ ((h.flatten.take j).all opShort = true)) _ ⟨0, rfl, rfl, (ieq rfl (by first | rfl | omega | simp)), H3, (by first | assumption | omega | simp | (simp; omega)), (by rfl)⟩ ?_
      rintro _ f0 w2 ⟨j, rfl, s0, s1, H4, hk, hs⟩
      refine sq (sq (rg (k (mv rfl s1 (k (mv rfl s0 (k (lnS rfl rfl un47 (k (lss rfl rfl rfl rfl (z (nx ?_))))))))))))
      refine cd (b := decide ((j : Int) < (h.flatten.length : Int))) rfl rfl (fun b2 => ?_) (fun b2 => ?_)
      ·
        have p2 := of_decide_eq_true b2
        refine sk (nx (sq (bk (sq (rg (k (mv rfl s0 (k (mv rfl s1 (k (ia (H4.rv 0 rfl) rfl rfl rfl rfl (by first | omega | (simp; omega)) un47 ty50 ?_)))))))))))
        intro ad0 x0 hx0 hA0
        refine k (fa fl50_1 rfl rfl (k (ldS ((hA0).s1).fst.w ty9 rfl rfl ?_)))
        intro rv1
        refine k (lnT rfl rfl un9 (k (gtr rfl rfl rfl rfl (z (nx ?_)))))
        refine cd (b := decide (20 < (x0.2.1.size : Int))) rfl rfl (fun b3 => ?_) (fun b3 => ?_)
        ·
          have p3 := of_decide_eq_true b3
          refine sq (rg (k (asg (v := .bool false) rfl rfl (z (nx (rt (inb_ret (then_ret (loop_ret (inb_ret (then_ret (r1 rfl rfl ?_))))))))))))
          have e0 : (false : Bool) = smallH h m := by first | exact small_no1 p0 | exact small_no2 p1 | exact small_no3 hx0 (by simpa using b3) | exact small_end p0 p1 hs (by omega)
          have ev_ := cg1 (fun (x_0 : Bool) => (.bool x_0 : Value)) e0
          exact ⟨ev_, H4.below⟩
        ·
          have p3 := of_decide_eq_false b3
          refine sk (inb_normal (nx (rg (k (mv rfl s1 (k (add rfl rfl rfl rfl (by unfold I64 at *; omega) (k (asg (v := .int .i64 ((j : Int) + 1)) rfl rfl (z ?_))))))))))
          refine loopN _ ?_ ⟨(j + 1), rfl, s0, (ieq rfl (by first | rfl | omega | (push_cast; omega))), H4, (by first | assumption | omega | simp | (simp; omega)), (by exact all_take hx0 hs (decide_eq_true (by omega)))⟩
          omega
      ·
        have p2 := of_decide_eq_false b2
        refine ex (then_exit (loop_exit (inb_here (nx (sq (rg (k (asg (v := .bool true) rfl rfl (z (nx (rt (r1 rfl rfl ?_))))))))))))
        have e0 : (true : Bool) = smallH h m := by first | exact small_no1 p0 | exact small_no2 p1 | exact small_no3 hx0 (by simpa using b3) | exact small_end p0 p1 hs (by omega)
        have ev_ := cg1 (fun (x_0 : Bool) => (.bool x_0 : Value)) e0
        exact ⟨ev_, H4.below⟩
set_option maxRecDepth 100000 in
set_option maxHeartbeats 1600000 in
theorem ref09_find {M : Nat → Prop} {w : World} {a_l : Option Addr} {c_l : Nat} {l : List ByteArray} {s : ByteArray} (hM : ∀ b, M b → b < w.heap.size) (h_l : RV M w (.slice a_l l.length c_l) l) (h_s : s.size ≤ maxLen) : Calls Try.prog 44 #[.slice a_l l.length c_l, .string s] w (Ret fun v w' =>  v = .int .i64 (findS l s) ∧ Ext w w') := by
  refine enter 19 Try.func44 rfl rfl rfl fun f0 ha => ?_
  have H := HI.start (M0 := M) (w := w) hM
  have H0 := H.put (it := imm (.slice a_l l.length c_l) l) rfl (by rw [MS_nil]; exact h_l)
  have ln_l := rv_len h_l
  have i0 : f0 0 = .slice a_l l.length c_l := ha 0 (by simp)
  have i1 : f0 1 = .string s := ha 1 (by simp)
  refine sq (rg (k (asg (v := .int .i64 0) rfl rfl (z (nx (sq (sq (rg (k (asg (v := .int .i64 0) rfl rfl (z (nx (bk ?_)))))))))))))
  refine lp (fun m f w' => ∃ (j : Nat), m = l.length - j ∧ f 0 = .slice a_l l.length c_l ∧ f 1 = .string s ∧ f 5 = .int .i64 (j : Int) ∧  HI M w w' [imm (.slice a_l l.length c_l) l] ∧ (j ≤ l.length) ∧ ((l.take j).any (isS s) = false)) _ ⟨0, rfl, i0, i1, (ieq rfl (by first | rfl | omega | simp)), H0, (by first | assumption | omega | simp | (simp; omega)), (by simp)⟩ ?_
  rintro _ f0 w0 ⟨j, rfl, s0, s1, s2, H1, hk, hs⟩
  refine sq (sq (rg (k (mv rfl s2 (k (mv rfl s0 (k (lnS rfl rfl un25 (k (lss rfl rfl rfl rfl (z (nx ?_))))))))))))
  refine cd (b := decide ((j : Int) < (l.length : Int))) rfl rfl (fun b0 => ?_) (fun b0 => ?_)
  ·
    have p0 := of_decide_eq_true b0
    refine sk (nx (sq (bk (sq (rg (k (mv rfl s0 (k (mv rfl s2 (k (ia (H1.rv 0 rfl) rfl rfl rfl rfl (by first | omega | (simp; omega)) un25 ty9 ?_)))))))))))
    intro ad0 x0 hx0 hA0
    refine k (ldS hA0.w ty9 rfl rfl ?_)
    intro rv0
    refine k (mv rfl s1 (k (eqS rfl rfl rfl rfl (z (nx ?_)))))
    refine cd (b := decide (x0 = s)) rfl rfl (fun b1 => ?_) (fun b1 => ?_)
    ·
      have p1 := of_decide_eq_true b1
      refine sq (rg (k (mv rfl s2 (k (asg (v := .int .i64 (j : Int)) rfl rfl (z (nx (rt (inb_ret (then_ret (loop_ret (inb_ret (then_ret (r1 rfl rfl ?_))))))))))))))
      have e0 : ((j : Int) : Int) = findS l s := by first | exact idxF_hit hx0 hs b1 | exact idxF_miss hs (by omega)
      have ev_ := cg1 (fun (x_0 : Int) => (.int .i64 x_0 : Value)) e0
      exact ⟨ev_, H1.below⟩
    ·
      have p1 := of_decide_eq_false b1
      refine sk (inb_normal (nx (rg (k (mv rfl s2 (k (add rfl rfl rfl rfl (by unfold I64 at *; omega) (k (asg (v := .int .i64 ((j : Int) + 1)) rfl rfl (z ?_))))))))))
      refine loopN _ ?_ ⟨(j + 1), rfl, s0, s1, (ieq rfl (by first | rfl | omega | (push_cast; omega))), H1, (by first | assumption | omega | simp | (simp; omega)), (by exact any_step hx0 hs b1)⟩
      omega
  ·
    have p0 := of_decide_eq_false b0
    refine ex (then_exit (loop_exit (inb_here (nx (sq (rg (k (asg (v := .int .i64 (-1)) rfl rfl (z (nx (rt (r1 rfl rfl ?_))))))))))))
    have e0 : ((-1) : Int) = findS l s := by first | exact idxF_hit hx0 hs b1 | exact idxF_miss hs (by omega)
    have ev_ := cg1 (fun (x_0 : Int) => (.int .i64 x_0 : Value)) e0
    exact ⟨ev_, H1.below⟩
set_option maxRecDepth 100000 in
set_option maxHeartbeats 1600000 in
theorem ref09_Of {M : Nat → Prop} {w : World} {a_h : Option Addr} {c_h : Nat} {h : List (List (Bool × ByteArray × Int))} (hM : ∀ b, M b → b < w.heap.size) (h_h : RV M w (.slice a_h h.length c_h) h) (hb_h : h.flatten.length ≤ 1048576) : Calls Try.prog 25 #[.slice a_h h.length c_h] w (Ret fun v w' => ∃ (a0 : Option Addr) (c0 : Nat) (a1 : Option Addr) (c1 : Nat) (a2 : Option Addr) (c2 : Nat), v = .tuple #[.agg #[.slice a0 (ofV h).length c0, .slice a1 (ofI h).length c1, .slice a2 ([] : List Int).length c2], .int .i64 (ofE h)] ∧ Ext w w' ∧ RV M w' (.slice a0 (ofV h).length c0) (ofV h) ∧ RV M w' (.slice a1 (ofI h).length c1) (ofI h) ∧ RV M w' (.slice a2 ([] : List Int).length c2) ([] : List Int)) := by
  refine enter 66 Try.func25 rfl rfl rfl fun f0 ha => ?_
  have H := HI.start (M0 := M) (w := w) hM
  have H0 := H.put (it := imm (.slice a_h h.length c_h) h) rfl (by rw [MS_nil]; exact h_h)
  have ln_h := rv_len h_h
  have i0 : f0 0 = .slice a_h h.length c_h := ha 0 (by simp)
  refine sq (rg (k (al H0 ty29 ?_)))
  intro bb0 w0 xt0 (H1 : HI M w w0 [box bb0 #[.slice none 0 0, .slice none 0 0, .slice none 0 0] 29, imm (.slice a_h h.length c_h) h])
  refine k (asg (v := .int .i64 0) rfl rfl (z (nx (sq (sq (rg (k (mv rfl i0 (k ?_)))))))))
  have cc0 := ref06_Right (h := h) (w := w0) H1.mb (H1.rv 1 rfl) (by exact hb_h)
  refine ca go43 rfl (ec rfl e0) cc0 ?_
  rintro _ w1 ⟨rfl, xt1⟩
  have H2 := H1.ext xt1
  refine k (not_ rfl rfl (z (nx ?_)))
  refine cd (b := !(rightH h)) rfl rfl (fun b0 => ?_) (fun b0 => ?_)
  ·
    refine sq ?_
    have hq : rightH h = false := by simpa using b0
    refine rg (k (bd (v := .agg #[.slice none 0 0, .slice none 0 0, .slice none 0 0]) rfl pb0 (fun _ => by kernel_rfl) (k (stX H2 0 rfl ty29 rfl rfl rfl rfl rfl rfl rfl ?_))))
    intro w2 (H3 : HI M w w2 [box bb0 #[.slice none 0 0, .slice none 0 0, .slice none 0 0] 29, imm (.slice a_h h.length c_h) h])
    refine k (asg (v := .int .i64 1) rfl rfl (z (nx (rt (then_ret (rc2 H3 0 rfl ty29 rfl rfl rfl rfl rfl (by decide) ?_))))))
    have e0 : ([] : List ByteArray) = ofV h := by first | exact (of_bad hq).1.symm | (rw [(of_ok hq).1, h1]; unfold factV; rw [show i = h.length from by omega])
    have e1 : ([] : List (Int × Int × Bool × Int × Int)) = ofI h := by first | exact (of_bad hq).2.1.symm | (rw [(of_ok hq).2.1, h2]; unfold factI; rw [show i = h.length from by omega])
    have e2 : ([] : List Int) = ([] : List Int) := rfl
    have e3 : (1 : Int) = ofE h := by first | exact (of_bad hq).2.2.symm | exact (of_ok hq).2.2.symm
    have ev_ := cg4 (fun (x_0 : List ByteArray) (x_1 : List (Int × Int × Bool × Int × Int)) (x_2 : List Int) (x_3 : Int) => (.tuple #[.agg #[.slice none x_0.length 0, .slice none x_1.length 0, .slice none x_2.length 0], .int .i64 x_3] : Value)) e0 e1 e2 e3
    exact ⟨none, 0, none, 0, none, 0, ev_, H3.below, (congrArg (fun (x_ : List ByteArray) => RV _ _ (.slice none x_.length 0) x_) e0).mp (rv_nil _ _), (congrArg (fun (x_ : List (Int × Int × Bool × Int × Int)) => RV _ _ (.slice none x_.length 0) x_) e1).mp (rv_nil _ _), (congrArg (fun (x_ : List Int) => RV _ _ (.slice none x_.length 0) x_) e2).mp (rv_nil _ _)⟩
  ·
    refine sk (nx (sq ?_))
    have hq : rightH h = true := by simpa using b0
    refine rg (k (al H2 ty29 ?_))
    intro bb1 w2 xt2 (H3 : HI M w w2 [box bb1 #[.slice none 0 0, .slice none 0 0, .slice none 0 0] 29, box bb0 #[.slice none 0 0, .slice none 0 0, .slice none 0 0] 29, imm (.slice a_h h.length c_h) h])
    refine z (nx (sq (sq (rg (k (asg (v := .int .i64 0) rfl rfl (z (nx (bk ?_)))))))))
    have H4 := H3.nil_ ByteArray 9
    have H5 := H4.nil_ (Int × Int × Bool × Int × Int) 70
    refine lp (fun m f w' => ∃ (i : Nat) (vs : List ByteArray) (its : List (Int × Int × Bool × Int × Int)) (a0 : Option Addr) (c0 : Nat) (a1 : Option Addr) (c1 : Nat), m = h.length - i ∧ f 0 = .slice a_h h.length c_h ∧ f 2 = .pointer (some ⟨bb0, 0, none⟩) ∧ f 4 = .pointer (some ⟨bb1, 0, none⟩) ∧ f 5 = .int .i64 (i : Int) ∧  HI M w w' [own w.heap.size 70 (.slice a1 its.length c1) its, own w.heap.size 9 (.slice a0 vs.length c0) vs, box bb1 #[.slice a0 vs.length c0, .slice a1 its.length c1, .slice none 0 0] 29, box bb0 #[.slice none 0 0, .slice none 0 0, .slice none 0 0] 29, imm (.slice a_h h.length c_h) h] ∧ (i ≤ h.length) ∧ (vs = (allO h i).1) ∧ (its = (allO h i).2)) _ ⟨0, ([] : List ByteArray), ([] : List (Int × Int × Bool × Int × Int)), none, 0, none, 0, rfl, i0, rfl, rfl, (ieq rfl (by first | rfl | omega | simp)), H5, (by first | assumption | omega | simp | (simp; omega)), (by rfl), (by rfl)⟩ ?_
    rintro _ f0 w3 ⟨i, vs, its, a0, c0, a1, c1, rfl, s0, s1, s2, s3, H6, hi_, h1, h2⟩
    refine sq (sq (rg (k (mv rfl s3 (k (mv rfl s0 (k (lnS rfl rfl un22 (k (lss rfl rfl rfl rfl (z (nx ?_))))))))))))
    refine cd (b := decide ((i : Int) < (h.length : Int))) rfl rfl (fun b1 => ?_) (fun b1 => ?_)
    ·
      have p1 := of_decide_eq_true b1
      refine sk (nx (sq (bk (sq (rg (k (asg (v := .int .i64 0) rfl rfl (z (nx (bk ?_))))))))))
      refine lp (fun m f w' => ∃ (q : Nat) (vs : List ByteArray) (its : List (Int × Int × Bool × Int × Int)) (a2 : Option Addr) (c2 : Nat) (a3 : Option Addr) (c3 : Nat), m = (h.getD i []).length - q ∧ f 0 = .slice a_h h.length c_h ∧ f 2 = .pointer (some ⟨bb0, 0, none⟩) ∧ f 4 = .pointer (some ⟨bb1, 0, none⟩) ∧ f 5 = .int .i64 (i : Int) ∧ f 6 = .int .i64 (q : Int) ∧  HI M w w' [own w.heap.size 70 (.slice a3 its.length c3) its, own w.heap.size 9 (.slice a2 vs.length c2) vs, box bb1 #[.slice a2 vs.length c2, .slice a3 its.length c3, .slice none 0 0] 29, box bb0 #[.slice none 0 0, .slice none 0 0, .slice none 0 0] 29, imm (.slice a_h h.length c_h) h] ∧ (q ≤ (h.getD i []).length) ∧ (vs = (toO i (allO h i) (h.getD i []) q).1) ∧ (its = (toO i (allO h i) (h.getD i []) q).2)) _ ⟨0, vs, its, a0, c0, a1, c1, rfl, s0, s1, s2, s3, (ieq rfl (by first | rfl | omega | simp)), H6, (by first | assumption | omega | simp | (simp; omega)), (by exact h1), (by exact h2)⟩ ?_
      rintro _ f1 w4 ⟨q, vs, its, a2, c2, a3, c3, rfl, s4, s5, s6, s7, s8, H7, hk, h1, h2⟩
      refine sq (sq (rg (k (mv rfl s8 (k (mv rfl s4 (k (mv rfl s7 (k (ia (H7.rv 4 rfl) rfl rfl rfl rfl (by first | omega | (simp; omega)) un22 ty47 ?_))))))))))
      intro ad0 x0 hx0 hA0
      refine k (ldL hA0.w ty47 rfl rfl ?_)
      intro a4 c4 rv0
      have ln0 := rv_len rv0
      have H8 := H7.put (it := imm (.slice a4 x0.length c4) x0) rfl rv0
      refine k (lnS rfl rfl un47 (k (lss rfl rfl rfl rfl (z (nx ?_)))))
      refine cd (b := decide ((q : Int) < (x0.length : Int))) rfl rfl (fun b2 => ?_) (fun b2 => ?_)
      ·
        have p2 := of_decide_eq_true b2
        refine sk (nx (sq (bk (sq (rg (k (mv rfl s4 (k (mv rfl s7 (k (ia (H8.rv 5 rfl) rfl rfl rfl rfl (by first | omega | (simp; omega)) un22 ty47 ?_)))))))))))
        intro ad1 x1 hx1 hA1
        refine k (ldL hA1.w ty47 rfl rfl ?_)
        intro a5 c5 rv1
        have ln1 := rv_len rv1
        have H9 := H8.put (it := imm (.slice a5 x1.length c5) x1) rfl rv1
        refine k (mv rfl s8 (k (ia (H9.rv 0 rfl) rfl rfl rfl rfl (by have e_ := at_is hx1 hx0; subst e_; omega) un47 ty50 ?_)))
        intro ad2 x2 hx2 hA2
        refine k (ldW hA2.w ty50 rfl rfl ?_)
        intro v0 rv2
        obtain ⟨_, ⟨_, _, rfl, rfl, ⟨_, _, rfl, ⟨rfl, rv3⟩, ⟨rfl, rv4⟩⟩⟩, rfl⟩ := rv2
        refine k (al H9 ty50 ?_)
        intro bb2 w5 xt3 (H10 : HI M w w5 [box bb2 #[.bool false, .string ⟨#[]⟩, .int .i64 0] 50, imm (.slice a5 x1.length c5) x1, imm (.slice a4 x0.length c4) x0, own w.heap.size 70 (.slice a3 its.length c3) its, own w.heap.size 9 (.slice a2 vs.length c2) vs, box bb1 #[.slice a2 vs.length c2, .slice a3 its.length c3, .slice none 0 0] 29, box bb0 #[.slice none 0 0, .slice none 0 0, .slice none 0 0] 29, imm (.slice a_h h.length c_h) h])
        refine k (stX H10 0 rfl ty50 rfl rfl rfl rfl rfl rfl rfl ?_)
        intro w6 (H11 : HI M w w6 [box bb2 #[.bool x2.1, .string x2.2.1, .int .i64 x2.2.2] 50, imm (.slice a5 x1.length c5) x1, imm (.slice a4 x0.length c4) x0, own w.heap.size 70 (.slice a3 its.length c3) its, own w.heap.size 9 (.slice a2 vs.length c2) vs, box bb1 #[.slice a2 vs.length c2, .slice a3 its.length c3, .slice none 0 0] 29, box bb0 #[.slice none 0 0, .slice none 0 0, .slice none 0 0] 29, imm (.slice a_h h.length c_h) h])
        refine z (nx (sq (rg (k (fa fl29_0 rfl s6 (k (ldX H11 5 rfl ty25 rfl rfl (by decide) rfl (k (fa fl50_1 rfl rfl (k (ldX H11 0 rfl ty9 rfl rfl (by decide) rfl (k ?_))))))))))))
        have H12 := H11.freeze 4 rfl
        have cc1 := ref09_find (l := vs) (s := x2.2.1) (w := w6) H12.mb (H12.rv 4 rfl) (by assumption)
        refine ca go44 rfl (ec rfl (ec rfl e0)) cc1 ?_
        rintro _ w7 ⟨rfl, xt4⟩
        have H13 := H11.ext xt4
        refine k (asg (v := .int .i64 (findS vs x2.2.1)) rfl rfl (z (nx (sq (sq (rg (k (mv (v := .int .i64 (findS vs x2.2.1)) rfl rfl (k (lss rfl rfl rfl rfl (z (nx ?_))))))))))))
        refine cd (b := decide ((findS vs x2.2.1) < 0)) rfl rfl (fun b3 => ?_) (fun b3 => ?_)
        ·
          have p3 := of_decide_eq_true b3
          refine sq (rg (k (fa fl29_0 rfl s6 (k (ldX H13 5 rfl ty25 rfl rfl (by decide) rfl (k (lnS rfl rfl un25 (k (asg (v := .int .i64 (vs.length : Int)) rfl rfl (z (nx (rg (k (fa fl29_0 rfl s6 (k (ldX H13 5 rfl ty25 rfl rfl (by decide) rfl (k (fa fl50_1 rfl rfl (k (ldX H13 0 rfl ty9 rfl rfl (by decide) rfl (k (bs (xs := ([x2.2.1] : List ByteArray)) (cells := #[.string x2.2.1]) (e := 9) H13 rfl (pbc rfl pb0) (fun _ => by kernel_rfl) ⟨[.string x2.2.1], [], rfl, ⟨rfl, (by assumption)⟩, rfl⟩ rfl (by unfold maxLen; omega) ?_))))))))))))))))))))))
          intro g0 w8 xt5 (H14 : HI M w w8 [own w.heap.size 9 (.slice (some ⟨g0, 0, none⟩) 1 1) ([x2.2.1] : List ByteArray), box bb2 #[.bool x2.1, .string x2.2.1, .int .i64 x2.2.2] 50, imm (.slice a5 x1.length c5) x1, imm (.slice a4 x0.length c4) x0, own w.heap.size 70 (.slice a3 its.length c3) its, own w.heap.size 9 (.slice a2 vs.length c2) vs, box bb1 #[.slice a2 vs.length c2, .slice a3 its.length c3, .slice none 0 0] 29, box bb0 #[.slice none 0 0, .slice none 0 0, .slice none 0 0] 29, imm (.slice a_h h.length c_h) h])
          refine k (ap H14 5 rfl rfl rfl rfl rfl rfl (own_src (H14.at_ 0 rfl)) un25 ty9 rfl (by have e_ := at_is hx1 hx0; have h_ := of_room (k := q) hx0 (by omega); rw [← getD_row hx0, ← h1, ← h2] at h_; simp only [List.length_cons, List.length_nil]; omega) (by have e_ := at_is hx1 hx0; have h_ := of_room (k := q) hx0 (by omega); rw [← getD_row hx0, ← h1, ← h2] at h_; simp only [List.length_cons, List.length_nil]; omega) ?_)
          intro a6 c6 w9 (H15 : HI M w w9 [own w.heap.size 9 (.slice (some ⟨g0, 0, none⟩) 1 1) ([x2.2.1] : List ByteArray), box bb2 #[.bool x2.1, .string x2.2.1, .int .i64 x2.2.2] 50, imm (.slice a5 x1.length c5) x1, imm (.slice a4 x0.length c4) x0, own w.heap.size 70 (.slice a3 its.length c3) its, own w.heap.size 9 (.slice a6 (vs ++ ([x2.2.1] : List ByteArray)).length c6) (vs ++ ([x2.2.1] : List ByteArray)), box bb1 #[.slice a2 vs.length c2, .slice a3 its.length c3, .slice none 0 0] 29, box bb0 #[.slice none 0 0, .slice none 0 0, .slice none 0 0] 29, imm (.slice a_h h.length c_h) h])
          refine k (fa fl29_0 rfl s6 (k (stX H15 6 rfl ty25 rfl rfl rfl rfl rfl rfl rfl ?_)))
          intro w10 (H16 : HI M w w10 [own w.heap.size 9 (.slice (some ⟨g0, 0, none⟩) 1 1) ([x2.2.1] : List ByteArray), box bb2 #[.bool x2.1, .string x2.2.1, .int .i64 x2.2.2] 50, imm (.slice a5 x1.length c5) x1, imm (.slice a4 x0.length c4) x0, own w.heap.size 70 (.slice a3 its.length c3) its, own w.heap.size 9 (.slice a6 (vs ++ ([x2.2.1] : List ByteArray)).length c6) (vs ++ ([x2.2.1] : List ByteArray)), box bb1 #[.slice a6 (vs ++ ([x2.2.1] : List ByteArray)).length c6, .slice a3 its.length c3, .slice none 0 0] 29, box bb0 #[.slice none 0 0, .slice none 0 0, .slice none 0 0] 29, imm (.slice a_h h.length c_h) h])
          refine z (nx (rg (k (fa fl29_1 rfl s6 (k (ldX H16 6 rfl ty26 rfl rfl (by decide) rfl (k (mv rfl s7 (k (mv rfl s8 (k (fa fl50_0 rfl rfl (k (ldX H16 1 rfl ty4 rfl rfl (by decide) rfl (k (mv (v := .int .i64 (vs.length : Int)) rfl rfl (k (fa fl50_2 rfl rfl (k (ldX H16 1 rfl ty3 rfl rfl (by decide) rfl (k (bd (v := .agg #[.int .i64 (i : Int), .int .i64 (q : Int), .bool x2.1, .int .i64 (vs.length : Int), .int .i64 x2.2.2]) rfl (pbc rfl (pbc rfl (pbc rfl (pbc rfl (pbc rfl pb0))))) (fun _ => by kernel_rfl) (k (bs (xs := ([((i : Int), (q : Int), x2.1, (vs.length : Int), x2.2.2)] : List (Int × Int × Bool × Int × Int))) (cells := #[.int .i64 (i : Int), .int .i64 (q : Int), .bool x2.1, .int .i64 (vs.length : Int), .int .i64 x2.2.2]) (e := 70) H16 rfl (pbc rfl pb0) (fun _ => by kernel_rfl) ⟨[.int .i64 (i : Int), .int .i64 (q : Int), .bool x2.1, .int .i64 (vs.length : Int), .int .i64 x2.2.2], [], rfl, ⟨_, _, rfl, ⟨rfl, (show I64 ((i : Int)) from (by unfold I64 at *; omega))⟩, ⟨_, _, rfl, ⟨rfl, (show I64 ((q : Int)) from (by unfold I64 at *; omega))⟩, ⟨_, _, rfl, rfl, ⟨_, _, rfl, ⟨rfl, (show I64 ((vs.length : Int)) from (by have e_ := at_is hx1 hx0; have h3 := of_room (k := q) hx0 (by omega); rw [← getD_row hx0, ← h1, ← h2] at h3; unfold I64; omega))⟩, ⟨rfl, (show I64 (x2.2.2) from (by unfold I64 at *; omega))⟩⟩⟩⟩⟩, rfl⟩ rfl (by unfold maxLen; omega) ?_))))))))))))))))))))))))
          intro g1 w11 xt6 (H17 : HI M w w11 [own w.heap.size 70 (.slice (some ⟨g1, 0, none⟩) 1 1) ([((i : Int), (q : Int), x2.1, (vs.length : Int), x2.2.2)] : List (Int × Int × Bool × Int × Int)), own w.heap.size 9 (.slice (some ⟨g0, 0, none⟩) 1 1) ([x2.2.1] : List ByteArray), box bb2 #[.bool x2.1, .string x2.2.1, .int .i64 x2.2.2] 50, imm (.slice a5 x1.length c5) x1, imm (.slice a4 x0.length c4) x0, own w.heap.size 70 (.slice a3 its.length c3) its, own w.heap.size 9 (.slice a6 (vs ++ ([x2.2.1] : List ByteArray)).length c6) (vs ++ ([x2.2.1] : List ByteArray)), box bb1 #[.slice a6 (vs ++ ([x2.2.1] : List ByteArray)).length c6, .slice a3 its.length c3, .slice none 0 0] 29, box bb0 #[.slice none 0 0, .slice none 0 0, .slice none 0 0] 29, imm (.slice a_h h.length c_h) h])
          refine k (ap H17 5 rfl rfl rfl rfl rfl rfl (own_src (H17.at_ 0 rfl)) un26 ty70 rfl (by have e_ := at_is hx1 hx0; have h_ := of_room (k := q) hx0 (by omega); rw [← getD_row hx0, ← h1, ← h2] at h_; simp only [List.length_cons, List.length_nil]; omega) (by have e_ := at_is hx1 hx0; have h_ := of_room (k := q) hx0 (by omega); rw [← getD_row hx0, ← h1, ← h2] at h_; simp only [List.length_cons, List.length_nil]; omega) ?_)
          intro a7 c7 w12 (H18 : HI M w w12 [own w.heap.size 70 (.slice (some ⟨g1, 0, none⟩) 1 1) ([((i : Int), (q : Int), x2.1, (vs.length : Int), x2.2.2)] : List (Int × Int × Bool × Int × Int)), own w.heap.size 9 (.slice (some ⟨g0, 0, none⟩) 1 1) ([x2.2.1] : List ByteArray), box bb2 #[.bool x2.1, .string x2.2.1, .int .i64 x2.2.2] 50, imm (.slice a5 x1.length c5) x1, imm (.slice a4 x0.length c4) x0, own w.heap.size 70 (.slice a7 (its ++ ([((i : Int), (q : Int), x2.1, (vs.length : Int), x2.2.2)] : List (Int × Int × Bool × Int × Int))).length c7) (its ++ ([((i : Int), (q : Int), x2.1, (vs.length : Int), x2.2.2)] : List (Int × Int × Bool × Int × Int))), own w.heap.size 9 (.slice a6 (vs ++ ([x2.2.1] : List ByteArray)).length c6) (vs ++ ([x2.2.1] : List ByteArray)), box bb1 #[.slice a6 (vs ++ ([x2.2.1] : List ByteArray)).length c6, .slice a3 its.length c3, .slice none 0 0] 29, box bb0 #[.slice none 0 0, .slice none 0 0, .slice none 0 0] 29, imm (.slice a_h h.length c_h) h])
          refine k (fa fl29_1 rfl s6 (k (stX H18 7 rfl ty26 rfl rfl rfl rfl rfl rfl rfl ?_)))
          intro w13 (H19 : HI M w w13 [own w.heap.size 70 (.slice (some ⟨g1, 0, none⟩) 1 1) ([((i : Int), (q : Int), x2.1, (vs.length : Int), x2.2.2)] : List (Int × Int × Bool × Int × Int)), own w.heap.size 9 (.slice (some ⟨g0, 0, none⟩) 1 1) ([x2.2.1] : List ByteArray), box bb2 #[.bool x2.1, .string x2.2.1, .int .i64 x2.2.2] 50, imm (.slice a5 x1.length c5) x1, imm (.slice a4 x0.length c4) x0, own w.heap.size 70 (.slice a7 (its ++ ([((i : Int), (q : Int), x2.1, (vs.length : Int), x2.2.2)] : List (Int × Int × Bool × Int × Int))).length c7) (its ++ ([((i : Int), (q : Int), x2.1, (vs.length : Int), x2.2.2)] : List (Int × Int × Bool × Int × Int))), own w.heap.size 9 (.slice a6 (vs ++ ([x2.2.1] : List ByteArray)).length c6) (vs ++ ([x2.2.1] : List ByteArray)), box bb1 #[.slice a6 (vs ++ ([x2.2.1] : List ByteArray)).length c6, .slice a7 (its ++ ([((i : Int), (q : Int), x2.1, (vs.length : Int), x2.2.2)] : List (Int × Int × Bool × Int × Int))).length c7, .slice none 0 0] 29, box bb0 #[.slice none 0 0, .slice none 0 0, .slice none 0 0] 29, imm (.slice a_h h.length c_h) h])
          refine z (inb_normal (nx (rg (k (mv rfl s8 (k (add rfl rfl rfl rfl (by unfold I64 at *; omega) (k (asg (v := .int .i64 ((q : Int) + 1)) rfl rfl (z ?_))))))))))
          have H20 : HI M w w13 [own w.heap.size 70 (.slice a7 (its ++ ([((i : Int), (q : Int), x2.1, (vs.length : Int), x2.2.2)] : List (Int × Int × Bool × Int × Int))).length c7) (its ++ ([((i : Int), (q : Int), x2.1, (vs.length : Int), x2.2.2)] : List (Int × Int × Bool × Int × Int))), own w.heap.size 9 (.slice a6 (vs ++ ([x2.2.1] : List ByteArray)).length c6) (vs ++ ([x2.2.1] : List ByteArray)), box bb1 #[.slice a6 (vs ++ ([x2.2.1] : List ByteArray)).length c6, .slice a7 (its ++ ([((i : Int), (q : Int), x2.1, (vs.length : Int), x2.2.2)] : List (Int × Int × Bool × Int × Int))).length c7, .slice none 0 0] 29, box bb0 #[.slice none 0 0, .slice none 0 0, .slice none 0 0] 29, imm (.slice a_h h.length c_h) h] := H19.pickN [5, 6, 7, 8, 9] (by decide) rfl
          refine loopN _ ?_ ⟨(q + 1), (vs ++ ([x2.2.1] : List ByteArray)), (its ++ ([((i : Int), (q : Int), x2.1, (vs.length : Int), x2.2.2)] : List (Int × Int × Bool × Int × Int))), a6, c6, a7, c7, rfl, s4, s5, s6, s7, (ieq rfl (by first | rfl | omega | (push_cast; omega))), H20, (by rw [getD_row hx0]; omega), (by rw [h1] at *; have e_ := at_is hx1 hx0; subst e_; rw [getD_row hx0] at *; first | exact (step_new hx2 p3).1 | exact (step_old hx2 p3).1), (by rw [h1, h2] at *; have e_ := at_is hx1 hx0; subst e_; rw [getD_row hx0] at *; first | exact (step_new hx2 p3).2 | exact (step_old hx2 p3).2)⟩
          rw [getD_row hx0]; omega
        ·
          have p3 := of_decide_eq_false b3
          refine sk (nx (rg (k (fa fl29_1 rfl s6 (k (ldX H13 5 rfl ty26 rfl rfl (by decide) rfl (k (mv rfl s7 (k (mv rfl s8 (k (fa fl50_0 rfl rfl (k (ldX H13 0 rfl ty4 rfl rfl (by decide) rfl (k (mv (v := .int .i64 (findS vs x2.2.1)) rfl rfl (k (fa fl50_2 rfl rfl (k (ldX H13 0 rfl ty3 rfl rfl (by decide) rfl (k (bd (v := .agg #[.int .i64 (i : Int), .int .i64 (q : Int), .bool x2.1, .int .i64 (findS vs x2.2.1), .int .i64 x2.2.2]) rfl (pbc rfl (pbc rfl (pbc rfl (pbc rfl (pbc rfl pb0))))) (fun _ => by kernel_rfl) (k (bs (xs := ([((i : Int), (q : Int), x2.1, findS vs x2.2.1, x2.2.2)] : List (Int × Int × Bool × Int × Int))) (cells := #[.int .i64 (i : Int), .int .i64 (q : Int), .bool x2.1, .int .i64 (findS vs x2.2.1), .int .i64 x2.2.2]) (e := 70) H13 rfl (pbc rfl pb0) (fun _ => by kernel_rfl) ⟨[.int .i64 (i : Int), .int .i64 (q : Int), .bool x2.1, .int .i64 (findS vs x2.2.1), .int .i64 x2.2.2], [], rfl, ⟨_, _, rfl, ⟨rfl, (show I64 ((i : Int)) from (by unfold I64 at *; omega))⟩, ⟨_, _, rfl, ⟨rfl, (show I64 ((q : Int)) from (by unfold I64 at *; omega))⟩, ⟨_, _, rfl, rfl, ⟨_, _, rfl, ⟨rfl, (show I64 (findS vs x2.2.1) from (by have h_ := idxF_range (p := isS x2.2.1) (r := vs); have e_ := at_is hx1 hx0; have h3 := of_room (k := q) hx0 (by omega); rw [← getD_row hx0, ← h1, ← h2] at h3; unfold findS; unfold I64; omega))⟩, ⟨rfl, (show I64 (x2.2.2) from (by unfold I64 at *; omega))⟩⟩⟩⟩⟩, rfl⟩ rfl (by unfold maxLen; omega) ?_))))))))))))))))))))))))
          intro g0 w8 xt5 (H14 : HI M w w8 [own w.heap.size 70 (.slice (some ⟨g0, 0, none⟩) 1 1) ([((i : Int), (q : Int), x2.1, findS vs x2.2.1, x2.2.2)] : List (Int × Int × Bool × Int × Int)), box bb2 #[.bool x2.1, .string x2.2.1, .int .i64 x2.2.2] 50, imm (.slice a5 x1.length c5) x1, imm (.slice a4 x0.length c4) x0, own w.heap.size 70 (.slice a3 its.length c3) its, own w.heap.size 9 (.slice a2 vs.length c2) vs, box bb1 #[.slice a2 vs.length c2, .slice a3 its.length c3, .slice none 0 0] 29, box bb0 #[.slice none 0 0, .slice none 0 0, .slice none 0 0] 29, imm (.slice a_h h.length c_h) h])
          refine k (ap H14 4 rfl rfl rfl rfl rfl rfl (own_src (H14.at_ 0 rfl)) un26 ty70 rfl (by have e_ := at_is hx1 hx0; have h_ := of_room (k := q) hx0 (by omega); rw [← getD_row hx0, ← h1, ← h2] at h_; simp only [List.length_cons, List.length_nil]; omega) (by have e_ := at_is hx1 hx0; have h_ := of_room (k := q) hx0 (by omega); rw [← getD_row hx0, ← h1, ← h2] at h_; simp only [List.length_cons, List.length_nil]; omega) ?_)
          intro a6 c6 w9 (H15 : HI M w w9 [own w.heap.size 70 (.slice (some ⟨g0, 0, none⟩) 1 1) ([((i : Int), (q : Int), x2.1, findS vs x2.2.1, x2.2.2)] : List (Int × Int × Bool × Int × Int)), box bb2 #[.bool x2.1, .string x2.2.1, .int .i64 x2.2.2] 50, imm (.slice a5 x1.length c5) x1, imm (.slice a4 x0.length c4) x0, own w.heap.size 70 (.slice a6 (its ++ ([((i : Int), (q : Int), x2.1, findS vs x2.2.1, x2.2.2)] : List (Int × Int × Bool × Int × Int))).length c6) (its ++ ([((i : Int), (q : Int), x2.1, findS vs x2.2.1, x2.2.2)] : List (Int × Int × Bool × Int × Int))), own w.heap.size 9 (.slice a2 vs.length c2) vs, box bb1 #[.slice a2 vs.length c2, .slice a3 its.length c3, .slice none 0 0] 29, box bb0 #[.slice none 0 0, .slice none 0 0, .slice none 0 0] 29, imm (.slice a_h h.length c_h) h])
          refine k (fa fl29_1 rfl s6 (k (stX H15 6 rfl ty26 rfl rfl rfl rfl rfl rfl rfl ?_)))
          intro w10 (H16 : HI M w w10 [own w.heap.size 70 (.slice (some ⟨g0, 0, none⟩) 1 1) ([((i : Int), (q : Int), x2.1, findS vs x2.2.1, x2.2.2)] : List (Int × Int × Bool × Int × Int)), box bb2 #[.bool x2.1, .string x2.2.1, .int .i64 x2.2.2] 50, imm (.slice a5 x1.length c5) x1, imm (.slice a4 x0.length c4) x0, own w.heap.size 70 (.slice a6 (its ++ ([((i : Int), (q : Int), x2.1, findS vs x2.2.1, x2.2.2)] : List (Int × Int × Bool × Int × Int))).length c6) (its ++ ([((i : Int), (q : Int), x2.1, findS vs x2.2.1, x2.2.2)] : List (Int × Int × Bool × Int × Int))), own w.heap.size 9 (.slice a2 vs.length c2) vs, box bb1 #[.slice a2 vs.length c2, .slice a6 (its ++ ([((i : Int), (q : Int), x2.1, findS vs x2.2.1, x2.2.2)] : List (Int × Int × Bool × Int × Int))).length c6, .slice none 0 0] 29, box bb0 #[.slice none 0 0, .slice none 0 0, .slice none 0 0] 29, imm (.slice a_h h.length c_h) h])
          refine z (inb_normal (nx (rg (k (mv rfl s8 (k (add rfl rfl rfl rfl (by unfold I64 at *; omega) (k (asg (v := .int .i64 ((q : Int) + 1)) rfl rfl (z ?_))))))))))
          have H17 : HI M w w10 [own w.heap.size 70 (.slice a6 (its ++ ([((i : Int), (q : Int), x2.1, findS vs x2.2.1, x2.2.2)] : List (Int × Int × Bool × Int × Int))).length c6) (its ++ ([((i : Int), (q : Int), x2.1, findS vs x2.2.1, x2.2.2)] : List (Int × Int × Bool × Int × Int))), own w.heap.size 9 (.slice a2 vs.length c2) vs, box bb1 #[.slice a2 vs.length c2, .slice a6 (its ++ ([((i : Int), (q : Int), x2.1, findS vs x2.2.1, x2.2.2)] : List (Int × Int × Bool × Int × Int))).length c6, .slice none 0 0] 29, box bb0 #[.slice none 0 0, .slice none 0 0, .slice none 0 0] 29, imm (.slice a_h h.length c_h) h] := H16.pickN [4, 5, 6, 7, 8] (by decide) rfl
          refine loopN _ ?_ ⟨(q + 1), vs, (its ++ ([((i : Int), (q : Int), x2.1, findS vs x2.2.1, x2.2.2)] : List (Int × Int × Bool × Int × Int))), a2, c2, a6, c6, rfl, s4, s5, s6, s7, (ieq rfl (by first | rfl | omega | (push_cast; omega))), H17, (by rw [getD_row hx0]; omega), (by rw [h1] at *; have e_ := at_is hx1 hx0; subst e_; rw [getD_row hx0] at *; first | exact (step_new hx2 p3).1 | exact (step_old hx2 p3).1), (by rw [h1, h2] at *; have e_ := at_is hx1 hx0; subst e_; rw [getD_row hx0] at *; first | exact (step_new hx2 p3).2 | exact (step_old hx2 p3).2)⟩
          rw [getD_row hx0]; omega
      ·
        have p2 := of_decide_eq_false b2
        refine ex (then_exit (loop_exit (inb_here (inb_normal (nx (rg (k (mv rfl s7 (k (add rfl rfl rfl rfl (by unfold I64 at *; omega) (k (asg (v := .int .i64 ((i : Int) + 1)) rfl rfl (z ?_)))))))))))))
        have H9 : HI M w w4 [own w.heap.size 70 (.slice a3 its.length c3) its, own w.heap.size 9 (.slice a2 vs.length c2) vs, box bb1 #[.slice a2 vs.length c2, .slice a3 its.length c3, .slice none 0 0] 29, box bb0 #[.slice none 0 0, .slice none 0 0, .slice none 0 0] 29, imm (.slice a_h h.length c_h) h] := H8.pickN [1, 2, 3, 4, 5] (by decide) rfl
        refine loopN _ ?_ ⟨(i + 1), vs, its, a2, c2, a3, c3, rfl, s4, s5, s6, (ieq rfl (by first | rfl | omega | (push_cast; omega))), H9, (by first | assumption | omega | simp | (simp; omega)), (by rw [h1, allO_end (by omega) (by rw [getD_row hx0]; omega)]), (by rw [h2, allO_end (by omega) (by rw [getD_row hx0]; omega)])⟩
        omega
    ·
      have p1 := of_decide_eq_false b1
      refine ex (then_exit (loop_exit (inb_here (nx (sq (rg (k (ldX H6 2 rfl ty29 rfl s2 (by decide) rfl (k (stX H6 3 rfl ty29 rfl rfl s1 rfl rfl rfl rfl ?_))))))))))
      intro w4 (H7 : HI M w w4 [own w.heap.size 70 (.slice a1 its.length c1) its, own w.heap.size 9 (.slice a0 vs.length c0) vs, box bb1 #[.slice a0 vs.length c0, .slice a1 its.length c1, .slice none 0 0] 29, box bb0 #[.slice a0 vs.length c0, .slice a1 its.length c1, .slice none 0 0] 29, imm (.slice a_h h.length c_h) h])
      refine k (asg (v := .int .i64 0) rfl rfl (z (nx (rt (rc2 H7 3 rfl ty29 rfl rfl rfl s1 rfl (by decide) ?_)))))
      have e0 : (vs : List ByteArray) = ofV h := by first | exact (of_bad hq).1.symm | (rw [(of_ok hq).1, h1]; unfold factV; rw [show i = h.length from by omega])
      have e1 : (its : List (Int × Int × Bool × Int × Int)) = ofI h := by first | exact (of_bad hq).2.1.symm | (rw [(of_ok hq).2.1, h2]; unfold factI; rw [show i = h.length from by omega])
      have e2 : ([] : List Int) = ([] : List Int) := rfl
      have e3 : (0 : Int) = ofE h := by first | exact (of_bad hq).2.2.symm | exact (of_ok hq).2.2.symm
      have ev_ := cg4 (fun (x_0 : List ByteArray) (x_1 : List (Int × Int × Bool × Int × Int)) (x_2 : List Int) (x_3 : Int) => (.tuple #[.agg #[.slice a0 x_0.length c0, .slice a1 x_1.length c1, .slice none x_2.length 0], .int .i64 x_3] : Value)) e0 e1 e2 e3
      exact ⟨a0, c0, a1, c1, none, 0, ev_, H7.below, (congrArg (fun (x_ : List ByteArray) => RV _ _ (.slice a0 x_.length c0) x_) e0).mp (H7.outO 1 rfl), (congrArg (fun (x_ : List (Int × Int × Bool × Int × Int)) => RV _ _ (.slice a1 x_.length c1) x_) e1).mp (H7.outO 0 rfl), (congrArg (fun (x_ : List Int) => RV _ _ (.slice none x_.length 0) x_) e2).mp (rv_nil _ _)⟩
set_option maxRecDepth 100000 in
set_option maxHeartbeats 1600000 in
theorem ref10_Write {M : Nat → Prop} {w : World} {a_fv : Option Addr} {n_fv c_fv : Nat} {a_fi : Option Addr} {c_fi : Nat} {fi : List (Int × Int × Bool × Int × Int)} {a_fo : Option Addr} {n_fo c_fo : Nat} {vr : Int} {val : Int} (hM : ∀ b, M b → b < w.heap.size) (h_fi : RV M w (.slice a_fi fi.length c_fi) fi) (h_vr : I64 vr) (h_val : I64 val) : Calls Try.prog 45 #[.agg #[.slice a_fv n_fv c_fv, .slice a_fi fi.length c_fi, .slice a_fo n_fo c_fo], .int .i64 vr, .int .i64 val] w (Ret fun v w' =>  v = .tuple #[.int .i64 (max (wrI fi vr val) 0), .bool (decide (0 ≤ wrI fi vr val))] ∧ Ext w w') := by
  refine enter 43 Try.func45 rfl rfl rfl fun f0 ha => ?_
  have H := HI.start (M0 := M) (w := w) hM
  have H0 := H.put (it := imm (.slice a_fi fi.length c_fi) fi) rfl (by rw [MS_nil]; exact h_fi)
  have ln_fi := rv_len h_fi
  have i0 : f0 0 = .agg #[.slice a_fv n_fv c_fv, .slice a_fi fi.length c_fi, .slice a_fo n_fo c_fo] := ha 0 (by simp)
  have i1 : f0 1 = .int .i64 vr := ha 1 (by simp)
  have i2 : f0 2 = .int .i64 val := ha 2 (by simp)
  refine sq (rg (k (bx H0 rfl i0 ?_)))
  intro bb0 w0 xt0 (H1 : HI M w w0 [box bb0 #[.slice a_fv n_fv c_fv, .slice a_fi fi.length c_fi, .slice a_fo n_fo c_fo] 29, imm (.slice a_fi fi.length c_fi) fi])
  refine k (asg (v := .int .i64 0) rfl rfl (k (asg (v := .bool false) rfl rfl (z (nx (sq (sq (rg (k (asg (v := .int .i64 0) rfl rfl (z (nx (bk ?_)))))))))))))
  refine lp (fun m f w' => ∃ (j : Nat), m = fi.length - j ∧ f 1 = .int .i64 vr ∧ f 2 = .int .i64 val ∧ f 3 = .pointer (some ⟨bb0, 0, none⟩) ∧ f 8 = .int .i64 (j : Int) ∧  HI M w w' [box bb0 #[.slice a_fv n_fv c_fv, .slice a_fi fi.length c_fi, .slice a_fo n_fo c_fo] 29, imm (.slice a_fi fi.length c_fi) fi] ∧ (j ≤ fi.length) ∧ ((fi.take j).any (isW vr val) = false)) _ ⟨0, rfl, i1, i2, rfl, (ieq rfl (by first | rfl | omega | simp)), H1, (by first | assumption | omega | simp | (simp; omega)), (by simp)⟩ ?_
  rintro _ f0 w1 ⟨j, rfl, s0, s1, s2, s3, H2, hk, hs⟩
  refine sq (sq (rg (k (mv rfl s3 (k (fa fl29_1 rfl s2 (k (ldX H2 0 rfl ty26 rfl rfl (by decide) rfl (k (lnS rfl rfl un26 (k (lss rfl rfl rfl rfl (z (nx ?_))))))))))))))
  refine cd (b := decide ((j : Int) < (fi.length : Int))) rfl rfl (fun b0 => ?_) (fun b0 => ?_)
  ·
    have p0 := of_decide_eq_true b0
    refine sk (nx (sq (bk (sq (rg (k (fa fl29_1 rfl s2 (k (ldX H2 0 rfl ty26 rfl rfl (by decide) rfl (k (mv rfl s3 (k (ia (H2.rv 1 rfl) rfl rfl rfl rfl (by first | omega | (simp; omega)) un26 ty70 ?_)))))))))))))
    intro ad0 x0 hx0 hA0
    refine k (fa fl70_2 rfl rfl (k (ldB ((hA0).s2).fst.w ty4 rfl rfl (k (mv (v := .bool x0.2.2.1) rfl rfl ?_)))))
    rcases Bool.eq_false_or_eq_true (x0.2.2.1) with b1 | b1
    · -- x0.2.2.1 is True
      refine k (gy rfl rfl rfl b1 (fa fl29_1 rfl s2 (k (gy rfl rfl rfl b1 (ldX H2 0 rfl ty26 rfl rfl (by decide) rfl (k (gy rfl rfl rfl b1 (mv rfl s3 (k (gy rfl rfl rfl b1 (ia (H2.rv 1 rfl) rfl rfl rfl rfl (by first | omega | (simp; omega)) un26 ty70 ?_)))))))))))
      intro ad1 x1 hx1 hA1
      refine k (gy rfl rfl rfl b1 (fa fl70_3 rfl rfl (k (gy rfl rfl rfl b1 (ldI ((hA1).s3).fst.w ty3 rfl rfl ?_)))))
      intro rv0
      refine k (gy rfl rfl rfl b1 (mv rfl s0 (k (gy rfl rfl rfl b1 (eql rfl rfl rfl rfl (k (pickT rfl rfl rfl rfl b1 rfl (k (mv (v := .bool (decide (x1.2.2.2.1 = vr))) rfl rfl ?_)))))))))
      rcases Bool.eq_false_or_eq_true (decide (x1.2.2.2.1 = vr)) with b2 | b2
      · -- decide (x1.2.2.2.1 = vr) is True
        have p2 := of_decide_eq_true b2
        refine k (gy rfl rfl rfl b2 (fa fl29_1 rfl s2 (k (gy rfl rfl rfl b2 (ldX H2 0 rfl ty26 rfl rfl (by decide) rfl (k (gy rfl rfl rfl b2 (mv rfl s3 (k (gy rfl rfl rfl b2 (ia (H2.rv 1 rfl) rfl rfl rfl rfl (by first | omega | (simp; omega)) un26 ty70 ?_)))))))))))
        intro ad2 x2 hx2 hA2
        refine k (gy rfl rfl rfl b2 (fa fl70_4 rfl rfl (k (gy rfl rfl rfl b2 (ldI (hA2).s4.w ty3 rfl rfl ?_)))))
        intro rv1
        refine k (gy rfl rfl rfl b2 (mv rfl s1 (k (gy rfl rfl rfl b2 (eql rfl rfl rfl rfl (k (pickT rfl rfl rfl rfl b2 rfl (z (nx ?_)))))))))
        refine cd (b := decide (x2.2.2.2.2 = val)) rfl rfl (fun b3 => ?_) (fun b3 => ?_)
        ·
          have p3 := of_decide_eq_true b3
          refine sq (rg (k (mv rfl s3 (k (asg (v := .int .i64 (j : Int)) rfl rfl (k (asg (v := .bool true) rfl rfl (z (nx (rt (inb_ret (then_ret (loop_ret (inb_ret (then_ret (r2 rfl rfl rfl ?_))))))))))))))))
          have e0 : ((j : Int) : Int) = (max (wrI fi vr val) 0) := by first | (have e1 := at_is hx1 hx0; subst e1; have e2 := at_is hx2 hx0; subst e2; have h_ := wr_hit hx0 b1 b2 b3 hs; omega) | (have h_ := wr_miss hs (by omega); omega)
          have e1 : (true : Bool) = decide (0 ≤ wrI fi vr val) := by first | (have e1 := at_is hx1 hx0; subst e1; have e2 := at_is hx2 hx0; subst e2; have h_ := wr_hit hx0 b1 b2 b3 hs; symm; rw [decide_eq_true_eq]; omega) | (have h_ := wr_miss hs (by omega); symm; rw [decide_eq_false_iff_not]; omega)
          have ev_ := cg2 (fun (x_0 : Int) (x_1 : Bool) => (.tuple #[.int .i64 x_0, .bool x_1] : Value)) e0 e1
          exact ⟨ev_, H2.below⟩
        ·
          have p3 := of_decide_eq_false b3
          refine sk (inb_normal (nx (rg (k (mv rfl s3 (k (add rfl rfl rfl rfl (by unfold I64 at *; omega) (k (asg (v := .int .i64 ((j : Int) + 1)) rfl rfl (z ?_))))))))))
          refine loopN _ ?_ ⟨(j + 1), rfl, s0, s1, s2, (ieq rfl (by first | rfl | omega | (push_cast; omega))), H2, (by first | assumption | omega | simp | (simp; omega)), (by first | exact any_step hx0 hs (isW_no1 b1) | (have e1 := at_is hx1 hx0; subst e1; first | exact any_step hx0 hs (isW_no2 b2) | (have e2 := at_is hx2 hx0; subst e2; exact any_step hx0 hs (isW_no3 b3))))⟩
          omega
      · -- decide (x1.2.2.2.1 = vr) is False
        have p2 := of_decide_eq_false b2
        refine k (gn rfl rfl rfl b2 (k (gn rfl rfl rfl b2 (k (gn rfl rfl rfl b2 (k (gn rfl rfl rfl b2 (k (gn rfl rfl rfl b2 (k (gn rfl rfl rfl b2 (k (gn rfl rfl rfl b2 (k (gn rfl rfl rfl b2 (k (pickF rfl rfl rfl rfl b2 rfl (z (nx (cdF rfl rfl rfl (sk (inb_normal (nx (rg (k (mv rfl s3 (k (add rfl rfl rfl rfl (by unfold I64 at *; omega) (k (asg (v := .int .i64 ((j : Int) + 1)) rfl rfl (z ?_)))))))))))))))))))))))))))))))
        refine loopN _ ?_ ⟨(j + 1), rfl, s0, s1, s2, (ieq rfl (by first | rfl | omega | (push_cast; omega))), H2, (by first | assumption | omega | simp | (simp; omega)), (by first | exact any_step hx0 hs (isW_no1 b1) | (have e1 := at_is hx1 hx0; subst e1; first | exact any_step hx0 hs (isW_no2 b2) | (have e2 := at_is hx2 hx0; subst e2; exact any_step hx0 hs (isW_no3 b3))))⟩
        omega
    · -- x0.2.2.1 is False
      refine k (gn rfl rfl rfl b1 (k (gn rfl rfl rfl b1 (k (gn rfl rfl rfl b1 (k (gn rfl rfl rfl b1 (k (gn rfl rfl rfl b1 (k (gn rfl rfl rfl b1 (k (gn rfl rfl rfl b1 (k (gn rfl rfl rfl b1 (k (pickF rfl rfl rfl rfl b1 rfl (k (mv (v := .bool false) rfl rfl (k (gn rfl rfl rfl rfl (k (gn rfl rfl rfl rfl (k (gn rfl rfl rfl rfl (k (gn rfl rfl rfl rfl (k (gn rfl rfl rfl rfl (k (gn rfl rfl rfl rfl (k (gn rfl rfl rfl rfl (k (gn rfl rfl rfl rfl (k (pickF rfl rfl rfl rfl rfl rfl (z (nx (cdF rfl rfl rfl (sk (inb_normal (nx (rg (k (mv rfl s3 (k (add rfl rfl rfl rfl (by unfold I64 at *; omega) (k (asg (v := .int .i64 ((j : Int) + 1)) rfl rfl (z ?_)))))))))))))))))))))))))))))))))))))))))))))))))))
      refine loopN _ ?_ ⟨(j + 1), rfl, s0, s1, s2, (ieq rfl (by first | rfl | omega | (push_cast; omega))), H2, (by first | assumption | omega | simp | (simp; omega)), (by first | exact any_step hx0 hs (isW_no1 b1) | (have e1 := at_is hx1 hx0; subst e1; first | exact any_step hx0 hs (isW_no2 b2) | (have e2 := at_is hx2 hx0; subst e2; exact any_step hx0 hs (isW_no3 b3))))⟩
      omega
  ·
    have p0 := of_decide_eq_false b0
    refine ex (then_exit (loop_exit (inb_here (nx (sq (rg (k (asg (v := .int .i64 0) rfl rfl (k (asg (v := .bool false) rfl rfl (z (nx (rt (r2 rfl rfl rfl ?_))))))))))))))
    have e0 : (0 : Int) = (max (wrI fi vr val) 0) := by first | (have e1 := at_is hx1 hx0; subst e1; have e2 := at_is hx2 hx0; subst e2; have h_ := wr_hit hx0 b1 b2 b3 hs; omega) | (have h_ := wr_miss hs (by omega); omega)
    have e1 : (false : Bool) = decide (0 ≤ wrI fi vr val) := by first | (have e1 := at_is hx1 hx0; subst e1; have e2 := at_is hx2 hx0; subst e2; have h_ := wr_hit hx0 b1 b2 b3 hs; symm; rw [decide_eq_true_eq]; omega) | (have h_ := wr_miss hs (by omega); symm; rw [decide_eq_false_iff_not]; omega)
    have ev_ := cg2 (fun (x_0 : Int) (x_1 : Bool) => (.tuple #[.int .i64 x_0, .bool x_1] : Value)) e0 e1
    exact ⟨ev_, H2.below⟩
set_option maxRecDepth 100000 in
set_option maxHeartbeats 1600000 in
theorem ref10_Check {M : Nat → Prop} {w : World} {a_fv : Option Addr} {n_fv c_fv : Nat} {a_fi : Option Addr} {c_fi : Nat} {fi : List (Int × Int × Bool × Int × Int)} {a_fo : Option Addr} {n_fo c_fo : Nat} (hM : ∀ b, M b → b < w.heap.size) (h_fi : RV M w (.slice a_fi fi.length c_fi) fi) : Calls Try.prog 26 #[.agg #[.slice a_fv n_fv c_fv, .slice a_fi fi.length c_fi, .slice a_fo n_fo c_fo]] w (Ret fun v w' =>  v = .tuple #[.int .i64 ((chkA fi).1), .int .i64 ((chkA fi).2.1), .int .i64 ((chkA fi).2.2)] ∧ Ext w w') := by
  refine enter 43 Try.func26 rfl rfl rfl fun f0 ha => ?_
  have H := HI.start (M0 := M) (w := w) hM
  have H0 := H.put (it := imm (.slice a_fi fi.length c_fi) fi) rfl (by rw [MS_nil]; exact h_fi)
  have ln_fi := rv_len h_fi
  have i0 : f0 0 = .agg #[.slice a_fv n_fv c_fv, .slice a_fi fi.length c_fi, .slice a_fo n_fo c_fo] := ha 0 (by simp)
  refine sq (rg (k (bx H0 rfl i0 ?_)))
  intro bb0 w0 xt0 (H1 : HI M w w0 [box bb0 #[.slice a_fv n_fv c_fv, .slice a_fi fi.length c_fi, .slice a_fo n_fo c_fo] 29, imm (.slice a_fi fi.length c_fi) fi])
  refine k (asg (v := .int .i64 0) rfl rfl (k (asg (v := .int .i64 0) rfl rfl (k (asg (v := .int .i64 0) rfl rfl (z (nx (sq (sq (rg (k (asg (v := .int .i64 0) rfl rfl (z (nx (bk ?_)))))))))))))))
  refine lp (fun m f w' => ∃ (j : Nat), m = fi.length - j ∧ f 1 = .pointer (some ⟨bb0, 0, none⟩) ∧ f 5 = .int .i64 (j : Int) ∧  HI M w w' [box bb0 #[.slice a_fv n_fv c_fv, .slice a_fi fi.length c_fi, .slice a_fo n_fo c_fo] 29, imm (.slice a_fi fi.length c_fi) fi] ∧ (j ≤ fi.length) ∧ (∀ k, k < j → badI fi k = false)) _ ⟨0, rfl, rfl, (ieq rfl (by first | rfl | omega | simp)), H1, (by first | assumption | omega | simp | (simp; omega)), (by intro k hk; omega)⟩ ?_
  rintro _ f0 w1 ⟨j, rfl, s0, s1, H2, hk, hs⟩
  refine sq (sq (rg (k (mv rfl s1 (k (fa fl29_1 rfl s0 (k (ldX H2 0 rfl ty26 rfl rfl (by decide) rfl (k (lnS rfl rfl un26 (k (lss rfl rfl rfl rfl (z (nx ?_))))))))))))))
  refine cd (b := decide ((j : Int) < (fi.length : Int))) rfl rfl (fun b0 => ?_) (fun b0 => ?_)
  ·
    have p0 := of_decide_eq_true b0
    refine sk (nx (sq (bk (sq (rg (k (fa fl29_1 rfl s0 (k (ldX H2 0 rfl ty26 rfl rfl (by decide) rfl (k (mv rfl s1 (k (ia (H2.rv 1 rfl) rfl rfl rfl rfl (by first | omega | (simp; omega)) un26 ty70 ?_)))))))))))))
    intro ad0 x0 hx0 hA0
    refine k (ldW hA0.w ty70 rfl rfl ?_)
    intro v0 rv0
    obtain ⟨_, ⟨_, _, rfl, ⟨rfl, rv1⟩, ⟨_, _, rfl, ⟨rfl, rv2⟩, ⟨_, _, rfl, rfl, ⟨_, _, rfl, ⟨rfl, rv3⟩, ⟨rfl, rv4⟩⟩⟩⟩⟩, rfl⟩ := rv0
    refine k (al H2 ty70 ?_)
    intro bb1 w2 xt1 (H3 : HI M w w2 [box bb1 #[.int .i64 0, .int .i64 0, .bool false, .int .i64 0, .int .i64 0] 70, box bb0 #[.slice a_fv n_fv c_fv, .slice a_fi fi.length c_fi, .slice a_fo n_fo c_fo] 29, imm (.slice a_fi fi.length c_fi) fi])
    refine k (stX H3 0 rfl ty70 rfl rfl rfl rfl rfl rfl rfl ?_)
    intro w3 (H4 : HI M w w3 [box bb1 #[.int .i64 x0.1, .int .i64 x0.2.1, .bool x0.2.2.1, .int .i64 x0.2.2.2.1, .int .i64 x0.2.2.2.2] 70, box bb0 #[.slice a_fv n_fv c_fv, .slice a_fi fi.length c_fi, .slice a_fo n_fo c_fo] 29, imm (.slice a_fi fi.length c_fi) fi])
    refine z (nx (sq (sq (rg (k (fa fl70_2 rfl rfl (k (ldX H4 0 rfl ty4 rfl rfl (by decide) rfl (k (not_ rfl rfl (z (nx ?_))))))))))))
    refine cd (b := !x0.2.2.1) rfl rfl (fun b1 => ?_) (fun b1 => ?_)
    ·
      refine ex (then_exit (inb_here (nx (rg (k (mv rfl s1 (k (add rfl rfl rfl rfl (by unfold I64 at *; omega) (k (asg (v := .int .i64 ((j : Int) + 1)) rfl rfl (z ?_)))))))))))
      have H5 : HI M w w3 [box bb0 #[.slice a_fv n_fv c_fv, .slice a_fi fi.length c_fi, .slice a_fo n_fo c_fo] 29, imm (.slice a_fi fi.length c_fi) fi] := H4.pickN [1, 2] (by decide) rfl
      refine loopN _ ?_ ⟨(j + 1), rfl, s0, (ieq rfl (by first | rfl | omega | (push_cast; omega))), H5, (by first | assumption | omega | simp | (simp; omega)), (by first | exact bad_next hs hx0 (bad_read (by simpa using b1)) | exact bad_next hs hx0 (bad_good p2 p3))⟩
      omega
    ·
      refine sk (nx (sq (sq (rg (k (fa fl70_4 rfl rfl (k (ldX H4 0 rfl ty3 rfl rfl (by decide) rfl (k (eql rfl rfl rfl rfl (z (nx ?_))))))))))))
      refine cd (b := decide (x0.2.2.2.2 = 0)) rfl rfl (fun b2 => ?_) (fun b2 => ?_)
      ·
        have p2 := of_decide_eq_true b2
        refine sq (rg (k (mv rfl s1 (k (mv rfl s1 (k (asg (v := .int .i64 (j : Int)) rfl rfl (k (asg (v := .int .i64 (j : Int)) rfl rfl (k (asg (v := .int .i64 5) rfl rfl (z (nx (rt (then_ret (inb_ret (then_ret (loop_ret (inb_ret (then_ret (r3 rfl rfl rfl rfl ?_)))))))))))))))))))))
        have e0 : ((j : Int) : Int) = (chkA fi).1 := by first | exact (congrArg (fun z_ : Int × Int × Int => z_.1) (chk_zero hs hx0 (by simpa using b1) p2)).symm | exact (congrArg (fun z_ : Int × Int × Int => z_.1) (chk_twice hs hx0 (by simpa using b1) p2 p3)).symm | exact (congrArg (fun z_ : Int × Int × Int => z_.1) (chk_end hs (by omega))).symm
        have e1 : ((j : Int) : Int) = (chkA fi).2.1 := by first | exact (congrArg (fun z_ : Int × Int × Int => z_.2.1) (chk_zero hs hx0 (by simpa using b1) p2)).symm | exact (congrArg (fun z_ : Int × Int × Int => z_.2.1) (chk_twice hs hx0 (by simpa using b1) p2 p3)).symm | exact (congrArg (fun z_ : Int × Int × Int => z_.2.1) (chk_end hs (by omega))).symm
        have e2 : (5 : Int) = (chkA fi).2.2 := by first | exact (congrArg (fun z_ : Int × Int × Int => z_.2.2) (chk_zero hs hx0 (by simpa using b1) p2)).symm | exact (congrArg (fun z_ : Int × Int × Int => z_.2.2) (chk_twice hs hx0 (by simpa using b1) p2 p3)).symm | exact (congrArg (fun z_ : Int × Int × Int => z_.2.2) (chk_end hs (by omega))).symm
        have ev_ := cg3 (fun (x_0 : Int) (x_1 : Int) (x_2 : Int) => (.tuple #[.int .i64 x_0, .int .i64 x_1, .int .i64 x_2] : Value)) e0 e1 e2
        exact ⟨ev_, H4.below⟩
      ·
        have p2 := of_decide_eq_false b2
        refine sk (nx (sq (rg (k (ldX H4 1 rfl ty29 rfl s0 (by decide) rfl (k (fa fl70_3 rfl rfl (k (ldX H4 0 rfl ty3 rfl rfl (by decide) rfl (k (fa fl70_4 rfl rfl (k (ldX H4 0 rfl ty3 rfl rfl (by decide) rfl (k ?_))))))))))))))
        have cc0 := ref10_Write (fi := fi) (vr := x0.2.2.2.1) (val := x0.2.2.2.2) (a_fv := a_fv) (n_fv := n_fv) (c_fv := c_fv) (a_fo := a_fo) (n_fo := n_fo) (c_fo := c_fo) (w := w3) H4.mb (H4.rv 2 rfl) (by unfold I64 at *; omega) (by unfold I64 at *; omega)
        refine ca go45 rfl (ec rfl (ec rfl (ec rfl e0))) cc0 ?_
        rintro _ w4 ⟨rfl, xt2⟩
        have H5 := H4.ext xt2
        refine k (mv (v := .tuple #[.int .i64 (max (wrI fi x0.2.2.2.1 x0.2.2.2.2) 0), .bool (decide (0 ≤ wrI fi x0.2.2.2.1 x0.2.2.2.2))]) rfl rfl (k (xt rfl rfl rfl (k (xt rfl rfl rfl (k (asg (v := .int .i64 (max (wrI fi x0.2.2.2.1 x0.2.2.2.2) 0)) rfl rfl (k (asg (v := .bool (decide (0 ≤ wrI fi x0.2.2.2.1 x0.2.2.2.2))) rfl rfl (z (nx (sq (rg (k (mv (v := .int .i64 (max (wrI fi x0.2.2.2.1 x0.2.2.2.2) 0)) rfl rfl (k (mv rfl s1 (k (lss rfl rfl rfl rfl (z (nx ?_)))))))))))))))))))))
        refine cd (b := decide ((max (wrI fi x0.2.2.2.1 x0.2.2.2.2) 0) < (j : Int))) rfl rfl (fun b3 => ?_) (fun b3 => ?_)
        ·
          have p3 := of_decide_eq_true b3
          refine sq (rg (k (mv (v := .int .i64 (max (wrI fi x0.2.2.2.1 x0.2.2.2.2) 0)) rfl rfl (k (mv rfl s1 (k (asg (v := .int .i64 (max (wrI fi x0.2.2.2.1 x0.2.2.2.2) 0)) rfl rfl (k (asg (v := .int .i64 (j : Int)) rfl rfl (k (asg (v := .int .i64 4) rfl rfl (z (nx (rt (inb_ret (then_ret (loop_ret (inb_ret (then_ret (r3 rfl rfl rfl rfl ?_))))))))))))))))))))
          have e0 : ((max (wrI fi x0.2.2.2.1 x0.2.2.2.2) 0) : Int) = (chkA fi).1 := by first | exact (congrArg (fun z_ : Int × Int × Int => z_.1) (chk_zero hs hx0 (by simpa using b1) p2)).symm | exact (congrArg (fun z_ : Int × Int × Int => z_.1) (chk_twice hs hx0 (by simpa using b1) p2 p3)).symm | exact (congrArg (fun z_ : Int × Int × Int => z_.1) (chk_end hs (by omega))).symm
          have e1 : ((j : Int) : Int) = (chkA fi).2.1 := by first | exact (congrArg (fun z_ : Int × Int × Int => z_.2.1) (chk_zero hs hx0 (by simpa using b1) p2)).symm | exact (congrArg (fun z_ : Int × Int × Int => z_.2.1) (chk_twice hs hx0 (by simpa using b1) p2 p3)).symm | exact (congrArg (fun z_ : Int × Int × Int => z_.2.1) (chk_end hs (by omega))).symm
          have e2 : (4 : Int) = (chkA fi).2.2 := by first | exact (congrArg (fun z_ : Int × Int × Int => z_.2.2) (chk_zero hs hx0 (by simpa using b1) p2)).symm | exact (congrArg (fun z_ : Int × Int × Int => z_.2.2) (chk_twice hs hx0 (by simpa using b1) p2 p3)).symm | exact (congrArg (fun z_ : Int × Int × Int => z_.2.2) (chk_end hs (by omega))).symm
          have ev_ := cg3 (fun (x_0 : Int) (x_1 : Int) (x_2 : Int) => (.tuple #[.int .i64 x_0, .int .i64 x_1, .int .i64 x_2] : Value)) e0 e1 e2
          exact ⟨ev_, H5.below⟩
        ·
          have p3 := of_decide_eq_false b3
          refine sk (inb_normal (nx (rg (k (mv rfl s1 (k (add rfl rfl rfl rfl (by unfold I64 at *; omega) (k (asg (v := .int .i64 ((j : Int) + 1)) rfl rfl (z ?_))))))))))
          have H6 : HI M w w4 [box bb0 #[.slice a_fv n_fv c_fv, .slice a_fi fi.length c_fi, .slice a_fo n_fo c_fo] 29, imm (.slice a_fi fi.length c_fi) fi] := H5.pickN [1, 2] (by decide) rfl
          refine loopN _ ?_ ⟨(j + 1), rfl, s0, (ieq rfl (by first | rfl | omega | (push_cast; omega))), H6, (by first | assumption | omega | simp | (simp; omega)), (by first | exact bad_next hs hx0 (bad_read (by simpa using b1)) | exact bad_next hs hx0 (bad_good p2 p3))⟩
          omega
  ·
    have p0 := of_decide_eq_false b0
    refine ex (then_exit (loop_exit (inb_here (nx (sq (rg (k (asg (v := .int .i64 0) rfl rfl (k (asg (v := .int .i64 0) rfl rfl (k (asg (v := .int .i64 0) rfl rfl (z (nx (rt (r3 rfl rfl rfl rfl ?_))))))))))))))))
    have e0 : (0 : Int) = (chkA fi).1 := by first | exact (congrArg (fun z_ : Int × Int × Int => z_.1) (chk_zero hs hx0 (by simpa using b1) p2)).symm | exact (congrArg (fun z_ : Int × Int × Int => z_.1) (chk_twice hs hx0 (by simpa using b1) p2 p3)).symm | exact (congrArg (fun z_ : Int × Int × Int => z_.1) (chk_end hs (by omega))).symm
    have e1 : (0 : Int) = (chkA fi).2.1 := by first | exact (congrArg (fun z_ : Int × Int × Int => z_.2.1) (chk_zero hs hx0 (by simpa using b1) p2)).symm | exact (congrArg (fun z_ : Int × Int × Int => z_.2.1) (chk_twice hs hx0 (by simpa using b1) p2 p3)).symm | exact (congrArg (fun z_ : Int × Int × Int => z_.2.1) (chk_end hs (by omega))).symm
    have e2 : (0 : Int) = (chkA fi).2.2 := by first | exact (congrArg (fun z_ : Int × Int × Int => z_.2.2) (chk_zero hs hx0 (by simpa using b1) p2)).symm | exact (congrArg (fun z_ : Int × Int × Int => z_.2.2) (chk_twice hs hx0 (by simpa using b1) p2 p3)).symm | exact (congrArg (fun z_ : Int × Int × Int => z_.2.2) (chk_end hs (by omega))).symm
    have ev_ := cg3 (fun (x_0 : Int) (x_1 : Int) (x_2 : Int) => (.tuple #[.int .i64 x_0, .int .i64 x_1, .int .i64 x_2] : Value)) e0 e1 e2
    exact ⟨ev_, H2.below⟩
end Go.Proofs.Ytmhopljngkgidaa
namespace Go.Proofs.Ytmhopljngkgidaa
open Go.Ew Go.RowKit
set_option linter.unusedVariables false
set_option linter.unusedSimpArgs false
attribute [local irreducible] WL WC SO Code.wp wpList retQ Ret
attribute [local irreducible] bitB hasW inR hasR setR countW countR subR words newR listR orR firstW tab8
theorem go29 : GoF Try.prog 29 := ⟨_, _, Try.func29, rfl, by kernel_rfl⟩
theorem fl70_0 : FldF Try.prog 70 0 0 := ⟨_, _, Try.underlying70, rfl, rfl, by kernel_rfl⟩
theorem go30 : GoF Try.prog 30 := ⟨_, _, Try.func30, rfl, by kernel_rfl⟩
set_option maxRecDepth 100000 in
set_option maxHeartbeats 1600000 in
theorem session_Po {M : Nat → Prop} {w : World} {a_fv : Option Addr} {n_fv c_fv : Nat} {a_fi : Option Addr} {c_fi : Nat} {fi : List (Int × Int × Bool × Int × Int)} {a_fo : Option Addr} {n_fo c_fo : Nat} (hM : ∀ b, M b → b < w.heap.size) (h_fi : RV M w (.slice a_fi fi.length c_fi) fi) (ho : OrdI fi) (hn_fi : fi.length ≤ 4096) : Calls Try.prog 33 #[.agg #[.slice a_fv n_fv c_fv, .slice a_fi fi.length c_fi, .slice a_fo n_fo c_fo]] w (Ret fun v w' => ∃ (a0 : Option Addr) (c0 : Nat), v = .agg #[.int .i64 (fi.length : Int), .slice a0 (poR fi).length c0] ∧ Ext w w' ∧ OwnsG M 60 w (poR fi) (.slice a0 (poR fi).length c0) w') := by
  refine enter 49 Try.func33 rfl rfl rfl fun f0 ha => ?_
  have H := HI.start (M0 := M) (w := w) hM
  have H0 := H.put (it := imm (.slice a_fi fi.length c_fi) fi) rfl (by rw [MS_nil]; exact h_fi)
  have ln_fi := rv_len h_fi
  have i0 : f0 0 = .agg #[.slice a_fv n_fv c_fv, .slice a_fi fi.length c_fi, .slice a_fo n_fo c_fo] := ha 0 (by simp)
  refine sq (rg (k (bx H0 rfl i0 ?_)))
  intro bb0 w0 xt0 (H1 : HI M w w0 [box bb0 #[.slice a_fv n_fv c_fv, .slice a_fi fi.length c_fi, .slice a_fo n_fo c_fo] 29, imm (.slice a_fi fi.length c_fi) fi])
  refine k (al H1 ty35 ?_)
  intro bb1 w1 xt1 (H2 : HI M w w1 [box bb1 #[.int .i64 0, .slice none 0 0] 35, box bb0 #[.slice a_fv n_fv c_fv, .slice a_fi fi.length c_fi, .slice a_fo n_fo c_fo] 29, imm (.slice a_fi fi.length c_fi) fi])
  refine z (nx (sq (rg (k (fa fl29_1 rfl rfl (k (ldX H2 1 rfl ty26 rfl rfl (by decide) rfl (k (lnS rfl rfl un26 (k ?_))))))))))
  have cc0 := mat_New (n := (fi.length : Int)) (w := w1) H2.mb (by unfold I64 at *; omega)
  refine ca go29 rfl (ec rfl e0) cc0 ?_
  rintro _ w2 ⟨a0, c0, rfl, xt2, rv0⟩
  have H3 := H2.ownsG rv0
  refine k (mv (v := .tuple #[.agg #[.int .i64 (newMN (fi.length : Int)), .slice a0 (newMR (fi.length : Int)).length c0], .int .i64 (newME (fi.length : Int))]) rfl rfl (k (xt rfl rfl rfl (k (xt rfl rfl rfl (k (al H3 ty35 ?_)))))))
  intro bb2 w3 xt3 (H4 : HI M w w3 [box bb2 #[.int .i64 0, .slice none 0 0] 35, own w.heap.size 60 (.slice a0 (newMR (fi.length : Int)).length c0) (newMR (fi.length : Int)), box bb1 #[.int .i64 0, .slice none 0 0] 35, box bb0 #[.slice a_fv n_fv c_fv, .slice a_fi fi.length c_fi, .slice a_fo n_fo c_fo] 29, imm (.slice a_fi fi.length c_fi) fi])
  refine k (stX H4 0 rfl ty35 rfl rfl rfl rfl rfl rfl rfl ?_)
  intro w4 (H5 : HI M w w4 [box bb2 #[.int .i64 (newMN (fi.length : Int)), .slice a0 (newMR (fi.length : Int)).length c0] 35, own w.heap.size 60 (.slice a0 (newMR (fi.length : Int)).length c0) (newMR (fi.length : Int)), box bb1 #[.int .i64 0, .slice none 0 0] 35, box bb0 #[.slice a_fv n_fv c_fv, .slice a_fi fi.length c_fi, .slice a_fo n_fo c_fo] 29, imm (.slice a_fi fi.length c_fi) fi])
  refine k (asg (v := .int .i64 (newME (fi.length : Int))) rfl rfl (z (nx (sq (sq ?_)))))
  have hok_ : okN (fi.length : Int) = true := okN_iff.2 (by omega)
  obtain ⟨en, er, -⟩ := newM_yes hok_
  refine rg (k (fa fl29_1 rfl rfl (k (ldX H5 3 rfl ty26 rfl rfl (by decide) rfl (k (lnS rfl rfl un26 (k (sub rfl rfl rfl rfl (by unfold I64 at *; omega) (k (asg (v := .int .i64 ((fi.length : Int) - 2)) rfl rfl (z (nx (bk ?_)))))))))))))
  refine lp (fun m f w' => ∃ (j : Nat) (xs : List (List (BitVec 64))), m = fi.length - j ∧ f 1 = .pointer (some ⟨bb0, 0, none⟩) ∧ f 2 = .pointer (some ⟨bb1, 0, none⟩) ∧ f 3 = .pointer (some ⟨bb2, 0, none⟩) ∧ f 5 = .int .i64 ((fi.length : Int) - 2 - (j : Int)) ∧  HI M w w' [box bb2 #[.int .i64 (newMN (fi.length : Int)), .slice a0 (newMR (fi.length : Int)).length c0] 35, own w.heap.size 60 (.slice a0 (newMR (fi.length : Int)).length c0) xs, box bb1 #[.int .i64 0, .slice none 0 0] 35, box bb0 #[.slice a_fv n_fv c_fv, .slice a_fi fi.length c_fi, .slice a_fo n_fo c_fo] 29, imm (.slice a_fi fi.length c_fi) fi] ∧ (j ≤ fi.length) ∧ (xs.length = fi.length) ∧ (xs = poTo fi ((fi.length : Int) - 2 - (j : Int)))) _ ⟨0, (newMR (fi.length : Int)), rfl, rfl, rfl, rfl, (ieq rfl (by omega)), H5, (by first | assumption | omega | simp | (simp; omega)), (by rw [er, newM_length]; simp), (by rw [er]; exact poTo_start _ _ (by omega))⟩ ?_
  rintro _ f0 w5 ⟨j, xs, rfl, s0, s1, s2, s3, H6, hk, hl, hs⟩
  refine sq (sq (rg (k (mv rfl s3 (k (geq rfl rfl rfl rfl (z (nx ?_))))))))
  refine cd (b := decide (0 ≤ ((fi.length : Int) - 2 - (j : Int)))) rfl rfl (fun b0 => ?_) (fun b0 => ?_)
  ·
    have p0 := of_decide_eq_true b0
    refine sk (nx (sq (bk (sq ?_))))
    obtain ⟨x0, hx0⟩ : ∃ x, fi[((fi.length : Int) - 2 - (j : Int)).toNat]? = some x := ⟨_, List.getElem?_eq_getElem (by first | omega | (simp; omega))⟩
    obtain ⟨x1, hx1⟩ : ∃ x, fi[(((fi.length : Int) - 2 - (j : Int)) + 1).toNat]? = some x := ⟨_, List.getElem?_eq_getElem (by first | omega | (simp; omega))⟩
    refine dr 13 [fun (v : Value) (w' : World) => v = .pointer (some ⟨bb0, 1, none⟩), fun (v : Value) (w' : World) => v = .slice a_fi fi.length c_fi, fun (v : Value) (w' : World) => v = .int .i64 ((fi.length : Int) - 2 - (j : Int)), fun (v : Value) (w' : World) => ∃ (ad0 : Addr), v = .pointer (some ad0) ∧ At (MS M [box bb2 #[.int .i64 (newMN (fi.length : Int)), .slice a0 (newMR (fi.length : Int)).length c0] 35, own w.heap.size 60 (.slice a0 (newMR (fi.length : Int)).length c0) xs, box bb1 #[.int .i64 0, .slice none 0 0] 35, box bb0 #[.slice a_fv n_fv c_fv, .slice a_fi fi.length c_fi, .slice a_fo n_fo c_fo] 29, imm (.slice a_fi fi.length c_fi) fi]) w' ad0 x0, fun (v : Value) (w' : World) => ∃ (ad0 : Addr), v = .pointer (some ((ad0).add 0)) ∧ At (MS M [box bb2 #[.int .i64 (newMN (fi.length : Int)), .slice a0 (newMR (fi.length : Int)).length c0] 35, own w.heap.size 60 (.slice a0 (newMR (fi.length : Int)).length c0) xs, box bb1 #[.int .i64 0, .slice none 0 0] 35, box bb0 #[.slice a_fv n_fv c_fv, .slice a_fi fi.length c_fi, .slice a_fo n_fo c_fo] 29, imm (.slice a_fi fi.length c_fi) fi]) w' ad0 x0, fun (v : Value) (w' : World) => v = .int .i64 x0.1 ∧ I64 (x0.1), fun (v : Value) (w' : World) => v = .pointer (some ⟨bb0, 1, none⟩), fun (v : Value) (w' : World) => v = .slice a_fi fi.length c_fi, fun (v : Value) (w' : World) => v = .int .i64 ((fi.length : Int) - 2 - (j : Int)), fun (v : Value) (w' : World) => v = .int .i64 (((fi.length : Int) - 2 - (j : Int)) + 1), fun (v : Value) (w' : World) => ∃ (ad1 : Addr), v = .pointer (some ad1) ∧ At (MS M [box bb2 #[.int .i64 (newMN (fi.length : Int)), .slice a0 (newMR (fi.length : Int)).length c0] 35, own w.heap.size 60 (.slice a0 (newMR (fi.length : Int)).length c0) xs, box bb1 #[.int .i64 0, .slice none 0 0] 35, box bb0 #[.slice a_fv n_fv c_fv, .slice a_fi fi.length c_fi, .slice a_fo n_fo c_fo] 29, imm (.slice a_fi fi.length c_fi) fi]) w' ad1 x1, fun (v : Value) (w' : World) => ∃ (ad1 : Addr), v = .pointer (some ((ad1).add 0)) ∧ At (MS M [box bb2 #[.int .i64 (newMN (fi.length : Int)), .slice a0 (newMR (fi.length : Int)).length c0] 35, own w.heap.size 60 (.slice a0 (newMR (fi.length : Int)).length c0) xs, box bb1 #[.int .i64 0, .slice none 0 0] 35, box bb0 #[.slice a_fv n_fv c_fv, .slice a_fi fi.length c_fi, .slice a_fo n_fo c_fo] 29, imm (.slice a_fi fi.length c_fi) fi]) w' ad1 x1, fun (v : Value) (w' : World) => v = .int .i64 x1.1 ∧ I64 (x1.1)] rfl (by kernel_rfl) ?_ ?_
    ·
      refine ⟨fun _ => ⟨fun f1 w6 hf0 xt4 hp0 => ?_, fun _ _ _ _ h => h⟩, ?_⟩
      ·
        have H7 := H6.ext xt4
        refine fa fl29_1 rfl ((hf0 1 rfl).trans s0) ?_
        exact ⟨_, rfl, Ext.refl _, rfl⟩
      refine ⟨fun _ => ⟨fun f2 w7 hf1 xt5 hp1 => ?_, fun _ _ _ _ h => h⟩, ?_⟩
      ·
        have H8 := H6.ext xt5
        have s4 : f2 21 = .pointer (some ⟨bb0, 1, none⟩) := hp1 0 rfl rfl
        refine ldX H8 3 rfl ty26 rfl s4 (by decide) rfl ?_
        exact ⟨_, rfl, Ext.refl _, rfl⟩
      refine ⟨fun _ => ⟨fun f3 w8 hf2 xt6 hp2 => ?_, fun _ _ _ _ h => h⟩, ?_⟩
      ·
        have H9 := H6.ext xt6
        refine mv rfl ((hf2 5 rfl).trans s3) ?_
        exact ⟨_, rfl, Ext.refl _, rfl⟩
      refine ⟨fun _ => ⟨fun f4 w9 hf3 xt7 hp3 => ?_, by rintro _ _ _ x_ ⟨ad0, e_, hA0⟩; exact ⟨ad0, e_, hA0.lift (Up.ext x_)⟩⟩, ?_⟩
      ·
        have H10 := H6.ext xt7
        have s5 : f4 22 = .slice a_fi fi.length c_fi := hp3 1 rfl rfl
        have s6 : f4 23 = .int .i64 ((fi.length : Int) - 2 - (j : Int)) := hp3 2 rfl rfl
        refine ia (H10.rv 4 rfl) rfl rfl s5 s6 (by first | omega | (simp; omega)) un26 ty70 ?_
        intro ad2 x2 hx2 hA2
        obtain rfl : x0 = x2 := Option.some.inj (hx0.symm.trans hx2)
        exact ⟨_, rfl, Ext.refl _, ⟨ad2, rfl, hA2⟩⟩
      refine ⟨fun _ => ⟨fun f5 w10 hf4 xt8 hp4 => ?_, by rintro _ _ _ x_ ⟨ad0, e_, hA0⟩; exact ⟨ad0, e_, hA0.lift (Up.ext x_)⟩⟩, ?_⟩
      ·
        have H11 := H6.ext xt8
        obtain ⟨ad3, s7, hA3⟩ : ∃ (ad3 : Addr), f5 24 = .pointer (some ad3) ∧ At (MS M [box bb2 #[.int .i64 (newMN (fi.length : Int)), .slice a0 (newMR (fi.length : Int)).length c0] 35, own w.heap.size 60 (.slice a0 (newMR (fi.length : Int)).length c0) xs, box bb1 #[.int .i64 0, .slice none 0 0] 35, box bb0 #[.slice a_fv n_fv c_fv, .slice a_fi fi.length c_fi, .slice a_fo n_fo c_fo] 29, imm (.slice a_fi fi.length c_fi) fi]) w10 ad3 x0 := hp4 3 rfl rfl
        have H12 := H11.put (it := atI ad3 x0) rfl hA3
        refine fa fl70_0 rfl s7 ?_
        exact ⟨_, rfl, Ext.refl _, ⟨ad3, rfl, (by assumption)⟩⟩
      refine ⟨fun _ => ⟨fun f6 w11 hf5 xt9 hp5 => ?_, fun _ _ _ _ h => h⟩, ?_⟩
      ·
        have H13 := H6.ext xt9
        obtain ⟨ad4, s8, hA4⟩ : ∃ (ad4 : Addr), f6 25 = .pointer (some ((ad4).add 0)) ∧ At (MS M [box bb2 #[.int .i64 (newMN (fi.length : Int)), .slice a0 (newMR (fi.length : Int)).length c0] 35, own w.heap.size 60 (.slice a0 (newMR (fi.length : Int)).length c0) xs, box bb1 #[.int .i64 0, .slice none 0 0] 35, box bb0 #[.slice a_fv n_fv c_fv, .slice a_fi fi.length c_fi, .slice a_fo n_fo c_fo] 29, imm (.slice a_fi fi.length c_fi) fi]) w11 ad4 x0 := hp5 4 rfl rfl
        have H14 := H13.put (it := atI ad4 x0) rfl hA4
        refine ldI ((H14.atv 0 rfl)).fst.w ty3 rfl s8 ?_
        intro rv3
        exact ⟨_, rfl, Ext.refl _, ⟨rfl, rv3⟩⟩
      refine ⟨fun _ => ⟨fun f7 w12 hf6 xt10 hp6 => ?_, fun _ _ _ _ h => h⟩, ?_⟩
      ·
        have H15 := H6.ext xt10
        refine fa fl29_1 rfl ((hf6 1 rfl).trans s0) ?_
        exact ⟨_, rfl, Ext.refl _, rfl⟩
      refine ⟨fun _ => ⟨fun f8 w13 hf7 xt11 hp7 => ?_, fun _ _ _ _ h => h⟩, ?_⟩
      ·
        have H16 := H6.ext xt11
        have s9 : f8 27 = .pointer (some ⟨bb0, 1, none⟩) := hp7 6 rfl rfl
        refine ldX H16 3 rfl ty26 rfl s9 (by decide) rfl ?_
        exact ⟨_, rfl, Ext.refl _, rfl⟩
      refine ⟨fun _ => ⟨fun f9 w14 hf8 xt12 hp8 => ?_, fun _ _ _ _ h => h⟩, ?_⟩
      ·
        have H17 := H6.ext xt12
        refine mv rfl ((hf8 5 rfl).trans s3) ?_
        exact ⟨_, rfl, Ext.refl _, rfl⟩
      refine ⟨fun _ => ⟨fun f10 w15 hf9 xt13 hp9 => ?_, fun _ _ _ _ h => h⟩, ?_⟩
      ·
        have H18 := H6.ext xt13
        have s10 : f10 29 = .int .i64 ((fi.length : Int) - 2 - (j : Int)) := hp9 8 rfl rfl
        refine add rfl rfl s10 rfl (by unfold I64 at *; omega) ?_
        exact ⟨_, rfl, Ext.refl _, rfl⟩
      refine ⟨fun _ => ⟨fun f11 w16 hf10 xt14 hp10 => ?_, by rintro _ _ _ x_ ⟨ad1, e_, hA1⟩; exact ⟨ad1, e_, hA1.lift (Up.ext x_)⟩⟩, ?_⟩
      ·
        have H19 := H6.ext xt14
        have s11 : f11 28 = .slice a_fi fi.length c_fi := hp10 7 rfl rfl
        have s12 : f11 30 = .int .i64 (((fi.length : Int) - 2 - (j : Int)) + 1) := hp10 9 rfl rfl
        refine ia (H19.rv 4 rfl) rfl rfl s11 s12 (by first | omega | (simp; omega)) un26 ty70 ?_
        intro ad5 x3 hx3 hA5
        obtain rfl : x1 = x3 := Option.some.inj (hx1.symm.trans hx3)
        exact ⟨_, rfl, Ext.refl _, ⟨ad5, rfl, hA5⟩⟩
      refine ⟨fun _ => ⟨fun f12 w17 hf11 xt15 hp11 => ?_, by rintro _ _ _ x_ ⟨ad1, e_, hA1⟩; exact ⟨ad1, e_, hA1.lift (Up.ext x_)⟩⟩, ?_⟩
      ·
        have H20 := H6.ext xt15
        obtain ⟨ad6, s13, hA6⟩ : ∃ (ad6 : Addr), f12 31 = .pointer (some ad6) ∧ At (MS M [box bb2 #[.int .i64 (newMN (fi.length : Int)), .slice a0 (newMR (fi.length : Int)).length c0] 35, own w.heap.size 60 (.slice a0 (newMR (fi.length : Int)).length c0) xs, box bb1 #[.int .i64 0, .slice none 0 0] 35, box bb0 #[.slice a_fv n_fv c_fv, .slice a_fi fi.length c_fi, .slice a_fo n_fo c_fo] 29, imm (.slice a_fi fi.length c_fi) fi]) w17 ad6 x1 := hp11 10 rfl rfl
        have H21 := H20.put (it := atI ad6 x1) rfl hA6
        refine fa fl70_0 rfl s13 ?_
        exact ⟨_, rfl, Ext.refl _, ⟨ad6, rfl, (by assumption)⟩⟩
      refine ⟨fun _ => ⟨fun f13 w18 hf12 xt16 hp12 => ?_, fun _ _ _ _ h => h⟩, ?_⟩
      ·
        have H22 := H6.ext xt16
        obtain ⟨ad7, s14, hA7⟩ : ∃ (ad7 : Addr), f13 32 = .pointer (some ((ad7).add 0)) ∧ At (MS M [box bb2 #[.int .i64 (newMN (fi.length : Int)), .slice a0 (newMR (fi.length : Int)).length c0] 35, own w.heap.size 60 (.slice a0 (newMR (fi.length : Int)).length c0) xs, box bb1 #[.int .i64 0, .slice none 0 0] 35, box bb0 #[.slice a_fv n_fv c_fv, .slice a_fi fi.length c_fi, .slice a_fo n_fo c_fo] 29, imm (.slice a_fi fi.length c_fi) fi]) w18 ad7 x1 := hp12 11 rfl rfl
        have H23 := H22.put (it := atI ad7 x1) rfl hA7
        refine ldI ((H23.atv 0 rfl)).fst.w ty3 rfl s14 ?_
        intro rv4
        exact ⟨_, rfl, Ext.refl _, ⟨rfl, rv4⟩⟩
      exact DSteps.rest rfl _
    · intro f14 w19 hf13 xt17 hp13
      have H24 := H6.ext xt17
      have s15 : f14 1 = .pointer (some ⟨bb0, 0, none⟩) := (hf13 1 rfl).trans s0
      have s16 : f14 2 = .pointer (some ⟨bb1, 0, none⟩) := (hf13 2 rfl).trans s1
      have s17 : f14 3 = .pointer (some ⟨bb2, 0, none⟩) := (hf13 3 rfl).trans s2
      have s18 : f14 5 = .int .i64 ((fi.length : Int) - 2 - (j : Int)) := (hf13 5 rfl).trans s3
      obtain ⟨s19, rv5⟩ : f14 26 = .int .i64 x0.1 ∧ I64 (x0.1) := hp13 5 rfl
      obtain ⟨s20, rv6⟩ : f14 33 = .int .i64 x1.1 ∧ I64 (x1.1) := hp13 12 rfl
      refine k (eql rfl rfl s19 s20 (z (nx ?_)))
      refine cd (b := decide (x0.1 = x1.1)) rfl rfl (fun b1 => ?_) (fun b1 => ?_)
      ·
        have p1 := of_decide_eq_true b1
        obtain ⟨x4, hx4⟩ : ∃ x, xs[(((fi.length : Int) - 2 - (j : Int)) + 1).toNat]? = some x := ⟨_, List.getElem?_eq_getElem (by first | omega | (simp; omega))⟩
        refine dr 12 [fun (v : Value) (w' : World) => v = .pointer (some ⟨bb2, 1, none⟩), fun (v : Value) (w' : World) => v = .slice a0 (newMR (fi.length : Int)).length c0, fun (v : Value) (w' : World) => v = .int .i64 ((fi.length : Int) - 2 - (j : Int)), fun (v : Value) (w' : World) => v = .pointer (some ⟨bb2, 1, none⟩), fun (v : Value) (w' : World) => v = .slice a0 (newMR (fi.length : Int)).length c0, fun (v : Value) (w' : World) => v = .int .i64 ((fi.length : Int) - 2 - (j : Int)), fun (v : Value) (w' : World) => v = .int .i64 (((fi.length : Int) - 2 - (j : Int)) + 1), fun (v : Value) (w' : World) => ∃ (g0 : Nat), v = .pointer (some ⟨g0, (((fi.length : Int) - 2 - (j : Int)) + 1).toNat * 1, none⟩) ∧ (.slice a0 (newMR (fi.length : Int)).length c0 : Value).ownBlock = some g0 ∧ AtW (MS M [box bb2 #[.int .i64 (newMN (fi.length : Int)), .slice a0 (newMR (fi.length : Int)).length c0] 35, own w.heap.size 60 (.slice a0 (newMR (fi.length : Int)).length c0) xs, box bb1 #[.int .i64 0, .slice none 0 0] 35, box bb0 #[.slice a_fv n_fv c_fv, .slice a_fi fi.length c_fi, .slice a_fo n_fo c_fo] 29, imm (.slice a_fi fi.length c_fi) fi]) w' ⟨g0, (((fi.length : Int) - 2 - (j : Int)) + 1).toNat * 1, none⟩ x4, fun (v : Value) (w' : World) => ∃ (a1 : Option Addr) (c1 : Nat), v = .slice a1 x4.length c1 ∧ RV (MS M [box bb2 #[.int .i64 (newMN (fi.length : Int)), .slice a0 (newMR (fi.length : Int)).length c0] 35, own w.heap.size 60 (.slice a0 (newMR (fi.length : Int)).length c0) xs, box bb1 #[.int .i64 0, .slice none 0 0] 35, box bb0 #[.slice a_fv n_fv c_fv, .slice a_fi fi.length c_fi, .slice a_fo n_fo c_fo] 29, imm (.slice a_fi fi.length c_fi) fi]) w' (.slice a1 x4.length c1) x4, fun (v : Value) (w' : World) => v = .int .i64 ((fi.length : Int) - 2 - (j : Int)), fun (v : Value) (w' : World) => v = .int .i64 (((fi.length : Int) - 2 - (j : Int)) + 1), fun (v : Value) (w' : World) => ∃ (a2 : Option Addr) (c2 : Nat), v = .slice a2 (setR x4 (((fi.length : Int) - 2 - (j : Int)) + 1)).length c2 ∧ RV (MS M [box bb2 #[.int .i64 (newMN (fi.length : Int)), .slice a0 (newMR (fi.length : Int)).length c0] 35, own w.heap.size 60 (.slice a0 (newMR (fi.length : Int)).length c0) xs, box bb1 #[.int .i64 0, .slice none 0 0] 35, box bb0 #[.slice a_fv n_fv c_fv, .slice a_fi fi.length c_fi, .slice a_fo n_fo c_fo] 29, imm (.slice a_fi fi.length c_fi) fi]) w' (.slice a2 (setR x4 (((fi.length : Int) - 2 - (j : Int)) + 1)).length c2) (setR x4 (((fi.length : Int) - 2 - (j : Int)) + 1))] rfl (by kernel_rfl) ?_ ?_
        ·
          refine ⟨fun _ => ⟨fun f15 w21 hf14 xt19 hp14 => ?_, fun _ _ _ _ h => h⟩, ?_⟩
          ·
            have H28 := H24.ext xt19
            refine fa fl35_1 rfl ((hf14 3 rfl).trans s17) ?_
            exact ⟨_, rfl, Ext.refl _, rfl⟩
          refine ⟨fun _ => ⟨fun f16 w22 hf15 xt20 hp15 => ?_, fun _ _ _ _ h => h⟩, ?_⟩
          ·
            have H29 := H24.ext xt20
            have s21 : f16 35 = .pointer (some ⟨bb2, 1, none⟩) := hp15 0 rfl rfl
            refine ldX H29 0 rfl ty33 rfl s21 (by decide) rfl ?_
            exact ⟨_, rfl, Ext.refl _, rfl⟩
          refine ⟨fun _ => ⟨fun f17 w23 hf16 xt21 hp16 => ?_, fun _ _ _ _ h => h⟩, ?_⟩
          ·
            have H30 := H24.ext xt21
            refine mv rfl ((hf16 5 rfl).trans s18) ?_
            exact ⟨_, rfl, Ext.refl _, rfl⟩
          refine ⟨fun _ => ⟨fun f18 w24 hf17 xt22 hp17 => ?_, fun _ _ _ _ h => h⟩, ?_⟩
          ·
            have H31 := H24.ext xt22
            refine fa fl35_1 rfl ((hf17 3 rfl).trans s17) ?_
            exact ⟨_, rfl, Ext.refl _, rfl⟩
          refine ⟨fun _ => ⟨fun f19 w25 hf18 xt23 hp18 => ?_, fun _ _ _ _ h => h⟩, ?_⟩
          ·
            have H32 := H24.ext xt23
            have s22 : f19 38 = .pointer (some ⟨bb2, 1, none⟩) := hp18 3 rfl rfl
            refine ldX H32 0 rfl ty33 rfl s22 (by decide) rfl ?_
            exact ⟨_, rfl, Ext.refl _, rfl⟩
          refine ⟨fun _ => ⟨fun f20 w26 hf19 xt24 hp19 => ?_, fun _ _ _ _ h => h⟩, ?_⟩
          ·
            have H33 := H24.ext xt24
            refine mv rfl ((hf19 5 rfl).trans s18) ?_
            exact ⟨_, rfl, Ext.refl _, rfl⟩
          refine ⟨fun _ => ⟨fun f21 w27 hf20 xt25 hp20 => ?_, fun _ _ _ _ h => h⟩, ?_⟩
          ·
            have H34 := H24.ext xt25
            have s23 : f21 40 = .int .i64 ((fi.length : Int) - 2 - (j : Int)) := hp20 5 rfl rfl
            refine add rfl rfl s23 rfl (by unfold I64 at *; omega) ?_
            exact ⟨_, rfl, Ext.refl _, rfl⟩
          refine ⟨fun _ => ⟨fun f22 w28 hf21 xt26 hp21 => ?_, by rintro _ _ _ x_ ⟨g0, e_, hv0, hA8⟩; exact ⟨g0, e_, hv0, hA8.ext x_⟩⟩, ?_⟩
          ·
            have H35 := H24.ext xt26
            have s24 : f22 39 = .slice a0 (newMR (fi.length : Int)).length c0 := hp21 4 rfl rfl
            have s25 : f22 41 = .int .i64 (((fi.length : Int) - 2 - (j : Int)) + 1) := hp21 6 rfl rfl
            refine iaO (H35.at_ 1 rfl) rfl rfl s24 s25 (by first | omega | (simp; omega)) un33 ty60 ?_
            intro g1 x5 hv1 hx5 hA9
            obtain rfl : x4 = x5 := Option.some.inj (hx4.symm.trans hx5)
            exact ⟨_, rfl, Ext.refl _, ⟨g1, rfl, hv1, hA9⟩⟩
          refine ⟨fun _ => ⟨fun f23 w29 hf22 xt27 hp22 => ?_, by rintro _ _ _ x_ ⟨a1, c1, e_, rv7⟩; exact ⟨a1, c1, e_, rv7.lift (Up.ext x_)⟩⟩, ?_⟩
          ·
            have H36 := H24.ext xt27
            obtain ⟨g2, s26, hv2, hA10⟩ : ∃ (g2 : Nat), f23 42 = .pointer (some ⟨g2, (((fi.length : Int) - 2 - (j : Int)) + 1).toNat * 1, none⟩) ∧ (.slice a0 (newMR (fi.length : Int)).length c0 : Value).ownBlock = some g2 ∧ AtW (MS M [box bb2 #[.int .i64 (newMN (fi.length : Int)), .slice a0 (newMR (fi.length : Int)).length c0] 35, own w.heap.size 60 (.slice a0 (newMR (fi.length : Int)).length c0) xs, box bb1 #[.int .i64 0, .slice none 0 0] 35, box bb0 #[.slice a_fv n_fv c_fv, .slice a_fi fi.length c_fi, .slice a_fo n_fo c_fo] 29, imm (.slice a_fi fi.length c_fi) fi]) w29 ⟨g2, (((fi.length : Int) - 2 - (j : Int)) + 1).toNat * 1, none⟩ x4 := hp22 7 rfl rfl
            refine ldL hA10 ty60 rfl s26 ?_
            intro a3 c3 rv10
            have ln1 := rv_len rv10
            have H37 := H36.put (it := imm (.slice a3 x4.length c3) x4) rfl rv10
            exact ⟨_, rfl, Ext.refl _, ⟨a3, c3, rfl, rv10⟩⟩
          refine ⟨fun _ => ⟨fun f24 w30 hf23 xt28 hp23 => ?_, fun _ _ _ _ h => h⟩, ?_⟩
          ·
            have H38 := H24.ext xt28
            refine mv rfl ((hf23 5 rfl).trans s18) ?_
            exact ⟨_, rfl, Ext.refl _, rfl⟩
          refine ⟨fun _ => ⟨fun f25 w31 hf24 xt29 hp24 => ?_, fun _ _ _ _ h => h⟩, ?_⟩
          ·
            have H39 := H24.ext xt29
            have s27 : f25 44 = .int .i64 ((fi.length : Int) - 2 - (j : Int)) := hp24 9 rfl rfl
            refine add rfl rfl s27 rfl (by unfold I64 at *; omega) ?_
            exact ⟨_, rfl, Ext.refl _, rfl⟩
          refine ⟨fun _ => ⟨fun f26 w32 hf25 xt30 hp25 => ?_, by rintro _ _ _ x_ ⟨a2, c2, e_, rv9⟩; exact ⟨a2, c2, e_, rv9.lift (Up.ext x_)⟩⟩, ?_⟩
          ·
            have H40 := H24.ext xt30
            obtain ⟨a4, c4, s28, rv11⟩ : ∃ (a4 : Option Addr) (c4 : Nat), f26 43 = .slice a4 x4.length c4 ∧ RV (MS M [box bb2 #[.int .i64 (newMN (fi.length : Int)), .slice a0 (newMR (fi.length : Int)).length c0] 35, own w.heap.size 60 (.slice a0 (newMR (fi.length : Int)).length c0) xs, box bb1 #[.int .i64 0, .slice none 0 0] 35, box bb0 #[.slice a_fv n_fv c_fv, .slice a_fi fi.length c_fi, .slice a_fo n_fo c_fo] 29, imm (.slice a_fi fi.length c_fi) fi]) w32 (.slice a4 x4.length c4) x4 := hp25 8 rfl rfl
            have H41 := H40.put (it := imm (.slice a4 x4.length c4) x4) rfl rv11
            have s29 : f26 45 = .int .i64 (((fi.length : Int) - 2 - (j : Int)) + 1) := hp25 10 rfl rfl
            have cc2 := row_Set (r := x4) (i := (((fi.length : Int) - 2 - (j : Int)) + 1)) (w := w32) H41.mb (H41.rv 0 rfl) (by unfold I64 at *; omega) (by first | (have h_ := poTo_row (hs ▸ hx2); have h2_ := words_small (n := fi.length) (by omega); omega) | (have h_ := poTo_row (hs ▸ hx3); have h2_ := words_small (n := fi.length) (by omega); omega) | (have h_ := poTo_row (hs ▸ hx4); have h2_ := words_small (n := fi.length) (by omega); omega) | (have h_ := poTo_row (hs ▸ hx5); have h2_ := words_small (n := fi.length) (by omega); omega) | (have h_ := poTo_row (hs ▸ hx6); have h2_ := words_small (n := fi.length) (by omega); omega) | (have h_ := poTo_row (hs ▸ hx7); have h2_ := words_small (n := fi.length) (by omega); omega))
            refine ca go30 rfl (ec s28 (ec s29 e0)) cc2 ?_
            rintro _ w33 ⟨a5, c5, rfl, xt31, rv12⟩
            have rv13 := OwnsG.rv rv12 H41.mb
            have H42 := H41.ext xt31
            have H43 := H42.put (it := imm (.slice a5 (setR x4 (((fi.length : Int) - 2 - (j : Int)) + 1)).length c5) (setR x4 (((fi.length : Int) - 2 - (j : Int)) + 1))) rfl rv13
            exact ⟨_, rfl, xt31, ⟨a5, c5, rfl, (rv_drop rfl rv13)⟩⟩
          exact DSteps.rest rfl _
        · intro f27 w34 hf26 xt32 hp26
          have H44 := H24.ext xt32
          have s30 : f27 1 = .pointer (some ⟨bb0, 0, none⟩) := (hf26 1 rfl).trans s15
          have s31 : f27 2 = .pointer (some ⟨bb1, 0, none⟩) := (hf26 2 rfl).trans s16
          have s32 : f27 3 = .pointer (some ⟨bb2, 0, none⟩) := (hf26 3 rfl).trans s17
          have s33 : f27 5 = .int .i64 ((fi.length : Int) - 2 - (j : Int)) := (hf26 5 rfl).trans s18
          have s34 : f27 36 = .slice a0 (newMR (fi.length : Int)).length c0 := hp26 1 rfl
          have s35 : f27 37 = .int .i64 ((fi.length : Int) - 2 - (j : Int)) := hp26 2 rfl
          obtain ⟨a6, c6, s36, rv14⟩ : ∃ (a6 : Option Addr) (c6 : Nat), f27 46 = .slice a6 (setR x4 (((fi.length : Int) - 2 - (j : Int)) + 1)).length c6 ∧ RV (MS M [box bb2 #[.int .i64 (newMN (fi.length : Int)), .slice a0 (newMR (fi.length : Int)).length c0] 35, own w.heap.size 60 (.slice a0 (newMR (fi.length : Int)).length c0) xs, box bb1 #[.int .i64 0, .slice none 0 0] 35, box bb0 #[.slice a_fv n_fv c_fv, .slice a_fi fi.length c_fi, .slice a_fo n_fo c_fo] 29, imm (.slice a_fi fi.length c_fi) fi]) w34 (.slice a6 (setR x4 (((fi.length : Int) - 2 - (j : Int)) + 1)).length c6) (setR x4 (((fi.length : Int) - 2 - (j : Int)) + 1)) := hp26 11 rfl
          have H45 := H44.put (it := imm (.slice a6 (setR x4 (((fi.length : Int) - 2 - (j : Int)) + 1)).length c6) (setR x4 (((fi.length : Int) - 2 - (j : Int)) + 1))) rfl rv14
          refine k (iaO (H45.at_ 2 rfl) rfl rfl s34 s35 (by first | omega | (simp; omega)) un33 ty60 ?_)
          intro g3 x6 hv3 hx6 hA11
          refine k (stO H45 2 rfl hv3 rfl (by first | omega | (simp; omega)) ty60 rfl rfl rfl s36 (H45.rv 0 rfl) ?_)
          intro w35 (H46 : HI M w w35 [imm (.slice a6 (setR x4 (((fi.length : Int) - 2 - (j : Int)) + 1)).length c6) (setR x4 (((fi.length : Int) - 2 - (j : Int)) + 1)), box bb2 #[.int .i64 (newMN (fi.length : Int)), .slice a0 (newMR (fi.length : Int)).length c0] 35, own w.heap.size 60 (.slice a0 (newMR (fi.length : Int)).length c0) (xs.set (((fi.length : Int) - 2 - (j : Int)).toNat) (setR x4 (((fi.length : Int) - 2 - (j : Int)) + 1))), box bb1 #[.int .i64 0, .slice none 0 0] 35, box bb0 #[.slice a_fv n_fv c_fv, .slice a_fi fi.length c_fi, .slice a_fo n_fo c_fo] 29, imm (.slice a_fi fi.length c_fi) fi])
          refine z (inb_normal (nx (rg (k (mv rfl s33 (k (sub rfl rfl rfl rfl (by unfold I64 at *; omega) (k (asg (v := .int .i64 (((fi.length : Int) - 2 - (j : Int)) - 1)) rfl rfl (z ?_))))))))))
          have H47 : HI M w w35 [box bb2 #[.int .i64 (newMN (fi.length : Int)), .slice a0 (newMR (fi.length : Int)).length c0] 35, own w.heap.size 60 (.slice a0 (newMR (fi.length : Int)).length c0) (xs.set (((fi.length : Int) - 2 - (j : Int)).toNat) (setR x4 (((fi.length : Int) - 2 - (j : Int)) + 1))), box bb1 #[.int .i64 0, .slice none 0 0] 35, box bb0 #[.slice a_fv n_fv c_fv, .slice a_fi fi.length c_fi, .slice a_fo n_fo c_fo] 29, imm (.slice a_fi fi.length c_fi) fi] := H46.pickN [1, 2, 3, 4, 5] (by decide) rfl
          refine loopN _ ?_ ⟨(j + 1), (xs.set (((fi.length : Int) - 2 - (j : Int)).toNat) (setR x4 (((fi.length : Int) - 2 - (j : Int)) + 1))), rfl, s30, s31, s32, (ieq rfl (by omega)), H47, (by first | assumption | omega | simp | (simp; omega)), (by first | assumption | simpa using hl), (by rw [show ((fi.length : Int) - 2 - (((j + 1 : Nat) : Nat) : Int)) = ((fi.length : Int) - 2 - (j : Int)) - 1 from by omega]; first | ((have h_ := poTo_same (t := ((fi.length : Int) - 2 - (j : Int))) (by omega) (by omega) (by rw [ses_atI hx0, ses_atI hx1]; exact p1) (hs ▸ hx2); rw [← h_, ← hs])) | ((have h_ := poTo_same (t := ((fi.length : Int) - 2 - (j : Int))) (by omega) (by omega) (by rw [ses_atI hx0, ses_atI hx1]; exact p1) (hs ▸ hx3); rw [← h_, ← hs])) | ((have h_ := poTo_same (t := ((fi.length : Int) - 2 - (j : Int))) (by omega) (by omega) (by rw [ses_atI hx0, ses_atI hx1]; exact p1) (hs ▸ hx4); rw [← h_, ← hs])) | ((have h_ := poTo_same (t := ((fi.length : Int) - 2 - (j : Int))) (by omega) (by omega) (by rw [ses_atI hx0, ses_atI hx1]; exact p1) (hs ▸ hx5); rw [← h_, ← hs])) | ((have h_ := poTo_same (t := ((fi.length : Int) - 2 - (j : Int))) (by omega) (by omega) (by rw [ses_atI hx0, ses_atI hx1]; exact p1) (hs ▸ hx6); rw [← h_, ← hs])) | ((have h_ := poTo_same (t := ((fi.length : Int) - 2 - (j : Int))) (by omega) (by omega) (by rw [ses_atI hx0, ses_atI hx1]; exact p1) (hs ▸ hx7); rw [← h_, ← hs])) | (rw [hs]; exact poTo_other ho (by omega) (by omega) (by rw [ses_atI hx0, ses_atI hx1]; exact p1)))⟩
          omega
      ·
        have p1 := of_decide_eq_false b1
        refine sk (inb_normal (nx (rg (k (mv rfl s18 (k (sub rfl rfl rfl rfl (by unfold I64 at *; omega) (k (asg (v := .int .i64 (((fi.length : Int) - 2 - (j : Int)) - 1)) rfl rfl (z ?_))))))))))
        refine loopN _ ?_ ⟨(j + 1), xs, rfl, s15, s16, s17, (ieq rfl (by omega)), H24, (by first | assumption | omega | simp | (simp; omega)), (by first | assumption | simpa using hl), (by rw [show ((fi.length : Int) - 2 - (((j + 1 : Nat) : Nat) : Int)) = ((fi.length : Int) - 2 - (j : Int)) - 1 from by omega]; first | ((have h_ := poTo_same (t := ((fi.length : Int) - 2 - (j : Int))) (by omega) (by omega) (by rw [ses_atI hx0, ses_atI hx1]; exact p1) (hs ▸ hx2); rw [← h_, ← hs])) | ((have h_ := poTo_same (t := ((fi.length : Int) - 2 - (j : Int))) (by omega) (by omega) (by rw [ses_atI hx0, ses_atI hx1]; exact p1) (hs ▸ hx3); rw [← h_, ← hs])) | ((have h_ := poTo_same (t := ((fi.length : Int) - 2 - (j : Int))) (by omega) (by omega) (by rw [ses_atI hx0, ses_atI hx1]; exact p1) (hs ▸ hx4); rw [← h_, ← hs])) | ((have h_ := poTo_same (t := ((fi.length : Int) - 2 - (j : Int))) (by omega) (by omega) (by rw [ses_atI hx0, ses_atI hx1]; exact p1) (hs ▸ hx5); rw [← h_, ← hs])) | ((have h_ := poTo_same (t := ((fi.length : Int) - 2 - (j : Int))) (by omega) (by omega) (by rw [ses_atI hx0, ses_atI hx1]; exact p1) (hs ▸ hx6); rw [← h_, ← hs])) | ((have h_ := poTo_same (t := ((fi.length : Int) - 2 - (j : Int))) (by omega) (by omega) (by rw [ses_atI hx0, ses_atI hx1]; exact p1) (hs ▸ hx7); rw [← h_, ← hs])) | (rw [hs]; exact poTo_other ho (by omega) (by omega) (by rw [ses_atI hx0, ses_atI hx1]; exact p1)))⟩
        omega
  ·
    have p0 := of_decide_eq_false b0
    refine ex (then_exit (loop_exit (inb_here (nx (sq (rg (k (ldX H6 0 rfl ty35 rfl s2 (by decide) rfl (k (stX H6 2 rfl ty35 rfl rfl s1 rfl rfl rfl rfl ?_))))))))))
    intro w6 (H7 : HI M w w6 [box bb2 #[.int .i64 (newMN (fi.length : Int)), .slice a0 (newMR (fi.length : Int)).length c0] 35, own w.heap.size 60 (.slice a0 (newMR (fi.length : Int)).length c0) xs, box bb1 #[.int .i64 (newMN (fi.length : Int)), .slice a0 (newMR (fi.length : Int)).length c0] 35, box bb0 #[.slice a_fv n_fv c_fv, .slice a_fi fi.length c_fi, .slice a_fo n_fo c_fo] 29, imm (.slice a_fi fi.length c_fi) fi])
    refine z (nx (rt (rc1 H7 2 rfl ty35 rfl rfl s1 rfl (by decide) ?_)))
    have e0 : (newMN (fi.length : Int) : Int) = (fi.length : Int) := by rw [en]
    have e1 : (xs : List (List (BitVec 64))) = poR fi := by rw [hs]; exact poTo_end (by omega)
    have l1 : (newMR (fi.length : Int)).length = (poR fi).length := by first | (rw [← e1]; omega) | (rw [poR_len]; omega) | (rw [er, newM_length, poR_len]; simp)
    have ev_ := cg2 (fun (x_0 : Int) (n_1 : Nat) => (.agg #[.int .i64 x_0, .slice a0 n_1 c0] : Value)) e0 l1
    exact ⟨a0, c0, ev_, H7.below, (congrArg (fun (n_ : Nat) => OwnsG _ _ _ (poR fi) (.slice a0 n_ c0) _) l1).mp ((congrArg (fun (x_ : List (List (BitVec 64))) => OwnsG _ _ _ x_ (.slice a0 (newMR (fi.length : Int)).length c0) _) e1).mp (H7.ownsG_out 1 rfl))⟩
end Go.Proofs.Ytmhopljngkgidaa
namespace Go.Proofs.Ytmhopljngkgidaa
open Go.Ew Go.RowKit
set_option linter.unusedVariables false
set_option linter.unusedSimpArgs false
attribute [local irreducible] WL WC SO Code.wp wpList retQ Ret
attribute [local irreducible] bitB hasW inR hasR setR countW countR subR words newR listR orR firstW tab8
theorem go46 : GoF Try.prog 46 := ⟨_, _, Try.func46, rfl, by kernel_rfl⟩
set_option maxRecDepth 100000 in
set_option maxHeartbeats 1600000 in
theorem ref11_From {M : Nat → Prop} {w : World} {a_fv : Option Addr} {n_fv c_fv : Nat} {a_fi : Option Addr} {c_fi : Nat} {fi : List (Int × Int × Bool × Int × Int)} {a_fo : Option Addr} {n_fo c_fo : Nat} (hM : ∀ b, M b → b < w.heap.size) (h_fi : RV M w (.slice a_fi fi.length c_fi) fi) (hn_fi : fi.length ≤ 4096) : Calls Try.prog 46 #[.agg #[.slice a_fv n_fv c_fv, .slice a_fi fi.length c_fi, .slice a_fo n_fo c_fo]] w (Ret fun v w' => ∃ (a0 : Option Addr) (c0 : Nat), v = .slice a0 (fromR fi).length c0 ∧ Ext w w' ∧ OwnsG M 3 w (fromR fi) (.slice a0 (fromR fi).length c0) w') := by
  refine enter 42 Try.func46 rfl rfl rfl fun f0 ha => ?_
  have H := HI.start (M0 := M) (w := w) hM
  have H0 := H.put (it := imm (.slice a_fi fi.length c_fi) fi) rfl (by rw [MS_nil]; exact h_fi)
  have ln_fi := rv_len h_fi
  have i0 : f0 0 = .agg #[.slice a_fv n_fv c_fv, .slice a_fi fi.length c_fi, .slice a_fo n_fo c_fo] := ha 0 (by simp)
  refine sq (rg (k (bx H0 rfl i0 ?_)))
  intro bb0 w0 xt0 (H1 : HI M w w0 [box bb0 #[.slice a_fv n_fv c_fv, .slice a_fi fi.length c_fi, .slice a_fo n_fo c_fo] 29, imm (.slice a_fi fi.length c_fi) fi])
  refine k (asg (v := .slice none 0 0) rfl rfl (z (nx (sq (rg (k (asg (v := .slice none 0 0) rfl rfl (z (nx (sq (sq (rg (k (asg (v := .int .i64 0) rfl rfl (z (nx (bk ?_)))))))))))))))))
  have H2 := H1.nil_ Int 3
  refine lp (fun m f w' => ∃ (j : Nat) (xs : List Int) (a0 : Option Addr) (c0 : Nat), m = fi.length - j ∧ f 1 = .pointer (some ⟨bb0, 0, none⟩) ∧ f 3 = .slice a0 xs.length c0 ∧ f 4 = .int .i64 (j : Int) ∧  HI M w w' [own w.heap.size 3 (.slice a0 xs.length c0) xs, box bb0 #[.slice a_fv n_fv c_fv, .slice a_fi fi.length c_fi, .slice a_fo n_fo c_fo] 29, imm (.slice a_fi fi.length c_fi) fi] ∧ (j ≤ fi.length) ∧ (xs = (fi.take j).map (frI fi))) _ ⟨0, ([] : List Int), none, 0, rfl, rfl, rfl, (ieq rfl (by first | rfl | omega | simp)), H2, (by first | assumption | omega | simp | (simp; omega)), (by rfl)⟩ ?_
  rintro _ f0 w1 ⟨j, xs, a0, c0, rfl, s0, s1, s2, H3, hk, hs⟩
  refine sq (sq (rg (k (mv rfl s2 (k (fa fl29_1 rfl s0 (k (ldX H3 1 rfl ty26 rfl rfl (by decide) rfl (k (lnS rfl rfl un26 (k (lss rfl rfl rfl rfl (z (nx ?_))))))))))))))
  refine cd (b := decide ((j : Int) < (fi.length : Int))) rfl rfl (fun b0 => ?_) (fun b0 => ?_)
  ·
    have p0 := of_decide_eq_true b0
    refine sk (nx (sq (bk (sq (rg (k (fa fl29_1 rfl s0 (k (ldX H3 1 rfl ty26 rfl rfl (by decide) rfl (k (mv rfl s2 (k (ia (H3.rv 2 rfl) rfl rfl rfl rfl (by first | omega | (simp; omega)) un26 ty70 ?_)))))))))))))
    intro ad0 x0 hx0 hA0
    refine k (ldW hA0.w ty70 rfl rfl ?_)
    intro v0 rv0
    obtain ⟨_, ⟨_, _, rfl, ⟨rfl, rv1⟩, ⟨_, _, rfl, ⟨rfl, rv2⟩, ⟨_, _, rfl, rfl, ⟨_, _, rfl, ⟨rfl, rv3⟩, ⟨rfl, rv4⟩⟩⟩⟩⟩, rfl⟩ := rv0
    refine k (al H3 ty70 ?_)
    intro bb1 w2 xt1 (H4 : HI M w w2 [box bb1 #[.int .i64 0, .int .i64 0, .bool false, .int .i64 0, .int .i64 0] 70, own w.heap.size 3 (.slice a0 xs.length c0) xs, box bb0 #[.slice a_fv n_fv c_fv, .slice a_fi fi.length c_fi, .slice a_fo n_fo c_fo] 29, imm (.slice a_fi fi.length c_fi) fi])
    refine k (stX H4 0 rfl ty70 rfl rfl rfl rfl rfl rfl rfl ?_)
    intro w3 (H5 : HI M w w3 [box bb1 #[.int .i64 x0.1, .int .i64 x0.2.1, .bool x0.2.2.1, .int .i64 x0.2.2.2.1, .int .i64 x0.2.2.2.2] 70, own w.heap.size 3 (.slice a0 xs.length c0) xs, box bb0 #[.slice a_fv n_fv c_fv, .slice a_fi fi.length c_fi, .slice a_fo n_fo c_fo] 29, imm (.slice a_fi fi.length c_fi) fi])
    refine z (nx (sq (rg (k (asg (v := .int .i64 (-2)) rfl rfl (z (nx (sq (rg (k (ldX H5 2 rfl ty29 rfl s0 (by decide) rfl (k (fa fl70_3 rfl rfl (k (ldX H5 0 rfl ty3 rfl rfl (by decide) rfl (k (fa fl70_4 rfl rfl (k (ldX H5 0 rfl ty3 rfl rfl (by decide) rfl (k ?_))))))))))))))))))))
    have cc0 := ref10_Write (fi := fi) (vr := x0.2.2.2.1) (val := x0.2.2.2.2) (a_fv := a_fv) (n_fv := n_fv) (c_fv := c_fv) (a_fo := a_fo) (n_fo := n_fo) (c_fo := c_fo) (w := w3) H5.mb (H5.rv 3 rfl) (by unfold I64 at *; omega) (by unfold I64 at *; omega)
    refine ca go45 rfl (ec rfl (ec rfl (ec rfl e0))) cc0 ?_
    rintro _ w4 ⟨rfl, xt2⟩
    have H6 := H5.ext xt2
    refine k (mv (v := .tuple #[.int .i64 (max (wrI fi x0.2.2.2.1 x0.2.2.2.2) 0), .bool (decide (0 ≤ wrI fi x0.2.2.2.1 x0.2.2.2.2))]) rfl rfl (k (xt rfl rfl rfl (k (xt rfl rfl rfl (k (asg (v := .int .i64 (max (wrI fi x0.2.2.2.1 x0.2.2.2.2) 0)) rfl rfl (k (asg (v := .bool (decide (0 ≤ wrI fi x0.2.2.2.1 x0.2.2.2.2))) rfl rfl (z (nx (sq (sq (rg (k (fa fl70_2 rfl rfl (k (ldX H6 0 rfl ty4 rfl rfl (by decide) rfl (z (nx ?_))))))))))))))))))))
    refine cd (b := x0.2.2.1) rfl rfl (fun b1 => ?_) (fun b1 => ?_)
    ·
      refine rg (k (asg (v := .int .i64 (-3)) rfl rfl (z (nx (rg (k (mv rfl s1 (k (mv (v := .int .i64 (-3)) rfl rfl (k (bs (xs := ([(-3)] : List Int)) (cells := #[.int .i64 (-3)]) (e := 3) H6 rfl (pbc rfl pb0) (fun _ => by kernel_rfl) ⟨[.int .i64 (-3)], [], rfl, ⟨rfl, (show I64 ((-3)) from (by unfold I64 at *; omega))⟩, rfl⟩ rfl (by unfold maxLen; omega) ?_)))))))))))
      intro g0 w5 xt3 (H7 : HI M w w5 [own w.heap.size 3 (.slice (some ⟨g0, 0, none⟩) 1 1) ([(-3)] : List Int), box bb1 #[.int .i64 x0.1, .int .i64 x0.2.1, .bool x0.2.2.1, .int .i64 x0.2.2.2.1, .int .i64 x0.2.2.2.2] 70, own w.heap.size 3 (.slice a0 xs.length c0) xs, box bb0 #[.slice a_fv n_fv c_fv, .slice a_fi fi.length c_fi, .slice a_fo n_fo c_fo] 29, imm (.slice a_fi fi.length c_fi) fi])
      refine k (ap H7 2 rfl rfl rfl rfl rfl rfl (own_src (H7.at_ 0 rfl)) un27 ty3 rfl (by rw [hs, List.length_map, List.length_take]; simp only [List.length_cons, List.length_nil]; omega) (by rw [hs, List.length_map, List.length_take]; simp only [List.length_cons, List.length_nil]; omega) ?_)
      intro a1 c1 w6 (H8 : HI M w w6 [own w.heap.size 3 (.slice (some ⟨g0, 0, none⟩) 1 1) ([(-3)] : List Int), box bb1 #[.int .i64 x0.1, .int .i64 x0.2.1, .bool x0.2.2.1, .int .i64 x0.2.2.2.1, .int .i64 x0.2.2.2.2] 70, own w.heap.size 3 (.slice a1 (xs ++ ([(-3)] : List Int)).length c1) (xs ++ ([(-3)] : List Int)), box bb0 #[.slice a_fv n_fv c_fv, .slice a_fi fi.length c_fi, .slice a_fo n_fo c_fo] 29, imm (.slice a_fi fi.length c_fi) fi])
      refine k (asg (v := .slice a1 (xs ++ ([(-3)] : List Int)).length c1) rfl rfl (z (inb_normal (nx (rg (k (mv rfl s2 (k (add rfl rfl rfl rfl (by unfold I64 at *; omega) (k (asg (v := .int .i64 ((j : Int) + 1)) rfl rfl (z ?_))))))))))))
      have H9 : HI M w w6 [own w.heap.size 3 (.slice a1 (xs ++ ([(-3)] : List Int)).length c1) (xs ++ ([(-3)] : List Int)), box bb0 #[.slice a_fv n_fv c_fv, .slice a_fi fi.length c_fi, .slice a_fo n_fo c_fo] 29, imm (.slice a_fi fi.length c_fi) fi] := H8.pickN [2, 3, 4] (by decide) rfl
      refine loopN _ ?_ ⟨(j + 1), (xs ++ ([(-3)] : List Int)), a1, c1, rfl, s0, rfl, (ieq rfl (by first | rfl | omega | (push_cast; omega))), H9, (by first | assumption | omega | simp | (simp; omega)), (by rw [hs]; first | exact fromR_step hx0 (frI_w b1) | exact fromR_step hx0 (frI_0 b1 p2) | exact fromR_step hx0 (frI_s b1 p2 b3) | exact fromR_step hx0 (frI_n b1 p2 b3))⟩
      omega
    ·
      refine sq (rg (k (fa fl70_4 rfl rfl (k (ldX H6 0 rfl ty3 rfl rfl (by decide) rfl (k (eql rfl rfl rfl rfl (z (nx ?_)))))))))
      refine cd (b := decide (x0.2.2.2.2 = 0)) rfl rfl (fun b2 => ?_) (fun b2 => ?_)
      ·
        have p2 := of_decide_eq_true b2
        refine rg (k (asg (v := .int .i64 (-1)) rfl rfl (z (nx (rg (k (mv rfl s1 (k (mv (v := .int .i64 (-1)) rfl rfl (k (bs (xs := ([(-1)] : List Int)) (cells := #[.int .i64 (-1)]) (e := 3) H6 rfl (pbc rfl pb0) (fun _ => by kernel_rfl) ⟨[.int .i64 (-1)], [], rfl, ⟨rfl, (show I64 ((-1)) from (by unfold I64 at *; omega))⟩, rfl⟩ rfl (by unfold maxLen; omega) ?_)))))))))))
        intro g0 w5 xt3 (H7 : HI M w w5 [own w.heap.size 3 (.slice (some ⟨g0, 0, none⟩) 1 1) ([(-1)] : List Int), box bb1 #[.int .i64 x0.1, .int .i64 x0.2.1, .bool x0.2.2.1, .int .i64 x0.2.2.2.1, .int .i64 x0.2.2.2.2] 70, own w.heap.size 3 (.slice a0 xs.length c0) xs, box bb0 #[.slice a_fv n_fv c_fv, .slice a_fi fi.length c_fi, .slice a_fo n_fo c_fo] 29, imm (.slice a_fi fi.length c_fi) fi])
        refine k (ap H7 2 rfl rfl rfl rfl rfl rfl (own_src (H7.at_ 0 rfl)) un27 ty3 rfl (by rw [hs, List.length_map, List.length_take]; simp only [List.length_cons, List.length_nil]; omega) (by rw [hs, List.length_map, List.length_take]; simp only [List.length_cons, List.length_nil]; omega) ?_)
        intro a1 c1 w6 (H8 : HI M w w6 [own w.heap.size 3 (.slice (some ⟨g0, 0, none⟩) 1 1) ([(-1)] : List Int), box bb1 #[.int .i64 x0.1, .int .i64 x0.2.1, .bool x0.2.2.1, .int .i64 x0.2.2.2.1, .int .i64 x0.2.2.2.2] 70, own w.heap.size 3 (.slice a1 (xs ++ ([(-1)] : List Int)).length c1) (xs ++ ([(-1)] : List Int)), box bb0 #[.slice a_fv n_fv c_fv, .slice a_fi fi.length c_fi, .slice a_fo n_fo c_fo] 29, imm (.slice a_fi fi.length c_fi) fi])
        refine k (asg (v := .slice a1 (xs ++ ([(-1)] : List Int)).length c1) rfl rfl (z (inb_normal (nx (rg (k (mv rfl s2 (k (add rfl rfl rfl rfl (by unfold I64 at *; omega) (k (asg (v := .int .i64 ((j : Int) + 1)) rfl rfl (z ?_))))))))))))
        have H9 : HI M w w6 [own w.heap.size 3 (.slice a1 (xs ++ ([(-1)] : List Int)).length c1) (xs ++ ([(-1)] : List Int)), box bb0 #[.slice a_fv n_fv c_fv, .slice a_fi fi.length c_fi, .slice a_fo n_fo c_fo] 29, imm (.slice a_fi fi.length c_fi) fi] := H8.pickN [2, 3, 4] (by decide) rfl
        refine loopN _ ?_ ⟨(j + 1), (xs ++ ([(-1)] : List Int)), a1, c1, rfl, s0, rfl, (ieq rfl (by first | rfl | omega | (push_cast; omega))), H9, (by first | assumption | omega | simp | (simp; omega)), (by rw [hs]; first | exact fromR_step hx0 (frI_w b1) | exact fromR_step hx0 (frI_0 b1 p2) | exact fromR_step hx0 (frI_s b1 p2 b3) | exact fromR_step hx0 (frI_n b1 p2 b3))⟩
        omega
      ·
        have p2 := of_decide_eq_false b2
        refine sq (rg (k (mv (v := .bool (decide (0 ≤ wrI fi x0.2.2.2.1 x0.2.2.2.2))) rfl rfl (z (nx ?_)))))
        refine cd (b := decide (0 ≤ wrI fi x0.2.2.2.1 x0.2.2.2.2)) rfl rfl (fun b3 => ?_) (fun b3 => ?_)
        ·
          have p3 := of_decide_eq_true b3
          refine rg (k (mv (v := .int .i64 (max (wrI fi x0.2.2.2.1 x0.2.2.2.2) 0)) rfl rfl (k (asg (v := .int .i64 (max (wrI fi x0.2.2.2.1 x0.2.2.2.2) 0)) rfl rfl (z (nx (rg (k (mv rfl s1 (k (mv (v := .int .i64 (max (wrI fi x0.2.2.2.1 x0.2.2.2.2) 0)) rfl rfl (k (bs (xs := ([(max (wrI fi x0.2.2.2.1 x0.2.2.2.2) 0)] : List Int)) (cells := #[.int .i64 (max (wrI fi x0.2.2.2.1 x0.2.2.2.2) 0)]) (e := 3) H6 rfl (pbc rfl pb0) (fun _ => by kernel_rfl) ⟨[.int .i64 (max (wrI fi x0.2.2.2.1 x0.2.2.2.2) 0)], [], rfl, ⟨rfl, (show I64 ((max (wrI fi x0.2.2.2.1 x0.2.2.2.2) 0)) from (by have h_ := idxF_range (p := isW x0.2.2.2.1 x0.2.2.2.2) (r := fi); unfold wrI; unfold I64; omega))⟩, rfl⟩ rfl (by unfold maxLen; omega) ?_)))))))))))))
          intro g0 w5 xt3 (H7 : HI M w w5 [own w.heap.size 3 (.slice (some ⟨g0, 0, none⟩) 1 1) ([(max (wrI fi x0.2.2.2.1 x0.2.2.2.2) 0)] : List Int), box bb1 #[.int .i64 x0.1, .int .i64 x0.2.1, .bool x0.2.2.1, .int .i64 x0.2.2.2.1, .int .i64 x0.2.2.2.2] 70, own w.heap.size 3 (.slice a0 xs.length c0) xs, box bb0 #[.slice a_fv n_fv c_fv, .slice a_fi fi.length c_fi, .slice a_fo n_fo c_fo] 29, imm (.slice a_fi fi.length c_fi) fi])
          refine k (ap H7 2 rfl rfl rfl rfl rfl rfl (own_src (H7.at_ 0 rfl)) un27 ty3 rfl (by rw [hs, List.length_map, List.length_take]; simp only [List.length_cons, List.length_nil]; omega) (by rw [hs, List.length_map, List.length_take]; simp only [List.length_cons, List.length_nil]; omega) ?_)
          intro a1 c1 w6 (H8 : HI M w w6 [own w.heap.size 3 (.slice (some ⟨g0, 0, none⟩) 1 1) ([(max (wrI fi x0.2.2.2.1 x0.2.2.2.2) 0)] : List Int), box bb1 #[.int .i64 x0.1, .int .i64 x0.2.1, .bool x0.2.2.1, .int .i64 x0.2.2.2.1, .int .i64 x0.2.2.2.2] 70, own w.heap.size 3 (.slice a1 (xs ++ ([(max (wrI fi x0.2.2.2.1 x0.2.2.2.2) 0)] : List Int)).length c1) (xs ++ ([(max (wrI fi x0.2.2.2.1 x0.2.2.2.2) 0)] : List Int)), box bb0 #[.slice a_fv n_fv c_fv, .slice a_fi fi.length c_fi, .slice a_fo n_fo c_fo] 29, imm (.slice a_fi fi.length c_fi) fi])
          refine k (asg (v := .slice a1 (xs ++ ([(max (wrI fi x0.2.2.2.1 x0.2.2.2.2) 0)] : List Int)).length c1) rfl rfl (z (inb_normal (nx (rg (k (mv rfl s2 (k (add rfl rfl rfl rfl (by unfold I64 at *; omega) (k (asg (v := .int .i64 ((j : Int) + 1)) rfl rfl (z ?_))))))))))))
          have H9 : HI M w w6 [own w.heap.size 3 (.slice a1 (xs ++ ([(max (wrI fi x0.2.2.2.1 x0.2.2.2.2) 0)] : List Int)).length c1) (xs ++ ([(max (wrI fi x0.2.2.2.1 x0.2.2.2.2) 0)] : List Int)), box bb0 #[.slice a_fv n_fv c_fv, .slice a_fi fi.length c_fi, .slice a_fo n_fo c_fo] 29, imm (.slice a_fi fi.length c_fi) fi] := H8.pickN [2, 3, 4] (by decide) rfl
          refine loopN _ ?_ ⟨(j + 1), (xs ++ ([(max (wrI fi x0.2.2.2.1 x0.2.2.2.2) 0)] : List Int)), a1, c1, rfl, s0, rfl, (ieq rfl (by first | rfl | omega | (push_cast; omega))), H9, (by first | assumption | omega | simp | (simp; omega)), (by rw [hs]; first | exact fromR_step hx0 (frI_w b1) | exact fromR_step hx0 (frI_0 b1 p2) | exact fromR_step hx0 (frI_s b1 p2 b3) | exact fromR_step hx0 (frI_n b1 p2 b3))⟩
          omega
        ·
          have p3 := of_decide_eq_false b3
          refine sk (nx (rg (k (mv rfl s1 (k (mv (v := .int .i64 (-2)) rfl rfl (k (bs (xs := ([(-2)] : List Int)) (cells := #[.int .i64 (-2)]) (e := 3) H6 rfl (pbc rfl pb0) (fun _ => by kernel_rfl) ⟨[.int .i64 (-2)], [], rfl, ⟨rfl, (show I64 ((-2)) from (by unfold I64 at *; omega))⟩, rfl⟩ rfl (by unfold maxLen; omega) ?_))))))))
          intro g0 w5 xt3 (H7 : HI M w w5 [own w.heap.size 3 (.slice (some ⟨g0, 0, none⟩) 1 1) ([(-2)] : List Int), box bb1 #[.int .i64 x0.1, .int .i64 x0.2.1, .bool x0.2.2.1, .int .i64 x0.2.2.2.1, .int .i64 x0.2.2.2.2] 70, own w.heap.size 3 (.slice a0 xs.length c0) xs, box bb0 #[.slice a_fv n_fv c_fv, .slice a_fi fi.length c_fi, .slice a_fo n_fo c_fo] 29, imm (.slice a_fi fi.length c_fi) fi])
          refine k (ap H7 2 rfl rfl rfl rfl rfl rfl (own_src (H7.at_ 0 rfl)) un27 ty3 rfl (by rw [hs, List.length_map, List.length_take]; simp only [List.length_cons, List.length_nil]; omega) (by rw [hs, List.length_map, List.length_take]; simp only [List.length_cons, List.length_nil]; omega) ?_)
          intro a1 c1 w6 (H8 : HI M w w6 [own w.heap.size 3 (.slice (some ⟨g0, 0, none⟩) 1 1) ([(-2)] : List Int), box bb1 #[.int .i64 x0.1, .int .i64 x0.2.1, .bool x0.2.2.1, .int .i64 x0.2.2.2.1, .int .i64 x0.2.2.2.2] 70, own w.heap.size 3 (.slice a1 (xs ++ ([(-2)] : List Int)).length c1) (xs ++ ([(-2)] : List Int)), box bb0 #[.slice a_fv n_fv c_fv, .slice a_fi fi.length c_fi, .slice a_fo n_fo c_fo] 29, imm (.slice a_fi fi.length c_fi) fi])
          refine k (asg (v := .slice a1 (xs ++ ([(-2)] : List Int)).length c1) rfl rfl (z (inb_normal (nx (rg (k (mv rfl s2 (k (add rfl rfl rfl rfl (by unfold I64 at *; omega) (k (asg (v := .int .i64 ((j : Int) + 1)) rfl rfl (z ?_))))))))))))
          have H9 : HI M w w6 [own w.heap.size 3 (.slice a1 (xs ++ ([(-2)] : List Int)).length c1) (xs ++ ([(-2)] : List Int)), box bb0 #[.slice a_fv n_fv c_fv, .slice a_fi fi.length c_fi, .slice a_fo n_fo c_fo] 29, imm (.slice a_fi fi.length c_fi) fi] := H8.pickN [2, 3, 4] (by decide) rfl
          refine loopN _ ?_ ⟨(j + 1), (xs ++ ([(-2)] : List Int)), a1, c1, rfl, s0, rfl, (ieq rfl (by first | rfl | omega | (push_cast; omega))), H9, (by first | assumption | omega | simp | (simp; omega)), (by rw [hs]; first | exact fromR_step hx0 (frI_w b1) | exact fromR_step hx0 (frI_0 b1 p2) | exact fromR_step hx0 (frI_s b1 p2 b3) | exact fromR_step hx0 (frI_n b1 p2 b3))⟩
          omega
  ·
    have p0 := of_decide_eq_false b0
    refine ex (then_exit (loop_exit (inb_here (nx (sq (rg (k (mv rfl s1 (k (asg (v := .slice a0 xs.length c0) rfl rfl (z (nx (rt (r1 rfl rfl ?_))))))))))))))
    have e0 : (xs : List Int) = fromR fi := by rw [hs]; unfold fromR; rw [take_end (by omega)]
    have ev_ := cg1 (fun (x_0 : List Int) => (.slice a0 x_0.length c0 : Value)) e0
    exact ⟨a0, c0, ev_, H3.below, (congrArg (fun (x_ : List Int) => OwnsG _ _ _ x_ (.slice a0 x_.length c0) _) e0).mp (H3.ownsG_out 0 rfl)⟩
set_option maxRecDepth 100000 in
set_option maxHeartbeats 1600000 in
theorem ref11_Fill {M : Nat → Prop} {w : World} {a_fv : Option Addr} {c_fv : Nat} {fv : List ByteArray} {a_fi : Option Addr} {c_fi : Nat} {fi : List (Int × Int × Bool × Int × Int)} {a_fo : Option Addr} {c_fo : Nat} {fo : List Int} (hM : ∀ b, M b → b < w.heap.size) (h_fv : RV M w (.slice a_fv fv.length c_fv) fv) (h_fi : RV M w (.slice a_fi fi.length c_fi) fi) (h_fo : RV M w (.slice a_fo fo.length c_fo) fo) (hn_fi : fi.length ≤ 4096) : Calls Try.prog 27 #[.agg #[.slice a_fv fv.length c_fv, .slice a_fi fi.length c_fi, .slice a_fo fo.length c_fo]] w (Ret fun v w' => ∃ (a0 : Option Addr) (c0 : Nat) (a1 : Option Addr) (c1 : Nat) (a2 : Option Addr) (c2 : Nat), v = .agg #[.slice a0 fv.length c0, .slice a1 fi.length c1, .slice a2 (fromR fi).length c2] ∧ Ext w w' ∧ RV M w' (.slice a0 fv.length c0) fv ∧ RV M w' (.slice a1 fi.length c1) fi ∧ RV M w' (.slice a2 (fromR fi).length c2) (fromR fi)) := by
  refine enter 10 Try.func27 rfl rfl rfl fun f0 ha => ?_
  have H := HI.start (M0 := M) (w := w) hM
  have H0 := H.put (it := imm (.slice a_fv fv.length c_fv) fv) rfl (by rw [MS_nil]; exact h_fv)
  have H1 := H0.put (it := imm (.slice a_fi fi.length c_fi) fi) rfl (by rw [MS_cons_none rfl, MS_nil]; exact h_fi)
  have H2 := H1.put (it := imm (.slice a_fo fo.length c_fo) fo) rfl (by rw [MS_cons_none rfl, MS_cons_none rfl, MS_nil]; exact h_fo)
  have ln_fv := rv_len h_fv
  have ln_fi := rv_len h_fi
  have ln_fo := rv_len h_fo
  have i0 : f0 0 = .agg #[.slice a_fv fv.length c_fv, .slice a_fi fi.length c_fi, .slice a_fo fo.length c_fo] := ha 0 (by simp)
  refine sq (rg (k (bx H2 rfl i0 ?_)))
  intro bb0 w0 xt0 (H3 : HI M w w0 [box bb0 #[.slice a_fv fv.length c_fv, .slice a_fi fi.length c_fi, .slice a_fo fo.length c_fo] 29, imm (.slice a_fo fo.length c_fo) fo, imm (.slice a_fi fi.length c_fi) fi, imm (.slice a_fv fv.length c_fv) fv])
  refine k (al H3 ty29 ?_)
  intro bb1 w1 xt1 (H4 : HI M w w1 [box bb1 #[.slice none 0 0, .slice none 0 0, .slice none 0 0] 29, box bb0 #[.slice a_fv fv.length c_fv, .slice a_fi fi.length c_fi, .slice a_fo fo.length c_fo] 29, imm (.slice a_fo fo.length c_fo) fo, imm (.slice a_fi fi.length c_fi) fi, imm (.slice a_fv fv.length c_fv) fv])
  refine z (nx (sq ?_))
  refine dr 6 [fun (v : Value) (w' : World) => v = .pointer (some ⟨bb0, 0, none⟩), fun (v : Value) (w' : World) => v = .slice a_fv fv.length c_fv, fun (v : Value) (w' : World) => v = .pointer (some ⟨bb0, 1, none⟩), fun (v : Value) (w' : World) => v = .slice a_fi fi.length c_fi, fun (v : Value) (w' : World) => v = .agg #[.slice a_fv fv.length c_fv, .slice a_fi fi.length c_fi, .slice a_fo fo.length c_fo], fun (v : Value) (w' : World) => ∃ (a0 : Option Addr) (c0 : Nat), v = .slice a0 (fromR fi).length c0 ∧ RV (MS M [box bb1 #[.slice none 0 0, .slice none 0 0, .slice none 0 0] 29, box bb0 #[.slice a_fv fv.length c_fv, .slice a_fi fi.length c_fi, .slice a_fo fo.length c_fo] 29, imm (.slice a_fo fo.length c_fo) fo, imm (.slice a_fi fi.length c_fi) fi, imm (.slice a_fv fv.length c_fv) fv]) w' (.slice a0 (fromR fi).length c0) (fromR fi)] rfl (by kernel_rfl) ?_ ?_
  ·
    refine ⟨fun _ => ⟨fun f0 w3 hf0 xt3 hp0 => ?_, fun _ _ _ _ h => h⟩, ?_⟩
    ·
      have H7 := H4.ext xt3
      refine fa fl29_0 rfl (hf0 1 rfl) ?_
      exact ⟨_, rfl, Ext.refl _, rfl⟩
    refine ⟨fun _ => ⟨fun f1 w4 hf1 xt4 hp1 => ?_, fun _ _ _ _ h => h⟩, ?_⟩
    ·
      have H8 := H4.ext xt4
      have s0 : f1 3 = .pointer (some ⟨bb0, 0, none⟩) := hp1 0 rfl rfl
      refine ldX H8 1 rfl ty25 rfl s0 (by decide) rfl ?_
      exact ⟨_, rfl, Ext.refl _, rfl⟩
    refine ⟨fun _ => ⟨fun f2 w5 hf2 xt5 hp2 => ?_, fun _ _ _ _ h => h⟩, ?_⟩
    ·
      have H9 := H4.ext xt5
      refine fa fl29_1 rfl (hf2 1 rfl) ?_
      exact ⟨_, rfl, Ext.refl _, rfl⟩
    refine ⟨fun _ => ⟨fun f3 w6 hf3 xt6 hp3 => ?_, fun _ _ _ _ h => h⟩, ?_⟩
    ·
      have H10 := H4.ext xt6
      have s1 : f3 5 = .pointer (some ⟨bb0, 1, none⟩) := hp3 2 rfl rfl
      refine ldX H10 1 rfl ty26 rfl s1 (by decide) rfl ?_
      exact ⟨_, rfl, Ext.refl _, rfl⟩
    refine ⟨fun _ => ⟨fun f4 w7 hf4 xt7 hp4 => ?_, fun _ _ _ _ h => h⟩, ?_⟩
    ·
      have H11 := H4.ext xt7
      refine ldX H11 1 rfl ty29 rfl (hf4 1 rfl) (by decide) rfl ?_
      exact ⟨_, rfl, Ext.refl _, rfl⟩
    refine ⟨fun _ => ⟨fun f5 w8 hf5 xt8 hp5 => ?_, by rintro _ _ _ x_ ⟨a0, c0, e_, rv1⟩; exact ⟨a0, c0, e_, rv1.lift (Up.ext x_)⟩⟩, ?_⟩
    ·
      have H12 := H4.ext xt8
      have s2 : f5 7 = .agg #[.slice a_fv fv.length c_fv, .slice a_fi fi.length c_fi, .slice a_fo fo.length c_fo] := hp5 4 rfl rfl
      have cc1 := ref11_From (fi := fi) (a_fv := a_fv) (n_fv := fv.length) (c_fv := c_fv) (a_fo := a_fo) (n_fo := fo.length) (c_fo := c_fo) (w := w8) H12.mb (H12.rv 3 rfl) (by assumption)
      refine ca go46 rfl (ec s2 e0) cc1 ?_
      rintro _ w9 ⟨a1, c1, rfl, xt9, rv2⟩
      have rv3 := OwnsG.rv rv2 H12.mb
      have H13 := H12.ext xt9
      have H14 := H13.put (it := imm (.slice a1 (fromR fi).length c1) (fromR fi)) rfl rv3
      exact ⟨_, rfl, xt9, ⟨a1, c1, rfl, rv3⟩⟩
    exact DSteps.rest rfl _
  · intro f6 w10 hf6 xt10 hp6
    have H15 := H4.ext xt10
    have s3 : f6 2 = .pointer (some ⟨bb1, 0, none⟩) := hf6 2 rfl
    have s4 : f6 4 = .slice a_fv fv.length c_fv := hp6 1 rfl
    have s5 : f6 6 = .slice a_fi fi.length c_fi := hp6 3 rfl
    obtain ⟨a2, c2, s6, rv4⟩ : ∃ (a2 : Option Addr) (c2 : Nat), f6 8 = .slice a2 (fromR fi).length c2 ∧ RV (MS M [box bb1 #[.slice none 0 0, .slice none 0 0, .slice none 0 0] 29, box bb0 #[.slice a_fv fv.length c_fv, .slice a_fi fi.length c_fi, .slice a_fo fo.length c_fo] 29, imm (.slice a_fo fo.length c_fo) fo, imm (.slice a_fi fi.length c_fi) fi, imm (.slice a_fv fv.length c_fv) fv]) w10 (.slice a2 (fromR fi).length c2) (fromR fi) := hp6 5 rfl
    have H16 := H15.put (it := imm (.slice a2 (fromR fi).length c2) (fromR fi)) rfl rv4
    refine k (bd (v := .agg #[.slice a_fv fv.length c_fv, .slice a_fi fi.length c_fi, .slice a2 (fromR fi).length c2]) rfl (pbc s4 (pbc s5 (pbc s6 pb0))) (fun _ => by kernel_rfl) (k (stX H16 1 rfl ty29 rfl rfl s3 rfl rfl rfl rfl ?_)))
    intro w11 (H17 : HI M w w11 [imm (.slice a2 (fromR fi).length c2) (fromR fi), box bb1 #[.slice a_fv fv.length c_fv, .slice a_fi fi.length c_fi, .slice a2 (fromR fi).length c2] 29, box bb0 #[.slice a_fv fv.length c_fv, .slice a_fi fi.length c_fi, .slice a_fo fo.length c_fo] 29, imm (.slice a_fo fo.length c_fo) fo, imm (.slice a_fi fi.length c_fi) fi, imm (.slice a_fv fv.length c_fv) fv])
    refine z (nx (rt (rc1 H17 1 rfl ty29 rfl rfl s3 rfl (by decide) ?_)))
    exact ⟨a_fv, c_fv, a_fi, c_fi, a2, c2, rfl, H17.below, (H17.gives_out 5 rfl), (H17.gives_out 4 rfl), (H17.gives_out 0 rfl)⟩
end Go.Proofs.Ytmhopljngkgidaa
namespace Go.Proofs.Ytmhopljngkgidaa
open Go.Ew Go.RowKit
set_option linter.unusedVariables false
set_option linter.unusedSimpArgs false
attribute [local irreducible] WL WC SO Code.wp wpList retQ Ret
attribute [local irreducible] bitB hasW inR hasR setR countW countR subR words newR listR orR firstW tab8
theorem go25 : GoF Try.prog 25 := ⟨_, _, Try.func25, rfl, by kernel_rfl⟩
theorem go26 : GoF Try.prog 26 := ⟨_, _, Try.func26, rfl, by kernel_rfl⟩
theorem go27 : GoF Try.prog 27 := ⟨_, _, Try.func27, rfl, by kernel_rfl⟩
set_option maxRecDepth 100000 in
set_option maxHeartbeats 1600000 in
theorem ref11_Of {M : Nat → Prop} {w : World} {a_h : Option Addr} {c_h : Nat} {h : List (List (Bool × ByteArray × Int))} (hM : ∀ b, M b → b < w.heap.size) (h_h : RV M w (.slice a_h h.length c_h) h) (hb_h : h.flatten.length ≤ 4096) : Calls Try.prog 8 #[.slice a_h h.length c_h] w (Ret fun v w' => ∃ (a0 : Option Addr) (c0 : Nat) (a1 : Option Addr) (c1 : Nat) (a2 : Option Addr) (c2 : Nat), v = .tuple #[.agg #[.slice a0 (o11V h).length c0, .slice a1 (o11I h).length c1, .slice a2 (o11F h).length c2], .bool (o11 h)] ∧ Ext w w' ∧ RV M w' (.slice a0 (o11V h).length c0) (o11V h) ∧ RV M w' (.slice a1 (o11I h).length c1) (o11I h) ∧ RV M w' (.slice a2 (o11F h).length c2) (o11F h)) := by
  refine enter 25 Try.func8 rfl rfl rfl fun f0 ha => ?_
  have H := HI.start (M0 := M) (w := w) hM
  have H0 := H.put (it := imm (.slice a_h h.length c_h) h) rfl (by rw [MS_nil]; exact h_h)
  have ln_h := rv_len h_h
  have i0 : f0 0 = .slice a_h h.length c_h := ha 0 (by simp)
  refine sq (rg (k (al H0 ty29 ?_)))
  intro bb0 w0 xt0 (H1 : HI M w w0 [box bb0 #[.slice none 0 0, .slice none 0 0, .slice none 0 0] 29, imm (.slice a_h h.length c_h) h])
  refine k (asg (v := .bool false) rfl rfl (z (nx (sq (rg (k (mv rfl i0 (k ?_))))))))
  have cc0 := ref09_Of (h := h) (w := w0) H1.mb (H1.rv 1 rfl) (by omega)
  refine ca go25 rfl (ec rfl e0) cc0 ?_
  rintro _ w1 ⟨a0, c0, a1, c1, a2, c2, rfl, xt1, rv0, rv1, rv2⟩
  have H2 := H1.ext xt1
  have H3 := H2.put (it := imm (.slice a0 (ofV h).length c0) (ofV h)) rfl rv0
  have H4 := H3.put (it := imm (.slice a1 (ofI h).length c1) (ofI h)) rfl (by rw [MS_cons_none rfl]; exact rv1)
  have H5 := H4.put (it := imm (.slice a2 ([] : List Int).length c2) ([] : List Int)) rfl (by rw [MS_cons_none rfl, MS_cons_none rfl]; exact rv2)
  refine k (mv (v := .tuple #[.agg #[.slice a0 (ofV h).length c0, .slice a1 (ofI h).length c1, .slice a2 ([] : List Int).length c2], .int .i64 (ofE h)]) rfl rfl (k (xt rfl rfl rfl (k (xt rfl rfl rfl (k (al H5 ty29 ?_)))))))
  intro bb1 w2 xt2 (H6 : HI M w w2 [box bb1 #[.slice none 0 0, .slice none 0 0, .slice none 0 0] 29, imm (.slice a2 ([] : List Int).length c2) ([] : List Int), imm (.slice a1 (ofI h).length c1) (ofI h), imm (.slice a0 (ofV h).length c0) (ofV h), box bb0 #[.slice none 0 0, .slice none 0 0, .slice none 0 0] 29, imm (.slice a_h h.length c_h) h])
  refine k (stX H6 0 rfl ty29 rfl rfl rfl rfl rfl rfl rfl ?_)
  intro w3 (H7 : HI M w w3 [box bb1 #[.slice a0 (ofV h).length c0, .slice a1 (ofI h).length c1, .slice a2 ([] : List Int).length c2] 29, imm (.slice a2 ([] : List Int).length c2) ([] : List Int), imm (.slice a1 (ofI h).length c1) (ofI h), imm (.slice a0 (ofV h).length c0) (ofV h), box bb0 #[.slice none 0 0, .slice none 0 0, .slice none 0 0] 29, imm (.slice a_h h.length c_h) h])
  refine k (asg (v := .int .i64 (ofE h)) rfl rfl (z (nx (sq (sq (rg (k (mv (v := .int .i64 (ofE h)) rfl rfl (k (neq rfl rfl rfl rfl (z (nx ?_))))))))))))
  refine cd (b := !decide ((ofE h) = 0)) rfl rfl (fun b0 => ?_) (fun b0 => ?_)
  ·
    have p0 := of_decide_eq_false (nott b0)
    refine sq ?_
    have hq : o11 h = false := o11_no1 (by simpa using ‹(!decide (ofE h = 0)) = true›)
    refine rg (k (bd (v := .agg #[.slice none 0 0, .slice none 0 0, .slice none 0 0]) rfl pb0 (fun _ => by kernel_rfl) (k (stX H7 4 rfl ty29 rfl rfl rfl rfl rfl rfl rfl ?_))))
    intro w4 (H8 : HI M w w4 [box bb1 #[.slice a0 (ofV h).length c0, .slice a1 (ofI h).length c1, .slice a2 ([] : List Int).length c2] 29, imm (.slice a2 ([] : List Int).length c2) ([] : List Int), imm (.slice a1 (ofI h).length c1) (ofI h), imm (.slice a0 (ofV h).length c0) (ofV h), box bb0 #[.slice none 0 0, .slice none 0 0, .slice none 0 0] 29, imm (.slice a_h h.length c_h) h])
    refine k (asg (v := .bool false) rfl rfl (z (nx (rt (then_ret (rc2 H8 4 rfl ty29 rfl rfl rfl rfl rfl (by decide) ?_))))))
    have e0 : ([] : List ByteArray) = o11V h := by first | exact (o11_no hq).1.symm | exact (o11_yes hq).1.symm
    have e1 : ([] : List (Int × Int × Bool × Int × Int)) = o11I h := by first | exact (o11_no hq).2.1.symm | exact (o11_yes hq).2.1.symm
    have e2 : ([] : List Int) = o11F h := by first | exact (o11_no hq).2.2.symm | exact (o11_yes hq).2.2.symm
    have e3 : (false : Bool) = o11 h := by exact hq.symm
    have ev_ := cg4 (fun (x_0 : List ByteArray) (x_1 : List (Int × Int × Bool × Int × Int)) (x_2 : List Int) (x_3 : Bool) => (.tuple #[.agg #[.slice none x_0.length 0, .slice none x_1.length 0, .slice none x_2.length 0], .bool x_3] : Value)) e0 e1 e2 e3
    exact ⟨none, 0, none, 0, none, 0, ev_, H8.below, (congrArg (fun (x_ : List ByteArray) => RV _ _ (.slice none x_.length 0) x_) e0).mp (rv_nil _ _), (congrArg (fun (x_ : List (Int × Int × Bool × Int × Int)) => RV _ _ (.slice none x_.length 0) x_) e1).mp (rv_nil _ _), (congrArg (fun (x_ : List Int) => RV _ _ (.slice none x_.length 0) x_) e2).mp (rv_nil _ _)⟩
  ·
    have p0 := of_decide_eq_true (notf b0)
    refine sk (nx (sq ?_))
    have he_ : ofE h = 0 := by simpa using ‹(!decide (ofE h = 0)) = false›
    refine rg (k (ldX H7 0 rfl ty29 rfl rfl (by decide) rfl (k ?_)))
    have cc1 := ref10_Check (fi := (ofI h)) (a_fv := a0) (n_fv := (ofV h).length) (c_fv := c0) (a_fo := a2) (n_fo := ([] : List Int).length) (c_fo := c2) (w := w3) H7.mb (H7.rv 2 rfl)
    refine ca go26 rfl (ec rfl e0) cc1 ?_
    rintro _ w4 ⟨rfl, xt3⟩
    have H8 := H7.ext xt3
    refine k (mv (v := .tuple #[.int .i64 ((chkA (ofI h)).1), .int .i64 ((chkA (ofI h)).2.1), .int .i64 ((chkA (ofI h)).2.2)]) rfl rfl (k (xt rfl rfl rfl (k (xt rfl rfl rfl (k (xt rfl rfl rfl (k (asg (v := .int .i64 ((chkA (ofI h)).2.2)) rfl rfl (z (nx (sq (sq (rg (k (mv (v := .int .i64 ((chkA (ofI h)).2.2)) rfl rfl (k (neq rfl rfl rfl rfl (z (nx ?_))))))))))))))))))))
    refine cd (b := !decide (((chkA (ofI h)).2.2) = 0)) rfl rfl (fun b1 => ?_) (fun b1 => ?_)
    ·
      have p1 := of_decide_eq_false (nott b1)
      refine sq ?_
      have hq : o11 h = false := o11_no2 (by simpa using ‹(!decide ((chkA (ofI h)).2.2 = 0)) = true›)
      refine rg (k (bd (v := .agg #[.slice none 0 0, .slice none 0 0, .slice none 0 0]) rfl pb0 (fun _ => by kernel_rfl) (k (stX H8 4 rfl ty29 rfl rfl rfl rfl rfl rfl rfl ?_))))
      intro w5 (H9 : HI M w w5 [box bb1 #[.slice a0 (ofV h).length c0, .slice a1 (ofI h).length c1, .slice a2 ([] : List Int).length c2] 29, imm (.slice a2 ([] : List Int).length c2) ([] : List Int), imm (.slice a1 (ofI h).length c1) (ofI h), imm (.slice a0 (ofV h).length c0) (ofV h), box bb0 #[.slice none 0 0, .slice none 0 0, .slice none 0 0] 29, imm (.slice a_h h.length c_h) h])
      refine k (asg (v := .bool false) rfl rfl (z (nx (rt (then_ret (rc2 H9 4 rfl ty29 rfl rfl rfl rfl rfl (by decide) ?_))))))
      have e0 : ([] : List ByteArray) = o11V h := by first | exact (o11_no hq).1.symm | exact (o11_yes hq).1.symm
      have e1 : ([] : List (Int × Int × Bool × Int × Int)) = o11I h := by first | exact (o11_no hq).2.1.symm | exact (o11_yes hq).2.1.symm
      have e2 : ([] : List Int) = o11F h := by first | exact (o11_no hq).2.2.symm | exact (o11_yes hq).2.2.symm
      have e3 : (false : Bool) = o11 h := by exact hq.symm
      have ev_ := cg4 (fun (x_0 : List ByteArray) (x_1 : List (Int × Int × Bool × Int × Int)) (x_2 : List Int) (x_3 : Bool) => (.tuple #[.agg #[.slice none x_0.length 0, .slice none x_1.length 0, .slice none x_2.length 0], .bool x_3] : Value)) e0 e1 e2 e3
      exact ⟨none, 0, none, 0, none, 0, ev_, H9.below, (congrArg (fun (x_ : List ByteArray) => RV _ _ (.slice none x_.length 0) x_) e0).mp (rv_nil _ _), (congrArg (fun (x_ : List (Int × Int × Bool × Int × Int)) => RV _ _ (.slice none x_.length 0) x_) e1).mp (rv_nil _ _), (congrArg (fun (x_ : List Int) => RV _ _ (.slice none x_.length 0) x_) e2).mp (rv_nil _ _)⟩
    ·
      have p1 := of_decide_eq_true (notf b1)
      refine sk (nx (sq ?_))
      have hq : o11 h = true := o11_is he_ (by simpa using ‹(!decide ((chkA (ofI h)).2.2 = 0)) = false›)
      refine rg (k (ldX H8 0 rfl ty29 rfl rfl (by decide) rfl (k ?_)))
      have cc2 := ref11_Fill (fv := (ofV h)) (fi := (ofI h)) (fo := ([] : List Int)) (w := w4) H8.mb (H8.rv 3 rfl) (H8.rv 2 rfl) (H8.rv 1 rfl) (by have h_ := ofI_len h; omega)
      refine ca go27 rfl (ec rfl e0) cc2 ?_
      rintro _ w5 ⟨a3, c3, a4, c4, a5, c5, rfl, xt4, rv3, rv4, rv5⟩
      have H9 := H8.ext xt4
      have H10 := H9.put (it := imm (.slice a3 (ofV h).length c3) (ofV h)) rfl rv3
      have H11 := H10.put (it := imm (.slice a4 (ofI h).length c4) (ofI h)) rfl (by rw [MS_cons_none rfl]; exact rv4)
      have H12 := H11.put (it := imm (.slice a5 (fromR (ofI h)).length c5) (fromR (ofI h))) rfl (by rw [MS_cons_none rfl, MS_cons_none rfl]; exact rv5)
      refine k (stX H12 7 rfl ty29 rfl rfl rfl rfl rfl rfl rfl ?_)
      intro w6 (H13 : HI M w w6 [imm (.slice a5 (fromR (ofI h)).length c5) (fromR (ofI h)), imm (.slice a4 (ofI h).length c4) (ofI h), imm (.slice a3 (ofV h).length c3) (ofV h), box bb1 #[.slice a0 (ofV h).length c0, .slice a1 (ofI h).length c1, .slice a2 ([] : List Int).length c2] 29, imm (.slice a2 ([] : List Int).length c2) ([] : List Int), imm (.slice a1 (ofI h).length c1) (ofI h), imm (.slice a0 (ofV h).length c0) (ofV h), box bb0 #[.slice a3 (ofV h).length c3, .slice a4 (ofI h).length c4, .slice a5 (fromR (ofI h)).length c5] 29, imm (.slice a_h h.length c_h) h])
      refine k (asg (v := .bool true) rfl rfl (z (nx (rt (rc2 H13 7 rfl ty29 rfl rfl rfl rfl rfl (by decide) ?_)))))
      have e0 : ((ofV h) : List ByteArray) = o11V h := by first | exact (o11_no hq).1.symm | exact (o11_yes hq).1.symm
      have e1 : ((ofI h) : List (Int × Int × Bool × Int × Int)) = o11I h := by first | exact (o11_no hq).2.1.symm | exact (o11_yes hq).2.1.symm
      have e2 : (fromR (ofI h) : List Int) = o11F h := by first | exact (o11_no hq).2.2.symm | exact (o11_yes hq).2.2.symm
      have e3 : (true : Bool) = o11 h := by exact hq.symm
      have ev_ := cg4 (fun (x_0 : List ByteArray) (x_1 : List (Int × Int × Bool × Int × Int)) (x_2 : List Int) (x_3 : Bool) => (.tuple #[.agg #[.slice a3 x_0.length c3, .slice a4 x_1.length c4, .slice a5 x_2.length c5], .bool x_3] : Value)) e0 e1 e2 e3
      exact ⟨a3, c3, a4, c4, a5, c5, ev_, H13.below, (congrArg (fun (x_ : List ByteArray) => RV _ _ (.slice a3 x_.length c3) x_) e0).mp (H13.gives_out 2 rfl), (congrArg (fun (x_ : List (Int × Int × Bool × Int × Int)) => RV _ _ (.slice a4 x_.length c4) x_) e1).mp (H13.gives_out 1 rfl), (congrArg (fun (x_ : List Int) => RV _ _ (.slice a5 x_.length c5) x_) e2).mp (H13.gives_out 0 rfl)⟩
end Go.Proofs.Ytmhopljngkgidaa
namespace Go.Proofs.Ytmhopljngkgidaa
open Go.Ew Go.RowKit
set_option linter.unusedVariables false
set_option linter.unusedSimpArgs false
attribute [local irreducible] WL WC SO Code.wp wpList retQ Ret
attribute [local irreducible] bitB hasW inR hasR setR countW countR subR words newR listR orR firstW tab8
set_option maxRecDepth 100000 in
set_option maxHeartbeats 1600000 in
theorem hull_join {M0 : Nat → Prop} {w0 w : World} {l : List Go.Ew.Item} {i j : Nat} {a_i a_f : Option Addr} {c_i c_f : Nat} {a b : List (BitVec 64)} (H : HI M0 w0 w l) (hi : l[i]? = some (own w0.heap.size 74 (.slice a_i a.length c_i) a)) (hj : l[j]? = some (own w0.heap.size 74 (.slice a_f b.length c_f) b)) (hlen : b.length ≤ a.length) (hlb : b.length ≤ 1000000000) (hne : i ≠ j ∨ ((.slice a_i a.length c_i : Value) = .slice a_f b.length c_f ∧ b = a)) : Calls Try.prog 56 #[.slice a_i a.length c_i, .slice a_f b.length c_f] w (Ret fun v w' => v = .tuple #[] ∧ HI M0 w0 w' (l.set i (own w0.heap.size 74 (.slice a_i a.length c_i) (orR a b)))) := by
  have hil : i < l.length := (List.getElem?_eq_some_iff.1 hi).1
  refine enter 21 Try.func56 rfl rfl rfl fun f0 ha => ?_
  have i0 : f0 0 = .slice a_i a.length c_i := ha 0 (by simp)
  have i1 : f0 1 = .slice a_f b.length c_f := ha 1 (by simp)
  refine sq (rg (k (mv (v := .slice a_f b.length c_f) rfl i1 (k (lnS rfl rfl un60 (k (mv (v := .int .i64 0) rfl rfl (z (nx (bk ?_))))))))))
  refine lp (fun m f w' => ∃ (q : Nat) (xs : List (BitVec 64)), m = b.length - q ∧ f 0 = .slice a_i a.length c_i ∧ f 6 = .slice a_f b.length c_f ∧ f 7 = .int .i64 (b.length : Int) ∧ f 8 = .int .i64 (q : Int) ∧ HI M0 w0 w' (l.set i (own w0.heap.size 74 (.slice a_i a.length c_i) xs)) ∧ q ≤ b.length ∧ xs.length = a.length ∧ xs = orTo a.length a b a q) _ ⟨0, a, rfl, i0, rfl, rfl, rfl, (by rw [set_own hi]; exact H), Nat.zero_le _, rfl, orTo_zero _ _ _⟩ ?_
  rintro _ f1 w1 ⟨q, xs, rfl, s0, s1, s2, s3, H1, hk, hl, hs⟩
  refine sq (rg (k (lss rfl rfl s3 s2 (z (nx (sq ?_))))))
  refine cd (b := decide ((q : Int) < (b.length : Int))) rfl rfl (fun b1 => ?_) (fun b1 => ?_)
  ·
    have p1 := of_decide_eq_true b1
    obtain ⟨ys, hj1, hyl, hyq⟩ := join_from hj hil hne hl hs hk hlen
    refine sk (nx (sq (bk (sq (rg (k (mv rfl s3 (k (iaO (H1.at_ j hj1) rfl rfl s1 s3 (by omega) un60 ty74 ?_)))))))))
    intro g0 x0 hv0 hx0 hA0
    have hxq := hyq x0 hx0
    refine k (ldU hA0 ty74 rfl rfl (k (asg (v := .int .i64 (q : Int)) rfl rfl (k (asg (v := U x0) rfl rfl (z (nx (rg (k (mv rfl s0 (k (mv (v := .int .i64 (q : Int)) rfl rfl (k (iaO (H1.at_ i (set_at hil)) rfl rfl rfl rfl (by omega) un60 ty74 ?_))))))))))))))
    intro g1 x1 hv1 hx1 hA1
    refine k (ldU hA1 ty74 rfl rfl (k (mv (v := U x0) rfl rfl (k (orU x1 x0 rfl rfl rfl rfl (k (iaO (H1.at_ i (set_at hil)) rfl rfl rfl rfl (by omega) un60 ty74 ?_)))))))
    intro g2 x2 hv2 hx2 hA2
    refine k (stO H1 i (set_at hil) hv2 rfl (by omega) ty74 rfl rfl rfl rfl (RV.bv.2 rfl) ?_)
    intro w2 H2
    rw [set_set] at H2
    refine z (inb_normal (nx (rg (k (add rfl rfl s3 rfl (by unfold I64 at *; omega) (k (mv (v := .int .i64 ((q : Int) + 1)) rfl rfl (z ?_))))))))
    refine loopN _ ?_ ⟨(q + 1), (xs.set ((q : Int).toNat) (x1 ||| x0)), rfl, s0, s1, s2, (ieq rfl (by first | rfl | omega | (push_cast; omega))), H2, (by omega), (by simpa using hl), join_step hs hxq hx1⟩
    omega
  ·
    have p1 := of_decide_eq_false b1
    refine ex (then_exit (loop_exit (inb_here (r0n rfl ?_))))
    exact ⟨rfl, by rw [← join_end hs hlen (by omega)]; exact H1⟩
set_option maxRecDepth 100000 in
set_option maxHeartbeats 1600000 in
theorem mat_NewR {M : Nat → Prop} {w : World} {n : Int} (hM : ∀ b, M b → b < w.heap.size) (h_n : I64 n) (h0 : 0 ≤ n) (h4 : n ≤ 4096) : Calls Try.prog 29 #[.int .i64 n] w (Ret fun v w' => ∃ (a0 : Option Addr) (c0 : Nat) (ss : List SV), v = .tuple #[.agg #[.int .i64 n, .slice a0 n.toNat c0], .int .i64 0] ∧ Ext w w' ∧ OwnsR M 60 74 w ss (List.replicate n.toNat (newR n)) (.slice a0 n.toNat c0) w') := by
  refine enter 29 Try.func29 rfl rfl rfl fun f0 ha => ?_
  have H := HI.start (M0 := M) (w := w) hM
  have i0 : f0 0 = .int .i64 n := ha 0 (by simp)
  refine sq (rg (k (al H ty35 ?_)))
  intro bb0 w0 xt0 (H0 : HI M w w0 [box bb0 #[.int .i64 0, .slice none 0 0] 35])
  refine k (asg (v := .int .i64 0) rfl rfl (z (nx (sq (sq (rg (k (mv rfl i0 (k (lss rfl rfl rfl rfl (k (mv (v := .bool (decide (n < 0))) rfl rfl ?_))))))))))))
  have b0 : decide (n < 0) = false := decide_eq_false (by omega)
  refine k (gy rfl rfl rfl b0 (mv rfl i0 (k (gy rfl rfl rfl b0 (gtr rfl rfl rfl rfl (k (pickF rfl rfl rfl rfl b0 rfl (z (nx ?_)))))))))
  refine cd (b := decide (4096 < n)) rfl rfl (fun b1 => ?_) (fun b1 => ?_)
  · exact absurd (of_decide_eq_true b1) (by omega)
  refine sk (nx (sq (rg (k (mv rfl i0 (k ?_))))))
  have n0 : ((n.toNat : Nat) : Int) = n := Int.toNat_of_nonneg (by omega)
  refine mk (m := n.toNat) (zx := (⟨none, 0, 0⟩ : SV)) H0 rfl rfl (by rw [n0]; exact rfl) (by rw [n0]; exact rfl) un33 ty60 (fun _ _ => rfl) (by first | omega | (simp; omega)) (by first | omega | (simp; omega)) ?_
  intro g0 w1 xt1 (H1 : HI M w w1 [own w.heap.size 60 (.slice (some ⟨g0, 0, none⟩) n.toNat n.toNat) (List.replicate n.toNat (⟨none, 0, 0⟩ : SV)), box bb0 #[.int .i64 0, .slice none 0 0] 35])
  refine k (asg (v := .slice (some ⟨g0, 0, none⟩) n.toNat n.toNat) rfl rfl (z (nx (sq (sq (rg (k (mv (v := .slice (some ⟨g0, 0, none⟩) n.toNat n.toNat) rfl rfl (k (lnS rfl rfl un33 (k (mv (v := .int .i64 0) rfl rfl (z (nx (bk ?_)))))))))))))))
  refine lp (fun m f w' => ∃ (j : Nat) (ss : List SV), m = n.toNat - j ∧ f 0 = .int .i64 n ∧ f 2 = .pointer (some ⟨bb0, 0, none⟩) ∧ f 4 = .slice (some ⟨g0, 0, none⟩) n.toNat n.toNat ∧ f 16 = .int .i64 (n.toNat : Int) ∧ f 17 = .int .i64 (j : Int) ∧ HI M w w' ([own w.heap.size 60 (.slice (some ⟨g0, 0, none⟩) n.toNat n.toNat) (ss ++ List.replicate (n.toNat - j) (⟨none, 0, 0⟩ : SV)), box bb0 #[.int .i64 0, .slice none 0 0] 35] ++ rowItems w.heap.size 74 ss (List.replicate j (newR n))) ∧ j ≤ n.toNat ∧ ss.length = j) _ ⟨0, [], rfl, i0, rfl, rfl, rfl, rfl, H1, Nat.zero_le _, rfl⟩ ?_
  rintro _ f0 w2 ⟨j, ss, rfl, s0, s1, s2, s3, s4, H2, hk, hl⟩
  refine sq (rg (k (lss rfl rfl s4 s3 (z (nx (sq ?_))))))
  refine cd (b := decide ((j : Int) < (n.toNat : Int))) rfl rfl (fun b2 => ?_) (fun b2 => ?_)
  ·
    have p2 := of_decide_eq_true b2
    refine sk (nx (sq (bk (sq (rg (k (mv rfl s4 (k (asg (v := .int .i64 (j : Int)) rfl rfl (z (nx (rg (k (mv rfl s2 (k (mv (v := .int .i64 (j : Int)) rfl rfl (k (mv rfl s0 (k ?_)))))))))))))))))))
    have cc0 := row_New (n := n) (w := w2) H2.mb (by unfold I64 at *; omega) (by first | omega | (simp; omega))
    refine ca go47 rfl (ec rfl e0) cc0 ?_
    rintro _ w3 ⟨a0, c0, rfl, xt2, rv0⟩
    have H3 := H2.ownsG rv0
    have hjl : j < (ss ++ List.replicate (n.toNat - j) (⟨none, 0, 0⟩ : SV)).length := by rw [List.length_append, List.length_replicate]; omega
    refine k (iaO (H3.at_ 1 rfl) rfl rfl rfl rfl (by omega) un33 ty60 ?_)
    intro g1 x0 hv0 hx0 hA0
    refine k (stO (yv := (⟨a0, (newR n).length, c0⟩ : SV)) H3 1 rfl hv0 rfl (by omega) ty60 rfl rfl rfl rfl (RV.sv.2 rfl) ?_)
    intro w4 H4
    have H5 : HI M w w4 (own w.heap.size 74 (⟨a0, (newR n).length, c0⟩ : SV).v (newR n) :: ([own w.heap.size 60 (.slice (some ⟨g0, 0, none⟩) n.toNat n.toNat) ((ss ++ List.replicate (n.toNat - j) (⟨none, 0, 0⟩ : SV)).set ((j : Int).toNat) ⟨a0, (newR n).length, c0⟩), box bb0 #[.int .i64 0, .slice none 0 0] 35] ++ rowItems w.heap.size 74 ss (List.replicate j (newR n)))) := H4
    have H6 := H5.rowEnd (by rw [List.length_replicate]; exact hl)
    have es : (ss ++ List.replicate (n.toNat - j) (⟨none, 0, 0⟩ : SV)).set ((j : Int).toNat) ⟨a0, (newR n).length, c0⟩ = (ss ++ [⟨a0, (newR n).length, c0⟩]) ++ List.replicate (n.toNat - (j + 1)) (⟨none, 0, 0⟩ : SV) := by
      rw [Int.toNat_natCast, List.set_append_right _ _ (by omega), hl, Nat.sub_self, show n.toNat - j = n.toNat - (j + 1) + 1 from by omega, List.replicate_succ, List.set_cons_zero]; simp
    rw [es, ← List.replicate_succ'] at H6
    refine z (inb_normal (nx (rg (k (add rfl rfl s4 rfl (by unfold I64 at *; omega) (k (mv (v := .int .i64 ((j : Int) + 1)) rfl rfl (z ?_))))))))
    refine loopN _ ?_ ⟨(j + 1), (ss ++ [⟨a0, (newR n).length, c0⟩]), rfl, s0, s1, s2, s3, (ieq rfl (by first | rfl | omega | (push_cast; omega))), H6, (by omega), (by rw [List.length_append, hl]; rfl)⟩
    omega
  ·
    have p2 := of_decide_eq_false b2
    obtain rfl : j = n.toNat := by omega
    rw [Nat.sub_self, List.replicate_zero, List.append_nil] at H2
    refine ex (then_exit (loop_exit (inb_here (nx (sq (rg (k (mv rfl s0 (k (mv rfl s2 (k (bd (v := .agg #[.int .i64 n, .slice (some ⟨g0, 0, none⟩) n.toNat n.toNat]) rfl (pbc rfl (pbc rfl pb0)) (fun _ => by kernel_rfl) (k (stX H2 1 rfl ty35 rfl rfl s1 rfl rfl rfl rfl ?_))))))))))))))
    intro w3 H3
    have H4 : HI M w w3 ([own w.heap.size 60 (.slice (some ⟨g0, 0, none⟩) n.toNat n.toNat) ss, box bb0 #[.int .i64 n, .slice (some ⟨g0, 0, none⟩) n.toNat n.toNat] 35] ++ rowItems w.heap.size 74 ss (List.replicate n.toNat (newR n))) := H3
    refine k (asg (v := .int .i64 0) rfl rfl (z (nx (rt (rc2 H4 1 rfl ty35 rfl rfl rfl s1 rfl (by decide) ?_)))))
    exact ⟨(some ⟨g0, 0, none⟩), n.toNat, ss, rfl, H4.below, by rw [List.length_replicate]; exact hl, H4.pickT (l' := [own w.heap.size 60 (.slice (some ⟨g0, 0, none⟩) n.toNat n.toNat) ss]) [0] (by decide) rfl rfl⟩
end Go.Proofs.Ytmhopljngkgidaa
namespace Go.Proofs.Ytmhopljngkgidaa
open Go.Ew Go.RowKit
set_option linter.unusedVariables false
set_option linter.unusedSimpArgs false
attribute [local irreducible] WL WC SO Code.wp wpList retQ Ret
attribute [local irreducible] bitB hasW inR hasR setR countW countR subR words newR listR orR firstW tab8
end Go.Proofs.Ytmhopljngkgidaa
namespace Go.Proofs.Ytmhopljngkgidaa
open Go.Ew Go.RowKit
set_option linter.unusedVariables false
set_option linter.unusedSimpArgs false
attribute [local irreducible] WL WC SO Code.wp wpList retQ Ret
attribute [local irreducible] bitB hasW inR hasR setR countW countR subR words newR listR orR firstW tab8
set_option maxRecDepth 100000 in
set_option maxHeartbeats 1600000 in
theorem hull_own {M : Nat → Prop} {w : World} {mn : Int} {a_mr : Option Addr} {c_mr : Nat} {mr : List (List (BitVec 64))} (hM : ∀ b, M b → b < w.heap.size) (h_mn : I64 mn) (h_mr : RV M w (.slice a_mr mr.length c_mr) mr) (rt_m : rightS mn mr = true) : Calls Try.prog 54 #[.agg #[.int .i64 mn, .slice a_mr mr.length c_mr]] w (Ret fun v w' => ∃ (a0 : Option Addr) (c0 : Nat) (ss0 : List SV), v = .agg #[.int .i64 mn, .slice a0 mn.toNat c0] ∧ Ext w w' ∧ OwnsR M 60 74 w ss0 mr (.slice a0 mn.toNat c0) w') := by
  refine enter 30 Try.func54 rfl rfl rfl fun f0 ha => ?_
  have H := HI.start (M0 := M) (w := w) hM
  have H0 := H.put (it := imm (.slice a_mr mr.length c_mr) mr) rfl (by rw [MS_nil]; exact h_mr)
  have ln_mr := rv_len h_mr
  have i0 : f0 0 = .agg #[.int .i64 mn, .slice a_mr mr.length c_mr] := ha 0 (by simp)
  refine sq (rg (k (bx H0 rfl i0 ?_)))
  intro bb0 w0 xt0 (H1 : HI M w w0 [box bb0 #[.int .i64 mn, .slice a_mr mr.length c_mr] 35, imm (.slice a_mr mr.length c_mr) mr])
  refine k (al H1 ty35 ?_)
  intro bb1 w1 xt1 (H2 : HI M w w1 [box bb1 #[.int .i64 0, .slice none 0 0] 35, box bb0 #[.int .i64 mn, .slice a_mr mr.length c_mr] 35, imm (.slice a_mr mr.length c_mr) mr])
  refine z (nx (sq (rg (k (fa fl35_0 rfl rfl (k (ldX H2 1 rfl ty3 rfl rfl (by decide) rfl (k ?_))))))))
  have cc0 := mat_NewR (n := mn) (w := w1) H2.mb (by unfold I64 at *; omega) (by exact right_pos rt_m) (by exact (right_sq rt_m).2.2.1)
  refine ca go29 rfl (ec rfl e0) cc0 ?_
  rintro _ w2 ⟨a0, c0, ss0, rfl, xt2, rv0⟩
  have H3 := H2.ownsR rv0
  have H4 : HI M w w2 ([own w.heap.size 60 (.slice a0 mn.toNat c0) ss0, box bb1 #[.int .i64 0, .slice none 0 0] 35, box bb0 #[.int .i64 mn, .slice a_mr mr.length c_mr] 35, imm (.slice a_mr mr.length c_mr) mr] ++ rowItems w.heap.size 74 ss0 (List.replicate mn.toNat (newR mn))) := H3
  have ssl0 := rv0.1
  refine k (mv (v := .tuple #[.agg #[.int .i64 mn, .slice a0 mn.toNat c0], .int .i64 0]) rfl rfl (k (xt rfl rfl rfl (k (xt rfl rfl rfl (k (al H4 ty35 ?_)))))))
  intro bb2 w3 xt3 (H5 : HI M w w3 ([box bb2 #[.int .i64 0, .slice none 0 0] 35, own w.heap.size 60 (.slice a0 mn.toNat c0) ss0, box bb1 #[.int .i64 0, .slice none 0 0] 35, box bb0 #[.int .i64 mn, .slice a_mr mr.length c_mr] 35, imm (.slice a_mr mr.length c_mr) mr] ++ rowItems w.heap.size 74 ss0 (List.replicate mn.toNat (newR mn))))
  refine k (stX H5 0 rfl ty35 rfl rfl rfl rfl rfl rfl rfl ?_)
  intro w4 (H6 : HI M w w4 ([box bb2 #[.int .i64 mn, .slice a0 mn.toNat c0] 35, own w.heap.size 60 (.slice a0 mn.toNat c0) ss0, box bb1 #[.int .i64 0, .slice none 0 0] 35, box bb0 #[.int .i64 mn, .slice a_mr mr.length c_mr] 35, imm (.slice a_mr mr.length c_mr) mr] ++ rowItems w.heap.size 74 ss0 (List.replicate mn.toNat (newR mn))))
  refine k (asg (v := .int .i64 0) rfl rfl (z (nx (sq (sq (rg (k (fa fl35_1 rfl rfl (k (ldX H6 3 rfl ty33 rfl rfl (by decide) rfl (k (lnS rfl rfl un33 (k (mv (v := .int .i64 0) rfl rfl (z (nx (bk ?_)))))))))))))))))
  refine lp (fun m f w' => ∃ (j : Nat) (xs : List (List (BitVec 64))), m = mr.length - j ∧ f 2 = .pointer (some ⟨bb1, 0, none⟩) ∧ f 3 = .pointer (some ⟨bb2, 0, none⟩) ∧ f 14 = .slice a_mr mr.length c_mr ∧ f 15 = .int .i64 (mr.length : Int) ∧ f 16 = .int .i64 (j : Int) ∧  HI M w w' ([box bb2 #[.int .i64 mn, .slice a0 mn.toNat c0] 35, own w.heap.size 60 (.slice a0 mn.toNat c0) ss0, box bb1 #[.int .i64 0, .slice none 0 0] 35, box bb0 #[.int .i64 mn, .slice a_mr mr.length c_mr] 35, imm (.slice a_mr mr.length c_mr) mr] ++ rowItems w.heap.size 74 ss0 xs) ∧ (j ≤ mr.length) ∧ (ss0.length = xs.length) ∧ (xs = mr.take j ++ List.replicate (mn.toNat - j) (newR mn))) _ ⟨0, (List.replicate mn.toNat (newR mn)), rfl, rfl, rfl, rfl, rfl, (ieq rfl (by first | rfl | omega | simp)), H6, (by first | assumption | omega | simp | (simp; omega)), (by exact rv0.1), (by simp)⟩ ?_
  rintro _ f0 w5 ⟨j, xs, rfl, s0, s1, s2, s3, s4, H7, hk, hl, hs⟩
  refine sq (rg (k (lss rfl rfl s4 s3 (z (nx (sq ?_))))))
  refine cd (b := decide ((j : Int) < (mr.length : Int))) rfl rfl (fun b0 => ?_) (fun b0 => ?_)
  ·
    have p0 := of_decide_eq_true b0
    refine sk (nx (sq (bk (sq (rg (k (mv rfl s4 (k (ia (H7.rv 4 rfl) rfl rfl s2 s4 (by first | omega | (simp; omega)) un33 ty60 ?_)))))))))
    intro ad0 x0 hx0 hA0
    refine k (ldL hA0.w ty60 rfl rfl ?_)
    intro a1 c1 rv1
    have ln0 := rv_len rv1
    have H8 := H7.put (it := imm (.slice a1 x0.length c1) x0) rfl rv1
    have H9 : HI M w w5 ([imm (.slice a1 x0.length c1) x0, box bb2 #[.int .i64 mn, .slice a0 mn.toNat c0] 35, own w.heap.size 60 (.slice a0 mn.toNat c0) ss0, box bb1 #[.int .i64 0, .slice none 0 0] 35, box bb0 #[.int .i64 mn, .slice a_mr mr.length c_mr] 35, imm (.slice a_mr mr.length c_mr) mr] ++ rowItems w.heap.size 74 ss0 xs) := H8
    refine k (asg (v := .int .i64 (j : Int)) rfl rfl (k (asg (v := .slice a1 x0.length c1) rfl rfl (z (nx ?_)))))
    have xl_ : xs.length = mr.length := by have h_ := (right_sq rt_m).1; rw [hs, List.length_append, List.length_take, List.length_replicate]; omega
    refine rg (k (fa fl35_1 rfl s1 (k (ldX H9 1 rfl ty33 rfl rfl (by decide) rfl (k (mv (v := .int .i64 (j : Int)) rfl rfl (k ?_)))))))
    obtain ⟨a2, x1, c2, hs0, hr0⟩ := row_get (i := (j : Int).toNat) H9 (by first | assumption | (simp only [List.length_set]; assumption) | (simp only [List.length_set, List.length_replicate] at *; omega)) (by omega)
    refine iaO (H9.at_ 2 rfl) rfl rfl rfl rfl (by first | omega | (simp; omega)) un33 ty60 ?_
    intro g0 x2 hv0 hx1 hA1
    obtain rfl : (⟨a2, x1.length, c2⟩ : SV) = x2 := Option.some.inj (hs0.symm.trans hx1)
    refine k (ldV hA1 ty60 rfl rfl (k (mv (v := .slice a1 x0.length c1) rfl rfl (k (cpO H9 _ (row_at hs0 hr0) rfl rfl rfl rfl rfl (H9.rv 0 rfl).src un60 ty74 (by exact own_len rt_m hs hx0 hr0) (by exact own_pos rt_m hs hx0 hr0) ?_)))))
    intro w6 H11
    have H10 := HI.rowPut (M := fun _ => False) (it := imm (.int .i64 0) (0 : Int)) H11 hs0
    have H12 : HI M w w6 ([imm (.slice a1 x0.length c1) x0, box bb2 #[.int .i64 mn, .slice a0 mn.toNat c0] 35, own w.heap.size 60 (.slice a0 mn.toNat c0) ss0, box bb1 #[.int .i64 0, .slice none 0 0] 35, box bb0 #[.int .i64 mn, .slice a_mr mr.length c_mr] 35, imm (.slice a_mr mr.length c_mr) mr] ++ rowItems w.heap.size 74 ss0 (xs.set ((j : Int).toNat) x0)) := H10
    refine z (inb_normal (nx (rg (k (add rfl rfl s4 rfl (by unfold I64 at *; omega) (k (mv (v := .int .i64 ((j : Int) + 1)) rfl rfl (z ?_))))))))
    have H13 : HI M w w6 ([box bb2 #[.int .i64 mn, .slice a0 mn.toNat c0] 35, own w.heap.size 60 (.slice a0 mn.toNat c0) ss0, box bb1 #[.int .i64 0, .slice none 0 0] 35, box bb0 #[.int .i64 mn, .slice a_mr mr.length c_mr] 35, imm (.slice a_mr mr.length c_mr) mr] ++ rowItems w.heap.size 74 ss0 (xs.set ((j : Int).toNat) x0)) := HI.pickT (l := [imm (.slice a1 x0.length c1) x0, box bb2 #[.int .i64 mn, .slice a0 mn.toNat c0] 35, own w.heap.size 60 (.slice a0 mn.toNat c0) ss0, box bb1 #[.int .i64 0, .slice none 0 0] 35, box bb0 #[.int .i64 mn, .slice a_mr mr.length c_mr] 35, imm (.slice a_mr mr.length c_mr) mr]) (l' := [box bb2 #[.int .i64 mn, .slice a0 mn.toNat c0] 35, own w.heap.size 60 (.slice a0 mn.toNat c0) ss0, box bb1 #[.int .i64 0, .slice none 0 0] 35, box bb0 #[.int .i64 mn, .slice a_mr mr.length c_mr] 35, imm (.slice a_mr mr.length c_mr) mr]) (t := rowItems w.heap.size 74 ss0 (xs.set ((j : Int).toNat) x0)) H12 [1, 2, 3, 4, 5] (by decide) rfl rfl
    refine loopN _ ?_ ⟨(j + 1), (xs.set ((j : Int).toNat) x0), rfl, s0, s1, s2, s3, (ieq rfl (by first | rfl | omega | (push_cast; omega))), H13, (by first | assumption | omega | simp | (simp; omega)), (by simp only [List.length_set]; exact hl), (by exact own_step rt_m hs hx0)⟩
    omega
  ·
    have p0 := of_decide_eq_false b0
    refine ex (then_exit (loop_exit (inb_here (nx (sq (rg (k (ldX H7 0 rfl ty35 rfl s1 (by decide) rfl (k (stX H7 2 rfl ty35 rfl rfl s0 rfl rfl rfl rfl ?_))))))))))
    intro w6 (H8 : HI M w w6 ([box bb2 #[.int .i64 mn, .slice a0 mn.toNat c0] 35, own w.heap.size 60 (.slice a0 mn.toNat c0) ss0, box bb1 #[.int .i64 mn, .slice a0 mn.toNat c0] 35, box bb0 #[.int .i64 mn, .slice a_mr mr.length c_mr] 35, imm (.slice a_mr mr.length c_mr) mr] ++ rowItems w.heap.size 74 ss0 xs))
    refine z (nx (rt (rc1 H8 2 rfl ty35 rfl rfl s0 rfl (by decide) ?_)))
    have e1 : (xs : List (List (BitVec 64))) = mr := by exact own_end rt_m hs (by omega)
    have w1 : ss0.length = (xs).length := by first | assumption | (simp only [List.length_set]; assumption) | (simp only [List.length_set, List.length_replicate] at *; omega)
    exact ⟨a0, c0, ss0, rfl, H8.below, (congrArg (fun (x_ : List (List (BitVec 64))) => OwnsR _ 60 74 _ ss0 x_ (.slice a0 mn.toNat c0) _) e1).mp ⟨w1, HI.pickT (l := [box bb2 #[.int .i64 mn, .slice a0 mn.toNat c0] 35, own w.heap.size 60 (.slice a0 mn.toNat c0) ss0, box bb1 #[.int .i64 mn, .slice a0 mn.toNat c0] 35, box bb0 #[.int .i64 mn, .slice a_mr mr.length c_mr] 35, imm (.slice a_mr mr.length c_mr) mr]) (l' := [own w.heap.size 60 (.slice a0 mn.toNat c0) ss0]) (t := rowItems w.heap.size 74 ss0 xs) H8 [1] (by decide) rfl rfl⟩⟩
end Go.Proofs.Ytmhopljngkgidaa
namespace Go.Proofs.Ytmhopljngkgidaa
open Go.Ew Go.RowKit
set_option linter.unusedVariables false
set_option linter.unusedSimpArgs false
attribute [local irreducible] WL WC SO Code.wp wpList retQ Ret
attribute [local irreducible] bitB hasW inR hasR setR countW countR subR words newR listR orR firstW tab8
theorem go54 : GoF Try.prog 54 := ⟨_, _, Try.func54, rfl, by kernel_rfl⟩
theorem go55 : GoF Try.prog 55 := ⟨_, _, Try.func55, rfl, by kernel_rfl⟩
theorem go56 : GoF Try.prog 56 := ⟨_, _, Try.func56, rfl, by kernel_rfl⟩
set_option maxRecDepth 100000 in
set_option maxHeartbeats 1600000 in
theorem hull_Close {M : Nat → Prop} {w : World} {mn : Int} {a_mr : Option Addr} {c_mr : Nat} {mr : List (List (BitVec 64))} (hM : ∀ b, M b → b < w.heap.size) (h_mn : I64 mn) (h_mr : RV M w (.slice a_mr mr.length c_mr) mr) (rt_m : rightS mn mr = true) : Calls Try.prog 35 #[.agg #[.int .i64 mn, .slice a_mr mr.length c_mr]] w (Ret fun v w' => ∃ (a0 : Option Addr) (c0 : Nat), v = .agg #[.int .i64 mn, .slice a0 (closeM mn mr).length c0] ∧ Ext w w' ∧ OwnsG M 60 w (closeM mn mr) (.slice a0 (closeM mn mr).length c0) w') := by
  refine enter 41 Try.func35 rfl rfl rfl fun f0 ha => ?_
  have H := HI.start (M0 := M) (w := w) hM
  have H0 := H.put (it := imm (.slice a_mr mr.length c_mr) mr) rfl (by rw [MS_nil]; exact h_mr)
  have ln_mr := rv_len h_mr
  have i0 : f0 0 = .agg #[.int .i64 mn, .slice a_mr mr.length c_mr] := ha 0 (by simp)
  have hl_ := (right_sq rt_m).1; have h4_ := (right_sq rt_m).2.2.1; have h0_ := right_pos rt_m
  refine sq (rg (k (bx H0 rfl i0 ?_)))
  intro bb0 w0 xt0 (H1 : HI M w w0 [box bb0 #[.int .i64 mn, .slice a_mr mr.length c_mr] 35, imm (.slice a_mr mr.length c_mr) mr])
  refine k (al H1 ty35 ?_)
  intro bb1 w1 xt1 (H2 : HI M w w1 [box bb1 #[.int .i64 0, .slice none 0 0] 35, box bb0 #[.int .i64 mn, .slice a_mr mr.length c_mr] 35, imm (.slice a_mr mr.length c_mr) mr])
  refine z (nx (sq (rg (k (ldX H2 1 rfl ty35 rfl rfl (by decide) rfl (k ?_))))))
  have cc0 := hull_own (mn := mn) (mr := mr) (w := w1) H2.mb (by unfold I64 at *; omega) (H2.rv 2 rfl) (by exact rt_m)
  refine ca go54 rfl (ec rfl e0) cc0 ?_
  rintro _ w2 ⟨a0, c0, ss0, rfl, xt2, rv0⟩
  have H3 := H2.ownsR rv0
  have H4 : HI M w w2 ([own w.heap.size 60 (.slice a0 mn.toNat c0) ss0, box bb1 #[.int .i64 0, .slice none 0 0] 35, box bb0 #[.int .i64 mn, .slice a_mr mr.length c_mr] 35, imm (.slice a_mr mr.length c_mr) mr] ++ rowItems w.heap.size 74 ss0 mr) := H3
  have ssl0 := rv0.1
  refine k (al H4 ty35 ?_)
  intro bb2 w3 xt3 (H5 : HI M w w3 ([box bb2 #[.int .i64 0, .slice none 0 0] 35, own w.heap.size 60 (.slice a0 mn.toNat c0) ss0, box bb1 #[.int .i64 0, .slice none 0 0] 35, box bb0 #[.int .i64 mn, .slice a_mr mr.length c_mr] 35, imm (.slice a_mr mr.length c_mr) mr] ++ rowItems w.heap.size 74 ss0 mr))
  refine k (stX H5 0 rfl ty35 rfl rfl rfl rfl rfl rfl rfl ?_)
  intro w4 (H6 : HI M w w4 ([box bb2 #[.int .i64 mn, .slice a0 mn.toNat c0] 35, own w.heap.size 60 (.slice a0 mn.toNat c0) ss0, box bb1 #[.int .i64 0, .slice none 0 0] 35, box bb0 #[.int .i64 mn, .slice a_mr mr.length c_mr] 35, imm (.slice a_mr mr.length c_mr) mr] ++ rowItems w.heap.size 74 ss0 mr))
  refine z (nx (sq (sq (rg (k (fa fl35_1 rfl rfl (k (ldX H6 0 rfl ty33 rfl rfl (by decide) rfl (k (lnS rfl rfl un33 (k (mv (v := .int .i64 0) rfl rfl (z (nx (bk ?_)))))))))))))))
  refine lp (fun m f w' => ∃ (q : Nat) (xs : List (List (BitVec 64))), m = mn.toNat - q ∧ f 2 = .pointer (some ⟨bb1, 0, none⟩) ∧ f 3 = .pointer (some ⟨bb2, 0, none⟩) ∧ f 10 = .int .i64 (mn.toNat : Int) ∧ f 11 = .int .i64 (q : Int) ∧  HI M w w' ([box bb2 #[.int .i64 mn, .slice a0 mn.toNat c0] 35, own w.heap.size 60 (.slice a0 mn.toNat c0) ss0, box bb1 #[.int .i64 0, .slice none 0 0] 35, box bb0 #[.int .i64 mn, .slice a_mr mr.length c_mr] 35, imm (.slice a_mr mr.length c_mr) mr] ++ rowItems w.heap.size 74 ss0 xs) ∧ (q ≤ mn.toNat) ∧ (ss0.length = xs.length) ∧ (xs = matP mn.toNat (wM (relM mr) q)) ∧ (xs.length = mn.toNat)) _ ⟨0, mr, rfl, rfl, rfl, rfl, (ieq rfl (by first | rfl | omega | simp)), H6, (by first | assumption | omega | simp | (simp; omega)), (by exact ssl0), (by exact close_start rt_m), (by omega)⟩ ?_
  rintro _ f0 w5 ⟨q, xs, rfl, s0, s1, s2, s3, H7, hk, hl, hs, hxl⟩
  refine sq (rg (k (lss rfl rfl s3 s2 (z (nx (sq ?_))))))
  refine cd (b := decide ((q : Int) < (mn.toNat : Int))) rfl rfl (fun b0 => ?_) (fun b0 => ?_)
  ·
    have p0 := of_decide_eq_true b0
    refine sk (nx (sq (bk (sq (rg (k (mv rfl s3 (k (asg (v := .int .i64 (q : Int)) rfl rfl (z (nx (sq (rg (k (fa fl35_1 rfl s1 (k (ldX H7 0 rfl ty33 rfl rfl (by decide) rfl (k (lnS rfl rfl un33 (k (mv (v := .int .i64 0) rfl rfl (z (nx (bk ?_))))))))))))))))))))))))
    refine lp (fun m f w' => ∃ (i : Nat) (ys : List (List (BitVec 64))), m = mn.toNat - i ∧ f 2 = .pointer (some ⟨bb1, 0, none⟩) ∧ f 3 = .pointer (some ⟨bb2, 0, none⟩) ∧ f 4 = .int .i64 (q : Int) ∧ f 10 = .int .i64 (mn.toNat : Int) ∧ f 11 = .int .i64 (q : Int) ∧ f 16 = .int .i64 (mn.toNat : Int) ∧ f 17 = .int .i64 (i : Int) ∧  HI M w w' ([box bb2 #[.int .i64 mn, .slice a0 mn.toNat c0] 35, own w.heap.size 60 (.slice a0 mn.toNat c0) ss0, box bb1 #[.int .i64 0, .slice none 0 0] 35, box bb0 #[.int .i64 mn, .slice a_mr mr.length c_mr] 35, imm (.slice a_mr mr.length c_mr) mr] ++ rowItems w.heap.size 74 ss0 ys) ∧ (i ≤ mn.toNat) ∧ (ss0.length = ys.length) ∧ (ys = matP mn.toNat (wR (relM mr) q i)) ∧ (ys.length = mn.toNat)) _ ⟨0, xs, rfl, s0, s1, rfl, s2, s3, rfl, (ieq rfl (by first | rfl | omega | simp)), H7, (by first | assumption | omega | simp | (simp; omega)), (by exact hl), (by rw [hs]; exact wR_zero _ _ _), (by exact hxl)⟩ ?_
    rintro _ f1 w6 ⟨i, ys, rfl, s4, s5, s6, s7, s8, s9, s10, H8, hi_, hl2, hs2, hyl⟩
    refine sq (rg (k (lss rfl rfl s10 s9 (z (nx (sq ?_))))))
    refine cd (b := decide ((i : Int) < (mn.toNat : Int))) rfl rfl (fun b1 => ?_) (fun b1 => ?_)
    ·
      have p1 := of_decide_eq_true b1
      refine sk (nx (sq (bk (sq (rg (k (mv rfl s10 (k (asg (v := .int .i64 (i : Int)) rfl rfl (z (nx (sq (rg (k (fa fl35_1 rfl s5 (k (ldX H8 0 rfl ty33 rfl rfl (by decide) rfl (k (mv (v := .int .i64 (i : Int)) rfl rfl (k ?_))))))))))))))))))))
      obtain ⟨a1, x0, c1, hs0, hr0⟩ := row_get (i := (i : Int).toNat) H8 (by first | assumption | (simp only [List.length_set]; assumption) | (simp only [List.length_set, List.length_replicate] at *; omega)) (by omega)
      refine iaO (H8.at_ 1 rfl) rfl rfl rfl rfl (by first | omega | (simp; omega)) un33 ty60 ?_
      intro g0 x1 hv0 hx0 hA0
      obtain rfl : (⟨a1, x0.length, c1⟩ : SV) = x1 := Option.some.inj (hs0.symm.trans hx0)
      refine k (ldV hA0 ty60 rfl rfl (k (mv rfl s6 (k ?_))))
      have cc1 := row_Has (r := x0) (i := (q : Int)) (w := w6) (M := fun _ => False) (fun _ h_ => h_.elim) (row_rv H8 hs0 hr0) (by unfold I64 at *; omega)
      refine ca go55 rfl (ec rfl (ec rfl e0)) cc1 ?_
      rintro _ w7 ⟨rfl, xt4⟩
      have H9 := H8.ext xt4
      refine z (nx ?_)
      refine cd (b := hasR x0 (q : Int)) rfl rfl (fun b2 => ?_) (fun b2 => ?_)
      ·
        obtain ⟨a2, x3, c2, hs1, hr1⟩ := row_get (i := (q : Int).toNat) H9 (by first | assumption | (simp only [List.length_set]; assumption) | (simp only [List.length_set, List.length_replicate] at *; omega)) (by omega)
        refine dr 10 [fun (v : Value) (w' : World) => v = .pointer (some ⟨bb2, 1, none⟩), fun (v : Value) (w' : World) => v = .slice a0 mn.toNat c0, fun (v : Value) (w' : World) => v = .int .i64 (i : Int), fun (v : Value) (w' : World) => ∃ (g1 : Nat), v = .pointer (some ⟨g1, (i : Int).toNat * 1, none⟩) ∧ (.slice a0 mn.toNat c0 : Value).ownBlock = some g1 ∧ AtW (MS M ([box bb2 #[.int .i64 mn, .slice a0 mn.toNat c0] 35, own w.heap.size 60 (.slice a0 mn.toNat c0) ss0, box bb1 #[.int .i64 0, .slice none 0 0] 35, box bb0 #[.int .i64 mn, .slice a_mr mr.length c_mr] 35, imm (.slice a_mr mr.length c_mr) mr] ++ rowItems w.heap.size 74 ss0 ys)) w' ⟨g1, (i : Int).toNat * 1, none⟩ (⟨a1, x0.length, c1⟩ : SV), fun (v : Value) (w' : World) => v = .slice a1 x0.length c1, fun (v : Value) (w' : World) => v = .pointer (some ⟨bb2, 1, none⟩), fun (v : Value) (w' : World) => v = .slice a0 mn.toNat c0, fun (v : Value) (w' : World) => v = .int .i64 (q : Int), fun (v : Value) (w' : World) => ∃ (g2 : Nat), v = .pointer (some ⟨g2, (q : Int).toNat * 1, none⟩) ∧ (.slice a0 mn.toNat c0 : Value).ownBlock = some g2 ∧ AtW (MS M ([box bb2 #[.int .i64 mn, .slice a0 mn.toNat c0] 35, own w.heap.size 60 (.slice a0 mn.toNat c0) ss0, box bb1 #[.int .i64 0, .slice none 0 0] 35, box bb0 #[.int .i64 mn, .slice a_mr mr.length c_mr] 35, imm (.slice a_mr mr.length c_mr) mr] ++ rowItems w.heap.size 74 ss0 ys)) w' ⟨g2, (q : Int).toNat * 1, none⟩ (⟨a2, x3.length, c2⟩ : SV), fun (v : Value) (w' : World) => v = .slice a2 x3.length c2] rfl (by kernel_rfl) ?_ ?_
        ·
          refine ⟨fun _ => ⟨fun f2 w8 hf0 xt5 hp0 => ?_, fun _ _ _ _ h => h⟩, ?_⟩
          ·
            have H10 := H9.ext xt5
            refine fa fl35_1 rfl ((hf0 3 rfl).trans s5) ?_
            exact ⟨_, rfl, Ext.refl _, rfl⟩
          refine ⟨fun _ => ⟨fun f3 w9 hf1 xt6 hp1 => ?_, fun _ _ _ _ h => h⟩, ?_⟩
          ·
            have H11 := H9.ext xt6
            have s11 : f3 27 = .pointer (some ⟨bb2, 1, none⟩) := hp1 0 rfl rfl
            refine ldX H11 0 rfl ty33 rfl s11 (by decide) rfl ?_
            exact ⟨_, rfl, Ext.refl _, rfl⟩
          refine ⟨fun _ => ⟨fun f4 w10 hf2 xt7 hp2 => ?_, fun _ _ _ _ h => h⟩, ?_⟩
          ·
            have H12 := H9.ext xt7
            refine mv rfl (hf2 5 rfl) ?_
            exact ⟨_, rfl, Ext.refl _, rfl⟩
          refine ⟨fun _ => ⟨fun f5 w11 hf3 xt8 hp3 => ?_, by rintro _ _ _ x_ ⟨g1, e_, hv1, hA1⟩; exact ⟨g1, e_, hv1, hA1.ext x_⟩⟩, ?_⟩
          ·
            have H13 := H9.ext xt8
            have s12 : f5 28 = .slice a0 mn.toNat c0 := hp3 1 rfl rfl
            have s13 : f5 29 = .int .i64 (i : Int) := hp3 2 rfl rfl
            refine iaO (H13.at_ 1 rfl) rfl rfl s12 s13 (by first | omega | (simp; omega)) un33 ty60 ?_
            intro g3 x5 hv3 hx3 hA3
            obtain rfl : (⟨a1, x0.length, c1⟩ : SV) = x5 := Option.some.inj (hs0.symm.trans hx3)
            exact ⟨_, rfl, Ext.refl _, ⟨g3, rfl, hv3, hA3⟩⟩
          refine ⟨fun _ => ⟨fun f6 w12 hf4 xt9 hp4 => ?_, fun _ _ _ _ h => h⟩, ?_⟩
          ·
            have H14 := H9.ext xt9
            obtain ⟨g4, s14, hv4, hA4⟩ : ∃ (g4 : Nat), f6 30 = .pointer (some ⟨g4, (i : Int).toNat * 1, none⟩) ∧ (.slice a0 mn.toNat c0 : Value).ownBlock = some g4 ∧ AtW (MS M ([box bb2 #[.int .i64 mn, .slice a0 mn.toNat c0] 35, own w.heap.size 60 (.slice a0 mn.toNat c0) ss0, box bb1 #[.int .i64 0, .slice none 0 0] 35, box bb0 #[.int .i64 mn, .slice a_mr mr.length c_mr] 35, imm (.slice a_mr mr.length c_mr) mr] ++ rowItems w.heap.size 74 ss0 ys)) w12 ⟨g4, (i : Int).toNat * 1, none⟩ (⟨a1, x0.length, c1⟩ : SV) := hp4 3 rfl rfl
            refine ldV hA4 ty60 rfl s14 ?_
            exact ⟨_, rfl, Ext.refl _, rfl⟩
          refine ⟨fun _ => ⟨fun f7 w13 hf5 xt10 hp5 => ?_, fun _ _ _ _ h => h⟩, ?_⟩
          ·
            have H15 := H9.ext xt10
            refine fa fl35_1 rfl ((hf5 3 rfl).trans s5) ?_
            exact ⟨_, rfl, Ext.refl _, rfl⟩
          refine ⟨fun _ => ⟨fun f8 w14 hf6 xt11 hp6 => ?_, fun _ _ _ _ h => h⟩, ?_⟩
          ·
            have H16 := H9.ext xt11
            have s15 : f8 32 = .pointer (some ⟨bb2, 1, none⟩) := hp6 5 rfl rfl
            refine ldX H16 0 rfl ty33 rfl s15 (by decide) rfl ?_
            exact ⟨_, rfl, Ext.refl _, rfl⟩
          refine ⟨fun _ => ⟨fun f9 w15 hf7 xt12 hp7 => ?_, fun _ _ _ _ h => h⟩, ?_⟩
          ·
            have H17 := H9.ext xt12
            refine mv rfl ((hf7 4 rfl).trans s6) ?_
            exact ⟨_, rfl, Ext.refl _, rfl⟩
          refine ⟨fun _ => ⟨fun f10 w16 hf8 xt13 hp8 => ?_, by rintro _ _ _ x_ ⟨g2, e_, hv2, hA2⟩; exact ⟨g2, e_, hv2, hA2.ext x_⟩⟩, ?_⟩
          ·
            have H18 := H9.ext xt13
            have s16 : f10 33 = .slice a0 mn.toNat c0 := hp8 6 rfl rfl
            have s17 : f10 34 = .int .i64 (q : Int) := hp8 7 rfl rfl
            refine iaO (H18.at_ 1 rfl) rfl rfl s16 s17 (by first | omega | (simp; omega)) un33 ty60 ?_
            intro g5 x6 hv5 hx4 hA5
            obtain rfl : (⟨a2, x3.length, c2⟩ : SV) = x6 := Option.some.inj (hs1.symm.trans hx4)
            exact ⟨_, rfl, Ext.refl _, ⟨g5, rfl, hv5, hA5⟩⟩
          refine ⟨fun _ => ⟨fun f11 w17 hf9 xt14 hp9 => ?_, fun _ _ _ _ h => h⟩, ?_⟩
          ·
            have H19 := H9.ext xt14
            obtain ⟨g6, s18, hv6, hA6⟩ : ∃ (g6 : Nat), f11 35 = .pointer (some ⟨g6, (q : Int).toNat * 1, none⟩) ∧ (.slice a0 mn.toNat c0 : Value).ownBlock = some g6 ∧ AtW (MS M ([box bb2 #[.int .i64 mn, .slice a0 mn.toNat c0] 35, own w.heap.size 60 (.slice a0 mn.toNat c0) ss0, box bb1 #[.int .i64 0, .slice none 0 0] 35, box bb0 #[.int .i64 mn, .slice a_mr mr.length c_mr] 35, imm (.slice a_mr mr.length c_mr) mr] ++ rowItems w.heap.size 74 ss0 ys)) w17 ⟨g6, (q : Int).toNat * 1, none⟩ (⟨a2, x3.length, c2⟩ : SV) := hp9 8 rfl rfl
            refine ldV hA6 ty60 rfl s18 ?_
            exact ⟨_, rfl, Ext.refl _, rfl⟩
          exact DSteps.rest rfl _
        · intro f12 w18 hf10 xt15 hp10
          have H20 := H9.ext xt15
          have s19 : f12 2 = .pointer (some ⟨bb1, 0, none⟩) := (hf10 2 rfl).trans s4
          have s20 : f12 3 = .pointer (some ⟨bb2, 0, none⟩) := (hf10 3 rfl).trans s5
          have s21 : f12 4 = .int .i64 (q : Int) := (hf10 4 rfl).trans s6
          have s22 : f12 10 = .int .i64 (mn.toNat : Int) := (hf10 10 rfl).trans s7
          have s23 : f12 11 = .int .i64 (q : Int) := (hf10 11 rfl).trans s8
          have s24 : f12 16 = .int .i64 (mn.toNat : Int) := (hf10 16 rfl).trans s9
          have s25 : f12 17 = .int .i64 (i : Int) := (hf10 17 rfl).trans s10
          have s26 : f12 31 = .slice a1 x0.length c1 := hp10 4 rfl
          have s27 : f12 36 = .slice a2 x3.length c2 := hp10 9 rfl
          refine k ?_
          have cc2 := hull_join H20 (row_at (l := [box bb2 #[.int .i64 mn, .slice a0 mn.toNat c0] 35, own w.heap.size 60 (.slice a0 mn.toNat c0) ss0, box bb1 #[.int .i64 0, .slice none 0 0] 35, box bb0 #[.int .i64 mn, .slice a_mr mr.length c_mr] 35, imm (.slice a_mr mr.length c_mr) mr]) hs0 hr0) (row_at (l := [box bb2 #[.int .i64 mn, .slice a0 mn.toNat c0] 35, own w.heap.size 60 (.slice a0 mn.toNat c0) ss0, box bb1 #[.int .i64 0, .slice none 0 0] 35, box bb0 #[.int .i64 mn, .slice a_mr mr.length c_mr] 35, imm (.slice a_mr mr.length c_mr) mr]) hs1 hr1) (by have e1_ := hr0; rw [hs2] at e1_; have e2_ := hr1; rw [hs2] at e2_; rw [wR_len e1_, wR_len e2_]; exact Nat.le_refl _) (by have e2_ := hr1; rw [hs2] at e2_; rw [wR_len e2_]; have h_ := words_le (n := ((mn.toNat : Nat) : Int)) (by omega); omega) (join_ne hs0 hs1 hr0 hr1)
          refine ca go56 rfl (ec s26 (ec s27 e0)) cc2 ?_
          rintro _ w19 ⟨rfl, H22⟩
          have H21 := HI.rowPut (M := fun _ => False) (it := imm (.int .i64 0) (0 : Int)) H22 hs0
          have H23 : HI M w w19 ([box bb2 #[.int .i64 mn, .slice a0 mn.toNat c0] 35, own w.heap.size 60 (.slice a0 mn.toNat c0) ss0, box bb1 #[.int .i64 0, .slice none 0 0] 35, box bb0 #[.int .i64 mn, .slice a_mr mr.length c_mr] 35, imm (.slice a_mr mr.length c_mr) mr] ++ rowItems w.heap.size 74 ss0 (ys.set ((i : Int).toNat) (orR x0 x3))) := H21
          refine z (inb_normal (nx (rg (k (add rfl rfl s25 rfl (by unfold I64 at *; omega) (k (mv (v := .int .i64 ((i : Int) + 1)) rfl rfl (z ?_))))))))
          refine loopN _ ?_ ⟨(i + 1), (ys.set ((i : Int).toNat) (orR x0 x3)), rfl, s19, s20, s21, s22, s23, s24, (ieq rfl (by first | rfl | omega | (push_cast; omega))), H23, (by first | assumption | omega | simp | (simp; omega)), (by first | exact hl2 | (rw [List.length_set]; exact hl2)), (by first | exact wR_yes hs2 hr0 hr1 (by omega) b2 | exact wR_no hs2 hr0 (by omega) b2), (by first | exact hyl | (rw [List.length_set]; exact hyl))⟩
          omega
      ·
        refine sk (inb_normal (nx (rg (k (add rfl rfl s10 rfl (by unfold I64 at *; omega) (k (mv (v := .int .i64 ((i : Int) + 1)) rfl rfl (z ?_))))))))
        refine loopN _ ?_ ⟨(i + 1), ys, rfl, s4, s5, s6, s7, s8, s9, (ieq rfl (by first | rfl | omega | (push_cast; omega))), H9, (by first | assumption | omega | simp | (simp; omega)), (by first | exact hl2 | (rw [List.length_set]; exact hl2)), (by first | exact wR_yes hs2 hr0 hr1 (by omega) b2 | exact wR_no hs2 hr0 (by omega) b2), (by first | exact hyl | (rw [List.length_set]; exact hyl))⟩
        omega
    ·
      have p1 := of_decide_eq_false b1
      refine ex (then_exit (loop_exit (inb_here (inb_normal (nx (rg (k (add rfl rfl s8 rfl (by unfold I64 at *; omega) (k (mv (v := .int .i64 ((q : Int) + 1)) rfl rfl (z ?_)))))))))))
      refine loopN _ ?_ ⟨(q + 1), ys, rfl, s4, s5, s7, (ieq rfl (by first | rfl | omega | (push_cast; omega))), H8, (by first | assumption | omega | simp | (simp; omega)), (by exact hl2), (by rw [hs2]; exact wR_end _ (by omega)), (by exact hyl)⟩
      omega
  ·
    have p0 := of_decide_eq_false b0
    refine ex (then_exit (loop_exit (inb_here (nx (sq ?_)))))
    have H8 : HI M w w5 [own w.heap.size 60 (.slice a0 mn.toNat c0) xs, box bb2 #[.int .i64 mn, .slice a0 mn.toNat c0] 35, box bb1 #[.int .i64 0, .slice none 0 0] 35, box bb0 #[.int .i64 mn, .slice a_mr mr.length c_mr] 35, imm (.slice a_mr mr.length c_mr) mr] := HI.deep (l := [box bb2 #[.int .i64 mn, .slice a0 mn.toNat c0] 35, box bb1 #[.int .i64 0, .slice none 0 0] 35, box bb0 #[.int .i64 mn, .slice a_mr mr.length c_mr] 35, imm (.slice a_mr mr.length c_mr) mr]) (HI.pickT (l := [box bb2 #[.int .i64 mn, .slice a0 mn.toNat c0] 35, own w.heap.size 60 (.slice a0 mn.toNat c0) ss0, box bb1 #[.int .i64 0, .slice none 0 0] 35, box bb0 #[.int .i64 mn, .slice a_mr mr.length c_mr] 35, imm (.slice a_mr mr.length c_mr) mr]) (l' := [own w.heap.size 60 (.slice a0 mn.toNat c0) ss0, box bb2 #[.int .i64 mn, .slice a0 mn.toNat c0] 35, box bb1 #[.int .i64 0, .slice none 0 0] 35, box bb0 #[.int .i64 mn, .slice a_mr mr.length c_mr] 35, imm (.slice a_mr mr.length c_mr) mr]) (t := rowItems w.heap.size 74 ss0 xs) H7 [1, 0, 2, 3, 4] (by decide) rfl rfl) (by first | assumption | (simp only [List.length_set]; assumption) | (simp only [List.length_set, List.length_replicate] at *; omega))
    refine rg (k (ldX H8 1 rfl ty35 rfl s1 (by decide) rfl (k (stX H8 2 rfl ty35 rfl rfl s0 rfl rfl rfl rfl ?_))))
    intro w6 (H9 : HI M w w6 [own w.heap.size 60 (.slice a0 mn.toNat c0) xs, box bb2 #[.int .i64 mn, .slice a0 mn.toNat c0] 35, box bb1 #[.int .i64 mn, .slice a0 mn.toNat c0] 35, box bb0 #[.int .i64 mn, .slice a_mr mr.length c_mr] 35, imm (.slice a_mr mr.length c_mr) mr])
    refine z (nx (rt (rc1 H9 2 rfl ty35 rfl rfl s0 rfl (by decide) ?_)))
    have e1 : (xs : List (List (BitVec 64))) = closeM mn mr := by exact close_end hs (by omega) (by omega)
    have l1 : mn.toNat = (closeM mn mr).length := by first | (rw [← e1]; omega) | (rw [closeM_len])
    have ev_ := cg1 (fun (n_1 : Nat) => (.agg #[.int .i64 mn, .slice a0 n_1 c0] : Value)) l1
    exact ⟨a0, c0, ev_, H9.below, (congrArg (fun (n_ : Nat) => OwnsG _ _ _ (closeM mn mr) (.slice a0 n_ c0) _) l1).mp ((congrArg (fun (x_ : List (List (BitVec 64))) => OwnsG _ _ _ x_ (.slice a0 mn.toNat c0) _) e1).mp (H9.ownsG_out 0 rfl))⟩
end Go.Proofs.Ytmhopljngkgidaa
namespace Go.Proofs.Ytmhopljngkgidaa
open Go.Ew Go.RowKit
set_option linter.unusedVariables false
set_option linter.unusedSimpArgs false
attribute [local irreducible] WL WC SO Code.wp wpList retQ Ret
attribute [local irreducible] bitB hasW inR hasR setR countW countR subR words newR listR orR firstW tab8
end Go.Proofs.Ytmhopljngkgidaa
