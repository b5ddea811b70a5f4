/- PRINTED by my own tool (wip/tool/gen.py): contracts of Go functions of this seat, each with its proof. -/
import Derived.Test.YtmhopljngkgidaaDoorProg
import Derived.Test.YtmhopljngkgidaaDoorOwnA
import Derived.Test.YtmhopljngkgidaaDoorOwnB
namespace Go.Proofs.YtmhopljngkgidaaDoor
open Go.Ew Go.RowKit
set_option linter.unusedVariables false
set_option linter.unusedSimpArgs false
attribute [local irreducible] WL WC SO Code.wp wpList retQ Ret
attribute [local irreducible] bitB hasW inR hasR setR countW countR subR words newR listR orR firstW tab8
theorem un81 : Tryd.prog.underlying 81 = some (.int .u64) := by kernel_rfl
theorem un3 : Tryd.prog.underlying 3 = some (.int .i64) := by kernel_rfl
theorem go65 : GoF Tryd.prog 65 := ⟨_, _, Tryd.func65, rfl, by kernel_rfl⟩
theorem un128 : Tryd.prog.underlying 128 = some (.array 64 5) := by kernel_rfl
theorem ty5 : TyF Tryd.prog 5 1 false 1 (.int .u8 0) := ⟨by kernel_rfl, by kernel_rfl⟩
theorem un5 : Tryd.prog.underlying 5 = some (.int .u8) := by kernel_rfl
theorem go117 : GoF Tryd.prog 117 := ⟨_, _, Tryd.func117, rfl, by kernel_rfl⟩
theorem un73 : Tryd.prog.underlying 73 = some (.slice 77) := by kernel_rfl
theorem go103 : GoF Tryd.prog 103 := ⟨_, _, Tryd.func103, rfl, by kernel_rfl⟩
theorem ty77 : TyF Tryd.prog 77 1 false 8 (.int .u64 0) := ⟨by kernel_rfl, by kernel_rfl⟩
theorem go102 : GoF Tryd.prog 102 := ⟨_, _, Tryd.func102, rfl, by kernel_rfl⟩
theorem go96 : GoF Tryd.prog 96 := ⟨_, _, Tryd.func96, rfl, by kernel_rfl⟩
theorem go104 : GoF Tryd.prog 104 := ⟨_, _, Tryd.func104, rfl, by kernel_rfl⟩
theorem un42 : Tryd.prog.underlying 42 = some (.slice 3) := by kernel_rfl
theorem ty3 : TyF Tryd.prog 3 1 false 8 (.int .i64 0) := ⟨by kernel_rfl, by kernel_rfl⟩
theorem go107 : GoF Tryd.prog 107 := ⟨_, _, Tryd.func107, rfl, by kernel_rfl⟩
theorem go57 : GoF Tryd.prog 57 := ⟨_, _, Tryd.func57, rfl, by kernel_rfl⟩
theorem go94 : GoF Tryd.prog 94 := ⟨_, _, Tryd.func94, rfl, by kernel_rfl⟩
theorem go58 : GoF Tryd.prog 58 := ⟨_, _, Tryd.func58, rfl, by kernel_rfl⟩
set_option maxRecDepth 100000 in
set_option maxHeartbeats 1600000 in
theorem word_Bit {w : World} {i : Int} (h_i : I64 i) : Calls Tryd.prog 65 #[.int .i64 i] w (Ret fun v w' =>  v = U (bitB i) ∧ Ext w w') := by
  refine enter 9 Tryd.func65 rfl rfl rfl fun f0 ha => ?_
  have H := HI.start (M0 := (fun _ => False)) (w := w) (fun _ h => h.elim)
  have i0 : f0 0 = .int .i64 i := ha 0 (by simp)
  refine sq (rg (k (asg (v := U (0#64)) rfl rfl (z (nx (sq (sq (rg (k (mv rfl i0 (k (cvU rfl rfl un3 un81 (k (gtU (BitVec.ofInt 64 i) (63#64) rfl rfl rfl rfl (z (nx ?_))))))))))))))))
  refine cd (b := decide ((63#64).toNat < (BitVec.ofInt 64 i).toNat)) rfl rfl (fun b0 => ?_) (fun b0 => ?_)
  ·
    have p0 := of_decide_eq_true b0
    refine sq (rg (k (asg (v := U (0#64)) rfl rfl (z (nx (rt (then_ret (r1 rfl rfl ?_))))))))
    have e0 : (0#64 : BitVec 64) = bitB i := by exact bitB_hi h_i p0
    have ev_ := cg1 (fun (x_0 : BitVec 64) => (U x_0 : Value)) e0
    exact ⟨ev_, H.below⟩
  ·
    have p0 := of_decide_eq_false b0
    refine sk (nx (sq (rg (k (mv rfl i0 (k (cvU rfl rfl un3 un81 (k (shlU (1#64) ((BitVec.ofInt 64 i).toNat : Int) (by omega) rfl rfl rfl rfl (k (asg (v := U ((1#64) <<< ((BitVec.ofInt 64 i).toNat : Int).toNat)) rfl rfl (z (nx (rt (r1 rfl rfl ?_)))))))))))))))
    have e0 : ((1#64) <<< ((BitVec.ofInt 64 i).toNat : Int).toNat : BitVec 64) = bitB i := by exact bitB_lo h_i p0
    have ev_ := cg1 (fun (x_0 : BitVec 64) => (U x_0 : Value)) e0
    exact ⟨ev_, H.below⟩
set_option maxRecDepth 100000 in
set_option maxHeartbeats 1600000 in
theorem zeros64 {w : World} {x : BitVec 64} (hT : TabAt 0 w) : Calls Tryd.prog 117 #[U x] w (Ret fun v w' =>  v = .int .i64 ((firstW x : Nat) : Int) ∧ Ext w w') := by
  refine enter 14 Tryd.func117 rfl rfl rfl fun f0 ha => ?_
  have H := HI.start (M0 := (fun _ => False)) (w := w) (fun _ h => h.elim)
  have i0 : f0 0 = U x := ha 0 (by simp)
  refine sq (rg (k (asg (v := .int .i64 0) rfl rfl (z (nx (sq (sq (rg (k (mv rfl i0 (k (eqU x (0#64) rfl rfl rfl rfl (z (nx ?_))))))))))))))
  refine cd (b := decide (x = (0#64))) rfl rfl (fun b0 => ?_) (fun b0 => ?_)
  ·
    have p0 := of_decide_eq_true b0
    refine sq (rg (k (asg (v := .int .i64 64) rfl rfl (z (nx (rt (then_ret (r1 rfl rfl ?_))))))))
    have e0 : (64 : Int) = ((firstW x : Nat) : Int) := by first | (have e_ := p0; subst e_; rw [firstW_zero]; rfl) | exact zeros_eq (by simpa using p0)
    have ev_ := cg1 (fun (x_0 : Int) => (.int .i64 x_0 : Value)) e0
    exact ⟨ev_, H.below⟩
  ·
    have p0 := of_decide_eq_false b0
    refine sk (nx (sq (rg (k (mv rfl i0 (k (mv rfl i0 (k (negU x rfl rfl (k (andU x (-x) rfl rfl rfl rfl (k (mulU (x &&& (-x)) (285870213051353865#64) rfl rfl rfl rfl (k (shrUn ((x &&& (-x)) * (285870213051353865#64)) 58 rfl rfl rfl rfl (k (iaAn (i := (((x &&& (-x)) * (285870213051353865#64)) >>> 58).toNat) rfl rfl rfl rfl (by exact zeros_lt (by simpa using p0)) un128 ty5 (k (ld8 (tabA (M := fun _ => False) hT H.below rfl (by exact zeros_lt (by simpa using p0))) ty5 rfl rfl (k (cvI rfl rfl (by unfold I64 at *; omega) un5 un3 (k (asg (v := .int .i64 ((tab8 (((x &&& (-x)) * (285870213051353865#64)) >>> 58).toNat).toNat : Int)) rfl rfl (z (nx (rt (r1 rfl rfl ?_)))))))))))))))))))))))))))
    have e0 : (((tab8 (((x &&& (-x)) * (285870213051353865#64)) >>> 58).toNat).toNat : Int) : Int) = ((firstW x : Nat) : Int) := by first | (have e_ := p0; subst e_; rw [firstW_zero]; rfl) | exact zeros_eq (by simpa using p0)
    have ev_ := cg1 (fun (x_0 : Int) => (.int .i64 x_0 : Value)) e0
    exact ⟨ev_, H.below⟩
set_option maxRecDepth 100000 in
set_option maxHeartbeats 1600000 in
theorem word_First {w : World} {x : BitVec 64} (hT : TabAt 0 w) : Calls Tryd.prog 104 #[U x] w (Ret fun v w' =>  v = .int .i64 ((firstW x : Nat) : Int) ∧ Ext w w') := by
  refine enter 5 Tryd.func104 rfl rfl rfl fun f0 ha => ?_
  have H := HI.start (M0 := (fun _ => False)) (w := w) (fun _ h => h.elim)
  have i0 : f0 0 = U x := ha 0 (by simp)
  refine sq (rg (k (asg (v := .int .i64 0) rfl rfl (z (nx (sq (rg (k (mv rfl i0 (k ?_))))))))))
  have cc0 := zeros64 (x := x) (w := w) (hT.ext H.below)
  refine ca go117 rfl (ec rfl e0) cc0 ?_
  rintro _ w0 ⟨rfl, xt0⟩
  have H0 := H.ext xt0
  refine k (asg (v := .int .i64 ((firstW x : Nat) : Int)) rfl rfl (z (nx (rt (r1 rfl rfl ?_)))))
  exact ⟨rfl, H0.below⟩
set_option maxRecDepth 100000 in
set_option maxHeartbeats 1600000 in
theorem row_in {M : Nat → Prop} {w : World} {a_r : Option Addr} {c_r : Nat} {r : List (BitVec 64)} {i : Int} (hM : ∀ b, M b → b < w.heap.size) (h_r : RV M w (.slice a_r r.length c_r) r) (h_i : I64 i) : Calls Tryd.prog 103 #[.slice a_r r.length c_r, .int .i64 i] w (Ret fun v w' =>  v = .bool (inR r i) ∧ Ext w w') := by
  refine enter 14 Tryd.func103 rfl rfl rfl fun f0 ha => ?_
  have H := HI.start (M0 := M) (w := w) hM
  have H0 := H.put (it := imm (.slice a_r r.length c_r) r) rfl (by rw [MS_nil]; exact h_r)
  have ln_r := rv_len h_r
  have i0 : f0 0 = .slice a_r r.length c_r := ha 0 (by simp)
  have i1 : f0 1 = .int .i64 i := ha 1 (by simp)
  refine sq (rg (k (asg (v := .bool false) rfl rfl (z (nx (sq (rg (k (mv rfl i1 (k (geq rfl rfl rfl rfl (k (mv (v := .bool (decide (0 ≤ i))) rfl rfl ?_)))))))))))))
  rcases Bool.eq_false_or_eq_true (decide (0 ≤ i)) with b0 | b0
  · -- decide (0 ≤ i) is True
    have p0 := of_decide_eq_true b0
    refine k (gy rfl rfl rfl b0 (mv rfl i1 (k (gy rfl rfl rfl b0 (shrI rfl rfl rfl rfl (k (gy rfl rfl rfl b0 (mv rfl i0 (k (gy rfl rfl rfl b0 (lnS rfl rfl un73 (k (gy rfl rfl rfl b0 (lss rfl rfl rfl rfl (k (pickT rfl rfl rfl rfl b0 rfl (k (asg (v := .bool (decide ((i / 64) < (r.length : Int)))) rfl rfl (z (nx (rt (r1 rfl rfl ?_))))))))))))))))))))))
    have e0 : (decide ((i / 64) < (r.length : Int)) : Bool) = inR r i := by exact inR_yes p0
    have ev_ := cg1 (fun (x_0 : Bool) => (.bool x_0 : Value)) e0
    exact ⟨ev_, H0.below⟩
  · -- decide (0 ≤ i) is False
    have p0 := of_decide_eq_false b0
    refine k (gn rfl rfl rfl b0 (k (gn rfl rfl rfl b0 (k (gn rfl rfl rfl b0 (k (gn rfl rfl rfl b0 (k (gn rfl rfl rfl b0 (k (pickF rfl rfl rfl rfl b0 rfl (k (asg (v := .bool false) rfl rfl (z (nx (rt (r1 rfl rfl ?_)))))))))))))))))
    have e0 : (false : Bool) = inR r i := by exact inR_no (by omega)
    have ev_ := cg1 (fun (x_0 : Bool) => (.bool x_0 : Value)) e0
    exact ⟨ev_, H0.below⟩
set_option maxRecDepth 100000 in
set_option maxHeartbeats 1600000 in
theorem clone_u64 {M : Nat → Prop} {w : World} {a_r : Option Addr} {c_r : Nat} {r : List (BitVec 64)} (hM : ∀ b, M b → b < w.heap.size) (h_r : RV M w (.slice a_r r.length c_r) r) (hl_r : r.length ≤ 1000000000) : Calls Tryd.prog 102 #[.slice a_r r.length c_r] w (Ret fun v w' => ∃ (a0 : Option Addr) (c0 : Nat), v = .slice a0 r.length c0 ∧ Ext w w' ∧ OwnsG M 77 w r (.slice a0 r.length c0) w') := by
  refine enter 8 Tryd.func102 rfl rfl rfl fun f0 ha => ?_
  have H := HI.start (M0 := M) (w := w) hM
  have H0 := H.put (it := imm (.slice a_r r.length c_r) r) rfl (by rw [MS_nil]; exact h_r)
  have ln_r := rv_len h_r
  have i0 : f0 0 = .slice a_r r.length c_r := ha 0 (by simp)
  refine sq (rg (k (asg (v := .slice none 0 0) rfl rfl (z (nx (sq (sq (rg (k (mv rfl i0 (k (eqN rfl rfl rfl rfl un73 (z (nx ?_))))))))))))))
  refine cd (b := a_r.isNone) rfl rfl (fun b0 => ?_) (fun b0 => ?_)
  ·
    refine sq (rg (k (asg (v := .slice none 0 0) rfl rfl (z (nx (rt (then_ret (r1 rfl rfl ?_))))))))
    have e0 : ([] : List (BitVec 64)) = r := by exact (rv_none h_r b0).symm
    have ev_ := cg1 (fun (x_0 : List (BitVec 64)) => (.slice none x_0.length 0 : Value)) e0
    exact ⟨none, 0, ev_, H0.below, (congrArg (fun (x_ : List (BitVec 64)) => OwnsG _ _ _ x_ (.slice none x_.length 0) _) e0).mp (ownsG_nil H0.below)⟩
  ·
    refine sk (nx (sq (rg (k (bs (xs := ([] : List (BitVec 64))) (cells := #[]) (e := 77) H0 rfl pb0 (fun _ => by kernel_rfl) rfl rfl (by unfold maxLen; omega) ?_)))))
    intro g0 w0 xt0 (H1 : HI M w w0 [own w.heap.size 77 (.slice (some ⟨g0, 0, none⟩) 0 0) ([] : List (BitVec 64)), imm (.slice a_r r.length c_r) r])
    refine k (mv rfl i0 (k (ap H1 0 rfl rfl rfl rfl rfl rfl (H1.rv 1 rfl).src un73 ty77 rfl (by first | omega | (simp; omega)) (by first | omega | (simp; omega)) ?_)))
    intro a0 c0 w1 (H2 : HI M w w1 [own w.heap.size 77 (.slice a0 r.length c0) r, imm (.slice a_r r.length c_r) r])
    refine k (asg (v := .slice a0 r.length c0) rfl rfl (z (nx (rt (r1 rfl rfl ?_)))))
    exact ⟨a0, c0, rfl, H2.below, (H2.ownsG_out 0 rfl)⟩
set_option maxRecDepth 100000 in
set_option maxHeartbeats 1600000 in
theorem row_Set {M : Nat → Prop} {w : World} {a_r : Option Addr} {c_r : Nat} {r : List (BitVec 64)} {i : Int} (hM : ∀ b, M b → b < w.heap.size) (h_r : RV M w (.slice a_r r.length c_r) r) (h_i : I64 i) (hl_r : r.length ≤ 1000000000) : Calls Tryd.prog 63 #[.slice a_r r.length c_r, .int .i64 i] w (Ret fun v w' => ∃ (a0 : Option Addr) (c0 : Nat), v = .slice a0 (setR r i).length c0 ∧ Ext w w' ∧ OwnsG M 77 w (setR r i) (.slice a0 (setR r i).length c0) w') := by
  refine enter 22 Tryd.func63 rfl rfl rfl fun f0 ha => ?_
  have H := HI.start (M0 := M) (w := w) hM
  have H0 := H.put (it := imm (.slice a_r r.length c_r) r) rfl (by rw [MS_nil]; exact h_r)
  have ln_r := rv_len h_r
  have i0 : f0 0 = .slice a_r r.length c_r := ha 0 (by simp)
  have i1 : f0 1 = .int .i64 i := ha 1 (by simp)
  refine sq (rg (k (asg (v := .slice none 0 0) rfl rfl (z (nx (sq (rg (k (mv rfl i0 (k ?_))))))))))
  have cc0 := clone_u64 (r := r) (w := w) H0.mb (H0.rv 0 rfl) (by first | omega | (simp; omega))
  refine ca go102 rfl (ec rfl e0) cc0 ?_
  rintro _ w0 ⟨a0, c0, rfl, xt0, rv0⟩
  have H1 := H0.ownsG rv0
  refine k (asg (v := .slice a0 r.length c0) rfl rfl (z (nx (sq (sq (rg (k (mv rfl i0 (k (mv rfl i1 (k ?_)))))))))))
  have cc1 := row_in (r := r) (i := i) (w := w0) H1.mb (H1.rv 1 rfl) (by unfold I64 at *; omega)
  refine ca go103 rfl (ec rfl (ec rfl e0)) cc1 ?_
  rintro _ w1 ⟨rfl, xt1⟩
  have H2 := H1.ext xt1
  refine z (nx ?_)
  refine cd (b := inR r i) rfl rfl (fun b0 => ?_) (fun b0 => ?_)
  ·
    obtain ⟨x0, hx0⟩ : ∃ x, r[(i / 64).toNat]? = some x := ⟨_, List.getElem?_eq_getElem (by have hb := b0; unfold inR at hb; simp only [decide_eq_true_eq] at hb; omega)⟩
    refine dr 8 [fun (v : Value) (w' : World) => v = .slice a0 r.length c0, fun (v : Value) (w' : World) => v = .int .i64 i, fun (v : Value) (w' : World) => v = .int .i64 (i / 64), fun (v : Value) (w' : World) => ∃ (g0 : Nat), v = .pointer (some ⟨g0, (i / 64).toNat * 1, none⟩) ∧ (.slice a0 r.length c0 : Value).ownBlock = some g0 ∧ AtW (MS M [own w.heap.size 77 (.slice a0 r.length c0) r, imm (.slice a_r r.length c_r) r]) w' ⟨g0, (i / 64).toNat * 1, none⟩ x0, fun (v : Value) (w' : World) => v = U x0, fun (v : Value) (w' : World) => v = .int .i64 i, fun (v : Value) (w' : World) => v = .int .i64 (i % 64), fun (v : Value) (w' : World) => v = U (bitB (i % 64))] rfl (by kernel_rfl) ?_ ?_
    ·
      refine ⟨fun _ => ⟨fun f0 w3 hf0 xt3 hp0 => ?_, fun _ _ _ _ h => h⟩, ?_⟩
      ·
        have H4 := H2.ext xt3
        refine mv rfl (hf0 5 rfl) ?_
        exact ⟨_, rfl, Ext.refl _, rfl⟩
      refine ⟨fun _ => ⟨fun f1 w4 hf1 xt4 hp1 => ?_, fun _ _ _ _ h => h⟩, ?_⟩
      ·
        have H5 := H2.ext xt4
        refine mv rfl ((hf1 1 rfl).trans i1) ?_
        exact ⟨_, rfl, Ext.refl _, rfl⟩
      refine ⟨fun _ => ⟨fun f2 w5 hf2 xt5 hp2 => ?_, fun _ _ _ _ h => h⟩, ?_⟩
      ·
        have H6 := H2.ext xt5
        have s0 : f2 12 = .int .i64 i := hp2 1 rfl rfl
        refine shrI rfl rfl s0 rfl ?_
        exact ⟨_, rfl, Ext.refl _, rfl⟩
      refine ⟨fun _ => ⟨fun f3 w6 hf3 xt6 hp3 => ?_, by rintro _ _ _ x_ ⟨g0, e_, hv0, hA0⟩; exact ⟨g0, e_, hv0, hA0.ext x_⟩⟩, ?_⟩
      ·
        have H7 := H2.ext xt6
        have s1 : f3 11 = .slice a0 r.length c0 := hp3 0 rfl rfl
        have s2 : f3 13 = .int .i64 (i / 64) := hp3 2 rfl rfl
        refine iaO (H7.at_ 0 rfl) rfl rfl s1 s2 (by have hb := b0; unfold inR at hb; simp only [decide_eq_true_eq] at hb; omega) un73 ty77 ?_
        intro g1 x1 hv1 hx1 hA1
        obtain rfl : x0 = x1 := Option.some.inj (hx0.symm.trans hx1)
        exact ⟨_, rfl, Ext.refl _, ⟨g1, rfl, hv1, hA1⟩⟩
      refine ⟨fun _ => ⟨fun f4 w7 hf4 xt7 hp4 => ?_, fun _ _ _ _ h => h⟩, ?_⟩
      ·
        have H8 := H2.ext xt7
        obtain ⟨g2, s3, hv2, hA2⟩ : ∃ (g2 : Nat), f4 14 = .pointer (some ⟨g2, (i / 64).toNat * 1, none⟩) ∧ (.slice a0 r.length c0 : Value).ownBlock = some g2 ∧ AtW (MS M [own w.heap.size 77 (.slice a0 r.length c0) r, imm (.slice a_r r.length c_r) r]) w7 ⟨g2, (i / 64).toNat * 1, none⟩ x0 := hp4 3 rfl rfl
        refine ldU hA2 ty77 rfl s3 ?_
        exact ⟨_, rfl, Ext.refl _, rfl⟩
      refine ⟨fun _ => ⟨fun f5 w8 hf5 xt8 hp5 => ?_, fun _ _ _ _ h => h⟩, ?_⟩
      ·
        have H9 := H2.ext xt8
        refine mv rfl ((hf5 1 rfl).trans i1) ?_
        exact ⟨_, rfl, Ext.refl _, rfl⟩
      refine ⟨fun _ => ⟨fun f6 w9 hf6 xt9 hp6 => ?_, fun _ _ _ _ h => h⟩, ?_⟩
      ·
        have H10 := H2.ext xt9
        have s4 : f6 16 = .int .i64 i := hp6 5 rfl rfl
        refine and63 rfl rfl s4 rfl ?_
        exact ⟨_, rfl, Ext.refl _, rfl⟩
      refine ⟨fun _ => ⟨fun f7 w10 hf7 xt10 hp7 => ?_, fun _ _ _ _ h => h⟩, ?_⟩
      ·
        have H11 := H2.ext xt10
        have s5 : f7 17 = .int .i64 (i % 64) := hp7 6 rfl rfl
        have cc3 := word_Bit (i := (i % 64)) (w := w10) (by unfold I64 at *; omega)
        refine ca go65 rfl (ec s5 e0) cc3 ?_
        rintro _ w11 ⟨rfl, xt11⟩
        have H12 := H11.ext xt11
        exact ⟨_, rfl, xt11, rfl⟩
      exact DSteps.rest rfl _
    · intro f8 w12 hf8 xt12 hp8
      have H13 := H2.ext xt12
      have s6 : f8 5 = .slice a0 r.length c0 := hf8 5 rfl
      have s7 : f8 11 = .slice a0 r.length c0 := hp8 0 rfl
      have s8 : f8 13 = .int .i64 (i / 64) := hp8 2 rfl
      have s9 : f8 15 = U x0 := hp8 4 rfl
      have s10 : f8 18 = U (bitB (i % 64)) := hp8 7 rfl
      refine k (orU x0 (bitB (i % 64)) rfl rfl s9 s10 (k (iaO (H13.at_ 0 rfl) rfl rfl s7 s8 (by have hb := b0; unfold inR at hb; simp only [decide_eq_true_eq] at hb; omega) un73 ty77 ?_)))
      intro g3 x2 hv3 hx2 hA3
      refine k (stO H13 0 rfl hv3 rfl (by have hb := b0; unfold inR at hb; simp only [decide_eq_true_eq] at hb; omega) ty77 rfl rfl rfl rfl (RV.bv.2 rfl) ?_)
      intro w13 (H14 : HI M w w13 [own w.heap.size 77 (.slice a0 r.length c0) (r.set ((i / 64).toNat) (x0 ||| (bitB (i % 64)))), imm (.slice a_r r.length c_r) r])
      refine z (nx (sq (rg (k (mv rfl s6 (k (asg (v := .slice a0 r.length c0) rfl rfl (z (nx (rt (r1 rfl rfl ?_)))))))))))
      have e0 : (r.set ((i / 64).toNat) (x0 ||| (bitB (i % 64))) : List (BitVec 64)) = setR r i := by exact setR_in b0 hx0
      have l0 : r.length = (setR r i).length := by first | rfl | (rw [← e0]; simp) | simp
      have ev_ := cg1 (fun (n_0 : Nat) => (.slice a0 n_0 c0 : Value)) l0
      exact ⟨a0, c0, ev_, H14.below, (congrArg (fun (n_ : Nat) => OwnsG _ _ _ (setR r i) (.slice a0 n_ c0) _) l0).mp ((congrArg (fun (x_ : List (BitVec 64)) => OwnsG _ _ _ x_ (.slice a0 r.length c0) _) e0).mp (H14.ownsG_out 0 rfl))⟩
  ·
    refine sk (nx (sq (rg (k (mv (v := .slice a0 r.length c0) rfl rfl (k (asg (v := .slice a0 r.length c0) rfl rfl (z (nx (rt (r1 rfl rfl ?_)))))))))))
    have e0 : (r : List (BitVec 64)) = setR r i := by exact setR_out b0
    have ev_ := cg1 (fun (x_0 : List (BitVec 64)) => (.slice a0 x_0.length c0 : Value)) e0
    exact ⟨a0, c0, ev_, H2.below, (congrArg (fun (x_ : List (BitVec 64)) => OwnsG _ _ _ x_ (.slice a0 x_.length c0) _) e0).mp (H2.ownsG_out 0 rfl)⟩
set_option maxRecDepth 100000 in
set_option maxHeartbeats 1600000 in
theorem row_Words {w : World} {n : Int} (h_n : I64 n) (hn : n ≤ 1000000000000000000) : Calls Tryd.prog 96 #[.int .i64 n] w (Ret fun v w' =>  v = .int .i64 ((words n : Nat) : Int) ∧ Ext w w') := by
  refine enter 8 Tryd.func96 rfl rfl rfl fun f0 ha => ?_
  have H := HI.start (M0 := (fun _ => False)) (w := w) (fun _ h => h.elim)
  have i0 : f0 0 = .int .i64 n := ha 0 (by simp)
  refine sq (rg (k (asg (v := .int .i64 0) rfl rfl (z (nx (sq (rg (k (mv rfl i0 (k (max2 rfl rfl rfl rfl (k (add rfl rfl rfl rfl (by unfold I64 at *; omega) (k (sub rfl rfl rfl rfl (by unfold I64 at *; omega) (k (quo rfl rfl rfl rfl (by first | omega | (simp; omega)) (k (asg (v := .int .i64 ((((max n 0) + 64) - 1) / 64)) rfl rfl (z (nx (rt (r1 rfl rfl ?_)))))))))))))))))))))))
  have e0 : ((((max n 0) + 64) - 1) / 64 : Int) = ((words n : Nat) : Int) := by unfold words; omega
  have ev_ := cg1 (fun (x_0 : Int) => (.int .i64 x_0 : Value)) e0
  exact ⟨ev_, H.below⟩
set_option maxRecDepth 100000 in
set_option maxHeartbeats 1600000 in
theorem row_New {M : Nat → Prop} {w : World} {n : Int} (hM : ∀ b, M b → b < w.heap.size) (h_n : I64 n) (hn : n ≤ 1000000) : Calls Tryd.prog 78 #[.int .i64 n] w (Ret fun v w' => ∃ (a0 : Option Addr) (c0 : Nat), v = .slice a0 (newR n).length c0 ∧ Ext w w' ∧ OwnsG M 77 w (newR n) (.slice a0 (newR n).length c0) w') := by
  refine enter 6 Tryd.func78 rfl rfl rfl fun f0 ha => ?_
  have H := HI.start (M0 := M) (w := w) hM
  have i0 : f0 0 = .int .i64 n := ha 0 (by simp)
  refine sq (rg (k (asg (v := .slice none 0 0) rfl rfl (z (nx (sq (rg (k (mv rfl i0 (k ?_))))))))))
  have cc0 := row_Words (n := n) (w := w) (by unfold I64 at *; omega) (by first | omega | (simp; omega))
  refine ca go96 rfl (ec rfl e0) cc0 ?_
  rintro _ w0 ⟨rfl, xt0⟩
  have H0 := H.ext xt0
  refine k (mk (m := (words n : Nat)) (zx := (0#64 : (BitVec 64))) H0 rfl rfl rfl rfl un73 ty77 (fun _ _ => rfl) (by unfold words; omega) (by unfold words; omega) ?_)
  intro g0 w1 xt1 (H1 : HI M w w1 [own w.heap.size 77 (.slice (some ⟨g0, 0, none⟩) (words n : Nat) (words n : Nat)) (List.replicate (words n : Nat) (0#64 : (BitVec 64)))])
  refine k (asg (v := .slice (some ⟨g0, 0, none⟩) (words n : Nat) (words n : Nat)) rfl rfl (z (nx (rt (r1 rfl rfl ?_)))))
  have e0 : ((List.replicate (words n : Nat) (0#64 : (BitVec 64))) : List (BitVec 64)) = newR n := by unfold newR; rfl
  have l0 : (words n : Nat) = (newR n).length := by first | rfl | (rw [← e0]; simp) | simp
  have ev_ := cg1 (fun (n_0 : Nat) => (.slice (some ⟨g0, 0, none⟩) n_0 (words n : Nat) : Value)) l0
  exact ⟨(some ⟨g0, 0, none⟩), (words n : Nat), ev_, H1.below, (congrArg (fun (n_ : Nat) => OwnsG _ _ _ (newR n) (.slice (some ⟨g0, 0, none⟩) n_ (words n : Nat)) _) l0).mp ((congrArg (fun (x_ : List (BitVec 64)) => OwnsG _ _ _ x_ (.slice (some ⟨g0, 0, none⟩) (words n : Nat) (words n : Nat)) _) e0).mp (H1.ownsG_out 0 rfl))⟩
set_option maxRecDepth 100000 in
set_option maxHeartbeats 1600000 in
theorem row_List {M : Nat → Prop} {w : World} {a_r : Option Addr} {c_r : Nat} {r : List (BitVec 64)} (hM : ∀ b, M b → b < w.heap.size) (hT : TabAt 0 w) (h_r : RV M w (.slice a_r r.length c_r) r) (hl_r : r.length ≤ 1000000000) : Calls Tryd.prog 64 #[.slice a_r r.length c_r] w (Ret fun v w' => ∃ (a0 : Option Addr) (c0 : Nat), v = .slice a0 (listR r).length c0 ∧ Ext w w' ∧ OwnsG M 3 w (listR r) (.slice a0 (listR r).length c0) w') := by
  refine enter 29 Tryd.func64 rfl rfl rfl fun f0 ha => ?_
  have H := HI.start (M0 := M) (w := w) hM
  have H0 := H.put (it := imm (.slice a_r r.length c_r) r) rfl (by rw [MS_nil]; exact h_r)
  have ln_r := rv_len h_r
  have i0 : f0 0 = .slice a_r r.length c_r := ha 0 (by simp)
  refine sq (rg (k (asg (v := .slice none 0 0) rfl rfl (z (nx (sq (rg (k (asg (v := .slice none 0 0) rfl rfl (z (nx (sq (sq (rg (k (mv rfl i0 (k (lnS rfl rfl un73 (k (mv (v := .int .i64 0) rfl rfl (z (nx (bk ?_)))))))))))))))))))))))
  have H1 := H0.nil_ Int 3
  refine lp (fun m f w' => ∃ (j : Nat) (xs : List Int) (a0 : Option Addr) (c0 : Nat), m = r.length - j ∧ f 3 = .slice a0 xs.length c0 ∧ f 6 = .slice a_r r.length c_r ∧ f 7 = .int .i64 (r.length : Int) ∧ f 8 = .int .i64 (j : Int) ∧  HI M w w' [own w.heap.size 3 (.slice a0 xs.length c0) xs, imm (.slice a_r r.length c_r) r] ∧ (j ≤ r.length) ∧ (xs = listTo r j)) _ ⟨0, ([] : List Int), none, 0, rfl, rfl, rfl, rfl, (ieq rfl (by first | rfl | omega | simp)), H1, (by first | assumption | omega | simp | (simp; omega)), (by rfl)⟩ ?_
  rintro _ f0 w0 ⟨j, xs, a0, c0, rfl, s0, s1, s2, s3, H2, hk, hs⟩
  refine sq (rg (k (lss rfl rfl s3 s2 (z (nx (sq ?_))))))
  refine cd (b := decide ((j : Int) < (r.length : Int))) rfl rfl (fun b0 => ?_) (fun b0 => ?_)
  ·
    have p0 := of_decide_eq_true b0
    refine sk (nx (sq (bk (sq (rg (k (mv rfl s3 (k (ia (H2.rv 1 rfl) rfl rfl s1 s3 (by first | omega | (simp; omega)) un73 ty77 ?_)))))))))
    intro ad0 x0 hx0 hA0
    refine k (ldU hA0.w ty77 rfl rfl (k (asg (v := .int .i64 (j : Int)) rfl rfl (k (asg (v := U x0) rfl rfl (z (nx (bk ?_))))))))
    refine lp (fun m f w' => ∃ (y : BitVec 64) (ys : List Int) (a1 : Option Addr) (c1 : Nat), m = (listW y).length ∧ f 3 = .slice a1 ys.length c1 ∧ f 4 = .int .i64 (j : Int) ∧ f 5 = U y ∧ f 6 = .slice a_r r.length c_r ∧ f 7 = .int .i64 (r.length : Int) ∧ f 8 = .int .i64 (j : Int) ∧  HI M w w' [own w.heap.size 3 (.slice a1 ys.length c1) ys, imm (.slice a_r r.length c_r) r] ∧ (ys ++ intsW j y = listTo r j ++ intsW j x0)) _ ⟨x0, xs, a0, c0, rfl, s0, rfl, (ueq rfl (by first | rfl | simp)), s1, s2, s3, H2, (by rw [hs])⟩ ?_
    rintro _ f1 w1 ⟨y, ys, a1, c1, rfl, s4, s5, s6, s7, s8, s9, H3, hy⟩
    refine sq (sq (rg (k (mv rfl s6 (k (neU y (0#64) rfl rfl rfl rfl (z (nx ?_))))))))
    refine cd (b := !decide (y = (0#64))) rfl rfl (fun b1 => ?_) (fun b1 => ?_)
    ·
      have p1 := of_decide_eq_false (nott b1)
      refine sk (nx (sq (bk (rg (k (mv rfl s4 (k (mv rfl s5 (k (mul rfl rfl rfl rfl (by have h_ := firstW_le y; unfold I64; omega) (k (mv rfl s6 (k ?_)))))))))))))
      have cc0 := word_First (x := y) (w := w1) (hT.ext H3.below)
      refine ca go104 rfl (ec rfl e0) cc0 ?_
      rintro _ w2 ⟨rfl, xt0⟩
      have H4 := H3.ext xt0
      refine k (add rfl rfl rfl rfl (by have h_ := firstW_le y; unfold I64; omega) (k (bs (xs := ([((j : Int) * 64) + ((firstW y : Nat) : Int)] : List Int)) (cells := #[.int .i64 (((j : Int) * 64) + ((firstW y : Nat) : Int))]) (e := 3) H4 rfl (pbc rfl pb0) (fun _ => by kernel_rfl) ⟨[.int .i64 (((j : Int) * 64) + ((firstW y : Nat) : Int))], [], rfl, ⟨rfl, (show I64 (((j : Int) * 64) + ((firstW y : Nat) : Int)) from (by have h_ := firstW_le y; unfold I64; omega))⟩, rfl⟩ rfl (by unfold maxLen; omega) ?_)))
      intro g0 w3 xt1 (H5 : HI M w w3 [own w.heap.size 3 (.slice (some ⟨g0, 0, none⟩) 1 1) ([((j : Int) * 64) + ((firstW y : Nat) : Int)] : List Int), own w.heap.size 3 (.slice a1 ys.length c1) ys, imm (.slice a_r r.length c_r) r])
      refine k (ap H5 1 rfl rfl rfl rfl rfl rfl (own_src (H5.at_ 0 rfl)) un42 ty3 rfl (by have h_ := congrArg List.length hy; simp only [List.length_append] at h_; have h1 := listTo_length r j; have h2 := intsW_length j x0; simp only [List.length_cons, List.length_nil]; omega) (by have h_ := congrArg List.length hy; simp only [List.length_append] at h_; have h1 := listTo_length r j; have h2 := intsW_length j x0; simp only [List.length_cons, List.length_nil]; omega) ?_)
      intro a2 c2 w4 (H6 : HI M w w4 [own w.heap.size 3 (.slice (some ⟨g0, 0, none⟩) 1 1) ([((j : Int) * 64) + ((firstW y : Nat) : Int)] : List Int), own w.heap.size 3 (.slice a2 (ys ++ ([((j : Int) * 64) + ((firstW y : Nat) : Int)] : List Int)).length c2) (ys ++ ([((j : Int) * 64) + ((firstW y : Nat) : Int)] : List Int)), imm (.slice a_r r.length c_r) r])
      refine k (asg (v := .slice a2 (ys ++ ([((j : Int) * 64) + ((firstW y : Nat) : Int)] : List Int)).length c2) rfl rfl (z (inb_normal (nx (rg (k (mv rfl s6 (k (mv rfl s6 (k (subU y (1#64) rfl rfl rfl rfl (k (andU y (y - (1#64)) rfl rfl rfl rfl (k (asg (v := U (y &&& (y - (1#64)))) rfl rfl (z ?_))))))))))))))))
      have H7 : HI M w w4 [own w.heap.size 3 (.slice a2 (ys ++ ([((j : Int) * 64) + ((firstW y : Nat) : Int)] : List Int)).length c2) (ys ++ ([((j : Int) * 64) + ((firstW y : Nat) : Int)] : List Int)), imm (.slice a_r r.length c_r) r] := H6.pickN [1, 2] (by decide) rfl
      refine loopN _ ?_ ⟨(y &&& (y - (1#64))), (ys ++ ([((j : Int) * 64) + ((firstW y : Nat) : Int)] : List Int)), a2, c2, rfl, rfl, s5, (ueq rfl (by rfl)), s7, s8, s9, H7, (by rw [List.append_assoc, ← hy, intsW_step (show y ≠ 0#64 by simpa using p1)]; rfl)⟩
      exact clear_less (by simpa using p1)
    ·
      have p1 := of_decide_eq_true (notf b1)
      refine ex (then_exit (loop_exit (inb_here (inb_normal (nx (rg (k (add rfl rfl s9 rfl (by have h_ := firstW_le y; unfold I64; omega) (k (mv (v := .int .i64 ((j : Int) + 1)) rfl rfl (z ?_)))))))))))
      refine loopN _ ?_ ⟨(j + 1), ys, a1, c1, rfl, s4, s7, s8, (ieq rfl (by first | rfl | omega | (push_cast; omega))), H3, (by first | assumption | omega | simp | (simp; omega)), (by rw [listTo_succ, getD_at hx0]; have e_ : y = 0#64 := (by simpa using p1); subst e_; rw [intsW_zero, List.append_nil] at hy; exact hy)⟩
      omega
  ·
    have p0 := of_decide_eq_false b0
    refine ex (then_exit (loop_exit (inb_here (nx (sq (rg (k (mv rfl s0 (k (asg (v := .slice a0 xs.length c0) rfl rfl (z (nx (rt (r1 rfl rfl ?_))))))))))))))
    have e0 : (xs : List Int) = listR r := by rw [hs]; unfold listR; congr 1; omega
    have ev_ := cg1 (fun (x_0 : List Int) => (.slice a0 x_0.length c0 : Value)) e0
    exact ⟨a0, c0, ev_, H2.below, (congrArg (fun (x_ : List Int) => OwnsG _ _ _ x_ (.slice a0 x_.length c0) _) e0).mp (H2.ownsG_out 0 rfl)⟩
set_option maxRecDepth 100000 in
set_option maxHeartbeats 1600000 in
theorem ref01_Bit {w : World} {i : Int} (h_i : I64 i) : Calls Tryd.prog 107 #[.int .i64 i] w (Ret fun v w' =>  v = U (bitB i) ∧ Ext w w') := by
  refine enter 17 Tryd.func107 rfl rfl rfl fun f0 ha => ?_
  have H := HI.start (M0 := (fun _ => False)) (w := w) (fun _ h => h.elim)
  have i0 : f0 0 = .int .i64 i := ha 0 (by simp)
  refine sq (rg (k (asg (v := U (0#64)) rfl rfl (z (nx (sq (sq (rg (k (mv rfl i0 (k (lss rfl rfl rfl rfl (k (mv (v := .bool (decide (i < 0))) rfl rfl ?_))))))))))))))
  rcases Bool.eq_false_or_eq_true (decide (i < 0)) with b0 | b0
  · -- decide (i < 0) is True
    have p0 := of_decide_eq_true b0
    refine k (gn rfl rfl rfl b0 (k (gn rfl rfl rfl b0 (k (pickT rfl rfl rfl rfl b0 rfl (z (nx (cdT rfl rfl rfl (sq (rg (k (asg (v := U (0#64)) rfl rfl (z (nx (rt (then_ret (r1 rfl rfl ?_)))))))))))))))))
    have e0 : (0#64 : BitVec 64) = bitB i := by first | exact (bitB_out (by omega)).symm | (rw [bitB_pow (by omega) (by omega), show i.toNat = j from by omega])
    have ev_ := cg1 (fun (x_0 : BitVec 64) => (U x_0 : Value)) e0
    exact ⟨ev_, H.below⟩
  · -- decide (i < 0) is False
    have p0 := of_decide_eq_false b0
    refine k (gy rfl rfl rfl b0 (mv rfl i0 (k (gy rfl rfl rfl b0 (gtr rfl rfl rfl rfl (k (pickF rfl rfl rfl rfl b0 rfl (z (nx ?_)))))))))
    refine cd (b := decide (63 < i)) rfl rfl (fun b1 => ?_) (fun b1 => ?_)
    ·
      have p1 := of_decide_eq_true b1
      refine sq (rg (k (asg (v := U (0#64)) rfl rfl (z (nx (rt (then_ret (r1 rfl rfl ?_))))))))
      have e0 : (0#64 : BitVec 64) = bitB i := by first | exact (bitB_out (by omega)).symm | (rw [bitB_pow (by omega) (by omega), show i.toNat = j from by omega])
      have ev_ := cg1 (fun (x_0 : BitVec 64) => (U x_0 : Value)) e0
      exact ⟨ev_, H.below⟩
    ·
      have p1 := of_decide_eq_false b1
      refine sk (nx (sq (rg (k (asg (v := U (1#64)) rfl rfl (z (nx (sq (bk ?_)))))))))
      refine lp (fun m f w' => ∃ (j : Nat), m = i.toNat - j ∧ f 0 = .int .i64 (i - (j : Int)) ∧ f 3 = U (1#64 <<< j) ∧  HI (fun _ => False) w w' [] ∧ (j ≤ i.toNat)) _ ⟨0, rfl, (ieq i0 (by omega)), (ueq rfl (by first | rfl | simp)), H, (by first | assumption | omega | simp | (simp; omega))⟩ ?_
      rintro _ f0 w0 ⟨j, rfl, s0, s1, H0, hj⟩
      refine sq (sq (rg (k (mv rfl s0 (k (gtr rfl rfl rfl rfl (z (nx ?_))))))))
      refine cd (b := decide (0 < (i - (j : Int)))) rfl rfl (fun b2 => ?_) (fun b2 => ?_)
      ·
        have p2 := of_decide_eq_true b2
        refine sk (nx (sq (bk (rg (k (mv rfl s1 (k (mulU (1#64 <<< j) (2#64) rfl rfl rfl rfl (k (asg (v := U ((1#64 <<< j) * (2#64))) rfl rfl (z (inb_normal (nx (rg (k (mv rfl s0 (k (sub rfl rfl rfl rfl (by unfold I64 at *; omega) (k (asg (v := .int .i64 ((i - (j : Int)) - 1)) rfl rfl (z ?_)))))))))))))))))))))
        refine loopN _ ?_ ⟨(j + 1), rfl, (ieq rfl (by omega)), (ueq rfl (by exact shl_step j)), H0, (by first | assumption | omega | simp | (simp; omega))⟩
        omega
      ·
        have p2 := of_decide_eq_false b2
        refine ex (then_exit (loop_exit (inb_here (nx (sq (rg (k (mv rfl s1 (k (asg (v := U (1#64 <<< j)) rfl rfl (z (nx (rt (r1 rfl rfl ?_))))))))))))))
        have e0 : ((1#64 <<< j) : BitVec 64) = bitB i := by first | exact (bitB_out (by omega)).symm | (rw [bitB_pow (by omega) (by omega), show i.toNat = j from by omega])
        have ev_ := cg1 (fun (x_0 : BitVec 64) => (U x_0 : Value)) e0
        exact ⟨ev_, H0.below⟩
set_option maxRecDepth 100000 in
set_option maxHeartbeats 1600000 in
theorem ref01_Has {w : World} {x : BitVec 64} {i : Int} (h_i : I64 i) : Calls Tryd.prog 94 #[U x, .int .i64 i] w (Ret fun v w' =>  v = .bool (hasW x i) ∧ Ext w w') := by
  refine enter 17 Tryd.func94 rfl rfl rfl fun f0 ha => ?_
  have H := HI.start (M0 := (fun _ => False)) (w := w) (fun _ h => h.elim)
  have i0 : f0 0 = U x := ha 0 (by simp)
  have i1 : f0 1 = .int .i64 i := ha 1 (by simp)
  refine sq (rg (k (asg (v := .bool false) rfl rfl (z (nx (sq (rg (k (mv rfl i1 (k ?_))))))))))
  have cc0 := ref01_Bit (i := i) (w := w) (by unfold I64 at *; omega)
  refine ca go107 rfl (ec rfl e0) cc0 ?_
  rintro _ w0 ⟨rfl, xt0⟩
  have H0 := H.ext xt0
  refine k (asg (v := U (bitB i)) rfl rfl (z (nx (sq (rg (k (mv (v := U (bitB i)) rfl rfl (k (neU (bitB i) (0#64) rfl rfl rfl rfl (k (mv (v := .bool (!decide ((bitB i) = (0#64)))) rfl rfl ?_)))))))))))
  rcases Bool.eq_false_or_eq_true (!decide ((bitB i) = (0#64))) with b0 | b0
  · -- !decide ((bitB i) = (0#64)) is True
    have p0 := of_decide_eq_false (nott b0)
    refine k (gy rfl rfl rfl b0 (mv rfl i0 (k (gy rfl rfl rfl b0 (mv (v := U (bitB i)) rfl rfl (k (gy rfl rfl rfl b0 (quoU x (bitB i) (by first | decide | simpa using b0) rfl rfl rfl rfl (k (gy rfl rfl rfl b0 (remU (x / (bitB i)) (2#64) (by first | decide | simpa using b0) rfl rfl rfl rfl (k (gy rfl rfl rfl b0 (eqU ((x / (bitB i)) % (2#64)) (1#64) rfl rfl rfl rfl (k (pickT rfl rfl rfl rfl b0 rfl (k (asg (v := .bool (decide (((x / (bitB i)) % (2#64)) = (1#64)))) rfl rfl (z (nx (rt (r1 rfl rfl ?_))))))))))))))))))))))
    have e0 : (decide (((x / (bitB i)) % (2#64)) = (1#64)) : Bool) = hasW x i := by first | exact hasW_quo (by simpa using b0) | exact hasW_zero (by simpa using b0)
    have ev_ := cg1 (fun (x_0 : Bool) => (.bool x_0 : Value)) e0
    exact ⟨ev_, H0.below⟩
  · -- !decide ((bitB i) = (0#64)) is False
    have p0 := of_decide_eq_true (notf b0)
    refine k (gn rfl rfl rfl b0 (k (gn rfl rfl rfl b0 (k (gn rfl rfl rfl b0 (k (gn rfl rfl rfl b0 (k (gn rfl rfl rfl b0 (k (pickF rfl rfl rfl rfl b0 rfl (k (asg (v := .bool false) rfl rfl (z (nx (rt (r1 rfl rfl ?_)))))))))))))))))
    have e0 : (false : Bool) = hasW x i := by first | exact hasW_quo (by simpa using b0) | exact hasW_zero (by simpa using b0)
    have ev_ := cg1 (fun (x_0 : Bool) => (.bool x_0 : Value)) e0
    exact ⟨ev_, H0.below⟩
set_option maxRecDepth 100000 in
set_option maxHeartbeats 1600000 in
theorem ref02_Words {w : World} {n : Int} (h_n : I64 n) (hn : n ≤ 1000000000000000000) : Calls Tryd.prog 57 #[.int .i64 n] w (Ret fun v w' =>  v = .int .i64 ((words n : Nat) : Int) ∧ Ext w w') := by
  refine enter 8 Tryd.func57 rfl rfl rfl fun f0 ha => ?_
  have H := HI.start (M0 := (fun _ => False)) (w := w) (fun _ h => h.elim)
  have i0 : f0 0 = .int .i64 n := ha 0 (by simp)
  refine sq (rg (k (asg (v := .int .i64 0) rfl rfl (z (nx (sq (sq (rg (k (mv rfl i0 (k (lss rfl rfl rfl rfl (z (nx ?_))))))))))))))
  refine cd (b := decide (n < 0)) rfl rfl (fun b0 => ?_) (fun b0 => ?_)
  ·
    have p0 := of_decide_eq_true b0
    refine sq (rg (k (asg (v := .int .i64 0) rfl rfl (z (nx (rt (then_ret (r1 rfl rfl ?_))))))))
    have e0 : (0 : Int) = ((words n : Nat) : Int) := by first | exact (words_neg (by omega)).symm | exact (words_pos (by omega)).symm
    have ev_ := cg1 (fun (x_0 : Int) => (.int .i64 x_0 : Value)) e0
    exact ⟨ev_, H.below⟩
  ·
    have p0 := of_decide_eq_false b0
    refine sk (nx (sq (rg (k (mv rfl i0 (k (add rfl rfl rfl rfl (by unfold I64 at *; omega) (k (quo rfl rfl rfl rfl (by first | omega | (simp; omega)) (k (asg (v := .int .i64 ((n + 63) / 64)) rfl rfl (z (nx (rt (r1 rfl rfl ?_)))))))))))))))
    have e0 : ((n + 63) / 64 : Int) = ((words n : Nat) : Int) := by first | exact (words_neg (by omega)).symm | exact (words_pos (by omega)).symm
    have ev_ := cg1 (fun (x_0 : Int) => (.int .i64 x_0 : Value)) e0
    exact ⟨ev_, H.below⟩
set_option maxRecDepth 100000 in
set_option maxHeartbeats 1600000 in
theorem ref02_New {M : Nat → Prop} {w : World} {n : Int} (hM : ∀ b, M b → b < w.heap.size) (h_n : I64 n) (hn : n ≤ 1000000) : Calls Tryd.prog 73 #[.int .i64 n] w (Ret fun v w' => ∃ (a0 : Option Addr) (c0 : Nat), v = .slice a0 (newR n).length c0 ∧ Ext w w' ∧ OwnsG M 77 w (newR n) (.slice a0 (newR n).length c0) w') := by
  refine enter 6 Tryd.func73 rfl rfl rfl fun f0 ha => ?_
  have H := HI.start (M0 := M) (w := w) hM
  have i0 : f0 0 = .int .i64 n := ha 0 (by simp)
  refine sq (rg (k (asg (v := .slice none 0 0) rfl rfl (z (nx (sq (rg (k (mv rfl i0 (k ?_))))))))))
  have cc0 := ref02_Words (n := n) (w := w) (by unfold I64 at *; omega) (by first | omega | (simp; omega))
  refine ca go57 rfl (ec rfl e0) cc0 ?_
  rintro _ w0 ⟨rfl, xt0⟩
  have H0 := H.ext xt0
  refine k (mk (m := (words n : Nat)) (zx := (0#64 : (BitVec 64))) H0 rfl rfl rfl rfl un73 ty77 (fun _ _ => rfl) (by unfold words; omega) (by unfold words; omega) ?_)
  intro g0 w1 xt1 (H1 : HI M w w1 [own w.heap.size 77 (.slice (some ⟨g0, 0, none⟩) (words n : Nat) (words n : Nat)) (List.replicate (words n : Nat) (0#64 : (BitVec 64)))])
  refine k (asg (v := .slice (some ⟨g0, 0, none⟩) (words n : Nat) (words n : Nat)) rfl rfl (z (nx (rt (r1 rfl rfl ?_)))))
  have e0 : ((List.replicate (words n : Nat) (0#64 : (BitVec 64))) : List (BitVec 64)) = newR n := by unfold newR; rfl
  have l0 : (words n : Nat) = (newR n).length := by first | rfl | (rw [← e0]; simp) | simp
  have ev_ := cg1 (fun (n_0 : Nat) => (.slice (some ⟨g0, 0, none⟩) n_0 (words n : Nat) : Value)) l0
  exact ⟨(some ⟨g0, 0, none⟩), (words n : Nat), ev_, H1.below, (congrArg (fun (n_ : Nat) => OwnsG _ _ _ (newR n) (.slice (some ⟨g0, 0, none⟩) n_ (words n : Nat)) _) l0).mp ((congrArg (fun (x_ : List (BitVec 64)) => OwnsG _ _ _ x_ (.slice (some ⟨g0, 0, none⟩) (words n : Nat) (words n : Nat)) _) e0).mp (H1.ownsG_out 0 rfl))⟩
set_option maxRecDepth 100000 in
set_option maxHeartbeats 1600000 in
theorem ref02_Has {M : Nat → Prop} {w : World} {a_r : Option Addr} {c_r : Nat} {r : List (BitVec 64)} {i : Int} (hM : ∀ b, M b → b < w.heap.size) (h_r : RV M w (.slice a_r r.length c_r) r) (h_i : I64 i) (hl_r : r.length ≤ 1000000000) : Calls Tryd.prog 58 #[.slice a_r r.length c_r, .int .i64 i] w (Ret fun v w' =>  v = .bool (hasR r i) ∧ Ext w w') := by
  refine enter 24 Tryd.func58 rfl rfl rfl fun f0 ha => ?_
  have H := HI.start (M0 := M) (w := w) hM
  have H0 := H.put (it := imm (.slice a_r r.length c_r) r) rfl (by rw [MS_nil]; exact h_r)
  have ln_r := rv_len h_r
  have i0 : f0 0 = .slice a_r r.length c_r := ha 0 (by simp)
  have i1 : f0 1 = .int .i64 i := ha 1 (by simp)
  refine sq (rg (k (asg (v := .bool false) rfl rfl (z (nx (sq (rg (k (mv rfl i1 (k (geq rfl rfl rfl rfl (k (mv (v := .bool (decide (0 ≤ i))) rfl rfl ?_)))))))))))))
  rcases Bool.eq_false_or_eq_true (decide (0 ≤ i)) with b0 | b0
  · -- decide (0 ≤ i) is True
    have p0 := of_decide_eq_true b0
    refine k (gy rfl rfl rfl b0 (mv rfl i1 (k (gy rfl rfl rfl b0 (mv rfl i0 (k (gy rfl rfl rfl b0 (lnS rfl rfl un73 (k (gy rfl rfl rfl b0 (mul rfl rfl rfl rfl (by unfold I64 at *; omega) (k (gy rfl rfl rfl b0 (lss rfl rfl rfl rfl (k (pickT rfl rfl rfl rfl b0 rfl (k (mv (v := .bool (decide (i < (64 * (r.length : Int))))) rfl rfl ?_))))))))))))))))))
    rcases Bool.eq_false_or_eq_true (decide (i < (64 * (r.length : Int)))) with b1 | b1
    · -- decide (i < (64 * (r.length : Int))) is True
      have p1 := of_decide_eq_true b1
      refine k (gy rfl rfl rfl b1 (mv rfl i0 (k (gy rfl rfl rfl b1 (mv rfl i1 (k (gy rfl rfl rfl b1 (quo rfl rfl rfl rfl (by first | omega | (simp; omega)) (k (gy rfl rfl rfl b1 (ia (H0.rv 0 rfl) rfl rfl rfl rfl (by first | omega | (simp; omega)) un73 ty77 ?_)))))))))))
      intro ad0 x0 hx0 hA0
      refine k (gy rfl rfl rfl b1 (ldU hA0.w ty77 rfl rfl (k (gy rfl rfl rfl b1 (mv rfl i1 (k (gy rfl rfl rfl b1 (rem rfl rfl rfl rfl (by first | omega | (simp; omega)) (k (gy rfl rfl rfl b1 ?_))))))))))
      have cc0 := ref01_Has (x := x0) (i := (i % 64)) (w := w) (by unfold I64 at *; omega)
      refine ca go94 rfl (ec rfl (ec rfl e0)) cc0 ?_
      rintro _ w0 ⟨rfl, xt0⟩
      have H1 := H0.ext xt0
      refine k (pickT rfl rfl rfl rfl b1 rfl (k (asg (v := .bool (hasW x0 (i % 64))) rfl rfl (z (nx (rt (r1 rfl rfl ?_)))))))
      have e0 : (hasW x0 (i % 64) : Bool) = hasR r i := by first | exact hasR_of (by omega) (by omega) hx0 | exact hasR_no (by omega)
      have ev_ := cg1 (fun (x_0 : Bool) => (.bool x_0 : Value)) e0
      exact ⟨ev_, H1.below⟩
    · -- decide (i < (64 * (r.length : Int))) is False
      have p1 := of_decide_eq_false b1
      refine k (gn rfl rfl rfl b1 (k (gn rfl rfl rfl b1 (k (gn rfl rfl rfl b1 (k (gn rfl rfl rfl b1 (k (gn rfl rfl rfl b1 (k (gn rfl rfl rfl b1 (k (gn rfl rfl rfl b1 (k (gn rfl rfl rfl b1 (k (pickF rfl rfl rfl rfl b1 rfl (k (asg (v := .bool false) rfl rfl (z (nx (rt (r1 rfl rfl ?_)))))))))))))))))))))))
      have e0 : (false : Bool) = hasR r i := by first | exact hasR_of (by omega) (by omega) hx0 | exact hasR_no (by omega)
      have ev_ := cg1 (fun (x_0 : Bool) => (.bool x_0 : Value)) e0
      exact ⟨ev_, H0.below⟩
  · -- decide (0 ≤ i) is False
    have p0 := of_decide_eq_false b0
    refine k (gn rfl rfl rfl b0 (k (gn rfl rfl rfl b0 (k (gn rfl rfl rfl b0 (k (gn rfl rfl rfl b0 (k (gn rfl rfl rfl b0 (k (pickF rfl rfl rfl rfl b0 rfl (k (mv (v := .bool false) rfl rfl (k (gn rfl rfl rfl rfl (k (gn rfl rfl rfl rfl (k (gn rfl rfl rfl rfl (k (gn rfl rfl rfl rfl (k (gn rfl rfl rfl rfl (k (gn rfl rfl rfl rfl (k (gn rfl rfl rfl rfl (k (gn rfl rfl rfl rfl (k (pickF rfl rfl rfl rfl rfl rfl (k (asg (v := .bool false) rfl rfl (z (nx (rt (r1 rfl rfl ?_)))))))))))))))))))))))))))))))))))))
    have e0 : (false : Bool) = hasR r i := by first | exact hasR_of (by omega) (by omega) hx0 | exact hasR_no (by omega)
    have ev_ := cg1 (fun (x_0 : Bool) => (.bool x_0 : Value)) e0
    exact ⟨ev_, H0.below⟩
set_option maxRecDepth 100000 in
set_option maxHeartbeats 1600000 in
theorem ref02_Set {M : Nat → Prop} {w : World} {a_r : Option Addr} {c_r : Nat} {r : List (BitVec 64)} {i : Int} (hM : ∀ b, M b → b < w.heap.size) (h_r : RV M w (.slice a_r r.length c_r) r) (h_i : I64 i) (hl_r : r.length ≤ 1000000000) : Calls Tryd.prog 75 #[.slice a_r r.length c_r, .int .i64 i] w (Ret fun v w' => ∃ (a0 : Option Addr) (c0 : Nat), v = .slice a0 (setR r i).length c0 ∧ Ext w w' ∧ OwnsG M 77 w (setR r i) (.slice a0 (setR r i).length c0) w') := by
  refine enter 38 Tryd.func75 rfl rfl rfl fun f0 ha => ?_
  have H := HI.start (M0 := M) (w := w) hM
  have H0 := H.put (it := imm (.slice a_r r.length c_r) r) rfl (by rw [MS_nil]; exact h_r)
  have ln_r := rv_len h_r
  have i0 : f0 0 = .slice a_r r.length c_r := ha 0 (by simp)
  have i1 : f0 1 = .int .i64 i := ha 1 (by simp)
  refine sq (rg (k (asg (v := .slice none 0 0) rfl rfl (z (nx (sq (rg (k (bs (xs := ([] : List (BitVec 64))) (cells := #[]) (e := 77) H0 rfl pb0 (fun _ => by kernel_rfl) rfl rfl (by unfold maxLen; omega) ?_)))))))))
  intro g0 w0 xt0 (H1 : HI M w w0 [own w.heap.size 77 (.slice (some ⟨g0, 0, none⟩) 0 0) ([] : List (BitVec 64)), imm (.slice a_r r.length c_r) r])
  refine k (mv rfl i0 (k (ap H1 0 rfl rfl rfl rfl rfl rfl (H1.rv 1 rfl).src un73 ty77 rfl (by simp; omega) (by simp; omega) ?_)))
  intro a0 c0 w1 (H2 : HI M w w1 [own w.heap.size 77 (.slice a0 r.length c0) r, imm (.slice a_r r.length c_r) r])
  refine k (asg (v := .slice a0 r.length c0) rfl rfl (z (nx (sq (sq (rg (k (mv rfl i1 (k (geq rfl rfl rfl rfl (k (mv (v := .bool (decide (0 ≤ i))) rfl rfl ?_))))))))))))
  rcases Bool.eq_false_or_eq_true (decide (0 ≤ i)) with b0 | b0
  · -- decide (0 ≤ i) is True
    have p0 := of_decide_eq_true b0
    refine k (gy rfl rfl rfl b0 (mv rfl i1 (k (gy rfl rfl rfl b0 (mv rfl i0 (k (gy rfl rfl rfl b0 (lnS rfl rfl un73 (k (gy rfl rfl rfl b0 (mul rfl rfl rfl rfl (by unfold I64 at *; omega) (k (gy rfl rfl rfl b0 (lss rfl rfl rfl rfl (k (pickT rfl rfl rfl rfl b0 rfl (k (mv (v := .bool (decide (i < (64 * (r.length : Int))))) rfl rfl ?_))))))))))))))))))
    rcases Bool.eq_false_or_eq_true (decide (i < (64 * (r.length : Int)))) with b1 | b1
    · -- decide (i < (64 * (r.length : Int))) is True
      have p1 := of_decide_eq_true b1
      refine k (gy rfl rfl rfl b1 (mv rfl i0 (k (gy rfl rfl rfl b1 (mv rfl i1 (k (gy rfl rfl rfl b1 ?_)))))))
      have cc0 := ref02_Has (r := r) (i := i) (w := w1) H2.mb (H2.rv 1 rfl) (by unfold I64 at *; omega) (by first | omega | (simp; omega))
      refine ca go58 rfl (ec rfl (ec rfl e0)) cc0 ?_
      rintro _ w2 ⟨rfl, xt1⟩
      have H3 := H2.ext xt1
      refine k (gy rfl rfl rfl b1 (not_ rfl rfl (k (pickT rfl rfl rfl rfl b1 rfl (z (nx ?_))))))
      refine cd (b := !(hasR r i)) rfl rfl (fun b2 => ?_) (fun b2 => ?_)
      ·
        obtain ⟨x0, hx0⟩ : ∃ x, r[(i / 64).toNat]? = some x := ⟨_, List.getElem?_eq_getElem (by first | omega | (simp; omega))⟩
        refine dr 12 [fun (v : Value) (w' : World) => v = .slice a0 r.length c0, fun (v : Value) (w' : World) => v = .int .i64 i, fun (v : Value) (w' : World) => v = .int .i64 (i / 64), fun (v : Value) (w' : World) => v = .slice a0 r.length c0, fun (v : Value) (w' : World) => v = .int .i64 i, fun (v : Value) (w' : World) => v = .int .i64 (i / 64), fun (v : Value) (w' : World) => ∃ (g1 : Nat), v = .pointer (some ⟨g1, (i / 64).toNat * 1, none⟩) ∧ (.slice a0 r.length c0 : Value).ownBlock = some g1 ∧ AtW (MS M [own w.heap.size 77 (.slice a0 r.length c0) r, imm (.slice a_r r.length c_r) r]) w' ⟨g1, (i / 64).toNat * 1, none⟩ x0, fun (v : Value) (w' : World) => v = U x0, fun (v : Value) (w' : World) => v = .int .i64 i, fun (v : Value) (w' : World) => v = .int .i64 (i % 64), fun (v : Value) (w' : World) => v = U (bitB (i % 64)), fun (v : Value) (w' : World) => v = U (x0 + (bitB (i % 64)))] rfl (by kernel_rfl) ?_ ?_
        ·
          refine ⟨fun _ => ⟨fun f0 w4 hf0 xt3 hp0 => ?_, fun _ _ _ _ h => h⟩, ?_⟩
          ·
            have H5 := H3.ext xt3
            refine mv rfl (hf0 5 rfl) ?_
            exact ⟨_, rfl, Ext.refl _, rfl⟩
          refine ⟨fun _ => ⟨fun f1 w5 hf1 xt4 hp1 => ?_, fun _ _ _ _ h => h⟩, ?_⟩
          ·
            have H6 := H3.ext xt4
            refine mv rfl ((hf1 1 rfl).trans i1) ?_
            exact ⟨_, rfl, Ext.refl _, rfl⟩
          refine ⟨fun _ => ⟨fun f2 w6 hf2 xt5 hp2 => ?_, fun _ _ _ _ h => h⟩, ?_⟩
          ·
            have H7 := H3.ext xt5
            have s0 : f2 25 = .int .i64 i := hp2 1 rfl rfl
            refine quo rfl rfl s0 rfl (by first | omega | (simp; omega)) ?_
            exact ⟨_, rfl, Ext.refl _, rfl⟩
          refine ⟨fun _ => ⟨fun f3 w7 hf3 xt6 hp3 => ?_, fun _ _ _ _ h => h⟩, ?_⟩
          ·
            have H8 := H3.ext xt6
            refine mv rfl (hf3 5 rfl) ?_
            exact ⟨_, rfl, Ext.refl _, rfl⟩
          refine ⟨fun _ => ⟨fun f4 w8 hf4 xt7 hp4 => ?_, fun _ _ _ _ h => h⟩, ?_⟩
          ·
            have H9 := H3.ext xt7
            refine mv rfl ((hf4 1 rfl).trans i1) ?_
            exact ⟨_, rfl, Ext.refl _, rfl⟩
          refine ⟨fun _ => ⟨fun f5 w9 hf5 xt8 hp5 => ?_, fun _ _ _ _ h => h⟩, ?_⟩
          ·
            have H10 := H3.ext xt8
            have s1 : f5 28 = .int .i64 i := hp5 4 rfl rfl
            refine quo rfl rfl s1 rfl (by first | omega | (simp; omega)) ?_
            exact ⟨_, rfl, Ext.refl _, rfl⟩
          refine ⟨fun _ => ⟨fun f6 w10 hf6 xt9 hp6 => ?_, by rintro _ _ _ x_ ⟨g1, e_, hv0, hA0⟩; exact ⟨g1, e_, hv0, hA0.ext x_⟩⟩, ?_⟩
          ·
            have H11 := H3.ext xt9
            have s2 : f6 27 = .slice a0 r.length c0 := hp6 3 rfl rfl
            have s3 : f6 29 = .int .i64 (i / 64) := hp6 5 rfl rfl
            refine iaO (H11.at_ 0 rfl) rfl rfl s2 s3 (by first | omega | (simp; omega)) un73 ty77 ?_
            intro g2 x1 hv1 hx1 hA1
            obtain rfl : x0 = x1 := Option.some.inj (hx0.symm.trans hx1)
            exact ⟨_, rfl, Ext.refl _, ⟨g2, rfl, hv1, hA1⟩⟩
          refine ⟨fun _ => ⟨fun f7 w11 hf7 xt10 hp7 => ?_, fun _ _ _ _ h => h⟩, ?_⟩
          ·
            have H12 := H3.ext xt10
            obtain ⟨g3, s4, hv2, hA2⟩ : ∃ (g3 : Nat), f7 30 = .pointer (some ⟨g3, (i / 64).toNat * 1, none⟩) ∧ (.slice a0 r.length c0 : Value).ownBlock = some g3 ∧ AtW (MS M [own w.heap.size 77 (.slice a0 r.length c0) r, imm (.slice a_r r.length c_r) r]) w11 ⟨g3, (i / 64).toNat * 1, none⟩ x0 := hp7 6 rfl rfl
            refine ldU hA2 ty77 rfl s4 ?_
            exact ⟨_, rfl, Ext.refl _, rfl⟩
          refine ⟨fun _ => ⟨fun f8 w12 hf8 xt11 hp8 => ?_, fun _ _ _ _ h => h⟩, ?_⟩
          ·
            have H13 := H3.ext xt11
            refine mv rfl ((hf8 1 rfl).trans i1) ?_
            exact ⟨_, rfl, Ext.refl _, rfl⟩
          refine ⟨fun _ => ⟨fun f9 w13 hf9 xt12 hp9 => ?_, fun _ _ _ _ h => h⟩, ?_⟩
          ·
            have H14 := H3.ext xt12
            have s5 : f9 32 = .int .i64 i := hp9 8 rfl rfl
            refine rem rfl rfl s5 rfl (by first | omega | (simp; omega)) ?_
            exact ⟨_, rfl, Ext.refl _, rfl⟩
          refine ⟨fun _ => ⟨fun f10 w14 hf10 xt13 hp10 => ?_, fun _ _ _ _ h => h⟩, ?_⟩
          ·
            have H15 := H3.ext xt13
            have s6 : f10 33 = .int .i64 (i % 64) := hp10 9 rfl rfl
            have cc2 := ref01_Bit (i := (i % 64)) (w := w14) (by unfold I64 at *; omega)
            refine ca go107 rfl (ec s6 e0) cc2 ?_
            rintro _ w15 ⟨rfl, xt14⟩
            have H16 := H15.ext xt14
            exact ⟨_, rfl, xt14, rfl⟩
          refine ⟨fun _ => ⟨fun f11 w16 hf11 xt15 hp11 => ?_, fun _ _ _ _ h => h⟩, ?_⟩
          ·
            have H17 := H3.ext xt15
            have s7 : f11 31 = U x0 := hp11 7 rfl rfl
            have s8 : f11 34 = U (bitB (i % 64)) := hp11 10 rfl rfl
            refine addU x0 (bitB (i % 64)) rfl rfl s7 s8 ?_
            exact ⟨_, rfl, Ext.refl _, rfl⟩
          exact DSteps.rest rfl _
        · intro f12 w17 hf12 xt16 hp12
          have H18 := H3.ext xt16
          have s9 : f12 5 = .slice a0 r.length c0 := hf12 5 rfl
          have s10 : f12 24 = .slice a0 r.length c0 := hp12 0 rfl
          have s11 : f12 26 = .int .i64 (i / 64) := hp12 2 rfl
          have s12 : f12 35 = U (x0 + (bitB (i % 64))) := hp12 11 rfl
          refine k (iaO (H18.at_ 0 rfl) rfl rfl s10 s11 (by first | omega | (simp; omega)) un73 ty77 ?_)
          intro g4 x2 hv3 hx2 hA3
          refine k (stO H18 0 rfl hv3 rfl (by first | omega | (simp; omega)) ty77 rfl rfl rfl s12 (RV.bv.2 rfl) ?_)
          intro w18 (H19 : HI M w w18 [own w.heap.size 77 (.slice a0 r.length c0) (r.set ((i / 64).toNat) (x0 + (bitB (i % 64)))), imm (.slice a_r r.length c_r) r])
          refine z (nx (sq (rg (k (mv rfl s9 (k (asg (v := .slice a0 r.length c0) rfl rfl (z (nx (rt (r1 rfl rfl ?_)))))))))))
          have e0 : (r.set ((i / 64).toNat) (x0 + (bitB (i % 64))) : List (BitVec 64)) = setR r i := by first | exact setR_add (by omega) (by omega) (by simpa using b2) hx0 | exact setR_no (by omega) | exact (setR_had (by simpa using b2)).symm
          have l0 : r.length = (setR r i).length := by first | rfl | (rw [← e0]; simp) | simp
          have ev_ := cg1 (fun (n_0 : Nat) => (.slice a0 n_0 c0 : Value)) l0
          exact ⟨a0, c0, ev_, H19.below, (congrArg (fun (n_ : Nat) => OwnsG _ _ _ (setR r i) (.slice a0 n_ c0) _) l0).mp ((congrArg (fun (x_ : List (BitVec 64)) => OwnsG _ _ _ x_ (.slice a0 r.length c0) _) e0).mp (H19.ownsG_out 0 rfl))⟩
      ·
        refine sk (nx (sq (rg (k (mv (v := .slice a0 r.length c0) rfl rfl (k (asg (v := .slice a0 r.length c0) rfl rfl (z (nx (rt (r1 rfl rfl ?_)))))))))))
        have e0 : (r : List (BitVec 64)) = setR r i := by first | exact setR_add (by omega) (by omega) (by simpa using b2) hx0 | exact setR_no (by omega) | exact (setR_had (by simpa using b2)).symm
        have ev_ := cg1 (fun (x_0 : List (BitVec 64)) => (.slice a0 x_0.length c0 : Value)) e0
        exact ⟨a0, c0, ev_, H3.below, (congrArg (fun (x_ : List (BitVec 64)) => OwnsG _ _ _ x_ (.slice a0 x_.length c0) _) e0).mp (H3.ownsG_out 0 rfl)⟩
    · -- decide (i < (64 * (r.length : Int))) is False
      have p1 := of_decide_eq_false b1
      refine k (gn rfl rfl rfl b1 (k (gn rfl rfl rfl b1 (k (gn rfl rfl rfl b1 (k (gn rfl rfl rfl b1 (k (pickF rfl rfl rfl rfl b1 rfl (z (nx (cdF rfl rfl rfl (sk (nx (sq (rg (k (mv (v := .slice a0 r.length c0) rfl rfl (k (asg (v := .slice a0 r.length c0) rfl rfl (z (nx (rt (r1 rfl rfl ?_))))))))))))))))))))))))
      have e0 : (r : List (BitVec 64)) = setR r i := by first | exact setR_add (by omega) (by omega) (by simpa using b2) hx0 | exact setR_no (by omega) | exact (setR_had (by simpa using b2)).symm
      have ev_ := cg1 (fun (x_0 : List (BitVec 64)) => (.slice a0 x_0.length c0 : Value)) e0
      exact ⟨a0, c0, ev_, H2.below, (congrArg (fun (x_ : List (BitVec 64)) => OwnsG _ _ _ x_ (.slice a0 x_.length c0) _) e0).mp (H2.ownsG_out 0 rfl)⟩
  · -- decide (0 ≤ i) is False
    have p0 := of_decide_eq_false b0
    refine k (gn rfl rfl rfl b0 (k (gn rfl rfl rfl b0 (k (gn rfl rfl rfl b0 (k (gn rfl rfl rfl b0 (k (gn rfl rfl rfl b0 (k (pickF rfl rfl rfl rfl b0 rfl (k (mv (v := .bool false) rfl rfl (k (gn rfl rfl rfl rfl (k (gn rfl rfl rfl rfl (k (gn rfl rfl rfl rfl (k (gn rfl rfl rfl rfl (k (pickF rfl rfl rfl rfl rfl rfl (z (nx (cdF rfl rfl rfl (sk (nx (sq (rg (k (mv (v := .slice a0 r.length c0) rfl rfl (k (asg (v := .slice a0 r.length c0) rfl rfl (z (nx (rt (r1 rfl rfl ?_))))))))))))))))))))))))))))))))))))))
    have e0 : (r : List (BitVec 64)) = setR r i := by first | exact setR_add (by omega) (by omega) (by simpa using b2) hx0 | exact setR_no (by omega) | exact (setR_had (by simpa using b2)).symm
    have ev_ := cg1 (fun (x_0 : List (BitVec 64)) => (.slice a0 x_0.length c0 : Value)) e0
    exact ⟨a0, c0, ev_, H2.below, (congrArg (fun (x_ : List (BitVec 64)) => OwnsG _ _ _ x_ (.slice a0 x_.length c0) _) e0).mp (H2.ownsG_out 0 rfl)⟩
set_option maxRecDepth 100000 in
set_option maxHeartbeats 1600000 in
theorem ref02_Ints {M : Nat → Prop} {w : World} {a_a : Option Addr} {c_a : Nat} {a : List Int} {a_b : Option Addr} {c_b : Nat} {b : List Int} (hM : ∀ b, M b → b < w.heap.size) (h_a : RV M w (.slice a_a a.length c_a) a) (h_b : RV M w (.slice a_b b.length c_b) b) : Calls Tryd.prog 42 #[.slice a_a a.length c_a, .slice a_b b.length c_b] w (Ret fun v w' =>  v = .bool (decide (a = b)) ∧ Ext w w') := by
  refine enter 26 Tryd.func42 rfl rfl rfl fun f0 ha => ?_
  have H := HI.start (M0 := M) (w := w) hM
  have H0 := H.put (it := imm (.slice a_a a.length c_a) a) rfl (by rw [MS_nil]; exact h_a)
  have H1 := H0.put (it := imm (.slice a_b b.length c_b) b) rfl (by rw [MS_cons_none rfl, MS_nil]; exact h_b)
  have ln_a := rv_len h_a
  have ln_b := rv_len h_b
  have i0 : f0 0 = .slice a_a a.length c_a := ha 0 (by simp)
  have i1 : f0 1 = .slice a_b b.length c_b := ha 1 (by simp)
  refine sq (rg (k (asg (v := .bool false) rfl rfl (z (nx (sq (sq (rg (k (mv rfl i0 (k (lnS rfl rfl un42 (k (mv rfl i1 (k (lnS rfl rfl un42 (k (neq rfl rfl rfl rfl (z (nx ?_))))))))))))))))))))
  refine cd (b := !decide ((a.length : Int) = (b.length : Int))) rfl rfl (fun b0 => ?_) (fun b0 => ?_)
  ·
    have p0 := of_decide_eq_false (nott b0)
    refine sq (rg (k (asg (v := .bool false) rfl rfl (z (nx (rt (then_ret (r1 rfl rfl ?_))))))))
    have e0 : (false : Bool) = decide (a = b) := by symm; rw [decide_eq_false_iff_not]; intro e; subst e; exact p0 rfl
    have ev_ := cg1 (fun (x_0 : Bool) => (.bool x_0 : Value)) e0
    exact ⟨ev_, H1.below⟩
  ·
    have p0 := of_decide_eq_true (notf b0)
    refine sk (nx (sq (sq (rg (k (asg (v := .int .i64 0) rfl rfl (z (nx (bk ?_)))))))))
    refine lp (fun m f w' => ∃ (j : Nat), m = a.length - j ∧ f 0 = .slice a_a a.length c_a ∧ f 1 = .slice a_b b.length c_b ∧ f 5 = .int .i64 (j : Int) ∧  HI M w w' [imm (.slice a_b b.length c_b) b, imm (.slice a_a a.length c_a) a] ∧ (j ≤ a.length) ∧ (a.take j = b.take j)) _ ⟨0, rfl, i0, i1, (ieq rfl (by first | rfl | omega | simp)), H1, (by first | assumption | omega | simp | (simp; omega)), (by first | assumption | omega | simp | (simp; omega))⟩ ?_
    rintro _ f0 w0 ⟨j, rfl, s0, s1, s2, H2, hk, hs⟩
    refine sq (sq (rg (k (mv rfl s2 (k (mv rfl s0 (k (lnS rfl rfl un42 (k (lss rfl rfl rfl rfl (z (nx ?_))))))))))))
    refine cd (b := decide ((j : Int) < (a.length : Int))) rfl rfl (fun b1 => ?_) (fun b1 => ?_)
    ·
      have p1 := of_decide_eq_true b1
      refine sk (nx (sq (bk (sq ?_))))
      obtain ⟨x0, hx0⟩ : ∃ x, a[(j : Int).toNat]? = some x := ⟨_, List.getElem?_eq_getElem (by first | omega | (simp; omega))⟩
      obtain ⟨x1, hx1⟩ : ∃ x, b[(j : Int).toNat]? = some x := ⟨_, List.getElem?_eq_getElem (by first | omega | (simp; omega))⟩
      refine dr 8 [fun (v : Value) (w' : World) => v = .slice a_a a.length c_a, fun (v : Value) (w' : World) => v = .int .i64 (j : Int), fun (v : Value) (w' : World) => ∃ (ad0 : Addr), v = .pointer (some ad0) ∧ At (MS M [imm (.slice a_b b.length c_b) b, imm (.slice a_a a.length c_a) a]) w' ad0 x0, fun (v : Value) (w' : World) => v = .int .i64 x0 ∧ I64 (x0), fun (v : Value) (w' : World) => v = .slice a_b b.length c_b, fun (v : Value) (w' : World) => v = .int .i64 (j : Int), fun (v : Value) (w' : World) => ∃ (ad1 : Addr), v = .pointer (some ad1) ∧ At (MS M [imm (.slice a_b b.length c_b) b, imm (.slice a_a a.length c_a) a]) w' ad1 x1, fun (v : Value) (w' : World) => v = .int .i64 x1 ∧ I64 (x1)] rfl (by kernel_rfl) ?_ ?_
      ·
        refine ⟨fun _ => ⟨fun f1 w1 hf0 xt0 hp0 => ?_, fun _ _ _ _ h => h⟩, ?_⟩
        ·
          have H3 := H2.ext xt0
          refine mv rfl ((hf0 0 rfl).trans s0) ?_
          exact ⟨_, rfl, Ext.refl _, rfl⟩
        refine ⟨fun _ => ⟨fun f2 w2 hf1 xt1 hp1 => ?_, fun _ _ _ _ h => h⟩, ?_⟩
        ·
          have H4 := H2.ext xt1
          refine mv rfl ((hf1 5 rfl).trans s2) ?_
          exact ⟨_, rfl, Ext.refl _, rfl⟩
        refine ⟨fun _ => ⟨fun f3 w3 hf2 xt2 hp2 => ?_, by rintro _ _ _ x_ ⟨ad0, e_, hA0⟩; exact ⟨ad0, e_, hA0.lift (Up.ext x_)⟩⟩, ?_⟩
        ·
          have H5 := H2.ext xt2
          have s3 : f3 17 = .slice a_a a.length c_a := hp2 0 rfl rfl
          have s4 : f3 18 = .int .i64 (j : Int) := hp2 1 rfl rfl
          refine ia (H5.rv 1 rfl) rfl rfl s3 s4 (by first | omega | (simp; omega)) un42 ty3 ?_
          intro ad2 x2 hx2 hA2
          obtain rfl : x0 = x2 := Option.some.inj (hx0.symm.trans hx2)
          exact ⟨_, rfl, Ext.refl _, ⟨ad2, rfl, hA2⟩⟩
        refine ⟨fun _ => ⟨fun f4 w4 hf3 xt3 hp3 => ?_, fun _ _ _ _ h => h⟩, ?_⟩
        ·
          have H6 := H2.ext xt3
          obtain ⟨ad3, s5, hA3⟩ : ∃ (ad3 : Addr), f4 19 = .pointer (some ad3) ∧ At (MS M [imm (.slice a_b b.length c_b) b, imm (.slice a_a a.length c_a) a]) w4 ad3 x0 := hp3 2 rfl rfl
          have H7 := H6.put (it := atI ad3 x0) rfl hA3
          refine ldI (H7.atv 0 rfl).w ty3 rfl s5 ?_
          intro rv2
          exact ⟨_, rfl, Ext.refl _, ⟨rfl, rv2⟩⟩
        refine ⟨fun _ => ⟨fun f5 w5 hf4 xt4 hp4 => ?_, fun _ _ _ _ h => h⟩, ?_⟩
        ·
          have H8 := H2.ext xt4
          refine mv rfl ((hf4 1 rfl).trans s1) ?_
          exact ⟨_, rfl, Ext.refl _, rfl⟩
        refine ⟨fun _ => ⟨fun f6 w6 hf5 xt5 hp5 => ?_, fun _ _ _ _ h => h⟩, ?_⟩
        ·
          have H9 := H2.ext xt5
          refine mv rfl ((hf5 5 rfl).trans s2) ?_
          exact ⟨_, rfl, Ext.refl _, rfl⟩
        refine ⟨fun _ => ⟨fun f7 w7 hf6 xt6 hp6 => ?_, by rintro _ _ _ x_ ⟨ad1, e_, hA1⟩; exact ⟨ad1, e_, hA1.lift (Up.ext x_)⟩⟩, ?_⟩
        ·
          have H10 := H2.ext xt6
          have s6 : f7 21 = .slice a_b b.length c_b := hp6 4 rfl rfl
          have s7 : f7 22 = .int .i64 (j : Int) := hp6 5 rfl rfl
          refine ia (H10.rv 0 rfl) rfl rfl s6 s7 (by first | omega | (simp; omega)) un42 ty3 ?_
          intro ad4 x3 hx3 hA4
          obtain rfl : x1 = x3 := Option.some.inj (hx1.symm.trans hx3)
          exact ⟨_, rfl, Ext.refl _, ⟨ad4, rfl, hA4⟩⟩
        refine ⟨fun _ => ⟨fun f8 w8 hf7 xt7 hp7 => ?_, fun _ _ _ _ h => h⟩, ?_⟩
        ·
          have H11 := H2.ext xt7
          obtain ⟨ad5, s8, hA5⟩ : ∃ (ad5 : Addr), f8 23 = .pointer (some ad5) ∧ At (MS M [imm (.slice a_b b.length c_b) b, imm (.slice a_a a.length c_a) a]) w8 ad5 x1 := hp7 6 rfl rfl
          have H12 := H11.put (it := atI ad5 x1) rfl hA5
          refine ldI (H12.atv 0 rfl).w ty3 rfl s8 ?_
          intro rv3
          exact ⟨_, rfl, Ext.refl _, ⟨rfl, rv3⟩⟩
        exact DSteps.rest rfl _
      · intro f9 w9 hf8 xt8 hp8
        have H13 := H2.ext xt8
        have s9 : f9 0 = .slice a_a a.length c_a := (hf8 0 rfl).trans s0
        have s10 : f9 1 = .slice a_b b.length c_b := (hf8 1 rfl).trans s1
        have s11 : f9 5 = .int .i64 (j : Int) := (hf8 5 rfl).trans s2
        obtain ⟨s12, rv4⟩ : f9 20 = .int .i64 x0 ∧ I64 (x0) := hp8 3 rfl
        obtain ⟨s13, rv5⟩ : f9 24 = .int .i64 x1 ∧ I64 (x1) := hp8 7 rfl
        refine k (neq rfl rfl s12 s13 (z (nx ?_)))
        refine cd (b := !decide (x0 = x1)) rfl rfl (fun b2 => ?_) (fun b2 => ?_)
        ·
          have p2 := of_decide_eq_false (nott b2)
          refine sq (rg (k (asg (v := .bool false) rfl rfl (z (nx (rt (inb_ret (then_ret (loop_ret (inb_ret (then_ret (r1 rfl rfl ?_))))))))))))
          have e0 : (false : Bool) = decide (a = b) := by symm; rw [decide_eq_false_iff_not]; exact ne_of_at hx0 hx1 p2
          have ev_ := cg1 (fun (x_0 : Bool) => (.bool x_0 : Value)) e0
          exact ⟨ev_, H13.below⟩
        ·
          have p2 := of_decide_eq_true (notf b2)
          refine sk (inb_normal (nx (rg (k (mv rfl s11 (k (add rfl rfl rfl rfl (by unfold I64 at *; omega) (k (asg (v := .int .i64 ((j : Int) + 1)) rfl rfl (z ?_))))))))))
          refine loopN _ ?_ ⟨(j + 1), rfl, s9, s10, (ieq rfl (by first | rfl | omega | (push_cast; omega))), H13, (by first | assumption | omega | simp | (simp; omega)), (by exact take_eq_step hs hx0 hx1 p2)⟩
          omega
    ·
      have p1 := of_decide_eq_false b1
      refine ex (then_exit (loop_exit (inb_here (nx (sq (rg (k (asg (v := .bool true) rfl rfl (z (nx (rt (r1 rfl rfl ?_))))))))))))
      have e0 : (true : Bool) = decide (a = b) := by symm; rw [decide_eq_true_eq]; exact eq_of_take (by omega) hs (by omega)
      have ev_ := cg1 (fun (x_0 : Bool) => (.bool x_0 : Value)) e0
      exact ⟨ev_, H2.below⟩
end Go.Proofs.YtmhopljngkgidaaDoor
namespace Go.Proofs.YtmhopljngkgidaaDoor
open Go.Ew Go.RowKit
set_option linter.unusedVariables false
set_option linter.unusedSimpArgs false
attribute [local irreducible] WL WC SO Code.wp wpList retQ Ret
attribute [local irreducible] bitB hasW inR hasR setR countW countR subR words newR listR orR firstW tab8
theorem go114 : GoF Tryd.prog 114 := ⟨_, _, Tryd.func114, rfl, by kernel_rfl⟩
theorem un22 : Tryd.prog.underlying 22 = some (.slice 73) := by kernel_rfl
theorem ty73 : TyF Tryd.prog 73 1 false 24 (.slice none 0 0) := ⟨by kernel_rfl, by kernel_rfl⟩
theorem fl24_0 : FldF Tryd.prog 24 0 0 := ⟨_, _, Tryd.underlying24, rfl, rfl, by kernel_rfl⟩
theorem ty24 : TyF Tryd.prog 24 2 true 32 (.agg #[.int .i64 0, .slice none 0 0]) := ⟨by kernel_rfl, by kernel_rfl⟩
theorem go78 : GoF Tryd.prog 78 := ⟨_, _, Tryd.func78, rfl, by kernel_rfl⟩
theorem go61 : GoF Tryd.prog 61 := ⟨_, _, Tryd.func61, rfl, by kernel_rfl⟩
theorem un31 : Tryd.prog.underlying 31 = some (.slice 76) := by kernel_rfl
theorem ty76 : TyF Tryd.prog 76 2 true 16 (.agg #[.int .i64 0, .int .i64 0]) := ⟨by kernel_rfl, by kernel_rfl⟩
theorem un76 : Tryd.prog.underlying 76 = some (.array 2 3) := by kernel_rfl
theorem fl24_1 : FldF Tryd.prog 24 1 1 := ⟨_, _, Tryd.underlying24, rfl, rfl, by kernel_rfl⟩
theorem ty22 : TyF Tryd.prog 22 1 false 24 (.slice none 0 0) := ⟨by kernel_rfl, by kernel_rfl⟩
theorem go63 : GoF Tryd.prog 63 := ⟨_, _, Tryd.func63, rfl, by kernel_rfl⟩
set_option maxRecDepth 100000 in
set_option maxHeartbeats 1600000 in
theorem indexFunc_int {M : Nat → Prop} {w : World} {a_r : Option Addr} {c_r : Nat} {r : List Int} {g_p : Nat} {C_p : List Value} {p : Int → Bool} (hM : ∀ b, M b → b < w.heap.size) (h_r : RV M w (.slice a_r r.length c_r) r) (h_p : FP Tryd.prog g_p C_p M w r p) : Calls Tryd.prog 114 #[.slice a_r r.length c_r, .func (.func g_p) #[] C_p.toArray] w (Ret fun v w' =>  v = .int .i64 (idxF p r) ∧ Ext w w') := by
  refine enter 19 Tryd.func114 rfl rfl rfl fun f0 ha => ?_
  have H := HI.start (M0 := M) (w := w) hM
  have H0 := H.put (it := imm (.slice a_r r.length c_r) r) rfl (by rw [MS_nil]; exact h_r)
  have ln_r := rv_len h_r
  have i0 : f0 0 = .slice a_r r.length c_r := ha 0 (by simp)
  have i1 : f0 1 = .func (.func g_p) #[] C_p.toArray := ha 1 (by simp)
  refine sq (rg (k (asg (v := .int .i64 0) rfl rfl (z (nx (sq (sq (rg (k (mv rfl i0 (k (lnS rfl rfl un42 (k (mv (v := .int .i64 0) rfl rfl (z (nx (bk ?_)))))))))))))))))
  refine lp (fun m f w' => ∃ (j : Nat), m = r.length - j ∧ f 0 = .slice a_r r.length c_r ∧ f 1 = .func (.func g_p) #[] C_p.toArray ∧ f 7 = .int .i64 (r.length : Int) ∧ f 8 = .int .i64 (j : Int) ∧  HI M w w' [imm (.slice a_r r.length c_r) r] ∧ (j ≤ r.length) ∧ ((r.take j).any p = false)) _ ⟨0, rfl, i0, i1, rfl, (ieq rfl (by first | rfl | omega | simp)), H0, (by first | assumption | omega | simp | (simp; omega)), (by simp)⟩ ?_
  rintro _ f0 w0 ⟨j, rfl, s0, s1, s2, s3, H1, hk, hs⟩
  refine sq (rg (k (lss rfl rfl s3 s2 (z (nx (sq ?_))))))
  refine cd (b := decide ((j : Int) < (r.length : Int))) rfl rfl (fun b0 => ?_) (fun b0 => ?_)
  ·
    have p0 := of_decide_eq_true b0
    refine sk (nx (sq (bk (sq (rg (k (mv rfl s3 (k (asg (v := .int .i64 (j : Int)) rfl rfl (z (nx (sq (rg (k (mv rfl s1 (k (mv rfl s0 (k (mv (v := .int .i64 (j : Int)) rfl rfl (k (ia (H1.rv 0 rfl) rfl rfl rfl rfl (by first | omega | (simp; omega)) un42 ty3 ?_)))))))))))))))))))))
    intro ad0 x0 hx0 hA0
    refine k (ldI hA0.w ty3 rfl rfl ?_)
    intro rv0
    refine k (cf h_p.1 rfl rfl rfl (ec rfl e0) (h_p.2 _ _ _ (by exact List.mem_of_getElem? ‹_›) H1.below ((RV.int.2 ⟨rfl, (by unfold I64 at *; omega)⟩).lift H1.out)) ?_)
    rintro _ w1 ⟨rfl, xt0⟩
    have H2 := H1.ext xt0
    refine z (nx ?_)
    refine cd (b := p x0) rfl rfl (fun b1 => ?_) (fun b1 => ?_)
    ·
      refine sq (rg (k (mv (v := .int .i64 (j : Int)) rfl rfl (k (asg (v := .int .i64 (j : Int)) rfl rfl (z (nx (rt (inb_ret (then_ret (loop_ret (inb_ret (then_ret (r1 rfl rfl ?_))))))))))))))
      have e0 : ((j : Int) : Int) = idxF p r := by exact idxF_hit hx0 hs b1
      have ev_ := cg1 (fun (x_0 : Int) => (.int .i64 x_0 : Value)) e0
      exact ⟨ev_, H2.below⟩
    ·
      refine sk (inb_normal (nx (rg (k (add rfl rfl s3 rfl (by unfold I64 at *; omega) (k (mv (v := .int .i64 ((j : Int) + 1)) rfl rfl (z ?_))))))))
      refine loopN _ ?_ ⟨(j + 1), rfl, s0, s1, s2, (ieq rfl (by first | rfl | omega | (push_cast; omega))), H2, (by first | assumption | omega | simp | (simp; omega)), (by exact any_step hx0 hs b1)⟩
      omega
  ·
    have p0 := of_decide_eq_false b0
    refine ex (then_exit (loop_exit (inb_here (nx (sq (rg (k (asg (v := .int .i64 (-1)) rfl rfl (z (nx (rt (r1 rfl rfl ?_))))))))))))
    have e0 : ((-1) : Int) = idxF p r := by exact idxF_miss hs (by omega)
    have ev_ := cg1 (fun (x_0 : Int) => (.int .i64 x_0 : Value)) e0
    exact ⟨ev_, H1.below⟩
end Go.Proofs.YtmhopljngkgidaaDoor
namespace Go.Proofs.YtmhopljngkgidaaDoor
open Go.Ew Go.RowKit
set_option linter.unusedVariables false
set_option linter.unusedSimpArgs false
attribute [local irreducible] WL WC SO Code.wp wpList retQ Ret
attribute [local irreducible] bitB hasW inR hasR setR countW countR subR words newR listR orR firstW tab8
end Go.Proofs.YtmhopljngkgidaaDoor
namespace Go.Proofs.YtmhopljngkgidaaDoor
open Go.Ew Go.RowKit
set_option linter.unusedVariables false
set_option linter.unusedSimpArgs false
attribute [local irreducible] WL WC SO Code.wp wpList retQ Ret
attribute [local irreducible] bitB hasW inR hasR setR countW countR subR words newR listR orR firstW tab8
theorem fl66_1 : FldF Tryd.prog 66 1 1 := ⟨_, _, Tryd.underlying66, rfl, rfl, by kernel_rfl⟩
theorem ty64 : TyF Tryd.prog 64 1 false 24 (.slice none 0 0) := ⟨by kernel_rfl, by kernel_rfl⟩
theorem un64 : Tryd.prog.underlying 64 = some (.slice 102) := by kernel_rfl
theorem ty102 : TyF Tryd.prog 102 5 true 40 (.agg #[.int .i64 0, .int .i64 0, .bool false, .int .i64 0, .int .i64 0]) := ⟨by kernel_rfl, by kernel_rfl⟩
theorem fl102_2 : FldF Tryd.prog 102 2 2 := ⟨_, _, Tryd.underlying102, rfl, rfl, by kernel_rfl⟩
theorem ty4 : TyF Tryd.prog 4 1 false 1 (.bool false) := ⟨by kernel_rfl, by kernel_rfl⟩
theorem fl102_3 : FldF Tryd.prog 102 3 3 := ⟨_, _, Tryd.underlying102, rfl, rfl, by kernel_rfl⟩
set_option maxRecDepth 100000 in
set_option maxHeartbeats 1600000 in
theorem deleteFunc_int {M : Nat → Prop} {w w_ : World} {r : List Go.Ew.Item} {a_xs : Option Addr} {c_xs : Nat} {xs : List Int} {g_p : Nat} {C_p : List Value} {p : Int → Bool} (h_p : FPH Tryd.prog g_p C_p M w (fun ys_ => own w.heap.size 3 (.slice a_xs xs.length c_xs) ys_) r xs p) (H : HI M w w_ ([own w.heap.size 3 (.slice a_xs xs.length c_xs) xs] ++ r)) : Calls Tryd.prog 88 #[.slice a_xs xs.length c_xs, .func (.func g_p) #[] C_p.toArray] w_ (Ret fun v w' => v = .slice a_xs (keepL p xs).length c_xs ∧ HI M w w' ([own w.heap.size 3 (.slice a_xs (keepL p xs).length c_xs) (keepL p xs)] ++ r)) := by
  refine enter 42 Tryd.func88 rfl rfl rfl fun f0 ha => ?_
  have ln_xs := own_len_ (H.at_ 0 rfl)
  have i0 : f0 0 = .slice a_xs xs.length c_xs := ha 0 (by simp)
  have i1 : f0 1 = .func (.func g_p) #[] C_p.toArray := ha 1 (by simp)
  refine sq (rg (k (asg (v := .slice none 0 0) rfl rfl (z (nx (sq (rg (k (mv rfl i0 (k (mv rfl i1 (k ?_))))))))))))
  have H0 := H.freeze 0 rfl
  have H1 : HI M w w_ ([imm (.slice a_xs xs.length c_xs) xs] ++ r) := H0
  have cc0 := indexFunc_int (r := xs) (p := p) (w := w_) H1.mb (H1.rv 0 rfl) (h_p.fp H)
  refine ca go114 rfl (ec rfl (ec rfl e0)) cc0 ?_
  rintro _ w0 ⟨rfl, xt0⟩
  have H2 := H.ext xt0
  refine k (asg (v := .int .i64 (idxF p xs)) rfl rfl (z (nx (sq (sq (rg (k (mv (v := .int .i64 (idxF p xs)) rfl rfl (k (eql rfl rfl rfl rfl (z (nx ?_))))))))))))
  refine cd (b := decide ((idxF p xs) = (-1))) rfl rfl (fun b0 => ?_) (fun b0 => ?_)
  ·
    have p0 := of_decide_eq_true b0
    refine sq (rg (k (mv rfl i0 (k (asg (v := .slice a_xs xs.length c_xs) rfl rfl (z (nx (rt (then_ret (r1 rfl rfl ?_))))))))))
    have e0 : (xs : List _) = (keepL p xs) := by exact df_none (by assumption)
    try rw [← e0]
    refine ⟨?_, ?_⟩
    · first | rfl | simp only [e0] | (simp only [List.length_set])
    · first | exact H2 | simpa only [e0, List.length_set] using H2
  ·
    have p0 := of_decide_eq_false b0
    refine sk (nx (sq (sq ?_)))
    obtain ⟨hi0_, hi1_, hi2_⟩ := df_start (p := p) (xs := xs) (by assumption)
    refine rg (k (mv (v := .int .i64 (idxF p xs)) rfl rfl (k (add rfl rfl rfl rfl (by first | assumption | (unfold I64 at *; omega)) (k (asg (v := .int .i64 ((idxF p xs) + 1)) rfl rfl (z (nx (bk ?_)))))))))
    refine lp (fun m f w' => ∃ (q : Int) (k_ : Nat) (ys : List Int), m = xs.length - k_ ∧ f 0 = .slice a_xs xs.length c_xs ∧ f 1 = .func (.func g_p) #[] C_p.toArray ∧ f 5 = .int .i64 q ∧ f 6 = .int .i64 (k_ : Int) ∧  HI M w w' ([own w.heap.size 3 (.slice a_xs xs.length c_xs) ys] ++ r) ∧ (0 ≤ q ∧ q < (k_ : Int) ∧ k_ ≤ xs.length) ∧ (DF p xs ys q k_)) _ ⟨(idxF p xs), ((idxF p xs).toNat + 1), xs, rfl, i0, i1, (ieq rfl (by omega)), (ieq rfl (by omega)), H2, (by omega), (by exact hi2_)⟩ ?_
    rintro _ f0 w1 ⟨q, k_, ys, rfl, s0, s1, s2, s3, H3, hq_, hs⟩
    refine sq (sq (rg (k (mv rfl s3 (k (mv rfl s0 (k (lnS rfl rfl un42 (k (lss rfl rfl rfl rfl (z (nx ?_))))))))))))
    refine cd (b := decide ((k_ : Int) < (xs.length : Int))) rfl rfl (fun b1 => ?_) (fun b1 => ?_)
    ·
      have p1 := of_decide_eq_true b1
      refine sk (nx (sq (bk (sq (rg (k (mv rfl s0 (k (mv rfl s3 (k (iaO (H3.at_ 0 rfl) rfl rfl rfl rfl (by have h_ := hs.1; first | omega | (simp only [List.length_append, List.length_take, List.length_replicate, List.length_nil]; omega)) un42 ty3 ?_)))))))))))
      intro g0 x0 hv0 hx0 hA0
      refine k (ldI hA0 ty3 rfl rfl ?_)
      intro rv0
      refine k (asg (v := .int .i64 x0) rfl rfl (z (nx (sq ?_))))
      have hl_ := hs.1
      refine rg (k (mv rfl s1 (k (mv (v := .int .i64 x0) rfl rfl (k (cf h_p.1 rfl rfl rfl (ec rfl e0) (h_p.2 _ _ H3 _ (by exact List.mem_of_getElem? (by first | exact hx0 | exact df_at hs hx0)) rv0) ?_))))))
      rintro _ w2 ⟨rfl, xt1⟩
      have H4 := H3.ext xt1
      have H5 : HI M w w2 ([own w.heap.size 3 (.slice a_xs xs.length c_xs) ys] ++ r) := H4
      refine k (not_ rfl rfl (z (nx ?_)))
      refine cd (b := !(p x0)) rfl rfl (fun b2 => ?_) (fun b2 => ?_)
      ·
        refine sq (rg (k (mv rfl s0 (k (mv rfl s2 (k (mv (v := .int .i64 x0) rfl rfl (k (iaO (H5.at_ 0 rfl) rfl rfl rfl rfl (by have h_ := hs.1; first | omega | (simp only [List.length_append, List.length_take, List.length_replicate, List.length_nil]; omega)) un42 ty3 ?_)))))))))
        intro g1 x1 hv1 hx1 hA1
        refine k (stO H5 0 rfl hv1 rfl (by have h_ := hs.1; first | omega | (simp only [List.length_append, List.length_take, List.length_replicate, List.length_nil]; omega)) ty3 rfl rfl rfl rfl (RV.int.2 ⟨rfl, (by first | assumption | (unfold I64 at *; omega))⟩) ?_)
        intro w3 (H6 : HI M w w3 ([own w.heap.size 3 (.slice a_xs xs.length c_xs) (ys.set q.toNat x0)] ++ r))
        refine z (nx (rg (k (mv rfl s2 (k (add rfl rfl rfl rfl (by first | assumption | (unfold I64 at *; omega)) (k (asg (v := .int .i64 (q + 1)) rfl rfl (z (inb_normal (nx (rg (k (mv rfl s3 (k (add rfl rfl rfl rfl (by first | assumption | (unfold I64 at *; omega)) (k (asg (v := .int .i64 ((k_ : Int) + 1)) rfl rfl (z ?_)))))))))))))))))))
        refine loopN _ ?_ ⟨(q + 1), (k_ + 1), (ys.set q.toNat x0), rfl, s0, s1, (ieq rfl (by omega)), (ieq rfl (by omega)), H6, (by omega), (by first | exact df_keep hs hx0 (by simpa using b2) (by omega) (by omega) | exact df_drop hs hx0 (by simpa using b2))⟩
        omega
      ·
        refine sk (inb_normal (nx (rg (k (mv rfl s3 (k (add rfl rfl rfl rfl (by first | assumption | (unfold I64 at *; omega)) (k (asg (v := .int .i64 ((k_ : Int) + 1)) rfl rfl (z ?_))))))))))
        refine loopN _ ?_ ⟨q, (k_ + 1), ys, rfl, s0, s1, (ieq s2 (by omega)), (ieq rfl (by omega)), H5, (by omega), (by first | exact df_keep hs hx0 (by simpa using b2) (by omega) (by omega) | exact df_drop hs hx0 (by simpa using b2))⟩
        omega
    ·
      have p1 := of_decide_eq_false b1
      refine ex (then_exit (loop_exit (inb_here (nx (sq (rg (k (mv rfl s0 (k (mv rfl s2 (k (slOl (H3.at_ 0 rfl) rfl rfl rfl rfl (by have h_ := hs.1; first | omega | (simp only [List.length_append, List.length_take, List.length_replicate, List.length_nil]; omega)) un42 ty3 (k (clO H3 0 rfl rfl rfl (q := q.toNat) rfl un42 ty3 (by have h_ := hs.1; omega) ?_))))))))))))))
      intro w2 (H4 : HI M w w2 ([own w.heap.size 3 (.slice a_xs xs.length c_xs) (ys.take q.toNat ++ (List.replicate (ys.length - q.toNat) (0 : Int) ++ []))] ++ r))
      refine z (nx (sq (rg (k (mv rfl s0 (k (mv rfl s2 (k (slCut H4 0 rfl rfl rfl rfl rfl (by have h_ := hs.1; first | omega | (simp only [List.length_append, List.length_take, List.length_replicate, List.length_nil]; omega)) un42 ty3 ?_)))))))))
      intro (H5 : HI M w w2 ([own w.heap.size 3 (.slice a_xs ((ys.take q.toNat ++ (List.replicate (ys.length - q.toNat) (0 : Int) ++ [])).take q.toNat).length c_xs) ((ys.take q.toNat ++ (List.replicate (ys.length - q.toNat) (0 : Int) ++ [])).take q.toNat)] ++ r))
      refine k (asg (v := .slice a_xs ((ys.take q.toNat ++ (List.replicate (ys.length - q.toNat) (0 : Int) ++ [])).take q.toNat).length c_xs) rfl rfl (z (nx (rt (r1 rfl rfl ?_)))))
      have e0 : ((ys.take q.toNat ++ (List.replicate (ys.length - q.toNat) (0 : Int) ++ [])).take q.toNat : List _) = (keepL p xs) := by exact df_end hs (by omega) (by omega) (by have h_ := hs.1; omega) _
      try rw [← e0]
      refine ⟨?_, ?_⟩
      · first | rfl | simp only [e0] | (simp only [List.length_set])
      · first | exact H5 | simpa only [e0, List.length_set] using H5
set_option maxRecDepth 100000 in
set_option maxHeartbeats 1600000 in
theorem clone_int {M : Nat → Prop} {w : World} {a_l : Option Addr} {c_l : Nat} {l : List Int} (hM : ∀ b, M b → b < w.heap.size) (h_l : RV M w (.slice a_l l.length c_l) l) (hln_l : l.length ≤ 1000000000) : Calls Tryd.prog 89 #[.slice a_l l.length c_l] w (Ret fun v w' => ∃ (a0 : Option Addr) (c0 : Nat), v = .slice a0 l.length c0 ∧ Ext w w' ∧ OwnsG M 3 w l (.slice a0 l.length c0) w') := by
  refine enter 8 Tryd.func89 rfl rfl rfl fun f0 ha => ?_
  have H := HI.start (M0 := M) (w := w) hM
  have H0 := H.put (it := imm (.slice a_l l.length c_l) l) rfl (by rw [MS_nil]; exact h_l)
  have ln_l := rv_len h_l
  have i0 : f0 0 = .slice a_l l.length c_l := ha 0 (by simp)
  refine sq (rg (k (asg (v := .slice none 0 0) rfl rfl (z (nx (sq (sq (rg (k (mv rfl i0 (k (eqN rfl rfl rfl rfl un42 (z (nx ?_))))))))))))))
  refine cd (b := a_l.isNone) rfl rfl (fun b0 => ?_) (fun b0 => ?_)
  ·
    refine sq (rg (k (asg (v := .slice none 0 0) rfl rfl (z (nx (rt (then_ret (r1 rfl rfl ?_))))))))
    have e0 : ([] : List Int) = l := by exact (rv_none h_l b0).symm
    have ev_ := cg1 (fun (x_0 : List Int) => (.slice none x_0.length 0 : Value)) e0
    exact ⟨none, 0, ev_, H0.below, (congrArg (fun (x_ : List Int) => OwnsG _ _ _ x_ (.slice none x_.length 0) _) e0).mp (ownsG_nil H0.below)⟩
  ·
    refine sk (nx (sq (rg (k (bs (xs := ([] : List Int)) (cells := #[]) (e := 3) H0 rfl pb0 (fun _ => by kernel_rfl) rfl rfl (by unfold maxLen; omega) ?_)))))
    intro g0 w0 xt0 (H1 : HI M w w0 [own w.heap.size 3 (.slice (some ⟨g0, 0, none⟩) 0 0) ([] : List Int), imm (.slice a_l l.length c_l) l])
    refine k (mv rfl i0 (k (ap H1 0 rfl rfl rfl rfl rfl rfl (H1.rv 1 rfl).src un42 ty3 rfl (by first | omega | (simp; omega)) (by first | omega | (simp; omega)) ?_)))
    intro a0 c0 w1 (H2 : HI M w w1 [own w.heap.size 3 (.slice a0 l.length c0) l, imm (.slice a_l l.length c_l) l])
    refine k (asg (v := .slice a0 l.length c0) rfl rfl (z (nx (rt (r1 rfl rfl ?_)))))
    exact ⟨a0, c0, rfl, H2.below, (H2.ownsG_out 0 rfl)⟩
set_option maxRecDepth 100000 in
set_option maxHeartbeats 1600000 in
theorem past_Writes1 {M : Nat → Prop} {w : World} {i : Int} {b_b : Nat} {ty_b : TypeId} {a_fv : Option Addr} {n_fv c_fv : Nat} {a_fi : Option Addr} {c_fi : Nat} {fi : List (Int × Int × Bool × Int × Int)} {a_fo : Option Addr} {n_fo c_fo : Nat} {b_c : Nat} {ty_c : TypeId} {vr : Int} (hM : ∀ b, M b → b < w.heap.size) (h_i : I64 i) (h_fi : RV M w (.slice a_fi fi.length c_fi) fi) (h_vr : I64 vr) (h_b : w.heap[b_b]? = some (.cells #[.slice a_fv n_fv c_fv, .slice a_fi fi.length c_fi, .slice a_fo n_fo c_fo] ty_b (0, 0)) ∧ ¬ M b_b) (h_c : w.heap[b_c]? = some (.cells #[.int .i64 vr] ty_c (0, 0)) ∧ ¬ M b_c) : Calls Tryd.prog 90 #[.int .i64 i, .pointer (some ⟨b_b, 0, none⟩), .pointer (some ⟨b_c, 0, none⟩)] w (Ret fun v w' =>  v = .bool (wrB fi vr i) ∧ Ext w w') := by
  refine enter 33 Tryd.func90 rfl rfl rfl fun f0 ha => ?_
  have H := HI.start (M0 := M) (w := w) hM
  have H0 := H.put (it := imm (.slice a_fi fi.length c_fi) fi) rfl (by rw [MS_nil]; exact h_fi)
  have ln_fi := rv_len h_fi
  have i0 : f0 0 = .int .i64 i := ha 0 (by simp)
  have H1 := H0.put (it := ro b_b #[.slice a_fv n_fv c_fv, .slice a_fi fi.length c_fi, .slice a_fo n_fo c_fo] ty_b) rfl (by rw [MS_cons_none rfl, MS_nil]; exact h_b)
  have i1 : f0 1 = .pointer (some ⟨b_b, 0, none⟩) := ha 1 (by simp)
  have H2 := H1.put (it := ro b_c #[.int .i64 vr] ty_c) rfl (by rw [MS_cons_none rfl, MS_cons_none rfl, MS_nil]; exact h_c)
  have i2 : f0 2 = .pointer (some ⟨b_c, 0, none⟩) := ha 2 (by simp)
  refine sq (rg (k (asg (v := .bool false) rfl rfl (z (nx (sq ?_))))))
  rcases Bool.eq_false_or_eq_true (decide (i < 0)) with b0 | b0
  · -- decide (i < 0) is True
    have p0 := of_decide_eq_true b0
    refine dr 26 [fun (v : Value) (w' : World) => v = .int .i64 i, fun (v : Value) (w' : World) => v = .bool (decide (i < 0)), fun (v : Value) (w' : World) => v = .bool (decide (i < 0)), fun (v : Value) (_ : World) => v = undef, fun (v : Value) (_ : World) => v = undef, fun (v : Value) (_ : World) => v = undef, fun (v : Value) (_ : World) => v = undef, fun (v : Value) (_ : World) => v = undef, fun (v : Value) (w' : World) => v = .bool true, fun (v : Value) (w' : World) => v = .bool true, fun (v : Value) (_ : World) => v = undef, fun (v : Value) (_ : World) => v = undef, fun (v : Value) (_ : World) => v = undef, fun (v : Value) (_ : World) => v = undef, fun (v : Value) (_ : World) => v = undef, fun (v : Value) (_ : World) => v = undef, fun (v : Value) (_ : World) => v = undef, fun (v : Value) (w' : World) => v = .bool true, fun (v : Value) (w' : World) => v = .bool true, fun (v : Value) (_ : World) => v = undef, fun (v : Value) (_ : World) => v = undef, fun (v : Value) (_ : World) => v = undef, fun (v : Value) (_ : World) => v = undef, fun (v : Value) (_ : World) => v = undef, fun (v : Value) (_ : World) => v = undef, fun (v : Value) (_ : World) => v = undef] rfl (by kernel_rfl) ?_ ?_
    ·
      refine ⟨fun _ => ⟨fun f0 w0 hf0 xt0 hp0 => ?_, fun _ _ _ _ h => h⟩, ?_⟩
      ·
        have H3 := H2.ext xt0
        refine mv rfl ((hf0 0 rfl).trans i0) ?_
        exact ⟨_, rfl, Ext.refl _, rfl⟩
      refine ⟨fun _ => ⟨fun f1 w1 hf1 xt1 hp1 => ?_, fun _ _ _ _ h => h⟩, ?_⟩
      ·
        have H4 := H2.ext xt1
        have s0 : f1 5 = .int .i64 i := hp1 0 rfl rfl
        refine lss rfl rfl s0 rfl ?_
        exact ⟨_, rfl, Ext.refl _, rfl⟩
      refine ⟨fun _ => ⟨fun f2 w2 hf2 xt2 hp2 => ?_, fun _ _ _ _ h => h⟩, ?_⟩
      ·
        have H5 := H2.ext xt2
        have s1 : f2 6 = .bool (decide (i < 0)) := hp2 1 rfl rfl
        refine mv rfl s1 ?_
        exact ⟨_, rfl, Ext.refl _, rfl⟩
      refine ⟨fun _ => ⟨fun f3 w3 hf3 xt3 hp3 => ?_, fun _ _ _ _ h => h⟩, ?_⟩
      ·
        have H6 := H2.ext xt3
        have s2 : f3 7 = .bool (decide (i < 0)) := hp3 2 rfl rfl
        refine gn rfl rfl s2 b0 ?_
        exact ⟨_, rfl, Ext.refl _, rfl⟩
      refine ⟨fun _ => ⟨fun f4 w4 hf4 xt4 hp4 => ?_, fun _ _ _ _ h => h⟩, ?_⟩
      ·
        have H7 := H2.ext xt4
        have s3 : f4 7 = .bool (decide (i < 0)) := hp4 2 rfl rfl
        refine gn rfl rfl s3 b0 ?_
        exact ⟨_, rfl, Ext.refl _, rfl⟩
      refine ⟨fun _ => ⟨fun f5 w5 hf5 xt5 hp5 => ?_, fun _ _ _ _ h => h⟩, ?_⟩
      ·
        have H8 := H2.ext xt5
        have s4 : f5 7 = .bool (decide (i < 0)) := hp5 2 rfl rfl
        have s5 : f5 9 = undef := hp5 4 rfl rfl
        refine gn rfl rfl s4 b0 ?_
        exact ⟨_, rfl, Ext.refl _, rfl⟩
      refine ⟨fun _ => ⟨fun f6 w6 hf6 xt6 hp6 => ?_, fun _ _ _ _ h => h⟩, ?_⟩
      ·
        have H9 := H2.ext xt6
        have s6 : f6 7 = .bool (decide (i < 0)) := hp6 2 rfl rfl
        have s7 : f6 10 = undef := hp6 5 rfl rfl
        refine gn rfl rfl s6 b0 ?_
        exact ⟨_, rfl, Ext.refl _, rfl⟩
      refine ⟨fun _ => ⟨fun f7 w7 hf7 xt7 hp7 => ?_, fun _ _ _ _ h => h⟩, ?_⟩
      ·
        have H10 := H2.ext xt7
        have s8 : f7 7 = .bool (decide (i < 0)) := hp7 2 rfl rfl
        have s9 : f7 8 = undef := hp7 3 rfl rfl
        have s10 : f7 11 = undef := hp7 6 rfl rfl
        refine gn rfl rfl s8 b0 ?_
        exact ⟨_, rfl, Ext.refl _, rfl⟩
      refine ⟨fun _ => ⟨fun f8 w8 hf8 xt8 hp8 => ?_, fun _ _ _ _ h => h⟩, ?_⟩
      ·
        have H11 := H2.ext xt8
        have s11 : f8 7 = .bool (decide (i < 0)) := hp8 2 rfl rfl
        have s12 : f8 12 = undef := hp8 7 rfl rfl
        refine pickT rfl rfl rfl s11 b0 rfl ?_
        exact ⟨_, rfl, Ext.refl _, rfl⟩
      refine ⟨fun _ => ⟨fun f9 w9 hf9 xt9 hp9 => ?_, fun _ _ _ _ h => h⟩, ?_⟩
      ·
        have H12 := H2.ext xt9
        have s13 : f9 13 = .bool true := hp9 8 rfl rfl
        refine mv rfl s13 ?_
        exact ⟨_, rfl, Ext.refl _, rfl⟩
      refine ⟨fun _ => ⟨fun f10 w10 hf10 xt10 hp10 => ?_, fun _ _ _ _ h => h⟩, ?_⟩
      ·
        have H13 := H2.ext xt10
        have s14 : f10 14 = .bool true := hp10 9 rfl rfl
        refine gn rfl rfl s14 rfl ?_
        exact ⟨_, rfl, Ext.refl _, rfl⟩
      refine ⟨fun _ => ⟨fun f11 w11 hf11 xt11 hp11 => ?_, fun _ _ _ _ h => h⟩, ?_⟩
      ·
        have H14 := H2.ext xt11
        have s15 : f11 14 = .bool true := hp11 9 rfl rfl
        have s16 : f11 15 = undef := hp11 10 rfl rfl
        refine gn rfl rfl s15 rfl ?_
        exact ⟨_, rfl, Ext.refl _, rfl⟩
      refine ⟨fun _ => ⟨fun f12 w12 hf12 xt12 hp12 => ?_, fun _ _ _ _ h => h⟩, ?_⟩
      ·
        have H15 := H2.ext xt12
        have s17 : f12 14 = .bool true := hp12 9 rfl rfl
        refine gn rfl rfl s17 rfl ?_
        exact ⟨_, rfl, Ext.refl _, rfl⟩
      refine ⟨fun _ => ⟨fun f13 w13 hf13 xt13 hp13 => ?_, fun _ _ _ _ h => h⟩, ?_⟩
      ·
        have H16 := H2.ext xt13
        have s18 : f13 14 = .bool true := hp13 9 rfl rfl
        have s19 : f13 16 = undef := hp13 11 rfl rfl
        have s20 : f13 17 = undef := hp13 12 rfl rfl
        refine gn rfl rfl s18 rfl ?_
        exact ⟨_, rfl, Ext.refl _, rfl⟩
      refine ⟨fun _ => ⟨fun f14 w14 hf14 xt14 hp14 => ?_, fun _ _ _ _ h => h⟩, ?_⟩
      ·
        have H17 := H2.ext xt14
        have s21 : f14 14 = .bool true := hp14 9 rfl rfl
        have s22 : f14 18 = undef := hp14 13 rfl rfl
        refine gn rfl rfl s21 rfl ?_
        exact ⟨_, rfl, Ext.refl _, rfl⟩
      refine ⟨fun _ => ⟨fun f15 w15 hf15 xt15 hp15 => ?_, fun _ _ _ _ h => h⟩, ?_⟩
      ·
        have H18 := H2.ext xt15
        have s23 : f15 14 = .bool true := hp15 9 rfl rfl
        have s24 : f15 19 = undef := hp15 14 rfl rfl
        refine gn rfl rfl s23 rfl ?_
        exact ⟨_, rfl, Ext.refl _, rfl⟩
      refine ⟨fun _ => ⟨fun f16 w16 hf16 xt16 hp16 => ?_, fun _ _ _ _ h => h⟩, ?_⟩
      ·
        have H19 := H2.ext xt16
        have s25 : f16 14 = .bool true := hp16 9 rfl rfl
        have s26 : f16 20 = undef := hp16 15 rfl rfl
        refine gn rfl rfl s25 rfl ?_
        exact ⟨_, rfl, Ext.refl _, rfl⟩
      refine ⟨fun _ => ⟨fun f17 w17 hf17 xt17 hp17 => ?_, fun _ _ _ _ h => h⟩, ?_⟩
      ·
        have H20 := H2.ext xt17
        have s27 : f17 14 = .bool true := hp17 9 rfl rfl
        have s28 : f17 21 = undef := hp17 16 rfl rfl
        refine pickT rfl rfl rfl s27 rfl rfl ?_
        exact ⟨_, rfl, Ext.refl _, rfl⟩
      refine ⟨fun _ => ⟨fun f18 w18 hf18 xt18 hp18 => ?_, fun _ _ _ _ h => h⟩, ?_⟩
      ·
        have H21 := H2.ext xt18
        have s29 : f18 22 = .bool true := hp18 17 rfl rfl
        refine mv rfl s29 ?_
        exact ⟨_, rfl, Ext.refl _, rfl⟩
      refine ⟨fun _ => ⟨fun f19 w19 hf19 xt19 hp19 => ?_, fun _ _ _ _ h => h⟩, ?_⟩
      ·
        have H22 := H2.ext xt19
        have s30 : f19 23 = .bool true := hp19 18 rfl rfl
        refine gn rfl rfl s30 rfl ?_
        exact ⟨_, rfl, Ext.refl _, rfl⟩
      refine ⟨fun _ => ⟨fun f20 w20 hf20 xt20 hp20 => ?_, fun _ _ _ _ h => h⟩, ?_⟩
      ·
        have H23 := H2.ext xt20
        have s31 : f20 23 = .bool true := hp20 18 rfl rfl
        have s32 : f20 24 = undef := hp20 19 rfl rfl
        refine gn rfl rfl s31 rfl ?_
        exact ⟨_, rfl, Ext.refl _, rfl⟩
      refine ⟨fun _ => ⟨fun f21 w21 hf21 xt21 hp21 => ?_, fun _ _ _ _ h => h⟩, ?_⟩
      ·
        have H24 := H2.ext xt21
        have s33 : f21 23 = .bool true := hp21 18 rfl rfl
        refine gn rfl rfl s33 rfl ?_
        exact ⟨_, rfl, Ext.refl _, rfl⟩
      refine ⟨fun _ => ⟨fun f22 w22 hf22 xt22 hp22 => ?_, fun _ _ _ _ h => h⟩, ?_⟩
      ·
        have H25 := H2.ext xt22
        have s34 : f22 23 = .bool true := hp22 18 rfl rfl
        have s35 : f22 25 = undef := hp22 20 rfl rfl
        have s36 : f22 26 = undef := hp22 21 rfl rfl
        refine gn rfl rfl s34 rfl ?_
        exact ⟨_, rfl, Ext.refl _, rfl⟩
      refine ⟨fun _ => ⟨fun f23 w23 hf23 xt23 hp23 => ?_, fun _ _ _ _ h => h⟩, ?_⟩
      ·
        have H26 := H2.ext xt23
        have s37 : f23 23 = .bool true := hp23 18 rfl rfl
        have s38 : f23 27 = undef := hp23 22 rfl rfl
        refine gn rfl rfl s37 rfl ?_
        exact ⟨_, rfl, Ext.refl _, rfl⟩
      refine ⟨fun _ => ⟨fun f24 w24 hf24 xt24 hp24 => ?_, fun _ _ _ _ h => h⟩, ?_⟩
      ·
        have H27 := H2.ext xt24
        have s39 : f24 23 = .bool true := hp24 18 rfl rfl
        have s40 : f24 28 = undef := hp24 23 rfl rfl
        refine gn rfl rfl s39 rfl ?_
        exact ⟨_, rfl, Ext.refl _, rfl⟩
      refine ⟨fun _ => ⟨fun f25 w25 hf25 xt25 hp25 => ?_, fun _ _ _ _ h => h⟩, ?_⟩
      ·
        have H28 := H2.ext xt25
        have s41 : f25 23 = .bool true := hp25 18 rfl rfl
        refine gn rfl rfl s41 rfl ?_
        exact ⟨_, rfl, Ext.refl _, rfl⟩
      exact DSteps.rest rfl _
    · intro f26 w26 hf26 xt26 hp26
      have H29 := H2.ext xt26
      have s42 : f26 23 = .bool true := hp26 18 rfl
      have s43 : f26 29 = undef := hp26 24 rfl
      have s44 : f26 30 = undef := hp26 25 rfl
      refine k (gn rfl rfl s42 rfl (k (pickT rfl rfl rfl s42 rfl rfl (k (asg (v := .bool true) rfl rfl (z (nx (rt (r1 rfl rfl ?_)))))))))
      have e0 : (true : Bool) = wrB fi vr i := by first | exact (wrB_neg (by assumption)).symm | exact (wrB_out (by assumption)).symm | (rw [wrB_at (by assumption) hx0]; simp_all)
      have ev_ := cg1 (fun (x_0 : Bool) => (.bool x_0 : Value)) e0
      exact ⟨ev_, H29.below⟩
  · -- decide (i < 0) is False
    have p0 := of_decide_eq_false b0
    rcases Bool.eq_false_or_eq_true (decide ((fi.length : Int) ≤ i)) with b1 | b1
    · -- decide ((fi.length : Int) ≤ i) is True
      have p1 := of_decide_eq_true b1
      refine dr 26 [fun (v : Value) (w' : World) => v = .int .i64 i, fun (v : Value) (w' : World) => v = .bool (decide (i < 0)), fun (v : Value) (w' : World) => v = .bool (decide (i < 0)), fun (v : Value) (w' : World) => v = .int .i64 i, fun (v : Value) (w' : World) => v = .pointer (some ⟨b_b, 1, none⟩), fun (v : Value) (w' : World) => v = .slice a_fi fi.length c_fi, fun (v : Value) (w' : World) => v = .int .i64 (fi.length : Int), fun (v : Value) (w' : World) => v = .bool (decide ((fi.length : Int) ≤ i)), fun (v : Value) (w' : World) => v = .bool (decide ((fi.length : Int) ≤ i)), fun (v : Value) (w' : World) => v = .bool (decide ((fi.length : Int) ≤ i)), fun (v : Value) (_ : World) => v = undef, fun (v : Value) (_ : World) => v = undef, fun (v : Value) (_ : World) => v = undef, fun (v : Value) (_ : World) => v = undef, fun (v : Value) (_ : World) => v = undef, fun (v : Value) (_ : World) => v = undef, fun (v : Value) (_ : World) => v = undef, fun (v : Value) (w' : World) => v = .bool true, fun (v : Value) (w' : World) => v = .bool true, fun (v : Value) (_ : World) => v = undef, fun (v : Value) (_ : World) => v = undef, fun (v : Value) (_ : World) => v = undef, fun (v : Value) (_ : World) => v = undef, fun (v : Value) (_ : World) => v = undef, fun (v : Value) (_ : World) => v = undef, fun (v : Value) (_ : World) => v = undef] rfl (by kernel_rfl) ?_ ?_
      ·
        refine ⟨fun _ => ⟨fun f0 w0 hf0 xt0 hp0 => ?_, fun _ _ _ _ h => h⟩, ?_⟩
        ·
          have H3 := H2.ext xt0
          refine mv rfl ((hf0 0 rfl).trans i0) ?_
          exact ⟨_, rfl, Ext.refl _, rfl⟩
        refine ⟨fun _ => ⟨fun f1 w1 hf1 xt1 hp1 => ?_, fun _ _ _ _ h => h⟩, ?_⟩
        ·
          have H4 := H2.ext xt1
          have s0 : f1 5 = .int .i64 i := hp1 0 rfl rfl
          refine lss rfl rfl s0 rfl ?_
          exact ⟨_, rfl, Ext.refl _, rfl⟩
        refine ⟨fun _ => ⟨fun f2 w2 hf2 xt2 hp2 => ?_, fun _ _ _ _ h => h⟩, ?_⟩
        ·
          have H5 := H2.ext xt2
          have s1 : f2 6 = .bool (decide (i < 0)) := hp2 1 rfl rfl
          refine mv rfl s1 ?_
          exact ⟨_, rfl, Ext.refl _, rfl⟩
        refine ⟨fun _ => ⟨fun f3 w3 hf3 xt3 hp3 => ?_, fun _ _ _ _ h => h⟩, ?_⟩
        ·
          have H6 := H2.ext xt3
          have s2 : f3 7 = .bool (decide (i < 0)) := hp3 2 rfl rfl
          refine gy rfl rfl s2 b0 (mv rfl ((hf3 0 rfl).trans i0) ?_)
          exact ⟨_, rfl, Ext.refl _, rfl⟩
        refine ⟨fun _ => ⟨fun f4 w4 hf4 xt4 hp4 => ?_, fun _ _ _ _ h => h⟩, ?_⟩
        ·
          have H7 := H2.ext xt4
          have s3 : f4 7 = .bool (decide (i < 0)) := hp4 2 rfl rfl
          refine gy rfl rfl s3 b0 (fa fl66_1 rfl ((hf4 1 rfl).trans i1) ?_)
          exact ⟨_, rfl, Ext.refl _, rfl⟩
        refine ⟨fun _ => ⟨fun f5 w5 hf5 xt5 hp5 => ?_, fun _ _ _ _ h => h⟩, ?_⟩
        ·
          have H8 := H2.ext xt5
          have s4 : f5 7 = .bool (decide (i < 0)) := hp5 2 rfl rfl
          have s5 : f5 9 = .pointer (some ⟨b_b, 1, none⟩) := hp5 4 rfl rfl
          refine gy rfl rfl s4 b0 (ldR H8 1 rfl ty64 rfl s5 (by decide) rfl ?_)
          exact ⟨_, rfl, Ext.refl _, rfl⟩
        refine ⟨fun _ => ⟨fun f6 w6 hf6 xt6 hp6 => ?_, fun _ _ _ _ h => h⟩, ?_⟩
        ·
          have H9 := H2.ext xt6
          have s6 : f6 7 = .bool (decide (i < 0)) := hp6 2 rfl rfl
          have s7 : f6 10 = .slice a_fi fi.length c_fi := hp6 5 rfl rfl
          refine gy rfl rfl s6 b0 (lnS rfl s7 un64 ?_)
          exact ⟨_, rfl, Ext.refl _, rfl⟩
        refine ⟨fun _ => ⟨fun f7 w7 hf7 xt7 hp7 => ?_, fun _ _ _ _ h => h⟩, ?_⟩
        ·
          have H10 := H2.ext xt7
          have s8 : f7 7 = .bool (decide (i < 0)) := hp7 2 rfl rfl
          have s9 : f7 8 = .int .i64 i := hp7 3 rfl rfl
          have s10 : f7 11 = .int .i64 (fi.length : Int) := hp7 6 rfl rfl
          refine gy rfl rfl s8 b0 (geq rfl rfl s9 s10 ?_)
          exact ⟨_, rfl, Ext.refl _, rfl⟩
        refine ⟨fun _ => ⟨fun f8 w8 hf8 xt8 hp8 => ?_, fun _ _ _ _ h => h⟩, ?_⟩
        ·
          have H11 := H2.ext xt8
          have s11 : f8 7 = .bool (decide (i < 0)) := hp8 2 rfl rfl
          have s12 : f8 12 = .bool (decide ((fi.length : Int) ≤ i)) := hp8 7 rfl rfl
          refine pickF rfl rfl rfl s11 b0 s12 ?_
          exact ⟨_, rfl, Ext.refl _, rfl⟩
        refine ⟨fun _ => ⟨fun f9 w9 hf9 xt9 hp9 => ?_, fun _ _ _ _ h => h⟩, ?_⟩
        ·
          have H12 := H2.ext xt9
          have s13 : f9 13 = .bool (decide ((fi.length : Int) ≤ i)) := hp9 8 rfl rfl
          refine mv rfl s13 ?_
          exact ⟨_, rfl, Ext.refl _, rfl⟩
        refine ⟨fun _ => ⟨fun f10 w10 hf10 xt10 hp10 => ?_, fun _ _ _ _ h => h⟩, ?_⟩
        ·
          have H13 := H2.ext xt10
          have s14 : f10 14 = .bool (decide ((fi.length : Int) ≤ i)) := hp10 9 rfl rfl
          refine gn rfl rfl s14 b1 ?_
          exact ⟨_, rfl, Ext.refl _, rfl⟩
        refine ⟨fun _ => ⟨fun f11 w11 hf11 xt11 hp11 => ?_, fun _ _ _ _ h => h⟩, ?_⟩
        ·
          have H14 := H2.ext xt11
          have s15 : f11 14 = .bool (decide ((fi.length : Int) ≤ i)) := hp11 9 rfl rfl
          have s16 : f11 15 = undef := hp11 10 rfl rfl
          refine gn rfl rfl s15 b1 ?_
          exact ⟨_, rfl, Ext.refl _, rfl⟩
        refine ⟨fun _ => ⟨fun f12 w12 hf12 xt12 hp12 => ?_, fun _ _ _ _ h => h⟩, ?_⟩
        ·
          have H15 := H2.ext xt12
          have s17 : f12 14 = .bool (decide ((fi.length : Int) ≤ i)) := hp12 9 rfl rfl
          refine gn rfl rfl s17 b1 ?_
          exact ⟨_, rfl, Ext.refl _, rfl⟩
        refine ⟨fun _ => ⟨fun f13 w13 hf13 xt13 hp13 => ?_, fun _ _ _ _ h => h⟩, ?_⟩
        ·
          have H16 := H2.ext xt13
          have s18 : f13 14 = .bool (decide ((fi.length : Int) ≤ i)) := hp13 9 rfl rfl
          have s19 : f13 16 = undef := hp13 11 rfl rfl
          have s20 : f13 17 = undef := hp13 12 rfl rfl
          refine gn rfl rfl s18 b1 ?_
          exact ⟨_, rfl, Ext.refl _, rfl⟩
        refine ⟨fun _ => ⟨fun f14 w14 hf14 xt14 hp14 => ?_, fun _ _ _ _ h => h⟩, ?_⟩
        ·
          have H17 := H2.ext xt14
          have s21 : f14 14 = .bool (decide ((fi.length : Int) ≤ i)) := hp14 9 rfl rfl
          have s22 : f14 18 = undef := hp14 13 rfl rfl
          refine gn rfl rfl s21 b1 ?_
          exact ⟨_, rfl, Ext.refl _, rfl⟩
        refine ⟨fun _ => ⟨fun f15 w15 hf15 xt15 hp15 => ?_, fun _ _ _ _ h => h⟩, ?_⟩
        ·
          have H18 := H2.ext xt15
          have s23 : f15 14 = .bool (decide ((fi.length : Int) ≤ i)) := hp15 9 rfl rfl
          have s24 : f15 19 = undef := hp15 14 rfl rfl
          refine gn rfl rfl s23 b1 ?_
          exact ⟨_, rfl, Ext.refl _, rfl⟩
        refine ⟨fun _ => ⟨fun f16 w16 hf16 xt16 hp16 => ?_, fun _ _ _ _ h => h⟩, ?_⟩
        ·
          have H19 := H2.ext xt16
          have s25 : f16 14 = .bool (decide ((fi.length : Int) ≤ i)) := hp16 9 rfl rfl
          have s26 : f16 20 = undef := hp16 15 rfl rfl
          refine gn rfl rfl s25 b1 ?_
          exact ⟨_, rfl, Ext.refl _, rfl⟩
        refine ⟨fun _ => ⟨fun f17 w17 hf17 xt17 hp17 => ?_, fun _ _ _ _ h => h⟩, ?_⟩
        ·
          have H20 := H2.ext xt17
          have s27 : f17 14 = .bool (decide ((fi.length : Int) ≤ i)) := hp17 9 rfl rfl
          have s28 : f17 21 = undef := hp17 16 rfl rfl
          refine pickT rfl rfl rfl s27 b1 rfl ?_
          exact ⟨_, rfl, Ext.refl _, rfl⟩
        refine ⟨fun _ => ⟨fun f18 w18 hf18 xt18 hp18 => ?_, fun _ _ _ _ h => h⟩, ?_⟩
        ·
          have H21 := H2.ext xt18
          have s29 : f18 22 = .bool true := hp18 17 rfl rfl
          refine mv rfl s29 ?_
          exact ⟨_, rfl, Ext.refl _, rfl⟩
        refine ⟨fun _ => ⟨fun f19 w19 hf19 xt19 hp19 => ?_, fun _ _ _ _ h => h⟩, ?_⟩
        ·
          have H22 := H2.ext xt19
          have s30 : f19 23 = .bool true := hp19 18 rfl rfl
          refine gn rfl rfl s30 rfl ?_
          exact ⟨_, rfl, Ext.refl _, rfl⟩
        refine ⟨fun _ => ⟨fun f20 w20 hf20 xt20 hp20 => ?_, fun _ _ _ _ h => h⟩, ?_⟩
        ·
          have H23 := H2.ext xt20
          have s31 : f20 23 = .bool true := hp20 18 rfl rfl
          have s32 : f20 24 = undef := hp20 19 rfl rfl
          refine gn rfl rfl s31 rfl ?_
          exact ⟨_, rfl, Ext.refl _, rfl⟩
        refine ⟨fun _ => ⟨fun f21 w21 hf21 xt21 hp21 => ?_, fun _ _ _ _ h => h⟩, ?_⟩
        ·
          have H24 := H2.ext xt21
          have s33 : f21 23 = .bool true := hp21 18 rfl rfl
          refine gn rfl rfl s33 rfl ?_
          exact ⟨_, rfl, Ext.refl _, rfl⟩
        refine ⟨fun _ => ⟨fun f22 w22 hf22 xt22 hp22 => ?_, fun _ _ _ _ h => h⟩, ?_⟩
        ·
          have H25 := H2.ext xt22
          have s34 : f22 23 = .bool true := hp22 18 rfl rfl
          have s35 : f22 25 = undef := hp22 20 rfl rfl
          have s36 : f22 26 = undef := hp22 21 rfl rfl
          refine gn rfl rfl s34 rfl ?_
          exact ⟨_, rfl, Ext.refl _, rfl⟩
        refine ⟨fun _ => ⟨fun f23 w23 hf23 xt23 hp23 => ?_, fun _ _ _ _ h => h⟩, ?_⟩
        ·
          have H26 := H2.ext xt23
          have s37 : f23 23 = .bool true := hp23 18 rfl rfl
          have s38 : f23 27 = undef := hp23 22 rfl rfl
          refine gn rfl rfl s37 rfl ?_
          exact ⟨_, rfl, Ext.refl _, rfl⟩
        refine ⟨fun _ => ⟨fun f24 w24 hf24 xt24 hp24 => ?_, fun _ _ _ _ h => h⟩, ?_⟩
        ·
          have H27 := H2.ext xt24
          have s39 : f24 23 = .bool true := hp24 18 rfl rfl
          have s40 : f24 28 = undef := hp24 23 rfl rfl
          refine gn rfl rfl s39 rfl ?_
          exact ⟨_, rfl, Ext.refl _, rfl⟩
        refine ⟨fun _ => ⟨fun f25 w25 hf25 xt25 hp25 => ?_, fun _ _ _ _ h => h⟩, ?_⟩
        ·
          have H28 := H2.ext xt25
          have s41 : f25 23 = .bool true := hp25 18 rfl rfl
          refine gn rfl rfl s41 rfl ?_
          exact ⟨_, rfl, Ext.refl _, rfl⟩
        exact DSteps.rest rfl _
      · intro f26 w26 hf26 xt26 hp26
        have H29 := H2.ext xt26
        have s42 : f26 23 = .bool true := hp26 18 rfl
        have s43 : f26 29 = undef := hp26 24 rfl
        have s44 : f26 30 = undef := hp26 25 rfl
        refine k (gn rfl rfl s42 rfl (k (pickT rfl rfl rfl s42 rfl rfl (k (asg (v := .bool true) rfl rfl (z (nx (rt (r1 rfl rfl ?_)))))))))
        have e0 : (true : Bool) = wrB fi vr i := by first | exact (wrB_neg (by assumption)).symm | exact (wrB_out (by assumption)).symm | (rw [wrB_at (by assumption) hx0]; simp_all)
        have ev_ := cg1 (fun (x_0 : Bool) => (.bool x_0 : Value)) e0
        exact ⟨ev_, H29.below⟩
    · -- decide ((fi.length : Int) ≤ i) is False
      have p1 := of_decide_eq_false b1
      obtain ⟨x0, hx0⟩ : ∃ x, fi[i.toNat]? = some x := ⟨_, List.getElem?_eq_getElem (by first | omega | (simp; omega))⟩
      rcases Bool.eq_false_or_eq_true (!x0.2.2.1) with b2 | b2
      · -- !x0.2.2.1 is True
        refine dr 26 [fun (v : Value) (w' : World) => v = .int .i64 i, fun (v : Value) (w' : World) => v = .bool (decide (i < 0)), fun (v : Value) (w' : World) => v = .bool (decide (i < 0)), fun (v : Value) (w' : World) => v = .int .i64 i, fun (v : Value) (w' : World) => v = .pointer (some ⟨b_b, 1, none⟩), fun (v : Value) (w' : World) => v = .slice a_fi fi.length c_fi, fun (v : Value) (w' : World) => v = .int .i64 (fi.length : Int), fun (v : Value) (w' : World) => v = .bool (decide ((fi.length : Int) ≤ i)), fun (v : Value) (w' : World) => v = .bool (decide ((fi.length : Int) ≤ i)), fun (v : Value) (w' : World) => v = .bool (decide ((fi.length : Int) ≤ i)), fun (v : Value) (w' : World) => v = .pointer (some ⟨b_b, 1, none⟩), fun (v : Value) (w' : World) => v = .slice a_fi fi.length c_fi, fun (v : Value) (w' : World) => v = .int .i64 i, fun (v : Value) (w' : World) => ∃ (ad1 : Addr), v = .pointer (some ad1) ∧ At (MS M [ro b_c #[.int .i64 vr] ty_c, ro b_b #[.slice a_fv n_fv c_fv, .slice a_fi fi.length c_fi, .slice a_fo n_fo c_fo] ty_b, imm (.slice a_fi fi.length c_fi) fi]) w' ad1 x0, fun (v : Value) (w' : World) => ∃ (ad1 : Addr), v = .pointer (some ((ad1).add 2)) ∧ At (MS M [ro b_c #[.int .i64 vr] ty_c, ro b_b #[.slice a_fv n_fv c_fv, .slice a_fi fi.length c_fi, .slice a_fo n_fo c_fo] ty_b, imm (.slice a_fi fi.length c_fi) fi]) w' ad1 x0, fun (v : Value) (w' : World) => v = .bool x0.2.2.1, fun (v : Value) (w' : World) => v = .bool (!x0.2.2.1), fun (v : Value) (w' : World) => v = .bool (!x0.2.2.1), fun (v : Value) (w' : World) => v = .bool (!x0.2.2.1), fun (v : Value) (_ : World) => v = undef, fun (v : Value) (_ : World) => v = undef, fun (v : Value) (_ : World) => v = undef, fun (v : Value) (_ : World) => v = undef, fun (v : Value) (_ : World) => v = undef, fun (v : Value) (_ : World) => v = undef, fun (v : Value) (_ : World) => v = undef] rfl (by kernel_rfl) ?_ ?_
        ·
          refine ⟨fun _ => ⟨fun f0 w0 hf0 xt0 hp0 => ?_, fun _ _ _ _ h => h⟩, ?_⟩
          ·
            have H3 := H2.ext xt0
            refine mv rfl ((hf0 0 rfl).trans i0) ?_
            exact ⟨_, rfl, Ext.refl _, rfl⟩
          refine ⟨fun _ => ⟨fun f1 w1 hf1 xt1 hp1 => ?_, fun _ _ _ _ h => h⟩, ?_⟩
          ·
            have H4 := H2.ext xt1
            have s0 : f1 5 = .int .i64 i := hp1 0 rfl rfl
            refine lss rfl rfl s0 rfl ?_
            exact ⟨_, rfl, Ext.refl _, rfl⟩
          refine ⟨fun _ => ⟨fun f2 w2 hf2 xt2 hp2 => ?_, fun _ _ _ _ h => h⟩, ?_⟩
          ·
            have H5 := H2.ext xt2
            have s1 : f2 6 = .bool (decide (i < 0)) := hp2 1 rfl rfl
            refine mv rfl s1 ?_
            exact ⟨_, rfl, Ext.refl _, rfl⟩
          refine ⟨fun _ => ⟨fun f3 w3 hf3 xt3 hp3 => ?_, fun _ _ _ _ h => h⟩, ?_⟩
          ·
            have H6 := H2.ext xt3
            have s2 : f3 7 = .bool (decide (i < 0)) := hp3 2 rfl rfl
            refine gy rfl rfl s2 b0 (mv rfl ((hf3 0 rfl).trans i0) ?_)
            exact ⟨_, rfl, Ext.refl _, rfl⟩
          refine ⟨fun _ => ⟨fun f4 w4 hf4 xt4 hp4 => ?_, fun _ _ _ _ h => h⟩, ?_⟩
          ·
            have H7 := H2.ext xt4
            have s3 : f4 7 = .bool (decide (i < 0)) := hp4 2 rfl rfl
            refine gy rfl rfl s3 b0 (fa fl66_1 rfl ((hf4 1 rfl).trans i1) ?_)
            exact ⟨_, rfl, Ext.refl _, rfl⟩
          refine ⟨fun _ => ⟨fun f5 w5 hf5 xt5 hp5 => ?_, fun _ _ _ _ h => h⟩, ?_⟩
          ·
            have H8 := H2.ext xt5
            have s4 : f5 7 = .bool (decide (i < 0)) := hp5 2 rfl rfl
            have s5 : f5 9 = .pointer (some ⟨b_b, 1, none⟩) := hp5 4 rfl rfl
            refine gy rfl rfl s4 b0 (ldR H8 1 rfl ty64 rfl s5 (by decide) rfl ?_)
            exact ⟨_, rfl, Ext.refl _, rfl⟩
          refine ⟨fun _ => ⟨fun f6 w6 hf6 xt6 hp6 => ?_, fun _ _ _ _ h => h⟩, ?_⟩
          ·
            have H9 := H2.ext xt6
            have s6 : f6 7 = .bool (decide (i < 0)) := hp6 2 rfl rfl
            have s7 : f6 10 = .slice a_fi fi.length c_fi := hp6 5 rfl rfl
            refine gy rfl rfl s6 b0 (lnS rfl s7 un64 ?_)
            exact ⟨_, rfl, Ext.refl _, rfl⟩
          refine ⟨fun _ => ⟨fun f7 w7 hf7 xt7 hp7 => ?_, fun _ _ _ _ h => h⟩, ?_⟩
          ·
            have H10 := H2.ext xt7
            have s8 : f7 7 = .bool (decide (i < 0)) := hp7 2 rfl rfl
            have s9 : f7 8 = .int .i64 i := hp7 3 rfl rfl
            have s10 : f7 11 = .int .i64 (fi.length : Int) := hp7 6 rfl rfl
            refine gy rfl rfl s8 b0 (geq rfl rfl s9 s10 ?_)
            exact ⟨_, rfl, Ext.refl _, rfl⟩
          refine ⟨fun _ => ⟨fun f8 w8 hf8 xt8 hp8 => ?_, fun _ _ _ _ h => h⟩, ?_⟩
          ·
            have H11 := H2.ext xt8
            have s11 : f8 7 = .bool (decide (i < 0)) := hp8 2 rfl rfl
            have s12 : f8 12 = .bool (decide ((fi.length : Int) ≤ i)) := hp8 7 rfl rfl
            refine pickF rfl rfl rfl s11 b0 s12 ?_
            exact ⟨_, rfl, Ext.refl _, rfl⟩
          refine ⟨fun _ => ⟨fun f9 w9 hf9 xt9 hp9 => ?_, fun _ _ _ _ h => h⟩, ?_⟩
          ·
            have H12 := H2.ext xt9
            have s13 : f9 13 = .bool (decide ((fi.length : Int) ≤ i)) := hp9 8 rfl rfl
            refine mv rfl s13 ?_
            exact ⟨_, rfl, Ext.refl _, rfl⟩
          refine ⟨fun _ => ⟨fun f10 w10 hf10 xt10 hp10 => ?_, fun _ _ _ _ h => h⟩, ?_⟩
          ·
            have H13 := H2.ext xt10
            have s14 : f10 14 = .bool (decide ((fi.length : Int) ≤ i)) := hp10 9 rfl rfl
            refine gy rfl rfl s14 b1 (fa fl66_1 rfl ((hf10 1 rfl).trans i1) ?_)
            exact ⟨_, rfl, Ext.refl _, rfl⟩
          refine ⟨fun _ => ⟨fun f11 w11 hf11 xt11 hp11 => ?_, fun _ _ _ _ h => h⟩, ?_⟩
          ·
            have H14 := H2.ext xt11
            have s15 : f11 14 = .bool (decide ((fi.length : Int) ≤ i)) := hp11 9 rfl rfl
            have s16 : f11 15 = .pointer (some ⟨b_b, 1, none⟩) := hp11 10 rfl rfl
            refine gy rfl rfl s15 b1 (ldR H14 1 rfl ty64 rfl s16 (by decide) rfl ?_)
            exact ⟨_, rfl, Ext.refl _, rfl⟩
          refine ⟨fun _ => ⟨fun f12 w12 hf12 xt12 hp12 => ?_, fun _ _ _ _ h => h⟩, ?_⟩
          ·
            have H15 := H2.ext xt12
            have s17 : f12 14 = .bool (decide ((fi.length : Int) ≤ i)) := hp12 9 rfl rfl
            refine gy rfl rfl s17 b1 (mv rfl ((hf12 0 rfl).trans i0) ?_)
            exact ⟨_, rfl, Ext.refl _, rfl⟩
          refine ⟨fun _ => ⟨fun f13 w13 hf13 xt13 hp13 => ?_, by rintro _ _ _ x_ ⟨ad1, e_, hA1⟩; exact ⟨ad1, e_, hA1.lift (Up.ext x_)⟩⟩, ?_⟩
          ·
            have H16 := H2.ext xt13
            have s18 : f13 14 = .bool (decide ((fi.length : Int) ≤ i)) := hp13 9 rfl rfl
            have s19 : f13 16 = .slice a_fi fi.length c_fi := hp13 11 rfl rfl
            have s20 : f13 17 = .int .i64 i := hp13 12 rfl rfl
            refine gy rfl rfl s18 b1 (ia (H16.rv 2 rfl) rfl rfl s19 s20 (by first | omega | (simp; omega)) un64 ty102 ?_)
            intro ad2 x2 hx2 hA2
            obtain rfl : x0 = x2 := Option.some.inj (hx0.symm.trans hx2)
            exact ⟨_, rfl, Ext.refl _, ⟨ad2, rfl, hA2⟩⟩
          refine ⟨fun _ => ⟨fun f14 w14 hf14 xt14 hp14 => ?_, by rintro _ _ _ x_ ⟨ad1, e_, hA1⟩; exact ⟨ad1, e_, hA1.lift (Up.ext x_)⟩⟩, ?_⟩
          ·
            have H17 := H2.ext xt14
            have s21 : f14 14 = .bool (decide ((fi.length : Int) ≤ i)) := hp14 9 rfl rfl
            obtain ⟨ad3, s22, hA3⟩ : ∃ (ad3 : Addr), f14 18 = .pointer (some ad3) ∧ At (MS M [ro b_c #[.int .i64 vr] ty_c, ro b_b #[.slice a_fv n_fv c_fv, .slice a_fi fi.length c_fi, .slice a_fo n_fo c_fo] ty_b, imm (.slice a_fi fi.length c_fi) fi]) w14 ad3 x0 := hp14 13 rfl rfl
            have H18 := H17.put (it := atI ad3 x0) rfl hA3
            refine gy rfl rfl s21 b1 (fa fl102_2 rfl s22 ?_)
            exact ⟨_, rfl, Ext.refl _, ⟨ad3, rfl, (by assumption)⟩⟩
          refine ⟨fun _ => ⟨fun f15 w15 hf15 xt15 hp15 => ?_, fun _ _ _ _ h => h⟩, ?_⟩
          ·
            have H19 := H2.ext xt15
            have s23 : f15 14 = .bool (decide ((fi.length : Int) ≤ i)) := hp15 9 rfl rfl
            obtain ⟨ad4, s24, hA4⟩ : ∃ (ad4 : Addr), f15 19 = .pointer (some ((ad4).add 2)) ∧ At (MS M [ro b_c #[.int .i64 vr] ty_c, ro b_b #[.slice a_fv n_fv c_fv, .slice a_fi fi.length c_fi, .slice a_fo n_fo c_fo] ty_b, imm (.slice a_fi fi.length c_fi) fi]) w15 ad4 x0 := hp15 14 rfl rfl
            have H20 := H19.put (it := atI ad4 x0) rfl hA4
            refine gy rfl rfl s23 b1 (ldB (((H20.atv 0 rfl)).s2).fst.w ty4 rfl s24 ?_)
            exact ⟨_, rfl, Ext.refl _, rfl⟩
          refine ⟨fun _ => ⟨fun f16 w16 hf16 xt16 hp16 => ?_, fun _ _ _ _ h => h⟩, ?_⟩
          ·
            have H21 := H2.ext xt16
            have s25 : f16 14 = .bool (decide ((fi.length : Int) ≤ i)) := hp16 9 rfl rfl
            have s26 : f16 20 = .bool x0.2.2.1 := hp16 15 rfl rfl
            refine gy rfl rfl s25 b1 (not_ rfl s26 ?_)
            exact ⟨_, rfl, Ext.refl _, rfl⟩
          refine ⟨fun _ => ⟨fun f17 w17 hf17 xt17 hp17 => ?_, fun _ _ _ _ h => h⟩, ?_⟩
          ·
            have H22 := H2.ext xt17
            have s27 : f17 14 = .bool (decide ((fi.length : Int) ≤ i)) := hp17 9 rfl rfl
            have s28 : f17 21 = .bool (!x0.2.2.1) := hp17 16 rfl rfl
            refine pickF rfl rfl rfl s27 b1 s28 ?_
            exact ⟨_, rfl, Ext.refl _, rfl⟩
          refine ⟨fun _ => ⟨fun f18 w18 hf18 xt18 hp18 => ?_, fun _ _ _ _ h => h⟩, ?_⟩
          ·
            have H23 := H2.ext xt18
            have s29 : f18 22 = .bool (!x0.2.2.1) := hp18 17 rfl rfl
            refine mv rfl s29 ?_
            exact ⟨_, rfl, Ext.refl _, rfl⟩
          refine ⟨fun _ => ⟨fun f19 w19 hf19 xt19 hp19 => ?_, fun _ _ _ _ h => h⟩, ?_⟩
          ·
            have H24 := H2.ext xt19
            have s30 : f19 23 = .bool (!x0.2.2.1) := hp19 18 rfl rfl
            refine gn rfl rfl s30 b2 ?_
            exact ⟨_, rfl, Ext.refl _, rfl⟩
          refine ⟨fun _ => ⟨fun f20 w20 hf20 xt20 hp20 => ?_, fun _ _ _ _ h => h⟩, ?_⟩
          ·
            have H25 := H2.ext xt20
            have s31 : f20 23 = .bool (!x0.2.2.1) := hp20 18 rfl rfl
            have s32 : f20 24 = undef := hp20 19 rfl rfl
            refine gn rfl rfl s31 b2 ?_
            exact ⟨_, rfl, Ext.refl _, rfl⟩
          refine ⟨fun _ => ⟨fun f21 w21 hf21 xt21 hp21 => ?_, fun _ _ _ _ h => h⟩, ?_⟩
          ·
            have H26 := H2.ext xt21
            have s33 : f21 23 = .bool (!x0.2.2.1) := hp21 18 rfl rfl
            refine gn rfl rfl s33 b2 ?_
            exact ⟨_, rfl, Ext.refl _, rfl⟩
          refine ⟨fun _ => ⟨fun f22 w22 hf22 xt22 hp22 => ?_, fun _ _ _ _ h => h⟩, ?_⟩
          ·
            have H27 := H2.ext xt22
            have s34 : f22 23 = .bool (!x0.2.2.1) := hp22 18 rfl rfl
            have s35 : f22 25 = undef := hp22 20 rfl rfl
            have s36 : f22 26 = undef := hp22 21 rfl rfl
            refine gn rfl rfl s34 b2 ?_
            exact ⟨_, rfl, Ext.refl _, rfl⟩
          refine ⟨fun _ => ⟨fun f23 w23 hf23 xt23 hp23 => ?_, fun _ _ _ _ h => h⟩, ?_⟩
          ·
            have H28 := H2.ext xt23
            have s37 : f23 23 = .bool (!x0.2.2.1) := hp23 18 rfl rfl
            have s38 : f23 27 = undef := hp23 22 rfl rfl
            refine gn rfl rfl s37 b2 ?_
            exact ⟨_, rfl, Ext.refl _, rfl⟩
          refine ⟨fun _ => ⟨fun f24 w24 hf24 xt24 hp24 => ?_, fun _ _ _ _ h => h⟩, ?_⟩
          ·
            have H29 := H2.ext xt24
            have s39 : f24 23 = .bool (!x0.2.2.1) := hp24 18 rfl rfl
            have s40 : f24 28 = undef := hp24 23 rfl rfl
            refine gn rfl rfl s39 b2 ?_
            exact ⟨_, rfl, Ext.refl _, rfl⟩
          refine ⟨fun _ => ⟨fun f25 w25 hf25 xt25 hp25 => ?_, fun _ _ _ _ h => h⟩, ?_⟩
          ·
            have H30 := H2.ext xt25
            have s41 : f25 23 = .bool (!x0.2.2.1) := hp25 18 rfl rfl
            refine gn rfl rfl s41 b2 ?_
            exact ⟨_, rfl, Ext.refl _, rfl⟩
          exact DSteps.rest rfl _
        · intro f26 w26 hf26 xt26 hp26
          have H31 := H2.ext xt26
          have s42 : f26 23 = .bool (!x0.2.2.1) := hp26 18 rfl
          have s43 : f26 29 = undef := hp26 24 rfl
          have s44 : f26 30 = undef := hp26 25 rfl
          refine k (gn rfl rfl s42 b2 (k (pickT rfl rfl rfl s42 b2 rfl (k (asg (v := .bool true) rfl rfl (z (nx (rt (r1 rfl rfl ?_)))))))))
          have e0 : (true : Bool) = wrB fi vr i := by first | exact (wrB_neg (by assumption)).symm | exact (wrB_out (by assumption)).symm | (rw [wrB_at (by assumption) hx0]; simp_all)
          have ev_ := cg1 (fun (x_0 : Bool) => (.bool x_0 : Value)) e0
          exact ⟨ev_, H31.below⟩
      · -- !x0.2.2.1 is False
        refine dr 26 [fun (v : Value) (w' : World) => v = .int .i64 i, fun (v : Value) (w' : World) => v = .bool (decide (i < 0)), fun (v : Value) (w' : World) => v = .bool (decide (i < 0)), fun (v : Value) (w' : World) => v = .int .i64 i, fun (v : Value) (w' : World) => v = .pointer (some ⟨b_b, 1, none⟩), fun (v : Value) (w' : World) => v = .slice a_fi fi.length c_fi, fun (v : Value) (w' : World) => v = .int .i64 (fi.length : Int), fun (v : Value) (w' : World) => v = .bool (decide ((fi.length : Int) ≤ i)), fun (v : Value) (w' : World) => v = .bool (decide ((fi.length : Int) ≤ i)), fun (v : Value) (w' : World) => v = .bool (decide ((fi.length : Int) ≤ i)), fun (v : Value) (w' : World) => v = .pointer (some ⟨b_b, 1, none⟩), fun (v : Value) (w' : World) => v = .slice a_fi fi.length c_fi, fun (v : Value) (w' : World) => v = .int .i64 i, fun (v : Value) (w' : World) => ∃ (ad1 : Addr), v = .pointer (some ad1) ∧ At (MS M [ro b_c #[.int .i64 vr] ty_c, ro b_b #[.slice a_fv n_fv c_fv, .slice a_fi fi.length c_fi, .slice a_fo n_fo c_fo] ty_b, imm (.slice a_fi fi.length c_fi) fi]) w' ad1 x0, fun (v : Value) (w' : World) => ∃ (ad1 : Addr), v = .pointer (some ((ad1).add 2)) ∧ At (MS M [ro b_c #[.int .i64 vr] ty_c, ro b_b #[.slice a_fv n_fv c_fv, .slice a_fi fi.length c_fi, .slice a_fo n_fo c_fo] ty_b, imm (.slice a_fi fi.length c_fi) fi]) w' ad1 x0, fun (v : Value) (w' : World) => v = .bool x0.2.2.1, fun (v : Value) (w' : World) => v = .bool (!x0.2.2.1), fun (v : Value) (w' : World) => v = .bool (!x0.2.2.1), fun (v : Value) (w' : World) => v = .bool (!x0.2.2.1), fun (v : Value) (w' : World) => v = .pointer (some ⟨b_b, 1, none⟩), fun (v : Value) (w' : World) => v = .slice a_fi fi.length c_fi, fun (v : Value) (w' : World) => v = .int .i64 i, fun (v : Value) (w' : World) => ∃ (ad2 : Addr), v = .pointer (some ad2) ∧ At (MS M [ro b_c #[.int .i64 vr] ty_c, ro b_b #[.slice a_fv n_fv c_fv, .slice a_fi fi.length c_fi, .slice a_fo n_fo c_fo] ty_b, imm (.slice a_fi fi.length c_fi) fi]) w' ad2 x0, fun (v : Value) (w' : World) => ∃ (ad2 : Addr), v = .pointer (some ((ad2).add 3)) ∧ At (MS M [ro b_c #[.int .i64 vr] ty_c, ro b_b #[.slice a_fv n_fv c_fv, .slice a_fi fi.length c_fi, .slice a_fo n_fo c_fo] ty_b, imm (.slice a_fi fi.length c_fi) fi]) w' ad2 x0, fun (v : Value) (w' : World) => v = .int .i64 x0.2.2.2.1 ∧ I64 (x0.2.2.2.1), fun (v : Value) (w' : World) => v = .int .i64 vr] rfl (by kernel_rfl) ?_ ?_
        ·
          refine ⟨fun _ => ⟨fun f0 w0 hf0 xt0 hp0 => ?_, fun _ _ _ _ h => h⟩, ?_⟩
          ·
            have H3 := H2.ext xt0
            refine mv rfl ((hf0 0 rfl).trans i0) ?_
            exact ⟨_, rfl, Ext.refl _, rfl⟩
          refine ⟨fun _ => ⟨fun f1 w1 hf1 xt1 hp1 => ?_, fun _ _ _ _ h => h⟩, ?_⟩
          ·
            have H4 := H2.ext xt1
            have s0 : f1 5 = .int .i64 i := hp1 0 rfl rfl
            refine lss rfl rfl s0 rfl ?_
            exact ⟨_, rfl, Ext.refl _, rfl⟩
          refine ⟨fun _ => ⟨fun f2 w2 hf2 xt2 hp2 => ?_, fun _ _ _ _ h => h⟩, ?_⟩
          ·
            have H5 := H2.ext xt2
            have s1 : f2 6 = .bool (decide (i < 0)) := hp2 1 rfl rfl
            refine mv rfl s1 ?_
            exact ⟨_, rfl, Ext.refl _, rfl⟩
          refine ⟨fun _ => ⟨fun f3 w3 hf3 xt3 hp3 => ?_, fun _ _ _ _ h => h⟩, ?_⟩
          ·
            have H6 := H2.ext xt3
            have s2 : f3 7 = .bool (decide (i < 0)) := hp3 2 rfl rfl
            refine gy rfl rfl s2 b0 (mv rfl ((hf3 0 rfl).trans i0) ?_)
            exact ⟨_, rfl, Ext.refl _, rfl⟩
          refine ⟨fun _ => ⟨fun f4 w4 hf4 xt4 hp4 => ?_, fun _ _ _ _ h => h⟩, ?_⟩
          ·
            have H7 := H2.ext xt4
            have s3 : f4 7 = .bool (decide (i < 0)) := hp4 2 rfl rfl
            refine gy rfl rfl s3 b0 (fa fl66_1 rfl ((hf4 1 rfl).trans i1) ?_)
            exact ⟨_, rfl, Ext.refl _, rfl⟩
          refine ⟨fun _ => ⟨fun f5 w5 hf5 xt5 hp5 => ?_, fun _ _ _ _ h => h⟩, ?_⟩
          ·
            have H8 := H2.ext xt5
            have s4 : f5 7 = .bool (decide (i < 0)) := hp5 2 rfl rfl
            have s5 : f5 9 = .pointer (some ⟨b_b, 1, none⟩) := hp5 4 rfl rfl
            refine gy rfl rfl s4 b0 (ldR H8 1 rfl ty64 rfl s5 (by decide) rfl ?_)
            exact ⟨_, rfl, Ext.refl _, rfl⟩
          refine ⟨fun _ => ⟨fun f6 w6 hf6 xt6 hp6 => ?_, fun _ _ _ _ h => h⟩, ?_⟩
          ·
            have H9 := H2.ext xt6
            have s6 : f6 7 = .bool (decide (i < 0)) := hp6 2 rfl rfl
            have s7 : f6 10 = .slice a_fi fi.length c_fi := hp6 5 rfl rfl
            refine gy rfl rfl s6 b0 (lnS rfl s7 un64 ?_)
            exact ⟨_, rfl, Ext.refl _, rfl⟩
          refine ⟨fun _ => ⟨fun f7 w7 hf7 xt7 hp7 => ?_, fun _ _ _ _ h => h⟩, ?_⟩
          ·
            have H10 := H2.ext xt7
            have s8 : f7 7 = .bool (decide (i < 0)) := hp7 2 rfl rfl
            have s9 : f7 8 = .int .i64 i := hp7 3 rfl rfl
            have s10 : f7 11 = .int .i64 (fi.length : Int) := hp7 6 rfl rfl
            refine gy rfl rfl s8 b0 (geq rfl rfl s9 s10 ?_)
            exact ⟨_, rfl, Ext.refl _, rfl⟩
          refine ⟨fun _ => ⟨fun f8 w8 hf8 xt8 hp8 => ?_, fun _ _ _ _ h => h⟩, ?_⟩
          ·
            have H11 := H2.ext xt8
            have s11 : f8 7 = .bool (decide (i < 0)) := hp8 2 rfl rfl
            have s12 : f8 12 = .bool (decide ((fi.length : Int) ≤ i)) := hp8 7 rfl rfl
            refine pickF rfl rfl rfl s11 b0 s12 ?_
            exact ⟨_, rfl, Ext.refl _, rfl⟩
          refine ⟨fun _ => ⟨fun f9 w9 hf9 xt9 hp9 => ?_, fun _ _ _ _ h => h⟩, ?_⟩
          ·
            have H12 := H2.ext xt9
            have s13 : f9 13 = .bool (decide ((fi.length : Int) ≤ i)) := hp9 8 rfl rfl
            refine mv rfl s13 ?_
            exact ⟨_, rfl, Ext.refl _, rfl⟩
          refine ⟨fun _ => ⟨fun f10 w10 hf10 xt10 hp10 => ?_, fun _ _ _ _ h => h⟩, ?_⟩
          ·
            have H13 := H2.ext xt10
            have s14 : f10 14 = .bool (decide ((fi.length : Int) ≤ i)) := hp10 9 rfl rfl
            refine gy rfl rfl s14 b1 (fa fl66_1 rfl ((hf10 1 rfl).trans i1) ?_)
            exact ⟨_, rfl, Ext.refl _, rfl⟩
          refine ⟨fun _ => ⟨fun f11 w11 hf11 xt11 hp11 => ?_, fun _ _ _ _ h => h⟩, ?_⟩
          ·
            have H14 := H2.ext xt11
            have s15 : f11 14 = .bool (decide ((fi.length : Int) ≤ i)) := hp11 9 rfl rfl
            have s16 : f11 15 = .pointer (some ⟨b_b, 1, none⟩) := hp11 10 rfl rfl
            refine gy rfl rfl s15 b1 (ldR H14 1 rfl ty64 rfl s16 (by decide) rfl ?_)
            exact ⟨_, rfl, Ext.refl _, rfl⟩
          refine ⟨fun _ => ⟨fun f12 w12 hf12 xt12 hp12 => ?_, fun _ _ _ _ h => h⟩, ?_⟩
          ·
            have H15 := H2.ext xt12
            have s17 : f12 14 = .bool (decide ((fi.length : Int) ≤ i)) := hp12 9 rfl rfl
            refine gy rfl rfl s17 b1 (mv rfl ((hf12 0 rfl).trans i0) ?_)
            exact ⟨_, rfl, Ext.refl _, rfl⟩
          refine ⟨fun _ => ⟨fun f13 w13 hf13 xt13 hp13 => ?_, by rintro _ _ _ x_ ⟨ad1, e_, hA1⟩; exact ⟨ad1, e_, hA1.lift (Up.ext x_)⟩⟩, ?_⟩
          ·
            have H16 := H2.ext xt13
            have s18 : f13 14 = .bool (decide ((fi.length : Int) ≤ i)) := hp13 9 rfl rfl
            have s19 : f13 16 = .slice a_fi fi.length c_fi := hp13 11 rfl rfl
            have s20 : f13 17 = .int .i64 i := hp13 12 rfl rfl
            refine gy rfl rfl s18 b1 (ia (H16.rv 2 rfl) rfl rfl s19 s20 (by first | omega | (simp; omega)) un64 ty102 ?_)
            intro ad3 x3 hx3 hA3
            obtain rfl : x0 = x3 := Option.some.inj (hx0.symm.trans hx3)
            exact ⟨_, rfl, Ext.refl _, ⟨ad3, rfl, hA3⟩⟩
          refine ⟨fun _ => ⟨fun f14 w14 hf14 xt14 hp14 => ?_, by rintro _ _ _ x_ ⟨ad1, e_, hA1⟩; exact ⟨ad1, e_, hA1.lift (Up.ext x_)⟩⟩, ?_⟩
          ·
            have H17 := H2.ext xt14
            have s21 : f14 14 = .bool (decide ((fi.length : Int) ≤ i)) := hp14 9 rfl rfl
            obtain ⟨ad4, s22, hA4⟩ : ∃ (ad4 : Addr), f14 18 = .pointer (some ad4) ∧ At (MS M [ro b_c #[.int .i64 vr] ty_c, ro b_b #[.slice a_fv n_fv c_fv, .slice a_fi fi.length c_fi, .slice a_fo n_fo c_fo] ty_b, imm (.slice a_fi fi.length c_fi) fi]) w14 ad4 x0 := hp14 13 rfl rfl
            have H18 := H17.put (it := atI ad4 x0) rfl hA4
            refine gy rfl rfl s21 b1 (fa fl102_2 rfl s22 ?_)
            exact ⟨_, rfl, Ext.refl _, ⟨ad4, rfl, (by assumption)⟩⟩
          refine ⟨fun _ => ⟨fun f15 w15 hf15 xt15 hp15 => ?_, fun _ _ _ _ h => h⟩, ?_⟩
          ·
            have H19 := H2.ext xt15
            have s23 : f15 14 = .bool (decide ((fi.length : Int) ≤ i)) := hp15 9 rfl rfl
            obtain ⟨ad5, s24, hA5⟩ : ∃ (ad5 : Addr), f15 19 = .pointer (some ((ad5).add 2)) ∧ At (MS M [ro b_c #[.int .i64 vr] ty_c, ro b_b #[.slice a_fv n_fv c_fv, .slice a_fi fi.length c_fi, .slice a_fo n_fo c_fo] ty_b, imm (.slice a_fi fi.length c_fi) fi]) w15 ad5 x0 := hp15 14 rfl rfl
            have H20 := H19.put (it := atI ad5 x0) rfl hA5
            refine gy rfl rfl s23 b1 (ldB (((H20.atv 0 rfl)).s2).fst.w ty4 rfl s24 ?_)
            exact ⟨_, rfl, Ext.refl _, rfl⟩
          refine ⟨fun _ => ⟨fun f16 w16 hf16 xt16 hp16 => ?_, fun _ _ _ _ h => h⟩, ?_⟩
          ·
            have H21 := H2.ext xt16
            have s25 : f16 14 = .bool (decide ((fi.length : Int) ≤ i)) := hp16 9 rfl rfl
            have s26 : f16 20 = .bool x0.2.2.1 := hp16 15 rfl rfl
            refine gy rfl rfl s25 b1 (not_ rfl s26 ?_)
            exact ⟨_, rfl, Ext.refl _, rfl⟩
          refine ⟨fun _ => ⟨fun f17 w17 hf17 xt17 hp17 => ?_, fun _ _ _ _ h => h⟩, ?_⟩
          ·
            have H22 := H2.ext xt17
            have s27 : f17 14 = .bool (decide ((fi.length : Int) ≤ i)) := hp17 9 rfl rfl
            have s28 : f17 21 = .bool (!x0.2.2.1) := hp17 16 rfl rfl
            refine pickF rfl rfl rfl s27 b1 s28 ?_
            exact ⟨_, rfl, Ext.refl _, rfl⟩
          refine ⟨fun _ => ⟨fun f18 w18 hf18 xt18 hp18 => ?_, fun _ _ _ _ h => h⟩, ?_⟩
          ·
            have H23 := H2.ext xt18
            have s29 : f18 22 = .bool (!x0.2.2.1) := hp18 17 rfl rfl
            refine mv rfl s29 ?_
            exact ⟨_, rfl, Ext.refl _, rfl⟩
          refine ⟨fun _ => ⟨fun f19 w19 hf19 xt19 hp19 => ?_, fun _ _ _ _ h => h⟩, ?_⟩
          ·
            have H24 := H2.ext xt19
            have s30 : f19 23 = .bool (!x0.2.2.1) := hp19 18 rfl rfl
            refine gy rfl rfl s30 b2 (fa fl66_1 rfl ((hf19 1 rfl).trans i1) ?_)
            exact ⟨_, rfl, Ext.refl _, rfl⟩
          refine ⟨fun _ => ⟨fun f20 w20 hf20 xt20 hp20 => ?_, fun _ _ _ _ h => h⟩, ?_⟩
          ·
            have H25 := H2.ext xt20
            have s31 : f20 23 = .bool (!x0.2.2.1) := hp20 18 rfl rfl
            have s32 : f20 24 = .pointer (some ⟨b_b, 1, none⟩) := hp20 19 rfl rfl
            refine gy rfl rfl s31 b2 (ldR H25 1 rfl ty64 rfl s32 (by decide) rfl ?_)
            exact ⟨_, rfl, Ext.refl _, rfl⟩
          refine ⟨fun _ => ⟨fun f21 w21 hf21 xt21 hp21 => ?_, fun _ _ _ _ h => h⟩, ?_⟩
          ·
            have H26 := H2.ext xt21
            have s33 : f21 23 = .bool (!x0.2.2.1) := hp21 18 rfl rfl
            refine gy rfl rfl s33 b2 (mv rfl ((hf21 0 rfl).trans i0) ?_)
            exact ⟨_, rfl, Ext.refl _, rfl⟩
          refine ⟨fun _ => ⟨fun f22 w22 hf22 xt22 hp22 => ?_, by rintro _ _ _ x_ ⟨ad2, e_, hA2⟩; exact ⟨ad2, e_, hA2.lift (Up.ext x_)⟩⟩, ?_⟩
          ·
            have H27 := H2.ext xt22
            have s34 : f22 23 = .bool (!x0.2.2.1) := hp22 18 rfl rfl
            have s35 : f22 25 = .slice a_fi fi.length c_fi := hp22 20 rfl rfl
            have s36 : f22 26 = .int .i64 i := hp22 21 rfl rfl
            refine gy rfl rfl s34 b2 (ia (H27.rv 2 rfl) rfl rfl s35 s36 (by first | omega | (simp; omega)) un64 ty102 ?_)
            intro ad6 x4 hx4 hA6
            obtain rfl : x0 = x4 := Option.some.inj (hx0.symm.trans hx4)
            exact ⟨_, rfl, Ext.refl _, ⟨ad6, rfl, hA6⟩⟩
          refine ⟨fun _ => ⟨fun f23 w23 hf23 xt23 hp23 => ?_, by rintro _ _ _ x_ ⟨ad2, e_, hA2⟩; exact ⟨ad2, e_, hA2.lift (Up.ext x_)⟩⟩, ?_⟩
          ·
            have H28 := H2.ext xt23
            have s37 : f23 23 = .bool (!x0.2.2.1) := hp23 18 rfl rfl
            obtain ⟨ad7, s38, hA7⟩ : ∃ (ad7 : Addr), f23 27 = .pointer (some ad7) ∧ At (MS M [ro b_c #[.int .i64 vr] ty_c, ro b_b #[.slice a_fv n_fv c_fv, .slice a_fi fi.length c_fi, .slice a_fo n_fo c_fo] ty_b, imm (.slice a_fi fi.length c_fi) fi]) w23 ad7 x0 := hp23 22 rfl rfl
            have H29 := H28.put (it := atI ad7 x0) rfl hA7
            refine gy rfl rfl s37 b2 (fa fl102_3 rfl s38 ?_)
            exact ⟨_, rfl, Ext.refl _, ⟨ad7, rfl, (by assumption)⟩⟩
          refine ⟨fun _ => ⟨fun f24 w24 hf24 xt24 hp24 => ?_, fun _ _ _ _ h => h⟩, ?_⟩
          ·
            have H30 := H2.ext xt24
            have s39 : f24 23 = .bool (!x0.2.2.1) := hp24 18 rfl rfl
            obtain ⟨ad8, s40, hA8⟩ : ∃ (ad8 : Addr), f24 28 = .pointer (some ((ad8).add 3)) ∧ At (MS M [ro b_c #[.int .i64 vr] ty_c, ro b_b #[.slice a_fv n_fv c_fv, .slice a_fi fi.length c_fi, .slice a_fo n_fo c_fo] ty_b, imm (.slice a_fi fi.length c_fi) fi]) w24 ad8 x0 := hp24 23 rfl rfl
            have H31 := H30.put (it := atI ad8 x0) rfl hA8
            refine gy rfl rfl s39 b2 (ldI (((H31.atv 0 rfl)).s3).fst.w ty3 rfl s40 ?_)
            intro rv1
            exact ⟨_, rfl, Ext.refl _, ⟨rfl, rv1⟩⟩
          refine ⟨fun _ => ⟨fun f25 w25 hf25 xt25 hp25 => ?_, fun _ _ _ _ h => h⟩, ?_⟩
          ·
            have H32 := H2.ext xt25
            have s41 : f25 23 = .bool (!x0.2.2.1) := hp25 18 rfl rfl
            refine gy rfl rfl s41 b2 (ldR H32 0 rfl ty3 rfl ((hf25 2 rfl).trans i2) (by decide) rfl ?_)
            exact ⟨_, rfl, Ext.refl _, rfl⟩
          exact DSteps.rest rfl _
        · intro f26 w26 hf26 xt26 hp26
          have H33 := H2.ext xt26
          have s42 : f26 23 = .bool (!x0.2.2.1) := hp26 18 rfl
          obtain ⟨s43, rv2⟩ : f26 29 = .int .i64 x0.2.2.2.1 ∧ I64 (x0.2.2.2.1) := hp26 24 rfl
          have s44 : f26 30 = .int .i64 vr := hp26 25 rfl
          refine k (gy rfl rfl s42 b2 (neq rfl rfl s43 s44 (k (pickF rfl rfl rfl s42 b2 rfl (k (asg (v := .bool (!decide (x0.2.2.2.1 = vr))) rfl rfl (z (nx (rt (r1 rfl rfl ?_))))))))))
          have e0 : (!decide (x0.2.2.2.1 = vr) : Bool) = wrB fi vr i := by first | exact (wrB_neg (by assumption)).symm | exact (wrB_out (by assumption)).symm | (rw [wrB_at (by assumption) hx0]; simp_all)
          have ev_ := cg1 (fun (x_0 : Bool) => (.bool x_0 : Value)) e0
          exact ⟨ev_, H33.below⟩
set_option maxRecDepth 100000 in
set_option maxHeartbeats 1600000 in
theorem past_Kept1 {M : Nat → Prop} {w : World} {i : Int} {b_b : Nat} {ty_b : TypeId} {a_fv : Option Addr} {n_fv c_fv : Nat} {a_fi : Option Addr} {c_fi : Nat} {fi : List (Int × Int × Bool × Int × Int)} {a_fo : Option Addr} {n_fo c_fo : Nat} (hM : ∀ b, M b → b < w.heap.size) (h_i : I64 i) (h_fi : RV M w (.slice a_fi fi.length c_fi) fi) (h_b : w.heap[b_b]? = some (.cells #[.slice a_fv n_fv c_fv, .slice a_fi fi.length c_fi, .slice a_fo n_fo c_fo] ty_b (0, 0)) ∧ ¬ M b_b) (hi0 : 0 ≤ i ∧ i < ((fi.length : Nat) : Int)) : Calls Tryd.prog 92 #[.int .i64 i, .pointer (some ⟨b_b, 0, none⟩)] w (Ret fun v w' =>  v = .bool (wrQ fi i) ∧ Ext w w') := by
  refine enter 10 Tryd.func92 rfl rfl rfl fun f0 ha => ?_
  have H := HI.start (M0 := M) (w := w) hM
  have H0 := H.put (it := imm (.slice a_fi fi.length c_fi) fi) rfl (by rw [MS_nil]; exact h_fi)
  have ln_fi := rv_len h_fi
  have i0 : f0 0 = .int .i64 i := ha 0 (by simp)
  have H1 := H0.put (it := ro b_b #[.slice a_fv n_fv c_fv, .slice a_fi fi.length c_fi, .slice a_fo n_fo c_fo] ty_b) rfl (by rw [MS_cons_none rfl, MS_nil]; exact h_b)
  have i1 : f0 1 = .pointer (some ⟨b_b, 0, none⟩) := ha 1 (by simp)
  refine sq (rg (k (asg (v := .bool false) rfl rfl (z (nx (sq (rg (k (fa fl66_1 rfl i1 (k (ldR H1 0 rfl ty64 rfl rfl (by decide) rfl (k (mv rfl i0 (k (ia (H1.rv 1 rfl) rfl rfl rfl rfl (by first | omega | (simp; omega)) un64 ty102 ?_)))))))))))))))
  intro ad0 x0 hx0 hA0
  refine k (fa fl102_2 rfl rfl (k (ldB ((hA0).s2).fst.w ty4 rfl rfl (k (asg (v := .bool x0.2.2.1) rfl rfl (z (nx (rt (r1 rfl rfl ?_)))))))))
  have e0 : (x0.2.2.1 : Bool) = wrQ fi i := by exact (wrQ_at hx0).symm
  have ev_ := cg1 (fun (x_0 : Bool) => (.bool x_0 : Value)) e0
  exact ⟨ev_, H1.below⟩
end Go.Proofs.YtmhopljngkgidaaDoor
namespace Go.Proofs.YtmhopljngkgidaaDoor
open Go.Ew Go.RowKit
set_option linter.unusedVariables false
set_option linter.unusedSimpArgs false
attribute [local irreducible] WL WC SO Code.wp wpList retQ Ret
attribute [local irreducible] bitB hasW inR hasR setR countW countR subR words newR listR orR firstW tab8
theorem go64 : GoF Tryd.prog 64 := ⟨_, _, Tryd.func64, rfl, by kernel_rfl⟩
set_option maxRecDepth 100000 in
set_option maxHeartbeats 1600000 in
theorem mat_Pairs {M : Nat → Prop} {w : World} {mn : Int} {a_mr : Option Addr} {c_mr : Nat} {mr : List (List (BitVec 64))} (hM : ∀ b, M b → b < w.heap.size) (hT : TabAt 0 w) (h_mn : I64 mn) (h_mr : RV M w (.slice a_mr mr.length c_mr) mr) (hsq_m : ((mr.length : Nat) : Int) = mn) (hrw_m : ∀ x ∈ mr, x.length ≤ 1000000000) (hl4_m : mn ≤ 4096) (hrs_m : ∀ x ∈ mr, x.length ≤ 64) : Calls Tryd.prog 16 #[.agg #[.int .i64 mn, .slice a_mr mr.length c_mr]] w (Ret fun v w' => ∃ (a0 : Option Addr) (c0 : Nat), v = .slice a0 (pairsM mn mr).length c0 ∧ Ext w w' ∧ RV M w' (.slice a0 (pairsM mn mr).length c0) (pairsM mn mr)) := by
  refine enter 32 Tryd.func16 rfl rfl rfl fun f0 ha => ?_
  have H := HI.start (M0 := M) (w := w) hM
  have H0 := H.put (it := imm (.slice a_mr mr.length c_mr) mr) rfl (by rw [MS_nil]; exact h_mr)
  have ln_mr := rv_len h_mr
  have i0 : f0 0 = .agg #[.int .i64 mn, .slice a_mr mr.length c_mr] := ha 0 (by simp)
  refine sq (rg (k (bx H0 rfl i0 ?_)))
  intro bb0 w0 xt0 (H1 : HI M w w0 [box bb0 #[.int .i64 mn, .slice a_mr mr.length c_mr] 24, imm (.slice a_mr mr.length c_mr) mr])
  refine k (asg (v := .slice none 0 0) rfl rfl (z (nx (sq (rg (k (asg (v := .slice none 0 0) rfl rfl (z (nx (sq (sq (rg (k (fa fl24_1 rfl rfl (k (ldX H1 0 rfl ty22 rfl rfl (by decide) rfl (k (lnS rfl rfl un22 (k (mv (v := .int .i64 0) rfl rfl (z (nx (bk ?_)))))))))))))))))))))))
  have H2 := H1.nil_ (Int × Int) 76
  refine lp (fun m f w' => ∃ (i : Nat) (xs : List (Int × Int)) (a0 : Option Addr) (c0 : Nat), m = mr.length - i ∧ f 3 = .slice a0 xs.length c0 ∧ f 9 = .slice a_mr mr.length c_mr ∧ f 10 = .int .i64 (mr.length : Int) ∧ f 11 = .int .i64 (i : Int) ∧  HI M w w' [own w.heap.size 76 (.slice a0 xs.length c0) xs, box bb0 #[.int .i64 mn, .slice a_mr mr.length c_mr] 24, imm (.slice a_mr mr.length c_mr) mr] ∧ (i ≤ mr.length) ∧ (xs = pairsTo mr i)) _ ⟨0, ([] : List (Int × Int)), none, 0, rfl, rfl, rfl, rfl, (ieq rfl (by first | rfl | omega | simp)), H2, (by first | assumption | omega | simp | (simp; omega)), (by rfl)⟩ ?_
  rintro _ f0 w1 ⟨i, xs, a0, c0, rfl, s0, s1, s2, s3, H3, hi_, hs⟩
  refine sq (rg (k (lss rfl rfl s3 s2 (z (nx (sq ?_))))))
  refine cd (b := decide ((i : Int) < (mr.length : Int))) rfl rfl (fun b0 => ?_) (fun b0 => ?_)
  ·
    have p0 := of_decide_eq_true b0
    refine sk (nx (sq (bk (sq (rg (k (mv rfl s3 (k (ia (H3.rv 2 rfl) rfl rfl s1 s3 (by first | omega | (simp; omega)) un22 ty73 ?_)))))))))
    intro ad0 x0 hx0 hA0
    refine k (ldL hA0.w ty73 rfl rfl ?_)
    intro a1 c1 rv0
    have ln0 := rv_len rv0
    have H4 := H3.put (it := imm (.slice a1 x0.length c1) x0) rfl rv0
    refine k (asg (v := .int .i64 (i : Int)) rfl rfl (k (asg (v := .slice a1 x0.length c1) rfl rfl (z (nx (sq (rg (k (mv (v := .slice a1 x0.length c1) rfl rfl (k ?_))))))))))
    have cc0 := row_List (r := x0) (w := w1) H4.mb (hT.ext H4.below) (H4.rv 0 rfl) (by have h_ := hrs_m _ (List.mem_of_getElem? hx0); omega)
    refine ca go64 rfl (ec rfl e0) cc0 ?_
    rintro _ w2 ⟨a2, c2, rfl, xt1, rv1⟩
    have H5 := H4.ownsG rv1
    refine k (lnS rfl rfl un42 (k (mv (v := .int .i64 0) rfl rfl (z (nx (bk ?_))))))
    refine lp (fun m f w' => ∃ (q : Nat) (xs2 : List (Int × Int)) (a3 : Option Addr) (c3 : Nat), m = (listR x0).length - q ∧ f 3 = .slice a3 xs2.length c3 ∧ f 4 = .int .i64 (i : Int) ∧ f 9 = .slice a_mr mr.length c_mr ∧ f 10 = .int .i64 (mr.length : Int) ∧ f 11 = .int .i64 (i : Int) ∧ f 17 = .slice a2 (listR x0).length c2 ∧ f 18 = .int .i64 ((listR x0).length : Int) ∧ f 19 = .int .i64 (q : Int) ∧  HI M w w' [own w.heap.size 3 (.slice a2 (listR x0).length c2) (listR x0), imm (.slice a1 x0.length c1) x0, own w.heap.size 76 (.slice a3 xs2.length c3) xs2, box bb0 #[.int .i64 mn, .slice a_mr mr.length c_mr] 24, imm (.slice a_mr mr.length c_mr) mr] ∧ (q ≤ (listR x0).length) ∧ (xs2 = pairsTo mr i ++ ((listR x0).take q).map fun j => (((i : Nat) : Int), j))) _ ⟨0, xs, a0, c0, rfl, s0, rfl, s1, s2, s3, rfl, rfl, (ieq rfl (by first | rfl | omega | simp)), H5, (by first | assumption | omega | simp | (simp; omega)), (by rw [hs]; simp)⟩ ?_
    rintro _ f1 w3 ⟨q, xs2, a3, c3, rfl, s4, s5, s6, s7, s8, s9, s10, s11, H6, hq_, hs2⟩
    refine sq (rg (k (lss rfl rfl s11 s10 (z (nx (sq ?_))))))
    refine cd (b := decide ((q : Int) < ((listR x0).length : Int))) rfl rfl (fun b1 => ?_) (fun b1 => ?_)
    ·
      have p1 := of_decide_eq_true b1
      refine sk (nx (sq (bk (sq (rg (k (iaO (H6.at_ 0 rfl) rfl rfl s9 s11 (by first | omega | (simp; omega)) un42 ty3 ?_)))))))
      intro g0 x1 hv0 hx1 hA1
      refine k (ldI hA1 ty3 rfl rfl ?_)
      intro rv2
      refine k (asg (v := .int .i64 x1) rfl rfl (z (nx (rg (k (mv rfl s4 (k (mv rfl s5 (k (mv (v := .int .i64 x1) rfl rfl (k (bd (v := .agg #[.int .i64 (i : Int), .int .i64 x1]) rfl (pbc rfl (pbc rfl pb0)) (fun _ => by kernel_rfl) (k (bs (xs := ([((i : Int), x1)] : List (Int × Int))) (cells := #[.int .i64 (i : Int), .int .i64 x1]) (e := 76) H6 rfl (pbc rfl pb0) (fun _ => by kernel_rfl) ⟨[.int .i64 (i : Int), .int .i64 x1], [], rfl, ⟨_, _, rfl, ⟨rfl, (show I64 ((i : Int)) from (by unfold I64 at *; omega))⟩, ⟨rfl, (show I64 (x1) from (by unfold I64 at *; omega))⟩⟩, rfl⟩ rfl (by unfold maxLen; omega) ?_))))))))))))))
      intro g1 w4 xt2 (H7 : HI M w w4 [own w.heap.size 76 (.slice (some ⟨g1, 0, none⟩) 1 1) ([((i : Int), x1)] : List (Int × Int)), own w.heap.size 3 (.slice a2 (listR x0).length c2) (listR x0), imm (.slice a1 x0.length c1) x0, own w.heap.size 76 (.slice a3 xs2.length c3) xs2, box bb0 #[.int .i64 mn, .slice a_mr mr.length c_mr] 24, imm (.slice a_mr mr.length c_mr) mr])
      refine k (ap H7 3 rfl rfl rfl rfl rfl rfl (own_src (H7.at_ 0 rfl)) un31 ty76 rfl (by have h1_ := pairsTo_len hrs_m i; have h2_ := listR_length x0; have h3_ := hrs_m _ (List.mem_of_getElem? hx0); rw [hs2, List.length_append, List.length_map, List.length_take]; simp only [List.length_cons, List.length_nil]; omega) (by have h1_ := pairsTo_len hrs_m i; have h2_ := listR_length x0; have h3_ := hrs_m _ (List.mem_of_getElem? hx0); rw [hs2, List.length_append, List.length_map, List.length_take]; simp only [List.length_cons, List.length_nil]; omega) ?_)
      intro a4 c4 w5 (H8 : HI M w w5 [own w.heap.size 76 (.slice (some ⟨g1, 0, none⟩) 1 1) ([((i : Int), x1)] : List (Int × Int)), own w.heap.size 3 (.slice a2 (listR x0).length c2) (listR x0), imm (.slice a1 x0.length c1) x0, own w.heap.size 76 (.slice a4 (xs2 ++ ([((i : Int), x1)] : List (Int × Int))).length c4) (xs2 ++ ([((i : Int), x1)] : List (Int × Int))), box bb0 #[.int .i64 mn, .slice a_mr mr.length c_mr] 24, imm (.slice a_mr mr.length c_mr) mr])
      refine k (asg (v := .slice a4 (xs2 ++ ([((i : Int), x1)] : List (Int × Int))).length c4) rfl rfl (z (inb_normal (nx (rg (k (add rfl rfl s11 rfl (by have h2_ := listR_length x0; have h3_ := hrs_m _ (List.mem_of_getElem? hx0); unfold I64; omega) (k (mv (v := .int .i64 ((q : Int) + 1)) rfl rfl (z ?_))))))))))
      have H9 : HI M w w5 [own w.heap.size 3 (.slice a2 (listR x0).length c2) (listR x0), imm (.slice a1 x0.length c1) x0, own w.heap.size 76 (.slice a4 (xs2 ++ ([((i : Int), x1)] : List (Int × Int))).length c4) (xs2 ++ ([((i : Int), x1)] : List (Int × Int))), box bb0 #[.int .i64 mn, .slice a_mr mr.length c_mr] 24, imm (.slice a_mr mr.length c_mr) mr] := H8.pickN [1, 2, 3, 4, 5] (by decide) rfl
      refine loopN _ ?_ ⟨(q + 1), (xs2 ++ ([((i : Int), x1)] : List (Int × Int))), a4, c4, rfl, rfl, s5, s6, s7, s8, s9, s10, (ieq rfl (by first | rfl | omega | (push_cast; omega))), H9, (by first | assumption | omega | simp | (simp; omega)), (by rw [hs2]; exact pair_step hx1)⟩
      omega
    ·
      have p1 := of_decide_eq_false b1
      refine ex (then_exit (loop_exit (inb_here (inb_normal (nx (rg (k (add rfl rfl s8 rfl (by unfold I64 at *; omega) (k (mv (v := .int .i64 ((i : Int) + 1)) rfl rfl (z ?_)))))))))))
      have H7 : HI M w w3 [own w.heap.size 76 (.slice a3 xs2.length c3) xs2, box bb0 #[.int .i64 mn, .slice a_mr mr.length c_mr] 24, imm (.slice a_mr mr.length c_mr) mr] := H6.pickN [2, 3, 4] (by decide) rfl
      refine loopN _ ?_ ⟨(i + 1), xs2, a3, c3, rfl, s4, s6, s7, (ieq rfl (by first | rfl | omega | (push_cast; omega))), H7, (by first | assumption | omega | simp | (simp; omega)), (by rw [hs2]; exact pair_row hx0 (by omega))⟩
      omega
  ·
    have p0 := of_decide_eq_false b0
    refine ex (then_exit (loop_exit (inb_here (nx (sq (rg (k (mv rfl s0 (k (asg (v := .slice a0 xs.length c0) rfl rfl (z (nx (rt (r1 rfl rfl ?_))))))))))))))
    have e0 : (xs : List (Int × Int)) = pairsM mn mr := by rw [hs]; exact pairs_end (by omega) (by omega)
    have ev_ := cg1 (fun (x_0 : List (Int × Int)) => (.slice a0 x_0.length c0 : Value)) e0
    exact ⟨a0, c0, ev_, H3.below, (congrArg (fun (x_ : List (Int × Int)) => RV _ _ (.slice a0 x_.length c0) x_) e0).mp (H3.outO 0 rfl)⟩
end Go.Proofs.YtmhopljngkgidaaDoor
namespace Go.Proofs.YtmhopljngkgidaaDoor
open Go.Ew Go.RowKit
set_option linter.unusedVariables false
set_option linter.unusedSimpArgs false
attribute [local irreducible] WL WC SO Code.wp wpList retQ Ret
attribute [local irreducible] bitB hasW inR hasR setR countW countR subR words newR listR orR firstW tab8
theorem go73 : GoF Tryd.prog 73 := ⟨_, _, Tryd.func73, rfl, by kernel_rfl⟩
theorem go74 : GoF Tryd.prog 74 := ⟨_, _, Tryd.func74, rfl, by kernel_rfl⟩
theorem go75 : GoF Tryd.prog 75 := ⟨_, _, Tryd.func75, rfl, by kernel_rfl⟩
theorem go26 : GoF Tryd.prog 26 := ⟨_, _, Tryd.func26, rfl, by kernel_rfl⟩
theorem go28 : GoF Tryd.prog 28 := ⟨_, _, Tryd.func28, rfl, by kernel_rfl⟩
theorem go45 : GoF Tryd.prog 45 := ⟨_, _, Tryd.func45, rfl, by kernel_rfl⟩
set_option maxRecDepth 100000 in
set_option maxHeartbeats 1600000 in
theorem ref03_in {w : World} {mn : Int} {a_mu : Option Addr} {n_mu c_mu : Nat} {i : Int} {j : Int} (h_mn : I64 mn) (h_i : I64 i) (h_j : I64 j) : Calls Tryd.prog 74 #[.agg #[.int .i64 mn, .slice a_mu n_mu c_mu], .int .i64 i, .int .i64 j] w (Ret fun v w' =>  v = .bool (inM mn [i, j]) ∧ Ext w w') := by
  refine enter 25 Tryd.func74 rfl rfl rfl fun f0 ha => ?_
  have H := HI.start (M0 := (fun _ => False)) (w := w) (fun _ h => h.elim)
  have i0 : f0 0 = .agg #[.int .i64 mn, .slice a_mu n_mu c_mu] := ha 0 (by simp)
  have i1 : f0 1 = .int .i64 i := ha 1 (by simp)
  have i2 : f0 2 = .int .i64 j := ha 2 (by simp)
  refine sq (rg (k (bx H rfl i0 ?_)))
  intro bb0 w0 xt0 (H0 : HI (fun _ => False) w w0 [box bb0 #[.int .i64 mn, .slice a_mu n_mu c_mu] 24])
  refine k (asg (v := .bool false) rfl rfl (z (nx (sq (rg (k (mv rfl i1 (k (geq rfl rfl rfl rfl (k (mv (v := .bool (decide (0 ≤ i))) rfl rfl ?_)))))))))))
  rcases Bool.eq_false_or_eq_true (decide (0 ≤ i)) with b0 | b0
  · -- decide (0 ≤ i) is True
    have p0 := of_decide_eq_true b0
    refine k (gy rfl rfl rfl b0 (mv rfl i1 (k (gy rfl rfl rfl b0 (fa fl24_0 rfl rfl (k (gy rfl rfl rfl b0 (ldX H0 0 rfl ty3 rfl rfl (by decide) rfl (k (gy rfl rfl rfl b0 (lss rfl rfl rfl rfl (k (pickT rfl rfl rfl rfl b0 rfl (k (mv (v := .bool (decide (i < mn))) rfl rfl ?_)))))))))))))))
    rcases Bool.eq_false_or_eq_true (decide (i < mn)) with b1 | b1
    · -- decide (i < mn) is True
      have p1 := of_decide_eq_true b1
      refine k (gy rfl rfl rfl b1 (mv rfl i2 (k (gy rfl rfl rfl b1 (geq rfl rfl rfl rfl (k (pickT rfl rfl rfl rfl b1 rfl (k (mv (v := .bool (decide (0 ≤ j))) rfl rfl ?_)))))))))
      rcases Bool.eq_false_or_eq_true (decide (0 ≤ j)) with b2 | b2
      · -- decide (0 ≤ j) is True
        have p2 := of_decide_eq_true b2
        refine k (gy rfl rfl rfl b2 (mv rfl i2 (k (gy rfl rfl rfl b2 (fa fl24_0 rfl rfl (k (gy rfl rfl rfl b2 (ldX H0 0 rfl ty3 rfl rfl (by decide) rfl (k (gy rfl rfl rfl b2 (lss rfl rfl rfl rfl (k (pickT rfl rfl rfl rfl b2 rfl (k (asg (v := .bool (decide (j < mn))) rfl rfl (z (nx (rt (r1 rfl rfl ?_)))))))))))))))))))
        have e0 : (decide (j < mn) : Bool) = inM mn [i, j] := by rw [inM_eq]; simp_all <;> omega
        have ev_ := cg1 (fun (x_0 : Bool) => (.bool x_0 : Value)) e0
        exact ⟨ev_, H0.below⟩
      · -- decide (0 ≤ j) is False
        have p2 := of_decide_eq_false b2
        refine k (gn rfl rfl rfl b2 (k (gn rfl rfl rfl b2 (k (gn rfl rfl rfl b2 (k (gn rfl rfl rfl b2 (k (pickF rfl rfl rfl rfl b2 rfl (k (asg (v := .bool false) rfl rfl (z (nx (rt (r1 rfl rfl ?_)))))))))))))))
        have e0 : (false : Bool) = inM mn [i, j] := by rw [inM_eq]; simp_all <;> omega
        have ev_ := cg1 (fun (x_0 : Bool) => (.bool x_0 : Value)) e0
        exact ⟨ev_, H0.below⟩
    · -- decide (i < mn) is False
      have p1 := of_decide_eq_false b1
      refine k (gn rfl rfl rfl b1 (k (gn rfl rfl rfl b1 (k (pickF rfl rfl rfl rfl b1 rfl (k (mv (v := .bool false) rfl rfl (k (gn rfl rfl rfl rfl (k (gn rfl rfl rfl rfl (k (gn rfl rfl rfl rfl (k (gn rfl rfl rfl rfl (k (pickF rfl rfl rfl rfl rfl rfl (k (asg (v := .bool false) rfl rfl (z (nx (rt (r1 rfl rfl ?_)))))))))))))))))))))))
      have e0 : (false : Bool) = inM mn [i, j] := by rw [inM_eq]; simp_all <;> omega
      have ev_ := cg1 (fun (x_0 : Bool) => (.bool x_0 : Value)) e0
      exact ⟨ev_, H0.below⟩
  · -- decide (0 ≤ i) is False
    have p0 := of_decide_eq_false b0
    refine k (gn rfl rfl rfl b0 (k (gn rfl rfl rfl b0 (k (gn rfl rfl rfl b0 (k (gn rfl rfl rfl b0 (k (pickF rfl rfl rfl rfl b0 rfl (k (mv (v := .bool false) rfl rfl (k (gn rfl rfl rfl rfl (k (gn rfl rfl rfl rfl (k (pickF rfl rfl rfl rfl rfl rfl (k (mv (v := .bool false) rfl rfl (k (gn rfl rfl rfl rfl (k (gn rfl rfl rfl rfl (k (gn rfl rfl rfl rfl (k (gn rfl rfl rfl rfl (k (pickF rfl rfl rfl rfl rfl rfl (k (asg (v := .bool false) rfl rfl (z (nx (rt (r1 rfl rfl ?_)))))))))))))))))))))))))))))))))))
    have e0 : (false : Bool) = inM mn [i, j] := by rw [inM_eq]; simp_all <;> omega
    have ev_ := cg1 (fun (x_0 : Bool) => (.bool x_0 : Value)) e0
    exact ⟨ev_, H0.below⟩
set_option maxRecDepth 100000 in
set_option maxHeartbeats 1600000 in
theorem ref03_New {M : Nat → Prop} {w : World} {n : Int} (hM : ∀ b, M b → b < w.heap.size) (h_n : I64 n) : Calls Tryd.prog 26 #[.int .i64 n] w (Ret fun v w' => ∃ (a0 : Option Addr) (c0 : Nat), v = .tuple #[.agg #[.int .i64 (newMN n), .slice a0 (newMR n).length c0], .int .i64 (newME n)] ∧ Ext w w' ∧ OwnsG M 73 w (newMR n) (.slice a0 (newMR n).length c0) w') := by
  refine enter 28 Tryd.func26 rfl rfl rfl fun f0 ha => ?_
  have H := HI.start (M0 := M) (w := w) hM
  have i0 : f0 0 = .int .i64 n := ha 0 (by simp)
  refine sq (rg (k (al H ty24 ?_)))
  intro bb0 w0 xt0 (H0 : HI M w w0 [box bb0 #[.int .i64 0, .slice none 0 0] 24])
  refine k (asg (v := .int .i64 0) rfl rfl (z (nx (sq (sq (rg (k (mv rfl i0 (k (lss rfl rfl rfl rfl (k (mv (v := .bool (decide (n < 0))) rfl rfl ?_))))))))))))
  rcases Bool.eq_false_or_eq_true (decide (n < 0)) with b0 | b0
  · -- decide (n < 0) is True
    have p0 := of_decide_eq_true b0
    refine k (gn rfl rfl rfl b0 (k (gn rfl rfl rfl b0 (k (pickT rfl rfl rfl rfl b0 rfl (z (nx (cdT rfl rfl rfl (sq (rg (k (bd (v := .agg #[.int .i64 0, .slice none 0 0]) rfl pb0 (fun _ => by kernel_rfl) (k (stX H0 0 rfl ty24 rfl rfl rfl rfl rfl rfl rfl ?_))))))))))))))
    intro w1 (H1 : HI M w w1 [box bb0 #[.int .i64 0, .slice none 0 0] 24])
    refine k (asg (v := .int .i64 1) rfl rfl (z (nx (rt (then_ret (rc2 H1 0 rfl ty24 rfl rfl rfl rfl rfl (by decide) ?_))))))
    have e0 : (0 : Int) = newMN n := by first | exact (newM_no (okN_no.2 (by omega))).1.symm | exact (newM_yes (okN_iff.2 (by omega))).1.symm
    have e1 : ([] : List (List (BitVec 64))) = newMR n := by first | exact (newM_no (okN_no.2 (by omega))).2.1.symm | (rw [(newM_yes (okN_iff.2 (by omega))).2.1, hs, show j = n.toNat from by omega]; rfl)
    have e2 : (1 : Int) = newME n := by first | exact (newM_no (okN_no.2 (by omega))).2.2.symm | exact (newM_yes (okN_iff.2 (by omega))).2.2.symm
    have ev_ := cg3 (fun (x_0 : Int) (x_1 : List (List (BitVec 64))) (x_2 : Int) => (.tuple #[.agg #[.int .i64 x_0, .slice none x_1.length 0], .int .i64 x_2] : Value)) e0 e1 e2
    exact ⟨none, 0, ev_, H1.below, (congrArg (fun (x_ : List (List (BitVec 64))) => OwnsG _ _ _ x_ (.slice none x_.length 0) _) e1).mp (ownsG_nil H1.below)⟩
  · -- decide (n < 0) is False
    have p0 := of_decide_eq_false b0
    refine k (gy rfl rfl rfl b0 (mv rfl i0 (k (gy rfl rfl rfl b0 (gtr rfl rfl rfl rfl (k (pickF rfl rfl rfl rfl b0 rfl (z (nx ?_)))))))))
    refine cd (b := decide (4096 < n)) rfl rfl (fun b1 => ?_) (fun b1 => ?_)
    ·
      have p1 := of_decide_eq_true b1
      refine sq (rg (k (bd (v := .agg #[.int .i64 0, .slice none 0 0]) rfl pb0 (fun _ => by kernel_rfl) (k (stX H0 0 rfl ty24 rfl rfl rfl rfl rfl rfl rfl ?_)))))
      intro w1 (H1 : HI M w w1 [box bb0 #[.int .i64 0, .slice none 0 0] 24])
      refine k (asg (v := .int .i64 1) rfl rfl (z (nx (rt (then_ret (rc2 H1 0 rfl ty24 rfl rfl rfl rfl rfl (by decide) ?_))))))
      have e0 : (0 : Int) = newMN n := by first | exact (newM_no (okN_no.2 (by omega))).1.symm | exact (newM_yes (okN_iff.2 (by omega))).1.symm
      have e1 : ([] : List (List (BitVec 64))) = newMR n := by first | exact (newM_no (okN_no.2 (by omega))).2.1.symm | (rw [(newM_yes (okN_iff.2 (by omega))).2.1, hs, show j = n.toNat from by omega]; rfl)
      have e2 : (1 : Int) = newME n := by first | exact (newM_no (okN_no.2 (by omega))).2.2.symm | exact (newM_yes (okN_iff.2 (by omega))).2.2.symm
      have ev_ := cg3 (fun (x_0 : Int) (x_1 : List (List (BitVec 64))) (x_2 : Int) => (.tuple #[.agg #[.int .i64 x_0, .slice none x_1.length 0], .int .i64 x_2] : Value)) e0 e1 e2
      exact ⟨none, 0, ev_, H1.below, (congrArg (fun (x_ : List (List (BitVec 64))) => OwnsG _ _ _ x_ (.slice none x_.length 0) _) e1).mp (ownsG_nil H1.below)⟩
    ·
      have p1 := of_decide_eq_false b1
      refine sk (nx (sq (rg (k (mv rfl i0 (k (bd (v := .agg #[.int .i64 n, .slice none 0 0]) rfl (pbc rfl pb0) (fun _ => by kernel_rfl) (k (al H0 ty24 ?_)))))))))
      intro bb1 w1 xt1 (H1 : HI M w w1 [box bb1 #[.int .i64 0, .slice none 0 0] 24, box bb0 #[.int .i64 0, .slice none 0 0] 24])
      refine k (stX H1 0 rfl ty24 rfl rfl rfl rfl rfl rfl rfl ?_)
      intro w2 (H2 : HI M w w2 [box bb1 #[.int .i64 n, .slice none 0 0] 24, box bb0 #[.int .i64 0, .slice none 0 0] 24])
      refine z (nx (sq (sq (rg (k (asg (v := .int .i64 0) rfl rfl (z (nx (bk ?_)))))))))
      have H3 := H2.nil_ (List (BitVec 64)) 73
      refine lp (fun m f w' => ∃ (j : Nat) (xs : List (List (BitVec 64))) (a0 : Option Addr) (c0 : Nat), m = n.toNat - j ∧ f 0 = .int .i64 n ∧ f 2 = .pointer (some ⟨bb0, 0, none⟩) ∧ f 4 = .pointer (some ⟨bb1, 0, none⟩) ∧ f 5 = .int .i64 (j : Int) ∧  HI M w w' [own w.heap.size 73 (.slice a0 xs.length c0) xs, box bb1 #[.int .i64 n, .slice a0 xs.length c0] 24, box bb0 #[.int .i64 0, .slice none 0 0] 24] ∧ (j ≤ n.toNat) ∧ (xs = List.replicate j (newR n))) _ ⟨0, ([] : List (List (BitVec 64))), none, 0, rfl, i0, rfl, rfl, (ieq rfl (by first | rfl | omega | simp)), H3, (by first | assumption | omega | simp | (simp; omega)), (by rfl)⟩ ?_
      rintro _ f0 w3 ⟨j, xs, a0, c0, rfl, s0, s1, s2, s3, H4, hk, hs⟩
      refine sq (sq (rg (k (mv rfl s3 (k (mv rfl s0 (k (lss rfl rfl rfl rfl (z (nx ?_))))))))))
      refine cd (b := decide ((j : Int) < n)) rfl rfl (fun b2 => ?_) (fun b2 => ?_)
      ·
        have p2 := of_decide_eq_true b2
        refine sk (nx (sq (bk ?_)))
        refine dr 5 [fun (v : Value) (w' : World) => v = .pointer (some ⟨bb1, 1, none⟩), fun (v : Value) (w' : World) => v = .slice a0 xs.length c0, fun (v : Value) (w' : World) => v = .int .i64 n, fun (v : Value) (w' : World) => ∃ (a1 : Option Addr) (c1 : Nat), v = .slice a1 (newR n).length c1 ∧ RV (MS M [own w.heap.size 73 (.slice a0 xs.length c0) xs, box bb1 #[.int .i64 n, .slice a0 xs.length c0] 24, box bb0 #[.int .i64 0, .slice none 0 0] 24]) w' (.slice a1 (newR n).length c1) (newR n), fun (v : Value) (w' : World) => ∃ (a2 : Option Addr) (c2 : Nat), v = .slice a2 ([newR n] : List (List (BitVec 64))).length c2 ∧ RV (MS M [own w.heap.size 73 (.slice a0 xs.length c0) xs, box bb1 #[.int .i64 n, .slice a0 xs.length c0] 24, box bb0 #[.int .i64 0, .slice none 0 0] 24]) w' (.slice a2 ([newR n] : List (List (BitVec 64))).length c2) ([newR n] : List (List (BitVec 64)))] rfl (by kernel_rfl) ?_ ?_
        ·
          refine ⟨fun _ => ⟨fun f1 w6 hf0 xt4 hp0 => ?_, fun _ _ _ _ h => h⟩, ?_⟩
          ·
            have H9 := H4.ext xt4
            refine fa fl24_1 rfl ((hf0 4 rfl).trans s2) ?_
            exact ⟨_, rfl, Ext.refl _, rfl⟩
          refine ⟨fun _ => ⟨fun f2 w7 hf1 xt5 hp1 => ?_, fun _ _ _ _ h => h⟩, ?_⟩
          ·
            have H10 := H4.ext xt5
            have s4 : f2 20 = .pointer (some ⟨bb1, 1, none⟩) := hp1 0 rfl rfl
            refine ldX H10 1 rfl ty22 rfl s4 (by decide) rfl ?_
            exact ⟨_, rfl, Ext.refl _, rfl⟩
          refine ⟨fun _ => ⟨fun f3 w8 hf2 xt6 hp2 => ?_, fun _ _ _ _ h => h⟩, ?_⟩
          ·
            have H11 := H4.ext xt6
            refine mv rfl ((hf2 0 rfl).trans s0) ?_
            exact ⟨_, rfl, Ext.refl _, rfl⟩
          refine ⟨fun _ => ⟨fun f4 w9 hf3 xt7 hp3 => ?_, by rintro _ _ _ x_ ⟨a1, c1, e_, rv1⟩; exact ⟨a1, c1, e_, rv1.lift (Up.ext x_)⟩⟩, ?_⟩
          ·
            have H12 := H4.ext xt7
            have s5 : f4 22 = .int .i64 n := hp3 2 rfl rfl
            have cc1 := ref02_New (n := n) (w := w9) H12.mb (by unfold I64 at *; omega) (by first | omega | (simp; omega))
            refine ca go73 rfl (ec s5 e0) cc1 ?_
            rintro _ w10 ⟨a3, c3, rfl, xt8, rv3⟩
            have rv4 := OwnsG.rv rv3 H12.mb
            have H13 := H12.ext xt8
            have H14 := H13.put (it := imm (.slice a3 (newR n).length c3) (newR n)) rfl rv4
            exact ⟨_, rfl, xt8, ⟨a3, c3, rfl, rv4⟩⟩
          refine ⟨fun _ => ⟨fun f5 w11 hf4 xt9 hp4 => ?_, by rintro _ _ _ x_ ⟨a2, c2, e_, rv2⟩; exact ⟨a2, c2, e_, rv2.lift (Up.ext x_)⟩⟩, ?_⟩
          ·
            have H15 := H4.ext xt9
            obtain ⟨a4, c4, s6, rv5⟩ : ∃ (a4 : Option Addr) (c4 : Nat), f5 23 = .slice a4 (newR n).length c4 ∧ RV (MS M [own w.heap.size 73 (.slice a0 xs.length c0) xs, box bb1 #[.int .i64 n, .slice a0 xs.length c0] 24, box bb0 #[.int .i64 0, .slice none 0 0] 24]) w11 (.slice a4 (newR n).length c4) (newR n) := hp4 3 rfl rfl
            have H16 := H15.put (it := imm (.slice a4 (newR n).length c4) (newR n)) rfl rv5
            refine bs (xs := ([newR n] : List (List (BitVec 64)))) (cells := #[.slice a4 (newR n).length c4]) (e := 73) H16 rfl (pbc s6 pb0) (fun _ => by kernel_rfl) ⟨[.slice a4 (newR n).length c4], [], rfl, ⟨_, rfl, RV.list.1 (H16.rv 0 rfl)⟩, rfl⟩ rfl (by unfold maxLen; omega) ?_
            intro g1 w12 xt10 (H17 : HI M w w12 [own w.heap.size 73 (.slice (some ⟨g1, 0, none⟩) 1 1) ([newR n] : List (List (BitVec 64))), imm (.slice a4 (newR n).length c4) (newR n), own w.heap.size 73 (.slice a0 xs.length c0) xs, box bb1 #[.int .i64 n, .slice a0 xs.length c0] 24, box bb0 #[.int .i64 0, .slice none 0 0] 24])
            have H18 := H17.freeze 0 rfl
            exact ⟨_, rfl, xt10, ⟨(some ⟨g1, 0, none⟩), 1, rfl, (rv_drop rfl (rv_drop rfl (H18.rv 0 rfl)))⟩⟩
          exact DSteps.rest rfl _
        · intro f6 w13 hf5 xt11 hp5
          have H19 := H4.ext xt11
          have s7 : f6 0 = .int .i64 n := (hf5 0 rfl).trans s0
          have s8 : f6 2 = .pointer (some ⟨bb0, 0, none⟩) := (hf5 2 rfl).trans s1
          have s9 : f6 4 = .pointer (some ⟨bb1, 0, none⟩) := (hf5 4 rfl).trans s2
          have s10 : f6 5 = .int .i64 (j : Int) := (hf5 5 rfl).trans s3
          have s11 : f6 21 = .slice a0 xs.length c0 := hp5 1 rfl
          obtain ⟨a5, c5, s12, rv6⟩ : ∃ (a5 : Option Addr) (c5 : Nat), f6 24 = .slice a5 ([newR n] : List (List (BitVec 64))).length c5 ∧ RV (MS M [own w.heap.size 73 (.slice a0 xs.length c0) xs, box bb1 #[.int .i64 n, .slice a0 xs.length c0] 24, box bb0 #[.int .i64 0, .slice none 0 0] 24]) w13 (.slice a5 ([newR n] : List (List (BitVec 64))).length c5) ([newR n] : List (List (BitVec 64))) := hp5 4 rfl
          have H20 := H19.put (it := imm (.slice a5 ([newR n] : List (List (BitVec 64))).length c5) ([newR n] : List (List (BitVec 64)))) rfl rv6
          refine k (ap H20 1 rfl rfl rfl rfl s11 s12 (H20.rv 0 rfl).src un22 ty73 rfl (by rw [hs]; simp; omega) (by rw [hs]; simp; omega) ?_)
          intro a6 c6 w14 (H21 : HI M w w14 [imm (.slice a5 ([newR n] : List (List (BitVec 64))).length c5) ([newR n] : List (List (BitVec 64))), own w.heap.size 73 (.slice a6 (xs ++ ([newR n] : List (List (BitVec 64)))).length c6) (xs ++ ([newR n] : List (List (BitVec 64)))), box bb1 #[.int .i64 n, .slice a0 xs.length c0] 24, box bb0 #[.int .i64 0, .slice none 0 0] 24])
          refine k (fa fl24_1 rfl s9 (k (stX H21 2 rfl ty22 rfl rfl rfl rfl rfl rfl rfl ?_)))
          intro w15 (H22 : HI M w w15 [imm (.slice a5 ([newR n] : List (List (BitVec 64))).length c5) ([newR n] : List (List (BitVec 64))), own w.heap.size 73 (.slice a6 (xs ++ ([newR n] : List (List (BitVec 64)))).length c6) (xs ++ ([newR n] : List (List (BitVec 64)))), box bb1 #[.int .i64 n, .slice a6 (xs ++ ([newR n] : List (List (BitVec 64)))).length c6] 24, box bb0 #[.int .i64 0, .slice none 0 0] 24])
          refine z (inb_normal (nx (rg (k (mv rfl s10 (k (add rfl rfl rfl rfl (by unfold I64 at *; omega) (k (asg (v := .int .i64 ((j : Int) + 1)) rfl rfl (z ?_))))))))))
          have H23 : HI M w w15 [own w.heap.size 73 (.slice a6 (xs ++ ([newR n] : List (List (BitVec 64)))).length c6) (xs ++ ([newR n] : List (List (BitVec 64)))), box bb1 #[.int .i64 n, .slice a6 (xs ++ ([newR n] : List (List (BitVec 64)))).length c6] 24, box bb0 #[.int .i64 0, .slice none 0 0] 24] := H22.pickN [1, 2, 3] (by decide) rfl
          refine loopN _ ?_ ⟨(j + 1), (xs ++ ([newR n] : List (List (BitVec 64)))), a6, c6, rfl, s7, s8, s9, (ieq rfl (by first | rfl | omega | (push_cast; omega))), H23, (by first | assumption | omega | simp | (simp; omega)), (by rw [hs, List.replicate_succ'])⟩
          omega
      ·
        have p2 := of_decide_eq_false b2
        refine ex (then_exit (loop_exit (inb_here (nx (sq (rg (k (ldX H4 1 rfl ty24 rfl s2 (by decide) rfl (k (stX H4 2 rfl ty24 rfl rfl s1 rfl rfl rfl rfl ?_))))))))))
        intro w4 (H5 : HI M w w4 [own w.heap.size 73 (.slice a0 xs.length c0) xs, box bb1 #[.int .i64 n, .slice a0 xs.length c0] 24, box bb0 #[.int .i64 n, .slice a0 xs.length c0] 24])
        refine k (asg (v := .int .i64 0) rfl rfl (z (nx (rt (rc2 H5 2 rfl ty24 rfl rfl rfl s1 rfl (by decide) ?_)))))
        have e0 : (n : Int) = newMN n := by first | exact (newM_no (okN_no.2 (by omega))).1.symm | exact (newM_yes (okN_iff.2 (by omega))).1.symm
        have e1 : (xs : List (List (BitVec 64))) = newMR n := by first | exact (newM_no (okN_no.2 (by omega))).2.1.symm | (rw [(newM_yes (okN_iff.2 (by omega))).2.1, hs, show j = n.toNat from by omega]; rfl)
        have e2 : (0 : Int) = newME n := by first | exact (newM_no (okN_no.2 (by omega))).2.2.symm | exact (newM_yes (okN_iff.2 (by omega))).2.2.symm
        have ev_ := cg3 (fun (x_0 : Int) (x_1 : List (List (BitVec 64))) (x_2 : Int) => (.tuple #[.agg #[.int .i64 x_0, .slice a0 x_1.length c0], .int .i64 x_2] : Value)) e0 e1 e2
        exact ⟨a0, c0, ev_, H5.below, (congrArg (fun (x_ : List (List (BitVec 64))) => OwnsG _ _ _ x_ (.slice a0 x_.length c0) _) e1).mp (H5.ownsG_out 0 rfl)⟩
set_option maxRecDepth 100000 in
set_option maxHeartbeats 1600000 in
theorem ref03_Set {M : Nat → Prop} {w : World} {mn : Int} {a_mr : Option Addr} {c_mr : Nat} {mr : List (List (BitVec 64))} {i : Int} {j : Int} (hM : ∀ b, M b → b < w.heap.size) (h_mn : I64 mn) (h_mr : RV M w (.slice a_mr mr.length c_mr) mr) (h_i : I64 i) (h_j : I64 j) (hsq_m : ((mr.length : Nat) : Int) = mn) (hrw_m : ∀ x ∈ mr, x.length ≤ 1000000000) (hl4_m : mn ≤ 4096) : Calls Tryd.prog 28 #[.agg #[.int .i64 mn, .slice a_mr mr.length c_mr], .int .i64 i, .int .i64 j] w (Ret fun v w' => ∃ (a0 : Option Addr) (c0 : Nat), v = .tuple #[.agg #[.int .i64 (setMN mn i j), .slice a0 (setMR mn mr i j).length c0], .int .i64 (setME mn i j)] ∧ Ext w w' ∧ OwnsG M 73 w (setMR mn mr i j) (.slice a0 (setMR mn mr i j).length c0) w') := by
  refine enter 32 Tryd.func28 rfl rfl rfl fun f0 ha => ?_
  have H := HI.start (M0 := M) (w := w) hM
  have H0 := H.put (it := imm (.slice a_mr mr.length c_mr) mr) rfl (by rw [MS_nil]; exact h_mr)
  have ln_mr := rv_len h_mr
  have i0 : f0 0 = .agg #[.int .i64 mn, .slice a_mr mr.length c_mr] := ha 0 (by simp)
  have i1 : f0 1 = .int .i64 i := ha 1 (by simp)
  have i2 : f0 2 = .int .i64 j := ha 2 (by simp)
  refine sq (rg (k (bx H0 rfl i0 ?_)))
  intro bb0 w0 xt0 (H1 : HI M w w0 [box bb0 #[.int .i64 mn, .slice a_mr mr.length c_mr] 24, imm (.slice a_mr mr.length c_mr) mr])
  refine k (al H1 ty24 ?_)
  intro bb1 w1 xt1 (H2 : HI M w w1 [box bb1 #[.int .i64 0, .slice none 0 0] 24, box bb0 #[.int .i64 mn, .slice a_mr mr.length c_mr] 24, imm (.slice a_mr mr.length c_mr) mr])
  refine k (asg (v := .int .i64 0) rfl rfl (z (nx (sq (sq (rg (k (ldX H2 1 rfl ty24 rfl rfl (by decide) rfl (k (mv rfl i1 (k (mv rfl i2 (k ?_)))))))))))))
  have cc0 := ref03_in (mn := mn) (i := i) (j := j) (a_mu := a_mr) (n_mu := mr.length) (c_mu := c_mr) (w := w1) (by unfold I64 at *; omega) (by unfold I64 at *; omega) (by unfold I64 at *; omega)
  refine ca go74 rfl (ec rfl (ec rfl (ec rfl e0))) cc0 ?_
  rintro _ w2 ⟨rfl, xt2⟩
  have H3 := H2.ext xt2
  refine k (not_ rfl rfl (z (nx ?_)))
  refine cd (b := !(inM mn [i, j])) rfl rfl (fun b0 => ?_) (fun b0 => ?_)
  ·
    refine sq ?_
    have hq : inM mn [i, j] = false := by simpa using b0
    refine rg (k (bd (v := .agg #[.int .i64 0, .slice none 0 0]) rfl pb0 (fun _ => by kernel_rfl) (k (stX H3 0 rfl ty24 rfl rfl rfl rfl rfl rfl rfl ?_))))
    intro w3 (H4 : HI M w w3 [box bb1 #[.int .i64 0, .slice none 0 0] 24, box bb0 #[.int .i64 mn, .slice a_mr mr.length c_mr] 24, imm (.slice a_mr mr.length c_mr) mr])
    refine k (asg (v := .int .i64 1) rfl rfl (z (nx (rt (then_ret (rc2 H4 0 rfl ty24 rfl rfl rfl rfl rfl (by decide) ?_))))))
    have e0 : (0 : Int) = setMN mn i j := by first | exact (set_no (rs := mr) hq).1.symm | exact (set_yes (rs := mr) hq).1.symm
    have e1 : ([] : List (List (BitVec 64))) = setMR mn mr i j := by first | exact (set_no (rs := mr) hq).2.1.symm | (rw [(set_yes (rs := mr) hq).2.1]; exact setM_of hx0)
    have e2 : (1 : Int) = setME mn i j := by first | exact (set_no (rs := mr) hq).2.2.symm | exact (set_yes (rs := mr) hq).2.2.symm
    have ev_ := cg3 (fun (x_0 : Int) (x_1 : List (List (BitVec 64))) (x_2 : Int) => (.tuple #[.agg #[.int .i64 x_0, .slice none x_1.length 0], .int .i64 x_2] : Value)) e0 e1 e2
    exact ⟨none, 0, ev_, H4.below, (congrArg (fun (x_ : List (List (BitVec 64))) => OwnsG _ _ _ x_ (.slice none x_.length 0) _) e1).mp (ownsG_nil H4.below)⟩
  ·
    refine sk (nx (sq ?_))
    have hq : inM mn [i, j] = true := by simpa using b0
    have hr := inM_two.1 hq
    refine rg (k (bs (xs := ([] : List (List (BitVec 64)))) (cells := #[]) (e := 73) H3 rfl pb0 (fun _ => by kernel_rfl) rfl rfl (by unfold maxLen; omega) ?_))
    intro g0 w3 xt3 (H4 : HI M w w3 [own w.heap.size 73 (.slice (some ⟨g0, 0, none⟩) 0 0) ([] : List (List (BitVec 64))), box bb1 #[.int .i64 0, .slice none 0 0] 24, box bb0 #[.int .i64 mn, .slice a_mr mr.length c_mr] 24, imm (.slice a_mr mr.length c_mr) mr])
    refine k (fa fl24_1 rfl rfl (k (ldX H4 2 rfl ty22 rfl rfl (by decide) rfl (k (ap H4 0 rfl rfl rfl rfl rfl rfl (H4.rv 3 rfl).src un22 ty73 rfl (by simp; omega) (by simp; omega) ?_)))))
    intro a0 c0 w4 (H5 : HI M w w4 [own w.heap.size 73 (.slice a0 mr.length c0) mr, box bb1 #[.int .i64 0, .slice none 0 0] 24, box bb0 #[.int .i64 mn, .slice a_mr mr.length c_mr] 24, imm (.slice a_mr mr.length c_mr) mr])
    refine k (asg (v := .slice a0 mr.length c0) rfl rfl (z (nx (sq (rg (k (mv (v := .slice a0 mr.length c0) rfl rfl (k (mv rfl i1 (k (mv (v := .slice a0 mr.length c0) rfl rfl (k (mv rfl i1 (k (iaO (H5.at_ 0 rfl) rfl rfl rfl rfl (by first | omega | (simp; omega)) un22 ty73 ?_)))))))))))))))
    intro g1 x0 hv0 hx0 hA0
    refine k (ldL hA0 ty73 rfl rfl ?_)
    intro a1 c1 rv0
    have ln0 := rv_len rv0
    have H6 := H5.put (it := imm (.slice a1 x0.length c1) x0) rfl rv0
    refine k (mv rfl i2 (k ?_))
    have cc1 := ref02_Set (r := x0) (i := j) (w := w4) H6.mb (H6.rv 0 rfl) (by unfold I64 at *; omega) (by exact hrw_m _ (List.mem_of_getElem? hx0))
    refine ca go75 rfl (ec rfl (ec rfl e0)) cc1 ?_
    rintro _ w5 ⟨a2, c2, rfl, xt4, rv1⟩
    have H7 := H6.ownsG rv1
    refine k (iaO (H7.at_ 2 rfl) rfl rfl rfl rfl (by first | omega | (simp; omega)) un22 ty73 ?_)
    intro g2 x1 hv1 hx1 hA1
    refine k ?_
    have H8 := H7.freeze 0 rfl
    refine stO H8 2 rfl hv1 rfl (by first | omega | (simp; omega)) ty73 rfl rfl rfl rfl (H8.rv 0 rfl) ?_
    intro w6 (H9 : HI M w w6 [imm (.slice a2 (setR x0 j).length c2) (setR x0 j), imm (.slice a1 x0.length c1) x0, own w.heap.size 73 (.slice a0 mr.length c0) (mr.set i.toNat (setR x0 j)), box bb1 #[.int .i64 0, .slice none 0 0] 24, box bb0 #[.int .i64 mn, .slice a_mr mr.length c_mr] 24, imm (.slice a_mr mr.length c_mr) mr])
    refine z (nx (sq (rg (k (fa fl24_0 rfl rfl (k (ldX H9 4 rfl ty3 rfl rfl (by decide) rfl (k (mv (v := .slice a0 mr.length c0) rfl rfl (k (bd (v := .agg #[.int .i64 mn, .slice a0 mr.length c0]) rfl (pbc rfl (pbc rfl pb0)) (fun _ => by kernel_rfl) (k (stX H9 3 rfl ty24 rfl rfl rfl rfl rfl rfl rfl ?_)))))))))))))
    intro w7 (H10 : HI M w w7 [imm (.slice a2 (setR x0 j).length c2) (setR x0 j), imm (.slice a1 x0.length c1) x0, own w.heap.size 73 (.slice a0 mr.length c0) (mr.set i.toNat (setR x0 j)), box bb1 #[.int .i64 mn, .slice a0 mr.length c0] 24, box bb0 #[.int .i64 mn, .slice a_mr mr.length c_mr] 24, imm (.slice a_mr mr.length c_mr) mr])
    refine k (asg (v := .int .i64 0) rfl rfl (z (nx (rt (rc2 H10 3 rfl ty24 rfl rfl rfl rfl rfl (by decide) ?_)))))
    have e0 : (mn : Int) = setMN mn i j := by first | exact (set_no (rs := mr) hq).1.symm | exact (set_yes (rs := mr) hq).1.symm
    have e1 : (mr.set i.toNat (setR x0 j) : List (List (BitVec 64))) = setMR mn mr i j := by first | exact (set_no (rs := mr) hq).2.1.symm | (rw [(set_yes (rs := mr) hq).2.1]; exact setM_of hx0)
    have l1 : mr.length = (setMR mn mr i j).length := by rw [← e1]; simp
    have e2 : (0 : Int) = setME mn i j := by first | exact (set_no (rs := mr) hq).2.2.symm | exact (set_yes (rs := mr) hq).2.2.symm
    have ev_ := cg3 (fun (x_0 : Int) (n_1 : Nat) (x_2 : Int) => (.tuple #[.agg #[.int .i64 x_0, .slice a0 n_1 c0], .int .i64 x_2] : Value)) e0 l1 e2
    exact ⟨a0, c0, ev_, H10.below, (congrArg (fun (n_ : Nat) => OwnsG _ _ _ (setMR mn mr i j) (.slice a0 n_ c0) _) l1).mp ((congrArg (fun (x_ : List (List (BitVec 64))) => OwnsG _ _ _ x_ (.slice a0 mr.length c0) _) e1).mp (H10.ownsG_out 2 rfl))⟩
set_option maxRecDepth 100000 in
set_option maxHeartbeats 1600000 in
theorem ref03_Of {M : Nat → Prop} {w : World} {n : Int} {a_ps : Option Addr} {c_ps : Nat} {ps : List (Int × Int)} (hM : ∀ b, M b → b < w.heap.size) (h_n : I64 n) (h_ps : RV M w (.slice a_ps ps.length c_ps) ps) : Calls Tryd.prog 68 #[.int .i64 n, .slice a_ps ps.length c_ps] w (Ret fun v w' => ∃ (a0 : Option Addr) (c0 : Nat), v = .tuple #[.agg #[.int .i64 (ofMN n ps), .slice a0 (ofMR n ps).length c0], .int .i64 (ofME n ps)] ∧ Ext w w' ∧ RV M w' (.slice a0 (ofMR n ps).length c0) (ofMR n ps)) := by
  refine enter 44 Tryd.func68 rfl rfl rfl fun f0 ha => ?_
  have H := HI.start (M0 := M) (w := w) hM
  have H0 := H.put (it := imm (.slice a_ps ps.length c_ps) ps) rfl (by rw [MS_nil]; exact h_ps)
  have ln_ps := rv_len h_ps
  have i0 : f0 0 = .int .i64 n := ha 0 (by simp)
  have i1 : f0 1 = .slice a_ps ps.length c_ps := ha 1 (by simp)
  refine sq (rg (k (al H0 ty24 ?_)))
  intro bb0 w0 xt0 (H1 : HI M w w0 [box bb0 #[.int .i64 0, .slice none 0 0] 24, imm (.slice a_ps ps.length c_ps) ps])
  refine k (asg (v := .int .i64 0) rfl rfl (z (nx (sq (rg (k (mv rfl i0 (k ?_))))))))
  have cc0 := ref03_New (n := n) (w := w0) H1.mb (by unfold I64 at *; omega)
  refine ca go26 rfl (ec rfl e0) cc0 ?_
  rintro _ w1 ⟨a0, c0, rfl, xt1, rv0⟩
  have H2 := H1.ownsG rv0
  refine k (mv (v := .tuple #[.agg #[.int .i64 (newMN n), .slice a0 (newMR n).length c0], .int .i64 (newME n)]) rfl rfl (k (xt rfl rfl rfl (k (xt rfl rfl rfl (k (al H2 ty24 ?_)))))))
  intro bb1 w2 xt2 (H3 : HI M w w2 [box bb1 #[.int .i64 0, .slice none 0 0] 24, own w.heap.size 73 (.slice a0 (newMR n).length c0) (newMR n), box bb0 #[.int .i64 0, .slice none 0 0] 24, imm (.slice a_ps ps.length c_ps) ps])
  refine k (stX H3 0 rfl ty24 rfl rfl rfl rfl rfl rfl rfl ?_)
  intro w3 (H4 : HI M w w3 [box bb1 #[.int .i64 (newMN n), .slice a0 (newMR n).length c0] 24, own w.heap.size 73 (.slice a0 (newMR n).length c0) (newMR n), box bb0 #[.int .i64 0, .slice none 0 0] 24, imm (.slice a_ps ps.length c_ps) ps])
  refine k (asg (v := .int .i64 (newME n)) rfl rfl (z (nx (sq (sq (rg (k (asg (v := .int .i64 0) rfl rfl (z (nx (bk ?_)))))))))))
  have H5 := H4.freeze 1 rfl
  have H6 := H5.put (it := imm (.slice a0 (newMR n).length c0) (newMR n)) rfl (H5.rv 1 rfl)
  refine lp (fun m f w' => ∃ (j : Nat) (n_ : Int) (rs : List (List (BitVec 64))) (e_ : Int) (a1 : Option Addr) (c1 : Nat), m = ps.length - j ∧ f 1 = .slice a_ps ps.length c_ps ∧ f 4 = .pointer (some ⟨bb0, 0, none⟩) ∧ f 6 = .pointer (some ⟨bb1, 0, none⟩) ∧ f 7 = .int .i64 e_ ∧ f 8 = .int .i64 (j : Int) ∧  HI M w w' [imm (.slice a1 rs.length c1) rs, box bb1 #[.int .i64 n_, .slice a1 rs.length c1] 24, imm (.slice a0 (newMR n).length c0) (newMR n), box bb0 #[.int .i64 0, .slice none 0 0] 24, imm (.slice a_ps ps.length c_ps) ps] ∧ (j ≤ ps.length) ∧ (n_ = ofMN n (ps.take j)) ∧ (rs = ofMR n (ps.take j)) ∧ (e_ = ofME n (ps.take j))) _ ⟨0, (newMN n), (newMR n), (newME n), a0, c0, rfl, i1, rfl, rfl, (ieq rfl (by first | rfl | omega | simp)), (ieq rfl (by first | rfl | omega | simp)), H6, (by first | assumption | omega | simp | (simp; omega)), (by exact (ofM_nil n).1), (by exact (ofM_nil n).2.1), (by exact (ofM_nil n).2.2)⟩ ?_
  rintro _ f0 w4 ⟨j, n_, rs, e_, a1, c1, rfl, s0, s1, s2, s3, s4, H7, hk, h1, h2, h3⟩
  refine sq (sq (rg (k (mv rfl s4 (k (mv rfl s0 (k (lnS rfl rfl un31 (k (lss rfl rfl rfl rfl (k (mv (v := .bool (decide ((j : Int) < (ps.length : Int)))) rfl rfl ?_))))))))))))
  rcases Bool.eq_false_or_eq_true (decide ((j : Int) < (ps.length : Int))) with b0 | b0
  · -- decide ((j : Int) < (ps.length : Int)) is True
    have p0 := of_decide_eq_true b0
    refine k (gy rfl rfl rfl b0 (mv rfl s3 (k (gy rfl rfl rfl b0 (eql rfl rfl rfl rfl (k (pickT rfl rfl rfl rfl b0 rfl (z (nx ?_)))))))))
    refine cd (b := decide (e_ = 0)) rfl rfl (fun b1 => ?_) (fun b1 => ?_)
    ·
      have p1 := of_decide_eq_true b1
      refine sk (nx (sq (bk ?_)))
      have he_ : ofME n (ps.take j) = 0 := by rw [← h3]; omega
      have hq := ofME_zero he_
      have hsq := ofM_sq hq
      have hst := fun {p_} (hx_ : ps[((j : Nat) : Int).toNat]? = some p_) => ofM_step hx_ hq
      obtain ⟨x0, hx0⟩ : ∃ x, ps[(j : Int).toNat]? = some x := ⟨_, List.getElem?_eq_getElem (by first | omega | (simp; omega))⟩
      refine dr3 13 [fun (v : Value) (w' : World) => v = .agg #[.int .i64 n_, .slice a1 rs.length c1], fun (v : Value) (w' : World) => v = .slice a_ps ps.length c_ps, fun (v : Value) (w' : World) => v = .int .i64 (j : Int), fun (v : Value) (w' : World) => ∃ (ad0 : Addr), v = .pointer (some ad0) ∧ At (MS M [imm (.slice a1 rs.length c1) rs, box bb1 #[.int .i64 n_, .slice a1 rs.length c1] 24, imm (.slice a0 (newMR n).length c0) (newMR n), box bb0 #[.int .i64 0, .slice none 0 0] 24, imm (.slice a_ps ps.length c_ps) ps]) w' ad0 x0, fun (v : Value) (w' : World) => ∃ (ad0 : Addr), v = .pointer (some ((ad0).add 0)) ∧ At (MS M [imm (.slice a1 rs.length c1) rs, box bb1 #[.int .i64 n_, .slice a1 rs.length c1] 24, imm (.slice a0 (newMR n).length c0) (newMR n), box bb0 #[.int .i64 0, .slice none 0 0] 24, imm (.slice a_ps ps.length c_ps) ps]) w' ad0 x0, fun (v : Value) (w' : World) => v = .int .i64 x0.1 ∧ I64 (x0.1), fun (v : Value) (w' : World) => v = .slice a_ps ps.length c_ps, fun (v : Value) (w' : World) => v = .int .i64 (j : Int), fun (v : Value) (w' : World) => ∃ (ad1 : Addr), v = .pointer (some ad1) ∧ At (MS M [imm (.slice a1 rs.length c1) rs, box bb1 #[.int .i64 n_, .slice a1 rs.length c1] 24, imm (.slice a0 (newMR n).length c0) (newMR n), box bb0 #[.int .i64 0, .slice none 0 0] 24, imm (.slice a_ps ps.length c_ps) ps]) w' ad1 x0, fun (v : Value) (w' : World) => ∃ (ad1 : Addr), v = .pointer (some ((ad1).add 1)) ∧ At (MS M [imm (.slice a1 rs.length c1) rs, box bb1 #[.int .i64 n_, .slice a1 rs.length c1] 24, imm (.slice a0 (newMR n).length c0) (newMR n), box bb0 #[.int .i64 0, .slice none 0 0] 24, imm (.slice a_ps ps.length c_ps) ps]) w' ad1 x0, fun (v : Value) (w' : World) => v = .int .i64 x0.2 ∧ I64 (x0.2), fun (v : Value) (w' : World) => ∃ (a2 : Option Addr) (c2 : Nat), v = .tuple #[.agg #[.int .i64 (setMN n_ x0.1 x0.2), .slice a2 (setMR n_ rs x0.1 x0.2).length c2], .int .i64 (setME n_ x0.1 x0.2)] ∧ RV (MS M [imm (.slice a1 rs.length c1) rs, box bb1 #[.int .i64 n_, .slice a1 rs.length c1] 24, imm (.slice a0 (newMR n).length c0) (newMR n), box bb0 #[.int .i64 0, .slice none 0 0] 24, imm (.slice a_ps ps.length c_ps) ps]) w' (.slice a2 (setMR n_ rs x0.1 x0.2).length c2) (setMR n_ rs x0.1 x0.2), fun (v : Value) (w' : World) => ∃ (a2 : Option Addr) (c2 : Nat), v = .tuple #[.agg #[.int .i64 (setMN n_ x0.1 x0.2), .slice a2 (setMR n_ rs x0.1 x0.2).length c2], .int .i64 (setME n_ x0.1 x0.2)] ∧ RV (MS M [imm (.slice a1 rs.length c1) rs, box bb1 #[.int .i64 n_, .slice a1 rs.length c1] 24, imm (.slice a0 (newMR n).length c0) (newMR n), box bb0 #[.int .i64 0, .slice none 0 0] 24, imm (.slice a_ps ps.length c_ps) ps]) w' (.slice a2 (setMR n_ rs x0.1 x0.2).length c2) (setMR n_ rs x0.1 x0.2)] rfl (by kernel_rfl) ?_ ?_
      ·
        refine ⟨fun _ => ⟨fun f1 w6 hf0 xt4 hp0 => ?_, fun _ _ _ _ h => h⟩, ?_⟩
        ·
          have H10 := H7.ext xt4
          refine ldX H10 1 rfl ty24 rfl ((hf0 6 rfl).trans s2) (by decide) rfl ?_
          exact ⟨_, rfl, Ext.refl _, rfl⟩
        refine ⟨fun _ => ⟨fun f2 w7 hf1 xt5 hp1 => ?_, fun _ _ _ _ h => h⟩, ?_⟩
        ·
          have H11 := H7.ext xt5
          refine mv rfl ((hf1 1 rfl).trans s0) ?_
          exact ⟨_, rfl, Ext.refl _, rfl⟩
        refine ⟨fun _ => ⟨fun f3 w8 hf2 xt6 hp2 => ?_, fun _ _ _ _ h => h⟩, ?_⟩
        ·
          have H12 := H7.ext xt6
          refine mv rfl ((hf2 8 rfl).trans s4) ?_
          exact ⟨_, rfl, Ext.refl _, rfl⟩
        refine ⟨fun _ => ⟨fun f4 w9 hf3 xt7 hp3 => ?_, by rintro _ _ _ x_ ⟨ad0, e_, hA0⟩; exact ⟨ad0, e_, hA0.lift (Up.ext x_)⟩⟩, ?_⟩
        ·
          have H13 := H7.ext xt7
          have s5 : f4 26 = .slice a_ps ps.length c_ps := hp3 1 rfl rfl
          have s6 : f4 27 = .int .i64 (j : Int) := hp3 2 rfl rfl
          refine ia (H13.rv 4 rfl) rfl rfl s5 s6 (by first | omega | (simp; omega)) un31 ty76 ?_
          intro ad2 x2 hx2 hA2
          obtain rfl : x0 = x2 := Option.some.inj (hx0.symm.trans hx2)
          exact ⟨_, rfl, Ext.refl _, ⟨ad2, rfl, hA2⟩⟩
        refine ⟨fun _ => ⟨fun f5 w10 hf4 xt8 hp4 => ?_, by rintro _ _ _ x_ ⟨ad0, e_, hA0⟩; exact ⟨ad0, e_, hA0.lift (Up.ext x_)⟩⟩, ?_⟩
        ·
          have H14 := H7.ext xt8
          obtain ⟨ad3, s7, hA3⟩ : ∃ (ad3 : Addr), f5 28 = .pointer (some ad3) ∧ At (MS M [imm (.slice a1 rs.length c1) rs, box bb1 #[.int .i64 n_, .slice a1 rs.length c1] 24, imm (.slice a0 (newMR n).length c0) (newMR n), box bb0 #[.int .i64 0, .slice none 0 0] 24, imm (.slice a_ps ps.length c_ps) ps]) w10 ad3 x0 := hp4 3 rfl rfl
          have H15 := H14.put (it := atI ad3 x0) rfl hA3
          refine iaA rfl rfl s7 rfl (by omega) un76 ty3 ?_
          exact ⟨_, rfl, Ext.refl _, ⟨ad3, rfl, (by assumption)⟩⟩
        refine ⟨fun _ => ⟨fun f6 w11 hf5 xt9 hp5 => ?_, fun _ _ _ _ h => h⟩, ?_⟩
        ·
          have H16 := H7.ext xt9
          obtain ⟨ad4, s8, hA4⟩ : ∃ (ad4 : Addr), f6 29 = .pointer (some ((ad4).add 0)) ∧ At (MS M [imm (.slice a1 rs.length c1) rs, box bb1 #[.int .i64 n_, .slice a1 rs.length c1] 24, imm (.slice a0 (newMR n).length c0) (newMR n), box bb0 #[.int .i64 0, .slice none 0 0] 24, imm (.slice a_ps ps.length c_ps) ps]) w11 ad4 x0 := hp5 4 rfl rfl
          have H17 := H16.put (it := atI ad4 x0) rfl hA4
          refine ldI ((H17.atv 0 rfl)).fst.w ty3 rfl s8 ?_
          intro rv5
          exact ⟨_, rfl, Ext.refl _, ⟨rfl, rv5⟩⟩
        refine ⟨fun _ => ⟨fun f7 w12 hf6 xt10 hp6 => ?_, fun _ _ _ _ h => h⟩, ?_⟩
        ·
          have H18 := H7.ext xt10
          refine mv rfl ((hf6 1 rfl).trans s0) ?_
          exact ⟨_, rfl, Ext.refl _, rfl⟩
        refine ⟨fun _ => ⟨fun f8 w13 hf7 xt11 hp7 => ?_, fun _ _ _ _ h => h⟩, ?_⟩
        ·
          have H19 := H7.ext xt11
          refine mv rfl ((hf7 8 rfl).trans s4) ?_
          exact ⟨_, rfl, Ext.refl _, rfl⟩
        refine ⟨fun _ => ⟨fun f9 w14 hf8 xt12 hp8 => ?_, by rintro _ _ _ x_ ⟨ad1, e_, hA1⟩; exact ⟨ad1, e_, hA1.lift (Up.ext x_)⟩⟩, ?_⟩
        ·
          have H20 := H7.ext xt12
          have s9 : f9 31 = .slice a_ps ps.length c_ps := hp8 6 rfl rfl
          have s10 : f9 32 = .int .i64 (j : Int) := hp8 7 rfl rfl
          refine ia (H20.rv 4 rfl) rfl rfl s9 s10 (by first | omega | (simp; omega)) un31 ty76 ?_
          intro ad5 x3 hx3 hA5
          obtain rfl : x0 = x3 := Option.some.inj (hx0.symm.trans hx3)
          exact ⟨_, rfl, Ext.refl _, ⟨ad5, rfl, hA5⟩⟩
        refine ⟨fun _ => ⟨fun f10 w15 hf9 xt13 hp9 => ?_, by rintro _ _ _ x_ ⟨ad1, e_, hA1⟩; exact ⟨ad1, e_, hA1.lift (Up.ext x_)⟩⟩, ?_⟩
        ·
          have H21 := H7.ext xt13
          obtain ⟨ad6, s11, hA6⟩ : ∃ (ad6 : Addr), f10 33 = .pointer (some ad6) ∧ At (MS M [imm (.slice a1 rs.length c1) rs, box bb1 #[.int .i64 n_, .slice a1 rs.length c1] 24, imm (.slice a0 (newMR n).length c0) (newMR n), box bb0 #[.int .i64 0, .slice none 0 0] 24, imm (.slice a_ps ps.length c_ps) ps]) w15 ad6 x0 := hp9 8 rfl rfl
          have H22 := H21.put (it := atI ad6 x0) rfl hA6
          refine iaA rfl rfl s11 rfl (by omega) un76 ty3 ?_
          exact ⟨_, rfl, Ext.refl _, ⟨ad6, rfl, (by assumption)⟩⟩
        refine ⟨fun _ => ⟨fun f11 w16 hf10 xt14 hp10 => ?_, fun _ _ _ _ h => h⟩, ?_⟩
        ·
          have H23 := H7.ext xt14
          obtain ⟨ad7, s12, hA7⟩ : ∃ (ad7 : Addr), f11 34 = .pointer (some ((ad7).add 1)) ∧ At (MS M [imm (.slice a1 rs.length c1) rs, box bb1 #[.int .i64 n_, .slice a1 rs.length c1] 24, imm (.slice a0 (newMR n).length c0) (newMR n), box bb0 #[.int .i64 0, .slice none 0 0] 24, imm (.slice a_ps ps.length c_ps) ps]) w16 ad7 x0 := hp10 9 rfl rfl
          have H24 := H23.put (it := atI ad7 x0) rfl hA7
          refine ldI ((H24.atv 0 rfl)).snd.w ty3 rfl s12 ?_
          intro rv6
          exact ⟨_, rfl, Ext.refl _, ⟨rfl, rv6⟩⟩
        refine ⟨fun _ => ⟨fun f12 w17 hf11 xt15 hp11 => ?_, by rintro _ _ _ x_ ⟨a2, c2, e_, rv4⟩; exact ⟨a2, c2, e_, rv4.lift (Up.ext x_)⟩⟩, ?_⟩
        ·
          have H25 := H7.ext xt15
          have s13 : f12 25 = .agg #[.int .i64 n_, .slice a1 rs.length c1] := hp11 0 rfl rfl
          obtain ⟨s14, rv7⟩ : f12 30 = .int .i64 x0.1 ∧ I64 (x0.1) := hp11 5 rfl rfl
          obtain ⟨s15, rv8⟩ : f12 35 = .int .i64 x0.2 ∧ I64 (x0.2) := hp11 10 rfl rfl
          have cc2 := ref03_Set (mn := n_) (mr := rs) (i := x0.1) (j := x0.2) (w := w17) H25.mb (by rw [h1, (of_yes hq).1]; exact h_n) (H25.rv 0 rfl) (by unfold I64 at *; omega) (by unfold I64 at *; omega) (by rw [h1, h2]; exact hsq.1) (by rw [h2]; exact hsq.2.1) (by rw [h1]; exact hsq.2.2)
          refine ca go28 rfl (ec s13 (ec s14 (ec s15 e0))) cc2 ?_
          rintro _ w18 ⟨a3, c3, rfl, xt16, rv9⟩
          have rv10 := OwnsG.rv rv9 H25.mb
          have H26 := H25.ext xt16
          have H27 := H26.put (it := imm (.slice a3 (setMR n_ rs x0.1 x0.2).length c3) (setMR n_ rs x0.1 x0.2)) rfl rv10
          exact ⟨_, rfl, xt16, ⟨a3, c3, rfl, rv10⟩⟩
        refine ⟨fun _ => ⟨fun f13 w19 hf12 xt17 hp12 => ?_, by rintro _ _ _ x_ ⟨a2, c2, e_, rv4⟩; exact ⟨a2, c2, e_, rv4.lift (Up.ext x_)⟩⟩, ?_⟩
        ·
          have H28 := H7.ext xt17
          obtain ⟨a4, c4, s16, rv11⟩ : ∃ (a4 : Option Addr) (c4 : Nat), f13 36 = .tuple #[.agg #[.int .i64 (setMN n_ x0.1 x0.2), .slice a4 (setMR n_ rs x0.1 x0.2).length c4], .int .i64 (setME n_ x0.1 x0.2)] ∧ RV (MS M [imm (.slice a1 rs.length c1) rs, box bb1 #[.int .i64 n_, .slice a1 rs.length c1] 24, imm (.slice a0 (newMR n).length c0) (newMR n), box bb0 #[.int .i64 0, .slice none 0 0] 24, imm (.slice a_ps ps.length c_ps) ps]) w19 (.slice a4 (setMR n_ rs x0.1 x0.2).length c4) (setMR n_ rs x0.1 x0.2) := hp12 11 rfl rfl
          have H29 := H28.put (it := imm (.slice a4 (setMR n_ rs x0.1 x0.2).length c4) (setMR n_ rs x0.1 x0.2)) rfl rv11
          refine mv rfl s16 ?_
          exact ⟨_, rfl, Ext.refl _, ⟨a4, c4, rfl, rv11⟩⟩
        exact DSteps.rest rfl _
      · intro f14 w20 hf13 xt18 hp13
        have H30 := H7.ext xt18
        have s17 : f14 1 = .slice a_ps ps.length c_ps := (hf13 1 rfl).trans s0
        have s18 : f14 4 = .pointer (some ⟨bb0, 0, none⟩) := (hf13 4 rfl).trans s1
        have s19 : f14 6 = .pointer (some ⟨bb1, 0, none⟩) := (hf13 6 rfl).trans s2
        have s20 : f14 8 = .int .i64 (j : Int) := (hf13 8 rfl).trans s4
        obtain ⟨a5, c5, s21, rv12⟩ : ∃ (a5 : Option Addr) (c5 : Nat), f14 24 = .tuple #[.agg #[.int .i64 (setMN n_ x0.1 x0.2), .slice a5 (setMR n_ rs x0.1 x0.2).length c5], .int .i64 (setME n_ x0.1 x0.2)] ∧ RV (MS M [imm (.slice a1 rs.length c1) rs, box bb1 #[.int .i64 n_, .slice a1 rs.length c1] 24, imm (.slice a0 (newMR n).length c0) (newMR n), box bb0 #[.int .i64 0, .slice none 0 0] 24, imm (.slice a_ps ps.length c_ps) ps]) w20 (.slice a5 (setMR n_ rs x0.1 x0.2).length c5) (setMR n_ rs x0.1 x0.2) := hp13 12 rfl
        have H31 := H30.put (it := imm (.slice a5 (setMR n_ rs x0.1 x0.2).length c5) (setMR n_ rs x0.1 x0.2)) rfl rv12
        show TA _ _ _ _ 4 [true, true, true, true, true, true, true, true, true, true, true, true, true, false, false, false, false] _ _
        refine ta [13, 14] (by kernel_rfl) rfl ⟨⟨_, rfl, ?_⟩, ⟨_, rfl, ?_⟩, trivial⟩
        ·
          refine xt rfl s21 rfl ?_
          refine ta [14, 15] (by kernel_rfl) rfl ⟨⟨_, rfl, ?_⟩, ⟨_, rfl, ?_⟩, trivial⟩
          ·
            refine xt rfl s21 rfl ?_
            refine ta [15] (by kernel_rfl) rfl ⟨⟨_, rfl, ?_⟩, trivial⟩
            ·
              refine stX H31 2 rfl ty24 rfl rfl s19 rfl rfl rfl rfl ?_
              intro w21 (H32 : HI M w w21 [imm (.slice a5 (setMR n_ rs x0.1 x0.2).length c5) (setMR n_ rs x0.1 x0.2), imm (.slice a1 rs.length c1) rs, box bb1 #[.int .i64 (setMN n_ x0.1 x0.2), .slice a5 (setMR n_ rs x0.1 x0.2).length c5] 24, imm (.slice a0 (newMR n).length c0) (newMR n), box bb0 #[.int .i64 0, .slice none 0 0] 24, imm (.slice a_ps ps.length c_ps) ps])
              refine ta [16] (by kernel_rfl) rfl ⟨⟨_, rfl, ?_⟩, trivial⟩
              ·
                refine asg (v := .int .i64 (setME n_ x0.1 x0.2)) rfl rfl (ta0 (by kernel_rfl) (inb_normal (nx (rg (k (mv rfl s20 (k (add rfl rfl rfl rfl (by unfold I64 at *; omega) (k (asg (v := .int .i64 ((j : Int) + 1)) rfl rfl (z ?_)))))))))))
                have H33 := H32.put (it := imm (.slice a5 (setMR n_ rs x0.1 x0.2).length c5) (setMR n_ rs x0.1 x0.2)) rfl (H32.rv 0 rfl)
                have H34 : HI M w w21 [imm (.slice a5 (setMR n_ rs x0.1 x0.2).length c5) (setMR n_ rs x0.1 x0.2), box bb1 #[.int .i64 (setMN n_ x0.1 x0.2), .slice a5 (setMR n_ rs x0.1 x0.2).length c5] 24, imm (.slice a0 (newMR n).length c0) (newMR n), box bb0 #[.int .i64 0, .slice none 0 0] 24, imm (.slice a_ps ps.length c_ps) ps] := H33.pickN [0, 3, 4, 5, 6] (by decide) rfl
                refine loopN _ ?_ ⟨(j + 1), (setMN n_ x0.1 x0.2), (setMR n_ rs x0.1 x0.2), (setME n_ x0.1 x0.2), a5, c5, rfl, s17, s18, s19, (ieq rfl (by first | rfl | omega | (push_cast; omega))), (ieq rfl (by first | rfl | omega | (push_cast; omega))), H34, (by first | assumption | omega | simp | (simp; omega)), (by (try (have e_ := at_is hx1 hx0; subst e_)); rw [h1]; exact (hst hx0).1), (by (try (have e_ := at_is hx1 hx0; subst e_)); rw [h1, h2]; exact (hst hx0).2.1), (by (try (have e_ := at_is hx1 hx0; subst e_)); rw [h1]; exact (hst hx0).2.2)⟩
                omega
          ·
            refine stX H31 2 rfl ty24 rfl rfl s19 rfl rfl rfl rfl ?_
            intro w21 (H32 : HI M w w21 [imm (.slice a5 (setMR n_ rs x0.1 x0.2).length c5) (setMR n_ rs x0.1 x0.2), imm (.slice a1 rs.length c1) rs, box bb1 #[.int .i64 (setMN n_ x0.1 x0.2), .slice a5 (setMR n_ rs x0.1 x0.2).length c5] 24, imm (.slice a0 (newMR n).length c0) (newMR n), box bb0 #[.int .i64 0, .slice none 0 0] 24, imm (.slice a_ps ps.length c_ps) ps])
            refine ta [14] (by kernel_rfl) rfl ⟨⟨_, rfl, ?_⟩, trivial⟩
            ·
              refine xt rfl s21 rfl ?_
              refine ta [16] (by kernel_rfl) rfl ⟨⟨_, rfl, ?_⟩, trivial⟩
              ·
                refine asg (v := .int .i64 (setME n_ x0.1 x0.2)) rfl rfl (ta0 (by kernel_rfl) (inb_normal (nx (rg (k (mv rfl s20 (k (add rfl rfl rfl rfl (by unfold I64 at *; omega) (k (asg (v := .int .i64 ((j : Int) + 1)) rfl rfl (z ?_)))))))))))
                have H33 := H32.put (it := imm (.slice a5 (setMR n_ rs x0.1 x0.2).length c5) (setMR n_ rs x0.1 x0.2)) rfl (H32.rv 0 rfl)
                have H34 : HI M w w21 [imm (.slice a5 (setMR n_ rs x0.1 x0.2).length c5) (setMR n_ rs x0.1 x0.2), box bb1 #[.int .i64 (setMN n_ x0.1 x0.2), .slice a5 (setMR n_ rs x0.1 x0.2).length c5] 24, imm (.slice a0 (newMR n).length c0) (newMR n), box bb0 #[.int .i64 0, .slice none 0 0] 24, imm (.slice a_ps ps.length c_ps) ps] := H33.pickN [0, 3, 4, 5, 6] (by decide) rfl
                refine loopN _ ?_ ⟨(j + 1), (setMN n_ x0.1 x0.2), (setMR n_ rs x0.1 x0.2), (setME n_ x0.1 x0.2), a5, c5, rfl, s17, s18, s19, (ieq rfl (by first | rfl | omega | (push_cast; omega))), (ieq rfl (by first | rfl | omega | (push_cast; omega))), H34, (by first | assumption | omega | simp | (simp; omega)), (by (try (have e_ := at_is hx1 hx0; subst e_)); rw [h1]; exact (hst hx0).1), (by (try (have e_ := at_is hx1 hx0; subst e_)); rw [h1, h2]; exact (hst hx0).2.1), (by (try (have e_ := at_is hx1 hx0; subst e_)); rw [h1]; exact (hst hx0).2.2)⟩
                omega
        ·
          refine xt rfl s21 rfl ?_
          refine ta [13] (by kernel_rfl) rfl ⟨⟨_, rfl, ?_⟩, trivial⟩
          ·
            refine xt rfl s21 rfl ?_
            refine ta [15] (by kernel_rfl) rfl ⟨⟨_, rfl, ?_⟩, trivial⟩
            ·
              refine stX H31 2 rfl ty24 rfl rfl s19 rfl rfl rfl rfl ?_
              intro w21 (H32 : HI M w w21 [imm (.slice a5 (setMR n_ rs x0.1 x0.2).length c5) (setMR n_ rs x0.1 x0.2), imm (.slice a1 rs.length c1) rs, box bb1 #[.int .i64 (setMN n_ x0.1 x0.2), .slice a5 (setMR n_ rs x0.1 x0.2).length c5] 24, imm (.slice a0 (newMR n).length c0) (newMR n), box bb0 #[.int .i64 0, .slice none 0 0] 24, imm (.slice a_ps ps.length c_ps) ps])
              refine ta [16] (by kernel_rfl) rfl ⟨⟨_, rfl, ?_⟩, trivial⟩
              ·
                refine asg (v := .int .i64 (setME n_ x0.1 x0.2)) rfl rfl (ta0 (by kernel_rfl) (inb_normal (nx (rg (k (mv rfl s20 (k (add rfl rfl rfl rfl (by unfold I64 at *; omega) (k (asg (v := .int .i64 ((j : Int) + 1)) rfl rfl (z ?_)))))))))))
                have H33 := H32.put (it := imm (.slice a5 (setMR n_ rs x0.1 x0.2).length c5) (setMR n_ rs x0.1 x0.2)) rfl (H32.rv 0 rfl)
                have H34 : HI M w w21 [imm (.slice a5 (setMR n_ rs x0.1 x0.2).length c5) (setMR n_ rs x0.1 x0.2), box bb1 #[.int .i64 (setMN n_ x0.1 x0.2), .slice a5 (setMR n_ rs x0.1 x0.2).length c5] 24, imm (.slice a0 (newMR n).length c0) (newMR n), box bb0 #[.int .i64 0, .slice none 0 0] 24, imm (.slice a_ps ps.length c_ps) ps] := H33.pickN [0, 3, 4, 5, 6] (by decide) rfl
                refine loopN _ ?_ ⟨(j + 1), (setMN n_ x0.1 x0.2), (setMR n_ rs x0.1 x0.2), (setME n_ x0.1 x0.2), a5, c5, rfl, s17, s18, s19, (ieq rfl (by first | rfl | omega | (push_cast; omega))), (ieq rfl (by first | rfl | omega | (push_cast; omega))), H34, (by first | assumption | omega | simp | (simp; omega)), (by (try (have e_ := at_is hx1 hx0; subst e_)); rw [h1]; exact (hst hx0).1), (by (try (have e_ := at_is hx1 hx0; subst e_)); rw [h1, h2]; exact (hst hx0).2.1), (by (try (have e_ := at_is hx1 hx0; subst e_)); rw [h1]; exact (hst hx0).2.2)⟩
                omega
    ·
      have p1 := of_decide_eq_false b1
      refine ex (then_exit (loop_exit (inb_here (nx (sq (sq (rg (k (mv rfl s3 (k (neq rfl rfl rfl rfl (z (nx (cdT rfl rfl (by rw [show (decide (e_ = 0)) = false from b1]; rfl) (sq (rg (k (bd (v := .agg #[.int .i64 0, .slice none 0 0]) rfl pb0 (fun _ => by kernel_rfl) (k (mv rfl s3 (k (stX H7 3 rfl ty24 rfl rfl s1 rfl rfl rfl rfl ?_))))))))))))))))))))))
      intro w5 (H8 : HI M w w5 [imm (.slice a1 rs.length c1) rs, box bb1 #[.int .i64 n_, .slice a1 rs.length c1] 24, imm (.slice a0 (newMR n).length c0) (newMR n), box bb0 #[.int .i64 0, .slice none 0 0] 24, imm (.slice a_ps ps.length c_ps) ps])
      refine k (asg (v := .int .i64 e_) rfl rfl (z (nx (rt (then_ret (rc2 H8 3 rfl ty24 rfl rfl rfl s1 rfl (by decide) ?_))))))
      have e0 : (0 : Int) = ofMN n ps := by first | (exfalso; omega) | exact (of_no (ofOk_less j (ofME_not (n := n) (by rw [← h3]; omega)))).1.symm | (rw [h1, take_end (by omega)])
      have e1 : ([] : List (List (BitVec 64))) = ofMR n ps := by first | (exfalso; omega) | exact (of_no (ofOk_less j (ofME_not (n := n) (by rw [← h3]; omega)))).2.1.symm | (rw [h2, take_end (by omega)])
      have e2 : (e_ : Int) = ofME n ps := by first | (exfalso; omega) | (rw [(of_no (ofOk_less j (ofME_not (n := n) (by rw [← h3]; omega)))).2.2, h3, (of_no (ofME_not (n := n) (ps := ps.take j) (by rw [← h3]; omega))).2.2]) | exact (of_yes (by have h := ofME_zero (n := n) (ps := ps.take j) (by rw [← h3]; omega); rwa [take_end (by omega)] at h)).2.2.symm
      have ev_ := cg3 (fun (x_0 : Int) (x_1 : List (List (BitVec 64))) (x_2 : Int) => (.tuple #[.agg #[.int .i64 x_0, .slice none x_1.length 0], .int .i64 x_2] : Value)) e0 e1 e2
      exact ⟨none, 0, ev_, H8.below, (congrArg (fun (x_ : List (List (BitVec 64))) => RV _ _ (.slice none x_.length 0) x_) e1).mp (rv_nil _ _)⟩
  · -- decide ((j : Int) < (ps.length : Int)) is False
    have p0 := of_decide_eq_false b0
    refine k (gn rfl rfl rfl b0 (k (gn rfl rfl rfl b0 (k (pickF rfl rfl rfl rfl b0 rfl (z (nx (cdF rfl rfl rfl (ex (then_exit (loop_exit (inb_here (nx (sq (sq (rg (k (mv rfl s3 (k (neq rfl rfl rfl rfl (z (nx ?_))))))))))))))))))))))
    refine cd (b := !decide (e_ = 0)) rfl rfl (fun b1 => ?_) (fun b1 => ?_)
    ·
      have p1 := of_decide_eq_false (nott b1)
      refine sq (rg (k (bd (v := .agg #[.int .i64 0, .slice none 0 0]) rfl pb0 (fun _ => by kernel_rfl) (k (mv rfl s3 (k (stX H7 3 rfl ty24 rfl rfl s1 rfl rfl rfl rfl ?_)))))))
      intro w5 (H8 : HI M w w5 [imm (.slice a1 rs.length c1) rs, box bb1 #[.int .i64 n_, .slice a1 rs.length c1] 24, imm (.slice a0 (newMR n).length c0) (newMR n), box bb0 #[.int .i64 0, .slice none 0 0] 24, imm (.slice a_ps ps.length c_ps) ps])
      refine k (asg (v := .int .i64 e_) rfl rfl (z (nx (rt (then_ret (rc2 H8 3 rfl ty24 rfl rfl rfl s1 rfl (by decide) ?_))))))
      have e0 : (0 : Int) = ofMN n ps := by first | (exfalso; omega) | exact (of_no (ofOk_less j (ofME_not (n := n) (by rw [← h3]; omega)))).1.symm | (rw [h1, take_end (by omega)])
      have e1 : ([] : List (List (BitVec 64))) = ofMR n ps := by first | (exfalso; omega) | exact (of_no (ofOk_less j (ofME_not (n := n) (by rw [← h3]; omega)))).2.1.symm | (rw [h2, take_end (by omega)])
      have e2 : (e_ : Int) = ofME n ps := by first | (exfalso; omega) | (rw [(of_no (ofOk_less j (ofME_not (n := n) (by rw [← h3]; omega)))).2.2, h3, (of_no (ofME_not (n := n) (ps := ps.take j) (by rw [← h3]; omega))).2.2]) | exact (of_yes (by have h := ofME_zero (n := n) (ps := ps.take j) (by rw [← h3]; omega); rwa [take_end (by omega)] at h)).2.2.symm
      have ev_ := cg3 (fun (x_0 : Int) (x_1 : List (List (BitVec 64))) (x_2 : Int) => (.tuple #[.agg #[.int .i64 x_0, .slice none x_1.length 0], .int .i64 x_2] : Value)) e0 e1 e2
      exact ⟨none, 0, ev_, H8.below, (congrArg (fun (x_ : List (List (BitVec 64))) => RV _ _ (.slice none x_.length 0) x_) e1).mp (rv_nil _ _)⟩
    ·
      have p1 := of_decide_eq_true (notf b1)
      refine sk (nx (sq (rg (k (ldX H7 1 rfl ty24 rfl s2 (by decide) rfl (k (stX H7 3 rfl ty24 rfl rfl s1 rfl rfl rfl rfl ?_)))))))
      intro w5 (H8 : HI M w w5 [imm (.slice a1 rs.length c1) rs, box bb1 #[.int .i64 n_, .slice a1 rs.length c1] 24, imm (.slice a0 (newMR n).length c0) (newMR n), box bb0 #[.int .i64 n_, .slice a1 rs.length c1] 24, imm (.slice a_ps ps.length c_ps) ps])
      refine k (asg (v := .int .i64 0) rfl rfl (z (nx (rt (rc2 H8 3 rfl ty24 rfl rfl rfl s1 rfl (by decide) ?_)))))
      have e0 : (n_ : Int) = ofMN n ps := by first | (exfalso; omega) | exact (of_no (ofOk_less j (ofME_not (n := n) (by rw [← h3]; omega)))).1.symm | (rw [h1, take_end (by omega)])
      have e1 : (rs : List (List (BitVec 64))) = ofMR n ps := by first | (exfalso; omega) | exact (of_no (ofOk_less j (ofME_not (n := n) (by rw [← h3]; omega)))).2.1.symm | (rw [h2, take_end (by omega)])
      have e2 : (0 : Int) = ofME n ps := by first | (exfalso; omega) | (rw [(of_no (ofOk_less j (ofME_not (n := n) (by rw [← h3]; omega)))).2.2, h3, (of_no (ofME_not (n := n) (ps := ps.take j) (by rw [← h3]; omega))).2.2]) | exact (of_yes (by have h := ofME_zero (n := n) (ps := ps.take j) (by rw [← h3]; omega); rwa [take_end (by omega)] at h)).2.2.symm
      have ev_ := cg3 (fun (x_0 : Int) (x_1 : List (List (BitVec 64))) (x_2 : Int) => (.tuple #[.agg #[.int .i64 x_0, .slice a1 x_1.length c1], .int .i64 x_2] : Value)) e0 e1 e2
      exact ⟨a1, c1, ev_, H8.below, (congrArg (fun (x_ : List (List (BitVec 64))) => RV _ _ (.slice a1 x_.length c1) x_) e1).mp (H8.gives_out 0 rfl)⟩
set_option maxRecDepth 100000 in
set_option maxHeartbeats 1600000 in
theorem ref03_Has {M : Nat → Prop} {w : World} {mn : Int} {a_mr : Option Addr} {c_mr : Nat} {mr : List (List (BitVec 64))} {i : Int} {j : Int} (hM : ∀ b, M b → b < w.heap.size) (h_mn : I64 mn) (h_mr : RV M w (.slice a_mr mr.length c_mr) mr) (h_i : I64 i) (h_j : I64 j) (hsq_m : ((mr.length : Nat) : Int) = mn) (hrw_m : ∀ x ∈ mr, x.length ≤ 1000000000) (hl4_m : mn ≤ 4096) : Calls Tryd.prog 45 #[.agg #[.int .i64 mn, .slice a_mr mr.length c_mr], .int .i64 i, .int .i64 j] w (Ret fun v w' =>  v = .bool (hasM mn mr i j) ∧ Ext w w') := by
  refine enter 20 Tryd.func45 rfl rfl rfl fun f0 ha => ?_
  have H := HI.start (M0 := M) (w := w) hM
  have H0 := H.put (it := imm (.slice a_mr mr.length c_mr) mr) rfl (by rw [MS_nil]; exact h_mr)
  have ln_mr := rv_len h_mr
  have i0 : f0 0 = .agg #[.int .i64 mn, .slice a_mr mr.length c_mr] := ha 0 (by simp)
  have i1 : f0 1 = .int .i64 i := ha 1 (by simp)
  have i2 : f0 2 = .int .i64 j := ha 2 (by simp)
  refine sq (rg (k (bx H0 rfl i0 ?_)))
  intro bb0 w0 xt0 (H1 : HI M w w0 [box bb0 #[.int .i64 mn, .slice a_mr mr.length c_mr] 24, imm (.slice a_mr mr.length c_mr) mr])
  refine k (asg (v := .bool false) rfl rfl (z (nx (sq (rg (k (ldX H1 0 rfl ty24 rfl rfl (by decide) rfl (k (mv rfl i1 (k (mv rfl i2 (k ?_))))))))))))
  have cc0 := ref03_in (mn := mn) (i := i) (j := j) (a_mu := a_mr) (n_mu := mr.length) (c_mu := c_mr) (w := w0) (by unfold I64 at *; omega) (by unfold I64 at *; omega) (by unfold I64 at *; omega)
  refine ca go74 rfl (ec rfl (ec rfl (ec rfl e0))) cc0 ?_
  rintro _ w1 ⟨rfl, xt1⟩
  have H2 := H1.ext xt1
  refine k (mv (v := .bool (inM mn [i, j])) rfl rfl ?_)
  rcases Bool.eq_false_or_eq_true (inM mn [i, j]) with b0 | b0
  · -- inM mn [i, j] is True
    refine k (gy rfl rfl rfl b0 (fa fl24_1 rfl rfl (k (gy rfl rfl rfl b0 (ldX H2 0 rfl ty22 rfl rfl (by decide) rfl (k (gy rfl rfl rfl b0 (mv rfl i1 (k (gy rfl rfl rfl b0 (ia (H2.rv 1 rfl) rfl rfl rfl rfl (by have hr := inM_two.1 b0; omega) un22 ty73 ?_)))))))))))
    intro ad0 x0 hx0 hA0
    refine k (gy rfl rfl rfl b0 (ldL hA0.w ty73 rfl rfl ?_))
    intro a0 c0 rv0
    have ln0 := rv_len rv0
    have H3 := H2.put (it := imm (.slice a0 x0.length c0) x0) rfl rv0
    refine k (gy rfl rfl rfl b0 (mv rfl i2 (k (gy rfl rfl rfl b0 ?_))))
    have cc1 := ref02_Has (r := x0) (i := j) (w := w1) H3.mb (H3.rv 0 rfl) (by unfold I64 at *; omega) (by first | omega | exact hrw_m _ (List.mem_of_getElem? hx0))
    refine ca go58 rfl (ec rfl (ec rfl e0)) cc1 ?_
    rintro _ w2 ⟨rfl, xt2⟩
    have H4 := H3.ext xt2
    refine k (pickT rfl rfl rfl rfl b0 rfl (k (asg (v := .bool (hasR x0 j)) rfl rfl (z (nx (rt (r1 rfl rfl ?_)))))))
    have e0 : (hasR x0 j : Bool) = hasM mn mr i j := by unfold hasM; first | (rw [rowAt_of hx0, b0]; rfl) | (rw [b0]; rfl)
    have ev_ := cg1 (fun (x_0 : Bool) => (.bool x_0 : Value)) e0
    exact ⟨ev_, H4.below⟩
  · -- inM mn [i, j] is False
    refine k (gn rfl rfl rfl b0 (k (gn rfl rfl rfl b0 (k (gn rfl rfl rfl b0 (k (gn rfl rfl rfl b0 (k (gn rfl rfl rfl b0 (k (gn rfl rfl rfl b0 (k (gn rfl rfl rfl b0 (k (pickF rfl rfl rfl rfl b0 rfl (k (asg (v := .bool false) rfl rfl (z (nx (rt (r1 rfl rfl ?_)))))))))))))))))))))
    have e0 : (false : Bool) = hasM mn mr i j := by unfold hasM; first | (rw [rowAt_of hx0, b0]; rfl) | (rw [b0]; rfl)
    have ev_ := cg1 (fun (x_0 : Bool) => (.bool x_0 : Value)) e0
    exact ⟨ev_, H2.below⟩
set_option maxRecDepth 100000 in
set_option maxHeartbeats 1600000 in
theorem ref03_Right {M : Nat → Prop} {w : World} {mn : Int} {a_mr : Option Addr} {c_mr : Nat} {mr : List (List (BitVec 64))} (hM : ∀ b, M b → b < w.heap.size) (h_mn : I64 mn) (h_mr : RV M w (.slice a_mr mr.length c_mr) mr) : Calls Tryd.prog 13 #[.agg #[.int .i64 mn, .slice a_mr mr.length c_mr]] w (Ret fun v w' =>  v = .bool (rightS mn mr) ∧ Ext w w') := by
  refine enter 57 Tryd.func13 rfl rfl rfl fun f0 ha => ?_
  have H := HI.start (M0 := M) (w := w) hM
  have H0 := H.put (it := imm (.slice a_mr mr.length c_mr) mr) rfl (by rw [MS_nil]; exact h_mr)
  have ln_mr := rv_len h_mr
  have i0 : f0 0 = .agg #[.int .i64 mn, .slice a_mr mr.length c_mr] := ha 0 (by simp)
  refine sq (rg (k (bx H0 rfl i0 ?_)))
  intro bb0 w0 xt0 (H1 : HI M w w0 [box bb0 #[.int .i64 mn, .slice a_mr mr.length c_mr] 24, imm (.slice a_mr mr.length c_mr) mr])
  refine k (asg (v := .bool false) rfl rfl (z (nx (sq (sq (rg (k (fa fl24_0 rfl rfl (k (ldX H1 0 rfl ty3 rfl rfl (by decide) rfl (k (lss rfl rfl rfl rfl (k (mv (v := .bool (decide (mn < 0))) rfl rfl ?_))))))))))))))
  rcases Bool.eq_false_or_eq_true (decide (mn < 0)) with b0 | b0
  · -- decide (mn < 0) is True
    have p0 := of_decide_eq_true b0
    refine k (gn rfl rfl rfl b0 (k (gn rfl rfl rfl b0 (k (gn rfl rfl rfl b0 (k (pickT rfl rfl rfl rfl b0 rfl (k (mv (v := .bool true) rfl rfl (k (gn rfl rfl rfl rfl (k (gn rfl rfl rfl rfl (k (gn rfl rfl rfl rfl (k (gn rfl rfl rfl rfl (k (gn rfl rfl rfl rfl (k (gn rfl rfl rfl rfl (k (pickT rfl rfl rfl rfl rfl rfl (z (nx (cdT rfl rfl rfl (sq (rg (k (asg (v := .bool false) rfl rfl (z (nx (rt (then_ret (r1 rfl rfl ?_)))))))))))))))))))))))))))))))))))
    have e0 : (false : Bool) = rightS mn mr := by first | exact rightS_no (by omega) | exact right_end_ (by omega) (by omega) (by omega) hs (by omega) | exact right_row hx0 (rowOk_len (by omega)) | ((try (have e_ := at_is hx1 hx0; subst e_)); (try (have e_ := at_is hx2 hx0; subst e_)); (try (have e_ := at_is hx3 hx0; subst e_)); (try (have e_ := at_is hx4 hx0; subst e_)); (try (have e_ := at_is hx5 hx0; subst e_)); (try (have e_ := at_is hx6 hx0; subst e_)); exact right_row hx0 (rowOk_bit (k := mn + (q : Int)) (by omega) (by omega) (by omega) (by assumption)))
    have ev_ := cg1 (fun (x_0 : Bool) => (.bool x_0 : Value)) e0
    exact ⟨ev_, H1.below⟩
  · -- decide (mn < 0) is False
    have p0 := of_decide_eq_false b0
    refine k (gy rfl rfl rfl b0 (fa fl24_0 rfl rfl (k (gy rfl rfl rfl b0 (ldX H1 0 rfl ty3 rfl rfl (by decide) rfl (k (gy rfl rfl rfl b0 (gtr rfl rfl rfl rfl (k (pickF rfl rfl rfl rfl b0 rfl (k (mv (v := .bool (decide (4096 < mn))) rfl rfl ?_))))))))))))
    rcases Bool.eq_false_or_eq_true (decide (4096 < mn)) with b1 | b1
    · -- decide (4096 < mn) is True
      have p1 := of_decide_eq_true b1
      refine k (gn rfl rfl rfl b1 (k (gn rfl rfl rfl b1 (k (gn rfl rfl rfl b1 (k (gn rfl rfl rfl b1 (k (gn rfl rfl rfl b1 (k (gn rfl rfl rfl b1 (k (pickT rfl rfl rfl rfl b1 rfl (z (nx (cdT rfl rfl rfl (sq (rg (k (asg (v := .bool false) rfl rfl (z (nx (rt (then_ret (r1 rfl rfl ?_)))))))))))))))))))))))))
      have e0 : (false : Bool) = rightS mn mr := by first | exact rightS_no (by omega) | exact right_end_ (by omega) (by omega) (by omega) hs (by omega) | exact right_row hx0 (rowOk_len (by omega)) | ((try (have e_ := at_is hx1 hx0; subst e_)); (try (have e_ := at_is hx2 hx0; subst e_)); (try (have e_ := at_is hx3 hx0; subst e_)); (try (have e_ := at_is hx4 hx0; subst e_)); (try (have e_ := at_is hx5 hx0; subst e_)); (try (have e_ := at_is hx6 hx0; subst e_)); exact right_row hx0 (rowOk_bit (k := mn + (q : Int)) (by omega) (by omega) (by omega) (by assumption)))
      have ev_ := cg1 (fun (x_0 : Bool) => (.bool x_0 : Value)) e0
      exact ⟨ev_, H1.below⟩
    · -- decide (4096 < mn) is False
      have p1 := of_decide_eq_false b1
      refine k (gy rfl rfl rfl b1 (fa fl24_1 rfl rfl (k (gy rfl rfl rfl b1 (ldX H1 0 rfl ty22 rfl rfl (by decide) rfl (k (gy rfl rfl rfl b1 (lnS rfl rfl un22 (k (gy rfl rfl rfl b1 (fa fl24_0 rfl rfl (k (gy rfl rfl rfl b1 (ldX H1 0 rfl ty3 rfl rfl (by decide) rfl (k (gy rfl rfl rfl b1 (neq rfl rfl rfl rfl (k (pickF rfl rfl rfl rfl b1 rfl (z (nx ?_)))))))))))))))))))))
      refine cd (b := !decide ((mr.length : Int) = mn)) rfl rfl (fun b2 => ?_) (fun b2 => ?_)
      ·
        have p2 := of_decide_eq_false (nott b2)
        refine sq (rg (k (asg (v := .bool false) rfl rfl (z (nx (rt (then_ret (r1 rfl rfl ?_))))))))
        have e0 : (false : Bool) = rightS mn mr := by first | exact rightS_no (by omega) | exact right_end_ (by omega) (by omega) (by omega) hs (by omega) | exact right_row hx0 (rowOk_len (by omega)) | ((try (have e_ := at_is hx1 hx0; subst e_)); (try (have e_ := at_is hx2 hx0; subst e_)); (try (have e_ := at_is hx3 hx0; subst e_)); (try (have e_ := at_is hx4 hx0; subst e_)); (try (have e_ := at_is hx5 hx0; subst e_)); (try (have e_ := at_is hx6 hx0; subst e_)); exact right_row hx0 (rowOk_bit (k := mn + (q : Int)) (by omega) (by omega) (by omega) (by assumption)))
        have ev_ := cg1 (fun (x_0 : Bool) => (.bool x_0 : Value)) e0
        exact ⟨ev_, H1.below⟩
      ·
        have p2 := of_decide_eq_true (notf b2)
        refine sk (nx (sq (sq (rg (k (asg (v := .int .i64 0) rfl rfl (z (nx (bk ?_)))))))))
        refine lp (fun m f w' => ∃ (i : Nat), m = mr.length - i ∧ f 1 = .pointer (some ⟨bb0, 0, none⟩) ∧ f 3 = .int .i64 (i : Int) ∧  HI M w w' [box bb0 #[.int .i64 mn, .slice a_mr mr.length c_mr] 24, imm (.slice a_mr mr.length c_mr) mr] ∧ (i ≤ mr.length) ∧ ((mr.take i).all (rowOk mn) = true)) _ ⟨0, rfl, rfl, (ieq rfl (by first | rfl | omega | simp)), H1, (by first | assumption | omega | simp | (simp; omega)), (by rfl)⟩ ?_
        rintro _ f0 w1 ⟨i, rfl, s0, s1, H2, hi_, hs⟩
        refine sq (sq (rg (k (mv rfl s1 (k (fa fl24_0 rfl s0 (k (ldX H2 0 rfl ty3 rfl rfl (by decide) rfl (k (lss rfl rfl rfl rfl (z (nx ?_))))))))))))
        refine cd (b := decide ((i : Int) < mn)) rfl rfl (fun b3 => ?_) (fun b3 => ?_)
        ·
          have p3 := of_decide_eq_true b3
          refine sk (nx (sq (bk (sq (sq ?_)))))
          obtain ⟨x0, hx0⟩ : ∃ x, mr[(i : Int).toNat]? = some x := ⟨_, List.getElem?_eq_getElem (by first | omega | (simp; omega))⟩
          refine dr 9 [fun (v : Value) (w' : World) => v = .pointer (some ⟨bb0, 1, none⟩), fun (v : Value) (w' : World) => v = .slice a_mr mr.length c_mr, fun (v : Value) (w' : World) => v = .int .i64 (i : Int), fun (v : Value) (w' : World) => ∃ (ad0 : Addr), v = .pointer (some ad0) ∧ At (MS M [box bb0 #[.int .i64 mn, .slice a_mr mr.length c_mr] 24, imm (.slice a_mr mr.length c_mr) mr]) w' ad0 x0, fun (v : Value) (w' : World) => ∃ (a0 : Option Addr) (c0 : Nat), v = .slice a0 x0.length c0 ∧ RV (MS M [box bb0 #[.int .i64 mn, .slice a_mr mr.length c_mr] 24, imm (.slice a_mr mr.length c_mr) mr]) w' (.slice a0 x0.length c0) x0, fun (v : Value) (w' : World) => v = .int .i64 (x0.length : Int), fun (v : Value) (w' : World) => v = .pointer (some ⟨bb0, 0, none⟩), fun (v : Value) (w' : World) => v = .int .i64 mn, fun (v : Value) (w' : World) => v = .int .i64 ((words mn : Nat) : Int)] rfl (by kernel_rfl) ?_ ?_
          ·
            refine ⟨fun _ => ⟨fun f1 w3 hf0 xt2 hp0 => ?_, fun _ _ _ _ h => h⟩, ?_⟩
            ·
              have H5 := H2.ext xt2
              refine fa fl24_1 rfl ((hf0 1 rfl).trans s0) ?_
              exact ⟨_, rfl, Ext.refl _, rfl⟩
            refine ⟨fun _ => ⟨fun f2 w4 hf1 xt3 hp1 => ?_, fun _ _ _ _ h => h⟩, ?_⟩
            ·
              have H6 := H2.ext xt3
              have s2 : f2 27 = .pointer (some ⟨bb0, 1, none⟩) := hp1 0 rfl rfl
              refine ldX H6 0 rfl ty22 rfl s2 (by decide) rfl ?_
              exact ⟨_, rfl, Ext.refl _, rfl⟩
            refine ⟨fun _ => ⟨fun f3 w5 hf2 xt4 hp2 => ?_, fun _ _ _ _ h => h⟩, ?_⟩
            ·
              have H7 := H2.ext xt4
              refine mv rfl ((hf2 3 rfl).trans s1) ?_
              exact ⟨_, rfl, Ext.refl _, rfl⟩
            refine ⟨fun _ => ⟨fun f4 w6 hf3 xt5 hp3 => ?_, by rintro _ _ _ x_ ⟨ad0, e_, hA0⟩; exact ⟨ad0, e_, hA0.lift (Up.ext x_)⟩⟩, ?_⟩
            ·
              have H8 := H2.ext xt5
              have s3 : f4 28 = .slice a_mr mr.length c_mr := hp3 1 rfl rfl
              have s4 : f4 29 = .int .i64 (i : Int) := hp3 2 rfl rfl
              refine ia (H8.rv 1 rfl) rfl rfl s3 s4 (by first | omega | (simp; omega)) un22 ty73 ?_
              intro ad1 x1 hx1 hA1
              obtain rfl : x0 = x1 := Option.some.inj (hx0.symm.trans hx1)
              exact ⟨_, rfl, Ext.refl _, ⟨ad1, rfl, hA1⟩⟩
            refine ⟨fun _ => ⟨fun f5 w7 hf4 xt6 hp4 => ?_, by rintro _ _ _ x_ ⟨a0, c0, e_, rv0⟩; exact ⟨a0, c0, e_, rv0.lift (Up.ext x_)⟩⟩, ?_⟩
            ·
              have H9 := H2.ext xt6
              obtain ⟨ad2, s5, hA2⟩ : ∃ (ad2 : Addr), f5 30 = .pointer (some ad2) ∧ At (MS M [box bb0 #[.int .i64 mn, .slice a_mr mr.length c_mr] 24, imm (.slice a_mr mr.length c_mr) mr]) w7 ad2 x0 := hp4 3 rfl rfl
              have H10 := H9.put (it := atI ad2 x0) rfl hA2
              refine ldL (H10.atv 0 rfl).w ty73 rfl s5 ?_
              intro a1 c1 rv1
              have ln1 := rv_len rv1
              have H11 := H10.put (it := imm (.slice a1 x0.length c1) x0) rfl rv1
              exact ⟨_, rfl, Ext.refl _, ⟨a1, c1, rfl, (rv_drop rfl rv1)⟩⟩
            refine ⟨fun _ => ⟨fun f6 w8 hf5 xt7 hp5 => ?_, fun _ _ _ _ h => h⟩, ?_⟩
            ·
              have H12 := H2.ext xt7
              obtain ⟨a2, c2, s6, rv2⟩ : ∃ (a2 : Option Addr) (c2 : Nat), f6 31 = .slice a2 x0.length c2 ∧ RV (MS M [box bb0 #[.int .i64 mn, .slice a_mr mr.length c_mr] 24, imm (.slice a_mr mr.length c_mr) mr]) w8 (.slice a2 x0.length c2) x0 := hp5 4 rfl rfl
              have H13 := H12.put (it := imm (.slice a2 x0.length c2) x0) rfl rv2
              refine lnS rfl s6 un73 ?_
              exact ⟨_, rfl, Ext.refl _, rfl⟩
            refine ⟨fun _ => ⟨fun f7 w9 hf6 xt8 hp6 => ?_, fun _ _ _ _ h => h⟩, ?_⟩
            ·
              have H14 := H2.ext xt8
              refine fa fl24_0 rfl ((hf6 1 rfl).trans s0) ?_
              exact ⟨_, rfl, Ext.refl _, rfl⟩
            refine ⟨fun _ => ⟨fun f8 w10 hf7 xt9 hp7 => ?_, fun _ _ _ _ h => h⟩, ?_⟩
            ·
              have H15 := H2.ext xt9
              have s7 : f8 33 = .pointer (some ⟨bb0, 0, none⟩) := hp7 6 rfl rfl
              refine ldX H15 0 rfl ty3 rfl s7 (by decide) rfl ?_
              exact ⟨_, rfl, Ext.refl _, rfl⟩
            refine ⟨fun _ => ⟨fun f9 w11 hf8 xt10 hp8 => ?_, fun _ _ _ _ h => h⟩, ?_⟩
            ·
              have H16 := H2.ext xt10
              have s8 : f9 34 = .int .i64 mn := hp8 7 rfl rfl
              have cc1 := ref02_Words (n := mn) (w := w11) (by unfold I64 at *; omega) (by omega)
              refine ca go57 rfl (ec s8 e0) cc1 ?_
              rintro _ w12 ⟨rfl, xt11⟩
              have H17 := H16.ext xt11
              exact ⟨_, rfl, xt11, rfl⟩
            exact DSteps.rest rfl _
          · intro f10 w13 hf9 xt12 hp9
            have H18 := H2.ext xt12
            have s9 : f10 1 = .pointer (some ⟨bb0, 0, none⟩) := (hf9 1 rfl).trans s0
            have s10 : f10 3 = .int .i64 (i : Int) := (hf9 3 rfl).trans s1
            have s11 : f10 32 = .int .i64 (x0.length : Int) := hp9 5 rfl
            have s12 : f10 35 = .int .i64 ((words mn : Nat) : Int) := hp9 8 rfl
            refine k (neq rfl rfl s11 s12 (z (nx ?_)))
            refine cd (b := !decide ((x0.length : Int) = ((words mn : Nat) : Int))) rfl rfl (fun b4 => ?_) (fun b4 => ?_)
            ·
              have p4 := of_decide_eq_false (nott b4)
              refine sq (rg (k (asg (v := .bool false) rfl rfl (z (nx (rt (then_ret (inb_ret (then_ret (loop_ret (inb_ret (then_ret (r1 rfl rfl ?_)))))))))))))
              have e0 : (false : Bool) = rightS mn mr := by first | exact rightS_no (by omega) | exact right_end_ (by omega) (by omega) (by omega) hs (by omega) | exact right_row hx0 (rowOk_len (by omega)) | ((try (have e_ := at_is hx1 hx0; subst e_)); (try (have e_ := at_is hx2 hx0; subst e_)); (try (have e_ := at_is hx3 hx0; subst e_)); (try (have e_ := at_is hx4 hx0; subst e_)); (try (have e_ := at_is hx5 hx0; subst e_)); (try (have e_ := at_is hx6 hx0; subst e_)); exact right_row hx0 (rowOk_bit (k := mn + (q : Int)) (by omega) (by omega) (by omega) (by assumption)))
              have ev_ := cg1 (fun (x_0 : Bool) => (.bool x_0 : Value)) e0
              exact ⟨ev_, H18.below⟩
            ·
              have p4 := of_decide_eq_true (notf b4)
              refine sk (nx (sq (rg (k (fa fl24_0 rfl s9 (k (ldX H18 0 rfl ty3 rfl rfl (by decide) rfl (k (asg (v := .int .i64 mn) rfl rfl (z (nx (bk ?_))))))))))))
              refine lp (fun m f w' => ∃ (q : Nat), m = (64 * ((mr.getD i []).length : Int) - mn).toNat - q ∧ f 1 = .pointer (some ⟨bb0, 0, none⟩) ∧ f 3 = .int .i64 (i : Int) ∧ f 4 = .int .i64 (mn + (q : Int)) ∧  HI M w w' [box bb0 #[.int .i64 mn, .slice a_mr mr.length c_mr] 24, imm (.slice a_mr mr.length c_mr) mr] ∧ (q = 0 ∨ mn + (q : Int) ≤ 64 * ((mr.getD i []).length : Int)) ∧ (∀ k : Int, mn ≤ k → k < mn + (q : Int) → hasR (mr.getD i []) k = false)) _ ⟨0, rfl, s9, s10, (ieq rfl (by omega)), H18, (by left; rfl), (by intro k_ h1_ h2_; omega)⟩ ?_
              rintro _ f11 w14 ⟨q, rfl, s13, s14, s15, H19, hq_, hz⟩
              refine sq (sq (rg (k (mv rfl s15 (k (fa fl24_1 rfl s13 (k (ldX H19 0 rfl ty22 rfl rfl (by decide) rfl (k (mv rfl s14 (k (ia (H19.rv 1 rfl) rfl rfl rfl rfl (by first | omega | (simp; omega)) un22 ty73 ?_))))))))))))
              intro ad3 x2 hx2 hA3
              refine k (ldL hA3.w ty73 rfl rfl ?_)
              intro a3 c3 rv3
              have ln2 := rv_len rv3
              have H20 := H19.put (it := imm (.slice a3 x2.length c3) x2) rfl rv3
              refine k (lnS rfl rfl un73 (k (mul rfl rfl rfl rfl (by have h_ := words_le (n := mn) (by omega); (try (have e_ := at_is hx1 hx0; subst e_)); (try (have e_ := at_is hx2 hx0; subst e_)); (try (have e_ := at_is hx3 hx0; subst e_)); (try (have e_ := at_is hx4 hx0; subst e_)); (try (have e_ := at_is hx5 hx0; subst e_)); (try (have e_ := at_is hx6 hx0; subst e_)); unfold I64; omega) (k (lss rfl rfl rfl rfl (z (nx ?_)))))))
              refine cd (b := decide ((mn + (q : Int)) < (64 * (x2.length : Int)))) rfl rfl (fun b5 => ?_) (fun b5 => ?_)
              ·
                have p5 := of_decide_eq_true b5
                refine sk (nx (sq (bk (sq (rg (k (fa fl24_1 rfl s13 (k (ldX H20 1 rfl ty22 rfl rfl (by decide) rfl (k (mv rfl s14 (k (ia (H20.rv 2 rfl) rfl rfl rfl rfl (by first | omega | (simp; omega)) un22 ty73 ?_)))))))))))))
                intro ad4 x3 hx3 hA4
                refine k (ldL hA4.w ty73 rfl rfl ?_)
                intro a4 c4 rv4
                have ln3 := rv_len rv4
                have H21 := H20.put (it := imm (.slice a4 x3.length c4) x3) rfl rv4
                refine k (mv rfl s15 (k ?_))
                have cc2 := ref02_Has (r := x3) (i := (mn + (q : Int))) (w := w14) H21.mb (H21.rv 0 rfl) (by have h_ := words_le (n := mn) (by omega); (try (have e_ := at_is hx1 hx0; subst e_)); (try (have e_ := at_is hx2 hx0; subst e_)); (try (have e_ := at_is hx3 hx0; subst e_)); (try (have e_ := at_is hx4 hx0; subst e_)); (try (have e_ := at_is hx5 hx0; subst e_)); (try (have e_ := at_is hx6 hx0; subst e_)); unfold I64; omega) (by have h_ := words_le (n := mn) (by omega); (try (have e_ := at_is hx1 hx0; subst e_)); (try (have e_ := at_is hx2 hx0; subst e_)); (try (have e_ := at_is hx3 hx0; subst e_)); (try (have e_ := at_is hx4 hx0; subst e_)); (try (have e_ := at_is hx5 hx0; subst e_)); (try (have e_ := at_is hx6 hx0; subst e_)); omega)
                refine ca go58 rfl (ec rfl (ec rfl e0)) cc2 ?_
                rintro _ w15 ⟨rfl, xt13⟩
                have H22 := H21.ext xt13
                refine z (nx ?_)
                refine cd (b := hasR x3 (mn + (q : Int))) rfl rfl (fun b6 => ?_) (fun b6 => ?_)
                ·
                  refine sq (rg (k (asg (v := .bool false) rfl rfl (z (nx (rt (inb_ret (then_ret (loop_ret (inb_ret (inb_ret (then_ret (loop_ret (inb_ret (then_ret (r1 rfl rfl ?_))))))))))))))))
                  have e0 : (false : Bool) = rightS mn mr := by first | exact rightS_no (by omega) | exact right_end_ (by omega) (by omega) (by omega) hs (by omega) | exact right_row hx0 (rowOk_len (by omega)) | ((try (have e_ := at_is hx1 hx0; subst e_)); (try (have e_ := at_is hx2 hx0; subst e_)); (try (have e_ := at_is hx3 hx0; subst e_)); (try (have e_ := at_is hx4 hx0; subst e_)); (try (have e_ := at_is hx5 hx0; subst e_)); (try (have e_ := at_is hx6 hx0; subst e_)); exact right_row hx0 (rowOk_bit (k := mn + (q : Int)) (by omega) (by omega) (by omega) (by assumption)))
                  have ev_ := cg1 (fun (x_0 : Bool) => (.bool x_0 : Value)) e0
                  exact ⟨ev_, H22.below⟩
                ·
                  refine sk (inb_normal (nx (rg (k (mv rfl s15 (k (add rfl rfl rfl rfl (by have h_ := words_le (n := mn) (by omega); (try (have e_ := at_is hx1 hx0; subst e_)); (try (have e_ := at_is hx2 hx0; subst e_)); (try (have e_ := at_is hx3 hx0; subst e_)); (try (have e_ := at_is hx4 hx0; subst e_)); (try (have e_ := at_is hx5 hx0; subst e_)); (try (have e_ := at_is hx6 hx0; subst e_)); unfold I64; omega) (k (asg (v := .int .i64 ((mn + (q : Int)) + 1)) rfl rfl (z ?_))))))))))
                  have H23 : HI M w w15 [box bb0 #[.int .i64 mn, .slice a_mr mr.length c_mr] 24, imm (.slice a_mr mr.length c_mr) mr] := H22.pickN [2, 3] (by decide) rfl
                  refine loopN _ ?_ ⟨(q + 1), rfl, s13, s14, (ieq rfl (by omega)), H23, (by right; rw [getD_row hx0]; (try (have e_ := at_is hx1 hx0; subst e_)); (try (have e_ := at_is hx2 hx0; subst e_)); (try (have e_ := at_is hx3 hx0; subst e_)); (try (have e_ := at_is hx4 hx0; subst e_)); (try (have e_ := at_is hx5 hx0; subst e_)); (try (have e_ := at_is hx6 hx0; subst e_)); omega), (by intro k_ h1_ h2_; exact if e_ : k_ = mn + (q : Int) then (by rw [e_, getD_row hx0]; (try (have e_ := at_is hx1 hx0; subst e_)); (try (have e_ := at_is hx2 hx0; subst e_)); (try (have e_ := at_is hx3 hx0; subst e_)); (try (have e_ := at_is hx4 hx0; subst e_)); (try (have e_ := at_is hx5 hx0; subst e_)); (try (have e_ := at_is hx6 hx0; subst e_)); assumption) else hz k_ h1_ (by omega))⟩
                  (try (have e_ := at_is hx1 hx0; subst e_)); (try (have e_ := at_is hx2 hx0; subst e_)); (try (have e_ := at_is hx3 hx0; subst e_)); (try (have e_ := at_is hx4 hx0; subst e_)); (try (have e_ := at_is hx5 hx0; subst e_)); (try (have e_ := at_is hx6 hx0; subst e_)); rw [getD_row hx0] at *; omega
              ·
                have p5 := of_decide_eq_false b5
                refine ex (then_exit (loop_exit (inb_here (inb_normal (nx (rg (k (mv rfl s14 (k (add rfl rfl rfl rfl (by unfold I64 at *; omega) (k (asg (v := .int .i64 ((i : Int) + 1)) rfl rfl (z ?_)))))))))))))
                have H21 : HI M w w14 [box bb0 #[.int .i64 mn, .slice a_mr mr.length c_mr] 24, imm (.slice a_mr mr.length c_mr) mr] := H20.pickN [1, 2] (by decide) rfl
                refine loopN _ ?_ ⟨(i + 1), rfl, s13, (ieq rfl (by first | rfl | omega | (push_cast; omega))), H21, (by first | assumption | omega | simp | (simp; omega)), (by (try (have e_ := at_is hx1 hx0; subst e_)); (try (have e_ := at_is hx2 hx0; subst e_)); (try (have e_ := at_is hx3 hx0; subst e_)); (try (have e_ := at_is hx4 hx0; subst e_)); (try (have e_ := at_is hx5 hx0; subst e_)); (try (have e_ := at_is hx6 hx0; subst e_)); exact all_take hx0 hs (rowOk_yes (j := mn + (q : Int)) (by omega) (by rw [getD_row hx0] at hz; exact hz) (by omega)))⟩
                omega
        ·
          have p3 := of_decide_eq_false b3
          refine ex (then_exit (loop_exit (inb_here (nx (sq (rg (k (asg (v := .bool true) rfl rfl (z (nx (rt (r1 rfl rfl ?_))))))))))))
          have e0 : (true : Bool) = rightS mn mr := by first | exact rightS_no (by omega) | exact right_end_ (by omega) (by omega) (by omega) hs (by omega) | exact right_row hx0 (rowOk_len (by omega)) | ((try (have e_ := at_is hx1 hx0; subst e_)); (try (have e_ := at_is hx2 hx0; subst e_)); (try (have e_ := at_is hx3 hx0; subst e_)); (try (have e_ := at_is hx4 hx0; subst e_)); (try (have e_ := at_is hx5 hx0; subst e_)); (try (have e_ := at_is hx6 hx0; subst e_)); exact right_row hx0 (rowOk_bit (k := mn + (q : Int)) (by omega) (by omega) (by omega) (by assumption)))
          have ev_ := cg1 (fun (x_0 : Bool) => (.bool x_0 : Value)) e0
          exact ⟨ev_, H2.below⟩
set_option maxRecDepth 100000 in
set_option maxHeartbeats 1600000 in
theorem ref03_Small {M : Nat → Prop} {w : World} {mn : Int} {a_mr : Option Addr} {c_mr : Nat} {mr : List (List (BitVec 64))} {mo : Int} (hM : ∀ b, M b → b < w.heap.size) (h_mn : I64 mn) (h_mr : RV M w (.slice a_mr mr.length c_mr) mr) (h_mo : I64 mo) : Calls Tryd.prog 12 #[.agg #[.int .i64 mn, .slice a_mr mr.length c_mr], .int .i64 mo] w (Ret fun v w' =>  v = .bool (smallM mr mo) ∧ Ext w w') := by
  refine enter 25 Tryd.func12 rfl rfl rfl fun f0 ha => ?_
  have H := HI.start (M0 := M) (w := w) hM
  have H0 := H.put (it := imm (.slice a_mr mr.length c_mr) mr) rfl (by rw [MS_nil]; exact h_mr)
  have ln_mr := rv_len h_mr
  have i0 : f0 0 = .agg #[.int .i64 mn, .slice a_mr mr.length c_mr] := ha 0 (by simp)
  have i1 : f0 1 = .int .i64 mo := ha 1 (by simp)
  refine sq (rg (k (bx H0 rfl i0 ?_)))
  intro bb0 w0 xt0 (H1 : HI M w w0 [box bb0 #[.int .i64 mn, .slice a_mr mr.length c_mr] 24, imm (.slice a_mr mr.length c_mr) mr])
  refine k (asg (v := .bool false) rfl rfl (z (nx (sq (sq (rg (k (fa fl24_1 rfl rfl (k (ldX H1 0 rfl ty22 rfl rfl (by decide) rfl (k (lnS rfl rfl un22 (k (mv rfl i1 (k (gtr rfl rfl rfl rfl (z (nx ?_))))))))))))))))))
  refine cd (b := decide (mo < (mr.length : Int))) rfl rfl (fun b0 => ?_) (fun b0 => ?_)
  ·
    have p0 := of_decide_eq_true b0
    refine sq (rg (k (asg (v := .bool false) rfl rfl (z (nx (rt (then_ret (r1 rfl rfl ?_))))))))
    have e0 : (false : Bool) = smallM mr mo := by first | exact smallM_big (by omega) | exact smallM_row hx0 (by omega) | exact smallM_end (by omega) hs (by omega)
    have ev_ := cg1 (fun (x_0 : Bool) => (.bool x_0 : Value)) e0
    exact ⟨ev_, H1.below⟩
  ·
    have p0 := of_decide_eq_false b0
    refine sk (nx (sq (sq (rg (k (asg (v := .int .i64 0) rfl rfl (z (nx (bk ?_)))))))))
    refine lp (fun m f w' => ∃ (j : Nat), m = mr.length - j ∧ f 2 = .pointer (some ⟨bb0, 0, none⟩) ∧ f 5 = .int .i64 (j : Int) ∧  HI M w w' [box bb0 #[.int .i64 mn, .slice a_mr mr.length c_mr] 24, imm (.slice a_mr mr.length c_mr) mr] ∧ (j ≤ mr.length) ∧ ((mr.take j).all (fun r => decide (r.length ≤ 4)) = true)) _ ⟨0, rfl, rfl, (ieq rfl (by first | rfl | omega | simp)), H1, (by first | assumption | omega | simp | (simp; omega)), (by rfl)⟩ ?_
    rintro _ f0 w1 ⟨j, rfl, s0, s1, H2, hk, hs⟩
    refine sq (sq (rg (k (mv rfl s1 (k (fa fl24_1 rfl s0 (k (ldX H2 0 rfl ty22 rfl rfl (by decide) rfl (k (lnS rfl rfl un22 (k (lss rfl rfl rfl rfl (z (nx ?_))))))))))))))
    refine cd (b := decide ((j : Int) < (mr.length : Int))) rfl rfl (fun b1 => ?_) (fun b1 => ?_)
    ·
      have p1 := of_decide_eq_true b1
      refine sk (nx (sq (bk (sq (rg (k (fa fl24_1 rfl s0 (k (ldX H2 0 rfl ty22 rfl rfl (by decide) rfl (k (mv rfl s1 (k (ia (H2.rv 1 rfl) rfl rfl rfl rfl (by first | omega | (simp; omega)) un22 ty73 ?_)))))))))))))
      intro ad0 x0 hx0 hA0
      refine k (ldL hA0.w ty73 rfl rfl ?_)
      intro a0 c0 rv0
      have ln0 := rv_len rv0
      have H3 := H2.put (it := imm (.slice a0 x0.length c0) x0) rfl rv0
      refine k (lnS rfl rfl un73 (k (gtr rfl rfl rfl rfl (z (nx ?_)))))
      refine cd (b := decide (4 < (x0.length : Int))) rfl rfl (fun b2 => ?_) (fun b2 => ?_)
      ·
        have p2 := of_decide_eq_true b2
        refine sq (rg (k (asg (v := .bool false) rfl rfl (z (nx (rt (inb_ret (then_ret (loop_ret (inb_ret (then_ret (r1 rfl rfl ?_))))))))))))
        have e0 : (false : Bool) = smallM mr mo := by first | exact smallM_big (by omega) | exact smallM_row hx0 (by omega) | exact smallM_end (by omega) hs (by omega)
        have ev_ := cg1 (fun (x_0 : Bool) => (.bool x_0 : Value)) e0
        exact ⟨ev_, H3.below⟩
      ·
        have p2 := of_decide_eq_false b2
        refine sk (inb_normal (nx (rg (k (mv rfl s1 (k (add rfl rfl rfl rfl (by unfold I64 at *; omega) (k (asg (v := .int .i64 ((j : Int) + 1)) rfl rfl (z ?_))))))))))
        have H4 : HI M w w1 [box bb0 #[.int .i64 mn, .slice a_mr mr.length c_mr] 24, imm (.slice a_mr mr.length c_mr) mr] := H3.pickN [1, 2] (by decide) rfl
        refine loopN _ ?_ ⟨(j + 1), rfl, s0, (ieq rfl (by first | rfl | omega | (push_cast; omega))), H4, (by first | assumption | omega | simp | (simp; omega)), (by exact all_take hx0 hs (decide_eq_true (by omega)))⟩
        omega
    ·
      have p1 := of_decide_eq_false b1
      refine ex (then_exit (loop_exit (inb_here (nx (sq (rg (k (asg (v := .bool true) rfl rfl (z (nx (rt (r1 rfl rfl ?_))))))))))))
      have e0 : (true : Bool) = smallM mr mo := by first | exact smallM_big (by omega) | exact smallM_row hx0 (by omega) | exact smallM_end (by omega) hs (by omega)
      have ev_ := cg1 (fun (x_0 : Bool) => (.bool x_0 : Value)) e0
      exact ⟨ev_, H2.below⟩
end Go.Proofs.YtmhopljngkgidaaDoor
