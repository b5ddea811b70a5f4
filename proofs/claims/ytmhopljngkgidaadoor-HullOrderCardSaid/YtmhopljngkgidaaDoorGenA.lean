/- PRINTED by my own tool (wip/tool/gen.py): contracts of Go functions of this seat, each with its proof. -/
import Derived.Test.YtmhopljngkgidaaDoorProg
import Derived.Test.YtmhopljngkgidaaDoorOwnB
import Derived.Test.YtmhopljngkgidaaDoorOwnA
namespace Go.Proofs.YtmhopljngkgidaaDoor
open Go.Ew Go.RowKit
set_option linter.unusedVariables false
set_option linter.unusedSimpArgs false
attribute [local irreducible] WL WC SO Code.wp wpList retQ Ret
attribute [local irreducible] bitB hasW inR hasR setR countW countR subR words newR listR orR firstW tab8
theorem un81 : Tryd.prog.underlying 81 = some (.int .u64) := by kernel_rfl
theorem un3 : Tryd.prog.underlying 3 = some (.int .i64) := by kernel_rfl
theorem go65 : GoF Tryd.prog 65 := ⟨_, _, Tryd.func65, rfl, by kernel_rfl⟩
theorem un128 : Tryd.prog.underlying 128 = some (.array 64 5) := by kernel_rfl
theorem ty5 : TyF Tryd.prog 5 1 false 1 (.int .u8 0) := ⟨by kernel_rfl, by kernel_rfl⟩
theorem un5 : Tryd.prog.underlying 5 = some (.int .u8) := by kernel_rfl
theorem go117 : GoF Tryd.prog 117 := ⟨_, _, Tryd.func117, rfl, by kernel_rfl⟩
theorem un73 : Tryd.prog.underlying 73 = some (.slice 77) := by kernel_rfl
theorem go103 : GoF Tryd.prog 103 := ⟨_, _, Tryd.func103, rfl, by kernel_rfl⟩
theorem ty77 : TyF Tryd.prog 77 1 false 8 (.int .u64 0) := ⟨by kernel_rfl, by kernel_rfl⟩
theorem go105 : GoF Tryd.prog 105 := ⟨_, _, Tryd.func105, rfl, by kernel_rfl⟩
theorem go102 : GoF Tryd.prog 102 := ⟨_, _, Tryd.func102, rfl, by kernel_rfl⟩
theorem go96 : GoF Tryd.prog 96 := ⟨_, _, Tryd.func96, rfl, by kernel_rfl⟩
theorem go104 : GoF Tryd.prog 104 := ⟨_, _, Tryd.func104, rfl, by kernel_rfl⟩
theorem un42 : Tryd.prog.underlying 42 = some (.slice 3) := by kernel_rfl
theorem ty3 : TyF Tryd.prog 3 1 false 8 (.int .i64 0) := ⟨by kernel_rfl, by kernel_rfl⟩
theorem go107 : GoF Tryd.prog 107 := ⟨_, _, Tryd.func107, rfl, by kernel_rfl⟩
theorem go57 : GoF Tryd.prog 57 := ⟨_, _, Tryd.func57, rfl, by kernel_rfl⟩
theorem go94 : GoF Tryd.prog 94 := ⟨_, _, Tryd.func94, rfl, by kernel_rfl⟩
theorem go58 : GoF Tryd.prog 58 := ⟨_, _, Tryd.func58, rfl, by kernel_rfl⟩
theorem go106 : GoF Tryd.prog 106 := ⟨_, _, Tryd.func106, rfl, by kernel_rfl⟩
/- eyewitness/word.Bit -/
set_option maxRecDepth 100000 in
set_option maxHeartbeats 1600000 in
theorem word_Bit {w : World} {i : Int} (h_i : I64 i) : Calls Tryd.prog 65 #[.int .i64 i] w (Ret fun v w' =>  v = U (bitB i) ∧ Ext w w') := by
  refine enter 9 Tryd.func65 rfl rfl rfl fun f0 ha => ?_
  have H := HI.start (M0 := (fun _ => False)) (w := w) (fun _ h => h.elim)
  have i0 : f0 0 = .int .i64 i := ha 0 (by simp)
  refine sq (rg (k (asg (v := U (0#64)) rfl rfl (z (nx (sq (sq (rg (k (mv rfl i0 (k (cvU rfl rfl un3 un81 (k (gtU (BitVec.ofInt 64 i) (63#64) rfl rfl rfl rfl (z (nx ?_))))))))))))))))
  refine cd (b := decide ((63#64).toNat < (BitVec.ofInt 64 i).toNat)) rfl rfl (fun b0 => ?_) (fun b0 => ?_)
  ·
    have p0 := of_decide_eq_true b0
    refine sq (rg (k (asg (v := U (0#64)) rfl rfl (z (nx (rt (then_ret (r1 rfl rfl ?_))))))))
    have e0 : (0#64 : BitVec 64) = bitB i := by exact bitB_hi h_i p0
    have ev_ := cg1 (fun (x_0 : BitVec 64) => (U x_0 : Value)) e0
    exact ⟨ev_, H.below⟩
  ·
    have p0 := of_decide_eq_false b0
    refine sk (nx (sq (rg (k (mv rfl i0 (k (cvU rfl rfl un3 un81 (k (shlU (1#64) ((BitVec.ofInt 64 i).toNat : Int) (by omega) rfl rfl rfl rfl (k (asg (v := U ((1#64) <<< ((BitVec.ofInt 64 i).toNat : Int).toNat)) rfl rfl (z (nx (rt (r1 rfl rfl ?_)))))))))))))))
    have e0 : ((1#64) <<< ((BitVec.ofInt 64 i).toNat : Int).toNat : BitVec 64) = bitB i := by exact bitB_lo h_i p0
    have ev_ := cg1 (fun (x_0 : BitVec 64) => (U x_0 : Value)) e0
    exact ⟨ev_, H.below⟩
/- eyewitness/word.Has -/
set_option maxRecDepth 100000 in
set_option maxHeartbeats 1600000 in
theorem word_Has {w : World} {x : BitVec 64} {i : Int} (h_i : I64 i) : Calls Tryd.prog 105 #[U x, .int .i64 i] w (Ret fun v w' =>  v = .bool (hasW x i) ∧ Ext w w') := by
  refine enter 10 Tryd.func105 rfl rfl rfl fun f0 ha => ?_
  have H := HI.start (M0 := (fun _ => False)) (w := w) (fun _ h => h.elim)
  have i0 : f0 0 = U x := ha 0 (by simp)
  have i1 : f0 1 = .int .i64 i := ha 1 (by simp)
  refine sq (rg (k (asg (v := .bool false) rfl rfl (z (nx (sq (rg (k (mv rfl i0 (k (mv rfl i1 (k ?_))))))))))))
  have cc0 := word_Bit (i := i) (w := w) (by unfold I64 at *; omega)
  refine ca go65 rfl (ec rfl e0) cc0 ?_
  rintro _ w0 ⟨rfl, xt0⟩
  have H0 := H.ext xt0
  refine k (andU x (bitB i) rfl rfl rfl rfl (k (neU (x &&& (bitB i)) (0#64) rfl rfl rfl rfl (k (asg (v := .bool (!decide ((x &&& (bitB i)) = (0#64)))) rfl rfl (z (nx (rt (r1 rfl rfl ?_)))))))))
  have e0 : (!decide ((x &&& (bitB i)) = (0#64)) : Bool) = hasW x i := by exact hasW_eq _ _
  have ev_ := cg1 (fun (x_0 : Bool) => (.bool x_0 : Value)) e0
  exact ⟨ev_, H0.below⟩
/- math/bits.TrailingZeros64 -/
set_option maxRecDepth 100000 in
set_option maxHeartbeats 1600000 in
theorem zeros64 {w : World} {x : BitVec 64} (hT : TabAt 0 w) : Calls Tryd.prog 117 #[U x] w (Ret fun v w' =>  v = .int .i64 ((firstW x : Nat) : Int) ∧ Ext w w') := by
  refine enter 14 Tryd.func117 rfl rfl rfl fun f0 ha => ?_
  have H := HI.start (M0 := (fun _ => False)) (w := w) (fun _ h => h.elim)
  have i0 : f0 0 = U x := ha 0 (by simp)
  refine sq (rg (k (asg (v := .int .i64 0) rfl rfl (z (nx (sq (sq (rg (k (mv rfl i0 (k (eqU x (0#64) rfl rfl rfl rfl (z (nx ?_))))))))))))))
  refine cd (b := decide (x = (0#64))) rfl rfl (fun b0 => ?_) (fun b0 => ?_)
  ·
    have p0 := of_decide_eq_true b0
    refine sq (rg (k (asg (v := .int .i64 64) rfl rfl (z (nx (rt (then_ret (r1 rfl rfl ?_))))))))
    have e0 : (64 : Int) = ((firstW x : Nat) : Int) := by first | (have e_ := p0; subst e_; rw [firstW_zero]; rfl) | exact zeros_eq (by simpa using p0)
    have ev_ := cg1 (fun (x_0 : Int) => (.int .i64 x_0 : Value)) e0
    exact ⟨ev_, H.below⟩
  ·
    have p0 := of_decide_eq_false b0
    refine sk (nx (sq (rg (k (mv rfl i0 (k (mv rfl i0 (k (negU x rfl rfl (k (andU x (-x) rfl rfl rfl rfl (k (mulU (x &&& (-x)) (285870213051353865#64) rfl rfl rfl rfl (k (shrUn ((x &&& (-x)) * (285870213051353865#64)) 58 rfl rfl rfl rfl (k (iaAn (i := (((x &&& (-x)) * (285870213051353865#64)) >>> 58).toNat) rfl rfl rfl rfl (by exact zeros_lt (by simpa using p0)) un128 ty5 (k (ld8 (tabA (M := fun _ => False) hT H.below rfl (by exact zeros_lt (by simpa using p0))) ty5 rfl rfl (k (cvI rfl rfl (by unfold I64 at *; omega) un5 un3 (k (asg (v := .int .i64 ((tab8 (((x &&& (-x)) * (285870213051353865#64)) >>> 58).toNat).toNat : Int)) rfl rfl (z (nx (rt (r1 rfl rfl ?_)))))))))))))))))))))))))))
    have e0 : (((tab8 (((x &&& (-x)) * (285870213051353865#64)) >>> 58).toNat).toNat : Int) : Int) = ((firstW x : Nat) : Int) := by first | (have e_ := p0; subst e_; rw [firstW_zero]; rfl) | exact zeros_eq (by simpa using p0)
    have ev_ := cg1 (fun (x_0 : Int) => (.int .i64 x_0 : Value)) e0
    exact ⟨ev_, H.below⟩
/- eyewitness/word.First -/
set_option maxRecDepth 100000 in
set_option maxHeartbeats 1600000 in
theorem word_First {w : World} {x : BitVec 64} (hT : TabAt 0 w) : Calls Tryd.prog 104 #[U x] w (Ret fun v w' =>  v = .int .i64 ((firstW x : Nat) : Int) ∧ Ext w w') := by
  refine enter 5 Tryd.func104 rfl rfl rfl fun f0 ha => ?_
  have H := HI.start (M0 := (fun _ => False)) (w := w) (fun _ h => h.elim)
  have i0 : f0 0 = U x := ha 0 (by simp)
  refine sq (rg (k (asg (v := .int .i64 0) rfl rfl (z (nx (sq (rg (k (mv rfl i0 (k ?_))))))))))
  have cc0 := zeros64 (x := x) (w := w) (hT.ext H.below)
  refine ca go117 rfl (ec rfl e0) cc0 ?_
  rintro _ w0 ⟨rfl, xt0⟩
  have H0 := H.ext xt0
  refine k (asg (v := .int .i64 ((firstW x : Nat) : Int)) rfl rfl (z (nx (rt (r1 rfl rfl ?_)))))
  exact ⟨rfl, H0.below⟩
/- eyewitness/row.in -/
set_option maxRecDepth 100000 in
set_option maxHeartbeats 1600000 in
theorem row_in {M : Nat → Prop} {w : World} {a_r : Option Addr} {c_r : Nat} {r : List (BitVec 64)} {i : Int} (hM : ∀ b, M b → b < w.heap.size) (h_r : RV M w (.slice a_r r.length c_r) r) (h_i : I64 i) : Calls Tryd.prog 103 #[.slice a_r r.length c_r, .int .i64 i] w (Ret fun v w' =>  v = .bool (inR r i) ∧ Ext w w') := by
  refine enter 14 Tryd.func103 rfl rfl rfl fun f0 ha => ?_
  have H := HI.start (M0 := M) (w := w) hM
  have H0 := H.put (it := imm (.slice a_r r.length c_r) r) rfl (by rw [MS_nil]; exact h_r)
  have ln_r := rv_len h_r
  have i0 : f0 0 = .slice a_r r.length c_r := ha 0 (by simp)
  have i1 : f0 1 = .int .i64 i := ha 1 (by simp)
  refine sq (rg (k (asg (v := .bool false) rfl rfl (z (nx (sq (rg (k (mv rfl i1 (k (geq rfl rfl rfl rfl (k (mv (v := .bool (decide (0 ≤ i))) rfl rfl ?_)))))))))))))
  rcases Bool.eq_false_or_eq_true (decide (0 ≤ i)) with b0 | b0
  · -- decide (0 ≤ i) is True
    have p0 := of_decide_eq_true b0
    refine k (gy rfl rfl rfl b0 (mv rfl i1 (k (gy rfl rfl rfl b0 (shrI rfl rfl rfl rfl (k (gy rfl rfl rfl b0 (mv rfl i0 (k (gy rfl rfl rfl b0 (lnS rfl rfl un73 (k (gy rfl rfl rfl b0 (lss rfl rfl rfl rfl (k (pickT rfl rfl rfl rfl b0 rfl (k (asg (v := .bool (decide ((i / 64) < (r.length : Int)))) rfl rfl (z (nx (rt (r1 rfl rfl ?_))))))))))))))))))))))
    have e0 : (decide ((i / 64) < (r.length : Int)) : Bool) = inR r i := by exact inR_yes p0
    have ev_ := cg1 (fun (x_0 : Bool) => (.bool x_0 : Value)) e0
    exact ⟨ev_, H0.below⟩
  · -- decide (0 ≤ i) is False
    have p0 := of_decide_eq_false b0
    refine k (gn rfl rfl rfl b0 (k (gn rfl rfl rfl b0 (k (gn rfl rfl rfl b0 (k (gn rfl rfl rfl b0 (k (gn rfl rfl rfl b0 (k (pickF rfl rfl rfl rfl b0 rfl (k (asg (v := .bool false) rfl rfl (z (nx (rt (r1 rfl rfl ?_)))))))))))))))))
    have e0 : (false : Bool) = inR r i := by exact inR_no (by omega)
    have ev_ := cg1 (fun (x_0 : Bool) => (.bool x_0 : Value)) e0
    exact ⟨ev_, H0.below⟩
/- eyewitness/row.Has -/
set_option maxRecDepth 100000 in
set_option maxHeartbeats 1600000 in
theorem row_Has {M : Nat → Prop} {w : World} {a_r : Option Addr} {c_r : Nat} {r : List (BitVec 64)} {i : Int} (hM : ∀ b, M b → b < w.heap.size) (h_r : RV M w (.slice a_r r.length c_r) r) (h_i : I64 i) : Calls Tryd.prog 67 #[.slice a_r r.length c_r, .int .i64 i] w (Ret fun v w' =>  v = .bool (hasR r i) ∧ Ext w w') := by
  refine enter 18 Tryd.func67 rfl rfl rfl fun f0 ha => ?_
  have H := HI.start (M0 := M) (w := w) hM
  have H0 := H.put (it := imm (.slice a_r r.length c_r) r) rfl (by rw [MS_nil]; exact h_r)
  have ln_r := rv_len h_r
  have i0 : f0 0 = .slice a_r r.length c_r := ha 0 (by simp)
  have i1 : f0 1 = .int .i64 i := ha 1 (by simp)
  refine sq (rg (k (asg (v := .bool false) rfl rfl (z (nx (sq (rg (k (mv rfl i0 (k (mv rfl i1 (k ?_))))))))))))
  have cc0 := row_in (r := r) (i := i) (w := w) H0.mb (H0.rv 0 rfl) (by unfold I64 at *; omega)
  refine ca go103 rfl (ec rfl (ec rfl e0)) cc0 ?_
  rintro _ w0 ⟨rfl, xt0⟩
  have H1 := H0.ext xt0
  refine k (mv (v := .bool (inR r i)) rfl rfl ?_)
  rcases Bool.eq_false_or_eq_true (inR r i) with b0 | b0
  · -- inR r i is True
    refine k (gy rfl rfl rfl b0 (mv rfl i0 (k (gy rfl rfl rfl b0 (mv rfl i1 (k (gy rfl rfl rfl b0 (shrI rfl rfl rfl rfl (k (gy rfl rfl rfl b0 (ia (H1.rv 0 rfl) rfl rfl rfl rfl (by have hb := b0; unfold inR at hb; simp only [decide_eq_true_eq] at hb; omega) un73 ty77 ?_)))))))))))
    intro ad0 x0 hx0 hA0
    refine k (gy rfl rfl rfl b0 (ldU hA0.w ty77 rfl rfl (k (gy rfl rfl rfl b0 (mv rfl i1 (k (gy rfl rfl rfl b0 (and63 rfl rfl rfl rfl (k (gy rfl rfl rfl b0 ?_))))))))))
    have cc1 := word_Has (x := x0) (i := (i % 64)) (w := w0) (by unfold I64 at *; omega)
    refine ca go105 rfl (ec rfl (ec rfl e0)) cc1 ?_
    rintro _ w1 ⟨rfl, xt1⟩
    have H2 := H1.ext xt1
    refine k (pickT rfl rfl rfl rfl b0 rfl (k (asg (v := .bool (hasW x0 (i % 64))) rfl rfl (z (nx (rt (r1 rfl rfl ?_)))))))
    have e0 : (hasW x0 (i % 64) : Bool) = hasR r i := by exact hasR_in b0 hx0
    have ev_ := cg1 (fun (x_0 : Bool) => (.bool x_0 : Value)) e0
    exact ⟨ev_, H2.below⟩
  · -- inR r i is False
    refine k (gn rfl rfl rfl b0 (k (gn rfl rfl rfl b0 (k (gn rfl rfl rfl b0 (k (gn rfl rfl rfl b0 (k (gn rfl rfl rfl b0 (k (gn rfl rfl rfl b0 (k (gn rfl rfl rfl b0 (k (gn rfl rfl rfl b0 (k (pickF rfl rfl rfl rfl b0 rfl (k (asg (v := .bool false) rfl rfl (z (nx (rt (r1 rfl rfl ?_)))))))))))))))))))))))
    have e0 : (false : Bool) = hasR r i := by exact hasR_out b0
    have ev_ := cg1 (fun (x_0 : Bool) => (.bool x_0 : Value)) e0
    exact ⟨ev_, H1.below⟩
/- slices.Clone[[]uint64,uint64] -/
set_option maxRecDepth 100000 in
set_option maxHeartbeats 1600000 in
theorem clone_u64 {M : Nat → Prop} {w : World} {a_r : Option Addr} {c_r : Nat} {r : List (BitVec 64)} (hM : ∀ b, M b → b < w.heap.size) (h_r : RV M w (.slice a_r r.length c_r) r) (hl_r : r.length ≤ 1000000000) : Calls Tryd.prog 102 #[.slice a_r r.length c_r] w (Ret fun v w' => ∃ (a0 : Option Addr) (c0 : Nat), v = .slice a0 r.length c0 ∧ Ext w w' ∧ OwnsG M 77 w r (.slice a0 r.length c0) w') := by
  refine enter 8 Tryd.func102 rfl rfl rfl fun f0 ha => ?_
  have H := HI.start (M0 := M) (w := w) hM
  have H0 := H.put (it := imm (.slice a_r r.length c_r) r) rfl (by rw [MS_nil]; exact h_r)
  have ln_r := rv_len h_r
  have i0 : f0 0 = .slice a_r r.length c_r := ha 0 (by simp)
  refine sq (rg (k (asg (v := .slice none 0 0) rfl rfl (z (nx (sq (sq (rg (k (mv rfl i0 (k (eqN rfl rfl rfl rfl un73 (z (nx ?_))))))))))))))
  refine cd (b := a_r.isNone) rfl rfl (fun b0 => ?_) (fun b0 => ?_)
  ·
    refine sq (rg (k (asg (v := .slice none 0 0) rfl rfl (z (nx (rt (then_ret (r1 rfl rfl ?_))))))))
    have e0 : ([] : List (BitVec 64)) = r := by exact (rv_none h_r b0).symm
    have ev_ := cg1 (fun (x_0 : List (BitVec 64)) => (.slice none x_0.length 0 : Value)) e0
    exact ⟨none, 0, ev_, H0.below, (congrArg (fun (x_ : List (BitVec 64)) => OwnsG _ _ _ x_ (.slice none x_.length 0) _) e0).mp (ownsG_nil H0.below)⟩
  ·
    refine sk (nx (sq (rg (k (bs (xs := ([] : List (BitVec 64))) (cells := #[]) (e := 77) H0 rfl pb0 (fun _ => by kernel_rfl) rfl rfl (by unfold maxLen; omega) ?_)))))
    intro g0 w0 xt0 (H1 : HI M w w0 [own w.heap.size 77 (.slice (some ⟨g0, 0, none⟩) 0 0) ([] : List (BitVec 64)), imm (.slice a_r r.length c_r) r])
    refine k (mv rfl i0 (k (ap H1 0 rfl rfl rfl rfl rfl rfl (H1.rv 1 rfl).src un73 ty77 rfl (by first | omega | (simp; omega)) (by first | omega | (simp; omega)) ?_)))
    intro a0 c0 w1 (H2 : HI M w w1 [own w.heap.size 77 (.slice a0 r.length c0) r, imm (.slice a_r r.length c_r) r])
    refine k (asg (v := .slice a0 r.length c0) rfl rfl (z (nx (rt (r1 rfl rfl ?_)))))
    exact ⟨a0, c0, rfl, H2.below, (H2.ownsG_out 0 rfl)⟩
/- eyewitness/row.Set -/
set_option maxRecDepth 100000 in
set_option maxHeartbeats 1600000 in
theorem row_Set {M : Nat → Prop} {w : World} {a_r : Option Addr} {c_r : Nat} {r : List (BitVec 64)} {i : Int} (hM : ∀ b, M b → b < w.heap.size) (h_r : RV M w (.slice a_r r.length c_r) r) (h_i : I64 i) (hl_r : r.length ≤ 1000000000) : Calls Tryd.prog 63 #[.slice a_r r.length c_r, .int .i64 i] w (Ret fun v w' => ∃ (a0 : Option Addr) (c0 : Nat), v = .slice a0 (setR r i).length c0 ∧ Ext w w' ∧ OwnsG M 77 w (setR r i) (.slice a0 (setR r i).length c0) w') := by
  refine enter 22 Tryd.func63 rfl rfl rfl fun f0 ha => ?_
  have H := HI.start (M0 := M) (w := w) hM
  have H0 := H.put (it := imm (.slice a_r r.length c_r) r) rfl (by rw [MS_nil]; exact h_r)
  have ln_r := rv_len h_r
  have i0 : f0 0 = .slice a_r r.length c_r := ha 0 (by simp)
  have i1 : f0 1 = .int .i64 i := ha 1 (by simp)
  refine sq (rg (k (asg (v := .slice none 0 0) rfl rfl (z (nx (sq (rg (k (mv rfl i0 (k ?_))))))))))
  have cc0 := clone_u64 (r := r) (w := w) H0.mb (H0.rv 0 rfl) (by first | omega | (simp; omega))
  refine ca go102 rfl (ec rfl e0) cc0 ?_
  rintro _ w0 ⟨a0, c0, rfl, xt0, rv0⟩
  have H1 := H0.ownsG rv0
  refine k (asg (v := .slice a0 r.length c0) rfl rfl (z (nx (sq (sq (rg (k (mv rfl i0 (k (mv rfl i1 (k ?_)))))))))))
  have cc1 := row_in (r := r) (i := i) (w := w0) H1.mb (H1.rv 1 rfl) (by unfold I64 at *; omega)
  refine ca go103 rfl (ec rfl (ec rfl e0)) cc1 ?_
  rintro _ w1 ⟨rfl, xt1⟩
  have H2 := H1.ext xt1
  refine z (nx ?_)
  refine cd (b := inR r i) rfl rfl (fun b0 => ?_) (fun b0 => ?_)
  ·
    obtain ⟨x0, hx0⟩ : ∃ x, r[(i / 64).toNat]? = some x := ⟨_, List.getElem?_eq_getElem (by have hb := b0; unfold inR at hb; simp only [decide_eq_true_eq] at hb; omega)⟩
    refine dr 8 [fun (v : Value) (w' : World) => v = .slice a0 r.length c0, fun (v : Value) (w' : World) => v = .int .i64 i, fun (v : Value) (w' : World) => v = .int .i64 (i / 64), fun (v : Value) (w' : World) => ∃ (g0 : Nat), v = .pointer (some ⟨g0, (i / 64).toNat * 1, none⟩) ∧ (.slice a0 r.length c0 : Value).ownBlock = some g0 ∧ AtW (MS M [own w.heap.size 77 (.slice a0 r.length c0) r, imm (.slice a_r r.length c_r) r]) w' ⟨g0, (i / 64).toNat * 1, none⟩ x0, fun (v : Value) (w' : World) => v = U x0, fun (v : Value) (w' : World) => v = .int .i64 i, fun (v : Value) (w' : World) => v = .int .i64 (i % 64), fun (v : Value) (w' : World) => v = U (bitB (i % 64))] rfl (by kernel_rfl) ?_ ?_
    ·
      refine ⟨fun _ => ⟨fun f0 w3 hf0 xt3 hp0 => ?_, fun _ _ _ _ h => h⟩, ?_⟩
      ·
        have H4 := H2.ext xt3
        refine mv rfl (hf0 5 rfl) ?_
        exact ⟨_, rfl, Ext.refl _, rfl⟩
      refine ⟨fun _ => ⟨fun f1 w4 hf1 xt4 hp1 => ?_, fun _ _ _ _ h => h⟩, ?_⟩
      ·
        have H5 := H2.ext xt4
        refine mv rfl ((hf1 1 rfl).trans i1) ?_
        exact ⟨_, rfl, Ext.refl _, rfl⟩
      refine ⟨fun _ => ⟨fun f2 w5 hf2 xt5 hp2 => ?_, fun _ _ _ _ h => h⟩, ?_⟩
      ·
        have H6 := H2.ext xt5
        have s0 : f2 12 = .int .i64 i := hp2 1 rfl rfl
        refine shrI rfl rfl s0 rfl ?_
        exact ⟨_, rfl, Ext.refl _, rfl⟩
      refine ⟨fun _ => ⟨fun f3 w6 hf3 xt6 hp3 => ?_, by rintro _ _ _ x_ ⟨g0, e_, hv0, hA0⟩; exact ⟨g0, e_, hv0, hA0.ext x_⟩⟩, ?_⟩
      ·
        have H7 := H2.ext xt6
        have s1 : f3 11 = .slice a0 r.length c0 := hp3 0 rfl rfl
        have s2 : f3 13 = .int .i64 (i / 64) := hp3 2 rfl rfl
        refine iaO (H7.at_ 0 rfl) rfl rfl s1 s2 (by have hb := b0; unfold inR at hb; simp only [decide_eq_true_eq] at hb; omega) un73 ty77 ?_
        intro g1 x1 hv1 hx1 hA1
        obtain rfl : x0 = x1 := Option.some.inj (hx0.symm.trans hx1)
        exact ⟨_, rfl, Ext.refl _, ⟨g1, rfl, hv1, hA1⟩⟩
      refine ⟨fun _ => ⟨fun f4 w7 hf4 xt7 hp4 => ?_, fun _ _ _ _ h => h⟩, ?_⟩
      ·
        have H8 := H2.ext xt7
        obtain ⟨g2, s3, hv2, hA2⟩ : ∃ (g2 : Nat), f4 14 = .pointer (some ⟨g2, (i / 64).toNat * 1, none⟩) ∧ (.slice a0 r.length c0 : Value).ownBlock = some g2 ∧ AtW (MS M [own w.heap.size 77 (.slice a0 r.length c0) r, imm (.slice a_r r.length c_r) r]) w7 ⟨g2, (i / 64).toNat * 1, none⟩ x0 := hp4 3 rfl rfl
        refine ldU hA2 ty77 rfl s3 ?_
        exact ⟨_, rfl, Ext.refl _, rfl⟩
      refine ⟨fun _ => ⟨fun f5 w8 hf5 xt8 hp5 => ?_, fun _ _ _ _ h => h⟩, ?_⟩
      ·
        have H9 := H2.ext xt8
        refine mv rfl ((hf5 1 rfl).trans i1) ?_
        exact ⟨_, rfl, Ext.refl _, rfl⟩
      refine ⟨fun _ => ⟨fun f6 w9 hf6 xt9 hp6 => ?_, fun _ _ _ _ h => h⟩, ?_⟩
      ·
        have H10 := H2.ext xt9
        have s4 : f6 16 = .int .i64 i := hp6 5 rfl rfl
        refine and63 rfl rfl s4 rfl ?_
        exact ⟨_, rfl, Ext.refl _, rfl⟩
      refine ⟨fun _ => ⟨fun f7 w10 hf7 xt10 hp7 => ?_, fun _ _ _ _ h => h⟩, ?_⟩
      ·
        have H11 := H2.ext xt10
        have s5 : f7 17 = .int .i64 (i % 64) := hp7 6 rfl rfl
        have cc3 := word_Bit (i := (i % 64)) (w := w10) (by unfold I64 at *; omega)
        refine ca go65 rfl (ec s5 e0) cc3 ?_
        rintro _ w11 ⟨rfl, xt11⟩
        have H12 := H11.ext xt11
        exact ⟨_, rfl, xt11, rfl⟩
      exact DSteps.rest rfl _
    · intro f8 w12 hf8 xt12 hp8
      have H13 := H2.ext xt12
      have s6 : f8 5 = .slice a0 r.length c0 := hf8 5 rfl
      have s7 : f8 11 = .slice a0 r.length c0 := hp8 0 rfl
      have s8 : f8 13 = .int .i64 (i / 64) := hp8 2 rfl
      have s9 : f8 15 = U x0 := hp8 4 rfl
      have s10 : f8 18 = U (bitB (i % 64)) := hp8 7 rfl
      refine k (orU x0 (bitB (i % 64)) rfl rfl s9 s10 (k (iaO (H13.at_ 0 rfl) rfl rfl s7 s8 (by have hb := b0; unfold inR at hb; simp only [decide_eq_true_eq] at hb; omega) un73 ty77 ?_)))
      intro g3 x2 hv3 hx2 hA3
      refine k (stO H13 0 rfl hv3 rfl (by have hb := b0; unfold inR at hb; simp only [decide_eq_true_eq] at hb; omega) ty77 rfl rfl rfl rfl (RV.bv.2 rfl) ?_)
      intro w13 (H14 : HI M w w13 [own w.heap.size 77 (.slice a0 r.length c0) (r.set ((i / 64).toNat) (x0 ||| (bitB (i % 64)))), imm (.slice a_r r.length c_r) r])
      refine z (nx (sq (rg (k (mv rfl s6 (k (asg (v := .slice a0 r.length c0) rfl rfl (z (nx (rt (r1 rfl rfl ?_)))))))))))
      have e0 : (r.set ((i / 64).toNat) (x0 ||| (bitB (i % 64))) : List (BitVec 64)) = setR r i := by exact setR_in b0 hx0
      have l0 : r.length = (setR r i).length := by first | rfl | (rw [← e0]; simp) | simp
      have ev_ := cg1 (fun (n_0 : Nat) => (.slice a0 n_0 c0 : Value)) l0
      exact ⟨a0, c0, ev_, H14.below, (congrArg (fun (n_ : Nat) => OwnsG _ _ _ (setR r i) (.slice a0 n_ c0) _) l0).mp ((congrArg (fun (x_ : List (BitVec 64)) => OwnsG _ _ _ x_ (.slice a0 r.length c0) _) e0).mp (H14.ownsG_out 0 rfl))⟩
  ·
    refine sk (nx (sq (rg (k (mv (v := .slice a0 r.length c0) rfl rfl (k (asg (v := .slice a0 r.length c0) rfl rfl (z (nx (rt (r1 rfl rfl ?_)))))))))))
    have e0 : (r : List (BitVec 64)) = setR r i := by exact setR_out b0
    have ev_ := cg1 (fun (x_0 : List (BitVec 64)) => (.slice a0 x_0.length c0 : Value)) e0
    exact ⟨a0, c0, ev_, H2.below, (congrArg (fun (x_ : List (BitVec 64)) => OwnsG _ _ _ x_ (.slice a0 x_.length c0) _) e0).mp (H2.ownsG_out 0 rfl)⟩
/- eyewitness/row.Sub -/
set_option maxRecDepth 100000 in
set_option maxHeartbeats 1600000 in
theorem row_Sub {M : Nat → Prop} {w : World} {a_a : Option Addr} {c_a : Nat} {a : List (BitVec 64)} {a_b : Option Addr} {c_b : Nat} {b : List (BitVec 64)} (hM : ∀ b, M b → b < w.heap.size) (h_a : RV M w (.slice a_a a.length c_a) a) (h_b : RV M w (.slice a_b b.length c_b) b) : Calls Tryd.prog 71 #[.slice a_a a.length c_a, .slice a_b b.length c_b] w (Ret fun v w' =>  v = .bool (subR a b) ∧ Ext w w') := by
  refine enter 27 Tryd.func71 rfl rfl rfl fun f0 ha => ?_
  have H := HI.start (M0 := M) (w := w) hM
  have H0 := H.put (it := imm (.slice a_a a.length c_a) a) rfl (by rw [MS_nil]; exact h_a)
  have H1 := H0.put (it := imm (.slice a_b b.length c_b) b) rfl (by rw [MS_cons_none rfl, MS_nil]; exact h_b)
  have ln_a := rv_len h_a
  have ln_b := rv_len h_b
  have i0 : f0 0 = .slice a_a a.length c_a := ha 0 (by simp)
  have i1 : f0 1 = .slice a_b b.length c_b := ha 1 (by simp)
  refine sq (rg (k (asg (v := .bool false) rfl rfl (z (nx (sq (sq (rg (k (mv rfl i0 (k (lnS rfl rfl un73 (k (mv (v := .int .i64 0) rfl rfl (z (nx (bk ?_)))))))))))))))))
  refine lp (fun m f w' => ∃ (j : Nat), m = a.length - j ∧ f 1 = .slice a_b b.length c_b ∧ f 7 = .slice a_a a.length c_a ∧ f 8 = .int .i64 (a.length : Int) ∧ f 9 = .int .i64 (j : Int) ∧  HI M w w' [imm (.slice a_b b.length c_b) b, imm (.slice a_a a.length c_a) a] ∧ (j ≤ a.length) ∧ (subTo a b j = true)) _ ⟨0, rfl, i1, rfl, rfl, (ieq rfl (by first | rfl | omega | simp)), H1, (by first | assumption | omega | simp | (simp; omega)), (by rfl)⟩ ?_
  rintro _ f0 w0 ⟨j, rfl, s0, s1, s2, s3, H2, hk, hs⟩
  refine sq (rg (k (lss rfl rfl s3 s2 (z (nx (sq ?_))))))
  refine cd (b := decide ((j : Int) < (a.length : Int))) rfl rfl (fun b0 => ?_) (fun b0 => ?_)
  ·
    have p0 := of_decide_eq_true b0
    refine sk (nx (sq (bk (sq (rg (k (mv rfl s3 (k (ia (H2.rv 1 rfl) rfl rfl s1 s3 (by first | omega | (simp; omega)) un73 ty77 ?_)))))))))
    intro ad0 x0 hx0 hA0
    refine k (ldU hA0.w ty77 rfl rfl (k (asg (v := .int .i64 (j : Int)) rfl rfl (k (asg (v := U x0) rfl rfl (z (nx (sq (sq (rg (k (mv (v := .int .i64 (j : Int)) rfl rfl (k (mv rfl s0 (k (lnS rfl rfl un73 (k (lss rfl rfl rfl rfl (z (nx ?_))))))))))))))))))))
    refine cd (b := decide ((j : Int) < (b.length : Int))) rfl rfl (fun b1 => ?_) (fun b1 => ?_)
    ·
      have p1 := of_decide_eq_true b1
      refine rg (k (mv (v := U x0) rfl rfl (k (mv rfl s0 (k (mv (v := .int .i64 (j : Int)) rfl rfl (k (ia (H2.rv 0 rfl) rfl rfl rfl rfl (by first | omega | (simp; omega)) un73 ty77 ?_))))))))
      intro ad1 x1 hx1 hA1
      refine k (ldU hA1.w ty77 rfl rfl (k (andNotU x0 x1 rfl rfl rfl rfl (k (asg (v := U (x0 &&& ~~~x1)) rfl rfl (z (nx (sq (rg (k (mv (v := U (x0 &&& ~~~x1)) rfl rfl (k (neU (x0 &&& ~~~x1) (0#64) rfl rfl rfl rfl (z (nx ?_)))))))))))))))
      refine cd (b := !decide ((x0 &&& ~~~x1) = (0#64))) rfl rfl (fun b2 => ?_) (fun b2 => ?_)
      ·
        have p2 := of_decide_eq_false (nott b2)
        refine sq (rg (k (asg (v := .bool false) rfl rfl (z (nx (rt (inb_ret (then_ret (loop_ret (inb_ret (then_ret (r1 rfl rfl ?_))))))))))))
        have e0 : (false : Bool) = subR a b := by exact subR_no (k := j) (by omega) (by rw [subAt_in hx0 hx1]; first | simpa using p2 | simpa using p3)
        have ev_ := cg1 (fun (x_0 : Bool) => (.bool x_0 : Value)) e0
        exact ⟨ev_, H2.below⟩
      ·
        have p2 := of_decide_eq_true (notf b2)
        refine sk (inb_normal (nx (rg (k (add rfl rfl s3 rfl (by unfold I64 at *; omega) (k (mv (v := .int .i64 ((j : Int) + 1)) rfl rfl (z ?_))))))))
        refine loopN _ ?_ ⟨(j + 1), rfl, s0, s1, s2, (ieq rfl (by first | rfl | omega | (push_cast; omega))), H2, (by first | assumption | omega | simp | (simp; omega)), (by first | exact subTo_step hs (by rw [subAt_in hx0 hx1]; first | simpa using p2 | simpa using p3) | exact subTo_step hs (by rw [subAt_out hx0 (by omega)]; first | simpa using p3 | simpa using p2))⟩
        omega
    ·
      have p1 := of_decide_eq_false b1
      refine sk (nx (sq (rg (k (mv (v := U x0) rfl rfl (k (neU x0 (0#64) rfl rfl rfl rfl (z (nx ?_)))))))))
      refine cd (b := !decide (x0 = (0#64))) rfl rfl (fun b2 => ?_) (fun b2 => ?_)
      ·
        have p2 := of_decide_eq_false (nott b2)
        refine sq (rg (k (asg (v := .bool false) rfl rfl (z (nx (rt (inb_ret (then_ret (loop_ret (inb_ret (then_ret (r1 rfl rfl ?_))))))))))))
        have e0 : (false : Bool) = subR a b := by exact subR_no (k := j) (by omega) (by rw [subAt_out hx0 (by omega)]; first | simpa using p3 | simpa using p2)
        have ev_ := cg1 (fun (x_0 : Bool) => (.bool x_0 : Value)) e0
        exact ⟨ev_, H2.below⟩
      ·
        have p2 := of_decide_eq_true (notf b2)
        refine sk (inb_normal (nx (rg (k (add rfl rfl s3 rfl (by unfold I64 at *; omega) (k (mv (v := .int .i64 ((j : Int) + 1)) rfl rfl (z ?_))))))))
        refine loopN _ ?_ ⟨(j + 1), rfl, s0, s1, s2, (ieq rfl (by first | rfl | omega | (push_cast; omega))), H2, (by first | assumption | omega | simp | (simp; omega)), (by first | exact subTo_step hs (by rw [subAt_in hx0 hx1]; first | simpa using p2 | simpa using p3) | exact subTo_step hs (by rw [subAt_out hx0 (by omega)]; first | simpa using p3 | simpa using p2))⟩
        omega
  ·
    have p0 := of_decide_eq_false b0
    refine ex (then_exit (loop_exit (inb_here (nx (sq (rg (k (asg (v := .bool true) rfl rfl (z (nx (rt (r1 rfl rfl ?_))))))))))))
    have e0 : (true : Bool) = subR a b := by unfold subR; rw [show a.length = j from by omega]; exact hs.symm
    have ev_ := cg1 (fun (x_0 : Bool) => (.bool x_0 : Value)) e0
    exact ⟨ev_, H2.below⟩
/- eyewitness/row.Words -/
set_option maxRecDepth 100000 in
set_option maxHeartbeats 1600000 in
theorem row_Words {w : World} {n : Int} (h_n : I64 n) (hn : n ≤ 1000000000000000000) : Calls Tryd.prog 96 #[.int .i64 n] w (Ret fun v w' =>  v = .int .i64 ((words n : Nat) : Int) ∧ Ext w w') := by
  refine enter 8 Tryd.func96 rfl rfl rfl fun f0 ha => ?_
  have H := HI.start (M0 := (fun _ => False)) (w := w) (fun _ h => h.elim)
  have i0 : f0 0 = .int .i64 n := ha 0 (by simp)
  refine sq (rg (k (asg (v := .int .i64 0) rfl rfl (z (nx (sq (rg (k (mv rfl i0 (k (max2 rfl rfl rfl rfl (k (add rfl rfl rfl rfl (by unfold I64 at *; omega) (k (sub rfl rfl rfl rfl (by unfold I64 at *; omega) (k (quo rfl rfl rfl rfl (by first | omega | (simp; omega)) (k (asg (v := .int .i64 ((((max n 0) + 64) - 1) / 64)) rfl rfl (z (nx (rt (r1 rfl rfl ?_)))))))))))))))))))))))
  have e0 : ((((max n 0) + 64) - 1) / 64 : Int) = ((words n : Nat) : Int) := by unfold words; omega
  have ev_ := cg1 (fun (x_0 : Int) => (.int .i64 x_0 : Value)) e0
  exact ⟨ev_, H.below⟩
/- eyewitness/row.New -/
set_option maxRecDepth 100000 in
set_option maxHeartbeats 1600000 in
theorem row_New {M : Nat → Prop} {w : World} {n : Int} (hM : ∀ b, M b → b < w.heap.size) (h_n : I64 n) (hn : n ≤ 1000000) : Calls Tryd.prog 78 #[.int .i64 n] w (Ret fun v w' => ∃ (a0 : Option Addr) (c0 : Nat), v = .slice a0 (newR n).length c0 ∧ Ext w w' ∧ OwnsG M 77 w (newR n) (.slice a0 (newR n).length c0) w') := by
  refine enter 6 Tryd.func78 rfl rfl rfl fun f0 ha => ?_
  have H := HI.start (M0 := M) (w := w) hM
  have i0 : f0 0 = .int .i64 n := ha 0 (by simp)
  refine sq (rg (k (asg (v := .slice none 0 0) rfl rfl (z (nx (sq (rg (k (mv rfl i0 (k ?_))))))))))
  have cc0 := row_Words (n := n) (w := w) (by unfold I64 at *; omega) (by first | omega | (simp; omega))
  refine ca go96 rfl (ec rfl e0) cc0 ?_
  rintro _ w0 ⟨rfl, xt0⟩
  have H0 := H.ext xt0
  refine k (mk (m := (words n : Nat)) (zx := (0#64 : (BitVec 64))) H0 rfl rfl rfl rfl un73 ty77 (fun _ _ => rfl) (by unfold words; omega) (by unfold words; omega) ?_)
  intro g0 w1 xt1 (H1 : HI M w w1 [own w.heap.size 77 (.slice (some ⟨g0, 0, none⟩) (words n : Nat) (words n : Nat)) (List.replicate (words n : Nat) (0#64 : (BitVec 64)))])
  refine k (asg (v := .slice (some ⟨g0, 0, none⟩) (words n : Nat) (words n : Nat)) rfl rfl (z (nx (rt (r1 rfl rfl ?_)))))
  have e0 : ((List.replicate (words n : Nat) (0#64 : (BitVec 64))) : List (BitVec 64)) = newR n := by unfold newR; rfl
  have l0 : (words n : Nat) = (newR n).length := by first | rfl | (rw [← e0]; simp) | simp
  have ev_ := cg1 (fun (n_0 : Nat) => (.slice (some ⟨g0, 0, none⟩) n_0 (words n : Nat) : Value)) l0
  exact ⟨(some ⟨g0, 0, none⟩), (words n : Nat), ev_, H1.below, (congrArg (fun (n_ : Nat) => OwnsG _ _ _ (newR n) (.slice (some ⟨g0, 0, none⟩) n_ (words n : Nat)) _) l0).mp ((congrArg (fun (x_ : List (BitVec 64)) => OwnsG _ _ _ x_ (.slice (some ⟨g0, 0, none⟩) (words n : Nat) (words n : Nat)) _) e0).mp (H1.ownsG_out 0 rfl))⟩
/- eyewitness/row.List -/
set_option maxRecDepth 100000 in
set_option maxHeartbeats 1600000 in
theorem row_List {M : Nat → Prop} {w : World} {a_r : Option Addr} {c_r : Nat} {r : List (BitVec 64)} (hM : ∀ b, M b → b < w.heap.size) (hT : TabAt 0 w) (h_r : RV M w (.slice a_r r.length c_r) r) (hl_r : r.length ≤ 1000000000) : Calls Tryd.prog 64 #[.slice a_r r.length c_r] w (Ret fun v w' => ∃ (a0 : Option Addr) (c0 : Nat), v = .slice a0 (listR r).length c0 ∧ Ext w w' ∧ OwnsG M 3 w (listR r) (.slice a0 (listR r).length c0) w') := by
  refine enter 29 Tryd.func64 rfl rfl rfl fun f0 ha => ?_
  have H := HI.start (M0 := M) (w := w) hM
  have H0 := H.put (it := imm (.slice a_r r.length c_r) r) rfl (by rw [MS_nil]; exact h_r)
  have ln_r := rv_len h_r
  have i0 : f0 0 = .slice a_r r.length c_r := ha 0 (by simp)
  refine sq (rg (k (asg (v := .slice none 0 0) rfl rfl (z (nx (sq (rg (k (asg (v := .slice none 0 0) rfl rfl (z (nx (sq (sq (rg (k (mv rfl i0 (k (lnS rfl rfl un73 (k (mv (v := .int .i64 0) rfl rfl (z (nx (bk ?_)))))))))))))))))))))))
  have H1 := H0.nil_ Int 3
  refine lp (fun m f w' => ∃ (j : Nat) (xs : List Int) (a0 : Option Addr) (c0 : Nat), m = r.length - j ∧ f 3 = .slice a0 xs.length c0 ∧ f 6 = .slice a_r r.length c_r ∧ f 7 = .int .i64 (r.length : Int) ∧ f 8 = .int .i64 (j : Int) ∧  HI M w w' [own w.heap.size 3 (.slice a0 xs.length c0) xs, imm (.slice a_r r.length c_r) r] ∧ (j ≤ r.length) ∧ (xs = listTo r j)) _ ⟨0, ([] : List Int), none, 0, rfl, rfl, rfl, rfl, (ieq rfl (by first | rfl | omega | simp)), H1, (by first | assumption | omega | simp | (simp; omega)), (by rfl)⟩ ?_
  rintro _ f0 w0 ⟨j, xs, a0, c0, rfl, s0, s1, s2, s3, H2, hk, hs⟩
  refine sq (rg (k (lss rfl rfl s3 s2 (z (nx (sq ?_))))))
  refine cd (b := decide ((j : Int) < (r.length : Int))) rfl rfl (fun b0 => ?_) (fun b0 => ?_)
  ·
    have p0 := of_decide_eq_true b0
    refine sk (nx (sq (bk (sq (rg (k (mv rfl s3 (k (ia (H2.rv 1 rfl) rfl rfl s1 s3 (by first | omega | (simp; omega)) un73 ty77 ?_)))))))))
    intro ad0 x0 hx0 hA0
    refine k (ldU hA0.w ty77 rfl rfl (k (asg (v := .int .i64 (j : Int)) rfl rfl (k (asg (v := U x0) rfl rfl (z (nx (bk ?_))))))))
    refine lp (fun m f w' => ∃ (y : BitVec 64) (ys : List Int) (a1 : Option Addr) (c1 : Nat), m = (listW y).length ∧ f 3 = .slice a1 ys.length c1 ∧ f 4 = .int .i64 (j : Int) ∧ f 5 = U y ∧ f 6 = .slice a_r r.length c_r ∧ f 7 = .int .i64 (r.length : Int) ∧ f 8 = .int .i64 (j : Int) ∧  HI M w w' [own w.heap.size 3 (.slice a1 ys.length c1) ys, imm (.slice a_r r.length c_r) r] ∧ (ys ++ intsW j y = listTo r j ++ intsW j x0)) _ ⟨x0, xs, a0, c0, rfl, s0, rfl, (ueq rfl (by first | rfl | simp)), s1, s2, s3, H2, (by rw [hs])⟩ ?_
    rintro _ f1 w1 ⟨y, ys, a1, c1, rfl, s4, s5, s6, s7, s8, s9, H3, hy⟩
    refine sq (sq (rg (k (mv rfl s6 (k (neU y (0#64) rfl rfl rfl rfl (z (nx ?_))))))))
    refine cd (b := !decide (y = (0#64))) rfl rfl (fun b1 => ?_) (fun b1 => ?_)
    ·
      have p1 := of_decide_eq_false (nott b1)
      refine sk (nx (sq (bk (rg (k (mv rfl s4 (k (mv rfl s5 (k (mul rfl rfl rfl rfl (by have h_ := firstW_le y; unfold I64; omega) (k (mv rfl s6 (k ?_)))))))))))))
      have cc0 := word_First (x := y) (w := w1) (hT.ext H3.below)
      refine ca go104 rfl (ec rfl e0) cc0 ?_
      rintro _ w2 ⟨rfl, xt0⟩
      have H4 := H3.ext xt0
      refine k (add rfl rfl rfl rfl (by have h_ := firstW_le y; unfold I64; omega) (k (bs (xs := ([((j : Int) * 64) + ((firstW y : Nat) : Int)] : List Int)) (cells := #[.int .i64 (((j : Int) * 64) + ((firstW y : Nat) : Int))]) (e := 3) H4 rfl (pbc rfl pb0) (fun _ => by kernel_rfl) ⟨[.int .i64 (((j : Int) * 64) + ((firstW y : Nat) : Int))], [], rfl, ⟨rfl, (show I64 (((j : Int) * 64) + ((firstW y : Nat) : Int)) from (by have h_ := firstW_le y; unfold I64; omega))⟩, rfl⟩ rfl (by unfold maxLen; omega) ?_)))
      intro g0 w3 xt1 (H5 : HI M w w3 [own w.heap.size 3 (.slice (some ⟨g0, 0, none⟩) 1 1) ([((j : Int) * 64) + ((firstW y : Nat) : Int)] : List Int), own w.heap.size 3 (.slice a1 ys.length c1) ys, imm (.slice a_r r.length c_r) r])
      refine k (ap H5 1 rfl rfl rfl rfl rfl rfl (own_src (H5.at_ 0 rfl)) un42 ty3 rfl (by have h_ := congrArg List.length hy; simp only [List.length_append] at h_; have h1 := listTo_length r j; have h2 := intsW_length j x0; simp only [List.length_cons, List.length_nil]; omega) (by have h_ := congrArg List.length hy; simp only [List.length_append] at h_; have h1 := listTo_length r j; have h2 := intsW_length j x0; simp only [List.length_cons, List.length_nil]; omega) ?_)
      intro a2 c2 w4 (H6 : HI M w w4 [own w.heap.size 3 (.slice (some ⟨g0, 0, none⟩) 1 1) ([((j : Int) * 64) + ((firstW y : Nat) : Int)] : List Int), own w.heap.size 3 (.slice a2 (ys ++ ([((j : Int) * 64) + ((firstW y : Nat) : Int)] : List Int)).length c2) (ys ++ ([((j : Int) * 64) + ((firstW y : Nat) : Int)] : List Int)), imm (.slice a_r r.length c_r) r])
      refine k (asg (v := .slice a2 (ys ++ ([((j : Int) * 64) + ((firstW y : Nat) : Int)] : List Int)).length c2) rfl rfl (z (inb_normal (nx (rg (k (mv rfl s6 (k (mv rfl s6 (k (subU y (1#64) rfl rfl rfl rfl (k (andU y (y - (1#64)) rfl rfl rfl rfl (k (asg (v := U (y &&& (y - (1#64)))) rfl rfl (z ?_))))))))))))))))
      have H7 : HI M w w4 [own w.heap.size 3 (.slice a2 (ys ++ ([((j : Int) * 64) + ((firstW y : Nat) : Int)] : List Int)).length c2) (ys ++ ([((j : Int) * 64) + ((firstW y : Nat) : Int)] : List Int)), imm (.slice a_r r.length c_r) r] := H6.pickN [1, 2] (by decide) rfl
      refine loopN _ ?_ ⟨(y &&& (y - (1#64))), (ys ++ ([((j : Int) * 64) + ((firstW y : Nat) : Int)] : List Int)), a2, c2, rfl, rfl, s5, (ueq rfl (by rfl)), s7, s8, s9, H7, (by rw [List.append_assoc, ← hy, intsW_step (show y ≠ 0#64 by simpa using p1)]; rfl)⟩
      exact clear_less (by simpa using p1)
    ·
      have p1 := of_decide_eq_true (notf b1)
      refine ex (then_exit (loop_exit (inb_here (inb_normal (nx (rg (k (add rfl rfl s9 rfl (by have h_ := firstW_le y; unfold I64; omega) (k (mv (v := .int .i64 ((j : Int) + 1)) rfl rfl (z ?_)))))))))))
      refine loopN _ ?_ ⟨(j + 1), ys, a1, c1, rfl, s4, s7, s8, (ieq rfl (by first | rfl | omega | (push_cast; omega))), H3, (by first | assumption | omega | simp | (simp; omega)), (by rw [listTo_succ, getD_at hx0]; have e_ : y = 0#64 := (by simpa using p1); subst e_; rw [intsW_zero, List.append_nil] at hy; exact hy)⟩
      omega
  ·
    have p0 := of_decide_eq_false b0
    refine ex (then_exit (loop_exit (inb_here (nx (sq (rg (k (mv rfl s0 (k (asg (v := .slice a0 xs.length c0) rfl rfl (z (nx (rt (r1 rfl rfl ?_))))))))))))))
    have e0 : (xs : List Int) = listR r := by rw [hs]; unfold listR; congr 1; omega
    have ev_ := cg1 (fun (x_0 : List Int) => (.slice a0 x_0.length c0 : Value)) e0
    exact ⟨a0, c0, ev_, H2.below, (congrArg (fun (x_ : List Int) => OwnsG _ _ _ x_ (.slice a0 x_.length c0) _) e0).mp (H2.ownsG_out 0 rfl)⟩
/- eyewitness/eyewitnessref01.Bit -/
set_option maxRecDepth 100000 in
set_option maxHeartbeats 1600000 in
theorem ref01_Bit {w : World} {i : Int} (h_i : I64 i) : Calls Tryd.prog 107 #[.int .i64 i] w (Ret fun v w' =>  v = U (bitB i) ∧ Ext w w') := by
  refine enter 17 Tryd.func107 rfl rfl rfl fun f0 ha => ?_
  have H := HI.start (M0 := (fun _ => False)) (w := w) (fun _ h => h.elim)
  have i0 : f0 0 = .int .i64 i := ha 0 (by simp)
  refine sq (rg (k (asg (v := U (0#64)) rfl rfl (z (nx (sq (sq (rg (k (mv rfl i0 (k (lss rfl rfl rfl rfl (k (mv (v := .bool (decide (i < 0))) rfl rfl ?_))))))))))))))
  rcases Bool.eq_false_or_eq_true (decide (i < 0)) with b0 | b0
  · -- decide (i < 0) is True
    have p0 := of_decide_eq_true b0
    refine k (gn rfl rfl rfl b0 (k (gn rfl rfl rfl b0 (k (pickT rfl rfl rfl rfl b0 rfl (z (nx (cdT rfl rfl rfl (sq (rg (k (asg (v := U (0#64)) rfl rfl (z (nx (rt (then_ret (r1 rfl rfl ?_)))))))))))))))))
    have e0 : (0#64 : BitVec 64) = bitB i := by first | exact (bitB_out (by omega)).symm | (rw [bitB_pow (by omega) (by omega), show i.toNat = j from by omega])
    have ev_ := cg1 (fun (x_0 : BitVec 64) => (U x_0 : Value)) e0
    exact ⟨ev_, H.below⟩
  · -- decide (i < 0) is False
    have p0 := of_decide_eq_false b0
    refine k (gy rfl rfl rfl b0 (mv rfl i0 (k (gy rfl rfl rfl b0 (gtr rfl rfl rfl rfl (k (pickF rfl rfl rfl rfl b0 rfl (z (nx ?_)))))))))
    refine cd (b := decide (63 < i)) rfl rfl (fun b1 => ?_) (fun b1 => ?_)
    ·
      have p1 := of_decide_eq_true b1
      refine sq (rg (k (asg (v := U (0#64)) rfl rfl (z (nx (rt (then_ret (r1 rfl rfl ?_))))))))
      have e0 : (0#64 : BitVec 64) = bitB i := by first | exact (bitB_out (by omega)).symm | (rw [bitB_pow (by omega) (by omega), show i.toNat = j from by omega])
      have ev_ := cg1 (fun (x_0 : BitVec 64) => (U x_0 : Value)) e0
      exact ⟨ev_, H.below⟩
    ·
      have p1 := of_decide_eq_false b1
      refine sk (nx (sq (rg (k (asg (v := U (1#64)) rfl rfl (z (nx (sq (bk ?_)))))))))
      refine lp (fun m f w' => ∃ (j : Nat), m = i.toNat - j ∧ f 0 = .int .i64 (i - (j : Int)) ∧ f 3 = U (1#64 <<< j) ∧  HI (fun _ => False) w w' [] ∧ (j ≤ i.toNat)) _ ⟨0, rfl, (ieq i0 (by omega)), (ueq rfl (by first | rfl | simp)), H, (by first | assumption | omega | simp | (simp; omega))⟩ ?_
      rintro _ f0 w0 ⟨j, rfl, s0, s1, H0, hj⟩
      refine sq (sq (rg (k (mv rfl s0 (k (gtr rfl rfl rfl rfl (z (nx ?_))))))))
      refine cd (b := decide (0 < (i - (j : Int)))) rfl rfl (fun b2 => ?_) (fun b2 => ?_)
      ·
        have p2 := of_decide_eq_true b2
        refine sk (nx (sq (bk (rg (k (mv rfl s1 (k (mulU (1#64 <<< j) (2#64) rfl rfl rfl rfl (k (asg (v := U ((1#64 <<< j) * (2#64))) rfl rfl (z (inb_normal (nx (rg (k (mv rfl s0 (k (sub rfl rfl rfl rfl (by unfold I64 at *; omega) (k (asg (v := .int .i64 ((i - (j : Int)) - 1)) rfl rfl (z ?_)))))))))))))))))))))
        refine loopN _ ?_ ⟨(j + 1), rfl, (ieq rfl (by omega)), (ueq rfl (by exact shl_step j)), H0, (by first | assumption | omega | simp | (simp; omega))⟩
        omega
      ·
        have p2 := of_decide_eq_false b2
        refine ex (then_exit (loop_exit (inb_here (nx (sq (rg (k (mv rfl s1 (k (asg (v := U (1#64 <<< j)) rfl rfl (z (nx (rt (r1 rfl rfl ?_))))))))))))))
        have e0 : ((1#64 <<< j) : BitVec 64) = bitB i := by first | exact (bitB_out (by omega)).symm | (rw [bitB_pow (by omega) (by omega), show i.toNat = j from by omega])
        have ev_ := cg1 (fun (x_0 : BitVec 64) => (U x_0 : Value)) e0
        exact ⟨ev_, H0.below⟩
/- eyewitness/eyewitnessref01.Has -/
set_option maxRecDepth 100000 in
set_option maxHeartbeats 1600000 in
theorem ref01_Has {w : World} {x : BitVec 64} {i : Int} (h_i : I64 i) : Calls Tryd.prog 94 #[U x, .int .i64 i] w (Ret fun v w' =>  v = .bool (hasW x i) ∧ Ext w w') := by
  refine enter 17 Tryd.func94 rfl rfl rfl fun f0 ha => ?_
  have H := HI.start (M0 := (fun _ => False)) (w := w) (fun _ h => h.elim)
  have i0 : f0 0 = U x := ha 0 (by simp)
  have i1 : f0 1 = .int .i64 i := ha 1 (by simp)
  refine sq (rg (k (asg (v := .bool false) rfl rfl (z (nx (sq (rg (k (mv rfl i1 (k ?_))))))))))
  have cc0 := ref01_Bit (i := i) (w := w) (by unfold I64 at *; omega)
  refine ca go107 rfl (ec rfl e0) cc0 ?_
  rintro _ w0 ⟨rfl, xt0⟩
  have H0 := H.ext xt0
  refine k (asg (v := U (bitB i)) rfl rfl (z (nx (sq (rg (k (mv (v := U (bitB i)) rfl rfl (k (neU (bitB i) (0#64) rfl rfl rfl rfl (k (mv (v := .bool (!decide ((bitB i) = (0#64)))) rfl rfl ?_)))))))))))
  rcases Bool.eq_false_or_eq_true (!decide ((bitB i) = (0#64))) with b0 | b0
  · -- !decide ((bitB i) = (0#64)) is True
    have p0 := of_decide_eq_false (nott b0)
    refine k (gy rfl rfl rfl b0 (mv rfl i0 (k (gy rfl rfl rfl b0 (mv (v := U (bitB i)) rfl rfl (k (gy rfl rfl rfl b0 (quoU x (bitB i) (by first | decide | simpa using b0) rfl rfl rfl rfl (k (gy rfl rfl rfl b0 (remU (x / (bitB i)) (2#64) (by first | decide | simpa using b0) rfl rfl rfl rfl (k (gy rfl rfl rfl b0 (eqU ((x / (bitB i)) % (2#64)) (1#64) rfl rfl rfl rfl (k (pickT rfl rfl rfl rfl b0 rfl (k (asg (v := .bool (decide (((x / (bitB i)) % (2#64)) = (1#64)))) rfl rfl (z (nx (rt (r1 rfl rfl ?_))))))))))))))))))))))
    have e0 : (decide (((x / (bitB i)) % (2#64)) = (1#64)) : Bool) = hasW x i := by first | exact hasW_quo (by simpa using b0) | exact hasW_zero (by simpa using b0)
    have ev_ := cg1 (fun (x_0 : Bool) => (.bool x_0 : Value)) e0
    exact ⟨ev_, H0.below⟩
  · -- !decide ((bitB i) = (0#64)) is False
    have p0 := of_decide_eq_true (notf b0)
    refine k (gn rfl rfl rfl b0 (k (gn rfl rfl rfl b0 (k (gn rfl rfl rfl b0 (k (gn rfl rfl rfl b0 (k (gn rfl rfl rfl b0 (k (pickF rfl rfl rfl rfl b0 rfl (k (asg (v := .bool false) rfl rfl (z (nx (rt (r1 rfl rfl ?_)))))))))))))))))
    have e0 : (false : Bool) = hasW x i := by first | exact hasW_quo (by simpa using b0) | exact hasW_zero (by simpa using b0)
    have ev_ := cg1 (fun (x_0 : Bool) => (.bool x_0 : Value)) e0
    exact ⟨ev_, H0.below⟩
/- eyewitness/eyewitnessref02.Words -/
set_option maxRecDepth 100000 in
set_option maxHeartbeats 1600000 in
theorem ref02_Words {w : World} {n : Int} (h_n : I64 n) (hn : n ≤ 1000000000000000000) : Calls Tryd.prog 57 #[.int .i64 n] w (Ret fun v w' =>  v = .int .i64 ((words n : Nat) : Int) ∧ Ext w w') := by
  refine enter 8 Tryd.func57 rfl rfl rfl fun f0 ha => ?_
  have H := HI.start (M0 := (fun _ => False)) (w := w) (fun _ h => h.elim)
  have i0 : f0 0 = .int .i64 n := ha 0 (by simp)
  refine sq (rg (k (asg (v := .int .i64 0) rfl rfl (z (nx (sq (sq (rg (k (mv rfl i0 (k (lss rfl rfl rfl rfl (z (nx ?_))))))))))))))
  refine cd (b := decide (n < 0)) rfl rfl (fun b0 => ?_) (fun b0 => ?_)
  ·
    have p0 := of_decide_eq_true b0
    refine sq (rg (k (asg (v := .int .i64 0) rfl rfl (z (nx (rt (then_ret (r1 rfl rfl ?_))))))))
    have e0 : (0 : Int) = ((words n : Nat) : Int) := by first | exact (words_neg (by omega)).symm | exact (words_pos (by omega)).symm
    have ev_ := cg1 (fun (x_0 : Int) => (.int .i64 x_0 : Value)) e0
    exact ⟨ev_, H.below⟩
  ·
    have p0 := of_decide_eq_false b0
    refine sk (nx (sq (rg (k (mv rfl i0 (k (add rfl rfl rfl rfl (by unfold I64 at *; omega) (k (quo rfl rfl rfl rfl (by first | omega | (simp; omega)) (k (asg (v := .int .i64 ((n + 63) / 64)) rfl rfl (z (nx (rt (r1 rfl rfl ?_)))))))))))))))
    have e0 : ((n + 63) / 64 : Int) = ((words n : Nat) : Int) := by first | exact (words_neg (by omega)).symm | exact (words_pos (by omega)).symm
    have ev_ := cg1 (fun (x_0 : Int) => (.int .i64 x_0 : Value)) e0
    exact ⟨ev_, H.below⟩
/- eyewitness/eyewitnessref02.New -/
set_option maxRecDepth 100000 in
set_option maxHeartbeats 1600000 in
theorem ref02_New {M : Nat → Prop} {w : World} {n : Int} (hM : ∀ b, M b → b < w.heap.size) (h_n : I64 n) (hn : n ≤ 1000000) : Calls Tryd.prog 73 #[.int .i64 n] w (Ret fun v w' => ∃ (a0 : Option Addr) (c0 : Nat), v = .slice a0 (newR n).length c0 ∧ Ext w w' ∧ OwnsG M 77 w (newR n) (.slice a0 (newR n).length c0) w') := by
  refine enter 6 Tryd.func73 rfl rfl rfl fun f0 ha => ?_
  have H := HI.start (M0 := M) (w := w) hM
  have i0 : f0 0 = .int .i64 n := ha 0 (by simp)
  refine sq (rg (k (asg (v := .slice none 0 0) rfl rfl (z (nx (sq (rg (k (mv rfl i0 (k ?_))))))))))
  have cc0 := ref02_Words (n := n) (w := w) (by unfold I64 at *; omega) (by first | omega | (simp; omega))
  refine ca go57 rfl (ec rfl e0) cc0 ?_
  rintro _ w0 ⟨rfl, xt0⟩
  have H0 := H.ext xt0
  refine k (mk (m := (words n : Nat)) (zx := (0#64 : (BitVec 64))) H0 rfl rfl rfl rfl un73 ty77 (fun _ _ => rfl) (by unfold words; omega) (by unfold words; omega) ?_)
  intro g0 w1 xt1 (H1 : HI M w w1 [own w.heap.size 77 (.slice (some ⟨g0, 0, none⟩) (words n : Nat) (words n : Nat)) (List.replicate (words n : Nat) (0#64 : (BitVec 64)))])
  refine k (asg (v := .slice (some ⟨g0, 0, none⟩) (words n : Nat) (words n : Nat)) rfl rfl (z (nx (rt (r1 rfl rfl ?_)))))
  have e0 : ((List.replicate (words n : Nat) (0#64 : (BitVec 64))) : List (BitVec 64)) = newR n := by unfold newR; rfl
  have l0 : (words n : Nat) = (newR n).length := by first | rfl | (rw [← e0]; simp) | simp
  have ev_ := cg1 (fun (n_0 : Nat) => (.slice (some ⟨g0, 0, none⟩) n_0 (words n : Nat) : Value)) l0
  exact ⟨(some ⟨g0, 0, none⟩), (words n : Nat), ev_, H1.below, (congrArg (fun (n_ : Nat) => OwnsG _ _ _ (newR n) (.slice (some ⟨g0, 0, none⟩) n_ (words n : Nat)) _) l0).mp ((congrArg (fun (x_ : List (BitVec 64)) => OwnsG _ _ _ x_ (.slice (some ⟨g0, 0, none⟩) (words n : Nat) (words n : Nat)) _) e0).mp (H1.ownsG_out 0 rfl))⟩
/- eyewitness/eyewitnessref02.Has -/
set_option maxRecDepth 100000 in
set_option maxHeartbeats 1600000 in
theorem ref02_Has {M : Nat → Prop} {w : World} {a_r : Option Addr} {c_r : Nat} {r : List (BitVec 64)} {i : Int} (hM : ∀ b, M b → b < w.heap.size) (h_r : RV M w (.slice a_r r.length c_r) r) (h_i : I64 i) (hl_r : r.length ≤ 1000000000) : Calls Tryd.prog 58 #[.slice a_r r.length c_r, .int .i64 i] w (Ret fun v w' =>  v = .bool (hasR r i) ∧ Ext w w') := by
  refine enter 24 Tryd.func58 rfl rfl rfl fun f0 ha => ?_
  have H := HI.start (M0 := M) (w := w) hM
  have H0 := H.put (it := imm (.slice a_r r.length c_r) r) rfl (by rw [MS_nil]; exact h_r)
  have ln_r := rv_len h_r
  have i0 : f0 0 = .slice a_r r.length c_r := ha 0 (by simp)
  have i1 : f0 1 = .int .i64 i := ha 1 (by simp)
  refine sq (rg (k (asg (v := .bool false) rfl rfl (z (nx (sq (rg (k (mv rfl i1 (k (geq rfl rfl rfl rfl (k (mv (v := .bool (decide (0 ≤ i))) rfl rfl ?_)))))))))))))
  rcases Bool.eq_false_or_eq_true (decide (0 ≤ i)) with b0 | b0
  · -- decide (0 ≤ i) is True
    have p0 := of_decide_eq_true b0
    refine k (gy rfl rfl rfl b0 (mv rfl i1 (k (gy rfl rfl rfl b0 (mv rfl i0 (k (gy rfl rfl rfl b0 (lnS rfl rfl un73 (k (gy rfl rfl rfl b0 (mul rfl rfl rfl rfl (by unfold I64 at *; omega) (k (gy rfl rfl rfl b0 (lss rfl rfl rfl rfl (k (pickT rfl rfl rfl rfl b0 rfl (k (mv (v := .bool (decide (i < (64 * (r.length : Int))))) rfl rfl ?_))))))))))))))))))
    rcases Bool.eq_false_or_eq_true (decide (i < (64 * (r.length : Int)))) with b1 | b1
    · -- decide (i < (64 * (r.length : Int))) is True
      have p1 := of_decide_eq_true b1
      refine k (gy rfl rfl rfl b1 (mv rfl i0 (k (gy rfl rfl rfl b1 (mv rfl i1 (k (gy rfl rfl rfl b1 (quo rfl rfl rfl rfl (by first | omega | (simp; omega)) (k (gy rfl rfl rfl b1 (ia (H0.rv 0 rfl) rfl rfl rfl rfl (by first | omega | (simp; omega)) un73 ty77 ?_)))))))))))
      intro ad0 x0 hx0 hA0
      refine k (gy rfl rfl rfl b1 (ldU hA0.w ty77 rfl rfl (k (gy rfl rfl rfl b1 (mv rfl i1 (k (gy rfl rfl rfl b1 (rem rfl rfl rfl rfl (by first | omega | (simp; omega)) (k (gy rfl rfl rfl b1 ?_))))))))))
      have cc0 := ref01_Has (x := x0) (i := (i % 64)) (w := w) (by unfold I64 at *; omega)
      refine ca go94 rfl (ec rfl (ec rfl e0)) cc0 ?_
      rintro _ w0 ⟨rfl, xt0⟩
      have H1 := H0.ext xt0
      refine k (pickT rfl rfl rfl rfl b1 rfl (k (asg (v := .bool (hasW x0 (i % 64))) rfl rfl (z (nx (rt (r1 rfl rfl ?_)))))))
      have e0 : (hasW x0 (i % 64) : Bool) = hasR r i := by first | exact hasR_of (by omega) (by omega) hx0 | exact hasR_no (by omega)
      have ev_ := cg1 (fun (x_0 : Bool) => (.bool x_0 : Value)) e0
      exact ⟨ev_, H1.below⟩
    · -- decide (i < (64 * (r.length : Int))) is False
      have p1 := of_decide_eq_false b1
      refine k (gn rfl rfl rfl b1 (k (gn rfl rfl rfl b1 (k (gn rfl rfl rfl b1 (k (gn rfl rfl rfl b1 (k (gn rfl rfl rfl b1 (k (gn rfl rfl rfl b1 (k (gn rfl rfl rfl b1 (k (gn rfl rfl rfl b1 (k (pickF rfl rfl rfl rfl b1 rfl (k (asg (v := .bool false) rfl rfl (z (nx (rt (r1 rfl rfl ?_)))))))))))))))))))))))
      have e0 : (false : Bool) = hasR r i := by first | exact hasR_of (by omega) (by omega) hx0 | exact hasR_no (by omega)
      have ev_ := cg1 (fun (x_0 : Bool) => (.bool x_0 : Value)) e0
      exact ⟨ev_, H0.below⟩
  · -- decide (0 ≤ i) is False
    have p0 := of_decide_eq_false b0
    refine k (gn rfl rfl rfl b0 (k (gn rfl rfl rfl b0 (k (gn rfl rfl rfl b0 (k (gn rfl rfl rfl b0 (k (gn rfl rfl rfl b0 (k (pickF rfl rfl rfl rfl b0 rfl (k (mv (v := .bool false) rfl rfl (k (gn rfl rfl rfl rfl (k (gn rfl rfl rfl rfl (k (gn rfl rfl rfl rfl (k (gn rfl rfl rfl rfl (k (gn rfl rfl rfl rfl (k (gn rfl rfl rfl rfl (k (gn rfl rfl rfl rfl (k (gn rfl rfl rfl rfl (k (pickF rfl rfl rfl rfl rfl rfl (k (asg (v := .bool false) rfl rfl (z (nx (rt (r1 rfl rfl ?_)))))))))))))))))))))))))))))))))))))
    have e0 : (false : Bool) = hasR r i := by first | exact hasR_of (by omega) (by omega) hx0 | exact hasR_no (by omega)
    have ev_ := cg1 (fun (x_0 : Bool) => (.bool x_0 : Value)) e0
    exact ⟨ev_, H0.below⟩
/- eyewitness/eyewitnessref02.Set -/
set_option maxRecDepth 100000 in
set_option maxHeartbeats 1600000 in
theorem ref02_Set {M : Nat → Prop} {w : World} {a_r : Option Addr} {c_r : Nat} {r : List (BitVec 64)} {i : Int} (hM : ∀ b, M b → b < w.heap.size) (h_r : RV M w (.slice a_r r.length c_r) r) (h_i : I64 i) (hl_r : r.length ≤ 1000000000) : Calls Tryd.prog 75 #[.slice a_r r.length c_r, .int .i64 i] w (Ret fun v w' => ∃ (a0 : Option Addr) (c0 : Nat), v = .slice a0 (setR r i).length c0 ∧ Ext w w' ∧ OwnsG M 77 w (setR r i) (.slice a0 (setR r i).length c0) w') := by
  refine enter 38 Tryd.func75 rfl rfl rfl fun f0 ha => ?_
  have H := HI.start (M0 := M) (w := w) hM
  have H0 := H.put (it := imm (.slice a_r r.length c_r) r) rfl (by rw [MS_nil]; exact h_r)
  have ln_r := rv_len h_r
  have i0 : f0 0 = .slice a_r r.length c_r := ha 0 (by simp)
  have i1 : f0 1 = .int .i64 i := ha 1 (by simp)
  refine sq (rg (k (asg (v := .slice none 0 0) rfl rfl (z (nx (sq (rg (k (bs (xs := ([] : List (BitVec 64))) (cells := #[]) (e := 77) H0 rfl pb0 (fun _ => by kernel_rfl) rfl rfl (by unfold maxLen; omega) ?_)))))))))
  intro g0 w0 xt0 (H1 : HI M w w0 [own w.heap.size 77 (.slice (some ⟨g0, 0, none⟩) 0 0) ([] : List (BitVec 64)), imm (.slice a_r r.length c_r) r])
  refine k (mv rfl i0 (k (ap H1 0 rfl rfl rfl rfl rfl rfl (H1.rv 1 rfl).src un73 ty77 rfl (by simp; omega) (by simp; omega) ?_)))
  intro a0 c0 w1 (H2 : HI M w w1 [own w.heap.size 77 (.slice a0 r.length c0) r, imm (.slice a_r r.length c_r) r])
  refine k (asg (v := .slice a0 r.length c0) rfl rfl (z (nx (sq (sq (rg (k (mv rfl i1 (k (geq rfl rfl rfl rfl (k (mv (v := .bool (decide (0 ≤ i))) rfl rfl ?_))))))))))))
  rcases Bool.eq_false_or_eq_true (decide (0 ≤ i)) with b0 | b0
  · -- decide (0 ≤ i) is True
    have p0 := of_decide_eq_true b0
    refine k (gy rfl rfl rfl b0 (mv rfl i1 (k (gy rfl rfl rfl b0 (mv rfl i0 (k (gy rfl rfl rfl b0 (lnS rfl rfl un73 (k (gy rfl rfl rfl b0 (mul rfl rfl rfl rfl (by unfold I64 at *; omega) (k (gy rfl rfl rfl b0 (lss rfl rfl rfl rfl (k (pickT rfl rfl rfl rfl b0 rfl (k (mv (v := .bool (decide (i < (64 * (r.length : Int))))) rfl rfl ?_))))))))))))))))))
    rcases Bool.eq_false_or_eq_true (decide (i < (64 * (r.length : Int)))) with b1 | b1
    · -- decide (i < (64 * (r.length : Int))) is True
      have p1 := of_decide_eq_true b1
      refine k (gy rfl rfl rfl b1 (mv rfl i0 (k (gy rfl rfl rfl b1 (mv rfl i1 (k (gy rfl rfl rfl b1 ?_)))))))
      have cc0 := ref02_Has (r := r) (i := i) (w := w1) H2.mb (H2.rv 1 rfl) (by unfold I64 at *; omega) (by first | omega | (simp; omega))
      refine ca go58 rfl (ec rfl (ec rfl e0)) cc0 ?_
      rintro _ w2 ⟨rfl, xt1⟩
      have H3 := H2.ext xt1
      refine k (gy rfl rfl rfl b1 (not_ rfl rfl (k (pickT rfl rfl rfl rfl b1 rfl (z (nx ?_))))))
      refine cd (b := !(hasR r i)) rfl rfl (fun b2 => ?_) (fun b2 => ?_)
      ·
        obtain ⟨x0, hx0⟩ : ∃ x, r[(i / 64).toNat]? = some x := ⟨_, List.getElem?_eq_getElem (by first | omega | (simp; omega))⟩
        refine dr 12 [fun (v : Value) (w' : World) => v = .slice a0 r.length c0, fun (v : Value) (w' : World) => v = .int .i64 i, fun (v : Value) (w' : World) => v = .int .i64 (i / 64), fun (v : Value) (w' : World) => v = .slice a0 r.length c0, fun (v : Value) (w' : World) => v = .int .i64 i, fun (v : Value) (w' : World) => v = .int .i64 (i / 64), fun (v : Value) (w' : World) => ∃ (g1 : Nat), v = .pointer (some ⟨g1, (i / 64).toNat * 1, none⟩) ∧ (.slice a0 r.length c0 : Value).ownBlock = some g1 ∧ AtW (MS M [own w.heap.size 77 (.slice a0 r.length c0) r, imm (.slice a_r r.length c_r) r]) w' ⟨g1, (i / 64).toNat * 1, none⟩ x0, fun (v : Value) (w' : World) => v = U x0, fun (v : Value) (w' : World) => v = .int .i64 i, fun (v : Value) (w' : World) => v = .int .i64 (i % 64), fun (v : Value) (w' : World) => v = U (bitB (i % 64)), fun (v : Value) (w' : World) => v = U (x0 + (bitB (i % 64)))] rfl (by kernel_rfl) ?_ ?_
        ·
          refine ⟨fun _ => ⟨fun f0 w4 hf0 xt3 hp0 => ?_, fun _ _ _ _ h => h⟩, ?_⟩
          ·
            have H5 := H3.ext xt3
            refine mv rfl (hf0 5 rfl) ?_
            exact ⟨_, rfl, Ext.refl _, rfl⟩
          refine ⟨fun _ => ⟨fun f1 w5 hf1 xt4 hp1 => ?_, fun _ _ _ _ h => h⟩, ?_⟩
          ·
            have H6 := H3.ext xt4
            refine mv rfl ((hf1 1 rfl).trans i1) ?_
            exact ⟨_, rfl, Ext.refl _, rfl⟩
          refine ⟨fun _ => ⟨fun f2 w6 hf2 xt5 hp2 => ?_, fun _ _ _ _ h => h⟩, ?_⟩
          ·
            have H7 := H3.ext xt5
            have s0 : f2 25 = .int .i64 i := hp2 1 rfl rfl
            refine quo rfl rfl s0 rfl (by first | omega | (simp; omega)) ?_
            exact ⟨_, rfl, Ext.refl _, rfl⟩
          refine ⟨fun _ => ⟨fun f3 w7 hf3 xt6 hp3 => ?_, fun _ _ _ _ h => h⟩, ?_⟩
          ·
            have H8 := H3.ext xt6
            refine mv rfl (hf3 5 rfl) ?_
            exact ⟨_, rfl, Ext.refl _, rfl⟩
          refine ⟨fun _ => ⟨fun f4 w8 hf4 xt7 hp4 => ?_, fun _ _ _ _ h => h⟩, ?_⟩
          ·
            have H9 := H3.ext xt7
            refine mv rfl ((hf4 1 rfl).trans i1) ?_
            exact ⟨_, rfl, Ext.refl _, rfl⟩
          refine ⟨fun _ => ⟨fun f5 w9 hf5 xt8 hp5 => ?_, fun _ _ _ _ h => h⟩, ?_⟩
          ·
            have H10 := H3.ext xt8
            have s1 : f5 28 = .int .i64 i := hp5 4 rfl rfl
            refine quo rfl rfl s1 rfl (by first | omega | (simp; omega)) ?_
            exact ⟨_, rfl, Ext.refl _, rfl⟩
          refine ⟨fun _ => ⟨fun f6 w10 hf6 xt9 hp6 => ?_, by rintro _ _ _ x_ ⟨g1, e_, hv0, hA0⟩; exact ⟨g1, e_, hv0, hA0.ext x_⟩⟩, ?_⟩
          ·
            have H11 := H3.ext xt9
            have s2 : f6 27 = .slice a0 r.length c0 := hp6 3 rfl rfl
            have s3 : f6 29 = .int .i64 (i / 64) := hp6 5 rfl rfl
            refine iaO (H11.at_ 0 rfl) rfl rfl s2 s3 (by first | omega | (simp; omega)) un73 ty77 ?_
            intro g2 x1 hv1 hx1 hA1
            obtain rfl : x0 = x1 := Option.some.inj (hx0.symm.trans hx1)
            exact ⟨_, rfl, Ext.refl _, ⟨g2, rfl, hv1, hA1⟩⟩
          refine ⟨fun _ => ⟨fun f7 w11 hf7 xt10 hp7 => ?_, fun _ _ _ _ h => h⟩, ?_⟩
          ·
            have H12 := H3.ext xt10
            obtain ⟨g3, s4, hv2, hA2⟩ : ∃ (g3 : Nat), f7 30 = .pointer (some ⟨g3, (i / 64).toNat * 1, none⟩) ∧ (.slice a0 r.length c0 : Value).ownBlock = some g3 ∧ AtW (MS M [own w.heap.size 77 (.slice a0 r.length c0) r, imm (.slice a_r r.length c_r) r]) w11 ⟨g3, (i / 64).toNat * 1, none⟩ x0 := hp7 6 rfl rfl
            refine ldU hA2 ty77 rfl s4 ?_
            exact ⟨_, rfl, Ext.refl _, rfl⟩
          refine ⟨fun _ => ⟨fun f8 w12 hf8 xt11 hp8 => ?_, fun _ _ _ _ h => h⟩, ?_⟩
          ·
            have H13 := H3.ext xt11
            refine mv rfl ((hf8 1 rfl).trans i1) ?_
            exact ⟨_, rfl, Ext.refl _, rfl⟩
          refine ⟨fun _ => ⟨fun f9 w13 hf9 xt12 hp9 => ?_, fun _ _ _ _ h => h⟩, ?_⟩
          ·
            have H14 := H3.ext xt12
            have s5 : f9 32 = .int .i64 i := hp9 8 rfl rfl
            refine rem rfl rfl s5 rfl (by first | omega | (simp; omega)) ?_
            exact ⟨_, rfl, Ext.refl _, rfl⟩
          refine ⟨fun _ => ⟨fun f10 w14 hf10 xt13 hp10 => ?_, fun _ _ _ _ h => h⟩, ?_⟩
          ·
            have H15 := H3.ext xt13
            have s6 : f10 33 = .int .i64 (i % 64) := hp10 9 rfl rfl
            have cc2 := ref01_Bit (i := (i % 64)) (w := w14) (by unfold I64 at *; omega)
            refine ca go107 rfl (ec s6 e0) cc2 ?_
            rintro _ w15 ⟨rfl, xt14⟩
            have H16 := H15.ext xt14
            exact ⟨_, rfl, xt14, rfl⟩
          refine ⟨fun _ => ⟨fun f11 w16 hf11 xt15 hp11 => ?_, fun _ _ _ _ h => h⟩, ?_⟩
          ·
            have H17 := H3.ext xt15
            have s7 : f11 31 = U x0 := hp11 7 rfl rfl
            have s8 : f11 34 = U (bitB (i % 64)) := hp11 10 rfl rfl
            refine addU x0 (bitB (i % 64)) rfl rfl s7 s8 ?_
            exact ⟨_, rfl, Ext.refl _, rfl⟩
          exact DSteps.rest rfl _
        · intro f12 w17 hf12 xt16 hp12
          have H18 := H3.ext xt16
          have s9 : f12 5 = .slice a0 r.length c0 := hf12 5 rfl
          have s10 : f12 24 = .slice a0 r.length c0 := hp12 0 rfl
          have s11 : f12 26 = .int .i64 (i / 64) := hp12 2 rfl
          have s12 : f12 35 = U (x0 + (bitB (i % 64))) := hp12 11 rfl
          refine k (iaO (H18.at_ 0 rfl) rfl rfl s10 s11 (by first | omega | (simp; omega)) un73 ty77 ?_)
          intro g4 x2 hv3 hx2 hA3
          refine k (stO H18 0 rfl hv3 rfl (by first | omega | (simp; omega)) ty77 rfl rfl rfl s12 (RV.bv.2 rfl) ?_)
          intro w18 (H19 : HI M w w18 [own w.heap.size 77 (.slice a0 r.length c0) (r.set ((i / 64).toNat) (x0 + (bitB (i % 64)))), imm (.slice a_r r.length c_r) r])
          refine z (nx (sq (rg (k (mv rfl s9 (k (asg (v := .slice a0 r.length c0) rfl rfl (z (nx (rt (r1 rfl rfl ?_)))))))))))
          have e0 : (r.set ((i / 64).toNat) (x0 + (bitB (i % 64))) : List (BitVec 64)) = setR r i := by first | exact setR_add (by omega) (by omega) (by simpa using b2) hx0 | exact setR_no (by omega) | exact (setR_had (by simpa using b2)).symm
          have l0 : r.length = (setR r i).length := by first | rfl | (rw [← e0]; simp) | simp
          have ev_ := cg1 (fun (n_0 : Nat) => (.slice a0 n_0 c0 : Value)) l0
          exact ⟨a0, c0, ev_, H19.below, (congrArg (fun (n_ : Nat) => OwnsG _ _ _ (setR r i) (.slice a0 n_ c0) _) l0).mp ((congrArg (fun (x_ : List (BitVec 64)) => OwnsG _ _ _ x_ (.slice a0 r.length c0) _) e0).mp (H19.ownsG_out 0 rfl))⟩
      ·
        refine sk (nx (sq (rg (k (mv (v := .slice a0 r.length c0) rfl rfl (k (asg (v := .slice a0 r.length c0) rfl rfl (z (nx (rt (r1 rfl rfl ?_)))))))))))
        have e0 : (r : List (BitVec 64)) = setR r i := by first | exact setR_add (by omega) (by omega) (by simpa using b2) hx0 | exact setR_no (by omega) | exact (setR_had (by simpa using b2)).symm
        have ev_ := cg1 (fun (x_0 : List (BitVec 64)) => (.slice a0 x_0.length c0 : Value)) e0
        exact ⟨a0, c0, ev_, H3.below, (congrArg (fun (x_ : List (BitVec 64)) => OwnsG _ _ _ x_ (.slice a0 x_.length c0) _) e0).mp (H3.ownsG_out 0 rfl)⟩
    · -- decide (i < (64 * (r.length : Int))) is False
      have p1 := of_decide_eq_false b1
      refine k (gn rfl rfl rfl b1 (k (gn rfl rfl rfl b1 (k (gn rfl rfl rfl b1 (k (gn rfl rfl rfl b1 (k (pickF rfl rfl rfl rfl b1 rfl (z (nx (cdF rfl rfl rfl (sk (nx (sq (rg (k (mv (v := .slice a0 r.length c0) rfl rfl (k (asg (v := .slice a0 r.length c0) rfl rfl (z (nx (rt (r1 rfl rfl ?_))))))))))))))))))))))))
      have e0 : (r : List (BitVec 64)) = setR r i := by first | exact setR_add (by omega) (by omega) (by simpa using b2) hx0 | exact setR_no (by omega) | exact (setR_had (by simpa using b2)).symm
      have ev_ := cg1 (fun (x_0 : List (BitVec 64)) => (.slice a0 x_0.length c0 : Value)) e0
      exact ⟨a0, c0, ev_, H2.below, (congrArg (fun (x_ : List (BitVec 64)) => OwnsG _ _ _ x_ (.slice a0 x_.length c0) _) e0).mp (H2.ownsG_out 0 rfl)⟩
  · -- decide (0 ≤ i) is False
    have p0 := of_decide_eq_false b0
    refine k (gn rfl rfl rfl b0 (k (gn rfl rfl rfl b0 (k (gn rfl rfl rfl b0 (k (gn rfl rfl rfl b0 (k (gn rfl rfl rfl b0 (k (pickF rfl rfl rfl rfl b0 rfl (k (mv (v := .bool false) rfl rfl (k (gn rfl rfl rfl rfl (k (gn rfl rfl rfl rfl (k (gn rfl rfl rfl rfl (k (gn rfl rfl rfl rfl (k (pickF rfl rfl rfl rfl rfl rfl (z (nx (cdF rfl rfl rfl (sk (nx (sq (rg (k (mv (v := .slice a0 r.length c0) rfl rfl (k (asg (v := .slice a0 r.length c0) rfl rfl (z (nx (rt (r1 rfl rfl ?_))))))))))))))))))))))))))))))))))))))
    have e0 : (r : List (BitVec 64)) = setR r i := by first | exact setR_add (by omega) (by omega) (by simpa using b2) hx0 | exact setR_no (by omega) | exact (setR_had (by simpa using b2)).symm
    have ev_ := cg1 (fun (x_0 : List (BitVec 64)) => (.slice a0 x_0.length c0 : Value)) e0
    exact ⟨a0, c0, ev_, H2.below, (congrArg (fun (x_ : List (BitVec 64)) => OwnsG _ _ _ x_ (.slice a0 x_.length c0) _) e0).mp (H2.ownsG_out 0 rfl)⟩
/- eyewitness/eyewitnessref02.Same -/
set_option maxRecDepth 100000 in
set_option maxHeartbeats 1600000 in
theorem ref02_Same {M : Nat → Prop} {w : World} {a_a : Option Addr} {c_a : Nat} {a : List (BitVec 64)} {a_b : Option Addr} {c_b : Nat} {b : List (BitVec 64)} (hM : ∀ b, M b → b < w.heap.size) (h_a : RV M w (.slice a_a a.length c_a) a) (h_b : RV M w (.slice a_b b.length c_b) b) : Calls Tryd.prog 66 #[.slice a_a a.length c_a, .slice a_b b.length c_b] w (Ret fun v w' =>  v = .bool (decide (a = b)) ∧ Ext w w') := by
  refine enter 26 Tryd.func66 rfl rfl rfl fun f0 ha => ?_
  have H := HI.start (M0 := M) (w := w) hM
  have H0 := H.put (it := imm (.slice a_a a.length c_a) a) rfl (by rw [MS_nil]; exact h_a)
  have H1 := H0.put (it := imm (.slice a_b b.length c_b) b) rfl (by rw [MS_cons_none rfl, MS_nil]; exact h_b)
  have ln_a := rv_len h_a
  have ln_b := rv_len h_b
  have i0 : f0 0 = .slice a_a a.length c_a := ha 0 (by simp)
  have i1 : f0 1 = .slice a_b b.length c_b := ha 1 (by simp)
  refine sq (rg (k (asg (v := .bool false) rfl rfl (z (nx (sq (sq (rg (k (mv rfl i0 (k (lnS rfl rfl un73 (k (mv rfl i1 (k (lnS rfl rfl un73 (k (neq rfl rfl rfl rfl (z (nx ?_))))))))))))))))))))
  refine cd (b := !decide ((a.length : Int) = (b.length : Int))) rfl rfl (fun b0 => ?_) (fun b0 => ?_)
  ·
    have p0 := of_decide_eq_false (nott b0)
    refine sq (rg (k (asg (v := .bool false) rfl rfl (z (nx (rt (then_ret (r1 rfl rfl ?_))))))))
    have e0 : (false : Bool) = decide (a = b) := by symm; rw [decide_eq_false_iff_not]; intro e; subst e; exact p0 rfl
    have ev_ := cg1 (fun (x_0 : Bool) => (.bool x_0 : Value)) e0
    exact ⟨ev_, H1.below⟩
  ·
    have p0 := of_decide_eq_true (notf b0)
    refine sk (nx (sq (sq (rg (k (asg (v := .int .i64 0) rfl rfl (z (nx (bk ?_)))))))))
    refine lp (fun m f w' => ∃ (j : Nat), m = a.length - j ∧ f 0 = .slice a_a a.length c_a ∧ f 1 = .slice a_b b.length c_b ∧ f 5 = .int .i64 (j : Int) ∧  HI M w w' [imm (.slice a_b b.length c_b) b, imm (.slice a_a a.length c_a) a] ∧ (j ≤ a.length) ∧ (a.take j = b.take j)) _ ⟨0, rfl, i0, i1, (ieq rfl (by first | rfl | omega | simp)), H1, (by first | assumption | omega | simp | (simp; omega)), (by first | assumption | omega | simp | (simp; omega))⟩ ?_
    rintro _ f0 w0 ⟨j, rfl, s0, s1, s2, H2, hk, hs⟩
    refine sq (sq (rg (k (mv rfl s2 (k (mv rfl s0 (k (lnS rfl rfl un73 (k (lss rfl rfl rfl rfl (z (nx ?_))))))))))))
    refine cd (b := decide ((j : Int) < (a.length : Int))) rfl rfl (fun b1 => ?_) (fun b1 => ?_)
    ·
      have p1 := of_decide_eq_true b1
      refine sk (nx (sq (bk (sq ?_))))
      obtain ⟨x0, hx0⟩ : ∃ x, a[(j : Int).toNat]? = some x := ⟨_, List.getElem?_eq_getElem (by first | omega | (simp; omega))⟩
      obtain ⟨x1, hx1⟩ : ∃ x, b[(j : Int).toNat]? = some x := ⟨_, List.getElem?_eq_getElem (by first | omega | (simp; omega))⟩
      refine dr 8 [fun (v : Value) (w' : World) => v = .slice a_a a.length c_a, fun (v : Value) (w' : World) => v = .int .i64 (j : Int), fun (v : Value) (w' : World) => ∃ (ad0 : Addr), v = .pointer (some ad0) ∧ At (MS M [imm (.slice a_b b.length c_b) b, imm (.slice a_a a.length c_a) a]) w' ad0 x0, fun (v : Value) (w' : World) => v = U x0, fun (v : Value) (w' : World) => v = .slice a_b b.length c_b, fun (v : Value) (w' : World) => v = .int .i64 (j : Int), fun (v : Value) (w' : World) => ∃ (ad1 : Addr), v = .pointer (some ad1) ∧ At (MS M [imm (.slice a_b b.length c_b) b, imm (.slice a_a a.length c_a) a]) w' ad1 x1, fun (v : Value) (w' : World) => v = U x1] rfl (by kernel_rfl) ?_ ?_
      ·
        refine ⟨fun _ => ⟨fun f1 w1 hf0 xt0 hp0 => ?_, fun _ _ _ _ h => h⟩, ?_⟩
        ·
          have H3 := H2.ext xt0
          refine mv rfl ((hf0 0 rfl).trans s0) ?_
          exact ⟨_, rfl, Ext.refl _, rfl⟩
        refine ⟨fun _ => ⟨fun f2 w2 hf1 xt1 hp1 => ?_, fun _ _ _ _ h => h⟩, ?_⟩
        ·
          have H4 := H2.ext xt1
          refine mv rfl ((hf1 5 rfl).trans s2) ?_
          exact ⟨_, rfl, Ext.refl _, rfl⟩
        refine ⟨fun _ => ⟨fun f3 w3 hf2 xt2 hp2 => ?_, by rintro _ _ _ x_ ⟨ad0, e_, hA0⟩; exact ⟨ad0, e_, hA0.lift (Up.ext x_)⟩⟩, ?_⟩
        ·
          have H5 := H2.ext xt2
          have s3 : f3 17 = .slice a_a a.length c_a := hp2 0 rfl rfl
          have s4 : f3 18 = .int .i64 (j : Int) := hp2 1 rfl rfl
          refine ia (H5.rv 1 rfl) rfl rfl s3 s4 (by first | omega | (simp; omega)) un73 ty77 ?_
          intro ad2 x2 hx2 hA2
          obtain rfl : x0 = x2 := Option.some.inj (hx0.symm.trans hx2)
          exact ⟨_, rfl, Ext.refl _, ⟨ad2, rfl, hA2⟩⟩
        refine ⟨fun _ => ⟨fun f4 w4 hf3 xt3 hp3 => ?_, fun _ _ _ _ h => h⟩, ?_⟩
        ·
          have H6 := H2.ext xt3
          obtain ⟨ad3, s5, hA3⟩ : ∃ (ad3 : Addr), f4 19 = .pointer (some ad3) ∧ At (MS M [imm (.slice a_b b.length c_b) b, imm (.slice a_a a.length c_a) a]) w4 ad3 x0 := hp3 2 rfl rfl
          have H7 := H6.put (it := atI ad3 x0) rfl hA3
          refine ldU (H7.atv 0 rfl).w ty77 rfl s5 ?_
          exact ⟨_, rfl, Ext.refl _, rfl⟩
        refine ⟨fun _ => ⟨fun f5 w5 hf4 xt4 hp4 => ?_, fun _ _ _ _ h => h⟩, ?_⟩
        ·
          have H8 := H2.ext xt4
          refine mv rfl ((hf4 1 rfl).trans s1) ?_
          exact ⟨_, rfl, Ext.refl _, rfl⟩
        refine ⟨fun _ => ⟨fun f6 w6 hf5 xt5 hp5 => ?_, fun _ _ _ _ h => h⟩, ?_⟩
        ·
          have H9 := H2.ext xt5
          refine mv rfl ((hf5 5 rfl).trans s2) ?_
          exact ⟨_, rfl, Ext.refl _, rfl⟩
        refine ⟨fun _ => ⟨fun f7 w7 hf6 xt6 hp6 => ?_, by rintro _ _ _ x_ ⟨ad1, e_, hA1⟩; exact ⟨ad1, e_, hA1.lift (Up.ext x_)⟩⟩, ?_⟩
        ·
          have H10 := H2.ext xt6
          have s6 : f7 21 = .slice a_b b.length c_b := hp6 4 rfl rfl
          have s7 : f7 22 = .int .i64 (j : Int) := hp6 5 rfl rfl
          refine ia (H10.rv 0 rfl) rfl rfl s6 s7 (by first | omega | (simp; omega)) un73 ty77 ?_
          intro ad4 x3 hx3 hA4
          obtain rfl : x1 = x3 := Option.some.inj (hx1.symm.trans hx3)
          exact ⟨_, rfl, Ext.refl _, ⟨ad4, rfl, hA4⟩⟩
        refine ⟨fun _ => ⟨fun f8 w8 hf7 xt7 hp7 => ?_, fun _ _ _ _ h => h⟩, ?_⟩
        ·
          have H11 := H2.ext xt7
          obtain ⟨ad5, s8, hA5⟩ : ∃ (ad5 : Addr), f8 23 = .pointer (some ad5) ∧ At (MS M [imm (.slice a_b b.length c_b) b, imm (.slice a_a a.length c_a) a]) w8 ad5 x1 := hp7 6 rfl rfl
          have H12 := H11.put (it := atI ad5 x1) rfl hA5
          refine ldU (H12.atv 0 rfl).w ty77 rfl s8 ?_
          exact ⟨_, rfl, Ext.refl _, rfl⟩
        exact DSteps.rest rfl _
      · intro f9 w9 hf8 xt8 hp8
        have H13 := H2.ext xt8
        have s9 : f9 0 = .slice a_a a.length c_a := (hf8 0 rfl).trans s0
        have s10 : f9 1 = .slice a_b b.length c_b := (hf8 1 rfl).trans s1
        have s11 : f9 5 = .int .i64 (j : Int) := (hf8 5 rfl).trans s2
        have s12 : f9 20 = U x0 := hp8 3 rfl
        have s13 : f9 24 = U x1 := hp8 7 rfl
        refine k (neU x0 x1 rfl rfl s12 s13 (z (nx ?_)))
        refine cd (b := !decide (x0 = x1)) rfl rfl (fun b2 => ?_) (fun b2 => ?_)
        ·
          have p2 := of_decide_eq_false (nott b2)
          refine sq (rg (k (asg (v := .bool false) rfl rfl (z (nx (rt (inb_ret (then_ret (loop_ret (inb_ret (then_ret (r1 rfl rfl ?_))))))))))))
          have e0 : (false : Bool) = decide (a = b) := by symm; rw [decide_eq_false_iff_not]; exact ne_of_at hx0 hx1 p2
          have ev_ := cg1 (fun (x_0 : Bool) => (.bool x_0 : Value)) e0
          exact ⟨ev_, H13.below⟩
        ·
          have p2 := of_decide_eq_true (notf b2)
          refine sk (inb_normal (nx (rg (k (mv rfl s11 (k (add rfl rfl rfl rfl (by unfold I64 at *; omega) (k (asg (v := .int .i64 ((j : Int) + 1)) rfl rfl (z ?_))))))))))
          refine loopN _ ?_ ⟨(j + 1), rfl, s9, s10, (ieq rfl (by first | rfl | omega | (push_cast; omega))), H13, (by first | assumption | omega | simp | (simp; omega)), (by exact take_eq_step hs hx0 hx1 p2)⟩
          omega
    ·
      have p1 := of_decide_eq_false b1
      refine ex (then_exit (loop_exit (inb_here (nx (sq (rg (k (asg (v := .bool true) rfl rfl (z (nx (rt (r1 rfl rfl ?_))))))))))))
      have e0 : (true : Bool) = decide (a = b) := by symm; rw [decide_eq_true_eq]; exact eq_of_take (by omega) hs (by omega)
      have ev_ := cg1 (fun (x_0 : Bool) => (.bool x_0 : Value)) e0
      exact ⟨ev_, H2.below⟩
/- eyewitness/eyewitnessref02.List -/
set_option maxRecDepth 100000 in
set_option maxHeartbeats 1600000 in
theorem ref02_List {M : Nat → Prop} {w : World} {a_r : Option Addr} {c_r : Nat} {r : List (BitVec 64)} (hM : ∀ b, M b → b < w.heap.size) (h_r : RV M w (.slice a_r r.length c_r) r) (hl_r : r.length ≤ 1000000000) : Calls Tryd.prog 106 #[.slice a_r r.length c_r] w (Ret fun v w' => ∃ (a0 : Option Addr) (c0 : Nat), v = .slice a0 (listR r).length c0 ∧ Ext w w' ∧ OwnsG M 3 w (listR r) (.slice a0 (listR r).length c0) w') := by
  refine enter 20 Tryd.func106 rfl rfl rfl fun f0 ha => ?_
  have H := HI.start (M0 := M) (w := w) hM
  have H0 := H.put (it := imm (.slice a_r r.length c_r) r) rfl (by rw [MS_nil]; exact h_r)
  have ln_r := rv_len h_r
  have i0 : f0 0 = .slice a_r r.length c_r := ha 0 (by simp)
  refine sq (rg (k (asg (v := .slice none 0 0) rfl rfl (z (nx (sq (rg (k (asg (v := .slice none 0 0) rfl rfl (z (nx (sq (sq (rg (k (asg (v := .int .i64 0) rfl rfl (z (nx (bk ?_)))))))))))))))))))
  have H1 := H0.nil_ Int 3
  refine lp (fun m f w' => ∃ (n : Nat) (xs : List Int) (a0 : Option Addr) (c0 : Nat), m = 64 * r.length - n ∧ f 0 = .slice a_r r.length c_r ∧ f 3 = .slice a0 xs.length c0 ∧ f 4 = .int .i64 (n : Int) ∧  HI M w w' [own w.heap.size 3 (.slice a0 xs.length c0) xs, imm (.slice a_r r.length c_r) r] ∧ (n ≤ 64 * r.length) ∧ (xs = listN r n)) _ ⟨0, ([] : List Int), none, 0, rfl, i0, rfl, (ieq rfl (by first | rfl | omega | simp)), H1, (by first | assumption | omega | simp | (simp; omega)), (by rfl)⟩ ?_
  rintro _ f0 w0 ⟨n, xs, a0, c0, rfl, s0, s1, s2, H2, hk, hs⟩
  refine sq (sq (rg (k (mv rfl s2 (k (mv rfl s0 (k (lnS rfl rfl un73 (k (mul rfl rfl rfl rfl (by unfold I64 at *; omega) (k (lss rfl rfl rfl rfl (z (nx ?_))))))))))))))
  refine cd (b := decide ((n : Int) < (64 * (r.length : Int)))) rfl rfl (fun b0 => ?_) (fun b0 => ?_)
  ·
    have p0 := of_decide_eq_true b0
    refine sk (nx (sq (bk (sq (rg (k (mv rfl s0 (k (mv rfl s2 (k ?_))))))))))
    have cc0 := ref02_Has (r := r) (i := (n : Int)) (w := w0) H2.mb (H2.rv 1 rfl) (by unfold I64 at *; omega) (by first | omega | (simp; omega))
    refine ca go58 rfl (ec rfl (ec rfl e0)) cc0 ?_
    rintro _ w1 ⟨rfl, xt0⟩
    have H3 := H2.ext xt0
    refine z (nx ?_)
    refine cd (b := hasR r (n : Int)) rfl rfl (fun b1 => ?_) (fun b1 => ?_)
    ·
      refine rg (k (mv rfl s1 (k (mv rfl s2 (k (bs (xs := ([(n : Int)] : List Int)) (cells := #[.int .i64 (n : Int)]) (e := 3) H3 rfl (pbc rfl pb0) (fun _ => by kernel_rfl) ⟨[.int .i64 (n : Int)], [], rfl, ⟨rfl, (show I64 ((n : Int)) from (by unfold I64 at *; omega))⟩, rfl⟩ rfl (by unfold maxLen; omega) ?_))))))
      intro g0 w2 xt1 (H4 : HI M w w2 [own w.heap.size 3 (.slice (some ⟨g0, 0, none⟩) 1 1) ([(n : Int)] : List Int), own w.heap.size 3 (.slice a0 xs.length c0) xs, imm (.slice a_r r.length c_r) r])
      refine k (ap H4 1 rfl rfl rfl rfl rfl rfl (own_src (H4.at_ 0 rfl)) un42 ty3 rfl (by have h_ := listN_length r n; rw [hs]; simp only [List.length_cons, List.length_nil]; omega) (by have h_ := listN_length r n; rw [hs]; simp only [List.length_cons, List.length_nil]; omega) ?_)
      intro a1 c1 w3 (H5 : HI M w w3 [own w.heap.size 3 (.slice (some ⟨g0, 0, none⟩) 1 1) ([(n : Int)] : List Int), own w.heap.size 3 (.slice a1 (xs ++ ([(n : Int)] : List Int)).length c1) (xs ++ ([(n : Int)] : List Int)), imm (.slice a_r r.length c_r) r])
      refine k (asg (v := .slice a1 (xs ++ ([(n : Int)] : List Int)).length c1) rfl rfl (z (inb_normal (nx (rg (k (mv rfl s2 (k (add rfl rfl rfl rfl (by unfold I64 at *; omega) (k (asg (v := .int .i64 ((n : Int) + 1)) rfl rfl (z ?_))))))))))))
      have H6 : HI M w w3 [own w.heap.size 3 (.slice a1 (xs ++ ([(n : Int)] : List Int)).length c1) (xs ++ ([(n : Int)] : List Int)), imm (.slice a_r r.length c_r) r] := H5.pickN [1, 2] (by decide) rfl
      refine loopN _ ?_ ⟨(n + 1), (xs ++ ([(n : Int)] : List Int)), a1, c1, rfl, s0, rfl, (ieq rfl (by first | rfl | omega | (push_cast; omega))), H6, (by first | assumption | omega | simp | (simp; omega)), (by rw [hs]; first | exact (listN_succ_yes b1).symm | exact (listN_succ_no b1).symm)⟩
      omega
    ·
      refine sk (inb_normal (nx (rg (k (mv rfl s2 (k (add rfl rfl rfl rfl (by unfold I64 at *; omega) (k (asg (v := .int .i64 ((n : Int) + 1)) rfl rfl (z ?_))))))))))
      refine loopN _ ?_ ⟨(n + 1), xs, a0, c0, rfl, s0, s1, (ieq rfl (by first | rfl | omega | (push_cast; omega))), H3, (by first | assumption | omega | simp | (simp; omega)), (by rw [hs]; first | exact (listN_succ_yes b1).symm | exact (listN_succ_no b1).symm)⟩
      omega
  ·
    have p0 := of_decide_eq_false b0
    refine ex (then_exit (loop_exit (inb_here (nx (sq (rg (k (mv rfl s1 (k (asg (v := .slice a0 xs.length c0) rfl rfl (z (nx (rt (r1 rfl rfl ?_))))))))))))))
    have e0 : (xs : List Int) = listR r := by rw [hs, show n = 64 * r.length from by omega]; exact listN_all r
    have ev_ := cg1 (fun (x_0 : List Int) => (.slice a0 x_0.length c0 : Value)) e0
    exact ⟨a0, c0, ev_, H2.below, (congrArg (fun (x_ : List Int) => OwnsG _ _ _ x_ (.slice a0 x_.length c0) _) e0).mp (H2.ownsG_out 0 rfl)⟩
/- eyewitness/eyewitnessref02.Ints -/
set_option maxRecDepth 100000 in
set_option maxHeartbeats 1600000 in
theorem ref02_Ints {M : Nat → Prop} {w : World} {a_a : Option Addr} {c_a : Nat} {a : List Int} {a_b : Option Addr} {c_b : Nat} {b : List Int} (hM : ∀ b, M b → b < w.heap.size) (h_a : RV M w (.slice a_a a.length c_a) a) (h_b : RV M w (.slice a_b b.length c_b) b) : Calls Tryd.prog 42 #[.slice a_a a.length c_a, .slice a_b b.length c_b] w (Ret fun v w' =>  v = .bool (decide (a = b)) ∧ Ext w w') := by
  refine enter 26 Tryd.func42 rfl rfl rfl fun f0 ha => ?_
  have H := HI.start (M0 := M) (w := w) hM
  have H0 := H.put (it := imm (.slice a_a a.length c_a) a) rfl (by rw [MS_nil]; exact h_a)
  have H1 := H0.put (it := imm (.slice a_b b.length c_b) b) rfl (by rw [MS_cons_none rfl, MS_nil]; exact h_b)
  have ln_a := rv_len h_a
  have ln_b := rv_len h_b
  have i0 : f0 0 = .slice a_a a.length c_a := ha 0 (by simp)
  have i1 : f0 1 = .slice a_b b.length c_b := ha 1 (by simp)
  refine sq (rg (k (asg (v := .bool false) rfl rfl (z (nx (sq (sq (rg (k (mv rfl i0 (k (lnS rfl rfl un42 (k (mv rfl i1 (k (lnS rfl rfl un42 (k (neq rfl rfl rfl rfl (z (nx ?_))))))))))))))))))))
  refine cd (b := !decide ((a.length : Int) = (b.length : Int))) rfl rfl (fun b0 => ?_) (fun b0 => ?_)
  ·
    have p0 := of_decide_eq_false (nott b0)
    refine sq (rg (k (asg (v := .bool false) rfl rfl (z (nx (rt (then_ret (r1 rfl rfl ?_))))))))
    have e0 : (false : Bool) = decide (a = b) := by symm; rw [decide_eq_false_iff_not]; intro e; subst e; exact p0 rfl
    have ev_ := cg1 (fun (x_0 : Bool) => (.bool x_0 : Value)) e0
    exact ⟨ev_, H1.below⟩
  ·
    have p0 := of_decide_eq_true (notf b0)
    refine sk (nx (sq (sq (rg (k (asg (v := .int .i64 0) rfl rfl (z (nx (bk ?_)))))))))
    refine lp (fun m f w' => ∃ (j : Nat), m = a.length - j ∧ f 0 = .slice a_a a.length c_a ∧ f 1 = .slice a_b b.length c_b ∧ f 5 = .int .i64 (j : Int) ∧  HI M w w' [imm (.slice a_b b.length c_b) b, imm (.slice a_a a.length c_a) a] ∧ (j ≤ a.length) ∧ (a.take j = b.take j)) _ ⟨0, rfl, i0, i1, (ieq rfl (by first | rfl | omega | simp)), H1, (by first | assumption | omega | simp | (simp; omega)), (by first | assumption | omega | simp | (simp; omega))⟩ ?_
    rintro _ f0 w0 ⟨j, rfl, s0, s1, s2, H2, hk, hs⟩
    refine sq (sq (rg (k (mv rfl s2 (k (mv rfl s0 (k (lnS rfl rfl un42 (k (lss rfl rfl rfl rfl (z (nx ?_))))))))))))
    refine cd (b := decide ((j : Int) < (a.length : Int))) rfl rfl (fun b1 => ?_) (fun b1 => ?_)
    ·
      have p1 := of_decide_eq_true b1
      refine sk (nx (sq (bk (sq ?_))))
      obtain ⟨x0, hx0⟩ : ∃ x, a[(j : Int).toNat]? = some x := ⟨_, List.getElem?_eq_getElem (by first | omega | (simp; omega))⟩
      obtain ⟨x1, hx1⟩ : ∃ x, b[(j : Int).toNat]? = some x := ⟨_, List.getElem?_eq_getElem (by first | omega | (simp; omega))⟩
      refine dr 8 [fun (v : Value) (w' : World) => v = .slice a_a a.length c_a, fun (v : Value) (w' : World) => v = .int .i64 (j : Int), fun (v : Value) (w' : World) => ∃ (ad0 : Addr), v = .pointer (some ad0) ∧ At (MS M [imm (.slice a_b b.length c_b) b, imm (.slice a_a a.length c_a) a]) w' ad0 x0, fun (v : Value) (w' : World) => v = .int .i64 x0 ∧ I64 (x0), fun (v : Value) (w' : World) => v = .slice a_b b.length c_b, fun (v : Value) (w' : World) => v = .int .i64 (j : Int), fun (v : Value) (w' : World) => ∃ (ad1 : Addr), v = .pointer (some ad1) ∧ At (MS M [imm (.slice a_b b.length c_b) b, imm (.slice a_a a.length c_a) a]) w' ad1 x1, fun (v : Value) (w' : World) => v = .int .i64 x1 ∧ I64 (x1)] rfl (by kernel_rfl) ?_ ?_
      ·
        refine ⟨fun _ => ⟨fun f1 w1 hf0 xt0 hp0 => ?_, fun _ _ _ _ h => h⟩, ?_⟩
        ·
          have H3 := H2.ext xt0
          refine mv rfl ((hf0 0 rfl).trans s0) ?_
          exact ⟨_, rfl, Ext.refl _, rfl⟩
        refine ⟨fun _ => ⟨fun f2 w2 hf1 xt1 hp1 => ?_, fun _ _ _ _ h => h⟩, ?_⟩
        ·
          have H4 := H2.ext xt1
          refine mv rfl ((hf1 5 rfl).trans s2) ?_
          exact ⟨_, rfl, Ext.refl _, rfl⟩
        refine ⟨fun _ => ⟨fun f3 w3 hf2 xt2 hp2 => ?_, by rintro _ _ _ x_ ⟨ad0, e_, hA0⟩; exact ⟨ad0, e_, hA0.lift (Up.ext x_)⟩⟩, ?_⟩
        ·
          have H5 := H2.ext xt2
          have s3 : f3 17 = .slice a_a a.length c_a := hp2 0 rfl rfl
          have s4 : f3 18 = .int .i64 (j : Int) := hp2 1 rfl rfl
          refine ia (H5.rv 1 rfl) rfl rfl s3 s4 (by first | omega | (simp; omega)) un42 ty3 ?_
          intro ad2 x2 hx2 hA2
          obtain rfl : x0 = x2 := Option.some.inj (hx0.symm.trans hx2)
          exact ⟨_, rfl, Ext.refl _, ⟨ad2, rfl, hA2⟩⟩
        refine ⟨fun _ => ⟨fun f4 w4 hf3 xt3 hp3 => ?_, fun _ _ _ _ h => h⟩, ?_⟩
        ·
          have H6 := H2.ext xt3
          obtain ⟨ad3, s5, hA3⟩ : ∃ (ad3 : Addr), f4 19 = .pointer (some ad3) ∧ At (MS M [imm (.slice a_b b.length c_b) b, imm (.slice a_a a.length c_a) a]) w4 ad3 x0 := hp3 2 rfl rfl
          have H7 := H6.put (it := atI ad3 x0) rfl hA3
          refine ldI (H7.atv 0 rfl).w ty3 rfl s5 ?_
          intro rv2
          exact ⟨_, rfl, Ext.refl _, ⟨rfl, rv2⟩⟩
        refine ⟨fun _ => ⟨fun f5 w5 hf4 xt4 hp4 => ?_, fun _ _ _ _ h => h⟩, ?_⟩
        ·
          have H8 := H2.ext xt4
          refine mv rfl ((hf4 1 rfl).trans s1) ?_
          exact ⟨_, rfl, Ext.refl _, rfl⟩
        refine ⟨fun _ => ⟨fun f6 w6 hf5 xt5 hp5 => ?_, fun _ _ _ _ h => h⟩, ?_⟩
        ·
          have H9 := H2.ext xt5
          refine mv rfl ((hf5 5 rfl).trans s2) ?_
          exact ⟨_, rfl, Ext.refl _, rfl⟩
        refine ⟨fun _ => ⟨fun f7 w7 hf6 xt6 hp6 => ?_, by rintro _ _ _ x_ ⟨ad1, e_, hA1⟩; exact ⟨ad1, e_, hA1.lift (Up.ext x_)⟩⟩, ?_⟩
        ·
          have H10 := H2.ext xt6
          have s6 : f7 21 = .slice a_b b.length c_b := hp6 4 rfl rfl
          have s7 : f7 22 = .int .i64 (j : Int) := hp6 5 rfl rfl
          refine ia (H10.rv 0 rfl) rfl rfl s6 s7 (by first | omega | (simp; omega)) un42 ty3 ?_
          intro ad4 x3 hx3 hA4
          obtain rfl : x1 = x3 := Option.some.inj (hx1.symm.trans hx3)
          exact ⟨_, rfl, Ext.refl _, ⟨ad4, rfl, hA4⟩⟩
        refine ⟨fun _ => ⟨fun f8 w8 hf7 xt7 hp7 => ?_, fun _ _ _ _ h => h⟩, ?_⟩
        ·
          have H11 := H2.ext xt7
          obtain ⟨ad5, s8, hA5⟩ : ∃ (ad5 : Addr), f8 23 = .pointer (some ad5) ∧ At (MS M [imm (.slice a_b b.length c_b) b, imm (.slice a_a a.length c_a) a]) w8 ad5 x1 := hp7 6 rfl rfl
          have H12 := H11.put (it := atI ad5 x1) rfl hA5
          refine ldI (H12.atv 0 rfl).w ty3 rfl s8 ?_
          intro rv3
          exact ⟨_, rfl, Ext.refl _, ⟨rfl, rv3⟩⟩
        exact DSteps.rest rfl _
      · intro f9 w9 hf8 xt8 hp8
        have H13 := H2.ext xt8
        have s9 : f9 0 = .slice a_a a.length c_a := (hf8 0 rfl).trans s0
        have s10 : f9 1 = .slice a_b b.length c_b := (hf8 1 rfl).trans s1
        have s11 : f9 5 = .int .i64 (j : Int) := (hf8 5 rfl).trans s2
        obtain ⟨s12, rv4⟩ : f9 20 = .int .i64 x0 ∧ I64 (x0) := hp8 3 rfl
        obtain ⟨s13, rv5⟩ : f9 24 = .int .i64 x1 ∧ I64 (x1) := hp8 7 rfl
        refine k (neq rfl rfl s12 s13 (z (nx ?_)))
        refine cd (b := !decide (x0 = x1)) rfl rfl (fun b2 => ?_) (fun b2 => ?_)
        ·
          have p2 := of_decide_eq_false (nott b2)
          refine sq (rg (k (asg (v := .bool false) rfl rfl (z (nx (rt (inb_ret (then_ret (loop_ret (inb_ret (then_ret (r1 rfl rfl ?_))))))))))))
          have e0 : (false : Bool) = decide (a = b) := by symm; rw [decide_eq_false_iff_not]; exact ne_of_at hx0 hx1 p2
          have ev_ := cg1 (fun (x_0 : Bool) => (.bool x_0 : Value)) e0
          exact ⟨ev_, H13.below⟩
        ·
          have p2 := of_decide_eq_true (notf b2)
          refine sk (inb_normal (nx (rg (k (mv rfl s11 (k (add rfl rfl rfl rfl (by unfold I64 at *; omega) (k (asg (v := .int .i64 ((j : Int) + 1)) rfl rfl (z ?_))))))))))
          refine loopN _ ?_ ⟨(j + 1), rfl, s9, s10, (ieq rfl (by first | rfl | omega | (push_cast; omega))), H13, (by first | assumption | omega | simp | (simp; omega)), (by exact take_eq_step hs hx0 hx1 p2)⟩
          omega
    ·
      have p1 := of_decide_eq_false b1
      refine ex (then_exit (loop_exit (inb_here (nx (sq (rg (k (asg (v := .bool true) rfl rfl (z (nx (rt (r1 rfl rfl ?_))))))))))))
      have e0 : (true : Bool) = decide (a = b) := by symm; rw [decide_eq_true_eq]; exact eq_of_take (by omega) hs (by omega)
      have ev_ := cg1 (fun (x_0 : Bool) => (.bool x_0 : Value)) e0
      exact ⟨ev_, H2.below⟩
/- eyewitness/eyewitnessref02.Sub -/
set_option maxRecDepth 100000 in
set_option maxHeartbeats 1600000 in
theorem ref02_Sub {M : Nat → Prop} {w : World} {a_a : Option Addr} {c_a : Nat} {a : List (BitVec 64)} {a_b : Option Addr} {c_b : Nat} {b : List (BitVec 64)} (hM : ∀ b, M b → b < w.heap.size) (h_a : RV M w (.slice a_a a.length c_a) a) (h_b : RV M w (.slice a_b b.length c_b) b) (hl_a : a.length ≤ 1000000000) (hl_b : b.length ≤ 1000000000) : Calls Tryd.prog 72 #[.slice a_a a.length c_a, .slice a_b b.length c_b] w (Ret fun v w' =>  v = .bool (subR a b) ∧ Ext w w') := by
  refine enter 22 Tryd.func72 rfl rfl rfl fun f0 ha => ?_
  have H := HI.start (M0 := M) (w := w) hM
  have H0 := H.put (it := imm (.slice a_a a.length c_a) a) rfl (by rw [MS_nil]; exact h_a)
  have H1 := H0.put (it := imm (.slice a_b b.length c_b) b) rfl (by rw [MS_cons_none rfl, MS_nil]; exact h_b)
  have ln_a := rv_len h_a
  have ln_b := rv_len h_b
  have i0 : f0 0 = .slice a_a a.length c_a := ha 0 (by simp)
  have i1 : f0 1 = .slice a_b b.length c_b := ha 1 (by simp)
  refine sq (rg (k (asg (v := .bool false) rfl rfl (z (nx (sq (rg (k (mv rfl i0 (k ?_))))))))))
  have cc0 := ref02_List (r := a) (w := w) H1.mb (H1.rv 1 rfl) (by first | omega | (simp; omega))
  refine ca go106 rfl (ec rfl e0) cc0 ?_
  rintro _ w0 ⟨a0, c0, rfl, xt0, rv0⟩
  have H2 := H1.ownsG rv0
  refine k (asg (v := .slice a0 (listR a).length c0) rfl rfl (z (nx (sq (sq (rg (k (asg (v := .int .i64 0) rfl rfl (z (nx (bk ?_)))))))))))
  refine lp (fun m f w' => ∃ (j : Nat), m = (listR a).length - j ∧ f 1 = .slice a_b b.length c_b ∧ f 5 = .slice a0 (listR a).length c0 ∧ f 6 = .int .i64 (j : Int) ∧  HI M w w' [own w.heap.size 3 (.slice a0 (listR a).length c0) (listR a), imm (.slice a_b b.length c_b) b, imm (.slice a_a a.length c_a) a] ∧ (j ≤ (listR a).length) ∧ (((listR a).take j).all (hasR b) = true)) _ ⟨0, rfl, i1, rfl, (ieq rfl (by first | rfl | omega | simp)), H2, (by first | assumption | omega | simp | (simp; omega)), (by rfl)⟩ ?_
  rintro _ f0 w1 ⟨j, rfl, s0, s1, s2, H3, hk, hs⟩
  refine sq (sq (rg (k (mv rfl s2 (k (mv rfl s1 (k (lnS rfl rfl un42 (k (lss rfl rfl rfl rfl (z (nx ?_))))))))))))
  refine cd (b := decide ((j : Int) < ((listR a).length : Int))) rfl rfl (fun b0 => ?_) (fun b0 => ?_)
  ·
    have p0 := of_decide_eq_true b0
    refine sk (nx (sq (bk (sq (rg (k (mv rfl s0 (k (mv rfl s1 (k (mv rfl s2 (k (iaO (H3.at_ 0 rfl) rfl rfl rfl rfl (by first | omega | (simp; omega)) un42 ty3 ?_)))))))))))))
    intro g0 x0 hv0 hx0 hA0
    refine k (ldI hA0 ty3 rfl rfl ?_)
    intro rv1
    refine k ?_
    have cc1 := ref02_Has (r := b) (i := x0) (w := w1) H3.mb (H3.rv 1 rfl) (by first | assumption | (unfold I64 at *; omega)) (by first | omega | (simp; omega))
    refine ca go58 rfl (ec rfl (ec rfl e0)) cc1 ?_
    rintro _ w2 ⟨rfl, xt1⟩
    have H4 := H3.ext xt1
    refine k (not_ rfl rfl (z (nx ?_)))
    refine cd (b := !(hasR b x0)) rfl rfl (fun b1 => ?_) (fun b1 => ?_)
    ·
      refine sq (rg (k (asg (v := .bool false) rfl rfl (z (nx (rt (inb_ret (then_ret (loop_ret (inb_ret (then_ret (r1 rfl rfl ?_))))))))))))
      have e0 : (false : Bool) = subR a b := by rw [← sub_has]; first | exact (all_no hx0 (by simpa using b1)).symm | (rw [take_end (by omega)] at hs; exact hs.symm)
      have ev_ := cg1 (fun (x_0 : Bool) => (.bool x_0 : Value)) e0
      exact ⟨ev_, H4.below⟩
    ·
      refine sk (inb_normal (nx (rg (k (mv rfl s2 (k (add rfl rfl rfl rfl (by have h_ := listR_length a; unfold I64; omega) (k (asg (v := .int .i64 ((j : Int) + 1)) rfl rfl (z ?_))))))))))
      refine loopN _ ?_ ⟨(j + 1), rfl, s0, s1, (ieq rfl (by first | rfl | omega | (push_cast; omega))), H4, (by first | assumption | omega | simp | (simp; omega)), (by exact all_take hx0 hs (by simpa using b1))⟩
      omega
  ·
    have p0 := of_decide_eq_false b0
    refine ex (then_exit (loop_exit (inb_here (nx (sq (rg (k (asg (v := .bool true) rfl rfl (z (nx (rt (r1 rfl rfl ?_))))))))))))
    have e0 : (true : Bool) = subR a b := by rw [← sub_has]; first | exact (all_no hx0 (by simpa using b1)).symm | (rw [take_end (by omega)] at hs; exact hs.symm)
    have ev_ := cg1 (fun (x_0 : Bool) => (.bool x_0 : Value)) e0
    exact ⟨ev_, H3.below⟩
end Go.Proofs.YtmhopljngkgidaaDoor
namespace Go.Proofs.YtmhopljngkgidaaDoor
open Go.Ew Go.RowKit
set_option linter.unusedVariables false
set_option linter.unusedSimpArgs false
attribute [local irreducible] WL WC SO Code.wp wpList retQ Ret
attribute [local irreducible] bitB hasW inR hasR setR countW countR subR words newR listR orR firstW tab8
theorem go114 : GoF Tryd.prog 114 := ⟨_, _, Tryd.func114, rfl, by kernel_rfl⟩
theorem un22 : Tryd.prog.underlying 22 = some (.slice 73) := by kernel_rfl
theorem ty73 : TyF Tryd.prog 73 1 false 24 (.slice none 0 0) := ⟨by kernel_rfl, by kernel_rfl⟩
theorem go116 : GoF Tryd.prog 116 := ⟨_, _, Tryd.func116, rfl, by kernel_rfl⟩
theorem fl24_0 : FldF Tryd.prog 24 0 0 := ⟨_, _, Tryd.underlying24, rfl, rfl, by kernel_rfl⟩
theorem go101 : GoF Tryd.prog 101 := ⟨_, _, Tryd.func101, rfl, by kernel_rfl⟩
theorem go100 : GoF Tryd.prog 100 := ⟨_, _, Tryd.func100, rfl, by kernel_rfl⟩
theorem ty24 : TyF Tryd.prog 24 2 true 32 (.agg #[.int .i64 0, .slice none 0 0]) := ⟨by kernel_rfl, by kernel_rfl⟩
theorem go78 : GoF Tryd.prog 78 := ⟨_, _, Tryd.func78, rfl, by kernel_rfl⟩
theorem go61 : GoF Tryd.prog 61 := ⟨_, _, Tryd.func61, rfl, by kernel_rfl⟩
theorem un31 : Tryd.prog.underlying 31 = some (.slice 76) := by kernel_rfl
theorem ty76 : TyF Tryd.prog 76 2 true 16 (.agg #[.int .i64 0, .int .i64 0]) := ⟨by kernel_rfl, by kernel_rfl⟩
theorem un76 : Tryd.prog.underlying 76 = some (.array 2 3) := by kernel_rfl
theorem go62 : GoF Tryd.prog 62 := ⟨_, _, Tryd.func62, rfl, by kernel_rfl⟩
theorem fl24_1 : FldF Tryd.prog 24 1 1 := ⟨_, _, Tryd.underlying24, rfl, rfl, by kernel_rfl⟩
theorem ty22 : TyF Tryd.prog 22 1 false 24 (.slice none 0 0) := ⟨by kernel_rfl, by kernel_rfl⟩
theorem go63 : GoF Tryd.prog 63 := ⟨_, _, Tryd.func63, rfl, by kernel_rfl⟩
theorem go95 : GoF Tryd.prog 95 := ⟨_, _, Tryd.func95, rfl, by kernel_rfl⟩
theorem go67 : GoF Tryd.prog 67 := ⟨_, _, Tryd.func67, rfl, by kernel_rfl⟩
theorem go97 : GoF Tryd.prog 97 := ⟨_, _, Tryd.func97, rfl, by kernel_rfl⟩
theorem go99 : GoF Tryd.prog 99 := ⟨_, _, Tryd.func99, rfl, by kernel_rfl⟩
theorem go98 : GoF Tryd.prog 98 := ⟨_, _, Tryd.func98, rfl, by kernel_rfl⟩
/- slices.IndexFunc[[]int,int] -/
set_option maxRecDepth 100000 in
set_option maxHeartbeats 1600000 in
theorem indexFunc_int {M : Nat → Prop} {w : World} {a_r : Option Addr} {c_r : Nat} {r : List Int} {g_p : Nat} {C_p : List Value} {p : Int → Bool} (hM : ∀ b, M b → b < w.heap.size) (h_r : RV M w (.slice a_r r.length c_r) r) (h_p : FP Tryd.prog g_p C_p M w r p) : Calls Tryd.prog 114 #[.slice a_r r.length c_r, .func (.func g_p) #[] C_p.toArray] w (Ret fun v w' =>  v = .int .i64 (idxF p r) ∧ Ext w w') := by
  refine enter 19 Tryd.func114 rfl rfl rfl fun f0 ha => ?_
  have H := HI.start (M0 := M) (w := w) hM
  have H0 := H.put (it := imm (.slice a_r r.length c_r) r) rfl (by rw [MS_nil]; exact h_r)
  have ln_r := rv_len h_r
  have i0 : f0 0 = .slice a_r r.length c_r := ha 0 (by simp)
  have i1 : f0 1 = .func (.func g_p) #[] C_p.toArray := ha 1 (by simp)
  refine sq (rg (k (asg (v := .int .i64 0) rfl rfl (z (nx (sq (sq (rg (k (mv rfl i0 (k (lnS rfl rfl un42 (k (mv (v := .int .i64 0) rfl rfl (z (nx (bk ?_)))))))))))))))))
  refine lp (fun m f w' => ∃ (j : Nat), m = r.length - j ∧ f 0 = .slice a_r r.length c_r ∧ f 1 = .func (.func g_p) #[] C_p.toArray ∧ f 7 = .int .i64 (r.length : Int) ∧ f 8 = .int .i64 (j : Int) ∧  HI M w w' [imm (.slice a_r r.length c_r) r] ∧ (j ≤ r.length) ∧ ((r.take j).any p = false)) _ ⟨0, rfl, i0, i1, rfl, (ieq rfl (by first | rfl | omega | simp)), H0, (by first | assumption | omega | simp | (simp; omega)), (by simp)⟩ ?_
  rintro _ f0 w0 ⟨j, rfl, s0, s1, s2, s3, H1, hk, hs⟩
  refine sq (rg (k (lss rfl rfl s3 s2 (z (nx (sq ?_))))))
  refine cd (b := decide ((j : Int) < (r.length : Int))) rfl rfl (fun b0 => ?_) (fun b0 => ?_)
  ·
    have p0 := of_decide_eq_true b0
    refine sk (nx (sq (bk (sq (rg (k (mv rfl s3 (k (asg (v := .int .i64 (j : Int)) rfl rfl (z (nx (sq (rg (k (mv rfl s1 (k (mv rfl s0 (k (mv (v := .int .i64 (j : Int)) rfl rfl (k (ia (H1.rv 0 rfl) rfl rfl rfl rfl (by first | omega | (simp; omega)) un42 ty3 ?_)))))))))))))))))))))
    intro ad0 x0 hx0 hA0
    refine k (ldI hA0.w ty3 rfl rfl ?_)
    intro rv0
    refine k (cf h_p.1 rfl rfl rfl (ec rfl e0) (h_p.2 _ _ _ (by exact List.mem_of_getElem? ‹_›) H1.below ((RV.int.2 ⟨rfl, (by unfold I64 at *; omega)⟩).lift H1.out)) ?_)
    rintro _ w1 ⟨rfl, xt0⟩
    have H2 := H1.ext xt0
    refine z (nx ?_)
    refine cd (b := p x0) rfl rfl (fun b1 => ?_) (fun b1 => ?_)
    ·
      refine sq (rg (k (mv (v := .int .i64 (j : Int)) rfl rfl (k (asg (v := .int .i64 (j : Int)) rfl rfl (z (nx (rt (inb_ret (then_ret (loop_ret (inb_ret (then_ret (r1 rfl rfl ?_))))))))))))))
      have e0 : ((j : Int) : Int) = idxF p r := by exact idxF_hit hx0 hs b1
      have ev_ := cg1 (fun (x_0 : Int) => (.int .i64 x_0 : Value)) e0
      exact ⟨ev_, H2.below⟩
    ·
      refine sk (inb_normal (nx (rg (k (add rfl rfl s3 rfl (by unfold I64 at *; omega) (k (mv (v := .int .i64 ((j : Int) + 1)) rfl rfl (z ?_))))))))
      refine loopN _ ?_ ⟨(j + 1), rfl, s0, s1, s2, (ieq rfl (by first | rfl | omega | (push_cast; omega))), H2, (by first | assumption | omega | simp | (simp; omega)), (by exact any_step hx0 hs b1)⟩
      omega
  ·
    have p0 := of_decide_eq_false b0
    refine ex (then_exit (loop_exit (inb_here (nx (sq (rg (k (asg (v := .int .i64 (-1)) rfl rfl (z (nx (rt (r1 rfl rfl ?_))))))))))))
    have e0 : ((-1) : Int) = idxF p r := by exact idxF_miss hs (by omega)
    have ev_ := cg1 (fun (x_0 : Int) => (.int .i64 x_0 : Value)) e0
    exact ⟨ev_, H1.below⟩
/- slices.ContainsFunc[[]int,int] -/
set_option maxRecDepth 100000 in
set_option maxHeartbeats 1600000 in
theorem containsFunc_int {M : Nat → Prop} {w : World} {a_r : Option Addr} {c_r : Nat} {r : List Int} {g_p : Nat} {C_p : List Value} {p : Int → Bool} (hM : ∀ b, M b → b < w.heap.size) (h_r : RV M w (.slice a_r r.length c_r) r) (h_p : FP Tryd.prog g_p C_p M w r p) : Calls Tryd.prog 100 #[.slice a_r r.length c_r, .func (.func g_p) #[] C_p.toArray] w (Ret fun v w' =>  v = .bool (r.any p) ∧ Ext w w') := by
  refine enter 9 Tryd.func100 rfl rfl rfl fun f0 ha => ?_
  have H := HI.start (M0 := M) (w := w) hM
  have H0 := H.put (it := imm (.slice a_r r.length c_r) r) rfl (by rw [MS_nil]; exact h_r)
  have ln_r := rv_len h_r
  have i0 : f0 0 = .slice a_r r.length c_r := ha 0 (by simp)
  have i1 : f0 1 = .func (.func g_p) #[] C_p.toArray := ha 1 (by simp)
  refine sq (rg (k (asg (v := .bool false) rfl rfl (z (nx (sq (rg (k (mv rfl i0 (k (mv rfl i1 (k ?_))))))))))))
  have cc0 := indexFunc_int (r := r) (p := p) (w := w) H0.mb (H0.rv 0 rfl) (h_p.sub H0.below MS_sub)
  refine ca go114 rfl (ec rfl (ec rfl e0)) cc0 ?_
  rintro _ w0 ⟨rfl, xt0⟩
  have H1 := H0.ext xt0
  refine k (geq rfl rfl rfl rfl (k (asg (v := .bool (decide (0 ≤ (idxF p r)))) rfl rfl (z (nx (rt (r1 rfl rfl ?_)))))))
  have e0 : (decide (0 ≤ (idxF p r)) : Bool) = r.any p := by exact idxF_any
  have ev_ := cg1 (fun (x_0 : Bool) => (.bool x_0 : Value)) e0
  exact ⟨ev_, H1.below⟩
/- slices.IndexFunc[[][]uint64,[]uint64] -/
set_option maxRecDepth 100000 in
set_option maxHeartbeats 1600000 in
theorem indexFunc_row {M : Nat → Prop} {w : World} {a_r : Option Addr} {c_r : Nat} {r : List (List (BitVec 64))} {g_p : Nat} {C_p : List Value} {p : (List (BitVec 64)) → Bool} (hM : ∀ b, M b → b < w.heap.size) (h_r : RV M w (.slice a_r r.length c_r) r) (h_p : FP Tryd.prog g_p C_p M w r p) : Calls Tryd.prog 116 #[.slice a_r r.length c_r, .func (.func g_p) #[] C_p.toArray] w (Ret fun v w' =>  v = .int .i64 (idxF p r) ∧ Ext w w') := by
  refine enter 19 Tryd.func116 rfl rfl rfl fun f0 ha => ?_
  have H := HI.start (M0 := M) (w := w) hM
  have H0 := H.put (it := imm (.slice a_r r.length c_r) r) rfl (by rw [MS_nil]; exact h_r)
  have ln_r := rv_len h_r
  have i0 : f0 0 = .slice a_r r.length c_r := ha 0 (by simp)
  have i1 : f0 1 = .func (.func g_p) #[] C_p.toArray := ha 1 (by simp)
  refine sq (rg (k (asg (v := .int .i64 0) rfl rfl (z (nx (sq (sq (rg (k (mv rfl i0 (k (lnS rfl rfl un22 (k (mv (v := .int .i64 0) rfl rfl (z (nx (bk ?_)))))))))))))))))
  refine lp (fun m f w' => ∃ (j : Nat), m = r.length - j ∧ f 0 = .slice a_r r.length c_r ∧ f 1 = .func (.func g_p) #[] C_p.toArray ∧ f 7 = .int .i64 (r.length : Int) ∧ f 8 = .int .i64 (j : Int) ∧  HI M w w' [imm (.slice a_r r.length c_r) r] ∧ (j ≤ r.length) ∧ ((r.take j).any p = false)) _ ⟨0, rfl, i0, i1, rfl, (ieq rfl (by first | rfl | omega | simp)), H0, (by first | assumption | omega | simp | (simp; omega)), (by simp)⟩ ?_
  rintro _ f0 w0 ⟨j, rfl, s0, s1, s2, s3, H1, hk, hs⟩
  refine sq (rg (k (lss rfl rfl s3 s2 (z (nx (sq ?_))))))
  refine cd (b := decide ((j : Int) < (r.length : Int))) rfl rfl (fun b0 => ?_) (fun b0 => ?_)
  ·
    have p0 := of_decide_eq_true b0
    refine sk (nx (sq (bk (sq (rg (k (mv rfl s3 (k (asg (v := .int .i64 (j : Int)) rfl rfl (z (nx (sq (rg (k (mv rfl s1 (k (mv rfl s0 (k (mv (v := .int .i64 (j : Int)) rfl rfl (k (ia (H1.rv 0 rfl) rfl rfl rfl rfl (by first | omega | (simp; omega)) un22 ty73 ?_)))))))))))))))))))))
    intro ad0 x0 hx0 hA0
    refine k (ldL hA0.w ty73 rfl rfl ?_)
    intro a0 c0 rv0
    have ln0 := rv_len rv0
    have H2 := H1.put (it := imm (.slice a0 x0.length c0) x0) rfl rv0
    refine k (cf h_p.1 rfl rfl rfl (ec rfl e0) (h_p.2 _ _ _ (by exact List.mem_of_getElem? ‹_›) H2.below ((H2.rv 0 rfl).lift H2.out)) ?_)
    rintro _ w1 ⟨rfl, xt0⟩
    have H3 := H2.ext xt0
    refine z (nx ?_)
    refine cd (b := p x0) rfl rfl (fun b1 => ?_) (fun b1 => ?_)
    ·
      refine sq (rg (k (mv (v := .int .i64 (j : Int)) rfl rfl (k (asg (v := .int .i64 (j : Int)) rfl rfl (z (nx (rt (inb_ret (then_ret (loop_ret (inb_ret (then_ret (r1 rfl rfl ?_))))))))))))))
      have e0 : ((j : Int) : Int) = idxF p r := by exact idxF_hit hx0 hs b1
      have ev_ := cg1 (fun (x_0 : Int) => (.int .i64 x_0 : Value)) e0
      exact ⟨ev_, H3.below⟩
    ·
      refine sk (inb_normal (nx (rg (k (add rfl rfl s3 rfl (by unfold I64 at *; omega) (k (mv (v := .int .i64 ((j : Int) + 1)) rfl rfl (z ?_))))))))
      have H4 : HI M w w1 [imm (.slice a_r r.length c_r) r] := H3.pickN [1] (by decide) rfl
      refine loopN _ ?_ ⟨(j + 1), rfl, s0, s1, s2, (ieq rfl (by first | rfl | omega | (push_cast; omega))), H4, (by first | assumption | omega | simp | (simp; omega)), (by exact any_step hx0 hs b1)⟩
      omega
  ·
    have p0 := of_decide_eq_false b0
    refine ex (then_exit (loop_exit (inb_here (nx (sq (rg (k (asg (v := .int .i64 (-1)) rfl rfl (z (nx (rt (r1 rfl rfl ?_))))))))))))
    have e0 : ((-1) : Int) = idxF p r := by exact idxF_miss hs (by omega)
    have ev_ := cg1 (fun (x_0 : Int) => (.int .i64 x_0 : Value)) e0
    exact ⟨ev_, H1.below⟩
/- slices.ContainsFunc[[][]uint64,[]uint64] -/
set_option maxRecDepth 100000 in
set_option maxHeartbeats 1600000 in
theorem containsFunc_row {M : Nat → Prop} {w : World} {a_r : Option Addr} {c_r : Nat} {r : List (List (BitVec 64))} {g_p : Nat} {C_p : List Value} {p : (List (BitVec 64)) → Bool} (hM : ∀ b, M b → b < w.heap.size) (h_r : RV M w (.slice a_r r.length c_r) r) (h_p : FP Tryd.prog g_p C_p M w r p) : Calls Tryd.prog 98 #[.slice a_r r.length c_r, .func (.func g_p) #[] C_p.toArray] w (Ret fun v w' =>  v = .bool (r.any p) ∧ Ext w w') := by
  refine enter 9 Tryd.func98 rfl rfl rfl fun f0 ha => ?_
  have H := HI.start (M0 := M) (w := w) hM
  have H0 := H.put (it := imm (.slice a_r r.length c_r) r) rfl (by rw [MS_nil]; exact h_r)
  have ln_r := rv_len h_r
  have i0 : f0 0 = .slice a_r r.length c_r := ha 0 (by simp)
  have i1 : f0 1 = .func (.func g_p) #[] C_p.toArray := ha 1 (by simp)
  refine sq (rg (k (asg (v := .bool false) rfl rfl (z (nx (sq (rg (k (mv rfl i0 (k (mv rfl i1 (k ?_))))))))))))
  have cc0 := indexFunc_row (r := r) (p := p) (w := w) H0.mb (H0.rv 0 rfl) (h_p.sub H0.below MS_sub)
  refine ca go116 rfl (ec rfl (ec rfl e0)) cc0 ?_
  rintro _ w0 ⟨rfl, xt0⟩
  have H1 := H0.ext xt0
  refine k (geq rfl rfl rfl rfl (k (asg (v := .bool (decide (0 ≤ (idxF p r)))) rfl rfl (z (nx (rt (r1 rfl rfl ?_)))))))
  have e0 : (decide (0 ≤ (idxF p r)) : Bool) = r.any p := by exact idxF_any
  have ev_ := cg1 (fun (x_0 : Bool) => (.bool x_0 : Value)) e0
  exact ⟨ev_, H1.below⟩
/- slices.Clone[[][]uint64,[]uint64] -/
set_option maxRecDepth 100000 in
set_option maxHeartbeats 1600000 in
theorem clone_rows {M : Nat → Prop} {w : World} {a_r : Option Addr} {c_r : Nat} {r : List (List (BitVec 64))} (hM : ∀ b, M b → b < w.heap.size) (h_r : RV M w (.slice a_r r.length c_r) r) (hl_r : r.length ≤ 1000000000) : Calls Tryd.prog 95 #[.slice a_r r.length c_r] w (Ret fun v w' => ∃ (a0 : Option Addr) (c0 : Nat), v = .slice a0 r.length c0 ∧ Ext w w' ∧ OwnsG M 73 w r (.slice a0 r.length c0) w') := by
  refine enter 8 Tryd.func95 rfl rfl rfl fun f0 ha => ?_
  have H := HI.start (M0 := M) (w := w) hM
  have H0 := H.put (it := imm (.slice a_r r.length c_r) r) rfl (by rw [MS_nil]; exact h_r)
  have ln_r := rv_len h_r
  have i0 : f0 0 = .slice a_r r.length c_r := ha 0 (by simp)
  refine sq (rg (k (asg (v := .slice none 0 0) rfl rfl (z (nx (sq (sq (rg (k (mv rfl i0 (k (eqN rfl rfl rfl rfl un22 (z (nx ?_))))))))))))))
  refine cd (b := a_r.isNone) rfl rfl (fun b0 => ?_) (fun b0 => ?_)
  ·
    refine sq (rg (k (asg (v := .slice none 0 0) rfl rfl (z (nx (rt (then_ret (r1 rfl rfl ?_))))))))
    have e0 : ([] : List (List (BitVec 64))) = r := by exact (rv_none h_r b0).symm
    have ev_ := cg1 (fun (x_0 : List (List (BitVec 64))) => (.slice none x_0.length 0 : Value)) e0
    exact ⟨none, 0, ev_, H0.below, (congrArg (fun (x_ : List (List (BitVec 64))) => OwnsG _ _ _ x_ (.slice none x_.length 0) _) e0).mp (ownsG_nil H0.below)⟩
  ·
    refine sk (nx (sq (rg (k (bs (xs := ([] : List (List (BitVec 64)))) (cells := #[]) (e := 73) H0 rfl pb0 (fun _ => by kernel_rfl) rfl rfl (by unfold maxLen; omega) ?_)))))
    intro g0 w0 xt0 (H1 : HI M w w0 [own w.heap.size 73 (.slice (some ⟨g0, 0, none⟩) 0 0) ([] : List (List (BitVec 64))), imm (.slice a_r r.length c_r) r])
    refine k (mv rfl i0 (k (ap H1 0 rfl rfl rfl rfl rfl rfl (H1.rv 1 rfl).src un22 ty73 rfl (by first | omega | (simp; omega)) (by first | omega | (simp; omega)) ?_)))
    intro a0 c0 w1 (H2 : HI M w w1 [own w.heap.size 73 (.slice a0 r.length c0) r, imm (.slice a_r r.length c_r) r])
    refine k (asg (v := .slice a0 r.length c0) rfl rfl (z (nx (rt (r1 rfl rfl ?_)))))
    exact ⟨a0, c0, rfl, H2.below, (H2.ownsG_out 0 rfl)⟩
/- eyewitness/mat.in$1 -/
set_option maxRecDepth 100000 in
set_option maxHeartbeats 1600000 in
theorem mat_in1 {M : Nat → Prop} {w : World} {i : Int} {b_b : Nat} {ty_b : TypeId} {n : Int} {a_u : Option Addr} {n_u c_u : Nat} (hM : ∀ b, M b → b < w.heap.size) (h_i : I64 i) (h_n : I64 n) (h_b : w.heap[b_b]? = some (.cells #[.int .i64 n, .slice a_u n_u c_u] ty_b (0, 0)) ∧ ¬ M b_b) : Calls Tryd.prog 101 #[.int .i64 i, .pointer (some ⟨b_b, 0, none⟩)] w (Ret fun v w' =>  v = .bool (outN n i) ∧ Ext w w') := by
  refine enter 12 Tryd.func101 rfl rfl rfl fun f0 ha => ?_
  have H := HI.start (M0 := M) (w := w) hM
  have i0 : f0 0 = .int .i64 i := ha 0 (by simp)
  have H0 := H.put (it := ro b_b #[.int .i64 n, .slice a_u n_u c_u] ty_b) rfl (by rw [MS_nil]; exact h_b)
  have i1 : f0 1 = .pointer (some ⟨b_b, 0, none⟩) := ha 1 (by simp)
  refine sq (rg (k (asg (v := .bool false) rfl rfl (z (nx (sq (rg (k (mv rfl i0 (k (lss rfl rfl rfl rfl (k (mv (v := .bool (decide (i < 0))) rfl rfl ?_)))))))))))))
  rcases Bool.eq_false_or_eq_true (decide (i < 0)) with b0 | b0
  · -- decide (i < 0) is True
    have p0 := of_decide_eq_true b0
    refine k (gn rfl rfl rfl b0 (k (gn rfl rfl rfl b0 (k (gn rfl rfl rfl b0 (k (gn rfl rfl rfl b0 (k (pickT rfl rfl rfl rfl b0 rfl (k (asg (v := .bool true) rfl rfl (z (nx (rt (r1 rfl rfl ?_)))))))))))))))
    have e0 : (true : Bool) = outN n i := by unfold outN; simp [b0]
    have ev_ := cg1 (fun (x_0 : Bool) => (.bool x_0 : Value)) e0
    exact ⟨ev_, H0.below⟩
  · -- decide (i < 0) is False
    have p0 := of_decide_eq_false b0
    refine k (gy rfl rfl rfl b0 (mv rfl i0 (k (gy rfl rfl rfl b0 (fa fl24_0 rfl i1 (k (gy rfl rfl rfl b0 (ldR H0 0 rfl ty3 rfl rfl (by decide) rfl (k (gy rfl rfl rfl b0 (geq rfl rfl rfl rfl (k (pickF rfl rfl rfl rfl b0 rfl (k (asg (v := .bool (decide (n ≤ i))) rfl rfl (z (nx (rt (r1 rfl rfl ?_)))))))))))))))))))
    have e0 : (decide (n ≤ i) : Bool) = outN n i := by unfold outN; simp [b0]
    have ev_ := cg1 (fun (x_0 : Bool) => (.bool x_0 : Value)) e0
    exact ⟨ev_, H0.below⟩
/- eyewitness/mat.in -/
set_option maxRecDepth 100000 in
set_option maxHeartbeats 1600000 in
theorem mat_in {M : Nat → Prop} {w : World} {mn : Int} {a_mu : Option Addr} {n_mu c_mu : Nat} {a_l : Option Addr} {c_l : Nat} {l : List Int} (hM : ∀ b, M b → b < w.heap.size) (h_mn : I64 mn) (h_l : RV M w (.slice a_l l.length c_l) l) : Calls Tryd.prog 62 #[.agg #[.int .i64 mn, .slice a_mu n_mu c_mu], .slice a_l l.length c_l] w (Ret fun v w' =>  v = .bool (inM mn l) ∧ Ext w w') := by
  refine enter 9 Tryd.func62 rfl rfl rfl fun f0 ha => ?_
  have H := HI.start (M0 := M) (w := w) hM
  have H0 := H.put (it := imm (.slice a_l l.length c_l) l) rfl (by rw [MS_nil]; exact h_l)
  have ln_l := rv_len h_l
  have i0 : f0 0 = .agg #[.int .i64 mn, .slice a_mu n_mu c_mu] := ha 0 (by simp)
  have i1 : f0 1 = .slice a_l l.length c_l := ha 1 (by simp)
  refine sq (rg (k (bx H0 rfl i0 ?_)))
  intro bb0 w0 xt0 (H1 : HI M w w0 [box bb0 #[.int .i64 mn, .slice a_mu n_mu c_mu] 24, imm (.slice a_l l.length c_l) l])
  refine k (asg (v := .bool false) rfl rfl (z (nx (sq (rg (k (mv rfl i1 (k (mf rfl (k ?_))))))))))
  have cc0 := containsFunc_int (r := l) (p := (fun (x_ : Int) => outN mn x_)) (w := w0) H1.mb (H1.rv 1 rfl) ⟨go101, fun w_ v_ x_ hx_ e_ hv_ => by have H_ := H1.ext e_; obtain ⟨_, ⟨rfl, rv0⟩, rfl⟩ := hv_; exact mat_in1 (n := mn) (M := fun _ => False) (fun _ h_ => h_.elim) rv0 (by unfold I64 at *; omega) ⟨H_.at_ 0 rfl, fun h_ => h_⟩⟩
  refine ca go100 rfl (ec rfl (ec rfl e0)) cc0 ?_
  rintro _ w1 ⟨rfl, xt1⟩
  have H2 := H1.ext xt1
  refine k (not_ rfl rfl (k (asg (v := .bool (!(l.any (fun (x_ : Int) => outN mn x_)))) rfl rfl (z (nx (rt (r1 rfl rfl ?_)))))))
  have e0 : (!(l.any (fun (x_ : Int) => outN mn x_)) : Bool) = inM mn l := rfl
  have ev_ := cg1 (fun (x_0 : Bool) => (.bool x_0 : Value)) e0
  exact ⟨ev_, H2.below⟩
/- eyewitness/mat.New -/
set_option maxRecDepth 100000 in
set_option maxHeartbeats 1600000 in
theorem mat_New {M : Nat → Prop} {w : World} {n : Int} (hM : ∀ b, M b → b < w.heap.size) (h_n : I64 n) : Calls Tryd.prog 61 #[.int .i64 n] w (Ret fun v w' => ∃ (a0 : Option Addr) (c0 : Nat), v = .tuple #[.agg #[.int .i64 (newMN n), .slice a0 (newMR n).length c0], .int .i64 (newME n)] ∧ Ext w w' ∧ OwnsG M 73 w (newMR n) (.slice a0 (newMR n).length c0) w') := by
  refine enter 29 Tryd.func61 rfl rfl rfl fun f0 ha => ?_
  have H := HI.start (M0 := M) (w := w) hM
  have i0 : f0 0 = .int .i64 n := ha 0 (by simp)
  refine sq (rg (k (al H ty24 ?_)))
  intro bb0 w0 xt0 (H0 : HI M w w0 [box bb0 #[.int .i64 0, .slice none 0 0] 24])
  refine k (asg (v := .int .i64 0) rfl rfl (z (nx (sq (sq (rg (k (mv rfl i0 (k (lss rfl rfl rfl rfl (k (mv (v := .bool (decide (n < 0))) rfl rfl ?_))))))))))))
  rcases Bool.eq_false_or_eq_true (decide (n < 0)) with b0 | b0
  · -- decide (n < 0) is True
    have p0 := of_decide_eq_true b0
    refine k (gn rfl rfl rfl b0 (k (gn rfl rfl rfl b0 (k (pickT rfl rfl rfl rfl b0 rfl (z (nx (cdT rfl rfl rfl (sq (rg (k (bd (v := .agg #[.int .i64 0, .slice none 0 0]) rfl pb0 (fun _ => by kernel_rfl) (k (stX H0 0 rfl ty24 rfl rfl rfl rfl rfl rfl rfl ?_))))))))))))))
    intro w1 (H1 : HI M w w1 [box bb0 #[.int .i64 0, .slice none 0 0] 24])
    refine k (asg (v := .int .i64 1) rfl rfl (z (nx (rt (then_ret (rc2 H1 0 rfl ty24 rfl rfl rfl rfl rfl (by decide) ?_))))))
    have e0 : (0 : Int) = newMN n := by first | exact (newM_no (okN_no.2 (by omega))).1.symm | exact (newM_yes (okN_iff.2 (by omega))).1.symm
    have e1 : ([] : List (List (BitVec 64))) = newMR n := by first | exact (newM_no (okN_no.2 (by omega))).2.1.symm | (rw [(newM_yes (okN_iff.2 (by omega))).2.1, hs]; exact fillTo_end (by omega))
    have e2 : (1 : Int) = newME n := by first | exact (newM_no (okN_no.2 (by omega))).2.2.symm | exact (newM_yes (okN_iff.2 (by omega))).2.2.symm
    have ev_ := cg3 (fun (x_0 : Int) (x_1 : List (List (BitVec 64))) (x_2 : Int) => (.tuple #[.agg #[.int .i64 x_0, .slice none x_1.length 0], .int .i64 x_2] : Value)) e0 e1 e2
    exact ⟨none, 0, ev_, H1.below, (congrArg (fun (x_ : List (List (BitVec 64))) => OwnsG _ _ _ x_ (.slice none x_.length 0) _) e1).mp (ownsG_nil H1.below)⟩
  · -- decide (n < 0) is False
    have p0 := of_decide_eq_false b0
    refine k (gy rfl rfl rfl b0 (mv rfl i0 (k (gy rfl rfl rfl b0 (gtr rfl rfl rfl rfl (k (pickF rfl rfl rfl rfl b0 rfl (z (nx ?_)))))))))
    refine cd (b := decide (4096 < n)) rfl rfl (fun b1 => ?_) (fun b1 => ?_)
    ·
      have p1 := of_decide_eq_true b1
      refine sq (rg (k (bd (v := .agg #[.int .i64 0, .slice none 0 0]) rfl pb0 (fun _ => by kernel_rfl) (k (stX H0 0 rfl ty24 rfl rfl rfl rfl rfl rfl rfl ?_)))))
      intro w1 (H1 : HI M w w1 [box bb0 #[.int .i64 0, .slice none 0 0] 24])
      refine k (asg (v := .int .i64 1) rfl rfl (z (nx (rt (then_ret (rc2 H1 0 rfl ty24 rfl rfl rfl rfl rfl (by decide) ?_))))))
      have e0 : (0 : Int) = newMN n := by first | exact (newM_no (okN_no.2 (by omega))).1.symm | exact (newM_yes (okN_iff.2 (by omega))).1.symm
      have e1 : ([] : List (List (BitVec 64))) = newMR n := by first | exact (newM_no (okN_no.2 (by omega))).2.1.symm | (rw [(newM_yes (okN_iff.2 (by omega))).2.1, hs]; exact fillTo_end (by omega))
      have e2 : (1 : Int) = newME n := by first | exact (newM_no (okN_no.2 (by omega))).2.2.symm | exact (newM_yes (okN_iff.2 (by omega))).2.2.symm
      have ev_ := cg3 (fun (x_0 : Int) (x_1 : List (List (BitVec 64))) (x_2 : Int) => (.tuple #[.agg #[.int .i64 x_0, .slice none x_1.length 0], .int .i64 x_2] : Value)) e0 e1 e2
      exact ⟨none, 0, ev_, H1.below, (congrArg (fun (x_ : List (List (BitVec 64))) => OwnsG _ _ _ x_ (.slice none x_.length 0) _) e1).mp (ownsG_nil H1.below)⟩
    ·
      have p1 := of_decide_eq_false b1
      refine sk (nx (sq (rg (k (mv rfl i0 (k ?_))))))
      have n0 : ((n.toNat : Nat) : Int) = n := Int.toNat_of_nonneg (by omega)
      refine mk (m := n.toNat) (zx := ([] : (List (BitVec 64)))) H0 rfl rfl (by rw [n0]; exact rfl) (by rw [n0]; exact rfl) un22 ty73 (fun _ _ => ⟨_, rfl, rs_nil _ _⟩) (by first | omega | (simp; omega)) (by first | omega | (simp; omega)) ?_
      intro g0 w1 xt1 (H1 : HI M w w1 [own w.heap.size 73 (.slice (some ⟨g0, 0, none⟩) n.toNat n.toNat) (List.replicate n.toNat ([] : (List (BitVec 64)))), box bb0 #[.int .i64 0, .slice none 0 0] 24])
      refine k (asg (v := .slice (some ⟨g0, 0, none⟩) n.toNat n.toNat) rfl rfl (z (nx (sq (sq (rg (k (mv (v := .slice (some ⟨g0, 0, none⟩) n.toNat n.toNat) rfl rfl (k (lnS rfl rfl un22 (k (mv (v := .int .i64 0) rfl rfl (z (nx (bk ?_)))))))))))))))
      refine lp (fun m f w' => ∃ (j : Nat) (xs : List (List (BitVec 64))), m = n.toNat - j ∧ f 0 = .int .i64 n ∧ f 2 = .pointer (some ⟨bb0, 0, none⟩) ∧ f 4 = .slice (some ⟨g0, 0, none⟩) n.toNat n.toNat ∧ f 16 = .int .i64 (n.toNat : Int) ∧ f 17 = .int .i64 (j : Int) ∧  HI M w w' [own w.heap.size 73 (.slice (some ⟨g0, 0, none⟩) n.toNat n.toNat) xs, box bb0 #[.int .i64 0, .slice none 0 0] 24] ∧ (j ≤ n.toNat) ∧ (xs.length = n.toNat) ∧ (xs = fillTo n.toNat j (newR n) [])) _ ⟨0, (List.replicate n.toNat ([] : (List (BitVec 64)))), rfl, i0, rfl, rfl, rfl, (ieq rfl (by first | rfl | omega | simp)), H1, (by first | assumption | omega | simp | (simp; omega)), (by simp), (by exact fillTo_zero _ _ _)⟩ ?_
      rintro _ f0 w2 ⟨j, xs, rfl, s0, s1, s2, s3, s4, H2, hk, hl, hs⟩
      refine sq (rg (k (lss rfl rfl s4 s3 (z (nx (sq ?_))))))
      refine cd (b := decide ((j : Int) < (n.toNat : Int))) rfl rfl (fun b2 => ?_) (fun b2 => ?_)
      ·
        have p2 := of_decide_eq_true b2
        refine sk (nx (sq (bk (sq (rg (k (mv rfl s4 (k (asg (v := .int .i64 (j : Int)) rfl rfl (z (nx (rg (k (mv rfl s2 (k (mv (v := .int .i64 (j : Int)) rfl rfl (k (mv rfl s0 (k ?_)))))))))))))))))))
        have cc0 := row_New (n := n) (w := w2) H2.mb (by unfold I64 at *; omega) (by first | omega | (simp; omega))
        refine ca go78 rfl (ec rfl e0) cc0 ?_
        rintro _ w3 ⟨a0, c0, rfl, xt2, rv0⟩
        have H3 := H2.ownsG rv0
        refine k (iaO (H3.at_ 1 rfl) rfl rfl rfl rfl (by first | omega | (simp; omega)) un22 ty73 ?_)
        intro g1 x0 hv0 hx0 hA0
        refine k ?_
        have H4 := H3.freeze 0 rfl
        refine stO H4 1 rfl hv0 rfl (by first | omega | (simp; omega)) ty73 rfl rfl rfl rfl (H4.rv 0 rfl) ?_
        intro w4 (H5 : HI M w w4 [imm (.slice a0 (newR n).length c0) (newR n), own w.heap.size 73 (.slice (some ⟨g0, 0, none⟩) n.toNat n.toNat) (xs.set ((j : Int).toNat) (newR n)), box bb0 #[.int .i64 0, .slice none 0 0] 24])
        refine z (inb_normal (nx (rg (k (add rfl rfl s4 rfl (by unfold I64 at *; omega) (k (mv (v := .int .i64 ((j : Int) + 1)) rfl rfl (z ?_))))))))
        have H6 : HI M w w4 [own w.heap.size 73 (.slice (some ⟨g0, 0, none⟩) n.toNat n.toNat) (xs.set ((j : Int).toNat) (newR n)), box bb0 #[.int .i64 0, .slice none 0 0] 24] := H5.pickN [1, 2] (by decide) rfl
        refine loopN _ ?_ ⟨(j + 1), (xs.set ((j : Int).toNat) (newR n)), rfl, s0, s1, s2, s3, (ieq rfl (by first | rfl | omega | (push_cast; omega))), H6, (by first | assumption | omega | simp | (simp; omega)), (by simpa using hl), (by rw [hs]; exact fillTo_set (by omega))⟩
        omega
      ·
        have p2 := of_decide_eq_false b2
        refine ex (then_exit (loop_exit (inb_here (nx (sq (rg (k (mv rfl s0 (k (mv rfl s2 (k (bd (v := .agg #[.int .i64 n, .slice (some ⟨g0, 0, none⟩) n.toNat n.toNat]) rfl (pbc rfl (pbc rfl pb0)) (fun _ => by kernel_rfl) (k (stX H2 1 rfl ty24 rfl rfl s1 rfl rfl rfl rfl ?_))))))))))))))
        intro w3 (H3 : HI M w w3 [own w.heap.size 73 (.slice (some ⟨g0, 0, none⟩) n.toNat n.toNat) xs, box bb0 #[.int .i64 n, .slice (some ⟨g0, 0, none⟩) n.toNat n.toNat] 24])
        refine k (asg (v := .int .i64 0) rfl rfl (z (nx (rt (rc2 H3 1 rfl ty24 rfl rfl rfl s1 rfl (by decide) ?_)))))
        have e0 : (n : Int) = newMN n := by first | exact (newM_no (okN_no.2 (by omega))).1.symm | exact (newM_yes (okN_iff.2 (by omega))).1.symm
        have e1 : (xs : List (List (BitVec 64))) = newMR n := by first | exact (newM_no (okN_no.2 (by omega))).2.1.symm | (rw [(newM_yes (okN_iff.2 (by omega))).2.1, hs]; exact fillTo_end (by omega))
        have l1 : n.toNat = (newMR n).length := by first | rfl | (rw [← e1]; omega) | (rw [← e1]; simp) | simp
        have e2 : (0 : Int) = newME n := by first | exact (newM_no (okN_no.2 (by omega))).2.2.symm | exact (newM_yes (okN_iff.2 (by omega))).2.2.symm
        have ev_ := cg3 (fun (x_0 : Int) (n_1 : Nat) (x_2 : Int) => (.tuple #[.agg #[.int .i64 x_0, .slice (some ⟨g0, 0, none⟩) n_1 n.toNat], .int .i64 x_2] : Value)) e0 l1 e2
        exact ⟨(some ⟨g0, 0, none⟩), n.toNat, ev_, H3.below, (congrArg (fun (n_ : Nat) => OwnsG _ _ _ (newMR n) (.slice (some ⟨g0, 0, none⟩) n_ n.toNat) _) l1).mp ((congrArg (fun (x_ : List (List (BitVec 64))) => OwnsG _ _ _ x_ (.slice (some ⟨g0, 0, none⟩) n.toNat n.toNat) _) e1).mp (H3.ownsG_out 0 rfl))⟩
/- eyewitness/mat.Of -/
set_option maxRecDepth 100000 in
set_option maxHeartbeats 1600000 in
theorem mat_Of {M : Nat → Prop} {w : World} {n : Int} {a_ps : Option Addr} {c_ps : Nat} {ps : List (Int × Int)} (hM : ∀ b, M b → b < w.heap.size) (h_n : I64 n) (h_ps : RV M w (.slice a_ps ps.length c_ps) ps) : Calls Tryd.prog 15 #[.int .i64 n, .slice a_ps ps.length c_ps] w (Ret fun v w' => ∃ (a0 : Option Addr) (c0 : Nat), v = .tuple #[.agg #[.int .i64 (ofMN n ps), .slice a0 (ofMR n ps).length c0], .int .i64 (ofME n ps)] ∧ Ext w w' ∧ OwnsG M 73 w (ofMR n ps) (.slice a0 (ofMR n ps).length c0) w') := by
  refine enter 50 Tryd.func15 rfl rfl rfl fun f0 ha => ?_
  have H := HI.start (M0 := M) (w := w) hM
  have H0 := H.put (it := imm (.slice a_ps ps.length c_ps) ps) rfl (by rw [MS_nil]; exact h_ps)
  have ln_ps := rv_len h_ps
  have i0 : f0 0 = .int .i64 n := ha 0 (by simp)
  have i1 : f0 1 = .slice a_ps ps.length c_ps := ha 1 (by simp)
  refine sq (rg (k (al H0 ty24 ?_)))
  intro bb0 w0 xt0 (H1 : HI M w w0 [box bb0 #[.int .i64 0, .slice none 0 0] 24, imm (.slice a_ps ps.length c_ps) ps])
  refine k (asg (v := .int .i64 0) rfl rfl (z (nx (sq (rg (k (mv rfl i0 (k ?_))))))))
  have cc0 := mat_New (n := n) (w := w0) H1.mb (by unfold I64 at *; omega)
  refine ca go61 rfl (ec rfl e0) cc0 ?_
  rintro _ w1 ⟨a0, c0, rfl, xt1, rv0⟩
  have H2 := H1.ownsG rv0
  refine k (mv (v := .tuple #[.agg #[.int .i64 (newMN n), .slice a0 (newMR n).length c0], .int .i64 (newME n)]) rfl rfl (k (xt rfl rfl rfl (k (xt rfl rfl rfl (k (al H2 ty24 ?_)))))))
  intro bb1 w2 xt2 (H3 : HI M w w2 [box bb1 #[.int .i64 0, .slice none 0 0] 24, own w.heap.size 73 (.slice a0 (newMR n).length c0) (newMR n), box bb0 #[.int .i64 0, .slice none 0 0] 24, imm (.slice a_ps ps.length c_ps) ps])
  refine k (stX H3 0 rfl ty24 rfl rfl rfl rfl rfl rfl rfl ?_)
  intro w3 (H4 : HI M w w3 [box bb1 #[.int .i64 (newMN n), .slice a0 (newMR n).length c0] 24, own w.heap.size 73 (.slice a0 (newMR n).length c0) (newMR n), box bb0 #[.int .i64 0, .slice none 0 0] 24, imm (.slice a_ps ps.length c_ps) ps])
  refine k (asg (v := .int .i64 (newME n)) rfl rfl (z (nx (sq (sq (rg (k (mv (v := .int .i64 (newME n)) rfl rfl (k (neq rfl rfl rfl rfl (z (nx ?_))))))))))))
  refine cd (b := !decide ((newME n) = 0)) rfl rfl (fun b0 => ?_) (fun b0 => ?_)
  ·
    have p0 := of_decide_eq_false (nott b0)
    refine sq ?_
    have hn := newME_no (n := n) (by simpa using b0)
    refine rg (k (bd (v := .agg #[.int .i64 0, .slice none 0 0]) rfl pb0 (fun _ => by kernel_rfl) (k (mv (v := .int .i64 (newME n)) rfl rfl (k (stX H4 2 rfl ty24 rfl rfl rfl rfl rfl rfl rfl ?_))))))
    intro w4 (H5 : HI M w w4 [box bb1 #[.int .i64 (newMN n), .slice a0 (newMR n).length c0] 24, own w.heap.size 73 (.slice a0 (newMR n).length c0) (newMR n), box bb0 #[.int .i64 0, .slice none 0 0] 24, imm (.slice a_ps ps.length c_ps) ps])
    refine k (asg (v := .int .i64 (newME n)) rfl rfl (z (nx (rt (then_ret (rc2 H5 2 rfl ty24 rfl rfl rfl rfl rfl (by decide) ?_))))))
    have e0 : (0 : Int) = ofMN n ps := by first | exact (of_no (ofOk_bad hn)).1.symm | exact (of_no (ofOk_no hx0 hq)).1.symm | (rw [(of_yes hq).1]; exact en)
    have e1 : ([] : List (List (BitVec 64))) = ofMR n ps := by first | exact (of_no (ofOk_bad hn)).2.1.symm | exact (of_no (ofOk_no hx0 hq)).2.1.symm | (rw [(of_yes hq).2.1, hs, take_end (by omega)])
    have e2 : (newME n : Int) = ofME n ps := by first | (rw [(of_no (ofOk_bad hn)).2.2]; exact (newM_no hn).2.2) | exact (of_no (ofOk_no hx0 hq)).2.2.symm | exact (of_yes hq).2.2.symm
    have ev_ := cg3 (fun (x_0 : Int) (x_1 : List (List (BitVec 64))) (x_2 : Int) => (.tuple #[.agg #[.int .i64 x_0, .slice none x_1.length 0], .int .i64 x_2] : Value)) e0 e1 e2
    exact ⟨none, 0, ev_, H5.below, (congrArg (fun (x_ : List (List (BitVec 64))) => OwnsG _ _ _ x_ (.slice none x_.length 0) _) e1).mp (ownsG_nil H5.below)⟩
  ·
    have p0 := of_decide_eq_true (notf b0)
    refine sk (nx (sq (sq ?_)))
    have hn := newME_yes (n := n) (by simpa using b0)
    obtain ⟨en, er, -⟩ := newM_yes hn
    refine rg (k (mv rfl i1 (k (lnS rfl rfl un31 (k (mv (v := .int .i64 0) rfl rfl (z (nx (bk ?_)))))))))
    refine lp (fun m f w' => ∃ (j : Nat) (xs : List (List (BitVec 64))), m = ps.length - j ∧ f 4 = .pointer (some ⟨bb0, 0, none⟩) ∧ f 6 = .pointer (some ⟨bb1, 0, none⟩) ∧ f 19 = .slice a_ps ps.length c_ps ∧ f 20 = .int .i64 (ps.length : Int) ∧ f 21 = .int .i64 (j : Int) ∧  HI M w w' [box bb1 #[.int .i64 (newMN n), .slice a0 (newMR n).length c0] 24, own w.heap.size 73 (.slice a0 (newMR n).length c0) xs, box bb0 #[.int .i64 0, .slice none 0 0] 24, imm (.slice a_ps ps.length c_ps) ps] ∧ (j ≤ ps.length) ∧ ((ps.take j).all (inP n) = true) ∧ (xs = foldM n (ps.take j))) _ ⟨0, (newMR n), rfl, rfl, rfl, rfl, rfl, (ieq rfl (by first | rfl | omega | simp)), H4, (by first | assumption | omega | simp | (simp; omega)), (by simp), (by rw [er]; rfl)⟩ ?_
    rintro _ f0 w4 ⟨j, xs, rfl, s0, s1, s2, s3, s4, H5, hk, ha_, hs⟩
    refine sq (rg (k (lss rfl rfl s4 s3 (z (nx (sq ?_))))))
    refine cd (b := decide ((j : Int) < (ps.length : Int))) rfl rfl (fun b1 => ?_) (fun b1 => ?_)
    ·
      have p1 := of_decide_eq_true b1
      refine sk (nx (sq (bk (sq (rg (k (ia (H5.rv 3 rfl) rfl rfl s2 s4 (by first | omega | (simp; omega)) un31 ty76 ?_)))))))
      intro ad0 x0 hx0 hA0
      refine k (ldW hA0.w ty76 rfl rfl ?_)
      intro v0 rv1
      obtain ⟨_, ⟨_, _, rfl, ⟨rfl, rv2⟩, ⟨rfl, rv3⟩⟩, rfl⟩ := rv1
      refine k (al H5 ty76 ?_)
      intro bb2 w5 xt3 (H6 : HI M w w5 [box bb2 #[.int .i64 0, .int .i64 0] 76, box bb1 #[.int .i64 (newMN n), .slice a0 (newMR n).length c0] 24, own w.heap.size 73 (.slice a0 (newMR n).length c0) xs, box bb0 #[.int .i64 0, .slice none 0 0] 24, imm (.slice a_ps ps.length c_ps) ps])
      refine k (stX H6 0 rfl ty76 rfl rfl rfl rfl rfl rfl rfl ?_)
      intro w6 (H7 : HI M w w6 [box bb2 #[.int .i64 x0.1, .int .i64 x0.2] 76, box bb1 #[.int .i64 (newMN n), .slice a0 (newMR n).length c0] 24, own w.heap.size 73 (.slice a0 (newMR n).length c0) xs, box bb0 #[.int .i64 0, .slice none 0 0] 24, imm (.slice a_ps ps.length c_ps) ps])
      refine z (nx (sq (sq (rg (k (ldX H7 1 rfl ty24 rfl s1 (by decide) rfl (k (iaA rfl rfl rfl rfl (by omega) un76 ty3 (k (ldX H7 0 rfl ty3 rfl rfl (by decide) rfl (k (iaA rfl rfl rfl rfl (by omega) un76 ty3 (k (ldX H7 0 rfl ty3 rfl rfl (by decide) rfl (k (bs (xs := ([x0.1, x0.2] : List Int)) (cells := #[.int .i64 x0.1, .int .i64 x0.2]) (e := 3) H7 rfl (pbc rfl (pbc rfl pb0)) (fun _ => by kernel_rfl) ⟨[.int .i64 x0.1], [.int .i64 x0.2], rfl, ⟨rfl, (show I64 (x0.1) from (by unfold I64 at *; omega))⟩, ⟨[.int .i64 x0.2], [], rfl, ⟨rfl, (show I64 (x0.2) from (by unfold I64 at *; omega))⟩, rfl⟩⟩ rfl (by unfold maxLen; omega) ?_))))))))))))))))
      intro g0 w7 xt4 (H8 : HI M w w7 [own w.heap.size 3 (.slice (some ⟨g0, 0, none⟩) 2 2) ([x0.1, x0.2] : List Int), box bb2 #[.int .i64 x0.1, .int .i64 x0.2] 76, box bb1 #[.int .i64 (newMN n), .slice a0 (newMR n).length c0] 24, own w.heap.size 73 (.slice a0 (newMR n).length c0) xs, box bb0 #[.int .i64 0, .slice none 0 0] 24, imm (.slice a_ps ps.length c_ps) ps])
      refine k ?_
      have H9 := H8.freeze 0 rfl
      have cc1 := mat_in (mn := (newMN n)) (l := ([x0.1, x0.2] : List Int)) (a_mu := a0) (n_mu := (newMR n).length) (c_mu := c0) (w := w7) H9.mb (by rw [en]; exact h_n) (H9.rv 0 rfl)
      refine ca go62 rfl (ec rfl (ec rfl e0)) cc1 ?_
      rintro _ w8 ⟨rfl, xt5⟩
      have H10 := H8.ext xt5
      refine k (not_ rfl rfl (z (nx ?_)))
      refine cd (b := !(inM (newMN n) ([x0.1, x0.2] : List Int))) rfl rfl (fun b2 => ?_) (fun b2 => ?_)
      ·
        refine sq ?_
        have hq : inP n x0 = false := by have h := b2; rw [en] at h; simpa [inP] using h
        refine rg (k (bd (v := .agg #[.int .i64 0, .slice none 0 0]) rfl pb0 (fun _ => by kernel_rfl) (k (stX H10 4 rfl ty24 rfl rfl s0 rfl rfl rfl rfl ?_))))
        intro w9 (H11 : HI M w w9 [own w.heap.size 3 (.slice (some ⟨g0, 0, none⟩) 2 2) ([x0.1, x0.2] : List Int), box bb2 #[.int .i64 x0.1, .int .i64 x0.2] 76, box bb1 #[.int .i64 (newMN n), .slice a0 (newMR n).length c0] 24, own w.heap.size 73 (.slice a0 (newMR n).length c0) xs, box bb0 #[.int .i64 0, .slice none 0 0] 24, imm (.slice a_ps ps.length c_ps) ps])
        refine k (asg (v := .int .i64 1) rfl rfl (z (nx (rt (then_ret (inb_ret (then_ret (loop_ret (inb_ret (then_ret (rc2 H11 4 rfl ty24 rfl rfl rfl s0 rfl (by decide) ?_)))))))))))
        have e0 : (0 : Int) = ofMN n ps := by first | exact (of_no (ofOk_bad hn)).1.symm | exact (of_no (ofOk_no hx0 hq)).1.symm | (rw [(of_yes hq).1]; exact en)
        have e1 : ([] : List (List (BitVec 64))) = ofMR n ps := by first | exact (of_no (ofOk_bad hn)).2.1.symm | exact (of_no (ofOk_no hx0 hq)).2.1.symm | (rw [(of_yes hq).2.1, hs, take_end (by omega)])
        have e2 : (1 : Int) = ofME n ps := by first | (rw [(of_no (ofOk_bad hn)).2.2]; exact (newM_no hn).2.2) | exact (of_no (ofOk_no hx0 hq)).2.2.symm | exact (of_yes hq).2.2.symm
        have ev_ := cg3 (fun (x_0 : Int) (x_1 : List (List (BitVec 64))) (x_2 : Int) => (.tuple #[.agg #[.int .i64 x_0, .slice none x_1.length 0], .int .i64 x_2] : Value)) e0 e1 e2
        exact ⟨none, 0, ev_, H11.below, (congrArg (fun (x_ : List (List (BitVec 64))) => OwnsG _ _ _ x_ (.slice none x_.length 0) _) e1).mp (ownsG_nil H11.below)⟩
      ·
        refine sk (nx ?_)
        have hq : inP n x0 = true := by have h := b2; rw [en] at h; simpa [inP] using h
        have hr := inM_two.1 hq
        have hl : xs.length = n.toNat := by rw [hs, foldM_length]
        obtain ⟨x1, hx1⟩ : ∃ x, xs[x0.1.toNat]? = some x := ⟨_, List.getElem?_eq_getElem (by first | omega | (simp; omega))⟩
        refine dr 13 [fun (v : Value) (w' : World) => v = .pointer (some ⟨bb1, 1, none⟩), fun (v : Value) (w' : World) => v = .slice a0 (newMR n).length c0, fun (v : Value) (w' : World) => v = .pointer (some ⟨bb2, 0, none⟩), fun (v : Value) (w' : World) => v = .int .i64 x0.1 ∧ I64 (x0.1), fun (v : Value) (w' : World) => v = .pointer (some ⟨bb1, 1, none⟩), fun (v : Value) (w' : World) => v = .slice a0 (newMR n).length c0, fun (v : Value) (w' : World) => v = .pointer (some ⟨bb2, 0, none⟩), fun (v : Value) (w' : World) => v = .int .i64 x0.1 ∧ I64 (x0.1), fun (v : Value) (w' : World) => ∃ (g1 : Nat), v = .pointer (some ⟨g1, x0.1.toNat * 1, none⟩) ∧ (.slice a0 (newMR n).length c0 : Value).ownBlock = some g1 ∧ AtW (MS M [own w.heap.size 3 (.slice (some ⟨g0, 0, none⟩) 2 2) ([x0.1, x0.2] : List Int), box bb2 #[.int .i64 x0.1, .int .i64 x0.2] 76, box bb1 #[.int .i64 (newMN n), .slice a0 (newMR n).length c0] 24, own w.heap.size 73 (.slice a0 (newMR n).length c0) xs, box bb0 #[.int .i64 0, .slice none 0 0] 24, imm (.slice a_ps ps.length c_ps) ps]) w' ⟨g1, x0.1.toNat * 1, none⟩ x1, fun (v : Value) (w' : World) => ∃ (a1 : Option Addr) (c1 : Nat), v = .slice a1 x1.length c1 ∧ RV (MS M [own w.heap.size 3 (.slice (some ⟨g0, 0, none⟩) 2 2) ([x0.1, x0.2] : List Int), box bb2 #[.int .i64 x0.1, .int .i64 x0.2] 76, box bb1 #[.int .i64 (newMN n), .slice a0 (newMR n).length c0] 24, own w.heap.size 73 (.slice a0 (newMR n).length c0) xs, box bb0 #[.int .i64 0, .slice none 0 0] 24, imm (.slice a_ps ps.length c_ps) ps]) w' (.slice a1 x1.length c1) x1, fun (v : Value) (w' : World) => v = .pointer (some ⟨bb2, 1, none⟩), fun (v : Value) (w' : World) => v = .int .i64 x0.2 ∧ I64 (x0.2), fun (v : Value) (w' : World) => ∃ (a2 : Option Addr) (c2 : Nat), v = .slice a2 (setR x1 x0.2).length c2 ∧ RV (MS M [own w.heap.size 3 (.slice (some ⟨g0, 0, none⟩) 2 2) ([x0.1, x0.2] : List Int), box bb2 #[.int .i64 x0.1, .int .i64 x0.2] 76, box bb1 #[.int .i64 (newMN n), .slice a0 (newMR n).length c0] 24, own w.heap.size 73 (.slice a0 (newMR n).length c0) xs, box bb0 #[.int .i64 0, .slice none 0 0] 24, imm (.slice a_ps ps.length c_ps) ps]) w' (.slice a2 (setR x1 x0.2).length c2) (setR x1 x0.2)] rfl (by kernel_rfl) ?_ ?_
        ·
          refine ⟨fun _ => ⟨fun f1 w10 hf0 xt7 hp0 => ?_, fun _ _ _ _ h => h⟩, ?_⟩
          ·
            have H14 := H10.ext xt7
            refine fa fl24_1 rfl ((hf0 6 rfl).trans s1) ?_
            exact ⟨_, rfl, Ext.refl _, rfl⟩
          refine ⟨fun _ => ⟨fun f2 w11 hf1 xt8 hp1 => ?_, fun _ _ _ _ h => h⟩, ?_⟩
          ·
            have H15 := H10.ext xt8
            have s5 : f2 34 = .pointer (some ⟨bb1, 1, none⟩) := hp1 0 rfl rfl
            refine ldX H15 2 rfl ty22 rfl s5 (by decide) rfl ?_
            exact ⟨_, rfl, Ext.refl _, rfl⟩
          refine ⟨fun _ => ⟨fun f3 w12 hf2 xt9 hp2 => ?_, fun _ _ _ _ h => h⟩, ?_⟩
          ·
            have H16 := H10.ext xt9
            refine iaA rfl rfl (hf2 9 rfl) rfl (by omega) un76 ty3 ?_
            exact ⟨_, rfl, Ext.refl _, rfl⟩
          refine ⟨fun _ => ⟨fun f4 w13 hf3 xt10 hp3 => ?_, fun _ _ _ _ h => h⟩, ?_⟩
          ·
            have H17 := H10.ext xt10
            have s6 : f4 36 = .pointer (some ⟨bb2, 0, none⟩) := hp3 2 rfl rfl
            refine ldX H17 1 rfl ty3 rfl s6 (by decide) rfl ?_
            exact ⟨_, rfl, Ext.refl _, ⟨rfl, rv2⟩⟩
          refine ⟨fun _ => ⟨fun f5 w14 hf4 xt11 hp4 => ?_, fun _ _ _ _ h => h⟩, ?_⟩
          ·
            have H18 := H10.ext xt11
            refine fa fl24_1 rfl ((hf4 6 rfl).trans s1) ?_
            exact ⟨_, rfl, Ext.refl _, rfl⟩
          refine ⟨fun _ => ⟨fun f6 w15 hf5 xt12 hp5 => ?_, fun _ _ _ _ h => h⟩, ?_⟩
          ·
            have H19 := H10.ext xt12
            have s7 : f6 38 = .pointer (some ⟨bb1, 1, none⟩) := hp5 4 rfl rfl
            refine ldX H19 2 rfl ty22 rfl s7 (by decide) rfl ?_
            exact ⟨_, rfl, Ext.refl _, rfl⟩
          refine ⟨fun _ => ⟨fun f7 w16 hf6 xt13 hp6 => ?_, fun _ _ _ _ h => h⟩, ?_⟩
          ·
            have H20 := H10.ext xt13
            refine iaA rfl rfl (hf6 9 rfl) rfl (by omega) un76 ty3 ?_
            exact ⟨_, rfl, Ext.refl _, rfl⟩
          refine ⟨fun _ => ⟨fun f8 w17 hf7 xt14 hp7 => ?_, fun _ _ _ _ h => h⟩, ?_⟩
          ·
            have H21 := H10.ext xt14
            have s8 : f8 40 = .pointer (some ⟨bb2, 0, none⟩) := hp7 6 rfl rfl
            refine ldX H21 1 rfl ty3 rfl s8 (by decide) rfl ?_
            exact ⟨_, rfl, Ext.refl _, ⟨rfl, rv2⟩⟩
          refine ⟨fun _ => ⟨fun f9 w18 hf8 xt15 hp8 => ?_, by rintro _ _ _ x_ ⟨g1, e_, hv0, hA1⟩; exact ⟨g1, e_, hv0, hA1.ext x_⟩⟩, ?_⟩
          ·
            have H22 := H10.ext xt15
            have s9 : f9 39 = .slice a0 (newMR n).length c0 := hp8 5 rfl rfl
            obtain ⟨s10, rv7⟩ : f9 41 = .int .i64 x0.1 ∧ I64 (x0.1) := hp8 7 rfl rfl
            refine iaO (H22.at_ 3 rfl) rfl rfl s9 s10 (by first | omega | (simp; omega)) un22 ty73 ?_
            intro g2 x2 hv1 hx2 hA2
            obtain rfl : x1 = x2 := Option.some.inj (hx1.symm.trans hx2)
            exact ⟨_, rfl, Ext.refl _, ⟨g2, rfl, hv1, hA2⟩⟩
          refine ⟨fun _ => ⟨fun f10 w19 hf9 xt16 hp9 => ?_, by rintro _ _ _ x_ ⟨a1, c1, e_, rv4⟩; exact ⟨a1, c1, e_, rv4.lift (Up.ext x_)⟩⟩, ?_⟩
          ·
            have H23 := H10.ext xt16
            obtain ⟨g3, s11, hv2, hA3⟩ : ∃ (g3 : Nat), f10 42 = .pointer (some ⟨g3, x0.1.toNat * 1, none⟩) ∧ (.slice a0 (newMR n).length c0 : Value).ownBlock = some g3 ∧ AtW (MS M [own w.heap.size 3 (.slice (some ⟨g0, 0, none⟩) 2 2) ([x0.1, x0.2] : List Int), box bb2 #[.int .i64 x0.1, .int .i64 x0.2] 76, box bb1 #[.int .i64 (newMN n), .slice a0 (newMR n).length c0] 24, own w.heap.size 73 (.slice a0 (newMR n).length c0) xs, box bb0 #[.int .i64 0, .slice none 0 0] 24, imm (.slice a_ps ps.length c_ps) ps]) w19 ⟨g3, x0.1.toNat * 1, none⟩ x1 := hp9 8 rfl rfl
            refine ldL hA3 ty73 rfl s11 ?_
            intro a3 c3 rv8
            have ln1 := rv_len rv8
            have H24 := H23.put (it := imm (.slice a3 x1.length c3) x1) rfl rv8
            exact ⟨_, rfl, Ext.refl _, ⟨a3, c3, rfl, rv8⟩⟩
          refine ⟨fun _ => ⟨fun f11 w20 hf10 xt17 hp10 => ?_, fun _ _ _ _ h => h⟩, ?_⟩
          ·
            have H25 := H10.ext xt17
            refine iaA rfl rfl (hf10 9 rfl) rfl (by omega) un76 ty3 ?_
            exact ⟨_, rfl, Ext.refl _, rfl⟩
          refine ⟨fun _ => ⟨fun f12 w21 hf11 xt18 hp11 => ?_, fun _ _ _ _ h => h⟩, ?_⟩
          ·
            have H26 := H10.ext xt18
            have s12 : f12 44 = .pointer (some ⟨bb2, 1, none⟩) := hp11 10 rfl rfl
            refine ldX H26 1 rfl ty3 rfl s12 (by decide) rfl ?_
            exact ⟨_, rfl, Ext.refl _, ⟨rfl, rv3⟩⟩
          refine ⟨fun _ => ⟨fun f13 w22 hf12 xt19 hp12 => ?_, by rintro _ _ _ x_ ⟨a2, c2, e_, rv6⟩; exact ⟨a2, c2, e_, rv6.lift (Up.ext x_)⟩⟩, ?_⟩
          ·
            have H27 := H10.ext xt19
            obtain ⟨a4, c4, s13, rv9⟩ : ∃ (a4 : Option Addr) (c4 : Nat), f13 43 = .slice a4 x1.length c4 ∧ RV (MS M [own w.heap.size 3 (.slice (some ⟨g0, 0, none⟩) 2 2) ([x0.1, x0.2] : List Int), box bb2 #[.int .i64 x0.1, .int .i64 x0.2] 76, box bb1 #[.int .i64 (newMN n), .slice a0 (newMR n).length c0] 24, own w.heap.size 73 (.slice a0 (newMR n).length c0) xs, box bb0 #[.int .i64 0, .slice none 0 0] 24, imm (.slice a_ps ps.length c_ps) ps]) w22 (.slice a4 x1.length c4) x1 := hp12 9 rfl rfl
            have H28 := H27.put (it := imm (.slice a4 x1.length c4) x1) rfl rv9
            obtain ⟨s14, rv10⟩ : f13 45 = .int .i64 x0.2 ∧ I64 (x0.2) := hp12 11 rfl rfl
            have cc3 := row_Set (r := x1) (i := x0.2) (w := w22) H28.mb (H28.rv 0 rfl) (by unfold I64 at *; omega) (by have h1 := foldM_row (hs ▸ hx1); have h2 := okN_iff.1 hn; have h3 := words_le h2.2; omega)
            refine ca go63 rfl (ec s13 (ec s14 e0)) cc3 ?_
            rintro _ w23 ⟨a5, c5, rfl, xt20, rv11⟩
            have rv12 := OwnsG.rv rv11 H28.mb
            have H29 := H28.ext xt20
            have H30 := H29.put (it := imm (.slice a5 (setR x1 x0.2).length c5) (setR x1 x0.2)) rfl rv12
            exact ⟨_, rfl, xt20, ⟨a5, c5, rfl, (rv_drop rfl rv12)⟩⟩
          exact DSteps.rest rfl _
        · intro f14 w24 hf13 xt21 hp13
          have H31 := H10.ext xt21
          have s15 : f14 4 = .pointer (some ⟨bb0, 0, none⟩) := (hf13 4 rfl).trans s0
          have s16 : f14 6 = .pointer (some ⟨bb1, 0, none⟩) := (hf13 6 rfl).trans s1
          have s17 : f14 19 = .slice a_ps ps.length c_ps := (hf13 19 rfl).trans s2
          have s18 : f14 20 = .int .i64 (ps.length : Int) := (hf13 20 rfl).trans s3
          have s19 : f14 21 = .int .i64 (j : Int) := (hf13 21 rfl).trans s4
          have s20 : f14 35 = .slice a0 (newMR n).length c0 := hp13 1 rfl
          obtain ⟨s21, rv13⟩ : f14 37 = .int .i64 x0.1 ∧ I64 (x0.1) := hp13 3 rfl
          obtain ⟨a6, c6, s22, rv14⟩ : ∃ (a6 : Option Addr) (c6 : Nat), f14 46 = .slice a6 (setR x1 x0.2).length c6 ∧ RV (MS M [own w.heap.size 3 (.slice (some ⟨g0, 0, none⟩) 2 2) ([x0.1, x0.2] : List Int), box bb2 #[.int .i64 x0.1, .int .i64 x0.2] 76, box bb1 #[.int .i64 (newMN n), .slice a0 (newMR n).length c0] 24, own w.heap.size 73 (.slice a0 (newMR n).length c0) xs, box bb0 #[.int .i64 0, .slice none 0 0] 24, imm (.slice a_ps ps.length c_ps) ps]) w24 (.slice a6 (setR x1 x0.2).length c6) (setR x1 x0.2) := hp13 12 rfl
          have H32 := H31.put (it := imm (.slice a6 (setR x1 x0.2).length c6) (setR x1 x0.2)) rfl rv14
          refine k (iaO (H32.at_ 4 rfl) rfl rfl s20 s21 (by first | omega | (simp; omega)) un22 ty73 ?_)
          intro g4 x3 hv3 hx3 hA4
          refine k (stO H32 4 rfl hv3 rfl (by first | omega | (simp; omega)) ty73 rfl rfl rfl s22 (H32.rv 0 rfl) ?_)
          intro w25 (H33 : HI M w w25 [imm (.slice a6 (setR x1 x0.2).length c6) (setR x1 x0.2), own w.heap.size 3 (.slice (some ⟨g0, 0, none⟩) 2 2) ([x0.1, x0.2] : List Int), box bb2 #[.int .i64 x0.1, .int .i64 x0.2] 76, box bb1 #[.int .i64 (newMN n), .slice a0 (newMR n).length c0] 24, own w.heap.size 73 (.slice a0 (newMR n).length c0) (xs.set x0.1.toNat (setR x1 x0.2)), box bb0 #[.int .i64 0, .slice none 0 0] 24, imm (.slice a_ps ps.length c_ps) ps])
          refine z (inb_normal (nx (rg (k (add rfl rfl s19 rfl (by unfold I64 at *; omega) (k (mv (v := .int .i64 ((j : Int) + 1)) rfl rfl (z ?_))))))))
          have H34 : HI M w w25 [box bb1 #[.int .i64 (newMN n), .slice a0 (newMR n).length c0] 24, own w.heap.size 73 (.slice a0 (newMR n).length c0) (xs.set x0.1.toNat (setR x1 x0.2)), box bb0 #[.int .i64 0, .slice none 0 0] 24, imm (.slice a_ps ps.length c_ps) ps] := H33.pickN [3, 4, 5, 6] (by decide) rfl
          refine loopN _ ?_ ⟨(j + 1), (xs.set x0.1.toNat (setR x1 x0.2)), rfl, s15, s16, s17, s18, (ieq rfl (by first | rfl | omega | (push_cast; omega))), H34, (by first | assumption | omega | simp | (simp; omega)), (by exact all_take hx0 ha_ hq), (by rw [foldM_step hx0, ← hs]; exact setM_of hx1)⟩
          omega
    ·
      have p1 := of_decide_eq_false b1
      refine ex (then_exit (loop_exit (inb_here (nx (sq ?_)))))
      have hq := ofOk_end hn ha_ (by omega)
      refine rg (k (ldX H5 0 rfl ty24 rfl s1 (by decide) rfl (k (stX H5 2 rfl ty24 rfl rfl s0 rfl rfl rfl rfl ?_))))
      intro w5 (H6 : HI M w w5 [box bb1 #[.int .i64 (newMN n), .slice a0 (newMR n).length c0] 24, own w.heap.size 73 (.slice a0 (newMR n).length c0) xs, box bb0 #[.int .i64 (newMN n), .slice a0 (newMR n).length c0] 24, imm (.slice a_ps ps.length c_ps) ps])
      refine k (asg (v := .int .i64 0) rfl rfl (z (nx (rt (rc2 H6 2 rfl ty24 rfl rfl rfl s0 rfl (by decide) ?_)))))
      have e0 : (newMN n : Int) = ofMN n ps := by first | exact (of_no (ofOk_bad hn)).1.symm | exact (of_no (ofOk_no hx0 hq)).1.symm | (rw [(of_yes hq).1]; exact en)
      have e1 : (xs : List (List (BitVec 64))) = ofMR n ps := by first | exact (of_no (ofOk_bad hn)).2.1.symm | exact (of_no (ofOk_no hx0 hq)).2.1.symm | (rw [(of_yes hq).2.1, hs, take_end (by omega)])
      have l1 : (newMR n).length = (ofMR n ps).length := by first | rfl | (rw [er, newM_length, ← e1, hs, foldM_length]) | simp
      have e2 : (0 : Int) = ofME n ps := by first | (rw [(of_no (ofOk_bad hn)).2.2]; exact (newM_no hn).2.2) | exact (of_no (ofOk_no hx0 hq)).2.2.symm | exact (of_yes hq).2.2.symm
      have ev_ := cg3 (fun (x_0 : Int) (n_1 : Nat) (x_2 : Int) => (.tuple #[.agg #[.int .i64 x_0, .slice a0 n_1 c0], .int .i64 x_2] : Value)) e0 l1 e2
      exact ⟨a0, c0, ev_, H6.below, (congrArg (fun (n_ : Nat) => OwnsG _ _ _ (ofMR n ps) (.slice a0 n_ c0) _) l1).mp ((congrArg (fun (x_ : List (List (BitVec 64))) => OwnsG _ _ _ x_ (.slice a0 (newMR n).length c0) _) e1).mp (H6.ownsG_out 1 rfl))⟩
/- eyewitness/mat.Set -/
set_option maxRecDepth 100000 in
set_option maxHeartbeats 1600000 in
theorem mat_Set {M : Nat → Prop} {w : World} {mn : Int} {a_mr : Option Addr} {c_mr : Nat} {mr : List (List (BitVec 64))} {i : Int} {j : Int} (hM : ∀ b, M b → b < w.heap.size) (h_mn : I64 mn) (h_mr : RV M w (.slice a_mr mr.length c_mr) mr) (h_i : I64 i) (h_j : I64 j) (hsq_m : ((mr.length : Nat) : Int) = mn) (hrw_m : ∀ x ∈ mr, x.length ≤ 1000000000) (hl4_m : mn ≤ 4096) : Calls Tryd.prog 59 #[.agg #[.int .i64 mn, .slice a_mr mr.length c_mr], .int .i64 i, .int .i64 j] w (Ret fun v w' => ∃ (a0 : Option Addr) (c0 : Nat), v = .tuple #[.agg #[.int .i64 (setMN mn i j), .slice a0 (setMR mn mr i j).length c0], .int .i64 (setME mn i j)] ∧ Ext w w' ∧ OwnsG M 73 w (setMR mn mr i j) (.slice a0 (setMR mn mr i j).length c0) w') := by
  refine enter 32 Tryd.func59 rfl rfl rfl fun f0 ha => ?_
  have H := HI.start (M0 := M) (w := w) hM
  have H0 := H.put (it := imm (.slice a_mr mr.length c_mr) mr) rfl (by rw [MS_nil]; exact h_mr)
  have ln_mr := rv_len h_mr
  have i0 : f0 0 = .agg #[.int .i64 mn, .slice a_mr mr.length c_mr] := ha 0 (by simp)
  have i1 : f0 1 = .int .i64 i := ha 1 (by simp)
  have i2 : f0 2 = .int .i64 j := ha 2 (by simp)
  refine sq (rg (k (bx H0 rfl i0 ?_)))
  intro bb0 w0 xt0 (H1 : HI M w w0 [box bb0 #[.int .i64 mn, .slice a_mr mr.length c_mr] 24, imm (.slice a_mr mr.length c_mr) mr])
  refine k (al H1 ty24 ?_)
  intro bb1 w1 xt1 (H2 : HI M w w1 [box bb1 #[.int .i64 0, .slice none 0 0] 24, box bb0 #[.int .i64 mn, .slice a_mr mr.length c_mr] 24, imm (.slice a_mr mr.length c_mr) mr])
  refine k (asg (v := .int .i64 0) rfl rfl (z (nx (sq (sq (rg (k (ldX H2 1 rfl ty24 rfl rfl (by decide) rfl (k (mv rfl i1 (k (mv rfl i2 (k (bs (xs := ([i, j] : List Int)) (cells := #[.int .i64 i, .int .i64 j]) (e := 3) H2 rfl (pbc rfl (pbc rfl pb0)) (fun _ => by kernel_rfl) ⟨[.int .i64 i], [.int .i64 j], rfl, ⟨rfl, (show I64 (i) from (by unfold I64 at *; omega))⟩, ⟨[.int .i64 j], [], rfl, ⟨rfl, (show I64 (j) from (by unfold I64 at *; omega))⟩, rfl⟩⟩ rfl (by unfold maxLen; omega) ?_))))))))))))))
  intro g0 w2 xt2 (H3 : HI M w w2 [own w.heap.size 3 (.slice (some ⟨g0, 0, none⟩) 2 2) ([i, j] : List Int), box bb1 #[.int .i64 0, .slice none 0 0] 24, box bb0 #[.int .i64 mn, .slice a_mr mr.length c_mr] 24, imm (.slice a_mr mr.length c_mr) mr])
  refine k ?_
  have H4 := H3.freeze 0 rfl
  have cc0 := mat_in (mn := mn) (l := ([i, j] : List Int)) (a_mu := a_mr) (n_mu := mr.length) (c_mu := c_mr) (w := w2) H4.mb (by unfold I64 at *; omega) (H4.rv 0 rfl)
  refine ca go62 rfl (ec rfl (ec rfl e0)) cc0 ?_
  rintro _ w3 ⟨rfl, xt3⟩
  have H5 := H3.ext xt3
  refine k (not_ rfl rfl (z (nx ?_)))
  refine cd (b := !(inM mn ([i, j] : List Int))) rfl rfl (fun b0 => ?_) (fun b0 => ?_)
  ·
    refine sq ?_
    have hq : inM mn [i, j] = false := by simpa using b0
    refine rg (k (bd (v := .agg #[.int .i64 0, .slice none 0 0]) rfl pb0 (fun _ => by kernel_rfl) (k (stX H5 1 rfl ty24 rfl rfl rfl rfl rfl rfl rfl ?_))))
    intro w4 (H6 : HI M w w4 [own w.heap.size 3 (.slice (some ⟨g0, 0, none⟩) 2 2) ([i, j] : List Int), box bb1 #[.int .i64 0, .slice none 0 0] 24, box bb0 #[.int .i64 mn, .slice a_mr mr.length c_mr] 24, imm (.slice a_mr mr.length c_mr) mr])
    refine k (asg (v := .int .i64 1) rfl rfl (z (nx (rt (then_ret (rc2 H6 1 rfl ty24 rfl rfl rfl rfl rfl (by decide) ?_))))))
    have e0 : (0 : Int) = setMN mn i j := by first | exact (set_no (rs := mr) hq).1.symm | exact (set_yes (rs := mr) hq).1.symm
    have e1 : ([] : List (List (BitVec 64))) = setMR mn mr i j := by first | exact (set_no (rs := mr) hq).2.1.symm | (rw [(set_yes (rs := mr) hq).2.1]; exact setM_of hx0)
    have e2 : (1 : Int) = setME mn i j := by first | exact (set_no (rs := mr) hq).2.2.symm | exact (set_yes (rs := mr) hq).2.2.symm
    have ev_ := cg3 (fun (x_0 : Int) (x_1 : List (List (BitVec 64))) (x_2 : Int) => (.tuple #[.agg #[.int .i64 x_0, .slice none x_1.length 0], .int .i64 x_2] : Value)) e0 e1 e2
    exact ⟨none, 0, ev_, H6.below, (congrArg (fun (x_ : List (List (BitVec 64))) => OwnsG _ _ _ x_ (.slice none x_.length 0) _) e1).mp (ownsG_nil H6.below)⟩
  ·
    refine sk (nx (sq ?_))
    have hq : inM mn [i, j] = true := by simpa using b0
    have hr := inM_two.1 hq
    refine rg (k (fa fl24_1 rfl rfl (k (ldX H5 2 rfl ty22 rfl rfl (by decide) rfl (k ?_)))))
    have cc1 := clone_rows (r := mr) (w := w3) H5.mb (H5.rv 3 rfl) (by first | omega | exact hrw_m _ (List.mem_of_getElem? hx0))
    refine ca go95 rfl (ec rfl e0) cc1 ?_
    rintro _ w4 ⟨a0, c0, rfl, xt4, rv0⟩
    have H6 := H5.ownsG rv0
    refine k (asg (v := .slice a0 mr.length c0) rfl rfl (z (nx (sq (rg (k (mv (v := .slice a0 mr.length c0) rfl rfl (k (mv rfl i1 (k (mv (v := .slice a0 mr.length c0) rfl rfl (k (mv rfl i1 (k (iaO (H6.at_ 0 rfl) rfl rfl rfl rfl (by first | omega | (simp; omega)) un22 ty73 ?_)))))))))))))))
    intro g1 x0 hv0 hx0 hA0
    refine k (ldL hA0 ty73 rfl rfl ?_)
    intro a1 c1 rv1
    have ln0 := rv_len rv1
    have H7 := H6.put (it := imm (.slice a1 x0.length c1) x0) rfl rv1
    refine k (mv rfl i2 (k ?_))
    have cc2 := row_Set (r := x0) (i := j) (w := w4) H7.mb (H7.rv 0 rfl) (by unfold I64 at *; omega) (by first | omega | exact hrw_m _ (List.mem_of_getElem? hx0))
    refine ca go63 rfl (ec rfl (ec rfl e0)) cc2 ?_
    rintro _ w5 ⟨a2, c2, rfl, xt5, rv2⟩
    have H8 := H7.ownsG rv2
    refine k (iaO (H8.at_ 2 rfl) rfl rfl rfl rfl (by first | omega | (simp; omega)) un22 ty73 ?_)
    intro g2 x1 hv1 hx1 hA1
    refine k ?_
    have H9 := H8.freeze 0 rfl
    refine stO H9 2 rfl hv1 rfl (by first | omega | (simp; omega)) ty73 rfl rfl rfl rfl (H9.rv 0 rfl) ?_
    intro w6 (H10 : HI M w w6 [imm (.slice a2 (setR x0 j).length c2) (setR x0 j), imm (.slice a1 x0.length c1) x0, own w.heap.size 73 (.slice a0 mr.length c0) (mr.set i.toNat (setR x0 j)), own w.heap.size 3 (.slice (some ⟨g0, 0, none⟩) 2 2) ([i, j] : List Int), box bb1 #[.int .i64 0, .slice none 0 0] 24, box bb0 #[.int .i64 mn, .slice a_mr mr.length c_mr] 24, imm (.slice a_mr mr.length c_mr) mr])
    refine z (nx (sq (rg (k (fa fl24_0 rfl rfl (k (ldX H10 5 rfl ty3 rfl rfl (by decide) rfl (k (mv (v := .slice a0 mr.length c0) rfl rfl (k (bd (v := .agg #[.int .i64 mn, .slice a0 mr.length c0]) rfl (pbc rfl (pbc rfl pb0)) (fun _ => by kernel_rfl) (k (stX H10 4 rfl ty24 rfl rfl rfl rfl rfl rfl rfl ?_)))))))))))))
    intro w7 (H11 : HI M w w7 [imm (.slice a2 (setR x0 j).length c2) (setR x0 j), imm (.slice a1 x0.length c1) x0, own w.heap.size 73 (.slice a0 mr.length c0) (mr.set i.toNat (setR x0 j)), own w.heap.size 3 (.slice (some ⟨g0, 0, none⟩) 2 2) ([i, j] : List Int), box bb1 #[.int .i64 mn, .slice a0 mr.length c0] 24, box bb0 #[.int .i64 mn, .slice a_mr mr.length c_mr] 24, imm (.slice a_mr mr.length c_mr) mr])
    refine k (asg (v := .int .i64 0) rfl rfl (z (nx (rt (rc2 H11 4 rfl ty24 rfl rfl rfl rfl rfl (by decide) ?_)))))
    have e0 : (mn : Int) = setMN mn i j := by first | exact (set_no (rs := mr) hq).1.symm | exact (set_yes (rs := mr) hq).1.symm
    have e1 : (mr.set i.toNat (setR x0 j) : List (List (BitVec 64))) = setMR mn mr i j := by first | exact (set_no (rs := mr) hq).2.1.symm | (rw [(set_yes (rs := mr) hq).2.1]; exact setM_of hx0)
    have l1 : mr.length = (setMR mn mr i j).length := by rw [← e1]; simp
    have e2 : (0 : Int) = setME mn i j := by first | exact (set_no (rs := mr) hq).2.2.symm | exact (set_yes (rs := mr) hq).2.2.symm
    have ev_ := cg3 (fun (x_0 : Int) (n_1 : Nat) (x_2 : Int) => (.tuple #[.agg #[.int .i64 x_0, .slice a0 n_1 c0], .int .i64 x_2] : Value)) e0 l1 e2
    exact ⟨a0, c0, ev_, H11.below, (congrArg (fun (n_ : Nat) => OwnsG _ _ _ (setMR mn mr i j) (.slice a0 n_ c0) _) l1).mp ((congrArg (fun (x_ : List (List (BitVec 64))) => OwnsG _ _ _ x_ (.slice a0 mr.length c0) _) e1).mp (H11.ownsG_out 2 rfl))⟩
/- eyewitness/mat.Has -/
set_option maxRecDepth 100000 in
set_option maxHeartbeats 1600000 in
theorem mat_Has {M : Nat → Prop} {w : World} {mn : Int} {a_mr : Option Addr} {c_mr : Nat} {mr : List (List (BitVec 64))} {i : Int} {j : Int} (hM : ∀ b, M b → b < w.heap.size) (h_mn : I64 mn) (h_mr : RV M w (.slice a_mr mr.length c_mr) mr) (h_i : I64 i) (h_j : I64 j) (hsq_m : ((mr.length : Nat) : Int) = mn) (hrw_m : ∀ x ∈ mr, x.length ≤ 1000000000) (hl4_m : mn ≤ 4096) : Calls Tryd.prog 19 #[.agg #[.int .i64 mn, .slice a_mr mr.length c_mr], .int .i64 i, .int .i64 j] w (Ret fun v w' =>  v = .bool (hasM mn mr i j) ∧ Ext w w') := by
  refine enter 21 Tryd.func19 rfl rfl rfl fun f0 ha => ?_
  have H := HI.start (M0 := M) (w := w) hM
  have H0 := H.put (it := imm (.slice a_mr mr.length c_mr) mr) rfl (by rw [MS_nil]; exact h_mr)
  have ln_mr := rv_len h_mr
  have i0 : f0 0 = .agg #[.int .i64 mn, .slice a_mr mr.length c_mr] := ha 0 (by simp)
  have i1 : f0 1 = .int .i64 i := ha 1 (by simp)
  have i2 : f0 2 = .int .i64 j := ha 2 (by simp)
  refine sq (rg (k (bx H0 rfl i0 ?_)))
  intro bb0 w0 xt0 (H1 : HI M w w0 [box bb0 #[.int .i64 mn, .slice a_mr mr.length c_mr] 24, imm (.slice a_mr mr.length c_mr) mr])
  refine k (asg (v := .bool false) rfl rfl (z (nx (sq (rg (k (ldX H1 0 rfl ty24 rfl rfl (by decide) rfl (k (mv rfl i1 (k (mv rfl i2 (k (bs (xs := ([i, j] : List Int)) (cells := #[.int .i64 i, .int .i64 j]) (e := 3) H1 rfl (pbc rfl (pbc rfl pb0)) (fun _ => by kernel_rfl) ⟨[.int .i64 i], [.int .i64 j], rfl, ⟨rfl, (show I64 (i) from (by unfold I64 at *; omega))⟩, ⟨[.int .i64 j], [], rfl, ⟨rfl, (show I64 (j) from (by unfold I64 at *; omega))⟩, rfl⟩⟩ rfl (by unfold maxLen; omega) ?_)))))))))))))
  intro g0 w1 xt1 (H2 : HI M w w1 [own w.heap.size 3 (.slice (some ⟨g0, 0, none⟩) 2 2) ([i, j] : List Int), box bb0 #[.int .i64 mn, .slice a_mr mr.length c_mr] 24, imm (.slice a_mr mr.length c_mr) mr])
  refine k ?_
  have H3 := H2.freeze 0 rfl
  have cc0 := mat_in (mn := mn) (l := ([i, j] : List Int)) (a_mu := a_mr) (n_mu := mr.length) (c_mu := c_mr) (w := w1) H3.mb (by unfold I64 at *; omega) (H3.rv 0 rfl)
  refine ca go62 rfl (ec rfl (ec rfl e0)) cc0 ?_
  rintro _ w2 ⟨rfl, xt2⟩
  have H4 := H2.ext xt2
  refine k (mv (v := .bool (inM mn ([i, j] : List Int))) rfl rfl ?_)
  rcases Bool.eq_false_or_eq_true (inM mn ([i, j] : List Int)) with b0 | b0
  · -- inM mn ([i, j] : List Int) is True
    refine k (gy rfl rfl rfl b0 (fa fl24_1 rfl rfl (k (gy rfl rfl rfl b0 (ldX H4 1 rfl ty22 rfl rfl (by decide) rfl (k (gy rfl rfl rfl b0 (mv rfl i1 (k (gy rfl rfl rfl b0 (ia (H4.rv 2 rfl) rfl rfl rfl rfl (by have hr := inM_two.1 b0; omega) un22 ty73 ?_)))))))))))
    intro ad0 x0 hx0 hA0
    refine k (gy rfl rfl rfl b0 (ldL hA0.w ty73 rfl rfl ?_))
    intro a0 c0 rv0
    have ln0 := rv_len rv0
    have H5 := H4.put (it := imm (.slice a0 x0.length c0) x0) rfl rv0
    refine k (gy rfl rfl rfl b0 (mv rfl i2 (k (gy rfl rfl rfl b0 ?_))))
    have cc1 := row_Has (r := x0) (i := j) (w := w2) H5.mb (H5.rv 0 rfl) (by unfold I64 at *; omega)
    refine ca go67 rfl (ec rfl (ec rfl e0)) cc1 ?_
    rintro _ w3 ⟨rfl, xt3⟩
    have H6 := H5.ext xt3
    refine k (pickT rfl rfl rfl rfl b0 rfl (k (asg (v := .bool (hasR x0 j)) rfl rfl (z (nx (rt (r1 rfl rfl ?_)))))))
    have e0 : (hasR x0 j : Bool) = hasM mn mr i j := by unfold hasM; first | (rw [rowAt_of hx0, b0]; rfl) | (rw [b0]; rfl)
    have ev_ := cg1 (fun (x_0 : Bool) => (.bool x_0 : Value)) e0
    exact ⟨ev_, H6.below⟩
  · -- inM mn ([i, j] : List Int) is False
    refine k (gn rfl rfl rfl b0 (k (gn rfl rfl rfl b0 (k (gn rfl rfl rfl b0 (k (gn rfl rfl rfl b0 (k (gn rfl rfl rfl b0 (k (gn rfl rfl rfl b0 (k (gn rfl rfl rfl b0 (k (pickF rfl rfl rfl rfl b0 rfl (k (asg (v := .bool false) rfl rfl (z (nx (rt (r1 rfl rfl ?_)))))))))))))))))))))
    have e0 : (false : Bool) = hasM mn mr i j := by unfold hasM; first | (rw [rowAt_of hx0, b0]; rfl) | (rw [b0]; rfl)
    have ev_ := cg1 (fun (x_0 : Bool) => (.bool x_0 : Value)) e0
    exact ⟨ev_, H4.below⟩
/- eyewitness/word.Low -/
set_option maxRecDepth 100000 in
set_option maxHeartbeats 1600000 in
theorem word_Low {w : World} {i : Int} (h_i : I64 i) : Calls Tryd.prog 97 #[.int .i64 i] w (Ret fun v w' =>  v = U (lowW i) ∧ Ext w w') := by
  refine enter 10 Tryd.func97 rfl rfl rfl fun f0 ha => ?_
  have H := HI.start (M0 := (fun _ => False)) (w := w) (fun _ h => h.elim)
  have i0 : f0 0 = .int .i64 i := ha 0 (by simp)
  refine sq (rg (k (asg (v := U (0#64)) rfl rfl (z (nx (sq (sq (rg (k (mv rfl i0 (k (leq rfl rfl rfl rfl (z (nx ?_))))))))))))))
  refine cd (b := decide (i ≤ 0)) rfl rfl (fun b0 => ?_) (fun b0 => ?_)
  ·
    have p0 := of_decide_eq_true b0
    refine sq (rg (k (asg (v := U (0#64)) rfl rfl (z (nx (rt (then_ret (r1 rfl rfl ?_))))))))
    have e0 : (0#64 : BitVec 64) = lowW i := by first | exact lowW_no (by omega) | exact lowW_yes (by omega)
    have ev_ := cg1 (fun (x_0 : BitVec 64) => (U x_0 : Value)) e0
    exact ⟨ev_, H.below⟩
  ·
    have p0 := of_decide_eq_false b0
    refine sk (nx (sq (rg (k (mv rfl i0 (k (min2 rfl rfl rfl rfl (k (sub rfl rfl rfl rfl (by unfold I64 at *; omega) (k (cvU rfl rfl un3 un81 (k (shrU (18446744073709551615#64) ((BitVec.ofInt 64 (64 - (min i 64))).toNat : Int) (by omega) rfl rfl rfl rfl (k (asg (v := U ((18446744073709551615#64) >>> ((BitVec.ofInt 64 (64 - (min i 64))).toNat : Int).toNat)) rfl rfl (z (nx (rt (r1 rfl rfl ?_)))))))))))))))))))
    have e0 : ((18446744073709551615#64) >>> ((BitVec.ofInt 64 (64 - (min i 64))).toNat : Int).toNat : BitVec 64) = lowW i := by first | exact lowW_no (by omega) | exact lowW_yes (by omega)
    have ev_ := cg1 (fun (x_0 : BitVec 64) => (U x_0 : Value)) e0
    exact ⟨ev_, H.below⟩
/- eyewitness/mat.Right$1 -/
set_option maxRecDepth 100000 in
set_option maxHeartbeats 1600000 in
theorem mat_Right1 {M : Nat → Prop} {w : World} {a_r : Option Addr} {c_r : Nat} {r : List (BitVec 64)} {b_b : Nat} {ty_b : TypeId} {wn : Int} {b_c : Nat} {ty_c : TypeId} {sp : BitVec 64} (hM : ∀ b, M b → b < w.heap.size) (h_r : RV M w (.slice a_r r.length c_r) r) (h_wn : I64 wn) (h_b : w.heap[b_b]? = some (.cells #[.int .i64 wn] ty_b (0, 0)) ∧ ¬ M b_b) (h_c : w.heap[b_c]? = some (.cells #[U sp] ty_c (0, 0)) ∧ ¬ M b_c) (hw : 1 ≤ wn) : Calls Tryd.prog 99 #[.slice a_r r.length c_r, .pointer (some ⟨b_b, 0, none⟩), .pointer (some ⟨b_c, 0, none⟩)] w (Ret fun v w' =>  v = .bool (badRow wn sp r) ∧ Ext w w') := by
  refine enter 19 Tryd.func99 rfl rfl rfl fun f0 ha => ?_
  have H := HI.start (M0 := M) (w := w) hM
  have H0 := H.put (it := imm (.slice a_r r.length c_r) r) rfl (by rw [MS_nil]; exact h_r)
  have ln_r := rv_len h_r
  have i0 : f0 0 = .slice a_r r.length c_r := ha 0 (by simp)
  have H1 := H0.put (it := ro b_b #[.int .i64 wn] ty_b) rfl (by rw [MS_cons_none rfl, MS_nil]; exact h_b)
  have i1 : f0 1 = .pointer (some ⟨b_b, 0, none⟩) := ha 1 (by simp)
  have H2 := H1.put (it := ro b_c #[U sp] ty_c) rfl (by rw [MS_cons_none rfl, MS_cons_none rfl, MS_nil]; exact h_c)
  have i2 : f0 2 = .pointer (some ⟨b_c, 0, none⟩) := ha 2 (by simp)
  refine sq (rg (k (asg (v := .bool false) rfl rfl (z (nx (sq ?_))))))
  rcases Bool.eq_false_or_eq_true (!decide ((r.length : Int) = wn)) with b0 | b0
  · -- !decide ((r.length : Int) = wn) is True
    have p0 := of_decide_eq_false (nott b0)
    refine dr 11 [fun (v : Value) (w' : World) => v = .slice a_r r.length c_r, fun (v : Value) (w' : World) => v = .int .i64 (r.length : Int), fun (v : Value) (w' : World) => v = .int .i64 wn, fun (v : Value) (w' : World) => v = .bool (!decide ((r.length : Int) = wn)), fun (v : Value) (w' : World) => v = .bool (!decide ((r.length : Int) = wn)), fun (v : Value) (_ : World) => v = undef, fun (v : Value) (_ : World) => v = undef, fun (v : Value) (_ : World) => v = undef, fun (v : Value) (_ : World) => v = undef, fun (v : Value) (_ : World) => v = undef, fun (v : Value) (_ : World) => v = undef] rfl (by kernel_rfl) ?_ ?_
    ·
      refine ⟨fun _ => ⟨fun f0 w0 hf0 xt0 hp0 => ?_, fun _ _ _ _ h => h⟩, ?_⟩
      ·
        have H3 := H2.ext xt0
        refine mv rfl ((hf0 0 rfl).trans i0) ?_
        exact ⟨_, rfl, Ext.refl _, rfl⟩
      refine ⟨fun _ => ⟨fun f1 w1 hf1 xt1 hp1 => ?_, fun _ _ _ _ h => h⟩, ?_⟩
      ·
        have H4 := H2.ext xt1
        have s0 : f1 5 = .slice a_r r.length c_r := hp1 0 rfl rfl
        refine lnS rfl s0 un73 ?_
        exact ⟨_, rfl, Ext.refl _, rfl⟩
      refine ⟨fun _ => ⟨fun f2 w2 hf2 xt2 hp2 => ?_, fun _ _ _ _ h => h⟩, ?_⟩
      ·
        have H5 := H2.ext xt2
        refine ldR H5 1 rfl ty3 rfl ((hf2 1 rfl).trans i1) (by decide) rfl ?_
        exact ⟨_, rfl, Ext.refl _, rfl⟩
      refine ⟨fun _ => ⟨fun f3 w3 hf3 xt3 hp3 => ?_, fun _ _ _ _ h => h⟩, ?_⟩
      ·
        have H6 := H2.ext xt3
        have s1 : f3 6 = .int .i64 (r.length : Int) := hp3 1 rfl rfl
        have s2 : f3 7 = .int .i64 wn := hp3 2 rfl rfl
        refine neq rfl rfl s1 s2 ?_
        exact ⟨_, rfl, Ext.refl _, rfl⟩
      refine ⟨fun _ => ⟨fun f4 w4 hf4 xt4 hp4 => ?_, fun _ _ _ _ h => h⟩, ?_⟩
      ·
        have H7 := H2.ext xt4
        have s3 : f4 8 = .bool (!decide ((r.length : Int) = wn)) := hp4 3 rfl rfl
        refine mv rfl s3 ?_
        exact ⟨_, rfl, Ext.refl _, rfl⟩
      refine ⟨fun _ => ⟨fun f5 w5 hf5 xt5 hp5 => ?_, fun _ _ _ _ h => h⟩, ?_⟩
      ·
        have H8 := H2.ext xt5
        have s4 : f5 9 = .bool (!decide ((r.length : Int) = wn)) := hp5 4 rfl rfl
        refine gn rfl rfl s4 b0 ?_
        exact ⟨_, rfl, Ext.refl _, rfl⟩
      refine ⟨fun _ => ⟨fun f6 w6 hf6 xt6 hp6 => ?_, fun _ _ _ _ h => h⟩, ?_⟩
      ·
        have H9 := H2.ext xt6
        have s5 : f6 9 = .bool (!decide ((r.length : Int) = wn)) := hp6 4 rfl rfl
        refine gn rfl rfl s5 b0 ?_
        exact ⟨_, rfl, Ext.refl _, rfl⟩
      refine ⟨fun _ => ⟨fun f7 w7 hf7 xt7 hp7 => ?_, fun _ _ _ _ h => h⟩, ?_⟩
      ·
        have H10 := H2.ext xt7
        have s6 : f7 9 = .bool (!decide ((r.length : Int) = wn)) := hp7 4 rfl rfl
        have s7 : f7 11 = undef := hp7 6 rfl rfl
        refine gn rfl rfl s6 b0 ?_
        exact ⟨_, rfl, Ext.refl _, rfl⟩
      refine ⟨fun _ => ⟨fun f8 w8 hf8 xt8 hp8 => ?_, fun _ _ _ _ h => h⟩, ?_⟩
      ·
        have H11 := H2.ext xt8
        have s8 : f8 9 = .bool (!decide ((r.length : Int) = wn)) := hp8 4 rfl rfl
        have s9 : f8 10 = undef := hp8 5 rfl rfl
        have s10 : f8 12 = undef := hp8 7 rfl rfl
        refine gn rfl rfl s8 b0 ?_
        exact ⟨_, rfl, Ext.refl _, rfl⟩
      refine ⟨fun _ => ⟨fun f9 w9 hf9 xt9 hp9 => ?_, fun _ _ _ _ h => h⟩, ?_⟩
      ·
        have H12 := H2.ext xt9
        have s11 : f9 9 = .bool (!decide ((r.length : Int) = wn)) := hp9 4 rfl rfl
        have s12 : f9 13 = undef := hp9 8 rfl rfl
        refine gn rfl rfl s11 b0 ?_
        exact ⟨_, rfl, Ext.refl _, rfl⟩
      refine ⟨fun _ => ⟨fun f10 w10 hf10 xt10 hp10 => ?_, fun _ _ _ _ h => h⟩, ?_⟩
      ·
        have H13 := H2.ext xt10
        have s13 : f10 9 = .bool (!decide ((r.length : Int) = wn)) := hp10 4 rfl rfl
        refine gn rfl rfl s13 b0 ?_
        exact ⟨_, rfl, Ext.refl _, rfl⟩
      exact DSteps.rest rfl _
    · intro f11 w11 hf11 xt11 hp11
      have H14 := H2.ext xt11
      have s14 : f11 9 = .bool (!decide ((r.length : Int) = wn)) := hp11 4 rfl
      have s15 : f11 14 = undef := hp11 9 rfl
      have s16 : f11 15 = undef := hp11 10 rfl
      refine k (gn rfl rfl s14 b0 (k (gn rfl rfl s14 b0 (k (pickT rfl rfl rfl s14 b0 rfl (k (asg (v := .bool true) rfl rfl (z (nx (rt (r1 rfl rfl ?_)))))))))))
      have e0 : (true : Bool) = badRow wn sp r := by unfold badRow; first | (rw [getD_of hx0]; simp [p0]) | simp [p0]
      have ev_ := cg1 (fun (x_0 : Bool) => (.bool x_0 : Value)) e0
      exact ⟨ev_, H14.below⟩
  · -- !decide ((r.length : Int) = wn) is False
    have p0 := of_decide_eq_true (notf b0)
    obtain ⟨x0, hx0⟩ : ∃ x, r[(wn - 1).toNat]? = some x := ⟨_, List.getElem?_eq_getElem (by first | omega | (simp; omega))⟩
    refine dr 11 [fun (v : Value) (w' : World) => v = .slice a_r r.length c_r, fun (v : Value) (w' : World) => v = .int .i64 (r.length : Int), fun (v : Value) (w' : World) => v = .int .i64 wn, fun (v : Value) (w' : World) => v = .bool (!decide ((r.length : Int) = wn)), fun (v : Value) (w' : World) => v = .bool (!decide ((r.length : Int) = wn)), fun (v : Value) (w' : World) => v = .slice a_r r.length c_r, fun (v : Value) (w' : World) => v = .int .i64 wn, fun (v : Value) (w' : World) => v = .int .i64 (wn - 1), fun (v : Value) (w' : World) => ∃ (ad0 : Addr), v = .pointer (some ad0) ∧ At (MS M [ro b_c #[U sp] ty_c, ro b_b #[.int .i64 wn] ty_b, imm (.slice a_r r.length c_r) r]) w' ad0 x0, fun (v : Value) (w' : World) => v = U x0, fun (v : Value) (w' : World) => v = U sp] rfl (by kernel_rfl) ?_ ?_
    ·
      refine ⟨fun _ => ⟨fun f0 w0 hf0 xt0 hp0 => ?_, fun _ _ _ _ h => h⟩, ?_⟩
      ·
        have H3 := H2.ext xt0
        refine mv rfl ((hf0 0 rfl).trans i0) ?_
        exact ⟨_, rfl, Ext.refl _, rfl⟩
      refine ⟨fun _ => ⟨fun f1 w1 hf1 xt1 hp1 => ?_, fun _ _ _ _ h => h⟩, ?_⟩
      ·
        have H4 := H2.ext xt1
        have s0 : f1 5 = .slice a_r r.length c_r := hp1 0 rfl rfl
        refine lnS rfl s0 un73 ?_
        exact ⟨_, rfl, Ext.refl _, rfl⟩
      refine ⟨fun _ => ⟨fun f2 w2 hf2 xt2 hp2 => ?_, fun _ _ _ _ h => h⟩, ?_⟩
      ·
        have H5 := H2.ext xt2
        refine ldR H5 1 rfl ty3 rfl ((hf2 1 rfl).trans i1) (by decide) rfl ?_
        exact ⟨_, rfl, Ext.refl _, rfl⟩
      refine ⟨fun _ => ⟨fun f3 w3 hf3 xt3 hp3 => ?_, fun _ _ _ _ h => h⟩, ?_⟩
      ·
        have H6 := H2.ext xt3
        have s1 : f3 6 = .int .i64 (r.length : Int) := hp3 1 rfl rfl
        have s2 : f3 7 = .int .i64 wn := hp3 2 rfl rfl
        refine neq rfl rfl s1 s2 ?_
        exact ⟨_, rfl, Ext.refl _, rfl⟩
      refine ⟨fun _ => ⟨fun f4 w4 hf4 xt4 hp4 => ?_, fun _ _ _ _ h => h⟩, ?_⟩
      ·
        have H7 := H2.ext xt4
        have s3 : f4 8 = .bool (!decide ((r.length : Int) = wn)) := hp4 3 rfl rfl
        refine mv rfl s3 ?_
        exact ⟨_, rfl, Ext.refl _, rfl⟩
      refine ⟨fun _ => ⟨fun f5 w5 hf5 xt5 hp5 => ?_, fun _ _ _ _ h => h⟩, ?_⟩
      ·
        have H8 := H2.ext xt5
        have s4 : f5 9 = .bool (!decide ((r.length : Int) = wn)) := hp5 4 rfl rfl
        refine gy rfl rfl s4 b0 (mv rfl ((hf5 0 rfl).trans i0) ?_)
        exact ⟨_, rfl, Ext.refl _, rfl⟩
      refine ⟨fun _ => ⟨fun f6 w6 hf6 xt6 hp6 => ?_, fun _ _ _ _ h => h⟩, ?_⟩
      ·
        have H9 := H2.ext xt6
        have s5 : f6 9 = .bool (!decide ((r.length : Int) = wn)) := hp6 4 rfl rfl
        refine gy rfl rfl s5 b0 (ldR H9 1 rfl ty3 rfl ((hf6 1 rfl).trans i1) (by decide) rfl ?_)
        exact ⟨_, rfl, Ext.refl _, rfl⟩
      refine ⟨fun _ => ⟨fun f7 w7 hf7 xt7 hp7 => ?_, fun _ _ _ _ h => h⟩, ?_⟩
      ·
        have H10 := H2.ext xt7
        have s6 : f7 9 = .bool (!decide ((r.length : Int) = wn)) := hp7 4 rfl rfl
        have s7 : f7 11 = .int .i64 wn := hp7 6 rfl rfl
        refine gy rfl rfl s6 b0 (sub rfl rfl s7 rfl (by unfold I64 at *; omega) ?_)
        exact ⟨_, rfl, Ext.refl _, rfl⟩
      refine ⟨fun _ => ⟨fun f8 w8 hf8 xt8 hp8 => ?_, by rintro _ _ _ x_ ⟨ad0, e_, hA0⟩; exact ⟨ad0, e_, hA0.lift (Up.ext x_)⟩⟩, ?_⟩
      ·
        have H11 := H2.ext xt8
        have s8 : f8 9 = .bool (!decide ((r.length : Int) = wn)) := hp8 4 rfl rfl
        have s9 : f8 10 = .slice a_r r.length c_r := hp8 5 rfl rfl
        have s10 : f8 12 = .int .i64 (wn - 1) := hp8 7 rfl rfl
        refine gy rfl rfl s8 b0 (ia (H11.rv 2 rfl) rfl rfl s9 s10 (by first | omega | (simp; omega)) un73 ty77 ?_)
        intro ad1 x1 hx1 hA1
        obtain rfl : x0 = x1 := Option.some.inj (hx0.symm.trans hx1)
        exact ⟨_, rfl, Ext.refl _, ⟨ad1, rfl, hA1⟩⟩
      refine ⟨fun _ => ⟨fun f9 w9 hf9 xt9 hp9 => ?_, fun _ _ _ _ h => h⟩, ?_⟩
      ·
        have H12 := H2.ext xt9
        have s11 : f9 9 = .bool (!decide ((r.length : Int) = wn)) := hp9 4 rfl rfl
        obtain ⟨ad2, s12, hA2⟩ : ∃ (ad2 : Addr), f9 13 = .pointer (some ad2) ∧ At (MS M [ro b_c #[U sp] ty_c, ro b_b #[.int .i64 wn] ty_b, imm (.slice a_r r.length c_r) r]) w9 ad2 x0 := hp9 8 rfl rfl
        have H13 := H12.put (it := atI ad2 x0) rfl hA2
        refine gy rfl rfl s11 b0 (ldU (H13.atv 0 rfl).w ty77 rfl s12 ?_)
        exact ⟨_, rfl, Ext.refl _, rfl⟩
      refine ⟨fun _ => ⟨fun f10 w10 hf10 xt10 hp10 => ?_, fun _ _ _ _ h => h⟩, ?_⟩
      ·
        have H14 := H2.ext xt10
        have s13 : f10 9 = .bool (!decide ((r.length : Int) = wn)) := hp10 4 rfl rfl
        refine gy rfl rfl s13 b0 (ldR H14 0 rfl ty77 rfl ((hf10 2 rfl).trans i2) (by decide) rfl ?_)
        exact ⟨_, rfl, Ext.refl _, rfl⟩
      exact DSteps.rest rfl _
    · intro f11 w11 hf11 xt11 hp11
      have H15 := H2.ext xt11
      have s14 : f11 9 = .bool (!decide ((r.length : Int) = wn)) := hp11 4 rfl
      have s15 : f11 14 = U x0 := hp11 9 rfl
      have s16 : f11 15 = U sp := hp11 10 rfl
      refine k (gy rfl rfl s14 b0 (andNotU x0 sp rfl rfl s15 s16 (k (gy rfl rfl s14 b0 (neU (x0 &&& ~~~sp) (0#64) rfl rfl rfl rfl (k (pickF rfl rfl rfl s14 b0 rfl (k (asg (v := .bool (!decide ((x0 &&& ~~~sp) = (0#64)))) rfl rfl (z (nx (rt (r1 rfl rfl ?_)))))))))))))
      have e0 : (!decide ((x0 &&& ~~~sp) = (0#64)) : Bool) = badRow wn sp r := by unfold badRow; first | (rw [getD_of hx0]; simp [p0]) | simp [p0]
      have ev_ := cg1 (fun (x_0 : Bool) => (.bool x_0 : Value)) e0
      exact ⟨ev_, H15.below⟩
/- eyewitness/mat.Right -/
set_option maxRecDepth 100000 in
set_option maxHeartbeats 1600000 in
theorem mat_Right {M : Nat → Prop} {w : World} {mn : Int} {a_mr : Option Addr} {c_mr : Nat} {mr : List (List (BitVec 64))} (hM : ∀ b, M b → b < w.heap.size) (h_mn : I64 mn) (h_mr : RV M w (.slice a_mr mr.length c_mr) mr) : Calls Tryd.prog 60 #[.agg #[.int .i64 mn, .slice a_mr mr.length c_mr]] w (Ret fun v w' =>  v = .bool (rightM mn mr) ∧ Ext w w') := by
  refine enter 37 Tryd.func60 rfl rfl rfl fun f0 ha => ?_
  have H := HI.start (M0 := M) (w := w) hM
  have H0 := H.put (it := imm (.slice a_mr mr.length c_mr) mr) rfl (by rw [MS_nil]; exact h_mr)
  have ln_mr := rv_len h_mr
  have i0 : f0 0 = .agg #[.int .i64 mn, .slice a_mr mr.length c_mr] := ha 0 (by simp)
  refine sq (rg (k (bx H0 rfl i0 ?_)))
  intro bb0 w0 xt0 (H1 : HI M w w0 [box bb0 #[.int .i64 mn, .slice a_mr mr.length c_mr] 24, imm (.slice a_mr mr.length c_mr) mr])
  refine k (asg (v := .bool false) rfl rfl (z (nx (sq (sq (rg (k (fa fl24_0 rfl rfl (k (ldX H1 0 rfl ty3 rfl rfl (by decide) rfl (k (lss rfl rfl rfl rfl (k (mv (v := .bool (decide (mn < 0))) rfl rfl ?_))))))))))))))
  rcases Bool.eq_false_or_eq_true (decide (mn < 0)) with b0 | b0
  · -- decide (mn < 0) is True
    have p0 := of_decide_eq_true b0
    refine k (gn rfl rfl rfl b0 (k (gn rfl rfl rfl b0 (k (gn rfl rfl rfl b0 (k (pickT rfl rfl rfl rfl b0 rfl (k (mv (v := .bool true) rfl rfl (k (gn rfl rfl rfl rfl (k (gn rfl rfl rfl rfl (k (gn rfl rfl rfl rfl (k (gn rfl rfl rfl rfl (k (gn rfl rfl rfl rfl (k (gn rfl rfl rfl rfl (k (pickT rfl rfl rfl rfl rfl rfl (z (nx (cdT rfl rfl rfl (sq (rg (k (asg (v := .bool false) rfl rfl (z (nx (rt (then_ret (r1 rfl rfl ?_)))))))))))))))))))))))))))))))))))
    have e0 : (false : Bool) = rightM mn mr := by unfold rightM; first | (rw [okN_no.2 (by omega)]; rfl) | (rw [decide_eq_false (by omega)]; simp) | (rw [okN_iff.2 (by omega), decide_eq_true (by omega), spareW, if_pos (by omega)]; rfl) | (rw [okN_iff.2 (by omega), decide_eq_true (by omega), spareW, if_neg (by omega)]; rfl)
    have ev_ := cg1 (fun (x_0 : Bool) => (.bool x_0 : Value)) e0
    exact ⟨ev_, H1.below⟩
  · -- decide (mn < 0) is False
    have p0 := of_decide_eq_false b0
    refine k (gy rfl rfl rfl b0 (fa fl24_0 rfl rfl (k (gy rfl rfl rfl b0 (ldX H1 0 rfl ty3 rfl rfl (by decide) rfl (k (gy rfl rfl rfl b0 (gtr rfl rfl rfl rfl (k (pickF rfl rfl rfl rfl b0 rfl (k (mv (v := .bool (decide (4096 < mn))) rfl rfl ?_))))))))))))
    rcases Bool.eq_false_or_eq_true (decide (4096 < mn)) with b1 | b1
    · -- decide (4096 < mn) is True
      have p1 := of_decide_eq_true b1
      refine k (gn rfl rfl rfl b1 (k (gn rfl rfl rfl b1 (k (gn rfl rfl rfl b1 (k (gn rfl rfl rfl b1 (k (gn rfl rfl rfl b1 (k (gn rfl rfl rfl b1 (k (pickT rfl rfl rfl rfl b1 rfl (z (nx (cdT rfl rfl rfl (sq (rg (k (asg (v := .bool false) rfl rfl (z (nx (rt (then_ret (r1 rfl rfl ?_)))))))))))))))))))))))))
      have e0 : (false : Bool) = rightM mn mr := by unfold rightM; first | (rw [okN_no.2 (by omega)]; rfl) | (rw [decide_eq_false (by omega)]; simp) | (rw [okN_iff.2 (by omega), decide_eq_true (by omega), spareW, if_pos (by omega)]; rfl) | (rw [okN_iff.2 (by omega), decide_eq_true (by omega), spareW, if_neg (by omega)]; rfl)
      have ev_ := cg1 (fun (x_0 : Bool) => (.bool x_0 : Value)) e0
      exact ⟨ev_, H1.below⟩
    · -- decide (4096 < mn) is False
      have p1 := of_decide_eq_false b1
      refine k (gy rfl rfl rfl b1 (fa fl24_1 rfl rfl (k (gy rfl rfl rfl b1 (ldX H1 0 rfl ty22 rfl rfl (by decide) rfl (k (gy rfl rfl rfl b1 (lnS rfl rfl un22 (k (gy rfl rfl rfl b1 (fa fl24_0 rfl rfl (k (gy rfl rfl rfl b1 (ldX H1 0 rfl ty3 rfl rfl (by decide) rfl (k (gy rfl rfl rfl b1 (neq rfl rfl rfl rfl (k (pickF rfl rfl rfl rfl b1 rfl (z (nx ?_)))))))))))))))))))))
      refine cd (b := !decide ((mr.length : Int) = mn)) rfl rfl (fun b2 => ?_) (fun b2 => ?_)
      ·
        have p2 := of_decide_eq_false (nott b2)
        refine sq (rg (k (asg (v := .bool false) rfl rfl (z (nx (rt (then_ret (r1 rfl rfl ?_))))))))
        have e0 : (false : Bool) = rightM mn mr := by unfold rightM; first | (rw [okN_no.2 (by omega)]; rfl) | (rw [decide_eq_false (by omega)]; simp) | (rw [okN_iff.2 (by omega), decide_eq_true (by omega), spareW, if_pos (by omega)]; rfl) | (rw [okN_iff.2 (by omega), decide_eq_true (by omega), spareW, if_neg (by omega)]; rfl)
        have ev_ := cg1 (fun (x_0 : Bool) => (.bool x_0 : Value)) e0
        exact ⟨ev_, H1.below⟩
      ·
        have p2 := of_decide_eq_true (notf b2)
        refine sk (nx (sq (rg (k (fa fl24_0 rfl rfl (k (ldX H1 0 rfl ty3 rfl rfl (by decide) rfl (k ?_))))))))
        have cc0 := row_Words (n := mn) (w := w0) (by unfold I64 at *; omega) (by omega)
        refine ca go96 rfl (ec rfl e0) cc0 ?_
        rintro _ w1 ⟨rfl, xt1⟩
        have H2 := H1.ext xt1
        refine k (al H2 ty3 ?_)
        intro bb1 w2 xt2 (H3 : HI M w w2 [box bb1 #[.int .i64 0] 3, box bb0 #[.int .i64 mn, .slice a_mr mr.length c_mr] 24, imm (.slice a_mr mr.length c_mr) mr])
        refine k (stX H3 0 rfl ty3 rfl rfl rfl rfl rfl rfl rfl ?_)
        intro w3 (H4 : HI M w w3 [box bb1 #[.int .i64 ((words mn : Nat) : Int)] 3, box bb0 #[.int .i64 mn, .slice a_mr mr.length c_mr] 24, imm (.slice a_mr mr.length c_mr) mr])
        refine z (nx (sq (rg (k (al H4 ty77 ?_)))))
        intro bb2 w4 xt3 (H5 : HI M w w4 [box bb2 #[U (0#64)] 77, box bb1 #[.int .i64 ((words mn : Nat) : Int)] 3, box bb0 #[.int .i64 mn, .slice a_mr mr.length c_mr] 24, imm (.slice a_mr mr.length c_mr) mr])
        refine k (stX H5 0 rfl ty77 rfl rfl rfl rfl rfl rfl rfl ?_)
        intro w5 (H6 : HI M w w5 [box bb2 #[U (18446744073709551615#64)] 77, box bb1 #[.int .i64 ((words mn : Nat) : Int)] 3, box bb0 #[.int .i64 mn, .slice a_mr mr.length c_mr] 24, imm (.slice a_mr mr.length c_mr) mr])
        refine z (nx (sq (sq (rg (k (fa fl24_0 rfl rfl (k (ldX H6 2 rfl ty3 rfl rfl (by decide) rfl (k (and63 rfl rfl rfl rfl (k (asg (v := .int .i64 (mn % 64)) rfl rfl (z (nx (sq (rg (k (mv (v := .int .i64 (mn % 64)) rfl rfl (k (gtr rfl rfl rfl rfl (z (nx ?_))))))))))))))))))))))
        refine cd (b := decide (0 < (mn % 64))) rfl rfl (fun b3 => ?_) (fun b3 => ?_)
        ·
          have p3 := of_decide_eq_true b3
          refine rg (k (mv (v := .int .i64 (mn % 64)) rfl rfl (k ?_)))
          have cc1 := word_Low (i := (mn % 64)) (w := w5) (by unfold I64 at *; omega)
          refine ca go97 rfl (ec rfl e0) cc1 ?_
          rintro _ w6 ⟨rfl, xt4⟩
          have H7 := H6.ext xt4
          refine k (stX H7 0 rfl ty77 rfl rfl rfl rfl rfl rfl rfl ?_)
          intro w7 (H8 : HI M w w7 [box bb2 #[U (lowW (mn % 64))] 77, box bb1 #[.int .i64 ((words mn : Nat) : Int)] 3, box bb0 #[.int .i64 mn, .slice a_mr mr.length c_mr] 24, imm (.slice a_mr mr.length c_mr) mr])
          refine z (nx (sq (rg (k (fa fl24_1 rfl rfl (k (ldX H8 2 rfl ty22 rfl rfl (by decide) rfl (k (mf rfl (k ?_))))))))))
          have cc2 := containsFunc_row (r := mr) (p := (fun (x_ : List (BitVec 64)) => badRow ((words mn : Nat) : Int) (lowW (mn % 64)) x_)) (w := w7) H8.mb (H8.rv 3 rfl) ⟨go99, fun w_ v_ x_ hx_ e_ hv_ => by have H_ := H8.ext e_; obtain ⟨_, ⟨v0, rfl, rv0⟩, rfl⟩ := hv_; obtain ⟨a0, c0, rfl, rv1⟩ := RS.explicit rv0; exact mat_Right1 (wn := ((words mn : Nat) : Int)) (sp := (lowW (mn % 64))) (M := fun _ => False) (fun _ h_ => h_.elim) (rv1.lift (Up.less fun _ _ h_ => h_.elim)) (by have hw_ := words_le (n := mn) (by omega); unfold I64; omega) ⟨H_.at_ 1 rfl, fun h_ => h_⟩ ⟨H_.at_ 0 rfl, fun h_ => h_⟩ (by have hp := List.length_pos_of_mem hx_; unfold words; omega)⟩
          refine ca go98 rfl (ec rfl (ec rfl e0)) cc2 ?_
          rintro _ w8 ⟨rfl, xt5⟩
          have H9 := H8.ext xt5
          refine k (not_ rfl rfl (k (asg (v := .bool (!(mr.any (fun (x_ : List (BitVec 64)) => badRow ((words mn : Nat) : Int) (lowW (mn % 64)) x_)))) rfl rfl (z (nx (rt (r1 rfl rfl ?_)))))))
          have e0 : (!(mr.any (fun (x_ : List (BitVec 64)) => badRow ((words mn : Nat) : Int) (lowW (mn % 64)) x_)) : Bool) = rightM mn mr := by unfold rightM; first | (rw [okN_no.2 (by omega)]; rfl) | (rw [decide_eq_false (by omega)]; simp) | (rw [okN_iff.2 (by omega), decide_eq_true (by omega), spareW, if_pos (by omega)]; rfl) | (rw [okN_iff.2 (by omega), decide_eq_true (by omega), spareW, if_neg (by omega)]; rfl)
          have ev_ := cg1 (fun (x_0 : Bool) => (.bool x_0 : Value)) e0
          exact ⟨ev_, H9.below⟩
        ·
          have p3 := of_decide_eq_false b3
          refine sk (nx (sq (rg (k (fa fl24_1 rfl rfl (k (ldX H6 2 rfl ty22 rfl rfl (by decide) rfl (k (mf rfl (k ?_))))))))))
          have cc1 := containsFunc_row (r := mr) (p := (fun (x_ : List (BitVec 64)) => badRow ((words mn : Nat) : Int) (18446744073709551615#64) x_)) (w := w5) H6.mb (H6.rv 3 rfl) ⟨go99, fun w_ v_ x_ hx_ e_ hv_ => by have H_ := H6.ext e_; obtain ⟨_, ⟨v0, rfl, rv0⟩, rfl⟩ := hv_; obtain ⟨a0, c0, rfl, rv1⟩ := RS.explicit rv0; exact mat_Right1 (wn := ((words mn : Nat) : Int)) (sp := (18446744073709551615#64)) (M := fun _ => False) (fun _ h_ => h_.elim) (rv1.lift (Up.less fun _ _ h_ => h_.elim)) (by have hw_ := words_le (n := mn) (by omega); unfold I64; omega) ⟨H_.at_ 1 rfl, fun h_ => h_⟩ ⟨H_.at_ 0 rfl, fun h_ => h_⟩ (by have hp := List.length_pos_of_mem hx_; unfold words; omega)⟩
          refine ca go98 rfl (ec rfl (ec rfl e0)) cc1 ?_
          rintro _ w6 ⟨rfl, xt4⟩
          have H7 := H6.ext xt4
          refine k (not_ rfl rfl (k (asg (v := .bool (!(mr.any (fun (x_ : List (BitVec 64)) => badRow ((words mn : Nat) : Int) (18446744073709551615#64) x_)))) rfl rfl (z (nx (rt (r1 rfl rfl ?_)))))))
          have e0 : (!(mr.any (fun (x_ : List (BitVec 64)) => badRow ((words mn : Nat) : Int) (18446744073709551615#64) x_)) : Bool) = rightM mn mr := by unfold rightM; first | (rw [okN_no.2 (by omega)]; rfl) | (rw [decide_eq_false (by omega)]; simp) | (rw [okN_iff.2 (by omega), decide_eq_true (by omega), spareW, if_pos (by omega)]; rfl) | (rw [okN_iff.2 (by omega), decide_eq_true (by omega), spareW, if_neg (by omega)]; rfl)
          have ev_ := cg1 (fun (x_0 : Bool) => (.bool x_0 : Value)) e0
          exact ⟨ev_, H7.below⟩
end Go.Proofs.YtmhopljngkgidaaDoor
namespace Go.Proofs.YtmhopljngkgidaaDoor
open Go.Ew Go.RowKit
set_option linter.unusedVariables false
set_option linter.unusedSimpArgs false
attribute [local irreducible] WL WC SO Code.wp wpList retQ Ret
attribute [local irreducible] bitB hasW inR hasR setR countW countR subR words newR listR orR firstW tab8
theorem go64 : GoF Tryd.prog 64 := ⟨_, _, Tryd.func64, rfl, by kernel_rfl⟩
/- eyewitness/mat.Pairs -/
set_option maxRecDepth 100000 in
set_option maxHeartbeats 1600000 in
theorem mat_Pairs {M : Nat → Prop} {w : World} {mn : Int} {a_mr : Option Addr} {c_mr : Nat} {mr : List (List (BitVec 64))} (hM : ∀ b, M b → b < w.heap.size) (hT : TabAt 0 w) (h_mn : I64 mn) (h_mr : RV M w (.slice a_mr mr.length c_mr) mr) (hsq_m : ((mr.length : Nat) : Int) = mn) (hrw_m : ∀ x ∈ mr, x.length ≤ 1000000000) (hl4_m : mn ≤ 4096) (hrs_m : ∀ x ∈ mr, x.length ≤ 64) : Calls Tryd.prog 16 #[.agg #[.int .i64 mn, .slice a_mr mr.length c_mr]] w (Ret fun v w' => ∃ (a0 : Option Addr) (c0 : Nat), v = .slice a0 (pairsM mn mr).length c0 ∧ Ext w w' ∧ RV M w' (.slice a0 (pairsM mn mr).length c0) (pairsM mn mr)) := by
  refine enter 32 Tryd.func16 rfl rfl rfl fun f0 ha => ?_
  have H := HI.start (M0 := M) (w := w) hM
  have H0 := H.put (it := imm (.slice a_mr mr.length c_mr) mr) rfl (by rw [MS_nil]; exact h_mr)
  have ln_mr := rv_len h_mr
  have i0 : f0 0 = .agg #[.int .i64 mn, .slice a_mr mr.length c_mr] := ha 0 (by simp)
  refine sq (rg (k (bx H0 rfl i0 ?_)))
  intro bb0 w0 xt0 (H1 : HI M w w0 [box bb0 #[.int .i64 mn, .slice a_mr mr.length c_mr] 24, imm (.slice a_mr mr.length c_mr) mr])
  refine k (asg (v := .slice none 0 0) rfl rfl (z (nx (sq (rg (k (asg (v := .slice none 0 0) rfl rfl (z (nx (sq (sq (rg (k (fa fl24_1 rfl rfl (k (ldX H1 0 rfl ty22 rfl rfl (by decide) rfl (k (lnS rfl rfl un22 (k (mv (v := .int .i64 0) rfl rfl (z (nx (bk ?_)))))))))))))))))))))))
  have H2 := H1.nil_ (Int × Int) 76
  refine lp (fun m f w' => ∃ (i : Nat) (xs : List (Int × Int)) (a0 : Option Addr) (c0 : Nat), m = mr.length - i ∧ f 3 = .slice a0 xs.length c0 ∧ f 9 = .slice a_mr mr.length c_mr ∧ f 10 = .int .i64 (mr.length : Int) ∧ f 11 = .int .i64 (i : Int) ∧  HI M w w' [own w.heap.size 76 (.slice a0 xs.length c0) xs, box bb0 #[.int .i64 mn, .slice a_mr mr.length c_mr] 24, imm (.slice a_mr mr.length c_mr) mr] ∧ (i ≤ mr.length) ∧ (xs = pairsTo mr i)) _ ⟨0, ([] : List (Int × Int)), none, 0, rfl, rfl, rfl, rfl, (ieq rfl (by first | rfl | omega | simp)), H2, (by first | assumption | omega | simp | (simp; omega)), (by rfl)⟩ ?_
  rintro _ f0 w1 ⟨i, xs, a0, c0, rfl, s0, s1, s2, s3, H3, hi_, hs⟩
  refine sq (rg (k (lss rfl rfl s3 s2 (z (nx (sq ?_))))))
  refine cd (b := decide ((i : Int) < (mr.length : Int))) rfl rfl (fun b0 => ?_) (fun b0 => ?_)
  ·
    have p0 := of_decide_eq_true b0
    refine sk (nx (sq (bk (sq (rg (k (mv rfl s3 (k (ia (H3.rv 2 rfl) rfl rfl s1 s3 (by first | omega | (simp; omega)) un22 ty73 ?_)))))))))
    intro ad0 x0 hx0 hA0
    refine k (ldL hA0.w ty73 rfl rfl ?_)
    intro a1 c1 rv0
    have ln0 := rv_len rv0
    have H4 := H3.put (it := imm (.slice a1 x0.length c1) x0) rfl rv0
    refine k (asg (v := .int .i64 (i : Int)) rfl rfl (k (asg (v := .slice a1 x0.length c1) rfl rfl (z (nx (sq (rg (k (mv (v := .slice a1 x0.length c1) rfl rfl (k ?_))))))))))
    have cc0 := row_List (r := x0) (w := w1) H4.mb (hT.ext H4.below) (H4.rv 0 rfl) (by have h_ := hrs_m _ (List.mem_of_getElem? hx0); omega)
    refine ca go64 rfl (ec rfl e0) cc0 ?_
    rintro _ w2 ⟨a2, c2, rfl, xt1, rv1⟩
    have H5 := H4.ownsG rv1
    refine k (lnS rfl rfl un42 (k (mv (v := .int .i64 0) rfl rfl (z (nx (bk ?_))))))
    refine lp (fun m f w' => ∃ (q : Nat) (xs2 : List (Int × Int)) (a3 : Option Addr) (c3 : Nat), m = (listR x0).length - q ∧ f 3 = .slice a3 xs2.length c3 ∧ f 4 = .int .i64 (i : Int) ∧ f 9 = .slice a_mr mr.length c_mr ∧ f 10 = .int .i64 (mr.length : Int) ∧ f 11 = .int .i64 (i : Int) ∧ f 17 = .slice a2 (listR x0).length c2 ∧ f 18 = .int .i64 ((listR x0).length : Int) ∧ f 19 = .int .i64 (q : Int) ∧  HI M w w' [own w.heap.size 3 (.slice a2 (listR x0).length c2) (listR x0), imm (.slice a1 x0.length c1) x0, own w.heap.size 76 (.slice a3 xs2.length c3) xs2, box bb0 #[.int .i64 mn, .slice a_mr mr.length c_mr] 24, imm (.slice a_mr mr.length c_mr) mr] ∧ (q ≤ (listR x0).length) ∧ (xs2 = pairsTo mr i ++ ((listR x0).take q).map fun j => (((i : Nat) : Int), j))) _ ⟨0, xs, a0, c0, rfl, s0, rfl, s1, s2, s3, rfl, rfl, (ieq rfl (by first | rfl | omega | simp)), H5, (by first | assumption | omega | simp | (simp; omega)), (by rw [hs]; simp)⟩ ?_
    rintro _ f1 w3 ⟨q, xs2, a3, c3, rfl, s4, s5, s6, s7, s8, s9, s10, s11, H6, hq_, hs2⟩
    refine sq (rg (k (lss rfl rfl s11 s10 (z (nx (sq ?_))))))
    refine cd (b := decide ((q : Int) < ((listR x0).length : Int))) rfl rfl (fun b1 => ?_) (fun b1 => ?_)
    ·
      have p1 := of_decide_eq_true b1
      refine sk (nx (sq (bk (sq (rg (k (iaO (H6.at_ 0 rfl) rfl rfl s9 s11 (by first | omega | (simp; omega)) un42 ty3 ?_)))))))
      intro g0 x1 hv0 hx1 hA1
      refine k (ldI hA1 ty3 rfl rfl ?_)
      intro rv2
      refine k (asg (v := .int .i64 x1) rfl rfl (z (nx (rg (k (mv rfl s4 (k (mv rfl s5 (k (mv (v := .int .i64 x1) rfl rfl (k (bd (v := .agg #[.int .i64 (i : Int), .int .i64 x1]) rfl (pbc rfl (pbc rfl pb0)) (fun _ => by kernel_rfl) (k (bs (xs := ([((i : Int), x1)] : List (Int × Int))) (cells := #[.int .i64 (i : Int), .int .i64 x1]) (e := 76) H6 rfl (pbc rfl pb0) (fun _ => by kernel_rfl) ⟨[.int .i64 (i : Int), .int .i64 x1], [], rfl, ⟨_, _, rfl, ⟨rfl, (show I64 ((i : Int)) from (by unfold I64 at *; omega))⟩, ⟨rfl, (show I64 (x1) from (by unfold I64 at *; omega))⟩⟩, rfl⟩ rfl (by unfold maxLen; omega) ?_))))))))))))))
      intro g1 w4 xt2 (H7 : HI M w w4 [own w.heap.size 76 (.slice (some ⟨g1, 0, none⟩) 1 1) ([((i : Int), x1)] : List (Int × Int)), own w.heap.size 3 (.slice a2 (listR x0).length c2) (listR x0), imm (.slice a1 x0.length c1) x0, own w.heap.size 76 (.slice a3 xs2.length c3) xs2, box bb0 #[.int .i64 mn, .slice a_mr mr.length c_mr] 24, imm (.slice a_mr mr.length c_mr) mr])
      refine k (ap H7 3 rfl rfl rfl rfl rfl rfl (own_src (H7.at_ 0 rfl)) un31 ty76 rfl (by have h1_ := pairsTo_len hrs_m i; have h2_ := listR_length x0; have h3_ := hrs_m _ (List.mem_of_getElem? hx0); rw [hs2, List.length_append, List.length_map, List.length_take]; simp only [List.length_cons, List.length_nil]; omega) (by have h1_ := pairsTo_len hrs_m i; have h2_ := listR_length x0; have h3_ := hrs_m _ (List.mem_of_getElem? hx0); rw [hs2, List.length_append, List.length_map, List.length_take]; simp only [List.length_cons, List.length_nil]; omega) ?_)
      intro a4 c4 w5 (H8 : HI M w w5 [own w.heap.size 76 (.slice (some ⟨g1, 0, none⟩) 1 1) ([((i : Int), x1)] : List (Int × Int)), own w.heap.size 3 (.slice a2 (listR x0).length c2) (listR x0), imm (.slice a1 x0.length c1) x0, own w.heap.size 76 (.slice a4 (xs2 ++ ([((i : Int), x1)] : List (Int × Int))).length c4) (xs2 ++ ([((i : Int), x1)] : List (Int × Int))), box bb0 #[.int .i64 mn, .slice a_mr mr.length c_mr] 24, imm (.slice a_mr mr.length c_mr) mr])
      refine k (asg (v := .slice a4 (xs2 ++ ([((i : Int), x1)] : List (Int × Int))).length c4) rfl rfl (z (inb_normal (nx (rg (k (add rfl rfl s11 rfl (by have h2_ := listR_length x0; have h3_ := hrs_m _ (List.mem_of_getElem? hx0); unfold I64; omega) (k (mv (v := .int .i64 ((q : Int) + 1)) rfl rfl (z ?_))))))))))
      have H9 : HI M w w5 [own w.heap.size 3 (.slice a2 (listR x0).length c2) (listR x0), imm (.slice a1 x0.length c1) x0, own w.heap.size 76 (.slice a4 (xs2 ++ ([((i : Int), x1)] : List (Int × Int))).length c4) (xs2 ++ ([((i : Int), x1)] : List (Int × Int))), box bb0 #[.int .i64 mn, .slice a_mr mr.length c_mr] 24, imm (.slice a_mr mr.length c_mr) mr] := H8.pickN [1, 2, 3, 4, 5] (by decide) rfl
      refine loopN _ ?_ ⟨(q + 1), (xs2 ++ ([((i : Int), x1)] : List (Int × Int))), a4, c4, rfl, rfl, s5, s6, s7, s8, s9, s10, (ieq rfl (by first | rfl | omega | (push_cast; omega))), H9, (by first | assumption | omega | simp | (simp; omega)), (by rw [hs2]; exact pair_step hx1)⟩
      omega
    ·
      have p1 := of_decide_eq_false b1
      refine ex (then_exit (loop_exit (inb_here (inb_normal (nx (rg (k (add rfl rfl s8 rfl (by unfold I64 at *; omega) (k (mv (v := .int .i64 ((i : Int) + 1)) rfl rfl (z ?_)))))))))))
      have H7 : HI M w w3 [own w.heap.size 76 (.slice a3 xs2.length c3) xs2, box bb0 #[.int .i64 mn, .slice a_mr mr.length c_mr] 24, imm (.slice a_mr mr.length c_mr) mr] := H6.pickN [2, 3, 4] (by decide) rfl
      refine loopN _ ?_ ⟨(i + 1), xs2, a3, c3, rfl, s4, s6, s7, (ieq rfl (by first | rfl | omega | (push_cast; omega))), H7, (by first | assumption | omega | simp | (simp; omega)), (by rw [hs2]; exact pair_row hx0 (by omega))⟩
      omega
  ·
    have p0 := of_decide_eq_false b0
    refine ex (then_exit (loop_exit (inb_here (nx (sq (rg (k (mv rfl s0 (k (asg (v := .slice a0 xs.length c0) rfl rfl (z (nx (rt (r1 rfl rfl ?_))))))))))))))
    have e0 : (xs : List (Int × Int)) = pairsM mn mr := by rw [hs]; exact pairs_end (by omega) (by omega)
    have ev_ := cg1 (fun (x_0 : List (Int × Int)) => (.slice a0 x_0.length c0 : Value)) e0
    exact ⟨a0, c0, ev_, H3.below, (congrArg (fun (x_ : List (Int × Int)) => RV _ _ (.slice a0 x_.length c0) x_) e0).mp (H3.outO 0 rfl)⟩
end Go.Proofs.YtmhopljngkgidaaDoor
namespace Go.Proofs.YtmhopljngkgidaaDoor
open Go.Ew Go.RowKit
set_option linter.unusedVariables false
set_option linter.unusedSimpArgs false
attribute [local irreducible] WL WC SO Code.wp wpList retQ Ret
attribute [local irreducible] bitB hasW inR hasR setR countW countR subR words newR listR orR firstW tab8


end Go.Proofs.YtmhopljngkgidaaDoor
