/- PRINTED by my own tool (wip/tool/gen.py): contracts of Go functions of this seat, each with its proof. -/
import Derived.Test.YtmhopljngkgidaaDoorProg
import Derived.Test.YtmhopljngkgidaaDoorEwSpecI
namespace Go.Proofs.YtmhopljngkgidaaDoor
open Go.Ew Go.RowKit
set_option linter.unusedVariables false
set_option linter.unusedSimpArgs false
attribute [local irreducible] WL WC SO Code.wp wpList retQ Ret
attribute [local irreducible] bitB hasW inR hasR setR countW countR subR words newR listR orR firstW tab8
theorem un81 : Tryd.prog.underlying 81 = some (.int .u64) := by kernel_rfl
theorem un3 : Tryd.prog.underlying 3 = some (.int .i64) := by kernel_rfl
theorem go65 : GoF Tryd.prog 65 := ⟨_, _, Tryd.func65, rfl, by kernel_rfl⟩
theorem un128 : Tryd.prog.underlying 128 = some (.array 64 5) := by kernel_rfl
theorem ty5 : TyF Tryd.prog 5 1 false 1 (.int .u8 0) := ⟨by kernel_rfl, by kernel_rfl⟩
theorem un5 : Tryd.prog.underlying 5 = some (.int .u8) := by kernel_rfl
theorem go117 : GoF Tryd.prog 117 := ⟨_, _, Tryd.func117, rfl, by kernel_rfl⟩
theorem un73 : Tryd.prog.underlying 73 = some (.slice 77) := by kernel_rfl
theorem go103 : GoF Tryd.prog 103 := ⟨_, _, Tryd.func103, rfl, by kernel_rfl⟩
theorem ty77 : TyF Tryd.prog 77 1 false 8 (.int .u64 0) := ⟨by kernel_rfl, by kernel_rfl⟩
theorem go105 : GoF Tryd.prog 105 := ⟨_, _, Tryd.func105, rfl, by kernel_rfl⟩
theorem go102 : GoF Tryd.prog 102 := ⟨_, _, Tryd.func102, rfl, by kernel_rfl⟩
theorem go96 : GoF Tryd.prog 96 := ⟨_, _, Tryd.func96, rfl, by kernel_rfl⟩
theorem go104 : GoF Tryd.prog 104 := ⟨_, _, Tryd.func104, rfl, by kernel_rfl⟩
theorem un42 : Tryd.prog.underlying 42 = some (.slice 3) := by kernel_rfl
theorem ty3 : TyF Tryd.prog 3 1 false 8 (.int .i64 0) := ⟨by kernel_rfl, by kernel_rfl⟩
theorem go107 : GoF Tryd.prog 107 := ⟨_, _, Tryd.func107, rfl, by kernel_rfl⟩
theorem go57 : GoF Tryd.prog 57 := ⟨_, _, Tryd.func57, rfl, by kernel_rfl⟩
theorem go94 : GoF Tryd.prog 94 := ⟨_, _, Tryd.func94, rfl, by kernel_rfl⟩
theorem go58 : GoF Tryd.prog 58 := ⟨_, _, Tryd.func58, rfl, by kernel_rfl⟩
theorem go106 : GoF Tryd.prog 106 := ⟨_, _, Tryd.func106, rfl, by kernel_rfl⟩
/- eyewitness/word.Bit -/
set_option maxRecDepth 100000 in
set_option maxHeartbeats 1600000 in
theorem word_Bit {w : World} {i : Int} (h_i : I64 i) : Calls Tryd.prog 65 #[.int .i64 i] w (Ret fun v w' =>  v = U (bitB i) ∧ Ext w w') := by
  refine enter 9 Tryd.func65 rfl rfl rfl fun f0 ha => ?_
  have H := HI.start (M0 := (fun _ => False)) (w := w) (fun _ h => h.elim)
  have i0 : f0 0 = .int .i64 i := ha 0 (by simp)
  refine sq (rg (k (asg (v := U (0#64)) rfl rfl (z (nx (sq (sq (rg (k (mv rfl i0 (k (cvU rfl rfl un3 un81 (k (gtU (BitVec.ofInt 64 i) (63#64) rfl rfl rfl rfl (z (nx ?_))))))))))))))))
  refine cd (b := decide ((63#64).toNat < (BitVec.ofInt 64 i).toNat)) rfl rfl (fun b0 => ?_) (fun b0 => ?_)
  ·
    have p0 := of_decide_eq_true b0
    refine sq (rg (k (asg (v := U (0#64)) rfl rfl (z (nx (rt (then_ret (r1 rfl rfl ?_))))))))
    have e0 : (0#64 : BitVec 64) = bitB i := by exact bitB_hi h_i p0
    have ev_ := cg1 (fun (x_0 : BitVec 64) => (U x_0 : Value)) e0
    exact ⟨ev_, H.below⟩
  ·
    have p0 := of_decide_eq_false b0
    refine sk (nx (sq (rg (k (mv rfl i0 (k (cvU rfl rfl un3 un81 (k (shlU (1#64) ((BitVec.ofInt 64 i).toNat : Int) (by omega) rfl rfl rfl rfl (k (asg (v := U ((1#64) <<< ((BitVec.ofInt 64 i).toNat : Int).toNat)) rfl rfl (z (nx (rt (r1 rfl rfl ?_)))))))))))))))
    have e0 : ((1#64) <<< ((BitVec.ofInt 64 i).toNat : Int).toNat : BitVec 64) = bitB i := by exact bitB_lo h_i p0
    have ev_ := cg1 (fun (x_0 : BitVec 64) => (U x_0 : Value)) e0
    exact ⟨ev_, H.below⟩
/- eyewitness/word.Has -/
set_option maxRecDepth 100000 in
set_option maxHeartbeats 1600000 in
theorem word_Has {w : World} {x : BitVec 64} {i : Int} (h_i : I64 i) : Calls Tryd.prog 105 #[U x, .int .i64 i] w (Ret fun v w' =>  v = .bool (hasW x i) ∧ Ext w w') := by
  refine enter 10 Tryd.func105 rfl rfl rfl fun f0 ha => ?_
  have H := HI.start (M0 := (fun _ => False)) (w := w) (fun _ h => h.elim)
  have i0 : f0 0 = U x := ha 0 (by simp)
  have i1 : f0 1 = .int .i64 i := ha 1 (by simp)
  refine sq (rg (k (asg (v := .bool false) rfl rfl (z (nx (sq (rg (k (mv rfl i0 (k (mv rfl i1 (k ?_))))))))))))
  have cc0 := word_Bit (i := i) (w := w) (by unfold I64 at *; omega)
  refine ca go65 rfl (ec rfl e0) cc0 ?_
  rintro _ w0 ⟨rfl, xt0⟩
  have H0 := H.ext xt0
  refine k (andU x (bitB i) rfl rfl rfl rfl (k (neU (x &&& (bitB i)) (0#64) rfl rfl rfl rfl (k (asg (v := .bool (!decide ((x &&& (bitB i)) = (0#64)))) rfl rfl (z (nx (rt (r1 rfl rfl ?_)))))))))
  have e0 : (!decide ((x &&& (bitB i)) = (0#64)) : Bool) = hasW x i := by exact hasW_eq _ _
  have ev_ := cg1 (fun (x_0 : Bool) => (.bool x_0 : Value)) e0
  exact ⟨ev_, H0.below⟩
/- math/bits.TrailingZeros64 -/
set_option maxRecDepth 100000 in
set_option maxHeartbeats 1600000 in
theorem zeros64 {w : World} {x : BitVec 64} (hT : TabAt 0 w) : Calls Tryd.prog 117 #[U x] w (Ret fun v w' =>  v = .int .i64 ((firstW x : Nat) : Int) ∧ Ext w w') := by
  refine enter 14 Tryd.func117 rfl rfl rfl fun f0 ha => ?_
  have H := HI.start (M0 := (fun _ => False)) (w := w) (fun _ h => h.elim)
  have i0 : f0 0 = U x := ha 0 (by simp)
  refine sq (rg (k (asg (v := .int .i64 0) rfl rfl (z (nx (sq (sq (rg (k (mv rfl i0 (k (eqU x (0#64) rfl rfl rfl rfl (z (nx ?_))))))))))))))
  refine cd (b := decide (x = (0#64))) rfl rfl (fun b0 => ?_) (fun b0 => ?_)
  ·
    have p0 := of_decide_eq_true b0
    refine sq (rg (k (asg (v := .int .i64 64) rfl rfl (z (nx (rt (then_ret (r1 rfl rfl ?_))))))))
    have e0 : (64 : Int) = ((firstW x : Nat) : Int) := by first | (have e_ := p0; subst e_; rw [firstW_zero]; rfl) | exact zeros_eq (by simpa using p0)
    have ev_ := cg1 (fun (x_0 : Int) => (.int .i64 x_0 : Value)) e0
    exact ⟨ev_, H.below⟩
  ·
    have p0 := of_decide_eq_false b0
    refine sk (nx (sq (rg (k (mv rfl i0 (k (mv rfl i0 (k (negU x rfl rfl (k (andU x (-x) rfl rfl rfl rfl (k (mulU (x &&& (-x)) (285870213051353865#64) rfl rfl rfl rfl (k (shrUn ((x &&& (-x)) * (285870213051353865#64)) 58 rfl rfl rfl rfl (k (iaAn (i := (((x &&& (-x)) * (285870213051353865#64)) >>> 58).toNat) rfl rfl rfl rfl (by exact zeros_lt (by simpa using p0)) un128 ty5 (k (ld8 (tabA (M := fun _ => False) hT H.below rfl (by exact zeros_lt (by simpa using p0))) ty5 rfl rfl (k (cvI rfl rfl (by unfold I64 at *; omega) un5 un3 (k (asg (v := .int .i64 ((tab8 (((x &&& (-x)) * (285870213051353865#64)) >>> 58).toNat).toNat : Int)) rfl rfl (z (nx (rt (r1 rfl rfl ?_)))))))))))))))))))))))))))
    have e0 : (((tab8 (((x &&& (-x)) * (285870213051353865#64)) >>> 58).toNat).toNat : Int) : Int) = ((firstW x : Nat) : Int) := by first | (have e_ := p0; subst e_; rw [firstW_zero]; rfl) | exact zeros_eq (by simpa using p0)
    have ev_ := cg1 (fun (x_0 : Int) => (.int .i64 x_0 : Value)) e0
    exact ⟨ev_, H.below⟩
/- eyewitness/word.First -/
set_option maxRecDepth 100000 in
set_option maxHeartbeats 1600000 in
theorem word_First {w : World} {x : BitVec 64} (hT : TabAt 0 w) : Calls Tryd.prog 104 #[U x] w (Ret fun v w' =>  v = .int .i64 ((firstW x : Nat) : Int) ∧ Ext w w') := by
  refine enter 5 Tryd.func104 rfl rfl rfl fun f0 ha => ?_
  have H := HI.start (M0 := (fun _ => False)) (w := w) (fun _ h => h.elim)
  have i0 : f0 0 = U x := ha 0 (by simp)
  refine sq (rg (k (asg (v := .int .i64 0) rfl rfl (z (nx (sq (rg (k (mv rfl i0 (k ?_))))))))))
  have cc0 := zeros64 (x := x) (w := w) (hT.ext H.below)
  refine ca go117 rfl (ec rfl e0) cc0 ?_
  rintro _ w0 ⟨rfl, xt0⟩
  have H0 := H.ext xt0
  refine k (asg (v := .int .i64 ((firstW x : Nat) : Int)) rfl rfl (z (nx (rt (r1 rfl rfl ?_)))))
  exact ⟨rfl, H0.below⟩
/- eyewitness/row.in -/
set_option maxRecDepth 100000 in
set_option maxHeartbeats 1600000 in
theorem row_in {M : Nat → Prop} {w : World} {a_r : Option Addr} {c_r : Nat} {r : List (BitVec 64)} {i : Int} (hM : ∀ b, M b → b < w.heap.size) (h_r : RV M w (.slice a_r r.length c_r) r) (h_i : I64 i) : Calls Tryd.prog 103 #[.slice a_r r.length c_r, .int .i64 i] w (Ret fun v w' =>  v = .bool (inR r i) ∧ Ext w w') := by
  refine enter 14 Tryd.func103 rfl rfl rfl fun f0 ha => ?_
  have H := HI.start (M0 := M) (w := w) hM
  have H0 := H.put (it := imm (.slice a_r r.length c_r) r) rfl (by rw [MS_nil]; exact h_r)
  have ln_r := rv_len h_r
  have i0 : f0 0 = .slice a_r r.length c_r := ha 0 (by simp)
  have i1 : f0 1 = .int .i64 i := ha 1 (by simp)
  refine sq (rg (k (asg (v := .bool false) rfl rfl (z (nx (sq (rg (k (mv rfl i1 (k (geq rfl rfl rfl rfl (k (mv (v := .bool (decide (0 ≤ i))) rfl rfl ?_)))))))))))))
  rcases Bool.eq_false_or_eq_true (decide (0 ≤ i)) with b0 | b0
  · -- decide (0 ≤ i) is True
    have p0 := of_decide_eq_true b0
    refine k (gy rfl rfl rfl b0 (mv rfl i1 (k (gy rfl rfl rfl b0 (shrI rfl rfl rfl rfl (k (gy rfl rfl rfl b0 (mv rfl i0 (k (gy rfl rfl rfl b0 (lnS rfl rfl un73 (k (gy rfl rfl rfl b0 (lss rfl rfl rfl rfl (k (pickT rfl rfl rfl rfl b0 rfl (k (asg (v := .bool (decide ((i / 64) < (r.length : Int)))) rfl rfl (z (nx (rt (r1 rfl rfl ?_))))))))))))))))))))))
    have e0 : (decide ((i / 64) < (r.length : Int)) : Bool) = inR r i := by exact inR_yes p0
    have ev_ := cg1 (fun (x_0 : Bool) => (.bool x_0 : Value)) e0
    exact ⟨ev_, H0.below⟩
  · -- decide (0 ≤ i) is False
    have p0 := of_decide_eq_false b0
    refine k (gn rfl rfl rfl b0 (k (gn rfl rfl rfl b0 (k (gn rfl rfl rfl b0 (k (gn rfl rfl rfl b0 (k (gn rfl rfl rfl b0 (k (pickF rfl rfl rfl rfl b0 rfl (k (asg (v := .bool false) rfl rfl (z (nx (rt (r1 rfl rfl ?_)))))))))))))))))
    have e0 : (false : Bool) = inR r i := by exact inR_no (by omega)
    have ev_ := cg1 (fun (x_0 : Bool) => (.bool x_0 : Value)) e0
    exact ⟨ev_, H0.below⟩
/- eyewitness/row.Has -/
set_option maxRecDepth 100000 in
set_option maxHeartbeats 1600000 in
theorem row_Has {M : Nat → Prop} {w : World} {a_r : Option Addr} {c_r : Nat} {r : List (BitVec 64)} {i : Int} (hM : ∀ b, M b → b < w.heap.size) (h_r : RV M w (.slice a_r r.length c_r) r) (h_i : I64 i) : Calls Tryd.prog 67 #[.slice a_r r.length c_r, .int .i64 i] w (Ret fun v w' =>  v = .bool (hasR r i) ∧ Ext w w') := by
  refine enter 18 Tryd.func67 rfl rfl rfl fun f0 ha => ?_
  have H := HI.start (M0 := M) (w := w) hM
  have H0 := H.put (it := imm (.slice a_r r.length c_r) r) rfl (by rw [MS_nil]; exact h_r)
  have ln_r := rv_len h_r
  have i0 : f0 0 = .slice a_r r.length c_r := ha 0 (by simp)
  have i1 : f0 1 = .int .i64 i := ha 1 (by simp)
  refine sq (rg (k (asg (v := .bool false) rfl rfl (z (nx (sq (rg (k (mv rfl i0 (k (mv rfl i1 (k ?_))))))))))))
  have cc0 := row_in (r := r) (i := i) (w := w) H0.mb (H0.rv 0 rfl) (by unfold I64 at *; omega)
  refine ca go103 rfl (ec rfl (ec rfl e0)) cc0 ?_
  rintro _ w0 ⟨rfl, xt0⟩
  have H1 := H0.ext xt0
  refine k (mv (v := .bool (inR r i)) rfl rfl ?_)
  rcases Bool.eq_false_or_eq_true (inR r i) with b0 | b0
  · -- inR r i is True
    refine k (gy rfl rfl rfl b0 (mv rfl i0 (k (gy rfl rfl rfl b0 (mv rfl i1 (k (gy rfl rfl rfl b0 (shrI rfl rfl rfl rfl (k (gy rfl rfl rfl b0 (ia (H1.rv 0 rfl) rfl rfl rfl rfl (by have hb := b0; unfold inR at hb; simp only [decide_eq_true_eq] at hb; omega) un73 ty77 ?_)))))))))))
    intro ad0 x0 hx0 hA0
    refine k (gy rfl rfl rfl b0 (ldU hA0.w ty77 rfl rfl (k (gy rfl rfl rfl b0 (mv rfl i1 (k (gy rfl rfl rfl b0 (and63 rfl rfl rfl rfl (k (gy rfl rfl rfl b0 ?_))))))))))
    have cc1 := word_Has (x := x0) (i := (i % 64)) (w := w0) (by unfold I64 at *; omega)
    refine ca go105 rfl (ec rfl (ec rfl e0)) cc1 ?_
    rintro _ w1 ⟨rfl, xt1⟩
    have H2 := H1.ext xt1
    refine k (pickT rfl rfl rfl rfl b0 rfl (k (asg (v := .bool (hasW x0 (i % 64))) rfl rfl (z (nx (rt (r1 rfl rfl ?_)))))))
    have e0 : (hasW x0 (i % 64) : Bool) = hasR r i := by exact hasR_in b0 hx0
    have ev_ := cg1 (fun (x_0 : Bool) => (.bool x_0 : Value)) e0
    exact ⟨ev_, H2.below⟩
  · -- inR r i is False
    refine k (gn rfl rfl rfl b0 (k (gn rfl rfl rfl b0 (k (gn rfl rfl rfl b0 (k (gn rfl rfl rfl b0 (k (gn rfl rfl rfl b0 (k (gn rfl rfl rfl b0 (k (gn rfl rfl rfl b0 (k (gn rfl rfl rfl b0 (k (pickF rfl rfl rfl rfl b0 rfl (k (asg (v := .bool false) rfl rfl (z (nx (rt (r1 rfl rfl ?_)))))))))))))))))))))))
    have e0 : (false : Bool) = hasR r i := by exact hasR_out b0
    have ev_ := cg1 (fun (x_0 : Bool) => (.bool x_0 : Value)) e0
    exact ⟨ev_, H1.below⟩
/- slices.Clone[[]uint64,uint64] -/
set_option maxRecDepth 100000 in
set_option maxHeartbeats 1600000 in
theorem clone_u64 {M : Nat → Prop} {w : World} {a_r : Option Addr} {c_r : Nat} {r : List (BitVec 64)} (hM : ∀ b, M b → b < w.heap.size) (h_r : RV M w (.slice a_r r.length c_r) r) (hl_r : r.length ≤ 1000000000) : Calls Tryd.prog 102 #[.slice a_r r.length c_r] w (Ret fun v w' => ∃ (a0 : Option Addr) (c0 : Nat), v = .slice a0 r.length c0 ∧ Ext w w' ∧ OwnsG M 77 w r (.slice a0 r.length c0) w') := by
  refine enter 8 Tryd.func102 rfl rfl rfl fun f0 ha => ?_
  have H := HI.start (M0 := M) (w := w) hM
  have H0 := H.put (it := imm (.slice a_r r.length c_r) r) rfl (by rw [MS_nil]; exact h_r)
  have ln_r := rv_len h_r
  have i0 : f0 0 = .slice a_r r.length c_r := ha 0 (by simp)
  refine sq (rg (k (asg (v := .slice none 0 0) rfl rfl (z (nx (sq (sq (rg (k (mv rfl i0 (k (eqN rfl rfl rfl rfl un73 (z (nx ?_))))))))))))))
  refine cd (b := a_r.isNone) rfl rfl (fun b0 => ?_) (fun b0 => ?_)
  ·
    refine sq (rg (k (asg (v := .slice none 0 0) rfl rfl (z (nx (rt (then_ret (r1 rfl rfl ?_))))))))
    have e0 : ([] : List (BitVec 64)) = r := by exact (rv_none h_r b0).symm
    have ev_ := cg1 (fun (x_0 : List (BitVec 64)) => (.slice none x_0.length 0 : Value)) e0
    exact ⟨none, 0, ev_, H0.below, (congrArg (fun (x_ : List (BitVec 64)) => OwnsG _ _ _ x_ (.slice none x_.length 0) _) e0).mp (ownsG_nil H0.below)⟩
  ·
    refine sk (nx (sq (rg (k (bs (xs := ([] : List (BitVec 64))) (cells := #[]) (e := 77) H0 rfl pb0 (fun _ => by kernel_rfl) rfl rfl (by unfold maxLen; omega) ?_)))))
    intro g0 w0 xt0 (H1 : HI M w w0 [own w.heap.size 77 (.slice (some ⟨g0, 0, none⟩) 0 0) ([] : List (BitVec 64)), imm (.slice a_r r.length c_r) r])
    refine k (mv rfl i0 (k (ap H1 0 rfl rfl rfl rfl rfl rfl (H1.rv 1 rfl).src un73 ty77 rfl (by first | omega | (simp; omega)) (by first | omega | (simp; omega)) ?_)))
    intro a0 c0 w1 (H2 : HI M w w1 [own w.heap.size 77 (.slice a0 r.length c0) r, imm (.slice a_r r.length c_r) r])
    refine k (asg (v := .slice a0 r.length c0) rfl rfl (z (nx (rt (r1 rfl rfl ?_)))))
    exact ⟨a0, c0, rfl, H2.below, (H2.ownsG_out 0 rfl)⟩
/- eyewitness/row.Set -/
set_option maxRecDepth 100000 in
set_option maxHeartbeats 1600000 in
theorem row_Set {M : Nat → Prop} {w : World} {a_r : Option Addr} {c_r : Nat} {r : List (BitVec 64)} {i : Int} (hM : ∀ b, M b → b < w.heap.size) (h_r : RV M w (.slice a_r r.length c_r) r) (h_i : I64 i) (hl_r : r.length ≤ 1000000000) : Calls Tryd.prog 63 #[.slice a_r r.length c_r, .int .i64 i] w (Ret fun v w' => ∃ (a0 : Option Addr) (c0 : Nat), v = .slice a0 (setR r i).length c0 ∧ Ext w w' ∧ OwnsG M 77 w (setR r i) (.slice a0 (setR r i).length c0) w') := by
  refine enter 22 Tryd.func63 rfl rfl rfl fun f0 ha => ?_
  have H := HI.start (M0 := M) (w := w) hM
  have H0 := H.put (it := imm (.slice a_r r.length c_r) r) rfl (by rw [MS_nil]; exact h_r)
  have ln_r := rv_len h_r
  have i0 : f0 0 = .slice a_r r.length c_r := ha 0 (by simp)
  have i1 : f0 1 = .int .i64 i := ha 1 (by simp)
  refine sq (rg (k (asg (v := .slice none 0 0) rfl rfl (z (nx (sq (rg (k (mv rfl i0 (k ?_))))))))))
  have cc0 := clone_u64 (r := r) (w := w) H0.mb (H0.rv 0 rfl) (by first | omega | (simp; omega))
  refine ca go102 rfl (ec rfl e0) cc0 ?_
  rintro _ w0 ⟨a0, c0, rfl, xt0, rv0⟩
  have H1 := H0.ownsG rv0
  refine k (asg (v := .slice a0 r.length c0) rfl rfl (z (nx (sq (sq (rg (k (mv rfl i0 (k (mv rfl i1 (k ?_)))))))))))
  have cc1 := row_in (r := r) (i := i) (w := w0) H1.mb (H1.rv 1 rfl) (by unfold I64 at *; omega)
  refine ca go103 rfl (ec rfl (ec rfl e0)) cc1 ?_
  rintro _ w1 ⟨rfl, xt1⟩
  have H2 := H1.ext xt1
  refine z (nx ?_)
  refine cd (b := inR r i) rfl rfl (fun b0 => ?_) (fun b0 => ?_)
  ·
    obtain ⟨x0, hx0⟩ : ∃ x, r[(i / 64).toNat]? = some x := ⟨_, List.getElem?_eq_getElem (by have hb := b0; unfold inR at hb; simp only [decide_eq_true_eq] at hb; omega)⟩
    refine dr 8 [fun (v : Value) (w' : World) => v = .slice a0 r.length c0, fun (v : Value) (w' : World) => v = .int .i64 i, fun (v : Value) (w' : World) => v = .int .i64 (i / 64), fun (v : Value) (w' : World) => ∃ (g0 : Nat), v = .pointer (some ⟨g0, (i / 64).toNat * 1, none⟩) ∧ (.slice a0 r.length c0 : Value).ownBlock = some g0 ∧ AtW (MS M [own w.heap.size 77 (.slice a0 r.length c0) r, imm (.slice a_r r.length c_r) r]) w' ⟨g0, (i / 64).toNat * 1, none⟩ x0, fun (v : Value) (w' : World) => v = U x0, fun (v : Value) (w' : World) => v = .int .i64 i, fun (v : Value) (w' : World) => v = .int .i64 (i % 64), fun (v : Value) (w' : World) => v = U (bitB (i % 64))] rfl (by kernel_rfl) ?_ ?_
    ·
      refine ⟨fun _ => ⟨fun f0 w3 hf0 xt3 hp0 => ?_, fun _ _ _ _ h => h⟩, ?_⟩
      ·
        have H4 := H2.ext xt3
        refine mv rfl (hf0 5 rfl) ?_
        exact ⟨_, rfl, Ext.refl _, rfl⟩
      refine ⟨fun _ => ⟨fun f1 w4 hf1 xt4 hp1 => ?_, fun _ _ _ _ h => h⟩, ?_⟩
      ·
        have H5 := H2.ext xt4
        refine mv rfl ((hf1 1 rfl).trans i1) ?_
        exact ⟨_, rfl, Ext.refl _, rfl⟩
      refine ⟨fun _ => ⟨fun f2 w5 hf2 xt5 hp2 => ?_, fun _ _ _ _ h => h⟩, ?_⟩
      ·
        have H6 := H2.ext xt5
        have s0 : f2 12 = .int .i64 i := hp2 1 rfl rfl
        refine shrI rfl rfl s0 rfl ?_
        exact ⟨_, rfl, Ext.refl _, rfl⟩
      refine ⟨fun _ => ⟨fun f3 w6 hf3 xt6 hp3 => ?_, by rintro _ _ _ x_ ⟨g0, e_, hv0, hA0⟩; exact ⟨g0, e_, hv0, hA0.ext x_⟩⟩, ?_⟩
      ·
        have H7 := H2.ext xt6
        have s1 : f3 11 = .slice a0 r.length c0 := hp3 0 rfl rfl
        have s2 : f3 13 = .int .i64 (i / 64) := hp3 2 rfl rfl
        refine iaO (H7.at_ 0 rfl) rfl rfl s1 s2 (by have hb := b0; unfold inR at hb; simp only [decide_eq_true_eq] at hb; omega) un73 ty77 ?_
        intro g1 x1 hv1 hx1 hA1
        obtain rfl : x0 = x1 := Option.some.inj (hx0.symm.trans hx1)
        exact ⟨_, rfl, Ext.refl _, ⟨g1, rfl, hv1, hA1⟩⟩
      refine ⟨fun _ => ⟨fun f4 w7 hf4 xt7 hp4 => ?_, fun _ _ _ _ h => h⟩, ?_⟩
      ·
        have H8 := H2.ext xt7
        obtain ⟨g2, s3, hv2, hA2⟩ : ∃ (g2 : Nat), f4 14 = .pointer (some ⟨g2, (i / 64).toNat * 1, none⟩) ∧ (.slice a0 r.length c0 : Value).ownBlock = some g2 ∧ AtW (MS M [own w.heap.size 77 (.slice a0 r.length c0) r, imm (.slice a_r r.length c_r) r]) w7 ⟨g2, (i / 64).toNat * 1, none⟩ x0 := hp4 3 rfl rfl
        refine ldU hA2 ty77 rfl s3 ?_
        exact ⟨_, rfl, Ext.refl _, rfl⟩
      refine ⟨fun _ => ⟨fun f5 w8 hf5 xt8 hp5 => ?_, fun _ _ _ _ h => h⟩, ?_⟩
      ·
        have H9 := H2.ext xt8
        refine mv rfl ((hf5 1 rfl).trans i1) ?_
        exact ⟨_, rfl, Ext.refl _, rfl⟩
      refine ⟨fun _ => ⟨fun f6 w9 hf6 xt9 hp6 => ?_, fun _ _ _ _ h => h⟩, ?_⟩
      ·
        have H10 := H2.ext xt9
        have s4 : f6 16 = .int .i64 i := hp6 5 rfl rfl
        refine and63 rfl rfl s4 rfl ?_
        exact ⟨_, rfl, Ext.refl _, rfl⟩
      refine ⟨fun _ => ⟨fun f7 w10 hf7 xt10 hp7 => ?_, fun _ _ _ _ h => h⟩, ?_⟩
      ·
        have H11 := H2.ext xt10
        have s5 : f7 17 = .int .i64 (i % 64) := hp7 6 rfl rfl
        have cc3 := word_Bit (i := (i % 64)) (w := w10) (by unfold I64 at *; omega)
        refine ca go65 rfl (ec s5 e0) cc3 ?_
        rintro _ w11 ⟨rfl, xt11⟩
        have H12 := H11.ext xt11
        exact ⟨_, rfl, xt11, rfl⟩
      exact DSteps.rest rfl _
    · intro f8 w12 hf8 xt12 hp8
      have H13 := H2.ext xt12
      have s6 : f8 5 = .slice a0 r.length c0 := hf8 5 rfl
      have s7 : f8 11 = .slice a0 r.length c0 := hp8 0 rfl
      have s8 : f8 13 = .int .i64 (i / 64) := hp8 2 rfl
      have s9 : f8 15 = U x0 := hp8 4 rfl
      have s10 : f8 18 = U (bitB (i % 64)) := hp8 7 rfl
      refine k (orU x0 (bitB (i % 64)) rfl rfl s9 s10 (k (iaO (H13.at_ 0 rfl) rfl rfl s7 s8 (by have hb := b0; unfold inR at hb; simp only [decide_eq_true_eq] at hb; omega) un73 ty77 ?_)))
      intro g3 x2 hv3 hx2 hA3
      refine k (stO H13 0 rfl hv3 rfl (by have hb := b0; unfold inR at hb; simp only [decide_eq_true_eq] at hb; omega) ty77 rfl rfl rfl rfl (RV.bv.2 rfl) ?_)
      intro w13 (H14 : HI M w w13 [own w.heap.size 77 (.slice a0 r.length c0) (r.set ((i / 64).toNat) (x0 ||| (bitB (i % 64)))), imm (.slice a_r r.length c_r) r])
      refine z (nx (sq (rg (k (mv rfl s6 (k (asg (v := .slice a0 r.length c0) rfl rfl (z (nx (rt (r1 rfl rfl ?_)))))))))))
      have e0 : (r.set ((i / 64).toNat) (x0 ||| (bitB (i % 64))) : List (BitVec 64)) = setR r i := by exact setR_in b0 hx0
      have l0 : r.length = (setR r i).length := by first | rfl | (rw [← e0]; simp) | simp
      have ev_ := cg1 (fun (n_0 : Nat) => (.slice a0 n_0 c0 : Value)) l0
      exact ⟨a0, c0, ev_, H14.below, (congrArg (fun (n_ : Nat) => OwnsG _ _ _ (setR r i) (.slice a0 n_ c0) _) l0).mp ((congrArg (fun (x_ : List (BitVec 64)) => OwnsG _ _ _ x_ (.slice a0 r.length c0) _) e0).mp (H14.ownsG_out 0 rfl))⟩
  ·
    refine sk (nx (sq (rg (k (mv (v := .slice a0 r.length c0) rfl rfl (k (asg (v := .slice a0 r.length c0) rfl rfl (z (nx (rt (r1 rfl rfl ?_)))))))))))
    have e0 : (r : List (BitVec 64)) = setR r i := by exact setR_out b0
    have ev_ := cg1 (fun (x_0 : List (BitVec 64)) => (.slice a0 x_0.length c0 : Value)) e0
    exact ⟨a0, c0, ev_, H2.below, (congrArg (fun (x_ : List (BitVec 64)) => OwnsG _ _ _ x_ (.slice a0 x_.length c0) _) e0).mp (H2.ownsG_out 0 rfl)⟩
/- eyewitness/row.Sub -/
set_option maxRecDepth 100000 in
set_option maxHeartbeats 1600000 in
theorem row_Sub {M : Nat → Prop} {w : World} {a_a : Option Addr} {c_a : Nat} {a : List (BitVec 64)} {a_b : Option Addr} {c_b : Nat} {b : List (BitVec 64)} (hM : ∀ b, M b → b < w.heap.size) (h_a : RV M w (.slice a_a a.length c_a) a) (h_b : RV M w (.slice a_b b.length c_b) b) : Calls Tryd.prog 71 #[.slice a_a a.length c_a, .slice a_b b.length c_b] w (Ret fun v w' =>  v = .bool (subR a b) ∧ Ext w w') := by
  refine enter 27 Tryd.func71 rfl rfl rfl fun f0 ha => ?_
  have H := HI.start (M0 := M) (w := w) hM
  have H0 := H.put (it := imm (.slice a_a a.length c_a) a) rfl (by rw [MS_nil]; exact h_a)
  have H1 := H0.put (it := imm (.slice a_b b.length c_b) b) rfl (by rw [MS_cons_none rfl, MS_nil]; exact h_b)
  have ln_a := rv_len h_a
  have ln_b := rv_len h_b
  have i0 : f0 0 = .slice a_a a.length c_a := ha 0 (by simp)
  have i1 : f0 1 = .slice a_b b.length c_b := ha 1 (by simp)
  refine sq (rg (k (asg (v := .bool false) rfl rfl (z (nx (sq (sq (rg (k (mv rfl i0 (k (lnS rfl rfl un73 (k (mv (v := .int .i64 0) rfl rfl (z (nx (bk ?_)))))))))))))))))
  refine lp (fun m f w' => ∃ (j : Nat), m = a.length - j ∧ f 1 = .slice a_b b.length c_b ∧ f 7 = .slice a_a a.length c_a ∧ f 8 = .int .i64 (a.length : Int) ∧ f 9 = .int .i64 (j : Int) ∧  HI M w w' [imm (.slice a_b b.length c_b) b, imm (.slice a_a a.length c_a) a] ∧ (j ≤ a.length) ∧ (subTo a b j = true)) _ ⟨0, rfl, i1, rfl, rfl, (ieq rfl (by first | rfl | omega | simp)), H1, (by first | assumption | omega | simp | (simp; omega)), (by rfl)⟩ ?_
  rintro _ f0 w0 ⟨j, rfl, s0, s1, s2, s3, H2, hk, hs⟩
  refine sq (rg (k (lss rfl rfl s3 s2 (z (nx (sq ?_))))))
  refine cd (b := decide ((j : Int) < (a.length : Int))) rfl rfl (fun b0 => ?_) (fun b0 => ?_)
  ·
    have p0 := of_decide_eq_true b0
    refine sk (nx (sq (bk (sq (rg (k (mv rfl s3 (k (ia (H2.rv 1 rfl) rfl rfl s1 s3 (by first | omega | (simp; omega)) un73 ty77 ?_)))))))))
    intro ad0 x0 hx0 hA0
    refine k (ldU hA0.w ty77 rfl rfl (k (asg (v := .int .i64 (j : Int)) rfl rfl (k (asg (v := U x0) rfl rfl (z (nx (sq (sq (rg (k (mv (v := .int .i64 (j : Int)) rfl rfl (k (mv rfl s0 (k (lnS rfl rfl un73 (k (lss rfl rfl rfl rfl (z (nx ?_))))))))))))))))))))
    refine cd (b := decide ((j : Int) < (b.length : Int))) rfl rfl (fun b1 => ?_) (fun b1 => ?_)
    ·
      have p1 := of_decide_eq_true b1
      refine rg (k (mv (v := U x0) rfl rfl (k (mv rfl s0 (k (mv (v := .int .i64 (j : Int)) rfl rfl (k (ia (H2.rv 0 rfl) rfl rfl rfl rfl (by first | omega | (simp; omega)) un73 ty77 ?_))))))))
      intro ad1 x1 hx1 hA1
      refine k (ldU hA1.w ty77 rfl rfl (k (andNotU x0 x1 rfl rfl rfl rfl (k (asg (v := U (x0 &&& ~~~x1)) rfl rfl (z (nx (sq (rg (k (mv (v := U (x0 &&& ~~~x1)) rfl rfl (k (neU (x0 &&& ~~~x1) (0#64) rfl rfl rfl rfl (z (nx ?_)))))))))))))))
      refine cd (b := !decide ((x0 &&& ~~~x1) = (0#64))) rfl rfl (fun b2 => ?_) (fun b2 => ?_)
      ·
        have p2 := of_decide_eq_false (nott b2)
        refine sq (rg (k (asg (v := .bool false) rfl rfl (z (nx (rt (inb_ret (then_ret (loop_ret (inb_ret (then_ret (r1 rfl rfl ?_))))))))))))
        have e0 : (false : Bool) = subR a b := by exact subR_no (k := j) (by omega) (by rw [subAt_in hx0 hx1]; first | simpa using p2 | simpa using p3)
        have ev_ := cg1 (fun (x_0 : Bool) => (.bool x_0 : Value)) e0
        exact ⟨ev_, H2.below⟩
      ·
        have p2 := of_decide_eq_true (notf b2)
        refine sk (inb_normal (nx (rg (k (add rfl rfl s3 rfl (by unfold I64 at *; omega) (k (mv (v := .int .i64 ((j : Int) + 1)) rfl rfl (z ?_))))))))
        refine loopN _ ?_ ⟨(j + 1), rfl, s0, s1, s2, (ieq rfl (by first | rfl | omega | (push_cast; omega))), H2, (by first | assumption | omega | simp | (simp; omega)), (by first | exact subTo_step hs (by rw [subAt_in hx0 hx1]; first | simpa using p2 | simpa using p3) | exact subTo_step hs (by rw [subAt_out hx0 (by omega)]; first | simpa using p3 | simpa using p2))⟩
        omega
    ·
      have p1 := of_decide_eq_false b1
      refine sk (nx (sq (rg (k (mv (v := U x0) rfl rfl (k (neU x0 (0#64) rfl rfl rfl rfl (z (nx ?_)))))))))
      refine cd (b := !decide (x0 = (0#64))) rfl rfl (fun b2 => ?_) (fun b2 => ?_)
      ·
        have p2 := of_decide_eq_false (nott b2)
        refine sq (rg (k (asg (v := .bool false) rfl rfl (z (nx (rt (inb_ret (then_ret (loop_ret (inb_ret (then_ret (r1 rfl rfl ?_))))))))))))
        have e0 : (false : Bool) = subR a b := by exact subR_no (k := j) (by omega) (by rw [subAt_out hx0 (by omega)]; first | simpa using p3 | simpa using p2)
        have ev_ := cg1 (fun (x_0 : Bool) => (.bool x_0 : Value)) e0
        exact ⟨ev_, H2.below⟩
      ·
        have p2 := of_decide_eq_true (notf b2)
        refine sk (inb_normal (nx (rg (k (add rfl rfl s3 rfl (by unfold I64 at *; omega) (k (mv (v := .int .i64 ((j : Int) + 1)) rfl rfl (z ?_))))))))
        refine loopN _ ?_ ⟨(j + 1), rfl, s0, s1, s2, (ieq rfl (by first | rfl | omega | (push_cast; omega))), H2, (by first | assumption | omega | simp | (simp; omega)), (by first | exact subTo_step hs (by rw [subAt_in hx0 hx1]; first | simpa using p2 | simpa using p3) | exact subTo_step hs (by rw [subAt_out hx0 (by omega)]; first | simpa using p3 | simpa using p2))⟩
        omega
  ·
    have p0 := of_decide_eq_false b0
    refine ex (then_exit (loop_exit (inb_here (nx (sq (rg (k (asg (v := .bool true) rfl rfl (z (nx (rt (r1 rfl rfl ?_))))))))))))
    have e0 : (true : Bool) = subR a b := by unfold subR; rw [show a.length = j from by omega]; exact hs.symm
    have ev_ := cg1 (fun (x_0 : Bool) => (.bool x_0 : Value)) e0
    exact ⟨ev_, H2.below⟩
/- eyewitness/row.Words -/
set_option maxRecDepth 100000 in
set_option maxHeartbeats 1600000 in
theorem row_Words {w : World} {n : Int} (h_n : I64 n) (hn : n ≤ 1000000000000000000) : Calls Tryd.prog 96 #[.int .i64 n] w (Ret fun v w' =>  v = .int .i64 ((words n : Nat) : Int) ∧ Ext w w') := by
  refine enter 8 Tryd.func96 rfl rfl rfl fun f0 ha => ?_
  have H := HI.start (M0 := (fun _ => False)) (w := w) (fun _ h => h.elim)
  have i0 : f0 0 = .int .i64 n := ha 0 (by simp)
  refine sq (rg (k (asg (v := .int .i64 0) rfl rfl (z (nx (sq (rg (k (mv rfl i0 (k (max2 rfl rfl rfl rfl (k (add rfl rfl rfl rfl (by unfold I64 at *; omega) (k (sub rfl rfl rfl rfl (by unfold I64 at *; omega) (k (quo rfl rfl rfl rfl (by first | omega | (simp; omega)) (k (asg (v := .int .i64 ((((max n 0) + 64) - 1) / 64)) rfl rfl (z (nx (rt (r1 rfl rfl ?_)))))))))))))))))))))))
  have e0 : ((((max n 0) + 64) - 1) / 64 : Int) = ((words n : Nat) : Int) := by unfold words; omega
  have ev_ := cg1 (fun (x_0 : Int) => (.int .i64 x_0 : Value)) e0
  exact ⟨ev_, H.below⟩
/- eyewitness/row.New -/
set_option maxRecDepth 100000 in
set_option maxHeartbeats 1600000 in
theorem row_New {M : Nat → Prop} {w : World} {n : Int} (hM : ∀ b, M b → b < w.heap.size) (h_n : I64 n) (hn : n ≤ 1000000) : Calls Tryd.prog 78 #[.int .i64 n] w (Ret fun v w' => ∃ (a0 : Option Addr) (c0 : Nat), v = .slice a0 (newR n).length c0 ∧ Ext w w' ∧ OwnsG M 77 w (newR n) (.slice a0 (newR n).length c0) w') := by
  refine enter 6 Tryd.func78 rfl rfl rfl fun f0 ha => ?_
  have H := HI.start (M0 := M) (w := w) hM
  have i0 : f0 0 = .int .i64 n := ha 0 (by simp)
  refine sq (rg (k (asg (v := .slice none 0 0) rfl rfl (z (nx (sq (rg (k (mv rfl i0 (k ?_))))))))))
  have cc0 := row_Words (n := n) (w := w) (by unfold I64 at *; omega) (by first | omega | (simp; omega))
  refine ca go96 rfl (ec rfl e0) cc0 ?_
  rintro _ w0 ⟨rfl, xt0⟩
  have H0 := H.ext xt0
  refine k (mk (m := (words n : Nat)) (zx := (0#64 : (BitVec 64))) H0 rfl rfl rfl rfl un73 ty77 (fun _ _ => rfl) (by unfold words; omega) (by unfold words; omega) ?_)
  intro g0 w1 xt1 (H1 : HI M w w1 [own w.heap.size 77 (.slice (some ⟨g0, 0, none⟩) (words n : Nat) (words n : Nat)) (List.replicate (words n : Nat) (0#64 : (BitVec 64)))])
  refine k (asg (v := .slice (some ⟨g0, 0, none⟩) (words n : Nat) (words n : Nat)) rfl rfl (z (nx (rt (r1 rfl rfl ?_)))))
  have e0 : ((List.replicate (words n : Nat) (0#64 : (BitVec 64))) : List (BitVec 64)) = newR n := by unfold newR; rfl
  have l0 : (words n : Nat) = (newR n).length := by first | rfl | (rw [← e0]; simp) | simp
  have ev_ := cg1 (fun (n_0 : Nat) => (.slice (some ⟨g0, 0, none⟩) n_0 (words n : Nat) : Value)) l0
  exact ⟨(some ⟨g0, 0, none⟩), (words n : Nat), ev_, H1.below, (congrArg (fun (n_ : Nat) => OwnsG _ _ _ (newR n) (.slice (some ⟨g0, 0, none⟩) n_ (words n : Nat)) _) l0).mp ((congrArg (fun (x_ : List (BitVec 64)) => OwnsG _ _ _ x_ (.slice (some ⟨g0, 0, none⟩) (words n : Nat) (words n : Nat)) _) e0).mp (H1.ownsG_out 0 rfl))⟩
/- eyewitness/row.List -/
set_option maxRecDepth 100000 in
set_option maxHeartbeats 1600000 in
theorem row_List {M : Nat → Prop} {w : World} {a_r : Option Addr} {c_r : Nat} {r : List (BitVec 64)} (hM : ∀ b, M b → b < w.heap.size) (hT : TabAt 0 w) (h_r : RV M w (.slice a_r r.length c_r) r) (hl_r : r.length ≤ 1000000000) : Calls Tryd.prog 64 #[.slice a_r r.length c_r] w (Ret fun v w' => ∃ (a0 : Option Addr) (c0 : Nat), v = .slice a0 (listR r).length c0 ∧ Ext w w' ∧ OwnsG M 3 w (listR r) (.slice a0 (listR r).length c0) w') := by
  refine enter 29 Tryd.func64 rfl rfl rfl fun f0 ha => ?_
  have H := HI.start (M0 := M) (w := w) hM
  have H0 := H.put (it := imm (.slice a_r r.length c_r) r) rfl (by rw [MS_nil]; exact h_r)
  have ln_r := rv_len h_r
  have i0 : f0 0 = .slice a_r r.length c_r := ha 0 (by simp)
  refine sq (rg (k (asg (v := .slice none 0 0) rfl rfl (z (nx (sq (rg (k (asg (v := .slice none 0 0) rfl rfl (z (nx (sq (sq (rg (k (mv rfl i0 (k (lnS rfl rfl un73 (k (mv (v := .int .i64 0) rfl rfl (z (nx (bk ?_)))))))))))))))))))))))
  have H1 := H0.nil_ Int 3
  refine lp (fun m f w' => ∃ (j : Nat) (xs : List Int) (a0 : Option Addr) (c0 : Nat), m = r.length - j ∧ f 3 = .slice a0 xs.length c0 ∧ f 6 = .slice a_r r.length c_r ∧ f 7 = .int .i64 (r.length : Int) ∧ f 8 = .int .i64 (j : Int) ∧  HI M w w' [own w.heap.size 3 (.slice a0 xs.length c0) xs, imm (.slice a_r r.length c_r) r] ∧ (j ≤ r.length) ∧ (xs = listTo r j)) _ ⟨0, ([] : List Int), none, 0, rfl, rfl, rfl, rfl, (ieq rfl (by first | rfl | omega | simp)), H1, (by first | assumption | omega | simp | (simp; omega)), (by rfl)⟩ ?_
  rintro _ f0 w0 ⟨j, xs, a0, c0, rfl, s0, s1, s2, s3, H2, hk, hs⟩
  refine sq (rg (k (lss rfl rfl s3 s2 (z (nx (sq ?_))))))
  refine cd (b := decide ((j : Int) < (r.length : Int))) rfl rfl (fun b0 => ?_) (fun b0 => ?_)
  ·
    have p0 := of_decide_eq_true b0
    refine sk (nx (sq (bk (sq (rg (k (mv rfl s3 (k (ia (H2.rv 1 rfl) rfl rfl s1 s3 (by first | omega | (simp; omega)) un73 ty77 ?_)))))))))
    intro ad0 x0 hx0 hA0
    refine k (ldU hA0.w ty77 rfl rfl (k (asg (v := .int .i64 (j : Int)) rfl rfl (k (asg (v := U x0) rfl rfl (z (nx (bk ?_))))))))
    refine lp (fun m f w' => ∃ (y : BitVec 64) (ys : List Int) (a1 : Option Addr) (c1 : Nat), m = (listW y).length ∧ f 3 = .slice a1 ys.length c1 ∧ f 4 = .int .i64 (j : Int) ∧ f 5 = U y ∧ f 6 = .slice a_r r.length c_r ∧ f 7 = .int .i64 (r.length : Int) ∧ f 8 = .int .i64 (j : Int) ∧  HI M w w' [own w.heap.size 3 (.slice a1 ys.length c1) ys, imm (.slice a_r r.length c_r) r] ∧ (ys ++ intsW j y = listTo r j ++ intsW j x0)) _ ⟨x0, xs, a0, c0, rfl, s0, rfl, (ueq rfl (by first | rfl | simp)), s1, s2, s3, H2, (by rw [hs])⟩ ?_
    rintro _ f1 w1 ⟨y, ys, a1, c1, rfl, s4, s5, s6, s7, s8, s9, H3, hy⟩
    refine sq (sq (rg (k (mv rfl s6 (k (neU y (0#64) rfl rfl rfl rfl (z (nx ?_))))))))
    refine cd (b := !decide (y = (0#64))) rfl rfl (fun b1 => ?_) (fun b1 => ?_)
    ·
      have p1 := of_decide_eq_false (nott b1)
      refine sk (nx (sq (bk (rg (k (mv rfl s4 (k (mv rfl s5 (k (mul rfl rfl rfl rfl (by have h_ := firstW_le y; unfold I64; omega) (k (mv rfl s6 (k ?_)))))))))))))
      have cc0 := word_First (x := y) (w := w1) (hT.ext H3.below)
      refine ca go104 rfl (ec rfl e0) cc0 ?_
      rintro _ w2 ⟨rfl, xt0⟩
      have H4 := H3.ext xt0
      refine k (add rfl rfl rfl rfl (by have h_ := firstW_le y; unfold I64; omega) (k (bs (xs := ([((j : Int) * 64) + ((firstW y : Nat) : Int)] : List Int)) (cells := #[.int .i64 (((j : Int) * 64) + ((firstW y : Nat) : Int))]) (e := 3) H4 rfl (pbc rfl pb0) (fun _ => by kernel_rfl) ⟨[.int .i64 (((j : Int) * 64) + ((firstW y : Nat) : Int))], [], rfl, ⟨rfl, (show I64 (((j : Int) * 64) + ((firstW y : Nat) : Int)) from (by have h_ := firstW_le y; unfold I64; omega))⟩, rfl⟩ rfl (by unfold maxLen; omega) ?_)))
      intro g0 w3 xt1 (H5 : HI M w w3 [own w.heap.size 3 (.slice (some ⟨g0, 0, none⟩) 1 1) ([((j : Int) * 64) + ((firstW y : Nat) : Int)] : List Int), own w.heap.size 3 (.slice a1 ys.length c1) ys, imm (.slice a_r r.length c_r) r])
      refine k (ap H5 1 rfl rfl rfl rfl rfl rfl (own_src (H5.at_ 0 rfl)) un42 ty3 rfl (by have h_ := congrArg List.length hy; simp only [List.length_append] at h_; have h1 := listTo_length r j; have h2 := intsW_length j x0; simp only [List.length_cons, List.length_nil]; omega) (by have h_ := congrArg List.length hy; simp only [List.length_append] at h_; have h1 := listTo_length r j; have h2 := intsW_length j x0; simp only [List.length_cons, List.length_nil]; omega) ?_)
      intro a2 c2 w4 (H6 : HI M w w4 [own w.heap.size 3 (.slice (some ⟨g0, 0, none⟩) 1 1) ([((j : Int) * 64) + ((firstW y : Nat) : Int)] : List Int), own w.heap.size 3 (.slice a2 (ys ++ ([((j : Int) * 64) + ((firstW y : Nat) : Int)] : List Int)).length c2) (ys ++ ([((j : Int) * 64) + ((firstW y : Nat) : Int)] : List Int)), imm (.slice a_r r.length c_r) r])
      refine k (asg (v := .slice a2 (ys ++ ([((j : Int) * 64) + ((firstW y : Nat) : Int)] : List Int)).length c2) rfl rfl (z (inb_normal (nx (rg (k (mv rfl s6 (k (mv rfl s6 (k (subU y (1#64) rfl rfl rfl rfl (k (andU y (y - (1#64)) rfl rfl rfl rfl (k (asg (v := U (y &&& (y - (1#64)))) rfl rfl (z ?_))))))))))))))))
      have H7 : HI M w w4 [own w.heap.size 3 (.slice a2 (ys ++ ([((j : Int) * 64) + ((firstW y : Nat) : Int)] : List Int)).length c2) (ys ++ ([((j : Int) * 64) + ((firstW y : Nat) : Int)] : List Int)), imm (.slice a_r r.length c_r) r] := H6.pickN [1, 2] (by decide) rfl
      refine loopN _ ?_ ⟨(y &&& (y - (1#64))), (ys ++ ([((j : Int) * 64) + ((firstW y : Nat) : Int)] : List Int)), a2, c2, rfl, rfl, s5, (ueq rfl (by rfl)), s7, s8, s9, H7, (by rw [List.append_assoc, ← hy, intsW_step (show y ≠ 0#64 by simpa using p1)]; rfl)⟩
      exact clear_less (by simpa using p1)
    ·
      have p1 := of_decide_eq_true (notf b1)
      refine ex (then_exit (loop_exit (inb_here (inb_normal (nx (rg (k (add rfl rfl s9 rfl (by have h_ := firstW_le y; unfold I64; omega) (k (mv (v := .int .i64 ((j : Int) + 1)) rfl rfl (z ?_)))))))))))
      refine loopN _ ?_ ⟨(j + 1), ys, a1, c1, rfl, s4, s7, s8, (ieq rfl (by first | rfl | omega | (push_cast; omega))), H3, (by first | assumption | omega | simp | (simp; omega)), (by rw [listTo_succ, getD_at hx0]; have e_ : y = 0#64 := (by simpa using p1); subst e_; rw [intsW_zero, List.append_nil] at hy; exact hy)⟩
      omega
  ·
    have p0 := of_decide_eq_false b0
    refine ex (then_exit (loop_exit (inb_here (nx (sq (rg (k (mv rfl s0 (k (asg (v := .slice a0 xs.length c0) rfl rfl (z (nx (rt (r1 rfl rfl ?_))))))))))))))
    have e0 : (xs : List Int) = listR r := by rw [hs]; unfold listR; congr 1; omega
    have ev_ := cg1 (fun (x_0 : List Int) => (.slice a0 x_0.length c0 : Value)) e0
    exact ⟨a0, c0, ev_, H2.below, (congrArg (fun (x_ : List Int) => OwnsG _ _ _ x_ (.slice a0 x_.length c0) _) e0).mp (H2.ownsG_out 0 rfl)⟩
/- eyewitness/eyewitnessref01.Bit -/
set_option maxRecDepth 100000 in
set_option maxHeartbeats 1600000 in
theorem ref01_Bit {w : World} {i : Int} (h_i : I64 i) : Calls Tryd.prog 107 #[.int .i64 i] w (Ret fun v w' =>  v = U (bitB i) ∧ Ext w w') := by
  refine enter 17 Tryd.func107 rfl rfl rfl fun f0 ha => ?_
  have H := HI.start (M0 := (fun _ => False)) (w := w) (fun _ h => h.elim)
  have i0 : f0 0 = .int .i64 i := ha 0 (by simp)
  refine sq (rg (k (asg (v := U (0#64)) rfl rfl (z (nx (sq (sq (rg (k (mv rfl i0 (k (lss rfl rfl rfl rfl (k (mv (v := .bool (decide (i < 0))) rfl rfl ?_))))))))))))))
  rcases Bool.eq_false_or_eq_true (decide (i < 0)) with b0 | b0
  · -- decide (i < 0) is True
    have p0 := of_decide_eq_true b0
    refine k (gn rfl rfl rfl b0 (k (gn rfl rfl rfl b0 (k (pickT rfl rfl rfl rfl b0 rfl (z (nx (cdT rfl rfl rfl (sq (rg (k (asg (v := U (0#64)) rfl rfl (z (nx (rt (then_ret (r1 rfl rfl ?_)))))))))))))))))
    have e0 : (0#64 : BitVec 64) = bitB i := by first | exact (bitB_out (by omega)).symm | (rw [bitB_pow (by omega) (by omega), show i.toNat = j from by omega])
    have ev_ := cg1 (fun (x_0 : BitVec 64) => (U x_0 : Value)) e0
    exact ⟨ev_, H.below⟩
  · -- decide (i < 0) is False
    have p0 := of_decide_eq_false b0
    refine k (gy rfl rfl rfl b0 (mv rfl i0 (k (gy rfl rfl rfl b0 (gtr rfl rfl rfl rfl (k (pickF rfl rfl rfl rfl b0 rfl (z (nx ?_)))))))))
    refine cd (b := decide (63 < i)) rfl rfl (fun b1 => ?_) (fun b1 => ?_)
    ·
      have p1 := of_decide_eq_true b1
      refine sq (rg (k (asg (v := U (0#64)) rfl rfl (z (nx (rt (then_ret (r1 rfl rfl ?_))))))))
      have e0 : (0#64 : BitVec 64) = bitB i := by first | exact (bitB_out (by omega)).symm | (rw [bitB_pow (by omega) (by omega), show i.toNat = j from by omega])
      have ev_ := cg1 (fun (x_0 : BitVec 64) => (U x_0 : Value)) e0
      exact ⟨ev_, H.below⟩
    ·
      have p1 := of_decide_eq_false b1
      refine sk (nx (sq (rg (k (asg (v := U (1#64)) rfl rfl (z (nx (sq (bk ?_)))))))))
      refine lp (fun m f w' => ∃ (j : Nat), m = i.toNat - j ∧ f 0 = .int .i64 (i - (j : Int)) ∧ f 3 = U (1#64 <<< j) ∧  HI (fun _ => False) w w' [] ∧ (j ≤ i.toNat)) _ ⟨0, rfl, (ieq i0 (by omega)), (ueq rfl (by first | rfl | simp)), H, (by first | assumption | omega | simp | (simp; omega))⟩ ?_
      rintro _ f0 w0 ⟨j, rfl, s0, s1, H0, hj⟩
      refine sq (sq (rg (k (mv rfl s0 (k (gtr rfl rfl rfl rfl (z (nx ?_))))))))
      refine cd (b := decide (0 < (i - (j : Int)))) rfl rfl (fun b2 => ?_) (fun b2 => ?_)
      ·
        have p2 := of_decide_eq_true b2
        refine sk (nx (sq (bk (rg (k (mv rfl s1 (k (mulU (1#64 <<< j) (2#64) rfl rfl rfl rfl (k (asg (v := U ((1#64 <<< j) * (2#64))) rfl rfl (z (inb_normal (nx (rg (k (mv rfl s0 (k (sub rfl rfl rfl rfl (by unfold I64 at *; omega) (k (asg (v := .int .i64 ((i - (j : Int)) - 1)) rfl rfl (z ?_)))))))))))))))))))))
        refine loopN _ ?_ ⟨(j + 1), rfl, (ieq rfl (by omega)), (ueq rfl (by exact shl_step j)), H0, (by first | assumption | omega | simp | (simp; omega))⟩
        omega
      ·
        have p2 := of_decide_eq_false b2
        refine ex (then_exit (loop_exit (inb_here (nx (sq (rg (k (mv rfl s1 (k (asg (v := U (1#64 <<< j)) rfl rfl (z (nx (rt (r1 rfl rfl ?_))))))))))))))
        have e0 : ((1#64 <<< j) : BitVec 64) = bitB i := by first | exact (bitB_out (by omega)).symm | (rw [bitB_pow (by omega) (by omega), show i.toNat = j from by omega])
        have ev_ := cg1 (fun (x_0 : BitVec 64) => (U x_0 : Value)) e0
        exact ⟨ev_, H0.below⟩
/- eyewitness/eyewitnessref01.Has -/
set_option maxRecDepth 100000 in
set_option maxHeartbeats 1600000 in
theorem ref01_Has {w : World} {x : BitVec 64} {i : Int} (h_i : I64 i) : Calls Tryd.prog 94 #[U x, .int .i64 i] w (Ret fun v w' =>  v = .bool (hasW x i) ∧ Ext w w') := by
  refine enter 17 Tryd.func94 rfl rfl rfl fun f0 ha => ?_
  have H := HI.start (M0 := (fun _ => False)) (w := w) (fun _ h => h.elim)
  have i0 : f0 0 = U x := ha 0 (by simp)
  have i1 : f0 1 = .int .i64 i := ha 1 (by simp)
  refine sq (rg (k (asg (v := .bool false) rfl rfl (z (nx (sq (rg (k (mv rfl i1 (k ?_))))))))))
  have cc0 := ref01_Bit (i := i) (w := w) (by unfold I64 at *; omega)
  refine ca go107 rfl (ec rfl e0) cc0 ?_
  rintro _ w0 ⟨rfl, xt0⟩
  have H0 := H.ext xt0
  refine k (asg (v := U (bitB i)) rfl rfl (z (nx (sq (rg (k (mv (v := U (bitB i)) rfl rfl (k (neU (bitB i) (0#64) rfl rfl rfl rfl (k (mv (v := .bool (!decide ((bitB i) = (0#64)))) rfl rfl ?_)))))))))))
  rcases Bool.eq_false_or_eq_true (!decide ((bitB i) = (0#64))) with b0 | b0
  · -- !decide ((bitB i) = (0#64)) is True
    have p0 := of_decide_eq_false (nott b0)
    refine k (gy rfl rfl rfl b0 (mv rfl i0 (k (gy rfl rfl rfl b0 (mv (v := U (bitB i)) rfl rfl (k (gy rfl rfl rfl b0 (quoU x (bitB i) (by first | decide | simpa using b0) rfl rfl rfl rfl (k (gy rfl rfl rfl b0 (remU (x / (bitB i)) (2#64) (by first | decide | simpa using b0) rfl rfl rfl rfl (k (gy rfl rfl rfl b0 (eqU ((x / (bitB i)) % (2#64)) (1#64) rfl rfl rfl rfl (k (pickT rfl rfl rfl rfl b0 rfl (k (asg (v := .bool (decide (((x / (bitB i)) % (2#64)) = (1#64)))) rfl rfl (z (nx (rt (r1 rfl rfl ?_))))))))))))))))))))))
    have e0 : (decide (((x / (bitB i)) % (2#64)) = (1#64)) : Bool) = hasW x i := by first | exact hasW_quo (by simpa using b0) | exact hasW_zero (by simpa using b0)
    have ev_ := cg1 (fun (x_0 : Bool) => (.bool x_0 : Value)) e0
    exact ⟨ev_, H0.below⟩
  · -- !decide ((bitB i) = (0#64)) is False
    have p0 := of_decide_eq_true (notf b0)
    refine k (gn rfl rfl rfl b0 (k (gn rfl rfl rfl b0 (k (gn rfl rfl rfl b0 (k (gn rfl rfl rfl b0 (k (gn rfl rfl rfl b0 (k (pickF rfl rfl rfl rfl b0 rfl (k (asg (v := .bool false) rfl rfl (z (nx (rt (r1 rfl rfl ?_)))))))))))))))))
    have e0 : (false : Bool) = hasW x i := by first | exact hasW_quo (by simpa using b0) | exact hasW_zero (by simpa using b0)
    have ev_ := cg1 (fun (x_0 : Bool) => (.bool x_0 : Value)) e0
    exact ⟨ev_, H0.below⟩
/- eyewitness/eyewitnessref02.Words -/
set_option maxRecDepth 100000 in
set_option maxHeartbeats 1600000 in
theorem ref02_Words {w : World} {n : Int} (h_n : I64 n) (hn : n ≤ 1000000000000000000) : Calls Tryd.prog 57 #[.int .i64 n] w (Ret fun v w' =>  v = .int .i64 ((words n : Nat) : Int) ∧ Ext w w') := by
  refine enter 8 Tryd.func57 rfl rfl rfl fun f0 ha => ?_
  have H := HI.start (M0 := (fun _ => False)) (w := w) (fun _ h => h.elim)
  have i0 : f0 0 = .int .i64 n := ha 0 (by simp)
  refine sq (rg (k (asg (v := .int .i64 0) rfl rfl (z (nx (sq (sq (rg (k (mv rfl i0 (k (lss rfl rfl rfl rfl (z (nx ?_))))))))))))))
  refine cd (b := decide (n < 0)) rfl rfl (fun b0 => ?_) (fun b0 => ?_)
  ·
    have p0 := of_decide_eq_true b0
    refine sq (rg (k (asg (v := .int .i64 0) rfl rfl (z (nx (rt (then_ret (r1 rfl rfl ?_))))))))
    have e0 : (0 : Int) = ((words n : Nat) : Int) := by first | exact (words_neg (by omega)).symm | exact (words_pos (by omega)).symm
    have ev_ := cg1 (fun (x_0 : Int) => (.int .i64 x_0 : Value)) e0
    exact ⟨ev_, H.below⟩
  ·
    have p0 := of_decide_eq_false b0
    refine sk (nx (sq (rg (k (mv rfl i0 (k (add rfl rfl rfl rfl (by unfold I64 at *; omega) (k (quo rfl rfl rfl rfl (by first | omega | (simp; omega)) (k (asg (v := .int .i64 ((n + 63) / 64)) rfl rfl (z (nx (rt (r1 rfl rfl ?_)))))))))))))))
    have e0 : ((n + 63) / 64 : Int) = ((words n : Nat) : Int) := by first | exact (words_neg (by omega)).symm | exact (words_pos (by omega)).symm
    have ev_ := cg1 (fun (x_0 : Int) => (.int .i64 x_0 : Value)) e0
    exact ⟨ev_, H.below⟩
/- eyewitness/eyewitnessref02.New -/
set_option maxRecDepth 100000 in
set_option maxHeartbeats 1600000 in
theorem ref02_New {M : Nat → Prop} {w : World} {n : Int} (hM : ∀ b, M b → b < w.heap.size) (h_n : I64 n) (hn : n ≤ 1000000) : Calls Tryd.prog 73 #[.int .i64 n] w (Ret fun v w' => ∃ (a0 : Option Addr) (c0 : Nat), v = .slice a0 (newR n).length c0 ∧ Ext w w' ∧ OwnsG M 77 w (newR n) (.slice a0 (newR n).length c0) w') := by
  refine enter 6 Tryd.func73 rfl rfl rfl fun f0 ha => ?_
  have H := HI.start (M0 := M) (w := w) hM
  have i0 : f0 0 = .int .i64 n := ha 0 (by simp)
  refine sq (rg (k (asg (v := .slice none 0 0) rfl rfl (z (nx (sq (rg (k (mv rfl i0 (k ?_))))))))))
  have cc0 := ref02_Words (n := n) (w := w) (by unfold I64 at *; omega) (by first | omega | (simp; omega))
  refine ca go57 rfl (ec rfl e0) cc0 ?_
  rintro _ w0 ⟨rfl, xt0⟩
  have H0 := H.ext xt0
  refine k (mk (m := (words n : Nat)) (zx := (0#64 : (BitVec 64))) H0 rfl rfl rfl rfl un73 ty77 (fun _ _ => rfl) (by unfold words; omega) (by unfold words; omega) ?_)
  intro g0 w1 xt1 (H1 : HI M w w1 [own w.heap.size 77 (.slice (some ⟨g0, 0, none⟩) (words n : Nat) (words n : Nat)) (List.replicate (words n : Nat) (0#64 : (BitVec 64)))])
  refine k (asg (v := .slice (some ⟨g0, 0, none⟩) (words n : Nat) (words n : Nat)) rfl rfl (z (nx (rt (r1 rfl rfl ?_)))))
  have e0 : ((List.replicate (words n : Nat) (0#64 : (BitVec 64))) : List (BitVec 64)) = newR n := by unfold newR; rfl
  have l0 : (words n : Nat) = (newR n).length := by first | rfl | (rw [← e0]; simp) | simp
  have ev_ := cg1 (fun (n_0 : Nat) => (.slice (some ⟨g0, 0, none⟩) n_0 (words n : Nat) : Value)) l0
  exact ⟨(some ⟨g0, 0, none⟩), (words n : Nat), ev_, H1.below, (congrArg (fun (n_ : Nat) => OwnsG _ _ _ (newR n) (.slice (some ⟨g0, 0, none⟩) n_ (words n : Nat)) _) l0).mp ((congrArg (fun (x_ : List (BitVec 64)) => OwnsG _ _ _ x_ (.slice (some ⟨g0, 0, none⟩) (words n : Nat) (words n : Nat)) _) e0).mp (H1.ownsG_out 0 rfl))⟩
/- eyewitness/eyewitnessref02.Has -/
set_option maxRecDepth 100000 in
set_option maxHeartbeats 1600000 in
theorem ref02_Has {M : Nat → Prop} {w : World} {a_r : Option Addr} {c_r : Nat} {r : List (BitVec 64)} {i : Int} (hM : ∀ b, M b → b < w.heap.size) (h_r : RV M w (.slice a_r r.length c_r) r) (h_i : I64 i) (hl_r : r.length ≤ 1000000000) : Calls Tryd.prog 58 #[.slice a_r r.length c_r, .int .i64 i] w (Ret fun v w' =>  v = .bool (hasR r i) ∧ Ext w w') := by
  refine enter 24 Tryd.func58 rfl rfl rfl fun f0 ha => ?_
  have H := HI.start (M0 := M) (w := w) hM
  have H0 := H.put (it := imm (.slice a_r r.length c_r) r) rfl (by rw [MS_nil]; exact h_r)
  have ln_r := rv_len h_r
  have i0 : f0 0 = .slice a_r r.length c_r := ha 0 (by simp)
  have i1 : f0 1 = .int .i64 i := ha 1 (by simp)
  refine sq (rg (k (asg (v := .bool false) rfl rfl (z (nx (sq (rg (k (mv rfl i1 (k (geq rfl rfl rfl rfl (k (mv (v := .bool (decide (0 ≤ i))) rfl rfl ?_)))))))))))))
  rcases Bool.eq_false_or_eq_true (decide (0 ≤ i)) with b0 | b0
  · -- decide (0 ≤ i) is True
    have p0 := of_decide_eq_true b0
    refine k (gy rfl rfl rfl b0 (mv rfl i1 (k (gy rfl rfl rfl b0 (mv rfl i0 (k (gy rfl rfl rfl b0 (lnS rfl rfl un73 (k (gy rfl rfl rfl b0 (mul rfl rfl rfl rfl (by unfold I64 at *; omega) (k (gy rfl rfl rfl b0 (lss rfl rfl rfl rfl (k (pickT rfl rfl rfl rfl b0 rfl (k (mv (v := .bool (decide (i < (64 * (r.length : Int))))) rfl rfl ?_))))))))))))))))))
    rcases Bool.eq_false_or_eq_true (decide (i < (64 * (r.length : Int)))) with b1 | b1
    · -- decide (i < (64 * (r.length : Int))) is True
      have p1 := of_decide_eq_true b1
      refine k (gy rfl rfl rfl b1 (mv rfl i0 (k (gy rfl rfl rfl b1 (mv rfl i1 (k (gy rfl rfl rfl b1 (quo rfl rfl rfl rfl (by first | omega | (simp; omega)) (k (gy rfl rfl rfl b1 (ia (H0.rv 0 rfl) rfl rfl rfl rfl (by first | omega | (simp; omega)) un73 ty77 ?_)))))))))))
      intro ad0 x0 hx0 hA0
      refine k (gy rfl rfl rfl b1 (ldU hA0.w ty77 rfl rfl (k (gy rfl rfl rfl b1 (mv rfl i1 (k (gy rfl rfl rfl b1 (rem rfl rfl rfl rfl (by first | omega | (simp; omega)) (k (gy rfl rfl rfl b1 ?_))))))))))
      have cc0 := ref01_Has (x := x0) (i := (i % 64)) (w := w) (by unfold I64 at *; omega)
      refine ca go94 rfl (ec rfl (ec rfl e0)) cc0 ?_
      rintro _ w0 ⟨rfl, xt0⟩
      have H1 := H0.ext xt0
      refine k (pickT rfl rfl rfl rfl b1 rfl (k (asg (v := .bool (hasW x0 (i % 64))) rfl rfl (z (nx (rt (r1 rfl rfl ?_)))))))
      have e0 : (hasW x0 (i % 64) : Bool) = hasR r i := by first | exact hasR_of (by omega) (by omega) hx0 | exact hasR_no (by omega)
      have ev_ := cg1 (fun (x_0 : Bool) => (.bool x_0 : Value)) e0
      exact ⟨ev_, H1.below⟩
    · -- decide (i < (64 * (r.length : Int))) is False
      have p1 := of_decide_eq_false b1
      refine k (gn rfl rfl rfl b1 (k (gn rfl rfl rfl b1 (k (gn rfl rfl rfl b1 (k (gn rfl rfl rfl b1 (k (gn rfl rfl rfl b1 (k (gn rfl rfl rfl b1 (k (gn rfl rfl rfl b1 (k (gn rfl rfl rfl b1 (k (pickF rfl rfl rfl rfl b1 rfl (k (asg (v := .bool false) rfl rfl (z (nx (rt (r1 rfl rfl ?_)))))))))))))))))))))))
      have e0 : (false : Bool) = hasR r i := by first | exact hasR_of (by omega) (by omega) hx0 | exact hasR_no (by omega)
      have ev_ := cg1 (fun (x_0 : Bool) => (.bool x_0 : Value)) e0
      exact ⟨ev_, H0.below⟩
  · -- decide (0 ≤ i) is False
    have p0 := of_decide_eq_false b0
    refine k (gn rfl rfl rfl b0 (k (gn rfl rfl rfl b0 (k (gn rfl rfl rfl b0 (k (gn rfl rfl rfl b0 (k (gn rfl rfl rfl b0 (k (pickF rfl rfl rfl rfl b0 rfl (k (mv (v := .bool false) rfl rfl (k (gn rfl rfl rfl rfl (k (gn rfl rfl rfl rfl (k (gn rfl rfl rfl rfl (k (gn rfl rfl rfl rfl (k (gn rfl rfl rfl rfl (k (gn rfl rfl rfl rfl (k (gn rfl rfl rfl rfl (k (gn rfl rfl rfl rfl (k (pickF rfl rfl rfl rfl rfl rfl (k (asg (v := .bool false) rfl rfl (z (nx (rt (r1 rfl rfl ?_)))))))))))))))))))))))))))))))))))))
    have e0 : (false : Bool) = hasR r i := by first | exact hasR_of (by omega) (by omega) hx0 | exact hasR_no (by omega)
    have ev_ := cg1 (fun (x_0 : Bool) => (.bool x_0 : Value)) e0
    exact ⟨ev_, H0.below⟩
/- eyewitness/eyewitnessref02.Set -/
set_option maxRecDepth 100000 in
set_option maxHeartbeats 1600000 in
theorem ref02_Set {M : Nat → Prop} {w : World} {a_r : Option Addr} {c_r : Nat} {r : List (BitVec 64)} {i : Int} (hM : ∀ b, M b → b < w.heap.size) (h_r : RV M w (.slice a_r r.length c_r) r) (h_i : I64 i) (hl_r : r.length ≤ 1000000000) : Calls Tryd.prog 75 #[.slice a_r r.length c_r, .int .i64 i] w (Ret fun v w' => ∃ (a0 : Option Addr) (c0 : Nat), v = .slice a0 (setR r i).length c0 ∧ Ext w w' ∧ OwnsG M 77 w (setR r i) (.slice a0 (setR r i).length c0) w') := by
  refine enter 38 Tryd.func75 rfl rfl rfl fun f0 ha => ?_
  have H := HI.start (M0 := M) (w := w) hM
  have H0 := H.put (it := imm (.slice a_r r.length c_r) r) rfl (by rw [MS_nil]; exact h_r)
  have ln_r := rv_len h_r
  have i0 : f0 0 = .slice a_r r.length c_r := ha 0 (by simp)
  have i1 : f0 1 = .int .i64 i := ha 1 (by simp)
  refine sq (rg (k (asg (v := .slice none 0 0) rfl rfl (z (nx (sq (rg (k (bs (xs := ([] : List (BitVec 64))) (cells := #[]) (e := 77) H0 rfl pb0 (fun _ => by kernel_rfl) rfl rfl (by unfold maxLen; omega) ?_)))))))))
  intro g0 w0 xt0 (H1 : HI M w w0 [own w.heap.size 77 (.slice (some ⟨g0, 0, none⟩) 0 0) ([] : List (BitVec 64)), imm (.slice a_r r.length c_r) r])
  refine k (mv rfl i0 (k (ap H1 0 rfl rfl rfl rfl rfl rfl (H1.rv 1 rfl).src un73 ty77 rfl (by simp; omega) (by simp; omega) ?_)))
  intro a0 c0 w1 (H2 : HI M w w1 [own w.heap.size 77 (.slice a0 r.length c0) r, imm (.slice a_r r.length c_r) r])
  refine k (asg (v := .slice a0 r.length c0) rfl rfl (z (nx (sq (sq (rg (k (mv rfl i1 (k (geq rfl rfl rfl rfl (k (mv (v := .bool (decide (0 ≤ i))) rfl rfl ?_))))))))))))
  rcases Bool.eq_false_or_eq_true (decide (0 ≤ i)) with b0 | b0
  · -- decide (0 ≤ i) is True
    have p0 := of_decide_eq_true b0
    refine k (gy rfl rfl rfl b0 (mv rfl i1 (k (gy rfl rfl rfl b0 (mv rfl i0 (k (gy rfl rfl rfl b0 (lnS rfl rfl un73 (k (gy rfl rfl rfl b0 (mul rfl rfl rfl rfl (by unfold I64 at *; omega) (k (gy rfl rfl rfl b0 (lss rfl rfl rfl rfl (k (pickT rfl rfl rfl rfl b0 rfl (k (mv (v := .bool (decide (i < (64 * (r.length : Int))))) rfl rfl ?_))))))))))))))))))
    rcases Bool.eq_false_or_eq_true (decide (i < (64 * (r.length : Int)))) with b1 | b1
    · -- decide (i < (64 * (r.length : Int))) is True
      have p1 := of_decide_eq_true b1
      refine k (gy rfl rfl rfl b1 (mv rfl i0 (k (gy rfl rfl rfl b1 (mv rfl i1 (k (gy rfl rfl rfl b1 ?_)))))))
      have cc0 := ref02_Has (r := r) (i := i) (w := w1) H2.mb (H2.rv 1 rfl) (by unfold I64 at *; omega) (by first | omega | (simp; omega))
      refine ca go58 rfl (ec rfl (ec rfl e0)) cc0 ?_
      rintro _ w2 ⟨rfl, xt1⟩
      have H3 := H2.ext xt1
      refine k (gy rfl rfl rfl b1 (not_ rfl rfl (k (pickT rfl rfl rfl rfl b1 rfl (z (nx ?_))))))
      refine cd (b := !(hasR r i)) rfl rfl (fun b2 => ?_) (fun b2 => ?_)
      ·
        obtain ⟨x0, hx0⟩ : ∃ x, r[(i / 64).toNat]? = some x := ⟨_, List.getElem?_eq_getElem (by first | omega | (simp; omega))⟩
        refine dr 12 [fun (v : Value) (w' : World) => v = .slice a0 r.length c0, fun (v : Value) (w' : World) => v = .int .i64 i, fun (v : Value) (w' : World) => v = .int .i64 (i / 64), fun (v : Value) (w' : World) => v = .slice a0 r.length c0, fun (v : Value) (w' : World) => v = .int .i64 i, fun (v : Value) (w' : World) => v = .int .i64 (i / 64), fun (v : Value) (w' : World) => ∃ (g1 : Nat), v = .pointer (some ⟨g1, (i / 64).toNat * 1, none⟩) ∧ (.slice a0 r.length c0 : Value).ownBlock = some g1 ∧ AtW (MS M [own w.heap.size 77 (.slice a0 r.length c0) r, imm (.slice a_r r.length c_r) r]) w' ⟨g1, (i / 64).toNat * 1, none⟩ x0, fun (v : Value) (w' : World) => v = U x0, fun (v : Value) (w' : World) => v = .int .i64 i, fun (v : Value) (w' : World) => v = .int .i64 (i % 64), fun (v : Value) (w' : World) => v = U (bitB (i % 64)), fun (v : Value) (w' : World) => v = U (x0 + (bitB (i % 64)))] rfl (by kernel_rfl) ?_ ?_
        ·
          refine ⟨fun _ => ⟨fun f0 w4 hf0 xt3 hp0 => ?_, fun _ _ _ _ h => h⟩, ?_⟩
          ·
            have H5 := H3.ext xt3
            refine mv rfl (hf0 5 rfl) ?_
            exact ⟨_, rfl, Ext.refl _, rfl⟩
          refine ⟨fun _ => ⟨fun f1 w5 hf1 xt4 hp1 => ?_, fun _ _ _ _ h => h⟩, ?_⟩
          ·
            have H6 := H3.ext xt4
            refine mv rfl ((hf1 1 rfl).trans i1) ?_
            exact ⟨_, rfl, Ext.refl _, rfl⟩
          refine ⟨fun _ => ⟨fun f2 w6 hf2 xt5 hp2 => ?_, fun _ _ _ _ h => h⟩, ?_⟩
          ·
            have H7 := H3.ext xt5
            have s0 : f2 25 = .int .i64 i := hp2 1 rfl rfl
            refine quo rfl rfl s0 rfl (by first | omega | (simp; omega)) ?_
            exact ⟨_, rfl, Ext.refl _, rfl⟩
          refine ⟨fun _ => ⟨fun f3 w7 hf3 xt6 hp3 => ?_, fun _ _ _ _ h => h⟩, ?_⟩
          ·
            have H8 := H3.ext xt6
            refine mv rfl (hf3 5 rfl) ?_
            exact ⟨_, rfl, Ext.refl _, rfl⟩
          refine ⟨fun _ => ⟨fun f4 w8 hf4 xt7 hp4 => ?_, fun _ _ _ _ h => h⟩, ?_⟩
          ·
            have H9 := H3.ext xt7
            refine mv rfl ((hf4 1 rfl).trans i1) ?_
            exact ⟨_, rfl, Ext.refl _, rfl⟩
          refine ⟨fun _ => ⟨fun f5 w9 hf5 xt8 hp5 => ?_, fun _ _ _ _ h => h⟩, ?_⟩
          ·
            have H10 := H3.ext xt8
            have s1 : f5 28 = .int .i64 i := hp5 4 rfl rfl
            refine quo rfl rfl s1 rfl (by first | omega | (simp; omega)) ?_
            exact ⟨_, rfl, Ext.refl _, rfl⟩
          refine ⟨fun _ => ⟨fun f6 w10 hf6 xt9 hp6 => ?_, by rintro _ _ _ x_ ⟨g1, e_, hv0, hA0⟩; exact ⟨g1, e_, hv0, hA0.ext x_⟩⟩, ?_⟩
          ·
            have H11 := H3.ext xt9
            have s2 : f6 27 = .slice a0 r.length c0 := hp6 3 rfl rfl
            have s3 : f6 29 = .int .i64 (i / 64) := hp6 5 rfl rfl
            refine iaO (H11.at_ 0 rfl) rfl rfl s2 s3 (by first | omega | (simp; omega)) un73 ty77 ?_
            intro g2 x1 hv1 hx1 hA1
            obtain rfl : x0 = x1 := Option.some.inj (hx0.symm.trans hx1)
            exact ⟨_, rfl, Ext.refl _, ⟨g2, rfl, hv1, hA1⟩⟩
          refine ⟨fun _ => ⟨fun f7 w11 hf7 xt10 hp7 => ?_, fun _ _ _ _ h => h⟩, ?_⟩
          ·
            have H12 := H3.ext xt10
            obtain ⟨g3, s4, hv2, hA2⟩ : ∃ (g3 : Nat), f7 30 = .pointer (some ⟨g3, (i / 64).toNat * 1, none⟩) ∧ (.slice a0 r.length c0 : Value).ownBlock = some g3 ∧ AtW (MS M [own w.heap.size 77 (.slice a0 r.length c0) r, imm (.slice a_r r.length c_r) r]) w11 ⟨g3, (i / 64).toNat * 1, none⟩ x0 := hp7 6 rfl rfl
            refine ldU hA2 ty77 rfl s4 ?_
            exact ⟨_, rfl, Ext.refl _, rfl⟩
          refine ⟨fun _ => ⟨fun f8 w12 hf8 xt11 hp8 => ?_, fun _ _ _ _ h => h⟩, ?_⟩
          ·
            have H13 := H3.ext xt11
            refine mv rfl ((hf8 1 rfl).trans i1) ?_
            exact ⟨_, rfl, Ext.refl _, rfl⟩
          refine ⟨fun _ => ⟨fun f9 w13 hf9 xt12 hp9 => ?_, fun _ _ _ _ h => h⟩, ?_⟩
          ·
            have H14 := H3.ext xt12
            have s5 : f9 32 = .int .i64 i := hp9 8 rfl rfl
            refine rem rfl rfl s5 rfl (by first | omega | (simp; omega)) ?_
            exact ⟨_, rfl, Ext.refl _, rfl⟩
          refine ⟨fun _ => ⟨fun f10 w14 hf10 xt13 hp10 => ?_, fun _ _ _ _ h => h⟩, ?_⟩
          ·
            have H15 := H3.ext xt13
            have s6 : f10 33 = .int .i64 (i % 64) := hp10 9 rfl rfl
            have cc2 := ref01_Bit (i := (i % 64)) (w := w14) (by unfold I64 at *; omega)
            refine ca go107 rfl (ec s6 e0) cc2 ?_
            rintro _ w15 ⟨rfl, xt14⟩
            have H16 := H15.ext xt14
            exact ⟨_, rfl, xt14, rfl⟩
          refine ⟨fun _ => ⟨fun f11 w16 hf11 xt15 hp11 => ?_, fun _ _ _ _ h => h⟩, ?_⟩
          ·
            have H17 := H3.ext xt15
            have s7 : f11 31 = U x0 := hp11 7 rfl rfl
            have s8 : f11 34 = U (bitB (i % 64)) := hp11 10 rfl rfl
            refine addU x0 (bitB (i % 64)) rfl rfl s7 s8 ?_
            exact ⟨_, rfl, Ext.refl _, rfl⟩
          exact DSteps.rest rfl _
        · intro f12 w17 hf12 xt16 hp12
          have H18 := H3.ext xt16
          have s9 : f12 5 = .slice a0 r.length c0 := hf12 5 rfl
          have s10 : f12 24 = .slice a0 r.length c0 := hp12 0 rfl
          have s11 : f12 26 = .int .i64 (i / 64) := hp12 2 rfl
          have s12 : f12 35 = U (x0 + (bitB (i % 64))) := hp12 11 rfl
          refine k (iaO (H18.at_ 0 rfl) rfl rfl s10 s11 (by first | omega | (simp; omega)) un73 ty77 ?_)
          intro g4 x2 hv3 hx2 hA3
          refine k (stO H18 0 rfl hv3 rfl (by first | omega | (simp; omega)) ty77 rfl rfl rfl s12 (RV.bv.2 rfl) ?_)
          intro w18 (H19 : HI M w w18 [own w.heap.size 77 (.slice a0 r.length c0) (r.set ((i / 64).toNat) (x0 + (bitB (i % 64)))), imm (.slice a_r r.length c_r) r])
          refine z (nx (sq (rg (k (mv rfl s9 (k (asg (v := .slice a0 r.length c0) rfl rfl (z (nx (rt (r1 rfl rfl ?_)))))))))))
          have e0 : (r.set ((i / 64).toNat) (x0 + (bitB (i % 64))) : List (BitVec 64)) = setR r i := by first | exact setR_add (by omega) (by omega) (by simpa using b2) hx0 | exact setR_no (by omega) | exact (setR_had (by simpa using b2)).symm
          have l0 : r.length = (setR r i).length := by first | rfl | (rw [← e0]; simp) | simp
          have ev_ := cg1 (fun (n_0 : Nat) => (.slice a0 n_0 c0 : Value)) l0
          exact ⟨a0, c0, ev_, H19.below, (congrArg (fun (n_ : Nat) => OwnsG _ _ _ (setR r i) (.slice a0 n_ c0) _) l0).mp ((congrArg (fun (x_ : List (BitVec 64)) => OwnsG _ _ _ x_ (.slice a0 r.length c0) _) e0).mp (H19.ownsG_out 0 rfl))⟩
      ·
        refine sk (nx (sq (rg (k (mv (v := .slice a0 r.length c0) rfl rfl (k (asg (v := .slice a0 r.length c0) rfl rfl (z (nx (rt (r1 rfl rfl ?_)))))))))))
        have e0 : (r : List (BitVec 64)) = setR r i := by first | exact setR_add (by omega) (by omega) (by simpa using b2) hx0 | exact setR_no (by omega) | exact (setR_had (by simpa using b2)).symm
        have ev_ := cg1 (fun (x_0 : List (BitVec 64)) => (.slice a0 x_0.length c0 : Value)) e0
        exact ⟨a0, c0, ev_, H3.below, (congrArg (fun (x_ : List (BitVec 64)) => OwnsG _ _ _ x_ (.slice a0 x_.length c0) _) e0).mp (H3.ownsG_out 0 rfl)⟩
    · -- decide (i < (64 * (r.length : Int))) is False
      have p1 := of_decide_eq_false b1
      refine k (gn rfl rfl rfl b1 (k (gn rfl rfl rfl b1 (k (gn rfl rfl rfl b1 (k (gn rfl rfl rfl b1 (k (pickF rfl rfl rfl rfl b1 rfl (z (nx (cdF rfl rfl rfl (sk (nx (sq (rg (k (mv (v := .slice a0 r.length c0) rfl rfl (k (asg (v := .slice a0 r.length c0) rfl rfl (z (nx (rt (r1 rfl rfl ?_))))))))))))))))))))))))
      have e0 : (r : List (BitVec 64)) = setR r i := by first | exact setR_add (by omega) (by omega) (by simpa using b2) hx0 | exact setR_no (by omega) | exact (setR_had (by simpa using b2)).symm
      have ev_ := cg1 (fun (x_0 : List (BitVec 64)) => (.slice a0 x_0.length c0 : Value)) e0
      exact ⟨a0, c0, ev_, H2.below, (congrArg (fun (x_ : List (BitVec 64)) => OwnsG _ _ _ x_ (.slice a0 x_.length c0) _) e0).mp (H2.ownsG_out 0 rfl)⟩
  · -- decide (0 ≤ i) is False
    have p0 := of_decide_eq_false b0
    refine k (gn rfl rfl rfl b0 (k (gn rfl rfl rfl b0 (k (gn rfl rfl rfl b0 (k (gn rfl rfl rfl b0 (k (gn rfl rfl rfl b0 (k (pickF rfl rfl rfl rfl b0 rfl (k (mv (v := .bool false) rfl rfl (k (gn rfl rfl rfl rfl (k (gn rfl rfl rfl rfl (k (gn rfl rfl rfl rfl (k (gn rfl rfl rfl rfl (k (pickF rfl rfl rfl rfl rfl rfl (z (nx (cdF rfl rfl rfl (sk (nx (sq (rg (k (mv (v := .slice a0 r.length c0) rfl rfl (k (asg (v := .slice a0 r.length c0) rfl rfl (z (nx (rt (r1 rfl rfl ?_))))))))))))))))))))))))))))))))))))))
    have e0 : (r : List (BitVec 64)) = setR r i := by first | exact setR_add (by omega) (by omega) (by simpa using b2) hx0 | exact setR_no (by omega) | exact (setR_had (by simpa using b2)).symm
    have ev_ := cg1 (fun (x_0 : List (BitVec 64)) => (.slice a0 x_0.length c0 : Value)) e0
    exact ⟨a0, c0, ev_, H2.below, (congrArg (fun (x_ : List (BitVec 64)) => OwnsG _ _ _ x_ (.slice a0 x_.length c0) _) e0).mp (H2.ownsG_out 0 rfl)⟩
/- eyewitness/eyewitnessref02.Same -/
set_option maxRecDepth 100000 in
set_option maxHeartbeats 1600000 in
theorem ref02_Same {M : Nat → Prop} {w : World} {a_a : Option Addr} {c_a : Nat} {a : List (BitVec 64)} {a_b : Option Addr} {c_b : Nat} {b : List (BitVec 64)} (hM : ∀ b, M b → b < w.heap.size) (h_a : RV M w (.slice a_a a.length c_a) a) (h_b : RV M w (.slice a_b b.length c_b) b) : Calls Tryd.prog 66 #[.slice a_a a.length c_a, .slice a_b b.length c_b] w (Ret fun v w' =>  v = .bool (decide (a = b)) ∧ Ext w w') := by
  refine enter 26 Tryd.func66 rfl rfl rfl fun f0 ha => ?_
  have H := HI.start (M0 := M) (w := w) hM
  have H0 := H.put (it := imm (.slice a_a a.length c_a) a) rfl (by rw [MS_nil]; exact h_a)
  have H1 := H0.put (it := imm (.slice a_b b.length c_b) b) rfl (by rw [MS_cons_none rfl, MS_nil]; exact h_b)
  have ln_a := rv_len h_a
  have ln_b := rv_len h_b
  have i0 : f0 0 = .slice a_a a.length c_a := ha 0 (by simp)
  have i1 : f0 1 = .slice a_b b.length c_b := ha 1 (by simp)
  refine sq (rg (k (asg (v := .bool false) rfl rfl (z (nx (sq (sq (rg (k (mv rfl i0 (k (lnS rfl rfl un73 (k (mv rfl i1 (k (lnS rfl rfl un73 (k (neq rfl rfl rfl rfl (z (nx ?_))))))))))))))))))))
  refine cd (b := !decide ((a.length : Int) = (b.length : Int))) rfl rfl (fun b0 => ?_) (fun b0 => ?_)
  ·
    have p0 := of_decide_eq_false (nott b0)
    refine sq (rg (k (asg (v := .bool false) rfl rfl (z (nx (rt (then_ret (r1 rfl rfl ?_))))))))
    have e0 : (false : Bool) = decide (a = b) := by symm; rw [decide_eq_false_iff_not]; intro e; subst e; exact p0 rfl
    have ev_ := cg1 (fun (x_0 : Bool) => (.bool x_0 : Value)) e0
    exact ⟨ev_, H1.below⟩
  ·
    have p0 := of_decide_eq_true (notf b0)
    refine sk (nx (sq (sq (rg (k (asg (v := .int .i64 0) rfl rfl (z (nx (bk ?_)))))))))
    refine lp (fun m f w' => ∃ (j : Nat), m = a.length - j ∧ f 0 = .slice a_a a.length c_a ∧ f 1 = .slice a_b b.length c_b ∧ f 5 = .int .i64 (j : Int) ∧  HI M w w' [imm (.slice a_b b.length c_b) b, imm (.slice a_a a.length c_a) a] ∧ (j ≤ a.length) ∧ (a.take j = b.take j)) _ ⟨0, rfl, i0, i1, (ieq rfl (by first | rfl | omega | simp)), H1, (by first | assumption | omega | simp | (simp; omega)), (by first | assumption | omega | simp | (simp; omega))⟩ ?_
    rintro _ f0 w0 ⟨j, rfl, s0, s1, s2, H2, hk, hs⟩
    refine sq (sq (rg (k (mv rfl s2 (k (mv rfl s0 (k (lnS rfl rfl un73 (k (lss rfl rfl rfl rfl (z (nx ?_))))))))))))
    refine cd (b := decide ((j : Int) < (a.length : Int))) rfl rfl (fun b1 => ?_) (fun b1 => ?_)
    ·
      have p1 := of_decide_eq_true b1
      refine sk (nx (sq (bk (sq ?_))))
      obtain ⟨x0, hx0⟩ : ∃ x, a[(j : Int).toNat]? = some x := ⟨_, List.getElem?_eq_getElem (by first | omega | (simp; omega))⟩
      obtain ⟨x1, hx1⟩ : ∃ x, b[(j : Int).toNat]? = some x := ⟨_, List.getElem?_eq_getElem (by first | omega | (simp; omega))⟩
      refine dr 8 [fun (v : Value) (w' : World) => v = .slice a_a a.length c_a, fun (v : Value) (w' : World) => v = .int .i64 (j : Int), fun (v : Value) (w' : World) => ∃ (ad0 : Addr), v = .pointer (some ad0) ∧ At (MS M [imm (.slice a_b b.length c_b) b, imm (.slice a_a a.length c_a) a]) w' ad0 x0, fun (v : Value) (w' : World) => v = U x0, fun (v : Value) (w' : World) => v = .slice a_b b.length c_b, fun (v : Value) (w' : World) => v = .int .i64 (j : Int), fun (v : Value) (w' : World) => ∃ (ad1 : Addr), v = .pointer (some ad1) ∧ At (MS M [imm (.slice a_b b.length c_b) b, imm (.slice a_a a.length c_a) a]) w' ad1 x1, fun (v : Value) (w' : World) => v = U x1] rfl (by kernel_rfl) ?_ ?_
      ·
        refine ⟨fun _ => ⟨fun f1 w1 hf0 xt0 hp0 => ?_, fun _ _ _ _ h => h⟩, ?_⟩
        ·
          have H3 := H2.ext xt0
          refine mv rfl ((hf0 0 rfl).trans s0) ?_
          exact ⟨_, rfl, Ext.refl _, rfl⟩
        refine ⟨fun _ => ⟨fun f2 w2 hf1 xt1 hp1 => ?_, fun _ _ _ _ h => h⟩, ?_⟩
        ·
          have H4 := H2.ext xt1
          refine mv rfl ((hf1 5 rfl).trans s2) ?_
          exact ⟨_, rfl, Ext.refl _, rfl⟩
        refine ⟨fun _ => ⟨fun f3 w3 hf2 xt2 hp2 => ?_, by rintro _ _ _ x_ ⟨ad0, e_, hA0⟩; exact ⟨ad0, e_, hA0.lift (Up.ext x_)⟩⟩, ?_⟩
        ·
          have H5 := H2.ext xt2
          have s3 : f3 17 = .slice a_a a.length c_a := hp2 0 rfl rfl
          have s4 : f3 18 = .int .i64 (j : Int) := hp2 1 rfl rfl
          refine ia (H5.rv 1 rfl) rfl rfl s3 s4 (by first | omega | (simp; omega)) un73 ty77 ?_
          intro ad2 x2 hx2 hA2
          obtain rfl : x0 = x2 := Option.some.inj (hx0.symm.trans hx2)
          exact ⟨_, rfl, Ext.refl _, ⟨ad2, rfl, hA2⟩⟩
        refine ⟨fun _ => ⟨fun f4 w4 hf3 xt3 hp3 => ?_, fun _ _ _ _ h => h⟩, ?_⟩
        ·
          have H6 := H2.ext xt3
          obtain ⟨ad3, s5, hA3⟩ : ∃ (ad3 : Addr), f4 19 = .pointer (some ad3) ∧ At (MS M [imm (.slice a_b b.length c_b) b, imm (.slice a_a a.length c_a) a]) w4 ad3 x0 := hp3 2 rfl rfl
          have H7 := H6.put (it := atI ad3 x0) rfl hA3
          refine ldU (H7.atv 0 rfl).w ty77 rfl s5 ?_
          exact ⟨_, rfl, Ext.refl _, rfl⟩
        refine ⟨fun _ => ⟨fun f5 w5 hf4 xt4 hp4 => ?_, fun _ _ _ _ h => h⟩, ?_⟩
        ·
          have H8 := H2.ext xt4
          refine mv rfl ((hf4 1 rfl).trans s1) ?_
          exact ⟨_, rfl, Ext.refl _, rfl⟩
        refine ⟨fun _ => ⟨fun f6 w6 hf5 xt5 hp5 => ?_, fun _ _ _ _ h => h⟩, ?_⟩
        ·
          have H9 := H2.ext xt5
          refine mv rfl ((hf5 5 rfl).trans s2) ?_
          exact ⟨_, rfl, Ext.refl _, rfl⟩
        refine ⟨fun _ => ⟨fun f7 w7 hf6 xt6 hp6 => ?_, by rintro _ _ _ x_ ⟨ad1, e_, hA1⟩; exact ⟨ad1, e_, hA1.lift (Up.ext x_)⟩⟩, ?_⟩
        ·
          have H10 := H2.ext xt6
          have s6 : f7 21 = .slice a_b b.length c_b := hp6 4 rfl rfl
          have s7 : f7 22 = .int .i64 (j : Int) := hp6 5 rfl rfl
          refine ia (H10.rv 0 rfl) rfl rfl s6 s7 (by first | omega | (simp; omega)) un73 ty77 ?_
          intro ad4 x3 hx3 hA4
          obtain rfl : x1 = x3 := Option.some.inj (hx1.symm.trans hx3)
          exact ⟨_, rfl, Ext.refl _, ⟨ad4, rfl, hA4⟩⟩
        refine ⟨fun _ => ⟨fun f8 w8 hf7 xt7 hp7 => ?_, fun _ _ _ _ h => h⟩, ?_⟩
        ·
          have H11 := H2.ext xt7
          obtain ⟨ad5, s8, hA5⟩ : ∃ (ad5 : Addr), f8 23 = .pointer (some ad5) ∧ At (MS M [imm (.slice a_b b.length c_b) b, imm (.slice a_a a.length c_a) a]) w8 ad5 x1 := hp7 6 rfl rfl
          have H12 := H11.put (it := atI ad5 x1) rfl hA5
          refine ldU (H12.atv 0 rfl).w ty77 rfl s8 ?_
          exact ⟨_, rfl, Ext.refl _, rfl⟩
        exact DSteps.rest rfl _
      · intro f9 w9 hf8 xt8 hp8
        have H13 := H2.ext xt8
        have s9 : f9 0 = .slice a_a a.length c_a := (hf8 0 rfl).trans s0
        have s10 : f9 1 = .slice a_b b.length c_b := (hf8 1 rfl).trans s1
        have s11 : f9 5 = .int .i64 (j : Int) := (hf8 5 rfl).trans s2
        have s12 : f9 20 = U x0 := hp8 3 rfl
        have s13 : f9 24 = U x1 := hp8 7 rfl
        refine k (neU x0 x1 rfl rfl s12 s13 (z (nx ?_)))
        refine cd (b := !decide (x0 = x1)) rfl rfl (fun b2 => ?_) (fun b2 => ?_)
        ·
          have p2 := of_decide_eq_false (nott b2)
          refine sq (rg (k (asg (v := .bool false) rfl rfl (z (nx (rt (inb_ret (then_ret (loop_ret (inb_ret (then_ret (r1 rfl rfl ?_))))))))))))
          have e0 : (false : Bool) = decide (a = b) := by symm; rw [decide_eq_false_iff_not]; exact ne_of_at hx0 hx1 p2
          have ev_ := cg1 (fun (x_0 : Bool) => (.bool x_0 : Value)) e0
          exact ⟨ev_, H13.below⟩
        ·
          have p2 := of_decide_eq_true (notf b2)
          refine sk (inb_normal (nx (rg (k (mv rfl s11 (k (add rfl rfl rfl rfl (by unfold I64 at *; omega) (k (asg (v := .int .i64 ((j : Int) + 1)) rfl rfl (z ?_))))))))))
          refine loopN _ ?_ ⟨(j + 1), rfl, s9, s10, (ieq rfl (by first | rfl | omega | (push_cast; omega))), H13, (by first | assumption | omega | simp | (simp; omega)), (by exact take_eq_step hs hx0 hx1 p2)⟩
          omega
    ·
      have p1 := of_decide_eq_false b1
      refine ex (then_exit (loop_exit (inb_here (nx (sq (rg (k (asg (v := .bool true) rfl rfl (z (nx (rt (r1 rfl rfl ?_))))))))))))
      have e0 : (true : Bool) = decide (a = b) := by symm; rw [decide_eq_true_eq]; exact eq_of_take (by omega) hs (by omega)
      have ev_ := cg1 (fun (x_0 : Bool) => (.bool x_0 : Value)) e0
      exact ⟨ev_, H2.below⟩
/- eyewitness/eyewitnessref02.List -/
set_option maxRecDepth 100000 in
set_option maxHeartbeats 1600000 in
theorem ref02_List {M : Nat → Prop} {w : World} {a_r : Option Addr} {c_r : Nat} {r : List (BitVec 64)} (hM : ∀ b, M b → b < w.heap.size) (h_r : RV M w (.slice a_r r.length c_r) r) (hl_r : r.length ≤ 1000000000) : Calls Tryd.prog 106 #[.slice a_r r.length c_r] w (Ret fun v w' => ∃ (a0 : Option Addr) (c0 : Nat), v = .slice a0 (listR r).length c0 ∧ Ext w w' ∧ OwnsG M 3 w (listR r) (.slice a0 (listR r).length c0) w') := by
  refine enter 20 Tryd.func106 rfl rfl rfl fun f0 ha => ?_
  have H := HI.start (M0 := M) (w := w) hM
  have H0 := H.put (it := imm (.slice a_r r.length c_r) r) rfl (by rw [MS_nil]; exact h_r)
  have ln_r := rv_len h_r
  have i0 : f0 0 = .slice a_r r.length c_r := ha 0 (by simp)
  refine sq (rg (k (asg (v := .slice none 0 0) rfl rfl (z (nx (sq (rg (k (asg (v := .slice none 0 0) rfl rfl (z (nx (sq (sq (rg (k (asg (v := .int .i64 0) rfl rfl (z (nx (bk ?_)))))))))))))))))))
  have H1 := H0.nil_ Int 3
  refine lp (fun m f w' => ∃ (n : Nat) (xs : List Int) (a0 : Option Addr) (c0 : Nat), m = 64 * r.length - n ∧ f 0 = .slice a_r r.length c_r ∧ f 3 = .slice a0 xs.length c0 ∧ f 4 = .int .i64 (n : Int) ∧  HI M w w' [own w.heap.size 3 (.slice a0 xs.length c0) xs, imm (.slice a_r r.length c_r) r] ∧ (n ≤ 64 * r.length) ∧ (xs = listN r n)) _ ⟨0, ([] : List Int), none, 0, rfl, i0, rfl, (ieq rfl (by first | rfl | omega | simp)), H1, (by first | assumption | omega | simp | (simp; omega)), (by rfl)⟩ ?_
  rintro _ f0 w0 ⟨n, xs, a0, c0, rfl, s0, s1, s2, H2, hk, hs⟩
  refine sq (sq (rg (k (mv rfl s2 (k (mv rfl s0 (k (lnS rfl rfl un73 (k (mul rfl rfl rfl rfl (by unfold I64 at *; omega) (k (lss rfl rfl rfl rfl (z (nx ?_))))))))))))))
  refine cd (b := decide ((n : Int) < (64 * (r.length : Int)))) rfl rfl (fun b0 => ?_) (fun b0 => ?_)
  ·
    have p0 := of_decide_eq_true b0
    refine sk (nx (sq (bk (sq (rg (k (mv rfl s0 (k (mv rfl s2 (k ?_))))))))))
    have cc0 := ref02_Has (r := r) (i := (n : Int)) (w := w0) H2.mb (H2.rv 1 rfl) (by unfold I64 at *; omega) (by first | omega | (simp; omega))
    refine ca go58 rfl (ec rfl (ec rfl e0)) cc0 ?_
    rintro _ w1 ⟨rfl, xt0⟩
    have H3 := H2.ext xt0
    refine z (nx ?_)
    refine cd (b := hasR r (n : Int)) rfl rfl (fun b1 => ?_) (fun b1 => ?_)
    ·
      refine rg (k (mv rfl s1 (k (mv rfl s2 (k (bs (xs := ([(n : Int)] : List Int)) (cells := #[.int .i64 (n : Int)]) (e := 3) H3 rfl (pbc rfl pb0) (fun _ => by kernel_rfl) ⟨[.int .i64 (n : Int)], [], rfl, ⟨rfl, (show I64 ((n : Int)) from (by unfold I64 at *; omega))⟩, rfl⟩ rfl (by unfold maxLen; omega) ?_))))))
      intro g0 w2 xt1 (H4 : HI M w w2 [own w.heap.size 3 (.slice (some ⟨g0, 0, none⟩) 1 1) ([(n : Int)] : List Int), own w.heap.size 3 (.slice a0 xs.length c0) xs, imm (.slice a_r r.length c_r) r])
      refine k (ap H4 1 rfl rfl rfl rfl rfl rfl (own_src (H4.at_ 0 rfl)) un42 ty3 rfl (by have h_ := listN_length r n; rw [hs]; simp only [List.length_cons, List.length_nil]; omega) (by have h_ := listN_length r n; rw [hs]; simp only [List.length_cons, List.length_nil]; omega) ?_)
      intro a1 c1 w3 (H5 : HI M w w3 [own w.heap.size 3 (.slice (some ⟨g0, 0, none⟩) 1 1) ([(n : Int)] : List Int), own w.heap.size 3 (.slice a1 (xs ++ ([(n : Int)] : List Int)).length c1) (xs ++ ([(n : Int)] : List Int)), imm (.slice a_r r.length c_r) r])
      refine k (asg (v := .slice a1 (xs ++ ([(n : Int)] : List Int)).length c1) rfl rfl (z (inb_normal (nx (rg (k (mv rfl s2 (k (add rfl rfl rfl rfl (by unfold I64 at *; omega) (k (asg (v := .int .i64 ((n : Int) + 1)) rfl rfl (z ?_))))))))))))
      have H6 : HI M w w3 [own w.heap.size 3 (.slice a1 (xs ++ ([(n : Int)] : List Int)).length c1) (xs ++ ([(n : Int)] : List Int)), imm (.slice a_r r.length c_r) r] := H5.pickN [1, 2] (by decide) rfl
      refine loopN _ ?_ ⟨(n + 1), (xs ++ ([(n : Int)] : List Int)), a1, c1, rfl, s0, rfl, (ieq rfl (by first | rfl | omega | (push_cast; omega))), H6, (by first | assumption | omega | simp | (simp; omega)), (by rw [hs]; first | exact (listN_succ_yes b1).symm | exact (listN_succ_no b1).symm)⟩
      omega
    ·
      refine sk (inb_normal (nx (rg (k (mv rfl s2 (k (add rfl rfl rfl rfl (by unfold I64 at *; omega) (k (asg (v := .int .i64 ((n : Int) + 1)) rfl rfl (z ?_))))))))))
      refine loopN _ ?_ ⟨(n + 1), xs, a0, c0, rfl, s0, s1, (ieq rfl (by first | rfl | omega | (push_cast; omega))), H3, (by first | assumption | omega | simp | (simp; omega)), (by rw [hs]; first | exact (listN_succ_yes b1).symm | exact (listN_succ_no b1).symm)⟩
      omega
  ·
    have p0 := of_decide_eq_false b0
    refine ex (then_exit (loop_exit (inb_here (nx (sq (rg (k (mv rfl s1 (k (asg (v := .slice a0 xs.length c0) rfl rfl (z (nx (rt (r1 rfl rfl ?_))))))))))))))
    have e0 : (xs : List Int) = listR r := by rw [hs, show n = 64 * r.length from by omega]; exact listN_all r
    have ev_ := cg1 (fun (x_0 : List Int) => (.slice a0 x_0.length c0 : Value)) e0
    exact ⟨a0, c0, ev_, H2.below, (congrArg (fun (x_ : List Int) => OwnsG _ _ _ x_ (.slice a0 x_.length c0) _) e0).mp (H2.ownsG_out 0 rfl)⟩
/- eyewitness/eyewitnessref02.Ints -/
set_option maxRecDepth 100000 in
set_option maxHeartbeats 1600000 in
theorem ref02_Ints {M : Nat → Prop} {w : World} {a_a : Option Addr} {c_a : Nat} {a : List Int} {a_b : Option Addr} {c_b : Nat} {b : List Int} (hM : ∀ b, M b → b < w.heap.size) (h_a : RV M w (.slice a_a a.length c_a) a) (h_b : RV M w (.slice a_b b.length c_b) b) : Calls Tryd.prog 42 #[.slice a_a a.length c_a, .slice a_b b.length c_b] w (Ret fun v w' =>  v = .bool (decide (a = b)) ∧ Ext w w') := by
  refine enter 26 Tryd.func42 rfl rfl rfl fun f0 ha => ?_
  have H := HI.start (M0 := M) (w := w) hM
  have H0 := H.put (it := imm (.slice a_a a.length c_a) a) rfl (by rw [MS_nil]; exact h_a)
  have H1 := H0.put (it := imm (.slice a_b b.length c_b) b) rfl (by rw [MS_cons_none rfl, MS_nil]; exact h_b)
  have ln_a := rv_len h_a
  have ln_b := rv_len h_b
  have i0 : f0 0 = .slice a_a a.length c_a := ha 0 (by simp)
  have i1 : f0 1 = .slice a_b b.length c_b := ha 1 (by simp)
  refine sq (rg (k (asg (v := .bool false) rfl rfl (z (nx (sq (sq (rg (k (mv rfl i0 (k (lnS rfl rfl un42 (k (mv rfl i1 (k (lnS rfl rfl un42 (k (neq rfl rfl rfl rfl (z (nx ?_))))))))))))))))))))
  refine cd (b := !decide ((a.length : Int) = (b.length : Int))) rfl rfl (fun b0 => ?_) (fun b0 => ?_)
  ·
    have p0 := of_decide_eq_false (nott b0)
    refine sq (rg (k (asg (v := .bool false) rfl rfl (z (nx (rt (then_ret (r1 rfl rfl ?_))))))))
    have e0 : (false : Bool) = decide (a = b) := by symm; rw [decide_eq_false_iff_not]; intro e; subst e; exact p0 rfl
    have ev_ := cg1 (fun (x_0 : Bool) => (.bool x_0 : Value)) e0
    exact ⟨ev_, H1.below⟩
  ·
    have p0 := of_decide_eq_true (notf b0)
    refine sk (nx (sq (sq (rg (k (asg (v := .int .i64 0) rfl rfl (z (nx (bk ?_)))))))))
    refine lp (fun m f w' => ∃ (j : Nat), m = a.length - j ∧ f 0 = .slice a_a a.length c_a ∧ f 1 = .slice a_b b.length c_b ∧ f 5 = .int .i64 (j : Int) ∧  HI M w w' [imm (.slice a_b b.length c_b) b, imm (.slice a_a a.length c_a) a] ∧ (j ≤ a.length) ∧ (a.take j = b.take j)) _ ⟨0, rfl, i0, i1, (ieq rfl (by first | rfl | omega | simp)), H1, (by first | assumption | omega | simp | (simp; omega)), (by first | assumption | omega | simp | (simp; omega))⟩ ?_
    rintro _ f0 w0 ⟨j, rfl, s0, s1, s2, H2, hk, hs⟩
    refine sq (sq (rg (k (mv rfl s2 (k (mv rfl s0 (k (lnS rfl rfl un42 (k (lss rfl rfl rfl rfl (z (nx ?_))))))))))))
    refine cd (b := decide ((j : Int) < (a.length : Int))) rfl rfl (fun b1 => ?_) (fun b1 => ?_)
    ·
      have p1 := of_decide_eq_true b1
      refine sk (nx (sq (bk (sq ?_))))
      obtain ⟨x0, hx0⟩ : ∃ x, a[(j : Int).toNat]? = some x := ⟨_, List.getElem?_eq_getElem (by first | omega | (simp; omega))⟩
      obtain ⟨x1, hx1⟩ : ∃ x, b[(j : Int).toNat]? = some x := ⟨_, List.getElem?_eq_getElem (by first | omega | (simp; omega))⟩
      refine dr 8 [fun (v : Value) (w' : World) => v = .slice a_a a.length c_a, fun (v : Value) (w' : World) => v = .int .i64 (j : Int), fun (v : Value) (w' : World) => ∃ (ad0 : Addr), v = .pointer (some ad0) ∧ At (MS M [imm (.slice a_b b.length c_b) b, imm (.slice a_a a.length c_a) a]) w' ad0 x0, fun (v : Value) (w' : World) => v = .int .i64 x0 ∧ I64 (x0), fun (v : Value) (w' : World) => v = .slice a_b b.length c_b, fun (v : Value) (w' : World) => v = .int .i64 (j : Int), fun (v : Value) (w' : World) => ∃ (ad1 : Addr), v = .pointer (some ad1) ∧ At (MS M [imm (.slice a_b b.length c_b) b, imm (.slice a_a a.length c_a) a]) w' ad1 x1, fun (v : Value) (w' : World) => v = .int .i64 x1 ∧ I64 (x1)] rfl (by kernel_rfl) ?_ ?_
      ·
        refine ⟨fun _ => ⟨fun f1 w1 hf0 xt0 hp0 => ?_, fun _ _ _ _ h => h⟩, ?_⟩
        ·
          have H3 := H2.ext xt0
          refine mv rfl ((hf0 0 rfl).trans s0) ?_
          exact ⟨_, rfl, Ext.refl _, rfl⟩
        refine ⟨fun _ => ⟨fun f2 w2 hf1 xt1 hp1 => ?_, fun _ _ _ _ h => h⟩, ?_⟩
        ·
          have H4 := H2.ext xt1
          refine mv rfl ((hf1 5 rfl).trans s2) ?_
          exact ⟨_, rfl, Ext.refl _, rfl⟩
        refine ⟨fun _ => ⟨fun f3 w3 hf2 xt2 hp2 => ?_, by rintro _ _ _ x_ ⟨ad0, e_, hA0⟩; exact ⟨ad0, e_, hA0.lift (Up.ext x_)⟩⟩, ?_⟩
        ·
          have H5 := H2.ext xt2
          have s3 : f3 17 = .slice a_a a.length c_a := hp2 0 rfl rfl
          have s4 : f3 18 = .int .i64 (j : Int) := hp2 1 rfl rfl
          refine ia (H5.rv 1 rfl) rfl rfl s3 s4 (by first | omega | (simp; omega)) un42 ty3 ?_
          intro ad2 x2 hx2 hA2
          obtain rfl : x0 = x2 := Option.some.inj (hx0.symm.trans hx2)
          exact ⟨_, rfl, Ext.refl _, ⟨ad2, rfl, hA2⟩⟩
        refine ⟨fun _ => ⟨fun f4 w4 hf3 xt3 hp3 => ?_, fun _ _ _ _ h => h⟩, ?_⟩
        ·
          have H6 := H2.ext xt3
          obtain ⟨ad3, s5, hA3⟩ : ∃ (ad3 : Addr), f4 19 = .pointer (some ad3) ∧ At (MS M [imm (.slice a_b b.length c_b) b, imm (.slice a_a a.length c_a) a]) w4 ad3 x0 := hp3 2 rfl rfl
          have H7 := H6.put (it := atI ad3 x0) rfl hA3
          refine ldI (H7.atv 0 rfl).w ty3 rfl s5 ?_
          intro rv2
          exact ⟨_, rfl, Ext.refl _, ⟨rfl, rv2⟩⟩
        refine ⟨fun _ => ⟨fun f5 w5 hf4 xt4 hp4 => ?_, fun _ _ _ _ h => h⟩, ?_⟩
        ·
          have H8 := H2.ext xt4
          refine mv rfl ((hf4 1 rfl).trans s1) ?_
          exact ⟨_, rfl, Ext.refl _, rfl⟩
        refine ⟨fun _ => ⟨fun f6 w6 hf5 xt5 hp5 => ?_, fun _ _ _ _ h => h⟩, ?_⟩
        ·
          have H9 := H2.ext xt5
          refine mv rfl ((hf5 5 rfl).trans s2) ?_
          exact ⟨_, rfl, Ext.refl _, rfl⟩
        refine ⟨fun _ => ⟨fun f7 w7 hf6 xt6 hp6 => ?_, by rintro _ _ _ x_ ⟨ad1, e_, hA1⟩; exact ⟨ad1, e_, hA1.lift (Up.ext x_)⟩⟩, ?_⟩
        ·
          have H10 := H2.ext xt6
          have s6 : f7 21 = .slice a_b b.length c_b := hp6 4 rfl rfl
          have s7 : f7 22 = .int .i64 (j : Int) := hp6 5 rfl rfl
          refine ia (H10.rv 0 rfl) rfl rfl s6 s7 (by first | omega | (simp; omega)) un42 ty3 ?_
          intro ad4 x3 hx3 hA4
          obtain rfl : x1 = x3 := Option.some.inj (hx1.symm.trans hx3)
          exact ⟨_, rfl, Ext.refl _, ⟨ad4, rfl, hA4⟩⟩
        refine ⟨fun _ => ⟨fun f8 w8 hf7 xt7 hp7 => ?_, fun _ _ _ _ h => h⟩, ?_⟩
        ·
          have H11 := H2.ext xt7
          obtain ⟨ad5, s8, hA5⟩ : ∃ (ad5 : Addr), f8 23 = .pointer (some ad5) ∧ At (MS M [imm (.slice a_b b.length c_b) b, imm (.slice a_a a.length c_a) a]) w8 ad5 x1 := hp7 6 rfl rfl
          have H12 := H11.put (it := atI ad5 x1) rfl hA5
          refine ldI (H12.atv 0 rfl).w ty3 rfl s8 ?_
          intro rv3
          exact ⟨_, rfl, Ext.refl _, ⟨rfl, rv3⟩⟩
        exact DSteps.rest rfl _
      · intro f9 w9 hf8 xt8 hp8
        have H13 := H2.ext xt8
        have s9 : f9 0 = .slice a_a a.length c_a := (hf8 0 rfl).trans s0
        have s10 : f9 1 = .slice a_b b.length c_b := (hf8 1 rfl).trans s1
        have s11 : f9 5 = .int .i64 (j : Int) := (hf8 5 rfl).trans s2
        obtain ⟨s12, rv4⟩ : f9 20 = .int .i64 x0 ∧ I64 (x0) := hp8 3 rfl
        obtain ⟨s13, rv5⟩ : f9 24 = .int .i64 x1 ∧ I64 (x1) := hp8 7 rfl
        refine k (neq rfl rfl s12 s13 (z (nx ?_)))
        refine cd (b := !decide (x0 = x1)) rfl rfl (fun b2 => ?_) (fun b2 => ?_)
        ·
          have p2 := of_decide_eq_false (nott b2)
          refine sq (rg (k (asg (v := .bool false) rfl rfl (z (nx (rt (inb_ret (then_ret (loop_ret (inb_ret (then_ret (r1 rfl rfl ?_))))))))))))
          have e0 : (false : Bool) = decide (a = b) := by symm; rw [decide_eq_false_iff_not]; exact ne_of_at hx0 hx1 p2
          have ev_ := cg1 (fun (x_0 : Bool) => (.bool x_0 : Value)) e0
          exact ⟨ev_, H13.below⟩
        ·
          have p2 := of_decide_eq_true (notf b2)
          refine sk (inb_normal (nx (rg (k (mv rfl s11 (k (add rfl rfl rfl rfl (by unfold I64 at *; omega) (k (asg (v := .int .i64 ((j : Int) + 1)) rfl rfl (z ?_))))))))))
          refine loopN _ ?_ ⟨(j + 1), rfl, s9, s10, (ieq rfl (by first | rfl | omega | (push_cast; omega))), H13, (by first | assumption | omega | simp | (simp; omega)), (by exact take_eq_step hs hx0 hx1 p2)⟩
          omega
    ·
      have p1 := of_decide_eq_false b1
      refine ex (then_exit (loop_exit (inb_here (nx (sq (rg (k (asg (v := .bool true) rfl rfl (z (nx (rt (r1 rfl rfl ?_))))))))))))
      have e0 : (true : Bool) = decide (a = b) := by symm; rw [decide_eq_true_eq]; exact eq_of_take (by omega) hs (by omega)
      have ev_ := cg1 (fun (x_0 : Bool) => (.bool x_0 : Value)) e0
      exact ⟨ev_, H2.below⟩
/- eyewitness/eyewitnessref02.Sub -/
set_option maxRecDepth 100000 in
set_option maxHeartbeats 1600000 in
theorem ref02_Sub {M : Nat → Prop} {w : World} {a_a : Option Addr} {c_a : Nat} {a : List (BitVec 64)} {a_b : Option Addr} {c_b : Nat} {b : List (BitVec 64)} (hM : ∀ b, M b → b < w.heap.size) (h_a : RV M w (.slice a_a a.length c_a) a) (h_b : RV M w (.slice a_b b.length c_b) b) (hl_a : a.length ≤ 1000000000) (hl_b : b.length ≤ 1000000000) : Calls Tryd.prog 72 #[.slice a_a a.length c_a, .slice a_b b.length c_b] w (Ret fun v w' =>  v = .bool (subR a b) ∧ Ext w w') := by
  refine enter 22 Tryd.func72 rfl rfl rfl fun f0 ha => ?_
  have H := HI.start (M0 := M) (w := w) hM
  have H0 := H.put (it := imm (.slice a_a a.length c_a) a) rfl (by rw [MS_nil]; exact h_a)
  have H1 := H0.put (it := imm (.slice a_b b.length c_b) b) rfl (by rw [MS_cons_none rfl, MS_nil]; exact h_b)
  have ln_a := rv_len h_a
  have ln_b := rv_len h_b
  have i0 : f0 0 = .slice a_a a.length c_a := ha 0 (by simp)
  have i1 : f0 1 = .slice a_b b.length c_b := ha 1 (by simp)
  refine sq (rg (k (asg (v := .bool false) rfl rfl (z (nx (sq (rg (k (mv rfl i0 (k ?_))))))))))
  have cc0 := ref02_List (r := a) (w := w) H1.mb (H1.rv 1 rfl) (by first | omega | (simp; omega))
  refine ca go106 rfl (ec rfl e0) cc0 ?_
  rintro _ w0 ⟨a0, c0, rfl, xt0, rv0⟩
  have H2 := H1.ownsG rv0
  refine k (asg (v := .slice a0 (listR a).length c0) rfl rfl (z (nx (sq (sq (rg (k (asg (v := .int .i64 0) rfl rfl (z (nx (bk ?_)))))))))))
  refine lp (fun m f w' => ∃ (j : Nat), m = (listR a).length - j ∧ f 1 = .slice a_b b.length c_b ∧ f 5 = .slice a0 (listR a).length c0 ∧ f 6 = .int .i64 (j : Int) ∧  HI M w w' [own w.heap.size 3 (.slice a0 (listR a).length c0) (listR a), imm (.slice a_b b.length c_b) b, imm (.slice a_a a.length c_a) a] ∧ (j ≤ (listR a).length) ∧ (((listR a).take j).all (hasR b) = true)) _ ⟨0, rfl, i1, rfl, (ieq rfl (by first | rfl | omega | simp)), H2, (by first | assumption | omega | simp | (simp; omega)), (by rfl)⟩ ?_
  rintro _ f0 w1 ⟨j, rfl, s0, s1, s2, H3, hk, hs⟩
  refine sq (sq (rg (k (mv rfl s2 (k (mv rfl s1 (k (lnS rfl rfl un42 (k (lss rfl rfl rfl rfl (z (nx ?_))))))))))))
  refine cd (b := decide ((j : Int) < ((listR a).length : Int))) rfl rfl (fun b0 => ?_) (fun b0 => ?_)
  ·
    have p0 := of_decide_eq_true b0
    refine sk (nx (sq (bk (sq (rg (k (mv rfl s0 (k (mv rfl s1 (k (mv rfl s2 (k (iaO (H3.at_ 0 rfl) rfl rfl rfl rfl (by first | omega | (simp; omega)) un42 ty3 ?_)))))))))))))
    intro g0 x0 hv0 hx0 hA0
    refine k (ldI hA0 ty3 rfl rfl ?_)
    intro rv1
    refine k ?_
    have cc1 := ref02_Has (r := b) (i := x0) (w := w1) H3.mb (H3.rv 1 rfl) (by first | assumption | (unfold I64 at *; omega)) (by first | omega | (simp; omega))
    refine ca go58 rfl (ec rfl (ec rfl e0)) cc1 ?_
    rintro _ w2 ⟨rfl, xt1⟩
    have H4 := H3.ext xt1
    refine k (not_ rfl rfl (z (nx ?_)))
    refine cd (b := !(hasR b x0)) rfl rfl (fun b1 => ?_) (fun b1 => ?_)
    ·
      refine sq (rg (k (asg (v := .bool false) rfl rfl (z (nx (rt (inb_ret (then_ret (loop_ret (inb_ret (then_ret (r1 rfl rfl ?_))))))))))))
      have e0 : (false : Bool) = subR a b := by rw [← sub_has]; first | exact (all_no hx0 (by simpa using b1)).symm | (rw [take_end (by omega)] at hs; exact hs.symm)
      have ev_ := cg1 (fun (x_0 : Bool) => (.bool x_0 : Value)) e0
      exact ⟨ev_, H4.below⟩
    ·
      refine sk (inb_normal (nx (rg (k (mv rfl s2 (k (add rfl rfl rfl rfl (by have h_ := listR_length a; unfold I64; omega) (k (asg (v := .int .i64 ((j : Int) + 1)) rfl rfl (z ?_))))))))))
      refine loopN _ ?_ ⟨(j + 1), rfl, s0, s1, (ieq rfl (by first | rfl | omega | (push_cast; omega))), H4, (by first | assumption | omega | simp | (simp; omega)), (by exact all_take hx0 hs (by simpa using b1))⟩
      omega
  ·
    have p0 := of_decide_eq_false b0
    refine ex (then_exit (loop_exit (inb_here (nx (sq (rg (k (asg (v := .bool true) rfl rfl (z (nx (rt (r1 rfl rfl ?_))))))))))))
    have e0 : (true : Bool) = subR a b := by rw [← sub_has]; first | exact (all_no hx0 (by simpa using b1)).symm | (rw [take_end (by omega)] at hs; exact hs.symm)
    have ev_ := cg1 (fun (x_0 : Bool) => (.bool x_0 : Value)) e0
    exact ⟨ev_, H3.below⟩
end Go.Proofs.YtmhopljngkgidaaDoor
