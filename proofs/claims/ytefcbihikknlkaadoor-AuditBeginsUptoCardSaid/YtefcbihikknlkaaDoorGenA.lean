/- PRINTED by my own tool (wip/tool/gen.py): contracts of Go functions of this seat, each with its proof. -/
import Derived.Test.YtefcbihikknlkaaDoorProg
import Derived.Test.YtefcbihikknlkaaDoorOwnA
import Derived.Test.YtefcbihikknlkaaDoorOwnB
namespace Go.Proofs.YtefcbihikknlkaaDoor
open Go.Ew Go.RowKit
set_option linter.unusedVariables false
set_option linter.unusedSimpArgs false
attribute [local irreducible] WL WC SO Code.wp wpList retQ Ret
attribute [local irreducible] bitB hasW inR hasR setR countW countR subR words newR listR orR firstW tab8
theorem un98 : Tryd.prog.underlying 98 = some (.int .u64) := by kernel_rfl
theorem un3 : Tryd.prog.underlying 3 = some (.int .i64) := by kernel_rfl
theorem go59 : GoF Tryd.prog 59 := ⟨_, _, Tryd.func59, rfl, by kernel_rfl⟩
theorem un110 : Tryd.prog.underlying 110 = some (.array 64 5) := by kernel_rfl
theorem ty5 : TyF Tryd.prog 5 1 false 1 (.int .u8 0) := ⟨by kernel_rfl, by kernel_rfl⟩
theorem un5 : Tryd.prog.underlying 5 = some (.int .u8) := by kernel_rfl
theorem go68 : GoF Tryd.prog 68 := ⟨_, _, Tryd.func68, rfl, by kernel_rfl⟩
theorem un91 : Tryd.prog.underlying 91 = some (.slice 94) := by kernel_rfl
theorem go58 : GoF Tryd.prog 58 := ⟨_, _, Tryd.func58, rfl, by kernel_rfl⟩
theorem ty94 : TyF Tryd.prog 94 1 false 8 (.int .u64 0) := ⟨by kernel_rfl, by kernel_rfl⟩
theorem go70 : GoF Tryd.prog 70 := ⟨_, _, Tryd.func70, rfl, by kernel_rfl⟩
theorem go57 : GoF Tryd.prog 57 := ⟨_, _, Tryd.func57, rfl, by kernel_rfl⟩
theorem go72 : GoF Tryd.prog 72 := ⟨_, _, Tryd.func72, rfl, by kernel_rfl⟩
theorem go56 : GoF Tryd.prog 56 := ⟨_, _, Tryd.func56, rfl, by kernel_rfl⟩
theorem un28 : Tryd.prog.underlying 28 = some (.slice 3) := by kernel_rfl
theorem ty3 : TyF Tryd.prog 3 1 false 8 (.int .i64 0) := ⟨by kernel_rfl, by kernel_rfl⟩
set_option maxRecDepth 100000 in
set_option maxHeartbeats 1600000 in
theorem word_Bit {w : World} {i : Int} (h_i : I64 i) : Calls Tryd.prog 59 #[.int .i64 i] w (Ret fun v w' =>  v = U (bitB i) ∧ Ext w w') := by
 refine enter 9 Tryd.func59 rfl rfl rfl fun f0 ha => ?_
 have H := HI.start (M0 := (fun _ => False)) (w := w) (fun _ h => h.elim)
 have i0 : f0 0 = iV i := ha 0 (by simp)
 refine sq (rg (k (asg (v := U (0#64)) rfl rfl (z (nx (sq (sq (rg (k (mv rfl i0 (k (cvU rfl rfl un3 un98 (k (gtU (BitVec.ofInt 64 i) (63#64) rfl rfl rfl rfl (z (nx ?_))))))))))))))))
 refine cd (b := decide ((63#64).toNat < (BitVec.ofInt 64 i).toNat)) rfl rfl (fun b0 => ?_) (fun b0 => ?_)
 ·
  have p0 := of_decide_eq_true b0
  refine sq (rg (k (asg (v := U (0#64)) rfl rfl (z (nx (rt (then_ret (r1 rfl rfl ?_))))))))
  have e0 : (0#64 : BitVec 64) = bitB i := by exact bitB_hi h_i p0
  have ev_ := cg1 (fun (x_0 : BitVec 64) => (U x_0 : Value)) e0
  exact ⟨ev_, H.below⟩
 ·
  have p0 := of_decide_eq_false b0
  refine sk (nx (sq (rg (k (mv rfl i0 (k (cvU rfl rfl un3 un98 (k (shlU (1#64) ((BitVec.ofInt 64 i).toNat : Int) (by omega) rfl rfl rfl rfl (k (asg (v := U ((1#64) <<< ((BitVec.ofInt 64 i).toNat : Int).toNat)) rfl rfl (z (nx (rt (r1 rfl rfl ?_)))))))))))))))
  have e0 : ((1#64) <<< ((BitVec.ofInt 64 i).toNat : Int).toNat : BitVec 64) = bitB i := by exact bitB_lo h_i p0
  have ev_ := cg1 (fun (x_0 : BitVec 64) => (U x_0 : Value)) e0
  exact ⟨ev_, H.below⟩
set_option maxRecDepth 100000 in
set_option maxHeartbeats 1600000 in
theorem word_Has {w : World} {x : BitVec 64} {i : Int} (h_i : I64 i) : Calls Tryd.prog 70 #[U x, .int .i64 i] w (Ret fun v w' =>  v = .bool (hasW x i) ∧ Ext w w') := by
 refine enter 10 Tryd.func70 rfl rfl rfl fun f0 ha => ?_
 have H := HI.start (M0 := (fun _ => False)) (w := w) (fun _ h => h.elim)
 have i0 : f0 0 = U x := ha 0 (by simp)
 have i1 : f0 1 = iV i := ha 1 (by simp)
 refine sq (rg (k (asg (v := .bool false) rfl rfl (z (nx (sq (rg (k (mv rfl i0 (k (mv rfl i1 (k ?_))))))))))))
 have cc0 := word_Bit (i := i) (w := w) (by unfold I64 at *; omega)
 refine ca go59 rfl (ec rfl e0) cc0 ?_
 rintro _ w0 ⟨rfl, xt0⟩
 have H0 := H.ext xt0
 refine k (andU x (bitB i) rfl rfl rfl rfl (k (neU (x &&& (bitB i)) (0#64) rfl rfl rfl rfl (k (asg (v := .bool (!decide ((x &&& (bitB i)) = (0#64)))) rfl rfl (z (nx (rt (r1 rfl rfl ?_)))))))))
 have e0 : (!decide ((x &&& (bitB i)) = (0#64)) : Bool) = hasW x i := by exact hasW_eq _ _
 have ev_ := cg1 (fun (x_0 : Bool) => (.bool x_0 : Value)) e0
 exact ⟨ev_, H0.below⟩
set_option maxRecDepth 100000 in
set_option maxHeartbeats 1600000 in
theorem zeros64 {w : World} {x : BitVec 64} (hT : TabAt 0 w) : Calls Tryd.prog 68 #[U x] w (Ret fun v w' =>  v = .int .i64 ((firstW x : Nat) : Int) ∧ Ext w w') := by
 refine enter 14 Tryd.func68 rfl rfl rfl fun f0 ha => ?_
 have H := HI.start (M0 := (fun _ => False)) (w := w) (fun _ h => h.elim)
 have i0 : f0 0 = U x := ha 0 (by simp)
 refine sq (rg (k (asg (v := iV 0) rfl rfl (z (nx (sq (sq (rg (k (mv rfl i0 (k (eqU x (0#64) rfl rfl rfl rfl (z (nx ?_))))))))))))))
 refine cd (b := decide (x = (0#64))) rfl rfl (fun b0 => ?_) (fun b0 => ?_)
 ·
  have p0 := of_decide_eq_true b0
  refine sq (rg (k (asg (v := iV 64) rfl rfl (z (nx (rt (then_ret (r1 rfl rfl ?_))))))))
  have e0 : (64 : Int) = ((firstW x : Nat) : Int) := by first | (have e_ := p0; subst e_; rw [firstW_zero]; rfl) | exact zeros_eq (by simpa using p0)
  have ev_ := cg1 (fun (x_0 : Int) => (iV x_0 : Value)) e0
  exact ⟨ev_, H.below⟩
 ·
  have p0 := of_decide_eq_false b0
  refine sk (nx (sq (rg (k (mv rfl i0 (k (mv rfl i0 (k (negU x rfl rfl (k (andU x (-x) rfl rfl rfl rfl (k (mulU (x &&& (-x)) (285870213051353865#64) rfl rfl rfl rfl (k (shrUn ((x &&& (-x)) * (285870213051353865#64)) 58 rfl rfl rfl rfl (k (iaAn (i := (((x &&& (-x)) * (285870213051353865#64)) >>> 58).toNat) rfl rfl rfl rfl (by exact zeros_lt (by simpa using p0)) un110 ty5 (k (ld8 (tabA (M := fun _ => False) hT H.below rfl (by exact zeros_lt (by simpa using p0))) ty5 rfl rfl (k (cvI rfl rfl (by unfold I64 at *; omega) un5 un3 (k (asg (v := iV ((tab8 (((x &&& (-x)) * (285870213051353865#64)) >>> 58).toNat).toNat : Int)) rfl rfl (z (nx (rt (r1 rfl rfl ?_)))))))))))))))))))))))))))
  have e0 : (((tab8 (((x &&& (-x)) * (285870213051353865#64)) >>> 58).toNat).toNat : Int) : Int) = ((firstW x : Nat) : Int) := by first | (have e_ := p0; subst e_; rw [firstW_zero]; rfl) | exact zeros_eq (by simpa using p0)
  have ev_ := cg1 (fun (x_0 : Int) => (iV x_0 : Value)) e0
  exact ⟨ev_, H.below⟩
set_option maxRecDepth 100000 in
set_option maxHeartbeats 1600000 in
theorem word_First {w : World} {x : BitVec 64} (hT : TabAt 0 w) : Calls Tryd.prog 56 #[U x] w (Ret fun v w' =>  v = .int .i64 ((firstW x : Nat) : Int) ∧ Ext w w') := by
 refine enter 5 Tryd.func56 rfl rfl rfl fun f0 ha => ?_
 have H := HI.start (M0 := (fun _ => False)) (w := w) (fun _ h => h.elim)
 have i0 : f0 0 = U x := ha 0 (by simp)
 refine sq (rg (k (asg (v := iV 0) rfl rfl (z (nx (sq (rg (k (mv rfl i0 (k ?_))))))))))
 have cc0 := zeros64 (x := x) (w := w) (hT.ext H.below)
 refine ca go68 rfl (ec rfl e0) cc0 ?_
 rintro _ w0 ⟨rfl, xt0⟩
 have H0 := H.ext xt0
 refine k (asg (v := iV ((firstW x : Nat) : Int)) rfl rfl (z (nx (rt (r1 rfl rfl ?_)))))
 exact ⟨rfl, H0.below⟩
set_option maxRecDepth 100000 in
set_option maxHeartbeats 1600000 in
theorem row_in {M : Nat → Prop} {w : World} {a_r : Option Addr} {c_r : Nat} {r : List (BitVec 64)} {i : Int} (hM : ∀ b, M b → b < w.heap.size) (h_r : RV M w (.slice a_r r.length c_r) r) (h_i : I64 i) : Calls Tryd.prog 58 #[.slice a_r r.length c_r, .int .i64 i] w (Ret fun v w' =>  v = .bool (inR r i) ∧ Ext w w') := by
 refine enter 14 Tryd.func58 rfl rfl rfl fun f0 ha => ?_
 have H := HI.start (M0 := M) (w := w) hM
 have H0 := H.put (it := imm (.slice a_r r.length c_r) r) rfl (by rw [MS_nil]; exact h_r)
 have ln_r := rv_len h_r
 have i0 : f0 0 = .slice a_r r.length c_r := ha 0 (by simp)
 have i1 : f0 1 = iV i := ha 1 (by simp)
 refine sq (rg (k (asg (v := .bool false) rfl rfl (z (nx (sq (rg (k (mv rfl i1 (k (geq rfl rfl rfl rfl (k (mv (v := .bool (decide (0 ≤ i))) rfl rfl ?_)))))))))))))
 rcases Bool.eq_false_or_eq_true (decide (0 ≤ i)) with b0 | b0
 · -- decide (0 ≤ i) is True
  have p0 := of_decide_eq_true b0
  refine k (gy rfl rfl rfl b0 (mv rfl i1 (k (gy rfl rfl rfl b0 (shrI rfl rfl rfl rfl (k (gy rfl rfl rfl b0 (mv rfl i0 (k (gy rfl rfl rfl b0 (lnS rfl rfl un91 (k (gy rfl rfl rfl b0 (lss rfl rfl rfl rfl (k (pickT rfl rfl rfl rfl b0 rfl (k (asg (v := .bool (decide ((i / 64) < (r.length : Int)))) rfl rfl (z (nx (rt (r1 rfl rfl ?_))))))))))))))))))))))
  have e0 : (decide ((i / 64) < (r.length : Int)) : Bool) = inR r i := by exact inR_yes p0
  have ev_ := cg1 (fun (x_0 : Bool) => (.bool x_0 : Value)) e0
  exact ⟨ev_, H0.below⟩
 · -- decide (0 ≤ i) is False
  have p0 := of_decide_eq_false b0
  refine k (gn rfl rfl rfl b0 (k (gn rfl rfl rfl b0 (k (gn rfl rfl rfl b0 (k (gn rfl rfl rfl b0 (k (gn rfl rfl rfl b0 (k (pickF rfl rfl rfl rfl b0 rfl (k (asg (v := .bool false) rfl rfl (z (nx (rt (r1 rfl rfl ?_)))))))))))))))))
  have e0 : (false : Bool) = inR r i := by exact inR_no (by omega)
  have ev_ := cg1 (fun (x_0 : Bool) => (.bool x_0 : Value)) e0
  exact ⟨ev_, H0.below⟩
set_option maxRecDepth 100000 in
set_option maxHeartbeats 1600000 in
theorem row_Has {M : Nat → Prop} {w : World} {a_r : Option Addr} {c_r : Nat} {r : List (BitVec 64)} {i : Int} (hM : ∀ b, M b → b < w.heap.size) (h_r : RV M w (.slice a_r r.length c_r) r) (h_i : I64 i) : Calls Tryd.prog 63 #[.slice a_r r.length c_r, .int .i64 i] w (Ret fun v w' =>  v = .bool (hasR r i) ∧ Ext w w') := by
 refine enter 18 Tryd.func63 rfl rfl rfl fun f0 ha => ?_
 have H := HI.start (M0 := M) (w := w) hM
 have H0 := H.put (it := imm (.slice a_r r.length c_r) r) rfl (by rw [MS_nil]; exact h_r)
 have ln_r := rv_len h_r
 have i0 : f0 0 = .slice a_r r.length c_r := ha 0 (by simp)
 have i1 : f0 1 = iV i := ha 1 (by simp)
 refine sq (rg (k (asg (v := .bool false) rfl rfl (z (nx (sq (rg (k (mv rfl i0 (k (mv rfl i1 (k ?_))))))))))))
 have cc0 := row_in (r := r) (i := i) (w := w) H0.mb (H0.rv 0 rfl) (by unfold I64 at *; omega)
 refine ca go58 rfl (ec rfl (ec rfl e0)) cc0 ?_
 rintro _ w0 ⟨rfl, xt0⟩
 have H1 := H0.ext xt0
 refine k (mv (v := .bool (inR r i)) rfl rfl ?_)
 rcases Bool.eq_false_or_eq_true (inR r i) with b0 | b0
 · -- inR r i is True
  refine k (gy rfl rfl rfl b0 (mv rfl i0 (k (gy rfl rfl rfl b0 (mv rfl i1 (k (gy rfl rfl rfl b0 (shrI rfl rfl rfl rfl (k (gy rfl rfl rfl b0 (ia (H1.rv 0 rfl) rfl rfl rfl rfl (by have hb := b0; unfold inR at hb; simp only [decide_eq_true_eq] at hb; omega) un91 ty94 ?_)))))))))))
  intro ad0 x0 hx0 hA0
  refine k (gy rfl rfl rfl b0 (ldU hA0.w ty94 rfl rfl (k (gy rfl rfl rfl b0 (mv rfl i1 (k (gy rfl rfl rfl b0 (and63 rfl rfl rfl rfl (k (gy rfl rfl rfl b0 ?_))))))))))
  have cc1 := word_Has (x := x0) (i := (i % 64)) (w := w0) (by unfold I64 at *; omega)
  refine ca go70 rfl (ec rfl (ec rfl e0)) cc1 ?_
  rintro _ w1 ⟨rfl, xt1⟩
  have H2 := H1.ext xt1
  refine k (pickT rfl rfl rfl rfl b0 rfl (k (asg (v := .bool (hasW x0 (i % 64))) rfl rfl (z (nx (rt (r1 rfl rfl ?_)))))))
  have e0 : (hasW x0 (i % 64) : Bool) = hasR r i := by exact hasR_in b0 hx0
  have ev_ := cg1 (fun (x_0 : Bool) => (.bool x_0 : Value)) e0
  exact ⟨ev_, H2.below⟩
 · -- inR r i is False
  refine k (gn rfl rfl rfl b0 (k (gn rfl rfl rfl b0 (k (gn rfl rfl rfl b0 (k (gn rfl rfl rfl b0 (k (gn rfl rfl rfl b0 (k (gn rfl rfl rfl b0 (k (gn rfl rfl rfl b0 (k (gn rfl rfl rfl b0 (k (pickF rfl rfl rfl rfl b0 rfl (k (asg (v := .bool false) rfl rfl (z (nx (rt (r1 rfl rfl ?_)))))))))))))))))))))))
  have e0 : (false : Bool) = hasR r i := by exact hasR_out b0
  have ev_ := cg1 (fun (x_0 : Bool) => (.bool x_0 : Value)) e0
  exact ⟨ev_, H1.below⟩
set_option maxRecDepth 100000 in
set_option maxHeartbeats 1600000 in
theorem clone_u64 {M : Nat → Prop} {w : World} {a_r : Option Addr} {c_r : Nat} {r : List (BitVec 64)} (hM : ∀ b, M b → b < w.heap.size) (h_r : RV M w (.slice a_r r.length c_r) r) (hl_r : r.length ≤ 1000000000) : Calls Tryd.prog 57 #[.slice a_r r.length c_r] w (Ret fun v w' => ∃ (a0 : Option Addr) (c0 : Nat), v = .slice a0 r.length c0 ∧ Ext w w' ∧ OwnsG M 94 w r (.slice a0 r.length c0) w') := by
 refine enter 8 Tryd.func57 rfl rfl rfl fun f0 ha => ?_
 have H := HI.start (M0 := M) (w := w) hM
 have H0 := H.put (it := imm (.slice a_r r.length c_r) r) rfl (by rw [MS_nil]; exact h_r)
 have ln_r := rv_len h_r
 have i0 : f0 0 = .slice a_r r.length c_r := ha 0 (by simp)
 refine sq (rg (k (asg (v := .slice none 0 0) rfl rfl (z (nx (sq (sq (rg (k (mv rfl i0 (k (eqN rfl rfl rfl rfl un91 (z (nx ?_))))))))))))))
 refine cd (b := a_r.isNone) rfl rfl (fun b0 => ?_) (fun b0 => ?_)
 ·
  refine sq (rg (k (asg (v := .slice none 0 0) rfl rfl (z (nx (rt (then_ret (r1 rfl rfl ?_))))))))
  have e0 : ([] : List (BitVec 64)) = r := by exact (rv_none h_r b0).symm
  have ev_ := cg1 (fun (x_0 : List (BitVec 64)) => (.slice none x_0.length 0 : Value)) e0
  exact ⟨none, 0, ev_, H0.below, (congrArg (fun (x_ : List (BitVec 64)) => OwnsG _ _ _ x_ (.slice none x_.length 0) _) e0).mp (ownsG_nil H0.below)⟩
 ·
  refine sk (nx (sq (rg (k (bs (xs := ([] : List (BitVec 64))) (cells := #[]) (e := 94) H0 rfl pb0 (fun _ => by kernel_rfl) rfl rfl (by unfold maxLen; omega) ?_)))))
  intro g0 w0 xt0 H1
  refine k (mv rfl i0 (k (ap H1 0 rfl rfl rfl rfl rfl rfl (H1.rv 1 rfl).src un91 ty94 rfl (by first | omega | (simp; omega)) (by first | omega | (simp; omega)) ?_)))
  intro a0 c0 w1 (H2 : HI M w w1 [own w.heap.size 94 (.slice a0 r.length c0) r, imm (.slice a_r r.length c_r) r])
  refine k (asg (v := .slice a0 r.length c0) rfl rfl (z (nx (rt (r1 rfl rfl ?_)))))
  exact ⟨a0, c0, rfl, H2.below, (H2.ownsG_out 0 rfl)⟩
set_option maxRecDepth 100000 in
set_option maxHeartbeats 1600000 in
theorem row_Set {M : Nat → Prop} {w : World} {a_r : Option Addr} {c_r : Nat} {r : List (BitVec 64)} {i : Int} (hM : ∀ b, M b → b < w.heap.size) (h_r : RV M w (.slice a_r r.length c_r) r) (h_i : I64 i) (hl_r : r.length ≤ 1000000000) : Calls Tryd.prog 52 #[.slice a_r r.length c_r, .int .i64 i] w (Ret fun v w' => ∃ (a0 : Option Addr) (c0 : Nat), v = .slice a0 (setR r i).length c0 ∧ Ext w w' ∧ OwnsG M 94 w (setR r i) (.slice a0 (setR r i).length c0) w') := by
 refine enter 22 Tryd.func52 rfl rfl rfl fun f0 ha => ?_
 have H := HI.start (M0 := M) (w := w) hM
 have H0 := H.put (it := imm (.slice a_r r.length c_r) r) rfl (by rw [MS_nil]; exact h_r)
 have ln_r := rv_len h_r
 have i0 : f0 0 = .slice a_r r.length c_r := ha 0 (by simp)
 have i1 : f0 1 = iV i := ha 1 (by simp)
 refine sq (rg (k (asg (v := .slice none 0 0) rfl rfl (z (nx (sq (rg (k (mv rfl i0 (k ?_))))))))))
 have cc0 := clone_u64 (r := r) (w := w) H0.mb (H0.rv 0 rfl) (by first | omega | (simp; omega))
 refine ca go57 rfl (ec rfl e0) cc0 ?_
 rintro _ w0 ⟨a0, c0, rfl, xt0, rv0⟩
 have H1 := H0.ownsG rv0
 refine k (asg (v := .slice a0 r.length c0) rfl rfl (z (nx (sq (sq (rg (k (mv rfl i0 (k (mv rfl i1 (k ?_)))))))))))
 have cc1 := row_in (r := r) (i := i) (w := w0) H1.mb (H1.rv 1 rfl) (by unfold I64 at *; omega)
 refine ca go58 rfl (ec rfl (ec rfl e0)) cc1 ?_
 rintro _ w1 ⟨rfl, xt1⟩
 have H2 := H1.ext xt1
 refine z (nx ?_)
 refine cd (b := inR r i) rfl rfl (fun b0 => ?_) (fun b0 => ?_)
 ·
  obtain ⟨x0, hx0⟩ : ∃ x, r[(i / 64).toNat]? = some x := ⟨_, List.getElem?_eq_getElem (by have hb := b0; unfold inR at hb; simp only [decide_eq_true_eq] at hb; omega)⟩
  refine dr 8 [eV (.slice a0 r.length c0), eV (iV i), eV (iV (i / 64)), fun (v : Value) (w' : World) => ∃ (g0 : Nat), v = .pointer (some ⟨g0, (i / 64).toNat * 1, none⟩) ∧ (.slice a0 r.length c0 : Value).ownBlock = some g0 ∧ AtW (MS M [own w.heap.size 94 (.slice a0 r.length c0) r, imm (.slice a_r r.length c_r) r]) w' ⟨g0, (i / 64).toNat * 1, none⟩ x0, eV (U x0), eV (iV i), eV (iV (i % 64)), eV (U (bitB (i % 64)))] rfl (by kernel_rfl) ?_ ?_
  ·
   refine dc (fun _ _ hf0 _ _ => mv rfl (hf0 5 rfl) (d0 rfl rfl)) ?_
   refine dc (fun _ _ hf1 _ _ => mv rfl ((hf1 1 rfl).trans i1) (d0 rfl rfl)) ?_
   refine dc (fun _ _ _ _ hp2 => shrI rfl rfl (hp2 1 rfl rfl) rfl (d0 rfl rfl)) ?_
   refine ⟨fun _ => ⟨fun f3 w6 hf3 xt6 hp3 => ?_, by rintro _ _ _ x_ ⟨g0, e_, hv0, hA0⟩; exact ⟨g0, e_, hv0, hA0.ext x_⟩⟩, ?_⟩
   ·
    have H7 := H2.ext xt6
    have s1 : f3 11 = .slice a0 r.length c0 := hp3 0 rfl rfl
    have s2 : f3 13 = iV (i / 64) := hp3 2 rfl rfl
    refine iaO (H7.at_ 0 rfl) rfl rfl s1 s2 (by have hb := b0; unfold inR at hb; simp only [decide_eq_true_eq] at hb; omega) un91 ty94 ?_
    intro g1 x1 hv1 hx1 hA1
    obtain rfl : x0 = x1 := Option.some.inj (hx0.symm.trans hx1)
    exact ⟨_, rfl, Ext.refl _, ⟨g1, rfl, hv1, hA1⟩⟩
   refine dc (fun f4 w7 hf4 xt7 hp4 => ?_) ?_
   ·
    obtain ⟨g2, s3, hv2, hA2⟩ : ∃ (g2 : Nat), f4 14 = .pointer (some ⟨g2, (i / 64).toNat * 1, none⟩) ∧ (.slice a0 r.length c0 : Value).ownBlock = some g2 ∧ AtW (MS M [own w.heap.size 94 (.slice a0 r.length c0) r, imm (.slice a_r r.length c_r) r]) w7 ⟨g2, (i / 64).toNat * 1, none⟩ x0 := hp4 3 rfl rfl
    refine ldU hA2 ty94 rfl s3 ?_
    exact ⟨_, rfl, Ext.refl _, rfl⟩
   refine dc (fun _ _ hf5 _ _ => mv rfl ((hf5 1 rfl).trans i1) (d0 rfl rfl)) ?_
   refine dc (fun _ _ _ _ hp6 => and63 rfl rfl (hp6 5 rfl rfl) rfl (d0 rfl rfl)) ?_
   refine dc (fun f7 w10 hf7 xt10 hp7 => ?_) ?_
   ·
    have s5 : f7 17 = iV (i % 64) := hp7 6 rfl rfl
    have cc3 := word_Bit (i := (i % 64)) (w := w10) (by unfold I64 at *; omega)
    refine ca go59 rfl (ec s5 e0) cc3 ?_
    rintro _ w11 ⟨rfl, xt11⟩
    exact ⟨_, rfl, xt11, rfl⟩
   exact DSteps.rest rfl _
  ·
   intro f8 w12 hf8 xt12 hp8
   have H13 := H2.ext xt12
   have s6 : f8 5 = .slice a0 r.length c0 := hf8 5 rfl
   have s7 : f8 11 = .slice a0 r.length c0 := hp8 0 rfl
   have s8 : f8 13 = iV (i / 64) := hp8 2 rfl
   have s9 : f8 15 = U x0 := hp8 4 rfl
   have s10 : f8 18 = U (bitB (i % 64)) := hp8 7 rfl
   refine k (orU x0 (bitB (i % 64)) rfl rfl s9 s10 (k (iaO (H13.at_ 0 rfl) rfl rfl s7 s8 (by have hb := b0; unfold inR at hb; simp only [decide_eq_true_eq] at hb; omega) un91 ty94 ?_)))
   intro g3 x2 hv3 hx2 hA3
   refine k (stO H13 0 rfl hv3 rfl (by have hb := b0; unfold inR at hb; simp only [decide_eq_true_eq] at hb; omega) ty94 rfl rfl rfl rfl (RV.bv.2 rfl) ?_)
   intro w13 (H14 : HI M w w13 [own w.heap.size 94 (.slice a0 r.length c0) (r.set ((i / 64).toNat) (x0 ||| (bitB (i % 64)))), imm (.slice a_r r.length c_r) r])
   refine z (nx (sq (rg (k (mv rfl s6 (k (asg (v := .slice a0 r.length c0) rfl rfl (z (nx (rt (r1 rfl rfl ?_)))))))))))
   have e0 : (r.set ((i / 64).toNat) (x0 ||| (bitB (i % 64))) : List (BitVec 64)) = setR r i := by exact setR_in b0 hx0
   have l0 : r.length = (setR r i).length := by first | rfl | (rw [← e0]; simp) | simp
   have ev_ := cg1 (fun (n_0 : Nat) => (.slice a0 n_0 c0 : Value)) l0
   exact ⟨a0, c0, ev_, H14.below, (congrArg (fun (n_ : Nat) => OwnsG _ _ _ (setR r i) (.slice a0 n_ c0) _) l0).mp ((congrArg (fun (x_ : List (BitVec 64)) => OwnsG _ _ _ x_ (.slice a0 r.length c0) _) e0).mp (H14.ownsG_out 0 rfl))⟩
 ·
  refine sk (nx (sq (rg (k (mv (v := .slice a0 r.length c0) rfl rfl (k (asg (v := .slice a0 r.length c0) rfl rfl (z (nx (rt (r1 rfl rfl ?_)))))))))))
  have e0 : (r : List (BitVec 64)) = setR r i := by exact setR_out b0
  have ev_ := cg1 (fun (x_0 : List (BitVec 64)) => (.slice a0 x_0.length c0 : Value)) e0
  exact ⟨a0, c0, ev_, H2.below, (congrArg (fun (x_ : List (BitVec 64)) => OwnsG _ _ _ x_ (.slice a0 x_.length c0) _) e0).mp (H2.ownsG_out 0 rfl)⟩
set_option maxRecDepth 100000 in
set_option maxHeartbeats 1600000 in
theorem row_Words {w : World} {n : Int} (h_n : I64 n) (hn : n ≤ 1000000000000000000) : Calls Tryd.prog 72 #[.int .i64 n] w (Ret fun v w' =>  v = .int .i64 ((words n : Nat) : Int) ∧ Ext w w') := by
 refine enter 8 Tryd.func72 rfl rfl rfl fun f0 ha => ?_
 have H := HI.start (M0 := (fun _ => False)) (w := w) (fun _ h => h.elim)
 have i0 : f0 0 = iV n := ha 0 (by simp)
 refine sq (rg (k (asg (v := iV 0) rfl rfl (z (nx (sq (rg (k (mv rfl i0 (k (max2 rfl rfl rfl rfl (k (add rfl rfl rfl rfl (by unfold I64 at *; omega) (k (sub rfl rfl rfl rfl (by unfold I64 at *; omega) (k (quo rfl rfl rfl rfl (by first | omega | (simp; omega)) (k (asg (v := iV ((((max n 0) + 64) - 1) / 64)) rfl rfl (z (nx (rt (r1 rfl rfl ?_)))))))))))))))))))))))
 have e0 : ((((max n 0) + 64) - 1) / 64 : Int) = ((words n : Nat) : Int) := by unfold words; omega
 have ev_ := cg1 (fun (x_0 : Int) => (iV x_0 : Value)) e0
 exact ⟨ev_, H.below⟩
set_option maxRecDepth 100000 in
set_option maxHeartbeats 1600000 in
theorem row_New {M : Nat → Prop} {w : World} {n : Int} (hM : ∀ b, M b → b < w.heap.size) (h_n : I64 n) (hn : n ≤ 1000000) : Calls Tryd.prog 69 #[.int .i64 n] w (Ret fun v w' => ∃ (a0 : Option Addr) (c0 : Nat), v = .slice a0 (newR n).length c0 ∧ Ext w w' ∧ OwnsG M 94 w (newR n) (.slice a0 (newR n).length c0) w') := by
 refine enter 6 Tryd.func69 rfl rfl rfl fun f0 ha => ?_
 have H := HI.start (M0 := M) (w := w) hM
 have i0 : f0 0 = iV n := ha 0 (by simp)
 refine sq (rg (k (asg (v := .slice none 0 0) rfl rfl (z (nx (sq (rg (k (mv rfl i0 (k ?_))))))))))
 have cc0 := row_Words (n := n) (w := w) (by unfold I64 at *; omega) (by first | omega | (simp; omega))
 refine ca go72 rfl (ec rfl e0) cc0 ?_
 rintro _ w0 ⟨rfl, xt0⟩
 have H0 := H.ext xt0
 refine k (mk (m := (words n : Nat)) (zx := (0#64 : (BitVec 64))) H0 rfl rfl rfl rfl un91 ty94 (fun _ _ => rfl) (by unfold words; omega) (by unfold words; omega) ?_)
 intro g0 w1 xt1 (H1 : HI M w w1 [own w.heap.size 94 (.slice (some ⟨g0, 0, none⟩) (words n : Nat) (words n : Nat)) (List.replicate (words n : Nat) (0#64 : (BitVec 64)))])
 refine k (asg (v := .slice (some ⟨g0, 0, none⟩) (words n : Nat) (words n : Nat)) rfl rfl (z (nx (rt (r1 rfl rfl ?_)))))
 have e0 : ((List.replicate (words n : Nat) (0#64 : (BitVec 64))) : List (BitVec 64)) = newR n := by unfold newR; rfl
 have l0 : (words n : Nat) = (newR n).length := by first | rfl | (rw [← e0]; simp) | simp
 have ev_ := cg1 (fun (n_0 : Nat) => (.slice (some ⟨g0, 0, none⟩) n_0 (words n : Nat) : Value)) l0
 exact ⟨(some ⟨g0, 0, none⟩), (words n : Nat), ev_, H1.below, (congrArg (fun (n_ : Nat) => OwnsG _ _ _ (newR n) (.slice (some ⟨g0, 0, none⟩) n_ (words n : Nat)) _) l0).mp ((congrArg (fun (x_ : List (BitVec 64)) => OwnsG _ _ _ x_ (.slice (some ⟨g0, 0, none⟩) (words n : Nat) (words n : Nat)) _) e0).mp (H1.ownsG_out 0 rfl))⟩
set_option maxRecDepth 100000 in
set_option maxHeartbeats 1600000 in
theorem row_Or {M : Nat → Prop} {w : World} {a_a : Option Addr} {c_a : Nat} {a : List (BitVec 64)} {a_b : Option Addr} {c_b : Nat} {b : List (BitVec 64)} (hM : ∀ b, M b → b < w.heap.size) (h_a : RV M w (.slice a_a a.length c_a) a) (h_b : RV M w (.slice a_b b.length c_b) b) (hl_a : a.length ≤ 1000000000) (hl_b : b.length ≤ 1000000000) : Calls Tryd.prog 71 #[.slice a_a a.length c_a, .slice a_b b.length c_b] w (Ret fun v w' => ∃ (a0 : Option Addr) (c0 : Nat), v = .slice a0 (orR a b).length c0 ∧ Ext w w' ∧ OwnsG M 94 w (orR a b) (.slice a0 (orR a b).length c0) w') := by
 refine enter 33 Tryd.func71 rfl rfl rfl fun f0 ha => ?_
 have H := HI.start (M0 := M) (w := w) hM
 have H0 := H.put (it := imm (.slice a_a a.length c_a) a) rfl (by rw [MS_nil]; exact h_a)
 have H1 := H0.put (it := imm (.slice a_b b.length c_b) b) rfl (by rw [MS_cons_none rfl, MS_nil]; exact h_b)
 have ln_a := rv_len h_a
 have ln_b := rv_len h_b
 have i0 : f0 0 = .slice a_a a.length c_a := ha 0 (by simp)
 have i1 : f0 1 = .slice a_b b.length c_b := ha 1 (by simp)
 refine sq (rg (k (asg (v := .slice none 0 0) rfl rfl (z (nx (sq (sq (rg (k (mv rfl i0 (k (lnS rfl rfl un91 (k (mv rfl i1 (k (lnS rfl rfl un91 (k (lss rfl rfl rfl rfl (z (nx ?_))))))))))))))))))))
 refine cd (b := decide ((a.length : Int) < (b.length : Int))) rfl rfl (fun b0 => ?_) (fun b0 => ?_)
 ·
  have p0 := of_decide_eq_true b0
  refine rg (k (mv rfl i1 (k (mv rfl i0 (k (asg (v := .slice a_b b.length c_b) rfl rfl (k (asg (v := .slice a_a a.length c_a) rfl rfl (z (nx (sq (rg (k (mv (v := .slice a_b b.length c_b) rfl rfl (k ?_)))))))))))))))
  have cc0 := clone_u64 (r := b) (w := w) H1.mb (H1.rv 0 rfl) (by first | omega | (simp; omega))
  refine ca go57 rfl (ec rfl e0) cc0 ?_
  rintro _ w0 ⟨a0, c0, rfl, xt0, rv0⟩
  have H2 := H1.ownsG rv0
  refine k (asg (v := .slice a0 b.length c0) rfl rfl (z (nx (sq (sq (rg (k (mv (v := .slice a_a a.length c_a) rfl rfl (k (lnS rfl rfl un91 (k (mv (v := iV 0) rfl rfl (z (nx (bk ?_)))))))))))))))
  refine lp (fun m f w' => ∃ (j : Nat) (xs : List (BitVec 64)), m = a.length - j ∧ f 5 = .slice a0 b.length c0 ∧ f 17 = .slice a_a a.length c_a ∧ f 18 = iV (a.length : Int) ∧ f 19 = iV (j : Int) ∧  HI M w w' [own w.heap.size 94 (.slice a0 b.length c0) xs, imm (.slice a_b b.length c_b) b, imm (.slice a_a a.length c_a) a] ∧ (j ≤ a.length) ∧ (xs.length = b.length) ∧ (xs = orTo b.length b a b j)) _ ⟨0, b, rfl, rfl, rfl, rfl, (ieq rfl (by first | rfl | omega | simp)), H2, (by first | assumption | omega | simp | (simp; omega)), (by rfl), (by exact orTo_zero _ _ _)⟩ ?_
  rintro _ f0 w1 ⟨j, xs, rfl, s0, s1, s2, s3, H3, hk, hl, hs⟩
  refine sq (rg (k (lss rfl rfl s3 s2 (z (nx (sq ?_))))))
  refine cd (b := decide ((j : Int) < (a.length : Int))) rfl rfl (fun b1 => ?_) (fun b1 => ?_)
  ·
   have p1 := of_decide_eq_true b1
   refine sk (nx (sq (bk (sq (rg (k (mv rfl s3 (k (ia (H3.rv 2 rfl) rfl rfl s1 s3 (by first | omega | (simp; omega)) un91 ty94 ?_)))))))))
   intro ad0 x0 hx0 hA0
   refine k (ldU hA0.w ty94 rfl rfl (k (asg (v := iV (j : Int)) rfl rfl (k (asg (v := U x0) rfl rfl (z (nx (rg (k (mv rfl s0 (k (mv (v := iV (j : Int)) rfl rfl (k (iaO (H3.at_ 0 rfl) rfl rfl rfl rfl (by first | omega | (simp; omega)) un91 ty94 ?_))))))))))))))
   intro g0 x1 hv0 hx1 hA1
   refine k (ldU hA1 ty94 rfl rfl (k (mv (v := U x0) rfl rfl (k (orU x1 x0 rfl rfl rfl rfl (k (iaO (H3.at_ 0 rfl) rfl rfl rfl rfl (by first | omega | (simp; omega)) un91 ty94 ?_)))))))
   intro g1 x2 hv1 hx2 hA2
   refine k (stO H3 0 rfl hv1 rfl (by first | omega | (simp; omega)) ty94 rfl rfl rfl rfl (RV.bv.2 rfl) ?_)
   intro w2 (H4 : HI M w w2 [own w.heap.size 94 (.slice a0 b.length c0) (xs.set ((j : Int).toNat) (x1 ||| x0)), imm (.slice a_b b.length c_b) b, imm (.slice a_a a.length c_a) a])
   refine z (inb_normal (nx (rg (k (add rfl rfl s3 rfl (by unfold I64 at *; omega) (k (mv (v := iV ((j : Int) + 1)) rfl rfl (z ?_))))))))
   refine loopN _ ?_ ⟨(j + 1), (xs.set ((j : Int).toNat) (x1 ||| x0)), rfl, s0, s1, s2, (ieq rfl (by first | rfl | omega | (push_cast; omega))), H4, (by first | assumption | omega | simp | (simp; omega)), (by simpa using hl), (by have e1 := orTo_get (hs ▸ hx1); have e2 := getD_at hx0; rw [hs]; exact orTo_set (by rw [e1]; unfold orAt; rw [e2]))⟩
   omega
  ·
   have p1 := of_decide_eq_false b1
   refine ex (then_exit (loop_exit (inb_here (nx (sq (rg (k (mv rfl s0 (k (asg (v := .slice a0 b.length c0) rfl rfl (z (nx (rt (r1 rfl rfl ?_))))))))))))))
   have e0 : (xs : List (BitVec 64)) = orR a b := by rw [hs]; first | exact orTo_all (by omega) (fun i h1 h2 => orAt_left (by omega)) | (rw [orR_comm]; exact orTo_all (by omega) (fun i h1 h2 => orAt_left (by omega)))
   have l0 : b.length = (orR a b).length := by rw [← e0]; omega
   have ev_ := cg1 (fun (n_0 : Nat) => (.slice a0 n_0 c0 : Value)) l0
   exact ⟨a0, c0, ev_, H3.below, (congrArg (fun (n_ : Nat) => OwnsG _ _ _ (orR a b) (.slice a0 n_ c0) _) l0).mp ((congrArg (fun (x_ : List (BitVec 64)) => OwnsG _ _ _ x_ (.slice a0 b.length c0) _) e0).mp (H3.ownsG_out 0 rfl))⟩
 ·
  have p0 := of_decide_eq_false b0
  refine sk (nx (sq (rg (k (mv rfl i0 (k ?_))))))
  have cc0 := clone_u64 (r := a) (w := w) H1.mb (H1.rv 1 rfl) (by first | omega | (simp; omega))
  refine ca go57 rfl (ec rfl e0) cc0 ?_
  rintro _ w0 ⟨a0, c0, rfl, xt0, rv0⟩
  have H2 := H1.ownsG rv0
  refine k (asg (v := .slice a0 a.length c0) rfl rfl (z (nx (sq (sq (rg (k (mv rfl i1 (k (lnS rfl rfl un91 (k (mv (v := iV 0) rfl rfl (z (nx (bk ?_)))))))))))))))
  refine lp (fun m f w' => ∃ (j : Nat) (xs : List (BitVec 64)), m = b.length - j ∧ f 5 = .slice a0 a.length c0 ∧ f 17 = .slice a_b b.length c_b ∧ f 18 = iV (b.length : Int) ∧ f 19 = iV (j : Int) ∧  HI M w w' [own w.heap.size 94 (.slice a0 a.length c0) xs, imm (.slice a_b b.length c_b) b, imm (.slice a_a a.length c_a) a] ∧ (j ≤ b.length) ∧ (xs.length = a.length) ∧ (xs = orTo a.length a b a j)) _ ⟨0, a, rfl, rfl, rfl, rfl, (ieq rfl (by first | rfl | omega | simp)), H2, (by first | assumption | omega | simp | (simp; omega)), (by rfl), (by exact orTo_zero _ _ _)⟩ ?_
  rintro _ f0 w1 ⟨j, xs, rfl, s0, s1, s2, s3, H3, hk, hl, hs⟩
  refine sq (rg (k (lss rfl rfl s3 s2 (z (nx (sq ?_))))))
  refine cd (b := decide ((j : Int) < (b.length : Int))) rfl rfl (fun b1 => ?_) (fun b1 => ?_)
  ·
   have p1 := of_decide_eq_true b1
   refine sk (nx (sq (bk (sq (rg (k (mv rfl s3 (k (ia (H3.rv 1 rfl) rfl rfl s1 s3 (by first | omega | (simp; omega)) un91 ty94 ?_)))))))))
   intro ad0 x0 hx0 hA0
   refine k (ldU hA0.w ty94 rfl rfl (k (asg (v := iV (j : Int)) rfl rfl (k (asg (v := U x0) rfl rfl (z (nx (rg (k (mv rfl s0 (k (mv (v := iV (j : Int)) rfl rfl (k (iaO (H3.at_ 0 rfl) rfl rfl rfl rfl (by first | omega | (simp; omega)) un91 ty94 ?_))))))))))))))
   intro g0 x1 hv0 hx1 hA1
   refine k (ldU hA1 ty94 rfl rfl (k (mv (v := U x0) rfl rfl (k (orU x1 x0 rfl rfl rfl rfl (k (iaO (H3.at_ 0 rfl) rfl rfl rfl rfl (by first | omega | (simp; omega)) un91 ty94 ?_)))))))
   intro g1 x2 hv1 hx2 hA2
   refine k (stO H3 0 rfl hv1 rfl (by first | omega | (simp; omega)) ty94 rfl rfl rfl rfl (RV.bv.2 rfl) ?_)
   intro w2 (H4 : HI M w w2 [own w.heap.size 94 (.slice a0 a.length c0) (xs.set ((j : Int).toNat) (x1 ||| x0)), imm (.slice a_b b.length c_b) b, imm (.slice a_a a.length c_a) a])
   refine z (inb_normal (nx (rg (k (add rfl rfl s3 rfl (by unfold I64 at *; omega) (k (mv (v := iV ((j : Int) + 1)) rfl rfl (z ?_))))))))
   refine loopN _ ?_ ⟨(j + 1), (xs.set ((j : Int).toNat) (x1 ||| x0)), rfl, s0, s1, s2, (ieq rfl (by first | rfl | omega | (push_cast; omega))), H4, (by first | assumption | omega | simp | (simp; omega)), (by simpa using hl), (by have e1 := orTo_get (hs ▸ hx1); have e2 := getD_at hx0; rw [hs]; exact orTo_set (by rw [e1]; unfold orAt; rw [e2]))⟩
   omega
  ·
   have p1 := of_decide_eq_false b1
   refine ex (then_exit (loop_exit (inb_here (nx (sq (rg (k (mv rfl s0 (k (asg (v := .slice a0 a.length c0) rfl rfl (z (nx (rt (r1 rfl rfl ?_))))))))))))))
   have e0 : (xs : List (BitVec 64)) = orR a b := by rw [hs]; first | exact orTo_all (by omega) (fun i h1 h2 => orAt_left (by omega)) | (rw [orR_comm]; exact orTo_all (by omega) (fun i h1 h2 => orAt_left (by omega)))
   have l0 : a.length = (orR a b).length := by rw [← e0]; omega
   have ev_ := cg1 (fun (n_0 : Nat) => (.slice a0 n_0 c0 : Value)) l0
   exact ⟨a0, c0, ev_, H3.below, (congrArg (fun (n_ : Nat) => OwnsG _ _ _ (orR a b) (.slice a0 n_ c0) _) l0).mp ((congrArg (fun (x_ : List (BitVec 64)) => OwnsG _ _ _ x_ (.slice a0 a.length c0) _) e0).mp (H3.ownsG_out 0 rfl))⟩
set_option maxRecDepth 100000 in
set_option maxHeartbeats 1600000 in
theorem row_List {M : Nat → Prop} {w : World} {a_r : Option Addr} {c_r : Nat} {r : List (BitVec 64)} (hM : ∀ b, M b → b < w.heap.size) (hT : TabAt 0 w) (h_r : RV M w (.slice a_r r.length c_r) r) (hl_r : r.length ≤ 1000000000) : Calls Tryd.prog 51 #[.slice a_r r.length c_r] w (Ret fun v w' => ∃ (a0 : Option Addr) (c0 : Nat), v = .slice a0 (listR r).length c0 ∧ Ext w w' ∧ OwnsG M 3 w (listR r) (.slice a0 (listR r).length c0) w') := by
 refine enter 29 Tryd.func51 rfl rfl rfl fun f0 ha => ?_
 have H := HI.start (M0 := M) (w := w) hM
 have H0 := H.put (it := imm (.slice a_r r.length c_r) r) rfl (by rw [MS_nil]; exact h_r)
 have ln_r := rv_len h_r
 have i0 : f0 0 = .slice a_r r.length c_r := ha 0 (by simp)
 refine sq (rg (k (asg (v := .slice none 0 0) rfl rfl (z (nx (sq (rg (k (asg (v := .slice none 0 0) rfl rfl (z (nx (sq (sq (rg (k (mv rfl i0 (k (lnS rfl rfl un91 (k (mv (v := iV 0) rfl rfl (z (nx (bk ?_)))))))))))))))))))))))
 have H1 := H0.nil_ Int 3
 refine lp (fun m f w' => ∃ (j : Nat) (xs : List Int) (a0 : Option Addr) (c0 : Nat), m = r.length - j ∧ f 3 = .slice a0 xs.length c0 ∧ f 6 = .slice a_r r.length c_r ∧ f 7 = iV (r.length : Int) ∧ f 8 = iV (j : Int) ∧  HI M w w' [own w.heap.size 3 (.slice a0 xs.length c0) xs, imm (.slice a_r r.length c_r) r] ∧ (j ≤ r.length) ∧ (xs = listTo r j)) _ ⟨0, ([] : List Int), none, 0, rfl, rfl, rfl, rfl, (ieq rfl (by first | rfl | omega | simp)), H1, (by first | assumption | omega | simp | (simp; omega)), (by rfl)⟩ ?_
 rintro _ f0 w0 ⟨j, xs, a0, c0, rfl, s0, s1, s2, s3, H2, hk, hs⟩
 refine sq (rg (k (lss rfl rfl s3 s2 (z (nx (sq ?_))))))
 refine cd (b := decide ((j : Int) < (r.length : Int))) rfl rfl (fun b0 => ?_) (fun b0 => ?_)
 ·
  have p0 := of_decide_eq_true b0
  refine sk (nx (sq (bk (sq (rg (k (mv rfl s3 (k (ia (H2.rv 1 rfl) rfl rfl s1 s3 (by first | omega | (simp; omega)) un91 ty94 ?_)))))))))
  intro ad0 x0 hx0 hA0
  refine k (ldU hA0.w ty94 rfl rfl (k (asg (v := iV (j : Int)) rfl rfl (k (asg (v := U x0) rfl rfl (z (nx (bk ?_))))))))
  refine lp (fun m f w' => ∃ (y : BitVec 64) (ys : List Int) (a1 : Option Addr) (c1 : Nat), m = (listW y).length ∧ f 3 = .slice a1 ys.length c1 ∧ f 4 = iV (j : Int) ∧ f 5 = U y ∧ f 6 = .slice a_r r.length c_r ∧ f 7 = iV (r.length : Int) ∧ f 8 = iV (j : Int) ∧  HI M w w' [own w.heap.size 3 (.slice a1 ys.length c1) ys, imm (.slice a_r r.length c_r) r] ∧ (ys ++ intsW j y = listTo r j ++ intsW j x0)) _ ⟨x0, xs, a0, c0, rfl, s0, rfl, (ueq rfl (by first | rfl | simp)), s1, s2, s3, H2, (by rw [hs])⟩ ?_
  rintro _ f1 w1 ⟨y, ys, a1, c1, rfl, s4, s5, s6, s7, s8, s9, H3, hy⟩
  refine sq (sq (rg (k (mv rfl s6 (k (neU y (0#64) rfl rfl rfl rfl (z (nx ?_))))))))
  refine cd (b := !decide (y = (0#64))) rfl rfl (fun b1 => ?_) (fun b1 => ?_)
  ·
   have p1 := of_decide_eq_false (nott b1)
   refine sk (nx (sq (bk (rg (k (mv rfl s4 (k (mv rfl s5 (k (mul rfl rfl rfl rfl (by have h_ := firstW_le y; unfold I64; omega) (k (mv rfl s6 (k ?_)))))))))))))
   have cc0 := word_First (x := y) (w := w1) (hT.ext H3.below)
   refine ca go56 rfl (ec rfl e0) cc0 ?_
   rintro _ w2 ⟨rfl, xt0⟩
   have H4 := H3.ext xt0
   refine k (add rfl rfl rfl rfl (by have h_ := firstW_le y; unfold I64; omega) (k (bs (xs := ([((j : Int) * 64) + ((firstW y : Nat) : Int)] : List Int)) (cells := #[iV (((j : Int) * 64) + ((firstW y : Nat) : Int))]) (e := 3) H4 rfl (pbc rfl pb0) (fun _ => by kernel_rfl) ⟨[iV (((j : Int) * 64) + ((firstW y : Nat) : Int))], [], rfl, ⟨rfl, (show I64 (((j : Int) * 64) + ((firstW y : Nat) : Int)) from (by have h_ := firstW_le y; unfold I64; omega))⟩, rfl⟩ rfl (by unfold maxLen; omega) ?_)))
   intro g0 w3 xt1 H5
   refine k (ap H5 1 rfl rfl rfl rfl rfl rfl (own_src (H5.at_ 0 rfl)) un28 ty3 rfl (by have h_ := congrArg List.length hy; simp only [List.length_append] at h_; have h1 := listTo_length r j; have h2 := intsW_length j x0; simp only [List.length_cons, List.length_nil]; omega) (by have h_ := congrArg List.length hy; simp only [List.length_append] at h_; have h1 := listTo_length r j; have h2 := intsW_length j x0; simp only [List.length_cons, List.length_nil]; omega) ?_)
   intro a2 c2 w4 (H6 : HI M w w4 [own w.heap.size 3 (.slice (some ⟨g0, 0, none⟩) 1 1) ([((j : Int) * 64) + ((firstW y : Nat) : Int)] : List Int), own w.heap.size 3 (.slice a2 (ys ++ ([((j : Int) * 64) + ((firstW y : Nat) : Int)] : List Int)).length c2) (ys ++ ([((j : Int) * 64) + ((firstW y : Nat) : Int)] : List Int)), imm (.slice a_r r.length c_r) r])
   refine k (asg (v := .slice a2 (ys ++ ([((j : Int) * 64) + ((firstW y : Nat) : Int)] : List Int)).length c2) rfl rfl (z (inb_normal (nx (rg (k (mv rfl s6 (k (mv rfl s6 (k (subU y (1#64) rfl rfl rfl rfl (k (andU y (y - (1#64)) rfl rfl rfl rfl (k (asg (v := U (y &&& (y - (1#64)))) rfl rfl (z ?_))))))))))))))))
   have H7 : HI M w w4 [own w.heap.size 3 (.slice a2 (ys ++ ([((j : Int) * 64) + ((firstW y : Nat) : Int)] : List Int)).length c2) (ys ++ ([((j : Int) * 64) + ((firstW y : Nat) : Int)] : List Int)), imm (.slice a_r r.length c_r) r] := H6.pickN [1, 2] (by decide) rfl
   refine loopN _ ?_ ⟨(y &&& (y - (1#64))), (ys ++ ([((j : Int) * 64) + ((firstW y : Nat) : Int)] : List Int)), a2, c2, rfl, rfl, s5, (ueq rfl (by rfl)), s7, s8, s9, H7, (by rw [List.append_assoc, ← hy, intsW_step (show y ≠ 0#64 by simpa using p1)]; rfl)⟩
   exact clear_less (by simpa using p1)
  ·
   have p1 := of_decide_eq_true (notf b1)
   refine ex (then_exit (loop_exit (inb_here (inb_normal (nx (rg (k (add rfl rfl s9 rfl (by have h_ := firstW_le y; unfold I64; omega) (k (mv (v := iV ((j : Int) + 1)) rfl rfl (z ?_)))))))))))
   refine loopN _ ?_ ⟨(j + 1), ys, a1, c1, rfl, s4, s7, s8, (ieq rfl (by first | rfl | omega | (push_cast; omega))), H3, (by first | assumption | omega | simp | (simp; omega)), (by rw [listTo_succ, getD_at hx0]; have e_ : y = 0#64 := (by simpa using p1); subst e_; rw [intsW_zero, List.append_nil] at hy; exact hy)⟩
   omega
 ·
  have p0 := of_decide_eq_false b0
  refine ex (then_exit (loop_exit (inb_here (nx (sq (rg (k (mv rfl s0 (k (asg (v := .slice a0 xs.length c0) rfl rfl (z (nx (rt (r1 rfl rfl ?_))))))))))))))
  have e0 : (xs : List Int) = listR r := by rw [hs]; unfold listR; congr 1; omega
  have ev_ := cg1 (fun (x_0 : List Int) => (.slice a0 x_0.length c0 : Value)) e0
  exact ⟨a0, c0, ev_, H2.below, (congrArg (fun (x_ : List Int) => OwnsG _ _ _ x_ (.slice a0 x_.length c0) _) e0).mp (H2.ownsG_out 0 rfl)⟩
end Go.Proofs.YtefcbihikknlkaaDoor
namespace Go.Proofs.YtefcbihikknlkaaDoor
open Go.Ew Go.RowKit
set_option linter.unusedVariables false
set_option linter.unusedSimpArgs false
attribute [local irreducible] WL WC SO Code.wp wpList retQ Ret
attribute [local irreducible] bitB hasW inR hasR setR countW countR subR words newR listR orR firstW tab8
theorem go27 : GoF Tryd.prog 27 := ⟨_, _, Tryd.func27, rfl, by kernel_rfl⟩
theorem ty86 : TyF Tryd.prog 86 2 true 32 (.agg #[.int .i64 0, .slice none 0 0]) := ⟨by kernel_rfl, by kernel_rfl⟩
theorem ty91 : TyF Tryd.prog 91 1 false 24 (.slice none 0 0) := ⟨by kernel_rfl, by kernel_rfl⟩
theorem un84 : Tryd.prog.underlying 84 = some (.slice 91) := by kernel_rfl
theorem go69 : GoF Tryd.prog 69 := ⟨_, _, Tryd.func69, rfl, by kernel_rfl⟩
set_option maxRecDepth 100000 in
set_option maxHeartbeats 1600000 in
theorem indexFunc_int {M : Nat → Prop} {w : World} {a_r : Option Addr} {c_r : Nat} {r : List Int} {g_p : Nat} {C_p : List Value} {p : Int → Bool} (hM : ∀ b, M b → b < w.heap.size) (h_r : RV M w (.slice a_r r.length c_r) r) (h_p : FP Tryd.prog g_p C_p M w r p) : Calls Tryd.prog 27 #[.slice a_r r.length c_r, .func (.func g_p) #[] C_p.toArray] w (Ret fun v w' =>  v = .int .i64 (idxF p r) ∧ Ext w w') := by
 refine enter 19 Tryd.func27 rfl rfl rfl fun f0 ha => ?_
 have H := HI.start (M0 := M) (w := w) hM
 have H0 := H.put (it := imm (.slice a_r r.length c_r) r) rfl (by rw [MS_nil]; exact h_r)
 have ln_r := rv_len h_r
 have i0 : f0 0 = .slice a_r r.length c_r := ha 0 (by simp)
 have i1 : f0 1 = .func (.func g_p) #[] C_p.toArray := ha 1 (by simp)
 refine sq (rg (k (asg (v := iV 0) rfl rfl (z (nx (sq (sq (rg (k (mv rfl i0 (k (lnS rfl rfl un28 (k (mv (v := iV 0) rfl rfl (z (nx (bk ?_)))))))))))))))))
 refine lp (fun m f w' => ∃ (j : Nat), m = r.length - j ∧ f 0 = .slice a_r r.length c_r ∧ f 1 = .func (.func g_p) #[] C_p.toArray ∧ f 7 = iV (r.length : Int) ∧ f 8 = iV (j : Int) ∧  HI M w w' [imm (.slice a_r r.length c_r) r] ∧ (j ≤ r.length) ∧ ((r.take j).any p = false)) _ ⟨0, rfl, i0, i1, rfl, (ieq rfl (by first | rfl | omega | simp)), H0, (by first | assumption | omega | simp | (simp; omega)), (by simp)⟩ ?_
 rintro _ f0 w0 ⟨j, rfl, s0, s1, s2, s3, H1, hk, hs⟩
 refine sq (rg (k (lss rfl rfl s3 s2 (z (nx (sq ?_))))))
 refine cd (b := decide ((j : Int) < (r.length : Int))) rfl rfl (fun b0 => ?_) (fun b0 => ?_)
 ·
  have p0 := of_decide_eq_true b0
  refine sk (nx (sq (bk (sq (rg (k (mv rfl s3 (k (asg (v := iV (j : Int)) rfl rfl (z (nx (sq (rg (k (mv rfl s1 (k (mv rfl s0 (k (mv (v := iV (j : Int)) rfl rfl (k (ia (H1.rv 0 rfl) rfl rfl rfl rfl (by first | omega | (simp; omega)) un28 ty3 ?_)))))))))))))))))))))
  intro ad0 x0 hx0 hA0
  refine k (ldI hA0.w ty3 rfl rfl ?_)
  intro rv0
  refine k (cf h_p.1 rfl rfl rfl (ec rfl e0) (h_p.2 _ _ _ (by exact List.mem_of_getElem? ‹_›) H1.below ((RV.int.2 ⟨rfl, (by unfold I64 at *; omega)⟩).lift H1.out)) ?_)
  rintro _ w1 ⟨rfl, xt0⟩
  have H2 := H1.ext xt0
  refine z (nx ?_)
  refine cd (b := p x0) rfl rfl (fun b1 => ?_) (fun b1 => ?_)
  ·
   refine sq (rg (k (mv (v := iV (j : Int)) rfl rfl (k (asg (v := iV (j : Int)) rfl rfl (z (nx (rt (inb_ret (then_ret (loop_ret (inb_ret (then_ret (r1 rfl rfl ?_))))))))))))))
   have e0 : ((j : Int) : Int) = idxF p r := by exact idxF_hit hx0 hs b1
   have ev_ := cg1 (fun (x_0 : Int) => (iV x_0 : Value)) e0
   exact ⟨ev_, H2.below⟩
  ·
   refine sk (inb_normal (nx (rg (k (add rfl rfl s3 rfl (by unfold I64 at *; omega) (k (mv (v := iV ((j : Int) + 1)) rfl rfl (z ?_))))))))
   refine loopN _ ?_ ⟨(j + 1), rfl, s0, s1, s2, (ieq rfl (by first | rfl | omega | (push_cast; omega))), H2, (by first | assumption | omega | simp | (simp; omega)), (by exact any_step hx0 hs b1)⟩
   omega
 ·
  have p0 := of_decide_eq_false b0
  refine ex (then_exit (loop_exit (inb_here (nx (sq (rg (k (asg (v := iV (-1)) rfl rfl (z (nx (rt (r1 rfl rfl ?_))))))))))))
  have e0 : ((-1) : Int) = idxF p r := by exact idxF_miss hs (by omega)
  have ev_ := cg1 (fun (x_0 : Int) => (iV x_0 : Value)) e0
  exact ⟨ev_, H1.below⟩
set_option maxRecDepth 100000 in
set_option maxHeartbeats 1600000 in
theorem containsFunc_int {M : Nat → Prop} {w : World} {a_r : Option Addr} {c_r : Nat} {r : List Int} {g_p : Nat} {C_p : List Value} {p : Int → Bool} (hM : ∀ b, M b → b < w.heap.size) (h_r : RV M w (.slice a_r r.length c_r) r) (h_p : FP Tryd.prog g_p C_p M w r p) : Calls Tryd.prog 17 #[.slice a_r r.length c_r, .func (.func g_p) #[] C_p.toArray] w (Ret fun v w' =>  v = .bool (r.any p) ∧ Ext w w') := by
 refine enter 9 Tryd.func17 rfl rfl rfl fun f0 ha => ?_
 have H := HI.start (M0 := M) (w := w) hM
 have H0 := H.put (it := imm (.slice a_r r.length c_r) r) rfl (by rw [MS_nil]; exact h_r)
 have ln_r := rv_len h_r
 have i0 : f0 0 = .slice a_r r.length c_r := ha 0 (by simp)
 have i1 : f0 1 = .func (.func g_p) #[] C_p.toArray := ha 1 (by simp)
 refine sq (rg (k (asg (v := .bool false) rfl rfl (z (nx (sq (rg (k (mv rfl i0 (k (mv rfl i1 (k ?_))))))))))))
 have cc0 := indexFunc_int (r := r) (p := p) (w := w) H0.mb (H0.rv 0 rfl) (h_p.sub H0.below MS_sub)
 refine ca go27 rfl (ec rfl (ec rfl e0)) cc0 ?_
 rintro _ w0 ⟨rfl, xt0⟩
 have H1 := H0.ext xt0
 refine k (geq rfl rfl rfl rfl (k (asg (v := .bool (decide (0 ≤ (idxF p r)))) rfl rfl (z (nx (rt (r1 rfl rfl ?_)))))))
 have e0 : (decide (0 ≤ (idxF p r)) : Bool) = r.any p := by exact idxF_any
 have ev_ := cg1 (fun (x_0 : Bool) => (.bool x_0 : Value)) e0
 exact ⟨ev_, H1.below⟩
set_option maxRecDepth 100000 in
set_option maxHeartbeats 1600000 in
theorem mat_New {M : Nat → Prop} {w : World} {n : Int} (hM : ∀ b, M b → b < w.heap.size) (h_n : I64 n) : Calls Tryd.prog 60 #[.int .i64 n] w (Ret fun v w' => ∃ (a0 : Option Addr) (c0 : Nat), v = .tuple #[.agg #[.int .i64 (newMN n), .slice a0 (newMR n).length c0], .int .i64 (newME n)] ∧ Ext w w' ∧ OwnsG M 91 w (newMR n) (.slice a0 (newMR n).length c0) w') := by
 refine enter 29 Tryd.func60 rfl rfl rfl fun f0 ha => ?_
 have H := HI.start (M0 := M) (w := w) hM
 have i0 : f0 0 = iV n := ha 0 (by simp)
 refine sq (rg (k (al H ty86 ?_)))
 intro bb0 w0 xt0 (H0 : HI M w w0 [box bb0 #[iV 0, .slice none 0 0] 86])
 refine k (asg (v := iV 0) rfl rfl (z (nx (sq (sq (rg (k (mv rfl i0 (k (lss rfl rfl rfl rfl (k (mv (v := .bool (decide (n < 0))) rfl rfl ?_))))))))))))
 rcases Bool.eq_false_or_eq_true (decide (n < 0)) with b0 | b0
 · -- decide (n < 0) is True
  have p0 := of_decide_eq_true b0
  refine k (gn rfl rfl rfl b0 (k (gn rfl rfl rfl b0 (k (pickT rfl rfl rfl rfl b0 rfl (z (nx (cdT rfl rfl rfl (sq (rg (k (bd (v := .agg #[iV 0, .slice none 0 0]) rfl pb0 (fun _ => by kernel_rfl) (k (stX H0 0 rfl ty86 rfl rfl rfl rfl rfl rfl rfl ?_))))))))))))))
  intro w1 (H1 : HI M w w1 [box bb0 #[iV 0, .slice none 0 0] 86])
  refine k (asg (v := iV 1) rfl rfl (z (nx (rt (then_ret (rc2 H1 0 rfl ty86 rfl rfl rfl rfl rfl (by decide) ?_))))))
  have e0 : (0 : Int) = newMN n := by first | exact (newM_no (okN_no.2 (by omega))).1.symm | exact (newM_yes (okN_iff.2 (by omega))).1.symm
  have e1 : ([] : List (List (BitVec 64))) = newMR n := by first | exact (newM_no (okN_no.2 (by omega))).2.1.symm | (rw [(newM_yes (okN_iff.2 (by omega))).2.1, hs]; exact fillTo_end (by omega))
  have e2 : (1 : Int) = newME n := by first | exact (newM_no (okN_no.2 (by omega))).2.2.symm | exact (newM_yes (okN_iff.2 (by omega))).2.2.symm
  have ev_ := cg3 (fun (x_0 : Int) (x_1 : List (List (BitVec 64))) (x_2 : Int) => (.tuple #[.agg #[iV x_0, .slice none x_1.length 0], iV x_2] : Value)) e0 e1 e2
  exact ⟨none, 0, ev_, H1.below, (congrArg (fun (x_ : List (List (BitVec 64))) => OwnsG _ _ _ x_ (.slice none x_.length 0) _) e1).mp (ownsG_nil H1.below)⟩
 · -- decide (n < 0) is False
  have p0 := of_decide_eq_false b0
  refine k (gy rfl rfl rfl b0 (mv rfl i0 (k (gy rfl rfl rfl b0 (gtr rfl rfl rfl rfl (k (pickF rfl rfl rfl rfl b0 rfl (z (nx ?_)))))))))
  refine cd (b := decide (4096 < n)) rfl rfl (fun b1 => ?_) (fun b1 => ?_)
  ·
   have p1 := of_decide_eq_true b1
   refine sq (rg (k (bd (v := .agg #[iV 0, .slice none 0 0]) rfl pb0 (fun _ => by kernel_rfl) (k (stX H0 0 rfl ty86 rfl rfl rfl rfl rfl rfl rfl ?_)))))
   intro w1 (H1 : HI M w w1 [box bb0 #[iV 0, .slice none 0 0] 86])
   refine k (asg (v := iV 1) rfl rfl (z (nx (rt (then_ret (rc2 H1 0 rfl ty86 rfl rfl rfl rfl rfl (by decide) ?_))))))
   have e0 : (0 : Int) = newMN n := by first | exact (newM_no (okN_no.2 (by omega))).1.symm | exact (newM_yes (okN_iff.2 (by omega))).1.symm
   have e1 : ([] : List (List (BitVec 64))) = newMR n := by first | exact (newM_no (okN_no.2 (by omega))).2.1.symm | (rw [(newM_yes (okN_iff.2 (by omega))).2.1, hs]; exact fillTo_end (by omega))
   have e2 : (1 : Int) = newME n := by first | exact (newM_no (okN_no.2 (by omega))).2.2.symm | exact (newM_yes (okN_iff.2 (by omega))).2.2.symm
   have ev_ := cg3 (fun (x_0 : Int) (x_1 : List (List (BitVec 64))) (x_2 : Int) => (.tuple #[.agg #[iV x_0, .slice none x_1.length 0], iV x_2] : Value)) e0 e1 e2
   exact ⟨none, 0, ev_, H1.below, (congrArg (fun (x_ : List (List (BitVec 64))) => OwnsG _ _ _ x_ (.slice none x_.length 0) _) e1).mp (ownsG_nil H1.below)⟩
  ·
   have p1 := of_decide_eq_false b1
   refine sk (nx (sq (rg (k (mv rfl i0 (k ?_))))))
   have n0 : ((n.toNat : Nat) : Int) = n := Int.toNat_of_nonneg (by omega)
   refine mk (m := n.toNat) (zx := ([] : (List (BitVec 64)))) H0 rfl rfl (by rw [n0]; exact rfl) (by rw [n0]; exact rfl) un84 ty91 (fun _ _ => ⟨_, rfl, rs_nil _ _⟩) (by first | omega | (simp; omega)) (by first | omega | (simp; omega)) ?_
   intro g0 w1 xt1 (H1 : HI M w w1 [own w.heap.size 91 (.slice (some ⟨g0, 0, none⟩) n.toNat n.toNat) (List.replicate n.toNat ([] : (List (BitVec 64)))), box bb0 #[iV 0, .slice none 0 0] 86])
   refine k (asg (v := .slice (some ⟨g0, 0, none⟩) n.toNat n.toNat) rfl rfl (z (nx (sq (sq (rg (k (mv (v := .slice (some ⟨g0, 0, none⟩) n.toNat n.toNat) rfl rfl (k (lnS rfl rfl un84 (k (mv (v := iV 0) rfl rfl (z (nx (bk ?_)))))))))))))))
   refine lp (fun m f w' => ∃ (j : Nat) (xs : List (List (BitVec 64))), m = n.toNat - j ∧ f 0 = iV n ∧ f 2 = pV bb0 0 ∧ f 4 = .slice (some ⟨g0, 0, none⟩) n.toNat n.toNat ∧ f 16 = iV (n.toNat : Int) ∧ f 17 = iV (j : Int) ∧  HI M w w' [own w.heap.size 91 (.slice (some ⟨g0, 0, none⟩) n.toNat n.toNat) xs, box bb0 #[iV 0, .slice none 0 0] 86] ∧ (j ≤ n.toNat) ∧ (xs.length = n.toNat) ∧ (xs = fillTo n.toNat j (newR n) [])) _ ⟨0, (List.replicate n.toNat ([] : (List (BitVec 64)))), rfl, i0, rfl, rfl, rfl, (ieq rfl (by first | rfl | omega | simp)), H1, (by first | assumption | omega | simp | (simp; omega)), (by simp), (by exact fillTo_zero _ _ _)⟩ ?_
   rintro _ f0 w2 ⟨j, xs, rfl, s0, s1, s2, s3, s4, H2, hk, hl, hs⟩
   refine sq (rg (k (lss rfl rfl s4 s3 (z (nx (sq ?_))))))
   refine cd (b := decide ((j : Int) < (n.toNat : Int))) rfl rfl (fun b2 => ?_) (fun b2 => ?_)
   ·
    have p2 := of_decide_eq_true b2
    refine sk (nx (sq (bk (sq (rg (k (mv rfl s4 (k (asg (v := iV (j : Int)) rfl rfl (z (nx (rg (k (mv rfl s2 (k (mv (v := iV (j : Int)) rfl rfl (k (mv rfl s0 (k ?_)))))))))))))))))))
    have cc0 := row_New (n := n) (w := w2) H2.mb (by unfold I64 at *; omega) (by first | omega | (simp; omega))
    refine ca go69 rfl (ec rfl e0) cc0 ?_
    rintro _ w3 ⟨a0, c0, rfl, xt2, rv0⟩
    have H3 := H2.ownsG rv0
    refine k (iaO (H3.at_ 1 rfl) rfl rfl rfl rfl (by first | omega | (simp; omega)) un84 ty91 ?_)
    intro g1 x0 hv0 hx0 hA0
    refine k ?_
    have H4 := H3.freeze 0 rfl
    refine stO H4 1 rfl hv0 rfl (by first | omega | (simp; omega)) ty91 rfl rfl rfl rfl (H4.rv 0 rfl) ?_
    intro w4 (H5 : HI M w w4 [imm (.slice a0 (newR n).length c0) (newR n), own w.heap.size 91 (.slice (some ⟨g0, 0, none⟩) n.toNat n.toNat) (xs.set ((j : Int).toNat) (newR n)), box bb0 #[iV 0, .slice none 0 0] 86])
    refine z (inb_normal (nx (rg (k (add rfl rfl s4 rfl (by unfold I64 at *; omega) (k (mv (v := iV ((j : Int) + 1)) rfl rfl (z ?_))))))))
    have H6 : HI M w w4 [own w.heap.size 91 (.slice (some ⟨g0, 0, none⟩) n.toNat n.toNat) (xs.set ((j : Int).toNat) (newR n)), box bb0 #[iV 0, .slice none 0 0] 86] := H5.pickN [1, 2] (by decide) rfl
    refine loopN _ ?_ ⟨(j + 1), (xs.set ((j : Int).toNat) (newR n)), rfl, s0, s1, s2, s3, (ieq rfl (by first | rfl | omega | (push_cast; omega))), H6, (by first | assumption | omega | simp | (simp; omega)), (by simpa using hl), (by rw [hs]; exact fillTo_set (by omega))⟩
    omega
   ·
    have p2 := of_decide_eq_false b2
    refine ex (then_exit (loop_exit (inb_here (nx (sq (rg (k (mv rfl s0 (k (mv rfl s2 (k (bd (v := .agg #[iV n, .slice (some ⟨g0, 0, none⟩) n.toNat n.toNat]) rfl (pbc rfl (pbc rfl pb0)) (fun _ => by kernel_rfl) (k (stX H2 1 rfl ty86 rfl rfl s1 rfl rfl rfl rfl ?_))))))))))))))
    intro w3 (H3 : HI M w w3 [own w.heap.size 91 (.slice (some ⟨g0, 0, none⟩) n.toNat n.toNat) xs, box bb0 #[iV n, .slice (some ⟨g0, 0, none⟩) n.toNat n.toNat] 86])
    refine k (asg (v := iV 0) rfl rfl (z (nx (rt (rc2 H3 1 rfl ty86 rfl rfl rfl s1 rfl (by decide) ?_)))))
    have e0 : (n : Int) = newMN n := by first | exact (newM_no (okN_no.2 (by omega))).1.symm | exact (newM_yes (okN_iff.2 (by omega))).1.symm
    have e1 : (xs : List (List (BitVec 64))) = newMR n := by first | exact (newM_no (okN_no.2 (by omega))).2.1.symm | (rw [(newM_yes (okN_iff.2 (by omega))).2.1, hs]; exact fillTo_end (by omega))
    have l1 : n.toNat = (newMR n).length := by first | rfl | (rw [← e1]; omega) | (rw [← e1]; simp) | simp
    have e2 : (0 : Int) = newME n := by first | exact (newM_no (okN_no.2 (by omega))).2.2.symm | exact (newM_yes (okN_iff.2 (by omega))).2.2.symm
    have ev_ := cg3 (fun (x_0 : Int) (n_1 : Nat) (x_2 : Int) => (.tuple #[.agg #[iV x_0, .slice (some ⟨g0, 0, none⟩) n_1 n.toNat], iV x_2] : Value)) e0 l1 e2
    exact ⟨(some ⟨g0, 0, none⟩), n.toNat, ev_, H3.below, (congrArg (fun (n_ : Nat) => OwnsG _ _ _ (newMR n) (.slice (some ⟨g0, 0, none⟩) n_ n.toNat) _) l1).mp ((congrArg (fun (x_ : List (List (BitVec 64))) => OwnsG _ _ _ x_ (.slice (some ⟨g0, 0, none⟩) n.toNat n.toNat) _) e1).mp (H3.ownsG_out 0 rfl))⟩
end Go.Proofs.YtefcbihikknlkaaDoor
namespace Go.Proofs.YtefcbihikknlkaaDoor
open Go.Ew Go.RowKit
set_option linter.unusedVariables false
set_option linter.unusedSimpArgs false
attribute [local irreducible] WL WC SO Code.wp wpList retQ Ret
attribute [local irreducible] bitB hasW inR hasR setR countW countR subR words newR listR orR firstW tab8
end Go.Proofs.YtefcbihikknlkaaDoor
namespace Go.Proofs.YtefcbihikknlkaaDoor
open Go.Ew Go.RowKit
set_option linter.unusedVariables false
set_option linter.unusedSimpArgs false
attribute [local irreducible] WL WC SO Code.wp wpList retQ Ret
attribute [local irreducible] bitB hasW inR hasR setR countW countR subR words newR listR orR firstW tab8
theorem ty51 : TyF Tryd.prog 51 1 false 8 (.pointer none) := ⟨by kernel_rfl, by kernel_rfl⟩
theorem fl54_0 : FldF Tryd.prog 54 0 0 := ⟨_, _, Tryd.underlying54, rfl, rfl, by kernel_rfl⟩
theorem fl30_1 : FldF Tryd.prog 30 1 1 := ⟨_, _, Tryd.underlying30, rfl, rfl, by kernel_rfl⟩
theorem ty27 : TyF Tryd.prog 27 1 false 24 (.slice none 0 0) := ⟨by kernel_rfl, by kernel_rfl⟩
theorem un27 : Tryd.prog.underlying 27 = some (.slice 65) := by kernel_rfl
theorem go39 : GoF Tryd.prog 39 := ⟨_, _, Tryd.func39, rfl, by kernel_rfl⟩
theorem go17 : GoF Tryd.prog 17 := ⟨_, _, Tryd.func17, rfl, by kernel_rfl⟩
theorem ty35 : TyF Tryd.prog 35 5 true 40 (.agg #[.int .i64 0, .int .i64 0, .int .i64 0, .int .i64 0, .int .i64 0]) := ⟨by kernel_rfl, by kernel_rfl⟩
theorem fl54_1 : FldF Tryd.prog 54 1 3 := ⟨_, _, Tryd.underlying54, rfl, rfl, by kernel_rfl⟩
theorem ty23 : TyF Tryd.prog 23 1 false 24 (.slice none 0 0) := ⟨by kernel_rfl, by kernel_rfl⟩
theorem un23 : Tryd.prog.underlying 23 = some (.slice 35) := by kernel_rfl
set_option maxRecDepth 100000 in
set_option maxHeartbeats 1600000 in
theorem aud_op1 {M : Nat → Prop} {w : World} {i : Int} {b_ap : Nat} {ty_ap : TypeId} {b_a : Nat} {ty_a : TypeId} {a_fv : Option Addr} {n_fv c_fv : Nat} {a_fi : Option Addr} {c_fi : Nat} {fi : List (Int × Int × Bool × Int × Int)} {a_fo : Option Addr} {n_fo c_fo : Nat} {a_stp : Option Addr} {n_stp c_stp : Nat} {a_pl : Option Addr} {n_pl c_pl : Nat} (hM : ∀ b, M b → b < w.heap.size) (h_i : I64 i) (h_fi : RV M w (.slice a_fi fi.length c_fi) fi) (h_ap : w.heap[b_ap]? = some (.cells #[.pointer (some ⟨b_a, 0, none⟩)] ty_ap (0, 0)) ∧ ¬ M b_ap) (h_a : w.heap[b_a]? = some (.cells #[.slice a_fv n_fv c_fv, .slice a_fi fi.length c_fi, .slice a_fo n_fo c_fo, .slice a_stp n_stp c_stp, .slice a_pl n_pl c_pl] ty_a (0, 0)) ∧ ¬ M b_a) : Calls Tryd.prog 39 #[.int .i64 i, .pointer (some ⟨b_ap, 0, none⟩)] w (Ret fun v w' =>  v = .bool (outO fi i) ∧ Ext w w') := by
 refine enter 16 Tryd.func39 rfl rfl rfl fun f0 ha => ?_
 have H := HI.start (M0 := M) (w := w) hM
 have H0 := H.put (it := imm (.slice a_fi fi.length c_fi) fi) rfl (by rw [MS_nil]; exact h_fi)
 have ln_fi := rv_len h_fi
 have i0 : f0 0 = iV i := ha 0 (by simp)
 have H1 := H0.put (it := ro b_a #[.slice a_fv n_fv c_fv, .slice a_fi fi.length c_fi, .slice a_fo n_fo c_fo, .slice a_stp n_stp c_stp, .slice a_pl n_pl c_pl] ty_a) rfl (by rw [MS_cons_none rfl, MS_nil]; exact h_a)
 have H2 := H1.put (it := ro b_ap #[pV b_a 0] ty_ap) rfl (by rw [MS_cons_none rfl, MS_cons_none rfl, MS_nil]; exact h_ap)
 have i1 : f0 1 = pV b_ap 0 := ha 1 (by simp)
 refine sq (rg (k (asg (v := .bool false) rfl rfl (z (nx (sq (rg (k (mv rfl i0 (k (lss rfl rfl rfl rfl (k (mv (v := .bool (decide (i < 0))) rfl rfl ?_)))))))))))))
 rcases Bool.eq_false_or_eq_true (decide (i < 0)) with b0 | b0
 · -- decide (i < 0) is True
  have p0 := of_decide_eq_true b0
  refine k (gn rfl rfl rfl b0 (k (gn rfl rfl rfl b0 (k (gn rfl rfl rfl b0 (k (gn rfl rfl rfl b0 (k (gn rfl rfl rfl b0 (k (gn rfl rfl rfl b0 (k (gn rfl rfl rfl b0 (k (gn rfl rfl rfl b0 (k (pickT rfl rfl rfl rfl b0 rfl (k (asg (v := .bool true) rfl rfl (z (nx (rt (r1 rfl rfl ?_)))))))))))))))))))))))
  have e0 : (true : Bool) = outO fi i := by first | (rw [outO_lo (by assumption)]; done) | (rw [outO_lo (by assumption)]; rfl) | exact outO_hi (by assumption)
  have ev_ := cg1 (fun (x_0 : Bool) => (.bool x_0 : Value)) e0
  exact ⟨ev_, H2.below⟩
 · -- decide (i < 0) is False
  have p0 := of_decide_eq_false b0
  refine k (gy rfl rfl rfl b0 (mv rfl i0 (k (gy rfl rfl rfl b0 (ldR H2 0 rfl ty51 rfl i1 (by decide) rfl (k (gy rfl rfl rfl b0 (nc rfl rfl (k (gy rfl rfl rfl b0 (fa fl54_0 rfl rfl (k (gy rfl rfl rfl b0 (fa fl30_1 rfl rfl (k (gy rfl rfl rfl b0 (ldR H2 1 rfl ty27 rfl rfl (by decide) rfl (k (gy rfl rfl rfl b0 (lnS rfl rfl un27 (k (gy rfl rfl rfl b0 (geq rfl rfl rfl rfl (k (pickF rfl rfl rfl rfl b0 rfl (k (asg (v := .bool (decide ((fi.length : Int) ≤ i))) rfl rfl (z (nx (rt (r1 rfl rfl ?_)))))))))))))))))))))))))))))))
  have e0 : (decide ((fi.length : Int) ≤ i) : Bool) = outO fi i := by first | (rw [outO_lo (by assumption)]; done) | (rw [outO_lo (by assumption)]; rfl) | exact outO_hi (by assumption)
  have ev_ := cg1 (fun (x_0 : Bool) => (.bool x_0 : Value)) e0
  exact ⟨ev_, H2.below⟩
set_option maxRecDepth 100000 in
set_option maxHeartbeats 1600000 in
theorem aud_op {M : Nat → Prop} {w : World} {b_a : Nat} {ty_a : TypeId} {a_fv : Option Addr} {n_fv c_fv : Nat} {a_fi : Option Addr} {c_fi : Nat} {fi : List (Int × Int × Bool × Int × Int)} {a_fo : Option Addr} {n_fo c_fo : Nat} {a_stp : Option Addr} {n_stp c_stp : Nat} {a_pl : Option Addr} {n_pl c_pl : Nat} {a_l : Option Addr} {c_l : Nat} {l : List Int} (hM : ∀ b, M b → b < w.heap.size) (h_fi : RV M w (.slice a_fi fi.length c_fi) fi) (h_l : RV M w (.slice a_l l.length c_l) l) (h_a : w.heap[b_a]? = some (.cells #[.slice a_fv n_fv c_fv, .slice a_fi fi.length c_fi, .slice a_fo n_fo c_fo, .slice a_stp n_stp c_stp, .slice a_pl n_pl c_pl] ty_a (0, 0)) ∧ ¬ M b_a) : Calls Tryd.prog 28 #[.pointer (some ⟨b_a, 0, none⟩), .slice a_l l.length c_l] w (Ret fun v w' =>  v = .bool (!(l.any (outO fi))) ∧ Ext w w') := by
 refine enter 9 Tryd.func28 rfl rfl rfl fun f0 ha => ?_
 have H := HI.start (M0 := M) (w := w) hM
 have H0 := H.put (it := imm (.slice a_fi fi.length c_fi) fi) rfl (by rw [MS_nil]; exact h_fi)
 have H1 := H0.put (it := imm (.slice a_l l.length c_l) l) rfl (by rw [MS_cons_none rfl, MS_nil]; exact h_l)
 have ln_fi := rv_len h_fi
 have ln_l := rv_len h_l
 have H2 := H1.put (it := ro b_a #[.slice a_fv n_fv c_fv, .slice a_fi fi.length c_fi, .slice a_fo n_fo c_fo, .slice a_stp n_stp c_stp, .slice a_pl n_pl c_pl] ty_a) rfl (by rw [MS_cons_none rfl, MS_cons_none rfl, MS_nil]; exact h_a)
 have i0 : f0 0 = pV b_a 0 := ha 0 (by simp)
 have i1 : f0 1 = .slice a_l l.length c_l := ha 1 (by simp)
 refine sq (rg (k (bx H2 rfl i0 ?_)))
 intro bb0 w0 xt0 (H3 : HI M w w0 [box bb0 #[pV b_a 0] 51, ro b_a #[.slice a_fv n_fv c_fv, .slice a_fi fi.length c_fi, .slice a_fo n_fo c_fo, .slice a_stp n_stp c_stp, .slice a_pl n_pl c_pl] ty_a, imm (.slice a_l l.length c_l) l, imm (.slice a_fi fi.length c_fi) fi])
 refine k (asg (v := .bool false) rfl rfl (z (nx (sq (rg (k (mv rfl i1 (k (mf rfl (k ?_))))))))))
 have cc0 := containsFunc_int (r := l) (p := (fun (x_ : Int) => outO fi x_)) (w := w0) H3.mb (H3.rv 2 rfl) ⟨go39, fun w_ v_ x_ hx_ e_ hv_ => by have H_ := H3.ext e_; obtain ⟨_, ⟨rfl, rv0⟩, rfl⟩ := hv_; exact aud_op1 (fi := fi) (M := fun _ => False) (fun _ h_ => h_.elim) rv0 ((H_.rv 3 rfl).lift (Up.less fun _ _ h_ => h_.elim)) ⟨H_.at_ 0 rfl, fun h_ => h_⟩ ⟨(H_.at_ 1 rfl).1, fun h_ => h_⟩⟩
 refine ca go17 rfl (ec rfl (ec rfl e0)) cc0 ?_
 rintro _ w1 ⟨rfl, xt1⟩
 have H4 := H3.ext xt1
 refine k (not_ rfl rfl (k (asg (v := .bool (!(l.any (fun (x_ : Int) => outO fi x_)))) rfl rfl (z (nx (rt (r1 rfl rfl ?_)))))))
 have e0 : (!(l.any (fun (x_ : Int) => outO fi x_)) : Bool) = !(l.any (outO fi)) := rfl
 have ev_ := cg1 (fun (x_0 : Bool) => (.bool x_0 : Value)) e0
 exact ⟨ev_, H4.below⟩
set_option maxRecDepth 100000 in
set_option maxHeartbeats 1600000 in
theorem aud_step {M : Nat → Prop} {w : World} {b_a : Nat} {ty_a : TypeId} {a_fv : Option Addr} {n_fv c_fv : Nat} {a_fi : Option Addr} {n_fi c_fi : Nat} {a_fo : Option Addr} {n_fo c_fo : Nat} {a_stp : Option Addr} {c_stp : Nat} {stp : List (Int × Int × Int × Int × Int)} {a_pl : Option Addr} {n_pl c_pl : Nat} {i : Int} (hM : ∀ b, M b → b < w.heap.size) (h_stp : RV M w (.slice a_stp stp.length c_stp) stp) (h_i : I64 i) (h_a : w.heap[b_a]? = some (.cells #[.slice a_fv n_fv c_fv, .slice a_fi n_fi c_fi, .slice a_fo n_fo c_fo, .slice a_stp stp.length c_stp, .slice a_pl n_pl c_pl] ty_a (0, 0)) ∧ ¬ M b_a) : Calls Tryd.prog 38 #[.pointer (some ⟨b_a, 0, none⟩), .int .i64 i] w (Ret fun v w' =>  v = .tuple #[.agg #[.int .i64 ((stpO stp i).elim 0 (·.1)), .int .i64 ((stpO stp i).elim 0 (·.2.1)), .int .i64 ((stpO stp i).elim 0 (·.2.2.1)), .int .i64 ((stpO stp i).elim 0 (·.2.2.2.1)), .int .i64 ((stpO stp i).elim 0 (·.2.2.2.2))], .bool ((stpO stp i).isSome)] ∧ Ext w w') := by
 refine enter 25 Tryd.func38 rfl rfl rfl fun f0 ha => ?_
 have H := HI.start (M0 := M) (w := w) hM
 have H0 := H.put (it := imm (.slice a_stp stp.length c_stp) stp) rfl (by rw [MS_nil]; exact h_stp)
 have ln_stp := rv_len h_stp
 have H1 := H0.put (it := ro b_a #[.slice a_fv n_fv c_fv, .slice a_fi n_fi c_fi, .slice a_fo n_fo c_fo, .slice a_stp stp.length c_stp, .slice a_pl n_pl c_pl] ty_a) rfl (by rw [MS_cons_none rfl, MS_nil]; exact h_a)
 have i0 : f0 0 = pV b_a 0 := ha 0 (by simp)
 have i1 : f0 1 = iV i := ha 1 (by simp)
 refine sq (rg (k (al H1 ty35 ?_)))
 intro bb0 w0 xt0 (H2 : HI M w w0 [box bb0 #[iV 0, iV 0, iV 0, iV 0, iV 0] 35, ro b_a #[.slice a_fv n_fv c_fv, .slice a_fi n_fi c_fi, .slice a_fo n_fo c_fo, .slice a_stp stp.length c_stp, .slice a_pl n_pl c_pl] ty_a, imm (.slice a_stp stp.length c_stp) stp])
 refine k (asg (v := .bool false) rfl rfl (z (nx (sq (sq (rg (k (mv rfl i1 (k (lss rfl rfl rfl rfl (k (mv (v := .bool (decide (i < 0))) rfl rfl ?_))))))))))))
 rcases Bool.eq_false_or_eq_true (decide (i < 0)) with b0 | b0
 · -- decide (i < 0) is True
  have p0 := of_decide_eq_true b0
  refine k (gn rfl rfl rfl b0 (k (gn rfl rfl rfl b0 (k (gn rfl rfl rfl b0 (k (gn rfl rfl rfl b0 (k (gn rfl rfl rfl b0 (k (gn rfl rfl rfl b0 (k (gn rfl rfl rfl b0 (k (pickT rfl rfl rfl rfl b0 rfl (z (nx (cdT rfl rfl rfl (sq (rg (k (bd (v := .agg #[iV 0, iV 0, iV 0, iV 0, iV 0]) rfl pb0 (fun _ => by kernel_rfl) (k (stX H2 0 rfl ty35 rfl rfl rfl rfl rfl rfl rfl ?_))))))))))))))))))))))))
  intro w1 (H3 : HI M w w1 [box bb0 #[iV 0, iV 0, iV 0, iV 0, iV 0] 35, ro b_a #[.slice a_fv n_fv c_fv, .slice a_fi n_fi c_fi, .slice a_fo n_fo c_fo, .slice a_stp stp.length c_stp, .slice a_pl n_pl c_pl] ty_a, imm (.slice a_stp stp.length c_stp) stp])
  refine k (asg (v := .bool false) rfl rfl (z (nx (rt (then_ret (rc2 H3 0 rfl ty35 rfl rfl rfl rfl rfl (by decide) ?_))))))
  have e0 : (0 : Int) = (stpO stp i).elim 0 (·.1) := by first | (rw [stpO_no (by omega)]; rfl) | (rw [stpO_at (by omega) hx0]; rfl)
  have e1 : (0 : Int) = (stpO stp i).elim 0 (·.2.1) := by first | (rw [stpO_no (by omega)]; rfl) | (rw [stpO_at (by omega) hx0]; rfl)
  have e2 : (0 : Int) = (stpO stp i).elim 0 (·.2.2.1) := by first | (rw [stpO_no (by omega)]; rfl) | (rw [stpO_at (by omega) hx0]; rfl)
  have e3 : (0 : Int) = (stpO stp i).elim 0 (·.2.2.2.1) := by first | (rw [stpO_no (by omega)]; rfl) | (rw [stpO_at (by omega) hx0]; rfl)
  have e4 : (0 : Int) = (stpO stp i).elim 0 (·.2.2.2.2) := by first | (rw [stpO_no (by omega)]; rfl) | (rw [stpO_at (by omega) hx0]; rfl)
  have e5 : (false : Bool) = (stpO stp i).isSome := by first | (rw [stpO_no (by omega)]; rfl) | (rw [stpO_at (by omega) hx0]; rfl)
  have ev_ := cg6 (fun (x_0 : Int) (x_1 : Int) (x_2 : Int) (x_3 : Int) (x_4 : Int) (x_5 : Bool) => (.tuple #[.agg #[iV x_0, iV x_1, iV x_2, iV x_3, iV x_4], .bool x_5] : Value)) e0 e1 e2 e3 e4 e5
  exact ⟨ev_, H3.below⟩
 · -- decide (i < 0) is False
  have p0 := of_decide_eq_false b0
  refine k (gy rfl rfl rfl b0 (mv rfl i1 (k (gy rfl rfl rfl b0 (mv rfl i0 (k (gy rfl rfl rfl b0 (nc rfl rfl (k (gy rfl rfl rfl b0 (fa fl54_1 rfl rfl (k (gy rfl rfl rfl b0 (ldR H2 1 rfl ty23 rfl rfl (by decide) rfl (k (gy rfl rfl rfl b0 (lnS rfl rfl un23 (k (gy rfl rfl rfl b0 (geq rfl rfl rfl rfl (k (pickF rfl rfl rfl rfl b0 rfl (z (nx ?_))))))))))))))))))))))))
  refine cd (b := decide ((stp.length : Int) ≤ i)) rfl rfl (fun b1 => ?_) (fun b1 => ?_)
  ·
   have p1 := of_decide_eq_true b1
   refine sq (rg (k (bd (v := .agg #[iV 0, iV 0, iV 0, iV 0, iV 0]) rfl pb0 (fun _ => by kernel_rfl) (k (stX H2 0 rfl ty35 rfl rfl rfl rfl rfl rfl rfl ?_)))))
   intro w1 (H3 : HI M w w1 [box bb0 #[iV 0, iV 0, iV 0, iV 0, iV 0] 35, ro b_a #[.slice a_fv n_fv c_fv, .slice a_fi n_fi c_fi, .slice a_fo n_fo c_fo, .slice a_stp stp.length c_stp, .slice a_pl n_pl c_pl] ty_a, imm (.slice a_stp stp.length c_stp) stp])
   refine k (asg (v := .bool false) rfl rfl (z (nx (rt (then_ret (rc2 H3 0 rfl ty35 rfl rfl rfl rfl rfl (by decide) ?_))))))
   have e0 : (0 : Int) = (stpO stp i).elim 0 (·.1) := by first | (rw [stpO_no (by omega)]; rfl) | (rw [stpO_at (by omega) hx0]; rfl)
   have e1 : (0 : Int) = (stpO stp i).elim 0 (·.2.1) := by first | (rw [stpO_no (by omega)]; rfl) | (rw [stpO_at (by omega) hx0]; rfl)
   have e2 : (0 : Int) = (stpO stp i).elim 0 (·.2.2.1) := by first | (rw [stpO_no (by omega)]; rfl) | (rw [stpO_at (by omega) hx0]; rfl)
   have e3 : (0 : Int) = (stpO stp i).elim 0 (·.2.2.2.1) := by first | (rw [stpO_no (by omega)]; rfl) | (rw [stpO_at (by omega) hx0]; rfl)
   have e4 : (0 : Int) = (stpO stp i).elim 0 (·.2.2.2.2) := by first | (rw [stpO_no (by omega)]; rfl) | (rw [stpO_at (by omega) hx0]; rfl)
   have e5 : (false : Bool) = (stpO stp i).isSome := by first | (rw [stpO_no (by omega)]; rfl) | (rw [stpO_at (by omega) hx0]; rfl)
   have ev_ := cg6 (fun (x_0 : Int) (x_1 : Int) (x_2 : Int) (x_3 : Int) (x_4 : Int) (x_5 : Bool) => (.tuple #[.agg #[iV x_0, iV x_1, iV x_2, iV x_3, iV x_4], .bool x_5] : Value)) e0 e1 e2 e3 e4 e5
   exact ⟨ev_, H3.below⟩
  ·
   have p1 := of_decide_eq_false b1
   refine sk (nx (sq (rg (k (mv rfl i0 (k (nc rfl rfl (k (fa fl54_1 rfl rfl (k (ldR H2 1 rfl ty23 rfl rfl (by decide) rfl (k (mv rfl i1 (k (ia (H2.rv 2 rfl) rfl rfl rfl rfl (by first | omega | (simp; omega)) un23 ty35 ?_)))))))))))))))
   intro ad0 x0 hx0 hA0
   refine k (ldW hA0.w ty35 rfl rfl ?_)
   intro v0 rv0
   obtain ⟨_, ⟨_, _, rfl, ⟨rfl, rv1⟩, ⟨_, _, rfl, ⟨rfl, rv2⟩, ⟨_, _, rfl, ⟨rfl, rv3⟩, ⟨_, _, rfl, ⟨rfl, rv4⟩, ⟨rfl, rv5⟩⟩⟩⟩⟩, rfl⟩ := rv0
   refine k (stX H2 0 rfl ty35 rfl rfl rfl rfl rfl rfl rfl ?_)
   intro w1 (H3 : HI M w w1 [box bb0 #[iV x0.1, iV x0.2.1, iV x0.2.2.1, iV x0.2.2.2.1, iV x0.2.2.2.2] 35, ro b_a #[.slice a_fv n_fv c_fv, .slice a_fi n_fi c_fi, .slice a_fo n_fo c_fo, .slice a_stp stp.length c_stp, .slice a_pl n_pl c_pl] ty_a, imm (.slice a_stp stp.length c_stp) stp])
   refine k (asg (v := .bool true) rfl rfl (z (nx (rt (rc2 H3 0 rfl ty35 rfl rfl rfl rfl rfl (by decide) ?_)))))
   have e0 : (x0.1 : Int) = (stpO stp i).elim 0 (·.1) := by first | (rw [stpO_no (by omega)]; rfl) | (rw [stpO_at (by omega) hx0]; rfl)
   have e1 : (x0.2.1 : Int) = (stpO stp i).elim 0 (·.2.1) := by first | (rw [stpO_no (by omega)]; rfl) | (rw [stpO_at (by omega) hx0]; rfl)
   have e2 : (x0.2.2.1 : Int) = (stpO stp i).elim 0 (·.2.2.1) := by first | (rw [stpO_no (by omega)]; rfl) | (rw [stpO_at (by omega) hx0]; rfl)
   have e3 : (x0.2.2.2.1 : Int) = (stpO stp i).elim 0 (·.2.2.2.1) := by first | (rw [stpO_no (by omega)]; rfl) | (rw [stpO_at (by omega) hx0]; rfl)
   have e4 : (x0.2.2.2.2 : Int) = (stpO stp i).elim 0 (·.2.2.2.2) := by first | (rw [stpO_no (by omega)]; rfl) | (rw [stpO_at (by omega) hx0]; rfl)
   have e5 : (true : Bool) = (stpO stp i).isSome := by first | (rw [stpO_no (by omega)]; rfl) | (rw [stpO_at (by omega) hx0]; rfl)
   have ev_ := cg6 (fun (x_0 : Int) (x_1 : Int) (x_2 : Int) (x_3 : Int) (x_4 : Int) (x_5 : Bool) => (.tuple #[.agg #[iV x_0, iV x_1, iV x_2, iV x_3, iV x_4], .bool x_5] : Value)) e0 e1 e2 e3 e4 e5
   exact ⟨ev_, H3.below⟩
end Go.Proofs.YtefcbihikknlkaaDoor
namespace Go.Proofs.YtefcbihikknlkaaDoor
open Go.Ew Go.RowKit
set_option linter.unusedVariables false
set_option linter.unusedSimpArgs false
attribute [local irreducible] WL WC SO Code.wp wpList retQ Ret
attribute [local irreducible] bitB hasW inR hasR setR countW countR subR words newR listR orR firstW tab8
theorem go38 : GoF Tryd.prog 38 := ⟨_, _, Tryd.func38, rfl, by kernel_rfl⟩
theorem fl35_1 : FldF Tryd.prog 35 1 1 := ⟨_, _, Tryd.underlying35, rfl, rfl, by kernel_rfl⟩
theorem fl35_2 : FldF Tryd.prog 35 2 2 := ⟨_, _, Tryd.underlying35, rfl, rfl, by kernel_rfl⟩
theorem ty65 : TyF Tryd.prog 65 5 true 40 (.agg #[.int .i64 0, .int .i64 0, .bool false, .int .i64 0, .int .i64 0]) := ⟨by kernel_rfl, by kernel_rfl⟩
theorem fl65_2 : FldF Tryd.prog 65 2 2 := ⟨_, _, Tryd.underlying65, rfl, rfl, by kernel_rfl⟩
theorem ty4 : TyF Tryd.prog 4 1 false 1 (.bool false) := ⟨by kernel_rfl, by kernel_rfl⟩
theorem fl65_3 : FldF Tryd.prog 65 3 3 := ⟨_, _, Tryd.underlying65, rfl, rfl, by kernel_rfl⟩
set_option maxRecDepth 100000 in
set_option maxHeartbeats 1600000 in
theorem aud_says {M : Nat → Prop} {w : World} {b_a : Nat} {ty_a : TypeId} {a_fv : Option Addr} {n_fv c_fv : Nat} {a_fi : Option Addr} {n_fi c_fi : Nat} {a_fo : Option Addr} {n_fo c_fo : Nat} {a_stp : Option Addr} {c_stp : Nat} {stp : List (Int × Int × Int × Int × Int)} {a_pl : Option Addr} {n_pl c_pl : Nat} {n1 : Int} {n2 : Int} {n3 : Int} (hM : ∀ b, M b → b < w.heap.size) (h_stp : RV M w (.slice a_stp stp.length c_stp) stp) (h_n1 : I64 n1) (h_n2 : I64 n2) (h_n3 : I64 n3) (h_a : w.heap[b_a]? = some (.cells #[.slice a_fv n_fv c_fv, .slice a_fi n_fi c_fi, .slice a_fo n_fo c_fo, .slice a_stp stp.length c_stp, .slice a_pl n_pl c_pl] ty_a (0, 0)) ∧ ¬ M b_a) : Calls Tryd.prog 30 #[.pointer (some ⟨b_a, 0, none⟩), .int .i64 n1, .int .i64 n2, .int .i64 n3] w (Ret fun v w' =>  v = .bool (saysO stp n1 n2 n3) ∧ Ext w w') := by
 refine enter 30 Tryd.func30 rfl rfl rfl fun f0 ha => ?_
 have H := HI.start (M0 := M) (w := w) hM
 have H0 := H.put (it := imm (.slice a_stp stp.length c_stp) stp) rfl (by rw [MS_nil]; exact h_stp)
 have ln_stp := rv_len h_stp
 have H1 := H0.put (it := ro b_a #[.slice a_fv n_fv c_fv, .slice a_fi n_fi c_fi, .slice a_fo n_fo c_fo, .slice a_stp stp.length c_stp, .slice a_pl n_pl c_pl] ty_a) rfl (by rw [MS_cons_none rfl, MS_nil]; exact h_a)
 have i0 : f0 0 = pV b_a 0 := ha 0 (by simp)
 have i1 : f0 1 = iV n1 := ha 1 (by simp)
 have i2 : f0 2 = iV n2 := ha 2 (by simp)
 have i3 : f0 3 = iV n3 := ha 3 (by simp)
 refine sq (rg (k (asg (v := .bool false) rfl rfl (z (nx (sq (rg (k (mv rfl i0 (k (mv rfl i1 (k ?_))))))))))))
 have cc0 := aud_step (stp := stp) (i := n1) (a_fv := a_fv) (n_fv := n_fv) (c_fv := c_fv) (a_fi := a_fi) (n_fi := n_fi) (c_fi := c_fi) (a_fo := a_fo) (n_fo := n_fo) (c_fo := c_fo) (a_pl := a_pl) (n_pl := n_pl) (c_pl := c_pl) (w := w) H1.mb (H1.rv 1 rfl) (by unfold I64 at *; omega) (H1.at_ 0 rfl)
 refine ca go38 rfl (ec rfl (ec rfl e0)) cc0 ?_
 rintro _ w0 ⟨rfl, xt0⟩
 have H2 := H1.ext xt0
 refine k (mv (v := .tuple #[.agg #[iV ((stpO stp n1).elim 0 (·.1)), iV ((stpO stp n1).elim 0 (·.2.1)), iV ((stpO stp n1).elim 0 (·.2.2.1)), iV ((stpO stp n1).elim 0 (·.2.2.2.1)), iV ((stpO stp n1).elim 0 (·.2.2.2.2))], .bool ((stpO stp n1).isSome)]) rfl rfl (k (xt rfl rfl rfl (k (xt rfl rfl rfl (k (al H2 ty35 ?_)))))))
 intro bb0 w1 xt1 (H3 : HI M w w1 [box bb0 #[iV 0, iV 0, iV 0, iV 0, iV 0] 35, ro b_a #[.slice a_fv n_fv c_fv, .slice a_fi n_fi c_fi, .slice a_fo n_fo c_fo, .slice a_stp stp.length c_stp, .slice a_pl n_pl c_pl] ty_a, imm (.slice a_stp stp.length c_stp) stp])
 refine k (stX H3 0 rfl ty35 rfl rfl rfl rfl rfl rfl rfl ?_)
 intro w2 (H4 : HI M w w2 [box bb0 #[iV ((stpO stp n1).elim 0 (·.1)), iV ((stpO stp n1).elim 0 (·.2.1)), iV ((stpO stp n1).elim 0 (·.2.2.1)), iV ((stpO stp n1).elim 0 (·.2.2.2.1)), iV ((stpO stp n1).elim 0 (·.2.2.2.2))] 35, ro b_a #[.slice a_fv n_fv c_fv, .slice a_fi n_fi c_fi, .slice a_fo n_fo c_fo, .slice a_stp stp.length c_stp, .slice a_pl n_pl c_pl] ty_a, imm (.slice a_stp stp.length c_stp) stp])
 refine k (asg (v := .bool ((stpO stp n1).isSome)) rfl rfl (z (nx (sq (rg (k (mv (v := .bool ((stpO stp n1).isSome)) rfl rfl (k (mv (v := .bool ((stpO stp n1).isSome)) rfl rfl ?_)))))))))
 rcases Bool.eq_false_or_eq_true ((stpO stp n1).isSome) with b0 | b0
 · -- (stpO stp n1).isSome is True
  refine k (gy rfl rfl rfl b0 (fa fl35_1 rfl rfl (k (gy rfl rfl rfl b0 (ldX H4 0 rfl ty3 rfl rfl (by decide) rfl (k (gy rfl rfl rfl b0 (mv rfl i2 (k (gy rfl rfl rfl b0 (eql rfl rfl rfl rfl (k (pickT rfl rfl rfl rfl b0 rfl (k (mv (v := .bool (decide (((stpO stp n1).elim 0 (·.2.1)) = n2))) rfl rfl ?_)))))))))))))))
  rcases Bool.eq_false_or_eq_true (decide (((stpO stp n1).elim 0 (·.2.1)) = n2)) with b1 | b1
  · -- decide (((stpO stp n1).elim 0 (·.2.1)) = n2) is True
   have p1 := of_decide_eq_true b1
   refine k (gy rfl rfl rfl b1 (fa fl35_2 rfl rfl (k (gy rfl rfl rfl b1 (ldX H4 0 rfl ty3 rfl rfl (by decide) rfl (k (gy rfl rfl rfl b1 (mv rfl i3 (k (gy rfl rfl rfl b1 (eql rfl rfl rfl rfl (k (pickT rfl rfl rfl rfl b1 rfl (k (asg (v := .bool (decide (((stpO stp n1).elim 0 (·.2.2.1)) = n3))) rfl rfl (z (nx (rt (r1 rfl rfl ?_)))))))))))))))))))
   have e0 : (decide (((stpO stp n1).elim 0 (·.2.2.1)) = n3) : Bool) = saysO stp n1 n2 n3 := by first | exact says_no (by assumption) | exact says_f (by assumption) (by assumption) | exact says_t (by assumption) (by assumption)
   have ev_ := cg1 (fun (x_0 : Bool) => (.bool x_0 : Value)) e0
   exact ⟨ev_, H4.below⟩
  · -- decide (((stpO stp n1).elim 0 (·.2.1)) = n2) is False
   have p1 := of_decide_eq_false b1
   refine k (gn rfl rfl rfl b1 (k (gn rfl rfl rfl b1 (k (gn rfl rfl rfl b1 (k (gn rfl rfl rfl b1 (k (pickF rfl rfl rfl rfl b1 rfl (k (asg (v := .bool false) rfl rfl (z (nx (rt (r1 rfl rfl ?_)))))))))))))))
   have e0 : (false : Bool) = saysO stp n1 n2 n3 := by first | exact says_no (by assumption) | exact says_f (by assumption) (by assumption) | exact says_t (by assumption) (by assumption)
   have ev_ := cg1 (fun (x_0 : Bool) => (.bool x_0 : Value)) e0
   exact ⟨ev_, H4.below⟩
 · -- (stpO stp n1).isSome is False
  refine k (gn rfl rfl rfl b0 (k (gn rfl rfl rfl b0 (k (gn rfl rfl rfl b0 (k (gn rfl rfl rfl b0 (k (pickF rfl rfl rfl rfl b0 rfl (k (mv (v := .bool false) rfl rfl (k (gn rfl rfl rfl rfl (k (gn rfl rfl rfl rfl (k (gn rfl rfl rfl rfl (k (gn rfl rfl rfl rfl (k (pickF rfl rfl rfl rfl rfl rfl (k (asg (v := .bool false) rfl rfl (z (nx (rt (r1 rfl rfl ?_)))))))))))))))))))))))))))
  have e0 : (false : Bool) = saysO stp n1 n2 n3 := by first | exact says_no (by assumption) | exact says_f (by assumption) (by assumption) | exact says_t (by assumption) (by assumption)
  have ev_ := cg1 (fun (x_0 : Bool) => (.bool x_0 : Value)) e0
  exact ⟨ev_, H4.below⟩
set_option maxRecDepth 100000 in
set_option maxHeartbeats 1600000 in
theorem aud_other {M : Nat → Prop} {w : World} {b_a : Nat} {ty_a : TypeId} {a_fv : Option Addr} {n_fv c_fv : Nat} {a_fi : Option Addr} {c_fi : Nat} {fi : List (Int × Int × Bool × Int × Int)} {a_fo : Option Addr} {n_fo c_fo : Nat} {a_stp : Option Addr} {n_stp c_stp : Nat} {a_pl : Option Addr} {n_pl c_pl : Nat} {n1 : Int} {n2 : Int} (hM : ∀ b, M b → b < w.heap.size) (h_fi : RV M w (.slice a_fi fi.length c_fi) fi) (h_n1 : I64 n1) (h_n2 : I64 n2) (h_a : w.heap[b_a]? = some (.cells #[.slice a_fv n_fv c_fv, .slice a_fi fi.length c_fi, .slice a_fo n_fo c_fo, .slice a_stp n_stp c_stp, .slice a_pl n_pl c_pl] ty_a (0, 0)) ∧ ¬ M b_a) (hn1_ : 0 ≤ n1 ∧ n1 < ((fi.length : Nat) : Int)) (hn2_ : 0 ≤ n2 ∧ n2 < ((fi.length : Nat) : Int)) : Calls Tryd.prog 32 #[.pointer (some ⟨b_a, 0, none⟩), .int .i64 n1, .int .i64 n2] w (Ret fun v w' =>  v = .bool (otherO fi n1 n2) ∧ Ext w w') := by
 refine enter 43 Tryd.func32 rfl rfl rfl fun f0 ha => ?_
 have H := HI.start (M0 := M) (w := w) hM
 have H0 := H.put (it := imm (.slice a_fi fi.length c_fi) fi) rfl (by rw [MS_nil]; exact h_fi)
 have ln_fi := rv_len h_fi
 have H1 := H0.put (it := ro b_a #[.slice a_fv n_fv c_fv, .slice a_fi fi.length c_fi, .slice a_fo n_fo c_fo, .slice a_stp n_stp c_stp, .slice a_pl n_pl c_pl] ty_a) rfl (by rw [MS_cons_none rfl, MS_nil]; exact h_a)
 have i0 : f0 0 = pV b_a 0 := ha 0 (by simp)
 have i1 : f0 1 = iV n1 := ha 1 (by simp)
 have i2 : f0 2 = iV n2 := ha 2 (by simp)
 refine sq (rg (k (asg (v := .bool false) rfl rfl (z (nx (sq ?_))))))
 obtain ⟨x0, hx0⟩ : ∃ x, fi[n1.toNat]? = some x := ⟨_, List.getElem?_eq_getElem (by first | omega | (simp; omega))⟩
 obtain ⟨x1, hx1⟩ : ∃ x, fi[n2.toNat]? = some x := ⟨_, List.getElem?_eq_getElem (by first | omega | (simp; omega))⟩
 refine drs [.v, .v, .v, .v, .v, .v, .v, .v, .v, .v, .v, .v, .v, .v, .v, .v, .n, .n, .s 16 7, .s 17 15] [fun (v : Value) => v = pV b_a 0, fun (v : Value) => v = pV b_a 0, fun (v : Value) => v = pV b_a 0, fun (v : Value) => v = pV b_a 1, fun (v : Value) => v = .slice a_fi fi.length c_fi, fun (v : Value) => v = iV n1, fun (v : Value) => ∃ (ad0 : Addr), v = .pointer (some ad0) ∧ At (MS M [ro b_a #[.slice a_fv n_fv c_fv, .slice a_fi fi.length c_fi, .slice a_fo n_fo c_fo, .slice a_stp n_stp c_stp, .slice a_pl n_pl c_pl] ty_a, imm (.slice a_fi fi.length c_fi) fi]) w ad0 x0, fun (v : Value) => v = .agg #[iV x0.1, iV x0.2.1, .bool x0.2.2.1, iV x0.2.2.2.1, iV x0.2.2.2.2] ∧ I64 (x0.1) ∧ I64 (x0.2.1) ∧ I64 (x0.2.2.2.1) ∧ I64 (x0.2.2.2.2), fun (v : Value) => v = pV b_a 0, fun (v : Value) => v = pV b_a 0, fun (v : Value) => v = pV b_a 0, fun (v : Value) => v = pV b_a 1, fun (v : Value) => v = .slice a_fi fi.length c_fi, fun (v : Value) => v = iV n2, fun (v : Value) => ∃ (ad1 : Addr), v = .pointer (some ad1) ∧ At (MS M [ro b_a #[.slice a_fv n_fv c_fv, .slice a_fi fi.length c_fi, .slice a_fo n_fo c_fo, .slice a_stp n_stp c_stp, .slice a_pl n_pl c_pl] ty_a, imm (.slice a_fi fi.length c_fi) fi]) w ad1 x1, fun (v : Value) => v = .agg #[iV x1.1, iV x1.2.1, .bool x1.2.2.1, iV x1.2.2.2.1, iV x1.2.2.2.2] ∧ I64 (x1.1) ∧ I64 (x1.2.1) ∧ I64 (x1.2.2.2.1) ∧ I64 (x1.2.2.2.2), fun _ => True, fun _ => True, fun _ => True, fun _ => True] [(#[], 0), (#[], 0), (#[], 0), (#[], 0), (#[], 0), (#[], 0), (#[], 0), (#[], 0), (#[], 0), (#[], 0), (#[], 0), (#[], 0), (#[], 0), (#[], 0), (#[], 0), (#[], 0), (#[iV 0, iV 0, .bool false, iV 0, iV 0], 65), (#[iV 0, iV 0, .bool false, iV 0, iV 0], 65), (#[], 0), (#[], 0)] rfl (by kernel_rfl) ?_ ?_
 ·
  refine ⟨⟨rfl, fun f0 w2 hf0 xt2 hp0 => ?_⟩, ?_⟩
  ·
   refine mv rfl ((hf0 0 rfl).trans i0) ?_
   exact ⟨_, rfl, rfl, rfl⟩
  refine ⟨⟨rfl, fun f1 w3 hf1 xt3 hp1 => ?_⟩, ?_⟩
  ·
   have s0 : f1 9 = pV b_a 0 := hp1 0 rfl ⟨_, rfl, rfl⟩
   refine nc rfl s0 ?_
   exact ⟨_, rfl, rfl, rfl⟩
  refine ⟨⟨rfl, fun f2 w4 hf2 xt4 hp2 => ?_⟩, ?_⟩
  ·
   have s1 : f2 10 = pV b_a 0 := hp2 1 rfl ⟨_, rfl, rfl⟩
   refine fa fl54_0 rfl s1 ?_
   exact ⟨_, rfl, rfl, rfl⟩
  refine ⟨⟨rfl, fun f3 w5 hf3 xt5 hp3 => ?_⟩, ?_⟩
  ·
   have s2 : f3 11 = pV b_a 0 := hp3 2 rfl ⟨_, rfl, rfl⟩
   refine fa fl30_1 rfl s2 ?_
   exact ⟨_, rfl, rfl, rfl⟩
  refine ⟨⟨rfl, fun f4 w6 hf4 xt6 hp4 => ?_⟩, ?_⟩
  ·
   have s3 : f4 12 = pV b_a 1 := hp4 3 rfl ⟨_, rfl, rfl⟩
   refine ldR (H1.ext xt6) 0 rfl ty27 rfl s3 (by decide) rfl ?_
   exact ⟨_, rfl, rfl, rfl⟩
  refine ⟨⟨rfl, fun f5 w7 hf5 xt7 hp5 => ?_⟩, ?_⟩
  ·
   refine mv rfl ((hf5 1 rfl).trans i1) ?_
   exact ⟨_, rfl, rfl, rfl⟩
  refine ⟨⟨rfl, fun f6 w8 hf6 xt8 hp6 => ?_⟩, ?_⟩
  ·
   have s4 : f6 13 = .slice a_fi fi.length c_fi := hp6 4 rfl ⟨_, rfl, rfl⟩
   have s5 : f6 14 = iV n1 := hp6 5 rfl ⟨_, rfl, rfl⟩
   refine iax (H1.rv 1 rfl) rfl rfl s4 s5 (by first | omega | (simp; omega)) un27 ty65 ?_
   intro ad2 x2 hx2 hA2
   obtain rfl : x0 = x2 := Option.some.inj (hx0.symm.trans hx2)
   exact ⟨_, rfl, rfl, ⟨ad2, rfl, hA2⟩⟩
  refine ⟨⟨rfl, fun f7 w9 hf7 xt9 hp7 => ?_⟩, ?_⟩
  ·
   obtain ⟨ad3, s6, hA3⟩ : ∃ (ad3 : Addr), f7 15 = .pointer (some ad3) ∧ At (MS M [ro b_a #[.slice a_fv n_fv c_fv, .slice a_fi fi.length c_fi, .slice a_fo n_fo c_fo, .slice a_stp n_stp c_stp, .slice a_pl n_pl c_pl] ty_a, imm (.slice a_fi fi.length c_fi) fi]) w ad3 x0 := hp7 6 rfl ⟨_, rfl, rfl⟩
   have H4 := H1.put (it := atI ad3 x0) rfl hA3
   refine ldWx (H4.atv 0 rfl).w xt9 ty65 rfl s6 ?_
   intro v2 rv10
   obtain ⟨_, ⟨_, _, rfl, ⟨rfl, rv11⟩, ⟨_, _, rfl, ⟨rfl, rv12⟩, ⟨_, _, rfl, rfl, ⟨_, _, rfl, ⟨rfl, rv13⟩, ⟨rfl, rv14⟩⟩⟩⟩⟩, rfl⟩ := rv10
   exact ⟨_, rfl, rfl, ⟨rfl, rv11, rv12, rv13, rv14⟩⟩
  refine ⟨⟨rfl, fun f8 w10 hf8 xt10 hp8 => ?_⟩, ?_⟩
  ·
   refine mv rfl ((hf8 0 rfl).trans i0) ?_
   exact ⟨_, rfl, rfl, rfl⟩
  refine ⟨⟨rfl, fun f9 w11 hf9 xt11 hp9 => ?_⟩, ?_⟩
  ·
   have s7 : f9 17 = pV b_a 0 := hp9 8 rfl ⟨_, rfl, rfl⟩
   refine nc rfl s7 ?_
   exact ⟨_, rfl, rfl, rfl⟩
  refine ⟨⟨rfl, fun f10 w12 hf10 xt12 hp10 => ?_⟩, ?_⟩
  ·
   have s8 : f10 18 = pV b_a 0 := hp10 9 rfl ⟨_, rfl, rfl⟩
   refine fa fl54_0 rfl s8 ?_
   exact ⟨_, rfl, rfl, rfl⟩
  refine ⟨⟨rfl, fun f11 w13 hf11 xt13 hp11 => ?_⟩, ?_⟩
  ·
   have s9 : f11 19 = pV b_a 0 := hp11 10 rfl ⟨_, rfl, rfl⟩
   refine fa fl30_1 rfl s9 ?_
   exact ⟨_, rfl, rfl, rfl⟩
  refine ⟨⟨rfl, fun f12 w14 hf12 xt14 hp12 => ?_⟩, ?_⟩
  ·
   have s10 : f12 20 = pV b_a 1 := hp12 11 rfl ⟨_, rfl, rfl⟩
   refine ldR (H1.ext xt14) 0 rfl ty27 rfl s10 (by decide) rfl ?_
   exact ⟨_, rfl, rfl, rfl⟩
  refine ⟨⟨rfl, fun f13 w15 hf13 xt15 hp13 => ?_⟩, ?_⟩
  ·
   refine mv rfl ((hf13 2 rfl).trans i2) ?_
   exact ⟨_, rfl, rfl, rfl⟩
  refine ⟨⟨rfl, fun f14 w16 hf14 xt16 hp14 => ?_⟩, ?_⟩
  ·
   have s11 : f14 21 = .slice a_fi fi.length c_fi := hp14 12 rfl ⟨_, rfl, rfl⟩
   have s12 : f14 22 = iV n2 := hp14 13 rfl ⟨_, rfl, rfl⟩
   refine iax (H1.rv 1 rfl) rfl rfl s11 s12 (by first | omega | (simp; omega)) un27 ty65 ?_
   intro ad4 x3 hx3 hA4
   obtain rfl : x1 = x3 := Option.some.inj (hx1.symm.trans hx3)
   exact ⟨_, rfl, rfl, ⟨ad4, rfl, hA4⟩⟩
  refine ⟨⟨rfl, fun f15 w17 hf15 xt17 hp15 => ?_⟩, ?_⟩
  ·
   obtain ⟨ad5, s13, hA5⟩ : ∃ (ad5 : Addr), f15 23 = .pointer (some ad5) ∧ At (MS M [ro b_a #[.slice a_fv n_fv c_fv, .slice a_fi fi.length c_fi, .slice a_fo n_fo c_fo, .slice a_stp n_stp c_stp, .slice a_pl n_pl c_pl] ty_a, imm (.slice a_fi fi.length c_fi) fi]) w ad5 x1 := hp15 14 rfl ⟨_, rfl, rfl⟩
   have H5 := H1.put (it := atI ad5 x1) rfl hA5
   refine ldWx (H5.atv 0 rfl).w xt17 ty65 rfl s13 ?_
   intro v3 rv15
   obtain ⟨_, ⟨_, _, rfl, ⟨rfl, rv16⟩, ⟨_, _, rfl, ⟨rfl, rv17⟩, ⟨_, _, rfl, rfl, ⟨_, _, rfl, ⟨rfl, rv18⟩, ⟨rfl, rv19⟩⟩⟩⟩⟩, rfl⟩ := rv15
   exact ⟨_, rfl, rfl, ⟨rfl, rv16, rv17, rv18, rv19⟩⟩
  refine ⟨⟨rfl, fun f16 w18 hf16 xt18 hp16 => ?_⟩, ?_⟩
  ·
   refine alS ty65 ?_
   exact ⟨rfl, rfl, trivial⟩
  refine ⟨⟨rfl, fun f17 w20 hf17 xt20 hp17 => ?_⟩, ?_⟩
  ·
   refine alS ty65 ?_
   exact ⟨rfl, rfl, trivial⟩
  refine ⟨⟨rfl, rfl, rfl, ⟨_, rfl, rfl⟩, ⟨_, rfl, rfl⟩, trivial, by rintro _ ⟨e_, rv1, rv2, rv3, rv4⟩; subst e_; rfl, fun f18 w22 bb2 cur0 xt22 s14 hb0 hc0 hv0 => ?_⟩, ?_⟩
  ·
   obtain ⟨e_, rv1, rv2, rv3, rv4⟩ := hv0
   exact stS ty65 rfl rfl s14 rfl hb0 ((congrArg (fun v => v.cells.size) e_).trans rfl) hc0 ((congrArg (fun v => v.cells.toList.all Value.oneCell') e_).trans rfl)
  refine ⟨⟨rfl, rfl, rfl, ⟨_, rfl, rfl⟩, ⟨_, rfl, rfl⟩, trivial, by rintro _ ⟨e_, rv6, rv7, rv8, rv9⟩; subst e_; rfl, fun f19 w23 bb3 cur1 xt23 s15 hb1 hc1 hv1 => ?_⟩, ?_⟩
  ·
   obtain ⟨e_, rv6, rv7, rv8, rv9⟩ := hv1
   exact stS ty65 rfl rfl s15 rfl hb1 ((congrArg (fun v => v.cells.size) e_).trans rfl) hc1 ((congrArg (fun v => v.cells.toList.all Value.oneCell') e_).trans rfl)
  exact trivial
 ·
  intro f20 w24 B0 hf18 xt24 hp18 hB0 hd0
  have s16 : f20 1 = iV n1 := (hf18 1 rfl).trans i1
  have s17 : f20 2 = iV n2 := (hf18 2 rfl).trans i2
  obtain ⟨s18, rv20, rv21, rv22, rv23⟩ : f20 16 = .agg #[iV x0.1, iV x0.2.1, .bool x0.2.2.1, iV x0.2.2.2.1, iV x0.2.2.2.2] ∧ I64 (x0.1) ∧ I64 (x0.2.1) ∧ I64 (x0.2.2.2.1) ∧ I64 (x0.2.2.2.2) := hp18 7 _ rfl rfl
  obtain ⟨s19, rv24, rv25, rv26, rv27⟩ : f20 24 = .agg #[iV x1.1, iV x1.2.1, .bool x1.2.2.1, iV x1.2.2.2.1, iV x1.2.2.2.2] ∧ I64 (x1.1) ∧ I64 (x1.2.1) ∧ I64 (x1.2.2.2.1) ∧ I64 (x1.2.2.2.2) := hp18 15 _ rfl rfl
  obtain ⟨s20, hg0, cur2, hc2, hk0⟩ := hB0 16 (by decide) trivial
  have hq0 : cur2 = #[iV x0.1, iV x0.2.1, .bool x0.2.2.1, iV x0.2.2.2.1, iV x0.2.2.2.2] := (hk0.2.1 18 7 rfl rfl).trans (congrArg Value.cells s18)
  rw [hq0] at hc2
  obtain ⟨s21, hg1, cur3, hc3, hk1⟩ := hB0 17 (by decide) trivial
  have hq1 : cur3 = #[iV x1.1, iV x1.2.1, .bool x1.2.2.1, iV x1.2.2.2.1, iV x1.2.2.2.2] := (hk1.2.1 19 15 rfl rfl).trans (congrArg Value.cells s19)
  rw [hq1] at hc3
  have hd0_1 := hd0 16 17 (by decide) (by decide) (by decide) trivial trivial
  have H6 : HI M w w24 [box (B0 16) #[iV x0.1, iV x0.2.1, .bool x0.2.2.1, iV x0.2.2.2.1, iV x0.2.2.2.2] 65, box (B0 17) #[iV x1.1, iV x1.2.1, .bool x1.2.2.1, iV x1.2.2.2.1, iV x1.2.2.2.2] 65, ro b_a #[.slice a_fv n_fv c_fv, .slice a_fi fi.length c_fi, .slice a_fo n_fo c_fo, .slice a_stp n_stp c_stp, .slice a_pl n_pl c_pl] ty_a, imm (.slice a_fi fi.length c_fi) fi] := H1.lays xt24 [((B0 16), #[iV x0.1, iV x0.2.1, .bool x0.2.2.1, iV x0.2.2.2.1, iV x0.2.2.2.2], 65), ((B0 17), #[iV x1.1, iV x1.2.1, .bool x1.2.2.1, iV x1.2.2.2.1, iV x1.2.2.2.2], 65)] (by intro q_ hq_; simp only [List.mem_cons, List.not_mem_nil, or_false] at hq_; rcases hq_ with rfl | rfl <;> first | exact ⟨hg0, hc2⟩ | exact ⟨hg1, hc3⟩) (by simp only [List.map_cons, List.map_nil, List.nodup_cons, List.mem_cons, List.not_mem_nil, or_false, List.nodup_nil, and_true, not_or, not_false_eq_true, true_and] <;> omega)
  refine nx (sq (rg (k (mv rfl s16 (k (mv rfl s17 (k (neq rfl rfl rfl rfl (k (mv (v := .bool (!decide (n1 = n2))) rfl rfl ?_))))))))))
  rcases Bool.eq_false_or_eq_true (!decide (n1 = n2)) with b0 | b0
  · -- !decide (n1 = n2) is True
   have p0 := of_decide_eq_false (nott b0)
   refine k (gy rfl rfl rfl b0 (fa fl65_2 rfl s20 (k (gy rfl rfl rfl b0 (ldX H6 0 rfl ty4 rfl rfl (by decide) rfl (k (pickT rfl rfl rfl rfl b0 rfl (k (mv (v := .bool x0.2.2.1) rfl rfl ?_)))))))))
   rcases Bool.eq_false_or_eq_true (x0.2.2.1) with b1 | b1
   · -- x0.2.2.1 is True
    refine k (gy rfl rfl rfl b1 (fa fl65_2 rfl s21 (k (gy rfl rfl rfl b1 (ldX H6 1 rfl ty4 rfl rfl (by decide) rfl (k (pickT rfl rfl rfl rfl b1 rfl (k (mv (v := .bool x1.2.2.1) rfl rfl ?_)))))))))
    rcases Bool.eq_false_or_eq_true (x1.2.2.1) with b2 | b2
    · -- x1.2.2.1 is True
     refine k (gy rfl rfl rfl b2 (fa fl65_3 rfl s20 (k (gy rfl rfl rfl b2 (ldX H6 0 rfl ty3 rfl rfl (by decide) rfl (k (gy rfl rfl rfl b2 (fa fl65_3 rfl s21 (k (gy rfl rfl rfl b2 (ldX H6 1 rfl ty3 rfl rfl (by decide) rfl (k (gy rfl rfl rfl b2 (eql rfl rfl rfl rfl (k (pickT rfl rfl rfl rfl b2 rfl (k (asg (v := .bool (decide (x0.2.2.2.1 = x1.2.2.2.1))) rfl rfl (z (nx (rt (r1 rfl rfl ?_))))))))))))))))))))))
     have e0 : (decide (x0.2.2.2.1 = x1.2.2.2.1) : Bool) = otherO fi n1 n2 := by rw [other_at hx0 hx1]; simp_all
     have ev_ := cg1 (fun (x_0 : Bool) => (.bool x_0 : Value)) e0
     exact ⟨ev_, H6.below⟩
    · -- x1.2.2.1 is False
     refine k (gn rfl rfl rfl b2 (k (gn rfl rfl rfl b2 (k (gn rfl rfl rfl b2 (k (gn rfl rfl rfl b2 (k (gn rfl rfl rfl b2 (k (pickF rfl rfl rfl rfl b2 rfl (k (asg (v := .bool false) rfl rfl (z (nx (rt (r1 rfl rfl ?_)))))))))))))))))
     have e0 : (false : Bool) = otherO fi n1 n2 := by rw [other_at hx0 hx1]; simp_all
     have ev_ := cg1 (fun (x_0 : Bool) => (.bool x_0 : Value)) e0
     exact ⟨ev_, H6.below⟩
   · -- x0.2.2.1 is False
    refine k (gn rfl rfl rfl b1 (k (gn rfl rfl rfl b1 (k (pickF rfl rfl rfl rfl b1 rfl (k (mv (v := .bool false) rfl rfl (k (gn rfl rfl rfl rfl (k (gn rfl rfl rfl rfl (k (gn rfl rfl rfl rfl (k (gn rfl rfl rfl rfl (k (gn rfl rfl rfl rfl (k (pickF rfl rfl rfl rfl rfl rfl (k (asg (v := .bool false) rfl rfl (z (nx (rt (r1 rfl rfl ?_)))))))))))))))))))))))))
    have e0 : (false : Bool) = otherO fi n1 n2 := by rw [other_at hx0 hx1]; simp_all
    have ev_ := cg1 (fun (x_0 : Bool) => (.bool x_0 : Value)) e0
    exact ⟨ev_, H6.below⟩
  · -- !decide (n1 = n2) is False
   have p0 := of_decide_eq_true (notf b0)
   refine k (gn rfl rfl rfl b0 (k (gn rfl rfl rfl b0 (k (pickF rfl rfl rfl rfl b0 rfl (k (mv (v := .bool false) rfl rfl (k (gn rfl rfl rfl rfl (k (gn rfl rfl rfl rfl (k (pickF rfl rfl rfl rfl rfl rfl (k (mv (v := .bool false) rfl rfl (k (gn rfl rfl rfl rfl (k (gn rfl rfl rfl rfl (k (gn rfl rfl rfl rfl (k (gn rfl rfl rfl rfl (k (gn rfl rfl rfl rfl (k (pickF rfl rfl rfl rfl rfl rfl (k (asg (v := .bool false) rfl rfl (z (nx (rt (r1 rfl rfl ?_)))))))))))))))))))))))))))))))))
   have e0 : (false : Bool) = otherO fi n1 n2 := by rw [other_at hx0 hx1]; simp_all
   have ev_ := cg1 (fun (x_0 : Bool) => (.bool x_0 : Value)) e0
   exact ⟨ev_, H6.below⟩
end Go.Proofs.YtefcbihikknlkaaDoor
namespace Go.Proofs.YtefcbihikknlkaaDoor
open Go.Ew Go.RowKit
set_option linter.unusedVariables false
set_option linter.unusedSimpArgs false
attribute [local irreducible] WL WC SO Code.wp wpList retQ Ret
attribute [local irreducible] bitB hasW inR hasR setR countW countR subR words newR listR orR firstW tab8
theorem go26 : GoF Tryd.prog 26 := ⟨_, _, Tryd.func26, rfl, by kernel_rfl⟩
theorem un52 : Tryd.prog.underlying 52 = some (.slice 4) := by kernel_rfl
theorem un4 : Tryd.prog.underlying 4 = some (.bool) := by kernel_rfl
theorem go49 : GoF Tryd.prog 49 := ⟨_, _, Tryd.func49, rfl, by kernel_rfl⟩
theorem go50 : GoF Tryd.prog 50 := ⟨_, _, Tryd.func50, rfl, by kernel_rfl⟩
set_option maxRecDepth 100000 in
set_option maxHeartbeats 1600000 in
theorem index_int {M : Nat → Prop} {w : World} {a_l0_ : Option Addr} {c_l0_ : Nat} {l0_ : List Int} {v0_ : Int} (hM : ∀ b, M b → b < w.heap.size) (h_l0_ : RV M w (.slice a_l0_ l0_.length c_l0_) l0_) (h_v0_ : I64 v0_) : Calls Tryd.prog 26 #[.slice a_l0_ l0_.length c_l0_, .int .i64 v0_] w (Ret fun v w' =>  v = .int .i64 (idxF (fun (z_ : Int) => decide (v0_ = z_)) l0_) ∧ Ext w w') := by
 refine enter 19 Tryd.func26 rfl rfl rfl fun f0 ha => ?_
 have H := HI.start (M0 := M) (w := w) hM
 have H0 := H.put (it := imm (.slice a_l0_ l0_.length c_l0_) l0_) rfl (by rw [MS_nil]; exact h_l0_)
 have ln_l0_ := rv_len h_l0_
 have i0 : f0 0 = .slice a_l0_ l0_.length c_l0_ := ha 0 (by simp)
 have i1 : f0 1 = iV v0_ := ha 1 (by simp)
 refine sq (rg (k (asg (v := iV 0) rfl rfl (z (nx (sq (sq (rg (k (mv rfl i0 (k (lnS rfl rfl un28 (k (mv (v := iV 0) rfl rfl (z (nx (bk ?_)))))))))))))))))
 refine lp (fun m f w' => ∃ (j_ : Nat), m = l0_.length - j_ ∧ f 0 = .slice a_l0_ l0_.length c_l0_ ∧ f 1 = iV v0_ ∧ f 7 = iV (l0_.length : Int) ∧ f 8 = iV (j_ : Int) ∧  HI M w w' [imm (.slice a_l0_ l0_.length c_l0_) l0_] ∧ (j_ ≤ l0_.length) ∧ ((l0_.take j_).any (fun (z_ : Int) => decide (v0_ = z_)) = false)) _ ⟨0, rfl, i0, i1, rfl, (ieq rfl (by first | rfl | omega | simp)), H0, (by first | assumption | omega | simp | (simp; omega)), (by simp)⟩ ?_
 rintro _ f0 w0 ⟨j_, rfl, s0, s1, s2, s3, H1, hk_, hs⟩
 refine sq (rg (k (lss rfl rfl s3 s2 (z (nx (sq ?_))))))
 refine cd (b := decide ((j_ : Int) < (l0_.length : Int))) rfl rfl (fun b0 => ?_) (fun b0 => ?_)
 ·
  have p0 := of_decide_eq_true b0
  refine sk (nx (sq (bk (sq (rg (k (mv rfl s3 (k (asg (v := iV (j_ : Int)) rfl rfl (z (nx (sq (rg (k (mv rfl s1 (k (mv rfl s0 (k (mv (v := iV (j_ : Int)) rfl rfl (k (ia (H1.rv 0 rfl) rfl rfl rfl rfl (by first | omega | (simp; omega)) un28 ty3 ?_)))))))))))))))))))))
  intro ad0 x0 hx0 hA0
  refine k (ldI hA0.w ty3 rfl rfl ?_)
  intro rv0
  refine k (eql rfl rfl rfl rfl (z (nx ?_)))
  refine cd (b := decide (v0_ = x0)) rfl rfl (fun b1 => ?_) (fun b1 => ?_)
  ·
   have p1 := of_decide_eq_true b1
   refine sq (rg (k (mv (v := iV (j_ : Int)) rfl rfl (k (asg (v := iV (j_ : Int)) rfl rfl (z (nx (rt (inb_ret (then_ret (loop_ret (inb_ret (then_ret (r1 rfl rfl ?_))))))))))))))
   have e0 : ((j_ : Int) : Int) = idxF (fun (z_ : Int) => decide (v0_ = z_)) l0_ := by exact idxF_hit (p := (fun (z_ : Int) => decide (v0_ = z_))) hx0 hs b1
   have ev_ := cg1 (fun (x_0 : Int) => (iV x_0 : Value)) e0
   exact ⟨ev_, H1.below⟩
  ·
   have p1 := of_decide_eq_false b1
   refine sk (inb_normal (nx (rg (k (add rfl rfl s3 rfl (by unfold I64 at *; omega) (k (mv (v := iV ((j_ : Int) + 1)) rfl rfl (z ?_))))))))
   refine loopN _ ?_ ⟨(j_ + 1), rfl, s0, s1, s2, (ieq rfl (by first | rfl | omega | (push_cast; omega))), H1, (by first | assumption | omega | simp | (simp; omega)), (by exact any_step hx0 hs b1)⟩
   omega
 ·
  have p0 := of_decide_eq_false b0
  refine ex (then_exit (loop_exit (inb_here (nx (sq (rg (k (asg (v := iV (-1)) rfl rfl (z (nx (rt (r1 rfl rfl ?_))))))))))))
  have e0 : ((-1) : Int) = idxF (fun (z_ : Int) => decide (v0_ = z_)) l0_ := by exact idxF_miss hs (by omega)
  have ev_ := cg1 (fun (x_0 : Int) => (iV x_0 : Value)) e0
  exact ⟨ev_, H1.below⟩
set_option maxRecDepth 100000 in
set_option maxHeartbeats 1600000 in
theorem contains_int {M : Nat → Prop} {w : World} {a_l0_ : Option Addr} {c_l0_ : Nat} {l0_ : List Int} {v0_ : Int} (hM : ∀ b, M b → b < w.heap.size) (h_l0_ : RV M w (.slice a_l0_ l0_.length c_l0_) l0_) (h_v0_ : I64 v0_) : Calls Tryd.prog 15 #[.slice a_l0_ l0_.length c_l0_, .int .i64 v0_] w (Ret fun v w' =>  v = .bool (l0_.any (fun (z_ : Int) => decide (v0_ = z_))) ∧ Ext w w') := by
 refine enter 9 Tryd.func15 rfl rfl rfl fun f0 ha => ?_
 have H := HI.start (M0 := M) (w := w) hM
 have H0 := H.put (it := imm (.slice a_l0_ l0_.length c_l0_) l0_) rfl (by rw [MS_nil]; exact h_l0_)
 have ln_l0_ := rv_len h_l0_
 have i0 : f0 0 = .slice a_l0_ l0_.length c_l0_ := ha 0 (by simp)
 have i1 : f0 1 = iV v0_ := ha 1 (by simp)
 refine sq (rg (k (asg (v := .bool false) rfl rfl (z (nx (sq (rg (k (mv rfl i0 (k (mv rfl i1 (k ?_))))))))))))
 have cc0 := index_int (l0_ := l0_) (v0_ := v0_) (w := w) H0.mb (H0.rv 0 rfl) (by unfold I64 at *; omega)
 refine ca go26 rfl (ec rfl (ec rfl e0)) cc0 ?_
 rintro _ w0 ⟨rfl, xt0⟩
 have H1 := H0.ext xt0
 refine k (geq rfl rfl rfl rfl (k (asg (v := .bool (decide (0 ≤ (idxF (fun (z_ : Int) => decide (v0_ = z_)) l0_)))) rfl rfl (z (nx (rt (r1 rfl rfl ?_)))))))
 have e0 : (decide (0 ≤ (idxF (fun (z_ : Int) => decide (v0_ = z_)) l0_)) : Bool) = l0_.any (fun (z_ : Int) => decide (v0_ = z_)) := by exact idxF_any
 have ev_ := cg1 (fun (x_0 : Bool) => (.bool x_0 : Value)) e0
 exact ⟨ev_, H1.below⟩
set_option maxRecDepth 100000 in
set_option maxHeartbeats 1600000 in
theorem index_bool {M : Nat → Prop} {w : World} {a_l0_ : Option Addr} {c_l0_ : Nat} {l0_ : List Bool} {v0_ : Bool} (hM : ∀ b, M b → b < w.heap.size) (h_l0_ : RV M w (.slice a_l0_ l0_.length c_l0_) l0_) : Calls Tryd.prog 49 #[.slice a_l0_ l0_.length c_l0_, .bool v0_] w (Ret fun v w' =>  v = .int .i64 (idxF (fun (z_ : Bool) => v0_ == z_) l0_) ∧ Ext w w') := by
 refine enter 19 Tryd.func49 rfl rfl rfl fun f0 ha => ?_
 have H := HI.start (M0 := M) (w := w) hM
 have H0 := H.put (it := imm (.slice a_l0_ l0_.length c_l0_) l0_) rfl (by rw [MS_nil]; exact h_l0_)
 have ln_l0_ := rv_len h_l0_
 have i0 : f0 0 = .slice a_l0_ l0_.length c_l0_ := ha 0 (by simp)
 have i1 : f0 1 = .bool v0_ := ha 1 (by simp)
 refine sq (rg (k (asg (v := iV 0) rfl rfl (z (nx (sq (sq (rg (k (mv rfl i0 (k (lnS rfl rfl un52 (k (mv (v := iV 0) rfl rfl (z (nx (bk ?_)))))))))))))))))
 refine lp (fun m f w' => ∃ (j_ : Nat), m = l0_.length - j_ ∧ f 0 = .slice a_l0_ l0_.length c_l0_ ∧ f 1 = .bool v0_ ∧ f 7 = iV (l0_.length : Int) ∧ f 8 = iV (j_ : Int) ∧  HI M w w' [imm (.slice a_l0_ l0_.length c_l0_) l0_] ∧ (j_ ≤ l0_.length) ∧ ((l0_.take j_).any (fun (z_ : Bool) => v0_ == z_) = false)) _ ⟨0, rfl, i0, i1, rfl, (ieq rfl (by first | rfl | omega | simp)), H0, (by first | assumption | omega | simp | (simp; omega)), (by simp)⟩ ?_
 rintro _ f0 w0 ⟨j_, rfl, s0, s1, s2, s3, H1, hk_, hs⟩
 refine sq (rg (k (lss rfl rfl s3 s2 (z (nx (sq ?_))))))
 refine cd (b := decide ((j_ : Int) < (l0_.length : Int))) rfl rfl (fun b0 => ?_) (fun b0 => ?_)
 ·
  have p0 := of_decide_eq_true b0
  refine sk (nx (sq (bk (sq (rg (k (mv rfl s3 (k (asg (v := iV (j_ : Int)) rfl rfl (z (nx (sq (rg (k (mv rfl s1 (k (mv rfl s0 (k (mv (v := iV (j_ : Int)) rfl rfl (k (ia (H1.rv 0 rfl) rfl rfl rfl rfl (by first | omega | (simp; omega)) un52 ty4 ?_)))))))))))))))))))))
  intro ad0 x0 hx0 hA0
  refine k (ldB hA0.w ty4 rfl rfl (k (eqB rfl rfl rfl rfl un4 (z (nx ?_)))))
  refine cd (b := v0_ == x0) rfl rfl (fun b1 => ?_) (fun b1 => ?_)
  ·
   refine sq (rg (k (mv (v := iV (j_ : Int)) rfl rfl (k (asg (v := iV (j_ : Int)) rfl rfl (z (nx (rt (inb_ret (then_ret (loop_ret (inb_ret (then_ret (r1 rfl rfl ?_))))))))))))))
   have e0 : ((j_ : Int) : Int) = idxF (fun (z_ : Bool) => v0_ == z_) l0_ := by exact idxF_hit (p := (fun (z_ : Bool) => v0_ == z_)) hx0 hs b1
   have ev_ := cg1 (fun (x_0 : Int) => (iV x_0 : Value)) e0
   exact ⟨ev_, H1.below⟩
  ·
   refine sk (inb_normal (nx (rg (k (add rfl rfl s3 rfl (by unfold I64 at *; omega) (k (mv (v := iV ((j_ : Int) + 1)) rfl rfl (z ?_))))))))
   refine loopN _ ?_ ⟨(j_ + 1), rfl, s0, s1, s2, (ieq rfl (by first | rfl | omega | (push_cast; omega))), H1, (by first | assumption | omega | simp | (simp; omega)), (by exact any_step hx0 hs b1)⟩
   omega
 ·
  have p0 := of_decide_eq_false b0
  refine ex (then_exit (loop_exit (inb_here (nx (sq (rg (k (asg (v := iV (-1)) rfl rfl (z (nx (rt (r1 rfl rfl ?_))))))))))))
  have e0 : ((-1) : Int) = idxF (fun (z_ : Bool) => v0_ == z_) l0_ := by exact idxF_miss hs (by omega)
  have ev_ := cg1 (fun (x_0 : Int) => (iV x_0 : Value)) e0
  exact ⟨ev_, H1.below⟩
set_option maxRecDepth 100000 in
set_option maxHeartbeats 1600000 in
theorem contains_bool {M : Nat → Prop} {w : World} {a_l0_ : Option Addr} {c_l0_ : Nat} {l0_ : List Bool} {v0_ : Bool} (hM : ∀ b, M b → b < w.heap.size) (h_l0_ : RV M w (.slice a_l0_ l0_.length c_l0_) l0_) : Calls Tryd.prog 40 #[.slice a_l0_ l0_.length c_l0_, .bool v0_] w (Ret fun v w' =>  v = .bool (l0_.any (fun (z_ : Bool) => v0_ == z_)) ∧ Ext w w') := by
 refine enter 9 Tryd.func40 rfl rfl rfl fun f0 ha => ?_
 have H := HI.start (M0 := M) (w := w) hM
 have H0 := H.put (it := imm (.slice a_l0_ l0_.length c_l0_) l0_) rfl (by rw [MS_nil]; exact h_l0_)
 have ln_l0_ := rv_len h_l0_
 have i0 : f0 0 = .slice a_l0_ l0_.length c_l0_ := ha 0 (by simp)
 have i1 : f0 1 = .bool v0_ := ha 1 (by simp)
 refine sq (rg (k (asg (v := .bool false) rfl rfl (z (nx (sq (rg (k (mv rfl i0 (k (mv rfl i1 (k ?_))))))))))))
 have cc0 := index_bool (l0_ := l0_) (v0_ := v0_) (w := w) H0.mb (H0.rv 0 rfl)
 refine ca go49 rfl (ec rfl (ec rfl e0)) cc0 ?_
 rintro _ w0 ⟨rfl, xt0⟩
 have H1 := H0.ext xt0
 refine k (geq rfl rfl rfl rfl (k (asg (v := .bool (decide (0 ≤ (idxF (fun (z_ : Bool) => v0_ == z_) l0_)))) rfl rfl (z (nx (rt (r1 rfl rfl ?_)))))))
 have e0 : (decide (0 ≤ (idxF (fun (z_ : Bool) => v0_ == z_) l0_)) : Bool) = l0_.any (fun (z_ : Bool) => v0_ == z_) := by exact idxF_any
 have ev_ := cg1 (fun (x_0 : Bool) => (.bool x_0 : Value)) e0
 exact ⟨ev_, H1.below⟩
set_option maxRecDepth 100000 in
set_option maxHeartbeats 1600000 in
theorem indexFunc_step {M : Nat → Prop} {w : World} {a_r : Option Addr} {c_r : Nat} {r : List (Int × Int × Int × Int × Int)} {g_p : Nat} {C_p : List Value} {p : (Int × Int × Int × Int × Int) → Bool} (hM : ∀ b, M b → b < w.heap.size) (h_r : RV M w (.slice a_r r.length c_r) r) (h_p : FP Tryd.prog g_p C_p M w r p) : Calls Tryd.prog 50 #[.slice a_r r.length c_r, .func (.func g_p) #[] C_p.toArray] w (Ret fun v w' =>  v = .int .i64 (idxF p r) ∧ Ext w w') := by
 refine enter 19 Tryd.func50 rfl rfl rfl fun f0 ha => ?_
 have H := HI.start (M0 := M) (w := w) hM
 have H0 := H.put (it := imm (.slice a_r r.length c_r) r) rfl (by rw [MS_nil]; exact h_r)
 have ln_r := rv_len h_r
 have i0 : f0 0 = .slice a_r r.length c_r := ha 0 (by simp)
 have i1 : f0 1 = .func (.func g_p) #[] C_p.toArray := ha 1 (by simp)
 refine sq (rg (k (asg (v := iV 0) rfl rfl (z (nx (sq (sq (rg (k (mv rfl i0 (k (lnS rfl rfl un23 (k (mv (v := iV 0) rfl rfl (z (nx (bk ?_)))))))))))))))))
 refine lp (fun m f w' => ∃ (j : Nat), m = r.length - j ∧ f 0 = .slice a_r r.length c_r ∧ f 1 = .func (.func g_p) #[] C_p.toArray ∧ f 7 = iV (r.length : Int) ∧ f 8 = iV (j : Int) ∧  HI M w w' [imm (.slice a_r r.length c_r) r] ∧ (j ≤ r.length) ∧ ((r.take j).any p = false)) _ ⟨0, rfl, i0, i1, rfl, (ieq rfl (by first | rfl | omega | simp)), H0, (by first | assumption | omega | simp | (simp; omega)), (by simp)⟩ ?_
 rintro _ f0 w0 ⟨j, rfl, s0, s1, s2, s3, H1, hk, hs⟩
 refine sq (rg (k (lss rfl rfl s3 s2 (z (nx (sq ?_))))))
 refine cd (b := decide ((j : Int) < (r.length : Int))) rfl rfl (fun b0 => ?_) (fun b0 => ?_)
 ·
  have p0 := of_decide_eq_true b0
  refine sk (nx (sq (bk (sq (rg (k (mv rfl s3 (k (asg (v := iV (j : Int)) rfl rfl (z (nx (sq (rg (k (mv rfl s1 (k (mv rfl s0 (k (mv (v := iV (j : Int)) rfl rfl (k (ia (H1.rv 0 rfl) rfl rfl rfl rfl (by first | omega | (simp; omega)) un23 ty35 ?_)))))))))))))))))))))
  intro ad0 x0 hx0 hA0
  refine k (ldW hA0.w ty35 rfl rfl ?_)
  intro v0 rv0
  obtain ⟨_, ⟨_, _, rfl, ⟨rfl, rv1⟩, ⟨_, _, rfl, ⟨rfl, rv2⟩, ⟨_, _, rfl, ⟨rfl, rv3⟩, ⟨_, _, rfl, ⟨rfl, rv4⟩, ⟨rfl, rv5⟩⟩⟩⟩⟩, rfl⟩ := rv0
  refine k (cf h_p.1 rfl rfl rfl (ec rfl e0) (h_p.2 _ _ _ (by exact List.mem_of_getElem? ‹_›) H1.below (RV.lift (v := .agg #[iV x0.1, iV x0.2.1, iV x0.2.2.1, iV x0.2.2.2.1, iV x0.2.2.2.2]) (x := ((x0.1, x0.2.1, x0.2.2.1, x0.2.2.2.1, x0.2.2.2.2) : (Int × Int × Int × Int × Int))) ⟨_, ⟨_, _, rfl, ⟨rfl, (show I64 (x0.1) from (by unfold I64 at *; omega))⟩, ⟨_, _, rfl, ⟨rfl, (show I64 (x0.2.1) from (by unfold I64 at *; omega))⟩, ⟨_, _, rfl, ⟨rfl, (show I64 (x0.2.2.1) from (by unfold I64 at *; omega))⟩, ⟨_, _, rfl, ⟨rfl, (show I64 (x0.2.2.2.1) from (by unfold I64 at *; omega))⟩, ⟨rfl, (show I64 (x0.2.2.2.2) from (by unfold I64 at *; omega))⟩⟩⟩⟩⟩, rfl⟩ H1.out)) ?_)
  rintro _ w1 ⟨rfl, xt0⟩
  have H2 := H1.ext xt0
  refine z (nx ?_)
  refine cd (b := p (x0.1, x0.2.1, x0.2.2.1, x0.2.2.2.1, x0.2.2.2.2)) rfl rfl (fun b1 => ?_) (fun b1 => ?_)
  ·
   refine sq (rg (k (mv (v := iV (j : Int)) rfl rfl (k (asg (v := iV (j : Int)) rfl rfl (z (nx (rt (inb_ret (then_ret (loop_ret (inb_ret (then_ret (r1 rfl rfl ?_))))))))))))))
   have e0 : ((j : Int) : Int) = idxF p r := by exact idxF_hit hx0 hs b1
   have ev_ := cg1 (fun (x_0 : Int) => (iV x_0 : Value)) e0
   exact ⟨ev_, H2.below⟩
  ·
   refine sk (inb_normal (nx (rg (k (add rfl rfl s3 rfl (by unfold I64 at *; omega) (k (mv (v := iV ((j : Int) + 1)) rfl rfl (z ?_))))))))
   refine loopN _ ?_ ⟨(j + 1), rfl, s0, s1, s2, (ieq rfl (by first | rfl | omega | (push_cast; omega))), H2, (by first | assumption | omega | simp | (simp; omega)), (by exact any_step hx0 hs b1)⟩
   omega
 ·
  have p0 := of_decide_eq_false b0
  refine ex (then_exit (loop_exit (inb_here (nx (sq (rg (k (asg (v := iV (-1)) rfl rfl (z (nx (rt (r1 rfl rfl ?_))))))))))))
  have e0 : ((-1) : Int) = idxF p r := by exact idxF_miss hs (by omega)
  have ev_ := cg1 (fun (x_0 : Int) => (iV x_0 : Value)) e0
  exact ⟨ev_, H1.below⟩
set_option maxRecDepth 100000 in
set_option maxHeartbeats 1600000 in
theorem containsFunc_step {M : Nat → Prop} {w : World} {a_r : Option Addr} {c_r : Nat} {r : List (Int × Int × Int × Int × Int)} {g_p : Nat} {C_p : List Value} {p : (Int × Int × Int × Int × Int) → Bool} (hM : ∀ b, M b → b < w.heap.size) (h_r : RV M w (.slice a_r r.length c_r) r) (h_p : FP Tryd.prog g_p C_p M w r p) : Calls Tryd.prog 41 #[.slice a_r r.length c_r, .func (.func g_p) #[] C_p.toArray] w (Ret fun v w' =>  v = .bool (r.any p) ∧ Ext w w') := by
 refine enter 9 Tryd.func41 rfl rfl rfl fun f0 ha => ?_
 have H := HI.start (M0 := M) (w := w) hM
 have H0 := H.put (it := imm (.slice a_r r.length c_r) r) rfl (by rw [MS_nil]; exact h_r)
 have ln_r := rv_len h_r
 have i0 : f0 0 = .slice a_r r.length c_r := ha 0 (by simp)
 have i1 : f0 1 = .func (.func g_p) #[] C_p.toArray := ha 1 (by simp)
 refine sq (rg (k (asg (v := .bool false) rfl rfl (z (nx (sq (rg (k (mv rfl i0 (k (mv rfl i1 (k ?_))))))))))))
 have cc0 := indexFunc_step (r := r) (p := p) (w := w) H0.mb (H0.rv 0 rfl) (h_p.sub H0.below MS_sub)
 refine ca go50 rfl (ec rfl (ec rfl e0)) cc0 ?_
 rintro _ w0 ⟨rfl, xt0⟩
 have H1 := H0.ext xt0
 refine k (geq rfl rfl rfl rfl (k (asg (v := .bool (decide (0 ≤ (idxF p r)))) rfl rfl (z (nx (rt (r1 rfl rfl ?_)))))))
 have e0 : (decide (0 ≤ (idxF p r)) : Bool) = r.any p := by exact idxF_any
 have ev_ := cg1 (fun (x_0 : Bool) => (.bool x_0 : Value)) e0
 exact ⟨ev_, H1.below⟩
end Go.Proofs.YtefcbihikknlkaaDoor
namespace Go.Proofs.YtefcbihikknlkaaDoor
open Go.Ew Go.RowKit
set_option linter.unusedVariables false
set_option linter.unusedSimpArgs false
attribute [local irreducible] WL WC SO Code.wp wpList retQ Ret
attribute [local irreducible] bitB hasW inR hasR setR countW countR subR words newR listR orR firstW tab8
theorem fl86_1 : FldF Tryd.prog 86 1 1 := ⟨_, _, Tryd.underlying86, rfl, rfl, by kernel_rfl⟩
theorem ty84 : TyF Tryd.prog 84 1 false 24 (.slice none 0 0) := ⟨by kernel_rfl, by kernel_rfl⟩
theorem go51 : GoF Tryd.prog 51 := ⟨_, _, Tryd.func51, rfl, by kernel_rfl⟩
theorem un102 : Tryd.prog.underlying 102 = some (.slice 104) := by kernel_rfl
theorem ty104 : TyF Tryd.prog 104 2 true 16 (.agg #[.int .i64 0, .int .i64 0]) := ⟨by kernel_rfl, by kernel_rfl⟩
theorem fl86_0 : FldF Tryd.prog 86 0 0 := ⟨_, _, Tryd.underlying86, rfl, rfl, by kernel_rfl⟩
theorem go71 : GoF Tryd.prog 71 := ⟨_, _, Tryd.func71, rfl, by kernel_rfl⟩
set_option maxRecDepth 100000 in
set_option maxHeartbeats 1600000 in
theorem mat_Pairs {M : Nat → Prop} {w : World} {mn : Int} {a_mr : Option Addr} {c_mr : Nat} {mr : List (List (BitVec 64))} (hM : ∀ b, M b → b < w.heap.size) (hT : TabAt 0 w) (h_mn : I64 mn) (h_mr : RV M w (.slice a_mr mr.length c_mr) mr) (hsq_m : ((mr.length : Nat) : Int) = mn) (hrw_m : ∀ x ∈ mr, x.length ≤ 1000000000) (hl4_m : mn ≤ 4096) (hrs_m : ∀ x ∈ mr, x.length ≤ 64) : Calls Tryd.prog 61 #[.agg #[.int .i64 mn, .slice a_mr mr.length c_mr]] w (Ret fun v w' => ∃ (a0 : Option Addr) (c0 : Nat), v = .slice a0 (pairsM mn mr).length c0 ∧ Ext w w' ∧ RV M w' (.slice a0 (pairsM mn mr).length c0) (pairsM mn mr)) := by
 refine enter 32 Tryd.func61 rfl rfl rfl fun f0 ha => ?_
 have H := HI.start (M0 := M) (w := w) hM
 have H0 := H.put (it := imm (.slice a_mr mr.length c_mr) mr) rfl (by rw [MS_nil]; exact h_mr)
 have ln_mr := rv_len h_mr
 have i0 : f0 0 = .agg #[iV mn, .slice a_mr mr.length c_mr] := ha 0 (by simp)
 refine sq (rg (k (bx H0 rfl i0 ?_)))
 intro bb0 w0 xt0 (H1 : HI M w w0 [box bb0 #[iV mn, .slice a_mr mr.length c_mr] 86, imm (.slice a_mr mr.length c_mr) mr])
 refine k (asg (v := .slice none 0 0) rfl rfl (z (nx (sq (rg (k (asg (v := .slice none 0 0) rfl rfl (z (nx (sq (sq (rg (k (fa fl86_1 rfl rfl (k (ldX H1 0 rfl ty84 rfl rfl (by decide) rfl (k (lnS rfl rfl un84 (k (mv (v := iV 0) rfl rfl (z (nx (bk ?_)))))))))))))))))))))))
 have H2 := H1.nil_ (Int × Int) 104
 refine lp (fun m f w' => ∃ (i : Nat) (xs : List (Int × Int)) (a0 : Option Addr) (c0 : Nat), m = mr.length - i ∧ f 3 = .slice a0 xs.length c0 ∧ f 9 = .slice a_mr mr.length c_mr ∧ f 10 = iV (mr.length : Int) ∧ f 11 = iV (i : Int) ∧  HI M w w' [own w.heap.size 104 (.slice a0 xs.length c0) xs, box bb0 #[iV mn, .slice a_mr mr.length c_mr] 86, imm (.slice a_mr mr.length c_mr) mr] ∧ (i ≤ mr.length) ∧ (xs = pairsTo mr i)) _ ⟨0, ([] : List (Int × Int)), none, 0, rfl, rfl, rfl, rfl, (ieq rfl (by first | rfl | omega | simp)), H2, (by first | assumption | omega | simp | (simp; omega)), (by rfl)⟩ ?_
 rintro _ f0 w1 ⟨i, xs, a0, c0, rfl, s0, s1, s2, s3, H3, hi_, hs⟩
 refine sq (rg (k (lss rfl rfl s3 s2 (z (nx (sq ?_))))))
 refine cd (b := decide ((i : Int) < (mr.length : Int))) rfl rfl (fun b0 => ?_) (fun b0 => ?_)
 ·
  have p0 := of_decide_eq_true b0
  refine sk (nx (sq (bk (sq (rg (k (mv rfl s3 (k (ia (H3.rv 2 rfl) rfl rfl s1 s3 (by first | omega | (simp; omega)) un84 ty91 ?_)))))))))
  intro ad0 x0 hx0 hA0
  refine k (ldL hA0.w ty91 rfl rfl ?_)
  intro a1 c1 rv0
  have ln0 := rv_len rv0
  have H4 := H3.put (it := imm (.slice a1 x0.length c1) x0) rfl rv0
  refine k (asg (v := iV (i : Int)) rfl rfl (k (asg (v := .slice a1 x0.length c1) rfl rfl (z (nx (sq (rg (k (mv (v := .slice a1 x0.length c1) rfl rfl (k ?_))))))))))
  have cc0 := row_List (r := x0) (w := w1) H4.mb (hT.ext H4.below) (H4.rv 0 rfl) (by have h_ := hrs_m _ (List.mem_of_getElem? hx0); omega)
  refine ca go51 rfl (ec rfl e0) cc0 ?_
  rintro _ w2 ⟨a2, c2, rfl, xt1, rv1⟩
  have H5 := H4.ownsG rv1
  refine k (lnS rfl rfl un28 (k (mv (v := iV 0) rfl rfl (z (nx (bk ?_))))))
  refine lp (fun m f w' => ∃ (q : Nat) (xs2 : List (Int × Int)) (a3 : Option Addr) (c3 : Nat), m = (listR x0).length - q ∧ f 3 = .slice a3 xs2.length c3 ∧ f 4 = iV (i : Int) ∧ f 9 = .slice a_mr mr.length c_mr ∧ f 10 = iV (mr.length : Int) ∧ f 11 = iV (i : Int) ∧ f 17 = .slice a2 (listR x0).length c2 ∧ f 18 = iV ((listR x0).length : Int) ∧ f 19 = iV (q : Int) ∧  HI M w w' [own w.heap.size 3 (.slice a2 (listR x0).length c2) (listR x0), imm (.slice a1 x0.length c1) x0, own w.heap.size 104 (.slice a3 xs2.length c3) xs2, box bb0 #[iV mn, .slice a_mr mr.length c_mr] 86, imm (.slice a_mr mr.length c_mr) mr] ∧ (q ≤ (listR x0).length) ∧ (xs2 = pairsTo mr i ++ ((listR x0).take q).map fun j => (((i : Nat) : Int), j))) _ ⟨0, xs, a0, c0, rfl, s0, rfl, s1, s2, s3, rfl, rfl, (ieq rfl (by first | rfl | omega | simp)), H5, (by first | assumption | omega | simp | (simp; omega)), (by rw [hs]; simp)⟩ ?_
  rintro _ f1 w3 ⟨q, xs2, a3, c3, rfl, s4, s5, s6, s7, s8, s9, s10, s11, H6, hq_, hs2⟩
  refine sq (rg (k (lss rfl rfl s11 s10 (z (nx (sq ?_))))))
  refine cd (b := decide ((q : Int) < ((listR x0).length : Int))) rfl rfl (fun b1 => ?_) (fun b1 => ?_)
  ·
   have p1 := of_decide_eq_true b1
   refine sk (nx (sq (bk (sq (rg (k (iaO (H6.at_ 0 rfl) rfl rfl s9 s11 (by first | omega | (simp; omega)) un28 ty3 ?_)))))))
   intro g0 x1 hv0 hx1 hA1
   refine k (ldI hA1 ty3 rfl rfl ?_)
   intro rv2
   refine k (asg (v := iV x1) rfl rfl (z (nx (rg (k (mv rfl s4 (k (mv rfl s5 (k (mv (v := iV x1) rfl rfl (k (bd (v := .agg #[iV (i : Int), iV x1]) rfl (pbc rfl (pbc rfl pb0)) (fun _ => by kernel_rfl) (k (bs (xs := ([((i : Int), x1)] : List (Int × Int))) (cells := #[iV (i : Int), iV x1]) (e := 104) H6 rfl (pbc rfl pb0) (fun _ => by kernel_rfl) ⟨[iV (i : Int), iV x1], [], rfl, ⟨_, _, rfl, ⟨rfl, (show I64 ((i : Int)) from (by unfold I64 at *; omega))⟩, ⟨rfl, (show I64 (x1) from (by unfold I64 at *; omega))⟩⟩, rfl⟩ rfl (by unfold maxLen; omega) ?_))))))))))))))
   intro g1 w4 xt2 H7
   refine k (ap H7 3 rfl rfl rfl rfl rfl rfl (own_src (H7.at_ 0 rfl)) un102 ty104 rfl (by have h1_ := pairsTo_len hrs_m i; have h2_ := listR_length x0; have h3_ := hrs_m _ (List.mem_of_getElem? hx0); rw [hs2, List.length_append, List.length_map, List.length_take]; simp only [List.length_cons, List.length_nil]; omega) (by have h1_ := pairsTo_len hrs_m i; have h2_ := listR_length x0; have h3_ := hrs_m _ (List.mem_of_getElem? hx0); rw [hs2, List.length_append, List.length_map, List.length_take]; simp only [List.length_cons, List.length_nil]; omega) ?_)
   intro a4 c4 w5 (H8 : HI M w w5 [own w.heap.size 104 (.slice (some ⟨g1, 0, none⟩) 1 1) ([((i : Int), x1)] : List (Int × Int)), own w.heap.size 3 (.slice a2 (listR x0).length c2) (listR x0), imm (.slice a1 x0.length c1) x0, own w.heap.size 104 (.slice a4 (xs2 ++ ([((i : Int), x1)] : List (Int × Int))).length c4) (xs2 ++ ([((i : Int), x1)] : List (Int × Int))), box bb0 #[iV mn, .slice a_mr mr.length c_mr] 86, imm (.slice a_mr mr.length c_mr) mr])
   refine k (asg (v := .slice a4 (xs2 ++ ([((i : Int), x1)] : List (Int × Int))).length c4) rfl rfl (z (inb_normal (nx (rg (k (add rfl rfl s11 rfl (by have h2_ := listR_length x0; have h3_ := hrs_m _ (List.mem_of_getElem? hx0); unfold I64; omega) (k (mv (v := iV ((q : Int) + 1)) rfl rfl (z ?_))))))))))
   have H9 : HI M w w5 [own w.heap.size 3 (.slice a2 (listR x0).length c2) (listR x0), imm (.slice a1 x0.length c1) x0, own w.heap.size 104 (.slice a4 (xs2 ++ ([((i : Int), x1)] : List (Int × Int))).length c4) (xs2 ++ ([((i : Int), x1)] : List (Int × Int))), box bb0 #[iV mn, .slice a_mr mr.length c_mr] 86, imm (.slice a_mr mr.length c_mr) mr] := H8.pickN [1, 2, 3, 4, 5] (by decide) rfl
   refine loopN _ ?_ ⟨(q + 1), (xs2 ++ ([((i : Int), x1)] : List (Int × Int))), a4, c4, rfl, rfl, s5, s6, s7, s8, s9, s10, (ieq rfl (by first | rfl | omega | (push_cast; omega))), H9, (by first | assumption | omega | simp | (simp; omega)), (by rw [hs2]; exact pair_step hx1)⟩
   omega
  ·
   have p1 := of_decide_eq_false b1
   refine ex (then_exit (loop_exit (inb_here (inb_normal (nx (rg (k (add rfl rfl s8 rfl (by unfold I64 at *; omega) (k (mv (v := iV ((i : Int) + 1)) rfl rfl (z ?_)))))))))))
   have H7 : HI M w w3 [own w.heap.size 104 (.slice a3 xs2.length c3) xs2, box bb0 #[iV mn, .slice a_mr mr.length c_mr] 86, imm (.slice a_mr mr.length c_mr) mr] := H6.pickN [2, 3, 4] (by decide) rfl
   refine loopN _ ?_ ⟨(i + 1), xs2, a3, c3, rfl, s4, s6, s7, (ieq rfl (by first | rfl | omega | (push_cast; omega))), H7, (by first | assumption | omega | simp | (simp; omega)), (by rw [hs2]; exact pair_row hx0 (by omega))⟩
   omega
 ·
  have p0 := of_decide_eq_false b0
  refine ex (then_exit (loop_exit (inb_here (nx (sq (rg (k (mv rfl s0 (k (asg (v := .slice a0 xs.length c0) rfl rfl (z (nx (rt (r1 rfl rfl ?_))))))))))))))
  have e0 : (xs : List (Int × Int)) = pairsM mn mr := by rw [hs]; exact pairs_end (by omega) (by omega)
  have ev_ := cg1 (fun (x_0 : List (Int × Int)) => (.slice a0 x_0.length c0 : Value)) e0
  exact ⟨a0, c0, ev_, H3.below, (congrArg (fun (x_ : List (Int × Int)) => RV _ _ (.slice a0 x_.length c0) x_) e0).mp (H3.outO 0 rfl)⟩
set_option maxRecDepth 100000 in
set_option maxHeartbeats 1600000 in
theorem mat_Or {M : Nat → Prop} {w : World} {an : Int} {a_ar : Option Addr} {c_ar : Nat} {ar : List (List (BitVec 64))} {bn : Int} {a_br : Option Addr} {c_br : Nat} {br : List (List (BitVec 64))} (hM : ∀ b, M b → b < w.heap.size) (h_an : I64 an) (h_ar : RV M w (.slice a_ar ar.length c_ar) ar) (h_bn : I64 bn) (h_br : RV M w (.slice a_br br.length c_br) br) (hsq_a : ((ar.length : Nat) : Int) = an) (hrw_a : ∀ x ∈ ar, x.length ≤ 1000000000) (hl4_a : an ≤ 4096) (hsq_b : ((br.length : Nat) : Int) = bn) (hrw_b : ∀ x ∈ br, x.length ≤ 1000000000) (hl4_b : bn ≤ 4096) : Calls Tryd.prog 65 #[.agg #[.int .i64 an, .slice a_ar ar.length c_ar], .agg #[.int .i64 bn, .slice a_br br.length c_br]] w (Ret fun v w' => ∃ (a0 : Option Addr) (c0 : Nat), v = .tuple #[.agg #[.int .i64 (orMN an bn), .slice a0 (orMR an ar bn br).length c0], .int .i64 (orME an bn)] ∧ Ext w w' ∧ OwnsG M 91 w (orMR an ar bn br) (.slice a0 (orMR an ar bn br).length c0) w') := by
 refine enter 41 Tryd.func65 rfl rfl rfl fun f0 ha => ?_
 have H := HI.start (M0 := M) (w := w) hM
 have H0 := H.put (it := imm (.slice a_ar ar.length c_ar) ar) rfl (by rw [MS_nil]; exact h_ar)
 have H1 := H0.put (it := imm (.slice a_br br.length c_br) br) rfl (by rw [MS_cons_none rfl, MS_nil]; exact h_br)
 have ln_ar := rv_len h_ar
 have ln_br := rv_len h_br
 have i0 : f0 0 = .agg #[iV an, .slice a_ar ar.length c_ar] := ha 0 (by simp)
 have i1 : f0 1 = .agg #[iV bn, .slice a_br br.length c_br] := ha 1 (by simp)
 refine sq (rg (k (bx H1 rfl i0 ?_)))
 intro bb0 w0 xt0 (H2 : HI M w w0 [box bb0 #[iV an, .slice a_ar ar.length c_ar] 86, imm (.slice a_br br.length c_br) br, imm (.slice a_ar ar.length c_ar) ar])
 refine k (bx H2 rfl i1 ?_)
 intro bb1 w1 xt1 (H3 : HI M w w1 [box bb1 #[iV bn, .slice a_br br.length c_br] 86, box bb0 #[iV an, .slice a_ar ar.length c_ar] 86, imm (.slice a_br br.length c_br) br, imm (.slice a_ar ar.length c_ar) ar])
 refine k (al H3 ty86 ?_)
 intro bb2 w2 xt2 (H4 : HI M w w2 [box bb2 #[iV 0, .slice none 0 0] 86, box bb1 #[iV bn, .slice a_br br.length c_br] 86, box bb0 #[iV an, .slice a_ar ar.length c_ar] 86, imm (.slice a_br br.length c_br) br, imm (.slice a_ar ar.length c_ar) ar])
 refine k (asg (v := iV 0) rfl rfl (z (nx (sq (sq (rg (k (fa fl86_0 rfl rfl (k (ldX H4 2 rfl ty3 rfl rfl (by decide) rfl (k (fa fl86_0 rfl rfl (k (ldX H4 1 rfl ty3 rfl rfl (by decide) rfl (k (neq rfl rfl rfl rfl (z (nx ?_))))))))))))))))))
 refine cd (b := !decide (an = bn)) rfl rfl (fun b0 => ?_) (fun b0 => ?_)
 ·
  have p0 := of_decide_eq_false (nott b0)
  refine sq (rg (k (bd (v := .agg #[iV 0, .slice none 0 0]) rfl pb0 (fun _ => by kernel_rfl) (k (stX H4 0 rfl ty86 rfl rfl rfl rfl rfl rfl rfl ?_)))))
  intro w3 (H5 : HI M w w3 [box bb2 #[iV 0, .slice none 0 0] 86, box bb1 #[iV bn, .slice a_br br.length c_br] 86, box bb0 #[iV an, .slice a_ar ar.length c_ar] 86, imm (.slice a_br br.length c_br) br, imm (.slice a_ar ar.length c_ar) ar])
  refine k (asg (v := iV 1) rfl rfl (z (nx (rt (then_ret (rc2 H5 0 rfl ty86 rfl rfl rfl rfl rfl (by decide) ?_))))))
  have e0 : (0 : Int) = orMN an bn := by first | exact (orM_no (ar := ar) (br := br) p0).1.symm | exact (orM_yes (ar := ar) (br := br) p0).1.symm
  have e1 : ([] : List (List (BitVec 64))) = orMR an ar bn br := by first | exact (orM_no p0).2.1.symm | (rw [(orM_yes p0).2.1, hs]; exact orFill_end (by omega) hk)
  have e2 : (1 : Int) = orME an bn := by first | exact (orM_no (ar := ar) (br := br) p0).2.2.symm | exact (orM_yes (ar := ar) (br := br) p0).2.2.symm
  have ev_ := cg3 (fun (x_0 : Int) (x_1 : List (List (BitVec 64))) (x_2 : Int) => (.tuple #[.agg #[iV x_0, .slice none x_1.length 0], iV x_2] : Value)) e0 e1 e2
  exact ⟨none, 0, ev_, H5.below, (congrArg (fun (x_ : List (List (BitVec 64))) => OwnsG _ _ _ x_ (.slice none x_.length 0) _) e1).mp (ownsG_nil H5.below)⟩
 ·
  have p0 := of_decide_eq_true (notf b0)
  refine sk (nx (sq (rg (k (fa fl86_0 rfl rfl (k (ldX H4 2 rfl ty3 rfl rfl (by decide) rfl (k ?_))))))))
  have n0 : ((an.toNat : Nat) : Int) = an := Int.toNat_of_nonneg (by omega)
  refine mk (m := an.toNat) (zx := ([] : (List (BitVec 64)))) H4 rfl rfl (by rw [n0]; exact rfl) (by rw [n0]; exact rfl) un84 ty91 (fun _ _ => ⟨_, rfl, rs_nil _ _⟩) (by omega) (by omega) ?_
  intro g0 w3 xt3 (H5 : HI M w w3 [own w.heap.size 91 (.slice (some ⟨g0, 0, none⟩) an.toNat an.toNat) (List.replicate an.toNat ([] : (List (BitVec 64)))), box bb2 #[iV 0, .slice none 0 0] 86, box bb1 #[iV bn, .slice a_br br.length c_br] 86, box bb0 #[iV an, .slice a_ar ar.length c_ar] 86, imm (.slice a_br br.length c_br) br, imm (.slice a_ar ar.length c_ar) ar])
  refine k (asg (v := .slice (some ⟨g0, 0, none⟩) an.toNat an.toNat) rfl rfl (z (nx (sq (sq (rg (k (mv (v := .slice (some ⟨g0, 0, none⟩) an.toNat an.toNat) rfl rfl (k (lnS rfl rfl un84 (k (mv (v := iV 0) rfl rfl (z (nx (bk ?_)))))))))))))))
  refine lp (fun m f w' => ∃ (j : Nat) (xs : List (List (BitVec 64))), m = an.toNat - j ∧ f 2 = pV bb0 0 ∧ f 3 = pV bb1 0 ∧ f 4 = pV bb2 0 ∧ f 6 = .slice (some ⟨g0, 0, none⟩) an.toNat an.toNat ∧ f 18 = iV (an.toNat : Int) ∧ f 19 = iV (j : Int) ∧  HI M w w' [own w.heap.size 91 (.slice (some ⟨g0, 0, none⟩) an.toNat an.toNat) xs, box bb2 #[iV 0, .slice none 0 0] 86, box bb1 #[iV bn, .slice a_br br.length c_br] 86, box bb0 #[iV an, .slice a_ar ar.length c_ar] 86, imm (.slice a_br br.length c_br) br, imm (.slice a_ar ar.length c_ar) ar] ∧ (j ≤ an.toNat) ∧ (xs.length = an.toNat) ∧ (xs = orFill ar br an.toNat j)) _ ⟨0, (List.replicate an.toNat ([] : (List (BitVec 64)))), rfl, rfl, rfl, rfl, rfl, rfl, (ieq rfl (by first | rfl | omega | simp)), H5, (by first | assumption | omega | simp | (simp; omega)), (by simp), (by exact orFill_zero _ _ _)⟩ ?_
  rintro _ f0 w4 ⟨j, xs, rfl, s0, s1, s2, s3, s4, s5, H6, hk, hl, hs⟩
  refine sq (rg (k (lss rfl rfl s5 s4 (z (nx (sq ?_))))))
  refine cd (b := decide ((j : Int) < (an.toNat : Int))) rfl rfl (fun b1 => ?_) (fun b1 => ?_)
  ·
   have p1 := of_decide_eq_true b1
   refine sk (nx (sq (bk (sq (rg (k (mv rfl s5 (k (asg (v := iV (j : Int)) rfl rfl (z (nx ?_)))))))))))
   obtain ⟨x0, hx0⟩ : ∃ x, ar[(j : Int).toNat]? = some x := ⟨_, List.getElem?_eq_getElem (by first | omega | (simp; omega))⟩
   obtain ⟨x1, hx1⟩ : ∃ x, br[(j : Int).toNat]? = some x := ⟨_, List.getElem?_eq_getElem (by first | omega | (simp; omega))⟩
   refine dr 13 [eV (.slice (some ⟨g0, 0, none⟩) an.toNat an.toNat), eV (iV (j : Int)), eV (pV bb0 1), eV (.slice a_ar ar.length c_ar), eV (iV (j : Int)), fun (v : Value) (w' : World) => ∃ (ad0 : Addr), v = .pointer (some ad0) ∧ At (MS M [own w.heap.size 91 (.slice (some ⟨g0, 0, none⟩) an.toNat an.toNat) xs, box bb2 #[iV 0, .slice none 0 0] 86, box bb1 #[iV bn, .slice a_br br.length c_br] 86, box bb0 #[iV an, .slice a_ar ar.length c_ar] 86, imm (.slice a_br br.length c_br) br, imm (.slice a_ar ar.length c_ar) ar]) w' ad0 x0, fun (v : Value) (w' : World) => ∃ (a0 : Option Addr) (c0 : Nat), v = .slice a0 x0.length c0 ∧ RV (MS M [own w.heap.size 91 (.slice (some ⟨g0, 0, none⟩) an.toNat an.toNat) xs, box bb2 #[iV 0, .slice none 0 0] 86, box bb1 #[iV bn, .slice a_br br.length c_br] 86, box bb0 #[iV an, .slice a_ar ar.length c_ar] 86, imm (.slice a_br br.length c_br) br, imm (.slice a_ar ar.length c_ar) ar]) w' (.slice a0 x0.length c0) x0, eV (pV bb1 1), eV (.slice a_br br.length c_br), eV (iV (j : Int)), fun (v : Value) (w' : World) => ∃ (ad1 : Addr), v = .pointer (some ad1) ∧ At (MS M [own w.heap.size 91 (.slice (some ⟨g0, 0, none⟩) an.toNat an.toNat) xs, box bb2 #[iV 0, .slice none 0 0] 86, box bb1 #[iV bn, .slice a_br br.length c_br] 86, box bb0 #[iV an, .slice a_ar ar.length c_ar] 86, imm (.slice a_br br.length c_br) br, imm (.slice a_ar ar.length c_ar) ar]) w' ad1 x1, fun (v : Value) (w' : World) => ∃ (a1 : Option Addr) (c1 : Nat), v = .slice a1 x1.length c1 ∧ RV (MS M [own w.heap.size 91 (.slice (some ⟨g0, 0, none⟩) an.toNat an.toNat) xs, box bb2 #[iV 0, .slice none 0 0] 86, box bb1 #[iV bn, .slice a_br br.length c_br] 86, box bb0 #[iV an, .slice a_ar ar.length c_ar] 86, imm (.slice a_br br.length c_br) br, imm (.slice a_ar ar.length c_ar) ar]) w' (.slice a1 x1.length c1) x1, fun (v : Value) (w' : World) => ∃ (a2 : Option Addr) (c2 : Nat), v = .slice a2 (orR x0 x1).length c2 ∧ RV (MS M [own w.heap.size 91 (.slice (some ⟨g0, 0, none⟩) an.toNat an.toNat) xs, box bb2 #[iV 0, .slice none 0 0] 86, box bb1 #[iV bn, .slice a_br br.length c_br] 86, box bb0 #[iV an, .slice a_ar ar.length c_ar] 86, imm (.slice a_br br.length c_br) br, imm (.slice a_ar ar.length c_ar) ar]) w' (.slice a2 (orR x0 x1).length c2) (orR x0 x1)] rfl (by kernel_rfl) ?_ ?_
   ·
    refine dc (fun _ _ hf0 _ _ => mv rfl ((hf0 6 rfl).trans s3) (d0 rfl rfl)) ?_
    refine dc (fun _ _ hf1 _ _ => mv rfl (hf1 7 rfl) (d0 rfl rfl)) ?_
    refine dc (fun _ _ hf2 _ _ => fa fl86_1 rfl ((hf2 2 rfl).trans s0) (d0 rfl rfl)) ?_
    refine dc (fun _ _ _ xt8 hp3 => ldX (H6.ext xt8) 3 rfl ty84 rfl (hp3 2 rfl rfl) (by decide) rfl (d0 rfl rfl)) ?_
    refine dc (fun _ _ hf4 _ _ => mv rfl (hf4 7 rfl) (d0 rfl rfl)) ?_
    refine ⟨fun _ => ⟨fun f6 w11 hf5 xt10 hp5 => ?_, by rintro _ _ _ x_ ⟨ad0, e_, hA0⟩; exact ⟨ad0, e_, hA0.lift (Up.ext x_)⟩⟩, ?_⟩
    ·
     have H16 := H6.ext xt10
     have s7 : f6 25 = .slice a_ar ar.length c_ar := hp5 3 rfl rfl
     have s8 : f6 26 = iV (j : Int) := hp5 4 rfl rfl
     refine ia (H16.rv 5 rfl) rfl rfl s7 s8 (by first | omega | (simp; omega)) un84 ty91 ?_
     intro ad2 x2 hx2 hA2
     obtain rfl : x0 = x2 := Option.some.inj (hx0.symm.trans hx2)
     exact ⟨_, rfl, Ext.refl _, ⟨ad2, rfl, hA2⟩⟩
    refine ⟨fun _ => ⟨fun f7 w12 hf6 xt11 hp6 => ?_, by rintro _ _ _ x_ ⟨a0, c0, e_, rv0⟩; exact ⟨a0, c0, e_, rv0.lift (Up.ext x_)⟩⟩, ?_⟩
    ·
     have H17 := H6.ext xt11
     obtain ⟨ad3, s9, hA3⟩ : ∃ (ad3 : Addr), f7 27 = .pointer (some ad3) ∧ At (MS M [own w.heap.size 91 (.slice (some ⟨g0, 0, none⟩) an.toNat an.toNat) xs, box bb2 #[iV 0, .slice none 0 0] 86, box bb1 #[iV bn, .slice a_br br.length c_br] 86, box bb0 #[iV an, .slice a_ar ar.length c_ar] 86, imm (.slice a_br br.length c_br) br, imm (.slice a_ar ar.length c_ar) ar]) w12 ad3 x0 := hp6 5 rfl rfl
     have H18 := H17.put (it := atI ad3 x0) rfl hA3
     refine ldL (H18.atv 0 rfl).w ty91 rfl s9 ?_
     intro a3 c3 rv4
     have ln2 := rv_len rv4
     exact ⟨_, rfl, Ext.refl _, ⟨a3, c3, rfl, (rv_drop rfl rv4)⟩⟩
    refine dc (fun _ _ hf7 _ _ => fa fl86_1 rfl ((hf7 3 rfl).trans s1) (d0 rfl rfl)) ?_
    refine dc (fun _ _ _ xt13 hp8 => ldX (H6.ext xt13) 2 rfl ty84 rfl (hp8 7 rfl rfl) (by decide) rfl (d0 rfl rfl)) ?_
    refine dc (fun _ _ hf9 _ _ => mv rfl (hf9 7 rfl) (d0 rfl rfl)) ?_
    refine ⟨fun _ => ⟨fun f11 w16 hf10 xt15 hp10 => ?_, by rintro _ _ _ x_ ⟨ad1, e_, hA1⟩; exact ⟨ad1, e_, hA1.lift (Up.ext x_)⟩⟩, ?_⟩
    ·
     have H23 := H6.ext xt15
     have s11 : f11 30 = .slice a_br br.length c_br := hp10 8 rfl rfl
     have s12 : f11 31 = iV (j : Int) := hp10 9 rfl rfl
     refine ia (H23.rv 4 rfl) rfl rfl s11 s12 (by first | omega | (simp; omega)) un84 ty91 ?_
     intro ad4 x3 hx3 hA4
     obtain rfl : x1 = x3 := Option.some.inj (hx1.symm.trans hx3)
     exact ⟨_, rfl, Ext.refl _, ⟨ad4, rfl, hA4⟩⟩
    refine ⟨fun _ => ⟨fun f12 w17 hf11 xt16 hp11 => ?_, by rintro _ _ _ x_ ⟨a1, c1, e_, rv1⟩; exact ⟨a1, c1, e_, rv1.lift (Up.ext x_)⟩⟩, ?_⟩
    ·
     have H24 := H6.ext xt16
     obtain ⟨ad5, s13, hA5⟩ : ∃ (ad5 : Addr), f12 32 = .pointer (some ad5) ∧ At (MS M [own w.heap.size 91 (.slice (some ⟨g0, 0, none⟩) an.toNat an.toNat) xs, box bb2 #[iV 0, .slice none 0 0] 86, box bb1 #[iV bn, .slice a_br br.length c_br] 86, box bb0 #[iV an, .slice a_ar ar.length c_ar] 86, imm (.slice a_br br.length c_br) br, imm (.slice a_ar ar.length c_ar) ar]) w17 ad5 x1 := hp11 10 rfl rfl
     have H25 := H24.put (it := atI ad5 x1) rfl hA5
     refine ldL (H25.atv 0 rfl).w ty91 rfl s13 ?_
     intro a4 c4 rv5
     have ln3 := rv_len rv5
     exact ⟨_, rfl, Ext.refl _, ⟨a4, c4, rfl, (rv_drop rfl rv5)⟩⟩
    refine ⟨fun _ => ⟨fun f13 w18 hf12 xt17 hp12 => ?_, by rintro _ _ _ x_ ⟨a2, c2, e_, rv3⟩; exact ⟨a2, c2, e_, rv3.lift (Up.ext x_)⟩⟩, ?_⟩
    ·
     have H27 := H6.ext xt17
     obtain ⟨a5, c5, s14, rv6⟩ : ∃ (a5 : Option Addr) (c5 : Nat), f13 28 = .slice a5 x0.length c5 ∧ RV (MS M [own w.heap.size 91 (.slice (some ⟨g0, 0, none⟩) an.toNat an.toNat) xs, box bb2 #[iV 0, .slice none 0 0] 86, box bb1 #[iV bn, .slice a_br br.length c_br] 86, box bb0 #[iV an, .slice a_ar ar.length c_ar] 86, imm (.slice a_br br.length c_br) br, imm (.slice a_ar ar.length c_ar) ar]) w18 (.slice a5 x0.length c5) x0 := hp12 6 rfl rfl
     have H28 := H27.put (it := imm (.slice a5 x0.length c5) x0) rfl rv6
     obtain ⟨a6, c6, s15, rv7⟩ : ∃ (a6 : Option Addr) (c6 : Nat), f13 33 = .slice a6 x1.length c6 ∧ RV (MS M [own w.heap.size 91 (.slice (some ⟨g0, 0, none⟩) an.toNat an.toNat) xs, box bb2 #[iV 0, .slice none 0 0] 86, box bb1 #[iV bn, .slice a_br br.length c_br] 86, box bb0 #[iV an, .slice a_ar ar.length c_ar] 86, imm (.slice a_br br.length c_br) br, imm (.slice a_ar ar.length c_ar) ar]) w18 (.slice a6 x1.length c6) x1 := hp12 11 rfl rfl
     have H29 := H28.put (it := imm (.slice a6 x1.length c6) x1) rfl (by rw [MS_cons_none rfl]; exact rv7)
     have cc1 := row_Or (a := x0) (b := x1) (w := w18) H29.mb (H29.rv 1 rfl) (H29.rv 0 rfl) (by first | exact hrw_a _ (List.mem_of_getElem? hx0) | exact hrw_b _ (List.mem_of_getElem? hx1)) (by first | exact hrw_a _ (List.mem_of_getElem? hx0) | exact hrw_b _ (List.mem_of_getElem? hx1))
     refine ca go71 rfl (ec s14 (ec s15 e0)) cc1 ?_
     rintro _ w19 ⟨a7, c7, rfl, xt18, rv8⟩
     have rv9 := OwnsG.rv rv8 H29.mb
     exact ⟨_, rfl, xt18, ⟨a7, c7, rfl, (rv_drop rfl (rv_drop rfl rv9))⟩⟩
    exact DSteps.rest rfl _
   ·
    intro f14 w20 hf13 xt19 hp13
    have H32 := H6.ext xt19
    have s16 : f14 2 = pV bb0 0 := (hf13 2 rfl).trans s0
    have s17 : f14 3 = pV bb1 0 := (hf13 3 rfl).trans s1
    have s18 : f14 4 = pV bb2 0 := (hf13 4 rfl).trans s2
    have s19 : f14 6 = .slice (some ⟨g0, 0, none⟩) an.toNat an.toNat := (hf13 6 rfl).trans s3
    have s20 : f14 18 = iV (an.toNat : Int) := (hf13 18 rfl).trans s4
    have s21 : f14 19 = iV (j : Int) := (hf13 19 rfl).trans s5
    have s22 : f14 22 = .slice (some ⟨g0, 0, none⟩) an.toNat an.toNat := hp13 0 rfl
    have s23 : f14 23 = iV (j : Int) := hp13 1 rfl
    obtain ⟨a8, c8, s24, rv10⟩ : ∃ (a8 : Option Addr) (c8 : Nat), f14 34 = .slice a8 (orR x0 x1).length c8 ∧ RV (MS M [own w.heap.size 91 (.slice (some ⟨g0, 0, none⟩) an.toNat an.toNat) xs, box bb2 #[iV 0, .slice none 0 0] 86, box bb1 #[iV bn, .slice a_br br.length c_br] 86, box bb0 #[iV an, .slice a_ar ar.length c_ar] 86, imm (.slice a_br br.length c_br) br, imm (.slice a_ar ar.length c_ar) ar]) w20 (.slice a8 (orR x0 x1).length c8) (orR x0 x1) := hp13 12 rfl
    have H33 := H32.put (it := imm (.slice a8 (orR x0 x1).length c8) (orR x0 x1)) rfl rv10
    refine k (iaO (H33.at_ 1 rfl) rfl rfl s22 s23 (by first | omega | (simp; omega)) un84 ty91 ?_)
    intro g1 x4 hv0 hx4 hA6
    refine k (stO H33 1 rfl hv0 rfl (by first | omega | (simp; omega)) ty91 rfl rfl rfl s24 (H33.rv 0 rfl) ?_)
    intro w21 (H34 : HI M w w21 [imm (.slice a8 (orR x0 x1).length c8) (orR x0 x1), own w.heap.size 91 (.slice (some ⟨g0, 0, none⟩) an.toNat an.toNat) (xs.set ((j : Int).toNat) (orR x0 x1)), box bb2 #[iV 0, .slice none 0 0] 86, box bb1 #[iV bn, .slice a_br br.length c_br] 86, box bb0 #[iV an, .slice a_ar ar.length c_ar] 86, imm (.slice a_br br.length c_br) br, imm (.slice a_ar ar.length c_ar) ar])
    refine z (inb_normal (nx (rg (k (add rfl rfl s21 rfl (by unfold I64 at *; omega) (k (mv (v := iV ((j : Int) + 1)) rfl rfl (z ?_))))))))
    have H35 : HI M w w21 [own w.heap.size 91 (.slice (some ⟨g0, 0, none⟩) an.toNat an.toNat) (xs.set ((j : Int).toNat) (orR x0 x1)), box bb2 #[iV 0, .slice none 0 0] 86, box bb1 #[iV bn, .slice a_br br.length c_br] 86, box bb0 #[iV an, .slice a_ar ar.length c_ar] 86, imm (.slice a_br br.length c_br) br, imm (.slice a_ar ar.length c_ar) ar] := H34.pickN [1, 2, 3, 4, 5, 6] (by decide) rfl
    refine loopN _ ?_ ⟨(j + 1), (xs.set ((j : Int).toNat) (orR x0 x1)), rfl, s16, s17, s18, s19, s20, (ieq rfl (by first | rfl | omega | (push_cast; omega))), H35, (by first | assumption | omega | simp | (simp; omega)), (by simpa using hl), (by rw [hs]; exact orFill_set (by omega) hx0 hx1)⟩
    omega
  ·
   have p1 := of_decide_eq_false b1
   refine ex (then_exit (loop_exit (inb_here (nx (sq (rg (k (fa fl86_0 rfl s0 (k (ldX H6 3 rfl ty3 rfl rfl (by decide) rfl (k (mv rfl s3 (k (bd (v := .agg #[iV an, .slice (some ⟨g0, 0, none⟩) an.toNat an.toNat]) rfl (pbc rfl (pbc rfl pb0)) (fun _ => by kernel_rfl) (k (stX H6 1 rfl ty86 rfl rfl s2 rfl rfl rfl rfl ?_))))))))))))))))
   intro w5 (H7 : HI M w w5 [own w.heap.size 91 (.slice (some ⟨g0, 0, none⟩) an.toNat an.toNat) xs, box bb2 #[iV an, .slice (some ⟨g0, 0, none⟩) an.toNat an.toNat] 86, box bb1 #[iV bn, .slice a_br br.length c_br] 86, box bb0 #[iV an, .slice a_ar ar.length c_ar] 86, imm (.slice a_br br.length c_br) br, imm (.slice a_ar ar.length c_ar) ar])
   refine k (asg (v := iV 0) rfl rfl (z (nx (rt (rc2 H7 1 rfl ty86 rfl rfl rfl s2 rfl (by decide) ?_)))))
   have e0 : (an : Int) = orMN an bn := by first | exact (orM_no (ar := ar) (br := br) p0).1.symm | exact (orM_yes (ar := ar) (br := br) p0).1.symm
   have e1 : (xs : List (List (BitVec 64))) = orMR an ar bn br := by first | exact (orM_no p0).2.1.symm | (rw [(orM_yes p0).2.1, hs]; exact orFill_end (by omega) hk)
   have l1 : an.toNat = (orMR an ar bn br).length := by first | rfl | (rw [← e1]; omega) | (rw [← e1]; simp) | simp
   have e2 : (0 : Int) = orME an bn := by first | exact (orM_no (ar := ar) (br := br) p0).2.2.symm | exact (orM_yes (ar := ar) (br := br) p0).2.2.symm
   have ev_ := cg3 (fun (x_0 : Int) (n_1 : Nat) (x_2 : Int) => (.tuple #[.agg #[iV x_0, .slice (some ⟨g0, 0, none⟩) n_1 an.toNat], iV x_2] : Value)) e0 l1 e2
   exact ⟨(some ⟨g0, 0, none⟩), an.toNat, ev_, H7.below, (congrArg (fun (n_ : Nat) => OwnsG _ _ _ (orMR an ar bn br) (.slice (some ⟨g0, 0, none⟩) n_ an.toNat) _) l1).mp ((congrArg (fun (x_ : List (List (BitVec 64))) => OwnsG _ _ _ x_ (.slice (some ⟨g0, 0, none⟩) an.toNat an.toNat) _) e1).mp (H7.ownsG_out 0 rfl))⟩
end Go.Proofs.YtefcbihikknlkaaDoor
namespace Go.Proofs.YtefcbihikknlkaaDoor
open Go.Ew Go.RowKit
set_option linter.unusedVariables false
set_option linter.unusedSimpArgs false
attribute [local irreducible] WL WC SO Code.wp wpList retQ Ret
attribute [local irreducible] bitB hasW inR hasR setR countW countR subR words newR listR orR firstW tab8
end Go.Proofs.YtefcbihikknlkaaDoor
namespace Go.Proofs.YtefcbihikknlkaaDoor
open Go.Ew Go.RowKit
set_option linter.unusedVariables false
set_option linter.unusedSimpArgs false
attribute [local irreducible] WL WC SO Code.wp wpList retQ Ret
attribute [local irreducible] bitB hasW inR hasR setR countW countR subR words newR listR orR firstW tab8
theorem un9 : Tryd.prog.underlying 9 = some (.string) := by kernel_rfl
theorem un22 : Tryd.prog.underlying 22 = some (.slice 38) := by kernel_rfl
theorem ty38 : TyF Tryd.prog 38 1 false 24 (.slice none 0 0) := ⟨by kernel_rfl, by kernel_rfl⟩
theorem un38 : Tryd.prog.underlying 38 = some (.slice 41) := by kernel_rfl
theorem ty41 : TyF Tryd.prog 41 3 true 32 (.agg #[.bool false, .string ⟨#[]⟩, .int .i64 0]) := ⟨by kernel_rfl, by kernel_rfl⟩
theorem go9 : GoF Tryd.prog 9 := ⟨_, _, Tryd.func9, rfl, by kernel_rfl⟩
theorem fl41_1 : FldF Tryd.prog 41 1 1 := ⟨_, _, Tryd.underlying41, rfl, rfl, by kernel_rfl⟩
theorem ty9 : TyF Tryd.prog 9 1 false 16 (.string ⟨#[]⟩) := ⟨by kernel_rfl, by kernel_rfl⟩
theorem go36 : GoF Tryd.prog 36 := ⟨_, _, Tryd.func36, rfl, by kernel_rfl⟩
theorem go8 : GoF Tryd.prog 8 := ⟨_, _, Tryd.func8, rfl, by kernel_rfl⟩
theorem un26 : Tryd.prog.underlying 26 = some (.slice 9) := by kernel_rfl
theorem ty30 : TyF Tryd.prog 30 3 true 72 (.agg #[.slice none 0 0, .slice none 0 0, .slice none 0 0]) := ⟨by kernel_rfl, by kernel_rfl⟩
theorem go21 : GoF Tryd.prog 21 := ⟨_, _, Tryd.func21, rfl, by kernel_rfl⟩
theorem fl30_0 : FldF Tryd.prog 30 0 0 := ⟨_, _, Tryd.underlying30, rfl, rfl, by kernel_rfl⟩
theorem ty26 : TyF Tryd.prog 26 1 false 24 (.slice none 0 0) := ⟨by kernel_rfl, by kernel_rfl⟩
theorem go22 : GoF Tryd.prog 22 := ⟨_, _, Tryd.func22, rfl, by kernel_rfl⟩
theorem fl41_0 : FldF Tryd.prog 41 0 0 := ⟨_, _, Tryd.underlying41, rfl, rfl, by kernel_rfl⟩
theorem fl41_2 : FldF Tryd.prog 41 2 2 := ⟨_, _, Tryd.underlying41, rfl, rfl, by kernel_rfl⟩
theorem fl65_4 : FldF Tryd.prog 65 4 4 := ⟨_, _, Tryd.underlying65, rfl, rfl, by kernel_rfl⟩
theorem go23 : GoF Tryd.prog 23 := ⟨_, _, Tryd.func23, rfl, by kernel_rfl⟩
set_option maxRecDepth 100000 in
set_option maxHeartbeats 1600000 in
theorem ref06_Name {w : World} {s : ByteArray} (h_s : s.size ≤ maxLen) : Calls Tryd.prog 36 #[.string s] w (Ret fun v w' =>  v = .bool (nameS s) ∧ Ext w w') := by
 refine enter 28 Tryd.func36 rfl rfl rfl fun f0 ha => ?_
 have H := HI.start (M0 := (fun _ => False)) (w := w) (fun _ h => h.elim)
 have i0 : f0 0 = .string s := ha 0 (by simp)
 have hS_ : s.size ≤ 9223372036854775807 := by have h_ := h_s; simp only [maxLen] at h_; exact h_
 refine sq (rg (k (asg (v := .bool false) rfl rfl (z (nx (sq (sq (rg (k (asg (v := iV 0) rfl rfl (z (nx (bk ?_)))))))))))))
 refine lp (fun m f w' => ∃ (j : Nat), m = s.size - j ∧ f 0 = .string s ∧ f 3 = iV (j : Int) ∧  HI (fun _ => False) w w' [] ∧ (j ≤ s.size) ∧ ((s.data.toList.take j).all okC = true)) _ ⟨0, rfl, i0, (ieq rfl (by first | rfl | omega | simp)), H, (by first | assumption | omega | simp | (simp; omega)), (by rfl)⟩ ?_
 rintro _ f0 w0 ⟨j, rfl, s0, s1, H0, hk, hs⟩
 refine sq (sq (rg (k (mv rfl s1 (k (mv rfl s0 (k (lnT rfl rfl un9 (k (lss rfl rfl rfl rfl (z (nx ?_))))))))))))
 refine cd (b := decide ((j : Int) < (s.size : Int))) rfl rfl (fun b0 => ?_) (fun b0 => ?_)
 ·
  have p0 := of_decide_eq_true b0
  refine sk (nx (sq (bk (sq (rg (k (mv rfl s0 (k (mv rfl s1 (k (ixS rfl rfl rfl rfl (by first | omega | (simp; omega)) un9 ?_)))))))))))
  intro c0 hc0
  refine k (lss rfl rfl rfl rfl (k (mv (v := .bool (decide ((c0.toNat : Int) < 97))) rfl rfl ?_)))
  rcases Bool.eq_false_or_eq_true (decide ((c0.toNat : Int) < 97)) with b1 | b1
  · -- decide ((c0.toNat : Int) < 97) is True
   have p1 := of_decide_eq_true b1
   refine k (gn rfl rfl rfl b1 (k (gn rfl rfl rfl b1 (k (gn rfl rfl rfl b1 (k (gn rfl rfl rfl b1 (k (pickT rfl rfl rfl rfl b1 rfl (z (nx (cdT rfl rfl rfl (sq (rg (k (asg (v := .bool false) rfl rfl (z (nx (rt (inb_ret (then_ret (loop_ret (inb_ret (then_ret (r1 rfl rfl ?_)))))))))))))))))))))))))
   have e0 : (false : Bool) = nameS s := by first | exact name_no hc0 (okC_lo b1) | exact name_no hc0 (by have e_ := Option.some.inj (hc1.symm.trans hc0); subst e_; exact okC_hi b2) | (unfold nameS; rw [name_end hs (by omega)]; first | (rw [show decide (1 ≤ s.size) = true from decide_eq_true (by omega), Bool.true_and, Bool.true_and, decide_eq_decide]; omega) | (rw [show decide (1 ≤ s.size) = false from decide_eq_false (by omega)]; rfl))
   have ev_ := cg1 (fun (x_0 : Bool) => (.bool x_0 : Value)) e0
   exact ⟨ev_, H0.below⟩
  · -- decide ((c0.toNat : Int) < 97) is False
   have p1 := of_decide_eq_false b1
   refine k (gy rfl rfl rfl b1 (mv rfl s0 (k (gy rfl rfl rfl b1 (mv rfl s1 (k (gy rfl rfl rfl b1 (ixS rfl rfl rfl rfl (by first | omega | (simp; omega)) un9 ?_))))))))
   intro c1 hc1
   refine k (gy rfl rfl rfl b1 (gtr rfl rfl rfl rfl (k (pickF rfl rfl rfl rfl b1 rfl (z (nx ?_))))))
   refine cd (b := decide (122 < (c1.toNat : Int))) rfl rfl (fun b2 => ?_) (fun b2 => ?_)
   ·
    have p2 := of_decide_eq_true b2
    refine sq (rg (k (asg (v := .bool false) rfl rfl (z (nx (rt (inb_ret (then_ret (loop_ret (inb_ret (then_ret (r1 rfl rfl ?_))))))))))))
    have e0 : (false : Bool) = nameS s := by first | exact name_no hc0 (okC_lo b1) | exact name_no hc0 (by have e_ := Option.some.inj (hc1.symm.trans hc0); subst e_; exact okC_hi b2) | (unfold nameS; rw [name_end hs (by omega)]; first | (rw [show decide (1 ≤ s.size) = true from decide_eq_true (by omega), Bool.true_and, Bool.true_and, decide_eq_decide]; omega) | (rw [show decide (1 ≤ s.size) = false from decide_eq_false (by omega)]; rfl))
    have ev_ := cg1 (fun (x_0 : Bool) => (.bool x_0 : Value)) e0
    exact ⟨ev_, H0.below⟩
   ·
    have p2 := of_decide_eq_false b2
    refine sk (inb_normal (nx (rg (k (mv rfl s1 (k (add rfl rfl rfl rfl (by unfold I64 at *; omega) (k (asg (v := iV ((j : Int) + 1)) rfl rfl (z ?_))))))))))
    refine loopN _ ?_ ⟨(j + 1), rfl, s0, (ieq rfl (by first | rfl | omega | (push_cast; omega))), H0, (by first | assumption | omega | simp | (simp; omega)), (by exact all_take (byte_at hc0) hs (by have e_ := Option.some.inj (hc1.symm.trans hc0); subst e_; exact okC_yes b1 b2))⟩
    omega
 ·
  have p0 := of_decide_eq_false b0
  refine ex (then_exit (loop_exit (inb_here (nx (sq (rg (k (mv rfl s0 (k (lnT rfl rfl un9 (k (geq rfl rfl rfl rfl (k (mv (v := .bool (decide (1 ≤ (s.size : Int)))) rfl rfl ?_))))))))))))))
  rcases Bool.eq_false_or_eq_true (decide (1 ≤ (s.size : Int))) with b1 | b1
  · -- decide (1 ≤ (s.size : Int)) is True
   have p1 := of_decide_eq_true b1
   refine k (gy rfl rfl rfl b1 (mv rfl s0 (k (gy rfl rfl rfl b1 (lnT rfl rfl un9 (k (gy rfl rfl rfl b1 (leq rfl rfl rfl rfl (k (pickT rfl rfl rfl rfl b1 rfl (k (asg (v := .bool (decide ((s.size : Int) ≤ 8))) rfl rfl (z (nx (rt (r1 rfl rfl ?_))))))))))))))))
   have e0 : (decide ((s.size : Int) ≤ 8) : Bool) = nameS s := by first | exact name_no hc0 (okC_lo b1) | exact name_no hc0 (by have e_ := Option.some.inj (hc1.symm.trans hc0); subst e_; exact okC_hi b2) | (unfold nameS; rw [name_end hs (by omega)]; first | (rw [show decide (1 ≤ s.size) = true from decide_eq_true (by omega), Bool.true_and, Bool.true_and, decide_eq_decide]; omega) | (rw [show decide (1 ≤ s.size) = false from decide_eq_false (by omega)]; rfl))
   have ev_ := cg1 (fun (x_0 : Bool) => (.bool x_0 : Value)) e0
   exact ⟨ev_, H0.below⟩
  · -- decide (1 ≤ (s.size : Int)) is False
   have p1 := of_decide_eq_false b1
   refine k (gn rfl rfl rfl b1 (k (gn rfl rfl rfl b1 (k (gn rfl rfl rfl b1 (k (pickF rfl rfl rfl rfl b1 rfl (k (asg (v := .bool false) rfl rfl (z (nx (rt (r1 rfl rfl ?_)))))))))))))
   have e0 : (false : Bool) = nameS s := by first | exact name_no hc0 (okC_lo b1) | exact name_no hc0 (by have e_ := Option.some.inj (hc1.symm.trans hc0); subst e_; exact okC_hi b2) | (unfold nameS; rw [name_end hs (by omega)]; first | (rw [show decide (1 ≤ s.size) = true from decide_eq_true (by omega), Bool.true_and, Bool.true_and, decide_eq_decide]; omega) | (rw [show decide (1 ≤ s.size) = false from decide_eq_false (by omega)]; rfl))
   have ev_ := cg1 (fun (x_0 : Bool) => (.bool x_0 : Value)) e0
   exact ⟨ev_, H0.below⟩
set_option maxRecDepth 100000 in
set_option maxHeartbeats 1600000 in
theorem ref06_Flat {M : Nat → Prop} {w : World} {a_h : Option Addr} {c_h : Nat} {h : List (List (Bool × ByteArray × Int))} (hM : ∀ b, M b → b < w.heap.size) (h_h : RV M w (.slice a_h h.length c_h) h) (hb_h : h.flatten.length ≤ 1048576) : Calls Tryd.prog 9 #[.slice a_h h.length c_h] w (Ret fun v w' => ∃ (a0 : Option Addr) (c0 : Nat), v = .slice a0 h.flatten.length c0 ∧ Ext w w' ∧ RV M w' (.slice a0 h.flatten.length c0) h.flatten) := by
 refine enter 18 Tryd.func9 rfl rfl rfl fun f0 ha => ?_
 have H := HI.start (M0 := M) (w := w) hM
 have H0 := H.put (it := imm (.slice a_h h.length c_h) h) rfl (by rw [MS_nil]; exact h_h)
 have ln_h := rv_len h_h
 have i0 : f0 0 = .slice a_h h.length c_h := ha 0 (by simp)
 refine sq (rg (k (asg (v := .slice none 0 0) rfl rfl (z (nx (sq (rg (k (asg (v := .slice none 0 0) rfl rfl (z (nx (sq (sq (rg (k (asg (v := iV 0) rfl rfl (z (nx (bk ?_)))))))))))))))))))
 have H1 := H0.nil_ (Bool × ByteArray × Int) 41
 refine lp (fun m f w' => ∃ (j : Nat) (xs : List (Bool × ByteArray × Int)) (a0 : Option Addr) (c0 : Nat), m = h.length - j ∧ f 0 = .slice a_h h.length c_h ∧ f 3 = .slice a0 xs.length c0 ∧ f 4 = iV (j : Int) ∧  HI M w w' [own w.heap.size 41 (.slice a0 xs.length c0) xs, imm (.slice a_h h.length c_h) h] ∧ (j ≤ h.length) ∧ (xs = (h.take j).flatten)) _ ⟨0, ([] : List (Bool × ByteArray × Int)), none, 0, rfl, i0, rfl, (ieq rfl (by first | rfl | omega | simp)), H1, (by first | assumption | omega | simp | (simp; omega)), (by rfl)⟩ ?_
 rintro _ f0 w0 ⟨j, xs, a0, c0, rfl, s0, s1, s2, H2, hk, hs⟩
 refine sq (sq (rg (k (mv rfl s2 (k (mv rfl s0 (k (lnS rfl rfl un22 (k (lss rfl rfl rfl rfl (z (nx ?_))))))))))))
 refine cd (b := decide ((j : Int) < (h.length : Int))) rfl rfl (fun b0 => ?_) (fun b0 => ?_)
 ·
  have p0 := of_decide_eq_true b0
  refine sk (nx (sq (bk (rg (k (mv rfl s1 (k (mv rfl s0 (k (mv rfl s2 (k (ia (H2.rv 1 rfl) rfl rfl rfl rfl (by first | omega | (simp; omega)) un22 ty38 ?_))))))))))))
  intro ad0 x0 hx0 hA0
  refine k (ldL hA0.w ty38 rfl rfl ?_)
  intro a1 c1 rv0
  have ln0 := rv_len rv0
  have H3 := H2.put (it := imm (.slice a1 x0.length c1) x0) rfl rv0
  refine k (ap H3 1 rfl rfl rfl rfl rfl rfl (H3.rv 0 rfl).src un38 ty41 rfl (by have h_ := flat_len hx0; rw [hs]; omega) (by have h_ := flat_len hx0; rw [hs]; omega) ?_)
  intro a2 c2 w1 (H4 : HI M w w1 [imm (.slice a1 x0.length c1) x0, own w.heap.size 41 (.slice a2 (xs ++ x0).length c2) (xs ++ x0), imm (.slice a_h h.length c_h) h])
  refine k (asg (v := .slice a2 (xs ++ x0).length c2) rfl rfl (z (inb_normal (nx (rg (k (mv rfl s2 (k (add rfl rfl rfl rfl (by unfold I64 at *; omega) (k (asg (v := iV ((j : Int) + 1)) rfl rfl (z ?_))))))))))))
  have H5 : HI M w w1 [own w.heap.size 41 (.slice a2 (xs ++ x0).length c2) (xs ++ x0), imm (.slice a_h h.length c_h) h] := H4.pickN [1, 2] (by decide) rfl
  refine loopN _ ?_ ⟨(j + 1), (xs ++ x0), a2, c2, rfl, s0, rfl, (ieq rfl (by first | rfl | omega | (push_cast; omega))), H5, (by first | assumption | omega | simp | (simp; omega)), (by rw [hs, flat_step hx0])⟩
  omega
 ·
  have p0 := of_decide_eq_false b0
  refine ex (then_exit (loop_exit (inb_here (nx (sq (rg (k (mv rfl s1 (k (asg (v := .slice a0 xs.length c0) rfl rfl (z (nx (rt (r1 rfl rfl ?_))))))))))))))
  have e0 : (xs : List (Bool × ByteArray × Int)) = h.flatten := by rw [hs, take_end (by omega)]
  have ev_ := cg1 (fun (x_0 : List (Bool × ByteArray × Int)) => (.slice a0 x_0.length c0 : Value)) e0
  exact ⟨a0, c0, ev_, H2.below, (congrArg (fun (x_ : List (Bool × ByteArray × Int)) => RV _ _ (.slice a0 x_.length c0) x_) e0).mp (H2.outO 0 rfl)⟩
set_option maxRecDepth 100000 in
set_option maxHeartbeats 1600000 in
theorem ref06_Count {M : Nat → Prop} {w : World} {a_h : Option Addr} {c_h : Nat} {h : List (List (Bool × ByteArray × Int))} (hM : ∀ b, M b → b < w.heap.size) (h_h : RV M w (.slice a_h h.length c_h) h) (hb_h : h.flatten.length ≤ 1048576) : Calls Tryd.prog 8 #[.slice a_h h.length c_h] w (Ret fun v w' =>  v = .int .i64 (h.flatten.length : Int) ∧ Ext w w') := by
 refine enter 6 Tryd.func8 rfl rfl rfl fun f0 ha => ?_
 have H := HI.start (M0 := M) (w := w) hM
 have H0 := H.put (it := imm (.slice a_h h.length c_h) h) rfl (by rw [MS_nil]; exact h_h)
 have ln_h := rv_len h_h
 have i0 : f0 0 = .slice a_h h.length c_h := ha 0 (by simp)
 refine sq (rg (k (asg (v := iV 0) rfl rfl (z (nx (sq (rg (k (mv rfl i0 (k ?_))))))))))
 have cc0 := ref06_Flat (h := h) (w := w) H0.mb (H0.rv 0 rfl) (by exact hb_h)
 refine ca go9 rfl (ec rfl e0) cc0 ?_
 rintro _ w0 ⟨a0, c0, rfl, xt0, rv0⟩
 have H1 := H0.ext xt0
 have H2 := H1.put (it := imm (.slice a0 h.flatten.length c0) h.flatten) rfl rv0
 refine k (lnS rfl rfl un38 (k (asg (v := iV (h.flatten.length : Int)) rfl rfl (z (nx (rt (r1 rfl rfl ?_)))))))
 exact ⟨rfl, H2.below⟩
set_option maxRecDepth 100000 in
set_option maxHeartbeats 1600000 in
theorem ref06_Right {M : Nat → Prop} {w : World} {a_h : Option Addr} {c_h : Nat} {h : List (List (Bool × ByteArray × Int))} (hM : ∀ b, M b → b < w.heap.size) (h_h : RV M w (.slice a_h h.length c_h) h) (hb_h : h.flatten.length ≤ 1048576) : Calls Tryd.prog 21 #[.slice a_h h.length c_h] w (Ret fun v w' =>  v = .bool (rightH h) ∧ Ext w w') := by
 refine enter 23 Tryd.func21 rfl rfl rfl fun f0 ha => ?_
 have H := HI.start (M0 := M) (w := w) hM
 have H0 := H.put (it := imm (.slice a_h h.length c_h) h) rfl (by rw [MS_nil]; exact h_h)
 have ln_h := rv_len h_h
 have i0 : f0 0 = .slice a_h h.length c_h := ha 0 (by simp)
 refine sq (rg (k (asg (v := .bool false) rfl rfl (z (nx (sq (rg (k (mv rfl i0 (k ?_))))))))))
 have cc0 := ref06_Flat (h := h) (w := w) H0.mb (H0.rv 0 rfl) (by exact hb_h)
 refine ca go9 rfl (ec rfl e0) cc0 ?_
 rintro _ w0 ⟨a0, c0, rfl, xt0, rv0⟩
 have H1 := H0.ext xt0
 have H2 := H1.put (it := imm (.slice a0 h.flatten.length c0) h.flatten) rfl rv0
 refine k (asg (v := .slice a0 h.flatten.length c0) rfl rfl (z (nx (sq (sq (rg (k (asg (v := iV 0) rfl rfl (z (nx (bk ?_)))))))))))
 refine lp (fun m f w' => ∃ (j : Nat), m = h.flatten.length - j ∧ f 3 = .slice a0 h.flatten.length c0 ∧ f 4 = iV (j : Int) ∧  HI M w w' [imm (.slice a0 h.flatten.length c0) h.flatten, imm (.slice a_h h.length c_h) h] ∧ (j ≤ h.flatten.length) ∧ ((h.flatten.take j).all opName = true)) _ ⟨0, rfl, rfl, (ieq rfl (by first | rfl | omega | simp)), H2, (by first | assumption | omega | simp | (simp; omega)), (by rfl)⟩ ?_
 rintro _ f0 w1 ⟨j, rfl, s0, s1, H3, hk, hs⟩
 refine sq (sq (rg (k (mv rfl s1 (k (mv rfl s0 (k (lnS rfl rfl un38 (k (lss rfl rfl rfl rfl (z (nx ?_))))))))))))
 refine cd (b := decide ((j : Int) < (h.flatten.length : Int))) rfl rfl (fun b0 => ?_) (fun b0 => ?_)
 ·
  have p0 := of_decide_eq_true b0
  refine sk (nx (sq (bk (sq (rg (k (mv rfl s0 (k (mv rfl s1 (k (ia (H3.rv 0 rfl) rfl rfl rfl rfl (by first | omega | (simp; omega)) un38 ty41 ?_)))))))))))
  intro ad0 x0 hx0 hA0
  refine k (fa fl41_1 rfl rfl (k (ldS ((hA0).s1).fst.w ty9 rfl rfl ?_)))
  intro rv1
  refine k ?_
  have cc1 := ref06_Name (s := x0.2.1) (w := w1) (by assumption)
  refine ca go36 rfl (ec rfl e0) cc1 ?_
  rintro _ w2 ⟨rfl, xt1⟩
  have H4 := H3.ext xt1
  refine k (not_ rfl rfl (z (nx ?_)))
  refine cd (b := !(nameS x0.2.1)) rfl rfl (fun b1 => ?_) (fun b1 => ?_)
  ·
   refine sq (rg (k (asg (v := .bool false) rfl rfl (z (nx (rt (inb_ret (then_ret (loop_ret (inb_ret (then_ret (r1 rfl rfl ?_))))))))))))
   have e0 : (false : Bool) = rightH h := by first | exact right_no hx0 (by simpa using b1) | exact right_end hs (by omega)
   have ev_ := cg1 (fun (x_0 : Bool) => (.bool x_0 : Value)) e0
   exact ⟨ev_, H4.below⟩
  ·
   refine sk (inb_normal (nx (rg (k (mv rfl s1 (k (add rfl rfl rfl rfl (by unfold I64 at *; omega) (k (asg (v := iV ((j : Int) + 1)) rfl rfl (z ?_))))))))))
   refine loopN _ ?_ ⟨(j + 1), rfl, s0, (ieq rfl (by first | rfl | omega | (push_cast; omega))), H4, (by first | assumption | omega | simp | (simp; omega)), (by exact all_take hx0 hs (by simpa [opName] using b1))⟩
   omega
 ·
  have p0 := of_decide_eq_false b0
  refine ex (then_exit (loop_exit (inb_here (nx (sq (rg (k (mv rfl s0 (k (lnS rfl rfl un38 (k (leq rfl rfl rfl rfl (k (asg (v := .bool (decide ((h.flatten.length : Int) ≤ 4096))) rfl rfl (z (nx (rt (r1 rfl rfl ?_))))))))))))))))))
  have e0 : (decide ((h.flatten.length : Int) ≤ 4096) : Bool) = rightH h := by first | exact right_no hx0 (by simpa using b1) | exact right_end hs (by omega)
  have ev_ := cg1 (fun (x_0 : Bool) => (.bool x_0 : Value)) e0
  exact ⟨ev_, H3.below⟩
set_option maxRecDepth 100000 in
set_option maxHeartbeats 1600000 in
theorem ref06_Small {M : Nat → Prop} {w : World} {a_h : Option Addr} {c_h : Nat} {h : List (List (Bool × ByteArray × Int))} {m : Int} (hM : ∀ b, M b → b < w.heap.size) (h_h : RV M w (.slice a_h h.length c_h) h) (h_m : I64 m) (hb_h : h.flatten.length ≤ 1048576) : Calls Tryd.prog 4 #[.slice a_h h.length c_h, .int .i64 m] w (Ret fun v w' =>  v = .bool (smallH h m) ∧ Ext w w') := by
 refine enter 32 Tryd.func4 rfl rfl rfl fun f0 ha => ?_
 have H := HI.start (M0 := M) (w := w) hM
 have H0 := H.put (it := imm (.slice a_h h.length c_h) h) rfl (by rw [MS_nil]; exact h_h)
 have ln_h := rv_len h_h
 have i0 : f0 0 = .slice a_h h.length c_h := ha 0 (by simp)
 have i1 : f0 1 = iV m := ha 1 (by simp)
 refine sq (rg (k (asg (v := .bool false) rfl rfl (z (nx (sq (sq (rg (k (mv rfl i0 (k (lnS rfl rfl un22 (k (mv rfl i1 (k (gtr rfl rfl rfl rfl (k (mv (v := .bool (decide (m < (h.length : Int)))) rfl rfl ?_))))))))))))))))))
 rcases Bool.eq_false_or_eq_true (decide (m < (h.length : Int))) with b0 | b0
 · -- decide (m < (h.length : Int)) is True
  have p0 := of_decide_eq_true b0
  refine k (gn rfl rfl rfl b0 (k (gn rfl rfl rfl b0 (k (gn rfl rfl rfl b0 (k (gn rfl rfl rfl b0 (k (pickT rfl rfl rfl rfl b0 rfl (z (nx (cdT rfl rfl rfl (sq (rg (k (asg (v := .bool false) rfl rfl (z (nx (rt (then_ret (r1 rfl rfl ?_)))))))))))))))))))))
  have e0 : (false : Bool) = smallH h m := by first | exact small_no1 p0 | exact small_no2 p1 | exact small_no3 hx0 (by simpa using b3) | exact small_end p0 p1 hs (by omega)
  have ev_ := cg1 (fun (x_0 : Bool) => (.bool x_0 : Value)) e0
  exact ⟨ev_, H0.below⟩
 · -- decide (m < (h.length : Int)) is False
  have p0 := of_decide_eq_false b0
  refine k (gy rfl rfl rfl b0 (mv rfl i0 (k (gy rfl rfl rfl b0 ?_))))
  have cc0 := ref06_Count (h := h) (w := w) H0.mb (H0.rv 0 rfl) (by exact hb_h)
  refine ca go8 rfl (ec rfl e0) cc0 ?_
  rintro _ w0 ⟨rfl, xt0⟩
  have H1 := H0.ext xt0
  refine k (gy rfl rfl rfl b0 (mv rfl i1 (k (gy rfl rfl rfl b0 (gtr rfl rfl rfl rfl (k (pickF rfl rfl rfl rfl b0 rfl (z (nx ?_)))))))))
  refine cd (b := decide (m < (h.flatten.length : Int))) rfl rfl (fun b1 => ?_) (fun b1 => ?_)
  ·
   have p1 := of_decide_eq_true b1
   refine sq (rg (k (asg (v := .bool false) rfl rfl (z (nx (rt (then_ret (r1 rfl rfl ?_))))))))
   have e0 : (false : Bool) = smallH h m := by first | exact small_no1 p0 | exact small_no2 p1 | exact small_no3 hx0 (by simpa using b3) | exact small_end p0 p1 hs (by omega)
   have ev_ := cg1 (fun (x_0 : Bool) => (.bool x_0 : Value)) e0
   exact ⟨ev_, H1.below⟩
  ·
   have p1 := of_decide_eq_false b1
   refine sk (nx (sq (rg (k (mv rfl i0 (k ?_))))))
   have cc1 := ref06_Flat (h := h) (w := w0) H1.mb (H1.rv 0 rfl) (by exact hb_h)
   refine ca go9 rfl (ec rfl e0) cc1 ?_
   rintro _ w1 ⟨a0, c0, rfl, xt1, rv0⟩
   have H2 := H1.ext xt1
   have H3 := H2.put (it := imm (.slice a0 h.flatten.length c0) h.flatten) rfl rv0
   refine k (asg (v := .slice a0 h.flatten.length c0) rfl rfl (z (nx (sq (sq (rg (k (asg (v := iV 0) rfl rfl (z (nx (bk ?_)))))))))))
   refine lp (fun m f w' => ∃ (j : Nat), m = h.flatten.length - j ∧ f 5 = .slice a0 h.flatten.length c0 ∧ f 6 = iV (j : Int) ∧  HI M w w' [imm (.slice a0 h.flatten.length c0) h.flatten, imm (.slice a_h h.length c_h) h] ∧ (j ≤ h.flatten.length) ∧ ((h.flatten.take j).all opShort = true)) _ ⟨0, rfl, rfl, (ieq rfl (by first | rfl | omega | simp)), H3, (by first | assumption | omega | simp | (simp; omega)), (by rfl)⟩ ?_
   rintro _ f0 w2 ⟨j, rfl, s0, s1, H4, hk, hs⟩
   refine sq (sq (rg (k (mv rfl s1 (k (mv rfl s0 (k (lnS rfl rfl un38 (k (lss rfl rfl rfl rfl (z (nx ?_))))))))))))
   refine cd (b := decide ((j : Int) < (h.flatten.length : Int))) rfl rfl (fun b2 => ?_) (fun b2 => ?_)
   ·
    have p2 := of_decide_eq_true b2
    refine sk (nx (sq (bk (sq (rg (k (mv rfl s0 (k (mv rfl s1 (k (ia (H4.rv 0 rfl) rfl rfl rfl rfl (by first | omega | (simp; omega)) un38 ty41 ?_)))))))))))
    intro ad0 x0 hx0 hA0
    refine k (fa fl41_1 rfl rfl (k (ldS ((hA0).s1).fst.w ty9 rfl rfl ?_)))
    intro rv1
    refine k (lnT rfl rfl un9 (k (gtr rfl rfl rfl rfl (z (nx ?_)))))
    refine cd (b := decide (20 < (x0.2.1.size : Int))) rfl rfl (fun b3 => ?_) (fun b3 => ?_)
    ·
     have p3 := of_decide_eq_true b3
     refine sq (rg (k (asg (v := .bool false) rfl rfl (z (nx (rt (inb_ret (then_ret (loop_ret (inb_ret (then_ret (r1 rfl rfl ?_))))))))))))
     have e0 : (false : Bool) = smallH h m := by first | exact small_no1 p0 | exact small_no2 p1 | exact small_no3 hx0 (by simpa using b3) | exact small_end p0 p1 hs (by omega)
     have ev_ := cg1 (fun (x_0 : Bool) => (.bool x_0 : Value)) e0
     exact ⟨ev_, H4.below⟩
    ·
     have p3 := of_decide_eq_false b3
     refine sk (inb_normal (nx (rg (k (mv rfl s1 (k (add rfl rfl rfl rfl (by unfold I64 at *; omega) (k (asg (v := iV ((j : Int) + 1)) rfl rfl (z ?_))))))))))
     refine loopN _ ?_ ⟨(j + 1), rfl, s0, (ieq rfl (by first | rfl | omega | (push_cast; omega))), H4, (by first | assumption | omega | simp | (simp; omega)), (by exact all_take hx0 hs (decide_eq_true (by omega)))⟩
     omega
   ·
    have p2 := of_decide_eq_false b2
    refine ex (then_exit (loop_exit (inb_here (nx (sq (rg (k (asg (v := .bool true) rfl rfl (z (nx (rt (r1 rfl rfl ?_))))))))))))
    have e0 : (true : Bool) = smallH h m := by first | exact small_no1 p0 | exact small_no2 p1 | exact small_no3 hx0 (by simpa using b3) | exact small_end p0 p1 hs (by omega)
    have ev_ := cg1 (fun (x_0 : Bool) => (.bool x_0 : Value)) e0
    exact ⟨ev_, H4.below⟩
set_option maxRecDepth 100000 in
set_option maxHeartbeats 1600000 in
theorem ref09_find {M : Nat → Prop} {w : World} {a_l : Option Addr} {c_l : Nat} {l : List ByteArray} {s : ByteArray} (hM : ∀ b, M b → b < w.heap.size) (h_l : RV M w (.slice a_l l.length c_l) l) (h_s : s.size ≤ maxLen) : Calls Tryd.prog 22 #[.slice a_l l.length c_l, .string s] w (Ret fun v w' =>  v = .int .i64 (findS l s) ∧ Ext w w') := by
 refine enter 19 Tryd.func22 rfl rfl rfl fun f0 ha => ?_
 have H := HI.start (M0 := M) (w := w) hM
 have H0 := H.put (it := imm (.slice a_l l.length c_l) l) rfl (by rw [MS_nil]; exact h_l)
 have ln_l := rv_len h_l
 have i0 : f0 0 = .slice a_l l.length c_l := ha 0 (by simp)
 have i1 : f0 1 = .string s := ha 1 (by simp)
 refine sq (rg (k (asg (v := iV 0) rfl rfl (z (nx (sq (sq (rg (k (asg (v := iV 0) rfl rfl (z (nx (bk ?_)))))))))))))
 refine lp (fun m f w' => ∃ (j : Nat), m = l.length - j ∧ f 0 = .slice a_l l.length c_l ∧ f 1 = .string s ∧ f 5 = iV (j : Int) ∧  HI M w w' [imm (.slice a_l l.length c_l) l] ∧ (j ≤ l.length) ∧ ((l.take j).any (isS s) = false)) _ ⟨0, rfl, i0, i1, (ieq rfl (by first | rfl | omega | simp)), H0, (by first | assumption | omega | simp | (simp; omega)), (by simp)⟩ ?_
 rintro _ f0 w0 ⟨j, rfl, s0, s1, s2, H1, hk, hs⟩
 refine sq (sq (rg (k (mv rfl s2 (k (mv rfl s0 (k (lnS rfl rfl un26 (k (lss rfl rfl rfl rfl (z (nx ?_))))))))))))
 refine cd (b := decide ((j : Int) < (l.length : Int))) rfl rfl (fun b0 => ?_) (fun b0 => ?_)
 ·
  have p0 := of_decide_eq_true b0
  refine sk (nx (sq (bk (sq (rg (k (mv rfl s0 (k (mv rfl s2 (k (ia (H1.rv 0 rfl) rfl rfl rfl rfl (by first | omega | (simp; omega)) un26 ty9 ?_)))))))))))
  intro ad0 x0 hx0 hA0
  refine k (ldS hA0.w ty9 rfl rfl ?_)
  intro rv0
  refine k (mv rfl s1 (k (eqS rfl rfl rfl rfl (z (nx ?_)))))
  refine cd (b := decide (x0 = s)) rfl rfl (fun b1 => ?_) (fun b1 => ?_)
  ·
   have p1 := of_decide_eq_true b1
   refine sq (rg (k (mv rfl s2 (k (asg (v := iV (j : Int)) rfl rfl (z (nx (rt (inb_ret (then_ret (loop_ret (inb_ret (then_ret (r1 rfl rfl ?_))))))))))))))
   have e0 : ((j : Int) : Int) = findS l s := by first | exact idxF_hit hx0 hs b1 | exact idxF_miss hs (by omega)
   have ev_ := cg1 (fun (x_0 : Int) => (iV x_0 : Value)) e0
   exact ⟨ev_, H1.below⟩
  ·
   have p1 := of_decide_eq_false b1
   refine sk (inb_normal (nx (rg (k (mv rfl s2 (k (add rfl rfl rfl rfl (by unfold I64 at *; omega) (k (asg (v := iV ((j : Int) + 1)) rfl rfl (z ?_))))))))))
   refine loopN _ ?_ ⟨(j + 1), rfl, s0, s1, (ieq rfl (by first | rfl | omega | (push_cast; omega))), H1, (by first | assumption | omega | simp | (simp; omega)), (by exact any_step hx0 hs b1)⟩
   omega
 ·
  have p0 := of_decide_eq_false b0
  refine ex (then_exit (loop_exit (inb_here (nx (sq (rg (k (asg (v := iV (-1)) rfl rfl (z (nx (rt (r1 rfl rfl ?_))))))))))))
  have e0 : ((-1) : Int) = findS l s := by first | exact idxF_hit hx0 hs b1 | exact idxF_miss hs (by omega)
  have ev_ := cg1 (fun (x_0 : Int) => (iV x_0 : Value)) e0
  exact ⟨ev_, H1.below⟩
set_option maxRecDepth 100000 in
set_option maxHeartbeats 1600000 in
theorem ref09_Of {M : Nat → Prop} {w : World} {a_h : Option Addr} {c_h : Nat} {h : List (List (Bool × ByteArray × Int))} (hM : ∀ b, M b → b < w.heap.size) (h_h : RV M w (.slice a_h h.length c_h) h) (hb_h : h.flatten.length ≤ 1048576) : Calls Tryd.prog 11 #[.slice a_h h.length c_h] w (Ret fun v w' => ∃ (a0 : Option Addr) (c0 : Nat) (a1 : Option Addr) (c1 : Nat) (a2 : Option Addr) (c2 : Nat), v = .tuple #[.agg #[.slice a0 (ofV h).length c0, .slice a1 (ofI h).length c1, .slice a2 ([] : List Int).length c2], .int .i64 (ofE h)] ∧ Ext w w' ∧ RV M w' (.slice a0 (ofV h).length c0) (ofV h) ∧ RV M w' (.slice a1 (ofI h).length c1) (ofI h) ∧ RV M w' (.slice a2 ([] : List Int).length c2) ([] : List Int)) := by
 refine enter 66 Tryd.func11 rfl rfl rfl fun f0 ha => ?_
 have H := HI.start (M0 := M) (w := w) hM
 have H0 := H.put (it := imm (.slice a_h h.length c_h) h) rfl (by rw [MS_nil]; exact h_h)
 have ln_h := rv_len h_h
 have i0 : f0 0 = .slice a_h h.length c_h := ha 0 (by simp)
 refine sq (rg (k (al H0 ty30 ?_)))
 intro bb0 w0 xt0 (H1 : HI M w w0 [box bb0 #[.slice none 0 0, .slice none 0 0, .slice none 0 0] 30, imm (.slice a_h h.length c_h) h])
 refine k (asg (v := iV 0) rfl rfl (z (nx (sq (sq (rg (k (mv rfl i0 (k ?_)))))))))
 have cc0 := ref06_Right (h := h) (w := w0) H1.mb (H1.rv 1 rfl) (by exact hb_h)
 refine ca go21 rfl (ec rfl e0) cc0 ?_
 rintro _ w1 ⟨rfl, xt1⟩
 have H2 := H1.ext xt1
 refine k (not_ rfl rfl (z (nx ?_)))
 refine cd (b := !(rightH h)) rfl rfl (fun b0 => ?_) (fun b0 => ?_)
 ·
  refine sq ?_
  have hq : rightH h = false := by simpa using b0
  refine rg (k (bd (v := .agg #[.slice none 0 0, .slice none 0 0, .slice none 0 0]) rfl pb0 (fun _ => by kernel_rfl) (k (stX H2 0 rfl ty30 rfl rfl rfl rfl rfl rfl rfl ?_))))
  intro w2 (H3 : HI M w w2 [box bb0 #[.slice none 0 0, .slice none 0 0, .slice none 0 0] 30, imm (.slice a_h h.length c_h) h])
  refine k (asg (v := iV 1) rfl rfl (z (nx (rt (then_ret (rc2 H3 0 rfl ty30 rfl rfl rfl rfl rfl (by decide) ?_))))))
  have e0 : ([] : List ByteArray) = ofV h := by first | exact (of_bad hq).1.symm | (rw [(of_ok hq).1, h1]; unfold factV; rw [show i = h.length from by omega])
  have e1 : ([] : List (Int × Int × Bool × Int × Int)) = ofI h := by first | exact (of_bad hq).2.1.symm | (rw [(of_ok hq).2.1, h2]; unfold factI; rw [show i = h.length from by omega])
  have e2 : ([] : List Int) = ([] : List Int) := rfl
  have e3 : (1 : Int) = ofE h := by first | exact (of_bad hq).2.2.symm | exact (of_ok hq).2.2.symm
  have ev_ := cg4 (fun (x_0 : List ByteArray) (x_1 : List (Int × Int × Bool × Int × Int)) (x_2 : List Int) (x_3 : Int) => (.tuple #[.agg #[.slice none x_0.length 0, .slice none x_1.length 0, .slice none x_2.length 0], iV x_3] : Value)) e0 e1 e2 e3
  exact ⟨none, 0, none, 0, none, 0, ev_, H3.below, (congrArg (fun (x_ : List ByteArray) => RV _ _ (.slice none x_.length 0) x_) e0).mp (rv_nil _ _), (congrArg (fun (x_ : List (Int × Int × Bool × Int × Int)) => RV _ _ (.slice none x_.length 0) x_) e1).mp (rv_nil _ _), (congrArg (fun (x_ : List Int) => RV _ _ (.slice none x_.length 0) x_) e2).mp (rv_nil _ _)⟩
 ·
  refine sk (nx (sq ?_))
  have hq : rightH h = true := by simpa using b0
  refine rg (k (al H2 ty30 ?_))
  intro bb1 w2 xt2 (H3 : HI M w w2 [box bb1 #[.slice none 0 0, .slice none 0 0, .slice none 0 0] 30, box bb0 #[.slice none 0 0, .slice none 0 0, .slice none 0 0] 30, imm (.slice a_h h.length c_h) h])
  refine z (nx (sq (sq (rg (k (asg (v := iV 0) rfl rfl (z (nx (bk ?_)))))))))
  have H4 := H3.nil_ ByteArray 9
  have H5 := H4.nil_ (Int × Int × Bool × Int × Int) 65
  refine lp (fun m f w' => ∃ (i : Nat) (vs : List ByteArray) (its : List (Int × Int × Bool × Int × Int)) (a0 : Option Addr) (c0 : Nat) (a1 : Option Addr) (c1 : Nat), m = h.length - i ∧ f 0 = .slice a_h h.length c_h ∧ f 2 = pV bb0 0 ∧ f 4 = pV bb1 0 ∧ f 5 = iV (i : Int) ∧  HI M w w' [own w.heap.size 65 (.slice a1 its.length c1) its, own w.heap.size 9 (.slice a0 vs.length c0) vs, box bb1 #[.slice a0 vs.length c0, .slice a1 its.length c1, .slice none 0 0] 30, box bb0 #[.slice none 0 0, .slice none 0 0, .slice none 0 0] 30, imm (.slice a_h h.length c_h) h] ∧ (i ≤ h.length) ∧ (vs = (allO h i).1) ∧ (its = (allO h i).2)) _ ⟨0, ([] : List ByteArray), ([] : List (Int × Int × Bool × Int × Int)), none, 0, none, 0, rfl, i0, rfl, rfl, (ieq rfl (by first | rfl | omega | simp)), H5, (by first | assumption | omega | simp | (simp; omega)), (by rfl), (by rfl)⟩ ?_
  rintro _ f0 w3 ⟨i, vs, its, a0, c0, a1, c1, rfl, s0, s1, s2, s3, H6, hi_, h1, h2⟩
  refine sq (sq (rg (k (mv rfl s3 (k (mv rfl s0 (k (lnS rfl rfl un22 (k (lss rfl rfl rfl rfl (z (nx ?_))))))))))))
  refine cd (b := decide ((i : Int) < (h.length : Int))) rfl rfl (fun b1 => ?_) (fun b1 => ?_)
  ·
   have p1 := of_decide_eq_true b1
   refine sk (nx (sq (bk (sq (rg (k (asg (v := iV 0) rfl rfl (z (nx (bk ?_))))))))))
   refine lp (fun m f w' => ∃ (q : Nat) (vs : List ByteArray) (its : List (Int × Int × Bool × Int × Int)) (a2 : Option Addr) (c2 : Nat) (a3 : Option Addr) (c3 : Nat), m = (h.getD i []).length - q ∧ f 0 = .slice a_h h.length c_h ∧ f 2 = pV bb0 0 ∧ f 4 = pV bb1 0 ∧ f 5 = iV (i : Int) ∧ f 6 = iV (q : Int) ∧  HI M w w' [own w.heap.size 65 (.slice a3 its.length c3) its, own w.heap.size 9 (.slice a2 vs.length c2) vs, box bb1 #[.slice a2 vs.length c2, .slice a3 its.length c3, .slice none 0 0] 30, box bb0 #[.slice none 0 0, .slice none 0 0, .slice none 0 0] 30, imm (.slice a_h h.length c_h) h] ∧ (q ≤ (h.getD i []).length) ∧ (vs = (toO i (allO h i) (h.getD i []) q).1) ∧ (its = (toO i (allO h i) (h.getD i []) q).2)) _ ⟨0, vs, its, a0, c0, a1, c1, rfl, s0, s1, s2, s3, (ieq rfl (by first | rfl | omega | simp)), H6, (by first | assumption | omega | simp | (simp; omega)), (by exact h1), (by exact h2)⟩ ?_
   rintro _ f1 w4 ⟨q, vs, its, a2, c2, a3, c3, rfl, s4, s5, s6, s7, s8, H7, hk, h1, h2⟩
   refine sq (sq (rg (k (mv rfl s8 (k (mv rfl s4 (k (mv rfl s7 (k (ia (H7.rv 4 rfl) rfl rfl rfl rfl (by first | omega | (simp; omega)) un22 ty38 ?_))))))))))
   intro ad0 x0 hx0 hA0
   refine k (ldL hA0.w ty38 rfl rfl ?_)
   intro a4 c4 rv0
   have ln0 := rv_len rv0
   have H8 := H7.put (it := imm (.slice a4 x0.length c4) x0) rfl rv0
   refine k (lnS rfl rfl un38 (k (lss rfl rfl rfl rfl (z (nx ?_)))))
   refine cd (b := decide ((q : Int) < (x0.length : Int))) rfl rfl (fun b2 => ?_) (fun b2 => ?_)
   ·
    have p2 := of_decide_eq_true b2
    refine sk (nx (sq (bk (sq (rg (k (mv rfl s4 (k (mv rfl s7 (k (ia (H8.rv 5 rfl) rfl rfl rfl rfl (by first | omega | (simp; omega)) un22 ty38 ?_)))))))))))
    intro ad1 x1 hx1 hA1
    refine k (ldL hA1.w ty38 rfl rfl ?_)
    intro a5 c5 rv1
    have ln1 := rv_len rv1
    have H9 := H8.put (it := imm (.slice a5 x1.length c5) x1) rfl rv1
    refine k (mv rfl s8 (k (ia (H9.rv 0 rfl) rfl rfl rfl rfl (by have e_ := at_is hx1 hx0; subst e_; omega) un38 ty41 ?_)))
    intro ad2 x2 hx2 hA2
    refine k (ldW hA2.w ty41 rfl rfl ?_)
    intro v0 rv2
    obtain ⟨_, ⟨_, _, rfl, rfl, ⟨_, _, rfl, ⟨rfl, rv3⟩, ⟨rfl, rv4⟩⟩⟩, rfl⟩ := rv2
    refine k (al H9 ty41 ?_)
    intro bb2 w5 xt3 (H10 : HI M w w5 [box bb2 #[.bool false, .string ⟨#[]⟩, iV 0] 41, imm (.slice a5 x1.length c5) x1, imm (.slice a4 x0.length c4) x0, own w.heap.size 65 (.slice a3 its.length c3) its, own w.heap.size 9 (.slice a2 vs.length c2) vs, box bb1 #[.slice a2 vs.length c2, .slice a3 its.length c3, .slice none 0 0] 30, box bb0 #[.slice none 0 0, .slice none 0 0, .slice none 0 0] 30, imm (.slice a_h h.length c_h) h])
    refine k (stX H10 0 rfl ty41 rfl rfl rfl rfl rfl rfl rfl ?_)
    intro w6 (H11 : HI M w w6 [box bb2 #[.bool x2.1, .string x2.2.1, iV x2.2.2] 41, imm (.slice a5 x1.length c5) x1, imm (.slice a4 x0.length c4) x0, own w.heap.size 65 (.slice a3 its.length c3) its, own w.heap.size 9 (.slice a2 vs.length c2) vs, box bb1 #[.slice a2 vs.length c2, .slice a3 its.length c3, .slice none 0 0] 30, box bb0 #[.slice none 0 0, .slice none 0 0, .slice none 0 0] 30, imm (.slice a_h h.length c_h) h])
    refine z (nx (sq (rg (k (fa fl30_0 rfl s6 (k (ldX H11 5 rfl ty26 rfl rfl (by decide) rfl (k (fa fl41_1 rfl rfl (k (ldX H11 0 rfl ty9 rfl rfl (by decide) rfl (k ?_))))))))))))
    have H12 := H11.freeze 4 rfl
    have cc1 := ref09_find (l := vs) (s := x2.2.1) (w := w6) H12.mb (H12.rv 4 rfl) (by assumption)
    refine ca go22 rfl (ec rfl (ec rfl e0)) cc1 ?_
    rintro _ w7 ⟨rfl, xt4⟩
    have H13 := H11.ext xt4
    refine k (asg (v := iV (findS vs x2.2.1)) rfl rfl (z (nx (sq (sq (rg (k (mv (v := iV (findS vs x2.2.1)) rfl rfl (k (lss rfl rfl rfl rfl (z (nx ?_))))))))))))
    refine cd (b := decide ((findS vs x2.2.1) < 0)) rfl rfl (fun b3 => ?_) (fun b3 => ?_)
    ·
     have p3 := of_decide_eq_true b3
     refine sq (rg (k (fa fl30_0 rfl s6 (k (ldX H13 5 rfl ty26 rfl rfl (by decide) rfl (k (lnS rfl rfl un26 (k (asg (v := iV (vs.length : Int)) rfl rfl (z (nx (rg (k (fa fl30_0 rfl s6 (k (ldX H13 5 rfl ty26 rfl rfl (by decide) rfl (k (fa fl41_1 rfl rfl (k (ldX H13 0 rfl ty9 rfl rfl (by decide) rfl (k (bs (xs := ([x2.2.1] : List ByteArray)) (cells := #[.string x2.2.1]) (e := 9) H13 rfl (pbc rfl pb0) (fun _ => by kernel_rfl) ⟨[.string x2.2.1], [], rfl, ⟨rfl, (by assumption)⟩, rfl⟩ rfl (by unfold maxLen; omega) ?_))))))))))))))))))))))
     intro g0 w8 xt5 H14
     refine k (ap H14 5 rfl rfl rfl rfl rfl rfl (own_src (H14.at_ 0 rfl)) un26 ty9 rfl (by have e_ := at_is hx1 hx0; have h_ := of_room (k := q) hx0 (by omega); rw [← getD_row hx0, ← h1, ← h2] at h_; simp only [List.length_cons, List.length_nil]; omega) (by have e_ := at_is hx1 hx0; have h_ := of_room (k := q) hx0 (by omega); rw [← getD_row hx0, ← h1, ← h2] at h_; simp only [List.length_cons, List.length_nil]; omega) ?_)
     intro a6 c6 w9 (H15 : HI M w w9 [own w.heap.size 9 (.slice (some ⟨g0, 0, none⟩) 1 1) ([x2.2.1] : List ByteArray), box bb2 #[.bool x2.1, .string x2.2.1, iV x2.2.2] 41, imm (.slice a5 x1.length c5) x1, imm (.slice a4 x0.length c4) x0, own w.heap.size 65 (.slice a3 its.length c3) its, own w.heap.size 9 (.slice a6 (vs ++ ([x2.2.1] : List ByteArray)).length c6) (vs ++ ([x2.2.1] : List ByteArray)), box bb1 #[.slice a2 vs.length c2, .slice a3 its.length c3, .slice none 0 0] 30, box bb0 #[.slice none 0 0, .slice none 0 0, .slice none 0 0] 30, imm (.slice a_h h.length c_h) h])
     refine k (fa fl30_0 rfl s6 (k (stX H15 6 rfl ty26 rfl rfl rfl rfl rfl rfl rfl ?_)))
     intro w10 (H16 : HI M w w10 [own w.heap.size 9 (.slice (some ⟨g0, 0, none⟩) 1 1) ([x2.2.1] : List ByteArray), box bb2 #[.bool x2.1, .string x2.2.1, iV x2.2.2] 41, imm (.slice a5 x1.length c5) x1, imm (.slice a4 x0.length c4) x0, own w.heap.size 65 (.slice a3 its.length c3) its, own w.heap.size 9 (.slice a6 (vs ++ ([x2.2.1] : List ByteArray)).length c6) (vs ++ ([x2.2.1] : List ByteArray)), box bb1 #[.slice a6 (vs ++ ([x2.2.1] : List ByteArray)).length c6, .slice a3 its.length c3, .slice none 0 0] 30, box bb0 #[.slice none 0 0, .slice none 0 0, .slice none 0 0] 30, imm (.slice a_h h.length c_h) h])
     refine z (nx (rg (k (fa fl30_1 rfl s6 (k (ldX H16 6 rfl ty27 rfl rfl (by decide) rfl (k (mv rfl s7 (k (mv rfl s8 (k (fa fl41_0 rfl rfl (k (ldX H16 1 rfl ty4 rfl rfl (by decide) rfl (k (mv (v := iV (vs.length : Int)) rfl rfl (k (fa fl41_2 rfl rfl (k (ldX H16 1 rfl ty3 rfl rfl (by decide) rfl (k (bd (v := .agg #[iV (i : Int), iV (q : Int), .bool x2.1, iV (vs.length : Int), iV x2.2.2]) rfl (pbc rfl (pbc rfl (pbc rfl (pbc rfl (pbc rfl pb0))))) (fun _ => by kernel_rfl) (k (bs (xs := ([((i : Int), (q : Int), x2.1, (vs.length : Int), x2.2.2)] : List (Int × Int × Bool × Int × Int))) (cells := #[iV (i : Int), iV (q : Int), .bool x2.1, iV (vs.length : Int), iV x2.2.2]) (e := 65) H16 rfl (pbc rfl pb0) (fun _ => by kernel_rfl) ⟨[iV (i : Int), iV (q : Int), .bool x2.1, iV (vs.length : Int), iV x2.2.2], [], rfl, ⟨_, _, rfl, ⟨rfl, (show I64 ((i : Int)) from (by unfold I64 at *; omega))⟩, ⟨_, _, rfl, ⟨rfl, (show I64 ((q : Int)) from (by unfold I64 at *; omega))⟩, ⟨_, _, rfl, rfl, ⟨_, _, rfl, ⟨rfl, (show I64 ((vs.length : Int)) from (by have e_ := at_is hx1 hx0; have h3 := of_room (k := q) hx0 (by omega); rw [← getD_row hx0, ← h1, ← h2] at h3; unfold I64; omega))⟩, ⟨rfl, (show I64 (x2.2.2) from (by unfold I64 at *; omega))⟩⟩⟩⟩⟩, rfl⟩ rfl (by unfold maxLen; omega) ?_))))))))))))))))))))))))
     intro g1 w11 xt6 H17
     refine k (ap H17 5 rfl rfl rfl rfl rfl rfl (own_src (H17.at_ 0 rfl)) un27 ty65 rfl (by have e_ := at_is hx1 hx0; have h_ := of_room (k := q) hx0 (by omega); rw [← getD_row hx0, ← h1, ← h2] at h_; simp only [List.length_cons, List.length_nil]; omega) (by have e_ := at_is hx1 hx0; have h_ := of_room (k := q) hx0 (by omega); rw [← getD_row hx0, ← h1, ← h2] at h_; simp only [List.length_cons, List.length_nil]; omega) ?_)
     intro a7 c7 w12 (H18 : HI M w w12 [own w.heap.size 65 (.slice (some ⟨g1, 0, none⟩) 1 1) ([((i : Int), (q : Int), x2.1, (vs.length : Int), x2.2.2)] : List (Int × Int × Bool × Int × Int)), own w.heap.size 9 (.slice (some ⟨g0, 0, none⟩) 1 1) ([x2.2.1] : List ByteArray), box bb2 #[.bool x2.1, .string x2.2.1, iV x2.2.2] 41, imm (.slice a5 x1.length c5) x1, imm (.slice a4 x0.length c4) x0, own w.heap.size 65 (.slice a7 (its ++ ([((i : Int), (q : Int), x2.1, (vs.length : Int), x2.2.2)] : List (Int × Int × Bool × Int × Int))).length c7) (its ++ ([((i : Int), (q : Int), x2.1, (vs.length : Int), x2.2.2)] : List (Int × Int × Bool × Int × Int))), own w.heap.size 9 (.slice a6 (vs ++ ([x2.2.1] : List ByteArray)).length c6) (vs ++ ([x2.2.1] : List ByteArray)), box bb1 #[.slice a6 (vs ++ ([x2.2.1] : List ByteArray)).length c6, .slice a3 its.length c3, .slice none 0 0] 30, box bb0 #[.slice none 0 0, .slice none 0 0, .slice none 0 0] 30, imm (.slice a_h h.length c_h) h])
     refine k (fa fl30_1 rfl s6 (k (stX H18 7 rfl ty27 rfl rfl rfl rfl rfl rfl rfl ?_)))
     intro w13 (H19 : HI M w w13 [own w.heap.size 65 (.slice (some ⟨g1, 0, none⟩) 1 1) ([((i : Int), (q : Int), x2.1, (vs.length : Int), x2.2.2)] : List (Int × Int × Bool × Int × Int)), own w.heap.size 9 (.slice (some ⟨g0, 0, none⟩) 1 1) ([x2.2.1] : List ByteArray), box bb2 #[.bool x2.1, .string x2.2.1, iV x2.2.2] 41, imm (.slice a5 x1.length c5) x1, imm (.slice a4 x0.length c4) x0, own w.heap.size 65 (.slice a7 (its ++ ([((i : Int), (q : Int), x2.1, (vs.length : Int), x2.2.2)] : List (Int × Int × Bool × Int × Int))).length c7) (its ++ ([((i : Int), (q : Int), x2.1, (vs.length : Int), x2.2.2)] : List (Int × Int × Bool × Int × Int))), own w.heap.size 9 (.slice a6 (vs ++ ([x2.2.1] : List ByteArray)).length c6) (vs ++ ([x2.2.1] : List ByteArray)), box bb1 #[.slice a6 (vs ++ ([x2.2.1] : List ByteArray)).length c6, .slice a7 (its ++ ([((i : Int), (q : Int), x2.1, (vs.length : Int), x2.2.2)] : List (Int × Int × Bool × Int × Int))).length c7, .slice none 0 0] 30, box bb0 #[.slice none 0 0, .slice none 0 0, .slice none 0 0] 30, imm (.slice a_h h.length c_h) h])
     refine z (inb_normal (nx (rg (k (mv rfl s8 (k (add rfl rfl rfl rfl (by unfold I64 at *; omega) (k (asg (v := iV ((q : Int) + 1)) rfl rfl (z ?_))))))))))
     have H20 : HI M w w13 [own w.heap.size 65 (.slice a7 (its ++ ([((i : Int), (q : Int), x2.1, (vs.length : Int), x2.2.2)] : List (Int × Int × Bool × Int × Int))).length c7) (its ++ ([((i : Int), (q : Int), x2.1, (vs.length : Int), x2.2.2)] : List (Int × Int × Bool × Int × Int))), own w.heap.size 9 (.slice a6 (vs ++ ([x2.2.1] : List ByteArray)).length c6) (vs ++ ([x2.2.1] : List ByteArray)), box bb1 #[.slice a6 (vs ++ ([x2.2.1] : List ByteArray)).length c6, .slice a7 (its ++ ([((i : Int), (q : Int), x2.1, (vs.length : Int), x2.2.2)] : List (Int × Int × Bool × Int × Int))).length c7, .slice none 0 0] 30, box bb0 #[.slice none 0 0, .slice none 0 0, .slice none 0 0] 30, imm (.slice a_h h.length c_h) h] := H19.pickN [5, 6, 7, 8, 9] (by decide) rfl
     refine loopN _ ?_ ⟨(q + 1), (vs ++ ([x2.2.1] : List ByteArray)), (its ++ ([((i : Int), (q : Int), x2.1, (vs.length : Int), x2.2.2)] : List (Int × Int × Bool × Int × Int))), a6, c6, a7, c7, rfl, s4, s5, s6, s7, (ieq rfl (by first | rfl | omega | (push_cast; omega))), H20, (by rw [getD_row hx0]; omega), (by rw [h1] at *; have e_ := at_is hx1 hx0; subst e_; rw [getD_row hx0] at *; first | exact (step_new hx2 p3).1 | exact (step_old hx2 p3).1), (by rw [h1, h2] at *; have e_ := at_is hx1 hx0; subst e_; rw [getD_row hx0] at *; first | exact (step_new hx2 p3).2 | exact (step_old hx2 p3).2)⟩
     rw [getD_row hx0]; omega
    ·
     have p3 := of_decide_eq_false b3
     refine sk (nx (rg (k (fa fl30_1 rfl s6 (k (ldX H13 5 rfl ty27 rfl rfl (by decide) rfl (k (mv rfl s7 (k (mv rfl s8 (k (fa fl41_0 rfl rfl (k (ldX H13 0 rfl ty4 rfl rfl (by decide) rfl (k (mv (v := iV (findS vs x2.2.1)) rfl rfl (k (fa fl41_2 rfl rfl (k (ldX H13 0 rfl ty3 rfl rfl (by decide) rfl (k (bd (v := .agg #[iV (i : Int), iV (q : Int), .bool x2.1, iV (findS vs x2.2.1), iV x2.2.2]) rfl (pbc rfl (pbc rfl (pbc rfl (pbc rfl (pbc rfl pb0))))) (fun _ => by kernel_rfl) (k (bs (xs := ([((i : Int), (q : Int), x2.1, findS vs x2.2.1, x2.2.2)] : List (Int × Int × Bool × Int × Int))) (cells := #[iV (i : Int), iV (q : Int), .bool x2.1, iV (findS vs x2.2.1), iV x2.2.2]) (e := 65) H13 rfl (pbc rfl pb0) (fun _ => by kernel_rfl) ⟨[iV (i : Int), iV (q : Int), .bool x2.1, iV (findS vs x2.2.1), iV x2.2.2], [], rfl, ⟨_, _, rfl, ⟨rfl, (show I64 ((i : Int)) from (by unfold I64 at *; omega))⟩, ⟨_, _, rfl, ⟨rfl, (show I64 ((q : Int)) from (by unfold I64 at *; omega))⟩, ⟨_, _, rfl, rfl, ⟨_, _, rfl, ⟨rfl, (show I64 (findS vs x2.2.1) from (by have h_ := idxF_range (p := isS x2.2.1) (r := vs); have e_ := at_is hx1 hx0; have h3 := of_room (k := q) hx0 (by omega); rw [← getD_row hx0, ← h1, ← h2] at h3; unfold findS; unfold I64; omega))⟩, ⟨rfl, (show I64 (x2.2.2) from (by unfold I64 at *; omega))⟩⟩⟩⟩⟩, rfl⟩ rfl (by unfold maxLen; omega) ?_))))))))))))))))))))))))
     intro g0 w8 xt5 H14
     refine k (ap H14 4 rfl rfl rfl rfl rfl rfl (own_src (H14.at_ 0 rfl)) un27 ty65 rfl (by have e_ := at_is hx1 hx0; have h_ := of_room (k := q) hx0 (by omega); rw [← getD_row hx0, ← h1, ← h2] at h_; simp only [List.length_cons, List.length_nil]; omega) (by have e_ := at_is hx1 hx0; have h_ := of_room (k := q) hx0 (by omega); rw [← getD_row hx0, ← h1, ← h2] at h_; simp only [List.length_cons, List.length_nil]; omega) ?_)
     intro a6 c6 w9 (H15 : HI M w w9 [own w.heap.size 65 (.slice (some ⟨g0, 0, none⟩) 1 1) ([((i : Int), (q : Int), x2.1, findS vs x2.2.1, x2.2.2)] : List (Int × Int × Bool × Int × Int)), box bb2 #[.bool x2.1, .string x2.2.1, iV x2.2.2] 41, imm (.slice a5 x1.length c5) x1, imm (.slice a4 x0.length c4) x0, own w.heap.size 65 (.slice a6 (its ++ ([((i : Int), (q : Int), x2.1, findS vs x2.2.1, x2.2.2)] : List (Int × Int × Bool × Int × Int))).length c6) (its ++ ([((i : Int), (q : Int), x2.1, findS vs x2.2.1, x2.2.2)] : List (Int × Int × Bool × Int × Int))), own w.heap.size 9 (.slice a2 vs.length c2) vs, box bb1 #[.slice a2 vs.length c2, .slice a3 its.length c3, .slice none 0 0] 30, box bb0 #[.slice none 0 0, .slice none 0 0, .slice none 0 0] 30, imm (.slice a_h h.length c_h) h])
     refine k (fa fl30_1 rfl s6 (k (stX H15 6 rfl ty27 rfl rfl rfl rfl rfl rfl rfl ?_)))
     intro w10 (H16 : HI M w w10 [own w.heap.size 65 (.slice (some ⟨g0, 0, none⟩) 1 1) ([((i : Int), (q : Int), x2.1, findS vs x2.2.1, x2.2.2)] : List (Int × Int × Bool × Int × Int)), box bb2 #[.bool x2.1, .string x2.2.1, iV x2.2.2] 41, imm (.slice a5 x1.length c5) x1, imm (.slice a4 x0.length c4) x0, own w.heap.size 65 (.slice a6 (its ++ ([((i : Int), (q : Int), x2.1, findS vs x2.2.1, x2.2.2)] : List (Int × Int × Bool × Int × Int))).length c6) (its ++ ([((i : Int), (q : Int), x2.1, findS vs x2.2.1, x2.2.2)] : List (Int × Int × Bool × Int × Int))), own w.heap.size 9 (.slice a2 vs.length c2) vs, box bb1 #[.slice a2 vs.length c2, .slice a6 (its ++ ([((i : Int), (q : Int), x2.1, findS vs x2.2.1, x2.2.2)] : List (Int × Int × Bool × Int × Int))).length c6, .slice none 0 0] 30, box bb0 #[.slice none 0 0, .slice none 0 0, .slice none 0 0] 30, imm (.slice a_h h.length c_h) h])
     refine z (inb_normal (nx (rg (k (mv rfl s8 (k (add rfl rfl rfl rfl (by unfold I64 at *; omega) (k (asg (v := iV ((q : Int) + 1)) rfl rfl (z ?_))))))))))
     have H17 : HI M w w10 [own w.heap.size 65 (.slice a6 (its ++ ([((i : Int), (q : Int), x2.1, findS vs x2.2.1, x2.2.2)] : List (Int × Int × Bool × Int × Int))).length c6) (its ++ ([((i : Int), (q : Int), x2.1, findS vs x2.2.1, x2.2.2)] : List (Int × Int × Bool × Int × Int))), own w.heap.size 9 (.slice a2 vs.length c2) vs, box bb1 #[.slice a2 vs.length c2, .slice a6 (its ++ ([((i : Int), (q : Int), x2.1, findS vs x2.2.1, x2.2.2)] : List (Int × Int × Bool × Int × Int))).length c6, .slice none 0 0] 30, box bb0 #[.slice none 0 0, .slice none 0 0, .slice none 0 0] 30, imm (.slice a_h h.length c_h) h] := H16.pickN [4, 5, 6, 7, 8] (by decide) rfl
     refine loopN _ ?_ ⟨(q + 1), vs, (its ++ ([((i : Int), (q : Int), x2.1, findS vs x2.2.1, x2.2.2)] : List (Int × Int × Bool × Int × Int))), a2, c2, a6, c6, rfl, s4, s5, s6, s7, (ieq rfl (by first | rfl | omega | (push_cast; omega))), H17, (by rw [getD_row hx0]; omega), (by rw [h1] at *; have e_ := at_is hx1 hx0; subst e_; rw [getD_row hx0] at *; first | exact (step_new hx2 p3).1 | exact (step_old hx2 p3).1), (by rw [h1, h2] at *; have e_ := at_is hx1 hx0; subst e_; rw [getD_row hx0] at *; first | exact (step_new hx2 p3).2 | exact (step_old hx2 p3).2)⟩
     rw [getD_row hx0]; omega
   ·
    have p2 := of_decide_eq_false b2
    refine ex (then_exit (loop_exit (inb_here (inb_normal (nx (rg (k (mv rfl s7 (k (add rfl rfl rfl rfl (by unfold I64 at *; omega) (k (asg (v := iV ((i : Int) + 1)) rfl rfl (z ?_)))))))))))))
    have H9 : HI M w w4 [own w.heap.size 65 (.slice a3 its.length c3) its, own w.heap.size 9 (.slice a2 vs.length c2) vs, box bb1 #[.slice a2 vs.length c2, .slice a3 its.length c3, .slice none 0 0] 30, box bb0 #[.slice none 0 0, .slice none 0 0, .slice none 0 0] 30, imm (.slice a_h h.length c_h) h] := H8.pickN [1, 2, 3, 4, 5] (by decide) rfl
    refine loopN _ ?_ ⟨(i + 1), vs, its, a2, c2, a3, c3, rfl, s4, s5, s6, (ieq rfl (by first | rfl | omega | (push_cast; omega))), H9, (by first | assumption | omega | simp | (simp; omega)), (by rw [h1, allO_end (by omega) (by rw [getD_row hx0]; omega)]), (by rw [h2, allO_end (by omega) (by rw [getD_row hx0]; omega)])⟩
    omega
  ·
   have p1 := of_decide_eq_false b1
   refine ex (then_exit (loop_exit (inb_here (nx (sq (rg (k (ldX H6 2 rfl ty30 rfl s2 (by decide) rfl (k (stX H6 3 rfl ty30 rfl rfl s1 rfl rfl rfl rfl ?_))))))))))
   intro w4 (H7 : HI M w w4 [own w.heap.size 65 (.slice a1 its.length c1) its, own w.heap.size 9 (.slice a0 vs.length c0) vs, box bb1 #[.slice a0 vs.length c0, .slice a1 its.length c1, .slice none 0 0] 30, box bb0 #[.slice a0 vs.length c0, .slice a1 its.length c1, .slice none 0 0] 30, imm (.slice a_h h.length c_h) h])
   refine k (asg (v := iV 0) rfl rfl (z (nx (rt (rc2 H7 3 rfl ty30 rfl rfl rfl s1 rfl (by decide) ?_)))))
   have e0 : (vs : List ByteArray) = ofV h := by first | exact (of_bad hq).1.symm | (rw [(of_ok hq).1, h1]; unfold factV; rw [show i = h.length from by omega])
   have e1 : (its : List (Int × Int × Bool × Int × Int)) = ofI h := by first | exact (of_bad hq).2.1.symm | (rw [(of_ok hq).2.1, h2]; unfold factI; rw [show i = h.length from by omega])
   have e2 : ([] : List Int) = ([] : List Int) := rfl
   have e3 : (0 : Int) = ofE h := by first | exact (of_bad hq).2.2.symm | exact (of_ok hq).2.2.symm
   have ev_ := cg4 (fun (x_0 : List ByteArray) (x_1 : List (Int × Int × Bool × Int × Int)) (x_2 : List Int) (x_3 : Int) => (.tuple #[.agg #[.slice a0 x_0.length c0, .slice a1 x_1.length c1, .slice none x_2.length 0], iV x_3] : Value)) e0 e1 e2 e3
   exact ⟨a0, c0, a1, c1, none, 0, ev_, H7.below, (congrArg (fun (x_ : List ByteArray) => RV _ _ (.slice a0 x_.length c0) x_) e0).mp (H7.outO 1 rfl), (congrArg (fun (x_ : List (Int × Int × Bool × Int × Int)) => RV _ _ (.slice a1 x_.length c1) x_) e1).mp (H7.outO 0 rfl), (congrArg (fun (x_ : List Int) => RV _ _ (.slice none x_.length 0) x_) e2).mp (rv_nil _ _)⟩
set_option maxRecDepth 100000 in
set_option maxHeartbeats 1600000 in
theorem ref10_Write {M : Nat → Prop} {w : World} {a_fv : Option Addr} {n_fv c_fv : Nat} {a_fi : Option Addr} {c_fi : Nat} {fi : List (Int × Int × Bool × Int × Int)} {a_fo : Option Addr} {n_fo c_fo : Nat} {vr : Int} {val : Int} (hM : ∀ b, M b → b < w.heap.size) (h_fi : RV M w (.slice a_fi fi.length c_fi) fi) (h_vr : I64 vr) (h_val : I64 val) : Calls Tryd.prog 23 #[.agg #[.slice a_fv n_fv c_fv, .slice a_fi fi.length c_fi, .slice a_fo n_fo c_fo], .int .i64 vr, .int .i64 val] w (Ret fun v w' =>  v = .tuple #[.int .i64 (max (wrI fi vr val) 0), .bool (decide (0 ≤ wrI fi vr val))] ∧ Ext w w') := by
 refine enter 43 Tryd.func23 rfl rfl rfl fun f0 ha => ?_
 have H := HI.start (M0 := M) (w := w) hM
 have H0 := H.put (it := imm (.slice a_fi fi.length c_fi) fi) rfl (by rw [MS_nil]; exact h_fi)
 have ln_fi := rv_len h_fi
 have i0 : f0 0 = .agg #[.slice a_fv n_fv c_fv, .slice a_fi fi.length c_fi, .slice a_fo n_fo c_fo] := ha 0 (by simp)
 have i1 : f0 1 = iV vr := ha 1 (by simp)
 have i2 : f0 2 = iV val := ha 2 (by simp)
 refine sq (rg (k (bx H0 rfl i0 ?_)))
 intro bb0 w0 xt0 (H1 : HI M w w0 [box bb0 #[.slice a_fv n_fv c_fv, .slice a_fi fi.length c_fi, .slice a_fo n_fo c_fo] 30, imm (.slice a_fi fi.length c_fi) fi])
 refine k (asg (v := iV 0) rfl rfl (k (asg (v := .bool false) rfl rfl (z (nx (sq (sq (rg (k (asg (v := iV 0) rfl rfl (z (nx (bk ?_)))))))))))))
 refine lp (fun m f w' => ∃ (j : Nat), m = fi.length - j ∧ f 1 = iV vr ∧ f 2 = iV val ∧ f 3 = pV bb0 0 ∧ f 8 = iV (j : Int) ∧  HI M w w' [box bb0 #[.slice a_fv n_fv c_fv, .slice a_fi fi.length c_fi, .slice a_fo n_fo c_fo] 30, imm (.slice a_fi fi.length c_fi) fi] ∧ (j ≤ fi.length) ∧ ((fi.take j).any (isW vr val) = false)) _ ⟨0, rfl, i1, i2, rfl, (ieq rfl (by first | rfl | omega | simp)), H1, (by first | assumption | omega | simp | (simp; omega)), (by simp)⟩ ?_
 rintro _ f0 w1 ⟨j, rfl, s0, s1, s2, s3, H2, hk, hs⟩
 refine sq (sq (rg (k (mv rfl s3 (k (fa fl30_1 rfl s2 (k (ldX H2 0 rfl ty27 rfl rfl (by decide) rfl (k (lnS rfl rfl un27 (k (lss rfl rfl rfl rfl (z (nx ?_))))))))))))))
 refine cd (b := decide ((j : Int) < (fi.length : Int))) rfl rfl (fun b0 => ?_) (fun b0 => ?_)
 ·
  have p0 := of_decide_eq_true b0
  refine sk (nx (sq (bk (sq (rg (k (fa fl30_1 rfl s2 (k (ldX H2 0 rfl ty27 rfl rfl (by decide) rfl (k (mv rfl s3 (k (ia (H2.rv 1 rfl) rfl rfl rfl rfl (by first | omega | (simp; omega)) un27 ty65 ?_)))))))))))))
  intro ad0 x0 hx0 hA0
  refine k (fa fl65_2 rfl rfl (k (ldB ((hA0).s2).fst.w ty4 rfl rfl (k (mv (v := .bool x0.2.2.1) rfl rfl ?_)))))
  rcases Bool.eq_false_or_eq_true (x0.2.2.1) with b1 | b1
  · -- x0.2.2.1 is True
   refine k (gy rfl rfl rfl b1 (fa fl30_1 rfl s2 (k (gy rfl rfl rfl b1 (ldX H2 0 rfl ty27 rfl rfl (by decide) rfl (k (gy rfl rfl rfl b1 (mv rfl s3 (k (gy rfl rfl rfl b1 (ia (H2.rv 1 rfl) rfl rfl rfl rfl (by first | omega | (simp; omega)) un27 ty65 ?_)))))))))))
   intro ad1 x1 hx1 hA1
   refine k (gy rfl rfl rfl b1 (fa fl65_3 rfl rfl (k (gy rfl rfl rfl b1 (ldI ((hA1).s3).fst.w ty3 rfl rfl ?_)))))
   intro rv0
   refine k (gy rfl rfl rfl b1 (mv rfl s0 (k (gy rfl rfl rfl b1 (eql rfl rfl rfl rfl (k (pickT rfl rfl rfl rfl b1 rfl (k (mv (v := .bool (decide (x1.2.2.2.1 = vr))) rfl rfl ?_)))))))))
   rcases Bool.eq_false_or_eq_true (decide (x1.2.2.2.1 = vr)) with b2 | b2
   · -- decide (x1.2.2.2.1 = vr) is True
    have p2 := of_decide_eq_true b2
    refine k (gy rfl rfl rfl b2 (fa fl30_1 rfl s2 (k (gy rfl rfl rfl b2 (ldX H2 0 rfl ty27 rfl rfl (by decide) rfl (k (gy rfl rfl rfl b2 (mv rfl s3 (k (gy rfl rfl rfl b2 (ia (H2.rv 1 rfl) rfl rfl rfl rfl (by first | omega | (simp; omega)) un27 ty65 ?_)))))))))))
    intro ad2 x2 hx2 hA2
    refine k (gy rfl rfl rfl b2 (fa fl65_4 rfl rfl (k (gy rfl rfl rfl b2 (ldI (hA2).s4.w ty3 rfl rfl ?_)))))
    intro rv1
    refine k (gy rfl rfl rfl b2 (mv rfl s1 (k (gy rfl rfl rfl b2 (eql rfl rfl rfl rfl (k (pickT rfl rfl rfl rfl b2 rfl (z (nx ?_)))))))))
    refine cd (b := decide (x2.2.2.2.2 = val)) rfl rfl (fun b3 => ?_) (fun b3 => ?_)
    ·
     have p3 := of_decide_eq_true b3
     refine sq (rg (k (mv rfl s3 (k (asg (v := iV (j : Int)) rfl rfl (k (asg (v := .bool true) rfl rfl (z (nx (rt (inb_ret (then_ret (loop_ret (inb_ret (then_ret (r2 rfl rfl rfl ?_))))))))))))))))
     have e0 : ((j : Int) : Int) = (max (wrI fi vr val) 0) := by first | (have e1 := at_is hx1 hx0; subst e1; have e2 := at_is hx2 hx0; subst e2; have h_ := wr_hit hx0 b1 b2 b3 hs; omega) | (have h_ := wr_miss hs (by omega); omega)
     have e1 : (true : Bool) = decide (0 ≤ wrI fi vr val) := by first | (have e1 := at_is hx1 hx0; subst e1; have e2 := at_is hx2 hx0; subst e2; have h_ := wr_hit hx0 b1 b2 b3 hs; symm; rw [decide_eq_true_eq]; omega) | (have h_ := wr_miss hs (by omega); symm; rw [decide_eq_false_iff_not]; omega)
     have ev_ := cg2 (fun (x_0 : Int) (x_1 : Bool) => (.tuple #[iV x_0, .bool x_1] : Value)) e0 e1
     exact ⟨ev_, H2.below⟩
    ·
     have p3 := of_decide_eq_false b3
     refine sk (inb_normal (nx (rg (k (mv rfl s3 (k (add rfl rfl rfl rfl (by unfold I64 at *; omega) (k (asg (v := iV ((j : Int) + 1)) rfl rfl (z ?_))))))))))
     refine loopN _ ?_ ⟨(j + 1), rfl, s0, s1, s2, (ieq rfl (by first | rfl | omega | (push_cast; omega))), H2, (by first | assumption | omega | simp | (simp; omega)), (by first | exact any_step hx0 hs (isW_no1 b1) | (have e1 := at_is hx1 hx0; subst e1; first | exact any_step hx0 hs (isW_no2 b2) | (have e2 := at_is hx2 hx0; subst e2; exact any_step hx0 hs (isW_no3 b3))))⟩
     omega
   · -- decide (x1.2.2.2.1 = vr) is False
    have p2 := of_decide_eq_false b2
    refine k (gn rfl rfl rfl b2 (k (gn rfl rfl rfl b2 (k (gn rfl rfl rfl b2 (k (gn rfl rfl rfl b2 (k (gn rfl rfl rfl b2 (k (gn rfl rfl rfl b2 (k (gn rfl rfl rfl b2 (k (gn rfl rfl rfl b2 (k (pickF rfl rfl rfl rfl b2 rfl (z (nx (cdF rfl rfl rfl (sk (inb_normal (nx (rg (k (mv rfl s3 (k (add rfl rfl rfl rfl (by unfold I64 at *; omega) (k (asg (v := iV ((j : Int) + 1)) rfl rfl (z ?_)))))))))))))))))))))))))))))))
    refine loopN _ ?_ ⟨(j + 1), rfl, s0, s1, s2, (ieq rfl (by first | rfl | omega | (push_cast; omega))), H2, (by first | assumption | omega | simp | (simp; omega)), (by first | exact any_step hx0 hs (isW_no1 b1) | (have e1 := at_is hx1 hx0; subst e1; first | exact any_step hx0 hs (isW_no2 b2) | (have e2 := at_is hx2 hx0; subst e2; exact any_step hx0 hs (isW_no3 b3))))⟩
    omega
  · -- x0.2.2.1 is False
   refine k (gn rfl rfl rfl b1 (k (gn rfl rfl rfl b1 (k (gn rfl rfl rfl b1 (k (gn rfl rfl rfl b1 (k (gn rfl rfl rfl b1 (k (gn rfl rfl rfl b1 (k (gn rfl rfl rfl b1 (k (gn rfl rfl rfl b1 (k (pickF rfl rfl rfl rfl b1 rfl (k (mv (v := .bool false) rfl rfl (k (gn rfl rfl rfl rfl (k (gn rfl rfl rfl rfl (k (gn rfl rfl rfl rfl (k (gn rfl rfl rfl rfl (k (gn rfl rfl rfl rfl (k (gn rfl rfl rfl rfl (k (gn rfl rfl rfl rfl (k (gn rfl rfl rfl rfl (k (pickF rfl rfl rfl rfl rfl rfl (z (nx (cdF rfl rfl rfl (sk (inb_normal (nx (rg (k (mv rfl s3 (k (add rfl rfl rfl rfl (by unfold I64 at *; omega) (k (asg (v := iV ((j : Int) + 1)) rfl rfl (z ?_)))))))))))))))))))))))))))))))))))))))))))))))))))
   refine loopN _ ?_ ⟨(j + 1), rfl, s0, s1, s2, (ieq rfl (by first | rfl | omega | (push_cast; omega))), H2, (by first | assumption | omega | simp | (simp; omega)), (by first | exact any_step hx0 hs (isW_no1 b1) | (have e1 := at_is hx1 hx0; subst e1; first | exact any_step hx0 hs (isW_no2 b2) | (have e2 := at_is hx2 hx0; subst e2; exact any_step hx0 hs (isW_no3 b3))))⟩
   omega
 ·
  have p0 := of_decide_eq_false b0
  refine ex (then_exit (loop_exit (inb_here (nx (sq (rg (k (asg (v := iV 0) rfl rfl (k (asg (v := .bool false) rfl rfl (z (nx (rt (r2 rfl rfl rfl ?_))))))))))))))
  have e0 : (0 : Int) = (max (wrI fi vr val) 0) := by first | (have e1 := at_is hx1 hx0; subst e1; have e2 := at_is hx2 hx0; subst e2; have h_ := wr_hit hx0 b1 b2 b3 hs; omega) | (have h_ := wr_miss hs (by omega); omega)
  have e1 : (false : Bool) = decide (0 ≤ wrI fi vr val) := by first | (have e1 := at_is hx1 hx0; subst e1; have e2 := at_is hx2 hx0; subst e2; have h_ := wr_hit hx0 b1 b2 b3 hs; symm; rw [decide_eq_true_eq]; omega) | (have h_ := wr_miss hs (by omega); symm; rw [decide_eq_false_iff_not]; omega)
  have ev_ := cg2 (fun (x_0 : Int) (x_1 : Bool) => (.tuple #[iV x_0, .bool x_1] : Value)) e0 e1
  exact ⟨ev_, H2.below⟩
set_option maxRecDepth 100000 in
set_option maxHeartbeats 1600000 in
theorem ref10_Check {M : Nat → Prop} {w : World} {a_fv : Option Addr} {n_fv c_fv : Nat} {a_fi : Option Addr} {c_fi : Nat} {fi : List (Int × Int × Bool × Int × Int)} {a_fo : Option Addr} {n_fo c_fo : Nat} (hM : ∀ b, M b → b < w.heap.size) (h_fi : RV M w (.slice a_fi fi.length c_fi) fi) : Calls Tryd.prog 12 #[.agg #[.slice a_fv n_fv c_fv, .slice a_fi fi.length c_fi, .slice a_fo n_fo c_fo]] w (Ret fun v w' =>  v = .tuple #[.int .i64 ((chkA fi).1), .int .i64 ((chkA fi).2.1), .int .i64 ((chkA fi).2.2)] ∧ Ext w w') := by
 refine enter 43 Tryd.func12 rfl rfl rfl fun f0 ha => ?_
 have H := HI.start (M0 := M) (w := w) hM
 have H0 := H.put (it := imm (.slice a_fi fi.length c_fi) fi) rfl (by rw [MS_nil]; exact h_fi)
 have ln_fi := rv_len h_fi
 have i0 : f0 0 = .agg #[.slice a_fv n_fv c_fv, .slice a_fi fi.length c_fi, .slice a_fo n_fo c_fo] := ha 0 (by simp)
 refine sq (rg (k (bx H0 rfl i0 ?_)))
 intro bb0 w0 xt0 (H1 : HI M w w0 [box bb0 #[.slice a_fv n_fv c_fv, .slice a_fi fi.length c_fi, .slice a_fo n_fo c_fo] 30, imm (.slice a_fi fi.length c_fi) fi])
 refine k (asg (v := iV 0) rfl rfl (k (asg (v := iV 0) rfl rfl (k (asg (v := iV 0) rfl rfl (z (nx (sq (sq (rg (k (asg (v := iV 0) rfl rfl (z (nx (bk ?_)))))))))))))))
 refine lp (fun m f w' => ∃ (j : Nat), m = fi.length - j ∧ f 1 = pV bb0 0 ∧ f 5 = iV (j : Int) ∧  HI M w w' [box bb0 #[.slice a_fv n_fv c_fv, .slice a_fi fi.length c_fi, .slice a_fo n_fo c_fo] 30, imm (.slice a_fi fi.length c_fi) fi] ∧ (j ≤ fi.length) ∧ (∀ k, k < j → badI fi k = false)) _ ⟨0, rfl, rfl, (ieq rfl (by first | rfl | omega | simp)), H1, (by first | assumption | omega | simp | (simp; omega)), (by intro k hk; omega)⟩ ?_
 rintro _ f0 w1 ⟨j, rfl, s0, s1, H2, hk, hs⟩
 refine sq (sq (rg (k (mv rfl s1 (k (fa fl30_1 rfl s0 (k (ldX H2 0 rfl ty27 rfl rfl (by decide) rfl (k (lnS rfl rfl un27 (k (lss rfl rfl rfl rfl (z (nx ?_))))))))))))))
 refine cd (b := decide ((j : Int) < (fi.length : Int))) rfl rfl (fun b0 => ?_) (fun b0 => ?_)
 ·
  have p0 := of_decide_eq_true b0
  refine sk (nx (sq (bk (sq (rg (k (fa fl30_1 rfl s0 (k (ldX H2 0 rfl ty27 rfl rfl (by decide) rfl (k (mv rfl s1 (k (ia (H2.rv 1 rfl) rfl rfl rfl rfl (by first | omega | (simp; omega)) un27 ty65 ?_)))))))))))))
  intro ad0 x0 hx0 hA0
  refine k (ldW hA0.w ty65 rfl rfl ?_)
  intro v0 rv0
  obtain ⟨_, ⟨_, _, rfl, ⟨rfl, rv1⟩, ⟨_, _, rfl, ⟨rfl, rv2⟩, ⟨_, _, rfl, rfl, ⟨_, _, rfl, ⟨rfl, rv3⟩, ⟨rfl, rv4⟩⟩⟩⟩⟩, rfl⟩ := rv0
  refine k (al H2 ty65 ?_)
  intro bb1 w2 xt1 (H3 : HI M w w2 [box bb1 #[iV 0, iV 0, .bool false, iV 0, iV 0] 65, box bb0 #[.slice a_fv n_fv c_fv, .slice a_fi fi.length c_fi, .slice a_fo n_fo c_fo] 30, imm (.slice a_fi fi.length c_fi) fi])
  refine k (stX H3 0 rfl ty65 rfl rfl rfl rfl rfl rfl rfl ?_)
  intro w3 (H4 : HI M w w3 [box bb1 #[iV x0.1, iV x0.2.1, .bool x0.2.2.1, iV x0.2.2.2.1, iV x0.2.2.2.2] 65, box bb0 #[.slice a_fv n_fv c_fv, .slice a_fi fi.length c_fi, .slice a_fo n_fo c_fo] 30, imm (.slice a_fi fi.length c_fi) fi])
  refine z (nx (sq (sq (rg (k (fa fl65_2 rfl rfl (k (ldX H4 0 rfl ty4 rfl rfl (by decide) rfl (k (not_ rfl rfl (z (nx ?_))))))))))))
  refine cd (b := !x0.2.2.1) rfl rfl (fun b1 => ?_) (fun b1 => ?_)
  ·
   refine ex (then_exit (inb_here (nx (rg (k (mv rfl s1 (k (add rfl rfl rfl rfl (by unfold I64 at *; omega) (k (asg (v := iV ((j : Int) + 1)) rfl rfl (z ?_)))))))))))
   have H5 : HI M w w3 [box bb0 #[.slice a_fv n_fv c_fv, .slice a_fi fi.length c_fi, .slice a_fo n_fo c_fo] 30, imm (.slice a_fi fi.length c_fi) fi] := H4.pickN [1, 2] (by decide) rfl
   refine loopN _ ?_ ⟨(j + 1), rfl, s0, (ieq rfl (by first | rfl | omega | (push_cast; omega))), H5, (by first | assumption | omega | simp | (simp; omega)), (by first | exact bad_next hs hx0 (bad_read (by simpa using b1)) | exact bad_next hs hx0 (bad_good p2 p3))⟩
   omega
  ·
   refine sk (nx (sq (sq (rg (k (fa fl65_4 rfl rfl (k (ldX H4 0 rfl ty3 rfl rfl (by decide) rfl (k (eql rfl rfl rfl rfl (z (nx ?_))))))))))))
   refine cd (b := decide (x0.2.2.2.2 = 0)) rfl rfl (fun b2 => ?_) (fun b2 => ?_)
   ·
    have p2 := of_decide_eq_true b2
    refine sq (rg (k (mv rfl s1 (k (mv rfl s1 (k (asg (v := iV (j : Int)) rfl rfl (k (asg (v := iV (j : Int)) rfl rfl (k (asg (v := iV 5) rfl rfl (z (nx (rt (then_ret (inb_ret (then_ret (loop_ret (inb_ret (then_ret (r3 rfl rfl rfl rfl ?_)))))))))))))))))))))
    have e0 : ((j : Int) : Int) = (chkA fi).1 := by first | exact (congrArg (fun z_ : Int × Int × Int => z_.1) (chk_zero hs hx0 (by simpa using b1) p2)).symm | exact (congrArg (fun z_ : Int × Int × Int => z_.1) (chk_twice hs hx0 (by simpa using b1) p2 p3)).symm | exact (congrArg (fun z_ : Int × Int × Int => z_.1) (chk_end hs (by omega))).symm
    have e1 : ((j : Int) : Int) = (chkA fi).2.1 := by first | exact (congrArg (fun z_ : Int × Int × Int => z_.2.1) (chk_zero hs hx0 (by simpa using b1) p2)).symm | exact (congrArg (fun z_ : Int × Int × Int => z_.2.1) (chk_twice hs hx0 (by simpa using b1) p2 p3)).symm | exact (congrArg (fun z_ : Int × Int × Int => z_.2.1) (chk_end hs (by omega))).symm
    have e2 : (5 : Int) = (chkA fi).2.2 := by first | exact (congrArg (fun z_ : Int × Int × Int => z_.2.2) (chk_zero hs hx0 (by simpa using b1) p2)).symm | exact (congrArg (fun z_ : Int × Int × Int => z_.2.2) (chk_twice hs hx0 (by simpa using b1) p2 p3)).symm | exact (congrArg (fun z_ : Int × Int × Int => z_.2.2) (chk_end hs (by omega))).symm
    have ev_ := cg3 (fun (x_0 : Int) (x_1 : Int) (x_2 : Int) => (.tuple #[iV x_0, iV x_1, iV x_2] : Value)) e0 e1 e2
    exact ⟨ev_, H4.below⟩
   ·
    have p2 := of_decide_eq_false b2
    refine sk (nx (sq (rg (k (ldX H4 1 rfl ty30 rfl s0 (by decide) rfl (k (fa fl65_3 rfl rfl (k (ldX H4 0 rfl ty3 rfl rfl (by decide) rfl (k (fa fl65_4 rfl rfl (k (ldX H4 0 rfl ty3 rfl rfl (by decide) rfl (k ?_))))))))))))))
    have cc0 := ref10_Write (fi := fi) (vr := x0.2.2.2.1) (val := x0.2.2.2.2) (a_fv := a_fv) (n_fv := n_fv) (c_fv := c_fv) (a_fo := a_fo) (n_fo := n_fo) (c_fo := c_fo) (w := w3) H4.mb (H4.rv 2 rfl) (by unfold I64 at *; omega) (by unfold I64 at *; omega)
    refine ca go23 rfl (ec rfl (ec rfl (ec rfl e0))) cc0 ?_
    rintro _ w4 ⟨rfl, xt2⟩
    have H5 := H4.ext xt2
    refine k (mv (v := .tuple #[iV (max (wrI fi x0.2.2.2.1 x0.2.2.2.2) 0), .bool (decide (0 ≤ wrI fi x0.2.2.2.1 x0.2.2.2.2))]) rfl rfl (k (xt rfl rfl rfl (k (xt rfl rfl rfl (k (asg (v := iV (max (wrI fi x0.2.2.2.1 x0.2.2.2.2) 0)) rfl rfl (k (asg (v := .bool (decide (0 ≤ wrI fi x0.2.2.2.1 x0.2.2.2.2))) rfl rfl (z (nx (sq (rg (k (mv (v := iV (max (wrI fi x0.2.2.2.1 x0.2.2.2.2) 0)) rfl rfl (k (mv rfl s1 (k (lss rfl rfl rfl rfl (z (nx ?_)))))))))))))))))))))
    refine cd (b := decide ((max (wrI fi x0.2.2.2.1 x0.2.2.2.2) 0) < (j : Int))) rfl rfl (fun b3 => ?_) (fun b3 => ?_)
    ·
     have p3 := of_decide_eq_true b3
     refine sq (rg (k (mv (v := iV (max (wrI fi x0.2.2.2.1 x0.2.2.2.2) 0)) rfl rfl (k (mv rfl s1 (k (asg (v := iV (max (wrI fi x0.2.2.2.1 x0.2.2.2.2) 0)) rfl rfl (k (asg (v := iV (j : Int)) rfl rfl (k (asg (v := iV 4) rfl rfl (z (nx (rt (inb_ret (then_ret (loop_ret (inb_ret (then_ret (r3 rfl rfl rfl rfl ?_))))))))))))))))))))
     have e0 : ((max (wrI fi x0.2.2.2.1 x0.2.2.2.2) 0) : Int) = (chkA fi).1 := by first | exact (congrArg (fun z_ : Int × Int × Int => z_.1) (chk_zero hs hx0 (by simpa using b1) p2)).symm | exact (congrArg (fun z_ : Int × Int × Int => z_.1) (chk_twice hs hx0 (by simpa using b1) p2 p3)).symm | exact (congrArg (fun z_ : Int × Int × Int => z_.1) (chk_end hs (by omega))).symm
     have e1 : ((j : Int) : Int) = (chkA fi).2.1 := by first | exact (congrArg (fun z_ : Int × Int × Int => z_.2.1) (chk_zero hs hx0 (by simpa using b1) p2)).symm | exact (congrArg (fun z_ : Int × Int × Int => z_.2.1) (chk_twice hs hx0 (by simpa using b1) p2 p3)).symm | exact (congrArg (fun z_ : Int × Int × Int => z_.2.1) (chk_end hs (by omega))).symm
     have e2 : (4 : Int) = (chkA fi).2.2 := by first | exact (congrArg (fun z_ : Int × Int × Int => z_.2.2) (chk_zero hs hx0 (by simpa using b1) p2)).symm | exact (congrArg (fun z_ : Int × Int × Int => z_.2.2) (chk_twice hs hx0 (by simpa using b1) p2 p3)).symm | exact (congrArg (fun z_ : Int × Int × Int => z_.2.2) (chk_end hs (by omega))).symm
     have ev_ := cg3 (fun (x_0 : Int) (x_1 : Int) (x_2 : Int) => (.tuple #[iV x_0, iV x_1, iV x_2] : Value)) e0 e1 e2
     exact ⟨ev_, H5.below⟩
    ·
     have p3 := of_decide_eq_false b3
     refine sk (inb_normal (nx (rg (k (mv rfl s1 (k (add rfl rfl rfl rfl (by unfold I64 at *; omega) (k (asg (v := iV ((j : Int) + 1)) rfl rfl (z ?_))))))))))
     have H6 : HI M w w4 [box bb0 #[.slice a_fv n_fv c_fv, .slice a_fi fi.length c_fi, .slice a_fo n_fo c_fo] 30, imm (.slice a_fi fi.length c_fi) fi] := H5.pickN [1, 2] (by decide) rfl
     refine loopN _ ?_ ⟨(j + 1), rfl, s0, (ieq rfl (by first | rfl | omega | (push_cast; omega))), H6, (by first | assumption | omega | simp | (simp; omega)), (by first | exact bad_next hs hx0 (bad_read (by simpa using b1)) | exact bad_next hs hx0 (bad_good p2 p3))⟩
     omega
 ·
  have p0 := of_decide_eq_false b0
  refine ex (then_exit (loop_exit (inb_here (nx (sq (rg (k (asg (v := iV 0) rfl rfl (k (asg (v := iV 0) rfl rfl (k (asg (v := iV 0) rfl rfl (z (nx (rt (r3 rfl rfl rfl rfl ?_))))))))))))))))
  have e0 : (0 : Int) = (chkA fi).1 := by first | exact (congrArg (fun z_ : Int × Int × Int => z_.1) (chk_zero hs hx0 (by simpa using b1) p2)).symm | exact (congrArg (fun z_ : Int × Int × Int => z_.1) (chk_twice hs hx0 (by simpa using b1) p2 p3)).symm | exact (congrArg (fun z_ : Int × Int × Int => z_.1) (chk_end hs (by omega))).symm
  have e1 : (0 : Int) = (chkA fi).2.1 := by first | exact (congrArg (fun z_ : Int × Int × Int => z_.2.1) (chk_zero hs hx0 (by simpa using b1) p2)).symm | exact (congrArg (fun z_ : Int × Int × Int => z_.2.1) (chk_twice hs hx0 (by simpa using b1) p2 p3)).symm | exact (congrArg (fun z_ : Int × Int × Int => z_.2.1) (chk_end hs (by omega))).symm
  have e2 : (0 : Int) = (chkA fi).2.2 := by first | exact (congrArg (fun z_ : Int × Int × Int => z_.2.2) (chk_zero hs hx0 (by simpa using b1) p2)).symm | exact (congrArg (fun z_ : Int × Int × Int => z_.2.2) (chk_twice hs hx0 (by simpa using b1) p2 p3)).symm | exact (congrArg (fun z_ : Int × Int × Int => z_.2.2) (chk_end hs (by omega))).symm
  have ev_ := cg3 (fun (x_0 : Int) (x_1 : Int) (x_2 : Int) => (.tuple #[iV x_0, iV x_1, iV x_2] : Value)) e0 e1 e2
  exact ⟨ev_, H2.below⟩
end Go.Proofs.YtefcbihikknlkaaDoor
namespace Go.Proofs.YtefcbihikknlkaaDoor
open Go.Ew Go.RowKit
set_option linter.unusedVariables false
set_option linter.unusedSimpArgs false
attribute [local irreducible] WL WC SO Code.wp wpList retQ Ret
attribute [local irreducible] bitB hasW inR hasR setR countW countR subR words newR listR orR firstW tab8
theorem go60 : GoF Tryd.prog 60 := ⟨_, _, Tryd.func60, rfl, by kernel_rfl⟩
theorem fl65_0 : FldF Tryd.prog 65 0 0 := ⟨_, _, Tryd.underlying65, rfl, rfl, by kernel_rfl⟩
theorem go52 : GoF Tryd.prog 52 := ⟨_, _, Tryd.func52, rfl, by kernel_rfl⟩
theorem fl65_1 : FldF Tryd.prog 65 1 1 := ⟨_, _, Tryd.underlying65, rfl, rfl, by kernel_rfl⟩
set_option maxRecDepth 100000 in
set_option maxHeartbeats 1600000 in
theorem session_Po {M : Nat → Prop} {w : World} {a_fv : Option Addr} {n_fv c_fv : Nat} {a_fi : Option Addr} {c_fi : Nat} {fi : List (Int × Int × Bool × Int × Int)} {a_fo : Option Addr} {n_fo c_fo : Nat} (hM : ∀ b, M b → b < w.heap.size) (h_fi : RV M w (.slice a_fi fi.length c_fi) fi) (ho : OrdI fi) (hn_fi : fi.length ≤ 4096) : Calls Tryd.prog 66 #[.agg #[.slice a_fv n_fv c_fv, .slice a_fi fi.length c_fi, .slice a_fo n_fo c_fo]] w (Ret fun v w' => ∃ (a0 : Option Addr) (c0 : Nat), v = .agg #[.int .i64 (fi.length : Int), .slice a0 (poR fi).length c0] ∧ Ext w w' ∧ OwnsG M 91 w (poR fi) (.slice a0 (poR fi).length c0) w') := by
 refine enter 49 Tryd.func66 rfl rfl rfl fun f0 ha => ?_
 have H := HI.start (M0 := M) (w := w) hM
 have H0 := H.put (it := imm (.slice a_fi fi.length c_fi) fi) rfl (by rw [MS_nil]; exact h_fi)
 have ln_fi := rv_len h_fi
 have i0 : f0 0 = .agg #[.slice a_fv n_fv c_fv, .slice a_fi fi.length c_fi, .slice a_fo n_fo c_fo] := ha 0 (by simp)
 refine sq (rg (k (bx H0 rfl i0 ?_)))
 intro bb0 w0 xt0 (H1 : HI M w w0 [box bb0 #[.slice a_fv n_fv c_fv, .slice a_fi fi.length c_fi, .slice a_fo n_fo c_fo] 30, imm (.slice a_fi fi.length c_fi) fi])
 refine k (al H1 ty86 ?_)
 intro bb1 w1 xt1 (H2 : HI M w w1 [box bb1 #[iV 0, .slice none 0 0] 86, box bb0 #[.slice a_fv n_fv c_fv, .slice a_fi fi.length c_fi, .slice a_fo n_fo c_fo] 30, imm (.slice a_fi fi.length c_fi) fi])
 refine z (nx (sq (rg (k (fa fl30_1 rfl rfl (k (ldX H2 1 rfl ty27 rfl rfl (by decide) rfl (k (lnS rfl rfl un27 (k ?_))))))))))
 have cc0 := mat_New (n := (fi.length : Int)) (w := w1) H2.mb (by unfold I64 at *; omega)
 refine ca go60 rfl (ec rfl e0) cc0 ?_
 rintro _ w2 ⟨a0, c0, rfl, xt2, rv0⟩
 have H3 := H2.ownsG rv0
 refine k (mv (v := .tuple #[.agg #[iV (newMN (fi.length : Int)), .slice a0 (newMR (fi.length : Int)).length c0], iV (newME (fi.length : Int))]) rfl rfl (k (xt rfl rfl rfl (k (xt rfl rfl rfl (k (al H3 ty86 ?_)))))))
 intro bb2 w3 xt3 (H4 : HI M w w3 [box bb2 #[iV 0, .slice none 0 0] 86, own w.heap.size 91 (.slice a0 (newMR (fi.length : Int)).length c0) (newMR (fi.length : Int)), box bb1 #[iV 0, .slice none 0 0] 86, box bb0 #[.slice a_fv n_fv c_fv, .slice a_fi fi.length c_fi, .slice a_fo n_fo c_fo] 30, imm (.slice a_fi fi.length c_fi) fi])
 refine k (stX H4 0 rfl ty86 rfl rfl rfl rfl rfl rfl rfl ?_)
 intro w4 (H5 : HI M w w4 [box bb2 #[iV (newMN (fi.length : Int)), .slice a0 (newMR (fi.length : Int)).length c0] 86, own w.heap.size 91 (.slice a0 (newMR (fi.length : Int)).length c0) (newMR (fi.length : Int)), box bb1 #[iV 0, .slice none 0 0] 86, box bb0 #[.slice a_fv n_fv c_fv, .slice a_fi fi.length c_fi, .slice a_fo n_fo c_fo] 30, imm (.slice a_fi fi.length c_fi) fi])
 refine k (asg (v := iV (newME (fi.length : Int))) rfl rfl (z (nx (sq (sq ?_)))))
 have hok_ : okN (fi.length : Int) = true := okN_iff.2 (by omega)
 obtain ⟨en, er, -⟩ := newM_yes hok_
 refine rg (k (fa fl30_1 rfl rfl (k (ldX H5 3 rfl ty27 rfl rfl (by decide) rfl (k (lnS rfl rfl un27 (k (sub rfl rfl rfl rfl (by unfold I64 at *; omega) (k (asg (v := iV ((fi.length : Int) - 2)) rfl rfl (z (nx (bk ?_)))))))))))))
 refine lp (fun m f w' => ∃ (j : Nat) (xs : List (List (BitVec 64))), m = fi.length - j ∧ f 1 = pV bb0 0 ∧ f 2 = pV bb1 0 ∧ f 3 = pV bb2 0 ∧ f 5 = iV ((fi.length : Int) - 2 - (j : Int)) ∧  HI M w w' [box bb2 #[iV (newMN (fi.length : Int)), .slice a0 (newMR (fi.length : Int)).length c0] 86, own w.heap.size 91 (.slice a0 (newMR (fi.length : Int)).length c0) xs, box bb1 #[iV 0, .slice none 0 0] 86, box bb0 #[.slice a_fv n_fv c_fv, .slice a_fi fi.length c_fi, .slice a_fo n_fo c_fo] 30, imm (.slice a_fi fi.length c_fi) fi] ∧ (j ≤ fi.length) ∧ (xs.length = fi.length) ∧ (xs = poTo fi ((fi.length : Int) - 2 - (j : Int)))) _ ⟨0, (newMR (fi.length : Int)), rfl, rfl, rfl, rfl, (ieq rfl (by omega)), H5, (by first | assumption | omega | simp | (simp; omega)), (by rw [er, newM_length]; simp), (by rw [er]; exact poTo_start _ _ (by omega))⟩ ?_
 rintro _ f0 w5 ⟨j, xs, rfl, s0, s1, s2, s3, H6, hk, hl, hs⟩
 refine sq (sq (rg (k (mv rfl s3 (k (geq rfl rfl rfl rfl (z (nx ?_))))))))
 refine cd (b := decide (0 ≤ ((fi.length : Int) - 2 - (j : Int)))) rfl rfl (fun b0 => ?_) (fun b0 => ?_)
 ·
  have p0 := of_decide_eq_true b0
  refine sk (nx (sq (bk (sq ?_))))
  obtain ⟨x0, hx0⟩ : ∃ x, fi[((fi.length : Int) - 2 - (j : Int)).toNat]? = some x := ⟨_, List.getElem?_eq_getElem (by first | omega | (simp; omega))⟩
  obtain ⟨x1, hx1⟩ : ∃ x, fi[(((fi.length : Int) - 2 - (j : Int)) + 1).toNat]? = some x := ⟨_, List.getElem?_eq_getElem (by first | omega | (simp; omega))⟩
  refine dr 13 [eV (pV bb0 1), eV (.slice a_fi fi.length c_fi), eV (iV ((fi.length : Int) - 2 - (j : Int))), fun (v : Value) (w' : World) => ∃ (ad0 : Addr), v = .pointer (some ad0) ∧ At (MS M [box bb2 #[iV (newMN (fi.length : Int)), .slice a0 (newMR (fi.length : Int)).length c0] 86, own w.heap.size 91 (.slice a0 (newMR (fi.length : Int)).length c0) xs, box bb1 #[iV 0, .slice none 0 0] 86, box bb0 #[.slice a_fv n_fv c_fv, .slice a_fi fi.length c_fi, .slice a_fo n_fo c_fo] 30, imm (.slice a_fi fi.length c_fi) fi]) w' ad0 x0, fun (v : Value) (w' : World) => ∃ (ad0 : Addr), v = .pointer (some ((ad0).add 0)) ∧ At (MS M [box bb2 #[iV (newMN (fi.length : Int)), .slice a0 (newMR (fi.length : Int)).length c0] 86, own w.heap.size 91 (.slice a0 (newMR (fi.length : Int)).length c0) xs, box bb1 #[iV 0, .slice none 0 0] 86, box bb0 #[.slice a_fv n_fv c_fv, .slice a_fi fi.length c_fi, .slice a_fo n_fo c_fo] 30, imm (.slice a_fi fi.length c_fi) fi]) w' ad0 x0, fun (v : Value) (w' : World) => v = iV x0.1 ∧ I64 (x0.1), eV (pV bb0 1), eV (.slice a_fi fi.length c_fi), eV (iV ((fi.length : Int) - 2 - (j : Int))), eV (iV (((fi.length : Int) - 2 - (j : Int)) + 1)), fun (v : Value) (w' : World) => ∃ (ad1 : Addr), v = .pointer (some ad1) ∧ At (MS M [box bb2 #[iV (newMN (fi.length : Int)), .slice a0 (newMR (fi.length : Int)).length c0] 86, own w.heap.size 91 (.slice a0 (newMR (fi.length : Int)).length c0) xs, box bb1 #[iV 0, .slice none 0 0] 86, box bb0 #[.slice a_fv n_fv c_fv, .slice a_fi fi.length c_fi, .slice a_fo n_fo c_fo] 30, imm (.slice a_fi fi.length c_fi) fi]) w' ad1 x1, fun (v : Value) (w' : World) => ∃ (ad1 : Addr), v = .pointer (some ((ad1).add 0)) ∧ At (MS M [box bb2 #[iV (newMN (fi.length : Int)), .slice a0 (newMR (fi.length : Int)).length c0] 86, own w.heap.size 91 (.slice a0 (newMR (fi.length : Int)).length c0) xs, box bb1 #[iV 0, .slice none 0 0] 86, box bb0 #[.slice a_fv n_fv c_fv, .slice a_fi fi.length c_fi, .slice a_fo n_fo c_fo] 30, imm (.slice a_fi fi.length c_fi) fi]) w' ad1 x1, fun (v : Value) (w' : World) => v = iV x1.1 ∧ I64 (x1.1)] rfl (by kernel_rfl) ?_ ?_
  ·
   refine dc (fun _ _ hf0 _ _ => fa fl30_1 rfl ((hf0 1 rfl).trans s0) (d0 rfl rfl)) ?_
   refine dc (fun _ _ _ xt5 hp1 => ldX (H6.ext xt5) 3 rfl ty27 rfl (hp1 0 rfl rfl) (by decide) rfl (d0 rfl rfl)) ?_
   refine dc (fun _ _ hf2 _ _ => mv rfl ((hf2 5 rfl).trans s3) (d0 rfl rfl)) ?_
   refine ⟨fun _ => ⟨fun f4 w9 hf3 xt7 hp3 => ?_, by rintro _ _ _ x_ ⟨ad0, e_, hA0⟩; exact ⟨ad0, e_, hA0.lift (Up.ext x_)⟩⟩, ?_⟩
   ·
    have H10 := H6.ext xt7
    have s5 : f4 22 = .slice a_fi fi.length c_fi := hp3 1 rfl rfl
    have s6 : f4 23 = iV ((fi.length : Int) - 2 - (j : Int)) := hp3 2 rfl rfl
    refine ia (H10.rv 4 rfl) rfl rfl s5 s6 (by first | omega | (simp; omega)) un27 ty65 ?_
    intro ad2 x2 hx2 hA2
    obtain rfl : x0 = x2 := Option.some.inj (hx0.symm.trans hx2)
    exact ⟨_, rfl, Ext.refl _, ⟨ad2, rfl, hA2⟩⟩
   refine ⟨fun _ => ⟨fun f5 w10 hf4 xt8 hp4 => ?_, by rintro _ _ _ x_ ⟨ad0, e_, hA0⟩; exact ⟨ad0, e_, hA0.lift (Up.ext x_)⟩⟩, ?_⟩
   ·
    obtain ⟨ad3, s7, hA3⟩ : ∃ (ad3 : Addr), f5 24 = .pointer (some ad3) ∧ At (MS M [box bb2 #[iV (newMN (fi.length : Int)), .slice a0 (newMR (fi.length : Int)).length c0] 86, own w.heap.size 91 (.slice a0 (newMR (fi.length : Int)).length c0) xs, box bb1 #[iV 0, .slice none 0 0] 86, box bb0 #[.slice a_fv n_fv c_fv, .slice a_fi fi.length c_fi, .slice a_fo n_fo c_fo] 30, imm (.slice a_fi fi.length c_fi) fi]) w10 ad3 x0 := hp4 3 rfl rfl
    refine fa fl65_0 rfl s7 ?_
    exact ⟨_, rfl, Ext.refl _, ⟨ad3, rfl, (by assumption)⟩⟩
   refine dc (fun f6 w11 hf5 xt9 hp5 => ?_) ?_
   ·
    have H13 := H6.ext xt9
    obtain ⟨ad4, s8, hA4⟩ : ∃ (ad4 : Addr), f6 25 = .pointer (some ((ad4).add 0)) ∧ At (MS M [box bb2 #[iV (newMN (fi.length : Int)), .slice a0 (newMR (fi.length : Int)).length c0] 86, own w.heap.size 91 (.slice a0 (newMR (fi.length : Int)).length c0) xs, box bb1 #[iV 0, .slice none 0 0] 86, box bb0 #[.slice a_fv n_fv c_fv, .slice a_fi fi.length c_fi, .slice a_fo n_fo c_fo] 30, imm (.slice a_fi fi.length c_fi) fi]) w11 ad4 x0 := hp5 4 rfl rfl
    have H14 := H13.put (it := atI ad4 x0) rfl hA4
    refine ldI ((H14.atv 0 rfl)).fst.w ty3 rfl s8 ?_
    intro rv3
    exact ⟨_, rfl, Ext.refl _, ⟨rfl, rv3⟩⟩
   refine dc (fun _ _ hf6 _ _ => fa fl30_1 rfl ((hf6 1 rfl).trans s0) (d0 rfl rfl)) ?_
   refine dc (fun _ _ _ xt11 hp7 => ldX (H6.ext xt11) 3 rfl ty27 rfl (hp7 6 rfl rfl) (by decide) rfl (d0 rfl rfl)) ?_
   refine dc (fun _ _ hf8 _ _ => mv rfl ((hf8 5 rfl).trans s3) (d0 rfl rfl)) ?_
   refine dc (fun _ _ _ _ hp9 => add rfl rfl (hp9 8 rfl rfl) rfl (by unfold I64 at *; omega) (d0 rfl rfl)) ?_
   refine ⟨fun _ => ⟨fun f11 w16 hf10 xt14 hp10 => ?_, by rintro _ _ _ x_ ⟨ad1, e_, hA1⟩; exact ⟨ad1, e_, hA1.lift (Up.ext x_)⟩⟩, ?_⟩
   ·
    have H19 := H6.ext xt14
    have s11 : f11 28 = .slice a_fi fi.length c_fi := hp10 7 rfl rfl
    have s12 : f11 30 = iV (((fi.length : Int) - 2 - (j : Int)) + 1) := hp10 9 rfl rfl
    refine ia (H19.rv 4 rfl) rfl rfl s11 s12 (by first | omega | (simp; omega)) un27 ty65 ?_
    intro ad5 x3 hx3 hA5
    obtain rfl : x1 = x3 := Option.some.inj (hx1.symm.trans hx3)
    exact ⟨_, rfl, Ext.refl _, ⟨ad5, rfl, hA5⟩⟩
   refine ⟨fun _ => ⟨fun f12 w17 hf11 xt15 hp11 => ?_, by rintro _ _ _ x_ ⟨ad1, e_, hA1⟩; exact ⟨ad1, e_, hA1.lift (Up.ext x_)⟩⟩, ?_⟩
   ·
    obtain ⟨ad6, s13, hA6⟩ : ∃ (ad6 : Addr), f12 31 = .pointer (some ad6) ∧ At (MS M [box bb2 #[iV (newMN (fi.length : Int)), .slice a0 (newMR (fi.length : Int)).length c0] 86, own w.heap.size 91 (.slice a0 (newMR (fi.length : Int)).length c0) xs, box bb1 #[iV 0, .slice none 0 0] 86, box bb0 #[.slice a_fv n_fv c_fv, .slice a_fi fi.length c_fi, .slice a_fo n_fo c_fo] 30, imm (.slice a_fi fi.length c_fi) fi]) w17 ad6 x1 := hp11 10 rfl rfl
    refine fa fl65_0 rfl s13 ?_
    exact ⟨_, rfl, Ext.refl _, ⟨ad6, rfl, (by assumption)⟩⟩
   refine dc (fun f13 w18 hf12 xt16 hp12 => ?_) ?_
   ·
    have H22 := H6.ext xt16
    obtain ⟨ad7, s14, hA7⟩ : ∃ (ad7 : Addr), f13 32 = .pointer (some ((ad7).add 0)) ∧ At (MS M [box bb2 #[iV (newMN (fi.length : Int)), .slice a0 (newMR (fi.length : Int)).length c0] 86, own w.heap.size 91 (.slice a0 (newMR (fi.length : Int)).length c0) xs, box bb1 #[iV 0, .slice none 0 0] 86, box bb0 #[.slice a_fv n_fv c_fv, .slice a_fi fi.length c_fi, .slice a_fo n_fo c_fo] 30, imm (.slice a_fi fi.length c_fi) fi]) w18 ad7 x1 := hp12 11 rfl rfl
    have H23 := H22.put (it := atI ad7 x1) rfl hA7
    refine ldI ((H23.atv 0 rfl)).fst.w ty3 rfl s14 ?_
    intro rv4
    exact ⟨_, rfl, Ext.refl _, ⟨rfl, rv4⟩⟩
   exact DSteps.rest rfl _
  ·
   intro f14 w19 hf13 xt17 hp13
   have H24 := H6.ext xt17
   have s15 : f14 1 = pV bb0 0 := (hf13 1 rfl).trans s0
   have s16 : f14 2 = pV bb1 0 := (hf13 2 rfl).trans s1
   have s17 : f14 3 = pV bb2 0 := (hf13 3 rfl).trans s2
   have s18 : f14 5 = iV ((fi.length : Int) - 2 - (j : Int)) := (hf13 5 rfl).trans s3
   obtain ⟨s19, rv5⟩ : f14 26 = iV x0.1 ∧ I64 (x0.1) := hp13 5 rfl
   obtain ⟨s20, rv6⟩ : f14 33 = iV x1.1 ∧ I64 (x1.1) := hp13 12 rfl
   refine k (eql rfl rfl s19 s20 (z (nx ?_)))
   refine cd (b := decide (x0.1 = x1.1)) rfl rfl (fun b1 => ?_) (fun b1 => ?_)
   ·
    have p1 := of_decide_eq_true b1
    obtain ⟨x4, hx4⟩ : ∃ x, xs[(((fi.length : Int) - 2 - (j : Int)) + 1).toNat]? = some x := ⟨_, List.getElem?_eq_getElem (by first | omega | (simp; omega))⟩
    refine dr 12 [eV (pV bb2 1), eV (.slice a0 (newMR (fi.length : Int)).length c0), eV (iV ((fi.length : Int) - 2 - (j : Int))), eV (pV bb2 1), eV (.slice a0 (newMR (fi.length : Int)).length c0), eV (iV ((fi.length : Int) - 2 - (j : Int))), eV (iV (((fi.length : Int) - 2 - (j : Int)) + 1)), fun (v : Value) (w' : World) => ∃ (g0 : Nat), v = .pointer (some ⟨g0, (((fi.length : Int) - 2 - (j : Int)) + 1).toNat * 1, none⟩) ∧ (.slice a0 (newMR (fi.length : Int)).length c0 : Value).ownBlock = some g0 ∧ AtW (MS M [box bb2 #[iV (newMN (fi.length : Int)), .slice a0 (newMR (fi.length : Int)).length c0] 86, own w.heap.size 91 (.slice a0 (newMR (fi.length : Int)).length c0) xs, box bb1 #[iV 0, .slice none 0 0] 86, box bb0 #[.slice a_fv n_fv c_fv, .slice a_fi fi.length c_fi, .slice a_fo n_fo c_fo] 30, imm (.slice a_fi fi.length c_fi) fi]) w' ⟨g0, (((fi.length : Int) - 2 - (j : Int)) + 1).toNat * 1, none⟩ x4, fun (v : Value) (w' : World) => ∃ (a1 : Option Addr) (c1 : Nat), v = .slice a1 x4.length c1 ∧ RV (MS M [box bb2 #[iV (newMN (fi.length : Int)), .slice a0 (newMR (fi.length : Int)).length c0] 86, own w.heap.size 91 (.slice a0 (newMR (fi.length : Int)).length c0) xs, box bb1 #[iV 0, .slice none 0 0] 86, box bb0 #[.slice a_fv n_fv c_fv, .slice a_fi fi.length c_fi, .slice a_fo n_fo c_fo] 30, imm (.slice a_fi fi.length c_fi) fi]) w' (.slice a1 x4.length c1) x4, eV (iV ((fi.length : Int) - 2 - (j : Int))), eV (iV (((fi.length : Int) - 2 - (j : Int)) + 1)), fun (v : Value) (w' : World) => ∃ (a2 : Option Addr) (c2 : Nat), v = .slice a2 (setR x4 (((fi.length : Int) - 2 - (j : Int)) + 1)).length c2 ∧ RV (MS M [box bb2 #[iV (newMN (fi.length : Int)), .slice a0 (newMR (fi.length : Int)).length c0] 86, own w.heap.size 91 (.slice a0 (newMR (fi.length : Int)).length c0) xs, box bb1 #[iV 0, .slice none 0 0] 86, box bb0 #[.slice a_fv n_fv c_fv, .slice a_fi fi.length c_fi, .slice a_fo n_fo c_fo] 30, imm (.slice a_fi fi.length c_fi) fi]) w' (.slice a2 (setR x4 (((fi.length : Int) - 2 - (j : Int)) + 1)).length c2) (setR x4 (((fi.length : Int) - 2 - (j : Int)) + 1))] rfl (by kernel_rfl) ?_ ?_
    ·
     refine dc (fun _ _ hf14 _ _ => fa fl86_1 rfl ((hf14 3 rfl).trans s17) (d0 rfl rfl)) ?_
     refine dc (fun _ _ _ xt20 hp15 => ldX (H24.ext xt20) 0 rfl ty84 rfl (hp15 0 rfl rfl) (by decide) rfl (d0 rfl rfl)) ?_
     refine dc (fun _ _ hf16 _ _ => mv rfl ((hf16 5 rfl).trans s18) (d0 rfl rfl)) ?_
     refine dc (fun _ _ hf17 _ _ => fa fl86_1 rfl ((hf17 3 rfl).trans s17) (d0 rfl rfl)) ?_
     refine dc (fun _ _ _ xt23 hp18 => ldX (H24.ext xt23) 0 rfl ty84 rfl (hp18 3 rfl rfl) (by decide) rfl (d0 rfl rfl)) ?_
     refine dc (fun _ _ hf19 _ _ => mv rfl ((hf19 5 rfl).trans s18) (d0 rfl rfl)) ?_
     refine dc (fun _ _ _ _ hp20 => add rfl rfl (hp20 5 rfl rfl) rfl (by unfold I64 at *; omega) (d0 rfl rfl)) ?_
     refine ⟨fun _ => ⟨fun f22 w28 hf21 xt26 hp21 => ?_, by rintro _ _ _ x_ ⟨g0, e_, hv0, hA8⟩; exact ⟨g0, e_, hv0, hA8.ext x_⟩⟩, ?_⟩
     ·
      have H35 := H24.ext xt26
      have s24 : f22 39 = .slice a0 (newMR (fi.length : Int)).length c0 := hp21 4 rfl rfl
      have s25 : f22 41 = iV (((fi.length : Int) - 2 - (j : Int)) + 1) := hp21 6 rfl rfl
      refine iaO (H35.at_ 1 rfl) rfl rfl s24 s25 (by first | omega | (simp; omega)) un84 ty91 ?_
      intro g1 x5 hv1 hx5 hA9
      obtain rfl : x4 = x5 := Option.some.inj (hx4.symm.trans hx5)
      exact ⟨_, rfl, Ext.refl _, ⟨g1, rfl, hv1, hA9⟩⟩
     refine ⟨fun _ => ⟨fun f23 w29 hf22 xt27 hp22 => ?_, by rintro _ _ _ x_ ⟨a1, c1, e_, rv7⟩; exact ⟨a1, c1, e_, rv7.lift (Up.ext x_)⟩⟩, ?_⟩
     ·
      obtain ⟨g2, s26, hv2, hA10⟩ : ∃ (g2 : Nat), f23 42 = .pointer (some ⟨g2, (((fi.length : Int) - 2 - (j : Int)) + 1).toNat * 1, none⟩) ∧ (.slice a0 (newMR (fi.length : Int)).length c0 : Value).ownBlock = some g2 ∧ AtW (MS M [box bb2 #[iV (newMN (fi.length : Int)), .slice a0 (newMR (fi.length : Int)).length c0] 86, own w.heap.size 91 (.slice a0 (newMR (fi.length : Int)).length c0) xs, box bb1 #[iV 0, .slice none 0 0] 86, box bb0 #[.slice a_fv n_fv c_fv, .slice a_fi fi.length c_fi, .slice a_fo n_fo c_fo] 30, imm (.slice a_fi fi.length c_fi) fi]) w29 ⟨g2, (((fi.length : Int) - 2 - (j : Int)) + 1).toNat * 1, none⟩ x4 := hp22 7 rfl rfl
      refine ldL hA10 ty91 rfl s26 ?_
      intro a3 c3 rv10
      have ln1 := rv_len rv10
      exact ⟨_, rfl, Ext.refl _, ⟨a3, c3, rfl, rv10⟩⟩
     refine dc (fun _ _ hf23 _ _ => mv rfl ((hf23 5 rfl).trans s18) (d0 rfl rfl)) ?_
     refine dc (fun _ _ _ _ hp24 => add rfl rfl (hp24 9 rfl rfl) rfl (by unfold I64 at *; omega) (d0 rfl rfl)) ?_
     refine ⟨fun _ => ⟨fun f26 w32 hf25 xt30 hp25 => ?_, by rintro _ _ _ x_ ⟨a2, c2, e_, rv9⟩; exact ⟨a2, c2, e_, rv9.lift (Up.ext x_)⟩⟩, ?_⟩
     ·
      have H40 := H24.ext xt30
      obtain ⟨a4, c4, s28, rv11⟩ : ∃ (a4 : Option Addr) (c4 : Nat), f26 43 = .slice a4 x4.length c4 ∧ RV (MS M [box bb2 #[iV (newMN (fi.length : Int)), .slice a0 (newMR (fi.length : Int)).length c0] 86, own w.heap.size 91 (.slice a0 (newMR (fi.length : Int)).length c0) xs, box bb1 #[iV 0, .slice none 0 0] 86, box bb0 #[.slice a_fv n_fv c_fv, .slice a_fi fi.length c_fi, .slice a_fo n_fo c_fo] 30, imm (.slice a_fi fi.length c_fi) fi]) w32 (.slice a4 x4.length c4) x4 := hp25 8 rfl rfl
      have H41 := H40.put (it := imm (.slice a4 x4.length c4) x4) rfl rv11
      have s29 : f26 45 = iV (((fi.length : Int) - 2 - (j : Int)) + 1) := hp25 10 rfl rfl
      have cc2 := row_Set (r := x4) (i := (((fi.length : Int) - 2 - (j : Int)) + 1)) (w := w32) H41.mb (H41.rv 0 rfl) (by unfold I64 at *; omega) (by first | (have h_ := poTo_row (hs ▸ hx2); have h2_ := words_small (n := fi.length) (by omega); omega) | (have h_ := poTo_row (hs ▸ hx3); have h2_ := words_small (n := fi.length) (by omega); omega) | (have h_ := poTo_row (hs ▸ hx4); have h2_ := words_small (n := fi.length) (by omega); omega) | (have h_ := poTo_row (hs ▸ hx5); have h2_ := words_small (n := fi.length) (by omega); omega) | (have h_ := poTo_row (hs ▸ hx6); have h2_ := words_small (n := fi.length) (by omega); omega) | (have h_ := poTo_row (hs ▸ hx7); have h2_ := words_small (n := fi.length) (by omega); omega))
      refine ca go52 rfl (ec s28 (ec s29 e0)) cc2 ?_
      rintro _ w33 ⟨a5, c5, rfl, xt31, rv12⟩
      have rv13 := OwnsG.rv rv12 H41.mb
      exact ⟨_, rfl, xt31, ⟨a5, c5, rfl, (rv_drop rfl rv13)⟩⟩
     exact DSteps.rest rfl _
    ·
     intro f27 w34 hf26 xt32 hp26
     have H44 := H24.ext xt32
     have s30 : f27 1 = pV bb0 0 := (hf26 1 rfl).trans s15
     have s31 : f27 2 = pV bb1 0 := (hf26 2 rfl).trans s16
     have s32 : f27 3 = pV bb2 0 := (hf26 3 rfl).trans s17
     have s33 : f27 5 = iV ((fi.length : Int) - 2 - (j : Int)) := (hf26 5 rfl).trans s18
     have s34 : f27 36 = .slice a0 (newMR (fi.length : Int)).length c0 := hp26 1 rfl
     have s35 : f27 37 = iV ((fi.length : Int) - 2 - (j : Int)) := hp26 2 rfl
     obtain ⟨a6, c6, s36, rv14⟩ : ∃ (a6 : Option Addr) (c6 : Nat), f27 46 = .slice a6 (setR x4 (((fi.length : Int) - 2 - (j : Int)) + 1)).length c6 ∧ RV (MS M [box bb2 #[iV (newMN (fi.length : Int)), .slice a0 (newMR (fi.length : Int)).length c0] 86, own w.heap.size 91 (.slice a0 (newMR (fi.length : Int)).length c0) xs, box bb1 #[iV 0, .slice none 0 0] 86, box bb0 #[.slice a_fv n_fv c_fv, .slice a_fi fi.length c_fi, .slice a_fo n_fo c_fo] 30, imm (.slice a_fi fi.length c_fi) fi]) w34 (.slice a6 (setR x4 (((fi.length : Int) - 2 - (j : Int)) + 1)).length c6) (setR x4 (((fi.length : Int) - 2 - (j : Int)) + 1)) := hp26 11 rfl
     have H45 := H44.put (it := imm (.slice a6 (setR x4 (((fi.length : Int) - 2 - (j : Int)) + 1)).length c6) (setR x4 (((fi.length : Int) - 2 - (j : Int)) + 1))) rfl rv14
     refine k (iaO (H45.at_ 2 rfl) rfl rfl s34 s35 (by first | omega | (simp; omega)) un84 ty91 ?_)
     intro g3 x6 hv3 hx6 hA11
     refine k (stO H45 2 rfl hv3 rfl (by first | omega | (simp; omega)) ty91 rfl rfl rfl s36 (H45.rv 0 rfl) ?_)
     intro w35 (H46 : HI M w w35 [imm (.slice a6 (setR x4 (((fi.length : Int) - 2 - (j : Int)) + 1)).length c6) (setR x4 (((fi.length : Int) - 2 - (j : Int)) + 1)), box bb2 #[iV (newMN (fi.length : Int)), .slice a0 (newMR (fi.length : Int)).length c0] 86, own w.heap.size 91 (.slice a0 (newMR (fi.length : Int)).length c0) (xs.set (((fi.length : Int) - 2 - (j : Int)).toNat) (setR x4 (((fi.length : Int) - 2 - (j : Int)) + 1))), box bb1 #[iV 0, .slice none 0 0] 86, box bb0 #[.slice a_fv n_fv c_fv, .slice a_fi fi.length c_fi, .slice a_fo n_fo c_fo] 30, imm (.slice a_fi fi.length c_fi) fi])
     refine z (inb_normal (nx (rg (k (mv rfl s33 (k (sub rfl rfl rfl rfl (by unfold I64 at *; omega) (k (asg (v := iV (((fi.length : Int) - 2 - (j : Int)) - 1)) rfl rfl (z ?_))))))))))
     have H47 : HI M w w35 [box bb2 #[iV (newMN (fi.length : Int)), .slice a0 (newMR (fi.length : Int)).length c0] 86, own w.heap.size 91 (.slice a0 (newMR (fi.length : Int)).length c0) (xs.set (((fi.length : Int) - 2 - (j : Int)).toNat) (setR x4 (((fi.length : Int) - 2 - (j : Int)) + 1))), box bb1 #[iV 0, .slice none 0 0] 86, box bb0 #[.slice a_fv n_fv c_fv, .slice a_fi fi.length c_fi, .slice a_fo n_fo c_fo] 30, imm (.slice a_fi fi.length c_fi) fi] := H46.pickN [1, 2, 3, 4, 5] (by decide) rfl
     refine loopN _ ?_ ⟨(j + 1), (xs.set (((fi.length : Int) - 2 - (j : Int)).toNat) (setR x4 (((fi.length : Int) - 2 - (j : Int)) + 1))), rfl, s30, s31, s32, (ieq rfl (by omega)), H47, (by first | assumption | omega | simp | (simp; omega)), (by first | assumption | simpa using hl), (by rw [show ((fi.length : Int) - 2 - (((j + 1 : Nat) : Nat) : Int)) = ((fi.length : Int) - 2 - (j : Int)) - 1 from by omega]; first | ((have h_ := poTo_same (t := ((fi.length : Int) - 2 - (j : Int))) (by omega) (by omega) (by rw [ses_atI hx0, ses_atI hx1]; exact p1) (hs ▸ hx2); rw [← h_, ← hs])) | ((have h_ := poTo_same (t := ((fi.length : Int) - 2 - (j : Int))) (by omega) (by omega) (by rw [ses_atI hx0, ses_atI hx1]; exact p1) (hs ▸ hx3); rw [← h_, ← hs])) | ((have h_ := poTo_same (t := ((fi.length : Int) - 2 - (j : Int))) (by omega) (by omega) (by rw [ses_atI hx0, ses_atI hx1]; exact p1) (hs ▸ hx4); rw [← h_, ← hs])) | ((have h_ := poTo_same (t := ((fi.length : Int) - 2 - (j : Int))) (by omega) (by omega) (by rw [ses_atI hx0, ses_atI hx1]; exact p1) (hs ▸ hx5); rw [← h_, ← hs])) | ((have h_ := poTo_same (t := ((fi.length : Int) - 2 - (j : Int))) (by omega) (by omega) (by rw [ses_atI hx0, ses_atI hx1]; exact p1) (hs ▸ hx6); rw [← h_, ← hs])) | ((have h_ := poTo_same (t := ((fi.length : Int) - 2 - (j : Int))) (by omega) (by omega) (by rw [ses_atI hx0, ses_atI hx1]; exact p1) (hs ▸ hx7); rw [← h_, ← hs])) | (rw [hs]; exact poTo_other ho (by omega) (by omega) (by rw [ses_atI hx0, ses_atI hx1]; exact p1)))⟩
     omega
   ·
    have p1 := of_decide_eq_false b1
    refine sk (inb_normal (nx (rg (k (mv rfl s18 (k (sub rfl rfl rfl rfl (by unfold I64 at *; omega) (k (asg (v := iV (((fi.length : Int) - 2 - (j : Int)) - 1)) rfl rfl (z ?_))))))))))
    refine loopN _ ?_ ⟨(j + 1), xs, rfl, s15, s16, s17, (ieq rfl (by omega)), H24, (by first | assumption | omega | simp | (simp; omega)), (by first | assumption | simpa using hl), (by rw [show ((fi.length : Int) - 2 - (((j + 1 : Nat) : Nat) : Int)) = ((fi.length : Int) - 2 - (j : Int)) - 1 from by omega]; first | ((have h_ := poTo_same (t := ((fi.length : Int) - 2 - (j : Int))) (by omega) (by omega) (by rw [ses_atI hx0, ses_atI hx1]; exact p1) (hs ▸ hx2); rw [← h_, ← hs])) | ((have h_ := poTo_same (t := ((fi.length : Int) - 2 - (j : Int))) (by omega) (by omega) (by rw [ses_atI hx0, ses_atI hx1]; exact p1) (hs ▸ hx3); rw [← h_, ← hs])) | ((have h_ := poTo_same (t := ((fi.length : Int) - 2 - (j : Int))) (by omega) (by omega) (by rw [ses_atI hx0, ses_atI hx1]; exact p1) (hs ▸ hx4); rw [← h_, ← hs])) | ((have h_ := poTo_same (t := ((fi.length : Int) - 2 - (j : Int))) (by omega) (by omega) (by rw [ses_atI hx0, ses_atI hx1]; exact p1) (hs ▸ hx5); rw [← h_, ← hs])) | ((have h_ := poTo_same (t := ((fi.length : Int) - 2 - (j : Int))) (by omega) (by omega) (by rw [ses_atI hx0, ses_atI hx1]; exact p1) (hs ▸ hx6); rw [← h_, ← hs])) | ((have h_ := poTo_same (t := ((fi.length : Int) - 2 - (j : Int))) (by omega) (by omega) (by rw [ses_atI hx0, ses_atI hx1]; exact p1) (hs ▸ hx7); rw [← h_, ← hs])) | (rw [hs]; exact poTo_other ho (by omega) (by omega) (by rw [ses_atI hx0, ses_atI hx1]; exact p1)))⟩
    omega
 ·
  have p0 := of_decide_eq_false b0
  refine ex (then_exit (loop_exit (inb_here (nx (sq (rg (k (ldX H6 0 rfl ty86 rfl s2 (by decide) rfl (k (stX H6 2 rfl ty86 rfl rfl s1 rfl rfl rfl rfl ?_))))))))))
  intro w6 (H7 : HI M w w6 [box bb2 #[iV (newMN (fi.length : Int)), .slice a0 (newMR (fi.length : Int)).length c0] 86, own w.heap.size 91 (.slice a0 (newMR (fi.length : Int)).length c0) xs, box bb1 #[iV (newMN (fi.length : Int)), .slice a0 (newMR (fi.length : Int)).length c0] 86, box bb0 #[.slice a_fv n_fv c_fv, .slice a_fi fi.length c_fi, .slice a_fo n_fo c_fo] 30, imm (.slice a_fi fi.length c_fi) fi])
  refine z (nx (rt (rc1 H7 2 rfl ty86 rfl rfl s1 rfl (by decide) ?_)))
  have e0 : (newMN (fi.length : Int) : Int) = (fi.length : Int) := by rw [en]
  have e1 : (xs : List (List (BitVec 64))) = poR fi := by rw [hs]; exact poTo_end (by omega)
  have l1 : (newMR (fi.length : Int)).length = (poR fi).length := by first | (rw [← e1]; omega) | (rw [poR_len]; omega) | (rw [er, newM_length, poR_len]; simp)
  have ev_ := cg2 (fun (x_0 : Int) (n_1 : Nat) => (.agg #[iV x_0, .slice a0 n_1 c0] : Value)) e0 l1
  exact ⟨a0, c0, ev_, H7.below, (congrArg (fun (n_ : Nat) => OwnsG _ _ _ (poR fi) (.slice a0 n_ c0) _) l1).mp ((congrArg (fun (x_ : List (List (BitVec 64))) => OwnsG _ _ _ x_ (.slice a0 (newMR (fi.length : Int)).length c0) _) e1).mp (H7.ownsG_out 1 rfl))⟩
set_option maxRecDepth 100000 in
set_option maxHeartbeats 1600000 in
theorem session_Past {M : Nat → Prop} {w : World} {a_fv : Option Addr} {n_fv c_fv : Nat} {a_fi : Option Addr} {c_fi : Nat} {fi : List (Int × Int × Bool × Int × Int)} {a_fo : Option Addr} {n_fo c_fo : Nat} {tt : Int} (hM : ∀ b, M b → b < w.heap.size) (h_fi : RV M w (.slice a_fi fi.length c_fi) fi) (h_tt : I64 tt) (ho : OrdI fi) (hn_fi : fi.length ≤ 4096) : Calls Tryd.prog 44 #[.agg #[.slice a_fv n_fv c_fv, .slice a_fi fi.length c_fi, .slice a_fo n_fo c_fo], .int .i64 tt] w (Ret fun v w' => ∃ (a0 : Option Addr) (c0 : Nat), v = .slice a0 (pastA fi tt).length c0 ∧ Ext w w' ∧ OwnsG M 3 w (pastA fi tt) (.slice a0 (pastA fi tt).length c0) w') := by
 refine enter 41 Tryd.func44 rfl rfl rfl fun f0 ha => ?_
 have H := HI.start (M0 := M) (w := w) hM
 have H0 := H.put (it := imm (.slice a_fi fi.length c_fi) fi) rfl (by rw [MS_nil]; exact h_fi)
 have ln_fi := rv_len h_fi
 have i0 : f0 0 = .agg #[.slice a_fv n_fv c_fv, .slice a_fi fi.length c_fi, .slice a_fo n_fo c_fo] := ha 0 (by simp)
 have i1 : f0 1 = iV tt := ha 1 (by simp)
 refine sq (rg (k (bx H0 rfl i0 ?_)))
 intro bb0 w0 xt0 (H1 : HI M w w0 [box bb0 #[.slice a_fv n_fv c_fv, .slice a_fi fi.length c_fi, .slice a_fo n_fo c_fo] 30, imm (.slice a_fi fi.length c_fi) fi])
 refine k (asg (v := .slice none 0 0) rfl rfl (z (nx (sq (sq (rg (k (mv rfl i1 (k (lss rfl rfl rfl rfl (k (mv (v := .bool (decide (tt < 0))) rfl rfl ?_))))))))))))
 rcases Bool.eq_false_or_eq_true (decide (tt < 0)) with b0 | b0
 · -- decide (tt < 0) is True
  have p0 := of_decide_eq_true b0
  refine k (gn rfl rfl rfl b0 (k (gn rfl rfl rfl b0 (k (gn rfl rfl rfl b0 (k (gn rfl rfl rfl b0 (k (gn rfl rfl rfl b0 (k (pickT rfl rfl rfl rfl b0 rfl (z (nx (cdT rfl rfl rfl (sq (rg (k (asg (v := .slice none 0 0) rfl rfl (z (nx (rt (then_ret (r1 rfl rfl ?_)))))))))))))))))))))))
  have e0 : ([] : List Int) = pastA fi tt := by first | exact pastA_no (by omega) | (rw [hs]; exact pastA_yes (by omega) (by omega) hx0 hp0_ (by omega))
  have ev_ := cg1 (fun (x_0 : List Int) => (.slice none x_0.length 0 : Value)) e0
  exact ⟨none, 0, ev_, H1.below, (congrArg (fun (x_ : List Int) => OwnsG _ _ _ x_ (.slice none x_.length 0) _) e0).mp (ownsG_nil H1.below)⟩
 · -- decide (tt < 0) is False
  have p0 := of_decide_eq_false b0
  refine k (gy rfl rfl rfl b0 (mv rfl i1 (k (gy rfl rfl rfl b0 (fa fl30_1 rfl rfl (k (gy rfl rfl rfl b0 (ldX H1 0 rfl ty27 rfl rfl (by decide) rfl (k (gy rfl rfl rfl b0 (lnS rfl rfl un27 (k (gy rfl rfl rfl b0 (geq rfl rfl rfl rfl (k (pickF rfl rfl rfl rfl b0 rfl (z (nx ?_))))))))))))))))))
  refine cd (b := decide ((fi.length : Int) ≤ tt)) rfl rfl (fun b1 => ?_) (fun b1 => ?_)
  ·
   have p1 := of_decide_eq_true b1
   refine sq (rg (k (asg (v := .slice none 0 0) rfl rfl (z (nx (rt (then_ret (r1 rfl rfl ?_))))))))
   have e0 : ([] : List Int) = pastA fi tt := by first | exact pastA_no (by omega) | (rw [hs]; exact pastA_yes (by omega) (by omega) hx0 hp0_ (by omega))
   have ev_ := cg1 (fun (x_0 : List Int) => (.slice none x_0.length 0 : Value)) e0
   exact ⟨none, 0, ev_, H1.below, (congrArg (fun (x_ : List Int) => OwnsG _ _ _ x_ (.slice none x_.length 0) _) e0).mp (ownsG_nil H1.below)⟩
  ·
   have p1 := of_decide_eq_false b1
   refine sk (nx (sq (rg (k (mv rfl i1 (k (fa fl30_1 rfl rfl (k (ldX H1 0 rfl ty27 rfl rfl (by decide) rfl (k (mv rfl i1 (k (ia (H1.rv 1 rfl) rfl rfl rfl rfl (by first | omega | (simp; omega)) un27 ty65 ?_)))))))))))))
   intro ad0 x0 hx0 hA0
   refine k (fa fl65_1 rfl rfl (k (ldI ((hA0).s1).fst.w ty3 rfl rfl ?_)))
   intro rv0
   refine k (sub rfl rfl rfl rfl (by have hp0_ := ho.nonneg tt.toNat (by omega); have hp1_ := (ho.back tt.toNat (by omega)).1; rw [plc_atI hx0] at hp0_ hp1_; unfold I64; omega) (k (asg (v := iV (tt - x0.2.1)) rfl rfl (z (nx (sq ?_))))))
   have hp0_ := ho.nonneg tt.toNat (by omega)
   have hp1_ := (ho.back tt.toNat (by omega)).1
   rw [plc_atI hx0] at hp0_ hp1_
   refine rg (k (mv rfl i1 (k (mv (v := iV (tt - x0.2.1)) rfl rfl (k (sub rfl rfl rfl rfl (by unfold I64 at *; omega) (k (add rfl rfl rfl rfl (by unfold I64 at *; omega) (k ?_)))))))))
   have n0 : ((((tt - (tt - x0.2.1)) + 1).toNat : Nat) : Int) = (tt - (tt - x0.2.1)) + 1 := Int.toNat_of_nonneg (by omega)
   refine mk0 (α := Int) (m := ((tt - (tt - x0.2.1)) + 1).toNat) H1 rfl rfl rfl (by rw [n0]; exact rfl) un28 ty3 (by omega) (by omega) ?_
   intro g0 w1 xt1 (H2 : HI M w w1 [own w.heap.size 3 (.slice (some ⟨g0, 0, none⟩) 0 (((tt - (tt - x0.2.1)) + 1).toNat)) ([] : List Int), box bb0 #[.slice a_fv n_fv c_fv, .slice a_fi fi.length c_fi, .slice a_fo n_fo c_fo] 30, imm (.slice a_fi fi.length c_fi) fi])
   refine k (asg (v := .slice (some ⟨g0, 0, none⟩) 0 (((tt - (tt - x0.2.1)) + 1).toNat)) rfl rfl (z (nx (sq (sq (rg (k (mv (v := iV (tt - x0.2.1)) rfl rfl (k (asg (v := iV (tt - x0.2.1)) rfl rfl (z (nx (bk ?_)))))))))))))
   refine lp (fun m f w' => ∃ (q : Nat) (xs : List Int) (a0 : Option Addr) (c0 : Nat), m = (x0.2.1 + 1).toNat - q ∧ f 1 = iV tt ∧ f 6 = .slice a0 xs.length c0 ∧ f 7 = iV (tt - x0.2.1 + (q : Int)) ∧  HI M w w' [own w.heap.size 3 (.slice a0 xs.length c0) xs, box bb0 #[.slice a_fv n_fv c_fv, .slice a_fi fi.length c_fi, .slice a_fo n_fo c_fo] 30, imm (.slice a_fi fi.length c_fi) fi] ∧ ((q : Int) ≤ x0.2.1 + 1) ∧ (xs = pastTo (tt - x0.2.1) q)) _ ⟨0, ([] : List Int), (some ⟨g0, 0, none⟩), (((tt - (tt - x0.2.1)) + 1).toNat), rfl, i1, rfl, (ieq rfl (by omega)), H2, (by omega), (by rfl)⟩ ?_
   rintro _ f0 w2 ⟨q, xs, a0, c0, rfl, s0, s1, s2, H3, hq_, hs⟩
   refine sq (sq (rg (k (mv rfl s2 (k (mv rfl s0 (k (leq rfl rfl rfl rfl (z (nx ?_))))))))))
   refine cd (b := decide ((tt - x0.2.1 + (q : Int)) ≤ tt)) rfl rfl (fun b2 => ?_) (fun b2 => ?_)
   ·
    have p2 := of_decide_eq_true b2
    refine sk (nx (sq (bk (rg (k (mv rfl s1 (k (mv rfl s2 (k (bs (xs := ([(tt - x0.2.1 + (q : Int))] : List Int)) (cells := #[iV (tt - x0.2.1 + (q : Int))]) (e := 3) H3 rfl (pbc rfl pb0) (fun _ => by kernel_rfl) ⟨[iV (tt - x0.2.1 + (q : Int))], [], rfl, ⟨rfl, (show I64 ((tt - x0.2.1 + (q : Int))) from (by unfold I64 at *; omega))⟩, rfl⟩ rfl (by unfold maxLen; omega) ?_))))))))))
    intro g1 w3 xt2 H4
    refine k (ap H4 1 rfl rfl rfl rfl rfl rfl (own_src (H4.at_ 0 rfl)) un28 ty3 rfl (by rw [hs, pastTo_len]; simp only [List.length_cons, List.length_nil]; omega) (by rw [hs, pastTo_len]; simp only [List.length_cons, List.length_nil]; omega) ?_)
    intro a1 c1 w4 (H5 : HI M w w4 [own w.heap.size 3 (.slice (some ⟨g1, 0, none⟩) 1 1) ([(tt - x0.2.1 + (q : Int))] : List Int), own w.heap.size 3 (.slice a1 (xs ++ ([(tt - x0.2.1 + (q : Int))] : List Int)).length c1) (xs ++ ([(tt - x0.2.1 + (q : Int))] : List Int)), box bb0 #[.slice a_fv n_fv c_fv, .slice a_fi fi.length c_fi, .slice a_fo n_fo c_fo] 30, imm (.slice a_fi fi.length c_fi) fi])
    refine k (asg (v := .slice a1 (xs ++ ([(tt - x0.2.1 + (q : Int))] : List Int)).length c1) rfl rfl (z (inb_normal (nx (rg (k (mv rfl s2 (k (add rfl rfl rfl rfl (by unfold I64 at *; omega) (k (asg (v := iV ((tt - x0.2.1 + (q : Int)) + 1)) rfl rfl (z ?_))))))))))))
    have H6 : HI M w w4 [own w.heap.size 3 (.slice a1 (xs ++ ([(tt - x0.2.1 + (q : Int))] : List Int)).length c1) (xs ++ ([(tt - x0.2.1 + (q : Int))] : List Int)), box bb0 #[.slice a_fv n_fv c_fv, .slice a_fi fi.length c_fi, .slice a_fo n_fo c_fo] 30, imm (.slice a_fi fi.length c_fi) fi] := H5.pickN [1, 2, 3] (by decide) rfl
    refine loopN _ ?_ ⟨(q + 1), (xs ++ ([(tt - x0.2.1 + (q : Int))] : List Int)), a1, c1, rfl, s0, rfl, (ieq rfl (by omega)), H6, (by first | assumption | omega | simp | (simp; omega)), (by rw [hs]; exact pastTo_step _ _)⟩
    omega
   ·
    have p2 := of_decide_eq_false b2
    refine ex (then_exit (loop_exit (inb_here (nx (sq (rg (k (mv rfl s1 (k (asg (v := .slice a0 xs.length c0) rfl rfl (z (nx (rt (r1 rfl rfl ?_))))))))))))))
    have e0 : (xs : List Int) = pastA fi tt := by first | exact pastA_no (by omega) | (rw [hs]; exact pastA_yes (by omega) (by omega) hx0 hp0_ (by omega))
    have ev_ := cg1 (fun (x_0 : List Int) => (.slice a0 x_0.length c0 : Value)) e0
    exact ⟨a0, c0, ev_, H3.below, (congrArg (fun (x_ : List Int) => OwnsG _ _ _ x_ (.slice a0 x_.length c0) _) e0).mp (H3.ownsG_out 0 rfl)⟩
end Go.Proofs.YtefcbihikknlkaaDoor
namespace Go.Proofs.YtefcbihikknlkaaDoor
open Go.Ew Go.RowKit
set_option linter.unusedVariables false
set_option linter.unusedSimpArgs false
attribute [local irreducible] WL WC SO Code.wp wpList retQ Ret
attribute [local irreducible] bitB hasW inR hasR setR countW countR subR words newR listR orR firstW tab8
theorem go24 : GoF Tryd.prog 24 := ⟨_, _, Tryd.func24, rfl, by kernel_rfl⟩
set_option maxRecDepth 100000 in
set_option maxHeartbeats 1600000 in
theorem ref11_From {M : Nat → Prop} {w : World} {a_fv : Option Addr} {n_fv c_fv : Nat} {a_fi : Option Addr} {c_fi : Nat} {fi : List (Int × Int × Bool × Int × Int)} {a_fo : Option Addr} {n_fo c_fo : Nat} (hM : ∀ b, M b → b < w.heap.size) (h_fi : RV M w (.slice a_fi fi.length c_fi) fi) (hn_fi : fi.length ≤ 4096) : Calls Tryd.prog 24 #[.agg #[.slice a_fv n_fv c_fv, .slice a_fi fi.length c_fi, .slice a_fo n_fo c_fo]] w (Ret fun v w' => ∃ (a0 : Option Addr) (c0 : Nat), v = .slice a0 (fromR fi).length c0 ∧ Ext w w' ∧ OwnsG M 3 w (fromR fi) (.slice a0 (fromR fi).length c0) w') := by
 refine enter 42 Tryd.func24 rfl rfl rfl fun f0 ha => ?_
 have H := HI.start (M0 := M) (w := w) hM
 have H0 := H.put (it := imm (.slice a_fi fi.length c_fi) fi) rfl (by rw [MS_nil]; exact h_fi)
 have ln_fi := rv_len h_fi
 have i0 : f0 0 = .agg #[.slice a_fv n_fv c_fv, .slice a_fi fi.length c_fi, .slice a_fo n_fo c_fo] := ha 0 (by simp)
 refine sq (rg (k (bx H0 rfl i0 ?_)))
 intro bb0 w0 xt0 (H1 : HI M w w0 [box bb0 #[.slice a_fv n_fv c_fv, .slice a_fi fi.length c_fi, .slice a_fo n_fo c_fo] 30, imm (.slice a_fi fi.length c_fi) fi])
 refine k (asg (v := .slice none 0 0) rfl rfl (z (nx (sq (rg (k (asg (v := .slice none 0 0) rfl rfl (z (nx (sq (sq (rg (k (asg (v := iV 0) rfl rfl (z (nx (bk ?_)))))))))))))))))
 have H2 := H1.nil_ Int 3
 refine lp (fun m f w' => ∃ (j : Nat) (xs : List Int) (a0 : Option Addr) (c0 : Nat), m = fi.length - j ∧ f 1 = pV bb0 0 ∧ f 3 = .slice a0 xs.length c0 ∧ f 4 = iV (j : Int) ∧  HI M w w' [own w.heap.size 3 (.slice a0 xs.length c0) xs, box bb0 #[.slice a_fv n_fv c_fv, .slice a_fi fi.length c_fi, .slice a_fo n_fo c_fo] 30, imm (.slice a_fi fi.length c_fi) fi] ∧ (j ≤ fi.length) ∧ (xs = (fi.take j).map (frI fi))) _ ⟨0, ([] : List Int), none, 0, rfl, rfl, rfl, (ieq rfl (by first | rfl | omega | simp)), H2, (by first | assumption | omega | simp | (simp; omega)), (by rfl)⟩ ?_
 rintro _ f0 w1 ⟨j, xs, a0, c0, rfl, s0, s1, s2, H3, hk, hs⟩
 refine sq (sq (rg (k (mv rfl s2 (k (fa fl30_1 rfl s0 (k (ldX H3 1 rfl ty27 rfl rfl (by decide) rfl (k (lnS rfl rfl un27 (k (lss rfl rfl rfl rfl (z (nx ?_))))))))))))))
 refine cd (b := decide ((j : Int) < (fi.length : Int))) rfl rfl (fun b0 => ?_) (fun b0 => ?_)
 ·
  have p0 := of_decide_eq_true b0
  refine sk (nx (sq (bk (sq (rg (k (fa fl30_1 rfl s0 (k (ldX H3 1 rfl ty27 rfl rfl (by decide) rfl (k (mv rfl s2 (k (ia (H3.rv 2 rfl) rfl rfl rfl rfl (by first | omega | (simp; omega)) un27 ty65 ?_)))))))))))))
  intro ad0 x0 hx0 hA0
  refine k (ldW hA0.w ty65 rfl rfl ?_)
  intro v0 rv0
  obtain ⟨_, ⟨_, _, rfl, ⟨rfl, rv1⟩, ⟨_, _, rfl, ⟨rfl, rv2⟩, ⟨_, _, rfl, rfl, ⟨_, _, rfl, ⟨rfl, rv3⟩, ⟨rfl, rv4⟩⟩⟩⟩⟩, rfl⟩ := rv0
  refine k (al H3 ty65 ?_)
  intro bb1 w2 xt1 (H4 : HI M w w2 [box bb1 #[iV 0, iV 0, .bool false, iV 0, iV 0] 65, own w.heap.size 3 (.slice a0 xs.length c0) xs, box bb0 #[.slice a_fv n_fv c_fv, .slice a_fi fi.length c_fi, .slice a_fo n_fo c_fo] 30, imm (.slice a_fi fi.length c_fi) fi])
  refine k (stX H4 0 rfl ty65 rfl rfl rfl rfl rfl rfl rfl ?_)
  intro w3 (H5 : HI M w w3 [box bb1 #[iV x0.1, iV x0.2.1, .bool x0.2.2.1, iV x0.2.2.2.1, iV x0.2.2.2.2] 65, own w.heap.size 3 (.slice a0 xs.length c0) xs, box bb0 #[.slice a_fv n_fv c_fv, .slice a_fi fi.length c_fi, .slice a_fo n_fo c_fo] 30, imm (.slice a_fi fi.length c_fi) fi])
  refine z (nx (sq (rg (k (asg (v := iV (-2)) rfl rfl (z (nx (sq (rg (k (ldX H5 2 rfl ty30 rfl s0 (by decide) rfl (k (fa fl65_3 rfl rfl (k (ldX H5 0 rfl ty3 rfl rfl (by decide) rfl (k (fa fl65_4 rfl rfl (k (ldX H5 0 rfl ty3 rfl rfl (by decide) rfl (k ?_))))))))))))))))))))
  have cc0 := ref10_Write (fi := fi) (vr := x0.2.2.2.1) (val := x0.2.2.2.2) (a_fv := a_fv) (n_fv := n_fv) (c_fv := c_fv) (a_fo := a_fo) (n_fo := n_fo) (c_fo := c_fo) (w := w3) H5.mb (H5.rv 3 rfl) (by unfold I64 at *; omega) (by unfold I64 at *; omega)
  refine ca go23 rfl (ec rfl (ec rfl (ec rfl e0))) cc0 ?_
  rintro _ w4 ⟨rfl, xt2⟩
  have H6 := H5.ext xt2
  refine k (mv (v := .tuple #[iV (max (wrI fi x0.2.2.2.1 x0.2.2.2.2) 0), .bool (decide (0 ≤ wrI fi x0.2.2.2.1 x0.2.2.2.2))]) rfl rfl (k (xt rfl rfl rfl (k (xt rfl rfl rfl (k (asg (v := iV (max (wrI fi x0.2.2.2.1 x0.2.2.2.2) 0)) rfl rfl (k (asg (v := .bool (decide (0 ≤ wrI fi x0.2.2.2.1 x0.2.2.2.2))) rfl rfl (z (nx (sq (sq (rg (k (fa fl65_2 rfl rfl (k (ldX H6 0 rfl ty4 rfl rfl (by decide) rfl (z (nx ?_))))))))))))))))))))
  refine cd (b := x0.2.2.1) rfl rfl (fun b1 => ?_) (fun b1 => ?_)
  ·
   refine rg (k (asg (v := iV (-3)) rfl rfl (z (nx (rg (k (mv rfl s1 (k (mv (v := iV (-3)) rfl rfl (k (bs (xs := ([(-3)] : List Int)) (cells := #[iV (-3)]) (e := 3) H6 rfl (pbc rfl pb0) (fun _ => by kernel_rfl) ⟨[iV (-3)], [], rfl, ⟨rfl, (show I64 ((-3)) from (by unfold I64 at *; omega))⟩, rfl⟩ rfl (by unfold maxLen; omega) ?_)))))))))))
   intro g0 w5 xt3 H7
   refine k (ap H7 2 rfl rfl rfl rfl rfl rfl (own_src (H7.at_ 0 rfl)) un28 ty3 rfl (by rw [hs, List.length_map, List.length_take]; simp only [List.length_cons, List.length_nil]; omega) (by rw [hs, List.length_map, List.length_take]; simp only [List.length_cons, List.length_nil]; omega) ?_)
   intro a1 c1 w6 (H8 : HI M w w6 [own w.heap.size 3 (.slice (some ⟨g0, 0, none⟩) 1 1) ([(-3)] : List Int), box bb1 #[iV x0.1, iV x0.2.1, .bool x0.2.2.1, iV x0.2.2.2.1, iV x0.2.2.2.2] 65, own w.heap.size 3 (.slice a1 (xs ++ ([(-3)] : List Int)).length c1) (xs ++ ([(-3)] : List Int)), box bb0 #[.slice a_fv n_fv c_fv, .slice a_fi fi.length c_fi, .slice a_fo n_fo c_fo] 30, imm (.slice a_fi fi.length c_fi) fi])
   refine k (asg (v := .slice a1 (xs ++ ([(-3)] : List Int)).length c1) rfl rfl (z (inb_normal (nx (rg (k (mv rfl s2 (k (add rfl rfl rfl rfl (by unfold I64 at *; omega) (k (asg (v := iV ((j : Int) + 1)) rfl rfl (z ?_))))))))))))
   have H9 : HI M w w6 [own w.heap.size 3 (.slice a1 (xs ++ ([(-3)] : List Int)).length c1) (xs ++ ([(-3)] : List Int)), box bb0 #[.slice a_fv n_fv c_fv, .slice a_fi fi.length c_fi, .slice a_fo n_fo c_fo] 30, imm (.slice a_fi fi.length c_fi) fi] := H8.pickN [2, 3, 4] (by decide) rfl
   refine loopN _ ?_ ⟨(j + 1), (xs ++ ([(-3)] : List Int)), a1, c1, rfl, s0, rfl, (ieq rfl (by first | rfl | omega | (push_cast; omega))), H9, (by first | assumption | omega | simp | (simp; omega)), (by rw [hs]; first | exact fromR_step hx0 (frI_w b1) | exact fromR_step hx0 (frI_0 b1 p2) | exact fromR_step hx0 (frI_s b1 p2 b3) | exact fromR_step hx0 (frI_n b1 p2 b3))⟩
   omega
  ·
   refine sq (rg (k (fa fl65_4 rfl rfl (k (ldX H6 0 rfl ty3 rfl rfl (by decide) rfl (k (eql rfl rfl rfl rfl (z (nx ?_)))))))))
   refine cd (b := decide (x0.2.2.2.2 = 0)) rfl rfl (fun b2 => ?_) (fun b2 => ?_)
   ·
    have p2 := of_decide_eq_true b2
    refine rg (k (asg (v := iV (-1)) rfl rfl (z (nx (rg (k (mv rfl s1 (k (mv (v := iV (-1)) rfl rfl (k (bs (xs := ([(-1)] : List Int)) (cells := #[iV (-1)]) (e := 3) H6 rfl (pbc rfl pb0) (fun _ => by kernel_rfl) ⟨[iV (-1)], [], rfl, ⟨rfl, (show I64 ((-1)) from (by unfold I64 at *; omega))⟩, rfl⟩ rfl (by unfold maxLen; omega) ?_)))))))))))
    intro g0 w5 xt3 H7
    refine k (ap H7 2 rfl rfl rfl rfl rfl rfl (own_src (H7.at_ 0 rfl)) un28 ty3 rfl (by rw [hs, List.length_map, List.length_take]; simp only [List.length_cons, List.length_nil]; omega) (by rw [hs, List.length_map, List.length_take]; simp only [List.length_cons, List.length_nil]; omega) ?_)
    intro a1 c1 w6 (H8 : HI M w w6 [own w.heap.size 3 (.slice (some ⟨g0, 0, none⟩) 1 1) ([(-1)] : List Int), box bb1 #[iV x0.1, iV x0.2.1, .bool x0.2.2.1, iV x0.2.2.2.1, iV x0.2.2.2.2] 65, own w.heap.size 3 (.slice a1 (xs ++ ([(-1)] : List Int)).length c1) (xs ++ ([(-1)] : List Int)), box bb0 #[.slice a_fv n_fv c_fv, .slice a_fi fi.length c_fi, .slice a_fo n_fo c_fo] 30, imm (.slice a_fi fi.length c_fi) fi])
    refine k (asg (v := .slice a1 (xs ++ ([(-1)] : List Int)).length c1) rfl rfl (z (inb_normal (nx (rg (k (mv rfl s2 (k (add rfl rfl rfl rfl (by unfold I64 at *; omega) (k (asg (v := iV ((j : Int) + 1)) rfl rfl (z ?_))))))))))))
    have H9 : HI M w w6 [own w.heap.size 3 (.slice a1 (xs ++ ([(-1)] : List Int)).length c1) (xs ++ ([(-1)] : List Int)), box bb0 #[.slice a_fv n_fv c_fv, .slice a_fi fi.length c_fi, .slice a_fo n_fo c_fo] 30, imm (.slice a_fi fi.length c_fi) fi] := H8.pickN [2, 3, 4] (by decide) rfl
    refine loopN _ ?_ ⟨(j + 1), (xs ++ ([(-1)] : List Int)), a1, c1, rfl, s0, rfl, (ieq rfl (by first | rfl | omega | (push_cast; omega))), H9, (by first | assumption | omega | simp | (simp; omega)), (by rw [hs]; first | exact fromR_step hx0 (frI_w b1) | exact fromR_step hx0 (frI_0 b1 p2) | exact fromR_step hx0 (frI_s b1 p2 b3) | exact fromR_step hx0 (frI_n b1 p2 b3))⟩
    omega
   ·
    have p2 := of_decide_eq_false b2
    refine sq (rg (k (mv (v := .bool (decide (0 ≤ wrI fi x0.2.2.2.1 x0.2.2.2.2))) rfl rfl (z (nx ?_)))))
    refine cd (b := decide (0 ≤ wrI fi x0.2.2.2.1 x0.2.2.2.2)) rfl rfl (fun b3 => ?_) (fun b3 => ?_)
    ·
     have p3 := of_decide_eq_true b3
     refine rg (k (mv (v := iV (max (wrI fi x0.2.2.2.1 x0.2.2.2.2) 0)) rfl rfl (k (asg (v := iV (max (wrI fi x0.2.2.2.1 x0.2.2.2.2) 0)) rfl rfl (z (nx (rg (k (mv rfl s1 (k (mv (v := iV (max (wrI fi x0.2.2.2.1 x0.2.2.2.2) 0)) rfl rfl (k (bs (xs := ([(max (wrI fi x0.2.2.2.1 x0.2.2.2.2) 0)] : List Int)) (cells := #[iV (max (wrI fi x0.2.2.2.1 x0.2.2.2.2) 0)]) (e := 3) H6 rfl (pbc rfl pb0) (fun _ => by kernel_rfl) ⟨[iV (max (wrI fi x0.2.2.2.1 x0.2.2.2.2) 0)], [], rfl, ⟨rfl, (show I64 ((max (wrI fi x0.2.2.2.1 x0.2.2.2.2) 0)) from (by have h_ := idxF_range (p := isW x0.2.2.2.1 x0.2.2.2.2) (r := fi); unfold wrI; unfold I64; omega))⟩, rfl⟩ rfl (by unfold maxLen; omega) ?_)))))))))))))
     intro g0 w5 xt3 H7
     refine k (ap H7 2 rfl rfl rfl rfl rfl rfl (own_src (H7.at_ 0 rfl)) un28 ty3 rfl (by rw [hs, List.length_map, List.length_take]; simp only [List.length_cons, List.length_nil]; omega) (by rw [hs, List.length_map, List.length_take]; simp only [List.length_cons, List.length_nil]; omega) ?_)
     intro a1 c1 w6 (H8 : HI M w w6 [own w.heap.size 3 (.slice (some ⟨g0, 0, none⟩) 1 1) ([(max (wrI fi x0.2.2.2.1 x0.2.2.2.2) 0)] : List Int), box bb1 #[iV x0.1, iV x0.2.1, .bool x0.2.2.1, iV x0.2.2.2.1, iV x0.2.2.2.2] 65, own w.heap.size 3 (.slice a1 (xs ++ ([(max (wrI fi x0.2.2.2.1 x0.2.2.2.2) 0)] : List Int)).length c1) (xs ++ ([(max (wrI fi x0.2.2.2.1 x0.2.2.2.2) 0)] : List Int)), box bb0 #[.slice a_fv n_fv c_fv, .slice a_fi fi.length c_fi, .slice a_fo n_fo c_fo] 30, imm (.slice a_fi fi.length c_fi) fi])
     refine k (asg (v := .slice a1 (xs ++ ([(max (wrI fi x0.2.2.2.1 x0.2.2.2.2) 0)] : List Int)).length c1) rfl rfl (z (inb_normal (nx (rg (k (mv rfl s2 (k (add rfl rfl rfl rfl (by unfold I64 at *; omega) (k (asg (v := iV ((j : Int) + 1)) rfl rfl (z ?_))))))))))))
     have H9 : HI M w w6 [own w.heap.size 3 (.slice a1 (xs ++ ([(max (wrI fi x0.2.2.2.1 x0.2.2.2.2) 0)] : List Int)).length c1) (xs ++ ([(max (wrI fi x0.2.2.2.1 x0.2.2.2.2) 0)] : List Int)), box bb0 #[.slice a_fv n_fv c_fv, .slice a_fi fi.length c_fi, .slice a_fo n_fo c_fo] 30, imm (.slice a_fi fi.length c_fi) fi] := H8.pickN [2, 3, 4] (by decide) rfl
     refine loopN _ ?_ ⟨(j + 1), (xs ++ ([(max (wrI fi x0.2.2.2.1 x0.2.2.2.2) 0)] : List Int)), a1, c1, rfl, s0, rfl, (ieq rfl (by first | rfl | omega | (push_cast; omega))), H9, (by first | assumption | omega | simp | (simp; omega)), (by rw [hs]; first | exact fromR_step hx0 (frI_w b1) | exact fromR_step hx0 (frI_0 b1 p2) | exact fromR_step hx0 (frI_s b1 p2 b3) | exact fromR_step hx0 (frI_n b1 p2 b3))⟩
     omega
    ·
     have p3 := of_decide_eq_false b3
     refine sk (nx (rg (k (mv rfl s1 (k (mv (v := iV (-2)) rfl rfl (k (bs (xs := ([(-2)] : List Int)) (cells := #[iV (-2)]) (e := 3) H6 rfl (pbc rfl pb0) (fun _ => by kernel_rfl) ⟨[iV (-2)], [], rfl, ⟨rfl, (show I64 ((-2)) from (by unfold I64 at *; omega))⟩, rfl⟩ rfl (by unfold maxLen; omega) ?_))))))))
     intro g0 w5 xt3 H7
     refine k (ap H7 2 rfl rfl rfl rfl rfl rfl (own_src (H7.at_ 0 rfl)) un28 ty3 rfl (by rw [hs, List.length_map, List.length_take]; simp only [List.length_cons, List.length_nil]; omega) (by rw [hs, List.length_map, List.length_take]; simp only [List.length_cons, List.length_nil]; omega) ?_)
     intro a1 c1 w6 (H8 : HI M w w6 [own w.heap.size 3 (.slice (some ⟨g0, 0, none⟩) 1 1) ([(-2)] : List Int), box bb1 #[iV x0.1, iV x0.2.1, .bool x0.2.2.1, iV x0.2.2.2.1, iV x0.2.2.2.2] 65, own w.heap.size 3 (.slice a1 (xs ++ ([(-2)] : List Int)).length c1) (xs ++ ([(-2)] : List Int)), box bb0 #[.slice a_fv n_fv c_fv, .slice a_fi fi.length c_fi, .slice a_fo n_fo c_fo] 30, imm (.slice a_fi fi.length c_fi) fi])
     refine k (asg (v := .slice a1 (xs ++ ([(-2)] : List Int)).length c1) rfl rfl (z (inb_normal (nx (rg (k (mv rfl s2 (k (add rfl rfl rfl rfl (by unfold I64 at *; omega) (k (asg (v := iV ((j : Int) + 1)) rfl rfl (z ?_))))))))))))
     have H9 : HI M w w6 [own w.heap.size 3 (.slice a1 (xs ++ ([(-2)] : List Int)).length c1) (xs ++ ([(-2)] : List Int)), box bb0 #[.slice a_fv n_fv c_fv, .slice a_fi fi.length c_fi, .slice a_fo n_fo c_fo] 30, imm (.slice a_fi fi.length c_fi) fi] := H8.pickN [2, 3, 4] (by decide) rfl
     refine loopN _ ?_ ⟨(j + 1), (xs ++ ([(-2)] : List Int)), a1, c1, rfl, s0, rfl, (ieq rfl (by first | rfl | omega | (push_cast; omega))), H9, (by first | assumption | omega | simp | (simp; omega)), (by rw [hs]; first | exact fromR_step hx0 (frI_w b1) | exact fromR_step hx0 (frI_0 b1 p2) | exact fromR_step hx0 (frI_s b1 p2 b3) | exact fromR_step hx0 (frI_n b1 p2 b3))⟩
     omega
 ·
  have p0 := of_decide_eq_false b0
  refine ex (then_exit (loop_exit (inb_here (nx (sq (rg (k (mv rfl s1 (k (asg (v := .slice a0 xs.length c0) rfl rfl (z (nx (rt (r1 rfl rfl ?_))))))))))))))
  have e0 : (xs : List Int) = fromR fi := by rw [hs]; unfold fromR; rw [take_end (by omega)]
  have ev_ := cg1 (fun (x_0 : List Int) => (.slice a0 x_0.length c0 : Value)) e0
  exact ⟨a0, c0, ev_, H3.below, (congrArg (fun (x_ : List Int) => OwnsG _ _ _ x_ (.slice a0 x_.length c0) _) e0).mp (H3.ownsG_out 0 rfl)⟩
set_option maxRecDepth 100000 in
set_option maxHeartbeats 1600000 in
theorem ref11_Fill {M : Nat → Prop} {w : World} {a_fv : Option Addr} {c_fv : Nat} {fv : List ByteArray} {a_fi : Option Addr} {c_fi : Nat} {fi : List (Int × Int × Bool × Int × Int)} {a_fo : Option Addr} {c_fo : Nat} {fo : List Int} (hM : ∀ b, M b → b < w.heap.size) (h_fv : RV M w (.slice a_fv fv.length c_fv) fv) (h_fi : RV M w (.slice a_fi fi.length c_fi) fi) (h_fo : RV M w (.slice a_fo fo.length c_fo) fo) (hn_fi : fi.length ≤ 4096) : Calls Tryd.prog 13 #[.agg #[.slice a_fv fv.length c_fv, .slice a_fi fi.length c_fi, .slice a_fo fo.length c_fo]] w (Ret fun v w' => ∃ (a0 : Option Addr) (c0 : Nat) (a1 : Option Addr) (c1 : Nat) (a2 : Option Addr) (c2 : Nat), v = .agg #[.slice a0 fv.length c0, .slice a1 fi.length c1, .slice a2 (fromR fi).length c2] ∧ Ext w w' ∧ RV M w' (.slice a0 fv.length c0) fv ∧ RV M w' (.slice a1 fi.length c1) fi ∧ RV M w' (.slice a2 (fromR fi).length c2) (fromR fi)) := by
 refine enter 10 Tryd.func13 rfl rfl rfl fun f0 ha => ?_
 have H := HI.start (M0 := M) (w := w) hM
 have H0 := H.put (it := imm (.slice a_fv fv.length c_fv) fv) rfl (by rw [MS_nil]; exact h_fv)
 have H1 := H0.put (it := imm (.slice a_fi fi.length c_fi) fi) rfl (by rw [MS_cons_none rfl, MS_nil]; exact h_fi)
 have H2 := H1.put (it := imm (.slice a_fo fo.length c_fo) fo) rfl (by rw [MS_cons_none rfl, MS_cons_none rfl, MS_nil]; exact h_fo)
 have ln_fv := rv_len h_fv
 have ln_fi := rv_len h_fi
 have ln_fo := rv_len h_fo
 have i0 : f0 0 = .agg #[.slice a_fv fv.length c_fv, .slice a_fi fi.length c_fi, .slice a_fo fo.length c_fo] := ha 0 (by simp)
 refine sq (rg (k (bx H2 rfl i0 ?_)))
 intro bb0 w0 xt0 (H3 : HI M w w0 [box bb0 #[.slice a_fv fv.length c_fv, .slice a_fi fi.length c_fi, .slice a_fo fo.length c_fo] 30, imm (.slice a_fo fo.length c_fo) fo, imm (.slice a_fi fi.length c_fi) fi, imm (.slice a_fv fv.length c_fv) fv])
 refine k (al H3 ty30 ?_)
 intro bb1 w1 xt1 (H4 : HI M w w1 [box bb1 #[.slice none 0 0, .slice none 0 0, .slice none 0 0] 30, box bb0 #[.slice a_fv fv.length c_fv, .slice a_fi fi.length c_fi, .slice a_fo fo.length c_fo] 30, imm (.slice a_fo fo.length c_fo) fo, imm (.slice a_fi fi.length c_fi) fi, imm (.slice a_fv fv.length c_fv) fv])
 refine z (nx (sq ?_))
 refine dr 6 [eV (pV bb0 0), eV (.slice a_fv fv.length c_fv), eV (pV bb0 1), eV (.slice a_fi fi.length c_fi), eV (.agg #[.slice a_fv fv.length c_fv, .slice a_fi fi.length c_fi, .slice a_fo fo.length c_fo]), fun (v : Value) (w' : World) => ∃ (a0 : Option Addr) (c0 : Nat), v = .slice a0 (fromR fi).length c0 ∧ RV (MS M [box bb1 #[.slice none 0 0, .slice none 0 0, .slice none 0 0] 30, box bb0 #[.slice a_fv fv.length c_fv, .slice a_fi fi.length c_fi, .slice a_fo fo.length c_fo] 30, imm (.slice a_fo fo.length c_fo) fo, imm (.slice a_fi fi.length c_fi) fi, imm (.slice a_fv fv.length c_fv) fv]) w' (.slice a0 (fromR fi).length c0) (fromR fi)] rfl (by kernel_rfl) ?_ ?_
 ·
  refine dc (fun _ _ hf0 _ _ => fa fl30_0 rfl (hf0 1 rfl) (d0 rfl rfl)) ?_
  refine dc (fun _ _ _ xt4 hp1 => ldX (H4.ext xt4) 1 rfl ty26 rfl (hp1 0 rfl rfl) (by decide) rfl (d0 rfl rfl)) ?_
  refine dc (fun _ _ hf2 _ _ => fa fl30_1 rfl (hf2 1 rfl) (d0 rfl rfl)) ?_
  refine dc (fun _ _ _ xt6 hp3 => ldX (H4.ext xt6) 1 rfl ty27 rfl (hp3 2 rfl rfl) (by decide) rfl (d0 rfl rfl)) ?_
  refine dc (fun _ _ hf4 xt7 _ => ldX (H4.ext xt7) 1 rfl ty30 rfl (hf4 1 rfl) (by decide) rfl (d0 rfl rfl)) ?_
  refine ⟨fun _ => ⟨fun f5 w8 hf5 xt8 hp5 => ?_, by rintro _ _ _ x_ ⟨a0, c0, e_, rv1⟩; exact ⟨a0, c0, e_, rv1.lift (Up.ext x_)⟩⟩, ?_⟩
  ·
   have H12 := H4.ext xt8
   have s2 : f5 7 = .agg #[.slice a_fv fv.length c_fv, .slice a_fi fi.length c_fi, .slice a_fo fo.length c_fo] := hp5 4 rfl rfl
   have cc1 := ref11_From (fi := fi) (a_fv := a_fv) (n_fv := fv.length) (c_fv := c_fv) (a_fo := a_fo) (n_fo := fo.length) (c_fo := c_fo) (w := w8) H12.mb (H12.rv 3 rfl) (by assumption)
   refine ca go24 rfl (ec s2 e0) cc1 ?_
   rintro _ w9 ⟨a1, c1, rfl, xt9, rv2⟩
   have rv3 := OwnsG.rv rv2 H12.mb
   exact ⟨_, rfl, xt9, ⟨a1, c1, rfl, rv3⟩⟩
  exact DSteps.rest rfl _
 ·
  intro f6 w10 hf6 xt10 hp6
  have H15 := H4.ext xt10
  have s3 : f6 2 = pV bb1 0 := hf6 2 rfl
  have s4 : f6 4 = .slice a_fv fv.length c_fv := hp6 1 rfl
  have s5 : f6 6 = .slice a_fi fi.length c_fi := hp6 3 rfl
  obtain ⟨a2, c2, s6, rv4⟩ : ∃ (a2 : Option Addr) (c2 : Nat), f6 8 = .slice a2 (fromR fi).length c2 ∧ RV (MS M [box bb1 #[.slice none 0 0, .slice none 0 0, .slice none 0 0] 30, box bb0 #[.slice a_fv fv.length c_fv, .slice a_fi fi.length c_fi, .slice a_fo fo.length c_fo] 30, imm (.slice a_fo fo.length c_fo) fo, imm (.slice a_fi fi.length c_fi) fi, imm (.slice a_fv fv.length c_fv) fv]) w10 (.slice a2 (fromR fi).length c2) (fromR fi) := hp6 5 rfl
  have H16 := H15.put (it := imm (.slice a2 (fromR fi).length c2) (fromR fi)) rfl rv4
  refine k (bd (v := .agg #[.slice a_fv fv.length c_fv, .slice a_fi fi.length c_fi, .slice a2 (fromR fi).length c2]) rfl (pbc s4 (pbc s5 (pbc s6 pb0))) (fun _ => by kernel_rfl) (k (stX H16 1 rfl ty30 rfl rfl s3 rfl rfl rfl rfl ?_)))
  intro w11 (H17 : HI M w w11 [imm (.slice a2 (fromR fi).length c2) (fromR fi), box bb1 #[.slice a_fv fv.length c_fv, .slice a_fi fi.length c_fi, .slice a2 (fromR fi).length c2] 30, box bb0 #[.slice a_fv fv.length c_fv, .slice a_fi fi.length c_fi, .slice a_fo fo.length c_fo] 30, imm (.slice a_fo fo.length c_fo) fo, imm (.slice a_fi fi.length c_fi) fi, imm (.slice a_fv fv.length c_fv) fv])
  refine z (nx (rt (rc1 H17 1 rfl ty30 rfl rfl s3 rfl (by decide) ?_)))
  exact ⟨a_fv, c_fv, a_fi, c_fi, a2, c2, rfl, H17.below, (H17.gives_out 5 rfl), (H17.gives_out 4 rfl), (H17.gives_out 0 rfl)⟩
end Go.Proofs.YtefcbihikknlkaaDoor
namespace Go.Proofs.YtefcbihikknlkaaDoor
open Go.Ew Go.RowKit
set_option linter.unusedVariables false
set_option linter.unusedSimpArgs false
attribute [local irreducible] WL WC SO Code.wp wpList retQ Ret
attribute [local irreducible] bitB hasW inR hasR setR countW countR subR words newR listR orR firstW tab8
theorem go11 : GoF Tryd.prog 11 := ⟨_, _, Tryd.func11, rfl, by kernel_rfl⟩
theorem go12 : GoF Tryd.prog 12 := ⟨_, _, Tryd.func12, rfl, by kernel_rfl⟩
theorem go13 : GoF Tryd.prog 13 := ⟨_, _, Tryd.func13, rfl, by kernel_rfl⟩
set_option maxRecDepth 100000 in
set_option maxHeartbeats 1600000 in
theorem ref11_Of {M : Nat → Prop} {w : World} {a_h : Option Addr} {c_h : Nat} {h : List (List (Bool × ByteArray × Int))} (hM : ∀ b, M b → b < w.heap.size) (h_h : RV M w (.slice a_h h.length c_h) h) (hb_h : h.flatten.length ≤ 4096) : Calls Tryd.prog 6 #[.slice a_h h.length c_h] w (Ret fun v w' => ∃ (a0 : Option Addr) (c0 : Nat) (a1 : Option Addr) (c1 : Nat) (a2 : Option Addr) (c2 : Nat), v = .tuple #[.agg #[.slice a0 (o11V h).length c0, .slice a1 (o11I h).length c1, .slice a2 (o11F h).length c2], .bool (o11 h)] ∧ Ext w w' ∧ RV M w' (.slice a0 (o11V h).length c0) (o11V h) ∧ RV M w' (.slice a1 (o11I h).length c1) (o11I h) ∧ RV M w' (.slice a2 (o11F h).length c2) (o11F h)) := by
 refine enter 25 Tryd.func6 rfl rfl rfl fun f0 ha => ?_
 have H := HI.start (M0 := M) (w := w) hM
 have H0 := H.put (it := imm (.slice a_h h.length c_h) h) rfl (by rw [MS_nil]; exact h_h)
 have ln_h := rv_len h_h
 have i0 : f0 0 = .slice a_h h.length c_h := ha 0 (by simp)
 refine sq (rg (k (al H0 ty30 ?_)))
 intro bb0 w0 xt0 (H1 : HI M w w0 [box bb0 #[.slice none 0 0, .slice none 0 0, .slice none 0 0] 30, imm (.slice a_h h.length c_h) h])
 refine k (asg (v := .bool false) rfl rfl (z (nx (sq (rg (k (mv rfl i0 (k ?_))))))))
 have cc0 := ref09_Of (h := h) (w := w0) H1.mb (H1.rv 1 rfl) (by omega)
 refine ca go11 rfl (ec rfl e0) cc0 ?_
 rintro _ w1 ⟨a0, c0, a1, c1, a2, c2, rfl, xt1, rv0, rv1, rv2⟩
 have H2 := H1.ext xt1
 have H3 := H2.put (it := imm (.slice a0 (ofV h).length c0) (ofV h)) rfl rv0
 have H4 := H3.put (it := imm (.slice a1 (ofI h).length c1) (ofI h)) rfl (by rw [MS_cons_none rfl]; exact rv1)
 have H5 := H4.put (it := imm (.slice a2 ([] : List Int).length c2) ([] : List Int)) rfl (by rw [MS_cons_none rfl, MS_cons_none rfl]; exact rv2)
 refine k (mv (v := .tuple #[.agg #[.slice a0 (ofV h).length c0, .slice a1 (ofI h).length c1, .slice a2 ([] : List Int).length c2], iV (ofE h)]) rfl rfl (k (xt rfl rfl rfl (k (xt rfl rfl rfl (k (al H5 ty30 ?_)))))))
 intro bb1 w2 xt2 (H6 : HI M w w2 [box bb1 #[.slice none 0 0, .slice none 0 0, .slice none 0 0] 30, imm (.slice a2 ([] : List Int).length c2) ([] : List Int), imm (.slice a1 (ofI h).length c1) (ofI h), imm (.slice a0 (ofV h).length c0) (ofV h), box bb0 #[.slice none 0 0, .slice none 0 0, .slice none 0 0] 30, imm (.slice a_h h.length c_h) h])
 refine k (stX H6 0 rfl ty30 rfl rfl rfl rfl rfl rfl rfl ?_)
 intro w3 (H7 : HI M w w3 [box bb1 #[.slice a0 (ofV h).length c0, .slice a1 (ofI h).length c1, .slice a2 ([] : List Int).length c2] 30, imm (.slice a2 ([] : List Int).length c2) ([] : List Int), imm (.slice a1 (ofI h).length c1) (ofI h), imm (.slice a0 (ofV h).length c0) (ofV h), box bb0 #[.slice none 0 0, .slice none 0 0, .slice none 0 0] 30, imm (.slice a_h h.length c_h) h])
 refine k (asg (v := iV (ofE h)) rfl rfl (z (nx (sq (sq (rg (k (mv (v := iV (ofE h)) rfl rfl (k (neq rfl rfl rfl rfl (z (nx ?_))))))))))))
 refine cd (b := !decide ((ofE h) = 0)) rfl rfl (fun b0 => ?_) (fun b0 => ?_)
 ·
  have p0 := of_decide_eq_false (nott b0)
  refine sq ?_
  have hq : o11 h = false := o11_no1 (by simpa using ‹(!decide (ofE h = 0)) = true›)
  refine rg (k (bd (v := .agg #[.slice none 0 0, .slice none 0 0, .slice none 0 0]) rfl pb0 (fun _ => by kernel_rfl) (k (stX H7 4 rfl ty30 rfl rfl rfl rfl rfl rfl rfl ?_))))
  intro w4 (H8 : HI M w w4 [box bb1 #[.slice a0 (ofV h).length c0, .slice a1 (ofI h).length c1, .slice a2 ([] : List Int).length c2] 30, imm (.slice a2 ([] : List Int).length c2) ([] : List Int), imm (.slice a1 (ofI h).length c1) (ofI h), imm (.slice a0 (ofV h).length c0) (ofV h), box bb0 #[.slice none 0 0, .slice none 0 0, .slice none 0 0] 30, imm (.slice a_h h.length c_h) h])
  refine k (asg (v := .bool false) rfl rfl (z (nx (rt (then_ret (rc2 H8 4 rfl ty30 rfl rfl rfl rfl rfl (by decide) ?_))))))
  have e0 : ([] : List ByteArray) = o11V h := by first | exact (o11_no hq).1.symm | exact (o11_yes hq).1.symm
  have e1 : ([] : List (Int × Int × Bool × Int × Int)) = o11I h := by first | exact (o11_no hq).2.1.symm | exact (o11_yes hq).2.1.symm
  have e2 : ([] : List Int) = o11F h := by first | exact (o11_no hq).2.2.symm | exact (o11_yes hq).2.2.symm
  have e3 : (false : Bool) = o11 h := by exact hq.symm
  have ev_ := cg4 (fun (x_0 : List ByteArray) (x_1 : List (Int × Int × Bool × Int × Int)) (x_2 : List Int) (x_3 : Bool) => (.tuple #[.agg #[.slice none x_0.length 0, .slice none x_1.length 0, .slice none x_2.length 0], .bool x_3] : Value)) e0 e1 e2 e3
  exact ⟨none, 0, none, 0, none, 0, ev_, H8.below, (congrArg (fun (x_ : List ByteArray) => RV _ _ (.slice none x_.length 0) x_) e0).mp (rv_nil _ _), (congrArg (fun (x_ : List (Int × Int × Bool × Int × Int)) => RV _ _ (.slice none x_.length 0) x_) e1).mp (rv_nil _ _), (congrArg (fun (x_ : List Int) => RV _ _ (.slice none x_.length 0) x_) e2).mp (rv_nil _ _)⟩
 ·
  have p0 := of_decide_eq_true (notf b0)
  refine sk (nx (sq ?_))
  have he_ : ofE h = 0 := by simpa using ‹(!decide (ofE h = 0)) = false›
  refine rg (k (ldX H7 0 rfl ty30 rfl rfl (by decide) rfl (k ?_)))
  have cc1 := ref10_Check (fi := (ofI h)) (a_fv := a0) (n_fv := (ofV h).length) (c_fv := c0) (a_fo := a2) (n_fo := ([] : List Int).length) (c_fo := c2) (w := w3) H7.mb (H7.rv 2 rfl)
  refine ca go12 rfl (ec rfl e0) cc1 ?_
  rintro _ w4 ⟨rfl, xt3⟩
  have H8 := H7.ext xt3
  refine k (mv (v := .tuple #[iV ((chkA (ofI h)).1), iV ((chkA (ofI h)).2.1), iV ((chkA (ofI h)).2.2)]) rfl rfl (k (xt rfl rfl rfl (k (xt rfl rfl rfl (k (xt rfl rfl rfl (k (asg (v := iV ((chkA (ofI h)).2.2)) rfl rfl (z (nx (sq (sq (rg (k (mv (v := iV ((chkA (ofI h)).2.2)) rfl rfl (k (neq rfl rfl rfl rfl (z (nx ?_))))))))))))))))))))
  refine cd (b := !decide (((chkA (ofI h)).2.2) = 0)) rfl rfl (fun b1 => ?_) (fun b1 => ?_)
  ·
   have p1 := of_decide_eq_false (nott b1)
   refine sq ?_
   have hq : o11 h = false := o11_no2 (by simpa using ‹(!decide ((chkA (ofI h)).2.2 = 0)) = true›)
   refine rg (k (bd (v := .agg #[.slice none 0 0, .slice none 0 0, .slice none 0 0]) rfl pb0 (fun _ => by kernel_rfl) (k (stX H8 4 rfl ty30 rfl rfl rfl rfl rfl rfl rfl ?_))))
   intro w5 (H9 : HI M w w5 [box bb1 #[.slice a0 (ofV h).length c0, .slice a1 (ofI h).length c1, .slice a2 ([] : List Int).length c2] 30, imm (.slice a2 ([] : List Int).length c2) ([] : List Int), imm (.slice a1 (ofI h).length c1) (ofI h), imm (.slice a0 (ofV h).length c0) (ofV h), box bb0 #[.slice none 0 0, .slice none 0 0, .slice none 0 0] 30, imm (.slice a_h h.length c_h) h])
   refine k (asg (v := .bool false) rfl rfl (z (nx (rt (then_ret (rc2 H9 4 rfl ty30 rfl rfl rfl rfl rfl (by decide) ?_))))))
   have e0 : ([] : List ByteArray) = o11V h := by first | exact (o11_no hq).1.symm | exact (o11_yes hq).1.symm
   have e1 : ([] : List (Int × Int × Bool × Int × Int)) = o11I h := by first | exact (o11_no hq).2.1.symm | exact (o11_yes hq).2.1.symm
   have e2 : ([] : List Int) = o11F h := by first | exact (o11_no hq).2.2.symm | exact (o11_yes hq).2.2.symm
   have e3 : (false : Bool) = o11 h := by exact hq.symm
   have ev_ := cg4 (fun (x_0 : List ByteArray) (x_1 : List (Int × Int × Bool × Int × Int)) (x_2 : List Int) (x_3 : Bool) => (.tuple #[.agg #[.slice none x_0.length 0, .slice none x_1.length 0, .slice none x_2.length 0], .bool x_3] : Value)) e0 e1 e2 e3
   exact ⟨none, 0, none, 0, none, 0, ev_, H9.below, (congrArg (fun (x_ : List ByteArray) => RV _ _ (.slice none x_.length 0) x_) e0).mp (rv_nil _ _), (congrArg (fun (x_ : List (Int × Int × Bool × Int × Int)) => RV _ _ (.slice none x_.length 0) x_) e1).mp (rv_nil _ _), (congrArg (fun (x_ : List Int) => RV _ _ (.slice none x_.length 0) x_) e2).mp (rv_nil _ _)⟩
  ·
   have p1 := of_decide_eq_true (notf b1)
   refine sk (nx (sq ?_))
   have hq : o11 h = true := o11_is he_ (by simpa using ‹(!decide ((chkA (ofI h)).2.2 = 0)) = false›)
   refine rg (k (ldX H8 0 rfl ty30 rfl rfl (by decide) rfl (k ?_)))
   have cc2 := ref11_Fill (fv := (ofV h)) (fi := (ofI h)) (fo := ([] : List Int)) (w := w4) H8.mb (H8.rv 3 rfl) (H8.rv 2 rfl) (H8.rv 1 rfl) (by have h_ := ofI_len h; omega)
   refine ca go13 rfl (ec rfl e0) cc2 ?_
   rintro _ w5 ⟨a3, c3, a4, c4, a5, c5, rfl, xt4, rv3, rv4, rv5⟩
   have H9 := H8.ext xt4
   have H10 := H9.put (it := imm (.slice a3 (ofV h).length c3) (ofV h)) rfl rv3
   have H11 := H10.put (it := imm (.slice a4 (ofI h).length c4) (ofI h)) rfl (by rw [MS_cons_none rfl]; exact rv4)
   have H12 := H11.put (it := imm (.slice a5 (fromR (ofI h)).length c5) (fromR (ofI h))) rfl (by rw [MS_cons_none rfl, MS_cons_none rfl]; exact rv5)
   refine k (stX H12 7 rfl ty30 rfl rfl rfl rfl rfl rfl rfl ?_)
   intro w6 (H13 : HI M w w6 [imm (.slice a5 (fromR (ofI h)).length c5) (fromR (ofI h)), imm (.slice a4 (ofI h).length c4) (ofI h), imm (.slice a3 (ofV h).length c3) (ofV h), box bb1 #[.slice a0 (ofV h).length c0, .slice a1 (ofI h).length c1, .slice a2 ([] : List Int).length c2] 30, imm (.slice a2 ([] : List Int).length c2) ([] : List Int), imm (.slice a1 (ofI h).length c1) (ofI h), imm (.slice a0 (ofV h).length c0) (ofV h), box bb0 #[.slice a3 (ofV h).length c3, .slice a4 (ofI h).length c4, .slice a5 (fromR (ofI h)).length c5] 30, imm (.slice a_h h.length c_h) h])
   refine k (asg (v := .bool true) rfl rfl (z (nx (rt (rc2 H13 7 rfl ty30 rfl rfl rfl rfl rfl (by decide) ?_)))))
   have e0 : ((ofV h) : List ByteArray) = o11V h := by first | exact (o11_no hq).1.symm | exact (o11_yes hq).1.symm
   have e1 : ((ofI h) : List (Int × Int × Bool × Int × Int)) = o11I h := by first | exact (o11_no hq).2.1.symm | exact (o11_yes hq).2.1.symm
   have e2 : (fromR (ofI h) : List Int) = o11F h := by first | exact (o11_no hq).2.2.symm | exact (o11_yes hq).2.2.symm
   have e3 : (true : Bool) = o11 h := by exact hq.symm
   have ev_ := cg4 (fun (x_0 : List ByteArray) (x_1 : List (Int × Int × Bool × Int × Int)) (x_2 : List Int) (x_3 : Bool) => (.tuple #[.agg #[.slice a3 x_0.length c3, .slice a4 x_1.length c4, .slice a5 x_2.length c5], .bool x_3] : Value)) e0 e1 e2 e3
   exact ⟨a3, c3, a4, c4, a5, c5, ev_, H13.below, (congrArg (fun (x_ : List ByteArray) => RV _ _ (.slice a3 x_.length c3) x_) e0).mp (H13.gives_out 2 rfl), (congrArg (fun (x_ : List (Int × Int × Bool × Int × Int)) => RV _ _ (.slice a4 x_.length c4) x_) e1).mp (H13.gives_out 1 rfl), (congrArg (fun (x_ : List Int) => RV _ _ (.slice a5 x_.length c5) x_) e2).mp (H13.gives_out 0 rfl)⟩
end Go.Proofs.YtefcbihikknlkaaDoor
namespace Go.Proofs.YtefcbihikknlkaaDoor
open Go.Ew Go.RowKit
set_option linter.unusedVariables false
set_option linter.unusedSimpArgs false
attribute [local irreducible] WL WC SO Code.wp wpList retQ Ret
attribute [local irreducible] bitB hasW inR hasR setR countW countR subR words newR listR orR firstW tab8
set_option maxRecDepth 100000 in
set_option maxHeartbeats 1600000 in
theorem hull_join {M0 : Nat → Prop} {w0 w : World} {l : List Go.Ew.Item} {i j : Nat} {a_i a_f : Option Addr} {c_i c_f : Nat} {a b : List (BitVec 64)} (H : HI M0 w0 w l) (hi : l[i]? = some (own w0.heap.size 94 (.slice a_i a.length c_i) a)) (hj : l[j]? = some (own w0.heap.size 94 (.slice a_f b.length c_f) b)) (hlen : b.length ≤ a.length) (hlb : b.length ≤ 1000000000) (hne : i ≠ j ∨ ((.slice a_i a.length c_i : Value) = .slice a_f b.length c_f ∧ b = a)) : Calls Tryd.prog 64 #[.slice a_i a.length c_i, .slice a_f b.length c_f] w (Ret fun v w' => v = .tuple #[] ∧ HI M0 w0 w' (l.set i (own w0.heap.size 94 (.slice a_i a.length c_i) (orR a b)))) := by
  have hil : i < l.length := (List.getElem?_eq_some_iff.1 hi).1
  refine enter 21 Tryd.func64 rfl rfl rfl fun f0 ha => ?_
  have i0 : f0 0 = .slice a_i a.length c_i := ha 0 (by simp)
  have i1 : f0 1 = .slice a_f b.length c_f := ha 1 (by simp)
  refine sq (rg (k (mv (v := .slice a_f b.length c_f) rfl i1 (k (lnS rfl rfl un91 (k (mv (v := .int .i64 0) rfl rfl (z (nx (bk ?_))))))))))
  refine lp (fun m f w' => ∃ (q : Nat) (xs : List (BitVec 64)), m = b.length - q ∧ f 0 = .slice a_i a.length c_i ∧ f 6 = .slice a_f b.length c_f ∧ f 7 = .int .i64 (b.length : Int) ∧ f 8 = .int .i64 (q : Int) ∧ HI M0 w0 w' (l.set i (own w0.heap.size 94 (.slice a_i a.length c_i) xs)) ∧ q ≤ b.length ∧ xs.length = a.length ∧ xs = orTo a.length a b a q) _ ⟨0, a, rfl, i0, rfl, rfl, rfl, (by rw [set_own hi]; exact H), Nat.zero_le _, rfl, orTo_zero _ _ _⟩ ?_
  rintro _ f1 w1 ⟨q, xs, rfl, s0, s1, s2, s3, H1, hk, hl, hs⟩
  refine sq (rg (k (lss rfl rfl s3 s2 (z (nx (sq ?_))))))
  refine cd (b := decide ((q : Int) < (b.length : Int))) rfl rfl (fun b1 => ?_) (fun b1 => ?_)
  ·
    have p1 := of_decide_eq_true b1
    obtain ⟨ys, hj1, hyl, hyq⟩ := join_from hj hil hne hl hs hk hlen
    refine sk (nx (sq (bk (sq (rg (k (mv rfl s3 (k (iaO (H1.at_ j hj1) rfl rfl s1 s3 (by omega) un91 ty94 ?_)))))))))
    intro g0 x0 hv0 hx0 hA0
    have hxq := hyq x0 hx0
    refine k (ldU hA0 ty94 rfl rfl (k (asg (v := .int .i64 (q : Int)) rfl rfl (k (asg (v := U x0) rfl rfl (z (nx (rg (k (mv rfl s0 (k (mv (v := .int .i64 (q : Int)) rfl rfl (k (iaO (H1.at_ i (set_at hil)) rfl rfl rfl rfl (by omega) un91 ty94 ?_))))))))))))))
    intro g1 x1 hv1 hx1 hA1
    refine k (ldU hA1 ty94 rfl rfl (k (mv (v := U x0) rfl rfl (k (orU x1 x0 rfl rfl rfl rfl (k (iaO (H1.at_ i (set_at hil)) rfl rfl rfl rfl (by omega) un91 ty94 ?_)))))))
    intro g2 x2 hv2 hx2 hA2
    refine k (stO H1 i (set_at hil) hv2 rfl (by omega) ty94 rfl rfl rfl rfl (RV.bv.2 rfl) ?_)
    intro w2 H2
    rw [set_set] at H2
    refine z (inb_normal (nx (rg (k (add rfl rfl s3 rfl (by unfold I64 at *; omega) (k (mv (v := .int .i64 ((q : Int) + 1)) rfl rfl (z ?_))))))))
    refine loopN _ ?_ ⟨(q + 1), (xs.set ((q : Int).toNat) (x1 ||| x0)), rfl, s0, s1, s2, (ieq rfl (by first | rfl | omega | (push_cast; omega))), H2, (by omega), (by simpa using hl), join_step hs hxq hx1⟩
    omega
  ·
    have p1 := of_decide_eq_false b1
    refine ex (then_exit (loop_exit (inb_here (r0n rfl ?_))))
    exact ⟨rfl, by rw [← join_end hs hlen (by omega)]; exact H1⟩
set_option maxRecDepth 100000 in
set_option maxHeartbeats 1600000 in
theorem mat_NewR {M : Nat → Prop} {w : World} {n : Int} (hM : ∀ b, M b → b < w.heap.size) (h_n : I64 n) (h0 : 0 ≤ n) (h4 : n ≤ 4096) : Calls Tryd.prog 60 #[.int .i64 n] w (Ret fun v w' => ∃ (a0 : Option Addr) (c0 : Nat) (ss : List SV), v = .tuple #[.agg #[.int .i64 n, .slice a0 n.toNat c0], .int .i64 0] ∧ Ext w w' ∧ OwnsR M 91 94 w ss (List.replicate n.toNat (newR n)) (.slice a0 n.toNat c0) w') := by
  refine enter 29 Tryd.func60 rfl rfl rfl fun f0 ha => ?_
  have H := HI.start (M0 := M) (w := w) hM
  have i0 : f0 0 = .int .i64 n := ha 0 (by simp)
  refine sq (rg (k (al H ty86 ?_)))
  intro bb0 w0 xt0 (H0 : HI M w w0 [box bb0 #[.int .i64 0, .slice none 0 0] 86])
  refine k (asg (v := .int .i64 0) rfl rfl (z (nx (sq (sq (rg (k (mv rfl i0 (k (lss rfl rfl rfl rfl (k (mv (v := .bool (decide (n < 0))) rfl rfl ?_))))))))))))
  have b0 : decide (n < 0) = false := decide_eq_false (by omega)
  refine k (gy rfl rfl rfl b0 (mv rfl i0 (k (gy rfl rfl rfl b0 (gtr rfl rfl rfl rfl (k (pickF rfl rfl rfl rfl b0 rfl (z (nx ?_)))))))))
  refine cd (b := decide (4096 < n)) rfl rfl (fun b1 => ?_) (fun b1 => ?_)
  · exact absurd (of_decide_eq_true b1) (by omega)
  refine sk (nx (sq (rg (k (mv rfl i0 (k ?_))))))
  have n0 : ((n.toNat : Nat) : Int) = n := Int.toNat_of_nonneg (by omega)
  refine mk (m := n.toNat) (zx := (⟨none, 0, 0⟩ : SV)) H0 rfl rfl (by rw [n0]; exact rfl) (by rw [n0]; exact rfl) un84 ty91 (fun _ _ => rfl) (by first | omega | (simp; omega)) (by first | omega | (simp; omega)) ?_
  intro g0 w1 xt1 (H1 : HI M w w1 [own w.heap.size 91 (.slice (some ⟨g0, 0, none⟩) n.toNat n.toNat) (List.replicate n.toNat (⟨none, 0, 0⟩ : SV)), box bb0 #[.int .i64 0, .slice none 0 0] 86])
  refine k (asg (v := .slice (some ⟨g0, 0, none⟩) n.toNat n.toNat) rfl rfl (z (nx (sq (sq (rg (k (mv (v := .slice (some ⟨g0, 0, none⟩) n.toNat n.toNat) rfl rfl (k (lnS rfl rfl un84 (k (mv (v := .int .i64 0) rfl rfl (z (nx (bk ?_)))))))))))))))
  refine lp (fun m f w' => ∃ (j : Nat) (ss : List SV), m = n.toNat - j ∧ f 0 = .int .i64 n ∧ f 2 = .pointer (some ⟨bb0, 0, none⟩) ∧ f 4 = .slice (some ⟨g0, 0, none⟩) n.toNat n.toNat ∧ f 16 = .int .i64 (n.toNat : Int) ∧ f 17 = .int .i64 (j : Int) ∧ HI M w w' ([own w.heap.size 91 (.slice (some ⟨g0, 0, none⟩) n.toNat n.toNat) (ss ++ List.replicate (n.toNat - j) (⟨none, 0, 0⟩ : SV)), box bb0 #[.int .i64 0, .slice none 0 0] 86] ++ rowItems w.heap.size 94 ss (List.replicate j (newR n))) ∧ j ≤ n.toNat ∧ ss.length = j) _ ⟨0, [], rfl, i0, rfl, rfl, rfl, rfl, H1, Nat.zero_le _, rfl⟩ ?_
  rintro _ f0 w2 ⟨j, ss, rfl, s0, s1, s2, s3, s4, H2, hk, hl⟩
  refine sq (rg (k (lss rfl rfl s4 s3 (z (nx (sq ?_))))))
  refine cd (b := decide ((j : Int) < (n.toNat : Int))) rfl rfl (fun b2 => ?_) (fun b2 => ?_)
  ·
    have p2 := of_decide_eq_true b2
    refine sk (nx (sq (bk (sq (rg (k (mv rfl s4 (k (asg (v := .int .i64 (j : Int)) rfl rfl (z (nx (rg (k (mv rfl s2 (k (mv (v := .int .i64 (j : Int)) rfl rfl (k (mv rfl s0 (k ?_)))))))))))))))))))
    have cc0 := row_New (n := n) (w := w2) H2.mb (by unfold I64 at *; omega) (by first | omega | (simp; omega))
    refine ca go69 rfl (ec rfl e0) cc0 ?_
    rintro _ w3 ⟨a0, c0, rfl, xt2, rv0⟩
    have H3 := H2.ownsG rv0
    have hjl : j < (ss ++ List.replicate (n.toNat - j) (⟨none, 0, 0⟩ : SV)).length := by rw [List.length_append, List.length_replicate]; omega
    refine k (iaO (H3.at_ 1 rfl) rfl rfl rfl rfl (by omega) un84 ty91 ?_)
    intro g1 x0 hv0 hx0 hA0
    refine k (stO (yv := (⟨a0, (newR n).length, c0⟩ : SV)) H3 1 rfl hv0 rfl (by omega) ty91 rfl rfl rfl rfl (RV.sv.2 rfl) ?_)
    intro w4 H4
    have H5 : HI M w w4 (own w.heap.size 94 (⟨a0, (newR n).length, c0⟩ : SV).v (newR n) :: ([own w.heap.size 91 (.slice (some ⟨g0, 0, none⟩) n.toNat n.toNat) ((ss ++ List.replicate (n.toNat - j) (⟨none, 0, 0⟩ : SV)).set ((j : Int).toNat) ⟨a0, (newR n).length, c0⟩), box bb0 #[.int .i64 0, .slice none 0 0] 86] ++ rowItems w.heap.size 94 ss (List.replicate j (newR n)))) := H4
    have H6 := H5.rowEnd (by rw [List.length_replicate]; exact hl)
    have es : (ss ++ List.replicate (n.toNat - j) (⟨none, 0, 0⟩ : SV)).set ((j : Int).toNat) ⟨a0, (newR n).length, c0⟩ = (ss ++ [⟨a0, (newR n).length, c0⟩]) ++ List.replicate (n.toNat - (j + 1)) (⟨none, 0, 0⟩ : SV) := by
      rw [Int.toNat_natCast, List.set_append_right _ _ (by omega), hl, Nat.sub_self, show n.toNat - j = n.toNat - (j + 1) + 1 from by omega, List.replicate_succ, List.set_cons_zero]; simp
    rw [es, ← List.replicate_succ'] at H6
    refine z (inb_normal (nx (rg (k (add rfl rfl s4 rfl (by unfold I64 at *; omega) (k (mv (v := .int .i64 ((j : Int) + 1)) rfl rfl (z ?_))))))))
    refine loopN _ ?_ ⟨(j + 1), (ss ++ [⟨a0, (newR n).length, c0⟩]), rfl, s0, s1, s2, s3, (ieq rfl (by first | rfl | omega | (push_cast; omega))), H6, (by omega), (by rw [List.length_append, hl]; rfl)⟩
    omega
  ·
    have p2 := of_decide_eq_false b2
    obtain rfl : j = n.toNat := by omega
    rw [Nat.sub_self, List.replicate_zero, List.append_nil] at H2
    refine ex (then_exit (loop_exit (inb_here (nx (sq (rg (k (mv rfl s0 (k (mv rfl s2 (k (bd (v := .agg #[.int .i64 n, .slice (some ⟨g0, 0, none⟩) n.toNat n.toNat]) rfl (pbc rfl (pbc rfl pb0)) (fun _ => by kernel_rfl) (k (stX H2 1 rfl ty86 rfl rfl s1 rfl rfl rfl rfl ?_))))))))))))))
    intro w3 H3
    have H4 : HI M w w3 ([own w.heap.size 91 (.slice (some ⟨g0, 0, none⟩) n.toNat n.toNat) ss, box bb0 #[.int .i64 n, .slice (some ⟨g0, 0, none⟩) n.toNat n.toNat] 86] ++ rowItems w.heap.size 94 ss (List.replicate n.toNat (newR n))) := H3
    refine k (asg (v := .int .i64 0) rfl rfl (z (nx (rt (rc2 H4 1 rfl ty86 rfl rfl rfl s1 rfl (by decide) ?_)))))
    exact ⟨(some ⟨g0, 0, none⟩), n.toNat, ss, rfl, H4.below, by rw [List.length_replicate]; exact hl, H4.pickT (l' := [own w.heap.size 91 (.slice (some ⟨g0, 0, none⟩) n.toNat n.toNat) ss]) [0] (by decide) rfl rfl⟩
end Go.Proofs.YtefcbihikknlkaaDoor
