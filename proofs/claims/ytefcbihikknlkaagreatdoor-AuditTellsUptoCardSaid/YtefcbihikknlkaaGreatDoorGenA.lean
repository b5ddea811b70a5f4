/- PRINTED by my own tool (wip/tool/gen.py): contracts of Go functions of this seat, each with its proof. -/
import Derived.Test.YtefcbihikknlkaaGreatDoorProg
import Derived.Test.YtefcbihikknlkaaGreatDoorOwnB
import Derived.Test.YtefcbihikknlkaaGreatDoorOwnA
set_option linter.unusedVariables false
set_option linter.unusedSimpArgs false
namespace Go.Proofs.YtefcbihikknlkaaGreatDoor
open Go.Ew Go.RowKit
set_option maxRecDepth 100000
set_option maxHeartbeats 1600000
attribute [local irreducible] WL WC SO PW PX Code.wp wpList retQ Ret
attribute [local irreducible] bitB hasW inR hasR setR countW countR subR words newR listR orR firstW tab8
variable {M : Nat → Prop} {w w_ : World}
theorem un150 : Tryz.prog.underlying 150 = some (.int .u64) := by kernel_rfl
theorem un3 : Tryz.prog.underlying 3 = some (.int .i64) := by kernel_rfl
theorem go126 : GoF Tryz.prog 126 := ⟨_, _, Tryz.func126, rfl, by kernel_rfl⟩
theorem un152 : Tryz.prog.underlying 152 = some (.array 64 5) := by kernel_rfl
theorem ty5 : TyF Tryz.prog 5 1 false 1 (.int .u8 0) := ⟨by kernel_rfl, by kernel_rfl⟩
theorem un5 : Tryz.prog.underlying 5 = some (.int .u8) := by kernel_rfl
theorem go135 : GoF Tryz.prog 135 := ⟨_, _, Tryz.func135, rfl, by kernel_rfl⟩
theorem un115 : Tryz.prog.underlying 115 = some (.slice 137) := by kernel_rfl
theorem go125 : GoF Tryz.prog 125 := ⟨_, _, Tryz.func125, rfl, by kernel_rfl⟩
theorem ty137 : TyF Tryz.prog 137 1 false 8 (.int .u64 0) := ⟨by kernel_rfl, by kernel_rfl⟩
theorem go137 : GoF Tryz.prog 137 := ⟨_, _, Tryz.func137, rfl, by kernel_rfl⟩
theorem go124 : GoF Tryz.prog 124 := ⟨_, _, Tryz.func124, rfl, by kernel_rfl⟩
theorem go139 : GoF Tryz.prog 139 := ⟨_, _, Tryz.func139, rfl, by kernel_rfl⟩
theorem go123 : GoF Tryz.prog 123 := ⟨_, _, Tryz.func123, rfl, by kernel_rfl⟩
theorem un30 : Tryz.prog.underlying 30 = some (.slice 3) := by kernel_rfl
theorem ty3 : TyF Tryz.prog 3 1 false 8 (.int .i64 0) := ⟨by kernel_rfl, by kernel_rfl⟩
theorem go107 : GoF Tryz.prog 107 := ⟨_, _, Tryz.func107, rfl, by kernel_rfl⟩
theorem go122 : GoF Tryz.prog 122 := ⟨_, _, Tryz.func122, rfl, by kernel_rfl⟩
theorem go121 : GoF Tryz.prog 121 := ⟨_, _, Tryz.func121, rfl, by kernel_rfl⟩
theorem go106 : GoF Tryz.prog 106 := ⟨_, _, Tryz.func106, rfl, by kernel_rfl⟩
theorem word_Bit {i : Int} (h_i : I64 i) : Calls Tryz.prog 126 #[.int .i64 i] w (Ret fun v w' =>  v = U (bitB i) ∧ Ext w w') := by
 refine enter 9 Tryz.func126 rfl rfl rfl fun f0 ha => ?_
 have H := HI.start (M0 := (fun _ => False)) (w := w) (fun _ h => h.elim)
 have i0 : f0 0 = iV i := ha 0 (by simp)
 refine sq (rg (k (asg (v := U (0#64)) rfl rfl (z (nx (sq (sq (rg (k (mv rfl i0 (k (cvU rfl rfl un3 un150 (k (gtU (BitVec.ofInt 64 i) (63#64) rfl rfl rfl rfl (z (nx ?_))))))))))))))))
 refine cd (b := decide ((63#64).toNat < (BitVec.ofInt 64 i).toNat)) rfl rfl (fun b0 => ?_) (fun b0 => ?_)
 ·
  have p0 := dT b0
  refine sq (rg (k (asg (v := U (0#64)) rfl rfl (z (nx (rt (then_ret (r1 rfl rfl ?_))))))))
  exact ⟨congrArg U (by exact bitB_hi h_i p0), H.below⟩
 have p0 := dF b0
 refine sk (nx (sq (rg (k (mv rfl i0 (k (cvU rfl rfl un3 un150 (k (shlU (1#64) ((BitVec.ofInt 64 i).toNat : Int) (by omega) rfl rfl rfl rfl (k (asg (v := U ((1#64) <<< ((BitVec.ofInt 64 i).toNat : Int).toNat)) rfl rfl (z (nx (rt (r1 rfl rfl ?_)))))))))))))))
 exact ⟨congrArg U (by exact bitB_lo h_i p0), H.below⟩
theorem word_Has {x : BitVec 64} {i : Int} (h_i : I64 i) : Calls Tryz.prog 137 #[U x, .int .i64 i] w (Ret fun v w' =>  v = .bool (hasW x i) ∧ Ext w w') := by
 refine enter 10 Tryz.func137 rfl rfl rfl fun f0 ha => ?_
 have H := HI.start (M0 := (fun _ => False)) (w := w) (fun _ h => h.elim)
 have i0 : f0 0 = U x := ha 0 (by simp)
 have i1 : f0 1 = iV i := ha 1 (by simp)
 refine sq (rg (k (asg (v := .bool false) rfl rfl (z (nx (sq (rg (k (mv rfl i0 (k (mv rfl i1 (k ?_))))))))))))
 have cc0 := word_Bit (i := i) (w := w) h_i
 refine ca go126 rfl (ec rfl e0) cc0 ?_
 rintro _ w0 ⟨rfl, xt0⟩
 have H0 := H.ext xt0
 refine k (andU x (bitB i) rfl rfl rfl rfl (k (neU (x &&& (bitB i)) (0#64) rfl rfl rfl rfl (k (asg (v := .bool (!decide ((x &&& (bitB i)) = (0#64)))) rfl rfl (z (nx (rt (r1 rfl rfl ?_)))))))))
 exact ⟨congrArg Value.bool (by exact hasW_eq _ _), H0.below⟩
theorem zeros64 {x : BitVec 64} (hT : TabAt 0 w) : Calls Tryz.prog 135 #[U x] w (Ret fun v w' =>  v = .int .i64 ((firstW x : Nat) : Int) ∧ Ext w w') := by
 refine enter 14 Tryz.func135 rfl rfl rfl fun f0 ha => ?_
 have H := HI.start (M0 := (fun _ => False)) (w := w) (fun _ h => h.elim)
 have i0 : f0 0 = U x := ha 0 (by simp)
 refine sq (rg (k (asg (v := iV 0) rfl rfl (z (nx (sq (sq (rg (k (mv rfl i0 (k (eqU x (0#64) rfl rfl rfl rfl (z (nx ?_))))))))))))))
 refine cd (b := decide (x = (0#64))) rfl rfl (fun b0 => ?_) (fun b0 => ?_)
 ·
  have p0 := dT b0
  refine sq (rg (k (asg (v := iV 64) rfl rfl (z (nx (rt (then_ret (r1 rfl rfl ?_))))))))
  exact ⟨congrArg (Value.int .i64) (by first | (have e_ := p0; subst e_; rw [firstW_zero]; rfl) | exact zeros_eq (by simpa using p0)), H.below⟩
 have p0 := dF b0
 refine sk (nx (sq (rg (k (mv rfl i0 (k (mv rfl i0 (k (negU x rfl rfl (k (andU x (-x) rfl rfl rfl rfl (k (mulU (x &&& (-x)) (285870213051353865#64) rfl rfl rfl rfl (k (shrUn ((x &&& (-x)) * (285870213051353865#64)) 58 rfl rfl rfl rfl (k (iaAn (i := (((x &&& (-x)) * (285870213051353865#64)) >>> 58).toNat) rfl rfl rfl rfl (by exact zeros_lt (by simpa using p0)) un152 ty5 (k (ld8 (tabA (M := fun _ => False) hT H.below rfl (by exact zeros_lt (by simpa using p0))) ty5 rfl rfl (k (cvI rfl rfl (by unfold I64 at *; omega) un5 un3 (k (asg (v := iV ((tab8 (((x &&& (-x)) * (285870213051353865#64)) >>> 58).toNat).toNat : Int)) rfl rfl (z (nx (rt (r1 rfl rfl ?_)))))))))))))))))))))))))))
 exact ⟨congrArg (Value.int .i64) (by first | (have e_ := p0; subst e_; rw [firstW_zero]; rfl) | exact zeros_eq (by simpa using p0)), H.below⟩
theorem word_First {x : BitVec 64} (hT : TabAt 0 w) : Calls Tryz.prog 123 #[U x] w (Ret fun v w' =>  v = .int .i64 ((firstW x : Nat) : Int) ∧ Ext w w') := by
 refine enter 5 Tryz.func123 rfl rfl rfl fun f0 ha => ?_
 have H := HI.start (M0 := (fun _ => False)) (w := w) (fun _ h => h.elim)
 have i0 : f0 0 = U x := ha 0 (by simp)
 refine sq (rg (k (asg (v := iV 0) rfl rfl (z (nx (sq (rg (k (mv rfl i0 (k ?_))))))))))
 have cc0 := zeros64 (x := x) (w := w) (hT.ext H.below)
 refine ca go135 rfl (ec rfl e0) cc0 ?_
 rintro _ w0 ⟨rfl, xt0⟩
 have H0 := H.ext xt0
 refine k (asg (v := iV ((firstW x : Nat) : Int)) rfl rfl (z (nx (rt (r1 rfl rfl ?_)))))
 exact ⟨rfl, H0.below⟩
theorem row_in {a_r : OA} {c_r : Nat} {r : List (BitVec 64)} {i : Int} (hM : ∀ b, M b → b < w.heap.size) (h_r : RV M w (.slice a_r r.length c_r) r) (h_i : I64 i) : Calls Tryz.prog 125 #[.slice a_r r.length c_r, .int .i64 i] w (Ret fun v w' =>  v = .bool (inR r i) ∧ Ext w w') := by
 refine enter 14 Tryz.func125 rfl rfl rfl fun f0 ha => ?_
 have H := HI.start (M0 := M) (w := w) hM
 have H0 := H.put (it := iL a_r r c_r) rfl (by rw [MS_nil]; exact h_r)
 have ln_r := rv_len h_r
 have i0 : f0 0 = sL a_r r c_r := ha 0 (by simp)
 have i1 : f0 1 = iV i := ha 1 (by simp)
 refine sq (rg (k (asg (v := .bool false) rfl rfl (z (nx (sq (rg (k (mv rfl i1 (k (geq rfl rfl rfl rfl (k (mv (v := .bool (decide (0 ≤ i))) rfl rfl ?_)))))))))))))
 rcases bE (decide (0 ≤ i)) with b0 | b0
 ·
  have p0 := dT b0
  refine k (gy rfl rfl rfl b0 (mv rfl i1 (k (gy rfl rfl rfl b0 (shrI rfl rfl rfl rfl (k (gy rfl rfl rfl b0 (mv rfl i0 (k (gy rfl rfl rfl b0 (lnS rfl rfl un115 (k (gy rfl rfl rfl b0 (lss rfl rfl rfl rfl (k (pickT rfl rfl rfl rfl b0 rfl (k (asg (v := .bool (decide ((i / 64) < (r.length : Int)))) rfl rfl (z (nx (rt (r1 rfl rfl ?_))))))))))))))))))))))
  exact ⟨congrArg Value.bool (by exact inR_yes p0), H0.below⟩
 have p0 := dF b0
 refine k (gn rfl rfl rfl b0 (k (gn rfl rfl rfl b0 (k (gn rfl rfl rfl b0 (k (gn rfl rfl rfl b0 (k (gn rfl rfl rfl b0 (k (pickF rfl rfl rfl rfl b0 rfl (k (asg (v := .bool false) rfl rfl (z (nx (rt (r1 rfl rfl ?_)))))))))))))))))
 exact ⟨congrArg Value.bool (by exact inR_no (by omega)), H0.below⟩
theorem row_Has {a_r : OA} {c_r : Nat} {r : List (BitVec 64)} {i : Int} (hM : ∀ b, M b → b < w.heap.size) (h_r : RV M w (.slice a_r r.length c_r) r) (h_i : I64 i) : Calls Tryz.prog 130 #[.slice a_r r.length c_r, .int .i64 i] w (Ret fun v w' =>  v = .bool (hasR r i) ∧ Ext w w') := by
 refine enter 18 Tryz.func130 rfl rfl rfl fun f0 ha => ?_
 have H := HI.start (M0 := M) (w := w) hM
 have H0 := H.put (it := iL a_r r c_r) rfl (by rw [MS_nil]; exact h_r)
 have ln_r := rv_len h_r
 have i0 : f0 0 = sL a_r r c_r := ha 0 (by simp)
 have i1 : f0 1 = iV i := ha 1 (by simp)
 refine sq (rg (k (asg (v := .bool false) rfl rfl (z (nx (sq (rg (k (mv rfl i0 (k (mv rfl i1 (k ?_))))))))))))
 have cc0 := row_in (r := r) (i := i) (w := w) H0.mb (H0.rv 0 rfl) h_i
 refine ca go125 rfl (ec rfl (ec rfl e0)) cc0 ?_
 rintro _ w0 ⟨rfl, xt0⟩
 have H1 := H0.ext xt0
 refine k (mv (v := .bool (inR r i)) rfl rfl ?_)
 rcases bE (inR r i) with b0 | b0
 ·
  refine k (gy rfl rfl rfl b0 (mv rfl i0 (k (gy rfl rfl rfl b0 (mv rfl i1 (k (gy rfl rfl rfl b0 (shrI rfl rfl rfl rfl (k (gy rfl rfl rfl b0 (ia (H1.rv 0 rfl) rfl rfl rfl rfl (by have hb := b0; unfold inR at hb; simp only [decide_eq_true_eq] at hb; omega) un115 ty137 ?_)))))))))))
  intro ad0 x0 hx0 hA0
  refine k (gy rfl rfl rfl b0 (ldU hA0.w ty137 rfl rfl (k (gy rfl rfl rfl b0 (mv rfl i1 (k (gy rfl rfl rfl b0 (and63 rfl rfl rfl rfl (k (gy rfl rfl rfl b0 ?_))))))))))
  have cc1 := word_Has (x := x0) (i := (i % 64)) (w := w0) (by unfold I64 at *; omega)
  refine ca go137 rfl (ec rfl (ec rfl e0)) cc1 ?_
  rintro _ w1 ⟨rfl, xt1⟩
  have H2 := H1.ext xt1
  refine k (pickT rfl rfl rfl rfl b0 rfl (k (asg (v := .bool (hasW x0 (i % 64))) rfl rfl (z (nx (rt (r1 rfl rfl ?_)))))))
  exact ⟨congrArg Value.bool (by exact hasR_in b0 hx0), H2.below⟩
 refine k (gn rfl rfl rfl b0 (k (gn rfl rfl rfl b0 (k (gn rfl rfl rfl b0 (k (gn rfl rfl rfl b0 (k (gn rfl rfl rfl b0 (k (gn rfl rfl rfl b0 (k (gn rfl rfl rfl b0 (k (gn rfl rfl rfl b0 (k (pickF rfl rfl rfl rfl b0 rfl (k (asg (v := .bool false) rfl rfl (z (nx (rt (r1 rfl rfl ?_)))))))))))))))))))))))
 exact ⟨congrArg Value.bool (by exact hasR_out b0), H1.below⟩
theorem clone_u64 {a_r : OA} {c_r : Nat} {r : List (BitVec 64)} (hM : ∀ b, M b → b < w.heap.size) (h_r : RV M w (.slice a_r r.length c_r) r) (hl_r : r.length ≤ 1000000000) : Calls Tryz.prog 124 #[.slice a_r r.length c_r] w (Ret fun v w' => ∃ (a0 : OA) (c0 : Nat), v = .slice a0 r.length c0 ∧ Ext w w' ∧ OwnsG M 137 w r (.slice a0 r.length c0) w') := by
 refine enter 8 Tryz.func124 rfl rfl rfl fun f0 ha => ?_
 have H := HI.start (M0 := M) (w := w) hM
 have H0 := H.put (it := iL a_r r c_r) rfl (by rw [MS_nil]; exact h_r)
 have ln_r := rv_len h_r
 have i0 : f0 0 = sL a_r r c_r := ha 0 (by simp)
 refine sq (rg (k (asg (v := .slice none 0 0) rfl rfl (z (nx (sq (sq (rg (k (mv rfl i0 (k (eqN rfl rfl rfl rfl un115 (z (nx ?_))))))))))))))
 refine cd (b := a_r.isNone) rfl rfl (fun b0 => ?_) (fun b0 => ?_)
 ·
  refine sq (rg (k (asg (v := .slice none 0 0) rfl rfl (z (nx (rt (then_ret (r1 rfl rfl ?_))))))))
  have e0 : ([] : List (BitVec 64)) = r := by exact (rv_none h_r b0).symm
  have ev_ := cg1 (fun (x_0 : List (BitVec 64)) => (.slice none x_0.length 0 : Value)) e0
  exact ⟨none, 0, ev_, H0.below, (congrArg (fun (x_ : List (BitVec 64)) => OwnsG _ _ _ x_ (.slice none x_.length 0) _) e0).mp (ownsG_nil H0.below)⟩
 refine sk (nx (sq (rg (k (bs (xs := ([] : List (BitVec 64))) (cells := #[]) (e := 137) H0 rfl pb0 (fun _ => by kernel_rfl) rfl rfl (by decide) ?_)))))
 intro g0 w0 xt0 H1
 refine k (mv rfl i0 (k (apB H1 0 rfl rfl rfl rfl rfl rfl (H1.rv 1 rfl).src un115 ty137 rfl (by first | omega | (simp; omega)) rfl ?_)))
 intro a0 c0 w1 (H2 : HI M w w1 [oL w 137 a0 r c0, iL a_r r c_r])
 refine k (asg (v := sL a0 r c0) rfl rfl (z (nx (rt (r1 rfl rfl ?_)))))
 exact ⟨a0, c0, rfl, H2.below, (H2.ownsG_out 0 rfl)⟩
theorem row_Set {a_r : OA} {c_r : Nat} {r : List (BitVec 64)} {i : Int} (hM : ∀ b, M b → b < w.heap.size) (h_r : RV M w (.slice a_r r.length c_r) r) (h_i : I64 i) (hl_r : r.length ≤ 1000000000) : Calls Tryz.prog 112 #[.slice a_r r.length c_r, .int .i64 i] w (Ret fun v w' => ∃ (a0 : OA) (c0 : Nat), v = .slice a0 (setR r i).length c0 ∧ Ext w w' ∧ OwnsG M 137 w (setR r i) (.slice a0 (setR r i).length c0) w') := by
 refine enter 22 Tryz.func112 rfl rfl rfl fun f0 ha => ?_
 have H := HI.start (M0 := M) (w := w) hM
 have H0 := H.put (it := iL a_r r c_r) rfl (by rw [MS_nil]; exact h_r)
 have ln_r := rv_len h_r
 have i0 : f0 0 = sL a_r r c_r := ha 0 (by simp)
 have i1 : f0 1 = iV i := ha 1 (by simp)
 refine sq (rg (k (asg (v := .slice none 0 0) rfl rfl (z (nx (sq (rg (k (mv rfl i0 (k ?_))))))))))
 have cc0 := clone_u64 (r := r) (w := w) H0.mb (H0.rv 0 rfl) (by omega)
 refine ca go124 rfl (ec rfl e0) cc0 ?_
 rintro _ w0 ⟨a0, c0, rfl, xt0, rv0⟩
 have H1 := H0.ownsG rv0
 refine k (asg (v := sL a0 r c0) rfl rfl (z (nx (sq (sq (rg (k (mv rfl i0 (k (mv rfl i1 (k ?_)))))))))))
 have cc1 := row_in (r := r) (i := i) (w := w0) H1.mb (H1.rv 1 rfl) h_i
 refine ca go125 rfl (ec rfl (ec rfl e0)) cc1 ?_
 rintro _ w1 ⟨rfl, xt1⟩
 have H2 := H1.ext xt1
 refine z (nx ?_)
 refine cd (b := inR r i) rfl rfl (fun b0 => ?_) (fun b0 => ?_)
 ·
  obtain ⟨x0, hx0⟩ : ∃ x, r[(i / 64).toNat]? = some x := ⟨_, gE_ (by have hb := b0; unfold inR at hb; simp only [decide_eq_true_eq] at hb; omega)⟩
  refine dr 8 [eV (sL a0 r c0), eV (iV i), eV (iV (i / 64)), fun v w' => ∃ (g0 : Nat), v = .pointer (some ⟨g0, (i / 64).toNat * 1, none⟩) ∧ (.slice a0 r.length c0 : Value).ownBlock = some g0 ∧ AtW (MS M [oL w 137 a0 r c0, iL a_r r c_r]) w' ⟨g0, (i / 64).toNat * 1, none⟩ x0, eV (U x0), eV (iV i), eV (iV (i % 64)), eV (U (bitB (i % 64)))] rfl (by kernel_rfl) ?_ ?_
  ·
   refine dc (fun _ _ hf0 _ _ => mv rfl (hf0 5 rfl) (d0 rfl rfl)) ?_
   refine dc (fun _ _ hf1 _ _ => mv rfl ((hf1 1 rfl).trans i1) (d0 rfl rfl)) ?_
   refine dc (fun _ _ _ _ hp2 => shrI rfl rfl (hp2 1 rfl rfl) rfl (d0 rfl rfl)) ?_
   refine ⟨fun _ => ⟨fun f3 w6 hf3 xt6 hp3 => ?_, by rintro _ _ _ x_ ⟨g0, e_, hv0, hA0⟩; exact ⟨g0, e_, hv0, hA0.ext x_⟩⟩, ?_⟩
   ·
    have H7 := H2.ext xt6
    have s1 : f3 11 = sL a0 r c0 := hp3 0 rfl rfl
    have s2 : f3 13 = iV (i / 64) := hp3 2 rfl rfl
    refine iaO (H7.at_ 0 rfl) rfl rfl s1 s2 (by have hb := b0; unfold inR at hb; simp only [decide_eq_true_eq] at hb; omega) un115 ty137 ?_
    intro g1 x1 hv1 hx1 hA1
    obtain rfl : x0 = x1 := Option.some.inj (hx0.symm.trans hx1)
    exact ⟨_, rfl, Ext.refl _, ⟨g1, rfl, hv1, hA1⟩⟩
   refine dc (fun f4 w7 hf4 xt7 hp4 => ?_) ?_
   ·
    obtain ⟨g2, s3, hv2, hA2⟩ : ∃ (g2 : Nat), f4 14 = .pointer (some ⟨g2, (i / 64).toNat * 1, none⟩) ∧ (.slice a0 r.length c0 : Value).ownBlock = some g2 ∧ AtW (MS M [oL w 137 a0 r c0, iL a_r r c_r]) w7 ⟨g2, (i / 64).toNat * 1, none⟩ x0 := hp4 3 rfl rfl
    refine ldU hA2 ty137 rfl s3 ?_
    exact ⟨_, rfl, Ext.refl _, rfl⟩
   refine dc (fun _ _ hf5 _ _ => mv rfl ((hf5 1 rfl).trans i1) (d0 rfl rfl)) ?_
   refine dc (fun _ _ _ _ hp6 => and63 rfl rfl (hp6 5 rfl rfl) rfl (d0 rfl rfl)) ?_
   refine dc (fun f7 w10 hf7 xt10 hp7 => ?_) ?_
   ·
    have s5 : f7 17 = iV (i % 64) := hp7 6 rfl rfl
    have cc3 := word_Bit (i := (i % 64)) (w := w10) (by unfold I64 at *; omega)
    refine ca go126 rfl (ec s5 e0) cc3 ?_
    rintro _ w11 ⟨rfl, xt11⟩
    exact ⟨_, rfl, xt11, rfl⟩
   exact DSteps.rest rfl _
  ·
   intro f8 w12 hf8 xt12 hp8
   have H13 := H2.ext xt12
   have s6 : f8 5 = sL a0 r c0 := hf8 5 rfl
   have s7 : f8 11 = sL a0 r c0 := hp8 0 rfl
   have s8 : f8 13 = iV (i / 64) := hp8 2 rfl
   have s9 : f8 15 = U x0 := hp8 4 rfl
   have s10 : f8 18 = U (bitB (i % 64)) := hp8 7 rfl
   refine k (orU x0 (bitB (i % 64)) rfl rfl s9 s10 (k (iaO (H13.at_ 0 rfl) rfl rfl s7 s8 (by have hb := b0; unfold inR at hb; simp only [decide_eq_true_eq] at hb; omega) un115 ty137 ?_)))
   intro g3 x2 hv3 hx2 hA3
   refine k (stO H13 0 rfl hv3 rfl (by have hb := b0; unfold inR at hb; simp only [decide_eq_true_eq] at hb; omega) ty137 rfl rfl rfl rfl (RV.bv.2 rfl) ?_)
   intro w13 (H14 : HI M w w13 [own w.heap.size 137 (.slice a0 r.length c0) (r.set ((i / 64).toNat) (x0 ||| (bitB (i % 64)))), iL a_r r c_r])
   refine z (nx (sq (rg (k (mv rfl s6 (k (asg (v := sL a0 r c0) rfl rfl (z (nx (rt (r1 rfl rfl ?_)))))))))))
   have e0 : (r.set ((i / 64).toNat) (x0 ||| (bitB (i % 64))) : List (BitVec 64)) = setR r i := by exact setR_in b0 hx0
   have l0 : r.length = (setR r i).length := by first | rfl | (rw [← e0]; simp) | simp
   have ev_ := cg1 (fun (n_0 : Nat) => (.slice a0 n_0 c0 : Value)) l0
   exact ⟨a0, c0, ev_, H14.below, (congrArg (fun (n_ : Nat) => OwnsG _ _ _ (setR r i) (.slice a0 n_ c0) _) l0).mp ((congrArg (fun (x_ : List (BitVec 64)) => OwnsG _ _ _ x_ (.slice a0 r.length c0) _) e0).mp (H14.ownsG_out 0 rfl))⟩
 refine sk (nx (sq (rg (k (mv (v := sL a0 r c0) rfl rfl (k (asg (v := sL a0 r c0) rfl rfl (z (nx (rt (r1 rfl rfl ?_)))))))))))
 have e0 : (r : List (BitVec 64)) = setR r i := by exact setR_out b0
 have ev_ := cg1 (fun (x_0 : List (BitVec 64)) => (.slice a0 x_0.length c0 : Value)) e0
 exact ⟨a0, c0, ev_, H2.below, (congrArg (fun (x_ : List (BitVec 64)) => OwnsG _ _ _ x_ (.slice a0 x_.length c0) _) e0).mp (H2.ownsG_out 0 rfl)⟩
theorem row_Words {n : Int} (h_n : I64 n) (hn : n ≤ 1000000000000000000) : Calls Tryz.prog 139 #[.int .i64 n] w (Ret fun v w' =>  v = .int .i64 ((words n : Nat) : Int) ∧ Ext w w') := by
 refine enter 8 Tryz.func139 rfl rfl rfl fun f0 ha => ?_
 have H := HI.start (M0 := (fun _ => False)) (w := w) (fun _ h => h.elim)
 have i0 : f0 0 = iV n := ha 0 (by simp)
 refine sq (rg (k (asg (v := iV 0) rfl rfl (z (nx (sq (rg (k (mv rfl i0 (k (max2 rfl rfl rfl rfl (k (add rfl rfl rfl rfl (by unfold I64 at *; omega) (k (sub rfl rfl rfl rfl (by unfold I64 at *; omega) (k (quo rfl rfl rfl rfl (by omega) (k (asg (v := iV ((((max n 0) + 64) - 1) / 64)) rfl rfl (z (nx (rt (r1 rfl rfl ?_)))))))))))))))))))))))
 exact ⟨congrArg (Value.int .i64) (by unfold words; omega), H.below⟩
theorem row_New {n : Int} (hM : ∀ b, M b → b < w.heap.size) (h_n : I64 n) (hn : n ≤ 1000000) : Calls Tryz.prog 136 #[.int .i64 n] w (Ret fun v w' => ∃ (a0 : OA) (c0 : Nat), v = .slice a0 (newR n).length c0 ∧ Ext w w' ∧ OwnsG M 137 w (newR n) (.slice a0 (newR n).length c0) w') := by
 refine enter 6 Tryz.func136 rfl rfl rfl fun f0 ha => ?_
 have H := HI.start (M0 := M) (w := w) hM
 have i0 : f0 0 = iV n := ha 0 (by simp)
 refine sq (rg (k (asg (v := .slice none 0 0) rfl rfl (z (nx (sq (rg (k (mv rfl i0 (k ?_))))))))))
 have cc0 := row_Words (n := n) (w := w) h_n (by omega)
 refine ca go139 rfl (ec rfl e0) cc0 ?_
 rintro _ w0 ⟨rfl, xt0⟩
 have H0 := H.ext xt0
 refine k (mk (m := (words n : Nat)) (zx := (0#64 : (BitVec 64))) H0 rfl rfl rfl rfl un115 ty137 (fun _ _ => rfl) (by unfold words; omega) (by unfold words; omega) ?_)
 intro g0 w1 xt1 (H1 : HI M w w1 [own w.heap.size 137 (.slice (some ⟨g0, 0, none⟩) (words n : Nat) (words n : Nat)) (List.replicate (words n : Nat) (0#64 : (BitVec 64)))])
 refine k (asg (v := .slice (some ⟨g0, 0, none⟩) (words n : Nat) (words n : Nat)) rfl rfl (z (nx (rt (r1 rfl rfl ?_)))))
 have e0 : ((List.replicate (words n : Nat) (0#64 : (BitVec 64))) : List (BitVec 64)) = newR n := by unfold newR; rfl
 have l0 : (words n : Nat) = (newR n).length := by first | rfl | (rw [← e0]; simp) | simp
 have ev_ := cg1 (fun (n_0 : Nat) => (.slice (some ⟨g0, 0, none⟩) n_0 (words n : Nat) : Value)) l0
 exact ⟨(some ⟨g0, 0, none⟩), (words n : Nat), ev_, H1.below, (congrArg (fun (n_ : Nat) => OwnsG _ _ _ (newR n) (.slice (some ⟨g0, 0, none⟩) n_ (words n : Nat)) _) l0).mp ((congrArg (fun (x_ : List (BitVec 64)) => OwnsG _ _ _ x_ (.slice (some ⟨g0, 0, none⟩) (words n : Nat) (words n : Nat)) _) e0).mp (H1.ownsG_out 0 rfl))⟩
theorem row_Or {a_a : OA} {c_a : Nat} {a : List (BitVec 64)} {a_b : OA} {c_b : Nat} {b : List (BitVec 64)} (hM : ∀ b, M b → b < w.heap.size) (h_a : RV M w (.slice a_a a.length c_a) a) (h_b : RV M w (.slice a_b b.length c_b) b) (hl_a : a.length ≤ 1000000000) (hl_b : b.length ≤ 1000000000) : Calls Tryz.prog 138 #[.slice a_a a.length c_a, .slice a_b b.length c_b] w (Ret fun v w' => ∃ (a0 : OA) (c0 : Nat), v = .slice a0 (orR a b).length c0 ∧ Ext w w' ∧ OwnsG M 137 w (orR a b) (.slice a0 (orR a b).length c0) w') := by
 refine enter 33 Tryz.func138 rfl rfl rfl fun f0 ha => ?_
 have H := HI.start (M0 := M) (w := w) hM
 have H0 := H.put (it := iL a_a a c_a) rfl (by rw [MS_nil]; exact h_a)
 have H1 := H0.put (it := iL a_b b c_b) rfl (by rw [MS_cons_none rfl, MS_nil]; exact h_b)
 have ln_a := rv_len h_a
 have ln_b := rv_len h_b
 have i0 : f0 0 = sL a_a a c_a := ha 0 (by simp)
 have i1 : f0 1 = sL a_b b c_b := ha 1 (by simp)
 refine sq (rg (k (asg (v := .slice none 0 0) rfl rfl (z (nx (sq (sq (rg (k (mv rfl i0 (k (lnS rfl rfl un115 (k (mv rfl i1 (k (lnS rfl rfl un115 (k (lss rfl rfl rfl rfl (z (nx ?_))))))))))))))))))))
 refine cd (b := decide ((a.length : Int) < (b.length : Int))) rfl rfl (fun b0 => ?_) (fun b0 => ?_)
 ·
  have p0 := dT b0
  refine rg (k (mv rfl i1 (k (mv rfl i0 (k (asg (v := sL a_b b c_b) rfl rfl (k (asg (v := sL a_a a c_a) rfl rfl (z (nx (sq (rg (k (mv (v := sL a_b b c_b) rfl rfl (k ?_)))))))))))))))
  have cc0 := clone_u64 (r := b) (w := w) H1.mb (H1.rv 0 rfl) (by omega)
  refine ca go124 rfl (ec rfl e0) cc0 ?_
  rintro _ w0 ⟨a0, c0, rfl, xt0, rv0⟩
  have H2 := H1.ownsG rv0
  refine k (asg (v := sL a0 b c0) rfl rfl (z (nx (sq (sq (rg (k (mv (v := sL a_a a c_a) rfl rfl (k (lnS rfl rfl un115 (k (mv (v := iV 0) rfl rfl (z (nx (bk ?_)))))))))))))))
  refine lp (fun m f w' => ∃ (j : Nat) (xs : List (BitVec 64)), m = a.length - j ∧ f 5 = sL a0 b c0 ∧ f 17 = sL a_a a c_a ∧ f 18 = iV (a.length : Int) ∧ f 19 = iV (j : Int) ∧  HI M w w' [own w.heap.size 137 (.slice a0 b.length c0) xs, iL a_b b c_b, iL a_a a c_a] ∧ (j ≤ a.length) ∧ (xs.length = b.length) ∧ (xs = orTo b.length b a b j)) _ ⟨0, b, rfl, rfl, rfl, rfl, (ieq rfl (by first | rfl | omega | simp)), H2, (by first | omega | assumption | simp), (by rfl), (by exact orTo_zero _ _ _)⟩ ?_
  rintro _ f0 w1 ⟨j, xs, rfl, s0, s1, s2, s3, H3, hk, hl, hs⟩
  refine sq (rg (k (lss rfl rfl s3 s2 (z (nx (sq ?_))))))
  refine cd (b := decide ((j : Int) < (a.length : Int))) rfl rfl (fun b1 => ?_) (fun b1 => ?_)
  ·
   have p1 := dT b1
   refine sk (nx (sq (bk (sq (rg (k (mv rfl s3 (k (ia (H3.rv 2 rfl) rfl rfl s1 s3 (by omega) un115 ty137 ?_)))))))))
   intro ad0 x0 hx0 hA0
   refine k (ldU hA0.w ty137 rfl rfl (k (asg (v := iV (j : Int)) rfl rfl (k (asg (v := U x0) rfl rfl (z (nx (rg (k (mv rfl s0 (k (mv (v := iV (j : Int)) rfl rfl (k (iaO (H3.at_ 0 rfl) rfl rfl rfl rfl (by omega) un115 ty137 ?_))))))))))))))
   intro g0 x1 hv0 hx1 hA1
   refine k (ldU hA1 ty137 rfl rfl (k (mv (v := U x0) rfl rfl (k (orU x1 x0 rfl rfl rfl rfl (k (iaO (H3.at_ 0 rfl) rfl rfl rfl rfl (by omega) un115 ty137 ?_)))))))
   intro g1 x2 hv1 hx2 hA2
   refine k (stO H3 0 rfl hv1 rfl (by omega) ty137 rfl rfl rfl rfl (RV.bv.2 rfl) ?_)
   intro w2 (H4 : HI M w w2 [own w.heap.size 137 (.slice a0 b.length c0) (xs.set ((j : Int).toNat) (x1 ||| x0)), iL a_b b c_b, iL a_a a c_a])
   refine z (inb_normal (nx (rg (k (add rfl rfl s3 rfl (by unfold I64 at *; omega) (k (mv (v := iV ((j : Int) + 1)) rfl rfl (z ?_))))))))
   refine loopN _ ?_ ⟨(j + 1), (xs.set ((j : Int).toNat) (x1 ||| x0)), rfl, s0, s1, s2, (ieq rfl (by first | rfl | omega)), H4, (by first | omega | assumption | simp), (by simpa using hl), (by have e1 := orTo_get (hs ▸ hx1); have e2 := getD_at hx0; rw [hs]; exact orTo_set (by rw [e1]; unfold orAt; rw [e2]))⟩
   omega
  have p1 := dF b1
  refine ex (then_exit (loop_exit (inb_here (nx (sq (rg (k (mv rfl s0 (k (asg (v := sL a0 b c0) rfl rfl (z (nx (rt (r1 rfl rfl ?_))))))))))))))
  have e0 : (xs : List (BitVec 64)) = orR a b := by rw [hs]; first | exact orTo_all (by omega) (fun i h1 h2 => orAt_left (by omega)) | (rw [orR_comm]; exact orTo_all (by omega) (fun i h1 h2 => orAt_left (by omega)))
  have l0 : b.length = (orR a b).length := by rw [← e0]; omega
  have ev_ := cg1 (fun (n_0 : Nat) => (.slice a0 n_0 c0 : Value)) l0
  exact ⟨a0, c0, ev_, H3.below, (congrArg (fun (n_ : Nat) => OwnsG _ _ _ (orR a b) (.slice a0 n_ c0) _) l0).mp ((congrArg (fun (x_ : List (BitVec 64)) => OwnsG _ _ _ x_ (.slice a0 b.length c0) _) e0).mp (H3.ownsG_out 0 rfl))⟩
 have p0 := dF b0
 refine sk (nx (sq (rg (k (mv rfl i0 (k ?_))))))
 have cc0 := clone_u64 (r := a) (w := w) H1.mb (H1.rv 1 rfl) (by omega)
 refine ca go124 rfl (ec rfl e0) cc0 ?_
 rintro _ w0 ⟨a0, c0, rfl, xt0, rv0⟩
 have H2 := H1.ownsG rv0
 refine k (asg (v := sL a0 a c0) rfl rfl (z (nx (sq (sq (rg (k (mv rfl i1 (k (lnS rfl rfl un115 (k (mv (v := iV 0) rfl rfl (z (nx (bk ?_)))))))))))))))
 refine lp (fun m f w' => ∃ (j : Nat) (xs : List (BitVec 64)), m = b.length - j ∧ f 5 = sL a0 a c0 ∧ f 17 = sL a_b b c_b ∧ f 18 = iV (b.length : Int) ∧ f 19 = iV (j : Int) ∧  HI M w w' [own w.heap.size 137 (.slice a0 a.length c0) xs, iL a_b b c_b, iL a_a a c_a] ∧ (j ≤ b.length) ∧ (xs.length = a.length) ∧ (xs = orTo a.length a b a j)) _ ⟨0, a, rfl, rfl, rfl, rfl, (ieq rfl (by first | rfl | omega | simp)), H2, (by first | omega | assumption | simp), (by rfl), (by exact orTo_zero _ _ _)⟩ ?_
 rintro _ f0 w1 ⟨j, xs, rfl, s0, s1, s2, s3, H3, hk, hl, hs⟩
 refine sq (rg (k (lss rfl rfl s3 s2 (z (nx (sq ?_))))))
 refine cd (b := decide ((j : Int) < (b.length : Int))) rfl rfl (fun b1 => ?_) (fun b1 => ?_)
 ·
  have p1 := dT b1
  refine sk (nx (sq (bk (sq (rg (k (mv rfl s3 (k (ia (H3.rv 1 rfl) rfl rfl s1 s3 (by omega) un115 ty137 ?_)))))))))
  intro ad0 x0 hx0 hA0
  refine k (ldU hA0.w ty137 rfl rfl (k (asg (v := iV (j : Int)) rfl rfl (k (asg (v := U x0) rfl rfl (z (nx (rg (k (mv rfl s0 (k (mv (v := iV (j : Int)) rfl rfl (k (iaO (H3.at_ 0 rfl) rfl rfl rfl rfl (by omega) un115 ty137 ?_))))))))))))))
  intro g0 x1 hv0 hx1 hA1
  refine k (ldU hA1 ty137 rfl rfl (k (mv (v := U x0) rfl rfl (k (orU x1 x0 rfl rfl rfl rfl (k (iaO (H3.at_ 0 rfl) rfl rfl rfl rfl (by omega) un115 ty137 ?_)))))))
  intro g1 x2 hv1 hx2 hA2
  refine k (stO H3 0 rfl hv1 rfl (by omega) ty137 rfl rfl rfl rfl (RV.bv.2 rfl) ?_)
  intro w2 (H4 : HI M w w2 [own w.heap.size 137 (.slice a0 a.length c0) (xs.set ((j : Int).toNat) (x1 ||| x0)), iL a_b b c_b, iL a_a a c_a])
  refine z (inb_normal (nx (rg (k (add rfl rfl s3 rfl (by unfold I64 at *; omega) (k (mv (v := iV ((j : Int) + 1)) rfl rfl (z ?_))))))))
  refine loopN _ ?_ ⟨(j + 1), (xs.set ((j : Int).toNat) (x1 ||| x0)), rfl, s0, s1, s2, (ieq rfl (by first | rfl | omega)), H4, (by first | omega | assumption | simp), (by simpa using hl), (by have e1 := orTo_get (hs ▸ hx1); have e2 := getD_at hx0; rw [hs]; exact orTo_set (by rw [e1]; unfold orAt; rw [e2]))⟩
  omega
 have p1 := dF b1
 refine ex (then_exit (loop_exit (inb_here (nx (sq (rg (k (mv rfl s0 (k (asg (v := sL a0 a c0) rfl rfl (z (nx (rt (r1 rfl rfl ?_))))))))))))))
 have e0 : (xs : List (BitVec 64)) = orR a b := by rw [hs]; first | exact orTo_all (by omega) (fun i h1 h2 => orAt_left (by omega)) | (rw [orR_comm]; exact orTo_all (by omega) (fun i h1 h2 => orAt_left (by omega)))
 have l0 : a.length = (orR a b).length := by rw [← e0]; omega
 have ev_ := cg1 (fun (n_0 : Nat) => (.slice a0 n_0 c0 : Value)) l0
 exact ⟨a0, c0, ev_, H3.below, (congrArg (fun (n_ : Nat) => OwnsG _ _ _ (orR a b) (.slice a0 n_ c0) _) l0).mp ((congrArg (fun (x_ : List (BitVec 64)) => OwnsG _ _ _ x_ (.slice a0 a.length c0) _) e0).mp (H3.ownsG_out 0 rfl))⟩
theorem row_List {a_r : OA} {c_r : Nat} {r : List (BitVec 64)} (hM : ∀ b, M b → b < w.heap.size) (hT : TabAt 0 w) (h_r : RV M w (.slice a_r r.length c_r) r) (hl_r : r.length ≤ 1000000000) : Calls Tryz.prog 111 #[.slice a_r r.length c_r] w (Ret fun v w' => ∃ (a0 : OA) (c0 : Nat), v = .slice a0 (listR r).length c0 ∧ Ext w w' ∧ OwnsG M 3 w (listR r) (.slice a0 (listR r).length c0) w') := by
 refine enter 29 Tryz.func111 rfl rfl rfl fun f0 ha => ?_
 have H := HI.start (M0 := M) (w := w) hM
 have H0 := H.put (it := iL a_r r c_r) rfl (by rw [MS_nil]; exact h_r)
 have ln_r := rv_len h_r
 have i0 : f0 0 = sL a_r r c_r := ha 0 (by simp)
 refine sq (rg (k (asg (v := .slice none 0 0) rfl rfl (z (nx (sq (rg (k (asg (v := .slice none 0 0) rfl rfl (z (nx (sq (sq (rg (k (mv rfl i0 (k (lnS rfl rfl un115 (k (mv (v := iV 0) rfl rfl (z (nx (bk ?_)))))))))))))))))))))))
 have H1 := H0.nil_ Int 3
 refine lp (fun m f w' => ∃ (j : Nat) (xs : List Int) (a0 : OA) (c0 : Nat), m = r.length - j ∧ f 3 = sL a0 xs c0 ∧ f 6 = sL a_r r c_r ∧ f 7 = iV (r.length : Int) ∧ f 8 = iV (j : Int) ∧  HI M w w' [oL w 3 a0 xs c0, iL a_r r c_r] ∧ (j ≤ r.length) ∧ (xs = listTo r j)) _ ⟨0, ([] : List Int), none, 0, rfl, rfl, rfl, rfl, (ieq rfl (by first | rfl | omega | simp)), H1, (by first | omega | assumption | simp), (by rfl)⟩ ?_
 rintro _ f0 w0 ⟨j, xs, a0, c0, rfl, s0, s1, s2, s3, H2, hk, hs⟩
 refine sq (rg (k (lss rfl rfl s3 s2 (z (nx (sq ?_))))))
 refine cd (b := decide ((j : Int) < (r.length : Int))) rfl rfl (fun b0 => ?_) (fun b0 => ?_)
 ·
  have p0 := dT b0
  refine sk (nx (sq (bk (sq (rg (k (mv rfl s3 (k (ia (H2.rv 1 rfl) rfl rfl s1 s3 (by omega) un115 ty137 ?_)))))))))
  intro ad0 x0 hx0 hA0
  refine k (ldU hA0.w ty137 rfl rfl (k (asg (v := iV (j : Int)) rfl rfl (k (asg (v := U x0) rfl rfl (z (nx (bk ?_))))))))
  refine lp (fun m f w' => ∃ (y : BitVec 64) (ys : List Int) (a1 : OA) (c1 : Nat), m = (listW y).length ∧ f 3 = sL a1 ys c1 ∧ f 4 = iV (j : Int) ∧ f 5 = U y ∧ f 6 = sL a_r r c_r ∧ f 7 = iV (r.length : Int) ∧ f 8 = iV (j : Int) ∧  HI M w w' [oL w 3 a1 ys c1, iL a_r r c_r] ∧ (ys ++ intsW j y = listTo r j ++ intsW j x0)) _ ⟨x0, xs, a0, c0, rfl, s0, rfl, (ueq rfl (by first | rfl | simp)), s1, s2, s3, H2, (by rw [hs])⟩ ?_
  rintro _ f1 w1 ⟨y, ys, a1, c1, rfl, s4, s5, s6, s7, s8, s9, H3, hy⟩
  refine sq (sq (rg (k (mv rfl s6 (k (neU y (0#64) rfl rfl rfl rfl (z (nx ?_))))))))
  refine cd (b := !decide (y = (0#64))) rfl rfl (fun b1 => ?_) (fun b1 => ?_)
  ·
   have p1 := dF (nott b1)
   refine sk (nx (sq (bk (rg (k (mv rfl s4 (k (mv rfl s5 (k (mul rfl rfl rfl rfl (by have h_ := firstW_le y; unfold I64; omega) (k (mv rfl s6 (k ?_)))))))))))))
   have cc0 := word_First (x := y) (w := w1) (hT.ext H3.below)
   refine ca go123 rfl (ec rfl e0) cc0 ?_
   rintro _ w2 ⟨rfl, xt0⟩
   have H4 := H3.ext xt0
   refine k (add rfl rfl rfl rfl (by have h_ := firstW_le y; unfold I64; omega) (k (bs (xs := ([((j : Int) * 64) + ((firstW y : Nat) : Int)] : List Int)) (cells := #[iV (((j : Int) * 64) + ((firstW y : Nat) : Int))]) (e := 3) H4 rfl (pbc rfl pb0) (fun _ => by kernel_rfl) ⟨[iV (((j : Int) * 64) + ((firstW y : Nat) : Int))], [], rfl, ⟨rfl, (show I64 (((j : Int) * 64) + ((firstW y : Nat) : Int)) from (by have h_ := firstW_le y; unfold I64; omega))⟩, rfl⟩ rfl (by decide) ?_)))
   intro g0 w3 xt1 H5
   refine k (apB H5 1 rfl rfl rfl rfl rfl rfl (own_src (H5.at_ 0 rfl)) un30 ty3 rfl (by have h_ := congrArg List.length hy; simp only [lA_] at h_; have h1 := listTo_length r j; have h2 := intsW_length j x0; simp only [lC_, lN_]; omega) rfl ?_)
   intro a2 c2 w4 (H6 : HI M w w4 [own w.heap.size 3 (.slice (some ⟨g0, 0, none⟩) 1 1) ([((j : Int) * 64) + ((firstW y : Nat) : Int)] : List Int), oL w 3 a2 (ys ++ ([((j : Int) * 64) + ((firstW y : Nat) : Int)] : List Int)) c2, iL a_r r c_r])
   refine k (asg (v := sL a2 (ys ++ ([((j : Int) * 64) + ((firstW y : Nat) : Int)] : List Int)) c2) rfl rfl (z (inb_normal (nx (rg (k (mv rfl s6 (k (mv rfl s6 (k (subU y (1#64) rfl rfl rfl rfl (k (andU y (y - (1#64)) rfl rfl rfl rfl (k (asg (v := U (y &&& (y - (1#64)))) rfl rfl (z ?_))))))))))))))))
   have H7 : HI M w w4 [oL w 3 a2 (ys ++ ([((j : Int) * 64) + ((firstW y : Nat) : Int)] : List Int)) c2, iL a_r r c_r] := H6.pickN [1, 2] (by decide) rfl
   refine loopN _ ?_ ⟨(y &&& (y - (1#64))), (ys ++ ([((j : Int) * 64) + ((firstW y : Nat) : Int)] : List Int)), a2, c2, rfl, rfl, s5, (ueq rfl (by rfl)), s7, s8, s9, H7, (by rw [List.append_assoc, ← hy, intsW_step (show y ≠ 0#64 by simpa using p1)]; rfl)⟩
   exact clear_less (by simpa using p1)
  have p1 := dT (notf b1)
  refine ex (then_exit (loop_exit (inb_here (inb_normal (nx (rg (k (add rfl rfl s9 rfl (by have h_ := firstW_le y; unfold I64; omega) (k (mv (v := iV ((j : Int) + 1)) rfl rfl (z ?_)))))))))))
  refine loopN _ ?_ ⟨(j + 1), ys, a1, c1, rfl, s4, s7, s8, (ieq rfl (by first | rfl | omega)), H3, (by first | omega | assumption | simp), (by rw [listTo_succ, getD_at hx0]; have e_ : y = 0#64 := (by simpa using p1); subst e_; rw [intsW_zero, List.append_nil] at hy; exact hy)⟩
  omega
 have p0 := dF b0
 refine ex (then_exit (loop_exit (inb_here (nx (sq (rg (k (mv rfl s0 (k (asg (v := sL a0 xs c0) rfl rfl (z (nx (rt (r1 rfl rfl ?_))))))))))))))
 have e0 : (xs : List Int) = listR r := by rw [hs]; unfold listR; congr 1; omega
 have ev_ := cg1 (fun (x_0 : List Int) => (.slice a0 x_0.length c0 : Value)) e0
 exact ⟨a0, c0, ev_, H2.below, (congrArg (fun (x_ : List Int) => OwnsG _ _ _ x_ (.slice a0 x_.length c0) _) e0).mp (H2.ownsG_out 0 rfl)⟩
theorem ref01_Bit {i : Int} (h_i : I64 i) : Calls Tryz.prog 107 #[.int .i64 i] w (Ret fun v w' =>  v = U (bitB i) ∧ Ext w w') := by
 refine enter 17 Tryz.func107 rfl rfl rfl fun f0 ha => ?_
 have H := HI.start (M0 := (fun _ => False)) (w := w) (fun _ h => h.elim)
 have i0 : f0 0 = iV i := ha 0 (by simp)
 refine sq (rg (k (asg (v := U (0#64)) rfl rfl (z (nx (sq (sq (rg (k (mv rfl i0 (k (lss rfl rfl rfl rfl (k (mv (v := .bool (decide (i < 0))) rfl rfl ?_))))))))))))))
 rcases bE (decide (i < 0)) with b0 | b0
 ·
  have p0 := dT b0
  refine k (gn rfl rfl rfl b0 (k (gn rfl rfl rfl b0 (k (pickT rfl rfl rfl rfl b0 rfl (z (nx (cdT rfl rfl rfl (sq (rg (k (asg (v := U (0#64)) rfl rfl (z (nx (rt (then_ret (r1 rfl rfl ?_)))))))))))))))))
  exact ⟨congrArg U (by first | exact (bitB_out (by omega)).symm | (rw [bitB_pow (by omega) (by omega), show i.toNat = j from by omega])), H.below⟩
 have p0 := dF b0
 refine k (gy rfl rfl rfl b0 (mv rfl i0 (k (gy rfl rfl rfl b0 (gtr rfl rfl rfl rfl (k (pickF rfl rfl rfl rfl b0 rfl (z (nx ?_)))))))))
 refine cd (b := decide (63 < i)) rfl rfl (fun b1 => ?_) (fun b1 => ?_)
 ·
  have p1 := dT b1
  refine sq (rg (k (asg (v := U (0#64)) rfl rfl (z (nx (rt (then_ret (r1 rfl rfl ?_))))))))
  exact ⟨congrArg U (by first | exact (bitB_out (by omega)).symm | (rw [bitB_pow (by omega) (by omega), show i.toNat = j from by omega])), H.below⟩
 have p1 := dF b1
 refine sk (nx (sq (rg (k (asg (v := U (1#64)) rfl rfl (z (nx (sq (bk ?_)))))))))
 refine lp (fun m f w' => ∃ (j : Nat), m = i.toNat - j ∧ f 0 = iV (i - (j : Int)) ∧ f 3 = U (1#64 <<< j) ∧  HI (fun _ => False) w w' [] ∧ (j ≤ i.toNat)) _ ⟨0, rfl, (ieq i0 (by omega)), (ueq rfl (by first | rfl | simp)), H, (by first | omega | assumption | simp)⟩ ?_
 rintro _ f0 w0 ⟨j, rfl, s0, s1, H0, hj⟩
 refine sq (sq (rg (k (mv rfl s0 (k (gtr rfl rfl rfl rfl (z (nx ?_))))))))
 refine cd (b := decide (0 < (i - (j : Int)))) rfl rfl (fun b2 => ?_) (fun b2 => ?_)
 ·
  have p2 := dT b2
  refine sk (nx (sq (bk (rg (k (mv rfl s1 (k (mulU (1#64 <<< j) (2#64) rfl rfl rfl rfl (k (asg (v := U ((1#64 <<< j) * (2#64))) rfl rfl (z (inb_normal (nx (rg (k (mv rfl s0 (k (sub rfl rfl rfl rfl (by unfold I64 at *; omega) (k (asg (v := iV ((i - (j : Int)) - 1)) rfl rfl (z ?_)))))))))))))))))))))
  refine loopN _ ?_ ⟨(j + 1), rfl, (ieq rfl (by omega)), (ueq rfl (by exact shl_step j)), H0, (by first | omega | assumption | simp)⟩
  omega
 have p2 := dF b2
 refine ex (then_exit (loop_exit (inb_here (nx (sq (rg (k (mv rfl s1 (k (asg (v := U (1#64 <<< j)) rfl rfl (z (nx (rt (r1 rfl rfl ?_))))))))))))))
 exact ⟨congrArg U (by first | exact (bitB_out (by omega)).symm | (rw [bitB_pow (by omega) (by omega), show i.toNat = j from by omega])), H0.below⟩
theorem ref01_Has {x : BitVec 64} {i : Int} (h_i : I64 i) : Calls Tryz.prog 121 #[U x, .int .i64 i] w (Ret fun v w' =>  v = .bool (hasW x i) ∧ Ext w w') := by
 refine enter 17 Tryz.func121 rfl rfl rfl fun f0 ha => ?_
 have H := HI.start (M0 := (fun _ => False)) (w := w) (fun _ h => h.elim)
 have i0 : f0 0 = U x := ha 0 (by simp)
 have i1 : f0 1 = iV i := ha 1 (by simp)
 refine sq (rg (k (asg (v := .bool false) rfl rfl (z (nx (sq (rg (k (mv rfl i1 (k ?_))))))))))
 have cc0 := ref01_Bit (i := i) (w := w) h_i
 refine ca go107 rfl (ec rfl e0) cc0 ?_
 rintro _ w0 ⟨rfl, xt0⟩
 have H0 := H.ext xt0
 refine k (asg (v := U (bitB i)) rfl rfl (z (nx (sq (rg (k (mv (v := U (bitB i)) rfl rfl (k (neU (bitB i) (0#64) rfl rfl rfl rfl (k (mv (v := .bool (!decide ((bitB i) = (0#64)))) rfl rfl ?_)))))))))))
 rcases bE (!decide ((bitB i) = (0#64))) with b0 | b0
 ·
  have p0 := dF (nott b0)
  refine k (gy rfl rfl rfl b0 (mv rfl i0 (k (gy rfl rfl rfl b0 (mv (v := U (bitB i)) rfl rfl (k (gy rfl rfl rfl b0 (quoU x (bitB i) (by first | decide | simpa using b0) rfl rfl rfl rfl (k (gy rfl rfl rfl b0 (remU (x / (bitB i)) (2#64) (by first | decide | simpa using b0) rfl rfl rfl rfl (k (gy rfl rfl rfl b0 (eqU ((x / (bitB i)) % (2#64)) (1#64) rfl rfl rfl rfl (k (pickT rfl rfl rfl rfl b0 rfl (k (asg (v := .bool (decide (((x / (bitB i)) % (2#64)) = (1#64)))) rfl rfl (z (nx (rt (r1 rfl rfl ?_))))))))))))))))))))))
  exact ⟨congrArg Value.bool (by first | exact hasW_quo (by simpa using b0) | exact hasW_zero (by simpa using b0)), H0.below⟩
 have p0 := dT (notf b0)
 refine k (gn rfl rfl rfl b0 (k (gn rfl rfl rfl b0 (k (gn rfl rfl rfl b0 (k (gn rfl rfl rfl b0 (k (gn rfl rfl rfl b0 (k (pickF rfl rfl rfl rfl b0 rfl (k (asg (v := .bool false) rfl rfl (z (nx (rt (r1 rfl rfl ?_)))))))))))))))))
 exact ⟨congrArg Value.bool (by first | exact hasW_quo (by simpa using b0) | exact hasW_zero (by simpa using b0)), H0.below⟩
theorem ref02_Words {n : Int} (h_n : I64 n) (hn : n ≤ 1000000000000000000) : Calls Tryz.prog 122 #[.int .i64 n] w (Ret fun v w' =>  v = .int .i64 ((words n : Nat) : Int) ∧ Ext w w') := by
 refine enter 8 Tryz.func122 rfl rfl rfl fun f0 ha => ?_
 have H := HI.start (M0 := (fun _ => False)) (w := w) (fun _ h => h.elim)
 have i0 : f0 0 = iV n := ha 0 (by simp)
 refine sq (rg (k (asg (v := iV 0) rfl rfl (z (nx (sq (sq (rg (k (mv rfl i0 (k (lss rfl rfl rfl rfl (z (nx ?_))))))))))))))
 refine cd (b := decide (n < 0)) rfl rfl (fun b0 => ?_) (fun b0 => ?_)
 ·
  have p0 := dT b0
  refine sq (rg (k (asg (v := iV 0) rfl rfl (z (nx (rt (then_ret (r1 rfl rfl ?_))))))))
  exact ⟨congrArg (Value.int .i64) (by first | exact (words_neg (by omega)).symm | exact (words_pos (by omega)).symm), H.below⟩
 have p0 := dF b0
 refine sk (nx (sq (rg (k (mv rfl i0 (k (add rfl rfl rfl rfl (by unfold I64 at *; omega) (k (quo rfl rfl rfl rfl (by omega) (k (asg (v := iV ((n + 63) / 64)) rfl rfl (z (nx (rt (r1 rfl rfl ?_)))))))))))))))
 exact ⟨congrArg (Value.int .i64) (by first | exact (words_neg (by omega)).symm | exact (words_pos (by omega)).symm), H.below⟩
theorem ref02_New {n : Int} (hM : ∀ b, M b → b < w.heap.size) (h_n : I64 n) (hn : n ≤ 1000000) : Calls Tryz.prog 108 #[.int .i64 n] w (Ret fun v w' => ∃ (a0 : OA) (c0 : Nat), v = .slice a0 (newR n).length c0 ∧ Ext w w' ∧ OwnsG M 137 w (newR n) (.slice a0 (newR n).length c0) w') := by
 refine enter 6 Tryz.func108 rfl rfl rfl fun f0 ha => ?_
 have H := HI.start (M0 := M) (w := w) hM
 have i0 : f0 0 = iV n := ha 0 (by simp)
 refine sq (rg (k (asg (v := .slice none 0 0) rfl rfl (z (nx (sq (rg (k (mv rfl i0 (k ?_))))))))))
 have cc0 := ref02_Words (n := n) (w := w) h_n (by omega)
 refine ca go122 rfl (ec rfl e0) cc0 ?_
 rintro _ w0 ⟨rfl, xt0⟩
 have H0 := H.ext xt0
 refine k (mk (m := (words n : Nat)) (zx := (0#64 : (BitVec 64))) H0 rfl rfl rfl rfl un115 ty137 (fun _ _ => rfl) (by unfold words; omega) (by unfold words; omega) ?_)
 intro g0 w1 xt1 (H1 : HI M w w1 [own w.heap.size 137 (.slice (some ⟨g0, 0, none⟩) (words n : Nat) (words n : Nat)) (List.replicate (words n : Nat) (0#64 : (BitVec 64)))])
 refine k (asg (v := .slice (some ⟨g0, 0, none⟩) (words n : Nat) (words n : Nat)) rfl rfl (z (nx (rt (r1 rfl rfl ?_)))))
 have e0 : ((List.replicate (words n : Nat) (0#64 : (BitVec 64))) : List (BitVec 64)) = newR n := by unfold newR; rfl
 have l0 : (words n : Nat) = (newR n).length := by first | rfl | (rw [← e0]; simp) | simp
 have ev_ := cg1 (fun (n_0 : Nat) => (.slice (some ⟨g0, 0, none⟩) n_0 (words n : Nat) : Value)) l0
 exact ⟨(some ⟨g0, 0, none⟩), (words n : Nat), ev_, H1.below, (congrArg (fun (n_ : Nat) => OwnsG _ _ _ (newR n) (.slice (some ⟨g0, 0, none⟩) n_ (words n : Nat)) _) l0).mp ((congrArg (fun (x_ : List (BitVec 64)) => OwnsG _ _ _ x_ (.slice (some ⟨g0, 0, none⟩) (words n : Nat) (words n : Nat)) _) e0).mp (H1.ownsG_out 0 rfl))⟩
theorem ref02_Has {a_r : OA} {c_r : Nat} {r : List (BitVec 64)} {i : Int} (hM : ∀ b, M b → b < w.heap.size) (h_r : RV M w (.slice a_r r.length c_r) r) (h_i : I64 i) (hl_r : r.length ≤ 1000000000) : Calls Tryz.prog 106 #[.slice a_r r.length c_r, .int .i64 i] w (Ret fun v w' =>  v = .bool (hasR r i) ∧ Ext w w') := by
 refine enter 24 Tryz.func106 rfl rfl rfl fun f0 ha => ?_
 have H := HI.start (M0 := M) (w := w) hM
 have H0 := H.put (it := iL a_r r c_r) rfl (by rw [MS_nil]; exact h_r)
 have ln_r := rv_len h_r
 have i0 : f0 0 = sL a_r r c_r := ha 0 (by simp)
 have i1 : f0 1 = iV i := ha 1 (by simp)
 refine sq (rg (k (asg (v := .bool false) rfl rfl (z (nx (sq (rg (k (mv rfl i1 (k (geq rfl rfl rfl rfl (k (mv (v := .bool (decide (0 ≤ i))) rfl rfl ?_)))))))))))))
 rcases bE (decide (0 ≤ i)) with b0 | b0
 ·
  have p0 := dT b0
  refine k (gy rfl rfl rfl b0 (mv rfl i1 (k (gy rfl rfl rfl b0 (mv rfl i0 (k (gy rfl rfl rfl b0 (lnS rfl rfl un115 (k (gy rfl rfl rfl b0 (mul rfl rfl rfl rfl (by unfold I64 at *; omega) (k (gy rfl rfl rfl b0 (lss rfl rfl rfl rfl (k (pickT rfl rfl rfl rfl b0 rfl (k (mv (v := .bool (decide (i < (64 * (r.length : Int))))) rfl rfl ?_))))))))))))))))))
  rcases bE (decide (i < (64 * (r.length : Int)))) with b1 | b1
  ·
   have p1 := dT b1
   refine k (gy rfl rfl rfl b1 (mv rfl i0 (k (gy rfl rfl rfl b1 (mv rfl i1 (k (gy rfl rfl rfl b1 (quo rfl rfl rfl rfl (by omega) (k (gy rfl rfl rfl b1 (ia (H0.rv 0 rfl) rfl rfl rfl rfl (by omega) un115 ty137 ?_)))))))))))
   intro ad0 x0 hx0 hA0
   refine k (gy rfl rfl rfl b1 (ldU hA0.w ty137 rfl rfl (k (gy rfl rfl rfl b1 (mv rfl i1 (k (gy rfl rfl rfl b1 (rem rfl rfl rfl rfl (by omega) (k (gy rfl rfl rfl b1 ?_))))))))))
   have cc0 := ref01_Has (x := x0) (i := (i % 64)) (w := w) (by unfold I64 at *; omega)
   refine ca go121 rfl (ec rfl (ec rfl e0)) cc0 ?_
   rintro _ w0 ⟨rfl, xt0⟩
   have H1 := H0.ext xt0
   refine k (pickT rfl rfl rfl rfl b1 rfl (k (asg (v := .bool (hasW x0 (i % 64))) rfl rfl (z (nx (rt (r1 rfl rfl ?_)))))))
   exact ⟨congrArg Value.bool (by first | exact hasR_of (by omega) (by omega) hx0 | exact hasR_no (by omega)), H1.below⟩
  have p1 := dF b1
  refine k (gn rfl rfl rfl b1 (k (gn rfl rfl rfl b1 (k (gn rfl rfl rfl b1 (k (gn rfl rfl rfl b1 (k (gn rfl rfl rfl b1 (k (gn rfl rfl rfl b1 (k (gn rfl rfl rfl b1 (k (gn rfl rfl rfl b1 (k (pickF rfl rfl rfl rfl b1 rfl (k (asg (v := .bool false) rfl rfl (z (nx (rt (r1 rfl rfl ?_)))))))))))))))))))))))
  exact ⟨congrArg Value.bool (by first | exact hasR_of (by omega) (by omega) hx0 | exact hasR_no (by omega)), H0.below⟩
 have p0 := dF b0
 refine k (gn rfl rfl rfl b0 (k (gn rfl rfl rfl b0 (k (gn rfl rfl rfl b0 (k (gn rfl rfl rfl b0 (k (gn rfl rfl rfl b0 (k (pickF rfl rfl rfl rfl b0 rfl (k (mv (v := .bool false) rfl rfl (k (gn rfl rfl rfl rfl (k (gn rfl rfl rfl rfl (k (gn rfl rfl rfl rfl (k (gn rfl rfl rfl rfl (k (gn rfl rfl rfl rfl (k (gn rfl rfl rfl rfl (k (gn rfl rfl rfl rfl (k (gn rfl rfl rfl rfl (k (pickF rfl rfl rfl rfl rfl rfl (k (asg (v := .bool false) rfl rfl (z (nx (rt (r1 rfl rfl ?_)))))))))))))))))))))))))))))))))))))
 exact ⟨congrArg Value.bool (by first | exact hasR_of (by omega) (by omega) hx0 | exact hasR_no (by omega)), H0.below⟩
theorem ref02_Set {a_r : OA} {c_r : Nat} {r : List (BitVec 64)} {i : Int} (hM : ∀ b, M b → b < w.heap.size) (h_r : RV M w (.slice a_r r.length c_r) r) (h_i : I64 i) (hl_r : r.length ≤ 1000000000) : Calls Tryz.prog 77 #[.slice a_r r.length c_r, .int .i64 i] w (Ret fun v w' => ∃ (a0 : OA) (c0 : Nat), v = .slice a0 (setR r i).length c0 ∧ Ext w w' ∧ OwnsG M 137 w (setR r i) (.slice a0 (setR r i).length c0) w') := by
 refine enter 38 Tryz.func77 rfl rfl rfl fun f0 ha => ?_
 have H := HI.start (M0 := M) (w := w) hM
 have H0 := H.put (it := iL a_r r c_r) rfl (by rw [MS_nil]; exact h_r)
 have ln_r := rv_len h_r
 have i0 : f0 0 = sL a_r r c_r := ha 0 (by simp)
 have i1 : f0 1 = iV i := ha 1 (by simp)
 refine sq (rg (k (asg (v := .slice none 0 0) rfl rfl (z (nx (sq (rg (k (bs (xs := ([] : List (BitVec 64))) (cells := #[]) (e := 137) H0 rfl pb0 (fun _ => by kernel_rfl) rfl rfl (by decide) ?_)))))))))
 intro g0 w0 xt0 H1
 refine k (mv rfl i0 (k (apB H1 0 rfl rfl rfl rfl rfl rfl (H1.rv 1 rfl).src un115 ty137 rfl (by simp; omega) rfl ?_)))
 intro a0 c0 w1 (H2 : HI M w w1 [oL w 137 a0 r c0, iL a_r r c_r])
 refine k (asg (v := sL a0 r c0) rfl rfl (z (nx (sq (sq (rg (k (mv rfl i1 (k (geq rfl rfl rfl rfl (k (mv (v := .bool (decide (0 ≤ i))) rfl rfl ?_))))))))))))
 rcases bE (decide (0 ≤ i)) with b0 | b0
 ·
  have p0 := dT b0
  refine k (gy rfl rfl rfl b0 (mv rfl i1 (k (gy rfl rfl rfl b0 (mv rfl i0 (k (gy rfl rfl rfl b0 (lnS rfl rfl un115 (k (gy rfl rfl rfl b0 (mul rfl rfl rfl rfl (by unfold I64 at *; omega) (k (gy rfl rfl rfl b0 (lss rfl rfl rfl rfl (k (pickT rfl rfl rfl rfl b0 rfl (k (mv (v := .bool (decide (i < (64 * (r.length : Int))))) rfl rfl ?_))))))))))))))))))
  rcases bE (decide (i < (64 * (r.length : Int)))) with b1 | b1
  ·
   have p1 := dT b1
   refine k (gy rfl rfl rfl b1 (mv rfl i0 (k (gy rfl rfl rfl b1 (mv rfl i1 (k (gy rfl rfl rfl b1 ?_)))))))
   have cc0 := ref02_Has (r := r) (i := i) (w := w1) H2.mb (H2.rv 1 rfl) h_i (by omega)
   refine ca go106 rfl (ec rfl (ec rfl e0)) cc0 ?_
   rintro _ w2 ⟨rfl, xt1⟩
   have H3 := H2.ext xt1
   refine k (gy rfl rfl rfl b1 (not_ rfl rfl (k (pickT rfl rfl rfl rfl b1 rfl (z (nx ?_))))))
   refine cd (b := !(hasR r i)) rfl rfl (fun b2 => ?_) (fun b2 => ?_)
   ·
    obtain ⟨x0, hx0⟩ : ∃ x, r[(i / 64).toNat]? = some x := ⟨_, gE_ (by omega)⟩
    refine dr 12 [eV (sL a0 r c0), eV (iV i), eV (iV (i / 64)), eV (sL a0 r c0), eV (iV i), eV (iV (i / 64)), fun v w' => ∃ (g1 : Nat), v = .pointer (some ⟨g1, (i / 64).toNat * 1, none⟩) ∧ (.slice a0 r.length c0 : Value).ownBlock = some g1 ∧ AtW (MS M [oL w 137 a0 r c0, iL a_r r c_r]) w' ⟨g1, (i / 64).toNat * 1, none⟩ x0, eV (U x0), eV (iV i), eV (iV (i % 64)), eV (U (bitB (i % 64))), eV (U (x0 + (bitB (i % 64))))] rfl (by kernel_rfl) ?_ ?_
    ·
     refine dc (fun _ _ hf0 _ _ => mv rfl (hf0 5 rfl) (d0 rfl rfl)) ?_
     refine dc (fun _ _ hf1 _ _ => mv rfl ((hf1 1 rfl).trans i1) (d0 rfl rfl)) ?_
     refine dc (fun _ _ _ _ hp2 => quo rfl rfl (hp2 1 rfl rfl) rfl (by omega) (d0 rfl rfl)) ?_
     refine dc (fun _ _ hf3 _ _ => mv rfl (hf3 5 rfl) (d0 rfl rfl)) ?_
     refine dc (fun _ _ hf4 _ _ => mv rfl ((hf4 1 rfl).trans i1) (d0 rfl rfl)) ?_
     refine dc (fun _ _ _ _ hp5 => quo rfl rfl (hp5 4 rfl rfl) rfl (by omega) (d0 rfl rfl)) ?_
     refine ⟨fun _ => ⟨fun f6 w10 hf6 xt9 hp6 => ?_, by rintro _ _ _ x_ ⟨g1, e_, hv0, hA0⟩; exact ⟨g1, e_, hv0, hA0.ext x_⟩⟩, ?_⟩
     ·
      have H11 := H3.ext xt9
      have s2 : f6 27 = sL a0 r c0 := hp6 3 rfl rfl
      have s3 : f6 29 = iV (i / 64) := hp6 5 rfl rfl
      refine iaO (H11.at_ 0 rfl) rfl rfl s2 s3 (by omega) un115 ty137 ?_
      intro g2 x1 hv1 hx1 hA1
      obtain rfl : x0 = x1 := Option.some.inj (hx0.symm.trans hx1)
      exact ⟨_, rfl, Ext.refl _, ⟨g2, rfl, hv1, hA1⟩⟩
     refine dc (fun f7 w11 hf7 xt10 hp7 => ?_) ?_
     ·
      obtain ⟨g3, s4, hv2, hA2⟩ : ∃ (g3 : Nat), f7 30 = .pointer (some ⟨g3, (i / 64).toNat * 1, none⟩) ∧ (.slice a0 r.length c0 : Value).ownBlock = some g3 ∧ AtW (MS M [oL w 137 a0 r c0, iL a_r r c_r]) w11 ⟨g3, (i / 64).toNat * 1, none⟩ x0 := hp7 6 rfl rfl
      refine ldU hA2 ty137 rfl s4 ?_
      exact ⟨_, rfl, Ext.refl _, rfl⟩
     refine dc (fun _ _ hf8 _ _ => mv rfl ((hf8 1 rfl).trans i1) (d0 rfl rfl)) ?_
     refine dc (fun _ _ _ _ hp9 => rem rfl rfl (hp9 8 rfl rfl) rfl (by omega) (d0 rfl rfl)) ?_
     refine dc (fun f10 w14 hf10 xt13 hp10 => ?_) ?_
     ·
      have s6 : f10 33 = iV (i % 64) := hp10 9 rfl rfl
      have cc2 := ref01_Bit (i := (i % 64)) (w := w14) (by unfold I64 at *; omega)
      refine ca go107 rfl (ec s6 e0) cc2 ?_
      rintro _ w15 ⟨rfl, xt14⟩
      exact ⟨_, rfl, xt14, rfl⟩
     refine dc (fun _ _ _ _ hp11 => addU x0 (bitB (i % 64)) rfl rfl (hp11 7 rfl rfl) (hp11 10 rfl rfl) (d0 rfl rfl)) ?_
     exact DSteps.rest rfl _
    ·
     intro f12 w17 hf12 xt16 hp12
     have H18 := H3.ext xt16
     have s9 : f12 5 = sL a0 r c0 := hf12 5 rfl
     have s10 : f12 24 = sL a0 r c0 := hp12 0 rfl
     have s11 : f12 26 = iV (i / 64) := hp12 2 rfl
     have s12 : f12 35 = U (x0 + (bitB (i % 64))) := hp12 11 rfl
     refine k (iaO (H18.at_ 0 rfl) rfl rfl s10 s11 (by omega) un115 ty137 ?_)
     intro g4 x2 hv3 hx2 hA3
     refine k (stO H18 0 rfl hv3 rfl (by omega) ty137 rfl rfl rfl s12 (RV.bv.2 rfl) ?_)
     intro w18 (H19 : HI M w w18 [own w.heap.size 137 (.slice a0 r.length c0) (r.set ((i / 64).toNat) (x0 + (bitB (i % 64)))), iL a_r r c_r])
     refine z (nx (sq (rg (k (mv rfl s9 (k (asg (v := sL a0 r c0) rfl rfl (z (nx (rt (r1 rfl rfl ?_)))))))))))
     have e0 : (r.set ((i / 64).toNat) (x0 + (bitB (i % 64))) : List (BitVec 64)) = setR r i := by first | exact setR_add (by omega) (by omega) (by simpa using b2) hx0 | exact setR_no (by omega) | exact (setR_had (by simpa using b2)).symm
     have l0 : r.length = (setR r i).length := by first | rfl | (rw [← e0]; simp) | simp
     have ev_ := cg1 (fun (n_0 : Nat) => (.slice a0 n_0 c0 : Value)) l0
     exact ⟨a0, c0, ev_, H19.below, (congrArg (fun (n_ : Nat) => OwnsG _ _ _ (setR r i) (.slice a0 n_ c0) _) l0).mp ((congrArg (fun (x_ : List (BitVec 64)) => OwnsG _ _ _ x_ (.slice a0 r.length c0) _) e0).mp (H19.ownsG_out 0 rfl))⟩
   refine sk (nx (sq (rg (k (mv (v := sL a0 r c0) rfl rfl (k (asg (v := sL a0 r c0) rfl rfl (z (nx (rt (r1 rfl rfl ?_)))))))))))
   have e0 : (r : List (BitVec 64)) = setR r i := by first | exact setR_add (by omega) (by omega) (by simpa using b2) hx0 | exact setR_no (by omega) | exact (setR_had (by simpa using b2)).symm
   have ev_ := cg1 (fun (x_0 : List (BitVec 64)) => (.slice a0 x_0.length c0 : Value)) e0
   exact ⟨a0, c0, ev_, H3.below, (congrArg (fun (x_ : List (BitVec 64)) => OwnsG _ _ _ x_ (.slice a0 x_.length c0) _) e0).mp (H3.ownsG_out 0 rfl)⟩
  have p1 := dF b1
  refine k (gn rfl rfl rfl b1 (k (gn rfl rfl rfl b1 (k (gn rfl rfl rfl b1 (k (gn rfl rfl rfl b1 (k (pickF rfl rfl rfl rfl b1 rfl (z (nx (cdF rfl rfl rfl (sk (nx (sq (rg (k (mv (v := sL a0 r c0) rfl rfl (k (asg (v := sL a0 r c0) rfl rfl (z (nx (rt (r1 rfl rfl ?_))))))))))))))))))))))))
  have e0 : (r : List (BitVec 64)) = setR r i := by first | exact setR_add (by omega) (by omega) (by simpa using b2) hx0 | exact setR_no (by omega) | exact (setR_had (by simpa using b2)).symm
  have ev_ := cg1 (fun (x_0 : List (BitVec 64)) => (.slice a0 x_0.length c0 : Value)) e0
  exact ⟨a0, c0, ev_, H2.below, (congrArg (fun (x_ : List (BitVec 64)) => OwnsG _ _ _ x_ (.slice a0 x_.length c0) _) e0).mp (H2.ownsG_out 0 rfl)⟩
 have p0 := dF b0
 refine k (gn rfl rfl rfl b0 (k (gn rfl rfl rfl b0 (k (gn rfl rfl rfl b0 (k (gn rfl rfl rfl b0 (k (gn rfl rfl rfl b0 (k (pickF rfl rfl rfl rfl b0 rfl (k (mv (v := .bool false) rfl rfl (k (gn rfl rfl rfl rfl (k (gn rfl rfl rfl rfl (k (gn rfl rfl rfl rfl (k (gn rfl rfl rfl rfl (k (pickF rfl rfl rfl rfl rfl rfl (z (nx (cdF rfl rfl rfl (sk (nx (sq (rg (k (mv (v := sL a0 r c0) rfl rfl (k (asg (v := sL a0 r c0) rfl rfl (z (nx (rt (r1 rfl rfl ?_))))))))))))))))))))))))))))))))))))))
 have e0 : (r : List (BitVec 64)) = setR r i := by first | exact setR_add (by omega) (by omega) (by simpa using b2) hx0 | exact setR_no (by omega) | exact (setR_had (by simpa using b2)).symm
 have ev_ := cg1 (fun (x_0 : List (BitVec 64)) => (.slice a0 x_0.length c0 : Value)) e0
 exact ⟨a0, c0, ev_, H2.below, (congrArg (fun (x_ : List (BitVec 64)) => OwnsG _ _ _ x_ (.slice a0 x_.length c0) _) e0).mp (H2.ownsG_out 0 rfl)⟩
theorem go44 : GoF Tryz.prog 44 := ⟨_, _, Tryz.func44, rfl, by kernel_rfl⟩
theorem ty68 : TyF Tryz.prog 68 2 true 32 (.agg #[.int .i64 0, .slice none 0 0]) := ⟨by kernel_rfl, by kernel_rfl⟩
theorem ty115 : TyF Tryz.prog 115 1 false 24 (.slice none 0 0) := ⟨by kernel_rfl, by kernel_rfl⟩
theorem un66 : Tryz.prog.underlying 66 = some (.slice 115) := by kernel_rfl
theorem go136 : GoF Tryz.prog 136 := ⟨_, _, Tryz.func136, rfl, by kernel_rfl⟩
theorem indexFunc_int {a_r : OA} {c_r : Nat} {r : List Int} {g_p : Nat} {C_p : List Value} {p : Int → Bool} (hM : ∀ b, M b → b < w.heap.size) (h_r : RV M w (.slice a_r r.length c_r) r) (h_p : FP Tryz.prog g_p C_p M w r p) : Calls Tryz.prog 44 #[.slice a_r r.length c_r, .func (.func g_p) #[] C_p.toArray] w (Ret fun v w' =>  v = .int .i64 (idxF p r) ∧ Ext w w') := by
 refine enter 19 Tryz.func44 rfl rfl rfl fun f0 ha => ?_
 have H := HI.start (M0 := M) (w := w) hM
 have H0 := H.put (it := iL a_r r c_r) rfl (by rw [MS_nil]; exact h_r)
 have ln_r := rv_len h_r
 have i0 : f0 0 = sL a_r r c_r := ha 0 (by simp)
 have i1 : f0 1 = .func (.func g_p) #[] C_p.toArray := ha 1 (by simp)
 refine sq (rg (k (asg (v := iV 0) rfl rfl (z (nx (sq (sq (rg (k (mv rfl i0 (k (lnS rfl rfl un30 (k (mv (v := iV 0) rfl rfl (z (nx (bk ?_)))))))))))))))))
 refine lp (fun m f w' => ∃ (j : Nat), m = r.length - j ∧ f 0 = sL a_r r c_r ∧ f 1 = .func (.func g_p) #[] C_p.toArray ∧ f 7 = iV (r.length : Int) ∧ f 8 = iV (j : Int) ∧  HI M w w' [iL a_r r c_r] ∧ (j ≤ r.length) ∧ ((r.take j).any p = false)) _ ⟨0, rfl, i0, i1, rfl, (ieq rfl (by first | rfl | omega | simp)), H0, (by first | omega | assumption | simp), (by simp)⟩ ?_
 rintro _ f0 w0 ⟨j, rfl, s0, s1, s2, s3, H1, hk, hs⟩
 refine sq (rg (k (lss rfl rfl s3 s2 (z (nx (sq ?_))))))
 refine cd (b := decide ((j : Int) < (r.length : Int))) rfl rfl (fun b0 => ?_) (fun b0 => ?_)
 ·
  have p0 := dT b0
  refine sk (nx (sq (bk (sq (rg (k (mv rfl s3 (k (asg (v := iV (j : Int)) rfl rfl (z (nx (sq (rg (k (mv rfl s1 (k (mv rfl s0 (k (mv (v := iV (j : Int)) rfl rfl (k (ia (H1.rv 0 rfl) rfl rfl rfl rfl (by omega) un30 ty3 ?_)))))))))))))))))))))
  intro ad0 x0 hx0 hA0
  refine k (ldI hA0.w ty3 rfl rfl ?_)
  intro rv0
  refine k (cf h_p.1 rfl rfl rfl (ec rfl e0) (h_p.2 _ _ _ (by exact mG_ ‹_›) H1.below ((RV.int.2 ⟨rfl, (by unfold I64 at *; omega)⟩).lift H1.out)) ?_)
  rintro _ w1 ⟨rfl, xt0⟩
  have H2 := H1.ext xt0
  refine z (nx ?_)
  refine cd (b := p x0) rfl rfl (fun b1 => ?_) (fun b1 => ?_)
  ·
   refine sq (rg (k (mv (v := iV (j : Int)) rfl rfl (k (asg (v := iV (j : Int)) rfl rfl (z (nx (rt (inb_ret (then_ret (loop_ret (inb_ret (then_ret (r1 rfl rfl ?_))))))))))))))
   exact ⟨congrArg (Value.int .i64) (by exact idxF_hit hx0 hs b1), H2.below⟩
  refine sk (inb_normal (nx (rg (k (add rfl rfl s3 rfl (by unfold I64 at *; omega) (k (mv (v := iV ((j : Int) + 1)) rfl rfl (z ?_))))))))
  refine loopN _ ?_ ⟨(j + 1), rfl, s0, s1, s2, (ieq rfl (by first | rfl | omega)), H2, (by first | omega | assumption | simp), (by exact any_step hx0 hs b1)⟩
  omega
 have p0 := dF b0
 refine ex (then_exit (loop_exit (inb_here (nx (sq (rg (k (asg (v := iV (-1)) rfl rfl (z (nx (rt (r1 rfl rfl ?_))))))))))))
 exact ⟨congrArg (Value.int .i64) (by exact idxF_miss hs (by omega)), H1.below⟩
theorem containsFunc_int {a_r : OA} {c_r : Nat} {r : List Int} {g_p : Nat} {C_p : List Value} {p : Int → Bool} (hM : ∀ b, M b → b < w.heap.size) (h_r : RV M w (.slice a_r r.length c_r) r) (h_p : FP Tryz.prog g_p C_p M w r p) : Calls Tryz.prog 21 #[.slice a_r r.length c_r, .func (.func g_p) #[] C_p.toArray] w (Ret fun v w' =>  v = .bool (r.any p) ∧ Ext w w') := by
 refine enter 9 Tryz.func21 rfl rfl rfl fun f0 ha => ?_
 have H := HI.start (M0 := M) (w := w) hM
 have H0 := H.put (it := iL a_r r c_r) rfl (by rw [MS_nil]; exact h_r)
 have ln_r := rv_len h_r
 have i0 : f0 0 = sL a_r r c_r := ha 0 (by simp)
 have i1 : f0 1 = .func (.func g_p) #[] C_p.toArray := ha 1 (by simp)
 refine sq (rg (k (asg (v := .bool false) rfl rfl (z (nx (sq (rg (k (mv rfl i0 (k (mv rfl i1 (k ?_))))))))))))
 have cc0 := indexFunc_int (r := r) (p := p) (w := w) H0.mb (H0.rv 0 rfl) (h_p.sub H0.below MS_sub)
 refine ca go44 rfl (ec rfl (ec rfl e0)) cc0 ?_
 rintro _ w0 ⟨rfl, xt0⟩
 have H1 := H0.ext xt0
 refine k (geq rfl rfl rfl rfl (k (asg (v := .bool (decide (0 ≤ (idxF p r)))) rfl rfl (z (nx (rt (r1 rfl rfl ?_)))))))
 exact ⟨congrArg Value.bool (by exact idxF_any), H1.below⟩
theorem mat_New {n : Int} (hM : ∀ b, M b → b < w.heap.size) (h_n : I64 n) : Calls Tryz.prog 127 #[.int .i64 n] w (Ret fun v w' => ∃ (a0 : OA) (c0 : Nat), v = .tuple #[.agg #[.int .i64 (newMN n), .slice a0 (newMR n).length c0], .int .i64 (newME n)] ∧ Ext w w' ∧ OwnsG M 115 w (newMR n) (.slice a0 (newMR n).length c0) w') := by
 refine enter 29 Tryz.func127 rfl rfl rfl fun f0 ha => ?_
 have H := HI.start (M0 := M) (w := w) hM
 have i0 : f0 0 = iV n := ha 0 (by simp)
 refine sq (rg (k (al H ty68 ?_)))
 intro bb0 w0 xt0 (H0 : HI M w w0 [box bb0 #[iV 0, .slice none 0 0] 68])
 refine k (asg (v := iV 0) rfl rfl (z (nx (sq (sq (rg (k (mv rfl i0 (k (lss rfl rfl rfl rfl (k (mv (v := .bool (decide (n < 0))) rfl rfl ?_))))))))))))
 rcases bE (decide (n < 0)) with b0 | b0
 ·
  have p0 := dT b0
  refine k (gn rfl rfl rfl b0 (k (gn rfl rfl rfl b0 (k (pickT rfl rfl rfl rfl b0 rfl (z (nx (cdT rfl rfl rfl (sq (rg (k (bd (v := .agg #[iV 0, .slice none 0 0]) rfl pb0 (fun _ => by kernel_rfl) (k (stX H0 0 rfl ty68 rfl rfl rfl rfl rfl rfl rfl ?_))))))))))))))
  intro w1 (H1 : HI M w w1 [box bb0 #[iV 0, .slice none 0 0] 68])
  refine k (asg (v := iV 1) rfl rfl (z (nx (rt (then_ret (rc2 H1 0 rfl ty68 rfl rfl rfl rfl rfl (by decide) ?_))))))
  have e0 : (0 : Int) = newMN n := by first | exact (newM_no (okN_no.2 (by omega))).1.symm | exact (newM_yes (okN_iff.2 (by omega))).1.symm
  have e1 : ([] : List (List (BitVec 64))) = newMR n := by first | exact (newM_no (okN_no.2 (by omega))).2.1.symm | (rw [(newM_yes (okN_iff.2 (by omega))).2.1, hs]; exact fillTo_end (by omega))
  have e2 : (1 : Int) = newME n := by first | exact (newM_no (okN_no.2 (by omega))).2.2.symm | exact (newM_yes (okN_iff.2 (by omega))).2.2.symm
  have ev_ := cg3 (fun (x_0 : Int) (x_1 : List (List (BitVec 64))) (x_2 : Int) => (.tuple #[.agg #[iV x_0, .slice none x_1.length 0], iV x_2] : Value)) e0 e1 e2
  exact ⟨none, 0, ev_, H1.below, (congrArg (fun (x_ : List (List (BitVec 64))) => OwnsG _ _ _ x_ (.slice none x_.length 0) _) e1).mp (ownsG_nil H1.below)⟩
 have p0 := dF b0
 refine k (gy rfl rfl rfl b0 (mv rfl i0 (k (gy rfl rfl rfl b0 (gtr rfl rfl rfl rfl (k (pickF rfl rfl rfl rfl b0 rfl (z (nx ?_)))))))))
 refine cd (b := decide (4096 < n)) rfl rfl (fun b1 => ?_) (fun b1 => ?_)
 ·
  have p1 := dT b1
  refine sq (rg (k (bd (v := .agg #[iV 0, .slice none 0 0]) rfl pb0 (fun _ => by kernel_rfl) (k (stX H0 0 rfl ty68 rfl rfl rfl rfl rfl rfl rfl ?_)))))
  intro w1 (H1 : HI M w w1 [box bb0 #[iV 0, .slice none 0 0] 68])
  refine k (asg (v := iV 1) rfl rfl (z (nx (rt (then_ret (rc2 H1 0 rfl ty68 rfl rfl rfl rfl rfl (by decide) ?_))))))
  have e0 : (0 : Int) = newMN n := by first | exact (newM_no (okN_no.2 (by omega))).1.symm | exact (newM_yes (okN_iff.2 (by omega))).1.symm
  have e1 : ([] : List (List (BitVec 64))) = newMR n := by first | exact (newM_no (okN_no.2 (by omega))).2.1.symm | (rw [(newM_yes (okN_iff.2 (by omega))).2.1, hs]; exact fillTo_end (by omega))
  have e2 : (1 : Int) = newME n := by first | exact (newM_no (okN_no.2 (by omega))).2.2.symm | exact (newM_yes (okN_iff.2 (by omega))).2.2.symm
  have ev_ := cg3 (fun (x_0 : Int) (x_1 : List (List (BitVec 64))) (x_2 : Int) => (.tuple #[.agg #[iV x_0, .slice none x_1.length 0], iV x_2] : Value)) e0 e1 e2
  exact ⟨none, 0, ev_, H1.below, (congrArg (fun (x_ : List (List (BitVec 64))) => OwnsG _ _ _ x_ (.slice none x_.length 0) _) e1).mp (ownsG_nil H1.below)⟩
 have p1 := dF b1
 refine sk (nx (sq (rg (k (mv rfl i0 (k ?_))))))
 have n0 : ((n.toNat : Nat) : Int) = n := Int.toNat_of_nonneg (by omega)
 refine mk (m := n.toNat) (zx := ([] : (List (BitVec 64)))) H0 rfl rfl (by rw [n0]; exact rfl) (by rw [n0]; exact rfl) un66 ty115 (fun _ _ => ⟨_, rfl, rs_nil _ _⟩) (by omega) (by omega) ?_
 intro g0 w1 xt1 (H1 : HI M w w1 [own w.heap.size 115 (.slice (some ⟨g0, 0, none⟩) n.toNat n.toNat) (List.replicate n.toNat ([] : (List (BitVec 64)))), box bb0 #[iV 0, .slice none 0 0] 68])
 refine k (asg (v := .slice (some ⟨g0, 0, none⟩) n.toNat n.toNat) rfl rfl (z (nx (sq (sq (rg (k (mv (v := .slice (some ⟨g0, 0, none⟩) n.toNat n.toNat) rfl rfl (k (lnS rfl rfl un66 (k (mv (v := iV 0) rfl rfl (z (nx (bk ?_)))))))))))))))
 refine lp (fun m f w' => ∃ (j : Nat) (xs : List (List (BitVec 64))), m = n.toNat - j ∧ f 0 = iV n ∧ f 2 = pV bb0 0 ∧ f 4 = .slice (some ⟨g0, 0, none⟩) n.toNat n.toNat ∧ f 16 = iV (n.toNat : Int) ∧ f 17 = iV (j : Int) ∧  HI M w w' [own w.heap.size 115 (.slice (some ⟨g0, 0, none⟩) n.toNat n.toNat) xs, box bb0 #[iV 0, .slice none 0 0] 68] ∧ (j ≤ n.toNat) ∧ (xs.length = n.toNat) ∧ (xs = fillTo n.toNat j (newR n) [])) _ ⟨0, (List.replicate n.toNat ([] : (List (BitVec 64)))), rfl, i0, rfl, rfl, rfl, (ieq rfl (by first | rfl | omega | simp)), H1, (by first | omega | assumption | simp), (by simp), (by exact fillTo_zero _ _ _)⟩ ?_
 rintro _ f0 w2 ⟨j, xs, rfl, s0, s1, s2, s3, s4, H2, hk, hl, hs⟩
 refine sq (rg (k (lss rfl rfl s4 s3 (z (nx (sq ?_))))))
 refine cd (b := decide ((j : Int) < (n.toNat : Int))) rfl rfl (fun b2 => ?_) (fun b2 => ?_)
 ·
  have p2 := dT b2
  refine sk (nx (sq (bk (sq (rg (k (mv rfl s4 (k (asg (v := iV (j : Int)) rfl rfl (z (nx (rg (k (mv rfl s2 (k (mv (v := iV (j : Int)) rfl rfl (k (mv rfl s0 (k ?_)))))))))))))))))))
  have cc0 := row_New (n := n) (w := w2) H2.mb h_n (by omega)
  refine ca go136 rfl (ec rfl e0) cc0 ?_
  rintro _ w3 ⟨a0, c0, rfl, xt2, rv0⟩
  have H3 := H2.ownsG rv0
  refine k (iaO (H3.at_ 1 rfl) rfl rfl rfl rfl (by omega) un66 ty115 ?_)
  intro g1 x0 hv0 hx0 hA0
  refine k ?_
  have H4 := H3.freeze 0 rfl
  refine stO H4 1 rfl hv0 rfl (by omega) ty115 rfl rfl rfl rfl (H4.rv 0 rfl) ?_
  intro w4 (H5 : HI M w w4 [iL a0 (newR n) c0, own w.heap.size 115 (.slice (some ⟨g0, 0, none⟩) n.toNat n.toNat) (xs.set ((j : Int).toNat) (newR n)), box bb0 #[iV 0, .slice none 0 0] 68])
  refine z (inb_normal (nx (rg (k (add rfl rfl s4 rfl (by unfold I64 at *; omega) (k (mv (v := iV ((j : Int) + 1)) rfl rfl (z ?_))))))))
  have H6 : HI M w w4 [own w.heap.size 115 (.slice (some ⟨g0, 0, none⟩) n.toNat n.toNat) (xs.set ((j : Int).toNat) (newR n)), box bb0 #[iV 0, .slice none 0 0] 68] := H5.pickN [1, 2] (by decide) rfl
  refine loopN _ ?_ ⟨(j + 1), (xs.set ((j : Int).toNat) (newR n)), rfl, s0, s1, s2, s3, (ieq rfl (by first | rfl | omega)), H6, (by first | omega | assumption | simp), (by simpa using hl), (by rw [hs]; exact fillTo_set (by omega))⟩
  omega
 have p2 := dF b2
 refine ex (then_exit (loop_exit (inb_here (nx (sq (rg (k (mv rfl s0 (k (mv rfl s2 (k (bd (v := .agg #[iV n, .slice (some ⟨g0, 0, none⟩) n.toNat n.toNat]) rfl (pbc rfl (pbc rfl pb0)) (fun _ => by kernel_rfl) (k (stX H2 1 rfl ty68 rfl rfl s1 rfl rfl rfl rfl ?_))))))))))))))
 intro w3 (H3 : HI M w w3 [own w.heap.size 115 (.slice (some ⟨g0, 0, none⟩) n.toNat n.toNat) xs, box bb0 #[iV n, .slice (some ⟨g0, 0, none⟩) n.toNat n.toNat] 68])
 refine k (asg (v := iV 0) rfl rfl (z (nx (rt (rc2 H3 1 rfl ty68 rfl rfl rfl s1 rfl (by decide) ?_)))))
 have e0 : (n : Int) = newMN n := by first | exact (newM_no (okN_no.2 (by omega))).1.symm | exact (newM_yes (okN_iff.2 (by omega))).1.symm
 have e1 : (xs : List (List (BitVec 64))) = newMR n := by first | exact (newM_no (okN_no.2 (by omega))).2.1.symm | (rw [(newM_yes (okN_iff.2 (by omega))).2.1, hs]; exact fillTo_end (by omega))
 have l1 : n.toNat = (newMR n).length := by first | rfl | (rw [← e1]; omega) | (rw [← e1]; simp) | simp
 have e2 : (0 : Int) = newME n := by first | exact (newM_no (okN_no.2 (by omega))).2.2.symm | exact (newM_yes (okN_iff.2 (by omega))).2.2.symm
 have ev_ := cg3 (fun (x_0 : Int) (n_1 : Nat) (x_2 : Int) => (.tuple #[.agg #[iV x_0, .slice (some ⟨g0, 0, none⟩) n_1 n.toNat], iV x_2] : Value)) e0 l1 e2
 exact ⟨(some ⟨g0, 0, none⟩), n.toNat, ev_, H3.below, (congrArg (fun (n_ : Nat) => OwnsG _ _ _ (newMR n) (.slice (some ⟨g0, 0, none⟩) n_ n.toNat) _) l1).mp ((congrArg (fun (x_ : List (List (BitVec 64))) => OwnsG _ _ _ x_ (.slice (some ⟨g0, 0, none⟩) n.toNat n.toNat) _) e1).mp (H3.ownsG_out 0 rfl))⟩
theorem ref02_Or {a_a : OA} {c_a : Nat} {a : List (BitVec 64)} {a_b : OA} {c_b : Nat} {b : List (BitVec 64)} (hM : ∀ b, M b → b < w.heap.size) (h_a : RV M w (.slice a_a a.length c_a) a) (h_b : RV M w (.slice a_b b.length c_b) b) (hl_a : a.length ≤ 1000000000) (hl_b : b.length ≤ 1000000000) : Calls Tryz.prog 117 #[.slice a_a a.length c_a, .slice a_b b.length c_b] w (Ret fun v w' => ∃ (a0 : OA) (c0 : Nat), v = .slice a0 (orR a b).length c0 ∧ Ext w w' ∧ OwnsG M 137 w (orR a b) (.slice a0 (orR a b).length c0) w') := by
 refine enter 47 Tryz.func117 rfl rfl rfl fun f0 ha => ?_
 have H := HI.start (M0 := M) (w := w) hM
 have H0 := H.put (it := iL a_a a c_a) rfl (by rw [MS_nil]; exact h_a)
 have H1 := H0.put (it := iL a_b b c_b) rfl (by rw [MS_cons_none rfl, MS_nil]; exact h_b)
 have ln_a := rv_len h_a
 have ln_b := rv_len h_b
 have i0 : f0 0 = sL a_a a c_a := ha 0 (by simp)
 have i1 : f0 1 = sL a_b b c_b := ha 1 (by simp)
 refine sq (rg (k (asg (v := .slice none 0 0) rfl rfl (z (nx (sq (rg (k (mv rfl i0 (k (lnS rfl rfl un115 (k (mv rfl i1 (k (lnS rfl rfl un115 (k (max2 rfl rfl rfl rfl (k ?_))))))))))))))))))
 have n0 : (((max (a.length : Int) (b.length : Int)).toNat : Nat) : Int) = max (a.length : Int) (b.length : Int) := Int.toNat_of_nonneg (by omega)
 refine mk (m := (max (a.length : Int) (b.length : Int)).toNat) (zx := (0#64 : (BitVec 64))) H1 rfl rfl (by rw [n0]; exact rfl) (by rw [n0]; exact rfl) un115 ty137 (fun _ _ => rfl) (by omega) (by omega) ?_
 intro g0 w0 xt0 (H2 : HI M w w0 [own w.heap.size 137 (.slice (some ⟨g0, 0, none⟩) ((max (a.length : Int) (b.length : Int)).toNat) ((max (a.length : Int) (b.length : Int)).toNat)) (List.replicate ((max (a.length : Int) (b.length : Int)).toNat) (0#64 : (BitVec 64))), iL a_b b c_b, iL a_a a c_a])
 refine k (asg (v := .slice (some ⟨g0, 0, none⟩) ((max (a.length : Int) (b.length : Int)).toNat) ((max (a.length : Int) (b.length : Int)).toNat)) rfl rfl (z (nx (sq (sq (rg (k (asg (v := iV 0) rfl rfl (z (nx (bk ?_)))))))))))
 refine lp (fun m f w' => ∃ (j : Nat) (xs : List (BitVec 64)), m = (max (a.length : Int) (b.length : Int)).toNat - j ∧ f 0 = sL a_a a c_a ∧ f 1 = sL a_b b c_b ∧ f 5 = .slice (some ⟨g0, 0, none⟩) ((max (a.length : Int) (b.length : Int)).toNat) ((max (a.length : Int) (b.length : Int)).toNat) ∧ f 6 = iV (j : Int) ∧  HI M w w' [own w.heap.size 137 (.slice (some ⟨g0, 0, none⟩) ((max (a.length : Int) (b.length : Int)).toNat) ((max (a.length : Int) (b.length : Int)).toNat)) xs, iL a_b b c_b, iL a_a a c_a] ∧ (j ≤ (max (a.length : Int) (b.length : Int)).toNat) ∧ (xs.length = (max (a.length : Int) (b.length : Int)).toNat) ∧ (xs = orTo (max (a.length : Int) (b.length : Int)).toNat a b [] j)) _ ⟨0, (List.replicate ((max (a.length : Int) (b.length : Int)).toNat) (0#64 : (BitVec 64))), rfl, i0, i1, rfl, (ieq rfl (by first | rfl | omega | simp)), H2, (by first | omega | assumption | simp), (by simp), (by exact orTo_rep _ _ _)⟩ ?_
 rintro _ f0 w1 ⟨j, xs, rfl, s0, s1, s2, s3, H3, hk, hl, hs⟩
 refine sq (sq (rg (k (mv rfl s3 (k (mv rfl s2 (k (lnS rfl rfl un115 (k (lss rfl rfl rfl rfl (z (nx ?_))))))))))))
 refine cd (b := decide ((j : Int) < (((max (a.length : Int) (b.length : Int)).toNat) : Int))) rfl rfl (fun b0 => ?_) (fun b0 => ?_)
 ·
  have p0 := dT b0
  refine sk (nx (sq (bk (sq (sq (rg (k (mv rfl s3 (k (mv rfl s0 (k (lnS rfl rfl un115 (k (lss rfl rfl rfl rfl (z (nx ?_))))))))))))))))
  refine cd (b := decide ((j : Int) < (a.length : Int))) rfl rfl (fun b1 => ?_) (fun b1 => ?_)
  ·
   have p1 := dT b1
   refine rg (k (mv rfl s2 (k (mv rfl s3 (k (mv rfl s0 (k (mv rfl s3 (k (ia (H3.rv 2 rfl) rfl rfl rfl rfl (by omega) un115 ty137 ?_))))))))))
   intro ad0 x0 hx0 hA0
   refine k (ldU hA0.w ty137 rfl rfl (k (iaO (H3.at_ 0 rfl) rfl rfl rfl rfl (by omega) un115 ty137 ?_)))
   intro g1 x1 hv0 hx1 hA1
   refine k (stO H3 0 rfl hv0 rfl (by omega) ty137 rfl rfl rfl rfl (RV.bv.2 rfl) ?_)
   intro w2 (H4 : HI M w w2 [own w.heap.size 137 (.slice (some ⟨g0, 0, none⟩) ((max (a.length : Int) (b.length : Int)).toNat) ((max (a.length : Int) (b.length : Int)).toNat)) (xs.set ((j : Int).toNat) x0), iL a_b b c_b, iL a_a a c_a])
   refine z (nx (sq (rg (k (mv rfl s3 (k (mv rfl s1 (k (lnS rfl rfl un115 (k (lss rfl rfl rfl rfl (z (nx ?_)))))))))))))
   refine cd (b := decide ((j : Int) < (b.length : Int))) rfl rfl (fun b2 => ?_) (fun b2 => ?_)
   ·
    have p2 := dT b2
    obtain ⟨x2, hx2⟩ : ∃ x, (xs.set ((j : Int).toNat) x0)[(j : Int).toNat]? = some x := ⟨_, gE_ (by first | omega | (simp; omega))⟩
    obtain ⟨x3, hx3⟩ : ∃ x, b[(j : Int).toNat]? = some x := ⟨_, gE_ (by omega)⟩
    refine dr 11 [eV (.slice (some ⟨g0, 0, none⟩) ((max (a.length : Int) (b.length : Int)).toNat) ((max (a.length : Int) (b.length : Int)).toNat)), eV (iV (j : Int)), eV (.slice (some ⟨g0, 0, none⟩) ((max (a.length : Int) (b.length : Int)).toNat) ((max (a.length : Int) (b.length : Int)).toNat)), eV (iV (j : Int)), fun v w' => ∃ (g2 : Nat), v = .pointer (some ⟨g2, (j : Int).toNat * 1, none⟩) ∧ (.slice (some ⟨g0, 0, none⟩) ((max (a.length : Int) (b.length : Int)).toNat) ((max (a.length : Int) (b.length : Int)).toNat) : Value).ownBlock = some g2 ∧ AtW (MS M [own w.heap.size 137 (.slice (some ⟨g0, 0, none⟩) ((max (a.length : Int) (b.length : Int)).toNat) ((max (a.length : Int) (b.length : Int)).toNat)) (xs.set ((j : Int).toNat) x0), iL a_b b c_b, iL a_a a c_a]) w' ⟨g2, (j : Int).toNat * 1, none⟩ x2, eV (U x2), eV (sL a_b b c_b), eV (iV (j : Int)), fun v w' => ∃ (ad1 : Addr), v = .pointer (some ad1) ∧ At (MS M [own w.heap.size 137 (.slice (some ⟨g0, 0, none⟩) ((max (a.length : Int) (b.length : Int)).toNat) ((max (a.length : Int) (b.length : Int)).toNat)) (xs.set ((j : Int).toNat) x0), iL a_b b c_b, iL a_a a c_a]) w' ad1 x3, eV (U x3), eV (U (x2 ||| x3))] rfl (by kernel_rfl) ?_ ?_
    ·
     refine dc (fun _ _ hf0 _ _ => mv rfl ((hf0 5 rfl).trans s2) (d0 rfl rfl)) ?_
     refine dc (fun _ _ hf1 _ _ => mv rfl ((hf1 6 rfl).trans s3) (d0 rfl rfl)) ?_
     refine dc (fun _ _ hf2 _ _ => mv rfl ((hf2 5 rfl).trans s2) (d0 rfl rfl)) ?_
     refine dc (fun _ _ hf3 _ _ => mv rfl ((hf3 6 rfl).trans s3) (d0 rfl rfl)) ?_
     refine ⟨fun _ => ⟨fun f5 w7 hf4 xt5 hp4 => ?_, by rintro _ _ _ x_ ⟨g2, e_, hv1, hA2⟩; exact ⟨g2, e_, hv1, hA2.ext x_⟩⟩, ?_⟩
     ·
      have H9 := H4.ext xt5
      have s4 : f5 36 = .slice (some ⟨g0, 0, none⟩) ((max (a.length : Int) (b.length : Int)).toNat) ((max (a.length : Int) (b.length : Int)).toNat) := hp4 2 rfl rfl
      have s5 : f5 37 = iV (j : Int) := hp4 3 rfl rfl
      refine iaO (H9.at_ 0 rfl) rfl rfl s4 s5 (by first | omega | (simp; omega)) un115 ty137 ?_
      intro g3 x4 hv2 hx4 hA4
      obtain rfl : x2 = x4 := Option.some.inj (hx2.symm.trans hx4)
      exact ⟨_, rfl, Ext.refl _, ⟨g3, rfl, hv2, hA4⟩⟩
     refine dc (fun f6 w8 hf5 xt6 hp5 => ?_) ?_
     ·
      obtain ⟨g4, s6, hv3, hA5⟩ : ∃ (g4 : Nat), f6 38 = .pointer (some ⟨g4, (j : Int).toNat * 1, none⟩) ∧ (.slice (some ⟨g0, 0, none⟩) ((max (a.length : Int) (b.length : Int)).toNat) ((max (a.length : Int) (b.length : Int)).toNat) : Value).ownBlock = some g4 ∧ AtW (MS M [own w.heap.size 137 (.slice (some ⟨g0, 0, none⟩) ((max (a.length : Int) (b.length : Int)).toNat) ((max (a.length : Int) (b.length : Int)).toNat)) (xs.set ((j : Int).toNat) x0), iL a_b b c_b, iL a_a a c_a]) w8 ⟨g4, (j : Int).toNat * 1, none⟩ x2 := hp5 4 rfl rfl
      refine ldU hA5 ty137 rfl s6 ?_
      exact ⟨_, rfl, Ext.refl _, rfl⟩
     refine dc (fun _ _ hf6 _ _ => mv rfl ((hf6 1 rfl).trans s1) (d0 rfl rfl)) ?_
     refine dc (fun _ _ hf7 _ _ => mv rfl ((hf7 6 rfl).trans s3) (d0 rfl rfl)) ?_
     refine ⟨fun _ => ⟨fun f9 w11 hf8 xt9 hp8 => ?_, by rintro _ _ _ x_ ⟨ad1, e_, hA3⟩; exact ⟨ad1, e_, hA3.lift (Up.ext x_)⟩⟩, ?_⟩
     ·
      have H13 := H4.ext xt9
      have s7 : f9 40 = sL a_b b c_b := hp8 6 rfl rfl
      have s8 : f9 41 = iV (j : Int) := hp8 7 rfl rfl
      refine ia (H13.rv 1 rfl) rfl rfl s7 s8 (by omega) un115 ty137 ?_
      intro ad2 x5 hx5 hA6
      obtain rfl : x3 = x5 := Option.some.inj (hx3.symm.trans hx5)
      exact ⟨_, rfl, Ext.refl _, ⟨ad2, rfl, hA6⟩⟩
     refine dc (fun f10 w12 hf9 xt10 hp9 => ?_) ?_
     ·
      have H14 := H4.ext xt10
      obtain ⟨ad3, s9, hA7⟩ : ∃ (ad3 : Addr), f10 42 = .pointer (some ad3) ∧ At (MS M [own w.heap.size 137 (.slice (some ⟨g0, 0, none⟩) ((max (a.length : Int) (b.length : Int)).toNat) ((max (a.length : Int) (b.length : Int)).toNat)) (xs.set ((j : Int).toNat) x0), iL a_b b c_b, iL a_a a c_a]) w12 ad3 x3 := hp9 8 rfl rfl
      have H15 := H14.put (it := atI ad3 x3) rfl hA7
      refine ldU (H15.atv 0 rfl).w ty137 rfl s9 ?_
      exact ⟨_, rfl, Ext.refl _, rfl⟩
     refine dc (fun _ _ _ _ hp10 => orU x2 x3 rfl rfl (hp10 5 rfl rfl) (hp10 9 rfl rfl) (d0 rfl rfl)) ?_
     exact DSteps.rest rfl _
    ·
     intro f12 w14 hf11 xt12 hp11
     have H17 := H4.ext xt12
     have s12 : f12 0 = sL a_a a c_a := (hf11 0 rfl).trans s0
     have s13 : f12 1 = sL a_b b c_b := (hf11 1 rfl).trans s1
     have s14 : f12 5 = .slice (some ⟨g0, 0, none⟩) ((max (a.length : Int) (b.length : Int)).toNat) ((max (a.length : Int) (b.length : Int)).toNat) := (hf11 5 rfl).trans s2
     have s15 : f12 6 = iV (j : Int) := (hf11 6 rfl).trans s3
     have s16 : f12 34 = .slice (some ⟨g0, 0, none⟩) ((max (a.length : Int) (b.length : Int)).toNat) ((max (a.length : Int) (b.length : Int)).toNat) := hp11 0 rfl
     have s17 : f12 35 = iV (j : Int) := hp11 1 rfl
     have s18 : f12 44 = U (x2 ||| x3) := hp11 10 rfl
     refine k (iaO (H17.at_ 0 rfl) rfl rfl s16 s17 (by first | omega | (simp; omega)) un115 ty137 ?_)
     intro g5 x6 hv4 hx6 hA8
     refine k (stO H17 0 rfl hv4 rfl (by first | omega | (simp; omega)) ty137 rfl rfl rfl s18 (RV.bv.2 rfl) ?_)
     intro w15 (H18 : HI M w w15 [own w.heap.size 137 (.slice (some ⟨g0, 0, none⟩) ((max (a.length : Int) (b.length : Int)).toNat) ((max (a.length : Int) (b.length : Int)).toNat)) ((xs.set ((j : Int).toNat) x0).set ((j : Int).toNat) (x2 ||| x3)), iL a_b b c_b, iL a_a a c_a])
     refine z (inb_normal (nx (rg (k (mv rfl s15 (k (add rfl rfl rfl rfl (by unfold I64 at *; omega) (k (asg (v := iV ((j : Int) + 1)) rfl rfl (z ?_))))))))))
     refine loopN _ ?_ ⟨(j + 1), ((xs.set ((j : Int).toNat) x0).set ((j : Int).toNat) (x2 ||| x3)), rfl, s12, s13, s14, (ieq rfl (by first | rfl | omega)), H18, (by first | omega | assumption | simp), (by simpa using hl), (by first | exact or_both hs hx0 hx2 hx3 | exact or_left hs hx0 (by omega) | exact or_right hs (by omega) hx0 hx1 | exact or_none hs (by omega) (by omega))⟩
     omega
   have p2 := dF b2
   refine sk (inb_normal (nx (rg (k (mv rfl s3 (k (add rfl rfl rfl rfl (by unfold I64 at *; omega) (k (asg (v := iV ((j : Int) + 1)) rfl rfl (z ?_))))))))))
   refine loopN _ ?_ ⟨(j + 1), (xs.set ((j : Int).toNat) x0), rfl, s0, s1, s2, (ieq rfl (by first | rfl | omega)), H4, (by first | omega | assumption | simp), (by simpa using hl), (by first | exact or_both hs hx0 hx2 hx3 | exact or_left hs hx0 (by omega) | exact or_right hs (by omega) hx0 hx1 | exact or_none hs (by omega) (by omega))⟩
   omega
  have p1 := dF b1
  refine sk (nx (sq (rg (k (mv rfl s3 (k (mv rfl s1 (k (lnS rfl rfl un115 (k (lss rfl rfl rfl rfl (z (nx ?_)))))))))))))
  refine cd (b := decide ((j : Int) < (b.length : Int))) rfl rfl (fun b2 => ?_) (fun b2 => ?_)
  ·
   have p2 := dT b2
   obtain ⟨x0, hx0⟩ : ∃ x, xs[(j : Int).toNat]? = some x := ⟨_, gE_ (by omega)⟩
   obtain ⟨x1, hx1⟩ : ∃ x, b[(j : Int).toNat]? = some x := ⟨_, gE_ (by omega)⟩
   refine dr 11 [eV (.slice (some ⟨g0, 0, none⟩) ((max (a.length : Int) (b.length : Int)).toNat) ((max (a.length : Int) (b.length : Int)).toNat)), eV (iV (j : Int)), eV (.slice (some ⟨g0, 0, none⟩) ((max (a.length : Int) (b.length : Int)).toNat) ((max (a.length : Int) (b.length : Int)).toNat)), eV (iV (j : Int)), fun v w' => ∃ (g1 : Nat), v = .pointer (some ⟨g1, (j : Int).toNat * 1, none⟩) ∧ (.slice (some ⟨g0, 0, none⟩) ((max (a.length : Int) (b.length : Int)).toNat) ((max (a.length : Int) (b.length : Int)).toNat) : Value).ownBlock = some g1 ∧ AtW (MS M [own w.heap.size 137 (.slice (some ⟨g0, 0, none⟩) ((max (a.length : Int) (b.length : Int)).toNat) ((max (a.length : Int) (b.length : Int)).toNat)) xs, iL a_b b c_b, iL a_a a c_a]) w' ⟨g1, (j : Int).toNat * 1, none⟩ x0, eV (U x0), eV (sL a_b b c_b), eV (iV (j : Int)), fun v w' => ∃ (ad0 : Addr), v = .pointer (some ad0) ∧ At (MS M [own w.heap.size 137 (.slice (some ⟨g0, 0, none⟩) ((max (a.length : Int) (b.length : Int)).toNat) ((max (a.length : Int) (b.length : Int)).toNat)) xs, iL a_b b c_b, iL a_a a c_a]) w' ad0 x1, eV (U x1), eV (U (x0 ||| x1))] rfl (by kernel_rfl) ?_ ?_
   ·
    refine dc (fun _ _ hf0 _ _ => mv rfl ((hf0 5 rfl).trans s2) (d0 rfl rfl)) ?_
    refine dc (fun _ _ hf1 _ _ => mv rfl ((hf1 6 rfl).trans s3) (d0 rfl rfl)) ?_
    refine dc (fun _ _ hf2 _ _ => mv rfl ((hf2 5 rfl).trans s2) (d0 rfl rfl)) ?_
    refine dc (fun _ _ hf3 _ _ => mv rfl ((hf3 6 rfl).trans s3) (d0 rfl rfl)) ?_
    refine ⟨fun _ => ⟨fun f5 w6 hf4 xt5 hp4 => ?_, by rintro _ _ _ x_ ⟨g1, e_, hv0, hA0⟩; exact ⟨g1, e_, hv0, hA0.ext x_⟩⟩, ?_⟩
    ·
     have H8 := H3.ext xt5
     have s4 : f5 36 = .slice (some ⟨g0, 0, none⟩) ((max (a.length : Int) (b.length : Int)).toNat) ((max (a.length : Int) (b.length : Int)).toNat) := hp4 2 rfl rfl
     have s5 : f5 37 = iV (j : Int) := hp4 3 rfl rfl
     refine iaO (H8.at_ 0 rfl) rfl rfl s4 s5 (by omega) un115 ty137 ?_
     intro g2 x2 hv1 hx2 hA2
     obtain rfl : x0 = x2 := Option.some.inj (hx0.symm.trans hx2)
     exact ⟨_, rfl, Ext.refl _, ⟨g2, rfl, hv1, hA2⟩⟩
    refine dc (fun f6 w7 hf5 xt6 hp5 => ?_) ?_
    ·
     obtain ⟨g3, s6, hv2, hA3⟩ : ∃ (g3 : Nat), f6 38 = .pointer (some ⟨g3, (j : Int).toNat * 1, none⟩) ∧ (.slice (some ⟨g0, 0, none⟩) ((max (a.length : Int) (b.length : Int)).toNat) ((max (a.length : Int) (b.length : Int)).toNat) : Value).ownBlock = some g3 ∧ AtW (MS M [own w.heap.size 137 (.slice (some ⟨g0, 0, none⟩) ((max (a.length : Int) (b.length : Int)).toNat) ((max (a.length : Int) (b.length : Int)).toNat)) xs, iL a_b b c_b, iL a_a a c_a]) w7 ⟨g3, (j : Int).toNat * 1, none⟩ x0 := hp5 4 rfl rfl
     refine ldU hA3 ty137 rfl s6 ?_
     exact ⟨_, rfl, Ext.refl _, rfl⟩
    refine dc (fun _ _ hf6 _ _ => mv rfl ((hf6 1 rfl).trans s1) (d0 rfl rfl)) ?_
    refine dc (fun _ _ hf7 _ _ => mv rfl ((hf7 6 rfl).trans s3) (d0 rfl rfl)) ?_
    refine ⟨fun _ => ⟨fun f9 w10 hf8 xt9 hp8 => ?_, by rintro _ _ _ x_ ⟨ad0, e_, hA1⟩; exact ⟨ad0, e_, hA1.lift (Up.ext x_)⟩⟩, ?_⟩
    ·
     have H12 := H3.ext xt9
     have s7 : f9 40 = sL a_b b c_b := hp8 6 rfl rfl
     have s8 : f9 41 = iV (j : Int) := hp8 7 rfl rfl
     refine ia (H12.rv 1 rfl) rfl rfl s7 s8 (by omega) un115 ty137 ?_
     intro ad1 x3 hx3 hA4
     obtain rfl : x1 = x3 := Option.some.inj (hx1.symm.trans hx3)
     exact ⟨_, rfl, Ext.refl _, ⟨ad1, rfl, hA4⟩⟩
    refine dc (fun f10 w11 hf9 xt10 hp9 => ?_) ?_
    ·
     have H13 := H3.ext xt10
     obtain ⟨ad2, s9, hA5⟩ : ∃ (ad2 : Addr), f10 42 = .pointer (some ad2) ∧ At (MS M [own w.heap.size 137 (.slice (some ⟨g0, 0, none⟩) ((max (a.length : Int) (b.length : Int)).toNat) ((max (a.length : Int) (b.length : Int)).toNat)) xs, iL a_b b c_b, iL a_a a c_a]) w11 ad2 x1 := hp9 8 rfl rfl
     have H14 := H13.put (it := atI ad2 x1) rfl hA5
     refine ldU (H14.atv 0 rfl).w ty137 rfl s9 ?_
     exact ⟨_, rfl, Ext.refl _, rfl⟩
    refine dc (fun _ _ _ _ hp10 => orU x0 x1 rfl rfl (hp10 5 rfl rfl) (hp10 9 rfl rfl) (d0 rfl rfl)) ?_
    exact DSteps.rest rfl _
   ·
    intro f12 w13 hf11 xt12 hp11
    have H16 := H3.ext xt12
    have s12 : f12 0 = sL a_a a c_a := (hf11 0 rfl).trans s0
    have s13 : f12 1 = sL a_b b c_b := (hf11 1 rfl).trans s1
    have s14 : f12 5 = .slice (some ⟨g0, 0, none⟩) ((max (a.length : Int) (b.length : Int)).toNat) ((max (a.length : Int) (b.length : Int)).toNat) := (hf11 5 rfl).trans s2
    have s15 : f12 6 = iV (j : Int) := (hf11 6 rfl).trans s3
    have s16 : f12 34 = .slice (some ⟨g0, 0, none⟩) ((max (a.length : Int) (b.length : Int)).toNat) ((max (a.length : Int) (b.length : Int)).toNat) := hp11 0 rfl
    have s17 : f12 35 = iV (j : Int) := hp11 1 rfl
    have s18 : f12 44 = U (x0 ||| x1) := hp11 10 rfl
    refine k (iaO (H16.at_ 0 rfl) rfl rfl s16 s17 (by omega) un115 ty137 ?_)
    intro g4 x4 hv3 hx4 hA6
    refine k (stO H16 0 rfl hv3 rfl (by omega) ty137 rfl rfl rfl s18 (RV.bv.2 rfl) ?_)
    intro w14 (H17 : HI M w w14 [own w.heap.size 137 (.slice (some ⟨g0, 0, none⟩) ((max (a.length : Int) (b.length : Int)).toNat) ((max (a.length : Int) (b.length : Int)).toNat)) (xs.set ((j : Int).toNat) (x0 ||| x1)), iL a_b b c_b, iL a_a a c_a])
    refine z (inb_normal (nx (rg (k (mv rfl s15 (k (add rfl rfl rfl rfl (by unfold I64 at *; omega) (k (asg (v := iV ((j : Int) + 1)) rfl rfl (z ?_))))))))))
    refine loopN _ ?_ ⟨(j + 1), (xs.set ((j : Int).toNat) (x0 ||| x1)), rfl, s12, s13, s14, (ieq rfl (by first | rfl | omega)), H17, (by first | omega | assumption | simp), (by simpa using hl), (by first | exact or_both hs hx0 hx2 hx3 | exact or_left hs hx0 (by omega) | exact or_right hs (by omega) hx0 hx1 | exact or_none hs (by omega) (by omega))⟩
    omega
  have p2 := dF b2
  refine sk (inb_normal (nx (rg (k (mv rfl s3 (k (add rfl rfl rfl rfl (by unfold I64 at *; omega) (k (asg (v := iV ((j : Int) + 1)) rfl rfl (z ?_))))))))))
  refine loopN _ ?_ ⟨(j + 1), xs, rfl, s0, s1, s2, (ieq rfl (by first | rfl | omega)), H3, (by first | omega | assumption | simp), (by simpa using hl), (by first | exact or_both hs hx0 hx2 hx3 | exact or_left hs hx0 (by omega) | exact or_right hs (by omega) hx0 hx1 | exact or_none hs (by omega) (by omega))⟩
  omega
 have p0 := dF b0
 refine ex (then_exit (loop_exit (inb_here (nx (sq (rg (k (mv rfl s2 (k (asg (v := .slice (some ⟨g0, 0, none⟩) ((max (a.length : Int) (b.length : Int)).toNat) ((max (a.length : Int) (b.length : Int)).toNat)) rfl rfl (z (nx (rt (r1 rfl rfl ?_))))))))))))))
 have e0 : (xs : List (BitVec 64)) = orR a b := by rw [hs]; exact orTo_all (by omega) (fun i h1 h2 => by omega)
 have l0 : ((max (a.length : Int) (b.length : Int)).toNat) = (orR a b).length := by rw [← e0]; omega
 have ev_ := cg1 (fun (n_0 : Nat) => (.slice (some ⟨g0, 0, none⟩) n_0 ((max (a.length : Int) (b.length : Int)).toNat) : Value)) l0
 exact ⟨(some ⟨g0, 0, none⟩), ((max (a.length : Int) (b.length : Int)).toNat), ev_, H3.below, (congrArg (fun (n_ : Nat) => OwnsG _ _ _ (orR a b) (.slice (some ⟨g0, 0, none⟩) n_ ((max (a.length : Int) (b.length : Int)).toNat)) _) l0).mp ((congrArg (fun (x_ : List (BitVec 64)) => OwnsG _ _ _ x_ (.slice (some ⟨g0, 0, none⟩) ((max (a.length : Int) (b.length : Int)).toNat) ((max (a.length : Int) (b.length : Int)).toNat)) _) e0).mp (H3.ownsG_out 0 rfl))⟩
theorem ty54 : TyF Tryz.prog 54 1 false 8 (.pointer none) := ⟨by kernel_rfl, by kernel_rfl⟩
theorem fl57_0 : FldF Tryz.prog 57 0 0 := ⟨_, _, Tryz.underlying57, rfl, rfl, by kernel_rfl⟩
theorem fl32_1 : FldF Tryz.prog 32 1 1 := ⟨_, _, Tryz.underlying32, rfl, rfl, by kernel_rfl⟩
theorem ty29 : TyF Tryz.prog 29 1 false 24 (.slice none 0 0) := ⟨by kernel_rfl, by kernel_rfl⟩
theorem un29 : Tryz.prog.underlying 29 = some (.slice 85) := by kernel_rfl
theorem go84 : GoF Tryz.prog 84 := ⟨_, _, Tryz.func84, rfl, by kernel_rfl⟩
theorem go21 : GoF Tryz.prog 21 := ⟨_, _, Tryz.func21, rfl, by kernel_rfl⟩
theorem ty92 : TyF Tryz.prog 92 5 true 40 (.agg #[.int .i64 0, .int .i64 0, .int .i64 0, .int .i64 0, .int .i64 0]) := ⟨by kernel_rfl, by kernel_rfl⟩
theorem fl57_1 : FldF Tryz.prog 57 1 3 := ⟨_, _, Tryz.underlying57, rfl, rfl, by kernel_rfl⟩
theorem ty23 : TyF Tryz.prog 23 1 false 24 (.slice none 0 0) := ⟨by kernel_rfl, by kernel_rfl⟩
theorem un23 : Tryz.prog.underlying 23 = some (.slice 92) := by kernel_rfl
theorem aud_op1 {i : Int} {b_ap : Nat} {ty_ap : TypeId} {b_a : Nat} {ty_a : TypeId} {a_fv : OA} {n_fv c_fv : Nat} {a_fi : OA} {c_fi : Nat} {fi : List ItemL} {a_fo : OA} {n_fo c_fo : Nat} {a_stp : OA} {n_stp c_stp : Nat} {a_pl : OA} {n_pl c_pl : Nat} (hM : ∀ b, M b → b < w.heap.size) (h_i : I64 i) (h_fi : RV M w (.slice a_fi fi.length c_fi) fi) (h_ap : w.heap[b_ap]? = some (.cells #[.pointer (some ⟨b_a, 0, none⟩)] ty_ap (0, 0)) ∧ ¬ M b_ap) (h_a : w.heap[b_a]? = some (.cells #[.slice a_fv n_fv c_fv, .slice a_fi fi.length c_fi, .slice a_fo n_fo c_fo, .slice a_stp n_stp c_stp, .slice a_pl n_pl c_pl] ty_a (0, 0)) ∧ ¬ M b_a) : Calls Tryz.prog 84 #[.int .i64 i, .pointer (some ⟨b_ap, 0, none⟩)] w (Ret fun v w' =>  v = .bool (outO fi i) ∧ Ext w w') := by
 refine enter 16 Tryz.func84 rfl rfl rfl fun f0 ha => ?_
 have H := HI.start (M0 := M) (w := w) hM
 have H0 := H.put (it := iL a_fi fi c_fi) rfl (by rw [MS_nil]; exact h_fi)
 have ln_fi := rv_len h_fi
 have i0 : f0 0 = iV i := ha 0 (by simp)
 have H1 := H0.put (it := ro b_a #[.slice a_fv n_fv c_fv, sL a_fi fi c_fi, .slice a_fo n_fo c_fo, .slice a_stp n_stp c_stp, .slice a_pl n_pl c_pl] ty_a) rfl (by rw [MS_cons_none rfl, MS_nil]; exact h_a)
 have H2 := H1.put (it := ro b_ap #[pV b_a 0] ty_ap) rfl (by rw [MS_cons_none rfl, MS_cons_none rfl, MS_nil]; exact h_ap)
 have i1 : f0 1 = pV b_ap 0 := ha 1 (by simp)
 refine sq (rg (k (asg (v := .bool false) rfl rfl (z (nx (sq (rg (k (mv rfl i0 (k (lss rfl rfl rfl rfl (k (mv (v := .bool (decide (i < 0))) rfl rfl ?_)))))))))))))
 rcases bE (decide (i < 0)) with b0 | b0
 ·
  have p0 := dT b0
  refine k (gn rfl rfl rfl b0 (k (gn rfl rfl rfl b0 (k (gn rfl rfl rfl b0 (k (gn rfl rfl rfl b0 (k (gn rfl rfl rfl b0 (k (gn rfl rfl rfl b0 (k (gn rfl rfl rfl b0 (k (gn rfl rfl rfl b0 (k (pickT rfl rfl rfl rfl b0 rfl (k (asg (v := .bool true) rfl rfl (z (nx (rt (r1 rfl rfl ?_)))))))))))))))))))))))
  exact ⟨congrArg Value.bool (by first | (rw [outO_lo (by assumption)]; done) | (rw [outO_lo (by assumption)]; rfl) | exact outO_hi (by assumption)), H2.below⟩
 have p0 := dF b0
 refine k (gy rfl rfl rfl b0 (mv rfl i0 (k (gy rfl rfl rfl b0 (lr H2 0 rfl ty54 rfl i1 rfl (k (gy rfl rfl rfl b0 (nc rfl rfl (k (gy rfl rfl rfl b0 (fa fl57_0 rfl rfl (k (gy rfl rfl rfl b0 (fa fl32_1 rfl rfl (k (gy rfl rfl rfl b0 (lr H2 1 rfl ty29 rfl rfl rfl (k (gy rfl rfl rfl b0 (lnS rfl rfl un29 (k (gy rfl rfl rfl b0 (geq rfl rfl rfl rfl (k (pickF rfl rfl rfl rfl b0 rfl (k (asg (v := .bool (decide ((fi.length : Int) ≤ i))) rfl rfl (z (nx (rt (r1 rfl rfl ?_)))))))))))))))))))))))))))))))
 exact ⟨congrArg Value.bool (by first | (rw [outO_lo (by assumption)]; done) | (rw [outO_lo (by assumption)]; rfl) | exact outO_hi (by assumption)), H2.below⟩
theorem aud_op {b_a : Nat} {ty_a : TypeId} {a_fv : OA} {n_fv c_fv : Nat} {a_fi : OA} {c_fi : Nat} {fi : List ItemL} {a_fo : OA} {n_fo c_fo : Nat} {a_stp : OA} {n_stp c_stp : Nat} {a_pl : OA} {n_pl c_pl : Nat} {a_l : OA} {c_l : Nat} {l : List Int} (hM : ∀ b, M b → b < w.heap.size) (h_fi : RV M w (.slice a_fi fi.length c_fi) fi) (h_l : RV M w (.slice a_l l.length c_l) l) (h_a : w.heap[b_a]? = some (.cells #[.slice a_fv n_fv c_fv, .slice a_fi fi.length c_fi, .slice a_fo n_fo c_fo, .slice a_stp n_stp c_stp, .slice a_pl n_pl c_pl] ty_a (0, 0)) ∧ ¬ M b_a) : Calls Tryz.prog 46 #[.pointer (some ⟨b_a, 0, none⟩), .slice a_l l.length c_l] w (Ret fun v w' =>  v = .bool (!(l.any (outO fi))) ∧ Ext w w') := by
 refine enter 9 Tryz.func46 rfl rfl rfl fun f0 ha => ?_
 have H := HI.start (M0 := M) (w := w) hM
 have H0 := H.put (it := iL a_fi fi c_fi) rfl (by rw [MS_nil]; exact h_fi)
 have H1 := H0.put (it := iL a_l l c_l) rfl (by rw [MS_cons_none rfl, MS_nil]; exact h_l)
 have ln_fi := rv_len h_fi
 have ln_l := rv_len h_l
 have H2 := H1.put (it := ro b_a #[.slice a_fv n_fv c_fv, sL a_fi fi c_fi, .slice a_fo n_fo c_fo, .slice a_stp n_stp c_stp, .slice a_pl n_pl c_pl] ty_a) rfl (by rw [MS_cons_none rfl, MS_cons_none rfl, MS_nil]; exact h_a)
 have i0 : f0 0 = pV b_a 0 := ha 0 (by simp)
 have i1 : f0 1 = sL a_l l c_l := ha 1 (by simp)
 refine sq (rg (k (bx H2 rfl i0 ?_)))
 intro bb0 w0 xt0 (H3 : HI M w w0 [box bb0 #[pV b_a 0] 54, ro b_a #[.slice a_fv n_fv c_fv, sL a_fi fi c_fi, .slice a_fo n_fo c_fo, .slice a_stp n_stp c_stp, .slice a_pl n_pl c_pl] ty_a, iL a_l l c_l, iL a_fi fi c_fi])
 refine k (asg (v := .bool false) rfl rfl (z (nx (sq (rg (k (mv rfl i1 (k (mf rfl (k ?_))))))))))
 have cc0 := containsFunc_int (r := l) (p := (fun (x_ : Int) => outO fi x_)) (w := w0) H3.mb (H3.rv 2 rfl) ⟨go84, fun w_ v_ x_ hx_ e_ hv_ => by have H_ := H3.ext e_; obtain ⟨_, ⟨rfl, rv0⟩, rfl⟩ := hv_; exact aud_op1 (fi := fi) (M := fun _ => False) (fun _ h_ => h_.elim) rv0 ((H_.rv 3 rfl).lift (Up.less fun _ _ h_ => h_.elim)) ⟨H_.at_ 0 rfl, fun h_ => h_⟩ ⟨(H_.at_ 1 rfl).1, fun h_ => h_⟩⟩
 refine ca go21 rfl (ec rfl (ec rfl e0)) cc0 ?_
 rintro _ w1 ⟨rfl, xt1⟩
 have H4 := H3.ext xt1
 refine k (not_ rfl rfl (k (asg (v := .bool (!(l.any (fun (x_ : Int) => outO fi x_)))) rfl rfl (z (nx (rt (r1 rfl rfl ?_)))))))
 exact ⟨congrArg Value.bool (show (!(l.any (fun (x_ : Int) => outO fi x_))) = (!(l.any (outO fi))) from rfl), H4.below⟩
theorem aud_step {b_a : Nat} {ty_a : TypeId} {a_fv : OA} {n_fv c_fv : Nat} {a_fi : OA} {n_fi c_fi : Nat} {a_fo : OA} {n_fo c_fo : Nat} {a_stp : OA} {c_stp : Nat} {stp : List StepL} {a_pl : OA} {n_pl c_pl : Nat} {i : Int} (hM : ∀ b, M b → b < w.heap.size) (h_stp : RV M w (.slice a_stp stp.length c_stp) stp) (h_i : I64 i) (h_a : w.heap[b_a]? = some (.cells #[.slice a_fv n_fv c_fv, .slice a_fi n_fi c_fi, .slice a_fo n_fo c_fo, .slice a_stp stp.length c_stp, .slice a_pl n_pl c_pl] ty_a (0, 0)) ∧ ¬ M b_a) : Calls Tryz.prog 83 #[.pointer (some ⟨b_a, 0, none⟩), .int .i64 i] w (Ret fun v w' =>  v = .tuple #[.agg #[.int .i64 ((stpO stp i).elim 0 (·.1)), .int .i64 ((stpO stp i).elim 0 (·.2.1)), .int .i64 ((stpO stp i).elim 0 (·.2.2.1)), .int .i64 ((stpO stp i).elim 0 (·.2.2.2.1)), .int .i64 ((stpO stp i).elim 0 (·.2.2.2.2))], .bool ((stpO stp i).isSome)] ∧ Ext w w') := by
 refine enter 25 Tryz.func83 rfl rfl rfl fun f0 ha => ?_
 have H := HI.start (M0 := M) (w := w) hM
 have H0 := H.put (it := iL a_stp stp c_stp) rfl (by rw [MS_nil]; exact h_stp)
 have ln_stp := rv_len h_stp
 have H1 := H0.put (it := ro b_a #[.slice a_fv n_fv c_fv, .slice a_fi n_fi c_fi, .slice a_fo n_fo c_fo, sL a_stp stp c_stp, .slice a_pl n_pl c_pl] ty_a) rfl (by rw [MS_cons_none rfl, MS_nil]; exact h_a)
 have i0 : f0 0 = pV b_a 0 := ha 0 (by simp)
 have i1 : f0 1 = iV i := ha 1 (by simp)
 refine sq (rg (k (al H1 ty92 ?_)))
 intro bb0 w0 xt0 (H2 : HI M w w0 [box bb0 #[iV 0, iV 0, iV 0, iV 0, iV 0] 92, ro b_a #[.slice a_fv n_fv c_fv, .slice a_fi n_fi c_fi, .slice a_fo n_fo c_fo, sL a_stp stp c_stp, .slice a_pl n_pl c_pl] ty_a, iL a_stp stp c_stp])
 refine k (asg (v := .bool false) rfl rfl (z (nx (sq (sq (rg (k (mv rfl i1 (k (lss rfl rfl rfl rfl (k (mv (v := .bool (decide (i < 0))) rfl rfl ?_))))))))))))
 rcases bE (decide (i < 0)) with b0 | b0
 ·
  have p0 := dT b0
  refine k (gn rfl rfl rfl b0 (k (gn rfl rfl rfl b0 (k (gn rfl rfl rfl b0 (k (gn rfl rfl rfl b0 (k (gn rfl rfl rfl b0 (k (gn rfl rfl rfl b0 (k (gn rfl rfl rfl b0 (k (pickT rfl rfl rfl rfl b0 rfl (z (nx (cdT rfl rfl rfl (sq (rg (k (bd (v := .agg #[iV 0, iV 0, iV 0, iV 0, iV 0]) rfl pb0 (fun _ => by kernel_rfl) (k (stX H2 0 rfl ty92 rfl rfl rfl rfl rfl rfl rfl ?_))))))))))))))))))))))))
  intro w1 (H3 : HI M w w1 [box bb0 #[iV 0, iV 0, iV 0, iV 0, iV 0] 92, ro b_a #[.slice a_fv n_fv c_fv, .slice a_fi n_fi c_fi, .slice a_fo n_fo c_fo, sL a_stp stp c_stp, .slice a_pl n_pl c_pl] ty_a, iL a_stp stp c_stp])
  refine k (asg (v := .bool false) rfl rfl (z (nx (rt (then_ret (rc2 H3 0 rfl ty92 rfl rfl rfl rfl rfl (by decide) ?_))))))
  have e0 : (0 : Int) = (stpO stp i).elim 0 (·.1) := by first | (rw [stpO_no (by omega)]; rfl) | (rw [stpO_at (by omega) hx0]; rfl)
  have e1 : (0 : Int) = (stpO stp i).elim 0 (·.2.1) := by first | (rw [stpO_no (by omega)]; rfl) | (rw [stpO_at (by omega) hx0]; rfl)
  have e2 : (0 : Int) = (stpO stp i).elim 0 (·.2.2.1) := by first | (rw [stpO_no (by omega)]; rfl) | (rw [stpO_at (by omega) hx0]; rfl)
  have e3 : (0 : Int) = (stpO stp i).elim 0 (·.2.2.2.1) := by first | (rw [stpO_no (by omega)]; rfl) | (rw [stpO_at (by omega) hx0]; rfl)
  have e4 : (0 : Int) = (stpO stp i).elim 0 (·.2.2.2.2) := by first | (rw [stpO_no (by omega)]; rfl) | (rw [stpO_at (by omega) hx0]; rfl)
  have e5 : (false : Bool) = (stpO stp i).isSome := by first | (rw [stpO_no (by omega)]; rfl) | (rw [stpO_at (by omega) hx0]; rfl)
  have ev_ := cg6 (fun (x_0 : Int) (x_1 : Int) (x_2 : Int) (x_3 : Int) (x_4 : Int) (x_5 : Bool) => (.tuple #[.agg #[iV x_0, iV x_1, iV x_2, iV x_3, iV x_4], .bool x_5] : Value)) e0 e1 e2 e3 e4 e5
  exact ⟨ev_, H3.below⟩
 have p0 := dF b0
 refine k (gy rfl rfl rfl b0 (mv rfl i1 (k (gy rfl rfl rfl b0 (mv rfl i0 (k (gy rfl rfl rfl b0 (nc rfl rfl (k (gy rfl rfl rfl b0 (fa fl57_1 rfl rfl (k (gy rfl rfl rfl b0 (lr H2 1 rfl ty23 rfl rfl rfl (k (gy rfl rfl rfl b0 (lnS rfl rfl un23 (k (gy rfl rfl rfl b0 (geq rfl rfl rfl rfl (k (pickF rfl rfl rfl rfl b0 rfl (z (nx ?_))))))))))))))))))))))))
 refine cd (b := decide ((stp.length : Int) ≤ i)) rfl rfl (fun b1 => ?_) (fun b1 => ?_)
 ·
  have p1 := dT b1
  refine sq (rg (k (bd (v := .agg #[iV 0, iV 0, iV 0, iV 0, iV 0]) rfl pb0 (fun _ => by kernel_rfl) (k (stX H2 0 rfl ty92 rfl rfl rfl rfl rfl rfl rfl ?_)))))
  intro w1 (H3 : HI M w w1 [box bb0 #[iV 0, iV 0, iV 0, iV 0, iV 0] 92, ro b_a #[.slice a_fv n_fv c_fv, .slice a_fi n_fi c_fi, .slice a_fo n_fo c_fo, sL a_stp stp c_stp, .slice a_pl n_pl c_pl] ty_a, iL a_stp stp c_stp])
  refine k (asg (v := .bool false) rfl rfl (z (nx (rt (then_ret (rc2 H3 0 rfl ty92 rfl rfl rfl rfl rfl (by decide) ?_))))))
  have e0 : (0 : Int) = (stpO stp i).elim 0 (·.1) := by first | (rw [stpO_no (by omega)]; rfl) | (rw [stpO_at (by omega) hx0]; rfl)
  have e1 : (0 : Int) = (stpO stp i).elim 0 (·.2.1) := by first | (rw [stpO_no (by omega)]; rfl) | (rw [stpO_at (by omega) hx0]; rfl)
  have e2 : (0 : Int) = (stpO stp i).elim 0 (·.2.2.1) := by first | (rw [stpO_no (by omega)]; rfl) | (rw [stpO_at (by omega) hx0]; rfl)
  have e3 : (0 : Int) = (stpO stp i).elim 0 (·.2.2.2.1) := by first | (rw [stpO_no (by omega)]; rfl) | (rw [stpO_at (by omega) hx0]; rfl)
  have e4 : (0 : Int) = (stpO stp i).elim 0 (·.2.2.2.2) := by first | (rw [stpO_no (by omega)]; rfl) | (rw [stpO_at (by omega) hx0]; rfl)
  have e5 : (false : Bool) = (stpO stp i).isSome := by first | (rw [stpO_no (by omega)]; rfl) | (rw [stpO_at (by omega) hx0]; rfl)
  have ev_ := cg6 (fun (x_0 : Int) (x_1 : Int) (x_2 : Int) (x_3 : Int) (x_4 : Int) (x_5 : Bool) => (.tuple #[.agg #[iV x_0, iV x_1, iV x_2, iV x_3, iV x_4], .bool x_5] : Value)) e0 e1 e2 e3 e4 e5
  exact ⟨ev_, H3.below⟩
 have p1 := dF b1
 refine sk (nx (sq (rg (k (mv rfl i0 (k (nc rfl rfl (k (fa fl57_1 rfl rfl (k (lr H2 1 rfl ty23 rfl rfl rfl (k (mv rfl i1 (k (ia (H2.rv 2 rfl) rfl rfl rfl rfl (by omega) un23 ty92 ?_)))))))))))))))
 intro ad0 x0 hx0 hA0
 refine k (ldW hA0.w ty92 rfl rfl ?_)
 intro v0 rv0
 obtain ⟨_, ⟨_, _, rfl, ⟨rfl, rv1⟩, ⟨_, _, rfl, ⟨rfl, rv2⟩, ⟨_, _, rfl, ⟨rfl, rv3⟩, ⟨_, _, rfl, ⟨rfl, rv4⟩, ⟨rfl, rv5⟩⟩⟩⟩⟩, rfl⟩ := rv0
 refine k (stX H2 0 rfl ty92 rfl rfl rfl rfl rfl rfl rfl ?_)
 intro w1 (H3 : HI M w w1 [box bb0 #[iV x0.1, iV x0.2.1, iV x0.2.2.1, iV x0.2.2.2.1, iV x0.2.2.2.2] 92, ro b_a #[.slice a_fv n_fv c_fv, .slice a_fi n_fi c_fi, .slice a_fo n_fo c_fo, sL a_stp stp c_stp, .slice a_pl n_pl c_pl] ty_a, iL a_stp stp c_stp])
 refine k (asg (v := .bool true) rfl rfl (z (nx (rt (rc2 H3 0 rfl ty92 rfl rfl rfl rfl rfl (by decide) ?_)))))
 have e0 : (x0.1 : Int) = (stpO stp i).elim 0 (·.1) := by first | (rw [stpO_no (by omega)]; rfl) | (rw [stpO_at (by omega) hx0]; rfl)
 have e1 : (x0.2.1 : Int) = (stpO stp i).elim 0 (·.2.1) := by first | (rw [stpO_no (by omega)]; rfl) | (rw [stpO_at (by omega) hx0]; rfl)
 have e2 : (x0.2.2.1 : Int) = (stpO stp i).elim 0 (·.2.2.1) := by first | (rw [stpO_no (by omega)]; rfl) | (rw [stpO_at (by omega) hx0]; rfl)
 have e3 : (x0.2.2.2.1 : Int) = (stpO stp i).elim 0 (·.2.2.2.1) := by first | (rw [stpO_no (by omega)]; rfl) | (rw [stpO_at (by omega) hx0]; rfl)
 have e4 : (x0.2.2.2.2 : Int) = (stpO stp i).elim 0 (·.2.2.2.2) := by first | (rw [stpO_no (by omega)]; rfl) | (rw [stpO_at (by omega) hx0]; rfl)
 have e5 : (true : Bool) = (stpO stp i).isSome := by first | (rw [stpO_no (by omega)]; rfl) | (rw [stpO_at (by omega) hx0]; rfl)
 have ev_ := cg6 (fun (x_0 : Int) (x_1 : Int) (x_2 : Int) (x_3 : Int) (x_4 : Int) (x_5 : Bool) => (.tuple #[.agg #[iV x_0, iV x_1, iV x_2, iV x_3, iV x_4], .bool x_5] : Value)) e0 e1 e2 e3 e4 e5
 exact ⟨ev_, H3.below⟩
theorem go83 : GoF Tryz.prog 83 := ⟨_, _, Tryz.func83, rfl, by kernel_rfl⟩
theorem fl92_1 : FldF Tryz.prog 92 1 1 := ⟨_, _, Tryz.underlying92, rfl, rfl, by kernel_rfl⟩
theorem fl92_2 : FldF Tryz.prog 92 2 2 := ⟨_, _, Tryz.underlying92, rfl, rfl, by kernel_rfl⟩
theorem ty85 : TyF Tryz.prog 85 5 true 40 (.agg #[.int .i64 0, .int .i64 0, .bool false, .int .i64 0, .int .i64 0]) := ⟨by kernel_rfl, by kernel_rfl⟩
theorem fl85_2 : FldF Tryz.prog 85 2 2 := ⟨_, _, Tryz.underlying85, rfl, rfl, by kernel_rfl⟩
theorem ty4 : TyF Tryz.prog 4 1 false 1 (.bool false) := ⟨by kernel_rfl, by kernel_rfl⟩
theorem fl85_3 : FldF Tryz.prog 85 3 3 := ⟨_, _, Tryz.underlying85, rfl, rfl, by kernel_rfl⟩
theorem aud_says {b_a : Nat} {ty_a : TypeId} {a_fv : OA} {n_fv c_fv : Nat} {a_fi : OA} {n_fi c_fi : Nat} {a_fo : OA} {n_fo c_fo : Nat} {a_stp : OA} {c_stp : Nat} {stp : List StepL} {a_pl : OA} {n_pl c_pl : Nat} {n1 : Int} {n2 : Int} {n3 : Int} (hM : ∀ b, M b → b < w.heap.size) (h_stp : RV M w (.slice a_stp stp.length c_stp) stp) (h_n1 : I64 n1) (h_n2 : I64 n2) (h_n3 : I64 n3) (h_a : w.heap[b_a]? = some (.cells #[.slice a_fv n_fv c_fv, .slice a_fi n_fi c_fi, .slice a_fo n_fo c_fo, .slice a_stp stp.length c_stp, .slice a_pl n_pl c_pl] ty_a (0, 0)) ∧ ¬ M b_a) : Calls Tryz.prog 48 #[.pointer (some ⟨b_a, 0, none⟩), .int .i64 n1, .int .i64 n2, .int .i64 n3] w (Ret fun v w' =>  v = .bool (saysO stp n1 n2 n3) ∧ Ext w w') := by
 refine enter 30 Tryz.func48 rfl rfl rfl fun f0 ha => ?_
 have H := HI.start (M0 := M) (w := w) hM
 have H0 := H.put (it := iL a_stp stp c_stp) rfl (by rw [MS_nil]; exact h_stp)
 have ln_stp := rv_len h_stp
 have H1 := H0.put (it := ro b_a #[.slice a_fv n_fv c_fv, .slice a_fi n_fi c_fi, .slice a_fo n_fo c_fo, sL a_stp stp c_stp, .slice a_pl n_pl c_pl] ty_a) rfl (by rw [MS_cons_none rfl, MS_nil]; exact h_a)
 have i0 : f0 0 = pV b_a 0 := ha 0 (by simp)
 have i1 : f0 1 = iV n1 := ha 1 (by simp)
 have i2 : f0 2 = iV n2 := ha 2 (by simp)
 have i3 : f0 3 = iV n3 := ha 3 (by simp)
 refine sq (rg (k (asg (v := .bool false) rfl rfl (z (nx (sq (rg (k (mv rfl i0 (k (mv rfl i1 (k ?_))))))))))))
 have cc0 := aud_step (stp := stp) (i := n1) (w := w) H1.mb (H1.rv 1 rfl) h_n1 (H1.at_ 0 rfl)
 refine ca go83 rfl (ec rfl (ec rfl e0)) cc0 ?_
 rintro _ w0 ⟨rfl, xt0⟩
 have H2 := H1.ext xt0
 refine k (mv (v := .tuple #[.agg #[iV ((stpO stp n1).elim 0 (·.1)), iV ((stpO stp n1).elim 0 (·.2.1)), iV ((stpO stp n1).elim 0 (·.2.2.1)), iV ((stpO stp n1).elim 0 (·.2.2.2.1)), iV ((stpO stp n1).elim 0 (·.2.2.2.2))], .bool ((stpO stp n1).isSome)]) rfl rfl (k (xt rfl rfl rfl (k (xt rfl rfl rfl (k (al H2 ty92 ?_)))))))
 intro bb0 w1 xt1 (H3 : HI M w w1 [box bb0 #[iV 0, iV 0, iV 0, iV 0, iV 0] 92, ro b_a #[.slice a_fv n_fv c_fv, .slice a_fi n_fi c_fi, .slice a_fo n_fo c_fo, sL a_stp stp c_stp, .slice a_pl n_pl c_pl] ty_a, iL a_stp stp c_stp])
 refine k (stX H3 0 rfl ty92 rfl rfl rfl rfl rfl rfl rfl ?_)
 intro w2 (H4 : HI M w w2 [box bb0 #[iV ((stpO stp n1).elim 0 (·.1)), iV ((stpO stp n1).elim 0 (·.2.1)), iV ((stpO stp n1).elim 0 (·.2.2.1)), iV ((stpO stp n1).elim 0 (·.2.2.2.1)), iV ((stpO stp n1).elim 0 (·.2.2.2.2))] 92, ro b_a #[.slice a_fv n_fv c_fv, .slice a_fi n_fi c_fi, .slice a_fo n_fo c_fo, sL a_stp stp c_stp, .slice a_pl n_pl c_pl] ty_a, iL a_stp stp c_stp])
 refine k (asg (v := .bool ((stpO stp n1).isSome)) rfl rfl (z (nx (sq (rg (k (mv (v := .bool ((stpO stp n1).isSome)) rfl rfl (k (mv (v := .bool ((stpO stp n1).isSome)) rfl rfl ?_)))))))))
 rcases bE ((stpO stp n1).isSome) with b0 | b0
 ·
  refine k (gy rfl rfl rfl b0 (fa fl92_1 rfl rfl (k (gy rfl rfl rfl b0 (lx H4 0 rfl ty3 rfl rfl rfl (k (gy rfl rfl rfl b0 (mv rfl i2 (k (gy rfl rfl rfl b0 (eql rfl rfl rfl rfl (k (pickT rfl rfl rfl rfl b0 rfl (k (mv (v := .bool (decide (((stpO stp n1).elim 0 (·.2.1)) = n2))) rfl rfl ?_)))))))))))))))
  rcases bE (decide (((stpO stp n1).elim 0 (·.2.1)) = n2)) with b1 | b1
  ·
   have p1 := dT b1
   refine k (gy rfl rfl rfl b1 (fa fl92_2 rfl rfl (k (gy rfl rfl rfl b1 (lx H4 0 rfl ty3 rfl rfl rfl (k (gy rfl rfl rfl b1 (mv rfl i3 (k (gy rfl rfl rfl b1 (eql rfl rfl rfl rfl (k (pickT rfl rfl rfl rfl b1 rfl (k (asg (v := .bool (decide (((stpO stp n1).elim 0 (·.2.2.1)) = n3))) rfl rfl (z (nx (rt (r1 rfl rfl ?_)))))))))))))))))))
   exact ⟨congrArg Value.bool (by first | exact says_no (by assumption) | exact says_f (by assumption) (by assumption) | exact says_t (by assumption) (by assumption)), H4.below⟩
  have p1 := dF b1
  refine k (gn rfl rfl rfl b1 (k (gn rfl rfl rfl b1 (k (gn rfl rfl rfl b1 (k (gn rfl rfl rfl b1 (k (pickF rfl rfl rfl rfl b1 rfl (k (asg (v := .bool false) rfl rfl (z (nx (rt (r1 rfl rfl ?_)))))))))))))))
  exact ⟨congrArg Value.bool (by first | exact says_no (by assumption) | exact says_f (by assumption) (by assumption) | exact says_t (by assumption) (by assumption)), H4.below⟩
 refine k (gn rfl rfl rfl b0 (k (gn rfl rfl rfl b0 (k (gn rfl rfl rfl b0 (k (gn rfl rfl rfl b0 (k (pickF rfl rfl rfl rfl b0 rfl (k (mv (v := .bool false) rfl rfl (k (gn rfl rfl rfl rfl (k (gn rfl rfl rfl rfl (k (gn rfl rfl rfl rfl (k (gn rfl rfl rfl rfl (k (pickF rfl rfl rfl rfl rfl rfl (k (asg (v := .bool false) rfl rfl (z (nx (rt (r1 rfl rfl ?_)))))))))))))))))))))))))))
 exact ⟨congrArg Value.bool (by first | exact says_no (by assumption) | exact says_f (by assumption) (by assumption) | exact says_t (by assumption) (by assumption)), H4.below⟩
theorem aud_other {b_a : Nat} {ty_a : TypeId} {a_fv : OA} {n_fv c_fv : Nat} {a_fi : OA} {c_fi : Nat} {fi : List ItemL} {a_fo : OA} {n_fo c_fo : Nat} {a_stp : OA} {n_stp c_stp : Nat} {a_pl : OA} {n_pl c_pl : Nat} {n1 : Int} {n2 : Int} (hM : ∀ b, M b → b < w.heap.size) (h_fi : RV M w (.slice a_fi fi.length c_fi) fi) (h_n1 : I64 n1) (h_n2 : I64 n2) (h_a : w.heap[b_a]? = some (.cells #[.slice a_fv n_fv c_fv, .slice a_fi fi.length c_fi, .slice a_fo n_fo c_fo, .slice a_stp n_stp c_stp, .slice a_pl n_pl c_pl] ty_a (0, 0)) ∧ ¬ M b_a) (hn1_ : 0 ≤ n1 ∧ n1 < ((fi.length : Nat) : Int)) (hn2_ : 0 ≤ n2 ∧ n2 < ((fi.length : Nat) : Int)) : Calls Tryz.prog 50 #[.pointer (some ⟨b_a, 0, none⟩), .int .i64 n1, .int .i64 n2] w (Ret fun v w' =>  v = .bool (otherO fi n1 n2) ∧ Ext w w') := by
 refine enter 43 Tryz.func50 rfl rfl rfl fun f0 ha => ?_
 have H := HI.start (M0 := M) (w := w) hM
 have H0 := H.put (it := iL a_fi fi c_fi) rfl (by rw [MS_nil]; exact h_fi)
 have ln_fi := rv_len h_fi
 have H1 := H0.put (it := ro b_a #[.slice a_fv n_fv c_fv, sL a_fi fi c_fi, .slice a_fo n_fo c_fo, .slice a_stp n_stp c_stp, .slice a_pl n_pl c_pl] ty_a) rfl (by rw [MS_cons_none rfl, MS_nil]; exact h_a)
 have i0 : f0 0 = pV b_a 0 := ha 0 (by simp)
 have i1 : f0 1 = iV n1 := ha 1 (by simp)
 have i2 : f0 2 = iV n2 := ha 2 (by simp)
 refine sq (rg (k (asg (v := .bool false) rfl rfl (z (nx (sq ?_))))))
 obtain ⟨x0, hx0⟩ : ∃ x, fi[n1.toNat]? = some x := ⟨_, gE_ (by omega)⟩
 obtain ⟨x1, hx1⟩ : ∃ x, fi[n2.toNat]? = some x := ⟨_, gE_ (by omega)⟩
 refine drn [.v, .v, .v, .v, .v, .v, .v, .v, .v, .v, .v, .v, .v, .v, .v, .v, .n, .n, .s 16 7, .s 17 15] [fun (N : Nat → Prop) (v : Value) (w' : World) => v = pV b_a 0, fun (N : Nat → Prop) (v : Value) (w' : World) => v = pV b_a 0, fun (N : Nat → Prop) (v : Value) (w' : World) => v = pV b_a 0, fun (N : Nat → Prop) (v : Value) (w' : World) => v = pV b_a 1, fun (N : Nat → Prop) (v : Value) (w' : World) => v = sL a_fi fi c_fi, fun (N : Nat → Prop) (v : Value) (w' : World) => v = iV n1, fun (N : Nat → Prop) (v : Value) (w' : World) => ∃ (ad0 : Addr), v = .pointer (some ad0) ∧ At (MS M [ro b_a #[.slice a_fv n_fv c_fv, sL a_fi fi c_fi, .slice a_fo n_fo c_fo, .slice a_stp n_stp c_stp, .slice a_pl n_pl c_pl] ty_a, iL a_fi fi c_fi]) w ad0 x0, fun (N : Nat → Prop) (v : Value) (w' : World) => v = .agg #[iV x0.1, iV x0.2.1, .bool x0.2.2.1, iV x0.2.2.2.1, iV x0.2.2.2.2] ∧ I64 (x0.1) ∧ I64 (x0.2.1) ∧ I64 (x0.2.2.2.1) ∧ I64 (x0.2.2.2.2), fun (N : Nat → Prop) (v : Value) (w' : World) => v = pV b_a 0, fun (N : Nat → Prop) (v : Value) (w' : World) => v = pV b_a 0, fun (N : Nat → Prop) (v : Value) (w' : World) => v = pV b_a 0, fun (N : Nat → Prop) (v : Value) (w' : World) => v = pV b_a 1, fun (N : Nat → Prop) (v : Value) (w' : World) => v = sL a_fi fi c_fi, fun (N : Nat → Prop) (v : Value) (w' : World) => v = iV n2, fun (N : Nat → Prop) (v : Value) (w' : World) => ∃ (ad1 : Addr), v = .pointer (some ad1) ∧ At (MS M [ro b_a #[.slice a_fv n_fv c_fv, sL a_fi fi c_fi, .slice a_fo n_fo c_fo, .slice a_stp n_stp c_stp, .slice a_pl n_pl c_pl] ty_a, iL a_fi fi c_fi]) w ad1 x1, fun (N : Nat → Prop) (v : Value) (w' : World) => v = .agg #[iV x1.1, iV x1.2.1, .bool x1.2.2.1, iV x1.2.2.2.1, iV x1.2.2.2.2] ∧ I64 (x1.1) ∧ I64 (x1.2.1) ∧ I64 (x1.2.2.2.1) ∧ I64 (x1.2.2.2.2), fun _ _ _ => True, fun _ _ _ => True, fun _ _ _ => True, fun _ _ _ => True] [(#[], 0), (#[], 0), (#[], 0), (#[], 0), (#[], 0), (#[], 0), (#[], 0), (#[], 0), (#[], 0), (#[], 0), (#[], 0), (#[], 0), (#[], 0), (#[], 0), (#[], 0), (#[], 0), (#[iV 0, iV 0, .bool false, iV 0, iV 0], 85), (#[iV 0, iV 0, .bool false, iV 0, iV 0], 85), (#[], 0), (#[], 0)] rfl (by kernel_rfl) ?_ ?_
 ·
  refine ⟨⟨fun _ _ _ _ _ _ h => h, rfl, fun f0 w2 N0 hf0 xt2 hN0 hp0 => ?_⟩, ?_⟩
  ·
   refine mv rfl ((hf0 0 rfl).trans i0) ?_
   exact ⟨_, rfl, Ext.refl _, rfl⟩
  refine ⟨⟨fun _ _ _ _ _ _ h => h, rfl, fun f1 w3 N1 hf1 xt3 hN1 hp1 => ?_⟩, ?_⟩
  ·
   have hq0 := hp1 0 rfl ⟨_, rfl, rfl⟩
   have s0 : f1 9 = pV b_a 0 := hq0
   refine nc rfl s0 ?_
   exact ⟨_, rfl, Ext.refl _, rfl⟩
  refine ⟨⟨fun _ _ _ _ _ _ h => h, rfl, fun f2 w4 N2 hf2 xt4 hN2 hp2 => ?_⟩, ?_⟩
  ·
   have hq1 := hp2 1 rfl ⟨_, rfl, rfl⟩
   have s1 : f2 10 = pV b_a 0 := hq1
   refine fa fl57_0 rfl s1 ?_
   exact ⟨_, rfl, Ext.refl _, rfl⟩
  refine ⟨⟨fun _ _ _ _ _ _ h => h, rfl, fun f3 w5 N3 hf3 xt5 hN3 hp3 => ?_⟩, ?_⟩
  ·
   have hq2 := hp3 2 rfl ⟨_, rfl, rfl⟩
   have s2 : f3 11 = pV b_a 0 := hq2
   refine fa fl32_1 rfl s2 ?_
   exact ⟨_, rfl, Ext.refl _, rfl⟩
  refine ⟨⟨fun _ _ _ _ _ _ h => h, rfl, fun f4 w6 N4 hf4 xt6 hN4 hp4 => ?_⟩, ?_⟩
  ·
   have hq3 := hp4 3 rfl ⟨_, rfl, rfl⟩
   have s3 : f4 12 = pV b_a 1 := hq3
   refine lr (H1.ext xt6) 0 rfl ty29 rfl s3 rfl ?_
   exact ⟨_, rfl, Ext.refl _, rfl⟩
  refine ⟨⟨fun _ _ _ _ _ _ h => h, rfl, fun f5 w7 N5 hf5 xt7 hN5 hp5 => ?_⟩, ?_⟩
  ·
   refine mv rfl ((hf5 1 rfl).trans i1) ?_
   exact ⟨_, rfl, Ext.refl _, rfl⟩
  refine ⟨⟨fun _ _ _ _ _ _ h => h, rfl, fun f6 w8 N6 hf6 xt8 hN6 hp6 => ?_⟩, ?_⟩
  ·
   have hq4 := hp6 4 rfl ⟨_, rfl, rfl⟩
   have s4 : f6 13 = sL a_fi fi c_fi := hq4
   have hq5 := hp6 5 rfl ⟨_, rfl, rfl⟩
   have s5 : f6 14 = iV n1 := hq5
   refine iax (H1.rv 1 rfl) rfl rfl s4 s5 (by omega) un29 ty85 ?_
   intro ad2 x2 hx2 hA2
   obtain rfl : x0 = x2 := Option.some.inj (hx0.symm.trans hx2)
   exact ⟨_, rfl, Ext.refl _, ⟨ad2, rfl, hA2⟩⟩
  refine ⟨⟨fun _ _ _ _ _ _ h => h, rfl, fun f7 w9 N7 hf7 xt9 hN7 hp7 => ?_⟩, ?_⟩
  ·
   have hq6 := hp7 6 rfl ⟨_, rfl, rfl⟩
   obtain ⟨ad3, s6, hA3⟩ : ∃ (ad3 : Addr), f7 15 = .pointer (some ad3) ∧ At (MS M [ro b_a #[.slice a_fv n_fv c_fv, sL a_fi fi c_fi, .slice a_fo n_fo c_fo, .slice a_stp n_stp c_stp, .slice a_pl n_pl c_pl] ty_a, iL a_fi fi c_fi]) w ad3 x0 := hq6
   have H4 := H1.put (it := atI ad3 x0) rfl hA3
   refine ldWx (H4.atv 0 rfl).w xt9 ty85 rfl s6 ?_
   intro v2 rv10
   obtain ⟨_, ⟨_, _, rfl, ⟨rfl, rv11⟩, ⟨_, _, rfl, ⟨rfl, rv12⟩, ⟨_, _, rfl, rfl, ⟨_, _, rfl, ⟨rfl, rv13⟩, ⟨rfl, rv14⟩⟩⟩⟩⟩, rfl⟩ := rv10
   exact ⟨_, rfl, Ext.refl _, ⟨rfl, rv11, rv12, rv13, rv14⟩⟩
  refine ⟨⟨fun _ _ _ _ _ _ h => h, rfl, fun f8 w10 N8 hf8 xt10 hN8 hp8 => ?_⟩, ?_⟩
  ·
   refine mv rfl ((hf8 0 rfl).trans i0) ?_
   exact ⟨_, rfl, Ext.refl _, rfl⟩
  refine ⟨⟨fun _ _ _ _ _ _ h => h, rfl, fun f9 w11 N9 hf9 xt11 hN9 hp9 => ?_⟩, ?_⟩
  ·
   have hq7 := hp9 8 rfl ⟨_, rfl, rfl⟩
   have s7 : f9 17 = pV b_a 0 := hq7
   refine nc rfl s7 ?_
   exact ⟨_, rfl, Ext.refl _, rfl⟩
  refine ⟨⟨fun _ _ _ _ _ _ h => h, rfl, fun f10 w12 N10 hf10 xt12 hN10 hp10 => ?_⟩, ?_⟩
  ·
   have hq8 := hp10 9 rfl ⟨_, rfl, rfl⟩
   have s8 : f10 18 = pV b_a 0 := hq8
   refine fa fl57_0 rfl s8 ?_
   exact ⟨_, rfl, Ext.refl _, rfl⟩
  refine ⟨⟨fun _ _ _ _ _ _ h => h, rfl, fun f11 w13 N11 hf11 xt13 hN11 hp11 => ?_⟩, ?_⟩
  ·
   have hq9 := hp11 10 rfl ⟨_, rfl, rfl⟩
   have s9 : f11 19 = pV b_a 0 := hq9
   refine fa fl32_1 rfl s9 ?_
   exact ⟨_, rfl, Ext.refl _, rfl⟩
  refine ⟨⟨fun _ _ _ _ _ _ h => h, rfl, fun f12 w14 N12 hf12 xt14 hN12 hp12 => ?_⟩, ?_⟩
  ·
   have hq10 := hp12 11 rfl ⟨_, rfl, rfl⟩
   have s10 : f12 20 = pV b_a 1 := hq10
   refine lr (H1.ext xt14) 0 rfl ty29 rfl s10 rfl ?_
   exact ⟨_, rfl, Ext.refl _, rfl⟩
  refine ⟨⟨fun _ _ _ _ _ _ h => h, rfl, fun f13 w15 N13 hf13 xt15 hN13 hp13 => ?_⟩, ?_⟩
  ·
   refine mv rfl ((hf13 2 rfl).trans i2) ?_
   exact ⟨_, rfl, Ext.refl _, rfl⟩
  refine ⟨⟨fun _ _ _ _ _ _ h => h, rfl, fun f14 w16 N14 hf14 xt16 hN14 hp14 => ?_⟩, ?_⟩
  ·
   have hq11 := hp14 12 rfl ⟨_, rfl, rfl⟩
   have s11 : f14 21 = sL a_fi fi c_fi := hq11
   have hq12 := hp14 13 rfl ⟨_, rfl, rfl⟩
   have s12 : f14 22 = iV n2 := hq12
   refine iax (H1.rv 1 rfl) rfl rfl s11 s12 (by omega) un29 ty85 ?_
   intro ad4 x3 hx3 hA4
   obtain rfl : x1 = x3 := Option.some.inj (hx1.symm.trans hx3)
   exact ⟨_, rfl, Ext.refl _, ⟨ad4, rfl, hA4⟩⟩
  refine ⟨⟨fun _ _ _ _ _ _ h => h, rfl, fun f15 w17 N15 hf15 xt17 hN15 hp15 => ?_⟩, ?_⟩
  ·
   have hq13 := hp15 14 rfl ⟨_, rfl, rfl⟩
   obtain ⟨ad5, s13, hA5⟩ : ∃ (ad5 : Addr), f15 23 = .pointer (some ad5) ∧ At (MS M [ro b_a #[.slice a_fv n_fv c_fv, sL a_fi fi c_fi, .slice a_fo n_fo c_fo, .slice a_stp n_stp c_stp, .slice a_pl n_pl c_pl] ty_a, iL a_fi fi c_fi]) w ad5 x1 := hq13
   have H5 := H1.put (it := atI ad5 x1) rfl hA5
   refine ldWx (H5.atv 0 rfl).w xt17 ty85 rfl s13 ?_
   intro v3 rv15
   obtain ⟨_, ⟨_, _, rfl, ⟨rfl, rv16⟩, ⟨_, _, rfl, ⟨rfl, rv17⟩, ⟨_, _, rfl, rfl, ⟨_, _, rfl, ⟨rfl, rv18⟩, ⟨rfl, rv19⟩⟩⟩⟩⟩, rfl⟩ := rv15
   exact ⟨_, rfl, Ext.refl _, ⟨rfl, rv16, rv17, rv18, rv19⟩⟩
  refine ⟨⟨fun _ _ _ _ _ _ h => h, rfl, fun _ _ _ => trivial, fun f16 w18 N16 hf16 xt18 hN16 hp16 => ?_⟩, ?_⟩
  ·
   refine alS ty85 ?_
   exact ⟨rfl, rfl⟩
  refine ⟨⟨fun _ _ _ _ _ _ h => h, rfl, fun _ _ _ => trivial, fun f17 w19 N17 hf17 xt19 hN17 hp17 => ?_⟩, ?_⟩
  ·
   refine alS ty85 ?_
   exact ⟨rfl, rfl⟩
  refine ⟨⟨fun _ _ _ _ _ _ h => h, rfl, rfl, rfl, ⟨_, rfl, rfl⟩, ⟨_, rfl, rfl⟩, by decide, trivial, by rintro _ _ _ ⟨e_, rv1, rv2, rv3, rv4⟩; subst e_; rfl, fun f18 w20 N_ bb2 cur0 xt20 s14 hb0 hc0 hv0 => ?_⟩, ?_⟩
  ·
   obtain ⟨e_, rv1, rv2, rv3, rv4⟩ := hv0
   exact stS ty85 rfl rfl s14 rfl hb0 ((congrArg (fun v => v.cells.size) e_).trans rfl) hc0 ((congrArg (fun v => v.cells.toList.all Value.oneCell') e_).trans rfl)
  refine ⟨⟨fun _ _ _ _ _ _ h => h, rfl, rfl, rfl, ⟨_, rfl, rfl⟩, ⟨_, rfl, rfl⟩, by decide, trivial, by rintro _ _ _ ⟨e_, rv6, rv7, rv8, rv9⟩; subst e_; rfl, fun f19 w21 N_ bb3 cur1 xt21 s15 hb1 hc1 hv1 => ?_⟩, ?_⟩
  ·
   obtain ⟨e_, rv6, rv7, rv8, rv9⟩ := hv1
   exact stS ty85 rfl rfl s15 rfl hb1 ((congrArg (fun v => v.cells.size) e_).trans rfl) hc1 ((congrArg (fun v => v.cells.toList.all Value.oneCell') e_).trans rfl)
  exact trivial
 ·
  intro f20 w22 I0 hf18 xt22 hp18 hN18 hd0
  have s16 : f20 1 = iV n1 := (hf18 1 rfl).trans i1
  have s17 : f20 2 = iV n2 := (hf18 2 rfl).trans i2
  obtain ⟨s18, rv20, rv21, rv22, rv23⟩ : f20 16 = .agg #[iV x0.1, iV x0.2.1, .bool x0.2.2.1, iV x0.2.2.2.1, iV x0.2.2.2.2] ∧ I64 (x0.1) ∧ I64 (x0.2.1) ∧ I64 (x0.2.2.2.1) ∧ I64 (x0.2.2.2.2) := (hp18 7 _ rfl rfl)
  obtain ⟨s19, rv24, rv25, rv26, rv27⟩ : f20 24 = .agg #[iV x1.1, iV x1.2.1, .bool x1.2.2.1, iV x1.2.2.2.1, iV x1.2.2.2.2] ∧ I64 (x1.1) ∧ I64 (x1.2.1) ∧ I64 (x1.2.2.2.1) ∧ I64 (x1.2.2.2.2) := (hp18 15 _ rfl rfl)
  obtain ⟨s20, hg0, -, cur2, hc2, hk0⟩ := hN18 16 (by decide) trivial
  have hq14 : cur2 = #[iV x0.1, iV x0.2.1, .bool x0.2.2.1, iV x0.2.2.2.1, iV x0.2.2.2.2] := (hk0.2.1 18 7 rfl rfl).trans (congrArg Value.cells s18)
  rw [hq14] at hc2
  have hz16_ := hg0
  obtain ⟨s21, hg1, -, cur3, hc3, hk1⟩ := hN18 17 (by decide) trivial
  have hq15 : cur3 = #[iV x1.1, iV x1.2.1, .bool x1.2.2.1, iV x1.2.2.2.1, iV x1.2.2.2.2] := (hk1.2.1 19 15 rfl rfl).trans (congrArg Value.cells s19)
  rw [hq15] at hc3
  have hz17_ := hg1
  have hd16_17 := hd0 16 17 (by decide) (by decide) (by decide) trivial trivial
  have H6 : HI M w w22 [box (I0 16) #[iV x0.1, iV x0.2.1, .bool x0.2.2.1, iV x0.2.2.2.1, iV x0.2.2.2.2] 85, box (I0 17) #[iV x1.1, iV x1.2.1, .bool x1.2.2.1, iV x1.2.2.2.1, iV x1.2.2.2.2] 85, ro b_a #[.slice a_fv n_fv c_fv, sL a_fi fi c_fi, .slice a_fo n_fo c_fo, .slice a_stp n_stp c_stp, .slice a_pl n_pl c_pl] ty_a, iL a_fi fi c_fi] := H1.lays xt22 [((I0 16), #[iV x0.1, iV x0.2.1, .bool x0.2.2.1, iV x0.2.2.2.1, iV x0.2.2.2.2], 85), ((I0 17), #[iV x1.1, iV x1.2.1, .bool x1.2.2.1, iV x1.2.2.2.1, iV x1.2.2.2.2], 85)] (by intro q_ hq_; simp only [List.mem_cons, List.not_mem_nil, or_false] at hq_; rcases hq_ with rfl | rfl <;> first | exact ⟨hz16_, hc2⟩ | exact ⟨hz17_, hc3⟩) (by simp only [List.map_cons, List.map_nil, List.nodup_cons, List.mem_cons, List.not_mem_nil, or_false, List.nodup_nil, and_true, not_or, not_false_eq_true, true_and] <;> omega)
  refine nx (sq (rg (k (mv rfl s16 (k (mv rfl s17 (k (neq rfl rfl rfl rfl (k (mv (v := .bool (!decide (n1 = n2))) rfl rfl ?_))))))))))
  rcases bE (!decide (n1 = n2)) with b0 | b0
  ·
   have p0 := dF (nott b0)
   refine k (gy rfl rfl rfl b0 (fa fl85_2 rfl s20 (k (gy rfl rfl rfl b0 (lx H6 0 rfl ty4 rfl rfl rfl (k (pickT rfl rfl rfl rfl b0 rfl (k (mv (v := .bool x0.2.2.1) rfl rfl ?_)))))))))
   rcases bE (x0.2.2.1) with b1 | b1
   ·
    refine k (gy rfl rfl rfl b1 (fa fl85_2 rfl s21 (k (gy rfl rfl rfl b1 (lx H6 1 rfl ty4 rfl rfl rfl (k (pickT rfl rfl rfl rfl b1 rfl (k (mv (v := .bool x1.2.2.1) rfl rfl ?_)))))))))
    rcases bE (x1.2.2.1) with b2 | b2
    ·
     refine k (gy rfl rfl rfl b2 (fa fl85_3 rfl s20 (k (gy rfl rfl rfl b2 (lx H6 0 rfl ty3 rfl rfl rfl (k (gy rfl rfl rfl b2 (fa fl85_3 rfl s21 (k (gy rfl rfl rfl b2 (lx H6 1 rfl ty3 rfl rfl rfl (k (gy rfl rfl rfl b2 (eql rfl rfl rfl rfl (k (pickT rfl rfl rfl rfl b2 rfl (k (asg (v := .bool (decide (x0.2.2.2.1 = x1.2.2.2.1))) rfl rfl (z (nx (rt (r1 rfl rfl ?_))))))))))))))))))))))
     exact ⟨congrArg Value.bool (by rw [other_at hx0 hx1]; simp_all), H6.below⟩
    refine k (gn rfl rfl rfl b2 (k (gn rfl rfl rfl b2 (k (gn rfl rfl rfl b2 (k (gn rfl rfl rfl b2 (k (gn rfl rfl rfl b2 (k (pickF rfl rfl rfl rfl b2 rfl (k (asg (v := .bool false) rfl rfl (z (nx (rt (r1 rfl rfl ?_)))))))))))))))))
    exact ⟨congrArg Value.bool (by rw [other_at hx0 hx1]; simp_all), H6.below⟩
   refine k (gn rfl rfl rfl b1 (k (gn rfl rfl rfl b1 (k (pickF rfl rfl rfl rfl b1 rfl (k (mv (v := .bool false) rfl rfl (k (gn rfl rfl rfl rfl (k (gn rfl rfl rfl rfl (k (gn rfl rfl rfl rfl (k (gn rfl rfl rfl rfl (k (gn rfl rfl rfl rfl (k (pickF rfl rfl rfl rfl rfl rfl (k (asg (v := .bool false) rfl rfl (z (nx (rt (r1 rfl rfl ?_)))))))))))))))))))))))))
   exact ⟨congrArg Value.bool (by rw [other_at hx0 hx1]; simp_all), H6.below⟩
  have p0 := dT (notf b0)
  refine k (gn rfl rfl rfl b0 (k (gn rfl rfl rfl b0 (k (pickF rfl rfl rfl rfl b0 rfl (k (mv (v := .bool false) rfl rfl (k (gn rfl rfl rfl rfl (k (gn rfl rfl rfl rfl (k (pickF rfl rfl rfl rfl rfl rfl (k (mv (v := .bool false) rfl rfl (k (gn rfl rfl rfl rfl (k (gn rfl rfl rfl rfl (k (gn rfl rfl rfl rfl (k (gn rfl rfl rfl rfl (k (gn rfl rfl rfl rfl (k (pickF rfl rfl rfl rfl rfl rfl (k (asg (v := .bool false) rfl rfl (z (nx (rt (r1 rfl rfl ?_)))))))))))))))))))))))))))))))))
  exact ⟨congrArg Value.bool (by rw [other_at hx0 hx1]; simp_all), H6.below⟩
theorem go43 : GoF Tryz.prog 43 := ⟨_, _, Tryz.func43, rfl, by kernel_rfl⟩
theorem un55 : Tryz.prog.underlying 55 = some (.slice 4) := by kernel_rfl
theorem un4 : Tryz.prog.underlying 4 = some (.bool) := by kernel_rfl
theorem go109 : GoF Tryz.prog 109 := ⟨_, _, Tryz.func109, rfl, by kernel_rfl⟩
theorem go110 : GoF Tryz.prog 110 := ⟨_, _, Tryz.func110, rfl, by kernel_rfl⟩
theorem index_int {a_l0_ : OA} {c_l0_ : Nat} {l0_ : List Int} {v0_ : Int} (hM : ∀ b, M b → b < w.heap.size) (h_l0_ : RV M w (.slice a_l0_ l0_.length c_l0_) l0_) (h_v0_ : I64 v0_) : Calls Tryz.prog 43 #[.slice a_l0_ l0_.length c_l0_, .int .i64 v0_] w (Ret fun v w' =>  v = .int .i64 (idxF (fun (z_ : Int) => decide (v0_ = z_)) l0_) ∧ Ext w w') := by
 refine enter 19 Tryz.func43 rfl rfl rfl fun f0 ha => ?_
 have H := HI.start (M0 := M) (w := w) hM
 have H0 := H.put (it := iL a_l0_ l0_ c_l0_) rfl (by rw [MS_nil]; exact h_l0_)
 have ln_l0_ := rv_len h_l0_
 have i0 : f0 0 = sL a_l0_ l0_ c_l0_ := ha 0 (by simp)
 have i1 : f0 1 = iV v0_ := ha 1 (by simp)
 refine sq (rg (k (asg (v := iV 0) rfl rfl (z (nx (sq (sq (rg (k (mv rfl i0 (k (lnS rfl rfl un30 (k (mv (v := iV 0) rfl rfl (z (nx (bk ?_)))))))))))))))))
 refine lp (fun m f w' => ∃ (j_ : Nat), m = l0_.length - j_ ∧ f 0 = sL a_l0_ l0_ c_l0_ ∧ f 1 = iV v0_ ∧ f 7 = iV (l0_.length : Int) ∧ f 8 = iV (j_ : Int) ∧  HI M w w' [iL a_l0_ l0_ c_l0_] ∧ (j_ ≤ l0_.length) ∧ ((l0_.take j_).any (fun (z_ : Int) => decide (v0_ = z_)) = false)) _ ⟨0, rfl, i0, i1, rfl, (ieq rfl (by first | rfl | omega | simp)), H0, (by first | omega | assumption | simp), (by simp)⟩ ?_
 rintro _ f0 w0 ⟨j_, rfl, s0, s1, s2, s3, H1, hk_, hs⟩
 refine sq (rg (k (lss rfl rfl s3 s2 (z (nx (sq ?_))))))
 refine cd (b := decide ((j_ : Int) < (l0_.length : Int))) rfl rfl (fun b0 => ?_) (fun b0 => ?_)
 ·
  have p0 := dT b0
  refine sk (nx (sq (bk (sq (rg (k (mv rfl s3 (k (asg (v := iV (j_ : Int)) rfl rfl (z (nx (sq (rg (k (mv rfl s1 (k (mv rfl s0 (k (mv (v := iV (j_ : Int)) rfl rfl (k (ia (H1.rv 0 rfl) rfl rfl rfl rfl (by omega) un30 ty3 ?_)))))))))))))))))))))
  intro ad0 x0 hx0 hA0
  refine k (ldI hA0.w ty3 rfl rfl ?_)
  intro rv0
  refine k (eql rfl rfl rfl rfl (z (nx ?_)))
  refine cd (b := decide (v0_ = x0)) rfl rfl (fun b1 => ?_) (fun b1 => ?_)
  ·
   have p1 := dT b1
   refine sq (rg (k (mv (v := iV (j_ : Int)) rfl rfl (k (asg (v := iV (j_ : Int)) rfl rfl (z (nx (rt (inb_ret (then_ret (loop_ret (inb_ret (then_ret (r1 rfl rfl ?_))))))))))))))
   exact ⟨congrArg (Value.int .i64) (by exact idxF_hit (p := (fun (z_ : Int) => decide (v0_ = z_))) hx0 hs b1), H1.below⟩
  have p1 := dF b1
  refine sk (inb_normal (nx (rg (k (add rfl rfl s3 rfl (by unfold I64 at *; omega) (k (mv (v := iV ((j_ : Int) + 1)) rfl rfl (z ?_))))))))
  refine loopN _ ?_ ⟨(j_ + 1), rfl, s0, s1, s2, (ieq rfl (by first | rfl | omega)), H1, (by first | omega | assumption | simp), (by exact any_step hx0 hs b1)⟩
  omega
 have p0 := dF b0
 refine ex (then_exit (loop_exit (inb_here (nx (sq (rg (k (asg (v := iV (-1)) rfl rfl (z (nx (rt (r1 rfl rfl ?_))))))))))))
 exact ⟨congrArg (Value.int .i64) (by exact idxF_miss hs (by omega)), H1.below⟩
theorem contains_int {a_l0_ : OA} {c_l0_ : Nat} {l0_ : List Int} {v0_ : Int} (hM : ∀ b, M b → b < w.heap.size) (h_l0_ : RV M w (.slice a_l0_ l0_.length c_l0_) l0_) (h_v0_ : I64 v0_) : Calls Tryz.prog 19 #[.slice a_l0_ l0_.length c_l0_, .int .i64 v0_] w (Ret fun v w' =>  v = .bool (l0_.any (fun (z_ : Int) => decide (v0_ = z_))) ∧ Ext w w') := by
 refine enter 9 Tryz.func19 rfl rfl rfl fun f0 ha => ?_
 have H := HI.start (M0 := M) (w := w) hM
 have H0 := H.put (it := iL a_l0_ l0_ c_l0_) rfl (by rw [MS_nil]; exact h_l0_)
 have ln_l0_ := rv_len h_l0_
 have i0 : f0 0 = sL a_l0_ l0_ c_l0_ := ha 0 (by simp)
 have i1 : f0 1 = iV v0_ := ha 1 (by simp)
 refine sq (rg (k (asg (v := .bool false) rfl rfl (z (nx (sq (rg (k (mv rfl i0 (k (mv rfl i1 (k ?_))))))))))))
 have cc0 := index_int (l0_ := l0_) (v0_ := v0_) (w := w) H0.mb (H0.rv 0 rfl) h_v0_
 refine ca go43 rfl (ec rfl (ec rfl e0)) cc0 ?_
 rintro _ w0 ⟨rfl, xt0⟩
 have H1 := H0.ext xt0
 refine k (geq rfl rfl rfl rfl (k (asg (v := .bool (decide (0 ≤ (idxF (fun (z_ : Int) => decide (v0_ = z_)) l0_)))) rfl rfl (z (nx (rt (r1 rfl rfl ?_)))))))
 exact ⟨congrArg Value.bool (by exact idxF_any), H1.below⟩
theorem index_bool {a_l0_ : OA} {c_l0_ : Nat} {l0_ : List Bool} {v0_ : Bool} (hM : ∀ b, M b → b < w.heap.size) (h_l0_ : RV M w (.slice a_l0_ l0_.length c_l0_) l0_) : Calls Tryz.prog 109 #[.slice a_l0_ l0_.length c_l0_, .bool v0_] w (Ret fun v w' =>  v = .int .i64 (idxF (fun (z_ : Bool) => v0_ == z_) l0_) ∧ Ext w w') := by
 refine enter 19 Tryz.func109 rfl rfl rfl fun f0 ha => ?_
 have H := HI.start (M0 := M) (w := w) hM
 have H0 := H.put (it := iL a_l0_ l0_ c_l0_) rfl (by rw [MS_nil]; exact h_l0_)
 have ln_l0_ := rv_len h_l0_
 have i0 : f0 0 = sL a_l0_ l0_ c_l0_ := ha 0 (by simp)
 have i1 : f0 1 = .bool v0_ := ha 1 (by simp)
 refine sq (rg (k (asg (v := iV 0) rfl rfl (z (nx (sq (sq (rg (k (mv rfl i0 (k (lnS rfl rfl un55 (k (mv (v := iV 0) rfl rfl (z (nx (bk ?_)))))))))))))))))
 refine lp (fun m f w' => ∃ (j_ : Nat), m = l0_.length - j_ ∧ f 0 = sL a_l0_ l0_ c_l0_ ∧ f 1 = .bool v0_ ∧ f 7 = iV (l0_.length : Int) ∧ f 8 = iV (j_ : Int) ∧  HI M w w' [iL a_l0_ l0_ c_l0_] ∧ (j_ ≤ l0_.length) ∧ ((l0_.take j_).any (fun (z_ : Bool) => v0_ == z_) = false)) _ ⟨0, rfl, i0, i1, rfl, (ieq rfl (by first | rfl | omega | simp)), H0, (by first | omega | assumption | simp), (by simp)⟩ ?_
 rintro _ f0 w0 ⟨j_, rfl, s0, s1, s2, s3, H1, hk_, hs⟩
 refine sq (rg (k (lss rfl rfl s3 s2 (z (nx (sq ?_))))))
 refine cd (b := decide ((j_ : Int) < (l0_.length : Int))) rfl rfl (fun b0 => ?_) (fun b0 => ?_)
 ·
  have p0 := dT b0
  refine sk (nx (sq (bk (sq (rg (k (mv rfl s3 (k (asg (v := iV (j_ : Int)) rfl rfl (z (nx (sq (rg (k (mv rfl s1 (k (mv rfl s0 (k (mv (v := iV (j_ : Int)) rfl rfl (k (ia (H1.rv 0 rfl) rfl rfl rfl rfl (by omega) un55 ty4 ?_)))))))))))))))))))))
  intro ad0 x0 hx0 hA0
  refine k (ldB hA0.w ty4 rfl rfl (k (eqB rfl rfl rfl rfl un4 (z (nx ?_)))))
  refine cd (b := v0_ == x0) rfl rfl (fun b1 => ?_) (fun b1 => ?_)
  ·
   refine sq (rg (k (mv (v := iV (j_ : Int)) rfl rfl (k (asg (v := iV (j_ : Int)) rfl rfl (z (nx (rt (inb_ret (then_ret (loop_ret (inb_ret (then_ret (r1 rfl rfl ?_))))))))))))))
   exact ⟨congrArg (Value.int .i64) (by exact idxF_hit (p := (fun (z_ : Bool) => v0_ == z_)) hx0 hs b1), H1.below⟩
  refine sk (inb_normal (nx (rg (k (add rfl rfl s3 rfl (by unfold I64 at *; omega) (k (mv (v := iV ((j_ : Int) + 1)) rfl rfl (z ?_))))))))
  refine loopN _ ?_ ⟨(j_ + 1), rfl, s0, s1, s2, (ieq rfl (by first | rfl | omega)), H1, (by first | omega | assumption | simp), (by exact any_step hx0 hs b1)⟩
  omega
 have p0 := dF b0
 refine ex (then_exit (loop_exit (inb_here (nx (sq (rg (k (asg (v := iV (-1)) rfl rfl (z (nx (rt (r1 rfl rfl ?_))))))))))))
 exact ⟨congrArg (Value.int .i64) (by exact idxF_miss hs (by omega)), H1.below⟩
theorem contains_bool {a_l0_ : OA} {c_l0_ : Nat} {l0_ : List Bool} {v0_ : Bool} (hM : ∀ b, M b → b < w.heap.size) (h_l0_ : RV M w (.slice a_l0_ l0_.length c_l0_) l0_) : Calls Tryz.prog 85 #[.slice a_l0_ l0_.length c_l0_, .bool v0_] w (Ret fun v w' =>  v = .bool (l0_.any (fun (z_ : Bool) => v0_ == z_)) ∧ Ext w w') := by
 refine enter 9 Tryz.func85 rfl rfl rfl fun f0 ha => ?_
 have H := HI.start (M0 := M) (w := w) hM
 have H0 := H.put (it := iL a_l0_ l0_ c_l0_) rfl (by rw [MS_nil]; exact h_l0_)
 have ln_l0_ := rv_len h_l0_
 have i0 : f0 0 = sL a_l0_ l0_ c_l0_ := ha 0 (by simp)
 have i1 : f0 1 = .bool v0_ := ha 1 (by simp)
 refine sq (rg (k (asg (v := .bool false) rfl rfl (z (nx (sq (rg (k (mv rfl i0 (k (mv rfl i1 (k ?_))))))))))))
 have cc0 := index_bool (l0_ := l0_) (v0_ := v0_) (w := w) H0.mb (H0.rv 0 rfl)
 refine ca go109 rfl (ec rfl (ec rfl e0)) cc0 ?_
 rintro _ w0 ⟨rfl, xt0⟩
 have H1 := H0.ext xt0
 refine k (geq rfl rfl rfl rfl (k (asg (v := .bool (decide (0 ≤ (idxF (fun (z_ : Bool) => v0_ == z_) l0_)))) rfl rfl (z (nx (rt (r1 rfl rfl ?_)))))))
 exact ⟨congrArg Value.bool (by exact idxF_any), H1.below⟩
theorem indexFunc_step {a_r : OA} {c_r : Nat} {r : List StepL} {g_p : Nat} {C_p : List Value} {p : StepL → Bool} (hM : ∀ b, M b → b < w.heap.size) (h_r : RV M w (.slice a_r r.length c_r) r) (h_p : FP Tryz.prog g_p C_p M w r p) : Calls Tryz.prog 110 #[.slice a_r r.length c_r, .func (.func g_p) #[] C_p.toArray] w (Ret fun v w' =>  v = .int .i64 (idxF p r) ∧ Ext w w') := by
 refine enter 19 Tryz.func110 rfl rfl rfl fun f0 ha => ?_
 have H := HI.start (M0 := M) (w := w) hM
 have H0 := H.put (it := iL a_r r c_r) rfl (by rw [MS_nil]; exact h_r)
 have ln_r := rv_len h_r
 have i0 : f0 0 = sL a_r r c_r := ha 0 (by simp)
 have i1 : f0 1 = .func (.func g_p) #[] C_p.toArray := ha 1 (by simp)
 refine sq (rg (k (asg (v := iV 0) rfl rfl (z (nx (sq (sq (rg (k (mv rfl i0 (k (lnS rfl rfl un23 (k (mv (v := iV 0) rfl rfl (z (nx (bk ?_)))))))))))))))))
 refine lp (fun m f w' => ∃ (j : Nat), m = r.length - j ∧ f 0 = sL a_r r c_r ∧ f 1 = .func (.func g_p) #[] C_p.toArray ∧ f 7 = iV (r.length : Int) ∧ f 8 = iV (j : Int) ∧  HI M w w' [iL a_r r c_r] ∧ (j ≤ r.length) ∧ ((r.take j).any p = false)) _ ⟨0, rfl, i0, i1, rfl, (ieq rfl (by first | rfl | omega | simp)), H0, (by first | omega | assumption | simp), (by simp)⟩ ?_
 rintro _ f0 w0 ⟨j, rfl, s0, s1, s2, s3, H1, hk, hs⟩
 refine sq (rg (k (lss rfl rfl s3 s2 (z (nx (sq ?_))))))
 refine cd (b := decide ((j : Int) < (r.length : Int))) rfl rfl (fun b0 => ?_) (fun b0 => ?_)
 ·
  have p0 := dT b0
  refine sk (nx (sq (bk (sq (rg (k (mv rfl s3 (k (asg (v := iV (j : Int)) rfl rfl (z (nx (sq (rg (k (mv rfl s1 (k (mv rfl s0 (k (mv (v := iV (j : Int)) rfl rfl (k (ia (H1.rv 0 rfl) rfl rfl rfl rfl (by omega) un23 ty92 ?_)))))))))))))))))))))
  intro ad0 x0 hx0 hA0
  refine k (ldW hA0.w ty92 rfl rfl ?_)
  intro v0 rv0
  obtain ⟨_, ⟨_, _, rfl, ⟨rfl, rv1⟩, ⟨_, _, rfl, ⟨rfl, rv2⟩, ⟨_, _, rfl, ⟨rfl, rv3⟩, ⟨_, _, rfl, ⟨rfl, rv4⟩, ⟨rfl, rv5⟩⟩⟩⟩⟩, rfl⟩ := rv0
  refine k (cf h_p.1 rfl rfl rfl (ec rfl e0) (h_p.2 _ _ _ (by exact mG_ ‹_›) H1.below (RV.lift (v := .agg #[iV x0.1, iV x0.2.1, iV x0.2.2.1, iV x0.2.2.2.1, iV x0.2.2.2.2]) (x := ((x0.1, x0.2.1, x0.2.2.1, x0.2.2.2.1, x0.2.2.2.2) : StepL)) ⟨_, ⟨_, _, rfl, ⟨rfl, (show I64 (x0.1) from (by unfold I64 at *; omega))⟩, ⟨_, _, rfl, ⟨rfl, (show I64 (x0.2.1) from (by unfold I64 at *; omega))⟩, ⟨_, _, rfl, ⟨rfl, (show I64 (x0.2.2.1) from (by unfold I64 at *; omega))⟩, ⟨_, _, rfl, ⟨rfl, (show I64 (x0.2.2.2.1) from (by unfold I64 at *; omega))⟩, ⟨rfl, (show I64 (x0.2.2.2.2) from (by unfold I64 at *; omega))⟩⟩⟩⟩⟩, rfl⟩ H1.out)) ?_)
  rintro _ w1 ⟨rfl, xt0⟩
  have H2 := H1.ext xt0
  refine z (nx ?_)
  refine cd (b := p (x0.1, x0.2.1, x0.2.2.1, x0.2.2.2.1, x0.2.2.2.2)) rfl rfl (fun b1 => ?_) (fun b1 => ?_)
  ·
   refine sq (rg (k (mv (v := iV (j : Int)) rfl rfl (k (asg (v := iV (j : Int)) rfl rfl (z (nx (rt (inb_ret (then_ret (loop_ret (inb_ret (then_ret (r1 rfl rfl ?_))))))))))))))
   exact ⟨congrArg (Value.int .i64) (by exact idxF_hit hx0 hs b1), H2.below⟩
  refine sk (inb_normal (nx (rg (k (add rfl rfl s3 rfl (by unfold I64 at *; omega) (k (mv (v := iV ((j : Int) + 1)) rfl rfl (z ?_))))))))
  refine loopN _ ?_ ⟨(j + 1), rfl, s0, s1, s2, (ieq rfl (by first | rfl | omega)), H2, (by first | omega | assumption | simp), (by exact any_step hx0 hs b1)⟩
  omega
 have p0 := dF b0
 refine ex (then_exit (loop_exit (inb_here (nx (sq (rg (k (asg (v := iV (-1)) rfl rfl (z (nx (rt (r1 rfl rfl ?_))))))))))))
 exact ⟨congrArg (Value.int .i64) (by exact idxF_miss hs (by omega)), H1.below⟩
theorem containsFunc_step {a_r : OA} {c_r : Nat} {r : List StepL} {g_p : Nat} {C_p : List Value} {p : StepL → Bool} (hM : ∀ b, M b → b < w.heap.size) (h_r : RV M w (.slice a_r r.length c_r) r) (h_p : FP Tryz.prog g_p C_p M w r p) : Calls Tryz.prog 86 #[.slice a_r r.length c_r, .func (.func g_p) #[] C_p.toArray] w (Ret fun v w' =>  v = .bool (r.any p) ∧ Ext w w') := by
 refine enter 9 Tryz.func86 rfl rfl rfl fun f0 ha => ?_
 have H := HI.start (M0 := M) (w := w) hM
 have H0 := H.put (it := iL a_r r c_r) rfl (by rw [MS_nil]; exact h_r)
 have ln_r := rv_len h_r
 have i0 : f0 0 = sL a_r r c_r := ha 0 (by simp)
 have i1 : f0 1 = .func (.func g_p) #[] C_p.toArray := ha 1 (by simp)
 refine sq (rg (k (asg (v := .bool false) rfl rfl (z (nx (sq (rg (k (mv rfl i0 (k (mv rfl i1 (k ?_))))))))))))
 have cc0 := indexFunc_step (r := r) (p := p) (w := w) H0.mb (H0.rv 0 rfl) (h_p.sub H0.below MS_sub)
 refine ca go110 rfl (ec rfl (ec rfl e0)) cc0 ?_
 rintro _ w0 ⟨rfl, xt0⟩
 have H1 := H0.ext xt0
 refine k (geq rfl rfl rfl rfl (k (asg (v := .bool (decide (0 ≤ (idxF p r)))) rfl rfl (z (nx (rt (r1 rfl rfl ?_)))))))
 exact ⟨congrArg Value.bool (by exact idxF_any), H1.below⟩
theorem fl68_1 : FldF Tryz.prog 68 1 1 := ⟨_, _, Tryz.underlying68, rfl, rfl, by kernel_rfl⟩
theorem ty66 : TyF Tryz.prog 66 1 false 24 (.slice none 0 0) := ⟨by kernel_rfl, by kernel_rfl⟩
theorem go111 : GoF Tryz.prog 111 := ⟨_, _, Tryz.func111, rfl, by kernel_rfl⟩
theorem un133 : Tryz.prog.underlying 133 = some (.slice 135) := by kernel_rfl
theorem ty135 : TyF Tryz.prog 135 2 true 16 (.agg #[.int .i64 0, .int .i64 0]) := ⟨by kernel_rfl, by kernel_rfl⟩
theorem fl68_0 : FldF Tryz.prog 68 0 0 := ⟨_, _, Tryz.underlying68, rfl, rfl, by kernel_rfl⟩
theorem go138 : GoF Tryz.prog 138 := ⟨_, _, Tryz.func138, rfl, by kernel_rfl⟩
theorem mat_Pairs {mn : Int} {a_mr : OA} {c_mr : Nat} {mr : List (List (BitVec 64))} (hM : ∀ b, M b → b < w.heap.size) (hT : TabAt 0 w) (h_mn : I64 mn) (h_mr : RV M w (.slice a_mr mr.length c_mr) mr) (hsq_m : ((mr.length : Nat) : Int) = mn) (hrw_m : ∀ x ∈ mr, x.length ≤ 1000000000) (hl4_m : mn ≤ 4096) (hrs_m : ∀ x ∈ mr, x.length ≤ 64) : Calls Tryz.prog 128 #[.agg #[.int .i64 mn, .slice a_mr mr.length c_mr]] w (Ret fun v w' => ∃ (a0 : OA) (c0 : Nat), v = .slice a0 (pairsM mn mr).length c0 ∧ Ext w w' ∧ RV M w' (.slice a0 (pairsM mn mr).length c0) (pairsM mn mr)) := by
 refine enter 32 Tryz.func128 rfl rfl rfl fun f0 ha => ?_
 have H := HI.start (M0 := M) (w := w) hM
 have H0 := H.put (it := iL a_mr mr c_mr) rfl (by rw [MS_nil]; exact h_mr)
 have ln_mr := rv_len h_mr
 have i0 : f0 0 = .agg #[iV mn, sL a_mr mr c_mr] := ha 0 (by simp)
 refine sq (rg (k (bx H0 rfl i0 ?_)))
 intro bb0 w0 xt0 (H1 : HI M w w0 [box bb0 #[iV mn, sL a_mr mr c_mr] 68, iL a_mr mr c_mr])
 refine k (asg (v := .slice none 0 0) rfl rfl (z (nx (sq (rg (k (asg (v := .slice none 0 0) rfl rfl (z (nx (sq (sq (rg (k (fa fl68_1 rfl rfl (k (lx H1 0 rfl ty66 rfl rfl rfl (k (lnS rfl rfl un66 (k (mv (v := iV 0) rfl rfl (z (nx (bk ?_)))))))))))))))))))))))
 have H2 := H1.nil_ (Int × Int) 135
 refine lp (fun m f w' => ∃ (i : Nat) (xs : List (Int × Int)) (a0 : OA) (c0 : Nat), m = mr.length - i ∧ f 3 = sL a0 xs c0 ∧ f 9 = sL a_mr mr c_mr ∧ f 10 = iV (mr.length : Int) ∧ f 11 = iV (i : Int) ∧  HI M w w' [oL w 135 a0 xs c0, box bb0 #[iV mn, sL a_mr mr c_mr] 68, iL a_mr mr c_mr] ∧ (i ≤ mr.length) ∧ (xs = pairsTo mr i)) _ ⟨0, ([] : List (Int × Int)), none, 0, rfl, rfl, rfl, rfl, (ieq rfl (by first | rfl | omega | simp)), H2, (by first | omega | assumption | simp), (by rfl)⟩ ?_
 rintro _ f0 w1 ⟨i, xs, a0, c0, rfl, s0, s1, s2, s3, H3, hi_, hs⟩
 refine sq (rg (k (lss rfl rfl s3 s2 (z (nx (sq ?_))))))
 refine cd (b := decide ((i : Int) < (mr.length : Int))) rfl rfl (fun b0 => ?_) (fun b0 => ?_)
 ·
  have p0 := dT b0
  refine sk (nx (sq (bk (sq (rg (k (mv rfl s3 (k (ia (H3.rv 2 rfl) rfl rfl s1 s3 (by omega) un66 ty115 ?_)))))))))
  intro ad0 x0 hx0 hA0
  refine k (ldL hA0.w ty115 rfl rfl ?_)
  intro a1 c1 rv0
  have ln0 := rv_len rv0
  have H4 := H3.put (it := iL a1 x0 c1) rfl rv0
  refine k (asg (v := iV (i : Int)) rfl rfl (k (asg (v := sL a1 x0 c1) rfl rfl (z (nx (sq (rg (k (mv (v := sL a1 x0 c1) rfl rfl (k ?_))))))))))
  have cc0 := row_List (r := x0) (w := w1) H4.mb (hT.ext H4.below) (H4.rv 0 rfl) (by have h_ := hrs_m _ (mG_ hx0); omega)
  refine ca go111 rfl (ec rfl e0) cc0 ?_
  rintro _ w2 ⟨a2, c2, rfl, xt1, rv1⟩
  have H5 := H4.ownsG rv1
  refine k (lnS rfl rfl un30 (k (mv (v := iV 0) rfl rfl (z (nx (bk ?_))))))
  refine lp (fun m f w' => ∃ (q : Nat) (xs2 : List (Int × Int)) (a3 : OA) (c3 : Nat), m = (listR x0).length - q ∧ f 3 = sL a3 xs2 c3 ∧ f 4 = iV (i : Int) ∧ f 9 = sL a_mr mr c_mr ∧ f 10 = iV (mr.length : Int) ∧ f 11 = iV (i : Int) ∧ f 17 = sL a2 (listR x0) c2 ∧ f 18 = iV ((listR x0).length : Int) ∧ f 19 = iV (q : Int) ∧  HI M w w' [oL w 3 a2 (listR x0) c2, iL a1 x0 c1, oL w 135 a3 xs2 c3, box bb0 #[iV mn, sL a_mr mr c_mr] 68, iL a_mr mr c_mr] ∧ (q ≤ (listR x0).length) ∧ (xs2 = pairsTo mr i ++ ((listR x0).take q).map fun j => (((i : Nat) : Int), j))) _ ⟨0, xs, a0, c0, rfl, s0, rfl, s1, s2, s3, rfl, rfl, (ieq rfl (by first | rfl | omega | simp)), H5, (by first | omega | assumption | simp), (by rw [hs]; simp)⟩ ?_
  rintro _ f1 w3 ⟨q, xs2, a3, c3, rfl, s4, s5, s6, s7, s8, s9, s10, s11, H6, hq_, hs2⟩
  refine sq (rg (k (lss rfl rfl s11 s10 (z (nx (sq ?_))))))
  refine cd (b := decide ((q : Int) < ((listR x0).length : Int))) rfl rfl (fun b1 => ?_) (fun b1 => ?_)
  ·
   have p1 := dT b1
   refine sk (nx (sq (bk (sq (rg (k (iaO (H6.at_ 0 rfl) rfl rfl s9 s11 (by omega) un30 ty3 ?_)))))))
   intro g0 x1 hv0 hx1 hA1
   refine k (ldI hA1 ty3 rfl rfl ?_)
   intro rv2
   refine k (asg (v := iV x1) rfl rfl (z (nx (rg (k (mv rfl s4 (k (mv rfl s5 (k (mv (v := iV x1) rfl rfl (k (bd (v := .agg #[iV (i : Int), iV x1]) rfl (pbc rfl (pbc rfl pb0)) (fun _ => by kernel_rfl) (k (bs (xs := ([((i : Int), x1)] : List (Int × Int))) (cells := #[iV (i : Int), iV x1]) (e := 135) H6 rfl (pbc rfl pb0) (fun _ => by kernel_rfl) ⟨[iV (i : Int), iV x1], [], rfl, ⟨_, _, rfl, ⟨rfl, (show I64 ((i : Int)) from (by unfold I64 at *; omega))⟩, ⟨rfl, (show I64 (x1) from (by unfold I64 at *; omega))⟩⟩, rfl⟩ rfl (by decide) ?_))))))))))))))
   intro g1 w4 xt2 H7
   refine k (apB H7 3 rfl rfl rfl rfl rfl rfl (own_src (H7.at_ 0 rfl)) un133 ty135 rfl (by have h1_ := pairsTo_len hrs_m i; have h2_ := listR_length x0; have h3_ := hrs_m _ (mG_ hx0); rw [hs2, lA_, List.length_map, lT_]; simp only [lC_, lN_]; omega) rfl ?_)
   intro a4 c4 w5 (H8 : HI M w w5 [own w.heap.size 135 (.slice (some ⟨g1, 0, none⟩) 1 1) ([((i : Int), x1)] : List (Int × Int)), oL w 3 a2 (listR x0) c2, iL a1 x0 c1, oL w 135 a4 (xs2 ++ ([((i : Int), x1)] : List (Int × Int))) c4, box bb0 #[iV mn, sL a_mr mr c_mr] 68, iL a_mr mr c_mr])
   refine k (asg (v := sL a4 (xs2 ++ ([((i : Int), x1)] : List (Int × Int))) c4) rfl rfl (z (inb_normal (nx (rg (k (add rfl rfl s11 rfl (by have h2_ := listR_length x0; have h3_ := hrs_m _ (mG_ hx0); unfold I64; omega) (k (mv (v := iV ((q : Int) + 1)) rfl rfl (z ?_))))))))))
   have H9 : HI M w w5 [oL w 3 a2 (listR x0) c2, iL a1 x0 c1, oL w 135 a4 (xs2 ++ ([((i : Int), x1)] : List (Int × Int))) c4, box bb0 #[iV mn, sL a_mr mr c_mr] 68, iL a_mr mr c_mr] := H8.pickN [1, 2, 3, 4, 5] (by decide) rfl
   refine loopN _ ?_ ⟨(q + 1), (xs2 ++ ([((i : Int), x1)] : List (Int × Int))), a4, c4, rfl, rfl, s5, s6, s7, s8, s9, s10, (ieq rfl (by first | rfl | omega)), H9, (by first | omega | assumption | simp), (by rw [hs2]; exact pair_step hx1)⟩
   omega
  have p1 := dF b1
  refine ex (then_exit (loop_exit (inb_here (inb_normal (nx (rg (k (add rfl rfl s8 rfl (by unfold I64 at *; omega) (k (mv (v := iV ((i : Int) + 1)) rfl rfl (z ?_)))))))))))
  have H7 : HI M w w3 [oL w 135 a3 xs2 c3, box bb0 #[iV mn, sL a_mr mr c_mr] 68, iL a_mr mr c_mr] := H6.pickN [2, 3, 4] (by decide) rfl
  refine loopN _ ?_ ⟨(i + 1), xs2, a3, c3, rfl, s4, s6, s7, (ieq rfl (by first | rfl | omega)), H7, (by first | omega | assumption | simp), (by rw [hs2]; exact pair_row hx0 (by omega))⟩
  omega
 have p0 := dF b0
 refine ex (then_exit (loop_exit (inb_here (nx (sq (rg (k (mv rfl s0 (k (asg (v := sL a0 xs c0) rfl rfl (z (nx (rt (r1 rfl rfl ?_))))))))))))))
 have e0 : (xs : List (Int × Int)) = pairsM mn mr := by rw [hs]; exact pairs_end (by omega) (by omega)
 have ev_ := cg1 (fun (x_0 : List (Int × Int)) => (.slice a0 x_0.length c0 : Value)) e0
 exact ⟨a0, c0, ev_, H3.below, (congrArg (fun (x_ : List (Int × Int)) => RV _ _ (.slice a0 x_.length c0) x_) e0).mp (H3.outO 0 rfl)⟩
theorem mat_Or {an : Int} {a_ar : OA} {c_ar : Nat} {ar : List (List (BitVec 64))} {bn : Int} {a_br : OA} {c_br : Nat} {br : List (List (BitVec 64))} (hM : ∀ b, M b → b < w.heap.size) (h_an : I64 an) (h_ar : RV M w (.slice a_ar ar.length c_ar) ar) (h_bn : I64 bn) (h_br : RV M w (.slice a_br br.length c_br) br) (hsq_a : ((ar.length : Nat) : Int) = an) (hrw_a : ∀ x ∈ ar, x.length ≤ 1000000000) (hl4_a : an ≤ 4096) (hsq_b : ((br.length : Nat) : Int) = bn) (hrw_b : ∀ x ∈ br, x.length ≤ 1000000000) (hl4_b : bn ≤ 4096) : Calls Tryz.prog 132 #[.agg #[.int .i64 an, .slice a_ar ar.length c_ar], .agg #[.int .i64 bn, .slice a_br br.length c_br]] w (Ret fun v w' => ∃ (a0 : OA) (c0 : Nat), v = .tuple #[.agg #[.int .i64 (orMN an bn), .slice a0 (orMR an ar bn br).length c0], .int .i64 (orME an bn)] ∧ Ext w w' ∧ OwnsG M 115 w (orMR an ar bn br) (.slice a0 (orMR an ar bn br).length c0) w') := by
 refine enter 41 Tryz.func132 rfl rfl rfl fun f0 ha => ?_
 have H := HI.start (M0 := M) (w := w) hM
 have H0 := H.put (it := iL a_ar ar c_ar) rfl (by rw [MS_nil]; exact h_ar)
 have H1 := H0.put (it := iL a_br br c_br) rfl (by rw [MS_cons_none rfl, MS_nil]; exact h_br)
 have ln_ar := rv_len h_ar
 have ln_br := rv_len h_br
 have i0 : f0 0 = .agg #[iV an, sL a_ar ar c_ar] := ha 0 (by simp)
 have i1 : f0 1 = .agg #[iV bn, sL a_br br c_br] := ha 1 (by simp)
 refine sq (rg (k (bx H1 rfl i0 ?_)))
 intro bb0 w0 xt0 (H2 : HI M w w0 [box bb0 #[iV an, sL a_ar ar c_ar] 68, iL a_br br c_br, iL a_ar ar c_ar])
 refine k (bx H2 rfl i1 ?_)
 intro bb1 w1 xt1 (H3 : HI M w w1 [box bb1 #[iV bn, sL a_br br c_br] 68, box bb0 #[iV an, sL a_ar ar c_ar] 68, iL a_br br c_br, iL a_ar ar c_ar])
 refine k (al H3 ty68 ?_)
 intro bb2 w2 xt2 (H4 : HI M w w2 [box bb2 #[iV 0, .slice none 0 0] 68, box bb1 #[iV bn, sL a_br br c_br] 68, box bb0 #[iV an, sL a_ar ar c_ar] 68, iL a_br br c_br, iL a_ar ar c_ar])
 refine k (asg (v := iV 0) rfl rfl (z (nx (sq (sq (rg (k (fa fl68_0 rfl rfl (k (lx H4 2 rfl ty3 rfl rfl rfl (k (fa fl68_0 rfl rfl (k (lx H4 1 rfl ty3 rfl rfl rfl (k (neq rfl rfl rfl rfl (z (nx ?_))))))))))))))))))
 refine cd (b := !decide (an = bn)) rfl rfl (fun b0 => ?_) (fun b0 => ?_)
 ·
  have p0 := dF (nott b0)
  refine sq (rg (k (bd (v := .agg #[iV 0, .slice none 0 0]) rfl pb0 (fun _ => by kernel_rfl) (k (stX H4 0 rfl ty68 rfl rfl rfl rfl rfl rfl rfl ?_)))))
  intro w3 (H5 : HI M w w3 [box bb2 #[iV 0, .slice none 0 0] 68, box bb1 #[iV bn, sL a_br br c_br] 68, box bb0 #[iV an, sL a_ar ar c_ar] 68, iL a_br br c_br, iL a_ar ar c_ar])
  refine k (asg (v := iV 1) rfl rfl (z (nx (rt (then_ret (rc2 H5 0 rfl ty68 rfl rfl rfl rfl rfl (by decide) ?_))))))
  have e0 : (0 : Int) = orMN an bn := by first | exact (orM_no (ar := ar) (br := br) p0).1.symm | exact (orM_yes (ar := ar) (br := br) p0).1.symm
  have e1 : ([] : List (List (BitVec 64))) = orMR an ar bn br := by first | exact (orM_no p0).2.1.symm | (rw [(orM_yes p0).2.1, hs]; exact orFill_end (by omega) hk)
  have e2 : (1 : Int) = orME an bn := by first | exact (orM_no (ar := ar) (br := br) p0).2.2.symm | exact (orM_yes (ar := ar) (br := br) p0).2.2.symm
  have ev_ := cg3 (fun (x_0 : Int) (x_1 : List (List (BitVec 64))) (x_2 : Int) => (.tuple #[.agg #[iV x_0, .slice none x_1.length 0], iV x_2] : Value)) e0 e1 e2
  exact ⟨none, 0, ev_, H5.below, (congrArg (fun (x_ : List (List (BitVec 64))) => OwnsG _ _ _ x_ (.slice none x_.length 0) _) e1).mp (ownsG_nil H5.below)⟩
 have p0 := dT (notf b0)
 refine sk (nx (sq (rg (k (fa fl68_0 rfl rfl (k (lx H4 2 rfl ty3 rfl rfl rfl (k ?_))))))))
 have n0 : ((an.toNat : Nat) : Int) = an := Int.toNat_of_nonneg (by omega)
 refine mk (m := an.toNat) (zx := ([] : (List (BitVec 64)))) H4 rfl rfl (by rw [n0]; exact rfl) (by rw [n0]; exact rfl) un66 ty115 (fun _ _ => ⟨_, rfl, rs_nil _ _⟩) (by omega) (by omega) ?_
 intro g0 w3 xt3 (H5 : HI M w w3 [own w.heap.size 115 (.slice (some ⟨g0, 0, none⟩) an.toNat an.toNat) (List.replicate an.toNat ([] : (List (BitVec 64)))), box bb2 #[iV 0, .slice none 0 0] 68, box bb1 #[iV bn, sL a_br br c_br] 68, box bb0 #[iV an, sL a_ar ar c_ar] 68, iL a_br br c_br, iL a_ar ar c_ar])
 refine k (asg (v := .slice (some ⟨g0, 0, none⟩) an.toNat an.toNat) rfl rfl (z (nx (sq (sq (rg (k (mv (v := .slice (some ⟨g0, 0, none⟩) an.toNat an.toNat) rfl rfl (k (lnS rfl rfl un66 (k (mv (v := iV 0) rfl rfl (z (nx (bk ?_)))))))))))))))
 refine lp (fun m f w' => ∃ (j : Nat) (xs : List (List (BitVec 64))), m = an.toNat - j ∧ f 2 = pV bb0 0 ∧ f 3 = pV bb1 0 ∧ f 4 = pV bb2 0 ∧ f 6 = .slice (some ⟨g0, 0, none⟩) an.toNat an.toNat ∧ f 18 = iV (an.toNat : Int) ∧ f 19 = iV (j : Int) ∧  HI M w w' [own w.heap.size 115 (.slice (some ⟨g0, 0, none⟩) an.toNat an.toNat) xs, box bb2 #[iV 0, .slice none 0 0] 68, box bb1 #[iV bn, sL a_br br c_br] 68, box bb0 #[iV an, sL a_ar ar c_ar] 68, iL a_br br c_br, iL a_ar ar c_ar] ∧ (j ≤ an.toNat) ∧ (xs.length = an.toNat) ∧ (xs = orFill ar br an.toNat j)) _ ⟨0, (List.replicate an.toNat ([] : (List (BitVec 64)))), rfl, rfl, rfl, rfl, rfl, rfl, (ieq rfl (by first | rfl | omega | simp)), H5, (by first | omega | assumption | simp), (by simp), (by exact orFill_zero _ _ _)⟩ ?_
 rintro _ f0 w4 ⟨j, xs, rfl, s0, s1, s2, s3, s4, s5, H6, hk, hl, hs⟩
 refine sq (rg (k (lss rfl rfl s5 s4 (z (nx (sq ?_))))))
 refine cd (b := decide ((j : Int) < (an.toNat : Int))) rfl rfl (fun b1 => ?_) (fun b1 => ?_)
 ·
  have p1 := dT b1
  refine sk (nx (sq (bk (sq (rg (k (mv rfl s5 (k (asg (v := iV (j : Int)) rfl rfl (z (nx ?_)))))))))))
  obtain ⟨x0, hx0⟩ : ∃ x, ar[(j : Int).toNat]? = some x := ⟨_, gE_ (by omega)⟩
  obtain ⟨x1, hx1⟩ : ∃ x, br[(j : Int).toNat]? = some x := ⟨_, gE_ (by omega)⟩
  refine dr 13 [eV (.slice (some ⟨g0, 0, none⟩) an.toNat an.toNat), eV (iV (j : Int)), eV (pV bb0 1), eV (sL a_ar ar c_ar), eV (iV (j : Int)), fun v w' => ∃ (ad0 : Addr), v = .pointer (some ad0) ∧ At (MS M [own w.heap.size 115 (.slice (some ⟨g0, 0, none⟩) an.toNat an.toNat) xs, box bb2 #[iV 0, .slice none 0 0] 68, box bb1 #[iV bn, sL a_br br c_br] 68, box bb0 #[iV an, sL a_ar ar c_ar] 68, iL a_br br c_br, iL a_ar ar c_ar]) w' ad0 x0, fun v w' => ∃ (a0 : OA) (c0 : Nat), v = sL a0 x0 c0 ∧ RV (MS M [own w.heap.size 115 (.slice (some ⟨g0, 0, none⟩) an.toNat an.toNat) xs, box bb2 #[iV 0, .slice none 0 0] 68, box bb1 #[iV bn, sL a_br br c_br] 68, box bb0 #[iV an, sL a_ar ar c_ar] 68, iL a_br br c_br, iL a_ar ar c_ar]) w' (sL a0 x0 c0) x0, eV (pV bb1 1), eV (sL a_br br c_br), eV (iV (j : Int)), fun v w' => ∃ (ad1 : Addr), v = .pointer (some ad1) ∧ At (MS M [own w.heap.size 115 (.slice (some ⟨g0, 0, none⟩) an.toNat an.toNat) xs, box bb2 #[iV 0, .slice none 0 0] 68, box bb1 #[iV bn, sL a_br br c_br] 68, box bb0 #[iV an, sL a_ar ar c_ar] 68, iL a_br br c_br, iL a_ar ar c_ar]) w' ad1 x1, fun v w' => ∃ (a1 : OA) (c1 : Nat), v = sL a1 x1 c1 ∧ RV (MS M [own w.heap.size 115 (.slice (some ⟨g0, 0, none⟩) an.toNat an.toNat) xs, box bb2 #[iV 0, .slice none 0 0] 68, box bb1 #[iV bn, sL a_br br c_br] 68, box bb0 #[iV an, sL a_ar ar c_ar] 68, iL a_br br c_br, iL a_ar ar c_ar]) w' (sL a1 x1 c1) x1, fun v w' => ∃ (a2 : OA) (c2 : Nat), v = sL a2 (orR x0 x1) c2 ∧ RV (MS M [own w.heap.size 115 (.slice (some ⟨g0, 0, none⟩) an.toNat an.toNat) xs, box bb2 #[iV 0, .slice none 0 0] 68, box bb1 #[iV bn, sL a_br br c_br] 68, box bb0 #[iV an, sL a_ar ar c_ar] 68, iL a_br br c_br, iL a_ar ar c_ar]) w' (sL a2 (orR x0 x1) c2) (orR x0 x1)] rfl (by kernel_rfl) ?_ ?_
  ·
   refine dc (fun _ _ hf0 _ _ => mv rfl ((hf0 6 rfl).trans s3) (d0 rfl rfl)) ?_
   refine dc (fun _ _ hf1 _ _ => mv rfl (hf1 7 rfl) (d0 rfl rfl)) ?_
   refine dc (fun _ _ hf2 _ _ => fa fl68_1 rfl ((hf2 2 rfl).trans s0) (d0 rfl rfl)) ?_
   refine dc (fun _ _ _ xt8 hp3 => lx (H6.ext xt8) 3 rfl ty66 rfl (hp3 2 rfl rfl) rfl (d0 rfl rfl)) ?_
   refine dc (fun _ _ hf4 _ _ => mv rfl (hf4 7 rfl) (d0 rfl rfl)) ?_
   refine ⟨fun _ => ⟨fun f6 w11 hf5 xt10 hp5 => ?_, by rintro _ _ _ x_ ⟨ad0, e_, hA0⟩; exact ⟨ad0, e_, hA0.lift (Up.ext x_)⟩⟩, ?_⟩
   ·
    have H16 := H6.ext xt10
    have s7 : f6 25 = sL a_ar ar c_ar := hp5 3 rfl rfl
    have s8 : f6 26 = iV (j : Int) := hp5 4 rfl rfl
    refine ia (H16.rv 5 rfl) rfl rfl s7 s8 (by omega) un66 ty115 ?_
    intro ad2 x2 hx2 hA2
    obtain rfl : x0 = x2 := Option.some.inj (hx0.symm.trans hx2)
    exact ⟨_, rfl, Ext.refl _, ⟨ad2, rfl, hA2⟩⟩
   refine ⟨fun _ => ⟨fun f7 w12 hf6 xt11 hp6 => ?_, by rintro _ _ _ x_ ⟨a0, c0, e_, rv0⟩; exact ⟨a0, c0, e_, rv0.lift (Up.ext x_)⟩⟩, ?_⟩
   ·
    have H17 := H6.ext xt11
    obtain ⟨ad3, s9, hA3⟩ : ∃ (ad3 : Addr), f7 27 = .pointer (some ad3) ∧ At (MS M [own w.heap.size 115 (.slice (some ⟨g0, 0, none⟩) an.toNat an.toNat) xs, box bb2 #[iV 0, .slice none 0 0] 68, box bb1 #[iV bn, sL a_br br c_br] 68, box bb0 #[iV an, sL a_ar ar c_ar] 68, iL a_br br c_br, iL a_ar ar c_ar]) w12 ad3 x0 := hp6 5 rfl rfl
    have H18 := H17.put (it := atI ad3 x0) rfl hA3
    refine ldL (H18.atv 0 rfl).w ty115 rfl s9 ?_
    intro a3 c3 rv4
    have ln2 := rv_len rv4
    exact ⟨_, rfl, Ext.refl _, ⟨a3, c3, rfl, (rv_drop rfl rv4)⟩⟩
   refine dc (fun _ _ hf7 _ _ => fa fl68_1 rfl ((hf7 3 rfl).trans s1) (d0 rfl rfl)) ?_
   refine dc (fun _ _ _ xt13 hp8 => lx (H6.ext xt13) 2 rfl ty66 rfl (hp8 7 rfl rfl) rfl (d0 rfl rfl)) ?_
   refine dc (fun _ _ hf9 _ _ => mv rfl (hf9 7 rfl) (d0 rfl rfl)) ?_
   refine ⟨fun _ => ⟨fun f11 w16 hf10 xt15 hp10 => ?_, by rintro _ _ _ x_ ⟨ad1, e_, hA1⟩; exact ⟨ad1, e_, hA1.lift (Up.ext x_)⟩⟩, ?_⟩
   ·
    have H23 := H6.ext xt15
    have s11 : f11 30 = sL a_br br c_br := hp10 8 rfl rfl
    have s12 : f11 31 = iV (j : Int) := hp10 9 rfl rfl
    refine ia (H23.rv 4 rfl) rfl rfl s11 s12 (by omega) un66 ty115 ?_
    intro ad4 x3 hx3 hA4
    obtain rfl : x1 = x3 := Option.some.inj (hx1.symm.trans hx3)
    exact ⟨_, rfl, Ext.refl _, ⟨ad4, rfl, hA4⟩⟩
   refine ⟨fun _ => ⟨fun f12 w17 hf11 xt16 hp11 => ?_, by rintro _ _ _ x_ ⟨a1, c1, e_, rv1⟩; exact ⟨a1, c1, e_, rv1.lift (Up.ext x_)⟩⟩, ?_⟩
   ·
    have H24 := H6.ext xt16
    obtain ⟨ad5, s13, hA5⟩ : ∃ (ad5 : Addr), f12 32 = .pointer (some ad5) ∧ At (MS M [own w.heap.size 115 (.slice (some ⟨g0, 0, none⟩) an.toNat an.toNat) xs, box bb2 #[iV 0, .slice none 0 0] 68, box bb1 #[iV bn, sL a_br br c_br] 68, box bb0 #[iV an, sL a_ar ar c_ar] 68, iL a_br br c_br, iL a_ar ar c_ar]) w17 ad5 x1 := hp11 10 rfl rfl
    have H25 := H24.put (it := atI ad5 x1) rfl hA5
    refine ldL (H25.atv 0 rfl).w ty115 rfl s13 ?_
    intro a4 c4 rv5
    have ln3 := rv_len rv5
    exact ⟨_, rfl, Ext.refl _, ⟨a4, c4, rfl, (rv_drop rfl rv5)⟩⟩
   refine ⟨fun _ => ⟨fun f13 w18 hf12 xt17 hp12 => ?_, by rintro _ _ _ x_ ⟨a2, c2, e_, rv3⟩; exact ⟨a2, c2, e_, rv3.lift (Up.ext x_)⟩⟩, ?_⟩
   ·
    have H27 := H6.ext xt17
    obtain ⟨a5, c5, s14, rv6⟩ : ∃ (a5 : OA) (c5 : Nat), f13 28 = sL a5 x0 c5 ∧ RV (MS M [own w.heap.size 115 (.slice (some ⟨g0, 0, none⟩) an.toNat an.toNat) xs, box bb2 #[iV 0, .slice none 0 0] 68, box bb1 #[iV bn, sL a_br br c_br] 68, box bb0 #[iV an, sL a_ar ar c_ar] 68, iL a_br br c_br, iL a_ar ar c_ar]) w18 (sL a5 x0 c5) x0 := hp12 6 rfl rfl
    have H28 := H27.put (it := iL a5 x0 c5) rfl rv6
    obtain ⟨a6, c6, s15, rv7⟩ : ∃ (a6 : OA) (c6 : Nat), f13 33 = sL a6 x1 c6 ∧ RV (MS M [own w.heap.size 115 (.slice (some ⟨g0, 0, none⟩) an.toNat an.toNat) xs, box bb2 #[iV 0, .slice none 0 0] 68, box bb1 #[iV bn, sL a_br br c_br] 68, box bb0 #[iV an, sL a_ar ar c_ar] 68, iL a_br br c_br, iL a_ar ar c_ar]) w18 (sL a6 x1 c6) x1 := hp12 11 rfl rfl
    have H29 := H28.put (it := iL a6 x1 c6) rfl (by rw [MS_cons_none rfl]; exact rv7)
    have cc1 := row_Or (a := x0) (b := x1) (w := w18) H29.mb (H29.rv 1 rfl) (H29.rv 0 rfl) (by first | exact hrw_a _ (mG_ hx0) | exact hrw_b _ (mG_ hx1)) (by first | exact hrw_a _ (mG_ hx0) | exact hrw_b _ (mG_ hx1))
    refine ca go138 rfl (ec s14 (ec s15 e0)) cc1 ?_
    rintro _ w19 ⟨a7, c7, rfl, xt18, rv8⟩
    have rv9 := OwnsG.rv rv8 H29.mb
    exact ⟨_, rfl, xt18, ⟨a7, c7, rfl, (rv_drop rfl (rv_drop rfl rv9))⟩⟩
   exact DSteps.rest rfl _
  ·
   intro f14 w20 hf13 xt19 hp13
   have H32 := H6.ext xt19
   have s16 : f14 2 = pV bb0 0 := (hf13 2 rfl).trans s0
   have s17 : f14 3 = pV bb1 0 := (hf13 3 rfl).trans s1
   have s18 : f14 4 = pV bb2 0 := (hf13 4 rfl).trans s2
   have s19 : f14 6 = .slice (some ⟨g0, 0, none⟩) an.toNat an.toNat := (hf13 6 rfl).trans s3
   have s20 : f14 18 = iV (an.toNat : Int) := (hf13 18 rfl).trans s4
   have s21 : f14 19 = iV (j : Int) := (hf13 19 rfl).trans s5
   have s22 : f14 22 = .slice (some ⟨g0, 0, none⟩) an.toNat an.toNat := hp13 0 rfl
   have s23 : f14 23 = iV (j : Int) := hp13 1 rfl
   obtain ⟨a8, c8, s24, rv10⟩ : ∃ (a8 : OA) (c8 : Nat), f14 34 = sL a8 (orR x0 x1) c8 ∧ RV (MS M [own w.heap.size 115 (.slice (some ⟨g0, 0, none⟩) an.toNat an.toNat) xs, box bb2 #[iV 0, .slice none 0 0] 68, box bb1 #[iV bn, sL a_br br c_br] 68, box bb0 #[iV an, sL a_ar ar c_ar] 68, iL a_br br c_br, iL a_ar ar c_ar]) w20 (sL a8 (orR x0 x1) c8) (orR x0 x1) := hp13 12 rfl
   have H33 := H32.put (it := iL a8 (orR x0 x1) c8) rfl rv10
   refine k (iaO (H33.at_ 1 rfl) rfl rfl s22 s23 (by omega) un66 ty115 ?_)
   intro g1 x4 hv0 hx4 hA6
   refine k (stO H33 1 rfl hv0 rfl (by omega) ty115 rfl rfl rfl s24 (H33.rv 0 rfl) ?_)
   intro w21 (H34 : HI M w w21 [iL a8 (orR x0 x1) c8, own w.heap.size 115 (.slice (some ⟨g0, 0, none⟩) an.toNat an.toNat) (xs.set ((j : Int).toNat) (orR x0 x1)), box bb2 #[iV 0, .slice none 0 0] 68, box bb1 #[iV bn, sL a_br br c_br] 68, box bb0 #[iV an, sL a_ar ar c_ar] 68, iL a_br br c_br, iL a_ar ar c_ar])
   refine z (inb_normal (nx (rg (k (add rfl rfl s21 rfl (by unfold I64 at *; omega) (k (mv (v := iV ((j : Int) + 1)) rfl rfl (z ?_))))))))
   have H35 : HI M w w21 [own w.heap.size 115 (.slice (some ⟨g0, 0, none⟩) an.toNat an.toNat) (xs.set ((j : Int).toNat) (orR x0 x1)), box bb2 #[iV 0, .slice none 0 0] 68, box bb1 #[iV bn, sL a_br br c_br] 68, box bb0 #[iV an, sL a_ar ar c_ar] 68, iL a_br br c_br, iL a_ar ar c_ar] := H34.pickN [1, 2, 3, 4, 5, 6] (by decide) rfl
   refine loopN _ ?_ ⟨(j + 1), (xs.set ((j : Int).toNat) (orR x0 x1)), rfl, s16, s17, s18, s19, s20, (ieq rfl (by first | rfl | omega)), H35, (by first | omega | assumption | simp), (by simpa using hl), (by rw [hs]; exact orFill_set (by omega) hx0 hx1)⟩
   omega
 have p1 := dF b1
 refine ex (then_exit (loop_exit (inb_here (nx (sq (rg (k (fa fl68_0 rfl s0 (k (lx H6 3 rfl ty3 rfl rfl rfl (k (mv rfl s3 (k (bd (v := .agg #[iV an, .slice (some ⟨g0, 0, none⟩) an.toNat an.toNat]) rfl (pbc rfl (pbc rfl pb0)) (fun _ => by kernel_rfl) (k (stX H6 1 rfl ty68 rfl rfl s2 rfl rfl rfl rfl ?_))))))))))))))))
 intro w5 (H7 : HI M w w5 [own w.heap.size 115 (.slice (some ⟨g0, 0, none⟩) an.toNat an.toNat) xs, box bb2 #[iV an, .slice (some ⟨g0, 0, none⟩) an.toNat an.toNat] 68, box bb1 #[iV bn, sL a_br br c_br] 68, box bb0 #[iV an, sL a_ar ar c_ar] 68, iL a_br br c_br, iL a_ar ar c_ar])
 refine k (asg (v := iV 0) rfl rfl (z (nx (rt (rc2 H7 1 rfl ty68 rfl rfl rfl s2 rfl (by decide) ?_)))))
 have e0 : (an : Int) = orMN an bn := by first | exact (orM_no (ar := ar) (br := br) p0).1.symm | exact (orM_yes (ar := ar) (br := br) p0).1.symm
 have e1 : (xs : List (List (BitVec 64))) = orMR an ar bn br := by first | exact (orM_no p0).2.1.symm | (rw [(orM_yes p0).2.1, hs]; exact orFill_end (by omega) hk)
 have l1 : an.toNat = (orMR an ar bn br).length := by first | rfl | (rw [← e1]; omega) | (rw [← e1]; simp) | simp
 have e2 : (0 : Int) = orME an bn := by first | exact (orM_no (ar := ar) (br := br) p0).2.2.symm | exact (orM_yes (ar := ar) (br := br) p0).2.2.symm
 have ev_ := cg3 (fun (x_0 : Int) (n_1 : Nat) (x_2 : Int) => (.tuple #[.agg #[iV x_0, .slice (some ⟨g0, 0, none⟩) n_1 an.toNat], iV x_2] : Value)) e0 l1 e2
 exact ⟨(some ⟨g0, 0, none⟩), an.toNat, ev_, H7.below, (congrArg (fun (n_ : Nat) => OwnsG _ _ _ (orMR an ar bn br) (.slice (some ⟨g0, 0, none⟩) n_ an.toNat) _) l1).mp ((congrArg (fun (x_ : List (List (BitVec 64))) => OwnsG _ _ _ x_ (.slice (some ⟨g0, 0, none⟩) an.toNat an.toNat) _) e1).mp (H7.ownsG_out 0 rfl))⟩
theorem go108 : GoF Tryz.prog 108 := ⟨_, _, Tryz.func108, rfl, by kernel_rfl⟩
theorem go76 : GoF Tryz.prog 76 := ⟨_, _, Tryz.func76, rfl, by kernel_rfl⟩
theorem go77 : GoF Tryz.prog 77 := ⟨_, _, Tryz.func77, rfl, by kernel_rfl⟩
theorem go117 : GoF Tryz.prog 117 := ⟨_, _, Tryz.func117, rfl, by kernel_rfl⟩
theorem go75 : GoF Tryz.prog 75 := ⟨_, _, Tryz.func75, rfl, by kernel_rfl⟩
theorem ref03_in {mn : Int} {a_mu : OA} {n_mu c_mu : Nat} {i : Int} {j : Int} (h_mn : I64 mn) (h_i : I64 i) (h_j : I64 j) : Calls Tryz.prog 76 #[.agg #[.int .i64 mn, .slice a_mu n_mu c_mu], .int .i64 i, .int .i64 j] w (Ret fun v w' =>  v = .bool (inM mn [i, j]) ∧ Ext w w') := by
 refine enter 25 Tryz.func76 rfl rfl rfl fun f0 ha => ?_
 have H := HI.start (M0 := (fun _ => False)) (w := w) (fun _ h => h.elim)
 have i0 : f0 0 = .agg #[iV mn, .slice a_mu n_mu c_mu] := ha 0 (by simp)
 have i1 : f0 1 = iV i := ha 1 (by simp)
 have i2 : f0 2 = iV j := ha 2 (by simp)
 refine sq (rg (k (bx H rfl i0 ?_)))
 intro bb0 w0 xt0 (H0 : HI (fun _ => False) w w0 [box bb0 #[iV mn, .slice a_mu n_mu c_mu] 68])
 refine k (asg (v := .bool false) rfl rfl (z (nx (sq (rg (k (mv rfl i1 (k (geq rfl rfl rfl rfl (k (mv (v := .bool (decide (0 ≤ i))) rfl rfl ?_)))))))))))
 rcases bE (decide (0 ≤ i)) with b0 | b0
 ·
  have p0 := dT b0
  refine k (gy rfl rfl rfl b0 (mv rfl i1 (k (gy rfl rfl rfl b0 (fa fl68_0 rfl rfl (k (gy rfl rfl rfl b0 (lx H0 0 rfl ty3 rfl rfl rfl (k (gy rfl rfl rfl b0 (lss rfl rfl rfl rfl (k (pickT rfl rfl rfl rfl b0 rfl (k (mv (v := .bool (decide (i < mn))) rfl rfl ?_)))))))))))))))
  rcases bE (decide (i < mn)) with b1 | b1
  ·
   have p1 := dT b1
   refine k (gy rfl rfl rfl b1 (mv rfl i2 (k (gy rfl rfl rfl b1 (geq rfl rfl rfl rfl (k (pickT rfl rfl rfl rfl b1 rfl (k (mv (v := .bool (decide (0 ≤ j))) rfl rfl ?_)))))))))
   rcases bE (decide (0 ≤ j)) with b2 | b2
   ·
    have p2 := dT b2
    refine k (gy rfl rfl rfl b2 (mv rfl i2 (k (gy rfl rfl rfl b2 (fa fl68_0 rfl rfl (k (gy rfl rfl rfl b2 (lx H0 0 rfl ty3 rfl rfl rfl (k (gy rfl rfl rfl b2 (lss rfl rfl rfl rfl (k (pickT rfl rfl rfl rfl b2 rfl (k (asg (v := .bool (decide (j < mn))) rfl rfl (z (nx (rt (r1 rfl rfl ?_)))))))))))))))))))
    exact ⟨congrArg Value.bool (by rw [inM_eq]; simp_all <;> omega), H0.below⟩
   have p2 := dF b2
   refine k (gn rfl rfl rfl b2 (k (gn rfl rfl rfl b2 (k (gn rfl rfl rfl b2 (k (gn rfl rfl rfl b2 (k (pickF rfl rfl rfl rfl b2 rfl (k (asg (v := .bool false) rfl rfl (z (nx (rt (r1 rfl rfl ?_)))))))))))))))
   exact ⟨congrArg Value.bool (by rw [inM_eq]; simp_all <;> omega), H0.below⟩
  have p1 := dF b1
  refine k (gn rfl rfl rfl b1 (k (gn rfl rfl rfl b1 (k (pickF rfl rfl rfl rfl b1 rfl (k (mv (v := .bool false) rfl rfl (k (gn rfl rfl rfl rfl (k (gn rfl rfl rfl rfl (k (gn rfl rfl rfl rfl (k (gn rfl rfl rfl rfl (k (pickF rfl rfl rfl rfl rfl rfl (k (asg (v := .bool false) rfl rfl (z (nx (rt (r1 rfl rfl ?_)))))))))))))))))))))))
  exact ⟨congrArg Value.bool (by rw [inM_eq]; simp_all <;> omega), H0.below⟩
 have p0 := dF b0
 refine k (gn rfl rfl rfl b0 (k (gn rfl rfl rfl b0 (k (gn rfl rfl rfl b0 (k (gn rfl rfl rfl b0 (k (pickF rfl rfl rfl rfl b0 rfl (k (mv (v := .bool false) rfl rfl (k (gn rfl rfl rfl rfl (k (gn rfl rfl rfl rfl (k (pickF rfl rfl rfl rfl rfl rfl (k (mv (v := .bool false) rfl rfl (k (gn rfl rfl rfl rfl (k (gn rfl rfl rfl rfl (k (gn rfl rfl rfl rfl (k (gn rfl rfl rfl rfl (k (pickF rfl rfl rfl rfl rfl rfl (k (asg (v := .bool false) rfl rfl (z (nx (rt (r1 rfl rfl ?_)))))))))))))))))))))))))))))))))))
 exact ⟨congrArg Value.bool (by rw [inM_eq]; simp_all <;> omega), H0.below⟩
theorem ref03_New {n : Int} (hM : ∀ b, M b → b < w.heap.size) (h_n : I64 n) : Calls Tryz.prog 78 #[.int .i64 n] w (Ret fun v w' => ∃ (a0 : OA) (c0 : Nat), v = .tuple #[.agg #[.int .i64 (newMN n), .slice a0 (newMR n).length c0], .int .i64 (newME n)] ∧ Ext w w' ∧ OwnsG M 115 w (newMR n) (.slice a0 (newMR n).length c0) w') := by
 refine enter 28 Tryz.func78 rfl rfl rfl fun f0 ha => ?_
 have H := HI.start (M0 := M) (w := w) hM
 have i0 : f0 0 = iV n := ha 0 (by simp)
 refine sq (rg (k (al H ty68 ?_)))
 intro bb0 w0 xt0 (H0 : HI M w w0 [box bb0 #[iV 0, .slice none 0 0] 68])
 refine k (asg (v := iV 0) rfl rfl (z (nx (sq (sq (rg (k (mv rfl i0 (k (lss rfl rfl rfl rfl (k (mv (v := .bool (decide (n < 0))) rfl rfl ?_))))))))))))
 rcases bE (decide (n < 0)) with b0 | b0
 ·
  have p0 := dT b0
  refine k (gn rfl rfl rfl b0 (k (gn rfl rfl rfl b0 (k (pickT rfl rfl rfl rfl b0 rfl (z (nx (cdT rfl rfl rfl (sq (rg (k (bd (v := .agg #[iV 0, .slice none 0 0]) rfl pb0 (fun _ => by kernel_rfl) (k (stX H0 0 rfl ty68 rfl rfl rfl rfl rfl rfl rfl ?_))))))))))))))
  intro w1 (H1 : HI M w w1 [box bb0 #[iV 0, .slice none 0 0] 68])
  refine k (asg (v := iV 1) rfl rfl (z (nx (rt (then_ret (rc2 H1 0 rfl ty68 rfl rfl rfl rfl rfl (by decide) ?_))))))
  have e0 : (0 : Int) = newMN n := by first | exact (newM_no (okN_no.2 (by omega))).1.symm | exact (newM_yes (okN_iff.2 (by omega))).1.symm
  have e1 : ([] : List (List (BitVec 64))) = newMR n := by first | exact (newM_no (okN_no.2 (by omega))).2.1.symm | (rw [(newM_yes (okN_iff.2 (by omega))).2.1, hs, show j = n.toNat from by omega]; rfl)
  have e2 : (1 : Int) = newME n := by first | exact (newM_no (okN_no.2 (by omega))).2.2.symm | exact (newM_yes (okN_iff.2 (by omega))).2.2.symm
  have ev_ := cg3 (fun (x_0 : Int) (x_1 : List (List (BitVec 64))) (x_2 : Int) => (.tuple #[.agg #[iV x_0, .slice none x_1.length 0], iV x_2] : Value)) e0 e1 e2
  exact ⟨none, 0, ev_, H1.below, (congrArg (fun (x_ : List (List (BitVec 64))) => OwnsG _ _ _ x_ (.slice none x_.length 0) _) e1).mp (ownsG_nil H1.below)⟩
 have p0 := dF b0
 refine k (gy rfl rfl rfl b0 (mv rfl i0 (k (gy rfl rfl rfl b0 (gtr rfl rfl rfl rfl (k (pickF rfl rfl rfl rfl b0 rfl (z (nx ?_)))))))))
 refine cd (b := decide (4096 < n)) rfl rfl (fun b1 => ?_) (fun b1 => ?_)
 ·
  have p1 := dT b1
  refine sq (rg (k (bd (v := .agg #[iV 0, .slice none 0 0]) rfl pb0 (fun _ => by kernel_rfl) (k (stX H0 0 rfl ty68 rfl rfl rfl rfl rfl rfl rfl ?_)))))
  intro w1 (H1 : HI M w w1 [box bb0 #[iV 0, .slice none 0 0] 68])
  refine k (asg (v := iV 1) rfl rfl (z (nx (rt (then_ret (rc2 H1 0 rfl ty68 rfl rfl rfl rfl rfl (by decide) ?_))))))
  have e0 : (0 : Int) = newMN n := by first | exact (newM_no (okN_no.2 (by omega))).1.symm | exact (newM_yes (okN_iff.2 (by omega))).1.symm
  have e1 : ([] : List (List (BitVec 64))) = newMR n := by first | exact (newM_no (okN_no.2 (by omega))).2.1.symm | (rw [(newM_yes (okN_iff.2 (by omega))).2.1, hs, show j = n.toNat from by omega]; rfl)
  have e2 : (1 : Int) = newME n := by first | exact (newM_no (okN_no.2 (by omega))).2.2.symm | exact (newM_yes (okN_iff.2 (by omega))).2.2.symm
  have ev_ := cg3 (fun (x_0 : Int) (x_1 : List (List (BitVec 64))) (x_2 : Int) => (.tuple #[.agg #[iV x_0, .slice none x_1.length 0], iV x_2] : Value)) e0 e1 e2
  exact ⟨none, 0, ev_, H1.below, (congrArg (fun (x_ : List (List (BitVec 64))) => OwnsG _ _ _ x_ (.slice none x_.length 0) _) e1).mp (ownsG_nil H1.below)⟩
 have p1 := dF b1
 refine sk (nx (sq (rg (k (mv rfl i0 (k (bd (v := .agg #[iV n, .slice none 0 0]) rfl (pbc rfl pb0) (fun _ => by kernel_rfl) (k (al H0 ty68 ?_)))))))))
 intro bb1 w1 xt1 (H1 : HI M w w1 [box bb1 #[iV 0, .slice none 0 0] 68, box bb0 #[iV 0, .slice none 0 0] 68])
 refine k (stX H1 0 rfl ty68 rfl rfl rfl rfl rfl rfl rfl ?_)
 intro w2 (H2 : HI M w w2 [box bb1 #[iV n, .slice none 0 0] 68, box bb0 #[iV 0, .slice none 0 0] 68])
 refine z (nx (sq (sq (rg (k (asg (v := iV 0) rfl rfl (z (nx (bk ?_)))))))))
 have H3 := H2.nil_ (List (BitVec 64)) 115
 refine lp (fun m f w' => ∃ (j : Nat) (xs : List (List (BitVec 64))) (a0 : OA) (c0 : Nat), m = n.toNat - j ∧ f 0 = iV n ∧ f 2 = pV bb0 0 ∧ f 4 = pV bb1 0 ∧ f 5 = iV (j : Int) ∧  HI M w w' [oL w 115 a0 xs c0, box bb1 #[iV n, sL a0 xs c0] 68, box bb0 #[iV 0, .slice none 0 0] 68] ∧ (j ≤ n.toNat) ∧ (xs = List.replicate j (newR n))) _ ⟨0, ([] : List (List (BitVec 64))), none, 0, rfl, i0, rfl, rfl, (ieq rfl (by first | rfl | omega | simp)), H3, (by first | omega | assumption | simp), (by rfl)⟩ ?_
 rintro _ f0 w3 ⟨j, xs, a0, c0, rfl, s0, s1, s2, s3, H4, hk, hs⟩
 refine sq (sq (rg (k (mv rfl s3 (k (mv rfl s0 (k (lss rfl rfl rfl rfl (z (nx ?_))))))))))
 refine cd (b := decide ((j : Int) < n)) rfl rfl (fun b2 => ?_) (fun b2 => ?_)
 ·
  have p2 := dT b2
  refine sk (nx (sq (bk ?_)))
  refine dr 5 [eV (pV bb1 1), eV (sL a0 xs c0), eV (iV n), fun v w' => ∃ (a1 : OA) (c1 : Nat), v = sL a1 (newR n) c1 ∧ RV (MS M [oL w 115 a0 xs c0, box bb1 #[iV n, sL a0 xs c0] 68, box bb0 #[iV 0, .slice none 0 0] 68]) w' (sL a1 (newR n) c1) (newR n), fun v w' => ∃ (a2 : OA) (c2 : Nat), v = sL a2 ([newR n] : List (List (BitVec 64))) c2 ∧ RV (MS M [oL w 115 a0 xs c0, box bb1 #[iV n, sL a0 xs c0] 68, box bb0 #[iV 0, .slice none 0 0] 68]) w' (sL a2 ([newR n] : List (List (BitVec 64))) c2) ([newR n] : List (List (BitVec 64)))] rfl (by kernel_rfl) ?_ ?_
  ·
   refine dc (fun _ _ hf0 _ _ => fa fl68_1 rfl ((hf0 4 rfl).trans s2) (d0 rfl rfl)) ?_
   refine dc (fun _ _ _ xt5 hp1 => lx (H4.ext xt5) 1 rfl ty66 rfl (hp1 0 rfl rfl) rfl (d0 rfl rfl)) ?_
   refine dc (fun _ _ hf2 _ _ => mv rfl ((hf2 0 rfl).trans s0) (d0 rfl rfl)) ?_
   refine ⟨fun _ => ⟨fun f4 w9 hf3 xt7 hp3 => ?_, by rintro _ _ _ x_ ⟨a1, c1, e_, rv1⟩; exact ⟨a1, c1, e_, rv1.lift (Up.ext x_)⟩⟩, ?_⟩
   ·
    have H12 := H4.ext xt7
    have s5 : f4 22 = iV n := hp3 2 rfl rfl
    have cc1 := ref02_New (n := n) (w := w9) H12.mb h_n (by omega)
    refine ca go108 rfl (ec s5 e0) cc1 ?_
    rintro _ w10 ⟨a3, c3, rfl, xt8, rv3⟩
    have rv4 := OwnsG.rv rv3 H12.mb
    exact ⟨_, rfl, xt8, ⟨a3, c3, rfl, rv4⟩⟩
   refine ⟨fun _ => ⟨fun f5 w11 hf4 xt9 hp4 => ?_, by rintro _ _ _ x_ ⟨a2, c2, e_, rv2⟩; exact ⟨a2, c2, e_, rv2.lift (Up.ext x_)⟩⟩, ?_⟩
   ·
    have H15 := H4.ext xt9
    obtain ⟨a4, c4, s6, rv5⟩ : ∃ (a4 : OA) (c4 : Nat), f5 23 = sL a4 (newR n) c4 ∧ RV (MS M [oL w 115 a0 xs c0, box bb1 #[iV n, sL a0 xs c0] 68, box bb0 #[iV 0, .slice none 0 0] 68]) w11 (sL a4 (newR n) c4) (newR n) := hp4 3 rfl rfl
    have H16 := H15.put (it := iL a4 (newR n) c4) rfl rv5
    refine bs (xs := ([newR n] : List (List (BitVec 64)))) (cells := #[sL a4 (newR n) c4]) (e := 115) H16 rfl (pbc s6 pb0) (fun _ => by kernel_rfl) ⟨[sL a4 (newR n) c4], [], rfl, ⟨_, rfl, RV.list.1 (H16.rv 0 rfl)⟩, rfl⟩ rfl (by decide) ?_
    intro g1 w12 xt10 (H17 : HI M w w12 [own w.heap.size 115 (.slice (some ⟨g1, 0, none⟩) 1 1) ([newR n] : List (List (BitVec 64))), iL a4 (newR n) c4, oL w 115 a0 xs c0, box bb1 #[iV n, sL a0 xs c0] 68, box bb0 #[iV 0, .slice none 0 0] 68])
    have H18 := H17.freeze 0 rfl
    exact ⟨_, rfl, xt10, ⟨(some ⟨g1, 0, none⟩), 1, rfl, (rv_drop rfl (rv_drop rfl (H18.rv 0 rfl)))⟩⟩
   exact DSteps.rest rfl _
  ·
   intro f6 w13 hf5 xt11 hp5
   have H19 := H4.ext xt11
   have s7 : f6 0 = iV n := (hf5 0 rfl).trans s0
   have s8 : f6 2 = pV bb0 0 := (hf5 2 rfl).trans s1
   have s9 : f6 4 = pV bb1 0 := (hf5 4 rfl).trans s2
   have s10 : f6 5 = iV (j : Int) := (hf5 5 rfl).trans s3
   have s11 : f6 21 = sL a0 xs c0 := hp5 1 rfl
   obtain ⟨a5, c5, s12, rv6⟩ : ∃ (a5 : OA) (c5 : Nat), f6 24 = sL a5 ([newR n] : List (List (BitVec 64))) c5 ∧ RV (MS M [oL w 115 a0 xs c0, box bb1 #[iV n, sL a0 xs c0] 68, box bb0 #[iV 0, .slice none 0 0] 68]) w13 (sL a5 ([newR n] : List (List (BitVec 64))) c5) ([newR n] : List (List (BitVec 64))) := hp5 4 rfl
   have H20 := H19.put (it := iL a5 ([newR n] : List (List (BitVec 64))) c5) rfl rv6
   refine k (apB H20 1 rfl rfl rfl rfl s11 s12 (H20.rv 0 rfl).src un66 ty115 rfl (by rw [hs]; simp; omega) rfl ?_)
   intro a6 c6 w14 (H21 : HI M w w14 [iL a5 ([newR n] : List (List (BitVec 64))) c5, oL w 115 a6 (xs ++ ([newR n] : List (List (BitVec 64)))) c6, box bb1 #[iV n, sL a0 xs c0] 68, box bb0 #[iV 0, .slice none 0 0] 68])
   refine k (fa fl68_1 rfl s9 (k (stX H21 2 rfl ty66 rfl rfl rfl rfl rfl rfl rfl ?_)))
   intro w15 (H22 : HI M w w15 [iL a5 ([newR n] : List (List (BitVec 64))) c5, oL w 115 a6 (xs ++ ([newR n] : List (List (BitVec 64)))) c6, box bb1 #[iV n, sL a6 (xs ++ ([newR n] : List (List (BitVec 64)))) c6] 68, box bb0 #[iV 0, .slice none 0 0] 68])
   refine z (inb_normal (nx (rg (k (mv rfl s10 (k (add rfl rfl rfl rfl (by unfold I64 at *; omega) (k (asg (v := iV ((j : Int) + 1)) rfl rfl (z ?_))))))))))
   have H23 : HI M w w15 [oL w 115 a6 (xs ++ ([newR n] : List (List (BitVec 64)))) c6, box bb1 #[iV n, sL a6 (xs ++ ([newR n] : List (List (BitVec 64)))) c6] 68, box bb0 #[iV 0, .slice none 0 0] 68] := H22.pickN [1, 2, 3] (by decide) rfl
   refine loopN _ ?_ ⟨(j + 1), (xs ++ ([newR n] : List (List (BitVec 64)))), a6, c6, rfl, s7, s8, s9, (ieq rfl (by first | rfl | omega)), H23, (by first | omega | assumption | simp), (by rw [hs, List.replicate_succ'])⟩
   omega
 have p2 := dF b2
 refine ex (then_exit (loop_exit (inb_here (nx (sq (rg (k (ldX H4 1 rfl ty68 rfl s2 (by decide) rfl (k (stX H4 2 rfl ty68 rfl rfl s1 rfl rfl rfl rfl ?_))))))))))
 intro w4 (H5 : HI M w w4 [oL w 115 a0 xs c0, box bb1 #[iV n, sL a0 xs c0] 68, box bb0 #[iV n, sL a0 xs c0] 68])
 refine k (asg (v := iV 0) rfl rfl (z (nx (rt (rc2 H5 2 rfl ty68 rfl rfl rfl s1 rfl (by decide) ?_)))))
 have e0 : (n : Int) = newMN n := by first | exact (newM_no (okN_no.2 (by omega))).1.symm | exact (newM_yes (okN_iff.2 (by omega))).1.symm
 have e1 : (xs : List (List (BitVec 64))) = newMR n := by first | exact (newM_no (okN_no.2 (by omega))).2.1.symm | (rw [(newM_yes (okN_iff.2 (by omega))).2.1, hs, show j = n.toNat from by omega]; rfl)
 have e2 : (0 : Int) = newME n := by first | exact (newM_no (okN_no.2 (by omega))).2.2.symm | exact (newM_yes (okN_iff.2 (by omega))).2.2.symm
 have ev_ := cg3 (fun (x_0 : Int) (x_1 : List (List (BitVec 64))) (x_2 : Int) => (.tuple #[.agg #[iV x_0, .slice a0 x_1.length c0], iV x_2] : Value)) e0 e1 e2
 exact ⟨a0, c0, ev_, H5.below, (congrArg (fun (x_ : List (List (BitVec 64))) => OwnsG _ _ _ x_ (.slice a0 x_.length c0) _) e1).mp (H5.ownsG_out 0 rfl)⟩
theorem ref03_Set {mn : Int} {a_mr : OA} {c_mr : Nat} {mr : List (List (BitVec 64))} {i : Int} {j : Int} (hM : ∀ b, M b → b < w.heap.size) (h_mn : I64 mn) (h_mr : RV M w (.slice a_mr mr.length c_mr) mr) (h_i : I64 i) (h_j : I64 j) (hsq_m : ((mr.length : Nat) : Int) = mn) (hrw_m : ∀ x ∈ mr, x.length ≤ 1000000000) (hl4_m : mn ≤ 4096) : Calls Tryz.prog 36 #[.agg #[.int .i64 mn, .slice a_mr mr.length c_mr], .int .i64 i, .int .i64 j] w (Ret fun v w' => ∃ (a0 : OA) (c0 : Nat), v = .tuple #[.agg #[.int .i64 (setMN mn i j), .slice a0 (setMR mn mr i j).length c0], .int .i64 (setME mn i j)] ∧ Ext w w' ∧ OwnsG M 115 w (setMR mn mr i j) (.slice a0 (setMR mn mr i j).length c0) w') := by
 refine enter 32 Tryz.func36 rfl rfl rfl fun f0 ha => ?_
 have H := HI.start (M0 := M) (w := w) hM
 have H0 := H.put (it := iL a_mr mr c_mr) rfl (by rw [MS_nil]; exact h_mr)
 have ln_mr := rv_len h_mr
 have i0 : f0 0 = .agg #[iV mn, sL a_mr mr c_mr] := ha 0 (by simp)
 have i1 : f0 1 = iV i := ha 1 (by simp)
 have i2 : f0 2 = iV j := ha 2 (by simp)
 refine sq (rg (k (bx H0 rfl i0 ?_)))
 intro bb0 w0 xt0 (H1 : HI M w w0 [box bb0 #[iV mn, sL a_mr mr c_mr] 68, iL a_mr mr c_mr])
 refine k (al H1 ty68 ?_)
 intro bb1 w1 xt1 (H2 : HI M w w1 [box bb1 #[iV 0, .slice none 0 0] 68, box bb0 #[iV mn, sL a_mr mr c_mr] 68, iL a_mr mr c_mr])
 refine k (asg (v := iV 0) rfl rfl (z (nx (sq (sq (rg (k (ldX H2 1 rfl ty68 rfl rfl (by decide) rfl (k (mv rfl i1 (k (mv rfl i2 (k ?_)))))))))))))
 have cc0 := ref03_in (mn := mn) (i := i) (j := j) (a_mu := a_mr) (n_mu := mr.length) (c_mu := c_mr) (w := w1) h_mn h_i h_j
 refine ca go76 rfl (ec rfl (ec rfl (ec rfl e0))) cc0 ?_
 rintro _ w2 ⟨rfl, xt2⟩
 have H3 := H2.ext xt2
 refine k (not_ rfl rfl (z (nx ?_)))
 refine cd (b := !(inM mn [i, j])) rfl rfl (fun b0 => ?_) (fun b0 => ?_)
 ·
  refine sq ?_
  have hq : inM mn [i, j] = false := by simpa using b0
  refine rg (k (bd (v := .agg #[iV 0, .slice none 0 0]) rfl pb0 (fun _ => by kernel_rfl) (k (stX H3 0 rfl ty68 rfl rfl rfl rfl rfl rfl rfl ?_))))
  intro w3 (H4 : HI M w w3 [box bb1 #[iV 0, .slice none 0 0] 68, box bb0 #[iV mn, sL a_mr mr c_mr] 68, iL a_mr mr c_mr])
  refine k (asg (v := iV 1) rfl rfl (z (nx (rt (then_ret (rc2 H4 0 rfl ty68 rfl rfl rfl rfl rfl (by decide) ?_))))))
  have e0 : (0 : Int) = setMN mn i j := by first | exact (set_no (rs := mr) hq).1.symm | exact (set_yes (rs := mr) hq).1.symm
  have e1 : ([] : List (List (BitVec 64))) = setMR mn mr i j := by first | exact (set_no (rs := mr) hq).2.1.symm | (rw [(set_yes (rs := mr) hq).2.1]; exact setM_of hx0)
  have e2 : (1 : Int) = setME mn i j := by first | exact (set_no (rs := mr) hq).2.2.symm | exact (set_yes (rs := mr) hq).2.2.symm
  have ev_ := cg3 (fun (x_0 : Int) (x_1 : List (List (BitVec 64))) (x_2 : Int) => (.tuple #[.agg #[iV x_0, .slice none x_1.length 0], iV x_2] : Value)) e0 e1 e2
  exact ⟨none, 0, ev_, H4.below, (congrArg (fun (x_ : List (List (BitVec 64))) => OwnsG _ _ _ x_ (.slice none x_.length 0) _) e1).mp (ownsG_nil H4.below)⟩
 refine sk (nx (sq ?_))
 have hq : inM mn [i, j] = true := by simpa using b0
 have hr := inM_two.1 hq
 refine rg (k (bs (xs := ([] : List (List (BitVec 64)))) (cells := #[]) (e := 115) H3 rfl pb0 (fun _ => by kernel_rfl) rfl rfl (by decide) ?_))
 intro g0 w3 xt3 H4
 refine k (fa fl68_1 rfl rfl (k (lx H4 2 rfl ty66 rfl rfl rfl (k (apB H4 0 rfl rfl rfl rfl rfl rfl (H4.rv 3 rfl).src un66 ty115 rfl (by simp; omega) rfl ?_)))))
 intro a0 c0 w4 (H5 : HI M w w4 [oL w 115 a0 mr c0, box bb1 #[iV 0, .slice none 0 0] 68, box bb0 #[iV mn, sL a_mr mr c_mr] 68, iL a_mr mr c_mr])
 refine k (asg (v := sL a0 mr c0) rfl rfl (z (nx (sq (rg (k (mv (v := sL a0 mr c0) rfl rfl (k (mv rfl i1 (k (mv (v := sL a0 mr c0) rfl rfl (k (mv rfl i1 (k (iaO (H5.at_ 0 rfl) rfl rfl rfl rfl (by omega) un66 ty115 ?_)))))))))))))))
 intro g1 x0 hv0 hx0 hA0
 refine k (ldL hA0 ty115 rfl rfl ?_)
 intro a1 c1 rv0
 have ln0 := rv_len rv0
 have H6 := H5.put (it := iL a1 x0 c1) rfl rv0
 refine k (mv rfl i2 (k ?_))
 have cc1 := ref02_Set (r := x0) (i := j) (w := w4) H6.mb (H6.rv 0 rfl) h_j (by exact hrw_m _ (mG_ hx0))
 refine ca go77 rfl (ec rfl (ec rfl e0)) cc1 ?_
 rintro _ w5 ⟨a2, c2, rfl, xt4, rv1⟩
 have H7 := H6.ownsG rv1
 refine k (iaO (H7.at_ 2 rfl) rfl rfl rfl rfl (by omega) un66 ty115 ?_)
 intro g2 x1 hv1 hx1 hA1
 refine k ?_
 have H8 := H7.freeze 0 rfl
 refine stO H8 2 rfl hv1 rfl (by omega) ty115 rfl rfl rfl rfl (H8.rv 0 rfl) ?_
 intro w6 (H9 : HI M w w6 [iL a2 (setR x0 j) c2, iL a1 x0 c1, own w.heap.size 115 (.slice a0 mr.length c0) (mr.set i.toNat (setR x0 j)), box bb1 #[iV 0, .slice none 0 0] 68, box bb0 #[iV mn, sL a_mr mr c_mr] 68, iL a_mr mr c_mr])
 refine z (nx (sq (rg (k (fa fl68_0 rfl rfl (k (lx H9 4 rfl ty3 rfl rfl rfl (k (mv (v := sL a0 mr c0) rfl rfl (k (bd (v := .agg #[iV mn, sL a0 mr c0]) rfl (pbc rfl (pbc rfl pb0)) (fun _ => by kernel_rfl) (k (stX H9 3 rfl ty68 rfl rfl rfl rfl rfl rfl rfl ?_)))))))))))))
 intro w7 (H10 : HI M w w7 [iL a2 (setR x0 j) c2, iL a1 x0 c1, own w.heap.size 115 (.slice a0 mr.length c0) (mr.set i.toNat (setR x0 j)), box bb1 #[iV mn, sL a0 mr c0] 68, box bb0 #[iV mn, sL a_mr mr c_mr] 68, iL a_mr mr c_mr])
 refine k (asg (v := iV 0) rfl rfl (z (nx (rt (rc2 H10 3 rfl ty68 rfl rfl rfl rfl rfl (by decide) ?_)))))
 have e0 : (mn : Int) = setMN mn i j := by first | exact (set_no (rs := mr) hq).1.symm | exact (set_yes (rs := mr) hq).1.symm
 have e1 : (mr.set i.toNat (setR x0 j) : List (List (BitVec 64))) = setMR mn mr i j := by first | exact (set_no (rs := mr) hq).2.1.symm | (rw [(set_yes (rs := mr) hq).2.1]; exact setM_of hx0)
 have l1 : mr.length = (setMR mn mr i j).length := by rw [← e1]; simp
 have e2 : (0 : Int) = setME mn i j := by first | exact (set_no (rs := mr) hq).2.2.symm | exact (set_yes (rs := mr) hq).2.2.symm
 have ev_ := cg3 (fun (x_0 : Int) (n_1 : Nat) (x_2 : Int) => (.tuple #[.agg #[iV x_0, .slice a0 n_1 c0], iV x_2] : Value)) e0 l1 e2
 exact ⟨a0, c0, ev_, H10.below, (congrArg (fun (n_ : Nat) => OwnsG _ _ _ (setMR mn mr i j) (.slice a0 n_ c0) _) l1).mp ((congrArg (fun (x_ : List (List (BitVec 64))) => OwnsG _ _ _ x_ (.slice a0 mr.length c0) _) e1).mp (H10.ownsG_out 2 rfl))⟩
theorem ref03_Has {mn : Int} {a_mr : OA} {c_mr : Nat} {mr : List (List (BitVec 64))} {i : Int} {j : Int} (hM : ∀ b, M b → b < w.heap.size) (h_mn : I64 mn) (h_mr : RV M w (.slice a_mr mr.length c_mr) mr) (h_i : I64 i) (h_j : I64 j) (hsq_m : ((mr.length : Nat) : Int) = mn) (hrw_m : ∀ x ∈ mr, x.length ≤ 1000000000) (hl4_m : mn ≤ 4096) : Calls Tryz.prog 75 #[.agg #[.int .i64 mn, .slice a_mr mr.length c_mr], .int .i64 i, .int .i64 j] w (Ret fun v w' =>  v = .bool (hasM mn mr i j) ∧ Ext w w') := by
 refine enter 20 Tryz.func75 rfl rfl rfl fun f0 ha => ?_
 have H := HI.start (M0 := M) (w := w) hM
 have H0 := H.put (it := iL a_mr mr c_mr) rfl (by rw [MS_nil]; exact h_mr)
 have ln_mr := rv_len h_mr
 have i0 : f0 0 = .agg #[iV mn, sL a_mr mr c_mr] := ha 0 (by simp)
 have i1 : f0 1 = iV i := ha 1 (by simp)
 have i2 : f0 2 = iV j := ha 2 (by simp)
 refine sq (rg (k (bx H0 rfl i0 ?_)))
 intro bb0 w0 xt0 (H1 : HI M w w0 [box bb0 #[iV mn, sL a_mr mr c_mr] 68, iL a_mr mr c_mr])
 refine k (asg (v := .bool false) rfl rfl (z (nx (sq (rg (k (ldX H1 0 rfl ty68 rfl rfl (by decide) rfl (k (mv rfl i1 (k (mv rfl i2 (k ?_))))))))))))
 have cc0 := ref03_in (mn := mn) (i := i) (j := j) (a_mu := a_mr) (n_mu := mr.length) (c_mu := c_mr) (w := w0) h_mn h_i h_j
 refine ca go76 rfl (ec rfl (ec rfl (ec rfl e0))) cc0 ?_
 rintro _ w1 ⟨rfl, xt1⟩
 have H2 := H1.ext xt1
 refine k (mv (v := .bool (inM mn [i, j])) rfl rfl ?_)
 rcases bE (inM mn [i, j]) with b0 | b0
 ·
  refine k (gy rfl rfl rfl b0 (fa fl68_1 rfl rfl (k (gy rfl rfl rfl b0 (lx H2 0 rfl ty66 rfl rfl rfl (k (gy rfl rfl rfl b0 (mv rfl i1 (k (gy rfl rfl rfl b0 (ia (H2.rv 1 rfl) rfl rfl rfl rfl (by have hr := inM_two.1 b0; omega) un66 ty115 ?_)))))))))))
  intro ad0 x0 hx0 hA0
  refine k (gy rfl rfl rfl b0 (ldL hA0.w ty115 rfl rfl ?_))
  intro a0 c0 rv0
  have ln0 := rv_len rv0
  have H3 := H2.put (it := iL a0 x0 c0) rfl rv0
  refine k (gy rfl rfl rfl b0 (mv rfl i2 (k (gy rfl rfl rfl b0 ?_))))
  have cc1 := ref02_Has (r := x0) (i := j) (w := w1) H3.mb (H3.rv 0 rfl) h_j (by first | omega | exact hrw_m _ (mG_ hx0))
  refine ca go106 rfl (ec rfl (ec rfl e0)) cc1 ?_
  rintro _ w2 ⟨rfl, xt2⟩
  have H4 := H3.ext xt2
  refine k (pickT rfl rfl rfl rfl b0 rfl (k (asg (v := .bool (hasR x0 j)) rfl rfl (z (nx (rt (r1 rfl rfl ?_)))))))
  exact ⟨congrArg Value.bool (by unfold hasM; first | (rw [rowAt_of hx0, b0]; rfl) | (rw [b0]; rfl)), H4.below⟩
 refine k (gn rfl rfl rfl b0 (k (gn rfl rfl rfl b0 (k (gn rfl rfl rfl b0 (k (gn rfl rfl rfl b0 (k (gn rfl rfl rfl b0 (k (gn rfl rfl rfl b0 (k (gn rfl rfl rfl b0 (k (pickF rfl rfl rfl rfl b0 rfl (k (asg (v := .bool false) rfl rfl (z (nx (rt (r1 rfl rfl ?_)))))))))))))))))))))
 exact ⟨congrArg Value.bool (by unfold hasM; first | (rw [rowAt_of hx0, b0]; rfl) | (rw [b0]; rfl)), H2.below⟩
theorem ref03_Or {an : Int} {a_ar : OA} {c_ar : Nat} {ar : List (List (BitVec 64))} {bn : Int} {a_br : OA} {c_br : Nat} {br : List (List (BitVec 64))} (hM : ∀ b, M b → b < w.heap.size) (h_an : I64 an) (h_ar : RV M w (.slice a_ar ar.length c_ar) ar) (h_bn : I64 bn) (h_br : RV M w (.slice a_br br.length c_br) br) (hsq_a : ((ar.length : Nat) : Int) = an) (hrw_a : ∀ x ∈ ar, x.length ≤ 1000000000) (hl4_a : an ≤ 4096) (hsq_b : ((br.length : Nat) : Int) = bn) (hrw_b : ∀ x ∈ br, x.length ≤ 1000000000) (hl4_b : bn ≤ 4096) : Calls Tryz.prog 98 #[.agg #[.int .i64 an, .slice a_ar ar.length c_ar], .agg #[.int .i64 bn, .slice a_br br.length c_br]] w (Ret fun v w' => ∃ (a0 : OA) (c0 : Nat), v = .tuple #[.agg #[.int .i64 (orMN an bn), .slice a0 (orMR an ar bn br).length c0], .int .i64 (orME an bn)] ∧ Ext w w' ∧ OwnsG M 115 w (orMR an ar bn br) (.slice a0 (orMR an ar bn br).length c0) w') := by
 refine enter 40 Tryz.func98 rfl rfl rfl fun f0 ha => ?_
 have H := HI.start (M0 := M) (w := w) hM
 have H0 := H.put (it := iL a_ar ar c_ar) rfl (by rw [MS_nil]; exact h_ar)
 have H1 := H0.put (it := iL a_br br c_br) rfl (by rw [MS_cons_none rfl, MS_nil]; exact h_br)
 have ln_ar := rv_len h_ar
 have ln_br := rv_len h_br
 have i0 : f0 0 = .agg #[iV an, sL a_ar ar c_ar] := ha 0 (by simp)
 have i1 : f0 1 = .agg #[iV bn, sL a_br br c_br] := ha 1 (by simp)
 refine sq (rg (k (bx H1 rfl i0 ?_)))
 intro bb0 w0 xt0 (H2 : HI M w w0 [box bb0 #[iV an, sL a_ar ar c_ar] 68, iL a_br br c_br, iL a_ar ar c_ar])
 refine k (bx H2 rfl i1 ?_)
 intro bb1 w1 xt1 (H3 : HI M w w1 [box bb1 #[iV bn, sL a_br br c_br] 68, box bb0 #[iV an, sL a_ar ar c_ar] 68, iL a_br br c_br, iL a_ar ar c_ar])
 refine k (al H3 ty68 ?_)
 intro bb2 w2 xt2 (H4 : HI M w w2 [box bb2 #[iV 0, .slice none 0 0] 68, box bb1 #[iV bn, sL a_br br c_br] 68, box bb0 #[iV an, sL a_ar ar c_ar] 68, iL a_br br c_br, iL a_ar ar c_ar])
 refine k (asg (v := iV 0) rfl rfl (z (nx (sq (sq (rg (k (fa fl68_0 rfl rfl (k (lx H4 2 rfl ty3 rfl rfl rfl (k (fa fl68_0 rfl rfl (k (lx H4 1 rfl ty3 rfl rfl rfl (k (neq rfl rfl rfl rfl (z (nx ?_))))))))))))))))))
 refine cd (b := !decide (an = bn)) rfl rfl (fun b0 => ?_) (fun b0 => ?_)
 ·
  have p0 := dF (nott b0)
  refine sq (rg (k (bd (v := .agg #[iV 0, .slice none 0 0]) rfl pb0 (fun _ => by kernel_rfl) (k (stX H4 0 rfl ty68 rfl rfl rfl rfl rfl rfl rfl ?_)))))
  intro w3 (H5 : HI M w w3 [box bb2 #[iV 0, .slice none 0 0] 68, box bb1 #[iV bn, sL a_br br c_br] 68, box bb0 #[iV an, sL a_ar ar c_ar] 68, iL a_br br c_br, iL a_ar ar c_ar])
  refine k (asg (v := iV 1) rfl rfl (z (nx (rt (then_ret (rc2 H5 0 rfl ty68 rfl rfl rfl rfl rfl (by decide) ?_))))))
  have e0 : (0 : Int) = orMN an bn := by first | exact (orM_no (ar := ar) (br := br) p0).1.symm | exact (orM_yes (ar := ar) (br := br) p0).1.symm
  have e1 : ([] : List (List (BitVec 64))) = orMR an ar bn br := by first | exact (orM_no p0).2.1.symm | (rw [(orM_yes p0).2.1, hs, show j = an.toNat from by omega])
  have e2 : (1 : Int) = orME an bn := by first | exact (orM_no (ar := ar) (br := br) p0).2.2.symm | exact (orM_yes (ar := ar) (br := br) p0).2.2.symm
  have ev_ := cg3 (fun (x_0 : Int) (x_1 : List (List (BitVec 64))) (x_2 : Int) => (.tuple #[.agg #[iV x_0, .slice none x_1.length 0], iV x_2] : Value)) e0 e1 e2
  exact ⟨none, 0, ev_, H5.below, (congrArg (fun (x_ : List (List (BitVec 64))) => OwnsG _ _ _ x_ (.slice none x_.length 0) _) e1).mp (ownsG_nil H5.below)⟩
 have p0 := dT (notf b0)
 refine sk (nx (sq (rg (k (fa fl68_0 rfl rfl (k (lx H4 2 rfl ty3 rfl rfl rfl (k (bd (v := .agg #[iV an, .slice none 0 0]) rfl (pbc rfl pb0) (fun _ => by kernel_rfl) (k (al H4 ty68 ?_)))))))))))
 intro bb3 w3 xt3 (H5 : HI M w w3 [box bb3 #[iV 0, .slice none 0 0] 68, box bb2 #[iV 0, .slice none 0 0] 68, box bb1 #[iV bn, sL a_br br c_br] 68, box bb0 #[iV an, sL a_ar ar c_ar] 68, iL a_br br c_br, iL a_ar ar c_ar])
 refine k (stX H5 0 rfl ty68 rfl rfl rfl rfl rfl rfl rfl ?_)
 intro w4 (H6 : HI M w w4 [box bb3 #[iV an, .slice none 0 0] 68, box bb2 #[iV 0, .slice none 0 0] 68, box bb1 #[iV bn, sL a_br br c_br] 68, box bb0 #[iV an, sL a_ar ar c_ar] 68, iL a_br br c_br, iL a_ar ar c_ar])
 refine z (nx (sq (sq (rg (k (asg (v := iV 0) rfl rfl (z (nx (bk ?_)))))))))
 have H7 := H6.nil_ (List (BitVec 64)) 115
 refine lp (fun m f w' => ∃ (j : Nat) (xs : List (List (BitVec 64))) (a0 : OA) (c0 : Nat), m = an.toNat - j ∧ f 2 = pV bb0 0 ∧ f 3 = pV bb1 0 ∧ f 4 = pV bb2 0 ∧ f 6 = pV bb3 0 ∧ f 7 = iV (j : Int) ∧  HI M w w' [oL w 115 a0 xs c0, box bb3 #[iV an, sL a0 xs c0] 68, box bb2 #[iV 0, .slice none 0 0] 68, box bb1 #[iV bn, sL a_br br c_br] 68, box bb0 #[iV an, sL a_ar ar c_ar] 68, iL a_br br c_br, iL a_ar ar c_ar] ∧ (j ≤ an.toNat) ∧ (xs = orRs ar br j)) _ ⟨0, ([] : List (List (BitVec 64))), none, 0, rfl, rfl, rfl, rfl, rfl, (ieq rfl (by first | rfl | omega | simp)), H7, (by first | omega | assumption | simp), (by rfl)⟩ ?_
 rintro _ f0 w5 ⟨j, xs, a0, c0, rfl, s0, s1, s2, s3, s4, H8, hk, hs⟩
 refine sq (sq (rg (k (mv rfl s4 (k (fa fl68_0 rfl s0 (k (lx H8 4 rfl ty3 rfl rfl rfl (k (lss rfl rfl rfl rfl (z (nx ?_))))))))))))
 refine cd (b := decide ((j : Int) < an)) rfl rfl (fun b1 => ?_) (fun b1 => ?_)
 ·
  have p1 := dT b1
  refine sk (nx (sq (bk ?_)))
  obtain ⟨x0, hx0⟩ : ∃ x, ar[(j : Int).toNat]? = some x := ⟨_, gE_ (by omega)⟩
  obtain ⟨x1, hx1⟩ : ∃ x, br[(j : Int).toNat]? = some x := ⟨_, gE_ (by omega)⟩
  refine dr 14 [eV (pV bb3 1), eV (sL a0 xs c0), eV (pV bb0 1), eV (sL a_ar ar c_ar), eV (iV (j : Int)), fun v w' => ∃ (ad0 : Addr), v = .pointer (some ad0) ∧ At (MS M [oL w 115 a0 xs c0, box bb3 #[iV an, sL a0 xs c0] 68, box bb2 #[iV 0, .slice none 0 0] 68, box bb1 #[iV bn, sL a_br br c_br] 68, box bb0 #[iV an, sL a_ar ar c_ar] 68, iL a_br br c_br, iL a_ar ar c_ar]) w' ad0 x0, fun v w' => ∃ (a1 : OA) (c1 : Nat), v = sL a1 x0 c1 ∧ RV (MS M [oL w 115 a0 xs c0, box bb3 #[iV an, sL a0 xs c0] 68, box bb2 #[iV 0, .slice none 0 0] 68, box bb1 #[iV bn, sL a_br br c_br] 68, box bb0 #[iV an, sL a_ar ar c_ar] 68, iL a_br br c_br, iL a_ar ar c_ar]) w' (sL a1 x0 c1) x0, eV (pV bb1 1), eV (sL a_br br c_br), eV (iV (j : Int)), fun v w' => ∃ (ad1 : Addr), v = .pointer (some ad1) ∧ At (MS M [oL w 115 a0 xs c0, box bb3 #[iV an, sL a0 xs c0] 68, box bb2 #[iV 0, .slice none 0 0] 68, box bb1 #[iV bn, sL a_br br c_br] 68, box bb0 #[iV an, sL a_ar ar c_ar] 68, iL a_br br c_br, iL a_ar ar c_ar]) w' ad1 x1, fun v w' => ∃ (a2 : OA) (c2 : Nat), v = sL a2 x1 c2 ∧ RV (MS M [oL w 115 a0 xs c0, box bb3 #[iV an, sL a0 xs c0] 68, box bb2 #[iV 0, .slice none 0 0] 68, box bb1 #[iV bn, sL a_br br c_br] 68, box bb0 #[iV an, sL a_ar ar c_ar] 68, iL a_br br c_br, iL a_ar ar c_ar]) w' (sL a2 x1 c2) x1, fun v w' => ∃ (a3 : OA) (c3 : Nat), v = sL a3 (orR x0 x1) c3 ∧ RV (MS M [oL w 115 a0 xs c0, box bb3 #[iV an, sL a0 xs c0] 68, box bb2 #[iV 0, .slice none 0 0] 68, box bb1 #[iV bn, sL a_br br c_br] 68, box bb0 #[iV an, sL a_ar ar c_ar] 68, iL a_br br c_br, iL a_ar ar c_ar]) w' (sL a3 (orR x0 x1) c3) (orR x0 x1), fun v w' => ∃ (a4 : OA) (c4 : Nat), v = sL a4 ([orR x0 x1] : List (List (BitVec 64))) c4 ∧ RV (MS M [oL w 115 a0 xs c0, box bb3 #[iV an, sL a0 xs c0] 68, box bb2 #[iV 0, .slice none 0 0] 68, box bb1 #[iV bn, sL a_br br c_br] 68, box bb0 #[iV an, sL a_ar ar c_ar] 68, iL a_br br c_br, iL a_ar ar c_ar]) w' (sL a4 ([orR x0 x1] : List (List (BitVec 64))) c4) ([orR x0 x1] : List (List (BitVec 64)))] rfl (by kernel_rfl) ?_ ?_
  ·
   refine dc (fun _ _ hf0 _ _ => fa fl68_1 rfl ((hf0 6 rfl).trans s3) (d0 rfl rfl)) ?_
   refine dc (fun _ _ _ xt7 hp1 => lx (H8.ext xt7) 1 rfl ty66 rfl (hp1 0 rfl rfl) rfl (d0 rfl rfl)) ?_
   refine dc (fun _ _ hf2 _ _ => fa fl68_1 rfl ((hf2 2 rfl).trans s0) (d0 rfl rfl)) ?_
   refine dc (fun _ _ _ xt9 hp3 => lx (H8.ext xt9) 4 rfl ty66 rfl (hp3 2 rfl rfl) rfl (d0 rfl rfl)) ?_
   refine dc (fun _ _ hf4 _ _ => mv rfl ((hf4 7 rfl).trans s4) (d0 rfl rfl)) ?_
   refine ⟨fun _ => ⟨fun f6 w13 hf5 xt11 hp5 => ?_, by rintro _ _ _ x_ ⟨ad0, e_, hA0⟩; exact ⟨ad0, e_, hA0.lift (Up.ext x_)⟩⟩, ?_⟩
   ·
    have H20 := H8.ext xt11
    have s7 : f6 26 = sL a_ar ar c_ar := hp5 3 rfl rfl
    have s8 : f6 27 = iV (j : Int) := hp5 4 rfl rfl
    refine ia (H20.rv 6 rfl) rfl rfl s7 s8 (by omega) un66 ty115 ?_
    intro ad2 x2 hx2 hA2
    obtain rfl : x0 = x2 := Option.some.inj (hx0.symm.trans hx2)
    exact ⟨_, rfl, Ext.refl _, ⟨ad2, rfl, hA2⟩⟩
   refine ⟨fun _ => ⟨fun f7 w14 hf6 xt12 hp6 => ?_, by rintro _ _ _ x_ ⟨a1, c1, e_, rv0⟩; exact ⟨a1, c1, e_, rv0.lift (Up.ext x_)⟩⟩, ?_⟩
   ·
    have H21 := H8.ext xt12
    obtain ⟨ad3, s9, hA3⟩ : ∃ (ad3 : Addr), f7 28 = .pointer (some ad3) ∧ At (MS M [oL w 115 a0 xs c0, box bb3 #[iV an, sL a0 xs c0] 68, box bb2 #[iV 0, .slice none 0 0] 68, box bb1 #[iV bn, sL a_br br c_br] 68, box bb0 #[iV an, sL a_ar ar c_ar] 68, iL a_br br c_br, iL a_ar ar c_ar]) w14 ad3 x0 := hp6 5 rfl rfl
    have H22 := H21.put (it := atI ad3 x0) rfl hA3
    refine ldL (H22.atv 0 rfl).w ty115 rfl s9 ?_
    intro a5 c5 rv5
    have ln2 := rv_len rv5
    exact ⟨_, rfl, Ext.refl _, ⟨a5, c5, rfl, (rv_drop rfl rv5)⟩⟩
   refine dc (fun _ _ hf7 _ _ => fa fl68_1 rfl ((hf7 3 rfl).trans s1) (d0 rfl rfl)) ?_
   refine dc (fun _ _ _ xt14 hp8 => lx (H8.ext xt14) 3 rfl ty66 rfl (hp8 7 rfl rfl) rfl (d0 rfl rfl)) ?_
   refine dc (fun _ _ hf9 _ _ => mv rfl ((hf9 7 rfl).trans s4) (d0 rfl rfl)) ?_
   refine ⟨fun _ => ⟨fun f11 w18 hf10 xt16 hp10 => ?_, by rintro _ _ _ x_ ⟨ad1, e_, hA1⟩; exact ⟨ad1, e_, hA1.lift (Up.ext x_)⟩⟩, ?_⟩
   ·
    have H27 := H8.ext xt16
    have s11 : f11 31 = sL a_br br c_br := hp10 8 rfl rfl
    have s12 : f11 32 = iV (j : Int) := hp10 9 rfl rfl
    refine ia (H27.rv 5 rfl) rfl rfl s11 s12 (by omega) un66 ty115 ?_
    intro ad4 x3 hx3 hA4
    obtain rfl : x1 = x3 := Option.some.inj (hx1.symm.trans hx3)
    exact ⟨_, rfl, Ext.refl _, ⟨ad4, rfl, hA4⟩⟩
   refine ⟨fun _ => ⟨fun f12 w19 hf11 xt17 hp11 => ?_, by rintro _ _ _ x_ ⟨a2, c2, e_, rv1⟩; exact ⟨a2, c2, e_, rv1.lift (Up.ext x_)⟩⟩, ?_⟩
   ·
    have H28 := H8.ext xt17
    obtain ⟨ad5, s13, hA5⟩ : ∃ (ad5 : Addr), f12 33 = .pointer (some ad5) ∧ At (MS M [oL w 115 a0 xs c0, box bb3 #[iV an, sL a0 xs c0] 68, box bb2 #[iV 0, .slice none 0 0] 68, box bb1 #[iV bn, sL a_br br c_br] 68, box bb0 #[iV an, sL a_ar ar c_ar] 68, iL a_br br c_br, iL a_ar ar c_ar]) w19 ad5 x1 := hp11 10 rfl rfl
    have H29 := H28.put (it := atI ad5 x1) rfl hA5
    refine ldL (H29.atv 0 rfl).w ty115 rfl s13 ?_
    intro a6 c6 rv6
    have ln3 := rv_len rv6
    exact ⟨_, rfl, Ext.refl _, ⟨a6, c6, rfl, (rv_drop rfl rv6)⟩⟩
   refine ⟨fun _ => ⟨fun f13 w20 hf12 xt18 hp12 => ?_, by rintro _ _ _ x_ ⟨a3, c3, e_, rv3⟩; exact ⟨a3, c3, e_, rv3.lift (Up.ext x_)⟩⟩, ?_⟩
   ·
    have H31 := H8.ext xt18
    obtain ⟨a7, c7, s14, rv7⟩ : ∃ (a7 : OA) (c7 : Nat), f13 29 = sL a7 x0 c7 ∧ RV (MS M [oL w 115 a0 xs c0, box bb3 #[iV an, sL a0 xs c0] 68, box bb2 #[iV 0, .slice none 0 0] 68, box bb1 #[iV bn, sL a_br br c_br] 68, box bb0 #[iV an, sL a_ar ar c_ar] 68, iL a_br br c_br, iL a_ar ar c_ar]) w20 (sL a7 x0 c7) x0 := hp12 6 rfl rfl
    have H32 := H31.put (it := iL a7 x0 c7) rfl rv7
    obtain ⟨a8, c8, s15, rv8⟩ : ∃ (a8 : OA) (c8 : Nat), f13 34 = sL a8 x1 c8 ∧ RV (MS M [oL w 115 a0 xs c0, box bb3 #[iV an, sL a0 xs c0] 68, box bb2 #[iV 0, .slice none 0 0] 68, box bb1 #[iV bn, sL a_br br c_br] 68, box bb0 #[iV an, sL a_ar ar c_ar] 68, iL a_br br c_br, iL a_ar ar c_ar]) w20 (sL a8 x1 c8) x1 := hp12 11 rfl rfl
    have H33 := H32.put (it := iL a8 x1 c8) rfl (by rw [MS_cons_none rfl]; exact rv8)
    have cc1 := ref02_Or (a := x0) (b := x1) (w := w20) H33.mb (H33.rv 1 rfl) (H33.rv 0 rfl) (by first | exact hrw_a _ (mG_ hx0) | exact hrw_b _ (mG_ hx1)) (by first | exact hrw_a _ (mG_ hx0) | exact hrw_b _ (mG_ hx1))
    refine ca go117 rfl (ec s14 (ec s15 e0)) cc1 ?_
    rintro _ w21 ⟨a9, c9, rfl, xt19, rv9⟩
    have rv10 := OwnsG.rv rv9 H33.mb
    exact ⟨_, rfl, xt19, ⟨a9, c9, rfl, (rv_drop rfl (rv_drop rfl rv10))⟩⟩
   refine ⟨fun _ => ⟨fun f14 w22 hf13 xt20 hp13 => ?_, by rintro _ _ _ x_ ⟨a4, c4, e_, rv4⟩; exact ⟨a4, c4, e_, rv4.lift (Up.ext x_)⟩⟩, ?_⟩
   ·
    have H36 := H8.ext xt20
    obtain ⟨a10, c10, s16, rv11⟩ : ∃ (a10 : OA) (c10 : Nat), f14 35 = sL a10 (orR x0 x1) c10 ∧ RV (MS M [oL w 115 a0 xs c0, box bb3 #[iV an, sL a0 xs c0] 68, box bb2 #[iV 0, .slice none 0 0] 68, box bb1 #[iV bn, sL a_br br c_br] 68, box bb0 #[iV an, sL a_ar ar c_ar] 68, iL a_br br c_br, iL a_ar ar c_ar]) w22 (sL a10 (orR x0 x1) c10) (orR x0 x1) := hp13 12 rfl rfl
    have H37 := H36.put (it := iL a10 (orR x0 x1) c10) rfl rv11
    refine bs (xs := ([orR x0 x1] : List (List (BitVec 64)))) (cells := #[sL a10 (orR x0 x1) c10]) (e := 115) H37 rfl (pbc s16 pb0) (fun _ => by kernel_rfl) ⟨[sL a10 (orR x0 x1) c10], [], rfl, ⟨_, rfl, RV.list.1 (H37.rv 0 rfl)⟩, rfl⟩ rfl (by decide) ?_
    intro g1 w23 xt21 (H38 : HI M w w23 [own w.heap.size 115 (.slice (some ⟨g1, 0, none⟩) 1 1) ([orR x0 x1] : List (List (BitVec 64))), iL a10 (orR x0 x1) c10, oL w 115 a0 xs c0, box bb3 #[iV an, sL a0 xs c0] 68, box bb2 #[iV 0, .slice none 0 0] 68, box bb1 #[iV bn, sL a_br br c_br] 68, box bb0 #[iV an, sL a_ar ar c_ar] 68, iL a_br br c_br, iL a_ar ar c_ar])
    have H39 := H38.freeze 0 rfl
    exact ⟨_, rfl, xt21, ⟨(some ⟨g1, 0, none⟩), 1, rfl, (rv_drop rfl (rv_drop rfl (H39.rv 0 rfl)))⟩⟩
   exact DSteps.rest rfl _
  ·
   intro f15 w24 hf14 xt22 hp14
   have H40 := H8.ext xt22
   have s17 : f15 2 = pV bb0 0 := (hf14 2 rfl).trans s0
   have s18 : f15 3 = pV bb1 0 := (hf14 3 rfl).trans s1
   have s19 : f15 4 = pV bb2 0 := (hf14 4 rfl).trans s2
   have s20 : f15 6 = pV bb3 0 := (hf14 6 rfl).trans s3
   have s21 : f15 7 = iV (j : Int) := (hf14 7 rfl).trans s4
   have s22 : f15 24 = sL a0 xs c0 := hp14 1 rfl
   obtain ⟨a11, c11, s23, rv12⟩ : ∃ (a11 : OA) (c11 : Nat), f15 36 = sL a11 ([orR x0 x1] : List (List (BitVec 64))) c11 ∧ RV (MS M [oL w 115 a0 xs c0, box bb3 #[iV an, sL a0 xs c0] 68, box bb2 #[iV 0, .slice none 0 0] 68, box bb1 #[iV bn, sL a_br br c_br] 68, box bb0 #[iV an, sL a_ar ar c_ar] 68, iL a_br br c_br, iL a_ar ar c_ar]) w24 (sL a11 ([orR x0 x1] : List (List (BitVec 64))) c11) ([orR x0 x1] : List (List (BitVec 64))) := hp14 13 rfl
   have H41 := H40.put (it := iL a11 ([orR x0 x1] : List (List (BitVec 64))) c11) rfl rv12
   refine k (apB H41 1 rfl rfl rfl rfl s22 s23 (H41.rv 0 rfl).src un66 ty115 rfl (by rw [hs, orRs_len]; simp only [lC_, lN_]; omega) rfl ?_)
   intro a12 c12 w25 (H42 : HI M w w25 [iL a11 ([orR x0 x1] : List (List (BitVec 64))) c11, oL w 115 a12 (xs ++ ([orR x0 x1] : List (List (BitVec 64)))) c12, box bb3 #[iV an, sL a0 xs c0] 68, box bb2 #[iV 0, .slice none 0 0] 68, box bb1 #[iV bn, sL a_br br c_br] 68, box bb0 #[iV an, sL a_ar ar c_ar] 68, iL a_br br c_br, iL a_ar ar c_ar])
   refine k (fa fl68_1 rfl s20 (k (stX H42 2 rfl ty66 rfl rfl rfl rfl rfl rfl rfl ?_)))
   intro w26 (H43 : HI M w w26 [iL a11 ([orR x0 x1] : List (List (BitVec 64))) c11, oL w 115 a12 (xs ++ ([orR x0 x1] : List (List (BitVec 64)))) c12, box bb3 #[iV an, sL a12 (xs ++ ([orR x0 x1] : List (List (BitVec 64)))) c12] 68, box bb2 #[iV 0, .slice none 0 0] 68, box bb1 #[iV bn, sL a_br br c_br] 68, box bb0 #[iV an, sL a_ar ar c_ar] 68, iL a_br br c_br, iL a_ar ar c_ar])
   refine z (inb_normal (nx (rg (k (mv rfl s21 (k (add rfl rfl rfl rfl (by unfold I64 at *; omega) (k (asg (v := iV ((j : Int) + 1)) rfl rfl (z ?_))))))))))
   have H44 : HI M w w26 [oL w 115 a12 (xs ++ ([orR x0 x1] : List (List (BitVec 64)))) c12, box bb3 #[iV an, sL a12 (xs ++ ([orR x0 x1] : List (List (BitVec 64)))) c12] 68, box bb2 #[iV 0, .slice none 0 0] 68, box bb1 #[iV bn, sL a_br br c_br] 68, box bb0 #[iV an, sL a_ar ar c_ar] 68, iL a_br br c_br, iL a_ar ar c_ar] := H43.pickN [1, 2, 3, 4, 5, 6, 7] (by decide) rfl
   refine loopN _ ?_ ⟨(j + 1), (xs ++ ([orR x0 x1] : List (List (BitVec 64)))), a12, c12, rfl, s17, s18, s19, s20, (ieq rfl (by first | rfl | omega)), H44, (by first | omega | assumption | simp), (by rw [hs, orRs_step, rowAt_of hx0, rowAt_of hx1])⟩
   omega
 have p1 := dF b1
 refine ex (then_exit (loop_exit (inb_here (nx (sq (rg (k (ldX H8 1 rfl ty68 rfl s3 (by decide) rfl (k (stX H8 2 rfl ty68 rfl rfl s2 rfl rfl rfl rfl ?_))))))))))
 intro w6 (H9 : HI M w w6 [oL w 115 a0 xs c0, box bb3 #[iV an, sL a0 xs c0] 68, box bb2 #[iV an, sL a0 xs c0] 68, box bb1 #[iV bn, sL a_br br c_br] 68, box bb0 #[iV an, sL a_ar ar c_ar] 68, iL a_br br c_br, iL a_ar ar c_ar])
 refine k (asg (v := iV 0) rfl rfl (z (nx (rt (rc2 H9 2 rfl ty68 rfl rfl rfl s2 rfl (by decide) ?_)))))
 have e0 : (an : Int) = orMN an bn := by first | exact (orM_no (ar := ar) (br := br) p0).1.symm | exact (orM_yes (ar := ar) (br := br) p0).1.symm
 have e1 : (xs : List (List (BitVec 64))) = orMR an ar bn br := by first | exact (orM_no p0).2.1.symm | (rw [(orM_yes p0).2.1, hs, show j = an.toNat from by omega])
 have e2 : (0 : Int) = orME an bn := by first | exact (orM_no (ar := ar) (br := br) p0).2.2.symm | exact (orM_yes (ar := ar) (br := br) p0).2.2.symm
 have ev_ := cg3 (fun (x_0 : Int) (x_1 : List (List (BitVec 64))) (x_2 : Int) => (.tuple #[.agg #[iV x_0, .slice a0 x_1.length c0], iV x_2] : Value)) e0 e1 e2
 exact ⟨a0, c0, ev_, H9.below, (congrArg (fun (x_ : List (List (BitVec 64))) => OwnsG _ _ _ x_ (.slice a0 x_.length c0) _) e1).mp (H9.ownsG_out 0 rfl)⟩
theorem un9 : Tryz.prog.underlying 9 = some (.string) := by kernel_rfl
theorem un22 : Tryz.prog.underlying 22 = some (.slice 45) := by kernel_rfl
theorem ty45 : TyF Tryz.prog 45 1 false 24 (.slice none 0 0) := ⟨by kernel_rfl, by kernel_rfl⟩
theorem un45 : Tryz.prog.underlying 45 = some (.slice 48) := by kernel_rfl
theorem ty48 : TyF Tryz.prog 48 3 true 32 (.agg #[.bool false, .string ⟨#[]⟩, .int .i64 0]) := ⟨by kernel_rfl, by kernel_rfl⟩
theorem go15 : GoF Tryz.prog 15 := ⟨_, _, Tryz.func15, rfl, by kernel_rfl⟩
theorem fl48_1 : FldF Tryz.prog 48 1 1 := ⟨_, _, Tryz.underlying48, rfl, rfl, by kernel_rfl⟩
theorem ty9 : TyF Tryz.prog 9 1 false 16 (.string ⟨#[]⟩) := ⟨by kernel_rfl, by kernel_rfl⟩
theorem go81 : GoF Tryz.prog 81 := ⟨_, _, Tryz.func81, rfl, by kernel_rfl⟩
theorem go14 : GoF Tryz.prog 14 := ⟨_, _, Tryz.func14, rfl, by kernel_rfl⟩
theorem un28 : Tryz.prog.underlying 28 = some (.slice 9) := by kernel_rfl
theorem ty32 : TyF Tryz.prog 32 3 true 72 (.agg #[.slice none 0 0, .slice none 0 0, .slice none 0 0]) := ⟨by kernel_rfl, by kernel_rfl⟩
theorem go39 : GoF Tryz.prog 39 := ⟨_, _, Tryz.func39, rfl, by kernel_rfl⟩
theorem fl32_0 : FldF Tryz.prog 32 0 0 := ⟨_, _, Tryz.underlying32, rfl, rfl, by kernel_rfl⟩
theorem ty28 : TyF Tryz.prog 28 1 false 24 (.slice none 0 0) := ⟨by kernel_rfl, by kernel_rfl⟩
theorem go40 : GoF Tryz.prog 40 := ⟨_, _, Tryz.func40, rfl, by kernel_rfl⟩
theorem fl48_0 : FldF Tryz.prog 48 0 0 := ⟨_, _, Tryz.underlying48, rfl, rfl, by kernel_rfl⟩
theorem fl48_2 : FldF Tryz.prog 48 2 2 := ⟨_, _, Tryz.underlying48, rfl, rfl, by kernel_rfl⟩
theorem fl85_4 : FldF Tryz.prog 85 4 4 := ⟨_, _, Tryz.underlying85, rfl, rfl, by kernel_rfl⟩
theorem go41 : GoF Tryz.prog 41 := ⟨_, _, Tryz.func41, rfl, by kernel_rfl⟩
theorem ref06_Name {s : ByteArray} (h_s : s.size ≤ maxLen) : Calls Tryz.prog 81 #[.string s] w (Ret fun v w' =>  v = .bool (nameS s) ∧ Ext w w') := by
 refine enter 28 Tryz.func81 rfl rfl rfl fun f0 ha => ?_
 have H := HI.start (M0 := (fun _ => False)) (w := w) (fun _ h => h.elim)
 have i0 : f0 0 = .string s := ha 0 (by simp)
 have hS_ : s.size ≤ 9223372036854775807 := by have h_ := h_s; simp only [maxLen] at h_; exact h_
 refine sq (rg (k (asg (v := .bool false) rfl rfl (z (nx (sq (sq (rg (k (asg (v := iV 0) rfl rfl (z (nx (bk ?_)))))))))))))
 refine lp (fun m f w' => ∃ (j : Nat), m = s.size - j ∧ f 0 = .string s ∧ f 3 = iV (j : Int) ∧  HI (fun _ => False) w w' [] ∧ (j ≤ s.size) ∧ ((s.data.toList.take j).all okC = true)) _ ⟨0, rfl, i0, (ieq rfl (by first | rfl | omega | simp)), H, (by first | omega | assumption | simp), (by rfl)⟩ ?_
 rintro _ f0 w0 ⟨j, rfl, s0, s1, H0, hk, hs⟩
 refine sq (sq (rg (k (mv rfl s1 (k (mv rfl s0 (k (lnT rfl rfl un9 (k (lss rfl rfl rfl rfl (z (nx ?_))))))))))))
 refine cd (b := decide ((j : Int) < (s.size : Int))) rfl rfl (fun b0 => ?_) (fun b0 => ?_)
 ·
  have p0 := dT b0
  refine sk (nx (sq (bk (sq (rg (k (mv rfl s0 (k (mv rfl s1 (k (ixS rfl rfl rfl rfl (by omega) un9 ?_)))))))))))
  intro c0 hc0
  refine k (lss rfl rfl rfl rfl (k (mv (v := .bool (decide ((c0.toNat : Int) < 97))) rfl rfl ?_)))
  rcases bE (decide ((c0.toNat : Int) < 97)) with b1 | b1
  ·
   have p1 := dT b1
   refine k (gn rfl rfl rfl b1 (k (gn rfl rfl rfl b1 (k (gn rfl rfl rfl b1 (k (gn rfl rfl rfl b1 (k (pickT rfl rfl rfl rfl b1 rfl (z (nx (cdT rfl rfl rfl (sq (rg (k (asg (v := .bool false) rfl rfl (z (nx (rt (inb_ret (then_ret (loop_ret (inb_ret (then_ret (r1 rfl rfl ?_)))))))))))))))))))))))))
   exact ⟨congrArg Value.bool (by first | exact name_no hc0 (okC_lo b1) | exact name_no hc0 (by have e_ := Option.some.inj (hc1.symm.trans hc0); subst e_; exact okC_hi b2) | (unfold nameS; rw [name_end hs (by omega)]; first | (rw [show decide (1 ≤ s.size) = true from decide_eq_true (by omega), Bool.true_and, Bool.true_and, decide_eq_decide]; omega) | (rw [show decide (1 ≤ s.size) = false from decide_eq_false (by omega)]; rfl))), H0.below⟩
  have p1 := dF b1
  refine k (gy rfl rfl rfl b1 (mv rfl s0 (k (gy rfl rfl rfl b1 (mv rfl s1 (k (gy rfl rfl rfl b1 (ixS rfl rfl rfl rfl (by omega) un9 ?_))))))))
  intro c1 hc1
  refine k (gy rfl rfl rfl b1 (gtr rfl rfl rfl rfl (k (pickF rfl rfl rfl rfl b1 rfl (z (nx ?_))))))
  refine cd (b := decide (122 < (c1.toNat : Int))) rfl rfl (fun b2 => ?_) (fun b2 => ?_)
  ·
   have p2 := dT b2
   refine sq (rg (k (asg (v := .bool false) rfl rfl (z (nx (rt (inb_ret (then_ret (loop_ret (inb_ret (then_ret (r1 rfl rfl ?_))))))))))))
   exact ⟨congrArg Value.bool (by first | exact name_no hc0 (okC_lo b1) | exact name_no hc0 (by have e_ := Option.some.inj (hc1.symm.trans hc0); subst e_; exact okC_hi b2) | (unfold nameS; rw [name_end hs (by omega)]; first | (rw [show decide (1 ≤ s.size) = true from decide_eq_true (by omega), Bool.true_and, Bool.true_and, decide_eq_decide]; omega) | (rw [show decide (1 ≤ s.size) = false from decide_eq_false (by omega)]; rfl))), H0.below⟩
  have p2 := dF b2
  refine sk (inb_normal (nx (rg (k (mv rfl s1 (k (add rfl rfl rfl rfl (by unfold I64 at *; omega) (k (asg (v := iV ((j : Int) + 1)) rfl rfl (z ?_))))))))))
  refine loopN _ ?_ ⟨(j + 1), rfl, s0, (ieq rfl (by first | rfl | omega)), H0, (by first | omega | assumption | simp), (by exact all_take (byte_at hc0) hs (by have e_ := Option.some.inj (hc1.symm.trans hc0); subst e_; exact okC_yes b1 b2))⟩
  omega
 have p0 := dF b0
 refine ex (then_exit (loop_exit (inb_here (nx (sq (rg (k (mv rfl s0 (k (lnT rfl rfl un9 (k (geq rfl rfl rfl rfl (k (mv (v := .bool (decide (1 ≤ (s.size : Int)))) rfl rfl ?_))))))))))))))
 rcases bE (decide (1 ≤ (s.size : Int))) with b1 | b1
 ·
  have p1 := dT b1
  refine k (gy rfl rfl rfl b1 (mv rfl s0 (k (gy rfl rfl rfl b1 (lnT rfl rfl un9 (k (gy rfl rfl rfl b1 (leq rfl rfl rfl rfl (k (pickT rfl rfl rfl rfl b1 rfl (k (asg (v := .bool (decide ((s.size : Int) ≤ 8))) rfl rfl (z (nx (rt (r1 rfl rfl ?_))))))))))))))))
  exact ⟨congrArg Value.bool (by first | exact name_no hc0 (okC_lo b1) | exact name_no hc0 (by have e_ := Option.some.inj (hc1.symm.trans hc0); subst e_; exact okC_hi b2) | (unfold nameS; rw [name_end hs (by omega)]; first | (rw [show decide (1 ≤ s.size) = true from decide_eq_true (by omega), Bool.true_and, Bool.true_and, decide_eq_decide]; omega) | (rw [show decide (1 ≤ s.size) = false from decide_eq_false (by omega)]; rfl))), H0.below⟩
 have p1 := dF b1
 refine k (gn rfl rfl rfl b1 (k (gn rfl rfl rfl b1 (k (gn rfl rfl rfl b1 (k (pickF rfl rfl rfl rfl b1 rfl (k (asg (v := .bool false) rfl rfl (z (nx (rt (r1 rfl rfl ?_)))))))))))))
 exact ⟨congrArg Value.bool (by first | exact name_no hc0 (okC_lo b1) | exact name_no hc0 (by have e_ := Option.some.inj (hc1.symm.trans hc0); subst e_; exact okC_hi b2) | (unfold nameS; rw [name_end hs (by omega)]; first | (rw [show decide (1 ≤ s.size) = true from decide_eq_true (by omega), Bool.true_and, Bool.true_and, decide_eq_decide]; omega) | (rw [show decide (1 ≤ s.size) = false from decide_eq_false (by omega)]; rfl))), H0.below⟩
theorem ref06_Flat {a_h : OA} {c_h : Nat} {h : List (List (Bool × ByteArray × Int))} (hM : ∀ b, M b → b < w.heap.size) (h_h : RV M w (.slice a_h h.length c_h) h) (hb_h : h.flatten.length ≤ 1048576) : Calls Tryz.prog 15 #[.slice a_h h.length c_h] w (Ret fun v w' => ∃ (a0 : OA) (c0 : Nat), v = .slice a0 h.flatten.length c0 ∧ Ext w w' ∧ RV M w' (.slice a0 h.flatten.length c0) h.flatten) := by
 refine enter 18 Tryz.func15 rfl rfl rfl fun f0 ha => ?_
 have H := HI.start (M0 := M) (w := w) hM
 have H0 := H.put (it := iL a_h h c_h) rfl (by rw [MS_nil]; exact h_h)
 have ln_h := rv_len h_h
 have i0 : f0 0 = sL a_h h c_h := ha 0 (by simp)
 refine sq (rg (k (asg (v := .slice none 0 0) rfl rfl (z (nx (sq (rg (k (asg (v := .slice none 0 0) rfl rfl (z (nx (sq (sq (rg (k (asg (v := iV 0) rfl rfl (z (nx (bk ?_)))))))))))))))))))
 have H1 := H0.nil_ (Bool × ByteArray × Int) 48
 refine lp (fun m f w' => ∃ (j : Nat) (xs : List (Bool × ByteArray × Int)) (a0 : OA) (c0 : Nat), m = h.length - j ∧ f 0 = sL a_h h c_h ∧ f 3 = sL a0 xs c0 ∧ f 4 = iV (j : Int) ∧  HI M w w' [oL w 48 a0 xs c0, iL a_h h c_h] ∧ (j ≤ h.length) ∧ (xs = (h.take j).flatten)) _ ⟨0, ([] : List (Bool × ByteArray × Int)), none, 0, rfl, i0, rfl, (ieq rfl (by first | rfl | omega | simp)), H1, (by first | omega | assumption | simp), (by rfl)⟩ ?_
 rintro _ f0 w0 ⟨j, xs, a0, c0, rfl, s0, s1, s2, H2, hk, hs⟩
 refine sq (sq (rg (k (mv rfl s2 (k (mv rfl s0 (k (lnS rfl rfl un22 (k (lss rfl rfl rfl rfl (z (nx ?_))))))))))))
 refine cd (b := decide ((j : Int) < (h.length : Int))) rfl rfl (fun b0 => ?_) (fun b0 => ?_)
 ·
  have p0 := dT b0
  refine sk (nx (sq (bk (rg (k (mv rfl s1 (k (mv rfl s0 (k (mv rfl s2 (k (ia (H2.rv 1 rfl) rfl rfl rfl rfl (by omega) un22 ty45 ?_))))))))))))
  intro ad0 x0 hx0 hA0
  refine k (ldL hA0.w ty45 rfl rfl ?_)
  intro a1 c1 rv0
  have ln0 := rv_len rv0
  have H3 := H2.put (it := iL a1 x0 c1) rfl rv0
  refine k (apB H3 1 rfl rfl rfl rfl rfl rfl (H3.rv 0 rfl).src un45 ty48 rfl (by have h_ := flat_len hx0; rw [hs]; omega) rfl ?_)
  intro a2 c2 w1 (H4 : HI M w w1 [iL a1 x0 c1, oL w 48 a2 (xs ++ x0) c2, iL a_h h c_h])
  refine k (asg (v := sL a2 (xs ++ x0) c2) rfl rfl (z (inb_normal (nx (rg (k (mv rfl s2 (k (add rfl rfl rfl rfl (by unfold I64 at *; omega) (k (asg (v := iV ((j : Int) + 1)) rfl rfl (z ?_))))))))))))
  have H5 : HI M w w1 [oL w 48 a2 (xs ++ x0) c2, iL a_h h c_h] := H4.pickN [1, 2] (by decide) rfl
  refine loopN _ ?_ ⟨(j + 1), (xs ++ x0), a2, c2, rfl, s0, rfl, (ieq rfl (by first | rfl | omega)), H5, (by first | omega | assumption | simp), (by rw [hs, flat_step hx0])⟩
  omega
 have p0 := dF b0
 refine ex (then_exit (loop_exit (inb_here (nx (sq (rg (k (mv rfl s1 (k (asg (v := sL a0 xs c0) rfl rfl (z (nx (rt (r1 rfl rfl ?_))))))))))))))
 have e0 : (xs : List (Bool × ByteArray × Int)) = h.flatten := by rw [hs, take_end (by omega)]
 have ev_ := cg1 (fun (x_0 : List (Bool × ByteArray × Int)) => (.slice a0 x_0.length c0 : Value)) e0
 exact ⟨a0, c0, ev_, H2.below, (congrArg (fun (x_ : List (Bool × ByteArray × Int)) => RV _ _ (.slice a0 x_.length c0) x_) e0).mp (H2.outO 0 rfl)⟩
theorem ref06_Count {a_h : OA} {c_h : Nat} {h : List (List (Bool × ByteArray × Int))} (hM : ∀ b, M b → b < w.heap.size) (h_h : RV M w (.slice a_h h.length c_h) h) (hb_h : h.flatten.length ≤ 1048576) : Calls Tryz.prog 14 #[.slice a_h h.length c_h] w (Ret fun v w' =>  v = .int .i64 (h.flatten.length : Int) ∧ Ext w w') := by
 refine enter 6 Tryz.func14 rfl rfl rfl fun f0 ha => ?_
 have H := HI.start (M0 := M) (w := w) hM
 have H0 := H.put (it := iL a_h h c_h) rfl (by rw [MS_nil]; exact h_h)
 have ln_h := rv_len h_h
 have i0 : f0 0 = sL a_h h c_h := ha 0 (by simp)
 refine sq (rg (k (asg (v := iV 0) rfl rfl (z (nx (sq (rg (k (mv rfl i0 (k ?_))))))))))
 have cc0 := ref06_Flat (h := h) (w := w) H0.mb (H0.rv 0 rfl) (by exact hb_h)
 refine ca go15 rfl (ec rfl e0) cc0 ?_
 rintro _ w0 ⟨a0, c0, rfl, xt0, rv0⟩
 have H1 := H0.ext xt0
 have H2 := H1.put (it := iL a0 h.flatten c0) rfl rv0
 refine k (lnS rfl rfl un45 (k (asg (v := iV (h.flatten.length : Int)) rfl rfl (z (nx (rt (r1 rfl rfl ?_)))))))
 exact ⟨rfl, H2.below⟩
theorem ref06_Right {a_h : OA} {c_h : Nat} {h : List (List (Bool × ByteArray × Int))} (hM : ∀ b, M b → b < w.heap.size) (h_h : RV M w (.slice a_h h.length c_h) h) (hb_h : h.flatten.length ≤ 1048576) : Calls Tryz.prog 39 #[.slice a_h h.length c_h] w (Ret fun v w' =>  v = .bool (rightH h) ∧ Ext w w') := by
 refine enter 23 Tryz.func39 rfl rfl rfl fun f0 ha => ?_
 have H := HI.start (M0 := M) (w := w) hM
 have H0 := H.put (it := iL a_h h c_h) rfl (by rw [MS_nil]; exact h_h)
 have ln_h := rv_len h_h
 have i0 : f0 0 = sL a_h h c_h := ha 0 (by simp)
 refine sq (rg (k (asg (v := .bool false) rfl rfl (z (nx (sq (rg (k (mv rfl i0 (k ?_))))))))))
 have cc0 := ref06_Flat (h := h) (w := w) H0.mb (H0.rv 0 rfl) (by exact hb_h)
 refine ca go15 rfl (ec rfl e0) cc0 ?_
 rintro _ w0 ⟨a0, c0, rfl, xt0, rv0⟩
 have H1 := H0.ext xt0
 have H2 := H1.put (it := iL a0 h.flatten c0) rfl rv0
 refine k (asg (v := sL a0 h.flatten c0) rfl rfl (z (nx (sq (sq (rg (k (asg (v := iV 0) rfl rfl (z (nx (bk ?_)))))))))))
 refine lp (fun m f w' => ∃ (j : Nat), m = h.flatten.length - j ∧ f 3 = sL a0 h.flatten c0 ∧ f 4 = iV (j : Int) ∧  HI M w w' [iL a0 h.flatten c0, iL a_h h c_h] ∧ (j ≤ h.flatten.length) ∧ ((h.flatten.take j).all opName = true)) _ ⟨0, rfl, rfl, (ieq rfl (by first | rfl | omega | simp)), H2, (by first | omega | assumption | simp), (by rfl)⟩ ?_
 rintro _ f0 w1 ⟨j, rfl, s0, s1, H3, hk, hs⟩
 refine sq (sq (rg (k (mv rfl s1 (k (mv rfl s0 (k (lnS rfl rfl un45 (k (lss rfl rfl rfl rfl (z (nx ?_))))))))))))
 refine cd (b := decide ((j : Int) < (h.flatten.length : Int))) rfl rfl (fun b0 => ?_) (fun b0 => ?_)
 ·
  have p0 := dT b0
  refine sk (nx (sq (bk (sq (rg (k (mv rfl s0 (k (mv rfl s1 (k (ia (H3.rv 0 rfl) rfl rfl rfl rfl (by omega) un45 ty48 ?_)))))))))))
  intro ad0 x0 hx0 hA0
  refine k (fa fl48_1 rfl rfl (k (ldS ((hA0).s1).fst.w ty9 rfl rfl ?_)))
  intro rv1
  refine k ?_
  have cc1 := ref06_Name (s := x0.2.1) (w := w1) (by assumption)
  refine ca go81 rfl (ec rfl e0) cc1 ?_
  rintro _ w2 ⟨rfl, xt1⟩
  have H4 := H3.ext xt1
  refine k (not_ rfl rfl (z (nx ?_)))
  refine cd (b := !(nameS x0.2.1)) rfl rfl (fun b1 => ?_) (fun b1 => ?_)
  ·
   refine sq (rg (k (asg (v := .bool false) rfl rfl (z (nx (rt (inb_ret (then_ret (loop_ret (inb_ret (then_ret (r1 rfl rfl ?_))))))))))))
   exact ⟨congrArg Value.bool (by first | exact right_no hx0 (by simpa using b1) | exact right_end hs (by omega)), H4.below⟩
  refine sk (inb_normal (nx (rg (k (mv rfl s1 (k (add rfl rfl rfl rfl (by unfold I64 at *; omega) (k (asg (v := iV ((j : Int) + 1)) rfl rfl (z ?_))))))))))
  refine loopN _ ?_ ⟨(j + 1), rfl, s0, (ieq rfl (by first | rfl | omega)), H4, (by first | omega | assumption | simp), (by exact all_take hx0 hs (by simpa [opName] using b1))⟩
  omega
 have p0 := dF b0
 refine ex (then_exit (loop_exit (inb_here (nx (sq (rg (k (mv rfl s0 (k (lnS rfl rfl un45 (k (leq rfl rfl rfl rfl (k (asg (v := .bool (decide ((h.flatten.length : Int) ≤ 4096))) rfl rfl (z (nx (rt (r1 rfl rfl ?_))))))))))))))))))
 exact ⟨congrArg Value.bool (by first | exact right_no hx0 (by simpa using b1) | exact right_end hs (by omega)), H3.below⟩
theorem ref06_Small {a_h : OA} {c_h : Nat} {h : List (List (Bool × ByteArray × Int))} {m : Int} (hM : ∀ b, M b → b < w.heap.size) (h_h : RV M w (.slice a_h h.length c_h) h) (h_m : I64 m) (hb_h : h.flatten.length ≤ 1048576) : Calls Tryz.prog 5 #[.slice a_h h.length c_h, .int .i64 m] w (Ret fun v w' =>  v = .bool (smallH h m) ∧ Ext w w') := by
 refine enter 32 Tryz.func5 rfl rfl rfl fun f0 ha => ?_
 have H := HI.start (M0 := M) (w := w) hM
 have H0 := H.put (it := iL a_h h c_h) rfl (by rw [MS_nil]; exact h_h)
 have ln_h := rv_len h_h
 have i0 : f0 0 = sL a_h h c_h := ha 0 (by simp)
 have i1 : f0 1 = iV m := ha 1 (by simp)
 refine sq (rg (k (asg (v := .bool false) rfl rfl (z (nx (sq (sq (rg (k (mv rfl i0 (k (lnS rfl rfl un22 (k (mv rfl i1 (k (gtr rfl rfl rfl rfl (k (mv (v := .bool (decide (m < (h.length : Int)))) rfl rfl ?_))))))))))))))))))
 rcases bE (decide (m < (h.length : Int))) with b0 | b0
 ·
  have p0 := dT b0
  refine k (gn rfl rfl rfl b0 (k (gn rfl rfl rfl b0 (k (gn rfl rfl rfl b0 (k (gn rfl rfl rfl b0 (k (pickT rfl rfl rfl rfl b0 rfl (z (nx (cdT rfl rfl rfl (sq (rg (k (asg (v := .bool false) rfl rfl (z (nx (rt (then_ret (r1 rfl rfl ?_)))))))))))))))))))))
  exact ⟨congrArg Value.bool (by first | exact small_no1 p0 | exact small_no2 p1 | exact small_no3 hx0 (by simpa using b3) | exact small_end p0 p1 hs (by omega)), H0.below⟩
 have p0 := dF b0
 refine k (gy rfl rfl rfl b0 (mv rfl i0 (k (gy rfl rfl rfl b0 ?_))))
 have cc0 := ref06_Count (h := h) (w := w) H0.mb (H0.rv 0 rfl) (by exact hb_h)
 refine ca go14 rfl (ec rfl e0) cc0 ?_
 rintro _ w0 ⟨rfl, xt0⟩
 have H1 := H0.ext xt0
 refine k (gy rfl rfl rfl b0 (mv rfl i1 (k (gy rfl rfl rfl b0 (gtr rfl rfl rfl rfl (k (pickF rfl rfl rfl rfl b0 rfl (z (nx ?_)))))))))
 refine cd (b := decide (m < (h.flatten.length : Int))) rfl rfl (fun b1 => ?_) (fun b1 => ?_)
 ·
  have p1 := dT b1
  refine sq (rg (k (asg (v := .bool false) rfl rfl (z (nx (rt (then_ret (r1 rfl rfl ?_))))))))
  exact ⟨congrArg Value.bool (by first | exact small_no1 p0 | exact small_no2 p1 | exact small_no3 hx0 (by simpa using b3) | exact small_end p0 p1 hs (by omega)), H1.below⟩
 have p1 := dF b1
 refine sk (nx (sq (rg (k (mv rfl i0 (k ?_))))))
 have cc1 := ref06_Flat (h := h) (w := w0) H1.mb (H1.rv 0 rfl) (by exact hb_h)
 refine ca go15 rfl (ec rfl e0) cc1 ?_
 rintro _ w1 ⟨a0, c0, rfl, xt1, rv0⟩
 have H2 := H1.ext xt1
 have H3 := H2.put (it := iL a0 h.flatten c0) rfl rv0
 refine k (asg (v := sL a0 h.flatten c0) rfl rfl (z (nx (sq (sq (rg (k (asg (v := iV 0) rfl rfl (z (nx (bk ?_)))))))))))
 refine lp (fun m f w' => ∃ (j : Nat), m = h.flatten.length - j ∧ f 5 = sL a0 h.flatten c0 ∧ f 6 = iV (j : Int) ∧  HI M w w' [iL a0 h.flatten c0, iL a_h h c_h] ∧ (j ≤ h.flatten.length) ∧ ((h.flatten.take j).all opShort = true)) _ ⟨0, rfl, rfl, (ieq rfl (by first | rfl | omega | simp)), H3, (by first | omega | assumption | simp), (by rfl)⟩ ?_
 rintro _ f0 w2 ⟨j, rfl, s0, s1, H4, hk, hs⟩
 refine sq (sq (rg (k (mv rfl s1 (k (mv rfl s0 (k (lnS rfl rfl un45 (k (lss rfl rfl rfl rfl (z (nx ?_))))))))))))
 refine cd (b := decide ((j : Int) < (h.flatten.length : Int))) rfl rfl (fun b2 => ?_) (fun b2 => ?_)
 ·
  have p2 := dT b2
  refine sk (nx (sq (bk (sq (rg (k (mv rfl s0 (k (mv rfl s1 (k (ia (H4.rv 0 rfl) rfl rfl rfl rfl (by omega) un45 ty48 ?_)))))))))))
  intro ad0 x0 hx0 hA0
  refine k (fa fl48_1 rfl rfl (k (ldS ((hA0).s1).fst.w ty9 rfl rfl ?_)))
  intro rv1
  refine k (lnT rfl rfl un9 (k (gtr rfl rfl rfl rfl (z (nx ?_)))))
  refine cd (b := decide (20 < (x0.2.1.size : Int))) rfl rfl (fun b3 => ?_) (fun b3 => ?_)
  ·
   have p3 := dT b3
   refine sq (rg (k (asg (v := .bool false) rfl rfl (z (nx (rt (inb_ret (then_ret (loop_ret (inb_ret (then_ret (r1 rfl rfl ?_))))))))))))
   exact ⟨congrArg Value.bool (by first | exact small_no1 p0 | exact small_no2 p1 | exact small_no3 hx0 (by simpa using b3) | exact small_end p0 p1 hs (by omega)), H4.below⟩
  have p3 := dF b3
  refine sk (inb_normal (nx (rg (k (mv rfl s1 (k (add rfl rfl rfl rfl (by unfold I64 at *; omega) (k (asg (v := iV ((j : Int) + 1)) rfl rfl (z ?_))))))))))
  refine loopN _ ?_ ⟨(j + 1), rfl, s0, (ieq rfl (by first | rfl | omega)), H4, (by first | omega | assumption | simp), (by exact all_take hx0 hs (decide_eq_true (by omega)))⟩
  omega
 have p2 := dF b2
 refine ex (then_exit (loop_exit (inb_here (nx (sq (rg (k (asg (v := .bool true) rfl rfl (z (nx (rt (r1 rfl rfl ?_))))))))))))
 exact ⟨congrArg Value.bool (by first | exact small_no1 p0 | exact small_no2 p1 | exact small_no3 hx0 (by simpa using b3) | exact small_end p0 p1 hs (by omega)), H4.below⟩
theorem ref09_find {a_l : OA} {c_l : Nat} {l : List ByteArray} {s : ByteArray} (hM : ∀ b, M b → b < w.heap.size) (h_l : RV M w (.slice a_l l.length c_l) l) (h_s : s.size ≤ maxLen) : Calls Tryz.prog 40 #[.slice a_l l.length c_l, .string s] w (Ret fun v w' =>  v = .int .i64 (findS l s) ∧ Ext w w') := by
 refine enter 19 Tryz.func40 rfl rfl rfl fun f0 ha => ?_
 have H := HI.start (M0 := M) (w := w) hM
 have H0 := H.put (it := iL a_l l c_l) rfl (by rw [MS_nil]; exact h_l)
 have ln_l := rv_len h_l
 have i0 : f0 0 = sL a_l l c_l := ha 0 (by simp)
 have i1 : f0 1 = .string s := ha 1 (by simp)
 refine sq (rg (k (asg (v := iV 0) rfl rfl (z (nx (sq (sq (rg (k (asg (v := iV 0) rfl rfl (z (nx (bk ?_)))))))))))))
 refine lp (fun m f w' => ∃ (j : Nat), m = l.length - j ∧ f 0 = sL a_l l c_l ∧ f 1 = .string s ∧ f 5 = iV (j : Int) ∧  HI M w w' [iL a_l l c_l] ∧ (j ≤ l.length) ∧ ((l.take j).any (isS s) = false)) _ ⟨0, rfl, i0, i1, (ieq rfl (by first | rfl | omega | simp)), H0, (by first | omega | assumption | simp), (by simp)⟩ ?_
 rintro _ f0 w0 ⟨j, rfl, s0, s1, s2, H1, hk, hs⟩
 refine sq (sq (rg (k (mv rfl s2 (k (mv rfl s0 (k (lnS rfl rfl un28 (k (lss rfl rfl rfl rfl (z (nx ?_))))))))))))
 refine cd (b := decide ((j : Int) < (l.length : Int))) rfl rfl (fun b0 => ?_) (fun b0 => ?_)
 ·
  have p0 := dT b0
  refine sk (nx (sq (bk (sq (rg (k (mv rfl s0 (k (mv rfl s2 (k (ia (H1.rv 0 rfl) rfl rfl rfl rfl (by omega) un28 ty9 ?_)))))))))))
  intro ad0 x0 hx0 hA0
  refine k (ldS hA0.w ty9 rfl rfl ?_)
  intro rv0
  refine k (mv rfl s1 (k (eqS rfl rfl rfl rfl (z (nx ?_)))))
  refine cd (b := decide (x0 = s)) rfl rfl (fun b1 => ?_) (fun b1 => ?_)
  ·
   have p1 := dT b1
   refine sq (rg (k (mv rfl s2 (k (asg (v := iV (j : Int)) rfl rfl (z (nx (rt (inb_ret (then_ret (loop_ret (inb_ret (then_ret (r1 rfl rfl ?_))))))))))))))
   exact ⟨congrArg (Value.int .i64) (by first | exact idxF_hit hx0 hs b1 | exact idxF_miss hs (by omega)), H1.below⟩
  have p1 := dF b1
  refine sk (inb_normal (nx (rg (k (mv rfl s2 (k (add rfl rfl rfl rfl (by unfold I64 at *; omega) (k (asg (v := iV ((j : Int) + 1)) rfl rfl (z ?_))))))))))
  refine loopN _ ?_ ⟨(j + 1), rfl, s0, s1, (ieq rfl (by first | rfl | omega)), H1, (by first | omega | assumption | simp), (by exact any_step hx0 hs b1)⟩
  omega
 have p0 := dF b0
 refine ex (then_exit (loop_exit (inb_here (nx (sq (rg (k (asg (v := iV (-1)) rfl rfl (z (nx (rt (r1 rfl rfl ?_))))))))))))
 exact ⟨congrArg (Value.int .i64) (by first | exact idxF_hit hx0 hs b1 | exact idxF_miss hs (by omega)), H1.below⟩
theorem ref09_Of {a_h : OA} {c_h : Nat} {h : List (List (Bool × ByteArray × Int))} (hM : ∀ b, M b → b < w.heap.size) (h_h : RV M w (.slice a_h h.length c_h) h) (hb_h : h.flatten.length ≤ 1048576) : Calls Tryz.prog 16 #[.slice a_h h.length c_h] w (Ret fun v w' => ∃ (a0 : OA) (c0 : Nat) (a1 : OA) (c1 : Nat) (a2 : OA) (c2 : Nat), v = .tuple #[.agg #[.slice a0 (ofV h).length c0, .slice a1 (ofI h).length c1, .slice a2 ([] : List Int).length c2], .int .i64 (ofE h)] ∧ Ext w w' ∧ RV M w' (.slice a0 (ofV h).length c0) (ofV h) ∧ RV M w' (.slice a1 (ofI h).length c1) (ofI h) ∧ RV M w' (.slice a2 ([] : List Int).length c2) ([] : List Int)) := by
 refine enter 66 Tryz.func16 rfl rfl rfl fun f0 ha => ?_
 have H := HI.start (M0 := M) (w := w) hM
 have H0 := H.put (it := iL a_h h c_h) rfl (by rw [MS_nil]; exact h_h)
 have ln_h := rv_len h_h
 have i0 : f0 0 = sL a_h h c_h := ha 0 (by simp)
 refine sq (rg (k (al H0 ty32 ?_)))
 intro bb0 w0 xt0 (H1 : HI M w w0 [box bb0 #[.slice none 0 0, .slice none 0 0, .slice none 0 0] 32, iL a_h h c_h])
 refine k (asg (v := iV 0) rfl rfl (z (nx (sq (sq (rg (k (mv rfl i0 (k ?_)))))))))
 have cc0 := ref06_Right (h := h) (w := w0) H1.mb (H1.rv 1 rfl) (by exact hb_h)
 refine ca go39 rfl (ec rfl e0) cc0 ?_
 rintro _ w1 ⟨rfl, xt1⟩
 have H2 := H1.ext xt1
 refine k (not_ rfl rfl (z (nx ?_)))
 refine cd (b := !(rightH h)) rfl rfl (fun b0 => ?_) (fun b0 => ?_)
 ·
  refine sq ?_
  have hq : rightH h = false := by simpa using b0
  refine rg (k (bd (v := .agg #[.slice none 0 0, .slice none 0 0, .slice none 0 0]) rfl pb0 (fun _ => by kernel_rfl) (k (stX H2 0 rfl ty32 rfl rfl rfl rfl rfl rfl rfl ?_))))
  intro w2 (H3 : HI M w w2 [box bb0 #[.slice none 0 0, .slice none 0 0, .slice none 0 0] 32, iL a_h h c_h])
  refine k (asg (v := iV 1) rfl rfl (z (nx (rt (then_ret (rc2 H3 0 rfl ty32 rfl rfl rfl rfl rfl (by decide) ?_))))))
  have e0 : ([] : List ByteArray) = ofV h := by first | exact (of_bad hq).1.symm | (rw [(of_ok hq).1, h1]; unfold factV; rw [show i = h.length from by omega])
  have e1 : ([] : List ItemL) = ofI h := by first | exact (of_bad hq).2.1.symm | (rw [(of_ok hq).2.1, h2]; unfold factI; rw [show i = h.length from by omega])
  have e2 : ([] : List Int) = ([] : List Int) := rfl
  have e3 : (1 : Int) = ofE h := by first | exact (of_bad hq).2.2.symm | exact (of_ok hq).2.2.symm
  have ev_ := cg4 (fun (x_0 : List ByteArray) (x_1 : List ItemL) (x_2 : List Int) (x_3 : Int) => (.tuple #[.agg #[.slice none x_0.length 0, .slice none x_1.length 0, .slice none x_2.length 0], iV x_3] : Value)) e0 e1 e2 e3
  exact ⟨none, 0, none, 0, none, 0, ev_, H3.below, (congrArg (fun (x_ : List ByteArray) => RV _ _ (.slice none x_.length 0) x_) e0).mp (rv_nil _ _), (congrArg (fun (x_ : List ItemL) => RV _ _ (.slice none x_.length 0) x_) e1).mp (rv_nil _ _), (congrArg (fun (x_ : List Int) => RV _ _ (.slice none x_.length 0) x_) e2).mp (rv_nil _ _)⟩
 refine sk (nx (sq ?_))
 have hq : rightH h = true := by simpa using b0
 refine rg (k (al H2 ty32 ?_))
 intro bb1 w2 xt2 (H3 : HI M w w2 [box bb1 #[.slice none 0 0, .slice none 0 0, .slice none 0 0] 32, box bb0 #[.slice none 0 0, .slice none 0 0, .slice none 0 0] 32, iL a_h h c_h])
 refine z (nx (sq (sq (rg (k (asg (v := iV 0) rfl rfl (z (nx (bk ?_)))))))))
 have H4 := H3.nil_ ByteArray 9
 have H5 := H4.nil_ ItemL 85
 refine lp (fun m f w' => ∃ (i : Nat) (vs : List ByteArray) (its : List ItemL) (a0 : OA) (c0 : Nat) (a1 : OA) (c1 : Nat), m = h.length - i ∧ f 0 = sL a_h h c_h ∧ f 2 = pV bb0 0 ∧ f 4 = pV bb1 0 ∧ f 5 = iV (i : Int) ∧  HI M w w' [oL w 85 a1 its c1, oL w 9 a0 vs c0, box bb1 #[sL a0 vs c0, sL a1 its c1, .slice none 0 0] 32, box bb0 #[.slice none 0 0, .slice none 0 0, .slice none 0 0] 32, iL a_h h c_h] ∧ (i ≤ h.length) ∧ (vs = (allO h i).1) ∧ (its = (allO h i).2)) _ ⟨0, ([] : List ByteArray), ([] : List ItemL), none, 0, none, 0, rfl, i0, rfl, rfl, (ieq rfl (by first | rfl | omega | simp)), H5, (by first | omega | assumption | simp), (by rfl), (by rfl)⟩ ?_
 rintro _ f0 w3 ⟨i, vs, its, a0, c0, a1, c1, rfl, s0, s1, s2, s3, H6, hi_, h1, h2⟩
 refine sq (sq (rg (k (mv rfl s3 (k (mv rfl s0 (k (lnS rfl rfl un22 (k (lss rfl rfl rfl rfl (z (nx ?_))))))))))))
 refine cd (b := decide ((i : Int) < (h.length : Int))) rfl rfl (fun b1 => ?_) (fun b1 => ?_)
 ·
  have p1 := dT b1
  refine sk (nx (sq (bk (sq (rg (k (asg (v := iV 0) rfl rfl (z (nx (bk ?_))))))))))
  refine lp (fun m f w' => ∃ (q : Nat) (vs : List ByteArray) (its : List ItemL) (a2 : OA) (c2 : Nat) (a3 : OA) (c3 : Nat), m = (h.getD i []).length - q ∧ f 0 = sL a_h h c_h ∧ f 2 = pV bb0 0 ∧ f 4 = pV bb1 0 ∧ f 5 = iV (i : Int) ∧ f 6 = iV (q : Int) ∧  HI M w w' [oL w 85 a3 its c3, oL w 9 a2 vs c2, box bb1 #[sL a2 vs c2, sL a3 its c3, .slice none 0 0] 32, box bb0 #[.slice none 0 0, .slice none 0 0, .slice none 0 0] 32, iL a_h h c_h] ∧ (q ≤ (h.getD i []).length) ∧ (vs = (toO i (allO h i) (h.getD i []) q).1) ∧ (its = (toO i (allO h i) (h.getD i []) q).2)) _ ⟨0, vs, its, a0, c0, a1, c1, rfl, s0, s1, s2, s3, (ieq rfl (by first | rfl | omega | simp)), H6, (by first | omega | assumption | simp), (by exact h1), (by exact h2)⟩ ?_
  rintro _ f1 w4 ⟨q, vs, its, a2, c2, a3, c3, rfl, s4, s5, s6, s7, s8, H7, hk, h1, h2⟩
  refine sq (sq (rg (k (mv rfl s8 (k (mv rfl s4 (k (mv rfl s7 (k (ia (H7.rv 4 rfl) rfl rfl rfl rfl (by omega) un22 ty45 ?_))))))))))
  intro ad0 x0 hx0 hA0
  refine k (ldL hA0.w ty45 rfl rfl ?_)
  intro a4 c4 rv0
  have ln0 := rv_len rv0
  have H8 := H7.put (it := iL a4 x0 c4) rfl rv0
  refine k (lnS rfl rfl un45 (k (lss rfl rfl rfl rfl (z (nx ?_)))))
  refine cd (b := decide ((q : Int) < (x0.length : Int))) rfl rfl (fun b2 => ?_) (fun b2 => ?_)
  ·
   have p2 := dT b2
   refine sk (nx (sq (bk (sq (rg (k (mv rfl s4 (k (mv rfl s7 (k (ia (H8.rv 5 rfl) rfl rfl rfl rfl (by omega) un22 ty45 ?_)))))))))))
   intro ad1 x1 hx1 hA1
   refine k (ldL hA1.w ty45 rfl rfl ?_)
   intro a5 c5 rv1
   have ln1 := rv_len rv1
   have H9 := H8.put (it := iL a5 x1 c5) rfl rv1
   refine k (mv rfl s8 (k (ia (H9.rv 0 rfl) rfl rfl rfl rfl (by have e_ := at_is hx1 hx0; subst e_; omega) un45 ty48 ?_)))
   intro ad2 x2 hx2 hA2
   refine k (ldW hA2.w ty48 rfl rfl ?_)
   intro v0 rv2
   obtain ⟨_, ⟨_, _, rfl, rfl, ⟨_, _, rfl, ⟨rfl, rv3⟩, ⟨rfl, rv4⟩⟩⟩, rfl⟩ := rv2
   refine k (al H9 ty48 ?_)
   intro bb2 w5 xt3 (H10 : HI M w w5 [box bb2 #[.bool false, .string ⟨#[]⟩, iV 0] 48, iL a5 x1 c5, iL a4 x0 c4, oL w 85 a3 its c3, oL w 9 a2 vs c2, box bb1 #[sL a2 vs c2, sL a3 its c3, .slice none 0 0] 32, box bb0 #[.slice none 0 0, .slice none 0 0, .slice none 0 0] 32, iL a_h h c_h])
   refine k (stX H10 0 rfl ty48 rfl rfl rfl rfl rfl rfl rfl ?_)
   intro w6 (H11 : HI M w w6 [box bb2 #[.bool x2.1, .string x2.2.1, iV x2.2.2] 48, iL a5 x1 c5, iL a4 x0 c4, oL w 85 a3 its c3, oL w 9 a2 vs c2, box bb1 #[sL a2 vs c2, sL a3 its c3, .slice none 0 0] 32, box bb0 #[.slice none 0 0, .slice none 0 0, .slice none 0 0] 32, iL a_h h c_h])
   refine z (nx (sq (rg (k (fa fl32_0 rfl s6 (k (lx H11 5 rfl ty28 rfl rfl rfl (k (fa fl48_1 rfl rfl (k (lx H11 0 rfl ty9 rfl rfl rfl (k ?_))))))))))))
   have H12 := H11.freeze 4 rfl
   have cc1 := ref09_find (l := vs) (s := x2.2.1) (w := w6) H12.mb (H12.rv 4 rfl) (by assumption)
   refine ca go40 rfl (ec rfl (ec rfl e0)) cc1 ?_
   rintro _ w7 ⟨rfl, xt4⟩
   have H13 := H11.ext xt4
   refine k (asg (v := iV (findS vs x2.2.1)) rfl rfl (z (nx (sq (sq (rg (k (mv (v := iV (findS vs x2.2.1)) rfl rfl (k (lss rfl rfl rfl rfl (z (nx ?_))))))))))))
   refine cd (b := decide ((findS vs x2.2.1) < 0)) rfl rfl (fun b3 => ?_) (fun b3 => ?_)
   ·
    have p3 := dT b3
    refine sq (rg (k (fa fl32_0 rfl s6 (k (lx H13 5 rfl ty28 rfl rfl rfl (k (lnS rfl rfl un28 (k (asg (v := iV (vs.length : Int)) rfl rfl (z (nx (rg (k (fa fl32_0 rfl s6 (k (lx H13 5 rfl ty28 rfl rfl rfl (k (fa fl48_1 rfl rfl (k (lx H13 0 rfl ty9 rfl rfl rfl (k (bs (xs := ([x2.2.1] : List ByteArray)) (cells := #[.string x2.2.1]) (e := 9) H13 rfl (pbc rfl pb0) (fun _ => by kernel_rfl) ⟨[.string x2.2.1], [], rfl, ⟨rfl, (by assumption)⟩, rfl⟩ rfl (by decide) ?_))))))))))))))))))))))
    intro g0 w8 xt5 H14
    refine k (apB H14 5 rfl rfl rfl rfl rfl rfl (own_src (H14.at_ 0 rfl)) un28 ty9 rfl (by have e_ := at_is hx1 hx0; have h_ := of_room (k := q) hx0 (by omega); rw [← getD_row hx0, ← h1, ← h2] at h_; simp only [lC_, lN_]; omega) rfl ?_)
    intro a6 c6 w9 (H15 : HI M w w9 [own w.heap.size 9 (.slice (some ⟨g0, 0, none⟩) 1 1) ([x2.2.1] : List ByteArray), box bb2 #[.bool x2.1, .string x2.2.1, iV x2.2.2] 48, iL a5 x1 c5, iL a4 x0 c4, oL w 85 a3 its c3, oL w 9 a6 (vs ++ ([x2.2.1] : List ByteArray)) c6, box bb1 #[sL a2 vs c2, sL a3 its c3, .slice none 0 0] 32, box bb0 #[.slice none 0 0, .slice none 0 0, .slice none 0 0] 32, iL a_h h c_h])
    refine k (fa fl32_0 rfl s6 (k (stX H15 6 rfl ty28 rfl rfl rfl rfl rfl rfl rfl ?_)))
    intro w10 (H16 : HI M w w10 [own w.heap.size 9 (.slice (some ⟨g0, 0, none⟩) 1 1) ([x2.2.1] : List ByteArray), box bb2 #[.bool x2.1, .string x2.2.1, iV x2.2.2] 48, iL a5 x1 c5, iL a4 x0 c4, oL w 85 a3 its c3, oL w 9 a6 (vs ++ ([x2.2.1] : List ByteArray)) c6, box bb1 #[sL a6 (vs ++ ([x2.2.1] : List ByteArray)) c6, sL a3 its c3, .slice none 0 0] 32, box bb0 #[.slice none 0 0, .slice none 0 0, .slice none 0 0] 32, iL a_h h c_h])
    refine z (nx (rg (k (fa fl32_1 rfl s6 (k (lx H16 6 rfl ty29 rfl rfl rfl (k (mv rfl s7 (k (mv rfl s8 (k (fa fl48_0 rfl rfl (k (lx H16 1 rfl ty4 rfl rfl rfl (k (mv (v := iV (vs.length : Int)) rfl rfl (k (fa fl48_2 rfl rfl (k (lx H16 1 rfl ty3 rfl rfl rfl (k (bd (v := .agg #[iV (i : Int), iV (q : Int), .bool x2.1, iV (vs.length : Int), iV x2.2.2]) rfl (pbc rfl (pbc rfl (pbc rfl (pbc rfl (pbc rfl pb0))))) (fun _ => by kernel_rfl) (k (bs (xs := ([((i : Int), (q : Int), x2.1, (vs.length : Int), x2.2.2)] : List ItemL)) (cells := #[iV (i : Int), iV (q : Int), .bool x2.1, iV (vs.length : Int), iV x2.2.2]) (e := 85) H16 rfl (pbc rfl pb0) (fun _ => by kernel_rfl) ⟨[iV (i : Int), iV (q : Int), .bool x2.1, iV (vs.length : Int), iV x2.2.2], [], rfl, ⟨_, _, rfl, ⟨rfl, (show I64 ((i : Int)) from (by unfold I64 at *; omega))⟩, ⟨_, _, rfl, ⟨rfl, (show I64 ((q : Int)) from (by unfold I64 at *; omega))⟩, ⟨_, _, rfl, rfl, ⟨_, _, rfl, ⟨rfl, (show I64 ((vs.length : Int)) from (by have e_ := at_is hx1 hx0; have h3 := of_room (k := q) hx0 (by omega); rw [← getD_row hx0, ← h1, ← h2] at h3; unfold I64; omega))⟩, ⟨rfl, (show I64 (x2.2.2) from (by unfold I64 at *; omega))⟩⟩⟩⟩⟩, rfl⟩ rfl (by decide) ?_))))))))))))))))))))))))
    intro g1 w11 xt6 H17
    refine k (apB H17 5 rfl rfl rfl rfl rfl rfl (own_src (H17.at_ 0 rfl)) un29 ty85 rfl (by have e_ := at_is hx1 hx0; have h_ := of_room (k := q) hx0 (by omega); rw [← getD_row hx0, ← h1, ← h2] at h_; simp only [lC_, lN_]; omega) rfl ?_)
    intro a7 c7 w12 (H18 : HI M w w12 [own w.heap.size 85 (.slice (some ⟨g1, 0, none⟩) 1 1) ([((i : Int), (q : Int), x2.1, (vs.length : Int), x2.2.2)] : List ItemL), own w.heap.size 9 (.slice (some ⟨g0, 0, none⟩) 1 1) ([x2.2.1] : List ByteArray), box bb2 #[.bool x2.1, .string x2.2.1, iV x2.2.2] 48, iL a5 x1 c5, iL a4 x0 c4, oL w 85 a7 (its ++ ([((i : Int), (q : Int), x2.1, (vs.length : Int), x2.2.2)] : List ItemL)) c7, oL w 9 a6 (vs ++ ([x2.2.1] : List ByteArray)) c6, box bb1 #[sL a6 (vs ++ ([x2.2.1] : List ByteArray)) c6, sL a3 its c3, .slice none 0 0] 32, box bb0 #[.slice none 0 0, .slice none 0 0, .slice none 0 0] 32, iL a_h h c_h])
    refine k (fa fl32_1 rfl s6 (k (stX H18 7 rfl ty29 rfl rfl rfl rfl rfl rfl rfl ?_)))
    intro w13 (H19 : HI M w w13 [own w.heap.size 85 (.slice (some ⟨g1, 0, none⟩) 1 1) ([((i : Int), (q : Int), x2.1, (vs.length : Int), x2.2.2)] : List ItemL), own w.heap.size 9 (.slice (some ⟨g0, 0, none⟩) 1 1) ([x2.2.1] : List ByteArray), box bb2 #[.bool x2.1, .string x2.2.1, iV x2.2.2] 48, iL a5 x1 c5, iL a4 x0 c4, oL w 85 a7 (its ++ ([((i : Int), (q : Int), x2.1, (vs.length : Int), x2.2.2)] : List ItemL)) c7, oL w 9 a6 (vs ++ ([x2.2.1] : List ByteArray)) c6, box bb1 #[sL a6 (vs ++ ([x2.2.1] : List ByteArray)) c6, sL a7 (its ++ ([((i : Int), (q : Int), x2.1, (vs.length : Int), x2.2.2)] : List ItemL)) c7, .slice none 0 0] 32, box bb0 #[.slice none 0 0, .slice none 0 0, .slice none 0 0] 32, iL a_h h c_h])
    refine z (inb_normal (nx (rg (k (mv rfl s8 (k (add rfl rfl rfl rfl (by unfold I64 at *; omega) (k (asg (v := iV ((q : Int) + 1)) rfl rfl (z ?_))))))))))
    have H20 : HI M w w13 [oL w 85 a7 (its ++ ([((i : Int), (q : Int), x2.1, (vs.length : Int), x2.2.2)] : List ItemL)) c7, oL w 9 a6 (vs ++ ([x2.2.1] : List ByteArray)) c6, box bb1 #[sL a6 (vs ++ ([x2.2.1] : List ByteArray)) c6, sL a7 (its ++ ([((i : Int), (q : Int), x2.1, (vs.length : Int), x2.2.2)] : List ItemL)) c7, .slice none 0 0] 32, box bb0 #[.slice none 0 0, .slice none 0 0, .slice none 0 0] 32, iL a_h h c_h] := H19.pickN [5, 6, 7, 8, 9] (by decide) rfl
    refine loopN _ ?_ ⟨(q + 1), (vs ++ ([x2.2.1] : List ByteArray)), (its ++ ([((i : Int), (q : Int), x2.1, (vs.length : Int), x2.2.2)] : List ItemL)), a6, c6, a7, c7, rfl, s4, s5, s6, s7, (ieq rfl (by first | rfl | omega)), H20, (by rw [getD_row hx0]; omega), (by rw [h1] at *; have e_ := at_is hx1 hx0; subst e_; rw [getD_row hx0] at *; first | exact (step_new hx2 p3).1 | exact (step_old hx2 p3).1), (by rw [h1, h2] at *; have e_ := at_is hx1 hx0; subst e_; rw [getD_row hx0] at *; first | exact (step_new hx2 p3).2 | exact (step_old hx2 p3).2)⟩
    rw [getD_row hx0]; omega
   have p3 := dF b3
   refine sk (nx (rg (k (fa fl32_1 rfl s6 (k (lx H13 5 rfl ty29 rfl rfl rfl (k (mv rfl s7 (k (mv rfl s8 (k (fa fl48_0 rfl rfl (k (lx H13 0 rfl ty4 rfl rfl rfl (k (mv (v := iV (findS vs x2.2.1)) rfl rfl (k (fa fl48_2 rfl rfl (k (lx H13 0 rfl ty3 rfl rfl rfl (k (bd (v := .agg #[iV (i : Int), iV (q : Int), .bool x2.1, iV (findS vs x2.2.1), iV x2.2.2]) rfl (pbc rfl (pbc rfl (pbc rfl (pbc rfl (pbc rfl pb0))))) (fun _ => by kernel_rfl) (k (bs (xs := ([((i : Int), (q : Int), x2.1, findS vs x2.2.1, x2.2.2)] : List ItemL)) (cells := #[iV (i : Int), iV (q : Int), .bool x2.1, iV (findS vs x2.2.1), iV x2.2.2]) (e := 85) H13 rfl (pbc rfl pb0) (fun _ => by kernel_rfl) ⟨[iV (i : Int), iV (q : Int), .bool x2.1, iV (findS vs x2.2.1), iV x2.2.2], [], rfl, ⟨_, _, rfl, ⟨rfl, (show I64 ((i : Int)) from (by unfold I64 at *; omega))⟩, ⟨_, _, rfl, ⟨rfl, (show I64 ((q : Int)) from (by unfold I64 at *; omega))⟩, ⟨_, _, rfl, rfl, ⟨_, _, rfl, ⟨rfl, (show I64 (findS vs x2.2.1) from (by have h_ := idxF_range (p := isS x2.2.1) (r := vs); have e_ := at_is hx1 hx0; have h3 := of_room (k := q) hx0 (by omega); rw [← getD_row hx0, ← h1, ← h2] at h3; unfold findS; unfold I64; omega))⟩, ⟨rfl, (show I64 (x2.2.2) from (by unfold I64 at *; omega))⟩⟩⟩⟩⟩, rfl⟩ rfl (by decide) ?_))))))))))))))))))))))))
   intro g0 w8 xt5 H14
   refine k (apB H14 4 rfl rfl rfl rfl rfl rfl (own_src (H14.at_ 0 rfl)) un29 ty85 rfl (by have e_ := at_is hx1 hx0; have h_ := of_room (k := q) hx0 (by omega); rw [← getD_row hx0, ← h1, ← h2] at h_; simp only [lC_, lN_]; omega) rfl ?_)
   intro a6 c6 w9 (H15 : HI M w w9 [own w.heap.size 85 (.slice (some ⟨g0, 0, none⟩) 1 1) ([((i : Int), (q : Int), x2.1, findS vs x2.2.1, x2.2.2)] : List ItemL), box bb2 #[.bool x2.1, .string x2.2.1, iV x2.2.2] 48, iL a5 x1 c5, iL a4 x0 c4, oL w 85 a6 (its ++ ([((i : Int), (q : Int), x2.1, findS vs x2.2.1, x2.2.2)] : List ItemL)) c6, oL w 9 a2 vs c2, box bb1 #[sL a2 vs c2, sL a3 its c3, .slice none 0 0] 32, box bb0 #[.slice none 0 0, .slice none 0 0, .slice none 0 0] 32, iL a_h h c_h])
   refine k (fa fl32_1 rfl s6 (k (stX H15 6 rfl ty29 rfl rfl rfl rfl rfl rfl rfl ?_)))
   intro w10 (H16 : HI M w w10 [own w.heap.size 85 (.slice (some ⟨g0, 0, none⟩) 1 1) ([((i : Int), (q : Int), x2.1, findS vs x2.2.1, x2.2.2)] : List ItemL), box bb2 #[.bool x2.1, .string x2.2.1, iV x2.2.2] 48, iL a5 x1 c5, iL a4 x0 c4, oL w 85 a6 (its ++ ([((i : Int), (q : Int), x2.1, findS vs x2.2.1, x2.2.2)] : List ItemL)) c6, oL w 9 a2 vs c2, box bb1 #[sL a2 vs c2, sL a6 (its ++ ([((i : Int), (q : Int), x2.1, findS vs x2.2.1, x2.2.2)] : List ItemL)) c6, .slice none 0 0] 32, box bb0 #[.slice none 0 0, .slice none 0 0, .slice none 0 0] 32, iL a_h h c_h])
   refine z (inb_normal (nx (rg (k (mv rfl s8 (k (add rfl rfl rfl rfl (by unfold I64 at *; omega) (k (asg (v := iV ((q : Int) + 1)) rfl rfl (z ?_))))))))))
   have H17 : HI M w w10 [oL w 85 a6 (its ++ ([((i : Int), (q : Int), x2.1, findS vs x2.2.1, x2.2.2)] : List ItemL)) c6, oL w 9 a2 vs c2, box bb1 #[sL a2 vs c2, sL a6 (its ++ ([((i : Int), (q : Int), x2.1, findS vs x2.2.1, x2.2.2)] : List ItemL)) c6, .slice none 0 0] 32, box bb0 #[.slice none 0 0, .slice none 0 0, .slice none 0 0] 32, iL a_h h c_h] := H16.pickN [4, 5, 6, 7, 8] (by decide) rfl
   refine loopN _ ?_ ⟨(q + 1), vs, (its ++ ([((i : Int), (q : Int), x2.1, findS vs x2.2.1, x2.2.2)] : List ItemL)), a2, c2, a6, c6, rfl, s4, s5, s6, s7, (ieq rfl (by first | rfl | omega)), H17, (by rw [getD_row hx0]; omega), (by rw [h1] at *; have e_ := at_is hx1 hx0; subst e_; rw [getD_row hx0] at *; first | exact (step_new hx2 p3).1 | exact (step_old hx2 p3).1), (by rw [h1, h2] at *; have e_ := at_is hx1 hx0; subst e_; rw [getD_row hx0] at *; first | exact (step_new hx2 p3).2 | exact (step_old hx2 p3).2)⟩
   rw [getD_row hx0]; omega
  have p2 := dF b2
  refine ex (then_exit (loop_exit (inb_here (inb_normal (nx (rg (k (mv rfl s7 (k (add rfl rfl rfl rfl (by unfold I64 at *; omega) (k (asg (v := iV ((i : Int) + 1)) rfl rfl (z ?_)))))))))))))
  have H9 : HI M w w4 [oL w 85 a3 its c3, oL w 9 a2 vs c2, box bb1 #[sL a2 vs c2, sL a3 its c3, .slice none 0 0] 32, box bb0 #[.slice none 0 0, .slice none 0 0, .slice none 0 0] 32, iL a_h h c_h] := H8.pickN [1, 2, 3, 4, 5] (by decide) rfl
  refine loopN _ ?_ ⟨(i + 1), vs, its, a2, c2, a3, c3, rfl, s4, s5, s6, (ieq rfl (by first | rfl | omega)), H9, (by first | omega | assumption | simp), (by rw [h1, allO_end (by omega) (by rw [getD_row hx0]; omega)]), (by rw [h2, allO_end (by omega) (by rw [getD_row hx0]; omega)])⟩
  omega
 have p1 := dF b1
 refine ex (then_exit (loop_exit (inb_here (nx (sq (rg (k (ldX H6 2 rfl ty32 rfl s2 (by decide) rfl (k (stX H6 3 rfl ty32 rfl rfl s1 rfl rfl rfl rfl ?_))))))))))
 intro w4 (H7 : HI M w w4 [oL w 85 a1 its c1, oL w 9 a0 vs c0, box bb1 #[sL a0 vs c0, sL a1 its c1, .slice none 0 0] 32, box bb0 #[sL a0 vs c0, sL a1 its c1, .slice none 0 0] 32, iL a_h h c_h])
 refine k (asg (v := iV 0) rfl rfl (z (nx (rt (rc2 H7 3 rfl ty32 rfl rfl rfl s1 rfl (by decide) ?_)))))
 have e0 : (vs : List ByteArray) = ofV h := by first | exact (of_bad hq).1.symm | (rw [(of_ok hq).1, h1]; unfold factV; rw [show i = h.length from by omega])
 have e1 : (its : List ItemL) = ofI h := by first | exact (of_bad hq).2.1.symm | (rw [(of_ok hq).2.1, h2]; unfold factI; rw [show i = h.length from by omega])
 have e2 : ([] : List Int) = ([] : List Int) := rfl
 have e3 : (0 : Int) = ofE h := by first | exact (of_bad hq).2.2.symm | exact (of_ok hq).2.2.symm
 have ev_ := cg4 (fun (x_0 : List ByteArray) (x_1 : List ItemL) (x_2 : List Int) (x_3 : Int) => (.tuple #[.agg #[.slice a0 x_0.length c0, .slice a1 x_1.length c1, .slice none x_2.length 0], iV x_3] : Value)) e0 e1 e2 e3
 exact ⟨a0, c0, a1, c1, none, 0, ev_, H7.below, (congrArg (fun (x_ : List ByteArray) => RV _ _ (.slice a0 x_.length c0) x_) e0).mp (H7.outO 1 rfl), (congrArg (fun (x_ : List ItemL) => RV _ _ (.slice a1 x_.length c1) x_) e1).mp (H7.outO 0 rfl), (congrArg (fun (x_ : List Int) => RV _ _ (.slice none x_.length 0) x_) e2).mp (rv_nil _ _)⟩
theorem ref10_Write {a_fv : OA} {n_fv c_fv : Nat} {a_fi : OA} {c_fi : Nat} {fi : List ItemL} {a_fo : OA} {n_fo c_fo : Nat} {vr : Int} {val : Int} (hM : ∀ b, M b → b < w.heap.size) (h_fi : RV M w (.slice a_fi fi.length c_fi) fi) (h_vr : I64 vr) (h_val : I64 val) : Calls Tryz.prog 41 #[.agg #[.slice a_fv n_fv c_fv, .slice a_fi fi.length c_fi, .slice a_fo n_fo c_fo], .int .i64 vr, .int .i64 val] w (Ret fun v w' =>  v = .tuple #[.int .i64 (max (wrI fi vr val) 0), .bool (decide (0 ≤ wrI fi vr val))] ∧ Ext w w') := by
 refine enter 43 Tryz.func41 rfl rfl rfl fun f0 ha => ?_
 have H := HI.start (M0 := M) (w := w) hM
 have H0 := H.put (it := iL a_fi fi c_fi) rfl (by rw [MS_nil]; exact h_fi)
 have ln_fi := rv_len h_fi
 have i0 : f0 0 = .agg #[.slice a_fv n_fv c_fv, sL a_fi fi c_fi, .slice a_fo n_fo c_fo] := ha 0 (by simp)
 have i1 : f0 1 = iV vr := ha 1 (by simp)
 have i2 : f0 2 = iV val := ha 2 (by simp)
 refine sq (rg (k (bx H0 rfl i0 ?_)))
 intro bb0 w0 xt0 (H1 : HI M w w0 [box bb0 #[.slice a_fv n_fv c_fv, sL a_fi fi c_fi, .slice a_fo n_fo c_fo] 32, iL a_fi fi c_fi])
 refine k (asg (v := iV 0) rfl rfl (k (asg (v := .bool false) rfl rfl (z (nx (sq (sq (rg (k (asg (v := iV 0) rfl rfl (z (nx (bk ?_)))))))))))))
 refine lp (fun m f w' => ∃ (j : Nat), m = fi.length - j ∧ f 1 = iV vr ∧ f 2 = iV val ∧ f 3 = pV bb0 0 ∧ f 8 = iV (j : Int) ∧  HI M w w' [box bb0 #[.slice a_fv n_fv c_fv, sL a_fi fi c_fi, .slice a_fo n_fo c_fo] 32, iL a_fi fi c_fi] ∧ (j ≤ fi.length) ∧ ((fi.take j).any (isW vr val) = false)) _ ⟨0, rfl, i1, i2, rfl, (ieq rfl (by first | rfl | omega | simp)), H1, (by first | omega | assumption | simp), (by simp)⟩ ?_
 rintro _ f0 w1 ⟨j, rfl, s0, s1, s2, s3, H2, hk, hs⟩
 refine sq (sq (rg (k (mv rfl s3 (k (fa fl32_1 rfl s2 (k (lx H2 0 rfl ty29 rfl rfl rfl (k (lnS rfl rfl un29 (k (lss rfl rfl rfl rfl (z (nx ?_))))))))))))))
 refine cd (b := decide ((j : Int) < (fi.length : Int))) rfl rfl (fun b0 => ?_) (fun b0 => ?_)
 ·
  have p0 := dT b0
  refine sk (nx (sq (bk (sq (rg (k (fa fl32_1 rfl s2 (k (lx H2 0 rfl ty29 rfl rfl rfl (k (mv rfl s3 (k (ia (H2.rv 1 rfl) rfl rfl rfl rfl (by omega) un29 ty85 ?_)))))))))))))
  intro ad0 x0 hx0 hA0
  refine k (fa fl85_2 rfl rfl (k (ldB ((hA0).s2).fst.w ty4 rfl rfl (k (mv (v := .bool x0.2.2.1) rfl rfl ?_)))))
  rcases bE (x0.2.2.1) with b1 | b1
  ·
   refine k (gy rfl rfl rfl b1 (fa fl32_1 rfl s2 (k (gy rfl rfl rfl b1 (lx H2 0 rfl ty29 rfl rfl rfl (k (gy rfl rfl rfl b1 (mv rfl s3 (k (gy rfl rfl rfl b1 (ia (H2.rv 1 rfl) rfl rfl rfl rfl (by omega) un29 ty85 ?_)))))))))))
   intro ad1 x1 hx1 hA1
   refine k (gy rfl rfl rfl b1 (fa fl85_3 rfl rfl (k (gy rfl rfl rfl b1 (ldI ((hA1).s3).fst.w ty3 rfl rfl ?_)))))
   intro rv0
   refine k (gy rfl rfl rfl b1 (mv rfl s0 (k (gy rfl rfl rfl b1 (eql rfl rfl rfl rfl (k (pickT rfl rfl rfl rfl b1 rfl (k (mv (v := .bool (decide (x1.2.2.2.1 = vr))) rfl rfl ?_)))))))))
   rcases bE (decide (x1.2.2.2.1 = vr)) with b2 | b2
   ·
    have p2 := dT b2
    refine k (gy rfl rfl rfl b2 (fa fl32_1 rfl s2 (k (gy rfl rfl rfl b2 (lx H2 0 rfl ty29 rfl rfl rfl (k (gy rfl rfl rfl b2 (mv rfl s3 (k (gy rfl rfl rfl b2 (ia (H2.rv 1 rfl) rfl rfl rfl rfl (by omega) un29 ty85 ?_)))))))))))
    intro ad2 x2 hx2 hA2
    refine k (gy rfl rfl rfl b2 (fa fl85_4 rfl rfl (k (gy rfl rfl rfl b2 (ldI (hA2).s4.w ty3 rfl rfl ?_)))))
    intro rv1
    refine k (gy rfl rfl rfl b2 (mv rfl s1 (k (gy rfl rfl rfl b2 (eql rfl rfl rfl rfl (k (pickT rfl rfl rfl rfl b2 rfl (z (nx ?_)))))))))
    refine cd (b := decide (x2.2.2.2.2 = val)) rfl rfl (fun b3 => ?_) (fun b3 => ?_)
    ·
     have p3 := dT b3
     refine sq (rg (k (mv rfl s3 (k (asg (v := iV (j : Int)) rfl rfl (k (asg (v := .bool true) rfl rfl (z (nx (rt (inb_ret (then_ret (loop_ret (inb_ret (then_ret (r2 rfl rfl rfl ?_))))))))))))))))
     have e0 : ((j : Int) : Int) = (max (wrI fi vr val) 0) := by first | (have e1 := at_is hx1 hx0; subst e1; have e2 := at_is hx2 hx0; subst e2; have h_ := wr_hit hx0 b1 b2 b3 hs; omega) | (have h_ := wr_miss hs (by omega); omega)
     have e1 : (true : Bool) = decide (0 ≤ wrI fi vr val) := by first | (have e1 := at_is hx1 hx0; subst e1; have e2 := at_is hx2 hx0; subst e2; have h_ := wr_hit hx0 b1 b2 b3 hs; symm; rw [decide_eq_true_eq]; omega) | (have h_ := wr_miss hs (by omega); symm; rw [decide_eq_false_iff_not]; omega)
     have ev_ := cg2 (fun (x_0 : Int) (x_1 : Bool) => (.tuple #[iV x_0, .bool x_1] : Value)) e0 e1
     exact ⟨ev_, H2.below⟩
    have p3 := dF b3
    refine sk (inb_normal (nx (rg (k (mv rfl s3 (k (add rfl rfl rfl rfl (by unfold I64 at *; omega) (k (asg (v := iV ((j : Int) + 1)) rfl rfl (z ?_))))))))))
    refine loopN _ ?_ ⟨(j + 1), rfl, s0, s1, s2, (ieq rfl (by first | rfl | omega)), H2, (by first | omega | assumption | simp), (by first | exact any_step hx0 hs (isW_no1 b1) | (have e1 := at_is hx1 hx0; subst e1; first | exact any_step hx0 hs (isW_no2 b2) | (have e2 := at_is hx2 hx0; subst e2; exact any_step hx0 hs (isW_no3 b3))))⟩
    omega
   have p2 := dF b2
   refine k (gn rfl rfl rfl b2 (k (gn rfl rfl rfl b2 (k (gn rfl rfl rfl b2 (k (gn rfl rfl rfl b2 (k (gn rfl rfl rfl b2 (k (gn rfl rfl rfl b2 (k (gn rfl rfl rfl b2 (k (gn rfl rfl rfl b2 (k (pickF rfl rfl rfl rfl b2 rfl (z (nx (cdF rfl rfl rfl (sk (inb_normal (nx (rg (k (mv rfl s3 (k (add rfl rfl rfl rfl (by unfold I64 at *; omega) (k (asg (v := iV ((j : Int) + 1)) rfl rfl (z ?_)))))))))))))))))))))))))))))))
   refine loopN _ ?_ ⟨(j + 1), rfl, s0, s1, s2, (ieq rfl (by first | rfl | omega)), H2, (by first | omega | assumption | simp), (by first | exact any_step hx0 hs (isW_no1 b1) | (have e1 := at_is hx1 hx0; subst e1; first | exact any_step hx0 hs (isW_no2 b2) | (have e2 := at_is hx2 hx0; subst e2; exact any_step hx0 hs (isW_no3 b3))))⟩
   omega
  refine k (gn rfl rfl rfl b1 (k (gn rfl rfl rfl b1 (k (gn rfl rfl rfl b1 (k (gn rfl rfl rfl b1 (k (gn rfl rfl rfl b1 (k (gn rfl rfl rfl b1 (k (gn rfl rfl rfl b1 (k (gn rfl rfl rfl b1 (k (pickF rfl rfl rfl rfl b1 rfl (k (mv (v := .bool false) rfl rfl (k (gn rfl rfl rfl rfl (k (gn rfl rfl rfl rfl (k (gn rfl rfl rfl rfl (k (gn rfl rfl rfl rfl (k (gn rfl rfl rfl rfl (k (gn rfl rfl rfl rfl (k (gn rfl rfl rfl rfl (k (gn rfl rfl rfl rfl (k (pickF rfl rfl rfl rfl rfl rfl (z (nx (cdF rfl rfl rfl (sk (inb_normal (nx (rg (k (mv rfl s3 (k (add rfl rfl rfl rfl (by unfold I64 at *; omega) (k (asg (v := iV ((j : Int) + 1)) rfl rfl (z ?_)))))))))))))))))))))))))))))))))))))))))))))))))))
  refine loopN _ ?_ ⟨(j + 1), rfl, s0, s1, s2, (ieq rfl (by first | rfl | omega)), H2, (by first | omega | assumption | simp), (by first | exact any_step hx0 hs (isW_no1 b1) | (have e1 := at_is hx1 hx0; subst e1; first | exact any_step hx0 hs (isW_no2 b2) | (have e2 := at_is hx2 hx0; subst e2; exact any_step hx0 hs (isW_no3 b3))))⟩
  omega
 have p0 := dF b0
 refine ex (then_exit (loop_exit (inb_here (nx (sq (rg (k (asg (v := iV 0) rfl rfl (k (asg (v := .bool false) rfl rfl (z (nx (rt (r2 rfl rfl rfl ?_))))))))))))))
 have e0 : (0 : Int) = (max (wrI fi vr val) 0) := by first | (have e1 := at_is hx1 hx0; subst e1; have e2 := at_is hx2 hx0; subst e2; have h_ := wr_hit hx0 b1 b2 b3 hs; omega) | (have h_ := wr_miss hs (by omega); omega)
 have e1 : (false : Bool) = decide (0 ≤ wrI fi vr val) := by first | (have e1 := at_is hx1 hx0; subst e1; have e2 := at_is hx2 hx0; subst e2; have h_ := wr_hit hx0 b1 b2 b3 hs; symm; rw [decide_eq_true_eq]; omega) | (have h_ := wr_miss hs (by omega); symm; rw [decide_eq_false_iff_not]; omega)
 have ev_ := cg2 (fun (x_0 : Int) (x_1 : Bool) => (.tuple #[iV x_0, .bool x_1] : Value)) e0 e1
 exact ⟨ev_, H2.below⟩
theorem ref10_Check {a_fv : OA} {n_fv c_fv : Nat} {a_fi : OA} {c_fi : Nat} {fi : List ItemL} {a_fo : OA} {n_fo c_fo : Nat} (hM : ∀ b, M b → b < w.heap.size) (h_fi : RV M w (.slice a_fi fi.length c_fi) fi) : Calls Tryz.prog 17 #[.agg #[.slice a_fv n_fv c_fv, .slice a_fi fi.length c_fi, .slice a_fo n_fo c_fo]] w (Ret fun v w' =>  v = .tuple #[.int .i64 ((chkA fi).1), .int .i64 ((chkA fi).2.1), .int .i64 ((chkA fi).2.2)] ∧ Ext w w') := by
 refine enter 43 Tryz.func17 rfl rfl rfl fun f0 ha => ?_
 have H := HI.start (M0 := M) (w := w) hM
 have H0 := H.put (it := iL a_fi fi c_fi) rfl (by rw [MS_nil]; exact h_fi)
 have ln_fi := rv_len h_fi
 have i0 : f0 0 = .agg #[.slice a_fv n_fv c_fv, sL a_fi fi c_fi, .slice a_fo n_fo c_fo] := ha 0 (by simp)
 refine sq (rg (k (bx H0 rfl i0 ?_)))
 intro bb0 w0 xt0 (H1 : HI M w w0 [box bb0 #[.slice a_fv n_fv c_fv, sL a_fi fi c_fi, .slice a_fo n_fo c_fo] 32, iL a_fi fi c_fi])
 refine k (asg (v := iV 0) rfl rfl (k (asg (v := iV 0) rfl rfl (k (asg (v := iV 0) rfl rfl (z (nx (sq (sq (rg (k (asg (v := iV 0) rfl rfl (z (nx (bk ?_)))))))))))))))
 refine lp (fun m f w' => ∃ (j : Nat), m = fi.length - j ∧ f 1 = pV bb0 0 ∧ f 5 = iV (j : Int) ∧  HI M w w' [box bb0 #[.slice a_fv n_fv c_fv, sL a_fi fi c_fi, .slice a_fo n_fo c_fo] 32, iL a_fi fi c_fi] ∧ (j ≤ fi.length) ∧ (∀ k, k < j → badI fi k = false)) _ ⟨0, rfl, rfl, (ieq rfl (by first | rfl | omega | simp)), H1, (by first | omega | assumption | simp), (by intro k hk; omega)⟩ ?_
 rintro _ f0 w1 ⟨j, rfl, s0, s1, H2, hk, hs⟩
 refine sq (sq (rg (k (mv rfl s1 (k (fa fl32_1 rfl s0 (k (lx H2 0 rfl ty29 rfl rfl rfl (k (lnS rfl rfl un29 (k (lss rfl rfl rfl rfl (z (nx ?_))))))))))))))
 refine cd (b := decide ((j : Int) < (fi.length : Int))) rfl rfl (fun b0 => ?_) (fun b0 => ?_)
 ·
  have p0 := dT b0
  refine sk (nx (sq (bk (sq (rg (k (fa fl32_1 rfl s0 (k (lx H2 0 rfl ty29 rfl rfl rfl (k (mv rfl s1 (k (ia (H2.rv 1 rfl) rfl rfl rfl rfl (by omega) un29 ty85 ?_)))))))))))))
  intro ad0 x0 hx0 hA0
  refine k (ldW hA0.w ty85 rfl rfl ?_)
  intro v0 rv0
  obtain ⟨_, ⟨_, _, rfl, ⟨rfl, rv1⟩, ⟨_, _, rfl, ⟨rfl, rv2⟩, ⟨_, _, rfl, rfl, ⟨_, _, rfl, ⟨rfl, rv3⟩, ⟨rfl, rv4⟩⟩⟩⟩⟩, rfl⟩ := rv0
  refine k (al H2 ty85 ?_)
  intro bb1 w2 xt1 (H3 : HI M w w2 [box bb1 #[iV 0, iV 0, .bool false, iV 0, iV 0] 85, box bb0 #[.slice a_fv n_fv c_fv, sL a_fi fi c_fi, .slice a_fo n_fo c_fo] 32, iL a_fi fi c_fi])
  refine k (stX H3 0 rfl ty85 rfl rfl rfl rfl rfl rfl rfl ?_)
  intro w3 (H4 : HI M w w3 [box bb1 #[iV x0.1, iV x0.2.1, .bool x0.2.2.1, iV x0.2.2.2.1, iV x0.2.2.2.2] 85, box bb0 #[.slice a_fv n_fv c_fv, sL a_fi fi c_fi, .slice a_fo n_fo c_fo] 32, iL a_fi fi c_fi])
  refine z (nx (sq (sq (rg (k (fa fl85_2 rfl rfl (k (lx H4 0 rfl ty4 rfl rfl rfl (k (not_ rfl rfl (z (nx ?_))))))))))))
  refine cd (b := !x0.2.2.1) rfl rfl (fun b1 => ?_) (fun b1 => ?_)
  ·
   refine ex (then_exit (inb_here (nx (rg (k (mv rfl s1 (k (add rfl rfl rfl rfl (by unfold I64 at *; omega) (k (asg (v := iV ((j : Int) + 1)) rfl rfl (z ?_)))))))))))
   have H5 : HI M w w3 [box bb0 #[.slice a_fv n_fv c_fv, sL a_fi fi c_fi, .slice a_fo n_fo c_fo] 32, iL a_fi fi c_fi] := H4.pickN [1, 2] (by decide) rfl
   refine loopN _ ?_ ⟨(j + 1), rfl, s0, (ieq rfl (by first | rfl | omega)), H5, (by first | omega | assumption | simp), (by first | exact bad_next hs hx0 (bad_read (by simpa using b1)) | exact bad_next hs hx0 (bad_good p2 p3))⟩
   omega
  refine sk (nx (sq (sq (rg (k (fa fl85_4 rfl rfl (k (lx H4 0 rfl ty3 rfl rfl rfl (k (eql rfl rfl rfl rfl (z (nx ?_))))))))))))
  refine cd (b := decide (x0.2.2.2.2 = 0)) rfl rfl (fun b2 => ?_) (fun b2 => ?_)
  ·
   have p2 := dT b2
   refine sq (rg (k (mv rfl s1 (k (mv rfl s1 (k (asg (v := iV (j : Int)) rfl rfl (k (asg (v := iV (j : Int)) rfl rfl (k (asg (v := iV 5) rfl rfl (z (nx (rt (then_ret (inb_ret (then_ret (loop_ret (inb_ret (then_ret (r3 rfl rfl rfl rfl ?_)))))))))))))))))))))
   have e0 : ((j : Int) : Int) = (chkA fi).1 := by first | exact (congrArg (fun z_ : Int × Int × Int => z_.1) (chk_zero hs hx0 (by simpa using b1) p2)).symm | exact (congrArg (fun z_ : Int × Int × Int => z_.1) (chk_twice hs hx0 (by simpa using b1) p2 p3)).symm | exact (congrArg (fun z_ : Int × Int × Int => z_.1) (chk_end hs (by omega))).symm
   have e1 : ((j : Int) : Int) = (chkA fi).2.1 := by first | exact (congrArg (fun z_ : Int × Int × Int => z_.2.1) (chk_zero hs hx0 (by simpa using b1) p2)).symm | exact (congrArg (fun z_ : Int × Int × Int => z_.2.1) (chk_twice hs hx0 (by simpa using b1) p2 p3)).symm | exact (congrArg (fun z_ : Int × Int × Int => z_.2.1) (chk_end hs (by omega))).symm
   have e2 : (5 : Int) = (chkA fi).2.2 := by first | exact (congrArg (fun z_ : Int × Int × Int => z_.2.2) (chk_zero hs hx0 (by simpa using b1) p2)).symm | exact (congrArg (fun z_ : Int × Int × Int => z_.2.2) (chk_twice hs hx0 (by simpa using b1) p2 p3)).symm | exact (congrArg (fun z_ : Int × Int × Int => z_.2.2) (chk_end hs (by omega))).symm
   have ev_ := cg3 (fun (x_0 : Int) (x_1 : Int) (x_2 : Int) => (.tuple #[iV x_0, iV x_1, iV x_2] : Value)) e0 e1 e2
   exact ⟨ev_, H4.below⟩
  have p2 := dF b2
  refine sk (nx (sq (rg (k (ldX H4 1 rfl ty32 rfl s0 (by decide) rfl (k (fa fl85_3 rfl rfl (k (lx H4 0 rfl ty3 rfl rfl rfl (k (fa fl85_4 rfl rfl (k (lx H4 0 rfl ty3 rfl rfl rfl (k ?_))))))))))))))
  have cc0 := ref10_Write (fi := fi) (vr := x0.2.2.2.1) (val := x0.2.2.2.2) (a_fv := a_fv) (n_fv := n_fv) (c_fv := c_fv) (a_fo := a_fo) (n_fo := n_fo) (c_fo := c_fo) (w := w3) H4.mb (H4.rv 2 rfl) rv3 rv4
  refine ca go41 rfl (ec rfl (ec rfl (ec rfl e0))) cc0 ?_
  rintro _ w4 ⟨rfl, xt2⟩
  have H5 := H4.ext xt2
  refine k (mv (v := .tuple #[iV (max (wrI fi x0.2.2.2.1 x0.2.2.2.2) 0), .bool (decide (0 ≤ wrI fi x0.2.2.2.1 x0.2.2.2.2))]) rfl rfl (k (xt rfl rfl rfl (k (xt rfl rfl rfl (k (asg (v := iV (max (wrI fi x0.2.2.2.1 x0.2.2.2.2) 0)) rfl rfl (k (asg (v := .bool (decide (0 ≤ wrI fi x0.2.2.2.1 x0.2.2.2.2))) rfl rfl (z (nx (sq (rg (k (mv (v := iV (max (wrI fi x0.2.2.2.1 x0.2.2.2.2) 0)) rfl rfl (k (mv rfl s1 (k (lss rfl rfl rfl rfl (z (nx ?_)))))))))))))))))))))
  refine cd (b := decide ((max (wrI fi x0.2.2.2.1 x0.2.2.2.2) 0) < (j : Int))) rfl rfl (fun b3 => ?_) (fun b3 => ?_)
  ·
   have p3 := dT b3
   refine sq (rg (k (mv (v := iV (max (wrI fi x0.2.2.2.1 x0.2.2.2.2) 0)) rfl rfl (k (mv rfl s1 (k (asg (v := iV (max (wrI fi x0.2.2.2.1 x0.2.2.2.2) 0)) rfl rfl (k (asg (v := iV (j : Int)) rfl rfl (k (asg (v := iV 4) rfl rfl (z (nx (rt (inb_ret (then_ret (loop_ret (inb_ret (then_ret (r3 rfl rfl rfl rfl ?_))))))))))))))))))))
   have e0 : ((max (wrI fi x0.2.2.2.1 x0.2.2.2.2) 0) : Int) = (chkA fi).1 := by first | exact (congrArg (fun z_ : Int × Int × Int => z_.1) (chk_zero hs hx0 (by simpa using b1) p2)).symm | exact (congrArg (fun z_ : Int × Int × Int => z_.1) (chk_twice hs hx0 (by simpa using b1) p2 p3)).symm | exact (congrArg (fun z_ : Int × Int × Int => z_.1) (chk_end hs (by omega))).symm
   have e1 : ((j : Int) : Int) = (chkA fi).2.1 := by first | exact (congrArg (fun z_ : Int × Int × Int => z_.2.1) (chk_zero hs hx0 (by simpa using b1) p2)).symm | exact (congrArg (fun z_ : Int × Int × Int => z_.2.1) (chk_twice hs hx0 (by simpa using b1) p2 p3)).symm | exact (congrArg (fun z_ : Int × Int × Int => z_.2.1) (chk_end hs (by omega))).symm
   have e2 : (4 : Int) = (chkA fi).2.2 := by first | exact (congrArg (fun z_ : Int × Int × Int => z_.2.2) (chk_zero hs hx0 (by simpa using b1) p2)).symm | exact (congrArg (fun z_ : Int × Int × Int => z_.2.2) (chk_twice hs hx0 (by simpa using b1) p2 p3)).symm | exact (congrArg (fun z_ : Int × Int × Int => z_.2.2) (chk_end hs (by omega))).symm
   have ev_ := cg3 (fun (x_0 : Int) (x_1 : Int) (x_2 : Int) => (.tuple #[iV x_0, iV x_1, iV x_2] : Value)) e0 e1 e2
   exact ⟨ev_, H5.below⟩
  have p3 := dF b3
  refine sk (inb_normal (nx (rg (k (mv rfl s1 (k (add rfl rfl rfl rfl (by unfold I64 at *; omega) (k (asg (v := iV ((j : Int) + 1)) rfl rfl (z ?_))))))))))
  have H6 : HI M w w4 [box bb0 #[.slice a_fv n_fv c_fv, sL a_fi fi c_fi, .slice a_fo n_fo c_fo] 32, iL a_fi fi c_fi] := H5.pickN [1, 2] (by decide) rfl
  refine loopN _ ?_ ⟨(j + 1), rfl, s0, (ieq rfl (by first | rfl | omega)), H6, (by first | omega | assumption | simp), (by first | exact bad_next hs hx0 (bad_read (by simpa using b1)) | exact bad_next hs hx0 (bad_good p2 p3))⟩
  omega
 have p0 := dF b0
 refine ex (then_exit (loop_exit (inb_here (nx (sq (rg (k (asg (v := iV 0) rfl rfl (k (asg (v := iV 0) rfl rfl (k (asg (v := iV 0) rfl rfl (z (nx (rt (r3 rfl rfl rfl rfl ?_))))))))))))))))
 have e0 : (0 : Int) = (chkA fi).1 := by first | exact (congrArg (fun z_ : Int × Int × Int => z_.1) (chk_zero hs hx0 (by simpa using b1) p2)).symm | exact (congrArg (fun z_ : Int × Int × Int => z_.1) (chk_twice hs hx0 (by simpa using b1) p2 p3)).symm | exact (congrArg (fun z_ : Int × Int × Int => z_.1) (chk_end hs (by omega))).symm
 have e1 : (0 : Int) = (chkA fi).2.1 := by first | exact (congrArg (fun z_ : Int × Int × Int => z_.2.1) (chk_zero hs hx0 (by simpa using b1) p2)).symm | exact (congrArg (fun z_ : Int × Int × Int => z_.2.1) (chk_twice hs hx0 (by simpa using b1) p2 p3)).symm | exact (congrArg (fun z_ : Int × Int × Int => z_.2.1) (chk_end hs (by omega))).symm
 have e2 : (0 : Int) = (chkA fi).2.2 := by first | exact (congrArg (fun z_ : Int × Int × Int => z_.2.2) (chk_zero hs hx0 (by simpa using b1) p2)).symm | exact (congrArg (fun z_ : Int × Int × Int => z_.2.2) (chk_twice hs hx0 (by simpa using b1) p2 p3)).symm | exact (congrArg (fun z_ : Int × Int × Int => z_.2.2) (chk_end hs (by omega))).symm
 have ev_ := cg3 (fun (x_0 : Int) (x_1 : Int) (x_2 : Int) => (.tuple #[iV x_0, iV x_1, iV x_2] : Value)) e0 e1 e2
 exact ⟨ev_, H2.below⟩
end Go.Proofs.YtefcbihikknlkaaGreatDoor
