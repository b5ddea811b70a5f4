/- PRINTED by my own tool (wip/tool/gen.py): contracts of Go functions of this seat, each with its proof. -/
import Derived.Test.YtceongmapgpnkaaDoorProg
import Derived.Test.YtceongmapgpnkaaDoorEngQ
import Derived.Test.YtceongmapgpnkaaDoorEwSpecK
namespace Go.Proofs.YtceongmapgpnkaaDoor
open Go.Ew Go.RowKit
set_option linter.unusedVariables false
set_option linter.unusedSimpArgs false
attribute [local irreducible] WL WC SO Code.wp wpList retQ Ret
attribute [local irreducible] bitB hasW inR hasR setR countW countR subR words newR listR orR firstW tab8
theorem un29 : Tryd.prog.underlying 29 = some (.int .u64) := by kernel_rfl
theorem un3 : Tryd.prog.underlying 3 = some (.int .i64) := by kernel_rfl
theorem go7 : GoF Tryd.prog 7 := ⟨_, _, Tryd.func7, rfl, by kernel_rfl⟩
theorem un22 : Tryd.prog.underlying 22 = some (.int .u64) := by kernel_rfl
theorem go17 : GoF Tryd.prog 17 := ⟨_, _, Tryd.func17, rfl, by kernel_rfl⟩
theorem un30 : Tryd.prog.underlying 30 = some (.array 64 5) := by kernel_rfl
theorem ty5 : TyF Tryd.prog 5 1 false 1 (.int .u8 0) := ⟨by kernel_rfl, by kernel_rfl⟩
theorem un5 : Tryd.prog.underlying 5 = some (.int .u8) := by kernel_rfl
theorem go18 : GoF Tryd.prog 18 := ⟨_, _, Tryd.func18, rfl, by kernel_rfl⟩
theorem go8 : GoF Tryd.prog 8 := ⟨_, _, Tryd.func8, rfl, by kernel_rfl⟩
theorem go10 : GoF Tryd.prog 10 := ⟨_, _, Tryd.func10, rfl, by kernel_rfl⟩
theorem go15 : GoF Tryd.prog 15 := ⟨_, _, Tryd.func15, rfl, by kernel_rfl⟩
theorem go13 : GoF Tryd.prog 13 := ⟨_, _, Tryd.func13, rfl, by kernel_rfl⟩
theorem go11 : GoF Tryd.prog 11 := ⟨_, _, Tryd.func11, rfl, by kernel_rfl⟩
theorem go9 : GoF Tryd.prog 9 := ⟨_, _, Tryd.func9, rfl, by kernel_rfl⟩
theorem go6 : GoF Tryd.prog 6 := ⟨_, _, Tryd.func6, rfl, by kernel_rfl⟩
theorem un4 : Tryd.prog.underlying 4 = some (.bool) := by kernel_rfl
theorem go12 : GoF Tryd.prog 12 := ⟨_, _, Tryd.func12, rfl, by kernel_rfl⟩
theorem go14 : GoF Tryd.prog 14 := ⟨_, _, Tryd.func14, rfl, by kernel_rfl⟩
theorem go16 : GoF Tryd.prog 16 := ⟨_, _, Tryd.func16, rfl, by kernel_rfl⟩
/- eyewitness/word.Bit -/
set_option maxRecDepth 100000 in
set_option maxHeartbeats 200000 in
theorem word_Bit {w : World} {i : Int} (h_i : I64 i) : Calls Tryd.prog 7 #[.int .i64 i] w (Ret fun v w' =>  v = U (bitB i) ∧ Ext w w') := by
  refine enter 9 Tryd.func7 rfl rfl rfl fun f0 ha => ?_
  have H := HI.start (M0 := (fun _ => False)) (w := w) (fun _ h => h.elim)
  have i0 : f0 0 = .int .i64 i := ha 0 (by simp)
  refine sq (rg (k (asg rfl rfl (z (nx (sq (sq (rg (k (mv rfl i0 (k (cvU rfl rfl un3 un29 (k (gtU (BitVec.ofInt 64 i) (63#64) rfl rfl rfl rfl (z (nx ?_))))))))))))))))
  refine cd (b := decide ((63#64).toNat < (BitVec.ofInt 64 i).toNat)) rfl rfl (fun b0 => ?_) (fun b0 => ?_)
  ·
    have p0 := of_decide_eq_true b0
    refine sq (rg (k (asg rfl rfl (z (nx (rt (then_ret (r1 rfl rfl ?_))))))))
    have e0 : (0#64 : BitVec 64) = bitB i := by exact bitB_hi h_i p0
    have ev_ := cg1 (fun (x_0 : BitVec 64) => (U x_0 : Value)) e0
    exact ⟨ev_, H.below⟩
  ·
    have p0 := of_decide_eq_false b0
    refine sk (nx (sq (rg (k (mv rfl i0 (k (cvU rfl rfl un3 un29 (k (shlU (1#64) ((BitVec.ofInt 64 i).toNat : Int) (by omega) rfl rfl rfl rfl (k (asg rfl rfl (z (nx (rt (r1 rfl rfl ?_)))))))))))))))
    have e0 : ((1#64) <<< ((BitVec.ofInt 64 i).toNat : Int).toNat : BitVec 64) = bitB i := by exact bitB_lo h_i p0
    have ev_ := cg1 (fun (x_0 : BitVec 64) => (U x_0 : Value)) e0
    exact ⟨ev_, H.below⟩
/- eyewitness/word.Has -/
set_option maxRecDepth 100000 in
set_option maxHeartbeats 200000 in
theorem word_Has {w : World} {x : BitVec 64} {i : Int} (h_i : I64 i) : Calls Tryd.prog 9 #[U x, .int .i64 i] w (Ret fun v w' =>  v = .bool (hasW x i) ∧ Ext w w') := by
  refine enter 10 Tryd.func9 rfl rfl rfl fun f0 ha => ?_
  have H := HI.start (M0 := (fun _ => False)) (w := w) (fun _ h => h.elim)
  have i0 : f0 0 = U x := ha 0 (by simp)
  have i1 : f0 1 = .int .i64 i := ha 1 (by simp)
  refine sq (rg (k (asg rfl rfl (z (nx (sq (rg (k (mv rfl i0 (k (mv rfl i1 (k ?_))))))))))))
  have cc0 := word_Bit (i := i) (w := w) (by unfold I64 at *; omega)
  refine ca go7 rfl (ec rfl e0) cc0 ?_
  rintro _ w0 ⟨rfl, xt0⟩
  have H0 := H.ext xt0
  refine k (andU x (bitB i) rfl rfl rfl rfl (k (neU (x &&& (bitB i)) (0#64) rfl rfl rfl rfl (k (asg rfl rfl (z (nx (rt (r1 rfl rfl ?_)))))))))
  have e0 : (!decide ((x &&& (bitB i)) = (0#64)) : Bool) = hasW x i := by exact hasW_eq _ _
  have ev_ := cg1 (fun (x_0 : Bool) => (.bool x_0 : Value)) e0
  exact ⟨ev_, H0.below⟩
/- math/bits.OnesCount64 -/
set_option maxRecDepth 100000 in
set_option maxHeartbeats 200000 in
theorem ones64 {w : World} {x : BitVec 64}  : Calls Tryd.prog 17 #[U x] w (Ret fun v w' =>  v = .int .i64 ((countW x : Nat) : Int) ∧ Ext w w') := by
  refine enter 35 Tryd.func17 rfl rfl rfl fun f0 ha => ?_
  have H := HI.start (M0 := (fun _ => False)) (w := w) (fun _ h => h.elim)
  have i0 : f0 0 = U x := ha 0 (by simp)
  refine sq (rg (k (asg rfl rfl (z (nx (sq (rg (k (mv rfl i0 (k (shrUn x 1 rfl rfl rfl rfl (k (andU (x >>> 1) (6148914691236517205#64) rfl rfl rfl rfl (k (mv rfl i0 (k (andU x (6148914691236517205#64) rfl rfl rfl rfl (k (addU ((x >>> 1) &&& (6148914691236517205#64)) (x &&& (6148914691236517205#64)) rfl rfl rfl rfl (k (asg rfl rfl (z (nx (sq ?_))))))))))))))))))))))))
  obtain ⟨x1, hx1⟩ : ∃ z, z = ((x >>> 1) &&& (6148914691236517205#64)) + (x &&& (6148914691236517205#64)) := ⟨_, rfl⟩
  refine rg (k (mv rfl ((congrArg (fun z => (U z : Value)) hx1).symm) (k (shrUn x1 2 rfl rfl rfl rfl (k (andU (x1 >>> 2) (3689348814741910323#64) rfl rfl rfl rfl (k (mv rfl ((congrArg (fun z => (U z : Value)) hx1).symm) (k (andU x1 (3689348814741910323#64) rfl rfl rfl rfl (k (addU ((x1 >>> 2) &&& (3689348814741910323#64)) (x1 &&& (3689348814741910323#64)) rfl rfl rfl rfl (k (asg rfl rfl (z (nx (sq ?_)))))))))))))))))
  obtain ⟨x2, hx2⟩ : ∃ z, z = ((x1 >>> 2) &&& (3689348814741910323#64)) + (x1 &&& (3689348814741910323#64)) := ⟨_, rfl⟩
  refine rg (k (mv rfl ((congrArg (fun z => (U z : Value)) hx2).symm) (k (shrUn x2 4 rfl rfl rfl rfl (k (mv rfl ((congrArg (fun z => (U z : Value)) hx2).symm) (k (addU (x2 >>> 4) x2 rfl rfl rfl rfl (k (andU ((x2 >>> 4) + x2) (1085102592571150095#64) rfl rfl rfl rfl (k (asg rfl rfl (z (nx (sq ?_)))))))))))))))
  obtain ⟨x3, hx3⟩ : ∃ z, z = ((x2 >>> 4) + x2) &&& (1085102592571150095#64) := ⟨_, rfl⟩
  refine rg (k (mv rfl ((congrArg (fun z => (U z : Value)) hx3).symm) (k (mv rfl ((congrArg (fun z => (U z : Value)) hx3).symm) (k (shrUn x3 8 rfl rfl rfl rfl (k (addU x3 (x3 >>> 8) rfl rfl rfl rfl (k (asg rfl rfl (z (nx (sq ?_)))))))))))))
  obtain ⟨x4, hx4⟩ : ∃ z, z = x3 + (x3 >>> 8) := ⟨_, rfl⟩
  refine rg (k (mv rfl ((congrArg (fun z => (U z : Value)) hx4).symm) (k (mv rfl ((congrArg (fun z => (U z : Value)) hx4).symm) (k (shrUn x4 16 rfl rfl rfl rfl (k (addU x4 (x4 >>> 16) rfl rfl rfl rfl (k (asg rfl rfl (z (nx (sq ?_)))))))))))))
  obtain ⟨x5, hx5⟩ : ∃ z, z = x4 + (x4 >>> 16) := ⟨_, rfl⟩
  refine rg (k (mv rfl ((congrArg (fun z => (U z : Value)) hx5).symm) (k (mv rfl ((congrArg (fun z => (U z : Value)) hx5).symm) (k (shrUn x5 32 rfl rfl rfl rfl (k (addU x5 (x5 >>> 32) rfl rfl rfl rfl (k (asg rfl rfl (z (nx (sq ?_)))))))))))))
  obtain ⟨x6, hx6⟩ : ∃ z, z = x5 + (x5 >>> 32) := ⟨_, rfl⟩
  refine rg (k (mv rfl ((congrArg (fun z => (U z : Value)) hx6).symm) (k (cvI rfl rfl (by have hb := (ones_eq x _ _ _ _ _ _ hx1 hx2 hx3 hx4 hx5 hx6).2; unfold I64; omega) un22 un3 (k (and127 rfl rfl rfl rfl (k (asg rfl rfl (z (nx (rt (r1 rfl rfl ?_))))))))))))
  have e0 : ((x6.toNat : Int) % 128 : Int) = ((countW x : Nat) : Int) := by have hb := (ones_eq x _ _ _ _ _ _ hx1 hx2 hx3 hx4 hx5 hx6).1; omega
  have ev_ := cg1 (fun (x_0 : Int) => (.int .i64 x_0 : Value)) e0
  exact ⟨ev_, H.below⟩
/- eyewitness/word.Count -/
set_option maxRecDepth 100000 in
set_option maxHeartbeats 200000 in
theorem word_Count {w : World} {x : BitVec 64}  : Calls Tryd.prog 11 #[U x] w (Ret fun v w' =>  v = .int .i64 ((countW x : Nat) : Int) ∧ Ext w w') := by
  refine enter 5 Tryd.func11 rfl rfl rfl fun f0 ha => ?_
  have H := HI.start (M0 := (fun _ => False)) (w := w) (fun _ h => h.elim)
  have i0 : f0 0 = U x := ha 0 (by simp)
  refine sq (rg (k (asg rfl rfl (z (nx (sq (rg (k (mv rfl i0 (k ?_))))))))))
  have cc0 := ones64 (x := x) (w := w)
  refine ca go17 rfl (ec rfl e0) cc0 ?_
  rintro _ w0 ⟨rfl, xt0⟩
  have H0 := H.ext xt0
  refine k (asg rfl rfl (z (nx (rt (r1 rfl rfl ?_)))))
  exact ⟨rfl, H0.below⟩
/- math/bits.TrailingZeros64 -/
set_option maxRecDepth 100000 in
set_option maxHeartbeats 200000 in
theorem zeros64 {w : World} {x : BitVec 64} (hT : TabAt 0 w) : Calls Tryd.prog 18 #[U x] w (Ret fun v w' =>  v = .int .i64 ((firstW x : Nat) : Int) ∧ Ext w w') := by
  refine enter 14 Tryd.func18 rfl rfl rfl fun f0 ha => ?_
  have H := HI.start (M0 := (fun _ => False)) (w := w) (fun _ h => h.elim)
  have i0 : f0 0 = U x := ha 0 (by simp)
  refine sq (rg (k (asg rfl rfl (z (nx (sq (sq (rg (k (mv rfl i0 (k (eqU x (0#64) rfl rfl rfl rfl (z (nx ?_))))))))))))))
  refine cd (b := decide (x = (0#64))) rfl rfl (fun b0 => ?_) (fun b0 => ?_)
  ·
    have p0 := of_decide_eq_true b0
    refine sq (rg (k (asg rfl rfl (z (nx (rt (then_ret (r1 rfl rfl ?_))))))))
    have e0 : (64 : Int) = ((firstW x : Nat) : Int) := by first | (have e_ := p0; subst e_; rw [firstW_zero]; rfl) | exact zeros_eq (by simpa using p0)
    have ev_ := cg1 (fun (x_0 : Int) => (.int .i64 x_0 : Value)) e0
    exact ⟨ev_, H.below⟩
  ·
    have p0 := of_decide_eq_false b0
    refine sk (nx (sq (rg (k (mv rfl i0 (k (mv rfl i0 (k (negU x rfl rfl (k (andU x (-x) rfl rfl rfl rfl (k (mulU (x &&& (-x)) (285870213051353865#64) rfl rfl rfl rfl (k (shrUn ((x &&& (-x)) * (285870213051353865#64)) 58 rfl rfl rfl rfl (k (iaAn (i := (((x &&& (-x)) * (285870213051353865#64)) >>> 58).toNat) rfl rfl rfl rfl (by exact zeros_lt (by simpa using p0)) un30 ty5 (k (ld8 (tabA (M := fun _ => False) hT H.below rfl (by exact zeros_lt (by simpa using p0))) ty5 rfl rfl (k (cvI rfl rfl (by unfold I64 at *; omega) un5 un3 (k (asg rfl rfl (z (nx (rt (r1 rfl rfl ?_)))))))))))))))))))))))))))
    have e0 : (((tab8 (((x &&& (-x)) * (285870213051353865#64)) >>> 58).toNat).toNat : Int) : Int) = ((firstW x : Nat) : Int) := by first | (have e_ := p0; subst e_; rw [firstW_zero]; rfl) | exact zeros_eq (by simpa using p0)
    have ev_ := cg1 (fun (x_0 : Int) => (.int .i64 x_0 : Value)) e0
    exact ⟨ev_, H.below⟩
/- eyewitness/word.First -/
set_option maxRecDepth 100000 in
set_option maxHeartbeats 200000 in
theorem word_First {w : World} {x : BitVec 64} (hT : TabAt 0 w) : Calls Tryd.prog 13 #[U x] w (Ret fun v w' =>  v = .int .i64 ((firstW x : Nat) : Int) ∧ Ext w w') := by
  refine enter 5 Tryd.func13 rfl rfl rfl fun f0 ha => ?_
  have H := HI.start (M0 := (fun _ => False)) (w := w) (fun _ h => h.elim)
  have i0 : f0 0 = U x := ha 0 (by simp)
  refine sq (rg (k (asg rfl rfl (z (nx (sq (rg (k (mv rfl i0 (k ?_))))))))))
  have cc0 := zeros64 (x := x) (w := w) (hT.ext H.below)
  refine ca go18 rfl (ec rfl e0) cc0 ?_
  rintro _ w0 ⟨rfl, xt0⟩
  have H0 := H.ext xt0
  refine k (asg rfl rfl (z (nx (rt (r1 rfl rfl ?_)))))
  exact ⟨rfl, H0.below⟩
/- eyewitness/word.Low -/
set_option maxRecDepth 100000 in
set_option maxHeartbeats 200000 in
theorem word_Low {w : World} {i : Int} (h_i : I64 i) : Calls Tryd.prog 15 #[.int .i64 i] w (Ret fun v w' =>  v = U (lowW i) ∧ Ext w w') := by
  refine enter 10 Tryd.func15 rfl rfl rfl fun f0 ha => ?_
  have H := HI.start (M0 := (fun _ => False)) (w := w) (fun _ h => h.elim)
  have i0 : f0 0 = .int .i64 i := ha 0 (by simp)
  refine sq (rg (k (asg rfl rfl (z (nx (sq (sq (rg (k (mv rfl i0 (k (leq rfl rfl rfl rfl (z (nx ?_))))))))))))))
  refine cd (b := decide (i ≤ 0)) rfl rfl (fun b0 => ?_) (fun b0 => ?_)
  ·
    have p0 := of_decide_eq_true b0
    refine sq (rg (k (asg rfl rfl (z (nx (rt (then_ret (r1 rfl rfl ?_))))))))
    have e0 : (0#64 : BitVec 64) = lowW i := by first | exact lowW_no (by omega) | exact lowW_yes (by omega)
    have ev_ := cg1 (fun (x_0 : BitVec 64) => (U x_0 : Value)) e0
    exact ⟨ev_, H.below⟩
  ·
    have p0 := of_decide_eq_false b0
    refine sk (nx (sq (rg (k (mv rfl i0 (k (min2 rfl rfl rfl rfl (k (sub rfl rfl rfl rfl (by unfold I64 at *; omega) (k (cvU rfl rfl un3 un29 (k (shrU (18446744073709551615#64) ((BitVec.ofInt 64 (64 - (min i 64))).toNat : Int) (by omega) rfl rfl rfl rfl (k (asg rfl rfl (z (nx (rt (r1 rfl rfl ?_)))))))))))))))))))
    have e0 : ((18446744073709551615#64) >>> ((BitVec.ofInt 64 (64 - (min i 64))).toNat : Int).toNat : BitVec 64) = lowW i := by first | exact lowW_no (by omega) | exact lowW_yes (by omega)
    have ev_ := cg1 (fun (x_0 : BitVec 64) => (U x_0 : Value)) e0
    exact ⟨ev_, H.below⟩
/- eyewitness/eyewitnessref01.Bit -/
set_option maxRecDepth 100000 in
set_option maxHeartbeats 200000 in
theorem ref01_Bit {w : World} {i : Int} (h_i : I64 i) : Calls Tryd.prog 8 #[.int .i64 i] w (Ret fun v w' =>  v = U (bitB i) ∧ Ext w w') := by
  refine enter 17 Tryd.func8 rfl rfl rfl fun f0 ha => ?_
  have H := HI.start (M0 := (fun _ => False)) (w := w) (fun _ h => h.elim)
  have i0 : f0 0 = .int .i64 i := ha 0 (by simp)
  refine sq (rg (k (asg rfl rfl (z (nx (sq (sq (rg (k (mv rfl i0 (k (lss rfl rfl rfl rfl (k (mv rfl rfl ?_))))))))))))))
  rcases Bool.eq_false_or_eq_true (decide (i < 0)) with b0 | b0
  · -- decide (i < 0) is True
    have p0 := of_decide_eq_true b0
    refine k (gn rfl rfl rfl b0 (k (gn rfl rfl rfl b0 (k (pickT rfl rfl rfl rfl b0 rfl (z (nx (cdT rfl rfl rfl (sq (rg (k (asg rfl rfl (z (nx (rt (then_ret (r1 rfl rfl ?_)))))))))))))))))
    have e0 : (0#64 : BitVec 64) = bitB i := by first | exact (bitB_out (by omega)).symm | (rw [bitB_pow (by omega) (by omega), show i.toNat = j from by omega])
    have ev_ := cg1 (fun (x_0 : BitVec 64) => (U x_0 : Value)) e0
    exact ⟨ev_, H.below⟩
  · -- decide (i < 0) is False
    have p0 := of_decide_eq_false b0
    refine k (gy rfl rfl rfl b0 (mv rfl i0 (k (gy rfl rfl rfl b0 (gtr rfl rfl rfl rfl (k (pickF rfl rfl rfl rfl b0 rfl (z (nx ?_)))))))))
    refine cd (b := decide (63 < i)) rfl rfl (fun b1 => ?_) (fun b1 => ?_)
    ·
      have p1 := of_decide_eq_true b1
      refine sq (rg (k (asg rfl rfl (z (nx (rt (then_ret (r1 rfl rfl ?_))))))))
      have e0 : (0#64 : BitVec 64) = bitB i := by first | exact (bitB_out (by omega)).symm | (rw [bitB_pow (by omega) (by omega), show i.toNat = j from by omega])
      have ev_ := cg1 (fun (x_0 : BitVec 64) => (U x_0 : Value)) e0
      exact ⟨ev_, H.below⟩
    ·
      have p1 := of_decide_eq_false b1
      refine sk (nx (sq (rg (k (asg rfl rfl (z (nx (sq (bk ?_)))))))))
      refine lp (fun m f w' => ∃ (j : Nat), m = i.toNat - j ∧ f 0 = .int .i64 (i - (j : Int)) ∧ f 3 = U (1#64 <<< j) ∧  HI (fun _ => False) w w' [] ∧ (j ≤ i.toNat)) _ ⟨0, rfl, (ieq i0 (by omega)), (ueq rfl (by first | rfl | simp)), H, (by first | assumption | omega | simp | (simp; omega))⟩ ?_
      rintro _ f0 w0 ⟨j, rfl, s0, s1, H0, hj⟩
      refine sq (sq (rg (k (mv rfl s0 (k (gtr rfl rfl rfl rfl (z (nx ?_))))))))
      refine cd (b := decide (0 < (i - (j : Int)))) rfl rfl (fun b2 => ?_) (fun b2 => ?_)
      ·
        have p2 := of_decide_eq_true b2
        refine sk (nx (sq (bk (rg (k (mv rfl s1 (k (mulU (1#64 <<< j) (2#64) rfl rfl rfl rfl (k (asg rfl rfl (z (inb_normal (nx (rg (k (mv rfl s0 (k (sub rfl rfl rfl rfl (by unfold I64 at *; omega) (k (asg rfl rfl (z ?_)))))))))))))))))))))
        refine loopN _ ?_ ⟨(j + 1), rfl, (ieq rfl (by omega)), (ueq rfl (by exact shl_step j)), H0, (by first | assumption | omega | simp | (simp; omega))⟩
        omega
      ·
        have p2 := of_decide_eq_false b2
        refine ex (then_exit (loop_exit (inb_here (nx (sq (rg (k (mv rfl s1 (k (asg rfl rfl (z (nx (rt (r1 rfl rfl ?_))))))))))))))
        have e0 : ((1#64 <<< j) : BitVec 64) = bitB i := by first | exact (bitB_out (by omega)).symm | (rw [bitB_pow (by omega) (by omega), show i.toNat = j from by omega])
        have ev_ := cg1 (fun (x_0 : BitVec 64) => (U x_0 : Value)) e0
        exact ⟨ev_, H0.below⟩
/- eyewitness/eyewitnessref01.Has -/
set_option maxRecDepth 100000 in
set_option maxHeartbeats 200000 in
theorem ref01_Has {w : World} {x : BitVec 64} {i : Int} (h_i : I64 i) : Calls Tryd.prog 10 #[U x, .int .i64 i] w (Ret fun v w' =>  v = .bool (hasW x i) ∧ Ext w w') := by
  refine enter 17 Tryd.func10 rfl rfl rfl fun f0 ha => ?_
  have H := HI.start (M0 := (fun _ => False)) (w := w) (fun _ h => h.elim)
  have i0 : f0 0 = U x := ha 0 (by simp)
  have i1 : f0 1 = .int .i64 i := ha 1 (by simp)
  refine sq (rg (k (asg rfl rfl (z (nx (sq (rg (k (mv rfl i1 (k ?_))))))))))
  have cc0 := ref01_Bit (i := i) (w := w) (by unfold I64 at *; omega)
  refine ca go8 rfl (ec rfl e0) cc0 ?_
  rintro _ w0 ⟨rfl, xt0⟩
  have H0 := H.ext xt0
  refine k (asg rfl rfl (z (nx (sq (rg (k (mv rfl rfl (k (neU (bitB i) (0#64) rfl rfl rfl rfl (k (mv rfl rfl ?_)))))))))))
  rcases Bool.eq_false_or_eq_true (!decide ((bitB i) = (0#64))) with b0 | b0
  · -- !decide ((bitB i) = (0#64)) is True
    have p0 := of_decide_eq_false (nott b0)
    refine k (gy rfl rfl rfl b0 (mv rfl i0 (k (gy rfl rfl rfl b0 (mv rfl rfl (k (gy rfl rfl rfl b0 (quoU x (bitB i) (by first | decide | simpa using b0) rfl rfl rfl rfl (k (gy rfl rfl rfl b0 (remU (x / (bitB i)) (2#64) (by first | decide | simpa using b0) rfl rfl rfl rfl (k (gy rfl rfl rfl b0 (eqU ((x / (bitB i)) % (2#64)) (1#64) rfl rfl rfl rfl (k (pickT rfl rfl rfl rfl b0 rfl (k (asg rfl rfl (z (nx (rt (r1 rfl rfl ?_))))))))))))))))))))))
    have e0 : (decide (((x / (bitB i)) % (2#64)) = (1#64)) : Bool) = hasW x i := by first | exact hasW_quo (by simpa using b0) | exact hasW_zero (by simpa using b0)
    have ev_ := cg1 (fun (x_0 : Bool) => (.bool x_0 : Value)) e0
    exact ⟨ev_, H0.below⟩
  · -- !decide ((bitB i) = (0#64)) is False
    have p0 := of_decide_eq_true (notf b0)
    refine k (gn rfl rfl rfl b0 (k (gn rfl rfl rfl b0 (k (gn rfl rfl rfl b0 (k (gn rfl rfl rfl b0 (k (gn rfl rfl rfl b0 (k (pickF rfl rfl rfl rfl b0 rfl (k (asg rfl rfl (z (nx (rt (r1 rfl rfl ?_)))))))))))))))))
    have e0 : (false : Bool) = hasW x i := by first | exact hasW_quo (by simpa using b0) | exact hasW_zero (by simpa using b0)
    have ev_ := cg1 (fun (x_0 : Bool) => (.bool x_0 : Value)) e0
    exact ⟨ev_, H0.below⟩
/- eyewitness/eyewitnessref01.Count -/
set_option maxRecDepth 100000 in
set_option maxHeartbeats 200000 in
theorem ref01_Count {w : World} {x : BitVec 64}  : Calls Tryd.prog 12 #[U x] w (Ret fun v w' =>  v = .int .i64 ((countW x : Nat) : Int) ∧ Ext w w') := by
  refine enter 14 Tryd.func12 rfl rfl rfl fun f0 ha => ?_
  have H := HI.start (M0 := (fun _ => False)) (w := w) (fun _ h => h.elim)
  have i0 : f0 0 = U x := ha 0 (by simp)
  refine sq (rg (k (asg rfl rfl (z (nx (sq (rg (k (asg rfl rfl (z (nx (sq (bk ?_)))))))))))))
  refine lp (fun m f w' => ∃ (y : BitVec 64), m = y.toNat ∧ f 0 = U y ∧ f 3 = .int .i64 (((countW x : Nat) : Int) - ((countW y : Nat) : Int)) ∧  HI (fun _ => False) w w' []) _ ⟨x, rfl, (ueq i0 (by first | rfl | simp)), (ieq rfl (by omega)), H⟩ ?_
  rintro _ f0 w0 ⟨y, rfl, s0, s1, H0⟩
  refine sq (sq (rg (k (mv rfl s0 (k (gtU y (0#64) rfl rfl rfl rfl (z (nx ?_))))))))
  refine cd (b := decide ((0#64).toNat < y.toNat)) rfl rfl (fun b0 => ?_) (fun b0 => ?_)
  ·
    have p0 := of_decide_eq_true b0
    refine sk (nx (bk (sq (rg (k (mv rfl s1 (k (mv rfl s0 (k (remU y (2#64) (by decide) rfl rfl rfl rfl (k (cvI rfl rfl (by have h_ := countW_le x; have h1 : (y % 2#64).toNat = y.toNat % 2 := (by rw [BitVec.toNat_umod]; rfl); have h2 := countW_le y; unfold I64; omega) un22 un3 (k (add rfl rfl rfl rfl (by have h_ := countW_le x; have h1 : (y % 2#64).toNat = y.toNat % 2 := (by rw [BitVec.toNat_umod]; rfl); have h2 := countW_le y; unfold I64; omega) (k (asg rfl rfl (z (nx (rg (k (mv rfl s0 (k (quoU y (2#64) (by decide) rfl rfl rfl rfl (k (asg rfl rfl (z (inb_normal ?_)))))))))))))))))))))))))))
    refine loopN _ ?_ ⟨(y / 2#64), rfl, (ueq rfl (by rfl)), (ieq rfl (by exact count_step x y)), H0⟩
    exact half_less (by simpa using p0)
  ·
    have p0 := of_decide_eq_false b0
    refine ex (then_exit (loop_exit (inb_here (nx (sq (rg (k (mv rfl s1 (k (asg rfl rfl (z (nx (rt (r1 rfl rfl ?_))))))))))))))
    have e0 : ((((countW x : Nat) : Int) - ((countW y : Nat) : Int)) : Int) = ((countW x : Nat) : Int) := by first | exact count_end (by simpa using p0) | exact count_end p0 | omega
    have ev_ := cg1 (fun (x_0 : Int) => (.int .i64 x_0 : Value)) e0
    exact ⟨ev_, H0.below⟩
/- eyewitness/eyewitnessref01.First -/
set_option maxRecDepth 100000 in
set_option maxHeartbeats 200000 in
theorem ref01_First {w : World} {x : BitVec 64}  : Calls Tryd.prog 14 #[U x] w (Ret fun v w' =>  v = .int .i64 ((firstW x : Nat) : Int) ∧ Ext w w') := by
  refine enter 12 Tryd.func14 rfl rfl rfl fun f0 ha => ?_
  have H := HI.start (M0 := (fun _ => False)) (w := w) (fun _ h => h.elim)
  have i0 : f0 0 = U x := ha 0 (by simp)
  refine sq (rg (k (asg rfl rfl (z (nx (sq (sq (rg (k (asg rfl rfl (z (nx (bk ?_)))))))))))))
  refine lp (fun m f w' => ∃ (j : Nat), m = 64 - j ∧ f 0 = U x ∧ f 3 = .int .i64 (j : Int) ∧  HI (fun _ => False) w w' [] ∧ (j ≤ 64) ∧ (∀ k, k < j → x.getLsbD k = false)) _ ⟨0, rfl, i0, (ieq rfl (by first | rfl | omega | simp)), H, (by first | assumption | omega | simp | (simp; omega)), (by intro k hk; omega)⟩ ?_
  rintro _ f0 w0 ⟨j, rfl, s0, s1, H0, hk, hs⟩
  refine sq (sq (rg (k (mv rfl s1 (k (lss rfl rfl rfl rfl (z (nx ?_))))))))
  refine cd (b := decide ((j : Int) < 64)) rfl rfl (fun b0 => ?_) (fun b0 => ?_)
  ·
    have p0 := of_decide_eq_true b0
    refine sk (nx (sq (bk (sq (rg (k (mv rfl s0 (k (mv rfl s1 (k ?_))))))))))
    have cc0 := ref01_Has (x := x) (i := (j : Int)) (w := w0) (by unfold I64 at *; omega)
    refine ca go10 rfl (ec rfl (ec rfl e0)) cc0 ?_
    rintro _ w1 ⟨rfl, xt0⟩
    have H1 := H0.ext xt0
    refine z (nx ?_)
    refine cd (b := hasW x (j : Int)) rfl rfl (fun b1 => ?_) (fun b1 => ?_)
    ·
      refine sq (rg (k (mv rfl s1 (k (asg rfl rfl (z (nx (rt (inb_ret (then_ret (loop_ret (inb_ret (then_ret (r1 rfl rfl ?_))))))))))))))
      have e0 : ((j : Int) : Int) = ((firstW x : Nat) : Int) := by first | exact first_hit b1 hs | exact first_miss hs (by omega)
      have ev_ := cg1 (fun (x_0 : Int) => (.int .i64 x_0 : Value)) e0
      exact ⟨ev_, H1.below⟩
    ·
      refine sk (inb_normal (nx (rg (k (mv rfl s1 (k (add rfl rfl rfl rfl (by unfold I64 at *; omega) (k (asg rfl rfl (z ?_))))))))))
      refine loopN _ ?_ ⟨(j + 1), rfl, s0, (ieq rfl (by first | rfl | omega | (push_cast; omega))), H1, (by first | assumption | omega | simp | (simp; omega)), (by exact first_step hs b1)⟩
      omega
  ·
    have p0 := of_decide_eq_false b0
    refine ex (then_exit (loop_exit (inb_here (nx (sq (rg (k (asg rfl rfl (z (nx (rt (r1 rfl rfl ?_))))))))))))
    have e0 : (64 : Int) = ((firstW x : Nat) : Int) := by first | exact first_hit b1 hs | exact first_miss hs (by omega)
    have ev_ := cg1 (fun (x_0 : Int) => (.int .i64 x_0 : Value)) e0
    exact ⟨ev_, H0.below⟩
/- eyewitness/eyewitnessref01.Low -/
set_option maxRecDepth 100000 in
set_option maxHeartbeats 200000 in
theorem ref01_Low {w : World} {n : Int} (h_n : I64 n) : Calls Tryd.prog 16 #[.int .i64 n] w (Ret fun v w' =>  v = U (lowW n) ∧ Ext w w') := by
  refine enter 19 Tryd.func16 rfl rfl rfl fun f0 ha => ?_
  have H := HI.start (M0 := (fun _ => False)) (w := w) (fun _ h => h.elim)
  have i0 : f0 0 = .int .i64 n := ha 0 (by simp)
  refine sq (rg (k (asg rfl rfl (z (nx (sq (rg (k (asg rfl rfl (z (nx (sq (sq (rg (k (asg rfl rfl (z (nx (bk ?_)))))))))))))))))))
  refine lp (fun m f w' => ∃ (j : Nat), m = 64 - j ∧ f 0 = .int .i64 n ∧ f 3 = U (lowW ((j : Nat) : Int)) ∧ f 4 = .int .i64 (j : Int) ∧  HI (fun _ => False) w w' [] ∧ (j ≤ 64) ∧ (((j : Nat) : Int) ≤ n ∨ j = 0)) _ ⟨0, rfl, i0, (ueq rfl (by rfl)), (ieq rfl (by first | rfl | omega | simp)), H, (by first | assumption | omega | simp | (simp; omega)), (by right; rfl)⟩ ?_
  rintro _ f0 w0 ⟨j, rfl, s0, s1, s2, H0, hk, hn⟩
  refine sq (sq (rg (k (mv rfl s2 (k (lss rfl rfl rfl rfl (k (mv rfl rfl ?_))))))))
  rcases Bool.eq_false_or_eq_true (decide ((j : Int) < 64)) with b0 | b0
  · -- decide ((j : Int) < 64) is True
    have p0 := of_decide_eq_true b0
    refine k (gy rfl rfl rfl b0 (mv rfl s2 (k (gy rfl rfl rfl b0 (mv rfl s0 (k (gy rfl rfl rfl b0 (lss rfl rfl rfl rfl (k (pickT rfl rfl rfl rfl b0 rfl (z (nx ?_))))))))))))
    refine cd (b := decide ((j : Int) < n)) rfl rfl (fun b1 => ?_) (fun b1 => ?_)
    ·
      have p1 := of_decide_eq_true b1
      refine sk (nx (sq (bk (rg (k (mv rfl s1 (k (mv rfl s2 (k ?_)))))))))
      have cc0 := ref01_Bit (i := (j : Int)) (w := w0) (by unfold I64 at *; omega)
      refine ca go8 rfl (ec rfl e0) cc0 ?_
      rintro _ w1 ⟨rfl, xt0⟩
      have H1 := H0.ext xt0
      refine k (addU (lowW ((j : Nat) : Int)) (bitB (j : Int)) rfl rfl rfl rfl (k (asg rfl rfl (z (inb_normal (nx (rg (k (mv rfl s2 (k (add rfl rfl rfl rfl (by unfold I64 at *; omega) (k (asg rfl rfl (z ?_))))))))))))))
      refine loopN _ ?_ ⟨(j + 1), rfl, s0, (ueq rfl (by exact low_step (by omega))), (ieq rfl (by first | rfl | omega | (push_cast; omega))), H1, (by first | assumption | omega | simp | (simp; omega)), (by left; omega)⟩
      omega
    ·
      have p1 := of_decide_eq_false b1
      refine ex (then_exit (loop_exit (inb_here (nx (sq (rg (k (mv rfl s1 (k (asg rfl rfl (z (nx (rt (r1 rfl rfl ?_))))))))))))))
      have e0 : (lowW ((j : Nat) : Int) : BitVec 64) = lowW n := by exact low_end hk hn (by omega)
      have ev_ := cg1 (fun (x_0 : BitVec 64) => (U x_0 : Value)) e0
      exact ⟨ev_, H0.below⟩
  · -- decide ((j : Int) < 64) is False
    have p0 := of_decide_eq_false b0
    refine k (gn rfl rfl rfl b0 (k (gn rfl rfl rfl b0 (k (gn rfl rfl rfl b0 (k (pickF rfl rfl rfl rfl b0 rfl (z (nx (cdF rfl rfl rfl (ex (then_exit (loop_exit (inb_here (nx (sq (rg (k (mv rfl s1 (k (asg rfl rfl (z (nx (rt (r1 rfl rfl ?_)))))))))))))))))))))))))
    have e0 : (lowW ((j : Nat) : Int) : BitVec 64) = lowW n := by exact low_end hk hn (by omega)
    have ev_ := cg1 (fun (x_0 : BitVec 64) => (U x_0 : Value)) e0
    exact ⟨ev_, H0.below⟩
/- eyewitness/eyewitnesslaw01.awake -/
set_option maxRecDepth 100000 in
set_option maxHeartbeats 200000 in
theorem awake01 {w : World} (hT : TabAt 0 w) : Calls Tryd.prog 6 #[] w (Ret fun v w' =>  v = .bool true ∧ Ext w w') := by
  refine enter 18 Tryd.func6 rfl rfl rfl fun f0 ha => ?_
  have H := HI.start (M0 := (fun _ => False)) (w := w) (fun _ h => h.elim)
  refine sq (rg (k (asg rfl rfl (z (nx (sq (rg (k ?_))))))))
  have cc0 := word_Low (i := 3) (w := w) (by unfold I64 at *; omega)
  refine ca go15 rfl (ec rfl e0) cc0 ?_
  rintro _ w0 ⟨rfl, xt0⟩
  have H0 := H.ext xt0
  refine k (eqU (lowW 3) (7#64) rfl rfl rfl rfl (k (mv rfl rfl (k (gy rfl rfl rfl (by decide +kernel) ?_)))))
  have cc1 := word_First (x := (12#64)) (w := w0) (hT.ext H0.below)
  refine ca go13 rfl (ec rfl e0) cc1 ?_
  rintro _ w1 ⟨rfl, xt1⟩
  have H1 := H0.ext xt1
  refine k (gy rfl rfl rfl (by decide +kernel) (eql rfl rfl rfl rfl (k (pickT rfl rfl rfl rfl (by decide +kernel) rfl (k (mv rfl rfl (k (gy rfl rfl rfl (by decide +kernel) ?_))))))))
  have cc2 := word_Count (x := (12#64)) (w := w1)
  refine ca go11 rfl (ec rfl e0) cc2 ?_
  rintro _ w2 ⟨rfl, xt2⟩
  have H2 := H1.ext xt2
  refine k (gy rfl rfl rfl (by decide +kernel) (eql rfl rfl rfl rfl (k (pickT rfl rfl rfl rfl (by decide +kernel) rfl (k (mv rfl rfl (k (gy rfl rfl rfl (by decide +kernel) ?_))))))))
  have cc3 := word_Has (x := (12#64)) (i := 3) (w := w2) (by unfold I64 at *; omega)
  refine ca go9 rfl (ec rfl (ec rfl e0)) cc3 ?_
  rintro _ w3 ⟨rfl, xt3⟩
  have H3 := H2.ext xt3
  refine k (pickT rfl rfl rfl rfl (by decide +kernel) rfl (k (mv rfl rfl (k (gy rfl rfl rfl (by decide +kernel) ?_)))))
  have cc4 := word_Bit (i := 5) (w := w3) (by unfold I64 at *; omega)
  refine ca go7 rfl (ec rfl e0) cc4 ?_
  rintro _ w4 ⟨rfl, xt4⟩
  have H4 := H3.ext xt4
  refine k (gy rfl rfl rfl (by decide +kernel) (eqU (bitB 5) (32#64) rfl rfl rfl rfl (k (pickT rfl rfl rfl rfl (by decide +kernel) rfl (k (asg rfl rfl (z (nx (rt (r1 rfl rfl ?_))))))))))
  have e0 : (decide ((bitB 5) = (32#64)) : Bool) = true := by exact (by decide +kernel)
  have ev_ := cg1 (fun (x_0 : Bool) => (.bool x_0 : Value)) e0
  exact ⟨ev_, H4.below⟩
/- eyewitness/eyewitnesslaw01.WordTells -/
set_option maxRecDepth 100000 in
set_option maxHeartbeats 200000 in
theorem law_WordTells {w : World} {x : BitVec 64} {i : Int} (hT : TabAt 0 w) (h_i : I64 i) : Calls Tryd.prog 3 #[U x, .int .i64 i] w (Ret fun v w' =>  v = .bool true ∧ Ext w w') := by
  refine enter 43 Tryd.func3 rfl rfl rfl fun f0 ha => ?_
  have H := HI.start (M0 := (fun _ => False)) (w := w) (fun _ h => h.elim)
  have i0 : f0 0 = U x := ha 0 (by simp)
  have i1 : f0 1 = .int .i64 i := ha 1 (by simp)
  refine sq (rg (k (asg rfl rfl (z (nx (sq (rg (k ?_))))))))
  have cc0 := awake01 (w := w) (hT.ext H.below)
  refine ca go6 rfl e0 cc0 ?_
  rintro _ w0 ⟨rfl, xt0⟩
  have H0 := H.ext xt0
  refine k (mv rfl rfl (k (gy rfl rfl rfl rfl (mv rfl i1 (k (gy rfl rfl rfl rfl ?_))))))
  have cc1 := word_Bit (i := i) (w := w0) (by unfold I64 at *; omega)
  refine ca go7 rfl (ec rfl e0) cc1 ?_
  rintro _ w1 ⟨rfl, xt1⟩
  have H1 := H0.ext xt1
  refine k (gy rfl rfl rfl rfl (mv rfl i1 (k (gy rfl rfl rfl rfl ?_))))
  have cc2 := ref01_Bit (i := i) (w := w1) (by unfold I64 at *; omega)
  refine ca go8 rfl (ec rfl e0) cc2 ?_
  rintro _ w2 ⟨rfl, xt2⟩
  have H2 := H1.ext xt2
  refine k (gy rfl rfl rfl rfl (eqU (bitB i) (bitB i) rfl rfl rfl rfl (k (pickT rfl rfl rfl rfl rfl rfl (k (mv rfl rfl (k (gy rfl rfl rfl (by simp) (mv rfl i0 (k (gy rfl rfl rfl (by simp) (mv rfl i1 (k (gy rfl rfl rfl (by simp) ?_))))))))))))))
  have cc3 := word_Has (x := x) (i := i) (w := w2) (by unfold I64 at *; omega)
  refine ca go9 rfl (ec rfl (ec rfl e0)) cc3 ?_
  rintro _ w3 ⟨rfl, xt3⟩
  have H3 := H2.ext xt3
  refine k (gy rfl rfl rfl (by simp) (mv rfl i0 (k (gy rfl rfl rfl (by simp) (mv rfl i1 (k (gy rfl rfl rfl (by simp) ?_)))))))
  have cc4 := ref01_Has (x := x) (i := i) (w := w3) (by unfold I64 at *; omega)
  refine ca go10 rfl (ec rfl (ec rfl e0)) cc4 ?_
  rintro _ w4 ⟨rfl, xt4⟩
  have H4 := H3.ext xt4
  refine k (gy rfl rfl rfl (by simp) (eqB rfl rfl rfl rfl un4 (k (pickT rfl rfl rfl rfl (by simp) rfl (k (mv rfl rfl (k (gy rfl rfl rfl (by simp) (mv rfl i0 (k (gy rfl rfl rfl (by simp) ?_)))))))))))
  have cc5 := word_Count (x := x) (w := w4)
  refine ca go11 rfl (ec rfl e0) cc5 ?_
  rintro _ w5 ⟨rfl, xt5⟩
  have H5 := H4.ext xt5
  refine k (gy rfl rfl rfl (by simp) (mv rfl i0 (k (gy rfl rfl rfl (by simp) ?_))))
  have cc6 := ref01_Count (x := x) (w := w5)
  refine ca go12 rfl (ec rfl e0) cc6 ?_
  rintro _ w6 ⟨rfl, xt6⟩
  have H6 := H5.ext xt6
  refine k (gy rfl rfl rfl (by simp) (eql rfl rfl rfl rfl (k (pickT rfl rfl rfl rfl (by simp) rfl (k (mv rfl rfl (k (gy rfl rfl rfl (by simp) (mv rfl i0 (k (gy rfl rfl rfl (by simp) ?_)))))))))))
  have cc7 := word_First (x := x) (w := w6) (hT.ext H6.below)
  refine ca go13 rfl (ec rfl e0) cc7 ?_
  rintro _ w7 ⟨rfl, xt7⟩
  have H7 := H6.ext xt7
  refine k (gy rfl rfl rfl (by simp) (mv rfl i0 (k (gy rfl rfl rfl (by simp) ?_))))
  have cc8 := ref01_First (x := x) (w := w7)
  refine ca go14 rfl (ec rfl e0) cc8 ?_
  rintro _ w8 ⟨rfl, xt8⟩
  have H8 := H7.ext xt8
  refine k (gy rfl rfl rfl (by simp) (eql rfl rfl rfl rfl (k (pickT rfl rfl rfl rfl (by simp) rfl (k (mv rfl rfl (k (gy rfl rfl rfl (by simp) (mv rfl i1 (k (gy rfl rfl rfl (by simp) ?_)))))))))))
  have cc9 := word_Low (i := i) (w := w8) (by unfold I64 at *; omega)
  refine ca go15 rfl (ec rfl e0) cc9 ?_
  rintro _ w9 ⟨rfl, xt9⟩
  have H9 := H8.ext xt9
  refine k (gy rfl rfl rfl (by simp) (mv rfl i1 (k (gy rfl rfl rfl (by simp) ?_))))
  have cc10 := ref01_Low (n := i) (w := w9) (by unfold I64 at *; omega)
  refine ca go16 rfl (ec rfl e0) cc10 ?_
  rintro _ w10 ⟨rfl, xt10⟩
  have H10 := H9.ext xt10
  refine k (gy rfl rfl rfl (by simp) (eqU (lowW i) (lowW i) rfl rfl rfl rfl (k (pickT rfl rfl rfl rfl (by simp) rfl (k (asg rfl rfl (z (nx (rt (r1 rfl rfl ?_))))))))))
  have e0 : (decide ((lowW i) = (lowW i)) : Bool) = true := by exact (by simp)
  have ev_ := cg1 (fun (x_0 : Bool) => (.bool x_0 : Value)) e0
  exact ⟨ev_, H10.below⟩
/- eyewitness/eyewitnesslaw01.WordSums -/
set_option maxRecDepth 100000 in
set_option maxHeartbeats 200000 in
theorem law_WordSums {w : World} {x : BitVec 64} (hT : TabAt 0 w) : Calls Tryd.prog 4 #[U x] w (Ret fun v w' =>  v = .bool true ∧ Ext w w') := by
  refine enter 58 Tryd.func4 rfl rfl rfl fun f0 ha => ?_
  have H := HI.start (M0 := (fun _ => False)) (w := w) (fun _ h => h.elim)
  have i0 : f0 0 = U x := ha 0 (by simp)
  refine sq (rg (k (asg rfl rfl (z (nx (sq (rg (k (asg rfl rfl (k (asg rfl rfl (z (nx (sq (sq (rg (k (asg rfl rfl (z (nx (bk ?_)))))))))))))))))))))
  refine lp (fun m f w' => ∃ (j : Nat), m = 66 - j ∧ f 0 = U x ∧ f 3 = U (x &&& lowW ((j : Int) - 1)) ∧ f 4 = .int .i64 ((countW (x &&& lowW ((j : Int) - 1)) : Nat) : Int) ∧ f 5 = .int .i64 ((j : Int) - 1) ∧  HI (fun _ => False) w w' [] ∧ (j ≤ 66)) _ ⟨0, rfl, i0, (ueq rfl (by exact (mask_start x).symm)), (ieq rfl (by first | exact count_start x | rfl | omega)), (ieq rfl (by first | exact count_start x | rfl | omega)), H, (by first | assumption | omega | simp | (simp; omega))⟩ ?_
  rintro _ f0 w0 ⟨j, rfl, s0, s1, s2, s3, H0, hk⟩
  refine sq (sq (rg (k (mv rfl s3 (k (leq rfl rfl rfl rfl (z (nx ?_))))))))
  refine cd (b := decide (((j : Int) - 1) ≤ 64)) rfl rfl (fun b0 => ?_) (fun b0 => ?_)
  ·
    have p0 := of_decide_eq_true b0
    refine sk (nx (sq (bk (sq (rg (k (mv rfl s0 (k (mv rfl s3 (k ?_))))))))))
    have cc0 := word_Has (x := x) (i := ((j : Int) - 1)) (w := w0) (by unfold I64 at *; omega)
    refine ca go9 rfl (ec rfl (ec rfl e0)) cc0 ?_
    rintro _ w1 ⟨rfl, xt0⟩
    have H1 := H0.ext xt0
    refine z (nx ?_)
    refine cd (b := hasW x ((j : Int) - 1)) rfl rfl (fun b1 => ?_) (fun b1 => ?_)
    ·
      refine rg (k (mv rfl s1 (k (mv rfl s3 (k ?_)))))
      have cc1 := word_Bit (i := ((j : Int) - 1)) (w := w1) (by unfold I64 at *; omega)
      refine ca go7 rfl (ec rfl e0) cc1 ?_
      rintro _ w2 ⟨rfl, xt1⟩
      have H2 := H1.ext xt1
      refine k (addU (x &&& lowW ((j : Int) - 1)) (bitB ((j : Int) - 1)) rfl rfl rfl rfl (k (mv rfl s2 (k (add rfl rfl rfl rfl (by have h_ := countW_le (x &&& lowW ((j : Int) - 1)); unfold I64; omega) (k (asg rfl rfl (k (asg rfl rfl (z (inb_normal (nx (rg (k (mv rfl s3 (k (add rfl rfl rfl rfl (by unfold I64 at *; omega) (k (asg rfl rfl (z ?_))))))))))))))))))))
      refine loopN _ ?_ ⟨(j + 1), rfl, s0, (ueq rfl (by first | exact mask_u_yes (by assumption) | exact mask_u_no (by assumption))), (ieq rfl (by first | omega | exact mask_i_yes (by assumption) | exact mask_i_no (by assumption))), (ieq rfl (by first | omega | exact mask_i_yes (by assumption) | exact mask_i_no (by assumption))), H2, (by first | assumption | omega | simp | (simp; omega))⟩
      omega
    ·
      refine sk (inb_normal (nx (rg (k (mv rfl s3 (k (add rfl rfl rfl rfl (by unfold I64 at *; omega) (k (asg rfl rfl (z ?_))))))))))
      refine loopN _ ?_ ⟨(j + 1), rfl, s0, (ueq s1 (by first | exact mask_u_yes (by assumption) | exact mask_u_no (by assumption))), (ieq s2 (by first | omega | exact mask_i_yes (by assumption) | exact mask_i_no (by assumption))), (ieq rfl (by first | omega | exact mask_i_yes (by assumption) | exact mask_i_no (by assumption))), H1, (by first | assumption | omega | simp | (simp; omega))⟩
      omega
  ·
    have p0 := of_decide_eq_false b0
    refine ex (then_exit (loop_exit (inb_here (nx (sq (rg (k (mv rfl s0 (k ?_)))))))))
    have cc0 := word_First (x := x) (w := w0) (hT.ext H0.below)
    refine ca go13 rfl (ec rfl e0) cc0 ?_
    rintro _ w1 ⟨rfl, xt0⟩
    have H1 := H0.ext xt0
    refine k (asg rfl rfl (z (nx (sq (rg (k ?_))))))
    have cc1 := awake01 (w := w1) (hT.ext H1.below)
    refine ca go6 rfl e0 cc1 ?_
    rintro _ w2 ⟨rfl, xt1⟩
    have H2 := H1.ext xt1
    refine k (mv rfl rfl (k (gy rfl rfl rfl rfl (mv rfl s1 (k (gy rfl rfl rfl rfl (mv rfl s0 (k (gy rfl rfl rfl rfl (eqU (x &&& lowW ((j : Int) - 1)) x rfl rfl rfl rfl (k (pickT rfl rfl rfl rfl rfl rfl (k (mv rfl rfl (k (gy rfl rfl rfl (by rw [decide_eq_true_eq]; exact mask_all (by omega)) (mv rfl s2 (k (gy rfl rfl rfl (by rw [decide_eq_true_eq]; exact mask_all (by omega)) (mv rfl s0 (k (gy rfl rfl rfl (by rw [decide_eq_true_eq]; exact mask_all (by omega)) ?_))))))))))))))))))))))
    have cc2 := word_Count (x := x) (w := w2)
    refine ca go11 rfl (ec rfl e0) cc2 ?_
    rintro _ w3 ⟨rfl, xt2⟩
    have H3 := H2.ext xt2
    refine k (gy rfl rfl rfl (by rw [decide_eq_true_eq]; exact mask_all (by omega)) (eql rfl rfl rfl rfl (k (pickT rfl rfl rfl rfl (by rw [decide_eq_true_eq]; exact mask_all (by omega)) rfl (k (mv rfl rfl (k (gy rfl rfl rfl (by rw [mask_all (by omega)]; simp) (mv rfl s0 (k (gy rfl rfl rfl (by rw [mask_all (by omega)]; simp) (eqU x (0#64) rfl rfl rfl rfl (k (gy rfl rfl rfl (by rw [mask_all (by omega)]; simp) (mv rfl rfl ?_)))))))))))))))
    rcases Bool.eq_false_or_eq_true (decide (x = (0#64))) with b1 | b1
    · -- decide (x = (0#64)) is True
      have p1 := of_decide_eq_true b1
      refine k (gy rfl rfl rfl b1 (mv rfl rfl (k (gy rfl rfl rfl b1 (eql rfl rfl rfl rfl (k (gy rfl rfl rfl (by rw [mask_all (by omega)]; simp) (pickT rfl rfl rfl rfl b1 rfl (k (gy rfl rfl rfl (by rw [mask_all (by omega)]; simp) (mv rfl rfl (k (gn rfl rfl rfl (by have e_ := ‹decide (x = 0#64) = true›; simp only [decide_eq_true_eq] at e_; subst e_; rw [firstW_zero]; decide) (k (gn rfl rfl rfl (by have e_ := ‹decide (x = 0#64) = true›; simp only [decide_eq_true_eq] at e_; subst e_; rw [firstW_zero]; decide) (k (gn rfl rfl rfl (by have e_ := ‹decide (x = 0#64) = true›; simp only [decide_eq_true_eq] at e_; subst e_; rw [firstW_zero]; decide) (k (gu rfl rfl rfl (k (gu rfl rfl rfl (k (gu rfl rfl rfl (k (gn rfl rfl rfl (by have e_ := ‹decide (x = 0#64) = true›; simp only [decide_eq_true_eq] at e_; subst e_; rw [firstW_zero]; decide) (k (gn rfl rfl rfl (by have e_ := ‹decide (x = 0#64) = true›; simp only [decide_eq_true_eq] at e_; subst e_; rw [firstW_zero]; decide) (k (gu rfl rfl rfl (k (gu rfl rfl rfl (k (gu rfl rfl rfl (k (gu rfl rfl rfl (k (gu rfl rfl rfl (k (gn rfl rfl rfl (by have e_ := ‹decide (x = 0#64) = true›; simp only [decide_eq_true_eq] at e_; subst e_; rw [firstW_zero]; decide) (k (gy rfl rfl rfl (by rw [mask_all (by omega)]; simp) (pickT rfl rfl rfl rfl (by have e_ := ‹decide (x = 0#64) = true›; simp only [decide_eq_true_eq] at e_; subst e_; rw [firstW_zero]; decide) rfl (k (pickT rfl rfl rfl rfl (by rw [mask_all (by omega)]; simp) rfl (k (asg rfl rfl (z (nx (rt (r1 rfl rfl ?_))))))))))))))))))))))))))))))))))))))))))))))))))
      exact ⟨rfl, H3.below⟩
    · -- decide (x = (0#64)) is False
      have p1 := of_decide_eq_false b1
      refine k (gn rfl rfl rfl b1 (k (gn rfl rfl rfl b1 (k (gy rfl rfl rfl (by rw [mask_all (by omega)]; simp) (pickF rfl rfl rfl rfl b1 rfl (k (gy rfl rfl rfl (by rw [mask_all (by omega)]; simp) (mv rfl rfl (k (gy rfl rfl rfl rfl (mv rfl s0 (k (gy rfl rfl rfl rfl (neU x (0#64) rfl rfl rfl rfl (k (gy rfl rfl rfl rfl (mv rfl rfl (k (gy rfl rfl rfl (by rw [show decide (x = (0#64)) = false from b1]; rfl) (mv rfl s0 (k (gy rfl rfl rfl (by rw [show decide (x = (0#64)) = false from b1]; rfl) (mv rfl rfl (k (gy rfl rfl rfl (by rw [show decide (x = (0#64)) = false from b1]; rfl) ?_))))))))))))))))))))))))))
      have cc3 := word_Has (x := x) (i := ((firstW x : Nat) : Int)) (w := w3) (by have h_ := firstW_le x; unfold I64; omega)
      refine ca go9 rfl (ec rfl (ec rfl e0)) cc3 ?_
      rintro _ w4 ⟨rfl, xt3⟩
      have H4 := H3.ext xt3
      refine k (gy rfl rfl rfl rfl (pickT rfl rfl rfl rfl (by rw [show decide (x = (0#64)) = false from b1]; rfl) rfl (k (gy rfl rfl rfl rfl (mv rfl rfl (k (gy rfl rfl rfl (by have e_ := ‹decide (x = 0#64) = false›; simp only [decide_eq_false_iff_not] at e_; exact first_has e_) (mv rfl s0 (k (gy rfl rfl rfl (by have e_ := ‹decide (x = 0#64) = false›; simp only [decide_eq_false_iff_not] at e_; exact first_has e_) (mv rfl rfl (k (gy rfl rfl rfl (by have e_ := ‹decide (x = 0#64) = false›; simp only [decide_eq_false_iff_not] at e_; exact first_has e_) ?_)))))))))))))
      have cc4 := word_Low (i := ((firstW x : Nat) : Int)) (w := w4) (by have h_ := firstW_le x; unfold I64; omega)
      refine ca go15 rfl (ec rfl e0) cc4 ?_
      rintro _ w5 ⟨rfl, xt4⟩
      have H5 := H4.ext xt4
      refine k (gy rfl rfl rfl (by have e_ := ‹decide (x = 0#64) = false›; simp only [decide_eq_false_iff_not] at e_; exact first_has e_) (andU x (lowW ((firstW x : Nat) : Int)) rfl rfl rfl rfl (k (gy rfl rfl rfl (by have e_ := ‹decide (x = 0#64) = false›; simp only [decide_eq_false_iff_not] at e_; exact first_has e_) (eqU (x &&& (lowW ((firstW x : Nat) : Int))) (0#64) rfl rfl rfl rfl (k (gy rfl rfl rfl rfl (pickT rfl rfl rfl rfl (by have e_ := ‹decide (x = 0#64) = false›; simp only [decide_eq_false_iff_not] at e_; exact first_has e_) rfl (k (gy rfl rfl rfl (by rw [mask_all (by omega)]; simp) (pickF rfl rfl rfl rfl rfl rfl (k (pickT rfl rfl rfl rfl (by rw [mask_all (by omega)]; simp) rfl (k (asg rfl rfl (z (nx (rt (r1 rfl rfl ?_)))))))))))))))))))
      have e0 : (decide ((x &&& (lowW ((firstW x : Nat) : Int))) = (0#64)) : Bool) = true := by exact (by have e_ := ‹decide (x = 0#64) = false›; simp only [decide_eq_false_iff_not] at e_; rw [mask_first e_]; decide)
      have ev_ := cg1 (fun (x_0 : Bool) => (.bool x_0 : Value)) e0
      exact ⟨ev_, H5.below⟩
/- eyewitness/eyewitnesslaw01.WordLow -/
set_option maxRecDepth 100000 in
set_option maxHeartbeats 200000 in
theorem law_WordLow {w : World} {n : Int} {i : Int} (hT : TabAt 0 w) (h_n : I64 n) (h_i : 0 ≤ i ∧ i ≤ 255) : Calls Tryd.prog 5 #[.int .i64 n, .int .u8 i] w (Ret fun v w' =>  v = .bool true ∧ Ext w w') := by
  refine enter 30 Tryd.func5 rfl rfl rfl fun f0 ha => ?_
  have H := HI.start (M0 := (fun _ => False)) (w := w) (fun _ h => h.elim)
  have i0 : f0 0 = .int .i64 n := ha 0 (by simp)
  have i1 : f0 1 = .int .u8 i := ha 1 (by simp)
  refine sq (rg (k (asg rfl rfl (z (nx (sq (rg (k (mv rfl i0 (k ?_))))))))))
  have cc0 := word_Low (i := n) (w := w) (by unfold I64 at *; omega)
  refine ca go15 rfl (ec rfl e0) cc0 ?_
  rintro _ w0 ⟨rfl, xt0⟩
  have H0 := H.ext xt0
  refine k (asg rfl rfl (z (nx (sq (rg (k (mv rfl i1 (k (rem rfl rfl rfl rfl (by first | omega | (simp; omega)) (k (cvI rfl rfl (by unfold I64; omega) un5 un3 (k (asg rfl rfl (z (nx (sq (rg (k ?_))))))))))))))))))
  have cc1 := awake01 (w := w0) (hT.ext H0.below)
  refine ca go6 rfl e0 cc1 ?_
  rintro _ w1 ⟨rfl, xt1⟩
  have H1 := H0.ext xt1
  refine k (mv rfl rfl (k (gy rfl rfl rfl rfl (mv rfl rfl (k (gy rfl rfl rfl rfl ?_))))))
  have cc2 := word_Count (x := (lowW n)) (w := w1)
  refine ca go11 rfl (ec rfl e0) cc2 ?_
  rintro _ w2 ⟨rfl, xt2⟩
  have H2 := H1.ext xt2
  refine k (gy rfl rfl rfl rfl (mv rfl i0 (k (gy rfl rfl rfl rfl (max2 rfl rfl rfl rfl (k (gy rfl rfl rfl rfl (min2 rfl rfl rfl rfl (k (gy rfl rfl rfl rfl (eql rfl rfl rfl rfl (k (pickT rfl rfl rfl rfl rfl rfl (k (mv rfl rfl (k (gy rfl rfl rfl (by rw [countW_low]; simp) (mv rfl rfl (k (gy rfl rfl rfl (by rw [countW_low]; simp) (mv rfl rfl (k (gy rfl rfl rfl (by rw [countW_low]; simp) ?_)))))))))))))))))))))))
  have cc3 := word_Has (x := (lowW n)) (i := (i % 64)) (w := w2) (by unfold I64; omega)
  refine ca go9 rfl (ec rfl (ec rfl e0)) cc3 ?_
  rintro _ w3 ⟨rfl, xt3⟩
  have H3 := H2.ext xt3
  refine k (gy rfl rfl rfl (by rw [countW_low]; simp) (mv rfl rfl (k (gy rfl rfl rfl (by rw [countW_low]; simp) (mv rfl i0 (k (gy rfl rfl rfl (by rw [countW_low]; simp) (lss rfl rfl rfl rfl (k (gy rfl rfl rfl (by rw [countW_low]; simp) (eqB rfl rfl rfl rfl un4 (k (pickT rfl rfl rfl rfl (by rw [countW_low]; simp) rfl (k (asg rfl rfl (z (nx (rt (r1 rfl rfl ?_)))))))))))))))))))
  have e0 : ((hasW (lowW n) (i % 64)) == (decide ((i % 64) < n)) : Bool) = true := by exact (by rw [hasW_low (by omega) (by omega)]; simp)
  have ev_ := cg1 (fun (x_0 : Bool) => (.bool x_0 : Value)) e0
  exact ⟨ev_, H3.below⟩
end Go.Proofs.YtceongmapgpnkaaDoor
