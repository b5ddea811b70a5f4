/- PRINTED by my own tool (wip/tool/gen.py): contracts of Go functions of this seat, each with its proof. -/
import Derived.Test.YtmhopljngkgidaaDoorOwnA
import Derived.Test.YtmhopljngkgidaaDoorOwnB
import Derived.Test.YtmhopljngkgidaaDoorGenA
import Derived.Test.YtmhopljngkgidaaDoorOwnC
namespace Go.Proofs.YtmhopljngkgidaaDoor
open Go.Ew Go.RowKit
set_option linter.unusedVariables false
set_option linter.unusedSimpArgs false
attribute [local irreducible] WL WC SO Code.wp wpList retQ Ret
attribute [local irreducible] bitB hasW inR hasR setR countW countR subR words newR listR orR firstW tab8
theorem go73 : GoF Tryd.prog 73 := ⟨_, _, Tryd.func73, rfl, by kernel_rfl⟩
theorem go74 : GoF Tryd.prog 74 := ⟨_, _, Tryd.func74, rfl, by kernel_rfl⟩
theorem go75 : GoF Tryd.prog 75 := ⟨_, _, Tryd.func75, rfl, by kernel_rfl⟩
theorem go26 : GoF Tryd.prog 26 := ⟨_, _, Tryd.func26, rfl, by kernel_rfl⟩
theorem go28 : GoF Tryd.prog 28 := ⟨_, _, Tryd.func28, rfl, by kernel_rfl⟩
theorem go66 : GoF Tryd.prog 66 := ⟨_, _, Tryd.func66, rfl, by kernel_rfl⟩
theorem go72 : GoF Tryd.prog 72 := ⟨_, _, Tryd.func72, rfl, by kernel_rfl⟩
theorem go45 : GoF Tryd.prog 45 := ⟨_, _, Tryd.func45, rfl, by kernel_rfl⟩
/- eyewitness/eyewitnessref03.in -/
set_option maxRecDepth 100000 in
set_option maxHeartbeats 1600000 in
theorem ref03_in {w : World} {mn : Int} {a_mu : Option Addr} {n_mu c_mu : Nat} {i : Int} {j : Int} (h_mn : I64 mn) (h_i : I64 i) (h_j : I64 j) : Calls Tryd.prog 74 #[.agg #[.int .i64 mn, .slice a_mu n_mu c_mu], .int .i64 i, .int .i64 j] w (Ret fun v w' =>  v = .bool (inM mn [i, j]) ∧ Ext w w') := by
  refine enter 25 Tryd.func74 rfl rfl rfl fun f0 ha => ?_
  have H := HI.start (M0 := (fun _ => False)) (w := w) (fun _ h => h.elim)
  have i0 : f0 0 = .agg #[.int .i64 mn, .slice a_mu n_mu c_mu] := ha 0 (by simp)
  have i1 : f0 1 = .int .i64 i := ha 1 (by simp)
  have i2 : f0 2 = .int .i64 j := ha 2 (by simp)
  refine sq (rg (k (bx H rfl i0 ?_)))
  intro bb0 w0 xt0 (H0 : HI (fun _ => False) w w0 [box bb0 #[.int .i64 mn, .slice a_mu n_mu c_mu] 24])
  refine k (asg (v := .bool false) rfl rfl (z (nx (sq (rg (k (mv rfl i1 (k (geq rfl rfl rfl rfl (k (mv (v := .bool (decide (0 ≤ i))) rfl rfl ?_)))))))))))
  rcases Bool.eq_false_or_eq_true (decide (0 ≤ i)) with b0 | b0
  · -- decide (0 ≤ i) is True
    have p0 := of_decide_eq_true b0
    refine k (gy rfl rfl rfl b0 (mv rfl i1 (k (gy rfl rfl rfl b0 (fa fl24_0 rfl rfl (k (gy rfl rfl rfl b0 (ldX H0 0 rfl ty3 rfl rfl (by decide) rfl (k (gy rfl rfl rfl b0 (lss rfl rfl rfl rfl (k (pickT rfl rfl rfl rfl b0 rfl (k (mv (v := .bool (decide (i < mn))) rfl rfl ?_)))))))))))))))
    rcases Bool.eq_false_or_eq_true (decide (i < mn)) with b1 | b1
    · -- decide (i < mn) is True
      have p1 := of_decide_eq_true b1
      refine k (gy rfl rfl rfl b1 (mv rfl i2 (k (gy rfl rfl rfl b1 (geq rfl rfl rfl rfl (k (pickT rfl rfl rfl rfl b1 rfl (k (mv (v := .bool (decide (0 ≤ j))) rfl rfl ?_)))))))))
      rcases Bool.eq_false_or_eq_true (decide (0 ≤ j)) with b2 | b2
      · -- decide (0 ≤ j) is True
        have p2 := of_decide_eq_true b2
        refine k (gy rfl rfl rfl b2 (mv rfl i2 (k (gy rfl rfl rfl b2 (fa fl24_0 rfl rfl (k (gy rfl rfl rfl b2 (ldX H0 0 rfl ty3 rfl rfl (by decide) rfl (k (gy rfl rfl rfl b2 (lss rfl rfl rfl rfl (k (pickT rfl rfl rfl rfl b2 rfl (k (asg (v := .bool (decide (j < mn))) rfl rfl (z (nx (rt (r1 rfl rfl ?_)))))))))))))))))))
        have e0 : (decide (j < mn) : Bool) = inM mn [i, j] := by rw [inM_eq]; simp_all <;> omega
        have ev_ := cg1 (fun (x_0 : Bool) => (.bool x_0 : Value)) e0
        exact ⟨ev_, H0.below⟩
      · -- decide (0 ≤ j) is False
        have p2 := of_decide_eq_false b2
        refine k (gn rfl rfl rfl b2 (k (gn rfl rfl rfl b2 (k (gn rfl rfl rfl b2 (k (gn rfl rfl rfl b2 (k (pickF rfl rfl rfl rfl b2 rfl (k (asg (v := .bool false) rfl rfl (z (nx (rt (r1 rfl rfl ?_)))))))))))))))
        have e0 : (false : Bool) = inM mn [i, j] := by rw [inM_eq]; simp_all <;> omega
        have ev_ := cg1 (fun (x_0 : Bool) => (.bool x_0 : Value)) e0
        exact ⟨ev_, H0.below⟩
    · -- decide (i < mn) is False
      have p1 := of_decide_eq_false b1
      refine k (gn rfl rfl rfl b1 (k (gn rfl rfl rfl b1 (k (pickF rfl rfl rfl rfl b1 rfl (k (mv (v := .bool false) rfl rfl (k (gn rfl rfl rfl rfl (k (gn rfl rfl rfl rfl (k (gn rfl rfl rfl rfl (k (gn rfl rfl rfl rfl (k (pickF rfl rfl rfl rfl rfl rfl (k (asg (v := .bool false) rfl rfl (z (nx (rt (r1 rfl rfl ?_)))))))))))))))))))))))
      have e0 : (false : Bool) = inM mn [i, j] := by rw [inM_eq]; simp_all <;> omega
      have ev_ := cg1 (fun (x_0 : Bool) => (.bool x_0 : Value)) e0
      exact ⟨ev_, H0.below⟩
  · -- decide (0 ≤ i) is False
    have p0 := of_decide_eq_false b0
    refine k (gn rfl rfl rfl b0 (k (gn rfl rfl rfl b0 (k (gn rfl rfl rfl b0 (k (gn rfl rfl rfl b0 (k (pickF rfl rfl rfl rfl b0 rfl (k (mv (v := .bool false) rfl rfl (k (gn rfl rfl rfl rfl (k (gn rfl rfl rfl rfl (k (pickF rfl rfl rfl rfl rfl rfl (k (mv (v := .bool false) rfl rfl (k (gn rfl rfl rfl rfl (k (gn rfl rfl rfl rfl (k (gn rfl rfl rfl rfl (k (gn rfl rfl rfl rfl (k (pickF rfl rfl rfl rfl rfl rfl (k (asg (v := .bool false) rfl rfl (z (nx (rt (r1 rfl rfl ?_)))))))))))))))))))))))))))))))))))
    have e0 : (false : Bool) = inM mn [i, j] := by rw [inM_eq]; simp_all <;> omega
    have ev_ := cg1 (fun (x_0 : Bool) => (.bool x_0 : Value)) e0
    exact ⟨ev_, H0.below⟩
/- eyewitness/eyewitnessref03.New -/
set_option maxRecDepth 100000 in
set_option maxHeartbeats 1600000 in
theorem ref03_New {M : Nat → Prop} {w : World} {n : Int} (hM : ∀ b, M b → b < w.heap.size) (h_n : I64 n) : Calls Tryd.prog 26 #[.int .i64 n] w (Ret fun v w' => ∃ (a0 : Option Addr) (c0 : Nat), v = .tuple #[.agg #[.int .i64 (newMN n), .slice a0 (newMR n).length c0], .int .i64 (newME n)] ∧ Ext w w' ∧ OwnsG M 73 w (newMR n) (.slice a0 (newMR n).length c0) w') := by
  refine enter 28 Tryd.func26 rfl rfl rfl fun f0 ha => ?_
  have H := HI.start (M0 := M) (w := w) hM
  have i0 : f0 0 = .int .i64 n := ha 0 (by simp)
  refine sq (rg (k (al H ty24 ?_)))
  intro bb0 w0 xt0 (H0 : HI M w w0 [box bb0 #[.int .i64 0, .slice none 0 0] 24])
  refine k (asg (v := .int .i64 0) rfl rfl (z (nx (sq (sq (rg (k (mv rfl i0 (k (lss rfl rfl rfl rfl (k (mv (v := .bool (decide (n < 0))) rfl rfl ?_))))))))))))
  rcases Bool.eq_false_or_eq_true (decide (n < 0)) with b0 | b0
  · -- decide (n < 0) is True
    have p0 := of_decide_eq_true b0
    refine k (gn rfl rfl rfl b0 (k (gn rfl rfl rfl b0 (k (pickT rfl rfl rfl rfl b0 rfl (z (nx (cdT rfl rfl rfl (sq (rg (k (bd (v := .agg #[.int .i64 0, .slice none 0 0]) rfl pb0 (fun _ => by kernel_rfl) (k (stX H0 0 rfl ty24 rfl rfl rfl rfl rfl rfl rfl ?_))))))))))))))
    intro w1 (H1 : HI M w w1 [box bb0 #[.int .i64 0, .slice none 0 0] 24])
    refine k (asg (v := .int .i64 1) rfl rfl (z (nx (rt (then_ret (rc2 H1 0 rfl ty24 rfl rfl rfl rfl rfl (by decide) ?_))))))
    have e0 : (0 : Int) = newMN n := by first | exact (newM_no (okN_no.2 (by omega))).1.symm | exact (newM_yes (okN_iff.2 (by omega))).1.symm
    have e1 : ([] : List (List (BitVec 64))) = newMR n := by first | exact (newM_no (okN_no.2 (by omega))).2.1.symm | (rw [(newM_yes (okN_iff.2 (by omega))).2.1, hs, show j = n.toNat from by omega]; rfl)
    have e2 : (1 : Int) = newME n := by first | exact (newM_no (okN_no.2 (by omega))).2.2.symm | exact (newM_yes (okN_iff.2 (by omega))).2.2.symm
    have ev_ := cg3 (fun (x_0 : Int) (x_1 : List (List (BitVec 64))) (x_2 : Int) => (.tuple #[.agg #[.int .i64 x_0, .slice none x_1.length 0], .int .i64 x_2] : Value)) e0 e1 e2
    exact ⟨none, 0, ev_, H1.below, (congrArg (fun (x_ : List (List (BitVec 64))) => OwnsG _ _ _ x_ (.slice none x_.length 0) _) e1).mp (ownsG_nil H1.below)⟩
  · -- decide (n < 0) is False
    have p0 := of_decide_eq_false b0
    refine k (gy rfl rfl rfl b0 (mv rfl i0 (k (gy rfl rfl rfl b0 (gtr rfl rfl rfl rfl (k (pickF rfl rfl rfl rfl b0 rfl (z (nx ?_)))))))))
    refine cd (b := decide (4096 < n)) rfl rfl (fun b1 => ?_) (fun b1 => ?_)
    ·
      have p1 := of_decide_eq_true b1
      refine sq (rg (k (bd (v := .agg #[.int .i64 0, .slice none 0 0]) rfl pb0 (fun _ => by kernel_rfl) (k (stX H0 0 rfl ty24 rfl rfl rfl rfl rfl rfl rfl ?_)))))
      intro w1 (H1 : HI M w w1 [box bb0 #[.int .i64 0, .slice none 0 0] 24])
      refine k (asg (v := .int .i64 1) rfl rfl (z (nx (rt (then_ret (rc2 H1 0 rfl ty24 rfl rfl rfl rfl rfl (by decide) ?_))))))
      have e0 : (0 : Int) = newMN n := by first | exact (newM_no (okN_no.2 (by omega))).1.symm | exact (newM_yes (okN_iff.2 (by omega))).1.symm
      have e1 : ([] : List (List (BitVec 64))) = newMR n := by first | exact (newM_no (okN_no.2 (by omega))).2.1.symm | (rw [(newM_yes (okN_iff.2 (by omega))).2.1, hs, show j = n.toNat from by omega]; rfl)
      have e2 : (1 : Int) = newME n := by first | exact (newM_no (okN_no.2 (by omega))).2.2.symm | exact (newM_yes (okN_iff.2 (by omega))).2.2.symm
      have ev_ := cg3 (fun (x_0 : Int) (x_1 : List (List (BitVec 64))) (x_2 : Int) => (.tuple #[.agg #[.int .i64 x_0, .slice none x_1.length 0], .int .i64 x_2] : Value)) e0 e1 e2
      exact ⟨none, 0, ev_, H1.below, (congrArg (fun (x_ : List (List (BitVec 64))) => OwnsG _ _ _ x_ (.slice none x_.length 0) _) e1).mp (ownsG_nil H1.below)⟩
    ·
      have p1 := of_decide_eq_false b1
      refine sk (nx (sq (rg (k (mv rfl i0 (k (bd (v := .agg #[.int .i64 n, .slice none 0 0]) rfl (pbc rfl pb0) (fun _ => by kernel_rfl) (k (al H0 ty24 ?_)))))))))
      intro bb1 w1 xt1 (H1 : HI M w w1 [box bb1 #[.int .i64 0, .slice none 0 0] 24, box bb0 #[.int .i64 0, .slice none 0 0] 24])
      refine k (stX H1 0 rfl ty24 rfl rfl rfl rfl rfl rfl rfl ?_)
      intro w2 (H2 : HI M w w2 [box bb1 #[.int .i64 n, .slice none 0 0] 24, box bb0 #[.int .i64 0, .slice none 0 0] 24])
      refine z (nx (sq (sq (rg (k (asg (v := .int .i64 0) rfl rfl (z (nx (bk ?_)))))))))
      have H3 := H2.nil_ (List (BitVec 64)) 73
      refine lp (fun m f w' => ∃ (j : Nat) (xs : List (List (BitVec 64))) (a0 : Option Addr) (c0 : Nat), m = n.toNat - j ∧ f 0 = .int .i64 n ∧ f 2 = .pointer (some ⟨bb0, 0, none⟩) ∧ f 4 = .pointer (some ⟨bb1, 0, none⟩) ∧ f 5 = .int .i64 (j : Int) ∧  HI M w w' [own w.heap.size 73 (.slice a0 xs.length c0) xs, box bb1 #[.int .i64 n, .slice a0 xs.length c0] 24, box bb0 #[.int .i64 0, .slice none 0 0] 24] ∧ (j ≤ n.toNat) ∧ (xs = List.replicate j (newR n))) _ ⟨0, ([] : List (List (BitVec 64))), none, 0, rfl, i0, rfl, rfl, (ieq rfl (by first | rfl | omega | simp)), H3, (by first | assumption | omega | simp | (simp; omega)), (by rfl)⟩ ?_
      rintro _ f0 w3 ⟨j, xs, a0, c0, rfl, s0, s1, s2, s3, H4, hk, hs⟩
      refine sq (sq (rg (k (mv rfl s3 (k (mv rfl s0 (k (lss rfl rfl rfl rfl (z (nx ?_))))))))))
      refine cd (b := decide ((j : Int) < n)) rfl rfl (fun b2 => ?_) (fun b2 => ?_)
      ·
        have p2 := of_decide_eq_true b2
        refine sk (nx (sq (bk ?_)))
        refine dr 5 [fun (v : Value) (w' : World) => v = .pointer (some ⟨bb1, 1, none⟩), fun (v : Value) (w' : World) => v = .slice a0 xs.length c0, fun (v : Value) (w' : World) => v = .int .i64 n, fun (v : Value) (w' : World) => ∃ (a1 : Option Addr) (c1 : Nat), v = .slice a1 (newR n).length c1 ∧ RV (MS M [own w.heap.size 73 (.slice a0 xs.length c0) xs, box bb1 #[.int .i64 n, .slice a0 xs.length c0] 24, box bb0 #[.int .i64 0, .slice none 0 0] 24]) w' (.slice a1 (newR n).length c1) (newR n), fun (v : Value) (w' : World) => ∃ (a2 : Option Addr) (c2 : Nat), v = .slice a2 ([newR n] : List (List (BitVec 64))).length c2 ∧ RV (MS M [own w.heap.size 73 (.slice a0 xs.length c0) xs, box bb1 #[.int .i64 n, .slice a0 xs.length c0] 24, box bb0 #[.int .i64 0, .slice none 0 0] 24]) w' (.slice a2 ([newR n] : List (List (BitVec 64))).length c2) ([newR n] : List (List (BitVec 64)))] rfl (by kernel_rfl) ?_ ?_
        ·
          refine ⟨fun _ => ⟨fun f1 w6 hf0 xt4 hp0 => ?_, fun _ _ _ _ h => h⟩, ?_⟩
          ·
            have H9 := H4.ext xt4
            refine fa fl24_1 rfl ((hf0 4 rfl).trans s2) ?_
            exact ⟨_, rfl, Ext.refl _, rfl⟩
          refine ⟨fun _ => ⟨fun f2 w7 hf1 xt5 hp1 => ?_, fun _ _ _ _ h => h⟩, ?_⟩
          ·
            have H10 := H4.ext xt5
            have s4 : f2 20 = .pointer (some ⟨bb1, 1, none⟩) := hp1 0 rfl rfl
            refine ldX H10 1 rfl ty22 rfl s4 (by decide) rfl ?_
            exact ⟨_, rfl, Ext.refl _, rfl⟩
          refine ⟨fun _ => ⟨fun f3 w8 hf2 xt6 hp2 => ?_, fun _ _ _ _ h => h⟩, ?_⟩
          ·
            have H11 := H4.ext xt6
            refine mv rfl ((hf2 0 rfl).trans s0) ?_
            exact ⟨_, rfl, Ext.refl _, rfl⟩
          refine ⟨fun _ => ⟨fun f4 w9 hf3 xt7 hp3 => ?_, by rintro _ _ _ x_ ⟨a1, c1, e_, rv1⟩; exact ⟨a1, c1, e_, rv1.lift (Up.ext x_)⟩⟩, ?_⟩
          ·
            have H12 := H4.ext xt7
            have s5 : f4 22 = .int .i64 n := hp3 2 rfl rfl
            have cc1 := ref02_New (n := n) (w := w9) H12.mb (by unfold I64 at *; omega) (by first | omega | (simp; omega))
            refine ca go73 rfl (ec s5 e0) cc1 ?_
            rintro _ w10 ⟨a3, c3, rfl, xt8, rv3⟩
            have rv4 := OwnsG.rv rv3 H12.mb
            have H13 := H12.ext xt8
            have H14 := H13.put (it := imm (.slice a3 (newR n).length c3) (newR n)) rfl rv4
            exact ⟨_, rfl, xt8, ⟨a3, c3, rfl, rv4⟩⟩
          refine ⟨fun _ => ⟨fun f5 w11 hf4 xt9 hp4 => ?_, by rintro _ _ _ x_ ⟨a2, c2, e_, rv2⟩; exact ⟨a2, c2, e_, rv2.lift (Up.ext x_)⟩⟩, ?_⟩
          ·
            have H15 := H4.ext xt9
            obtain ⟨a4, c4, s6, rv5⟩ : ∃ (a4 : Option Addr) (c4 : Nat), f5 23 = .slice a4 (newR n).length c4 ∧ RV (MS M [own w.heap.size 73 (.slice a0 xs.length c0) xs, box bb1 #[.int .i64 n, .slice a0 xs.length c0] 24, box bb0 #[.int .i64 0, .slice none 0 0] 24]) w11 (.slice a4 (newR n).length c4) (newR n) := hp4 3 rfl rfl
            have H16 := H15.put (it := imm (.slice a4 (newR n).length c4) (newR n)) rfl rv5
            refine bs (xs := ([newR n] : List (List (BitVec 64)))) (cells := #[.slice a4 (newR n).length c4]) (e := 73) H16 rfl (pbc s6 pb0) (fun _ => by kernel_rfl) ⟨[.slice a4 (newR n).length c4], [], rfl, ⟨_, rfl, RV.list.1 (H16.rv 0 rfl)⟩, rfl⟩ rfl (by unfold maxLen; omega) ?_
            intro g1 w12 xt10 (H17 : HI M w w12 [own w.heap.size 73 (.slice (some ⟨g1, 0, none⟩) 1 1) ([newR n] : List (List (BitVec 64))), imm (.slice a4 (newR n).length c4) (newR n), own w.heap.size 73 (.slice a0 xs.length c0) xs, box bb1 #[.int .i64 n, .slice a0 xs.length c0] 24, box bb0 #[.int .i64 0, .slice none 0 0] 24])
            have H18 := H17.freeze 0 rfl
            exact ⟨_, rfl, xt10, ⟨(some ⟨g1, 0, none⟩), 1, rfl, (rv_drop rfl (rv_drop rfl (H18.rv 0 rfl)))⟩⟩
          exact DSteps.rest rfl _
        · intro f6 w13 hf5 xt11 hp5
          have H19 := H4.ext xt11
          have s7 : f6 0 = .int .i64 n := (hf5 0 rfl).trans s0
          have s8 : f6 2 = .pointer (some ⟨bb0, 0, none⟩) := (hf5 2 rfl).trans s1
          have s9 : f6 4 = .pointer (some ⟨bb1, 0, none⟩) := (hf5 4 rfl).trans s2
          have s10 : f6 5 = .int .i64 (j : Int) := (hf5 5 rfl).trans s3
          have s11 : f6 21 = .slice a0 xs.length c0 := hp5 1 rfl
          obtain ⟨a5, c5, s12, rv6⟩ : ∃ (a5 : Option Addr) (c5 : Nat), f6 24 = .slice a5 ([newR n] : List (List (BitVec 64))).length c5 ∧ RV (MS M [own w.heap.size 73 (.slice a0 xs.length c0) xs, box bb1 #[.int .i64 n, .slice a0 xs.length c0] 24, box bb0 #[.int .i64 0, .slice none 0 0] 24]) w13 (.slice a5 ([newR n] : List (List (BitVec 64))).length c5) ([newR n] : List (List (BitVec 64))) := hp5 4 rfl
          have H20 := H19.put (it := imm (.slice a5 ([newR n] : List (List (BitVec 64))).length c5) ([newR n] : List (List (BitVec 64)))) rfl rv6
          refine k (ap H20 1 rfl rfl rfl rfl s11 s12 (H20.rv 0 rfl).src un22 ty73 rfl (by rw [hs]; simp; omega) (by rw [hs]; simp; omega) ?_)
          intro a6 c6 w14 (H21 : HI M w w14 [imm (.slice a5 ([newR n] : List (List (BitVec 64))).length c5) ([newR n] : List (List (BitVec 64))), own w.heap.size 73 (.slice a6 (xs ++ ([newR n] : List (List (BitVec 64)))).length c6) (xs ++ ([newR n] : List (List (BitVec 64)))), box bb1 #[.int .i64 n, .slice a0 xs.length c0] 24, box bb0 #[.int .i64 0, .slice none 0 0] 24])
          refine k (fa fl24_1 rfl s9 (k (stX H21 2 rfl ty22 rfl rfl rfl rfl rfl rfl rfl ?_)))
          intro w15 (H22 : HI M w w15 [imm (.slice a5 ([newR n] : List (List (BitVec 64))).length c5) ([newR n] : List (List (BitVec 64))), own w.heap.size 73 (.slice a6 (xs ++ ([newR n] : List (List (BitVec 64)))).length c6) (xs ++ ([newR n] : List (List (BitVec 64)))), box bb1 #[.int .i64 n, .slice a6 (xs ++ ([newR n] : List (List (BitVec 64)))).length c6] 24, box bb0 #[.int .i64 0, .slice none 0 0] 24])
          refine z (inb_normal (nx (rg (k (mv rfl s10 (k (add rfl rfl rfl rfl (by unfold I64 at *; omega) (k (asg (v := .int .i64 ((j : Int) + 1)) rfl rfl (z ?_))))))))))
          have H23 : HI M w w15 [own w.heap.size 73 (.slice a6 (xs ++ ([newR n] : List (List (BitVec 64)))).length c6) (xs ++ ([newR n] : List (List (BitVec 64)))), box bb1 #[.int .i64 n, .slice a6 (xs ++ ([newR n] : List (List (BitVec 64)))).length c6] 24, box bb0 #[.int .i64 0, .slice none 0 0] 24] := H22.pickN [1, 2, 3] (by decide) rfl
          refine loopN _ ?_ ⟨(j + 1), (xs ++ ([newR n] : List (List (BitVec 64)))), a6, c6, rfl, s7, s8, s9, (ieq rfl (by first | rfl | omega | (push_cast; omega))), H23, (by first | assumption | omega | simp | (simp; omega)), (by rw [hs, List.replicate_succ'])⟩
          omega
      ·
        have p2 := of_decide_eq_false b2
        refine ex (then_exit (loop_exit (inb_here (nx (sq (rg (k (ldX H4 1 rfl ty24 rfl s2 (by decide) rfl (k (stX H4 2 rfl ty24 rfl rfl s1 rfl rfl rfl rfl ?_))))))))))
        intro w4 (H5 : HI M w w4 [own w.heap.size 73 (.slice a0 xs.length c0) xs, box bb1 #[.int .i64 n, .slice a0 xs.length c0] 24, box bb0 #[.int .i64 n, .slice a0 xs.length c0] 24])
        refine k (asg (v := .int .i64 0) rfl rfl (z (nx (rt (rc2 H5 2 rfl ty24 rfl rfl rfl s1 rfl (by decide) ?_)))))
        have e0 : (n : Int) = newMN n := by first | exact (newM_no (okN_no.2 (by omega))).1.symm | exact (newM_yes (okN_iff.2 (by omega))).1.symm
        have e1 : (xs : List (List (BitVec 64))) = newMR n := by first | exact (newM_no (okN_no.2 (by omega))).2.1.symm | (rw [(newM_yes (okN_iff.2 (by omega))).2.1, hs, show j = n.toNat from by omega]; rfl)
        have e2 : (0 : Int) = newME n := by first | exact (newM_no (okN_no.2 (by omega))).2.2.symm | exact (newM_yes (okN_iff.2 (by omega))).2.2.symm
        have ev_ := cg3 (fun (x_0 : Int) (x_1 : List (List (BitVec 64))) (x_2 : Int) => (.tuple #[.agg #[.int .i64 x_0, .slice a0 x_1.length c0], .int .i64 x_2] : Value)) e0 e1 e2
        exact ⟨a0, c0, ev_, H5.below, (congrArg (fun (x_ : List (List (BitVec 64))) => OwnsG _ _ _ x_ (.slice a0 x_.length c0) _) e1).mp (H5.ownsG_out 0 rfl)⟩
/- eyewitness/eyewitnessref03.Set -/
set_option maxRecDepth 100000 in
set_option maxHeartbeats 1600000 in
theorem ref03_Set {M : Nat → Prop} {w : World} {mn : Int} {a_mr : Option Addr} {c_mr : Nat} {mr : List (List (BitVec 64))} {i : Int} {j : Int} (hM : ∀ b, M b → b < w.heap.size) (h_mn : I64 mn) (h_mr : RV M w (.slice a_mr mr.length c_mr) mr) (h_i : I64 i) (h_j : I64 j) (hsq_m : ((mr.length : Nat) : Int) = mn) (hrw_m : ∀ x ∈ mr, x.length ≤ 1000000000) (hl4_m : mn ≤ 4096) : Calls Tryd.prog 28 #[.agg #[.int .i64 mn, .slice a_mr mr.length c_mr], .int .i64 i, .int .i64 j] w (Ret fun v w' => ∃ (a0 : Option Addr) (c0 : Nat), v = .tuple #[.agg #[.int .i64 (setMN mn i j), .slice a0 (setMR mn mr i j).length c0], .int .i64 (setME mn i j)] ∧ Ext w w' ∧ OwnsG M 73 w (setMR mn mr i j) (.slice a0 (setMR mn mr i j).length c0) w') := by
  refine enter 32 Tryd.func28 rfl rfl rfl fun f0 ha => ?_
  have H := HI.start (M0 := M) (w := w) hM
  have H0 := H.put (it := imm (.slice a_mr mr.length c_mr) mr) rfl (by rw [MS_nil]; exact h_mr)
  have ln_mr := rv_len h_mr
  have i0 : f0 0 = .agg #[.int .i64 mn, .slice a_mr mr.length c_mr] := ha 0 (by simp)
  have i1 : f0 1 = .int .i64 i := ha 1 (by simp)
  have i2 : f0 2 = .int .i64 j := ha 2 (by simp)
  refine sq (rg (k (bx H0 rfl i0 ?_)))
  intro bb0 w0 xt0 (H1 : HI M w w0 [box bb0 #[.int .i64 mn, .slice a_mr mr.length c_mr] 24, imm (.slice a_mr mr.length c_mr) mr])
  refine k (al H1 ty24 ?_)
  intro bb1 w1 xt1 (H2 : HI M w w1 [box bb1 #[.int .i64 0, .slice none 0 0] 24, box bb0 #[.int .i64 mn, .slice a_mr mr.length c_mr] 24, imm (.slice a_mr mr.length c_mr) mr])
  refine k (asg (v := .int .i64 0) rfl rfl (z (nx (sq (sq (rg (k (ldX H2 1 rfl ty24 rfl rfl (by decide) rfl (k (mv rfl i1 (k (mv rfl i2 (k ?_)))))))))))))
  have cc0 := ref03_in (mn := mn) (i := i) (j := j) (a_mu := a_mr) (n_mu := mr.length) (c_mu := c_mr) (w := w1) (by unfold I64 at *; omega) (by unfold I64 at *; omega) (by unfold I64 at *; omega)
  refine ca go74 rfl (ec rfl (ec rfl (ec rfl e0))) cc0 ?_
  rintro _ w2 ⟨rfl, xt2⟩
  have H3 := H2.ext xt2
  refine k (not_ rfl rfl (z (nx ?_)))
  refine cd (b := !(inM mn [i, j])) rfl rfl (fun b0 => ?_) (fun b0 => ?_)
  ·
    refine sq ?_
    have hq : inM mn [i, j] = false := by simpa using b0
    refine rg (k (bd (v := .agg #[.int .i64 0, .slice none 0 0]) rfl pb0 (fun _ => by kernel_rfl) (k (stX H3 0 rfl ty24 rfl rfl rfl rfl rfl rfl rfl ?_))))
    intro w3 (H4 : HI M w w3 [box bb1 #[.int .i64 0, .slice none 0 0] 24, box bb0 #[.int .i64 mn, .slice a_mr mr.length c_mr] 24, imm (.slice a_mr mr.length c_mr) mr])
    refine k (asg (v := .int .i64 1) rfl rfl (z (nx (rt (then_ret (rc2 H4 0 rfl ty24 rfl rfl rfl rfl rfl (by decide) ?_))))))
    have e0 : (0 : Int) = setMN mn i j := by first | exact (set_no (rs := mr) hq).1.symm | exact (set_yes (rs := mr) hq).1.symm
    have e1 : ([] : List (List (BitVec 64))) = setMR mn mr i j := by first | exact (set_no (rs := mr) hq).2.1.symm | (rw [(set_yes (rs := mr) hq).2.1]; exact setM_of hx0)
    have e2 : (1 : Int) = setME mn i j := by first | exact (set_no (rs := mr) hq).2.2.symm | exact (set_yes (rs := mr) hq).2.2.symm
    have ev_ := cg3 (fun (x_0 : Int) (x_1 : List (List (BitVec 64))) (x_2 : Int) => (.tuple #[.agg #[.int .i64 x_0, .slice none x_1.length 0], .int .i64 x_2] : Value)) e0 e1 e2
    exact ⟨none, 0, ev_, H4.below, (congrArg (fun (x_ : List (List (BitVec 64))) => OwnsG _ _ _ x_ (.slice none x_.length 0) _) e1).mp (ownsG_nil H4.below)⟩
  ·
    refine sk (nx (sq ?_))
    have hq : inM mn [i, j] = true := by simpa using b0
    have hr := inM_two.1 hq
    refine rg (k (bs (xs := ([] : List (List (BitVec 64)))) (cells := #[]) (e := 73) H3 rfl pb0 (fun _ => by kernel_rfl) rfl rfl (by unfold maxLen; omega) ?_))
    intro g0 w3 xt3 (H4 : HI M w w3 [own w.heap.size 73 (.slice (some ⟨g0, 0, none⟩) 0 0) ([] : List (List (BitVec 64))), box bb1 #[.int .i64 0, .slice none 0 0] 24, box bb0 #[.int .i64 mn, .slice a_mr mr.length c_mr] 24, imm (.slice a_mr mr.length c_mr) mr])
    refine k (fa fl24_1 rfl rfl (k (ldX H4 2 rfl ty22 rfl rfl (by decide) rfl (k (ap H4 0 rfl rfl rfl rfl rfl rfl (H4.rv 3 rfl).src un22 ty73 rfl (by simp; omega) (by simp; omega) ?_)))))
    intro a0 c0 w4 (H5 : HI M w w4 [own w.heap.size 73 (.slice a0 mr.length c0) mr, box bb1 #[.int .i64 0, .slice none 0 0] 24, box bb0 #[.int .i64 mn, .slice a_mr mr.length c_mr] 24, imm (.slice a_mr mr.length c_mr) mr])
    refine k (asg (v := .slice a0 mr.length c0) rfl rfl (z (nx (sq (rg (k (mv (v := .slice a0 mr.length c0) rfl rfl (k (mv rfl i1 (k (mv (v := .slice a0 mr.length c0) rfl rfl (k (mv rfl i1 (k (iaO (H5.at_ 0 rfl) rfl rfl rfl rfl (by first | omega | (simp; omega)) un22 ty73 ?_)))))))))))))))
    intro g1 x0 hv0 hx0 hA0
    refine k (ldL hA0 ty73 rfl rfl ?_)
    intro a1 c1 rv0
    have ln0 := rv_len rv0
    have H6 := H5.put (it := imm (.slice a1 x0.length c1) x0) rfl rv0
    refine k (mv rfl i2 (k ?_))
    have cc1 := ref02_Set (r := x0) (i := j) (w := w4) H6.mb (H6.rv 0 rfl) (by unfold I64 at *; omega) (by exact hrw_m _ (List.mem_of_getElem? hx0))
    refine ca go75 rfl (ec rfl (ec rfl e0)) cc1 ?_
    rintro _ w5 ⟨a2, c2, rfl, xt4, rv1⟩
    have H7 := H6.ownsG rv1
    refine k (iaO (H7.at_ 2 rfl) rfl rfl rfl rfl (by first | omega | (simp; omega)) un22 ty73 ?_)
    intro g2 x1 hv1 hx1 hA1
    refine k ?_
    have H8 := H7.freeze 0 rfl
    refine stO H8 2 rfl hv1 rfl (by first | omega | (simp; omega)) ty73 rfl rfl rfl rfl (H8.rv 0 rfl) ?_
    intro w6 (H9 : HI M w w6 [imm (.slice a2 (setR x0 j).length c2) (setR x0 j), imm (.slice a1 x0.length c1) x0, own w.heap.size 73 (.slice a0 mr.length c0) (mr.set i.toNat (setR x0 j)), box bb1 #[.int .i64 0, .slice none 0 0] 24, box bb0 #[.int .i64 mn, .slice a_mr mr.length c_mr] 24, imm (.slice a_mr mr.length c_mr) mr])
    refine z (nx (sq (rg (k (fa fl24_0 rfl rfl (k (ldX H9 4 rfl ty3 rfl rfl (by decide) rfl (k (mv (v := .slice a0 mr.length c0) rfl rfl (k (bd (v := .agg #[.int .i64 mn, .slice a0 mr.length c0]) rfl (pbc rfl (pbc rfl pb0)) (fun _ => by kernel_rfl) (k (stX H9 3 rfl ty24 rfl rfl rfl rfl rfl rfl rfl ?_)))))))))))))
    intro w7 (H10 : HI M w w7 [imm (.slice a2 (setR x0 j).length c2) (setR x0 j), imm (.slice a1 x0.length c1) x0, own w.heap.size 73 (.slice a0 mr.length c0) (mr.set i.toNat (setR x0 j)), box bb1 #[.int .i64 mn, .slice a0 mr.length c0] 24, box bb0 #[.int .i64 mn, .slice a_mr mr.length c_mr] 24, imm (.slice a_mr mr.length c_mr) mr])
    refine k (asg (v := .int .i64 0) rfl rfl (z (nx (rt (rc2 H10 3 rfl ty24 rfl rfl rfl rfl rfl (by decide) ?_)))))
    have e0 : (mn : Int) = setMN mn i j := by first | exact (set_no (rs := mr) hq).1.symm | exact (set_yes (rs := mr) hq).1.symm
    have e1 : (mr.set i.toNat (setR x0 j) : List (List (BitVec 64))) = setMR mn mr i j := by first | exact (set_no (rs := mr) hq).2.1.symm | (rw [(set_yes (rs := mr) hq).2.1]; exact setM_of hx0)
    have l1 : mr.length = (setMR mn mr i j).length := by rw [← e1]; simp
    have e2 : (0 : Int) = setME mn i j := by first | exact (set_no (rs := mr) hq).2.2.symm | exact (set_yes (rs := mr) hq).2.2.symm
    have ev_ := cg3 (fun (x_0 : Int) (n_1 : Nat) (x_2 : Int) => (.tuple #[.agg #[.int .i64 x_0, .slice a0 n_1 c0], .int .i64 x_2] : Value)) e0 l1 e2
    exact ⟨a0, c0, ev_, H10.below, (congrArg (fun (n_ : Nat) => OwnsG _ _ _ (setMR mn mr i j) (.slice a0 n_ c0) _) l1).mp ((congrArg (fun (x_ : List (List (BitVec 64))) => OwnsG _ _ _ x_ (.slice a0 mr.length c0) _) e1).mp (H10.ownsG_out 2 rfl))⟩
/- eyewitness/eyewitnessref03.Of -/
set_option maxRecDepth 100000 in
set_option maxHeartbeats 1600000 in
theorem ref03_Of {M : Nat → Prop} {w : World} {n : Int} {a_ps : Option Addr} {c_ps : Nat} {ps : List (Int × Int)} (hM : ∀ b, M b → b < w.heap.size) (h_n : I64 n) (h_ps : RV M w (.slice a_ps ps.length c_ps) ps) : Calls Tryd.prog 68 #[.int .i64 n, .slice a_ps ps.length c_ps] w (Ret fun v w' => ∃ (a0 : Option Addr) (c0 : Nat), v = .tuple #[.agg #[.int .i64 (ofMN n ps), .slice a0 (ofMR n ps).length c0], .int .i64 (ofME n ps)] ∧ Ext w w' ∧ RV M w' (.slice a0 (ofMR n ps).length c0) (ofMR n ps)) := by
  refine enter 44 Tryd.func68 rfl rfl rfl fun f0 ha => ?_
  have H := HI.start (M0 := M) (w := w) hM
  have H0 := H.put (it := imm (.slice a_ps ps.length c_ps) ps) rfl (by rw [MS_nil]; exact h_ps)
  have ln_ps := rv_len h_ps
  have i0 : f0 0 = .int .i64 n := ha 0 (by simp)
  have i1 : f0 1 = .slice a_ps ps.length c_ps := ha 1 (by simp)
  refine sq (rg (k (al H0 ty24 ?_)))
  intro bb0 w0 xt0 (H1 : HI M w w0 [box bb0 #[.int .i64 0, .slice none 0 0] 24, imm (.slice a_ps ps.length c_ps) ps])
  refine k (asg (v := .int .i64 0) rfl rfl (z (nx (sq (rg (k (mv rfl i0 (k ?_))))))))
  have cc0 := ref03_New (n := n) (w := w0) H1.mb (by unfold I64 at *; omega)
  refine ca go26 rfl (ec rfl e0) cc0 ?_
  rintro _ w1 ⟨a0, c0, rfl, xt1, rv0⟩
  have H2 := H1.ownsG rv0
  refine k (mv (v := .tuple #[.agg #[.int .i64 (newMN n), .slice a0 (newMR n).length c0], .int .i64 (newME n)]) rfl rfl (k (xt rfl rfl rfl (k (xt rfl rfl rfl (k (al H2 ty24 ?_)))))))
  intro bb1 w2 xt2 (H3 : HI M w w2 [box bb1 #[.int .i64 0, .slice none 0 0] 24, own w.heap.size 73 (.slice a0 (newMR n).length c0) (newMR n), box bb0 #[.int .i64 0, .slice none 0 0] 24, imm (.slice a_ps ps.length c_ps) ps])
  refine k (stX H3 0 rfl ty24 rfl rfl rfl rfl rfl rfl rfl ?_)
  intro w3 (H4 : HI M w w3 [box bb1 #[.int .i64 (newMN n), .slice a0 (newMR n).length c0] 24, own w.heap.size 73 (.slice a0 (newMR n).length c0) (newMR n), box bb0 #[.int .i64 0, .slice none 0 0] 24, imm (.slice a_ps ps.length c_ps) ps])
  refine k (asg (v := .int .i64 (newME n)) rfl rfl (z (nx (sq (sq (rg (k (asg (v := .int .i64 0) rfl rfl (z (nx (bk ?_)))))))))))
  have H5 := H4.freeze 1 rfl
  have H6 := H5.put (it := imm (.slice a0 (newMR n).length c0) (newMR n)) rfl (H5.rv 1 rfl)
  refine lp (fun m f w' => ∃ (j : Nat) (n_ : Int) (rs : List (List (BitVec 64))) (e_ : Int) (a1 : Option Addr) (c1 : Nat), m = ps.length - j ∧ f 1 = .slice a_ps ps.length c_ps ∧ f 4 = .pointer (some ⟨bb0, 0, none⟩) ∧ f 6 = .pointer (some ⟨bb1, 0, none⟩) ∧ f 7 = .int .i64 e_ ∧ f 8 = .int .i64 (j : Int) ∧  HI M w w' [imm (.slice a1 rs.length c1) rs, box bb1 #[.int .i64 n_, .slice a1 rs.length c1] 24, imm (.slice a0 (newMR n).length c0) (newMR n), box bb0 #[.int .i64 0, .slice none 0 0] 24, imm (.slice a_ps ps.length c_ps) ps] ∧ (j ≤ ps.length) ∧ (n_ = ofMN n (ps.take j)) ∧ (rs = ofMR n (ps.take j)) ∧ (e_ = ofME n (ps.take j))) _ ⟨0, (newMN n), (newMR n), (newME n), a0, c0, rfl, i1, rfl, rfl, (ieq rfl (by first | rfl | omega | simp)), (ieq rfl (by first | rfl | omega | simp)), H6, (by first | assumption | omega | simp | (simp; omega)), (by exact (ofM_nil n).1), (by exact (ofM_nil n).2.1), (by exact (ofM_nil n).2.2)⟩ ?_
  rintro _ f0 w4 ⟨j, n_, rs, e_, a1, c1, rfl, s0, s1, s2, s3, s4, H7, hk, h1, h2, h3⟩
  refine sq (sq (rg (k (mv rfl s4 (k (mv rfl s0 (k (lnS rfl rfl un31 (k (lss rfl rfl rfl rfl (k (mv (v := .bool (decide ((j : Int) < (ps.length : Int)))) rfl rfl ?_))))))))))))
  rcases Bool.eq_false_or_eq_true (decide ((j : Int) < (ps.length : Int))) with b0 | b0
  · -- decide ((j : Int) < (ps.length : Int)) is True
    have p0 := of_decide_eq_true b0
    refine k (gy rfl rfl rfl b0 (mv rfl s3 (k (gy rfl rfl rfl b0 (eql rfl rfl rfl rfl (k (pickT rfl rfl rfl rfl b0 rfl (z (nx ?_)))))))))
    refine cd (b := decide (e_ = 0)) rfl rfl (fun b1 => ?_) (fun b1 => ?_)
    ·
      have p1 := of_decide_eq_true b1
      refine sk (nx (sq (bk ?_)))
      have he_ : ofME n (ps.take j) = 0 := by rw [← h3]; omega
      have hq := ofME_zero he_
      have hsq := ofM_sq hq
      have hst := fun {p_} (hx_ : ps[((j : Nat) : Int).toNat]? = some p_) => ofM_step hx_ hq
      obtain ⟨x0, hx0⟩ : ∃ x, ps[(j : Int).toNat]? = some x := ⟨_, List.getElem?_eq_getElem (by first | omega | (simp; omega))⟩
      refine dr3 13 [fun (v : Value) (w' : World) => v = .agg #[.int .i64 n_, .slice a1 rs.length c1], fun (v : Value) (w' : World) => v = .slice a_ps ps.length c_ps, fun (v : Value) (w' : World) => v = .int .i64 (j : Int), fun (v : Value) (w' : World) => ∃ (ad0 : Addr), v = .pointer (some ad0) ∧ At (MS M [imm (.slice a1 rs.length c1) rs, box bb1 #[.int .i64 n_, .slice a1 rs.length c1] 24, imm (.slice a0 (newMR n).length c0) (newMR n), box bb0 #[.int .i64 0, .slice none 0 0] 24, imm (.slice a_ps ps.length c_ps) ps]) w' ad0 x0, fun (v : Value) (w' : World) => ∃ (ad0 : Addr), v = .pointer (some ((ad0).add 0)) ∧ At (MS M [imm (.slice a1 rs.length c1) rs, box bb1 #[.int .i64 n_, .slice a1 rs.length c1] 24, imm (.slice a0 (newMR n).length c0) (newMR n), box bb0 #[.int .i64 0, .slice none 0 0] 24, imm (.slice a_ps ps.length c_ps) ps]) w' ad0 x0, fun (v : Value) (w' : World) => v = .int .i64 x0.1 ∧ I64 (x0.1), fun (v : Value) (w' : World) => v = .slice a_ps ps.length c_ps, fun (v : Value) (w' : World) => v = .int .i64 (j : Int), fun (v : Value) (w' : World) => ∃ (ad1 : Addr), v = .pointer (some ad1) ∧ At (MS M [imm (.slice a1 rs.length c1) rs, box bb1 #[.int .i64 n_, .slice a1 rs.length c1] 24, imm (.slice a0 (newMR n).length c0) (newMR n), box bb0 #[.int .i64 0, .slice none 0 0] 24, imm (.slice a_ps ps.length c_ps) ps]) w' ad1 x0, fun (v : Value) (w' : World) => ∃ (ad1 : Addr), v = .pointer (some ((ad1).add 1)) ∧ At (MS M [imm (.slice a1 rs.length c1) rs, box bb1 #[.int .i64 n_, .slice a1 rs.length c1] 24, imm (.slice a0 (newMR n).length c0) (newMR n), box bb0 #[.int .i64 0, .slice none 0 0] 24, imm (.slice a_ps ps.length c_ps) ps]) w' ad1 x0, fun (v : Value) (w' : World) => v = .int .i64 x0.2 ∧ I64 (x0.2), fun (v : Value) (w' : World) => ∃ (a2 : Option Addr) (c2 : Nat), v = .tuple #[.agg #[.int .i64 (setMN n_ x0.1 x0.2), .slice a2 (setMR n_ rs x0.1 x0.2).length c2], .int .i64 (setME n_ x0.1 x0.2)] ∧ RV (MS M [imm (.slice a1 rs.length c1) rs, box bb1 #[.int .i64 n_, .slice a1 rs.length c1] 24, imm (.slice a0 (newMR n).length c0) (newMR n), box bb0 #[.int .i64 0, .slice none 0 0] 24, imm (.slice a_ps ps.length c_ps) ps]) w' (.slice a2 (setMR n_ rs x0.1 x0.2).length c2) (setMR n_ rs x0.1 x0.2), fun (v : Value) (w' : World) => ∃ (a2 : Option Addr) (c2 : Nat), v = .tuple #[.agg #[.int .i64 (setMN n_ x0.1 x0.2), .slice a2 (setMR n_ rs x0.1 x0.2).length c2], .int .i64 (setME n_ x0.1 x0.2)] ∧ RV (MS M [imm (.slice a1 rs.length c1) rs, box bb1 #[.int .i64 n_, .slice a1 rs.length c1] 24, imm (.slice a0 (newMR n).length c0) (newMR n), box bb0 #[.int .i64 0, .slice none 0 0] 24, imm (.slice a_ps ps.length c_ps) ps]) w' (.slice a2 (setMR n_ rs x0.1 x0.2).length c2) (setMR n_ rs x0.1 x0.2)] rfl (by kernel_rfl) ?_ ?_
      ·
        refine ⟨fun _ => ⟨fun f1 w6 hf0 xt4 hp0 => ?_, fun _ _ _ _ h => h⟩, ?_⟩
        ·
          have H10 := H7.ext xt4
          refine ldX H10 1 rfl ty24 rfl ((hf0 6 rfl).trans s2) (by decide) rfl ?_
          exact ⟨_, rfl, Ext.refl _, rfl⟩
        refine ⟨fun _ => ⟨fun f2 w7 hf1 xt5 hp1 => ?_, fun _ _ _ _ h => h⟩, ?_⟩
        ·
          have H11 := H7.ext xt5
          refine mv rfl ((hf1 1 rfl).trans s0) ?_
          exact ⟨_, rfl, Ext.refl _, rfl⟩
        refine ⟨fun _ => ⟨fun f3 w8 hf2 xt6 hp2 => ?_, fun _ _ _ _ h => h⟩, ?_⟩
        ·
          have H12 := H7.ext xt6
          refine mv rfl ((hf2 8 rfl).trans s4) ?_
          exact ⟨_, rfl, Ext.refl _, rfl⟩
        refine ⟨fun _ => ⟨fun f4 w9 hf3 xt7 hp3 => ?_, by rintro _ _ _ x_ ⟨ad0, e_, hA0⟩; exact ⟨ad0, e_, hA0.lift (Up.ext x_)⟩⟩, ?_⟩
        ·
          have H13 := H7.ext xt7
          have s5 : f4 26 = .slice a_ps ps.length c_ps := hp3 1 rfl rfl
          have s6 : f4 27 = .int .i64 (j : Int) := hp3 2 rfl rfl
          refine ia (H13.rv 4 rfl) rfl rfl s5 s6 (by first | omega | (simp; omega)) un31 ty76 ?_
          intro ad2 x2 hx2 hA2
          obtain rfl : x0 = x2 := Option.some.inj (hx0.symm.trans hx2)
          exact ⟨_, rfl, Ext.refl _, ⟨ad2, rfl, hA2⟩⟩
        refine ⟨fun _ => ⟨fun f5 w10 hf4 xt8 hp4 => ?_, by rintro _ _ _ x_ ⟨ad0, e_, hA0⟩; exact ⟨ad0, e_, hA0.lift (Up.ext x_)⟩⟩, ?_⟩
        ·
          have H14 := H7.ext xt8
          obtain ⟨ad3, s7, hA3⟩ : ∃ (ad3 : Addr), f5 28 = .pointer (some ad3) ∧ At (MS M [imm (.slice a1 rs.length c1) rs, box bb1 #[.int .i64 n_, .slice a1 rs.length c1] 24, imm (.slice a0 (newMR n).length c0) (newMR n), box bb0 #[.int .i64 0, .slice none 0 0] 24, imm (.slice a_ps ps.length c_ps) ps]) w10 ad3 x0 := hp4 3 rfl rfl
          have H15 := H14.put (it := atI ad3 x0) rfl hA3
          refine iaA rfl rfl s7 rfl (by omega) un76 ty3 ?_
          exact ⟨_, rfl, Ext.refl _, ⟨ad3, rfl, (by assumption)⟩⟩
        refine ⟨fun _ => ⟨fun f6 w11 hf5 xt9 hp5 => ?_, fun _ _ _ _ h => h⟩, ?_⟩
        ·
          have H16 := H7.ext xt9
          obtain ⟨ad4, s8, hA4⟩ : ∃ (ad4 : Addr), f6 29 = .pointer (some ((ad4).add 0)) ∧ At (MS M [imm (.slice a1 rs.length c1) rs, box bb1 #[.int .i64 n_, .slice a1 rs.length c1] 24, imm (.slice a0 (newMR n).length c0) (newMR n), box bb0 #[.int .i64 0, .slice none 0 0] 24, imm (.slice a_ps ps.length c_ps) ps]) w11 ad4 x0 := hp5 4 rfl rfl
          have H17 := H16.put (it := atI ad4 x0) rfl hA4
          refine ldI ((H17.atv 0 rfl)).fst.w ty3 rfl s8 ?_
          intro rv5
          exact ⟨_, rfl, Ext.refl _, ⟨rfl, rv5⟩⟩
        refine ⟨fun _ => ⟨fun f7 w12 hf6 xt10 hp6 => ?_, fun _ _ _ _ h => h⟩, ?_⟩
        ·
          have H18 := H7.ext xt10
          refine mv rfl ((hf6 1 rfl).trans s0) ?_
          exact ⟨_, rfl, Ext.refl _, rfl⟩
        refine ⟨fun _ => ⟨fun f8 w13 hf7 xt11 hp7 => ?_, fun _ _ _ _ h => h⟩, ?_⟩
        ·
          have H19 := H7.ext xt11
          refine mv rfl ((hf7 8 rfl).trans s4) ?_
          exact ⟨_, rfl, Ext.refl _, rfl⟩
        refine ⟨fun _ => ⟨fun f9 w14 hf8 xt12 hp8 => ?_, by rintro _ _ _ x_ ⟨ad1, e_, hA1⟩; exact ⟨ad1, e_, hA1.lift (Up.ext x_)⟩⟩, ?_⟩
        ·
          have H20 := H7.ext xt12
          have s9 : f9 31 = .slice a_ps ps.length c_ps := hp8 6 rfl rfl
          have s10 : f9 32 = .int .i64 (j : Int) := hp8 7 rfl rfl
          refine ia (H20.rv 4 rfl) rfl rfl s9 s10 (by first | omega | (simp; omega)) un31 ty76 ?_
          intro ad5 x3 hx3 hA5
          obtain rfl : x0 = x3 := Option.some.inj (hx0.symm.trans hx3)
          exact ⟨_, rfl, Ext.refl _, ⟨ad5, rfl, hA5⟩⟩
        refine ⟨fun _ => ⟨fun f10 w15 hf9 xt13 hp9 => ?_, by rintro _ _ _ x_ ⟨ad1, e_, hA1⟩; exact ⟨ad1, e_, hA1.lift (Up.ext x_)⟩⟩, ?_⟩
        ·
          have H21 := H7.ext xt13
          obtain ⟨ad6, s11, hA6⟩ : ∃ (ad6 : Addr), f10 33 = .pointer (some ad6) ∧ At (MS M [imm (.slice a1 rs.length c1) rs, box bb1 #[.int .i64 n_, .slice a1 rs.length c1] 24, imm (.slice a0 (newMR n).length c0) (newMR n), box bb0 #[.int .i64 0, .slice none 0 0] 24, imm (.slice a_ps ps.length c_ps) ps]) w15 ad6 x0 := hp9 8 rfl rfl
          have H22 := H21.put (it := atI ad6 x0) rfl hA6
          refine iaA rfl rfl s11 rfl (by omega) un76 ty3 ?_
          exact ⟨_, rfl, Ext.refl _, ⟨ad6, rfl, (by assumption)⟩⟩
        refine ⟨fun _ => ⟨fun f11 w16 hf10 xt14 hp10 => ?_, fun _ _ _ _ h => h⟩, ?_⟩
        ·
          have H23 := H7.ext xt14
          obtain ⟨ad7, s12, hA7⟩ : ∃ (ad7 : Addr), f11 34 = .pointer (some ((ad7).add 1)) ∧ At (MS M [imm (.slice a1 rs.length c1) rs, box bb1 #[.int .i64 n_, .slice a1 rs.length c1] 24, imm (.slice a0 (newMR n).length c0) (newMR n), box bb0 #[.int .i64 0, .slice none 0 0] 24, imm (.slice a_ps ps.length c_ps) ps]) w16 ad7 x0 := hp10 9 rfl rfl
          have H24 := H23.put (it := atI ad7 x0) rfl hA7
          refine ldI ((H24.atv 0 rfl)).snd.w ty3 rfl s12 ?_
          intro rv6
          exact ⟨_, rfl, Ext.refl _, ⟨rfl, rv6⟩⟩
        refine ⟨fun _ => ⟨fun f12 w17 hf11 xt15 hp11 => ?_, by rintro _ _ _ x_ ⟨a2, c2, e_, rv4⟩; exact ⟨a2, c2, e_, rv4.lift (Up.ext x_)⟩⟩, ?_⟩
        ·
          have H25 := H7.ext xt15
          have s13 : f12 25 = .agg #[.int .i64 n_, .slice a1 rs.length c1] := hp11 0 rfl rfl
          obtain ⟨s14, rv7⟩ : f12 30 = .int .i64 x0.1 ∧ I64 (x0.1) := hp11 5 rfl rfl
          obtain ⟨s15, rv8⟩ : f12 35 = .int .i64 x0.2 ∧ I64 (x0.2) := hp11 10 rfl rfl
          have cc2 := ref03_Set (mn := n_) (mr := rs) (i := x0.1) (j := x0.2) (w := w17) H25.mb (by rw [h1, (of_yes hq).1]; exact h_n) (H25.rv 0 rfl) (by unfold I64 at *; omega) (by unfold I64 at *; omega) (by rw [h1, h2]; exact hsq.1) (by rw [h2]; exact hsq.2.1) (by rw [h1]; exact hsq.2.2)
          refine ca go28 rfl (ec s13 (ec s14 (ec s15 e0))) cc2 ?_
          rintro _ w18 ⟨a3, c3, rfl, xt16, rv9⟩
          have rv10 := OwnsG.rv rv9 H25.mb
          have H26 := H25.ext xt16
          have H27 := H26.put (it := imm (.slice a3 (setMR n_ rs x0.1 x0.2).length c3) (setMR n_ rs x0.1 x0.2)) rfl rv10
          exact ⟨_, rfl, xt16, ⟨a3, c3, rfl, rv10⟩⟩
        refine ⟨fun _ => ⟨fun f13 w19 hf12 xt17 hp12 => ?_, by rintro _ _ _ x_ ⟨a2, c2, e_, rv4⟩; exact ⟨a2, c2, e_, rv4.lift (Up.ext x_)⟩⟩, ?_⟩
        ·
          have H28 := H7.ext xt17
          obtain ⟨a4, c4, s16, rv11⟩ : ∃ (a4 : Option Addr) (c4 : Nat), f13 36 = .tuple #[.agg #[.int .i64 (setMN n_ x0.1 x0.2), .slice a4 (setMR n_ rs x0.1 x0.2).length c4], .int .i64 (setME n_ x0.1 x0.2)] ∧ RV (MS M [imm (.slice a1 rs.length c1) rs, box bb1 #[.int .i64 n_, .slice a1 rs.length c1] 24, imm (.slice a0 (newMR n).length c0) (newMR n), box bb0 #[.int .i64 0, .slice none 0 0] 24, imm (.slice a_ps ps.length c_ps) ps]) w19 (.slice a4 (setMR n_ rs x0.1 x0.2).length c4) (setMR n_ rs x0.1 x0.2) := hp12 11 rfl rfl
          have H29 := H28.put (it := imm (.slice a4 (setMR n_ rs x0.1 x0.2).length c4) (setMR n_ rs x0.1 x0.2)) rfl rv11
          refine mv rfl s16 ?_
          exact ⟨_, rfl, Ext.refl _, ⟨a4, c4, rfl, rv11⟩⟩
        exact DSteps.rest rfl _
      · intro f14 w20 hf13 xt18 hp13
        have H30 := H7.ext xt18
        have s17 : f14 1 = .slice a_ps ps.length c_ps := (hf13 1 rfl).trans s0
        have s18 : f14 4 = .pointer (some ⟨bb0, 0, none⟩) := (hf13 4 rfl).trans s1
        have s19 : f14 6 = .pointer (some ⟨bb1, 0, none⟩) := (hf13 6 rfl).trans s2
        have s20 : f14 8 = .int .i64 (j : Int) := (hf13 8 rfl).trans s4
        obtain ⟨a5, c5, s21, rv12⟩ : ∃ (a5 : Option Addr) (c5 : Nat), f14 24 = .tuple #[.agg #[.int .i64 (setMN n_ x0.1 x0.2), .slice a5 (setMR n_ rs x0.1 x0.2).length c5], .int .i64 (setME n_ x0.1 x0.2)] ∧ RV (MS M [imm (.slice a1 rs.length c1) rs, box bb1 #[.int .i64 n_, .slice a1 rs.length c1] 24, imm (.slice a0 (newMR n).length c0) (newMR n), box bb0 #[.int .i64 0, .slice none 0 0] 24, imm (.slice a_ps ps.length c_ps) ps]) w20 (.slice a5 (setMR n_ rs x0.1 x0.2).length c5) (setMR n_ rs x0.1 x0.2) := hp13 12 rfl
        have H31 := H30.put (it := imm (.slice a5 (setMR n_ rs x0.1 x0.2).length c5) (setMR n_ rs x0.1 x0.2)) rfl rv12
        show TA _ _ _ _ 4 [true, true, true, true, true, true, true, true, true, true, true, true, true, false, false, false, false] _ _
        refine ta [13, 14] (by kernel_rfl) rfl ⟨⟨_, rfl, ?_⟩, ⟨_, rfl, ?_⟩, trivial⟩
        ·
          refine xt rfl s21 rfl ?_
          refine ta [14, 15] (by kernel_rfl) rfl ⟨⟨_, rfl, ?_⟩, ⟨_, rfl, ?_⟩, trivial⟩
          ·
            refine xt rfl s21 rfl ?_
            refine ta [15] (by kernel_rfl) rfl ⟨⟨_, rfl, ?_⟩, trivial⟩
            ·
              refine stX H31 2 rfl ty24 rfl rfl s19 rfl rfl rfl rfl ?_
              intro w21 (H32 : HI M w w21 [imm (.slice a5 (setMR n_ rs x0.1 x0.2).length c5) (setMR n_ rs x0.1 x0.2), imm (.slice a1 rs.length c1) rs, box bb1 #[.int .i64 (setMN n_ x0.1 x0.2), .slice a5 (setMR n_ rs x0.1 x0.2).length c5] 24, imm (.slice a0 (newMR n).length c0) (newMR n), box bb0 #[.int .i64 0, .slice none 0 0] 24, imm (.slice a_ps ps.length c_ps) ps])
              refine ta [16] (by kernel_rfl) rfl ⟨⟨_, rfl, ?_⟩, trivial⟩
              ·
                refine asg (v := .int .i64 (setME n_ x0.1 x0.2)) rfl rfl (ta0 (by kernel_rfl) (inb_normal (nx (rg (k (mv rfl s20 (k (add rfl rfl rfl rfl (by unfold I64 at *; omega) (k (asg (v := .int .i64 ((j : Int) + 1)) rfl rfl (z ?_)))))))))))
                have H33 := H32.put (it := imm (.slice a5 (setMR n_ rs x0.1 x0.2).length c5) (setMR n_ rs x0.1 x0.2)) rfl (H32.rv 0 rfl)
                have H34 : HI M w w21 [imm (.slice a5 (setMR n_ rs x0.1 x0.2).length c5) (setMR n_ rs x0.1 x0.2), box bb1 #[.int .i64 (setMN n_ x0.1 x0.2), .slice a5 (setMR n_ rs x0.1 x0.2).length c5] 24, imm (.slice a0 (newMR n).length c0) (newMR n), box bb0 #[.int .i64 0, .slice none 0 0] 24, imm (.slice a_ps ps.length c_ps) ps] := H33.pickN [0, 3, 4, 5, 6] (by decide) rfl
                refine loopN _ ?_ ⟨(j + 1), (setMN n_ x0.1 x0.2), (setMR n_ rs x0.1 x0.2), (setME n_ x0.1 x0.2), a5, c5, rfl, s17, s18, s19, (ieq rfl (by first | rfl | omega | (push_cast; omega))), (ieq rfl (by first | rfl | omega | (push_cast; omega))), H34, (by first | assumption | omega | simp | (simp; omega)), (by (try (have e_ := at_is hx1 hx0; subst e_)); rw [h1]; exact (hst hx0).1), (by (try (have e_ := at_is hx1 hx0; subst e_)); rw [h1, h2]; exact (hst hx0).2.1), (by (try (have e_ := at_is hx1 hx0; subst e_)); rw [h1]; exact (hst hx0).2.2)⟩
                omega
          ·
            refine stX H31 2 rfl ty24 rfl rfl s19 rfl rfl rfl rfl ?_
            intro w21 (H32 : HI M w w21 [imm (.slice a5 (setMR n_ rs x0.1 x0.2).length c5) (setMR n_ rs x0.1 x0.2), imm (.slice a1 rs.length c1) rs, box bb1 #[.int .i64 (setMN n_ x0.1 x0.2), .slice a5 (setMR n_ rs x0.1 x0.2).length c5] 24, imm (.slice a0 (newMR n).length c0) (newMR n), box bb0 #[.int .i64 0, .slice none 0 0] 24, imm (.slice a_ps ps.length c_ps) ps])
            refine ta [14] (by kernel_rfl) rfl ⟨⟨_, rfl, ?_⟩, trivial⟩
            ·
              refine xt rfl s21 rfl ?_
              refine ta [16] (by kernel_rfl) rfl ⟨⟨_, rfl, ?_⟩, trivial⟩
              ·
                refine asg (v := .int .i64 (setME n_ x0.1 x0.2)) rfl rfl (ta0 (by kernel_rfl) (inb_normal (nx (rg (k (mv rfl s20 (k (add rfl rfl rfl rfl (by unfold I64 at *; omega) (k (asg (v := .int .i64 ((j : Int) + 1)) rfl rfl (z ?_)))))))))))
                have H33 := H32.put (it := imm (.slice a5 (setMR n_ rs x0.1 x0.2).length c5) (setMR n_ rs x0.1 x0.2)) rfl (H32.rv 0 rfl)
                have H34 : HI M w w21 [imm (.slice a5 (setMR n_ rs x0.1 x0.2).length c5) (setMR n_ rs x0.1 x0.2), box bb1 #[.int .i64 (setMN n_ x0.1 x0.2), .slice a5 (setMR n_ rs x0.1 x0.2).length c5] 24, imm (.slice a0 (newMR n).length c0) (newMR n), box bb0 #[.int .i64 0, .slice none 0 0] 24, imm (.slice a_ps ps.length c_ps) ps] := H33.pickN [0, 3, 4, 5, 6] (by decide) rfl
                refine loopN _ ?_ ⟨(j + 1), (setMN n_ x0.1 x0.2), (setMR n_ rs x0.1 x0.2), (setME n_ x0.1 x0.2), a5, c5, rfl, s17, s18, s19, (ieq rfl (by first | rfl | omega | (push_cast; omega))), (ieq rfl (by first | rfl | omega | (push_cast; omega))), H34, (by first | assumption | omega | simp | (simp; omega)), (by (try (have e_ := at_is hx1 hx0; subst e_)); rw [h1]; exact (hst hx0).1), (by (try (have e_ := at_is hx1 hx0; subst e_)); rw [h1, h2]; exact (hst hx0).2.1), (by (try (have e_ := at_is hx1 hx0; subst e_)); rw [h1]; exact (hst hx0).2.2)⟩
                omega
        ·
          refine xt rfl s21 rfl ?_
          refine ta [13] (by kernel_rfl) rfl ⟨⟨_, rfl, ?_⟩, trivial⟩
          ·
            refine xt rfl s21 rfl ?_
            refine ta [15] (by kernel_rfl) rfl ⟨⟨_, rfl, ?_⟩, trivial⟩
            ·
              refine stX H31 2 rfl ty24 rfl rfl s19 rfl rfl rfl rfl ?_
              intro w21 (H32 : HI M w w21 [imm (.slice a5 (setMR n_ rs x0.1 x0.2).length c5) (setMR n_ rs x0.1 x0.2), imm (.slice a1 rs.length c1) rs, box bb1 #[.int .i64 (setMN n_ x0.1 x0.2), .slice a5 (setMR n_ rs x0.1 x0.2).length c5] 24, imm (.slice a0 (newMR n).length c0) (newMR n), box bb0 #[.int .i64 0, .slice none 0 0] 24, imm (.slice a_ps ps.length c_ps) ps])
              refine ta [16] (by kernel_rfl) rfl ⟨⟨_, rfl, ?_⟩, trivial⟩
              ·
                refine asg (v := .int .i64 (setME n_ x0.1 x0.2)) rfl rfl (ta0 (by kernel_rfl) (inb_normal (nx (rg (k (mv rfl s20 (k (add rfl rfl rfl rfl (by unfold I64 at *; omega) (k (asg (v := .int .i64 ((j : Int) + 1)) rfl rfl (z ?_)))))))))))
                have H33 := H32.put (it := imm (.slice a5 (setMR n_ rs x0.1 x0.2).length c5) (setMR n_ rs x0.1 x0.2)) rfl (H32.rv 0 rfl)
                have H34 : HI M w w21 [imm (.slice a5 (setMR n_ rs x0.1 x0.2).length c5) (setMR n_ rs x0.1 x0.2), box bb1 #[.int .i64 (setMN n_ x0.1 x0.2), .slice a5 (setMR n_ rs x0.1 x0.2).length c5] 24, imm (.slice a0 (newMR n).length c0) (newMR n), box bb0 #[.int .i64 0, .slice none 0 0] 24, imm (.slice a_ps ps.length c_ps) ps] := H33.pickN [0, 3, 4, 5, 6] (by decide) rfl
                refine loopN _ ?_ ⟨(j + 1), (setMN n_ x0.1 x0.2), (setMR n_ rs x0.1 x0.2), (setME n_ x0.1 x0.2), a5, c5, rfl, s17, s18, s19, (ieq rfl (by first | rfl | omega | (push_cast; omega))), (ieq rfl (by first | rfl | omega | (push_cast; omega))), H34, (by first | assumption | omega | simp | (simp; omega)), (by (try (have e_ := at_is hx1 hx0; subst e_)); rw [h1]; exact (hst hx0).1), (by (try (have e_ := at_is hx1 hx0; subst e_)); rw [h1, h2]; exact (hst hx0).2.1), (by (try (have e_ := at_is hx1 hx0; subst e_)); rw [h1]; exact (hst hx0).2.2)⟩
                omega
    ·
      have p1 := of_decide_eq_false b1
      refine ex (then_exit (loop_exit (inb_here (nx (sq (sq (rg (k (mv rfl s3 (k (neq rfl rfl rfl rfl (z (nx (cdT rfl rfl (by rw [show (decide (e_ = 0)) = false from b1]; rfl) (sq (rg (k (bd (v := .agg #[.int .i64 0, .slice none 0 0]) rfl pb0 (fun _ => by kernel_rfl) (k (mv rfl s3 (k (stX H7 3 rfl ty24 rfl rfl s1 rfl rfl rfl rfl ?_))))))))))))))))))))))
      intro w5 (H8 : HI M w w5 [imm (.slice a1 rs.length c1) rs, box bb1 #[.int .i64 n_, .slice a1 rs.length c1] 24, imm (.slice a0 (newMR n).length c0) (newMR n), box bb0 #[.int .i64 0, .slice none 0 0] 24, imm (.slice a_ps ps.length c_ps) ps])
      refine k (asg (v := .int .i64 e_) rfl rfl (z (nx (rt (then_ret (rc2 H8 3 rfl ty24 rfl rfl rfl s1 rfl (by decide) ?_))))))
      have e0 : (0 : Int) = ofMN n ps := by first | (exfalso; omega) | exact (of_no (ofOk_less j (ofME_not (n := n) (by rw [← h3]; omega)))).1.symm | (rw [h1, take_end (by omega)])
      have e1 : ([] : List (List (BitVec 64))) = ofMR n ps := by first | (exfalso; omega) | exact (of_no (ofOk_less j (ofME_not (n := n) (by rw [← h3]; omega)))).2.1.symm | (rw [h2, take_end (by omega)])
      have e2 : (e_ : Int) = ofME n ps := by first | (exfalso; omega) | (rw [(of_no (ofOk_less j (ofME_not (n := n) (by rw [← h3]; omega)))).2.2, h3, (of_no (ofME_not (n := n) (ps := ps.take j) (by rw [← h3]; omega))).2.2]) | exact (of_yes (by have h := ofME_zero (n := n) (ps := ps.take j) (by rw [← h3]; omega); rwa [take_end (by omega)] at h)).2.2.symm
      have ev_ := cg3 (fun (x_0 : Int) (x_1 : List (List (BitVec 64))) (x_2 : Int) => (.tuple #[.agg #[.int .i64 x_0, .slice none x_1.length 0], .int .i64 x_2] : Value)) e0 e1 e2
      exact ⟨none, 0, ev_, H8.below, (congrArg (fun (x_ : List (List (BitVec 64))) => RV _ _ (.slice none x_.length 0) x_) e1).mp (rv_nil _ _)⟩
  · -- decide ((j : Int) < (ps.length : Int)) is False
    have p0 := of_decide_eq_false b0
    refine k (gn rfl rfl rfl b0 (k (gn rfl rfl rfl b0 (k (pickF rfl rfl rfl rfl b0 rfl (z (nx (cdF rfl rfl rfl (ex (then_exit (loop_exit (inb_here (nx (sq (sq (rg (k (mv rfl s3 (k (neq rfl rfl rfl rfl (z (nx ?_))))))))))))))))))))))
    refine cd (b := !decide (e_ = 0)) rfl rfl (fun b1 => ?_) (fun b1 => ?_)
    ·
      have p1 := of_decide_eq_false (nott b1)
      refine sq (rg (k (bd (v := .agg #[.int .i64 0, .slice none 0 0]) rfl pb0 (fun _ => by kernel_rfl) (k (mv rfl s3 (k (stX H7 3 rfl ty24 rfl rfl s1 rfl rfl rfl rfl ?_)))))))
      intro w5 (H8 : HI M w w5 [imm (.slice a1 rs.length c1) rs, box bb1 #[.int .i64 n_, .slice a1 rs.length c1] 24, imm (.slice a0 (newMR n).length c0) (newMR n), box bb0 #[.int .i64 0, .slice none 0 0] 24, imm (.slice a_ps ps.length c_ps) ps])
      refine k (asg (v := .int .i64 e_) rfl rfl (z (nx (rt (then_ret (rc2 H8 3 rfl ty24 rfl rfl rfl s1 rfl (by decide) ?_))))))
      have e0 : (0 : Int) = ofMN n ps := by first | (exfalso; omega) | exact (of_no (ofOk_less j (ofME_not (n := n) (by rw [← h3]; omega)))).1.symm | (rw [h1, take_end (by omega)])
      have e1 : ([] : List (List (BitVec 64))) = ofMR n ps := by first | (exfalso; omega) | exact (of_no (ofOk_less j (ofME_not (n := n) (by rw [← h3]; omega)))).2.1.symm | (rw [h2, take_end (by omega)])
      have e2 : (e_ : Int) = ofME n ps := by first | (exfalso; omega) | (rw [(of_no (ofOk_less j (ofME_not (n := n) (by rw [← h3]; omega)))).2.2, h3, (of_no (ofME_not (n := n) (ps := ps.take j) (by rw [← h3]; omega))).2.2]) | exact (of_yes (by have h := ofME_zero (n := n) (ps := ps.take j) (by rw [← h3]; omega); rwa [take_end (by omega)] at h)).2.2.symm
      have ev_ := cg3 (fun (x_0 : Int) (x_1 : List (List (BitVec 64))) (x_2 : Int) => (.tuple #[.agg #[.int .i64 x_0, .slice none x_1.length 0], .int .i64 x_2] : Value)) e0 e1 e2
      exact ⟨none, 0, ev_, H8.below, (congrArg (fun (x_ : List (List (BitVec 64))) => RV _ _ (.slice none x_.length 0) x_) e1).mp (rv_nil _ _)⟩
    ·
      have p1 := of_decide_eq_true (notf b1)
      refine sk (nx (sq (rg (k (ldX H7 1 rfl ty24 rfl s2 (by decide) rfl (k (stX H7 3 rfl ty24 rfl rfl s1 rfl rfl rfl rfl ?_)))))))
      intro w5 (H8 : HI M w w5 [imm (.slice a1 rs.length c1) rs, box bb1 #[.int .i64 n_, .slice a1 rs.length c1] 24, imm (.slice a0 (newMR n).length c0) (newMR n), box bb0 #[.int .i64 n_, .slice a1 rs.length c1] 24, imm (.slice a_ps ps.length c_ps) ps])
      refine k (asg (v := .int .i64 0) rfl rfl (z (nx (rt (rc2 H8 3 rfl ty24 rfl rfl rfl s1 rfl (by decide) ?_)))))
      have e0 : (n_ : Int) = ofMN n ps := by first | (exfalso; omega) | exact (of_no (ofOk_less j (ofME_not (n := n) (by rw [← h3]; omega)))).1.symm | (rw [h1, take_end (by omega)])
      have e1 : (rs : List (List (BitVec 64))) = ofMR n ps := by first | (exfalso; omega) | exact (of_no (ofOk_less j (ofME_not (n := n) (by rw [← h3]; omega)))).2.1.symm | (rw [h2, take_end (by omega)])
      have e2 : (0 : Int) = ofME n ps := by first | (exfalso; omega) | (rw [(of_no (ofOk_less j (ofME_not (n := n) (by rw [← h3]; omega)))).2.2, h3, (of_no (ofME_not (n := n) (ps := ps.take j) (by rw [← h3]; omega))).2.2]) | exact (of_yes (by have h := ofME_zero (n := n) (ps := ps.take j) (by rw [← h3]; omega); rwa [take_end (by omega)] at h)).2.2.symm
      have ev_ := cg3 (fun (x_0 : Int) (x_1 : List (List (BitVec 64))) (x_2 : Int) => (.tuple #[.agg #[.int .i64 x_0, .slice a1 x_1.length c1], .int .i64 x_2] : Value)) e0 e1 e2
      exact ⟨a1, c1, ev_, H8.below, (congrArg (fun (x_ : List (List (BitVec 64))) => RV _ _ (.slice a1 x_.length c1) x_) e1).mp (H8.gives_out 0 rfl)⟩
/- eyewitness/eyewitnessref03.Has -/
set_option maxRecDepth 100000 in
set_option maxHeartbeats 1600000 in
theorem ref03_Has {M : Nat → Prop} {w : World} {mn : Int} {a_mr : Option Addr} {c_mr : Nat} {mr : List (List (BitVec 64))} {i : Int} {j : Int} (hM : ∀ b, M b → b < w.heap.size) (h_mn : I64 mn) (h_mr : RV M w (.slice a_mr mr.length c_mr) mr) (h_i : I64 i) (h_j : I64 j) (hsq_m : ((mr.length : Nat) : Int) = mn) (hrw_m : ∀ x ∈ mr, x.length ≤ 1000000000) (hl4_m : mn ≤ 4096) : Calls Tryd.prog 45 #[.agg #[.int .i64 mn, .slice a_mr mr.length c_mr], .int .i64 i, .int .i64 j] w (Ret fun v w' =>  v = .bool (hasM mn mr i j) ∧ Ext w w') := by
  refine enter 20 Tryd.func45 rfl rfl rfl fun f0 ha => ?_
  have H := HI.start (M0 := M) (w := w) hM
  have H0 := H.put (it := imm (.slice a_mr mr.length c_mr) mr) rfl (by rw [MS_nil]; exact h_mr)
  have ln_mr := rv_len h_mr
  have i0 : f0 0 = .agg #[.int .i64 mn, .slice a_mr mr.length c_mr] := ha 0 (by simp)
  have i1 : f0 1 = .int .i64 i := ha 1 (by simp)
  have i2 : f0 2 = .int .i64 j := ha 2 (by simp)
  refine sq (rg (k (bx H0 rfl i0 ?_)))
  intro bb0 w0 xt0 (H1 : HI M w w0 [box bb0 #[.int .i64 mn, .slice a_mr mr.length c_mr] 24, imm (.slice a_mr mr.length c_mr) mr])
  refine k (asg (v := .bool false) rfl rfl (z (nx (sq (rg (k (ldX H1 0 rfl ty24 rfl rfl (by decide) rfl (k (mv rfl i1 (k (mv rfl i2 (k ?_))))))))))))
  have cc0 := ref03_in (mn := mn) (i := i) (j := j) (a_mu := a_mr) (n_mu := mr.length) (c_mu := c_mr) (w := w0) (by unfold I64 at *; omega) (by unfold I64 at *; omega) (by unfold I64 at *; omega)
  refine ca go74 rfl (ec rfl (ec rfl (ec rfl e0))) cc0 ?_
  rintro _ w1 ⟨rfl, xt1⟩
  have H2 := H1.ext xt1
  refine k (mv (v := .bool (inM mn [i, j])) rfl rfl ?_)
  rcases Bool.eq_false_or_eq_true (inM mn [i, j]) with b0 | b0
  · -- inM mn [i, j] is True
    refine k (gy rfl rfl rfl b0 (fa fl24_1 rfl rfl (k (gy rfl rfl rfl b0 (ldX H2 0 rfl ty22 rfl rfl (by decide) rfl (k (gy rfl rfl rfl b0 (mv rfl i1 (k (gy rfl rfl rfl b0 (ia (H2.rv 1 rfl) rfl rfl rfl rfl (by have hr := inM_two.1 b0; omega) un22 ty73 ?_)))))))))))
    intro ad0 x0 hx0 hA0
    refine k (gy rfl rfl rfl b0 (ldL hA0.w ty73 rfl rfl ?_))
    intro a0 c0 rv0
    have ln0 := rv_len rv0
    have H3 := H2.put (it := imm (.slice a0 x0.length c0) x0) rfl rv0
    refine k (gy rfl rfl rfl b0 (mv rfl i2 (k (gy rfl rfl rfl b0 ?_))))
    have cc1 := ref02_Has (r := x0) (i := j) (w := w1) H3.mb (H3.rv 0 rfl) (by unfold I64 at *; omega) (by first | omega | exact hrw_m _ (List.mem_of_getElem? hx0))
    refine ca go58 rfl (ec rfl (ec rfl e0)) cc1 ?_
    rintro _ w2 ⟨rfl, xt2⟩
    have H4 := H3.ext xt2
    refine k (pickT rfl rfl rfl rfl b0 rfl (k (asg (v := .bool (hasR x0 j)) rfl rfl (z (nx (rt (r1 rfl rfl ?_)))))))
    have e0 : (hasR x0 j : Bool) = hasM mn mr i j := by unfold hasM; first | (rw [rowAt_of hx0, b0]; rfl) | (rw [b0]; rfl)
    have ev_ := cg1 (fun (x_0 : Bool) => (.bool x_0 : Value)) e0
    exact ⟨ev_, H4.below⟩
  · -- inM mn [i, j] is False
    refine k (gn rfl rfl rfl b0 (k (gn rfl rfl rfl b0 (k (gn rfl rfl rfl b0 (k (gn rfl rfl rfl b0 (k (gn rfl rfl rfl b0 (k (gn rfl rfl rfl b0 (k (gn rfl rfl rfl b0 (k (pickF rfl rfl rfl rfl b0 rfl (k (asg (v := .bool false) rfl rfl (z (nx (rt (r1 rfl rfl ?_)))))))))))))))))))))
    have e0 : (false : Bool) = hasM mn mr i j := by unfold hasM; first | (rw [rowAt_of hx0, b0]; rfl) | (rw [b0]; rfl)
    have ev_ := cg1 (fun (x_0 : Bool) => (.bool x_0 : Value)) e0
    exact ⟨ev_, H2.below⟩
/- eyewitness/eyewitnessref03.Equal -/
set_option maxRecDepth 100000 in
set_option maxHeartbeats 1600000 in
theorem ref03_Equal {M : Nat → Prop} {w : World} {an : Int} {a_ar : Option Addr} {c_ar : Nat} {ar : List (List (BitVec 64))} {bn : Int} {a_br : Option Addr} {c_br : Nat} {br : List (List (BitVec 64))} (hM : ∀ b, M b → b < w.heap.size) (h_an : I64 an) (h_ar : RV M w (.slice a_ar ar.length c_ar) ar) (h_bn : I64 bn) (h_br : RV M w (.slice a_br br.length c_br) br) : Calls Tryd.prog 18 #[.agg #[.int .i64 an, .slice a_ar ar.length c_ar], .agg #[.int .i64 bn, .slice a_br br.length c_br]] w (Ret fun v w' =>  v = .bool (eqM an ar bn br) ∧ Ext w w') := by
  refine enter 39 Tryd.func18 rfl rfl rfl fun f0 ha => ?_
  have H := HI.start (M0 := M) (w := w) hM
  have H0 := H.put (it := imm (.slice a_ar ar.length c_ar) ar) rfl (by rw [MS_nil]; exact h_ar)
  have H1 := H0.put (it := imm (.slice a_br br.length c_br) br) rfl (by rw [MS_cons_none rfl, MS_nil]; exact h_br)
  have ln_ar := rv_len h_ar
  have ln_br := rv_len h_br
  have i0 : f0 0 = .agg #[.int .i64 an, .slice a_ar ar.length c_ar] := ha 0 (by simp)
  have i1 : f0 1 = .agg #[.int .i64 bn, .slice a_br br.length c_br] := ha 1 (by simp)
  refine sq (rg (k (bx H1 rfl i0 ?_)))
  intro bb0 w0 xt0 (H2 : HI M w w0 [box bb0 #[.int .i64 an, .slice a_ar ar.length c_ar] 24, imm (.slice a_br br.length c_br) br, imm (.slice a_ar ar.length c_ar) ar])
  refine k (bx H2 rfl i1 ?_)
  intro bb1 w1 xt1 (H3 : HI M w w1 [box bb1 #[.int .i64 bn, .slice a_br br.length c_br] 24, box bb0 #[.int .i64 an, .slice a_ar ar.length c_ar] 24, imm (.slice a_br br.length c_br) br, imm (.slice a_ar ar.length c_ar) ar])
  refine k (asg (v := .bool false) rfl rfl (z (nx (sq (sq (rg (k (fa fl24_0 rfl rfl (k (ldX H3 1 rfl ty3 rfl rfl (by decide) rfl (k (fa fl24_0 rfl rfl (k (ldX H3 0 rfl ty3 rfl rfl (by decide) rfl (k (neq rfl rfl rfl rfl (k (mv (v := .bool (!decide (an = bn))) rfl rfl ?_))))))))))))))))))
  rcases Bool.eq_false_or_eq_true (!decide (an = bn)) with b0 | b0
  · -- !decide (an = bn) is True
    have p0 := of_decide_eq_false (nott b0)
    refine k (gn rfl rfl rfl b0 (k (gn rfl rfl rfl b0 (k (gn rfl rfl rfl b0 (k (gn rfl rfl rfl b0 (k (gn rfl rfl rfl b0 (k (gn rfl rfl rfl b0 (k (gn rfl rfl rfl b0 (k (pickT rfl rfl rfl rfl b0 rfl (z (nx (cdT rfl rfl rfl (sq (rg (k (asg (v := .bool false) rfl rfl (z (nx (rt (then_ret (r1 rfl rfl ?_)))))))))))))))))))))))))))
    have e0 : (false : Bool) = eqM an ar bn br := by first | exact eqM_no (by rintro ⟨e1, e2⟩; first | omega | (subst e2; omega)) | exact eqM_no (by rintro ⟨e1, e2⟩; exact ne_of_at hx0 hx1 (by first | assumption | simpa using b3) e2) | exact eqM_yes (by omega) (eq_of_take (by omega) hs (by omega))
    have ev_ := cg1 (fun (x_0 : Bool) => (.bool x_0 : Value)) e0
    exact ⟨ev_, H3.below⟩
  · -- !decide (an = bn) is False
    have p0 := of_decide_eq_true (notf b0)
    refine k (gy rfl rfl rfl b0 (fa fl24_1 rfl rfl (k (gy rfl rfl rfl b0 (ldX H3 1 rfl ty22 rfl rfl (by decide) rfl (k (gy rfl rfl rfl b0 (lnS rfl rfl un22 (k (gy rfl rfl rfl b0 (fa fl24_1 rfl rfl (k (gy rfl rfl rfl b0 (ldX H3 0 rfl ty22 rfl rfl (by decide) rfl (k (gy rfl rfl rfl b0 (lnS rfl rfl un22 (k (gy rfl rfl rfl b0 (neq rfl rfl rfl rfl (k (pickF rfl rfl rfl rfl b0 rfl (z (nx ?_))))))))))))))))))))))))
    refine cd (b := !decide ((ar.length : Int) = (br.length : Int))) rfl rfl (fun b1 => ?_) (fun b1 => ?_)
    ·
      have p1 := of_decide_eq_false (nott b1)
      refine sq (rg (k (asg (v := .bool false) rfl rfl (z (nx (rt (then_ret (r1 rfl rfl ?_))))))))
      have e0 : (false : Bool) = eqM an ar bn br := by first | exact eqM_no (by rintro ⟨e1, e2⟩; first | omega | (subst e2; omega)) | exact eqM_no (by rintro ⟨e1, e2⟩; exact ne_of_at hx0 hx1 (by first | assumption | simpa using b3) e2) | exact eqM_yes (by omega) (eq_of_take (by omega) hs (by omega))
      have ev_ := cg1 (fun (x_0 : Bool) => (.bool x_0 : Value)) e0
      exact ⟨ev_, H3.below⟩
    ·
      have p1 := of_decide_eq_true (notf b1)
      refine sk (nx (sq (sq (rg (k (asg (v := .int .i64 0) rfl rfl (z (nx (bk ?_)))))))))
      refine lp (fun m f w' => ∃ (j : Nat), m = ar.length - j ∧ f 2 = .pointer (some ⟨bb0, 0, none⟩) ∧ f 3 = .pointer (some ⟨bb1, 0, none⟩) ∧ f 5 = .int .i64 (j : Int) ∧  HI M w w' [box bb1 #[.int .i64 bn, .slice a_br br.length c_br] 24, box bb0 #[.int .i64 an, .slice a_ar ar.length c_ar] 24, imm (.slice a_br br.length c_br) br, imm (.slice a_ar ar.length c_ar) ar] ∧ (j ≤ ar.length) ∧ (ar.take j = br.take j)) _ ⟨0, rfl, rfl, rfl, (ieq rfl (by first | rfl | omega | simp)), H3, (by first | assumption | omega | simp | (simp; omega)), (by first | assumption | omega | simp | (simp; omega))⟩ ?_
      rintro _ f0 w2 ⟨j, rfl, s0, s1, s2, H4, hk, hs⟩
      refine sq (sq (rg (k (mv rfl s2 (k (fa fl24_1 rfl s0 (k (ldX H4 1 rfl ty22 rfl rfl (by decide) rfl (k (lnS rfl rfl un22 (k (lss rfl rfl rfl rfl (z (nx ?_))))))))))))))
      refine cd (b := decide ((j : Int) < (ar.length : Int))) rfl rfl (fun b2 => ?_) (fun b2 => ?_)
      ·
        have p2 := of_decide_eq_true b2
        refine sk (nx (sq (bk (sq ?_))))
        obtain ⟨x0, hx0⟩ : ∃ x, ar[(j : Int).toNat]? = some x := ⟨_, List.getElem?_eq_getElem (by first | omega | (simp; omega))⟩
        obtain ⟨x1, hx1⟩ : ∃ x, br[(j : Int).toNat]? = some x := ⟨_, List.getElem?_eq_getElem (by first | omega | (simp; omega))⟩
        refine dr 10 [fun (v : Value) (w' : World) => v = .pointer (some ⟨bb0, 1, none⟩), fun (v : Value) (w' : World) => v = .slice a_ar ar.length c_ar, fun (v : Value) (w' : World) => v = .int .i64 (j : Int), fun (v : Value) (w' : World) => ∃ (ad0 : Addr), v = .pointer (some ad0) ∧ At (MS M [box bb1 #[.int .i64 bn, .slice a_br br.length c_br] 24, box bb0 #[.int .i64 an, .slice a_ar ar.length c_ar] 24, imm (.slice a_br br.length c_br) br, imm (.slice a_ar ar.length c_ar) ar]) w' ad0 x0, fun (v : Value) (w' : World) => ∃ (a0 : Option Addr) (c0 : Nat), v = .slice a0 x0.length c0 ∧ RV (MS M [box bb1 #[.int .i64 bn, .slice a_br br.length c_br] 24, box bb0 #[.int .i64 an, .slice a_ar ar.length c_ar] 24, imm (.slice a_br br.length c_br) br, imm (.slice a_ar ar.length c_ar) ar]) w' (.slice a0 x0.length c0) x0, fun (v : Value) (w' : World) => v = .pointer (some ⟨bb1, 1, none⟩), fun (v : Value) (w' : World) => v = .slice a_br br.length c_br, fun (v : Value) (w' : World) => v = .int .i64 (j : Int), fun (v : Value) (w' : World) => ∃ (ad1 : Addr), v = .pointer (some ad1) ∧ At (MS M [box bb1 #[.int .i64 bn, .slice a_br br.length c_br] 24, box bb0 #[.int .i64 an, .slice a_ar ar.length c_ar] 24, imm (.slice a_br br.length c_br) br, imm (.slice a_ar ar.length c_ar) ar]) w' ad1 x1, fun (v : Value) (w' : World) => ∃ (a1 : Option Addr) (c1 : Nat), v = .slice a1 x1.length c1 ∧ RV (MS M [box bb1 #[.int .i64 bn, .slice a_br br.length c_br] 24, box bb0 #[.int .i64 an, .slice a_ar ar.length c_ar] 24, imm (.slice a_br br.length c_br) br, imm (.slice a_ar ar.length c_ar) ar]) w' (.slice a1 x1.length c1) x1] rfl (by kernel_rfl) ?_ ?_
        ·
          refine ⟨fun _ => ⟨fun f1 w3 hf0 xt2 hp0 => ?_, fun _ _ _ _ h => h⟩, ?_⟩
          ·
            have H7 := H4.ext xt2
            refine fa fl24_1 rfl ((hf0 2 rfl).trans s0) ?_
            exact ⟨_, rfl, Ext.refl _, rfl⟩
          refine ⟨fun _ => ⟨fun f2 w4 hf1 xt3 hp1 => ?_, fun _ _ _ _ h => h⟩, ?_⟩
          ·
            have H8 := H4.ext xt3
            have s3 : f2 27 = .pointer (some ⟨bb0, 1, none⟩) := hp1 0 rfl rfl
            refine ldX H8 1 rfl ty22 rfl s3 (by decide) rfl ?_
            exact ⟨_, rfl, Ext.refl _, rfl⟩
          refine ⟨fun _ => ⟨fun f3 w5 hf2 xt4 hp2 => ?_, fun _ _ _ _ h => h⟩, ?_⟩
          ·
            have H9 := H4.ext xt4
            refine mv rfl ((hf2 5 rfl).trans s2) ?_
            exact ⟨_, rfl, Ext.refl _, rfl⟩
          refine ⟨fun _ => ⟨fun f4 w6 hf3 xt5 hp3 => ?_, by rintro _ _ _ x_ ⟨ad0, e_, hA0⟩; exact ⟨ad0, e_, hA0.lift (Up.ext x_)⟩⟩, ?_⟩
          ·
            have H10 := H4.ext xt5
            have s4 : f4 28 = .slice a_ar ar.length c_ar := hp3 1 rfl rfl
            have s5 : f4 29 = .int .i64 (j : Int) := hp3 2 rfl rfl
            refine ia (H10.rv 3 rfl) rfl rfl s4 s5 (by first | omega | (simp; omega)) un22 ty73 ?_
            intro ad2 x2 hx2 hA2
            obtain rfl : x0 = x2 := Option.some.inj (hx0.symm.trans hx2)
            exact ⟨_, rfl, Ext.refl _, ⟨ad2, rfl, hA2⟩⟩
          refine ⟨fun _ => ⟨fun f5 w7 hf4 xt6 hp4 => ?_, by rintro _ _ _ x_ ⟨a0, c0, e_, rv0⟩; exact ⟨a0, c0, e_, rv0.lift (Up.ext x_)⟩⟩, ?_⟩
          ·
            have H11 := H4.ext xt6
            obtain ⟨ad3, s6, hA3⟩ : ∃ (ad3 : Addr), f5 30 = .pointer (some ad3) ∧ At (MS M [box bb1 #[.int .i64 bn, .slice a_br br.length c_br] 24, box bb0 #[.int .i64 an, .slice a_ar ar.length c_ar] 24, imm (.slice a_br br.length c_br) br, imm (.slice a_ar ar.length c_ar) ar]) w7 ad3 x0 := hp4 3 rfl rfl
            have H12 := H11.put (it := atI ad3 x0) rfl hA3
            refine ldL (H12.atv 0 rfl).w ty73 rfl s6 ?_
            intro a2 c2 rv2
            have ln2 := rv_len rv2
            have H13 := H12.put (it := imm (.slice a2 x0.length c2) x0) rfl rv2
            exact ⟨_, rfl, Ext.refl _, ⟨a2, c2, rfl, (rv_drop rfl rv2)⟩⟩
          refine ⟨fun _ => ⟨fun f6 w8 hf5 xt7 hp5 => ?_, fun _ _ _ _ h => h⟩, ?_⟩
          ·
            have H14 := H4.ext xt7
            refine fa fl24_1 rfl ((hf5 3 rfl).trans s1) ?_
            exact ⟨_, rfl, Ext.refl _, rfl⟩
          refine ⟨fun _ => ⟨fun f7 w9 hf6 xt8 hp6 => ?_, fun _ _ _ _ h => h⟩, ?_⟩
          ·
            have H15 := H4.ext xt8
            have s7 : f7 32 = .pointer (some ⟨bb1, 1, none⟩) := hp6 5 rfl rfl
            refine ldX H15 0 rfl ty22 rfl s7 (by decide) rfl ?_
            exact ⟨_, rfl, Ext.refl _, rfl⟩
          refine ⟨fun _ => ⟨fun f8 w10 hf7 xt9 hp7 => ?_, fun _ _ _ _ h => h⟩, ?_⟩
          ·
            have H16 := H4.ext xt9
            refine mv rfl ((hf7 5 rfl).trans s2) ?_
            exact ⟨_, rfl, Ext.refl _, rfl⟩
          refine ⟨fun _ => ⟨fun f9 w11 hf8 xt10 hp8 => ?_, by rintro _ _ _ x_ ⟨ad1, e_, hA1⟩; exact ⟨ad1, e_, hA1.lift (Up.ext x_)⟩⟩, ?_⟩
          ·
            have H17 := H4.ext xt10
            have s8 : f9 33 = .slice a_br br.length c_br := hp8 6 rfl rfl
            have s9 : f9 34 = .int .i64 (j : Int) := hp8 7 rfl rfl
            refine ia (H17.rv 2 rfl) rfl rfl s8 s9 (by first | omega | (simp; omega)) un22 ty73 ?_
            intro ad4 x3 hx3 hA4
            obtain rfl : x1 = x3 := Option.some.inj (hx1.symm.trans hx3)
            exact ⟨_, rfl, Ext.refl _, ⟨ad4, rfl, hA4⟩⟩
          refine ⟨fun _ => ⟨fun f10 w12 hf9 xt11 hp9 => ?_, by rintro _ _ _ x_ ⟨a1, c1, e_, rv1⟩; exact ⟨a1, c1, e_, rv1.lift (Up.ext x_)⟩⟩, ?_⟩
          ·
            have H18 := H4.ext xt11
            obtain ⟨ad5, s10, hA5⟩ : ∃ (ad5 : Addr), f10 35 = .pointer (some ad5) ∧ At (MS M [box bb1 #[.int .i64 bn, .slice a_br br.length c_br] 24, box bb0 #[.int .i64 an, .slice a_ar ar.length c_ar] 24, imm (.slice a_br br.length c_br) br, imm (.slice a_ar ar.length c_ar) ar]) w12 ad5 x1 := hp9 8 rfl rfl
            have H19 := H18.put (it := atI ad5 x1) rfl hA5
            refine ldL (H19.atv 0 rfl).w ty73 rfl s10 ?_
            intro a3 c3 rv3
            have ln3 := rv_len rv3
            have H20 := H19.put (it := imm (.slice a3 x1.length c3) x1) rfl rv3
            exact ⟨_, rfl, Ext.refl _, ⟨a3, c3, rfl, (rv_drop rfl rv3)⟩⟩
          exact DSteps.rest rfl _
        · intro f11 w13 hf10 xt12 hp10
          have H21 := H4.ext xt12
          have s11 : f11 2 = .pointer (some ⟨bb0, 0, none⟩) := (hf10 2 rfl).trans s0
          have s12 : f11 3 = .pointer (some ⟨bb1, 0, none⟩) := (hf10 3 rfl).trans s1
          have s13 : f11 5 = .int .i64 (j : Int) := (hf10 5 rfl).trans s2
          obtain ⟨a4, c4, s14, rv4⟩ : ∃ (a4 : Option Addr) (c4 : Nat), f11 31 = .slice a4 x0.length c4 ∧ RV (MS M [box bb1 #[.int .i64 bn, .slice a_br br.length c_br] 24, box bb0 #[.int .i64 an, .slice a_ar ar.length c_ar] 24, imm (.slice a_br br.length c_br) br, imm (.slice a_ar ar.length c_ar) ar]) w13 (.slice a4 x0.length c4) x0 := hp10 4 rfl
          have H22 := H21.put (it := imm (.slice a4 x0.length c4) x0) rfl rv4
          obtain ⟨a5, c5, s15, rv5⟩ : ∃ (a5 : Option Addr) (c5 : Nat), f11 36 = .slice a5 x1.length c5 ∧ RV (MS M [box bb1 #[.int .i64 bn, .slice a_br br.length c_br] 24, box bb0 #[.int .i64 an, .slice a_ar ar.length c_ar] 24, imm (.slice a_br br.length c_br) br, imm (.slice a_ar ar.length c_ar) ar]) w13 (.slice a5 x1.length c5) x1 := hp10 9 rfl
          have H23 := H22.put (it := imm (.slice a5 x1.length c5) x1) rfl (by rw [MS_cons_none rfl]; exact rv5)
          refine k ?_
          have cc0 := ref02_Same (a := x0) (b := x1) (w := w13) H23.mb (H23.rv 1 rfl) (H23.rv 0 rfl)
          refine ca go66 rfl (ec s14 (ec s15 e0)) cc0 ?_
          rintro _ w14 ⟨rfl, xt13⟩
          have H24 := H23.ext xt13
          refine k (not_ rfl rfl (z (nx ?_)))
          refine cd (b := !(decide (x0 = x1))) rfl rfl (fun b3 => ?_) (fun b3 => ?_)
          ·
            have p3 := of_decide_eq_false (nott b3)
            refine sq (rg (k (asg (v := .bool false) rfl rfl (z (nx (rt (inb_ret (then_ret (loop_ret (inb_ret (then_ret (r1 rfl rfl ?_))))))))))))
            have e0 : (false : Bool) = eqM an ar bn br := by first | exact eqM_no (by rintro ⟨e1, e2⟩; first | omega | (subst e2; omega)) | exact eqM_no (by rintro ⟨e1, e2⟩; exact ne_of_at hx0 hx1 (by first | assumption | simpa using b3) e2) | exact eqM_yes (by omega) (eq_of_take (by omega) hs (by omega))
            have ev_ := cg1 (fun (x_0 : Bool) => (.bool x_0 : Value)) e0
            exact ⟨ev_, H24.below⟩
          ·
            have p3 := of_decide_eq_true (notf b3)
            refine sk (inb_normal (nx (rg (k (mv rfl s13 (k (add rfl rfl rfl rfl (by unfold I64 at *; omega) (k (asg (v := .int .i64 ((j : Int) + 1)) rfl rfl (z ?_))))))))))
            have H25 : HI M w w14 [box bb1 #[.int .i64 bn, .slice a_br br.length c_br] 24, box bb0 #[.int .i64 an, .slice a_ar ar.length c_ar] 24, imm (.slice a_br br.length c_br) br, imm (.slice a_ar ar.length c_ar) ar] := H24.pickN [2, 3, 4, 5] (by decide) rfl
            refine loopN _ ?_ ⟨(j + 1), rfl, s11, s12, (ieq rfl (by first | rfl | omega | (push_cast; omega))), H25, (by first | assumption | omega | simp | (simp; omega)), (by exact take_eq_step hs hx0 hx1 (by first | assumption | simpa using b3))⟩
            omega
      ·
        have p2 := of_decide_eq_false b2
        refine ex (then_exit (loop_exit (inb_here (nx (sq (rg (k (asg (v := .bool true) rfl rfl (z (nx (rt (r1 rfl rfl ?_))))))))))))
        have e0 : (true : Bool) = eqM an ar bn br := by first | exact eqM_no (by rintro ⟨e1, e2⟩; first | omega | (subst e2; omega)) | exact eqM_no (by rintro ⟨e1, e2⟩; exact ne_of_at hx0 hx1 (by first | assumption | simpa using b3) e2) | exact eqM_yes (by omega) (eq_of_take (by omega) hs (by omega))
        have ev_ := cg1 (fun (x_0 : Bool) => (.bool x_0 : Value)) e0
        exact ⟨ev_, H4.below⟩
/- eyewitness/eyewitnessref03.Right -/
set_option maxRecDepth 100000 in
set_option maxHeartbeats 1600000 in
theorem ref03_Right {M : Nat → Prop} {w : World} {mn : Int} {a_mr : Option Addr} {c_mr : Nat} {mr : List (List (BitVec 64))} (hM : ∀ b, M b → b < w.heap.size) (h_mn : I64 mn) (h_mr : RV M w (.slice a_mr mr.length c_mr) mr) : Calls Tryd.prog 13 #[.agg #[.int .i64 mn, .slice a_mr mr.length c_mr]] w (Ret fun v w' =>  v = .bool (rightS mn mr) ∧ Ext w w') := by
  refine enter 57 Tryd.func13 rfl rfl rfl fun f0 ha => ?_
  have H := HI.start (M0 := M) (w := w) hM
  have H0 := H.put (it := imm (.slice a_mr mr.length c_mr) mr) rfl (by rw [MS_nil]; exact h_mr)
  have ln_mr := rv_len h_mr
  have i0 : f0 0 = .agg #[.int .i64 mn, .slice a_mr mr.length c_mr] := ha 0 (by simp)
  refine sq (rg (k (bx H0 rfl i0 ?_)))
  intro bb0 w0 xt0 (H1 : HI M w w0 [box bb0 #[.int .i64 mn, .slice a_mr mr.length c_mr] 24, imm (.slice a_mr mr.length c_mr) mr])
  refine k (asg (v := .bool false) rfl rfl (z (nx (sq (sq (rg (k (fa fl24_0 rfl rfl (k (ldX H1 0 rfl ty3 rfl rfl (by decide) rfl (k (lss rfl rfl rfl rfl (k (mv (v := .bool (decide (mn < 0))) rfl rfl ?_))))))))))))))
  rcases Bool.eq_false_or_eq_true (decide (mn < 0)) with b0 | b0
  · -- decide (mn < 0) is True
    have p0 := of_decide_eq_true b0
    refine k (gn rfl rfl rfl b0 (k (gn rfl rfl rfl b0 (k (gn rfl rfl rfl b0 (k (pickT rfl rfl rfl rfl b0 rfl (k (mv (v := .bool true) rfl rfl (k (gn rfl rfl rfl rfl (k (gn rfl rfl rfl rfl (k (gn rfl rfl rfl rfl (k (gn rfl rfl rfl rfl (k (gn rfl rfl rfl rfl (k (gn rfl rfl rfl rfl (k (pickT rfl rfl rfl rfl rfl rfl (z (nx (cdT rfl rfl rfl (sq (rg (k (asg (v := .bool false) rfl rfl (z (nx (rt (then_ret (r1 rfl rfl ?_)))))))))))))))))))))))))))))))))))
    have e0 : (false : Bool) = rightS mn mr := by first | exact rightS_no (by omega) | exact right_end_ (by omega) (by omega) (by omega) hs (by omega) | exact right_row hx0 (rowOk_len (by omega)) | ((try (have e_ := at_is hx1 hx0; subst e_)); (try (have e_ := at_is hx2 hx0; subst e_)); (try (have e_ := at_is hx3 hx0; subst e_)); (try (have e_ := at_is hx4 hx0; subst e_)); (try (have e_ := at_is hx5 hx0; subst e_)); (try (have e_ := at_is hx6 hx0; subst e_)); exact right_row hx0 (rowOk_bit (k := mn + (q : Int)) (by omega) (by omega) (by omega) (by assumption)))
    have ev_ := cg1 (fun (x_0 : Bool) => (.bool x_0 : Value)) e0
    exact ⟨ev_, H1.below⟩
  · -- decide (mn < 0) is False
    have p0 := of_decide_eq_false b0
    refine k (gy rfl rfl rfl b0 (fa fl24_0 rfl rfl (k (gy rfl rfl rfl b0 (ldX H1 0 rfl ty3 rfl rfl (by decide) rfl (k (gy rfl rfl rfl b0 (gtr rfl rfl rfl rfl (k (pickF rfl rfl rfl rfl b0 rfl (k (mv (v := .bool (decide (4096 < mn))) rfl rfl ?_))))))))))))
    rcases Bool.eq_false_or_eq_true (decide (4096 < mn)) with b1 | b1
    · -- decide (4096 < mn) is True
      have p1 := of_decide_eq_true b1
      refine k (gn rfl rfl rfl b1 (k (gn rfl rfl rfl b1 (k (gn rfl rfl rfl b1 (k (gn rfl rfl rfl b1 (k (gn rfl rfl rfl b1 (k (gn rfl rfl rfl b1 (k (pickT rfl rfl rfl rfl b1 rfl (z (nx (cdT rfl rfl rfl (sq (rg (k (asg (v := .bool false) rfl rfl (z (nx (rt (then_ret (r1 rfl rfl ?_)))))))))))))))))))))))))
      have e0 : (false : Bool) = rightS mn mr := by first | exact rightS_no (by omega) | exact right_end_ (by omega) (by omega) (by omega) hs (by omega) | exact right_row hx0 (rowOk_len (by omega)) | ((try (have e_ := at_is hx1 hx0; subst e_)); (try (have e_ := at_is hx2 hx0; subst e_)); (try (have e_ := at_is hx3 hx0; subst e_)); (try (have e_ := at_is hx4 hx0; subst e_)); (try (have e_ := at_is hx5 hx0; subst e_)); (try (have e_ := at_is hx6 hx0; subst e_)); exact right_row hx0 (rowOk_bit (k := mn + (q : Int)) (by omega) (by omega) (by omega) (by assumption)))
      have ev_ := cg1 (fun (x_0 : Bool) => (.bool x_0 : Value)) e0
      exact ⟨ev_, H1.below⟩
    · -- decide (4096 < mn) is False
      have p1 := of_decide_eq_false b1
      refine k (gy rfl rfl rfl b1 (fa fl24_1 rfl rfl (k (gy rfl rfl rfl b1 (ldX H1 0 rfl ty22 rfl rfl (by decide) rfl (k (gy rfl rfl rfl b1 (lnS rfl rfl un22 (k (gy rfl rfl rfl b1 (fa fl24_0 rfl rfl (k (gy rfl rfl rfl b1 (ldX H1 0 rfl ty3 rfl rfl (by decide) rfl (k (gy rfl rfl rfl b1 (neq rfl rfl rfl rfl (k (pickF rfl rfl rfl rfl b1 rfl (z (nx ?_)))))))))))))))))))))
      refine cd (b := !decide ((mr.length : Int) = mn)) rfl rfl (fun b2 => ?_) (fun b2 => ?_)
      ·
        have p2 := of_decide_eq_false (nott b2)
        refine sq (rg (k (asg (v := .bool false) rfl rfl (z (nx (rt (then_ret (r1 rfl rfl ?_))))))))
        have e0 : (false : Bool) = rightS mn mr := by first | exact rightS_no (by omega) | exact right_end_ (by omega) (by omega) (by omega) hs (by omega) | exact right_row hx0 (rowOk_len (by omega)) | ((try (have e_ := at_is hx1 hx0; subst e_)); (try (have e_ := at_is hx2 hx0; subst e_)); (try (have e_ := at_is hx3 hx0; subst e_)); (try (have e_ := at_is hx4 hx0; subst e_)); (try (have e_ := at_is hx5 hx0; subst e_)); (try (have e_ := at_is hx6 hx0; subst e_)); exact right_row hx0 (rowOk_bit (k := mn + (q : Int)) (by omega) (by omega) (by omega) (by assumption)))
        have ev_ := cg1 (fun (x_0 : Bool) => (.bool x_0 : Value)) e0
        exact ⟨ev_, H1.below⟩
      ·
        have p2 := of_decide_eq_true (notf b2)
        refine sk (nx (sq (sq (rg (k (asg (v := .int .i64 0) rfl rfl (z (nx (bk ?_)))))))))
        refine lp (fun m f w' => ∃ (i : Nat), m = mr.length - i ∧ f 1 = .pointer (some ⟨bb0, 0, none⟩) ∧ f 3 = .int .i64 (i : Int) ∧  HI M w w' [box bb0 #[.int .i64 mn, .slice a_mr mr.length c_mr] 24, imm (.slice a_mr mr.length c_mr) mr] ∧ (i ≤ mr.length) ∧ ((mr.take i).all (rowOk mn) = true)) _ ⟨0, rfl, rfl, (ieq rfl (by first | rfl | omega | simp)), H1, (by first | assumption | omega | simp | (simp; omega)), (by rfl)⟩ ?_
        rintro _ f0 w1 ⟨i, rfl, s0, s1, H2, hi_, hs⟩
        refine sq (sq (rg (k (mv rfl s1 (k (fa fl24_0 rfl s0 (k (ldX H2 0 rfl ty3 rfl rfl (by decide) rfl (k (lss rfl rfl rfl rfl (z (nx ?_))))))))))))
        refine cd (b := decide ((i : Int) < mn)) rfl rfl (fun b3 => ?_) (fun b3 => ?_)
        ·
          have p3 := of_decide_eq_true b3
          refine sk (nx (sq (bk (sq (sq ?_)))))
          obtain ⟨x0, hx0⟩ : ∃ x, mr[(i : Int).toNat]? = some x := ⟨_, List.getElem?_eq_getElem (by first | omega | (simp; omega))⟩
          refine dr 9 [fun (v : Value) (w' : World) => v = .pointer (some ⟨bb0, 1, none⟩), fun (v : Value) (w' : World) => v = .slice a_mr mr.length c_mr, fun (v : Value) (w' : World) => v = .int .i64 (i : Int), fun (v : Value) (w' : World) => ∃ (ad0 : Addr), v = .pointer (some ad0) ∧ At (MS M [box bb0 #[.int .i64 mn, .slice a_mr mr.length c_mr] 24, imm (.slice a_mr mr.length c_mr) mr]) w' ad0 x0, fun (v : Value) (w' : World) => ∃ (a0 : Option Addr) (c0 : Nat), v = .slice a0 x0.length c0 ∧ RV (MS M [box bb0 #[.int .i64 mn, .slice a_mr mr.length c_mr] 24, imm (.slice a_mr mr.length c_mr) mr]) w' (.slice a0 x0.length c0) x0, fun (v : Value) (w' : World) => v = .int .i64 (x0.length : Int), fun (v : Value) (w' : World) => v = .pointer (some ⟨bb0, 0, none⟩), fun (v : Value) (w' : World) => v = .int .i64 mn, fun (v : Value) (w' : World) => v = .int .i64 ((words mn : Nat) : Int)] rfl (by kernel_rfl) ?_ ?_
          ·
            refine ⟨fun _ => ⟨fun f1 w3 hf0 xt2 hp0 => ?_, fun _ _ _ _ h => h⟩, ?_⟩
            ·
              have H5 := H2.ext xt2
              refine fa fl24_1 rfl ((hf0 1 rfl).trans s0) ?_
              exact ⟨_, rfl, Ext.refl _, rfl⟩
            refine ⟨fun _ => ⟨fun f2 w4 hf1 xt3 hp1 => ?_, fun _ _ _ _ h => h⟩, ?_⟩
            ·
              have H6 := H2.ext xt3
              have s2 : f2 27 = .pointer (some ⟨bb0, 1, none⟩) := hp1 0 rfl rfl
              refine ldX H6 0 rfl ty22 rfl s2 (by decide) rfl ?_
              exact ⟨_, rfl, Ext.refl _, rfl⟩
            refine ⟨fun _ => ⟨fun f3 w5 hf2 xt4 hp2 => ?_, fun _ _ _ _ h => h⟩, ?_⟩
            ·
              have H7 := H2.ext xt4
              refine mv rfl ((hf2 3 rfl).trans s1) ?_
              exact ⟨_, rfl, Ext.refl _, rfl⟩
            refine ⟨fun _ => ⟨fun f4 w6 hf3 xt5 hp3 => ?_, by rintro _ _ _ x_ ⟨ad0, e_, hA0⟩; exact ⟨ad0, e_, hA0.lift (Up.ext x_)⟩⟩, ?_⟩
            ·
              have H8 := H2.ext xt5
              have s3 : f4 28 = .slice a_mr mr.length c_mr := hp3 1 rfl rfl
              have s4 : f4 29 = .int .i64 (i : Int) := hp3 2 rfl rfl
              refine ia (H8.rv 1 rfl) rfl rfl s3 s4 (by first | omega | (simp; omega)) un22 ty73 ?_
              intro ad1 x1 hx1 hA1
              obtain rfl : x0 = x1 := Option.some.inj (hx0.symm.trans hx1)
              exact ⟨_, rfl, Ext.refl _, ⟨ad1, rfl, hA1⟩⟩
            refine ⟨fun _ => ⟨fun f5 w7 hf4 xt6 hp4 => ?_, by rintro _ _ _ x_ ⟨a0, c0, e_, rv0⟩; exact ⟨a0, c0, e_, rv0.lift (Up.ext x_)⟩⟩, ?_⟩
            ·
              have H9 := H2.ext xt6
              obtain ⟨ad2, s5, hA2⟩ : ∃ (ad2 : Addr), f5 30 = .pointer (some ad2) ∧ At (MS M [box bb0 #[.int .i64 mn, .slice a_mr mr.length c_mr] 24, imm (.slice a_mr mr.length c_mr) mr]) w7 ad2 x0 := hp4 3 rfl rfl
              have H10 := H9.put (it := atI ad2 x0) rfl hA2
              refine ldL (H10.atv 0 rfl).w ty73 rfl s5 ?_
              intro a1 c1 rv1
              have ln1 := rv_len rv1
              have H11 := H10.put (it := imm (.slice a1 x0.length c1) x0) rfl rv1
              exact ⟨_, rfl, Ext.refl _, ⟨a1, c1, rfl, (rv_drop rfl rv1)⟩⟩
            refine ⟨fun _ => ⟨fun f6 w8 hf5 xt7 hp5 => ?_, fun _ _ _ _ h => h⟩, ?_⟩
            ·
              have H12 := H2.ext xt7
              obtain ⟨a2, c2, s6, rv2⟩ : ∃ (a2 : Option Addr) (c2 : Nat), f6 31 = .slice a2 x0.length c2 ∧ RV (MS M [box bb0 #[.int .i64 mn, .slice a_mr mr.length c_mr] 24, imm (.slice a_mr mr.length c_mr) mr]) w8 (.slice a2 x0.length c2) x0 := hp5 4 rfl rfl
              have H13 := H12.put (it := imm (.slice a2 x0.length c2) x0) rfl rv2
              refine lnS rfl s6 un73 ?_
              exact ⟨_, rfl, Ext.refl _, rfl⟩
            refine ⟨fun _ => ⟨fun f7 w9 hf6 xt8 hp6 => ?_, fun _ _ _ _ h => h⟩, ?_⟩
            ·
              have H14 := H2.ext xt8
              refine fa fl24_0 rfl ((hf6 1 rfl).trans s0) ?_
              exact ⟨_, rfl, Ext.refl _, rfl⟩
            refine ⟨fun _ => ⟨fun f8 w10 hf7 xt9 hp7 => ?_, fun _ _ _ _ h => h⟩, ?_⟩
            ·
              have H15 := H2.ext xt9
              have s7 : f8 33 = .pointer (some ⟨bb0, 0, none⟩) := hp7 6 rfl rfl
              refine ldX H15 0 rfl ty3 rfl s7 (by decide) rfl ?_
              exact ⟨_, rfl, Ext.refl _, rfl⟩
            refine ⟨fun _ => ⟨fun f9 w11 hf8 xt10 hp8 => ?_, fun _ _ _ _ h => h⟩, ?_⟩
            ·
              have H16 := H2.ext xt10
              have s8 : f9 34 = .int .i64 mn := hp8 7 rfl rfl
              have cc1 := ref02_Words (n := mn) (w := w11) (by unfold I64 at *; omega) (by omega)
              refine ca go57 rfl (ec s8 e0) cc1 ?_
              rintro _ w12 ⟨rfl, xt11⟩
              have H17 := H16.ext xt11
              exact ⟨_, rfl, xt11, rfl⟩
            exact DSteps.rest rfl _
          · intro f10 w13 hf9 xt12 hp9
            have H18 := H2.ext xt12
            have s9 : f10 1 = .pointer (some ⟨bb0, 0, none⟩) := (hf9 1 rfl).trans s0
            have s10 : f10 3 = .int .i64 (i : Int) := (hf9 3 rfl).trans s1
            have s11 : f10 32 = .int .i64 (x0.length : Int) := hp9 5 rfl
            have s12 : f10 35 = .int .i64 ((words mn : Nat) : Int) := hp9 8 rfl
            refine k (neq rfl rfl s11 s12 (z (nx ?_)))
            refine cd (b := !decide ((x0.length : Int) = ((words mn : Nat) : Int))) rfl rfl (fun b4 => ?_) (fun b4 => ?_)
            ·
              have p4 := of_decide_eq_false (nott b4)
              refine sq (rg (k (asg (v := .bool false) rfl rfl (z (nx (rt (then_ret (inb_ret (then_ret (loop_ret (inb_ret (then_ret (r1 rfl rfl ?_)))))))))))))
              have e0 : (false : Bool) = rightS mn mr := by first | exact rightS_no (by omega) | exact right_end_ (by omega) (by omega) (by omega) hs (by omega) | exact right_row hx0 (rowOk_len (by omega)) | ((try (have e_ := at_is hx1 hx0; subst e_)); (try (have e_ := at_is hx2 hx0; subst e_)); (try (have e_ := at_is hx3 hx0; subst e_)); (try (have e_ := at_is hx4 hx0; subst e_)); (try (have e_ := at_is hx5 hx0; subst e_)); (try (have e_ := at_is hx6 hx0; subst e_)); exact right_row hx0 (rowOk_bit (k := mn + (q : Int)) (by omega) (by omega) (by omega) (by assumption)))
              have ev_ := cg1 (fun (x_0 : Bool) => (.bool x_0 : Value)) e0
              exact ⟨ev_, H18.below⟩
            ·
              have p4 := of_decide_eq_true (notf b4)
              refine sk (nx (sq (rg (k (fa fl24_0 rfl s9 (k (ldX H18 0 rfl ty3 rfl rfl (by decide) rfl (k (asg (v := .int .i64 mn) rfl rfl (z (nx (bk ?_))))))))))))
              refine lp (fun m f w' => ∃ (q : Nat), m = (64 * ((mr.getD i []).length : Int) - mn).toNat - q ∧ f 1 = .pointer (some ⟨bb0, 0, none⟩) ∧ f 3 = .int .i64 (i : Int) ∧ f 4 = .int .i64 (mn + (q : Int)) ∧  HI M w w' [box bb0 #[.int .i64 mn, .slice a_mr mr.length c_mr] 24, imm (.slice a_mr mr.length c_mr) mr] ∧ (q = 0 ∨ mn + (q : Int) ≤ 64 * ((mr.getD i []).length : Int)) ∧ (∀ k : Int, mn ≤ k → k < mn + (q : Int) → hasR (mr.getD i []) k = false)) _ ⟨0, rfl, s9, s10, (ieq rfl (by omega)), H18, (by left; rfl), (by intro k_ h1_ h2_; omega)⟩ ?_
              rintro _ f11 w14 ⟨q, rfl, s13, s14, s15, H19, hq_, hz⟩
              refine sq (sq (rg (k (mv rfl s15 (k (fa fl24_1 rfl s13 (k (ldX H19 0 rfl ty22 rfl rfl (by decide) rfl (k (mv rfl s14 (k (ia (H19.rv 1 rfl) rfl rfl rfl rfl (by first | omega | (simp; omega)) un22 ty73 ?_))))))))))))
              intro ad3 x2 hx2 hA3
              refine k (ldL hA3.w ty73 rfl rfl ?_)
              intro a3 c3 rv3
              have ln2 := rv_len rv3
              have H20 := H19.put (it := imm (.slice a3 x2.length c3) x2) rfl rv3
              refine k (lnS rfl rfl un73 (k (mul rfl rfl rfl rfl (by have h_ := words_le (n := mn) (by omega); (try (have e_ := at_is hx1 hx0; subst e_)); (try (have e_ := at_is hx2 hx0; subst e_)); (try (have e_ := at_is hx3 hx0; subst e_)); (try (have e_ := at_is hx4 hx0; subst e_)); (try (have e_ := at_is hx5 hx0; subst e_)); (try (have e_ := at_is hx6 hx0; subst e_)); unfold I64; omega) (k (lss rfl rfl rfl rfl (z (nx ?_)))))))
              refine cd (b := decide ((mn + (q : Int)) < (64 * (x2.length : Int)))) rfl rfl (fun b5 => ?_) (fun b5 => ?_)
              ·
                have p5 := of_decide_eq_true b5
                refine sk (nx (sq (bk (sq (rg (k (fa fl24_1 rfl s13 (k (ldX H20 1 rfl ty22 rfl rfl (by decide) rfl (k (mv rfl s14 (k (ia (H20.rv 2 rfl) rfl rfl rfl rfl (by first | omega | (simp; omega)) un22 ty73 ?_)))))))))))))
                intro ad4 x3 hx3 hA4
                refine k (ldL hA4.w ty73 rfl rfl ?_)
                intro a4 c4 rv4
                have ln3 := rv_len rv4
                have H21 := H20.put (it := imm (.slice a4 x3.length c4) x3) rfl rv4
                refine k (mv rfl s15 (k ?_))
                have cc2 := ref02_Has (r := x3) (i := (mn + (q : Int))) (w := w14) H21.mb (H21.rv 0 rfl) (by have h_ := words_le (n := mn) (by omega); (try (have e_ := at_is hx1 hx0; subst e_)); (try (have e_ := at_is hx2 hx0; subst e_)); (try (have e_ := at_is hx3 hx0; subst e_)); (try (have e_ := at_is hx4 hx0; subst e_)); (try (have e_ := at_is hx5 hx0; subst e_)); (try (have e_ := at_is hx6 hx0; subst e_)); unfold I64; omega) (by have h_ := words_le (n := mn) (by omega); (try (have e_ := at_is hx1 hx0; subst e_)); (try (have e_ := at_is hx2 hx0; subst e_)); (try (have e_ := at_is hx3 hx0; subst e_)); (try (have e_ := at_is hx4 hx0; subst e_)); (try (have e_ := at_is hx5 hx0; subst e_)); (try (have e_ := at_is hx6 hx0; subst e_)); omega)
                refine ca go58 rfl (ec rfl (ec rfl e0)) cc2 ?_
                rintro _ w15 ⟨rfl, xt13⟩
                have H22 := H21.ext xt13
                refine z (nx ?_)
                refine cd (b := hasR x3 (mn + (q : Int))) rfl rfl (fun b6 => ?_) (fun b6 => ?_)
                ·
                  refine sq (rg (k (asg (v := .bool false) rfl rfl (z (nx (rt (inb_ret (then_ret (loop_ret (inb_ret (inb_ret (then_ret (loop_ret (inb_ret (then_ret (r1 rfl rfl ?_))))))))))))))))
                  have e0 : (false : Bool) = rightS mn mr := by first | exact rightS_no (by omega) | exact right_end_ (by omega) (by omega) (by omega) hs (by omega) | exact right_row hx0 (rowOk_len (by omega)) | ((try (have e_ := at_is hx1 hx0; subst e_)); (try (have e_ := at_is hx2 hx0; subst e_)); (try (have e_ := at_is hx3 hx0; subst e_)); (try (have e_ := at_is hx4 hx0; subst e_)); (try (have e_ := at_is hx5 hx0; subst e_)); (try (have e_ := at_is hx6 hx0; subst e_)); exact right_row hx0 (rowOk_bit (k := mn + (q : Int)) (by omega) (by omega) (by omega) (by assumption)))
                  have ev_ := cg1 (fun (x_0 : Bool) => (.bool x_0 : Value)) e0
                  exact ⟨ev_, H22.below⟩
                ·
                  refine sk (inb_normal (nx (rg (k (mv rfl s15 (k (add rfl rfl rfl rfl (by have h_ := words_le (n := mn) (by omega); (try (have e_ := at_is hx1 hx0; subst e_)); (try (have e_ := at_is hx2 hx0; subst e_)); (try (have e_ := at_is hx3 hx0; subst e_)); (try (have e_ := at_is hx4 hx0; subst e_)); (try (have e_ := at_is hx5 hx0; subst e_)); (try (have e_ := at_is hx6 hx0; subst e_)); unfold I64; omega) (k (asg (v := .int .i64 ((mn + (q : Int)) + 1)) rfl rfl (z ?_))))))))))
                  have H23 : HI M w w15 [box bb0 #[.int .i64 mn, .slice a_mr mr.length c_mr] 24, imm (.slice a_mr mr.length c_mr) mr] := H22.pickN [2, 3] (by decide) rfl
                  refine loopN _ ?_ ⟨(q + 1), rfl, s13, s14, (ieq rfl (by omega)), H23, (by right; rw [getD_row hx0]; (try (have e_ := at_is hx1 hx0; subst e_)); (try (have e_ := at_is hx2 hx0; subst e_)); (try (have e_ := at_is hx3 hx0; subst e_)); (try (have e_ := at_is hx4 hx0; subst e_)); (try (have e_ := at_is hx5 hx0; subst e_)); (try (have e_ := at_is hx6 hx0; subst e_)); omega), (by intro k_ h1_ h2_; exact if e_ : k_ = mn + (q : Int) then (by rw [e_, getD_row hx0]; (try (have e_ := at_is hx1 hx0; subst e_)); (try (have e_ := at_is hx2 hx0; subst e_)); (try (have e_ := at_is hx3 hx0; subst e_)); (try (have e_ := at_is hx4 hx0; subst e_)); (try (have e_ := at_is hx5 hx0; subst e_)); (try (have e_ := at_is hx6 hx0; subst e_)); assumption) else hz k_ h1_ (by omega))⟩
                  (try (have e_ := at_is hx1 hx0; subst e_)); (try (have e_ := at_is hx2 hx0; subst e_)); (try (have e_ := at_is hx3 hx0; subst e_)); (try (have e_ := at_is hx4 hx0; subst e_)); (try (have e_ := at_is hx5 hx0; subst e_)); (try (have e_ := at_is hx6 hx0; subst e_)); rw [getD_row hx0] at *; omega
              ·
                have p5 := of_decide_eq_false b5
                refine ex (then_exit (loop_exit (inb_here (inb_normal (nx (rg (k (mv rfl s14 (k (add rfl rfl rfl rfl (by unfold I64 at *; omega) (k (asg (v := .int .i64 ((i : Int) + 1)) rfl rfl (z ?_)))))))))))))
                have H21 : HI M w w14 [box bb0 #[.int .i64 mn, .slice a_mr mr.length c_mr] 24, imm (.slice a_mr mr.length c_mr) mr] := H20.pickN [1, 2] (by decide) rfl
                refine loopN _ ?_ ⟨(i + 1), rfl, s13, (ieq rfl (by first | rfl | omega | (push_cast; omega))), H21, (by first | assumption | omega | simp | (simp; omega)), (by (try (have e_ := at_is hx1 hx0; subst e_)); (try (have e_ := at_is hx2 hx0; subst e_)); (try (have e_ := at_is hx3 hx0; subst e_)); (try (have e_ := at_is hx4 hx0; subst e_)); (try (have e_ := at_is hx5 hx0; subst e_)); (try (have e_ := at_is hx6 hx0; subst e_)); exact all_take hx0 hs (rowOk_yes (j := mn + (q : Int)) (by omega) (by rw [getD_row hx0] at hz; exact hz) (by omega)))⟩
                omega
        ·
          have p3 := of_decide_eq_false b3
          refine ex (then_exit (loop_exit (inb_here (nx (sq (rg (k (asg (v := .bool true) rfl rfl (z (nx (rt (r1 rfl rfl ?_))))))))))))
          have e0 : (true : Bool) = rightS mn mr := by first | exact rightS_no (by omega) | exact right_end_ (by omega) (by omega) (by omega) hs (by omega) | exact right_row hx0 (rowOk_len (by omega)) | ((try (have e_ := at_is hx1 hx0; subst e_)); (try (have e_ := at_is hx2 hx0; subst e_)); (try (have e_ := at_is hx3 hx0; subst e_)); (try (have e_ := at_is hx4 hx0; subst e_)); (try (have e_ := at_is hx5 hx0; subst e_)); (try (have e_ := at_is hx6 hx0; subst e_)); exact right_row hx0 (rowOk_bit (k := mn + (q : Int)) (by omega) (by omega) (by omega) (by assumption)))
          have ev_ := cg1 (fun (x_0 : Bool) => (.bool x_0 : Value)) e0
          exact ⟨ev_, H2.below⟩
/- eyewitness/eyewitnessref03.Pairs -/
set_option maxRecDepth 100000 in
set_option maxHeartbeats 1600000 in
theorem ref03_Pairs {M : Nat → Prop} {w : World} {mn : Int} {a_mr : Option Addr} {c_mr : Nat} {mr : List (List (BitVec 64))} (hM : ∀ b, M b → b < w.heap.size) (h_mn : I64 mn) (h_mr : RV M w (.slice a_mr mr.length c_mr) mr) (hsq_m : ((mr.length : Nat) : Int) = mn) (hrw_m : ∀ x ∈ mr, x.length ≤ 1000000000) (hl4_m : mn ≤ 4096) (hrs_m : ∀ x ∈ mr, x.length ≤ 64) : Calls Tryd.prog 76 #[.agg #[.int .i64 mn, .slice a_mr mr.length c_mr]] w (Ret fun v w' => ∃ (a0 : Option Addr) (c0 : Nat), v = .slice a0 (pairsM mn mr).length c0 ∧ Ext w w' ∧ RV M w' (.slice a0 (pairsM mn mr).length c0) (pairsM mn mr)) := by
  refine enter 35 Tryd.func76 rfl rfl rfl fun f0 ha => ?_
  have H := HI.start (M0 := M) (w := w) hM
  have H0 := H.put (it := imm (.slice a_mr mr.length c_mr) mr) rfl (by rw [MS_nil]; exact h_mr)
  have ln_mr := rv_len h_mr
  have i0 : f0 0 = .agg #[.int .i64 mn, .slice a_mr mr.length c_mr] := ha 0 (by simp)
  refine sq (rg (k (bx H0 rfl i0 ?_)))
  intro bb0 w0 xt0 (H1 : HI M w w0 [box bb0 #[.int .i64 mn, .slice a_mr mr.length c_mr] 24, imm (.slice a_mr mr.length c_mr) mr])
  refine k (asg (v := .slice none 0 0) rfl rfl (z (nx (sq (rg (k (asg (v := .slice none 0 0) rfl rfl (z (nx (sq (sq (rg (k (asg (v := .int .i64 0) rfl rfl (z (nx (bk ?_)))))))))))))))))
  have H2 := H1.nil_ (Int × Int) 76
  refine lp (fun m f w' => ∃ (i : Nat) (xs : List (Int × Int)) (a0 : Option Addr) (c0 : Nat), m = mn.toNat - i ∧ f 1 = .pointer (some ⟨bb0, 0, none⟩) ∧ f 3 = .slice a0 xs.length c0 ∧ f 4 = .int .i64 (i : Int) ∧  HI M w w' [own w.heap.size 76 (.slice a0 xs.length c0) xs, box bb0 #[.int .i64 mn, .slice a_mr mr.length c_mr] 24, imm (.slice a_mr mr.length c_mr) mr] ∧ (((i : Nat) : Int) ≤ mn ∨ i = 0) ∧ (xs = pairsTo mr i)) _ ⟨0, ([] : List (Int × Int)), none, 0, rfl, rfl, rfl, (ieq rfl (by first | rfl | omega | simp)), H2, (by right; rfl), (by rfl)⟩ ?_
  rintro _ f0 w1 ⟨i, xs, a0, c0, rfl, s0, s1, s2, H3, hi_, hs⟩
  refine sq (sq (rg (k (mv rfl s2 (k (fa fl24_0 rfl s0 (k (ldX H3 1 rfl ty3 rfl rfl (by decide) rfl (k (lss rfl rfl rfl rfl (z (nx ?_))))))))))))
  refine cd (b := decide ((i : Int) < mn)) rfl rfl (fun b0 => ?_) (fun b0 => ?_)
  ·
    have p0 := of_decide_eq_true b0
    refine sk (nx (sq (bk (sq (rg (k (fa fl24_1 rfl s0 (k (ldX H3 1 rfl ty22 rfl rfl (by decide) rfl (k (mv rfl s2 (k (ia (H3.rv 2 rfl) rfl rfl rfl rfl (by first | omega | (simp; omega)) un22 ty73 ?_)))))))))))))
    intro ad0 x0 hx0 hA0
    refine k (ldL hA0.w ty73 rfl rfl ?_)
    intro a1 c1 rv0
    have ln0 := rv_len rv0
    have H4 := H3.put (it := imm (.slice a1 x0.length c1) x0) rfl rv0
    refine k ?_
    have cc0 := ref02_List (r := x0) (w := w1) H4.mb (H4.rv 0 rfl) (by have h_ := hrs_m _ (List.mem_of_getElem? hx0); omega)
    refine ca go106 rfl (ec rfl e0) cc0 ?_
    rintro _ w2 ⟨a2, c2, rfl, xt1, rv1⟩
    have H5 := H4.ownsG rv1
    refine k (asg (v := .slice a2 (listR x0).length c2) rfl rfl (z (nx (sq (rg (k (asg (v := .int .i64 0) rfl rfl (z (nx (bk ?_))))))))))
    refine lp (fun m f w' => ∃ (q : Nat) (xs2 : List (Int × Int)) (a3 : Option Addr) (c3 : Nat), m = (listR x0).length - q ∧ f 1 = .pointer (some ⟨bb0, 0, none⟩) ∧ f 3 = .slice a3 xs2.length c3 ∧ f 4 = .int .i64 (i : Int) ∧ f 5 = .slice a2 (listR x0).length c2 ∧ f 6 = .int .i64 (q : Int) ∧  HI M w w' [own w.heap.size 3 (.slice a2 (listR x0).length c2) (listR x0), imm (.slice a1 x0.length c1) x0, own w.heap.size 76 (.slice a3 xs2.length c3) xs2, box bb0 #[.int .i64 mn, .slice a_mr mr.length c_mr] 24, imm (.slice a_mr mr.length c_mr) mr] ∧ (q ≤ (listR x0).length) ∧ (xs2 = pairsTo mr i ++ ((listR x0).take q).map fun j => (((i : Nat) : Int), j))) _ ⟨0, xs, a0, c0, rfl, s0, s1, s2, rfl, (ieq rfl (by first | rfl | omega | simp)), H5, (by first | assumption | omega | simp | (simp; omega)), (by rw [hs]; simp)⟩ ?_
    rintro _ f1 w3 ⟨q, xs2, a3, c3, rfl, s3, s4, s5, s6, s7, H6, hq_, hs2⟩
    refine sq (sq (rg (k (mv rfl s7 (k (mv rfl s6 (k (lnS rfl rfl un42 (k (lss rfl rfl rfl rfl (z (nx ?_))))))))))))
    refine cd (b := decide ((q : Int) < ((listR x0).length : Int))) rfl rfl (fun b1 => ?_) (fun b1 => ?_)
    ·
      have p1 := of_decide_eq_true b1
      refine sk (nx (sq (bk (rg (k (mv rfl s4 (k (mv rfl s5 (k (mv rfl s6 (k (mv rfl s7 (k (iaO (H6.at_ 0 rfl) rfl rfl rfl rfl (by first | omega | (simp; omega)) un42 ty3 ?_))))))))))))))
      intro g0 x1 hv0 hx1 hA1
      refine k (ldI hA1 ty3 rfl rfl ?_)
      intro rv2
      refine k (bd (v := .agg #[.int .i64 (i : Int), .int .i64 x1]) rfl (pbc rfl (pbc rfl pb0)) (fun _ => by kernel_rfl) (k (bs (xs := ([((i : Int), x1)] : List (Int × Int))) (cells := #[.int .i64 (i : Int), .int .i64 x1]) (e := 76) H6 rfl (pbc rfl pb0) (fun _ => by kernel_rfl) ⟨[.int .i64 (i : Int), .int .i64 x1], [], rfl, ⟨_, _, rfl, ⟨rfl, (show I64 ((i : Int)) from (by unfold I64 at *; omega))⟩, ⟨rfl, (show I64 (x1) from (by unfold I64 at *; omega))⟩⟩, rfl⟩ rfl (by unfold maxLen; omega) ?_)))
      intro g1 w4 xt2 (H7 : HI M w w4 [own w.heap.size 76 (.slice (some ⟨g1, 0, none⟩) 1 1) ([((i : Int), x1)] : List (Int × Int)), own w.heap.size 3 (.slice a2 (listR x0).length c2) (listR x0), imm (.slice a1 x0.length c1) x0, own w.heap.size 76 (.slice a3 xs2.length c3) xs2, box bb0 #[.int .i64 mn, .slice a_mr mr.length c_mr] 24, imm (.slice a_mr mr.length c_mr) mr])
      refine k (ap H7 3 rfl rfl rfl rfl rfl rfl (own_src (H7.at_ 0 rfl)) un31 ty76 rfl (by have h1_ := pairsTo_len hrs_m i; have h2_ := listR_length x0; have h3_ := hrs_m _ (List.mem_of_getElem? hx0); rw [hs2, List.length_append, List.length_map, List.length_take]; simp only [List.length_cons, List.length_nil]; omega) (by have h1_ := pairsTo_len hrs_m i; have h2_ := listR_length x0; have h3_ := hrs_m _ (List.mem_of_getElem? hx0); rw [hs2, List.length_append, List.length_map, List.length_take]; simp only [List.length_cons, List.length_nil]; omega) ?_)
      intro a4 c4 w5 (H8 : HI M w w5 [own w.heap.size 76 (.slice (some ⟨g1, 0, none⟩) 1 1) ([((i : Int), x1)] : List (Int × Int)), own w.heap.size 3 (.slice a2 (listR x0).length c2) (listR x0), imm (.slice a1 x0.length c1) x0, own w.heap.size 76 (.slice a4 (xs2 ++ ([((i : Int), x1)] : List (Int × Int))).length c4) (xs2 ++ ([((i : Int), x1)] : List (Int × Int))), box bb0 #[.int .i64 mn, .slice a_mr mr.length c_mr] 24, imm (.slice a_mr mr.length c_mr) mr])
      refine k (asg (v := .slice a4 (xs2 ++ ([((i : Int), x1)] : List (Int × Int))).length c4) rfl rfl (z (inb_normal (nx (rg (k (mv rfl s7 (k (add rfl rfl rfl rfl (by have h2_ := listR_length x0; have h3_ := hrs_m _ (List.mem_of_getElem? hx0); unfold I64; omega) (k (asg (v := .int .i64 ((q : Int) + 1)) rfl rfl (z ?_))))))))))))
      have H9 : HI M w w5 [own w.heap.size 3 (.slice a2 (listR x0).length c2) (listR x0), imm (.slice a1 x0.length c1) x0, own w.heap.size 76 (.slice a4 (xs2 ++ ([((i : Int), x1)] : List (Int × Int))).length c4) (xs2 ++ ([((i : Int), x1)] : List (Int × Int))), box bb0 #[.int .i64 mn, .slice a_mr mr.length c_mr] 24, imm (.slice a_mr mr.length c_mr) mr] := H8.pickN [1, 2, 3, 4, 5] (by decide) rfl
      refine loopN _ ?_ ⟨(q + 1), (xs2 ++ ([((i : Int), x1)] : List (Int × Int))), a4, c4, rfl, s3, rfl, s5, s6, (ieq rfl (by first | rfl | omega | (push_cast; omega))), H9, (by first | assumption | omega | simp | (simp; omega)), (by rw [hs2]; exact pair_step hx1)⟩
      omega
    ·
      have p1 := of_decide_eq_false b1
      refine ex (then_exit (loop_exit (inb_here (inb_normal (nx (rg (k (mv rfl s5 (k (add rfl rfl rfl rfl (by unfold I64 at *; omega) (k (asg (v := .int .i64 ((i : Int) + 1)) rfl rfl (z ?_)))))))))))))
      have H7 : HI M w w3 [own w.heap.size 76 (.slice a3 xs2.length c3) xs2, box bb0 #[.int .i64 mn, .slice a_mr mr.length c_mr] 24, imm (.slice a_mr mr.length c_mr) mr] := H6.pickN [2, 3, 4] (by decide) rfl
      refine loopN _ ?_ ⟨(i + 1), xs2, a3, c3, rfl, s3, s4, (ieq rfl (by first | rfl | omega | (push_cast; omega))), H7, (by left; omega), (by rw [hs2]; exact pair_row hx0 (by omega))⟩
      omega
  ·
    have p0 := of_decide_eq_false b0
    refine ex (then_exit (loop_exit (inb_here (nx (sq (rg (k (mv rfl s1 (k (asg (v := .slice a0 xs.length c0) rfl rfl (z (nx (rt (r1 rfl rfl ?_))))))))))))))
    have e0 : (xs : List (Int × Int)) = pairsM mn mr := by rw [hs]; exact pairs_end (by omega) (by omega)
    have ev_ := cg1 (fun (x_0 : List (Int × Int)) => (.slice a0 x_0.length c0 : Value)) e0
    exact ⟨a0, c0, ev_, H3.below, (congrArg (fun (x_ : List (Int × Int)) => RV _ _ (.slice a0 x_.length c0) x_) e0).mp (H3.outO 0 rfl)⟩
/- eyewitness/eyewitnessref03.Sub -/
set_option maxRecDepth 100000 in
set_option maxHeartbeats 1600000 in
theorem ref03_Sub {M : Nat → Prop} {w : World} {an : Int} {a_ar : Option Addr} {c_ar : Nat} {ar : List (List (BitVec 64))} {bn : Int} {a_br : Option Addr} {c_br : Nat} {br : List (List (BitVec 64))} (hM : ∀ b, M b → b < w.heap.size) (h_an : I64 an) (h_ar : RV M w (.slice a_ar ar.length c_ar) ar) (h_bn : I64 bn) (h_br : RV M w (.slice a_br br.length c_br) br) (hsq_a : ((ar.length : Nat) : Int) = an) (hrw_a : ∀ x ∈ ar, x.length ≤ 1000000000) (hl4_a : an ≤ 4096) (hsq_b : ((br.length : Nat) : Int) = bn) (hrw_b : ∀ x ∈ br, x.length ≤ 1000000000) (hl4_b : bn ≤ 4096) : Calls Tryd.prog 25 #[.agg #[.int .i64 an, .slice a_ar ar.length c_ar], .agg #[.int .i64 bn, .slice a_br br.length c_br]] w (Ret fun v w' =>  v = .bool (subM an ar bn br) ∧ Ext w w') := by
  refine enter 36 Tryd.func25 rfl rfl rfl fun f0 ha => ?_
  have H := HI.start (M0 := M) (w := w) hM
  have H0 := H.put (it := imm (.slice a_ar ar.length c_ar) ar) rfl (by rw [MS_nil]; exact h_ar)
  have H1 := H0.put (it := imm (.slice a_br br.length c_br) br) rfl (by rw [MS_cons_none rfl, MS_nil]; exact h_br)
  have ln_ar := rv_len h_ar
  have ln_br := rv_len h_br
  have i0 : f0 0 = .agg #[.int .i64 an, .slice a_ar ar.length c_ar] := ha 0 (by simp)
  have i1 : f0 1 = .agg #[.int .i64 bn, .slice a_br br.length c_br] := ha 1 (by simp)
  refine sq (rg (k (bx H1 rfl i0 ?_)))
  intro bb0 w0 xt0 (H2 : HI M w w0 [box bb0 #[.int .i64 an, .slice a_ar ar.length c_ar] 24, imm (.slice a_br br.length c_br) br, imm (.slice a_ar ar.length c_ar) ar])
  refine k (bx H2 rfl i1 ?_)
  intro bb1 w1 xt1 (H3 : HI M w w1 [box bb1 #[.int .i64 bn, .slice a_br br.length c_br] 24, box bb0 #[.int .i64 an, .slice a_ar ar.length c_ar] 24, imm (.slice a_br br.length c_br) br, imm (.slice a_ar ar.length c_ar) ar])
  refine k (asg (v := .bool false) rfl rfl (z (nx (sq (sq (rg (k (asg (v := .int .i64 0) rfl rfl (z (nx (bk ?_)))))))))))
  refine lp (fun m f w' => ∃ (j : Nat), m = ar.length - j ∧ f 2 = .pointer (some ⟨bb0, 0, none⟩) ∧ f 3 = .pointer (some ⟨bb1, 0, none⟩) ∧ f 5 = .int .i64 (j : Int) ∧  HI M w w' [box bb1 #[.int .i64 bn, .slice a_br br.length c_br] 24, box bb0 #[.int .i64 an, .slice a_ar ar.length c_ar] 24, imm (.slice a_br br.length c_br) br, imm (.slice a_ar ar.length c_ar) ar] ∧ (j ≤ ar.length) ∧ (subRs ar br j = true)) _ ⟨0, rfl, rfl, rfl, (ieq rfl (by first | rfl | omega | simp)), H3, (by first | assumption | omega | simp | (simp; omega)), (by rfl)⟩ ?_
  rintro _ f0 w2 ⟨j, rfl, s0, s1, s2, H4, hk, hs⟩
  refine sq (sq (rg (k (mv rfl s2 (k (fa fl24_0 rfl s0 (k (ldX H4 1 rfl ty3 rfl rfl (by decide) rfl (k (lss rfl rfl rfl rfl (k (mv (v := .bool (decide ((j : Int) < an))) rfl rfl ?_))))))))))))
  rcases Bool.eq_false_or_eq_true (decide ((j : Int) < an)) with b0 | b0
  · -- decide ((j : Int) < an) is True
    have p0 := of_decide_eq_true b0
    refine k (gy rfl rfl rfl b0 (fa fl24_0 rfl s0 (k (gy rfl rfl rfl b0 (ldX H4 1 rfl ty3 rfl rfl (by decide) rfl (k (gy rfl rfl rfl b0 (fa fl24_0 rfl s1 (k (gy rfl rfl rfl b0 (ldX H4 0 rfl ty3 rfl rfl (by decide) rfl (k (gy rfl rfl rfl b0 (eql rfl rfl rfl rfl (k (pickT rfl rfl rfl rfl b0 rfl (z (nx ?_))))))))))))))))))
    refine cd (b := decide (an = bn)) rfl rfl (fun b1 => ?_) (fun b1 => ?_)
    ·
      have p1 := of_decide_eq_true b1
      refine sk (nx (sq (bk (sq ?_))))
      obtain ⟨x0, hx0⟩ : ∃ x, ar[(j : Int).toNat]? = some x := ⟨_, List.getElem?_eq_getElem (by first | omega | (simp; omega))⟩
      obtain ⟨x1, hx1⟩ : ∃ x, br[(j : Int).toNat]? = some x := ⟨_, List.getElem?_eq_getElem (by first | omega | (simp; omega))⟩
      refine dr 10 [fun (v : Value) (w' : World) => v = .pointer (some ⟨bb0, 1, none⟩), fun (v : Value) (w' : World) => v = .slice a_ar ar.length c_ar, fun (v : Value) (w' : World) => v = .int .i64 (j : Int), fun (v : Value) (w' : World) => ∃ (ad0 : Addr), v = .pointer (some ad0) ∧ At (MS M [box bb1 #[.int .i64 bn, .slice a_br br.length c_br] 24, box bb0 #[.int .i64 an, .slice a_ar ar.length c_ar] 24, imm (.slice a_br br.length c_br) br, imm (.slice a_ar ar.length c_ar) ar]) w' ad0 x0, fun (v : Value) (w' : World) => ∃ (a0 : Option Addr) (c0 : Nat), v = .slice a0 x0.length c0 ∧ RV (MS M [box bb1 #[.int .i64 bn, .slice a_br br.length c_br] 24, box bb0 #[.int .i64 an, .slice a_ar ar.length c_ar] 24, imm (.slice a_br br.length c_br) br, imm (.slice a_ar ar.length c_ar) ar]) w' (.slice a0 x0.length c0) x0, fun (v : Value) (w' : World) => v = .pointer (some ⟨bb1, 1, none⟩), fun (v : Value) (w' : World) => v = .slice a_br br.length c_br, fun (v : Value) (w' : World) => v = .int .i64 (j : Int), fun (v : Value) (w' : World) => ∃ (ad1 : Addr), v = .pointer (some ad1) ∧ At (MS M [box bb1 #[.int .i64 bn, .slice a_br br.length c_br] 24, box bb0 #[.int .i64 an, .slice a_ar ar.length c_ar] 24, imm (.slice a_br br.length c_br) br, imm (.slice a_ar ar.length c_ar) ar]) w' ad1 x1, fun (v : Value) (w' : World) => ∃ (a1 : Option Addr) (c1 : Nat), v = .slice a1 x1.length c1 ∧ RV (MS M [box bb1 #[.int .i64 bn, .slice a_br br.length c_br] 24, box bb0 #[.int .i64 an, .slice a_ar ar.length c_ar] 24, imm (.slice a_br br.length c_br) br, imm (.slice a_ar ar.length c_ar) ar]) w' (.slice a1 x1.length c1) x1] rfl (by kernel_rfl) ?_ ?_
      ·
        refine ⟨fun _ => ⟨fun f1 w3 hf0 xt2 hp0 => ?_, fun _ _ _ _ h => h⟩, ?_⟩
        ·
          have H7 := H4.ext xt2
          refine fa fl24_1 rfl ((hf0 2 rfl).trans s0) ?_
          exact ⟨_, rfl, Ext.refl _, rfl⟩
        refine ⟨fun _ => ⟨fun f2 w4 hf1 xt3 hp1 => ?_, fun _ _ _ _ h => h⟩, ?_⟩
        ·
          have H8 := H4.ext xt3
          have s3 : f2 19 = .pointer (some ⟨bb0, 1, none⟩) := hp1 0 rfl rfl
          refine ldX H8 1 rfl ty22 rfl s3 (by decide) rfl ?_
          exact ⟨_, rfl, Ext.refl _, rfl⟩
        refine ⟨fun _ => ⟨fun f3 w5 hf2 xt4 hp2 => ?_, fun _ _ _ _ h => h⟩, ?_⟩
        ·
          have H9 := H4.ext xt4
          refine mv rfl ((hf2 5 rfl).trans s2) ?_
          exact ⟨_, rfl, Ext.refl _, rfl⟩
        refine ⟨fun _ => ⟨fun f4 w6 hf3 xt5 hp3 => ?_, by rintro _ _ _ x_ ⟨ad0, e_, hA0⟩; exact ⟨ad0, e_, hA0.lift (Up.ext x_)⟩⟩, ?_⟩
        ·
          have H10 := H4.ext xt5
          have s4 : f4 20 = .slice a_ar ar.length c_ar := hp3 1 rfl rfl
          have s5 : f4 21 = .int .i64 (j : Int) := hp3 2 rfl rfl
          refine ia (H10.rv 3 rfl) rfl rfl s4 s5 (by first | omega | (simp; omega)) un22 ty73 ?_
          intro ad2 x2 hx2 hA2
          obtain rfl : x0 = x2 := Option.some.inj (hx0.symm.trans hx2)
          exact ⟨_, rfl, Ext.refl _, ⟨ad2, rfl, hA2⟩⟩
        refine ⟨fun _ => ⟨fun f5 w7 hf4 xt6 hp4 => ?_, by rintro _ _ _ x_ ⟨a0, c0, e_, rv0⟩; exact ⟨a0, c0, e_, rv0.lift (Up.ext x_)⟩⟩, ?_⟩
        ·
          have H11 := H4.ext xt6
          obtain ⟨ad3, s6, hA3⟩ : ∃ (ad3 : Addr), f5 22 = .pointer (some ad3) ∧ At (MS M [box bb1 #[.int .i64 bn, .slice a_br br.length c_br] 24, box bb0 #[.int .i64 an, .slice a_ar ar.length c_ar] 24, imm (.slice a_br br.length c_br) br, imm (.slice a_ar ar.length c_ar) ar]) w7 ad3 x0 := hp4 3 rfl rfl
          have H12 := H11.put (it := atI ad3 x0) rfl hA3
          refine ldL (H12.atv 0 rfl).w ty73 rfl s6 ?_
          intro a2 c2 rv2
          have ln2 := rv_len rv2
          have H13 := H12.put (it := imm (.slice a2 x0.length c2) x0) rfl rv2
          exact ⟨_, rfl, Ext.refl _, ⟨a2, c2, rfl, (rv_drop rfl rv2)⟩⟩
        refine ⟨fun _ => ⟨fun f6 w8 hf5 xt7 hp5 => ?_, fun _ _ _ _ h => h⟩, ?_⟩
        ·
          have H14 := H4.ext xt7
          refine fa fl24_1 rfl ((hf5 3 rfl).trans s1) ?_
          exact ⟨_, rfl, Ext.refl _, rfl⟩
        refine ⟨fun _ => ⟨fun f7 w9 hf6 xt8 hp6 => ?_, fun _ _ _ _ h => h⟩, ?_⟩
        ·
          have H15 := H4.ext xt8
          have s7 : f7 24 = .pointer (some ⟨bb1, 1, none⟩) := hp6 5 rfl rfl
          refine ldX H15 0 rfl ty22 rfl s7 (by decide) rfl ?_
          exact ⟨_, rfl, Ext.refl _, rfl⟩
        refine ⟨fun _ => ⟨fun f8 w10 hf7 xt9 hp7 => ?_, fun _ _ _ _ h => h⟩, ?_⟩
        ·
          have H16 := H4.ext xt9
          refine mv rfl ((hf7 5 rfl).trans s2) ?_
          exact ⟨_, rfl, Ext.refl _, rfl⟩
        refine ⟨fun _ => ⟨fun f9 w11 hf8 xt10 hp8 => ?_, by rintro _ _ _ x_ ⟨ad1, e_, hA1⟩; exact ⟨ad1, e_, hA1.lift (Up.ext x_)⟩⟩, ?_⟩
        ·
          have H17 := H4.ext xt10
          have s8 : f9 25 = .slice a_br br.length c_br := hp8 6 rfl rfl
          have s9 : f9 26 = .int .i64 (j : Int) := hp8 7 rfl rfl
          refine ia (H17.rv 2 rfl) rfl rfl s8 s9 (by first | omega | (simp; omega)) un22 ty73 ?_
          intro ad4 x3 hx3 hA4
          obtain rfl : x1 = x3 := Option.some.inj (hx1.symm.trans hx3)
          exact ⟨_, rfl, Ext.refl _, ⟨ad4, rfl, hA4⟩⟩
        refine ⟨fun _ => ⟨fun f10 w12 hf9 xt11 hp9 => ?_, by rintro _ _ _ x_ ⟨a1, c1, e_, rv1⟩; exact ⟨a1, c1, e_, rv1.lift (Up.ext x_)⟩⟩, ?_⟩
        ·
          have H18 := H4.ext xt11
          obtain ⟨ad5, s10, hA5⟩ : ∃ (ad5 : Addr), f10 27 = .pointer (some ad5) ∧ At (MS M [box bb1 #[.int .i64 bn, .slice a_br br.length c_br] 24, box bb0 #[.int .i64 an, .slice a_ar ar.length c_ar] 24, imm (.slice a_br br.length c_br) br, imm (.slice a_ar ar.length c_ar) ar]) w12 ad5 x1 := hp9 8 rfl rfl
          have H19 := H18.put (it := atI ad5 x1) rfl hA5
          refine ldL (H19.atv 0 rfl).w ty73 rfl s10 ?_
          intro a3 c3 rv3
          have ln3 := rv_len rv3
          have H20 := H19.put (it := imm (.slice a3 x1.length c3) x1) rfl rv3
          exact ⟨_, rfl, Ext.refl _, ⟨a3, c3, rfl, (rv_drop rfl rv3)⟩⟩
        exact DSteps.rest rfl _
      · intro f11 w13 hf10 xt12 hp10
        have H21 := H4.ext xt12
        have s11 : f11 2 = .pointer (some ⟨bb0, 0, none⟩) := (hf10 2 rfl).trans s0
        have s12 : f11 3 = .pointer (some ⟨bb1, 0, none⟩) := (hf10 3 rfl).trans s1
        have s13 : f11 5 = .int .i64 (j : Int) := (hf10 5 rfl).trans s2
        obtain ⟨a4, c4, s14, rv4⟩ : ∃ (a4 : Option Addr) (c4 : Nat), f11 23 = .slice a4 x0.length c4 ∧ RV (MS M [box bb1 #[.int .i64 bn, .slice a_br br.length c_br] 24, box bb0 #[.int .i64 an, .slice a_ar ar.length c_ar] 24, imm (.slice a_br br.length c_br) br, imm (.slice a_ar ar.length c_ar) ar]) w13 (.slice a4 x0.length c4) x0 := hp10 4 rfl
        have H22 := H21.put (it := imm (.slice a4 x0.length c4) x0) rfl rv4
        obtain ⟨a5, c5, s15, rv5⟩ : ∃ (a5 : Option Addr) (c5 : Nat), f11 28 = .slice a5 x1.length c5 ∧ RV (MS M [box bb1 #[.int .i64 bn, .slice a_br br.length c_br] 24, box bb0 #[.int .i64 an, .slice a_ar ar.length c_ar] 24, imm (.slice a_br br.length c_br) br, imm (.slice a_ar ar.length c_ar) ar]) w13 (.slice a5 x1.length c5) x1 := hp10 9 rfl
        have H23 := H22.put (it := imm (.slice a5 x1.length c5) x1) rfl (by rw [MS_cons_none rfl]; exact rv5)
        refine k ?_
        have cc0 := ref02_Sub (a := x0) (b := x1) (w := w13) H23.mb (H23.rv 1 rfl) (H23.rv 0 rfl) (by first | exact hrw_a _ (List.mem_of_getElem? hx0) | exact hrw_b _ (List.mem_of_getElem? hx1)) (by first | exact hrw_a _ (List.mem_of_getElem? hx0) | exact hrw_b _ (List.mem_of_getElem? hx1))
        refine ca go72 rfl (ec s14 (ec s15 e0)) cc0 ?_
        rintro _ w14 ⟨rfl, xt13⟩
        have H24 := H23.ext xt13
        refine k (not_ rfl rfl (z (nx ?_)))
        refine cd (b := !(subR x0 x1)) rfl rfl (fun b2 => ?_) (fun b2 => ?_)
        ·
          refine sq (rg (k (asg (v := .bool false) rfl rfl (z (nx (rt (inb_ret (then_ret (loop_ret (inb_ret (then_ret (r1 rfl rfl ?_))))))))))))
          have e0 : (false : Bool) = subM an ar bn br := by first | exact subM_no (i := j) (by omega) hx0 hx1 (by simpa using b2) | exact subM_no (i := j) (by omega) hx0 hx1 (by assumption) | (exact if h_ : an = bn then (by rw [decide_eq_true h_]; exact subM_yes h_ (by omega) (by omega) hs) else (by rw [decide_eq_false h_]; exact subM_ne h_))
          have ev_ := cg1 (fun (x_0 : Bool) => (.bool x_0 : Value)) e0
          exact ⟨ev_, H24.below⟩
        ·
          refine sk (inb_normal (nx (rg (k (mv rfl s13 (k (add rfl rfl rfl rfl (by unfold I64 at *; omega) (k (asg (v := .int .i64 ((j : Int) + 1)) rfl rfl (z ?_))))))))))
          have H25 : HI M w w14 [box bb1 #[.int .i64 bn, .slice a_br br.length c_br] 24, box bb0 #[.int .i64 an, .slice a_ar ar.length c_ar] 24, imm (.slice a_br br.length c_br) br, imm (.slice a_ar ar.length c_ar) ar] := H24.pickN [2, 3, 4, 5] (by decide) rfl
          refine loopN _ ?_ ⟨(j + 1), rfl, s11, s12, (ieq rfl (by first | rfl | omega | (push_cast; omega))), H25, (by first | assumption | omega | simp | (simp; omega)), (by first | exact subRs_step hs hx0 hx1 (by assumption) | exact subRs_step hs hx0 hx1 (by simpa using b2))⟩
          omega
    ·
      have p1 := of_decide_eq_false b1
      refine ex (then_exit (loop_exit (inb_here (nx (sq (rg (k (fa fl24_0 rfl s0 (k (ldX H4 1 rfl ty3 rfl rfl (by decide) rfl (k (fa fl24_0 rfl s1 (k (ldX H4 0 rfl ty3 rfl rfl (by decide) rfl (k (eql rfl rfl rfl rfl (k (asg (v := .bool (decide (an = bn))) rfl rfl (z (nx (rt (r1 rfl rfl ?_))))))))))))))))))))))
      have e0 : (decide (an = bn) : Bool) = subM an ar bn br := by first | exact subM_no (i := j) (by omega) hx0 hx1 (by simpa using b2) | exact subM_no (i := j) (by omega) hx0 hx1 (by assumption) | (exact if h_ : an = bn then (by rw [decide_eq_true h_]; exact subM_yes h_ (by omega) (by omega) hs) else (by rw [decide_eq_false h_]; exact subM_ne h_))
      have ev_ := cg1 (fun (x_0 : Bool) => (.bool x_0 : Value)) e0
      exact ⟨ev_, H4.below⟩
  · -- decide ((j : Int) < an) is False
    have p0 := of_decide_eq_false b0
    refine k (gn rfl rfl rfl b0 (k (gn rfl rfl rfl b0 (k (gn rfl rfl rfl b0 (k (gn rfl rfl rfl b0 (k (gn rfl rfl rfl b0 (k (pickF rfl rfl rfl rfl b0 rfl (z (nx (cdF rfl rfl rfl (ex (then_exit (loop_exit (inb_here (nx (sq (rg (k (fa fl24_0 rfl s0 (k (ldX H4 1 rfl ty3 rfl rfl (by decide) rfl (k (fa fl24_0 rfl s1 (k (ldX H4 0 rfl ty3 rfl rfl (by decide) rfl (k (eql rfl rfl rfl rfl (k (asg (v := .bool (decide (an = bn))) rfl rfl (z (nx (rt (r1 rfl rfl ?_)))))))))))))))))))))))))))))))))))))
    have e0 : (decide (an = bn) : Bool) = subM an ar bn br := by first | exact subM_no (i := j) (by omega) hx0 hx1 (by simpa using b2) | exact subM_no (i := j) (by omega) hx0 hx1 (by assumption) | (exact if h_ : an = bn then (by rw [decide_eq_true h_]; exact subM_yes h_ (by omega) (by omega) hs) else (by rw [decide_eq_false h_]; exact subM_ne h_))
    have ev_ := cg1 (fun (x_0 : Bool) => (.bool x_0 : Value)) e0
    exact ⟨ev_, H4.below⟩
/- eyewitness/eyewitnessref03.Small -/
set_option maxRecDepth 100000 in
set_option maxHeartbeats 1600000 in
theorem ref03_Small {M : Nat → Prop} {w : World} {mn : Int} {a_mr : Option Addr} {c_mr : Nat} {mr : List (List (BitVec 64))} {mo : Int} (hM : ∀ b, M b → b < w.heap.size) (h_mn : I64 mn) (h_mr : RV M w (.slice a_mr mr.length c_mr) mr) (h_mo : I64 mo) : Calls Tryd.prog 12 #[.agg #[.int .i64 mn, .slice a_mr mr.length c_mr], .int .i64 mo] w (Ret fun v w' =>  v = .bool (smallM mr mo) ∧ Ext w w') := by
  refine enter 25 Tryd.func12 rfl rfl rfl fun f0 ha => ?_
  have H := HI.start (M0 := M) (w := w) hM
  have H0 := H.put (it := imm (.slice a_mr mr.length c_mr) mr) rfl (by rw [MS_nil]; exact h_mr)
  have ln_mr := rv_len h_mr
  have i0 : f0 0 = .agg #[.int .i64 mn, .slice a_mr mr.length c_mr] := ha 0 (by simp)
  have i1 : f0 1 = .int .i64 mo := ha 1 (by simp)
  refine sq (rg (k (bx H0 rfl i0 ?_)))
  intro bb0 w0 xt0 (H1 : HI M w w0 [box bb0 #[.int .i64 mn, .slice a_mr mr.length c_mr] 24, imm (.slice a_mr mr.length c_mr) mr])
  refine k (asg (v := .bool false) rfl rfl (z (nx (sq (sq (rg (k (fa fl24_1 rfl rfl (k (ldX H1 0 rfl ty22 rfl rfl (by decide) rfl (k (lnS rfl rfl un22 (k (mv rfl i1 (k (gtr rfl rfl rfl rfl (z (nx ?_))))))))))))))))))
  refine cd (b := decide (mo < (mr.length : Int))) rfl rfl (fun b0 => ?_) (fun b0 => ?_)
  ·
    have p0 := of_decide_eq_true b0
    refine sq (rg (k (asg (v := .bool false) rfl rfl (z (nx (rt (then_ret (r1 rfl rfl ?_))))))))
    have e0 : (false : Bool) = smallM mr mo := by first | exact smallM_big (by omega) | exact smallM_row hx0 (by omega) | exact smallM_end (by omega) hs (by omega)
    have ev_ := cg1 (fun (x_0 : Bool) => (.bool x_0 : Value)) e0
    exact ⟨ev_, H1.below⟩
  ·
    have p0 := of_decide_eq_false b0
    refine sk (nx (sq (sq (rg (k (asg (v := .int .i64 0) rfl rfl (z (nx (bk ?_)))))))))
    refine lp (fun m f w' => ∃ (j : Nat), m = mr.length - j ∧ f 2 = .pointer (some ⟨bb0, 0, none⟩) ∧ f 5 = .int .i64 (j : Int) ∧  HI M w w' [box bb0 #[.int .i64 mn, .slice a_mr mr.length c_mr] 24, imm (.slice a_mr mr.length c_mr) mr] ∧ (j ≤ mr.length) ∧ ((mr.take j).all (fun r => decide (r.length ≤ 4)) = true)) _ ⟨0, rfl, rfl, (ieq rfl (by first | rfl | omega | simp)), H1, (by first | assumption | omega | simp | (simp; omega)), (by rfl)⟩ ?_
    rintro _ f0 w1 ⟨j, rfl, s0, s1, H2, hk, hs⟩
    refine sq (sq (rg (k (mv rfl s1 (k (fa fl24_1 rfl s0 (k (ldX H2 0 rfl ty22 rfl rfl (by decide) rfl (k (lnS rfl rfl un22 (k (lss rfl rfl rfl rfl (z (nx ?_))))))))))))))
    refine cd (b := decide ((j : Int) < (mr.length : Int))) rfl rfl (fun b1 => ?_) (fun b1 => ?_)
    ·
      have p1 := of_decide_eq_true b1
      refine sk (nx (sq (bk (sq (rg (k (fa fl24_1 rfl s0 (k (ldX H2 0 rfl ty22 rfl rfl (by decide) rfl (k (mv rfl s1 (k (ia (H2.rv 1 rfl) rfl rfl rfl rfl (by first | omega | (simp; omega)) un22 ty73 ?_)))))))))))))
      intro ad0 x0 hx0 hA0
      refine k (ldL hA0.w ty73 rfl rfl ?_)
      intro a0 c0 rv0
      have ln0 := rv_len rv0
      have H3 := H2.put (it := imm (.slice a0 x0.length c0) x0) rfl rv0
      refine k (lnS rfl rfl un73 (k (gtr rfl rfl rfl rfl (z (nx ?_)))))
      refine cd (b := decide (4 < (x0.length : Int))) rfl rfl (fun b2 => ?_) (fun b2 => ?_)
      ·
        have p2 := of_decide_eq_true b2
        refine sq (rg (k (asg (v := .bool false) rfl rfl (z (nx (rt (inb_ret (then_ret (loop_ret (inb_ret (then_ret (r1 rfl rfl ?_))))))))))))
        have e0 : (false : Bool) = smallM mr mo := by first | exact smallM_big (by omega) | exact smallM_row hx0 (by omega) | exact smallM_end (by omega) hs (by omega)
        have ev_ := cg1 (fun (x_0 : Bool) => (.bool x_0 : Value)) e0
        exact ⟨ev_, H3.below⟩
      ·
        have p2 := of_decide_eq_false b2
        refine sk (inb_normal (nx (rg (k (mv rfl s1 (k (add rfl rfl rfl rfl (by unfold I64 at *; omega) (k (asg (v := .int .i64 ((j : Int) + 1)) rfl rfl (z ?_))))))))))
        have H4 : HI M w w1 [box bb0 #[.int .i64 mn, .slice a_mr mr.length c_mr] 24, imm (.slice a_mr mr.length c_mr) mr] := H3.pickN [1, 2] (by decide) rfl
        refine loopN _ ?_ ⟨(j + 1), rfl, s0, (ieq rfl (by first | rfl | omega | (push_cast; omega))), H4, (by first | assumption | omega | simp | (simp; omega)), (by exact all_take hx0 hs (decide_eq_true (by omega)))⟩
        omega
    ·
      have p1 := of_decide_eq_false b1
      refine ex (then_exit (loop_exit (inb_here (nx (sq (rg (k (asg (v := .bool true) rfl rfl (z (nx (rt (r1 rfl rfl ?_))))))))))))
      have e0 : (true : Bool) = smallM mr mo := by first | exact smallM_big (by omega) | exact smallM_row hx0 (by omega) | exact smallM_end (by omega) hs (by omega)
      have ev_ := cg1 (fun (x_0 : Bool) => (.bool x_0 : Value)) e0
      exact ⟨ev_, H2.below⟩
/- eyewitness/eyewitnessref04.Closed -/
set_option maxRecDepth 100000 in
set_option maxHeartbeats 1600000 in
theorem ref04_Closed {M : Nat → Prop} {w : World} {mn : Int} {a_mr : Option Addr} {c_mr : Nat} {mr : List (List (BitVec 64))} (hM : ∀ b, M b → b < w.heap.size) (h_mn : I64 mn) (h_mr : RV M w (.slice a_mr mr.length c_mr) mr) (hsq_m : ((mr.length : Nat) : Int) = mn) (hrw_m : ∀ x ∈ mr, x.length ≤ 1000000000) (hl4_m : mn ≤ 4096) : Calls Tryd.prog 24 #[.agg #[.int .i64 mn, .slice a_mr mr.length c_mr]] w (Ret fun v w' =>  v = .bool (closedM mn mr) ∧ Ext w w') := by
  refine enter 41 Tryd.func24 rfl rfl rfl fun f0 ha => ?_
  have H := HI.start (M0 := M) (w := w) hM
  have H0 := H.put (it := imm (.slice a_mr mr.length c_mr) mr) rfl (by rw [MS_nil]; exact h_mr)
  have ln_mr := rv_len h_mr
  have i0 : f0 0 = .agg #[.int .i64 mn, .slice a_mr mr.length c_mr] := ha 0 (by simp)
  refine sq (rg (k (bx H0 rfl i0 ?_)))
  intro bb0 w0 xt0 (H1 : HI M w w0 [box bb0 #[.int .i64 mn, .slice a_mr mr.length c_mr] 24, imm (.slice a_mr mr.length c_mr) mr])
  refine k (asg (v := .bool false) rfl rfl (z (nx (sq (sq (rg (k (asg (v := .int .i64 0) rfl rfl (z (nx (bk ?_)))))))))))
  refine lp (fun m f w' => ∃ (i : Nat), m = mn.toNat - i ∧ f 1 = .pointer (some ⟨bb0, 0, none⟩) ∧ f 3 = .int .i64 (i : Int) ∧  HI M w w' [box bb0 #[.int .i64 mn, .slice a_mr mr.length c_mr] 24, imm (.slice a_mr mr.length c_mr) mr] ∧ (((i : Nat) : Int) ≤ mn ∨ i = 0) ∧ ((List.range i).all (cl1 mn mr) = true)) _ ⟨0, rfl, rfl, (ieq rfl (by first | rfl | omega | simp)), H1, (by right; rfl), (by rfl)⟩ ?_
  rintro _ f0 w1 ⟨i, rfl, s0, s1, H2, hi_, hs⟩
  refine sq (sq (rg (k (mv rfl s1 (k (fa fl24_0 rfl s0 (k (ldX H2 0 rfl ty3 rfl rfl (by decide) rfl (k (lss rfl rfl rfl rfl (z (nx ?_))))))))))))
  refine cd (b := decide ((i : Int) < mn)) rfl rfl (fun b0 => ?_) (fun b0 => ?_)
  ·
    have p0 := of_decide_eq_true b0
    refine sk (nx (sq (bk (sq (rg (k (asg (v := .int .i64 0) rfl rfl (z (nx (bk ?_))))))))))
    refine lp (fun m f w' => ∃ (j : Nat), m = mn.toNat - j ∧ f 1 = .pointer (some ⟨bb0, 0, none⟩) ∧ f 3 = .int .i64 (i : Int) ∧ f 4 = .int .i64 (j : Int) ∧  HI M w w' [box bb0 #[.int .i64 mn, .slice a_mr mr.length c_mr] 24, imm (.slice a_mr mr.length c_mr) mr] ∧ (((j : Nat) : Int) ≤ mn ∨ j = 0) ∧ ((List.range j).all (cl2 mn mr i) = true)) _ ⟨0, rfl, s0, s1, (ieq rfl (by first | rfl | omega | simp)), H2, (by right; rfl), (by rfl)⟩ ?_
    rintro _ f1 w2 ⟨j, rfl, s2, s3, s4, H3, hj_, hs2⟩
    refine sq (sq (rg (k (mv rfl s4 (k (fa fl24_0 rfl s2 (k (ldX H3 0 rfl ty3 rfl rfl (by decide) rfl (k (lss rfl rfl rfl rfl (z (nx ?_))))))))))))
    refine cd (b := decide ((j : Int) < mn)) rfl rfl (fun b1 => ?_) (fun b1 => ?_)
    ·
      have p1 := of_decide_eq_true b1
      refine sk (nx (sq (bk (sq (rg (k (asg (v := .int .i64 0) rfl rfl (z (nx (bk ?_))))))))))
      refine lp (fun m f w' => ∃ (q : Nat), m = mn.toNat - q ∧ f 1 = .pointer (some ⟨bb0, 0, none⟩) ∧ f 3 = .int .i64 (i : Int) ∧ f 4 = .int .i64 (j : Int) ∧ f 5 = .int .i64 (q : Int) ∧  HI M w w' [box bb0 #[.int .i64 mn, .slice a_mr mr.length c_mr] 24, imm (.slice a_mr mr.length c_mr) mr] ∧ (((q : Nat) : Int) ≤ mn ∨ q = 0) ∧ ((List.range q).all (cl3 mn mr i j) = true)) _ ⟨0, rfl, s2, s3, s4, (ieq rfl (by first | rfl | omega | simp)), H3, (by right; rfl), (by rfl)⟩ ?_
      rintro _ f2 w3 ⟨q, rfl, s5, s6, s7, s8, H4, hq_, hs3⟩
      refine sq (sq (rg (k (mv rfl s8 (k (fa fl24_0 rfl s5 (k (ldX H4 0 rfl ty3 rfl rfl (by decide) rfl (k (lss rfl rfl rfl rfl (k (mv (v := .bool (decide ((q : Int) < mn))) rfl rfl ?_))))))))))))
      rcases Bool.eq_false_or_eq_true (decide ((q : Int) < mn)) with b2 | b2
      · -- decide ((q : Int) < mn) is True
        have p2 := of_decide_eq_true b2
        refine k (gy rfl rfl rfl b2 (ldX H4 0 rfl ty24 rfl s5 (by decide) rfl (k (gy rfl rfl rfl b2 (mv rfl s6 (k (gy rfl rfl rfl b2 (mv rfl s7 (k (gy rfl rfl rfl b2 ?_))))))))))
        have cc0 := ref03_Has (mn := mn) (mr := mr) (i := (i : Int)) (j := (j : Int)) (w := w3) H4.mb (by unfold I64 at *; omega) (H4.rv 1 rfl) (by unfold I64 at *; omega) (by unfold I64 at *; omega) (by first | assumption | omega) (by first | assumption | omega) (by first | assumption | omega)
        refine ca go45 rfl (ec rfl (ec rfl (ec rfl e0))) cc0 ?_
        rintro _ w4 ⟨rfl, xt1⟩
        have H5 := H4.ext xt1
        refine k (pickT rfl rfl rfl rfl b2 rfl (z (nx ?_)))
        refine cd (b := hasM mn mr (i : Int) (j : Int)) rfl rfl (fun b3 => ?_) (fun b3 => ?_)
        ·
          refine sk (nx (sq (bk (sq (rg (k (ldX H5 0 rfl ty24 rfl s5 (by decide) rfl (k (mv rfl s7 (k (mv rfl s8 (k ?_))))))))))))
          have cc1 := ref03_Has (mn := mn) (mr := mr) (i := (j : Int)) (j := (q : Int)) (w := w4) H5.mb (by unfold I64 at *; omega) (H5.rv 1 rfl) (by unfold I64 at *; omega) (by unfold I64 at *; omega) (by first | assumption | omega) (by first | assumption | omega) (by first | assumption | omega)
          refine ca go45 rfl (ec rfl (ec rfl (ec rfl e0))) cc1 ?_
          rintro _ w5 ⟨rfl, xt2⟩
          have H6 := H5.ext xt2
          refine k (mv (v := .bool (hasM mn mr (j : Int) (q : Int))) rfl rfl ?_)
          rcases Bool.eq_false_or_eq_true (hasM mn mr (j : Int) (q : Int)) with b4 | b4
          · -- hasM mn mr (j : Int) (q : Int) is True
            refine k (gy rfl rfl rfl b4 (ldX H6 0 rfl ty24 rfl s5 (by decide) rfl (k (gy rfl rfl rfl b4 (mv rfl s6 (k (gy rfl rfl rfl b4 (mv rfl s8 (k (gy rfl rfl rfl b4 ?_))))))))))
            have cc2 := ref03_Has (mn := mn) (mr := mr) (i := (i : Int)) (j := (q : Int)) (w := w5) H6.mb (by unfold I64 at *; omega) (H6.rv 1 rfl) (by unfold I64 at *; omega) (by unfold I64 at *; omega) (by first | assumption | omega) (by first | assumption | omega) (by first | assumption | omega)
            refine ca go45 rfl (ec rfl (ec rfl (ec rfl e0))) cc2 ?_
            rintro _ w6 ⟨rfl, xt3⟩
            have H7 := H6.ext xt3
            refine k (gy rfl rfl rfl b4 (not_ rfl rfl (k (pickT rfl rfl rfl rfl b4 rfl (z (nx ?_))))))
            refine cd (b := !(hasM mn mr (i : Int) (q : Int))) rfl rfl (fun b5 => ?_) (fun b5 => ?_)
            ·
              refine sq (rg (k (asg (v := .bool false) rfl rfl (z (nx (rt (inb_ret (then_ret (loop_ret (inb_ret (inb_ret (then_ret (loop_ret (inb_ret (inb_ret (then_ret (loop_ret (inb_ret (then_ret (r1 rfl rfl ?_))))))))))))))))))))
              have e0 : (false : Bool) = closedM mn mr := by first | exact closed_no p0 p1 p2 b3 b4 (by simpa using b5) | exact (ra_end hs (by omega)).symm
              have ev_ := cg1 (fun (x_0 : Bool) => (.bool x_0 : Value)) e0
              exact ⟨ev_, H7.below⟩
            ·
              refine sk (inb_normal (nx (rg (k (mv rfl s8 (k (add rfl rfl rfl rfl (by unfold I64 at *; omega) (k (asg (v := .int .i64 ((q : Int) + 1)) rfl rfl (z ?_))))))))))
              refine loopN _ ?_ ⟨(q + 1), rfl, s5, s6, s7, (ieq rfl (by first | rfl | omega | (push_cast; omega))), H7, (by left; omega), (by first | exact ra_step hs3 (cl3_yes (.inl (by assumption))) | exact ra_step hs3 (cl3_yes (.inr (by simpa using b5))))⟩
              omega
          · -- hasM mn mr (j : Int) (q : Int) is False
            refine k (gn rfl rfl rfl b4 (k (gn rfl rfl rfl b4 (k (gn rfl rfl rfl b4 (k (gn rfl rfl rfl b4 (k (gn rfl rfl rfl b4 (k (pickF rfl rfl rfl rfl b4 rfl (z (nx (cdF rfl rfl rfl (sk (inb_normal (nx (rg (k (mv rfl s8 (k (add rfl rfl rfl rfl (by unfold I64 at *; omega) (k (asg (v := .int .i64 ((q : Int) + 1)) rfl rfl (z ?_)))))))))))))))))))))))))
            refine loopN _ ?_ ⟨(q + 1), rfl, s5, s6, s7, (ieq rfl (by first | rfl | omega | (push_cast; omega))), H6, (by left; omega), (by first | exact ra_step hs3 (cl3_yes (.inl (by assumption))) | exact ra_step hs3 (cl3_yes (.inr (by simpa using b5))))⟩
            omega
        ·
          refine ex (then_exit (loop_exit (inb_here (inb_normal (nx (rg (k (mv rfl s7 (k (add rfl rfl rfl rfl (by unfold I64 at *; omega) (k (asg (v := .int .i64 ((j : Int) + 1)) rfl rfl (z ?_)))))))))))))
          refine loopN _ ?_ ⟨(j + 1), rfl, s5, s6, (ieq rfl (by first | rfl | omega | (push_cast; omega))), H5, (by left; omega), (by first | exact ra_step hs2 (ra_end hs3 (by omega)) | exact ra_step hs2 (cl2_no (by assumption)))⟩
          omega
      · -- decide ((q : Int) < mn) is False
        have p2 := of_decide_eq_false b2
        refine k (gn rfl rfl rfl b2 (k (gn rfl rfl rfl b2 (k (gn rfl rfl rfl b2 (k (gn rfl rfl rfl b2 (k (pickF rfl rfl rfl rfl b2 rfl (z (nx (cdF rfl rfl rfl (ex (then_exit (loop_exit (inb_here (inb_normal (nx (rg (k (mv rfl s7 (k (add rfl rfl rfl rfl (by unfold I64 at *; omega) (k (asg (v := .int .i64 ((j : Int) + 1)) rfl rfl (z ?_))))))))))))))))))))))))))
        refine loopN _ ?_ ⟨(j + 1), rfl, s5, s6, (ieq rfl (by first | rfl | omega | (push_cast; omega))), H4, (by left; omega), (by first | exact ra_step hs2 (ra_end hs3 (by omega)) | exact ra_step hs2 (cl2_no (by assumption)))⟩
        omega
    ·
      have p1 := of_decide_eq_false b1
      refine ex (then_exit (loop_exit (inb_here (inb_normal (nx (rg (k (mv rfl s3 (k (add rfl rfl rfl rfl (by unfold I64 at *; omega) (k (asg (v := .int .i64 ((i : Int) + 1)) rfl rfl (z ?_)))))))))))))
      refine loopN _ ?_ ⟨(i + 1), rfl, s2, (ieq rfl (by first | rfl | omega | (push_cast; omega))), H3, (by left; omega), (by exact ra_step hs (ra_end hs2 (by omega)))⟩
      omega
  ·
    have p0 := of_decide_eq_false b0
    refine ex (then_exit (loop_exit (inb_here (nx (sq (rg (k (asg (v := .bool true) rfl rfl (z (nx (rt (r1 rfl rfl ?_))))))))))))
    have e0 : (true : Bool) = closedM mn mr := by first | exact closed_no p0 p1 p2 b3 b4 (by simpa using b5) | exact (ra_end hs (by omega)).symm
    have ev_ := cg1 (fun (x_0 : Bool) => (.bool x_0 : Value)) e0
    exact ⟨ev_, H2.below⟩
/- eyewitness/eyewitnessref04.Loop -/
set_option maxRecDepth 100000 in
set_option maxHeartbeats 1600000 in
theorem ref04_Loop {M : Nat → Prop} {w : World} {mn : Int} {a_mr : Option Addr} {c_mr : Nat} {mr : List (List (BitVec 64))} (hM : ∀ b, M b → b < w.heap.size) (h_mn : I64 mn) (h_mr : RV M w (.slice a_mr mr.length c_mr) mr) (hsq_m : ((mr.length : Nat) : Int) = mn) (hrw_m : ∀ x ∈ mr, x.length ≤ 1000000000) (hl4_m : mn ≤ 4096) : Calls Tryd.prog 32 #[.agg #[.int .i64 mn, .slice a_mr mr.length c_mr]] w (Ret fun v w' =>  v = .tuple #[.int .i64 (((loopF mn mr).getD 0 : Nat) : Int), .bool ((loopF mn mr).isSome)] ∧ Ext w w') := by
  refine enter 16 Tryd.func32 rfl rfl rfl fun f0 ha => ?_
  have H := HI.start (M0 := M) (w := w) hM
  have H0 := H.put (it := imm (.slice a_mr mr.length c_mr) mr) rfl (by rw [MS_nil]; exact h_mr)
  have ln_mr := rv_len h_mr
  have i0 : f0 0 = .agg #[.int .i64 mn, .slice a_mr mr.length c_mr] := ha 0 (by simp)
  refine sq (rg (k (bx H0 rfl i0 ?_)))
  intro bb0 w0 xt0 (H1 : HI M w w0 [box bb0 #[.int .i64 mn, .slice a_mr mr.length c_mr] 24, imm (.slice a_mr mr.length c_mr) mr])
  refine k (asg (v := .int .i64 0) rfl rfl (k (asg (v := .bool false) rfl rfl (z (nx (sq (sq (rg (k (asg (v := .int .i64 0) rfl rfl (z (nx (bk ?_)))))))))))))
  refine lp (fun m f w' => ∃ (j : Nat), m = mn.toNat - j ∧ f 1 = .pointer (some ⟨bb0, 0, none⟩) ∧ f 4 = .int .i64 (j : Int) ∧  HI M w w' [box bb0 #[.int .i64 mn, .slice a_mr mr.length c_mr] 24, imm (.slice a_mr mr.length c_mr) mr] ∧ (((j : Nat) : Int) ≤ mn ∨ j = 0) ∧ (∀ k, k < j → hasM mn mr ((k : Nat) : Int) ((k : Nat) : Int) = false)) _ ⟨0, rfl, rfl, (ieq rfl (by first | rfl | omega | simp)), H1, (by right; rfl), (by intro k_ h_; omega)⟩ ?_
  rintro _ f0 w1 ⟨j, rfl, s0, s1, H2, hk, hs⟩
  refine sq (sq (rg (k (mv rfl s1 (k (fa fl24_0 rfl s0 (k (ldX H2 0 rfl ty3 rfl rfl (by decide) rfl (k (lss rfl rfl rfl rfl (z (nx ?_))))))))))))
  refine cd (b := decide ((j : Int) < mn)) rfl rfl (fun b0 => ?_) (fun b0 => ?_)
  ·
    have p0 := of_decide_eq_true b0
    refine sk (nx (sq (bk (sq (rg (k (ldX H2 0 rfl ty24 rfl s0 (by decide) rfl (k (mv rfl s1 (k (mv rfl s1 (k ?_))))))))))))
    have cc0 := ref03_Has (mn := mn) (mr := mr) (i := (j : Int)) (j := (j : Int)) (w := w1) H2.mb (by unfold I64 at *; omega) (H2.rv 1 rfl) (by unfold I64 at *; omega) (by unfold I64 at *; omega) (by first | assumption | omega) (by first | assumption | omega) (by first | assumption | omega)
    refine ca go45 rfl (ec rfl (ec rfl (ec rfl e0))) cc0 ?_
    rintro _ w2 ⟨rfl, xt1⟩
    have H3 := H2.ext xt1
    refine z (nx ?_)
    refine cd (b := hasM mn mr (j : Int) (j : Int)) rfl rfl (fun b1 => ?_) (fun b1 => ?_)
    ·
      refine sq (rg (k (mv rfl s1 (k (asg (v := .int .i64 (j : Int)) rfl rfl (k (asg (v := .bool true) rfl rfl (z (nx (rt (inb_ret (then_ret (loop_ret (inb_ret (then_ret (r2 rfl rfl rfl ?_))))))))))))))))
      have e0 : ((j : Int) : Int) = (((loopF mn mr).getD 0 : Nat) : Int) := by first | (rw [loop_hit p0 b1 hs]; rfl) | (rw [loop_miss (by omega) hs]; rfl)
      have e1 : (true : Bool) = (loopF mn mr).isSome := by first | (rw [loop_hit p0 b1 hs]; rfl) | (rw [loop_miss (by omega) hs]; rfl)
      have ev_ := cg2 (fun (x_0 : Int) (x_1 : Bool) => (.tuple #[.int .i64 x_0, .bool x_1] : Value)) e0 e1
      exact ⟨ev_, H3.below⟩
    ·
      refine sk (inb_normal (nx (rg (k (mv rfl s1 (k (add rfl rfl rfl rfl (by unfold I64 at *; omega) (k (asg (v := .int .i64 ((j : Int) + 1)) rfl rfl (z ?_))))))))))
      refine loopN _ ?_ ⟨(j + 1), rfl, s0, (ieq rfl (by first | rfl | omega | (push_cast; omega))), H3, (by left; omega), (by exact below_step (p := fun k => hasM mn mr ((k : Nat) : Int) ((k : Nat) : Int)) hs b1)⟩
      omega
  ·
    have p0 := of_decide_eq_false b0
    refine ex (then_exit (loop_exit (inb_here (nx (sq (rg (k (asg (v := .int .i64 0) rfl rfl (k (asg (v := .bool false) rfl rfl (z (nx (rt (r2 rfl rfl rfl ?_))))))))))))))
    have e0 : (0 : Int) = (((loopF mn mr).getD 0 : Nat) : Int) := by first | (rw [loop_hit p0 b1 hs]; rfl) | (rw [loop_miss (by omega) hs]; rfl)
    have e1 : (false : Bool) = (loopF mn mr).isSome := by first | (rw [loop_hit p0 b1 hs]; rfl) | (rw [loop_miss (by omega) hs]; rfl)
    have ev_ := cg2 (fun (x_0 : Int) (x_1 : Bool) => (.tuple #[.int .i64 x_0, .bool x_1] : Value)) e0 e1
    exact ⟨ev_, H2.below⟩
end Go.Proofs.YtmhopljngkgidaaDoor
namespace Go.Proofs.YtmhopljngkgidaaDoor
open Go.Ew Go.RowKit
set_option linter.unusedVariables false
set_option linter.unusedSimpArgs false
attribute [local irreducible] WL WC SO Code.wp wpList retQ Ret
attribute [local irreducible] bitB hasW inR hasR setR countW countR subR words newR listR orR firstW tab8

/- eyewitness/hull.join -/
set_option maxRecDepth 100000 in
set_option maxHeartbeats 1600000 in
theorem hull_join {M0 : Nat → Prop} {w0 w : World} {l : List Go.Ew.Item} {i j : Nat} {a_i a_f : Option Addr} {c_i c_f : Nat} {a b : List (BitVec 64)} (H : HI M0 w0 w l) (hi : l[i]? = some (own w0.heap.size 77 (.slice a_i a.length c_i) a)) (hj : l[j]? = some (own w0.heap.size 77 (.slice a_f b.length c_f) b)) (hlen : b.length ≤ a.length) (hlb : b.length ≤ 1000000000) (hne : i ≠ j ∨ ((.slice a_i a.length c_i : Value) = .slice a_f b.length c_f ∧ b = a)) : Calls Tryd.prog 70 #[.slice a_i a.length c_i, .slice a_f b.length c_f] w (Ret fun v w' => v = .tuple #[] ∧ HI M0 w0 w' (l.set i (own w0.heap.size 77 (.slice a_i a.length c_i) (orR a b)))) := by
  have hil : i < l.length := (List.getElem?_eq_some_iff.1 hi).1
  refine enter 21 Tryd.func70 rfl rfl rfl fun f0 ha => ?_
  have i0 : f0 0 = .slice a_i a.length c_i := ha 0 (by simp)
  have i1 : f0 1 = .slice a_f b.length c_f := ha 1 (by simp)
  refine sq (rg (k (mv (v := .slice a_f b.length c_f) rfl i1 (k (lnS rfl rfl un73 (k (mv (v := .int .i64 0) rfl rfl (z (nx (bk ?_))))))))))
  refine lp (fun m f w' => ∃ (q : Nat) (xs : List (BitVec 64)), m = b.length - q ∧ f 0 = .slice a_i a.length c_i ∧ f 6 = .slice a_f b.length c_f ∧ f 7 = .int .i64 (b.length : Int) ∧ f 8 = .int .i64 (q : Int) ∧ HI M0 w0 w' (l.set i (own w0.heap.size 77 (.slice a_i a.length c_i) xs)) ∧ q ≤ b.length ∧ xs.length = a.length ∧ xs = orTo a.length a b a q) _ ⟨0, a, rfl, i0, rfl, rfl, rfl, (by rw [set_own hi]; exact H), Nat.zero_le _, rfl, orTo_zero _ _ _⟩ ?_
  rintro _ f1 w1 ⟨q, xs, rfl, s0, s1, s2, s3, H1, hk, hl, hs⟩
  refine sq (rg (k (lss rfl rfl s3 s2 (z (nx (sq ?_))))))
  refine cd (b := decide ((q : Int) < (b.length : Int))) rfl rfl (fun b1 => ?_) (fun b1 => ?_)
  ·
    have p1 := of_decide_eq_true b1
    obtain ⟨ys, hj1, hyl, hyq⟩ := join_from hj hil hne hl hs hk hlen
    refine sk (nx (sq (bk (sq (rg (k (mv rfl s3 (k (iaO (H1.at_ j hj1) rfl rfl s1 s3 (by omega) un73 ty77 ?_)))))))))
    intro g0 x0 hv0 hx0 hA0
    have hxq := hyq x0 hx0
    refine k (ldU hA0 ty77 rfl rfl (k (asg (v := .int .i64 (q : Int)) rfl rfl (k (asg (v := U x0) rfl rfl (z (nx (rg (k (mv rfl s0 (k (mv (v := .int .i64 (q : Int)) rfl rfl (k (iaO (H1.at_ i (set_at hil)) rfl rfl rfl rfl (by omega) un73 ty77 ?_))))))))))))))
    intro g1 x1 hv1 hx1 hA1
    refine k (ldU hA1 ty77 rfl rfl (k (mv (v := U x0) rfl rfl (k (orU x1 x0 rfl rfl rfl rfl (k (iaO (H1.at_ i (set_at hil)) rfl rfl rfl rfl (by omega) un73 ty77 ?_)))))))
    intro g2 x2 hv2 hx2 hA2
    refine k (stO H1 i (set_at hil) hv2 rfl (by omega) ty77 rfl rfl rfl rfl (RV.bv.2 rfl) ?_)
    intro w2 H2
    rw [set_set] at H2
    refine z (inb_normal (nx (rg (k (add rfl rfl s3 rfl (by unfold I64 at *; omega) (k (mv (v := .int .i64 ((q : Int) + 1)) rfl rfl (z ?_))))))))
    refine loopN _ ?_ ⟨(q + 1), (xs.set ((q : Int).toNat) (x1 ||| x0)), rfl, s0, s1, s2, (ieq rfl (by first | rfl | omega | (push_cast; omega))), H2, (by omega), (by simpa using hl), join_step hs hxq hx1⟩
    omega
  ·
    have p1 := of_decide_eq_false b1
    refine ex (then_exit (loop_exit (inb_here (r0n rfl ?_))))
    exact ⟨rfl, by rw [← join_end hs hlen (by omega)]; exact H1⟩
/- eyewitness/mat.New#R -/
set_option maxRecDepth 100000 in
set_option maxHeartbeats 1600000 in
theorem mat_NewR {M : Nat → Prop} {w : World} {n : Int} (hM : ∀ b, M b → b < w.heap.size) (h_n : I64 n) (h0 : 0 ≤ n) (h4 : n ≤ 4096) : Calls Tryd.prog 61 #[.int .i64 n] w (Ret fun v w' => ∃ (a0 : Option Addr) (c0 : Nat) (ss : List SV), v = .tuple #[.agg #[.int .i64 n, .slice a0 n.toNat c0], .int .i64 0] ∧ Ext w w' ∧ OwnsR M 73 77 w ss (List.replicate n.toNat (newR n)) (.slice a0 n.toNat c0) w') := by
  refine enter 29 Tryd.func61 rfl rfl rfl fun f0 ha => ?_
  have H := HI.start (M0 := M) (w := w) hM
  have i0 : f0 0 = .int .i64 n := ha 0 (by simp)
  refine sq (rg (k (al H ty24 ?_)))
  intro bb0 w0 xt0 (H0 : HI M w w0 [box bb0 #[.int .i64 0, .slice none 0 0] 24])
  refine k (asg (v := .int .i64 0) rfl rfl (z (nx (sq (sq (rg (k (mv rfl i0 (k (lss rfl rfl rfl rfl (k (mv (v := .bool (decide (n < 0))) rfl rfl ?_))))))))))))
  have b0 : decide (n < 0) = false := decide_eq_false (by omega)
  refine k (gy rfl rfl rfl b0 (mv rfl i0 (k (gy rfl rfl rfl b0 (gtr rfl rfl rfl rfl (k (pickF rfl rfl rfl rfl b0 rfl (z (nx ?_)))))))))
  refine cd (b := decide (4096 < n)) rfl rfl (fun b1 => ?_) (fun b1 => ?_)
  · exact absurd (of_decide_eq_true b1) (by omega)
  refine sk (nx (sq (rg (k (mv rfl i0 (k ?_))))))
  have n0 : ((n.toNat : Nat) : Int) = n := Int.toNat_of_nonneg (by omega)
  refine mk (m := n.toNat) (zx := (⟨none, 0, 0⟩ : SV)) H0 rfl rfl (by rw [n0]; exact rfl) (by rw [n0]; exact rfl) un22 ty73 (fun _ _ => rfl) (by first | omega | (simp; omega)) (by first | omega | (simp; omega)) ?_
  intro g0 w1 xt1 (H1 : HI M w w1 [own w.heap.size 73 (.slice (some ⟨g0, 0, none⟩) n.toNat n.toNat) (List.replicate n.toNat (⟨none, 0, 0⟩ : SV)), box bb0 #[.int .i64 0, .slice none 0 0] 24])
  refine k (asg (v := .slice (some ⟨g0, 0, none⟩) n.toNat n.toNat) rfl rfl (z (nx (sq (sq (rg (k (mv (v := .slice (some ⟨g0, 0, none⟩) n.toNat n.toNat) rfl rfl (k (lnS rfl rfl un22 (k (mv (v := .int .i64 0) rfl rfl (z (nx (bk ?_)))))))))))))))
  refine lp (fun m f w' => ∃ (j : Nat) (ss : List SV), m = n.toNat - j ∧ f 0 = .int .i64 n ∧ f 2 = .pointer (some ⟨bb0, 0, none⟩) ∧ f 4 = .slice (some ⟨g0, 0, none⟩) n.toNat n.toNat ∧ f 16 = .int .i64 (n.toNat : Int) ∧ f 17 = .int .i64 (j : Int) ∧ HI M w w' ([own w.heap.size 73 (.slice (some ⟨g0, 0, none⟩) n.toNat n.toNat) (ss ++ List.replicate (n.toNat - j) (⟨none, 0, 0⟩ : SV)), box bb0 #[.int .i64 0, .slice none 0 0] 24] ++ rowItems w.heap.size 77 ss (List.replicate j (newR n))) ∧ j ≤ n.toNat ∧ ss.length = j) _ ⟨0, [], rfl, i0, rfl, rfl, rfl, rfl, H1, Nat.zero_le _, rfl⟩ ?_
  rintro _ f0 w2 ⟨j, ss, rfl, s0, s1, s2, s3, s4, H2, hk, hl⟩
  refine sq (rg (k (lss rfl rfl s4 s3 (z (nx (sq ?_))))))
  refine cd (b := decide ((j : Int) < (n.toNat : Int))) rfl rfl (fun b2 => ?_) (fun b2 => ?_)
  ·
    have p2 := of_decide_eq_true b2
    refine sk (nx (sq (bk (sq (rg (k (mv rfl s4 (k (asg (v := .int .i64 (j : Int)) rfl rfl (z (nx (rg (k (mv rfl s2 (k (mv (v := .int .i64 (j : Int)) rfl rfl (k (mv rfl s0 (k ?_)))))))))))))))))))
    have cc0 := row_New (n := n) (w := w2) H2.mb (by unfold I64 at *; omega) (by first | omega | (simp; omega))
    refine ca go78 rfl (ec rfl e0) cc0 ?_
    rintro _ w3 ⟨a0, c0, rfl, xt2, rv0⟩
    have H3 := H2.ownsG rv0
    have hjl : j < (ss ++ List.replicate (n.toNat - j) (⟨none, 0, 0⟩ : SV)).length := by rw [List.length_append, List.length_replicate]; omega
    refine k (iaO (H3.at_ 1 rfl) rfl rfl rfl rfl (by omega) un22 ty73 ?_)
    intro g1 x0 hv0 hx0 hA0
    refine k (stO (yv := (⟨a0, (newR n).length, c0⟩ : SV)) H3 1 rfl hv0 rfl (by omega) ty73 rfl rfl rfl rfl (RV.sv.2 rfl) ?_)
    intro w4 H4
    have H5 : HI M w w4 (own w.heap.size 77 (⟨a0, (newR n).length, c0⟩ : SV).v (newR n) :: ([own w.heap.size 73 (.slice (some ⟨g0, 0, none⟩) n.toNat n.toNat) ((ss ++ List.replicate (n.toNat - j) (⟨none, 0, 0⟩ : SV)).set ((j : Int).toNat) ⟨a0, (newR n).length, c0⟩), box bb0 #[.int .i64 0, .slice none 0 0] 24] ++ rowItems w.heap.size 77 ss (List.replicate j (newR n)))) := H4
    have H6 := H5.rowEnd (by rw [List.length_replicate]; exact hl)
    have es : (ss ++ List.replicate (n.toNat - j) (⟨none, 0, 0⟩ : SV)).set ((j : Int).toNat) ⟨a0, (newR n).length, c0⟩ = (ss ++ [⟨a0, (newR n).length, c0⟩]) ++ List.replicate (n.toNat - (j + 1)) (⟨none, 0, 0⟩ : SV) := by
      rw [Int.toNat_natCast, List.set_append_right _ _ (by omega), hl, Nat.sub_self, show n.toNat - j = n.toNat - (j + 1) + 1 from by omega, List.replicate_succ, List.set_cons_zero]; simp
    rw [es, ← List.replicate_succ'] at H6
    refine z (inb_normal (nx (rg (k (add rfl rfl s4 rfl (by unfold I64 at *; omega) (k (mv (v := .int .i64 ((j : Int) + 1)) rfl rfl (z ?_))))))))
    refine loopN _ ?_ ⟨(j + 1), (ss ++ [⟨a0, (newR n).length, c0⟩]), rfl, s0, s1, s2, s3, (ieq rfl (by first | rfl | omega | (push_cast; omega))), H6, (by omega), (by rw [List.length_append, hl]; rfl)⟩
    omega
  ·
    have p2 := of_decide_eq_false b2
    obtain rfl : j = n.toNat := by omega
    rw [Nat.sub_self, List.replicate_zero, List.append_nil] at H2
    refine ex (then_exit (loop_exit (inb_here (nx (sq (rg (k (mv rfl s0 (k (mv rfl s2 (k (bd (v := .agg #[.int .i64 n, .slice (some ⟨g0, 0, none⟩) n.toNat n.toNat]) rfl (pbc rfl (pbc rfl pb0)) (fun _ => by kernel_rfl) (k (stX H2 1 rfl ty24 rfl rfl s1 rfl rfl rfl rfl ?_))))))))))))))
    intro w3 H3
    have H4 : HI M w w3 ([own w.heap.size 73 (.slice (some ⟨g0, 0, none⟩) n.toNat n.toNat) ss, box bb0 #[.int .i64 n, .slice (some ⟨g0, 0, none⟩) n.toNat n.toNat] 24] ++ rowItems w.heap.size 77 ss (List.replicate n.toNat (newR n))) := H3
    refine k (asg (v := .int .i64 0) rfl rfl (z (nx (rt (rc2 H4 1 rfl ty24 rfl rfl rfl s1 rfl (by decide) ?_)))))
    exact ⟨(some ⟨g0, 0, none⟩), n.toNat, ss, rfl, H4.below, by rw [List.length_replicate]; exact hl, H4.pickT (l' := [own w.heap.size 73 (.slice (some ⟨g0, 0, none⟩) n.toNat n.toNat) ss]) [0] (by decide) rfl rfl⟩
end Go.Proofs.YtmhopljngkgidaaDoor
namespace Go.Proofs.YtmhopljngkgidaaDoor
open Go.Ew Go.RowKit
set_option linter.unusedVariables false
set_option linter.unusedSimpArgs false
attribute [local irreducible] WL WC SO Code.wp wpList retQ Ret
attribute [local irreducible] bitB hasW inR hasR setR countW countR subR words newR listR orR firstW tab8
theorem go16 : GoF Tryd.prog 16 := ⟨_, _, Tryd.func16, rfl, by kernel_rfl⟩
theorem go76 : GoF Tryd.prog 76 := ⟨_, _, Tryd.func76, rfl, by kernel_rfl⟩
/- eyewitness/mat.Turn -/
set_option maxRecDepth 100000 in
set_option maxHeartbeats 1600000 in
theorem mat_Turn {M : Nat → Prop} {w : World} {mn : Int} {a_mr : Option Addr} {c_mr : Nat} {mr : List (List (BitVec 64))} (hM : ∀ b, M b → b < w.heap.size) (hT : TabAt 0 w) (h_mn : I64 mn) (h_mr : RV M w (.slice a_mr mr.length c_mr) mr) (rt_m : rightS mn mr = true) : Calls Tryd.prog 17 #[.agg #[.int .i64 mn, .slice a_mr mr.length c_mr]] w (Ret fun v w' => ∃ (a0 : Option Addr) (c0 : Nat), v = .agg #[.int .i64 mn, .slice a0 (turnM mn mr).length c0] ∧ Ext w w' ∧ OwnsG M 73 w (turnM mn mr) (.slice a0 (turnM mn mr).length c0) w') := by
  refine enter 39 Tryd.func17 rfl rfl rfl fun f0 ha => ?_
  have H := HI.start (M0 := M) (w := w) hM
  have H0 := H.put (it := imm (.slice a_mr mr.length c_mr) mr) rfl (by rw [MS_nil]; exact h_mr)
  have ln_mr := rv_len h_mr
  have i0 : f0 0 = .agg #[.int .i64 mn, .slice a_mr mr.length c_mr] := ha 0 (by simp)
  refine sq (rg (k (bx H0 rfl i0 ?_)))
  intro bb0 w0 xt0 (H1 : HI M w w0 [box bb0 #[.int .i64 mn, .slice a_mr mr.length c_mr] 24, imm (.slice a_mr mr.length c_mr) mr])
  refine k (al H1 ty24 ?_)
  intro bb1 w1 xt1 (H2 : HI M w w1 [box bb1 #[.int .i64 0, .slice none 0 0] 24, box bb0 #[.int .i64 mn, .slice a_mr mr.length c_mr] 24, imm (.slice a_mr mr.length c_mr) mr])
  refine z (nx (sq (rg (k (fa fl24_0 rfl rfl (k (ldX H2 1 rfl ty3 rfl rfl (by decide) rfl (k ?_))))))))
  have cc0 := mat_NewR (n := mn) (w := w1) H2.mb (by unfold I64 at *; omega) (by exact right_pos rt_m) (by exact (right_sq rt_m).2.2.1)
  refine ca go61 rfl (ec rfl e0) cc0 ?_
  rintro _ w2 ⟨a0, c0, ss0, rfl, xt2, rv0⟩
  have H3 := H2.ownsR rv0
  have H4 : HI M w w2 ([own w.heap.size 73 (.slice a0 mn.toNat c0) ss0, box bb1 #[.int .i64 0, .slice none 0 0] 24, box bb0 #[.int .i64 mn, .slice a_mr mr.length c_mr] 24, imm (.slice a_mr mr.length c_mr) mr] ++ rowItems w.heap.size 77 ss0 (List.replicate mn.toNat (newR mn))) := H3
  have ssl0 := rv0.1
  refine k (mv (v := .tuple #[.agg #[.int .i64 mn, .slice a0 mn.toNat c0], .int .i64 0]) rfl rfl (k (xt rfl rfl rfl (k (xt rfl rfl rfl (k (al H4 ty24 ?_)))))))
  intro bb2 w3 xt3 (H5 : HI M w w3 ([box bb2 #[.int .i64 0, .slice none 0 0] 24, own w.heap.size 73 (.slice a0 mn.toNat c0) ss0, box bb1 #[.int .i64 0, .slice none 0 0] 24, box bb0 #[.int .i64 mn, .slice a_mr mr.length c_mr] 24, imm (.slice a_mr mr.length c_mr) mr] ++ rowItems w.heap.size 77 ss0 (List.replicate mn.toNat (newR mn))))
  refine k (stX H5 0 rfl ty24 rfl rfl rfl rfl rfl rfl rfl ?_)
  intro w4 (H6 : HI M w w4 ([box bb2 #[.int .i64 mn, .slice a0 mn.toNat c0] 24, own w.heap.size 73 (.slice a0 mn.toNat c0) ss0, box bb1 #[.int .i64 0, .slice none 0 0] 24, box bb0 #[.int .i64 mn, .slice a_mr mr.length c_mr] 24, imm (.slice a_mr mr.length c_mr) mr] ++ rowItems w.heap.size 77 ss0 (List.replicate mn.toNat (newR mn))))
  refine k (asg (v := .int .i64 0) rfl rfl (z (nx (sq (sq (rg (k (ldX H6 3 rfl ty24 rfl rfl (by decide) rfl (k ?_)))))))))
  have cc1 := mat_Pairs (mn := mn) (mr := mr) (w := w4) H6.mb (hT.ext H6.below) (by unfold I64 at *; omega) (H6.rv 4 rfl) (by exact (right_sq rt_m).1) (by exact (right_sq rt_m).2.1) (by exact (right_sq rt_m).2.2.1) (by exact (right_sq rt_m).2.2.2.2)
  refine ca go16 rfl (ec rfl e0) cc1 ?_
  rintro _ w5 ⟨a1, c1, rfl, xt4, rv1⟩
  have H7 := H6.ext xt4
  have H8 := H7.put (it := imm (.slice a1 (pairsM mn mr).length c1) (pairsM mn mr)) rfl rv1
  have H9 : HI M w w5 ([imm (.slice a1 (pairsM mn mr).length c1) (pairsM mn mr), box bb2 #[.int .i64 mn, .slice a0 mn.toNat c0] 24, own w.heap.size 73 (.slice a0 mn.toNat c0) ss0, box bb1 #[.int .i64 0, .slice none 0 0] 24, box bb0 #[.int .i64 mn, .slice a_mr mr.length c_mr] 24, imm (.slice a_mr mr.length c_mr) mr] ++ rowItems w.heap.size 77 ss0 (List.replicate mn.toNat (newR mn))) := H8
  refine k (lnS rfl rfl un31 (k (mv (v := .int .i64 0) rfl rfl (z (nx (bk ?_))))))
  refine lp (fun m f w' => ∃ (j : Nat) (xs : List (List (BitVec 64))), m = (pairsM mn mr).length - j ∧ f 2 = .pointer (some ⟨bb1, 0, none⟩) ∧ f 3 = .pointer (some ⟨bb2, 0, none⟩) ∧ f 14 = .slice a1 (pairsM mn mr).length c1 ∧ f 15 = .int .i64 ((pairsM mn mr).length : Int) ∧ f 16 = .int .i64 (j : Int) ∧  HI M w w' ([imm (.slice a1 (pairsM mn mr).length c1) (pairsM mn mr), box bb2 #[.int .i64 mn, .slice a0 mn.toNat c0] 24, own w.heap.size 73 (.slice a0 mn.toNat c0) ss0, box bb1 #[.int .i64 0, .slice none 0 0] 24, box bb0 #[.int .i64 mn, .slice a_mr mr.length c_mr] 24, imm (.slice a_mr mr.length c_mr) mr] ++ rowItems w.heap.size 77 ss0 xs) ∧ (j ≤ (pairsM mn mr).length) ∧ (ss0.length = xs.length) ∧ (xs = foldM mn (((pairsM mn mr).map swapP).take j))) _ ⟨0, (List.replicate mn.toNat (newR mn)), rfl, rfl, rfl, rfl, rfl, (ieq rfl (by first | rfl | omega | simp)), H9, (by first | assumption | omega | simp | (simp; omega)), (by exact rv0.1), (by exact turn_zero _ _)⟩ ?_
  rintro _ f0 w6 ⟨j, xs, rfl, s0, s1, s2, s3, s4, H10, hk, hl, hs⟩
  refine sq (rg (k (lss rfl rfl s4 s3 (z (nx (sq ?_))))))
  refine cd (b := decide ((j : Int) < ((pairsM mn mr).length : Int))) rfl rfl (fun b0 => ?_) (fun b0 => ?_)
  ·
    have p0 := of_decide_eq_true b0
    refine sk (nx (sq (bk (sq (rg (k (ia (H10.rv 0 rfl) rfl rfl s2 s4 (by first | omega | (simp; omega)) un31 ty76 ?_)))))))
    intro ad0 x0 hx0 hA0
    refine k (ldW hA0.w ty76 rfl rfl ?_)
    intro v0 rv2
    obtain ⟨_, ⟨_, _, rfl, ⟨rfl, rv3⟩, ⟨rfl, rv4⟩⟩, rfl⟩ := rv2
    refine k (al H10 ty76 ?_)
    intro bb3 w7 xt5 (H11 : HI M w w7 ([box bb3 #[.int .i64 0, .int .i64 0] 76, imm (.slice a1 (pairsM mn mr).length c1) (pairsM mn mr), box bb2 #[.int .i64 mn, .slice a0 mn.toNat c0] 24, own w.heap.size 73 (.slice a0 mn.toNat c0) ss0, box bb1 #[.int .i64 0, .slice none 0 0] 24, box bb0 #[.int .i64 mn, .slice a_mr mr.length c_mr] 24, imm (.slice a_mr mr.length c_mr) mr] ++ rowItems w.heap.size 77 ss0 xs))
    refine k (stX H11 0 rfl ty76 rfl rfl rfl rfl rfl rfl rfl ?_)
    intro w8 (H12 : HI M w w8 ([box bb3 #[.int .i64 x0.1, .int .i64 x0.2] 76, imm (.slice a1 (pairsM mn mr).length c1) (pairsM mn mr), box bb2 #[.int .i64 mn, .slice a0 mn.toNat c0] 24, own w.heap.size 73 (.slice a0 mn.toNat c0) ss0, box bb1 #[.int .i64 0, .slice none 0 0] 24, box bb0 #[.int .i64 mn, .slice a_mr mr.length c_mr] 24, imm (.slice a_mr mr.length c_mr) mr] ++ rowItems w.heap.size 77 ss0 xs))
    refine z (nx ?_)
    obtain ⟨g1_, g2_, g3_, g4_⟩ := right_pair rt_m hx0
    have xl_ : xs.length = mn.toNat := by rw [hs, foldM_length]
    obtain ⟨a2, x1, c2, hs0, hr0⟩ := row_get (i := x0.2.toNat) H12 (by first | assumption | (simp only [List.length_set]; assumption) | (simp only [List.length_set, List.length_replicate] at *; omega)) (by omega)
    obtain ⟨x3, hx2⟩ : ∃ x, x1[(x0.1 / 64).toNat]? = some x := ⟨_, List.getElem?_eq_getElem (by obtain ⟨k1_, k2_, k3_, k4_⟩ := turn_row (hs ▸ hr0) g1_ g2_; first | omega | exact ⟨k1_, k2_⟩)⟩
    refine dr 15 [fun (v : Value) (w' : World) => v = .pointer (some ⟨bb2, 1, none⟩), fun (v : Value) (w' : World) => v = .slice a0 mn.toNat c0, fun (v : Value) (w' : World) => v = .pointer (some ⟨bb3, 1, none⟩), fun (v : Value) (w' : World) => v = .int .i64 x0.2 ∧ I64 (x0.2), fun (v : Value) (w' : World) => ∃ (g0 : Nat), v = .pointer (some ⟨g0, x0.2.toNat * 1, none⟩) ∧ (.slice a0 mn.toNat c0 : Value).ownBlock = some g0 ∧ AtW (MS M ([box bb3 #[.int .i64 x0.1, .int .i64 x0.2] 76, imm (.slice a1 (pairsM mn mr).length c1) (pairsM mn mr), box bb2 #[.int .i64 mn, .slice a0 mn.toNat c0] 24, own w.heap.size 73 (.slice a0 mn.toNat c0) ss0, box bb1 #[.int .i64 0, .slice none 0 0] 24, box bb0 #[.int .i64 mn, .slice a_mr mr.length c_mr] 24, imm (.slice a_mr mr.length c_mr) mr] ++ rowItems w.heap.size 77 ss0 xs)) w' ⟨g0, x0.2.toNat * 1, none⟩ (⟨a2, x1.length, c2⟩ : SV), fun (v : Value) (w' : World) => v = .slice a2 x1.length c2, fun (v : Value) (w' : World) => v = .pointer (some ⟨bb3, 0, none⟩), fun (v : Value) (w' : World) => v = .int .i64 x0.1 ∧ I64 (x0.1), fun (v : Value) (w' : World) => v = .int .i64 (x0.1 / 64), fun (v : Value) (w' : World) => ∃ (g1 : Nat), v = .pointer (some ⟨g1, (x0.1 / 64).toNat * 1, none⟩) ∧ (.slice a2 x1.length c2 : Value).ownBlock = some g1 ∧ AtW (MS M ([box bb3 #[.int .i64 x0.1, .int .i64 x0.2] 76, imm (.slice a1 (pairsM mn mr).length c1) (pairsM mn mr), box bb2 #[.int .i64 mn, .slice a0 mn.toNat c0] 24, own w.heap.size 73 (.slice a0 mn.toNat c0) ss0, box bb1 #[.int .i64 0, .slice none 0 0] 24, box bb0 #[.int .i64 mn, .slice a_mr mr.length c_mr] 24, imm (.slice a_mr mr.length c_mr) mr] ++ rowItems w.heap.size 77 ss0 xs)) w' ⟨g1, (x0.1 / 64).toNat * 1, none⟩ x3, fun (v : Value) (w' : World) => v = U x3, fun (v : Value) (w' : World) => v = .pointer (some ⟨bb3, 0, none⟩), fun (v : Value) (w' : World) => v = .int .i64 x0.1 ∧ I64 (x0.1), fun (v : Value) (w' : World) => v = .int .i64 (x0.1 % 64), fun (v : Value) (w' : World) => v = U (bitB (x0.1 % 64))] rfl (by kernel_rfl) ?_ ?_
    ·
      refine ⟨fun _ => ⟨fun f1 w10 hf0 xt7 hp0 => ?_, fun _ _ _ _ h => h⟩, ?_⟩
      ·
        have H14 := H12.ext xt7
        refine fa fl24_1 rfl ((hf0 3 rfl).trans s1) ?_
        exact ⟨_, rfl, Ext.refl _, rfl⟩
      refine ⟨fun _ => ⟨fun f2 w11 hf1 xt8 hp1 => ?_, fun _ _ _ _ h => h⟩, ?_⟩
      ·
        have H15 := H12.ext xt8
        have s5 : f2 20 = .pointer (some ⟨bb2, 1, none⟩) := hp1 0 rfl rfl
        refine ldX H15 2 rfl ty22 rfl s5 (by decide) rfl ?_
        exact ⟨_, rfl, Ext.refl _, rfl⟩
      refine ⟨fun _ => ⟨fun f3 w12 hf2 xt9 hp2 => ?_, fun _ _ _ _ h => h⟩, ?_⟩
      ·
        have H16 := H12.ext xt9
        refine iaA rfl rfl (hf2 6 rfl) rfl (by omega) un76 ty3 ?_
        exact ⟨_, rfl, Ext.refl _, rfl⟩
      refine ⟨fun _ => ⟨fun f4 w13 hf3 xt10 hp3 => ?_, fun _ _ _ _ h => h⟩, ?_⟩
      ·
        have H17 := H12.ext xt10
        have s6 : f4 22 = .pointer (some ⟨bb3, 1, none⟩) := hp3 2 rfl rfl
        refine ldX H17 0 rfl ty3 rfl s6 (by decide) rfl ?_
        exact ⟨_, rfl, Ext.refl _, ⟨rfl, rv4⟩⟩
      refine ⟨fun _ => ⟨fun f5 w14 hf4 xt11 hp4 => ?_, by rintro _ _ _ x_ ⟨g0, e_, hv0, hA1⟩; exact ⟨g0, e_, hv0, hA1.ext x_⟩⟩, ?_⟩
      ·
        have H18 := H12.ext xt11
        have s7 : f5 21 = .slice a0 mn.toNat c0 := hp4 1 rfl rfl
        obtain ⟨s8, rv5⟩ : f5 23 = .int .i64 x0.2 ∧ I64 (x0.2) := hp4 3 rfl rfl
        refine iaO (H18.at_ 3 rfl) rfl rfl s7 s8 (by omega) un22 ty73 ?_
        intro g2 x4 hv2 hx3 hA3
        obtain rfl : (⟨a2, x1.length, c2⟩ : SV) = x4 := Option.some.inj (hs0.symm.trans hx3)
        exact ⟨_, rfl, Ext.refl _, ⟨g2, rfl, hv2, hA3⟩⟩
      refine ⟨fun _ => ⟨fun f6 w15 hf5 xt12 hp5 => ?_, fun _ _ _ _ h => h⟩, ?_⟩
      ·
        have H19 := H12.ext xt12
        obtain ⟨g3, s9, hv3, hA4⟩ : ∃ (g3 : Nat), f6 24 = .pointer (some ⟨g3, x0.2.toNat * 1, none⟩) ∧ (.slice a0 mn.toNat c0 : Value).ownBlock = some g3 ∧ AtW (MS M ([box bb3 #[.int .i64 x0.1, .int .i64 x0.2] 76, imm (.slice a1 (pairsM mn mr).length c1) (pairsM mn mr), box bb2 #[.int .i64 mn, .slice a0 mn.toNat c0] 24, own w.heap.size 73 (.slice a0 mn.toNat c0) ss0, box bb1 #[.int .i64 0, .slice none 0 0] 24, box bb0 #[.int .i64 mn, .slice a_mr mr.length c_mr] 24, imm (.slice a_mr mr.length c_mr) mr] ++ rowItems w.heap.size 77 ss0 xs)) w15 ⟨g3, x0.2.toNat * 1, none⟩ (⟨a2, x1.length, c2⟩ : SV) := hp5 4 rfl rfl
        refine ldV hA4 ty73 rfl s9 ?_
        exact ⟨_, rfl, Ext.refl _, rfl⟩
      refine ⟨fun _ => ⟨fun f7 w16 hf6 xt13 hp6 => ?_, fun _ _ _ _ h => h⟩, ?_⟩
      ·
        have H20 := H12.ext xt13
        refine iaA rfl rfl (hf6 6 rfl) rfl (by omega) un76 ty3 ?_
        exact ⟨_, rfl, Ext.refl _, rfl⟩
      refine ⟨fun _ => ⟨fun f8 w17 hf7 xt14 hp7 => ?_, fun _ _ _ _ h => h⟩, ?_⟩
      ·
        have H21 := H12.ext xt14
        have s10 : f8 26 = .pointer (some ⟨bb3, 0, none⟩) := hp7 6 rfl rfl
        refine ldX H21 0 rfl ty3 rfl s10 (by decide) rfl ?_
        exact ⟨_, rfl, Ext.refl _, ⟨rfl, rv3⟩⟩
      refine ⟨fun _ => ⟨fun f9 w18 hf8 xt15 hp8 => ?_, fun _ _ _ _ h => h⟩, ?_⟩
      ·
        have H22 := H12.ext xt15
        obtain ⟨s11, rv6⟩ : f9 27 = .int .i64 x0.1 ∧ I64 (x0.1) := hp8 7 rfl rfl
        refine shrI rfl rfl s11 rfl ?_
        exact ⟨_, rfl, Ext.refl _, rfl⟩
      refine ⟨fun _ => ⟨fun f10 w19 hf9 xt16 hp9 => ?_, by rintro _ _ _ x_ ⟨g1, e_, hv1, hA2⟩; exact ⟨g1, e_, hv1, hA2.ext x_⟩⟩, ?_⟩
      ·
        have H23 := H12.ext xt16
        have s12 : f10 25 = .slice a2 x1.length c2 := hp9 5 rfl rfl
        have s13 : f10 28 = .int .i64 (x0.1 / 64) := hp9 8 rfl rfl
        refine iaO (H23.at_ _ (row_at hs0 hr0)) rfl rfl s12 s13 (by obtain ⟨k1_, k2_, k3_, k4_⟩ := turn_row (hs ▸ hr0) g1_ g2_; first | omega | exact ⟨k1_, k2_⟩) un73 ty77 ?_
        intro g4 x5 hv4 hx4 hA5
        obtain rfl : x3 = x5 := Option.some.inj (hx2.symm.trans hx4)
        exact ⟨_, rfl, Ext.refl _, ⟨g4, rfl, hv4, hA5⟩⟩
      refine ⟨fun _ => ⟨fun f11 w20 hf10 xt17 hp10 => ?_, fun _ _ _ _ h => h⟩, ?_⟩
      ·
        have H24 := H12.ext xt17
        obtain ⟨g5, s14, hv5, hA6⟩ : ∃ (g5 : Nat), f11 29 = .pointer (some ⟨g5, (x0.1 / 64).toNat * 1, none⟩) ∧ (.slice a2 x1.length c2 : Value).ownBlock = some g5 ∧ AtW (MS M ([box bb3 #[.int .i64 x0.1, .int .i64 x0.2] 76, imm (.slice a1 (pairsM mn mr).length c1) (pairsM mn mr), box bb2 #[.int .i64 mn, .slice a0 mn.toNat c0] 24, own w.heap.size 73 (.slice a0 mn.toNat c0) ss0, box bb1 #[.int .i64 0, .slice none 0 0] 24, box bb0 #[.int .i64 mn, .slice a_mr mr.length c_mr] 24, imm (.slice a_mr mr.length c_mr) mr] ++ rowItems w.heap.size 77 ss0 xs)) w20 ⟨g5, (x0.1 / 64).toNat * 1, none⟩ x3 := hp10 9 rfl rfl
        refine ldU hA6 ty77 rfl s14 ?_
        exact ⟨_, rfl, Ext.refl _, rfl⟩
      refine ⟨fun _ => ⟨fun f12 w21 hf11 xt18 hp11 => ?_, fun _ _ _ _ h => h⟩, ?_⟩
      ·
        have H25 := H12.ext xt18
        refine iaA rfl rfl (hf11 6 rfl) rfl (by omega) un76 ty3 ?_
        exact ⟨_, rfl, Ext.refl _, rfl⟩
      refine ⟨fun _ => ⟨fun f13 w22 hf12 xt19 hp12 => ?_, fun _ _ _ _ h => h⟩, ?_⟩
      ·
        have H26 := H12.ext xt19
        have s15 : f13 31 = .pointer (some ⟨bb3, 0, none⟩) := hp12 11 rfl rfl
        refine ldX H26 0 rfl ty3 rfl s15 (by decide) rfl ?_
        exact ⟨_, rfl, Ext.refl _, ⟨rfl, rv3⟩⟩
      refine ⟨fun _ => ⟨fun f14 w23 hf13 xt20 hp13 => ?_, fun _ _ _ _ h => h⟩, ?_⟩
      ·
        have H27 := H12.ext xt20
        obtain ⟨s16, rv7⟩ : f14 32 = .int .i64 x0.1 ∧ I64 (x0.1) := hp13 12 rfl rfl
        refine and63 rfl rfl s16 rfl ?_
        exact ⟨_, rfl, Ext.refl _, rfl⟩
      refine ⟨fun _ => ⟨fun f15 w24 hf14 xt21 hp14 => ?_, fun _ _ _ _ h => h⟩, ?_⟩
      ·
        have H28 := H12.ext xt21
        have s17 : f15 33 = .int .i64 (x0.1 % 64) := hp14 13 rfl rfl
        have cc3 := word_Bit (i := (x0.1 % 64)) (w := w24) (by unfold I64 at *; omega)
        refine ca go65 rfl (ec s17 e0) cc3 ?_
        rintro _ w25 ⟨rfl, xt22⟩
        have H29 := H28.ext xt22
        exact ⟨_, rfl, xt22, rfl⟩
      exact DSteps.rest rfl _
    · intro f16 w26 hf15 xt23 hp15
      have H30 := H12.ext xt23
      have s18 : f16 2 = .pointer (some ⟨bb1, 0, none⟩) := (hf15 2 rfl).trans s0
      have s19 : f16 3 = .pointer (some ⟨bb2, 0, none⟩) := (hf15 3 rfl).trans s1
      have s20 : f16 14 = .slice a1 (pairsM mn mr).length c1 := (hf15 14 rfl).trans s2
      have s21 : f16 15 = .int .i64 ((pairsM mn mr).length : Int) := (hf15 15 rfl).trans s3
      have s22 : f16 16 = .int .i64 (j : Int) := (hf15 16 rfl).trans s4
      have s23 : f16 25 = .slice a2 x1.length c2 := hp15 5 rfl
      have s24 : f16 28 = .int .i64 (x0.1 / 64) := hp15 8 rfl
      have s25 : f16 30 = U x3 := hp15 10 rfl
      have s26 : f16 34 = U (bitB (x0.1 % 64)) := hp15 14 rfl
      refine k (orU x3 (bitB (x0.1 % 64)) rfl rfl s25 s26 (k (iaO (H30.at_ _ (row_at hs0 hr0)) rfl rfl s23 s24 (by obtain ⟨k1_, k2_, k3_, k4_⟩ := turn_row (hs ▸ hr0) g1_ g2_; first | omega | exact ⟨k1_, k2_⟩) un73 ty77 ?_)))
      intro g6 x6 hv6 hx5 hA7
      refine k (stO H30 _ (row_at hs0 hr0) hv6 rfl (by obtain ⟨k1_, k2_, k3_, k4_⟩ := turn_row (hs ▸ hr0) g1_ g2_; first | omega | exact ⟨k1_, k2_⟩) ty77 rfl rfl rfl rfl (RV.bv.2 rfl) ?_)
      intro w27 H32
      have H31 := HI.rowPut (M := fun _ => False) (it := imm (.int .i64 0) (0 : Int)) H32 hs0
      have H33 : HI M w w27 ([box bb3 #[.int .i64 x0.1, .int .i64 x0.2] 76, imm (.slice a1 (pairsM mn mr).length c1) (pairsM mn mr), box bb2 #[.int .i64 mn, .slice a0 mn.toNat c0] 24, own w.heap.size 73 (.slice a0 mn.toNat c0) ss0, box bb1 #[.int .i64 0, .slice none 0 0] 24, box bb0 #[.int .i64 mn, .slice a_mr mr.length c_mr] 24, imm (.slice a_mr mr.length c_mr) mr] ++ rowItems w.heap.size 77 ss0 (xs.set x0.2.toNat (x1.set ((x0.1 / 64).toNat) (x3 ||| (bitB (x0.1 % 64)))))) := H31
      refine z (inb_normal (nx (rg (k (add rfl rfl s22 rfl (by have h_ := right_pairs rt_m; unfold I64; omega) (k (mv (v := .int .i64 ((j : Int) + 1)) rfl rfl (z ?_))))))))
      have H34 : HI M w w27 ([imm (.slice a1 (pairsM mn mr).length c1) (pairsM mn mr), box bb2 #[.int .i64 mn, .slice a0 mn.toNat c0] 24, own w.heap.size 73 (.slice a0 mn.toNat c0) ss0, box bb1 #[.int .i64 0, .slice none 0 0] 24, box bb0 #[.int .i64 mn, .slice a_mr mr.length c_mr] 24, imm (.slice a_mr mr.length c_mr) mr] ++ rowItems w.heap.size 77 ss0 (xs.set x0.2.toNat (x1.set ((x0.1 / 64).toNat) (x3 ||| (bitB (x0.1 % 64)))))) := HI.pickT (l := [box bb3 #[.int .i64 x0.1, .int .i64 x0.2] 76, imm (.slice a1 (pairsM mn mr).length c1) (pairsM mn mr), box bb2 #[.int .i64 mn, .slice a0 mn.toNat c0] 24, own w.heap.size 73 (.slice a0 mn.toNat c0) ss0, box bb1 #[.int .i64 0, .slice none 0 0] 24, box bb0 #[.int .i64 mn, .slice a_mr mr.length c_mr] 24, imm (.slice a_mr mr.length c_mr) mr]) (l' := [imm (.slice a1 (pairsM mn mr).length c1) (pairsM mn mr), box bb2 #[.int .i64 mn, .slice a0 mn.toNat c0] 24, own w.heap.size 73 (.slice a0 mn.toNat c0) ss0, box bb1 #[.int .i64 0, .slice none 0 0] 24, box bb0 #[.int .i64 mn, .slice a_mr mr.length c_mr] 24, imm (.slice a_mr mr.length c_mr) mr]) (t := rowItems w.heap.size 77 ss0 (xs.set x0.2.toNat (x1.set ((x0.1 / 64).toNat) (x3 ||| (bitB (x0.1 % 64)))))) H33 [1, 2, 3, 4, 5, 6] (by decide) rfl rfl
      refine loopN _ ?_ ⟨(j + 1), (xs.set x0.2.toNat (x1.set ((x0.1 / 64).toNat) (x3 ||| (bitB (x0.1 % 64))))), rfl, s18, s19, s20, s21, (ieq rfl (by first | rfl | omega | (push_cast; omega))), H34, (by first | assumption | omega | simp | (simp; omega)), (by simp only [List.length_set]; exact hl), (by first | exact turn_step hs hx0 hr0 hx1 g1_ g2_ | exact turn_step hs hx0 hr0 hx2 g1_ g2_)⟩
      omega
  ·
    have p0 := of_decide_eq_false b0
    refine ex (then_exit (loop_exit (inb_here (nx (sq ?_)))))
    have H11 : HI M w w6 [own w.heap.size 73 (.slice a0 mn.toNat c0) xs, imm (.slice a1 (pairsM mn mr).length c1) (pairsM mn mr), box bb2 #[.int .i64 mn, .slice a0 mn.toNat c0] 24, box bb1 #[.int .i64 0, .slice none 0 0] 24, box bb0 #[.int .i64 mn, .slice a_mr mr.length c_mr] 24, imm (.slice a_mr mr.length c_mr) mr] := HI.deep (l := [imm (.slice a1 (pairsM mn mr).length c1) (pairsM mn mr), box bb2 #[.int .i64 mn, .slice a0 mn.toNat c0] 24, box bb1 #[.int .i64 0, .slice none 0 0] 24, box bb0 #[.int .i64 mn, .slice a_mr mr.length c_mr] 24, imm (.slice a_mr mr.length c_mr) mr]) (HI.pickT (l := [imm (.slice a1 (pairsM mn mr).length c1) (pairsM mn mr), box bb2 #[.int .i64 mn, .slice a0 mn.toNat c0] 24, own w.heap.size 73 (.slice a0 mn.toNat c0) ss0, box bb1 #[.int .i64 0, .slice none 0 0] 24, box bb0 #[.int .i64 mn, .slice a_mr mr.length c_mr] 24, imm (.slice a_mr mr.length c_mr) mr]) (l' := [own w.heap.size 73 (.slice a0 mn.toNat c0) ss0, imm (.slice a1 (pairsM mn mr).length c1) (pairsM mn mr), box bb2 #[.int .i64 mn, .slice a0 mn.toNat c0] 24, box bb1 #[.int .i64 0, .slice none 0 0] 24, box bb0 #[.int .i64 mn, .slice a_mr mr.length c_mr] 24, imm (.slice a_mr mr.length c_mr) mr]) (t := rowItems w.heap.size 77 ss0 xs) H10 [2, 0, 1, 3, 4, 5] (by decide) rfl rfl) (by first | assumption | (simp only [List.length_set]; assumption) | (simp only [List.length_set, List.length_replicate] at *; omega))
    refine rg (k (ldX H11 2 rfl ty24 rfl s1 (by decide) rfl (k (stX H11 3 rfl ty24 rfl rfl s0 rfl rfl rfl rfl ?_))))
    intro w7 (H12 : HI M w w7 [own w.heap.size 73 (.slice a0 mn.toNat c0) xs, imm (.slice a1 (pairsM mn mr).length c1) (pairsM mn mr), box bb2 #[.int .i64 mn, .slice a0 mn.toNat c0] 24, box bb1 #[.int .i64 mn, .slice a0 mn.toNat c0] 24, box bb0 #[.int .i64 mn, .slice a_mr mr.length c_mr] 24, imm (.slice a_mr mr.length c_mr) mr])
    refine z (nx (rt (rc1 H12 3 rfl ty24 rfl rfl s0 rfl (by decide) ?_)))
    have e1 : (xs : List (List (BitVec 64))) = turnM mn mr := by exact turn_end hs (by omega)
    have l1 : mn.toNat = (turnM mn mr).length := by first | (rw [← e1]; omega) | (rw [turnM_len])
    have ev_ := cg1 (fun (n_1 : Nat) => (.agg #[.int .i64 mn, .slice a0 n_1 c0] : Value)) l1
    exact ⟨a0, c0, ev_, H12.below, (congrArg (fun (n_ : Nat) => OwnsG _ _ _ (turnM mn mr) (.slice a0 n_ c0) _) l1).mp ((congrArg (fun (x_ : List (List (BitVec 64))) => OwnsG _ _ _ x_ (.slice a0 mn.toNat c0) _) e1).mp (H12.ownsG_out 0 rfl))⟩
/- eyewitness/eyewitnessref03.Turn -/
set_option maxRecDepth 100000 in
set_option maxHeartbeats 1600000 in
theorem ref03_Turn {M : Nat → Prop} {w : World} {mn : Int} {a_mr : Option Addr} {c_mr : Nat} {mr : List (List (BitVec 64))} (hM : ∀ b, M b → b < w.heap.size) (h_mn : I64 mn) (h_mr : RV M w (.slice a_mr mr.length c_mr) mr) (rt_m : rightS mn mr = true) : Calls Tryd.prog 29 #[.agg #[.int .i64 mn, .slice a_mr mr.length c_mr]] w (Ret fun v w' => ∃ (a0 : Option Addr) (c0 : Nat), v = .agg #[.int .i64 mn, .slice a0 (turnM mn mr).length c0] ∧ Ext w w' ∧ RV M w' (.slice a0 (turnM mn mr).length c0) (turnM mn mr)) := by
  refine enter 37 Tryd.func29 rfl rfl rfl fun f0 ha => ?_
  have H := HI.start (M0 := M) (w := w) hM
  have H0 := H.put (it := imm (.slice a_mr mr.length c_mr) mr) rfl (by rw [MS_nil]; exact h_mr)
  have ln_mr := rv_len h_mr
  have i0 : f0 0 = .agg #[.int .i64 mn, .slice a_mr mr.length c_mr] := ha 0 (by simp)
  refine sq (rg (k (bx H0 rfl i0 ?_)))
  intro bb0 w0 xt0 (H1 : HI M w w0 [box bb0 #[.int .i64 mn, .slice a_mr mr.length c_mr] 24, imm (.slice a_mr mr.length c_mr) mr])
  refine k (al H1 ty24 ?_)
  intro bb1 w1 xt1 (H2 : HI M w w1 [box bb1 #[.int .i64 0, .slice none 0 0] 24, box bb0 #[.int .i64 mn, .slice a_mr mr.length c_mr] 24, imm (.slice a_mr mr.length c_mr) mr])
  refine z (nx (sq (rg (k (ldX H2 1 rfl ty24 rfl rfl (by decide) rfl (k ?_))))))
  have cc0 := ref03_Pairs (mn := mn) (mr := mr) (w := w1) H2.mb (by unfold I64 at *; omega) (H2.rv 2 rfl) (by exact (right_sq rt_m).1) (by exact (right_sq rt_m).2.1) (by exact (right_sq rt_m).2.2.1) (by exact (right_sq rt_m).2.2.2.2)
  refine ca go76 rfl (ec rfl e0) cc0 ?_
  rintro _ w2 ⟨a0, c0, rfl, xt2, rv0⟩
  have H3 := H2.ext xt2
  have H4 := H3.put (it := imm (.slice a0 (pairsM mn mr).length c0) (pairsM mn mr)) rfl rv0
  refine k (asg (v := .slice a0 (pairsM mn mr).length c0) rfl rfl (z (nx (sq (rg (k (fa fl24_0 rfl rfl (k (ldX H4 2 rfl ty3 rfl rfl (by decide) rfl (k ?_))))))))))
  have cc1 := ref03_New (n := mn) (w := w2) H4.mb (by unfold I64 at *; omega)
  refine ca go26 rfl (ec rfl e0) cc1 ?_
  rintro _ w3 ⟨a1, c1, rfl, xt3, rv1⟩
  have H5 := H4.ownsG rv1
  refine k (mv (v := .tuple #[.agg #[.int .i64 (newMN mn), .slice a1 (newMR mn).length c1], .int .i64 (newME mn)]) rfl rfl (k (xt rfl rfl rfl (k (xt rfl rfl rfl (k (al H5 ty24 ?_)))))))
  intro bb2 w4 xt4 (H6 : HI M w w4 [box bb2 #[.int .i64 0, .slice none 0 0] 24, own w.heap.size 73 (.slice a1 (newMR mn).length c1) (newMR mn), imm (.slice a0 (pairsM mn mr).length c0) (pairsM mn mr), box bb1 #[.int .i64 0, .slice none 0 0] 24, box bb0 #[.int .i64 mn, .slice a_mr mr.length c_mr] 24, imm (.slice a_mr mr.length c_mr) mr])
  refine k (stX H6 0 rfl ty24 rfl rfl rfl rfl rfl rfl rfl ?_)
  intro w5 (H7 : HI M w w5 [box bb2 #[.int .i64 (newMN mn), .slice a1 (newMR mn).length c1] 24, own w.heap.size 73 (.slice a1 (newMR mn).length c1) (newMR mn), imm (.slice a0 (pairsM mn mr).length c0) (pairsM mn mr), box bb1 #[.int .i64 0, .slice none 0 0] 24, box bb0 #[.int .i64 mn, .slice a_mr mr.length c_mr] 24, imm (.slice a_mr mr.length c_mr) mr])
  refine k (asg (v := .int .i64 (newME mn)) rfl rfl (z (nx (sq (sq (rg (k (asg (v := .int .i64 0) rfl rfl (z (nx (bk ?_)))))))))))
  have H8 := H7.freeze 1 rfl
  have H9 := H8.put (it := imm (.slice a1 (newMR mn).length c1) (newMR mn)) rfl (H8.rv 1 rfl)
  refine lp (fun m f w' => ∃ (j : Nat) (n_ : Int) (rs : List (List (BitVec 64))) (a2 : Option Addr) (c2 : Nat), m = (pairsM mn mr).length - j ∧ f 2 = .pointer (some ⟨bb1, 0, none⟩) ∧ f 3 = .slice a0 (pairsM mn mr).length c0 ∧ f 4 = .pointer (some ⟨bb2, 0, none⟩) ∧ f 6 = .int .i64 (j : Int) ∧  HI M w w' [imm (.slice a2 rs.length c2) rs, box bb2 #[.int .i64 n_, .slice a2 rs.length c2] 24, imm (.slice a1 (newMR mn).length c1) (newMR mn), imm (.slice a0 (pairsM mn mr).length c0) (pairsM mn mr), box bb1 #[.int .i64 0, .slice none 0 0] 24, box bb0 #[.int .i64 mn, .slice a_mr mr.length c_mr] 24, imm (.slice a_mr mr.length c_mr) mr] ∧ (j ≤ (pairsM mn mr).length) ∧ (n_ = mn) ∧ (rs = foldM mn (((pairsM mn mr).map swapP).take j))) _ ⟨0, (newMN mn), (newMR mn), a1, c1, rfl, rfl, rfl, rfl, (ieq rfl (by first | rfl | omega | simp)), H9, (by first | assumption | omega | simp | (simp; omega)), (by exact (newM_yes (right_ok rt_m)).1), (by rw [(newM_yes (right_ok rt_m)).2.1]; rfl)⟩ ?_
  rintro _ f0 w6 ⟨j, n_, rs, a2, c2, rfl, s0, s1, s2, s3, H10, hk, h1, h2⟩
  refine sq (sq (rg (k (mv rfl s3 (k (mv rfl s1 (k (lnS rfl rfl un31 (k (lss rfl rfl rfl rfl (z (nx ?_))))))))))))
  refine cd (b := decide ((j : Int) < ((pairsM mn mr).length : Int))) rfl rfl (fun b0 => ?_) (fun b0 => ?_)
  ·
    have p0 := of_decide_eq_true b0
    refine sk (nx (sq (bk ?_)))
    obtain ⟨x0, hx0⟩ : ∃ x, (pairsM mn mr)[(j : Int).toNat]? = some x := ⟨_, List.getElem?_eq_getElem (by first | omega | (simp; omega))⟩
    refine dr3 13 [fun (v : Value) (w' : World) => v = .agg #[.int .i64 n_, .slice a2 rs.length c2], fun (v : Value) (w' : World) => v = .slice a0 (pairsM mn mr).length c0, fun (v : Value) (w' : World) => v = .int .i64 (j : Int), fun (v : Value) (w' : World) => ∃ (ad0 : Addr), v = .pointer (some ad0) ∧ At (MS M [imm (.slice a2 rs.length c2) rs, box bb2 #[.int .i64 n_, .slice a2 rs.length c2] 24, imm (.slice a1 (newMR mn).length c1) (newMR mn), imm (.slice a0 (pairsM mn mr).length c0) (pairsM mn mr), box bb1 #[.int .i64 0, .slice none 0 0] 24, box bb0 #[.int .i64 mn, .slice a_mr mr.length c_mr] 24, imm (.slice a_mr mr.length c_mr) mr]) w' ad0 x0, fun (v : Value) (w' : World) => ∃ (ad0 : Addr), v = .pointer (some ((ad0).add 1)) ∧ At (MS M [imm (.slice a2 rs.length c2) rs, box bb2 #[.int .i64 n_, .slice a2 rs.length c2] 24, imm (.slice a1 (newMR mn).length c1) (newMR mn), imm (.slice a0 (pairsM mn mr).length c0) (pairsM mn mr), box bb1 #[.int .i64 0, .slice none 0 0] 24, box bb0 #[.int .i64 mn, .slice a_mr mr.length c_mr] 24, imm (.slice a_mr mr.length c_mr) mr]) w' ad0 x0, fun (v : Value) (w' : World) => v = .int .i64 x0.2 ∧ I64 (x0.2), fun (v : Value) (w' : World) => v = .slice a0 (pairsM mn mr).length c0, fun (v : Value) (w' : World) => v = .int .i64 (j : Int), fun (v : Value) (w' : World) => ∃ (ad1 : Addr), v = .pointer (some ad1) ∧ At (MS M [imm (.slice a2 rs.length c2) rs, box bb2 #[.int .i64 n_, .slice a2 rs.length c2] 24, imm (.slice a1 (newMR mn).length c1) (newMR mn), imm (.slice a0 (pairsM mn mr).length c0) (pairsM mn mr), box bb1 #[.int .i64 0, .slice none 0 0] 24, box bb0 #[.int .i64 mn, .slice a_mr mr.length c_mr] 24, imm (.slice a_mr mr.length c_mr) mr]) w' ad1 x0, fun (v : Value) (w' : World) => ∃ (ad1 : Addr), v = .pointer (some ((ad1).add 0)) ∧ At (MS M [imm (.slice a2 rs.length c2) rs, box bb2 #[.int .i64 n_, .slice a2 rs.length c2] 24, imm (.slice a1 (newMR mn).length c1) (newMR mn), imm (.slice a0 (pairsM mn mr).length c0) (pairsM mn mr), box bb1 #[.int .i64 0, .slice none 0 0] 24, box bb0 #[.int .i64 mn, .slice a_mr mr.length c_mr] 24, imm (.slice a_mr mr.length c_mr) mr]) w' ad1 x0, fun (v : Value) (w' : World) => v = .int .i64 x0.1 ∧ I64 (x0.1), fun (v : Value) (w' : World) => ∃ (a3 : Option Addr) (c3 : Nat), v = .tuple #[.agg #[.int .i64 (setMN n_ x0.2 x0.1), .slice a3 (setMR n_ rs x0.2 x0.1).length c3], .int .i64 (setME n_ x0.2 x0.1)] ∧ RV (MS M [imm (.slice a2 rs.length c2) rs, box bb2 #[.int .i64 n_, .slice a2 rs.length c2] 24, imm (.slice a1 (newMR mn).length c1) (newMR mn), imm (.slice a0 (pairsM mn mr).length c0) (pairsM mn mr), box bb1 #[.int .i64 0, .slice none 0 0] 24, box bb0 #[.int .i64 mn, .slice a_mr mr.length c_mr] 24, imm (.slice a_mr mr.length c_mr) mr]) w' (.slice a3 (setMR n_ rs x0.2 x0.1).length c3) (setMR n_ rs x0.2 x0.1), fun (v : Value) (w' : World) => ∃ (a3 : Option Addr) (c3 : Nat), v = .tuple #[.agg #[.int .i64 (setMN n_ x0.2 x0.1), .slice a3 (setMR n_ rs x0.2 x0.1).length c3], .int .i64 (setME n_ x0.2 x0.1)] ∧ RV (MS M [imm (.slice a2 rs.length c2) rs, box bb2 #[.int .i64 n_, .slice a2 rs.length c2] 24, imm (.slice a1 (newMR mn).length c1) (newMR mn), imm (.slice a0 (pairsM mn mr).length c0) (pairsM mn mr), box bb1 #[.int .i64 0, .slice none 0 0] 24, box bb0 #[.int .i64 mn, .slice a_mr mr.length c_mr] 24, imm (.slice a_mr mr.length c_mr) mr]) w' (.slice a3 (setMR n_ rs x0.2 x0.1).length c3) (setMR n_ rs x0.2 x0.1)] rfl (by kernel_rfl) ?_ ?_
    ·
      refine ⟨fun _ => ⟨fun f1 w8 hf0 xt6 hp0 => ?_, fun _ _ _ _ h => h⟩, ?_⟩
      ·
        have H13 := H10.ext xt6
        refine ldX H13 1 rfl ty24 rfl ((hf0 4 rfl).trans s2) (by decide) rfl ?_
        exact ⟨_, rfl, Ext.refl _, rfl⟩
      refine ⟨fun _ => ⟨fun f2 w9 hf1 xt7 hp1 => ?_, fun _ _ _ _ h => h⟩, ?_⟩
      ·
        have H14 := H10.ext xt7
        refine mv rfl ((hf1 3 rfl).trans s1) ?_
        exact ⟨_, rfl, Ext.refl _, rfl⟩
      refine ⟨fun _ => ⟨fun f3 w10 hf2 xt8 hp2 => ?_, fun _ _ _ _ h => h⟩, ?_⟩
      ·
        have H15 := H10.ext xt8
        refine mv rfl ((hf2 6 rfl).trans s3) ?_
        exact ⟨_, rfl, Ext.refl _, rfl⟩
      refine ⟨fun _ => ⟨fun f4 w11 hf3 xt9 hp3 => ?_, by rintro _ _ _ x_ ⟨ad0, e_, hA0⟩; exact ⟨ad0, e_, hA0.lift (Up.ext x_)⟩⟩, ?_⟩
      ·
        have H16 := H10.ext xt9
        have s4 : f4 23 = .slice a0 (pairsM mn mr).length c0 := hp3 1 rfl rfl
        have s5 : f4 24 = .int .i64 (j : Int) := hp3 2 rfl rfl
        refine ia (H16.rv 3 rfl) rfl rfl s4 s5 (by first | omega | (simp; omega)) un31 ty76 ?_
        intro ad2 x2 hx2 hA2
        obtain rfl : x0 = x2 := Option.some.inj (hx0.symm.trans hx2)
        exact ⟨_, rfl, Ext.refl _, ⟨ad2, rfl, hA2⟩⟩
      refine ⟨fun _ => ⟨fun f5 w12 hf4 xt10 hp4 => ?_, by rintro _ _ _ x_ ⟨ad0, e_, hA0⟩; exact ⟨ad0, e_, hA0.lift (Up.ext x_)⟩⟩, ?_⟩
      ·
        have H17 := H10.ext xt10
        obtain ⟨ad3, s6, hA3⟩ : ∃ (ad3 : Addr), f5 25 = .pointer (some ad3) ∧ At (MS M [imm (.slice a2 rs.length c2) rs, box bb2 #[.int .i64 n_, .slice a2 rs.length c2] 24, imm (.slice a1 (newMR mn).length c1) (newMR mn), imm (.slice a0 (pairsM mn mr).length c0) (pairsM mn mr), box bb1 #[.int .i64 0, .slice none 0 0] 24, box bb0 #[.int .i64 mn, .slice a_mr mr.length c_mr] 24, imm (.slice a_mr mr.length c_mr) mr]) w12 ad3 x0 := hp4 3 rfl rfl
        have H18 := H17.put (it := atI ad3 x0) rfl hA3
        refine iaA rfl rfl s6 rfl (by omega) un76 ty3 ?_
        exact ⟨_, rfl, Ext.refl _, ⟨ad3, rfl, (by assumption)⟩⟩
      refine ⟨fun _ => ⟨fun f6 w13 hf5 xt11 hp5 => ?_, fun _ _ _ _ h => h⟩, ?_⟩
      ·
        have H19 := H10.ext xt11
        obtain ⟨ad4, s7, hA4⟩ : ∃ (ad4 : Addr), f6 26 = .pointer (some ((ad4).add 1)) ∧ At (MS M [imm (.slice a2 rs.length c2) rs, box bb2 #[.int .i64 n_, .slice a2 rs.length c2] 24, imm (.slice a1 (newMR mn).length c1) (newMR mn), imm (.slice a0 (pairsM mn mr).length c0) (pairsM mn mr), box bb1 #[.int .i64 0, .slice none 0 0] 24, box bb0 #[.int .i64 mn, .slice a_mr mr.length c_mr] 24, imm (.slice a_mr mr.length c_mr) mr]) w13 ad4 x0 := hp5 4 rfl rfl
        have H20 := H19.put (it := atI ad4 x0) rfl hA4
        refine ldI ((H20.atv 0 rfl)).snd.w ty3 rfl s7 ?_
        intro rv6
        exact ⟨_, rfl, Ext.refl _, ⟨rfl, rv6⟩⟩
      refine ⟨fun _ => ⟨fun f7 w14 hf6 xt12 hp6 => ?_, fun _ _ _ _ h => h⟩, ?_⟩
      ·
        have H21 := H10.ext xt12
        refine mv rfl ((hf6 3 rfl).trans s1) ?_
        exact ⟨_, rfl, Ext.refl _, rfl⟩
      refine ⟨fun _ => ⟨fun f8 w15 hf7 xt13 hp7 => ?_, fun _ _ _ _ h => h⟩, ?_⟩
      ·
        have H22 := H10.ext xt13
        refine mv rfl ((hf7 6 rfl).trans s3) ?_
        exact ⟨_, rfl, Ext.refl _, rfl⟩
      refine ⟨fun _ => ⟨fun f9 w16 hf8 xt14 hp8 => ?_, by rintro _ _ _ x_ ⟨ad1, e_, hA1⟩; exact ⟨ad1, e_, hA1.lift (Up.ext x_)⟩⟩, ?_⟩
      ·
        have H23 := H10.ext xt14
        have s8 : f9 28 = .slice a0 (pairsM mn mr).length c0 := hp8 6 rfl rfl
        have s9 : f9 29 = .int .i64 (j : Int) := hp8 7 rfl rfl
        refine ia (H23.rv 3 rfl) rfl rfl s8 s9 (by first | omega | (simp; omega)) un31 ty76 ?_
        intro ad5 x3 hx3 hA5
        obtain rfl : x0 = x3 := Option.some.inj (hx0.symm.trans hx3)
        exact ⟨_, rfl, Ext.refl _, ⟨ad5, rfl, hA5⟩⟩
      refine ⟨fun _ => ⟨fun f10 w17 hf9 xt15 hp9 => ?_, by rintro _ _ _ x_ ⟨ad1, e_, hA1⟩; exact ⟨ad1, e_, hA1.lift (Up.ext x_)⟩⟩, ?_⟩
      ·
        have H24 := H10.ext xt15
        obtain ⟨ad6, s10, hA6⟩ : ∃ (ad6 : Addr), f10 30 = .pointer (some ad6) ∧ At (MS M [imm (.slice a2 rs.length c2) rs, box bb2 #[.int .i64 n_, .slice a2 rs.length c2] 24, imm (.slice a1 (newMR mn).length c1) (newMR mn), imm (.slice a0 (pairsM mn mr).length c0) (pairsM mn mr), box bb1 #[.int .i64 0, .slice none 0 0] 24, box bb0 #[.int .i64 mn, .slice a_mr mr.length c_mr] 24, imm (.slice a_mr mr.length c_mr) mr]) w17 ad6 x0 := hp9 8 rfl rfl
        have H25 := H24.put (it := atI ad6 x0) rfl hA6
        refine iaA rfl rfl s10 rfl (by omega) un76 ty3 ?_
        exact ⟨_, rfl, Ext.refl _, ⟨ad6, rfl, (by assumption)⟩⟩
      refine ⟨fun _ => ⟨fun f11 w18 hf10 xt16 hp10 => ?_, fun _ _ _ _ h => h⟩, ?_⟩
      ·
        have H26 := H10.ext xt16
        obtain ⟨ad7, s11, hA7⟩ : ∃ (ad7 : Addr), f11 31 = .pointer (some ((ad7).add 0)) ∧ At (MS M [imm (.slice a2 rs.length c2) rs, box bb2 #[.int .i64 n_, .slice a2 rs.length c2] 24, imm (.slice a1 (newMR mn).length c1) (newMR mn), imm (.slice a0 (pairsM mn mr).length c0) (pairsM mn mr), box bb1 #[.int .i64 0, .slice none 0 0] 24, box bb0 #[.int .i64 mn, .slice a_mr mr.length c_mr] 24, imm (.slice a_mr mr.length c_mr) mr]) w18 ad7 x0 := hp10 9 rfl rfl
        have H27 := H26.put (it := atI ad7 x0) rfl hA7
        refine ldI ((H27.atv 0 rfl)).fst.w ty3 rfl s11 ?_
        intro rv7
        exact ⟨_, rfl, Ext.refl _, ⟨rfl, rv7⟩⟩
      refine ⟨fun _ => ⟨fun f12 w19 hf11 xt17 hp11 => ?_, by rintro _ _ _ x_ ⟨a3, c3, e_, rv5⟩; exact ⟨a3, c3, e_, rv5.lift (Up.ext x_)⟩⟩, ?_⟩
      ·
        have H28 := H10.ext xt17
        have s12 : f12 22 = .agg #[.int .i64 n_, .slice a2 rs.length c2] := hp11 0 rfl rfl
        obtain ⟨s13, rv8⟩ : f12 27 = .int .i64 x0.2 ∧ I64 (x0.2) := hp11 5 rfl rfl
        obtain ⟨s14, rv9⟩ : f12 32 = .int .i64 x0.1 ∧ I64 (x0.1) := hp11 10 rfl rfl
        have cc3 := ref03_Set (mn := n_) (mr := rs) (i := x0.2) (j := x0.1) (w := w19) H28.mb (by rw [h1]; exact h_mn) (H28.rv 0 rfl) (by unfold I64 at *; omega) (by unfold I64 at *; omega) (by rw [h1, h2]; exact (fold_sq rt_m _).1) (by rw [h2]; exact (fold_sq rt_m _).2) (by rw [h1]; exact (right_sq rt_m).2.2.1)
        refine ca go28 rfl (ec s12 (ec s13 (ec s14 e0))) cc3 ?_
        rintro _ w20 ⟨a4, c4, rfl, xt18, rv10⟩
        have rv11 := OwnsG.rv rv10 H28.mb
        have H29 := H28.ext xt18
        have H30 := H29.put (it := imm (.slice a4 (setMR n_ rs x0.2 x0.1).length c4) (setMR n_ rs x0.2 x0.1)) rfl rv11
        exact ⟨_, rfl, xt18, ⟨a4, c4, rfl, rv11⟩⟩
      refine ⟨fun _ => ⟨fun f13 w21 hf12 xt19 hp12 => ?_, by rintro _ _ _ x_ ⟨a3, c3, e_, rv5⟩; exact ⟨a3, c3, e_, rv5.lift (Up.ext x_)⟩⟩, ?_⟩
      ·
        have H31 := H10.ext xt19
        obtain ⟨a5, c5, s15, rv12⟩ : ∃ (a5 : Option Addr) (c5 : Nat), f13 33 = .tuple #[.agg #[.int .i64 (setMN n_ x0.2 x0.1), .slice a5 (setMR n_ rs x0.2 x0.1).length c5], .int .i64 (setME n_ x0.2 x0.1)] ∧ RV (MS M [imm (.slice a2 rs.length c2) rs, box bb2 #[.int .i64 n_, .slice a2 rs.length c2] 24, imm (.slice a1 (newMR mn).length c1) (newMR mn), imm (.slice a0 (pairsM mn mr).length c0) (pairsM mn mr), box bb1 #[.int .i64 0, .slice none 0 0] 24, box bb0 #[.int .i64 mn, .slice a_mr mr.length c_mr] 24, imm (.slice a_mr mr.length c_mr) mr]) w21 (.slice a5 (setMR n_ rs x0.2 x0.1).length c5) (setMR n_ rs x0.2 x0.1) := hp12 11 rfl rfl
        have H32 := H31.put (it := imm (.slice a5 (setMR n_ rs x0.2 x0.1).length c5) (setMR n_ rs x0.2 x0.1)) rfl rv12
        refine mv rfl s15 ?_
        exact ⟨_, rfl, Ext.refl _, ⟨a5, c5, rfl, rv12⟩⟩
      exact DSteps.rest rfl _
    · intro f14 w22 hf13 xt20 hp13
      have H33 := H10.ext xt20
      have s16 : f14 2 = .pointer (some ⟨bb1, 0, none⟩) := (hf13 2 rfl).trans s0
      have s17 : f14 3 = .slice a0 (pairsM mn mr).length c0 := (hf13 3 rfl).trans s1
      have s18 : f14 4 = .pointer (some ⟨bb2, 0, none⟩) := (hf13 4 rfl).trans s2
      have s19 : f14 6 = .int .i64 (j : Int) := (hf13 6 rfl).trans s3
      obtain ⟨a6, c6, s20, rv13⟩ : ∃ (a6 : Option Addr) (c6 : Nat), f14 21 = .tuple #[.agg #[.int .i64 (setMN n_ x0.2 x0.1), .slice a6 (setMR n_ rs x0.2 x0.1).length c6], .int .i64 (setME n_ x0.2 x0.1)] ∧ RV (MS M [imm (.slice a2 rs.length c2) rs, box bb2 #[.int .i64 n_, .slice a2 rs.length c2] 24, imm (.slice a1 (newMR mn).length c1) (newMR mn), imm (.slice a0 (pairsM mn mr).length c0) (pairsM mn mr), box bb1 #[.int .i64 0, .slice none 0 0] 24, box bb0 #[.int .i64 mn, .slice a_mr mr.length c_mr] 24, imm (.slice a_mr mr.length c_mr) mr]) w22 (.slice a6 (setMR n_ rs x0.2 x0.1).length c6) (setMR n_ rs x0.2 x0.1) := hp13 12 rfl
      have H34 := H33.put (it := imm (.slice a6 (setMR n_ rs x0.2 x0.1).length c6) (setMR n_ rs x0.2 x0.1)) rfl rv13
      show TA _ _ _ _ 3 [true, true, true, true, true, true, true, true, true, true, true, true, true, false, false, false] _ _
      refine ta [13, 14] (by kernel_rfl) rfl ⟨⟨_, rfl, ?_⟩, ⟨_, rfl, ?_⟩, trivial⟩
      ·
        refine xt rfl s20 rfl ?_
        refine ta [14, 15] (by kernel_rfl) rfl ⟨⟨_, rfl, ?_⟩, ⟨_, rfl, ?_⟩, trivial⟩
        ·
          refine xt rfl s20 rfl ?_
          refine ta [15] (by kernel_rfl) rfl ⟨⟨_, rfl, ?_⟩, trivial⟩
          ·
            refine stX H34 2 rfl ty24 rfl rfl s18 rfl rfl rfl rfl ?_
            intro w23 (H35 : HI M w w23 [imm (.slice a6 (setMR n_ rs x0.2 x0.1).length c6) (setMR n_ rs x0.2 x0.1), imm (.slice a2 rs.length c2) rs, box bb2 #[.int .i64 (setMN n_ x0.2 x0.1), .slice a6 (setMR n_ rs x0.2 x0.1).length c6] 24, imm (.slice a1 (newMR mn).length c1) (newMR mn), imm (.slice a0 (pairsM mn mr).length c0) (pairsM mn mr), box bb1 #[.int .i64 0, .slice none 0 0] 24, box bb0 #[.int .i64 mn, .slice a_mr mr.length c_mr] 24, imm (.slice a_mr mr.length c_mr) mr])
            refine ta0 (by kernel_rfl) (inb_normal (nx (rg (k (mv rfl s19 (k (add rfl rfl rfl rfl (by have h_ := right_pairs rt_m; unfold I64; omega) (k (asg (v := .int .i64 ((j : Int) + 1)) rfl rfl (z ?_))))))))))
            have H36 := H35.put (it := imm (.slice a6 (setMR n_ rs x0.2 x0.1).length c6) (setMR n_ rs x0.2 x0.1)) rfl (H35.rv 0 rfl)
            have H37 : HI M w w23 [imm (.slice a6 (setMR n_ rs x0.2 x0.1).length c6) (setMR n_ rs x0.2 x0.1), box bb2 #[.int .i64 (setMN n_ x0.2 x0.1), .slice a6 (setMR n_ rs x0.2 x0.1).length c6] 24, imm (.slice a1 (newMR mn).length c1) (newMR mn), imm (.slice a0 (pairsM mn mr).length c0) (pairsM mn mr), box bb1 #[.int .i64 0, .slice none 0 0] 24, box bb0 #[.int .i64 mn, .slice a_mr mr.length c_mr] 24, imm (.slice a_mr mr.length c_mr) mr] := H36.pickN [0, 3, 4, 5, 6, 7, 8] (by decide) rfl
            refine loopN _ ?_ ⟨(j + 1), (setMN n_ x0.2 x0.1), (setMR n_ rs x0.2 x0.1), a6, c6, rfl, s16, s17, s18, (ieq rfl (by first | rfl | omega | (push_cast; omega))), H37, (by first | assumption | omega | simp | (simp; omega)), (by rw [h1]; exact (turn_set rt_m h2 hx0).1), (by rw [h1]; exact (turn_set rt_m h2 hx0).2.1)⟩
            omega
        ·
          refine stX H34 2 rfl ty24 rfl rfl s18 rfl rfl rfl rfl ?_
          intro w23 (H35 : HI M w w23 [imm (.slice a6 (setMR n_ rs x0.2 x0.1).length c6) (setMR n_ rs x0.2 x0.1), imm (.slice a2 rs.length c2) rs, box bb2 #[.int .i64 (setMN n_ x0.2 x0.1), .slice a6 (setMR n_ rs x0.2 x0.1).length c6] 24, imm (.slice a1 (newMR mn).length c1) (newMR mn), imm (.slice a0 (pairsM mn mr).length c0) (pairsM mn mr), box bb1 #[.int .i64 0, .slice none 0 0] 24, box bb0 #[.int .i64 mn, .slice a_mr mr.length c_mr] 24, imm (.slice a_mr mr.length c_mr) mr])
          refine ta [14] (by kernel_rfl) rfl ⟨⟨_, rfl, ?_⟩, trivial⟩
          ·
            refine xt rfl s20 rfl (ta0 (by kernel_rfl) (inb_normal (nx (rg (k (mv rfl s19 (k (add rfl rfl rfl rfl (by have h_ := right_pairs rt_m; unfold I64; omega) (k (asg (v := .int .i64 ((j : Int) + 1)) rfl rfl (z ?_)))))))))))
            have H36 := H35.put (it := imm (.slice a6 (setMR n_ rs x0.2 x0.1).length c6) (setMR n_ rs x0.2 x0.1)) rfl (H35.rv 0 rfl)
            have H37 : HI M w w23 [imm (.slice a6 (setMR n_ rs x0.2 x0.1).length c6) (setMR n_ rs x0.2 x0.1), box bb2 #[.int .i64 (setMN n_ x0.2 x0.1), .slice a6 (setMR n_ rs x0.2 x0.1).length c6] 24, imm (.slice a1 (newMR mn).length c1) (newMR mn), imm (.slice a0 (pairsM mn mr).length c0) (pairsM mn mr), box bb1 #[.int .i64 0, .slice none 0 0] 24, box bb0 #[.int .i64 mn, .slice a_mr mr.length c_mr] 24, imm (.slice a_mr mr.length c_mr) mr] := H36.pickN [0, 3, 4, 5, 6, 7, 8] (by decide) rfl
            refine loopN _ ?_ ⟨(j + 1), (setMN n_ x0.2 x0.1), (setMR n_ rs x0.2 x0.1), a6, c6, rfl, s16, s17, s18, (ieq rfl (by first | rfl | omega | (push_cast; omega))), H37, (by first | assumption | omega | simp | (simp; omega)), (by rw [h1]; exact (turn_set rt_m h2 hx0).1), (by rw [h1]; exact (turn_set rt_m h2 hx0).2.1)⟩
            omega
      ·
        refine xt rfl s20 rfl ?_
        refine ta [13] (by kernel_rfl) rfl ⟨⟨_, rfl, ?_⟩, trivial⟩
        ·
          refine xt rfl s20 rfl ?_
          refine ta [15] (by kernel_rfl) rfl ⟨⟨_, rfl, ?_⟩, trivial⟩
          ·
            refine stX H34 2 rfl ty24 rfl rfl s18 rfl rfl rfl rfl ?_
            intro w23 (H35 : HI M w w23 [imm (.slice a6 (setMR n_ rs x0.2 x0.1).length c6) (setMR n_ rs x0.2 x0.1), imm (.slice a2 rs.length c2) rs, box bb2 #[.int .i64 (setMN n_ x0.2 x0.1), .slice a6 (setMR n_ rs x0.2 x0.1).length c6] 24, imm (.slice a1 (newMR mn).length c1) (newMR mn), imm (.slice a0 (pairsM mn mr).length c0) (pairsM mn mr), box bb1 #[.int .i64 0, .slice none 0 0] 24, box bb0 #[.int .i64 mn, .slice a_mr mr.length c_mr] 24, imm (.slice a_mr mr.length c_mr) mr])
            refine ta0 (by kernel_rfl) (inb_normal (nx (rg (k (mv rfl s19 (k (add rfl rfl rfl rfl (by have h_ := right_pairs rt_m; unfold I64; omega) (k (asg (v := .int .i64 ((j : Int) + 1)) rfl rfl (z ?_))))))))))
            have H36 := H35.put (it := imm (.slice a6 (setMR n_ rs x0.2 x0.1).length c6) (setMR n_ rs x0.2 x0.1)) rfl (H35.rv 0 rfl)
            have H37 : HI M w w23 [imm (.slice a6 (setMR n_ rs x0.2 x0.1).length c6) (setMR n_ rs x0.2 x0.1), box bb2 #[.int .i64 (setMN n_ x0.2 x0.1), .slice a6 (setMR n_ rs x0.2 x0.1).length c6] 24, imm (.slice a1 (newMR mn).length c1) (newMR mn), imm (.slice a0 (pairsM mn mr).length c0) (pairsM mn mr), box bb1 #[.int .i64 0, .slice none 0 0] 24, box bb0 #[.int .i64 mn, .slice a_mr mr.length c_mr] 24, imm (.slice a_mr mr.length c_mr) mr] := H36.pickN [0, 3, 4, 5, 6, 7, 8] (by decide) rfl
            refine loopN _ ?_ ⟨(j + 1), (setMN n_ x0.2 x0.1), (setMR n_ rs x0.2 x0.1), a6, c6, rfl, s16, s17, s18, (ieq rfl (by first | rfl | omega | (push_cast; omega))), H37, (by first | assumption | omega | simp | (simp; omega)), (by rw [h1]; exact (turn_set rt_m h2 hx0).1), (by rw [h1]; exact (turn_set rt_m h2 hx0).2.1)⟩
            omega
  ·
    have p0 := of_decide_eq_false b0
    refine ex (then_exit (loop_exit (inb_here (nx (sq (rg (k (ldX H10 1 rfl ty24 rfl s2 (by decide) rfl (k (stX H10 4 rfl ty24 rfl rfl s0 rfl rfl rfl rfl ?_))))))))))
    intro w7 (H11 : HI M w w7 [imm (.slice a2 rs.length c2) rs, box bb2 #[.int .i64 n_, .slice a2 rs.length c2] 24, imm (.slice a1 (newMR mn).length c1) (newMR mn), imm (.slice a0 (pairsM mn mr).length c0) (pairsM mn mr), box bb1 #[.int .i64 n_, .slice a2 rs.length c2] 24, box bb0 #[.int .i64 mn, .slice a_mr mr.length c_mr] 24, imm (.slice a_mr mr.length c_mr) mr])
    refine z (nx (rt (rc1 H11 4 rfl ty24 rfl rfl s0 rfl (by decide) ?_)))
    have e0 : (n_ : Int) = mn := by exact h1
    have e1 : (rs : List (List (BitVec 64))) = turnM mn mr := by rw [h2]; exact turn_end (xs := foldM mn (((pairsM mn mr).map swapP).take j)) rfl (by omega)
    have ev_ := cg2 (fun (x_0 : Int) (x_1 : List (List (BitVec 64))) => (.agg #[.int .i64 x_0, .slice a2 x_1.length c2] : Value)) e0 e1
    exact ⟨a2, c2, ev_, H11.below, (congrArg (fun (x_ : List (List (BitVec 64))) => RV _ _ (.slice a2 x_.length c2) x_) e1).mp (H11.gives_out 0 rfl)⟩
end Go.Proofs.YtmhopljngkgidaaDoor
namespace Go.Proofs.YtmhopljngkgidaaDoor
open Go.Ew Go.RowKit
set_option linter.unusedVariables false
set_option linter.unusedSimpArgs false
attribute [local irreducible] WL WC SO Code.wp wpList retQ Ret
attribute [local irreducible] bitB hasW inR hasR setR countW countR subR words newR listR orR firstW tab8

/- eyewitness/hull.own -/
set_option maxRecDepth 100000 in
set_option maxHeartbeats 1600000 in
theorem hull_own {M : Nat → Prop} {w : World} {mn : Int} {a_mr : Option Addr} {c_mr : Nat} {mr : List (List (BitVec 64))} (hM : ∀ b, M b → b < w.heap.size) (h_mn : I64 mn) (h_mr : RV M w (.slice a_mr mr.length c_mr) mr) (rt_m : rightS mn mr = true) : Calls Tryd.prog 69 #[.agg #[.int .i64 mn, .slice a_mr mr.length c_mr]] w (Ret fun v w' => ∃ (a0 : Option Addr) (c0 : Nat) (ss0 : List SV), v = .agg #[.int .i64 mn, .slice a0 mn.toNat c0] ∧ Ext w w' ∧ OwnsR M 73 77 w ss0 mr (.slice a0 mn.toNat c0) w') := by
  refine enter 30 Tryd.func69 rfl rfl rfl fun f0 ha => ?_
  have H := HI.start (M0 := M) (w := w) hM
  have H0 := H.put (it := imm (.slice a_mr mr.length c_mr) mr) rfl (by rw [MS_nil]; exact h_mr)
  have ln_mr := rv_len h_mr
  have i0 : f0 0 = .agg #[.int .i64 mn, .slice a_mr mr.length c_mr] := ha 0 (by simp)
  refine sq (rg (k (bx H0 rfl i0 ?_)))
  intro bb0 w0 xt0 (H1 : HI M w w0 [box bb0 #[.int .i64 mn, .slice a_mr mr.length c_mr] 24, imm (.slice a_mr mr.length c_mr) mr])
  refine k (al H1 ty24 ?_)
  intro bb1 w1 xt1 (H2 : HI M w w1 [box bb1 #[.int .i64 0, .slice none 0 0] 24, box bb0 #[.int .i64 mn, .slice a_mr mr.length c_mr] 24, imm (.slice a_mr mr.length c_mr) mr])
  refine z (nx (sq (rg (k (fa fl24_0 rfl rfl (k (ldX H2 1 rfl ty3 rfl rfl (by decide) rfl (k ?_))))))))
  have cc0 := mat_NewR (n := mn) (w := w1) H2.mb (by unfold I64 at *; omega) (by exact right_pos rt_m) (by exact (right_sq rt_m).2.2.1)
  refine ca go61 rfl (ec rfl e0) cc0 ?_
  rintro _ w2 ⟨a0, c0, ss0, rfl, xt2, rv0⟩
  have H3 := H2.ownsR rv0
  have H4 : HI M w w2 ([own w.heap.size 73 (.slice a0 mn.toNat c0) ss0, box bb1 #[.int .i64 0, .slice none 0 0] 24, box bb0 #[.int .i64 mn, .slice a_mr mr.length c_mr] 24, imm (.slice a_mr mr.length c_mr) mr] ++ rowItems w.heap.size 77 ss0 (List.replicate mn.toNat (newR mn))) := H3
  have ssl0 := rv0.1
  refine k (mv (v := .tuple #[.agg #[.int .i64 mn, .slice a0 mn.toNat c0], .int .i64 0]) rfl rfl (k (xt rfl rfl rfl (k (xt rfl rfl rfl (k (al H4 ty24 ?_)))))))
  intro bb2 w3 xt3 (H5 : HI M w w3 ([box bb2 #[.int .i64 0, .slice none 0 0] 24, own w.heap.size 73 (.slice a0 mn.toNat c0) ss0, box bb1 #[.int .i64 0, .slice none 0 0] 24, box bb0 #[.int .i64 mn, .slice a_mr mr.length c_mr] 24, imm (.slice a_mr mr.length c_mr) mr] ++ rowItems w.heap.size 77 ss0 (List.replicate mn.toNat (newR mn))))
  refine k (stX H5 0 rfl ty24 rfl rfl rfl rfl rfl rfl rfl ?_)
  intro w4 (H6 : HI M w w4 ([box bb2 #[.int .i64 mn, .slice a0 mn.toNat c0] 24, own w.heap.size 73 (.slice a0 mn.toNat c0) ss0, box bb1 #[.int .i64 0, .slice none 0 0] 24, box bb0 #[.int .i64 mn, .slice a_mr mr.length c_mr] 24, imm (.slice a_mr mr.length c_mr) mr] ++ rowItems w.heap.size 77 ss0 (List.replicate mn.toNat (newR mn))))
  refine k (asg (v := .int .i64 0) rfl rfl (z (nx (sq (sq (rg (k (fa fl24_1 rfl rfl (k (ldX H6 3 rfl ty22 rfl rfl (by decide) rfl (k (lnS rfl rfl un22 (k (mv (v := .int .i64 0) rfl rfl (z (nx (bk ?_)))))))))))))))))
  refine lp (fun m f w' => ∃ (j : Nat) (xs : List (List (BitVec 64))), m = mr.length - j ∧ f 2 = .pointer (some ⟨bb1, 0, none⟩) ∧ f 3 = .pointer (some ⟨bb2, 0, none⟩) ∧ f 14 = .slice a_mr mr.length c_mr ∧ f 15 = .int .i64 (mr.length : Int) ∧ f 16 = .int .i64 (j : Int) ∧  HI M w w' ([box bb2 #[.int .i64 mn, .slice a0 mn.toNat c0] 24, own w.heap.size 73 (.slice a0 mn.toNat c0) ss0, box bb1 #[.int .i64 0, .slice none 0 0] 24, box bb0 #[.int .i64 mn, .slice a_mr mr.length c_mr] 24, imm (.slice a_mr mr.length c_mr) mr] ++ rowItems w.heap.size 77 ss0 xs) ∧ (j ≤ mr.length) ∧ (ss0.length = xs.length) ∧ (xs = mr.take j ++ List.replicate (mn.toNat - j) (newR mn))) _ ⟨0, (List.replicate mn.toNat (newR mn)), rfl, rfl, rfl, rfl, rfl, (ieq rfl (by first | rfl | omega | simp)), H6, (by first | assumption | omega | simp | (simp; omega)), (by exact rv0.1), (by simp)⟩ ?_
  rintro _ f0 w5 ⟨j, xs, rfl, s0, s1, s2, s3, s4, H7, hk, hl, hs⟩
  refine sq (rg (k (lss rfl rfl s4 s3 (z (nx (sq ?_))))))
  refine cd (b := decide ((j : Int) < (mr.length : Int))) rfl rfl (fun b0 => ?_) (fun b0 => ?_)
  ·
    have p0 := of_decide_eq_true b0
    refine sk (nx (sq (bk (sq (rg (k (mv rfl s4 (k (ia (H7.rv 4 rfl) rfl rfl s2 s4 (by first | omega | (simp; omega)) un22 ty73 ?_)))))))))
    intro ad0 x0 hx0 hA0
    refine k (ldL hA0.w ty73 rfl rfl ?_)
    intro a1 c1 rv1
    have ln0 := rv_len rv1
    have H8 := H7.put (it := imm (.slice a1 x0.length c1) x0) rfl rv1
    have H9 : HI M w w5 ([imm (.slice a1 x0.length c1) x0, box bb2 #[.int .i64 mn, .slice a0 mn.toNat c0] 24, own w.heap.size 73 (.slice a0 mn.toNat c0) ss0, box bb1 #[.int .i64 0, .slice none 0 0] 24, box bb0 #[.int .i64 mn, .slice a_mr mr.length c_mr] 24, imm (.slice a_mr mr.length c_mr) mr] ++ rowItems w.heap.size 77 ss0 xs) := H8
    refine k (asg (v := .int .i64 (j : Int)) rfl rfl (k (asg (v := .slice a1 x0.length c1) rfl rfl (z (nx ?_)))))
    have xl_ : xs.length = mr.length := by have h_ := (right_sq rt_m).1; rw [hs, List.length_append, List.length_take, List.length_replicate]; omega
    refine rg (k (fa fl24_1 rfl s1 (k (ldX H9 1 rfl ty22 rfl rfl (by decide) rfl (k (mv (v := .int .i64 (j : Int)) rfl rfl (k ?_)))))))
    obtain ⟨a2, x1, c2, hs0, hr0⟩ := row_get (i := (j : Int).toNat) H9 (by first | assumption | (simp only [List.length_set]; assumption) | (simp only [List.length_set, List.length_replicate] at *; omega)) (by omega)
    refine iaO (H9.at_ 2 rfl) rfl rfl rfl rfl (by first | omega | (simp; omega)) un22 ty73 ?_
    intro g0 x2 hv0 hx1 hA1
    obtain rfl : (⟨a2, x1.length, c2⟩ : SV) = x2 := Option.some.inj (hs0.symm.trans hx1)
    refine k (ldV hA1 ty73 rfl rfl (k (mv (v := .slice a1 x0.length c1) rfl rfl (k (cpO H9 _ (row_at hs0 hr0) rfl rfl rfl rfl rfl (H9.rv 0 rfl).src un73 ty77 (by exact own_len rt_m hs hx0 hr0) (by exact own_pos rt_m hs hx0 hr0) ?_)))))
    intro w6 H11
    have H10 := HI.rowPut (M := fun _ => False) (it := imm (.int .i64 0) (0 : Int)) H11 hs0
    have H12 : HI M w w6 ([imm (.slice a1 x0.length c1) x0, box bb2 #[.int .i64 mn, .slice a0 mn.toNat c0] 24, own w.heap.size 73 (.slice a0 mn.toNat c0) ss0, box bb1 #[.int .i64 0, .slice none 0 0] 24, box bb0 #[.int .i64 mn, .slice a_mr mr.length c_mr] 24, imm (.slice a_mr mr.length c_mr) mr] ++ rowItems w.heap.size 77 ss0 (xs.set ((j : Int).toNat) x0)) := H10
    refine z (inb_normal (nx (rg (k (add rfl rfl s4 rfl (by unfold I64 at *; omega) (k (mv (v := .int .i64 ((j : Int) + 1)) rfl rfl (z ?_))))))))
    have H13 : HI M w w6 ([box bb2 #[.int .i64 mn, .slice a0 mn.toNat c0] 24, own w.heap.size 73 (.slice a0 mn.toNat c0) ss0, box bb1 #[.int .i64 0, .slice none 0 0] 24, box bb0 #[.int .i64 mn, .slice a_mr mr.length c_mr] 24, imm (.slice a_mr mr.length c_mr) mr] ++ rowItems w.heap.size 77 ss0 (xs.set ((j : Int).toNat) x0)) := HI.pickT (l := [imm (.slice a1 x0.length c1) x0, box bb2 #[.int .i64 mn, .slice a0 mn.toNat c0] 24, own w.heap.size 73 (.slice a0 mn.toNat c0) ss0, box bb1 #[.int .i64 0, .slice none 0 0] 24, box bb0 #[.int .i64 mn, .slice a_mr mr.length c_mr] 24, imm (.slice a_mr mr.length c_mr) mr]) (l' := [box bb2 #[.int .i64 mn, .slice a0 mn.toNat c0] 24, own w.heap.size 73 (.slice a0 mn.toNat c0) ss0, box bb1 #[.int .i64 0, .slice none 0 0] 24, box bb0 #[.int .i64 mn, .slice a_mr mr.length c_mr] 24, imm (.slice a_mr mr.length c_mr) mr]) (t := rowItems w.heap.size 77 ss0 (xs.set ((j : Int).toNat) x0)) H12 [1, 2, 3, 4, 5] (by decide) rfl rfl
    refine loopN _ ?_ ⟨(j + 1), (xs.set ((j : Int).toNat) x0), rfl, s0, s1, s2, s3, (ieq rfl (by first | rfl | omega | (push_cast; omega))), H13, (by first | assumption | omega | simp | (simp; omega)), (by simp only [List.length_set]; exact hl), (by exact own_step rt_m hs hx0)⟩
    omega
  ·
    have p0 := of_decide_eq_false b0
    refine ex (then_exit (loop_exit (inb_here (nx (sq (rg (k (ldX H7 0 rfl ty24 rfl s1 (by decide) rfl (k (stX H7 2 rfl ty24 rfl rfl s0 rfl rfl rfl rfl ?_))))))))))
    intro w6 (H8 : HI M w w6 ([box bb2 #[.int .i64 mn, .slice a0 mn.toNat c0] 24, own w.heap.size 73 (.slice a0 mn.toNat c0) ss0, box bb1 #[.int .i64 mn, .slice a0 mn.toNat c0] 24, box bb0 #[.int .i64 mn, .slice a_mr mr.length c_mr] 24, imm (.slice a_mr mr.length c_mr) mr] ++ rowItems w.heap.size 77 ss0 xs))
    refine z (nx (rt (rc1 H8 2 rfl ty24 rfl rfl s0 rfl (by decide) ?_)))
    have e1 : (xs : List (List (BitVec 64))) = mr := by exact own_end rt_m hs (by omega)
    have w1 : ss0.length = (xs).length := by first | assumption | (simp only [List.length_set]; assumption) | (simp only [List.length_set, List.length_replicate] at *; omega)
    exact ⟨a0, c0, ss0, rfl, H8.below, (congrArg (fun (x_ : List (List (BitVec 64))) => OwnsR _ 73 77 _ ss0 x_ (.slice a0 mn.toNat c0) _) e1).mp ⟨w1, HI.pickT (l := [box bb2 #[.int .i64 mn, .slice a0 mn.toNat c0] 24, own w.heap.size 73 (.slice a0 mn.toNat c0) ss0, box bb1 #[.int .i64 mn, .slice a0 mn.toNat c0] 24, box bb0 #[.int .i64 mn, .slice a_mr mr.length c_mr] 24, imm (.slice a_mr mr.length c_mr) mr]) (l' := [own w.heap.size 73 (.slice a0 mn.toNat c0) ss0]) (t := rowItems w.heap.size 77 ss0 xs) H8 [1] (by decide) rfl rfl⟩⟩
end Go.Proofs.YtmhopljngkgidaaDoor
namespace Go.Proofs.YtmhopljngkgidaaDoor
open Go.Ew Go.RowKit
set_option linter.unusedVariables false
set_option linter.unusedSimpArgs false
attribute [local irreducible] WL WC SO Code.wp wpList retQ Ret
attribute [local irreducible] bitB hasW inR hasR setR countW countR subR words newR listR orR firstW tab8
theorem go69 : GoF Tryd.prog 69 := ⟨_, _, Tryd.func69, rfl, by kernel_rfl⟩
theorem go70 : GoF Tryd.prog 70 := ⟨_, _, Tryd.func70, rfl, by kernel_rfl⟩
theorem go71 : GoF Tryd.prog 71 := ⟨_, _, Tryd.func71, rfl, by kernel_rfl⟩
theorem go19 : GoF Tryd.prog 19 := ⟨_, _, Tryd.func19, rfl, by kernel_rfl⟩
/- eyewitness/hull.Close -/
set_option maxRecDepth 100000 in
set_option maxHeartbeats 1600000 in
theorem hull_Close {M : Nat → Prop} {w : World} {mn : Int} {a_mr : Option Addr} {c_mr : Nat} {mr : List (List (BitVec 64))} (hM : ∀ b, M b → b < w.heap.size) (h_mn : I64 mn) (h_mr : RV M w (.slice a_mr mr.length c_mr) mr) (rt_m : rightS mn mr = true) : Calls Tryd.prog 22 #[.agg #[.int .i64 mn, .slice a_mr mr.length c_mr]] w (Ret fun v w' => ∃ (a0 : Option Addr) (c0 : Nat), v = .agg #[.int .i64 mn, .slice a0 (closeM mn mr).length c0] ∧ Ext w w' ∧ OwnsG M 73 w (closeM mn mr) (.slice a0 (closeM mn mr).length c0) w') := by
  refine enter 41 Tryd.func22 rfl rfl rfl fun f0 ha => ?_
  have H := HI.start (M0 := M) (w := w) hM
  have H0 := H.put (it := imm (.slice a_mr mr.length c_mr) mr) rfl (by rw [MS_nil]; exact h_mr)
  have ln_mr := rv_len h_mr
  have i0 : f0 0 = .agg #[.int .i64 mn, .slice a_mr mr.length c_mr] := ha 0 (by simp)
  have hl_ := (right_sq rt_m).1; have h4_ := (right_sq rt_m).2.2.1; have h0_ := right_pos rt_m
  refine sq (rg (k (bx H0 rfl i0 ?_)))
  intro bb0 w0 xt0 (H1 : HI M w w0 [box bb0 #[.int .i64 mn, .slice a_mr mr.length c_mr] 24, imm (.slice a_mr mr.length c_mr) mr])
  refine k (al H1 ty24 ?_)
  intro bb1 w1 xt1 (H2 : HI M w w1 [box bb1 #[.int .i64 0, .slice none 0 0] 24, box bb0 #[.int .i64 mn, .slice a_mr mr.length c_mr] 24, imm (.slice a_mr mr.length c_mr) mr])
  refine z (nx (sq (rg (k (ldX H2 1 rfl ty24 rfl rfl (by decide) rfl (k ?_))))))
  have cc0 := hull_own (mn := mn) (mr := mr) (w := w1) H2.mb (by unfold I64 at *; omega) (H2.rv 2 rfl) (by exact rt_m)
  refine ca go69 rfl (ec rfl e0) cc0 ?_
  rintro _ w2 ⟨a0, c0, ss0, rfl, xt2, rv0⟩
  have H3 := H2.ownsR rv0
  have H4 : HI M w w2 ([own w.heap.size 73 (.slice a0 mn.toNat c0) ss0, box bb1 #[.int .i64 0, .slice none 0 0] 24, box bb0 #[.int .i64 mn, .slice a_mr mr.length c_mr] 24, imm (.slice a_mr mr.length c_mr) mr] ++ rowItems w.heap.size 77 ss0 mr) := H3
  have ssl0 := rv0.1
  refine k (al H4 ty24 ?_)
  intro bb2 w3 xt3 (H5 : HI M w w3 ([box bb2 #[.int .i64 0, .slice none 0 0] 24, own w.heap.size 73 (.slice a0 mn.toNat c0) ss0, box bb1 #[.int .i64 0, .slice none 0 0] 24, box bb0 #[.int .i64 mn, .slice a_mr mr.length c_mr] 24, imm (.slice a_mr mr.length c_mr) mr] ++ rowItems w.heap.size 77 ss0 mr))
  refine k (stX H5 0 rfl ty24 rfl rfl rfl rfl rfl rfl rfl ?_)
  intro w4 (H6 : HI M w w4 ([box bb2 #[.int .i64 mn, .slice a0 mn.toNat c0] 24, own w.heap.size 73 (.slice a0 mn.toNat c0) ss0, box bb1 #[.int .i64 0, .slice none 0 0] 24, box bb0 #[.int .i64 mn, .slice a_mr mr.length c_mr] 24, imm (.slice a_mr mr.length c_mr) mr] ++ rowItems w.heap.size 77 ss0 mr))
  refine z (nx (sq (sq (rg (k (fa fl24_1 rfl rfl (k (ldX H6 0 rfl ty22 rfl rfl (by decide) rfl (k (lnS rfl rfl un22 (k (mv (v := .int .i64 0) rfl rfl (z (nx (bk ?_)))))))))))))))
  refine lp (fun m f w' => ∃ (q : Nat) (xs : List (List (BitVec 64))), m = mn.toNat - q ∧ f 2 = .pointer (some ⟨bb1, 0, none⟩) ∧ f 3 = .pointer (some ⟨bb2, 0, none⟩) ∧ f 10 = .int .i64 (mn.toNat : Int) ∧ f 11 = .int .i64 (q : Int) ∧  HI M w w' ([box bb2 #[.int .i64 mn, .slice a0 mn.toNat c0] 24, own w.heap.size 73 (.slice a0 mn.toNat c0) ss0, box bb1 #[.int .i64 0, .slice none 0 0] 24, box bb0 #[.int .i64 mn, .slice a_mr mr.length c_mr] 24, imm (.slice a_mr mr.length c_mr) mr] ++ rowItems w.heap.size 77 ss0 xs) ∧ (q ≤ mn.toNat) ∧ (ss0.length = xs.length) ∧ (xs = matP mn.toNat (wM (relM mr) q)) ∧ (xs.length = mn.toNat)) _ ⟨0, mr, rfl, rfl, rfl, rfl, (ieq rfl (by first | rfl | omega | simp)), H6, (by first | assumption | omega | simp | (simp; omega)), (by exact ssl0), (by exact close_start rt_m), (by omega)⟩ ?_
  rintro _ f0 w5 ⟨q, xs, rfl, s0, s1, s2, s3, H7, hk, hl, hs, hxl⟩
  refine sq (rg (k (lss rfl rfl s3 s2 (z (nx (sq ?_))))))
  refine cd (b := decide ((q : Int) < (mn.toNat : Int))) rfl rfl (fun b0 => ?_) (fun b0 => ?_)
  ·
    have p0 := of_decide_eq_true b0
    refine sk (nx (sq (bk (sq (rg (k (mv rfl s3 (k (asg (v := .int .i64 (q : Int)) rfl rfl (z (nx (sq (rg (k (fa fl24_1 rfl s1 (k (ldX H7 0 rfl ty22 rfl rfl (by decide) rfl (k (lnS rfl rfl un22 (k (mv (v := .int .i64 0) rfl rfl (z (nx (bk ?_))))))))))))))))))))))))
    refine lp (fun m f w' => ∃ (i : Nat) (ys : List (List (BitVec 64))), m = mn.toNat - i ∧ f 2 = .pointer (some ⟨bb1, 0, none⟩) ∧ f 3 = .pointer (some ⟨bb2, 0, none⟩) ∧ f 4 = .int .i64 (q : Int) ∧ f 10 = .int .i64 (mn.toNat : Int) ∧ f 11 = .int .i64 (q : Int) ∧ f 16 = .int .i64 (mn.toNat : Int) ∧ f 17 = .int .i64 (i : Int) ∧  HI M w w' ([box bb2 #[.int .i64 mn, .slice a0 mn.toNat c0] 24, own w.heap.size 73 (.slice a0 mn.toNat c0) ss0, box bb1 #[.int .i64 0, .slice none 0 0] 24, box bb0 #[.int .i64 mn, .slice a_mr mr.length c_mr] 24, imm (.slice a_mr mr.length c_mr) mr] ++ rowItems w.heap.size 77 ss0 ys) ∧ (i ≤ mn.toNat) ∧ (ss0.length = ys.length) ∧ (ys = matP mn.toNat (wR (relM mr) q i)) ∧ (ys.length = mn.toNat)) _ ⟨0, xs, rfl, s0, s1, rfl, s2, s3, rfl, (ieq rfl (by first | rfl | omega | simp)), H7, (by first | assumption | omega | simp | (simp; omega)), (by exact hl), (by rw [hs]; exact wR_zero _ _ _), (by exact hxl)⟩ ?_
    rintro _ f1 w6 ⟨i, ys, rfl, s4, s5, s6, s7, s8, s9, s10, H8, hi_, hl2, hs2, hyl⟩
    refine sq (rg (k (lss rfl rfl s10 s9 (z (nx (sq ?_))))))
    refine cd (b := decide ((i : Int) < (mn.toNat : Int))) rfl rfl (fun b1 => ?_) (fun b1 => ?_)
    ·
      have p1 := of_decide_eq_true b1
      refine sk (nx (sq (bk (sq (rg (k (mv rfl s10 (k (asg (v := .int .i64 (i : Int)) rfl rfl (z (nx (sq (rg (k (fa fl24_1 rfl s5 (k (ldX H8 0 rfl ty22 rfl rfl (by decide) rfl (k (mv (v := .int .i64 (i : Int)) rfl rfl (k ?_))))))))))))))))))))
      obtain ⟨a1, x0, c1, hs0, hr0⟩ := row_get (i := (i : Int).toNat) H8 (by first | assumption | (simp only [List.length_set]; assumption) | (simp only [List.length_set, List.length_replicate] at *; omega)) (by omega)
      refine iaO (H8.at_ 1 rfl) rfl rfl rfl rfl (by first | omega | (simp; omega)) un22 ty73 ?_
      intro g0 x1 hv0 hx0 hA0
      obtain rfl : (⟨a1, x0.length, c1⟩ : SV) = x1 := Option.some.inj (hs0.symm.trans hx0)
      refine k (ldV hA0 ty73 rfl rfl (k (mv rfl s6 (k ?_))))
      have cc1 := row_Has (r := x0) (i := (q : Int)) (w := w6) (M := fun _ => False) (fun _ h_ => h_.elim) (row_rv H8 hs0 hr0) (by unfold I64 at *; omega)
      refine ca go67 rfl (ec rfl (ec rfl e0)) cc1 ?_
      rintro _ w7 ⟨rfl, xt4⟩
      have H9 := H8.ext xt4
      refine z (nx ?_)
      refine cd (b := hasR x0 (q : Int)) rfl rfl (fun b2 => ?_) (fun b2 => ?_)
      ·
        obtain ⟨a2, x3, c2, hs1, hr1⟩ := row_get (i := (q : Int).toNat) H9 (by first | assumption | (simp only [List.length_set]; assumption) | (simp only [List.length_set, List.length_replicate] at *; omega)) (by omega)
        refine dr 10 [fun (v : Value) (w' : World) => v = .pointer (some ⟨bb2, 1, none⟩), fun (v : Value) (w' : World) => v = .slice a0 mn.toNat c0, fun (v : Value) (w' : World) => v = .int .i64 (i : Int), fun (v : Value) (w' : World) => ∃ (g1 : Nat), v = .pointer (some ⟨g1, (i : Int).toNat * 1, none⟩) ∧ (.slice a0 mn.toNat c0 : Value).ownBlock = some g1 ∧ AtW (MS M ([box bb2 #[.int .i64 mn, .slice a0 mn.toNat c0] 24, own w.heap.size 73 (.slice a0 mn.toNat c0) ss0, box bb1 #[.int .i64 0, .slice none 0 0] 24, box bb0 #[.int .i64 mn, .slice a_mr mr.length c_mr] 24, imm (.slice a_mr mr.length c_mr) mr] ++ rowItems w.heap.size 77 ss0 ys)) w' ⟨g1, (i : Int).toNat * 1, none⟩ (⟨a1, x0.length, c1⟩ : SV), fun (v : Value) (w' : World) => v = .slice a1 x0.length c1, fun (v : Value) (w' : World) => v = .pointer (some ⟨bb2, 1, none⟩), fun (v : Value) (w' : World) => v = .slice a0 mn.toNat c0, fun (v : Value) (w' : World) => v = .int .i64 (q : Int), fun (v : Value) (w' : World) => ∃ (g2 : Nat), v = .pointer (some ⟨g2, (q : Int).toNat * 1, none⟩) ∧ (.slice a0 mn.toNat c0 : Value).ownBlock = some g2 ∧ AtW (MS M ([box bb2 #[.int .i64 mn, .slice a0 mn.toNat c0] 24, own w.heap.size 73 (.slice a0 mn.toNat c0) ss0, box bb1 #[.int .i64 0, .slice none 0 0] 24, box bb0 #[.int .i64 mn, .slice a_mr mr.length c_mr] 24, imm (.slice a_mr mr.length c_mr) mr] ++ rowItems w.heap.size 77 ss0 ys)) w' ⟨g2, (q : Int).toNat * 1, none⟩ (⟨a2, x3.length, c2⟩ : SV), fun (v : Value) (w' : World) => v = .slice a2 x3.length c2] rfl (by kernel_rfl) ?_ ?_
        ·
          refine ⟨fun _ => ⟨fun f2 w8 hf0 xt5 hp0 => ?_, fun _ _ _ _ h => h⟩, ?_⟩
          ·
            have H10 := H9.ext xt5
            refine fa fl24_1 rfl ((hf0 3 rfl).trans s5) ?_
            exact ⟨_, rfl, Ext.refl _, rfl⟩
          refine ⟨fun _ => ⟨fun f3 w9 hf1 xt6 hp1 => ?_, fun _ _ _ _ h => h⟩, ?_⟩
          ·
            have H11 := H9.ext xt6
            have s11 : f3 27 = .pointer (some ⟨bb2, 1, none⟩) := hp1 0 rfl rfl
            refine ldX H11 0 rfl ty22 rfl s11 (by decide) rfl ?_
            exact ⟨_, rfl, Ext.refl _, rfl⟩
          refine ⟨fun _ => ⟨fun f4 w10 hf2 xt7 hp2 => ?_, fun _ _ _ _ h => h⟩, ?_⟩
          ·
            have H12 := H9.ext xt7
            refine mv rfl (hf2 5 rfl) ?_
            exact ⟨_, rfl, Ext.refl _, rfl⟩
          refine ⟨fun _ => ⟨fun f5 w11 hf3 xt8 hp3 => ?_, by rintro _ _ _ x_ ⟨g1, e_, hv1, hA1⟩; exact ⟨g1, e_, hv1, hA1.ext x_⟩⟩, ?_⟩
          ·
            have H13 := H9.ext xt8
            have s12 : f5 28 = .slice a0 mn.toNat c0 := hp3 1 rfl rfl
            have s13 : f5 29 = .int .i64 (i : Int) := hp3 2 rfl rfl
            refine iaO (H13.at_ 1 rfl) rfl rfl s12 s13 (by first | omega | (simp; omega)) un22 ty73 ?_
            intro g3 x5 hv3 hx3 hA3
            obtain rfl : (⟨a1, x0.length, c1⟩ : SV) = x5 := Option.some.inj (hs0.symm.trans hx3)
            exact ⟨_, rfl, Ext.refl _, ⟨g3, rfl, hv3, hA3⟩⟩
          refine ⟨fun _ => ⟨fun f6 w12 hf4 xt9 hp4 => ?_, fun _ _ _ _ h => h⟩, ?_⟩
          ·
            have H14 := H9.ext xt9
            obtain ⟨g4, s14, hv4, hA4⟩ : ∃ (g4 : Nat), f6 30 = .pointer (some ⟨g4, (i : Int).toNat * 1, none⟩) ∧ (.slice a0 mn.toNat c0 : Value).ownBlock = some g4 ∧ AtW (MS M ([box bb2 #[.int .i64 mn, .slice a0 mn.toNat c0] 24, own w.heap.size 73 (.slice a0 mn.toNat c0) ss0, box bb1 #[.int .i64 0, .slice none 0 0] 24, box bb0 #[.int .i64 mn, .slice a_mr mr.length c_mr] 24, imm (.slice a_mr mr.length c_mr) mr] ++ rowItems w.heap.size 77 ss0 ys)) w12 ⟨g4, (i : Int).toNat * 1, none⟩ (⟨a1, x0.length, c1⟩ : SV) := hp4 3 rfl rfl
            refine ldV hA4 ty73 rfl s14 ?_
            exact ⟨_, rfl, Ext.refl _, rfl⟩
          refine ⟨fun _ => ⟨fun f7 w13 hf5 xt10 hp5 => ?_, fun _ _ _ _ h => h⟩, ?_⟩
          ·
            have H15 := H9.ext xt10
            refine fa fl24_1 rfl ((hf5 3 rfl).trans s5) ?_
            exact ⟨_, rfl, Ext.refl _, rfl⟩
          refine ⟨fun _ => ⟨fun f8 w14 hf6 xt11 hp6 => ?_, fun _ _ _ _ h => h⟩, ?_⟩
          ·
            have H16 := H9.ext xt11
            have s15 : f8 32 = .pointer (some ⟨bb2, 1, none⟩) := hp6 5 rfl rfl
            refine ldX H16 0 rfl ty22 rfl s15 (by decide) rfl ?_
            exact ⟨_, rfl, Ext.refl _, rfl⟩
          refine ⟨fun _ => ⟨fun f9 w15 hf7 xt12 hp7 => ?_, fun _ _ _ _ h => h⟩, ?_⟩
          ·
            have H17 := H9.ext xt12
            refine mv rfl ((hf7 4 rfl).trans s6) ?_
            exact ⟨_, rfl, Ext.refl _, rfl⟩
          refine ⟨fun _ => ⟨fun f10 w16 hf8 xt13 hp8 => ?_, by rintro _ _ _ x_ ⟨g2, e_, hv2, hA2⟩; exact ⟨g2, e_, hv2, hA2.ext x_⟩⟩, ?_⟩
          ·
            have H18 := H9.ext xt13
            have s16 : f10 33 = .slice a0 mn.toNat c0 := hp8 6 rfl rfl
            have s17 : f10 34 = .int .i64 (q : Int) := hp8 7 rfl rfl
            refine iaO (H18.at_ 1 rfl) rfl rfl s16 s17 (by first | omega | (simp; omega)) un22 ty73 ?_
            intro g5 x6 hv5 hx4 hA5
            obtain rfl : (⟨a2, x3.length, c2⟩ : SV) = x6 := Option.some.inj (hs1.symm.trans hx4)
            exact ⟨_, rfl, Ext.refl _, ⟨g5, rfl, hv5, hA5⟩⟩
          refine ⟨fun _ => ⟨fun f11 w17 hf9 xt14 hp9 => ?_, fun _ _ _ _ h => h⟩, ?_⟩
          ·
            have H19 := H9.ext xt14
            obtain ⟨g6, s18, hv6, hA6⟩ : ∃ (g6 : Nat), f11 35 = .pointer (some ⟨g6, (q : Int).toNat * 1, none⟩) ∧ (.slice a0 mn.toNat c0 : Value).ownBlock = some g6 ∧ AtW (MS M ([box bb2 #[.int .i64 mn, .slice a0 mn.toNat c0] 24, own w.heap.size 73 (.slice a0 mn.toNat c0) ss0, box bb1 #[.int .i64 0, .slice none 0 0] 24, box bb0 #[.int .i64 mn, .slice a_mr mr.length c_mr] 24, imm (.slice a_mr mr.length c_mr) mr] ++ rowItems w.heap.size 77 ss0 ys)) w17 ⟨g6, (q : Int).toNat * 1, none⟩ (⟨a2, x3.length, c2⟩ : SV) := hp9 8 rfl rfl
            refine ldV hA6 ty73 rfl s18 ?_
            exact ⟨_, rfl, Ext.refl _, rfl⟩
          exact DSteps.rest rfl _
        · intro f12 w18 hf10 xt15 hp10
          have H20 := H9.ext xt15
          have s19 : f12 2 = .pointer (some ⟨bb1, 0, none⟩) := (hf10 2 rfl).trans s4
          have s20 : f12 3 = .pointer (some ⟨bb2, 0, none⟩) := (hf10 3 rfl).trans s5
          have s21 : f12 4 = .int .i64 (q : Int) := (hf10 4 rfl).trans s6
          have s22 : f12 10 = .int .i64 (mn.toNat : Int) := (hf10 10 rfl).trans s7
          have s23 : f12 11 = .int .i64 (q : Int) := (hf10 11 rfl).trans s8
          have s24 : f12 16 = .int .i64 (mn.toNat : Int) := (hf10 16 rfl).trans s9
          have s25 : f12 17 = .int .i64 (i : Int) := (hf10 17 rfl).trans s10
          have s26 : f12 31 = .slice a1 x0.length c1 := hp10 4 rfl
          have s27 : f12 36 = .slice a2 x3.length c2 := hp10 9 rfl
          refine k ?_
          have cc2 := hull_join H20 (row_at (l := [box bb2 #[.int .i64 mn, .slice a0 mn.toNat c0] 24, own w.heap.size 73 (.slice a0 mn.toNat c0) ss0, box bb1 #[.int .i64 0, .slice none 0 0] 24, box bb0 #[.int .i64 mn, .slice a_mr mr.length c_mr] 24, imm (.slice a_mr mr.length c_mr) mr]) hs0 hr0) (row_at (l := [box bb2 #[.int .i64 mn, .slice a0 mn.toNat c0] 24, own w.heap.size 73 (.slice a0 mn.toNat c0) ss0, box bb1 #[.int .i64 0, .slice none 0 0] 24, box bb0 #[.int .i64 mn, .slice a_mr mr.length c_mr] 24, imm (.slice a_mr mr.length c_mr) mr]) hs1 hr1) (by have e1_ := hr0; rw [hs2] at e1_; have e2_ := hr1; rw [hs2] at e2_; rw [wR_len e1_, wR_len e2_]; exact Nat.le_refl _) (by have e2_ := hr1; rw [hs2] at e2_; rw [wR_len e2_]; have h_ := words_le (n := ((mn.toNat : Nat) : Int)) (by omega); omega) (join_ne hs0 hs1 hr0 hr1)
          refine ca go70 rfl (ec s26 (ec s27 e0)) cc2 ?_
          rintro _ w19 ⟨rfl, H22⟩
          have H21 := HI.rowPut (M := fun _ => False) (it := imm (.int .i64 0) (0 : Int)) H22 hs0
          have H23 : HI M w w19 ([box bb2 #[.int .i64 mn, .slice a0 mn.toNat c0] 24, own w.heap.size 73 (.slice a0 mn.toNat c0) ss0, box bb1 #[.int .i64 0, .slice none 0 0] 24, box bb0 #[.int .i64 mn, .slice a_mr mr.length c_mr] 24, imm (.slice a_mr mr.length c_mr) mr] ++ rowItems w.heap.size 77 ss0 (ys.set ((i : Int).toNat) (orR x0 x3))) := H21
          refine z (inb_normal (nx (rg (k (add rfl rfl s25 rfl (by unfold I64 at *; omega) (k (mv (v := .int .i64 ((i : Int) + 1)) rfl rfl (z ?_))))))))
          refine loopN _ ?_ ⟨(i + 1), (ys.set ((i : Int).toNat) (orR x0 x3)), rfl, s19, s20, s21, s22, s23, s24, (ieq rfl (by first | rfl | omega | (push_cast; omega))), H23, (by first | assumption | omega | simp | (simp; omega)), (by first | exact hl2 | (rw [List.length_set]; exact hl2)), (by first | exact wR_yes hs2 hr0 hr1 (by omega) b2 | exact wR_no hs2 hr0 (by omega) b2), (by first | exact hyl | (rw [List.length_set]; exact hyl))⟩
          omega
      ·
        refine sk (inb_normal (nx (rg (k (add rfl rfl s10 rfl (by unfold I64 at *; omega) (k (mv (v := .int .i64 ((i : Int) + 1)) rfl rfl (z ?_))))))))
        refine loopN _ ?_ ⟨(i + 1), ys, rfl, s4, s5, s6, s7, s8, s9, (ieq rfl (by first | rfl | omega | (push_cast; omega))), H9, (by first | assumption | omega | simp | (simp; omega)), (by first | exact hl2 | (rw [List.length_set]; exact hl2)), (by first | exact wR_yes hs2 hr0 hr1 (by omega) b2 | exact wR_no hs2 hr0 (by omega) b2), (by first | exact hyl | (rw [List.length_set]; exact hyl))⟩
        omega
    ·
      have p1 := of_decide_eq_false b1
      refine ex (then_exit (loop_exit (inb_here (inb_normal (nx (rg (k (add rfl rfl s8 rfl (by unfold I64 at *; omega) (k (mv (v := .int .i64 ((q : Int) + 1)) rfl rfl (z ?_)))))))))))
      refine loopN _ ?_ ⟨(q + 1), ys, rfl, s4, s5, s7, (ieq rfl (by first | rfl | omega | (push_cast; omega))), H8, (by first | assumption | omega | simp | (simp; omega)), (by exact hl2), (by rw [hs2]; exact wR_end _ (by omega)), (by exact hyl)⟩
      omega
  ·
    have p0 := of_decide_eq_false b0
    refine ex (then_exit (loop_exit (inb_here (nx (sq ?_)))))
    have H8 : HI M w w5 [own w.heap.size 73 (.slice a0 mn.toNat c0) xs, box bb2 #[.int .i64 mn, .slice a0 mn.toNat c0] 24, box bb1 #[.int .i64 0, .slice none 0 0] 24, box bb0 #[.int .i64 mn, .slice a_mr mr.length c_mr] 24, imm (.slice a_mr mr.length c_mr) mr] := HI.deep (l := [box bb2 #[.int .i64 mn, .slice a0 mn.toNat c0] 24, box bb1 #[.int .i64 0, .slice none 0 0] 24, box bb0 #[.int .i64 mn, .slice a_mr mr.length c_mr] 24, imm (.slice a_mr mr.length c_mr) mr]) (HI.pickT (l := [box bb2 #[.int .i64 mn, .slice a0 mn.toNat c0] 24, own w.heap.size 73 (.slice a0 mn.toNat c0) ss0, box bb1 #[.int .i64 0, .slice none 0 0] 24, box bb0 #[.int .i64 mn, .slice a_mr mr.length c_mr] 24, imm (.slice a_mr mr.length c_mr) mr]) (l' := [own w.heap.size 73 (.slice a0 mn.toNat c0) ss0, box bb2 #[.int .i64 mn, .slice a0 mn.toNat c0] 24, box bb1 #[.int .i64 0, .slice none 0 0] 24, box bb0 #[.int .i64 mn, .slice a_mr mr.length c_mr] 24, imm (.slice a_mr mr.length c_mr) mr]) (t := rowItems w.heap.size 77 ss0 xs) H7 [1, 0, 2, 3, 4] (by decide) rfl rfl) (by first | assumption | (simp only [List.length_set]; assumption) | (simp only [List.length_set, List.length_replicate] at *; omega))
    refine rg (k (ldX H8 1 rfl ty24 rfl s1 (by decide) rfl (k (stX H8 2 rfl ty24 rfl rfl s0 rfl rfl rfl rfl ?_))))
    intro w6 (H9 : HI M w w6 [own w.heap.size 73 (.slice a0 mn.toNat c0) xs, box bb2 #[.int .i64 mn, .slice a0 mn.toNat c0] 24, box bb1 #[.int .i64 mn, .slice a0 mn.toNat c0] 24, box bb0 #[.int .i64 mn, .slice a_mr mr.length c_mr] 24, imm (.slice a_mr mr.length c_mr) mr])
    refine z (nx (rt (rc1 H9 2 rfl ty24 rfl rfl s0 rfl (by decide) ?_)))
    have e1 : (xs : List (List (BitVec 64))) = closeM mn mr := by exact close_end hs (by omega) (by omega)
    have l1 : mn.toNat = (closeM mn mr).length := by first | (rw [← e1]; omega) | (rw [closeM_len])
    have ev_ := cg1 (fun (n_1 : Nat) => (.agg #[.int .i64 mn, .slice a0 n_1 c0] : Value)) l1
    exact ⟨a0, c0, ev_, H9.below, (congrArg (fun (n_ : Nat) => OwnsG _ _ _ (closeM mn mr) (.slice a0 n_ c0) _) l1).mp ((congrArg (fun (x_ : List (List (BitVec 64))) => OwnsG _ _ _ x_ (.slice a0 mn.toNat c0) _) e1).mp (H9.ownsG_out 0 rfl))⟩
/- eyewitness/hull.Closed -/
set_option maxRecDepth 100000 in
set_option maxHeartbeats 1600000 in
theorem hull_Closed {M : Nat → Prop} {w : World} {mn : Int} {a_mr : Option Addr} {c_mr : Nat} {mr : List (List (BitVec 64))} (hM : ∀ b, M b → b < w.heap.size) (hT : TabAt 0 w) (h_mn : I64 mn) (h_mr : RV M w (.slice a_mr mr.length c_mr) mr) (rt_m : rightS mn mr = true) : Calls Tryd.prog 23 #[.agg #[.int .i64 mn, .slice a_mr mr.length c_mr]] w (Ret fun v w' =>  v = .bool (closedM mn mr) ∧ Ext w w') := by
  refine enter 31 Tryd.func23 rfl rfl rfl fun f0 ha => ?_
  have H := HI.start (M0 := M) (w := w) hM
  have H0 := H.put (it := imm (.slice a_mr mr.length c_mr) mr) rfl (by rw [MS_nil]; exact h_mr)
  have ln_mr := rv_len h_mr
  have i0 : f0 0 = .agg #[.int .i64 mn, .slice a_mr mr.length c_mr] := ha 0 (by simp)
  have hl_ := (right_sq rt_m).1; have h4_ := (right_sq rt_m).2.2.1; have h0_ := right_pos rt_m
  refine sq (rg (k (bx H0 rfl i0 ?_)))
  intro bb0 w0 xt0 (H1 : HI M w w0 [box bb0 #[.int .i64 mn, .slice a_mr mr.length c_mr] 24, imm (.slice a_mr mr.length c_mr) mr])
  refine k (asg (v := .bool false) rfl rfl (z (nx (sq (sq (rg (k (fa fl24_1 rfl rfl (k (ldX H1 0 rfl ty22 rfl rfl (by decide) rfl (k (lnS rfl rfl un22 (k (mv (v := .int .i64 0) rfl rfl (z (nx (bk ?_)))))))))))))))))
  refine lp (fun m f w' => ∃ (i : Nat), m = mr.length - i ∧ f 1 = .pointer (some ⟨bb0, 0, none⟩) ∧ f 8 = .slice a_mr mr.length c_mr ∧ f 9 = .int .i64 (mr.length : Int) ∧ f 10 = .int .i64 (i : Int) ∧  HI M w w' [box bb0 #[.int .i64 mn, .slice a_mr mr.length c_mr] 24, imm (.slice a_mr mr.length c_mr) mr] ∧ (i ≤ mr.length) ∧ (clTo mr i = true)) _ ⟨0, rfl, rfl, rfl, rfl, (ieq rfl (by first | rfl | omega | simp)), H1, (by first | assumption | omega | simp | (simp; omega)), (by rfl)⟩ ?_
  rintro _ f0 w1 ⟨i, rfl, s0, s1, s2, s3, H2, hi_, hs⟩
  refine sq (rg (k (lss rfl rfl s3 s2 (z (nx (sq ?_))))))
  refine cd (b := decide ((i : Int) < (mr.length : Int))) rfl rfl (fun b0 => ?_) (fun b0 => ?_)
  ·
    have p0 := of_decide_eq_true b0
    refine sk (nx (sq (bk (sq (rg (k (ia (H2.rv 1 rfl) rfl rfl s1 s3 (by first | omega | (simp; omega)) un22 ty73 ?_)))))))
    intro ad0 x0 hx0 hA0
    refine k (ldL hA0.w ty73 rfl rfl ?_)
    intro a0 c0 rv0
    have ln0 := rv_len rv0
    have H3 := H2.put (it := imm (.slice a0 x0.length c0) x0) rfl rv0
    refine k (asg (v := .slice a0 x0.length c0) rfl rfl (z (nx (sq (rg (k (mv (v := .slice a0 x0.length c0) rfl rfl (k ?_))))))))
    have cc0 := row_List (r := x0) (w := w1) H3.mb (hT.ext H3.below) (H3.rv 0 rfl) (by exact (right_sq rt_m).2.1 _ (List.mem_of_getElem? hx0))
    refine ca go64 rfl (ec rfl e0) cc0 ?_
    rintro _ w2 ⟨a1, c1, rfl, xt1, rv1⟩
    have H4 := H3.ownsG rv1
    refine k (lnS rfl rfl un42 (k (mv (v := .int .i64 0) rfl rfl (z (nx (bk ?_))))))
    refine lp (fun m f w' => ∃ (q : Nat), m = (listR x0).length - q ∧ f 1 = .pointer (some ⟨bb0, 0, none⟩) ∧ f 4 = .slice a0 x0.length c0 ∧ f 8 = .slice a_mr mr.length c_mr ∧ f 9 = .int .i64 (mr.length : Int) ∧ f 10 = .int .i64 (i : Int) ∧ f 15 = .slice a1 (listR x0).length c1 ∧ f 16 = .int .i64 ((listR x0).length : Int) ∧ f 17 = .int .i64 (q : Int) ∧  HI M w w' [own w.heap.size 3 (.slice a1 (listR x0).length c1) (listR x0), imm (.slice a0 x0.length c0) x0, box bb0 #[.int .i64 mn, .slice a_mr mr.length c_mr] 24, imm (.slice a_mr mr.length c_mr) mr] ∧ (q ≤ (listR x0).length) ∧ (clIn mr x0 q = true)) _ ⟨0, rfl, s0, rfl, s1, s2, s3, rfl, rfl, (ieq rfl (by first | rfl | omega | simp)), H4, (by first | assumption | omega | simp | (simp; omega)), (by rfl)⟩ ?_
    rintro _ f1 w3 ⟨q, rfl, s4, s5, s6, s7, s8, s9, s10, s11, H5, hq_, hs2⟩
    refine sq (rg (k (lss rfl rfl s11 s10 (z (nx (sq ?_))))))
    refine cd (b := decide ((q : Int) < ((listR x0).length : Int))) rfl rfl (fun b1 => ?_) (fun b1 => ?_)
    ·
      have p1 := of_decide_eq_true b1
      refine sk (nx (sq (bk (sq (rg (k (iaO (H5.at_ 0 rfl) rfl rfl s9 s11 (by first | omega | (simp; omega)) un42 ty3 ?_)))))))
      intro g0 x1 hv0 hx1 hA1
      refine k (ldI hA1 ty3 rfl rfl ?_)
      intro rv2
      refine k (asg (v := .int .i64 x1) rfl rfl (z (nx (sq ?_))))
      have hj_ := right_bit rt_m hx0 hx1
      refine rg (k (fa fl24_1 rfl s4 (k (ldX H5 2 rfl ty22 rfl rfl (by decide) rfl (k (mv (v := .int .i64 x1) rfl rfl (k (ia (H5.rv 3 rfl) rfl rfl rfl rfl (by omega) un22 ty73 ?_))))))))
      intro ad1 x2 hx2 hA2
      refine k (ldL hA2.w ty73 rfl rfl ?_)
      intro a2 c2 rv3
      have ln1 := rv_len rv3
      have H6 := H5.put (it := imm (.slice a2 x2.length c2) x2) rfl rv3
      refine k (mv rfl s5 (k ?_))
      have cc1 := row_Sub (a := x2) (b := x0) (w := w3) H6.mb (H6.rv 0 rfl) (H6.rv 2 rfl)
      refine ca go71 rfl (ec rfl (ec rfl e0)) cc1 ?_
      rintro _ w4 ⟨rfl, xt2⟩
      have H7 := H6.ext xt2
      refine k (not_ rfl rfl (z (nx ?_)))
      refine cd (b := !(subR x2 x0)) rfl rfl (fun b2 => ?_) (fun b2 => ?_)
      ·
        refine sq (rg (k (asg (v := .bool false) rfl rfl (z (nx (rt (inb_ret (then_ret (loop_ret (inb_ret (inb_ret (then_ret (loop_ret (inb_ret (then_ret (r1 rfl rfl ?_))))))))))))))))
        have e0 : (false : Bool) = closedM mn mr := by exact closed_row_no rt_m hx0 hx1 hx2 (by simpa using b2)
        have ev_ := cg1 (fun (x_0 : Bool) => (.bool x_0 : Value)) e0
        exact ⟨ev_, H7.below⟩
      ·
        refine sk (inb_normal (nx (rg (k (add rfl rfl s11 rfl (by have h_ := listR_length x0; have h2_ := (right_sq rt_m).2.2.2.2 _ (List.mem_of_getElem? hx0); unfold I64; omega) (k (mv (v := .int .i64 ((q : Int) + 1)) rfl rfl (z ?_))))))))
        have H8 : HI M w w4 [own w.heap.size 3 (.slice a1 (listR x0).length c1) (listR x0), imm (.slice a0 x0.length c0) x0, box bb0 #[.int .i64 mn, .slice a_mr mr.length c_mr] 24, imm (.slice a_mr mr.length c_mr) mr] := H7.pickN [1, 2, 3, 4] (by decide) rfl
        refine loopN _ ?_ ⟨(q + 1), rfl, s4, s5, s6, s7, s8, s9, s10, (ieq rfl (by first | rfl | omega | (push_cast; omega))), H8, (by first | assumption | omega | simp | (simp; omega)), (by exact clIn_step hx1 hs2 hx2 (by simpa using b2))⟩
        omega
    ·
      have p1 := of_decide_eq_false b1
      refine ex (then_exit (loop_exit (inb_here (inb_normal (nx (rg (k (add rfl rfl s8 rfl (by unfold I64 at *; omega) (k (mv (v := .int .i64 ((i : Int) + 1)) rfl rfl (z ?_)))))))))))
      have H6 : HI M w w3 [box bb0 #[.int .i64 mn, .slice a_mr mr.length c_mr] 24, imm (.slice a_mr mr.length c_mr) mr] := H5.pickN [2, 3] (by decide) rfl
      refine loopN _ ?_ ⟨(i + 1), rfl, s4, s6, s7, (ieq rfl (by first | rfl | omega | (push_cast; omega))), H6, (by first | assumption | omega | simp | (simp; omega)), (by exact closed_row_step hs hx0 hs2 (by omega))⟩
      omega
  ·
    have p0 := of_decide_eq_false b0
    refine ex (then_exit (loop_exit (inb_here (nx (sq (rg (k (asg (v := .bool true) rfl rfl (z (nx (rt (r1 rfl rfl ?_))))))))))))
    have e0 : (true : Bool) = closedM mn mr := by exact closed_row_end rt_m hs (by omega) (by omega)
    have ev_ := cg1 (fun (x_0 : Bool) => (.bool x_0 : Value)) e0
    exact ⟨ev_, H2.below⟩
/- eyewitness/hull.Loop -/
set_option maxRecDepth 100000 in
set_option maxHeartbeats 1600000 in
theorem hull_Loop {M : Nat → Prop} {w : World} {mn : Int} {a_mr : Option Addr} {c_mr : Nat} {mr : List (List (BitVec 64))} (hM : ∀ b, M b → b < w.heap.size) (h_mn : I64 mn) (h_mr : RV M w (.slice a_mr mr.length c_mr) mr) (rt_m : rightS mn mr = true) : Calls Tryd.prog 31 #[.agg #[.int .i64 mn, .slice a_mr mr.length c_mr]] w (Ret fun v w' =>  v = .tuple #[.int .i64 (((loopF mn mr).getD 0 : Nat) : Int), .bool ((loopF mn mr).isSome)] ∧ Ext w w') := by
  refine enter 17 Tryd.func31 rfl rfl rfl fun f0 ha => ?_
  have H := HI.start (M0 := M) (w := w) hM
  have H0 := H.put (it := imm (.slice a_mr mr.length c_mr) mr) rfl (by rw [MS_nil]; exact h_mr)
  have ln_mr := rv_len h_mr
  have i0 : f0 0 = .agg #[.int .i64 mn, .slice a_mr mr.length c_mr] := ha 0 (by simp)
  have hl_ := (right_sq rt_m).1; have h4_ := (right_sq rt_m).2.2.1; have h0_ := right_pos rt_m
  refine sq (rg (k (bx H0 rfl i0 ?_)))
  intro bb0 w0 xt0 (H1 : HI M w w0 [box bb0 #[.int .i64 mn, .slice a_mr mr.length c_mr] 24, imm (.slice a_mr mr.length c_mr) mr])
  refine k (asg (v := .int .i64 0) rfl rfl (k (asg (v := .bool false) rfl rfl (z (nx (sq (sq (rg (k (fa fl24_1 rfl rfl (k (ldX H1 0 rfl ty22 rfl rfl (by decide) rfl (k (lnS rfl rfl un22 (k (mv (v := .int .i64 0) rfl rfl (z (nx (bk ?_)))))))))))))))))))
  refine lp (fun m f w' => ∃ (j : Nat), m = mr.length - j ∧ f 1 = .pointer (some ⟨bb0, 0, none⟩) ∧ f 7 = .int .i64 (mr.length : Int) ∧ f 8 = .int .i64 (j : Int) ∧  HI M w w' [box bb0 #[.int .i64 mn, .slice a_mr mr.length c_mr] 24, imm (.slice a_mr mr.length c_mr) mr] ∧ (j ≤ mr.length) ∧ (∀ k, k < j → hasM mn mr ((k : Nat) : Int) ((k : Nat) : Int) = false)) _ ⟨0, rfl, rfl, rfl, (ieq rfl (by first | rfl | omega | simp)), H1, (by first | assumption | omega | simp | (simp; omega)), (by intro k_ h_; omega)⟩ ?_
  rintro _ f0 w1 ⟨j, rfl, s0, s1, s2, H2, hk, hs⟩
  refine sq (rg (k (lss rfl rfl s2 s1 (z (nx (sq ?_))))))
  refine cd (b := decide ((j : Int) < (mr.length : Int))) rfl rfl (fun b0 => ?_) (fun b0 => ?_)
  ·
    have p0 := of_decide_eq_true b0
    refine sk (nx (sq (bk (sq (rg (k (mv rfl s2 (k (asg (v := .int .i64 (j : Int)) rfl rfl (z (nx (sq (rg (k (ldX H2 0 rfl ty24 rfl s0 (by decide) rfl (k (mv (v := .int .i64 (j : Int)) rfl rfl (k (mv (v := .int .i64 (j : Int)) rfl rfl (k ?_))))))))))))))))))))
    have cc0 := mat_Has (mn := mn) (mr := mr) (i := (j : Int)) (j := (j : Int)) (w := w1) H2.mb (by unfold I64 at *; omega) (H2.rv 1 rfl) (by unfold I64 at *; omega) (by unfold I64 at *; omega) (by exact (right_sq rt_m).1) (by exact (right_sq rt_m).2.1) (by exact (right_sq rt_m).2.2.1)
    refine ca go19 rfl (ec rfl (ec rfl (ec rfl e0))) cc0 ?_
    rintro _ w2 ⟨rfl, xt1⟩
    have H3 := H2.ext xt1
    refine z (nx ?_)
    refine cd (b := hasM mn mr (j : Int) (j : Int)) rfl rfl (fun b1 => ?_) (fun b1 => ?_)
    ·
      refine sq (rg (k (mv (v := .int .i64 (j : Int)) rfl rfl (k (asg (v := .int .i64 (j : Int)) rfl rfl (k (asg (v := .bool true) rfl rfl (z (nx (rt (inb_ret (then_ret (loop_ret (inb_ret (then_ret (r2 rfl rfl rfl ?_))))))))))))))))
      have e0 : ((j : Int) : Int) = (((loopF mn mr).getD 0 : Nat) : Int) := by first | (rw [loop_hit (by omega) b1 hs]; rfl) | (rw [loop_miss (by omega) hs]; rfl)
      have e1 : (true : Bool) = (loopF mn mr).isSome := by first | (rw [loop_hit (by omega) b1 hs]; rfl) | (rw [loop_miss (by omega) hs]; rfl)
      have ev_ := cg2 (fun (x_0 : Int) (x_1 : Bool) => (.tuple #[.int .i64 x_0, .bool x_1] : Value)) e0 e1
      exact ⟨ev_, H3.below⟩
    ·
      refine sk (inb_normal (nx (rg (k (add rfl rfl s2 rfl (by unfold I64 at *; omega) (k (mv (v := .int .i64 ((j : Int) + 1)) rfl rfl (z ?_))))))))
      refine loopN _ ?_ ⟨(j + 1), rfl, s0, s1, (ieq rfl (by first | rfl | omega | (push_cast; omega))), H3, (by first | assumption | omega | simp | (simp; omega)), (by exact below_step (p := fun k => hasM mn mr ((k : Nat) : Int) ((k : Nat) : Int)) hs b1)⟩
      omega
  ·
    have p0 := of_decide_eq_false b0
    refine ex (then_exit (loop_exit (inb_here (nx (sq (rg (k (asg (v := .int .i64 0) rfl rfl (k (asg (v := .bool false) rfl rfl (z (nx (rt (r2 rfl rfl rfl ?_))))))))))))))
    have e0 : (0 : Int) = (((loopF mn mr).getD 0 : Nat) : Int) := by first | (rw [loop_hit (by omega) b1 hs]; rfl) | (rw [loop_miss (by omega) hs]; rfl)
    have e1 : (false : Bool) = (loopF mn mr).isSome := by first | (rw [loop_hit (by omega) b1 hs]; rfl) | (rw [loop_miss (by omega) hs]; rfl)
    have ev_ := cg2 (fun (x_0 : Int) (x_1 : Bool) => (.tuple #[.int .i64 x_0, .bool x_1] : Value)) e0 e1
    exact ⟨ev_, H2.below⟩
/- eyewitness/hull.Add -/
set_option maxRecDepth 100000 in
set_option maxHeartbeats 1600000 in
theorem hull_Add {M : Nat → Prop} {w : World} {mn : Int} {a_mr : Option Addr} {c_mr : Nat} {mr : List (List (BitVec 64))} {i : Int} {j : Int} (hM : ∀ b, M b → b < w.heap.size) (h_mn : I64 mn) (h_mr : RV M w (.slice a_mr mr.length c_mr) mr) (h_i : I64 i) (h_j : I64 j) (rt_m : rightS mn mr = true) : Calls Tryd.prog 27 #[.agg #[.int .i64 mn, .slice a_mr mr.length c_mr], .int .i64 i, .int .i64 j] w (Ret fun v w' => ∃ (a0 : Option Addr) (c0 : Nat), v = .tuple #[.agg #[.int .i64 (setMN mn i j), .slice a0 (addMR mn mr i j).length c0], .int .i64 (setME mn i j)] ∧ Ext w w' ∧ RV M w' (.slice a0 (addMR mn mr i j).length c0) (addMR mn mr i j)) := by
  refine enter 71 Tryd.func27 rfl rfl rfl fun f0 ha => ?_
  have H := HI.start (M0 := M) (w := w) hM
  have H0 := H.put (it := imm (.slice a_mr mr.length c_mr) mr) rfl (by rw [MS_nil]; exact h_mr)
  have ln_mr := rv_len h_mr
  have i0 : f0 0 = .agg #[.int .i64 mn, .slice a_mr mr.length c_mr] := ha 0 (by simp)
  have i1 : f0 1 = .int .i64 i := ha 1 (by simp)
  have i2 : f0 2 = .int .i64 j := ha 2 (by simp)
  have hl_ := (right_sq rt_m).1; have h4_ := (right_sq rt_m).2.2.1; have h0_ := right_pos rt_m
  refine sq (rg (k (bx H0 rfl i0 ?_)))
  intro bb0 w0 xt0 (H1 : HI M w w0 [box bb0 #[.int .i64 mn, .slice a_mr mr.length c_mr] 24, imm (.slice a_mr mr.length c_mr) mr])
  refine k (al H1 ty24 ?_)
  intro bb1 w1 xt1 (H2 : HI M w w1 [box bb1 #[.int .i64 0, .slice none 0 0] 24, box bb0 #[.int .i64 mn, .slice a_mr mr.length c_mr] 24, imm (.slice a_mr mr.length c_mr) mr])
  refine k (asg (v := .int .i64 0) rfl rfl (z (nx (sq (sq (rg (k (mv rfl i1 (k (lss rfl rfl rfl rfl (k (mv (v := .bool (decide (i < 0))) rfl rfl ?_))))))))))))
  rcases Bool.eq_false_or_eq_true (decide (i < 0)) with b0 | b0
  · -- decide (i < 0) is True
    have p0 := of_decide_eq_true b0
    refine k (gn rfl rfl rfl b0 (k (gn rfl rfl rfl b0 (k (gn rfl rfl rfl b0 (k (gn rfl rfl rfl b0 (k (pickT rfl rfl rfl rfl b0 rfl (k (mv (v := .bool true) rfl rfl (k (gn rfl rfl rfl rfl (k (gn rfl rfl rfl rfl (k (pickT rfl rfl rfl rfl rfl rfl (k (mv (v := .bool true) rfl rfl (k (gn rfl rfl rfl rfl (k (gn rfl rfl rfl rfl (k (gn rfl rfl rfl rfl (k (gn rfl rfl rfl rfl (k (pickT rfl rfl rfl rfl rfl rfl (z (nx (cdT rfl rfl rfl (sq (rg (k (bd (v := .agg #[.int .i64 0, .slice none 0 0]) rfl pb0 (fun _ => by kernel_rfl) (k (stX H2 0 rfl ty24 rfl rfl rfl rfl rfl rfl rfl ?_))))))))))))))))))))))))))))))))))))))
    intro w2 (H3 : HI M w w2 [box bb1 #[.int .i64 0, .slice none 0 0] 24, box bb0 #[.int .i64 mn, .slice a_mr mr.length c_mr] 24, imm (.slice a_mr mr.length c_mr) mr])
    refine k (asg (v := .int .i64 1) rfl rfl (z (nx (rt (then_ret (rc2 H3 0 rfl ty24 rfl rfl rfl rfl rfl (by decide) ?_))))))
    have e0 : (0 : Int) = setMN mn i j := by first | exact (set_no (rs := mr) (inM_two_no.2 (by omega))).1.symm | exact (set_yes (rs := mr) (inM_two.2 (by omega))).1.symm
    have e1 : ([] : List (List (BitVec 64))) = addMR mn mr i j := by first | exact (add_no (rs := mr) (inM_two_no.2 (by omega))).2.1.symm | exact (add_had hq (by assumption)).symm | exact ad_end rt_m hq (by assumption) hs (by omega)
    have e2 : (1 : Int) = setME mn i j := by first | exact (set_no (rs := mr) (inM_two_no.2 (by omega))).2.2.symm | exact (set_yes (rs := mr) (inM_two.2 (by omega))).2.2.symm
    have ev_ := cg3 (fun (x_0 : Int) (x_1 : List (List (BitVec 64))) (x_2 : Int) => (.tuple #[.agg #[.int .i64 x_0, .slice none x_1.length 0], .int .i64 x_2] : Value)) e0 e1 e2
    exact ⟨none, 0, ev_, H3.below, (congrArg (fun (x_ : List (List (BitVec 64))) => RV _ _ (.slice none x_.length 0) x_) e1).mp (rv_nil _ _)⟩
  · -- decide (i < 0) is False
    have p0 := of_decide_eq_false b0
    refine k (gy rfl rfl rfl b0 (mv rfl i1 (k (gy rfl rfl rfl b0 (fa fl24_0 rfl rfl (k (gy rfl rfl rfl b0 (ldX H2 1 rfl ty3 rfl rfl (by decide) rfl (k (gy rfl rfl rfl b0 (geq rfl rfl rfl rfl (k (pickF rfl rfl rfl rfl b0 rfl (k (mv (v := .bool (decide (mn ≤ i))) rfl rfl ?_)))))))))))))))
    rcases Bool.eq_false_or_eq_true (decide (mn ≤ i)) with b1 | b1
    · -- decide (mn ≤ i) is True
      have p1 := of_decide_eq_true b1
      refine k (gn rfl rfl rfl b1 (k (gn rfl rfl rfl b1 (k (pickT rfl rfl rfl rfl b1 rfl (k (mv (v := .bool true) rfl rfl (k (gn rfl rfl rfl rfl (k (gn rfl rfl rfl rfl (k (gn rfl rfl rfl rfl (k (gn rfl rfl rfl rfl (k (pickT rfl rfl rfl rfl rfl rfl (z (nx (cdT rfl rfl rfl (sq (rg (k (bd (v := .agg #[.int .i64 0, .slice none 0 0]) rfl pb0 (fun _ => by kernel_rfl) (k (stX H2 0 rfl ty24 rfl rfl rfl rfl rfl rfl rfl ?_))))))))))))))))))))))))))
      intro w2 (H3 : HI M w w2 [box bb1 #[.int .i64 0, .slice none 0 0] 24, box bb0 #[.int .i64 mn, .slice a_mr mr.length c_mr] 24, imm (.slice a_mr mr.length c_mr) mr])
      refine k (asg (v := .int .i64 1) rfl rfl (z (nx (rt (then_ret (rc2 H3 0 rfl ty24 rfl rfl rfl rfl rfl (by decide) ?_))))))
      have e0 : (0 : Int) = setMN mn i j := by first | exact (set_no (rs := mr) (inM_two_no.2 (by omega))).1.symm | exact (set_yes (rs := mr) (inM_two.2 (by omega))).1.symm
      have e1 : ([] : List (List (BitVec 64))) = addMR mn mr i j := by first | exact (add_no (rs := mr) (inM_two_no.2 (by omega))).2.1.symm | exact (add_had hq (by assumption)).symm | exact ad_end rt_m hq (by assumption) hs (by omega)
      have e2 : (1 : Int) = setME mn i j := by first | exact (set_no (rs := mr) (inM_two_no.2 (by omega))).2.2.symm | exact (set_yes (rs := mr) (inM_two.2 (by omega))).2.2.symm
      have ev_ := cg3 (fun (x_0 : Int) (x_1 : List (List (BitVec 64))) (x_2 : Int) => (.tuple #[.agg #[.int .i64 x_0, .slice none x_1.length 0], .int .i64 x_2] : Value)) e0 e1 e2
      exact ⟨none, 0, ev_, H3.below, (congrArg (fun (x_ : List (List (BitVec 64))) => RV _ _ (.slice none x_.length 0) x_) e1).mp (rv_nil _ _)⟩
    · -- decide (mn ≤ i) is False
      have p1 := of_decide_eq_false b1
      refine k (gy rfl rfl rfl b1 (mv rfl i2 (k (gy rfl rfl rfl b1 (lss rfl rfl rfl rfl (k (pickF rfl rfl rfl rfl b1 rfl (k (mv (v := .bool (decide (j < 0))) rfl rfl ?_)))))))))
      rcases Bool.eq_false_or_eq_true (decide (j < 0)) with b2 | b2
      · -- decide (j < 0) is True
        have p2 := of_decide_eq_true b2
        refine k (gn rfl rfl rfl b2 (k (gn rfl rfl rfl b2 (k (gn rfl rfl rfl b2 (k (gn rfl rfl rfl b2 (k (pickT rfl rfl rfl rfl b2 rfl (z (nx (cdT rfl rfl rfl (sq (rg (k (bd (v := .agg #[.int .i64 0, .slice none 0 0]) rfl pb0 (fun _ => by kernel_rfl) (k (stX H2 0 rfl ty24 rfl rfl rfl rfl rfl rfl rfl ?_))))))))))))))))))
        intro w2 (H3 : HI M w w2 [box bb1 #[.int .i64 0, .slice none 0 0] 24, box bb0 #[.int .i64 mn, .slice a_mr mr.length c_mr] 24, imm (.slice a_mr mr.length c_mr) mr])
        refine k (asg (v := .int .i64 1) rfl rfl (z (nx (rt (then_ret (rc2 H3 0 rfl ty24 rfl rfl rfl rfl rfl (by decide) ?_))))))
        have e0 : (0 : Int) = setMN mn i j := by first | exact (set_no (rs := mr) (inM_two_no.2 (by omega))).1.symm | exact (set_yes (rs := mr) (inM_two.2 (by omega))).1.symm
        have e1 : ([] : List (List (BitVec 64))) = addMR mn mr i j := by first | exact (add_no (rs := mr) (inM_two_no.2 (by omega))).2.1.symm | exact (add_had hq (by assumption)).symm | exact ad_end rt_m hq (by assumption) hs (by omega)
        have e2 : (1 : Int) = setME mn i j := by first | exact (set_no (rs := mr) (inM_two_no.2 (by omega))).2.2.symm | exact (set_yes (rs := mr) (inM_two.2 (by omega))).2.2.symm
        have ev_ := cg3 (fun (x_0 : Int) (x_1 : List (List (BitVec 64))) (x_2 : Int) => (.tuple #[.agg #[.int .i64 x_0, .slice none x_1.length 0], .int .i64 x_2] : Value)) e0 e1 e2
        exact ⟨none, 0, ev_, H3.below, (congrArg (fun (x_ : List (List (BitVec 64))) => RV _ _ (.slice none x_.length 0) x_) e1).mp (rv_nil _ _)⟩
      · -- decide (j < 0) is False
        have p2 := of_decide_eq_false b2
        refine k (gy rfl rfl rfl b2 (mv rfl i2 (k (gy rfl rfl rfl b2 (fa fl24_0 rfl rfl (k (gy rfl rfl rfl b2 (ldX H2 1 rfl ty3 rfl rfl (by decide) rfl (k (gy rfl rfl rfl b2 (geq rfl rfl rfl rfl (k (pickF rfl rfl rfl rfl b2 rfl (z (nx ?_)))))))))))))))
        refine cd (b := decide (mn ≤ j)) rfl rfl (fun b3 => ?_) (fun b3 => ?_)
        ·
          have p3 := of_decide_eq_true b3
          refine sq (rg (k (bd (v := .agg #[.int .i64 0, .slice none 0 0]) rfl pb0 (fun _ => by kernel_rfl) (k (stX H2 0 rfl ty24 rfl rfl rfl rfl rfl rfl rfl ?_)))))
          intro w2 (H3 : HI M w w2 [box bb1 #[.int .i64 0, .slice none 0 0] 24, box bb0 #[.int .i64 mn, .slice a_mr mr.length c_mr] 24, imm (.slice a_mr mr.length c_mr) mr])
          refine k (asg (v := .int .i64 1) rfl rfl (z (nx (rt (then_ret (rc2 H3 0 rfl ty24 rfl rfl rfl rfl rfl (by decide) ?_))))))
          have e0 : (0 : Int) = setMN mn i j := by first | exact (set_no (rs := mr) (inM_two_no.2 (by omega))).1.symm | exact (set_yes (rs := mr) (inM_two.2 (by omega))).1.symm
          have e1 : ([] : List (List (BitVec 64))) = addMR mn mr i j := by first | exact (add_no (rs := mr) (inM_two_no.2 (by omega))).2.1.symm | exact (add_had hq (by assumption)).symm | exact ad_end rt_m hq (by assumption) hs (by omega)
          have e2 : (1 : Int) = setME mn i j := by first | exact (set_no (rs := mr) (inM_two_no.2 (by omega))).2.2.symm | exact (set_yes (rs := mr) (inM_two.2 (by omega))).2.2.symm
          have ev_ := cg3 (fun (x_0 : Int) (x_1 : List (List (BitVec 64))) (x_2 : Int) => (.tuple #[.agg #[.int .i64 x_0, .slice none x_1.length 0], .int .i64 x_2] : Value)) e0 e1 e2
          exact ⟨none, 0, ev_, H3.below, (congrArg (fun (x_ : List (List (BitVec 64))) => RV _ _ (.slice none x_.length 0) x_) e1).mp (rv_nil _ _)⟩
        ·
          have p3 := of_decide_eq_false b3
          refine sk (nx (sq (sq ?_)))
          have hq : inM mn [i, j] = true := inM_two.2 (by omega)
          refine rg (k (ldX H2 1 rfl ty24 rfl rfl (by decide) rfl (k (mv rfl i1 (k (mv rfl i2 (k ?_)))))))
          have cc0 := mat_Has (mn := mn) (mr := mr) (i := i) (j := j) (w := w1) H2.mb (by unfold I64 at *; omega) (H2.rv 2 rfl) (by unfold I64 at *; omega) (by unfold I64 at *; omega) (by exact (right_sq rt_m).1) (by exact (right_sq rt_m).2.1) (by exact (right_sq rt_m).2.2.1)
          refine ca go19 rfl (ec rfl (ec rfl (ec rfl e0))) cc0 ?_
          rintro _ w2 ⟨rfl, xt2⟩
          have H3 := H2.ext xt2
          refine z (nx ?_)
          refine cd (b := hasM mn mr i j) rfl rfl (fun b4 => ?_) (fun b4 => ?_)
          ·
            refine sq (rg (k (ldX H3 1 rfl ty24 rfl rfl (by decide) rfl (k (stX H3 0 rfl ty24 rfl rfl rfl rfl rfl rfl rfl ?_)))))
            intro w3 (H4 : HI M w w3 [box bb1 #[.int .i64 mn, .slice a_mr mr.length c_mr] 24, box bb0 #[.int .i64 mn, .slice a_mr mr.length c_mr] 24, imm (.slice a_mr mr.length c_mr) mr])
            refine k (asg (v := .int .i64 0) rfl rfl (z (nx (rt (then_ret (rc2 H4 0 rfl ty24 rfl rfl rfl rfl rfl (by decide) ?_))))))
            have e0 : (mn : Int) = setMN mn i j := by first | exact (set_no (rs := mr) (inM_two_no.2 (by omega))).1.symm | exact (set_yes (rs := mr) (inM_two.2 (by omega))).1.symm
            have e1 : (mr : List (List (BitVec 64))) = addMR mn mr i j := by first | exact (add_no (rs := mr) (inM_two_no.2 (by omega))).2.1.symm | exact (add_had hq (by assumption)).symm | exact ad_end rt_m hq (by assumption) hs (by omega)
            have e2 : (0 : Int) = setME mn i j := by first | exact (set_no (rs := mr) (inM_two_no.2 (by omega))).2.2.symm | exact (set_yes (rs := mr) (inM_two.2 (by omega))).2.2.symm
            have ev_ := cg3 (fun (x_0 : Int) (x_1 : List (List (BitVec 64))) (x_2 : Int) => (.tuple #[.agg #[.int .i64 x_0, .slice a_mr x_1.length c_mr], .int .i64 x_2] : Value)) e0 e1 e2
            exact ⟨a_mr, c_mr, ev_, H4.below, (congrArg (fun (x_ : List (List (BitVec 64))) => RV _ _ (.slice a_mr x_.length c_mr) x_) e1).mp (H4.gives_out 2 rfl)⟩
          ·
            refine sk (nx (sq (rg (k (fa fl24_1 rfl rfl (k (ldX H3 1 rfl ty22 rfl rfl (by decide) rfl (k (mv rfl i2 (k (ia (H3.rv 2 rfl) rfl rfl rfl rfl (by first | omega | (simp; omega)) un22 ty73 ?_)))))))))))
            intro ad0 x0 hx0 hA0
            refine k (ldL hA0.w ty73 rfl rfl ?_)
            intro a0 c0 rv0
            have ln0 := rv_len rv0
            have H4 := H3.put (it := imm (.slice a0 x0.length c0) x0) rfl rv0
            refine k (mv rfl i2 (k ?_))
            have cc1 := row_Set (r := x0) (i := j) (w := w2) H4.mb (H4.rv 0 rfl) (by unfold I64 at *; omega) (by first | exact (right_sq rt_m).2.1 _ (List.mem_of_getElem? hx0) | exact (right_sq rt_m).2.1 _ (List.mem_of_getElem? hx1) | exact (right_sq rt_m).2.1 _ (List.mem_of_getElem? hx2) | exact (right_sq rt_m).2.1 _ (List.mem_of_getElem? hx3))
            refine ca go63 rfl (ec rfl (ec rfl e0)) cc1 ?_
            rintro _ w3 ⟨a1, c1, rfl, xt3, rv1⟩
            have H5 := H4.ownsG rv1
            refine k (asg (v := .slice a1 (setR x0 j).length c1) rfl rfl (z (nx (sq (rg (k (ldX H5 3 rfl ty24 rfl rfl (by decide) rfl (k ?_))))))))
            have cc2 := hull_own (mn := mn) (mr := mr) (w := w3) H5.mb (by unfold I64 at *; omega) (H5.rv 4 rfl) (by exact rt_m)
            refine ca go69 rfl (ec rfl e0) cc2 ?_
            rintro _ w4 ⟨a2, c2, ss0, rfl, xt4, rv2⟩
            have H6 := H5.ownsR rv2
            have H7 : HI M w w4 ([own w.heap.size 73 (.slice a2 mn.toNat c2) ss0, own w.heap.size 77 (.slice a1 (setR x0 j).length c1) (setR x0 j), imm (.slice a0 x0.length c0) x0, box bb1 #[.int .i64 0, .slice none 0 0] 24, box bb0 #[.int .i64 mn, .slice a_mr mr.length c_mr] 24, imm (.slice a_mr mr.length c_mr) mr] ++ rowItems w.heap.size 77 ss0 mr) := H6
            have ssl0 := rv2.1
            refine k (al H7 ty24 ?_)
            intro bb2 w5 xt5 (H8 : HI M w w5 ([box bb2 #[.int .i64 0, .slice none 0 0] 24, own w.heap.size 73 (.slice a2 mn.toNat c2) ss0, own w.heap.size 77 (.slice a1 (setR x0 j).length c1) (setR x0 j), imm (.slice a0 x0.length c0) x0, box bb1 #[.int .i64 0, .slice none 0 0] 24, box bb0 #[.int .i64 mn, .slice a_mr mr.length c_mr] 24, imm (.slice a_mr mr.length c_mr) mr] ++ rowItems w.heap.size 77 ss0 mr))
            refine k (stX H8 0 rfl ty24 rfl rfl rfl rfl rfl rfl rfl ?_)
            intro w6 (H9 : HI M w w6 ([box bb2 #[.int .i64 mn, .slice a2 mn.toNat c2] 24, own w.heap.size 73 (.slice a2 mn.toNat c2) ss0, own w.heap.size 77 (.slice a1 (setR x0 j).length c1) (setR x0 j), imm (.slice a0 x0.length c0) x0, box bb1 #[.int .i64 0, .slice none 0 0] 24, box bb0 #[.int .i64 mn, .slice a_mr mr.length c_mr] 24, imm (.slice a_mr mr.length c_mr) mr] ++ rowItems w.heap.size 77 ss0 mr))
            refine z (nx (sq (sq (rg (k (fa fl24_1 rfl rfl (k (ldX H9 0 rfl ty22 rfl rfl (by decide) rfl (k (lnS rfl rfl un22 (k (mv (v := .int .i64 0) rfl rfl (z (nx (bk ?_)))))))))))))))
            refine lp (fun m f w' => ∃ (k_ : Nat) (xs : List (List (BitVec 64))), m = mn.toNat - k_ ∧ f 1 = .int .i64 i ∧ f 3 = .pointer (some ⟨bb0, 0, none⟩) ∧ f 6 = .pointer (some ⟨bb1, 0, none⟩) ∧ f 8 = .slice a1 (setR x0 j).length c1 ∧ f 9 = .pointer (some ⟨bb2, 0, none⟩) ∧ f 46 = .int .i64 (mn.toNat : Int) ∧ f 47 = .int .i64 (k_ : Int) ∧  HI M w w' ([box bb2 #[.int .i64 mn, .slice a2 mn.toNat c2] 24, own w.heap.size 73 (.slice a2 mn.toNat c2) ss0, own w.heap.size 77 (.slice a1 (setR x0 j).length c1) (setR x0 j), imm (.slice a0 x0.length c0) x0, box bb1 #[.int .i64 0, .slice none 0 0] 24, box bb0 #[.int .i64 mn, .slice a_mr mr.length c_mr] 24, imm (.slice a_mr mr.length c_mr) mr] ++ rowItems w.heap.size 77 ss0 xs) ∧ (k_ ≤ mn.toNat) ∧ (ss0.length = xs.length) ∧ (xs = matP mn.toNat (adP (relM mr) i.toNat j.toNat k_)) ∧ (xs.length = mn.toNat)) _ ⟨0, mr, rfl, i1, rfl, rfl, rfl, rfl, rfl, (ieq rfl (by first | rfl | omega | simp)), H9, (by first | assumption | omega | simp | (simp; omega)), (by first | exact ssl0 | exact ssl1 | exact ssl2), (by exact ad_start rt_m), (by omega)⟩ ?_
            rintro _ f0 w7 ⟨k_, xs, rfl, s0, s1, s2, s3, s4, s5, s6, H10, hk, hl, hs, hxl⟩
            refine sq (rg (k (lss rfl rfl s6 s5 (z (nx (sq ?_))))))
            refine cd (b := decide ((k_ : Int) < (mn.toNat : Int))) rfl rfl (fun b5 => ?_) (fun b5 => ?_)
            ·
              have p5 := of_decide_eq_true b5
              refine sk (nx (sq (bk (sq (rg (k (mv rfl s6 (k (asg (v := .int .i64 (k_ : Int)) rfl rfl (z (nx (sq (rg (k (mv (v := .int .i64 (k_ : Int)) rfl rfl (k (mv rfl s0 (k (eql rfl rfl rfl rfl (k (mv (v := .bool (decide ((k_ : Int) = i))) rfl rfl ?_)))))))))))))))))))))
              rcases Bool.eq_false_or_eq_true (decide ((k_ : Int) = i)) with b6 | b6
              · -- decide ((k_ : Int) = i) is True
                have p6 := of_decide_eq_true b6
                refine k (gn rfl rfl rfl b6 (k (gn rfl rfl rfl b6 (k (gn rfl rfl rfl b6 (k (gn rfl rfl rfl b6 (k (gn rfl rfl rfl b6 (k (gn rfl rfl rfl b6 (k (gn rfl rfl rfl b6 (k (pickT rfl rfl rfl rfl b6 rfl (z (nx (cdT rfl rfl rfl (rg (k (fa fl24_1 rfl s4 (k (ldX H10 0 rfl ty22 rfl rfl (by decide) rfl (k (mv (v := .int .i64 (k_ : Int)) rfl rfl (k ?_))))))))))))))))))))))))))
                obtain ⟨a3, x1, c3, hs0, hr0⟩ := row_get (i := (k_ : Int).toNat) H10 (by first | assumption | (simp only [List.length_set]; assumption) | (simp only [List.length_set, List.length_replicate] at *; omega)) (by omega)
                refine iaO (H10.at_ 1 rfl) rfl rfl rfl rfl (by first | omega | (simp; omega)) un22 ty73 ?_
                intro g0 x2 hv0 hx1 hA1
                obtain rfl : (⟨a3, x1.length, c3⟩ : SV) = x2 := Option.some.inj (hs0.symm.trans hx1)
                refine k (ldV hA1 ty73 rfl rfl (k (mv rfl s3 (k ?_))))
                have cc3 := hull_join H10 (row_at (l := [box bb2 #[.int .i64 mn, .slice a2 mn.toNat c2] 24, own w.heap.size 73 (.slice a2 mn.toNat c2) ss0, own w.heap.size 77 (.slice a1 (setR x0 j).length c1) (setR x0 j), imm (.slice a0 x0.length c0) x0, box bb1 #[.int .i64 0, .slice none 0 0] 24, box bb0 #[.int .i64 mn, .slice a_mr mr.length c_mr] 24, imm (.slice a_mr mr.length c_mr) mr]) hs0 hr0) (j := 2) rfl (by rw [ad_len rt_m hs hr0, setR_length, right_row_len rt_m hx0]; exact Nat.le_refl _) (by rw [setR_length]; exact (right_sq rt_m).2.1 _ (List.mem_of_getElem? hx0)) (.inl (by simp only [List.length_cons, List.length_nil]; omega))
                refine ca go70 rfl (ec rfl (ec rfl e0)) cc3 ?_
                rintro _ w8 ⟨rfl, H12⟩
                have H11 := HI.rowPut (M := fun _ => False) (it := imm (.int .i64 0) (0 : Int)) H12 hs0
                have H13 : HI M w w8 ([box bb2 #[.int .i64 mn, .slice a2 mn.toNat c2] 24, own w.heap.size 73 (.slice a2 mn.toNat c2) ss0, own w.heap.size 77 (.slice a1 (setR x0 j).length c1) (setR x0 j), imm (.slice a0 x0.length c0) x0, box bb1 #[.int .i64 0, .slice none 0 0] 24, box bb0 #[.int .i64 mn, .slice a_mr mr.length c_mr] 24, imm (.slice a_mr mr.length c_mr) mr] ++ rowItems w.heap.size 77 ss0 (xs.set ((k_ : Int).toNat) (orR x1 (setR x0 j)))) := H11
                refine z (inb_normal (nx (rg (k (add rfl rfl s6 rfl (by unfold I64 at *; omega) (k (mv (v := .int .i64 ((k_ : Int) + 1)) rfl rfl (z ?_))))))))
                refine loopN _ ?_ ⟨(k_ + 1), (xs.set ((k_ : Int).toNat) (orR x1 (setR x0 j))), rfl, s0, s1, s2, s3, s4, s5, (ieq rfl (by first | rfl | omega | (push_cast; omega))), H13, (by first | assumption | omega | simp | (simp; omega)), (by first | exact hl | (rw [List.length_set]; exact hl)), (by first | exact ad_yes rt_m hq hs hr0 hx0 (.inl (by omega)) | exact ad_yes rt_m hq hs hr0 hx0 (.inr ⟨_, hx1, by assumption⟩) | exact ad_no rt_m hq hs (by omega) hx1 (by assumption)), (by first | exact hxl | (rw [List.length_set]; exact hxl))⟩
                omega
              · -- decide ((k_ : Int) = i) is False
                have p6 := of_decide_eq_false b6
                refine k (gy rfl rfl rfl b6 (fa fl24_1 rfl s1 (k (gy rfl rfl rfl b6 (ldX H10 5 rfl ty22 rfl rfl (by decide) rfl (k (gy rfl rfl rfl b6 (mv (v := .int .i64 (k_ : Int)) rfl rfl (k (gy rfl rfl rfl b6 (ia (H10.rv 6 rfl) rfl rfl rfl rfl (by first | omega | (simp; omega)) un22 ty73 ?_)))))))))))
                intro ad1 x1 hx1 hA1
                refine k (gy rfl rfl rfl b6 (ldL hA1.w ty73 rfl rfl ?_))
                intro a3 c3 rv3
                have ln1 := rv_len rv3
                have H11 := H10.put (it := imm (.slice a3 x1.length c3) x1) rfl rv3
                have H12 : HI M w w7 ([imm (.slice a3 x1.length c3) x1, box bb2 #[.int .i64 mn, .slice a2 mn.toNat c2] 24, own w.heap.size 73 (.slice a2 mn.toNat c2) ss0, own w.heap.size 77 (.slice a1 (setR x0 j).length c1) (setR x0 j), imm (.slice a0 x0.length c0) x0, box bb1 #[.int .i64 0, .slice none 0 0] 24, box bb0 #[.int .i64 mn, .slice a_mr mr.length c_mr] 24, imm (.slice a_mr mr.length c_mr) mr] ++ rowItems w.heap.size 77 ss0 xs) := H11
                refine k (gy rfl rfl rfl b6 (mv rfl s0 (k (gy rfl rfl rfl b6 ?_))))
                have cc3 := row_Has (r := x1) (i := i) (w := w7) H12.mb (H12.rv 0 rfl) (by unfold I64 at *; omega)
                refine ca go67 rfl (ec rfl (ec rfl e0)) cc3 ?_
                rintro _ w8 ⟨rfl, xt6⟩
                have H13 := H12.ext xt6
                refine k (pickF rfl rfl rfl rfl b6 rfl (z (nx ?_)))
                refine cd (b := hasR x1 i) rfl rfl (fun b7 => ?_) (fun b7 => ?_)
                ·
                  refine rg (k (fa fl24_1 rfl s4 (k (ldX H13 1 rfl ty22 rfl rfl (by decide) rfl (k (mv (v := .int .i64 (k_ : Int)) rfl rfl (k ?_)))))))
                  obtain ⟨a4, x2, c4, hs0, hr0⟩ := row_get (i := (k_ : Int).toNat) H13 (by first | assumption | (simp only [List.length_set]; assumption) | (simp only [List.length_set, List.length_replicate] at *; omega)) (by omega)
                  refine iaO (H13.at_ 2 rfl) rfl rfl rfl rfl (by first | omega | (simp; omega)) un22 ty73 ?_
                  intro g0 x3 hv0 hx2 hA2
                  obtain rfl : (⟨a4, x2.length, c4⟩ : SV) = x3 := Option.some.inj (hs0.symm.trans hx2)
                  refine k (ldV hA2 ty73 rfl rfl (k (mv rfl s3 (k ?_))))
                  have cc4 := hull_join H13 (row_at (l := [imm (.slice a3 x1.length c3) x1, box bb2 #[.int .i64 mn, .slice a2 mn.toNat c2] 24, own w.heap.size 73 (.slice a2 mn.toNat c2) ss0, own w.heap.size 77 (.slice a1 (setR x0 j).length c1) (setR x0 j), imm (.slice a0 x0.length c0) x0, box bb1 #[.int .i64 0, .slice none 0 0] 24, box bb0 #[.int .i64 mn, .slice a_mr mr.length c_mr] 24, imm (.slice a_mr mr.length c_mr) mr]) hs0 hr0) (j := 3) rfl (by rw [ad_len rt_m hs hr0, setR_length, right_row_len rt_m hx0]; exact Nat.le_refl _) (by rw [setR_length]; exact (right_sq rt_m).2.1 _ (List.mem_of_getElem? hx0)) (.inl (by simp only [List.length_cons, List.length_nil]; omega))
                  refine ca go70 rfl (ec rfl (ec rfl e0)) cc4 ?_
                  rintro _ w9 ⟨rfl, H15⟩
                  have H14 := HI.rowPut (M := fun _ => False) (it := imm (.int .i64 0) (0 : Int)) H15 hs0
                  have H16 : HI M w w9 ([imm (.slice a3 x1.length c3) x1, box bb2 #[.int .i64 mn, .slice a2 mn.toNat c2] 24, own w.heap.size 73 (.slice a2 mn.toNat c2) ss0, own w.heap.size 77 (.slice a1 (setR x0 j).length c1) (setR x0 j), imm (.slice a0 x0.length c0) x0, box bb1 #[.int .i64 0, .slice none 0 0] 24, box bb0 #[.int .i64 mn, .slice a_mr mr.length c_mr] 24, imm (.slice a_mr mr.length c_mr) mr] ++ rowItems w.heap.size 77 ss0 (xs.set ((k_ : Int).toNat) (orR x2 (setR x0 j)))) := H14
                  refine z (inb_normal (nx (rg (k (add rfl rfl s6 rfl (by unfold I64 at *; omega) (k (mv (v := .int .i64 ((k_ : Int) + 1)) rfl rfl (z ?_))))))))
                  have H17 : HI M w w9 ([box bb2 #[.int .i64 mn, .slice a2 mn.toNat c2] 24, own w.heap.size 73 (.slice a2 mn.toNat c2) ss0, own w.heap.size 77 (.slice a1 (setR x0 j).length c1) (setR x0 j), imm (.slice a0 x0.length c0) x0, box bb1 #[.int .i64 0, .slice none 0 0] 24, box bb0 #[.int .i64 mn, .slice a_mr mr.length c_mr] 24, imm (.slice a_mr mr.length c_mr) mr] ++ rowItems w.heap.size 77 ss0 (xs.set ((k_ : Int).toNat) (orR x2 (setR x0 j)))) := HI.pickT (l := [imm (.slice a3 x1.length c3) x1, box bb2 #[.int .i64 mn, .slice a2 mn.toNat c2] 24, own w.heap.size 73 (.slice a2 mn.toNat c2) ss0, own w.heap.size 77 (.slice a1 (setR x0 j).length c1) (setR x0 j), imm (.slice a0 x0.length c0) x0, box bb1 #[.int .i64 0, .slice none 0 0] 24, box bb0 #[.int .i64 mn, .slice a_mr mr.length c_mr] 24, imm (.slice a_mr mr.length c_mr) mr]) (l' := [box bb2 #[.int .i64 mn, .slice a2 mn.toNat c2] 24, own w.heap.size 73 (.slice a2 mn.toNat c2) ss0, own w.heap.size 77 (.slice a1 (setR x0 j).length c1) (setR x0 j), imm (.slice a0 x0.length c0) x0, box bb1 #[.int .i64 0, .slice none 0 0] 24, box bb0 #[.int .i64 mn, .slice a_mr mr.length c_mr] 24, imm (.slice a_mr mr.length c_mr) mr]) (t := rowItems w.heap.size 77 ss0 (xs.set ((k_ : Int).toNat) (orR x2 (setR x0 j)))) H16 [1, 2, 3, 4, 5, 6, 7] (by decide) rfl rfl
                  refine loopN _ ?_ ⟨(k_ + 1), (xs.set ((k_ : Int).toNat) (orR x2 (setR x0 j))), rfl, s0, s1, s2, s3, s4, s5, (ieq rfl (by first | rfl | omega | (push_cast; omega))), H17, (by first | assumption | omega | simp | (simp; omega)), (by first | exact hl | (rw [List.length_set]; exact hl)), (by first | exact ad_yes rt_m hq hs hr0 hx0 (.inl (by omega)) | exact ad_yes rt_m hq hs hr0 hx0 (.inr ⟨_, hx1, by assumption⟩) | exact ad_no rt_m hq hs (by omega) hx1 (by assumption)), (by first | exact hxl | (rw [List.length_set]; exact hxl))⟩
                  omega
                ·
                  refine sk (inb_normal (nx (rg (k (add rfl rfl s6 rfl (by unfold I64 at *; omega) (k (mv (v := .int .i64 ((k_ : Int) + 1)) rfl rfl (z ?_))))))))
                  have H14 : HI M w w8 ([box bb2 #[.int .i64 mn, .slice a2 mn.toNat c2] 24, own w.heap.size 73 (.slice a2 mn.toNat c2) ss0, own w.heap.size 77 (.slice a1 (setR x0 j).length c1) (setR x0 j), imm (.slice a0 x0.length c0) x0, box bb1 #[.int .i64 0, .slice none 0 0] 24, box bb0 #[.int .i64 mn, .slice a_mr mr.length c_mr] 24, imm (.slice a_mr mr.length c_mr) mr] ++ rowItems w.heap.size 77 ss0 xs) := HI.pickT (l := [imm (.slice a3 x1.length c3) x1, box bb2 #[.int .i64 mn, .slice a2 mn.toNat c2] 24, own w.heap.size 73 (.slice a2 mn.toNat c2) ss0, own w.heap.size 77 (.slice a1 (setR x0 j).length c1) (setR x0 j), imm (.slice a0 x0.length c0) x0, box bb1 #[.int .i64 0, .slice none 0 0] 24, box bb0 #[.int .i64 mn, .slice a_mr mr.length c_mr] 24, imm (.slice a_mr mr.length c_mr) mr]) (l' := [box bb2 #[.int .i64 mn, .slice a2 mn.toNat c2] 24, own w.heap.size 73 (.slice a2 mn.toNat c2) ss0, own w.heap.size 77 (.slice a1 (setR x0 j).length c1) (setR x0 j), imm (.slice a0 x0.length c0) x0, box bb1 #[.int .i64 0, .slice none 0 0] 24, box bb0 #[.int .i64 mn, .slice a_mr mr.length c_mr] 24, imm (.slice a_mr mr.length c_mr) mr]) (t := rowItems w.heap.size 77 ss0 xs) H13 [1, 2, 3, 4, 5, 6, 7] (by decide) rfl rfl
                  refine loopN _ ?_ ⟨(k_ + 1), xs, rfl, s0, s1, s2, s3, s4, s5, (ieq rfl (by first | rfl | omega | (push_cast; omega))), H14, (by first | assumption | omega | simp | (simp; omega)), (by first | exact hl | (rw [List.length_set]; exact hl)), (by first | exact ad_yes rt_m hq hs hr0 hx0 (.inl (by omega)) | exact ad_yes rt_m hq hs hr0 hx0 (.inr ⟨_, hx1, by assumption⟩) | exact ad_no rt_m hq hs (by omega) hx1 (by assumption)), (by first | exact hxl | (rw [List.length_set]; exact hxl))⟩
                  omega
            ·
              have p5 := of_decide_eq_false b5
              refine ex (then_exit (loop_exit (inb_here (nx (sq ?_)))))
              have H11 : HI M w w7 [own w.heap.size 73 (.slice a2 mn.toNat c2) xs, box bb2 #[.int .i64 mn, .slice a2 mn.toNat c2] 24, own w.heap.size 77 (.slice a1 (setR x0 j).length c1) (setR x0 j), imm (.slice a0 x0.length c0) x0, box bb1 #[.int .i64 0, .slice none 0 0] 24, box bb0 #[.int .i64 mn, .slice a_mr mr.length c_mr] 24, imm (.slice a_mr mr.length c_mr) mr] := HI.deep (l := [box bb2 #[.int .i64 mn, .slice a2 mn.toNat c2] 24, own w.heap.size 77 (.slice a1 (setR x0 j).length c1) (setR x0 j), imm (.slice a0 x0.length c0) x0, box bb1 #[.int .i64 0, .slice none 0 0] 24, box bb0 #[.int .i64 mn, .slice a_mr mr.length c_mr] 24, imm (.slice a_mr mr.length c_mr) mr]) (HI.pickT (l := [box bb2 #[.int .i64 mn, .slice a2 mn.toNat c2] 24, own w.heap.size 73 (.slice a2 mn.toNat c2) ss0, own w.heap.size 77 (.slice a1 (setR x0 j).length c1) (setR x0 j), imm (.slice a0 x0.length c0) x0, box bb1 #[.int .i64 0, .slice none 0 0] 24, box bb0 #[.int .i64 mn, .slice a_mr mr.length c_mr] 24, imm (.slice a_mr mr.length c_mr) mr]) (l' := [own w.heap.size 73 (.slice a2 mn.toNat c2) ss0, box bb2 #[.int .i64 mn, .slice a2 mn.toNat c2] 24, own w.heap.size 77 (.slice a1 (setR x0 j).length c1) (setR x0 j), imm (.slice a0 x0.length c0) x0, box bb1 #[.int .i64 0, .slice none 0 0] 24, box bb0 #[.int .i64 mn, .slice a_mr mr.length c_mr] 24, imm (.slice a_mr mr.length c_mr) mr]) (t := rowItems w.heap.size 77 ss0 xs) H10 [1, 0, 2, 3, 4, 5, 6] (by decide) rfl rfl) (by first | assumption | (simp only [List.length_set]; assumption) | (simp only [List.length_set, List.length_replicate] at *; omega))
              refine rg (k (ldX H11 1 rfl ty24 rfl s4 (by decide) rfl (k (stX H11 4 rfl ty24 rfl rfl s2 rfl rfl rfl rfl ?_))))
              intro w8 (H12 : HI M w w8 [own w.heap.size 73 (.slice a2 mn.toNat c2) xs, box bb2 #[.int .i64 mn, .slice a2 mn.toNat c2] 24, own w.heap.size 77 (.slice a1 (setR x0 j).length c1) (setR x0 j), imm (.slice a0 x0.length c0) x0, box bb1 #[.int .i64 mn, .slice a2 mn.toNat c2] 24, box bb0 #[.int .i64 mn, .slice a_mr mr.length c_mr] 24, imm (.slice a_mr mr.length c_mr) mr])
              refine k (asg (v := .int .i64 0) rfl rfl (z (nx (rt (rc2 H12 4 rfl ty24 rfl rfl rfl s2 rfl (by decide) ?_)))))
              have e0 : (mn : Int) = setMN mn i j := by first | exact (set_no (rs := mr) (inM_two_no.2 (by omega))).1.symm | exact (set_yes (rs := mr) (inM_two.2 (by omega))).1.symm
              have e1 : (xs : List (List (BitVec 64))) = addMR mn mr i j := by first | exact (add_no (rs := mr) (inM_two_no.2 (by omega))).2.1.symm | exact (add_had hq (by assumption)).symm | exact ad_end rt_m hq (by assumption) hs (by omega)
              have l1 : mn.toNat = (addMR mn mr i j).length := by first | rfl | (rw [← e1]; omega) | (rw [← e1]; simp) | (rw [← e1])
              have e2 : (0 : Int) = setME mn i j := by first | exact (set_no (rs := mr) (inM_two_no.2 (by omega))).2.2.symm | exact (set_yes (rs := mr) (inM_two.2 (by omega))).2.2.symm
              have ev_ := cg3 (fun (x_0 : Int) (n_1 : Nat) (x_2 : Int) => (.tuple #[.agg #[.int .i64 x_0, .slice a2 n_1 c2], .int .i64 x_2] : Value)) e0 l1 e2
              exact ⟨a2, c2, ev_, H12.below, (congrArg (fun (n_ : Nat) => RV _ _ (.slice a2 n_ c2) (addMR mn mr i j)) l1).mp ((congrArg (fun (x_ : List (List (BitVec 64))) => RV _ _ (.slice a2 mn.toNat c2) x_) e1).mp (H12.outO 0 rfl))⟩
end Go.Proofs.YtmhopljngkgidaaDoor
