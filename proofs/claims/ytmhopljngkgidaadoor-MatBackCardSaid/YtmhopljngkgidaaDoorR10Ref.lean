/- PRINTED by my own tool (wip/tool/gen.py): contracts of Go functions of this seat, each with its proof. -/
import Derived.Test.YtmhopljngkgidaaDoorEngW
import Derived.Test.YtmhopljngkgidaaDoorEwSpecW
import Derived.Test.YtmhopljngkgidaaDoorR10Mt2
import Derived.Test.YtmhopljngkgidaaDoorR10Mat
import Derived.Test.YtmhopljngkgidaaDoorR10Or
import Derived.Test.YtmhopljngkgidaaDoorR10Fns
namespace Go.Proofs.YtmhopljngkgidaaDoor
open Go.Ew Go.RowKit
set_option linter.unusedVariables false
set_option linter.unusedSimpArgs false
attribute [local irreducible] WL WC SO Code.wp wpList retQ Ret
attribute [local irreducible] bitB hasW inR hasR setR countW countR subR words newR listR orR firstW tab8
theorem go73 : GoF Tryd.prog 73 := ⟨_, _, Tryd.func73, rfl, by kernel_rfl⟩
theorem go74 : GoF Tryd.prog 74 := ⟨_, _, Tryd.func74, rfl, by kernel_rfl⟩
theorem go75 : GoF Tryd.prog 75 := ⟨_, _, Tryd.func75, rfl, by kernel_rfl⟩
theorem go26 : GoF Tryd.prog 26 := ⟨_, _, Tryd.func26, rfl, by kernel_rfl⟩
theorem go28 : GoF Tryd.prog 28 := ⟨_, _, Tryd.func28, rfl, by kernel_rfl⟩
theorem go66 : GoF Tryd.prog 66 := ⟨_, _, Tryd.func66, rfl, by kernel_rfl⟩
theorem go72 : GoF Tryd.prog 72 := ⟨_, _, Tryd.func72, rfl, by kernel_rfl⟩
theorem go45 : GoF Tryd.prog 45 := ⟨_, _, Tryd.func45, rfl, by kernel_rfl⟩
/- eyewitness/eyewitnessref03.in -/
set_option maxRecDepth 100000 in
set_option maxHeartbeats 1600000 in
theorem ref03_in {w : World} {mn : Int} {a_mu : Option Addr} {n_mu c_mu : Nat} {i : Int} {j : Int} (h_mn : I64 mn) (h_i : I64 i) (h_j : I64 j) : Calls Tryd.prog 74 #[.agg #[.int .i64 mn, .slice a_mu n_mu c_mu], .int .i64 i, .int .i64 j] w (Ret fun v w' =>  v = .bool (inM mn [i, j]) ∧ Ext w w') := by
  refine enter 25 Tryd.func74 rfl rfl rfl fun f0 ha => ?_
  have H := HI.start (M0 := (fun _ => False)) (w := w) (fun _ h => h.elim)
  have i0 : f0 0 = .agg #[.int .i64 mn, .slice a_mu n_mu c_mu] := ha 0 (by simp)
  have i1 : f0 1 = .int .i64 i := ha 1 (by simp)
  have i2 : f0 2 = .int .i64 j := ha 2 (by simp)
  refine sq (rg (k (bx H rfl i0 ?_)))
  intro bb0 w0 xt0 (H0 : HI (fun _ => False) w w0 [box bb0 #[.int .i64 mn, .slice a_mu n_mu c_mu] 24])
  refine k (asg (v := .bool false) rfl rfl (z (nx (sq (rg (k (mv rfl i1 (k (geq rfl rfl rfl rfl (k (mv (v := .bool (decide (0 ≤ i))) rfl rfl ?_)))))))))))
  rcases Bool.eq_false_or_eq_true (decide (0 ≤ i)) with b0 | b0
  · -- decide (0 ≤ i) is True
    have p0 := of_decide_eq_true b0
    refine k (gy rfl rfl rfl b0 (mv rfl i1 (k (gy rfl rfl rfl b0 (fa fl24_0 rfl rfl (k (gy rfl rfl rfl b0 (ldX H0 0 rfl ty3 rfl rfl (by decide) rfl (k (gy rfl rfl rfl b0 (lss rfl rfl rfl rfl (k (pickT rfl rfl rfl rfl b0 rfl (k (mv (v := .bool (decide (i < mn))) rfl rfl ?_)))))))))))))))
    rcases Bool.eq_false_or_eq_true (decide (i < mn)) with b1 | b1
    · -- decide (i < mn) is True
      have p1 := of_decide_eq_true b1
      refine k (gy rfl rfl rfl b1 (mv rfl i2 (k (gy rfl rfl rfl b1 (geq rfl rfl rfl rfl (k (pickT rfl rfl rfl rfl b1 rfl (k (mv (v := .bool (decide (0 ≤ j))) rfl rfl ?_)))))))))
      rcases Bool.eq_false_or_eq_true (decide (0 ≤ j)) with b2 | b2
      · -- decide (0 ≤ j) is True
        have p2 := of_decide_eq_true b2
        refine k (gy rfl rfl rfl b2 (mv rfl i2 (k (gy rfl rfl rfl b2 (fa fl24_0 rfl rfl (k (gy rfl rfl rfl b2 (ldX H0 0 rfl ty3 rfl rfl (by decide) rfl (k (gy rfl rfl rfl b2 (lss rfl rfl rfl rfl (k (pickT rfl rfl rfl rfl b2 rfl (k (asg (v := .bool (decide (j < mn))) rfl rfl (z (nx (rt (r1 rfl rfl ?_)))))))))))))))))))
        have e0 : (decide (j < mn) : Bool) = inM mn [i, j] := by rw [inM_eq]; simp_all <;> omega
        have ev_ := cg1 (fun (x_0 : Bool) => (.bool x_0 : Value)) e0
        exact ⟨ev_, H0.below⟩
      · -- decide (0 ≤ j) is False
        have p2 := of_decide_eq_false b2
        refine k (gn rfl rfl rfl b2 (k (gn rfl rfl rfl b2 (k (gn rfl rfl rfl b2 (k (gn rfl rfl rfl b2 (k (pickF rfl rfl rfl rfl b2 rfl (k (asg (v := .bool false) rfl rfl (z (nx (rt (r1 rfl rfl ?_)))))))))))))))
        have e0 : (false : Bool) = inM mn [i, j] := by rw [inM_eq]; simp_all <;> omega
        have ev_ := cg1 (fun (x_0 : Bool) => (.bool x_0 : Value)) e0
        exact ⟨ev_, H0.below⟩
    · -- decide (i < mn) is False
      have p1 := of_decide_eq_false b1
      refine k (gn rfl rfl rfl b1 (k (gn rfl rfl rfl b1 (k (pickF rfl rfl rfl rfl b1 rfl (k (mv (v := .bool false) rfl rfl (k (gn rfl rfl rfl rfl (k (gn rfl rfl rfl rfl (k (gn rfl rfl rfl rfl (k (gn rfl rfl rfl rfl (k (pickF rfl rfl rfl rfl rfl rfl (k (asg (v := .bool false) rfl rfl (z (nx (rt (r1 rfl rfl ?_)))))))))))))))))))))))
      have e0 : (false : Bool) = inM mn [i, j] := by rw [inM_eq]; simp_all <;> omega
      have ev_ := cg1 (fun (x_0 : Bool) => (.bool x_0 : Value)) e0
      exact ⟨ev_, H0.below⟩
  · -- decide (0 ≤ i) is False
    have p0 := of_decide_eq_false b0
    refine k (gn rfl rfl rfl b0 (k (gn rfl rfl rfl b0 (k (gn rfl rfl rfl b0 (k (gn rfl rfl rfl b0 (k (pickF rfl rfl rfl rfl b0 rfl (k (mv (v := .bool false) rfl rfl (k (gn rfl rfl rfl rfl (k (gn rfl rfl rfl rfl (k (pickF rfl rfl rfl rfl rfl rfl (k (mv (v := .bool false) rfl rfl (k (gn rfl rfl rfl rfl (k (gn rfl rfl rfl rfl (k (gn rfl rfl rfl rfl (k (gn rfl rfl rfl rfl (k (pickF rfl rfl rfl rfl rfl rfl (k (asg (v := .bool false) rfl rfl (z (nx (rt (r1 rfl rfl ?_)))))))))))))))))))))))))))))))))))
    have e0 : (false : Bool) = inM mn [i, j] := by rw [inM_eq]; simp_all <;> omega
    have ev_ := cg1 (fun (x_0 : Bool) => (.bool x_0 : Value)) e0
    exact ⟨ev_, H0.below⟩
/- eyewitness/eyewitnessref03.New -/
set_option maxRecDepth 100000 in
set_option maxHeartbeats 1600000 in
theorem ref03_New {M : Nat → Prop} {w : World} {n : Int} (hM : ∀ b, M b → b < w.heap.size) (h_n : I64 n) : Calls Tryd.prog 26 #[.int .i64 n] w (Ret fun v w' => ∃ (a0 : Option Addr) (c0 : Nat), v = .tuple #[.agg #[.int .i64 (newMN n), .slice a0 (newMR n).length c0], .int .i64 (newME n)] ∧ Ext w w' ∧ OwnsG M 73 w (newMR n) (.slice a0 (newMR n).length c0) w') := by
  refine enter 28 Tryd.func26 rfl rfl rfl fun f0 ha => ?_
  have H := HI.start (M0 := M) (w := w) hM
  have i0 : f0 0 = .int .i64 n := ha 0 (by simp)
  refine sq (rg (k (al H ty24 ?_)))
  intro bb0 w0 xt0 (H0 : HI M w w0 [box bb0 #[.int .i64 0, .slice none 0 0] 24])
  refine k (asg (v := .int .i64 0) rfl rfl (z (nx (sq (sq (rg (k (mv rfl i0 (k (lss rfl rfl rfl rfl (k (mv (v := .bool (decide (n < 0))) rfl rfl ?_))))))))))))
  rcases Bool.eq_false_or_eq_true (decide (n < 0)) with b0 | b0
  · -- decide (n < 0) is True
    have p0 := of_decide_eq_true b0
    refine k (gn rfl rfl rfl b0 (k (gn rfl rfl rfl b0 (k (pickT rfl rfl rfl rfl b0 rfl (z (nx (cdT rfl rfl rfl (sq (rg (k (bd (v := .agg #[.int .i64 0, .slice none 0 0]) rfl pb0 (fun _ => by kernel_rfl) (k (stX H0 0 rfl ty24 rfl rfl rfl rfl rfl rfl rfl ?_))))))))))))))
    intro w1 (H1 : HI M w w1 [box bb0 #[.int .i64 0, .slice none 0 0] 24])
    refine k (asg (v := .int .i64 1) rfl rfl (z (nx (rt (then_ret (rc2 H1 0 rfl ty24 rfl rfl rfl rfl rfl (by decide) ?_))))))
    have e0 : (0 : Int) = newMN n := by first | exact (newM_no (okN_no.2 (by omega))).1.symm | exact (newM_yes (okN_iff.2 (by omega))).1.symm
    have e1 : ([] : List (List (BitVec 64))) = newMR n := by first | exact (newM_no (okN_no.2 (by omega))).2.1.symm | (rw [(newM_yes (okN_iff.2 (by omega))).2.1, hs, show j = n.toNat from by omega]; rfl)
    have e2 : (1 : Int) = newME n := by first | exact (newM_no (okN_no.2 (by omega))).2.2.symm | exact (newM_yes (okN_iff.2 (by omega))).2.2.symm
    have ev_ := cg3 (fun (x_0 : Int) (x_1 : List (List (BitVec 64))) (x_2 : Int) => (.tuple #[.agg #[.int .i64 x_0, .slice none x_1.length 0], .int .i64 x_2] : Value)) e0 e1 e2
    exact ⟨none, 0, ev_, H1.below, (congrArg (fun (x_ : List (List (BitVec 64))) => OwnsG _ _ _ x_ (.slice none x_.length 0) _) e1).mp (ownsG_nil H1.below)⟩
  · -- decide (n < 0) is False
    have p0 := of_decide_eq_false b0
    refine k (gy rfl rfl rfl b0 (mv rfl i0 (k (gy rfl rfl rfl b0 (gtr rfl rfl rfl rfl (k (pickF rfl rfl rfl rfl b0 rfl (z (nx ?_)))))))))
    refine cd (b := decide (4096 < n)) rfl rfl (fun b1 => ?_) (fun b1 => ?_)
    ·
      have p1 := of_decide_eq_true b1
      refine sq (rg (k (bd (v := .agg #[.int .i64 0, .slice none 0 0]) rfl pb0 (fun _ => by kernel_rfl) (k (stX H0 0 rfl ty24 rfl rfl rfl rfl rfl rfl rfl ?_)))))
      intro w1 (H1 : HI M w w1 [box bb0 #[.int .i64 0, .slice none 0 0] 24])
      refine k (asg (v := .int .i64 1) rfl rfl (z (nx (rt (then_ret (rc2 H1 0 rfl ty24 rfl rfl rfl rfl rfl (by decide) ?_))))))
      have e0 : (0 : Int) = newMN n := by first | exact (newM_no (okN_no.2 (by omega))).1.symm | exact (newM_yes (okN_iff.2 (by omega))).1.symm
      have e1 : ([] : List (List (BitVec 64))) = newMR n := by first | exact (newM_no (okN_no.2 (by omega))).2.1.symm | (rw [(newM_yes (okN_iff.2 (by omega))).2.1, hs, show j = n.toNat from by omega]; rfl)
      have e2 : (1 : Int) = newME n := by first | exact (newM_no (okN_no.2 (by omega))).2.2.symm | exact (newM_yes (okN_iff.2 (by omega))).2.2.symm
      have ev_ := cg3 (fun (x_0 : Int) (x_1 : List (List (BitVec 64))) (x_2 : Int) => (.tuple #[.agg #[.int .i64 x_0, .slice none x_1.length 0], .int .i64 x_2] : Value)) e0 e1 e2
      exact ⟨none, 0, ev_, H1.below, (congrArg (fun (x_ : List (List (BitVec 64))) => OwnsG _ _ _ x_ (.slice none x_.length 0) _) e1).mp (ownsG_nil H1.below)⟩
    ·
      have p1 := of_decide_eq_false b1
      refine sk (nx (sq (rg (k (mv rfl i0 (k (bd (v := .agg #[.int .i64 n, .slice none 0 0]) rfl (pbc rfl pb0) (fun _ => by kernel_rfl) (k (al H0 ty24 ?_)))))))))
      intro bb1 w1 xt1 (H1 : HI M w w1 [box bb1 #[.int .i64 0, .slice none 0 0] 24, box bb0 #[.int .i64 0, .slice none 0 0] 24])
      refine k (stX H1 0 rfl ty24 rfl rfl rfl rfl rfl rfl rfl ?_)
      intro w2 (H2 : HI M w w2 [box bb1 #[.int .i64 n, .slice none 0 0] 24, box bb0 #[.int .i64 0, .slice none 0 0] 24])
      refine z (nx (sq (sq (rg (k (asg (v := .int .i64 0) rfl rfl (z (nx (bk ?_)))))))))
      have H3 := H2.nil_ (List (BitVec 64)) 73
      refine lp (fun m f w' => ∃ (j : Nat) (xs : List (List (BitVec 64))) (a0 : Option Addr) (c0 : Nat), m = n.toNat - j ∧ f 0 = .int .i64 n ∧ f 2 = .pointer (some ⟨bb0, 0, none⟩) ∧ f 4 = .pointer (some ⟨bb1, 0, none⟩) ∧ f 5 = .int .i64 (j : Int) ∧  HI M w w' [own w.heap.size 73 (.slice a0 xs.length c0) xs, box bb1 #[.int .i64 n, .slice a0 xs.length c0] 24, box bb0 #[.int .i64 0, .slice none 0 0] 24] ∧ (j ≤ n.toNat) ∧ (xs = List.replicate j (newR n))) _ ⟨0, ([] : List (List (BitVec 64))), none, 0, rfl, i0, rfl, rfl, (ieq rfl (by first | rfl | omega | simp)), H3, (by first | assumption | omega | simp | (simp; omega)), (by rfl)⟩ ?_
      rintro _ f0 w3 ⟨j, xs, a0, c0, rfl, s0, s1, s2, s3, H4, hk, hs⟩
      refine sq (sq (rg (k (mv rfl s3 (k (mv rfl s0 (k (lss rfl rfl rfl rfl (z (nx ?_))))))))))
      refine cd (b := decide ((j : Int) < n)) rfl rfl (fun b2 => ?_) (fun b2 => ?_)
      ·
        have p2 := of_decide_eq_true b2
        refine sk (nx (sq (bk ?_)))
        refine dr 5 [fun (v : Value) (w' : World) => v = .pointer (some ⟨bb1, 1, none⟩), fun (v : Value) (w' : World) => v = .slice a0 xs.length c0, fun (v : Value) (w' : World) => v = .int .i64 n, fun (v : Value) (w' : World) => ∃ (a1 : Option Addr) (c1 : Nat), v = .slice a1 (newR n).length c1 ∧ RV (MS M [own w.heap.size 73 (.slice a0 xs.length c0) xs, box bb1 #[.int .i64 n, .slice a0 xs.length c0] 24, box bb0 #[.int .i64 0, .slice none 0 0] 24]) w' (.slice a1 (newR n).length c1) (newR n), fun (v : Value) (w' : World) => ∃ (a2 : Option Addr) (c2 : Nat), v = .slice a2 ([newR n] : List (List (BitVec 64))).length c2 ∧ RV (MS M [own w.heap.size 73 (.slice a0 xs.length c0) xs, box bb1 #[.int .i64 n, .slice a0 xs.length c0] 24, box bb0 #[.int .i64 0, .slice none 0 0] 24]) w' (.slice a2 ([newR n] : List (List (BitVec 64))).length c2) ([newR n] : List (List (BitVec 64)))] rfl (by kernel_rfl) ?_ ?_
        ·
          refine ⟨fun _ => ⟨fun f1 w6 hf0 xt4 hp0 => ?_, fun _ _ _ _ h => h⟩, ?_⟩
          ·
            have H9 := H4.ext xt4
            refine fa fl24_1 rfl ((hf0 4 rfl).trans s2) ?_
            exact ⟨_, rfl, Ext.refl _, rfl⟩
          refine ⟨fun _ => ⟨fun f2 w7 hf1 xt5 hp1 => ?_, fun _ _ _ _ h => h⟩, ?_⟩
          ·
            have H10 := H4.ext xt5
            have s4 : f2 20 = .pointer (some ⟨bb1, 1, none⟩) := hp1 0 rfl rfl
            refine ldX H10 1 rfl ty22 rfl s4 (by decide) rfl ?_
            exact ⟨_, rfl, Ext.refl _, rfl⟩
          refine ⟨fun _ => ⟨fun f3 w8 hf2 xt6 hp2 => ?_, fun _ _ _ _ h => h⟩, ?_⟩
          ·
            have H11 := H4.ext xt6
            refine mv rfl ((hf2 0 rfl).trans s0) ?_
            exact ⟨_, rfl, Ext.refl _, rfl⟩
          refine ⟨fun _ => ⟨fun f4 w9 hf3 xt7 hp3 => ?_, by rintro _ _ _ x_ ⟨a1, c1, e_, rv1⟩; exact ⟨a1, c1, e_, rv1.lift (Up.ext x_)⟩⟩, ?_⟩
          ·
            have H12 := H4.ext xt7
            have s5 : f4 22 = .int .i64 n := hp3 2 rfl rfl
            have cc1 := ref02_New (n := n) (w := w9) H12.mb (by unfold I64 at *; omega) (by first | omega | (simp; omega))
            refine ca go73 rfl (ec s5 e0) cc1 ?_
            rintro _ w10 ⟨a3, c3, rfl, xt8, rv3⟩
            have rv4 := OwnsG.rv rv3 H12.mb
            have H13 := H12.ext xt8
            have H14 := H13.put (it := imm (.slice a3 (newR n).length c3) (newR n)) rfl rv4
            exact ⟨_, rfl, xt8, ⟨a3, c3, rfl, rv4⟩⟩
          refine ⟨fun _ => ⟨fun f5 w11 hf4 xt9 hp4 => ?_, by rintro _ _ _ x_ ⟨a2, c2, e_, rv2⟩; exact ⟨a2, c2, e_, rv2.lift (Up.ext x_)⟩⟩, ?_⟩
          ·
            have H15 := H4.ext xt9
            obtain ⟨a4, c4, s6, rv5⟩ : ∃ (a4 : Option Addr) (c4 : Nat), f5 23 = .slice a4 (newR n).length c4 ∧ RV (MS M [own w.heap.size 73 (.slice a0 xs.length c0) xs, box bb1 #[.int .i64 n, .slice a0 xs.length c0] 24, box bb0 #[.int .i64 0, .slice none 0 0] 24]) w11 (.slice a4 (newR n).length c4) (newR n) := hp4 3 rfl rfl
            have H16 := H15.put (it := imm (.slice a4 (newR n).length c4) (newR n)) rfl rv5
            refine bs (xs := ([newR n] : List (List (BitVec 64)))) (cells := #[.slice a4 (newR n).length c4]) (e := 73) H16 rfl (pbc s6 pb0) (fun _ => by kernel_rfl) ⟨[.slice a4 (newR n).length c4], [], rfl, ⟨_, rfl, RV.list.1 (H16.rv 0 rfl)⟩, rfl⟩ rfl (by unfold maxLen; omega) ?_
            intro g1 w12 xt10 (H17 : HI M w w12 [own w.heap.size 73 (.slice (some ⟨g1, 0, none⟩) 1 1) ([newR n] : List (List (BitVec 64))), imm (.slice a4 (newR n).length c4) (newR n), own w.heap.size 73 (.slice a0 xs.length c0) xs, box bb1 #[.int .i64 n, .slice a0 xs.length c0] 24, box bb0 #[.int .i64 0, .slice none 0 0] 24])
            have H18 := H17.freeze 0 rfl
            exact ⟨_, rfl, xt10, ⟨(some ⟨g1, 0, none⟩), 1, rfl, (rv_drop rfl (rv_drop rfl (H18.rv 0 rfl)))⟩⟩
          exact DSteps.rest rfl _
        · intro f6 w13 hf5 xt11 hp5
          have H19 := H4.ext xt11
          have s7 : f6 0 = .int .i64 n := (hf5 0 rfl).trans s0
          have s8 : f6 2 = .pointer (some ⟨bb0, 0, none⟩) := (hf5 2 rfl).trans s1
          have s9 : f6 4 = .pointer (some ⟨bb1, 0, none⟩) := (hf5 4 rfl).trans s2
          have s10 : f6 5 = .int .i64 (j : Int) := (hf5 5 rfl).trans s3
          have s11 : f6 21 = .slice a0 xs.length c0 := hp5 1 rfl
          obtain ⟨a5, c5, s12, rv6⟩ : ∃ (a5 : Option Addr) (c5 : Nat), f6 24 = .slice a5 ([newR n] : List (List (BitVec 64))).length c5 ∧ RV (MS M [own w.heap.size 73 (.slice a0 xs.length c0) xs, box bb1 #[.int .i64 n, .slice a0 xs.length c0] 24, box bb0 #[.int .i64 0, .slice none 0 0] 24]) w13 (.slice a5 ([newR n] : List (List (BitVec 64))).length c5) ([newR n] : List (List (BitVec 64))) := hp5 4 rfl
          have H20 := H19.put (it := imm (.slice a5 ([newR n] : List (List (BitVec 64))).length c5) ([newR n] : List (List (BitVec 64)))) rfl rv6
          refine k (ap H20 1 rfl rfl rfl rfl s11 s12 (H20.rv 0 rfl).src un22 ty73 rfl (by rw [hs]; simp; omega) (by rw [hs]; simp; omega) ?_)
          intro a6 c6 w14 (H21 : HI M w w14 [imm (.slice a5 ([newR n] : List (List (BitVec 64))).length c5) ([newR n] : List (List (BitVec 64))), own w.heap.size 73 (.slice a6 (xs ++ ([newR n] : List (List (BitVec 64)))).length c6) (xs ++ ([newR n] : List (List (BitVec 64)))), box bb1 #[.int .i64 n, .slice a0 xs.length c0] 24, box bb0 #[.int .i64 0, .slice none 0 0] 24])
          refine k (fa fl24_1 rfl s9 (k (stX H21 2 rfl ty22 rfl rfl rfl rfl rfl rfl rfl ?_)))
          intro w15 (H22 : HI M w w15 [imm (.slice a5 ([newR n] : List (List (BitVec 64))).length c5) ([newR n] : List (List (BitVec 64))), own w.heap.size 73 (.slice a6 (xs ++ ([newR n] : List (List (BitVec 64)))).length c6) (xs ++ ([newR n] : List (List (BitVec 64)))), box bb1 #[.int .i64 n, .slice a6 (xs ++ ([newR n] : List (List (BitVec 64)))).length c6] 24, box bb0 #[.int .i64 0, .slice none 0 0] 24])
          refine z (inb_normal (nx (rg (k (mv rfl s10 (k (add rfl rfl rfl rfl (by unfold I64 at *; omega) (k (asg (v := .int .i64 ((j : Int) + 1)) rfl rfl (z ?_))))))))))
          have H23 : HI M w w15 [own w.heap.size 73 (.slice a6 (xs ++ ([newR n] : List (List (BitVec 64)))).length c6) (xs ++ ([newR n] : List (List (BitVec 64)))), box bb1 #[.int .i64 n, .slice a6 (xs ++ ([newR n] : List (List (BitVec 64)))).length c6] 24, box bb0 #[.int .i64 0, .slice none 0 0] 24] := H22.pickN [1, 2, 3] (by decide) rfl
          refine loopN _ ?_ ⟨(j + 1), (xs ++ ([newR n] : List (List (BitVec 64)))), a6, c6, rfl, s7, s8, s9, (ieq rfl (by first | rfl | omega | (push_cast; omega))), H23, (by first | assumption | omega | simp | (simp; omega)), (by rw [hs, List.replicate_succ'])⟩
          omega
      ·
        have p2 := of_decide_eq_false b2
        refine ex (then_exit (loop_exit (inb_here (nx (sq (rg (k (ldX H4 1 rfl ty24 rfl s2 (by decide) rfl (k (stX H4 2 rfl ty24 rfl rfl s1 rfl rfl rfl rfl ?_))))))))))
        intro w4 (H5 : HI M w w4 [own w.heap.size 73 (.slice a0 xs.length c0) xs, box bb1 #[.int .i64 n, .slice a0 xs.length c0] 24, box bb0 #[.int .i64 n, .slice a0 xs.length c0] 24])
        refine k (asg (v := .int .i64 0) rfl rfl (z (nx (rt (rc2 H5 2 rfl ty24 rfl rfl rfl s1 rfl (by decide) ?_)))))
        have e0 : (n : Int) = newMN n := by first | exact (newM_no (okN_no.2 (by omega))).1.symm | exact (newM_yes (okN_iff.2 (by omega))).1.symm
        have e1 : (xs : List (List (BitVec 64))) = newMR n := by first | exact (newM_no (okN_no.2 (by omega))).2.1.symm | (rw [(newM_yes (okN_iff.2 (by omega))).2.1, hs, show j = n.toNat from by omega]; rfl)
        have e2 : (0 : Int) = newME n := by first | exact (newM_no (okN_no.2 (by omega))).2.2.symm | exact (newM_yes (okN_iff.2 (by omega))).2.2.symm
        have ev_ := cg3 (fun (x_0 : Int) (x_1 : List (List (BitVec 64))) (x_2 : Int) => (.tuple #[.agg #[.int .i64 x_0, .slice a0 x_1.length c0], .int .i64 x_2] : Value)) e0 e1 e2
        exact ⟨a0, c0, ev_, H5.below, (congrArg (fun (x_ : List (List (BitVec 64))) => OwnsG _ _ _ x_ (.slice a0 x_.length c0) _) e1).mp (H5.ownsG_out 0 rfl)⟩
/- eyewitness/eyewitnessref03.Set -/
set_option maxRecDepth 100000 in
set_option maxHeartbeats 1600000 in
theorem ref03_Set {M : Nat → Prop} {w : World} {mn : Int} {a_mr : Option Addr} {c_mr : Nat} {mr : List (List (BitVec 64))} {i : Int} {j : Int} (hM : ∀ b, M b → b < w.heap.size) (h_mn : I64 mn) (h_mr : RV M w (.slice a_mr mr.length c_mr) mr) (h_i : I64 i) (h_j : I64 j) (hsq_m : ((mr.length : Nat) : Int) = mn) (hrw_m : ∀ x ∈ mr, x.length ≤ 1000000000) (hl4_m : mn ≤ 4096) : Calls Tryd.prog 28 #[.agg #[.int .i64 mn, .slice a_mr mr.length c_mr], .int .i64 i, .int .i64 j] w (Ret fun v w' => ∃ (a0 : Option Addr) (c0 : Nat), v = .tuple #[.agg #[.int .i64 (setMN mn i j), .slice a0 (setMR mn mr i j).length c0], .int .i64 (setME mn i j)] ∧ Ext w w' ∧ OwnsG M 73 w (setMR mn mr i j) (.slice a0 (setMR mn mr i j).length c0) w') := by
  refine enter 32 Tryd.func28 rfl rfl rfl fun f0 ha => ?_
  have H := HI.start (M0 := M) (w := w) hM
  have H0 := H.put (it := imm (.slice a_mr mr.length c_mr) mr) rfl (by rw [MS_nil]; exact h_mr)
  have ln_mr := rv_len h_mr
  have i0 : f0 0 = .agg #[.int .i64 mn, .slice a_mr mr.length c_mr] := ha 0 (by simp)
  have i1 : f0 1 = .int .i64 i := ha 1 (by simp)
  have i2 : f0 2 = .int .i64 j := ha 2 (by simp)
  refine sq (rg (k (bx H0 rfl i0 ?_)))
  intro bb0 w0 xt0 (H1 : HI M w w0 [box bb0 #[.int .i64 mn, .slice a_mr mr.length c_mr] 24, imm (.slice a_mr mr.length c_mr) mr])
  refine k (al H1 ty24 ?_)
  intro bb1 w1 xt1 (H2 : HI M w w1 [box bb1 #[.int .i64 0, .slice none 0 0] 24, box bb0 #[.int .i64 mn, .slice a_mr mr.length c_mr] 24, imm (.slice a_mr mr.length c_mr) mr])
  refine k (asg (v := .int .i64 0) rfl rfl (z (nx (sq (sq (rg (k (ldX H2 1 rfl ty24 rfl rfl (by decide) rfl (k (mv rfl i1 (k (mv rfl i2 (k ?_)))))))))))))
  have cc0 := ref03_in (mn := mn) (i := i) (j := j) (a_mu := a_mr) (n_mu := mr.length) (c_mu := c_mr) (w := w1) (by unfold I64 at *; omega) (by unfold I64 at *; omega) (by unfold I64 at *; omega)
  refine ca go74 rfl (ec rfl (ec rfl (ec rfl e0))) cc0 ?_
  rintro _ w2 ⟨rfl, xt2⟩
  have H3 := H2.ext xt2
  refine k (not_ rfl rfl (z (nx ?_)))
  refine cd (b := !(inM mn [i, j])) rfl rfl (fun b0 => ?_) (fun b0 => ?_)
  ·
    refine sq ?_
    have hq : inM mn [i, j] = false := by simpa using b0
    refine rg (k (bd (v := .agg #[.int .i64 0, .slice none 0 0]) rfl pb0 (fun _ => by kernel_rfl) (k (stX H3 0 rfl ty24 rfl rfl rfl rfl rfl rfl rfl ?_))))
    intro w3 (H4 : HI M w w3 [box bb1 #[.int .i64 0, .slice none 0 0] 24, box bb0 #[.int .i64 mn, .slice a_mr mr.length c_mr] 24, imm (.slice a_mr mr.length c_mr) mr])
    refine k (asg (v := .int .i64 1) rfl rfl (z (nx (rt (then_ret (rc2 H4 0 rfl ty24 rfl rfl rfl rfl rfl (by decide) ?_))))))
    have e0 : (0 : Int) = setMN mn i j := by first | exact (set_no (rs := mr) hq).1.symm | exact (set_yes (rs := mr) hq).1.symm
    have e1 : ([] : List (List (BitVec 64))) = setMR mn mr i j := by first | exact (set_no (rs := mr) hq).2.1.symm | (rw [(set_yes (rs := mr) hq).2.1]; exact setM_of hx0)
    have e2 : (1 : Int) = setME mn i j := by first | exact (set_no (rs := mr) hq).2.2.symm | exact (set_yes (rs := mr) hq).2.2.symm
    have ev_ := cg3 (fun (x_0 : Int) (x_1 : List (List (BitVec 64))) (x_2 : Int) => (.tuple #[.agg #[.int .i64 x_0, .slice none x_1.length 0], .int .i64 x_2] : Value)) e0 e1 e2
    exact ⟨none, 0, ev_, H4.below, (congrArg (fun (x_ : List (List (BitVec 64))) => OwnsG _ _ _ x_ (.slice none x_.length 0) _) e1).mp (ownsG_nil H4.below)⟩
  ·
    refine sk (nx (sq ?_))
    have hq : inM mn [i, j] = true := by simpa using b0
    have hr := inM_two.1 hq
    refine rg (k (bs (xs := ([] : List (List (BitVec 64)))) (cells := #[]) (e := 73) H3 rfl pb0 (fun _ => by kernel_rfl) rfl rfl (by unfold maxLen; omega) ?_))
    intro g0 w3 xt3 (H4 : HI M w w3 [own w.heap.size 73 (.slice (some ⟨g0, 0, none⟩) 0 0) ([] : List (List (BitVec 64))), box bb1 #[.int .i64 0, .slice none 0 0] 24, box bb0 #[.int .i64 mn, .slice a_mr mr.length c_mr] 24, imm (.slice a_mr mr.length c_mr) mr])
    refine k (fa fl24_1 rfl rfl (k (ldX H4 2 rfl ty22 rfl rfl (by decide) rfl (k (ap H4 0 rfl rfl rfl rfl rfl rfl (H4.rv 3 rfl).src un22 ty73 rfl (by simp; omega) (by simp; omega) ?_)))))
    intro a0 c0 w4 (H5 : HI M w w4 [own w.heap.size 73 (.slice a0 mr.length c0) mr, box bb1 #[.int .i64 0, .slice none 0 0] 24, box bb0 #[.int .i64 mn, .slice a_mr mr.length c_mr] 24, imm (.slice a_mr mr.length c_mr) mr])
    refine k (asg (v := .slice a0 mr.length c0) rfl rfl (z (nx (sq (rg (k (mv (v := .slice a0 mr.length c0) rfl rfl (k (mv rfl i1 (k (mv (v := .slice a0 mr.length c0) rfl rfl (k (mv rfl i1 (k (iaO (H5.at_ 0 rfl) rfl rfl rfl rfl (by first | omega | (simp; omega)) un22 ty73 ?_)))))))))))))))
    intro g1 x0 hv0 hx0 hA0
    refine k (ldL hA0 ty73 rfl rfl ?_)
    intro a1 c1 rv0
    have ln0 := rv_len rv0
    have H6 := H5.put (it := imm (.slice a1 x0.length c1) x0) rfl rv0
    refine k (mv rfl i2 (k ?_))
    have cc1 := ref02_Set (r := x0) (i := j) (w := w4) H6.mb (H6.rv 0 rfl) (by unfold I64 at *; omega) (by exact hrw_m _ (List.mem_of_getElem? hx0))
    refine ca go75 rfl (ec rfl (ec rfl e0)) cc1 ?_
    rintro _ w5 ⟨a2, c2, rfl, xt4, rv1⟩
    have H7 := H6.ownsG rv1
    refine k (iaO (H7.at_ 2 rfl) rfl rfl rfl rfl (by first | omega | (simp; omega)) un22 ty73 ?_)
    intro g2 x1 hv1 hx1 hA1
    refine k ?_
    have H8 := H7.freeze 0 rfl
    refine stO H8 2 rfl hv1 rfl (by first | omega | (simp; omega)) ty73 rfl rfl rfl rfl (H8.rv 0 rfl) ?_
    intro w6 (H9 : HI M w w6 [imm (.slice a2 (setR x0 j).length c2) (setR x0 j), imm (.slice a1 x0.length c1) x0, own w.heap.size 73 (.slice a0 mr.length c0) (mr.set i.toNat (setR x0 j)), box bb1 #[.int .i64 0, .slice none 0 0] 24, box bb0 #[.int .i64 mn, .slice a_mr mr.length c_mr] 24, imm (.slice a_mr mr.length c_mr) mr])
    refine z (nx (sq (rg (k (fa fl24_0 rfl rfl (k (ldX H9 4 rfl ty3 rfl rfl (by decide) rfl (k (mv (v := .slice a0 mr.length c0) rfl rfl (k (bd (v := .agg #[.int .i64 mn, .slice a0 mr.length c0]) rfl (pbc rfl (pbc rfl pb0)) (fun _ => by kernel_rfl) (k (stX H9 3 rfl ty24 rfl rfl rfl rfl rfl rfl rfl ?_)))))))))))))
    intro w7 (H10 : HI M w w7 [imm (.slice a2 (setR x0 j).length c2) (setR x0 j), imm (.slice a1 x0.length c1) x0, own w.heap.size 73 (.slice a0 mr.length c0) (mr.set i.toNat (setR x0 j)), box bb1 #[.int .i64 mn, .slice a0 mr.length c0] 24, box bb0 #[.int .i64 mn, .slice a_mr mr.length c_mr] 24, imm (.slice a_mr mr.length c_mr) mr])
    refine k (asg (v := .int .i64 0) rfl rfl (z (nx (rt (rc2 H10 3 rfl ty24 rfl rfl rfl rfl rfl (by decide) ?_)))))
    have e0 : (mn : Int) = setMN mn i j := by first | exact (set_no (rs := mr) hq).1.symm | exact (set_yes (rs := mr) hq).1.symm
    have e1 : (mr.set i.toNat (setR x0 j) : List (List (BitVec 64))) = setMR mn mr i j := by first | exact (set_no (rs := mr) hq).2.1.symm | (rw [(set_yes (rs := mr) hq).2.1]; exact setM_of hx0)
    have l1 : mr.length = (setMR mn mr i j).length := by rw [← e1]; simp
    have e2 : (0 : Int) = setME mn i j := by first | exact (set_no (rs := mr) hq).2.2.symm | exact (set_yes (rs := mr) hq).2.2.symm
    have ev_ := cg3 (fun (x_0 : Int) (n_1 : Nat) (x_2 : Int) => (.tuple #[.agg #[.int .i64 x_0, .slice a0 n_1 c0], .int .i64 x_2] : Value)) e0 l1 e2
    exact ⟨a0, c0, ev_, H10.below, (congrArg (fun (n_ : Nat) => OwnsG _ _ _ (setMR mn mr i j) (.slice a0 n_ c0) _) l1).mp ((congrArg (fun (x_ : List (List (BitVec 64))) => OwnsG _ _ _ x_ (.slice a0 mr.length c0) _) e1).mp (H10.ownsG_out 2 rfl))⟩
/- eyewitness/eyewitnessref03.Of -/
set_option maxRecDepth 100000 in
set_option maxHeartbeats 1600000 in
theorem ref03_Of {M : Nat → Prop} {w : World} {n : Int} {a_ps : Option Addr} {c_ps : Nat} {ps : List (Int × Int)} (hM : ∀ b, M b → b < w.heap.size) (h_n : I64 n) (h_ps : RV M w (.slice a_ps ps.length c_ps) ps) : Calls Tryd.prog 68 #[.int .i64 n, .slice a_ps ps.length c_ps] w (Ret fun v w' => ∃ (a0 : Option Addr) (c0 : Nat), v = .tuple #[.agg #[.int .i64 (ofMN n ps), .slice a0 (ofMR n ps).length c0], .int .i64 (ofME n ps)] ∧ Ext w w' ∧ RV M w' (.slice a0 (ofMR n ps).length c0) (ofMR n ps)) := by
  refine enter 44 Tryd.func68 rfl rfl rfl fun f0 ha => ?_
  have H := HI.start (M0 := M) (w := w) hM
  have H0 := H.put (it := imm (.slice a_ps ps.length c_ps) ps) rfl (by rw [MS_nil]; exact h_ps)
  have ln_ps := rv_len h_ps
  have i0 : f0 0 = .int .i64 n := ha 0 (by simp)
  have i1 : f0 1 = .slice a_ps ps.length c_ps := ha 1 (by simp)
  refine sq (rg (k (al H0 ty24 ?_)))
  intro bb0 w0 xt0 (H1 : HI M w w0 [box bb0 #[.int .i64 0, .slice none 0 0] 24, imm (.slice a_ps ps.length c_ps) ps])
  refine k (asg (v := .int .i64 0) rfl rfl (z (nx (sq (rg (k (mv rfl i0 (k ?_))))))))
  have cc0 := ref03_New (n := n) (w := w0) H1.mb (by unfold I64 at *; omega)
  refine ca go26 rfl (ec rfl e0) cc0 ?_
  rintro _ w1 ⟨a0, c0, rfl, xt1, rv0⟩
  have H2 := H1.ownsG rv0
  refine k (mv (v := .tuple #[.agg #[.int .i64 (newMN n), .slice a0 (newMR n).length c0], .int .i64 (newME n)]) rfl rfl (k (xt rfl rfl rfl (k (xt rfl rfl rfl (k (al H2 ty24 ?_)))))))
  intro bb1 w2 xt2 (H3 : HI M w w2 [box bb1 #[.int .i64 0, .slice none 0 0] 24, own w.heap.size 73 (.slice a0 (newMR n).length c0) (newMR n), box bb0 #[.int .i64 0, .slice none 0 0] 24, imm (.slice a_ps ps.length c_ps) ps])
  refine k (stX H3 0 rfl ty24 rfl rfl rfl rfl rfl rfl rfl ?_)
  intro w3 (H4 : HI M w w3 [box bb1 #[.int .i64 (newMN n), .slice a0 (newMR n).length c0] 24, own w.heap.size 73 (.slice a0 (newMR n).length c0) (newMR n), box bb0 #[.int .i64 0, .slice none 0 0] 24, imm (.slice a_ps ps.length c_ps) ps])
  refine k (asg (v := .int .i64 (newME n)) rfl rfl (z (nx (sq (sq (rg (k (asg (v := .int .i64 0) rfl rfl (z (nx (bk ?_)))))))))))
  have H5 := H4.freeze 1 rfl
  have H6 := H5.put (it := imm (.slice a0 (newMR n).length c0) (newMR n)) rfl (H5.rv 1 rfl)
  refine lp (fun m f w' => ∃ (j : Nat) (n_ : Int) (rs : List (List (BitVec 64))) (e_ : Int) (a1 : Option Addr) (c1 : Nat), m = ps.length - j ∧ f 1 = .slice a_ps ps.length c_ps ∧ f 4 = .pointer (some ⟨bb0, 0, none⟩) ∧ f 6 = .pointer (some ⟨bb1, 0, none⟩) ∧ f 7 = .int .i64 e_ ∧ f 8 = .int .i64 (j : Int) ∧  HI M w w' [imm (.slice a1 rs.length c1) rs, box bb1 #[.int .i64 n_, .slice a1 rs.length c1] 24, imm (.slice a0 (newMR n).length c0) (newMR n), box bb0 #[.int .i64 0, .slice none 0 0] 24, imm (.slice a_ps ps.length c_ps) ps] ∧ (j ≤ ps.length) ∧ (n_ = ofMN n (ps.take j)) ∧ (rs = ofMR n (ps.take j)) ∧ (e_ = ofME n (ps.take j))) _ ⟨0, (newMN n), (newMR n), (newME n), a0, c0, rfl, i1, rfl, rfl, (ieq rfl (by first | rfl | omega | simp)), (ieq rfl (by first | rfl | omega | simp)), H6, (by first | assumption | omega | simp | (simp; omega)), (by exact (ofM_nil n).1), (by exact (ofM_nil n).2.1), (by exact (ofM_nil n).2.2)⟩ ?_
  rintro _ f0 w4 ⟨j, n_, rs, e_, a1, c1, rfl, s0, s1, s2, s3, s4, H7, hk, h1, h2, h3⟩
  refine sq (sq (rg (k (mv rfl s4 (k (mv rfl s0 (k (lnS rfl rfl un31 (k (lss rfl rfl rfl rfl (k (mv (v := .bool (decide ((j : Int) < (ps.length : Int)))) rfl rfl ?_))))))))))))
  rcases Bool.eq_false_or_eq_true (decide ((j : Int) < (ps.length : Int))) with b0 | b0
  · -- decide ((j : Int) < (ps.length : Int)) is True
    have p0 := of_decide_eq_true b0
    refine k (gy rfl rfl rfl b0 (mv rfl s3 (k (gy rfl rfl rfl b0 (eql rfl rfl rfl rfl (k (pickT rfl rfl rfl rfl b0 rfl (z (nx ?_)))))))))
    refine cd (b := decide (e_ = 0)) rfl rfl (fun b1 => ?_) (fun b1 => ?_)
    ·
      have p1 := of_decide_eq_true b1
      refine sk (nx (sq (bk ?_)))
      have he_ : ofME n (ps.take j) = 0 := by rw [← h3]; omega
      have hq := ofME_zero he_
      have hsq := ofM_sq hq
      have hst := fun {p_} (hx_ : ps[((j : Nat) : Int).toNat]? = some p_) => ofM_step hx_ hq
      obtain ⟨x0, hx0⟩ : ∃ x, ps[(j : Int).toNat]? = some x := ⟨_, List.getElem?_eq_getElem (by first | omega | (simp; omega))⟩
      refine dr3 13 [fun (v : Value) (w' : World) => v = .agg #[.int .i64 n_, .slice a1 rs.length c1], fun (v : Value) (w' : World) => v = .slice a_ps ps.length c_ps, fun (v : Value) (w' : World) => v = .int .i64 (j : Int), fun (v : Value) (w' : World) => ∃ (ad0 : Addr), v = .pointer (some ad0) ∧ At (MS M [imm (.slice a1 rs.length c1) rs, box bb1 #[.int .i64 n_, .slice a1 rs.length c1] 24, imm (.slice a0 (newMR n).length c0) (newMR n), box bb0 #[.int .i64 0, .slice none 0 0] 24, imm (.slice a_ps ps.length c_ps) ps]) w' ad0 x0, fun (v : Value) (w' : World) => ∃ (ad0 : Addr), v = .pointer (some ((ad0).add 0)) ∧ At (MS M [imm (.slice a1 rs.length c1) rs, box bb1 #[.int .i64 n_, .slice a1 rs.length c1] 24, imm (.slice a0 (newMR n).length c0) (newMR n), box bb0 #[.int .i64 0, .slice none 0 0] 24, imm (.slice a_ps ps.length c_ps) ps]) w' ad0 x0, fun (v : Value) (w' : World) => v = .int .i64 x0.1 ∧ I64 (x0.1), fun (v : Value) (w' : World) => v = .slice a_ps ps.length c_ps, fun (v : Value) (w' : World) => v = .int .i64 (j : Int), fun (v : Value) (w' : World) => ∃ (ad1 : Addr), v = .pointer (some ad1) ∧ At (MS M [imm (.slice a1 rs.length c1) rs, box bb1 #[.int .i64 n_, .slice a1 rs.length c1] 24, imm (.slice a0 (newMR n).length c0) (newMR n), box bb0 #[.int .i64 0, .slice none 0 0] 24, imm (.slice a_ps ps.length c_ps) ps]) w' ad1 x0, fun (v : Value) (w' : World) => ∃ (ad1 : Addr), v = .pointer (some ((ad1).add 1)) ∧ At (MS M [imm (.slice a1 rs.length c1) rs, box bb1 #[.int .i64 n_, .slice a1 rs.length c1] 24, imm (.slice a0 (newMR n).length c0) (newMR n), box bb0 #[.int .i64 0, .slice none 0 0] 24, imm (.slice a_ps ps.length c_ps) ps]) w' ad1 x0, fun (v : Value) (w' : World) => v = .int .i64 x0.2 ∧ I64 (x0.2), fun (v : Value) (w' : World) => ∃ (a2 : Option Addr) (c2 : Nat), v = .tuple #[.agg #[.int .i64 (setMN n_ x0.1 x0.2), .slice a2 (setMR n_ rs x0.1 x0.2).length c2], .int .i64 (setME n_ x0.1 x0.2)] ∧ RV (MS M [imm (.slice a1 rs.length c1) rs, box bb1 #[.int .i64 n_, .slice a1 rs.length c1] 24, imm (.slice a0 (newMR n).length c0) (newMR n), box bb0 #[.int .i64 0, .slice none 0 0] 24, imm (.slice a_ps ps.length c_ps) ps]) w' (.slice a2 (setMR n_ rs x0.1 x0.2).length c2) (setMR n_ rs x0.1 x0.2), fun (v : Value) (w' : World) => ∃ (a2 : Option Addr) (c2 : Nat), v = .tuple #[.agg #[.int .i64 (setMN n_ x0.1 x0.2), .slice a2 (setMR n_ rs x0.1 x0.2).length c2], .int .i64 (setME n_ x0.1 x0.2)] ∧ RV (MS M [imm (.slice a1 rs.length c1) rs, box bb1 #[.int .i64 n_, .slice a1 rs.length c1] 24, imm (.slice a0 (newMR n).length c0) (newMR n), box bb0 #[.int .i64 0, .slice none 0 0] 24, imm (.slice a_ps ps.length c_ps) ps]) w' (.slice a2 (setMR n_ rs x0.1 x0.2).length c2) (setMR n_ rs x0.1 x0.2)] rfl (by kernel_rfl) ?_ ?_
      ·
        refine ⟨fun _ => ⟨fun f1 w6 hf0 xt4 hp0 => ?_, fun _ _ _ _ h => h⟩, ?_⟩
        ·
          have H10 := H7.ext xt4
          refine ldX H10 1 rfl ty24 rfl ((hf0 6 rfl).trans s2) (by decide) rfl ?_
          exact ⟨_, rfl, Ext.refl _, rfl⟩
        refine ⟨fun _ => ⟨fun f2 w7 hf1 xt5 hp1 => ?_, fun _ _ _ _ h => h⟩, ?_⟩
        ·
          have H11 := H7.ext xt5
          refine mv rfl ((hf1 1 rfl).trans s0) ?_
          exact ⟨_, rfl, Ext.refl _, rfl⟩
        refine ⟨fun _ => ⟨fun f3 w8 hf2 xt6 hp2 => ?_, fun _ _ _ _ h => h⟩, ?_⟩
        ·
          have H12 := H7.ext xt6
          refine mv rfl ((hf2 8 rfl).trans s4) ?_
          exact ⟨_, rfl, Ext.refl _, rfl⟩
        refine ⟨fun _ => ⟨fun f4 w9 hf3 xt7 hp3 => ?_, by rintro _ _ _ x_ ⟨ad0, e_, hA0⟩; exact ⟨ad0, e_, hA0.lift (Up.ext x_)⟩⟩, ?_⟩
        ·
          have H13 := H7.ext xt7
          have s5 : f4 26 = .slice a_ps ps.length c_ps := hp3 1 rfl rfl
          have s6 : f4 27 = .int .i64 (j : Int) := hp3 2 rfl rfl
          refine ia (H13.rv 4 rfl) rfl rfl s5 s6 (by first | omega | (simp; omega)) un31 ty76 ?_
          intro ad2 x2 hx2 hA2
          obtain rfl : x0 = x2 := Option.some.inj (hx0.symm.trans hx2)
          exact ⟨_, rfl, Ext.refl _, ⟨ad2, rfl, hA2⟩⟩
        refine ⟨fun _ => ⟨fun f5 w10 hf4 xt8 hp4 => ?_, by rintro _ _ _ x_ ⟨ad0, e_, hA0⟩; exact ⟨ad0, e_, hA0.lift (Up.ext x_)⟩⟩, ?_⟩
        ·
          have H14 := H7.ext xt8
          obtain ⟨ad3, s7, hA3⟩ : ∃ (ad3 : Addr), f5 28 = .pointer (some ad3) ∧ At (MS M [imm (.slice a1 rs.length c1) rs, box bb1 #[.int .i64 n_, .slice a1 rs.length c1] 24, imm (.slice a0 (newMR n).length c0) (newMR n), box bb0 #[.int .i64 0, .slice none 0 0] 24, imm (.slice a_ps ps.length c_ps) ps]) w10 ad3 x0 := hp4 3 rfl rfl
          have H15 := H14.put (it := atI ad3 x0) rfl hA3
          refine iaA rfl rfl s7 rfl (by omega) un76 ty3 ?_
          exact ⟨_, rfl, Ext.refl _, ⟨ad3, rfl, (by assumption)⟩⟩
        refine ⟨fun _ => ⟨fun f6 w11 hf5 xt9 hp5 => ?_, fun _ _ _ _ h => h⟩, ?_⟩
        ·
          have H16 := H7.ext xt9
          obtain ⟨ad4, s8, hA4⟩ : ∃ (ad4 : Addr), f6 29 = .pointer (some ((ad4).add 0)) ∧ At (MS M [imm (.slice a1 rs.length c1) rs, box bb1 #[.int .i64 n_, .slice a1 rs.length c1] 24, imm (.slice a0 (newMR n).length c0) (newMR n), box bb0 #[.int .i64 0, .slice none 0 0] 24, imm (.slice a_ps ps.length c_ps) ps]) w11 ad4 x0 := hp5 4 rfl rfl
          have H17 := H16.put (it := atI ad4 x0) rfl hA4
          refine ldI ((H17.atv 0 rfl)).fst.w ty3 rfl s8 ?_
          intro rv5
          exact ⟨_, rfl, Ext.refl _, ⟨rfl, rv5⟩⟩
        refine ⟨fun _ => ⟨fun f7 w12 hf6 xt10 hp6 => ?_, fun _ _ _ _ h => h⟩, ?_⟩
        ·
          have H18 := H7.ext xt10
          refine mv rfl ((hf6 1 rfl).trans s0) ?_
          exact ⟨_, rfl, Ext.refl _, rfl⟩
        refine ⟨fun _ => ⟨fun f8 w13 hf7 xt11 hp7 => ?_, fun _ _ _ _ h => h⟩, ?_⟩
        ·
          have H19 := H7.ext xt11
          refine mv rfl ((hf7 8 rfl).trans s4) ?_
          exact ⟨_, rfl, Ext.refl _, rfl⟩
        refine ⟨fun _ => ⟨fun f9 w14 hf8 xt12 hp8 => ?_, by rintro _ _ _ x_ ⟨ad1, e_, hA1⟩; exact ⟨ad1, e_, hA1.lift (Up.ext x_)⟩⟩, ?_⟩
        ·
          have H20 := H7.ext xt12
          have s9 : f9 31 = .slice a_ps ps.length c_ps := hp8 6 rfl rfl
          have s10 : f9 32 = .int .i64 (j : Int) := hp8 7 rfl rfl
          refine ia (H20.rv 4 rfl) rfl rfl s9 s10 (by first | omega | (simp; omega)) un31 ty76 ?_
          intro ad5 x3 hx3 hA5
          obtain rfl : x0 = x3 := Option.some.inj (hx0.symm.trans hx3)
          exact ⟨_, rfl, Ext.refl _, ⟨ad5, rfl, hA5⟩⟩
        refine ⟨fun _ => ⟨fun f10 w15 hf9 xt13 hp9 => ?_, by rintro _ _ _ x_ ⟨ad1, e_, hA1⟩; exact ⟨ad1, e_, hA1.lift (Up.ext x_)⟩⟩, ?_⟩
        ·
          have H21 := H7.ext xt13
          obtain ⟨ad6, s11, hA6⟩ : ∃ (ad6 : Addr), f10 33 = .pointer (some ad6) ∧ At (MS M [imm (.slice a1 rs.length c1) rs, box bb1 #[.int .i64 n_, .slice a1 rs.length c1] 24, imm (.slice a0 (newMR n).length c0) (newMR n), box bb0 #[.int .i64 0, .slice none 0 0] 24, imm (.slice a_ps ps.length c_ps) ps]) w15 ad6 x0 := hp9 8 rfl rfl
          have H22 := H21.put (it := atI ad6 x0) rfl hA6
          refine iaA rfl rfl s11 rfl (by omega) un76 ty3 ?_
          exact ⟨_, rfl, Ext.refl _, ⟨ad6, rfl, (by assumption)⟩⟩
        refine ⟨fun _ => ⟨fun f11 w16 hf10 xt14 hp10 => ?_, fun _ _ _ _ h => h⟩, ?_⟩
        ·
          have H23 := H7.ext xt14
          obtain ⟨ad7, s12, hA7⟩ : ∃ (ad7 : Addr), f11 34 = .pointer (some ((ad7).add 1)) ∧ At (MS M [imm (.slice a1 rs.length c1) rs, box bb1 #[.int .i64 n_, .slice a1 rs.length c1] 24, imm (.slice a0 (newMR n).length c0) (newMR n), box bb0 #[.int .i64 0, .slice none 0 0] 24, imm (.slice a_ps ps.length c_ps) ps]) w16 ad7 x0 := hp10 9 rfl rfl
          have H24 := H23.put (it := atI ad7 x0) rfl hA7
          refine ldI ((H24.atv 0 rfl)).snd.w ty3 rfl s12 ?_
          intro rv6
          exact ⟨_, rfl, Ext.refl _, ⟨rfl, rv6⟩⟩
        refine ⟨fun _ => ⟨fun f12 w17 hf11 xt15 hp11 => ?_, by rintro _ _ _ x_ ⟨a2, c2, e_, rv4⟩; exact ⟨a2, c2, e_, rv4.lift (Up.ext x_)⟩⟩, ?_⟩
        ·
          have H25 := H7.ext xt15
          have s13 : f12 25 = .agg #[.int .i64 n_, .slice a1 rs.length c1] := hp11 0 rfl rfl
          obtain ⟨s14, rv7⟩ : f12 30 = .int .i64 x0.1 ∧ I64 (x0.1) := hp11 5 rfl rfl
          obtain ⟨s15, rv8⟩ : f12 35 = .int .i64 x0.2 ∧ I64 (x0.2) := hp11 10 rfl rfl
          have cc2 := ref03_Set (mn := n_) (mr := rs) (i := x0.1) (j := x0.2) (w := w17) H25.mb (by rw [h1, (of_yes hq).1]; exact h_n) (H25.rv 0 rfl) (by unfold I64 at *; omega) (by unfold I64 at *; omega) (by rw [h1, h2]; exact hsq.1) (by rw [h2]; exact hsq.2.1) (by rw [h1]; exact hsq.2.2)
          refine ca go28 rfl (ec s13 (ec s14 (ec s15 e0))) cc2 ?_
          rintro _ w18 ⟨a3, c3, rfl, xt16, rv9⟩
          have rv10 := OwnsG.rv rv9 H25.mb
          have H26 := H25.ext xt16
          have H27 := H26.put (it := imm (.slice a3 (setMR n_ rs x0.1 x0.2).length c3) (setMR n_ rs x0.1 x0.2)) rfl rv10
          exact ⟨_, rfl, xt16, ⟨a3, c3, rfl, rv10⟩⟩
        refine ⟨fun _ => ⟨fun f13 w19 hf12 xt17 hp12 => ?_, by rintro _ _ _ x_ ⟨a2, c2, e_, rv4⟩; exact ⟨a2, c2, e_, rv4.lift (Up.ext x_)⟩⟩, ?_⟩
        ·
          have H28 := H7.ext xt17
          obtain ⟨a4, c4, s16, rv11⟩ : ∃ (a4 : Option Addr) (c4 : Nat), f13 36 = .tuple #[.agg #[.int .i64 (setMN n_ x0.1 x0.2), .slice a4 (setMR n_ rs x0.1 x0.2).length c4], .int .i64 (setME n_ x0.1 x0.2)] ∧ RV (MS M [imm (.slice a1 rs.length c1) rs, box bb1 #[.int .i64 n_, .slice a1 rs.length c1] 24, imm (.slice a0 (newMR n).length c0) (newMR n), box bb0 #[.int .i64 0, .slice none 0 0] 24, imm (.slice a_ps ps.length c_ps) ps]) w19 (.slice a4 (setMR n_ rs x0.1 x0.2).length c4) (setMR n_ rs x0.1 x0.2) := hp12 11 rfl rfl
          have H29 := H28.put (it := imm (.slice a4 (setMR n_ rs x0.1 x0.2).length c4) (setMR n_ rs x0.1 x0.2)) rfl rv11
          refine mv rfl s16 ?_
          exact ⟨_, rfl, Ext.refl _, ⟨a4, c4, rfl, rv11⟩⟩
        exact DSteps.rest rfl _
      · intro f14 w20 hf13 xt18 hp13
        have H30 := H7.ext xt18
        have s17 : f14 1 = .slice a_ps ps.length c_ps := (hf13 1 rfl).trans s0
        have s18 : f14 4 = .pointer (some ⟨bb0, 0, none⟩) := (hf13 4 rfl).trans s1
        have s19 : f14 6 = .pointer (some ⟨bb1, 0, none⟩) := (hf13 6 rfl).trans s2
        have s20 : f14 8 = .int .i64 (j : Int) := (hf13 8 rfl).trans s4
        obtain ⟨a5, c5, s21, rv12⟩ : ∃ (a5 : Option Addr) (c5 : Nat), f14 24 = .tuple #[.agg #[.int .i64 (setMN n_ x0.1 x0.2), .slice a5 (setMR n_ rs x0.1 x0.2).length c5], .int .i64 (setME n_ x0.1 x0.2)] ∧ RV (MS M [imm (.slice a1 rs.length c1) rs, box bb1 #[.int .i64 n_, .slice a1 rs.length c1] 24, imm (.slice a0 (newMR n).length c0) (newMR n), box bb0 #[.int .i64 0, .slice none 0 0] 24, imm (.slice a_ps ps.length c_ps) ps]) w20 (.slice a5 (setMR n_ rs x0.1 x0.2).length c5) (setMR n_ rs x0.1 x0.2) := hp13 12 rfl
        have H31 := H30.put (it := imm (.slice a5 (setMR n_ rs x0.1 x0.2).length c5) (setMR n_ rs x0.1 x0.2)) rfl rv12
        show TA _ _ _ _ 4 [true, true, true, true, true, true, true, true, true, true, true, true, true, false, false, false, false] _ _
        refine ta [13, 14] (by kernel_rfl) rfl ⟨⟨_, rfl, ?_⟩, ⟨_, rfl, ?_⟩, trivial⟩
        ·
          refine xt rfl s21 rfl ?_
          refine ta [14, 15] (by kernel_rfl) rfl ⟨⟨_, rfl, ?_⟩, ⟨_, rfl, ?_⟩, trivial⟩
          ·
            refine xt rfl s21 rfl ?_
            refine ta [15] (by kernel_rfl) rfl ⟨⟨_, rfl, ?_⟩, trivial⟩
            ·
              refine stX H31 2 rfl ty24 rfl rfl s19 rfl rfl rfl rfl ?_
              intro w21 (H32 : HI M w w21 [imm (.slice a5 (setMR n_ rs x0.1 x0.2).length c5) (setMR n_ rs x0.1 x0.2), imm (.slice a1 rs.length c1) rs, box bb1 #[.int .i64 (setMN n_ x0.1 x0.2), .slice a5 (setMR n_ rs x0.1 x0.2).length c5] 24, imm (.slice a0 (newMR n).length c0) (newMR n), box bb0 #[.int .i64 0, .slice none 0 0] 24, imm (.slice a_ps ps.length c_ps) ps])
              refine ta [16] (by kernel_rfl) rfl ⟨⟨_, rfl, ?_⟩, trivial⟩
              ·
                refine asg (v := .int .i64 (setME n_ x0.1 x0.2)) rfl rfl (ta0 (by kernel_rfl) (inb_normal (nx (rg (k (mv rfl s20 (k (add rfl rfl rfl rfl (by unfold I64 at *; omega) (k (asg (v := .int .i64 ((j : Int) + 1)) rfl rfl (z ?_)))))))))))
                have H33 := H32.put (it := imm (.slice a5 (setMR n_ rs x0.1 x0.2).length c5) (setMR n_ rs x0.1 x0.2)) rfl (H32.rv 0 rfl)
                have H34 : HI M w w21 [imm (.slice a5 (setMR n_ rs x0.1 x0.2).length c5) (setMR n_ rs x0.1 x0.2), box bb1 #[.int .i64 (setMN n_ x0.1 x0.2), .slice a5 (setMR n_ rs x0.1 x0.2).length c5] 24, imm (.slice a0 (newMR n).length c0) (newMR n), box bb0 #[.int .i64 0, .slice none 0 0] 24, imm (.slice a_ps ps.length c_ps) ps] := H33.pickN [0, 3, 4, 5, 6] (by decide) rfl
                refine loopN _ ?_ ⟨(j + 1), (setMN n_ x0.1 x0.2), (setMR n_ rs x0.1 x0.2), (setME n_ x0.1 x0.2), a5, c5, rfl, s17, s18, s19, (ieq rfl (by first | rfl | omega | (push_cast; omega))), (ieq rfl (by first | rfl | omega | (push_cast; omega))), H34, (by first | assumption | omega | simp | (simp; omega)), (by (try (have e_ := at_is hx1 hx0; subst e_)); rw [h1]; exact (hst hx0).1), (by (try (have e_ := at_is hx1 hx0; subst e_)); rw [h1, h2]; exact (hst hx0).2.1), (by (try (have e_ := at_is hx1 hx0; subst e_)); rw [h1]; exact (hst hx0).2.2)⟩
                omega
          ·
            refine stX H31 2 rfl ty24 rfl rfl s19 rfl rfl rfl rfl ?_
            intro w21 (H32 : HI M w w21 [imm (.slice a5 (setMR n_ rs x0.1 x0.2).length c5) (setMR n_ rs x0.1 x0.2), imm (.slice a1 rs.length c1) rs, box bb1 #[.int .i64 (setMN n_ x0.1 x0.2), .slice a5 (setMR n_ rs x0.1 x0.2).length c5] 24, imm (.slice a0 (newMR n).length c0) (newMR n), box bb0 #[.int .i64 0, .slice none 0 0] 24, imm (.slice a_ps ps.length c_ps) ps])
            refine ta [14] (by kernel_rfl) rfl ⟨⟨_, rfl, ?_⟩, trivial⟩
            ·
              refine xt rfl s21 rfl ?_
              refine ta [16] (by kernel_rfl) rfl ⟨⟨_, rfl, ?_⟩, trivial⟩
              ·
                refine asg (v := .int .i64 (setME n_ x0.1 x0.2)) rfl rfl (ta0 (by kernel_rfl) (inb_normal (nx (rg (k (mv rfl s20 (k (add rfl rfl rfl rfl (by unfold I64 at *; omega) (k (asg (v := .int .i64 ((j : Int) + 1)) rfl rfl (z ?_)))))))))))
                have H33 := H32.put (it := imm (.slice a5 (setMR n_ rs x0.1 x0.2).length c5) (setMR n_ rs x0.1 x0.2)) rfl (H32.rv 0 rfl)
                have H34 : HI M w w21 [imm (.slice a5 (setMR n_ rs x0.1 x0.2).length c5) (setMR n_ rs x0.1 x0.2), box bb1 #[.int .i64 (setMN n_ x0.1 x0.2), .slice a5 (setMR n_ rs x0.1 x0.2).length c5] 24, imm (.slice a0 (newMR n).length c0) (newMR n), box bb0 #[.int .i64 0, .slice none 0 0] 24, imm (.slice a_ps ps.length c_ps) ps] := H33.pickN [0, 3, 4, 5, 6] (by decide) rfl
                refine loopN _ ?_ ⟨(j + 1), (setMN n_ x0.1 x0.2), (setMR n_ rs x0.1 x0.2), (setME n_ x0.1 x0.2), a5, c5, rfl, s17, s18, s19, (ieq rfl (by first | rfl | omega | (push_cast; omega))), (ieq rfl (by first | rfl | omega | (push_cast; omega))), H34, (by first | assumption | omega | simp | (simp; omega)), (by (try (have e_ := at_is hx1 hx0; subst e_)); rw [h1]; exact (hst hx0).1), (by (try (have e_ := at_is hx1 hx0; subst e_)); rw [h1, h2]; exact (hst hx0).2.1), (by (try (have e_ := at_is hx1 hx0; subst e_)); rw [h1]; exact (hst hx0).2.2)⟩
                omega
        ·
          refine xt rfl s21 rfl ?_
          refine ta [13] (by kernel_rfl) rfl ⟨⟨_, rfl, ?_⟩, trivial⟩
          ·
            refine xt rfl s21 rfl ?_
            refine ta [15] (by kernel_rfl) rfl ⟨⟨_, rfl, ?_⟩, trivial⟩
            ·
              refine stX H31 2 rfl ty24 rfl rfl s19 rfl rfl rfl rfl ?_
              intro w21 (H32 : HI M w w21 [imm (.slice a5 (setMR n_ rs x0.1 x0.2).length c5) (setMR n_ rs x0.1 x0.2), imm (.slice a1 rs.length c1) rs, box bb1 #[.int .i64 (setMN n_ x0.1 x0.2), .slice a5 (setMR n_ rs x0.1 x0.2).length c5] 24, imm (.slice a0 (newMR n).length c0) (newMR n), box bb0 #[.int .i64 0, .slice none 0 0] 24, imm (.slice a_ps ps.length c_ps) ps])
              refine ta [16] (by kernel_rfl) rfl ⟨⟨_, rfl, ?_⟩, trivial⟩
              ·
                refine asg (v := .int .i64 (setME n_ x0.1 x0.2)) rfl rfl (ta0 (by kernel_rfl) (inb_normal (nx (rg (k (mv rfl s20 (k (add rfl rfl rfl rfl (by unfold I64 at *; omega) (k (asg (v := .int .i64 ((j : Int) + 1)) rfl rfl (z ?_)))))))))))
                have H33 := H32.put (it := imm (.slice a5 (setMR n_ rs x0.1 x0.2).length c5) (setMR n_ rs x0.1 x0.2)) rfl (H32.rv 0 rfl)
                have H34 : HI M w w21 [imm (.slice a5 (setMR n_ rs x0.1 x0.2).length c5) (setMR n_ rs x0.1 x0.2), box bb1 #[.int .i64 (setMN n_ x0.1 x0.2), .slice a5 (setMR n_ rs x0.1 x0.2).length c5] 24, imm (.slice a0 (newMR n).length c0) (newMR n), box bb0 #[.int .i64 0, .slice none 0 0] 24, imm (.slice a_ps ps.length c_ps) ps] := H33.pickN [0, 3, 4, 5, 6] (by decide) rfl
                refine loopN _ ?_ ⟨(j + 1), (setMN n_ x0.1 x0.2), (setMR n_ rs x0.1 x0.2), (setME n_ x0.1 x0.2), a5, c5, rfl, s17, s18, s19, (ieq rfl (by first | rfl | omega | (push_cast; omega))), (ieq rfl (by first | rfl | omega | (push_cast; omega))), H34, (by first | assumption | omega | simp | (simp; omega)), (by (try (have e_ := at_is hx1 hx0; subst e_)); rw [h1]; exact (hst hx0).1), (by (try (have e_ := at_is hx1 hx0; subst e_)); rw [h1, h2]; exact (hst hx0).2.1), (by (try (have e_ := at_is hx1 hx0; subst e_)); rw [h1]; exact (hst hx0).2.2)⟩
                omega
    ·
      have p1 := of_decide_eq_false b1
      refine ex (then_exit (loop_exit (inb_here (nx (sq (sq (rg (k (mv rfl s3 (k (neq rfl rfl rfl rfl (z (nx (cdT rfl rfl (by rw [show (decide (e_ = 0)) = false from b1]; rfl) (sq (rg (k (bd (v := .agg #[.int .i64 0, .slice none 0 0]) rfl pb0 (fun _ => by kernel_rfl) (k (mv rfl s3 (k (stX H7 3 rfl ty24 rfl rfl s1 rfl rfl rfl rfl ?_))))))))))))))))))))))
      intro w5 (H8 : HI M w w5 [imm (.slice a1 rs.length c1) rs, box bb1 #[.int .i64 n_, .slice a1 rs.length c1] 24, imm (.slice a0 (newMR n).length c0) (newMR n), box bb0 #[.int .i64 0, .slice none 0 0] 24, imm (.slice a_ps ps.length c_ps) ps])
      refine k (asg (v := .int .i64 e_) rfl rfl (z (nx (rt (then_ret (rc2 H8 3 rfl ty24 rfl rfl rfl s1 rfl (by decide) ?_))))))
      have e0 : (0 : Int) = ofMN n ps := by first | (exfalso; omega) | exact (of_no (ofOk_less j (ofME_not (n := n) (by rw [← h3]; omega)))).1.symm | (rw [h1, take_end (by omega)])
      have e1 : ([] : List (List (BitVec 64))) = ofMR n ps := by first | (exfalso; omega) | exact (of_no (ofOk_less j (ofME_not (n := n) (by rw [← h3]; omega)))).2.1.symm | (rw [h2, take_end (by omega)])
      have e2 : (e_ : Int) = ofME n ps := by first | (exfalso; omega) | (rw [(of_no (ofOk_less j (ofME_not (n := n) (by rw [← h3]; omega)))).2.2, h3, (of_no (ofME_not (n := n) (ps := ps.take j) (by rw [← h3]; omega))).2.2]) | exact (of_yes (by have h := ofME_zero (n := n) (ps := ps.take j) (by rw [← h3]; omega); rwa [take_end (by omega)] at h)).2.2.symm
      have ev_ := cg3 (fun (x_0 : Int) (x_1 : List (List (BitVec 64))) (x_2 : Int) => (.tuple #[.agg #[.int .i64 x_0, .slice none x_1.length 0], .int .i64 x_2] : Value)) e0 e1 e2
      exact ⟨none, 0, ev_, H8.below, (congrArg (fun (x_ : List (List (BitVec 64))) => RV _ _ (.slice none x_.length 0) x_) e1).mp (rv_nil _ _)⟩
  · -- decide ((j : Int) < (ps.length : Int)) is False
    have p0 := of_decide_eq_false b0
    refine k (gn rfl rfl rfl b0 (k (gn rfl rfl rfl b0 (k (pickF rfl rfl rfl rfl b0 rfl (z (nx (cdF rfl rfl rfl (ex (then_exit (loop_exit (inb_here (nx (sq (sq (rg (k (mv rfl s3 (k (neq rfl rfl rfl rfl (z (nx ?_))))))))))))))))))))))
    refine cd (b := !decide (e_ = 0)) rfl rfl (fun b1 => ?_) (fun b1 => ?_)
    ·
      have p1 := of_decide_eq_false (nott b1)
      refine sq (rg (k (bd (v := .agg #[.int .i64 0, .slice none 0 0]) rfl pb0 (fun _ => by kernel_rfl) (k (mv rfl s3 (k (stX H7 3 rfl ty24 rfl rfl s1 rfl rfl rfl rfl ?_)))))))
      intro w5 (H8 : HI M w w5 [imm (.slice a1 rs.length c1) rs, box bb1 #[.int .i64 n_, .slice a1 rs.length c1] 24, imm (.slice a0 (newMR n).length c0) (newMR n), box bb0 #[.int .i64 0, .slice none 0 0] 24, imm (.slice a_ps ps.length c_ps) ps])
      refine k (asg (v := .int .i64 e_) rfl rfl (z (nx (rt (then_ret (rc2 H8 3 rfl ty24 rfl rfl rfl s1 rfl (by decide) ?_))))))
      have e0 : (0 : Int) = ofMN n ps := by first | (exfalso; omega) | exact (of_no (ofOk_less j (ofME_not (n := n) (by rw [← h3]; omega)))).1.symm | (rw [h1, take_end (by omega)])
      have e1 : ([] : List (List (BitVec 64))) = ofMR n ps := by first | (exfalso; omega) | exact (of_no (ofOk_less j (ofME_not (n := n) (by rw [← h3]; omega)))).2.1.symm | (rw [h2, take_end (by omega)])
      have e2 : (e_ : Int) = ofME n ps := by first | (exfalso; omega) | (rw [(of_no (ofOk_less j (ofME_not (n := n) (by rw [← h3]; omega)))).2.2, h3, (of_no (ofME_not (n := n) (ps := ps.take j) (by rw [← h3]; omega))).2.2]) | exact (of_yes (by have h := ofME_zero (n := n) (ps := ps.take j) (by rw [← h3]; omega); rwa [take_end (by omega)] at h)).2.2.symm
      have ev_ := cg3 (fun (x_0 : Int) (x_1 : List (List (BitVec 64))) (x_2 : Int) => (.tuple #[.agg #[.int .i64 x_0, .slice none x_1.length 0], .int .i64 x_2] : Value)) e0 e1 e2
      exact ⟨none, 0, ev_, H8.below, (congrArg (fun (x_ : List (List (BitVec 64))) => RV _ _ (.slice none x_.length 0) x_) e1).mp (rv_nil _ _)⟩
    ·
      have p1 := of_decide_eq_true (notf b1)
      refine sk (nx (sq (rg (k (ldX H7 1 rfl ty24 rfl s2 (by decide) rfl (k (stX H7 3 rfl ty24 rfl rfl s1 rfl rfl rfl rfl ?_)))))))
      intro w5 (H8 : HI M w w5 [imm (.slice a1 rs.length c1) rs, box bb1 #[.int .i64 n_, .slice a1 rs.length c1] 24, imm (.slice a0 (newMR n).length c0) (newMR n), box bb0 #[.int .i64 n_, .slice a1 rs.length c1] 24, imm (.slice a_ps ps.length c_ps) ps])
      refine k (asg (v := .int .i64 0) rfl rfl (z (nx (rt (rc2 H8 3 rfl ty24 rfl rfl rfl s1 rfl (by decide) ?_)))))
      have e0 : (n_ : Int) = ofMN n ps := by first | (exfalso; omega) | exact (of_no (ofOk_less j (ofME_not (n := n) (by rw [← h3]; omega)))).1.symm | (rw [h1, take_end (by omega)])
      have e1 : (rs : List (List (BitVec 64))) = ofMR n ps := by first | (exfalso; omega) | exact (of_no (ofOk_less j (ofME_not (n := n) (by rw [← h3]; omega)))).2.1.symm | (rw [h2, take_end (by omega)])
      have e2 : (0 : Int) = ofME n ps := by first | (exfalso; omega) | (rw [(of_no (ofOk_less j (ofME_not (n := n) (by rw [← h3]; omega)))).2.2, h3, (of_no (ofME_not (n := n) (ps := ps.take j) (by rw [← h3]; omega))).2.2]) | exact (of_yes (by have h := ofME_zero (n := n) (ps := ps.take j) (by rw [← h3]; omega); rwa [take_end (by omega)] at h)).2.2.symm
      have ev_ := cg3 (fun (x_0 : Int) (x_1 : List (List (BitVec 64))) (x_2 : Int) => (.tuple #[.agg #[.int .i64 x_0, .slice a1 x_1.length c1], .int .i64 x_2] : Value)) e0 e1 e2
      exact ⟨a1, c1, ev_, H8.below, (congrArg (fun (x_ : List (List (BitVec 64))) => RV _ _ (.slice a1 x_.length c1) x_) e1).mp (H8.gives_out 0 rfl)⟩
/- eyewitness/eyewitnessref03.Has -/
set_option maxRecDepth 100000 in
set_option maxHeartbeats 1600000 in
theorem ref03_Has {M : Nat → Prop} {w : World} {mn : Int} {a_mr : Option Addr} {c_mr : Nat} {mr : List (List (BitVec 64))} {i : Int} {j : Int} (hM : ∀ b, M b → b < w.heap.size) (h_mn : I64 mn) (h_mr : RV M w (.slice a_mr mr.length c_mr) mr) (h_i : I64 i) (h_j : I64 j) (hsq_m : ((mr.length : Nat) : Int) = mn) (hrw_m : ∀ x ∈ mr, x.length ≤ 1000000000) (hl4_m : mn ≤ 4096) : Calls Tryd.prog 45 #[.agg #[.int .i64 mn, .slice a_mr mr.length c_mr], .int .i64 i, .int .i64 j] w (Ret fun v w' =>  v = .bool (hasM mn mr i j) ∧ Ext w w') := by
  refine enter 20 Tryd.func45 rfl rfl rfl fun f0 ha => ?_
  have H := HI.start (M0 := M) (w := w) hM
  have H0 := H.put (it := imm (.slice a_mr mr.length c_mr) mr) rfl (by rw [MS_nil]; exact h_mr)
  have ln_mr := rv_len h_mr
  have i0 : f0 0 = .agg #[.int .i64 mn, .slice a_mr mr.length c_mr] := ha 0 (by simp)
  have i1 : f0 1 = .int .i64 i := ha 1 (by simp)
  have i2 : f0 2 = .int .i64 j := ha 2 (by simp)
  refine sq (rg (k (bx H0 rfl i0 ?_)))
  intro bb0 w0 xt0 (H1 : HI M w w0 [box bb0 #[.int .i64 mn, .slice a_mr mr.length c_mr] 24, imm (.slice a_mr mr.length c_mr) mr])
  refine k (asg (v := .bool false) rfl rfl (z (nx (sq (rg (k (ldX H1 0 rfl ty24 rfl rfl (by decide) rfl (k (mv rfl i1 (k (mv rfl i2 (k ?_))))))))))))
  have cc0 := ref03_in (mn := mn) (i := i) (j := j) (a_mu := a_mr) (n_mu := mr.length) (c_mu := c_mr) (w := w0) (by unfold I64 at *; omega) (by unfold I64 at *; omega) (by unfold I64 at *; omega)
  refine ca go74 rfl (ec rfl (ec rfl (ec rfl e0))) cc0 ?_
  rintro _ w1 ⟨rfl, xt1⟩
  have H2 := H1.ext xt1
  refine k (mv (v := .bool (inM mn [i, j])) rfl rfl ?_)
  rcases Bool.eq_false_or_eq_true (inM mn [i, j]) with b0 | b0
  · -- inM mn [i, j] is True
    refine k (gy rfl rfl rfl b0 (fa fl24_1 rfl rfl (k (gy rfl rfl rfl b0 (ldX H2 0 rfl ty22 rfl rfl (by decide) rfl (k (gy rfl rfl rfl b0 (mv rfl i1 (k (gy rfl rfl rfl b0 (ia (H2.rv 1 rfl) rfl rfl rfl rfl (by have hr := inM_two.1 b0; omega) un22 ty73 ?_)))))))))))
    intro ad0 x0 hx0 hA0
    refine k (gy rfl rfl rfl b0 (ldL hA0.w ty73 rfl rfl ?_))
    intro a0 c0 rv0
    have ln0 := rv_len rv0
    have H3 := H2.put (it := imm (.slice a0 x0.length c0) x0) rfl rv0
    refine k (gy rfl rfl rfl b0 (mv rfl i2 (k (gy rfl rfl rfl b0 ?_))))
    have cc1 := ref02_Has (r := x0) (i := j) (w := w1) H3.mb (H3.rv 0 rfl) (by unfold I64 at *; omega) (by first | omega | exact hrw_m _ (List.mem_of_getElem? hx0))
    refine ca go58 rfl (ec rfl (ec rfl e0)) cc1 ?_
    rintro _ w2 ⟨rfl, xt2⟩
    have H4 := H3.ext xt2
    refine k (pickT rfl rfl rfl rfl b0 rfl (k (asg (v := .bool (hasR x0 j)) rfl rfl (z (nx (rt (r1 rfl rfl ?_)))))))
    have e0 : (hasR x0 j : Bool) = hasM mn mr i j := by unfold hasM; first | (rw [rowAt_of hx0, b0]; rfl) | (rw [b0]; rfl)
    have ev_ := cg1 (fun (x_0 : Bool) => (.bool x_0 : Value)) e0
    exact ⟨ev_, H4.below⟩
  · -- inM mn [i, j] is False
    refine k (gn rfl rfl rfl b0 (k (gn rfl rfl rfl b0 (k (gn rfl rfl rfl b0 (k (gn rfl rfl rfl b0 (k (gn rfl rfl rfl b0 (k (gn rfl rfl rfl b0 (k (gn rfl rfl rfl b0 (k (pickF rfl rfl rfl rfl b0 rfl (k (asg (v := .bool false) rfl rfl (z (nx (rt (r1 rfl rfl ?_)))))))))))))))))))))
    have e0 : (false : Bool) = hasM mn mr i j := by unfold hasM; first | (rw [rowAt_of hx0, b0]; rfl) | (rw [b0]; rfl)
    have ev_ := cg1 (fun (x_0 : Bool) => (.bool x_0 : Value)) e0
    exact ⟨ev_, H2.below⟩
/- eyewitness/eyewitnessref03.Equal -/
set_option maxRecDepth 100000 in
set_option maxHeartbeats 1600000 in
theorem ref03_Equal {M : Nat → Prop} {w : World} {an : Int} {a_ar : Option Addr} {c_ar : Nat} {ar : List (List (BitVec 64))} {bn : Int} {a_br : Option Addr} {c_br : Nat} {br : List (List (BitVec 64))} (hM : ∀ b, M b → b < w.heap.size) (h_an : I64 an) (h_ar : RV M w (.slice a_ar ar.length c_ar) ar) (h_bn : I64 bn) (h_br : RV M w (.slice a_br br.length c_br) br) : Calls Tryd.prog 18 #[.agg #[.int .i64 an, .slice a_ar ar.length c_ar], .agg #[.int .i64 bn, .slice a_br br.length c_br]] w (Ret fun v w' =>  v = .bool (eqM an ar bn br) ∧ Ext w w') := by
  refine enter 39 Tryd.func18 rfl rfl rfl fun f0 ha => ?_
  have H := HI.start (M0 := M) (w := w) hM
  have H0 := H.put (it := imm (.slice a_ar ar.length c_ar) ar) rfl (by rw [MS_nil]; exact h_ar)
  have H1 := H0.put (it := imm (.slice a_br br.length c_br) br) rfl (by rw [MS_cons_none rfl, MS_nil]; exact h_br)
  have ln_ar := rv_len h_ar
  have ln_br := rv_len h_br
  have i0 : f0 0 = .agg #[.int .i64 an, .slice a_ar ar.length c_ar] := ha 0 (by simp)
  have i1 : f0 1 = .agg #[.int .i64 bn, .slice a_br br.length c_br] := ha 1 (by simp)
  refine sq (rg (k (bx H1 rfl i0 ?_)))
  intro bb0 w0 xt0 (H2 : HI M w w0 [box bb0 #[.int .i64 an, .slice a_ar ar.length c_ar] 24, imm (.slice a_br br.length c_br) br, imm (.slice a_ar ar.length c_ar) ar])
  refine k (bx H2 rfl i1 ?_)
  intro bb1 w1 xt1 (H3 : HI M w w1 [box bb1 #[.int .i64 bn, .slice a_br br.length c_br] 24, box bb0 #[.int .i64 an, .slice a_ar ar.length c_ar] 24, imm (.slice a_br br.length c_br) br, imm (.slice a_ar ar.length c_ar) ar])
  refine k (asg (v := .bool false) rfl rfl (z (nx (sq (sq (rg (k (fa fl24_0 rfl rfl (k (ldX H3 1 rfl ty3 rfl rfl (by decide) rfl (k (fa fl24_0 rfl rfl (k (ldX H3 0 rfl ty3 rfl rfl (by decide) rfl (k (neq rfl rfl rfl rfl (k (mv (v := .bool (!decide (an = bn))) rfl rfl ?_))))))))))))))))))
  rcases Bool.eq_false_or_eq_true (!decide (an = bn)) with b0 | b0
  · -- !decide (an = bn) is True
    have p0 := of_decide_eq_false (nott b0)
    refine k (gn rfl rfl rfl b0 (k (gn rfl rfl rfl b0 (k (gn rfl rfl rfl b0 (k (gn rfl rfl rfl b0 (k (gn rfl rfl rfl b0 (k (gn rfl rfl rfl b0 (k (gn rfl rfl rfl b0 (k (pickT rfl rfl rfl rfl b0 rfl (z (nx (cdT rfl rfl rfl (sq (rg (k (asg (v := .bool false) rfl rfl (z (nx (rt (then_ret (r1 rfl rfl ?_)))))))))))))))))))))))))))
    have e0 : (false : Bool) = eqM an ar bn br := by first | exact eqM_no (by rintro ⟨e1, e2⟩; first | omega | (subst e2; omega)) | exact eqM_no (by rintro ⟨e1, e2⟩; exact ne_of_at hx0 hx1 (by first | assumption | simpa using b3) e2) | exact eqM_yes (by omega) (eq_of_take (by omega) hs (by omega))
    have ev_ := cg1 (fun (x_0 : Bool) => (.bool x_0 : Value)) e0
    exact ⟨ev_, H3.below⟩
  · -- !decide (an = bn) is False
    have p0 := of_decide_eq_true (notf b0)
    refine k (gy rfl rfl rfl b0 (fa fl24_1 rfl rfl (k (gy rfl rfl rfl b0 (ldX H3 1 rfl ty22 rfl rfl (by decide) rfl (k (gy rfl rfl rfl b0 (lnS rfl rfl un22 (k (gy rfl rfl rfl b0 (fa fl24_1 rfl rfl (k (gy rfl rfl rfl b0 (ldX H3 0 rfl ty22 rfl rfl (by decide) rfl (k (gy rfl rfl rfl b0 (lnS rfl rfl un22 (k (gy rfl rfl rfl b0 (neq rfl rfl rfl rfl (k (pickF rfl rfl rfl rfl b0 rfl (z (nx ?_))))))))))))))))))))))))
    refine cd (b := !decide ((ar.length : Int) = (br.length : Int))) rfl rfl (fun b1 => ?_) (fun b1 => ?_)
    ·
      have p1 := of_decide_eq_false (nott b1)
      refine sq (rg (k (asg (v := .bool false) rfl rfl (z (nx (rt (then_ret (r1 rfl rfl ?_))))))))
      have e0 : (false : Bool) = eqM an ar bn br := by first | exact eqM_no (by rintro ⟨e1, e2⟩; first | omega | (subst e2; omega)) | exact eqM_no (by rintro ⟨e1, e2⟩; exact ne_of_at hx0 hx1 (by first | assumption | simpa using b3) e2) | exact eqM_yes (by omega) (eq_of_take (by omega) hs (by omega))
      have ev_ := cg1 (fun (x_0 : Bool) => (.bool x_0 : Value)) e0
      exact ⟨ev_, H3.below⟩
    ·
      have p1 := of_decide_eq_true (notf b1)
      refine sk (nx (sq (sq (rg (k (asg (v := .int .i64 0) rfl rfl (z (nx (bk ?_)))))))))
      refine lp (fun m f w' => ∃ (j : Nat), m = ar.length - j ∧ f 2 = .pointer (some ⟨bb0, 0, none⟩) ∧ f 3 = .pointer (some ⟨bb1, 0, none⟩) ∧ f 5 = .int .i64 (j : Int) ∧  HI M w w' [box bb1 #[.int .i64 bn, .slice a_br br.length c_br] 24, box bb0 #[.int .i64 an, .slice a_ar ar.length c_ar] 24, imm (.slice a_br br.length c_br) br, imm (.slice a_ar ar.length c_ar) ar] ∧ (j ≤ ar.length) ∧ (ar.take j = br.take j)) _ ⟨0, rfl, rfl, rfl, (ieq rfl (by first | rfl | omega | simp)), H3, (by first | assumption | omega | simp | (simp; omega)), (by first | assumption | omega | simp | (simp; omega))⟩ ?_
      rintro _ f0 w2 ⟨j, rfl, s0, s1, s2, H4, hk, hs⟩
      refine sq (sq (rg (k (mv rfl s2 (k (fa fl24_1 rfl s0 (k (ldX H4 1 rfl ty22 rfl rfl (by decide) rfl (k (lnS rfl rfl un22 (k (lss rfl rfl rfl rfl (z (nx ?_))))))))))))))
      refine cd (b := decide ((j : Int) < (ar.length : Int))) rfl rfl (fun b2 => ?_) (fun b2 => ?_)
      ·
        have p2 := of_decide_eq_true b2
        refine sk (nx (sq (bk (sq ?_))))
        obtain ⟨x0, hx0⟩ : ∃ x, ar[(j : Int).toNat]? = some x := ⟨_, List.getElem?_eq_getElem (by first | omega | (simp; omega))⟩
        obtain ⟨x1, hx1⟩ : ∃ x, br[(j : Int).toNat]? = some x := ⟨_, List.getElem?_eq_getElem (by first | omega | (simp; omega))⟩
        refine dr 10 [fun (v : Value) (w' : World) => v = .pointer (some ⟨bb0, 1, none⟩), fun (v : Value) (w' : World) => v = .slice a_ar ar.length c_ar, fun (v : Value) (w' : World) => v = .int .i64 (j : Int), fun (v : Value) (w' : World) => ∃ (ad0 : Addr), v = .pointer (some ad0) ∧ At (MS M [box bb1 #[.int .i64 bn, .slice a_br br.length c_br] 24, box bb0 #[.int .i64 an, .slice a_ar ar.length c_ar] 24, imm (.slice a_br br.length c_br) br, imm (.slice a_ar ar.length c_ar) ar]) w' ad0 x0, fun (v : Value) (w' : World) => ∃ (a0 : Option Addr) (c0 : Nat), v = .slice a0 x0.length c0 ∧ RV (MS M [box bb1 #[.int .i64 bn, .slice a_br br.length c_br] 24, box bb0 #[.int .i64 an, .slice a_ar ar.length c_ar] 24, imm (.slice a_br br.length c_br) br, imm (.slice a_ar ar.length c_ar) ar]) w' (.slice a0 x0.length c0) x0, fun (v : Value) (w' : World) => v = .pointer (some ⟨bb1, 1, none⟩), fun (v : Value) (w' : World) => v = .slice a_br br.length c_br, fun (v : Value) (w' : World) => v = .int .i64 (j : Int), fun (v : Value) (w' : World) => ∃ (ad1 : Addr), v = .pointer (some ad1) ∧ At (MS M [box bb1 #[.int .i64 bn, .slice a_br br.length c_br] 24, box bb0 #[.int .i64 an, .slice a_ar ar.length c_ar] 24, imm (.slice a_br br.length c_br) br, imm (.slice a_ar ar.length c_ar) ar]) w' ad1 x1, fun (v : Value) (w' : World) => ∃ (a1 : Option Addr) (c1 : Nat), v = .slice a1 x1.length c1 ∧ RV (MS M [box bb1 #[.int .i64 bn, .slice a_br br.length c_br] 24, box bb0 #[.int .i64 an, .slice a_ar ar.length c_ar] 24, imm (.slice a_br br.length c_br) br, imm (.slice a_ar ar.length c_ar) ar]) w' (.slice a1 x1.length c1) x1] rfl (by kernel_rfl) ?_ ?_
        ·
          refine ⟨fun _ => ⟨fun f1 w3 hf0 xt2 hp0 => ?_, fun _ _ _ _ h => h⟩, ?_⟩
          ·
            have H7 := H4.ext xt2
            refine fa fl24_1 rfl ((hf0 2 rfl).trans s0) ?_
            exact ⟨_, rfl, Ext.refl _, rfl⟩
          refine ⟨fun _ => ⟨fun f2 w4 hf1 xt3 hp1 => ?_, fun _ _ _ _ h => h⟩, ?_⟩
          ·
            have H8 := H4.ext xt3
            have s3 : f2 27 = .pointer (some ⟨bb0, 1, none⟩) := hp1 0 rfl rfl
            refine ldX H8 1 rfl ty22 rfl s3 (by decide) rfl ?_
            exact ⟨_, rfl, Ext.refl _, rfl⟩
          refine ⟨fun _ => ⟨fun f3 w5 hf2 xt4 hp2 => ?_, fun _ _ _ _ h => h⟩, ?_⟩
          ·
            have H9 := H4.ext xt4
            refine mv rfl ((hf2 5 rfl).trans s2) ?_
            exact ⟨_, rfl, Ext.refl _, rfl⟩
          refine ⟨fun _ => ⟨fun f4 w6 hf3 xt5 hp3 => ?_, by rintro _ _ _ x_ ⟨ad0, e_, hA0⟩; exact ⟨ad0, e_, hA0.lift (Up.ext x_)⟩⟩, ?_⟩
          ·
            have H10 := H4.ext xt5
            have s4 : f4 28 = .slice a_ar ar.length c_ar := hp3 1 rfl rfl
            have s5 : f4 29 = .int .i64 (j : Int) := hp3 2 rfl rfl
            refine ia (H10.rv 3 rfl) rfl rfl s4 s5 (by first | omega | (simp; omega)) un22 ty73 ?_
            intro ad2 x2 hx2 hA2
            obtain rfl : x0 = x2 := Option.some.inj (hx0.symm.trans hx2)
            exact ⟨_, rfl, Ext.refl _, ⟨ad2, rfl, hA2⟩⟩
          refine ⟨fun _ => ⟨fun f5 w7 hf4 xt6 hp4 => ?_, by rintro _ _ _ x_ ⟨a0, c0, e_, rv0⟩; exact ⟨a0, c0, e_, rv0.lift (Up.ext x_)⟩⟩, ?_⟩
          ·
            have H11 := H4.ext xt6
            obtain ⟨ad3, s6, hA3⟩ : ∃ (ad3 : Addr), f5 30 = .pointer (some ad3) ∧ At (MS M [box bb1 #[.int .i64 bn, .slice a_br br.length c_br] 24, box bb0 #[.int .i64 an, .slice a_ar ar.length c_ar] 24, imm (.slice a_br br.length c_br) br, imm (.slice a_ar ar.length c_ar) ar]) w7 ad3 x0 := hp4 3 rfl rfl
            have H12 := H11.put (it := atI ad3 x0) rfl hA3
            refine ldL (H12.atv 0 rfl).w ty73 rfl s6 ?_
            intro a2 c2 rv2
            have ln2 := rv_len rv2
            have H13 := H12.put (it := imm (.slice a2 x0.length c2) x0) rfl rv2
            exact ⟨_, rfl, Ext.refl _, ⟨a2, c2, rfl, (rv_drop rfl rv2)⟩⟩
          refine ⟨fun _ => ⟨fun f6 w8 hf5 xt7 hp5 => ?_, fun _ _ _ _ h => h⟩, ?_⟩
          ·
            have H14 := H4.ext xt7
            refine fa fl24_1 rfl ((hf5 3 rfl).trans s1) ?_
            exact ⟨_, rfl, Ext.refl _, rfl⟩
          refine ⟨fun _ => ⟨fun f7 w9 hf6 xt8 hp6 => ?_, fun _ _ _ _ h => h⟩, ?_⟩
          ·
            have H15 := H4.ext xt8
            have s7 : f7 32 = .pointer (some ⟨bb1, 1, none⟩) := hp6 5 rfl rfl
            refine ldX H15 0 rfl ty22 rfl s7 (by decide) rfl ?_
            exact ⟨_, rfl, Ext.refl _, rfl⟩
          refine ⟨fun _ => ⟨fun f8 w10 hf7 xt9 hp7 => ?_, fun _ _ _ _ h => h⟩, ?_⟩
          ·
            have H16 := H4.ext xt9
            refine mv rfl ((hf7 5 rfl).trans s2) ?_
            exact ⟨_, rfl, Ext.refl _, rfl⟩
          refine ⟨fun _ => ⟨fun f9 w11 hf8 xt10 hp8 => ?_, by rintro _ _ _ x_ ⟨ad1, e_, hA1⟩; exact ⟨ad1, e_, hA1.lift (Up.ext x_)⟩⟩, ?_⟩
          ·
            have H17 := H4.ext xt10
            have s8 : f9 33 = .slice a_br br.length c_br := hp8 6 rfl rfl
            have s9 : f9 34 = .int .i64 (j : Int) := hp8 7 rfl rfl
            refine ia (H17.rv 2 rfl) rfl rfl s8 s9 (by first | omega | (simp; omega)) un22 ty73 ?_
            intro ad4 x3 hx3 hA4
            obtain rfl : x1 = x3 := Option.some.inj (hx1.symm.trans hx3)
            exact ⟨_, rfl, Ext.refl _, ⟨ad4, rfl, hA4⟩⟩
          refine ⟨fun _ => ⟨fun f10 w12 hf9 xt11 hp9 => ?_, by rintro _ _ _ x_ ⟨a1, c1, e_, rv1⟩; exact ⟨a1, c1, e_, rv1.lift (Up.ext x_)⟩⟩, ?_⟩
          ·
            have H18 := H4.ext xt11
            obtain ⟨ad5, s10, hA5⟩ : ∃ (ad5 : Addr), f10 35 = .pointer (some ad5) ∧ At (MS M [box bb1 #[.int .i64 bn, .slice a_br br.length c_br] 24, box bb0 #[.int .i64 an, .slice a_ar ar.length c_ar] 24, imm (.slice a_br br.length c_br) br, imm (.slice a_ar ar.length c_ar) ar]) w12 ad5 x1 := hp9 8 rfl rfl
            have H19 := H18.put (it := atI ad5 x1) rfl hA5
            refine ldL (H19.atv 0 rfl).w ty73 rfl s10 ?_
            intro a3 c3 rv3
            have ln3 := rv_len rv3
            have H20 := H19.put (it := imm (.slice a3 x1.length c3) x1) rfl rv3
            exact ⟨_, rfl, Ext.refl _, ⟨a3, c3, rfl, (rv_drop rfl rv3)⟩⟩
          exact DSteps.rest rfl _
        · intro f11 w13 hf10 xt12 hp10
          have H21 := H4.ext xt12
          have s11 : f11 2 = .pointer (some ⟨bb0, 0, none⟩) := (hf10 2 rfl).trans s0
          have s12 : f11 3 = .pointer (some ⟨bb1, 0, none⟩) := (hf10 3 rfl).trans s1
          have s13 : f11 5 = .int .i64 (j : Int) := (hf10 5 rfl).trans s2
          obtain ⟨a4, c4, s14, rv4⟩ : ∃ (a4 : Option Addr) (c4 : Nat), f11 31 = .slice a4 x0.length c4 ∧ RV (MS M [box bb1 #[.int .i64 bn, .slice a_br br.length c_br] 24, box bb0 #[.int .i64 an, .slice a_ar ar.length c_ar] 24, imm (.slice a_br br.length c_br) br, imm (.slice a_ar ar.length c_ar) ar]) w13 (.slice a4 x0.length c4) x0 := hp10 4 rfl
          have H22 := H21.put (it := imm (.slice a4 x0.length c4) x0) rfl rv4
          obtain ⟨a5, c5, s15, rv5⟩ : ∃ (a5 : Option Addr) (c5 : Nat), f11 36 = .slice a5 x1.length c5 ∧ RV (MS M [box bb1 #[.int .i64 bn, .slice a_br br.length c_br] 24, box bb0 #[.int .i64 an, .slice a_ar ar.length c_ar] 24, imm (.slice a_br br.length c_br) br, imm (.slice a_ar ar.length c_ar) ar]) w13 (.slice a5 x1.length c5) x1 := hp10 9 rfl
          have H23 := H22.put (it := imm (.slice a5 x1.length c5) x1) rfl (by rw [MS_cons_none rfl]; exact rv5)
          refine k ?_
          have cc0 := ref02_Same (a := x0) (b := x1) (w := w13) H23.mb (H23.rv 1 rfl) (H23.rv 0 rfl)
          refine ca go66 rfl (ec s14 (ec s15 e0)) cc0 ?_
          rintro _ w14 ⟨rfl, xt13⟩
          have H24 := H23.ext xt13
          refine k (not_ rfl rfl (z (nx ?_)))
          refine cd (b := !(decide (x0 = x1))) rfl rfl (fun b3 => ?_) (fun b3 => ?_)
          ·
            have p3 := of_decide_eq_false (nott b3)
            refine sq (rg (k (asg (v := .bool false) rfl rfl (z (nx (rt (inb_ret (then_ret (loop_ret (inb_ret (then_ret (r1 rfl rfl ?_))))))))))))
            have e0 : (false : Bool) = eqM an ar bn br := by first | exact eqM_no (by rintro ⟨e1, e2⟩; first | omega | (subst e2; omega)) | exact eqM_no (by rintro ⟨e1, e2⟩; exact ne_of_at hx0 hx1 (by first | assumption | simpa using b3) e2) | exact eqM_yes (by omega) (eq_of_take (by omega) hs (by omega))
            have ev_ := cg1 (fun (x_0 : Bool) => (.bool x_0 : Value)) e0
            exact ⟨ev_, H24.below⟩
          ·
            have p3 := of_decide_eq_true (notf b3)
            refine sk (inb_normal (nx (rg (k (mv rfl s13 (k (add rfl rfl rfl rfl (by unfold I64 at *; omega) (k (asg (v := .int .i64 ((j : Int) + 1)) rfl rfl (z ?_))))))))))
            have H25 : HI M w w14 [box bb1 #[.int .i64 bn, .slice a_br br.length c_br] 24, box bb0 #[.int .i64 an, .slice a_ar ar.length c_ar] 24, imm (.slice a_br br.length c_br) br, imm (.slice a_ar ar.length c_ar) ar] := H24.pickN [2, 3, 4, 5] (by decide) rfl
            refine loopN _ ?_ ⟨(j + 1), rfl, s11, s12, (ieq rfl (by first | rfl | omega | (push_cast; omega))), H25, (by first | assumption | omega | simp | (simp; omega)), (by exact take_eq_step hs hx0 hx1 (by first | assumption | simpa using b3))⟩
            omega
      ·
        have p2 := of_decide_eq_false b2
        refine ex (then_exit (loop_exit (inb_here (nx (sq (rg (k (asg (v := .bool true) rfl rfl (z (nx (rt (r1 rfl rfl ?_))))))))))))
        have e0 : (true : Bool) = eqM an ar bn br := by first | exact eqM_no (by rintro ⟨e1, e2⟩; first | omega | (subst e2; omega)) | exact eqM_no (by rintro ⟨e1, e2⟩; exact ne_of_at hx0 hx1 (by first | assumption | simpa using b3) e2) | exact eqM_yes (by omega) (eq_of_take (by omega) hs (by omega))
        have ev_ := cg1 (fun (x_0 : Bool) => (.bool x_0 : Value)) e0
        exact ⟨ev_, H4.below⟩
/- eyewitness/eyewitnessref03.Right -/
set_option maxRecDepth 100000 in
set_option maxHeartbeats 1600000 in
theorem ref03_Right {M : Nat → Prop} {w : World} {mn : Int} {a_mr : Option Addr} {c_mr : Nat} {mr : List (List (BitVec 64))} (hM : ∀ b, M b → b < w.heap.size) (h_mn : I64 mn) (h_mr : RV M w (.slice a_mr mr.length c_mr) mr) : Calls Tryd.prog 13 #[.agg #[.int .i64 mn, .slice a_mr mr.length c_mr]] w (Ret fun v w' =>  v = .bool (rightS mn mr) ∧ Ext w w') := by
  refine enter 57 Tryd.func13 rfl rfl rfl fun f0 ha => ?_
  have H := HI.start (M0 := M) (w := w) hM
  have H0 := H.put (it := imm (.slice a_mr mr.length c_mr) mr) rfl (by rw [MS_nil]; exact h_mr)
  have ln_mr := rv_len h_mr
  have i0 : f0 0 = .agg #[.int .i64 mn, .slice a_mr mr.length c_mr] := ha 0 (by simp)
  refine sq (rg (k (bx H0 rfl i0 ?_)))
  intro bb0 w0 xt0 (H1 : HI M w w0 [box bb0 #[.int .i64 mn, .slice a_mr mr.length c_mr] 24, imm (.slice a_mr mr.length c_mr) mr])
  refine k (asg (v := .bool false) rfl rfl (z (nx (sq (sq (rg (k (fa fl24_0 rfl rfl (k (ldX H1 0 rfl ty3 rfl rfl (by decide) rfl (k (lss rfl rfl rfl rfl (k (mv (v := .bool (decide (mn < 0))) rfl rfl ?_))))))))))))))
  rcases Bool.eq_false_or_eq_true (decide (mn < 0)) with b0 | b0
  · -- decide (mn < 0) is True
    have p0 := of_decide_eq_true b0
    refine k (gn rfl rfl rfl b0 (k (gn rfl rfl rfl b0 (k (gn rfl rfl rfl b0 (k (pickT rfl rfl rfl rfl b0 rfl (k (mv (v := .bool true) rfl rfl (k (gn rfl rfl rfl rfl (k (gn rfl rfl rfl rfl (k (gn rfl rfl rfl rfl (k (gn rfl rfl rfl rfl (k (gn rfl rfl rfl rfl (k (gn rfl rfl rfl rfl (k (pickT rfl rfl rfl rfl rfl rfl (z (nx (cdT rfl rfl rfl (sq (rg (k (asg (v := .bool false) rfl rfl (z (nx (rt (then_ret (r1 rfl rfl ?_)))))))))))))))))))))))))))))))))))
    have e0 : (false : Bool) = rightS mn mr := by first | exact rightS_no (by omega) | exact right_end_ (by omega) (by omega) (by omega) hs (by omega) | exact right_row hx0 (rowOk_len (by omega)) | ((try (have e_ := at_is hx1 hx0; subst e_)); (try (have e_ := at_is hx2 hx0; subst e_)); (try (have e_ := at_is hx3 hx0; subst e_)); (try (have e_ := at_is hx4 hx0; subst e_)); (try (have e_ := at_is hx5 hx0; subst e_)); (try (have e_ := at_is hx6 hx0; subst e_)); exact right_row hx0 (rowOk_bit (k := mn + (q : Int)) (by omega) (by omega) (by omega) (by assumption)))
    have ev_ := cg1 (fun (x_0 : Bool) => (.bool x_0 : Value)) e0
    exact ⟨ev_, H1.below⟩
  · -- decide (mn < 0) is False
    have p0 := of_decide_eq_false b0
    refine k (gy rfl rfl rfl b0 (fa fl24_0 rfl rfl (k (gy rfl rfl rfl b0 (ldX H1 0 rfl ty3 rfl rfl (by decide) rfl (k (gy rfl rfl rfl b0 (gtr rfl rfl rfl rfl (k (pickF rfl rfl rfl rfl b0 rfl (k (mv (v := .bool (decide (4096 < mn))) rfl rfl ?_))))))))))))
    rcases Bool.eq_false_or_eq_true (decide (4096 < mn)) with b1 | b1
    · -- decide (4096 < mn) is True
      have p1 := of_decide_eq_true b1
      refine k (gn rfl rfl rfl b1 (k (gn rfl rfl rfl b1 (k (gn rfl rfl rfl b1 (k (gn rfl rfl rfl b1 (k (gn rfl rfl rfl b1 (k (gn rfl rfl rfl b1 (k (pickT rfl rfl rfl rfl b1 rfl (z (nx (cdT rfl rfl rfl (sq (rg (k (asg (v := .bool false) rfl rfl (z (nx (rt (then_ret (r1 rfl rfl ?_)))))))))))))))))))))))))
      have e0 : (false : Bool) = rightS mn mr := by first | exact rightS_no (by omega) | exact right_end_ (by omega) (by omega) (by omega) hs (by omega) | exact right_row hx0 (rowOk_len (by omega)) | ((try (have e_ := at_is hx1 hx0; subst e_)); (try (have e_ := at_is hx2 hx0; subst e_)); (try (have e_ := at_is hx3 hx0; subst e_)); (try (have e_ := at_is hx4 hx0; subst e_)); (try (have e_ := at_is hx5 hx0; subst e_)); (try (have e_ := at_is hx6 hx0; subst e_)); exact right_row hx0 (rowOk_bit (k := mn + (q : Int)) (by omega) (by omega) (by omega) (by assumption)))
      have ev_ := cg1 (fun (x_0 : Bool) => (.bool x_0 : Value)) e0
      exact ⟨ev_, H1.below⟩
    · -- decide (4096 < mn) is False
      have p1 := of_decide_eq_false b1
      refine k (gy rfl rfl rfl b1 (fa fl24_1 rfl rfl (k (gy rfl rfl rfl b1 (ldX H1 0 rfl ty22 rfl rfl (by decide) rfl (k (gy rfl rfl rfl b1 (lnS rfl rfl un22 (k (gy rfl rfl rfl b1 (fa fl24_0 rfl rfl (k (gy rfl rfl rfl b1 (ldX H1 0 rfl ty3 rfl rfl (by decide) rfl (k (gy rfl rfl rfl b1 (neq rfl rfl rfl rfl (k (pickF rfl rfl rfl rfl b1 rfl (z (nx ?_)))))))))))))))))))))
      refine cd (b := !decide ((mr.length : Int) = mn)) rfl rfl (fun b2 => ?_) (fun b2 => ?_)
      ·
        have p2 := of_decide_eq_false (nott b2)
        refine sq (rg (k (asg (v := .bool false) rfl rfl (z (nx (rt (then_ret (r1 rfl rfl ?_))))))))
        have e0 : (false : Bool) = rightS mn mr := by first | exact rightS_no (by omega) | exact right_end_ (by omega) (by omega) (by omega) hs (by omega) | exact right_row hx0 (rowOk_len (by omega)) | ((try (have e_ := at_is hx1 hx0; subst e_)); (try (have e_ := at_is hx2 hx0; subst e_)); (try (have e_ := at_is hx3 hx0; subst e_)); (try (have e_ := at_is hx4 hx0; subst e_)); (try (have e_ := at_is hx5 hx0; subst e_)); (try (have e_ := at_is hx6 hx0; subst e_)); exact right_row hx0 (rowOk_bit (k := mn + (q : Int)) (by omega) (by omega) (by omega) (by assumption)))
        have ev_ := cg1 (fun (x_0 : Bool) => (.bool x_0 : Value)) e0
        exact ⟨ev_, H1.below⟩
      ·
        have p2 := of_decide_eq_true (notf b2)
        refine sk (nx (sq (sq (rg (k (asg (v := .int .i64 0) rfl rfl (z (nx (bk ?_)))))))))
        refine lp (fun m f w' => ∃ (i : Nat), m = mr.length - i ∧ f 1 = .pointer (some ⟨bb0, 0, none⟩) ∧ f 3 = .int .i64 (i : Int) ∧  HI M w w' [box bb0 #[.int .i64 mn, .slice a_mr mr.length c_mr] 24, imm (.slice a_mr mr.length c_mr) mr] ∧ (i ≤ mr.length) ∧ ((mr.take i).all (rowOk mn) = true)) _ ⟨0, rfl, rfl, (ieq rfl (by first | rfl | omega | simp)), H1, (by first | assumption | omega | simp | (simp; omega)), (by rfl)⟩ ?_
        rintro _ f0 w1 ⟨i, rfl, s0, s1, H2, hi_, hs⟩
        refine sq (sq (rg (k (mv rfl s1 (k (fa fl24_0 rfl s0 (k (ldX H2 0 rfl ty3 rfl rfl (by decide) rfl (k (lss rfl rfl rfl rfl (z (nx ?_))))))))))))
        refine cd (b := decide ((i : Int) < mn)) rfl rfl (fun b3 => ?_) (fun b3 => ?_)
        ·
          have p3 := of_decide_eq_true b3
          refine sk (nx (sq (bk (sq (sq ?_)))))
          obtain ⟨x0, hx0⟩ : ∃ x, mr[(i : Int).toNat]? = some x := ⟨_, List.getElem?_eq_getElem (by first | omega | (simp; omega))⟩
          refine dr 9 [fun (v : Value) (w' : World) => v = .pointer (some ⟨bb0, 1, none⟩), fun (v : Value) (w' : World) => v = .slice a_mr mr.length c_mr, fun (v : Value) (w' : World) => v = .int .i64 (i : Int), fun (v : Value) (w' : World) => ∃ (ad0 : Addr), v = .pointer (some ad0) ∧ At (MS M [box bb0 #[.int .i64 mn, .slice a_mr mr.length c_mr] 24, imm (.slice a_mr mr.length c_mr) mr]) w' ad0 x0, fun (v : Value) (w' : World) => ∃ (a0 : Option Addr) (c0 : Nat), v = .slice a0 x0.length c0 ∧ RV (MS M [box bb0 #[.int .i64 mn, .slice a_mr mr.length c_mr] 24, imm (.slice a_mr mr.length c_mr) mr]) w' (.slice a0 x0.length c0) x0, fun (v : Value) (w' : World) => v = .int .i64 (x0.length : Int), fun (v : Value) (w' : World) => v = .pointer (some ⟨bb0, 0, none⟩), fun (v : Value) (w' : World) => v = .int .i64 mn, fun (v : Value) (w' : World) => v = .int .i64 ((words mn : Nat) : Int)] rfl (by kernel_rfl) ?_ ?_
          ·
            refine ⟨fun _ => ⟨fun f1 w3 hf0 xt2 hp0 => ?_, fun _ _ _ _ h => h⟩, ?_⟩
            ·
              have H5 := H2.ext xt2
              refine fa fl24_1 rfl ((hf0 1 rfl).trans s0) ?_
              exact ⟨_, rfl, Ext.refl _, rfl⟩
            refine ⟨fun _ => ⟨fun f2 w4 hf1 xt3 hp1 => ?_, fun _ _ _ _ h => h⟩, ?_⟩
            ·
              have H6 := H2.ext xt3
              have s2 : f2 27 = .pointer (some ⟨bb0, 1, none⟩) := hp1 0 rfl rfl
              refine ldX H6 0 rfl ty22 rfl s2 (by decide) rfl ?_
              exact ⟨_, rfl, Ext.refl _, rfl⟩
            refine ⟨fun _ => ⟨fun f3 w5 hf2 xt4 hp2 => ?_, fun _ _ _ _ h => h⟩, ?_⟩
            ·
              have H7 := H2.ext xt4
              refine mv rfl ((hf2 3 rfl).trans s1) ?_
              exact ⟨_, rfl, Ext.refl _, rfl⟩
            refine ⟨fun _ => ⟨fun f4 w6 hf3 xt5 hp3 => ?_, by rintro _ _ _ x_ ⟨ad0, e_, hA0⟩; exact ⟨ad0, e_, hA0.lift (Up.ext x_)⟩⟩, ?_⟩
            ·
              have H8 := H2.ext xt5
              have s3 : f4 28 = .slice a_mr mr.length c_mr := hp3 1 rfl rfl
              have s4 : f4 29 = .int .i64 (i : Int) := hp3 2 rfl rfl
              refine ia (H8.rv 1 rfl) rfl rfl s3 s4 (by first | omega | (simp; omega)) un22 ty73 ?_
              intro ad1 x1 hx1 hA1
              obtain rfl : x0 = x1 := Option.some.inj (hx0.symm.trans hx1)
              exact ⟨_, rfl, Ext.refl _, ⟨ad1, rfl, hA1⟩⟩
            refine ⟨fun _ => ⟨fun f5 w7 hf4 xt6 hp4 => ?_, by rintro _ _ _ x_ ⟨a0, c0, e_, rv0⟩; exact ⟨a0, c0, e_, rv0.lift (Up.ext x_)⟩⟩, ?_⟩
            ·
              have H9 := H2.ext xt6
              obtain ⟨ad2, s5, hA2⟩ : ∃ (ad2 : Addr), f5 30 = .pointer (some ad2) ∧ At (MS M [box bb0 #[.int .i64 mn, .slice a_mr mr.length c_mr] 24, imm (.slice a_mr mr.length c_mr) mr]) w7 ad2 x0 := hp4 3 rfl rfl
              have H10 := H9.put (it := atI ad2 x0) rfl hA2
              refine ldL (H10.atv 0 rfl).w ty73 rfl s5 ?_
              intro a1 c1 rv1
              have ln1 := rv_len rv1
              have H11 := H10.put (it := imm (.slice a1 x0.length c1) x0) rfl rv1
              exact ⟨_, rfl, Ext.refl _, ⟨a1, c1, rfl, (rv_drop rfl rv1)⟩⟩
            refine ⟨fun _ => ⟨fun f6 w8 hf5 xt7 hp5 => ?_, fun _ _ _ _ h => h⟩, ?_⟩
            ·
              have H12 := H2.ext xt7
              obtain ⟨a2, c2, s6, rv2⟩ : ∃ (a2 : Option Addr) (c2 : Nat), f6 31 = .slice a2 x0.length c2 ∧ RV (MS M [box bb0 #[.int .i64 mn, .slice a_mr mr.length c_mr] 24, imm (.slice a_mr mr.length c_mr) mr]) w8 (.slice a2 x0.length c2) x0 := hp5 4 rfl rfl
              have H13 := H12.put (it := imm (.slice a2 x0.length c2) x0) rfl rv2
              refine lnS rfl s6 un73 ?_
              exact ⟨_, rfl, Ext.refl _, rfl⟩
            refine ⟨fun _ => ⟨fun f7 w9 hf6 xt8 hp6 => ?_, fun _ _ _ _ h => h⟩, ?_⟩
            ·
              have H14 := H2.ext xt8
              refine fa fl24_0 rfl ((hf6 1 rfl).trans s0) ?_
              exact ⟨_, rfl, Ext.refl _, rfl⟩
            refine ⟨fun _ => ⟨fun f8 w10 hf7 xt9 hp7 => ?_, fun _ _ _ _ h => h⟩, ?_⟩
            ·
              have H15 := H2.ext xt9
              have s7 : f8 33 = .pointer (some ⟨bb0, 0, none⟩) := hp7 6 rfl rfl
              refine ldX H15 0 rfl ty3 rfl s7 (by decide) rfl ?_
              exact ⟨_, rfl, Ext.refl _, rfl⟩
            refine ⟨fun _ => ⟨fun f9 w11 hf8 xt10 hp8 => ?_, fun _ _ _ _ h => h⟩, ?_⟩
            ·
              have H16 := H2.ext xt10
              have s8 : f9 34 = .int .i64 mn := hp8 7 rfl rfl
              have cc1 := ref02_Words (n := mn) (w := w11) (by unfold I64 at *; omega) (by omega)
              refine ca go57 rfl (ec s8 e0) cc1 ?_
              rintro _ w12 ⟨rfl, xt11⟩
              have H17 := H16.ext xt11
              exact ⟨_, rfl, xt11, rfl⟩
            exact DSteps.rest rfl _
          · intro f10 w13 hf9 xt12 hp9
            have H18 := H2.ext xt12
            have s9 : f10 1 = .pointer (some ⟨bb0, 0, none⟩) := (hf9 1 rfl).trans s0
            have s10 : f10 3 = .int .i64 (i : Int) := (hf9 3 rfl).trans s1
            have s11 : f10 32 = .int .i64 (x0.length : Int) := hp9 5 rfl
            have s12 : f10 35 = .int .i64 ((words mn : Nat) : Int) := hp9 8 rfl
            refine k (neq rfl rfl s11 s12 (z (nx ?_)))
            refine cd (b := !decide ((x0.length : Int) = ((words mn : Nat) : Int))) rfl rfl (fun b4 => ?_) (fun b4 => ?_)
            ·
              have p4 := of_decide_eq_false (nott b4)
              refine sq (rg (k (asg (v := .bool false) rfl rfl (z (nx (rt (then_ret (inb_ret (then_ret (loop_ret (inb_ret (then_ret (r1 rfl rfl ?_)))))))))))))
              have e0 : (false : Bool) = rightS mn mr := by first | exact rightS_no (by omega) | exact right_end_ (by omega) (by omega) (by omega) hs (by omega) | exact right_row hx0 (rowOk_len (by omega)) | ((try (have e_ := at_is hx1 hx0; subst e_)); (try (have e_ := at_is hx2 hx0; subst e_)); (try (have e_ := at_is hx3 hx0; subst e_)); (try (have e_ := at_is hx4 hx0; subst e_)); (try (have e_ := at_is hx5 hx0; subst e_)); (try (have e_ := at_is hx6 hx0; subst e_)); exact right_row hx0 (rowOk_bit (k := mn + (q : Int)) (by omega) (by omega) (by omega) (by assumption)))
              have ev_ := cg1 (fun (x_0 : Bool) => (.bool x_0 : Value)) e0
              exact ⟨ev_, H18.below⟩
            ·
              have p4 := of_decide_eq_true (notf b4)
              refine sk (nx (sq (rg (k (fa fl24_0 rfl s9 (k (ldX H18 0 rfl ty3 rfl rfl (by decide) rfl (k (asg (v := .int .i64 mn) rfl rfl (z (nx (bk ?_))))))))))))
              refine lp (fun m f w' => ∃ (q : Nat), m = (64 * ((mr.getD i []).length : Int) - mn).toNat - q ∧ f 1 = .pointer (some ⟨bb0, 0, none⟩) ∧ f 3 = .int .i64 (i : Int) ∧ f 4 = .int .i64 (mn + (q : Int)) ∧  HI M w w' [box bb0 #[.int .i64 mn, .slice a_mr mr.length c_mr] 24, imm (.slice a_mr mr.length c_mr) mr] ∧ (q = 0 ∨ mn + (q : Int) ≤ 64 * ((mr.getD i []).length : Int)) ∧ (∀ k : Int, mn ≤ k → k < mn + (q : Int) → hasR (mr.getD i []) k = false)) _ ⟨0, rfl, s9, s10, (ieq rfl (by omega)), H18, (by left; rfl), (by intro k_ h1_ h2_; omega)⟩ ?_
              rintro _ f11 w14 ⟨q, rfl, s13, s14, s15, H19, hq_, hz⟩
              refine sq (sq (rg (k (mv rfl s15 (k (fa fl24_1 rfl s13 (k (ldX H19 0 rfl ty22 rfl rfl (by decide) rfl (k (mv rfl s14 (k (ia (H19.rv 1 rfl) rfl rfl rfl rfl (by first | omega | (simp; omega)) un22 ty73 ?_))))))))))))
              intro ad3 x2 hx2 hA3
              refine k (ldL hA3.w ty73 rfl rfl ?_)
              intro a3 c3 rv3
              have ln2 := rv_len rv3
              have H20 := H19.put (it := imm (.slice a3 x2.length c3) x2) rfl rv3
              refine k (lnS rfl rfl un73 (k (mul rfl rfl rfl rfl (by have h_ := words_le (n := mn) (by omega); (try (have e_ := at_is hx1 hx0; subst e_)); (try (have e_ := at_is hx2 hx0; subst e_)); (try (have e_ := at_is hx3 hx0; subst e_)); (try (have e_ := at_is hx4 hx0; subst e_)); (try (have e_ := at_is hx5 hx0; subst e_)); (try (have e_ := at_is hx6 hx0; subst e_)); unfold I64; omega) (k (lss rfl rfl rfl rfl (z (nx ?_)))))))
              refine cd (b := decide ((mn + (q : Int)) < (64 * (x2.length : Int)))) rfl rfl (fun b5 => ?_) (fun b5 => ?_)
              ·
                have p5 := of_decide_eq_true b5
                refine sk (nx (sq (bk (sq (rg (k (fa fl24_1 rfl s13 (k (ldX H20 1 rfl ty22 rfl rfl (by decide) rfl (k (mv rfl s14 (k (ia (H20.rv 2 rfl) rfl rfl rfl rfl (by first | omega | (simp; omega)) un22 ty73 ?_)))))))))))))
                intro ad4 x3 hx3 hA4
                refine k (ldL hA4.w ty73 rfl rfl ?_)
                intro a4 c4 rv4
                have ln3 := rv_len rv4
                have H21 := H20.put (it := imm (.slice a4 x3.length c4) x3) rfl rv4
                refine k (mv rfl s15 (k ?_))
                have cc2 := ref02_Has (r := x3) (i := (mn + (q : Int))) (w := w14) H21.mb (H21.rv 0 rfl) (by have h_ := words_le (n := mn) (by omega); (try (have e_ := at_is hx1 hx0; subst e_)); (try (have e_ := at_is hx2 hx0; subst e_)); (try (have e_ := at_is hx3 hx0; subst e_)); (try (have e_ := at_is hx4 hx0; subst e_)); (try (have e_ := at_is hx5 hx0; subst e_)); (try (have e_ := at_is hx6 hx0; subst e_)); unfold I64; omega) (by have h_ := words_le (n := mn) (by omega); (try (have e_ := at_is hx1 hx0; subst e_)); (try (have e_ := at_is hx2 hx0; subst e_)); (try (have e_ := at_is hx3 hx0; subst e_)); (try (have e_ := at_is hx4 hx0; subst e_)); (try (have e_ := at_is hx5 hx0; subst e_)); (try (have e_ := at_is hx6 hx0; subst e_)); omega)
                refine ca go58 rfl (ec rfl (ec rfl e0)) cc2 ?_
                rintro _ w15 ⟨rfl, xt13⟩
                have H22 := H21.ext xt13
                refine z (nx ?_)
                refine cd (b := hasR x3 (mn + (q : Int))) rfl rfl (fun b6 => ?_) (fun b6 => ?_)
                ·
                  refine sq (rg (k (asg (v := .bool false) rfl rfl (z (nx (rt (inb_ret (then_ret (loop_ret (inb_ret (inb_ret (then_ret (loop_ret (inb_ret (then_ret (r1 rfl rfl ?_))))))))))))))))
                  have e0 : (false : Bool) = rightS mn mr := by first | exact rightS_no (by omega) | exact right_end_ (by omega) (by omega) (by omega) hs (by omega) | exact right_row hx0 (rowOk_len (by omega)) | ((try (have e_ := at_is hx1 hx0; subst e_)); (try (have e_ := at_is hx2 hx0; subst e_)); (try (have e_ := at_is hx3 hx0; subst e_)); (try (have e_ := at_is hx4 hx0; subst e_)); (try (have e_ := at_is hx5 hx0; subst e_)); (try (have e_ := at_is hx6 hx0; subst e_)); exact right_row hx0 (rowOk_bit (k := mn + (q : Int)) (by omega) (by omega) (by omega) (by assumption)))
                  have ev_ := cg1 (fun (x_0 : Bool) => (.bool x_0 : Value)) e0
                  exact ⟨ev_, H22.below⟩
                ·
                  refine sk (inb_normal (nx (rg (k (mv rfl s15 (k (add rfl rfl rfl rfl (by have h_ := words_le (n := mn) (by omega); (try (have e_ := at_is hx1 hx0; subst e_)); (try (have e_ := at_is hx2 hx0; subst e_)); (try (have e_ := at_is hx3 hx0; subst e_)); (try (have e_ := at_is hx4 hx0; subst e_)); (try (have e_ := at_is hx5 hx0; subst e_)); (try (have e_ := at_is hx6 hx0; subst e_)); unfold I64; omega) (k (asg (v := .int .i64 ((mn + (q : Int)) + 1)) rfl rfl (z ?_))))))))))
                  have H23 : HI M w w15 [box bb0 #[.int .i64 mn, .slice a_mr mr.length c_mr] 24, imm (.slice a_mr mr.length c_mr) mr] := H22.pickN [2, 3] (by decide) rfl
                  refine loopN _ ?_ ⟨(q + 1), rfl, s13, s14, (ieq rfl (by omega)), H23, (by right; rw [getD_row hx0]; (try (have e_ := at_is hx1 hx0; subst e_)); (try (have e_ := at_is hx2 hx0; subst e_)); (try (have e_ := at_is hx3 hx0; subst e_)); (try (have e_ := at_is hx4 hx0; subst e_)); (try (have e_ := at_is hx5 hx0; subst e_)); (try (have e_ := at_is hx6 hx0; subst e_)); omega), (by intro k_ h1_ h2_; exact if e_ : k_ = mn + (q : Int) then (by rw [e_, getD_row hx0]; (try (have e_ := at_is hx1 hx0; subst e_)); (try (have e_ := at_is hx2 hx0; subst e_)); (try (have e_ := at_is hx3 hx0; subst e_)); (try (have e_ := at_is hx4 hx0; subst e_)); (try (have e_ := at_is hx5 hx0; subst e_)); (try (have e_ := at_is hx6 hx0; subst e_)); assumption) else hz k_ h1_ (by omega))⟩
                  (try (have e_ := at_is hx1 hx0; subst e_)); (try (have e_ := at_is hx2 hx0; subst e_)); (try (have e_ := at_is hx3 hx0; subst e_)); (try (have e_ := at_is hx4 hx0; subst e_)); (try (have e_ := at_is hx5 hx0; subst e_)); (try (have e_ := at_is hx6 hx0; subst e_)); rw [getD_row hx0] at *; omega
              ·
                have p5 := of_decide_eq_false b5
                refine ex (then_exit (loop_exit (inb_here (inb_normal (nx (rg (k (mv rfl s14 (k (add rfl rfl rfl rfl (by unfold I64 at *; omega) (k (asg (v := .int .i64 ((i : Int) + 1)) rfl rfl (z ?_)))))))))))))
                have H21 : HI M w w14 [box bb0 #[.int .i64 mn, .slice a_mr mr.length c_mr] 24, imm (.slice a_mr mr.length c_mr) mr] := H20.pickN [1, 2] (by decide) rfl
                refine loopN _ ?_ ⟨(i + 1), rfl, s13, (ieq rfl (by first | rfl | omega | (push_cast; omega))), H21, (by first | assumption | omega | simp | (simp; omega)), (by (try (have e_ := at_is hx1 hx0; subst e_)); (try (have e_ := at_is hx2 hx0; subst e_)); (try (have e_ := at_is hx3 hx0; subst e_)); (try (have e_ := at_is hx4 hx0; subst e_)); (try (have e_ := at_is hx5 hx0; subst e_)); (try (have e_ := at_is hx6 hx0; subst e_)); exact all_take hx0 hs (rowOk_yes (j := mn + (q : Int)) (by omega) (by rw [getD_row hx0] at hz; exact hz) (by omega)))⟩
                omega
        ·
          have p3 := of_decide_eq_false b3
          refine ex (then_exit (loop_exit (inb_here (nx (sq (rg (k (asg (v := .bool true) rfl rfl (z (nx (rt (r1 rfl rfl ?_))))))))))))
          have e0 : (true : Bool) = rightS mn mr := by first | exact rightS_no (by omega) | exact right_end_ (by omega) (by omega) (by omega) hs (by omega) | exact right_row hx0 (rowOk_len (by omega)) | ((try (have e_ := at_is hx1 hx0; subst e_)); (try (have e_ := at_is hx2 hx0; subst e_)); (try (have e_ := at_is hx3 hx0; subst e_)); (try (have e_ := at_is hx4 hx0; subst e_)); (try (have e_ := at_is hx5 hx0; subst e_)); (try (have e_ := at_is hx6 hx0; subst e_)); exact right_row hx0 (rowOk_bit (k := mn + (q : Int)) (by omega) (by omega) (by omega) (by assumption)))
          have ev_ := cg1 (fun (x_0 : Bool) => (.bool x_0 : Value)) e0
          exact ⟨ev_, H2.below⟩
/- eyewitness/eyewitnessref03.Pairs -/
set_option maxRecDepth 100000 in
set_option maxHeartbeats 1600000 in
theorem ref03_Pairs {M : Nat → Prop} {w : World} {mn : Int} {a_mr : Option Addr} {c_mr : Nat} {mr : List (List (BitVec 64))} (hM : ∀ b, M b → b < w.heap.size) (h_mn : I64 mn) (h_mr : RV M w (.slice a_mr mr.length c_mr) mr) (hsq_m : ((mr.length : Nat) : Int) = mn) (hrw_m : ∀ x ∈ mr, x.length ≤ 1000000000) (hl4_m : mn ≤ 4096) (hrs_m : ∀ x ∈ mr, x.length ≤ 64) : Calls Tryd.prog 76 #[.agg #[.int .i64 mn, .slice a_mr mr.length c_mr]] w (Ret fun v w' => ∃ (a0 : Option Addr) (c0 : Nat), v = .slice a0 (pairsM mn mr).length c0 ∧ Ext w w' ∧ RV M w' (.slice a0 (pairsM mn mr).length c0) (pairsM mn mr)) := by
  refine enter 35 Tryd.func76 rfl rfl rfl fun f0 ha => ?_
  have H := HI.start (M0 := M) (w := w) hM
  have H0 := H.put (it := imm (.slice a_mr mr.length c_mr) mr) rfl (by rw [MS_nil]; exact h_mr)
  have ln_mr := rv_len h_mr
  have i0 : f0 0 = .agg #[.int .i64 mn, .slice a_mr mr.length c_mr] := ha 0 (by simp)
  refine sq (rg (k (bx H0 rfl i0 ?_)))
  intro bb0 w0 xt0 (H1 : HI M w w0 [box bb0 #[.int .i64 mn, .slice a_mr mr.length c_mr] 24, imm (.slice a_mr mr.length c_mr) mr])
  refine k (asg (v := .slice none 0 0) rfl rfl (z (nx (sq (rg (k (asg (v := .slice none 0 0) rfl rfl (z (nx (sq (sq (rg (k (asg (v := .int .i64 0) rfl rfl (z (nx (bk ?_)))))))))))))))))
  have H2 := H1.nil_ (Int × Int) 76
  refine lp (fun m f w' => ∃ (i : Nat) (xs : List (Int × Int)) (a0 : Option Addr) (c0 : Nat), m = mn.toNat - i ∧ f 1 = .pointer (some ⟨bb0, 0, none⟩) ∧ f 3 = .slice a0 xs.length c0 ∧ f 4 = .int .i64 (i : Int) ∧  HI M w w' [own w.heap.size 76 (.slice a0 xs.length c0) xs, box bb0 #[.int .i64 mn, .slice a_mr mr.length c_mr] 24, imm (.slice a_mr mr.length c_mr) mr] ∧ (((i : Nat) : Int) ≤ mn ∨ i = 0) ∧ (xs = pairsTo mr i)) _ ⟨0, ([] : List (Int × Int)), none, 0, rfl, rfl, rfl, (ieq rfl (by first | rfl | omega | simp)), H2, (by right; rfl), (by rfl)⟩ ?_
  rintro _ f0 w1 ⟨i, xs, a0, c0, rfl, s0, s1, s2, H3, hi_, hs⟩
  refine sq (sq (rg (k (mv rfl s2 (k (fa fl24_0 rfl s0 (k (ldX H3 1 rfl ty3 rfl rfl (by decide) rfl (k (lss rfl rfl rfl rfl (z (nx ?_))))))))))))
  refine cd (b := decide ((i : Int) < mn)) rfl rfl (fun b0 => ?_) (fun b0 => ?_)
  ·
    have p0 := of_decide_eq_true b0
    refine sk (nx (sq (bk (sq (rg (k (fa fl24_1 rfl s0 (k (ldX H3 1 rfl ty22 rfl rfl (by decide) rfl (k (mv rfl s2 (k (ia (H3.rv 2 rfl) rfl rfl rfl rfl (by first | omega | (simp; omega)) un22 ty73 ?_)))))))))))))
    intro ad0 x0 hx0 hA0
    refine k (ldL hA0.w ty73 rfl rfl ?_)
    intro a1 c1 rv0
    have ln0 := rv_len rv0
    have H4 := H3.put (it := imm (.slice a1 x0.length c1) x0) rfl rv0
    refine k ?_
    have cc0 := ref02_List (r := x0) (w := w1) H4.mb (H4.rv 0 rfl) (by have h_ := hrs_m _ (List.mem_of_getElem? hx0); omega)
    refine ca go106 rfl (ec rfl e0) cc0 ?_
    rintro _ w2 ⟨a2, c2, rfl, xt1, rv1⟩
    have H5 := H4.ownsG rv1
    refine k (asg (v := .slice a2 (listR x0).length c2) rfl rfl (z (nx (sq (rg (k (asg (v := .int .i64 0) rfl rfl (z (nx (bk ?_))))))))))
    refine lp (fun m f w' => ∃ (q : Nat) (xs2 : List (Int × Int)) (a3 : Option Addr) (c3 : Nat), m = (listR x0).length - q ∧ f 1 = .pointer (some ⟨bb0, 0, none⟩) ∧ f 3 = .slice a3 xs2.length c3 ∧ f 4 = .int .i64 (i : Int) ∧ f 5 = .slice a2 (listR x0).length c2 ∧ f 6 = .int .i64 (q : Int) ∧  HI M w w' [own w.heap.size 3 (.slice a2 (listR x0).length c2) (listR x0), imm (.slice a1 x0.length c1) x0, own w.heap.size 76 (.slice a3 xs2.length c3) xs2, box bb0 #[.int .i64 mn, .slice a_mr mr.length c_mr] 24, imm (.slice a_mr mr.length c_mr) mr] ∧ (q ≤ (listR x0).length) ∧ (xs2 = pairsTo mr i ++ ((listR x0).take q).map fun j => (((i : Nat) : Int), j))) _ ⟨0, xs, a0, c0, rfl, s0, s1, s2, rfl, (ieq rfl (by first | rfl | omega | simp)), H5, (by first | assumption | omega | simp | (simp; omega)), (by rw [hs]; simp)⟩ ?_
    rintro _ f1 w3 ⟨q, xs2, a3, c3, rfl, s3, s4, s5, s6, s7, H6, hq_, hs2⟩
    refine sq (sq (rg (k (mv rfl s7 (k (mv rfl s6 (k (lnS rfl rfl un42 (k (lss rfl rfl rfl rfl (z (nx ?_))))))))))))
    refine cd (b := decide ((q : Int) < ((listR x0).length : Int))) rfl rfl (fun b1 => ?_) (fun b1 => ?_)
    ·
      have p1 := of_decide_eq_true b1
      refine sk (nx (sq (bk (rg (k (mv rfl s4 (k (mv rfl s5 (k (mv rfl s6 (k (mv rfl s7 (k (iaO (H6.at_ 0 rfl) rfl rfl rfl rfl (by first | omega | (simp; omega)) un42 ty3 ?_))))))))))))))
      intro g0 x1 hv0 hx1 hA1
      refine k (ldI hA1 ty3 rfl rfl ?_)
      intro rv2
      refine k (bd (v := .agg #[.int .i64 (i : Int), .int .i64 x1]) rfl (pbc rfl (pbc rfl pb0)) (fun _ => by kernel_rfl) (k (bs (xs := ([((i : Int), x1)] : List (Int × Int))) (cells := #[.int .i64 (i : Int), .int .i64 x1]) (e := 76) H6 rfl (pbc rfl pb0) (fun _ => by kernel_rfl) ⟨[.int .i64 (i : Int), .int .i64 x1], [], rfl, ⟨_, _, rfl, ⟨rfl, (show I64 ((i : Int)) from (by unfold I64 at *; omega))⟩, ⟨rfl, (show I64 (x1) from (by unfold I64 at *; omega))⟩⟩, rfl⟩ rfl (by unfold maxLen; omega) ?_)))
      intro g1 w4 xt2 (H7 : HI M w w4 [own w.heap.size 76 (.slice (some ⟨g1, 0, none⟩) 1 1) ([((i : Int), x1)] : List (Int × Int)), own w.heap.size 3 (.slice a2 (listR x0).length c2) (listR x0), imm (.slice a1 x0.length c1) x0, own w.heap.size 76 (.slice a3 xs2.length c3) xs2, box bb0 #[.int .i64 mn, .slice a_mr mr.length c_mr] 24, imm (.slice a_mr mr.length c_mr) mr])
      refine k (ap H7 3 rfl rfl rfl rfl rfl rfl (own_src (H7.at_ 0 rfl)) un31 ty76 rfl (by have h1_ := pairsTo_len hrs_m i; have h2_ := listR_length x0; have h3_ := hrs_m _ (List.mem_of_getElem? hx0); rw [hs2, List.length_append, List.length_map, List.length_take]; simp only [List.length_cons, List.length_nil]; omega) (by have h1_ := pairsTo_len hrs_m i; have h2_ := listR_length x0; have h3_ := hrs_m _ (List.mem_of_getElem? hx0); rw [hs2, List.length_append, List.length_map, List.length_take]; simp only [List.length_cons, List.length_nil]; omega) ?_)
      intro a4 c4 w5 (H8 : HI M w w5 [own w.heap.size 76 (.slice (some ⟨g1, 0, none⟩) 1 1) ([((i : Int), x1)] : List (Int × Int)), own w.heap.size 3 (.slice a2 (listR x0).length c2) (listR x0), imm (.slice a1 x0.length c1) x0, own w.heap.size 76 (.slice a4 (xs2 ++ ([((i : Int), x1)] : List (Int × Int))).length c4) (xs2 ++ ([((i : Int), x1)] : List (Int × Int))), box bb0 #[.int .i64 mn, .slice a_mr mr.length c_mr] 24, imm (.slice a_mr mr.length c_mr) mr])
      refine k (asg (v := .slice a4 (xs2 ++ ([((i : Int), x1)] : List (Int × Int))).length c4) rfl rfl (z (inb_normal (nx (rg (k (mv rfl s7 (k (add rfl rfl rfl rfl (by have h2_ := listR_length x0; have h3_ := hrs_m _ (List.mem_of_getElem? hx0); unfold I64; omega) (k (asg (v := .int .i64 ((q : Int) + 1)) rfl rfl (z ?_))))))))))))
      have H9 : HI M w w5 [own w.heap.size 3 (.slice a2 (listR x0).length c2) (listR x0), imm (.slice a1 x0.length c1) x0, own w.heap.size 76 (.slice a4 (xs2 ++ ([((i : Int), x1)] : List (Int × Int))).length c4) (xs2 ++ ([((i : Int), x1)] : List (Int × Int))), box bb0 #[.int .i64 mn, .slice a_mr mr.length c_mr] 24, imm (.slice a_mr mr.length c_mr) mr] := H8.pickN [1, 2, 3, 4, 5] (by decide) rfl
      refine loopN _ ?_ ⟨(q + 1), (xs2 ++ ([((i : Int), x1)] : List (Int × Int))), a4, c4, rfl, s3, rfl, s5, s6, (ieq rfl (by first | rfl | omega | (push_cast; omega))), H9, (by first | assumption | omega | simp | (simp; omega)), (by rw [hs2]; exact pair_step hx1)⟩
      omega
    ·
      have p1 := of_decide_eq_false b1
      refine ex (then_exit (loop_exit (inb_here (inb_normal (nx (rg (k (mv rfl s5 (k (add rfl rfl rfl rfl (by unfold I64 at *; omega) (k (asg (v := .int .i64 ((i : Int) + 1)) rfl rfl (z ?_)))))))))))))
      have H7 : HI M w w3 [own w.heap.size 76 (.slice a3 xs2.length c3) xs2, box bb0 #[.int .i64 mn, .slice a_mr mr.length c_mr] 24, imm (.slice a_mr mr.length c_mr) mr] := H6.pickN [2, 3, 4] (by decide) rfl
      refine loopN _ ?_ ⟨(i + 1), xs2, a3, c3, rfl, s3, s4, (ieq rfl (by first | rfl | omega | (push_cast; omega))), H7, (by left; omega), (by rw [hs2]; exact pair_row hx0 (by omega))⟩
      omega
  ·
    have p0 := of_decide_eq_false b0
    refine ex (then_exit (loop_exit (inb_here (nx (sq (rg (k (mv rfl s1 (k (asg (v := .slice a0 xs.length c0) rfl rfl (z (nx (rt (r1 rfl rfl ?_))))))))))))))
    have e0 : (xs : List (Int × Int)) = pairsM mn mr := by rw [hs]; exact pairs_end (by omega) (by omega)
    have ev_ := cg1 (fun (x_0 : List (Int × Int)) => (.slice a0 x_0.length c0 : Value)) e0
    exact ⟨a0, c0, ev_, H3.below, (congrArg (fun (x_ : List (Int × Int)) => RV _ _ (.slice a0 x_.length c0) x_) e0).mp (H3.outO 0 rfl)⟩
/- eyewitness/eyewitnessref03.Sub -/
set_option maxRecDepth 100000 in
set_option maxHeartbeats 1600000 in
theorem ref03_Sub {M : Nat → Prop} {w : World} {an : Int} {a_ar : Option Addr} {c_ar : Nat} {ar : List (List (BitVec 64))} {bn : Int} {a_br : Option Addr} {c_br : Nat} {br : List (List (BitVec 64))} (hM : ∀ b, M b → b < w.heap.size) (h_an : I64 an) (h_ar : RV M w (.slice a_ar ar.length c_ar) ar) (h_bn : I64 bn) (h_br : RV M w (.slice a_br br.length c_br) br) (hsq_a : ((ar.length : Nat) : Int) = an) (hrw_a : ∀ x ∈ ar, x.length ≤ 1000000000) (hl4_a : an ≤ 4096) (hsq_b : ((br.length : Nat) : Int) = bn) (hrw_b : ∀ x ∈ br, x.length ≤ 1000000000) (hl4_b : bn ≤ 4096) : Calls Tryd.prog 25 #[.agg #[.int .i64 an, .slice a_ar ar.length c_ar], .agg #[.int .i64 bn, .slice a_br br.length c_br]] w (Ret fun v w' =>  v = .bool (subM an ar bn br) ∧ Ext w w') := by
  refine enter 36 Tryd.func25 rfl rfl rfl fun f0 ha => ?_
  have H := HI.start (M0 := M) (w := w) hM
  have H0 := H.put (it := imm (.slice a_ar ar.length c_ar) ar) rfl (by rw [MS_nil]; exact h_ar)
  have H1 := H0.put (it := imm (.slice a_br br.length c_br) br) rfl (by rw [MS_cons_none rfl, MS_nil]; exact h_br)
  have ln_ar := rv_len h_ar
  have ln_br := rv_len h_br
  have i0 : f0 0 = .agg #[.int .i64 an, .slice a_ar ar.length c_ar] := ha 0 (by simp)
  have i1 : f0 1 = .agg #[.int .i64 bn, .slice a_br br.length c_br] := ha 1 (by simp)
  refine sq (rg (k (bx H1 rfl i0 ?_)))
  intro bb0 w0 xt0 (H2 : HI M w w0 [box bb0 #[.int .i64 an, .slice a_ar ar.length c_ar] 24, imm (.slice a_br br.length c_br) br, imm (.slice a_ar ar.length c_ar) ar])
  refine k (bx H2 rfl i1 ?_)
  intro bb1 w1 xt1 (H3 : HI M w w1 [box bb1 #[.int .i64 bn, .slice a_br br.length c_br] 24, box bb0 #[.int .i64 an, .slice a_ar ar.length c_ar] 24, imm (.slice a_br br.length c_br) br, imm (.slice a_ar ar.length c_ar) ar])
  refine k (asg (v := .bool false) rfl rfl (z (nx (sq (sq (rg (k (asg (v := .int .i64 0) rfl rfl (z (nx (bk ?_)))))))))))
  refine lp (fun m f w' => ∃ (j : Nat), m = ar.length - j ∧ f 2 = .pointer (some ⟨bb0, 0, none⟩) ∧ f 3 = .pointer (some ⟨bb1, 0, none⟩) ∧ f 5 = .int .i64 (j : Int) ∧  HI M w w' [box bb1 #[.int .i64 bn, .slice a_br br.length c_br] 24, box bb0 #[.int .i64 an, .slice a_ar ar.length c_ar] 24, imm (.slice a_br br.length c_br) br, imm (.slice a_ar ar.length c_ar) ar] ∧ (j ≤ ar.length) ∧ (subRs ar br j = true)) _ ⟨0, rfl, rfl, rfl, (ieq rfl (by first | rfl | omega | simp)), H3, (by first | assumption | omega | simp | (simp; omega)), (by rfl)⟩ ?_
  rintro _ f0 w2 ⟨j, rfl, s0, s1, s2, H4, hk, hs⟩
  refine sq (sq (rg (k (mv rfl s2 (k (fa fl24_0 rfl s0 (k (ldX H4 1 rfl ty3 rfl rfl (by decide) rfl (k (lss rfl rfl rfl rfl (k (mv (v := .bool (decide ((j : Int) < an))) rfl rfl ?_))))))))))))
  rcases Bool.eq_false_or_eq_true (decide ((j : Int) < an)) with b0 | b0
  · -- decide ((j : Int) < an) is True
    have p0 := of_decide_eq_true b0
    refine k (gy rfl rfl rfl b0 (fa fl24_0 rfl s0 (k (gy rfl rfl rfl b0 (ldX H4 1 rfl ty3 rfl rfl (by decide) rfl (k (gy rfl rfl rfl b0 (fa fl24_0 rfl s1 (k (gy rfl rfl rfl b0 (ldX H4 0 rfl ty3 rfl rfl (by decide) rfl (k (gy rfl rfl rfl b0 (eql rfl rfl rfl rfl (k (pickT rfl rfl rfl rfl b0 rfl (z (nx ?_))))))))))))))))))
    refine cd (b := decide (an = bn)) rfl rfl (fun b1 => ?_) (fun b1 => ?_)
    ·
      have p1 := of_decide_eq_true b1
      refine sk (nx (sq (bk (sq ?_))))
      obtain ⟨x0, hx0⟩ : ∃ x, ar[(j : Int).toNat]? = some x := ⟨_, List.getElem?_eq_getElem (by first | omega | (simp; omega))⟩
      obtain ⟨x1, hx1⟩ : ∃ x, br[(j : Int).toNat]? = some x := ⟨_, List.getElem?_eq_getElem (by first | omega | (simp; omega))⟩
      refine dr 10 [fun (v : Value) (w' : World) => v = .pointer (some ⟨bb0, 1, none⟩), fun (v : Value) (w' : World) => v = .slice a_ar ar.length c_ar, fun (v : Value) (w' : World) => v = .int .i64 (j : Int), fun (v : Value) (w' : World) => ∃ (ad0 : Addr), v = .pointer (some ad0) ∧ At (MS M [box bb1 #[.int .i64 bn, .slice a_br br.length c_br] 24, box bb0 #[.int .i64 an, .slice a_ar ar.length c_ar] 24, imm (.slice a_br br.length c_br) br, imm (.slice a_ar ar.length c_ar) ar]) w' ad0 x0, fun (v : Value) (w' : World) => ∃ (a0 : Option Addr) (c0 : Nat), v = .slice a0 x0.length c0 ∧ RV (MS M [box bb1 #[.int .i64 bn, .slice a_br br.length c_br] 24, box bb0 #[.int .i64 an, .slice a_ar ar.length c_ar] 24, imm (.slice a_br br.length c_br) br, imm (.slice a_ar ar.length c_ar) ar]) w' (.slice a0 x0.length c0) x0, fun (v : Value) (w' : World) => v = .pointer (some ⟨bb1, 1, none⟩), fun (v : Value) (w' : World) => v = .slice a_br br.length c_br, fun (v : Value) (w' : World) => v = .int .i64 (j : Int), fun (v : Value) (w' : World) => ∃ (ad1 : Addr), v = .pointer (some ad1) ∧ At (MS M [box bb1 #[.int .i64 bn, .slice a_br br.length c_br] 24, box bb0 #[.int .i64 an, .slice a_ar ar.length c_ar] 24, imm (.slice a_br br.length c_br) br, imm (.slice a_ar ar.length c_ar) ar]) w' ad1 x1, fun (v : Value) (w' : World) => ∃ (a1 : Option Addr) (c1 : Nat), v = .slice a1 x1.length c1 ∧ RV (MS M [box bb1 #[.int .i64 bn, .slice a_br br.length c_br] 24, box bb0 #[.int .i64 an, .slice a_ar ar.length c_ar] 24, imm (.slice a_br br.length c_br) br, imm (.slice a_ar ar.length c_ar) ar]) w' (.slice a1 x1.length c1) x1] rfl (by kernel_rfl) ?_ ?_
      ·
        refine ⟨fun _ => ⟨fun f1 w3 hf0 xt2 hp0 => ?_, fun _ _ _ _ h => h⟩, ?_⟩
        ·
          have H7 := H4.ext xt2
          refine fa fl24_1 rfl ((hf0 2 rfl).trans s0) ?_
          exact ⟨_, rfl, Ext.refl _, rfl⟩
        refine ⟨fun _ => ⟨fun f2 w4 hf1 xt3 hp1 => ?_, fun _ _ _ _ h => h⟩, ?_⟩
        ·
          have H8 := H4.ext xt3
          have s3 : f2 19 = .pointer (some ⟨bb0, 1, none⟩) := hp1 0 rfl rfl
          refine ldX H8 1 rfl ty22 rfl s3 (by decide) rfl ?_
          exact ⟨_, rfl, Ext.refl _, rfl⟩
        refine ⟨fun _ => ⟨fun f3 w5 hf2 xt4 hp2 => ?_, fun _ _ _ _ h => h⟩, ?_⟩
        ·
          have H9 := H4.ext xt4
          refine mv rfl ((hf2 5 rfl).trans s2) ?_
          exact ⟨_, rfl, Ext.refl _, rfl⟩
        refine ⟨fun _ => ⟨fun f4 w6 hf3 xt5 hp3 => ?_, by rintro _ _ _ x_ ⟨ad0, e_, hA0⟩; exact ⟨ad0, e_, hA0.lift (Up.ext x_)⟩⟩, ?_⟩
        ·
          have H10 := H4.ext xt5
          have s4 : f4 20 = .slice a_ar ar.length c_ar := hp3 1 rfl rfl
          have s5 : f4 21 = .int .i64 (j : Int) := hp3 2 rfl rfl
          refine ia (H10.rv 3 rfl) rfl rfl s4 s5 (by first | omega | (simp; omega)) un22 ty73 ?_
          intro ad2 x2 hx2 hA2
          obtain rfl : x0 = x2 := Option.some.inj (hx0.symm.trans hx2)
          exact ⟨_, rfl, Ext.refl _, ⟨ad2, rfl, hA2⟩⟩
        refine ⟨fun _ => ⟨fun f5 w7 hf4 xt6 hp4 => ?_, by rintro _ _ _ x_ ⟨a0, c0, e_, rv0⟩; exact ⟨a0, c0, e_, rv0.lift (Up.ext x_)⟩⟩, ?_⟩
        ·
          have H11 := H4.ext xt6
          obtain ⟨ad3, s6, hA3⟩ : ∃ (ad3 : Addr), f5 22 = .pointer (some ad3) ∧ At (MS M [box bb1 #[.int .i64 bn, .slice a_br br.length c_br] 24, box bb0 #[.int .i64 an, .slice a_ar ar.length c_ar] 24, imm (.slice a_br br.length c_br) br, imm (.slice a_ar ar.length c_ar) ar]) w7 ad3 x0 := hp4 3 rfl rfl
          have H12 := H11.put (it := atI ad3 x0) rfl hA3
          refine ldL (H12.atv 0 rfl).w ty73 rfl s6 ?_
          intro a2 c2 rv2
          have ln2 := rv_len rv2
          have H13 := H12.put (it := imm (.slice a2 x0.length c2) x0) rfl rv2
          exact ⟨_, rfl, Ext.refl _, ⟨a2, c2, rfl, (rv_drop rfl rv2)⟩⟩
        refine ⟨fun _ => ⟨fun f6 w8 hf5 xt7 hp5 => ?_, fun _ _ _ _ h => h⟩, ?_⟩
        ·
          have H14 := H4.ext xt7
          refine fa fl24_1 rfl ((hf5 3 rfl).trans s1) ?_
          exact ⟨_, rfl, Ext.refl _, rfl⟩
        refine ⟨fun _ => ⟨fun f7 w9 hf6 xt8 hp6 => ?_, fun _ _ _ _ h => h⟩, ?_⟩
        ·
          have H15 := H4.ext xt8
          have s7 : f7 24 = .pointer (some ⟨bb1, 1, none⟩) := hp6 5 rfl rfl
          refine ldX H15 0 rfl ty22 rfl s7 (by decide) rfl ?_
          exact ⟨_, rfl, Ext.refl _, rfl⟩
        refine ⟨fun _ => ⟨fun f8 w10 hf7 xt9 hp7 => ?_, fun _ _ _ _ h => h⟩, ?_⟩
        ·
          have H16 := H4.ext xt9
          refine mv rfl ((hf7 5 rfl).trans s2) ?_
          exact ⟨_, rfl, Ext.refl _, rfl⟩
        refine ⟨fun _ => ⟨fun f9 w11 hf8 xt10 hp8 => ?_, by rintro _ _ _ x_ ⟨ad1, e_, hA1⟩; exact ⟨ad1, e_, hA1.lift (Up.ext x_)⟩⟩, ?_⟩
        ·
          have H17 := H4.ext xt10
          have s8 : f9 25 = .slice a_br br.length c_br := hp8 6 rfl rfl
          have s9 : f9 26 = .int .i64 (j : Int) := hp8 7 rfl rfl
          refine ia (H17.rv 2 rfl) rfl rfl s8 s9 (by first | omega | (simp; omega)) un22 ty73 ?_
          intro ad4 x3 hx3 hA4
          obtain rfl : x1 = x3 := Option.some.inj (hx1.symm.trans hx3)
          exact ⟨_, rfl, Ext.refl _, ⟨ad4, rfl, hA4⟩⟩
        refine ⟨fun _ => ⟨fun f10 w12 hf9 xt11 hp9 => ?_, by rintro _ _ _ x_ ⟨a1, c1, e_, rv1⟩; exact ⟨a1, c1, e_, rv1.lift (Up.ext x_)⟩⟩, ?_⟩
        ·
          have H18 := H4.ext xt11
          obtain ⟨ad5, s10, hA5⟩ : ∃ (ad5 : Addr), f10 27 = .pointer (some ad5) ∧ At (MS M [box bb1 #[.int .i64 bn, .slice a_br br.length c_br] 24, box bb0 #[.int .i64 an, .slice a_ar ar.length c_ar] 24, imm (.slice a_br br.length c_br) br, imm (.slice a_ar ar.length c_ar) ar]) w12 ad5 x1 := hp9 8 rfl rfl
          have H19 := H18.put (it := atI ad5 x1) rfl hA5
          refine ldL (H19.atv 0 rfl).w ty73 rfl s10 ?_
          intro a3 c3 rv3
          have ln3 := rv_len rv3
          have H20 := H19.put (it := imm (.slice a3 x1.length c3) x1) rfl rv3
          exact ⟨_, rfl, Ext.refl _, ⟨a3, c3, rfl, (rv_drop rfl rv3)⟩⟩
        exact DSteps.rest rfl _
      · intro f11 w13 hf10 xt12 hp10
        have H21 := H4.ext xt12
        have s11 : f11 2 = .pointer (some ⟨bb0, 0, none⟩) := (hf10 2 rfl).trans s0
        have s12 : f11 3 = .pointer (some ⟨bb1, 0, none⟩) := (hf10 3 rfl).trans s1
        have s13 : f11 5 = .int .i64 (j : Int) := (hf10 5 rfl).trans s2
        obtain ⟨a4, c4, s14, rv4⟩ : ∃ (a4 : Option Addr) (c4 : Nat), f11 23 = .slice a4 x0.length c4 ∧ RV (MS M [box bb1 #[.int .i64 bn, .slice a_br br.length c_br] 24, box bb0 #[.int .i64 an, .slice a_ar ar.length c_ar] 24, imm (.slice a_br br.length c_br) br, imm (.slice a_ar ar.length c_ar) ar]) w13 (.slice a4 x0.length c4) x0 := hp10 4 rfl
        have H22 := H21.put (it := imm (.slice a4 x0.length c4) x0) rfl rv4
        obtain ⟨a5, c5, s15, rv5⟩ : ∃ (a5 : Option Addr) (c5 : Nat), f11 28 = .slice a5 x1.length c5 ∧ RV (MS M [box bb1 #[.int .i64 bn, .slice a_br br.length c_br] 24, box bb0 #[.int .i64 an, .slice a_ar ar.length c_ar] 24, imm (.slice a_br br.length c_br) br, imm (.slice a_ar ar.length c_ar) ar]) w13 (.slice a5 x1.length c5) x1 := hp10 9 rfl
        have H23 := H22.put (it := imm (.slice a5 x1.length c5) x1) rfl (by rw [MS_cons_none rfl]; exact rv5)
        refine k ?_
        have cc0 := ref02_Sub (a := x0) (b := x1) (w := w13) H23.mb (H23.rv 1 rfl) (H23.rv 0 rfl) (by first | exact hrw_a _ (List.mem_of_getElem? hx0) | exact hrw_b _ (List.mem_of_getElem? hx1)) (by first | exact hrw_a _ (List.mem_of_getElem? hx0) | exact hrw_b _ (List.mem_of_getElem? hx1))
        refine ca go72 rfl (ec s14 (ec s15 e0)) cc0 ?_
        rintro _ w14 ⟨rfl, xt13⟩
        have H24 := H23.ext xt13
        refine k (not_ rfl rfl (z (nx ?_)))
        refine cd (b := !(subR x0 x1)) rfl rfl (fun b2 => ?_) (fun b2 => ?_)
        ·
          refine sq (rg (k (asg (v := .bool false) rfl rfl (z (nx (rt (inb_ret (then_ret (loop_ret (inb_ret (then_ret (r1 rfl rfl ?_))))))))))))
          have e0 : (false : Bool) = subM an ar bn br := by first | exact subM_no (i := j) (by omega) hx0 hx1 (by simpa using b2) | exact subM_no (i := j) (by omega) hx0 hx1 (by assumption) | (exact if h_ : an = bn then (by rw [decide_eq_true h_]; exact subM_yes h_ (by omega) (by omega) hs) else (by rw [decide_eq_false h_]; exact subM_ne h_))
          have ev_ := cg1 (fun (x_0 : Bool) => (.bool x_0 : Value)) e0
          exact ⟨ev_, H24.below⟩
        ·
          refine sk (inb_normal (nx (rg (k (mv rfl s13 (k (add rfl rfl rfl rfl (by unfold I64 at *; omega) (k (asg (v := .int .i64 ((j : Int) + 1)) rfl rfl (z ?_))))))))))
          have H25 : HI M w w14 [box bb1 #[.int .i64 bn, .slice a_br br.length c_br] 24, box bb0 #[.int .i64 an, .slice a_ar ar.length c_ar] 24, imm (.slice a_br br.length c_br) br, imm (.slice a_ar ar.length c_ar) ar] := H24.pickN [2, 3, 4, 5] (by decide) rfl
          refine loopN _ ?_ ⟨(j + 1), rfl, s11, s12, (ieq rfl (by first | rfl | omega | (push_cast; omega))), H25, (by first | assumption | omega | simp | (simp; omega)), (by first | exact subRs_step hs hx0 hx1 (by assumption) | exact subRs_step hs hx0 hx1 (by simpa using b2))⟩
          omega
    ·
      have p1 := of_decide_eq_false b1
      refine ex (then_exit (loop_exit (inb_here (nx (sq (rg (k (fa fl24_0 rfl s0 (k (ldX H4 1 rfl ty3 rfl rfl (by decide) rfl (k (fa fl24_0 rfl s1 (k (ldX H4 0 rfl ty3 rfl rfl (by decide) rfl (k (eql rfl rfl rfl rfl (k (asg (v := .bool (decide (an = bn))) rfl rfl (z (nx (rt (r1 rfl rfl ?_))))))))))))))))))))))
      have e0 : (decide (an = bn) : Bool) = subM an ar bn br := by first | exact subM_no (i := j) (by omega) hx0 hx1 (by simpa using b2) | exact subM_no (i := j) (by omega) hx0 hx1 (by assumption) | (exact if h_ : an = bn then (by rw [decide_eq_true h_]; exact subM_yes h_ (by omega) (by omega) hs) else (by rw [decide_eq_false h_]; exact subM_ne h_))
      have ev_ := cg1 (fun (x_0 : Bool) => (.bool x_0 : Value)) e0
      exact ⟨ev_, H4.below⟩
  · -- decide ((j : Int) < an) is False
    have p0 := of_decide_eq_false b0
    refine k (gn rfl rfl rfl b0 (k (gn rfl rfl rfl b0 (k (gn rfl rfl rfl b0 (k (gn rfl rfl rfl b0 (k (gn rfl rfl rfl b0 (k (pickF rfl rfl rfl rfl b0 rfl (z (nx (cdF rfl rfl rfl (ex (then_exit (loop_exit (inb_here (nx (sq (rg (k (fa fl24_0 rfl s0 (k (ldX H4 1 rfl ty3 rfl rfl (by decide) rfl (k (fa fl24_0 rfl s1 (k (ldX H4 0 rfl ty3 rfl rfl (by decide) rfl (k (eql rfl rfl rfl rfl (k (asg (v := .bool (decide (an = bn))) rfl rfl (z (nx (rt (r1 rfl rfl ?_)))))))))))))))))))))))))))))))))))))
    have e0 : (decide (an = bn) : Bool) = subM an ar bn br := by first | exact subM_no (i := j) (by omega) hx0 hx1 (by simpa using b2) | exact subM_no (i := j) (by omega) hx0 hx1 (by assumption) | (exact if h_ : an = bn then (by rw [decide_eq_true h_]; exact subM_yes h_ (by omega) (by omega) hs) else (by rw [decide_eq_false h_]; exact subM_ne h_))
    have ev_ := cg1 (fun (x_0 : Bool) => (.bool x_0 : Value)) e0
    exact ⟨ev_, H4.below⟩
/- eyewitness/eyewitnessref03.Small -/
set_option maxRecDepth 100000 in
set_option maxHeartbeats 1600000 in
theorem ref03_Small {M : Nat → Prop} {w : World} {mn : Int} {a_mr : Option Addr} {c_mr : Nat} {mr : List (List (BitVec 64))} {mo : Int} (hM : ∀ b, M b → b < w.heap.size) (h_mn : I64 mn) (h_mr : RV M w (.slice a_mr mr.length c_mr) mr) (h_mo : I64 mo) : Calls Tryd.prog 12 #[.agg #[.int .i64 mn, .slice a_mr mr.length c_mr], .int .i64 mo] w (Ret fun v w' =>  v = .bool (smallM mr mo) ∧ Ext w w') := by
  refine enter 25 Tryd.func12 rfl rfl rfl fun f0 ha => ?_
  have H := HI.start (M0 := M) (w := w) hM
  have H0 := H.put (it := imm (.slice a_mr mr.length c_mr) mr) rfl (by rw [MS_nil]; exact h_mr)
  have ln_mr := rv_len h_mr
  have i0 : f0 0 = .agg #[.int .i64 mn, .slice a_mr mr.length c_mr] := ha 0 (by simp)
  have i1 : f0 1 = .int .i64 mo := ha 1 (by simp)
  refine sq (rg (k (bx H0 rfl i0 ?_)))
  intro bb0 w0 xt0 (H1 : HI M w w0 [box bb0 #[.int .i64 mn, .slice a_mr mr.length c_mr] 24, imm (.slice a_mr mr.length c_mr) mr])
  refine k (asg (v := .bool false) rfl rfl (z (nx (sq (sq (rg (k (fa fl24_1 rfl rfl (k (ldX H1 0 rfl ty22 rfl rfl (by decide) rfl (k (lnS rfl rfl un22 (k (mv rfl i1 (k (gtr rfl rfl rfl rfl (z (nx ?_))))))))))))))))))
  refine cd (b := decide (mo < (mr.length : Int))) rfl rfl (fun b0 => ?_) (fun b0 => ?_)
  ·
    have p0 := of_decide_eq_true b0
    refine sq (rg (k (asg (v := .bool false) rfl rfl (z (nx (rt (then_ret (r1 rfl rfl ?_))))))))
    have e0 : (false : Bool) = smallM mr mo := by first | exact smallM_big (by omega) | exact smallM_row hx0 (by omega) | exact smallM_end (by omega) hs (by omega)
    have ev_ := cg1 (fun (x_0 : Bool) => (.bool x_0 : Value)) e0
    exact ⟨ev_, H1.below⟩
  ·
    have p0 := of_decide_eq_false b0
    refine sk (nx (sq (sq (rg (k (asg (v := .int .i64 0) rfl rfl (z (nx (bk ?_)))))))))
    refine lp (fun m f w' => ∃ (j : Nat), m = mr.length - j ∧ f 2 = .pointer (some ⟨bb0, 0, none⟩) ∧ f 5 = .int .i64 (j : Int) ∧  HI M w w' [box bb0 #[.int .i64 mn, .slice a_mr mr.length c_mr] 24, imm (.slice a_mr mr.length c_mr) mr] ∧ (j ≤ mr.length) ∧ ((mr.take j).all (fun r => decide (r.length ≤ 4)) = true)) _ ⟨0, rfl, rfl, (ieq rfl (by first | rfl | omega | simp)), H1, (by first | assumption | omega | simp | (simp; omega)), (by rfl)⟩ ?_
    rintro _ f0 w1 ⟨j, rfl, s0, s1, H2, hk, hs⟩
    refine sq (sq (rg (k (mv rfl s1 (k (fa fl24_1 rfl s0 (k (ldX H2 0 rfl ty22 rfl rfl (by decide) rfl (k (lnS rfl rfl un22 (k (lss rfl rfl rfl rfl (z (nx ?_))))))))))))))
    refine cd (b := decide ((j : Int) < (mr.length : Int))) rfl rfl (fun b1 => ?_) (fun b1 => ?_)
    ·
      have p1 := of_decide_eq_true b1
      refine sk (nx (sq (bk (sq (rg (k (fa fl24_1 rfl s0 (k (ldX H2 0 rfl ty22 rfl rfl (by decide) rfl (k (mv rfl s1 (k (ia (H2.rv 1 rfl) rfl rfl rfl rfl (by first | omega | (simp; omega)) un22 ty73 ?_)))))))))))))
      intro ad0 x0 hx0 hA0
      refine k (ldL hA0.w ty73 rfl rfl ?_)
      intro a0 c0 rv0
      have ln0 := rv_len rv0
      have H3 := H2.put (it := imm (.slice a0 x0.length c0) x0) rfl rv0
      refine k (lnS rfl rfl un73 (k (gtr rfl rfl rfl rfl (z (nx ?_)))))
      refine cd (b := decide (4 < (x0.length : Int))) rfl rfl (fun b2 => ?_) (fun b2 => ?_)
      ·
        have p2 := of_decide_eq_true b2
        refine sq (rg (k (asg (v := .bool false) rfl rfl (z (nx (rt (inb_ret (then_ret (loop_ret (inb_ret (then_ret (r1 rfl rfl ?_))))))))))))
        have e0 : (false : Bool) = smallM mr mo := by first | exact smallM_big (by omega) | exact smallM_row hx0 (by omega) | exact smallM_end (by omega) hs (by omega)
        have ev_ := cg1 (fun (x_0 : Bool) => (.bool x_0 : Value)) e0
        exact ⟨ev_, H3.below⟩
      ·
        have p2 := of_decide_eq_false b2
        refine sk (inb_normal (nx (rg (k (mv rfl s1 (k (add rfl rfl rfl rfl (by unfold I64 at *; omega) (k (asg (v := .int .i64 ((j : Int) + 1)) rfl rfl (z ?_))))))))))
        have H4 : HI M w w1 [box bb0 #[.int .i64 mn, .slice a_mr mr.length c_mr] 24, imm (.slice a_mr mr.length c_mr) mr] := H3.pickN [1, 2] (by decide) rfl
        refine loopN _ ?_ ⟨(j + 1), rfl, s0, (ieq rfl (by first | rfl | omega | (push_cast; omega))), H4, (by first | assumption | omega | simp | (simp; omega)), (by exact all_take hx0 hs (decide_eq_true (by omega)))⟩
        omega
    ·
      have p1 := of_decide_eq_false b1
      refine ex (then_exit (loop_exit (inb_here (nx (sq (rg (k (asg (v := .bool true) rfl rfl (z (nx (rt (r1 rfl rfl ?_))))))))))))
      have e0 : (true : Bool) = smallM mr mo := by first | exact smallM_big (by omega) | exact smallM_row hx0 (by omega) | exact smallM_end (by omega) hs (by omega)
      have ev_ := cg1 (fun (x_0 : Bool) => (.bool x_0 : Value)) e0
      exact ⟨ev_, H2.below⟩
/- eyewitness/eyewitnessref04.Closed -/
set_option maxRecDepth 100000 in
set_option maxHeartbeats 1600000 in
theorem ref04_Closed {M : Nat → Prop} {w : World} {mn : Int} {a_mr : Option Addr} {c_mr : Nat} {mr : List (List (BitVec 64))} (hM : ∀ b, M b → b < w.heap.size) (h_mn : I64 mn) (h_mr : RV M w (.slice a_mr mr.length c_mr) mr) (hsq_m : ((mr.length : Nat) : Int) = mn) (hrw_m : ∀ x ∈ mr, x.length ≤ 1000000000) (hl4_m : mn ≤ 4096) : Calls Tryd.prog 24 #[.agg #[.int .i64 mn, .slice a_mr mr.length c_mr]] w (Ret fun v w' =>  v = .bool (closedM mn mr) ∧ Ext w w') := by
  refine enter 41 Tryd.func24 rfl rfl rfl fun f0 ha => ?_
  have H := HI.start (M0 := M) (w := w) hM
  have H0 := H.put (it := imm (.slice a_mr mr.length c_mr) mr) rfl (by rw [MS_nil]; exact h_mr)
  have ln_mr := rv_len h_mr
  have i0 : f0 0 = .agg #[.int .i64 mn, .slice a_mr mr.length c_mr] := ha 0 (by simp)
  refine sq (rg (k (bx H0 rfl i0 ?_)))
  intro bb0 w0 xt0 (H1 : HI M w w0 [box bb0 #[.int .i64 mn, .slice a_mr mr.length c_mr] 24, imm (.slice a_mr mr.length c_mr) mr])
  refine k (asg (v := .bool false) rfl rfl (z (nx (sq (sq (rg (k (asg (v := .int .i64 0) rfl rfl (z (nx (bk ?_)))))))))))
  refine lp (fun m f w' => ∃ (i : Nat), m = mn.toNat - i ∧ f 1 = .pointer (some ⟨bb0, 0, none⟩) ∧ f 3 = .int .i64 (i : Int) ∧  HI M w w' [box bb0 #[.int .i64 mn, .slice a_mr mr.length c_mr] 24, imm (.slice a_mr mr.length c_mr) mr] ∧ (((i : Nat) : Int) ≤ mn ∨ i = 0) ∧ ((List.range i).all (cl1 mn mr) = true)) _ ⟨0, rfl, rfl, (ieq rfl (by first | rfl | omega | simp)), H1, (by right; rfl), (by rfl)⟩ ?_
  rintro _ f0 w1 ⟨i, rfl, s0, s1, H2, hi_, hs⟩
  refine sq (sq (rg (k (mv rfl s1 (k (fa fl24_0 rfl s0 (k (ldX H2 0 rfl ty3 rfl rfl (by decide) rfl (k (lss rfl rfl rfl rfl (z (nx ?_))))))))))))
  refine cd (b := decide ((i : Int) < mn)) rfl rfl (fun b0 => ?_) (fun b0 => ?_)
  ·
    have p0 := of_decide_eq_true b0
    refine sk (nx (sq (bk (sq (rg (k (asg (v := .int .i64 0) rfl rfl (z (nx (bk ?_))))))))))
    refine lp (fun m f w' => ∃ (j : Nat), m = mn.toNat - j ∧ f 1 = .pointer (some ⟨bb0, 0, none⟩) ∧ f 3 = .int .i64 (i : Int) ∧ f 4 = .int .i64 (j : Int) ∧  HI M w w' [box bb0 #[.int .i64 mn, .slice a_mr mr.length c_mr] 24, imm (.slice a_mr mr.length c_mr) mr] ∧ (((j : Nat) : Int) ≤ mn ∨ j = 0) ∧ ((List.range j).all (cl2 mn mr i) = true)) _ ⟨0, rfl, s0, s1, (ieq rfl (by first | rfl | omega | simp)), H2, (by right; rfl), (by rfl)⟩ ?_
    rintro _ f1 w2 ⟨j, rfl, s2, s3, s4, H3, hj_, hs2⟩
    refine sq (sq (rg (k (mv rfl s4 (k (fa fl24_0 rfl s2 (k (ldX H3 0 rfl ty3 rfl rfl (by decide) rfl (k (lss rfl rfl rfl rfl (z (nx ?_))))))))))))
    refine cd (b := decide ((j : Int) < mn)) rfl rfl (fun b1 => ?_) (fun b1 => ?_)
    ·
      have p1 := of_decide_eq_true b1
      refine sk (nx (sq (bk (sq (rg (k (asg (v := .int .i64 0) rfl rfl (z (nx (bk ?_))))))))))
      refine lp (fun m f w' => ∃ (q : Nat), m = mn.toNat - q ∧ f 1 = .pointer (some ⟨bb0, 0, none⟩) ∧ f 3 = .int .i64 (i : Int) ∧ f 4 = .int .i64 (j : Int) ∧ f 5 = .int .i64 (q : Int) ∧  HI M w w' [box bb0 #[.int .i64 mn, .slice a_mr mr.length c_mr] 24, imm (.slice a_mr mr.length c_mr) mr] ∧ (((q : Nat) : Int) ≤ mn ∨ q = 0) ∧ ((List.range q).all (cl3 mn mr i j) = true)) _ ⟨0, rfl, s2, s3, s4, (ieq rfl (by first | rfl | omega | simp)), H3, (by right; rfl), (by rfl)⟩ ?_
      rintro _ f2 w3 ⟨q, rfl, s5, s6, s7, s8, H4, hq_, hs3⟩
      refine sq (sq (rg (k (mv rfl s8 (k (fa fl24_0 rfl s5 (k (ldX H4 0 rfl ty3 rfl rfl (by decide) rfl (k (lss rfl rfl rfl rfl (k (mv (v := .bool (decide ((q : Int) < mn))) rfl rfl ?_))))))))))))
      rcases Bool.eq_false_or_eq_true (decide ((q : Int) < mn)) with b2 | b2
      · -- decide ((q : Int) < mn) is True
        have p2 := of_decide_eq_true b2
        refine k (gy rfl rfl rfl b2 (ldX H4 0 rfl ty24 rfl s5 (by decide) rfl (k (gy rfl rfl rfl b2 (mv rfl s6 (k (gy rfl rfl rfl b2 (mv rfl s7 (k (gy rfl rfl rfl b2 ?_))))))))))
        have cc0 := ref03_Has (mn := mn) (mr := mr) (i := (i : Int)) (j := (j : Int)) (w := w3) H4.mb (by unfold I64 at *; omega) (H4.rv 1 rfl) (by unfold I64 at *; omega) (by unfold I64 at *; omega) (by first | assumption | omega) (by first | assumption | omega) (by first | assumption | omega)
        refine ca go45 rfl (ec rfl (ec rfl (ec rfl e0))) cc0 ?_
        rintro _ w4 ⟨rfl, xt1⟩
        have H5 := H4.ext xt1
        refine k (pickT rfl rfl rfl rfl b2 rfl (z (nx ?_)))
        refine cd (b := hasM mn mr (i : Int) (j : Int)) rfl rfl (fun b3 => ?_) (fun b3 => ?_)
        ·
          refine sk (nx (sq (bk (sq (rg (k (ldX H5 0 rfl ty24 rfl s5 (by decide) rfl (k (mv rfl s7 (k (mv rfl s8 (k ?_))))))))))))
          have cc1 := ref03_Has (mn := mn) (mr := mr) (i := (j : Int)) (j := (q : Int)) (w := w4) H5.mb (by unfold I64 at *; omega) (H5.rv 1 rfl) (by unfold I64 at *; omega) (by unfold I64 at *; omega) (by first | assumption | omega) (by first | assumption | omega) (by first | assumption | omega)
          refine ca go45 rfl (ec rfl (ec rfl (ec rfl e0))) cc1 ?_
          rintro _ w5 ⟨rfl, xt2⟩
          have H6 := H5.ext xt2
          refine k (mv (v := .bool (hasM mn mr (j : Int) (q : Int))) rfl rfl ?_)
          rcases Bool.eq_false_or_eq_true (hasM mn mr (j : Int) (q : Int)) with b4 | b4
          · -- hasM mn mr (j : Int) (q : Int) is True
            refine k (gy rfl rfl rfl b4 (ldX H6 0 rfl ty24 rfl s5 (by decide) rfl (k (gy rfl rfl rfl b4 (mv rfl s6 (k (gy rfl rfl rfl b4 (mv rfl s8 (k (gy rfl rfl rfl b4 ?_))))))))))
            have cc2 := ref03_Has (mn := mn) (mr := mr) (i := (i : Int)) (j := (q : Int)) (w := w5) H6.mb (by unfold I64 at *; omega) (H6.rv 1 rfl) (by unfold I64 at *; omega) (by unfold I64 at *; omega) (by first | assumption | omega) (by first | assumption | omega) (by first | assumption | omega)
            refine ca go45 rfl (ec rfl (ec rfl (ec rfl e0))) cc2 ?_
            rintro _ w6 ⟨rfl, xt3⟩
            have H7 := H6.ext xt3
            refine k (gy rfl rfl rfl b4 (not_ rfl rfl (k (pickT rfl rfl rfl rfl b4 rfl (z (nx ?_))))))
            refine cd (b := !(hasM mn mr (i : Int) (q : Int))) rfl rfl (fun b5 => ?_) (fun b5 => ?_)
            ·
              refine sq (rg (k (asg (v := .bool false) rfl rfl (z (nx (rt (inb_ret (then_ret (loop_ret (inb_ret (inb_ret (then_ret (loop_ret (inb_ret (inb_ret (then_ret (loop_ret (inb_ret (then_ret (r1 rfl rfl ?_))))))))))))))))))))
              have e0 : (false : Bool) = closedM mn mr := by first | exact closed_no p0 p1 p2 b3 b4 (by simpa using b5) | exact (ra_end hs (by omega)).symm
              have ev_ := cg1 (fun (x_0 : Bool) => (.bool x_0 : Value)) e0
              exact ⟨ev_, H7.below⟩
            ·
              refine sk (inb_normal (nx (rg (k (mv rfl s8 (k (add rfl rfl rfl rfl (by unfold I64 at *; omega) (k (asg (v := .int .i64 ((q : Int) + 1)) rfl rfl (z ?_))))))))))
              refine loopN _ ?_ ⟨(q + 1), rfl, s5, s6, s7, (ieq rfl (by first | rfl | omega | (push_cast; omega))), H7, (by left; omega), (by first | exact ra_step hs3 (cl3_yes (.inl (by assumption))) | exact ra_step hs3 (cl3_yes (.inr (by simpa using b5))))⟩
              omega
          · -- hasM mn mr (j : Int) (q : Int) is False
            refine k (gn rfl rfl rfl b4 (k (gn rfl rfl rfl b4 (k (gn rfl rfl rfl b4 (k (gn rfl rfl rfl b4 (k (gn rfl rfl rfl b4 (k (pickF rfl rfl rfl rfl b4 rfl (z (nx (cdF rfl rfl rfl (sk (inb_normal (nx (rg (k (mv rfl s8 (k (add rfl rfl rfl rfl (by unfold I64 at *; omega) (k (asg (v := .int .i64 ((q : Int) + 1)) rfl rfl (z ?_)))))))))))))))))))))))))
            refine loopN _ ?_ ⟨(q + 1), rfl, s5, s6, s7, (ieq rfl (by first | rfl | omega | (push_cast; omega))), H6, (by left; omega), (by first | exact ra_step hs3 (cl3_yes (.inl (by assumption))) | exact ra_step hs3 (cl3_yes (.inr (by simpa using b5))))⟩
            omega
        ·
          refine ex (then_exit (loop_exit (inb_here (inb_normal (nx (rg (k (mv rfl s7 (k (add rfl rfl rfl rfl (by unfold I64 at *; omega) (k (asg (v := .int .i64 ((j : Int) + 1)) rfl rfl (z ?_)))))))))))))
          refine loopN _ ?_ ⟨(j + 1), rfl, s5, s6, (ieq rfl (by first | rfl | omega | (push_cast; omega))), H5, (by left; omega), (by first | exact ra_step hs2 (ra_end hs3 (by omega)) | exact ra_step hs2 (cl2_no (by assumption)))⟩
          omega
      · -- decide ((q : Int) < mn) is False
        have p2 := of_decide_eq_false b2
        refine k (gn rfl rfl rfl b2 (k (gn rfl rfl rfl b2 (k (gn rfl rfl rfl b2 (k (gn rfl rfl rfl b2 (k (pickF rfl rfl rfl rfl b2 rfl (z (nx (cdF rfl rfl rfl (ex (then_exit (loop_exit (inb_here (inb_normal (nx (rg (k (mv rfl s7 (k (add rfl rfl rfl rfl (by unfold I64 at *; omega) (k (asg (v := .int .i64 ((j : Int) + 1)) rfl rfl (z ?_))))))))))))))))))))))))))
        refine loopN _ ?_ ⟨(j + 1), rfl, s5, s6, (ieq rfl (by first | rfl | omega | (push_cast; omega))), H4, (by left; omega), (by first | exact ra_step hs2 (ra_end hs3 (by omega)) | exact ra_step hs2 (cl2_no (by assumption)))⟩
        omega
    ·
      have p1 := of_decide_eq_false b1
      refine ex (then_exit (loop_exit (inb_here (inb_normal (nx (rg (k (mv rfl s3 (k (add rfl rfl rfl rfl (by unfold I64 at *; omega) (k (asg (v := .int .i64 ((i : Int) + 1)) rfl rfl (z ?_)))))))))))))
      refine loopN _ ?_ ⟨(i + 1), rfl, s2, (ieq rfl (by first | rfl | omega | (push_cast; omega))), H3, (by left; omega), (by exact ra_step hs (ra_end hs2 (by omega)))⟩
      omega
  ·
    have p0 := of_decide_eq_false b0
    refine ex (then_exit (loop_exit (inb_here (nx (sq (rg (k (asg (v := .bool true) rfl rfl (z (nx (rt (r1 rfl rfl ?_))))))))))))
    have e0 : (true : Bool) = closedM mn mr := by first | exact closed_no p0 p1 p2 b3 b4 (by simpa using b5) | exact (ra_end hs (by omega)).symm
    have ev_ := cg1 (fun (x_0 : Bool) => (.bool x_0 : Value)) e0
    exact ⟨ev_, H2.below⟩
/- eyewitness/eyewitnessref04.Loop -/
set_option maxRecDepth 100000 in
set_option maxHeartbeats 1600000 in
theorem ref04_Loop {M : Nat → Prop} {w : World} {mn : Int} {a_mr : Option Addr} {c_mr : Nat} {mr : List (List (BitVec 64))} (hM : ∀ b, M b → b < w.heap.size) (h_mn : I64 mn) (h_mr : RV M w (.slice a_mr mr.length c_mr) mr) (hsq_m : ((mr.length : Nat) : Int) = mn) (hrw_m : ∀ x ∈ mr, x.length ≤ 1000000000) (hl4_m : mn ≤ 4096) : Calls Tryd.prog 32 #[.agg #[.int .i64 mn, .slice a_mr mr.length c_mr]] w (Ret fun v w' =>  v = .tuple #[.int .i64 (((loopF mn mr).getD 0 : Nat) : Int), .bool ((loopF mn mr).isSome)] ∧ Ext w w') := by
  refine enter 16 Tryd.func32 rfl rfl rfl fun f0 ha => ?_
  have H := HI.start (M0 := M) (w := w) hM
  have H0 := H.put (it := imm (.slice a_mr mr.length c_mr) mr) rfl (by rw [MS_nil]; exact h_mr)
  have ln_mr := rv_len h_mr
  have i0 : f0 0 = .agg #[.int .i64 mn, .slice a_mr mr.length c_mr] := ha 0 (by simp)
  refine sq (rg (k (bx H0 rfl i0 ?_)))
  intro bb0 w0 xt0 (H1 : HI M w w0 [box bb0 #[.int .i64 mn, .slice a_mr mr.length c_mr] 24, imm (.slice a_mr mr.length c_mr) mr])
  refine k (asg (v := .int .i64 0) rfl rfl (k (asg (v := .bool false) rfl rfl (z (nx (sq (sq (rg (k (asg (v := .int .i64 0) rfl rfl (z (nx (bk ?_)))))))))))))
  refine lp (fun m f w' => ∃ (j : Nat), m = mn.toNat - j ∧ f 1 = .pointer (some ⟨bb0, 0, none⟩) ∧ f 4 = .int .i64 (j : Int) ∧  HI M w w' [box bb0 #[.int .i64 mn, .slice a_mr mr.length c_mr] 24, imm (.slice a_mr mr.length c_mr) mr] ∧ (((j : Nat) : Int) ≤ mn ∨ j = 0) ∧ (∀ k, k < j → hasM mn mr ((k : Nat) : Int) ((k : Nat) : Int) = false)) _ ⟨0, rfl, rfl, (ieq rfl (by first | rfl | omega | simp)), H1, (by right; rfl), (by intro k_ h_; omega)⟩ ?_
  rintro _ f0 w1 ⟨j, rfl, s0, s1, H2, hk, hs⟩
  refine sq (sq (rg (k (mv rfl s1 (k (fa fl24_0 rfl s0 (k (ldX H2 0 rfl ty3 rfl rfl (by decide) rfl (k (lss rfl rfl rfl rfl (z (nx ?_))))))))))))
  refine cd (b := decide ((j : Int) < mn)) rfl rfl (fun b0 => ?_) (fun b0 => ?_)
  ·
    have p0 := of_decide_eq_true b0
    refine sk (nx (sq (bk (sq (rg (k (ldX H2 0 rfl ty24 rfl s0 (by decide) rfl (k (mv rfl s1 (k (mv rfl s1 (k ?_))))))))))))
    have cc0 := ref03_Has (mn := mn) (mr := mr) (i := (j : Int)) (j := (j : Int)) (w := w1) H2.mb (by unfold I64 at *; omega) (H2.rv 1 rfl) (by unfold I64 at *; omega) (by unfold I64 at *; omega) (by first | assumption | omega) (by first | assumption | omega) (by first | assumption | omega)
    refine ca go45 rfl (ec rfl (ec rfl (ec rfl e0))) cc0 ?_
    rintro _ w2 ⟨rfl, xt1⟩
    have H3 := H2.ext xt1
    refine z (nx ?_)
    refine cd (b := hasM mn mr (j : Int) (j : Int)) rfl rfl (fun b1 => ?_) (fun b1 => ?_)
    ·
      refine sq (rg (k (mv rfl s1 (k (asg (v := .int .i64 (j : Int)) rfl rfl (k (asg (v := .bool true) rfl rfl (z (nx (rt (inb_ret (then_ret (loop_ret (inb_ret (then_ret (r2 rfl rfl rfl ?_))))))))))))))))
      have e0 : ((j : Int) : Int) = (((loopF mn mr).getD 0 : Nat) : Int) := by first | (rw [loop_hit p0 b1 hs]; rfl) | (rw [loop_miss (by omega) hs]; rfl)
      have e1 : (true : Bool) = (loopF mn mr).isSome := by first | (rw [loop_hit p0 b1 hs]; rfl) | (rw [loop_miss (by omega) hs]; rfl)
      have ev_ := cg2 (fun (x_0 : Int) (x_1 : Bool) => (.tuple #[.int .i64 x_0, .bool x_1] : Value)) e0 e1
      exact ⟨ev_, H3.below⟩
    ·
      refine sk (inb_normal (nx (rg (k (mv rfl s1 (k (add rfl rfl rfl rfl (by unfold I64 at *; omega) (k (asg (v := .int .i64 ((j : Int) + 1)) rfl rfl (z ?_))))))))))
      refine loopN _ ?_ ⟨(j + 1), rfl, s0, (ieq rfl (by first | rfl | omega | (push_cast; omega))), H3, (by left; omega), (by exact below_step (p := fun k => hasM mn mr ((k : Nat) : Int) ((k : Nat) : Int)) hs b1)⟩
      omega
  ·
    have p0 := of_decide_eq_false b0
    refine ex (then_exit (loop_exit (inb_here (nx (sq (rg (k (asg (v := .int .i64 0) rfl rfl (k (asg (v := .bool false) rfl rfl (z (nx (rt (r2 rfl rfl rfl ?_))))))))))))))
    have e0 : (0 : Int) = (((loopF mn mr).getD 0 : Nat) : Int) := by first | (rw [loop_hit p0 b1 hs]; rfl) | (rw [loop_miss (by omega) hs]; rfl)
    have e1 : (false : Bool) = (loopF mn mr).isSome := by first | (rw [loop_hit p0 b1 hs]; rfl) | (rw [loop_miss (by omega) hs]; rfl)
    have ev_ := cg2 (fun (x_0 : Int) (x_1 : Bool) => (.tuple #[.int .i64 x_0, .bool x_1] : Value)) e0 e1
    exact ⟨ev_, H2.below⟩
end Go.Proofs.YtmhopljngkgidaaDoor
