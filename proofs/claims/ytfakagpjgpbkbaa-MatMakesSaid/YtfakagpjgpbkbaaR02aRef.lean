/- PRINTED by my own tool (wip/tool/gen.py): contracts of Go functions of this seat, each with its proof. -/
import Derived.Test.YtfakagpjgpbkbaaProg
import Derived.Test.YtfakagpjgpbkbaaEwSpecE
import Derived.Test.YtfakagpjgpbkbaaR02aFns
import Derived.Test.YtfakagpjgpbkbaaR02aMat
namespace Go.Proofs.Ytfakagpjgpbkbaa
open Go.Ew Go.RowKit
set_option linter.unusedVariables false
set_option linter.unusedSimpArgs false
attribute [local irreducible] WL WC SO Code.wp wpList retQ Ret
attribute [local irreducible] bitB hasW inR hasR setR countW countR subR words newR
theorem go29 : GoF Try.prog 29 := ⟨_, _, Try.func29, rfl, by kernel_rfl⟩
theorem go39 : GoF Try.prog 39 := ⟨_, _, Try.func39, rfl, by kernel_rfl⟩
theorem go40 : GoF Try.prog 40 := ⟨_, _, Try.func40, rfl, by kernel_rfl⟩
theorem go30 : GoF Try.prog 30 := ⟨_, _, Try.func30, rfl, by kernel_rfl⟩
theorem go15 : GoF Try.prog 15 := ⟨_, _, Try.func15, rfl, by kernel_rfl⟩
theorem go28 : GoF Try.prog 28 := ⟨_, _, Try.func28, rfl, by kernel_rfl⟩
/- eyewitness/eyewitnessref03.in -/
set_option maxRecDepth 100000 in
set_option maxHeartbeats 200000 in
theorem ref03_in {w : World} {mn : Int} {a_mu : Option Addr} {n_mu c_mu : Nat} {i : Int} {j : Int} (h_mn : I64 mn) (h_i : I64 i) (h_j : I64 j) : Calls Try.prog 39 #[.agg #[.int .i64 mn, .slice a_mu n_mu c_mu], .int .i64 i, .int .i64 j] w (Ret fun v w' =>  v = .bool (inM mn [i, j]) ∧ Ext w w') := by
  refine enter 25 Try.func39 rfl rfl rfl fun f0 ha => ?_
  have H := HI.start (M0 := (fun _ => False)) (w := w) (fun _ h => h.elim)
  have i0 : f0 0 = .agg #[.int .i64 mn, .slice a_mu n_mu c_mu] := ha 0 (by simp)
  have i1 : f0 1 = .int .i64 i := ha 1 (by simp)
  have i2 : f0 2 = .int .i64 j := ha 2 (by simp)
  refine sq (rg (k (bx H rfl i0 ?_)))
  intro bb0 w0 xt0 (H0 : HI (fun _ => False) w w0 [box bb0 #[.int .i64 mn, .slice a_mu n_mu c_mu] 33])
  refine k (asg rfl rfl (z (nx (sq (rg (k (mv rfl i1 (k (geq rfl rfl rfl rfl (k (mv rfl rfl ?_)))))))))))
  rcases Bool.eq_false_or_eq_true (decide (0 ≤ i)) with b0 | b0
  · -- decide (0 ≤ i) is True
    have p0 := of_decide_eq_true b0
    refine k (gy rfl rfl rfl b0 (mv rfl i1 (k (gy rfl rfl rfl b0 (fa fl33_0 rfl rfl (k (gy rfl rfl rfl b0 (ldX H0 0 rfl ty3 rfl rfl (by decide) rfl (k (gy rfl rfl rfl b0 (lss rfl rfl rfl rfl (k (pickT rfl rfl rfl rfl b0 rfl (k (mv rfl rfl ?_)))))))))))))))
    rcases Bool.eq_false_or_eq_true (decide (i < mn)) with b1 | b1
    · -- decide (i < mn) is True
      have p1 := of_decide_eq_true b1
      refine k (gy rfl rfl rfl b1 (mv rfl i2 (k (gy rfl rfl rfl b1 (geq rfl rfl rfl rfl (k (pickT rfl rfl rfl rfl b1 rfl (k (mv rfl rfl ?_)))))))))
      rcases Bool.eq_false_or_eq_true (decide (0 ≤ j)) with b2 | b2
      · -- decide (0 ≤ j) is True
        have p2 := of_decide_eq_true b2
        refine k (gy rfl rfl rfl b2 (mv rfl i2 (k (gy rfl rfl rfl b2 (fa fl33_0 rfl rfl (k (gy rfl rfl rfl b2 (ldX H0 0 rfl ty3 rfl rfl (by decide) rfl (k (gy rfl rfl rfl b2 (lss rfl rfl rfl rfl (k (pickT rfl rfl rfl rfl b2 rfl (k (asg rfl rfl (z (nx (rt (r1 rfl rfl ?_)))))))))))))))))))
        have e0 : (decide (j < mn) : Bool) = inM mn [i, j] := by rw [inM_eq]; simp_all <;> omega
        have ev_ := cg1 (fun (x_0 : Bool) => (.bool x_0 : Value)) e0
        exact ⟨ev_, H0.below⟩
      · -- decide (0 ≤ j) is False
        have p2 := of_decide_eq_false b2
        refine k (gn rfl rfl rfl b2 (k (gn rfl rfl rfl b2 (k (gn rfl rfl rfl b2 (k (gn rfl rfl rfl b2 (k (pickF rfl rfl rfl rfl b2 rfl (k (asg rfl rfl (z (nx (rt (r1 rfl rfl ?_)))))))))))))))
        have e0 : (false : Bool) = inM mn [i, j] := by rw [inM_eq]; simp_all <;> omega
        have ev_ := cg1 (fun (x_0 : Bool) => (.bool x_0 : Value)) e0
        exact ⟨ev_, H0.below⟩
    · -- decide (i < mn) is False
      have p1 := of_decide_eq_false b1
      refine k (gn rfl rfl rfl b1 (k (gn rfl rfl rfl b1 (k (pickF rfl rfl rfl rfl b1 rfl (k (mv rfl rfl (k (gn rfl rfl rfl rfl (k (gn rfl rfl rfl rfl (k (gn rfl rfl rfl rfl (k (gn rfl rfl rfl rfl (k (pickF rfl rfl rfl rfl rfl rfl (k (asg rfl rfl (z (nx (rt (r1 rfl rfl ?_)))))))))))))))))))))))
      have e0 : (false : Bool) = inM mn [i, j] := by rw [inM_eq]; simp_all <;> omega
      have ev_ := cg1 (fun (x_0 : Bool) => (.bool x_0 : Value)) e0
      exact ⟨ev_, H0.below⟩
  · -- decide (0 ≤ i) is False
    have p0 := of_decide_eq_false b0
    refine k (gn rfl rfl rfl b0 (k (gn rfl rfl rfl b0 (k (gn rfl rfl rfl b0 (k (gn rfl rfl rfl b0 (k (pickF rfl rfl rfl rfl b0 rfl (k (mv rfl rfl (k (gn rfl rfl rfl rfl (k (gn rfl rfl rfl rfl (k (pickF rfl rfl rfl rfl rfl rfl (k (mv rfl rfl (k (gn rfl rfl rfl rfl (k (gn rfl rfl rfl rfl (k (gn rfl rfl rfl rfl (k (gn rfl rfl rfl rfl (k (pickF rfl rfl rfl rfl rfl rfl (k (asg rfl rfl (z (nx (rt (r1 rfl rfl ?_)))))))))))))))))))))))))))))))))))
    have e0 : (false : Bool) = inM mn [i, j] := by rw [inM_eq]; simp_all <;> omega
    have ev_ := cg1 (fun (x_0 : Bool) => (.bool x_0 : Value)) e0
    exact ⟨ev_, H0.below⟩
/- eyewitness/eyewitnessref03.New -/
set_option maxRecDepth 100000 in
set_option maxHeartbeats 200000 in
theorem ref03_New {M : Nat → Prop} {w : World} {n : Int} (hM : ∀ b, M b → b < w.heap.size) (h_n : I64 n) : Calls Try.prog 15 #[.int .i64 n] w (Ret fun v w' => ∃ (a0 : Option Addr) (c0 : Nat), v = .tuple #[.agg #[.int .i64 (newMN n), .slice a0 (newMR n).length c0], .int .i64 (newME n)] ∧ Ext w w' ∧ OwnsG M 22 w (newMR n) (.slice a0 (newMR n).length c0) w') := by
  refine enter 28 Try.func15 rfl rfl rfl fun f0 ha => ?_
  have H := HI.start (M0 := M) (w := w) hM
  have i0 : f0 0 = .int .i64 n := ha 0 (by simp)
  refine sq (rg (k (al H ty33 ?_)))
  intro bb0 w0 xt0 (H0 : HI M w w0 [box bb0 #[.int .i64 0, .slice none 0 0] 33])
  refine k (asg rfl rfl (z (nx (sq (sq (rg (k (mv rfl i0 (k (lss rfl rfl rfl rfl (k (mv rfl rfl ?_))))))))))))
  rcases Bool.eq_false_or_eq_true (decide (n < 0)) with b0 | b0
  · -- decide (n < 0) is True
    have p0 := of_decide_eq_true b0
    refine k (gn rfl rfl rfl b0 (k (gn rfl rfl rfl b0 (k (pickT rfl rfl rfl rfl b0 rfl (z (nx (cdT rfl rfl rfl (sq (rg (k (bd (v := .agg #[.int .i64 0, .slice none 0 0]) rfl pb0 (fun _ => by kernel_rfl) (k (stX H0 0 rfl ty33 rfl rfl rfl rfl rfl rfl rfl ?_))))))))))))))
    intro w1 (H1 : HI M w w1 [box bb0 #[.int .i64 0, .slice none 0 0] 33])
    refine k (asg rfl rfl (z (nx (rt (then_ret (rc2 H1 0 rfl ty33 rfl rfl rfl rfl rfl (by decide) ?_))))))
    have e0 : (0 : Int) = newMN n := by first | exact (newM_no (okN_no.2 (by omega))).1.symm | exact (newM_yes (okN_iff.2 (by omega))).1.symm
    have e1 : ([] : List (List (BitVec 64))) = newMR n := by first | exact (newM_no (okN_no.2 (by omega))).2.1.symm | (rw [(newM_yes (okN_iff.2 (by omega))).2.1, hs, show j = n.toNat from by omega]; rfl)
    have e2 : (1 : Int) = newME n := by first | exact (newM_no (okN_no.2 (by omega))).2.2.symm | exact (newM_yes (okN_iff.2 (by omega))).2.2.symm
    have ev_ := cg3 (fun (x_0 : Int) (x_1 : List (List (BitVec 64))) (x_2 : Int) => (.tuple #[.agg #[.int .i64 x_0, .slice none x_1.length 0], .int .i64 x_2] : Value)) e0 e1 e2
    exact ⟨none, 0, ev_, H1.below, (congrArg (fun (x_ : List (List (BitVec 64))) => OwnsG _ _ _ x_ (.slice none x_.length 0) _) e1).mp (ownsG_nil H1.below)⟩
  · -- decide (n < 0) is False
    have p0 := of_decide_eq_false b0
    refine k (gy rfl rfl rfl b0 (mv rfl i0 (k (gy rfl rfl rfl b0 (gtr rfl rfl rfl rfl (k (pickF rfl rfl rfl rfl b0 rfl (z (nx ?_)))))))))
    refine cd (b := decide (4096 < n)) rfl rfl (fun b1 => ?_) (fun b1 => ?_)
    ·
      have p1 := of_decide_eq_true b1
      refine sq (rg (k (bd (v := .agg #[.int .i64 0, .slice none 0 0]) rfl pb0 (fun _ => by kernel_rfl) (k (stX H0 0 rfl ty33 rfl rfl rfl rfl rfl rfl rfl ?_)))))
      intro w2 (H2 : HI M w w2 [box bb0 #[.int .i64 0, .slice none 0 0] 33])
      refine k (asg rfl rfl (z (nx (rt (then_ret (rc2 H2 0 rfl ty33 rfl rfl rfl rfl rfl (by decide) ?_))))))
      have e0 : (0 : Int) = newMN n := by first | exact (newM_no (okN_no.2 (by omega))).1.symm | exact (newM_yes (okN_iff.2 (by omega))).1.symm
      have e1 : ([] : List (List (BitVec 64))) = newMR n := by first | exact (newM_no (okN_no.2 (by omega))).2.1.symm | (rw [(newM_yes (okN_iff.2 (by omega))).2.1, hs, show j = n.toNat from by omega]; rfl)
      have e2 : (1 : Int) = newME n := by first | exact (newM_no (okN_no.2 (by omega))).2.2.symm | exact (newM_yes (okN_iff.2 (by omega))).2.2.symm
      have ev_ := cg3 (fun (x_0 : Int) (x_1 : List (List (BitVec 64))) (x_2 : Int) => (.tuple #[.agg #[.int .i64 x_0, .slice none x_1.length 0], .int .i64 x_2] : Value)) e0 e1 e2
      exact ⟨none, 0, ev_, H2.below, (congrArg (fun (x_ : List (List (BitVec 64))) => OwnsG _ _ _ x_ (.slice none x_.length 0) _) e1).mp (ownsG_nil H2.below)⟩
    ·
      have p1 := of_decide_eq_false b1
      refine sk (nx (sq (rg (k (mv rfl i0 (k (bd (v := .agg #[.int .i64 n, .slice none 0 0]) rfl (pbc rfl pb0) (fun _ => by kernel_rfl) (k (al H0 ty33 ?_)))))))))
      intro bb1 w3 xt1 (H3 : HI M w w3 [box bb1 #[.int .i64 0, .slice none 0 0] 33, box bb0 #[.int .i64 0, .slice none 0 0] 33])
      refine k (stX H3 0 rfl ty33 rfl rfl rfl rfl rfl rfl rfl ?_)
      intro w4 (H4 : HI M w w4 [box bb1 #[.int .i64 n, .slice none 0 0] 33, box bb0 #[.int .i64 0, .slice none 0 0] 33])
      refine z (nx (sq (sq (rg (k (asg rfl rfl (z (nx (bk ?_)))))))))
      have H5 := H4.nil_ (List (BitVec 64)) 22
      refine lp (fun m f w' => ∃ (j : Nat) (xs : List (List (BitVec 64))) (a0 : Option Addr) (c0 : Nat), m = n.toNat - j ∧ f 0 = .int .i64 n ∧ f 2 = .pointer (some ⟨bb0, 0, none⟩) ∧ f 4 = .pointer (some ⟨bb1, 0, none⟩) ∧ f 5 = .int .i64 (j : Int) ∧  HI M w w' [own w.heap.size 22 (.slice a0 xs.length c0) xs, box bb1 #[.int .i64 n, .slice a0 xs.length c0] 33, box bb0 #[.int .i64 0, .slice none 0 0] 33] ∧ (j ≤ n.toNat) ∧ (xs = List.replicate j (newR n))) _ ⟨0, ([] : List (List (BitVec 64))), none, 0, rfl, i0, rfl, rfl, (ieq rfl (by first | rfl | omega | simp)), H5, (by first | assumption | omega | simp | (simp; omega)), (by rfl)⟩ ?_
      rintro _ f0 w5 ⟨j, xs, a0, c0, rfl, s0, s1, s2, s3, H6, hk, hs⟩
      refine sq (sq (rg (k (mv rfl s3 (k (mv rfl s0 (k (lss rfl rfl rfl rfl (z (nx ?_))))))))))
      refine cd (b := decide ((j : Int) < n)) rfl rfl (fun b2 => ?_) (fun b2 => ?_)
      ·
        have p2 := of_decide_eq_true b2
        refine sk (nx (sq (bk ?_)))
        refine dr 5 [fun (v : Value) (w' : World) => v = .pointer (some ⟨bb1, 1, none⟩), fun (v : Value) (w' : World) => v = .slice a0 xs.length c0, fun (v : Value) (w' : World) => v = .int .i64 n, fun (v : Value) (w' : World) => ∃ (a1 : Option Addr) (c1 : Nat), v = .slice a1 (newR n).length c1 ∧ RV (MS M [own w.heap.size 22 (.slice a0 xs.length c0) xs, box bb1 #[.int .i64 n, .slice a0 xs.length c0] 33, box bb0 #[.int .i64 0, .slice none 0 0] 33]) w' (.slice a1 (newR n).length c1) (newR n), fun (v : Value) (w' : World) => ∃ (a2 : Option Addr) (c2 : Nat), v = .slice a2 ([newR n] : List (List (BitVec 64))).length c2 ∧ RV (MS M [own w.heap.size 22 (.slice a0 xs.length c0) xs, box bb1 #[.int .i64 n, .slice a0 xs.length c0] 33, box bb0 #[.int .i64 0, .slice none 0 0] 33]) w' (.slice a2 ([newR n] : List (List (BitVec 64))).length c2) ([newR n] : List (List (BitVec 64)))] rfl (by kernel_rfl) ?_ ?_
        ·
          refine ⟨fun _ => ⟨fun f1 w8 hf0 xt4 hp0 => ?_, fun _ _ _ _ h => h⟩, ?_⟩
          ·
            have H11 := H6.ext xt4
            refine fa fl33_1 rfl ((hf0 4 rfl).trans s2) ?_
            exact ⟨_, rfl, Ext.refl _, rfl⟩
          refine ⟨fun _ => ⟨fun f2 w9 hf1 xt5 hp1 => ?_, fun _ _ _ _ h => h⟩, ?_⟩
          ·
            have H12 := H6.ext xt5
            have s4 : f2 20 = .pointer (some ⟨bb1, 1, none⟩) := hp1 0 rfl rfl
            refine ldX H12 1 rfl ty31 rfl s4 (by decide) rfl ?_
            exact ⟨_, rfl, Ext.refl _, rfl⟩
          refine ⟨fun _ => ⟨fun f3 w10 hf2 xt6 hp2 => ?_, fun _ _ _ _ h => h⟩, ?_⟩
          ·
            have H13 := H6.ext xt6
            refine mv rfl ((hf2 0 rfl).trans s0) ?_
            exact ⟨_, rfl, Ext.refl _, rfl⟩
          refine ⟨fun _ => ⟨fun f4 w11 hf3 xt7 hp3 => ?_, by rintro _ _ _ x_ ⟨a1, c1, e_, rv1⟩; exact ⟨a1, c1, e_, rv1.lift (Up.ext x_)⟩⟩, ?_⟩
          ·
            have H14 := H6.ext xt7
            have s5 : f4 22 = .int .i64 n := hp3 2 rfl rfl
            have cc1 := ref02_New (n := n) (w := w11) H14.mb (by unfold I64 at *; omega) (by first | omega | (simp; omega))
            refine ca go29 rfl (ec s5 e0) cc1 ?_
            rintro _ w12 ⟨a3, c3, rfl, xt8, rv3⟩
            have rv4 := OwnsG.rv rv3 H14.mb
            have H15 := H14.ext xt8
            have H16 := H15.put (it := imm (.slice a3 (newR n).length c3) (newR n)) rfl rv4
            exact ⟨_, rfl, xt8, ⟨a3, c3, rfl, rv4⟩⟩
          refine ⟨fun _ => ⟨fun f5 w13 hf4 xt9 hp4 => ?_, by rintro _ _ _ x_ ⟨a2, c2, e_, rv2⟩; exact ⟨a2, c2, e_, rv2.lift (Up.ext x_)⟩⟩, ?_⟩
          ·
            have H17 := H6.ext xt9
            obtain ⟨a4, c4, s6, rv5⟩ : ∃ (a4 : Option Addr) (c4 : Nat), f5 23 = .slice a4 (newR n).length c4 ∧ RV (MS M [own w.heap.size 22 (.slice a0 xs.length c0) xs, box bb1 #[.int .i64 n, .slice a0 xs.length c0] 33, box bb0 #[.int .i64 0, .slice none 0 0] 33]) w13 (.slice a4 (newR n).length c4) (newR n) := hp4 3 rfl rfl
            have H18 := H17.put (it := imm (.slice a4 (newR n).length c4) (newR n)) rfl rv5
            refine bs (xs := ([newR n] : List (List (BitVec 64)))) (cells := #[.slice a4 (newR n).length c4]) (e := 22) H18 rfl (pbc s6 pb0) (fun _ => by kernel_rfl) ⟨[.slice a4 (newR n).length c4], [], rfl, ⟨_, rfl, RV.list.1 (H18.rv 0 rfl)⟩, rfl⟩ rfl (by unfold maxLen; omega) ?_
            intro g1 w14 xt10 (H19 : HI M w w14 [own w.heap.size 22 (.slice (some ⟨g1, 0, none⟩) 1 1) ([newR n] : List (List (BitVec 64))), imm (.slice a4 (newR n).length c4) (newR n), own w.heap.size 22 (.slice a0 xs.length c0) xs, box bb1 #[.int .i64 n, .slice a0 xs.length c0] 33, box bb0 #[.int .i64 0, .slice none 0 0] 33])
            have H20 := H19.freeze 0 rfl
            exact ⟨_, rfl, xt10, ⟨(some ⟨g1, 0, none⟩), 1, rfl, (rv_drop rfl (rv_drop rfl (H20.rv 0 rfl)))⟩⟩
          exact DSteps.rest rfl _
        · intro f6 w15 hf5 xt11 hp5
          have H21 := H6.ext xt11
          have s7 : f6 0 = .int .i64 n := (hf5 0 rfl).trans s0
          have s8 : f6 2 = .pointer (some ⟨bb0, 0, none⟩) := (hf5 2 rfl).trans s1
          have s9 : f6 4 = .pointer (some ⟨bb1, 0, none⟩) := (hf5 4 rfl).trans s2
          have s10 : f6 5 = .int .i64 (j : Int) := (hf5 5 rfl).trans s3
          have s11 : f6 21 = .slice a0 xs.length c0 := hp5 1 rfl
          obtain ⟨a5, c5, s12, rv6⟩ : ∃ (a5 : Option Addr) (c5 : Nat), f6 24 = .slice a5 ([newR n] : List (List (BitVec 64))).length c5 ∧ RV (MS M [own w.heap.size 22 (.slice a0 xs.length c0) xs, box bb1 #[.int .i64 n, .slice a0 xs.length c0] 33, box bb0 #[.int .i64 0, .slice none 0 0] 33]) w15 (.slice a5 ([newR n] : List (List (BitVec 64))).length c5) ([newR n] : List (List (BitVec 64))) := hp5 4 rfl
          have H22 := H21.put (it := imm (.slice a5 ([newR n] : List (List (BitVec 64))).length c5) ([newR n] : List (List (BitVec 64)))) rfl rv6
          refine k (ap H22 1 rfl rfl rfl rfl s11 s12 (H22.rv 0 rfl).src un31 ty22 rfl (by rw [hs]; simp; omega) (by rw [hs]; simp; omega) ?_)
          intro a6 c6 w16 (H23 : HI M w w16 [imm (.slice a5 ([newR n] : List (List (BitVec 64))).length c5) ([newR n] : List (List (BitVec 64))), own w.heap.size 22 (.slice a6 (xs ++ ([newR n] : List (List (BitVec 64)))).length c6) (xs ++ ([newR n] : List (List (BitVec 64)))), box bb1 #[.int .i64 n, .slice a0 xs.length c0] 33, box bb0 #[.int .i64 0, .slice none 0 0] 33])
          refine k (fa fl33_1 rfl s9 (k (stX H23 2 rfl ty31 rfl rfl rfl rfl rfl rfl rfl ?_)))
          intro w17 (H24 : HI M w w17 [imm (.slice a5 ([newR n] : List (List (BitVec 64))).length c5) ([newR n] : List (List (BitVec 64))), own w.heap.size 22 (.slice a6 (xs ++ ([newR n] : List (List (BitVec 64)))).length c6) (xs ++ ([newR n] : List (List (BitVec 64)))), box bb1 #[.int .i64 n, .slice a6 (xs ++ ([newR n] : List (List (BitVec 64)))).length c6] 33, box bb0 #[.int .i64 0, .slice none 0 0] 33])
          refine z (inb_normal (nx (rg (k (mv rfl s10 (k (add rfl rfl rfl rfl (by unfold I64 at *; omega) (k (asg rfl rfl (z ?_))))))))))
          have H25 : HI M w w17 [own w.heap.size 22 (.slice a6 (xs ++ ([newR n] : List (List (BitVec 64)))).length c6) (xs ++ ([newR n] : List (List (BitVec 64)))), box bb1 #[.int .i64 n, .slice a6 (xs ++ ([newR n] : List (List (BitVec 64)))).length c6] 33, box bb0 #[.int .i64 0, .slice none 0 0] 33] := H24.pickN [1, 2, 3] (by decide) rfl
          refine loopN _ ?_ ⟨(j + 1), (xs ++ ([newR n] : List (List (BitVec 64)))), a6, c6, rfl, s7, s8, s9, (ieq rfl (by first | rfl | omega | (push_cast; omega))), H25, (by first | assumption | omega | simp | (simp; omega)), (by rw [hs, List.replicate_succ'])⟩
          omega
      ·
        have p2 := of_decide_eq_false b2
        refine ex (then_exit (loop_exit (inb_here (nx (sq (rg (k (ldX H6 1 rfl ty33 rfl s2 (by decide) rfl (k (stX H6 2 rfl ty33 rfl rfl s1 rfl rfl rfl rfl ?_))))))))))
        intro w18 (H26 : HI M w w18 [own w.heap.size 22 (.slice a0 xs.length c0) xs, box bb1 #[.int .i64 n, .slice a0 xs.length c0] 33, box bb0 #[.int .i64 n, .slice a0 xs.length c0] 33])
        refine k (asg rfl rfl (z (nx (rt (rc2 H26 2 rfl ty33 rfl rfl rfl s1 rfl (by decide) ?_)))))
        have e0 : (n : Int) = newMN n := by first | exact (newM_no (okN_no.2 (by omega))).1.symm | exact (newM_yes (okN_iff.2 (by omega))).1.symm
        have e1 : (xs : List (List (BitVec 64))) = newMR n := by first | exact (newM_no (okN_no.2 (by omega))).2.1.symm | (rw [(newM_yes (okN_iff.2 (by omega))).2.1, hs, show j = n.toNat from by omega]; rfl)
        have e2 : (0 : Int) = newME n := by first | exact (newM_no (okN_no.2 (by omega))).2.2.symm | exact (newM_yes (okN_iff.2 (by omega))).2.2.symm
        have ev_ := cg3 (fun (x_0 : Int) (x_1 : List (List (BitVec 64))) (x_2 : Int) => (.tuple #[.agg #[.int .i64 x_0, .slice a0 x_1.length c0], .int .i64 x_2] : Value)) e0 e1 e2
        exact ⟨a0, c0, ev_, H26.below, (congrArg (fun (x_ : List (List (BitVec 64))) => OwnsG _ _ _ x_ (.slice a0 x_.length c0) _) e1).mp (H26.ownsG_out 0 rfl)⟩
/- eyewitness/eyewitnessref03.Set -/
set_option maxRecDepth 100000 in
set_option maxHeartbeats 200000 in
theorem ref03_Set {M : Nat → Prop} {w : World} {mn : Int} {a_mr : Option Addr} {c_mr : Nat} {mr : List (List (BitVec 64))} {i : Int} {j : Int} (hM : ∀ b, M b → b < w.heap.size) (h_mn : I64 mn) (h_mr : RV M w (.slice a_mr mr.length c_mr) mr) (h_i : I64 i) (h_j : I64 j) (hsq_m : ((mr.length : Nat) : Int) = mn) (hrw_m : ∀ x ∈ mr, x.length ≤ 1000000000) (hl4_m : mn ≤ 4096) : Calls Try.prog 28 #[.agg #[.int .i64 mn, .slice a_mr mr.length c_mr], .int .i64 i, .int .i64 j] w (Ret fun v w' => ∃ (a0 : Option Addr) (c0 : Nat), v = .tuple #[.agg #[.int .i64 (setMN mn i j), .slice a0 (setMR mn mr i j).length c0], .int .i64 (setME mn i j)] ∧ Ext w w' ∧ OwnsG M 22 w (setMR mn mr i j) (.slice a0 (setMR mn mr i j).length c0) w') := by
  refine enter 32 Try.func28 rfl rfl rfl fun f0 ha => ?_
  have H := HI.start (M0 := M) (w := w) hM
  have H0 := H.put (it := imm (.slice a_mr mr.length c_mr) mr) rfl (by rw [MS_nil]; exact h_mr)
  have ln_mr := rv_len h_mr
  have i0 : f0 0 = .agg #[.int .i64 mn, .slice a_mr mr.length c_mr] := ha 0 (by simp)
  have i1 : f0 1 = .int .i64 i := ha 1 (by simp)
  have i2 : f0 2 = .int .i64 j := ha 2 (by simp)
  refine sq (rg (k (bx H0 rfl i0 ?_)))
  intro bb0 w0 xt0 (H1 : HI M w w0 [box bb0 #[.int .i64 mn, .slice a_mr mr.length c_mr] 33, imm (.slice a_mr mr.length c_mr) mr])
  refine k (al H1 ty33 ?_)
  intro bb1 w1 xt1 (H2 : HI M w w1 [box bb1 #[.int .i64 0, .slice none 0 0] 33, box bb0 #[.int .i64 mn, .slice a_mr mr.length c_mr] 33, imm (.slice a_mr mr.length c_mr) mr])
  refine k (asg rfl rfl (z (nx (sq (sq (rg (k (ldX H2 1 rfl ty33 rfl rfl (by decide) rfl (k (mv rfl i1 (k (mv rfl i2 (k ?_)))))))))))))
  have cc0 := ref03_in (mn := mn) (i := i) (j := j) (a_mu := a_mr) (n_mu := mr.length) (c_mu := c_mr) (w := w1) (by unfold I64 at *; omega) (by unfold I64 at *; omega) (by unfold I64 at *; omega)
  refine ca go39 rfl (ec rfl (ec rfl (ec rfl e0))) cc0 ?_
  rintro _ w2 ⟨rfl, xt2⟩
  have H3 := H2.ext xt2
  refine k (not_ rfl rfl (z (nx ?_)))
  refine cd (b := !(inM mn [i, j])) rfl rfl (fun b0 => ?_) (fun b0 => ?_)
  ·
    refine sq ?_
    have hq : inM mn [i, j] = false := by simpa using b0
    refine rg (k (bd (v := .agg #[.int .i64 0, .slice none 0 0]) rfl pb0 (fun _ => by kernel_rfl) (k (stX H3 0 rfl ty33 rfl rfl rfl rfl rfl rfl rfl ?_))))
    intro w3 (H4 : HI M w w3 [box bb1 #[.int .i64 0, .slice none 0 0] 33, box bb0 #[.int .i64 mn, .slice a_mr mr.length c_mr] 33, imm (.slice a_mr mr.length c_mr) mr])
    refine k (asg rfl rfl (z (nx (rt (then_ret (rc2 H4 0 rfl ty33 rfl rfl rfl rfl rfl (by decide) ?_))))))
    have e0 : (0 : Int) = setMN mn i j := by first | exact (set_no (rs := mr) hq).1.symm | exact (set_yes (rs := mr) hq).1.symm
    have e1 : ([] : List (List (BitVec 64))) = setMR mn mr i j := by first | exact (set_no (rs := mr) hq).2.1.symm | (rw [(set_yes (rs := mr) hq).2.1]; exact setM_of hx0)
    have e2 : (1 : Int) = setME mn i j := by first | exact (set_no (rs := mr) hq).2.2.symm | exact (set_yes (rs := mr) hq).2.2.symm
    have ev_ := cg3 (fun (x_0 : Int) (x_1 : List (List (BitVec 64))) (x_2 : Int) => (.tuple #[.agg #[.int .i64 x_0, .slice none x_1.length 0], .int .i64 x_2] : Value)) e0 e1 e2
    exact ⟨none, 0, ev_, H4.below, (congrArg (fun (x_ : List (List (BitVec 64))) => OwnsG _ _ _ x_ (.slice none x_.length 0) _) e1).mp (ownsG_nil H4.below)⟩
  ·
    refine sk (nx (sq ?_))
    have hq : inM mn [i, j] = true := by simpa using b0
    have hr := inM_two.1 hq
    refine rg (k (bs (xs := ([] : List (List (BitVec 64)))) (cells := #[]) (e := 22) H3 rfl pb0 (fun _ => by kernel_rfl) rfl rfl (by unfold maxLen; omega) ?_))
    intro g0 w4 xt3 (H5 : HI M w w4 [own w.heap.size 22 (.slice (some ⟨g0, 0, none⟩) 0 0) ([] : List (List (BitVec 64))), box bb1 #[.int .i64 0, .slice none 0 0] 33, box bb0 #[.int .i64 mn, .slice a_mr mr.length c_mr] 33, imm (.slice a_mr mr.length c_mr) mr])
    refine k (fa fl33_1 rfl rfl (k (ldX H5 2 rfl ty31 rfl rfl (by decide) rfl (k (ap H5 0 rfl rfl rfl rfl rfl rfl (H5.rv 3 rfl).src un31 ty22 rfl (by simp; omega) (by simp; omega) ?_)))))
    intro a0 c0 w5 (H6 : HI M w w5 [own w.heap.size 22 (.slice a0 mr.length c0) mr, box bb1 #[.int .i64 0, .slice none 0 0] 33, box bb0 #[.int .i64 mn, .slice a_mr mr.length c_mr] 33, imm (.slice a_mr mr.length c_mr) mr])
    refine k (asg rfl rfl (z (nx (sq (rg (k (mv rfl rfl (k (mv rfl i1 (k (mv rfl rfl (k (mv rfl i1 (k (iaO (H6.at_ 0 rfl) rfl rfl rfl rfl (by first | omega | (simp; omega)) un31 ty22 ?_)))))))))))))))
    intro g1 x0 hv0 hx0 hA0
    refine k (ldL hA0 ty22 rfl rfl ?_)
    intro a1 c1 rv0
    have H7 := H6.put (it := imm (.slice a1 x0.length c1) x0) rfl rv0
    refine k (mv rfl i2 (k ?_))
    have cc1 := ref02_Set (r := x0) (i := j) (w := w5) H7.mb (H7.rv 0 rfl) (by unfold I64 at *; omega) (by exact hrw_m _ (List.mem_of_getElem? hx0))
    refine ca go40 rfl (ec rfl (ec rfl e0)) cc1 ?_
    rintro _ w6 ⟨a2, c2, rfl, xt4, rv1⟩
    have H8 := H7.ownsG rv1
    refine k (iaO (H8.at_ 2 rfl) rfl rfl rfl rfl (by first | omega | (simp; omega)) un31 ty22 ?_)
    intro g2 x1 hv1 hx1 hA1
    refine k ?_
    have H9 := H8.freeze 0 rfl
    refine stO H9 2 rfl hv1 rfl (by first | omega | (simp; omega)) ty22 rfl rfl rfl rfl (H9.rv 0 rfl) ?_
    intro w7 (H10 : HI M w w7 [imm (.slice a2 (setR x0 j).length c2) (setR x0 j), imm (.slice a1 x0.length c1) x0, own w.heap.size 22 (.slice a0 mr.length c0) (mr.set i.toNat (setR x0 j)), box bb1 #[.int .i64 0, .slice none 0 0] 33, box bb0 #[.int .i64 mn, .slice a_mr mr.length c_mr] 33, imm (.slice a_mr mr.length c_mr) mr])
    refine z (nx (sq (rg (k (fa fl33_0 rfl rfl (k (ldX H10 4 rfl ty3 rfl rfl (by decide) rfl (k (mv rfl rfl (k (bd (v := .agg #[.int .i64 mn, .slice a0 mr.length c0]) rfl (pbc rfl (pbc rfl pb0)) (fun _ => by kernel_rfl) (k (stX H10 3 rfl ty33 rfl rfl rfl rfl rfl rfl rfl ?_)))))))))))))
    intro w8 (H11 : HI M w w8 [imm (.slice a2 (setR x0 j).length c2) (setR x0 j), imm (.slice a1 x0.length c1) x0, own w.heap.size 22 (.slice a0 mr.length c0) (mr.set i.toNat (setR x0 j)), box bb1 #[.int .i64 mn, .slice a0 mr.length c0] 33, box bb0 #[.int .i64 mn, .slice a_mr mr.length c_mr] 33, imm (.slice a_mr mr.length c_mr) mr])
    refine k (asg rfl rfl (z (nx (rt (rc2 H11 3 rfl ty33 rfl rfl rfl rfl rfl (by decide) ?_)))))
    have e0 : (mn : Int) = setMN mn i j := by first | exact (set_no (rs := mr) hq).1.symm | exact (set_yes (rs := mr) hq).1.symm
    have e1 : (mr.set i.toNat (setR x0 j) : List (List (BitVec 64))) = setMR mn mr i j := by first | exact (set_no (rs := mr) hq).2.1.symm | (rw [(set_yes (rs := mr) hq).2.1]; exact setM_of hx0)
    have l1 : mr.length = (setMR mn mr i j).length := by rw [← e1]; simp
    have e2 : (0 : Int) = setME mn i j := by first | exact (set_no (rs := mr) hq).2.2.symm | exact (set_yes (rs := mr) hq).2.2.symm
    have ev_ := cg3 (fun (x_0 : Int) (n_1 : Nat) (x_2 : Int) => (.tuple #[.agg #[.int .i64 x_0, .slice a0 n_1 c0], .int .i64 x_2] : Value)) e0 l1 e2
    exact ⟨a0, c0, ev_, H11.below, (congrArg (fun (n_ : Nat) => OwnsG _ _ _ (setMR mn mr i j) (.slice a0 n_ c0) _) l1).mp ((congrArg (fun (x_ : List (List (BitVec 64))) => OwnsG _ _ _ x_ (.slice a0 mr.length c0) _) e1).mp (H11.ownsG_out 2 rfl))⟩
/- eyewitness/eyewitnessref03.Equal -/
set_option maxRecDepth 100000 in
set_option maxHeartbeats 200000 in
theorem ref03_Equal {M : Nat → Prop} {w : World} {an : Int} {a_ar : Option Addr} {c_ar : Nat} {ar : List (List (BitVec 64))} {bn : Int} {a_br : Option Addr} {c_br : Nat} {br : List (List (BitVec 64))} (hM : ∀ b, M b → b < w.heap.size) (h_an : I64 an) (h_ar : RV M w (.slice a_ar ar.length c_ar) ar) (h_bn : I64 bn) (h_br : RV M w (.slice a_br br.length c_br) br) : Calls Try.prog 16 #[.agg #[.int .i64 an, .slice a_ar ar.length c_ar], .agg #[.int .i64 bn, .slice a_br br.length c_br]] w (Ret fun v w' =>  v = .bool (eqM an ar bn br) ∧ Ext w w') := by
  refine enter 39 Try.func16 rfl rfl rfl fun f0 ha => ?_
  have H := HI.start (M0 := M) (w := w) hM
  have H0 := H.put (it := imm (.slice a_ar ar.length c_ar) ar) rfl (by rw [MS_nil]; exact h_ar)
  have H1 := H0.put (it := imm (.slice a_br br.length c_br) br) rfl (by rw [MS_cons_none rfl, MS_nil]; exact h_br)
  have ln_ar := rv_len h_ar
  have ln_br := rv_len h_br
  have i0 : f0 0 = .agg #[.int .i64 an, .slice a_ar ar.length c_ar] := ha 0 (by simp)
  have i1 : f0 1 = .agg #[.int .i64 bn, .slice a_br br.length c_br] := ha 1 (by simp)
  refine sq (rg (k (bx H1 rfl i0 ?_)))
  intro bb0 w0 xt0 (H2 : HI M w w0 [box bb0 #[.int .i64 an, .slice a_ar ar.length c_ar] 33, imm (.slice a_br br.length c_br) br, imm (.slice a_ar ar.length c_ar) ar])
  refine k (bx H2 rfl i1 ?_)
  intro bb1 w1 xt1 (H3 : HI M w w1 [box bb1 #[.int .i64 bn, .slice a_br br.length c_br] 33, box bb0 #[.int .i64 an, .slice a_ar ar.length c_ar] 33, imm (.slice a_br br.length c_br) br, imm (.slice a_ar ar.length c_ar) ar])
  refine k (asg rfl rfl (z (nx (sq (sq (rg (k (fa fl33_0 rfl rfl (k (ldX H3 1 rfl ty3 rfl rfl (by decide) rfl (k (fa fl33_0 rfl rfl (k (ldX H3 0 rfl ty3 rfl rfl (by decide) rfl (k (neq rfl rfl rfl rfl (k (mv rfl rfl ?_))))))))))))))))))
  rcases Bool.eq_false_or_eq_true (!decide (an = bn)) with b0 | b0
  · -- !decide (an = bn) is True
    have p0 := of_decide_eq_false (nott b0)
    refine k (gn rfl rfl rfl b0 (k (gn rfl rfl rfl b0 (k (gn rfl rfl rfl b0 (k (gn rfl rfl rfl b0 (k (gn rfl rfl rfl b0 (k (gn rfl rfl rfl b0 (k (gn rfl rfl rfl b0 (k (pickT rfl rfl rfl rfl b0 rfl (z (nx (cdT rfl rfl rfl (sq (rg (k (asg rfl rfl (z (nx (rt (then_ret (r1 rfl rfl ?_)))))))))))))))))))))))))))
    have e0 : (false : Bool) = eqM an ar bn br := by first | exact eqM_no (by rintro ⟨e1, e2⟩; first | omega | (subst e2; omega)) | exact eqM_no (by rintro ⟨e1, e2⟩; exact ne_of_at hx0 hx1 (by first | assumption | simpa using b3) e2) | exact eqM_yes (by omega) (eq_of_take (by omega) hs (by omega))
    have ev_ := cg1 (fun (x_0 : Bool) => (.bool x_0 : Value)) e0
    exact ⟨ev_, H3.below⟩
  · -- !decide (an = bn) is False
    have p0 := of_decide_eq_true (notf b0)
    refine k (gy rfl rfl rfl b0 (fa fl33_1 rfl rfl (k (gy rfl rfl rfl b0 (ldX H3 1 rfl ty31 rfl rfl (by decide) rfl (k (gy rfl rfl rfl b0 (lnS rfl rfl un31 (k (gy rfl rfl rfl b0 (fa fl33_1 rfl rfl (k (gy rfl rfl rfl b0 (ldX H3 0 rfl ty31 rfl rfl (by decide) rfl (k (gy rfl rfl rfl b0 (lnS rfl rfl un31 (k (gy rfl rfl rfl b0 (neq rfl rfl rfl rfl (k (pickF rfl rfl rfl rfl b0 rfl (z (nx ?_))))))))))))))))))))))))
    refine cd (b := !decide ((ar.length : Int) = (br.length : Int))) rfl rfl (fun b1 => ?_) (fun b1 => ?_)
    ·
      have p1 := of_decide_eq_false (nott b1)
      refine sq (rg (k (asg rfl rfl (z (nx (rt (then_ret (r1 rfl rfl ?_))))))))
      have e0 : (false : Bool) = eqM an ar bn br := by first | exact eqM_no (by rintro ⟨e1, e2⟩; first | omega | (subst e2; omega)) | exact eqM_no (by rintro ⟨e1, e2⟩; exact ne_of_at hx0 hx1 (by first | assumption | simpa using b3) e2) | exact eqM_yes (by omega) (eq_of_take (by omega) hs (by omega))
      have ev_ := cg1 (fun (x_0 : Bool) => (.bool x_0 : Value)) e0
      exact ⟨ev_, H3.below⟩
    ·
      have p1 := of_decide_eq_true (notf b1)
      refine sk (nx (sq (sq (rg (k (asg rfl rfl (z (nx (bk ?_)))))))))
      refine lp (fun m f w' => ∃ (j : Nat), m = ar.length - j ∧ f 2 = .pointer (some ⟨bb0, 0, none⟩) ∧ f 3 = .pointer (some ⟨bb1, 0, none⟩) ∧ f 5 = .int .i64 (j : Int) ∧  HI M w w' [box bb1 #[.int .i64 bn, .slice a_br br.length c_br] 33, box bb0 #[.int .i64 an, .slice a_ar ar.length c_ar] 33, imm (.slice a_br br.length c_br) br, imm (.slice a_ar ar.length c_ar) ar] ∧ (j ≤ ar.length) ∧ (ar.take j = br.take j)) _ ⟨0, rfl, rfl, rfl, (ieq rfl (by first | rfl | omega | simp)), H3, (by first | assumption | omega | simp | (simp; omega)), (by first | assumption | omega | simp | (simp; omega))⟩ ?_
      rintro _ f0 w2 ⟨j, rfl, s0, s1, s2, H4, hk, hs⟩
      refine sq (sq (rg (k (mv rfl s2 (k (fa fl33_1 rfl s0 (k (ldX H4 1 rfl ty31 rfl rfl (by decide) rfl (k (lnS rfl rfl un31 (k (lss rfl rfl rfl rfl (z (nx ?_))))))))))))))
      refine cd (b := decide ((j : Int) < (ar.length : Int))) rfl rfl (fun b2 => ?_) (fun b2 => ?_)
      ·
        have p2 := of_decide_eq_true b2
        refine sk (nx (sq (bk (sq ?_))))
        obtain ⟨x0, hx0⟩ : ∃ x, ar[(j : Int).toNat]? = some x := ⟨_, List.getElem?_eq_getElem (by first | omega | (simp; omega))⟩
        obtain ⟨x1, hx1⟩ : ∃ x, br[(j : Int).toNat]? = some x := ⟨_, List.getElem?_eq_getElem (by first | omega | (simp; omega))⟩
        refine dr 10 [fun (v : Value) (w' : World) => v = .pointer (some ⟨bb0, 1, none⟩), fun (v : Value) (w' : World) => v = .slice a_ar ar.length c_ar, fun (v : Value) (w' : World) => v = .int .i64 (j : Int), fun (v : Value) (w' : World) => ∃ (ad0 : Addr), v = .pointer (some ad0) ∧ At (MS M [box bb1 #[.int .i64 bn, .slice a_br br.length c_br] 33, box bb0 #[.int .i64 an, .slice a_ar ar.length c_ar] 33, imm (.slice a_br br.length c_br) br, imm (.slice a_ar ar.length c_ar) ar]) w' ad0 x0, fun (v : Value) (w' : World) => ∃ (a0 : Option Addr) (c0 : Nat), v = .slice a0 x0.length c0 ∧ RV (MS M [box bb1 #[.int .i64 bn, .slice a_br br.length c_br] 33, box bb0 #[.int .i64 an, .slice a_ar ar.length c_ar] 33, imm (.slice a_br br.length c_br) br, imm (.slice a_ar ar.length c_ar) ar]) w' (.slice a0 x0.length c0) x0, fun (v : Value) (w' : World) => v = .pointer (some ⟨bb1, 1, none⟩), fun (v : Value) (w' : World) => v = .slice a_br br.length c_br, fun (v : Value) (w' : World) => v = .int .i64 (j : Int), fun (v : Value) (w' : World) => ∃ (ad1 : Addr), v = .pointer (some ad1) ∧ At (MS M [box bb1 #[.int .i64 bn, .slice a_br br.length c_br] 33, box bb0 #[.int .i64 an, .slice a_ar ar.length c_ar] 33, imm (.slice a_br br.length c_br) br, imm (.slice a_ar ar.length c_ar) ar]) w' ad1 x1, fun (v : Value) (w' : World) => ∃ (a1 : Option Addr) (c1 : Nat), v = .slice a1 x1.length c1 ∧ RV (MS M [box bb1 #[.int .i64 bn, .slice a_br br.length c_br] 33, box bb0 #[.int .i64 an, .slice a_ar ar.length c_ar] 33, imm (.slice a_br br.length c_br) br, imm (.slice a_ar ar.length c_ar) ar]) w' (.slice a1 x1.length c1) x1] rfl (by kernel_rfl) ?_ ?_
        ·
          refine ⟨fun _ => ⟨fun f1 w3 hf0 xt2 hp0 => ?_, fun _ _ _ _ h => h⟩, ?_⟩
          ·
            have H7 := H4.ext xt2
            refine fa fl33_1 rfl ((hf0 2 rfl).trans s0) ?_
            exact ⟨_, rfl, Ext.refl _, rfl⟩
          refine ⟨fun _ => ⟨fun f2 w4 hf1 xt3 hp1 => ?_, fun _ _ _ _ h => h⟩, ?_⟩
          ·
            have H8 := H4.ext xt3
            have s3 : f2 27 = .pointer (some ⟨bb0, 1, none⟩) := hp1 0 rfl rfl
            refine ldX H8 1 rfl ty31 rfl s3 (by decide) rfl ?_
            exact ⟨_, rfl, Ext.refl _, rfl⟩
          refine ⟨fun _ => ⟨fun f3 w5 hf2 xt4 hp2 => ?_, fun _ _ _ _ h => h⟩, ?_⟩
          ·
            have H9 := H4.ext xt4
            refine mv rfl ((hf2 5 rfl).trans s2) ?_
            exact ⟨_, rfl, Ext.refl _, rfl⟩
          refine ⟨fun _ => ⟨fun f4 w6 hf3 xt5 hp3 => ?_, by rintro _ _ _ x_ ⟨ad0, e_, hA0⟩; exact ⟨ad0, e_, hA0.lift (Up.ext x_)⟩⟩, ?_⟩
          ·
            have H10 := H4.ext xt5
            have s4 : f4 28 = .slice a_ar ar.length c_ar := hp3 1 rfl rfl
            have s5 : f4 29 = .int .i64 (j : Int) := hp3 2 rfl rfl
            refine ia (H10.rv 3 rfl) rfl rfl s4 s5 (by first | omega | (simp; omega)) un31 ty22 ?_
            intro ad2 x2 hx2 hA2
            obtain rfl : x0 = x2 := Option.some.inj (hx0.symm.trans hx2)
            exact ⟨_, rfl, Ext.refl _, ⟨ad2, rfl, hA2⟩⟩
          refine ⟨fun _ => ⟨fun f5 w7 hf4 xt6 hp4 => ?_, by rintro _ _ _ x_ ⟨a0, c0, e_, rv0⟩; exact ⟨a0, c0, e_, rv0.lift (Up.ext x_)⟩⟩, ?_⟩
          ·
            have H11 := H4.ext xt6
            obtain ⟨ad3, s6, hA3⟩ : ∃ (ad3 : Addr), f5 30 = .pointer (some ad3) ∧ At (MS M [box bb1 #[.int .i64 bn, .slice a_br br.length c_br] 33, box bb0 #[.int .i64 an, .slice a_ar ar.length c_ar] 33, imm (.slice a_br br.length c_br) br, imm (.slice a_ar ar.length c_ar) ar]) w7 ad3 x0 := hp4 3 rfl rfl
            have H12 := H11.put (it := atI ad3 x0) rfl hA3
            refine ldL (H12.atv 0 rfl).w ty22 rfl s6 ?_
            intro a2 c2 rv2
            have H13 := H12.put (it := imm (.slice a2 x0.length c2) x0) rfl rv2
            exact ⟨_, rfl, Ext.refl _, ⟨a2, c2, rfl, (rv_drop rfl rv2)⟩⟩
          refine ⟨fun _ => ⟨fun f6 w8 hf5 xt7 hp5 => ?_, fun _ _ _ _ h => h⟩, ?_⟩
          ·
            have H14 := H4.ext xt7
            refine fa fl33_1 rfl ((hf5 3 rfl).trans s1) ?_
            exact ⟨_, rfl, Ext.refl _, rfl⟩
          refine ⟨fun _ => ⟨fun f7 w9 hf6 xt8 hp6 => ?_, fun _ _ _ _ h => h⟩, ?_⟩
          ·
            have H15 := H4.ext xt8
            have s7 : f7 32 = .pointer (some ⟨bb1, 1, none⟩) := hp6 5 rfl rfl
            refine ldX H15 0 rfl ty31 rfl s7 (by decide) rfl ?_
            exact ⟨_, rfl, Ext.refl _, rfl⟩
          refine ⟨fun _ => ⟨fun f8 w10 hf7 xt9 hp7 => ?_, fun _ _ _ _ h => h⟩, ?_⟩
          ·
            have H16 := H4.ext xt9
            refine mv rfl ((hf7 5 rfl).trans s2) ?_
            exact ⟨_, rfl, Ext.refl _, rfl⟩
          refine ⟨fun _ => ⟨fun f9 w11 hf8 xt10 hp8 => ?_, by rintro _ _ _ x_ ⟨ad1, e_, hA1⟩; exact ⟨ad1, e_, hA1.lift (Up.ext x_)⟩⟩, ?_⟩
          ·
            have H17 := H4.ext xt10
            have s8 : f9 33 = .slice a_br br.length c_br := hp8 6 rfl rfl
            have s9 : f9 34 = .int .i64 (j : Int) := hp8 7 rfl rfl
            refine ia (H17.rv 2 rfl) rfl rfl s8 s9 (by first | omega | (simp; omega)) un31 ty22 ?_
            intro ad4 x3 hx3 hA4
            obtain rfl : x1 = x3 := Option.some.inj (hx1.symm.trans hx3)
            exact ⟨_, rfl, Ext.refl _, ⟨ad4, rfl, hA4⟩⟩
          refine ⟨fun _ => ⟨fun f10 w12 hf9 xt11 hp9 => ?_, by rintro _ _ _ x_ ⟨a1, c1, e_, rv1⟩; exact ⟨a1, c1, e_, rv1.lift (Up.ext x_)⟩⟩, ?_⟩
          ·
            have H18 := H4.ext xt11
            obtain ⟨ad5, s10, hA5⟩ : ∃ (ad5 : Addr), f10 35 = .pointer (some ad5) ∧ At (MS M [box bb1 #[.int .i64 bn, .slice a_br br.length c_br] 33, box bb0 #[.int .i64 an, .slice a_ar ar.length c_ar] 33, imm (.slice a_br br.length c_br) br, imm (.slice a_ar ar.length c_ar) ar]) w12 ad5 x1 := hp9 8 rfl rfl
            have H19 := H18.put (it := atI ad5 x1) rfl hA5
            refine ldL (H19.atv 0 rfl).w ty22 rfl s10 ?_
            intro a3 c3 rv3
            have H20 := H19.put (it := imm (.slice a3 x1.length c3) x1) rfl rv3
            exact ⟨_, rfl, Ext.refl _, ⟨a3, c3, rfl, (rv_drop rfl rv3)⟩⟩
          exact DSteps.rest rfl _
        · intro f11 w13 hf10 xt12 hp10
          have H21 := H4.ext xt12
          have s11 : f11 2 = .pointer (some ⟨bb0, 0, none⟩) := (hf10 2 rfl).trans s0
          have s12 : f11 3 = .pointer (some ⟨bb1, 0, none⟩) := (hf10 3 rfl).trans s1
          have s13 : f11 5 = .int .i64 (j : Int) := (hf10 5 rfl).trans s2
          obtain ⟨a4, c4, s14, rv4⟩ : ∃ (a4 : Option Addr) (c4 : Nat), f11 31 = .slice a4 x0.length c4 ∧ RV (MS M [box bb1 #[.int .i64 bn, .slice a_br br.length c_br] 33, box bb0 #[.int .i64 an, .slice a_ar ar.length c_ar] 33, imm (.slice a_br br.length c_br) br, imm (.slice a_ar ar.length c_ar) ar]) w13 (.slice a4 x0.length c4) x0 := hp10 4 rfl
          have H22 := H21.put (it := imm (.slice a4 x0.length c4) x0) rfl rv4
          obtain ⟨a5, c5, s15, rv5⟩ : ∃ (a5 : Option Addr) (c5 : Nat), f11 36 = .slice a5 x1.length c5 ∧ RV (MS M [box bb1 #[.int .i64 bn, .slice a_br br.length c_br] 33, box bb0 #[.int .i64 an, .slice a_ar ar.length c_ar] 33, imm (.slice a_br br.length c_br) br, imm (.slice a_ar ar.length c_ar) ar]) w13 (.slice a5 x1.length c5) x1 := hp10 9 rfl
          have H23 := H22.put (it := imm (.slice a5 x1.length c5) x1) rfl (by rw [MS_cons_none rfl]; exact rv5)
          refine k ?_
          have cc0 := ref02_Same (a := x0) (b := x1) (w := w13) H23.mb (H23.rv 1 rfl) (H23.rv 0 rfl)
          refine ca go30 rfl (ec s14 (ec s15 e0)) cc0 ?_
          rintro _ w14 ⟨rfl, xt13⟩
          have H24 := H23.ext xt13
          refine k (not_ rfl rfl (z (nx ?_)))
          refine cd (b := !(decide (x0 = x1))) rfl rfl (fun b3 => ?_) (fun b3 => ?_)
          ·
            have p3 := of_decide_eq_false (nott b3)
            refine sq (rg (k (asg rfl rfl (z (nx (rt (inb_ret (then_ret (loop_ret (inb_ret (then_ret (r1 rfl rfl ?_))))))))))))
            have e0 : (false : Bool) = eqM an ar bn br := by first | exact eqM_no (by rintro ⟨e1, e2⟩; first | omega | (subst e2; omega)) | exact eqM_no (by rintro ⟨e1, e2⟩; exact ne_of_at hx0 hx1 (by first | assumption | simpa using b3) e2) | exact eqM_yes (by omega) (eq_of_take (by omega) hs (by omega))
            have ev_ := cg1 (fun (x_0 : Bool) => (.bool x_0 : Value)) e0
            exact ⟨ev_, H24.below⟩
          ·
            have p3 := of_decide_eq_true (notf b3)
            refine sk (inb_normal (nx (rg (k (mv rfl s13 (k (add rfl rfl rfl rfl (by unfold I64 at *; omega) (k (asg rfl rfl (z ?_))))))))))
            have H25 : HI M w w14 [box bb1 #[.int .i64 bn, .slice a_br br.length c_br] 33, box bb0 #[.int .i64 an, .slice a_ar ar.length c_ar] 33, imm (.slice a_br br.length c_br) br, imm (.slice a_ar ar.length c_ar) ar] := H24.pickN [2, 3, 4, 5] (by decide) rfl
            refine loopN _ ?_ ⟨(j + 1), rfl, s11, s12, (ieq rfl (by first | rfl | omega | (push_cast; omega))), H25, (by first | assumption | omega | simp | (simp; omega)), (by exact take_eq_step hs hx0 hx1 (by first | assumption | simpa using b3))⟩
            omega
      ·
        have p2 := of_decide_eq_false b2
        refine ex (then_exit (loop_exit (inb_here (nx (sq (rg (k (asg rfl rfl (z (nx (rt (r1 rfl rfl ?_))))))))))))
        have e0 : (true : Bool) = eqM an ar bn br := by first | exact eqM_no (by rintro ⟨e1, e2⟩; first | omega | (subst e2; omega)) | exact eqM_no (by rintro ⟨e1, e2⟩; exact ne_of_at hx0 hx1 (by first | assumption | simpa using b3) e2) | exact eqM_yes (by omega) (eq_of_take (by omega) hs (by omega))
        have ev_ := cg1 (fun (x_0 : Bool) => (.bool x_0 : Value)) e0
        exact ⟨ev_, H4.below⟩
/- eyewitness/eyewitnessref03.Of -/
set_option maxRecDepth 100000 in
set_option maxHeartbeats 200000 in
theorem ref03_Of {M : Nat → Prop} {w : World} {n : Int} {a_ps : Option Addr} {c_ps : Nat} {ps : List (Int × Int)} (hM : ∀ b, M b → b < w.heap.size) (h_n : I64 n) (h_ps : RV M w (.slice a_ps ps.length c_ps) ps) : Calls Try.prog 14 #[.int .i64 n, .slice a_ps ps.length c_ps] w (Ret fun v w' => ∃ (a0 : Option Addr) (c0 : Nat), v = .tuple #[.agg #[.int .i64 (ofMN n ps), .slice a0 (ofMR n ps).length c0], .int .i64 (ofME n ps)] ∧ Ext w w' ∧ RV M w' (.slice a0 (ofMR n ps).length c0) (ofMR n ps)) := by
  refine enter 44 Try.func14 rfl rfl rfl fun f0 ha => ?_
  have H := HI.start (M0 := M) (w := w) hM
  have H0 := H.put (it := imm (.slice a_ps ps.length c_ps) ps) rfl (by rw [MS_nil]; exact h_ps)
  have ln_ps := rv_len h_ps
  have i0 : f0 0 = .int .i64 n := ha 0 (by simp)
  have i1 : f0 1 = .slice a_ps ps.length c_ps := ha 1 (by simp)
  refine sq (rg (k (al H0 ty33 ?_)))
  intro bb0 w0 xt0 (H1 : HI M w w0 [box bb0 #[.int .i64 0, .slice none 0 0] 33, imm (.slice a_ps ps.length c_ps) ps])
  refine k (asg rfl rfl (z (nx (sq (rg (k (mv rfl i0 (k ?_))))))))
  have cc0 := ref03_New (n := n) (w := w0) H1.mb (by unfold I64 at *; omega)
  refine ca go15 rfl (ec rfl e0) cc0 ?_
  rintro _ w1 ⟨a0, c0, rfl, xt1, rv0⟩
  have H2 := H1.ownsG rv0
  refine k (mv rfl rfl (k (xt rfl rfl rfl (k (xt rfl rfl rfl (k (al H2 ty33 ?_)))))))
  intro bb1 w2 xt2 (H3 : HI M w w2 [box bb1 #[.int .i64 0, .slice none 0 0] 33, own w.heap.size 22 (.slice a0 (newMR n).length c0) (newMR n), box bb0 #[.int .i64 0, .slice none 0 0] 33, imm (.slice a_ps ps.length c_ps) ps])
  refine k (stX H3 0 rfl ty33 rfl rfl rfl rfl rfl rfl rfl ?_)
  intro w3 (H4 : HI M w w3 [box bb1 #[.int .i64 (newMN n), .slice a0 (newMR n).length c0] 33, own w.heap.size 22 (.slice a0 (newMR n).length c0) (newMR n), box bb0 #[.int .i64 0, .slice none 0 0] 33, imm (.slice a_ps ps.length c_ps) ps])
  refine k (asg rfl rfl (z (nx (sq (sq (rg (k (asg rfl rfl (z (nx (bk ?_)))))))))))
  have H5 := H4.freeze 1 rfl
  have H6 := H5.put (it := imm (.slice a0 (newMR n).length c0) (newMR n)) rfl (H5.rv 1 rfl)
  refine lp (fun m f w' => ∃ (j : Nat) (n_ : Int) (rs : List (List (BitVec 64))) (e_ : Int) (a1 : Option Addr) (c1 : Nat), m = ps.length - j ∧ f 1 = .slice a_ps ps.length c_ps ∧ f 4 = .pointer (some ⟨bb0, 0, none⟩) ∧ f 6 = .pointer (some ⟨bb1, 0, none⟩) ∧ f 7 = .int .i64 e_ ∧ f 8 = .int .i64 (j : Int) ∧  HI M w w' [imm (.slice a1 rs.length c1) rs, box bb1 #[.int .i64 n_, .slice a1 rs.length c1] 33, imm (.slice a0 (newMR n).length c0) (newMR n), box bb0 #[.int .i64 0, .slice none 0 0] 33, imm (.slice a_ps ps.length c_ps) ps] ∧ (j ≤ ps.length) ∧ (n_ = ofMN n (ps.take j)) ∧ (rs = ofMR n (ps.take j)) ∧ (e_ = ofME n (ps.take j))) _ ⟨0, (newMN n), (newMR n), (newME n), a0, c0, rfl, i1, rfl, rfl, (ieq rfl (by first | rfl | omega | simp)), (ieq rfl (by first | rfl | omega | simp)), H6, (by first | assumption | omega | simp | (simp; omega)), (by exact (ofM_nil n).1), (by exact (ofM_nil n).2.1), (by exact (ofM_nil n).2.2)⟩ ?_
  rintro _ f0 w4 ⟨j, n_, rs, e_, a1, c1, rfl, s0, s1, s2, s3, s4, H7, hk, h1, h2, h3⟩
  refine sq (sq (rg (k (mv rfl s4 (k (mv rfl s0 (k (lnS rfl rfl un30 (k (lss rfl rfl rfl rfl (k (mv rfl rfl ?_))))))))))))
  rcases Bool.eq_false_or_eq_true (decide ((j : Int) < (ps.length : Int))) with b0 | b0
  · -- decide ((j : Int) < (ps.length : Int)) is True
    have p0 := of_decide_eq_true b0
    refine k (gy rfl rfl rfl b0 (mv rfl s3 (k (gy rfl rfl rfl b0 (eql rfl rfl rfl rfl (k (pickT rfl rfl rfl rfl b0 rfl (z (nx ?_)))))))))
    refine cd (b := decide (e_ = 0)) rfl rfl (fun b1 => ?_) (fun b1 => ?_)
    ·
      have p1 := of_decide_eq_true b1
      refine sk (nx (sq (bk ?_)))
      have he_ : ofME n (ps.take j) = 0 := by rw [← h3]; omega
      have hq := ofME_zero he_
      have hsq := ofM_sq hq
      have hst := fun {p_} (hx_ : ps[((j : Nat) : Int).toNat]? = some p_) => ofM_step hx_ hq
      obtain ⟨x0, hx0⟩ : ∃ x, ps[(j : Int).toNat]? = some x := ⟨_, List.getElem?_eq_getElem (by first | omega | (simp; omega))⟩
      obtain ⟨x1, hx1⟩ : ∃ x, ps[(j : Int).toNat]? = some x := ⟨_, List.getElem?_eq_getElem (by first | omega | (simp; omega))⟩
      refine dr3 13 [fun (v : Value) (w' : World) => v = .agg #[.int .i64 n_, .slice a1 rs.length c1], fun (v : Value) (w' : World) => v = .slice a_ps ps.length c_ps, fun (v : Value) (w' : World) => v = .int .i64 (j : Int), fun (v : Value) (w' : World) => ∃ (ad0 : Addr), v = .pointer (some ad0) ∧ At (MS M [imm (.slice a1 rs.length c1) rs, box bb1 #[.int .i64 n_, .slice a1 rs.length c1] 33, imm (.slice a0 (newMR n).length c0) (newMR n), box bb0 #[.int .i64 0, .slice none 0 0] 33, imm (.slice a_ps ps.length c_ps) ps]) w' ad0 x0, fun (v : Value) (w' : World) => ∃ (ad0 : Addr), v = .pointer (some ((ad0).add 0)) ∧ At (MS M [imm (.slice a1 rs.length c1) rs, box bb1 #[.int .i64 n_, .slice a1 rs.length c1] 33, imm (.slice a0 (newMR n).length c0) (newMR n), box bb0 #[.int .i64 0, .slice none 0 0] 33, imm (.slice a_ps ps.length c_ps) ps]) w' ad0 x0, fun (v : Value) (w' : World) => v = .int .i64 x0.1 ∧ I64 (x0.1), fun (v : Value) (w' : World) => v = .slice a_ps ps.length c_ps, fun (v : Value) (w' : World) => v = .int .i64 (j : Int), fun (v : Value) (w' : World) => ∃ (ad1 : Addr), v = .pointer (some ad1) ∧ At (MS M [imm (.slice a1 rs.length c1) rs, box bb1 #[.int .i64 n_, .slice a1 rs.length c1] 33, imm (.slice a0 (newMR n).length c0) (newMR n), box bb0 #[.int .i64 0, .slice none 0 0] 33, imm (.slice a_ps ps.length c_ps) ps]) w' ad1 x1, fun (v : Value) (w' : World) => ∃ (ad1 : Addr), v = .pointer (some ((ad1).add 1)) ∧ At (MS M [imm (.slice a1 rs.length c1) rs, box bb1 #[.int .i64 n_, .slice a1 rs.length c1] 33, imm (.slice a0 (newMR n).length c0) (newMR n), box bb0 #[.int .i64 0, .slice none 0 0] 33, imm (.slice a_ps ps.length c_ps) ps]) w' ad1 x1, fun (v : Value) (w' : World) => v = .int .i64 x1.2 ∧ I64 (x1.2), fun (v : Value) (w' : World) => ∃ (a2 : Option Addr) (c2 : Nat), v = .tuple #[.agg #[.int .i64 (setMN n_ x0.1 x1.2), .slice a2 (setMR n_ rs x0.1 x1.2).length c2], .int .i64 (setME n_ x0.1 x1.2)] ∧ RV (MS M [imm (.slice a1 rs.length c1) rs, box bb1 #[.int .i64 n_, .slice a1 rs.length c1] 33, imm (.slice a0 (newMR n).length c0) (newMR n), box bb0 #[.int .i64 0, .slice none 0 0] 33, imm (.slice a_ps ps.length c_ps) ps]) w' (.slice a2 (setMR n_ rs x0.1 x1.2).length c2) (setMR n_ rs x0.1 x1.2), fun (v : Value) (w' : World) => ∃ (a2 : Option Addr) (c2 : Nat), v = .tuple #[.agg #[.int .i64 (setMN n_ x0.1 x1.2), .slice a2 (setMR n_ rs x0.1 x1.2).length c2], .int .i64 (setME n_ x0.1 x1.2)] ∧ RV (MS M [imm (.slice a1 rs.length c1) rs, box bb1 #[.int .i64 n_, .slice a1 rs.length c1] 33, imm (.slice a0 (newMR n).length c0) (newMR n), box bb0 #[.int .i64 0, .slice none 0 0] 33, imm (.slice a_ps ps.length c_ps) ps]) w' (.slice a2 (setMR n_ rs x0.1 x1.2).length c2) (setMR n_ rs x0.1 x1.2)] rfl (by kernel_rfl) ?_ ?_
      ·
        refine ⟨fun _ => ⟨fun f1 w6 hf0 xt4 hp0 => ?_, fun _ _ _ _ h => h⟩, ?_⟩
        ·
          have H10 := H7.ext xt4
          refine ldX H10 1 rfl ty33 rfl ((hf0 6 rfl).trans s2) (by decide) rfl ?_
          exact ⟨_, rfl, Ext.refl _, rfl⟩
        refine ⟨fun _ => ⟨fun f2 w7 hf1 xt5 hp1 => ?_, fun _ _ _ _ h => h⟩, ?_⟩
        ·
          have H11 := H7.ext xt5
          refine mv rfl ((hf1 1 rfl).trans s0) ?_
          exact ⟨_, rfl, Ext.refl _, rfl⟩
        refine ⟨fun _ => ⟨fun f3 w8 hf2 xt6 hp2 => ?_, fun _ _ _ _ h => h⟩, ?_⟩
        ·
          have H12 := H7.ext xt6
          refine mv rfl ((hf2 8 rfl).trans s4) ?_
          exact ⟨_, rfl, Ext.refl _, rfl⟩
        refine ⟨fun _ => ⟨fun f4 w9 hf3 xt7 hp3 => ?_, by rintro _ _ _ x_ ⟨ad0, e_, hA0⟩; exact ⟨ad0, e_, hA0.lift (Up.ext x_)⟩⟩, ?_⟩
        ·
          have H13 := H7.ext xt7
          have s5 : f4 26 = .slice a_ps ps.length c_ps := hp3 1 rfl rfl
          have s6 : f4 27 = .int .i64 (j : Int) := hp3 2 rfl rfl
          refine ia (H13.rv 4 rfl) rfl rfl s5 s6 (by first | omega | (simp; omega)) un30 ty47 ?_
          intro ad2 x2 hx2 hA2
          obtain rfl : x0 = x2 := Option.some.inj (hx0.symm.trans hx2)
          exact ⟨_, rfl, Ext.refl _, ⟨ad2, rfl, hA2⟩⟩
        refine ⟨fun _ => ⟨fun f5 w10 hf4 xt8 hp4 => ?_, by rintro _ _ _ x_ ⟨ad0, e_, hA0⟩; exact ⟨ad0, e_, hA0.lift (Up.ext x_)⟩⟩, ?_⟩
        ·
          have H14 := H7.ext xt8
          obtain ⟨ad3, s7, hA3⟩ : ∃ (ad3 : Addr), f5 28 = .pointer (some ad3) ∧ At (MS M [imm (.slice a1 rs.length c1) rs, box bb1 #[.int .i64 n_, .slice a1 rs.length c1] 33, imm (.slice a0 (newMR n).length c0) (newMR n), box bb0 #[.int .i64 0, .slice none 0 0] 33, imm (.slice a_ps ps.length c_ps) ps]) w10 ad3 x0 := hp4 3 rfl rfl
          have H15 := H14.put (it := atI ad3 x0) rfl hA3
          refine iaA rfl rfl s7 rfl (by omega) un47 ty3 ?_
          exact ⟨_, rfl, Ext.refl _, ⟨ad3, rfl, (by assumption)⟩⟩
        refine ⟨fun _ => ⟨fun f6 w11 hf5 xt9 hp5 => ?_, fun _ _ _ _ h => h⟩, ?_⟩
        ·
          have H16 := H7.ext xt9
          obtain ⟨ad4, s8, hA4⟩ : ∃ (ad4 : Addr), f6 29 = .pointer (some ((ad4).add 0)) ∧ At (MS M [imm (.slice a1 rs.length c1) rs, box bb1 #[.int .i64 n_, .slice a1 rs.length c1] 33, imm (.slice a0 (newMR n).length c0) (newMR n), box bb0 #[.int .i64 0, .slice none 0 0] 33, imm (.slice a_ps ps.length c_ps) ps]) w11 ad4 x0 := hp5 4 rfl rfl
          have H17 := H16.put (it := atI ad4 x0) rfl hA4
          refine ldI ((H17.atv 0 rfl)).fst.w ty3 rfl s8 ?_
          intro rv5
          exact ⟨_, rfl, Ext.refl _, ⟨rfl, rv5⟩⟩
        refine ⟨fun _ => ⟨fun f7 w12 hf6 xt10 hp6 => ?_, fun _ _ _ _ h => h⟩, ?_⟩
        ·
          have H18 := H7.ext xt10
          refine mv rfl ((hf6 1 rfl).trans s0) ?_
          exact ⟨_, rfl, Ext.refl _, rfl⟩
        refine ⟨fun _ => ⟨fun f8 w13 hf7 xt11 hp7 => ?_, fun _ _ _ _ h => h⟩, ?_⟩
        ·
          have H19 := H7.ext xt11
          refine mv rfl ((hf7 8 rfl).trans s4) ?_
          exact ⟨_, rfl, Ext.refl _, rfl⟩
        refine ⟨fun _ => ⟨fun f9 w14 hf8 xt12 hp8 => ?_, by rintro _ _ _ x_ ⟨ad1, e_, hA1⟩; exact ⟨ad1, e_, hA1.lift (Up.ext x_)⟩⟩, ?_⟩
        ·
          have H20 := H7.ext xt12
          have s9 : f9 31 = .slice a_ps ps.length c_ps := hp8 6 rfl rfl
          have s10 : f9 32 = .int .i64 (j : Int) := hp8 7 rfl rfl
          refine ia (H20.rv 4 rfl) rfl rfl s9 s10 (by first | omega | (simp; omega)) un30 ty47 ?_
          intro ad5 x3 hx3 hA5
          obtain rfl : x1 = x3 := Option.some.inj (hx1.symm.trans hx3)
          exact ⟨_, rfl, Ext.refl _, ⟨ad5, rfl, hA5⟩⟩
        refine ⟨fun _ => ⟨fun f10 w15 hf9 xt13 hp9 => ?_, by rintro _ _ _ x_ ⟨ad1, e_, hA1⟩; exact ⟨ad1, e_, hA1.lift (Up.ext x_)⟩⟩, ?_⟩
        ·
          have H21 := H7.ext xt13
          obtain ⟨ad6, s11, hA6⟩ : ∃ (ad6 : Addr), f10 33 = .pointer (some ad6) ∧ At (MS M [imm (.slice a1 rs.length c1) rs, box bb1 #[.int .i64 n_, .slice a1 rs.length c1] 33, imm (.slice a0 (newMR n).length c0) (newMR n), box bb0 #[.int .i64 0, .slice none 0 0] 33, imm (.slice a_ps ps.length c_ps) ps]) w15 ad6 x1 := hp9 8 rfl rfl
          have H22 := H21.put (it := atI ad6 x1) rfl hA6
          refine iaA rfl rfl s11 rfl (by omega) un47 ty3 ?_
          exact ⟨_, rfl, Ext.refl _, ⟨ad6, rfl, (by assumption)⟩⟩
        refine ⟨fun _ => ⟨fun f11 w16 hf10 xt14 hp10 => ?_, fun _ _ _ _ h => h⟩, ?_⟩
        ·
          have H23 := H7.ext xt14
          obtain ⟨ad7, s12, hA7⟩ : ∃ (ad7 : Addr), f11 34 = .pointer (some ((ad7).add 1)) ∧ At (MS M [imm (.slice a1 rs.length c1) rs, box bb1 #[.int .i64 n_, .slice a1 rs.length c1] 33, imm (.slice a0 (newMR n).length c0) (newMR n), box bb0 #[.int .i64 0, .slice none 0 0] 33, imm (.slice a_ps ps.length c_ps) ps]) w16 ad7 x1 := hp10 9 rfl rfl
          have H24 := H23.put (it := atI ad7 x1) rfl hA7
          refine ldI ((H24.atv 0 rfl)).snd.w ty3 rfl s12 ?_
          intro rv6
          exact ⟨_, rfl, Ext.refl _, ⟨rfl, rv6⟩⟩
        refine ⟨fun _ => ⟨fun f12 w17 hf11 xt15 hp11 => ?_, by rintro _ _ _ x_ ⟨a2, c2, e_, rv4⟩; exact ⟨a2, c2, e_, rv4.lift (Up.ext x_)⟩⟩, ?_⟩
        ·
          have H25 := H7.ext xt15
          have s13 : f12 25 = .agg #[.int .i64 n_, .slice a1 rs.length c1] := hp11 0 rfl rfl
          obtain ⟨s14, rv7⟩ : f12 30 = .int .i64 x0.1 ∧ I64 (x0.1) := hp11 5 rfl rfl
          obtain ⟨s15, rv8⟩ : f12 35 = .int .i64 x1.2 ∧ I64 (x1.2) := hp11 10 rfl rfl
          have cc2 := ref03_Set (mn := n_) (mr := rs) (i := x0.1) (j := x1.2) (w := w17) H25.mb (by rw [h1, (of_yes hq).1]; exact h_n) (H25.rv 0 rfl) (by unfold I64 at *; omega) (by unfold I64 at *; omega) (by rw [h1, h2]; exact hsq.1) (by rw [h2]; exact hsq.2.1) (by rw [h1]; exact hsq.2.2)
          refine ca go28 rfl (ec s13 (ec s14 (ec s15 e0))) cc2 ?_
          rintro _ w18 ⟨a3, c3, rfl, xt16, rv9⟩
          have rv10 := OwnsG.rv rv9 H25.mb
          have H26 := H25.ext xt16
          have H27 := H26.put (it := imm (.slice a3 (setMR n_ rs x0.1 x1.2).length c3) (setMR n_ rs x0.1 x1.2)) rfl rv10
          exact ⟨_, rfl, xt16, ⟨a3, c3, rfl, rv10⟩⟩
        refine ⟨fun _ => ⟨fun f13 w19 hf12 xt17 hp12 => ?_, by rintro _ _ _ x_ ⟨a2, c2, e_, rv4⟩; exact ⟨a2, c2, e_, rv4.lift (Up.ext x_)⟩⟩, ?_⟩
        ·
          have H28 := H7.ext xt17
          obtain ⟨a4, c4, s16, rv11⟩ : ∃ (a4 : Option Addr) (c4 : Nat), f13 36 = .tuple #[.agg #[.int .i64 (setMN n_ x0.1 x1.2), .slice a4 (setMR n_ rs x0.1 x1.2).length c4], .int .i64 (setME n_ x0.1 x1.2)] ∧ RV (MS M [imm (.slice a1 rs.length c1) rs, box bb1 #[.int .i64 n_, .slice a1 rs.length c1] 33, imm (.slice a0 (newMR n).length c0) (newMR n), box bb0 #[.int .i64 0, .slice none 0 0] 33, imm (.slice a_ps ps.length c_ps) ps]) w19 (.slice a4 (setMR n_ rs x0.1 x1.2).length c4) (setMR n_ rs x0.1 x1.2) := hp12 11 rfl rfl
          have H29 := H28.put (it := imm (.slice a4 (setMR n_ rs x0.1 x1.2).length c4) (setMR n_ rs x0.1 x1.2)) rfl rv11
          refine mv rfl s16 ?_
          exact ⟨_, rfl, Ext.refl _, ⟨a4, c4, rfl, rv11⟩⟩
        exact DSteps.rest rfl _
      · intro f14 w20 hf13 xt18 hp13
        have H30 := H7.ext xt18
        have s17 : f14 1 = .slice a_ps ps.length c_ps := (hf13 1 rfl).trans s0
        have s18 : f14 4 = .pointer (some ⟨bb0, 0, none⟩) := (hf13 4 rfl).trans s1
        have s19 : f14 6 = .pointer (some ⟨bb1, 0, none⟩) := (hf13 6 rfl).trans s2
        have s20 : f14 8 = .int .i64 (j : Int) := (hf13 8 rfl).trans s4
        obtain ⟨a5, c5, s21, rv12⟩ : ∃ (a5 : Option Addr) (c5 : Nat), f14 24 = .tuple #[.agg #[.int .i64 (setMN n_ x0.1 x1.2), .slice a5 (setMR n_ rs x0.1 x1.2).length c5], .int .i64 (setME n_ x0.1 x1.2)] ∧ RV (MS M [imm (.slice a1 rs.length c1) rs, box bb1 #[.int .i64 n_, .slice a1 rs.length c1] 33, imm (.slice a0 (newMR n).length c0) (newMR n), box bb0 #[.int .i64 0, .slice none 0 0] 33, imm (.slice a_ps ps.length c_ps) ps]) w20 (.slice a5 (setMR n_ rs x0.1 x1.2).length c5) (setMR n_ rs x0.1 x1.2) := hp13 12 rfl
        have H31 := H30.put (it := imm (.slice a5 (setMR n_ rs x0.1 x1.2).length c5) (setMR n_ rs x0.1 x1.2)) rfl rv12
        show TA _ _ _ _ 4 [true, true, true, true, true, true, true, true, true, true, true, true, true, false, false, false, false] _ _
        refine ta [13, 14] (by kernel_rfl) rfl ⟨⟨_, rfl, ?_⟩, ⟨_, rfl, ?_⟩, trivial⟩
        ·
          refine xt rfl s21 rfl ?_
          refine ta [14, 15] (by kernel_rfl) rfl ⟨⟨_, rfl, ?_⟩, ⟨_, rfl, ?_⟩, trivial⟩
          ·
            refine xt rfl s21 rfl ?_
            refine ta [15] (by kernel_rfl) rfl ⟨⟨_, rfl, ?_⟩, trivial⟩
            ·
              refine stX H31 2 rfl ty33 rfl rfl s19 rfl rfl rfl rfl ?_
              intro w21 (H32 : HI M w w21 [imm (.slice a5 (setMR n_ rs x0.1 x1.2).length c5) (setMR n_ rs x0.1 x1.2), imm (.slice a1 rs.length c1) rs, box bb1 #[.int .i64 (setMN n_ x0.1 x1.2), .slice a5 (setMR n_ rs x0.1 x1.2).length c5] 33, imm (.slice a0 (newMR n).length c0) (newMR n), box bb0 #[.int .i64 0, .slice none 0 0] 33, imm (.slice a_ps ps.length c_ps) ps])
              refine ta [16] (by kernel_rfl) rfl ⟨⟨_, rfl, ?_⟩, trivial⟩
              ·
                refine asg rfl rfl (ta0 (by kernel_rfl) (inb_normal (nx (rg (k (mv rfl s20 (k (add rfl rfl rfl rfl (by unfold I64 at *; omega) (k (asg rfl rfl (z ?_)))))))))))
                have H33 := H32.put (it := imm (.slice a5 (setMR n_ rs x0.1 x1.2).length c5) (setMR n_ rs x0.1 x1.2)) rfl (H32.rv 0 rfl)
                have H34 : HI M w w21 [imm (.slice a5 (setMR n_ rs x0.1 x1.2).length c5) (setMR n_ rs x0.1 x1.2), box bb1 #[.int .i64 (setMN n_ x0.1 x1.2), .slice a5 (setMR n_ rs x0.1 x1.2).length c5] 33, imm (.slice a0 (newMR n).length c0) (newMR n), box bb0 #[.int .i64 0, .slice none 0 0] 33, imm (.slice a_ps ps.length c_ps) ps] := H33.pickN [0, 3, 4, 5, 6] (by decide) rfl
                refine loopN _ ?_ ⟨(j + 1), (setMN n_ x0.1 x1.2), (setMR n_ rs x0.1 x1.2), (setME n_ x0.1 x1.2), a5, c5, rfl, s17, s18, s19, (ieq rfl (by first | rfl | omega | (push_cast; omega))), (ieq rfl (by first | rfl | omega | (push_cast; omega))), H34, (by first | assumption | omega | simp | (simp; omega)), (by have e_ := at_is hx1 hx0; subst e_; rw [h1]; exact (hst hx0).1), (by have e_ := at_is hx1 hx0; subst e_; rw [h1, h2]; exact (hst hx0).2.1), (by have e_ := at_is hx1 hx0; subst e_; rw [h1]; exact (hst hx0).2.2)⟩
                omega
          ·
            refine stX H31 2 rfl ty33 rfl rfl s19 rfl rfl rfl rfl ?_
            intro w22 (H35 : HI M w w22 [imm (.slice a5 (setMR n_ rs x0.1 x1.2).length c5) (setMR n_ rs x0.1 x1.2), imm (.slice a1 rs.length c1) rs, box bb1 #[.int .i64 (setMN n_ x0.1 x1.2), .slice a5 (setMR n_ rs x0.1 x1.2).length c5] 33, imm (.slice a0 (newMR n).length c0) (newMR n), box bb0 #[.int .i64 0, .slice none 0 0] 33, imm (.slice a_ps ps.length c_ps) ps])
            refine ta [14] (by kernel_rfl) rfl ⟨⟨_, rfl, ?_⟩, trivial⟩
            ·
              refine xt rfl s21 rfl ?_
              refine ta [16] (by kernel_rfl) rfl ⟨⟨_, rfl, ?_⟩, trivial⟩
              ·
                refine asg rfl rfl (ta0 (by kernel_rfl) (inb_normal (nx (rg (k (mv rfl s20 (k (add rfl rfl rfl rfl (by unfold I64 at *; omega) (k (asg rfl rfl (z ?_)))))))))))
                have H36 := H35.put (it := imm (.slice a5 (setMR n_ rs x0.1 x1.2).length c5) (setMR n_ rs x0.1 x1.2)) rfl (H35.rv 0 rfl)
                have H37 : HI M w w22 [imm (.slice a5 (setMR n_ rs x0.1 x1.2).length c5) (setMR n_ rs x0.1 x1.2), box bb1 #[.int .i64 (setMN n_ x0.1 x1.2), .slice a5 (setMR n_ rs x0.1 x1.2).length c5] 33, imm (.slice a0 (newMR n).length c0) (newMR n), box bb0 #[.int .i64 0, .slice none 0 0] 33, imm (.slice a_ps ps.length c_ps) ps] := H36.pickN [0, 3, 4, 5, 6] (by decide) rfl
                refine loopN _ ?_ ⟨(j + 1), (setMN n_ x0.1 x1.2), (setMR n_ rs x0.1 x1.2), (setME n_ x0.1 x1.2), a5, c5, rfl, s17, s18, s19, (ieq rfl (by first | rfl | omega | (push_cast; omega))), (ieq rfl (by first | rfl | omega | (push_cast; omega))), H37, (by first | assumption | omega | simp | (simp; omega)), (by have e_ := at_is hx1 hx0; subst e_; rw [h1]; exact (hst hx0).1), (by have e_ := at_is hx1 hx0; subst e_; rw [h1, h2]; exact (hst hx0).2.1), (by have e_ := at_is hx1 hx0; subst e_; rw [h1]; exact (hst hx0).2.2)⟩
                omega
        ·
          refine xt rfl s21 rfl ?_
          refine ta [13] (by kernel_rfl) rfl ⟨⟨_, rfl, ?_⟩, trivial⟩
          ·
            refine xt rfl s21 rfl ?_
            refine ta [15] (by kernel_rfl) rfl ⟨⟨_, rfl, ?_⟩, trivial⟩
            ·
              refine stX H31 2 rfl ty33 rfl rfl s19 rfl rfl rfl rfl ?_
              intro w23 (H38 : HI M w w23 [imm (.slice a5 (setMR n_ rs x0.1 x1.2).length c5) (setMR n_ rs x0.1 x1.2), imm (.slice a1 rs.length c1) rs, box bb1 #[.int .i64 (setMN n_ x0.1 x1.2), .slice a5 (setMR n_ rs x0.1 x1.2).length c5] 33, imm (.slice a0 (newMR n).length c0) (newMR n), box bb0 #[.int .i64 0, .slice none 0 0] 33, imm (.slice a_ps ps.length c_ps) ps])
              refine ta [16] (by kernel_rfl) rfl ⟨⟨_, rfl, ?_⟩, trivial⟩
              ·
                refine asg rfl rfl (ta0 (by kernel_rfl) (inb_normal (nx (rg (k (mv rfl s20 (k (add rfl rfl rfl rfl (by unfold I64 at *; omega) (k (asg rfl rfl (z ?_)))))))))))
                have H39 := H38.put (it := imm (.slice a5 (setMR n_ rs x0.1 x1.2).length c5) (setMR n_ rs x0.1 x1.2)) rfl (H38.rv 0 rfl)
                have H40 : HI M w w23 [imm (.slice a5 (setMR n_ rs x0.1 x1.2).length c5) (setMR n_ rs x0.1 x1.2), box bb1 #[.int .i64 (setMN n_ x0.1 x1.2), .slice a5 (setMR n_ rs x0.1 x1.2).length c5] 33, imm (.slice a0 (newMR n).length c0) (newMR n), box bb0 #[.int .i64 0, .slice none 0 0] 33, imm (.slice a_ps ps.length c_ps) ps] := H39.pickN [0, 3, 4, 5, 6] (by decide) rfl
                refine loopN _ ?_ ⟨(j + 1), (setMN n_ x0.1 x1.2), (setMR n_ rs x0.1 x1.2), (setME n_ x0.1 x1.2), a5, c5, rfl, s17, s18, s19, (ieq rfl (by first | rfl | omega | (push_cast; omega))), (ieq rfl (by first | rfl | omega | (push_cast; omega))), H40, (by first | assumption | omega | simp | (simp; omega)), (by have e_ := at_is hx1 hx0; subst e_; rw [h1]; exact (hst hx0).1), (by have e_ := at_is hx1 hx0; subst e_; rw [h1, h2]; exact (hst hx0).2.1), (by have e_ := at_is hx1 hx0; subst e_; rw [h1]; exact (hst hx0).2.2)⟩
                omega
    ·
      have p1 := of_decide_eq_false b1
      refine ex (then_exit (loop_exit (inb_here (nx (sq (sq (rg (k (mv rfl s3 (k (neq rfl rfl rfl rfl (z (nx (cdT rfl rfl (by rw [show decide (e_ = 0) = false from b1]; rfl) (sq (rg (k (bd (v := .agg #[.int .i64 0, .slice none 0 0]) rfl pb0 (fun _ => by kernel_rfl) (k (mv rfl s3 (k (stX H7 3 rfl ty33 rfl rfl s1 rfl rfl rfl rfl ?_))))))))))))))))))))))
      intro w24 (H41 : HI M w w24 [imm (.slice a1 rs.length c1) rs, box bb1 #[.int .i64 n_, .slice a1 rs.length c1] 33, imm (.slice a0 (newMR n).length c0) (newMR n), box bb0 #[.int .i64 0, .slice none 0 0] 33, imm (.slice a_ps ps.length c_ps) ps])
      refine k (asg rfl rfl (z (nx (rt (then_ret (rc2 H41 3 rfl ty33 rfl rfl rfl s1 rfl (by decide) ?_))))))
      have e0 : (0 : Int) = ofMN n ps := by first | (exfalso; omega) | exact (of_no (ofOk_less j (ofME_not (n := n) (by rw [← h3]; omega)))).1.symm | (rw [h1, take_end (by omega)])
      have e1 : ([] : List (List (BitVec 64))) = ofMR n ps := by first | (exfalso; omega) | exact (of_no (ofOk_less j (ofME_not (n := n) (by rw [← h3]; omega)))).2.1.symm | (rw [h2, take_end (by omega)])
      have e2 : (e_ : Int) = ofME n ps := by first | (exfalso; omega) | (rw [(of_no (ofOk_less j (ofME_not (n := n) (by rw [← h3]; omega)))).2.2, h3, (of_no (ofME_not (n := n) (ps := ps.take j) (by rw [← h3]; omega))).2.2]) | exact (of_yes (by have h := ofME_zero (n := n) (ps := ps.take j) (by rw [← h3]; omega); rwa [take_end (by omega)] at h)).2.2.symm
      have ev_ := cg3 (fun (x_0 : Int) (x_1 : List (List (BitVec 64))) (x_2 : Int) => (.tuple #[.agg #[.int .i64 x_0, .slice none x_1.length 0], .int .i64 x_2] : Value)) e0 e1 e2
      exact ⟨none, 0, ev_, H41.below, (congrArg (fun (x_ : List (List (BitVec 64))) => RV _ _ (.slice none x_.length 0) x_) e1).mp (rv_nil _ _)⟩
  · -- decide ((j : Int) < (ps.length : Int)) is False
    have p0 := of_decide_eq_false b0
    refine k (gn rfl rfl rfl b0 (k (gn rfl rfl rfl b0 (k (pickF rfl rfl rfl rfl b0 rfl (z (nx (cdF rfl rfl rfl (ex (then_exit (loop_exit (inb_here (nx (sq (sq (rg (k (mv rfl s3 (k (neq rfl rfl rfl rfl (z (nx ?_))))))))))))))))))))))
    refine cd (b := !decide (e_ = 0)) rfl rfl (fun b2 => ?_) (fun b2 => ?_)
    ·
      have p2 := of_decide_eq_false (nott b2)
      refine sq (rg (k (bd (v := .agg #[.int .i64 0, .slice none 0 0]) rfl pb0 (fun _ => by kernel_rfl) (k (mv rfl s3 (k (stX H7 3 rfl ty33 rfl rfl s1 rfl rfl rfl rfl ?_)))))))
      intro w25 (H42 : HI M w w25 [imm (.slice a1 rs.length c1) rs, box bb1 #[.int .i64 n_, .slice a1 rs.length c1] 33, imm (.slice a0 (newMR n).length c0) (newMR n), box bb0 #[.int .i64 0, .slice none 0 0] 33, imm (.slice a_ps ps.length c_ps) ps])
      refine k (asg rfl rfl (z (nx (rt (then_ret (rc2 H42 3 rfl ty33 rfl rfl rfl s1 rfl (by decide) ?_))))))
      have e0 : (0 : Int) = ofMN n ps := by first | (exfalso; omega) | exact (of_no (ofOk_less j (ofME_not (n := n) (by rw [← h3]; omega)))).1.symm | (rw [h1, take_end (by omega)])
      have e1 : ([] : List (List (BitVec 64))) = ofMR n ps := by first | (exfalso; omega) | exact (of_no (ofOk_less j (ofME_not (n := n) (by rw [← h3]; omega)))).2.1.symm | (rw [h2, take_end (by omega)])
      have e2 : (e_ : Int) = ofME n ps := by first | (exfalso; omega) | (rw [(of_no (ofOk_less j (ofME_not (n := n) (by rw [← h3]; omega)))).2.2, h3, (of_no (ofME_not (n := n) (ps := ps.take j) (by rw [← h3]; omega))).2.2]) | exact (of_yes (by have h := ofME_zero (n := n) (ps := ps.take j) (by rw [← h3]; omega); rwa [take_end (by omega)] at h)).2.2.symm
      have ev_ := cg3 (fun (x_0 : Int) (x_1 : List (List (BitVec 64))) (x_2 : Int) => (.tuple #[.agg #[.int .i64 x_0, .slice none x_1.length 0], .int .i64 x_2] : Value)) e0 e1 e2
      exact ⟨none, 0, ev_, H42.below, (congrArg (fun (x_ : List (List (BitVec 64))) => RV _ _ (.slice none x_.length 0) x_) e1).mp (rv_nil _ _)⟩
    ·
      have p2 := of_decide_eq_true (notf b2)
      refine sk (nx (sq (rg (k (ldX H7 1 rfl ty33 rfl s2 (by decide) rfl (k (stX H7 3 rfl ty33 rfl rfl s1 rfl rfl rfl rfl ?_)))))))
      intro w26 (H43 : HI M w w26 [imm (.slice a1 rs.length c1) rs, box bb1 #[.int .i64 n_, .slice a1 rs.length c1] 33, imm (.slice a0 (newMR n).length c0) (newMR n), box bb0 #[.int .i64 n_, .slice a1 rs.length c1] 33, imm (.slice a_ps ps.length c_ps) ps])
      refine k (asg rfl rfl (z (nx (rt (rc2 H43 3 rfl ty33 rfl rfl rfl s1 rfl (by decide) ?_)))))
      have e0 : (n_ : Int) = ofMN n ps := by first | (exfalso; omega) | exact (of_no (ofOk_less j (ofME_not (n := n) (by rw [← h3]; omega)))).1.symm | (rw [h1, take_end (by omega)])
      have e1 : (rs : List (List (BitVec 64))) = ofMR n ps := by first | (exfalso; omega) | exact (of_no (ofOk_less j (ofME_not (n := n) (by rw [← h3]; omega)))).2.1.symm | (rw [h2, take_end (by omega)])
      have e2 : (0 : Int) = ofME n ps := by first | (exfalso; omega) | (rw [(of_no (ofOk_less j (ofME_not (n := n) (by rw [← h3]; omega)))).2.2, h3, (of_no (ofME_not (n := n) (ps := ps.take j) (by rw [← h3]; omega))).2.2]) | exact (of_yes (by have h := ofME_zero (n := n) (ps := ps.take j) (by rw [← h3]; omega); rwa [take_end (by omega)] at h)).2.2.symm
      have ev_ := cg3 (fun (x_0 : Int) (x_1 : List (List (BitVec 64))) (x_2 : Int) => (.tuple #[.agg #[.int .i64 x_0, .slice a1 x_1.length c1], .int .i64 x_2] : Value)) e0 e1 e2
      exact ⟨a1, c1, ev_, H43.below, (congrArg (fun (x_ : List (List (BitVec 64))) => RV _ _ (.slice a1 x_.length c1) x_) e1).mp (H43.gives_out 0 rfl)⟩
end Go.Proofs.Ytfakagpjgpbkbaa
