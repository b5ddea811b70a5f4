/- PRINTED by my own tool (wip/tool/gen.py): contracts of Go functions of this seat, each with its proof. -/
import Derived.Test.YtfakagpjgpbkbaaDoorProg
import Derived.Test.YtfakagpjgpbkbaaDoorEwSpecJ
import Derived.Test.YtfakagpjgpbkbaaDoorR02dFns
namespace Go.Proofs.YtfakagpjgpbkbaaDoor
open Go.Ew Go.RowKit
set_option linter.unusedVariables false
set_option linter.unusedSimpArgs false
attribute [local irreducible] WL WC SO Code.wp wpList retQ Ret
attribute [local irreducible] bitB hasW inR hasR setR countW countR subR words newR listR orR firstW tab8

/- eyewitness/eyewitnessref02.Or -/
set_option maxRecDepth 100000 in
set_option maxHeartbeats 200000 in
theorem ref02_Or {M : Nat → Prop} {w : World} {a_a : Option Addr} {c_a : Nat} {a : List (BitVec 64)} {a_b : Option Addr} {c_b : Nat} {b : List (BitVec 64)} (hM : ∀ b, M b → b < w.heap.size) (h_a : RV M w (.slice a_a a.length c_a) a) (h_b : RV M w (.slice a_b b.length c_b) b) (hl_a : a.length ≤ 1000000000) (hl_b : b.length ≤ 1000000000) : Calls Tryd.prog 26 #[.slice a_a a.length c_a, .slice a_b b.length c_b] w (Ret fun v w' => ∃ (a0 : Option Addr) (c0 : Nat), v = .slice a0 (orR a b).length c0 ∧ Ext w w' ∧ OwnsG M 66 w (orR a b) (.slice a0 (orR a b).length c0) w') := by
  refine enter 47 Tryd.func26 rfl rfl rfl fun f0 ha => ?_
  have H := HI.start (M0 := M) (w := w) hM
  have H0 := H.put (it := imm (.slice a_a a.length c_a) a) rfl (by rw [MS_nil]; exact h_a)
  have H1 := H0.put (it := imm (.slice a_b b.length c_b) b) rfl (by rw [MS_cons_none rfl, MS_nil]; exact h_b)
  have ln_a := rv_len h_a
  have ln_b := rv_len h_b
  have i0 : f0 0 = .slice a_a a.length c_a := ha 0 (by simp)
  have i1 : f0 1 = .slice a_b b.length c_b := ha 1 (by simp)
  refine sq (rg (k (asg rfl rfl (z (nx (sq (rg (k (mv rfl i0 (k (lnS rfl rfl un22 (k (mv rfl i1 (k (lnS rfl rfl un22 (k (max2 rfl rfl rfl rfl (k ?_))))))))))))))))))
  have n0 : (((max (a.length : Int) (b.length : Int)).toNat : Nat) : Int) = max (a.length : Int) (b.length : Int) := Int.toNat_of_nonneg (by omega)
  refine mk (m := (max (a.length : Int) (b.length : Int)).toNat) (zx := (0#64 : (BitVec 64))) H1 rfl rfl (by rw [n0]; exact rfl) (by rw [n0]; exact rfl) un22 ty66 (fun _ _ => rfl) (by first | omega | (simp; omega)) (by first | omega | (simp; omega)) ?_
  intro g0 w0 xt0 (H2 : HI M w w0 [own w.heap.size 66 (.slice (some ⟨g0, 0, none⟩) ((max (a.length : Int) (b.length : Int)).toNat) ((max (a.length : Int) (b.length : Int)).toNat)) (List.replicate ((max (a.length : Int) (b.length : Int)).toNat) (0#64 : (BitVec 64))), imm (.slice a_b b.length c_b) b, imm (.slice a_a a.length c_a) a])
  refine k (asg rfl rfl (z (nx (sq (sq (rg (k (asg rfl rfl (z (nx (bk ?_)))))))))))
  refine lp (fun m f w' => ∃ (j : Nat) (xs : List (BitVec 64)), m = (max (a.length : Int) (b.length : Int)).toNat - j ∧ f 0 = .slice a_a a.length c_a ∧ f 1 = .slice a_b b.length c_b ∧ f 5 = .slice (some ⟨g0, 0, none⟩) ((max (a.length : Int) (b.length : Int)).toNat) ((max (a.length : Int) (b.length : Int)).toNat) ∧ f 6 = .int .i64 (j : Int) ∧  HI M w w' [own w.heap.size 66 (.slice (some ⟨g0, 0, none⟩) ((max (a.length : Int) (b.length : Int)).toNat) ((max (a.length : Int) (b.length : Int)).toNat)) xs, imm (.slice a_b b.length c_b) b, imm (.slice a_a a.length c_a) a] ∧ (j ≤ (max (a.length : Int) (b.length : Int)).toNat) ∧ (xs.length = (max (a.length : Int) (b.length : Int)).toNat) ∧ (xs = orTo (max (a.length : Int) (b.length : Int)).toNat a b [] j)) _ ⟨0, (List.replicate ((max (a.length : Int) (b.length : Int)).toNat) (0#64 : (BitVec 64))), rfl, i0, i1, rfl, (ieq rfl (by first | rfl | omega | simp)), H2, (by first | assumption | omega | simp | (simp; omega)), (by simp), (by exact orTo_rep _ _ _)⟩ ?_
  rintro _ f0 w1 ⟨j, xs, rfl, s0, s1, s2, s3, H3, hk, hl, hs⟩
  refine sq (sq (rg (k (mv rfl s3 (k (mv rfl s2 (k (lnS rfl rfl un22 (k (lss rfl rfl rfl rfl (z (nx ?_))))))))))))
  refine cd (b := decide ((j : Int) < (((max (a.length : Int) (b.length : Int)).toNat) : Int))) rfl rfl (fun b0 => ?_) (fun b0 => ?_)
  ·
    have p0 := of_decide_eq_true b0
    refine sk (nx (sq (bk (sq (sq (rg (k (mv rfl s3 (k (mv rfl s0 (k (lnS rfl rfl un22 (k (lss rfl rfl rfl rfl (z (nx ?_))))))))))))))))
    refine cd (b := decide ((j : Int) < (a.length : Int))) rfl rfl (fun b1 => ?_) (fun b1 => ?_)
    ·
      have p1 := of_decide_eq_true b1
      refine rg (k (mv rfl s2 (k (mv rfl s3 (k (mv rfl s0 (k (mv rfl s3 (k (ia (H3.rv 2 rfl) rfl rfl rfl rfl (by first | omega | (simp; omega)) un22 ty66 ?_))))))))))
      intro ad0 x0 hx0 hA0
      refine k (ldU hA0.w ty66 rfl rfl (k (iaO (H3.at_ 0 rfl) rfl rfl rfl rfl (by first | omega | (simp; omega)) un22 ty66 ?_)))
      intro g1 x1 hv0 hx1 hA1
      refine k (stO H3 0 rfl hv0 rfl (by first | omega | (simp; omega)) ty66 rfl rfl rfl rfl (RV.bv.2 rfl) ?_)
      intro w2 (H4 : HI M w w2 [own w.heap.size 66 (.slice (some ⟨g0, 0, none⟩) ((max (a.length : Int) (b.length : Int)).toNat) ((max (a.length : Int) (b.length : Int)).toNat)) (xs.set ((j : Int).toNat) x0), imm (.slice a_b b.length c_b) b, imm (.slice a_a a.length c_a) a])
      refine z (nx (sq (rg (k (mv rfl s3 (k (mv rfl s1 (k (lnS rfl rfl un22 (k (lss rfl rfl rfl rfl (z (nx ?_)))))))))))))
      refine cd (b := decide ((j : Int) < (b.length : Int))) rfl rfl (fun b2 => ?_) (fun b2 => ?_)
      ·
        have p2 := of_decide_eq_true b2
        obtain ⟨x2, hx2⟩ : ∃ x, (xs.set ((j : Int).toNat) x0)[(j : Int).toNat]? = some x := ⟨_, List.getElem?_eq_getElem (by first | omega | (simp; omega))⟩
        obtain ⟨x3, hx3⟩ : ∃ x, b[(j : Int).toNat]? = some x := ⟨_, List.getElem?_eq_getElem (by first | omega | (simp; omega))⟩
        refine dr 11 [fun (v : Value) (w' : World) => v = .slice (some ⟨g0, 0, none⟩) ((max (a.length : Int) (b.length : Int)).toNat) ((max (a.length : Int) (b.length : Int)).toNat), fun (v : Value) (w' : World) => v = .int .i64 (j : Int), fun (v : Value) (w' : World) => v = .slice (some ⟨g0, 0, none⟩) ((max (a.length : Int) (b.length : Int)).toNat) ((max (a.length : Int) (b.length : Int)).toNat), fun (v : Value) (w' : World) => v = .int .i64 (j : Int), fun (v : Value) (w' : World) => ∃ (g2 : Nat), v = .pointer (some ⟨g2, (j : Int).toNat * 1, none⟩) ∧ (.slice (some ⟨g0, 0, none⟩) ((max (a.length : Int) (b.length : Int)).toNat) ((max (a.length : Int) (b.length : Int)).toNat) : Value).ownBlock = some g2 ∧ AtW (MS M [own w.heap.size 66 (.slice (some ⟨g0, 0, none⟩) ((max (a.length : Int) (b.length : Int)).toNat) ((max (a.length : Int) (b.length : Int)).toNat)) (xs.set ((j : Int).toNat) x0), imm (.slice a_b b.length c_b) b, imm (.slice a_a a.length c_a) a]) w' ⟨g2, (j : Int).toNat * 1, none⟩ x2, fun (v : Value) (w' : World) => v = U x2, fun (v : Value) (w' : World) => v = .slice a_b b.length c_b, fun (v : Value) (w' : World) => v = .int .i64 (j : Int), fun (v : Value) (w' : World) => ∃ (ad1 : Addr), v = .pointer (some ad1) ∧ At (MS M [own w.heap.size 66 (.slice (some ⟨g0, 0, none⟩) ((max (a.length : Int) (b.length : Int)).toNat) ((max (a.length : Int) (b.length : Int)).toNat)) (xs.set ((j : Int).toNat) x0), imm (.slice a_b b.length c_b) b, imm (.slice a_a a.length c_a) a]) w' ad1 x3, fun (v : Value) (w' : World) => v = U x3, fun (v : Value) (w' : World) => v = U (x2 ||| x3)] rfl (by kernel_rfl) ?_ ?_
        ·
          refine ⟨fun _ => ⟨fun f1 w3 hf0 xt1 hp0 => ?_, fun _ _ _ _ h => h⟩, ?_⟩
          ·
            have H5 := H4.ext xt1
            refine mv rfl ((hf0 5 rfl).trans s2) ?_
            exact ⟨_, rfl, Ext.refl _, rfl⟩
          refine ⟨fun _ => ⟨fun f2 w4 hf1 xt2 hp1 => ?_, fun _ _ _ _ h => h⟩, ?_⟩
          ·
            have H6 := H4.ext xt2
            refine mv rfl ((hf1 6 rfl).trans s3) ?_
            exact ⟨_, rfl, Ext.refl _, rfl⟩
          refine ⟨fun _ => ⟨fun f3 w5 hf2 xt3 hp2 => ?_, fun _ _ _ _ h => h⟩, ?_⟩
          ·
            have H7 := H4.ext xt3
            refine mv rfl ((hf2 5 rfl).trans s2) ?_
            exact ⟨_, rfl, Ext.refl _, rfl⟩
          refine ⟨fun _ => ⟨fun f4 w6 hf3 xt4 hp3 => ?_, fun _ _ _ _ h => h⟩, ?_⟩
          ·
            have H8 := H4.ext xt4
            refine mv rfl ((hf3 6 rfl).trans s3) ?_
            exact ⟨_, rfl, Ext.refl _, rfl⟩
          refine ⟨fun _ => ⟨fun f5 w7 hf4 xt5 hp4 => ?_, by rintro _ _ _ x_ ⟨g2, e_, hv1, hA2⟩; exact ⟨g2, e_, hv1, hA2.ext x_⟩⟩, ?_⟩
          ·
            have H9 := H4.ext xt5
            have s4 : f5 36 = .slice (some ⟨g0, 0, none⟩) ((max (a.length : Int) (b.length : Int)).toNat) ((max (a.length : Int) (b.length : Int)).toNat) := hp4 2 rfl rfl
            have s5 : f5 37 = .int .i64 (j : Int) := hp4 3 rfl rfl
            refine iaO (H9.at_ 0 rfl) rfl rfl s4 s5 (by first | omega | (simp; omega)) un22 ty66 ?_
            intro g3 x4 hv2 hx4 hA4
            obtain rfl : x2 = x4 := Option.some.inj (hx2.symm.trans hx4)
            exact ⟨_, rfl, Ext.refl _, ⟨g3, rfl, hv2, hA4⟩⟩
          refine ⟨fun _ => ⟨fun f6 w8 hf5 xt6 hp5 => ?_, fun _ _ _ _ h => h⟩, ?_⟩
          ·
            have H10 := H4.ext xt6
            obtain ⟨g4, s6, hv3, hA5⟩ : ∃ (g4 : Nat), f6 38 = .pointer (some ⟨g4, (j : Int).toNat * 1, none⟩) ∧ (.slice (some ⟨g0, 0, none⟩) ((max (a.length : Int) (b.length : Int)).toNat) ((max (a.length : Int) (b.length : Int)).toNat) : Value).ownBlock = some g4 ∧ AtW (MS M [own w.heap.size 66 (.slice (some ⟨g0, 0, none⟩) ((max (a.length : Int) (b.length : Int)).toNat) ((max (a.length : Int) (b.length : Int)).toNat)) (xs.set ((j : Int).toNat) x0), imm (.slice a_b b.length c_b) b, imm (.slice a_a a.length c_a) a]) w8 ⟨g4, (j : Int).toNat * 1, none⟩ x2 := hp5 4 rfl rfl
            refine ldU hA5 ty66 rfl s6 ?_
            exact ⟨_, rfl, Ext.refl _, rfl⟩
          refine ⟨fun _ => ⟨fun f7 w9 hf6 xt7 hp6 => ?_, fun _ _ _ _ h => h⟩, ?_⟩
          ·
            have H11 := H4.ext xt7
            refine mv rfl ((hf6 1 rfl).trans s1) ?_
            exact ⟨_, rfl, Ext.refl _, rfl⟩
          refine ⟨fun _ => ⟨fun f8 w10 hf7 xt8 hp7 => ?_, fun _ _ _ _ h => h⟩, ?_⟩
          ·
            have H12 := H4.ext xt8
            refine mv rfl ((hf7 6 rfl).trans s3) ?_
            exact ⟨_, rfl, Ext.refl _, rfl⟩
          refine ⟨fun _ => ⟨fun f9 w11 hf8 xt9 hp8 => ?_, by rintro _ _ _ x_ ⟨ad1, e_, hA3⟩; exact ⟨ad1, e_, hA3.lift (Up.ext x_)⟩⟩, ?_⟩
          ·
            have H13 := H4.ext xt9
            have s7 : f9 40 = .slice a_b b.length c_b := hp8 6 rfl rfl
            have s8 : f9 41 = .int .i64 (j : Int) := hp8 7 rfl rfl
            refine ia (H13.rv 1 rfl) rfl rfl s7 s8 (by first | omega | (simp; omega)) un22 ty66 ?_
            intro ad2 x5 hx5 hA6
            obtain rfl : x3 = x5 := Option.some.inj (hx3.symm.trans hx5)
            exact ⟨_, rfl, Ext.refl _, ⟨ad2, rfl, hA6⟩⟩
          refine ⟨fun _ => ⟨fun f10 w12 hf9 xt10 hp9 => ?_, fun _ _ _ _ h => h⟩, ?_⟩
          ·
            have H14 := H4.ext xt10
            obtain ⟨ad3, s9, hA7⟩ : ∃ (ad3 : Addr), f10 42 = .pointer (some ad3) ∧ At (MS M [own w.heap.size 66 (.slice (some ⟨g0, 0, none⟩) ((max (a.length : Int) (b.length : Int)).toNat) ((max (a.length : Int) (b.length : Int)).toNat)) (xs.set ((j : Int).toNat) x0), imm (.slice a_b b.length c_b) b, imm (.slice a_a a.length c_a) a]) w12 ad3 x3 := hp9 8 rfl rfl
            have H15 := H14.put (it := atI ad3 x3) rfl hA7
            refine ldU (H15.atv 0 rfl).w ty66 rfl s9 ?_
            exact ⟨_, rfl, Ext.refl _, rfl⟩
          refine ⟨fun _ => ⟨fun f11 w13 hf10 xt11 hp10 => ?_, fun _ _ _ _ h => h⟩, ?_⟩
          ·
            have H16 := H4.ext xt11
            have s10 : f11 39 = U x2 := hp10 5 rfl rfl
            have s11 : f11 43 = U x3 := hp10 9 rfl rfl
            refine orU x2 x3 rfl rfl s10 s11 ?_
            exact ⟨_, rfl, Ext.refl _, rfl⟩
          exact DSteps.rest rfl _
        · intro f12 w14 hf11 xt12 hp11
          have H17 := H4.ext xt12
          have s12 : f12 0 = .slice a_a a.length c_a := (hf11 0 rfl).trans s0
          have s13 : f12 1 = .slice a_b b.length c_b := (hf11 1 rfl).trans s1
          have s14 : f12 5 = .slice (some ⟨g0, 0, none⟩) ((max (a.length : Int) (b.length : Int)).toNat) ((max (a.length : Int) (b.length : Int)).toNat) := (hf11 5 rfl).trans s2
          have s15 : f12 6 = .int .i64 (j : Int) := (hf11 6 rfl).trans s3
          have s16 : f12 34 = .slice (some ⟨g0, 0, none⟩) ((max (a.length : Int) (b.length : Int)).toNat) ((max (a.length : Int) (b.length : Int)).toNat) := hp11 0 rfl
          have s17 : f12 35 = .int .i64 (j : Int) := hp11 1 rfl
          have s18 : f12 44 = U (x2 ||| x3) := hp11 10 rfl
          refine k (iaO (H17.at_ 0 rfl) rfl rfl s16 s17 (by first | omega | (simp; omega)) un22 ty66 ?_)
          intro g5 x6 hv4 hx6 hA8
          refine k (stO H17 0 rfl hv4 rfl (by first | omega | (simp; omega)) ty66 rfl rfl rfl s18 (RV.bv.2 rfl) ?_)
          intro w15 (H18 : HI M w w15 [own w.heap.size 66 (.slice (some ⟨g0, 0, none⟩) ((max (a.length : Int) (b.length : Int)).toNat) ((max (a.length : Int) (b.length : Int)).toNat)) ((xs.set ((j : Int).toNat) x0).set ((j : Int).toNat) (x2 ||| x3)), imm (.slice a_b b.length c_b) b, imm (.slice a_a a.length c_a) a])
          refine z (inb_normal (nx (rg (k (mv rfl s15 (k (add rfl rfl rfl rfl (by unfold I64 at *; omega) (k (asg rfl rfl (z ?_))))))))))
          refine loopN _ ?_ ⟨(j + 1), ((xs.set ((j : Int).toNat) x0).set ((j : Int).toNat) (x2 ||| x3)), rfl, s12, s13, s14, (ieq rfl (by first | rfl | omega | (push_cast; omega))), H18, (by first | assumption | omega | simp | (simp; omega)), (by simpa using hl), (by first | exact or_both hs hx0 hx2 hx3 | exact or_left hs hx0 (by omega) | exact or_right hs (by omega) hx0 hx1 | exact or_none hs (by omega) (by omega))⟩
          omega
      ·
        have p2 := of_decide_eq_false b2
        refine sk (inb_normal (nx (rg (k (mv rfl s3 (k (add rfl rfl rfl rfl (by unfold I64 at *; omega) (k (asg rfl rfl (z ?_))))))))))
        refine loopN _ ?_ ⟨(j + 1), (xs.set ((j : Int).toNat) x0), rfl, s0, s1, s2, (ieq rfl (by first | rfl | omega | (push_cast; omega))), H4, (by first | assumption | omega | simp | (simp; omega)), (by simpa using hl), (by first | exact or_both hs hx0 hx2 hx3 | exact or_left hs hx0 (by omega) | exact or_right hs (by omega) hx0 hx1 | exact or_none hs (by omega) (by omega))⟩
        omega
    ·
      have p1 := of_decide_eq_false b1
      refine sk (nx (sq (rg (k (mv rfl s3 (k (mv rfl s1 (k (lnS rfl rfl un22 (k (lss rfl rfl rfl rfl (z (nx ?_)))))))))))))
      refine cd (b := decide ((j : Int) < (b.length : Int))) rfl rfl (fun b2 => ?_) (fun b2 => ?_)
      ·
        have p2 := of_decide_eq_true b2
        obtain ⟨x0, hx0⟩ : ∃ x, xs[(j : Int).toNat]? = some x := ⟨_, List.getElem?_eq_getElem (by first | omega | (simp; omega))⟩
        obtain ⟨x1, hx1⟩ : ∃ x, b[(j : Int).toNat]? = some x := ⟨_, List.getElem?_eq_getElem (by first | omega | (simp; omega))⟩
        refine dr 11 [fun (v : Value) (w' : World) => v = .slice (some ⟨g0, 0, none⟩) ((max (a.length : Int) (b.length : Int)).toNat) ((max (a.length : Int) (b.length : Int)).toNat), fun (v : Value) (w' : World) => v = .int .i64 (j : Int), fun (v : Value) (w' : World) => v = .slice (some ⟨g0, 0, none⟩) ((max (a.length : Int) (b.length : Int)).toNat) ((max (a.length : Int) (b.length : Int)).toNat), fun (v : Value) (w' : World) => v = .int .i64 (j : Int), fun (v : Value) (w' : World) => ∃ (g1 : Nat), v = .pointer (some ⟨g1, (j : Int).toNat * 1, none⟩) ∧ (.slice (some ⟨g0, 0, none⟩) ((max (a.length : Int) (b.length : Int)).toNat) ((max (a.length : Int) (b.length : Int)).toNat) : Value).ownBlock = some g1 ∧ AtW (MS M [own w.heap.size 66 (.slice (some ⟨g0, 0, none⟩) ((max (a.length : Int) (b.length : Int)).toNat) ((max (a.length : Int) (b.length : Int)).toNat)) xs, imm (.slice a_b b.length c_b) b, imm (.slice a_a a.length c_a) a]) w' ⟨g1, (j : Int).toNat * 1, none⟩ x0, fun (v : Value) (w' : World) => v = U x0, fun (v : Value) (w' : World) => v = .slice a_b b.length c_b, fun (v : Value) (w' : World) => v = .int .i64 (j : Int), fun (v : Value) (w' : World) => ∃ (ad0 : Addr), v = .pointer (some ad0) ∧ At (MS M [own w.heap.size 66 (.slice (some ⟨g0, 0, none⟩) ((max (a.length : Int) (b.length : Int)).toNat) ((max (a.length : Int) (b.length : Int)).toNat)) xs, imm (.slice a_b b.length c_b) b, imm (.slice a_a a.length c_a) a]) w' ad0 x1, fun (v : Value) (w' : World) => v = U x1, fun (v : Value) (w' : World) => v = U (x0 ||| x1)] rfl (by kernel_rfl) ?_ ?_
        ·
          refine ⟨fun _ => ⟨fun f1 w2 hf0 xt1 hp0 => ?_, fun _ _ _ _ h => h⟩, ?_⟩
          ·
            have H4 := H3.ext xt1
            refine mv rfl ((hf0 5 rfl).trans s2) ?_
            exact ⟨_, rfl, Ext.refl _, rfl⟩
          refine ⟨fun _ => ⟨fun f2 w3 hf1 xt2 hp1 => ?_, fun _ _ _ _ h => h⟩, ?_⟩
          ·
            have H5 := H3.ext xt2
            refine mv rfl ((hf1 6 rfl).trans s3) ?_
            exact ⟨_, rfl, Ext.refl _, rfl⟩
          refine ⟨fun _ => ⟨fun f3 w4 hf2 xt3 hp2 => ?_, fun _ _ _ _ h => h⟩, ?_⟩
          ·
            have H6 := H3.ext xt3
            refine mv rfl ((hf2 5 rfl).trans s2) ?_
            exact ⟨_, rfl, Ext.refl _, rfl⟩
          refine ⟨fun _ => ⟨fun f4 w5 hf3 xt4 hp3 => ?_, fun _ _ _ _ h => h⟩, ?_⟩
          ·
            have H7 := H3.ext xt4
            refine mv rfl ((hf3 6 rfl).trans s3) ?_
            exact ⟨_, rfl, Ext.refl _, rfl⟩
          refine ⟨fun _ => ⟨fun f5 w6 hf4 xt5 hp4 => ?_, by rintro _ _ _ x_ ⟨g1, e_, hv0, hA0⟩; exact ⟨g1, e_, hv0, hA0.ext x_⟩⟩, ?_⟩
          ·
            have H8 := H3.ext xt5
            have s4 : f5 36 = .slice (some ⟨g0, 0, none⟩) ((max (a.length : Int) (b.length : Int)).toNat) ((max (a.length : Int) (b.length : Int)).toNat) := hp4 2 rfl rfl
            have s5 : f5 37 = .int .i64 (j : Int) := hp4 3 rfl rfl
            refine iaO (H8.at_ 0 rfl) rfl rfl s4 s5 (by first | omega | (simp; omega)) un22 ty66 ?_
            intro g2 x2 hv1 hx2 hA2
            obtain rfl : x0 = x2 := Option.some.inj (hx0.symm.trans hx2)
            exact ⟨_, rfl, Ext.refl _, ⟨g2, rfl, hv1, hA2⟩⟩
          refine ⟨fun _ => ⟨fun f6 w7 hf5 xt6 hp5 => ?_, fun _ _ _ _ h => h⟩, ?_⟩
          ·
            have H9 := H3.ext xt6
            obtain ⟨g3, s6, hv2, hA3⟩ : ∃ (g3 : Nat), f6 38 = .pointer (some ⟨g3, (j : Int).toNat * 1, none⟩) ∧ (.slice (some ⟨g0, 0, none⟩) ((max (a.length : Int) (b.length : Int)).toNat) ((max (a.length : Int) (b.length : Int)).toNat) : Value).ownBlock = some g3 ∧ AtW (MS M [own w.heap.size 66 (.slice (some ⟨g0, 0, none⟩) ((max (a.length : Int) (b.length : Int)).toNat) ((max (a.length : Int) (b.length : Int)).toNat)) xs, imm (.slice a_b b.length c_b) b, imm (.slice a_a a.length c_a) a]) w7 ⟨g3, (j : Int).toNat * 1, none⟩ x0 := hp5 4 rfl rfl
            refine ldU hA3 ty66 rfl s6 ?_
            exact ⟨_, rfl, Ext.refl _, rfl⟩
          refine ⟨fun _ => ⟨fun f7 w8 hf6 xt7 hp6 => ?_, fun _ _ _ _ h => h⟩, ?_⟩
          ·
            have H10 := H3.ext xt7
            refine mv rfl ((hf6 1 rfl).trans s1) ?_
            exact ⟨_, rfl, Ext.refl _, rfl⟩
          refine ⟨fun _ => ⟨fun f8 w9 hf7 xt8 hp7 => ?_, fun _ _ _ _ h => h⟩, ?_⟩
          ·
            have H11 := H3.ext xt8
            refine mv rfl ((hf7 6 rfl).trans s3) ?_
            exact ⟨_, rfl, Ext.refl _, rfl⟩
          refine ⟨fun _ => ⟨fun f9 w10 hf8 xt9 hp8 => ?_, by rintro _ _ _ x_ ⟨ad0, e_, hA1⟩; exact ⟨ad0, e_, hA1.lift (Up.ext x_)⟩⟩, ?_⟩
          ·
            have H12 := H3.ext xt9
            have s7 : f9 40 = .slice a_b b.length c_b := hp8 6 rfl rfl
            have s8 : f9 41 = .int .i64 (j : Int) := hp8 7 rfl rfl
            refine ia (H12.rv 1 rfl) rfl rfl s7 s8 (by first | omega | (simp; omega)) un22 ty66 ?_
            intro ad1 x3 hx3 hA4
            obtain rfl : x1 = x3 := Option.some.inj (hx1.symm.trans hx3)
            exact ⟨_, rfl, Ext.refl _, ⟨ad1, rfl, hA4⟩⟩
          refine ⟨fun _ => ⟨fun f10 w11 hf9 xt10 hp9 => ?_, fun _ _ _ _ h => h⟩, ?_⟩
          ·
            have H13 := H3.ext xt10
            obtain ⟨ad2, s9, hA5⟩ : ∃ (ad2 : Addr), f10 42 = .pointer (some ad2) ∧ At (MS M [own w.heap.size 66 (.slice (some ⟨g0, 0, none⟩) ((max (a.length : Int) (b.length : Int)).toNat) ((max (a.length : Int) (b.length : Int)).toNat)) xs, imm (.slice a_b b.length c_b) b, imm (.slice a_a a.length c_a) a]) w11 ad2 x1 := hp9 8 rfl rfl
            have H14 := H13.put (it := atI ad2 x1) rfl hA5
            refine ldU (H14.atv 0 rfl).w ty66 rfl s9 ?_
            exact ⟨_, rfl, Ext.refl _, rfl⟩
          refine ⟨fun _ => ⟨fun f11 w12 hf10 xt11 hp10 => ?_, fun _ _ _ _ h => h⟩, ?_⟩
          ·
            have H15 := H3.ext xt11
            have s10 : f11 39 = U x0 := hp10 5 rfl rfl
            have s11 : f11 43 = U x1 := hp10 9 rfl rfl
            refine orU x0 x1 rfl rfl s10 s11 ?_
            exact ⟨_, rfl, Ext.refl _, rfl⟩
          exact DSteps.rest rfl _
        · intro f12 w13 hf11 xt12 hp11
          have H16 := H3.ext xt12
          have s12 : f12 0 = .slice a_a a.length c_a := (hf11 0 rfl).trans s0
          have s13 : f12 1 = .slice a_b b.length c_b := (hf11 1 rfl).trans s1
          have s14 : f12 5 = .slice (some ⟨g0, 0, none⟩) ((max (a.length : Int) (b.length : Int)).toNat) ((max (a.length : Int) (b.length : Int)).toNat) := (hf11 5 rfl).trans s2
          have s15 : f12 6 = .int .i64 (j : Int) := (hf11 6 rfl).trans s3
          have s16 : f12 34 = .slice (some ⟨g0, 0, none⟩) ((max (a.length : Int) (b.length : Int)).toNat) ((max (a.length : Int) (b.length : Int)).toNat) := hp11 0 rfl
          have s17 : f12 35 = .int .i64 (j : Int) := hp11 1 rfl
          have s18 : f12 44 = U (x0 ||| x1) := hp11 10 rfl
          refine k (iaO (H16.at_ 0 rfl) rfl rfl s16 s17 (by first | omega | (simp; omega)) un22 ty66 ?_)
          intro g4 x4 hv3 hx4 hA6
          refine k (stO H16 0 rfl hv3 rfl (by first | omega | (simp; omega)) ty66 rfl rfl rfl s18 (RV.bv.2 rfl) ?_)
          intro w14 (H17 : HI M w w14 [own w.heap.size 66 (.slice (some ⟨g0, 0, none⟩) ((max (a.length : Int) (b.length : Int)).toNat) ((max (a.length : Int) (b.length : Int)).toNat)) (xs.set ((j : Int).toNat) (x0 ||| x1)), imm (.slice a_b b.length c_b) b, imm (.slice a_a a.length c_a) a])
          refine z (inb_normal (nx (rg (k (mv rfl s15 (k (add rfl rfl rfl rfl (by unfold I64 at *; omega) (k (asg rfl rfl (z ?_))))))))))
          refine loopN _ ?_ ⟨(j + 1), (xs.set ((j : Int).toNat) (x0 ||| x1)), rfl, s12, s13, s14, (ieq rfl (by first | rfl | omega | (push_cast; omega))), H17, (by first | assumption | omega | simp | (simp; omega)), (by simpa using hl), (by first | exact or_both hs hx0 hx2 hx3 | exact or_left hs hx0 (by omega) | exact or_right hs (by omega) hx0 hx1 | exact or_none hs (by omega) (by omega))⟩
          omega
      ·
        have p2 := of_decide_eq_false b2
        refine sk (inb_normal (nx (rg (k (mv rfl s3 (k (add rfl rfl rfl rfl (by unfold I64 at *; omega) (k (asg rfl rfl (z ?_))))))))))
        refine loopN _ ?_ ⟨(j + 1), xs, rfl, s0, s1, s2, (ieq rfl (by first | rfl | omega | (push_cast; omega))), H3, (by first | assumption | omega | simp | (simp; omega)), (by simpa using hl), (by first | exact or_both hs hx0 hx2 hx3 | exact or_left hs hx0 (by omega) | exact or_right hs (by omega) hx0 hx1 | exact or_none hs (by omega) (by omega))⟩
        omega
  ·
    have p0 := of_decide_eq_false b0
    refine ex (then_exit (loop_exit (inb_here (nx (sq (rg (k (mv rfl s2 (k (asg rfl rfl (z (nx (rt (r1 rfl rfl ?_))))))))))))))
    have e0 : (xs : List (BitVec 64)) = orR a b := by rw [hs]; exact orTo_all (by omega) (fun i h1 h2 => by omega)
    have l0 : ((max (a.length : Int) (b.length : Int)).toNat) = (orR a b).length := by rw [← e0]; omega
    have ev_ := cg1 (fun (n_0 : Nat) => (.slice (some ⟨g0, 0, none⟩) n_0 ((max (a.length : Int) (b.length : Int)).toNat) : Value)) l0
    exact ⟨(some ⟨g0, 0, none⟩), ((max (a.length : Int) (b.length : Int)).toNat), ev_, H3.below, (congrArg (fun (n_ : Nat) => OwnsG _ _ _ (orR a b) (.slice (some ⟨g0, 0, none⟩) n_ ((max (a.length : Int) (b.length : Int)).toNat)) _) l0).mp ((congrArg (fun (x_ : List (BitVec 64)) => OwnsG _ _ _ x_ (.slice (some ⟨g0, 0, none⟩) ((max (a.length : Int) (b.length : Int)).toNat) ((max (a.length : Int) (b.length : Int)).toNat)) _) e0).mp (H3.ownsG_out 0 rfl))⟩
end Go.Proofs.YtfakagpjgpbkbaaDoor
