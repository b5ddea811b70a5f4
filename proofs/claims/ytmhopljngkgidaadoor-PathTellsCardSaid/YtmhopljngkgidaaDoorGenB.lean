/- PRINTED by my own tool (wip/tool/gen.py): contracts of Go functions of this seat, each with its proof. -/
import Derived.Test.YtmhopljngkgidaaDoorOwnA
import Derived.Test.YtmhopljngkgidaaDoorOwnB
import Derived.Test.YtmhopljngkgidaaDoorGenA
namespace Go.Proofs.YtmhopljngkgidaaDoor
open Go.Ew Go.RowKit
set_option linter.unusedVariables false
set_option linter.unusedSimpArgs false
attribute [local irreducible] WL WC SO Code.wp wpList retQ Ret
attribute [local irreducible] bitB hasW inR hasR setR countW countR subR words newR listR orR firstW tab8
set_option maxRecDepth 100000 in
set_option maxHeartbeats 1600000 in
theorem reverse_int {M : Nat → Prop} {w w_ : World} {r : List Go.Ew.Item} {a_xs : Option Addr} {c_xs : Nat} {xs : List Int} (H : HI M w w_ ([own w.heap.size 3 (.slice a_xs xs.length c_xs) xs] ++ r)) : Calls Tryd.prog 109 #[.slice a_xs xs.length c_xs] w_ (Ret fun v w' => v = .tuple #[] ∧ HI M w w' ([own w.heap.size 3 (.slice a_xs xs.length c_xs) xs.reverse] ++ r)) := by
  refine enter 28 Tryd.func109 rfl rfl rfl fun f0 ha => ?_
  have ln_xs := own_len_ (H.at_ 0 rfl)
  have i0 : f0 0 = .slice a_xs xs.length c_xs := ha 0 (by simp)
  refine sq (rg (k (mv rfl i0 (k (lnS rfl rfl un42 (k (sub rfl rfl rfl rfl (by first | assumption | (unfold I64 at *; omega)) (k (asg (v := .int .i64 0) rfl rfl (k (asg (v := .int .i64 ((xs.length : Int) - 1)) rfl rfl (z (nx (bk ?_))))))))))))))
  refine lp (fun m f w' => ∃ (q : Nat) (ys : List Int), m = xs.length - q ∧ f 0 = .slice a_xs xs.length c_xs ∧ f 2 = .int .i64 (q : Int) ∧ f 3 = .int .i64 ((xs.length : Int) - 1 - (q : Int)) ∧  HI M w w' ([own w.heap.size 3 (.slice a_xs xs.length c_xs) ys] ++ r) ∧ (q + q ≤ xs.length + 1) ∧ (ys.length = xs.length) ∧ (ys = revTo xs q)) _ ⟨0, xs, rfl, i0, (ieq rfl (by omega)), (ieq rfl (by omega)), H, (by first | assumption | omega | simp | (simp; omega)), (by rfl), (by exact revTo_zero xs)⟩ ?_
  rintro _ f0 w0 ⟨q, ys, rfl, s0, s1, s2, H0, hq_, hl_, hs⟩
  refine sq (sq (rg (k (mv rfl s1 (k (mv rfl s2 (k (lss rfl rfl rfl rfl (z (nx ?_))))))))))
  refine cd (b := decide ((q : Int) < ((xs.length : Int) - 1 - (q : Int)))) rfl rfl (fun b0 => ?_) (fun b0 => ?_)
  ·
    have p0 := of_decide_eq_true b0
    refine sk (nx (sq (bk ?_)))
    obtain ⟨x0, hx0⟩ : ∃ x, ys[((xs.length : Int) - 1 - (q : Int)).toNat]? = some x := ⟨_, List.getElem?_eq_getElem (by first | omega | (simp only [List.length_set]; omega))⟩
    obtain ⟨x1, hx1⟩ : ∃ x, ys[(q : Int).toNat]? = some x := ⟨_, List.getElem?_eq_getElem (by first | omega | (simp only [List.length_set]; omega))⟩
    obtain ⟨x3, hx3⟩ : ∃ x, (ys.set ((q : Int).toNat) x0)[((xs.length : Int) - 1 - (q : Int)).toNat]? = some x := ⟨_, List.getElem?_eq_getElem (by first | omega | (simp only [List.length_set]; omega))⟩
    have H3 : HI M w w0 ([own w.heap.size 3 (.slice a_xs xs.length c_xs) ys] ++ r) := H0
    have H4 : HI M w w0 ([own w.heap.size 3 (.slice a_xs xs.length c_xs) ys] ++ r) := HI.pickT (l := [own w.heap.size 3 (.slice a_xs xs.length c_xs) ys]) (l' := [own w.heap.size 3 (.slice a_xs xs.length c_xs) ys]) (t := r) H3 [0] (by decide) rfl rfl
    refine drgL [none, none, none, none, none, none, none, none, none, none, none, none, none, some 15, none, none, some 13, none] [0, 0, 0, 0, 0, 0, 48, 112, 0, 0, 768, 1792, 4083, 8179, 16383, 32767] [fun _ => [], fun _ => [], fun _ => [], fun _ => [], fun _ => [], fun _ => [], fun _ => [], fun _ => [], fun _ => [], fun _ => [], fun _ => [], fun _ => [], fun _ => [], fun v_ => [own w.heap.size 3 (.slice a_xs xs.length c_xs) (ys.set ((q : Int).toNat) x0)], fun _ => [], fun v_ => [own w.heap.size 3 (.slice a_xs xs.length c_xs) ((ys.set ((q : Int).toNat) x0).set (((xs.length : Int) - 1 - (q : Int)).toNat) x1)], fun _ => [own w.heap.size 3 (.slice a_xs xs.length c_xs) ys], fun _ => r] [[], [], [], [], [], [], [16], [16], [], [], [16], [16], [16], [16], [13], [13]] [fun v_ => v_ = .slice a_xs xs.length c_xs, fun v_ => v_ = .int .i64 (q : Int), fun v_ => v_ = .slice a_xs xs.length c_xs, fun v_ => v_ = .int .i64 ((xs.length : Int) - 1 - (q : Int)), fun v_ => v_ = .slice a_xs xs.length c_xs, fun v_ => v_ = .int .i64 ((xs.length : Int) - 1 - (q : Int)), fun v_ => ∃ (g0 : Nat), v_ = .pointer (some ⟨g0, ((xs.length : Int) - 1 - (q : Int)).toNat * 1, none⟩) ∧ (.slice a_xs xs.length c_xs : Value).ownBlock = some g0, fun v_ => v_ = .int .i64 x0 ∧ I64 (x0), fun v_ => v_ = .slice a_xs xs.length c_xs, fun v_ => v_ = .int .i64 (q : Int), fun v_ => ∃ (g1 : Nat), v_ = .pointer (some ⟨g1, (q : Int).toNat * 1, none⟩) ∧ (.slice a_xs xs.length c_xs : Value).ownBlock = some g1, fun v_ => v_ = .int .i64 x1 ∧ I64 (x1), fun v_ => ∃ (g2 : Nat), v_ = .pointer (some ⟨g2, (q : Int).toNat * 1, none⟩) ∧ (.slice a_xs xs.length c_xs : Value).ownBlock = some g2, fun _ => True, fun v_ => ∃ (g3 : Nat), v_ = .pointer (some ⟨g3, ((xs.length : Int) - 1 - (q : Int)).toNat * 1, none⟩) ∧ (.slice a_xs xs.length c_xs : Value).ownBlock = some g3, fun _ => True] [] rfl (by kernel_rfl) rfl (by show HI _ _ _ ([] ++ ([own w.heap.size 3 (.slice a_xs xs.length c_xs) ys] ++ (r ++ []))); rw [List.append_nil]; exact H4) ?_ ?_
    ·
      refine ⟨fun f1 w3 V_ rg_ hs0 hp0 hq0 H5 => ?_, ?_⟩
      ·
        have H6 : HI M w w3 ([] ++ rg_) := (by have h_ : HI M w w3 ([] ++ (rg_)) := H5; exact h_)
        refine mv rfl ((hs0 0 rfl).trans s0) ?_
        exact ⟨_, rfl, rfl, H6⟩
      refine ⟨fun f2 w4 V_ rg_ hs1 hp1 hq1 H8 => ?_, ?_⟩
      ·
        have H9 : HI M w w4 ([] ++ rg_) := (by have h_ : HI M w w4 ([] ++ (rg_)) := H8; exact h_)
        refine mv rfl ((hs1 2 rfl).trans s1) ?_
        exact ⟨_, rfl, rfl, H9⟩
      refine ⟨fun f3 w5 V_ rg_ hs2 hp2 hq2 H11 => ?_, ?_⟩
      ·
        have H12 : HI M w w5 ([] ++ rg_) := (by have h_ : HI M w w5 ([] ++ (rg_)) := H11; exact h_)
        refine mv rfl ((hs2 0 rfl).trans s0) ?_
        exact ⟨_, rfl, rfl, H12⟩
      refine ⟨fun f4 w6 V_ rg_ hs3 hp3 hq3 H14 => ?_, ?_⟩
      ·
        have H15 : HI M w w6 ([] ++ rg_) := (by have h_ : HI M w w6 ([] ++ (rg_)) := H14; exact h_)
        refine mv rfl ((hs3 3 rfl).trans s2) ?_
        exact ⟨_, rfl, rfl, H15⟩
      refine ⟨fun f5 w7 V_ rg_ hs4 hp4 hq4 H17 => ?_, ?_⟩
      ·
        have H18 : HI M w w7 ([] ++ rg_) := (by have h_ : HI M w w7 ([] ++ (rg_)) := H17; exact h_)
        refine mv rfl ((hs4 0 rfl).trans s0) ?_
        exact ⟨_, rfl, rfl, H18⟩
      refine ⟨fun f6 w8 V_ rg_ hs5 hp5 hq5 H20 => ?_, ?_⟩
      ·
        have H21 : HI M w w8 ([] ++ rg_) := (by have h_ : HI M w w8 ([] ++ (rg_)) := H20; exact h_)
        refine mv rfl ((hs5 3 rfl).trans s2) ?_
        exact ⟨_, rfl, rfl, H21⟩
      refine ⟨fun f7 w9 V_ rg_ hs6 hp6 hq6 H23 => ?_, ?_⟩
      ·
        obtain ⟨e0, q0⟩ := hp6 4 _ rfl rfl rfl
        have e1 : V_ 4 = .slice a_xs xs.length c_xs := q0
        have s3 : f7 18 = .slice a_xs xs.length c_xs := e0.trans e1
        obtain ⟨e2, q1⟩ := hp6 5 _ rfl rfl rfl
        have e3 : V_ 5 = .int .i64 ((xs.length : Int) - 1 - (q : Int)) := q1
        have s4 : f7 19 = .int .i64 ((xs.length : Int) - 1 - (q : Int)) := e2.trans e3
        have H24 : HI M w w9 ([own w.heap.size 3 (.slice a_xs xs.length c_xs) ys] ++ rg_) := (by have h_ : HI M w w9 ([] ++ ([own w.heap.size 3 (.slice a_xs xs.length c_xs) ys] ++ (rg_))) := H23; exact h_)
        refine iaO (H24.at_ 0 rfl) rfl rfl s3 s4 (by first | omega | (simp only [List.length_set]; omega)) un42 ty3 ?_
        intro g4 x4 hv4 hx4 hA6
        obtain rfl : x0 = x4 := Option.some.inj (hx0.symm.trans hx4)
        exact ⟨_, rfl, ⟨g4, rfl, hv4⟩, H24⟩
      refine ⟨fun f8 w10 V_ rg_ hs7 hp7 hq7 H26 => ?_, ?_⟩
      ·
        obtain ⟨e4, q2⟩ := hp7 6 _ rfl rfl rfl
        obtain ⟨g5, e5, rv2⟩ : ∃ (g5 : Nat), V_ 6 = .pointer (some ⟨g5, ((xs.length : Int) - 1 - (q : Int)).toNat * 1, none⟩) ∧ (.slice a_xs xs.length c_xs : Value).ownBlock = some g5 := q2
        have s5 : f8 20 = .pointer (some ⟨g5, ((xs.length : Int) - 1 - (q : Int)).toNat * 1, none⟩) := e4.trans e5
        have H27 : HI M w w10 ([own w.heap.size 3 (.slice a_xs xs.length c_xs) ys] ++ rg_) := (by have h_ : HI M w w10 ([] ++ ([own w.heap.size 3 (.slice a_xs xs.length c_xs) ys] ++ (rg_))) := H26; exact h_)
        have hA7 := own_at (H27.at_ 0 rfl) rv2 hx0
        refine ldI hA7 ty3 rfl s5 ?_
        intro rv3
        exact ⟨_, rfl, ⟨rfl, rv3⟩, H27⟩
      refine ⟨fun f9 w11 V_ rg_ hs8 hp8 hq8 H29 => ?_, ?_⟩
      ·
        have H30 : HI M w w11 ([] ++ rg_) := (by have h_ : HI M w w11 ([] ++ (rg_)) := H29; exact h_)
        refine mv rfl ((hs8 0 rfl).trans s0) ?_
        exact ⟨_, rfl, rfl, H30⟩
      refine ⟨fun f10 w12 V_ rg_ hs9 hp9 hq9 H32 => ?_, ?_⟩
      ·
        have H33 : HI M w w12 ([] ++ rg_) := (by have h_ : HI M w w12 ([] ++ (rg_)) := H32; exact h_)
        refine mv rfl ((hs9 2 rfl).trans s1) ?_
        exact ⟨_, rfl, rfl, H33⟩
      refine ⟨fun f11 w13 V_ rg_ hs10 hp10 hq10 H35 => ?_, ?_⟩
      ·
        obtain ⟨e6, q3⟩ := hp10 8 _ rfl rfl rfl
        have e7 : V_ 8 = .slice a_xs xs.length c_xs := q3
        have s6 : f11 22 = .slice a_xs xs.length c_xs := e6.trans e7
        obtain ⟨e8, q4⟩ := hp10 9 _ rfl rfl rfl
        have e9 : V_ 9 = .int .i64 (q : Int) := q4
        have s7 : f11 23 = .int .i64 (q : Int) := e8.trans e9
        have H36 : HI M w w13 ([own w.heap.size 3 (.slice a_xs xs.length c_xs) ys] ++ rg_) := (by have h_ : HI M w w13 ([] ++ ([own w.heap.size 3 (.slice a_xs xs.length c_xs) ys] ++ (rg_))) := H35; exact h_)
        refine iaO (H36.at_ 0 rfl) rfl rfl s6 s7 (by first | omega | (simp only [List.length_set]; omega)) un42 ty3 ?_
        intro g6 x5 hv5 hx5 hA8
        obtain rfl : x1 = x5 := Option.some.inj (hx1.symm.trans hx5)
        exact ⟨_, rfl, ⟨g6, rfl, hv5⟩, H36⟩
      refine ⟨fun f12 w14 V_ rg_ hs11 hp11 hq11 H38 => ?_, ?_⟩
      ·
        obtain ⟨e10, q5⟩ := hp11 10 _ rfl rfl rfl
        obtain ⟨g7, e11, rv4⟩ : ∃ (g7 : Nat), V_ 10 = .pointer (some ⟨g7, (q : Int).toNat * 1, none⟩) ∧ (.slice a_xs xs.length c_xs : Value).ownBlock = some g7 := q5
        have s8 : f12 24 = .pointer (some ⟨g7, (q : Int).toNat * 1, none⟩) := e10.trans e11
        have H39 : HI M w w14 ([own w.heap.size 3 (.slice a_xs xs.length c_xs) ys] ++ rg_) := (by have h_ : HI M w w14 ([] ++ ([own w.heap.size 3 (.slice a_xs xs.length c_xs) ys] ++ (rg_))) := H38; exact h_)
        have hA9 := own_at (H39.at_ 0 rfl) rv4 hx1
        refine ldI hA9 ty3 rfl s8 ?_
        intro rv5
        exact ⟨_, rfl, ⟨rfl, rv5⟩, H39⟩
      refine ⟨fun f13 w15 V_ rg_ hs12 hp12 hq12 H41 => ?_, ?_⟩
      ·
        obtain ⟨e12, q6⟩ := hp12 0 _ rfl rfl rfl
        have e13 : V_ 0 = .slice a_xs xs.length c_xs := q6
        have s9 : f13 14 = .slice a_xs xs.length c_xs := e12.trans e13
        obtain ⟨e14, q7⟩ := hp12 1 _ rfl rfl rfl
        have e15 : V_ 1 = .int .i64 (q : Int) := q7
        have s10 : f13 15 = .int .i64 (q : Int) := e14.trans e15
        have H42 : HI M w w15 ([own w.heap.size 3 (.slice a_xs xs.length c_xs) ys] ++ rg_) := (by have h_ : HI M w w15 ([] ++ ([own w.heap.size 3 (.slice a_xs xs.length c_xs) ys] ++ (rg_))) := H41; exact h_)
        refine iaO (H42.at_ 0 rfl) rfl rfl s9 s10 (by first | omega | (simp only [List.length_set]; omega)) un42 ty3 ?_
        intro g8 x6 hv6 hx6 hA10
        obtain rfl : x1 = x6 := Option.some.inj (hx1.symm.trans hx6)
        exact ⟨_, rfl, ⟨g8, rfl, hv6⟩, H42⟩
      refine ⟨fun f14 w16 V_ rg_ hs13 hp13 hq13 H44 => ?_, ?_⟩
      ·
        obtain ⟨e16, q8⟩ := hp13 7 _ rfl rfl rfl
        obtain ⟨e17, rv6⟩ : V_ 7 = .int .i64 x0 ∧ I64 (x0) := q8
        have s11 : f14 21 = .int .i64 x0 := e16.trans e17
        obtain ⟨e18, q9⟩ := hp13 12 _ rfl rfl rfl
        obtain ⟨g9, e19, rv7⟩ : ∃ (g9 : Nat), V_ 12 = .pointer (some ⟨g9, (q : Int).toNat * 1, none⟩) ∧ (.slice a_xs xs.length c_xs : Value).ownBlock = some g9 := q9
        have s12 : f14 26 = .pointer (some ⟨g9, (q : Int).toNat * 1, none⟩) := e18.trans e19
        have H45 : HI M w w16 ([own w.heap.size 3 (.slice a_xs xs.length c_xs) ys] ++ rg_) := (by have h_ : HI M w w16 ([] ++ ([own w.heap.size 3 (.slice a_xs xs.length c_xs) ys] ++ (rg_))) := H44; exact h_)
        refine stO H45 0 rfl rv7 rfl (by first | omega | (simp only [List.length_set]; omega)) ty3 rfl rfl s12 s11 (RV.int.2 ⟨rfl, (by first | assumption | (unfold I64 at *; omega))⟩) ?_
        intro w17 (H46 : HI M w w17 ([own w.heap.size 3 (.slice a_xs xs.length c_xs) (ys.set ((q : Int).toNat) x0)] ++ rg_))
        exact ⟨undef, rfl, trivial, H46⟩
      refine ⟨fun f15 w18 V_ rg_ hs14 hp14 hq14 H48 => ?_, ?_⟩
      ·
        obtain ⟨e20, q10⟩ := hp14 2 _ rfl rfl rfl
        have e21 : V_ 2 = .slice a_xs xs.length c_xs := q10
        have s13 : f15 16 = .slice a_xs xs.length c_xs := e20.trans e21
        obtain ⟨e22, q11⟩ := hp14 3 _ rfl rfl rfl
        have e23 : V_ 3 = .int .i64 ((xs.length : Int) - 1 - (q : Int)) := q11
        have s14 : f15 17 = .int .i64 ((xs.length : Int) - 1 - (q : Int)) := e22.trans e23
        have H49 : HI M w w18 ([own w.heap.size 3 (.slice a_xs xs.length c_xs) (ys.set ((q : Int).toNat) x0)] ++ rg_) := (by have h_ : HI M w w18 ([] ++ ([own w.heap.size 3 (.slice a_xs xs.length c_xs) (ys.set ((q : Int).toNat) x0)] ++ (rg_))) := H48; exact h_)
        refine iaO (H49.at_ 0 rfl) rfl rfl s13 s14 (by first | omega | (simp only [List.length_set]; omega)) un42 ty3 ?_
        intro g10 x7 hv7 hx7 hA11
        obtain rfl : x3 = x7 := Option.some.inj (hx3.symm.trans hx7)
        exact ⟨_, rfl, ⟨g10, rfl, hv7⟩, H49⟩
      refine ⟨fun f16 w19 V_ rg_ hs15 hp15 hq15 H51 => ?_, ?_⟩
      ·
        obtain ⟨e24, q12⟩ := hp15 11 _ rfl rfl rfl
        obtain ⟨e25, rv8⟩ : V_ 11 = .int .i64 x1 ∧ I64 (x1) := q12
        have s15 : f16 25 = .int .i64 x1 := e24.trans e25
        obtain ⟨e26, q13⟩ := hp15 14 _ rfl rfl rfl
        obtain ⟨g11, e27, rv9⟩ : ∃ (g11 : Nat), V_ 14 = .pointer (some ⟨g11, ((xs.length : Int) - 1 - (q : Int)).toNat * 1, none⟩) ∧ (.slice a_xs xs.length c_xs : Value).ownBlock = some g11 := q13
        have s16 : f16 27 = .pointer (some ⟨g11, ((xs.length : Int) - 1 - (q : Int)).toNat * 1, none⟩) := e26.trans e27
        have H52 : HI M w w19 ([own w.heap.size 3 (.slice a_xs xs.length c_xs) (ys.set ((q : Int).toNat) x0)] ++ rg_) := (by have h_ : HI M w w19 ([] ++ ([own w.heap.size 3 (.slice a_xs xs.length c_xs) (ys.set ((q : Int).toNat) x0)] ++ (rg_))) := H51; exact h_)
        refine stO H52 0 rfl rv9 rfl (by first | omega | (simp only [List.length_set]; omega)) ty3 rfl rfl s16 s15 (RV.int.2 ⟨rfl, (by first | assumption | (unfold I64 at *; omega))⟩) ?_
        intro w20 (H53 : HI M w w20 ([own w.heap.size 3 (.slice a_xs xs.length c_xs) ((ys.set ((q : Int).toNat) x0).set (((xs.length : Int) - 1 - (q : Int)).toNat) x1)] ++ rg_))
        exact ⟨undef, rfl, trivial, H53⟩
      exact trivial
    · intro f17 w21 V_ hs16 hp16 H55
      have s17 : f17 0 = .slice a_xs xs.length c_xs := (hs16 0 rfl).trans s0
      have s18 : f17 2 = .int .i64 (q : Int) := (hs16 2 rfl).trans s1
      have s19 : f17 3 = .int .i64 ((xs.length : Int) - 1 - (q : Int)) := (hs16 3 rfl).trans s2
      have H56 : HI M w w21 ([own w.heap.size 3 (.slice a_xs xs.length c_xs) ((ys.set ((q : Int).toNat) x0).set (((xs.length : Int) - 1 - (q : Int)).toNat) x1)] ++ r) := (by have h_ : HI M w w21 ([] ++ ([] ++ ([] ++ ([] ++ ([] ++ ([] ++ ([] ++ ([] ++ ([] ++ ([] ++ ([] ++ ([] ++ ([] ++ ([] ++ ([] ++ ([own w.heap.size 3 (.slice a_xs xs.length c_xs) ((ys.set ((q : Int).toNat) x0).set (((xs.length : Int) - 1 - (q : Int)).toNat) x1)] ++ (r ++ ([])))))))))))))))))) := H55; rw [List.append_nil] at h_; exact h_)
      refine inb_normal (nx (rg (k (mv rfl s18 (k (add rfl rfl rfl rfl (by first | assumption | (unfold I64 at *; omega)) (k (mv rfl s19 (k (sub rfl rfl rfl rfl (by first | assumption | (unfold I64 at *; omega)) (k (asg (v := .int .i64 ((q : Int) + 1)) rfl rfl (k (asg (v := .int .i64 (((xs.length : Int) - 1 - (q : Int)) - 1)) rfl rfl (z ?_)))))))))))))))
      refine loopN _ ?_ ⟨(q + 1), ((ys.set ((q : Int).toNat) x0).set (((xs.length : Int) - 1 - (q : Int)).toNat) x1), rfl, s17, (ieq rfl (by omega)), (ieq rfl (by omega)), H56, (by first | assumption | omega | simp | (simp; omega)), (by simp only [List.length_set]; exact hl_), (by exact revTo_stepI hs (by omega) hx0 (by omega) hx1)⟩
      omega
  ·
    have p0 := of_decide_eq_false b0
    refine ex (then_exit (loop_exit (inb_here (r0n rfl ?_))))
    have e0 : (ys : List _) = xs.reverse := by exact revTo_end hs (by omega)
    try rw [← e0]
    refine ⟨?_, ?_⟩
    · first | rfl | simp only [e0] | (simp only [List.length_set])
    · first | exact H0 | simpa only [e0, List.length_set] using H0
end Go.Proofs.YtmhopljngkgidaaDoor
namespace Go.Proofs.YtmhopljngkgidaaDoor
open Go.Ew Go.RowKit
set_option linter.unusedVariables false
set_option linter.unusedSimpArgs false
attribute [local irreducible] WL WC SO Code.wp wpList retQ Ret
attribute [local irreducible] bitB hasW inR hasR setR countW countR subR words newR listR orR firstW tab8
theorem go109 : GoF Tryd.prog 109 := ⟨_, _, Tryd.func109, rfl, by kernel_rfl⟩
set_option maxRecDepth 100000 in
set_option maxHeartbeats 1600000 in
theorem path_back {M : Nat → Prop} {w : World} {a_vb : Option Addr} {c_vb : Nat} {vb : List Int} {i : Int} {j : Int} (hM : ∀ b, M b → b < w.heap.size) (h_vb : RV M w (.slice a_vb vb.length c_vb) vb) (h_i : I64 i) (h_j : I64 j) (hbk : Bk vb i j (bkW vb i j)) (hbl : (bkW vb i j).length ≤ 4097) : Calls Tryd.prog 81 #[.slice a_vb vb.length c_vb, .int .i64 i, .int .i64 j] w (Ret fun v w' => ∃ (a0 : Option Addr) (c0 : Nat), v = .slice a0 (bkW vb i j).length c0 ∧ Ext w w' ∧ OwnsG M 3 w (bkW vb i j) (.slice a0 (bkW vb i j).length c0) w') := by
  refine enter 29 Tryd.func81 rfl rfl rfl fun f0 ha => ?_
  have H := HI.start (M0 := M) (w := w) hM
  have H0 := H.put (it := imm (.slice a_vb vb.length c_vb) vb) rfl (by rw [MS_nil]; exact h_vb)
  have ln_vb := rv_len h_vb
  have i0 : f0 0 = .slice a_vb vb.length c_vb := ha 0 (by simp)
  have i1 : f0 1 = .int .i64 i := ha 1 (by simp)
  have i2 : f0 2 = .int .i64 j := ha 2 (by simp)
  have hlen_ := hbk.len; have hend_ := bk_rng hbk hbk.last
  refine sq (rg (k (asg (v := .slice none 0 0) rfl rfl (z (nx (sq (rg (k (mv rfl i2 (k (bs (xs := ([j] : List Int)) (cells := #[.int .i64 j]) (e := 3) H0 rfl (pbc rfl pb0) (fun _ => by kernel_rfl) ⟨[.int .i64 j], [], rfl, ⟨rfl, (show I64 (j) from (by unfold I64 at *; omega))⟩, rfl⟩ rfl (by unfold maxLen; omega) ?_)))))))))))
  intro g0 w0 xt0 (H1 : HI M w w0 [own w.heap.size 3 (.slice (some ⟨g0, 0, none⟩) 1 1) ([j] : List Int), imm (.slice a_vb vb.length c_vb) vb])
  refine k (asg (v := .slice (some ⟨g0, 0, none⟩) 1 1) rfl rfl (z (nx (sq (sq (rg (k (mv rfl i0 (k (mv rfl i2 (k (ia (H1.rv 1 rfl) rfl rfl rfl rfl (by first | omega | exact bk_rng hbk hs2) un42 ty3 ?_))))))))))))
  intro ad0 x0 hx0 hA0
  refine k (ldI hA0.w ty3 rfl rfl ?_)
  intro rv0
  refine k (asg (v := .int .i64 x0) rfl rfl (z (nx (bk ?_))))
  refine lp (fun m f w' => ∃ (t : Nat) (l : List Int) (a : Int) (a0 : Option Addr) (c0 : Nat), m = t + 1 ∧ f 0 = .slice a_vb vb.length c_vb ∧ f 1 = .int .i64 i ∧ f 7 = .slice a0 l.length c0 ∧ f 8 = .int .i64 a ∧  HI M w w' [own w.heap.size 3 (.slice a0 l.length c0) l, imm (.slice a_vb vb.length c_vb) vb] ∧ (1 ≤ t ∧ t < (bkW vb i j).length) ∧ (l = ((bkW vb i j).drop t).reverse) ∧ ((bkW vb i j)[t - 1]? = some a)) _ ⟨((bkW vb i j).length - 1), [j], x0, (some ⟨g0, 0, none⟩), 1, rfl, i0, i1, rfl, (ieq rfl (by first | rfl | omega | simp)), H1, (by first | assumption | omega | simp | (simp; omega)), (by exact bk_ones hbk), (by exact bk_start hbk hx0)⟩ ?_
  rintro _ f0 w1 ⟨t, l, a, a0, c0, rfl, s0, s1, s2, s3, H2, ht, hs, hs2⟩
  refine sq (bk (sq ?_))
  have hL_ : l.length = (bkW vb i j).length - t := by rw [hs]; simp
  have ha_ := bk_rng hbk hs2
  refine rg (k (mv rfl s2 (k (mv rfl s3 (k (bs (xs := ([a] : List Int)) (cells := #[.int .i64 a]) (e := 3) H2 rfl (pbc rfl pb0) (fun _ => by kernel_rfl) ⟨[.int .i64 a], [], rfl, ⟨rfl, (show I64 (a) from (by unfold I64 at *; omega))⟩, rfl⟩ rfl (by unfold maxLen; omega) ?_))))))
  intro g1 w2 xt1 (H3 : HI M w w2 [own w.heap.size 3 (.slice (some ⟨g1, 0, none⟩) 1 1) ([a] : List Int), own w.heap.size 3 (.slice a0 l.length c0) l, imm (.slice a_vb vb.length c_vb) vb])
  refine k (ap H3 1 rfl rfl rfl rfl rfl rfl (own_src (H3.at_ 0 rfl)) un42 ty3 rfl (by first | omega | (simp; omega)) (by first | omega | (simp; omega)) ?_)
  intro a1 c1 w3 (H4 : HI M w w3 [own w.heap.size 3 (.slice (some ⟨g1, 0, none⟩) 1 1) ([a] : List Int), own w.heap.size 3 (.slice a1 (l ++ ([a] : List Int)).length c1) (l ++ ([a] : List Int)), imm (.slice a_vb vb.length c_vb) vb])
  refine k (asg (v := .slice a1 (l ++ ([a] : List Int)).length c1) rfl rfl (z (nx (sq (rg (k (mv rfl s3 (k (mv rfl s1 (k (eql rfl rfl rfl rfl (z (nx ?_)))))))))))))
  refine cd (b := decide (a = i)) rfl rfl (fun b0 => ?_) (fun b0 => ?_)
  ·
    have p0 := of_decide_eq_true b0
    refine ex (inb_past (by decide) (then_exit (loop_exit (inb_here (nx (sq (rg (k (mv (v := .slice a1 (l ++ ([a] : List Int)).length c1) rfl rfl (k ?_))))))))))
    have H5 : HI M w w3 ([own w.heap.size 3 (.slice a1 (l ++ ([a] : List Int)).length c1) (l ++ ([a] : List Int))] ++ [own w.heap.size 3 (.slice (some ⟨g1, 0, none⟩) 1 1) ([a] : List Int), imm (.slice a_vb vb.length c_vb) vb]) := H4.pickN [1, 0, 2] (by decide) rfl
    have cc0 := reverse_int (a_xs := a1) (c_xs := c1) (xs := (l ++ ([a] : List Int))) (w := w) (w_ := w3) (r := [own w.heap.size 3 (.slice (some ⟨g1, 0, none⟩) 1 1) ([a] : List Int), imm (.slice a_vb vb.length c_vb) vb]) (M := M) H5
    refine ca go109 rfl (ec rfl e0) cc0 ?_
    rintro _ w4 ⟨rfl, H6⟩
    have H7 : HI M w w4 [own w.heap.size 3 (.slice a1 (l ++ ([a] : List Int)).length c1) ((l ++ ([a] : List Int)).reverse), own w.heap.size 3 (.slice (some ⟨g1, 0, none⟩) 1 1) ([a] : List Int), imm (.slice a_vb vb.length c_vb) vb] := H6
    refine z (nx (sq (rg (k (mv (v := .slice a1 (l ++ ([a] : List Int)).length c1) rfl rfl (k (asg (v := .slice a1 (l ++ ([a] : List Int)).length c1) rfl rfl (z (nx (rt (r1 rfl rfl ?_)))))))))))
    have e0 : (((l ++ ([a] : List Int)).reverse) : List Int) = bkW vb i j := by exact bk_end hbk (by omega) (by omega) hs2 (by assumption) hs
    have l0 : (l ++ ([a] : List Int)).length = (bkW vb i j).length := by first | rfl | (rw [← e0]; simp) | simp
    have ev_ := cg1 (fun (n_0 : Nat) => (.slice a1 n_0 c1 : Value)) l0
    exact ⟨a1, c1, ev_, H7.below, (congrArg (fun (n_ : Nat) => OwnsG _ _ _ (bkW vb i j) (.slice a1 n_ c1) _) l0).mp ((congrArg (fun (x_ : List Int) => OwnsG _ _ _ x_ (.slice a1 (l ++ ([a] : List Int)).length c1) _) e0).mp (H7.ownsG_out 0 rfl))⟩
  ·
    have p0 := of_decide_eq_false b0
    refine sk (inb_normal (nx (rg (k (mv rfl s0 (k (mv rfl s3 (k (ia (H4.rv 2 rfl) rfl rfl rfl rfl (by first | omega | exact bk_rng hbk hs2) un42 ty3 ?_)))))))))
    intro ad1 x1 hx1 hA1
    refine k (ldI hA1.w ty3 rfl rfl ?_)
    intro rv1
    refine k (asg (v := .int .i64 x1) rfl rfl (z ?_))
    have H5 : HI M w w3 [own w.heap.size 3 (.slice a1 (l ++ ([a] : List Int)).length c1) (l ++ ([a] : List Int)), imm (.slice a_vb vb.length c_vb) vb] := H4.pickN [1, 2] (by decide) rfl
    refine loopN _ ?_ ⟨(t - 1), (l ++ ([a] : List Int)), x1, a1, c1, rfl, s0, s1, rfl, (ieq rfl (by first | rfl | omega | (push_cast; omega))), H5, (by have h_ := bk_go hbk (by omega) hs2 (by assumption); omega), (by exact bk_more hbk (by omega) (by omega) hs2 hs), (by exact bk_next hbk (by omega) (by omega) hs2 (by assumption) hx1)⟩
    omega
end Go.Proofs.YtmhopljngkgidaaDoor
namespace Go.Proofs.YtmhopljngkgidaaDoor
open Go.Ew Go.RowKit
set_option linter.unusedVariables false
set_option linter.unusedSimpArgs false
attribute [local irreducible] WL WC SO Code.wp wpList retQ Ret
attribute [local irreducible] bitB hasW inR hasR setR countW countR subR words newR listR orR firstW tab8
theorem go119 : GoF Tryd.prog 119 := ⟨_, _, Tryd.func119, rfl, by kernel_rfl⟩
theorem go108 : GoF Tryd.prog 108 := ⟨_, _, Tryd.func108, rfl, by kernel_rfl⟩
set_option maxRecDepth 100000 in
set_option maxHeartbeats 1600000 in
theorem mul64 {w : World} {x : BitVec 64} {y : BitVec 64} (hx1 : x = 1#64) : Calls Tryd.prog 119 #[U x, U y] w (Ret fun v w' =>  v = .tuple #[U (0#64), U y] ∧ Ext w w') := by
  refine enter 51 Tryd.func119 rfl rfl rfl fun f0 ha => ?_
  have H := HI.start (M0 := (fun _ => False)) (w := w) (fun _ h => h.elim)
  have i0 : f0 0 = U x := ha 0 (by simp)
  have i1 : f0 1 = U y := ha 1 (by simp)
  refine sq (rg (k (asg (v := U (0#64)) rfl rfl (k (asg (v := U (0#64)) rfl rfl (z (nx (sq (rg (k (mv rfl i0 (k (andU x (4294967295#64) rfl rfl rfl rfl (k (asg (v := U (x &&& (4294967295#64))) rfl rfl (z (nx (sq (rg (k (mv rfl i0 (k (shrUn x 32 rfl rfl rfl rfl (k (asg (v := U (x >>> 32)) rfl rfl (z (nx (sq (rg (k (mv rfl i1 (k (andU y (4294967295#64) rfl rfl rfl rfl (k (asg (v := U (y &&& (4294967295#64))) rfl rfl (z (nx (sq (rg (k (mv rfl i1 (k (shrUn y 32 rfl rfl rfl rfl (k (asg (v := U (y >>> 32)) rfl rfl (z (nx (sq (rg (k (mv (v := U (x &&& (4294967295#64))) rfl rfl (k (mv (v := U (y &&& (4294967295#64))) rfl rfl (k (mulU (x &&& (4294967295#64)) (y &&& (4294967295#64)) rfl rfl rfl rfl (k (asg (v := U ((x &&& (4294967295#64)) * (y &&& (4294967295#64)))) rfl rfl (z (nx (sq (rg (k (mv (v := U (x >>> 32)) rfl rfl (k (mv (v := U (y &&& (4294967295#64))) rfl rfl (k (mulU (x >>> 32) (y &&& (4294967295#64)) rfl rfl rfl rfl (k (mv (v := U ((x &&& (4294967295#64)) * (y &&& (4294967295#64)))) rfl rfl (k (shrUn ((x &&& (4294967295#64)) * (y &&& (4294967295#64))) 32 rfl rfl rfl rfl (k (addU ((x >>> 32) * (y &&& (4294967295#64))) (((x &&& (4294967295#64)) * (y &&& (4294967295#64))) >>> 32) rfl rfl rfl rfl (k (asg (v := U (((x >>> 32) * (y &&& (4294967295#64))) + (((x &&& (4294967295#64)) * (y &&& (4294967295#64))) >>> 32))) rfl rfl (z (nx (sq (rg (k (mv (v := U (((x >>> 32) * (y &&& (4294967295#64))) + (((x &&& (4294967295#64)) * (y &&& (4294967295#64))) >>> 32))) rfl rfl (k (andU (((x >>> 32) * (y &&& (4294967295#64))) + (((x &&& (4294967295#64)) * (y &&& (4294967295#64))) >>> 32)) (4294967295#64) rfl rfl rfl rfl (k (asg (v := U ((((x >>> 32) * (y &&& (4294967295#64))) + (((x &&& (4294967295#64)) * (y &&& (4294967295#64))) >>> 32)) &&& (4294967295#64))) rfl rfl (z (nx (sq (rg (k (mv (v := U (((x >>> 32) * (y &&& (4294967295#64))) + (((x &&& (4294967295#64)) * (y &&& (4294967295#64))) >>> 32))) rfl rfl (k (shrUn (((x >>> 32) * (y &&& (4294967295#64))) + (((x &&& (4294967295#64)) * (y &&& (4294967295#64))) >>> 32)) 32 rfl rfl rfl rfl (k (asg (v := U ((((x >>> 32) * (y &&& (4294967295#64))) + (((x &&& (4294967295#64)) * (y &&& (4294967295#64))) >>> 32)) >>> 32)) rfl rfl (z (nx (sq (rg (k (mv (v := U ((((x >>> 32) * (y &&& (4294967295#64))) + (((x &&& (4294967295#64)) * (y &&& (4294967295#64))) >>> 32)) &&& (4294967295#64))) rfl rfl (k (mv (v := U (x &&& (4294967295#64))) rfl rfl (k (mv (v := U (y >>> 32)) rfl rfl (k (mulU (x &&& (4294967295#64)) (y >>> 32) rfl rfl rfl rfl (k (addU ((((x >>> 32) * (y &&& (4294967295#64))) + (((x &&& (4294967295#64)) * (y &&& (4294967295#64))) >>> 32)) &&& (4294967295#64)) ((x &&& (4294967295#64)) * (y >>> 32)) rfl rfl rfl rfl (k (asg (v := U (((((x >>> 32) * (y &&& (4294967295#64))) + (((x &&& (4294967295#64)) * (y &&& (4294967295#64))) >>> 32)) &&& (4294967295#64)) + ((x &&& (4294967295#64)) * (y >>> 32)))) rfl rfl (z (nx (sq (rg (k (mv (v := U (x >>> 32)) rfl rfl (k (mv (v := U (y >>> 32)) rfl rfl (k (mulU (x >>> 32) (y >>> 32) rfl rfl rfl rfl (k (mv (v := U ((((x >>> 32) * (y &&& (4294967295#64))) + (((x &&& (4294967295#64)) * (y &&& (4294967295#64))) >>> 32)) >>> 32)) rfl rfl (k (addU ((x >>> 32) * (y >>> 32)) ((((x >>> 32) * (y &&& (4294967295#64))) + (((x &&& (4294967295#64)) * (y &&& (4294967295#64))) >>> 32)) >>> 32) rfl rfl rfl rfl (k (mv (v := U (((((x >>> 32) * (y &&& (4294967295#64))) + (((x &&& (4294967295#64)) * (y &&& (4294967295#64))) >>> 32)) &&& (4294967295#64)) + ((x &&& (4294967295#64)) * (y >>> 32)))) rfl rfl (k (shrUn (((((x >>> 32) * (y &&& (4294967295#64))) + (((x &&& (4294967295#64)) * (y &&& (4294967295#64))) >>> 32)) &&& (4294967295#64)) + ((x &&& (4294967295#64)) * (y >>> 32))) 32 rfl rfl rfl rfl (k (addU (((x >>> 32) * (y >>> 32)) + ((((x >>> 32) * (y &&& (4294967295#64))) + (((x &&& (4294967295#64)) * (y &&& (4294967295#64))) >>> 32)) >>> 32)) ((((((x >>> 32) * (y &&& (4294967295#64))) + (((x &&& (4294967295#64)) * (y &&& (4294967295#64))) >>> 32)) &&& (4294967295#64)) + ((x &&& (4294967295#64)) * (y >>> 32))) >>> 32) rfl rfl rfl rfl (k (asg (v := U ((((x >>> 32) * (y >>> 32)) + ((((x >>> 32) * (y &&& (4294967295#64))) + (((x &&& (4294967295#64)) * (y &&& (4294967295#64))) >>> 32)) >>> 32)) + ((((((x >>> 32) * (y &&& (4294967295#64))) + (((x &&& (4294967295#64)) * (y &&& (4294967295#64))) >>> 32)) &&& (4294967295#64)) + ((x &&& (4294967295#64)) * (y >>> 32))) >>> 32))) rfl rfl (z (nx (sq (rg (k (mv rfl i0 (k (mv rfl i1 (k (mulU x y rfl rfl rfl rfl (k (asg (v := U (x * y)) rfl rfl (z (nx (rt (r2 rfl rfl rfl ?_)))))))))))))))))))))))))))))))))))))))))))))))))))))))))))))))))))))))))))))))))))))))))))))))))))))))))))))))))))))))))))))))))))))))))))))))))))))
  have e0 : ((((x >>> 32) * (y >>> 32)) + ((((x >>> 32) * (y &&& (4294967295#64))) + (((x &&& (4294967295#64)) * (y &&& (4294967295#64))) >>> 32)) >>> 32)) + ((((((x >>> 32) * (y &&& (4294967295#64))) + (((x &&& (4294967295#64)) * (y &&& (4294967295#64))) >>> 32)) &&& (4294967295#64)) + ((x &&& (4294967295#64)) * (y >>> 32))) >>> 32) : BitVec 64) = 0#64 := by exact mul1_hi hx1
  have e1 : (x * y : BitVec 64) = y := by rw [hx1]; simp
  have ev_ := cg2 (fun (x_0 : BitVec 64) (x_1 : BitVec 64) => (.tuple #[U x_0, U x_1] : Value)) e0 e1
  exact ⟨ev_, H.below⟩
set_option maxRecDepth 100000 in
set_option maxHeartbeats 1600000 in
theorem mul {w : World} {x : BitVec 64} {y : BitVec 64} (hx1 : x = 1#64) : Calls Tryd.prog 108 #[U x, U y] w (Ret fun v w' =>  v = .tuple #[U (0#64), U y] ∧ Ext w w') := by
  refine enter 30 Tryd.func108 rfl rfl rfl fun f0 ha => ?_
  have H := HI.start (M0 := (fun _ => False)) (w := w) (fun _ h => h.elim)
  have i0 : f0 0 = U x := ha 0 (by simp)
  have i1 : f0 1 = U y := ha 1 (by simp)
  refine sq (rg (k (asg (v := U (0#64)) rfl rfl (k (asg (v := U (0#64)) rfl rfl (z (nx (sq (cdF rfl rfl rfl (sk (nx (sq (rg (k (mv rfl i0 (k (mv rfl i1 (k ?_))))))))))))))))))
  have cc0 := mul64 (x := x) (y := y) (w := w) (by first | omega | (simp; omega))
  refine ca go119 rfl (ec rfl (ec rfl e0)) cc0 ?_
  rintro _ w0 ⟨rfl, xt0⟩
  have H0 := H.ext xt0
  refine k (mv (v := .tuple #[U (0#64), U y]) rfl rfl (k (xt rfl rfl rfl (k (xt rfl rfl rfl (k (asg (v := U (0#64)) rfl rfl (k (asg (v := U y) rfl rfl (z (nx (sq (rg (k (mv (v := U (0#64)) rfl rfl (k (mv (v := U y) rfl rfl (k (asg (v := U (0#64)) rfl rfl (k (asg (v := U y) rfl rfl (z (nx (rt (r2 rfl rfl rfl ?_)))))))))))))))))))))))))
  exact ⟨rfl, H0.below⟩
set_option maxRecDepth 100000 in
set_option maxHeartbeats 1600000 in
theorem repeat_int {M : Nat → Prop} {w : World} {a_xs : Option Addr} {c_xs : Nat} {xs : List Int} {n : Int} (hM : ∀ b, M b → b < w.heap.size) (h_xs : RV M w (.slice a_xs xs.length c_xs) xs) (h_n : I64 n) (hx1 : xs.length = 1) (hn0 : 1 ≤ n) (hn1 : n ≤ 4096) : Calls Tryd.prog 80 #[.slice a_xs xs.length c_xs, .int .i64 n] w (Ret fun v w' => ∃ (a0 : Option Addr) (c0 : Nat), v = .slice a0 (List.replicate n.toNat (xs.headD 0)).length c0 ∧ Ext w w' ∧ OwnsG M 3 w (List.replicate n.toNat (xs.headD 0)) (.slice a0 (List.replicate n.toNat (xs.headD 0)).length c0) w') := by
  refine enter 48 Tryd.func80 rfl rfl rfl fun f0 ha => ?_
  have H := HI.start (M0 := M) (w := w) hM
  have H0 := H.put (it := imm (.slice a_xs xs.length c_xs) xs) rfl (by rw [MS_nil]; exact h_xs)
  have ln_xs := rv_len h_xs
  have i0 : f0 0 = .slice a_xs xs.length c_xs := ha 0 (by simp)
  have i1 : f0 1 = .int .i64 n := ha 1 (by simp)
  refine sq (rg (k (asg (v := .slice none 0 0) rfl rfl (z (nx (sq (sq (rg (k (mv rfl i1 (k (lss rfl rfl rfl rfl (z (nx ?_))))))))))))))
  have tr0 : (decide (n < 0)) = false := (by rw [decide_eq_false_iff_not]; omega)
  refine cdF rfl rfl tr0 (sk (nx (sq (rg (k (mv rfl i0 (k (lnS rfl rfl un42 (k (cvU rfl rfl un3 un81 (k (mv rfl i1 (k (cvU rfl rfl un3 un81 (k ?_)))))))))))))))
  have cc0 := mul (x := (BitVec.ofInt 64 (xs.length : Int))) (y := (BitVec.ofInt 64 n)) (w := w) (by rw [hx1]; rfl)
  refine ca go108 rfl (ec rfl (ec rfl e0)) cc0 ?_
  rintro _ w0 ⟨rfl, xt0⟩
  have H1 := H0.ext xt0
  refine k (mv (v := .tuple #[U (0#64), U (BitVec.ofInt 64 n)]) rfl rfl (k (xt rfl rfl rfl (k (xt rfl rfl rfl (k (asg (v := U (0#64)) rfl rfl (k (asg (v := U (BitVec.ofInt 64 n)) rfl rfl (z (nx (sq (sq (rg (k (mv (v := U (0#64)) rfl rfl (k (gtU (0#64) (0#64) rfl rfl rfl rfl (k (mv (v := .bool (decide ((0#64).toNat < (0#64).toNat))) rfl rfl ?_))))))))))))))))))))
  have tr1 : (decide ((0#64).toNat < (0#64).toNat)) = false := (by decide)
  refine k (gy rfl rfl rfl tr1 (mv (v := U (BitVec.ofInt 64 n)) rfl rfl (k (gy rfl rfl rfl tr1 (gtU (BitVec.ofInt 64 n) (9223372036854775807#64) rfl rfl rfl rfl (k (pickF rfl rfl rfl rfl tr1 rfl (z (nx ?_)))))))))
  have tr2 : (decide ((9223372036854775807#64).toNat < (BitVec.ofInt 64 n).toNat)) = false := (by rw [decide_eq_false_iff_not, u64_big (by omega) hn1]; simp; omega)
  refine cdF rfl rfl tr2 (sk (nx (sq ?_)))
  have hb_ := u64_big (n := n) (by omega) hn1
  refine rg (k (mv (v := U (BitVec.ofInt 64 n)) rfl rfl (k (cvI rfl rfl (by first | assumption | (unfold I64 at *; omega)) un81 un3 (k (mk (m := (BitVec.ofInt 64 n).toNat) (zx := (0 : Int)) H1 rfl rfl rfl rfl un42 ty3 (fun _ _ => ⟨rfl, by unfold I64; omega⟩) (by omega) (by omega) ?_))))))
  intro g0 w1 xt1 (H2 : HI M w w1 [own w.heap.size 3 (.slice (some ⟨g0, 0, none⟩) ((BitVec.ofInt 64 n).toNat) ((BitVec.ofInt 64 n).toNat)) (List.replicate ((BitVec.ofInt 64 n).toNat) (0 : Int)), imm (.slice a_xs xs.length c_xs) xs])
  refine k (asg (v := .slice (some ⟨g0, 0, none⟩) ((BitVec.ofInt 64 n).toNat) ((BitVec.ofInt 64 n).toNat)) rfl rfl (z (nx (sq (rg (k (mv (v := .slice (some ⟨g0, 0, none⟩) ((BitVec.ofInt 64 n).toNat) ((BitVec.ofInt 64 n).toNat)) rfl rfl (k (mv rfl i0 (k (cpOw H2 0 rfl rfl rfl rfl rfl rfl (H2.rv 1 rfl).src un42 ty3 (by have h_ := u64_big (n := n) (by omega) hn1; rw [List.length_replicate, h_]; omega) (by omega) ?_)))))))))))
  intro w2 (H3 : HI M w w2 [own w.heap.size 3 (.slice (some ⟨g0, 0, none⟩) ((BitVec.ofInt 64 n).toNat) ((BitVec.ofInt 64 n).toNat)) (xs ++ (List.replicate ((BitVec.ofInt 64 n).toNat) (0 : Int)).drop xs.length), imm (.slice a_xs xs.length c_xs) xs])
  refine k (asg (v := .int .i64 (xs.length : Int)) rfl rfl (z (nx (sq (bk ?_)))))
  refine lp (fun m f w' => ∃ (q : Nat) (ys : List Int), m = n.toNat - q ∧ f 7 = .slice (some ⟨g0, 0, none⟩) ((BitVec.ofInt 64 n).toNat) ((BitVec.ofInt 64 n).toNat) ∧ f 8 = .int .i64 (q : Int) ∧  HI M w w' [own w.heap.size 3 (.slice (some ⟨g0, 0, none⟩) ((BitVec.ofInt 64 n).toNat) ((BitVec.ofInt 64 n).toNat)) ys, imm (.slice a_xs xs.length c_xs) xs] ∧ (1 ≤ q ∧ q ≤ n.toNat) ∧ (ys.length = n.toNat) ∧ (ys.take q = List.replicate q (xs.headD 0))) _ ⟨1, (xs ++ (List.replicate ((BitVec.ofInt 64 n).toNat) (0 : Int)).drop xs.length), rfl, rfl, (ieq rfl (by omega)), H3, (by first | assumption | omega | simp | (simp; omega)), (by exact (rep_start (m := n.toNat) hx1 (by omega) (by rw [List.length_replicate, hb_])).1), (by exact (rep_start (m := n.toNat) hx1 (by omega) (by rw [List.length_replicate, hb_])).2)⟩ ?_
  rintro _ f0 w3 ⟨q, ys, rfl, s0, s1, H4, hq_, hl_, hs⟩
  refine sq (sq (rg (k (mv rfl s1 (k (mv rfl s0 (k (lnS rfl rfl un42 (k (lss rfl rfl rfl rfl (z (nx ?_))))))))))))
  refine cd (b := decide ((q : Int) < (((BitVec.ofInt 64 n).toNat) : Int))) rfl rfl (fun b0 => ?_) (fun b0 => ?_)
  ·
    have p0 := of_decide_eq_true b0
    refine sk (nx (bk ?_))
    have H6 : HI M w w3 [imm (.slice a_xs xs.length c_xs) xs, own w.heap.size 3 (.slice (some ⟨g0, 0, none⟩) ((BitVec.ofInt 64 n).toNat) ((BitVec.ofInt 64 n).toNat)) ys] := H4.pickN [1, 0] (by decide) rfl
    refine drgL [none, none, none, none, none, none, none, none, none, none, some 7] [0, 0, 0, 6, 0, 0, 48, 126, 255, 511] [fun _ => [], fun _ => [], fun _ => [], fun _ => [], fun _ => [], fun _ => [], fun _ => [], fun v_ => [own w.heap.size 3 (.slice (some ⟨g0, 0, none⟩) ((BitVec.ofInt 64 n).toNat) ((BitVec.ofInt 64 n).toNat)) (cpyL ys ((q : Int).toNat))], fun _ => [], fun _ => [], fun _ => [own w.heap.size 3 (.slice (some ⟨g0, 0, none⟩) ((BitVec.ofInt 64 n).toNat) ((BitVec.ofInt 64 n).toNat)) ys]] [[], [], [], [10], [], [], [10], [10], [], []] [fun v_ => v_ = .int .i64 (q : Int), fun v_ => v_ = .slice (some ⟨g0, 0, none⟩) ((BitVec.ofInt 64 n).toNat) ((BitVec.ofInt 64 n).toNat), fun v_ => v_ = .int .i64 (q : Int), fun v_ => v_ = .slice (cutA (some ⟨g0, 0, none⟩) ((BitVec.ofInt 64 n).toNat) (q : Int).toNat) (((BitVec.ofInt 64 n).toNat) - (q : Int).toNat) ((BitVec.ofInt 64 n).toNat - (q : Int).toNat), fun v_ => v_ = .slice (some ⟨g0, 0, none⟩) ((BitVec.ofInt 64 n).toNat) ((BitVec.ofInt 64 n).toNat), fun v_ => v_ = .int .i64 (q : Int), fun v_ => v_ = .slice (cutA (some ⟨g0, 0, none⟩) ((BitVec.ofInt 64 n).toNat) 0) ((q : Int).toNat) (BitVec.ofInt 64 n).toNat, fun v_ => v_ = .int .i64 ((min ((q : Int).toNat) (ys.length - ((q : Int).toNat)) : Nat) : Int), fun v_ => v_ = .int .i64 ((q : Int) + ((min ((q : Int).toNat) (ys.length - ((q : Int).toNat)) : Nat) : Int)), fun v_ => v_ = .int .i64 ((q : Int) + ((min ((q : Int).toNat) (ys.length - ((q : Int).toNat)) : Nat) : Int))] [imm (.slice a_xs xs.length c_xs) xs] rfl (by kernel_rfl) rfl H6 ?_ ?_
    ·
      refine ⟨fun f1 w5 V_ rg_ hs0 hp0 hq0 H7 => ?_, ?_⟩
      ·
        have H8 : HI M w w5 ([imm (.slice a_xs xs.length c_xs) xs] ++ rg_) := (by have h_ : HI M w w5 ([imm (.slice a_xs xs.length c_xs) xs] ++ (rg_)) := H7; exact h_)
        refine mv rfl ((hq0 9 _ rfl rfl (by first | exact .inl rfl | exact .inr rfl)).trans s1) ?_
        exact ⟨_, rfl, rfl, H8⟩
      refine ⟨fun f2 w6 V_ rg_ hs1 hp1 hq1 H10 => ?_, ?_⟩
      ·
        have H11 : HI M w w6 ([imm (.slice a_xs xs.length c_xs) xs] ++ rg_) := (by have h_ : HI M w w6 ([imm (.slice a_xs xs.length c_xs) xs] ++ (rg_)) := H10; exact h_)
        refine mv rfl ((hs1 7 rfl).trans s0) ?_
        exact ⟨_, rfl, rfl, H11⟩
      refine ⟨fun f3 w7 V_ rg_ hs2 hp2 hq2 H13 => ?_, ?_⟩
      ·
        have H14 : HI M w w7 ([imm (.slice a_xs xs.length c_xs) xs] ++ rg_) := (by have h_ : HI M w w7 ([imm (.slice a_xs xs.length c_xs) xs] ++ (rg_)) := H13; exact h_)
        refine mv rfl ((hq2 9 _ rfl rfl (by first | exact .inl rfl | exact .inr rfl)).trans s1) ?_
        exact ⟨_, rfl, rfl, H14⟩
      refine ⟨fun f4 w8 V_ rg_ hs3 hp3 hq3 H16 => ?_, ?_⟩
      ·
        obtain ⟨e0, q0⟩ := hp3 1 _ rfl rfl rfl
        have e1 : V_ 1 = .slice (some ⟨g0, 0, none⟩) ((BitVec.ofInt 64 n).toNat) ((BitVec.ofInt 64 n).toNat) := q0
        have s2 : f4 39 = .slice (some ⟨g0, 0, none⟩) ((BitVec.ofInt 64 n).toNat) ((BitVec.ofInt 64 n).toNat) := e0.trans e1
        obtain ⟨e2, q1⟩ := hp3 2 _ rfl rfl rfl
        have e3 : V_ 2 = .int .i64 (q : Int) := q1
        have s3 : f4 40 = .int .i64 (q : Int) := e2.trans e3
        have H17 : HI M w w8 ([imm (.slice a_xs xs.length c_xs) xs, own w.heap.size 3 (.slice (some ⟨g0, 0, none⟩) ((BitVec.ofInt 64 n).toNat) ((BitVec.ofInt 64 n).toNat)) ys] ++ rg_) := (by have h_ : HI M w w8 ([imm (.slice a_xs xs.length c_xs) xs] ++ ([own w.heap.size 3 (.slice (some ⟨g0, 0, none⟩) ((BitVec.ofInt 64 n).toNat) ((BitVec.ofInt 64 n).toNat)) ys] ++ (rg_))) := H16; exact h_)
        refine slOl (H17.at_ 1 rfl) rfl rfl s2 s3 (by omega) un42 ty3 ?_
        exact ⟨_, rfl, rfl, H17⟩
      refine ⟨fun f5 w9 V_ rg_ hs4 hp4 hq4 H19 => ?_, ?_⟩
      ·
        have H20 : HI M w w9 ([imm (.slice a_xs xs.length c_xs) xs] ++ rg_) := (by have h_ : HI M w w9 ([imm (.slice a_xs xs.length c_xs) xs] ++ (rg_)) := H19; exact h_)
        refine mv rfl ((hs4 7 rfl).trans s0) ?_
        exact ⟨_, rfl, rfl, H20⟩
      refine ⟨fun f6 w10 V_ rg_ hs5 hp5 hq5 H22 => ?_, ?_⟩
      ·
        have H23 : HI M w w10 ([imm (.slice a_xs xs.length c_xs) xs] ++ rg_) := (by have h_ : HI M w w10 ([imm (.slice a_xs xs.length c_xs) xs] ++ (rg_)) := H22; exact h_)
        refine mv rfl ((hq5 9 _ rfl rfl (by first | exact .inl rfl | exact .inr rfl)).trans s1) ?_
        exact ⟨_, rfl, rfl, H23⟩
      refine ⟨fun f7 w11 V_ rg_ hs6 hp6 hq6 H25 => ?_, ?_⟩
      ·
        obtain ⟨e4, q2⟩ := hp6 4 _ rfl rfl rfl
        have e5 : V_ 4 = .slice (some ⟨g0, 0, none⟩) ((BitVec.ofInt 64 n).toNat) ((BitVec.ofInt 64 n).toNat) := q2
        have s4 : f7 42 = .slice (some ⟨g0, 0, none⟩) ((BitVec.ofInt 64 n).toNat) ((BitVec.ofInt 64 n).toNat) := e4.trans e5
        obtain ⟨e6, q3⟩ := hp6 5 _ rfl rfl rfl
        have e7 : V_ 5 = .int .i64 (q : Int) := q3
        have s5 : f7 43 = .int .i64 (q : Int) := e6.trans e7
        have H26 : HI M w w11 ([imm (.slice a_xs xs.length c_xs) xs, own w.heap.size 3 (.slice (some ⟨g0, 0, none⟩) ((BitVec.ofInt 64 n).toNat) ((BitVec.ofInt 64 n).toNat)) ys] ++ rg_) := (by have h_ : HI M w w11 ([imm (.slice a_xs xs.length c_xs) xs] ++ ([own w.heap.size 3 (.slice (some ⟨g0, 0, none⟩) ((BitVec.ofInt 64 n).toNat) ((BitVec.ofInt 64 n).toNat)) ys] ++ (rg_))) := H25; exact h_)
        refine slOh (H26.at_ 1 rfl) rfl rfl s4 s5 (by omega) un42 ty3 ?_
        exact ⟨_, rfl, rfl, H26⟩
      refine ⟨fun f8 w12 V_ rg_ hs7 hp7 hq7 H28 => ?_, ?_⟩
      ·
        obtain ⟨e8, q4⟩ := hp7 3 _ rfl rfl rfl
        have e9 : V_ 3 = .slice (cutA (some ⟨g0, 0, none⟩) ((BitVec.ofInt 64 n).toNat) (q : Int).toNat) (((BitVec.ofInt 64 n).toNat) - (q : Int).toNat) ((BitVec.ofInt 64 n).toNat - (q : Int).toNat) := q4
        have s6 : f8 41 = .slice (cutA (some ⟨g0, 0, none⟩) ((BitVec.ofInt 64 n).toNat) (q : Int).toNat) (((BitVec.ofInt 64 n).toNat) - (q : Int).toNat) ((BitVec.ofInt 64 n).toNat - (q : Int).toNat) := e8.trans e9
        obtain ⟨e10, q5⟩ := hp7 6 _ rfl rfl rfl
        have e11 : V_ 6 = .slice (cutA (some ⟨g0, 0, none⟩) ((BitVec.ofInt 64 n).toNat) 0) ((q : Int).toNat) (BitVec.ofInt 64 n).toNat := q5
        have s7 : f8 44 = .slice (cutA (some ⟨g0, 0, none⟩) ((BitVec.ofInt 64 n).toNat) 0) ((q : Int).toNat) (BitVec.ofInt 64 n).toNat := e10.trans e11
        have H29 : HI M w w12 ([imm (.slice a_xs xs.length c_xs) xs, own w.heap.size 3 (.slice (some ⟨g0, 0, none⟩) ((BitVec.ofInt 64 n).toNat) ((BitVec.ofInt 64 n).toNat)) ys] ++ rg_) := (by have h_ : HI M w w12 ([imm (.slice a_xs xs.length c_xs) xs] ++ ([own w.heap.size 3 (.slice (some ⟨g0, 0, none⟩) ((BitVec.ofInt 64 n).toNat) ((BitVec.ofInt 64 n).toNat)) ys] ++ (rg_))) := H28; exact h_)
        refine cpOs H29 1 rfl rfl rfl rfl (q := (q : Int).toNat) s6 s7 un42 ty3 (by omega) ?_
        intro w13 (H30 : HI M w w13 ([imm (.slice a_xs xs.length c_xs) xs, own w.heap.size 3 (.slice (some ⟨g0, 0, none⟩) ((BitVec.ofInt 64 n).toNat) ((BitVec.ofInt 64 n).toNat)) (cpyL ys ((q : Int).toNat))] ++ rg_))
        exact ⟨_, rfl, rfl, H30⟩
      refine ⟨fun f9 w14 V_ rg_ hs8 hp8 hq8 H32 => ?_, ?_⟩
      ·
        obtain ⟨e12, q6⟩ := hp8 0 _ rfl rfl rfl
        have e13 : V_ 0 = .int .i64 (q : Int) := q6
        have s8 : f9 38 = .int .i64 (q : Int) := e12.trans e13
        obtain ⟨e14, q7⟩ := hp8 7 _ rfl rfl rfl
        have e15 : V_ 7 = .int .i64 ((min ((q : Int).toNat) (ys.length - ((q : Int).toNat)) : Nat) : Int) := q7
        have s9 : f9 45 = .int .i64 ((min ((q : Int).toNat) (ys.length - ((q : Int).toNat)) : Nat) : Int) := e14.trans e15
        have H33 : HI M w w14 ([imm (.slice a_xs xs.length c_xs) xs] ++ rg_) := (by have h_ : HI M w w14 ([imm (.slice a_xs xs.length c_xs) xs] ++ (rg_)) := H32; exact h_)
        refine add rfl rfl s8 s9 (by first | assumption | (unfold I64 at *; omega)) ?_
        exact ⟨_, rfl, rfl, H33⟩
      refine ⟨fun f10 w15 V_ rg_ hs9 hp9 hq9 H35 => ?_, ?_⟩
      ·
        obtain ⟨e16, q8⟩ := hp9 8 _ rfl rfl rfl
        have e17 : V_ 8 = .int .i64 ((q : Int) + ((min ((q : Int).toNat) (ys.length - ((q : Int).toNat)) : Nat) : Int)) := q8
        have s10 : f10 46 = .int .i64 ((q : Int) + ((min ((q : Int).toNat) (ys.length - ((q : Int).toNat)) : Nat) : Int)) := e16.trans e17
        have H36 : HI M w w15 ([imm (.slice a_xs xs.length c_xs) xs] ++ rg_) := (by have h_ : HI M w w15 ([imm (.slice a_xs xs.length c_xs) xs] ++ (rg_)) := H35; exact h_)
        refine asg rfl s10 ?_
        exact ⟨_, rfl, rfl, H36⟩
      exact trivial
    · intro f11 w16 V_ hs10 hp10 H38
      obtain ⟨e18, q9⟩ := hp10 9 _ rfl rfl
      have e19 : V_ 9 = .int .i64 ((q : Int) + ((min ((q : Int).toNat) (ys.length - ((q : Int).toNat)) : Nat) : Int)) := q9
      have s11 : f11 8 = .int .i64 ((q : Int) + ((min ((q : Int).toNat) (ys.length - ((q : Int).toNat)) : Nat) : Int)) := e18.trans e19
      obtain ⟨e20, q10⟩ := hp10 7 _ rfl rfl
      have e21 : V_ 7 = .int .i64 ((min ((q : Int).toNat) (ys.length - ((q : Int).toNat)) : Nat) : Int) := q10
      have s12 : f11 45 = .int .i64 ((min ((q : Int).toNat) (ys.length - ((q : Int).toNat)) : Nat) : Int) := e20.trans e21
      have s13 : f11 7 = .slice (some ⟨g0, 0, none⟩) ((BitVec.ofInt 64 n).toNat) ((BitVec.ofInt 64 n).toNat) := (hs10 7 rfl).trans s0
      have H39 : HI M w w16 [imm (.slice a_xs xs.length c_xs) xs, own w.heap.size 3 (.slice (some ⟨g0, 0, none⟩) ((BitVec.ofInt 64 n).toNat) ((BitVec.ofInt 64 n).toNat)) (cpyL ys ((q : Int).toNat))] := (by have h_ : HI M w w16 ([imm (.slice a_xs xs.length c_xs) xs] ++ ([] ++ ([] ++ ([] ++ ([] ++ ([] ++ ([] ++ ([] ++ ([own w.heap.size 3 (.slice (some ⟨g0, 0, none⟩) ((BitVec.ofInt 64 n).toNat) ((BitVec.ofInt 64 n).toNat)) (cpyL ys ((q : Int).toNat))] ++ ([] ++ ([] ++ ([])))))))))))) := H38; exact h_)
      refine inb_normal ?_
      have H40 : HI M w w16 [own w.heap.size 3 (.slice (some ⟨g0, 0, none⟩) ((BitVec.ofInt 64 n).toNat) ((BitVec.ofInt 64 n).toNat)) (cpyL ys ((q : Int).toNat)), imm (.slice a_xs xs.length c_xs) xs] := H39.pickN [1, 0] (by decide) rfl
      refine loopN _ ?_ ⟨(q + min q (ys.length - q)), (cpyL ys ((q : Int).toNat)), rfl, s13, (ieq s11 (by omega)), H40, (by first | assumption | omega | simp | (simp; omega)), (by exact (cpyL_len (by omega)).trans hl_), (by exact rep_step hs hl_ (by omega))⟩
      omega
  ·
    have p0 := of_decide_eq_false b0
    refine ex (then_exit (loop_exit (inb_here (nx (sq (rg (k (mv rfl s0 (k (asg (v := .slice (some ⟨g0, 0, none⟩) ((BitVec.ofInt 64 n).toNat) ((BitVec.ofInt 64 n).toNat)) rfl rfl (z (nx (rt (r1 rfl rfl ?_))))))))))))))
    have e0 : (ys : List Int) = List.replicate n.toNat (xs.headD 0) := by exact rep_end hs hl_ (by omega) (by omega)
    have l0 : ((BitVec.ofInt 64 n).toNat) = (List.replicate n.toNat (xs.headD 0)).length := by rw [List.length_replicate, hb_]
    have ev_ := cg1 (fun (n_0 : Nat) => (.slice (some ⟨g0, 0, none⟩) n_0 ((BitVec.ofInt 64 n).toNat) : Value)) l0
    exact ⟨(some ⟨g0, 0, none⟩), ((BitVec.ofInt 64 n).toNat), ev_, H4.below, (congrArg (fun (n_ : Nat) => OwnsG _ _ _ (List.replicate n.toNat (xs.headD 0)) (.slice (some ⟨g0, 0, none⟩) n_ ((BitVec.ofInt 64 n).toNat)) _) l0).mp ((congrArg (fun (x_ : List Int) => OwnsG _ _ _ x_ (.slice (some ⟨g0, 0, none⟩) ((BitVec.ofInt 64 n).toNat) ((BitVec.ofInt 64 n).toNat)) _) e0).mp (H4.ownsG_out 0 rfl))⟩
end Go.Proofs.YtmhopljngkgidaaDoor
namespace Go.Proofs.YtmhopljngkgidaaDoor
open Go.Ew Go.RowKit
set_option linter.unusedVariables false
set_option linter.unusedSimpArgs false
attribute [local irreducible] WL WC SO Code.wp wpList retQ Ret
attribute [local irreducible] bitB hasW inR hasR setR countW countR subR words newR listR orR firstW tab8
theorem go80 : GoF Tryd.prog 80 := ⟨_, _, Tryd.func80, rfl, by kernel_rfl⟩
theorem go81 : GoF Tryd.prog 81 := ⟨_, _, Tryd.func81, rfl, by kernel_rfl⟩
set_option maxRecDepth 100000 in
set_option maxHeartbeats 1600000 in
theorem path_Find {M : Nat → Prop} {w : World} {mn : Int} {a_mr : Option Addr} {c_mr : Nat} {mr : List (List (BitVec 64))} {i : Int} {j : Int} (hM : ∀ b, M b → b < w.heap.size) (hT : TabAt 0 w) (h_mn : I64 mn) (h_mr : RV M w (.slice a_mr mr.length c_mr) mr) (h_i : I64 i) (h_j : I64 j) (rt_m : rightS mn mr = true) : Calls Tryd.prog 38 #[.agg #[.int .i64 mn, .slice a_mr mr.length c_mr], .int .i64 i, .int .i64 j] w (Ret fun v w' => ∃ (a0 : Option Addr) (c0 : Nat), v = .tuple #[.slice a0 ((pathM mn mr i j).getD []).length c0, .bool ((pathM mn mr i j).isSome)] ∧ Ext w w' ∧ OwnsG M 3 w ((pathM mn mr i j).getD []) (.slice a0 ((pathM mn mr i j).getD []).length c0) w') := by
  refine enter 80 Tryd.func38 rfl rfl rfl fun f0 ha => ?_
  have H := HI.start (M0 := M) (w := w) hM
  have H0 := H.put (it := imm (.slice a_mr mr.length c_mr) mr) rfl (by rw [MS_nil]; exact h_mr)
  have ln_mr := rv_len h_mr
  have i0 : f0 0 = .agg #[.int .i64 mn, .slice a_mr mr.length c_mr] := ha 0 (by simp)
  have i1 : f0 1 = .int .i64 i := ha 1 (by simp)
  have i2 : f0 2 = .int .i64 j := ha 2 (by simp)
  have hl_ := (right_sq rt_m).1; have h4_ := (right_sq rt_m).2.2.1; have h0_ := right_pos rt_m
  refine sq (rg (k (bx H0 rfl i0 ?_)))
  intro bb0 w0 xt0 (H1 : HI M w w0 [box bb0 #[.int .i64 mn, .slice a_mr mr.length c_mr] 24, imm (.slice a_mr mr.length c_mr) mr])
  refine k (asg (v := .slice none 0 0) rfl rfl (k (asg (v := .bool false) rfl rfl (z (nx (sq (sq (rg (k (mv rfl i1 (k (lss rfl rfl rfl rfl (k (mv (v := .bool (decide (i < 0))) rfl rfl ?_))))))))))))))
  rcases Bool.eq_false_or_eq_true (decide (i < 0)) with b0 | b0
  · -- decide (i < 0) is True
    have p0 := of_decide_eq_true b0
    refine k (gn rfl rfl rfl b0 (k (gn rfl rfl rfl b0 (k (gn rfl rfl rfl b0 (k (gn rfl rfl rfl b0 (k (pickT rfl rfl rfl rfl b0 rfl (k (mv (v := .bool true) rfl rfl (k (gn rfl rfl rfl rfl (k (gn rfl rfl rfl rfl (k (pickT rfl rfl rfl rfl rfl rfl (k (mv (v := .bool true) rfl rfl (k (gn rfl rfl rfl rfl (k (gn rfl rfl rfl rfl (k (gn rfl rfl rfl rfl (k (gn rfl rfl rfl rfl (k (pickT rfl rfl rfl rfl rfl rfl (z (nx (cdT rfl rfl rfl (sq (rg (k (asg (v := .slice none 0 0) rfl rfl (k (asg (v := .bool false) rfl rfl (z (nx (rt (then_ret (r2 rfl rfl rfl ?_)))))))))))))))))))))))))))))))))))))))))))
    have e0 : ([] : List Int) = (pathM mn mr i j).getD [] := by first | (rw [path_no (by omega)]; done) | (rw [path_no (by omega)]; rfl) | (rw [path_in (by omega), hw2_]; first | exact hw3_ | rfl) | (rw [path_in (by omega), bfh_end hs (td_none (by assumption))]; try rfl)
    have e1 : (false : Bool) = (pathM mn mr i j).isSome := by first | (rw [path_no (by omega)]; done) | (rw [path_no (by omega)]; rfl) | (rw [path_in (by omega), hw2_]; first | exact hw3_ | rfl) | (rw [path_in (by omega), bfh_end hs (td_none (by assumption))]; try rfl)
    have ev_ := cg2 (fun (x_0 : List Int) (x_1 : Bool) => (.tuple #[.slice none x_0.length 0, .bool x_1] : Value)) e0 e1
    exact ⟨none, 0, ev_, H1.below, (congrArg (fun (x_ : List Int) => OwnsG _ _ _ x_ (.slice none x_.length 0) _) e0).mp (ownsG_nil H1.below)⟩
  · -- decide (i < 0) is False
    have p0 := of_decide_eq_false b0
    refine k (gy rfl rfl rfl b0 (mv rfl i1 (k (gy rfl rfl rfl b0 (fa fl24_0 rfl rfl (k (gy rfl rfl rfl b0 (ldX H1 0 rfl ty3 rfl rfl (by decide) rfl (k (gy rfl rfl rfl b0 (geq rfl rfl rfl rfl (k (pickF rfl rfl rfl rfl b0 rfl (k (mv (v := .bool (decide (mn ≤ i))) rfl rfl ?_)))))))))))))))
    rcases Bool.eq_false_or_eq_true (decide (mn ≤ i)) with b1 | b1
    · -- decide (mn ≤ i) is True
      have p1 := of_decide_eq_true b1
      refine k (gn rfl rfl rfl b1 (k (gn rfl rfl rfl b1 (k (pickT rfl rfl rfl rfl b1 rfl (k (mv (v := .bool true) rfl rfl (k (gn rfl rfl rfl rfl (k (gn rfl rfl rfl rfl (k (gn rfl rfl rfl rfl (k (gn rfl rfl rfl rfl (k (pickT rfl rfl rfl rfl rfl rfl (z (nx (cdT rfl rfl rfl (sq (rg (k (asg (v := .slice none 0 0) rfl rfl (k (asg (v := .bool false) rfl rfl (z (nx (rt (then_ret (r2 rfl rfl rfl ?_)))))))))))))))))))))))))))))))
      have e0 : ([] : List Int) = (pathM mn mr i j).getD [] := by first | (rw [path_no (by omega)]; done) | (rw [path_no (by omega)]; rfl) | (rw [path_in (by omega), hw2_]; first | exact hw3_ | rfl) | (rw [path_in (by omega), bfh_end hs (td_none (by assumption))]; try rfl)
      have e1 : (false : Bool) = (pathM mn mr i j).isSome := by first | (rw [path_no (by omega)]; done) | (rw [path_no (by omega)]; rfl) | (rw [path_in (by omega), hw2_]; first | exact hw3_ | rfl) | (rw [path_in (by omega), bfh_end hs (td_none (by assumption))]; try rfl)
      have ev_ := cg2 (fun (x_0 : List Int) (x_1 : Bool) => (.tuple #[.slice none x_0.length 0, .bool x_1] : Value)) e0 e1
      exact ⟨none, 0, ev_, H1.below, (congrArg (fun (x_ : List Int) => OwnsG _ _ _ x_ (.slice none x_.length 0) _) e0).mp (ownsG_nil H1.below)⟩
    · -- decide (mn ≤ i) is False
      have p1 := of_decide_eq_false b1
      refine k (gy rfl rfl rfl b1 (mv rfl i2 (k (gy rfl rfl rfl b1 (lss rfl rfl rfl rfl (k (pickF rfl rfl rfl rfl b1 rfl (k (mv (v := .bool (decide (j < 0))) rfl rfl ?_)))))))))
      rcases Bool.eq_false_or_eq_true (decide (j < 0)) with b2 | b2
      · -- decide (j < 0) is True
        have p2 := of_decide_eq_true b2
        refine k (gn rfl rfl rfl b2 (k (gn rfl rfl rfl b2 (k (gn rfl rfl rfl b2 (k (gn rfl rfl rfl b2 (k (pickT rfl rfl rfl rfl b2 rfl (z (nx (cdT rfl rfl rfl (sq (rg (k (asg (v := .slice none 0 0) rfl rfl (k (asg (v := .bool false) rfl rfl (z (nx (rt (then_ret (r2 rfl rfl rfl ?_)))))))))))))))))))))))
        have e0 : ([] : List Int) = (pathM mn mr i j).getD [] := by first | (rw [path_no (by omega)]; done) | (rw [path_no (by omega)]; rfl) | (rw [path_in (by omega), hw2_]; first | exact hw3_ | rfl) | (rw [path_in (by omega), bfh_end hs (td_none (by assumption))]; try rfl)
        have e1 : (false : Bool) = (pathM mn mr i j).isSome := by first | (rw [path_no (by omega)]; done) | (rw [path_no (by omega)]; rfl) | (rw [path_in (by omega), hw2_]; first | exact hw3_ | rfl) | (rw [path_in (by omega), bfh_end hs (td_none (by assumption))]; try rfl)
        have ev_ := cg2 (fun (x_0 : List Int) (x_1 : Bool) => (.tuple #[.slice none x_0.length 0, .bool x_1] : Value)) e0 e1
        exact ⟨none, 0, ev_, H1.below, (congrArg (fun (x_ : List Int) => OwnsG _ _ _ x_ (.slice none x_.length 0) _) e0).mp (ownsG_nil H1.below)⟩
      · -- decide (j < 0) is False
        have p2 := of_decide_eq_false b2
        refine k (gy rfl rfl rfl b2 (mv rfl i2 (k (gy rfl rfl rfl b2 (fa fl24_0 rfl rfl (k (gy rfl rfl rfl b2 (ldX H1 0 rfl ty3 rfl rfl (by decide) rfl (k (gy rfl rfl rfl b2 (geq rfl rfl rfl rfl (k (pickF rfl rfl rfl rfl b2 rfl (z (nx ?_)))))))))))))))
        refine cd (b := decide (mn ≤ j)) rfl rfl (fun b3 => ?_) (fun b3 => ?_)
        ·
          have p3 := of_decide_eq_true b3
          refine sq (rg (k (asg (v := .slice none 0 0) rfl rfl (k (asg (v := .bool false) rfl rfl (z (nx (rt (then_ret (r2 rfl rfl rfl ?_))))))))))
          have e0 : ([] : List Int) = (pathM mn mr i j).getD [] := by first | (rw [path_no (by omega)]; done) | (rw [path_no (by omega)]; rfl) | (rw [path_in (by omega), hw2_]; first | exact hw3_ | rfl) | (rw [path_in (by omega), bfh_end hs (td_none (by assumption))]; try rfl)
          have e1 : (false : Bool) = (pathM mn mr i j).isSome := by first | (rw [path_no (by omega)]; done) | (rw [path_no (by omega)]; rfl) | (rw [path_in (by omega), hw2_]; first | exact hw3_ | rfl) | (rw [path_in (by omega), bfh_end hs (td_none (by assumption))]; try rfl)
          have ev_ := cg2 (fun (x_0 : List Int) (x_1 : Bool) => (.tuple #[.slice none x_0.length 0, .bool x_1] : Value)) e0 e1
          exact ⟨none, 0, ev_, H1.below, (congrArg (fun (x_ : List Int) => OwnsG _ _ _ x_ (.slice none x_.length 0) _) e0).mp (ownsG_nil H1.below)⟩
        ·
          have p3 := of_decide_eq_false b3
          refine sk (nx (sq (rg (k (bs (xs := ([(-1)] : List Int)) (cells := #[.int .i64 (-1)]) (e := 3) H1 rfl (pbc rfl pb0) (fun _ => by kernel_rfl) ⟨[.int .i64 (-1)], [], rfl, ⟨rfl, (show I64 ((-1)) from (by unfold I64 at *; omega))⟩, rfl⟩ rfl (by unfold maxLen; omega) ?_)))))
          intro g0 w1 xt1 (H2 : HI M w w1 [own w.heap.size 3 (.slice (some ⟨g0, 0, none⟩) 1 1) ([(-1)] : List Int), box bb0 #[.int .i64 mn, .slice a_mr mr.length c_mr] 24, imm (.slice a_mr mr.length c_mr) mr])
          refine k (fa fl24_0 rfl rfl (k (ldX H2 1 rfl ty3 rfl rfl (by decide) rfl (k ?_))))
          have H3 := H2.freeze 0 rfl
          have cc0 := repeat_int (xs := ([(-1)] : List Int)) (n := mn) (w := w1) H3.mb (H3.rv 0 rfl) (by unfold I64 at *; omega) (by rfl) (by first | omega | (simp; omega)) (by exact (right_sq rt_m).2.2.1)
          refine ca go80 rfl (ec rfl (ec rfl e0)) cc0 ?_
          rintro _ w2 ⟨a0, c0, rfl, xt2, rv0⟩
          have H4 := H3.ownsG rv0
          refine k (asg (v := .slice a0 (List.replicate mn.toNat (([(-1)] : List Int).headD 0)).length c0) rfl rfl (z (nx (sq ?_))))
          have hn_ : ((mn.toNat : Nat) : Int) = mn := Int.toNat_of_nonneg h0_
          refine rg (k (mv rfl i1 (k (bs (xs := ([i] : List Int)) (cells := #[.int .i64 i]) (e := 3) H4 rfl (pbc rfl pb0) (fun _ => by kernel_rfl) ⟨[.int .i64 i], [], rfl, ⟨rfl, (show I64 (i) from (by unfold I64 at *; omega))⟩, rfl⟩ rfl (by unfold maxLen; omega) ?_))))
          intro g1 w3 xt3 (H5 : HI M w w3 [own w.heap.size 3 (.slice (some ⟨g1, 0, none⟩) 1 1) ([i] : List Int), own w.heap.size 3 (.slice a0 (List.replicate mn.toNat (([(-1)] : List Int).headD 0)).length c0) (List.replicate mn.toNat (([(-1)] : List Int).headD 0)), imm (.slice (some ⟨g0, 0, none⟩) 1 1) ([(-1)] : List Int), box bb0 #[.int .i64 mn, .slice a_mr mr.length c_mr] 24, imm (.slice a_mr mr.length c_mr) mr])
          refine k (asg (v := .slice (some ⟨g1, 0, none⟩) 1 1) rfl rfl (z (nx (sq (bk ?_)))))
          have H6 : HI M w w3 [ownQ w.heap.size 3 (.slice (some ⟨g1, 0, none⟩) 1 1) ([i] : List Int), own w.heap.size 3 (.slice a0 (List.replicate mn.toNat (([(-1)] : List Int).headD 0)).length c0) (List.replicate mn.toNat (([(-1)] : List Int).headD 0)), imm (.slice (some ⟨g0, 0, none⟩) 1 1) ([(-1)] : List Int), box bb0 #[.int .i64 mn, .slice a_mr mr.length c_mr] 24, imm (.slice a_mr mr.length c_mr) mr] := H5.toQ 0 rfl
          refine lp (fun m f w' => ∃ (bs1 : List Int) (td : List Int) (a1 : Option Addr) (c1 : Nat), m = bs1.count (-1) + td.length ∧ f 1 = .int .i64 i ∧ f 2 = .int .i64 j ∧ f 3 = .pointer (some ⟨bb0, 0, none⟩) ∧ f 8 = .slice a0 (List.replicate mn.toNat (([(-1)] : List Int).headD 0)).length c0 ∧ f 9 = .slice a1 td.length c1 ∧  HI M w w' [ownQ w.heap.size 3 (.slice a1 td.length c1) td, own w.heap.size 3 (.slice a0 (List.replicate mn.toNat (([(-1)] : List Int).headD 0)).length c0) bs1, imm (.slice (some ⟨g0, 0, none⟩) 1 1) ([(-1)] : List Int), box bb0 #[.int .i64 mn, .slice a_mr mr.length c_mr] 24, imm (.slice a_mr mr.length c_mr) mr] ∧ (Bfh mn.toNat (relM mr) i j bs1 td) ∧ (bs1.length = mn.toNat) ∧ (bs1.count (-1) + td.length ≤ mn.toNat + 1)) _ ⟨(List.replicate mn.toNat (([(-1)] : List Int).headD 0)), [i], (some ⟨g1, 0, none⟩), 1, rfl, i1, i2, rfl, rfl, rfl, H6, (by exact bfh_start (by omega) (by omega)), (by simp), (by simp [List.count_replicate_self])⟩ ?_
          rintro _ f0 w4 ⟨bs1, td, a1, c1, rfl, s0, s1, s2, s3, s4, H7, hs, hl, hz_⟩
          refine sq (sq (rg (k (mv rfl s4 (k (lnS rfl rfl un42 (k (gtr rfl rfl rfl rfl (z (nx ?_))))))))))
          refine cd (b := decide (0 < (td.length : Int))) rfl rfl (fun b4 => ?_) (fun b4 => ?_)
          ·
            have p4 := of_decide_eq_true b4
            refine sk (nx (bk (sq (rg (k (mv rfl s4 (k (iaQ (H7.at_ 0 rfl) rfl rfl rfl rfl (by first | omega | (simp; omega)) un42 ty3 ?_))))))))
            intro ad0 x0 hx0 hA0
            refine k (ldI hA0 ty3 rfl rfl ?_)
            intro rv1
            refine k (asg (v := .int .i64 x0) rfl rfl (z (nx (sq ?_))))
            have hat_ := bfh_at (by omega) hs hx0
            refine rg (k (mv rfl s4 (k (slQ H7 0 rfl rfl rfl rfl rfl (by first | omega | (simp; omega)) un42 ty3 ?_))))
            intro a2 c2 (H8 : HI M w w4 [ownQ w.heap.size 3 (.slice a2 (td.drop 1).length c2) (td.drop 1), own w.heap.size 3 (.slice a0 (List.replicate mn.toNat (([(-1)] : List Int).headD 0)).length c0) bs1, imm (.slice (some ⟨g0, 0, none⟩) 1 1) ([(-1)] : List Int), box bb0 #[.int .i64 mn, .slice a_mr mr.length c_mr] 24, imm (.slice a_mr mr.length c_mr) mr])
            refine k (asg (v := .slice a2 (td.drop 1).length c2) rfl rfl (z (nx (sq (rg (k (fa fl24_1 rfl s2 (k (ldX H8 3 rfl ty22 rfl rfl (by decide) rfl (k (mv (v := .int .i64 x0) rfl rfl (k (ia (H8.rv 4 rfl) rfl rfl rfl rfl (by first | omega | (simp; omega)) un22 ty73 ?_)))))))))))))
            intro ad1 x1 hx1 hA1
            refine k (ldL hA1.w ty73 rfl rfl ?_)
            intro a3 c3 rv2
            have ln0 := rv_len rv2
            have H9 := H8.put (it := imm (.slice a3 x1.length c3) x1) rfl rv2
            refine k ?_
            have cc1 := row_List (r := x1) (w := w4) H9.mb (hT.ext H9.below) (H9.rv 0 rfl) (by exact (right_sq rt_m).2.1 _ (List.mem_of_getElem? hx1))
            refine ca go64 rfl (ec rfl e0) cc1 ?_
            rintro _ w5 ⟨a4, c4, rfl, xt4, rv3⟩
            have H10 := H9.ownsG rv3
            refine k (lnS rfl rfl un42 (k (mv (v := .int .i64 0) rfl rfl (z (nx (bk ?_))))))
            refine lp (fun m f w' => ∃ (q : Nat) (b2 : List Int) (td2 : List Int) (a5 : Option Addr) (c5 : Nat), m = (listR x1).length - q ∧ f 1 = .int .i64 i ∧ f 2 = .int .i64 j ∧ f 3 = .pointer (some ⟨bb0, 0, none⟩) ∧ f 8 = .slice a0 (List.replicate mn.toNat (([(-1)] : List Int).headD 0)).length c0 ∧ f 9 = .slice a5 td2.length c5 ∧ f 10 = .int .i64 x0 ∧ f 50 = .slice a4 (listR x1).length c4 ∧ f 51 = .int .i64 ((listR x1).length : Int) ∧ f 52 = .int .i64 (q : Int) ∧  HI M w w' [own w.heap.size 3 (.slice a4 (listR x1).length c4) (listR x1), imm (.slice a3 x1.length c3) x1, ownQ w.heap.size 3 (.slice a5 td2.length c5) td2, own w.heap.size 3 (.slice a0 (List.replicate mn.toNat (([(-1)] : List Int).headD 0)).length c0) b2, imm (.slice (some ⟨g0, 0, none⟩) 1 1) ([(-1)] : List Int), box bb0 #[.int .i64 mn, .slice a_mr mr.length c_mr] 24, imm (.slice a_mr mr.length c_mr) mr] ∧ (q ≤ (listR x1).length) ∧ (Bfq mn.toNat (relM mr) i j b2 td2 x0 q) ∧ (b2.length = mn.toNat) ∧ (b2.count (-1) + td2.length ≤ bs1.count (-1) + (td.drop 1).length)) _ ⟨0, bs1, (td.drop 1), a2, c2, rfl, s0, s1, s2, s3, rfl, rfl, rfl, rfl, (ieq rfl (by first | rfl | omega | simp)), H10, (by first | assumption | omega | simp | (simp; omega)), (by exact bfh_pop (by omega) hs hx0), (by exact hl), (by first | assumption | omega | simp | (simp; omega))⟩ ?_
            rintro _ f1 w6 ⟨q, b2, td2, a5, c5, rfl, s5, s6, s7, s8, s9, s10, s11, s12, s13, H11, hq_, hs2, hl2, hz2_⟩
            refine sq (rg (k (lss rfl rfl s13 s12 (z (nx (sq ?_))))))
            refine cd (b := decide ((q : Int) < ((listR x1).length : Int))) rfl rfl (fun b5 => ?_) (fun b5 => ?_)
            ·
              have p5 := of_decide_eq_true b5
              refine sk (nx (sq (bk (sq (rg (k (iaO (H11.at_ 0 rfl) rfl rfl s11 s13 (by have h_ := listR_length x1; have h2_ := (right_sq rt_m).2.2.2.2 _ (List.mem_of_getElem? hx1); first | omega | (unfold I64; omega)) un42 ty3 ?_)))))))
              intro g2 x2 hv0 hx2 hA2
              refine k (ldI hA2 ty3 rfl rfl ?_)
              intro rv4
              refine k (asg (v := .int .i64 x2) rfl rfl (z (nx (sq (sq ?_)))))
              have hj_ := right_bit rt_m hx1 hx2
              refine rg (k (mv rfl s8 (k (mv (v := .int .i64 x2) rfl rfl (k (iaO (H11.at_ 3 rfl) rfl rfl rfl rfl (by first | omega | (simp; omega)) un42 ty3 ?_))))))
              intro g3 x3 hv1 hx3 hA3
              refine k (ldI hA3 ty3 rfl rfl ?_)
              intro rv5
              refine k (neq rfl rfl rfl rfl (z (nx ?_)))
              refine cd (b := !decide (x3 = (-1))) rfl rfl (fun b6 => ?_) (fun b6 => ?_)
              ·
                have p6 := of_decide_eq_false (nott b6)
                refine ex (then_exit (inb_here (nx (rg (k (add rfl rfl s13 rfl (by have h_ := listR_length x1; have h2_ := (right_sq rt_m).2.2.2.2 _ (List.mem_of_getElem? hx1); first | omega | (unfold I64; omega)) (k (mv (v := .int .i64 ((q : Int) + 1)) rfl rfl (z ?_)))))))))
                refine loopN _ ?_ ⟨(q + 1), b2, td2, a5, c5, rfl, s5, s6, s7, s8, s9, s10, s11, s12, (ieq rfl (by first | rfl | omega | (push_cast; omega))), H11, (by first | assumption | omega | simp | (simp; omega)), (by first | exact bfq_skip hs2 (by rw [← row_lst rt_m hx1]; exact hx2) hx3 (by omega) | exact bfq_push hs2 (by rw [← row_lst rt_m hx1]; exact hx2) hx3 (by omega) (by assumption) (by assumption) (by omega) (by omega) | exact bfq_i hs2 (by rw [← row_lst rt_m hx1]; exact hx2) hx3 (by omega) (by assumption) (by omega) (by omega)), (by first | exact hl2 | (rw [List.length_set]; exact hl2)), (by first | exact hz2_ | exact (neg_countI hx3 (by omega) (by omega) hz2_).2 | exact (neg_countI hx3 (by omega) (by omega) hz2_).1)⟩
                omega
              ·
                have p6 := of_decide_eq_true (notf b6)
                refine sk (nx (sq (rg (k (mv rfl s8 (k (mv (v := .int .i64 x2) rfl rfl (k (mv rfl s10 (k (iaO (H11.at_ 3 rfl) rfl rfl rfl rfl (by first | omega | (simp; omega)) un42 ty3 ?_)))))))))))
                intro g4 x4 hv2 hx4 hA4
                refine k (stO H11 3 rfl hv2 rfl (by first | omega | (simp; omega)) ty3 rfl rfl rfl rfl (RV.int.2 ⟨rfl, (by unfold I64 at *; omega)⟩) ?_)
                intro w7 (H12 : HI M w w7 [own w.heap.size 3 (.slice a4 (listR x1).length c4) (listR x1), imm (.slice a3 x1.length c3) x1, ownQ w.heap.size 3 (.slice a5 td2.length c5) td2, own w.heap.size 3 (.slice a0 (List.replicate mn.toNat (([(-1)] : List Int).headD 0)).length c0) (b2.set x2.toNat x0), imm (.slice (some ⟨g0, 0, none⟩) 1 1) ([(-1)] : List Int), box bb0 #[.int .i64 mn, .slice a_mr mr.length c_mr] 24, imm (.slice a_mr mr.length c_mr) mr])
                refine z (nx (sq (sq (rg (k (mv (v := .int .i64 x2) rfl rfl (k (mv rfl s6 (k (eql rfl rfl rfl rfl (z (nx ?_))))))))))))
                refine cd (b := decide (x2 = j)) rfl rfl (fun b7 => ?_) (fun b7 => ?_)
                ·
                  have p7 := of_decide_eq_true b7
                  refine sq ?_
                  obtain ⟨w_, hw1_, hw2_⟩ := bfq_found ⟨by omega, by omega⟩ hs2 (by rw [← row_lst rt_m hx1]; exact hx2) hx3 (by omega) (by assumption) (by omega)
                  have hw3_ := bkW_eq hw1_
                  refine rg (k (mv rfl s8 (k (mv rfl s5 (k (mv rfl s6 (k ?_)))))))
                  have el0 : ((List.replicate mn.toNat (([(-1)] : List Int).headD 0)).length : Nat) = (b2.set x2.toNat x0).length := own_klen (H12.at_ 3 rfl)
                  have H13 : HI M w w7 [own w.heap.size 3 (.slice a4 (listR x1).length c4) (listR x1), imm (.slice a3 x1.length c3) x1, ownQ w.heap.size 3 (.slice a5 td2.length c5) td2, own w.heap.size 3 (.slice a0 (b2.set x2.toNat x0).length c0) (b2.set x2.toNat x0), imm (.slice (some ⟨g0, 0, none⟩) 1 1) ([(-1)] : List Int), box bb0 #[.int .i64 mn, .slice a_mr mr.length c_mr] 24, imm (.slice a_mr mr.length c_mr) mr] := (by have h_ := H12; rw [el0] at h_; exact h_)
                  have H14 := H13.freeze 3 rfl
                  have cc2 := path_back (vb := (b2.set x2.toNat x0)) (i := i) (j := j) (w := w7) H14.mb (H14.rv 3 rfl) (by unfold I64 at *; omega) (by unfold I64 at *; omega) (by rw [hw3_]; exact hw1_) (by have h_ := best_len (bfP_best hw2_) (by omega); rw [hw3_]; unfold natL; rw [List.length_map]; omega)
                  refine ca go81 rfl (ec (Eq.trans (b := (.slice a0 (List.replicate mn.toNat (([(-1)] : List Int).headD 0)).length c0 : Value)) rfl (congrArg (fun n_ => Value.slice a0 n_ c0) el0)) (ec rfl (ec rfl e0))) cc2 ?_
                  rintro _ w8 ⟨a6, c6, rfl, xt5, rv6⟩
                  have H15 := H14.ownsG rv6
                  refine k (asg (v := .slice a6 (bkW (b2.set x2.toNat x0) i j).length c6) rfl rfl (k (asg (v := .bool true) rfl rfl (z (nx (rt (then_ret (inb_ret (then_ret (loop_ret (inb_ret (inb_ret (loop_ret (inb_ret (then_ret (r2 rfl rfl rfl ?_))))))))))))))))
                  have e0 : (bkW (b2.set x2.toNat x0) i j : List Int) = (pathM mn mr i j).getD [] := by first | (rw [path_no (by omega)]; done) | (rw [path_no (by omega)]; rfl) | (rw [path_in (by omega), hw2_]; first | exact hw3_ | rfl) | (rw [path_in (by omega), bfh_end hs (td_none (by assumption))]; try rfl)
                  have e1 : (true : Bool) = (pathM mn mr i j).isSome := by first | (rw [path_no (by omega)]; done) | (rw [path_no (by omega)]; rfl) | (rw [path_in (by omega), hw2_]; first | exact hw3_ | rfl) | (rw [path_in (by omega), bfh_end hs (td_none (by assumption))]; try rfl)
                  have ev_ := cg2 (fun (x_0 : List Int) (x_1 : Bool) => (.tuple #[.slice a6 x_0.length c6, .bool x_1] : Value)) e0 e1
                  exact ⟨a6, c6, ev_, H15.below, (congrArg (fun (x_ : List Int) => OwnsG _ _ _ x_ (.slice a6 x_.length c6) _) e0).mp (H15.ownsG_out 0 rfl)⟩
                ·
                  have p7 := of_decide_eq_false b7
                  refine sk (nx (sq (rg (k (mv (v := .int .i64 x2) rfl rfl (k (mv rfl s5 (k (neq rfl rfl rfl rfl (z (nx ?_)))))))))))
                  refine cd (b := !decide (x2 = i)) rfl rfl (fun b8 => ?_) (fun b8 => ?_)
                  ·
                    have p8 := of_decide_eq_false (nott b8)
                    refine rg (k (mv rfl s9 (k (mv (v := .int .i64 x2) rfl rfl (k (bs (xs := ([x2] : List Int)) (cells := #[.int .i64 x2]) (e := 3) H12 rfl (pbc rfl pb0) (fun _ => by kernel_rfl) ⟨[.int .i64 x2], [], rfl, ⟨rfl, (show I64 (x2) from (by unfold I64 at *; omega))⟩, rfl⟩ rfl (by unfold maxLen; omega) ?_))))))
                    intro g5 w8 xt5 (H13 : HI M w w8 [own w.heap.size 3 (.slice (some ⟨g5, 0, none⟩) 1 1) ([x2] : List Int), own w.heap.size 3 (.slice a4 (listR x1).length c4) (listR x1), imm (.slice a3 x1.length c3) x1, ownQ w.heap.size 3 (.slice a5 td2.length c5) td2, own w.heap.size 3 (.slice a0 (List.replicate mn.toNat (([(-1)] : List Int).headD 0)).length c0) (b2.set x2.toNat x0), imm (.slice (some ⟨g0, 0, none⟩) 1 1) ([(-1)] : List Int), box bb0 #[.int .i64 mn, .slice a_mr mr.length c_mr] 24, imm (.slice a_mr mr.length c_mr) mr])
                    refine k (apQ H13 3 rfl rfl rfl rfl rfl rfl (own_src (H13.at_ 0 rfl)) (by simp) un42 ty3 rfl (by (simp only [List.length_cons, List.length_nil]; have h_ := List.length_drop (l := td) (i := 1); omega)) (by (simp only [List.length_cons, List.length_nil]; have h_ := List.length_drop (l := td) (i := 1); omega)) ?_)
                    intro a6 c6 w9 (H14 : HI M w w9 [own w.heap.size 3 (.slice (some ⟨g5, 0, none⟩) 1 1) ([x2] : List Int), own w.heap.size 3 (.slice a4 (listR x1).length c4) (listR x1), imm (.slice a3 x1.length c3) x1, ownQ w.heap.size 3 (.slice a6 (td2 ++ ([x2] : List Int)).length c6) (td2 ++ ([x2] : List Int)), own w.heap.size 3 (.slice a0 (List.replicate mn.toNat (([(-1)] : List Int).headD 0)).length c0) (b2.set x2.toNat x0), imm (.slice (some ⟨g0, 0, none⟩) 1 1) ([(-1)] : List Int), box bb0 #[.int .i64 mn, .slice a_mr mr.length c_mr] 24, imm (.slice a_mr mr.length c_mr) mr])
                    refine k (asg (v := .slice a6 (td2 ++ ([x2] : List Int)).length c6) rfl rfl (z (inb_normal (nx (rg (k (add rfl rfl s13 rfl (by have h_ := listR_length x1; have h2_ := (right_sq rt_m).2.2.2.2 _ (List.mem_of_getElem? hx1); first | omega | (unfold I64; omega)) (k (mv (v := .int .i64 ((q : Int) + 1)) rfl rfl (z ?_))))))))))
                    have H15 : HI M w w9 [own w.heap.size 3 (.slice a4 (listR x1).length c4) (listR x1), imm (.slice a3 x1.length c3) x1, ownQ w.heap.size 3 (.slice a6 (td2 ++ ([x2] : List Int)).length c6) (td2 ++ ([x2] : List Int)), own w.heap.size 3 (.slice a0 (List.replicate mn.toNat (([(-1)] : List Int).headD 0)).length c0) (b2.set x2.toNat x0), imm (.slice (some ⟨g0, 0, none⟩) 1 1) ([(-1)] : List Int), box bb0 #[.int .i64 mn, .slice a_mr mr.length c_mr] 24, imm (.slice a_mr mr.length c_mr) mr] := H14.pickN [1, 2, 3, 4, 5, 6, 7] (by decide) rfl
                    refine loopN _ ?_ ⟨(q + 1), (b2.set x2.toNat x0), (td2 ++ ([x2] : List Int)), a6, c6, rfl, s5, s6, s7, s8, rfl, s10, s11, s12, (ieq rfl (by first | rfl | omega | (push_cast; omega))), H15, (by first | assumption | omega | simp | (simp; omega)), (by first | exact bfq_skip hs2 (by rw [← row_lst rt_m hx1]; exact hx2) hx3 (by omega) | exact bfq_push hs2 (by rw [← row_lst rt_m hx1]; exact hx2) hx3 (by omega) (by assumption) (by assumption) (by omega) (by omega) | exact bfq_i hs2 (by rw [← row_lst rt_m hx1]; exact hx2) hx3 (by omega) (by assumption) (by omega) (by omega)), (by first | exact hl2 | (rw [List.length_set]; exact hl2)), (by first | exact hz2_ | exact (neg_countI hx3 (by omega) (by omega) hz2_).2 | exact (neg_countI hx3 (by omega) (by omega) hz2_).1)⟩
                    omega
                  ·
                    have p8 := of_decide_eq_true (notf b8)
                    refine sk (inb_normal (nx (rg (k (add rfl rfl s13 rfl (by have h_ := listR_length x1; have h2_ := (right_sq rt_m).2.2.2.2 _ (List.mem_of_getElem? hx1); first | omega | (unfold I64; omega)) (k (mv (v := .int .i64 ((q : Int) + 1)) rfl rfl (z ?_))))))))
                    refine loopN _ ?_ ⟨(q + 1), (b2.set x2.toNat x0), td2, a5, c5, rfl, s5, s6, s7, s8, s9, s10, s11, s12, (ieq rfl (by first | rfl | omega | (push_cast; omega))), H12, (by first | assumption | omega | simp | (simp; omega)), (by first | exact bfq_skip hs2 (by rw [← row_lst rt_m hx1]; exact hx2) hx3 (by omega) | exact bfq_push hs2 (by rw [← row_lst rt_m hx1]; exact hx2) hx3 (by omega) (by assumption) (by assumption) (by omega) (by omega) | exact bfq_i hs2 (by rw [← row_lst rt_m hx1]; exact hx2) hx3 (by omega) (by assumption) (by omega) (by omega)), (by first | exact hl2 | (rw [List.length_set]; exact hl2)), (by first | exact hz2_ | exact (neg_countI hx3 (by omega) (by omega) hz2_).2 | exact (neg_countI hx3 (by omega) (by omega) hz2_).1)⟩
                    omega
            ·
              have p5 := of_decide_eq_false b5
              refine ex (then_exit (loop_exit (inb_here (inb_normal ?_))))
              have H12 : HI M w w6 [ownQ w.heap.size 3 (.slice a5 td2.length c5) td2, own w.heap.size 3 (.slice a0 (List.replicate mn.toNat (([(-1)] : List Int).headD 0)).length c0) b2, imm (.slice (some ⟨g0, 0, none⟩) 1 1) ([(-1)] : List Int), box bb0 #[.int .i64 mn, .slice a_mr mr.length c_mr] 24, imm (.slice a_mr mr.length c_mr) mr] := H11.pickN [2, 3, 4, 5, 6] (by decide) rfl
              refine loopN _ ?_ ⟨b2, td2, a5, c5, rfl, s5, s6, s7, s8, s9, H12, (by exact bfq_next hs2 (by rw [← row_lst rt_m hx1]; omega)), (by exact hl2), (by have h_ := List.length_drop (l := td) (i := 1); omega)⟩
              have h_ := List.length_drop (l := td) (i := 1); omega
          ·
            have p4 := of_decide_eq_false b4
            refine ex (then_exit (loop_exit (inb_here (nx (sq (rg (k (asg (v := .slice none 0 0) rfl rfl (k (asg (v := .bool false) rfl rfl (z (nx (rt (r2 rfl rfl rfl ?_))))))))))))))
            have e0 : ([] : List Int) = (pathM mn mr i j).getD [] := by first | (rw [path_no (by omega)]; done) | (rw [path_no (by omega)]; rfl) | (rw [path_in (by omega), hw2_]; first | exact hw3_ | rfl) | (rw [path_in (by omega), bfh_end hs (td_none (by assumption))]; try rfl)
            have e1 : (false : Bool) = (pathM mn mr i j).isSome := by first | (rw [path_no (by omega)]; done) | (rw [path_no (by omega)]; rfl) | (rw [path_in (by omega), hw2_]; first | exact hw3_ | rfl) | (rw [path_in (by omega), bfh_end hs (td_none (by assumption))]; try rfl)
            have ev_ := cg2 (fun (x_0 : List Int) (x_1 : Bool) => (.tuple #[.slice none x_0.length 0, .bool x_1] : Value)) e0 e1
            exact ⟨none, 0, ev_, H7.below, (congrArg (fun (x_ : List Int) => OwnsG _ _ _ x_ (.slice none x_.length 0) _) e0).mp (ownsG_nil H7.below)⟩
end Go.Proofs.YtmhopljngkgidaaDoor
namespace Go.Proofs.YtmhopljngkgidaaDoor
open Go.Ew Go.RowKit
set_option linter.unusedVariables false
set_option linter.unusedSimpArgs false
attribute [local irreducible] WL WC SO Code.wp wpList retQ Ret
attribute [local irreducible] bitB hasW inR hasR setR countW countR subR words newR listR orR firstW tab8
theorem go38 : GoF Tryd.prog 38 := ⟨_, _, Tryd.func38, rfl, by kernel_rfl⟩
set_option maxRecDepth 100000 in
set_option maxHeartbeats 1600000 in
theorem path_Round {M : Nat → Prop} {w : World} {mn : Int} {a_mr : Option Addr} {c_mr : Nat} {mr : List (List (BitVec 64))} (hM : ∀ b, M b → b < w.heap.size) (hT : TabAt 0 w) (h_mn : I64 mn) (h_mr : RV M w (.slice a_mr mr.length c_mr) mr) (rt_m : rightS mn mr = true) : Calls Tryd.prog 40 #[.agg #[.int .i64 mn, .slice a_mr mr.length c_mr]] w (Ret fun v w' => ∃ (a0 : Option Addr) (c0 : Nat), v = .tuple #[.slice a0 ((roundM mn mr).getD []).length c0, .bool ((roundM mn mr).isSome)] ∧ Ext w w' ∧ OwnsG M 3 w ((roundM mn mr).getD []) (.slice a0 ((roundM mn mr).getD []).length c0) w') := by
  refine enter 22 Tryd.func40 rfl rfl rfl fun f0 ha => ?_
  have H := HI.start (M0 := M) (w := w) hM
  have H0 := H.put (it := imm (.slice a_mr mr.length c_mr) mr) rfl (by rw [MS_nil]; exact h_mr)
  have ln_mr := rv_len h_mr
  have i0 : f0 0 = .agg #[.int .i64 mn, .slice a_mr mr.length c_mr] := ha 0 (by simp)
  have hl_ := (right_sq rt_m).1; have h4_ := (right_sq rt_m).2.2.1; have h0_ := right_pos rt_m
  refine sq (rg (k (bx H0 rfl i0 ?_)))
  intro bb0 w0 xt0 (H1 : HI M w w0 [box bb0 #[.int .i64 mn, .slice a_mr mr.length c_mr] 24, imm (.slice a_mr mr.length c_mr) mr])
  refine k (asg (v := .slice none 0 0) rfl rfl (k (asg (v := .bool false) rfl rfl (z (nx (sq (sq (rg (k (fa fl24_0 rfl rfl (k (ldX H1 0 rfl ty3 rfl rfl (by decide) rfl (k (mv (v := .int .i64 0) rfl rfl (z (nx (bk ?_)))))))))))))))))
  refine lp (fun m f w' => ∃ (q : Nat), m = mn.toNat - q ∧ f 1 = .pointer (some ⟨bb0, 0, none⟩) ∧ f 8 = .int .i64 mn ∧ f 9 = .int .i64 (q : Int) ∧  HI M w w' [box bb0 #[.int .i64 mn, .slice a_mr mr.length c_mr] 24, imm (.slice a_mr mr.length c_mr) mr] ∧ (q ≤ mn.toNat) ∧ (∀ k, k < q → pathM mn mr ((k : Nat) : Int) ((k : Nat) : Int) = none)) _ ⟨0, rfl, rfl, rfl, (ieq rfl (by first | rfl | omega | simp)), H1, (by first | assumption | omega | simp | (simp; omega)), (by intro k_ h_; omega)⟩ ?_
  rintro _ f0 w1 ⟨q, rfl, s0, s1, s2, H2, hq_, hs⟩
  refine sq (rg (k (lss rfl rfl s2 s1 (z (nx (sq ?_))))))
  refine cd (b := decide ((q : Int) < mn)) rfl rfl (fun b0 => ?_) (fun b0 => ?_)
  ·
    have p0 := of_decide_eq_true b0
    refine sk (nx (sq (bk (sq (rg (k (mv rfl s2 (k (asg (v := .int .i64 (q : Int)) rfl rfl (z (nx (sq (rg (k (ldX H2 0 rfl ty24 rfl s0 (by decide) rfl (k (mv (v := .int .i64 (q : Int)) rfl rfl (k (mv (v := .int .i64 (q : Int)) rfl rfl (k ?_))))))))))))))))))))
    have cc0 := path_Find (mn := mn) (mr := mr) (i := (q : Int)) (j := (q : Int)) (w := w1) H2.mb (hT.ext H2.below) (by unfold I64 at *; omega) (H2.rv 1 rfl) (by unfold I64 at *; omega) (by unfold I64 at *; omega) (by exact rt_m)
    refine ca go38 rfl (ec rfl (ec rfl (ec rfl e0))) cc0 ?_
    rintro _ w2 ⟨a0, c0, rfl, xt1, rv0⟩
    have H3 := H2.ownsG rv0
    refine k (mv (v := .tuple #[.slice a0 ((pathM mn mr (q : Int) (q : Int)).getD []).length c0, .bool ((pathM mn mr (q : Int) (q : Int)).isSome)]) rfl rfl (k (xt rfl rfl rfl (k (xt rfl rfl rfl (k (asg (v := .slice a0 ((pathM mn mr (q : Int) (q : Int)).getD []).length c0) rfl rfl (k (asg (v := .bool ((pathM mn mr (q : Int) (q : Int)).isSome)) rfl rfl (z (nx (sq (rg (k (mv (v := .bool ((pathM mn mr (q : Int) (q : Int)).isSome)) rfl rfl (z (nx ?_)))))))))))))))))
    refine cd (b := (pathM mn mr (q : Int) (q : Int)).isSome) rfl rfl (fun b1 => ?_) (fun b1 => ?_)
    ·
      refine sq (rg (k (mv (v := .slice a0 ((pathM mn mr (q : Int) (q : Int)).getD []).length c0) rfl rfl (k (asg (v := .slice a0 ((pathM mn mr (q : Int) (q : Int)).getD []).length c0) rfl rfl (k (asg (v := .bool true) rfl rfl (z (nx (rt (inb_ret (then_ret (loop_ret (inb_ret (then_ret (r2 rfl rfl rfl ?_))))))))))))))))
      have e0 : ((pathM mn mr (q : Int) (q : Int)).getD [] : List Int) = (roundM mn mr).getD [] := by first | (rw [round_miss (by omega) hs]; done) | (rw [round_miss (by omega) hs]; rfl) | (rw [round_hit (by omega) b1 hs]; done) | (rw [round_hit (by omega) b1 hs]; exact b1.symm)
      have e1 : (true : Bool) = (roundM mn mr).isSome := by first | (rw [round_miss (by omega) hs]; done) | (rw [round_miss (by omega) hs]; rfl) | (rw [round_hit (by omega) b1 hs]; done) | (rw [round_hit (by omega) b1 hs]; exact b1.symm)
      have ev_ := cg2 (fun (x_0 : List Int) (x_1 : Bool) => (.tuple #[.slice a0 x_0.length c0, .bool x_1] : Value)) e0 e1
      exact ⟨a0, c0, ev_, H3.below, (congrArg (fun (x_ : List Int) => OwnsG _ _ _ x_ (.slice a0 x_.length c0) _) e0).mp (H3.ownsG_out 0 rfl)⟩
    ·
      refine sk (inb_normal (nx (rg (k (add rfl rfl s2 rfl (by unfold I64 at *; omega) (k (mv (v := .int .i64 ((q : Int) + 1)) rfl rfl (z ?_))))))))
      have H4 : HI M w w2 [box bb0 #[.int .i64 mn, .slice a_mr mr.length c_mr] 24, imm (.slice a_mr mr.length c_mr) mr] := H3.pickN [1, 2] (by decide) rfl
      refine loopN _ ?_ ⟨(q + 1), rfl, s0, s1, (ieq rfl (by first | rfl | omega | (push_cast; omega))), H4, (by first | assumption | omega | simp | (simp; omega)), (by exact round_step b1 hs)⟩
      omega
  ·
    have p0 := of_decide_eq_false b0
    refine ex (then_exit (loop_exit (inb_here (nx (sq (rg (k (asg (v := .slice none 0 0) rfl rfl (k (asg (v := .bool false) rfl rfl (z (nx (rt (r2 rfl rfl rfl ?_))))))))))))))
    have e0 : ([] : List Int) = (roundM mn mr).getD [] := by first | (rw [round_miss (by omega) hs]; done) | (rw [round_miss (by omega) hs]; rfl) | (rw [round_hit (by omega) b1 hs]; done) | (rw [round_hit (by omega) b1 hs]; exact b1.symm)
    have e1 : (false : Bool) = (roundM mn mr).isSome := by first | (rw [round_miss (by omega) hs]; done) | (rw [round_miss (by omega) hs]; rfl) | (rw [round_hit (by omega) b1 hs]; done) | (rw [round_hit (by omega) b1 hs]; exact b1.symm)
    have ev_ := cg2 (fun (x_0 : List Int) (x_1 : Bool) => (.tuple #[.slice none x_0.length 0, .bool x_1] : Value)) e0 e1
    exact ⟨none, 0, ev_, H2.below, (congrArg (fun (x_ : List Int) => OwnsG _ _ _ x_ (.slice none x_.length 0) _) e0).mp (ownsG_nil H2.below)⟩
end Go.Proofs.YtmhopljngkgidaaDoor
namespace Go.Proofs.YtmhopljngkgidaaDoor
open Go.Ew Go.RowKit
set_option linter.unusedVariables false
set_option linter.unusedSimpArgs false
attribute [local irreducible] WL WC SO Code.wp wpList retQ Ret
attribute [local irreducible] bitB hasW inR hasR setR countW countR subR words newR listR orR firstW tab8
end Go.Proofs.YtmhopljngkgidaaDoor
namespace Go.Proofs.YtmhopljngkgidaaDoor
open Go.Ew Go.RowKit
set_option linter.unusedVariables false
set_option linter.unusedSimpArgs false
attribute [local irreducible] WL WC SO Code.wp wpList retQ Ret
attribute [local irreducible] bitB hasW inR hasR setR countW countR subR words newR listR orR firstW tab8
end Go.Proofs.YtmhopljngkgidaaDoor
namespace Go.Proofs.YtmhopljngkgidaaDoor
open Go.Ew Go.RowKit
set_option linter.unusedVariables false
set_option linter.unusedSimpArgs false
attribute [local irreducible] WL WC SO Code.wp wpList retQ Ret
attribute [local irreducible] bitB hasW inR hasR setR countW countR subR words newR listR orR firstW tab8
end Go.Proofs.YtmhopljngkgidaaDoor
namespace Go.Proofs.YtmhopljngkgidaaDoor
open Go.Ew Go.RowKit
set_option linter.unusedVariables false
set_option linter.unusedSimpArgs false
attribute [local irreducible] WL WC SO Code.wp wpList retQ Ret
attribute [local irreducible] bitB hasW inR hasR setR countW countR subR words newR listR orR firstW tab8
theorem go68 : GoF Tryd.prog 68 := ⟨_, _, Tryd.func68, rfl, by kernel_rfl⟩
theorem go40 : GoF Tryd.prog 40 := ⟨_, _, Tryd.func40, rfl, by kernel_rfl⟩
theorem go42 : GoF Tryd.prog 42 := ⟨_, _, Tryd.func42, rfl, by kernel_rfl⟩
theorem go43 : GoF Tryd.prog 43 := ⟨_, _, Tryd.func43, rfl, by kernel_rfl⟩
theorem go12 : GoF Tryd.prog 12 := ⟨_, _, Tryd.func12, rfl, by kernel_rfl⟩
theorem go13 : GoF Tryd.prog 13 := ⟨_, _, Tryd.func13, rfl, by kernel_rfl⟩
set_option maxRecDepth 100000 in
set_option maxHeartbeats 1600000 in
theorem awake14 {w : World} (hT : TabAt 0 w) : Calls Tryd.prog 37 #[] w (Ret fun v w' =>  v = .bool true ∧ Ext w w') := by
  refine enter 46 Tryd.func37 rfl rfl rfl fun f0 ha => ?_
  have H := HI.start (M0 := (fun _ => False)) (w := w) (fun _ h => h.elim)
  refine sq (rg (k (asg (v := .bool false) rfl rfl (z (nx (sq (rg (k (bd (v := .agg #[.int .i64 0, .int .i64 1]) rfl (pbc rfl (pbc rfl pb0)) (fun _ => by kernel_rfl) (k (bd (v := .agg #[.int .i64 1, .int .i64 2]) rfl (pbc rfl (pbc rfl pb0)) (fun _ => by kernel_rfl) (k (bd (v := .agg #[.int .i64 2, .int .i64 0]) rfl (pbc rfl (pbc rfl pb0)) (fun _ => by kernel_rfl) (k (bs (xs := ([(0, 1), (1, 2), (2, 0)] : List (Int × Int))) (cells := #[.int .i64 0, .int .i64 1, .int .i64 1, .int .i64 2, .int .i64 2, .int .i64 0]) (e := 76) H rfl (pbc rfl (pbc rfl (pbc rfl pb0))) (fun _ => by kernel_rfl) ⟨[.int .i64 0, .int .i64 1], [.int .i64 1, .int .i64 2, .int .i64 2, .int .i64 0], rfl, ⟨_, _, rfl, ⟨rfl, (show I64 (0) from (by first | (unfold I64; decide +kernel) | decide +kernel))⟩, ⟨rfl, (show I64 (1) from (by first | (unfold I64; decide +kernel) | decide +kernel))⟩⟩, ⟨[.int .i64 1, .int .i64 2], [.int .i64 2, .int .i64 0], rfl, ⟨_, _, rfl, ⟨rfl, (show I64 (1) from (by first | (unfold I64; decide +kernel) | decide +kernel))⟩, ⟨rfl, (show I64 (2) from (by first | (unfold I64; decide +kernel) | decide +kernel))⟩⟩, ⟨[.int .i64 2, .int .i64 0], [], rfl, ⟨_, _, rfl, ⟨rfl, (show I64 (2) from (by first | (unfold I64; decide +kernel) | decide +kernel))⟩, ⟨rfl, (show I64 (0) from (by first | (unfold I64; decide +kernel) | decide +kernel))⟩⟩, rfl⟩⟩⟩ rfl (by unfold maxLen; omega) ?_)))))))))))))))
  intro g0 w0 xt0 (H0 : HI (fun _ => False) w w0 [own w.heap.size 76 (.slice (some ⟨g0, 0, none⟩) 3 3) ([(0, 1), (1, 2), (2, 0)] : List (Int × Int))])
  refine k ?_
  have H1 := H0.freeze 0 rfl
  have cc0 := ref03_Of (n := 3) (ps := ([(0, 1), (1, 2), (2, 0)] : List (Int × Int))) (w := w0) H1.mb (by first | (unfold I64; decide +kernel) | decide +kernel) (H1.rv 0 rfl)
  refine ca go68 rfl (ec rfl (ec rfl e0)) cc0 ?_
  rintro _ w1 ⟨a0, c0, rfl, xt1, rv0⟩
  have H2 := H1.ext xt1
  have H3 := H2.put (it := imm (.slice a0 (ofMR 3 ([(0, 1), (1, 2), (2, 0)] : List (Int × Int))).length c0) (ofMR 3 ([(0, 1), (1, 2), (2, 0)] : List (Int × Int)))) rfl rv0
  refine k (mv (v := .tuple #[.agg #[.int .i64 (ofMN 3 ([(0, 1), (1, 2), (2, 0)] : List (Int × Int))), .slice a0 (ofMR 3 ([(0, 1), (1, 2), (2, 0)] : List (Int × Int))).length c0], .int .i64 (ofME 3 ([(0, 1), (1, 2), (2, 0)] : List (Int × Int)))]) rfl rfl (k (xt rfl rfl rfl (k (xt rfl rfl rfl (k (al H3 ty24 ?_)))))))
  intro bb0 w2 xt2 (H4 : HI (fun _ => False) w w2 [box bb0 #[.int .i64 0, .slice none 0 0] 24, imm (.slice a0 (ofMR 3 ([(0, 1), (1, 2), (2, 0)] : List (Int × Int))).length c0) (ofMR 3 ([(0, 1), (1, 2), (2, 0)] : List (Int × Int))), imm (.slice (some ⟨g0, 0, none⟩) 3 3) ([(0, 1), (1, 2), (2, 0)] : List (Int × Int))])
  refine k (stX H4 0 rfl ty24 rfl rfl rfl rfl rfl rfl rfl ?_)
  intro w3 (H5 : HI (fun _ => False) w w3 [box bb0 #[.int .i64 (ofMN 3 ([(0, 1), (1, 2), (2, 0)] : List (Int × Int))), .slice a0 (ofMR 3 ([(0, 1), (1, 2), (2, 0)] : List (Int × Int))).length c0] 24, imm (.slice a0 (ofMR 3 ([(0, 1), (1, 2), (2, 0)] : List (Int × Int))).length c0) (ofMR 3 ([(0, 1), (1, 2), (2, 0)] : List (Int × Int))), imm (.slice (some ⟨g0, 0, none⟩) 3 3) ([(0, 1), (1, 2), (2, 0)] : List (Int × Int))])
  refine k (asg (v := .int .i64 (ofME 3 ([(0, 1), (1, 2), (2, 0)] : List (Int × Int)))) rfl rfl (z (nx (sq (rg (k (ldX H5 0 rfl ty24 rfl rfl (by decide) rfl (k ?_))))))))
  have cc1 := path_Round (mn := (ofMN 3 ([(0, 1), (1, 2), (2, 0)] : List (Int × Int)))) (mr := (ofMR 3 ([(0, 1), (1, 2), (2, 0)] : List (Int × Int)))) (w := w3) H5.mb (hT.ext H5.below) (by first | (unfold I64; decide +kernel) | decide +kernel) (H5.rv 1 rfl) (by decide +kernel)
  refine ca go40 rfl (ec rfl e0) cc1 ?_
  rintro _ w4 ⟨a1, c1, rfl, xt3, rv1⟩
  have H6 := H5.ownsG rv1
  refine k (mv (v := .tuple #[.slice a1 ((roundM (ofMN 3 ([(0, 1), (1, 2), (2, 0)] : List (Int × Int))) (ofMR 3 ([(0, 1), (1, 2), (2, 0)] : List (Int × Int)))).getD []).length c1, .bool ((roundM (ofMN 3 ([(0, 1), (1, 2), (2, 0)] : List (Int × Int))) (ofMR 3 ([(0, 1), (1, 2), (2, 0)] : List (Int × Int)))).isSome)]) rfl rfl (k (xt rfl rfl rfl (k (xt rfl rfl rfl (k (asg (v := .slice a1 ((roundM (ofMN 3 ([(0, 1), (1, 2), (2, 0)] : List (Int × Int))) (ofMR 3 ([(0, 1), (1, 2), (2, 0)] : List (Int × Int)))).getD []).length c1) rfl rfl (k (asg (v := .bool ((roundM (ofMN 3 ([(0, 1), (1, 2), (2, 0)] : List (Int × Int))) (ofMR 3 ([(0, 1), (1, 2), (2, 0)] : List (Int × Int)))).isSome)) rfl rfl (z (nx (sq (rg (k (ldX H6 1 rfl ty24 rfl rfl (by decide) rfl (k ?_))))))))))))))))
  have cc2 := path_Find (mn := (ofMN 3 ([(0, 1), (1, 2), (2, 0)] : List (Int × Int)))) (mr := (ofMR 3 ([(0, 1), (1, 2), (2, 0)] : List (Int × Int)))) (i := 0) (j := 3) (w := w4) H6.mb (hT.ext H6.below) (by first | (unfold I64; decide +kernel) | decide +kernel) (H6.rv 2 rfl) (by first | (unfold I64; decide +kernel) | decide +kernel) (by first | (unfold I64; decide +kernel) | decide +kernel) (by decide +kernel)
  refine ca go38 rfl (ec rfl (ec rfl (ec rfl e0))) cc2 ?_
  rintro _ w5 ⟨a2, c2, rfl, xt4, rv2⟩
  have H7 := H6.ownsG rv2
  refine k (mv (v := .tuple #[.slice a2 ((pathM (ofMN 3 ([(0, 1), (1, 2), (2, 0)] : List (Int × Int))) (ofMR 3 ([(0, 1), (1, 2), (2, 0)] : List (Int × Int))) 0 3).getD []).length c2, .bool ((pathM (ofMN 3 ([(0, 1), (1, 2), (2, 0)] : List (Int × Int))) (ofMR 3 ([(0, 1), (1, 2), (2, 0)] : List (Int × Int))) 0 3).isSome)]) rfl rfl (k (xt rfl rfl rfl (k (xt rfl rfl rfl (k (asg (v := .slice a2 ((pathM (ofMN 3 ([(0, 1), (1, 2), (2, 0)] : List (Int × Int))) (ofMR 3 ([(0, 1), (1, 2), (2, 0)] : List (Int × Int))) 0 3).getD []).length c2) rfl rfl (k (asg (v := .bool ((pathM (ofMN 3 ([(0, 1), (1, 2), (2, 0)] : List (Int × Int))) (ofMR 3 ([(0, 1), (1, 2), (2, 0)] : List (Int × Int))) 0 3).isSome)) rfl rfl (z (nx (sq (rg (k (mv (v := .bool ((roundM (ofMN 3 ([(0, 1), (1, 2), (2, 0)] : List (Int × Int))) (ofMR 3 ([(0, 1), (1, 2), (2, 0)] : List (Int × Int)))).isSome)) rfl rfl (k (mv (v := .bool ((roundM (ofMN 3 ([(0, 1), (1, 2), (2, 0)] : List (Int × Int))) (ofMR 3 ([(0, 1), (1, 2), (2, 0)] : List (Int × Int)))).isSome)) rfl rfl ?_)))))))))))))))))
  have tr0 : ((roundM (ofMN 3 ([(0, 1), (1, 2), (2, 0)] : List (Int × Int))) (ofMR 3 ([(0, 1), (1, 2), (2, 0)] : List (Int × Int)))).isSome) = true := (by decide +kernel)
  refine k (gy rfl rfl rfl tr0 (mv (v := .slice a1 ((roundM (ofMN 3 ([(0, 1), (1, 2), (2, 0)] : List (Int × Int))) (ofMR 3 ([(0, 1), (1, 2), (2, 0)] : List (Int × Int)))).getD []).length c1) rfl rfl (k (gy rfl rfl rfl tr0 (bs (xs := ([0, 1, 2, 0] : List Int)) (cells := #[.int .i64 0, .int .i64 1, .int .i64 2, .int .i64 0]) (e := 3) H7 rfl (pbc rfl (pbc rfl (pbc rfl (pbc rfl pb0)))) (fun _ => by kernel_rfl) ⟨[.int .i64 0], [.int .i64 1, .int .i64 2, .int .i64 0], rfl, ⟨rfl, (show I64 (0) from (by first | (unfold I64; decide +kernel) | decide +kernel))⟩, ⟨[.int .i64 1], [.int .i64 2, .int .i64 0], rfl, ⟨rfl, (show I64 (1) from (by first | (unfold I64; decide +kernel) | decide +kernel))⟩, ⟨[.int .i64 2], [.int .i64 0], rfl, ⟨rfl, (show I64 (2) from (by first | (unfold I64; decide +kernel) | decide +kernel))⟩, ⟨[.int .i64 0], [], rfl, ⟨rfl, (show I64 (0) from (by first | (unfold I64; decide +kernel) | decide +kernel))⟩, rfl⟩⟩⟩⟩ rfl (by unfold maxLen; omega) ?_)))))
  intro g1 w6 xt5 (H8 : HI (fun _ => False) w w6 [own w.heap.size 3 (.slice (some ⟨g1, 0, none⟩) 4 4) ([0, 1, 2, 0] : List Int), own w.heap.size 3 (.slice a2 ((pathM (ofMN 3 ([(0, 1), (1, 2), (2, 0)] : List (Int × Int))) (ofMR 3 ([(0, 1), (1, 2), (2, 0)] : List (Int × Int))) 0 3).getD []).length c2) ((pathM (ofMN 3 ([(0, 1), (1, 2), (2, 0)] : List (Int × Int))) (ofMR 3 ([(0, 1), (1, 2), (2, 0)] : List (Int × Int))) 0 3).getD []), own w.heap.size 3 (.slice a1 ((roundM (ofMN 3 ([(0, 1), (1, 2), (2, 0)] : List (Int × Int))) (ofMR 3 ([(0, 1), (1, 2), (2, 0)] : List (Int × Int)))).getD []).length c1) ((roundM (ofMN 3 ([(0, 1), (1, 2), (2, 0)] : List (Int × Int))) (ofMR 3 ([(0, 1), (1, 2), (2, 0)] : List (Int × Int)))).getD []), box bb0 #[.int .i64 (ofMN 3 ([(0, 1), (1, 2), (2, 0)] : List (Int × Int))), .slice a0 (ofMR 3 ([(0, 1), (1, 2), (2, 0)] : List (Int × Int))).length c0] 24, imm (.slice a0 (ofMR 3 ([(0, 1), (1, 2), (2, 0)] : List (Int × Int))).length c0) (ofMR 3 ([(0, 1), (1, 2), (2, 0)] : List (Int × Int))), imm (.slice (some ⟨g0, 0, none⟩) 3 3) ([(0, 1), (1, 2), (2, 0)] : List (Int × Int))])
  refine k (gy rfl rfl rfl tr0 ?_)
  have H9 := H8.freeze 2 rfl
  have H10 := H9.freeze 0 rfl
  have cc3 := ref02_Ints (a := ((roundM (ofMN 3 ([(0, 1), (1, 2), (2, 0)] : List (Int × Int))) (ofMR 3 ([(0, 1), (1, 2), (2, 0)] : List (Int × Int)))).getD [])) (b := ([0, 1, 2, 0] : List Int)) (w := w6) H10.mb (H10.rv 2 rfl) (H10.rv 0 rfl)
  refine ca go42 rfl (ec rfl (ec rfl e0)) cc3 ?_
  rintro _ w7 ⟨rfl, xt6⟩
  have H11 := H8.ext xt6
  refine k (pickT rfl rfl rfl rfl tr0 rfl (k (mv (v := .bool (decide (((roundM (ofMN 3 ([(0, 1), (1, 2), (2, 0)] : List (Int × Int))) (ofMR 3 ([(0, 1), (1, 2), (2, 0)] : List (Int × Int)))).getD []) = ([0, 1, 2, 0] : List Int)))) rfl rfl ?_)))
  have tr1 : (decide (((roundM (ofMN 3 ([(0, 1), (1, 2), (2, 0)] : List (Int × Int))) (ofMR 3 ([(0, 1), (1, 2), (2, 0)] : List (Int × Int)))).getD []) = ([0, 1, 2, 0] : List Int))) = true := (by decide +kernel)
  refine k (gy rfl rfl rfl tr1 (mv (v := .bool ((pathM (ofMN 3 ([(0, 1), (1, 2), (2, 0)] : List (Int × Int))) (ofMR 3 ([(0, 1), (1, 2), (2, 0)] : List (Int × Int))) 0 3).isSome)) rfl rfl (k (gy rfl rfl rfl tr1 (not_ rfl rfl (k (pickT rfl rfl rfl rfl tr1 rfl (k (mv (v := .bool (!((pathM (ofMN 3 ([(0, 1), (1, 2), (2, 0)] : List (Int × Int))) (ofMR 3 ([(0, 1), (1, 2), (2, 0)] : List (Int × Int))) 0 3).isSome))) rfl rfl ?_)))))))))
  have tr2 : ((pathM (ofMN 3 ([(0, 1), (1, 2), (2, 0)] : List (Int × Int))) (ofMR 3 ([(0, 1), (1, 2), (2, 0)] : List (Int × Int))) 0 3).isSome) = false := (by decide +kernel)
  refine k (gy rfl rfl rfl (by rw [show ((pathM (ofMN 3 ([(0, 1), (1, 2), (2, 0)] : List (Int × Int))) (ofMR 3 ([(0, 1), (1, 2), (2, 0)] : List (Int × Int))) 0 3).isSome) = false from tr2]; rfl) (ldX H11 3 rfl ty24 rfl rfl (by decide) rfl (k (gy rfl rfl rfl (by rw [show ((pathM (ofMN 3 ([(0, 1), (1, 2), (2, 0)] : List (Int × Int))) (ofMR 3 ([(0, 1), (1, 2), (2, 0)] : List (Int × Int))) 0 3).isSome) = false from tr2]; rfl) (mv (v := .slice a1 ((roundM (ofMN 3 ([(0, 1), (1, 2), (2, 0)] : List (Int × Int))) (ofMR 3 ([(0, 1), (1, 2), (2, 0)] : List (Int × Int)))).getD []).length c1) rfl rfl (k (gy rfl rfl rfl (by rw [show ((pathM (ofMN 3 ([(0, 1), (1, 2), (2, 0)] : List (Int × Int))) (ofMR 3 ([(0, 1), (1, 2), (2, 0)] : List (Int × Int))) 0 3).isSome) = false from tr2]; rfl) ?_)))))))
  have H12 := H11.freeze 2 rfl
  have cc4 := path_Is (mn := (ofMN 3 ([(0, 1), (1, 2), (2, 0)] : List (Int × Int)))) (mr := (ofMR 3 ([(0, 1), (1, 2), (2, 0)] : List (Int × Int)))) (l := ((roundM (ofMN 3 ([(0, 1), (1, 2), (2, 0)] : List (Int × Int))) (ofMR 3 ([(0, 1), (1, 2), (2, 0)] : List (Int × Int)))).getD [])) (w := w7) H12.mb (by first | (unfold I64; decide +kernel) | decide +kernel) (H12.rv 4 rfl) (H12.rv 2 rfl) (by decide +kernel)
  refine ca go43 rfl (ec rfl (ec rfl e0)) cc4 ?_
  rintro _ w8 ⟨rfl, xt7⟩
  have H13 := H11.ext xt7
  refine k (pickT rfl rfl rfl rfl (by rw [show ((pathM (ofMN 3 ([(0, 1), (1, 2), (2, 0)] : List (Int × Int))) (ofMR 3 ([(0, 1), (1, 2), (2, 0)] : List (Int × Int))) 0 3).isSome) = false from tr2]; rfl) rfl (k (mv (v := .bool (isM (ofMN 3 ([(0, 1), (1, 2), (2, 0)] : List (Int × Int))) (ofMR 3 ([(0, 1), (1, 2), (2, 0)] : List (Int × Int))) ((roundM (ofMN 3 ([(0, 1), (1, 2), (2, 0)] : List (Int × Int))) (ofMR 3 ([(0, 1), (1, 2), (2, 0)] : List (Int × Int)))).getD []))) rfl rfl ?_)))
  have tr3 : (isM (ofMN 3 ([(0, 1), (1, 2), (2, 0)] : List (Int × Int))) (ofMR 3 ([(0, 1), (1, 2), (2, 0)] : List (Int × Int))) ((roundM (ofMN 3 ([(0, 1), (1, 2), (2, 0)] : List (Int × Int))) (ofMR 3 ([(0, 1), (1, 2), (2, 0)] : List (Int × Int)))).getD [])) = true := (by decide +kernel)
  refine k (gy rfl rfl rfl tr3 (ldX H13 3 rfl ty24 rfl rfl (by decide) rfl (k (gy rfl rfl rfl tr3 (bs (xs := ([0, 2] : List Int)) (cells := #[.int .i64 0, .int .i64 2]) (e := 3) H13 rfl (pbc rfl (pbc rfl pb0)) (fun _ => by kernel_rfl) ⟨[.int .i64 0], [.int .i64 2], rfl, ⟨rfl, (show I64 (0) from (by first | (unfold I64; decide +kernel) | decide +kernel))⟩, ⟨[.int .i64 2], [], rfl, ⟨rfl, (show I64 (2) from (by first | (unfold I64; decide +kernel) | decide +kernel))⟩, rfl⟩⟩ rfl (by unfold maxLen; omega) ?_)))))
  intro g2 w9 xt8 (H14 : HI (fun _ => False) w w9 [own w.heap.size 3 (.slice (some ⟨g2, 0, none⟩) 2 2) ([0, 2] : List Int), own w.heap.size 3 (.slice (some ⟨g1, 0, none⟩) 4 4) ([0, 1, 2, 0] : List Int), own w.heap.size 3 (.slice a2 ((pathM (ofMN 3 ([(0, 1), (1, 2), (2, 0)] : List (Int × Int))) (ofMR 3 ([(0, 1), (1, 2), (2, 0)] : List (Int × Int))) 0 3).getD []).length c2) ((pathM (ofMN 3 ([(0, 1), (1, 2), (2, 0)] : List (Int × Int))) (ofMR 3 ([(0, 1), (1, 2), (2, 0)] : List (Int × Int))) 0 3).getD []), own w.heap.size 3 (.slice a1 ((roundM (ofMN 3 ([(0, 1), (1, 2), (2, 0)] : List (Int × Int))) (ofMR 3 ([(0, 1), (1, 2), (2, 0)] : List (Int × Int)))).getD []).length c1) ((roundM (ofMN 3 ([(0, 1), (1, 2), (2, 0)] : List (Int × Int))) (ofMR 3 ([(0, 1), (1, 2), (2, 0)] : List (Int × Int)))).getD []), box bb0 #[.int .i64 (ofMN 3 ([(0, 1), (1, 2), (2, 0)] : List (Int × Int))), .slice a0 (ofMR 3 ([(0, 1), (1, 2), (2, 0)] : List (Int × Int))).length c0] 24, imm (.slice a0 (ofMR 3 ([(0, 1), (1, 2), (2, 0)] : List (Int × Int))).length c0) (ofMR 3 ([(0, 1), (1, 2), (2, 0)] : List (Int × Int))), imm (.slice (some ⟨g0, 0, none⟩) 3 3) ([(0, 1), (1, 2), (2, 0)] : List (Int × Int))])
  refine k (gy rfl rfl rfl tr3 ?_)
  have H15 := H14.freeze 0 rfl
  have cc5 := path_Is (mn := (ofMN 3 ([(0, 1), (1, 2), (2, 0)] : List (Int × Int)))) (mr := (ofMR 3 ([(0, 1), (1, 2), (2, 0)] : List (Int × Int)))) (l := ([0, 2] : List Int)) (w := w9) H15.mb (by first | (unfold I64; decide +kernel) | decide +kernel) (H15.rv 5 rfl) (H15.rv 0 rfl) (by decide +kernel)
  refine ca go43 rfl (ec rfl (ec rfl e0)) cc5 ?_
  rintro _ w10 ⟨rfl, xt9⟩
  have H16 := H14.ext xt9
  refine k (gy rfl rfl rfl tr3 (not_ rfl rfl (k (pickT rfl rfl rfl rfl tr3 rfl (k (asg (v := .bool (!(isM (ofMN 3 ([(0, 1), (1, 2), (2, 0)] : List (Int × Int))) (ofMR 3 ([(0, 1), (1, 2), (2, 0)] : List (Int × Int))) ([0, 2] : List Int)))) rfl rfl (z (nx (rt (r1 rfl rfl ?_))))))))))
  have tr4 : (isM (ofMN 3 ([(0, 1), (1, 2), (2, 0)] : List (Int × Int))) (ofMR 3 ([(0, 1), (1, 2), (2, 0)] : List (Int × Int))) ([0, 2] : List Int)) = false := (by decide +kernel)
  have e0 : (!(isM (ofMN 3 ([(0, 1), (1, 2), (2, 0)] : List (Int × Int))) (ofMR 3 ([(0, 1), (1, 2), (2, 0)] : List (Int × Int))) ([0, 2] : List Int)) : Bool) = true := by exact (by rw [show (isM (ofMN 3 ([(0, 1), (1, 2), (2, 0)] : List (Int × Int))) (ofMR 3 ([(0, 1), (1, 2), (2, 0)] : List (Int × Int))) ([0, 2] : List Int)) = false from tr4]; rfl)
  have ev_ := cg1 (fun (x_0 : Bool) => (.bool x_0 : Value)) e0
  exact ⟨ev_, H16.below⟩
set_option maxRecDepth 100000 in
set_option maxHeartbeats 1600000 in
theorem may14 {M : Nat → Prop} {w : World} {mn : Int} {a_mr : Option Addr} {c_mr : Nat} {mr : List (List (BitVec 64))} (hM : ∀ b, M b → b < w.heap.size) (h_mn : I64 mn) (h_mr : RV M w (.slice a_mr mr.length c_mr) mr) : Calls Tryd.prog 36 #[.agg #[.int .i64 mn, .slice a_mr mr.length c_mr]] w (Ret fun v w' =>  v = .bool (smallM mr 16 && rightS mn mr) ∧ Ext w w') := by
  refine enter 9 Tryd.func36 rfl rfl rfl fun f0 ha => ?_
  have H := HI.start (M0 := M) (w := w) hM
  have H0 := H.put (it := imm (.slice a_mr mr.length c_mr) mr) rfl (by rw [MS_nil]; exact h_mr)
  have ln_mr := rv_len h_mr
  have i0 : f0 0 = .agg #[.int .i64 mn, .slice a_mr mr.length c_mr] := ha 0 (by simp)
  refine sq (rg (k (bx H0 rfl i0 ?_)))
  intro bb0 w0 xt0 (H1 : HI M w w0 [box bb0 #[.int .i64 mn, .slice a_mr mr.length c_mr] 24, imm (.slice a_mr mr.length c_mr) mr])
  refine k (asg (v := .bool false) rfl rfl (z (nx (sq (rg (k (ldX H1 0 rfl ty24 rfl rfl (by decide) rfl (k ?_))))))))
  have cc0 := ref03_Small (mn := mn) (mr := mr) (mo := 16) (w := w0) H1.mb (by unfold I64 at *; omega) (H1.rv 1 rfl) (by unfold I64 at *; omega)
  refine ca go12 rfl (ec rfl (ec rfl e0)) cc0 ?_
  rintro _ w1 ⟨rfl, xt1⟩
  have H2 := H1.ext xt1
  refine k (mv (v := .bool (smallM mr 16)) rfl rfl ?_)
  rcases Bool.eq_false_or_eq_true (smallM mr 16) with b0 | b0
  · -- smallM mr 16 is True
    refine k (gy rfl rfl rfl b0 (ldX H2 0 rfl ty24 rfl rfl (by decide) rfl (k (gy rfl rfl rfl b0 ?_))))
    have cc1 := ref03_Right (mn := mn) (mr := mr) (w := w1) H2.mb (by unfold I64 at *; omega) (H2.rv 1 rfl)
    refine ca go13 rfl (ec rfl e0) cc1 ?_
    rintro _ w2 ⟨rfl, xt2⟩
    have H3 := H2.ext xt2
    refine k (pickT rfl rfl rfl rfl b0 rfl (k (asg (v := .bool (rightS mn mr)) rfl rfl (z (nx (rt (r1 rfl rfl ?_)))))))
    have e0 : (rightS mn mr : Bool) = (smallM mr 16 && rightS mn mr) := by rw [b0]; rfl
    have ev_ := cg1 (fun (x_0 : Bool) => (.bool x_0 : Value)) e0
    exact ⟨ev_, H3.below⟩
  · -- smallM mr 16 is False
    refine k (gn rfl rfl rfl b0 (k (gn rfl rfl rfl b0 (k (pickF rfl rfl rfl rfl b0 rfl (k (asg (v := .bool false) rfl rfl (z (nx (rt (r1 rfl rfl ?_)))))))))))
    have e0 : (false : Bool) = (smallM mr 16 && rightS mn mr) := by rw [b0]; rfl
    have ev_ := cg1 (fun (x_0 : Bool) => (.bool x_0 : Value)) e0
    exact ⟨ev_, H2.below⟩
end Go.Proofs.YtmhopljngkgidaaDoor
namespace Go.Proofs.YtmhopljngkgidaaDoor
open Go.Ew Go.RowKit
set_option linter.unusedVariables false
set_option linter.unusedSimpArgs false
attribute [local irreducible] WL WC SO Code.wp wpList retQ Ret
attribute [local irreducible] bitB hasW inR hasR setR countW countR subR words newR listR orR firstW tab8
theorem fl49_0 : FldF Tryd.prog 49 0 0 := ⟨_, _, Tryd.underlying49, rfl, rfl, by kernel_rfl⟩
theorem fl49_1 : FldF Tryd.prog 49 1 2 := ⟨_, _, Tryd.underlying49, rfl, rfl, by kernel_rfl⟩
theorem fl49_2 : FldF Tryd.prog 49 2 3 := ⟨_, _, Tryd.underlying49, rfl, rfl, by kernel_rfl⟩
theorem fl49_3 : FldF Tryd.prog 49 3 4 := ⟨_, _, Tryd.underlying49, rfl, rfl, by kernel_rfl⟩
theorem ty42 : TyF Tryd.prog 42 1 false 24 (.slice none 0 0) := ⟨by kernel_rfl, by kernel_rfl⟩
theorem go36 : GoF Tryd.prog 36 := ⟨_, _, Tryd.func36, rfl, by kernel_rfl⟩
theorem go37 : GoF Tryd.prog 37 := ⟨_, _, Tryd.func37, rfl, by kernel_rfl⟩
theorem go41 : GoF Tryd.prog 41 := ⟨_, _, Tryd.func41, rfl, by kernel_rfl⟩
theorem un4 : Tryd.prog.underlying 4 = some (.bool) := by kernel_rfl
theorem go44 : GoF Tryd.prog 44 := ⟨_, _, Tryd.func44, rfl, by kernel_rfl⟩
set_option maxRecDepth 100000 in
set_option maxHeartbeats 1600000 in
theorem law_PathTells {M : Nat → Prop} {w : World} {mn : Int} {a_mr : Option Addr} {c_mr : Nat} {mr : List (List (BitVec 64))} {i : Int} {j : Int} {a_l : Option Addr} {c_l : Nat} {l : List Int} (hM : ∀ b, M b → b < w.heap.size) (hT : TabAt 0 w) (h_mn : I64 mn) (h_mr : RV M w (.slice a_mr mr.length c_mr) mr) (h_i : I64 i) (h_j : I64 j) (h_l : RV M w (.slice a_l l.length c_l) l) : Calls Tryd.prog 8 #[.agg #[.int .i64 mn, .slice a_mr mr.length c_mr, .int .i64 i, .int .i64 j, .slice a_l l.length c_l]] w (Ret fun v w' =>  v = .bool true ∧ Ext w w') := by
  refine enter 86 Tryd.func8 rfl rfl rfl fun f0 ha => ?_
  have H := HI.start (M0 := M) (w := w) hM
  have H0 := H.put (it := imm (.slice a_mr mr.length c_mr) mr) rfl (by rw [MS_nil]; exact h_mr)
  have H1 := H0.put (it := imm (.slice a_l l.length c_l) l) rfl (by rw [MS_cons_none rfl, MS_nil]; exact h_l)
  have ln_mr := rv_len h_mr
  have ln_l := rv_len h_l
  have i0 : f0 0 = .agg #[.int .i64 mn, .slice a_mr mr.length c_mr, .int .i64 i, .int .i64 j, .slice a_l l.length c_l] := ha 0 (by simp)
  refine sq (rg (k (bx H1 rfl i0 ?_)))
  intro bb0 w0 xt0 (H2 : HI M w w0 [box bb0 #[.int .i64 mn, .slice a_mr mr.length c_mr, .int .i64 i, .int .i64 j, .slice a_l l.length c_l] 49, imm (.slice a_l l.length c_l) l, imm (.slice a_mr mr.length c_mr) mr])
  refine k (asg (v := .bool false) rfl rfl (z (nx (sq ?_))))
  refine drs [.v, .v, .v, .v, .v, .v, .v, .v, .n, .s 8 1, .v, .v, .v] [fun (v : Value) => v = .pointer (some ⟨bb0, 0, none⟩), fun (v : Value) => v = .agg #[.int .i64 mn, .slice a_mr mr.length c_mr], fun (v : Value) => v = .pointer (some ⟨bb0, 2, none⟩), fun (v : Value) => v = .int .i64 i, fun (v : Value) => v = .pointer (some ⟨bb0, 3, none⟩), fun (v : Value) => v = .int .i64 j, fun (v : Value) => v = .pointer (some ⟨bb0, 4, none⟩), fun (v : Value) => v = .slice a_l l.length c_l, fun _ => True, fun _ => True, fun (v : Value) => v = .int .i64 i, fun (v : Value) => v = .int .i64 j, fun (v : Value) => v = .slice a_l l.length c_l] [(#[], 0), (#[], 0), (#[], 0), (#[], 0), (#[], 0), (#[], 0), (#[], 0), (#[], 0), (#[.int .i64 0, .slice none 0 0], 24), (#[], 0), (#[], 0), (#[], 0), (#[], 0)] rfl (by kernel_rfl) ?_ ?_
  ·
    refine ⟨⟨rfl, fun f0 w2 hf0 xt2 hp0 => ?_⟩, ?_⟩
    ·
      refine fa fl49_0 rfl (hf0 1 rfl) ?_
      exact ⟨_, rfl, rfl, rfl⟩
    refine ⟨⟨rfl, fun f1 w3 hf1 xt3 hp1 => ?_⟩, ?_⟩
    ·
      have s0 : f1 15 = .pointer (some ⟨bb0, 0, none⟩) := hp1 0 rfl ⟨_, rfl, rfl⟩
      refine ldX (H2.ext xt3) 0 rfl ty24 rfl s0 (by decide) rfl ?_
      exact ⟨_, rfl, rfl, rfl⟩
    refine ⟨⟨rfl, fun f2 w4 hf2 xt4 hp2 => ?_⟩, ?_⟩
    ·
      refine fa fl49_1 rfl (hf2 1 rfl) ?_
      exact ⟨_, rfl, rfl, rfl⟩
    refine ⟨⟨rfl, fun f3 w5 hf3 xt5 hp3 => ?_⟩, ?_⟩
    ·
      have s1 : f3 17 = .pointer (some ⟨bb0, 2, none⟩) := hp3 2 rfl ⟨_, rfl, rfl⟩
      refine ldX (H2.ext xt5) 0 rfl ty3 rfl s1 (by decide) rfl ?_
      exact ⟨_, rfl, rfl, rfl⟩
    refine ⟨⟨rfl, fun f4 w6 hf4 xt6 hp4 => ?_⟩, ?_⟩
    ·
      refine fa fl49_2 rfl (hf4 1 rfl) ?_
      exact ⟨_, rfl, rfl, rfl⟩
    refine ⟨⟨rfl, fun f5 w7 hf5 xt7 hp5 => ?_⟩, ?_⟩
    ·
      have s2 : f5 19 = .pointer (some ⟨bb0, 3, none⟩) := hp5 4 rfl ⟨_, rfl, rfl⟩
      refine ldX (H2.ext xt7) 0 rfl ty3 rfl s2 (by decide) rfl ?_
      exact ⟨_, rfl, rfl, rfl⟩
    refine ⟨⟨rfl, fun f6 w8 hf6 xt8 hp6 => ?_⟩, ?_⟩
    ·
      refine fa fl49_3 rfl (hf6 1 rfl) ?_
      exact ⟨_, rfl, rfl, rfl⟩
    refine ⟨⟨rfl, fun f7 w9 hf7 xt9 hp7 => ?_⟩, ?_⟩
    ·
      have s3 : f7 21 = .pointer (some ⟨bb0, 4, none⟩) := hp7 6 rfl ⟨_, rfl, rfl⟩
      refine ldX (H2.ext xt9) 0 rfl ty42 rfl s3 (by decide) rfl ?_
      exact ⟨_, rfl, rfl, rfl⟩
    refine ⟨⟨rfl, fun f8 w10 hf8 xt10 hp8 => ?_⟩, ?_⟩
    ·
      refine alS ty24 ?_
      exact ⟨rfl, rfl, trivial⟩
    refine ⟨⟨rfl, rfl, rfl, ⟨_, rfl, rfl⟩, ⟨_, rfl, rfl⟩, trivial, by intro _ e_; rw [e_]; rfl, fun f9 w12 bb2 cur0 xt12 s4 hb0 hc0 hv0 => ?_⟩, ?_⟩
    ·
      have e_ := hv0
      exact stS ty24 rfl rfl s4 rfl hb0 ((congrArg (fun v => v.cells.size) e_).trans rfl) hc0 ((congrArg (fun v => v.cells.toList.all Value.oneCell') e_).trans rfl)
    refine ⟨⟨rfl, fun f10 w13 hf9 xt13 hp9 => ?_⟩, ?_⟩
    ·
      have s5 : f10 18 = .int .i64 i := hp9 3 rfl ⟨_, rfl, rfl⟩
      refine asg rfl s5 ?_
      exact ⟨_, rfl, rfl, rfl⟩
    refine ⟨⟨rfl, fun f11 w14 hf10 xt14 hp10 => ?_⟩, ?_⟩
    ·
      have s6 : f11 20 = .int .i64 j := hp10 5 rfl ⟨_, rfl, rfl⟩
      refine asg rfl s6 ?_
      exact ⟨_, rfl, rfl, rfl⟩
    refine ⟨⟨rfl, fun f12 w15 hf11 xt15 hp11 => ?_⟩, ?_⟩
    ·
      have s7 : f12 22 = .slice a_l l.length c_l := hp11 7 rfl ⟨_, rfl, rfl⟩
      refine asg rfl s7 ?_
      exact ⟨_, rfl, rfl, rfl⟩
    exact trivial
  · intro f13 w16 B0 hf12 xt16 hp12 hB0 hd0
    have s8 : f13 4 = .int .i64 i := hp12 10 _ rfl rfl
    have s9 : f13 5 = .int .i64 j := hp12 11 _ rfl rfl
    have s10 : f13 6 = .slice a_l l.length c_l := hp12 12 _ rfl rfl
    have s11 : f13 16 = .agg #[.int .i64 mn, .slice a_mr mr.length c_mr] := hp12 1 _ rfl rfl
    obtain ⟨s12, hg0, cur1, hc1, hk0⟩ := hB0 8 (by decide) trivial
    have hq0 : cur1 = #[.int .i64 mn, .slice a_mr mr.length c_mr] := (hk0.2.1 9 1 rfl rfl).trans (congrArg Value.cells s11)
    rw [hq0] at hc1
    have H4 : HI M w w16 [box (B0 8) #[.int .i64 mn, .slice a_mr mr.length c_mr] 24, box bb0 #[.int .i64 mn, .slice a_mr mr.length c_mr, .int .i64 i, .int .i64 j, .slice a_l l.length c_l] 49, imm (.slice a_l l.length c_l) l, imm (.slice a_mr mr.length c_mr) mr] := H2.lays xt16 [((B0 8), #[.int .i64 mn, .slice a_mr mr.length c_mr], 24)] (by intro q_ hq_; simp only [List.mem_cons, List.not_mem_nil, or_false] at hq_; rcases hq_ with rfl <;> first | exact ⟨hg0, hc1⟩) (by simp only [List.map_cons, List.map_nil, List.nodup_cons, List.mem_cons, List.not_mem_nil, or_false, List.nodup_nil, and_true, not_or, not_false_eq_true, true_and] <;> omega)
    refine nx (sq (sq (rg (k (ldX H4 0 rfl ty24 rfl s12 (by decide) rfl (k ?_))))))
    have cc0 := may14 (mn := mn) (mr := mr) (w := w16) H4.mb (by unfold I64 at *; omega) (H4.rv 3 rfl)
    refine ca go36 rfl (ec rfl e0) cc0 ?_
    rintro _ w17 ⟨rfl, xt17⟩
    have H5 := H4.ext xt17
    refine k (not_ rfl rfl (k (mv (v := .bool (!(smallM mr 16 && rightS mn mr))) rfl rfl ?_)))
    rcases Bool.eq_false_or_eq_true (!(smallM mr 16 && rightS mn mr)) with b0 | b0
    · -- !(smallM mr 16 && rightS mn mr) is True
      refine k (gn rfl rfl rfl b0 (k (gn rfl rfl rfl b0 (k (gn rfl rfl rfl b0 (k (pickT rfl rfl rfl rfl b0 rfl (z (nx (cdT rfl rfl rfl (sq (rg (k ?_)))))))))))))
      have cc1 := awake14 (w := w17) (hT.ext H5.below)
      refine ca go37 rfl e0 cc1 ?_
      rintro _ w18 ⟨rfl, xt18⟩
      have H6 := H5.ext xt18
      refine k (asg (v := .bool true) rfl rfl (z (nx (rt (then_ret (r1 rfl rfl ?_))))))
      exact ⟨rfl, H6.below⟩
    · -- !(smallM mr 16 && rightS mn mr) is False
      refine k (gy rfl rfl rfl b0 (mv rfl s10 (k (gy rfl rfl rfl b0 (lnS rfl rfl un42 (k (gy rfl rfl rfl b0 (gtr rfl rfl rfl rfl (k (pickF rfl rfl rfl rfl b0 rfl (z (nx ?_))))))))))))
      refine cd (b := decide (60 < (l.length : Int))) rfl rfl (fun b1 => ?_) (fun b1 => ?_)
      ·
        have p1 := of_decide_eq_true b1
        refine sq (rg (k ?_))
        have cc1 := awake14 (w := w17) (hT.ext H5.below)
        refine ca go37 rfl e0 cc1 ?_
        rintro _ w18 ⟨rfl, xt18⟩
        have H6 := H5.ext xt18
        refine k (asg (v := .bool true) rfl rfl (z (nx (rt (then_ret (r1 rfl rfl ?_))))))
        exact ⟨rfl, H6.below⟩
      ·
        have p1 := of_decide_eq_false b1
        refine sk (nx (sq ?_))
        have mmm_ : (smallM mr 16 && rightS mn mr) = true := by simpa using ‹(!(smallM mr 16 && rightS mn mr)) = false›
        have rtm_ : rightS mn mr = true := by simp only [Bool.and_eq_true] at mmm_; exact mmm_.2
        refine rg (k (ldX H5 0 rfl ty24 rfl s12 (by decide) rfl (k (mv rfl s8 (k (mv rfl s9 (k ?_)))))))
        have cc1 := path_Find (mn := mn) (mr := mr) (i := i) (j := j) (w := w17) H5.mb (hT.ext H5.below) (by unfold I64 at *; omega) (H5.rv 3 rfl) (by unfold I64 at *; omega) (by unfold I64 at *; omega) (by first | exact rtm_)
        refine ca go38 rfl (ec rfl (ec rfl (ec rfl e0))) cc1 ?_
        rintro _ w18 ⟨a0, c0, rfl, xt18, rv0⟩
        have H6 := H5.ownsG rv0
        refine k (mv (v := .tuple #[.slice a0 ((pathM mn mr i j).getD []).length c0, .bool ((pathM mn mr i j).isSome)]) rfl rfl (k (xt rfl rfl rfl (k (xt rfl rfl rfl (k (asg (v := .slice a0 ((pathM mn mr i j).getD []).length c0) rfl rfl (k (asg (v := .bool ((pathM mn mr i j).isSome)) rfl rfl (z (nx (sq (rg (k (ldX H6 1 rfl ty24 rfl s12 (by decide) rfl (k (mv rfl s8 (k (mv rfl s9 (k ?_))))))))))))))))))))
        have cc2 := ref14_Find (mn := mn) (mr := mr) (i := i) (j := j) (w := w18) H6.mb (by unfold I64 at *; omega) (H6.rv 4 rfl) (by unfold I64 at *; omega) (by unfold I64 at *; omega) (by first | exact rtm_)
        refine ca go39 rfl (ec rfl (ec rfl (ec rfl e0))) cc2 ?_
        rintro _ w19 ⟨a1, c1, rfl, xt19, rv1⟩
        have H7 := H6.ownsG rv1
        refine k (mv (v := .tuple #[.slice a1 ((pathM mn mr i j).getD []).length c1, .bool ((pathM mn mr i j).isSome)]) rfl rfl (k (xt rfl rfl rfl (k (xt rfl rfl rfl (k (asg (v := .slice a1 ((pathM mn mr i j).getD []).length c1) rfl rfl (k (asg (v := .bool ((pathM mn mr i j).isSome)) rfl rfl (z (nx (sq (rg (k (ldX H7 2 rfl ty24 rfl s12 (by decide) rfl (k ?_))))))))))))))))
        have cc3 := path_Round (mn := mn) (mr := mr) (w := w19) H7.mb (hT.ext H7.below) (by unfold I64 at *; omega) (H7.rv 5 rfl) (by first | exact rtm_)
        refine ca go40 rfl (ec rfl e0) cc3 ?_
        rintro _ w20 ⟨a2, c2, rfl, xt20, rv2⟩
        have H8 := H7.ownsG rv2
        refine k (mv (v := .tuple #[.slice a2 ((roundM mn mr).getD []).length c2, .bool ((roundM mn mr).isSome)]) rfl rfl (k (xt rfl rfl rfl (k (xt rfl rfl rfl (k (asg (v := .slice a2 ((roundM mn mr).getD []).length c2) rfl rfl (k (asg (v := .bool ((roundM mn mr).isSome)) rfl rfl (z (nx (sq (rg (k (ldX H8 3 rfl ty24 rfl s12 (by decide) rfl (k ?_))))))))))))))))
        have cc4 := ref14_Round (mn := mn) (mr := mr) (w := w20) H8.mb (by unfold I64 at *; omega) (H8.rv 6 rfl) (by first | exact rtm_)
        refine ca go41 rfl (ec rfl e0) cc4 ?_
        rintro _ w21 ⟨a3, c3, rfl, xt21, rv3⟩
        have H9 := H8.ownsG rv3
        refine k (mv (v := .tuple #[.slice a3 ((roundM mn mr).getD []).length c3, .bool ((roundM mn mr).isSome)]) rfl rfl (k (xt rfl rfl rfl (k (xt rfl rfl rfl (k (asg (v := .slice a3 ((roundM mn mr).getD []).length c3) rfl rfl (k (asg (v := .bool ((roundM mn mr).isSome)) rfl rfl (z (nx (sq ?_))))))))))))
        refine dr 27 [fun (v : Value) (w' : World) => v = .bool true, fun (v : Value) (w' : World) => v = .bool true, fun (v : Value) (w' : World) => v = .slice a0 ((pathM mn mr i j).getD []).length c0, fun (v : Value) (w' : World) => v = .slice a1 ((pathM mn mr i j).getD []).length c1, fun (v : Value) (w' : World) => v = .bool (decide (((pathM mn mr i j).getD []) = ((pathM mn mr i j).getD []))), fun (v : Value) (w' : World) => v = .bool (decide (((pathM mn mr i j).getD []) = ((pathM mn mr i j).getD []))), fun (v : Value) (w' : World) => v = .bool (decide (((pathM mn mr i j).getD []) = ((pathM mn mr i j).getD []))), fun (v : Value) (w' : World) => v = .bool ((pathM mn mr i j).isSome), fun (v : Value) (w' : World) => v = .bool ((pathM mn mr i j).isSome), fun (v : Value) (w' : World) => v = .bool (((pathM mn mr i j).isSome) == ((pathM mn mr i j).isSome)), fun (v : Value) (w' : World) => v = .bool (((pathM mn mr i j).isSome) == ((pathM mn mr i j).isSome)), fun (v : Value) (w' : World) => v = .bool (((pathM mn mr i j).isSome) == ((pathM mn mr i j).isSome)), fun (v : Value) (w' : World) => v = .slice a2 ((roundM mn mr).getD []).length c2, fun (v : Value) (w' : World) => v = .slice a3 ((roundM mn mr).getD []).length c3, fun (v : Value) (w' : World) => v = .bool (decide (((roundM mn mr).getD []) = ((roundM mn mr).getD []))), fun (v : Value) (w' : World) => v = .bool (decide (((roundM mn mr).getD []) = ((roundM mn mr).getD []))), fun (v : Value) (w' : World) => v = .bool (decide (((roundM mn mr).getD []) = ((roundM mn mr).getD []))), fun (v : Value) (w' : World) => v = .bool ((roundM mn mr).isSome), fun (v : Value) (w' : World) => v = .bool ((roundM mn mr).isSome), fun (v : Value) (w' : World) => v = .bool (((roundM mn mr).isSome) == ((roundM mn mr).isSome)), fun (v : Value) (w' : World) => v = .bool (((roundM mn mr).isSome) == ((roundM mn mr).isSome)), fun (v : Value) (w' : World) => v = .bool (((roundM mn mr).isSome) == ((roundM mn mr).isSome)), fun (v : Value) (w' : World) => v = .agg #[.int .i64 mn, .slice a_mr mr.length c_mr], fun (v : Value) (w' : World) => v = .slice a_l l.length c_l, fun (v : Value) (w' : World) => v = .bool (isM mn mr l), fun (v : Value) (w' : World) => v = .agg #[.int .i64 mn, .slice a_mr mr.length c_mr], fun (v : Value) (w' : World) => v = .slice a_l l.length c_l] rfl (by kernel_rfl) ?_ ?_
        ·
          refine ⟨fun _ => ⟨fun f14 w26 hf13 xt26 hp13 => ?_, fun _ _ _ _ h => h⟩, ?_⟩
          ·
            have H18 := H9.ext xt26
            have cc9 := awake14 (w := w26) (hT.ext H18.below)
            refine ca go37 rfl e0 cc9 ?_
            rintro _ w27 ⟨rfl, xt27⟩
            have H19 := H18.ext xt27
            exact ⟨_, rfl, xt27, rfl⟩
          refine ⟨fun _ => ⟨fun f15 w28 hf14 xt28 hp14 => ?_, fun _ _ _ _ h => h⟩, ?_⟩
          ·
            have H20 := H9.ext xt28
            have s13 : f15 56 = .bool true := hp14 0 rfl rfl
            refine mv rfl s13 ?_
            exact ⟨_, rfl, Ext.refl _, rfl⟩
          refine ⟨fun _ => ⟨fun f16 w29 hf15 xt29 hp15 => ?_, fun _ _ _ _ h => h⟩, ?_⟩
          ·
            have H21 := H9.ext xt29
            have s14 : f16 57 = .bool true := hp15 1 rfl rfl
            refine gy rfl rfl s14 rfl (mv rfl (hf15 7 rfl) ?_)
            exact ⟨_, rfl, Ext.refl _, rfl⟩
          refine ⟨fun _ => ⟨fun f17 w30 hf16 xt30 hp16 => ?_, fun _ _ _ _ h => h⟩, ?_⟩
          ·
            have H22 := H9.ext xt30
            have s15 : f17 57 = .bool true := hp16 1 rfl rfl
            refine gy rfl rfl s15 rfl (mv rfl (hf16 9 rfl) ?_)
            exact ⟨_, rfl, Ext.refl _, rfl⟩
          refine ⟨fun _ => ⟨fun f18 w31 hf17 xt31 hp17 => ?_, fun _ _ _ _ h => h⟩, ?_⟩
          ·
            have H23 := H9.ext xt31
            have s16 : f18 57 = .bool true := hp17 1 rfl rfl
            have s17 : f18 58 = .slice a0 ((pathM mn mr i j).getD []).length c0 := hp17 2 rfl rfl
            have s18 : f18 59 = .slice a1 ((pathM mn mr i j).getD []).length c1 := hp17 3 rfl rfl
            refine gy rfl rfl s16 rfl ?_
            have H24 := H23.freeze 3 rfl
            have H25 := H24.freeze 2 rfl
            have cc10 := ref02_Ints (a := ((pathM mn mr i j).getD [])) (b := ((pathM mn mr i j).getD [])) (w := w31) H25.mb (H25.rv 3 rfl) (H25.rv 2 rfl)
            refine ca go42 rfl (ec s17 (ec s18 e0)) cc10 ?_
            rintro _ w32 ⟨rfl, xt32⟩
            have H26 := H23.ext xt32
            exact ⟨_, rfl, xt32, rfl⟩
          refine ⟨fun _ => ⟨fun f19 w33 hf18 xt33 hp18 => ?_, fun _ _ _ _ h => h⟩, ?_⟩
          ·
            have H27 := H9.ext xt33
            have s19 : f19 57 = .bool true := hp18 1 rfl rfl
            have s20 : f19 60 = .bool (decide (((pathM mn mr i j).getD []) = ((pathM mn mr i j).getD []))) := hp18 4 rfl rfl
            refine pickT rfl rfl rfl s19 rfl s20 ?_
            exact ⟨_, rfl, Ext.refl _, rfl⟩
          refine ⟨fun _ => ⟨fun f20 w34 hf19 xt34 hp19 => ?_, fun _ _ _ _ h => h⟩, ?_⟩
          ·
            have H28 := H9.ext xt34
            have s21 : f20 61 = .bool (decide (((pathM mn mr i j).getD []) = ((pathM mn mr i j).getD []))) := hp19 5 rfl rfl
            refine mv rfl s21 ?_
            exact ⟨_, rfl, Ext.refl _, rfl⟩
          refine ⟨fun _ => ⟨fun f21 w35 hf20 xt35 hp20 => ?_, fun _ _ _ _ h => h⟩, ?_⟩
          ·
            have H29 := H9.ext xt35
            have s22 : f21 62 = .bool (decide (((pathM mn mr i j).getD []) = ((pathM mn mr i j).getD []))) := hp20 6 rfl rfl
            have tr4 : (decide (((pathM mn mr i j).getD []) = ((pathM mn mr i j).getD []))) = true := (by simp)
            refine gy rfl rfl s22 tr4 (mv rfl (hf20 8 rfl) ?_)
            exact ⟨_, rfl, Ext.refl _, rfl⟩
          refine ⟨fun _ => ⟨fun f22 w36 hf21 xt36 hp21 => ?_, fun _ _ _ _ h => h⟩, ?_⟩
          ·
            have H30 := H9.ext xt36
            have s23 : f22 62 = .bool (decide (((pathM mn mr i j).getD []) = ((pathM mn mr i j).getD []))) := hp21 6 rfl rfl
            have tr5 : (decide (((pathM mn mr i j).getD []) = ((pathM mn mr i j).getD []))) = true := (by simp)
            refine gy rfl rfl s23 tr5 (mv rfl (hf21 10 rfl) ?_)
            exact ⟨_, rfl, Ext.refl _, rfl⟩
          refine ⟨fun _ => ⟨fun f23 w37 hf22 xt37 hp22 => ?_, fun _ _ _ _ h => h⟩, ?_⟩
          ·
            have H31 := H9.ext xt37
            have s24 : f23 62 = .bool (decide (((pathM mn mr i j).getD []) = ((pathM mn mr i j).getD []))) := hp22 6 rfl rfl
            have s25 : f23 63 = .bool ((pathM mn mr i j).isSome) := hp22 7 rfl rfl
            have s26 : f23 64 = .bool ((pathM mn mr i j).isSome) := hp22 8 rfl rfl
            have tr6 : (decide (((pathM mn mr i j).getD []) = ((pathM mn mr i j).getD []))) = true := (by simp)
            refine gy rfl rfl s24 tr6 (eqB rfl rfl s25 s26 un4 ?_)
            exact ⟨_, rfl, Ext.refl _, rfl⟩
          refine ⟨fun _ => ⟨fun f24 w38 hf23 xt38 hp23 => ?_, fun _ _ _ _ h => h⟩, ?_⟩
          ·
            have H32 := H9.ext xt38
            have s27 : f24 62 = .bool (decide (((pathM mn mr i j).getD []) = ((pathM mn mr i j).getD []))) := hp23 6 rfl rfl
            have s28 : f24 65 = .bool (((pathM mn mr i j).isSome) == ((pathM mn mr i j).isSome)) := hp23 9 rfl rfl
            have tr7 : (decide (((pathM mn mr i j).getD []) = ((pathM mn mr i j).getD []))) = true := (by simp)
            refine pickT rfl rfl rfl s27 tr7 s28 ?_
            exact ⟨_, rfl, Ext.refl _, rfl⟩
          refine ⟨fun _ => ⟨fun f25 w39 hf24 xt39 hp24 => ?_, fun _ _ _ _ h => h⟩, ?_⟩
          ·
            have H33 := H9.ext xt39
            have s29 : f25 66 = .bool (((pathM mn mr i j).isSome) == ((pathM mn mr i j).isSome)) := hp24 10 rfl rfl
            refine mv rfl s29 ?_
            exact ⟨_, rfl, Ext.refl _, rfl⟩
          refine ⟨fun _ => ⟨fun f26 w40 hf25 xt40 hp25 => ?_, fun _ _ _ _ h => h⟩, ?_⟩
          ·
            have H34 := H9.ext xt40
            have s30 : f26 67 = .bool (((pathM mn mr i j).isSome) == ((pathM mn mr i j).isSome)) := hp25 11 rfl rfl
            have tr8 : (((pathM mn mr i j).isSome) == ((pathM mn mr i j).isSome)) = true := (by simp)
            refine gy rfl rfl s30 tr8 (mv rfl (hf25 11 rfl) ?_)
            exact ⟨_, rfl, Ext.refl _, rfl⟩
          refine ⟨fun _ => ⟨fun f27 w41 hf26 xt41 hp26 => ?_, fun _ _ _ _ h => h⟩, ?_⟩
          ·
            have H35 := H9.ext xt41
            have s31 : f27 67 = .bool (((pathM mn mr i j).isSome) == ((pathM mn mr i j).isSome)) := hp26 11 rfl rfl
            have tr9 : (((pathM mn mr i j).isSome) == ((pathM mn mr i j).isSome)) = true := (by simp)
            refine gy rfl rfl s31 tr9 (mv rfl (hf26 13 rfl) ?_)
            exact ⟨_, rfl, Ext.refl _, rfl⟩
          refine ⟨fun _ => ⟨fun f28 w42 hf27 xt42 hp27 => ?_, fun _ _ _ _ h => h⟩, ?_⟩
          ·
            have H36 := H9.ext xt42
            have s32 : f28 67 = .bool (((pathM mn mr i j).isSome) == ((pathM mn mr i j).isSome)) := hp27 11 rfl rfl
            have s33 : f28 68 = .slice a2 ((roundM mn mr).getD []).length c2 := hp27 12 rfl rfl
            have s34 : f28 69 = .slice a3 ((roundM mn mr).getD []).length c3 := hp27 13 rfl rfl
            have tr10 : (((pathM mn mr i j).isSome) == ((pathM mn mr i j).isSome)) = true := (by simp)
            refine gy rfl rfl s32 tr10 ?_
            have H37 := H36.freeze 1 rfl
            have H38 := H37.freeze 0 rfl
            have cc11 := ref02_Ints (a := ((roundM mn mr).getD [])) (b := ((roundM mn mr).getD [])) (w := w42) H38.mb (H38.rv 1 rfl) (H38.rv 0 rfl)
            refine ca go42 rfl (ec s33 (ec s34 e0)) cc11 ?_
            rintro _ w43 ⟨rfl, xt43⟩
            have H39 := H36.ext xt43
            exact ⟨_, rfl, xt43, rfl⟩
          refine ⟨fun _ => ⟨fun f29 w44 hf28 xt44 hp28 => ?_, fun _ _ _ _ h => h⟩, ?_⟩
          ·
            have H40 := H9.ext xt44
            have s35 : f29 67 = .bool (((pathM mn mr i j).isSome) == ((pathM mn mr i j).isSome)) := hp28 11 rfl rfl
            have s36 : f29 70 = .bool (decide (((roundM mn mr).getD []) = ((roundM mn mr).getD []))) := hp28 14 rfl rfl
            have tr11 : (((pathM mn mr i j).isSome) == ((pathM mn mr i j).isSome)) = true := (by simp)
            refine pickT rfl rfl rfl s35 tr11 s36 ?_
            exact ⟨_, rfl, Ext.refl _, rfl⟩
          refine ⟨fun _ => ⟨fun f30 w45 hf29 xt45 hp29 => ?_, fun _ _ _ _ h => h⟩, ?_⟩
          ·
            have H41 := H9.ext xt45
            have s37 : f30 71 = .bool (decide (((roundM mn mr).getD []) = ((roundM mn mr).getD []))) := hp29 15 rfl rfl
            refine mv rfl s37 ?_
            exact ⟨_, rfl, Ext.refl _, rfl⟩
          refine ⟨fun _ => ⟨fun f31 w46 hf30 xt46 hp30 => ?_, fun _ _ _ _ h => h⟩, ?_⟩
          ·
            have H42 := H9.ext xt46
            have s38 : f31 72 = .bool (decide (((roundM mn mr).getD []) = ((roundM mn mr).getD []))) := hp30 16 rfl rfl
            have tr12 : (decide (((roundM mn mr).getD []) = ((roundM mn mr).getD []))) = true := (by simp)
            refine gy rfl rfl s38 tr12 (mv rfl (hf30 12 rfl) ?_)
            exact ⟨_, rfl, Ext.refl _, rfl⟩
          refine ⟨fun _ => ⟨fun f32 w47 hf31 xt47 hp31 => ?_, fun _ _ _ _ h => h⟩, ?_⟩
          ·
            have H43 := H9.ext xt47
            have s39 : f32 72 = .bool (decide (((roundM mn mr).getD []) = ((roundM mn mr).getD []))) := hp31 16 rfl rfl
            have tr13 : (decide (((roundM mn mr).getD []) = ((roundM mn mr).getD []))) = true := (by simp)
            refine gy rfl rfl s39 tr13 (mv rfl (hf31 14 rfl) ?_)
            exact ⟨_, rfl, Ext.refl _, rfl⟩
          refine ⟨fun _ => ⟨fun f33 w48 hf32 xt48 hp32 => ?_, fun _ _ _ _ h => h⟩, ?_⟩
          ·
            have H44 := H9.ext xt48
            have s40 : f33 72 = .bool (decide (((roundM mn mr).getD []) = ((roundM mn mr).getD []))) := hp32 16 rfl rfl
            have s41 : f33 73 = .bool ((roundM mn mr).isSome) := hp32 17 rfl rfl
            have s42 : f33 74 = .bool ((roundM mn mr).isSome) := hp32 18 rfl rfl
            have tr14 : (decide (((roundM mn mr).getD []) = ((roundM mn mr).getD []))) = true := (by simp)
            refine gy rfl rfl s40 tr14 (eqB rfl rfl s41 s42 un4 ?_)
            exact ⟨_, rfl, Ext.refl _, rfl⟩
          refine ⟨fun _ => ⟨fun f34 w49 hf33 xt49 hp33 => ?_, fun _ _ _ _ h => h⟩, ?_⟩
          ·
            have H45 := H9.ext xt49
            have s43 : f34 72 = .bool (decide (((roundM mn mr).getD []) = ((roundM mn mr).getD []))) := hp33 16 rfl rfl
            have s44 : f34 75 = .bool (((roundM mn mr).isSome) == ((roundM mn mr).isSome)) := hp33 19 rfl rfl
            have tr15 : (decide (((roundM mn mr).getD []) = ((roundM mn mr).getD []))) = true := (by simp)
            refine pickT rfl rfl rfl s43 tr15 s44 ?_
            exact ⟨_, rfl, Ext.refl _, rfl⟩
          refine ⟨fun _ => ⟨fun f35 w50 hf34 xt50 hp34 => ?_, fun _ _ _ _ h => h⟩, ?_⟩
          ·
            have H46 := H9.ext xt50
            have s45 : f35 76 = .bool (((roundM mn mr).isSome) == ((roundM mn mr).isSome)) := hp34 20 rfl rfl
            refine mv rfl s45 ?_
            exact ⟨_, rfl, Ext.refl _, rfl⟩
          refine ⟨fun _ => ⟨fun f36 w51 hf35 xt51 hp35 => ?_, fun _ _ _ _ h => h⟩, ?_⟩
          ·
            have H47 := H9.ext xt51
            have s46 : f36 77 = .bool (((roundM mn mr).isSome) == ((roundM mn mr).isSome)) := hp35 21 rfl rfl
            have tr16 : (((roundM mn mr).isSome) == ((roundM mn mr).isSome)) = true := (by simp)
            refine gy rfl rfl s46 tr16 (ldX H47 4 rfl ty24 rfl ((hf35 3 rfl).trans s12) (by decide) rfl ?_)
            exact ⟨_, rfl, Ext.refl _, rfl⟩
          refine ⟨fun _ => ⟨fun f37 w52 hf36 xt52 hp36 => ?_, fun _ _ _ _ h => h⟩, ?_⟩
          ·
            have H48 := H9.ext xt52
            have s47 : f37 77 = .bool (((roundM mn mr).isSome) == ((roundM mn mr).isSome)) := hp36 21 rfl rfl
            have tr17 : (((roundM mn mr).isSome) == ((roundM mn mr).isSome)) = true := (by simp)
            refine gy rfl rfl s47 tr17 (mv rfl ((hf36 6 rfl).trans s10) ?_)
            exact ⟨_, rfl, Ext.refl _, rfl⟩
          refine ⟨fun _ => ⟨fun f38 w53 hf37 xt53 hp37 => ?_, fun _ _ _ _ h => h⟩, ?_⟩
          ·
            have H49 := H9.ext xt53
            have s48 : f38 77 = .bool (((roundM mn mr).isSome) == ((roundM mn mr).isSome)) := hp37 21 rfl rfl
            have s49 : f38 78 = .agg #[.int .i64 mn, .slice a_mr mr.length c_mr] := hp37 22 rfl rfl
            have s50 : f38 79 = .slice a_l l.length c_l := hp37 23 rfl rfl
            have tr18 : (((roundM mn mr).isSome) == ((roundM mn mr).isSome)) = true := (by simp)
            refine gy rfl rfl s48 tr18 ?_
            have cc12 := path_Is (mn := mn) (mr := mr) (l := l) (w := w53) H49.mb (by unfold I64 at *; omega) (H49.rv 7 rfl) (H49.rv 6 rfl) (by first | exact rtm_)
            refine ca go43 rfl (ec s49 (ec s50 e0)) cc12 ?_
            rintro _ w54 ⟨rfl, xt54⟩
            have H50 := H49.ext xt54
            exact ⟨_, rfl, xt54, rfl⟩
          refine ⟨fun _ => ⟨fun f39 w55 hf38 xt55 hp38 => ?_, fun _ _ _ _ h => h⟩, ?_⟩
          ·
            have H51 := H9.ext xt55
            have s51 : f39 77 = .bool (((roundM mn mr).isSome) == ((roundM mn mr).isSome)) := hp38 21 rfl rfl
            have tr19 : (((roundM mn mr).isSome) == ((roundM mn mr).isSome)) = true := (by simp)
            refine gy rfl rfl s51 tr19 (ldX H51 4 rfl ty24 rfl ((hf38 3 rfl).trans s12) (by decide) rfl ?_)
            exact ⟨_, rfl, Ext.refl _, rfl⟩
          refine ⟨fun _ => ⟨fun f40 w56 hf39 xt56 hp39 => ?_, fun _ _ _ _ h => h⟩, ?_⟩
          ·
            have H52 := H9.ext xt56
            have s52 : f40 77 = .bool (((roundM mn mr).isSome) == ((roundM mn mr).isSome)) := hp39 21 rfl rfl
            have tr20 : (((roundM mn mr).isSome) == ((roundM mn mr).isSome)) = true := (by simp)
            refine gy rfl rfl s52 tr20 (mv rfl ((hf39 6 rfl).trans s10) ?_)
            exact ⟨_, rfl, Ext.refl _, rfl⟩
          exact DSteps.rest rfl _
        · intro f41 w57 hf40 xt57 hp40
          have H53 := H9.ext xt57
          have s53 : f41 77 = .bool (((roundM mn mr).isSome) == ((roundM mn mr).isSome)) := hp40 21 rfl
          have s54 : f41 80 = .bool (isM mn mr l) := hp40 24 rfl
          have s55 : f41 81 = .agg #[.int .i64 mn, .slice a_mr mr.length c_mr] := hp40 25 rfl
          have s56 : f41 82 = .slice a_l l.length c_l := hp40 26 rfl
          have tr21 : (((roundM mn mr).isSome) == ((roundM mn mr).isSome)) = true := (by simp)
          refine k (gy rfl rfl s53 tr21 ?_)
          have cc13 := ref14_Is (mn := mn) (mr := mr) (l := l) (w := w57) H53.mb (by unfold I64 at *; omega) (H53.rv 7 rfl) (H53.rv 6 rfl) (by first | exact rtm_)
          refine ca go44 rfl (ec s55 (ec s56 e0)) cc13 ?_
          rintro _ w58 ⟨rfl, xt58⟩
          have H54 := H53.ext xt58
          refine k (gy rfl rfl s53 tr21 (eqB rfl rfl s54 rfl un4 (k (pickT rfl rfl rfl s53 tr21 rfl (k (asg (v := .bool ((isM mn mr l) == (isM mn mr l))) rfl rfl (z (nx (rt (r1 rfl rfl ?_))))))))))
          have tr22 : ((isM mn mr l) == (isM mn mr l)) = true := (by simp)
          have e0 : ((isM mn mr l) == (isM mn mr l) : Bool) = true := by exact tr22
          have ev_ := cg1 (fun (x_0 : Bool) => (.bool x_0 : Value)) e0
          exact ⟨ev_, H54.below⟩
end Go.Proofs.YtmhopljngkgidaaDoor
