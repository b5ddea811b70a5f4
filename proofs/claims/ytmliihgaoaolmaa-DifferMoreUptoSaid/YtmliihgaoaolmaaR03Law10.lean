/- PRINTED by my own tool (wip/tool/gen.py): contracts of Go functions of this seat, each with its proof. -/
import Derived.Test.YtmliihgaoaolmaaR03Fns
import Derived.Test.YtmliihgaoaolmaaEngT
import Derived.Test.YtmliihgaoaolmaaEwSpecM
namespace Go.Proofs.Ytmliihgaoaolmaa
open Go.Ew Go.RowKit
set_option linter.unusedVariables false
set_option linter.unusedSimpArgs false
attribute [local irreducible] WL WC SO Code.wp wpList retQ Ret
attribute [local irreducible] bitB hasW inR hasR setR countW countR subR words newR listR orR firstW tab8
theorem go15 : GoF Try.prog 15 := ⟨_, _, Try.func15, rfl, by kernel_rfl⟩
theorem go16 : GoF Try.prog 16 := ⟨_, _, Try.func16, rfl, by kernel_rfl⟩
theorem go18 : GoF Try.prog 18 := ⟨_, _, Try.func18, rfl, by kernel_rfl⟩
theorem go12 : GoF Try.prog 12 := ⟨_, _, Try.func12, rfl, by kernel_rfl⟩
theorem go14 : GoF Try.prog 14 := ⟨_, _, Try.func14, rfl, by kernel_rfl⟩
theorem go17 : GoF Try.prog 17 := ⟨_, _, Try.func17, rfl, by kernel_rfl⟩
theorem un4 : Try.prog.underlying 4 = some (.bool) := by kernel_rfl
/- eyewitness/eyewitnesslaw10.awake -/
set_option maxRecDepth 100000 in
set_option maxHeartbeats 1600000 in
theorem awake10 {w : World}  : Calls Try.prog 14 #[] w (Ret fun v w' =>  v = .bool true ∧ Ext w w') := by
  refine enter 46 Try.func14 rfl rfl rfl fun f0 ha => ?_
  have H := HI.start (M0 := (fun _ => False)) (w := w) (fun _ h => h.elim)
  refine sq (rg (k (asg (v := .bool false) rfl rfl (z (nx (sq (rg (k (bd (v := .agg #[.bool true, .string ⟨#[120]⟩, .int .i64 1]) rfl (pbc rfl (pbc rfl (pbc rfl pb0))) (fun _ => by kernel_rfl) (k (al H ty66 ?_)))))))))))
  intro bb0 w0 xt0 (H0 : HI (fun _ => False) w w0 [box bb0 #[.bool false, .string ⟨#[]⟩, .int .i64 0] 66])
  refine k (stX H0 0 rfl ty66 rfl rfl rfl rfl rfl rfl rfl ?_)
  intro w1 (H1 : HI (fun _ => False) w w1 [box bb0 #[.bool true, .string ⟨#[120]⟩, .int .i64 1] 66])
  refine z (nx (sq (rg (k (ldX H1 0 rfl ty66 rfl rfl (by decide) rfl (k (ldX H1 0 rfl ty66 rfl rfl (by decide) rfl (k (bs (xs := ([(true, ⟨#[120]⟩, 1), (true, ⟨#[120]⟩, 1)] : List (Bool × ByteArray × Int))) (cells := #[.bool true, .string ⟨#[120]⟩, .int .i64 1, .bool true, .string ⟨#[120]⟩, .int .i64 1]) (e := 66) H1 rfl (pbc rfl (pbc rfl pb0)) (fun _ => by kernel_rfl) ⟨[.bool true, .string ⟨#[120]⟩, .int .i64 1], [.bool true, .string ⟨#[120]⟩, .int .i64 1], rfl, ⟨_, _, rfl, rfl, ⟨_, _, rfl, ⟨rfl, (by first | assumption | decide +kernel)⟩, ⟨rfl, (show I64 (1) from (by first | (unfold I64; decide +kernel) | decide +kernel))⟩⟩⟩, ⟨[.bool true, .string ⟨#[120]⟩, .int .i64 1], [], rfl, ⟨_, _, rfl, rfl, ⟨_, _, rfl, ⟨rfl, (by first | assumption | decide +kernel)⟩, ⟨rfl, (show I64 (1) from (by first | (unfold I64; decide +kernel) | decide +kernel))⟩⟩⟩, rfl⟩⟩ rfl (by unfold maxLen; omega) ?_)))))))))
  intro g0 w2 xt1 (H2 : HI (fun _ => False) w w2 [own w.heap.size 66 (.slice (some ⟨g0, 0, none⟩) 2 2) ([(true, ⟨#[120]⟩, 1), (true, ⟨#[120]⟩, 1)] : List (Bool × ByteArray × Int)), box bb0 #[.bool true, .string ⟨#[120]⟩, .int .i64 1] 66])
  refine k ?_
  have H3 := H2.freeze 0 rfl
  refine bs (xs := ([([(true, ⟨#[120]⟩, 1), (true, ⟨#[120]⟩, 1)] : List (Bool × ByteArray × Int))] : List (List (Bool × ByteArray × Int)))) (cells := #[.slice (some ⟨g0, 0, none⟩) ([(true, ⟨#[120]⟩, 1), (true, ⟨#[120]⟩, 1)] : List (Bool × ByteArray × Int)).length 2]) (e := 58) H3 rfl (pbc rfl pb0) (fun _ => by kernel_rfl) ⟨[.slice (some ⟨g0, 0, none⟩) ([(true, ⟨#[120]⟩, 1), (true, ⟨#[120]⟩, 1)] : List (Bool × ByteArray × Int)).length 2], [], rfl, ⟨_, rfl, RV.list.1 (H3.rv 0 rfl)⟩, rfl⟩ rfl (by unfold maxLen; omega) ?_
  intro g1 w3 xt2 (H4 : HI (fun _ => False) w w3 [own w.heap.size 58 (.slice (some ⟨g1, 0, none⟩) 1 1) ([([(true, ⟨#[120]⟩, 1), (true, ⟨#[120]⟩, 1)] : List (Bool × ByteArray × Int))] : List (List (Bool × ByteArray × Int))), imm (.slice (some ⟨g0, 0, none⟩) 2 2) ([(true, ⟨#[120]⟩, 1), (true, ⟨#[120]⟩, 1)] : List (Bool × ByteArray × Int)), box bb0 #[.bool true, .string ⟨#[120]⟩, .int .i64 1] 66])
  refine k ?_
  have H5 := H4.freeze 0 rfl
  have cc0 := ref09_Of (h := ([([(true, ⟨#[120]⟩, 1), (true, ⟨#[120]⟩, 1)] : List (Bool × ByteArray × Int))] : List (List (Bool × ByteArray × Int)))) (w := w3) H5.mb (H5.rv 0 rfl) (by first | assumption | decide +kernel)
  refine ca go15 rfl (ec rfl e0) cc0 ?_
  rintro _ w4 ⟨a0, c0, a1, c1, a2, c2, rfl, xt3, rv0, rv1, rv2⟩
  have H6 := H5.ext xt3
  have H7 := H6.put (it := imm (.slice a0 (ofV ([([(true, ⟨#[120]⟩, 1), (true, ⟨#[120]⟩, 1)] : List (Bool × ByteArray × Int))] : List (List (Bool × ByteArray × Int)))).length c0) (ofV ([([(true, ⟨#[120]⟩, 1), (true, ⟨#[120]⟩, 1)] : List (Bool × ByteArray × Int))] : List (List (Bool × ByteArray × Int))))) rfl rv0
  have H8 := H7.put (it := imm (.slice a1 (ofI ([([(true, ⟨#[120]⟩, 1), (true, ⟨#[120]⟩, 1)] : List (Bool × ByteArray × Int))] : List (List (Bool × ByteArray × Int)))).length c1) (ofI ([([(true, ⟨#[120]⟩, 1), (true, ⟨#[120]⟩, 1)] : List (Bool × ByteArray × Int))] : List (List (Bool × ByteArray × Int))))) rfl (by rw [MS_cons_none rfl]; exact rv1)
  have H9 := H8.put (it := imm (.slice a2 ([] : List Int).length c2) ([] : List Int)) rfl (by rw [MS_cons_none rfl, MS_cons_none rfl]; exact rv2)
  refine k (mv (v := .tuple #[.agg #[.slice a0 (ofV ([([(true, ⟨#[120]⟩, 1), (true, ⟨#[120]⟩, 1)] : List (Bool × ByteArray × Int))] : List (List (Bool × ByteArray × Int)))).length c0, .slice a1 (ofI ([([(true, ⟨#[120]⟩, 1), (true, ⟨#[120]⟩, 1)] : List (Bool × ByteArray × Int))] : List (List (Bool × ByteArray × Int)))).length c1, .slice a2 ([] : List Int).length c2], .int .i64 (ofE ([([(true, ⟨#[120]⟩, 1), (true, ⟨#[120]⟩, 1)] : List (Bool × ByteArray × Int))] : List (List (Bool × ByteArray × Int))))]) rfl rfl (k (xt rfl rfl rfl (k (xt rfl rfl rfl (k (al H9 ty30 ?_)))))))
  intro bb1 w5 xt4 (H10 : HI (fun _ => False) w w5 [box bb1 #[.slice none 0 0, .slice none 0 0, .slice none 0 0] 30, imm (.slice a2 ([] : List Int).length c2) ([] : List Int), imm (.slice a1 (ofI ([([(true, ⟨#[120]⟩, 1), (true, ⟨#[120]⟩, 1)] : List (Bool × ByteArray × Int))] : List (List (Bool × ByteArray × Int)))).length c1) (ofI ([([(true, ⟨#[120]⟩, 1), (true, ⟨#[120]⟩, 1)] : List (Bool × ByteArray × Int))] : List (List (Bool × ByteArray × Int)))), imm (.slice a0 (ofV ([([(true, ⟨#[120]⟩, 1), (true, ⟨#[120]⟩, 1)] : List (Bool × ByteArray × Int))] : List (List (Bool × ByteArray × Int)))).length c0) (ofV ([([(true, ⟨#[120]⟩, 1), (true, ⟨#[120]⟩, 1)] : List (Bool × ByteArray × Int))] : List (List (Bool × ByteArray × Int)))), imm (.slice (some ⟨g1, 0, none⟩) 1 1) ([([(true, ⟨#[120]⟩, 1), (true, ⟨#[120]⟩, 1)] : List (Bool × ByteArray × Int))] : List (List (Bool × ByteArray × Int))), imm (.slice (some ⟨g0, 0, none⟩) 2 2) ([(true, ⟨#[120]⟩, 1), (true, ⟨#[120]⟩, 1)] : List (Bool × ByteArray × Int)), box bb0 #[.bool true, .string ⟨#[120]⟩, .int .i64 1] 66])
  refine k (stX H10 0 rfl ty30 rfl rfl rfl rfl rfl rfl rfl ?_)
  intro w6 (H11 : HI (fun _ => False) w w6 [box bb1 #[.slice a0 (ofV ([([(true, ⟨#[120]⟩, 1), (true, ⟨#[120]⟩, 1)] : List (Bool × ByteArray × Int))] : List (List (Bool × ByteArray × Int)))).length c0, .slice a1 (ofI ([([(true, ⟨#[120]⟩, 1), (true, ⟨#[120]⟩, 1)] : List (Bool × ByteArray × Int))] : List (List (Bool × ByteArray × Int)))).length c1, .slice a2 ([] : List Int).length c2] 30, imm (.slice a2 ([] : List Int).length c2) ([] : List Int), imm (.slice a1 (ofI ([([(true, ⟨#[120]⟩, 1), (true, ⟨#[120]⟩, 1)] : List (Bool × ByteArray × Int))] : List (List (Bool × ByteArray × Int)))).length c1) (ofI ([([(true, ⟨#[120]⟩, 1), (true, ⟨#[120]⟩, 1)] : List (Bool × ByteArray × Int))] : List (List (Bool × ByteArray × Int)))), imm (.slice a0 (ofV ([([(true, ⟨#[120]⟩, 1), (true, ⟨#[120]⟩, 1)] : List (Bool × ByteArray × Int))] : List (List (Bool × ByteArray × Int)))).length c0) (ofV ([([(true, ⟨#[120]⟩, 1), (true, ⟨#[120]⟩, 1)] : List (Bool × ByteArray × Int))] : List (List (Bool × ByteArray × Int)))), imm (.slice (some ⟨g1, 0, none⟩) 1 1) ([([(true, ⟨#[120]⟩, 1), (true, ⟨#[120]⟩, 1)] : List (Bool × ByteArray × Int))] : List (List (Bool × ByteArray × Int))), imm (.slice (some ⟨g0, 0, none⟩) 2 2) ([(true, ⟨#[120]⟩, 1), (true, ⟨#[120]⟩, 1)] : List (Bool × ByteArray × Int)), box bb0 #[.bool true, .string ⟨#[120]⟩, .int .i64 1] 66])
  refine k (asg (v := .int .i64 (ofE ([([(true, ⟨#[120]⟩, 1), (true, ⟨#[120]⟩, 1)] : List (Bool × ByteArray × Int))] : List (List (Bool × ByteArray × Int))))) rfl rfl (z (nx (sq (rg (k (ldX H11 0 rfl ty30 rfl rfl (by decide) rfl (k ?_))))))))
  have cc1 := differ_Check (fi := (ofI ([([(true, ⟨#[120]⟩, 1), (true, ⟨#[120]⟩, 1)] : List (Bool × ByteArray × Int))] : List (List (Bool × ByteArray × Int))))) (a_fv := a0) (n_fv := (ofV ([([(true, ⟨#[120]⟩, 1), (true, ⟨#[120]⟩, 1)] : List (Bool × ByteArray × Int))] : List (List (Bool × ByteArray × Int)))).length) (c_fv := c0) (a_fo := a2) (n_fo := ([] : List Int).length) (c_fo := c2) (w := w6) H11.mb (H11.rv 2 rfl)
  refine ca go16 rfl (ec rfl e0) cc1 ?_
  rintro _ w7 ⟨rfl, xt5⟩
  have H12 := H11.ext xt5
  refine k (mv (v := .tuple #[.int .i64 ((chkA (ofI ([([(true, ⟨#[120]⟩, 1), (true, ⟨#[120]⟩, 1)] : List (Bool × ByteArray × Int))] : List (List (Bool × ByteArray × Int))))).1), .int .i64 ((chkA (ofI ([([(true, ⟨#[120]⟩, 1), (true, ⟨#[120]⟩, 1)] : List (Bool × ByteArray × Int))] : List (List (Bool × ByteArray × Int))))).2.1), .int .i64 ((chkA (ofI ([([(true, ⟨#[120]⟩, 1), (true, ⟨#[120]⟩, 1)] : List (Bool × ByteArray × Int))] : List (List (Bool × ByteArray × Int))))).2.2)]) rfl rfl (k (xt rfl rfl rfl (k (xt rfl rfl rfl (k (xt rfl rfl rfl (k (asg (v := .int .i64 ((chkA (ofI ([([(true, ⟨#[120]⟩, 1), (true, ⟨#[120]⟩, 1)] : List (Bool × ByteArray × Int))] : List (List (Bool × ByteArray × Int))))).1)) rfl rfl (k (asg (v := .int .i64 ((chkA (ofI ([([(true, ⟨#[120]⟩, 1), (true, ⟨#[120]⟩, 1)] : List (Bool × ByteArray × Int))] : List (List (Bool × ByteArray × Int))))).2.1)) rfl rfl (k (asg (v := .int .i64 ((chkA (ofI ([([(true, ⟨#[120]⟩, 1), (true, ⟨#[120]⟩, 1)] : List (Bool × ByteArray × Int))] : List (List (Bool × ByteArray × Int))))).2.2)) rfl rfl (z (nx (sq (rg (k (ldX H12 0 rfl ty30 rfl rfl (by decide) rfl (k ?_))))))))))))))))))))
  have cc2 := differ_Write (fi := (ofI ([([(true, ⟨#[120]⟩, 1), (true, ⟨#[120]⟩, 1)] : List (Bool × ByteArray × Int))] : List (List (Bool × ByteArray × Int))))) (vr := 0) (val := 1) (a_fv := a0) (n_fv := (ofV ([([(true, ⟨#[120]⟩, 1), (true, ⟨#[120]⟩, 1)] : List (Bool × ByteArray × Int))] : List (List (Bool × ByteArray × Int)))).length) (c_fv := c0) (a_fo := a2) (n_fo := ([] : List Int).length) (c_fo := c2) (w := w7) H12.mb (H12.rv 2 rfl) (by first | (unfold I64; decide +kernel) | decide +kernel) (by first | (unfold I64; decide +kernel) | decide +kernel)
  refine ca go18 rfl (ec rfl (ec rfl (ec rfl e0))) cc2 ?_
  rintro _ w8 ⟨rfl, xt6⟩
  have H13 := H12.ext xt6
  refine k (mv (v := .tuple #[.int .i64 (max (wrI (ofI ([([(true, ⟨#[120]⟩, 1), (true, ⟨#[120]⟩, 1)] : List (Bool × ByteArray × Int))] : List (List (Bool × ByteArray × Int)))) 0 1) 0), .bool (decide (0 ≤ wrI (ofI ([([(true, ⟨#[120]⟩, 1), (true, ⟨#[120]⟩, 1)] : List (Bool × ByteArray × Int))] : List (List (Bool × ByteArray × Int)))) 0 1))]) rfl rfl (k (xt rfl rfl rfl (k (xt rfl rfl rfl (k (asg (v := .int .i64 (max (wrI (ofI ([([(true, ⟨#[120]⟩, 1), (true, ⟨#[120]⟩, 1)] : List (Bool × ByteArray × Int))] : List (List (Bool × ByteArray × Int)))) 0 1) 0)) rfl rfl (k (asg (v := .bool (decide (0 ≤ wrI (ofI ([([(true, ⟨#[120]⟩, 1), (true, ⟨#[120]⟩, 1)] : List (Bool × ByteArray × Int))] : List (List (Bool × ByteArray × Int)))) 0 1))) rfl rfl (z (nx (sq (rg (k (mv (v := .int .i64 ((chkA (ofI ([([(true, ⟨#[120]⟩, 1), (true, ⟨#[120]⟩, 1)] : List (Bool × ByteArray × Int))] : List (List (Bool × ByteArray × Int))))).1)) rfl rfl (k (eql rfl rfl rfl rfl (k (mv (v := .bool (decide (((chkA (ofI ([([(true, ⟨#[120]⟩, 1), (true, ⟨#[120]⟩, 1)] : List (Bool × ByteArray × Int))] : List (List (Bool × ByteArray × Int))))).1) = 0))) rfl rfl ?_)))))))))))))))))))
  have tr0 : (decide (((chkA (ofI ([([(true, ⟨#[120]⟩, 1), (true, ⟨#[120]⟩, 1)] : List (Bool × ByteArray × Int))] : List (List (Bool × ByteArray × Int))))).1) = 0)) = true := (by decide +kernel)
  refine k (gy rfl rfl rfl tr0 (mv (v := .int .i64 ((chkA (ofI ([([(true, ⟨#[120]⟩, 1), (true, ⟨#[120]⟩, 1)] : List (Bool × ByteArray × Int))] : List (List (Bool × ByteArray × Int))))).2.1)) rfl rfl (k (gy rfl rfl rfl tr0 (eql rfl rfl rfl rfl (k (pickT rfl rfl rfl rfl tr0 rfl (k (mv (v := .bool (decide (((chkA (ofI ([([(true, ⟨#[120]⟩, 1), (true, ⟨#[120]⟩, 1)] : List (Bool × ByteArray × Int))] : List (List (Bool × ByteArray × Int))))).2.1) = 1))) rfl rfl ?_)))))))))
  have tr1 : (decide (((chkA (ofI ([([(true, ⟨#[120]⟩, 1), (true, ⟨#[120]⟩, 1)] : List (Bool × ByteArray × Int))] : List (List (Bool × ByteArray × Int))))).2.1) = 1)) = true := (by decide +kernel)
  refine k (gy rfl rfl rfl tr1 (mv (v := .int .i64 ((chkA (ofI ([([(true, ⟨#[120]⟩, 1), (true, ⟨#[120]⟩, 1)] : List (Bool × ByteArray × Int))] : List (List (Bool × ByteArray × Int))))).2.2)) rfl rfl (k (gy rfl rfl rfl tr1 (eql rfl rfl rfl rfl (k (pickT rfl rfl rfl rfl tr1 rfl (k (mv (v := .bool (decide (((chkA (ofI ([([(true, ⟨#[120]⟩, 1), (true, ⟨#[120]⟩, 1)] : List (Bool × ByteArray × Int))] : List (List (Bool × ByteArray × Int))))).2.2) = 4))) rfl rfl ?_)))))))))
  have tr2 : (decide (((chkA (ofI ([([(true, ⟨#[120]⟩, 1), (true, ⟨#[120]⟩, 1)] : List (Bool × ByteArray × Int))] : List (List (Bool × ByteArray × Int))))).2.2) = 4)) = true := (by decide +kernel)
  refine k (gy rfl rfl rfl tr2 (mv (v := .bool (decide (0 ≤ wrI (ofI ([([(true, ⟨#[120]⟩, 1), (true, ⟨#[120]⟩, 1)] : List (Bool × ByteArray × Int))] : List (List (Bool × ByteArray × Int)))) 0 1))) rfl rfl (k (pickT rfl rfl rfl rfl tr2 rfl (k (mv (v := .bool (decide (0 ≤ wrI (ofI ([([(true, ⟨#[120]⟩, 1), (true, ⟨#[120]⟩, 1)] : List (Bool × ByteArray × Int))] : List (List (Bool × ByteArray × Int)))) 0 1))) rfl rfl ?_))))))
  have tr3 : (decide (0 ≤ wrI (ofI ([([(true, ⟨#[120]⟩, 1), (true, ⟨#[120]⟩, 1)] : List (Bool × ByteArray × Int))] : List (List (Bool × ByteArray × Int)))) 0 1)) = true := (by decide +kernel)
  refine k (gy rfl rfl rfl tr3 (mv (v := .int .i64 (max (wrI (ofI ([([(true, ⟨#[120]⟩, 1), (true, ⟨#[120]⟩, 1)] : List (Bool × ByteArray × Int))] : List (List (Bool × ByteArray × Int)))) 0 1) 0)) rfl rfl (k (gy rfl rfl rfl tr3 (eql rfl rfl rfl rfl (k (pickT rfl rfl rfl rfl tr3 rfl (k (asg (v := .bool (decide ((max (wrI (ofI ([([(true, ⟨#[120]⟩, 1), (true, ⟨#[120]⟩, 1)] : List (Bool × ByteArray × Int))] : List (List (Bool × ByteArray × Int)))) 0 1) 0) = 0))) rfl rfl (z (nx (rt (r1 rfl rfl ?_)))))))))))))
  have tr4 : (decide ((max (wrI (ofI ([([(true, ⟨#[120]⟩, 1), (true, ⟨#[120]⟩, 1)] : List (Bool × ByteArray × Int))] : List (List (Bool × ByteArray × Int)))) 0 1) 0) = 0)) = true := (by decide +kernel)
  have e0 : (decide ((max (wrI (ofI ([([(true, ⟨#[120]⟩, 1), (true, ⟨#[120]⟩, 1)] : List (Bool × ByteArray × Int))] : List (List (Bool × ByteArray × Int)))) 0 1) 0) = 0) : Bool) = true := by exact tr4
  have ev_ := cg1 (fun (x_0 : Bool) => (.bool x_0 : Value)) e0
  exact ⟨ev_, H13.below⟩
/- eyewitness/eyewitnesslaw10.DifferTells -/
set_option maxRecDepth 100000 in
set_option maxHeartbeats 1600000 in
theorem law_DifferTells {M : Nat → Prop} {w : World} {a_h : Option Addr} {c_h : Nat} {h : List (List (Bool × ByteArray × Int))} {vr : Int} {val : Int} (hM : ∀ b, M b → b < w.heap.size) (h_h : RV M w (.slice a_h h.length c_h) h) (h_vr : I64 vr) (h_val : I64 val) (hb_h : h.flatten.length ≤ 1048576) : Calls Try.prog 3 #[.slice a_h h.length c_h, .int .i64 vr, .int .i64 val] w (Ret fun v w' =>  v = .bool true ∧ Ext w w') := by
  refine enter 85 Try.func3 rfl rfl rfl fun f0 ha => ?_
  have H := HI.start (M0 := M) (w := w) hM
  have H0 := H.put (it := imm (.slice a_h h.length c_h) h) rfl (by rw [MS_nil]; exact h_h)
  have ln_h := rv_len h_h
  have i0 : f0 0 = .slice a_h h.length c_h := ha 0 (by simp)
  have i1 : f0 1 = .int .i64 vr := ha 1 (by simp)
  have i2 : f0 2 = .int .i64 val := ha 2 (by simp)
  refine sq (rg (k (asg (v := .bool false) rfl rfl (z (nx (sq (sq (rg (k (mv rfl i0 (k ?_)))))))))))
  have cc0 := ref06_Small (h := h) (m := 60) (w := w) H0.mb (H0.rv 0 rfl) (by unfold I64 at *; omega) (by first | assumption | decide +kernel)
  refine ca go12 rfl (ec rfl (ec rfl e0)) cc0 ?_
  rintro _ w0 ⟨rfl, xt0⟩
  have H1 := H0.ext xt0
  refine k (not_ rfl rfl (k (mv (v := .bool (!(smallH h 60))) rfl rfl ?_)))
  rcases Bool.eq_false_or_eq_true (!(smallH h 60)) with b0 | b0
  · -- !(smallH h 60) is True
    refine k (gn rfl rfl rfl b0 (k (gn rfl rfl rfl b0 (k (gn rfl rfl rfl b0 (k (pickT rfl rfl rfl rfl b0 rfl (z (nx (cdT rfl rfl rfl (sq (rg (k ?_)))))))))))))
    have cc1 := awake10 (w := w0)
    refine ca go14 rfl e0 cc1 ?_
    rintro _ w1 ⟨rfl, xt1⟩
    have H2 := H1.ext xt1
    refine k (asg (v := .bool true) rfl rfl (z (nx (rt (then_ret (r1 rfl rfl ?_))))))
    exact ⟨rfl, H2.below⟩
  · -- !(smallH h 60) is False
    refine k (gy rfl rfl rfl b0 (mv rfl i0 (k (gy rfl rfl rfl b0 ?_))))
    have cc1 := ref06_Right (h := h) (w := w0) H1.mb (H1.rv 0 rfl) (by first | assumption | decide +kernel)
    refine ca go13 rfl (ec rfl e0) cc1 ?_
    rintro _ w1 ⟨rfl, xt1⟩
    have H2 := H1.ext xt1
    refine k (gy rfl rfl rfl b0 (not_ rfl rfl (k (pickF rfl rfl rfl rfl b0 rfl (z (nx ?_))))))
    refine cd (b := !(rightH h)) rfl rfl (fun b1 => ?_) (fun b1 => ?_)
    ·
      refine sq (rg (k ?_))
      have cc2 := awake10 (w := w1)
      refine ca go14 rfl e0 cc2 ?_
      rintro _ w2 ⟨rfl, xt2⟩
      have H3 := H2.ext xt2
      refine k (asg (v := .bool true) rfl rfl (z (nx (rt (then_ret (r1 rfl rfl ?_))))))
      exact ⟨rfl, H3.below⟩
    ·
      refine sk (nx (sq (rg (k (mv rfl i0 (k ?_))))))
      have cc2 := ref09_Of (h := h) (w := w1) H2.mb (H2.rv 0 rfl) (by first | assumption | decide +kernel)
      refine ca go15 rfl (ec rfl e0) cc2 ?_
      rintro _ w2 ⟨a0, c0, a1, c1, a2, c2, rfl, xt2, rv0, rv1, rv2⟩
      have H3 := H2.ext xt2
      have H4 := H3.put (it := imm (.slice a0 (ofV h).length c0) (ofV h)) rfl rv0
      have H5 := H4.put (it := imm (.slice a1 (ofI h).length c1) (ofI h)) rfl (by rw [MS_cons_none rfl]; exact rv1)
      have H6 := H5.put (it := imm (.slice a2 ([] : List Int).length c2) ([] : List Int)) rfl (by rw [MS_cons_none rfl, MS_cons_none rfl]; exact rv2)
      refine k (mv (v := .tuple #[.agg #[.slice a0 (ofV h).length c0, .slice a1 (ofI h).length c1, .slice a2 ([] : List Int).length c2], .int .i64 (ofE h)]) rfl rfl (k (xt rfl rfl rfl (k (xt rfl rfl rfl (k (al H6 ty30 ?_)))))))
      intro bb0 w3 xt3 (H7 : HI M w w3 [box bb0 #[.slice none 0 0, .slice none 0 0, .slice none 0 0] 30, imm (.slice a2 ([] : List Int).length c2) ([] : List Int), imm (.slice a1 (ofI h).length c1) (ofI h), imm (.slice a0 (ofV h).length c0) (ofV h), imm (.slice a_h h.length c_h) h])
      refine k (stX H7 0 rfl ty30 rfl rfl rfl rfl rfl rfl rfl ?_)
      intro w4 (H8 : HI M w w4 [box bb0 #[.slice a0 (ofV h).length c0, .slice a1 (ofI h).length c1, .slice a2 ([] : List Int).length c2] 30, imm (.slice a2 ([] : List Int).length c2) ([] : List Int), imm (.slice a1 (ofI h).length c1) (ofI h), imm (.slice a0 (ofV h).length c0) (ofV h), imm (.slice a_h h.length c_h) h])
      refine k (asg (v := .int .i64 (ofE h)) rfl rfl (z (nx (sq (rg (k (ldX H8 0 rfl ty30 rfl rfl (by decide) rfl (k ?_))))))))
      have cc3 := differ_Check (fi := (ofI h)) (a_fv := a0) (n_fv := (ofV h).length) (c_fv := c0) (a_fo := a2) (n_fo := ([] : List Int).length) (c_fo := c2) (w := w4) H8.mb (H8.rv 2 rfl)
      refine ca go16 rfl (ec rfl e0) cc3 ?_
      rintro _ w5 ⟨rfl, xt4⟩
      have H9 := H8.ext xt4
      refine k (mv (v := .tuple #[.int .i64 ((chkA (ofI h)).1), .int .i64 ((chkA (ofI h)).2.1), .int .i64 ((chkA (ofI h)).2.2)]) rfl rfl (k (xt rfl rfl rfl (k (xt rfl rfl rfl (k (xt rfl rfl rfl (k (asg (v := .int .i64 ((chkA (ofI h)).1)) rfl rfl (k (asg (v := .int .i64 ((chkA (ofI h)).2.1)) rfl rfl (k (asg (v := .int .i64 ((chkA (ofI h)).2.2)) rfl rfl (z (nx (sq (rg (k (ldX H9 0 rfl ty30 rfl rfl (by decide) rfl (k ?_))))))))))))))))))))
      have cc4 := ref10_Check (fi := (ofI h)) (a_fv := a0) (n_fv := (ofV h).length) (c_fv := c0) (a_fo := a2) (n_fo := ([] : List Int).length) (c_fo := c2) (w := w5) H9.mb (H9.rv 2 rfl)
      refine ca go17 rfl (ec rfl e0) cc4 ?_
      rintro _ w6 ⟨rfl, xt5⟩
      have H10 := H9.ext xt5
      refine k (mv (v := .tuple #[.int .i64 ((chkA (ofI h)).1), .int .i64 ((chkA (ofI h)).2.1), .int .i64 ((chkA (ofI h)).2.2)]) rfl rfl (k (xt rfl rfl rfl (k (xt rfl rfl rfl (k (xt rfl rfl rfl (k (asg (v := .int .i64 ((chkA (ofI h)).1)) rfl rfl (k (asg (v := .int .i64 ((chkA (ofI h)).2.1)) rfl rfl (k (asg (v := .int .i64 ((chkA (ofI h)).2.2)) rfl rfl (z (nx (sq (rg (k (ldX H10 0 rfl ty30 rfl rfl (by decide) rfl (k (mv rfl i1 (k (mv rfl i2 (k ?_))))))))))))))))))))))))
      have cc5 := differ_Write (fi := (ofI h)) (vr := vr) (val := val) (a_fv := a0) (n_fv := (ofV h).length) (c_fv := c0) (a_fo := a2) (n_fo := ([] : List Int).length) (c_fo := c2) (w := w6) H10.mb (H10.rv 2 rfl) (by unfold I64 at *; omega) (by unfold I64 at *; omega)
      refine ca go18 rfl (ec rfl (ec rfl (ec rfl e0))) cc5 ?_
      rintro _ w7 ⟨rfl, xt6⟩
      have H11 := H10.ext xt6
      refine k (mv (v := .tuple #[.int .i64 (max (wrI (ofI h) vr val) 0), .bool (decide (0 ≤ wrI (ofI h) vr val))]) rfl rfl (k (xt rfl rfl rfl (k (xt rfl rfl rfl (k (asg (v := .int .i64 (max (wrI (ofI h) vr val) 0)) rfl rfl (k (asg (v := .bool (decide (0 ≤ wrI (ofI h) vr val))) rfl rfl (z (nx (sq (rg (k (ldX H11 0 rfl ty30 rfl rfl (by decide) rfl (k (mv rfl i1 (k (mv rfl i2 (k ?_))))))))))))))))))))
      have cc6 := ref10_Write (fi := (ofI h)) (vr := vr) (val := val) (a_fv := a0) (n_fv := (ofV h).length) (c_fv := c0) (a_fo := a2) (n_fo := ([] : List Int).length) (c_fo := c2) (w := w7) H11.mb (H11.rv 2 rfl) (by unfold I64 at *; omega) (by unfold I64 at *; omega)
      refine ca go19 rfl (ec rfl (ec rfl (ec rfl e0))) cc6 ?_
      rintro _ w8 ⟨rfl, xt7⟩
      have H12 := H11.ext xt7
      refine k (mv (v := .tuple #[.int .i64 (max (wrI (ofI h) vr val) 0), .bool (decide (0 ≤ wrI (ofI h) vr val))]) rfl rfl (k (xt rfl rfl rfl (k (xt rfl rfl rfl (k (asg (v := .int .i64 (max (wrI (ofI h) vr val) 0)) rfl rfl (k (asg (v := .bool (decide (0 ≤ wrI (ofI h) vr val))) rfl rfl (z (nx (sq (rg (k ?_))))))))))))))
      have cc7 := awake10 (w := w8)
      refine ca go14 rfl e0 cc7 ?_
      rintro _ w9 ⟨rfl, xt8⟩
      have H13 := H12.ext xt8
      refine k (mv (v := .bool true) rfl rfl (k (gy rfl rfl rfl rfl (mv (v := .int .i64 ((chkA (ofI h)).1)) rfl rfl (k (gy rfl rfl rfl rfl (mv (v := .int .i64 ((chkA (ofI h)).1)) rfl rfl (k (gy rfl rfl rfl rfl (eql rfl rfl rfl rfl (k (pickT rfl rfl rfl rfl rfl rfl (k (mv (v := .bool (decide (((chkA (ofI h)).1) = ((chkA (ofI h)).1)))) rfl rfl ?_))))))))))))))
      have tr0 : (decide (((chkA (ofI h)).1) = ((chkA (ofI h)).1))) = true := (by simp)
      refine k (gy rfl rfl rfl tr0 (mv (v := .int .i64 ((chkA (ofI h)).2.1)) rfl rfl (k (gy rfl rfl rfl tr0 (mv (v := .int .i64 ((chkA (ofI h)).2.1)) rfl rfl (k (gy rfl rfl rfl tr0 (eql rfl rfl rfl rfl (k (pickT rfl rfl rfl rfl tr0 rfl (k (mv (v := .bool (decide (((chkA (ofI h)).2.1) = ((chkA (ofI h)).2.1)))) rfl rfl ?_))))))))))))
      have tr1 : (decide (((chkA (ofI h)).2.1) = ((chkA (ofI h)).2.1))) = true := (by simp)
      refine k (gy rfl rfl rfl tr1 (mv (v := .int .i64 ((chkA (ofI h)).2.2)) rfl rfl (k (gy rfl rfl rfl tr1 (mv (v := .int .i64 ((chkA (ofI h)).2.2)) rfl rfl (k (gy rfl rfl rfl tr1 (eql rfl rfl rfl rfl (k (pickT rfl rfl rfl rfl tr1 rfl (k (mv (v := .bool (decide (((chkA (ofI h)).2.2) = ((chkA (ofI h)).2.2)))) rfl rfl ?_))))))))))))
      have tr2 : (decide (((chkA (ofI h)).2.2) = ((chkA (ofI h)).2.2))) = true := (by simp)
      refine k (gy rfl rfl rfl tr2 (mv (v := .int .i64 (max (wrI (ofI h) vr val) 0)) rfl rfl (k (gy rfl rfl rfl tr2 (mv (v := .int .i64 (max (wrI (ofI h) vr val) 0)) rfl rfl (k (gy rfl rfl rfl tr2 (eql rfl rfl rfl rfl (k (pickT rfl rfl rfl rfl tr2 rfl (k (mv (v := .bool (decide ((max (wrI (ofI h) vr val) 0) = (max (wrI (ofI h) vr val) 0)))) rfl rfl ?_))))))))))))
      have tr3 : (decide ((max (wrI (ofI h) vr val) 0) = (max (wrI (ofI h) vr val) 0))) = true := (by simp)
      refine k (gy rfl rfl rfl tr3 (mv (v := .bool (decide (0 ≤ wrI (ofI h) vr val))) rfl rfl (k (gy rfl rfl rfl tr3 (mv (v := .bool (decide (0 ≤ wrI (ofI h) vr val))) rfl rfl (k (gy rfl rfl rfl tr3 (eqB rfl rfl rfl rfl un4 (k (pickT rfl rfl rfl rfl tr3 rfl (k (asg (v := .bool ((decide (0 ≤ wrI (ofI h) vr val)) == (decide (0 ≤ wrI (ofI h) vr val)))) rfl rfl (z (nx (rt (r1 rfl rfl ?_))))))))))))))))
      have tr4 : ((decide (0 ≤ wrI (ofI h) vr val)) == (decide (0 ≤ wrI (ofI h) vr val))) = true := (by simp)
      have e0 : ((decide (0 ≤ wrI (ofI h) vr val)) == (decide (0 ≤ wrI (ofI h) vr val)) : Bool) = true := by exact tr4
      have ev_ := cg1 (fun (x_0 : Bool) => (.bool x_0 : Value)) e0
      exact ⟨ev_, H13.below⟩
/- eyewitness/eyewitnesslaw10.DifferOnly -/
set_option maxRecDepth 100000 in
set_option maxHeartbeats 1600000 in
theorem law_DifferOnly {M : Nat → Prop} {w : World} {a_h : Option Addr} {c_h : Nat} {h : List (List (Bool × ByteArray × Int))} (hM : ∀ b, M b → b < w.heap.size) (h_h : RV M w (.slice a_h h.length c_h) h) (hb_h : h.flatten.length ≤ 1048576) : Calls Try.prog 4 #[.slice a_h h.length c_h] w (Ret fun v w' =>  v = .bool true ∧ Ext w w') := by
  refine enter 157 Try.func4 rfl rfl rfl fun f0 ha => ?_
  have H := HI.start (M0 := M) (w := w) hM
  have H0 := H.put (it := imm (.slice a_h h.length c_h) h) rfl (by rw [MS_nil]; exact h_h)
  have ln_h := rv_len h_h
  have i0 : f0 0 = .slice a_h h.length c_h := ha 0 (by simp)
  refine sq (rg (k (asg (v := .bool false) rfl rfl (z (nx (sq (sq (rg (k (mv rfl i0 (k ?_)))))))))))
  have cc0 := ref06_Small (h := h) (m := 60) (w := w) H0.mb (H0.rv 0 rfl) (by unfold I64 at *; omega) (by first | assumption | decide +kernel)
  refine ca go12 rfl (ec rfl (ec rfl e0)) cc0 ?_
  rintro _ w0 ⟨rfl, xt0⟩
  have H1 := H0.ext xt0
  refine k (not_ rfl rfl (k (mv (v := .bool (!(smallH h 60))) rfl rfl ?_)))
  rcases Bool.eq_false_or_eq_true (!(smallH h 60)) with b0 | b0
  · -- !(smallH h 60) is True
    refine k (gn rfl rfl rfl b0 (k (gn rfl rfl rfl b0 (k (gn rfl rfl rfl b0 (k (pickT rfl rfl rfl rfl b0 rfl (z (nx (cdT rfl rfl rfl (sq (rg (k ?_)))))))))))))
    have cc1 := awake10 (w := w0)
    refine ca go14 rfl e0 cc1 ?_
    rintro _ w1 ⟨rfl, xt1⟩
    have H2 := H1.ext xt1
    refine k (asg (v := .bool true) rfl rfl (z (nx (rt (then_ret (r1 rfl rfl ?_))))))
    exact ⟨rfl, H2.below⟩
  · -- !(smallH h 60) is False
    refine k (gy rfl rfl rfl b0 (mv rfl i0 (k (gy rfl rfl rfl b0 ?_))))
    have cc1 := ref06_Right (h := h) (w := w0) H1.mb (H1.rv 0 rfl) (by first | assumption | decide +kernel)
    refine ca go13 rfl (ec rfl e0) cc1 ?_
    rintro _ w1 ⟨rfl, xt1⟩
    have H2 := H1.ext xt1
    refine k (gy rfl rfl rfl b0 (not_ rfl rfl (k (pickF rfl rfl rfl rfl b0 rfl (z (nx ?_))))))
    refine cd (b := !(rightH h)) rfl rfl (fun b1 => ?_) (fun b1 => ?_)
    ·
      refine sq (rg (k ?_))
      have cc2 := awake10 (w := w1)
      refine ca go14 rfl e0 cc2 ?_
      rintro _ w2 ⟨rfl, xt2⟩
      have H3 := H2.ext xt2
      refine k (asg (v := .bool true) rfl rfl (z (nx (rt (then_ret (r1 rfl rfl ?_))))))
      exact ⟨rfl, H3.below⟩
    ·
      refine sk (nx (sq (rg (k (mv rfl i0 (k ?_))))))
      have cc2 := ref09_Of (h := h) (w := w1) H2.mb (H2.rv 0 rfl) (by first | assumption | decide +kernel)
      refine ca go15 rfl (ec rfl e0) cc2 ?_
      rintro _ w2 ⟨a0, c0, a1, c1, a2, c2, rfl, xt2, rv0, rv1, rv2⟩
      have H3 := H2.ext xt2
      have H4 := H3.put (it := imm (.slice a0 (ofV h).length c0) (ofV h)) rfl rv0
      have H5 := H4.put (it := imm (.slice a1 (ofI h).length c1) (ofI h)) rfl (by rw [MS_cons_none rfl]; exact rv1)
      have H6 := H5.put (it := imm (.slice a2 ([] : List Int).length c2) ([] : List Int)) rfl (by rw [MS_cons_none rfl, MS_cons_none rfl]; exact rv2)
      refine k (mv (v := .tuple #[.agg #[.slice a0 (ofV h).length c0, .slice a1 (ofI h).length c1, .slice a2 ([] : List Int).length c2], .int .i64 (ofE h)]) rfl rfl (k (xt rfl rfl rfl (k (xt rfl rfl rfl (k (al H6 ty30 ?_)))))))
      intro bb0 w3 xt3 (H7 : HI M w w3 [box bb0 #[.slice none 0 0, .slice none 0 0, .slice none 0 0] 30, imm (.slice a2 ([] : List Int).length c2) ([] : List Int), imm (.slice a1 (ofI h).length c1) (ofI h), imm (.slice a0 (ofV h).length c0) (ofV h), imm (.slice a_h h.length c_h) h])
      refine k (stX H7 0 rfl ty30 rfl rfl rfl rfl rfl rfl rfl ?_)
      intro w4 (H8 : HI M w w4 [box bb0 #[.slice a0 (ofV h).length c0, .slice a1 (ofI h).length c1, .slice a2 ([] : List Int).length c2] 30, imm (.slice a2 ([] : List Int).length c2) ([] : List Int), imm (.slice a1 (ofI h).length c1) (ofI h), imm (.slice a0 (ofV h).length c0) (ofV h), imm (.slice a_h h.length c_h) h])
      refine k (asg (v := .int .i64 (ofE h)) rfl rfl (z (nx (sq (rg (k (ldX H8 0 rfl ty30 rfl rfl (by decide) rfl (k ?_))))))))
      have cc3 := differ_Check (fi := (ofI h)) (a_fv := a0) (n_fv := (ofV h).length) (c_fv := c0) (a_fo := a2) (n_fo := ([] : List Int).length) (c_fo := c2) (w := w4) H8.mb (H8.rv 2 rfl)
      refine ca go16 rfl (ec rfl e0) cc3 ?_
      rintro _ w5 ⟨rfl, xt4⟩
      have H9 := H8.ext xt4
      refine k (mv (v := .tuple #[.int .i64 ((chkA (ofI h)).1), .int .i64 ((chkA (ofI h)).2.1), .int .i64 ((chkA (ofI h)).2.2)]) rfl rfl (k (xt rfl rfl rfl (k (xt rfl rfl rfl (k (xt rfl rfl rfl (k (asg (v := .int .i64 ((chkA (ofI h)).1)) rfl rfl (k (asg (v := .int .i64 ((chkA (ofI h)).2.1)) rfl rfl (k (asg (v := .int .i64 ((chkA (ofI h)).2.2)) rfl rfl (z (nx (sq (sq (rg (k (mv (v := .int .i64 ((chkA (ofI h)).2.2)) rfl rfl (k (neq rfl rfl rfl rfl (z (nx ?_))))))))))))))))))))))))
      refine cd (b := !decide (((chkA (ofI h)).2.2) = 0)) rfl rfl (fun b2 => ?_) (fun b2 => ?_)
      ·
        have p2 := of_decide_eq_false (nott b2)
        refine sq (sq ?_)
        obtain ⟨x_, y_, hx_, hy_, c0_, c1_, c2_, hw1_, hw2_, hv_, hn_, h5_, h4_⟩ := chk_bad (its := ofI h) p2
        refine rg (k (mv (v := .int .i64 ((chkA (ofI h)).1)) rfl rfl (k (lss rfl rfl rfl rfl (k (mv (v := .bool (decide (((chkA (ofI h)).1) < 0))) rfl rfl ?_))))))
        have tr0 : (decide (((chkA (ofI h)).1) < 0)) = false := (by rw [decide_eq_false_iff_not]; omega)
        refine k (gy rfl rfl rfl tr0 (mv (v := .int .i64 ((chkA (ofI h)).2.1)) rfl rfl (k (gy rfl rfl rfl tr0 (mv (v := .int .i64 ((chkA (ofI h)).1)) rfl rfl (k (gy rfl rfl rfl tr0 (lss rfl rfl rfl rfl (k (pickF rfl rfl rfl rfl tr0 rfl (k (mv (v := .bool (decide (((chkA (ofI h)).2.1) < ((chkA (ofI h)).1)))) rfl rfl ?_))))))))))))
        have tr1 : (decide (((chkA (ofI h)).2.1) < ((chkA (ofI h)).1))) = false := (by rw [decide_eq_false_iff_not]; omega)
        refine k (gy rfl rfl rfl tr1 (mv (v := .int .i64 ((chkA (ofI h)).2.1)) rfl rfl (k (gy rfl rfl rfl tr1 (fa fl30_1 rfl rfl (k (gy rfl rfl rfl tr1 (ldX H9 0 rfl ty27 rfl rfl (by decide) rfl (k (gy rfl rfl rfl tr1 (lnS rfl rfl un27 (k (gy rfl rfl rfl tr1 (geq rfl rfl rfl rfl (k (pickF rfl rfl rfl rfl tr1 rfl (z (nx ?_))))))))))))))))))
        have tr2 : (decide (((ofI h).length : Int) ≤ ((chkA (ofI h)).2.1))) = false := (by rw [decide_eq_false_iff_not]; omega)
        refine cdF rfl rfl tr2 (sk (nx (sq ?_)))
        obtain ⟨x0, hx0⟩ : ∃ x, (ofI h)[((chkA (ofI h)).1).toNat]? = some x := ⟨_, List.getElem?_eq_getElem (by first | omega | (simp; omega))⟩
        obtain ⟨x1, hx1⟩ : ∃ x, (ofI h)[((chkA (ofI h)).2.1).toNat]? = some x := ⟨_, List.getElem?_eq_getElem (by first | omega | (simp; omega))⟩
        refine drs [.v, .v, .v, .v, .v, .v, .v, .v, .v, .v, .n, .n, .s 10 4, .s 11 9] [fun (v : Value) => v = .pointer (some ⟨bb0, 1, none⟩), fun (v : Value) => v = .slice a1 (ofI h).length c1, fun (v : Value) => v = .int .i64 ((chkA (ofI h)).1), fun (v : Value) => ∃ (ad0 : Addr), v = .pointer (some ad0) ∧ At (MS M [box bb0 #[.slice a0 (ofV h).length c0, .slice a1 (ofI h).length c1, .slice a2 ([] : List Int).length c2] 30, imm (.slice a2 ([] : List Int).length c2) ([] : List Int), imm (.slice a1 (ofI h).length c1) (ofI h), imm (.slice a0 (ofV h).length c0) (ofV h), imm (.slice a_h h.length c_h) h]) w5 ad0 x0, fun (v : Value) => v = .agg #[.int .i64 x0.1, .int .i64 x0.2.1, .bool x0.2.2.1, .int .i64 x0.2.2.2.1, .int .i64 x0.2.2.2.2] ∧ I64 (x0.1) ∧ I64 (x0.2.1) ∧ I64 (x0.2.2.2.1) ∧ I64 (x0.2.2.2.2), fun (v : Value) => v = .pointer (some ⟨bb0, 1, none⟩), fun (v : Value) => v = .slice a1 (ofI h).length c1, fun (v : Value) => v = .int .i64 ((chkA (ofI h)).2.1), fun (v : Value) => ∃ (ad1 : Addr), v = .pointer (some ad1) ∧ At (MS M [box bb0 #[.slice a0 (ofV h).length c0, .slice a1 (ofI h).length c1, .slice a2 ([] : List Int).length c2] 30, imm (.slice a2 ([] : List Int).length c2) ([] : List Int), imm (.slice a1 (ofI h).length c1) (ofI h), imm (.slice a0 (ofV h).length c0) (ofV h), imm (.slice a_h h.length c_h) h]) w5 ad1 x1, fun (v : Value) => v = .agg #[.int .i64 x1.1, .int .i64 x1.2.1, .bool x1.2.2.1, .int .i64 x1.2.2.2.1, .int .i64 x1.2.2.2.2] ∧ I64 (x1.1) ∧ I64 (x1.2.1) ∧ I64 (x1.2.2.2.1) ∧ I64 (x1.2.2.2.2), fun _ => True, fun _ => True, fun _ => True, fun _ => True] [(#[], 0), (#[], 0), (#[], 0), (#[], 0), (#[], 0), (#[], 0), (#[], 0), (#[], 0), (#[], 0), (#[], 0), (#[.int .i64 0, .int .i64 0, .bool false, .int .i64 0, .int .i64 0], 40), (#[.int .i64 0, .int .i64 0, .bool false, .int .i64 0, .int .i64 0], 40), (#[], 0), (#[], 0)] rfl (by kernel_rfl) ?_ ?_
        ·
          refine ⟨⟨rfl, fun f0 w8 hf0 xt7 hp0 => ?_⟩, ?_⟩
          ·
            refine fa fl30_1 rfl (hf0 3 rfl) ?_
            exact ⟨_, rfl, rfl, rfl⟩
          refine ⟨⟨rfl, fun f1 w9 hf1 xt8 hp1 => ?_⟩, ?_⟩
          ·
            have s0 : f1 50 = .pointer (some ⟨bb0, 1, none⟩) := hp1 0 rfl ⟨_, rfl, rfl⟩
            refine ldX (H9.ext xt8) 0 rfl ty27 rfl s0 (by decide) rfl ?_
            exact ⟨_, rfl, rfl, rfl⟩
          refine ⟨⟨rfl, fun f2 w10 hf2 xt9 hp2 => ?_⟩, ?_⟩
          ·
            refine mv rfl (hf2 5 rfl) ?_
            exact ⟨_, rfl, rfl, rfl⟩
          refine ⟨⟨rfl, fun f3 w11 hf3 xt10 hp3 => ?_⟩, ?_⟩
          ·
            have s1 : f3 51 = .slice a1 (ofI h).length c1 := hp3 1 rfl ⟨_, rfl, rfl⟩
            have s2 : f3 52 = .int .i64 ((chkA (ofI h)).1) := hp3 2 rfl ⟨_, rfl, rfl⟩
            refine iax (H9.rv 2 rfl) rfl rfl s1 s2 (by first | omega | (simp; omega)) un27 ty40 ?_
            intro ad2 x2 hx2 hA2
            obtain rfl : x0 = x2 := Option.some.inj (hx0.symm.trans hx2)
            exact ⟨_, rfl, rfl, ⟨ad2, rfl, hA2⟩⟩
          refine ⟨⟨rfl, fun f4 w12 hf4 xt11 hp4 => ?_⟩, ?_⟩
          ·
            obtain ⟨ad3, s3, hA3⟩ : ∃ (ad3 : Addr), f4 53 = .pointer (some ad3) ∧ At (MS M [box bb0 #[.slice a0 (ofV h).length c0, .slice a1 (ofI h).length c1, .slice a2 ([] : List Int).length c2] 30, imm (.slice a2 ([] : List Int).length c2) ([] : List Int), imm (.slice a1 (ofI h).length c1) (ofI h), imm (.slice a0 (ofV h).length c0) (ofV h), imm (.slice a_h h.length c_h) h]) w5 ad3 x0 := hp4 3 rfl ⟨_, rfl, rfl⟩
            have H12 := H9.put (it := atI ad3 x0) rfl hA3
            refine ldWx (H12.atv 0 rfl).w xt11 ty40 rfl s3 ?_
            intro v2 rv13
            obtain ⟨_, ⟨_, _, rfl, ⟨rfl, rv14⟩, ⟨_, _, rfl, ⟨rfl, rv15⟩, ⟨_, _, rfl, rfl, ⟨_, _, rfl, ⟨rfl, rv16⟩, ⟨rfl, rv17⟩⟩⟩⟩⟩, rfl⟩ := rv13
            exact ⟨_, rfl, rfl, ⟨rfl, rv14, rv15, rv16, rv17⟩⟩
          refine ⟨⟨rfl, fun f5 w13 hf5 xt12 hp5 => ?_⟩, ?_⟩
          ·
            refine fa fl30_1 rfl (hf5 3 rfl) ?_
            exact ⟨_, rfl, rfl, rfl⟩
          refine ⟨⟨rfl, fun f6 w14 hf6 xt13 hp6 => ?_⟩, ?_⟩
          ·
            have s4 : f6 55 = .pointer (some ⟨bb0, 1, none⟩) := hp6 5 rfl ⟨_, rfl, rfl⟩
            refine ldX (H9.ext xt13) 0 rfl ty27 rfl s4 (by decide) rfl ?_
            exact ⟨_, rfl, rfl, rfl⟩
          refine ⟨⟨rfl, fun f7 w15 hf7 xt14 hp7 => ?_⟩, ?_⟩
          ·
            refine mv rfl (hf7 6 rfl) ?_
            exact ⟨_, rfl, rfl, rfl⟩
          refine ⟨⟨rfl, fun f8 w16 hf8 xt15 hp8 => ?_⟩, ?_⟩
          ·
            have s5 : f8 56 = .slice a1 (ofI h).length c1 := hp8 6 rfl ⟨_, rfl, rfl⟩
            have s6 : f8 57 = .int .i64 ((chkA (ofI h)).2.1) := hp8 7 rfl ⟨_, rfl, rfl⟩
            refine iax (H9.rv 2 rfl) rfl rfl s5 s6 (by first | omega | (simp; omega)) un27 ty40 ?_
            intro ad4 x3 hx3 hA4
            obtain rfl : x1 = x3 := Option.some.inj (hx1.symm.trans hx3)
            exact ⟨_, rfl, rfl, ⟨ad4, rfl, hA4⟩⟩
          refine ⟨⟨rfl, fun f9 w17 hf9 xt16 hp9 => ?_⟩, ?_⟩
          ·
            obtain ⟨ad5, s7, hA5⟩ : ∃ (ad5 : Addr), f9 58 = .pointer (some ad5) ∧ At (MS M [box bb0 #[.slice a0 (ofV h).length c0, .slice a1 (ofI h).length c1, .slice a2 ([] : List Int).length c2] 30, imm (.slice a2 ([] : List Int).length c2) ([] : List Int), imm (.slice a1 (ofI h).length c1) (ofI h), imm (.slice a0 (ofV h).length c0) (ofV h), imm (.slice a_h h.length c_h) h]) w5 ad5 x1 := hp9 8 rfl ⟨_, rfl, rfl⟩
            have H13 := H9.put (it := atI ad5 x1) rfl hA5
            refine ldWx (H13.atv 0 rfl).w xt16 ty40 rfl s7 ?_
            intro v3 rv18
            obtain ⟨_, ⟨_, _, rfl, ⟨rfl, rv19⟩, ⟨_, _, rfl, ⟨rfl, rv20⟩, ⟨_, _, rfl, rfl, ⟨_, _, rfl, ⟨rfl, rv21⟩, ⟨rfl, rv22⟩⟩⟩⟩⟩, rfl⟩ := rv18
            exact ⟨_, rfl, rfl, ⟨rfl, rv19, rv20, rv21, rv22⟩⟩
          refine ⟨⟨rfl, fun f10 w18 hf10 xt17 hp10 => ?_⟩, ?_⟩
          ·
            refine alS ty40 ?_
            exact ⟨rfl, rfl, trivial⟩
          refine ⟨⟨rfl, fun f11 w20 hf11 xt19 hp11 => ?_⟩, ?_⟩
          ·
            refine alS ty40 ?_
            exact ⟨rfl, rfl, trivial⟩
          refine ⟨⟨rfl, rfl, rfl, ⟨_, rfl, rfl⟩, ⟨_, rfl, rfl⟩, trivial, by rintro _ ⟨e_, rv4, rv5, rv6, rv7⟩; subst e_; rfl, fun f12 w22 bb3 cur0 xt21 s8 hb0 hc0 hv0 => ?_⟩, ?_⟩
          ·
            obtain ⟨e_, rv4, rv5, rv6, rv7⟩ := hv0
            exact stS ty40 rfl rfl s8 rfl hb0 ((congrArg (fun v => v.cells.size) e_).trans rfl) hc0 ((congrArg (fun v => v.cells.toList.all Value.oneCell') e_).trans rfl)
          refine ⟨⟨rfl, rfl, rfl, ⟨_, rfl, rfl⟩, ⟨_, rfl, rfl⟩, trivial, by rintro _ ⟨e_, rv9, rv10, rv11, rv12⟩; subst e_; rfl, fun f13 w23 bb4 cur1 xt22 s9 hb1 hc1 hv1 => ?_⟩, ?_⟩
          ·
            obtain ⟨e_, rv9, rv10, rv11, rv12⟩ := hv1
            exact stS ty40 rfl rfl s9 rfl hb1 ((congrArg (fun v => v.cells.size) e_).trans rfl) hc1 ((congrArg (fun v => v.cells.toList.all Value.oneCell') e_).trans rfl)
          exact trivial
        · intro f14 w24 B0 hf12 xt23 hp12 hB0 hd0
          have s10 : f14 5 = .int .i64 ((chkA (ofI h)).1) := hf12 5 rfl
          have s11 : f14 6 = .int .i64 ((chkA (ofI h)).2.1) := hf12 6 rfl
          have s12 : f14 7 = .int .i64 ((chkA (ofI h)).2.2) := hf12 7 rfl
          obtain ⟨s13, rv23, rv24, rv25, rv26⟩ : f14 54 = .agg #[.int .i64 x0.1, .int .i64 x0.2.1, .bool x0.2.2.1, .int .i64 x0.2.2.2.1, .int .i64 x0.2.2.2.2] ∧ I64 (x0.1) ∧ I64 (x0.2.1) ∧ I64 (x0.2.2.2.1) ∧ I64 (x0.2.2.2.2) := hp12 4 _ rfl rfl
          obtain ⟨s14, rv27, rv28, rv29, rv30⟩ : f14 59 = .agg #[.int .i64 x1.1, .int .i64 x1.2.1, .bool x1.2.2.1, .int .i64 x1.2.2.2.1, .int .i64 x1.2.2.2.2] ∧ I64 (x1.1) ∧ I64 (x1.2.1) ∧ I64 (x1.2.2.2.1) ∧ I64 (x1.2.2.2.2) := hp12 9 _ rfl rfl
          obtain ⟨s15, hg0, cur2, hc2, hk0⟩ := hB0 10 (by decide) trivial
          have hq0 : cur2 = #[.int .i64 x0.1, .int .i64 x0.2.1, .bool x0.2.2.1, .int .i64 x0.2.2.2.1, .int .i64 x0.2.2.2.2] := (hk0.2.1 12 4 rfl rfl).trans (congrArg Value.cells s13)
          rw [hq0] at hc2
          obtain ⟨s16, hg1, cur3, hc3, hk1⟩ := hB0 11 (by decide) trivial
          have hq1 : cur3 = #[.int .i64 x1.1, .int .i64 x1.2.1, .bool x1.2.2.1, .int .i64 x1.2.2.2.1, .int .i64 x1.2.2.2.2] := (hk1.2.1 13 9 rfl rfl).trans (congrArg Value.cells s14)
          rw [hq1] at hc3
          have hd0_1 := hd0 10 11 (by decide) (by decide) (by decide) trivial trivial
          have H14 : HI M w w24 [box (B0 10) #[.int .i64 x0.1, .int .i64 x0.2.1, .bool x0.2.2.1, .int .i64 x0.2.2.2.1, .int .i64 x0.2.2.2.2] 40, box (B0 11) #[.int .i64 x1.1, .int .i64 x1.2.1, .bool x1.2.2.1, .int .i64 x1.2.2.2.1, .int .i64 x1.2.2.2.2] 40, box bb0 #[.slice a0 (ofV h).length c0, .slice a1 (ofI h).length c1, .slice a2 ([] : List Int).length c2] 30, imm (.slice a2 ([] : List Int).length c2) ([] : List Int), imm (.slice a1 (ofI h).length c1) (ofI h), imm (.slice a0 (ofV h).length c0) (ofV h), imm (.slice a_h h.length c_h) h] := H9.lays xt23 [((B0 10), #[.int .i64 x0.1, .int .i64 x0.2.1, .bool x0.2.2.1, .int .i64 x0.2.2.2.1, .int .i64 x0.2.2.2.2], 40), ((B0 11), #[.int .i64 x1.1, .int .i64 x1.2.1, .bool x1.2.2.1, .int .i64 x1.2.2.2.1, .int .i64 x1.2.2.2.2], 40)] (by intro q_ hq_; simp only [List.mem_cons, List.not_mem_nil, or_false] at hq_; rcases hq_ with rfl | rfl <;> first | exact ⟨hg0, hc2⟩ | exact ⟨hg1, hc3⟩) (by simp only [List.map_cons, List.map_nil, List.nodup_cons, List.mem_cons, List.not_mem_nil, or_false, List.nodup_nil, and_true, not_or, not_false_eq_true, true_and]; omega)
          refine nx (sq ?_)
          obtain rfl := at_is hx0 hx_
          obtain rfl := at_is hx1 hy_
          refine rg (k ?_)
          have cc4 := awake10 (w := w24)
          refine ca go14 rfl e0 cc4 ?_
          rintro _ w25 ⟨rfl, xt24⟩
          have H15 := H14.ext xt24
          refine k (mv (v := .bool true) rfl rfl (k (gy rfl rfl rfl rfl (fa fl40_2 rfl s15 (k (gy rfl rfl rfl rfl (ldX H15 0 rfl ty4 rfl rfl (by decide) rfl (k (pickT rfl rfl rfl rfl rfl rfl (k (mv (v := .bool x0.2.2.1) rfl rfl (k (gy rfl rfl rfl hw1_ (fa fl40_2 rfl s16 (k (gy rfl rfl rfl hw1_ (ldX H15 1 rfl ty4 rfl rfl (by decide) rfl (k (pickT rfl rfl rfl rfl hw1_ rfl (k (mv (v := .bool x1.2.2.1) rfl rfl (k (gy rfl rfl rfl hw2_ (fa fl40_3 rfl s15 (k (gy rfl rfl rfl hw2_ (ldX H15 0 rfl ty3 rfl rfl (by decide) rfl (k (gy rfl rfl rfl hw2_ (fa fl40_3 rfl s16 (k (gy rfl rfl rfl hw2_ (ldX H15 1 rfl ty3 rfl rfl (by decide) rfl (k (gy rfl rfl rfl hw2_ (eql rfl rfl rfl rfl (k (pickT rfl rfl rfl rfl hw2_ rfl (k (mv (v := .bool (decide (x0.2.2.2.1 = x1.2.2.2.1))) rfl rfl (k (gy rfl rfl rfl (decide_eq_true hv_) (fa fl40_4 rfl s15 (k (gy rfl rfl rfl (decide_eq_true hv_) (ldX H15 0 rfl ty3 rfl rfl (by decide) rfl (k (gy rfl rfl rfl (decide_eq_true hv_) (fa fl40_4 rfl s16 (k (gy rfl rfl rfl (decide_eq_true hv_) (ldX H15 1 rfl ty3 rfl rfl (by decide) rfl (k (gy rfl rfl rfl (decide_eq_true hv_) (eql rfl rfl rfl rfl (k (pickT rfl rfl rfl rfl (decide_eq_true hv_) rfl (k (mv (v := .bool (decide (x0.2.2.2.2 = x1.2.2.2.2))) rfl rfl (k (gy rfl rfl rfl (decide_eq_true hn_) (mv rfl s12 (k (gy rfl rfl rfl (decide_eq_true hn_) (eql rfl rfl rfl rfl (k (gy rfl rfl rfl (decide_eq_true hn_) (mv (v := .bool (decide (((chkA (ofI h)).2.2) = 5))) rfl rfl ?_))))))))))))))))))))))))))))))))))))))))))))))))))))))))))))))))))))
          rcases Bool.eq_false_or_eq_true (decide (((chkA (ofI h)).2.2) = 5)) with b3 | b3
          · -- decide (((chkA (ofI h)).2.2) = 5) is True
            have p3 := of_decide_eq_true b3
            refine k (gy rfl rfl rfl b3 (mv rfl s10 (k (gy rfl rfl rfl b3 (mv rfl s11 (k (gy rfl rfl rfl b3 (eql rfl rfl rfl rfl (k (gy rfl rfl rfl (decide_eq_true hn_) (pickT rfl rfl rfl rfl b3 rfl (k (gy rfl rfl rfl (decide_eq_true hn_) (mv (v := .bool (decide (((chkA (ofI h)).1) = ((chkA (ofI h)).2.1)))) rfl rfl (k (gy rfl rfl rfl (decide_eq_true (h5_ (of_decide_eq_true b3)).1) (fa fl40_4 rfl s15 (k (gy rfl rfl rfl (decide_eq_true (h5_ (of_decide_eq_true b3)).1) (ldX H15 0 rfl ty3 rfl rfl (by decide) rfl (k (gy rfl rfl rfl (decide_eq_true (h5_ (of_decide_eq_true b3)).1) (eql rfl rfl rfl rfl (k (gy rfl rfl rfl (decide_eq_true hn_) (pickT rfl rfl rfl rfl (decide_eq_true (h5_ (of_decide_eq_true b3)).1) rfl (k (gy rfl rfl rfl (decide_eq_true hn_) (mv (v := .bool (decide (x0.2.2.2.2 = 0))) rfl rfl (k (gn rfl rfl rfl (decide_eq_true (h5_ (of_decide_eq_true b3)).2) (k (gn rfl rfl rfl (decide_eq_true (h5_ (of_decide_eq_true b3)).2) (k (gn rfl rfl rfl (decide_eq_true (h5_ (of_decide_eq_true b3)).2) (k (gu rfl rfl rfl (k (gu rfl rfl rfl (k (gu rfl rfl rfl (k (gn rfl rfl rfl (decide_eq_true (h5_ (of_decide_eq_true b3)).2) (k (gn rfl rfl rfl (decide_eq_true (h5_ (of_decide_eq_true b3)).2) (k (gu rfl rfl rfl (k (gu rfl rfl rfl (k (gu rfl rfl rfl (k (gn rfl rfl rfl (decide_eq_true (h5_ (of_decide_eq_true b3)).2) (k (gy rfl rfl rfl (decide_eq_true hn_) (pickT rfl rfl rfl rfl (decide_eq_true (h5_ (of_decide_eq_true b3)).2) rfl (k (pickT rfl rfl rfl rfl (decide_eq_true hn_) rfl (k (asg (v := .bool true) rfl rfl (z (nx (rt (then_ret (r1 rfl rfl ?_)))))))))))))))))))))))))))))))))))))))))))))))))))))))))))))))))
            exact ⟨rfl, H15.below⟩
          · -- decide (((chkA (ofI h)).2.2) = 5) is False
            have p3 := of_decide_eq_false b3
            refine k (gn rfl rfl rfl b3 (k (gn rfl rfl rfl b3 (k (gn rfl rfl rfl b3 (k (gy rfl rfl rfl (decide_eq_true hn_) (pickF rfl rfl rfl rfl b3 rfl (k (gy rfl rfl rfl (decide_eq_true hn_) (mv (v := .bool false) rfl rfl (k (gn rfl rfl rfl rfl (k (gn rfl rfl rfl rfl (k (gn rfl rfl rfl rfl (k (gy rfl rfl rfl (decide_eq_true hn_) (pickF rfl rfl rfl rfl rfl rfl (k (gy rfl rfl rfl (decide_eq_true hn_) (mv (v := .bool false) rfl rfl (k (gy rfl rfl rfl rfl (mv rfl s12 (k (gy rfl rfl rfl rfl (eql rfl rfl rfl rfl (k (gy rfl rfl rfl rfl (mv (v := .bool (decide (((chkA (ofI h)).2.2) = 4))) rfl rfl (k (gy rfl rfl rfl (decide_eq_true (h4_ (of_decide_eq_false b3)).1) (mv rfl s10 (k (gy rfl rfl rfl (decide_eq_true (h4_ (of_decide_eq_false b3)).1) (mv rfl s11 (k (gy rfl rfl rfl (decide_eq_true (h4_ (of_decide_eq_false b3)).1) (lss rfl rfl rfl rfl (k (gy rfl rfl rfl rfl (pickT rfl rfl rfl rfl (decide_eq_true (h4_ (of_decide_eq_false b3)).1) rfl (k (gy rfl rfl rfl rfl (mv (v := .bool (decide (((chkA (ofI h)).1) < ((chkA (ofI h)).2.1)))) rfl rfl (k (gy rfl rfl rfl (decide_eq_true (h4_ (of_decide_eq_false b3)).2.1) (fa fl40_4 rfl s15 (k (gy rfl rfl rfl (decide_eq_true (h4_ (of_decide_eq_false b3)).2.1) (ldX H15 0 rfl ty3 rfl rfl (by decide) rfl (k (gy rfl rfl rfl (decide_eq_true (h4_ (of_decide_eq_false b3)).2.1) (neq rfl rfl rfl rfl (k (gy rfl rfl rfl rfl (pickT rfl rfl rfl rfl (decide_eq_true (h4_ (of_decide_eq_false b3)).2.1) rfl (k (gy rfl rfl rfl (decide_eq_true hn_) (pickF rfl rfl rfl rfl rfl rfl (k (pickT rfl rfl rfl rfl (decide_eq_true hn_) rfl (k (asg (v := .bool (!decide (x0.2.2.2.2 = 0))) rfl rfl (z (nx (rt (then_ret (r1 rfl rfl ?_)))))))))))))))))))))))))))))))))))))))))))))))))))))))))))))))))))))))
            have e0 : (!decide (x0.2.2.2.2 = 0) : Bool) = true := by exact (by rw [show decide (x0.2.2.2.2 = 0) = false from (decide_eq_false (h4_ (of_decide_eq_false b3)).2.2)]; rfl)
            have ev_ := cg1 (fun (x_0 : Bool) => (.bool x_0 : Value)) e0
            exact ⟨ev_, H15.below⟩
      ·
        have p2 := of_decide_eq_true (notf b2)
        refine sk (nx (sq (sq ?_)))
        have hz_ : (chkA (ofI h)).2.2 = 0 := p2
        have hl_ := ofI_len h
        refine rg (k (asg (v := .int .i64 0) rfl rfl (z (nx (bk ?_)))))
        refine lp (fun m f w' => ∃ (j : Nat), m = (ofI h).length - j ∧ f 3 = .pointer (some ⟨bb0, 0, none⟩) ∧ f 5 = .int .i64 ((chkA (ofI h)).1) ∧ f 6 = .int .i64 ((chkA (ofI h)).2.1) ∧ f 10 = .int .i64 (j : Int) ∧  HI M w w' [box bb0 #[.slice a0 (ofV h).length c0, .slice a1 (ofI h).length c1, .slice a2 ([] : List Int).length c2] 30, imm (.slice a2 ([] : List Int).length c2) ([] : List Int), imm (.slice a1 (ofI h).length c1) (ofI h), imm (.slice a0 (ofV h).length c0) (ofV h), imm (.slice a_h h.length c_h) h] ∧ (j ≤ (ofI h).length)) _ ⟨0, rfl, rfl, rfl, rfl, (ieq rfl (by first | rfl | omega | simp)), H9, (by first | assumption | omega | simp | (simp; omega))⟩ ?_
        rintro _ f0 w6 ⟨j, rfl, s0, s1, s2, s3, H10, hk⟩
        refine sq (sq (rg (k (mv rfl s3 (k (fa fl30_1 rfl s0 (k (ldX H10 0 rfl ty27 rfl rfl (by decide) rfl (k (lnS rfl rfl un27 (k (lss rfl rfl rfl rfl (z (nx ?_))))))))))))))
        refine cd (b := decide ((j : Int) < ((ofI h).length : Int))) rfl rfl (fun b3 => ?_) (fun b3 => ?_)
        ·
          have p3 := of_decide_eq_true b3
          refine sk (nx (sq (bk (sq (rg (k (fa fl30_1 rfl s0 (k (ldX H10 0 rfl ty27 rfl rfl (by decide) rfl (k (mv rfl s3 (k (ia (H10.rv 2 rfl) rfl rfl rfl rfl (by first | omega | (simp; omega)) un27 ty40 ?_)))))))))))))
          intro ad0 x0 hx0 hA0
          refine k (ldW hA0.w ty40 rfl rfl ?_)
          intro v0 rv3
          obtain ⟨_, ⟨_, _, rfl, ⟨rfl, rv4⟩, ⟨_, _, rfl, ⟨rfl, rv5⟩, ⟨_, _, rfl, rfl, ⟨_, _, rfl, ⟨rfl, rv6⟩, ⟨rfl, rv7⟩⟩⟩⟩⟩, rfl⟩ := rv3
          refine k (al H10 ty40 ?_)
          intro bb1 w7 xt5 (H11 : HI M w w7 [box bb1 #[.int .i64 0, .int .i64 0, .bool false, .int .i64 0, .int .i64 0] 40, box bb0 #[.slice a0 (ofV h).length c0, .slice a1 (ofI h).length c1, .slice a2 ([] : List Int).length c2] 30, imm (.slice a2 ([] : List Int).length c2) ([] : List Int), imm (.slice a1 (ofI h).length c1) (ofI h), imm (.slice a0 (ofV h).length c0) (ofV h), imm (.slice a_h h.length c_h) h])
          refine k (stX H11 0 rfl ty40 rfl rfl rfl rfl rfl rfl rfl ?_)
          intro w8 (H12 : HI M w w8 [box bb1 #[.int .i64 x0.1, .int .i64 x0.2.1, .bool x0.2.2.1, .int .i64 x0.2.2.2.1, .int .i64 x0.2.2.2.2] 40, box bb0 #[.slice a0 (ofV h).length c0, .slice a1 (ofI h).length c1, .slice a2 ([] : List Int).length c2] 30, imm (.slice a2 ([] : List Int).length c2) ([] : List Int), imm (.slice a1 (ofI h).length c1) (ofI h), imm (.slice a0 (ofV h).length c0) (ofV h), imm (.slice a_h h.length c_h) h])
          refine z (nx (sq (rg (k (ldX H12 1 rfl ty30 rfl s0 (by decide) rfl (k (fa fl40_3 rfl rfl (k (ldX H12 0 rfl ty3 rfl rfl (by decide) rfl (k (fa fl40_4 rfl rfl (k (ldX H12 0 rfl ty3 rfl rfl (by decide) rfl (k ?_))))))))))))))
          have cc4 := differ_Write (fi := (ofI h)) (vr := x0.2.2.2.1) (val := x0.2.2.2.2) (a_fv := a0) (n_fv := (ofV h).length) (c_fv := c0) (a_fo := a2) (n_fo := ([] : List Int).length) (c_fo := c2) (w := w8) H12.mb (H12.rv 3 rfl) (by unfold I64 at *; omega) (by unfold I64 at *; omega)
          refine ca go18 rfl (ec rfl (ec rfl (ec rfl e0))) cc4 ?_
          rintro _ w9 ⟨rfl, xt6⟩
          have H13 := H12.ext xt6
          refine k (mv (v := .tuple #[.int .i64 (max (wrI (ofI h) x0.2.2.2.1 x0.2.2.2.2) 0), .bool (decide (0 ≤ wrI (ofI h) x0.2.2.2.1 x0.2.2.2.2))]) rfl rfl (k (xt rfl rfl rfl (k (xt rfl rfl rfl (k (asg (v := .int .i64 (max (wrI (ofI h) x0.2.2.2.1 x0.2.2.2.2) 0)) rfl rfl (k (asg (v := .bool (decide (0 ≤ wrI (ofI h) x0.2.2.2.1 x0.2.2.2.2))) rfl rfl (z (nx (sq (rg (k (fa fl40_2 rfl rfl (k (ldX H13 0 rfl ty4 rfl rfl (by decide) rfl (k (mv (v := .bool x0.2.2.1) rfl rfl ?_)))))))))))))))))))
          rcases Bool.eq_false_or_eq_true (x0.2.2.1) with b4 | b4
          · -- x0.2.2.1 is True
            refine k (gy rfl rfl rfl b4 (mv (v := .bool (decide (0 ≤ wrI (ofI h) x0.2.2.2.1 x0.2.2.2.2))) rfl rfl (k (gy rfl rfl rfl b4 (not_ rfl rfl (k (gy rfl rfl rfl b4 (mv (v := .bool (!(decide (0 ≤ wrI (ofI h) x0.2.2.2.1 x0.2.2.2.2)))) rfl rfl ?_))))))))
            have tr0 : (decide (0 ≤ wrI (ofI h) x0.2.2.2.1 x0.2.2.2.2)) = true := (by have g_ := chk_good hz_ hx0 b4; rw [decide_eq_true_eq]; omega)
            refine k (gy rfl rfl rfl (by rw [show decide (0 ≤ wrI (ofI h) x0.2.2.2.1 x0.2.2.2.2) = true from tr0]; rfl) (mv (v := .int .i64 (max (wrI (ofI h) x0.2.2.2.1 x0.2.2.2.2) 0)) rfl rfl (k (gy rfl rfl rfl (by rw [show decide (0 ≤ wrI (ofI h) x0.2.2.2.1 x0.2.2.2.2) = true from tr0]; rfl) (mv rfl s3 (k (gy rfl rfl rfl (by rw [show decide (0 ≤ wrI (ofI h) x0.2.2.2.1 x0.2.2.2.2) = true from tr0]; rfl) (neq rfl rfl rfl rfl (k (gy rfl rfl rfl b4 (pickF rfl rfl rfl rfl (by rw [show decide (0 ≤ wrI (ofI h) x0.2.2.2.1 x0.2.2.2.2) = true from tr0]; rfl) rfl (k (gy rfl rfl rfl b4 (mv (v := .bool (!decide ((max (wrI (ofI h) x0.2.2.2.1 x0.2.2.2.2) 0) = (j : Int)))) rfl rfl ?_))))))))))))))
            have tr1 : (decide ((max (wrI (ofI h) x0.2.2.2.1 x0.2.2.2.2) 0) = (j : Int))) = true := (by have g_ := chk_good hz_ hx0 b4; rw [decide_eq_true_eq]; omega)
            refine k (gy rfl rfl rfl (by rw [show decide ((max (wrI (ofI h) x0.2.2.2.1 x0.2.2.2.2) 0) = (j : Int)) = true from tr1]; rfl) (fa fl40_4 rfl rfl (k (gy rfl rfl rfl (by rw [show decide ((max (wrI (ofI h) x0.2.2.2.1 x0.2.2.2.2) 0) = (j : Int)) = true from tr1]; rfl) (ldX H13 0 rfl ty3 rfl rfl (by decide) rfl (k (gy rfl rfl rfl (by rw [show decide ((max (wrI (ofI h) x0.2.2.2.1 x0.2.2.2.2) 0) = (j : Int)) = true from tr1]; rfl) (eql rfl rfl rfl rfl (k (gy rfl rfl rfl b4 (pickF rfl rfl rfl rfl (by rw [show decide ((max (wrI (ofI h) x0.2.2.2.1 x0.2.2.2.2) 0) = (j : Int)) = true from tr1]; rfl) rfl (k (pickT rfl rfl rfl rfl b4 rfl (z (nx (cdF rfl rfl (decide_eq_false (chk_good hz_ hx0 b4).1) (sk (inb_normal (nx (rg (k (mv rfl s3 (k (add rfl rfl rfl rfl (by unfold I64 at *; omega) (k (asg (v := .int .i64 ((j : Int) + 1)) rfl rfl (z ?_)))))))))))))))))))))))))))
            have H14 : HI M w w9 [box bb0 #[.slice a0 (ofV h).length c0, .slice a1 (ofI h).length c1, .slice a2 ([] : List Int).length c2] 30, imm (.slice a2 ([] : List Int).length c2) ([] : List Int), imm (.slice a1 (ofI h).length c1) (ofI h), imm (.slice a0 (ofV h).length c0) (ofV h), imm (.slice a_h h.length c_h) h] := H13.pickN [1, 2, 3, 4, 5] (by decide) rfl
            refine loopN _ ?_ ⟨(j + 1), rfl, s0, s1, s2, (ieq rfl (by first | rfl | omega | (push_cast; omega))), H14, (by first | assumption | omega | simp | (simp; omega))⟩
            omega
          · -- x0.2.2.1 is False
            refine k (gn rfl rfl rfl b4 (k (gn rfl rfl rfl b4 (k (gn rfl rfl rfl b4 (k (gu rfl rfl rfl (k (gu rfl rfl rfl (k (gu rfl rfl rfl (k (gn rfl rfl rfl b4 (k (gn rfl rfl rfl b4 (k (gu rfl rfl rfl (k (gu rfl rfl rfl (k (gu rfl rfl rfl (k (gn rfl rfl rfl b4 (k (pickF rfl rfl rfl rfl b4 rfl (z (nx (cdF rfl rfl rfl (sk (inb_normal (nx (rg (k (mv rfl s3 (k (add rfl rfl rfl rfl (by unfold I64 at *; omega) (k (asg (v := .int .i64 ((j : Int) + 1)) rfl rfl (z ?_)))))))))))))))))))))))))))))))))))))))
            have H14 : HI M w w9 [box bb0 #[.slice a0 (ofV h).length c0, .slice a1 (ofI h).length c1, .slice a2 ([] : List Int).length c2] 30, imm (.slice a2 ([] : List Int).length c2) ([] : List Int), imm (.slice a1 (ofI h).length c1) (ofI h), imm (.slice a0 (ofV h).length c0) (ofV h), imm (.slice a_h h.length c_h) h] := H13.pickN [1, 2, 3, 4, 5] (by decide) rfl
            refine loopN _ ?_ ⟨(j + 1), rfl, s0, s1, s2, (ieq rfl (by first | rfl | omega | (push_cast; omega))), H14, (by first | assumption | omega | simp | (simp; omega))⟩
            omega
        ·
          have p3 := of_decide_eq_false b3
          refine ex (then_exit (loop_exit (inb_here (nx (sq (rg (k ?_)))))))
          have cc4 := awake10 (w := w6)
          refine ca go14 rfl e0 cc4 ?_
          rintro _ w7 ⟨rfl, xt5⟩
          have H11 := H10.ext xt5
          refine k (mv (v := .bool true) rfl rfl (k (gy rfl rfl rfl rfl (mv rfl s1 (k (gy rfl rfl rfl rfl (eql rfl rfl rfl rfl (k (pickT rfl rfl rfl rfl rfl rfl (k (mv (v := .bool (decide (((chkA (ofI h)).1) = 0))) rfl rfl (k (gy rfl rfl rfl (decide_eq_true (chk_ok0 hz_).1) (mv rfl s2 (k (gy rfl rfl rfl (decide_eq_true (chk_ok0 hz_).1) (eql rfl rfl rfl rfl (k (pickT rfl rfl rfl rfl (decide_eq_true (chk_ok0 hz_).1) rfl (k (asg (v := .bool (decide (((chkA (ofI h)).2.1) = 0))) rfl rfl (z (nx (rt (r1 rfl rfl ?_)))))))))))))))))))))))))
          have e0 : (decide (((chkA (ofI h)).2.1) = 0) : Bool) = true := by exact (decide_eq_true (chk_ok0 hz_).2)
          have ev_ := cg1 (fun (x_0 : Bool) => (.bool x_0 : Value)) e0
          exact ⟨ev_, H11.below⟩
/- eyewitness/eyewitnesslaw10.DifferMore -/
set_option maxRecDepth 100000 in
set_option maxHeartbeats 1600000 in
theorem law_DifferMore {M : Nat → Prop} {w : World} {a_a : Option Addr} {c_a : Nat} {a : List (List (Bool × ByteArray × Int))} {a_b : Option Addr} {c_b : Nat} {b : List (List (Bool × ByteArray × Int))} (hM : ∀ b, M b → b < w.heap.size) (h_a : RV M w (.slice a_a a.length c_a) a) (h_b : RV M w (.slice a_b b.length c_b) b) (hb_a : a.flatten.length ≤ 1048576) (hb_b : b.flatten.length ≤ 1048576) : Calls Try.prog 5 #[.slice a_a a.length c_a, .slice a_b b.length c_b] w (Ret fun v w' =>  v = .bool true ∧ Ext w w') := by
  refine enter 95 Try.func5 rfl rfl rfl fun f0 ha => ?_
  have H := HI.start (M0 := M) (w := w) hM
  have H0 := H.put (it := imm (.slice a_a a.length c_a) a) rfl (by rw [MS_nil]; exact h_a)
  have H1 := H0.put (it := imm (.slice a_b b.length c_b) b) rfl (by rw [MS_cons_none rfl, MS_nil]; exact h_b)
  have ln_a := rv_len h_a
  have ln_b := rv_len h_b
  have i0 : f0 0 = .slice a_a a.length c_a := ha 0 (by simp)
  have i1 : f0 1 = .slice a_b b.length c_b := ha 1 (by simp)
  refine sq (rg (k (asg (v := .bool false) rfl rfl (z (nx (sq (sq (rg (k (mv rfl i0 (k ?_)))))))))))
  have cc0 := ref06_Small (h := a) (m := 40) (w := w) H1.mb (H1.rv 1 rfl) (by unfold I64 at *; omega) (by first | assumption | decide +kernel)
  refine ca go12 rfl (ec rfl (ec rfl e0)) cc0 ?_
  rintro _ w0 ⟨rfl, xt0⟩
  have H2 := H1.ext xt0
  refine k (not_ rfl rfl (k (mv (v := .bool (!(smallH a 40))) rfl rfl ?_)))
  rcases Bool.eq_false_or_eq_true (!(smallH a 40)) with b0 | b0
  · -- !(smallH a 40) is True
    refine k (gn rfl rfl rfl b0 (k (gn rfl rfl rfl b0 (k (gn rfl rfl rfl b0 (k (pickT rfl rfl rfl rfl b0 rfl (k (mv (v := .bool true) rfl rfl (k (gn rfl rfl rfl rfl (k (gn rfl rfl rfl rfl (k (gn rfl rfl rfl rfl (k (pickT rfl rfl rfl rfl rfl rfl (k (mv (v := .bool true) rfl rfl (k (gn rfl rfl rfl rfl (k (gn rfl rfl rfl rfl (k (gn rfl rfl rfl rfl (k (pickT rfl rfl rfl rfl rfl rfl (z (nx (cdT rfl rfl rfl (sq (rg (k ?_)))))))))))))))))))))))))))))))))
    have cc1 := awake10 (w := w0)
    refine ca go14 rfl e0 cc1 ?_
    rintro _ w1 ⟨rfl, xt1⟩
    have H3 := H2.ext xt1
    refine k (asg (v := .bool true) rfl rfl (z (nx (rt (then_ret (r1 rfl rfl ?_))))))
    exact ⟨rfl, H3.below⟩
  · -- !(smallH a 40) is False
    refine k (gy rfl rfl rfl b0 (mv rfl i1 (k (gy rfl rfl rfl b0 ?_))))
    have cc1 := ref06_Small (h := b) (m := 40) (w := w0) H2.mb (H2.rv 0 rfl) (by unfold I64 at *; omega) (by first | assumption | decide +kernel)
    refine ca go12 rfl (ec rfl (ec rfl e0)) cc1 ?_
    rintro _ w1 ⟨rfl, xt1⟩
    have H3 := H2.ext xt1
    refine k (gy rfl rfl rfl b0 (not_ rfl rfl (k (pickF rfl rfl rfl rfl b0 rfl (k (mv (v := .bool (!(smallH b 40))) rfl rfl ?_))))))
    rcases Bool.eq_false_or_eq_true (!(smallH b 40)) with b1 | b1
    · -- !(smallH b 40) is True
      refine k (gn rfl rfl rfl b1 (k (gn rfl rfl rfl b1 (k (gn rfl rfl rfl b1 (k (pickT rfl rfl rfl rfl b1 rfl (k (mv (v := .bool true) rfl rfl (k (gn rfl rfl rfl rfl (k (gn rfl rfl rfl rfl (k (gn rfl rfl rfl rfl (k (pickT rfl rfl rfl rfl rfl rfl (z (nx (cdT rfl rfl rfl (sq (rg (k ?_)))))))))))))))))))))))
      have cc2 := awake10 (w := w1)
      refine ca go14 rfl e0 cc2 ?_
      rintro _ w2 ⟨rfl, xt2⟩
      have H4 := H3.ext xt2
      refine k (asg (v := .bool true) rfl rfl (z (nx (rt (then_ret (r1 rfl rfl ?_))))))
      exact ⟨rfl, H4.below⟩
    · -- !(smallH b 40) is False
      refine k (gy rfl rfl rfl b1 (mv rfl i0 (k (gy rfl rfl rfl b1 ?_))))
      have cc2 := ref06_Right (h := a) (w := w1) H3.mb (H3.rv 1 rfl) (by first | assumption | decide +kernel)
      refine ca go13 rfl (ec rfl e0) cc2 ?_
      rintro _ w2 ⟨rfl, xt2⟩
      have H4 := H3.ext xt2
      refine k (gy rfl rfl rfl b1 (not_ rfl rfl (k (pickF rfl rfl rfl rfl b1 rfl (k (mv (v := .bool (!(rightH a))) rfl rfl ?_))))))
      rcases Bool.eq_false_or_eq_true (!(rightH a)) with b2 | b2
      · -- !(rightH a) is True
        refine k (gn rfl rfl rfl b2 (k (gn rfl rfl rfl b2 (k (gn rfl rfl rfl b2 (k (pickT rfl rfl rfl rfl b2 rfl (z (nx (cdT rfl rfl rfl (sq (rg (k ?_)))))))))))))
        have cc3 := awake10 (w := w2)
        refine ca go14 rfl e0 cc3 ?_
        rintro _ w3 ⟨rfl, xt3⟩
        have H5 := H4.ext xt3
        refine k (asg (v := .bool true) rfl rfl (z (nx (rt (then_ret (r1 rfl rfl ?_))))))
        exact ⟨rfl, H5.below⟩
      · -- !(rightH a) is False
        refine k (gy rfl rfl rfl b2 (mv rfl i1 (k (gy rfl rfl rfl b2 ?_))))
        have cc3 := ref06_Right (h := b) (w := w2) H4.mb (H4.rv 0 rfl) (by first | assumption | decide +kernel)
        refine ca go13 rfl (ec rfl e0) cc3 ?_
        rintro _ w3 ⟨rfl, xt3⟩
        have H5 := H4.ext xt3
        refine k (gy rfl rfl rfl b2 (not_ rfl rfl (k (pickF rfl rfl rfl rfl b2 rfl (z (nx ?_))))))
        refine cd (b := !(rightH b)) rfl rfl (fun b3 => ?_) (fun b3 => ?_)
        ·
          refine sq (rg (k ?_))
          have cc4 := awake10 (w := w3)
          refine ca go14 rfl e0 cc4 ?_
          rintro _ w4 ⟨rfl, xt4⟩
          have H6 := H5.ext xt4
          refine k (asg (v := .bool true) rfl rfl (z (nx (rt (then_ret (r1 rfl rfl ?_))))))
          exact ⟨rfl, H6.below⟩
        ·
          refine sk (nx (sq ?_))
          have sa_ : smallH a 40 = true := by simpa using ‹(!smallH a 40) = false›
          have sb_ : smallH b 40 = true := by simpa using ‹(!smallH b 40) = false›
          have ra_ : rightH a = true := by simpa using ‹(!rightH a) = false›
          have rb_ : rightH b = true := by simpa using ‹(!rightH b) = false›
          refine rg (k (mv rfl i0 (k ?_)))
          have cc4 := ref09_Of (h := a) (w := w3) H5.mb (H5.rv 1 rfl) (by first | assumption | decide +kernel)
          refine ca go15 rfl (ec rfl e0) cc4 ?_
          rintro _ w4 ⟨a0, c0, a1, c1, a2, c2, rfl, xt4, rv0, rv1, rv2⟩
          have H6 := H5.ext xt4
          have H7 := H6.put (it := imm (.slice a0 (ofV a).length c0) (ofV a)) rfl rv0
          have H8 := H7.put (it := imm (.slice a1 (ofI a).length c1) (ofI a)) rfl (by rw [MS_cons_none rfl]; exact rv1)
          have H9 := H8.put (it := imm (.slice a2 ([] : List Int).length c2) ([] : List Int)) rfl (by rw [MS_cons_none rfl, MS_cons_none rfl]; exact rv2)
          refine k (mv (v := .tuple #[.agg #[.slice a0 (ofV a).length c0, .slice a1 (ofI a).length c1, .slice a2 ([] : List Int).length c2], .int .i64 (ofE a)]) rfl rfl (k (xt rfl rfl rfl (k (xt rfl rfl rfl (k (al H9 ty30 ?_)))))))
          intro bb0 w5 xt5 (H10 : HI M w w5 [box bb0 #[.slice none 0 0, .slice none 0 0, .slice none 0 0] 30, imm (.slice a2 ([] : List Int).length c2) ([] : List Int), imm (.slice a1 (ofI a).length c1) (ofI a), imm (.slice a0 (ofV a).length c0) (ofV a), imm (.slice a_b b.length c_b) b, imm (.slice a_a a.length c_a) a])
          refine k (stX H10 0 rfl ty30 rfl rfl rfl rfl rfl rfl rfl ?_)
          intro w6 (H11 : HI M w w6 [box bb0 #[.slice a0 (ofV a).length c0, .slice a1 (ofI a).length c1, .slice a2 ([] : List Int).length c2] 30, imm (.slice a2 ([] : List Int).length c2) ([] : List Int), imm (.slice a1 (ofI a).length c1) (ofI a), imm (.slice a0 (ofV a).length c0) (ofV a), imm (.slice a_b b.length c_b) b, imm (.slice a_a a.length c_a) a])
          refine k (asg (v := .int .i64 (ofE a)) rfl rfl (z (nx (sq (rg (k (bs (xs := ([] : List (List (Bool × ByteArray × Int)))) (cells := #[]) (e := 58) H11 rfl pb0 (fun _ => by kernel_rfl) rfl rfl (by unfold maxLen; omega) ?_)))))))
          intro g0 w7 xt6 (H12 : HI M w w7 [own w.heap.size 58 (.slice (some ⟨g0, 0, none⟩) 0 0) ([] : List (List (Bool × ByteArray × Int))), box bb0 #[.slice a0 (ofV a).length c0, .slice a1 (ofI a).length c1, .slice a2 ([] : List Int).length c2] 30, imm (.slice a2 ([] : List Int).length c2) ([] : List Int), imm (.slice a1 (ofI a).length c1) (ofI a), imm (.slice a0 (ofV a).length c0) (ofV a), imm (.slice a_b b.length c_b) b, imm (.slice a_a a.length c_a) a])
          refine k (mv rfl i0 (k (ap H12 0 rfl rfl rfl rfl rfl rfl (H12.rv 6 rfl).src un22 ty58 rfl (by have h1_ := (small_iff.1 sa_).1; have h2_ := (small_iff.1 sb_).1; first | omega | (simp only [List.length_nil]; omega)) (by have h1_ := (small_iff.1 sa_).1; have h2_ := (small_iff.1 sb_).1; first | omega | (simp only [List.length_nil]; omega)) ?_)))
          intro a3 c3 w8 (H13 : HI M w w8 [own w.heap.size 58 (.slice a3 a.length c3) a, box bb0 #[.slice a0 (ofV a).length c0, .slice a1 (ofI a).length c1, .slice a2 ([] : List Int).length c2] 30, imm (.slice a2 ([] : List Int).length c2) ([] : List Int), imm (.slice a1 (ofI a).length c1) (ofI a), imm (.slice a0 (ofV a).length c0) (ofV a), imm (.slice a_b b.length c_b) b, imm (.slice a_a a.length c_a) a])
          refine k (mv rfl i1 (k (ap H13 0 rfl rfl rfl rfl rfl rfl (H13.rv 5 rfl).src un22 ty58 rfl (by have h1_ := (small_iff.1 sa_).1; have h2_ := (small_iff.1 sb_).1; first | omega | (simp only [List.length_nil]; omega)) (by have h1_ := (small_iff.1 sa_).1; have h2_ := (small_iff.1 sb_).1; first | omega | (simp only [List.length_nil]; omega)) ?_)))
          intro a4 c4 w9 (H14 : HI M w w9 [own w.heap.size 58 (.slice a4 (a ++ b).length c4) (a ++ b), box bb0 #[.slice a0 (ofV a).length c0, .slice a1 (ofI a).length c1, .slice a2 ([] : List Int).length c2] 30, imm (.slice a2 ([] : List Int).length c2) ([] : List Int), imm (.slice a1 (ofI a).length c1) (ofI a), imm (.slice a0 (ofV a).length c0) (ofV a), imm (.slice a_b b.length c_b) b, imm (.slice a_a a.length c_a) a])
          refine k ?_
          have H15 := H14.freeze 0 rfl
          have cc5 := ref09_Of (h := (a ++ b)) (w := w9) H15.mb (H15.rv 0 rfl) (by have h_ := flat_two sa_ sb_; omega)
          refine ca go15 rfl (ec rfl e0) cc5 ?_
          rintro _ w10 ⟨a5, c5, a6, c6, a7, c7, rfl, xt7, rv3, rv4, rv5⟩
          have H16 := H15.ext xt7
          have H17 := H16.put (it := imm (.slice a5 (ofV (a ++ b)).length c5) (ofV (a ++ b))) rfl rv3
          have H18 := H17.put (it := imm (.slice a6 (ofI (a ++ b)).length c6) (ofI (a ++ b))) rfl (by rw [MS_cons_none rfl]; exact rv4)
          have H19 := H18.put (it := imm (.slice a7 ([] : List Int).length c7) ([] : List Int)) rfl (by rw [MS_cons_none rfl, MS_cons_none rfl]; exact rv5)
          refine k (mv (v := .tuple #[.agg #[.slice a5 (ofV (a ++ b)).length c5, .slice a6 (ofI (a ++ b)).length c6, .slice a7 ([] : List Int).length c7], .int .i64 (ofE (a ++ b))]) rfl rfl (k (xt rfl rfl rfl (k (xt rfl rfl rfl (k (al H19 ty30 ?_)))))))
          intro bb1 w11 xt8 (H20 : HI M w w11 [box bb1 #[.slice none 0 0, .slice none 0 0, .slice none 0 0] 30, imm (.slice a7 ([] : List Int).length c7) ([] : List Int), imm (.slice a6 (ofI (a ++ b)).length c6) (ofI (a ++ b)), imm (.slice a5 (ofV (a ++ b)).length c5) (ofV (a ++ b)), imm (.slice a4 (a ++ b).length c4) (a ++ b), box bb0 #[.slice a0 (ofV a).length c0, .slice a1 (ofI a).length c1, .slice a2 ([] : List Int).length c2] 30, imm (.slice a2 ([] : List Int).length c2) ([] : List Int), imm (.slice a1 (ofI a).length c1) (ofI a), imm (.slice a0 (ofV a).length c0) (ofV a), imm (.slice a_b b.length c_b) b, imm (.slice a_a a.length c_a) a])
          refine k (stX H20 0 rfl ty30 rfl rfl rfl rfl rfl rfl rfl ?_)
          intro w12 (H21 : HI M w w12 [box bb1 #[.slice a5 (ofV (a ++ b)).length c5, .slice a6 (ofI (a ++ b)).length c6, .slice a7 ([] : List Int).length c7] 30, imm (.slice a7 ([] : List Int).length c7) ([] : List Int), imm (.slice a6 (ofI (a ++ b)).length c6) (ofI (a ++ b)), imm (.slice a5 (ofV (a ++ b)).length c5) (ofV (a ++ b)), imm (.slice a4 (a ++ b).length c4) (a ++ b), box bb0 #[.slice a0 (ofV a).length c0, .slice a1 (ofI a).length c1, .slice a2 ([] : List Int).length c2] 30, imm (.slice a2 ([] : List Int).length c2) ([] : List Int), imm (.slice a1 (ofI a).length c1) (ofI a), imm (.slice a0 (ofV a).length c0) (ofV a), imm (.slice a_b b.length c_b) b, imm (.slice a_a a.length c_a) a])
          refine k (asg (v := .int .i64 (ofE (a ++ b))) rfl rfl (z (nx (sq (rg (k (ldX H21 5 rfl ty30 rfl rfl (by decide) rfl (k ?_))))))))
          have cc6 := differ_Check (fi := (ofI a)) (a_fv := a0) (n_fv := (ofV a).length) (c_fv := c0) (a_fo := a2) (n_fo := ([] : List Int).length) (c_fo := c2) (w := w12) H21.mb (H21.rv 7 rfl)
          refine ca go16 rfl (ec rfl e0) cc6 ?_
          rintro _ w13 ⟨rfl, xt9⟩
          have H22 := H21.ext xt9
          refine k (mv (v := .tuple #[.int .i64 ((chkA (ofI a)).1), .int .i64 ((chkA (ofI a)).2.1), .int .i64 ((chkA (ofI a)).2.2)]) rfl rfl (k (xt rfl rfl rfl (k (xt rfl rfl rfl (k (xt rfl rfl rfl (k (asg (v := .int .i64 ((chkA (ofI a)).1)) rfl rfl (k (asg (v := .int .i64 ((chkA (ofI a)).2.1)) rfl rfl (k (asg (v := .int .i64 ((chkA (ofI a)).2.2)) rfl rfl (z (nx (sq (rg (k (ldX H22 0 rfl ty30 rfl rfl (by decide) rfl (k ?_))))))))))))))))))))
          have cc7 := differ_Check (fi := (ofI (a ++ b))) (a_fv := a5) (n_fv := (ofV (a ++ b)).length) (c_fv := c5) (a_fo := a7) (n_fo := ([] : List Int).length) (c_fo := c7) (w := w13) H22.mb (H22.rv 2 rfl)
          refine ca go16 rfl (ec rfl e0) cc7 ?_
          rintro _ w14 ⟨rfl, xt10⟩
          have H23 := H22.ext xt10
          refine k (mv (v := .tuple #[.int .i64 ((chkA (ofI (a ++ b))).1), .int .i64 ((chkA (ofI (a ++ b))).2.1), .int .i64 ((chkA (ofI (a ++ b))).2.2)]) rfl rfl (k (xt rfl rfl rfl (k (xt rfl rfl rfl (k (xt rfl rfl rfl (k (asg (v := .int .i64 ((chkA (ofI (a ++ b))).1)) rfl rfl (k (asg (v := .int .i64 ((chkA (ofI (a ++ b))).2.1)) rfl rfl (k (asg (v := .int .i64 ((chkA (ofI (a ++ b))).2.2)) rfl rfl (z (nx (sq (rg (k ?_))))))))))))))))))
          have cc8 := awake10 (w := w14)
          refine ca go14 rfl e0 cc8 ?_
          rintro _ w15 ⟨rfl, xt11⟩
          have H24 := H23.ext xt11
          refine k (mv (v := .bool true) rfl rfl (k (gy rfl rfl rfl rfl (mv (v := .int .i64 ((chkA (ofI a)).2.2)) rfl rfl (k (gy rfl rfl rfl rfl (eql rfl rfl rfl rfl (k (gy rfl rfl rfl rfl (mv (v := .bool (decide (((chkA (ofI a)).2.2) = 0))) rfl rfl ?_))))))))))
          rcases Bool.eq_false_or_eq_true (decide (((chkA (ofI a)).2.2) = 0)) with b4 | b4
          · -- decide (((chkA (ofI a)).2.2) = 0) is True
            have p4 := of_decide_eq_true b4
            refine k (gy rfl rfl rfl b4 (mv (v := .int .i64 ((chkA (ofI (a ++ b))).2.2)) rfl rfl (k (gy rfl rfl rfl b4 (eql rfl rfl rfl rfl (k (gy rfl rfl rfl b4 (mv (v := .bool (decide (((chkA (ofI (a ++ b))).2.2) = 0))) rfl rfl ?_))))))))
            rcases Bool.eq_false_or_eq_true (decide (((chkA (ofI (a ++ b))).2.2) = 0)) with b5 | b5
            · -- decide (((chkA (ofI (a ++ b))).2.2) = 0) is True
              have p5 := of_decide_eq_true b5
              refine k (gn rfl rfl rfl b5 (k (gn rfl rfl rfl b5 (k (gn rfl rfl rfl b5 (k (gn rfl rfl rfl b5 (k (gn rfl rfl rfl b5 (k (gy rfl rfl rfl b4 (pickT rfl rfl rfl rfl b5 rfl (k (gy rfl rfl rfl rfl (pickT rfl rfl rfl rfl b4 rfl (k (gy rfl rfl rfl rfl (mv (v := .bool true) rfl rfl (k (gn rfl rfl rfl rfl (k (gn rfl rfl rfl rfl (k (gn rfl rfl rfl rfl (k (gu rfl rfl rfl (k (gu rfl rfl rfl (k (gu rfl rfl rfl (k (gn rfl rfl rfl rfl (k (gn rfl rfl rfl rfl (k (gu rfl rfl rfl (k (gu rfl rfl rfl (k (gu rfl rfl rfl (k (gn rfl rfl rfl rfl (k (gn rfl rfl rfl rfl (k (gu rfl rfl rfl (k (gu rfl rfl rfl (k (gu rfl rfl rfl (k (gn rfl rfl rfl rfl (k (gy rfl rfl rfl rfl (pickT rfl rfl rfl rfl rfl rfl (k (pickT rfl rfl rfl rfl rfl rfl (k (asg (v := .bool true) rfl rfl (z (nx (rt (r1 rfl rfl ?_)))))))))))))))))))))))))))))))))))))))))))))))))))))))))))))))
              exact ⟨rfl, H24.below⟩
            · -- decide (((chkA (ofI (a ++ b))).2.2) = 0) is False
              have p5 := of_decide_eq_false b5
              refine k (gy rfl rfl rfl b5 (mv (v := .int .i64 ((chkA (ofI (a ++ b))).2.1)) rfl rfl (k (gy rfl rfl rfl b5 (fa fl30_1 rfl rfl (k (gy rfl rfl rfl b5 (ldX H24 5 rfl ty27 rfl rfl (by decide) rfl (k (gy rfl rfl rfl b5 (lnS rfl rfl un27 (k (gy rfl rfl rfl b5 (geq rfl rfl rfl rfl (k (gy rfl rfl rfl b4 (pickF rfl rfl rfl rfl b5 rfl (k (gy rfl rfl rfl rfl (pickT rfl rfl rfl rfl b4 rfl (k (gy rfl rfl rfl rfl (mv (v := .bool (decide (((ofI a).length : Int) ≤ ((chkA (ofI (a ++ b))).2.1)))) rfl rfl (k (gn rfl rfl rfl (decide_eq_true (more_behind ra_ rb_ (by have h_ := flat_two sa_ sb_; omega) (of_decide_eq_true b4) (of_decide_eq_false b5))) (k (gn rfl rfl rfl (decide_eq_true (more_behind ra_ rb_ (by have h_ := flat_two sa_ sb_; omega) (of_decide_eq_true b4) (of_decide_eq_false b5))) (k (gn rfl rfl rfl (decide_eq_true (more_behind ra_ rb_ (by have h_ := flat_two sa_ sb_; omega) (of_decide_eq_true b4) (of_decide_eq_false b5))) (k (gu rfl rfl rfl (k (gu rfl rfl rfl (k (gu rfl rfl rfl (k (gn rfl rfl rfl (decide_eq_true (more_behind ra_ rb_ (by have h_ := flat_two sa_ sb_; omega) (of_decide_eq_true b4) (of_decide_eq_false b5))) (k (gn rfl rfl rfl (decide_eq_true (more_behind ra_ rb_ (by have h_ := flat_two sa_ sb_; omega) (of_decide_eq_true b4) (of_decide_eq_false b5))) (k (gu rfl rfl rfl (k (gu rfl rfl rfl (k (gu rfl rfl rfl (k (gn rfl rfl rfl (decide_eq_true (more_behind ra_ rb_ (by have h_ := flat_two sa_ sb_; omega) (of_decide_eq_true b4) (of_decide_eq_false b5))) (k (gn rfl rfl rfl (decide_eq_true (more_behind ra_ rb_ (by have h_ := flat_two sa_ sb_; omega) (of_decide_eq_true b4) (of_decide_eq_false b5))) (k (gu rfl rfl rfl (k (gu rfl rfl rfl (k (gu rfl rfl rfl (k (gn rfl rfl rfl (decide_eq_true (more_behind ra_ rb_ (by have h_ := flat_two sa_ sb_; omega) (of_decide_eq_true b4) (of_decide_eq_false b5))) (k (gy rfl rfl rfl rfl (pickT rfl rfl rfl rfl (decide_eq_true (more_behind ra_ rb_ (by have h_ := flat_two sa_ sb_; omega) (of_decide_eq_true b4) (of_decide_eq_false b5))) rfl (k (pickT rfl rfl rfl rfl rfl rfl (k (asg (v := .bool true) rfl rfl (z (nx (rt (r1 rfl rfl ?_))))))))))))))))))))))))))))))))))))))))))))))))))))))))))))))))))))
              exact ⟨rfl, H24.below⟩
          · -- decide (((chkA (ofI a)).2.2) = 0) is False
            have p4 := of_decide_eq_false b4
            refine k (gn rfl rfl rfl b4 (k (gn rfl rfl rfl b4 (k (gn rfl rfl rfl b4 (k (gu rfl rfl rfl (k (gu rfl rfl rfl (k (gu rfl rfl rfl (k (gu rfl rfl rfl (k (gu rfl rfl rfl (k (gn rfl rfl rfl b4 (k (gy rfl rfl rfl rfl (pickF rfl rfl rfl rfl b4 rfl (k (gy rfl rfl rfl rfl (mv (v := .bool false) rfl rfl (k (gy rfl rfl rfl rfl (mv (v := .int .i64 ((chkA (ofI a)).2.2)) rfl rfl (k (gy rfl rfl rfl rfl (neq rfl rfl rfl rfl (k (gy rfl rfl rfl rfl (mv (v := .bool (!decide (((chkA (ofI a)).2.2) = 0))) rfl rfl (k (gy rfl rfl rfl (by rw [show decide (((chkA (ofI a)).2.2) = 0) = false from b4]; rfl) (mv (v := .int .i64 ((chkA (ofI a)).2.2)) rfl rfl (k (gy rfl rfl rfl (by rw [show decide (((chkA (ofI a)).2.2) = 0) = false from b4]; rfl) (mv (v := .int .i64 ((chkA (ofI (a ++ b))).2.2)) rfl rfl (k (gy rfl rfl rfl (by rw [show decide (((chkA (ofI a)).2.2) = 0) = false from b4]; rfl) (eql rfl rfl rfl rfl (k (gy rfl rfl rfl rfl (pickT rfl rfl rfl rfl (by rw [show decide (((chkA (ofI a)).2.2) = 0) = false from b4]; rfl) rfl (k (gy rfl rfl rfl rfl (mv (v := .bool (decide (((chkA (ofI a)).2.2) = ((chkA (ofI (a ++ b))).2.2)))) rfl rfl ?_)))))))))))))))))))))))))))))))))))))))))))))))
            have tr0 : (decide (((chkA (ofI a)).2.2) = ((chkA (ofI (a ++ b))).2.2))) = true := (by rw [(more_same ra_ rb_ (by have h_ := flat_two sa_ sb_; omega) (of_decide_eq_false b4))]; simp)
            refine k (gy rfl rfl rfl tr0 (mv (v := .int .i64 ((chkA (ofI a)).1)) rfl rfl (k (gy rfl rfl rfl tr0 (mv (v := .int .i64 ((chkA (ofI (a ++ b))).1)) rfl rfl (k (gy rfl rfl rfl tr0 (eql rfl rfl rfl rfl (k (gy rfl rfl rfl rfl (pickT rfl rfl rfl rfl tr0 rfl (k (gy rfl rfl rfl rfl (mv (v := .bool (decide (((chkA (ofI a)).1) = ((chkA (ofI (a ++ b))).1)))) rfl rfl ?_))))))))))))))
            have tr1 : (decide (((chkA (ofI a)).1) = ((chkA (ofI (a ++ b))).1))) = true := (by rw [(more_same ra_ rb_ (by have h_ := flat_two sa_ sb_; omega) (of_decide_eq_false b4))]; simp)
            refine k (gy rfl rfl rfl tr1 (mv (v := .int .i64 ((chkA (ofI a)).2.1)) rfl rfl (k (gy rfl rfl rfl tr1 (mv (v := .int .i64 ((chkA (ofI (a ++ b))).2.1)) rfl rfl (k (gy rfl rfl rfl tr1 (eql rfl rfl rfl rfl (k (gy rfl rfl rfl rfl (pickT rfl rfl rfl rfl tr1 rfl (k (gy rfl rfl rfl rfl (pickF rfl rfl rfl rfl rfl rfl (k (pickT rfl rfl rfl rfl rfl rfl (k (asg (v := .bool (decide (((chkA (ofI a)).2.1) = ((chkA (ofI (a ++ b))).2.1)))) rfl rfl (z (nx (rt (r1 rfl rfl ?_))))))))))))))))))))))
            have tr2 : (decide (((chkA (ofI a)).2.1) = ((chkA (ofI (a ++ b))).2.1))) = true := (by rw [(more_same ra_ rb_ (by have h_ := flat_two sa_ sb_; omega) (of_decide_eq_false b4))]; simp)
            have e0 : (decide (((chkA (ofI a)).2.1) = ((chkA (ofI (a ++ b))).2.1)) : Bool) = true := by exact tr2
            have ev_ := cg1 (fun (x_0 : Bool) => (.bool x_0 : Value)) e0
            exact ⟨ev_, H24.below⟩
end Go.Proofs.Ytmliihgaoaolmaa
