/- PRINTED by my own tool (wip/tool/gen.py): contracts of Go functions of this seat, each with its proof. -/
import Derived.Test.YtmliihgaoaolmaaR03Ord
import Derived.Test.YtmliihgaoaolmaaR03Sess
import Derived.Test.YtmliihgaoaolmaaR03Mat
import Derived.Test.YtmliihgaoaolmaaR03Fns
import Derived.Test.YtmliihgaoaolmaaEngV
import Derived.Test.YtmliihgaoaolmaaEwSpecS
namespace Go.Proofs.Ytmliihgaoaolmaa
open Go.Ew Go.RowKit
set_option linter.unusedVariables false
set_option linter.unusedSimpArgs false
attribute [local irreducible] WL WC SO Code.wp wpList retQ Ret
attribute [local irreducible] bitB hasW inR hasR setR countW countR subR words newR listR orR firstW tab8
theorem go15 : GoF Try.prog 15 := ⟨_, _, Try.func15, rfl, by kernel_rfl⟩
theorem go32 : GoF Try.prog 32 := ⟨_, _, Try.func32, rfl, by kernel_rfl⟩
theorem go34 : GoF Try.prog 34 := ⟨_, _, Try.func34, rfl, by kernel_rfl⟩
theorem go36 : GoF Try.prog 36 := ⟨_, _, Try.func36, rfl, by kernel_rfl⟩
theorem go27 : GoF Try.prog 27 := ⟨_, _, Try.func27, rfl, by kernel_rfl⟩
theorem go12 : GoF Try.prog 12 := ⟨_, _, Try.func12, rfl, by kernel_rfl⟩
theorem go30 : GoF Try.prog 30 := ⟨_, _, Try.func30, rfl, by kernel_rfl⟩
theorem go33 : GoF Try.prog 33 := ⟨_, _, Try.func33, rfl, by kernel_rfl⟩
theorem go31 : GoF Try.prog 31 := ⟨_, _, Try.func31, rfl, by kernel_rfl⟩
theorem un4 : Try.prog.underlying 4 = some (.bool) := by kernel_rfl
theorem go37 : GoF Try.prog 37 := ⟨_, _, Try.func37, rfl, by kernel_rfl⟩
theorem un5 : Try.prog.underlying 5 = some (.int .u8) := by kernel_rfl
/- eyewitness/eyewitnesslaw12.awake -/
set_option maxRecDepth 100000 in
set_option maxHeartbeats 1600000 in
theorem awake12 {w : World}  : Calls Try.prog 30 #[] w (Ret fun v w' =>  v = .bool true ∧ Ext w w') := by
  refine enter 38 Try.func30 rfl rfl rfl fun f0 ha => ?_
  have H := HI.start (M0 := (fun _ => False)) (w := w) (fun _ h => h.elim)
  refine sq (rg (k (asg (v := .bool false) rfl rfl (z (nx (sq (rg (k (bd (v := .agg #[.bool false, .string ⟨#[120]⟩, .int .i64 0]) rfl (pbc rfl pb0) (fun _ => by kernel_rfl) (k (bd (v := .agg #[.bool false, .string ⟨#[120]⟩, .int .i64 0]) rfl (pbc rfl pb0) (fun _ => by kernel_rfl) (k (bs (xs := ([(false, ⟨#[120]⟩, 0), (false, ⟨#[120]⟩, 0)] : List (Bool × ByteArray × Int))) (cells := #[.bool false, .string ⟨#[120]⟩, .int .i64 0, .bool false, .string ⟨#[120]⟩, .int .i64 0]) (e := 66) H rfl (pbc rfl (pbc rfl pb0)) (fun _ => by kernel_rfl) ⟨[.bool false, .string ⟨#[120]⟩, .int .i64 0], [.bool false, .string ⟨#[120]⟩, .int .i64 0], rfl, ⟨_, _, rfl, rfl, ⟨_, _, rfl, ⟨rfl, (by first | assumption | decide +kernel)⟩, ⟨rfl, (show I64 (0) from (by first | (unfold I64; decide +kernel) | decide +kernel))⟩⟩⟩, ⟨[.bool false, .string ⟨#[120]⟩, .int .i64 0], [], rfl, ⟨_, _, rfl, rfl, ⟨_, _, rfl, ⟨rfl, (by first | assumption | decide +kernel)⟩, ⟨rfl, (show I64 (0) from (by first | (unfold I64; decide +kernel) | decide +kernel))⟩⟩⟩, rfl⟩⟩ rfl (by unfold maxLen; omega) ?_)))))))))))))
  intro g0 w0 xt0 (H0 : HI (fun _ => False) w w0 [own w.heap.size 66 (.slice (some ⟨g0, 0, none⟩) 2 2) ([(false, ⟨#[120]⟩, 0), (false, ⟨#[120]⟩, 0)] : List (Bool × ByteArray × Int))])
  refine k (bd (v := .agg #[.bool false, .string ⟨#[120]⟩, .int .i64 0]) rfl (pbc rfl pb0) (fun _ => by kernel_rfl) (k (bs (xs := ([(false, ⟨#[120]⟩, 0)] : List (Bool × ByteArray × Int))) (cells := #[.bool false, .string ⟨#[120]⟩, .int .i64 0]) (e := 66) H0 rfl (pbc rfl pb0) (fun _ => by kernel_rfl) ⟨[.bool false, .string ⟨#[120]⟩, .int .i64 0], [], rfl, ⟨_, _, rfl, rfl, ⟨_, _, rfl, ⟨rfl, (by first | assumption | decide +kernel)⟩, ⟨rfl, (show I64 (0) from (by first | (unfold I64; decide +kernel) | decide +kernel))⟩⟩⟩, rfl⟩ rfl (by unfold maxLen; omega) ?_)))
  intro g1 w1 xt1 (H1 : HI (fun _ => False) w w1 [own w.heap.size 66 (.slice (some ⟨g1, 0, none⟩) 1 1) ([(false, ⟨#[120]⟩, 0)] : List (Bool × ByteArray × Int)), own w.heap.size 66 (.slice (some ⟨g0, 0, none⟩) 2 2) ([(false, ⟨#[120]⟩, 0), (false, ⟨#[120]⟩, 0)] : List (Bool × ByteArray × Int))])
  refine k ?_
  have H2 := H1.freeze 1 rfl
  have H3 := H2.freeze 0 rfl
  refine bs (xs := ([([(false, ⟨#[120]⟩, 0), (false, ⟨#[120]⟩, 0)] : List (Bool × ByteArray × Int)), ([(false, ⟨#[120]⟩, 0)] : List (Bool × ByteArray × Int))] : List (List (Bool × ByteArray × Int)))) (cells := #[.slice (some ⟨g0, 0, none⟩) ([(false, ⟨#[120]⟩, 0), (false, ⟨#[120]⟩, 0)] : List (Bool × ByteArray × Int)).length 2, .slice (some ⟨g1, 0, none⟩) ([(false, ⟨#[120]⟩, 0)] : List (Bool × ByteArray × Int)).length 1]) (e := 58) H3 rfl (pbc rfl (pbc rfl pb0)) (fun _ => by kernel_rfl) ⟨[.slice (some ⟨g0, 0, none⟩) ([(false, ⟨#[120]⟩, 0), (false, ⟨#[120]⟩, 0)] : List (Bool × ByteArray × Int)).length 2], [.slice (some ⟨g1, 0, none⟩) ([(false, ⟨#[120]⟩, 0)] : List (Bool × ByteArray × Int)).length 1], rfl, ⟨_, rfl, RV.list.1 (H3.rv 1 rfl)⟩, ⟨[.slice (some ⟨g1, 0, none⟩) ([(false, ⟨#[120]⟩, 0)] : List (Bool × ByteArray × Int)).length 1], [], rfl, ⟨_, rfl, RV.list.1 (H3.rv 0 rfl)⟩, rfl⟩⟩ rfl (by unfold maxLen; omega) ?_
  intro g2 w2 xt2 (H4 : HI (fun _ => False) w w2 [own w.heap.size 58 (.slice (some ⟨g2, 0, none⟩) 2 2) ([([(false, ⟨#[120]⟩, 0), (false, ⟨#[120]⟩, 0)] : List (Bool × ByteArray × Int)), ([(false, ⟨#[120]⟩, 0)] : List (Bool × ByteArray × Int))] : List (List (Bool × ByteArray × Int))), imm (.slice (some ⟨g1, 0, none⟩) 1 1) ([(false, ⟨#[120]⟩, 0)] : List (Bool × ByteArray × Int)), imm (.slice (some ⟨g0, 0, none⟩) 2 2) ([(false, ⟨#[120]⟩, 0), (false, ⟨#[120]⟩, 0)] : List (Bool × ByteArray × Int))])
  refine k ?_
  have H5 := H4.freeze 0 rfl
  have cc0 := ref09_Of (h := ([([(false, ⟨#[120]⟩, 0), (false, ⟨#[120]⟩, 0)] : List (Bool × ByteArray × Int)), ([(false, ⟨#[120]⟩, 0)] : List (Bool × ByteArray × Int))] : List (List (Bool × ByteArray × Int)))) (w := w2) H5.mb (H5.rv 0 rfl) (by first | assumption | decide +kernel)
  refine ca go15 rfl (ec rfl e0) cc0 ?_
  rintro _ w3 ⟨a0, c0, a1, c1, a2, c2, rfl, xt3, rv0, rv1, rv2⟩
  have H6 := H5.ext xt3
  have H7 := H6.put (it := imm (.slice a0 (ofV ([([(false, ⟨#[120]⟩, 0), (false, ⟨#[120]⟩, 0)] : List (Bool × ByteArray × Int)), ([(false, ⟨#[120]⟩, 0)] : List (Bool × ByteArray × Int))] : List (List (Bool × ByteArray × Int)))).length c0) (ofV ([([(false, ⟨#[120]⟩, 0), (false, ⟨#[120]⟩, 0)] : List (Bool × ByteArray × Int)), ([(false, ⟨#[120]⟩, 0)] : List (Bool × ByteArray × Int))] : List (List (Bool × ByteArray × Int))))) rfl rv0
  have H8 := H7.put (it := imm (.slice a1 (ofI ([([(false, ⟨#[120]⟩, 0), (false, ⟨#[120]⟩, 0)] : List (Bool × ByteArray × Int)), ([(false, ⟨#[120]⟩, 0)] : List (Bool × ByteArray × Int))] : List (List (Bool × ByteArray × Int)))).length c1) (ofI ([([(false, ⟨#[120]⟩, 0), (false, ⟨#[120]⟩, 0)] : List (Bool × ByteArray × Int)), ([(false, ⟨#[120]⟩, 0)] : List (Bool × ByteArray × Int))] : List (List (Bool × ByteArray × Int))))) rfl (by rw [MS_cons_none rfl]; exact rv1)
  have H9 := H8.put (it := imm (.slice a2 ([] : List Int).length c2) ([] : List Int)) rfl (by rw [MS_cons_none rfl, MS_cons_none rfl]; exact rv2)
  refine k (mv (v := .tuple #[.agg #[.slice a0 (ofV ([([(false, ⟨#[120]⟩, 0), (false, ⟨#[120]⟩, 0)] : List (Bool × ByteArray × Int)), ([(false, ⟨#[120]⟩, 0)] : List (Bool × ByteArray × Int))] : List (List (Bool × ByteArray × Int)))).length c0, .slice a1 (ofI ([([(false, ⟨#[120]⟩, 0), (false, ⟨#[120]⟩, 0)] : List (Bool × ByteArray × Int)), ([(false, ⟨#[120]⟩, 0)] : List (Bool × ByteArray × Int))] : List (List (Bool × ByteArray × Int)))).length c1, .slice a2 ([] : List Int).length c2], .int .i64 (ofE ([([(false, ⟨#[120]⟩, 0), (false, ⟨#[120]⟩, 0)] : List (Bool × ByteArray × Int)), ([(false, ⟨#[120]⟩, 0)] : List (Bool × ByteArray × Int))] : List (List (Bool × ByteArray × Int))))]) rfl rfl (k (xt rfl rfl rfl (k (xt rfl rfl rfl (k (al H9 ty30 ?_)))))))
  intro bb0 w4 xt4 (H10 : HI (fun _ => False) w w4 [box bb0 #[.slice none 0 0, .slice none 0 0, .slice none 0 0] 30, imm (.slice a2 ([] : List Int).length c2) ([] : List Int), imm (.slice a1 (ofI ([([(false, ⟨#[120]⟩, 0), (false, ⟨#[120]⟩, 0)] : List (Bool × ByteArray × Int)), ([(false, ⟨#[120]⟩, 0)] : List (Bool × ByteArray × Int))] : List (List (Bool × ByteArray × Int)))).length c1) (ofI ([([(false, ⟨#[120]⟩, 0), (false, ⟨#[120]⟩, 0)] : List (Bool × ByteArray × Int)), ([(false, ⟨#[120]⟩, 0)] : List (Bool × ByteArray × Int))] : List (List (Bool × ByteArray × Int)))), imm (.slice a0 (ofV ([([(false, ⟨#[120]⟩, 0), (false, ⟨#[120]⟩, 0)] : List (Bool × ByteArray × Int)), ([(false, ⟨#[120]⟩, 0)] : List (Bool × ByteArray × Int))] : List (List (Bool × ByteArray × Int)))).length c0) (ofV ([([(false, ⟨#[120]⟩, 0), (false, ⟨#[120]⟩, 0)] : List (Bool × ByteArray × Int)), ([(false, ⟨#[120]⟩, 0)] : List (Bool × ByteArray × Int))] : List (List (Bool × ByteArray × Int)))), imm (.slice (some ⟨g2, 0, none⟩) 2 2) ([([(false, ⟨#[120]⟩, 0), (false, ⟨#[120]⟩, 0)] : List (Bool × ByteArray × Int)), ([(false, ⟨#[120]⟩, 0)] : List (Bool × ByteArray × Int))] : List (List (Bool × ByteArray × Int))), imm (.slice (some ⟨g1, 0, none⟩) 1 1) ([(false, ⟨#[120]⟩, 0)] : List (Bool × ByteArray × Int)), imm (.slice (some ⟨g0, 0, none⟩) 2 2) ([(false, ⟨#[120]⟩, 0), (false, ⟨#[120]⟩, 0)] : List (Bool × ByteArray × Int))])
  refine k (stX H10 0 rfl ty30 rfl rfl rfl rfl rfl rfl rfl ?_)
  intro w5 (H11 : HI (fun _ => False) w w5 [box bb0 #[.slice a0 (ofV ([([(false, ⟨#[120]⟩, 0), (false, ⟨#[120]⟩, 0)] : List (Bool × ByteArray × Int)), ([(false, ⟨#[120]⟩, 0)] : List (Bool × ByteArray × Int))] : List (List (Bool × ByteArray × Int)))).length c0, .slice a1 (ofI ([([(false, ⟨#[120]⟩, 0), (false, ⟨#[120]⟩, 0)] : List (Bool × ByteArray × Int)), ([(false, ⟨#[120]⟩, 0)] : List (Bool × ByteArray × Int))] : List (List (Bool × ByteArray × Int)))).length c1, .slice a2 ([] : List Int).length c2] 30, imm (.slice a2 ([] : List Int).length c2) ([] : List Int), imm (.slice a1 (ofI ([([(false, ⟨#[120]⟩, 0), (false, ⟨#[120]⟩, 0)] : List (Bool × ByteArray × Int)), ([(false, ⟨#[120]⟩, 0)] : List (Bool × ByteArray × Int))] : List (List (Bool × ByteArray × Int)))).length c1) (ofI ([([(false, ⟨#[120]⟩, 0), (false, ⟨#[120]⟩, 0)] : List (Bool × ByteArray × Int)), ([(false, ⟨#[120]⟩, 0)] : List (Bool × ByteArray × Int))] : List (List (Bool × ByteArray × Int)))), imm (.slice a0 (ofV ([([(false, ⟨#[120]⟩, 0), (false, ⟨#[120]⟩, 0)] : List (Bool × ByteArray × Int)), ([(false, ⟨#[120]⟩, 0)] : List (Bool × ByteArray × Int))] : List (List (Bool × ByteArray × Int)))).length c0) (ofV ([([(false, ⟨#[120]⟩, 0), (false, ⟨#[120]⟩, 0)] : List (Bool × ByteArray × Int)), ([(false, ⟨#[120]⟩, 0)] : List (Bool × ByteArray × Int))] : List (List (Bool × ByteArray × Int)))), imm (.slice (some ⟨g2, 0, none⟩) 2 2) ([([(false, ⟨#[120]⟩, 0), (false, ⟨#[120]⟩, 0)] : List (Bool × ByteArray × Int)), ([(false, ⟨#[120]⟩, 0)] : List (Bool × ByteArray × Int))] : List (List (Bool × ByteArray × Int))), imm (.slice (some ⟨g1, 0, none⟩) 1 1) ([(false, ⟨#[120]⟩, 0)] : List (Bool × ByteArray × Int)), imm (.slice (some ⟨g0, 0, none⟩) 2 2) ([(false, ⟨#[120]⟩, 0), (false, ⟨#[120]⟩, 0)] : List (Bool × ByteArray × Int))])
  refine k (asg (v := .int .i64 (ofE ([([(false, ⟨#[120]⟩, 0), (false, ⟨#[120]⟩, 0)] : List (Bool × ByteArray × Int)), ([(false, ⟨#[120]⟩, 0)] : List (Bool × ByteArray × Int))] : List (List (Bool × ByteArray × Int))))) rfl rfl (z (nx (sq (rg (k (ldX H11 0 rfl ty30 rfl rfl (by decide) rfl (k ?_))))))))
  have cc1 := session_Po (fi := (ofI ([([(false, ⟨#[120]⟩, 0), (false, ⟨#[120]⟩, 0)] : List (Bool × ByteArray × Int)), ([(false, ⟨#[120]⟩, 0)] : List (Bool × ByteArray × Int))] : List (List (Bool × ByteArray × Int))))) (a_fv := a0) (n_fv := (ofV ([([(false, ⟨#[120]⟩, 0), (false, ⟨#[120]⟩, 0)] : List (Bool × ByteArray × Int)), ([(false, ⟨#[120]⟩, 0)] : List (Bool × ByteArray × Int))] : List (List (Bool × ByteArray × Int)))).length) (c_fv := c0) (a_fo := a2) (n_fo := ([] : List Int).length) (c_fo := c2) (w := w5) H11.mb (H11.rv 2 rfl) (by exact ofI_ord _) (by decide +kernel)
  refine ca go32 rfl (ec rfl e0) cc1 ?_
  rintro _ w6 ⟨a3, c3, rfl, xt5, rv3⟩
  have H12 := H11.ownsG rv3
  refine k (al H12 ty53 ?_)
  intro bb1 w7 xt6 (H13 : HI (fun _ => False) w w7 [box bb1 #[.int .i64 0, .slice none 0 0] 53, own w.heap.size 79 (.slice a3 (poR (ofI ([([(false, ⟨#[120]⟩, 0), (false, ⟨#[120]⟩, 0)] : List (Bool × ByteArray × Int)), ([(false, ⟨#[120]⟩, 0)] : List (Bool × ByteArray × Int))] : List (List (Bool × ByteArray × Int))))).length c3) (poR (ofI ([([(false, ⟨#[120]⟩, 0), (false, ⟨#[120]⟩, 0)] : List (Bool × ByteArray × Int)), ([(false, ⟨#[120]⟩, 0)] : List (Bool × ByteArray × Int))] : List (List (Bool × ByteArray × Int))))), box bb0 #[.slice a0 (ofV ([([(false, ⟨#[120]⟩, 0), (false, ⟨#[120]⟩, 0)] : List (Bool × ByteArray × Int)), ([(false, ⟨#[120]⟩, 0)] : List (Bool × ByteArray × Int))] : List (List (Bool × ByteArray × Int)))).length c0, .slice a1 (ofI ([([(false, ⟨#[120]⟩, 0), (false, ⟨#[120]⟩, 0)] : List (Bool × ByteArray × Int)), ([(false, ⟨#[120]⟩, 0)] : List (Bool × ByteArray × Int))] : List (List (Bool × ByteArray × Int)))).length c1, .slice a2 ([] : List Int).length c2] 30, imm (.slice a2 ([] : List Int).length c2) ([] : List Int), imm (.slice a1 (ofI ([([(false, ⟨#[120]⟩, 0), (false, ⟨#[120]⟩, 0)] : List (Bool × ByteArray × Int)), ([(false, ⟨#[120]⟩, 0)] : List (Bool × ByteArray × Int))] : List (List (Bool × ByteArray × Int)))).length c1) (ofI ([([(false, ⟨#[120]⟩, 0), (false, ⟨#[120]⟩, 0)] : List (Bool × ByteArray × Int)), ([(false, ⟨#[120]⟩, 0)] : List (Bool × ByteArray × Int))] : List (List (Bool × ByteArray × Int)))), imm (.slice a0 (ofV ([([(false, ⟨#[120]⟩, 0), (false, ⟨#[120]⟩, 0)] : List (Bool × ByteArray × Int)), ([(false, ⟨#[120]⟩, 0)] : List (Bool × ByteArray × Int))] : List (List (Bool × ByteArray × Int)))).length c0) (ofV ([([(false, ⟨#[120]⟩, 0), (false, ⟨#[120]⟩, 0)] : List (Bool × ByteArray × Int)), ([(false, ⟨#[120]⟩, 0)] : List (Bool × ByteArray × Int))] : List (List (Bool × ByteArray × Int)))), imm (.slice (some ⟨g2, 0, none⟩) 2 2) ([([(false, ⟨#[120]⟩, 0), (false, ⟨#[120]⟩, 0)] : List (Bool × ByteArray × Int)), ([(false, ⟨#[120]⟩, 0)] : List (Bool × ByteArray × Int))] : List (List (Bool × ByteArray × Int))), imm (.slice (some ⟨g1, 0, none⟩) 1 1) ([(false, ⟨#[120]⟩, 0)] : List (Bool × ByteArray × Int)), imm (.slice (some ⟨g0, 0, none⟩) 2 2) ([(false, ⟨#[120]⟩, 0), (false, ⟨#[120]⟩, 0)] : List (Bool × ByteArray × Int))])
  refine k (stX H13 0 rfl ty53 rfl rfl rfl rfl rfl rfl rfl ?_)
  intro w8 (H14 : HI (fun _ => False) w w8 [box bb1 #[.int .i64 ((ofI ([([(false, ⟨#[120]⟩, 0), (false, ⟨#[120]⟩, 0)] : List (Bool × ByteArray × Int)), ([(false, ⟨#[120]⟩, 0)] : List (Bool × ByteArray × Int))] : List (List (Bool × ByteArray × Int)))).length : Int), .slice a3 (poR (ofI ([([(false, ⟨#[120]⟩, 0), (false, ⟨#[120]⟩, 0)] : List (Bool × ByteArray × Int)), ([(false, ⟨#[120]⟩, 0)] : List (Bool × ByteArray × Int))] : List (List (Bool × ByteArray × Int))))).length c3] 53, own w.heap.size 79 (.slice a3 (poR (ofI ([([(false, ⟨#[120]⟩, 0), (false, ⟨#[120]⟩, 0)] : List (Bool × ByteArray × Int)), ([(false, ⟨#[120]⟩, 0)] : List (Bool × ByteArray × Int))] : List (List (Bool × ByteArray × Int))))).length c3) (poR (ofI ([([(false, ⟨#[120]⟩, 0), (false, ⟨#[120]⟩, 0)] : List (Bool × ByteArray × Int)), ([(false, ⟨#[120]⟩, 0)] : List (Bool × ByteArray × Int))] : List (List (Bool × ByteArray × Int))))), box bb0 #[.slice a0 (ofV ([([(false, ⟨#[120]⟩, 0), (false, ⟨#[120]⟩, 0)] : List (Bool × ByteArray × Int)), ([(false, ⟨#[120]⟩, 0)] : List (Bool × ByteArray × Int))] : List (List (Bool × ByteArray × Int)))).length c0, .slice a1 (ofI ([([(false, ⟨#[120]⟩, 0), (false, ⟨#[120]⟩, 0)] : List (Bool × ByteArray × Int)), ([(false, ⟨#[120]⟩, 0)] : List (Bool × ByteArray × Int))] : List (List (Bool × ByteArray × Int)))).length c1, .slice a2 ([] : List Int).length c2] 30, imm (.slice a2 ([] : List Int).length c2) ([] : List Int), imm (.slice a1 (ofI ([([(false, ⟨#[120]⟩, 0), (false, ⟨#[120]⟩, 0)] : List (Bool × ByteArray × Int)), ([(false, ⟨#[120]⟩, 0)] : List (Bool × ByteArray × Int))] : List (List (Bool × ByteArray × Int)))).length c1) (ofI ([([(false, ⟨#[120]⟩, 0), (false, ⟨#[120]⟩, 0)] : List (Bool × ByteArray × Int)), ([(false, ⟨#[120]⟩, 0)] : List (Bool × ByteArray × Int))] : List (List (Bool × ByteArray × Int)))), imm (.slice a0 (ofV ([([(false, ⟨#[120]⟩, 0), (false, ⟨#[120]⟩, 0)] : List (Bool × ByteArray × Int)), ([(false, ⟨#[120]⟩, 0)] : List (Bool × ByteArray × Int))] : List (List (Bool × ByteArray × Int)))).length c0) (ofV ([([(false, ⟨#[120]⟩, 0), (false, ⟨#[120]⟩, 0)] : List (Bool × ByteArray × Int)), ([(false, ⟨#[120]⟩, 0)] : List (Bool × ByteArray × Int))] : List (List (Bool × ByteArray × Int)))), imm (.slice (some ⟨g2, 0, none⟩) 2 2) ([([(false, ⟨#[120]⟩, 0), (false, ⟨#[120]⟩, 0)] : List (Bool × ByteArray × Int)), ([(false, ⟨#[120]⟩, 0)] : List (Bool × ByteArray × Int))] : List (List (Bool × ByteArray × Int))), imm (.slice (some ⟨g1, 0, none⟩) 1 1) ([(false, ⟨#[120]⟩, 0)] : List (Bool × ByteArray × Int)), imm (.slice (some ⟨g0, 0, none⟩) 2 2) ([(false, ⟨#[120]⟩, 0), (false, ⟨#[120]⟩, 0)] : List (Bool × ByteArray × Int))])
  refine z (nx (sq (rg (k (fa fl53_0 rfl rfl (k (ldX H14 0 rfl ty3 rfl rfl (by decide) rfl (k (eql rfl rfl rfl rfl (k (mv (v := .bool (decide (((ofI ([([(false, ⟨#[120]⟩, 0), (false, ⟨#[120]⟩, 0)] : List (Bool × ByteArray × Int)), ([(false, ⟨#[120]⟩, 0)] : List (Bool × ByteArray × Int))] : List (List (Bool × ByteArray × Int)))).length : Int) = 3))) rfl rfl ?_)))))))))))
  have tr0 : (decide (((ofI ([([(false, ⟨#[120]⟩, 0), (false, ⟨#[120]⟩, 0)] : List (Bool × ByteArray × Int)), ([(false, ⟨#[120]⟩, 0)] : List (Bool × ByteArray × Int))] : List (List (Bool × ByteArray × Int)))).length : Int) = 3)) = true := (by decide +kernel)
  refine k (gy rfl rfl rfl tr0 (ldX H14 0 rfl ty53 rfl rfl (by decide) rfl (k (gy rfl rfl rfl tr0 ?_))))
  have H15 := H14.freeze 1 rfl
  have cc2 := ref03_Has (mn := ((ofI ([([(false, ⟨#[120]⟩, 0), (false, ⟨#[120]⟩, 0)] : List (Bool × ByteArray × Int)), ([(false, ⟨#[120]⟩, 0)] : List (Bool × ByteArray × Int))] : List (List (Bool × ByteArray × Int)))).length : Int)) (mr := (poR (ofI ([([(false, ⟨#[120]⟩, 0), (false, ⟨#[120]⟩, 0)] : List (Bool × ByteArray × Int)), ([(false, ⟨#[120]⟩, 0)] : List (Bool × ByteArray × Int))] : List (List (Bool × ByteArray × Int)))))) (i := 0) (j := 1) (w := w8) H15.mb (by first | (unfold I64; decide +kernel) | decide +kernel) (H15.rv 1 rfl) (by first | (unfold I64; decide +kernel) | decide +kernel) (by first | (unfold I64; decide +kernel) | decide +kernel) (by decide +kernel) (by decide +kernel) (by decide +kernel)
  refine ca go53 rfl (ec rfl (ec rfl (ec rfl e0))) cc2 ?_
  rintro _ w9 ⟨rfl, xt7⟩
  have H16 := H14.ext xt7
  refine k (pickT rfl rfl rfl rfl tr0 rfl (k (mv (v := .bool (hasM ((ofI ([([(false, ⟨#[120]⟩, 0), (false, ⟨#[120]⟩, 0)] : List (Bool × ByteArray × Int)), ([(false, ⟨#[120]⟩, 0)] : List (Bool × ByteArray × Int))] : List (List (Bool × ByteArray × Int)))).length : Int) (poR (ofI ([([(false, ⟨#[120]⟩, 0), (false, ⟨#[120]⟩, 0)] : List (Bool × ByteArray × Int)), ([(false, ⟨#[120]⟩, 0)] : List (Bool × ByteArray × Int))] : List (List (Bool × ByteArray × Int))))) 0 1)) rfl rfl ?_)))
  have tr1 : (hasM ((ofI ([([(false, ⟨#[120]⟩, 0), (false, ⟨#[120]⟩, 0)] : List (Bool × ByteArray × Int)), ([(false, ⟨#[120]⟩, 0)] : List (Bool × ByteArray × Int))] : List (List (Bool × ByteArray × Int)))).length : Int) (poR (ofI ([([(false, ⟨#[120]⟩, 0), (false, ⟨#[120]⟩, 0)] : List (Bool × ByteArray × Int)), ([(false, ⟨#[120]⟩, 0)] : List (Bool × ByteArray × Int))] : List (List (Bool × ByteArray × Int))))) 0 1) = true := (by decide +kernel)
  refine k (gy rfl rfl rfl tr1 (ldX H16 0 rfl ty53 rfl rfl (by decide) rfl (k (gy rfl rfl rfl tr1 ?_))))
  have H17 := H16.freeze 1 rfl
  have cc3 := ref03_Has (mn := ((ofI ([([(false, ⟨#[120]⟩, 0), (false, ⟨#[120]⟩, 0)] : List (Bool × ByteArray × Int)), ([(false, ⟨#[120]⟩, 0)] : List (Bool × ByteArray × Int))] : List (List (Bool × ByteArray × Int)))).length : Int)) (mr := (poR (ofI ([([(false, ⟨#[120]⟩, 0), (false, ⟨#[120]⟩, 0)] : List (Bool × ByteArray × Int)), ([(false, ⟨#[120]⟩, 0)] : List (Bool × ByteArray × Int))] : List (List (Bool × ByteArray × Int)))))) (i := 1) (j := 2) (w := w9) H17.mb (by first | (unfold I64; decide +kernel) | decide +kernel) (H17.rv 1 rfl) (by first | (unfold I64; decide +kernel) | decide +kernel) (by first | (unfold I64; decide +kernel) | decide +kernel) (by decide +kernel) (by decide +kernel) (by decide +kernel)
  refine ca go53 rfl (ec rfl (ec rfl (ec rfl e0))) cc3 ?_
  rintro _ w10 ⟨rfl, xt8⟩
  have H18 := H16.ext xt8
  refine k (gy rfl rfl rfl tr1 (not_ rfl rfl (k (pickT rfl rfl rfl rfl tr1 rfl (k (mv (v := .bool (!(hasM ((ofI ([([(false, ⟨#[120]⟩, 0), (false, ⟨#[120]⟩, 0)] : List (Bool × ByteArray × Int)), ([(false, ⟨#[120]⟩, 0)] : List (Bool × ByteArray × Int))] : List (List (Bool × ByteArray × Int)))).length : Int) (poR (ofI ([([(false, ⟨#[120]⟩, 0), (false, ⟨#[120]⟩, 0)] : List (Bool × ByteArray × Int)), ([(false, ⟨#[120]⟩, 0)] : List (Bool × ByteArray × Int))] : List (List (Bool × ByteArray × Int))))) 1 2))) rfl rfl ?_))))))
  have tr2 : (hasM ((ofI ([([(false, ⟨#[120]⟩, 0), (false, ⟨#[120]⟩, 0)] : List (Bool × ByteArray × Int)), ([(false, ⟨#[120]⟩, 0)] : List (Bool × ByteArray × Int))] : List (List (Bool × ByteArray × Int)))).length : Int) (poR (ofI ([([(false, ⟨#[120]⟩, 0), (false, ⟨#[120]⟩, 0)] : List (Bool × ByteArray × Int)), ([(false, ⟨#[120]⟩, 0)] : List (Bool × ByteArray × Int))] : List (List (Bool × ByteArray × Int))))) 1 2) = false := (by decide +kernel)
  refine k (gy rfl rfl rfl (by rw [show (hasM ((ofI ([([(false, ⟨#[120]⟩, 0), (false, ⟨#[120]⟩, 0)] : List (Bool × ByteArray × Int)), ([(false, ⟨#[120]⟩, 0)] : List (Bool × ByteArray × Int))] : List (List (Bool × ByteArray × Int)))).length : Int) (poR (ofI ([([(false, ⟨#[120]⟩, 0), (false, ⟨#[120]⟩, 0)] : List (Bool × ByteArray × Int)), ([(false, ⟨#[120]⟩, 0)] : List (Bool × ByteArray × Int))] : List (List (Bool × ByteArray × Int))))) 1 2) = false from tr2]; rfl) (ldX H18 2 rfl ty30 rfl rfl (by decide) rfl (k (gy rfl rfl rfl (by rw [show (hasM ((ofI ([([(false, ⟨#[120]⟩, 0), (false, ⟨#[120]⟩, 0)] : List (Bool × ByteArray × Int)), ([(false, ⟨#[120]⟩, 0)] : List (Bool × ByteArray × Int))] : List (List (Bool × ByteArray × Int)))).length : Int) (poR (ofI ([([(false, ⟨#[120]⟩, 0), (false, ⟨#[120]⟩, 0)] : List (Bool × ByteArray × Int)), ([(false, ⟨#[120]⟩, 0)] : List (Bool × ByteArray × Int))] : List (List (Bool × ByteArray × Int))))) 1 2) = false from tr2]; rfl) ?_))))
  have cc4 := session_Ahead (fi := (ofI ([([(false, ⟨#[120]⟩, 0), (false, ⟨#[120]⟩, 0)] : List (Bool × ByteArray × Int)), ([(false, ⟨#[120]⟩, 0)] : List (Bool × ByteArray × Int))] : List (List (Bool × ByteArray × Int))))) (i := 0) (j := 1) (a_fv := a0) (n_fv := (ofV ([([(false, ⟨#[120]⟩, 0), (false, ⟨#[120]⟩, 0)] : List (Bool × ByteArray × Int)), ([(false, ⟨#[120]⟩, 0)] : List (Bool × ByteArray × Int))] : List (List (Bool × ByteArray × Int)))).length) (c_fv := c0) (a_fo := a2) (n_fo := ([] : List Int).length) (c_fo := c2) (w := w10) H18.mb (H18.rv 4 rfl) (by first | (unfold I64; decide +kernel) | decide +kernel) (by first | (unfold I64; decide +kernel) | decide +kernel)
  refine ca go34 rfl (ec rfl (ec rfl (ec rfl e0))) cc4 ?_
  rintro _ w11 ⟨rfl, xt9⟩
  have H19 := H18.ext xt9
  refine k (pickT rfl rfl rfl rfl (by rw [show (hasM ((ofI ([([(false, ⟨#[120]⟩, 0), (false, ⟨#[120]⟩, 0)] : List (Bool × ByteArray × Int)), ([(false, ⟨#[120]⟩, 0)] : List (Bool × ByteArray × Int))] : List (List (Bool × ByteArray × Int)))).length : Int) (poR (ofI ([([(false, ⟨#[120]⟩, 0), (false, ⟨#[120]⟩, 0)] : List (Bool × ByteArray × Int)), ([(false, ⟨#[120]⟩, 0)] : List (Bool × ByteArray × Int))] : List (List (Bool × ByteArray × Int))))) 1 2) = false from tr2]; rfl) rfl (k (mv (v := .bool (ahA (ofI ([([(false, ⟨#[120]⟩, 0), (false, ⟨#[120]⟩, 0)] : List (Bool × ByteArray × Int)), ([(false, ⟨#[120]⟩, 0)] : List (Bool × ByteArray × Int))] : List (List (Bool × ByteArray × Int)))) 0 1)) rfl rfl ?_)))
  have tr3 : (ahA (ofI ([([(false, ⟨#[120]⟩, 0), (false, ⟨#[120]⟩, 0)] : List (Bool × ByteArray × Int)), ([(false, ⟨#[120]⟩, 0)] : List (Bool × ByteArray × Int))] : List (List (Bool × ByteArray × Int)))) 0 1) = true := (by decide +kernel)
  refine k (gy rfl rfl rfl tr3 (ldX H19 2 rfl ty30 rfl rfl (by decide) rfl (k (gy rfl rfl rfl tr3 ?_))))
  have cc5 := session_Past (fi := (ofI ([([(false, ⟨#[120]⟩, 0), (false, ⟨#[120]⟩, 0)] : List (Bool × ByteArray × Int)), ([(false, ⟨#[120]⟩, 0)] : List (Bool × ByteArray × Int))] : List (List (Bool × ByteArray × Int))))) (tt := 1) (a_fv := a0) (n_fv := (ofV ([([(false, ⟨#[120]⟩, 0), (false, ⟨#[120]⟩, 0)] : List (Bool × ByteArray × Int)), ([(false, ⟨#[120]⟩, 0)] : List (Bool × ByteArray × Int))] : List (List (Bool × ByteArray × Int)))).length) (c_fv := c0) (a_fo := a2) (n_fo := ([] : List Int).length) (c_fo := c2) (w := w11) H19.mb (H19.rv 4 rfl) (by first | (unfold I64; decide +kernel) | decide +kernel) (by exact ofI_ord _) (by decide +kernel)
  refine ca go36 rfl (ec rfl (ec rfl e0)) cc5 ?_
  rintro _ w12 ⟨a4, c4, rfl, xt10, rv4⟩
  have H20 := H19.ownsG rv4
  refine k (gy rfl rfl rfl tr3 (bs (xs := ([0, 1] : List Int)) (cells := #[.int .i64 0, .int .i64 1]) (e := 3) H20 rfl (pbc rfl (pbc rfl pb0)) (fun _ => by kernel_rfl) ⟨[.int .i64 0], [.int .i64 1], rfl, ⟨rfl, (show I64 (0) from (by first | (unfold I64; decide +kernel) | decide +kernel))⟩, ⟨[.int .i64 1], [], rfl, ⟨rfl, (show I64 (1) from (by first | (unfold I64; decide +kernel) | decide +kernel))⟩, rfl⟩⟩ rfl (by unfold maxLen; omega) ?_))
  intro g3 w13 xt11 (H21 : HI (fun _ => False) w w13 [own w.heap.size 3 (.slice (some ⟨g3, 0, none⟩) 2 2) ([0, 1] : List Int), own w.heap.size 3 (.slice a4 (pastA (ofI ([([(false, ⟨#[120]⟩, 0), (false, ⟨#[120]⟩, 0)] : List (Bool × ByteArray × Int)), ([(false, ⟨#[120]⟩, 0)] : List (Bool × ByteArray × Int))] : List (List (Bool × ByteArray × Int)))) 1).length c4) (pastA (ofI ([([(false, ⟨#[120]⟩, 0), (false, ⟨#[120]⟩, 0)] : List (Bool × ByteArray × Int)), ([(false, ⟨#[120]⟩, 0)] : List (Bool × ByteArray × Int))] : List (List (Bool × ByteArray × Int)))) 1), box bb1 #[.int .i64 ((ofI ([([(false, ⟨#[120]⟩, 0), (false, ⟨#[120]⟩, 0)] : List (Bool × ByteArray × Int)), ([(false, ⟨#[120]⟩, 0)] : List (Bool × ByteArray × Int))] : List (List (Bool × ByteArray × Int)))).length : Int), .slice a3 (poR (ofI ([([(false, ⟨#[120]⟩, 0), (false, ⟨#[120]⟩, 0)] : List (Bool × ByteArray × Int)), ([(false, ⟨#[120]⟩, 0)] : List (Bool × ByteArray × Int))] : List (List (Bool × ByteArray × Int))))).length c3] 53, own w.heap.size 79 (.slice a3 (poR (ofI ([([(false, ⟨#[120]⟩, 0), (false, ⟨#[120]⟩, 0)] : List (Bool × ByteArray × Int)), ([(false, ⟨#[120]⟩, 0)] : List (Bool × ByteArray × Int))] : List (List (Bool × ByteArray × Int))))).length c3) (poR (ofI ([([(false, ⟨#[120]⟩, 0), (false, ⟨#[120]⟩, 0)] : List (Bool × ByteArray × Int)), ([(false, ⟨#[120]⟩, 0)] : List (Bool × ByteArray × Int))] : List (List (Bool × ByteArray × Int))))), box bb0 #[.slice a0 (ofV ([([(false, ⟨#[120]⟩, 0), (false, ⟨#[120]⟩, 0)] : List (Bool × ByteArray × Int)), ([(false, ⟨#[120]⟩, 0)] : List (Bool × ByteArray × Int))] : List (List (Bool × ByteArray × Int)))).length c0, .slice a1 (ofI ([([(false, ⟨#[120]⟩, 0), (false, ⟨#[120]⟩, 0)] : List (Bool × ByteArray × Int)), ([(false, ⟨#[120]⟩, 0)] : List (Bool × ByteArray × Int))] : List (List (Bool × ByteArray × Int)))).length c1, .slice a2 ([] : List Int).length c2] 30, imm (.slice a2 ([] : List Int).length c2) ([] : List Int), imm (.slice a1 (ofI ([([(false, ⟨#[120]⟩, 0), (false, ⟨#[120]⟩, 0)] : List (Bool × ByteArray × Int)), ([(false, ⟨#[120]⟩, 0)] : List (Bool × ByteArray × Int))] : List (List (Bool × ByteArray × Int)))).length c1) (ofI ([([(false, ⟨#[120]⟩, 0), (false, ⟨#[120]⟩, 0)] : List (Bool × ByteArray × Int)), ([(false, ⟨#[120]⟩, 0)] : List (Bool × ByteArray × Int))] : List (List (Bool × ByteArray × Int)))), imm (.slice a0 (ofV ([([(false, ⟨#[120]⟩, 0), (false, ⟨#[120]⟩, 0)] : List (Bool × ByteArray × Int)), ([(false, ⟨#[120]⟩, 0)] : List (Bool × ByteArray × Int))] : List (List (Bool × ByteArray × Int)))).length c0) (ofV ([([(false, ⟨#[120]⟩, 0), (false, ⟨#[120]⟩, 0)] : List (Bool × ByteArray × Int)), ([(false, ⟨#[120]⟩, 0)] : List (Bool × ByteArray × Int))] : List (List (Bool × ByteArray × Int)))), imm (.slice (some ⟨g2, 0, none⟩) 2 2) ([([(false, ⟨#[120]⟩, 0), (false, ⟨#[120]⟩, 0)] : List (Bool × ByteArray × Int)), ([(false, ⟨#[120]⟩, 0)] : List (Bool × ByteArray × Int))] : List (List (Bool × ByteArray × Int))), imm (.slice (some ⟨g1, 0, none⟩) 1 1) ([(false, ⟨#[120]⟩, 0)] : List (Bool × ByteArray × Int)), imm (.slice (some ⟨g0, 0, none⟩) 2 2) ([(false, ⟨#[120]⟩, 0), (false, ⟨#[120]⟩, 0)] : List (Bool × ByteArray × Int))])
  refine k (gy rfl rfl rfl tr3 ?_)
  have H22 := H21.freeze 1 rfl
  have H23 := H22.freeze 0 rfl
  have cc6 := ref02_Ints (a := (pastA (ofI ([([(false, ⟨#[120]⟩, 0), (false, ⟨#[120]⟩, 0)] : List (Bool × ByteArray × Int)), ([(false, ⟨#[120]⟩, 0)] : List (Bool × ByteArray × Int))] : List (List (Bool × ByteArray × Int)))) 1)) (b := ([0, 1] : List Int)) (w := w13) H23.mb (H23.rv 1 rfl) (H23.rv 0 rfl)
  refine ca go27 rfl (ec rfl (ec rfl e0)) cc6 ?_
  rintro _ w14 ⟨rfl, xt12⟩
  have H24 := H21.ext xt12
  refine k (pickT rfl rfl rfl rfl tr3 rfl (k (asg (v := .bool (decide ((pastA (ofI ([([(false, ⟨#[120]⟩, 0), (false, ⟨#[120]⟩, 0)] : List (Bool × ByteArray × Int)), ([(false, ⟨#[120]⟩, 0)] : List (Bool × ByteArray × Int))] : List (List (Bool × ByteArray × Int)))) 1) = ([0, 1] : List Int)))) rfl rfl (z (nx (rt (r1 rfl rfl ?_)))))))
  have tr4 : (decide ((pastA (ofI ([([(false, ⟨#[120]⟩, 0), (false, ⟨#[120]⟩, 0)] : List (Bool × ByteArray × Int)), ([(false, ⟨#[120]⟩, 0)] : List (Bool × ByteArray × Int))] : List (List (Bool × ByteArray × Int)))) 1) = ([0, 1] : List Int))) = true := (by decide +kernel)
  have e0 : (decide ((pastA (ofI ([([(false, ⟨#[120]⟩, 0), (false, ⟨#[120]⟩, 0)] : List (Bool × ByteArray × Int)), ([(false, ⟨#[120]⟩, 0)] : List (Bool × ByteArray × Int))] : List (List (Bool × ByteArray × Int)))) 1) = ([0, 1] : List Int)) : Bool) = true := by exact tr4
  have ev_ := cg1 (fun (x_0 : Bool) => (.bool x_0 : Value)) e0
  exact ⟨ev_, H24.below⟩
/- eyewitness/eyewitnesslaw12.SessionTells -/
set_option maxRecDepth 100000 in
set_option maxHeartbeats 1600000 in
theorem law_SessionTells {M : Nat → Prop} {w : World} {a_h : Option Addr} {c_h : Nat} {h : List (List (Bool × ByteArray × Int))} {i : Int} {j : Int} (hM : ∀ b, M b → b < w.heap.size) (h_h : RV M w (.slice a_h h.length c_h) h) (h_i : I64 i) (h_j : I64 j) (hb_h : h.flatten.length ≤ 1048576) : Calls Try.prog 9 #[.slice a_h h.length c_h, .int .i64 i, .int .i64 j] w (Ret fun v w' =>  v = .bool true ∧ Ext w w') := by
  refine enter 51 Try.func9 rfl rfl rfl fun f0 ha => ?_
  have H := HI.start (M0 := M) (w := w) hM
  have H0 := H.put (it := imm (.slice a_h h.length c_h) h) rfl (by rw [MS_nil]; exact h_h)
  have ln_h := rv_len h_h
  have i0 : f0 0 = .slice a_h h.length c_h := ha 0 (by simp)
  have i1 : f0 1 = .int .i64 i := ha 1 (by simp)
  have i2 : f0 2 = .int .i64 j := ha 2 (by simp)
  refine sq (rg (k (asg (v := .bool false) rfl rfl (z (nx (sq (sq (rg (k (mv rfl i0 (k ?_)))))))))))
  have cc0 := ref06_Small (h := h) (m := 40) (w := w) H0.mb (H0.rv 0 rfl) (by unfold I64 at *; omega) (by first | assumption | decide +kernel)
  refine ca go12 rfl (ec rfl (ec rfl e0)) cc0 ?_
  rintro _ w0 ⟨rfl, xt0⟩
  have H1 := H0.ext xt0
  refine k (not_ rfl rfl (k (mv (v := .bool (!(smallH h 40))) rfl rfl ?_)))
  rcases Bool.eq_false_or_eq_true (!(smallH h 40)) with b0 | b0
  · -- !(smallH h 40) is True
    refine k (gn rfl rfl rfl b0 (k (gn rfl rfl rfl b0 (k (gn rfl rfl rfl b0 (k (pickT rfl rfl rfl rfl b0 rfl (z (nx (cdT rfl rfl rfl (sq (rg (k ?_)))))))))))))
    have cc1 := awake12 (w := w0)
    refine ca go30 rfl e0 cc1 ?_
    rintro _ w1 ⟨rfl, xt1⟩
    have H2 := H1.ext xt1
    refine k (asg (v := .bool true) rfl rfl (z (nx (rt (then_ret (r1 rfl rfl ?_))))))
    exact ⟨rfl, H2.below⟩
  · -- !(smallH h 40) is False
    refine k (gy rfl rfl rfl b0 (mv rfl i0 (k (gy rfl rfl rfl b0 ?_))))
    have cc1 := ref06_Right (h := h) (w := w0) H1.mb (H1.rv 0 rfl) (by first | assumption | decide +kernel)
    refine ca go13 rfl (ec rfl e0) cc1 ?_
    rintro _ w1 ⟨rfl, xt1⟩
    have H2 := H1.ext xt1
    refine k (gy rfl rfl rfl b0 (not_ rfl rfl (k (pickF rfl rfl rfl rfl b0 rfl (z (nx ?_))))))
    refine cd (b := !(rightH h)) rfl rfl (fun b1 => ?_) (fun b1 => ?_)
    ·
      refine sq (rg (k ?_))
      have cc2 := awake12 (w := w1)
      refine ca go30 rfl e0 cc2 ?_
      rintro _ w2 ⟨rfl, xt2⟩
      have H3 := H2.ext xt2
      refine k (asg (v := .bool true) rfl rfl (z (nx (rt (then_ret (r1 rfl rfl ?_))))))
      exact ⟨rfl, H3.below⟩
    ·
      refine sk (nx (sq ?_))
      have sm_ : smallH h 40 = true := by simpa using ‹(!smallH h 40) = false›
      have rt_ : rightH h = true := by simpa using ‹(!rightH h) = false›
      have hl_ := sess_len sm_
      refine rg (k (mv rfl i0 (k ?_)))
      have cc2 := ref09_Of (h := h) (w := w1) H2.mb (H2.rv 0 rfl) (by first | assumption | decide +kernel)
      refine ca go15 rfl (ec rfl e0) cc2 ?_
      rintro _ w2 ⟨a0, c0, a1, c1, a2, c2, rfl, xt2, rv0, rv1, rv2⟩
      have H3 := H2.ext xt2
      have H4 := H3.put (it := imm (.slice a0 (ofV h).length c0) (ofV h)) rfl rv0
      have H5 := H4.put (it := imm (.slice a1 (ofI h).length c1) (ofI h)) rfl (by rw [MS_cons_none rfl]; exact rv1)
      have H6 := H5.put (it := imm (.slice a2 ([] : List Int).length c2) ([] : List Int)) rfl (by rw [MS_cons_none rfl, MS_cons_none rfl]; exact rv2)
      refine k (mv (v := .tuple #[.agg #[.slice a0 (ofV h).length c0, .slice a1 (ofI h).length c1, .slice a2 ([] : List Int).length c2], .int .i64 (ofE h)]) rfl rfl (k (xt rfl rfl rfl (k (xt rfl rfl rfl (k (al H6 ty30 ?_)))))))
      intro bb0 w3 xt3 (H7 : HI M w w3 [box bb0 #[.slice none 0 0, .slice none 0 0, .slice none 0 0] 30, imm (.slice a2 ([] : List Int).length c2) ([] : List Int), imm (.slice a1 (ofI h).length c1) (ofI h), imm (.slice a0 (ofV h).length c0) (ofV h), imm (.slice a_h h.length c_h) h])
      refine k (stX H7 0 rfl ty30 rfl rfl rfl rfl rfl rfl rfl ?_)
      intro w4 (H8 : HI M w w4 [box bb0 #[.slice a0 (ofV h).length c0, .slice a1 (ofI h).length c1, .slice a2 ([] : List Int).length c2] 30, imm (.slice a2 ([] : List Int).length c2) ([] : List Int), imm (.slice a1 (ofI h).length c1) (ofI h), imm (.slice a0 (ofV h).length c0) (ofV h), imm (.slice a_h h.length c_h) h])
      refine k (asg (v := .int .i64 (ofE h)) rfl rfl (z (nx (sq ?_))))
      have sm_ : smallH h 40 = true := by simpa using ‹(!smallH h 40) = false›
      have rt_ : rightH h = true := by simpa using ‹(!rightH h) = false›
      have hl_ := sess_len sm_
      refine dr 25 [fun (v : Value) (w' : World) => v = .bool true, fun (v : Value) (w' : World) => v = .bool true, fun (v : Value) (w' : World) => v = .agg #[.slice a0 (ofV h).length c0, .slice a1 (ofI h).length c1, .slice a2 ([] : List Int).length c2], fun (v : Value) (w' : World) => ∃ (a3 : Option Addr) (c3 : Nat), v = .agg #[.int .i64 ((ofI h).length : Int), .slice a3 (poR (ofI h)).length c3] ∧ RV (MS M [box bb0 #[.slice a0 (ofV h).length c0, .slice a1 (ofI h).length c1, .slice a2 ([] : List Int).length c2] 30, imm (.slice a2 ([] : List Int).length c2) ([] : List Int), imm (.slice a1 (ofI h).length c1) (ofI h), imm (.slice a0 (ofV h).length c0) (ofV h), imm (.slice a_h h.length c_h) h]) w' (.slice a3 (poR (ofI h)).length c3) (poR (ofI h)), fun (v : Value) (w' : World) => v = .agg #[.slice a0 (ofV h).length c0, .slice a1 (ofI h).length c1, .slice a2 ([] : List Int).length c2], fun (v : Value) (w' : World) => ∃ (a4 : Option Addr) (c4 : Nat), v = .agg #[.int .i64 ((ofI h).length : Int), .slice a4 (poR (ofI h)).length c4] ∧ RV (MS M [box bb0 #[.slice a0 (ofV h).length c0, .slice a1 (ofI h).length c1, .slice a2 ([] : List Int).length c2] 30, imm (.slice a2 ([] : List Int).length c2) ([] : List Int), imm (.slice a1 (ofI h).length c1) (ofI h), imm (.slice a0 (ofV h).length c0) (ofV h), imm (.slice a_h h.length c_h) h]) w' (.slice a4 (poR (ofI h)).length c4) (poR (ofI h)), fun (v : Value) (w' : World) => v = .bool (eqM ((ofI h).length : Int) (poR (ofI h)) ((ofI h).length : Int) (poR (ofI h))), fun (v : Value) (w' : World) => v = .bool (eqM ((ofI h).length : Int) (poR (ofI h)) ((ofI h).length : Int) (poR (ofI h))), fun (v : Value) (w' : World) => v = .bool (eqM ((ofI h).length : Int) (poR (ofI h)) ((ofI h).length : Int) (poR (ofI h))), fun (v : Value) (w' : World) => v = .agg #[.slice a0 (ofV h).length c0, .slice a1 (ofI h).length c1, .slice a2 ([] : List Int).length c2], fun (v : Value) (w' : World) => v = .int .i64 i, fun (v : Value) (w' : World) => v = .int .i64 j, fun (v : Value) (w' : World) => v = .bool (ahA (ofI h) i j), fun (v : Value) (w' : World) => v = .agg #[.slice a0 (ofV h).length c0, .slice a1 (ofI h).length c1, .slice a2 ([] : List Int).length c2], fun (v : Value) (w' : World) => v = .int .i64 i, fun (v : Value) (w' : World) => v = .int .i64 j, fun (v : Value) (w' : World) => v = .bool (ahB (ofI h) i j), fun (v : Value) (w' : World) => v = .bool ((ahA (ofI h) i j) == (ahB (ofI h) i j)), fun (v : Value) (w' : World) => v = .bool ((ahA (ofI h) i j) == (ahB (ofI h) i j)), fun (v : Value) (w' : World) => v = .bool ((ahA (ofI h) i j) == (ahB (ofI h) i j)), fun (v : Value) (w' : World) => v = .agg #[.slice a0 (ofV h).length c0, .slice a1 (ofI h).length c1, .slice a2 ([] : List Int).length c2], fun (v : Value) (w' : World) => v = .int .i64 i, fun (v : Value) (w' : World) => ∃ (a5 : Option Addr) (c5 : Nat), v = .slice a5 (pastA (ofI h) i).length c5 ∧ RV (MS M [box bb0 #[.slice a0 (ofV h).length c0, .slice a1 (ofI h).length c1, .slice a2 ([] : List Int).length c2] 30, imm (.slice a2 ([] : List Int).length c2) ([] : List Int), imm (.slice a1 (ofI h).length c1) (ofI h), imm (.slice a0 (ofV h).length c0) (ofV h), imm (.slice a_h h.length c_h) h]) w' (.slice a5 (pastA (ofI h) i).length c5) (pastA (ofI h) i), fun (v : Value) (w' : World) => v = .agg #[.slice a0 (ofV h).length c0, .slice a1 (ofI h).length c1, .slice a2 ([] : List Int).length c2], fun (v : Value) (w' : World) => v = .int .i64 i] rfl (by kernel_rfl) ?_ ?_
      ·
        refine ⟨fun _ => ⟨fun f0 w12 hf0 xt11 hp0 => ?_, fun _ _ _ _ h => h⟩, ?_⟩
        ·
          have H19 := H8.ext xt11
          have cc10 := awake12 (w := w12)
          refine ca go30 rfl e0 cc10 ?_
          rintro _ w13 ⟨rfl, xt12⟩
          have H20 := H19.ext xt12
          exact ⟨_, rfl, xt12, rfl⟩
        refine ⟨fun _ => ⟨fun f1 w14 hf1 xt13 hp1 => ?_, fun _ _ _ _ h => h⟩, ?_⟩
        ·
          have H21 := H8.ext xt13
          have s0 : f1 23 = .bool true := hp1 0 rfl rfl
          refine mv rfl s0 ?_
          exact ⟨_, rfl, Ext.refl _, rfl⟩
        refine ⟨fun _ => ⟨fun f2 w15 hf2 xt14 hp2 => ?_, fun _ _ _ _ h => h⟩, ?_⟩
        ·
          have H22 := H8.ext xt14
          have s1 : f2 24 = .bool true := hp2 1 rfl rfl
          refine gy rfl rfl s1 rfl (ldX H22 0 rfl ty30 rfl (hf2 7 rfl) (by decide) rfl ?_)
          exact ⟨_, rfl, Ext.refl _, rfl⟩
        refine ⟨fun _ => ⟨fun f3 w16 hf3 xt15 hp3 => ?_, by rintro _ _ _ x_ ⟨a3, c3, e_, rv4⟩; exact ⟨a3, c3, e_, rv4.lift (Up.ext x_)⟩⟩, ?_⟩
        ·
          have H23 := H8.ext xt15
          have s2 : f3 24 = .bool true := hp3 1 rfl rfl
          have s3 : f3 25 = .agg #[.slice a0 (ofV h).length c0, .slice a1 (ofI h).length c1, .slice a2 ([] : List Int).length c2] := hp3 2 rfl rfl
          refine gy rfl rfl s2 rfl ?_
          have cc11 := session_Po (fi := (ofI h)) (a_fv := a0) (n_fv := (ofV h).length) (c_fv := c0) (a_fo := a2) (n_fo := ([] : List Int).length) (c_fo := c2) (w := w16) H23.mb (H23.rv 2 rfl) (by exact ofI_ord h) (by first | assumption | omega)
          refine ca go32 rfl (ec s3 e0) cc11 ?_
          rintro _ w17 ⟨a6, c6, rfl, xt16, rv8⟩
          have rv9 := OwnsG.rv rv8 H23.mb
          have H24 := H23.ext xt16
          have H25 := H24.put (it := imm (.slice a6 (poR (ofI h)).length c6) (poR (ofI h))) rfl rv9
          exact ⟨_, rfl, xt16, ⟨a6, c6, rfl, rv9⟩⟩
        refine ⟨fun _ => ⟨fun f4 w18 hf4 xt17 hp4 => ?_, fun _ _ _ _ h => h⟩, ?_⟩
        ·
          have H26 := H8.ext xt17
          have s4 : f4 24 = .bool true := hp4 1 rfl rfl
          refine gy rfl rfl s4 rfl (ldX H26 0 rfl ty30 rfl (hf4 7 rfl) (by decide) rfl ?_)
          exact ⟨_, rfl, Ext.refl _, rfl⟩
        refine ⟨fun _ => ⟨fun f5 w19 hf5 xt18 hp5 => ?_, by rintro _ _ _ x_ ⟨a4, c4, e_, rv5⟩; exact ⟨a4, c4, e_, rv5.lift (Up.ext x_)⟩⟩, ?_⟩
        ·
          have H27 := H8.ext xt18
          have s5 : f5 24 = .bool true := hp5 1 rfl rfl
          have s6 : f5 27 = .agg #[.slice a0 (ofV h).length c0, .slice a1 (ofI h).length c1, .slice a2 ([] : List Int).length c2] := hp5 4 rfl rfl
          refine gy rfl rfl s5 rfl ?_
          have cc12 := ref12_Po (fi := (ofI h)) (a_fv := a0) (n_fv := (ofV h).length) (c_fv := c0) (a_fo := a2) (n_fo := ([] : List Int).length) (c_fo := c2) (w := w19) H27.mb (H27.rv 2 rfl) (by exact ofI_ord h) (by first | assumption | omega)
          refine ca go33 rfl (ec s6 e0) cc12 ?_
          rintro _ w20 ⟨a7, c7, rfl, xt19, rv10⟩
          have H28 := H27.ext xt19
          have H29 := H28.put (it := imm (.slice a7 (poR (ofI h)).length c7) (poR (ofI h))) rfl rv10
          exact ⟨_, rfl, xt19, ⟨a7, c7, rfl, rv10⟩⟩
        refine ⟨fun _ => ⟨fun f6 w21 hf6 xt20 hp6 => ?_, fun _ _ _ _ h => h⟩, ?_⟩
        ·
          have H30 := H8.ext xt20
          have s7 : f6 24 = .bool true := hp6 1 rfl rfl
          obtain ⟨a8, c8, s8, rv11⟩ : ∃ (a8 : Option Addr) (c8 : Nat), f6 26 = .agg #[.int .i64 ((ofI h).length : Int), .slice a8 (poR (ofI h)).length c8] ∧ RV (MS M [box bb0 #[.slice a0 (ofV h).length c0, .slice a1 (ofI h).length c1, .slice a2 ([] : List Int).length c2] 30, imm (.slice a2 ([] : List Int).length c2) ([] : List Int), imm (.slice a1 (ofI h).length c1) (ofI h), imm (.slice a0 (ofV h).length c0) (ofV h), imm (.slice a_h h.length c_h) h]) w21 (.slice a8 (poR (ofI h)).length c8) (poR (ofI h)) := hp6 3 rfl rfl
          have H31 := H30.put (it := imm (.slice a8 (poR (ofI h)).length c8) (poR (ofI h))) rfl rv11
          obtain ⟨a9, c9, s9, rv12⟩ : ∃ (a9 : Option Addr) (c9 : Nat), f6 28 = .agg #[.int .i64 ((ofI h).length : Int), .slice a9 (poR (ofI h)).length c9] ∧ RV (MS M [box bb0 #[.slice a0 (ofV h).length c0, .slice a1 (ofI h).length c1, .slice a2 ([] : List Int).length c2] 30, imm (.slice a2 ([] : List Int).length c2) ([] : List Int), imm (.slice a1 (ofI h).length c1) (ofI h), imm (.slice a0 (ofV h).length c0) (ofV h), imm (.slice a_h h.length c_h) h]) w21 (.slice a9 (poR (ofI h)).length c9) (poR (ofI h)) := hp6 5 rfl rfl
          have H32 := H31.put (it := imm (.slice a9 (poR (ofI h)).length c9) (poR (ofI h))) rfl (by rw [MS_cons_none rfl]; exact rv12)
          refine gy rfl rfl s7 rfl ?_
          have cc13 := ref03_Equal (an := ((ofI h).length : Int)) (ar := (poR (ofI h))) (bn := ((ofI h).length : Int)) (br := (poR (ofI h))) (w := w21) H32.mb (by unfold I64 at *; omega) (H32.rv 1 rfl) (by unfold I64 at *; omega) (H32.rv 0 rfl)
          refine ca go31 rfl (ec s8 (ec s9 e0)) cc13 ?_
          rintro _ w22 ⟨rfl, xt21⟩
          have H33 := H32.ext xt21
          exact ⟨_, rfl, xt21, rfl⟩
        refine ⟨fun _ => ⟨fun f7 w23 hf7 xt22 hp7 => ?_, fun _ _ _ _ h => h⟩, ?_⟩
        ·
          have H34 := H8.ext xt22
          have s10 : f7 24 = .bool true := hp7 1 rfl rfl
          have s11 : f7 29 = .bool (eqM ((ofI h).length : Int) (poR (ofI h)) ((ofI h).length : Int) (poR (ofI h))) := hp7 6 rfl rfl
          refine pickT rfl rfl rfl s10 rfl s11 ?_
          exact ⟨_, rfl, Ext.refl _, rfl⟩
        refine ⟨fun _ => ⟨fun f8 w24 hf8 xt23 hp8 => ?_, fun _ _ _ _ h => h⟩, ?_⟩
        ·
          have H35 := H8.ext xt23
          have s12 : f8 30 = .bool (eqM ((ofI h).length : Int) (poR (ofI h)) ((ofI h).length : Int) (poR (ofI h))) := hp8 7 rfl rfl
          refine mv rfl s12 ?_
          exact ⟨_, rfl, Ext.refl _, rfl⟩
        refine ⟨fun _ => ⟨fun f9 w25 hf9 xt24 hp9 => ?_, fun _ _ _ _ h => h⟩, ?_⟩
        ·
          have H36 := H8.ext xt24
          have s13 : f9 31 = .bool (eqM ((ofI h).length : Int) (poR (ofI h)) ((ofI h).length : Int) (poR (ofI h))) := hp9 8 rfl rfl
          refine gy rfl rfl s13 (eqM_refl _ _) (ldX H36 0 rfl ty30 rfl (hf9 7 rfl) (by decide) rfl ?_)
          exact ⟨_, rfl, Ext.refl _, rfl⟩
        refine ⟨fun _ => ⟨fun f10 w26 hf10 xt25 hp10 => ?_, fun _ _ _ _ h => h⟩, ?_⟩
        ·
          have H37 := H8.ext xt25
          have s14 : f10 31 = .bool (eqM ((ofI h).length : Int) (poR (ofI h)) ((ofI h).length : Int) (poR (ofI h))) := hp10 8 rfl rfl
          refine gy rfl rfl s14 (eqM_refl _ _) (mv rfl ((hf10 1 rfl).trans i1) ?_)
          exact ⟨_, rfl, Ext.refl _, rfl⟩
        refine ⟨fun _ => ⟨fun f11 w27 hf11 xt26 hp11 => ?_, fun _ _ _ _ h => h⟩, ?_⟩
        ·
          have H38 := H8.ext xt26
          have s15 : f11 31 = .bool (eqM ((ofI h).length : Int) (poR (ofI h)) ((ofI h).length : Int) (poR (ofI h))) := hp11 8 rfl rfl
          refine gy rfl rfl s15 (eqM_refl _ _) (mv rfl ((hf11 2 rfl).trans i2) ?_)
          exact ⟨_, rfl, Ext.refl _, rfl⟩
        refine ⟨fun _ => ⟨fun f12 w28 hf12 xt27 hp12 => ?_, fun _ _ _ _ h => h⟩, ?_⟩
        ·
          have H39 := H8.ext xt27
          have s16 : f12 31 = .bool (eqM ((ofI h).length : Int) (poR (ofI h)) ((ofI h).length : Int) (poR (ofI h))) := hp12 8 rfl rfl
          have s17 : f12 32 = .agg #[.slice a0 (ofV h).length c0, .slice a1 (ofI h).length c1, .slice a2 ([] : List Int).length c2] := hp12 9 rfl rfl
          have s18 : f12 33 = .int .i64 i := hp12 10 rfl rfl
          have s19 : f12 34 = .int .i64 j := hp12 11 rfl rfl
          refine gy rfl rfl s16 (eqM_refl _ _) ?_
          have cc14 := session_Ahead (fi := (ofI h)) (i := i) (j := j) (a_fv := a0) (n_fv := (ofV h).length) (c_fv := c0) (a_fo := a2) (n_fo := ([] : List Int).length) (c_fo := c2) (w := w28) H39.mb (H39.rv 2 rfl) (by unfold I64 at *; omega) (by unfold I64 at *; omega)
          refine ca go34 rfl (ec s17 (ec s18 (ec s19 e0))) cc14 ?_
          rintro _ w29 ⟨rfl, xt28⟩
          have H40 := H39.ext xt28
          exact ⟨_, rfl, xt28, rfl⟩
        refine ⟨fun _ => ⟨fun f13 w30 hf13 xt29 hp13 => ?_, fun _ _ _ _ h => h⟩, ?_⟩
        ·
          have H41 := H8.ext xt29
          have s20 : f13 31 = .bool (eqM ((ofI h).length : Int) (poR (ofI h)) ((ofI h).length : Int) (poR (ofI h))) := hp13 8 rfl rfl
          refine gy rfl rfl s20 (eqM_refl _ _) (ldX H41 0 rfl ty30 rfl (hf13 7 rfl) (by decide) rfl ?_)
          exact ⟨_, rfl, Ext.refl _, rfl⟩
        refine ⟨fun _ => ⟨fun f14 w31 hf14 xt30 hp14 => ?_, fun _ _ _ _ h => h⟩, ?_⟩
        ·
          have H42 := H8.ext xt30
          have s21 : f14 31 = .bool (eqM ((ofI h).length : Int) (poR (ofI h)) ((ofI h).length : Int) (poR (ofI h))) := hp14 8 rfl rfl
          refine gy rfl rfl s21 (eqM_refl _ _) (mv rfl ((hf14 1 rfl).trans i1) ?_)
          exact ⟨_, rfl, Ext.refl _, rfl⟩
        refine ⟨fun _ => ⟨fun f15 w32 hf15 xt31 hp15 => ?_, fun _ _ _ _ h => h⟩, ?_⟩
        ·
          have H43 := H8.ext xt31
          have s22 : f15 31 = .bool (eqM ((ofI h).length : Int) (poR (ofI h)) ((ofI h).length : Int) (poR (ofI h))) := hp15 8 rfl rfl
          refine gy rfl rfl s22 (eqM_refl _ _) (mv rfl ((hf15 2 rfl).trans i2) ?_)
          exact ⟨_, rfl, Ext.refl _, rfl⟩
        refine ⟨fun _ => ⟨fun f16 w33 hf16 xt32 hp16 => ?_, fun _ _ _ _ h => h⟩, ?_⟩
        ·
          have H44 := H8.ext xt32
          have s23 : f16 31 = .bool (eqM ((ofI h).length : Int) (poR (ofI h)) ((ofI h).length : Int) (poR (ofI h))) := hp16 8 rfl rfl
          have s24 : f16 36 = .agg #[.slice a0 (ofV h).length c0, .slice a1 (ofI h).length c1, .slice a2 ([] : List Int).length c2] := hp16 13 rfl rfl
          have s25 : f16 37 = .int .i64 i := hp16 14 rfl rfl
          have s26 : f16 38 = .int .i64 j := hp16 15 rfl rfl
          refine gy rfl rfl s23 (eqM_refl _ _) ?_
          have cc15 := ref12_Ahead (fi := (ofI h)) (i := i) (j := j) (a_fv := a0) (n_fv := (ofV h).length) (c_fv := c0) (a_fo := a2) (n_fo := ([] : List Int).length) (c_fo := c2) (w := w33) H44.mb (H44.rv 2 rfl) (by unfold I64 at *; omega) (by unfold I64 at *; omega)
          refine ca go35 rfl (ec s24 (ec s25 (ec s26 e0))) cc15 ?_
          rintro _ w34 ⟨rfl, xt33⟩
          have H45 := H44.ext xt33
          exact ⟨_, rfl, xt33, rfl⟩
        refine ⟨fun _ => ⟨fun f17 w35 hf17 xt34 hp17 => ?_, fun _ _ _ _ h => h⟩, ?_⟩
        ·
          have H46 := H8.ext xt34
          have s27 : f17 31 = .bool (eqM ((ofI h).length : Int) (poR (ofI h)) ((ofI h).length : Int) (poR (ofI h))) := hp17 8 rfl rfl
          have s28 : f17 35 = .bool (ahA (ofI h) i j) := hp17 12 rfl rfl
          have s29 : f17 39 = .bool (ahB (ofI h) i j) := hp17 16 rfl rfl
          refine gy rfl rfl s27 (eqM_refl _ _) (eqB rfl rfl s28 s29 un4 ?_)
          exact ⟨_, rfl, Ext.refl _, rfl⟩
        refine ⟨fun _ => ⟨fun f18 w36 hf18 xt35 hp18 => ?_, fun _ _ _ _ h => h⟩, ?_⟩
        ·
          have H47 := H8.ext xt35
          have s30 : f18 31 = .bool (eqM ((ofI h).length : Int) (poR (ofI h)) ((ofI h).length : Int) (poR (ofI h))) := hp18 8 rfl rfl
          have s31 : f18 40 = .bool ((ahA (ofI h) i j) == (ahB (ofI h) i j)) := hp18 17 rfl rfl
          refine pickT rfl rfl rfl s30 (eqM_refl _ _) s31 ?_
          exact ⟨_, rfl, Ext.refl _, rfl⟩
        refine ⟨fun _ => ⟨fun f19 w37 hf19 xt36 hp19 => ?_, fun _ _ _ _ h => h⟩, ?_⟩
        ·
          have H48 := H8.ext xt36
          have s32 : f19 41 = .bool ((ahA (ofI h) i j) == (ahB (ofI h) i j)) := hp19 18 rfl rfl
          refine mv rfl s32 ?_
          exact ⟨_, rfl, Ext.refl _, rfl⟩
        refine ⟨fun _ => ⟨fun f20 w38 hf20 xt37 hp20 => ?_, fun _ _ _ _ h => h⟩, ?_⟩
        ·
          have H49 := H8.ext xt37
          have s33 : f20 42 = .bool ((ahA (ofI h) i j) == (ahB (ofI h) i j)) := hp20 19 rfl rfl
          have tr1 : ((ahA (ofI h) i j) == (ahB (ofI h) i j)) = true := (by rw [ahead_two]; simp)
          refine gy rfl rfl s33 tr1 (ldX H49 0 rfl ty30 rfl (hf20 7 rfl) (by decide) rfl ?_)
          exact ⟨_, rfl, Ext.refl _, rfl⟩
        refine ⟨fun _ => ⟨fun f21 w39 hf21 xt38 hp21 => ?_, fun _ _ _ _ h => h⟩, ?_⟩
        ·
          have H50 := H8.ext xt38
          have s34 : f21 42 = .bool ((ahA (ofI h) i j) == (ahB (ofI h) i j)) := hp21 19 rfl rfl
          have tr2 : ((ahA (ofI h) i j) == (ahB (ofI h) i j)) = true := (by rw [ahead_two]; simp)
          refine gy rfl rfl s34 tr2 (mv rfl ((hf21 1 rfl).trans i1) ?_)
          exact ⟨_, rfl, Ext.refl _, rfl⟩
        refine ⟨fun _ => ⟨fun f22 w40 hf22 xt39 hp22 => ?_, by rintro _ _ _ x_ ⟨a5, c5, e_, rv7⟩; exact ⟨a5, c5, e_, rv7.lift (Up.ext x_)⟩⟩, ?_⟩
        ·
          have H51 := H8.ext xt39
          have s35 : f22 42 = .bool ((ahA (ofI h) i j) == (ahB (ofI h) i j)) := hp22 19 rfl rfl
          have s36 : f22 43 = .agg #[.slice a0 (ofV h).length c0, .slice a1 (ofI h).length c1, .slice a2 ([] : List Int).length c2] := hp22 20 rfl rfl
          have s37 : f22 44 = .int .i64 i := hp22 21 rfl rfl
          have tr3 : ((ahA (ofI h) i j) == (ahB (ofI h) i j)) = true := (by rw [ahead_two]; simp)
          refine gy rfl rfl s35 tr3 ?_
          have cc16 := session_Past (fi := (ofI h)) (tt := i) (a_fv := a0) (n_fv := (ofV h).length) (c_fv := c0) (a_fo := a2) (n_fo := ([] : List Int).length) (c_fo := c2) (w := w40) H51.mb (H51.rv 2 rfl) (by unfold I64 at *; omega) (by exact ofI_ord h) (by first | assumption | omega)
          refine ca go36 rfl (ec s36 (ec s37 e0)) cc16 ?_
          rintro _ w41 ⟨a10, c10, rfl, xt40, rv13⟩
          have rv14 := OwnsG.rv rv13 H51.mb
          have H52 := H51.ext xt40
          have H53 := H52.put (it := imm (.slice a10 (pastA (ofI h) i).length c10) (pastA (ofI h) i)) rfl rv14
          exact ⟨_, rfl, xt40, ⟨a10, c10, rfl, rv14⟩⟩
        refine ⟨fun _ => ⟨fun f23 w42 hf23 xt41 hp23 => ?_, fun _ _ _ _ h => h⟩, ?_⟩
        ·
          have H54 := H8.ext xt41
          have s38 : f23 42 = .bool ((ahA (ofI h) i j) == (ahB (ofI h) i j)) := hp23 19 rfl rfl
          have tr4 : ((ahA (ofI h) i j) == (ahB (ofI h) i j)) = true := (by rw [ahead_two]; simp)
          refine gy rfl rfl s38 tr4 (ldX H54 0 rfl ty30 rfl (hf23 7 rfl) (by decide) rfl ?_)
          exact ⟨_, rfl, Ext.refl _, rfl⟩
        refine ⟨fun _ => ⟨fun f24 w43 hf24 xt42 hp24 => ?_, fun _ _ _ _ h => h⟩, ?_⟩
        ·
          have H55 := H8.ext xt42
          have s39 : f24 42 = .bool ((ahA (ofI h) i j) == (ahB (ofI h) i j)) := hp24 19 rfl rfl
          have tr5 : ((ahA (ofI h) i j) == (ahB (ofI h) i j)) = true := (by rw [ahead_two]; simp)
          refine gy rfl rfl s39 tr5 (mv rfl ((hf24 1 rfl).trans i1) ?_)
          exact ⟨_, rfl, Ext.refl _, rfl⟩
        exact DSteps.rest rfl _
      · intro f25 w44 hf25 xt43 hp25
        have H56 := H8.ext xt43
        have s40 : f25 42 = .bool ((ahA (ofI h) i j) == (ahB (ofI h) i j)) := hp25 19 rfl
        obtain ⟨a11, c11, s41, rv15⟩ : ∃ (a11 : Option Addr) (c11 : Nat), f25 45 = .slice a11 (pastA (ofI h) i).length c11 ∧ RV (MS M [box bb0 #[.slice a0 (ofV h).length c0, .slice a1 (ofI h).length c1, .slice a2 ([] : List Int).length c2] 30, imm (.slice a2 ([] : List Int).length c2) ([] : List Int), imm (.slice a1 (ofI h).length c1) (ofI h), imm (.slice a0 (ofV h).length c0) (ofV h), imm (.slice a_h h.length c_h) h]) w44 (.slice a11 (pastA (ofI h) i).length c11) (pastA (ofI h) i) := hp25 22 rfl
        have H57 := H56.put (it := imm (.slice a11 (pastA (ofI h) i).length c11) (pastA (ofI h) i)) rfl rv15
        have s42 : f25 46 = .agg #[.slice a0 (ofV h).length c0, .slice a1 (ofI h).length c1, .slice a2 ([] : List Int).length c2] := hp25 23 rfl
        have s43 : f25 47 = .int .i64 i := hp25 24 rfl
        have tr6 : ((ahA (ofI h) i j) == (ahB (ofI h) i j)) = true := (by rw [ahead_two]; simp)
        refine k (gy rfl rfl s40 tr6 ?_)
        have cc17 := ref12_Past (fi := (ofI h)) (tt := i) (a_fv := a0) (n_fv := (ofV h).length) (c_fv := c0) (a_fo := a2) (n_fo := ([] : List Int).length) (c_fo := c2) (w := w44) H57.mb (H57.rv 3 rfl) (by unfold I64 at *; omega) (by first | assumption | omega)
        refine ca go37 rfl (ec s42 (ec s43 e0)) cc17 ?_
        rintro _ w45 ⟨a12, c12, rfl, xt44, rv16⟩
        have H58 := H57.ownsG rv16
        refine k (gy rfl rfl s40 tr6 ?_)
        have H59 := H58.freeze 0 rfl
        have cc18 := ref02_Ints (a := (pastA (ofI h) i)) (b := (pastB (ofI h) i (ofI h).length)) (w := w45) H59.mb (H59.rv 1 rfl) (H59.rv 0 rfl)
        refine ca go27 rfl (ec s41 (ec rfl e0)) cc18 ?_
        rintro _ w46 ⟨rfl, xt45⟩
        have H60 := H58.ext xt45
        refine k (pickT rfl rfl rfl s40 tr6 rfl (k (asg (v := .bool (decide ((pastA (ofI h) i) = (pastB (ofI h) i (ofI h).length)))) rfl rfl (z (nx (rt (r1 rfl rfl ?_)))))))
        have tr7 : (decide ((pastA (ofI h) i) = (pastB (ofI h) i (ofI h).length))) = true := (by rw [past_two]; simp)
        have e0 : (decide ((pastA (ofI h) i) = (pastB (ofI h) i (ofI h).length)) : Bool) = true := by exact tr7
        have ev_ := cg1 (fun (x_0 : Bool) => (.bool x_0 : Value)) e0
        exact ⟨ev_, H60.below⟩
/- eyewitness/eyewitnesslaw12.SessionPasts -/
set_option maxRecDepth 100000 in
set_option maxHeartbeats 1600000 in
theorem law_SessionPasts {M : Nat → Prop} {w : World} {a_h : Option Addr} {c_h : Nat} {h : List (List (Bool × ByteArray × Int))} {o : Int} (hM : ∀ b, M b → b < w.heap.size) (h_h : RV M w (.slice a_h h.length c_h) h) (h_o : 0 ≤ o ∧ o ≤ 255) (hb_h : h.flatten.length ≤ 1048576) : Calls Try.prog 11 #[.slice a_h h.length c_h, .int .u8 o] w (Ret fun v w' =>  v = .bool true ∧ Ext w w') := by
  refine enter 111 Try.func11 rfl rfl rfl fun f0 ha => ?_
  have H := HI.start (M0 := M) (w := w) hM
  have H0 := H.put (it := imm (.slice a_h h.length c_h) h) rfl (by rw [MS_nil]; exact h_h)
  have ln_h := rv_len h_h
  have i0 : f0 0 = .slice a_h h.length c_h := ha 0 (by simp)
  have i1 : f0 1 = .int .u8 o := ha 1 (by simp)
  refine sq (rg (k (asg (v := .bool false) rfl rfl (z (nx (sq (sq (rg (k (mv rfl i0 (k ?_)))))))))))
  have cc0 := ref06_Small (h := h) (m := 40) (w := w) H0.mb (H0.rv 0 rfl) (by unfold I64 at *; omega) (by first | assumption | decide +kernel)
  refine ca go12 rfl (ec rfl (ec rfl e0)) cc0 ?_
  rintro _ w0 ⟨rfl, xt0⟩
  have H1 := H0.ext xt0
  refine k (not_ rfl rfl (k (mv (v := .bool (!(smallH h 40))) rfl rfl ?_)))
  rcases Bool.eq_false_or_eq_true (!(smallH h 40)) with b0 | b0
  · -- !(smallH h 40) is True
    refine k (gn rfl rfl rfl b0 (k (gn rfl rfl rfl b0 (k (gn rfl rfl rfl b0 (k (pickT rfl rfl rfl rfl b0 rfl (k (mv (v := .bool true) rfl rfl (k (gn rfl rfl rfl rfl (k (gn rfl rfl rfl rfl (k (gn rfl rfl rfl rfl (k (pickT rfl rfl rfl rfl rfl rfl (z (nx (cdT rfl rfl rfl (sq (rg (k ?_)))))))))))))))))))))))
    have cc1 := awake12 (w := w0)
    refine ca go30 rfl e0 cc1 ?_
    rintro _ w1 ⟨rfl, xt1⟩
    have H2 := H1.ext xt1
    refine k (asg (v := .bool true) rfl rfl (z (nx (rt (then_ret (r1 rfl rfl ?_))))))
    exact ⟨rfl, H2.below⟩
  · -- !(smallH h 40) is False
    refine k (gy rfl rfl rfl b0 (mv rfl i0 (k (gy rfl rfl rfl b0 ?_))))
    have cc1 := ref06_Right (h := h) (w := w0) H1.mb (H1.rv 0 rfl) (by first | assumption | decide +kernel)
    refine ca go13 rfl (ec rfl e0) cc1 ?_
    rintro _ w1 ⟨rfl, xt1⟩
    have H2 := H1.ext xt1
    refine k (gy rfl rfl rfl b0 (not_ rfl rfl (k (pickF rfl rfl rfl rfl b0 rfl (k (mv (v := .bool (!(rightH h))) rfl rfl ?_))))))
    rcases Bool.eq_false_or_eq_true (!(rightH h)) with b1 | b1
    · -- !(rightH h) is True
      refine k (gn rfl rfl rfl b1 (k (gn rfl rfl rfl b1 (k (gn rfl rfl rfl b1 (k (pickT rfl rfl rfl rfl b1 rfl (z (nx (cdT rfl rfl rfl (sq (rg (k ?_)))))))))))))
      have cc2 := awake12 (w := w1)
      refine ca go30 rfl e0 cc2 ?_
      rintro _ w2 ⟨rfl, xt2⟩
      have H3 := H2.ext xt2
      refine k (asg (v := .bool true) rfl rfl (z (nx (rt (then_ret (r1 rfl rfl ?_))))))
      exact ⟨rfl, H3.below⟩
    · -- !(rightH h) is False
      refine k (gy rfl rfl rfl b1 (mv rfl i0 (k (gy rfl rfl rfl b1 ?_))))
      have cc2 := ref06_Count (h := h) (w := w1) H2.mb (H2.rv 0 rfl) (by first | assumption | decide +kernel)
      refine ca go42 rfl (ec rfl e0) cc2 ?_
      rintro _ w2 ⟨rfl, xt2⟩
      have H3 := H2.ext xt2
      refine k (gy rfl rfl rfl b1 (eql rfl rfl rfl rfl (k (pickF rfl rfl rfl rfl b1 rfl (z (nx ?_))))))
      refine cd (b := decide ((h.flatten.length : Int) = 0)) rfl rfl (fun b2 => ?_) (fun b2 => ?_)
      ·
        have p2 := of_decide_eq_true b2
        refine sq (rg (k ?_))
        have cc3 := awake12 (w := w2)
        refine ca go30 rfl e0 cc3 ?_
        rintro _ w3 ⟨rfl, xt3⟩
        have H4 := H3.ext xt3
        refine k (asg (v := .bool true) rfl rfl (z (nx (rt (then_ret (r1 rfl rfl ?_))))))
        exact ⟨rfl, H4.below⟩
      ·
        have p2 := of_decide_eq_false b2
        refine sk (nx (sq (rg (k (mv rfl i0 (k ?_))))))
        have cc3 := ref09_Of (h := h) (w := w2) H3.mb (H3.rv 0 rfl) (by first | assumption | decide +kernel)
        refine ca go15 rfl (ec rfl e0) cc3 ?_
        rintro _ w3 ⟨a0, c0, a1, c1, a2, c2, rfl, xt3, rv0, rv1, rv2⟩
        have H4 := H3.ext xt3
        have H5 := H4.put (it := imm (.slice a0 (ofV h).length c0) (ofV h)) rfl rv0
        have H6 := H5.put (it := imm (.slice a1 (ofI h).length c1) (ofI h)) rfl (by rw [MS_cons_none rfl]; exact rv1)
        have H7 := H6.put (it := imm (.slice a2 ([] : List Int).length c2) ([] : List Int)) rfl (by rw [MS_cons_none rfl, MS_cons_none rfl]; exact rv2)
        refine k (mv (v := .tuple #[.agg #[.slice a0 (ofV h).length c0, .slice a1 (ofI h).length c1, .slice a2 ([] : List Int).length c2], .int .i64 (ofE h)]) rfl rfl (k (xt rfl rfl rfl (k (xt rfl rfl rfl (k (al H7 ty30 ?_)))))))
        intro bb0 w4 xt4 (H8 : HI M w w4 [box bb0 #[.slice none 0 0, .slice none 0 0, .slice none 0 0] 30, imm (.slice a2 ([] : List Int).length c2) ([] : List Int), imm (.slice a1 (ofI h).length c1) (ofI h), imm (.slice a0 (ofV h).length c0) (ofV h), imm (.slice a_h h.length c_h) h])
        refine k (stX H8 0 rfl ty30 rfl rfl rfl rfl rfl rfl rfl ?_)
        intro w5 (H9 : HI M w w5 [box bb0 #[.slice a0 (ofV h).length c0, .slice a1 (ofI h).length c1, .slice a2 ([] : List Int).length c2] 30, imm (.slice a2 ([] : List Int).length c2) ([] : List Int), imm (.slice a1 (ofI h).length c1) (ofI h), imm (.slice a0 (ofV h).length c0) (ofV h), imm (.slice a_h h.length c_h) h])
        refine k (asg (v := .int .i64 (ofE h)) rfl rfl (z (nx (sq ?_))))
        have sm_ : smallH h 40 = true := by simpa using ‹(!smallH h 40) = false›
        have rt_ : rightH h = true := by simpa using ‹(!rightH h) = false›
        have hl_ := sess_len sm_
        have hf_ : (ofI h).length = h.flatten.length := by rw [(of_ok rt_).2.1]; exact factI_len h
        have hz_ : ¬ ((h.flatten.length : Int) = 0) := by simpa using ‹decide ((h.flatten.length : Int) = 0) = false›
        have hk0_ : 0 ≤ (o % ((ofI h).length : Int)) := Int.emod_nonneg _ (by omega)
        have hk1_ : (o % ((ofI h).length : Int)) < ((ofI h).length : Int) := Int.emod_lt_of_pos _ (by omega)
        have hpl_ := pastA_len (ofI_ord h) hk0_ hk1_
        have hpn_ := (ofI_ord h).nonneg (o % ((ofI h).length : Int)).toNat (by omega)
        have hpb_ := ((ofI_ord h).back (o % ((ofI h).length : Int)).toNat (by omega)).1
        refine rg (k (mv rfl i1 (k (cvI rfl rfl (by unfold I64 at *; omega) un5 un3 (k (fa fl30_1 rfl rfl (k (ldX H9 0 rfl ty27 rfl rfl (by decide) rfl (k (lnS rfl rfl un27 (k (rem rfl rfl rfl rfl (by first | omega | (simp; omega)) (k (asg (v := .int .i64 (o % ((ofI h).length : Int))) rfl rfl (z (nx (sq (rg (k (ldX H9 0 rfl ty30 rfl rfl (by decide) rfl (k (mv (v := .int .i64 (o % ((ofI h).length : Int))) rfl rfl (k ?_)))))))))))))))))))))))
        have cc4 := session_Past (fi := (ofI h)) (tt := (o % ((ofI h).length : Int))) (a_fv := a0) (n_fv := (ofV h).length) (c_fv := c0) (a_fo := a2) (n_fo := ([] : List Int).length) (c_fo := c2) (w := w5) H9.mb (H9.rv 2 rfl) (by unfold I64 at *; omega) (by exact ofI_ord h) (by first | assumption | omega)
        refine ca go36 rfl (ec rfl (ec rfl e0)) cc4 ?_
        rintro _ w6 ⟨a3, c3, rfl, xt5, rv3⟩
        have H10 := H9.ownsG rv3
        refine k (asg (v := .slice a3 (pastA (ofI h) (o % ((ofI h).length : Int))).length c3) rfl rfl (z (nx (sq (sq (rg (k (asg (v := .int .i64 0) rfl rfl (z (nx (bk ?_)))))))))))
        refine lp (fun m f w' => ∃ (j : Nat), m = (pastA (ofI h) (o % ((ofI h).length : Int))).length - j ∧ f 5 = .pointer (some ⟨bb0, 0, none⟩) ∧ f 7 = .int .i64 (o % ((ofI h).length : Int)) ∧ f 8 = .slice a3 (pastA (ofI h) (o % ((ofI h).length : Int))).length c3 ∧ f 9 = .int .i64 (j : Int) ∧  HI M w w' [own w.heap.size 3 (.slice a3 (pastA (ofI h) (o % ((ofI h).length : Int))).length c3) (pastA (ofI h) (o % ((ofI h).length : Int))), box bb0 #[.slice a0 (ofV h).length c0, .slice a1 (ofI h).length c1, .slice a2 ([] : List Int).length c2] 30, imm (.slice a2 ([] : List Int).length c2) ([] : List Int), imm (.slice a1 (ofI h).length c1) (ofI h), imm (.slice a0 (ofV h).length c0) (ofV h), imm (.slice a_h h.length c_h) h] ∧ (j ≤ (pastA (ofI h) (o % ((ofI h).length : Int))).length)) _ ⟨0, rfl, rfl, rfl, rfl, (ieq rfl (by first | rfl | omega | simp)), H10, (by first | assumption | omega | simp | (simp; omega))⟩ ?_
        rintro _ f0 w7 ⟨j, rfl, s0, s1, s2, s3, H11, hj_⟩
        refine sq (sq (rg (k (mv rfl s3 (k (mv rfl s2 (k (lnS rfl rfl un28 (k (lss rfl rfl rfl rfl (z (nx ?_))))))))))))
        refine cd (b := decide ((j : Int) < ((pastA (ofI h) (o % ((ofI h).length : Int))).length : Int))) rfl rfl (fun b3 => ?_) (fun b3 => ?_)
        ·
          have p3 := of_decide_eq_true b3
          refine sk (nx (sq (bk (sq ?_))))
          obtain ⟨x0, hx0⟩ : ∃ x, (pastA (ofI h) (o % ((ofI h).length : Int)))[(j : Int).toNat]? = some x := ⟨_, List.getElem?_eq_getElem (by first | omega | (simp; omega))⟩
          obtain ⟨x3, hx3⟩ : ∃ x, (ofI h)[x0.toNat]? = some x := ⟨_, List.getElem?_eq_getElem (by first | (obtain ⟨a1_, a2_, a3_, a4_, a5_, a6_⟩ := past_at (ofI_ord h) hk0_ hk1_ hx0; omega) | (obtain ⟨a1_, a2_, a3_, a4_, a5_, a6_⟩ := past_at (ofI_ord h) hk0_ hk1_ hx1; omega) | (obtain ⟨a1_, a2_, a3_, a4_, a5_, a6_⟩ := past_at (ofI_ord h) hk0_ hk1_ hx2; omega) | (obtain ⟨a1_, a2_, a3_, a4_, a5_, a6_⟩ := past_at (ofI_ord h) hk0_ hk1_ hx3; omega) | (obtain ⟨a1_, a2_, a3_, a4_, a5_, a6_⟩ := past_at (ofI_ord h) hk0_ hk1_ hx4; omega) | (obtain ⟨a1_, a2_, a3_, a4_, a5_, a6_⟩ := past_at (ofI_ord h) hk0_ hk1_ hx5; omega))⟩
          obtain ⟨x4, hx4⟩ : ∃ x, (ofI h)[(o % ((ofI h).length : Int)).toNat]? = some x := ⟨_, List.getElem?_eq_getElem (by first | omega | (simp; omega))⟩
          refine dr 42 [fun (v : Value) (w' : World) => v = .slice a3 (pastA (ofI h) (o % ((ofI h).length : Int))).length c3, fun (v : Value) (w' : World) => v = .int .i64 (j : Int), fun (v : Value) (w' : World) => ∃ (g0 : Nat), v = .pointer (some ⟨g0, (j : Int).toNat * 1, none⟩) ∧ (.slice a3 (pastA (ofI h) (o % ((ofI h).length : Int))).length c3 : Value).ownBlock = some g0 ∧ AtW (MS M [own w.heap.size 3 (.slice a3 (pastA (ofI h) (o % ((ofI h).length : Int))).length c3) (pastA (ofI h) (o % ((ofI h).length : Int))), box bb0 #[.slice a0 (ofV h).length c0, .slice a1 (ofI h).length c1, .slice a2 ([] : List Int).length c2] 30, imm (.slice a2 ([] : List Int).length c2) ([] : List Int), imm (.slice a1 (ofI h).length c1) (ofI h), imm (.slice a0 (ofV h).length c0) (ofV h), imm (.slice a_h h.length c_h) h]) w' ⟨g0, (j : Int).toNat * 1, none⟩ x0, fun (v : Value) (w' : World) => v = .int .i64 x0 ∧ I64 (x0), fun (v : Value) (w' : World) => v = .bool (decide (x0 < 0)), fun (v : Value) (w' : World) => v = .bool (decide (x0 < 0)), fun (v : Value) (w' : World) => v = .slice a3 (pastA (ofI h) (o % ((ofI h).length : Int))).length c3, fun (v : Value) (w' : World) => v = .int .i64 (j : Int), fun (v : Value) (w' : World) => ∃ (g1 : Nat), v = .pointer (some ⟨g1, (j : Int).toNat * 1, none⟩) ∧ (.slice a3 (pastA (ofI h) (o % ((ofI h).length : Int))).length c3 : Value).ownBlock = some g1 ∧ AtW (MS M [own w.heap.size 3 (.slice a3 (pastA (ofI h) (o % ((ofI h).length : Int))).length c3) (pastA (ofI h) (o % ((ofI h).length : Int))), box bb0 #[.slice a0 (ofV h).length c0, .slice a1 (ofI h).length c1, .slice a2 ([] : List Int).length c2] 30, imm (.slice a2 ([] : List Int).length c2) ([] : List Int), imm (.slice a1 (ofI h).length c1) (ofI h), imm (.slice a0 (ofV h).length c0) (ofV h), imm (.slice a_h h.length c_h) h]) w' ⟨g1, (j : Int).toNat * 1, none⟩ x0, fun (v : Value) (w' : World) => v = .int .i64 x0 ∧ I64 (x0), fun (v : Value) (w' : World) => v = .int .i64 (o % ((ofI h).length : Int)), fun (v : Value) (w' : World) => v = .bool (decide ((o % ((ofI h).length : Int)) < x0)), fun (v : Value) (w' : World) => v = .bool (decide ((o % ((ofI h).length : Int)) < x0)), fun (v : Value) (w' : World) => v = .bool (decide ((o % ((ofI h).length : Int)) < x0)), fun (v : Value) (w' : World) => v = .pointer (some ⟨bb0, 1, none⟩), fun (v : Value) (w' : World) => v = .slice a1 (ofI h).length c1, fun (v : Value) (w' : World) => v = .slice a3 (pastA (ofI h) (o % ((ofI h).length : Int))).length c3, fun (v : Value) (w' : World) => v = .int .i64 (j : Int), fun (v : Value) (w' : World) => ∃ (g2 : Nat), v = .pointer (some ⟨g2, (j : Int).toNat * 1, none⟩) ∧ (.slice a3 (pastA (ofI h) (o % ((ofI h).length : Int))).length c3 : Value).ownBlock = some g2 ∧ AtW (MS M [own w.heap.size 3 (.slice a3 (pastA (ofI h) (o % ((ofI h).length : Int))).length c3) (pastA (ofI h) (o % ((ofI h).length : Int))), box bb0 #[.slice a0 (ofV h).length c0, .slice a1 (ofI h).length c1, .slice a2 ([] : List Int).length c2] 30, imm (.slice a2 ([] : List Int).length c2) ([] : List Int), imm (.slice a1 (ofI h).length c1) (ofI h), imm (.slice a0 (ofV h).length c0) (ofV h), imm (.slice a_h h.length c_h) h]) w' ⟨g2, (j : Int).toNat * 1, none⟩ x0, fun (v : Value) (w' : World) => v = .int .i64 x0 ∧ I64 (x0), fun (v : Value) (w' : World) => ∃ (ad0 : Addr), v = .pointer (some ad0) ∧ At (MS M [own w.heap.size 3 (.slice a3 (pastA (ofI h) (o % ((ofI h).length : Int))).length c3) (pastA (ofI h) (o % ((ofI h).length : Int))), box bb0 #[.slice a0 (ofV h).length c0, .slice a1 (ofI h).length c1, .slice a2 ([] : List Int).length c2] 30, imm (.slice a2 ([] : List Int).length c2) ([] : List Int), imm (.slice a1 (ofI h).length c1) (ofI h), imm (.slice a0 (ofV h).length c0) (ofV h), imm (.slice a_h h.length c_h) h]) w' ad0 x3, fun (v : Value) (w' : World) => ∃ (ad0 : Addr), v = .pointer (some ((ad0).add 0)) ∧ At (MS M [own w.heap.size 3 (.slice a3 (pastA (ofI h) (o % ((ofI h).length : Int))).length c3) (pastA (ofI h) (o % ((ofI h).length : Int))), box bb0 #[.slice a0 (ofV h).length c0, .slice a1 (ofI h).length c1, .slice a2 ([] : List Int).length c2] 30, imm (.slice a2 ([] : List Int).length c2) ([] : List Int), imm (.slice a1 (ofI h).length c1) (ofI h), imm (.slice a0 (ofV h).length c0) (ofV h), imm (.slice a_h h.length c_h) h]) w' ad0 x3, fun (v : Value) (w' : World) => v = .int .i64 x3.1 ∧ I64 (x3.1), fun (v : Value) (w' : World) => v = .pointer (some ⟨bb0, 1, none⟩), fun (v : Value) (w' : World) => v = .slice a1 (ofI h).length c1, fun (v : Value) (w' : World) => v = .int .i64 (o % ((ofI h).length : Int)), fun (v : Value) (w' : World) => ∃ (ad1 : Addr), v = .pointer (some ad1) ∧ At (MS M [own w.heap.size 3 (.slice a3 (pastA (ofI h) (o % ((ofI h).length : Int))).length c3) (pastA (ofI h) (o % ((ofI h).length : Int))), box bb0 #[.slice a0 (ofV h).length c0, .slice a1 (ofI h).length c1, .slice a2 ([] : List Int).length c2] 30, imm (.slice a2 ([] : List Int).length c2) ([] : List Int), imm (.slice a1 (ofI h).length c1) (ofI h), imm (.slice a0 (ofV h).length c0) (ofV h), imm (.slice a_h h.length c_h) h]) w' ad1 x4, fun (v : Value) (w' : World) => ∃ (ad1 : Addr), v = .pointer (some ((ad1).add 0)) ∧ At (MS M [own w.heap.size 3 (.slice a3 (pastA (ofI h) (o % ((ofI h).length : Int))).length c3) (pastA (ofI h) (o % ((ofI h).length : Int))), box bb0 #[.slice a0 (ofV h).length c0, .slice a1 (ofI h).length c1, .slice a2 ([] : List Int).length c2] 30, imm (.slice a2 ([] : List Int).length c2) ([] : List Int), imm (.slice a1 (ofI h).length c1) (ofI h), imm (.slice a0 (ofV h).length c0) (ofV h), imm (.slice a_h h.length c_h) h]) w' ad1 x4, fun (v : Value) (w' : World) => v = .int .i64 x4.1 ∧ I64 (x4.1), fun (v : Value) (w' : World) => v = .bool (!decide (x3.1 = x4.1)), fun (v : Value) (w' : World) => v = .bool (!decide (x3.1 = x4.1)), fun (v : Value) (w' : World) => v = .bool (!decide (x3.1 = x4.1)), fun (v : Value) (w' : World) => v = .pointer (some ⟨bb0, 1, none⟩), fun (v : Value) (w' : World) => v = .slice a1 (ofI h).length c1, fun (v : Value) (w' : World) => v = .slice a3 (pastA (ofI h) (o % ((ofI h).length : Int))).length c3, fun (v : Value) (w' : World) => v = .int .i64 (j : Int), fun (v : Value) (w' : World) => ∃ (g3 : Nat), v = .pointer (some ⟨g3, (j : Int).toNat * 1, none⟩) ∧ (.slice a3 (pastA (ofI h) (o % ((ofI h).length : Int))).length c3 : Value).ownBlock = some g3 ∧ AtW (MS M [own w.heap.size 3 (.slice a3 (pastA (ofI h) (o % ((ofI h).length : Int))).length c3) (pastA (ofI h) (o % ((ofI h).length : Int))), box bb0 #[.slice a0 (ofV h).length c0, .slice a1 (ofI h).length c1, .slice a2 ([] : List Int).length c2] 30, imm (.slice a2 ([] : List Int).length c2) ([] : List Int), imm (.slice a1 (ofI h).length c1) (ofI h), imm (.slice a0 (ofV h).length c0) (ofV h), imm (.slice a_h h.length c_h) h]) w' ⟨g3, (j : Int).toNat * 1, none⟩ x0, fun (v : Value) (w' : World) => v = .int .i64 x0 ∧ I64 (x0), fun (v : Value) (w' : World) => ∃ (ad2 : Addr), v = .pointer (some ad2) ∧ At (MS M [own w.heap.size 3 (.slice a3 (pastA (ofI h) (o % ((ofI h).length : Int))).length c3) (pastA (ofI h) (o % ((ofI h).length : Int))), box bb0 #[.slice a0 (ofV h).length c0, .slice a1 (ofI h).length c1, .slice a2 ([] : List Int).length c2] 30, imm (.slice a2 ([] : List Int).length c2) ([] : List Int), imm (.slice a1 (ofI h).length c1) (ofI h), imm (.slice a0 (ofV h).length c0) (ofV h), imm (.slice a_h h.length c_h) h]) w' ad2 x3, fun (v : Value) (w' : World) => ∃ (ad2 : Addr), v = .pointer (some ((ad2).add 1)) ∧ At (MS M [own w.heap.size 3 (.slice a3 (pastA (ofI h) (o % ((ofI h).length : Int))).length c3) (pastA (ofI h) (o % ((ofI h).length : Int))), box bb0 #[.slice a0 (ofV h).length c0, .slice a1 (ofI h).length c1, .slice a2 ([] : List Int).length c2] 30, imm (.slice a2 ([] : List Int).length c2) ([] : List Int), imm (.slice a1 (ofI h).length c1) (ofI h), imm (.slice a0 (ofV h).length c0) (ofV h), imm (.slice a_h h.length c_h) h]) w' ad2 x3, fun (v : Value) (w' : World) => v = .int .i64 x3.2.1 ∧ I64 (x3.2.1), fun (v : Value) (w' : World) => v = .int .i64 (j : Int)] rfl (by kernel_rfl) ?_ ?_
          ·
            refine ⟨fun _ => ⟨fun f1 w8 hf0 xt6 hp0 => ?_, fun _ _ _ _ h => h⟩, ?_⟩
            ·
              have H12 := H11.ext xt6
              refine mv rfl ((hf0 8 rfl).trans s2) ?_
              exact ⟨_, rfl, Ext.refl _, rfl⟩
            refine ⟨fun _ => ⟨fun f2 w9 hf1 xt7 hp1 => ?_, fun _ _ _ _ h => h⟩, ?_⟩
            ·
              have H13 := H11.ext xt7
              refine mv rfl ((hf1 9 rfl).trans s3) ?_
              exact ⟨_, rfl, Ext.refl _, rfl⟩
            refine ⟨fun _ => ⟨fun f3 w10 hf2 xt8 hp2 => ?_, by rintro _ _ _ x_ ⟨g0, e_, hv0, hA0⟩; exact ⟨g0, e_, hv0, hA0.ext x_⟩⟩, ?_⟩
            ·
              have H14 := H11.ext xt8
              have s4 : f3 44 = .slice a3 (pastA (ofI h) (o % ((ofI h).length : Int))).length c3 := hp2 0 rfl rfl
              have s5 : f3 45 = .int .i64 (j : Int) := hp2 1 rfl rfl
              refine iaO (H14.at_ 0 rfl) rfl rfl s4 s5 (by first | omega | (simp; omega)) un28 ty3 ?_
              intro g4 x7 hv4 hx7 hA7
              obtain rfl : x0 = x7 := Option.some.inj (hx0.symm.trans hx7)
              exact ⟨_, rfl, Ext.refl _, ⟨g4, rfl, hv4, hA7⟩⟩
            refine ⟨fun _ => ⟨fun f4 w11 hf3 xt9 hp3 => ?_, fun _ _ _ _ h => h⟩, ?_⟩
            ·
              have H15 := H11.ext xt9
              obtain ⟨g5, s6, hv5, hA8⟩ : ∃ (g5 : Nat), f4 46 = .pointer (some ⟨g5, (j : Int).toNat * 1, none⟩) ∧ (.slice a3 (pastA (ofI h) (o % ((ofI h).length : Int))).length c3 : Value).ownBlock = some g5 ∧ AtW (MS M [own w.heap.size 3 (.slice a3 (pastA (ofI h) (o % ((ofI h).length : Int))).length c3) (pastA (ofI h) (o % ((ofI h).length : Int))), box bb0 #[.slice a0 (ofV h).length c0, .slice a1 (ofI h).length c1, .slice a2 ([] : List Int).length c2] 30, imm (.slice a2 ([] : List Int).length c2) ([] : List Int), imm (.slice a1 (ofI h).length c1) (ofI h), imm (.slice a0 (ofV h).length c0) (ofV h), imm (.slice a_h h.length c_h) h]) w11 ⟨g5, (j : Int).toNat * 1, none⟩ x0 := hp3 2 rfl rfl
              refine ldI hA8 ty3 rfl s6 ?_
              intro rv11
              exact ⟨_, rfl, Ext.refl _, ⟨rfl, rv11⟩⟩
            refine ⟨fun _ => ⟨fun f5 w12 hf4 xt10 hp4 => ?_, fun _ _ _ _ h => h⟩, ?_⟩
            ·
              have H16 := H11.ext xt10
              obtain ⟨s7, rv12⟩ : f5 47 = .int .i64 x0 ∧ I64 (x0) := hp4 3 rfl rfl
              refine lss rfl rfl s7 rfl ?_
              exact ⟨_, rfl, Ext.refl _, rfl⟩
            refine ⟨fun _ => ⟨fun f6 w13 hf5 xt11 hp5 => ?_, fun _ _ _ _ h => h⟩, ?_⟩
            ·
              have H17 := H11.ext xt11
              have s8 : f6 48 = .bool (decide (x0 < 0)) := hp5 4 rfl rfl
              refine mv rfl s8 ?_
              exact ⟨_, rfl, Ext.refl _, rfl⟩
            refine ⟨fun _ => ⟨fun f7 w14 hf6 xt12 hp6 => ?_, fun _ _ _ _ h => h⟩, ?_⟩
            ·
              have H18 := H11.ext xt12
              have s9 : f7 49 = .bool (decide (x0 < 0)) := hp6 5 rfl rfl
              have tr3 : (decide (x0 < 0)) = false := (by obtain ⟨a1_, a2_, a3_, a4_, a5_, a6_⟩ := past_at (ofI_ord h) hk0_ hk1_ hx0; exact decide_eq_false (by omega))
              refine gy rfl rfl s9 tr3 (mv rfl ((hf6 8 rfl).trans s2) ?_)
              exact ⟨_, rfl, Ext.refl _, rfl⟩
            refine ⟨fun _ => ⟨fun f8 w15 hf7 xt13 hp7 => ?_, fun _ _ _ _ h => h⟩, ?_⟩
            ·
              have H19 := H11.ext xt13
              have s10 : f8 49 = .bool (decide (x0 < 0)) := hp7 5 rfl rfl
              have tr4 : (decide (x0 < 0)) = false := (by obtain ⟨a1_, a2_, a3_, a4_, a5_, a6_⟩ := past_at (ofI_ord h) hk0_ hk1_ hx0; exact decide_eq_false (by omega))
              refine gy rfl rfl s10 tr4 (mv rfl ((hf7 9 rfl).trans s3) ?_)
              exact ⟨_, rfl, Ext.refl _, rfl⟩
            refine ⟨fun _ => ⟨fun f9 w16 hf8 xt14 hp8 => ?_, by rintro _ _ _ x_ ⟨g1, e_, hv1, hA1⟩; exact ⟨g1, e_, hv1, hA1.ext x_⟩⟩, ?_⟩
            ·
              have H20 := H11.ext xt14
              have s11 : f9 49 = .bool (decide (x0 < 0)) := hp8 5 rfl rfl
              have s12 : f9 50 = .slice a3 (pastA (ofI h) (o % ((ofI h).length : Int))).length c3 := hp8 6 rfl rfl
              have s13 : f9 51 = .int .i64 (j : Int) := hp8 7 rfl rfl
              have tr5 : (decide (x0 < 0)) = false := (by obtain ⟨a1_, a2_, a3_, a4_, a5_, a6_⟩ := past_at (ofI_ord h) hk0_ hk1_ hx0; exact decide_eq_false (by omega))
              refine gy rfl rfl s11 tr5 (iaO (H20.at_ 0 rfl) rfl rfl s12 s13 (by first | omega | (simp; omega)) un28 ty3 ?_)
              intro g6 x8 hv6 hx8 hA9
              obtain rfl : x0 = x8 := Option.some.inj (hx0.symm.trans hx8)
              exact ⟨_, rfl, Ext.refl _, ⟨g6, rfl, hv6, hA9⟩⟩
            refine ⟨fun _ => ⟨fun f10 w17 hf9 xt15 hp9 => ?_, fun _ _ _ _ h => h⟩, ?_⟩
            ·
              have H21 := H11.ext xt15
              have s14 : f10 49 = .bool (decide (x0 < 0)) := hp9 5 rfl rfl
              obtain ⟨g7, s15, hv7, hA10⟩ : ∃ (g7 : Nat), f10 52 = .pointer (some ⟨g7, (j : Int).toNat * 1, none⟩) ∧ (.slice a3 (pastA (ofI h) (o % ((ofI h).length : Int))).length c3 : Value).ownBlock = some g7 ∧ AtW (MS M [own w.heap.size 3 (.slice a3 (pastA (ofI h) (o % ((ofI h).length : Int))).length c3) (pastA (ofI h) (o % ((ofI h).length : Int))), box bb0 #[.slice a0 (ofV h).length c0, .slice a1 (ofI h).length c1, .slice a2 ([] : List Int).length c2] 30, imm (.slice a2 ([] : List Int).length c2) ([] : List Int), imm (.slice a1 (ofI h).length c1) (ofI h), imm (.slice a0 (ofV h).length c0) (ofV h), imm (.slice a_h h.length c_h) h]) w17 ⟨g7, (j : Int).toNat * 1, none⟩ x0 := hp9 8 rfl rfl
              have tr6 : (decide (x0 < 0)) = false := (by obtain ⟨a1_, a2_, a3_, a4_, a5_, a6_⟩ := past_at (ofI_ord h) hk0_ hk1_ hx0; exact decide_eq_false (by omega))
              refine gy rfl rfl s14 tr6 (ldI hA10 ty3 rfl s15 ?_)
              intro rv13
              exact ⟨_, rfl, Ext.refl _, ⟨rfl, rv13⟩⟩
            refine ⟨fun _ => ⟨fun f11 w18 hf10 xt16 hp10 => ?_, fun _ _ _ _ h => h⟩, ?_⟩
            ·
              have H22 := H11.ext xt16
              have s16 : f11 49 = .bool (decide (x0 < 0)) := hp10 5 rfl rfl
              have tr7 : (decide (x0 < 0)) = false := (by obtain ⟨a1_, a2_, a3_, a4_, a5_, a6_⟩ := past_at (ofI_ord h) hk0_ hk1_ hx0; exact decide_eq_false (by omega))
              refine gy rfl rfl s16 tr7 (mv rfl ((hf10 7 rfl).trans s1) ?_)
              exact ⟨_, rfl, Ext.refl _, rfl⟩
            refine ⟨fun _ => ⟨fun f12 w19 hf11 xt17 hp11 => ?_, fun _ _ _ _ h => h⟩, ?_⟩
            ·
              have H23 := H11.ext xt17
              have s17 : f12 49 = .bool (decide (x0 < 0)) := hp11 5 rfl rfl
              obtain ⟨s18, rv14⟩ : f12 53 = .int .i64 x0 ∧ I64 (x0) := hp11 9 rfl rfl
              have s19 : f12 54 = .int .i64 (o % ((ofI h).length : Int)) := hp11 10 rfl rfl
              have tr8 : (decide (x0 < 0)) = false := (by obtain ⟨a1_, a2_, a3_, a4_, a5_, a6_⟩ := past_at (ofI_ord h) hk0_ hk1_ hx0; exact decide_eq_false (by omega))
              refine gy rfl rfl s17 tr8 (gtr rfl rfl s18 s19 ?_)
              exact ⟨_, rfl, Ext.refl _, rfl⟩
            refine ⟨fun _ => ⟨fun f13 w20 hf12 xt18 hp12 => ?_, fun _ _ _ _ h => h⟩, ?_⟩
            ·
              have H24 := H11.ext xt18
              have s20 : f13 49 = .bool (decide (x0 < 0)) := hp12 5 rfl rfl
              have s21 : f13 55 = .bool (decide ((o % ((ofI h).length : Int)) < x0)) := hp12 11 rfl rfl
              have tr9 : (decide (x0 < 0)) = false := (by obtain ⟨a1_, a2_, a3_, a4_, a5_, a6_⟩ := past_at (ofI_ord h) hk0_ hk1_ hx0; exact decide_eq_false (by omega))
              refine pickF rfl rfl rfl s20 tr9 s21 ?_
              exact ⟨_, rfl, Ext.refl _, rfl⟩
            refine ⟨fun _ => ⟨fun f14 w21 hf13 xt19 hp13 => ?_, fun _ _ _ _ h => h⟩, ?_⟩
            ·
              have H25 := H11.ext xt19
              have s22 : f14 56 = .bool (decide ((o % ((ofI h).length : Int)) < x0)) := hp13 12 rfl rfl
              refine mv rfl s22 ?_
              exact ⟨_, rfl, Ext.refl _, rfl⟩
            refine ⟨fun _ => ⟨fun f15 w22 hf14 xt20 hp14 => ?_, fun _ _ _ _ h => h⟩, ?_⟩
            ·
              have H26 := H11.ext xt20
              have s23 : f15 57 = .bool (decide ((o % ((ofI h).length : Int)) < x0)) := hp14 13 rfl rfl
              have tr10 : (decide ((o % ((ofI h).length : Int)) < x0)) = false := (by obtain ⟨a1_, a2_, a3_, a4_, a5_, a6_⟩ := past_at (ofI_ord h) hk0_ hk1_ hx0; exact decide_eq_false (by omega))
              refine gy rfl rfl s23 tr10 (fa fl30_1 rfl ((hf14 5 rfl).trans s0) ?_)
              exact ⟨_, rfl, Ext.refl _, rfl⟩
            refine ⟨fun _ => ⟨fun f16 w23 hf15 xt21 hp15 => ?_, fun _ _ _ _ h => h⟩, ?_⟩
            ·
              have H27 := H11.ext xt21
              have s24 : f16 57 = .bool (decide ((o % ((ofI h).length : Int)) < x0)) := hp15 13 rfl rfl
              have s25 : f16 58 = .pointer (some ⟨bb0, 1, none⟩) := hp15 14 rfl rfl
              have tr11 : (decide ((o % ((ofI h).length : Int)) < x0)) = false := (by obtain ⟨a1_, a2_, a3_, a4_, a5_, a6_⟩ := past_at (ofI_ord h) hk0_ hk1_ hx0; exact decide_eq_false (by omega))
              refine gy rfl rfl s24 tr11 (ldX H27 1 rfl ty27 rfl s25 (by decide) rfl ?_)
              exact ⟨_, rfl, Ext.refl _, rfl⟩
            refine ⟨fun _ => ⟨fun f17 w24 hf16 xt22 hp16 => ?_, fun _ _ _ _ h => h⟩, ?_⟩
            ·
              have H28 := H11.ext xt22
              have s26 : f17 57 = .bool (decide ((o % ((ofI h).length : Int)) < x0)) := hp16 13 rfl rfl
              have tr12 : (decide ((o % ((ofI h).length : Int)) < x0)) = false := (by obtain ⟨a1_, a2_, a3_, a4_, a5_, a6_⟩ := past_at (ofI_ord h) hk0_ hk1_ hx0; exact decide_eq_false (by omega))
              refine gy rfl rfl s26 tr12 (mv rfl ((hf16 8 rfl).trans s2) ?_)
              exact ⟨_, rfl, Ext.refl _, rfl⟩
            refine ⟨fun _ => ⟨fun f18 w25 hf17 xt23 hp17 => ?_, fun _ _ _ _ h => h⟩, ?_⟩
            ·
              have H29 := H11.ext xt23
              have s27 : f18 57 = .bool (decide ((o % ((ofI h).length : Int)) < x0)) := hp17 13 rfl rfl
              have tr13 : (decide ((o % ((ofI h).length : Int)) < x0)) = false := (by obtain ⟨a1_, a2_, a3_, a4_, a5_, a6_⟩ := past_at (ofI_ord h) hk0_ hk1_ hx0; exact decide_eq_false (by omega))
              refine gy rfl rfl s27 tr13 (mv rfl ((hf17 9 rfl).trans s3) ?_)
              exact ⟨_, rfl, Ext.refl _, rfl⟩
            refine ⟨fun _ => ⟨fun f19 w26 hf18 xt24 hp18 => ?_, by rintro _ _ _ x_ ⟨g2, e_, hv2, hA2⟩; exact ⟨g2, e_, hv2, hA2.ext x_⟩⟩, ?_⟩
            ·
              have H30 := H11.ext xt24
              have s28 : f19 57 = .bool (decide ((o % ((ofI h).length : Int)) < x0)) := hp18 13 rfl rfl
              have s29 : f19 60 = .slice a3 (pastA (ofI h) (o % ((ofI h).length : Int))).length c3 := hp18 16 rfl rfl
              have s30 : f19 61 = .int .i64 (j : Int) := hp18 17 rfl rfl
              have tr14 : (decide ((o % ((ofI h).length : Int)) < x0)) = false := (by obtain ⟨a1_, a2_, a3_, a4_, a5_, a6_⟩ := past_at (ofI_ord h) hk0_ hk1_ hx0; exact decide_eq_false (by omega))
              refine gy rfl rfl s28 tr14 (iaO (H30.at_ 0 rfl) rfl rfl s29 s30 (by first | omega | (simp; omega)) un28 ty3 ?_)
              intro g8 x9 hv8 hx9 hA11
              obtain rfl : x0 = x9 := Option.some.inj (hx0.symm.trans hx9)
              exact ⟨_, rfl, Ext.refl _, ⟨g8, rfl, hv8, hA11⟩⟩
            refine ⟨fun _ => ⟨fun f20 w27 hf19 xt25 hp19 => ?_, fun _ _ _ _ h => h⟩, ?_⟩
            ·
              have H31 := H11.ext xt25
              have s31 : f20 57 = .bool (decide ((o % ((ofI h).length : Int)) < x0)) := hp19 13 rfl rfl
              obtain ⟨g9, s32, hv9, hA12⟩ : ∃ (g9 : Nat), f20 62 = .pointer (some ⟨g9, (j : Int).toNat * 1, none⟩) ∧ (.slice a3 (pastA (ofI h) (o % ((ofI h).length : Int))).length c3 : Value).ownBlock = some g9 ∧ AtW (MS M [own w.heap.size 3 (.slice a3 (pastA (ofI h) (o % ((ofI h).length : Int))).length c3) (pastA (ofI h) (o % ((ofI h).length : Int))), box bb0 #[.slice a0 (ofV h).length c0, .slice a1 (ofI h).length c1, .slice a2 ([] : List Int).length c2] 30, imm (.slice a2 ([] : List Int).length c2) ([] : List Int), imm (.slice a1 (ofI h).length c1) (ofI h), imm (.slice a0 (ofV h).length c0) (ofV h), imm (.slice a_h h.length c_h) h]) w27 ⟨g9, (j : Int).toNat * 1, none⟩ x0 := hp19 18 rfl rfl
              have tr15 : (decide ((o % ((ofI h).length : Int)) < x0)) = false := (by obtain ⟨a1_, a2_, a3_, a4_, a5_, a6_⟩ := past_at (ofI_ord h) hk0_ hk1_ hx0; exact decide_eq_false (by omega))
              refine gy rfl rfl s31 tr15 (ldI hA12 ty3 rfl s32 ?_)
              intro rv15
              exact ⟨_, rfl, Ext.refl _, ⟨rfl, rv15⟩⟩
            refine ⟨fun _ => ⟨fun f21 w28 hf20 xt26 hp20 => ?_, by rintro _ _ _ x_ ⟨ad0, e_, hA3⟩; exact ⟨ad0, e_, hA3.lift (Up.ext x_)⟩⟩, ?_⟩
            ·
              have H32 := H11.ext xt26
              have s33 : f21 57 = .bool (decide ((o % ((ofI h).length : Int)) < x0)) := hp20 13 rfl rfl
              have s34 : f21 59 = .slice a1 (ofI h).length c1 := hp20 15 rfl rfl
              obtain ⟨s35, rv16⟩ : f21 63 = .int .i64 x0 ∧ I64 (x0) := hp20 19 rfl rfl
              have tr16 : (decide ((o % ((ofI h).length : Int)) < x0)) = false := (by obtain ⟨a1_, a2_, a3_, a4_, a5_, a6_⟩ := past_at (ofI_ord h) hk0_ hk1_ hx0; exact decide_eq_false (by omega))
              refine gy rfl rfl s33 tr16 (ia (H32.rv 3 rfl) rfl rfl s34 s35 (by first | (obtain ⟨a1_, a2_, a3_, a4_, a5_, a6_⟩ := past_at (ofI_ord h) hk0_ hk1_ hx0; omega) | (obtain ⟨a1_, a2_, a3_, a4_, a5_, a6_⟩ := past_at (ofI_ord h) hk0_ hk1_ hx1; omega) | (obtain ⟨a1_, a2_, a3_, a4_, a5_, a6_⟩ := past_at (ofI_ord h) hk0_ hk1_ hx2; omega) | (obtain ⟨a1_, a2_, a3_, a4_, a5_, a6_⟩ := past_at (ofI_ord h) hk0_ hk1_ hx3; omega) | (obtain ⟨a1_, a2_, a3_, a4_, a5_, a6_⟩ := past_at (ofI_ord h) hk0_ hk1_ hx4; omega) | (obtain ⟨a1_, a2_, a3_, a4_, a5_, a6_⟩ := past_at (ofI_ord h) hk0_ hk1_ hx5; omega)) un27 ty40 ?_)
              intro ad3 x10 hx10 hA13
              obtain rfl : x3 = x10 := Option.some.inj (hx3.symm.trans hx10)
              exact ⟨_, rfl, Ext.refl _, ⟨ad3, rfl, hA13⟩⟩
            refine ⟨fun _ => ⟨fun f22 w29 hf21 xt27 hp21 => ?_, by rintro _ _ _ x_ ⟨ad0, e_, hA3⟩; exact ⟨ad0, e_, hA3.lift (Up.ext x_)⟩⟩, ?_⟩
            ·
              have H33 := H11.ext xt27
              have s36 : f22 57 = .bool (decide ((o % ((ofI h).length : Int)) < x0)) := hp21 13 rfl rfl
              obtain ⟨ad4, s37, hA14⟩ : ∃ (ad4 : Addr), f22 64 = .pointer (some ad4) ∧ At (MS M [own w.heap.size 3 (.slice a3 (pastA (ofI h) (o % ((ofI h).length : Int))).length c3) (pastA (ofI h) (o % ((ofI h).length : Int))), box bb0 #[.slice a0 (ofV h).length c0, .slice a1 (ofI h).length c1, .slice a2 ([] : List Int).length c2] 30, imm (.slice a2 ([] : List Int).length c2) ([] : List Int), imm (.slice a1 (ofI h).length c1) (ofI h), imm (.slice a0 (ofV h).length c0) (ofV h), imm (.slice a_h h.length c_h) h]) w29 ad4 x3 := hp21 20 rfl rfl
              have H34 := H33.put (it := atI ad4 x3) rfl hA14
              have tr17 : (decide ((o % ((ofI h).length : Int)) < x0)) = false := (by obtain ⟨a1_, a2_, a3_, a4_, a5_, a6_⟩ := past_at (ofI_ord h) hk0_ hk1_ hx0; exact decide_eq_false (by omega))
              refine gy rfl rfl s36 tr17 (fa fl40_0 rfl s37 ?_)
              exact ⟨_, rfl, Ext.refl _, ⟨ad4, rfl, (by assumption)⟩⟩
            refine ⟨fun _ => ⟨fun f23 w30 hf22 xt28 hp22 => ?_, fun _ _ _ _ h => h⟩, ?_⟩
            ·
              have H35 := H11.ext xt28
              have s38 : f23 57 = .bool (decide ((o % ((ofI h).length : Int)) < x0)) := hp22 13 rfl rfl
              obtain ⟨ad5, s39, hA15⟩ : ∃ (ad5 : Addr), f23 65 = .pointer (some ((ad5).add 0)) ∧ At (MS M [own w.heap.size 3 (.slice a3 (pastA (ofI h) (o % ((ofI h).length : Int))).length c3) (pastA (ofI h) (o % ((ofI h).length : Int))), box bb0 #[.slice a0 (ofV h).length c0, .slice a1 (ofI h).length c1, .slice a2 ([] : List Int).length c2] 30, imm (.slice a2 ([] : List Int).length c2) ([] : List Int), imm (.slice a1 (ofI h).length c1) (ofI h), imm (.slice a0 (ofV h).length c0) (ofV h), imm (.slice a_h h.length c_h) h]) w30 ad5 x3 := hp22 21 rfl rfl
              have H36 := H35.put (it := atI ad5 x3) rfl hA15
              have tr18 : (decide ((o % ((ofI h).length : Int)) < x0)) = false := (by obtain ⟨a1_, a2_, a3_, a4_, a5_, a6_⟩ := past_at (ofI_ord h) hk0_ hk1_ hx0; exact decide_eq_false (by omega))
              refine gy rfl rfl s38 tr18 (ldI ((H36.atv 0 rfl)).fst.w ty3 rfl s39 ?_)
              intro rv17
              exact ⟨_, rfl, Ext.refl _, ⟨rfl, rv17⟩⟩
            refine ⟨fun _ => ⟨fun f24 w31 hf23 xt29 hp23 => ?_, fun _ _ _ _ h => h⟩, ?_⟩
            ·
              have H37 := H11.ext xt29
              have s40 : f24 57 = .bool (decide ((o % ((ofI h).length : Int)) < x0)) := hp23 13 rfl rfl
              have tr19 : (decide ((o % ((ofI h).length : Int)) < x0)) = false := (by obtain ⟨a1_, a2_, a3_, a4_, a5_, a6_⟩ := past_at (ofI_ord h) hk0_ hk1_ hx0; exact decide_eq_false (by omega))
              refine gy rfl rfl s40 tr19 (fa fl30_1 rfl ((hf23 5 rfl).trans s0) ?_)
              exact ⟨_, rfl, Ext.refl _, rfl⟩
            refine ⟨fun _ => ⟨fun f25 w32 hf24 xt30 hp24 => ?_, fun _ _ _ _ h => h⟩, ?_⟩
            ·
              have H38 := H11.ext xt30
              have s41 : f25 57 = .bool (decide ((o % ((ofI h).length : Int)) < x0)) := hp24 13 rfl rfl
              have s42 : f25 67 = .pointer (some ⟨bb0, 1, none⟩) := hp24 23 rfl rfl
              have tr20 : (decide ((o % ((ofI h).length : Int)) < x0)) = false := (by obtain ⟨a1_, a2_, a3_, a4_, a5_, a6_⟩ := past_at (ofI_ord h) hk0_ hk1_ hx0; exact decide_eq_false (by omega))
              refine gy rfl rfl s41 tr20 (ldX H38 1 rfl ty27 rfl s42 (by decide) rfl ?_)
              exact ⟨_, rfl, Ext.refl _, rfl⟩
            refine ⟨fun _ => ⟨fun f26 w33 hf25 xt31 hp25 => ?_, fun _ _ _ _ h => h⟩, ?_⟩
            ·
              have H39 := H11.ext xt31
              have s43 : f26 57 = .bool (decide ((o % ((ofI h).length : Int)) < x0)) := hp25 13 rfl rfl
              have tr21 : (decide ((o % ((ofI h).length : Int)) < x0)) = false := (by obtain ⟨a1_, a2_, a3_, a4_, a5_, a6_⟩ := past_at (ofI_ord h) hk0_ hk1_ hx0; exact decide_eq_false (by omega))
              refine gy rfl rfl s43 tr21 (mv rfl ((hf25 7 rfl).trans s1) ?_)
              exact ⟨_, rfl, Ext.refl _, rfl⟩
            refine ⟨fun _ => ⟨fun f27 w34 hf26 xt32 hp26 => ?_, by rintro _ _ _ x_ ⟨ad1, e_, hA4⟩; exact ⟨ad1, e_, hA4.lift (Up.ext x_)⟩⟩, ?_⟩
            ·
              have H40 := H11.ext xt32
              have s44 : f27 57 = .bool (decide ((o % ((ofI h).length : Int)) < x0)) := hp26 13 rfl rfl
              have s45 : f27 68 = .slice a1 (ofI h).length c1 := hp26 24 rfl rfl
              have s46 : f27 69 = .int .i64 (o % ((ofI h).length : Int)) := hp26 25 rfl rfl
              have tr22 : (decide ((o % ((ofI h).length : Int)) < x0)) = false := (by obtain ⟨a1_, a2_, a3_, a4_, a5_, a6_⟩ := past_at (ofI_ord h) hk0_ hk1_ hx0; exact decide_eq_false (by omega))
              refine gy rfl rfl s44 tr22 (ia (H40.rv 3 rfl) rfl rfl s45 s46 (by first | omega | (simp; omega)) un27 ty40 ?_)
              intro ad6 x11 hx11 hA16
              obtain rfl : x4 = x11 := Option.some.inj (hx4.symm.trans hx11)
              exact ⟨_, rfl, Ext.refl _, ⟨ad6, rfl, hA16⟩⟩
            refine ⟨fun _ => ⟨fun f28 w35 hf27 xt33 hp27 => ?_, by rintro _ _ _ x_ ⟨ad1, e_, hA4⟩; exact ⟨ad1, e_, hA4.lift (Up.ext x_)⟩⟩, ?_⟩
            ·
              have H41 := H11.ext xt33
              have s47 : f28 57 = .bool (decide ((o % ((ofI h).length : Int)) < x0)) := hp27 13 rfl rfl
              obtain ⟨ad7, s48, hA17⟩ : ∃ (ad7 : Addr), f28 70 = .pointer (some ad7) ∧ At (MS M [own w.heap.size 3 (.slice a3 (pastA (ofI h) (o % ((ofI h).length : Int))).length c3) (pastA (ofI h) (o % ((ofI h).length : Int))), box bb0 #[.slice a0 (ofV h).length c0, .slice a1 (ofI h).length c1, .slice a2 ([] : List Int).length c2] 30, imm (.slice a2 ([] : List Int).length c2) ([] : List Int), imm (.slice a1 (ofI h).length c1) (ofI h), imm (.slice a0 (ofV h).length c0) (ofV h), imm (.slice a_h h.length c_h) h]) w35 ad7 x4 := hp27 26 rfl rfl
              have H42 := H41.put (it := atI ad7 x4) rfl hA17
              have tr23 : (decide ((o % ((ofI h).length : Int)) < x0)) = false := (by obtain ⟨a1_, a2_, a3_, a4_, a5_, a6_⟩ := past_at (ofI_ord h) hk0_ hk1_ hx0; exact decide_eq_false (by omega))
              refine gy rfl rfl s47 tr23 (fa fl40_0 rfl s48 ?_)
              exact ⟨_, rfl, Ext.refl _, ⟨ad7, rfl, (by assumption)⟩⟩
            refine ⟨fun _ => ⟨fun f29 w36 hf28 xt34 hp28 => ?_, fun _ _ _ _ h => h⟩, ?_⟩
            ·
              have H43 := H11.ext xt34
              have s49 : f29 57 = .bool (decide ((o % ((ofI h).length : Int)) < x0)) := hp28 13 rfl rfl
              obtain ⟨ad8, s50, hA18⟩ : ∃ (ad8 : Addr), f29 71 = .pointer (some ((ad8).add 0)) ∧ At (MS M [own w.heap.size 3 (.slice a3 (pastA (ofI h) (o % ((ofI h).length : Int))).length c3) (pastA (ofI h) (o % ((ofI h).length : Int))), box bb0 #[.slice a0 (ofV h).length c0, .slice a1 (ofI h).length c1, .slice a2 ([] : List Int).length c2] 30, imm (.slice a2 ([] : List Int).length c2) ([] : List Int), imm (.slice a1 (ofI h).length c1) (ofI h), imm (.slice a0 (ofV h).length c0) (ofV h), imm (.slice a_h h.length c_h) h]) w36 ad8 x4 := hp28 27 rfl rfl
              have H44 := H43.put (it := atI ad8 x4) rfl hA18
              have tr24 : (decide ((o % ((ofI h).length : Int)) < x0)) = false := (by obtain ⟨a1_, a2_, a3_, a4_, a5_, a6_⟩ := past_at (ofI_ord h) hk0_ hk1_ hx0; exact decide_eq_false (by omega))
              refine gy rfl rfl s49 tr24 (ldI ((H44.atv 0 rfl)).fst.w ty3 rfl s50 ?_)
              intro rv18
              exact ⟨_, rfl, Ext.refl _, ⟨rfl, rv18⟩⟩
            refine ⟨fun _ => ⟨fun f30 w37 hf29 xt35 hp29 => ?_, fun _ _ _ _ h => h⟩, ?_⟩
            ·
              have H45 := H11.ext xt35
              have s51 : f30 57 = .bool (decide ((o % ((ofI h).length : Int)) < x0)) := hp29 13 rfl rfl
              obtain ⟨s52, rv19⟩ : f30 66 = .int .i64 x3.1 ∧ I64 (x3.1) := hp29 22 rfl rfl
              obtain ⟨s53, rv20⟩ : f30 72 = .int .i64 x4.1 ∧ I64 (x4.1) := hp29 28 rfl rfl
              have tr25 : (decide ((o % ((ofI h).length : Int)) < x0)) = false := (by obtain ⟨a1_, a2_, a3_, a4_, a5_, a6_⟩ := past_at (ofI_ord h) hk0_ hk1_ hx0; exact decide_eq_false (by omega))
              refine gy rfl rfl s51 tr25 (neq rfl rfl s52 s53 ?_)
              exact ⟨_, rfl, Ext.refl _, rfl⟩
            refine ⟨fun _ => ⟨fun f31 w38 hf30 xt36 hp30 => ?_, fun _ _ _ _ h => h⟩, ?_⟩
            ·
              have H46 := H11.ext xt36
              have s54 : f31 57 = .bool (decide ((o % ((ofI h).length : Int)) < x0)) := hp30 13 rfl rfl
              have s55 : f31 73 = .bool (!decide (x3.1 = x4.1)) := hp30 29 rfl rfl
              have tr26 : (decide ((o % ((ofI h).length : Int)) < x0)) = false := (by obtain ⟨a1_, a2_, a3_, a4_, a5_, a6_⟩ := past_at (ofI_ord h) hk0_ hk1_ hx0; exact decide_eq_false (by omega))
              refine pickF rfl rfl rfl s54 tr26 s55 ?_
              exact ⟨_, rfl, Ext.refl _, rfl⟩
            refine ⟨fun _ => ⟨fun f32 w39 hf31 xt37 hp31 => ?_, fun _ _ _ _ h => h⟩, ?_⟩
            ·
              have H47 := H11.ext xt37
              have s56 : f32 74 = .bool (!decide (x3.1 = x4.1)) := hp31 30 rfl rfl
              refine mv rfl s56 ?_
              exact ⟨_, rfl, Ext.refl _, rfl⟩
            refine ⟨fun _ => ⟨fun f33 w40 hf32 xt38 hp32 => ?_, fun _ _ _ _ h => h⟩, ?_⟩
            ·
              have H48 := H11.ext xt38
              have s57 : f33 75 = .bool (!decide (x3.1 = x4.1)) := hp32 31 rfl rfl
              have tr27 : (decide (x3.1 = x4.1)) = true := (by obtain ⟨a1_, a2_, a3_, a4_, a5_, a6_⟩ := past_at (ofI_ord h) hk0_ hk1_ hx0; rw [ses_atI hx3, ses_atI hx4] at a4_; exact decide_eq_true a4_)
              refine gy rfl rfl s57 (by rw [show (decide (x3.1 = x4.1)) = true from tr27]; rfl) (fa fl30_1 rfl ((hf32 5 rfl).trans s0) ?_)
              exact ⟨_, rfl, Ext.refl _, rfl⟩
            refine ⟨fun _ => ⟨fun f34 w41 hf33 xt39 hp33 => ?_, fun _ _ _ _ h => h⟩, ?_⟩
            ·
              have H49 := H11.ext xt39
              have s58 : f34 75 = .bool (!decide (x3.1 = x4.1)) := hp33 31 rfl rfl
              have s59 : f34 76 = .pointer (some ⟨bb0, 1, none⟩) := hp33 32 rfl rfl
              have tr28 : (decide (x3.1 = x4.1)) = true := (by obtain ⟨a1_, a2_, a3_, a4_, a5_, a6_⟩ := past_at (ofI_ord h) hk0_ hk1_ hx0; rw [ses_atI hx3, ses_atI hx4] at a4_; exact decide_eq_true a4_)
              refine gy rfl rfl s58 (by rw [show (decide (x3.1 = x4.1)) = true from tr28]; rfl) (ldX H49 1 rfl ty27 rfl s59 (by decide) rfl ?_)
              exact ⟨_, rfl, Ext.refl _, rfl⟩
            refine ⟨fun _ => ⟨fun f35 w42 hf34 xt40 hp34 => ?_, fun _ _ _ _ h => h⟩, ?_⟩
            ·
              have H50 := H11.ext xt40
              have s60 : f35 75 = .bool (!decide (x3.1 = x4.1)) := hp34 31 rfl rfl
              have tr29 : (decide (x3.1 = x4.1)) = true := (by obtain ⟨a1_, a2_, a3_, a4_, a5_, a6_⟩ := past_at (ofI_ord h) hk0_ hk1_ hx0; rw [ses_atI hx3, ses_atI hx4] at a4_; exact decide_eq_true a4_)
              refine gy rfl rfl s60 (by rw [show (decide (x3.1 = x4.1)) = true from tr29]; rfl) (mv rfl ((hf34 8 rfl).trans s2) ?_)
              exact ⟨_, rfl, Ext.refl _, rfl⟩
            refine ⟨fun _ => ⟨fun f36 w43 hf35 xt41 hp35 => ?_, fun _ _ _ _ h => h⟩, ?_⟩
            ·
              have H51 := H11.ext xt41
              have s61 : f36 75 = .bool (!decide (x3.1 = x4.1)) := hp35 31 rfl rfl
              have tr30 : (decide (x3.1 = x4.1)) = true := (by obtain ⟨a1_, a2_, a3_, a4_, a5_, a6_⟩ := past_at (ofI_ord h) hk0_ hk1_ hx0; rw [ses_atI hx3, ses_atI hx4] at a4_; exact decide_eq_true a4_)
              refine gy rfl rfl s61 (by rw [show (decide (x3.1 = x4.1)) = true from tr30]; rfl) (mv rfl ((hf35 9 rfl).trans s3) ?_)
              exact ⟨_, rfl, Ext.refl _, rfl⟩
            refine ⟨fun _ => ⟨fun f37 w44 hf36 xt42 hp36 => ?_, by rintro _ _ _ x_ ⟨g3, e_, hv3, hA5⟩; exact ⟨g3, e_, hv3, hA5.ext x_⟩⟩, ?_⟩
            ·
              have H52 := H11.ext xt42
              have s62 : f37 75 = .bool (!decide (x3.1 = x4.1)) := hp36 31 rfl rfl
              have s63 : f37 78 = .slice a3 (pastA (ofI h) (o % ((ofI h).length : Int))).length c3 := hp36 34 rfl rfl
              have s64 : f37 79 = .int .i64 (j : Int) := hp36 35 rfl rfl
              have tr31 : (decide (x3.1 = x4.1)) = true := (by obtain ⟨a1_, a2_, a3_, a4_, a5_, a6_⟩ := past_at (ofI_ord h) hk0_ hk1_ hx0; rw [ses_atI hx3, ses_atI hx4] at a4_; exact decide_eq_true a4_)
              refine gy rfl rfl s62 (by rw [show (decide (x3.1 = x4.1)) = true from tr31]; rfl) (iaO (H52.at_ 0 rfl) rfl rfl s63 s64 (by first | omega | (simp; omega)) un28 ty3 ?_)
              intro g10 x12 hv10 hx12 hA19
              obtain rfl : x0 = x12 := Option.some.inj (hx0.symm.trans hx12)
              exact ⟨_, rfl, Ext.refl _, ⟨g10, rfl, hv10, hA19⟩⟩
            refine ⟨fun _ => ⟨fun f38 w45 hf37 xt43 hp37 => ?_, fun _ _ _ _ h => h⟩, ?_⟩
            ·
              have H53 := H11.ext xt43
              have s65 : f38 75 = .bool (!decide (x3.1 = x4.1)) := hp37 31 rfl rfl
              obtain ⟨g11, s66, hv11, hA20⟩ : ∃ (g11 : Nat), f38 80 = .pointer (some ⟨g11, (j : Int).toNat * 1, none⟩) ∧ (.slice a3 (pastA (ofI h) (o % ((ofI h).length : Int))).length c3 : Value).ownBlock = some g11 ∧ AtW (MS M [own w.heap.size 3 (.slice a3 (pastA (ofI h) (o % ((ofI h).length : Int))).length c3) (pastA (ofI h) (o % ((ofI h).length : Int))), box bb0 #[.slice a0 (ofV h).length c0, .slice a1 (ofI h).length c1, .slice a2 ([] : List Int).length c2] 30, imm (.slice a2 ([] : List Int).length c2) ([] : List Int), imm (.slice a1 (ofI h).length c1) (ofI h), imm (.slice a0 (ofV h).length c0) (ofV h), imm (.slice a_h h.length c_h) h]) w45 ⟨g11, (j : Int).toNat * 1, none⟩ x0 := hp37 36 rfl rfl
              have tr32 : (decide (x3.1 = x4.1)) = true := (by obtain ⟨a1_, a2_, a3_, a4_, a5_, a6_⟩ := past_at (ofI_ord h) hk0_ hk1_ hx0; rw [ses_atI hx3, ses_atI hx4] at a4_; exact decide_eq_true a4_)
              refine gy rfl rfl s65 (by rw [show (decide (x3.1 = x4.1)) = true from tr32]; rfl) (ldI hA20 ty3 rfl s66 ?_)
              intro rv21
              exact ⟨_, rfl, Ext.refl _, ⟨rfl, rv21⟩⟩
            refine ⟨fun _ => ⟨fun f39 w46 hf38 xt44 hp38 => ?_, by rintro _ _ _ x_ ⟨ad2, e_, hA6⟩; exact ⟨ad2, e_, hA6.lift (Up.ext x_)⟩⟩, ?_⟩
            ·
              have H54 := H11.ext xt44
              have s67 : f39 75 = .bool (!decide (x3.1 = x4.1)) := hp38 31 rfl rfl
              have s68 : f39 77 = .slice a1 (ofI h).length c1 := hp38 33 rfl rfl
              obtain ⟨s69, rv22⟩ : f39 81 = .int .i64 x0 ∧ I64 (x0) := hp38 37 rfl rfl
              have tr33 : (decide (x3.1 = x4.1)) = true := (by obtain ⟨a1_, a2_, a3_, a4_, a5_, a6_⟩ := past_at (ofI_ord h) hk0_ hk1_ hx0; rw [ses_atI hx3, ses_atI hx4] at a4_; exact decide_eq_true a4_)
              refine gy rfl rfl s67 (by rw [show (decide (x3.1 = x4.1)) = true from tr33]; rfl) (ia (H54.rv 3 rfl) rfl rfl s68 s69 (by first | (obtain ⟨a1_, a2_, a3_, a4_, a5_, a6_⟩ := past_at (ofI_ord h) hk0_ hk1_ hx0; omega) | (obtain ⟨a1_, a2_, a3_, a4_, a5_, a6_⟩ := past_at (ofI_ord h) hk0_ hk1_ hx1; omega) | (obtain ⟨a1_, a2_, a3_, a4_, a5_, a6_⟩ := past_at (ofI_ord h) hk0_ hk1_ hx2; omega) | (obtain ⟨a1_, a2_, a3_, a4_, a5_, a6_⟩ := past_at (ofI_ord h) hk0_ hk1_ hx3; omega) | (obtain ⟨a1_, a2_, a3_, a4_, a5_, a6_⟩ := past_at (ofI_ord h) hk0_ hk1_ hx4; omega) | (obtain ⟨a1_, a2_, a3_, a4_, a5_, a6_⟩ := past_at (ofI_ord h) hk0_ hk1_ hx5; omega)) un27 ty40 ?_)
              intro ad9 x13 hx13 hA21
              obtain rfl : x3 = x13 := Option.some.inj (hx3.symm.trans hx13)
              exact ⟨_, rfl, Ext.refl _, ⟨ad9, rfl, hA21⟩⟩
            refine ⟨fun _ => ⟨fun f40 w47 hf39 xt45 hp39 => ?_, by rintro _ _ _ x_ ⟨ad2, e_, hA6⟩; exact ⟨ad2, e_, hA6.lift (Up.ext x_)⟩⟩, ?_⟩
            ·
              have H55 := H11.ext xt45
              have s70 : f40 75 = .bool (!decide (x3.1 = x4.1)) := hp39 31 rfl rfl
              obtain ⟨ad10, s71, hA22⟩ : ∃ (ad10 : Addr), f40 82 = .pointer (some ad10) ∧ At (MS M [own w.heap.size 3 (.slice a3 (pastA (ofI h) (o % ((ofI h).length : Int))).length c3) (pastA (ofI h) (o % ((ofI h).length : Int))), box bb0 #[.slice a0 (ofV h).length c0, .slice a1 (ofI h).length c1, .slice a2 ([] : List Int).length c2] 30, imm (.slice a2 ([] : List Int).length c2) ([] : List Int), imm (.slice a1 (ofI h).length c1) (ofI h), imm (.slice a0 (ofV h).length c0) (ofV h), imm (.slice a_h h.length c_h) h]) w47 ad10 x3 := hp39 38 rfl rfl
              have H56 := H55.put (it := atI ad10 x3) rfl hA22
              have tr34 : (decide (x3.1 = x4.1)) = true := (by obtain ⟨a1_, a2_, a3_, a4_, a5_, a6_⟩ := past_at (ofI_ord h) hk0_ hk1_ hx0; rw [ses_atI hx3, ses_atI hx4] at a4_; exact decide_eq_true a4_)
              refine gy rfl rfl s70 (by rw [show (decide (x3.1 = x4.1)) = true from tr34]; rfl) (fa fl40_1 rfl s71 ?_)
              exact ⟨_, rfl, Ext.refl _, ⟨ad10, rfl, (by assumption)⟩⟩
            refine ⟨fun _ => ⟨fun f41 w48 hf40 xt46 hp40 => ?_, fun _ _ _ _ h => h⟩, ?_⟩
            ·
              have H57 := H11.ext xt46
              have s72 : f41 75 = .bool (!decide (x3.1 = x4.1)) := hp40 31 rfl rfl
              obtain ⟨ad11, s73, hA23⟩ : ∃ (ad11 : Addr), f41 83 = .pointer (some ((ad11).add 1)) ∧ At (MS M [own w.heap.size 3 (.slice a3 (pastA (ofI h) (o % ((ofI h).length : Int))).length c3) (pastA (ofI h) (o % ((ofI h).length : Int))), box bb0 #[.slice a0 (ofV h).length c0, .slice a1 (ofI h).length c1, .slice a2 ([] : List Int).length c2] 30, imm (.slice a2 ([] : List Int).length c2) ([] : List Int), imm (.slice a1 (ofI h).length c1) (ofI h), imm (.slice a0 (ofV h).length c0) (ofV h), imm (.slice a_h h.length c_h) h]) w48 ad11 x3 := hp40 39 rfl rfl
              have H58 := H57.put (it := atI ad11 x3) rfl hA23
              have tr35 : (decide (x3.1 = x4.1)) = true := (by obtain ⟨a1_, a2_, a3_, a4_, a5_, a6_⟩ := past_at (ofI_ord h) hk0_ hk1_ hx0; rw [ses_atI hx3, ses_atI hx4] at a4_; exact decide_eq_true a4_)
              refine gy rfl rfl s72 (by rw [show (decide (x3.1 = x4.1)) = true from tr35]; rfl) (ldI (((H58.atv 0 rfl)).s1).fst.w ty3 rfl s73 ?_)
              intro rv23
              exact ⟨_, rfl, Ext.refl _, ⟨rfl, rv23⟩⟩
            refine ⟨fun _ => ⟨fun f42 w49 hf41 xt47 hp41 => ?_, fun _ _ _ _ h => h⟩, ?_⟩
            ·
              have H59 := H11.ext xt47
              have s74 : f42 75 = .bool (!decide (x3.1 = x4.1)) := hp41 31 rfl rfl
              have tr36 : (decide (x3.1 = x4.1)) = true := (by obtain ⟨a1_, a2_, a3_, a4_, a5_, a6_⟩ := past_at (ofI_ord h) hk0_ hk1_ hx0; rw [ses_atI hx3, ses_atI hx4] at a4_; exact decide_eq_true a4_)
              refine gy rfl rfl s74 (by rw [show (decide (x3.1 = x4.1)) = true from tr36]; rfl) (mv rfl ((hf41 9 rfl).trans s3) ?_)
              exact ⟨_, rfl, Ext.refl _, rfl⟩
            exact DSteps.rest rfl _
          · intro f43 w50 hf42 xt48 hp42
            have H60 := H11.ext xt48
            have s75 : f43 5 = .pointer (some ⟨bb0, 0, none⟩) := (hf42 5 rfl).trans s0
            have s76 : f43 7 = .int .i64 (o % ((ofI h).length : Int)) := (hf42 7 rfl).trans s1
            have s77 : f43 8 = .slice a3 (pastA (ofI h) (o % ((ofI h).length : Int))).length c3 := (hf42 8 rfl).trans s2
            have s78 : f43 9 = .int .i64 (j : Int) := (hf42 9 rfl).trans s3
            have s79 : f43 75 = .bool (!decide (x3.1 = x4.1)) := hp42 31 rfl
            obtain ⟨s80, rv24⟩ : f43 84 = .int .i64 x3.2.1 ∧ I64 (x3.2.1) := hp42 40 rfl
            have s81 : f43 85 = .int .i64 (j : Int) := hp42 41 rfl
            have tr37 : (decide (x3.1 = x4.1)) = true := (by obtain ⟨a1_, a2_, a3_, a4_, a5_, a6_⟩ := past_at (ofI_ord h) hk0_ hk1_ hx0; rw [ses_atI hx3, ses_atI hx4] at a4_; exact decide_eq_true a4_)
            refine k (gy rfl rfl s79 (by rw [show (decide (x3.1 = x4.1)) = true from tr37]; rfl) (neq rfl rfl s80 s81 (k (pickF rfl rfl rfl s79 (by rw [show (decide (x3.1 = x4.1)) = true from tr37]; rfl) rfl (z (nx ?_))))))
            have tr38 : (decide (x3.2.1 = (j : Int))) = true := (by obtain ⟨a1_, a2_, a3_, a4_, a5_, a6_⟩ := past_at (ofI_ord h) hk0_ hk1_ hx0; rw [plc_atI hx3] at a5_; exact decide_eq_true (by omega))
            refine cdF rfl rfl (by rw [show (decide (x3.2.1 = (j : Int))) = true from tr38]; rfl) (sk (inb_normal (nx (rg (k (mv rfl s78 (k (add rfl rfl rfl rfl (by unfold I64 at *; omega) (k (asg (v := .int .i64 ((j : Int) + 1)) rfl rfl (z ?_)))))))))))
            refine loopN _ ?_ ⟨(j + 1), rfl, s75, s76, s77, (ieq rfl (by first | rfl | omega | (push_cast; omega))), H60, (by first | assumption | omega | simp | (simp; omega))⟩
            omega
        ·
          have p3 := of_decide_eq_false b3
          refine ex (then_exit (loop_exit (inb_here (nx (sq (rg (k ?_)))))))
          have cc5 := awake12 (w := w7)
          refine ca go30 rfl e0 cc5 ?_
          rintro _ w8 ⟨rfl, xt6⟩
          have H12 := H11.ext xt6
          refine k (mv (v := .bool true) rfl rfl (k (gy rfl rfl rfl rfl (mv rfl s2 (k (gy rfl rfl rfl rfl (lnS rfl rfl un28 (k (gy rfl rfl rfl rfl (fa fl30_1 rfl s0 (k (gy rfl rfl rfl rfl (ldX H12 1 rfl ty27 rfl rfl (by decide) rfl (k (gy rfl rfl rfl rfl (mv rfl s1 (k (gy rfl rfl rfl rfl (ia (H12.rv 3 rfl) rfl rfl rfl rfl (by first | omega | (simp; omega)) un27 ty40 ?_)))))))))))))))))))
          intro ad0 x0 hx0 hA0
          refine k (gy rfl rfl rfl rfl (fa fl40_1 rfl rfl (k (gy rfl rfl rfl rfl (ldI ((hA0).s1).fst.w ty3 rfl rfl ?_)))))
          intro rv4
          refine k (gy rfl rfl rfl rfl (add rfl rfl rfl rfl (by rw [plc_atI hx0] at hpb_ hpn_; unfold I64; omega) (k (gy rfl rfl rfl rfl (eql rfl rfl rfl rfl (k (pickT rfl rfl rfl rfl rfl rfl (k (mv (v := .bool (decide (((pastA (ofI h) (o % ((ofI h).length : Int))).length : Int) = (x0.2.1 + 1)))) rfl rfl ?_)))))))))
          have tr0 : (decide (((pastA (ofI h) (o % ((ofI h).length : Int))).length : Int) = (x0.2.1 + 1))) = true := (by rw [plc_atI hx0] at hpl_; exact decide_eq_true hpl_)
          refine k (gy rfl rfl rfl tr0 (mv rfl s2 (k (gy rfl rfl rfl tr0 (mv rfl s2 (k (gy rfl rfl rfl tr0 (lnS rfl rfl un28 (k (gy rfl rfl rfl tr0 (sub rfl rfl rfl rfl (by unfold I64 at *; omega) (k (gy rfl rfl rfl tr0 (iaO (H12.at_ 0 rfl) rfl rfl rfl rfl (by first | omega | (simp; omega)) un28 ty3 ?_))))))))))))))
          intro g0 x1 hv0 hx1 hA1
          refine k (gy rfl rfl rfl tr0 (ldI hA1 ty3 rfl rfl ?_))
          intro rv5
          refine k (gy rfl rfl rfl tr0 (mv rfl s1 (k (gy rfl rfl rfl tr0 (eql rfl rfl rfl rfl (k (pickT rfl rfl rfl rfl tr0 rfl (k (asg (v := .bool (decide (x1 = (o % ((ofI h).length : Int))))) rfl rfl (z (nx (rt (r1 rfl rfl ?_)))))))))))))
          have tr1 : (decide (x1 = (o % ((ofI h).length : Int)))) = true := (by obtain ⟨a1_, a2_, a3_, a4_, a5_, a6_⟩ := past_at (ofI_ord h) hk0_ hk1_ hx1; exact decide_eq_true (by omega))
          have e0 : (decide (x1 = (o % ((ofI h).length : Int))) : Bool) = true := by exact tr1
          have ev_ := cg1 (fun (x_0 : Bool) => (.bool x_0 : Value)) e0
          exact ⟨ev_, H12.below⟩
end Go.Proofs.Ytmliihgaoaolmaa
