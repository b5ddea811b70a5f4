/- Proved: eyewitnesstop.WholeLevels answers true at every input of bulk at most 1048576, and each argument reads afterwards as it did; no condition but the statement's own. Printed by my own tool (wip/tool/close.py): the end of the row. -/
import Derived.Test.YtgjakhpjmapelaaGreatDoorOwnB
import Derived.Test.YtgjakhpjmapelaaGreatDoorGenE
import Derived.Test.YtgjakhpjmapelaaGreatDoorRows
import Derived.Test.YtgjakhpjmapelaaGreatDoorOwnC
import Derived.Test.YtgjakhpjmapelaaGreatDoorTie
import Derived.Test.YtgjakhpjmapelaaGreatDoorCards
import Derived.SevenTiedAt
import Derived.LaidMore
import Derived.Lay
import Derived.Stop.Joined
import Derived.Deep.DeepHandedRow
import Derived.JoinedCond
import Derived.Test.YtgjakhpjmapelaaGreatDoorOwnA
import Derived.Test.YtgjakhpjmapelaaGreatDoorGenA
import Derived.Test.YtgjakhpjmapelaaGreatDoorGenB
import Derived.Test.YtgjakhpjmapelaaGreatDoorGenC
import Derived.Test.YtgjakhpjmapelaaGreatDoorGenD
set_option linter.unusedVariables false
set_option linter.unusedSimpArgs false
namespace Go.Proofs.YtgjakhpjmapelaaGreatDoor
open Go Go.Ew Go.ChangeShapes Go.WideShapes Go.ChangeAt Go.RowKit
theorem cs5:Tryz.prog.cellsOf 5=1:=by kernel_rfl
theorem aiB:Tryz.prog.cellsOf 37=1:=by kernel_rfl
theorem aiA:Tryz.prog.cellsOf 40=1:=by kernel_rfl
theorem cs3:Tryz.prog.cellsOf 3=1:=by kernel_rfl
theorem cs9:Tryz.prog.cellsOf 9=1:=by kernel_rfl
theorem cs4:Tryz.prog.cellsOf 4=1:=by kernel_rfl
theorem acY:Tryz.prog.cellsOf 43=3:=by kernel_rfl
theorem F9:ownKnob Tryz.prog.godebug=none:=by kernel_rfl
theorem E8:Kids Tryz.prog (·<Tryz.prog.types.size):=kids_rows (by kernel_rfl) (by kernel_rfl)
theorem Fp:∀t e,t<Tryz.prog.types.size→Tryz.prog.underlying t=some (.slice e)→0<Tryz.prog.cellsOf e:=slices_full_of Tryz.prog (by kernel_rfl)
theorem Fo:Tryz.prog.globalNamed "math/bits.deBruijn64tab"=some 0:=by kernel_rfl
theorem EE:(Tryz.prog.globals[0]?).map (·.type)=some 227:=by kernel_rfl
theorem Ft (os:Os) (args:Array Value):laidMetH Tryz.prog [("math/bits.deBruijn64tab",Rows.laid_math_bits_deBruijn64tab),("unicode/utf8.acceptRanges",Rows.laid_unicode_utf8_acceptRanges),("unicode/utf8.first",Rows.laid_unicode_utf8_first)] ((World.laidAll Tryz.prog os [("math/bits.deBruijn64tab",Rows.laid_math_bits_deBruijn64tab),("unicode/utf8.acceptRanges",Rows.laid_unicode_utf8_acceptRanges),("unicode/utf8.first",Rows.laid_unicode_utf8_first)]).forCall (fun _ _=>0) ⟨#[],args,[]⟩).memory:=
  by rw[MakeChecks.laidMetH_plain _ _ _ (by kernel_rfl)];exact laidMet_laidAll _ (by kernel_rfl) (by kernel_rfl)
theorem DI {P:Program} {n:String} {d:DataW Unit} {r:List (String×DataW Unit)} {W:World} (h:laidMet P ((n,d)::r) W):laidMet P [(n,d)] W:=by
  obtain⟨ps,⟨g,t,cs,f,p,q,h1,h2,h3,h4,h5,rfl⟩,hn,ho⟩:=h
  exact⟨_,⟨g,t,cs,f,p,[],h1,h2,h3,h4,J,J⟩,by rw[List.append_nil];exact(List.nodup_append.1 hn).1,fun b o hb=>ho b o (by rw[List.append_nil] at hb;exact List.mem_append_left _ hb)⟩
theorem FY {W:World} (h:laidMetH Tryz.prog [("math/bits.deBruijn64tab",Rows.laid_math_bits_deBruijn64tab),("unicode/utf8.acceptRanges",Rows.laid_unicode_utf8_acceptRanges),("unicode/utf8.first",Rows.laid_unicode_utf8_first)] W):fQ 0 W:=by
  rw[MakeChecks.laidMetH_plain _ _ _ (by kernel_rfl)] at h
  exact MR (D:=Rows.laid_math_bits_deBruijn64tab) Fo EE WA Wz cs5 J (by rw[MakeChecks.laidMetH_plain _ _ _ (by kernel_rfl)];exact DI h)<|by rw[MakeChecks.laidMetH_plain _ _ _ (by kernel_rfl)]
theorem rQ {H:Type}:∀l:List (DataW H),Rows.uptoBulkAll l=(l.map Rows.uptoBulk).sum
  |[]=>by simp[Rows.uptoBulkAll]
  |x::r=>by simp[Rows.uptoBulkAll,rQ r]
theorem kX:Ik (fun (H:Type) (d:DataW H)=>Rows.uptoBulk d) where
  lit _ l:=by cases l<;>simp[Rows.uptoBulk]
  str _ bs:=by simp[Rows.uptoBulk]
  nil _:=by simp[Rows.uptoBulk]
  slice _ es sp:=by show (es.map Rows.uptoBulk).sum+1≤_;simp only[Rows.uptoBulk,rQ];omega
  agg _ ps:=by show (ps.map Rows.uptoBulk).sum≤_;simp only[Rows.uptoBulk,rQ];omega
theorem FR (os:Os) {H:Type} (enc:TypeId×Value→H):∃(w:World) (tape:Tape) (i:Input),w.os=os∧(w.forCall tape i).Shaped Tryz.prog∧i.vars=[]∧Input.okWide Tryz.prog (w.forCall tape i) .any w.heap.size 4 i∧(Rows.OpenSpec.upto Rows.wholeLevelsSpec).preRow enc Tryz.prog Tryz.f4 Rows.wholeLevelsUptoRow.domain false Rows.wholeLevelsUptoRow.laid (w.forCall tape i).memory i.args∧({}:Assume).holds Tryz.prog (lone (Frame.enter Tryz.prog 4 i.args .normal) [] (w.forCall tape i)):=
  have pW:Input.okWideB Tryz.prog ((World.laidAll Tryz.prog os [("math/bits.deBruijn64tab",Rows.laid_math_bits_deBruijn64tab),("unicode/utf8.acceptRanges",Rows.laid_unicode_utf8_acceptRanges),("unicode/utf8.first",Rows.laid_unicode_utf8_first)]).forCall (fun _ _=>0) ⟨#[],#[.slice none 0 0],[]⟩) 4 ⟨#[],#[.slice none 0 0],[]⟩=true:=by kernel_rfl
  ⟨World.laidAll Tryz.prog os [("math/bits.deBruijn64tab",Rows.laid_math_bits_deBruijn64tab),("unicode/utf8.acceptRanges",Rows.laid_unicode_utf8_acceptRanges),("unicode/utf8.first",Rows.laid_unicode_utf8_first)],fun _ _=>0,⟨#[],#[.slice none 0 0],[]⟩,World.laidAll_os _ _ _,World.shaped_of_ZipB (by kernel_rfl) (by kernel_rfl),(Input.okWide_of_okWideB (base:=0) pW).1,(Input.okWide_of_okWideB pW).2,
    ⟨⟨(OpenSpec.pre_some (k:=Rows.uptoSmall) rfl _ _ _ _).2 ⟨[.nil],[],[],DataW.Whole_of_whole (x:=([.nil],[],[])) (fuel:=8) (by kernel_rfl),rfl,by kernel_rfl⟩,Ft os _⟩,sizedMet_of_sizedB (fuel:=8) (by kernel_rfl)⟩,by
    simp only[Assume.holds]
    exact⟨by simp,by simp,fun _=>Modest.zero,by simp,by simp⟩⟩
set_option maxRecDepth 100000 in
set_option maxHeartbeats 400000 in
theorem Cl (os:Os) (started:os.Started) (H:Type) (enc:TypeId×Value→H) (F:Stop.Interp):
    ReturnsInHanded {} Tryz.checked os 4 .any ((Rows.OpenSpec.upto Rows.wholeLevelsSpec).preRow enc Tryz.prog Tryz.f4 Rows.wholeLevelsUptoRow.domain false Rows.wholeLevelsUptoRow.laid) (((Rows.OpenSpec.upto Rows.wholeLevelsSpec).at F).post enc Tryz.prog Tryz.f4 false true false false):=by
  refine returnsInHanded_of_row (C:=Tryz.checked) (s:=Rows.OpenSpec.upto Rows.wholeLevelsSpec) F9 started (by kernel_rfl) Tryz.func4 (FR os enc) ?_
  intro W base args ds gs before aej hW _ cz _ hL _ _
  have hk:=cz Rows.uptoSmall J
  have abl:∀(j:Nat) t v,Tryz.f4.params[j]? =some t→args[j]? =some v→Value.okWide Tryz.prog W .any base t v:=aej
  have hW':=hW
  obtain⟨p,q,cu,hV,Gw,hfz,lD⟩:=hW
  have hA:DataW.TrodAll enc Tryz.prog W 0 (fun _=>true) true Tryz.f4.params.toList args.toList ds p:=cu
  rw[Tryz.params4] at hA abl
  obtain⟨v0,vs0,d0,ds0,p0,q0,P_,rfl,rfl,h0,tl0⟩:=trodAll_cons hA
  obtain⟨rfl,rfl,rfl⟩:=trodAll_nil tl0
  obtain rfl:args=#[v0]:=by cases args;simp_all
  obtain⟨rfl,rfl⟩:=trodVars_none hV
  obtain⟨h,gq,gp,rfl,kh,ak_⟩:=O' (α:=(List (Bool×ByteArray×Int))) rP (Cf kX aiB rP (Cf kX aiA pL (Jx kX Tryz.underlying43 acY (by rw[acY];exact(Ce rfl (Nf kX cs4 QZ) rfl (Ce rfl (Jy kX cs9 mu) rfl (Nc rfl (PD kX cs3 BM) rfl))))))) (abl 0 37 v0 rfl rfl) h0
  have hk':Rows.uptoBulkAll _≤1048576:=of_decide_eq_true hk
  simp only[Rows.uptoBulkAll,List.append_nil,List.nil_append,List.cons_append] at hk'
  refine(Gp (M:=MG) (fun _ h=>h.elim) (FY hL) kh<|Nat.le_trans (Yn (Nt<|Nt Z4) _)<|by dsimp only at *;omega).mono fun e W' ⟨v,he,hv,hg⟩=>?_
  subst he;subst hv
  exact⟨_,J,R7 E8 Fp (by rw[Tryz.params4];decide) rfl hW' hg rfl QZ rfl rfl rfl⟩
theorem EV:Rows.wholeLevelsUptoRow.holds Tryz.pinned (Rows.OpenSpec.upto Rows.wholeLevelsSpec):=
  OpenClaim.holds_of_cond 4 Tryz.f4 rfl rfl rfl rfl rfl rfl rfl ⟨rfl,rfl,rfl,rfl,rfl⟩ rfl rfl rfl rfl rfl (by kernel_rfl) Tryz.func4 (by kernel_rfl)
    (of_decide_eq_true (by kernel_rfl)) (by unfold Func.isWrapper;first|(rw[if_pos (by decide +kernel)];kernel_rfl)|(rw[if_neg (by decide +kernel)];exact⟨rfl,rfl⟩))
    (fun os started H enc _ F=>by rw[OpenClaim.pre_eq_preRow];exact Cl os started H enc F)
theorem wholeLevels_proved:Rows.WholeLevelsUptoCardSaid:=
  Claim7.holds_tied_plain_at .later [] [.data,.data,.pinned] true (true,"a94570fda837b6158c9b214ce3c6f28cc7b03d543e8d1f90ec427e4c905bf393") false EV (fun _ h=>by cases h) (by kernel_rfl) (fun _ h=>by cases h) wholeLevelsUpto_row_tie rfl ⟨rfl,rfl⟩ (by kernel_rfl) rfl
    (fun f fn hf hfn=>by
      obtain rfl:f=4:=Option.some.inj ((show Tryz.prog.funcNamed "eyewitness/eyewitnesstop.WholeLevels"=some 4 by kernel_rfl).symm.trans hf) |>.symm
      obtain rfl:fn=Tryz.f4:=(Option.some.inj (Tryz.func4.symm.trans hfn)).symm
      exact⟨by kernel_rfl,fun j t ht=>by
        rw[Tryz.params4] at ht
        have hm:t∈[37]:=by simpa using Array.mem_of_getElem? ht
        have oC:([37].all fun u=>!Tryz.prog.wantsStandIn u)=true:=by kernel_rfl
        exact(show Tryz.prog.wantsStandIn t=false by simpa using List.all_eq_true.1 oC t hm)⟩)
    (by kernel_rfl)
#print axioms wholeLevels_proved
end Go.Proofs.YtgjakhpjmapelaaGreatDoor
