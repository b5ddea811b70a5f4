/- Proved: eyewitnesstop.WholeOne answers true at every input of bulk at most 1048576, and each argument reads afterwards as it did; no condition but the statement's own. Printed by my own tool (wip/tool/close.py): the end of the row. -/
import Derived.Test.YtgjakhpjmapelaaGreatDoorQwnB
import Derived.Test.YtgjakhpjmapelaaGreatDoorIenE
import Derived.Test.YtgjakhpjmapelaaGreatDoorRows
import Derived.Test.YtgjakhpjmapelaaGreatDoorQwnD
import Derived.Test.YtgjakhpjmapelaaGreatDoorTie
import Derived.Test.YtgjakhpjmapelaaGreatDoorCards
import Derived.SevenTiedAt
import Derived.LaidMore
import Derived.Lay
import Derived.Stop.Joined
import Derived.Deep.DeepHandedRow
import Derived.JoinedCond
import Derived.Test.YtgjakhpjmapelaaGreatDoorQwnA
import Derived.Test.YtgjakhpjmapelaaGreatDoorQwnC
import Derived.Test.YtgjakhpjmapelaaGreatDoorIenA
import Derived.Test.YtgjakhpjmapelaaGreatDoorIenB
import Derived.Test.YtgjakhpjmapelaaGreatDoorIenC
import Derived.Test.YtgjakhpjmapelaaGreatDoorIenD
set_option linter.unusedVariables false
set_option linter.unusedSimpArgs false
namespace Go.Proofs.YtgjakhpjmapelaaGreatDoor
open Go Go.Ew Go.ChangeShapes Go.WideShapes Go.ChangeAt Go.RowKit
theorem cs5:Tryz.prog.cellsOf 5=1:=by kernel_rfl
theorem ak7:Tryz.prog.cellsOf 40=1:=by kernel_rfl
theorem cs3:Tryz.prog.cellsOf 3=1:=by kernel_rfl
theorem cs9:Tryz.prog.cellsOf 9=1:=by kernel_rfl
theorem cs4:Tryz.prog.cellsOf 4=1:=by kernel_rfl
theorem afm:Tryz.prog.cellsOf 43=3:=by kernel_rfl
theorem Ml:ownKnob Tryz.prog.godebug=none:=by kernel_rfl
theorem KW:Kids Tryz.prog (·<Tryz.prog.types.size):=kids_rows (by kernel_rfl) (by kernel_rfl)
theorem K3:∀t e,t<Tryz.prog.types.size→Tryz.prog.underlying t=some (.slice e)→0<Tryz.prog.cellsOf e:=slices_full_of Tryz.prog (by kernel_rfl)
theorem K1:Tryz.prog.globalNamed "math/bits.deBruijn64tab"=some 0:=by kernel_rfl
theorem KO:(Tryz.prog.globals[0]?).map (·.type)=some 227:=by kernel_rfl
theorem K4 (os:Os) (args:Array Value):laidMetH Tryz.prog [("math/bits.deBruijn64tab",Rows.laid_math_bits_deBruijn64tab),("unicode/utf8.acceptRanges",Rows.laid_unicode_utf8_acceptRanges),("unicode/utf8.first",Rows.laid_unicode_utf8_first)] ((World.laidAll Tryz.prog os [("math/bits.deBruijn64tab",Rows.laid_math_bits_deBruijn64tab),("unicode/utf8.acceptRanges",Rows.laid_unicode_utf8_acceptRanges),("unicode/utf8.first",Rows.laid_unicode_utf8_first)]).forCall (fun _ _=>0) ⟨#[],args,[]⟩).memory:=
  by rw[MakeChecks.laidMetH_plain _ _ _ (by kernel_rfl)];exact laidMet_laidAll _ (by kernel_rfl) (by kernel_rfl)
theorem I6 {P:Program} {n:String} {d:DataW Unit} {r:List (String×DataW Unit)} {W:World} (h:laidMet P ((n,d)::r) W):laidMet P [(n,d)] W:=by
  obtain⟨ps,⟨g,t,cs,f,p,q,h1,h2,h3,h4,h5,rfl⟩,hn,ho⟩:=h
  exact⟨_,⟨g,t,cs,f,p,[],h1,h2,h3,h4,J,J⟩,by rw[List.append_nil];exact(List.nodup_append.1 hn).1,fun b o hb=>ho b o (by rw[List.append_nil] at hb;exact List.mem_append_left _ hb)⟩
theorem LN {W:World} (h:laidMetH Tryz.prog [("math/bits.deBruijn64tab",Rows.laid_math_bits_deBruijn64tab),("unicode/utf8.acceptRanges",Rows.laid_unicode_utf8_acceptRanges),("unicode/utf8.first",Rows.laid_unicode_utf8_first)] W):fY 0 W:=by
  rw[MakeChecks.laidMetH_plain _ _ _ (by kernel_rfl)] at h
  exact Om (D:=Rows.laid_math_bits_deBruijn64tab) K1 KO Ym Yl cs5 J (by rw[MakeChecks.laidMetH_plain _ _ _ (by kernel_rfl)];exact I6 h)<|by rw[MakeChecks.laidMetH_plain _ _ _ (by kernel_rfl)]
theorem wq {H:Type}:∀l:List (DataW H),Rows.uptoBulkAll l=(l.map Rows.uptoBulk).sum
  |[]=>by simp[Rows.uptoBulkAll]
  |x::r=>by simp[Rows.uptoBulkAll,wq r]
theorem qh:Jn (fun (H:Type) (d:DataW H)=>Rows.uptoBulk d) where
  lit _ l:=by cases l<;>simp[Rows.uptoBulk]
  str _ bs:=by simp[Rows.uptoBulk]
  nil _:=by simp[Rows.uptoBulk]
  slice _ es sp:=by show (es.map Rows.uptoBulk).sum+1≤_;simp only[Rows.uptoBulk,wq];omega
  agg _ ps:=by show (ps.map Rows.uptoBulk).sum≤_;simp only[Rows.uptoBulk,wq];omega
theorem Lz (os:Os) {H:Type} (enc:TypeId×Value→H):∃(w:World) (tape:Tape) (i:Input),w.os=os∧(w.forCall tape i).Shaped Tryz.prog∧i.vars=[]∧Input.okWide Tryz.prog (w.forCall tape i) .any w.heap.size 7 i∧(Rows.OpenSpec.upto Rows.wholeOneSpec).preRow enc Tryz.prog Tryz.f7 Rows.wholeOneUptoRow.domain false Rows.wholeOneUptoRow.laid (w.forCall tape i).memory i.args∧({}:Assume).holds Tryz.prog (lone (Frame.enter Tryz.prog 7 i.args .normal) [] (w.forCall tape i)):=
  have qK:Input.okWideB Tryz.prog ((World.laidAll Tryz.prog os [("math/bits.deBruijn64tab",Rows.laid_math_bits_deBruijn64tab),("unicode/utf8.acceptRanges",Rows.laid_unicode_utf8_acceptRanges),("unicode/utf8.first",Rows.laid_unicode_utf8_first)]).forCall (fun _ _=>0) ⟨#[],#[.slice none 0 0],[]⟩) 7 ⟨#[],#[.slice none 0 0],[]⟩=true:=by kernel_rfl
  ⟨World.laidAll Tryz.prog os [("math/bits.deBruijn64tab",Rows.laid_math_bits_deBruijn64tab),("unicode/utf8.acceptRanges",Rows.laid_unicode_utf8_acceptRanges),("unicode/utf8.first",Rows.laid_unicode_utf8_first)],fun _ _=>0,⟨#[],#[.slice none 0 0],[]⟩,World.laidAll_os _ _ _,World.shaped_of_ZipB (by kernel_rfl) (by kernel_rfl),(Input.okWide_of_okWideB (base:=0) qK).1,(Input.okWide_of_okWideB qK).2,
    ⟨⟨(OpenSpec.pre_some (k:=Rows.uptoSmall) rfl _ _ _ _).2 ⟨[.nil],[],[],DataW.Whole_of_whole (x:=([.nil],[],[])) (fuel:=8) (by kernel_rfl),rfl,by kernel_rfl⟩,K4 os _⟩,sizedMet_of_sizedB (fuel:=8) (by kernel_rfl)⟩,by
    simp only[Assume.holds]
    exact⟨by simp,by simp,fun _=>Modest.zero,by simp,by simp⟩⟩
set_option maxRecDepth 100000 in
set_option maxHeartbeats 400000 in
theorem Hm (os:Os) (started:os.Started) (H:Type) (enc:TypeId×Value→H) (F:Stop.Interp):
    ReturnsInHanded {} Tryz.checked os 7 .any ((Rows.OpenSpec.upto Rows.wholeOneSpec).preRow enc Tryz.prog Tryz.f7 Rows.wholeOneUptoRow.domain false Rows.wholeOneUptoRow.laid) (((Rows.OpenSpec.upto Rows.wholeOneSpec).at F).post enc Tryz.prog Tryz.f7 false true false false):=by
  refine returnsInHanded_of_row (C:=Tryz.checked) (s:=Rows.OpenSpec.upto Rows.wholeOneSpec) Ml started (by kernel_rfl) Tryz.func7 (Lz os enc) ?_
  intro W base args ds gs before agA hW _ cG _ hL _ _
  have hk:=cG Rows.uptoSmall J
  have adF:∀(j:Nat) t v,Tryz.f7.params[j]? =some t→args[j]? =some v→Value.okWide Tryz.prog W .any base t v:=agA
  have hW':=hW
  obtain⟨p,q,cB,hV,Hx,hfz,lX⟩:=hW
  have hA:DataW.TrodAll enc Tryz.prog W 0 (fun _=>true) true Tryz.f7.params.toList args.toList ds p:=cB
  rw[Tryz.params7] at hA adF
  obtain⟨v0,vs0,d0,ds0,p0,q0,RE,rfl,rfl,h0,tl0⟩:=trodAll_cons hA
  obtain⟨rfl,rfl,rfl⟩:=trodAll_nil tl0
  obtain rfl:args=#[v0]:=by cases args;simp_all
  obtain⟨rfl,rfl⟩:=trodVars_none hV
  obtain⟨l,fX,gb,rfl,mR,anU⟩:=QK (α:=(Bool×ByteArray×Int)) oV (Mr qh ak7 oV (KR qh Tryz.underlying43 afm (by rw[afm];exact(De rfl (OL qh cs4 SB) rfl (De rfl (KS qh cs9 mL) rfl (OK rfl (Rb qh cs3 CN) rfl)))))) (adF 0 40 v0 rfl rfl) h0
  have hk':Rows.uptoBulkAll _≤1048576:=of_decide_eq_true hk
  simp only[Rows.uptoBulkAll,List.append_nil,List.nil_append,List.cons_append] at hk'
  refine(MM (M:=Oa) (fun _ h=>h.elim) (LN hL) mR<|Nat.le_trans (show l.length≤Wt.wt l from Nat.le_succ_of_le (Sq (OW<|OW ab3) _))<|by dsimp only at *;omega).mono fun e W' ⟨v,he,hv,hg⟩=>?_
  subst he;subst hv
  exact⟨_,J,TQ KW K3 (by rw[Tryz.params7];decide) rfl hW' hg rfl SB rfl rfl rfl⟩
theorem KQ:Rows.wholeOneUptoRow.holds Tryz.pinned (Rows.OpenSpec.upto Rows.wholeOneSpec):=
  OpenClaim.holds_of_cond 7 Tryz.f7 rfl rfl rfl rfl rfl rfl rfl ⟨rfl,rfl,rfl,rfl,rfl⟩ rfl rfl rfl rfl rfl (by kernel_rfl) Tryz.func7 (by kernel_rfl)
    (of_decide_eq_true (by kernel_rfl)) (by unfold Func.isWrapper;first|(rw[if_pos (by decide +kernel)];kernel_rfl)|(rw[if_neg (by decide +kernel)];exact⟨rfl,rfl⟩))
    (fun os started H enc _ F=>by rw[OpenClaim.pre_eq_preRow];exact Hm os started H enc F)
theorem wholeOne_proved:Rows.WholeOneUptoCardSaid:=
  Claim7.holds_tied_plain_at .later [] [.data,.data,.pinned] true (true,"a94570fda837b6158c9b214ce3c6f28cc7b03d543e8d1f90ec427e4c905bf393") false KQ (fun _ h=>by cases h) (by kernel_rfl) (fun _ h=>by cases h) wholeOneUpto_row_tie rfl ⟨rfl,rfl⟩ (by kernel_rfl) rfl
    (fun f fn hf hfn=>by
      obtain rfl:f=7:=Option.some.inj ((show Tryz.prog.funcNamed "eyewitness/eyewitnesstop.WholeOne"=some 7 by kernel_rfl).symm.trans hf) |>.symm
      obtain rfl:fn=Tryz.f7:=(Option.some.inj (Tryz.func7.symm.trans hfn)).symm
      exact⟨by kernel_rfl,fun j t ht=>by
        rw[Tryz.params7] at ht
        have hm:t∈[40]:=by simpa using Array.mem_of_getElem? ht
        have pf:([40].all fun u=>!Tryz.prog.wantsStandIn u)=true:=by kernel_rfl
        exact(show Tryz.prog.wantsStandIn t=false by simpa using List.all_eq_true.1 pf t hm)⟩)
    (by kernel_rfl)
#print axioms wholeOne_proved
end Go.Proofs.YtgjakhpjmapelaaGreatDoor
