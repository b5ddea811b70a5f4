/- Proved: eyewitnesstop.WholeSerial answers true at every input of bulk at most 1048576, and each argument reads afterwards as it did; no condition but the statement's own. Printed by my own tool (wip/tool/close.py): the end of the row. -/
import Derived.Test.YtgjakhpjmapelaaGreatDoorUwnB
import Derived.Test.YtgjakhpjmapelaaGreatDoorMenE
import Derived.Test.YtgjakhpjmapelaaGreatDoorRows
import Derived.Test.YtgjakhpjmapelaaGreatDoorUwnD
import Derived.Test.YtgjakhpjmapelaaGreatDoorTie
import Derived.Test.YtgjakhpjmapelaaGreatDoorCards
import Derived.SevenTiedAt
import Derived.LaidMore
import Derived.Lay
import Derived.Stop.Joined
import Derived.Deep.DeepHandedRow
import Derived.JoinedCond
import Derived.Test.YtgjakhpjmapelaaGreatDoorUwnA
import Derived.Test.YtgjakhpjmapelaaGreatDoorUwnC
import Derived.Test.YtgjakhpjmapelaaGreatDoorMenA
import Derived.Test.YtgjakhpjmapelaaGreatDoorMenB
import Derived.Test.YtgjakhpjmapelaaGreatDoorMenC
import Derived.Test.YtgjakhpjmapelaaGreatDoorMenD
set_option linter.unusedVariables false
set_option linter.unusedSimpArgs false
namespace Go.Proofs.YtgjakhpjmapelaaGreatDoor
open Go Go.Ew Go.ChangeShapes Go.WideShapes Go.ChangeAt Go.RowKit
theorem un4:Tryz.prog.underlying 4=some (.bool):=by kernel_rfl
theorem cs5:Tryz.prog.cellsOf 5=1:=by kernel_rfl
theorem aju:Tryz.prog.cellsOf 37=1:=by kernel_rfl
theorem ajt:Tryz.prog.cellsOf 40=1:=by kernel_rfl
theorem cs3:Tryz.prog.cellsOf 3=1:=by kernel_rfl
theorem cs9:Tryz.prog.cellsOf 9=1:=by kernel_rfl
theorem cs4:Tryz.prog.cellsOf 4=1:=by kernel_rfl
theorem adO:Tryz.prog.cellsOf 43=3:=by kernel_rfl
theorem ajs:Tryz.prog.cellsOf 57=1:=by kernel_rfl
theorem Gt:ownKnob Tryz.prog.godebug=none:=by kernel_rfl
theorem FA:Kids Tryz.prog (·<Tryz.prog.types.size):=kids_rows (by kernel_rfl) (by kernel_rfl)
theorem FT:∀t e,t<Tryz.prog.types.size→Tryz.prog.underlying t=some (.slice e)→0<Tryz.prog.cellsOf e:=slices_full_of Tryz.prog (by kernel_rfl)
theorem FR:Tryz.prog.globalNamed "math/bits.deBruijn64tab"=some 0:=by kernel_rfl
theorem E8:(Tryz.prog.globals[0]?).map (·.type)=some 227:=by kernel_rfl
theorem FW (os:Os) (args:Array Value):laidMetH Tryz.prog [("math/bits.deBruijn64tab",Rows.laid_math_bits_deBruijn64tab),("unicode/utf8.acceptRanges",Rows.laid_unicode_utf8_acceptRanges),("unicode/utf8.first",Rows.laid_unicode_utf8_first)] ((World.laidAll Tryz.prog os [("math/bits.deBruijn64tab",Rows.laid_math_bits_deBruijn64tab),("unicode/utf8.acceptRanges",Rows.laid_unicode_utf8_acceptRanges),("unicode/utf8.first",Rows.laid_unicode_utf8_first)]).forCall (fun _ _=>0) ⟨#[],args,[]⟩).memory:=
  by rw[MakeChecks.laidMetH_plain _ _ _ (by kernel_rfl)];exact laidMet_laidAll _ (by kernel_rfl) (by kernel_rfl)
theorem Eb {P:Program} {n:String} {d:DataW Unit} {r:List (String×DataW Unit)} {W:World} (h:laidMet P ((n,d)::r) W):laidMet P [(n,d)] W:=by
  obtain⟨ps,⟨g,t,cs,f,p,q,h1,h2,h3,h4,h5,rfl⟩,hn,ho⟩:=h
  exact⟨_,⟨g,t,cs,f,p,[],h1,h2,h3,h4,J,J⟩,by rw[List.append_nil];exact(List.nodup_append.1 hn).1,fun b o hb=>ho b o (by rw[List.append_nil] at hb;exact List.mem_append_left _ hb)⟩
theorem Gl {W:World} (h:laidMetH Tryz.prog [("math/bits.deBruijn64tab",Rows.laid_math_bits_deBruijn64tab),("unicode/utf8.acceptRanges",Rows.laid_unicode_utf8_acceptRanges),("unicode/utf8.first",Rows.laid_unicode_utf8_first)] W):fU 0 W:=by
  rw[MakeChecks.laidMetH_plain _ _ _ (by kernel_rfl)] at h
  exact Nq (D:=Rows.laid_math_bits_deBruijn64tab) FR E8 W7 N1 cs5 J (by rw[MakeChecks.laidMetH_plain _ _ _ (by kernel_rfl)];exact Eb h)<|by rw[MakeChecks.laidMetH_plain _ _ _ (by kernel_rfl)]
theorem sx {H:Type}:∀l:List (DataW H),Rows.uptoBulkAll l=(l.map Rows.uptoBulk).sum
  |[]=>by simp[Rows.uptoBulkAll]
  |x::r=>by simp[Rows.uptoBulkAll,sx r]
theorem jI:Gb (fun (H:Type) (d:DataW H)=>Rows.uptoBulk d) where
  lit _ l:=by cases l<;>simp[Rows.uptoBulk]
  str _ bs:=by simp[Rows.uptoBulk]
  nil _:=by simp[Rows.uptoBulk]
  slice _ es sp:=by show (es.map Rows.uptoBulk).sum+1≤_;simp only[Rows.uptoBulk,sx];omega
  agg _ ps:=by show (ps.map Rows.uptoBulk).sum≤_;simp only[Rows.uptoBulk,sx];omega
theorem Ge (os:Os) {H:Type} (enc:TypeId×Value→H):∃(w:World) (tape:Tape) (i:Input),w.os=os∧(w.forCall tape i).Shaped Tryz.prog∧i.vars=[]∧Input.okWide Tryz.prog (w.forCall tape i) .any w.heap.size 8 i∧(Rows.OpenSpec.upto Rows.wholeSerialSpec).preRow enc Tryz.prog Tryz.f8 Rows.wholeSerialUptoRow.domain false Rows.wholeSerialUptoRow.laid (w.forCall tape i).memory i.args∧({}:Assume).holds Tryz.prog (lone (Frame.enter Tryz.prog 8 i.args .normal) [] (w.forCall tape i)):=
  have qB:Input.okWideB Tryz.prog ((World.laidAll Tryz.prog os [("math/bits.deBruijn64tab",Rows.laid_math_bits_deBruijn64tab),("unicode/utf8.acceptRanges",Rows.laid_unicode_utf8_acceptRanges),("unicode/utf8.first",Rows.laid_unicode_utf8_first)]).forCall (fun _ _=>0) ⟨#[],#[.slice none 0 0,.slice none 0 0],[]⟩) 8 ⟨#[],#[.slice none 0 0,.slice none 0 0],[]⟩=true:=by kernel_rfl
  ⟨World.laidAll Tryz.prog os [("math/bits.deBruijn64tab",Rows.laid_math_bits_deBruijn64tab),("unicode/utf8.acceptRanges",Rows.laid_unicode_utf8_acceptRanges),("unicode/utf8.first",Rows.laid_unicode_utf8_first)],fun _ _=>0,⟨#[],#[.slice none 0 0,.slice none 0 0],[]⟩,World.laidAll_os _ _ _,World.shaped_of_ZipB (by kernel_rfl) (by kernel_rfl),(Input.okWide_of_okWideB (base:=0) qB).1,(Input.okWide_of_okWideB qB).2,
    ⟨⟨(OpenSpec.pre_some (k:=Rows.uptoSmall) rfl _ _ _ _).2 ⟨[.nil,.nil],[],[],DataW.Whole_of_whole (x:=([.nil,.nil],[],[])) (fuel:=8) (by kernel_rfl),rfl,by kernel_rfl⟩,FW os _⟩,sizedMet_of_sizedB (fuel:=8) (by kernel_rfl)⟩,by
    simp only[Assume.holds]
    exact⟨by simp,by simp,fun _=>Modest.zero,by simp,by simp⟩⟩
set_option maxRecDepth 100000 in
set_option maxHeartbeats 400000 in
theorem CV (os:Os) (started:os.Started) (H:Type) (enc:TypeId×Value→H) (F:Stop.Interp):
    ReturnsInHanded {} Tryz.checked os 8 .any ((Rows.OpenSpec.upto Rows.wholeSerialSpec).preRow enc Tryz.prog Tryz.f8 Rows.wholeSerialUptoRow.domain false Rows.wholeSerialUptoRow.laid) (((Rows.OpenSpec.upto Rows.wholeSerialSpec).at F).post enc Tryz.prog Tryz.f8 false true false false):=by
  refine returnsInHanded_of_row (C:=Tryz.checked) (s:=Rows.OpenSpec.upto Rows.wholeSerialSpec) Gt started (by kernel_rfl) Tryz.func8 (Ge os enc) ?_
  intro W base args ds gs before afb hW _ cx _ hL _ _
  have hk:=cx Rows.uptoSmall J
  have VJ:∀(j:Nat) t v,Tryz.f8.params[j]? =some t→args[j]? =some v→Value.okWide Tryz.prog W .any base t v:=afb
  have hW':=hW
  obtain⟨p,q,cz,hV,GU,hfz,lU⟩:=hW
  have hA:DataW.TrodAll enc Tryz.prog W 0 (fun _=>true) true Tryz.f8.params.toList args.toList ds p:=cz
  rw[Tryz.params8] at hA VJ
  obtain⟨v0,vs0,d0,ds0,p0,q0,Qy,rfl,rfl,h0,tl0⟩:=trodAll_cons hA
  obtain⟨v1,vs1,d1,ds1,p1,q1,rfl,rfl,rfl,h1,tl1⟩:=trodAll_cons tl0
  obtain⟨rfl,rfl,rfl⟩:=trodAll_nil tl1
  obtain rfl:args=#[v0,v1]:=by cases args;simp_all
  obtain⟨rfl,rfl⟩:=trodVars_none hV
  obtain⟨h,gO,gM,rfl,mQ,al0⟩:=Gk (α:=(List (Bool×ByteArray×Int))) kZ (xF jI aju kZ (xF jI ajt lP (JV jI Tryz.underlying43 adO (by rw[adO];exact(CO rfl (NK jI cs4 un4) rfl (CO rfl (JW jI cs9 mK) rfl (NJ rfl (P9 jI cs3 BY) rfl))))))) (VJ 0 37 v0 rfl rfl) h0
  obtain⟨yt,zj,zc,rfl,Kl,ajC⟩:=Gk (α:=(BitVec 8)) AY (xF jI ajs AY (Sg jI cs5 N1)) (VJ 1 57 v1 rfl rfl) h1
  have hk':Rows.uptoBulkAll _≤1048576:=of_decide_eq_true hk
  simp only[Rows.uptoBulkAll,List.append_nil,List.nil_append,List.cons_append] at hk'
  refine(GK (M:=JM) (fun _ h=>h.elim) (Gl hL) mQ Kl (Nat.le_trans (YR (NW<|NW aaB) _)<|by dsimp only at *;omega)<|Nat.le_trans (show h.length≤Wt.wt h from Nat.le_succ_of_le (KE (fun l=>Nat.le_add_left 1 _) _))<|by dsimp only at *;omega).mono fun e W' ⟨v,he,hv,hg⟩=>?_
  subst he;subst hv
  exact⟨_,J,Sw FA FT (by rw[Tryz.params8];decide) rfl hW' hg rfl un4 rfl rfl rfl⟩
theorem Fo:Rows.wholeSerialUptoRow.holds Tryz.pinned (Rows.OpenSpec.upto Rows.wholeSerialSpec):=
  OpenClaim.holds_of_cond 8 Tryz.f8 rfl rfl rfl rfl rfl rfl rfl ⟨rfl,rfl,rfl,rfl,rfl⟩ rfl rfl rfl rfl rfl (by kernel_rfl) Tryz.func8 (by kernel_rfl)
    (of_decide_eq_true (by kernel_rfl)) (by unfold Func.isWrapper;first|(rw[if_pos (by decide +kernel)];kernel_rfl)|(rw[if_neg (by decide +kernel)];exact⟨rfl,rfl⟩))
    (fun os started H enc _ F=>by rw[OpenClaim.pre_eq_preRow];exact CV os started H enc F)
theorem wholeSerial_proved:Rows.WholeSerialUptoCardSaid:=
  Claim7.holds_tied_plain_at .later [] [.data,.data,.pinned] true (true,"a94570fda837b6158c9b214ce3c6f28cc7b03d543e8d1f90ec427e4c905bf393") false Fo (fun _ h=>by cases h) (by kernel_rfl) (fun _ h=>by cases h) wholeSerialUpto_row_tie rfl ⟨rfl,rfl⟩ (by kernel_rfl) rfl
    (fun f fn hf hfn=>by
      obtain rfl:f=8:=Option.some.inj ((show Tryz.prog.funcNamed "eyewitness/eyewitnesstop.WholeSerial"=some 8 by kernel_rfl).symm.trans hf) |>.symm
      obtain rfl:fn=Tryz.f8:=(Option.some.inj (Tryz.func8.symm.trans hfn)).symm
      exact⟨by kernel_rfl,fun j t ht=>by
        rw[Tryz.params8] at ht
        have hm:t∈[37,57]:=by simpa using Array.mem_of_getElem? ht
        have pf:([37,57].all fun u=>!Tryz.prog.wantsStandIn u)=true:=by kernel_rfl
        exact(show Tryz.prog.wantsStandIn t=false by simpa using List.all_eq_true.1 pf t hm)⟩)
    (by kernel_rfl)
#print axioms wholeSerial_proved
end Go.Proofs.YtgjakhpjmapelaaGreatDoor
