/- Proved: eyewitnesstop.WholeTurned answers true at every input of bulk at most 1048576, and each argument reads afterwards as it did; no condition but the statement's own. Printed by my own tool (wip/tool/close.py): the end of the row. -/
import Derived.Test.YtgjakhpjmapelaaGreatDoorVwnB
import Derived.Test.YtgjakhpjmapelaaGreatDoorNenE
import Derived.Test.YtgjakhpjmapelaaGreatDoorRows
import Derived.Test.YtgjakhpjmapelaaGreatDoorVwnD
import Derived.Test.YtgjakhpjmapelaaGreatDoorTie
import Derived.Test.YtgjakhpjmapelaaGreatDoorCards
import Derived.SevenTiedAt
import Derived.LaidMore
import Derived.Lay
import Derived.Stop.Joined
import Derived.Deep.DeepHandedRow
import Derived.JoinedCond
import Derived.Test.YtgjakhpjmapelaaGreatDoorVwnA
import Derived.Test.YtgjakhpjmapelaaGreatDoorVwnC
import Derived.Test.YtgjakhpjmapelaaGreatDoorNenA
import Derived.Test.YtgjakhpjmapelaaGreatDoorNenB
import Derived.Test.YtgjakhpjmapelaaGreatDoorNenC
import Derived.Test.YtgjakhpjmapelaaGreatDoorNenD
set_option linter.unusedVariables false
set_option linter.unusedSimpArgs false
namespace Go.Proofs.YtgjakhpjmapelaaGreatDoor
open Go Go.Ew Go.ChangeShapes Go.WideShapes Go.ChangeAt Go.RowKit
theorem cs5:Tryz.prog.cellsOf 5=1:=by kernel_rfl
theorem akf:Tryz.prog.cellsOf 37=1:=by kernel_rfl
theorem ake:Tryz.prog.cellsOf 40=1:=by kernel_rfl
theorem cs3:Tryz.prog.cellsOf 3=1:=by kernel_rfl
theorem cs9:Tryz.prog.cellsOf 9=1:=by kernel_rfl
theorem cs4:Tryz.prog.cellsOf 4=1:=by kernel_rfl
theorem aeM:Tryz.prog.cellsOf 43=3:=by kernel_rfl
theorem GK:ownKnob Tryz.prog.godebug=none:=by kernel_rfl
theorem FM:Kids Tryz.prog (·<Tryz.prog.types.size):=kids_rows (by kernel_rfl) (by kernel_rfl)
theorem F8:∀t e,t<Tryz.prog.types.size→Tryz.prog.underlying t=some (.slice e)→0<Tryz.prog.cellsOf e:=slices_full_of Tryz.prog (by kernel_rfl)
theorem F7:Tryz.prog.globalNamed "math/bits.deBruijn64tab"=some 0:=by kernel_rfl
theorem Fj:(Tryz.prog.globals[0]?).map (·.type)=some 227:=by kernel_rfl
theorem Ga (os:Os) (args:Array Value):laidMetH Tryz.prog [("math/bits.deBruijn64tab",Rows.laid_math_bits_deBruijn64tab),("unicode/utf8.acceptRanges",Rows.laid_unicode_utf8_acceptRanges),("unicode/utf8.first",Rows.laid_unicode_utf8_first)] ((World.laidAll Tryz.prog os [("math/bits.deBruijn64tab",Rows.laid_math_bits_deBruijn64tab),("unicode/utf8.acceptRanges",Rows.laid_unicode_utf8_acceptRanges),("unicode/utf8.first",Rows.laid_unicode_utf8_first)]).forCall (fun _ _=>0) ⟨#[],args,[]⟩).memory:=
  by rw[MakeChecks.laidMetH_plain _ _ _ (by kernel_rfl)];exact laidMet_laidAll _ (by kernel_rfl) (by kernel_rfl)
theorem Ef {P:Program} {n:String} {d:DataW Unit} {r:List (String×DataW Unit)} {W:World} (h:laidMet P ((n,d)::r) W):laidMet P [(n,d)] W:=by
  obtain⟨ps,⟨g,t,cs,f,p,q,h1,h2,h3,h4,h5,rfl⟩,hn,ho⟩:=h
  exact⟨_,⟨g,t,cs,f,p,[],h1,h2,h3,h4,J,J⟩,by rw[List.append_nil];exact(List.nodup_append.1 hn).1,fun b o hb=>ho b o (by rw[List.append_nil] at hb;exact List.mem_append_left _ hb)⟩
theorem Gz {W:World} (h:laidMetH Tryz.prog [("math/bits.deBruijn64tab",Rows.laid_math_bits_deBruijn64tab),("unicode/utf8.acceptRanges",Rows.laid_unicode_utf8_acceptRanges),("unicode/utf8.first",Rows.laid_unicode_utf8_first)] W):fS 0 W:=by
  rw[MakeChecks.laidMetH_plain _ _ _ (by kernel_rfl)] at h
  exact NP (D:=Rows.laid_math_bits_deBruijn64tab) F7 Fj XN Ei cs5 J (by rw[MakeChecks.laidMetH_plain _ _ _ (by kernel_rfl)];exact Ef h)<|by rw[MakeChecks.laidMetH_plain _ _ _ (by kernel_rfl)]
theorem sd {H:Type}:∀l:List (DataW H),Rows.uptoBulkAll l=(l.map Rows.uptoBulk).sum
  |[]=>by simp[Rows.uptoBulkAll]
  |x::r=>by simp[Rows.uptoBulkAll,sd r]
theorem lA:I3 (fun (H:Type) (d:DataW H)=>Rows.uptoBulk d) where
  lit _ l:=by cases l<;>simp[Rows.uptoBulk]
  str _ bs:=by simp[Rows.uptoBulk]
  nil _:=by simp[Rows.uptoBulk]
  slice _ es sp:=by show (es.map Rows.uptoBulk).sum+1≤_;simp only[Rows.uptoBulk,sd];omega
  agg _ ps:=by show (ps.map Rows.uptoBulk).sum≤_;simp only[Rows.uptoBulk,sd];omega
theorem Gt (os:Os) {H:Type} (enc:TypeId×Value→H):∃(w:World) (tape:Tape) (i:Input),w.os=os∧(w.forCall tape i).Shaped Tryz.prog∧i.vars=[]∧Input.okWide Tryz.prog (w.forCall tape i) .any w.heap.size 5 i∧(Rows.OpenSpec.upto Rows.wholeTurnedSpec).preRow enc Tryz.prog Tryz.f5 Rows.wholeTurnedUptoRow.domain false Rows.wholeTurnedUptoRow.laid (w.forCall tape i).memory i.args∧({}:Assume).holds Tryz.prog (lone (Frame.enter Tryz.prog 5 i.args .normal) [] (w.forCall tape i)):=
  have qq:Input.okWideB Tryz.prog ((World.laidAll Tryz.prog os [("math/bits.deBruijn64tab",Rows.laid_math_bits_deBruijn64tab),("unicode/utf8.acceptRanges",Rows.laid_unicode_utf8_acceptRanges),("unicode/utf8.first",Rows.laid_unicode_utf8_first)]).forCall (fun _ _=>0) ⟨#[],#[.slice none 0 0,.int .u8 0,.int .u8 0],[]⟩) 5 ⟨#[],#[.slice none 0 0,.int .u8 0,.int .u8 0],[]⟩=true:=by kernel_rfl
  ⟨World.laidAll Tryz.prog os [("math/bits.deBruijn64tab",Rows.laid_math_bits_deBruijn64tab),("unicode/utf8.acceptRanges",Rows.laid_unicode_utf8_acceptRanges),("unicode/utf8.first",Rows.laid_unicode_utf8_first)],fun _ _=>0,⟨#[],#[.slice none 0 0,.int .u8 0,.int .u8 0],[]⟩,World.laidAll_os _ _ _,World.shaped_of_ZipB (by kernel_rfl) (by kernel_rfl),(Input.okWide_of_okWideB (base:=0) qq).1,(Input.okWide_of_okWideB qq).2,
    ⟨⟨(OpenSpec.pre_some (k:=Rows.uptoSmall) rfl _ _ _ _).2 ⟨[.nil,.lit (.int .u8 0),.lit (.int .u8 0)],[],[],DataW.Whole_of_whole (x:=([.nil,.lit (.int .u8 0),.lit (.int .u8 0)],[],[])) (fuel:=8) (by kernel_rfl),rfl,by kernel_rfl⟩,Ga os _⟩,sizedMet_of_sizedB (fuel:=8) (by kernel_rfl)⟩,by
    simp only[Assume.holds]
    exact⟨by simp,by simp,fun _=>Modest.zero,by simp,by simp⟩⟩
set_option maxRecDepth 100000 in
set_option maxHeartbeats 400000 in
theorem CU (os:Os) (started:os.Started) (H:Type) (enc:TypeId×Value→H) (F:Stop.Interp):
    ReturnsInHanded {} Tryz.checked os 5 .any ((Rows.OpenSpec.upto Rows.wholeTurnedSpec).preRow enc Tryz.prog Tryz.f5 Rows.wholeTurnedUptoRow.domain false Rows.wholeTurnedUptoRow.laid) (((Rows.OpenSpec.upto Rows.wholeTurnedSpec).at F).post enc Tryz.prog Tryz.f5 false true false false):=by
  refine returnsInHanded_of_row (C:=Tryz.checked) (s:=Rows.OpenSpec.upto Rows.wholeTurnedSpec) GK started (by kernel_rfl) Tryz.func5 (Gt os enc) ?_
  intro W base args ds gs before afY hW _ cC _ hL _ _
  have hk:=cC Rows.uptoSmall J
  have QU:∀(j:Nat) t v,Tryz.f5.params[j]? =some t→args[j]? =some v→Value.okWide Tryz.prog W .any base t v:=afY
  have hW':=hW
  obtain⟨p,q,cw,hV,Hd,hfz,lS⟩:=hW
  have hA:DataW.TrodAll enc Tryz.prog W 0 (fun _=>true) true Tryz.f5.params.toList args.toList ds p:=cw
  rw[Tryz.params5] at hA QU
  obtain⟨v0,vs0,d0,ds0,p0,q0,Q8,rfl,rfl,h0,tl0⟩:=trodAll_cons hA
  obtain⟨v1,vs1,d1,ds1,p1,q1,rfl,rfl,rfl,h1,tl1⟩:=trodAll_cons tl0
  obtain⟨v2,lB,d2,ds2,p2,q2,rfl,rfl,rfl,h2,tl2⟩:=trodAll_cons tl1
  obtain⟨rfl,rfl,rfl⟩:=trodAll_nil tl2
  obtain rfl:args=#[v0,v1,v2]:=by cases args;simp_all
  obtain⟨rfl,rfl⟩:=trodVars_none hV
  obtain⟨h,gb,ga,rfl,l6,amO⟩:=Qg (α:=(List (Bool×ByteArray×Int))) od (CP lA akf od (CP lA ake mY (Kq lA Tryz.underlying43 aeM (by rw[aeM];exact(CO rfl (N7 lA cs4 un4) rfl (CO rfl (Kr lA cs9 lY) rfl (N6 rfl (QI lA cs3 zU) rfl))))))) (QU 0 37 v0 rfl rfl) h0
  obtain⟨Wd,rfl⟩:=R0 Ei (QU 1 5 v1 rfl rfl) h1
  have YL:0≤((Wd.toNat:Nat):Int)∧((Wd.toNat:Nat):Int)≤255:=by have:=Wd.isLt;omega
  obtain⟨Vj,rfl⟩:=R0 Ei (QU 2 5 v2 rfl rfl) h2
  have YK:0≤((Vj.toNat:Nat):Int)∧((Vj.toNat:Nat):Int)≤255:=by have:=Vj.isLt;omega
  have hk':Rows.uptoBulkAll _≤1048576:=of_decide_eq_true hk
  simp only[Rows.uptoBulkAll,List.append_nil,List.nil_append,List.cons_append] at hk'
  refine(G5 (M:=NB) (fun _ h=>h.elim) (Gz hL) l6 YL YK (Nat.le_trans (ZC (Oj<|Oj abm) _)<|by dsimp only at *;omega)<|Nat.le_trans (show h.length≤Wt.wt h from Nat.le_succ_of_le (K5 (fun l=>Nat.le_add_left 1 _) _))<|by dsimp only at *;omega).mono fun e W' ⟨v,he,hv,hg⟩=>?_
  subst he;subst hv
  exact⟨_,J,S7 FM F8 (by rw[Tryz.params5];decide) rfl hW' hg rfl un4 rfl rfl rfl⟩
theorem FB:Rows.wholeTurnedUptoRow.holds Tryz.pinned (Rows.OpenSpec.upto Rows.wholeTurnedSpec):=
  OpenClaim.holds_of_cond 5 Tryz.f5 rfl rfl rfl rfl rfl rfl rfl ⟨rfl,rfl,rfl,rfl,rfl⟩ rfl rfl rfl rfl rfl (by kernel_rfl) Tryz.func5 (by kernel_rfl)
    (of_decide_eq_true (by kernel_rfl)) (by unfold Func.isWrapper;first|(rw[if_pos (by decide +kernel)];kernel_rfl)|(rw[if_neg (by decide +kernel)];exact⟨rfl,rfl⟩))
    (fun os started H enc _ F=>by rw[OpenClaim.pre_eq_preRow];exact CU os started H enc F)
theorem wholeTurned_proved:Rows.WholeTurnedUptoCardSaid:=
  Claim7.holds_tied_plain_at .later [] [.data,.data,.pinned] true (true,"a94570fda837b6158c9b214ce3c6f28cc7b03d543e8d1f90ec427e4c905bf393") false FB (fun _ h=>by cases h) (by kernel_rfl) (fun _ h=>by cases h) wholeTurnedUpto_row_tie rfl ⟨rfl,rfl⟩ (by kernel_rfl) rfl
    (fun f fn hf hfn=>by
      obtain rfl:f=5:=Option.some.inj ((show Tryz.prog.funcNamed "eyewitness/eyewitnesstop.WholeTurned"=some 5 by kernel_rfl).symm.trans hf) |>.symm
      obtain rfl:fn=Tryz.f5:=(Option.some.inj (Tryz.func5.symm.trans hfn)).symm
      exact⟨by kernel_rfl,fun j t ht=>by
        rw[Tryz.params5] at ht
        have hm:t∈[37,5,5]:=by simpa using Array.mem_of_getElem? ht
        have oR:([37,5,5].all fun u=>!Tryz.prog.wantsStandIn u)=true:=by kernel_rfl
        exact(show Tryz.prog.wantsStandIn t=false by simpa using List.all_eq_true.1 oR t hm)⟩)
    (by kernel_rfl)
#print axioms wholeTurned_proved
end Go.Proofs.YtgjakhpjmapelaaGreatDoor
