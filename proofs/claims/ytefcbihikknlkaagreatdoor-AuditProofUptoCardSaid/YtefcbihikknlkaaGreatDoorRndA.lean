/- Proved: eyewitnesslaw21.AuditProof answers true at every input of bulk at most 1048576, and each argument reads afterwards as it did; no condition but the statement's own. Printed by my own tool (wip/tool/close.py): the end of the row. -/
import Derived.Test.YtefcbihikknlkaaGreatDoorWwnB
import Derived.Test.YtefcbihikknlkaaGreatDoorOenE
import Derived.Test.YtefcbihikknlkaaGreatDoorRows
import Derived.Test.YtefcbihikknlkaaGreatDoorWwnD
import Derived.Test.YtefcbihikknlkaaGreatDoorTie
import Derived.Test.YtefcbihikknlkaaGreatDoorCards
import Derived.SevenTiedAt
import Derived.LaidMore
import Derived.Stop.Joined
import Derived.Deep.DeepHandedRow
import Derived.JoinedCond
import Derived.Test.YtefcbihikknlkaaGreatDoorWwnA
import Derived.Test.YtefcbihikknlkaaGreatDoorWwnC
import Derived.Test.YtefcbihikknlkaaGreatDoorOenA
import Derived.Test.YtefcbihikknlkaaGreatDoorOenB
import Derived.Test.YtefcbihikknlkaaGreatDoorOenC
import Derived.Test.YtefcbihikknlkaaGreatDoorOenD
set_option linter.unusedVariables false
set_option linter.unusedSimpArgs false
namespace Go.Proofs.YtefcbihikknlkaaGreatDoor
open Go Go.Ew Go.ChangeShapes Go.WideShapes Go.ChangeAt Go.RowKit
theorem cs5:Tryz.prog.cellsOf 5=1:=by kernel_rfl
theorem agy:Tryz.prog.cellsOf 22=1:=by kernel_rfl
theorem agw:Tryz.prog.cellsOf 45=1:=by kernel_rfl
theorem yZ:Tryz.prog.cellsOf 3=1:=by kernel_rfl
theorem cs9:Tryz.prog.cellsOf 9=1:=by kernel_rfl
theorem cs4:Tryz.prog.cellsOf 4=1:=by kernel_rfl
theorem abC:Tryz.prog.cellsOf 48=3:=by kernel_rfl
theorem agx:Tryz.prog.cellsOf 23=1:=by kernel_rfl
theorem abB:Tryz.prog.cellsOf 92=5:=by kernel_rfl
theorem abD:Tryz.prog.cellsOf 25=8:=by kernel_rfl
theorem E_:ownKnob Tryz.prog.godebug=none:=by kernel_rfl
theorem Ee:Kids Tryz.prog (·<Tryz.prog.types.size):=kids_rows (by kernel_rfl) (by kernel_rfl)
theorem Ex:∀t e,t<Tryz.prog.types.size→Tryz.prog.underlying t=some (.slice e)→0<Tryz.prog.cellsOf e:=slices_full_of Tryz.prog (by kernel_rfl)
theorem Ev:Tryz.prog.globalNamed "math/bits.deBruijn64tab"=some 0:=by kernel_rfl
theorem DQ:(Tryz.prog.globals[0]?).map (·.type)=some 152:=by kernel_rfl
theorem EF (os:Os) (args:Array Value):laidMetH Tryz.prog [("math/bits.deBruijn64tab",Rows.laid_math_bits_deBruijn64tab)] ((World.doorLaid Tryz.prog 400 os).forCall (fun _ _=>0) ⟨#[],args,[]⟩).memory:=
  laidMetH_of_parts3 (fuel:=8) (laidMet_of_run' 8 (by kernel_rfl) (by kernel_rfl)) (by kernel_rfl) (by kernel_rfl)
theorem EZ {W:World} (h:laidMetH Tryz.prog [("math/bits.deBruijn64tab",Rows.laid_math_bits_deBruijn64tab)] W):mi 0 W:=
  K9 Ev DQ UM UL cs5 rfl h (by rw[MakeChecks.laidMetH_plain _ _ _ (by kernel_rfl)])
theorem sj {H:Type}:∀l:List (DataW H),Rows.uptoBulkAll l=(l.map Rows.uptoBulk).sum
  |[]=>by simp[Rows.uptoBulkAll]
  |x::r=>by simp[Rows.uptoBulkAll,sj r]
theorem dQ:F7 (fun (H:Type) (d:DataW H)=>Rows.uptoBulk d) where
  lit _ l:=by cases l<;>simp[Rows.uptoBulk]
  str _ bs:=by simp[Rows.uptoBulk]
  nil _:=by simp[Rows.uptoBulk]
  slice _ es sp:=by show (es.map Rows.uptoBulk).sum+1≤_;simp only[Rows.uptoBulk,sj];omega
  agg _ ps:=by show (ps.map Rows.uptoBulk).sum≤_;simp only[Rows.uptoBulk,sj];omega
theorem EV (os:Os) {H:Type} (enc:TypeId×Value→H):∃(w:World) (tape:Tape) (i:Input),w.os=os∧(w.forCall tape i).Shaped Tryz.prog∧i.vars=[]∧Input.okWide Tryz.prog (w.forCall tape i) .any w.heap.size 4 i∧(Rows.OpenSpec.upto Rows.auditProofSpec).preRow enc Tryz.prog Tryz.f4 Rows.auditProofUptoRow.domain false Rows.auditProofUptoRow.laid (w.forCall tape i).memory i.args∧({}:Assume).holds Tryz.prog (lone (Frame.enter Tryz.prog 4 i.args .normal) [] (w.forCall tape i)):=
  have jl:Input.okWideB Tryz.prog ((World.doorLaid Tryz.prog 400 os).forCall (fun _ _=>0) ⟨#[],#[.slice none 0 0,.int .u8 0,.agg #[.int .i64 0,.int .i64 0,.int .i64 0,.int .i64 0,.int .i64 0,.slice none 0 0,.int .i64 0,.int .i64 0]],[]⟩) 4 ⟨#[],#[.slice none 0 0,.int .u8 0,.agg #[.int .i64 0,.int .i64 0,.int .i64 0,.int .i64 0,.int .i64 0,.slice none 0 0,.int .i64 0,.int .i64 0]],[]⟩=true:=by kernel_rfl
  ⟨World.doorLaid Tryz.prog 400 os,fun _ _=>0,⟨#[],#[.slice none 0 0,.int .u8 0,.agg #[.int .i64 0,.int .i64 0,.int .i64 0,.int .i64 0,.int .i64 0,.slice none 0 0,.int .i64 0,.int .i64 0]],[]⟩,rfl,World.shaped_of_RefB (by kernel_rfl) (by kernel_rfl),(Input.okWide_of_okWideB (base:=0) jl).1,(Input.okWide_of_okWideB jl).2,
    ⟨⟨(OpenSpec.pre_some (k:=Rows.uptoSmall) rfl _ _ _ _).2 ⟨[.nil,.lit (.int .u8 0),.agg [.lit (.int .i64 0),.lit (.int .i64 0),.lit (.int .i64 0),.lit (.int .i64 0),.lit (.int .i64 0),.nil,.lit (.int .i64 0),.lit (.int .i64 0)]],[],[],DataW.Whole_of_whole (x:=([.nil,.lit (.int .u8 0),.agg [.lit (.int .i64 0),.lit (.int .i64 0),.lit (.int .i64 0),.lit (.int .i64 0),.lit (.int .i64 0),.nil,.lit (.int .i64 0),.lit (.int .i64 0)]],[],[])) (fuel:=8) (by kernel_rfl),rfl,by kernel_rfl⟩,EF os _⟩,sizedMet_of_sizedB (fuel:=8) (by kernel_rfl)⟩,by
    simp only[Assume.holds]
    exact⟨by simp,by simp,fun _=>Modest.zero,by simp,by simp⟩⟩
set_option maxRecDepth 100000 in
set_option maxHeartbeats 400000 in
theorem Ci (os:Os) (started:os.Started) (H:Type) (enc:TypeId×Value→H) (F:Stop.Interp):
    ReturnsInHanded {} Tryz.checked os 4 .any ((Rows.OpenSpec.upto Rows.auditProofSpec).preRow enc Tryz.prog Tryz.f4 Rows.auditProofUptoRow.domain false Rows.auditProofUptoRow.laid) (((Rows.OpenSpec.upto Rows.auditProofSpec).at F).post enc Tryz.prog Tryz.f4 false true false false):=by
  refine returnsInHanded_of_row (C:=Tryz.checked) (s:=Rows.OpenSpec.upto Rows.auditProofSpec) E_ started (by kernel_rfl) Tryz.func4 (EV os enc) ?_
  intro W base args ds gs before acR hW _ cI _ hL _ _
  have hk:=cI Rows.uptoSmall J
  have Oj:∀(j:Nat) t v,Tryz.f4.params[j]? =some t→args[j]? =some v→Value.okWide Tryz.prog W .any base t v:=acR
  have hW':=hW
  obtain⟨p,q,cN,hV,xo,hfz,kN⟩:=hW
  have hA:DataW.TrodAll enc Tryz.prog W 0 (fun _=>true) true Tryz.f4.params.toList args.toList ds p:=cN
  rw[Tryz.params4] at hA Oj
  obtain⟨v0,vs0,d0,ds0,p0,q0,OE,rfl,rfl,h0,tl0⟩:=trodAll_cons hA
  obtain⟨v1,vs1,d1,ds1,p1,q1,rfl,rfl,rfl,h1,tl1⟩:=trodAll_cons tl0
  obtain⟨v2,vs2,d2,ds2,p2,q2,rfl,rfl,rfl,h2,tl2⟩:=trodAll_cons tl1
  obtain⟨rfl,rfl,rfl⟩:=trodAll_nil tl2
  obtain rfl:args=#[v0,v1,v2]:=by cases args;simp_all
  obtain⟨rfl,rfl⟩:=trodVars_none hV
  obtain⟨h,kr,ko,rfl,r7,aj2⟩:=Ni (α:=(List (Bool×ByteArray×Int))) Av (vN dQ agy Av (vN dQ agw xG (uE dQ Tryz.underlying48 abC (by rw[abC];exact(il rfl (Ln dQ cs4 Yi) rfl (il rfl (Hq dQ cs9 Ik) rfl (xK rfl (jA dQ yZ tP) rfl))))))) (Oj 0 22 v0 rfl rfl) h0
  obtain⟨Zh,rfl⟩:=Ym UL (Oj 1 5 v1 rfl rfl) h1
  have xR:0≤((Zh.toNat:Nat):Int)∧((Zh.toNat:Nat):Int)≤255:=by have:=Zh.isLt;omega
  obtain⟨wt,acW,ajP⟩:=K7 (α:=(Int×Int×Int×Int×Int×(List (Int×Int×Int×Int×Int))×Int×Int)) Tryz.underlying25 rfl (uE dQ Tryz.underlying25 abD (by rw[abD];exact(il rfl (jA dQ yZ tP) rfl (il rfl (jA dQ yZ tP) rfl (il rfl (jA dQ yZ tP) rfl (il rfl (jA dQ yZ tP) rfl (il rfl (jA dQ yZ tP) rfl (il rfl (vN dQ agx mY (uE dQ Tryz.underlying92 abB (by rw[abB];exact(il rfl (jA dQ yZ tP) rfl (il rfl (jA dQ yZ tP) rfl (il rfl (jA dQ yZ tP) rfl (il rfl (jA dQ yZ tP) rfl (xK rfl (jA dQ yZ tP) rfl)))))))) rfl (il rfl (jA dQ yZ tP) rfl (xK rfl (jA dQ yZ tP) rfl)))))))))) (Oj 2 25 v2 rfl rfl) h2
  obtain⟨_,⟨_,_,rfl,⟨rfl,cL⟩,⟨_,_,rfl,⟨rfl,eQ⟩,⟨_,_,rfl,⟨rfl,gh⟩,⟨_,_,rfl,⟨rfl,fQ⟩,⟨_,_,rfl,⟨rfl,gG⟩,⟨_,_,rfl,⟨v0,rfl,gl⟩,⟨_,_,rfl,⟨rfl,lk⟩,⟨rfl,lM⟩⟩⟩⟩⟩⟩⟩⟩,rfl⟩:=acW
  obtain⟨a0,c0,rfl,ae9⟩:=RS.explicit gl
  have hk':Rows.uptoBulkAll _≤1048576:=of_decide_eq_true hk
  simp only[Rows.uptoBulkAll,List.append_nil,List.nil_append,List.cons_append] at hk'
  refine(Fb (M:=CK) (fun _ h=>h.elim) (EZ hL) r7 xR cL eQ gh fQ gG ae9 lk lM<|Nat.le_trans (Wp (Lx<|Lx Yb) _)<|by dsimp only at *;omega).mono fun e W' ⟨v,he,hv,hg⟩=>?_
  subst he;subst hv
  exact⟨_,J,QL Ee Ex (by rw[Tryz.params4];decide) rfl hW' hg rfl Yi rfl rfl rfl⟩
theorem D2:Rows.auditProofUptoRow.holds Tryz.pinned (Rows.OpenSpec.upto Rows.auditProofSpec):=
  OpenClaim.holds_of_cond 4 Tryz.f4 rfl rfl rfl rfl rfl rfl rfl ⟨rfl,rfl,rfl,rfl,rfl⟩ rfl rfl rfl rfl rfl (by kernel_rfl) Tryz.func4 (by kernel_rfl)
    (of_decide_eq_true (by kernel_rfl)) (by unfold Func.isWrapper;first|(rw[if_pos (by decide +kernel)];kernel_rfl)|(rw[if_neg (by decide +kernel)];exact⟨rfl,rfl⟩))
    (fun os started H enc _ F=>by rw[OpenClaim.pre_eq_preRow];exact Ci os started H enc F)
theorem auditProof_proved:Rows.AuditProofUptoCardSaid:=
  Claim7.holds_tied_plain_at .later [] [.data] true (true,"2d7fbe8f2a76b2aef3b691dc8ed987f8566af991c88942a54f564e98bc92f3c3") false D2 (fun _ h=>by cases h) (by kernel_rfl) (fun _ h=>by cases h) auditProofUpto_row_tie rfl ⟨rfl,rfl⟩ (by kernel_rfl) rfl
    (fun f fn hf hfn=>by
      obtain rfl:f=4:=Option.some.inj ((show Tryz.prog.funcNamed "eyewitness/eyewitnesslaw21.AuditProof"=some 4 by kernel_rfl).symm.trans hf) |>.symm
      obtain rfl:fn=Tryz.f4:=(Option.some.inj (Tryz.func4.symm.trans hfn)).symm
      exact⟨by kernel_rfl,fun j t ht=>by
        rw[Tryz.params4] at ht
        have hm:t∈[22,5,25]:=by simpa using Array.mem_of_getElem? ht
        have iZ:([22,5,25].all fun u=>!Tryz.prog.wantsStandIn u)=true:=by kernel_rfl
        exact(show Tryz.prog.wantsStandIn t=false by simpa using List.all_eq_true.1 iZ t hm)⟩)
    (by kernel_rfl)
#print axioms auditProof_proved
end Go.Proofs.YtefcbihikknlkaaGreatDoor
