/- PRINTED by my own tool (wip/tool/gen.py): contracts of Go functions of this seat, each with its proof. -/
import Derived.Test.YtgjakhpjmapelaaGreatDoorUwnB
import Derived.Test.YtgjakhpjmapelaaGreatDoorUwnD
import Derived.Test.YtgjakhpjmapelaaGreatDoorUwnC
import Derived.Test.YtgjakhpjmapelaaGreatDoorMenD
import Derived.Test.YtgjakhpjmapelaaGreatDoorMenB
import Derived.Test.YtgjakhpjmapelaaGreatDoorUwnA
import Derived.Test.YtgjakhpjmapelaaGreatDoorMenA
import Derived.Test.YtgjakhpjmapelaaGreatDoorMenC
set_option linter.unusedVariables false
set_option linter.unusedSimpArgs false
namespace Go.Proofs.YtgjakhpjmapelaaGreatDoor
open Go.Ew Go.RowKit
set_option maxRecDepth 100000
set_option maxHeartbeats 1600000
attribute [local irreducible] WL WC SO PW PX PZ WE Code.wp wpList sB cp
attribute [local irreducible] kl xQ jx fq ej AJ Dw KW words eb cX jM fH vS
attribute [local irreducible] kI uZ z8 tq z7 rF kH gq oZ pa pz mP tI qz gX iN
variable {M:bW} {w w_:aH}
variable {bN gM:Nat} {KM:TypeId} {ss:bf} {at_ bM er ch lv:Int} {r:List Go.Ew.Item} {gO:OA} {h:List (List (Bool×bf×Int))}
theorem tP:gR aI 66 3 3:=jU Tryz.underlying66
theorem xi:ef aI 23 1 false 8 (.int .i64 0):=⟨aS,aS⟩
theorem kr:gR aI 66 1 1:=jU Tryz.underlying66
theorem tQ:gR aI 66 0 0:=jU Tryz.underlying66
theorem VZ:cA aI 70:=cI Tryz.func70
theorem FQ:cA aI 45:=cI Tryz.func45
theorem Mr:cA aI 71:=cI Tryz.func71
theorem afU:cA aI 110:=cI Tryz.func110
theorem afT:cA aI 111:=cI Tryz.func111
theorem nr:gR aI 66 2 2:=jU Tryz.underlying66
theorem pI:cA aI 47:=cI Tryz.func47
theorem FM:cA aI 72:=cI Tryz.func72
theorem FL:cA aI 73:=cI Tryz.func73
theorem CA (hM:eO M w) (zH:ss.size≤maxLen) (lK:aJ at_) (eU:aJ bM) (nq:aJ er) (QA:0≤ch∧ch≤255) (h_c:w.heap[bN]? =some (.cells #[.string ss,I at_,I bM,I er] KM (0,0))∧¬M bN) (eQ:0≤at_∧at_≤(ss.size:Int)):Calls aI 70 #[.pointer (some ⟨bN,0,none⟩),.int .u8 ch] w (cp fun v w'=>v=.bool (cF ss at_ er ch)∧Ext w w'):=by
 refine dG 35 Tryz.func70 J J J hM fun f0 ha H=>?_
 have H0:=H.put (it:=ro bN #[.string ss,I at_,I bM,I er] KM) J<|by rw[bP];exact h_c
 have i0:f0 0=pV bN 0:=ha 0 bl
 have i1:f0 1=.int .u8 ch:=ha 1 bl
 have Bz:maxLen=9223372036854775807:=rfl
 refine az<|ak (v:=.bool false) J J<|aq<|sq<|zb J aS<|kq (fun _ _=>mv J i0 e1)<|kq (fun _ _=>nc J J e1)<|kq (fun _ _=>fa tP J J e1)<|kq (fun _ x_=>lr (H0.ext x_) 0 J xi J J J e1)<|kq (fun _ _=>eql J J J J e1)<|kq (fun _ _=>mv (v:=.bool (decide (er=0))) J J e1) ?_
 rcases bE (decide (er=0)) with b0|b0
 ·
  have p0:=dT b0
  refine qy J J J b0<|kq (fun _ _=>mv J i0 e1)<|qy J J J b0<|kq (fun _ _=>nc J J e1)<|qy J J J b0<|kq (fun _ _=>fa kr J J e1)<|qy J J J b0<|kq (fun _ x_=>lr (H0.ext x_) 0 J aT J J J e1)<|qy J J J b0<|kq (fun _ _=>mv J i0 e1)<|qy J J J b0<|kq (fun _ _=>nc J J e1)<|qy J J J b0<|kq (fun _ _=>fa tQ J J e1)<|qy J J J b0<|kq (fun _ x_=>lr (H0.ext x_) 0 J nD J J J e1)<|qy J J J b0<|kq (fun _ _=>wi J J mK e1)<|qy J J J b0<|kq (fun _ _=>lss J J J J e1)<|kq (fun _ _=>aP J J J J b0 J e1)<|kq (fun _ _=>mv (v:=.bool (decide (at_<(ss.size:Int)))) J J e1) ?_
  rcases bE (decide (at_<(ss.size:Int))) with b1|b1
  ·
   have p1:=dT b1
   refine qy J J J b1<|kq (fun _ _=>mv J i0 e1)<|qy J J J b1<|kq (fun _ _=>nc J J e1)<|qy J J J b1<|kq (fun _ _=>fa tQ J J e1)<|qy J J J b1<|kq (fun _ x_=>lr (H0.ext x_) 0 J nD J J J e1)<|qy J J J b1<|kq (fun _ _=>mv J i0 e1)<|qy J J J b1<|kq (fun _ _=>nc J J e1)<|qy J J J b1<|kq (fun _ _=>fa kr J J e1)<|qy J J J b1<|kq (fun _ x_=>lr (H0.ext x_) 0 J aT J J J e1)<|qy J J J b1<|kq (fun _ _=>Xz J J J J aj mK e1)<|qy J J J b1<|kq (fun _ _=>mv J i1 e1)<|qy J J J b1<|kq (fun _ _=>eql J J J J e1)<|kq (fun _ _=>aP J J J J b1 J e1)<|kq (fun _ _=>jO (v:=.bool (decide ((tf ss at_)=ch))) J J e1)<|zq ?_
   intro w0 bY
   have H1:=H0.ext bY
   refine nx<|rt<|r1 J J ?_
   exact⟨am_ Value.bool (by simp only[cF,b0,b1,BL]),H1.below⟩
  refine qn J J J b1<|qn J J J b1<|qn J J J b1<|qn J J J b1<|qn J J J b1<|qn J J J b1<|qn J J J b1<|qn J J J b1<|qn J J J b1<|qn J J J b1<|qn J J J b1<|kq (fun _ _=>dA J J J J b1 J e1)<|kq (fun _ _=>jO (v:=.bool false) J J e1)<|zq ?_
  intro w0 bY
  have H1:=H0.ext bY
  refine nx<|rt<|r1 J J ?_
  exact⟨am_ Value.bool (by simp only[cF,b0,b1,BL]),H1.below⟩
 refine qn J J J b0<|qn J J J b0<|qn J J J b0<|qn J J J b0<|qn J J J b0<|qn J J J b0<|qn J J J b0<|qn J J J b0<|qn J J J b0<|qn J J J b0<|kq (fun _ _=>dA J J J J b0 J e1)<|kq (fun _ _=>mv (v:=.bool false) J J e1)<|qn J J J J<|qn J J J J<|qn J J J J<|qn J J J J<|qn J J J J<|qn J J J J<|qn J J J J<|qn J J J J<|qn J J J J<|qn J J J J<|qn J J J J<|kq (fun _ _=>dA J J J J J J e1)<|kq (fun _ _=>jO (v:=.bool false) J J e1)<|zq ?_
 intro w0 bY
 have H1:=H0.ext bY
 refine nx<|rt<|r1 J J ?_
 exact⟨am_ Value.bool (by simp only[cF,b0,BL]),H1.below⟩
theorem qP (zH:ss.size≤maxLen) (lK:aJ at_) (eU:aJ bM) (nq:aJ er) (QA:0≤ch∧ch≤255) (eQ:0≤at_∧at_≤(ss.size:Int)) (H:HI M w w_ ([box bN #[.string ss,I at_,I bM,I er] 66]++r)):Calls aI 45 #[pV bN 0,.int .u8 ch] w_ (cp fun v w'=>v=.bool (cF ss at_ er ch)∧HI M w w' ([box bN #[.string ss,I (eS ss at_ er ch),I bM,I er] 66]++r)):=by
 refine enter 16 Tryz.func45 J J J fun f0 ha=>?_
 have i0:f0 0=pV bN 0:=ha 0 bl
 have i1:f0 1=.int .u8 ch:=ha 1 bl
 have Bz:maxLen=9223372036854775807:=rfl
 refine az<|ak (v:=.bool false) J J<|aq<|sq<|az<|ai J i0<|ai J i1<|k ?_
 have bS:=CA (ss:=ss) (at_:=at_) (bM:=bM) (er:=er) (ch:=ch) (w:=w_) (M:=fun _=>False) (fun _ h_=>h_.elim) bo lK eU nq (by exact QA) ⟨H.at_ 0 rfl,fun h_=>h_⟩<|by exact eQ
 refine ca VZ J (ec J<|ec J e0) bS ?_
 rintro _ w0 ⟨rfl,bY⟩
 have H0:=H.ext bY
 refine k<|jY J J<|z<|nx<|cd (b:=!(cF ss at_ er ch)) J J (fun b0=>?_)<|fun b0=>?_
 ·
  refine az<|ak (v:=.bool false) J J<|aq<|rt<|aK<|r1 J J ?_
  have e0:(false:Bool)=cF ss at_ er ch:=by simp only[(gl b0),BL]
  have e1:(at_:Int)=eS ss at_ er ch:=by simp only[eS,(gl b0),BL]
  try rw[←e0]
  try rw[←e1]
  refine⟨?_,?_⟩
  · first|rfl|simp only[e0,e1]|(simp only[am'])
  · first|exact H0|simpa +zetaDelta only[e0,e1,am'] using H0
 refine sk<|cO<|ai J i0<|k<|nc J J<|aQ kr J J<|bq H0 0 J aT J J J<|k<|add J J J J (by have h_:=HM (fA ‹(!cF ss at_ er ch)=false›);unfold aJ;omega)<|k<|nc J J<|aQ kr J J<|k<|bw H0 0 J aT J J J J J J J ?_
 intro w1 (H1:HI M w w1 ([box bN #[.string ss,I (at_+1),I bM,I er] 66]++r))
 refine bz<|ak (v:=.bool true) J J<|aq<|rt<|r1 J J ?_
 have e0:(true:Bool)=cF ss at_ er ch:=by simp only[(fA b0),BL]
 have e1:(at_+1:Int)=eS ss at_ er ch:=by simp only[eS,(fA b0),BL]
 try rw[←e0]
 try rw[←e1]
 refine⟨?_,?_⟩
 · first|rfl|simp only[e0,e1]|(simp only[am'])
 · first|exact H1|simpa +zetaDelta only[e0,e1,am'] using H1
theorem u3 {ex:Int} (zH:ss.size≤maxLen) (lK:aJ at_) (eU:aJ bM) (nq:aJ er) (amy:aJ ex) (H:HI M w w_ ([box bN #[.string ss,I at_,I bM,I er] 66]++r)):Calls aI 71 #[pV bN 0,I ex] w_ (cp fun v w'=>v=.tuple #[]∧HI M w w' ([box bN #[.string ss,I at_,I bM,I (cq er ex)] 66]++r)):=by
 refine enter 13 Tryz.func71 J J J fun f0 ha=>?_
 have i0:f0 0=pV bN 0:=ha 0 bl
 have i1:f0 1=I ex:=ha 1 bl
 refine az<|ai J i0<|k<|nc J J<|aQ tP J J<|bq H 0 J xi J J J<|k<|eql J J J J<|z<|nx<|cd (b:=decide (er=0)) J J (fun b0=>?_)<|fun b0=>?_
 ·
  refine rg<|ai J i0<|ai J i1<|k<|nc J J<|aQ tP J J<|k<|bw H 0 J xi J J J J J J J ?_
  intro w0 (H0:HI M w w0 ([box bN #[.string ss,I at_,I bM,I ex] 66]++r))
  refine z<|Em J ?_
  have e0:(ex:Int)=cq er ex:=by simp only[cq,b0,BL]
  try rw[←e0]
  refine⟨?_,?_⟩
  · first|rfl|simp only[e0]|(simp only[am'])
  · first|exact H0|simpa +zetaDelta only[e0,am'] using H0
 refine sk<|Em J ?_
 have e0:(er:Int)=cq er ex:=by simp only[cq,b0,BL]
 try rw[←e0]
 refine⟨?_,?_⟩
 · first|rfl|simp only[e0]|(simp only[am'])
 · first|exact H|simpa +zetaDelta only[e0,am'] using H
theorem iu (zH:ss.size≤maxLen) (lK:aJ at_) (eU:aJ bM) (nq:aJ er) (QA:0≤ch∧ch≤255) (eQ:0≤at_∧at_≤(ss.size:Int)) (nn:0≤er∧er≤3) (H:HI M w w_ ([box bN #[.string ss,I at_,I bM,I er] 66]++r)):Calls aI 47 #[pV bN 0,.int .u8 ch] w_ (cp fun v w'=>∃(kF:Int) (l9:Int),v=.tuple #[]∧HI M w w' ([box bN #[.string ss,I kF,I bM,I l9] 66]++r)∧Bm ss at_ er ch=(kF,l9)∧(0≤kF∧at_≤kF∧kF≤(ss.size:Int))∧(0≤l9∧l9≤3)∧(l9=0→er=0∧kF=at_+1)):=by
 refine enter 10 Tryz.func47 J J J fun f0 ha=>?_
 have i0:f0 0=pV bN 0:=ha 0 bl
 have i1:f0 1=.int .u8 ch:=ha 1 bl
 have Bz:maxLen=9223372036854775807:=rfl
 have ah4:=ct (b:=ch) (e:=er) eQ
 refine az<|ai J i0<|ai J i1<|k ?_
 let J0:=box bN #[.string ss,I at_,I bM,I er] 66
 have H0:HI M w w_ ([J0]++([]++r)):=HI.aP (l:=[J0]) (l':=[J0]) (t:=r) H [0] au J J
 have bS:=qP (bN:=bN) (ss:=ss) (at_:=at_) (bM:=bM) (er:=er) (ch:=ch) (w:=w) (w_:=w_) (r:=([]++r)) (M:=M) bo lK eU nq (by exact QA) (by exact eQ) H0
 refine ca FQ J (ec J<|ec J e0) bS ?_
 rintro _ w0 ⟨rfl,H1⟩
 let J1:=box bN #[.string ss,I (eS ss at_ er ch),I bM,I er] 66
 have H2:HI M w w0 ([J1]++r):=H1
 refine k<|jY J J<|z<|nx<|cd (b:=!(cF ss at_ er ch)) J J (fun b0=>?_)<|fun b0=>?_
 ·
  refine rg<|ai J i0<|k ?_
  have H3:HI M w w0 ([J1]++([]++r)):=HI.aP (l:=[J1]) (l':=[J1]) (t:=r) H2 [0] au J J
  have cU:=u3 (bN:=bN) (ss:=ss) (at_:=(eS ss at_ er ch)) (bM:=bM) (er:=er) (ex:=2) (w:=w) (w_:=w0) (r:=([]++r)) (M:=M) bo aR eU nq aR H3
  refine ca Mr J (ec J<|ec J e0) cU ?_
  rintro _ w1 ⟨rfl,H4⟩
  have H5:HI M w w1 ([box bN #[.string ss,I (eS ss at_ er ch),I bM,I (cq er 2)] 66]++r):=H4
  refine z<|Em J ?_
  have e0:(eS ss at_ er ch:Int)=(eS ss at_ er ch):=rfl
  have e1:(cq er 2:Int)=(cq er 2):=rfl
  try rw[←e0]
  try rw[←e1]
  refine⟨(eS ss at_ er ch),(cq er 2),?_,?_,(by simp only[Bm,eS,(gl b0),BL]),aj,(by exact lB (x:=2) nn au),(by exact fun h_=>(O4 h_).elim)⟩
  · first|rfl|simp only[e0,e1]|(simp only[am'])
  · first|exact H5|simpa +zetaDelta only[e0,e1,am'] using H5
 refine sk<|Em J ?_
 have e0:(eS ss at_ er ch:Int)=(eS ss at_ er ch):=rfl
 try rw[←e0]
 refine⟨(eS ss at_ er ch),er,?_,?_,(by simp only[Bm,eS,(fA b0),BL]),aj,(by exact nn),(by exact Vq ‹(!cF ss at_ er ch)=false›)⟩
 · first|rfl|simp only[e0]|(simp only[am'])
 · first|exact H2|simpa +zetaDelta only[e0,am'] using H2
theorem qQ (zH:ss.size≤maxLen) (lK:aJ at_) (eU:aJ bM) (nq:aJ er) (eQ:0≤at_∧at_≤(ss.size:Int)) (nn:0≤er∧er≤3) (H:HI M w w_ ([box bN #[.string ss,I at_,I bM,I er] 66]++r)):Calls aI 72 #[pV bN 0] w_ (cp fun v w'=>∃(kF:Int) (l9:Int) (nm:bf),v=.string nm∧HI M w w' ([box bN #[.string ss,I kF,I bM,I l9] 66]++r)∧Ke ss at_ er=(kF,l9,nm)∧(0≤kF∧at_≤kF∧kF≤(ss.size:Int))∧(0≤l9∧l9≤3)∧nm.size≤8∧(l9=0→er=0∧at_<kF)):=by
 refine enter 83 Tryz.func72 J J J fun f0 ha=>?_
 have i0:f0 0=pV bN 0:=ha 0 bl
 have Bz:maxLen=9223372036854775807:=rfl
 refine az<|ak (v:=.string ⟨#[]⟩) J J<|bz<|ai J i0<|k<|nc J J<|aQ kr J J<|bq H 0 J aT J J J<|ak (v:=I at_) J J<|z<|nx<|cut (fun f w'=>∃(tA:Int),f 0=pV bN 0∧f 3=I at_∧HI M w w' ([box bN #[.string ss,I tA,I bM,I er] 66]++r)∧(zN ss at_ er 0=tA)∧(at_≤tA∧tA≤at_+8∧tA≤(ss.size:Int))) ?_ ?_
 ·
  refine bk<|lp (fun m f w'=>∃(j_:Nat) (p_:Int),m=8-j_∧f 0=pV bN 0∧f 3=I at_∧HI M w w' ([box bN #[.string ss,I p_,I bM,I er] 66]++r)∧(p_=at_+(j_:Int))∧(j_≤8∧p_≤(ss.size:Int))∧(zN ss at_ er 0=zN ss at_ er j_)) _ ⟨0,at_,J,i0,J,H,aj,aj,(by rfl)⟩ ?_
  rintro _ f1 w1 ⟨j_,p_,rfl,s0,s1,H0,Ja,pA,hs⟩
  refine sq<|sq<|zb J aS<|kq (fun _ _=>mv J s0 e1)<|kq (fun _ _=>nc J J e1)<|kq (fun _ _=>fa tP J J e1)<|kq (fun _ x_=>lx (H0.ext x_) 0 J xi J J J e1)<|kq (fun _ _=>eql J J J J e1)<|kq (fun _ _=>mv (v:=.bool (decide (er=0))) J J e1) ?_
  rcases bE (decide (er=0)) with b0|b0
  ·
   have p0:=dT b0
   refine qy J J J b0<|kq (fun _ _=>mv J s0 e1)<|qy J J J b0<|kq (fun _ _=>nc J J e1)<|qy J J J b0<|kq (fun _ _=>fa kr J J e1)<|qy J J J b0<|kq (fun _ x_=>lx (H0.ext x_) 0 J aT J J J e1)<|qy J J J b0<|kq (fun _ _=>mv J s1 e1)<|qy J J J b0<|kq (fun _ _=>sub J J J J aR e1)<|qy J J J b0<|kq (fun _ _=>lss J J J J e1)<|kq (fun _ _=>aP J J J J b0 J e1)<|kq (fun _ _=>mv (v:=.bool (decide ((p_-at_)<8))) J J e1) ?_
   rcases bE (decide ((p_-at_)<8)) with b1|b1
   ·
    have p1:=dT b1
    refine qy J J J b1<|kq (fun _ _=>mv J s0 e1)<|qy J J J b1<|kq (fun _ _=>nc J J e1)<|qy J J J b1<|kq (fun _ _=>fa kr J J e1)<|qy J J J b1<|kq (fun _ x_=>lx (H0.ext x_) 0 J aT J J J e1)<|qy J J J b1<|kq (fun _ _=>mv J s0 e1)<|qy J J J b1<|kq (fun _ _=>nc J J e1)<|qy J J J b1<|kq (fun _ _=>fa tQ J J e1)<|qy J J J b1<|kq (fun _ x_=>lx (H0.ext x_) 0 J nD J J J e1)<|qy J J J b1<|kq (fun _ _=>wi J J mK e1)<|qy J J J b1<|kq (fun _ _=>lss J J J J e1)<|kq (fun _ _=>aP J J J J b1 J e1)<|kq (fun _ _=>mv (v:=.bool (decide (p_<(ss.size:Int)))) J J e1) ?_
    rcases bE (decide (p_<(ss.size:Int))) with b2|b2
    ·
     have p2:=dT b2
     refine qy J J J b2<|kq (fun _ _=>mv J s0 e1)<|qy J J J b2<|kq (fun _ _=>nc J J e1)<|qy J J J b2<|kq (fun _ _=>fa tQ J J e1)<|qy J J J b2<|kq (fun _ x_=>lx (H0.ext x_) 0 J nD J J J e1)<|qy J J J b2<|kq (fun _ _=>mv J s0 e1)<|qy J J J b2<|kq (fun _ _=>nc J J e1)<|qy J J J b2<|kq (fun _ _=>fa kr J J e1)<|qy J J J b2<|kq (fun _ x_=>lx (H0.ext x_) 0 J aT J J J e1)<|qy J J J b2<|kq (fun _ _=>Xz J J J J aj mK e1)<|qy J J J b2<|kq (fun _ _=>geq J J J J e1)<|kq (fun _ _=>aP J J J J b2 J e1)<|kq (fun _ _=>mv (v:=.bool (decide (97≤(tf ss p_)))) J J e1) ?_
     rcases bE (decide (97≤(tf ss p_))) with b3|b3
     ·
      have p3:=dT b3
      refine qy J J J b3<|kq (fun _ _=>mv J s0 e1)<|qy J J J b3<|kq (fun _ _=>nc J J e1)<|qy J J J b3<|kq (fun _ _=>fa tQ J J e1)<|qy J J J b3<|kq (fun _ x_=>lx (H0.ext x_) 0 J nD J J J e1)<|qy J J J b3<|kq (fun _ _=>mv J s0 e1)<|qy J J J b3<|kq (fun _ _=>nc J J e1)<|qy J J J b3<|kq (fun _ _=>fa kr J J e1)<|qy J J J b3<|kq (fun _ x_=>lx (H0.ext x_) 0 J aT J J J e1)<|qy J J J b3<|kq (fun _ _=>Xz J J J J aj mK e1)<|qy J J J b3<|kq (fun _ _=>leq J J J J e1)<|kq (fun _ _=>aP J J J J b3 J e1)<|zq ?_
      intro w2 bY
      have H1:=H0.ext bY
      refine nx<|cd (b:=decide ((tf ss p_)≤122)) J J (fun b4=>?_)<|fun b4=>?_
      ·
       have p4:=dT b4
       refine sk<|nx<|bk<|rg<|ai J s0<|k<|nc J J<|aQ kr J J<|bq H1 0 J aT J J J<|k<|add J J J J aR<|k<|nc J J<|aQ kr J J<|k<|bw H1 0 J aT J J J J J J J ?_
       intro w3 (H2:HI M w w3 ([box bN #[.string ss,I (p_+1),I bM,I er] 66]++r))
       refine z<|aG<|bF _ ?_ ⟨(j_+1),(p_+1),J,s0,s1,H2,aj,aj,(by exact hs.trans (YQ Ja b0 b1 b2 b3 b4))⟩
       omega
      refine ex<|aV<|bc<|bg<|ya ⟨p_,s0,s1,H1,(by exact hs.trans (zW Ja<|by simp only[b0,b1,b2,b3,b4,BL])),aj⟩
     refine qn J J J b3<|qn J J J b3<|qn J J J b3<|qn J J J b3<|qn J J J b3<|qn J J J b3<|qn J J J b3<|qn J J J b3<|qn J J J b3<|qn J J J b3<|kq (fun _ _=>dA J J J J b3 J e1)<|zq ?_
     intro w2 bY
     have H1:=H0.ext bY
     refine nx<|pB J J J<|ex<|aV<|bc<|bg<|ya ⟨p_,s0,s1,H1,(by exact hs.trans (zW Ja<|by simp only[b0,b1,b2,b3,BL])),aj⟩
    refine qn J J J b2<|qn J J J b2<|qn J J J b2<|qn J J J b2<|qn J J J b2<|qn J J J b2<|qn J J J b2<|qn J J J b2<|qn J J J b2<|qn J J J b2<|kq (fun _ _=>dA J J J J b2 J e1)<|kq (fun _ _=>mv (v:=.bool false) J J e1)<|qn J J J J<|qn J J J J<|qn J J J J<|qn J J J J<|qn J J J J<|qn J J J J<|qn J J J J<|qn J J J J<|qn J J J J<|qn J J J J<|kq (fun _ _=>dA J J J J J J e1)<|zq ?_
    intro w2 bY
    have H1:=H0.ext bY
    refine nx<|pB J J J<|ex<|aV<|bc<|bg<|ya ⟨p_,s0,s1,H1,(by exact hs.trans (zW Ja<|by simp only[b0,b1,b2,BL])),aj⟩
   refine qn J J J b1<|qn J J J b1<|qn J J J b1<|qn J J J b1<|qn J J J b1<|qn J J J b1<|qn J J J b1<|qn J J J b1<|qn J J J b1<|qn J J J b1<|kq (fun _ _=>dA J J J J b1 J e1)<|kq (fun _ _=>mv (v:=.bool false) J J e1)<|qn J J J J<|qn J J J J<|qn J J J J<|qn J J J J<|qn J J J J<|qn J J J J<|qn J J J J<|qn J J J J<|qn J J J J<|qn J J J J<|kq (fun _ _=>dA J J J J J J e1)<|kq (fun _ _=>mv (v:=.bool false) J J e1)<|qn J J J J<|qn J J J J<|qn J J J J<|qn J J J J<|qn J J J J<|qn J J J J<|qn J J J J<|qn J J J J<|qn J J J J<|qn J J J J<|kq (fun _ _=>dA J J J J J J e1)<|zq ?_
   intro w2 bY
   have H1:=H0.ext bY
   refine nx<|pB J J J<|ex<|aV<|bc<|bg<|ya ⟨p_,s0,s1,H1,(by exact hs.trans (zW Ja<|by simp only[b0,b1,BL])),aj⟩
  refine qn J J J b0<|qn J J J b0<|qn J J J b0<|qn J J J b0<|qn J J J b0<|qn J J J b0<|qn J J J b0<|kq (fun _ _=>dA J J J J b0 J e1)<|kq (fun _ _=>mv (v:=.bool false) J J e1)<|qn J J J J<|qn J J J J<|qn J J J J<|qn J J J J<|qn J J J J<|qn J J J J<|qn J J J J<|qn J J J J<|qn J J J J<|qn J J J J<|kq (fun _ _=>dA J J J J J J e1)<|kq (fun _ _=>mv (v:=.bool false) J J e1)<|qn J J J J<|qn J J J J<|qn J J J J<|qn J J J J<|qn J J J J<|qn J J J J<|qn J J J J<|qn J J J J<|qn J J J J<|qn J J J J<|kq (fun _ _=>dA J J J J J J e1)<|kq (fun _ _=>mv (v:=.bool false) J J e1)<|qn J J J J<|qn J J J J<|qn J J J J<|qn J J J J<|qn J J J J<|qn J J J J<|qn J J J J<|qn J J J J<|qn J J J J<|qn J J J J<|kq (fun _ _=>dA J J J J J J e1)<|zq ?_
  intro w2 bY
  have H1:=H0.ext bY
  refine nx<|pB J J J<|ex<|aV<|bc<|bg<|ya ⟨p_,s0,s1,H1,(by exact hs.trans (zW Ja<|by simp only[b0,BL])),aj⟩
 ·
  rintro f0 w0 ⟨tA,s2,s3,H3,B3,amg⟩
  refine sq<|az<|ai J s2<|k<|nc J J<|aQ kr J J<|bq H3 0 J aT J J J<|ai J s3<|k<|eql J J J J<|z<|nx<|cd (b:=decide (tA=at_)) J J (fun b1=>?_)<|fun b1=>?_
  ·
   refine rg<|ai J s2<|k ?_
   let J0:=box bN #[.string ss,I tA,I bM,I er] 66
   have H4:HI M w w0 ([J0]++([]++r)):=HI.aP (l:=[J0]) (l':=[J0]) (t:=r) H3 [0] au J J
   have bS:=u3 (bN:=bN) (ss:=ss) (at_:=tA) (bM:=bM) (er:=er) (ex:=2) (w:=w) (w_:=w0) (r:=([]++r)) (M:=M) bo aR eU nq aR H4
   refine ca Mr J (ec J<|ec J e0) bS ?_
   rintro _ w3 ⟨rfl,H5⟩
   refine aq<|sq<|zb J aS<|kq (fun _ _=>mv J s2 e1)<|kq (fun _ _=>nc J J e1)<|kq (fun _ _=>fa tQ J J e1)<|kq (fun _ x_=>lx (H5.ext x_) 0 J nD J J J e1)<|kq (fun _ _=>mv J s3 e1)<|kq (fun _ _=>mv J s2 e1)<|kq (fun _ _=>nc J J e1)<|kq (fun _ _=>fa kr J J e1)<|kq (fun _ x_=>lx (H5.ext x_) 0 J aT J J J e1)<|kq (fun _ _=>PE J J J J J J aj mK e1)<|kq (fun _ _=>jO (v:=.string (ss.extract at_.toNat tA.toNat)) J J e1)<|zq ?_
   intro w4 cT
   have H7:=H5.ext cT
   refine nx<|rt<|r1 J J ?_
   have e0:(ss.extract at_.toNat tA.toNat:bf)=(ss.extract at_.toNat tA.toNat):=rfl
   have e1:(cq er 2:Int)=(cq er 2):=rfl
   try rw[←e0]
   try rw[←e1]
   refine⟨tA,(cq er 2),(ss.extract at_.toNat tA.toNat),?_,?_,(by simp only[Ke,B3,b1,BL]),aj,(by exact lB (x:=2) nn au),(by rw[FU aj aj];omega),(by exact fun h_=>(O4 h_).elim)⟩
   · first|rfl|simp only[e0,e1]|(simp only[am'])
   · first|exact H7|simpa +zetaDelta only[e0,e1,am'] using H7
  have p1:=dF b1
  refine sk<|nx<|sq<|zb J aS<|kq (fun _ _=>mv J s2 e1)<|kq (fun _ _=>nc J J e1)<|kq (fun _ _=>fa tQ J J e1)<|kq (fun _ x_=>lx (H3.ext x_) 0 J nD J J J e1)<|kq (fun _ _=>mv J s3 e1)<|kq (fun _ _=>mv J s2 e1)<|kq (fun _ _=>nc J J e1)<|kq (fun _ _=>fa kr J J e1)<|kq (fun _ x_=>lx (H3.ext x_) 0 J aT J J J e1)<|kq (fun _ _=>PE J J J J J J aj mK e1)<|kq (fun _ _=>jO (v:=.string (ss.extract at_.toNat tA.toNat)) J J e1)<|zq ?_
  intro w3 cT
  have H4:=H3.ext cT
  refine nx<|rt<|r1 J J ?_
  have e0:(ss.extract at_.toNat tA.toNat:bf)=(ss.extract at_.toNat tA.toNat):=rfl
  try rw[←e0]
  refine⟨tA,er,(ss.extract at_.toNat tA.toNat),?_,?_,(by simp only[Ke,B3,b1,BL]),aj,(by exact nn),(by rw[FU aj aj];omega),(by exact fun h_=>⟨h_,by omega⟩)⟩
  · first|rfl|simp only[e0]|(simp only[am'])
  · first|exact H4|simpa +zetaDelta only[e0,am'] using H4
theorem oA (zH:ss.size≤maxLen) (lK:aJ at_) (eU:aJ bM) (nq:aJ er) (eQ:0≤at_∧at_≤(ss.size:Int)) (nn:0≤er∧er≤3) (H:HI M w w_ ([box bN #[.string ss,I at_,I bM,I er] 66]++r)):Calls aI 73 #[pV bN 0] w_ (cp fun v w'=>∃(kF:Int) (l9:Int) (vl:Int),v=I vl∧HI M w w' ([box bN #[.string ss,I kF,I bM,I l9] 66]++r)∧Ly ss at_ er=(kF,l9,vl)∧(0≤kF∧at_≤kF∧kF≤(ss.size:Int))∧(0≤l9∧l9≤3)∧aJ vl∧(l9=0→er=0)):=by
 refine enter 49 Tryz.func73 J J J fun f0 ha=>?_
 have i0:f0 0=pV bN 0:=ha 0 bl
 have Bz:maxLen=9223372036854775807:=rfl
 have HX:=UC eQ
 refine az<|ak (v:=I 0) J J<|aq<|sq<|az<|ai J i0<|k<|nc J J<|aQ tP J J<|bq H 0 J xi J J J<|k<|neq J J J J<|z<|nx<|cd (b:=!decide (er=0)) J J (fun b0=>?_)<|fun b0=>?_
 ·
  have p0:=dF<|gl b0
  refine az<|ak (v:=I 0) J J<|aq<|rt<|aK<|r1 J J ?_
  refine⟨at_,er,0,?_,?_,(by simp only[Ly,(gl b0),BL]),aj,(by exact nn),(by unfold aJ;decide),(by exact id)⟩
  · first|rfl|simp only[am']
  · first|exact H|simpa +zetaDelta only[am'] using H
 have p0:=dT<|fA b0
 refine sk<|nx<|sq<|zb J aS<|kq (fun _ _=>mv J i0 e1)<|kq (fun _ _=>nc J J e1)<|kq (fun _ _=>fa kr J J e1)<|kq (fun _ x_=>lx (H.ext x_) 0 J aT J J J e1)<|kq (fun _ _=>mv J i0 e1)<|kq (fun _ _=>nc J J e1)<|kq (fun _ _=>fa tQ J J e1)<|kq (fun _ x_=>lx (H.ext x_) 0 J nD J J J e1)<|kq (fun _ _=>mv J i0 e1)<|kq (fun _ _=>nc J J e1)<|kq (fun _ _=>fa kr J J e1)<|kq (fun _ x_=>lx (H.ext x_) 0 J aT J J J e1)<|kq (v:=I (gB ss at_)) (fun v_ x_=>?_) ?_
 ·
  have cc:=Vl (s:=ss) (at_:=at_) (w:=v_) bo lK
  exact ca afU J (ec J<|ec J e0) cc fun _ _ h_=>e2 h_
 refine kq (fun _ _=>add J J J J (by unfold aJ;omega) e1)<|kq (fun _ _=>jO (v:=I (at_+(gB ss at_))) J J e1)<|zq ?_
 intro w0 bY
 have H0:=H.ext bY
 refine nx<|sq<|zb J aS<|kq (fun _ _=>mv J i0 e1)<|kq (fun _ _=>nc J J e1)<|kq (fun _ _=>fa tQ J J e1)<|kq (fun _ x_=>lx (H0.ext x_) 0 J nD J J J e1)<|kq (fun _ _=>mv J i0 e1)<|kq (fun _ _=>nc J J e1)<|kq (fun _ _=>fa kr J J e1)<|kq (fun _ x_=>lx (H0.ext x_) 0 J aT J J J e1)<|kq (fun _ _=>mv (v:=I (at_+(gB ss at_))) J J e1)<|kq (fun _ _=>PE J J J J J J aj mK e1)<|kq (v:=.tuple #[I ((gk<|ss.extract at_.toNat (at_+(gB ss at_)).toNat).1),I ((gk<|ss.extract at_.toNat (at_+(gB ss at_)).toNat).2)]) (fun v_ x_=>?_) ?_
 ·
  have cc:=Zu (s:=(ss.extract at_.toNat (at_+(gB ss at_)).toNat)) (w:=v_)<|by exact Nat.le_trans (Dq _ _ _) zH
  exact ca afT J (ec J e0) cc fun _ _ h_=>e2 h_
 refine kq (fun _ _=>mv (v:=.tuple #[I ((gk<|ss.extract at_.toNat (at_+(gB ss at_)).toNat).1),I ((gk<|ss.extract at_.toNat (at_+(gB ss at_)).toNat).2)]) J J e1)<|kq (fun _ _=>xt J J J e1)<|kq (fun _ _=>xt J J J e1)<|kq (fun _ _=>jO (v:=I ((gk<|ss.extract at_.toNat (at_+(gB ss at_)).toNat).1)) J J e1)<|kq (fun _ _=>jO (v:=I ((gk<|ss.extract at_.toNat (at_+(gB ss at_)).toNat).2)) J J e1)<|zq ?_
 intro w1 cT
 have H1:=H0.ext cT
 refine nx<|sq<|az<|ai (v:=I ((gk<|ss.extract at_.toNat (at_+(gB ss at_)).toNat).2)) J J<|k<|neq J J J J<|z<|nx<|cd (b:=!decide (((gk<|ss.extract at_.toNat (at_+(gB ss at_)).toNat).2)=0)) J J (fun b1=>?_)<|fun b1=>?_
 ·
  have p1:=dF<|gl b1
  refine az<|ai J i0<|ai (v:=I ((gk<|ss.extract at_.toNat (at_+(gB ss at_)).toNat).2)) J J<|k ?_
  let J0:=box bN #[.string ss,I at_,I bM,I er] 66
  have H2:HI M w w1 ([J0]++([]++r)):=HI.aP (l:=[J0]) (l':=[J0]) (t:=r) H1 [0] au J J
  have bS:=u3 (bN:=bN) (ss:=ss) (at_:=at_) (bM:=bM) (er:=er) (ex:=((gk<|ss.extract at_.toNat (at_+(gB ss at_)).toNat).2)) (w:=w) (w_:=w1) (r:=([]++r)) (M:=M) bo lK eU nq (by have h_:=Fq (ss.extract at_.toNat (at_+gB ss at_).toNat);unfold aJ;omega) H2
  refine ca Mr J (ec J<|ec J e0) bS ?_
  rintro _ w2 ⟨rfl,H3⟩
  have H4:HI M w w2 ([box bN #[.string ss,I at_,I bM,I (cq er ((gk (ss.extract at_.toNat (at_+(gB ss at_)).toNat)).2))] 66]++r):=H3
  refine bz<|ak (v:=I 0) J J<|aq<|rt<|aK<|r1 J J ?_
  have e0:(cq er ((gk (ss.extract at_.toNat (at_+(gB ss at_)).toNat)).2):Int)=(cq er ((gk (ss.extract at_.toNat (at_+(gB ss at_)).toNat)).2)):=rfl
  try rw[←e0]
  refine⟨at_,(cq er<|(gk<|ss.extract at_.toNat (at_+(gB ss at_)).toNat).2),0,?_,?_,(by simp only[Ly,(fA b0),(gl b1),BL]),aj,(by exact lB nn (Fq _).2),(by unfold aJ;decide),(by exact fun h_=>(We (dF<|gl bo) h_).elim)⟩
  · first|rfl|simp only[e0]|(simp only[am'])
  · first|exact H4|simpa +zetaDelta only[e0,am'] using H4
 have p1:=dT<|fA b1
 refine sk<|cO<|ai J i0<|ai (v:=I (at_+(gB ss at_))) J J<|k<|nc J J<|aQ kr J J<|k<|bw H1 0 J aT J J J J J J J ?_
 intro w2 (H2:HI M w w2 ([box bN #[.string ss,I (at_+(gB ss at_)),I bM,I er] 66]++r))
 refine bz<|ai (v:=I ((gk<|ss.extract at_.toNat (at_+(gB ss at_)).toNat).1)) J J<|ak (v:=I ((gk<|ss.extract at_.toNat (at_+(gB ss at_)).toNat).1)) J J<|aq<|rt<|r1 J J ?_
 have e0:((gk (ss.extract at_.toNat (at_+(gB ss at_)).toNat)).1:Int)=((gk (ss.extract at_.toNat (at_+(gB ss at_)).toNat)).1):=rfl
 have e1:(at_+(gB ss at_):Int)=(at_+(gB ss at_)):=rfl
 try rw[←e0]
 try rw[←e1]
 refine⟨(at_+(gB ss at_)),er,((gk<|ss.extract at_.toNat (at_+(gB ss at_)).toNat).1),?_,?_,(by simp only[Ly,(fA b0),(fA b1),BL]),aj,(by exact nn),(by exact(Fq _).1),(by exact id)⟩
 · first|rfl|simp only[e0,e1]|(simp only[am'])
 · first|exact H2|simpa +zetaDelta only[e0,e1,am'] using H2
theorem Oh (zH:ss.size≤maxLen) (lK:aJ at_) (eU:aJ bM) (nq:aJ er) (eQ:0≤at_∧at_≤(ss.size:Int)) (nn:0≤er∧er≤3) (aid:0≤bM∧bM≤9223372036854775000) (H:HI M w w_ ([box bN #[.string ss,I at_,I bM,I er] 66]++r)):Calls aI 46 #[pV bN 0] w_ (cp fun v w'=>∃(kF:Int) (l9:Int) (wv:Bool) (nm:bf) (vl:Int),v=.agg #[.bool wv,.string nm,I vl]∧HI M w w' ([box bN #[.string ss,I kF,I (bM+1),I l9] 66]++r)∧Ak ss at_ bM er=(kF,l9,(wv,nm,vl))∧(0≤kF∧at_≤kF∧kF≤(ss.size:Int))∧(0≤l9∧l9≤3)∧nm.size≤8∧aJ vl∧(l9=0→at_+1≤kF)):=by
 refine enter 45 Tryz.func46 J J J fun f0 ha=>?_
 have i0:f0 0=pV bN 0:=ha 0 bl
 have Bz:maxLen=9223372036854775807:=rfl
 refine az<|k<|al H fY ?_
 let J1:=box bN #[.string ss,I at_,I bM,I er] 66
 intro aZ w0 bY (H0:HI M w w0 ([box aZ #[.bool false,.string ⟨#[]⟩,I 0] 43,J1]++r))
 let J0:=box aZ #[.bool false,.string ⟨#[]⟩,I 0] 43
 refine aq<|sq<|az<|ai J i0<|k<|nc J J<|aQ nr J J<|bq H0 1 J aT J J J<|k<|eql J J J J<|ai (v:=.bool (decide (bM=4096))) J J ?_
 rcases bE (decide (bM=4096)) with b0|b0
 ·
  refine bh J J J b0<|mv J i0<|bh J J J b0 ?_
  have bS:=CA (ss:=ss) (at_:=at_) (bM:=bM) (er:=er) (ch:=119) (w:=w0) (M:=fun _=>False) (fun _ h_=>h_.elim) bo lK eU nq au ⟨H0.at_ 1 rfl,fun h_=>h_⟩ aj
  refine ca VZ J (ec J<|ec J e0) bS ?_
  rintro _ w1 ⟨rfl,cT⟩
  have H1:=H0.ext cT
  refine bh J J J b0<|mv (v:=.bool (cF ss at_ er 119)) J J ?_
  rcases bE (cF ss at_ er 119) with b1|b1
  ·
   refine aW J J J b1<|aW J J J b1<|bh J J J b0<|aP J J J J b1 J<|k<|aP J J J J b0 J<|aq<|ot J J J<|rg<|ai J i0<|k ?_
   have H2:HI M w w1 ([J1]++([J0]++r)):=HI.aP (l:=[J0,J1]) (l':=[J1,J0]) (t:=r) H1 [1,0] au J J
   have cU:=u3 (bN:=bN) (ss:=ss) (at_:=at_) (bM:=bM) (er:=er) (ex:=3) (w:=w) (w_:=w1) (r:=([J0]++r)) (M:=M) bo lK eU nq aR H2
   refine ca Mr J (ec J<|ec J e0) cU ?_
   rintro _ w2 ⟨rfl,H3⟩
   let J2:=box bN #[.string ss,I at_,I bM,I (cq er 3)] 66
   refine bz<|k<|al H3 fY ?_
   intro aY w3 fk (H5:HI M w w3 ([box aY #[.bool false,.string ⟨#[]⟩,I 0] 43,J2,J0]++r))
   let J3:=box aY #[.bool false,.string ⟨#[]⟩,I 0] 43
   refine aq<|sq<|az<|ai J i0<|k ?_
   have H6:HI M w w3 ([J2]++([J3,J0]++r)):=HI.aP (l:=[J3,J2,J0]) (l':=[J2,J3,J0]) (t:=r) H5 [1,0,2] au J J
   have fP:=qP (bN:=bN) (ss:=ss) (at_:=at_) (bM:=bM) (er:=(cq er 3)) (ch:=119) (w:=w) (w_:=w3) (r:=([J3,J0]++r)) (M:=M) bo lK eU (by have h_:=lB (x:=3) nn au;unfold aJ;omega) au aj H6
   refine ca FQ J (ec J<|ec J e0) fP ?_
   rintro _ w4 ⟨rfl,H7⟩
   let J4:=box bN #[.string ss,I (eS ss at_ (cq er 3) 119),I bM,I (cq er 3)] 66
   refine aQ pg J J<|k<|bw H7 1 J oP J J J J J J J ?_
   let J5:=box aY #[.bool (cF ss at_ (cq er 3) 119),.string ⟨#[]⟩,I 0] 43
   intro w5 (H9:HI M w w5 ([J4,J5,J0]++r))
   refine bz<|aQ pg J J<|bq H9 1 J oP J J J<|k<|jY J J<|z<|nx<|cd (b:=!(cF ss at_ (cq er 3) 119)) J J (fun b2=>?_)<|fun b2=>?_
   ·
    refine rg<|ai J i0<|k ?_
    have dO:HI M w w5 ([J4]++([J5,J0]++r)):=HI.aP (l:=[J4,J5,J0]) (l':=[J4,J5,J0]) (t:=r) H9 [0,1,2] au J J
    have eZ:=iu (bN:=bN) (ss:=ss) (at_:=(eS ss at_ (cq er 3) 119)) (bM:=bM) (er:=(cq er 3)) (ch:=114) (w:=w) (w_:=w5) (r:=([J5,J0]++r)) (M:=M) bo (by have h_:=ct (b:=119) (e:=er) eQ;have lG:=ct (b:=119) (e:=cq er 3) eQ;unfold aJ;omega) eU (by have h_:=lB (x:=3) nn au;unfold aJ;omega) au (by have h_:=ct (b:=119) (e:=er) eQ;have lG:=ct (b:=119) (e:=cq er 3) eQ;omega) (by exact lB (x:=3) nn au) dO
    refine ca pI J (ec J<|ec J e0) eZ ?_
    rintro _ w6 ⟨o0,o1,rfl,cV,q0,q1,q2,q3⟩
    let J6:=box bN #[.string ss,I o0,I bM,I o1] 66
    have du:HI M w w6 ([J6,J5,J0]++r):=cV
    refine bz<|ai J i0<|k ?_
    have dJ:HI M w w6 ([J6]++([J5,J0]++r)):=HI.aP (l:=[J6,J5,J0]) (l':=[J6,J5,J0]) (t:=r) du [0,1,2] au J J
    have mx:=iu (bN:=bN) (ss:=ss) (at_:=o0) (bM:=bM) (er:=o1) (ch:=58) (w:=w) (w_:=w6) (r:=([J5,J0]++r)) (M:=M) bo aR eU aR au aj aj dJ
    refine ca pI J (ec J<|ec J e0) mx ?_
    rintro _ w7 ⟨o2,o3,rfl,cM,q4,q5,q6,q7⟩
    let J7:=box bN #[.string ss,I o2,I bM,I o3] 66
    have dU:HI M w w7 ([J7,J5,J0]++r):=cM
    refine bz<|ai J i0<|k ?_
    have dt:HI M w w7 ([J7]++([J5,J0]++r)):=HI.aP (l:=[J7,J5,J0]) (l':=[J7,J5,J0]) (t:=r) dU [0,1,2] au J J
    have nu:=qQ (bN:=bN) (ss:=ss) (at_:=o2) (bM:=bM) (er:=o3) (w:=w) (w_:=w7) (r:=([J5,J0]++r)) (M:=M) bo aR eU aR aj aj dt
    refine ca FM J (ec J e0) nu ?_
    rintro _ w8 ⟨o4,o5,o6,rfl,cR,q8,q9,u5,xC,Eo⟩
    let J8:=box bN #[.string ss,I o4,I bM,I o5] 66
    refine aQ lW J J<|k<|bw cR 1 J nD J J J J J J J ?_
    let J9:=box aY #[.bool (cF ss at_ (cq er 3) 119),.string o6,I 0] 43
    intro w9 (dw:HI M w w9 ([J8,J9,J0]++r))
    refine bz<|ai J i0<|k ?_
    have cE:HI M w w9 ([J8]++([J9,J0]++r)):=HI.aP (l:=[J8,J9,J0]) (l':=[J8,J9,J0]) (t:=r) dw [0,1,2] au J J
    have yd:=iu (bN:=bN) (ss:=ss) (at_:=o4) (bM:=bM) (er:=o5) (ch:=61) (w:=w) (w_:=w9) (r:=([J9,J0]++r)) (M:=M) bo aR eU aR au aj aj cE
    refine ca pI J (ec J<|ec J e0) yd ?_
    rintro _ dM ⟨o7,o8,rfl,df,u4,Oi,CF,CE⟩
    let dR:=box bN #[.string ss,I o7,I bM,I o8] 66
    have dH:HI M w dM ([dR,J9,J0]++r):=df
    refine bz<|ai J i0<|k ?_
    have eP:HI M w dM ([dR]++([J9,J0]++r)):=HI.aP (l:=[dR,J9,J0]) (l':=[dR,J9,J0]) (t:=r) dH [0,1,2] au J J
    have DA:=oA (bN:=bN) (ss:=ss) (at_:=o7) (bM:=bM) (er:=o8) (w:=w) (w_:=dM) (r:=([J9,J0]++r)) (M:=M) bo aR eU aR aj aj eP
    refine ca FL J (ec J e0) DA ?_
    rintro _ ee ⟨o9,kM,gq,rfl,ff,yy,xB,q19,xA,En⟩
    refine aQ oo J J<|k<|bw ff 1 J aT J J J J J J J ?_
    let eE:=box aY #[.bool (cF ss at_ (cq er 3) 119),.string o6,I gq] 43
    intro ft (iy:HI M w ft ([box bN #[.string ss,I o9,I bM,I kM] 66,eE,J0]++r))
    refine bz<|ai J i0<|k<|nc J J<|aQ nr J J<|bq iy 0 J aT J J J<|k<|add J J J J aR<|k<|nc J J<|aQ nr J J<|k<|bw iy 0 J aT J J J J J J J ?_
    let fM:=box bN #[.string ss,I o9,I (bM+1),I kM] 66
    intro ij (iS:HI M w ij ([fM,eE,J0]++r))
    refine bz<|k<|cB iS 1 J fY J J au J<|k<|bw iS 2 J fY J J J J J J J ?_
    let fI:=box aZ #[.bool (cF ss at_ (cq er 3) 119),.string o6,I gq] 43
    intro jv (kY:HI M w jv ([fM,eE,fI]++r))
    refine aq<|rt<|py kY 2 J fY J J J J au ?_
    have iw:=HI.aP (l:=[fM,eE,fI]) (l':=[fM]) (t:=r) kY [0] au J J
    have e0:(cF ss at_ (cq er 3) 119:Bool)=(cF ss at_ (cq er 3) 119):=rfl
    have e1:(bM+1:Int)=(bM+1):=rfl
    try rw[←e0]
    try rw[←e1]
    refine⟨o9,kM,(cF ss at_ (cq er 3) 119),o6,gq,?_,?_,(by simp only[Ak,IV,IU,q0,q4,q8,u4,yy,b0,b1,(gl b2),BL]),(by have h_:=ct (b:=119) (e:=er) eQ;have lG:=ct (b:=119) (e:=cq er 3) eQ;omega),aj,bo,bo,(by have h_:=ct (b:=119) (e:=er) eQ;have lG:=ct (b:=119) (e:=cq er 3) eQ;omega)⟩
    · first|rfl|simp only[e0,e1]|(simp only[am'])
    · first|exact iw|simpa +zetaDelta only[e0,e1,am'] using iw
   refine sk<|cO<|ai J i0<|k ?_
   have dO:HI M w w5 ([J4]++([J5,J0]++r)):=HI.aP (l:=[J4,J5,J0]) (l':=[J4,J5,J0]) (t:=r) H9 [0,1,2] au J J
   have eZ:=iu (bN:=bN) (ss:=ss) (at_:=(eS ss at_ (cq er 3) 119)) (bM:=bM) (er:=(cq er 3)) (ch:=58) (w:=w) (w_:=w5) (r:=([J5,J0]++r)) (M:=M) bo (by have h_:=ct (b:=119) (e:=er) eQ;have lG:=ct (b:=119) (e:=cq er 3) eQ;unfold aJ;omega) eU (by have h_:=lB (x:=3) nn au;unfold aJ;omega) au (by have h_:=ct (b:=119) (e:=er) eQ;have lG:=ct (b:=119) (e:=cq er 3) eQ;omega) (by exact lB (x:=3) nn au) dO
   refine ca pI J (ec J<|ec J e0) eZ ?_
   rintro _ w6 ⟨o0,o1,rfl,cV,q0,q1,q2,q3⟩
   let gU:=box bN #[.string ss,I o0,I bM,I o1] 66
   have du:HI M w w6 ([gU,J5,J0]++r):=cV
   refine bz<|ai J i0<|k ?_
   have dJ:HI M w w6 ([gU]++([J5,J0]++r)):=HI.aP (l:=[gU,J5,J0]) (l':=[gU,J5,J0]) (t:=r) du [0,1,2] au J J
   have mx:=qQ (bN:=bN) (ss:=ss) (at_:=o0) (bM:=bM) (er:=o1) (w:=w) (w_:=w6) (r:=([J5,J0]++r)) (M:=M) bo aR eU aR aj aj dJ
   refine ca FM J (ec J e0) mx ?_
   rintro _ w7 ⟨o2,o3,o4,rfl,cM,q4,q5,q6,q7,q8⟩
   let ma:=box bN #[.string ss,I o2,I bM,I o3] 66
   refine aQ lW J J<|k<|bw cM 1 J nD J J J J J J J ?_
   let lZ:=box aY #[.bool (cF ss at_ (cq er 3) 119),.string o4,I 0] 43
   intro w8 (dt:HI M w w8 ([ma,lZ,J0]++r))
   refine bz<|ai J i0<|k ?_
   have cR:HI M w w8 ([ma]++([lZ,J0]++r)):=HI.aP (l:=[ma,lZ,J0]) (l':=[ma,lZ,J0]) (t:=r) dt [0,1,2] au J J
   have nu:=iu (bN:=bN) (ss:=ss) (at_:=o2) (bM:=bM) (er:=o3) (ch:=61) (w:=w) (w_:=w8) (r:=([lZ,J0]++r)) (M:=M) bo aR eU aR au aj aj cR
   refine ca pI J (ec J<|ec J e0) nu ?_
   rintro _ w9 ⟨o5,o6,rfl,dI,q9,u5,xC,Eo⟩
   let rM:=box bN #[.string ss,I o5,I bM,I o6] 66
   have dw:HI M w w9 ([rM,lZ,J0]++r):=dI
   refine bz<|ai J i0<|k ?_
   have cE:HI M w w9 ([rM]++([lZ,J0]++r)):=HI.aP (l:=[rM,lZ,J0]) (l':=[rM,lZ,J0]) (t:=r) dw [0,1,2] au J J
   have yd:=oA (bN:=bN) (ss:=ss) (at_:=o5) (bM:=bM) (er:=o6) (w:=w) (w_:=w9) (r:=([lZ,J0]++r)) (M:=M) bo aR eU aR aj aj cE
   refine ca FL J (ec J e0) yd ?_
   rintro _ dM ⟨o7,o8,o9,rfl,df,u4,Oi,CF,CE,yy⟩
   refine aQ oo J J<|k<|bw df 1 J aT J J J J J J J ?_
   let jz:=box aY #[.bool (cF ss at_ (cq er 3) 119),.string o4,I o9] 43
   intro ee (eP:HI M w ee ([box bN #[.string ss,I o7,I bM,I o8] 66,jz,J0]++r))
   refine bz<|ai J i0<|k<|nc J J<|aQ nr J J<|bq eP 0 J aT J J J<|k<|add J J J J aR<|k<|nc J J<|aQ nr J J<|k<|bw eP 0 J aT J J J J J J J ?_
   let nO:=box bN #[.string ss,I o7,I (bM+1),I o8] 66
   intro ft (ff:HI M w ft ([nO,jz,J0]++r))
   refine bz<|k<|cB ff 1 J fY J J au J<|k<|bw ff 2 J fY J J J J J J J ?_
   let pw:=box aZ #[.bool (cF ss at_ (cq er 3) 119),.string o4,I o9] 43
   intro ij (gr:HI M w ij ([nO,jz,pw]++r))
   refine aq<|rt<|py gr 2 J fY J J J J au ?_
   have iy:=HI.aP (l:=[nO,jz,pw]) (l':=[nO]) (t:=r) gr [0] au J J
   have e0:(cF ss at_ (cq er 3) 119:Bool)=(cF ss at_ (cq er 3) 119):=rfl
   have e1:(bM+1:Int)=(bM+1):=rfl
   try rw[←e0]
   try rw[←e1]
   refine⟨o7,o8,(cF ss at_ (cq er 3) 119),o4,o9,?_,?_,(by simp only[Ak,IV,IU,q0,q4,q9,u4,b0,b1,(fA b2),BL]),(by have h_:=ct (b:=119) (e:=er) eQ;have lG:=ct (b:=119) (e:=cq er 3) eQ;omega),aj,bo,bo,(by have h_:=ct (b:=119) (e:=er) eQ;have lG:=ct (b:=119) (e:=cq er 3) eQ;omega)⟩
   · first|rfl|simp only[e0,e1]|(simp only[am'])
   · first|exact iy|simpa +zetaDelta only[e0,e1,am'] using iy
  refine bh J J J b1<|mv J i0<|bh J J J b1 ?_
  have cU:=CA (ss:=ss) (at_:=at_) (bM:=bM) (er:=er) (ch:=114) (w:=w1) (M:=fun _=>False) (fun _ h_=>h_.elim) bo lK eU nq au ⟨H1.at_ 1 rfl,fun h_=>h_⟩ aj
  refine ca VZ J (ec J<|ec J e0) cU ?_
  rintro _ w2 ⟨rfl,fk⟩
  have H2:=H1.ext fk
  refine bh J J J b0<|dA J J J J b1 J<|k<|aP J J J J b0 J<|z<|nx<|cd (b:=cF ss at_ er 114) J J (fun b2=>?_)<|fun b2=>?_
  ·
   refine rg<|ai J i0<|k ?_
   have H3:HI M w w2 ([J1]++([J0]++r)):=HI.aP (l:=[J0,J1]) (l':=[J1,J0]) (t:=r) H2 [1,0] au J J
   have fP:=u3 (bN:=bN) (ss:=ss) (at_:=at_) (bM:=bM) (er:=er) (ex:=3) (w:=w) (w_:=w2) (r:=([J0]++r)) (M:=M) bo lK eU nq aR H3
   refine ca Mr J (ec J<|ec J e0) fP ?_
   rintro _ w3 ⟨rfl,H4⟩
   let mW:=box bN #[.string ss,I at_,I bM,I (cq er 3)] 66
   refine bz<|k<|al H4 fY ?_
   intro aY w4 fN (H6:HI M w w4 ([box aY #[.bool false,.string ⟨#[]⟩,I 0] 43,mW,J0]++r))
   let nN:=box aY #[.bool false,.string ⟨#[]⟩,I 0] 43
   refine aq<|sq<|az<|ai J i0<|k ?_
   have H7:HI M w w4 ([mW]++([nN,J0]++r)):=HI.aP (l:=[nN,mW,J0]) (l':=[mW,nN,J0]) (t:=r) H6 [1,0,2] au J J
   have eZ:=qP (bN:=bN) (ss:=ss) (at_:=at_) (bM:=bM) (er:=(cq er 3)) (ch:=119) (w:=w) (w_:=w4) (r:=([nN,J0]++r)) (M:=M) bo lK eU (by have h_:=lB (x:=3) nn au;unfold aJ;omega) au aj H7
   refine ca FQ J (ec J<|ec J e0) eZ ?_
   rintro _ w5 ⟨rfl,H8⟩
   let tV:=box bN #[.string ss,I (eS ss at_ (cq er 3) 119),I bM,I (cq er 3)] 66
   refine aQ pg J J<|k<|bw H8 1 J oP J J J J J J J ?_
   let sf:=box aY #[.bool (cF ss at_ (cq er 3) 119),.string ⟨#[]⟩,I 0] 43
   let ba:=[sf,J0]
   intro w6 (dO:HI M w w6 ((tV::ba)++r))
   refine bz<|aQ pg J J<|bq dO 1 J oP J J J<|k<|jY J J<|z<|nx<|cd (b:=!(cF ss at_ (cq er 3) 119)) J J (fun b3=>?_)<|fun b3=>?_
   ·
    refine rg<|ai J i0<|k ?_
    have cV:HI M w w6 ([tV]++([sf,J0]++r)):=HI.aP (l:=(tV::ba)) (l':=(tV::ba)) (t:=r) dO [0,1,2] au J J
    have mx:=iu (bN:=bN) (ss:=ss) (at_:=(eS ss at_ (cq er 3) 119)) (bM:=bM) (er:=(cq er 3)) (ch:=114) (w:=w) (w_:=w6) (r:=([sf,J0]++r)) (M:=M) bo (by have h_:=ct (b:=119) (e:=er) eQ;have lG:=ct (b:=119) (e:=cq er 3) eQ;unfold aJ;omega) eU (by have h_:=lB (x:=3) nn au;unfold aJ;omega) au (by have h_:=ct (b:=119) (e:=er) eQ;have lG:=ct (b:=119) (e:=cq er 3) eQ;omega) (by exact lB (x:=3) nn au) cV
    refine ca pI J (ec J<|ec J e0) mx ?_
    rintro _ w7 ⟨o0,o1,rfl,du,q0,q1,q2,q3⟩
    let ym:=box bN #[.string ss,I o0,I bM,I o1] 66
    have dJ:HI M w w7 ((ym::ba)++r):=du
    refine bz<|ai J i0<|k ?_
    have cM:HI M w w7 ([ym]++([sf,J0]++r)):=HI.aP (l:=(ym::ba)) (l':=(ym::ba)) (t:=r) dJ [0,1,2] au J J
    have nu:=iu (bN:=bN) (ss:=ss) (at_:=o0) (bM:=bM) (er:=o1) (ch:=58) (w:=w) (w_:=w7) (r:=([sf,J0]++r)) (M:=M) bo aR eU aR au aj aj cM
    refine ca pI J (ec J<|ec J e0) nu ?_
    rintro _ w8 ⟨o2,o3,rfl,dU,q4,q5,q6,q7⟩
    let se:=box bN #[.string ss,I o2,I bM,I o3] 66
    have dt:HI M w w8 ((se::ba)++r):=dU
    refine bz<|ai J i0<|k ?_
    have cR:HI M w w8 ([se]++([sf,J0]++r)):=HI.aP (l:=(se::ba)) (l':=(se::ba)) (t:=r) dt [0,1,2] au J J
    have yd:=qQ (bN:=bN) (ss:=ss) (at_:=o2) (bM:=bM) (er:=o3) (w:=w) (w_:=w8) (r:=([sf,J0]++r)) (M:=M) bo aR eU aR aj aj cR
    refine ca FM J (ec J e0) yd ?_
    rintro _ w9 ⟨o4,o5,o6,rfl,dI,q8,q9,u5,xC,Eo⟩
    let vM:=box bN #[.string ss,I o4,I bM,I o5] 66
    refine aQ lW J J<|k<|bw dI 1 J nD J J J J J J J ?_
    let tl:=box aY #[.bool (cF ss at_ (cq er 3) 119),.string o6,I 0] 43
    intro dM (cE:HI M w dM ([vM,tl,J0]++r))
    refine bz<|ai J i0<|k ?_
    have df:HI M w dM ([vM]++([tl,J0]++r)):=HI.aP (l:=[vM,tl,J0]) (l':=[vM,tl,J0]) (t:=r) cE [0,1,2] au J J
    have DA:=iu (bN:=bN) (ss:=ss) (at_:=o4) (bM:=bM) (er:=o5) (ch:=61) (w:=w) (w_:=dM) (r:=([tl,J0]++r)) (M:=M) bo aR eU aR au aj aj df
    refine ca pI J (ec J<|ec J e0) DA ?_
    rintro _ ee ⟨o7,o8,rfl,dH,u4,Oi,CF,CE⟩
    let uu:=box bN #[.string ss,I o7,I bM,I o8] 66
    have eP:HI M w ee ([uu,tl,J0]++r):=dH
    refine bz<|ai J i0<|k ?_
    have ff:HI M w ee ([uu]++([tl,J0]++r)):=HI.aP (l:=[uu,tl,J0]) (l':=[uu,tl,J0]) (t:=r) eP [0,1,2] au J J
    have T0:=oA (bN:=bN) (ss:=ss) (at_:=o7) (bM:=bM) (er:=o8) (w:=w) (w_:=ee) (r:=([tl,J0]++r)) (M:=M) bo aR eU aR aj aj ff
    refine ca FL J (ec J e0) T0 ?_
    rintro _ ft ⟨o9,kM,gq,rfl,gr,yy,xB,q19,xA,En⟩
    refine aQ oo J J<|k<|bw gr 1 J aT J J J J J J J ?_
    let ur:=box aY #[.bool (cF ss at_ (cq er 3) 119),.string o6,I gq] 43
    intro ij (iS:HI M w ij ([box bN #[.string ss,I o9,I bM,I kM] 66,ur,J0]++r))
    refine bz<|ai J i0<|k<|nc J J<|aQ nr J J<|bq iS 0 J aT J J J<|k<|add J J J J aR<|k<|nc J J<|aQ nr J J<|k<|bw iS 0 J aT J J J J J J J ?_
    let AS:=box bN #[.string ss,I o9,I (bM+1),I kM] 66
    intro jv (kY:HI M w jv ([AS,ur,J0]++r))
    refine bz<|k<|cB kY 1 J fY J J au J<|k<|bw kY 2 J fY J J J J J J J ?_
    let rL:=box aZ #[.bool (cF ss at_ (cq er 3) 119),.string o6,I gq] 43
    intro nB (iw:HI M w nB ([AS,ur,rL]++r))
    refine aq<|rt<|py iw 2 J fY J J J J au ?_
    have qa:=HI.aP (l:=[AS,ur,rL]) (l':=[AS]) (t:=r) iw [0] au J J
    have e0:(cF ss at_ (cq er 3) 119:Bool)=(cF ss at_ (cq er 3) 119):=rfl
    have e1:(bM+1:Int)=(bM+1):=rfl
    try rw[←e0]
    try rw[←e1]
    refine⟨o9,kM,(cF ss at_ (cq er 3) 119),o6,gq,?_,?_,(by simp only[Ak,IV,IU,q0,q4,q8,u4,yy,b0,b1,b2,(gl b3),BL]),(by have h_:=ct (b:=119) (e:=er) eQ;have lG:=ct (b:=119) (e:=cq er 3) eQ;omega),aj,bo,bo,(by have h_:=ct (b:=119) (e:=er) eQ;have lG:=ct (b:=119) (e:=cq er 3) eQ;omega)⟩
    · first|rfl|simp only[e0,e1]|(simp only[am'])
    · first|exact qa|simpa +zetaDelta only[e0,e1,am'] using qa
   refine sk<|cO<|ai J i0<|k ?_
   have cV:HI M w w6 ([tV]++([sf,J0]++r)):=HI.aP (l:=(tV::ba)) (l':=(tV::ba)) (t:=r) dO [0,1,2] au J J
   have mx:=iu (bN:=bN) (ss:=ss) (at_:=(eS ss at_ (cq er 3) 119)) (bM:=bM) (er:=(cq er 3)) (ch:=58) (w:=w) (w_:=w6) (r:=([sf,J0]++r)) (M:=M) bo (by have h_:=ct (b:=119) (e:=er) eQ;have lG:=ct (b:=119) (e:=cq er 3) eQ;unfold aJ;omega) eU (by have h_:=lB (x:=3) nn au;unfold aJ;omega) au (by have h_:=ct (b:=119) (e:=er) eQ;have lG:=ct (b:=119) (e:=cq er 3) eQ;omega) (by exact lB (x:=3) nn au) cV
   refine ca pI J (ec J<|ec J e0) mx ?_
   rintro _ w7 ⟨o0,o1,rfl,du,q0,q1,q2,q3⟩
   let qF:=box bN #[.string ss,I o0,I bM,I o1] 66
   have dJ:HI M w w7 ((qF::ba)++r):=du
   refine bz<|ai J i0<|k ?_
   have cM:HI M w w7 ([qF]++([sf,J0]++r)):=HI.aP (l:=(qF::ba)) (l':=(qF::ba)) (t:=r) dJ [0,1,2] au J J
   have nu:=qQ (bN:=bN) (ss:=ss) (at_:=o0) (bM:=bM) (er:=o1) (w:=w) (w_:=w7) (r:=([sf,J0]++r)) (M:=M) bo aR eU aR aj aj cM
   refine ca FM J (ec J e0) nu ?_
   rintro _ w8 ⟨o2,o3,o4,rfl,dU,q4,q5,q6,q7,q8⟩
   let tk:=box bN #[.string ss,I o2,I bM,I o3] 66
   refine aQ lW J J<|k<|bw dU 1 J nD J J J J J J J ?_
   let oI:=box aY #[.bool (cF ss at_ (cq er 3) 119),.string o4,I 0] 43
   intro w9 (cR:HI M w w9 ([tk,oI,J0]++r))
   refine bz<|ai J i0<|k ?_
   have dI:HI M w w9 ([tk]++([oI,J0]++r)):=HI.aP (l:=[tk,oI,J0]) (l':=[tk,oI,J0]) (t:=r) cR [0,1,2] au J J
   have yd:=iu (bN:=bN) (ss:=ss) (at_:=o2) (bM:=bM) (er:=o3) (ch:=61) (w:=w) (w_:=w9) (r:=([oI,J0]++r)) (M:=M) bo aR eU aR au aj aj dI
   refine ca pI J (ec J<|ec J e0) yd ?_
   rintro _ dM ⟨o5,o6,rfl,dw,q9,u5,xC,Eo⟩
   let zu:=box bN #[.string ss,I o5,I bM,I o6] 66
   have cE:HI M w dM ([zu,oI,J0]++r):=dw
   refine bz<|ai J i0<|k ?_
   have df:HI M w dM ([zu]++([oI,J0]++r)):=HI.aP (l:=[zu,oI,J0]) (l':=[zu,oI,J0]) (t:=r) cE [0,1,2] au J J
   have DA:=oA (bN:=bN) (ss:=ss) (at_:=o5) (bM:=bM) (er:=o6) (w:=w) (w_:=dM) (r:=([oI,J0]++r)) (M:=M) bo aR eU aR aj aj df
   refine ca FL J (ec J e0) DA ?_
   rintro _ ee ⟨o7,o8,o9,rfl,dH,u4,Oi,CF,CE,yy⟩
   refine aQ oo J J<|k<|bw dH 1 J aT J J J J J J J ?_
   let vL:=box aY #[.bool (cF ss at_ (cq er 3) 119),.string o4,I o9] 43
   intro ft (ff:HI M w ft ([box bN #[.string ss,I o7,I bM,I o8] 66,vL,J0]++r))
   refine bz<|ai J i0<|k<|nc J J<|aQ nr J J<|bq ff 0 J aT J J J<|k<|add J J J J aR<|k<|nc J J<|aQ nr J J<|k<|bw ff 0 J aT J J J J J J J ?_
   let uq:=box bN #[.string ss,I o7,I (bM+1),I o8] 66
   intro ij (gr:HI M w ij ([uq,vL,J0]++r))
   refine bz<|k<|cB gr 1 J fY J J au J<|k<|bw gr 2 J fY J J J J J J J ?_
   let zt:=box aZ #[.bool (cF ss at_ (cq er 3) 119),.string o4,I o9] 43
   intro jv (iy:HI M w jv ([uq,vL,zt]++r))
   refine aq<|rt<|py iy 2 J fY J J J J au ?_
   have iS:=HI.aP (l:=[uq,vL,zt]) (l':=[uq]) (t:=r) iy [0] au J J
   have e0:(cF ss at_ (cq er 3) 119:Bool)=(cF ss at_ (cq er 3) 119):=rfl
   have e1:(bM+1:Int)=(bM+1):=rfl
   try rw[←e0]
   try rw[←e1]
   refine⟨o7,o8,(cF ss at_ (cq er 3) 119),o4,o9,?_,?_,(by simp only[Ak,IV,IU,q0,q4,q9,u4,b0,b1,b2,(fA b3),BL]),(by have h_:=ct (b:=119) (e:=er) eQ;have lG:=ct (b:=119) (e:=cq er 3) eQ;omega),aj,bo,bo,(by have h_:=ct (b:=119) (e:=er) eQ;have lG:=ct (b:=119) (e:=cq er 3) eQ;omega)⟩
   · first|rfl|simp only[e0,e1]|(simp only[am'])
   · first|exact iS|simpa +zetaDelta only[e0,e1,am'] using iS
  refine sk<|cO<|k<|al H2 fY ?_
  intro aY w3 fN (H3:HI M w w3 ([box aY #[.bool false,.string ⟨#[]⟩,I 0] 43,J0,J1]++r))
  let yl:=box aY #[.bool false,.string ⟨#[]⟩,I 0] 43
  refine aq<|sq<|az<|ai J i0<|k ?_
  have H4:HI M w w3 ([J1]++([yl,J0]++r)):=HI.aP (l:=[yl,J0,J1]) (l':=[J1,yl,J0]) (t:=r) H3 [2,0,1] au J J
  have fP:=qP (bN:=bN) (ss:=ss) (at_:=at_) (bM:=bM) (er:=er) (ch:=119) (w:=w) (w_:=w3) (r:=([yl,J0]++r)) (M:=M) bo lK eU nq au aj H4
  refine ca FQ J (ec J<|ec J e0) fP ?_
  rintro _ w4 ⟨rfl,H5⟩
  let zr:=box bN #[.string ss,I (eS ss at_ er 119),I bM,I er] 66
  refine aQ pg J J<|k<|bw H5 1 J oP J J J J J J J ?_
  let tj:=box aY #[.bool (cF ss at_ er 119),.string ⟨#[]⟩,I 0] 43
  intro w5 (H7:HI M w w5 ([zr,tj,J0]++r))
  refine bz<|aQ pg J J<|bq H7 1 J oP J J J<|k<|jY J J<|aq<|ot J J (by rw[show (cF ss at_ er 119)=false from b1]<;>rfl)<|rg<|ai J i0<|k ?_
  have H8:HI M w w5 ([zr]++([tj,J0]++r)):=HI.aP (l:=[zr,tj,J0]) (l':=[zr,tj,J0]) (t:=r) H7 [0,1,2] au J J
  have eZ:=iu (bN:=bN) (ss:=ss) (at_:=(eS ss at_ er 119)) (bM:=bM) (er:=er) (ch:=114) (w:=w) (w_:=w5) (r:=([tj,J0]++r)) (M:=M) bo (by have h_:=ct (b:=119) (e:=er) eQ;have lG:=ct (b:=119) (e:=cq er 3) eQ;unfold aJ;omega) eU nq au (by have h_:=ct (b:=119) (e:=er) eQ;have lG:=ct (b:=119) (e:=cq er 3) eQ;omega) aj H8
  refine ca pI J (ec J<|ec J e0) eZ ?_
  rintro _ w6 ⟨o0,o1,rfl,H9,q0,q1,q2,q3⟩
  let JQ:=box bN #[.string ss,I o0,I bM,I o1] 66
  have dO:HI M w w6 ([JQ,tj,J0]++r):=H9
  refine bz<|ai J i0<|k ?_
  have cV:HI M w w6 ([JQ]++([tj,J0]++r)):=HI.aP (l:=[JQ,tj,J0]) (l':=[JQ,tj,J0]) (t:=r) dO [0,1,2] au J J
  have mx:=iu (bN:=bN) (ss:=ss) (at_:=o0) (bM:=bM) (er:=o1) (ch:=58) (w:=w) (w_:=w6) (r:=([tj,J0]++r)) (M:=M) bo aR eU aR au aj aj cV
  refine ca pI J (ec J<|ec J e0) mx ?_
  rintro _ w7 ⟨o2,o3,rfl,du,q4,q5,q6,q7⟩
  let E1:=box bN #[.string ss,I o2,I bM,I o3] 66
  have dJ:HI M w w7 ([E1,tj,J0]++r):=du
  refine bz<|ai J i0<|k ?_
  have cM:HI M w w7 ([E1]++([tj,J0]++r)):=HI.aP (l:=[E1,tj,J0]) (l':=[E1,tj,J0]) (t:=r) dJ [0,1,2] au J J
  have nu:=qQ (bN:=bN) (ss:=ss) (at_:=o2) (bM:=bM) (er:=o3) (w:=w) (w_:=w7) (r:=([tj,J0]++r)) (M:=M) bo aR eU aR aj aj cM
  refine ca FM J (ec J e0) nu ?_
  rintro _ w8 ⟨o4,o5,o6,rfl,dU,q8,q9,u5,xC,Eo⟩
  let EZ:=box bN #[.string ss,I o4,I bM,I o5] 66
  refine aQ lW J J<|k<|bw dU 1 J nD J J J J J J J ?_
  let AR:=box aY #[.bool (cF ss at_ er 119),.string o6,I 0] 43
  intro w9 (cR:HI M w w9 ([EZ,AR,J0]++r))
  refine bz<|ai J i0<|k ?_
  have dI:HI M w w9 ([EZ]++([AR,J0]++r)):=HI.aP (l:=[EZ,AR,J0]) (l':=[EZ,AR,J0]) (t:=r) cR [0,1,2] au J J
  have yd:=iu (bN:=bN) (ss:=ss) (at_:=o4) (bM:=bM) (er:=o5) (ch:=61) (w:=w) (w_:=w9) (r:=([AR,J0]++r)) (M:=M) bo aR eU aR au aj aj dI
  refine ca pI J (ec J<|ec J e0) yd ?_
  rintro _ dM ⟨o7,o8,rfl,dw,u4,Oi,CF,CE⟩
  let Hz:=box bN #[.string ss,I o7,I bM,I o8] 66
  have cE:HI M w dM ([Hz,AR,J0]++r):=dw
  refine bz<|ai J i0<|k ?_
  have df:HI M w dM ([Hz]++([AR,J0]++r)):=HI.aP (l:=[Hz,AR,J0]) (l':=[Hz,AR,J0]) (t:=r) cE [0,1,2] au J J
  have DA:=oA (bN:=bN) (ss:=ss) (at_:=o7) (bM:=bM) (er:=o8) (w:=w) (w_:=dM) (r:=([AR,J0]++r)) (M:=M) bo aR eU aR aj aj df
  refine ca FL J (ec J e0) DA ?_
  rintro _ ee ⟨o9,kM,gq,rfl,dH,yy,xB,q19,xA,En⟩
  refine aQ oo J J<|k<|bw dH 1 J aT J J J J J J J ?_
  let EY:=box aY #[.bool (cF ss at_ er 119),.string o6,I gq] 43
  intro ft (ff:HI M w ft ([box bN #[.string ss,I o9,I bM,I kM] 66,EY,J0]++r))
  refine bz<|ai J i0<|k<|nc J J<|aQ nr J J<|bq ff 0 J aT J J J<|k<|add J J J J aR<|k<|nc J J<|aQ nr J J<|k<|bw ff 0 J aT J J J J J J J ?_
  let AQ:=box bN #[.string ss,I o9,I (bM+1),I kM] 66
  intro ij (gr:HI M w ij ([AQ,EY,J0]++r))
  refine bz<|k<|cB gr 1 J fY J J au J<|k<|bw gr 2 J fY J J J J J J J ?_
  let zp:=box aZ #[.bool (cF ss at_ er 119),.string o6,I gq] 43
  intro jv (iy:HI M w jv ([AQ,EY,zp]++r))
  refine aq<|rt<|py iy 2 J fY J J J J au ?_
  have iS:=HI.aP (l:=[AQ,EY,zp]) (l':=[AQ]) (t:=r) iy [0] au J J
  have e0:(cF ss at_ er 119:Bool)=(cF ss at_ er 119):=rfl
  have e1:(bM+1:Int)=(bM+1):=rfl
  try rw[←e0]
  try rw[←e1]
  refine⟨o9,kM,(cF ss at_ er 119),o6,gq,?_,?_,(by simp only[Ak,IV,IU,q0,q4,q8,u4,yy,b0,b1,b2,BL]),(by have h_:=ct (b:=119) (e:=er) eQ;have lG:=ct (b:=119) (e:=cq er 3) eQ;omega),aj,bo,bo,(by have h_:=ct (b:=119) (e:=er) eQ;have lG:=ct (b:=119) (e:=cq er 3) eQ;omega)⟩
  · first|rfl|simp only[e0,e1]|(simp only[am'])
  · first|exact iS|simpa +zetaDelta only[e0,e1,am'] using iS
 refine aW J J J b0<|aW J J J b0<|aW J J J b0<|k<|gu J J J<|k<|gu J J J<|aW J J J b0<|k<|dA J J J J b0 J<|aq<|pB J J J<|sk<|cO<|k<|al H0 fY ?_
 intro aY w1 cT (H1:HI M w w1 ([box aY #[.bool false,.string ⟨#[]⟩,I 0] 43,J0,J1]++r))
 let JP:=box aY #[.bool false,.string ⟨#[]⟩,I 0] 43
 refine aq<|sq<|az<|ai J i0<|k ?_
 have H2:HI M w w1 ([J1]++([JP,J0]++r)):=HI.aP (l:=[JP,J0,J1]) (l':=[J1,JP,J0]) (t:=r) H1 [2,0,1] au J J
 have bS:=qP (bN:=bN) (ss:=ss) (at_:=at_) (bM:=bM) (er:=er) (ch:=119) (w:=w) (w_:=w1) (r:=([JP,J0]++r)) (M:=M) bo lK eU nq au aj H2
 refine ca FQ J (ec J<|ec J e0) bS ?_
 rintro _ w2 ⟨rfl,H3⟩
 let DN:=box bN #[.string ss,I (eS ss at_ er 119),I bM,I er] 66
 refine aQ pg J J<|k<|bw H3 1 J oP J J J J J J J ?_
 let vK:=box aY #[.bool (cF ss at_ er 119),.string ⟨#[]⟩,I 0] 43
 let bV:=[vK,J0]
 intro w3 (H5:HI M w w3 ((DN::bV)++r))
 refine bz<|aQ pg J J<|bq H5 1 J oP J J J<|k<|jY J J<|z<|nx<|cd (b:=!(cF ss at_ er 119)) J J (fun b1=>?_)<|fun b1=>?_
 ·
  refine rg<|ai J i0<|k ?_
  have H6:HI M w w3 ([DN]++([vK,J0]++r)):=HI.aP (l:=(DN::bV)) (l':=(DN::bV)) (t:=r) H5 [0,1,2] au J J
  have cU:=iu (bN:=bN) (ss:=ss) (at_:=(eS ss at_ er 119)) (bM:=bM) (er:=er) (ch:=114) (w:=w) (w_:=w3) (r:=([vK,J0]++r)) (M:=M) bo (by have h_:=ct (b:=119) (e:=er) eQ;have lG:=ct (b:=119) (e:=cq er 3) eQ;unfold aJ;omega) eU nq au (by have h_:=ct (b:=119) (e:=er) eQ;have lG:=ct (b:=119) (e:=cq er 3) eQ;omega) aj H6
  refine ca pI J (ec J<|ec J e0) cU ?_
  rintro _ w4 ⟨o0,o1,rfl,H7,q0,q1,q2,q3⟩
  let Ni:=box bN #[.string ss,I o0,I bM,I o1] 66
  have H8:HI M w w4 ((Ni::bV)++r):=H7
  refine bz<|ai J i0<|k ?_
  have H9:HI M w w4 ([Ni]++([vK,J0]++r)):=HI.aP (l:=(Ni::bV)) (l':=(Ni::bV)) (t:=r) H8 [0,1,2] au J J
  have fP:=iu (bN:=bN) (ss:=ss) (at_:=o0) (bM:=bM) (er:=o1) (ch:=58) (w:=w) (w_:=w4) (r:=([vK,J0]++r)) (M:=M) bo aR eU aR au aj aj H9
  refine ca pI J (ec J<|ec J e0) fP ?_
  rintro _ w5 ⟨o2,o3,rfl,dO,q4,q5,q6,q7⟩
  let Nh:=box bN #[.string ss,I o2,I bM,I o3] 66
  have cV:HI M w w5 ((Nh::bV)++r):=dO
  refine bz<|ai J i0<|k ?_
  have du:HI M w w5 ([Nh]++([vK,J0]++r)):=HI.aP (l:=(Nh::bV)) (l':=(Nh::bV)) (t:=r) cV [0,1,2] au J J
  have eZ:=qQ (bN:=bN) (ss:=ss) (at_:=o2) (bM:=bM) (er:=o3) (w:=w) (w_:=w5) (r:=([vK,J0]++r)) (M:=M) bo aR eU aR aj aj du
  refine ca FM J (ec J e0) eZ ?_
  rintro _ w6 ⟨o4,o5,o6,rfl,dJ,q8,q9,u5,xC,Eo⟩
  let Ng:=box bN #[.string ss,I o4,I bM,I o5] 66
  refine aQ lW J J<|k<|bw dJ 1 J nD J J J J J J J ?_
  let yk:=box aY #[.bool (cF ss at_ er 119),.string o6,I 0] 43
  intro w7 (dU:HI M w w7 ([Ng,yk,J0]++r))
  refine bz<|ai J i0<|k ?_
  have dt:HI M w w7 ([Ng]++([yk,J0]++r)):=HI.aP (l:=[Ng,yk,J0]) (l':=[Ng,yk,J0]) (t:=r) dU [0,1,2] au J J
  have mx:=iu (bN:=bN) (ss:=ss) (at_:=o4) (bM:=bM) (er:=o5) (ch:=61) (w:=w) (w_:=w7) (r:=([yk,J0]++r)) (M:=M) bo aR eU aR au aj aj dt
  refine ca pI J (ec J<|ec J e0) mx ?_
  rintro _ w8 ⟨o7,o8,rfl,cR,u4,Oi,CF,CE⟩
  let JO:=box bN #[.string ss,I o7,I bM,I o8] 66
  have dI:HI M w w8 ([JO,yk,J0]++r):=cR
  refine bz<|ai J i0<|k ?_
  have dw:HI M w w8 ([JO]++([yk,J0]++r)):=HI.aP (l:=[JO,yk,J0]) (l':=[JO,yk,J0]) (t:=r) dI [0,1,2] au J J
  have nu:=oA (bN:=bN) (ss:=ss) (at_:=o7) (bM:=bM) (er:=o8) (w:=w) (w_:=w8) (r:=([yk,J0]++r)) (M:=M) bo aR eU aR aj aj dw
  refine ca FL J (ec J e0) nu ?_
  rintro _ w9 ⟨o9,kM,gq,rfl,cE,yy,xB,q19,xA,En⟩
  refine aQ oo J J<|k<|bw cE 1 J aT J J J J J J J ?_
  let EX:=box aY #[.bool (cF ss at_ er 119),.string o6,I gq] 43
  intro dM (dH:HI M w dM ([box bN #[.string ss,I o9,I bM,I kM] 66,EX,J0]++r))
  refine bz<|ai J i0<|k<|nc J J<|aQ nr J J<|bq dH 0 J aT J J J<|k<|add J J J J aR<|k<|nc J J<|aQ nr J J<|k<|bw dH 0 J aT J J J J J J J ?_
  let EW:=box bN #[.string ss,I o9,I (bM+1),I kM] 66
  intro ee (eP:HI M w ee ([EW,EX,J0]++r))
  refine bz<|k<|cB eP 1 J fY J J au J<|k<|bw eP 2 J fY J J J J J J J ?_
  let Uq:=box aZ #[.bool (cF ss at_ er 119),.string o6,I gq] 43
  intro ft (ff:HI M w ft ([EW,EX,Uq]++r))
  refine aq<|rt<|py ff 2 J fY J J J J au ?_
  have gr:=HI.aP (l:=[EW,EX,Uq]) (l':=[EW]) (t:=r) ff [0] au J J
  have e0:(cF ss at_ er 119:Bool)=(cF ss at_ er 119):=rfl
  have e1:(bM+1:Int)=(bM+1):=rfl
  try rw[←e0]
  try rw[←e1]
  refine⟨o9,kM,(cF ss at_ er 119),o6,gq,?_,?_,(by simp only[Ak,IV,IU,q0,q4,q8,u4,yy,b0,(gl b1),BL]),(by have h_:=ct (b:=119) (e:=er) eQ;have lG:=ct (b:=119) (e:=cq er 3) eQ;omega),aj,bo,bo,(by have h_:=ct (b:=119) (e:=er) eQ;have lG:=ct (b:=119) (e:=cq er 3) eQ;omega)⟩
  · first|rfl|simp only[e0,e1]|(simp only[am'])
  · first|exact gr|simpa +zetaDelta only[e0,e1,am'] using gr
 refine sk<|cO<|ai J i0<|k ?_
 have H6:HI M w w3 ([DN]++([vK,J0]++r)):=HI.aP (l:=(DN::bV)) (l':=(DN::bV)) (t:=r) H5 [0,1,2] au J J
 have cU:=iu (bN:=bN) (ss:=ss) (at_:=(eS ss at_ er 119)) (bM:=bM) (er:=er) (ch:=58) (w:=w) (w_:=w3) (r:=([vK,J0]++r)) (M:=M) bo (by have h_:=ct (b:=119) (e:=er) eQ;have lG:=ct (b:=119) (e:=cq er 3) eQ;unfold aJ;omega) eU nq au (by have h_:=ct (b:=119) (e:=er) eQ;have lG:=ct (b:=119) (e:=cq er 3) eQ;omega) aj H6
 refine ca pI J (ec J<|ec J e0) cU ?_
 rintro _ w4 ⟨o0,o1,rfl,H7,q0,q1,q2,q3⟩
 let Hy:=box bN #[.string ss,I o0,I bM,I o1] 66
 have H8:HI M w w4 ((Hy::bV)++r):=H7
 refine bz<|ai J i0<|k ?_
 have H9:HI M w w4 ([Hy]++([vK,J0]++r)):=HI.aP (l:=(Hy::bV)) (l':=(Hy::bV)) (t:=r) H8 [0,1,2] au J J
 have fP:=qQ (bN:=bN) (ss:=ss) (at_:=o0) (bM:=bM) (er:=o1) (w:=w) (w_:=w4) (r:=([vK,J0]++r)) (M:=M) bo aR eU aR aj aj H9
 refine ca FM J (ec J e0) fP ?_
 rintro _ w5 ⟨o2,o3,o4,rfl,dO,q4,q5,q6,q7,q8⟩
 let EV:=box bN #[.string ss,I o2,I bM,I o3] 66
 refine aQ lW J J<|k<|bw dO 1 J nD J J J J J J J ?_
 let AP:=box aY #[.bool (cF ss at_ er 119),.string o4,I 0] 43
 intro w6 (du:HI M w w6 ([EV,AP,J0]++r))
 refine bz<|ai J i0<|k ?_
 have dJ:HI M w w6 ([EV]++([AP,J0]++r)):=HI.aP (l:=[EV,AP,J0]) (l':=[EV,AP,J0]) (t:=r) du [0,1,2] au J J
 have eZ:=iu (bN:=bN) (ss:=ss) (at_:=o2) (bM:=bM) (er:=o3) (ch:=61) (w:=w) (w_:=w6) (r:=([AP,J0]++r)) (M:=M) bo aR eU aR au aj aj dJ
 refine ca pI J (ec J<|ec J e0) eZ ?_
 rintro _ w7 ⟨o5,o6,rfl,cM,q9,u5,xC,Eo⟩
 let YK:=box bN #[.string ss,I o5,I bM,I o6] 66
 have dU:HI M w w7 ([YK,AP,J0]++r):=cM
 refine bz<|ai J i0<|k ?_
 have dt:HI M w w7 ([YK]++([AP,J0]++r)):=HI.aP (l:=[YK,AP,J0]) (l':=[YK,AP,J0]) (t:=r) dU [0,1,2] au J J
 have mx:=oA (bN:=bN) (ss:=ss) (at_:=o5) (bM:=bM) (er:=o6) (w:=w) (w_:=w7) (r:=([AP,J0]++r)) (M:=M) bo aR eU aR aj aj dt
 refine ca FL J (ec J e0) mx ?_
 rintro _ w8 ⟨o7,o8,o9,rfl,cR,u4,Oi,CF,CE,yy⟩
 refine aQ oo J J<|k<|bw cR 1 J aT J J J J J J J ?_
 let YJ:=box aY #[.bool (cF ss at_ er 119),.string o4,I o9] 43
 intro w9 (dw:HI M w w9 ([box bN #[.string ss,I o7,I bM,I o8] 66,YJ,J0]++r))
 refine bz<|ai J i0<|k<|nc J J<|aQ nr J J<|bq dw 0 J aT J J J<|k<|add J J J J aR<|k<|nc J J<|aQ nr J J<|k<|bw dw 0 J aT J J J J J J J ?_
 let YI:=box bN #[.string ss,I o7,I (bM+1),I o8] 66
 intro dM (cE:HI M w dM ([YI,YJ,J0]++r))
 refine bz<|k<|cB cE 1 J fY J J au J<|k<|bw cE 2 J fY J J J J J J J ?_
 let J68:=box aZ #[.bool (cF ss at_ er 119),.string o4,I o9] 43
 intro ee (df:HI M w ee ([YI,YJ,J68]++r))
 refine aq<|rt<|py df 2 J fY J J J J au ?_
 have dH:=HI.aP (l:=[YI,YJ,J68]) (l':=[YI]) (t:=r) df [0] au J J
 have e0:(cF ss at_ er 119:Bool)=(cF ss at_ er 119):=rfl
 have e1:(bM+1:Int)=(bM+1):=rfl
 try rw[←e0]
 try rw[←e1]
 refine⟨o7,o8,(cF ss at_ er 119),o4,o9,?_,?_,(by simp only[Ak,IV,IU,q0,q4,q9,u4,b0,(fA b1),BL]),(by have h_:=ct (b:=119) (e:=er) eQ;have lG:=ct (b:=119) (e:=cq er 3) eQ;omega),aj,bo,bo,(by have h_:=ct (b:=119) (e:=er) eQ;have lG:=ct (b:=119) (e:=cq er 3) eQ;omega)⟩
 · first|rfl|simp only[e0,e1]|(simp only[am'])
 · first|exact dH|simpa +zetaDelta only[e0,e1,am'] using dH
theorem adp:cA aI 46:=cI Tryz.func46
theorem RQ (zH:ss.size≤maxLen) (lK:aJ at_) (eU:aJ bM) (nq:aJ er) (eQ:0≤at_∧at_≤(ss.size:Int)) (alO:er=0) (aid:0≤bM∧bM≤at_) (C5:ss.size≤1000000) (H:HI M w w_ ([box bN #[.string ss,I at_,I bM,I er] 66]++r)):Calls aI 22 #[pV bN 0] w_ (cp fun v w'=>∃(kF:Int) (l9:Int) (Si:Int) (ls:List gT) (a0:OA) (c0:Nat),v=sL a0 ls c0∧HI M w w' ([oL w 43 a0 ls c0,box bN #[.string ss,I kF,I Si,I l9] 66]++r)∧yK ss at_ bM er=(kF,Si,l9,ls)∧(0≤kF∧at_≤kF∧kF≤(ss.size:Int))∧(0≤l9∧l9≤3)∧(0≤Si∧Si≤kF+1)∧(l9=0→at_<kF∧Si≤kF)):=by
 refine enter 19 Tryz.func22 J J J fun f0 ha=>?_
 have i0:f0 0=pV bN 0:=ha 0 bl
 have Bz:maxLen=9223372036854775807:=rfl
 have ah4:=ct (b:=10) (e:=er) eQ
 refine az<|ak (v:=.slice none 0 0) J J<|aq<|sq<|az<|ai J i0<|k ?_
 let J0:=box bN #[.string ss,I at_,I bM,I er] 66
 have H0:HI M w w_ ([J0]++([]++r)):=HI.aP (l:=[J0]) (l':=[J0]) (t:=r) H [0] au J J
 have bS:=qP (bN:=bN) (ss:=ss) (at_:=at_) (bM:=bM) (er:=er) (ch:=10) (w:=w) (w_:=w_) (r:=([]++r)) (M:=M) bo lK eU nq au aj H0
 refine ca FQ J (ec J<|ec J e0) bS ?_
 rintro _ w0 ⟨rfl,H1⟩
 let J1:=box bN #[.string ss,I (eS ss at_ er 10),I bM,I er] 66
 have H2:HI M w w0 ([J1]++r):=H1
 refine z<|nx<|cd (b:=cF ss at_ er 10) J J (fun b0=>?_)<|fun b0=>?_
 ·
  refine sq ?_
  have al8:eS ss at_ er 10=at_+1:=by unfold eS;rw[‹cF ss at_ er 10=true›];rfl
  refine rg<|ak (v:=.slice none 0 0) J J<|aq<|rt<|aK<|r1 J J ?_
  have H3:=H2.ql (Bool×bf×Int) 43
  have e0:(eS ss at_ er 10:Int)=(eS ss at_ er 10):=rfl
  try rw[←e0]
  refine⟨(eS ss at_ er 10),er,bM,([]:List (Bool×bf×Int)),none,0,?_,?_,(by simp only[yK,b0,BL]),aj,aj,aj,aj⟩
  · first|rfl|simp only[e0]|(simp only[am'])
  · first|exact H3|simpa +zetaDelta only[e0,am'] using H3
 refine sk<|cO<|ai J i0<|k ?_
 have H3:HI M w w0 ([J1]++([]++r)):=HI.aP (l:=[J1]) (l':=[J1]) (t:=r) H2 [0] au J J
 have cU:=Oh (bN:=bN) (ss:=ss) (at_:=(eS ss at_ er 10)) (bM:=bM) (er:=er) (w:=w) (w_:=w0) (r:=([]++r)) (M:=M) bo aR eU nq aj aj aj H3
 refine ca adp J (ec J e0) cU ?_
 rintro _ w1 ⟨o0,o1,o2,o3,o4,rfl,H4,q0,q1,q2,q3,q4,q5⟩
 let J2:=box bN #[.string ss,I o0,I (bM+1),I o1] 66
 have H5:HI M w w1 ([J2]++r):=H4
 refine k<|bs (xs:=([(o2,o3,o4)]:List (Bool×bf×Int))) (cells:=#[.bool o2,.string o3,I o4]) (e:=43) H5 J (cm J ew) (fun _=>aS) ⟨[.bool o2,.string o3,I o4],[],J,⟨_,_,J,J,⟨_,_,J,⟨J,(by dsimp only;omega)⟩,⟨J,(show aJ (o4) from bo)⟩⟩⟩,J⟩ J au ?_
 intro g0 w2 bY (H6:HI M w w2 ([own w.heap.size 43 (.slice (some ⟨g0,0,none⟩) 1 1) ([(o2,o3,o4)]:List (Bool×bf×Int)),J2]++r))
 refine ak (v:=.slice (some ⟨g0,0,none⟩) 1 1) J J<|aq<|sq<|bk<|lp (fun m f w'=>∃(CY:Nat) (p_:Int) (n_:Int) (e_:Int) (iA:List gT) (a0:OA) (c0:Nat),m=CY+1∧f 0=pV bN 0∧f 3=sL a0 iA c0∧HI M w w' ([oL w 43 a0 iA c0,box bN #[.string ss,I p_,I n_,I e_] 66]++r)∧(Bh ss (ss.size+1) o0 (bM+1) o1 ([(o2,o3,o4)]:List (Bool×bf×Int))=Bh ss CY p_ n_ e_ iA)∧(0≤p_∧o0≤p_∧p_≤(ss.size:Int)∧(ss.size:Int)-p_<(CY:Int))∧(0≤e_∧e_≤3)∧(0≤n_∧n_≤p_+1∧(e_=0→n_≤p_∧at_<p_))∧((iA.length:Int)=n_-bM)) _ ⟨(ss.size+1),o0,(bM+1),o1,([(o2,o3,o4)]:List (Bool×bf×Int)),(some ⟨g0,0,none⟩),1,J,i0,J,H6,(by rfl),(by push_cast;omega),bo,aj,(by simp only[iI,gj];omega)⟩ ?_
 rintro _ f0 w3 ⟨CY,p_,n_,e_,iA,a0,c0,rfl,s0,s1,H7,hs,Ja,he_,C_,aik⟩
 refine sq<|sq ?_
 have al':=ct (b:=32) (e:=e_) (s:=ss) (a:=p_) ⟨by omega,by omega⟩
 refine rg<|ai J s0<|k ?_
 let J3:=box bN #[.string ss,I p_,I n_,I e_] 66
 let J4:=oL w 43 a0 iA c0
 have H8:HI M w w3 ([J3]++([J4]++r)):=HI.aP (l:=[J4,J3]) (l':=[J3,J4]) (t:=r) H7 [1,0] au J J
 have fP:=qP (bN:=bN) (ss:=ss) (at_:=p_) (bM:=n_) (er:=e_) (ch:=32) (w:=w) (w_:=w3) (r:=([J4]++r)) (M:=M) bo aR aR aR au aj H8
 refine ca FQ J (ec J<|ec J e0) fP ?_
 rintro _ w4 ⟨rfl,H9⟩
 let J5:=box bN #[.string ss,I (eS ss p_ e_ 32),I n_,I e_] 66
 have dO:HI M w w4 ([J5,J4]++r):=H9
 refine z<|nx<|cd (b:=cF ss p_ e_ 32) J J (fun b1=>?_)<|fun b1=>?_
 ·
  refine sk<|nx<|bk ?_
  obtain⟨amd,amc, -⟩:=HM ‹cF ss p_ e_ 32=true›
  have al9:eS ss p_ e_ 32=p_+1:=by unfold eS;rw[‹cF ss p_ e_ 32=true›];rfl
  refine rg<|ai J s1<|ai J s0<|k ?_
  have cV:HI M w w4 ([J5]++([J4]++r)):=HI.aP (l:=[J5,J4]) (l':=[J5,J4]) (t:=r) dO [0,1] au J J
  have eZ:=Oh (bN:=bN) (ss:=ss) (at_:=(eS ss p_ e_ 32)) (bM:=n_) (er:=e_) (w:=w) (w_:=w4) (r:=([J4]++r)) (M:=M) bo aR aR aR aj aj aj cV
  refine ca adp J (ec J e0) eZ ?_
  rintro _ w5 ⟨o5,o6,o7,o8,o9,rfl,du,q6,q7,q8,q9,u5,xC⟩
  let J6:=box bN #[.string ss,I o5,I (n_+1),I o6] 66
  have dJ:HI M w w5 ([J6,J4]++r):=du
  refine k<|bs (xs:=([(o7,o8,o9)]:List (Bool×bf×Int))) (cells:=#[.bool o7,.string o8,I o9]) (e:=43) dJ J (cm J ew) (fun _=>aS) ⟨[.bool o7,.string o8,I o9],[],J,⟨_,_,J,J,⟨_,_,J,⟨J,(by dsimp only;omega)⟩,⟨J,(show aJ (o9) from bo)⟩⟩⟩,J⟩ J au ?_
  intro g1 w6 cT (cM:HI M w w6 ([own w.heap.size 43 (.slice (some ⟨g1,0,none⟩) 1 1) ([(o7,o8,o9)]:List (Bool×bf×Int)),J6,J4]++r))
  let J7:=own w.heap.size 43 (.slice (some ⟨g1,0,none⟩) 1 1) ([(o7,o8,o9)]:List (Bool×bf×Int))
  refine k<|lY cM 2 J J J J J J (gY<|cM.at_ 0 J) lP fY J (by simp only[iI,gj];omega) J ?_
  intro a1 c1 w7 (dU:HI M w w7 ([J7,J6,oL w 43 a1 (iA++([(o7,o8,o9)]:List (Bool×bf×Int))) c1]++r))
  let J8:=oL w 43 a1 (iA++([(o7,o8,o9)]:List (Bool×bf×Int))) c1
  refine ak (v:=sL a1 (iA++([(o7,o8,o9)]:List (Bool×bf×Int))) c1) J J<|z<|aG ?_
  have dt:HI M w w7 ([J8,J6]++r):=HI.aP (l:=[J7,J6,J8]) (l':=[J8,J6]) (t:=r) dU [2,1] au J J
  refine bF _ ?_ ⟨(CY-1),o5,(n_+1),o6,(iA++([(o7,o8,o9)]:List (Bool×bf×Int))),a1,c1,J,s0,J,dt,(by exact Vh hs aj ‹cF ss p_ e_ 32=true› q6),aj,bo,aj,(by simp only[fF,iI,gj];omega)⟩
  omega
 refine ex<|aV<|bc<|bg<|nx<|sq ?_
 have L3:=Vg hs ‹cF ss p_ e_ 32=false›
 refine rg<|ai J s0<|k ?_
 have cV:HI M w w4 ([J5]++([J4]++r)):=HI.aP (l:=[J5,J4]) (l':=[J5,J4]) (t:=r) dO [0,1] au J J
 have eZ:=iu (bN:=bN) (ss:=ss) (at_:=(eS ss p_ e_ 32)) (bM:=n_) (er:=e_) (ch:=10) (w:=w) (w_:=w4) (r:=([J4]++r)) (M:=M) bo aR aR aR au aj aj cV
 refine ca pI J (ec J<|ec J e0) eZ ?_
 rintro _ w5 ⟨o5,o6,rfl,du,q6,q7,q8,q9⟩
 let J9:=box bN #[.string ss,I o5,I n_,I o6] 66
 have dJ:HI M w w5 ([J9,J4]++r):=du
 refine bz<|ai J s1<|ak (v:=sL a0 iA c0) J J<|aq<|rt<|r1 J J ?_
 have cM:=HI.aP (l:=[J9,J4]) (l':=[J4,J9]) (t:=r) dJ [1,0] au J J
 refine⟨o5,o6,n_,iA,a0,c0,?_,?_,(by simp only[yK,L3,q0,q6,b0,b1,BL]),aj,bo,aj,aj⟩
 · first|rfl|simp only[am']
 · first|exact cM|simpa +zetaDelta only[am'] using cM
theorem ajl:cA aI 22:=cI Tryz.func22
theorem RR (hM:eO M w) (zH:ss.size≤maxLen) (C5:ss.size≤1000000):Calls aI 11 #[.string ss] w (cp fun v w'=>∃(hs_:dh) (kF:Int) (l9:Int) (a0:OA) (c0:Nat),v=.tuple #[sL a0 hs_ c0,I kF,I l9]∧Ext w w'∧cD M w' a0 c0 hs_∧kI ss=(hs_,kF,l9)∧(0≤kF∧kF≤(ss.size:Int))∧(0≤l9∧l9≤3)):=by
 refine dG 43 Tryz.func11 J J J hM fun f0 ha H=>?_
 have i0:f0 0=.string ss:=ha 0 bl
 have Bz:maxLen=9223372036854775807:=rfl
 refine az<|ak (v:=.slice none 0 0) J J<|ak (v:=I 0) J J<|ak (v:=I 0) J J<|bz<|ai J i0<|k<|bd (v:=.agg #[.string ss,I 0,I 0,I 0]) J (cm J ew) (fun _=>aS)<|k<|bx H J J ?_
 intro aZ w0 bY (H0:HI M w w0 [box aZ #[.string ss,I 0,I 0,I 0] 66])
 refine ak (v:=pV aZ 0) J J<|bz<|ak (v:=.slice none 0 0) J J<|aq<|sq<|bk ?_
 have H1:=H0.ql (List<|Bool×bf×Int) 40
 refine lp (fun m f w'=>∃(CY:Nat) (p_:Int) (n_:Int) (e_:Int) (h_:List (List<|Bool×bf×Int)) (a0:OA) (c0:Nat),m=CY+1∧f 0=.string ss∧f 5=pV aZ 0∧f 6=sL a0 h_ c0∧HI M w w' [oL w 40 a0 h_ c0,box aZ #[.string ss,I p_,I n_,I e_] 66]∧(pP ss (ss.size+1) 0 0 0 []=pP ss CY p_ n_ e_ h_)∧(0≤p_∧p_≤(ss.size:Int))∧(0≤e_∧e_≤3)∧(0≤n_∧(e_=0→n_≤p_∧(ss.size:Int)-p_<(CY:Int)∧(h_.length:Int)≤p_))∧((h_.length:Int)≤p_+1)) _ ⟨(ss.size+1),0,0,0,([]:List (List<|Bool×bf×Int)),none,0,J,i0,J,J,H1,(by rfl),aj,aj,(by simp only[gj];omega),(by simp only[gj];omega)⟩ ?_
 rintro _ f0 w1 ⟨CY,p_,n_,e_,h_,a0,c0,rfl,s0,s1,s2,H2,hs,Ja,he_,C_,aik⟩
 refine sq<|az<|ai J s1<|k<|nc J J<|aQ tP J J<|bq H2 1 J xi J J J<|k<|eql J J J J<|ai (v:=.bool (decide (e_=0))) J J ?_
 rcases bE (decide (e_=0)) with b0|b0
 ·
  have p0:=dT b0
  refine bh J J J b0<|mv J s1<|bh J J J b0<|nc J J<|bh J J J b0<|fa kr J J<|bh J J J b0<|lx H2 1 J aT J J J<|bh J J J b0<|mv J s0<|bh J J J b0<|wi J J mK<|bh J J J b0<|lss J J J J<|k<|aP J J J J b0 J<|z<|nx<|cd (b:=decide (p_<(ss.size:Int))) J J (fun b1=>?_)<|fun b1=>?_
  ·
   have p1:=dT b1
   refine sk<|nx<|bk<|rg<|ai J s2<|ai J s1<|k ?_
   have H3:HI M w w1 ([box aZ #[.string ss,I p_,I n_,I e_] 66]++[oL w 40 a0 h_ c0]):=H2.bX [1,0] au J
   have bS:=RQ (bN:=aZ) (ss:=ss) (at_:=p_) (bM:=n_) (er:=e_) (w:=w) (w_:=w1) (r:=[oL w 40 a0 h_ c0]) (M:=M) bo aR aR aR aj bo aj (by exact C5) H3
   refine ca ajl J (ec J e0) bS ?_
   rintro _ w2 ⟨o0,o1,o2,o3,a1,c1,rfl,H4,q0,q1,q2,q3,q4⟩
   let J0:=box aZ #[.string ss,I o0,I o2,I o1] 66
   have H5:HI M w w2 [oL w 43 a1 o3 c1,J0,oL w 40 a0 h_ c0]:=H4
   refine k ?_
   have H6:=H5.freeze 0 J
   refine bs (xs:=([o3]:List (List<|Bool×bf×Int))) (cells:=#[sL a1 o3 c1]) (e:=40) H6 J (cm J ew) (fun _=>aS) ⟨[sL a1 o3 c1],[],J,⟨_,J,RV.list.1 (H6.rv 0 J)⟩,J⟩ J au ?_
   intro g0 w3 cT H7
   refine k<|lY H7 3 J J J J J J (gY<|H7.at_ 0 J) kZ lQ J (by simp only[iI,gj];omega) J ?_
   intro a2 c2 w4 (H8:HI M w w4 [own w.heap.size 40 (.slice (some ⟨g0,0,none⟩) 1 1) ([o3]:List (List (Bool×bf×Int))),iL a1 o3 c1,J0,oL w 40 a2 (h_++([o3]:List (List (Bool×bf×Int)))) c2])
   refine ak (v:=sL a2 (h_++([o3]:List (List<|Bool×bf×Int))) c2) J J<|z<|aG ?_
   have H9:HI M w w4 [oL w 40 a2 (h_++([o3]:List (List (Bool×bf×Int)))) c2,J0]:=H8.bX [3,2] au J
   refine bF _ ?_ ⟨(CY-1),o0,o2,o1,(h_++([o3]:List (List<|Bool×bf×Int))),a2,c2,J,s0,s1,J,H9,(by exact Qa hs aj ‹decide (e_=0)=true› ‹decide (p_<(ss.size:Int))=true› q0),aj,bo,(by simp only[fF,iI,gj];omega),(by simp only[fF,iI,gj];omega)⟩
   omega
  refine ex<|aV<|bc<|bg<|nx<|sq<|sq ?_
  have L3:=GI hs<|by rw[‹decide (e_=0)=true›,‹decide (p_<(ss.size:Int))=false›];rfl
  refine rg<|ai J s1<|k<|nc J J<|aQ tP J J<|bq H2 1 J xi J J J<|k<|neq J J J J<|aq<|pB J J (by rw[show (decide (e_=0))=true from b0]<;>rfl)<|sk<|cO<|ai J s2<|ak (v:=sL a0 h_ c0) J J<|ak (v:=I 0) J J<|ak (v:=I 0) J J<|aq<|rt<|r3 J J J J ?_
  exact⟨h_,0,0,a0,c0,J,H2.below,(H2.mB 0 J),(by simp only[kI,L3,b0,b1,BL]),aj,aj⟩
 refine aW J J J b0<|aW J J J b0<|aW J J J b0<|aW J J J b0<|aW J J J b0<|aW J J J b0<|aW J J J b0<|k<|dA J J J J b0 J<|aq<|pB J J J<|ex<|aV<|bc<|bg<|nx<|sq<|sq ?_
 have L3:=GI hs<|by rw[‹decide (e_=0)=false›];rfl
 refine rg<|ai J s1<|k<|nc J J<|aQ tP J J<|bq H2 1 J xi J J J<|k<|neq J J J J<|aq<|ot J J (by rw[show (decide (e_=0))=false from b0]<;>rfl)<|sq<|zb J aS<|kq (fun _ _=>mv J s1 e1)<|kq (fun _ _=>nc J J e1)<|kq (fun _ _=>fa kr J J e1)<|kq (fun _ x_=>lx (H2.ext x_) 1 J aT J J J e1)<|kq (fun _ _=>mv J s1 e1)<|kq (fun _ _=>nc J J e1)<|kq (fun _ _=>fa tP J J e1)<|kq (fun _ x_=>lx (H2.ext x_) 1 J xi J J J e1)<|kq (fun _ _=>jO (v:=.slice none 0 0) J J e1)<|kq (fun _ _=>jO (v:=I p_) J J e1)<|kq (fun _ _=>jO (v:=I e_) J J e1)<|zq ?_
 intro w2 cT
 have H3:=H2.ext cT
 refine nx<|rt<|aK<|r3 J J J J ?_
 exact⟨([]:List (List<|Bool×bf×Int)),p_,e_,none,0,J,H3.below,(eF _ _),(by simp only[kI,L3,b0,BL]),aj,bo⟩
theorem ajo:cA aI 11:=cI Tryz.func11
theorem QH:cA aI 15:=cI Tryz.func15
theorem Hm (hM:eO M w) (hT:fU 0 w) (zH:ss.size≤maxLen) (pH:aJ lv) (C5:ss.size≤1000000) (ah3:(kI ss).2.2=0→(kI ss).1.flatten.length≤64):Calls aI 10 #[.string ss,I lv] w (cp fun v w'=>∃(lc_:Int) (nc_:Int) (RT:List (List bt)) (Ul:aA) (RU:List aA) (jd:List cN) (fw_:Int) (nw_:Int) (a0:OA) (c0:Nat) (a1:OA) (c1:Nat) (a2:OA) (c2:Nat) (a3:OA) (c3:Nat),v=.agg #[I (uZ ss lv),I (z8 ss lv),I ((tq ss lv).1),I ((tq ss lv).2),I (z7 ss lv),.bool (rF ss lv),I lc_,I nc_,sL a0 RT c0,sL a1 Ul c1,sL a2 RU c2,I ((kH ss lv).1),I ((kH ss lv).2.1),I ((kH ss lv).2.2.1),I ((kH ss lv).2.2.2.1),I ((kH ss lv).2.2.2.2),sL a3 jd c3,I fw_,I nw_]∧Ext w w'∧cD M w' a0 c0 RT∧cD M w' a1 c1 Ul∧cD M w' a2 c2 RU∧cD M w' a3 c3 jd):=by
 refine dG 26 Tryz.func10 J J J hM fun f0 ha H=>?_
 have i0:f0 0=.string ss:=ha 0 bl
 have i1:f0 1=I lv:=ha 1 bl
 refine az<|k<|al H k0 ?_
 intro aZ w0 bY (H0:HI M w w0 [box aZ #[I 0,I 0,I 0,I 0,I 0,.bool false,I 0,I 0,.slice none 0 0,.slice none 0 0,.slice none 0 0,I 0,I 0,I 0,I 0,I 0,.slice none 0 0,I 0,I 0] 35])
 refine aq<|sq<|az<|ai J i1<|k ?_
 have bS:=EP (lv:=lv) (w:=w0) pH
 refine ca adr J (ec J e0) bS ?_
 rintro _ w1 ⟨rfl,cT⟩
 have H1:=H0.ext cT
 refine k<|jY J J<|z<|nx<|cd (b:=!(decide (0<(((dV lv).length:Nat):Int)))) J J (fun b0=>?_)<|fun b0=>?_
 ·
  have p0:=dF<|gl b0
  refine sq ?_
  obtain⟨qZ,Mf,nU,tM,rU,gQ⟩:=aeN (s:=ss) (show sS lv=false from gl ‹(!decide (0<(((dV lv).length:Nat):Int)))=true›)
  refine rg<|k<|bd (v:=.agg #[I 1,I 0,I 0,I 0,I 0,.bool false,I 0,I 0,.slice none 0 0,.slice none 0 0,.slice none 0 0,I 0,I 0,I 0,I 0,I 0,.slice none 0 0,I 0,I 0]) J (cm J ew) (fun _=>aS)<|k<|bw H1 0 J k0 J J J J J J J ?_
  intro w2 (H2:HI M w w2 [box aZ #[I 1,I 0,I 0,I 0,I 0,.bool false,I 0,I 0,.slice none 0 0,.slice none 0 0,.slice none 0 0,I 0,I 0,I 0,I 0,I 0,.slice none 0 0,I 0,I 0] 35])
  refine aq<|rt<|aK<|py H2 0 J k0 J J J J au ?_
  have e0:(1:Int)=uZ ss lv:=by exact qZ.symm
  have e1:(0:Int)=z8 ss lv:=by exact Mf.symm
  have e2:(0:Int)=(tq ss lv).1:=by rw[nU]
  have e3:(0:Int)=(tq ss lv).2:=by rw[nU]
  have e4:(0:Int)=z7 ss lv:=by exact tM.symm
  have e5:(false:Bool)=rF ss lv:=by exact rU.symm
  have sc:(0:Int)=(kH ss lv).1:=by rw[gQ]
  have ta:(0:Int)=(kH ss lv).2.1:=by rw[gQ]
  have r9:(0:Int)=(kH ss lv).2.2.1:=by rw[gQ]
  have tT:(0:Int)=(kH ss lv).2.2.2.1:=by rw[gQ]
  have tS:(0:Int)=(kH ss lv).2.2.2.2:=by rw[gQ]
  have bu:=Ws (fun (cg:Int) (dY:Int) (gV:Int) (na:Int) (xe:Int) (xc:Bool) (su:Int) (sr:Int) (so:Int) (sm:Int) (sl:Int)=>(.agg #[I cg,I dY,I gV,I na,I xe,.bool xc,I 0,I 0,.slice none ([]:List (List bt)).length 0,.slice none ([]:aA).length 0,.slice none ([]:List aA).length 0,I su,I sr,I so,I sm,I sl,.slice none ([]:List cN).length 0,I 0,I 0]:Value)) e0 e1 e2 e3 e4 e5 sc ta r9 tT tS
  exact⟨0,0,([]:List (List bt)),([]:aA),([]:List aA),([]:List cN),0,0,none,0,none,0,none,0,none,0,bu,H2.below,(eF _ _),(eF _ _),(eF _ _),(eF _ _)⟩
 have p0:=dT<|fA b0
 refine sk<|cO<|ai J i0<|k ?_
 have cU:=RR (ss:=ss) H1.mb bo<|by exact C5
 refine ca ajo J (ec J e0) cU ?_
 rintro _ w2 ⟨o0,o1,o2,a0,c0,rfl,fk,cw,q0,q1,q2⟩
 have H2:=H1.ext fk
 have H3:=eG H2 cw
 refine ai (v:=.tuple #[sL a0 o0 c0,I o1,I o2]) J J<|k<|xt J J J<|k<|xt J J J<|k<|xt J J J<|ak (v:=sL a0 o0 c0) J J<|ak (v:=I o1) J J<|ak (v:=I o2) J J<|aq<|sq<|az<|ai (v:=I o2) J J<|k<|neq J J J J<|z<|nx<|cd (b:=!decide (o2=0)) J J (fun b1=>?_)<|fun b1=>?_
 ·
  have p1:=dF<|gl b1
  refine sq ?_
  obtain⟨qZ,Mf,nU,tM,rU,gQ⟩:=aaL (show sS lv=true from fA ‹(!decide (0<(((dV lv).length:Nat):Int)))=false›) q0 (dF (gl bo))
  refine rg<|ai (v:=I o2) J J<|ai (v:=I o1) J J<|k<|bd (v:=.agg #[I o2,I o1,I 0,I 0,I 0,.bool false,I 0,I 0,.slice none 0 0,.slice none 0 0,.slice none 0 0,I 0,I 0,I 0,I 0,I 0,.slice none 0 0,I 0,I 0]) J (cm J<|cm J ew) (fun _=>aS)<|k<|bw H3 1 J k0 J J J J J J J ?_
  intro w3 (H4:HI M w w3 [iL a0 o0 c0,box aZ #[I o2,I o1,I 0,I 0,I 0,.bool false,I 0,I 0,.slice none 0 0,.slice none 0 0,.slice none 0 0,I 0,I 0,I 0,I 0,I 0,.slice none 0 0,I 0,I 0] 35])
  refine aq<|rt<|aK<|py H4 1 J k0 J J J J au ?_
  have e0:(o2:Int)=uZ ss lv:=by exact qZ.symm
  have e1:(o1:Int)=z8 ss lv:=by exact Mf.symm
  have e2:(0:Int)=(tq ss lv).1:=by rw[nU]
  have e3:(0:Int)=(tq ss lv).2:=by rw[nU]
  have e4:(0:Int)=z7 ss lv:=by exact tM.symm
  have e5:(false:Bool)=rF ss lv:=by exact rU.symm
  have sc:(0:Int)=(kH ss lv).1:=by rw[gQ]
  have ta:(0:Int)=(kH ss lv).2.1:=by rw[gQ]
  have r9:(0:Int)=(kH ss lv).2.2.1:=by rw[gQ]
  have tT:(0:Int)=(kH ss lv).2.2.2.1:=by rw[gQ]
  have tS:(0:Int)=(kH ss lv).2.2.2.2:=by rw[gQ]
  have bu:=Ws (fun (cg:Int) (dY:Int) (gV:Int) (na:Int) (xe:Int) (xc:Bool) (su:Int) (sr:Int) (so:Int) (sm:Int) (sl:Int)=>(.agg #[I cg,I dY,I gV,I na,I xe,.bool xc,I 0,I 0,.slice none ([]:List (List bt)).length 0,.slice none ([]:aA).length 0,.slice none ([]:List aA).length 0,I su,I sr,I so,I sm,I sl,.slice none ([]:List cN).length 0,I 0,I 0]:Value)) e0 e1 e2 e3 e4 e5 sc ta r9 tT tS
  exact⟨0,0,([]:List (List bt)),([]:aA),([]:List aA),([]:List cN),0,0,none,0,none,0,none,0,none,0,bu,H4.below,(eF _ _),(eF _ _),(eF _ _),(eF _ _)⟩
 have p1:=dT<|fA b1
 refine sk<|nx<|sq ?_
 have nn:=dT<|fA ‹(!decide (o2=0))=false›
 obtain⟨qZ,Mf,nU,tM,rU,gQ⟩:=PA (show sS lv=true from fA ‹(!decide (0<(((dV lv).length:Nat):Int)))=false›) q0 nn
 have amB:(o0.flatten).length≤64:=by have h_:=ah3;rw[q0] at h_;exact h_ nn
 refine rg<|ai (v:=sL a0 o0 c0) J J<|ai J i1<|k ?_
 have fP:=si (h:=o0) (lv:=lv) H3.mb (hT.ext H3.below) (H3.rv 0 J) pH aj aj
 refine ca QH J (ec J<|ec J e0) fP ?_
 rintro _ w3 ⟨o3,o4,o5,o6,o7,o8,o9,kM,a1,c1,a2,c2,a3,c3,a4,c4,rfl,fN,d_,dZ,fy,iT⟩
 have H4:=H3.ext fN
 have H5:=eG H4 d_
 have H6:=eG H5 dZ
 have H7:=eG H6 fy
 have H8:=eG H7 iT
 refine k<|bw H8 5 J k0 J J J J J J J ?_
 intro w4 (H9:HI M w w4 [iL a4 o8 c4,iL a3 o7 c3,iL a2 o6 c2,iL a1 o5 c1,iL a0 o0 c0,box aZ #[I (pz o0 lv),I 0,I ((mP o0 lv).1),I ((mP o0 lv).2),I (tI o0 lv),.bool (qz o0 lv),I o3,I o4,sL a1 o5 c1,sL a2 o6 c2,sL a3 o7 c3,I ((gX o0 lv).1),I ((gX o0 lv).2.1),I ((gX o0 lv).2.2.1),I ((gX o0 lv).2.2.2.1),I ((gX o0 lv).2.2.2.2),sL a4 o8 c4,I o9,I kM] 35])
 refine aq<|rt<|py H9 5 J k0 J J J J au ?_
 have e0:(pz o0 lv:Int)=uZ ss lv:=by exact qZ.symm
 have e1:(0:Int)=z8 ss lv:=by exact Mf.symm
 have e2:((mP o0 lv).1:Int)=(tq ss lv).1:=by rw[nU]
 have e3:((mP o0 lv).2:Int)=(tq ss lv).2:=by rw[nU]
 have e4:(tI o0 lv:Int)=z7 ss lv:=by exact tM.symm
 have e5:(qz o0 lv:Bool)=rF ss lv:=by exact rU.symm
 have sc:((gX o0 lv).1:Int)=(kH ss lv).1:=by rw[gQ]
 have ta:((gX o0 lv).2.1:Int)=(kH ss lv).2.1:=by rw[gQ]
 have r9:((gX o0 lv).2.2.1:Int)=(kH ss lv).2.2.1:=by rw[gQ]
 have tT:((gX o0 lv).2.2.2.1:Int)=(kH ss lv).2.2.2.1:=by rw[gQ]
 have tS:((gX o0 lv).2.2.2.2:Int)=(kH ss lv).2.2.2.2:=by rw[gQ]
 have bu:=Ws (fun (cg:Int) (dY:Int) (gV:Int) (na:Int) (xe:Int) (xc:Bool) (su:Int) (sr:Int) (so:Int) (sm:Int) (sl:Int)=>(.agg #[I cg,I dY,I gV,I na,I xe,.bool xc,I o3,I o4,.slice a1 o5.length c1,.slice a2 o6.length c2,.slice a3 o7.length c3,I su,I sr,I so,I sm,I sl,.slice a4 o8.length c4,I o9,I kM]:Value)) e0 e1 e2 e3 e4 e5 sc ta r9 tT tS
 exact⟨o3,o4,o5,o6,o7,o8,o9,kM,a1,c1,a2,c2,a3,c3,a4,c4,bu,H9.below,(H9.gf 3 J),(H9.gf 2 J),(H9.gf 1 J),(H9.gf 0 J)⟩
theorem adu:cA aI 10:=cI Tryz.func10
theorem Tq:gR aI 35 0 0:=jU Tryz.underlying35
theorem Dm:gR aI 35 5 5:=jU Tryz.underlying35
theorem adE:gR aI 35 7 11:=jU Tryz.underlying35
theorem ajm:cA aI 19:=cI Tryz.func19
theorem ajn:cA aI 13:=cI Tryz.func13
theorem sJ (hT:fU 0 w):Calls aI 9 #[] w (cp fun v w'=>v=.bool true∧Ext w w'):=by
 refine dG 31 Tryz.func9 J J J qt fun f0 ha H=>?_
 refine az<|ak (v:=.bool false) J J<|bz<|ak (v:=.string ⟨#[119,58,120,61,49,32,114,58,120,61,50,10,119,58,120,61,50,32,114,58,120,61,49,10]⟩) J J<|bz<|ai (v:=.string ⟨#[119,58,120,61,49,32,114,58,120,61,50,10,119,58,120,61,50,32,114,58,120,61,49,10]⟩) J J<|k ?_
 have bS:=Hm (ss:=⟨#[119,58,120,61,49,32,114,58,120,61,50,10,119,58,120,61,50,32,114,58,120,61,49,10]⟩) (lv:=3) (w:=w) H.mb (hT.ext H.below) au aR au<|by exact Ue
 refine ca adu J (ec J<|ec J e0) bS ?_
 rintro _ w0 ⟨o0,o1,o2,o3,o4,o5,o6,o7,a0,c0,a1,c1,a2,c2,a3,c3,rfl,bY,cw,d_,dZ,fy⟩
 have H0:=H.ext bY
 have H1:=eG H0 cw
 have H2:=eG H1 d_
 have H3:=eG H2 dZ
 have H4:=eG H3 fy
 refine ai (v:=.string ⟨#[119,58,120,61,49,32,114,58,120,61,50,10,119,58,120,61,50,32,114,58,120,61,49,10]⟩) J J<|k ?_
 have cU:=Hm (ss:=⟨#[119,58,120,61,49,32,114,58,120,61,50,10,119,58,120,61,50,32,114,58,120,61,49,10]⟩) (lv:=2) H4.mb (hT.ext H4.below) au aR au<|by exact Ue
 refine ca adu J (ec J<|ec J e0) cU ?_
 rintro _ w1 ⟨o8,o9,kM,gq,j5,yE,Gx,IZ,a4,c4,a5,c5,a6,c6,a7,c7,rfl,cT,iT,jS,je,lh⟩
 have H5:=H4.ext cT
 have H6:=eG H5 iT
 have H7:=eG H6 jS
 have H8:=eG H7 je
 have H9:=eG H8 lh
 refine k<|al H9 k0 ?_
 let ba:=[iL a7 yE c7,iL a6 j5 c6,iL a5 gq c5,iL a4 kM c4,iL a3 o5 c3,iL a2 o4 c2,iL a1 o3 c1,iL a0 o2 c0]
 intro aZ w2 fk (dO:HI (fun _=>False) w w2 (box aZ #[I 0,I 0,I 0,I 0,I 0,.bool false,I 0,I 0,.slice none 0 0,.slice none 0 0,.slice none 0 0,I 0,I 0,I 0,I 0,I 0,.slice none 0 0,I 0,I 0] 35::ba))
 refine k<|al dO k0 ?_
 intro aY w3 fN (cV:HI (fun _=>False) w w3 (box aY #[I 0,I 0,I 0,I 0,I 0,.bool false,I 0,I 0,.slice none 0 0,.slice none 0 0,.slice none 0 0,I 0,I 0,I 0,I 0,I 0,.slice none 0 0,I 0,I 0] 35::box aZ #[I 0,I 0,I 0,I 0,I 0,.bool false,I 0,I 0,.slice none 0 0,.slice none 0 0,.slice none 0 0,I 0,I 0,I 0,I 0,I 0,.slice none 0 0,I 0,I 0] 35::ba))
 refine k<|bw cV 1 J k0 J J J J J J J ?_
 let J0:=box aZ #[I (uZ ⟨#[119,58,120,61,49,32,114,58,120,61,50,10,119,58,120,61,50,32,114,58,120,61,49,10]⟩ 3),I (z8 ⟨#[119,58,120,61,49,32,114,58,120,61,50,10,119,58,120,61,50,32,114,58,120,61,49,10]⟩ 3),I ((tq ⟨#[119,58,120,61,49,32,114,58,120,61,50,10,119,58,120,61,50,32,114,58,120,61,49,10]⟩ 3).1),I ((tq ⟨#[119,58,120,61,49,32,114,58,120,61,50,10,119,58,120,61,50,32,114,58,120,61,49,10]⟩ 3).2),I (z7 ⟨#[119,58,120,61,49,32,114,58,120,61,50,10,119,58,120,61,50,32,114,58,120,61,49,10]⟩ 3),.bool (rF ⟨#[119,58,120,61,49,32,114,58,120,61,50,10,119,58,120,61,50,32,114,58,120,61,49,10]⟩ 3),I o0,I o1,sL a0 o2 c0,sL a1 o3 c1,sL a2 o4 c2,I ((kH ⟨#[119,58,120,61,49,32,114,58,120,61,50,10,119,58,120,61,50,32,114,58,120,61,49,10]⟩ 3).1),I ((kH ⟨#[119,58,120,61,49,32,114,58,120,61,50,10,119,58,120,61,50,32,114,58,120,61,49,10]⟩ 3).2.1),I ((kH ⟨#[119,58,120,61,49,32,114,58,120,61,50,10,119,58,120,61,50,32,114,58,120,61,49,10]⟩ 3).2.2.1),I ((kH ⟨#[119,58,120,61,49,32,114,58,120,61,50,10,119,58,120,61,50,32,114,58,120,61,49,10]⟩ 3).2.2.2.1),I ((kH ⟨#[119,58,120,61,49,32,114,58,120,61,50,10,119,58,120,61,50,32,114,58,120,61,49,10]⟩ 3).2.2.2.2),sL a3 o5 c3,I o6,I o7] 35
 intro w4 (du:HI (fun _=>False) w w4 (box aY #[I 0,I 0,I 0,I 0,I 0,.bool false,I 0,I 0,.slice none 0 0,.slice none 0 0,.slice none 0 0,I 0,I 0,I 0,I 0,I 0,.slice none 0 0,I 0,I 0] 35::J0::ba))
 refine k<|bw du 0 J k0 J J J J J J J ?_
 intro w5 (dJ:HI (fun _=>False) w w5 (box aY #[I (uZ ⟨#[119,58,120,61,49,32,114,58,120,61,50,10,119,58,120,61,50,32,114,58,120,61,49,10]⟩ 2),I (z8 ⟨#[119,58,120,61,49,32,114,58,120,61,50,10,119,58,120,61,50,32,114,58,120,61,49,10]⟩ 2),I ((tq ⟨#[119,58,120,61,49,32,114,58,120,61,50,10,119,58,120,61,50,32,114,58,120,61,49,10]⟩ 2).1),I ((tq ⟨#[119,58,120,61,49,32,114,58,120,61,50,10,119,58,120,61,50,32,114,58,120,61,49,10]⟩ 2).2),I (z7 ⟨#[119,58,120,61,49,32,114,58,120,61,50,10,119,58,120,61,50,32,114,58,120,61,49,10]⟩ 2),.bool (rF ⟨#[119,58,120,61,49,32,114,58,120,61,50,10,119,58,120,61,50,32,114,58,120,61,49,10]⟩ 2),I o8,I o9,sL a4 kM c4,sL a5 gq c5,sL a6 j5 c6,I ((kH ⟨#[119,58,120,61,49,32,114,58,120,61,50,10,119,58,120,61,50,32,114,58,120,61,49,10]⟩ 2).1),I ((kH ⟨#[119,58,120,61,49,32,114,58,120,61,50,10,119,58,120,61,50,32,114,58,120,61,49,10]⟩ 2).2.1),I ((kH ⟨#[119,58,120,61,49,32,114,58,120,61,50,10,119,58,120,61,50,32,114,58,120,61,49,10]⟩ 2).2.2.1),I ((kH ⟨#[119,58,120,61,49,32,114,58,120,61,50,10,119,58,120,61,50,32,114,58,120,61,49,10]⟩ 2).2.2.2.1),I ((kH ⟨#[119,58,120,61,49,32,114,58,120,61,50,10,119,58,120,61,50,32,114,58,120,61,49,10]⟩ 2).2.2.2.2),sL a7 yE c7,I Gx,I IZ] 35::J0::ba))
 refine bz<|aQ Tq J J<|bq dJ 1 J xi J J J<|k<|eql J J J J<|ai (v:=.bool (decide ((uZ ⟨#[119,58,120,61,49,32,114,58,120,61,50,10,119,58,120,61,50,32,114,58,120,61,49,10]⟩ 3)=0))) J J<|bh J J J (anh F8.1)<|fa Dm J J<|bh J J J (anh F8.1)<|lx dJ 1 J oP J J J<|k<|aP J J J J (anh F8.1) J<|ai (v:=.bool (rF ⟨#[119,58,120,61,49,32,114,58,120,61,50,10,119,58,120,61,50,32,114,58,120,61,49,10]⟩ 3)) J J<|bh J J J F8.2<|fa Tq J J<|bh J J J F8.2<|lx dJ 0 J xi J J J<|bh J J J F8.2<|eql J J J J<|k<|aP J J J J F8.2 J<|ai (v:=.bool (decide ((uZ ⟨#[119,58,120,61,49,32,114,58,120,61,50,10,119,58,120,61,50,32,114,58,120,61,49,10]⟩ 2)=0))) J J<|bh J J J (anh zS.1)<|fa Dm J J<|bh J J J (anh zS.1)<|lx dJ 0 J oP J J J<|bh J J J (anh zS.1)<|jY J J<|k<|aP J J J J (anh zS.1) J<|ai (v:=.bool (!(rF ⟨#[119,58,120,61,49,32,114,58,120,61,50,10,119,58,120,61,50,32,114,58,120,61,49,10]⟩ 2))) J J<|bh J J J (by rw[show (rF ⟨#[119,58,120,61,49,32,114,58,120,61,50,10,119,58,120,61,50,32,114,58,120,61,49,10]⟩ 2)=false from zS.2.1]<;>rfl)<|fa adE J J<|bh J J J (by rw[show (rF ⟨#[119,58,120,61,49,32,114,58,120,61,50,10,119,58,120,61,50,32,114,58,120,61,49,10]⟩ 2)=false from zS.2.1]<;>rfl)<|fa Dp J J<|bh J J J (by rw[show (rF ⟨#[119,58,120,61,49,32,114,58,120,61,50,10,119,58,120,61,50,32,114,58,120,61,49,10]⟩ 2)=false from zS.2.1]<;>rfl)<|lx dJ 0 J aT J J J<|bh J J J (by rw[show (rF ⟨#[119,58,120,61,49,32,114,58,120,61,50,10,119,58,120,61,50,32,114,58,120,61,49,10]⟩ 2)=false from zS.2.1]<;>rfl)<|eql J J J J<|k<|aP J J J J (by rw[show (rF ⟨#[119,58,120,61,49,32,114,58,120,61,50,10,119,58,120,61,50,32,114,58,120,61,49,10]⟩ 2)=false from zS.2.1]<;>rfl) J<|ak (v:=.bool (decide (((kH ⟨#[119,58,120,61,49,32,114,58,120,61,50,10,119,58,120,61,50,32,114,58,120,61,49,10]⟩ 2).1)=5))) J J<|aq<|rt<|r1 J J ?_
 exact⟨am_ Value.bool (by exact(anh zS.2.2)),dJ.below⟩
theorem OY:cA aI 9:=cI Tryz.func9
theorem GK {zj:OA} {zc:Nat} {yt:List (BitVec 8)} (hM:eO M w) (hT:fU 0 w) (mQ:cD M w gO gM h) (Kl:cD M w zj zc yt) (nV:h.flatten.length≤1048576) (amt:h.length≤1048576):Calls aI 8 #[sL gO h gM,sL zj yt zc] w (cp fun v w'=>v=.bool true∧Ext w w'):=by
 refine dG 157 Tryz.func8 J J J hM fun f0 ha H=>?_
 let J0:=iL gO h gM
 have H0:=H.put (it:=J0) J<|by rw[bP];exact mQ
 let J1:=iL zj yt zc
 have H1:=H0.put (it:=J1) J<|by rw[aD rfl,bP];exact Kl
 have HV:=bj mQ
 have ajV:=bj Kl
 have i0:f0 0=sL gO h gM:=ha 0 bl
 have i1:f0 1=sL zj yt zc:=ha 1 bl
 refine az<|ak (v:=.bool false) J J<|aq<|sq<|az<|ai J i0<|k ?_
 have bS:=Ny (h:=h) (m:=10) H1.mb (H1.rv 1 J) aR<|by exact nV
 refine ca ajm J (ec J<|ec J e0) bS ?_
 rintro _ w0 ⟨rfl,bY⟩
 have H2:=H1.ext bY
 refine k<|jY J J<|ai (v:=.bool (!(n9 h 10))) J J ?_
 rcases bE (!(n9 h 10)) with b0|b0
 ·
  refine aW J J J b0<|aW J J J b0<|aW J J J b0<|k<|aP J J J J b0 J<|ai (v:=.bool true) J J<|aW J J J J<|aW J J J J<|aW J J J J<|k<|aP J J J J J J<|ai (v:=.bool true) J J<|aW J J J J<|aW J J J J<|aW J J J J<|k<|aP J J J J J J<|aq<|ot J J J<|az<|k ?_
  have cU:=sJ (w:=w0)<|hT.ext H2.below
  refine ca OY J e0 cU ?_
  rintro _ w1 ⟨rfl,cT⟩
  have H3:=H2.ext cT
  refine ak (v:=.bool true) J J<|aq<|rt<|aK<|r1 J J ?_
  exact⟨J,H3.below⟩
 refine bh J J J b0<|mv J i0<|bh J J J b0<|dD J J kZ<|bh J J J b0<|eql J J J J<|k<|dA J J J J b0 J<|ai (v:=.bool (decide ((h.length:Int)=0))) J J ?_
 rcases bE (decide ((h.length:Int)=0)) with b1|b1
 ·
  refine aW J J J b1<|aW J J J b1<|aW J J J b1<|k<|aP J J J J b1 J<|ai (v:=.bool true) J J<|aW J J J J<|aW J J J J<|aW J J J J<|k<|aP J J J J J J<|aq<|ot J J J<|az<|k ?_
  have cU:=sJ (w:=w0)<|hT.ext H2.below
  refine ca OY J e0 cU ?_
  rintro _ w1 ⟨rfl,cT⟩
  have H3:=H2.ext cT
  refine ak (v:=.bool true) J J<|aq<|rt<|aK<|r1 J J ?_
  exact⟨J,H3.below⟩
 have p1:=dF b1
 refine bh J J J b1<|mv J i1<|bh J J J b1<|dD J J AY<|bh J J J b1<|gtr J J J J<|k<|dA J J J J b1 J<|ai (v:=.bool (decide (60<(yt.length:Int)))) J J ?_
 rcases bE (decide (60<(yt.length:Int))) with b2|b2
 ·
  refine aW J J J b2<|aW J J J b2<|aW J J J b2<|k<|aP J J J J b2 J<|aq<|ot J J J<|az<|k ?_
  have cU:=sJ (w:=w0)<|hT.ext H2.below
  refine ca OY J e0 cU ?_
  rintro _ w1 ⟨rfl,cT⟩
  have H3:=H2.ext cT
  refine ak (v:=.bool true) J J<|aq<|rt<|aK<|r1 J J ?_
  exact⟨J,H3.below⟩
 have p2:=dF b2
 refine bh J J J b2<|mv J i0<|bh J J J b2 ?_
 have cU:=El (h:=h) H2.mb (H2.rv 1 J)<|by exact nV
 refine ca ads J (ec J e0) cU ?_
 rintro _ w1 ⟨rfl,cT⟩
 have H3:=H2.ext cT
 refine bh J J J b2<|jY J J<|k<|dA J J J J b2 J<|z<|nx<|cd (b:=!(jj h)) J J (fun b3=>?_)<|fun b3=>?_
 ·
  refine az<|k ?_
  have fP:=sJ (w:=w1)<|hT.ext H3.below
  refine ca OY J e0 fP ?_
  rintro _ w2 ⟨rfl,fk⟩
  have H4:=H3.ext fk
  refine ak (v:=.bool true) J J<|aq<|rt<|aK<|r1 J J ?_
  exact⟨J,H4.below⟩
 refine sk<|nx<|sq ?_
 obtain⟨alM,alN,_⟩:=Rz.1 (fA ‹(!n9 h 10)=false›)
 refine rg<|ai J i0<|k<|dD J J kZ<|k<|mk (m:=h.length) (zx:=(0:Int)) H3 J J J J cG aT (fun _ _=>⟨J,by unfold aJ;omega⟩) aj aj ?_
 let ba:=[J1,J0]
 intro g0 w2 fk (H4:HI M w w2 (own w.heap.size 3 (.slice (some ⟨g0,0,none⟩) h.length h.length) (List.replicate h.length (0:Int))::ba))
 let J2:=own w.heap.size 3 (.slice (some ⟨g0,0,none⟩) h.length h.length) (List.replicate h.length (0:Int))
 refine ak (v:=sL (some ⟨g0,0,none⟩) h h.length) J J<|bz<|ak (v:=.slice none 0 0) J J<|bz<|ai J i0<|k<|dD J J kZ<|k<|mk (m:=h.length) (zx:=(⟨none,0,0⟩:SV)) H4 J J J J kZ lQ (fun _ _=>ahH _ _) aj aj ?_
 intro g1 w3 fN (H5:HI M w w3 [own w.heap.size 40 (.slice (some ⟨g1,0,none⟩) h.length h.length) (List.replicate h.length (⟨none,0,0⟩:SV)),J2,J1,J0])
 have H6:=HI.Xk (α:=(Bool×bf×Int)) H5 43 h.length
 have H7:HI M w w3 ([own w.heap.size 40 (.slice (some ⟨g1,0,none⟩) h.length h.length) (List.replicate h.length (⟨none,0,0⟩:SV)),J2,J1,J0]++aU w.heap.size 43 (List.replicate h.length (⟨none,0,0⟩:SV)) (List.replicate h.length ([]:List (Bool×bf×Int)))):=H6
 refine ak (v:=sL (some ⟨g1,0,none⟩) h h.length) J J<|aq<|sq<|az<|ak (v:=I 0) J J<|aq<|bk ?_
 have H8:=H7.ql (Bool×bf×Int) 43
 refine lp (fun m f w'=>∃(j_:Nat) (at_:aA) (qv:List (Bool×bf×Int)) (iG:List SV) (eR:List (List<|Bool×bf×Int)) (a0:OA) (c0:Nat),m=yt.length+h.length-j_∧f 0=sL gO h gM∧f 1=sL zj yt zc∧f 5=sL (some ⟨g0,0,none⟩) h h.length∧f 6=sL a0 qv c0∧f 7=sL (some ⟨g1,0,none⟩) h h.length∧f 8=I (j_:Int)∧HI M w w' ([oL w 43 a0 qv c0,own w.heap.size 40 (.slice (some ⟨g1,0,none⟩) h.length h.length) iG,own w.heap.size 3 (.slice (some ⟨g0,0,none⟩) h.length h.length) at_,J1,J0]++aU w.heap.size 43 iG eR)∧(j_≤yt.length+h.length)∧(mH h eR at_ qv j_)∧(iG.length=eR.length)) _ ⟨0,(List.replicate h.length (0:Int)),([]:List (Bool×bf×Int)),(List.replicate h.length (⟨none,0,0⟩:SV)),(List.replicate h.length ([]:List (Bool×bf×Int))),none,0,J,i0,i1,J,J,J,(bG J),H8,aj,(by exact mH.start h),bl⟩ ?_
 rintro _ f0 w4 ⟨j_,at_,qv,iG,eR,a0,c0,rfl,s0,s1,s2,s3,s4,s5,H9,pA,pU,C5⟩
 refine sq<|az<|ai J s5<|ai J s1<|k<|dD J J AY<|ai J s0<|k<|dD J J kZ<|k<|add J J J J aR<|k<|lss J J J J<|z<|nx<|cd (b:=decide ((j_:Int)<((yt.length:Int)+(h.length:Int)))) J J (fun b4=>?_)<|fun b4=>?_
 ·
  have p4:=dT b4
  refine sk<|nx<|sq<|bk<|az<|ai J s5<|ai J s0<|k<|dD J J kZ<|k<|rem J J J J aj<|ak (v:=I ((j_:Int)%(h.length:Int))) J J<|z<|nx ?_
  let J3:=oL w 43 a0 qv c0
  let J4:=own w.heap.size 40 (.slice (some ⟨g1,0,none⟩) h.length h.length) iG
  let J5:=own w.heap.size 3 (.slice (some ⟨g0,0,none⟩) h.length h.length) at_
  let bV:=J3::J4::J5::ba
  refine cut (fun f w'=>∃(kf:Int),f 0=sL gO h gM∧f 1=sL zj yt zc∧f 5=sL (some ⟨g0,0,none⟩) h h.length∧f 6=sL a0 qv c0∧f 7=sL (some ⟨g1,0,none⟩) h h.length∧f 8=I (j_:Int)∧f 9=I kf∧HI M w w' (bV++aU w.heap.size 43 iG eR)∧(0≤kf∧kf<(h.length:Int))) ?_ ?_
  ·
   refine az<|ai J s5<|ai J s1<|k<|dD J J AY<|k<|lss J J J J<|z<|nx<|cd (b:=decide ((j_:Int)<(yt.length:Int))) J J (fun b5=>?_)<|fun b5=>?_
   ·
    have p5:=dT b5
    refine rg<|ai J s1<|ai J s5<|k<|ia (H9.rv 3 J) J J J J aj AY N3 ?_
    intro iE x0 aM cz
    refine k<|ld8 cz.w N3 J J<|k<|cvI J J (by have h_:=x0.isLt;unfold aJ;omega) N1 BY<|ai J s0<|k<|dD J J kZ<|k<|rem J J J J aj<|ak (v:=I ((x0.toNat:Int)%(h.length:Int))) J J<|z<|ya ⟨((x0.toNat:Int)%(h.length:Int)),s0,s1,s2,s3,s4,s5,(bG J),H9,(by exact⟨apF _ aj,Int.emod_lt_of_pos _ aj⟩)⟩
   have p5:=dF b5
   refine sk<|ya ⟨((j_:Int)%(h.length:Int)),s0,s1,s2,s3,s4,s5,(bG J),H9,(by exact⟨apF _ aj,Int.emod_lt_of_pos _ aj⟩)⟩
  ·
   rintro f1 w5 ⟨kf,s6,s7,s8,s9,eu,fb,fu,cV,amb⟩
   refine sq<|sq ?_
   have ea_:=pU.qv
   have um:=pU.lg
   have el_:=pU.Sy
   refine zb J aS<|kq (fun _ _=>mv J s8 e1)<|kq (fun _ _=>mv J fu e1)<|oK (cV.at_ 2 J) J J J J aj cG aT ?_
   intro iE x0 aM cz
   refine ob cz aT J J ?_
   intro cw
   refine kq (fun _ _=>mv J s6 e1)<|kq (fun _ _=>mv J fu e1)<|rQ (cV.rv 4 J) J J J J aj kZ lQ ?_
   intro rK x1 cQ gL
   refine Bb gL.w lQ J J ?_
   intro a1 c1 d_
   have Aq:=bj d_
   let J6:=iL a1 x1 c1
   have du:=cV.put (it:=J6) J d_
   have dJ:HI M w w5 ((J6::bV)++aU w.heap.size 43 iG eR):=du
   refine kq (fun _ _=>dD J J lP e1)<|kq (fun _ _=>geq J J J J e1)<|zq ?_
   intro w6 iP
   have cM:=dJ.ext iP
   refine nx<|cd (b:=decide ((x1.length:Int)≤x0)) J J (fun b6=>?_)<|fun b6=>?_
   ·
    have p6:=dT b6
    refine ex<|aV<|bg<|nx<|rg<|ai J fb<|k<|add J J J J aR<|ak (v:=I ((j_:Int)+1)) J J<|z ?_
    have dU:HI M w w6 (bV++aU w.heap.size 43 iG eR):=HI.aP (l:=(J6::bV)) (l':=bV) (t:=aU w.heap.size 43 iG eR) cM [1,2,3,4,5] au J J
    refine bF _ ?_ ⟨(j_+1),at_,qv,iG,eR,a0,c0,J,s6,s7,s8,s9,eu,(bG J),dU,aj,(by exact pU.skip),(by exact C5)⟩
    omega
   have p6:=dF b6
   refine sk<|nx<|sq ?_
   have Dg:=pU.at0 aM
   refine lH [.r,.r,.r,.r,.r,.r,.r,.r,.r,.r,.n,.e] (fun _=>True) J aS (fun _ _=>trivial)<|yq J J<|kq (fun _ _=>mv J s6 e1)<|bH<|kq (fun _ _=>mv J fu e1)<|bH<|rQ (cM.rv 5 J) J J J J aj kZ lQ ?_
   intro pZ x_ pe kV
   obtain rfl:x1=x_:=ana (cQ.symm.trans pe)
   refine bH<|Bb kV.w lQ J J ?_
   intro a2 c2 dZ
   have ln1:=bj dZ
   let J7:=iL a2 x1 c2
   have dU:=cM.put (it:=J7) J dZ
   have dt:HI M w w6 ((J7::J6::bV)++aU w.heap.size 43 iG eR):=dU
   refine bH<|kq (fun _ _=>mv J s8 e1)<|bH<|kq (fun _ _=>mv J fu e1)<|bH<|oK (dt.at_ 4 J) J J J J aj cG aT ?_
   intro vI x_ pe vw
   obtain rfl:x0=x_:=ana (aM.symm.trans pe)
   refine bH<|ob vw aT J J ?_
   intro fy
   refine bH<|rQ (dt.rv 0 J) J J J J aj lP fY ?_
   intro uo x2 jf wx
   refine bH<|tz wx.w fY J J ?_
   intro v0 iT
   obtain⟨_,⟨_,_,rfl,rfl,⟨_,_,rfl,⟨rfl,jS⟩,⟨rfl,je⟩⟩⟩,rfl⟩:=iT
   refine zq<|yn (z:=#[.bool false,.string ⟨#[]⟩,I 0]) J J (fun _=>M7 fY)<|ye<|yz ?_
   intro w7 f2 _ jc _ _ cx iJ
   obtain⟨aY,fl,AE,rI,yR⟩:=iJ 0 _ _ rfl
   have og:=MM (z:=#[.bool false,.string ⟨#[]⟩,I 0]) (T:=43) AE rI yR<|MO
   have cR:HI M w w7 ((box aY #[.bool false,.string ⟨#[]⟩,I 0] 43::J7::J6::bV)++aU w.heap.size 43 iG eR):=dt.Bs jc og<|LF LC LG
   have gi:=(cx 0 J).trans s6
   have gS:=(cx 1 J).trans s7
   have j4:=(cx 5 J).trans s8
   have kJ:=(cx 6 J).trans s9
   have lD:=(cx 7 J).trans eu
   have l5:=(cx 8 J).trans fb
   have l4:=(cx 9 J).trans fu
   have oT:=cx 86 J
   refine jw<|bw cR 0 J fY J J fl oT J J J ?_
   let J8:=box aY #[.bool x2.1,.string x2.2.1,I x2.2.2] 43
   intro w8 (dI:HI M w w8 ((J8::J7::J6::bV)++aU w.heap.size 43 iG eR))
   refine kz<|cO<|ai J j4<|ai J l4<|k<|gW (dI.at_ 5 J) J J J J aj cG aT ?_
   intro g2 x3 iC nH Jo
   refine k<|mw Jo aT J J ?_
   intro lh
   refine k<|add J J J J (by have h_:=pU.at0 nH;unfold aJ;omega)<|k<|gW (dI.at_ 5 J) J J J J aj cG aT ?_
   intro g3 x4 kn yN OX
   refine k<|oQ dI 5 J kn J aj aT J J J J (RV.int.2 ⟨J,(by have h_:=pU.at0 nH;unfold aJ;omega)⟩) ?_
   let J9:=own w.heap.size 3 (.slice (some ⟨g0,0,none⟩) h.length h.length) (at_.set kf.toNat (x3+1))
   let dz:=J7::J6::J3::J4::J9::ba
   intro w9 (dw:HI M w w9 ((J8::dz)++aU w.heap.size 43 iG eR))
   refine aq<|sq<|az<|aQ pg J fl<|bq dw 0 J oP J J J<|z<|nx<|cd (b:=x2.1) J J (fun b7=>?_)<|fun b7=>?_
   ·
    refine rg<|ai J kJ<|k<|cB dw 0 J fY J fl au J<|k<|bs (xs:=([(x2.1,x2.2.1,x2.2.2)]:List (Bool×bf×Int))) (cells:=#[.bool x2.1,.string x2.2.1,I x2.2.2]) (e:=43) dw J (cm J ew) (fun _=>aS) ⟨[.bool x2.1,.string x2.2.1,I x2.2.2],[],J,⟨_,_,J,J,⟨_,_,J,⟨J,bo⟩,⟨J,(show aJ (x2.2.2) from bo)⟩⟩⟩,J⟩ J au ?_
    intro g4 dM jK (cE:HI M w dM ((own w.heap.size 43 (.slice (some ⟨g4,0,none⟩) 1 1) ([(x2.1,x2.2.1,x2.2.2)]:List (Bool×bf×Int))::J8::dz)++aU w.heap.size 43 iG eR))
    let dR:=own w.heap.size 43 (.slice (some ⟨g4,0,none⟩) 1 1) ([(x2.1,x2.2.1,x2.2.2)]:List (Bool×bf×Int))
    refine k<|lY cE 4 J J J J J J (gY<|cE.at_ 0 J) lP fY J (by simp;omega) J ?_
    let iW:=J4::J9::ba
    intro a3 c3 ee (df:HI M w ee ((dR::J8::J7::J6::oL w 43 a3 (qv++([(x2.1,x2.2.1,x2.2.2)]:List (Bool×bf×Int))) c3::iW)++aU w.heap.size 43 iG eR))
    let eE:=oL w 43 a3 (qv++([(x2.1,x2.2.1,x2.2.2)]:List (Bool×bf×Int))) c3
    refine ak (v:=sL a3 (qv++([(x2.1,x2.2.1,x2.2.2)]:List (Bool×bf×Int))) c3) J J<|z<|nx<|lH [.s,.s,.r,.r,.r,.r,.r,.r,.e,.e,.e] (fun _=>True) J aS (fun _ _=>trivial)<|yq J J<|kq (fun _ _=>mv J lD e1)<|bH<|kq (fun _ _=>mv J l4 e1)<|bH<|kq (fun _ _=>mv J lD e1)<|bH<|kq (fun _ _=>mv J l4 e1)<|zq<|yq J J ?_
    obtain⟨a4,x5,c4,kD,ko⟩:=ru (i:=kf.toNat) df bo aj
    refine oK (df.at_ 5 J) J J J J aj kZ lQ ?_
    intro ad5 x_ pe Jn
    obtain rfl:(⟨a4,x5.length,c4⟩:SV)=x_:=ana (kD.symm.trans pe)
    refine bH<|Xl Jn lQ J J<|bH<|kq (fun _ x_=>cB (df.ext x_) 1 J fY J fl au J e1)<|zq<|yu J (fun _ v w'=>∃(a5:OA) (c5:Nat),v=sL a5 ([(x2.1,x2.2.1,x2.2.2)]:List (Bool×bf×Int)) c5∧RV df.fS w' (sL a5 ([(x2.1,x2.2.1,x2.2.2)]:List (Bool×bf×Int)) c5) ([(x2.1,x2.2.1,x2.2.2)]:List (Bool×bf×Int))) J nh J (fun v_ N_ x_ n_=>?_) ?_
    ·
     have ff:=df.ext x_
     refine bs (xs:=([(x2.1,x2.2.1,x2.2.2)]:List (Bool×bf×Int))) (cells:=#[.bool x2.1,.string x2.2.1,I x2.2.2]) (e:=43) ff J (cm J ew) (fun _=>aS) ⟨[.bool x2.1,.string x2.2.1,I x2.2.2],[],J,⟨_,_,J,J,⟨_,_,J,⟨J,bo⟩,⟨J,(show aJ (x2.2.2) from bo)⟩⟩⟩,J⟩ J au ?_
     intro g6 ij l3 (gr:HI M w ij ([own w.heap.size 43 (.slice (some ⟨g6,0,none⟩) 1 1) ([(x2.1,x2.2.1,x2.2.2)]:List (Bool×bf×Int)),dR,J8,J7,J6,eE,J4,J9,J1,J0]++aU w.heap.size 43 iG eR))
     have iy:=gr.freeze 0 J
     exact⟨_,J,l3,⟨(some ⟨g6,0,none⟩),1,J,(ly J<|iy.rv 0 J)⟩⟩
    refine ye<|ye<|ye<|yz ?_
    intro jv f3 _ yp _ _ eD vm
    have iS:=df.ext yp
    have oS:=(eD 0 J).trans gi
    have t':=(eD 1 J).trans gS
    have u1:=(eD 5 J).trans j4
    have tZ:=eD 6 J
    have sM:=(eD 7 J).trans lD
    have xw:=(eD 8 J).trans l5
    have B2:=eD 120 J
    have B1:=eD 121 J
    have Lc:=eD 125 J
    obtain⟨a6,c6,RF,nE⟩:=vm 0 _ _ rfl
    let fM:=iL a6 ([(x2.1,x2.2.1,x2.2.2)]:List (Bool×bf×Int)) c6
    have kY:=iS.put (it:=fM) J nE
    let fm:=fM::dR::J8::J7::J6::eE::iW
    have iw:HI M w jv (fm++aU w.heap.size 43 iG eR):=kY
    refine jw<|apR (l:=fm) iw kD ko J J J Lc RF (iw.rv 0 J).src lP fY J (by have h_:=pU.row ko;simp only[iI,gj];omega) J ?_
    intro a7 c7 nB (qa:HI M w nB (fm++aU w.heap.size 43 (iG.set kf.toNat (⟨a7,(x5++([(x2.1,x2.2.1,x2.2.2)]:List (Bool×bf×Int))).length,c7⟩:SV)) (eR.set kf.toNat (x5++([(x2.1,x2.2.1,x2.2.2)]:List (Bool×bf×Int))))))
    have j':HI M w nB (fm++aU w.heap.size 43 (iG.set kf.toNat (⟨a7,(x5++([(x2.1,x2.2.1,x2.2.2)]:List (Bool×bf×Int))).length,c7⟩:SV)) (eR.set kf.toNat (x5++([(x2.1,x2.2.1,x2.2.2)]:List (Bool×bf×Int))))):=qa
    refine jw<|gW (j'.at_ 6 J) J J B2 B1 aj kZ lQ ?_
    intro g7 x6 vk Ey Yd
    refine jw<|oQ j' 6 J vk J aj lQ J J J J ((RV.sv (s:=(⟨a7,(x5++([(x2.1,x2.2.1,x2.2.2)]:List (Bool×bf×Int))).length,c7⟩:SV))).2 rfl) ?_
    let fI:=own w.heap.size 40 (.slice (some ⟨g1,0,none⟩) h.length h.length) (iG.set kf.toNat (⟨a7,(x5++([(x2.1,x2.2.1,x2.2.2)]:List (Bool×bf×Int))).length,c7⟩:SV))
    let kx:=eE::fI::J9::ba
    intro rE (nP:HI M w rE ((fM::dR::J8::J7::J6::kx)++aU w.heap.size 43 (iG.set kf.toNat (⟨a7,(x5++([(x2.1,x2.2.1,x2.2.2)]:List (Bool×bf×Int))).length,c7⟩:SV)) (eR.set kf.toNat (x5++([(x2.1,x2.2.1,x2.2.2)]:List (Bool×bf×Int))))))
    refine kz<|aG<|nx<|rg<|ai J xw<|k<|add J J J J aR<|ak (v:=I ((j_:Int)+1)) J J<|z ?_
    have jX:HI M w rE (kx++aU w.heap.size 43 (iG.set kf.toNat (⟨a7,(x5++([(x2.1,x2.2.1,x2.2.2)]:List (Bool×bf×Int))).length,c7⟩:SV)) (eR.set kf.toNat (x5++([(x2.1,x2.2.1,x2.2.2)]:List (Bool×bf×Int))))):=HI.aP (l:=(fM::dR::J8::J7::J6::kx)) (l':=kx) (t:=aU w.heap.size 43 (iG.set kf.toNat (⟨a7,(x5++([(x2.1,x2.2.1,x2.2.2)]:List (Bool×bf×Int))).length,c7⟩:SV)) (eR.set kf.toNat (x5++([(x2.1,x2.2.1,x2.2.2)]:List (Bool×bf×Int))))) nP [5,6,7,8,9] au J J
    refine bF _ ?_ ⟨(j_+1),(at_.set kf.toNat (x3+1)),(qv++([(x2.1,x2.2.1,x2.2.2)]:List (Bool×bf×Int))),(iG.set kf.toNat (⟨a7,(x5++([(x2.1,x2.2.1,x2.2.2)]:List (Bool×bf×Int))).length,c7⟩:SV)),(eR.set kf.toNat (x5++([(x2.1,x2.2.1,x2.2.2)]:List (Bool×bf×Int)))),a3,c3,J,oS,t',u1,tZ,sM,(bG J),jX,aj,(by exact pU.aeS ko cQ nH (by have e_:=ana (aM.symm.trans nH);omega) b7),(by simp only[am'];exact C5)⟩
    omega
   refine az<|aQ oo J fl<|k<|bw dw 0 J aT J J J J J J J ?_
   intro dM (cE:HI M w dM ((box aY #[.bool x2.1,.string x2.2.1,I 0] 43::dz)++aU w.heap.size 43 iG eR))
   refine bz<|ak (v:=I 0) J J<|aq<|bk<|lp (fun m f w'=>∃(k_:Nat) (nC:Int),m=qv.length-k_∧f 0=sL gO h gM∧f 1=sL zj yt zc∧f 5=sL (some ⟨g0,0,none⟩) h h.length∧f 6=sL a0 qv c0∧f 7=sL (some ⟨g1,0,none⟩) h h.length∧f 8=I (j_:Int)∧f 9=I kf∧f 10=pV aY 0∧f 11=I (k_:Int)∧HI M w w' ((box aY #[.bool x2.1,.string x2.2.1,I nC] 43::dz)++aU w.heap.size 43 iG eR)∧(k_≤qv.length)∧(nC=rz (qv.take k_) x2.2.1)∧(aJ nC)) _ ⟨0,0,J,gi,gS,j4,kJ,lD,l5,l4,fl,(bG J),cE,aj,(by rfl),(by unfold aJ;omega)⟩ ?_
   rintro _ f3 ee ⟨k_,nC,rfl,oS,t',u1,tZ,sM,xw,B2,B1,Lc,df,tK,B5,al6⟩
   refine sq<|az<|ai J Lc<|ai J tZ<|k<|dD J J lP<|k<|lss J J J J<|z<|nx<|cd (b:=decide ((k_:Int)<(qv.length:Int))) J J (fun b8=>?_)<|fun b8=>?_
   ·
    have p8:=dT b8
    refine sk<|nx<|sq<|bk<|sq<|zb J aS<|kq (fun _ _=>mv J tZ e1)<|kq (fun _ _=>mv J Lc e1)<|oK (df.at_ 3 J) J J J J aj lP fY ?_
    intro ad5 x5 Ey Jn
    refine kq (fun _ _=>fa lW J J e1)<|ae4 ((Jn).s1).fst nD J J ?_
    intro oE
    refine kq (fun _ _=>fa lW J B1 e1)<|kq (fun _ x_=>lx (df.ext x_) 0 J nD J J J e1)<|kq (fun _ _=>Tz J J J J e1)<|zq ?_
    intro ft jK
    have dH:=df.ext jK
    refine nx<|cd (b:=decide (x5.2.1=x2.2.1)) J J (fun b9=>?_)<|fun b9=>?_
    ·
     have p9:=dT b9
     refine rg<|ai J tZ<|ai J Lc<|k<|gW (dH.at_ 3 J) J J J J aj lP fY ?_
     intro g4 x6 vk XE Yd
     refine aQ oo J J<|k<|mw (Yd).s2 aT J J ?_
     intro nE
     refine aQ oo J B1<|k<|bw dH 0 J aT J J J J J J J ?_
     intro ij (eP:HI M w ij ((box aY #[.bool x2.1,.string x2.2.1,I x6.2.2] 43::dz)++aU w.heap.size 43 iG eR))
     refine z<|aG<|nx<|rg<|ai J Lc<|k<|add J J J J aR<|ak (v:=I ((k_:Int)+1)) J J<|z<|bF _ ?_ ⟨(k_+1),x6.2.2,J,oS,t',u1,tZ,sM,xw,B2,B1,(bG J),eP,aj,(by exact Sx Ey XE b9),bo⟩
     omega
    have p9:=dF b9
    refine sk<|aG<|nx<|rg<|ai J Lc<|k<|add J J J J aR<|ak (v:=I ((k_:Int)+1)) J J<|z<|bF _ ?_ ⟨(k_+1),nC,J,oS,t',u1,tZ,sM,xw,B2,B1,(bG J),dH,aj,(by exact Qe Ey b9 B5),bo⟩
    omega
   have p8:=dF b8
   refine ex<|aV<|bc<|bg<|nx<|lH [.s,.s,.r,.r,.r,.r,.r,.r,.e,.e,.e] (fun _=>True) J aS (fun _ _=>trivial)<|yq J J<|kq (fun _ _=>mv J sM e1)<|bH<|kq (fun _ _=>mv J B2 e1)<|bH<|kq (fun _ _=>mv J sM e1)<|bH<|kq (fun _ _=>mv J B2 e1)<|zq<|yq J J ?_
   obtain⟨a3,x5,c3,kD,ko⟩:=ru (i:=kf.toNat) df bo aj
   refine oK (df.at_ 4 J) J J J J aj kZ lQ ?_
   intro ad5 x_ pe Jn
   obtain rfl:(⟨a3,x5.length,c3⟩:SV)=x_:=ana (kD.symm.trans pe)
   refine bH<|Xl Jn lQ J J<|bH<|kq (fun _ x_=>cB (df.ext x_) 0 J fY J B1 au J e1)<|zq<|yu J (fun _ v w'=>∃(a4:OA) (c4:Nat),v=sL a4 ([(x2.1,x2.2.1,nC)]:List (Bool×bf×Int)) c4∧RV df.fS w' (sL a4 ([(x2.1,x2.2.1,nC)]:List (Bool×bf×Int)) c4) ([(x2.1,x2.2.1,nC)]:List (Bool×bf×Int))) J nh J (fun v_ N_ x_ n_=>?_) ?_
   ·
    have ff:=df.ext x_
    refine bs (xs:=([(x2.1,x2.2.1,nC)]:List (Bool×bf×Int))) (cells:=#[.bool x2.1,.string x2.2.1,I nC]) (e:=43) ff J (cm J ew) (fun _=>aS) ⟨[.bool x2.1,.string x2.2.1,I nC],[],J,⟨_,_,J,J,⟨_,_,J,⟨J,bo⟩,⟨J,(show aJ (nC) from bo)⟩⟩⟩,J⟩ J au ?_
    intro g5 ij lC (gr:HI M w ij ((own w.heap.size 43 (.slice (some ⟨g5,0,none⟩) 1 1) ([(x2.1,x2.2.1,nC)]:List (Bool×bf×Int))::box aY #[.bool x2.1,.string x2.2.1,I nC] 43::dz)++aU w.heap.size 43 iG eR))
    have iy:=gr.freeze 0 J
    exact⟨_,J,lC,⟨(some ⟨g5,0,none⟩),1,J,(ly J<|iy.rv 0 J)⟩⟩
   refine ye<|ye<|ye<|yz ?_
   intro jv f4 _ l3 _ _ eD vm
   have iS:=df.ext l3
   have RF:=(eD 0 J).trans oS
   have s32:=(eD 1 J).trans t'
   have s33:=(eD 5 J).trans u1
   have s34:=(eD 6 J).trans tZ
   have s35:=(eD 7 J).trans sM
   have s36:=(eD 8 J).trans xw
   have s37:=eD 120 J
   have s38:=eD 121 J
   have s39:=eD 125 J
   obtain⟨a5,c5,s40,nE⟩:=vm 0 _ _ rfl
   let gU:=iL a5 ([(x2.1,x2.2.1,nC)]:List (Bool×bf×Int)) c5
   have kY:=iS.put (it:=gU) J nE
   let ma:=box aY #[.bool x2.1,.string x2.2.1,I nC] 43
   have iw:HI M w jv ((gU::ma::dz)++aU w.heap.size 43 iG eR):=kY
   refine jw<|apR (l:=(gU::ma::dz)) iw kD ko J J J s39 s40 (iw.rv 0 J).src lP fY J (by have h_:=pU.row ko;simp only[iI,gj];omega) J ?_
   intro a6 c6 nB (qa:HI M w nB ((gU::ma::dz)++aU w.heap.size 43 (iG.set kf.toNat (⟨a6,(x5++([(x2.1,x2.2.1,nC)]:List (Bool×bf×Int))).length,c6⟩:SV)) (eR.set kf.toNat (x5++([(x2.1,x2.2.1,nC)]:List (Bool×bf×Int))))))
   have j':HI M w nB ((gU::ma::dz)++aU w.heap.size 43 (iG.set kf.toNat (⟨a6,(x5++([(x2.1,x2.2.1,nC)]:List (Bool×bf×Int))).length,c6⟩:SV)) (eR.set kf.toNat (x5++([(x2.1,x2.2.1,nC)]:List (Bool×bf×Int))))):=qa
   refine jw<|gW (j'.at_ 5 J) J J s37 s38 aj kZ lQ ?_
   intro g6 x6 vk Ey Yd
   refine jw<|oQ j' 5 J vk J aj lQ J J J J ((RV.sv (s:=(⟨a6,(x5++([(x2.1,x2.2.1,nC)]:List (Bool×bf×Int))).length,c6⟩:SV))).2 rfl) ?_
   let lZ:=own w.heap.size 40 (.slice (some ⟨g1,0,none⟩) h.length h.length) (iG.set kf.toNat (⟨a6,(x5++([(x2.1,x2.2.1,nC)]:List (Bool×bf×Int))).length,c6⟩:SV))
   let rn:=J3::lZ::J9::ba
   intro rE (nP:HI M w rE ((gU::ma::J7::J6::rn)++aU w.heap.size 43 (iG.set kf.toNat (⟨a6,(x5++([(x2.1,x2.2.1,nC)]:List (Bool×bf×Int))).length,c6⟩:SV)) (eR.set kf.toNat (x5++([(x2.1,x2.2.1,nC)]:List (Bool×bf×Int))))))
   refine kz<|aG<|nx<|rg<|ai J s36<|k<|add J J J J aR<|ak (v:=I ((j_:Int)+1)) J J<|z ?_
   have jX:HI M w rE (rn++aU w.heap.size 43 (iG.set kf.toNat (⟨a6,(x5++([(x2.1,x2.2.1,nC)]:List (Bool×bf×Int))).length,c6⟩:SV)) (eR.set kf.toNat (x5++([(x2.1,x2.2.1,nC)]:List (Bool×bf×Int))))):=HI.aP (l:=(gU::ma::J7::J6::rn)) (l':=rn) (t:=aU w.heap.size 43 (iG.set kf.toNat (⟨a6,(x5++([(x2.1,x2.2.1,nC)]:List (Bool×bf×Int))).length,c6⟩:SV)) (eR.set kf.toNat (x5++([(x2.1,x2.2.1,nC)]:List (Bool×bf×Int))))) nP [4,5,6,7,8] au J J
   refine bF _ ?_ ⟨(j_+1),(at_.set kf.toNat (x3+1)),qv,(iG.set kf.toNat (⟨a6,(x5++([(x2.1,x2.2.1,nC)]:List (Bool×bf×Int))).length,c6⟩:SV)),(eR.set kf.toNat (x5++([(x2.1,x2.2.1,nC)]:List (Bool×bf×Int)))),a0,c0,J,RF,s32,s33,s34,s35,(bG J),jX,aj,(by exact pU.aeT ko cQ nH (by have e_:=ana (aM.symm.trans nH);omega) b7 (by rw[B5,anj aj])),(by simp only[am'];exact C5)⟩
   omega
 refine ex<|aV<|bc<|bg<|nx<|sq ?_
 let rM:=oL w 43 a0 qv c0
 let jz:=own w.heap.size 3 (.slice (some ⟨g0,0,none⟩) h.length h.length) at_
 let nO:=own w.heap.size 40 (.slice (some ⟨g1,0,none⟩) h.length h.length) iG
 let vJ:=rM::jz::ba
 let DK:=jz::ba
 have dO:HI M w w4 (own w.heap.size 40 (.slice (some ⟨g1,0,none⟩) h.length h.length) eR::vJ):=HI.deep (l:=vJ) (HI.aP (l:=(rM::nO::DK)) (l':=(nO::vJ)) (t:=aU w.heap.size 43 iG eR) H9 [1,0,2,3,4] au J J) bo
 refine rg<|ai J s4<|k ?_
 have Dt:(h.length:Nat)=eR.length:=Fm<|dO.at_ 0 J
 have cV:HI M w w4 (oL w 40 (some ⟨g1,0,none⟩) eR h.length::vJ):=by simpa +zetaDelta only[oL,sL,Dt] using dO
 have du:=cV.freeze 0 J
 have fP:=UW (h:=eR) du.mb (du.rv 0 J)<|by have h_:=pU.flat;omega
 refine ca ajn J (ec (aqp (b:=(.slice (some ⟨g1,0,none⟩) h.length h.length:Value)) J<|am_ (fun n_=>Value.slice (some ⟨g1,0,none⟩) n_ h.length) Dt) e0) fP ?_
 rintro _ w5 ⟨a1,c1,a2,c2,a3,c3,rfl,iP,cw,d_,dZ⟩
 have dJ:=du.ext iP
 let pw:=iL a1 (uC eR) c1
 have cM:=dJ.put (it:=pw) J cw
 let mW:=iL a2 (oZ eR) c2
 have dU:=cM.put (it:=mW) J<|by rw[aD J];exact d_
 let nN:=iL a3 (pa eR) c3
 have dt:=dU.put (it:=nN) J<|by rw[aD rfl,aD rfl];exact dZ
 refine ai (v:=.tuple #[.agg #[sL a1 (uC eR) c1,sL a2 (oZ eR) c2,sL a3 (pa eR) c3],.bool (gq eR)]) J J<|k<|xt J J J<|k<|xt J J J<|k<|al dt eh ?_
 let tV:=iL (some ⟨g1,0,none⟩) eR h.length
 let zn:=nN::mW::pw::tV::vJ
 intro aZ w6 jc (cR:HI M w w6 (box aZ #[.slice none 0 0,.slice none 0 0,.slice none 0 0] 47::zn))
 refine k<|bw cR 0 J eh J J J J J J J ?_
 let sf:=box aZ #[sL a1 (uC eR) c1,sL a2 (oZ eR) c2,sL a3 (pa eR) c3] 47
 intro w7 (dI:HI M w w7 (sf::zn))
 refine ak (v:=.bool (gq eR)) J J<|aq<|sq<|az<|ai (v:=.bool (gq eR)) J J<|k<|jY J J<|z<|nx<|cd (b:=!(gq eR)) J J (fun b5=>?_)<|fun b5=>?_
 ·
  refine az<|k ?_
  have eZ:=sJ (w:=w7)<|hT.ext dI.below
  refine ca OY J e0 eZ ?_
  rintro _ w8 ⟨rfl,jK⟩
  have dw:=dI.ext jK
  refine ak (v:=.bool true) J J<|aq<|rt<|aK<|r1 J J ?_
  exact⟨J,dw.below⟩
 refine sk<|nx<|sq ?_
 have yQ:gq eR=true:=fA ‹(!gq eR)=false›
 refine rg<|ai J (aqp (b:=(.slice (some ⟨g1,0,none⟩) h.length h.length:Value)) s4<|am_ (fun n_=>Value.slice (some ⟨g1,0,none⟩) n_ h.length) Dt)<|k ?_
 have eZ:=si (h:=eR) (lv:=1) dI.mb (hT.ext dI.below) (dI.rv 4 J) aR (by have h_:=pU.flat;omega)<|by have h_:=pU.flat;omega
 refine ca QH J (ec J<|ec J e0) eZ ?_
 rintro _ w8 ⟨o0,o1,o2,o3,o4,o5,o6,o7,a4,c4,a5,c5,a6,c6,a7,c7,rfl,jK,fy,iT,jS,je⟩
 have dw:=dI.ext jK
 let ym:=iL a4 o2 c4
 have cE:=dw.put (it:=ym) J fy
 let se:=iL a5 o3 c5
 have df:=cE.put (it:=se) J<|by rw[aD J];exact iT
 let vM:=iL a6 o4 c6
 have dH:=df.put (it:=vM) J<|by rw[aD rfl,aD rfl];exact jS
 let tl:=iL a7 o5 c7
 have eP:=dH.put (it:=tl) J<|by rw[aD rfl,aD rfl,aD rfl];exact je
 refine ai J (aqp (b:=(.slice (some ⟨g1,0,none⟩) h.length h.length:Value)) s4<|am_ (fun n_=>Value.slice (some ⟨g1,0,none⟩) n_ h.length) Dt)<|k ?_
 have mx:=si (h:=eR) (lv:=2) eP.mb (hT.ext eP.below) (eP.rv 8 J) aR (by have h_:=pU.flat;omega)<|by have h_:=pU.flat;omega
 refine ca QH J (ec J<|ec J e0) mx ?_
 rintro _ w9 ⟨o8,o9,kM,gq,j5,yE,Gx,IZ,a8,c8,a9,c9,jq,jo,mV,mU,rfl,lC,lh,oE,nE,rP⟩
 have ff:=eP.ext lC
 let uu:=iL a8 kM c8
 have gr:=ff.put (it:=uu) J lh
 let ur:=iL a9 gq c9
 have iy:=gr.put (it:=ur) J<|by rw[aD J];exact oE
 let AS:=iL jq j5 jo
 have iS:=iy.put (it:=AS) J<|by rw[aD rfl,aD rfl];exact nE
 let rL:=iL mV yE mU
 have kY:=iS.put (it:=rL) J<|by rw[aD rfl,aD rfl,aD rfl];exact rP
 refine ai J (aqp (b:=(.slice (some ⟨g1,0,none⟩) h.length h.length:Value)) s4<|am_ (fun n_=>Value.slice (some ⟨g1,0,none⟩) n_ h.length) Dt)<|k ?_
 have nu:=si (h:=eR) (lv:=3) kY.mb (hT.ext kY.below) (kY.rv 12 J) aR (by have h_:=pU.flat;omega)<|by have h_:=pU.flat;omega
 refine ca QH J (ec J<|ec J e0) nu ?_
 rintro _ dM ⟨o16,CR,Sl,IY,Sk,o21,Sj,OC,a12,pC,jW,jV,ln,ll,JJ,JC,rfl,l3,oU,nR,qN,qM⟩
 have iw:=kY.ext l3
 let qF:=iL a12 Sl pC
 have qa:=iw.put (it:=qF) J oU
 let tk:=iL jW IY jV
 have j':=qa.put (it:=tk) J<|by rw[aD J];exact nR
 let oI:=iL ln Sk ll
 have nP:=j'.put (it:=oI) J<|by rw[aD rfl,aD rfl];exact qN
 let zu:=iL JJ o21 JC
 have jX:=nP.put (it:=zu) J<|by rw[aD rfl,aD rfl,aD rfl];exact qM
 refine k<|al jX k0 ?_
 let wb:=zu::oI::tk::qF::rL::AS::ur::uu::tl::vM::se::ym::sf::zn
 intro aY ee yp (rp:HI M w ee (box aY #[I 0,I 0,I 0,I 0,I 0,.bool false,I 0,I 0,.slice none 0 0,.slice none 0 0,.slice none 0 0,I 0,I 0,I 0,I 0,I 0,.slice none 0 0,I 0,I 0] 35::wb))
 let vL:=box aY #[I 0,I 0,I 0,I 0,I 0,.bool false,I 0,I 0,.slice none 0 0,.slice none 0 0,.slice none 0 0,I 0,I 0,I 0,I 0,I 0,.slice none 0 0,I 0,I 0] 35
 refine k<|al rp k0 ?_
 intro bJ ft Cj (kX:HI M w ft (box bJ #[I 0,I 0,I 0,I 0,I 0,.bool false,I 0,I 0,.slice none 0 0,.slice none 0 0,.slice none 0 0,I 0,I 0,I 0,I 0,I 0,.slice none 0 0,I 0,I 0] 35::vL::wb))
 let uq:=box bJ #[I 0,I 0,I 0,I 0,I 0,.bool false,I 0,I 0,.slice none 0 0,.slice none 0 0,.slice none 0 0,I 0,I 0,I 0,I 0,I 0,.slice none 0 0,I 0,I 0] 35
 refine k<|al kX k0 ?_
 intro fh ij HC (AT:HI M w ij (box fh #[I 0,I 0,I 0,I 0,I 0,.bool false,I 0,I 0,.slice none 0 0,.slice none 0 0,.slice none 0 0,I 0,I 0,I 0,I 0,I 0,.slice none 0 0,I 0,I 0] 35::uq::vL::wb))
 let zt:=box fh #[I 0,I 0,I 0,I 0,I 0,.bool false,I 0,I 0,.slice none 0 0,.slice none 0 0,.slice none 0 0,I 0,I 0,I 0,I 0,I 0,.slice none 0 0,I 0,I 0] 35
 refine k<|bw AT 2 J k0 J J J J J J J ?_
 let yl:=box aY #[I (pz eR 1),I 0,I ((mP eR 1).1),I ((mP eR 1).2),I (tI eR 1),.bool (qz eR 1),I o0,I o1,sL a4 o2 c4,sL a5 o3 c5,sL a6 o4 c6,I ((gX eR 1).1),I ((gX eR 1).2.1),I ((gX eR 1).2.2.1),I ((gX eR 1).2.2.2.1),I ((gX eR 1).2.2.2.2),sL a7 o5 c7,I o6,I o7] 35
 intro jv (kg:HI M w jv (zt::uq::yl::wb))
 refine k<|bw kg 1 J k0 J J J J J J J ?_
 let zr:=box bJ #[I (pz eR 2),I 0,I ((mP eR 2).1),I ((mP eR 2).2),I (tI eR 2),.bool (qz eR 2),I o8,I o9,sL a8 kM c8,sL a9 gq c9,sL jq j5 jo,I ((gX eR 2).1),I ((gX eR 2).2.1),I ((gX eR 2).2.2.1),I ((gX eR 2).2.2.2.1),I ((gX eR 2).2.2.2.2),sL mV yE mU,I Gx,I IZ] 35
 intro nB (vN:HI M w nB (zt::zr::yl::wb))
 refine k<|bw vN 0 J k0 J J J J J J J ?_
 intro rE (mc:HI M w rE (box fh #[I (pz eR 3),I 0,I ((mP eR 3).1),I ((mP eR 3).2),I (tI eR 3),.bool (qz eR 3),I o16,I CR,sL a12 Sl pC,sL jW IY jV,sL ln Sk ll,I ((gX eR 3).1),I ((gX eR 3).2.1),I ((gX eR 3).2.2.1),I ((gX eR 3).2.2.2.1),I ((gX eR 3).2.2.2.2),sL JJ o21 JC,I Sj,I OC] 35::zr::yl::wb))
 refine bz<|k ?_
 have yd:=sJ (w:=rE)<|hT.ext mc.below
 refine ca OY J e0 yd ?_
 rintro _ tn ⟨rfl,HB⟩
 have tW:=mc.ext HB
 refine ai (v:=.bool true) J J<|bh J J J J<|fa Dm J J<|bh J J J J<|lx tW 2 J oP J J J<|k<|aP J J J J J J<|ai (v:=.bool (qz eR 1)) J J<|bh J J J (pU.ok yQ au)<|fa Dm J J<|bh J J J (pU.ok yQ au)<|lx tW 1 J oP J J J<|k<|aP J J J J (pU.ok yQ au) J<|ai (v:=.bool (qz eR 2)) J J<|bh J J J (pU.ok yQ au)<|fa Dm J J<|bh J J J (pU.ok yQ au)<|lx tW 0 J oP J J J<|k<|aP J J J J (pU.ok yQ au) J<|ak (v:=.bool (qz eR 3)) J J<|aq<|rt<|r1 J J ?_
 exact⟨am_ Value.bool (by exact(pU.ok yQ au)),tW.below⟩
end Go.Proofs.YtgjakhpjmapelaaGreatDoor
