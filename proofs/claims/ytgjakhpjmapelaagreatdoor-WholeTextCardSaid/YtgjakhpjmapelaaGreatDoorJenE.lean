/- PRINTED by my own tool (wip/tool/gen.py): contracts of Go functions of this seat, each with its proof. -/
import Derived.Test.YtgjakhpjmapelaaGreatDoorTwnB
import Derived.Test.YtgjakhpjmapelaaGreatDoorTwnD
import Derived.Test.YtgjakhpjmapelaaGreatDoorTwnC
import Derived.Test.YtgjakhpjmapelaaGreatDoorJenD
import Derived.Test.YtgjakhpjmapelaaGreatDoorJenB
import Derived.Test.YtgjakhpjmapelaaGreatDoorTwnA
import Derived.Test.YtgjakhpjmapelaaGreatDoorJenA
import Derived.Test.YtgjakhpjmapelaaGreatDoorJenC
set_option linter.unusedVariables false
set_option linter.unusedSimpArgs false
namespace Go.Proofs.YtgjakhpjmapelaaGreatDoor
open Go.Ew Go.RowKit
set_option maxRecDepth 100000
set_option maxHeartbeats 1600000
attribute [local irreducible] WL WC SO PW PX PZ WE Code.wp wpList sj cA
attribute [local irreducible] kh xM jr fm eo Aq C6 Kt words eb de jJ fG vM
attribute [local irreducible] bg cG v7 j0 vZ pF jV gX qE qF qN ph wi wj jx je
variable {M:cb} {w w_:aG}
variable {bO:Nat} {Ki:TypeId} {ss:bA} {at_ bM er ch lv:Int} {r:List Go.Ew.Item}
theorem tE:gv aJ 66 3 3:=js Tryz.underlying66
theorem qw:ey aJ 23 1 false 8 (.int .i64 0):=⟨aU,aU⟩
theorem kl:gv aJ 66 1 1:=js Tryz.underlying66
theorem tF:gv aJ 66 0 0:=js Tryz.underlying66
theorem Vy:cH aJ 70:=cN Tryz.func70
theorem Fx:cH aJ 45:=cN Tryz.func45
theorem L4:cH aJ 71:=cN Tryz.func71
theorem afe:cH aJ 110:=cN Tryz.func110
theorem afd:cH aJ 111:=cN Tryz.func111
theorem nf:gv aJ 66 2 2:=js Tryz.underlying66
theorem py:cH aJ 47:=cN Tryz.func47
theorem Fu:cH aJ 72:=cN Tryz.func72
theorem Ft:cH aJ 73:=cN Tryz.func73
theorem Cg (hM:eU M w) (uI:ss.size≤maxLen) (lD:aL at_) (eT:aL bM) (na:aL er) (Qj:0≤ch∧ch≤255) (h_c:w.heap[bO]? =some (.cells #[.string ss,I at_,I bM,I er] Ki (0,0))∧¬M bO) (eQ:0≤at_∧at_≤(ss.size:Int)):Calls aJ 70 #[.pointer (some ⟨bO,0,none⟩),.int .u8 ch] w (cA fun v w'=>v=.bool (cu ss at_ er ch)∧Ext w w'):=by
 refine dH 35 Tryz.func70 J J J hM fun f0 ha H=>?_
 have H0:=H.put (it:=ro bO #[.string ss,I at_,I bM,I er] Ki) J<|by rw[bS];exact h_c
 have i0:f0 0=pV bO 0:=ha 0 bm
 have i1:f0 1=.int .u8 ch:=ha 1 bm
 have Ba:maxLen=9223372036854775807:=rfl
 refine az<|ak (v:=.bool false) J J<|aq<|sq<|yT J aU<|kq (fun _ _=>mv J i0 e1)<|kq (fun _ _=>nc J J e1)<|kq (fun _ _=>fa tE J J e1)<|kq (fun _ x_=>lr (H0.ext x_) 0 J qw J J J e1)<|kq (fun _ _=>eql J J J J e1)<|kq (fun _ _=>mv (v:=.bool (decide (er=0))) J J e1) ?_
 rcases bE (decide (er=0)) with b0|b0
 ·
  have p0:=dT b0
  refine qy J J J b0<|kq (fun _ _=>mv J i0 e1)<|qy J J J b0<|kq (fun _ _=>nc J J e1)<|qy J J J b0<|kq (fun _ _=>fa kl J J e1)<|qy J J J b0<|kq (fun _ x_=>lr (H0.ext x_) 0 J aS J J J e1)<|qy J J J b0<|kq (fun _ _=>mv J i0 e1)<|qy J J J b0<|kq (fun _ _=>nc J J e1)<|qy J J J b0<|kq (fun _ _=>fa tF J J e1)<|qy J J J b0<|kq (fun _ x_=>lr (H0.ext x_) 0 J oG J J J e1)<|qy J J J b0<|kq (fun _ _=>tq J J lq e1)<|qy J J J b0<|kq (fun _ _=>lss J J J J e1)<|kq (fun _ _=>aN J J J J b0 J e1)<|kq (fun _ _=>mv (v:=.bool (decide (at_<(ss.size:Int)))) J J e1) ?_
  rcases bE (decide (at_<(ss.size:Int))) with b1|b1
  ·
   have p1:=dT b1
   refine qy J J J b1<|kq (fun _ _=>mv J i0 e1)<|qy J J J b1<|kq (fun _ _=>nc J J e1)<|qy J J J b1<|kq (fun _ _=>fa tF J J e1)<|qy J J J b1<|kq (fun _ x_=>lr (H0.ext x_) 0 J oG J J J e1)<|qy J J J b1<|kq (fun _ _=>mv J i0 e1)<|qy J J J b1<|kq (fun _ _=>nc J J e1)<|qy J J J b1<|kq (fun _ _=>fa kl J J e1)<|qy J J J b1<|kq (fun _ x_=>lr (H0.ext x_) 0 J aS J J J e1)<|qy J J J b1<|kq (fun _ _=>Xd J J J J aj lq e1)<|qy J J J b1<|kq (fun _ _=>mv J i1 e1)<|qy J J J b1<|kq (fun _ _=>eql J J J J e1)<|kq (fun _ _=>aN J J J J b1 J e1)<|kq (fun _ _=>jy (v:=.bool (decide ((nz ss at_)=ch))) J J e1)<|zq ?_
   intro w0 bY
   have H1:=H0.ext bY
   refine nx<|rt<|r1 J J ?_
   exact⟨amz Value.bool (by simp only[cu,b0,b1,BL]),H1.below⟩
  refine qn J J J b1<|qn J J J b1<|qn J J J b1<|qn J J J b1<|qn J J J b1<|qn J J J b1<|qn J J J b1<|qn J J J b1<|qn J J J b1<|qn J J J b1<|qn J J J b1<|kq (fun _ _=>cZ J J J J b1 J e1)<|kq (fun _ _=>jy (v:=.bool false) J J e1)<|zq ?_
  intro w0 bY
  have H1:=H0.ext bY
  refine nx<|rt<|r1 J J ?_
  exact⟨amz Value.bool (by simp only[cu,b0,b1,BL]),H1.below⟩
 refine qn J J J b0<|qn J J J b0<|qn J J J b0<|qn J J J b0<|qn J J J b0<|qn J J J b0<|qn J J J b0<|qn J J J b0<|qn J J J b0<|qn J J J b0<|kq (fun _ _=>cZ J J J J b0 J e1)<|kq (fun _ _=>mv (v:=.bool false) J J e1)<|qn J J J J<|qn J J J J<|qn J J J J<|qn J J J J<|qn J J J J<|qn J J J J<|qn J J J J<|qn J J J J<|qn J J J J<|qn J J J J<|qn J J J J<|kq (fun _ _=>cZ J J J J J J e1)<|kq (fun _ _=>jy (v:=.bool false) J J e1)<|zq ?_
 intro w0 bY
 have H1:=H0.ext bY
 refine nx<|rt<|r1 J J ?_
 exact⟨amz Value.bool (by simp only[cu,b0,BL]),H1.below⟩
theorem qA (uI:ss.size≤maxLen) (lD:aL at_) (eT:aL bM) (na:aL er) (Qj:0≤ch∧ch≤255) (eQ:0≤at_∧at_≤(ss.size:Int)) (H:HI M w w_ ([box bO #[.string ss,I at_,I bM,I er] 66]++r)):Calls aJ 45 #[pV bO 0,.int .u8 ch] w_ (cA fun v w'=>v=.bool (cu ss at_ er ch)∧HI M w w' ([box bO #[.string ss,I (cM ss at_ er ch),I bM,I er] 66]++r)):=by
 refine enter 16 Tryz.func45 J J J fun f0 ha=>?_
 have i0:f0 0=pV bO 0:=ha 0 bm
 have i1:f0 1=.int .u8 ch:=ha 1 bm
 have Ba:maxLen=9223372036854775807:=rfl
 refine az<|ak (v:=.bool false) J J<|aq<|sq<|az<|ai J i0<|ai J i1<|k ?_
 have bT:=Cg (ss:=ss) (at_:=at_) (bM:=bM) (er:=er) (ch:=ch) (w:=w_) (M:=fun _=>False) (fun _ h_=>h_.elim) bo lD eT na (by exact Qj) ⟨H.at_ 0 rfl,fun h_=>h_⟩<|by exact eQ
 refine ca Vy J (ec J<|ec J e0) bT ?_
 rintro _ w0 ⟨rfl,bY⟩
 have H0:=H.ext bY
 refine k<|kg J J<|z<|nx<|cd (b:=!(cu ss at_ er ch)) J J (fun b0=>?_)<|fun b0=>?_
 ·
  refine az<|ak (v:=.bool false) J J<|aq<|rt<|aK<|r1 J J ?_
  have e0:(false:Bool)=cu ss at_ er ch:=by simp only[(fX b0),BL]
  have e1:(at_:Int)=cM ss at_ er ch:=by simp only[cM,(fX b0),BL]
  try rw[←e0]
  try rw[←e1]
  refine⟨?_,?_⟩
  · first|rfl|simp only[e0,e1]|(simp only[amA])
  · first|exact H0|simpa +zetaDelta only[e0,e1,amA] using H0
 refine sk<|cV<|ai J i0<|k<|nc J J<|aR kl J J<|bq H0 0 J aS J J J<|k<|add J J J J (by have h_:=sB (fl ‹(!cu ss at_ er ch)=false›);unfold aL;omega)<|k<|nc J J<|aR kl J J<|k<|bw H0 0 J aS J J J J J J J ?_
 intro w1 (H1:HI M w w1 ([box bO #[.string ss,I (at_+1),I bM,I er] 66]++r))
 refine bz<|ak (v:=.bool true) J J<|aq<|rt<|r1 J J ?_
 have e0:(true:Bool)=cu ss at_ er ch:=by simp only[(fl b0),BL]
 have e1:(at_+1:Int)=cM ss at_ er ch:=by simp only[cM,(fl b0),BL]
 try rw[←e0]
 try rw[←e1]
 refine⟨?_,?_⟩
 · first|rfl|simp only[e0,e1]|(simp only[amA])
 · first|exact H1|simpa +zetaDelta only[e0,e1,amA] using H1
theorem uY {ex:Int} (uI:ss.size≤maxLen) (lD:aL at_) (eT:aL bM) (na:aL er) (alW:aL ex) (H:HI M w w_ ([box bO #[.string ss,I at_,I bM,I er] 66]++r)):Calls aJ 71 #[pV bO 0,I ex] w_ (cA fun v w'=>v=.tuple #[]∧HI M w w' ([box bO #[.string ss,I at_,I bM,I (cg er ex)] 66]++r)):=by
 refine enter 13 Tryz.func71 J J J fun f0 ha=>?_
 have i0:f0 0=pV bO 0:=ha 0 bm
 have i1:f0 1=I ex:=ha 1 bm
 refine az<|ai J i0<|k<|nc J J<|aR tE J J<|bq H 0 J qw J J J<|k<|eql J J J J<|z<|nx<|cd (b:=decide (er=0)) J J (fun b0=>?_)<|fun b0=>?_
 ·
  refine rg<|ai J i0<|ai J i1<|k<|nc J J<|aR tE J J<|k<|bw H 0 J qw J J J J J J J ?_
  intro w0 (H0:HI M w w0 ([box bO #[.string ss,I at_,I bM,I ex] 66]++r))
  refine z<|D9 J ?_
  have e0:(ex:Int)=cg er ex:=by simp only[cg,b0,BL]
  try rw[←e0]
  refine⟨?_,?_⟩
  · first|rfl|simp only[e0]|(simp only[amA])
  · first|exact H0|simpa +zetaDelta only[e0,amA] using H0
 refine sk<|D9 J ?_
 have e0:(er:Int)=cg er ex:=by simp only[cg,b0,BL]
 try rw[←e0]
 refine⟨?_,?_⟩
 · first|rfl|simp only[e0]|(simp only[amA])
 · first|exact H|simpa +zetaDelta only[e0,amA] using H
theorem il (uI:ss.size≤maxLen) (lD:aL at_) (eT:aL bM) (na:aL er) (Qj:0≤ch∧ch≤255) (eQ:0≤at_∧at_≤(ss.size:Int)) (mX:0≤er∧er≤3) (H:HI M w w_ ([box bO #[.string ss,I at_,I bM,I er] 66]++r)):Calls aJ 47 #[pV bO 0,.int .u8 ch] w_ (cA fun v w'=>∃(kD:Int) (kV:Int),v=.tuple #[]∧HI M w w' ([box bO #[.string ss,I kD,I bM,I kV] 66]++r)∧kr ss at_ er ch=(kD,kV)∧(0≤kD∧at_≤kD∧kD≤(ss.size:Int))∧(0≤kV∧kV≤3)∧(kV=0→er=0∧kD=at_+1)):=by
 refine enter 10 Tryz.func47 J J J fun f0 ha=>?_
 have i0:f0 0=pV bO 0:=ha 0 bm
 have i1:f0 1=.int .u8 ch:=ha 1 bm
 have Ba:maxLen=9223372036854775807:=rfl
 have aht:=ct (b:=ch) (e:=er) eQ
 refine az<|ai J i0<|ai J i1<|k ?_
 let J0:=box bO #[.string ss,I at_,I bM,I er] 66
 have H0:HI M w w_ ([J0]++([]++r)):=HI.aN (l:=[J0]) (l':=[J0]) (t:=r) H [0] au J J
 have bT:=qA (bO:=bO) (ss:=ss) (at_:=at_) (bM:=bM) (er:=er) (ch:=ch) (w:=w) (w_:=w_) (r:=([]++r)) (M:=M) bo lD eT na (by exact Qj) (by exact eQ) H0
 refine ca Fx J (ec J<|ec J e0) bT ?_
 rintro _ w0 ⟨rfl,H1⟩
 let J1:=box bO #[.string ss,I (cM ss at_ er ch),I bM,I er] 66
 have H2:HI M w w0 ([J1]++r):=H1
 refine k<|kg J J<|z<|nx<|cd (b:=!(cu ss at_ er ch)) J J (fun b0=>?_)<|fun b0=>?_
 ·
  refine rg<|ai J i0<|k ?_
  have H3:HI M w w0 ([J1]++([]++r)):=HI.aN (l:=[J1]) (l':=[J1]) (t:=r) H2 [0] au J J
  have dq:=uY (bO:=bO) (ss:=ss) (at_:=(cM ss at_ er ch)) (bM:=bM) (er:=er) (ex:=2) (w:=w) (w_:=w0) (r:=([]++r)) (M:=M) bo aT eT na aT H3
  refine ca L4 J (ec J<|ec J e0) dq ?_
  rintro _ w1 ⟨rfl,H4⟩
  have H5:HI M w w1 ([box bO #[.string ss,I (cM ss at_ er ch),I bM,I (cg er 2)] 66]++r):=H4
  refine z<|D9 J ?_
  have e0:(cM ss at_ er ch:Int)=(cM ss at_ er ch):=rfl
  have e1:(cg er 2:Int)=(cg er 2):=rfl
  try rw[←e0]
  try rw[←e1]
  refine⟨(cM ss at_ er ch),(cg er 2),?_,?_,(by simp only[kr,cM,(fX b0),BL]),aj,(by exact ll (x:=2) mX au),(by exact fun h_=>(DQ h_).elim)⟩
  · first|rfl|simp only[e0,e1]|(simp only[amA])
  · first|exact H5|simpa +zetaDelta only[e0,e1,amA] using H5
 refine sk<|D9 J ?_
 have e0:(cM ss at_ er ch:Int)=(cM ss at_ er ch):=rfl
 try rw[←e0]
 refine⟨(cM ss at_ er ch),er,?_,?_,(by simp only[kr,cM,(fl b0),BL]),aj,(by exact mX),(by exact UY ‹(!cu ss at_ er ch)=false›)⟩
 · first|rfl|simp only[e0]|(simp only[amA])
 · first|exact H2|simpa +zetaDelta only[e0,amA] using H2
theorem qB (uI:ss.size≤maxLen) (lD:aL at_) (eT:aL bM) (na:aL er) (eQ:0≤at_∧at_≤(ss.size:Int)) (mX:0≤er∧er≤3) (H:HI M w w_ ([box bO #[.string ss,I at_,I bM,I er] 66]++r)):Calls aJ 72 #[pV bO 0] w_ (cA fun v w'=>∃(kD:Int) (kV:Int) (nm:bA),v=.string nm∧HI M w w' ([box bO #[.string ss,I kD,I bM,I kV] 66]++r)∧tn ss at_ er=(kD,kV,nm)∧(0≤kD∧at_≤kD∧kD≤(ss.size:Int))∧(0≤kV∧kV≤3)∧nm.size≤8∧(kV=0→er=0∧at_<kD)):=by
 refine enter 83 Tryz.func72 J J J fun f0 ha=>?_
 have i0:f0 0=pV bO 0:=ha 0 bm
 have Ba:maxLen=9223372036854775807:=rfl
 refine az<|ak (v:=.string ⟨#[]⟩) J J<|bz<|ai J i0<|k<|nc J J<|aR kl J J<|bq H 0 J aS J J J<|ak (v:=I at_) J J<|z<|nx<|cut (fun f w'=>∃(tj:Int),f 0=pV bO 0∧f 3=I at_∧HI M w w' ([box bO #[.string ss,I tj,I bM,I er] 66]++r)∧(zN ss at_ er 0=tj)∧(at_≤tj∧tj≤at_+8∧tj≤(ss.size:Int))) ?_ ?_
 ·
  refine bk<|lp (fun m f w'=>∃(j_:Nat) (p_:Int),m=8-j_∧f 0=pV bO 0∧f 3=I at_∧HI M w w' ([box bO #[.string ss,I p_,I bM,I er] 66]++r)∧(p_=at_+(j_:Int))∧(j_≤8∧p_≤(ss.size:Int))∧(zN ss at_ er 0=zN ss at_ er j_)) _ ⟨0,at_,J,i0,J,H,aj,aj,(by rfl)⟩ ?_
  rintro _ f1 w1 ⟨j_,p_,rfl,s0,s1,H0,IQ,pk,hs⟩
  refine sq<|sq<|yT J aU<|kq (fun _ _=>mv J s0 e1)<|kq (fun _ _=>nc J J e1)<|kq (fun _ _=>fa tE J J e1)<|kq (fun _ x_=>lx (H0.ext x_) 0 J qw J J J e1)<|kq (fun _ _=>eql J J J J e1)<|kq (fun _ _=>mv (v:=.bool (decide (er=0))) J J e1) ?_
  rcases bE (decide (er=0)) with b0|b0
  ·
   have p0:=dT b0
   refine qy J J J b0<|kq (fun _ _=>mv J s0 e1)<|qy J J J b0<|kq (fun _ _=>nc J J e1)<|qy J J J b0<|kq (fun _ _=>fa kl J J e1)<|qy J J J b0<|kq (fun _ x_=>lx (H0.ext x_) 0 J aS J J J e1)<|qy J J J b0<|kq (fun _ _=>mv J s1 e1)<|qy J J J b0<|kq (fun _ _=>sub J J J J aT e1)<|qy J J J b0<|kq (fun _ _=>lss J J J J e1)<|kq (fun _ _=>aN J J J J b0 J e1)<|kq (fun _ _=>mv (v:=.bool (decide ((p_-at_)<8))) J J e1) ?_
   rcases bE (decide ((p_-at_)<8)) with b1|b1
   ·
    have p1:=dT b1
    refine qy J J J b1<|kq (fun _ _=>mv J s0 e1)<|qy J J J b1<|kq (fun _ _=>nc J J e1)<|qy J J J b1<|kq (fun _ _=>fa kl J J e1)<|qy J J J b1<|kq (fun _ x_=>lx (H0.ext x_) 0 J aS J J J e1)<|qy J J J b1<|kq (fun _ _=>mv J s0 e1)<|qy J J J b1<|kq (fun _ _=>nc J J e1)<|qy J J J b1<|kq (fun _ _=>fa tF J J e1)<|qy J J J b1<|kq (fun _ x_=>lx (H0.ext x_) 0 J oG J J J e1)<|qy J J J b1<|kq (fun _ _=>tq J J lq e1)<|qy J J J b1<|kq (fun _ _=>lss J J J J e1)<|kq (fun _ _=>aN J J J J b1 J e1)<|kq (fun _ _=>mv (v:=.bool (decide (p_<(ss.size:Int)))) J J e1) ?_
    rcases bE (decide (p_<(ss.size:Int))) with b2|b2
    ·
     have p2:=dT b2
     refine qy J J J b2<|kq (fun _ _=>mv J s0 e1)<|qy J J J b2<|kq (fun _ _=>nc J J e1)<|qy J J J b2<|kq (fun _ _=>fa tF J J e1)<|qy J J J b2<|kq (fun _ x_=>lx (H0.ext x_) 0 J oG J J J e1)<|qy J J J b2<|kq (fun _ _=>mv J s0 e1)<|qy J J J b2<|kq (fun _ _=>nc J J e1)<|qy J J J b2<|kq (fun _ _=>fa kl J J e1)<|qy J J J b2<|kq (fun _ x_=>lx (H0.ext x_) 0 J aS J J J e1)<|qy J J J b2<|kq (fun _ _=>Xd J J J J aj lq e1)<|qy J J J b2<|kq (fun _ _=>geq J J J J e1)<|kq (fun _ _=>aN J J J J b2 J e1)<|kq (fun _ _=>mv (v:=.bool (decide (97≤(nz ss p_)))) J J e1) ?_
     rcases bE (decide (97≤(nz ss p_))) with b3|b3
     ·
      have p3:=dT b3
      refine qy J J J b3<|kq (fun _ _=>mv J s0 e1)<|qy J J J b3<|kq (fun _ _=>nc J J e1)<|qy J J J b3<|kq (fun _ _=>fa tF J J e1)<|qy J J J b3<|kq (fun _ x_=>lx (H0.ext x_) 0 J oG J J J e1)<|qy J J J b3<|kq (fun _ _=>mv J s0 e1)<|qy J J J b3<|kq (fun _ _=>nc J J e1)<|qy J J J b3<|kq (fun _ _=>fa kl J J e1)<|qy J J J b3<|kq (fun _ x_=>lx (H0.ext x_) 0 J aS J J J e1)<|qy J J J b3<|kq (fun _ _=>Xd J J J J aj lq e1)<|qy J J J b3<|kq (fun _ _=>leq J J J J e1)<|kq (fun _ _=>aN J J J J b3 J e1)<|zq ?_
      intro w2 bY
      have H1:=H0.ext bY
      refine nx<|cd (b:=decide ((nz ss p_)≤122)) J J (fun b4=>?_)<|fun b4=>?_
      ·
       have p4:=dT b4
       refine sk<|nx<|bk<|rg<|ai J s0<|k<|nc J J<|aR kl J J<|bq H1 0 J aS J J J<|k<|add J J J J aT<|k<|nc J J<|aR kl J J<|k<|bw H1 0 J aS J J J J J J J ?_
       intro w3 (H2:HI M w w3 ([box bO #[.string ss,I (p_+1),I bM,I er] 66]++r))
       refine z<|aF<|bG _ ?_ ⟨(j_+1),(p_+1),J,s0,s1,H2,aj,aj,(by exact hs.trans (Ys IQ b0 b1 b2 b3 b4))⟩
       omega
      refine ex<|aV<|bf<|bh<|Bj ⟨p_,s0,s1,H1,(by exact hs.trans (zG IQ<|by simp only[b0,b1,b2,b3,b4,BL])),aj⟩
     refine qn J J J b3<|qn J J J b3<|qn J J J b3<|qn J J J b3<|qn J J J b3<|qn J J J b3<|qn J J J b3<|qn J J J b3<|qn J J J b3<|qn J J J b3<|kq (fun _ _=>cZ J J J J b3 J e1)<|zq ?_
     intro w2 bY
     have H1:=H0.ext bY
     refine nx<|nU J J J<|ex<|aV<|bf<|bh<|Bj ⟨p_,s0,s1,H1,(by exact hs.trans (zG IQ<|by simp only[b0,b1,b2,b3,BL])),aj⟩
    refine qn J J J b2<|qn J J J b2<|qn J J J b2<|qn J J J b2<|qn J J J b2<|qn J J J b2<|qn J J J b2<|qn J J J b2<|qn J J J b2<|qn J J J b2<|kq (fun _ _=>cZ J J J J b2 J e1)<|kq (fun _ _=>mv (v:=.bool false) J J e1)<|qn J J J J<|qn J J J J<|qn J J J J<|qn J J J J<|qn J J J J<|qn J J J J<|qn J J J J<|qn J J J J<|qn J J J J<|qn J J J J<|kq (fun _ _=>cZ J J J J J J e1)<|zq ?_
    intro w2 bY
    have H1:=H0.ext bY
    refine nx<|nU J J J<|ex<|aV<|bf<|bh<|Bj ⟨p_,s0,s1,H1,(by exact hs.trans (zG IQ<|by simp only[b0,b1,b2,BL])),aj⟩
   refine qn J J J b1<|qn J J J b1<|qn J J J b1<|qn J J J b1<|qn J J J b1<|qn J J J b1<|qn J J J b1<|qn J J J b1<|qn J J J b1<|qn J J J b1<|kq (fun _ _=>cZ J J J J b1 J e1)<|kq (fun _ _=>mv (v:=.bool false) J J e1)<|qn J J J J<|qn J J J J<|qn J J J J<|qn J J J J<|qn J J J J<|qn J J J J<|qn J J J J<|qn J J J J<|qn J J J J<|qn J J J J<|kq (fun _ _=>cZ J J J J J J e1)<|kq (fun _ _=>mv (v:=.bool false) J J e1)<|qn J J J J<|qn J J J J<|qn J J J J<|qn J J J J<|qn J J J J<|qn J J J J<|qn J J J J<|qn J J J J<|qn J J J J<|qn J J J J<|kq (fun _ _=>cZ J J J J J J e1)<|zq ?_
   intro w2 bY
   have H1:=H0.ext bY
   refine nx<|nU J J J<|ex<|aV<|bf<|bh<|Bj ⟨p_,s0,s1,H1,(by exact hs.trans (zG IQ<|by simp only[b0,b1,BL])),aj⟩
  refine qn J J J b0<|qn J J J b0<|qn J J J b0<|qn J J J b0<|qn J J J b0<|qn J J J b0<|qn J J J b0<|kq (fun _ _=>cZ J J J J b0 J e1)<|kq (fun _ _=>mv (v:=.bool false) J J e1)<|qn J J J J<|qn J J J J<|qn J J J J<|qn J J J J<|qn J J J J<|qn J J J J<|qn J J J J<|qn J J J J<|qn J J J J<|qn J J J J<|kq (fun _ _=>cZ J J J J J J e1)<|kq (fun _ _=>mv (v:=.bool false) J J e1)<|qn J J J J<|qn J J J J<|qn J J J J<|qn J J J J<|qn J J J J<|qn J J J J<|qn J J J J<|qn J J J J<|qn J J J J<|qn J J J J<|kq (fun _ _=>cZ J J J J J J e1)<|kq (fun _ _=>mv (v:=.bool false) J J e1)<|qn J J J J<|qn J J J J<|qn J J J J<|qn J J J J<|qn J J J J<|qn J J J J<|qn J J J J<|qn J J J J<|qn J J J J<|qn J J J J<|kq (fun _ _=>cZ J J J J J J e1)<|zq ?_
  intro w2 bY
  have H1:=H0.ext bY
  refine nx<|nU J J J<|ex<|aV<|bf<|bh<|Bj ⟨p_,s0,s1,H1,(by exact hs.trans (zG IQ<|by simp only[b0,BL])),aj⟩
 ·
  rintro f0 w0 ⟨tj,s2,s3,H3,BC,alE⟩
  refine sq<|az<|ai J s2<|k<|nc J J<|aR kl J J<|bq H3 0 J aS J J J<|ai J s3<|k<|eql J J J J<|z<|nx<|cd (b:=decide (tj=at_)) J J (fun b1=>?_)<|fun b1=>?_
  ·
   refine rg<|ai J s2<|k ?_
   let J0:=box bO #[.string ss,I tj,I bM,I er] 66
   have H4:HI M w w0 ([J0]++([]++r)):=HI.aN (l:=[J0]) (l':=[J0]) (t:=r) H3 [0] au J J
   have bT:=uY (bO:=bO) (ss:=ss) (at_:=tj) (bM:=bM) (er:=er) (ex:=2) (w:=w) (w_:=w0) (r:=([]++r)) (M:=M) bo aT eT na aT H4
   refine ca L4 J (ec J<|ec J e0) bT ?_
   rintro _ w3 ⟨rfl,H5⟩
   refine aq<|sq<|yT J aU<|kq (fun _ _=>mv J s2 e1)<|kq (fun _ _=>nc J J e1)<|kq (fun _ _=>fa tF J J e1)<|kq (fun _ x_=>lx (H5.ext x_) 0 J oG J J J e1)<|kq (fun _ _=>mv J s3 e1)<|kq (fun _ _=>mv J s2 e1)<|kq (fun _ _=>nc J J e1)<|kq (fun _ _=>fa kl J J e1)<|kq (fun _ x_=>lx (H5.ext x_) 0 J aS J J J e1)<|kq (fun _ _=>Pl J J J J J J aj lq e1)<|kq (fun _ _=>jy (v:=.string (ss.extract at_.toNat tj.toNat)) J J e1)<|zq ?_
   intro w4 dy
   have H7:=H5.ext dy
   refine nx<|rt<|r1 J J ?_
   have e0:(ss.extract at_.toNat tj.toNat:bA)=(ss.extract at_.toNat tj.toNat):=rfl
   have e1:(cg er 2:Int)=(cg er 2):=rfl
   try rw[←e0]
   try rw[←e1]
   refine⟨tj,(cg er 2),(ss.extract at_.toNat tj.toNat),?_,?_,(by simp only[tn,BC,b1,BL]),aj,(by exact ll (x:=2) mX au),(by rw[Fy aj aj];omega),(by exact fun h_=>(DQ h_).elim)⟩
   · first|rfl|simp only[e0,e1]|(simp only[amA])
   · first|exact H7|simpa +zetaDelta only[e0,e1,amA] using H7
  have p1:=dF b1
  refine sk<|nx<|sq<|yT J aU<|kq (fun _ _=>mv J s2 e1)<|kq (fun _ _=>nc J J e1)<|kq (fun _ _=>fa tF J J e1)<|kq (fun _ x_=>lx (H3.ext x_) 0 J oG J J J e1)<|kq (fun _ _=>mv J s3 e1)<|kq (fun _ _=>mv J s2 e1)<|kq (fun _ _=>nc J J e1)<|kq (fun _ _=>fa kl J J e1)<|kq (fun _ x_=>lx (H3.ext x_) 0 J aS J J J e1)<|kq (fun _ _=>Pl J J J J J J aj lq e1)<|kq (fun _ _=>jy (v:=.string (ss.extract at_.toNat tj.toNat)) J J e1)<|zq ?_
  intro w3 dy
  have H4:=H3.ext dy
  refine nx<|rt<|r1 J J ?_
  have e0:(ss.extract at_.toNat tj.toNat:bA)=(ss.extract at_.toNat tj.toNat):=rfl
  try rw[←e0]
  refine⟨tj,er,(ss.extract at_.toNat tj.toNat),?_,?_,(by simp only[tn,BC,b1,BL]),aj,(by exact mX),(by rw[Fy aj aj];omega),(by exact fun h_=>⟨h_,by omega⟩)⟩
  · first|rfl|simp only[e0]|(simp only[amA])
  · first|exact H4|simpa +zetaDelta only[e0,amA] using H4
theorem n9 (uI:ss.size≤maxLen) (lD:aL at_) (eT:aL bM) (na:aL er) (eQ:0≤at_∧at_≤(ss.size:Int)) (mX:0≤er∧er≤3) (H:HI M w w_ ([box bO #[.string ss,I at_,I bM,I er] 66]++r)):Calls aJ 73 #[pV bO 0] w_ (cA fun v w'=>∃(kD:Int) (kV:Int) (vl:Int),v=I vl∧HI M w w' ([box bO #[.string ss,I kD,I bM,I kV] 66]++r)∧vQ ss at_ er=(kD,kV,vl)∧(0≤kD∧at_≤kD∧kD≤(ss.size:Int))∧(0≤kV∧kV≤3)∧aL vl∧(kV=0→er=0)):=by
 refine enter 49 Tryz.func73 J J J fun f0 ha=>?_
 have i0:f0 0=pV bO 0:=ha 0 bm
 have Ba:maxLen=9223372036854775807:=rfl
 have HA:=Ku eQ
 refine az<|ak (v:=I 0) J J<|aq<|sq<|az<|ai J i0<|k<|nc J J<|aR tE J J<|bq H 0 J qw J J J<|k<|neq J J J J<|z<|nx<|cd (b:=!decide (er=0)) J J (fun b0=>?_)<|fun b0=>?_
 ·
  have p0:=dF<|fX b0
  refine az<|ak (v:=I 0) J J<|aq<|rt<|aK<|r1 J J ?_
  refine⟨at_,er,0,?_,?_,(by simp only[vQ,(fX b0),BL]),aj,(by exact mX),(by unfold aL;decide),(by exact id)⟩
  · first|rfl|simp only[amA]
  · first|exact H|simpa +zetaDelta only[amA] using H
 have p0:=dT<|fl b0
 refine sk<|nx<|sq<|yT J aU<|kq (fun _ _=>mv J i0 e1)<|kq (fun _ _=>nc J J e1)<|kq (fun _ _=>fa kl J J e1)<|kq (fun _ x_=>lx (H.ext x_) 0 J aS J J J e1)<|kq (fun _ _=>mv J i0 e1)<|kq (fun _ _=>nc J J e1)<|kq (fun _ _=>fa tF J J e1)<|kq (fun _ x_=>lx (H.ext x_) 0 J oG J J J e1)<|kq (fun _ _=>mv J i0 e1)<|kq (fun _ _=>nc J J e1)<|kq (fun _ _=>fa kl J J e1)<|kq (fun _ x_=>lx (H.ext x_) 0 J aS J J J e1)<|kq (v:=I (ga ss at_)) (fun v_ x_=>?_) ?_
 ·
  have cc:=UQ (s:=ss) (at_:=at_) (w:=v_) bo lD
  exact ca afe J (ec J<|ec J e0) cc fun _ _ h_=>e2 h_
 refine kq (fun _ _=>add J J J J (by unfold aL;omega) e1)<|kq (fun _ _=>jy (v:=I (at_+(ga ss at_))) J J e1)<|zq ?_
 intro w0 bY
 have H0:=H.ext bY
 refine nx<|sq<|yT J aU<|kq (fun _ _=>mv J i0 e1)<|kq (fun _ _=>nc J J e1)<|kq (fun _ _=>fa tF J J e1)<|kq (fun _ x_=>lx (H0.ext x_) 0 J oG J J J e1)<|kq (fun _ _=>mv J i0 e1)<|kq (fun _ _=>nc J J e1)<|kq (fun _ _=>fa kl J J e1)<|kq (fun _ x_=>lx (H0.ext x_) 0 J aS J J J e1)<|kq (fun _ _=>mv (v:=I (at_+(ga ss at_))) J J e1)<|kq (fun _ _=>Pl J J J J J J aj lq e1)<|kq (v:=.tuple #[I ((fM<|ss.extract at_.toNat (at_+(ga ss at_)).toNat).1),I ((fM<|ss.extract at_.toNat (at_+(ga ss at_)).toNat).2)]) (fun v_ x_=>?_) ?_
 ·
  have cc:=Y8 (s:=(ss.extract at_.toNat (at_+(ga ss at_)).toNat)) (w:=v_)<|by exact amP (C2 _ _ _) uI
  exact ca afd J (ec J e0) cc fun _ _ h_=>e2 h_
 refine kq (fun _ _=>mv (v:=.tuple #[I ((fM<|ss.extract at_.toNat (at_+(ga ss at_)).toNat).1),I ((fM<|ss.extract at_.toNat (at_+(ga ss at_)).toNat).2)]) J J e1)<|kq (fun _ _=>xt J J J e1)<|kq (fun _ _=>xt J J J e1)<|kq (fun _ _=>jy (v:=I ((fM<|ss.extract at_.toNat (at_+(ga ss at_)).toNat).1)) J J e1)<|kq (fun _ _=>jy (v:=I ((fM<|ss.extract at_.toNat (at_+(ga ss at_)).toNat).2)) J J e1)<|zq ?_
 intro w1 dy
 have H1:=H0.ext dy
 refine nx<|sq<|az<|ai (v:=I ((fM<|ss.extract at_.toNat (at_+(ga ss at_)).toNat).2)) J J<|k<|neq J J J J<|z<|nx<|cd (b:=!decide (((fM<|ss.extract at_.toNat (at_+(ga ss at_)).toNat).2)=0)) J J (fun b1=>?_)<|fun b1=>?_
 ·
  have p1:=dF<|fX b1
  refine az<|ai J i0<|ai (v:=I ((fM<|ss.extract at_.toNat (at_+(ga ss at_)).toNat).2)) J J<|k ?_
  let J0:=box bO #[.string ss,I at_,I bM,I er] 66
  have H2:HI M w w1 ([J0]++([]++r)):=HI.aN (l:=[J0]) (l':=[J0]) (t:=r) H1 [0] au J J
  have bT:=uY (bO:=bO) (ss:=ss) (at_:=at_) (bM:=bM) (er:=er) (ex:=((fM<|ss.extract at_.toNat (at_+(ga ss at_)).toNat).2)) (w:=w) (w_:=w1) (r:=([]++r)) (M:=M) bo lD eT na (by have h_:=E_ (ss.extract at_.toNat (at_+ga ss at_).toNat);unfold aL;omega) H2
  refine ca L4 J (ec J<|ec J e0) bT ?_
  rintro _ w2 ⟨rfl,H3⟩
  have H4:HI M w w2 ([box bO #[.string ss,I at_,I bM,I (cg er ((fM (ss.extract at_.toNat (at_+(ga ss at_)).toNat)).2))] 66]++r):=H3
  refine bz<|ak (v:=I 0) J J<|aq<|rt<|aK<|r1 J J ?_
  have e0:(cg er ((fM (ss.extract at_.toNat (at_+(ga ss at_)).toNat)).2):Int)=(cg er ((fM (ss.extract at_.toNat (at_+(ga ss at_)).toNat)).2)):=rfl
  try rw[←e0]
  refine⟨at_,(cg er<|(fM<|ss.extract at_.toNat (at_+(ga ss at_)).toNat).2),0,?_,?_,(by simp only[vQ,(fl b0),(fX b1),BL]),aj,(by exact ll mX (E_ _).2),(by unfold aL;decide),(by exact fun h_=>(VM (dF<|fX bo) h_).elim)⟩
  · first|rfl|simp only[e0]|(simp only[amA])
  · first|exact H4|simpa +zetaDelta only[e0,amA] using H4
 have p1:=dT<|fl b1
 refine sk<|cV<|ai J i0<|ai (v:=I (at_+(ga ss at_))) J J<|k<|nc J J<|aR kl J J<|k<|bw H1 0 J aS J J J J J J J ?_
 intro w2 (H2:HI M w w2 ([box bO #[.string ss,I (at_+(ga ss at_)),I bM,I er] 66]++r))
 refine bz<|ai (v:=I ((fM<|ss.extract at_.toNat (at_+(ga ss at_)).toNat).1)) J J<|ak (v:=I ((fM<|ss.extract at_.toNat (at_+(ga ss at_)).toNat).1)) J J<|aq<|rt<|r1 J J ?_
 have e0:((fM (ss.extract at_.toNat (at_+(ga ss at_)).toNat)).1:Int)=((fM (ss.extract at_.toNat (at_+(ga ss at_)).toNat)).1):=rfl
 have e1:(at_+(ga ss at_):Int)=(at_+(ga ss at_)):=rfl
 try rw[←e0]
 try rw[←e1]
 refine⟨(at_+(ga ss at_)),er,((fM<|ss.extract at_.toNat (at_+(ga ss at_)).toNat).1),?_,?_,(by simp only[vQ,(fl b0),(fl b1),BL]),aj,(by exact mX),(by exact(E_ _).1),(by exact id)⟩
 · first|rfl|simp only[e0,e1]|(simp only[amA])
 · first|exact H2|simpa +zetaDelta only[e0,e1,amA] using H2
theorem NN (uI:ss.size≤maxLen) (lD:aL at_) (eT:aL bM) (na:aL er) (eQ:0≤at_∧at_≤(ss.size:Int)) (mX:0≤er∧er≤3) (ahE:0≤bM∧bM≤9223372036854775000) (H:HI M w w_ ([box bO #[.string ss,I at_,I bM,I er] 66]++r)):Calls aJ 46 #[pV bO 0] w_ (cA fun v w'=>∃(kD:Int) (kV:Int) (wv:Bool) (nm:bA) (vl:Int),v=.agg #[.bool wv,.string nm,I vl]∧HI M w w' ([box bO #[.string ss,I kD,I (bM+1),I kV] 66]++r)∧nR ss at_ bM er=(kD,kV,(wv,nm,vl))∧(0≤kD∧at_≤kD∧kD≤(ss.size:Int))∧(0≤kV∧kV≤3)∧nm.size≤8∧aL vl∧(kV=0→at_+1≤kD)):=by
 refine enter 45 Tryz.func46 J J J fun f0 ha=>?_
 have i0:f0 0=pV bO 0:=ha 0 bm
 have Ba:maxLen=9223372036854775807:=rfl
 refine az<|k<|al H fZ ?_
 let J1:=box bO #[.string ss,I at_,I bM,I er] 66
 intro aZ w0 bY (H0:HI M w w0 ([box aZ #[.bool false,.string ⟨#[]⟩,I 0] 43,J1]++r))
 let J0:=box aZ #[.bool false,.string ⟨#[]⟩,I 0] 43
 refine aq<|sq<|az<|ai J i0<|k<|nc J J<|aR nf J J<|bq H0 1 J aS J J J<|k<|eql J J J J<|ai (v:=.bool (decide (bM=4096))) J J ?_
 rcases bE (decide (bM=4096)) with b0|b0
 ·
  refine aQ J J J b0<|mv J i0<|aQ J J J b0 ?_
  have bT:=Cg (ss:=ss) (at_:=at_) (bM:=bM) (er:=er) (ch:=119) (w:=w0) (M:=fun _=>False) (fun _ h_=>h_.elim) bo lD eT na au ⟨H0.at_ 1 rfl,fun h_=>h_⟩ aj
  refine ca Vy J (ec J<|ec J e0) bT ?_
  rintro _ w1 ⟨rfl,dy⟩
  have H1:=H0.ext dy
  refine aQ J J J b0<|mv (v:=.bool (cu ss at_ er 119)) J J ?_
  rcases bE (cu ss at_ er 119) with b1|b1
  ·
   refine aX J J J b1<|aX J J J b1<|aQ J J J b0<|aN J J J J b1 J<|k<|aN J J J J b0 J<|aq<|oA J J J<|rg<|ai J i0<|k ?_
   have H2:HI M w w1 ([J1]++([J0]++r)):=HI.aN (l:=[J0,J1]) (l':=[J1,J0]) (t:=r) H1 [1,0] au J J
   have dq:=uY (bO:=bO) (ss:=ss) (at_:=at_) (bM:=bM) (er:=er) (ex:=3) (w:=w) (w_:=w1) (r:=([J0]++r)) (M:=M) bo lD eT na aT H2
   refine ca L4 J (ec J<|ec J e0) dq ?_
   rintro _ w2 ⟨rfl,H3⟩
   let J2:=box bO #[.string ss,I at_,I bM,I (cg er 3)] 66
   refine bz<|k<|al H3 fZ ?_
   intro ba w3 fe (H5:HI M w w3 ([box ba #[.bool false,.string ⟨#[]⟩,I 0] 43,J2,J0]++r))
   let J3:=box ba #[.bool false,.string ⟨#[]⟩,I 0] 43
   refine aq<|sq<|az<|ai J i0<|k ?_
   have H6:HI M w w3 ([J2]++([J3,J0]++r)):=HI.aN (l:=[J3,J2,J0]) (l':=[J2,J3,J0]) (t:=r) H5 [1,0,2] au J J
   have fP:=qA (bO:=bO) (ss:=ss) (at_:=at_) (bM:=bM) (er:=(cg er 3)) (ch:=119) (w:=w) (w_:=w3) (r:=([J3,J0]++r)) (M:=M) bo lD eT (by have h_:=ll (x:=3) mX au;unfold aL;omega) au aj H6
   refine ca Fx J (ec J<|ec J e0) fP ?_
   rintro _ w4 ⟨rfl,H7⟩
   let J4:=box bO #[.string ss,I (cM ss at_ (cg er 3) 119),I bM,I (cg er 3)] 66
   refine aR l_ J J<|k<|bw H7 1 J oo J J J J J J J ?_
   let J5:=box ba #[.bool (cu ss at_ (cg er 3) 119),.string ⟨#[]⟩,I 0] 43
   intro w5 (H9:HI M w w5 ([J4,J5,J0]++r))
   refine bz<|aR l_ J J<|bq H9 1 J oo J J J<|k<|kg J J<|z<|nx<|cd (b:=!(cu ss at_ (cg er 3) 119)) J J (fun b2=>?_)<|fun b2=>?_
   ·
    refine rg<|ai J i0<|k ?_
    have dz:HI M w w5 ([J4]++([J5,J0]++r)):=HI.aN (l:=[J4,J5,J0]) (l':=[J4,J5,J0]) (t:=r) H9 [0,1,2] au J J
    have ff:=il (bO:=bO) (ss:=ss) (at_:=(cM ss at_ (cg er 3) 119)) (bM:=bM) (er:=(cg er 3)) (ch:=114) (w:=w) (w_:=w5) (r:=([J5,J0]++r)) (M:=M) bo (by have h_:=ct (b:=119) (e:=er) eQ;have jj:=ct (b:=119) (e:=cg er 3) eQ;unfold aL;omega) eT (by have h_:=ll (x:=3) mX au;unfold aL;omega) au (by have h_:=ct (b:=119) (e:=er) eQ;have jj:=ct (b:=119) (e:=cg er 3) eQ;omega) (by exact ll (x:=3) mX au) dz
    refine ca py J (ec J<|ec J e0) ff ?_
    rintro _ w6 ⟨o0,o1,rfl,cB,q0,q1,q2,q3⟩
    let J6:=box bO #[.string ss,I o0,I bM,I o1] 66
    have dx:HI M w w6 ([J6,J5,J0]++r):=cB
    refine bz<|ai J i0<|k ?_
    have dI:HI M w w6 ([J6]++([J5,J0]++r)):=HI.aN (l:=[J6,J5,J0]) (l':=[J6,J5,J0]) (t:=r) dx [0,1,2] au J J
    have mc:=il (bO:=bO) (ss:=ss) (at_:=o0) (bM:=bM) (er:=o1) (ch:=58) (w:=w) (w_:=w6) (r:=([J5,J0]++r)) (M:=M) bo aT eT aT au aj aj dI
    refine ca py J (ec J<|ec J e0) mc ?_
    rintro _ w7 ⟨o2,o3,rfl,cU,q4,q5,q6,q7⟩
    let J7:=box bO #[.string ss,I o2,I bM,I o3] 66
    have d_:HI M w w7 ([J7,J5,J0]++r):=cU
    refine bz<|ai J i0<|k ?_
    have dD:HI M w w7 ([J7]++([J5,J0]++r)):=HI.aN (l:=[J7,J5,J0]) (l':=[J7,J5,J0]) (t:=r) d_ [0,1,2] au J J
    have nV:=qB (bO:=bO) (ss:=ss) (at_:=o2) (bM:=bM) (er:=o3) (w:=w) (w_:=w7) (r:=([J5,J0]++r)) (M:=M) bo aT eT aT aj aj dD
    refine ca Fu J (ec J e0) nV ?_
    rintro _ w8 ⟨o4,o5,o6,rfl,cY,q8,q9,u0,xz,D'⟩
    let J8:=box bO #[.string ss,I o4,I bM,I o5] 66
    refine aR nS J J<|k<|bw cY 1 J oG J J J J J J J ?_
    let J9:=box ba #[.bool (cu ss at_ (cg er 3) 119),.string o6,I 0] 43
    intro w9 (dQ:HI M w w9 ([J8,J9,J0]++r))
    refine bz<|ai J i0<|k ?_
    have cQ:HI M w w9 ([J8]++([J9,J0]++r)):=HI.aN (l:=[J8,J9,J0]) (l':=[J8,J9,J0]) (t:=r) dQ [0,1,2] au J J
    have As:=il (bO:=bO) (ss:=ss) (at_:=o4) (bM:=bM) (er:=o5) (ch:=61) (w:=w) (w_:=w9) (r:=([J9,J0]++r)) (M:=M) bo aT eT aT au aj aj cQ
    refine ca py J (ec J<|ec J e0) As ?_
    rintro _ dP ⟨o7,o8,rfl,eh,uZ,NO,Cl,Ck⟩
    let dZ:=box bO #[.string ss,I o7,I bM,I o8] 66
    have dO:HI M w dP ([dZ,J9,J0]++r):=eh
    refine bz<|ai J i0<|k ?_
    have fg:HI M w dP ([dZ]++([J9,J0]++r)):=HI.aN (l:=[dZ,J9,J0]) (l':=[dZ,J9,J0]) (t:=r) dO [0,1,2] au J J
    have C_:=n9 (bO:=bO) (ss:=ss) (at_:=o7) (bM:=bM) (er:=o8) (w:=w) (w_:=dP) (r:=([J9,J0]++r)) (M:=M) bo aT eT aT aj aj fg
    refine ca Ft J (ec J e0) C_ ?_
    rintro _ eB ⟨o9,aW,gX,rfl,fz,yp,xy,q19,xw,D_⟩
    refine aR oS J J<|k<|bw fz 1 J aS J J J J J J J ?_
    let eP:=box ba #[.bool (cu ss at_ (cg er 3) 119),.string o6,I gX] 43
    intro fE (iY:HI M w fE ([box bO #[.string ss,I o9,I bM,I aW] 66,eP,J0]++r))
    refine bz<|ai J i0<|k<|nc J J<|aR nf J J<|bq iY 0 J aS J J J<|k<|add J J J J aT<|k<|nc J J<|aR nf J J<|k<|bw iY 0 J aS J J J J J J J ?_
    let gp:=box bO #[.string ss,I o9,I (bM+1),I aW] 66
    intro iU (jz:HI M w iU ([gp,eP,J0]++r))
    refine bz<|k<|cI jz 1 J fZ J J au J<|k<|bw jz 2 J fZ J J J J J J J ?_
    let fQ:=box aZ #[.bool (cu ss at_ (cg er 3) 119),.string o6,I gX] 43
    intro jZ (n5:HI M w jZ ([gp,eP,fQ]++r))
    refine aq<|rt<|pf n5 2 J fZ J J J J au ?_
    have jd:=HI.aN (l:=[gp,eP,fQ]) (l':=[gp]) (t:=r) n5 [0] au J J
    have e0:(cu ss at_ (cg er 3) 119:Bool)=(cu ss at_ (cg er 3) 119):=rfl
    have e1:(bM+1:Int)=(bM+1):=rfl
    try rw[←e0]
    try rw[←e1]
    refine⟨o9,aW,(cu ss at_ (cg er 3) 119),o6,gX,?_,?_,(by simp only[nR,zX,tR,q0,q4,q8,uZ,yp,b0,b1,(fX b2),BL]),(by have h_:=ct (b:=119) (e:=er) eQ;have jj:=ct (b:=119) (e:=cg er 3) eQ;omega),aj,bo,bo,(by have h_:=ct (b:=119) (e:=er) eQ;have jj:=ct (b:=119) (e:=cg er 3) eQ;omega)⟩
    · first|rfl|simp only[e0,e1]|(simp only[amA])
    · first|exact jd|simpa +zetaDelta only[e0,e1,amA] using jd
   refine sk<|cV<|ai J i0<|k ?_
   have dz:HI M w w5 ([J4]++([J5,J0]++r)):=HI.aN (l:=[J4,J5,J0]) (l':=[J4,J5,J0]) (t:=r) H9 [0,1,2] au J J
   have ff:=il (bO:=bO) (ss:=ss) (at_:=(cM ss at_ (cg er 3) 119)) (bM:=bM) (er:=(cg er 3)) (ch:=58) (w:=w) (w_:=w5) (r:=([J5,J0]++r)) (M:=M) bo (by have h_:=ct (b:=119) (e:=er) eQ;have jj:=ct (b:=119) (e:=cg er 3) eQ;unfold aL;omega) eT (by have h_:=ll (x:=3) mX au;unfold aL;omega) au (by have h_:=ct (b:=119) (e:=er) eQ;have jj:=ct (b:=119) (e:=cg er 3) eQ;omega) (by exact ll (x:=3) mX au) dz
   refine ca py J (ec J<|ec J e0) ff ?_
   rintro _ w6 ⟨o0,o1,rfl,cB,q0,q1,q2,q3⟩
   let iF:=box bO #[.string ss,I o0,I bM,I o1] 66
   have dx:HI M w w6 ([iF,J5,J0]++r):=cB
   refine bz<|ai J i0<|k ?_
   have dI:HI M w w6 ([iF]++([J5,J0]++r)):=HI.aN (l:=[iF,J5,J0]) (l':=[iF,J5,J0]) (t:=r) dx [0,1,2] au J J
   have mc:=qB (bO:=bO) (ss:=ss) (at_:=o0) (bM:=bM) (er:=o1) (w:=w) (w_:=w6) (r:=([J5,J0]++r)) (M:=M) bo aT eT aT aj aj dI
   refine ca Fu J (ec J e0) mc ?_
   rintro _ w7 ⟨o2,o3,o4,rfl,cU,q4,q5,q6,q7,q8⟩
   let pc:=box bO #[.string ss,I o2,I bM,I o3] 66
   refine aR nS J J<|k<|bw cU 1 J oG J J J J J J J ?_
   let mh:=box ba #[.bool (cu ss at_ (cg er 3) 119),.string o4,I 0] 43
   intro w8 (dD:HI M w w8 ([pc,mh,J0]++r))
   refine bz<|ai J i0<|k ?_
   have cY:HI M w w8 ([pc]++([mh,J0]++r)):=HI.aN (l:=[pc,mh,J0]) (l':=[pc,mh,J0]) (t:=r) dD [0,1,2] au J J
   have nV:=il (bO:=bO) (ss:=ss) (at_:=o2) (bM:=bM) (er:=o3) (ch:=61) (w:=w) (w_:=w8) (r:=([mh,J0]++r)) (M:=M) bo aT eT aT au aj aj cY
   refine ca py J (ec J<|ec J e0) nV ?_
   rintro _ w9 ⟨o5,o6,rfl,dW,q9,u0,xz,D'⟩
   let tM:=box bO #[.string ss,I o5,I bM,I o6] 66
   have dQ:HI M w w9 ([tM,mh,J0]++r):=dW
   refine bz<|ai J i0<|k ?_
   have cQ:HI M w w9 ([tM]++([mh,J0]++r)):=HI.aN (l:=[tM,mh,J0]) (l':=[tM,mh,J0]) (t:=r) dQ [0,1,2] au J J
   have As:=n9 (bO:=bO) (ss:=ss) (at_:=o5) (bM:=bM) (er:=o6) (w:=w) (w_:=w9) (r:=([mh,J0]++r)) (M:=M) bo aT eT aT aj aj cQ
   refine ca Ft J (ec J e0) As ?_
   rintro _ dP ⟨o7,o8,o9,rfl,eh,uZ,NO,Cl,Ck,yp⟩
   refine aR oS J J<|k<|bw eh 1 J aS J J J J J J J ?_
   let jM:=box ba #[.bool (cu ss at_ (cg er 3) 119),.string o4,I o9] 43
   intro eB (fg:HI M w eB ([box bO #[.string ss,I o7,I bM,I o8] 66,jM,J0]++r))
   refine bz<|ai J i0<|k<|nc J J<|aR nf J J<|bq fg 0 J aS J J J<|k<|add J J J J aT<|k<|nc J J<|aR nf J J<|k<|bw fg 0 J aS J J J J J J J ?_
   let pb:=box bO #[.string ss,I o7,I (bM+1),I o8] 66
   intro fE (fz:HI M w fE ([pb,jM,J0]++r))
   refine bz<|k<|cI fz 1 J fZ J J au J<|k<|bw fz 2 J fZ J J J J J J J ?_
   let qm:=box aZ #[.bool (cu ss at_ (cg er 3) 119),.string o4,I o9] 43
   intro iU (gS:HI M w iU ([pb,jM,qm]++r))
   refine aq<|rt<|pf gS 2 J fZ J J J J au ?_
   have iY:=HI.aN (l:=[pb,jM,qm]) (l':=[pb]) (t:=r) gS [0] au J J
   have e0:(cu ss at_ (cg er 3) 119:Bool)=(cu ss at_ (cg er 3) 119):=rfl
   have e1:(bM+1:Int)=(bM+1):=rfl
   try rw[←e0]
   try rw[←e1]
   refine⟨o7,o8,(cu ss at_ (cg er 3) 119),o4,o9,?_,?_,(by simp only[nR,zX,tR,q0,q4,q9,uZ,b0,b1,(fl b2),BL]),(by have h_:=ct (b:=119) (e:=er) eQ;have jj:=ct (b:=119) (e:=cg er 3) eQ;omega),aj,bo,bo,(by have h_:=ct (b:=119) (e:=er) eQ;have jj:=ct (b:=119) (e:=cg er 3) eQ;omega)⟩
   · first|rfl|simp only[e0,e1]|(simp only[amA])
   · first|exact iY|simpa +zetaDelta only[e0,e1,amA] using iY
  refine aQ J J J b1<|mv J i0<|aQ J J J b1 ?_
  have dq:=Cg (ss:=ss) (at_:=at_) (bM:=bM) (er:=er) (ch:=114) (w:=w1) (M:=fun _=>False) (fun _ h_=>h_.elim) bo lD eT na au ⟨H1.at_ 1 rfl,fun h_=>h_⟩ aj
  refine ca Vy J (ec J<|ec J e0) dq ?_
  rintro _ w2 ⟨rfl,fe⟩
  have H2:=H1.ext fe
  refine aQ J J J b0<|cZ J J J J b1 J<|k<|aN J J J J b0 J<|z<|nx<|cd (b:=cu ss at_ er 114) J J (fun b2=>?_)<|fun b2=>?_
  ·
   refine rg<|ai J i0<|k ?_
   have H3:HI M w w2 ([J1]++([J0]++r)):=HI.aN (l:=[J0,J1]) (l':=[J1,J0]) (t:=r) H2 [1,0] au J J
   have fP:=uY (bO:=bO) (ss:=ss) (at_:=at_) (bM:=bM) (er:=er) (ex:=3) (w:=w) (w_:=w2) (r:=([J0]++r)) (M:=M) bo lD eT na aT H3
   refine ca L4 J (ec J<|ec J e0) fP ?_
   rintro _ w3 ⟨rfl,H4⟩
   let n3:=box bO #[.string ss,I at_,I bM,I (cg er 3)] 66
   refine bz<|k<|al H4 fZ ?_
   intro ba w4 fA (H6:HI M w w4 ([box ba #[.bool false,.string ⟨#[]⟩,I 0] 43,n3,J0]++r))
   let pa:=box ba #[.bool false,.string ⟨#[]⟩,I 0] 43
   refine aq<|sq<|az<|ai J i0<|k ?_
   have H7:HI M w w4 ([n3]++([pa,J0]++r)):=HI.aN (l:=[pa,n3,J0]) (l':=[n3,pa,J0]) (t:=r) H6 [1,0,2] au J J
   have ff:=qA (bO:=bO) (ss:=ss) (at_:=at_) (bM:=bM) (er:=(cg er 3)) (ch:=119) (w:=w) (w_:=w4) (r:=([pa,J0]++r)) (M:=M) bo lD eT (by have h_:=ll (x:=3) mX au;unfold aL;omega) au aj H7
   refine ca Fx J (ec J<|ec J e0) ff ?_
   rintro _ w5 ⟨rfl,H8⟩
   let vH:=box bO #[.string ss,I (cM ss at_ (cg er 3) 119),I bM,I (cg er 3)] 66
   refine aR l_ J J<|k<|bw H8 1 J oo J J J J J J J ?_
   let uh:=box ba #[.bool (cu ss at_ (cg er 3) 119),.string ⟨#[]⟩,I 0] 43
   let bc:=[uh,J0]
   intro w6 (dz:HI M w w6 ((vH::bc)++r))
   refine bz<|aR l_ J J<|bq dz 1 J oo J J J<|k<|kg J J<|z<|nx<|cd (b:=!(cu ss at_ (cg er 3) 119)) J J (fun b3=>?_)<|fun b3=>?_
   ·
    refine rg<|ai J i0<|k ?_
    have cB:HI M w w6 ([vH]++([uh,J0]++r)):=HI.aN (l:=(vH::bc)) (l':=(vH::bc)) (t:=r) dz [0,1,2] au J J
    have mc:=il (bO:=bO) (ss:=ss) (at_:=(cM ss at_ (cg er 3) 119)) (bM:=bM) (er:=(cg er 3)) (ch:=114) (w:=w) (w_:=w6) (r:=([uh,J0]++r)) (M:=M) bo (by have h_:=ct (b:=119) (e:=er) eQ;have jj:=ct (b:=119) (e:=cg er 3) eQ;unfold aL;omega) eT (by have h_:=ll (x:=3) mX au;unfold aL;omega) au (by have h_:=ct (b:=119) (e:=er) eQ;have jj:=ct (b:=119) (e:=cg er 3) eQ;omega) (by exact ll (x:=3) mX au) cB
    refine ca py J (ec J<|ec J e0) mc ?_
    rintro _ w7 ⟨o0,o1,rfl,dx,q0,q1,q2,q3⟩
    let BV:=box bO #[.string ss,I o0,I bM,I o1] 66
    have dI:HI M w w7 ((BV::bc)++r):=dx
    refine bz<|ai J i0<|k ?_
    have cU:HI M w w7 ([BV]++([uh,J0]++r)):=HI.aN (l:=(BV::bc)) (l':=(BV::bc)) (t:=r) dI [0,1,2] au J J
    have nV:=il (bO:=bO) (ss:=ss) (at_:=o0) (bM:=bM) (er:=o1) (ch:=58) (w:=w) (w_:=w7) (r:=([uh,J0]++r)) (M:=M) bo aT eT aT au aj aj cU
    refine ca py J (ec J<|ec J e0) nV ?_
    rintro _ w8 ⟨o2,o3,rfl,d_,q4,q5,q6,q7⟩
    let ug:=box bO #[.string ss,I o2,I bM,I o3] 66
    have dD:HI M w w8 ((ug::bc)++r):=d_
    refine bz<|ai J i0<|k ?_
    have cY:HI M w w8 ([ug]++([uh,J0]++r)):=HI.aN (l:=(ug::bc)) (l':=(ug::bc)) (t:=r) dD [0,1,2] au J J
    have As:=qB (bO:=bO) (ss:=ss) (at_:=o2) (bM:=bM) (er:=o3) (w:=w) (w_:=w8) (r:=([uh,J0]++r)) (M:=M) bo aT eT aT aj aj cY
    refine ca Fu J (ec J e0) As ?_
    rintro _ w9 ⟨o4,o5,o6,rfl,dW,q8,q9,u0,xz,D'⟩
    let zd:=box bO #[.string ss,I o4,I bM,I o5] 66
    refine aR nS J J<|k<|bw dW 1 J oG J J J J J J J ?_
    let vG:=box ba #[.bool (cu ss at_ (cg er 3) 119),.string o6,I 0] 43
    intro dP (cQ:HI M w dP ([zd,vG,J0]++r))
    refine bz<|ai J i0<|k ?_
    have eh:HI M w dP ([zd]++([vG,J0]++r)):=HI.aN (l:=[zd,vG,J0]) (l':=[zd,vG,J0]) (t:=r) cQ [0,1,2] au J J
    have C_:=il (bO:=bO) (ss:=ss) (at_:=o4) (bM:=bM) (er:=o5) (ch:=61) (w:=w) (w_:=dP) (r:=([vG,J0]++r)) (M:=M) bo aT eT aT au aj aj eh
    refine ca py J (ec J<|ec J e0) C_ ?_
    rintro _ eB ⟨o7,o8,rfl,dO,uZ,NO,Cl,Ck⟩
    let yi:=box bO #[.string ss,I o7,I bM,I o8] 66
    have fg:HI M w eB ([yi,vG,J0]++r):=dO
    refine bz<|ai J i0<|k ?_
    have fz:HI M w eB ([yi]++([vG,J0]++r)):=HI.aN (l:=[yi,vG,J0]) (l':=[yi,vG,J0]) (t:=r) fg [0,1,2] au J J
    have Tw:=n9 (bO:=bO) (ss:=ss) (at_:=o7) (bM:=bM) (er:=o8) (w:=w) (w_:=eB) (r:=([vG,J0]++r)) (M:=M) bo aT eT aT aj aj fz
    refine ca Ft J (ec J e0) Tw ?_
    rintro _ fE ⟨o9,aW,gX,rfl,gS,yp,xy,q19,xw,D_⟩
    refine aR oS J J<|k<|bw gS 1 J aS J J J J J J J ?_
    let yh:=box ba #[.bool (cu ss at_ (cg er 3) 119),.string o6,I gX] 43
    intro iU (jz:HI M w iU ([box bO #[.string ss,I o9,I bM,I aW] 66,yh,J0]++r))
    refine bz<|ai J i0<|k<|nc J J<|aR nf J J<|bq jz 0 J aS J J J<|k<|add J J J J aT<|k<|nc J J<|aR nf J J<|k<|bw jz 0 J aS J J J J J J J ?_
    let EJ:=box bO #[.string ss,I o9,I (bM+1),I aW] 66
    intro jZ (n5:HI M w jZ ([EJ,yh,J0]++r))
    refine bz<|k<|cI n5 1 J fZ J J au J<|k<|bw n5 2 J fZ J J J J J J J ?_
    let tL:=box aZ #[.bool (cu ss at_ (cg er 3) 119),.string o6,I gX] 43
    intro rn (jd:HI M w rn ([EJ,yh,tL]++r))
    refine aq<|rt<|pf jd 2 J fZ J J J J au ?_
    have tN:=HI.aN (l:=[EJ,yh,tL]) (l':=[EJ]) (t:=r) jd [0] au J J
    have e0:(cu ss at_ (cg er 3) 119:Bool)=(cu ss at_ (cg er 3) 119):=rfl
    have e1:(bM+1:Int)=(bM+1):=rfl
    try rw[←e0]
    try rw[←e1]
    refine⟨o9,aW,(cu ss at_ (cg er 3) 119),o6,gX,?_,?_,(by simp only[nR,zX,tR,q0,q4,q8,uZ,yp,b0,b1,b2,(fX b3),BL]),(by have h_:=ct (b:=119) (e:=er) eQ;have jj:=ct (b:=119) (e:=cg er 3) eQ;omega),aj,bo,bo,(by have h_:=ct (b:=119) (e:=er) eQ;have jj:=ct (b:=119) (e:=cg er 3) eQ;omega)⟩
    · first|rfl|simp only[e0,e1]|(simp only[amA])
    · first|exact tN|simpa +zetaDelta only[e0,e1,amA] using tN
   refine sk<|cV<|ai J i0<|k ?_
   have cB:HI M w w6 ([vH]++([uh,J0]++r)):=HI.aN (l:=(vH::bc)) (l':=(vH::bc)) (t:=r) dz [0,1,2] au J J
   have mc:=il (bO:=bO) (ss:=ss) (at_:=(cM ss at_ (cg er 3) 119)) (bM:=bM) (er:=(cg er 3)) (ch:=58) (w:=w) (w_:=w6) (r:=([uh,J0]++r)) (M:=M) bo (by have h_:=ct (b:=119) (e:=er) eQ;have jj:=ct (b:=119) (e:=cg er 3) eQ;unfold aL;omega) eT (by have h_:=ll (x:=3) mX au;unfold aL;omega) au (by have h_:=ct (b:=119) (e:=er) eQ;have jj:=ct (b:=119) (e:=cg er 3) eQ;omega) (by exact ll (x:=3) mX au) cB
   refine ca py J (ec J<|ec J e0) mc ?_
   rintro _ w7 ⟨o0,o1,rfl,dx,q0,q1,q2,q3⟩
   let rW:=box bO #[.string ss,I o0,I bM,I o1] 66
   have dI:HI M w w7 ((rW::bc)++r):=dx
   refine bz<|ai J i0<|k ?_
   have cU:HI M w w7 ([rW]++([uh,J0]++r)):=HI.aN (l:=(rW::bc)) (l':=(rW::bc)) (t:=r) dI [0,1,2] au J J
   have nV:=qB (bO:=bO) (ss:=ss) (at_:=o0) (bM:=bM) (er:=o1) (w:=w) (w_:=w7) (r:=([uh,J0]++r)) (M:=M) bo aT eT aT aj aj cU
   refine ca Fu J (ec J e0) nV ?_
   rintro _ w8 ⟨o2,o3,o4,rfl,d_,q4,q5,q6,q7,q8⟩
   let vF:=box bO #[.string ss,I o2,I bM,I o3] 66
   refine aR nS J J<|k<|bw d_ 1 J oG J J J J J J J ?_
   let pR:=box ba #[.bool (cu ss at_ (cg er 3) 119),.string o4,I 0] 43
   intro w9 (cY:HI M w w9 ([vF,pR,J0]++r))
   refine bz<|ai J i0<|k ?_
   have dW:HI M w w9 ([vF]++([pR,J0]++r)):=HI.aN (l:=[vF,pR,J0]) (l':=[vF,pR,J0]) (t:=r) cY [0,1,2] au J J
   have As:=il (bO:=bO) (ss:=ss) (at_:=o2) (bM:=bM) (er:=o3) (ch:=61) (w:=w) (w_:=w9) (r:=([pR,J0]++r)) (M:=M) bo aT eT aT au aj aj dW
   refine ca py J (ec J<|ec J e0) As ?_
   rintro _ dP ⟨o5,o6,rfl,dQ,q9,u0,xz,D'⟩
   let Dl:=box bO #[.string ss,I o5,I bM,I o6] 66
   have cQ:HI M w dP ([Dl,pR,J0]++r):=dQ
   refine bz<|ai J i0<|k ?_
   have eh:HI M w dP ([Dl]++([pR,J0]++r)):=HI.aN (l:=[Dl,pR,J0]) (l':=[Dl,pR,J0]) (t:=r) cQ [0,1,2] au J J
   have C_:=n9 (bO:=bO) (ss:=ss) (at_:=o5) (bM:=bM) (er:=o6) (w:=w) (w_:=dP) (r:=([pR,J0]++r)) (M:=M) bo aT eT aT aj aj eh
   refine ca Ft J (ec J e0) C_ ?_
   rintro _ eB ⟨o7,o8,o9,rfl,dO,uZ,NO,Cl,Ck,yp⟩
   refine aR oS J J<|k<|bw dO 1 J aS J J J J J J J ?_
   let zc:=box ba #[.bool (cu ss at_ (cg er 3) 119),.string o4,I o9] 43
   intro fE (fz:HI M w fE ([box bO #[.string ss,I o7,I bM,I o8] 66,zc,J0]++r))
   refine bz<|ai J i0<|k<|nc J J<|aR nf J J<|bq fz 0 J aS J J J<|k<|add J J J J aT<|k<|nc J J<|aR nf J J<|k<|bw fz 0 J aS J J J J J J J ?_
   let yg:=box bO #[.string ss,I o7,I (bM+1),I o8] 66
   intro iU (gS:HI M w iU ([yg,zc,J0]++r))
   refine bz<|k<|cI gS 1 J fZ J J au J<|k<|bw gS 2 J fZ J J J J J J J ?_
   let Dk:=box aZ #[.bool (cu ss at_ (cg er 3) 119),.string o4,I o9] 43
   intro jZ (iY:HI M w jZ ([yg,zc,Dk]++r))
   refine aq<|rt<|pf iY 2 J fZ J J J J au ?_
   have jz:=HI.aN (l:=[yg,zc,Dk]) (l':=[yg]) (t:=r) iY [0] au J J
   have e0:(cu ss at_ (cg er 3) 119:Bool)=(cu ss at_ (cg er 3) 119):=rfl
   have e1:(bM+1:Int)=(bM+1):=rfl
   try rw[←e0]
   try rw[←e1]
   refine⟨o7,o8,(cu ss at_ (cg er 3) 119),o4,o9,?_,?_,(by simp only[nR,zX,tR,q0,q4,q9,uZ,b0,b1,b2,(fl b3),BL]),(by have h_:=ct (b:=119) (e:=er) eQ;have jj:=ct (b:=119) (e:=cg er 3) eQ;omega),aj,bo,bo,(by have h_:=ct (b:=119) (e:=er) eQ;have jj:=ct (b:=119) (e:=cg er 3) eQ;omega)⟩
   · first|rfl|simp only[e0,e1]|(simp only[amA])
   · first|exact jz|simpa +zetaDelta only[e0,e1,amA] using jz
  refine sk<|cV<|k<|al H2 fZ ?_
  intro ba w3 fA (H3:HI M w w3 ([box ba #[.bool false,.string ⟨#[]⟩,I 0] 43,J0,J1]++r))
  let Dj:=box ba #[.bool false,.string ⟨#[]⟩,I 0] 43
  refine aq<|sq<|az<|ai J i0<|k ?_
  have H4:HI M w w3 ([J1]++([Dj,J0]++r)):=HI.aN (l:=[Dj,J0,J1]) (l':=[J1,Dj,J0]) (t:=r) H3 [2,0,1] au J J
  have fP:=qA (bO:=bO) (ss:=ss) (at_:=at_) (bM:=bM) (er:=er) (ch:=119) (w:=w) (w_:=w3) (r:=([Dj,J0]++r)) (M:=M) bo lD eT na au aj H4
  refine ca Fx J (ec J<|ec J e0) fP ?_
  rintro _ w4 ⟨rfl,H5⟩
  let Di:=box bO #[.string ss,I (cM ss at_ er 119),I bM,I er] 66
  refine aR l_ J J<|k<|bw H5 1 J oo J J J J J J J ?_
  let sW:=box ba #[.bool (cu ss at_ er 119),.string ⟨#[]⟩,I 0] 43
  intro w5 (H7:HI M w w5 ([Di,sW,J0]++r))
  refine bz<|aR l_ J J<|bq H7 1 J oo J J J<|k<|kg J J<|aq<|oA J J (by rw[show (cu ss at_ er 119)=false from b1]<;>rfl)<|rg<|ai J i0<|k ?_
  have H8:HI M w w5 ([Di]++([sW,J0]++r)):=HI.aN (l:=[Di,sW,J0]) (l':=[Di,sW,J0]) (t:=r) H7 [0,1,2] au J J
  have ff:=il (bO:=bO) (ss:=ss) (at_:=(cM ss at_ er 119)) (bM:=bM) (er:=er) (ch:=114) (w:=w) (w_:=w5) (r:=([sW,J0]++r)) (M:=M) bo (by have h_:=ct (b:=119) (e:=er) eQ;have jj:=ct (b:=119) (e:=cg er 3) eQ;unfold aL;omega) eT na au (by have h_:=ct (b:=119) (e:=er) eQ;have jj:=ct (b:=119) (e:=cg er 3) eQ;omega) aj H8
  refine ca py J (ec J<|ec J e0) ff ?_
  rintro _ w6 ⟨o0,o1,rfl,H9,q0,q1,q2,q3⟩
  let Jl:=box bO #[.string ss,I o0,I bM,I o1] 66
  have dz:HI M w w6 ([Jl,sW,J0]++r):=H9
  refine bz<|ai J i0<|k ?_
  have cB:HI M w w6 ([Jl]++([sW,J0]++r)):=HI.aN (l:=[Jl,sW,J0]) (l':=[Jl,sW,J0]) (t:=r) dz [0,1,2] au J J
  have mc:=il (bO:=bO) (ss:=ss) (at_:=o0) (bM:=bM) (er:=o1) (ch:=58) (w:=w) (w_:=w6) (r:=([sW,J0]++r)) (M:=M) bo aT eT aT au aj aj cB
  refine ca py J (ec J<|ec J e0) mc ?_
  rintro _ w7 ⟨o2,o3,rfl,dx,q4,q5,q6,q7⟩
  let EI:=box bO #[.string ss,I o2,I bM,I o3] 66
  have dI:HI M w w7 ([EI,sW,J0]++r):=dx
  refine bz<|ai J i0<|k ?_
  have cU:HI M w w7 ([EI]++([sW,J0]++r)):=HI.aN (l:=[EI,sW,J0]) (l':=[EI,sW,J0]) (t:=r) dI [0,1,2] au J J
  have nV:=qB (bO:=bO) (ss:=ss) (at_:=o2) (bM:=bM) (er:=o3) (w:=w) (w_:=w7) (r:=([sW,J0]++r)) (M:=M) bo aT eT aT aj aj cU
  refine ca Fu J (ec J e0) nV ?_
  rintro _ w8 ⟨o4,o5,o6,rfl,d_,q8,q9,u0,xz,D'⟩
  let EH:=box bO #[.string ss,I o4,I bM,I o5] 66
  refine aR nS J J<|k<|bw d_ 1 J oG J J J J J J J ?_
  let AA:=box ba #[.bool (cu ss at_ er 119),.string o6,I 0] 43
  intro w9 (cY:HI M w w9 ([EH,AA,J0]++r))
  refine bz<|ai J i0<|k ?_
  have dW:HI M w w9 ([EH]++([AA,J0]++r)):=HI.aN (l:=[EH,AA,J0]) (l':=[EH,AA,J0]) (t:=r) cY [0,1,2] au J J
  have As:=il (bO:=bO) (ss:=ss) (at_:=o4) (bM:=bM) (er:=o5) (ch:=61) (w:=w) (w_:=w9) (r:=([AA,J0]++r)) (M:=M) bo aT eT aT au aj aj dW
  refine ca py J (ec J<|ec J e0) As ?_
  rintro _ dP ⟨o7,o8,rfl,dQ,uZ,NO,Cl,Ck⟩
  let Hd:=box bO #[.string ss,I o7,I bM,I o8] 66
  have cQ:HI M w dP ([Hd,AA,J0]++r):=dQ
  refine bz<|ai J i0<|k ?_
  have eh:HI M w dP ([Hd]++([AA,J0]++r)):=HI.aN (l:=[Hd,AA,J0]) (l':=[Hd,AA,J0]) (t:=r) cQ [0,1,2] au J J
  have C_:=n9 (bO:=bO) (ss:=ss) (at_:=o7) (bM:=bM) (er:=o8) (w:=w) (w_:=dP) (r:=([AA,J0]++r)) (M:=M) bo aT eT aT aj aj eh
  refine ca Ft J (ec J e0) C_ ?_
  rintro _ eB ⟨o9,aW,gX,rfl,dO,yp,xy,q19,xw,D_⟩
  refine aR oS J J<|k<|bw dO 1 J aS J J J J J J J ?_
  let EG:=box ba #[.bool (cu ss at_ er 119),.string o6,I gX] 43
  intro fE (fz:HI M w fE ([box bO #[.string ss,I o9,I bM,I aW] 66,EG,J0]++r))
  refine bz<|ai J i0<|k<|nc J J<|aR nf J J<|bq fz 0 J aS J J J<|k<|add J J J J aT<|k<|nc J J<|aR nf J J<|k<|bw fz 0 J aS J J J J J J J ?_
  let Az:=box bO #[.string ss,I o9,I (bM+1),I aW] 66
  intro iU (gS:HI M w iU ([Az,EG,J0]++r))
  refine bz<|k<|cI gS 1 J fZ J J au J<|k<|bw gS 2 J fZ J J J J J J J ?_
  let zb:=box aZ #[.bool (cu ss at_ er 119),.string o6,I gX] 43
  intro jZ (iY:HI M w jZ ([Az,EG,zb]++r))
  refine aq<|rt<|pf iY 2 J fZ J J J J au ?_
  have jz:=HI.aN (l:=[Az,EG,zb]) (l':=[Az]) (t:=r) iY [0] au J J
  have e0:(cu ss at_ er 119:Bool)=(cu ss at_ er 119):=rfl
  have e1:(bM+1:Int)=(bM+1):=rfl
  try rw[←e0]
  try rw[←e1]
  refine⟨o9,aW,(cu ss at_ er 119),o6,gX,?_,?_,(by simp only[nR,zX,tR,q0,q4,q8,uZ,yp,b0,b1,b2,BL]),(by have h_:=ct (b:=119) (e:=er) eQ;have jj:=ct (b:=119) (e:=cg er 3) eQ;omega),aj,bo,bo,(by have h_:=ct (b:=119) (e:=er) eQ;have jj:=ct (b:=119) (e:=cg er 3) eQ;omega)⟩
  · first|rfl|simp only[e0,e1]|(simp only[amA])
  · first|exact jz|simpa +zetaDelta only[e0,e1,amA] using jz
 refine aX J J J b0<|aX J J J b0<|aX J J J b0<|k<|gu J J J<|k<|gu J J J<|aX J J J b0<|k<|cZ J J J J b0 J<|aq<|nU J J J<|sk<|cV<|k<|al H0 fZ ?_
 intro ba w1 dy (H1:HI M w w1 ([box ba #[.bool false,.string ⟨#[]⟩,I 0] 43,J0,J1]++r))
 let Jk:=box ba #[.bool false,.string ⟨#[]⟩,I 0] 43
 refine aq<|sq<|az<|ai J i0<|k ?_
 have H2:HI M w w1 ([J1]++([Jk,J0]++r)):=HI.aN (l:=[Jk,J0,J1]) (l':=[J1,Jk,J0]) (t:=r) H1 [2,0,1] au J J
 have bT:=qA (bO:=bO) (ss:=ss) (at_:=at_) (bM:=bM) (er:=er) (ch:=119) (w:=w) (w_:=w1) (r:=([Jk,J0]++r)) (M:=M) bo lD eT na au aj H2
 refine ca Fx J (ec J<|ec J e0) bT ?_
 rintro _ w2 ⟨rfl,H3⟩
 let Dh:=box bO #[.string ss,I (cM ss at_ er 119),I bM,I er] 66
 refine aR l_ J J<|k<|bw H3 1 J oo J J J J J J J ?_
 let vE:=box ba #[.bool (cu ss at_ er 119),.string ⟨#[]⟩,I 0] 43
 let ck:=[vE,J0]
 intro w3 (H5:HI M w w3 ((Dh::ck)++r))
 refine bz<|aR l_ J J<|bq H5 1 J oo J J J<|k<|kg J J<|z<|nx<|cd (b:=!(cu ss at_ er 119)) J J (fun b1=>?_)<|fun b1=>?_
 ·
  refine rg<|ai J i0<|k ?_
  have H6:HI M w w3 ([Dh]++([vE,J0]++r)):=HI.aN (l:=(Dh::ck)) (l':=(Dh::ck)) (t:=r) H5 [0,1,2] au J J
  have dq:=il (bO:=bO) (ss:=ss) (at_:=(cM ss at_ er 119)) (bM:=bM) (er:=er) (ch:=114) (w:=w) (w_:=w3) (r:=([vE,J0]++r)) (M:=M) bo (by have h_:=ct (b:=119) (e:=er) eQ;have jj:=ct (b:=119) (e:=cg er 3) eQ;unfold aL;omega) eT na au (by have h_:=ct (b:=119) (e:=er) eQ;have jj:=ct (b:=119) (e:=cg er 3) eQ;omega) aj H6
  refine ca py J (ec J<|ec J e0) dq ?_
  rintro _ w4 ⟨o0,o1,rfl,H7,q0,q1,q2,q3⟩
  let MQ:=box bO #[.string ss,I o0,I bM,I o1] 66
  have H8:HI M w w4 ((MQ::ck)++r):=H7
  refine bz<|ai J i0<|k ?_
  have H9:HI M w w4 ([MQ]++([vE,J0]++r)):=HI.aN (l:=(MQ::ck)) (l':=(MQ::ck)) (t:=r) H8 [0,1,2] au J J
  have fP:=il (bO:=bO) (ss:=ss) (at_:=o0) (bM:=bM) (er:=o1) (ch:=58) (w:=w) (w_:=w4) (r:=([vE,J0]++r)) (M:=M) bo aT eT aT au aj aj H9
  refine ca py J (ec J<|ec J e0) fP ?_
  rintro _ w5 ⟨o2,o3,rfl,dz,q4,q5,q6,q7⟩
  let MP:=box bO #[.string ss,I o2,I bM,I o3] 66
  have cB:HI M w w5 ((MP::ck)++r):=dz
  refine bz<|ai J i0<|k ?_
  have dx:HI M w w5 ([MP]++([vE,J0]++r)):=HI.aN (l:=(MP::ck)) (l':=(MP::ck)) (t:=r) cB [0,1,2] au J J
  have ff:=qB (bO:=bO) (ss:=ss) (at_:=o2) (bM:=bM) (er:=o3) (w:=w) (w_:=w5) (r:=([vE,J0]++r)) (M:=M) bo aT eT aT aj aj dx
  refine ca Fu J (ec J e0) ff ?_
  rintro _ w6 ⟨o4,o5,o6,rfl,dI,q8,q9,u0,xz,D'⟩
  let MO:=box bO #[.string ss,I o4,I bM,I o5] 66
  refine aR nS J J<|k<|bw dI 1 J oG J J J J J J J ?_
  let yd:=box ba #[.bool (cu ss at_ er 119),.string o6,I 0] 43
  intro w7 (d_:HI M w w7 ([MO,yd,J0]++r))
  refine bz<|ai J i0<|k ?_
  have dD:HI M w w7 ([MO]++([yd,J0]++r)):=HI.aN (l:=[MO,yd,J0]) (l':=[MO,yd,J0]) (t:=r) d_ [0,1,2] au J J
  have mc:=il (bO:=bO) (ss:=ss) (at_:=o4) (bM:=bM) (er:=o5) (ch:=61) (w:=w) (w_:=w7) (r:=([yd,J0]++r)) (M:=M) bo aT eT aT au aj aj dD
  refine ca py J (ec J<|ec J e0) mc ?_
  rintro _ w8 ⟨o7,o8,rfl,cY,uZ,NO,Cl,Ck⟩
  let Jj:=box bO #[.string ss,I o7,I bM,I o8] 66
  have dW:HI M w w8 ([Jj,yd,J0]++r):=cY
  refine bz<|ai J i0<|k ?_
  have dQ:HI M w w8 ([Jj]++([yd,J0]++r)):=HI.aN (l:=[Jj,yd,J0]) (l':=[Jj,yd,J0]) (t:=r) dW [0,1,2] au J J
  have nV:=n9 (bO:=bO) (ss:=ss) (at_:=o7) (bM:=bM) (er:=o8) (w:=w) (w_:=w8) (r:=([yd,J0]++r)) (M:=M) bo aT eT aT aj aj dQ
  refine ca Ft J (ec J e0) nV ?_
  rintro _ w9 ⟨o9,aW,gX,rfl,cQ,yp,xy,q19,xw,D_⟩
  refine aR oS J J<|k<|bw cQ 1 J aS J J J J J J J ?_
  let EF:=box ba #[.bool (cu ss at_ er 119),.string o6,I gX] 43
  intro dP (dO:HI M w dP ([box bO #[.string ss,I o9,I bM,I aW] 66,EF,J0]++r))
  refine bz<|ai J i0<|k<|nc J J<|aR nf J J<|bq dO 0 J aS J J J<|k<|add J J J J aT<|k<|nc J J<|aR nf J J<|k<|bw dO 0 J aS J J J J J J J ?_
  let EE:=box bO #[.string ss,I o9,I (bM+1),I aW] 66
  intro eB (fg:HI M w eB ([EE,EF,J0]++r))
  refine bz<|k<|cI fg 1 J fZ J J au J<|k<|bw fg 2 J fZ J J J J J J J ?_
  let T1:=box aZ #[.bool (cu ss at_ er 119),.string o6,I gX] 43
  intro fE (fz:HI M w fE ([EE,EF,T1]++r))
  refine aq<|rt<|pf fz 2 J fZ J J J J au ?_
  have gS:=HI.aN (l:=[EE,EF,T1]) (l':=[EE]) (t:=r) fz [0] au J J
  have e0:(cu ss at_ er 119:Bool)=(cu ss at_ er 119):=rfl
  have e1:(bM+1:Int)=(bM+1):=rfl
  try rw[←e0]
  try rw[←e1]
  refine⟨o9,aW,(cu ss at_ er 119),o6,gX,?_,?_,(by simp only[nR,zX,tR,q0,q4,q8,uZ,yp,b0,(fX b1),BL]),(by have h_:=ct (b:=119) (e:=er) eQ;have jj:=ct (b:=119) (e:=cg er 3) eQ;omega),aj,bo,bo,(by have h_:=ct (b:=119) (e:=er) eQ;have jj:=ct (b:=119) (e:=cg er 3) eQ;omega)⟩
  · first|rfl|simp only[e0,e1]|(simp only[amA])
  · first|exact gS|simpa +zetaDelta only[e0,e1,amA] using gS
 refine sk<|cV<|ai J i0<|k ?_
 have H6:HI M w w3 ([Dh]++([vE,J0]++r)):=HI.aN (l:=(Dh::ck)) (l':=(Dh::ck)) (t:=r) H5 [0,1,2] au J J
 have dq:=il (bO:=bO) (ss:=ss) (at_:=(cM ss at_ er 119)) (bM:=bM) (er:=er) (ch:=58) (w:=w) (w_:=w3) (r:=([vE,J0]++r)) (M:=M) bo (by have h_:=ct (b:=119) (e:=er) eQ;have jj:=ct (b:=119) (e:=cg er 3) eQ;unfold aL;omega) eT na au (by have h_:=ct (b:=119) (e:=er) eQ;have jj:=ct (b:=119) (e:=cg er 3) eQ;omega) aj H6
 refine ca py J (ec J<|ec J e0) dq ?_
 rintro _ w4 ⟨o0,o1,rfl,H7,q0,q1,q2,q3⟩
 let Hc:=box bO #[.string ss,I o0,I bM,I o1] 66
 have H8:HI M w w4 ((Hc::ck)++r):=H7
 refine bz<|ai J i0<|k ?_
 have H9:HI M w w4 ([Hc]++([vE,J0]++r)):=HI.aN (l:=(Hc::ck)) (l':=(Hc::ck)) (t:=r) H8 [0,1,2] au J J
 have fP:=qB (bO:=bO) (ss:=ss) (at_:=o0) (bM:=bM) (er:=o1) (w:=w) (w_:=w4) (r:=([vE,J0]++r)) (M:=M) bo aT eT aT aj aj H9
 refine ca Fu J (ec J e0) fP ?_
 rintro _ w5 ⟨o2,o3,o4,rfl,dz,q4,q5,q6,q7,q8⟩
 let ED:=box bO #[.string ss,I o2,I bM,I o3] 66
 refine aR nS J J<|k<|bw dz 1 J oG J J J J J J J ?_
 let Ay:=box ba #[.bool (cu ss at_ er 119),.string o4,I 0] 43
 intro w6 (dx:HI M w w6 ([ED,Ay,J0]++r))
 refine bz<|ai J i0<|k ?_
 have dI:HI M w w6 ([ED]++([Ay,J0]++r)):=HI.aN (l:=[ED,Ay,J0]) (l':=[ED,Ay,J0]) (t:=r) dx [0,1,2] au J J
 have ff:=il (bO:=bO) (ss:=ss) (at_:=o2) (bM:=bM) (er:=o3) (ch:=61) (w:=w) (w_:=w6) (r:=([Ay,J0]++r)) (M:=M) bo aT eT aT au aj aj dI
 refine ca py J (ec J<|ec J e0) ff ?_
 rintro _ w7 ⟨o5,o6,rfl,cU,q9,u0,xz,D'⟩
 let Ym:=box bO #[.string ss,I o5,I bM,I o6] 66
 have d_:HI M w w7 ([Ym,Ay,J0]++r):=cU
 refine bz<|ai J i0<|k ?_
 have dD:HI M w w7 ([Ym]++([Ay,J0]++r)):=HI.aN (l:=[Ym,Ay,J0]) (l':=[Ym,Ay,J0]) (t:=r) d_ [0,1,2] au J J
 have mc:=n9 (bO:=bO) (ss:=ss) (at_:=o5) (bM:=bM) (er:=o6) (w:=w) (w_:=w7) (r:=([Ay,J0]++r)) (M:=M) bo aT eT aT aj aj dD
 refine ca Ft J (ec J e0) mc ?_
 rintro _ w8 ⟨o7,o8,o9,rfl,cY,uZ,NO,Cl,Ck,yp⟩
 refine aR oS J J<|k<|bw cY 1 J aS J J J J J J J ?_
 let Yl:=box ba #[.bool (cu ss at_ er 119),.string o4,I o9] 43
 intro w9 (dQ:HI M w w9 ([box bO #[.string ss,I o7,I bM,I o8] 66,Yl,J0]++r))
 refine bz<|ai J i0<|k<|nc J J<|aR nf J J<|bq dQ 0 J aS J J J<|k<|add J J J J aT<|k<|nc J J<|aR nf J J<|k<|bw dQ 0 J aS J J J J J J J ?_
 let Yk:=box bO #[.string ss,I o7,I (bM+1),I o8] 66
 intro dP (cQ:HI M w dP ([Yk,Yl,J0]++r))
 refine bz<|k<|cI cQ 1 J fZ J J au J<|k<|bw cQ 2 J fZ J J J J J J J ?_
 let J68:=box aZ #[.bool (cu ss at_ er 119),.string o4,I o9] 43
 intro eB (eh:HI M w eB ([Yk,Yl,J68]++r))
 refine aq<|rt<|pf eh 2 J fZ J J J J au ?_
 have dO:=HI.aN (l:=[Yk,Yl,J68]) (l':=[Yk]) (t:=r) eh [0] au J J
 have e0:(cu ss at_ er 119:Bool)=(cu ss at_ er 119):=rfl
 have e1:(bM+1:Int)=(bM+1):=rfl
 try rw[←e0]
 try rw[←e1]
 refine⟨o7,o8,(cu ss at_ er 119),o4,o9,?_,?_,(by simp only[nR,zX,tR,q0,q4,q9,uZ,b0,(fl b1),BL]),(by have h_:=ct (b:=119) (e:=er) eQ;have jj:=ct (b:=119) (e:=cg er 3) eQ;omega),aj,bo,bo,(by have h_:=ct (b:=119) (e:=er) eQ;have jj:=ct (b:=119) (e:=cg er 3) eQ;omega)⟩
 · first|rfl|simp only[e0,e1]|(simp only[amA])
 · first|exact dO|simpa +zetaDelta only[e0,e1,amA] using dO
theorem acR:cH aJ 46:=cN Tryz.func46
theorem Rs (uI:ss.size≤maxLen) (lD:aL at_) (eT:aL bM) (na:aL er) (eQ:0≤at_∧at_≤(ss.size:Int)) (ald:er=0) (ahE:0≤bM∧bM≤at_) (P4:ss.size≤1000000) (H:HI M w w_ ([box bO #[.string ss,I at_,I bM,I er] 66]++r)):Calls aJ 22 #[pV bO 0] w_ (cA fun v w'=>∃(kD:Int) (kV:Int) (N0:Int) (ls:List jS) (a0:OA) (c0:Nat),v=sL a0 ls c0∧HI M w w' ([oL w 43 a0 ls c0,box bO #[.string ss,I kD,I N0,I kV] 66]++r)∧jN ss at_ bM er=(kD,N0,kV,ls)∧(0≤kD∧at_≤kD∧kD≤(ss.size:Int))∧(0≤kV∧kV≤3)∧(0≤N0∧N0≤kD+1)∧(kV=0→at_<kD∧N0≤kD)):=by
 refine enter 19 Tryz.func22 J J J fun f0 ha=>?_
 have i0:f0 0=pV bO 0:=ha 0 bm
 have Ba:maxLen=9223372036854775807:=rfl
 have aht:=ct (b:=10) (e:=er) eQ
 refine az<|ak (v:=.slice none 0 0) J J<|aq<|sq<|az<|ai J i0<|k ?_
 let J0:=box bO #[.string ss,I at_,I bM,I er] 66
 have H0:HI M w w_ ([J0]++([]++r)):=HI.aN (l:=[J0]) (l':=[J0]) (t:=r) H [0] au J J
 have bT:=qA (bO:=bO) (ss:=ss) (at_:=at_) (bM:=bM) (er:=er) (ch:=10) (w:=w) (w_:=w_) (r:=([]++r)) (M:=M) bo lD eT na au aj H0
 refine ca Fx J (ec J<|ec J e0) bT ?_
 rintro _ w0 ⟨rfl,H1⟩
 let J1:=box bO #[.string ss,I (cM ss at_ er 10),I bM,I er] 66
 have H2:HI M w w0 ([J1]++r):=H1
 refine z<|nx<|cd (b:=cu ss at_ er 10) J J (fun b0=>?_)<|fun b0=>?_
 ·
  refine sq ?_
  have alw:cM ss at_ er 10=at_+1:=by unfold cM;rw[‹cu ss at_ er 10=true›];rfl
  refine rg<|ak (v:=.slice none 0 0) J J<|aq<|rt<|aK<|r1 J J ?_
  have H3:=H2.rB (Bool×bA×Int) 43
  have e0:(cM ss at_ er 10:Int)=(cM ss at_ er 10):=rfl
  try rw[←e0]
  refine⟨(cM ss at_ er 10),er,bM,([]:List (Bool×bA×Int)),none,0,?_,?_,(by simp only[jN,b0,BL]),aj,aj,aj,aj⟩
  · first|rfl|simp only[e0]|(simp only[amA])
  · first|exact H3|simpa +zetaDelta only[e0,amA] using H3
 refine sk<|cV<|ai J i0<|k ?_
 have H3:HI M w w0 ([J1]++([]++r)):=HI.aN (l:=[J1]) (l':=[J1]) (t:=r) H2 [0] au J J
 have dq:=NN (bO:=bO) (ss:=ss) (at_:=(cM ss at_ er 10)) (bM:=bM) (er:=er) (w:=w) (w_:=w0) (r:=([]++r)) (M:=M) bo aT eT na aj aj aj H3
 refine ca acR J (ec J e0) dq ?_
 rintro _ w1 ⟨o0,o1,o2,o3,o4,rfl,H4,q0,q1,q2,q3,q4,q5⟩
 let J2:=box bO #[.string ss,I o0,I (bM+1),I o1] 66
 have H5:HI M w w1 ([J2]++r):=H4
 refine k<|bs (xs:=([(o2,o3,o4)]:List (Bool×bA×Int))) (cells:=#[.bool o2,.string o3,I o4]) (e:=43) H5 J (cz J eI) (fun _=>aU) ⟨[.bool o2,.string o3,I o4],[],J,⟨_,_,J,J,⟨_,_,J,⟨J,(by dsimp only;omega)⟩,⟨J,(show aL (o4) from bo)⟩⟩⟩,J⟩ J au ?_
 intro g0 w2 bY (H6:HI M w w2 ([own w.heap.size 43 (.slice (some ⟨g0,0,none⟩) 1 1) ([(o2,o3,o4)]:List (Bool×bA×Int)),J2]++r))
 refine ak (v:=.slice (some ⟨g0,0,none⟩) 1 1) J J<|aq<|sq<|bk<|lp (fun m f w'=>∃(CB:Nat) (p_:Int) (n_:Int) (e_:Int) (ir:List jS) (a0:OA) (c0:Nat),m=CB+1∧f 0=pV bO 0∧f 3=sL a0 ir c0∧HI M w w' ([oL w 43 a0 ir c0,box bO #[.string ss,I p_,I n_,I e_] 66]++r)∧(kI ss (ss.size+1) o0 (bM+1) o1 ([(o2,o3,o4)]:List (Bool×bA×Int))=kI ss CB p_ n_ e_ ir)∧(0≤p_∧o0≤p_∧p_≤(ss.size:Int)∧(ss.size:Int)-p_<(CB:Int))∧(0≤e_∧e_≤3)∧(0≤n_∧n_≤p_+1∧(e_=0→n_≤p_∧at_<p_))∧((ir.length:Int)=n_-bM)) _ ⟨(ss.size+1),o0,(bM+1),o1,([(o2,o3,o4)]:List (Bool×bA×Int)),(some ⟨g0,0,none⟩),1,J,i0,J,H6,(by rfl),(by push_cast;omega),bo,aj,(by simp only[iB,gj];omega)⟩ ?_
 rintro _ f0 w3 ⟨CB,p_,n_,e_,ir,a0,c0,rfl,s0,s1,H7,hs,IQ,he_,CM,ahK⟩
 refine sq<|sq ?_
 have aly:=ct (b:=32) (e:=e_) (s:=ss) (a:=p_) ⟨by omega,by omega⟩
 refine rg<|ai J s0<|k ?_
 let J3:=box bO #[.string ss,I p_,I n_,I e_] 66
 let J4:=oL w 43 a0 ir c0
 have H8:HI M w w3 ([J3]++([J4]++r)):=HI.aN (l:=[J4,J3]) (l':=[J3,J4]) (t:=r) H7 [1,0] au J J
 have fP:=qA (bO:=bO) (ss:=ss) (at_:=p_) (bM:=n_) (er:=e_) (ch:=32) (w:=w) (w_:=w3) (r:=([J4]++r)) (M:=M) bo aT aT aT au aj H8
 refine ca Fx J (ec J<|ec J e0) fP ?_
 rintro _ w4 ⟨rfl,H9⟩
 let J5:=box bO #[.string ss,I (cM ss p_ e_ 32),I n_,I e_] 66
 have dz:HI M w w4 ([J5,J4]++r):=H9
 refine z<|nx<|cd (b:=cu ss p_ e_ 32) J J (fun b1=>?_)<|fun b1=>?_
 ·
  refine sk<|nx<|bk ?_
  obtain⟨alB,alA, -⟩:=sB ‹cu ss p_ e_ 32=true›
  have alx:cM ss p_ e_ 32=p_+1:=by unfold cM;rw[‹cu ss p_ e_ 32=true›];rfl
  refine rg<|ai J s1<|ai J s0<|k ?_
  have cB:HI M w w4 ([J5]++([J4]++r)):=HI.aN (l:=[J5,J4]) (l':=[J5,J4]) (t:=r) dz [0,1] au J J
  have ff:=NN (bO:=bO) (ss:=ss) (at_:=(cM ss p_ e_ 32)) (bM:=n_) (er:=e_) (w:=w) (w_:=w4) (r:=([J4]++r)) (M:=M) bo aT aT aT aj aj aj cB
  refine ca acR J (ec J e0) ff ?_
  rintro _ w5 ⟨o5,o6,o7,o8,o9,rfl,dx,q6,q7,q8,q9,u0,xz⟩
  let J6:=box bO #[.string ss,I o5,I (n_+1),I o6] 66
  have dI:HI M w w5 ([J6,J4]++r):=dx
  refine k<|bs (xs:=([(o7,o8,o9)]:List (Bool×bA×Int))) (cells:=#[.bool o7,.string o8,I o9]) (e:=43) dI J (cz J eI) (fun _=>aU) ⟨[.bool o7,.string o8,I o9],[],J,⟨_,_,J,J,⟨_,_,J,⟨J,(by dsimp only;omega)⟩,⟨J,(show aL (o9) from bo)⟩⟩⟩,J⟩ J au ?_
  intro g1 w6 dy (cU:HI M w w6 ([own w.heap.size 43 (.slice (some ⟨g1,0,none⟩) 1 1) ([(o7,o8,o9)]:List (Bool×bA×Int)),J6,J4]++r))
  let J7:=own w.heap.size 43 (.slice (some ⟨g1,0,none⟩) 1 1) ([(o7,o8,o9)]:List (Bool×bA×Int))
  refine k<|me cU 2 J J J J J J (ib<|cU.at_ 0 J) lI fZ J (by simp only[iB,gj];omega) J ?_
  intro a1 c1 w7 (d_:HI M w w7 ([J7,J6,oL w 43 a1 (ir++([(o7,o8,o9)]:List (Bool×bA×Int))) c1]++r))
  let J8:=oL w 43 a1 (ir++([(o7,o8,o9)]:List (Bool×bA×Int))) c1
  refine ak (v:=sL a1 (ir++([(o7,o8,o9)]:List (Bool×bA×Int))) c1) J J<|z<|aF ?_
  have dD:HI M w w7 ([J8,J6]++r):=HI.aN (l:=[J7,J6,J8]) (l':=[J8,J6]) (t:=r) d_ [2,1] au J J
  refine bG _ ?_ ⟨(CB-1),o5,(n_+1),o6,(ir++([(o7,o8,o9)]:List (Bool×bA×Int))),a1,c1,J,s0,J,dD,(by exact UM hs aj ‹cu ss p_ e_ 32=true› q6),aj,bo,aj,(by simp only[fN,iB,gj];omega)⟩
  omega
 refine ex<|aV<|bf<|bh<|nx<|sq ?_
 have LC:=UL hs ‹cu ss p_ e_ 32=false›
 refine rg<|ai J s0<|k ?_
 have cB:HI M w w4 ([J5]++([J4]++r)):=HI.aN (l:=[J5,J4]) (l':=[J5,J4]) (t:=r) dz [0,1] au J J
 have ff:=il (bO:=bO) (ss:=ss) (at_:=(cM ss p_ e_ 32)) (bM:=n_) (er:=e_) (ch:=10) (w:=w) (w_:=w4) (r:=([J4]++r)) (M:=M) bo aT aT aT au aj aj cB
 refine ca py J (ec J<|ec J e0) ff ?_
 rintro _ w5 ⟨o5,o6,rfl,dx,q6,q7,q8,q9⟩
 let J9:=box bO #[.string ss,I o5,I n_,I o6] 66
 have dI:HI M w w5 ([J9,J4]++r):=dx
 refine bz<|ai J s1<|ak (v:=sL a0 ir c0) J J<|aq<|rt<|r1 J J ?_
 have cU:=HI.aN (l:=[J9,J4]) (l':=[J4,J9]) (t:=r) dI [1,0] au J J
 refine⟨o5,o6,n_,ir,a0,c0,?_,?_,(by simp only[jN,LC,q0,q6,b0,b1,BL]),aj,bo,aj,aj⟩
 · first|rfl|simp only[amA]
 · first|exact cU|simpa +zetaDelta only[amA] using cU
theorem aiM:cH aJ 22:=cN Tryz.func22
theorem Iu (hM:eU M w) (uI:ss.size≤maxLen) (P4:ss.size≤1000000):Calls aJ 11 #[.string ss] w (cA fun v w'=>∃(hs_:dR) (kD:Int) (kV:Int) (a0:OA) (c0:Nat),v=.tuple #[sL a0 hs_ c0,I kD,I kV]∧Ext w w'∧cL M w' a0 c0 hs_∧bg ss=(hs_,kD,kV)∧(0≤kD∧kD≤(ss.size:Int))∧(0≤kV∧kV≤3)):=by
 refine dH 43 Tryz.func11 J J J hM fun f0 ha H=>?_
 have i0:f0 0=.string ss:=ha 0 bm
 have Ba:maxLen=9223372036854775807:=rfl
 refine az<|ak (v:=.slice none 0 0) J J<|ak (v:=I 0) J J<|ak (v:=I 0) J J<|bz<|ai J i0<|k<|bd (v:=.agg #[.string ss,I 0,I 0,I 0]) J (cz J eI) (fun _=>aU)<|k<|bx H J J ?_
 intro aZ w0 bY (H0:HI M w w0 [box aZ #[.string ss,I 0,I 0,I 0] 66])
 refine ak (v:=pV aZ 0) J J<|bz<|ak (v:=.slice none 0 0) J J<|aq<|sq<|bk ?_
 have H1:=H0.rB (List<|Bool×bA×Int) 40
 refine lp (fun m f w'=>∃(CB:Nat) (p_:Int) (n_:Int) (e_:Int) (h_:List (List<|Bool×bA×Int)) (a0:OA) (c0:Nat),m=CB+1∧f 0=.string ss∧f 5=pV aZ 0∧f 6=sL a0 h_ c0∧HI M w w' [oL w 40 a0 h_ c0,box aZ #[.string ss,I p_,I n_,I e_] 66]∧(gR ss (ss.size+1) 0 0 0 []=gR ss CB p_ n_ e_ h_)∧(0≤p_∧p_≤(ss.size:Int))∧(0≤e_∧e_≤3)∧(0≤n_∧(e_=0→n_≤p_∧(ss.size:Int)-p_<(CB:Int)∧(h_.length:Int)≤p_))∧((h_.length:Int)≤p_+1)) _ ⟨(ss.size+1),0,0,0,([]:List (List<|Bool×bA×Int)),none,0,J,i0,J,J,H1,(by rfl),aj,aj,(by simp only[gj];omega),(by simp only[gj];omega)⟩ ?_
 rintro _ f0 w1 ⟨CB,p_,n_,e_,h_,a0,c0,rfl,s0,s1,s2,H2,hs,IQ,he_,CM,ahK⟩
 refine sq<|az<|ai J s1<|k<|nc J J<|aR tE J J<|bq H2 1 J qw J J J<|k<|eql J J J J<|ai (v:=.bool (decide (e_=0))) J J ?_
 rcases bE (decide (e_=0)) with b0|b0
 ·
  have p0:=dT b0
  refine aQ J J J b0<|mv J s1<|aQ J J J b0<|nc J J<|aQ J J J b0<|fa kl J J<|aQ J J J b0<|lx H2 1 J aS J J J<|aQ J J J b0<|mv J s0<|aQ J J J b0<|tq J J lq<|aQ J J J b0<|lss J J J J<|k<|aN J J J J b0 J<|z<|nx<|cd (b:=decide (p_<(ss.size:Int))) J J (fun b1=>?_)<|fun b1=>?_
  ·
   have p1:=dT b1
   refine sk<|nx<|bk<|rg<|ai J s2<|ai J s1<|k ?_
   have H3:HI M w w1 ([box aZ #[.string ss,I p_,I n_,I e_] 66]++[oL w 40 a0 h_ c0]):=H2.bZ [1,0] au J
   have bT:=Rs (bO:=aZ) (ss:=ss) (at_:=p_) (bM:=n_) (er:=e_) (w:=w) (w_:=w1) (r:=[oL w 40 a0 h_ c0]) (M:=M) bo aT aT aT aj bo aj (by exact P4) H3
   refine ca aiM J (ec J e0) bT ?_
   rintro _ w2 ⟨o0,o1,o2,o3,a1,c1,rfl,H4,q0,q1,q2,q3,q4⟩
   let J0:=box aZ #[.string ss,I o0,I o2,I o1] 66
   have H5:HI M w w2 [oL w 43 a1 o3 c1,J0,oL w 40 a0 h_ c0]:=H4
   refine k ?_
   have H6:=H5.freeze 0 J
   refine bs (xs:=([o3]:List (List<|Bool×bA×Int))) (cells:=#[sL a1 o3 c1]) (e:=40) H6 J (cz J eI) (fun _=>aU) ⟨[sL a1 o3 c1],[],J,⟨_,J,RV.list.1 (H6.rv 0 J)⟩,J⟩ J au ?_
   intro g0 w3 dy H7
   refine k<|me H7 3 J J J J J J (ib<|H7.at_ 0 J) vJ uj J (by simp only[iB,gj];omega) J ?_
   intro a2 c2 w4 (H8:HI M w w4 [own w.heap.size 40 (.slice (some ⟨g0,0,none⟩) 1 1) ([o3]:List (List (Bool×bA×Int))),iL a1 o3 c1,J0,oL w 40 a2 (h_++([o3]:List (List (Bool×bA×Int)))) c2])
   refine ak (v:=sL a2 (h_++([o3]:List (List<|Bool×bA×Int))) c2) J J<|z<|aF ?_
   have H9:HI M w w4 [oL w 40 a2 (h_++([o3]:List (List (Bool×bA×Int)))) c2,J0]:=H8.bZ [3,2] au J
   refine bG _ ?_ ⟨(CB-1),o0,o2,o1,(h_++([o3]:List (List<|Bool×bA×Int))),a2,c2,J,s0,s1,J,H9,(by exact PQ hs aj ‹decide (e_=0)=true› ‹decide (p_<(ss.size:Int))=true› q0),aj,bo,(by simp only[fN,iB,gj];omega),(by simp only[fN,iB,gj];omega)⟩
   omega
  refine ex<|aV<|bf<|bh<|nx<|sq<|sq ?_
  have LC:=Gk hs<|by rw[‹decide (e_=0)=true›,‹decide (p_<(ss.size:Int))=false›];rfl
  refine rg<|ai J s1<|k<|nc J J<|aR tE J J<|bq H2 1 J qw J J J<|k<|neq J J J J<|aq<|nU J J (by rw[show (decide (e_=0))=true from b0]<;>rfl)<|sk<|cV<|ai J s2<|ak (v:=sL a0 h_ c0) J J<|ak (v:=I 0) J J<|ak (v:=I 0) J J<|aq<|rt<|r3 J J J J ?_
  exact⟨h_,0,0,a0,c0,J,H2.below,(H2.mu 0 J),(by simp only[bg,LC,b0,b1,BL]),aj,aj⟩
 refine aX J J J b0<|aX J J J b0<|aX J J J b0<|aX J J J b0<|aX J J J b0<|aX J J J b0<|aX J J J b0<|k<|cZ J J J J b0 J<|aq<|nU J J J<|ex<|aV<|bf<|bh<|nx<|sq<|sq ?_
 have LC:=Gk hs<|by rw[‹decide (e_=0)=false›];rfl
 refine rg<|ai J s1<|k<|nc J J<|aR tE J J<|bq H2 1 J qw J J J<|k<|neq J J J J<|aq<|oA J J (by rw[show (decide (e_=0))=false from b0]<;>rfl)<|sq<|yT J aU<|kq (fun _ _=>mv J s1 e1)<|kq (fun _ _=>nc J J e1)<|kq (fun _ _=>fa kl J J e1)<|kq (fun _ x_=>lx (H2.ext x_) 1 J aS J J J e1)<|kq (fun _ _=>mv J s1 e1)<|kq (fun _ _=>nc J J e1)<|kq (fun _ _=>fa tE J J e1)<|kq (fun _ x_=>lx (H2.ext x_) 1 J qw J J J e1)<|kq (fun _ _=>jy (v:=.slice none 0 0) J J e1)<|kq (fun _ _=>jy (v:=I p_) J J e1)<|kq (fun _ _=>jy (v:=I e_) J J e1)<|zq ?_
 intro w2 dy
 have H3:=H2.ext dy
 refine nx<|rt<|aK<|r3 J J J J ?_
 exact⟨([]:List (List<|Bool×bA×Int)),p_,e_,none,0,J,H3.below,(eH _ _),(by simp only[bg,LC,b0,BL]),aj,bo⟩
theorem acW:cH aJ 11:=cN Tryz.func11
theorem aiO:cH aJ 15:=cN Tryz.func15
theorem Bn (hM:eU M w) (hT:fW 0 w) (uI:ss.size≤maxLen) (mZ:aL lv) (P4:ss.size≤1000000) (ahs:(bg ss).2.2=0→(bg ss).1.flatten.length≤64):Calls aJ 10 #[.string ss,I lv] w (cA fun v w'=>∃(lc_:Int) (nc_:Int) (Rt:List (List bt)) (TW:aA) (Ru:List aA) (iW:List cT) (fw_:Int) (nw_:Int) (a0:OA) (c0:Nat) (a1:OA) (c1:Nat) (a2:OA) (c2:Nat) (a3:OA) (c3:Nat),v=.agg #[I (cG ss lv),I (v7 ss lv),I ((j0 ss lv).1),I ((j0 ss lv).2),I (vZ ss lv),.bool (pF ss lv),I lc_,I nc_,sL a0 Rt c0,sL a1 TW c1,sL a2 Ru c2,I ((jV ss lv).1),I ((jV ss lv).2.1),I ((jV ss lv).2.2.1),I ((jV ss lv).2.2.2.1),I ((jV ss lv).2.2.2.2),sL a3 iW c3,I fw_,I nw_]∧Ext w w'∧cL M w' a0 c0 Rt∧cL M w' a1 c1 TW∧cL M w' a2 c2 Ru∧cL M w' a3 c3 iW):=by
 refine dH 26 Tryz.func10 J J J hM fun f0 ha H=>?_
 have i0:f0 0=.string ss:=ha 0 bm
 have i1:f0 1=I lv:=ha 1 bm
 refine az<|k<|al H ml ?_
 intro aZ w0 bY (H0:HI M w w0 [box aZ #[I 0,I 0,I 0,I 0,I 0,.bool false,I 0,I 0,.slice none 0 0,.slice none 0 0,.slice none 0 0,I 0,I 0,I 0,I 0,I 0,.slice none 0 0,I 0,I 0] 35])
 refine aq<|sq<|az<|ai J i1<|k ?_
 have bT:=Ex (lv:=lv) (w:=w0) mZ
 refine ca acT J (ec J e0) bT ?_
 rintro _ w1 ⟨rfl,dy⟩
 have H1:=H0.ext dy
 refine k<|kg J J<|z<|nx<|cd (b:=!(decide (0<(((dS lv).length:Nat):Int)))) J J (fun b0=>?_)<|fun b0=>?_
 ·
  have p0:=dF<|fX b0
  refine sq ?_
  obtain⟨qQ,LQ,nE,tz,rF,gP⟩:=Pe (s:=ss) (show qH lv=false from fX ‹(!decide (0<(((dS lv).length:Nat):Int)))=true›)
  refine rg<|k<|bd (v:=.agg #[I 1,I 0,I 0,I 0,I 0,.bool false,I 0,I 0,.slice none 0 0,.slice none 0 0,.slice none 0 0,I 0,I 0,I 0,I 0,I 0,.slice none 0 0,I 0,I 0]) J (cz J eI) (fun _=>aU)<|k<|bw H1 0 J ml J J J J J J J ?_
  intro w2 (H2:HI M w w2 [box aZ #[I 1,I 0,I 0,I 0,I 0,.bool false,I 0,I 0,.slice none 0 0,.slice none 0 0,.slice none 0 0,I 0,I 0,I 0,I 0,I 0,.slice none 0 0,I 0,I 0] 35])
  refine aq<|rt<|aK<|pf H2 0 J ml J J J J au ?_
  have e0:(1:Int)=cG ss lv:=by exact qQ.symm
  have e1:(0:Int)=v7 ss lv:=by exact LQ.symm
  have e2:(0:Int)=(j0 ss lv).1:=by rw[nE]
  have e3:(0:Int)=(j0 ss lv).2:=by rw[nE]
  have e4:(0:Int)=vZ ss lv:=by exact tz.symm
  have e5:(false:Bool)=pF ss lv:=by exact rF.symm
  have rV:(0:Int)=(jV ss lv).1:=by rw[gP]
  have sP:(0:Int)=(jV ss lv).2.1:=by rw[gP]
  have rU:(0:Int)=(jV ss lv).2.2.1:=by rw[gP]
  have tI:(0:Int)=(jV ss lv).2.2.2.1:=by rw[gP]
  have tH:(0:Int)=(jV ss lv).2.2.2.2:=by rw[gP]
  have bu:=V4 (fun (cq:Int) (dX:Int) (gQ:Int) (mM:Int) (xc:Int) (xb:Bool) (se:Int) (sd:Int) (sc:Int) (r9:Int) (r8:Int)=>(.agg #[I cq,I dX,I gQ,I mM,I xc,.bool xb,I 0,I 0,.slice none ([]:List (List bt)).length 0,.slice none ([]:aA).length 0,.slice none ([]:List aA).length 0,I se,I sd,I sc,I r9,I r8,.slice none ([]:List cT).length 0,I 0,I 0]:Value)) e0 e1 e2 e3 e4 e5 rV sP rU tI tH
  exact⟨0,0,([]:List (List bt)),([]:aA),([]:List aA),([]:List cT),0,0,none,0,none,0,none,0,none,0,bu,H2.below,(eH _ _),(eH _ _),(eH _ _),(eH _ _)⟩
 have p0:=dT<|fl b0
 refine sk<|cV<|ai J i0<|k ?_
 have dq:=Iu (ss:=ss) H1.mb bo<|by exact P4
 refine ca acW J (ec J e0) dq ?_
 rintro _ w2 ⟨o0,o1,o2,a0,c0,rfl,fe,cE,q0,q1,q2⟩
 have H2:=H1.ext fe
 have H3:=eu H2 cE
 refine ai (v:=.tuple #[sL a0 o0 c0,I o1,I o2]) J J<|k<|xt J J J<|k<|xt J J J<|k<|xt J J J<|ak (v:=sL a0 o0 c0) J J<|ak (v:=I o1) J J<|ak (v:=I o2) J J<|aq<|sq<|az<|ai (v:=I o2) J J<|k<|neq J J J J<|z<|nx<|cd (b:=!decide (o2=0)) J J (fun b1=>?_)<|fun b1=>?_
 ·
  have p1:=dF<|fX b1
  refine sq ?_
  obtain⟨qQ,LQ,nE,tz,rF,gP⟩:=Q2 (show qH lv=true from fl ‹(!decide (0<(((dS lv).length:Nat):Int)))=false›) q0 (dF (fX bo))
  refine rg<|ai (v:=I o2) J J<|ai (v:=I o1) J J<|k<|bd (v:=.agg #[I o2,I o1,I 0,I 0,I 0,.bool false,I 0,I 0,.slice none 0 0,.slice none 0 0,.slice none 0 0,I 0,I 0,I 0,I 0,I 0,.slice none 0 0,I 0,I 0]) J (cz J<|cz J eI) (fun _=>aU)<|k<|bw H3 1 J ml J J J J J J J ?_
  intro w3 (H4:HI M w w3 [iL a0 o0 c0,box aZ #[I o2,I o1,I 0,I 0,I 0,.bool false,I 0,I 0,.slice none 0 0,.slice none 0 0,.slice none 0 0,I 0,I 0,I 0,I 0,I 0,.slice none 0 0,I 0,I 0] 35])
  refine aq<|rt<|aK<|pf H4 1 J ml J J J J au ?_
  have e0:(o2:Int)=cG ss lv:=by exact qQ.symm
  have e1:(o1:Int)=v7 ss lv:=by exact LQ.symm
  have e2:(0:Int)=(j0 ss lv).1:=by rw[nE]
  have e3:(0:Int)=(j0 ss lv).2:=by rw[nE]
  have e4:(0:Int)=vZ ss lv:=by exact tz.symm
  have e5:(false:Bool)=pF ss lv:=by exact rF.symm
  have rV:(0:Int)=(jV ss lv).1:=by rw[gP]
  have sP:(0:Int)=(jV ss lv).2.1:=by rw[gP]
  have rU:(0:Int)=(jV ss lv).2.2.1:=by rw[gP]
  have tI:(0:Int)=(jV ss lv).2.2.2.1:=by rw[gP]
  have tH:(0:Int)=(jV ss lv).2.2.2.2:=by rw[gP]
  have bu:=V4 (fun (cq:Int) (dX:Int) (gQ:Int) (mM:Int) (xc:Int) (xb:Bool) (se:Int) (sd:Int) (sc:Int) (r9:Int) (r8:Int)=>(.agg #[I cq,I dX,I gQ,I mM,I xc,.bool xb,I 0,I 0,.slice none ([]:List (List bt)).length 0,.slice none ([]:aA).length 0,.slice none ([]:List aA).length 0,I se,I sd,I sc,I r9,I r8,.slice none ([]:List cT).length 0,I 0,I 0]:Value)) e0 e1 e2 e3 e4 e5 rV sP rU tI tH
  exact⟨0,0,([]:List (List bt)),([]:aA),([]:List aA),([]:List cT),0,0,none,0,none,0,none,0,none,0,bu,H4.below,(eH _ _),(eH _ _),(eH _ _),(eH _ _)⟩
 have p1:=dT<|fl b1
 refine sk<|nx<|sq ?_
 have mX:=dT<|fl ‹(!decide (o2=0))=false›
 obtain⟨qQ,LQ,nE,tz,rF,gP⟩:=FW (show qH lv=true from fl ‹(!decide (0<(((dS lv).length:Nat):Int)))=false›) q0 mX
 have al0:(o0.flatten).length≤64:=by have h_:=ahs;rw[q0] at h_;exact h_ mX
 refine rg<|ai (v:=sL a0 o0 c0) J J<|ai J i1<|k ?_
 have fP:=Jw (h:=o0) (lv:=lv) H3.mb (hT.ext H3.below) (H3.rv 0 J) mZ aj aj
 refine ca aiO J (ec J<|ec J e0) fP ?_
 rintro _ w3 ⟨o3,o4,o5,o6,o7,o8,o9,aW,a1,c1,a2,c2,a3,c3,a4,c4,rfl,fA,ep,ei,fB,ja⟩
 have H4:=H3.ext fA
 have H5:=eu H4 ep
 have H6:=eu H5 ei
 have H7:=eu H6 fB
 have H8:=eu H7 ja
 refine k<|bw H8 5 J ml J J J J J J J ?_
 intro w4 (H9:HI M w w4 [iL a4 o8 c4,iL a3 o7 c3,iL a2 o6 c2,iL a1 o5 c1,iL a0 o0 c0,box aZ #[I (qN o0 lv),I 0,I ((ph o0 lv).1),I ((ph o0 lv).2),I (wi o0 lv),.bool (wj o0 lv),I o3,I o4,sL a1 o5 c1,sL a2 o6 c2,sL a3 o7 c3,I ((jx o0 lv).1),I ((jx o0 lv).2.1),I ((jx o0 lv).2.2.1),I ((jx o0 lv).2.2.2.1),I ((jx o0 lv).2.2.2.2),sL a4 o8 c4,I o9,I aW] 35])
 refine aq<|rt<|pf H9 5 J ml J J J J au ?_
 have e0:(qN o0 lv:Int)=cG ss lv:=by exact qQ.symm
 have e1:(0:Int)=v7 ss lv:=by exact LQ.symm
 have e2:((ph o0 lv).1:Int)=(j0 ss lv).1:=by rw[nE]
 have e3:((ph o0 lv).2:Int)=(j0 ss lv).2:=by rw[nE]
 have e4:(wi o0 lv:Int)=vZ ss lv:=by exact tz.symm
 have e5:(wj o0 lv:Bool)=pF ss lv:=by exact rF.symm
 have rV:((jx o0 lv).1:Int)=(jV ss lv).1:=by rw[gP]
 have sP:((jx o0 lv).2.1:Int)=(jV ss lv).2.1:=by rw[gP]
 have rU:((jx o0 lv).2.2.1:Int)=(jV ss lv).2.2.1:=by rw[gP]
 have tI:((jx o0 lv).2.2.2.1:Int)=(jV ss lv).2.2.2.1:=by rw[gP]
 have tH:((jx o0 lv).2.2.2.2:Int)=(jV ss lv).2.2.2.2:=by rw[gP]
 have bu:=V4 (fun (cq:Int) (dX:Int) (gQ:Int) (mM:Int) (xc:Int) (xb:Bool) (se:Int) (sd:Int) (sc:Int) (r9:Int) (r8:Int)=>(.agg #[I cq,I dX,I gQ,I mM,I xc,.bool xb,I o3,I o4,.slice a1 o5.length c1,.slice a2 o6.length c2,.slice a3 o7.length c3,I se,I sd,I sc,I r9,I r8,.slice a4 o8.length c4,I o9,I aW]:Value)) e0 e1 e2 e3 e4 e5 rV sP rU tI tH
 exact⟨o3,o4,o5,o6,o7,o8,o9,aW,a1,c1,a2,c2,a3,c3,a4,c4,bu,H9.below,(H9.gm 3 J),(H9.gm 2 J),(H9.gm 1 J),(H9.gm 0 J)⟩
theorem VC:cH aJ 10:=cN Tryz.func10
theorem vv:gv aJ 35 0 0:=js Tryz.underlying35
theorem L_:gv aJ 35 5 5:=js Tryz.underlying35
theorem ac5:gv aJ 35 7 11:=js Tryz.underlying35
theorem aiP:cH aJ 13:=cN Tryz.func13
theorem nL (hT:fW 0 w):Calls aJ 9 #[] w (cA fun v w'=>v=.bool true∧Ext w w'):=by
 refine dH 31 Tryz.func9 J J J pI fun f0 ha H=>?_
 refine az<|ak (v:=.bool false) J J<|bz<|ak (v:=.string ⟨#[119,58,120,61,49,32,114,58,120,61,50,10,119,58,120,61,50,32,114,58,120,61,49,10]⟩) J J<|bz<|ai (v:=.string ⟨#[119,58,120,61,49,32,114,58,120,61,50,10,119,58,120,61,50,32,114,58,120,61,49,10]⟩) J J<|k ?_
 have bT:=Bn (ss:=⟨#[119,58,120,61,49,32,114,58,120,61,50,10,119,58,120,61,50,32,114,58,120,61,49,10]⟩) (lv:=3) (w:=w) H.mb (hT.ext H.below) au aT au<|by exact TO
 refine ca VC J (ec J<|ec J e0) bT ?_
 rintro _ w0 ⟨o0,o1,o2,o3,o4,o5,o6,o7,a0,c0,a1,c1,a2,c2,a3,c3,rfl,bY,cE,ep,ei,fB⟩
 have H0:=H.ext bY
 have H1:=eu H0 cE
 have H2:=eu H1 ep
 have H3:=eu H2 ei
 have H4:=eu H3 fB
 refine ai (v:=.string ⟨#[119,58,120,61,49,32,114,58,120,61,50,10,119,58,120,61,50,32,114,58,120,61,49,10]⟩) J J<|k ?_
 have dq:=Bn (ss:=⟨#[119,58,120,61,49,32,114,58,120,61,50,10,119,58,120,61,50,32,114,58,120,61,49,10]⟩) (lv:=2) H4.mb (hT.ext H4.below) au aT au<|by exact TO
 refine ca VC J (ec J<|ec J e0) dq ?_
 rintro _ w1 ⟨o8,o9,aW,gX,ky,Cv,K_,N5,a4,c4,a5,c5,a6,c6,a7,c7,rfl,dy,ja,jW,iH,kR⟩
 have H5:=H4.ext dy
 have H6:=eu H5 ja
 have H7:=eu H6 jW
 have H8:=eu H7 iH
 have H9:=eu H8 kR
 refine k<|al H9 ml ?_
 let bc:=[iL a7 Cv c7,iL a6 ky c6,iL a5 gX c5,iL a4 aW c4,iL a3 o5 c3,iL a2 o4 c2,iL a1 o3 c1,iL a0 o2 c0]
 intro aZ w2 fe (dz:HI (fun _=>False) w w2 (box aZ #[I 0,I 0,I 0,I 0,I 0,.bool false,I 0,I 0,.slice none 0 0,.slice none 0 0,.slice none 0 0,I 0,I 0,I 0,I 0,I 0,.slice none 0 0,I 0,I 0] 35::bc))
 refine k<|al dz ml ?_
 intro ba w3 fA (cB:HI (fun _=>False) w w3 (box ba #[I 0,I 0,I 0,I 0,I 0,.bool false,I 0,I 0,.slice none 0 0,.slice none 0 0,.slice none 0 0,I 0,I 0,I 0,I 0,I 0,.slice none 0 0,I 0,I 0] 35::box aZ #[I 0,I 0,I 0,I 0,I 0,.bool false,I 0,I 0,.slice none 0 0,.slice none 0 0,.slice none 0 0,I 0,I 0,I 0,I 0,I 0,.slice none 0 0,I 0,I 0] 35::bc))
 refine k<|bw cB 1 J ml J J J J J J J ?_
 let J0:=box aZ #[I (cG ⟨#[119,58,120,61,49,32,114,58,120,61,50,10,119,58,120,61,50,32,114,58,120,61,49,10]⟩ 3),I (v7 ⟨#[119,58,120,61,49,32,114,58,120,61,50,10,119,58,120,61,50,32,114,58,120,61,49,10]⟩ 3),I ((j0 ⟨#[119,58,120,61,49,32,114,58,120,61,50,10,119,58,120,61,50,32,114,58,120,61,49,10]⟩ 3).1),I ((j0 ⟨#[119,58,120,61,49,32,114,58,120,61,50,10,119,58,120,61,50,32,114,58,120,61,49,10]⟩ 3).2),I (vZ ⟨#[119,58,120,61,49,32,114,58,120,61,50,10,119,58,120,61,50,32,114,58,120,61,49,10]⟩ 3),.bool (pF ⟨#[119,58,120,61,49,32,114,58,120,61,50,10,119,58,120,61,50,32,114,58,120,61,49,10]⟩ 3),I o0,I o1,sL a0 o2 c0,sL a1 o3 c1,sL a2 o4 c2,I ((jV ⟨#[119,58,120,61,49,32,114,58,120,61,50,10,119,58,120,61,50,32,114,58,120,61,49,10]⟩ 3).1),I ((jV ⟨#[119,58,120,61,49,32,114,58,120,61,50,10,119,58,120,61,50,32,114,58,120,61,49,10]⟩ 3).2.1),I ((jV ⟨#[119,58,120,61,49,32,114,58,120,61,50,10,119,58,120,61,50,32,114,58,120,61,49,10]⟩ 3).2.2.1),I ((jV ⟨#[119,58,120,61,49,32,114,58,120,61,50,10,119,58,120,61,50,32,114,58,120,61,49,10]⟩ 3).2.2.2.1),I ((jV ⟨#[119,58,120,61,49,32,114,58,120,61,50,10,119,58,120,61,50,32,114,58,120,61,49,10]⟩ 3).2.2.2.2),sL a3 o5 c3,I o6,I o7] 35
 intro w4 (dx:HI (fun _=>False) w w4 (box ba #[I 0,I 0,I 0,I 0,I 0,.bool false,I 0,I 0,.slice none 0 0,.slice none 0 0,.slice none 0 0,I 0,I 0,I 0,I 0,I 0,.slice none 0 0,I 0,I 0] 35::J0::bc))
 refine k<|bw dx 0 J ml J J J J J J J ?_
 intro w5 (dI:HI (fun _=>False) w w5 (box ba #[I (cG ⟨#[119,58,120,61,49,32,114,58,120,61,50,10,119,58,120,61,50,32,114,58,120,61,49,10]⟩ 2),I (v7 ⟨#[119,58,120,61,49,32,114,58,120,61,50,10,119,58,120,61,50,32,114,58,120,61,49,10]⟩ 2),I ((j0 ⟨#[119,58,120,61,49,32,114,58,120,61,50,10,119,58,120,61,50,32,114,58,120,61,49,10]⟩ 2).1),I ((j0 ⟨#[119,58,120,61,49,32,114,58,120,61,50,10,119,58,120,61,50,32,114,58,120,61,49,10]⟩ 2).2),I (vZ ⟨#[119,58,120,61,49,32,114,58,120,61,50,10,119,58,120,61,50,32,114,58,120,61,49,10]⟩ 2),.bool (pF ⟨#[119,58,120,61,49,32,114,58,120,61,50,10,119,58,120,61,50,32,114,58,120,61,49,10]⟩ 2),I o8,I o9,sL a4 aW c4,sL a5 gX c5,sL a6 ky c6,I ((jV ⟨#[119,58,120,61,49,32,114,58,120,61,50,10,119,58,120,61,50,32,114,58,120,61,49,10]⟩ 2).1),I ((jV ⟨#[119,58,120,61,49,32,114,58,120,61,50,10,119,58,120,61,50,32,114,58,120,61,49,10]⟩ 2).2.1),I ((jV ⟨#[119,58,120,61,49,32,114,58,120,61,50,10,119,58,120,61,50,32,114,58,120,61,49,10]⟩ 2).2.2.1),I ((jV ⟨#[119,58,120,61,49,32,114,58,120,61,50,10,119,58,120,61,50,32,114,58,120,61,49,10]⟩ 2).2.2.2.1),I ((jV ⟨#[119,58,120,61,49,32,114,58,120,61,50,10,119,58,120,61,50,32,114,58,120,61,49,10]⟩ 2).2.2.2.2),sL a7 Cv c7,I K_,I N5] 35::J0::bc))
 refine bz<|aR vv J J<|bq dI 1 J qw J J J<|k<|eql J J J J<|ai (v:=.bool (decide ((cG ⟨#[119,58,120,61,49,32,114,58,120,61,50,10,119,58,120,61,50,32,114,58,120,61,49,10]⟩ 3)=0))) J J<|aQ J J J (amC FK.1)<|fa L_ J J<|aQ J J J (amC FK.1)<|lx dI 1 J oo J J J<|k<|aN J J J J (amC FK.1) J<|ai (v:=.bool (pF ⟨#[119,58,120,61,49,32,114,58,120,61,50,10,119,58,120,61,50,32,114,58,120,61,49,10]⟩ 3)) J J<|aQ J J J FK.2<|fa vv J J<|aQ J J J FK.2<|lx dI 0 J qw J J J<|aQ J J J FK.2<|eql J J J J<|k<|aN J J J J FK.2 J<|ai (v:=.bool (decide ((cG ⟨#[119,58,120,61,49,32,114,58,120,61,50,10,119,58,120,61,50,32,114,58,120,61,49,10]⟩ 2)=0))) J J<|aQ J J J (amC zD.1)<|fa L_ J J<|aQ J J J (amC zD.1)<|lx dI 0 J oo J J J<|aQ J J J (amC zD.1)<|kg J J<|k<|aN J J J J (amC zD.1) J<|ai (v:=.bool (!(pF ⟨#[119,58,120,61,49,32,114,58,120,61,50,10,119,58,120,61,50,32,114,58,120,61,49,10]⟩ 2))) J J<|aQ J J J (by rw[show (pF ⟨#[119,58,120,61,49,32,114,58,120,61,50,10,119,58,120,61,50,32,114,58,120,61,49,10]⟩ 2)=false from zD.2.1]<;>rfl)<|fa ac5 J J<|aQ J J J (by rw[show (pF ⟨#[119,58,120,61,49,32,114,58,120,61,50,10,119,58,120,61,50,32,114,58,120,61,49,10]⟩ 2)=false from zD.2.1]<;>rfl)<|fa C0 J J<|aQ J J J (by rw[show (pF ⟨#[119,58,120,61,49,32,114,58,120,61,50,10,119,58,120,61,50,32,114,58,120,61,49,10]⟩ 2)=false from zD.2.1]<;>rfl)<|lx dI 0 J aS J J J<|aQ J J J (by rw[show (pF ⟨#[119,58,120,61,49,32,114,58,120,61,50,10,119,58,120,61,50,32,114,58,120,61,49,10]⟩ 2)=false from zD.2.1]<;>rfl)<|eql J J J J<|k<|aN J J J J (by rw[show (pF ⟨#[119,58,120,61,49,32,114,58,120,61,50,10,119,58,120,61,50,32,114,58,120,61,49,10]⟩ 2)=false from zD.2.1]<;>rfl) J<|ak (v:=.bool (decide (((jV ⟨#[119,58,120,61,49,32,114,58,120,61,50,10,119,58,120,61,50,32,114,58,120,61,49,10]⟩ 2).1)=5))) J J<|aq<|rt<|r1 J J ?_
 exact⟨amz Value.bool (by exact(amC zD.2.2)),dI.below⟩
theorem GD:cH aJ 9:=cN Tryz.func9
theorem ac7:gv aJ 35 1 1:=js Tryz.underlying35
theorem rS:gv aJ 35 2 2:=js Tryz.underlying35
theorem pN:gv aJ 35 3 3:=js Tryz.underlying35
theorem aay:Jg aJ 43 [some (0,1),some (1,2),some (2,0)]:=⟨aU,aU,aU,aU⟩
theorem un4:aJ.underlying 4=some (.bool):=aU
theorem ac6:gv aJ 35 4 4:=js Tryz.underlying35
theorem Ju (hT:fW 0 w) (uI:ss.size≤maxLen) (mZ:aL lv):Calls aJ 3 #[.string ss,I lv] w (cA fun v w'=>v=.bool true∧Ext w w'):=by
 refine dH 180 Tryz.func3 J J J pI fun f0 ha H=>?_
 have i0:f0 0=.string ss:=ha 0 bm
 have i1:f0 1=I lv:=ha 1 bm
 refine az<|ak (v:=.bool false) J J<|bz<|ak (v:=I 0) J J<|aq<|sq<|az<|ak (v:=I 0) J J<|aq<|bk<|lp (fun m f w'=>∃(j_:Nat),m=ss.size-j_∧f 0=.string ss∧f 1=I lv∧f 5=I ((cp ss j_:Nat):Int)∧f 6=I (j_:Int)∧HI (fun _=>False) w w' []∧(j_≤ss.size)∧(cp ss j_≤j_)) _ ⟨0,J,i0,i1,(bN J),(bN J),H,ao_,(by exact amD _)⟩ ?_
 rintro _ f0 w0 ⟨j_,rfl,s0,s1,s2,s3,H0,pk,alQ⟩
 refine sq<|az<|ai J s3<|ai J s0<|k<|tq J J lq<|k<|lss J J J J<|ai (v:=.bool (decide ((j_:Int)<(ss.size:Int)))) J J ?_
 rcases bE (decide ((j_:Int)<(ss.size:Int))) with b0|b0
 ·
  have p0:=dT b0
  refine aQ J J J b0<|mv J s0<|aQ J J J b0<|tq J J lq<|aQ J J J b0<|leq J J J J<|k<|aN J J J J b0 J<|z<|nx<|cd (b:=decide ((ss.size:Int)≤400)) J J (fun b1=>?_)<|fun b1=>?_
  ·
   have p1:=dT b1
   refine sk<|nx<|sq<|bk<|az<|ai J s0<|ai J s3<|k<|Xc J J J J aj lq ?_
   intro c0 l9
   refine k<|eql J J J J<|z<|nx<|cd (b:=decide ((c0.toNat:Int)=58)) J J (fun b2=>?_)<|fun b2=>?_
   ·
    have p2:=dT b2
    refine rg<|ai J s2<|k<|add J J J J aT<|ak (v:=I (((cp ss j_:Nat):Int)+1)) J J<|z<|aF<|nx<|rg<|ai J s3<|k<|add J J J J aT<|ak (v:=I ((j_:Int)+1)) J J<|z<|bG _ ?_ ⟨(j_+1),J,s0,s1,(R_ J<|by first|rfl|omega|(rw[uM l9 bo];push_cast;omega)|(rw[sQ l9 bo])),(R_ J<|by first|rfl|omega|(rw[uM l9 bo];push_cast;omega)|(rw[sQ l9 bo])),H0,ao_,(by first|(rw[uM l9 bo];omega)|(rw[sQ l9 bo];omega))⟩
    omega
   have p2:=dF b2
   refine sk<|aF<|nx<|rg<|ai J s3<|k<|add J J J J aT<|ak (v:=I ((j_:Int)+1)) J J<|z<|bG _ ?_ ⟨(j_+1),J,s0,s1,(R_ s2<|by first|rfl|omega|(rw[uM l9 bo];push_cast;omega)|(rw[sQ l9 bo])),(R_ J<|by first|rfl|omega|(rw[uM l9 bo];push_cast;omega)|(rw[sQ l9 bo])),H0,ao_,(by first|(rw[uM l9 bo];omega)|(rw[sQ l9 bo];omega))⟩
   omega
  have p1:=dF b1
  refine ex<|aV<|bf<|bh<|nx<|sq<|az<|ai J s0<|k<|tq J J lq<|k<|gtr J J J J<|ai (v:=.bool (decide (400<(ss.size:Int)))) J J<|aX J J J (amC<|by have h_:=amG ‹decide ((ss.size:Int)≤400)=false›;omega)<|aX J J J (amC<|by have h_:=amG ‹decide ((ss.size:Int)≤400)=false›;omega)<|k<|aN J J J J (amC<|by have h_:=amG ‹decide ((ss.size:Int)≤400)=false›;omega) J<|aq<|oA J J J<|az<|k ?_
  have bT:=nL (w:=w0)<|hT.ext H0.below
  refine ca GD J e0 bT ?_
  rintro _ w1 ⟨rfl,bY⟩
  have H1:=H0.ext bY
  refine ak (v:=.bool true) J J<|aq<|rt<|aK<|r1 J J ?_
  exact⟨J,H1.below⟩
 have p0:=dF b0
 refine aX J J J b0<|aX J J J b0<|aX J J J b0<|k<|cZ J J J J b0 J<|aq<|nU J J J<|ex<|aV<|bf<|bh<|nx<|sq<|az<|ai J s0<|k<|tq J J lq<|k<|gtr J J J J<|ai (v:=.bool (decide (400<(ss.size:Int)))) J J ?_
 rcases bE (decide (400<(ss.size:Int))) with b1|b1
 ·
  have p1:=dT b1
  refine aX J J J b1<|aX J J J b1<|k<|aN J J J J b1 J<|aq<|oA J J J<|az<|k ?_
  have bT:=nL (w:=w0)<|hT.ext H0.below
  refine ca GD J e0 bT ?_
  rintro _ w1 ⟨rfl,bY⟩
  have H1:=H0.ext bY
  refine ak (v:=.bool true) J J<|aq<|rt<|aK<|r1 J J ?_
  exact⟨J,H1.below⟩
 have p1:=dF b1
 refine aQ J J J b1<|mv J s2<|aQ J J J b1<|gtr J J J J<|k<|cZ J J J J b1 J<|z<|nx<|cd (b:=decide (10<((cp ss j_:Nat):Int))) J J (fun b2=>?_)<|fun b2=>?_
 ·
  have p2:=dT b2
  refine az<|k ?_
  have bT:=nL (w:=w0)<|hT.ext H0.below
  refine ca GD J e0 bT ?_
  rintro _ w1 ⟨rfl,bY⟩
  have H1:=H0.ext bY
  refine ak (v:=.bool true) J J<|aq<|rt<|aK<|r1 J J ?_
  exact⟨J,H1.below⟩
 have p2:=dF b2
 refine sk<|cV<|ai J s0<|ai J s1<|k ?_
 have bT:=Bn (ss:=ss) (lv:=lv) H0.mb (hT.ext H0.below) (by first|assumption|decide) mZ (by have h_:=amG ‹decide (400<(ss.size:Int))=false›;omega)<|by exact Lm aj ‹decide (10<((cp ss j_:Nat):Int))=false›
 refine ca VC J (ec J<|ec J e0) bT ?_
 rintro _ w1 ⟨o0,o1,o2,o3,o4,o5,o6,o7,a0,c0,a1,c1,a2,c2,a3,c3,rfl,bY,cE,ep,ei,fB⟩
 have H1:=H0.ext bY
 have H2:=eu H1 cE
 have H3:=eu H2 ep
 have H4:=eu H3 ei
 have H5:=eu H4 fB
 refine k<|al H5 ml ?_
 let bc:=[iL a3 o5 c3,iL a2 o4 c2,iL a1 o3 c1,iL a0 o2 c0]
 intro aZ w2 dy (H6:HI (fun _=>False) w w2 (box aZ #[I 0,I 0,I 0,I 0,I 0,.bool false,I 0,I 0,.slice none 0 0,.slice none 0 0,.slice none 0 0,I 0,I 0,I 0,I 0,I 0,.slice none 0 0,I 0,I 0] 35::bc))
 refine k<|bw H6 0 J ml J J J J J J J ?_
 let J0:=box aZ #[I (cG ss lv),I (v7 ss lv),I ((j0 ss lv).1),I ((j0 ss lv).2),I (vZ ss lv),.bool (pF ss lv),I o0,I o1,sL a0 o2 c0,sL a1 o3 c1,sL a2 o4 c2,I ((jV ss lv).1),I ((jV ss lv).2.1),I ((jV ss lv).2.2.1),I ((jV ss lv).2.2.2.1),I ((jV ss lv).2.2.2.2),sL a3 o5 c3,I o6,I o7] 35
 intro w3 (H7:HI (fun _=>False) w w3 (J0::bc))
 refine aq<|sq<|az<|ai J s1<|k<|lss J J J J<|ai (v:=.bool (decide (lv<1))) J J ?_
 rcases bE (decide (lv<1)) with b3|b3
 ·
  have p3:=dT b3
  refine aX J J J b3<|aX J J J b3<|k<|aN J J J J b3 J<|aq<|oA J J J<|az<|k ?_
  have dq:=nL (w:=w3)<|hT.ext H7.below
  refine ca GD J e0 dq ?_
  rintro _ w4 ⟨rfl,fe⟩
  have H8:=H7.ext fe
  refine ai (v:=.bool true) J J<|aQ J J J J<|fa vv J J<|aQ J J J J<|lx H8 0 J qw J J J<|aQ J J J J<|eql J J J J<|k<|aN J J J J J J<|ak (v:=.bool (decide ((cG ss lv)=1))) J J<|aq<|rt<|aK<|r1 J J ?_
  have rH:(decide ((cG ss lv)=1))=true:=(by rw[(Pe<|Od<|.inl (am' ‹decide (lv<1)=true›)).1];exact amC rfl)
  exact⟨amz Value.bool (by exact rH),H8.below⟩
 have p3:=dF b3
 refine aQ J J J b3<|mv J s1<|aQ J J J b3<|gtr J J J J<|k<|cZ J J J J b3 J<|z<|nx<|cd (b:=decide (3<lv)) J J (fun b4=>?_)<|fun b4=>?_
 ·
  have p4:=dT b4
  refine az<|k ?_
  have dq:=nL (w:=w3)<|hT.ext H7.below
  refine ca GD J e0 dq ?_
  rintro _ w4 ⟨rfl,fe⟩
  have H8:=H7.ext fe
  refine ai (v:=.bool true) J J<|aQ J J J J<|fa vv J J<|aQ J J J J<|lx H8 0 J qw J J J<|aQ J J J J<|eql J J J J<|k<|aN J J J J J J<|ak (v:=.bool (decide ((cG ss lv)=1))) J J<|aq<|rt<|aK<|r1 J J ?_
  have rH:(decide ((cG ss lv)=1))=true:=(by rw[(Pe<|Od<|.inr (am' ‹decide (3<lv)=true›)).1];exact amC rfl)
  exact⟨amz Value.bool (by exact rH),H8.below⟩
 have p4:=dF b4
 refine sk<|cV<|ai J s0<|k ?_
 have dq:=Iu (ss:=ss) H7.mb (by first|assumption|decide)<|by have h_:=amG ‹decide (400<(ss.size:Int))=false›;omega
 refine ca acW J (ec J e0) dq ?_
 rintro _ w4 ⟨o8,o9,aW,a4,c4,rfl,fe,ja,q0,q1,q2⟩
 have H8:=H7.ext fe
 have H9:=eu H8 ja
 refine ai (v:=.tuple #[sL a4 o8 c4,I o9,I aW]) J J<|k<|xt J J J<|k<|xt J J J<|k<|xt J J J<|ak (v:=sL a4 o8 c4) J J<|ak (v:=I o9) J J<|ak (v:=I aW) J J<|aq<|sq<|az<|ai (v:=I aW) J J<|k<|neq J J J J<|z<|nx<|cd (b:=!decide (aW=0)) J J (fun b5=>?_)<|fun b5=>?_
 ·
  have p5:=dF<|fX b5
  refine az<|k ?_
  have fP:=nL (w:=w4)<|hT.ext H9.below
  refine ca GD J e0 fP ?_
  rintro _ w5 ⟨rfl,fA⟩
  have dz:=H9.ext fA
  refine ai (v:=.bool true) J J<|aQ J J J J<|fa vv J J<|aQ J J J J<|lx dz 1 J qw J J J<|aQ J J J J<|mv (v:=I aW) J J<|aQ J J J J<|eql J J J J<|k<|aN J J J J J J<|ai (v:=.bool (decide ((cG ss lv)=aW))) J J<|aQ J J J (tf ‹decide (lv<1)=false› ‹decide (3<lv)=false› ‹bg ss=(o8,o9,aW)› ‹(!decide (aW=0))=true›).1<|fa ac7 J J<|aQ J J J (tf ‹decide (lv<1)=false› ‹decide (3<lv)=false› ‹bg ss=(o8,o9,aW)› ‹(!decide (aW=0))=true›).1<|lx dz 1 J aS J J J<|aQ J J J (tf ‹decide (lv<1)=false› ‹decide (3<lv)=false› ‹bg ss=(o8,o9,aW)› ‹(!decide (aW=0))=true›).1<|mv (v:=I o9) J J<|aQ J J J (tf ‹decide (lv<1)=false› ‹decide (3<lv)=false› ‹bg ss=(o8,o9,aW)› ‹(!decide (aW=0))=true›).1<|eql J J J J<|k<|aN J J J J (tf ‹decide (lv<1)=false› ‹decide (3<lv)=false› ‹bg ss=(o8,o9,aW)› ‹(!decide (aW=0))=true›).1 J<|ai (v:=.bool (decide ((v7 ss lv)=o9))) J J<|aQ J J J (tf ‹decide (lv<1)=false› ‹decide (3<lv)=false› ‹bg ss=(o8,o9,aW)› ‹(!decide (aW=0))=true›).2.1<|fa L_ J J<|aQ J J J (tf ‹decide (lv<1)=false› ‹decide (3<lv)=false› ‹bg ss=(o8,o9,aW)› ‹(!decide (aW=0))=true›).2.1<|lx dz 1 J oo J J J<|aQ J J J (tf ‹decide (lv<1)=false› ‹decide (3<lv)=false› ‹bg ss=(o8,o9,aW)› ‹(!decide (aW=0))=true›).2.1<|kg J J<|k<|aN J J J J (tf ‹decide (lv<1)=false› ‹decide (3<lv)=false› ‹bg ss=(o8,o9,aW)› ‹(!decide (aW=0))=true›).2.1 J<|ai (v:=.bool (!(pF ss lv))) J J<|aQ J J J (tf ‹decide (lv<1)=false› ‹decide (3<lv)=false› ‹bg ss=(o8,o9,aW)› ‹(!decide (aW=0))=true›).2.2.1<|mv (v:=I aW) J J<|aQ J J J (tf ‹decide (lv<1)=false› ‹decide (3<lv)=false› ‹bg ss=(o8,o9,aW)› ‹(!decide (aW=0))=true›).2.2.1<|eql J J J J<|aQ J J J (tf ‹decide (lv<1)=false› ‹decide (3<lv)=false› ‹bg ss=(o8,o9,aW)› ‹(!decide (aW=0))=true›).2.2.1<|mv (v:=.bool (decide (aW=2))) J J ?_
  rcases bE (decide (aW=2)) with b6|b6
  ·
   have p6:=dT b6
   refine aX J J J b6<|aX J J J b6<|aQ J J J (tf ‹decide (lv<1)=false› ‹decide (3<lv)=false› ‹bg ss=(o8,o9,aW)› ‹(!decide (aW=0))=true›).2.2.1<|aN J J J J b6 J<|k<|aN J J J J (tf ‹decide (lv<1)=false› ‹decide (3<lv)=false› ‹bg ss=(o8,o9,aW)› ‹(!decide (aW=0))=true›).2.2.1 J<|ak (v:=.bool true) J J<|aq<|rt<|aK<|r1 J J ?_
   exact⟨J,dz.below⟩
  have p6:=dF b6
  refine aQ J J J b6<|mv (v:=I aW) J J<|aQ J J J b6<|eql J J J J<|aQ J J J (tf ‹decide (lv<1)=false› ‹decide (3<lv)=false› ‹bg ss=(o8,o9,aW)› ‹(!decide (aW=0))=true›).2.2.1<|cZ J J J J b6 J<|k<|aN J J J J (tf ‹decide (lv<1)=false› ‹decide (3<lv)=false› ‹bg ss=(o8,o9,aW)› ‹(!decide (aW=0))=true›).2.2.1 J<|ak (v:=.bool (decide (aW=3))) J J<|aq<|rt<|aK<|r1 J J ?_
  exact⟨amz Value.bool (by exact(amC<|by have h_:=(tf ‹decide (lv<1)=false› ‹decide (3<lv)=false› ‹bg ss=(o8,o9,aW)› ‹(!decide (aW=0))=true›).2.2.2;have jj:=amG ‹decide (aW=2)=false›;omega)),dz.below⟩
 have p5:=dT<|fl b5
 refine sk<|cV<|ai (v:=sL a4 o8 c4) J J<|k ?_
 have fP:=F2 (h:=o8) H9.mb (H9.rv 0 J)<|by have h_:=Lm aj ‹decide (10<((cp ss j_:Nat):Int))=false›;rw[‹bg ss=(o8,o9,aW)›] at h_;have jj:o8.flatten.length≤64:=h_ (by simpa using ‹(!decide (aW=0))=false›);omega
 refine ca acV J (ec J e0) fP ?_
 rintro _ w5 ⟨a5,c5,rfl,fA,jW⟩
 have dz:=H9.ext fA
 have cB:=dz.put (it:=iL a5 o8.flatten c5) J jW
 refine ak (v:=sL a5 o8.flatten c5) J J<|aq<|sq<|az<|aR vv J J<|bq cB 2 J qw J J J<|k<|neq J J J J<|z<|nx<|cd (b:=!decide ((cG ss lv)=0)) J J (fun b6=>?_)<|fun b6=>?_
 ·
  have p6:=dF<|fX b6
  refine sq<|az<|aR vv J J<|bq cB 2 J qw J J J<|k<|neq J J J J<|ai (v:=.bool (!decide ((cG ss lv)=4))) J J ?_
  rcases bE (!decide ((cG ss lv)=4)) with b7|b7
  ·
   have p7:=dF<|fX b7
   refine aQ J J J b7<|fa vv J J<|aQ J J J b7<|lx cB 2 J qw J J J<|aQ J J J b7<|neq J J J J<|k<|aN J J J J b7 J<|ai (v:=.bool (!decide ((cG ss lv)=5))) J J ?_
   have rH:(!decide ((cG ss lv)=5))=false:=(by have h_:=(tb (show ss.size≤j_ by omega) ‹decide (10<((cp ss j_:Nat):Int))=false› ‹decide (lv<1)=false› ‹decide (3<lv)=false› ‹bg ss=(o8,o9,aW)› ‹(!decide (aW=0))=false› ‹(!decide (cG ss lv=0))=true›).e45;have jj:¬cG ss lv=4:=(by simpa using ‹(!decide (cG ss lv=4))=true›);have XQ:cG ss lv=5:=aj;simp[XQ])
   refine aQ J J J rH<|fa rS J J<|aQ J J J rH<|lx cB 2 J aS J J J<|aQ J J J rH<|lss J J J J<|k<|cZ J J J J rH J<|ai (v:=.bool (decide (((j0 ss lv).1)<0))) J J<|aQ J J J (tb (show ss.size≤j_ by omega) ‹decide (10<((cp ss j_:Nat):Int))=false› ‹decide (lv<1)=false› ‹decide (3<lv)=false› ‹bg ss=(o8,o9,aW)› ‹(!decide (aW=0))=false› ‹(!decide (cG ss lv=0))=true›).i0<|fa pN J J<|aQ J J J (tb (show ss.size≤j_ by omega) ‹decide (10<((cp ss j_:Nat):Int))=false› ‹decide (lv<1)=false› ‹decide (3<lv)=false› ‹bg ss=(o8,o9,aW)› ‹(!decide (aW=0))=false› ‹(!decide (cG ss lv=0))=true›).i0<|lx cB 2 J aS J J J<|aQ J J J (tb (show ss.size≤j_ by omega) ‹decide (10<((cp ss j_:Nat):Int))=false› ‹decide (lv<1)=false› ‹decide (3<lv)=false› ‹bg ss=(o8,o9,aW)› ‹(!decide (aW=0))=false› ‹(!decide (cG ss lv=0))=true›).i0<|fa rS J J<|aQ J J J (tb (show ss.size≤j_ by omega) ‹decide (10<((cp ss j_:Nat):Int))=false› ‹decide (lv<1)=false› ‹decide (3<lv)=false› ‹bg ss=(o8,o9,aW)› ‹(!decide (aW=0))=false› ‹(!decide (cG ss lv=0))=true›).i0<|lx cB 2 J aS J J J<|aQ J J J (tb (show ss.size≤j_ by omega) ‹decide (10<((cp ss j_:Nat):Int))=false› ‹decide (lv<1)=false› ‹decide (3<lv)=false› ‹bg ss=(o8,o9,aW)› ‹(!decide (aW=0))=false› ‹(!decide (cG ss lv=0))=true›).i0<|lss J J J J<|k<|cZ J J J J (tb (show ss.size≤j_ by omega) ‹decide (10<((cp ss j_:Nat):Int))=false› ‹decide (lv<1)=false› ‹decide (3<lv)=false› ‹bg ss=(o8,o9,aW)› ‹(!decide (aW=0))=false› ‹(!decide (cG ss lv=0))=true›).i0 J<|ai (v:=.bool (decide (((j0 ss lv).2)<((j0 ss lv).1)))) J J<|aQ J J J (tb (show ss.size≤j_ by omega) ‹decide (10<((cp ss j_:Nat):Int))=false› ‹decide (lv<1)=false› ‹decide (3<lv)=false› ‹bg ss=(o8,o9,aW)› ‹(!decide (aW=0))=false› ‹(!decide (cG ss lv=0))=true›).ij<|fa pN J J<|aQ J J J (tb (show ss.size≤j_ by omega) ‹decide (10<((cp ss j_:Nat):Int))=false› ‹decide (lv<1)=false› ‹decide (3<lv)=false› ‹bg ss=(o8,o9,aW)› ‹(!decide (aW=0))=false› ‹(!decide (cG ss lv=0))=true›).ij<|lx cB 2 J aS J J J<|aQ J J J (tb (show ss.size≤j_ by omega) ‹decide (10<((cp ss j_:Nat):Int))=false› ‹decide (lv<1)=false› ‹decide (3<lv)=false› ‹bg ss=(o8,o9,aW)› ‹(!decide (aW=0))=false› ‹(!decide (cG ss lv=0))=true›).ij<|mv (v:=sL a5 o8.flatten c5) J J<|aQ J J J (tb (show ss.size≤j_ by omega) ‹decide (10<((cp ss j_:Nat):Int))=false› ‹decide (lv<1)=false› ‹decide (3<lv)=false› ‹bg ss=(o8,o9,aW)› ‹(!decide (aW=0))=false› ‹(!decide (cG ss lv=0))=true›).ij<|ef J J lI<|aQ J J J (tb (show ss.size≤j_ by omega) ‹decide (10<((cp ss j_:Nat):Int))=false› ‹decide (lv<1)=false› ‹decide (3<lv)=false› ‹bg ss=(o8,o9,aW)› ‹(!decide (aW=0))=false› ‹(!decide (cG ss lv=0))=true›).ij<|geq J J J J<|k<|cZ J J J J (tb (show ss.size≤j_ by omega) ‹decide (10<((cp ss j_:Nat):Int))=false› ‹decide (lv<1)=false› ‹decide (3<lv)=false› ‹bg ss=(o8,o9,aW)› ‹(!decide (aW=0))=false› ‹(!decide (cG ss lv=0))=true›).ij J<|aq<|nU J J (tb (show ss.size≤j_ by omega) ‹decide (10<((cp ss j_:Nat):Int))=false› ‹decide (lv<1)=false› ‹decide (3<lv)=false› ‹bg ss=(o8,o9,aW)› ‹(!decide (aW=0))=false› ‹(!decide (cG ss lv=0))=true›).jl<|sk<|nx<|sq<|yT J aU<|kq (v:=.bool true) (fun v_ x_=>?_) ?_
   ·
    have cc:=nL (w:=v_)<|hT.ext (cB.ext x_).below
    exact ca GD J e0 cc fun _ _ h_=>e2 h_
   refine kq (fun _ _=>mv (v:=.bool true) J J e1)<|qy J J J J<|kq (fun _ _=>mv (v:=sL a5 o8.flatten c5) J J e1)<|qy J J J J<|kq (fun _ _=>fa rS J J e1)<|qy J J J J<|kq (fun _ x_=>lx (cB.ext x_) 2 J aS J J J e1)<|qy J J J J<|mR (cB.rv 0 J) J J J J (by have h_:=(tb (show ss.size≤j_ by omega) ‹decide (10<((cp ss j_:Nat):Int))=false› ‹decide (lv<1)=false› ‹decide (3<lv)=false› ‹bg ss=(o8,o9,aW)› ‹(!decide (aW=0))=false› ‹(!decide (cG ss lv=0))=true›);have sN:=amG h_.i0;have BQ:=amG h_.ij;have jj:=amG h_.jl;omega) lI fZ ?_
   intro iE x0 aI cD
   refine qy J J J J<|kq (fun _ _=>fa l_ J J e1)<|qy J J J J<|F4 (cD).fst.w oo J J<|kq (fun _ _=>aN J J J J J J e1)<|kq (fun _ _=>mv (v:=.bool x0.1) J J e1)<|qy J J J ((tb (show ss.size≤j_ by omega) ‹decide (10<((cp ss j_:Nat):Int))=false› ‹decide (lv<1)=false› ‹decide (3<lv)=false› ‹bg ss=(o8,o9,aW)› ‹(!decide (aW=0))=false› ‹(!decide (cG ss lv=0))=true›).yx _ aI)<|kq (fun _ _=>mv (v:=sL a5 o8.flatten c5) J J e1)<|qy J J J ((tb (show ss.size≤j_ by omega) ‹decide (10<((cp ss j_:Nat):Int))=false› ‹decide (lv<1)=false› ‹decide (3<lv)=false› ‹bg ss=(o8,o9,aW)› ‹(!decide (aW=0))=false› ‹(!decide (cG ss lv=0))=true›).yx _ aI)<|kq (fun _ _=>fa pN J J e1)<|qy J J J ((tb (show ss.size≤j_ by omega) ‹decide (10<((cp ss j_:Nat):Int))=false› ‹decide (lv<1)=false› ‹decide (3<lv)=false› ‹bg ss=(o8,o9,aW)› ‹(!decide (aW=0))=false› ‹(!decide (cG ss lv=0))=true›).yx _ aI)<|kq (fun _ x_=>lx (cB.ext x_) 2 J aS J J J e1)<|qy J J J ((tb (show ss.size≤j_ by omega) ‹decide (10<((cp ss j_:Nat):Int))=false› ‹decide (lv<1)=false› ‹decide (3<lv)=false› ‹bg ss=(o8,o9,aW)› ‹(!decide (aW=0))=false› ‹(!decide (cG ss lv=0))=true›).yx _ aI)<|mR (cB.rv 0 J) J J J J (by have h_:=(tb (show ss.size≤j_ by omega) ‹decide (10<((cp ss j_:Nat):Int))=false› ‹decide (lv<1)=false› ‹decide (3<lv)=false› ‹bg ss=(o8,o9,aW)› ‹(!decide (aW=0))=false› ‹(!decide (cG ss lv=0))=true›);have sN:=amG h_.i0;have BQ:=amG h_.ij;have jj:=amG h_.jl;omega) lI fZ ?_
   intro rb x1 bV gG
   refine qy J J J ((tb (show ss.size≤j_ by omega) ‹decide (10<((cp ss j_:Nat):Int))=false› ‹decide (lv<1)=false› ‹decide (3<lv)=false› ‹bg ss=(o8,o9,aW)› ‹(!decide (aW=0))=false› ‹(!decide (cG ss lv=0))=true›).yx _ aI)<|kq (fun _ _=>fa l_ J J e1)<|qy J J J ((tb (show ss.size≤j_ by omega) ‹decide (10<((cp ss j_:Nat):Int))=false› ‹decide (lv<1)=false› ‹decide (3<lv)=false› ‹bg ss=(o8,o9,aW)› ‹(!decide (aW=0))=false› ‹(!decide (cG ss lv=0))=true›).yx _ aI)<|F4 (gG).fst.w oo J J<|kq (fun _ _=>aN J J J J ((tb (show ss.size≤j_ by omega) ‹decide (10<((cp ss j_:Nat):Int))=false› ‹decide (lv<1)=false› ‹decide (3<lv)=false› ‹bg ss=(o8,o9,aW)› ‹(!decide (aW=0))=false› ‹(!decide (cG ss lv=0))=true›).yx _ aI) J e1)<|kq (fun _ _=>mv (v:=.bool x1.1) J J e1)<|qy J J J ((tb (show ss.size≤j_ by omega) ‹decide (10<((cp ss j_:Nat):Int))=false› ‹decide (lv<1)=false› ‹decide (3<lv)=false› ‹bg ss=(o8,o9,aW)› ‹(!decide (aW=0))=false› ‹(!decide (cG ss lv=0))=true›).qg _ bV)<|kq (fun _ _=>mv (v:=sL a5 o8.flatten c5) J J e1)<|qy J J J ((tb (show ss.size≤j_ by omega) ‹decide (10<((cp ss j_:Nat):Int))=false› ‹decide (lv<1)=false› ‹decide (3<lv)=false› ‹bg ss=(o8,o9,aW)› ‹(!decide (aW=0))=false› ‹(!decide (cG ss lv=0))=true›).qg _ bV)<|kq (fun _ _=>fa rS J J e1)<|qy J J J ((tb (show ss.size≤j_ by omega) ‹decide (10<((cp ss j_:Nat):Int))=false› ‹decide (lv<1)=false› ‹decide (3<lv)=false› ‹bg ss=(o8,o9,aW)› ‹(!decide (aW=0))=false› ‹(!decide (cG ss lv=0))=true›).qg _ bV)<|kq (fun _ x_=>lx (cB.ext x_) 2 J aS J J J e1)<|qy J J J ((tb (show ss.size≤j_ by omega) ‹decide (10<((cp ss j_:Nat):Int))=false› ‹decide (lv<1)=false› ‹decide (3<lv)=false› ‹bg ss=(o8,o9,aW)› ‹(!decide (aW=0))=false› ‹(!decide (cG ss lv=0))=true›).qg _ bV)<|mR (cB.rv 0 J) J J J J (by have h_:=(tb (show ss.size≤j_ by omega) ‹decide (10<((cp ss j_:Nat):Int))=false› ‹decide (lv<1)=false› ‹decide (3<lv)=false› ‹bg ss=(o8,o9,aW)› ‹(!decide (aW=0))=false› ‹(!decide (cG ss lv=0))=true›);have sN:=amG h_.i0;have BQ:=amG h_.ij;have jj:=amG h_.jl;omega) lI fZ ?_
   intro pq x_ mW kB
   obtain rfl:x0=x_:=amE (aI.symm.trans mW)
   refine qy J J J ((tb (show ss.size≤j_ by omega) ‹decide (10<((cp ss j_:Nat):Int))=false› ‹decide (lv<1)=false› ‹decide (3<lv)=false› ‹bg ss=(o8,o9,aW)› ‹(!decide (aW=0))=false› ‹(!decide (cG ss lv=0))=true›).qg _ bV)<|rZ kB.w fZ J J ?_
   intro v0 iH
   obtain⟨_,⟨_,_,rfl,rfl,⟨_,_,rfl,⟨rfl,kR⟩,⟨rfl,nN⟩⟩⟩,rfl⟩:=iH
   refine qy J J J ((tb (show ss.size≤j_ by omega) ‹decide (10<((cp ss j_:Nat):Int))=false› ‹decide (lv<1)=false› ‹decide (3<lv)=false› ‹bg ss=(o8,o9,aW)› ‹(!decide (aW=0))=false› ‹(!decide (cG ss lv=0))=true›).qg _ bV)<|kq (fun _ _=>mv (v:=sL a5 o8.flatten c5) J J e1)<|qy J J J ((tb (show ss.size≤j_ by omega) ‹decide (10<((cp ss j_:Nat):Int))=false› ‹decide (lv<1)=false› ‹decide (3<lv)=false› ‹bg ss=(o8,o9,aW)› ‹(!decide (aW=0))=false› ‹(!decide (cG ss lv=0))=true›).qg _ bV)<|kq (fun _ _=>fa pN J J e1)<|qy J J J ((tb (show ss.size≤j_ by omega) ‹decide (10<((cp ss j_:Nat):Int))=false› ‹decide (lv<1)=false› ‹decide (3<lv)=false› ‹bg ss=(o8,o9,aW)› ‹(!decide (aW=0))=false› ‹(!decide (cG ss lv=0))=true›).qg _ bV)<|kq (fun _ x_=>lx (cB.ext x_) 2 J aS J J J e1)<|qy J J J ((tb (show ss.size≤j_ by omega) ‹decide (10<((cp ss j_:Nat):Int))=false› ‹decide (lv<1)=false› ‹decide (3<lv)=false› ‹bg ss=(o8,o9,aW)› ‹(!decide (aW=0))=false› ‹(!decide (cG ss lv=0))=true›).qg _ bV)<|mR (cB.rv 0 J) J J J J (by have h_:=(tb (show ss.size≤j_ by omega) ‹decide (10<((cp ss j_:Nat):Int))=false› ‹decide (lv<1)=false› ‹decide (3<lv)=false› ‹bg ss=(o8,o9,aW)› ‹(!decide (aW=0))=false› ‹(!decide (cG ss lv=0))=true›);have sN:=amG h_.i0;have BQ:=amG h_.ij;have jj:=amG h_.jl;omega) lI fZ ?_
   intro ue x_ mW tC
   obtain rfl:x1=x_:=amE (bV.symm.trans mW)
   refine qy J J J ((tb (show ss.size≤j_ by omega) ‹decide (10<((cp ss j_:Nat):Int))=false› ‹decide (lv<1)=false› ‹decide (3<lv)=false› ‹bg ss=(o8,o9,aW)› ‹(!decide (aW=0))=false› ‹(!decide (cG ss lv=0))=true›).qg _ bV)<|rZ tC.w fZ J J ?_
   intro v1 oI
   obtain⟨_,⟨_,_,rfl,rfl,⟨_,_,rfl,⟨rfl,rA⟩,⟨rfl,oJ⟩⟩⟩,rfl⟩:=oI
   refine qy J J J ((tb (show ss.size≤j_ by omega) ‹decide (10<((cp ss j_:Nat):Int))=false› ‹decide (lv<1)=false› ‹decide (3<lv)=false› ‹bg ss=(o8,o9,aW)› ‹(!decide (aW=0))=false› ‹(!decide (cG ss lv=0))=true›).qg _ bV)<|kq (fun _ _=>eqG aay J J J J (rs:=[decide (x0.1=x1.1),decide (x0.2.1=x1.2.1),decide (x0.2.2=x1.2.2)]) (q:=decide ((x0.1,x0.2.1,x0.2.2)=(x1.1,x1.2.1,x1.2.2))) ⟨⟨_,_,J,J,J⟩,⟨_,_,J,J,J⟩,⟨_,_,_,J,J,J⟩,trivial⟩ (by rw[amU];simp[apL]<;>done) e1)<|kq (fun _ _=>aN J J J J ((tb (show ss.size≤j_ by omega) ‹decide (10<((cp ss j_:Nat):Int))=false› ‹decide (lv<1)=false› ‹decide (3<lv)=false› ‹bg ss=(o8,o9,aW)› ‹(!decide (aW=0))=false› ‹(!decide (cG ss lv=0))=true›).qg _ bV) J e1)<|kq (fun _ _=>mv (v:=.bool (decide ((x0.1,x0.2.1,x0.2.2)=(x1.1,x1.2.1,x1.2.2)))) J J e1)<|qy J J J ((tb (show ss.size≤j_ by omega) ‹decide (10<((cp ss j_:Nat):Int))=false› ‹decide (lv<1)=false› ‹decide (3<lv)=false› ‹bg ss=(o8,o9,aW)› ‹(!decide (aW=0))=false› ‹(!decide (cG ss lv=0))=true›).ops _ _ aI bV).2.2.1<|kq (fun _ _=>fa rS J J e1)<|qy J J J ((tb (show ss.size≤j_ by omega) ‹decide (10<((cp ss j_:Nat):Int))=false› ‹decide (lv<1)=false› ‹decide (3<lv)=false› ‹bg ss=(o8,o9,aW)› ‹(!decide (aW=0))=false› ‹(!decide (cG ss lv=0))=true›).ops _ _ aI bV).2.2.1<|kq (fun _ x_=>lx (cB.ext x_) 2 J aS J J J e1)<|qy J J J ((tb (show ss.size≤j_ by omega) ‹decide (10<((cp ss j_:Nat):Int))=false› ‹decide (lv<1)=false› ‹decide (3<lv)=false› ‹bg ss=(o8,o9,aW)› ‹(!decide (aW=0))=false› ‹(!decide (cG ss lv=0))=true›).ops _ _ aI bV).2.2.1<|kq (fun _ _=>fa pN J J e1)<|qy J J J ((tb (show ss.size≤j_ by omega) ‹decide (10<((cp ss j_:Nat):Int))=false› ‹decide (lv<1)=false› ‹decide (3<lv)=false› ‹bg ss=(o8,o9,aW)› ‹(!decide (aW=0))=false› ‹(!decide (cG ss lv=0))=true›).ops _ _ aI bV).2.2.1<|kq (fun _ x_=>lx (cB.ext x_) 2 J aS J J J e1)<|qy J J J ((tb (show ss.size≤j_ by omega) ‹decide (10<((cp ss j_:Nat):Int))=false› ‹decide (lv<1)=false› ‹decide (3<lv)=false› ‹bg ss=(o8,o9,aW)› ‹(!decide (aW=0))=false› ‹(!decide (cG ss lv=0))=true›).ops _ _ aI bV).2.2.1<|kq (fun _ _=>eql J J J J e1)<|qy J J J ((tb (show ss.size≤j_ by omega) ‹decide (10<((cp ss j_:Nat):Int))=false› ‹decide (lv<1)=false› ‹decide (3<lv)=false› ‹bg ss=(o8,o9,aW)› ‹(!decide (aW=0))=false› ‹(!decide (cG ss lv=0))=true›).ops _ _ aI bV).2.2.1<|kq (fun _ _=>mv (v:=sL a5 o8.flatten c5) J J e1)<|qy J J J ((tb (show ss.size≤j_ by omega) ‹decide (10<((cp ss j_:Nat):Int))=false› ‹decide (lv<1)=false› ‹decide (3<lv)=false› ‹bg ss=(o8,o9,aW)› ‹(!decide (aW=0))=false› ‹(!decide (cG ss lv=0))=true›).ops _ _ aI bV).2.2.1<|kq (fun _ _=>fa pN J J e1)<|qy J J J ((tb (show ss.size≤j_ by omega) ‹decide (10<((cp ss j_:Nat):Int))=false› ‹decide (lv<1)=false› ‹decide (3<lv)=false› ‹bg ss=(o8,o9,aW)› ‹(!decide (aW=0))=false› ‹(!decide (cG ss lv=0))=true›).ops _ _ aI bV).2.2.1<|kq (fun _ x_=>lx (cB.ext x_) 2 J aS J J J e1)<|qy J J J ((tb (show ss.size≤j_ by omega) ‹decide (10<((cp ss j_:Nat):Int))=false› ‹decide (lv<1)=false› ‹decide (3<lv)=false› ‹bg ss=(o8,o9,aW)› ‹(!decide (aW=0))=false› ‹(!decide (cG ss lv=0))=true›).ops _ _ aI bV).2.2.1<|mR (cB.rv 0 J) J J J J (by have h_:=(tb (show ss.size≤j_ by omega) ‹decide (10<((cp ss j_:Nat):Int))=false› ‹decide (lv<1)=false› ‹decide (3<lv)=false› ‹bg ss=(o8,o9,aW)› ‹(!decide (aW=0))=false› ‹(!decide (cG ss lv=0))=true›);have sN:=amG h_.i0;have BQ:=amG h_.ij;have jj:=amG h_.jl;omega) lI fZ ?_
   intro tK x_ mW ud
   obtain rfl:x1=x_:=amE (bV.symm.trans mW)
   refine qy J J J ((tb (show ss.size≤j_ by omega) ‹decide (10<((cp ss j_:Nat):Int))=false› ‹decide (lv<1)=false› ‹decide (3<lv)=false› ‹bg ss=(o8,o9,aW)› ‹(!decide (aW=0))=false› ‹(!decide (cG ss lv=0))=true›).ops _ _ aI bV).2.2.1<|kq (fun _ _=>fa oS J J e1)<|qy J J J ((tb (show ss.size≤j_ by omega) ‹decide (10<((cp ss j_:Nat):Int))=false› ‹decide (lv<1)=false› ‹decide (3<lv)=false› ‹bg ss=(o8,o9,aW)› ‹(!decide (aW=0))=false› ‹(!decide (cG ss lv=0))=true›).ops _ _ aI bV).2.2.1<|nP (ud).s2.w aS J J ?_
   intro nB
   refine qy J J J ((tb (show ss.size≤j_ by omega) ‹decide (10<((cp ss j_:Nat):Int))=false› ‹decide (lv<1)=false› ‹decide (3<lv)=false› ‹bg ss=(o8,o9,aW)› ‹(!decide (aW=0))=false› ‹(!decide (cG ss lv=0))=true›).ops _ _ aI bV).2.2.1<|kq (fun _ _=>eql J J J J e1)<|qy J J J ((tb (show ss.size≤j_ by omega) ‹decide (10<((cp ss j_:Nat):Int))=false› ‹decide (lv<1)=false› ‹decide (3<lv)=false› ‹bg ss=(o8,o9,aW)› ‹(!decide (aW=0))=false› ‹(!decide (cG ss lv=0))=true›).ops _ _ aI bV).2.2.1<|kq (fun _ _=>eqB J J J J un4 e1)<|kq (fun _ _=>aN J J J J ((tb (show ss.size≤j_ by omega) ‹decide (10<((cp ss j_:Nat):Int))=false› ‹decide (lv<1)=false› ‹decide (3<lv)=false› ‹bg ss=(o8,o9,aW)› ‹(!decide (aW=0))=false› ‹(!decide (cG ss lv=0))=true›).ops _ _ aI bV).2.2.1 J e1)<|kq (fun _ _=>jy (v:=.bool ((decide (((j0 ss lv).1)=((j0 ss lv).2)))==(decide (x1.2.2=0)))) J J e1)<|zq ?_
   intro w6 iz
   have dx:=cB.ext iz
   refine nx<|rt<|aK<|r1 J J ?_
   exact⟨amz Value.bool (by exact((tb (show ss.size≤j_ by omega) ‹decide (10<((cp ss j_:Nat):Int))=false› ‹decide (lv<1)=false› ‹decide (3<lv)=false› ‹bg ss=(o8,o9,aW)› ‹(!decide (aW=0))=false› ‹(!decide (cG ss lv=0))=true›).ops _ _ aI bV).2.2.2),dx.below⟩
  have p7:=dT<|fl b7
  refine aX J J J b7<|aX J J J b7<|aX J J J b7<|k<|cZ J J J J b7 J<|ai (v:=.bool false) J J<|aQ J J J J<|fa rS J J<|aQ J J J J<|lx cB 2 J aS J J J<|aQ J J J J<|lss J J J J<|k<|cZ J J J J J J<|ai (v:=.bool (decide (((j0 ss lv).1)<0))) J J<|aQ J J J (tb (show ss.size≤j_ by omega) ‹decide (10<((cp ss j_:Nat):Int))=false› ‹decide (lv<1)=false› ‹decide (3<lv)=false› ‹bg ss=(o8,o9,aW)› ‹(!decide (aW=0))=false› ‹(!decide (cG ss lv=0))=true›).i0<|fa pN J J<|aQ J J J (tb (show ss.size≤j_ by omega) ‹decide (10<((cp ss j_:Nat):Int))=false› ‹decide (lv<1)=false› ‹decide (3<lv)=false› ‹bg ss=(o8,o9,aW)› ‹(!decide (aW=0))=false› ‹(!decide (cG ss lv=0))=true›).i0<|lx cB 2 J aS J J J<|aQ J J J (tb (show ss.size≤j_ by omega) ‹decide (10<((cp ss j_:Nat):Int))=false› ‹decide (lv<1)=false› ‹decide (3<lv)=false› ‹bg ss=(o8,o9,aW)› ‹(!decide (aW=0))=false› ‹(!decide (cG ss lv=0))=true›).i0<|fa rS J J<|aQ J J J (tb (show ss.size≤j_ by omega) ‹decide (10<((cp ss j_:Nat):Int))=false› ‹decide (lv<1)=false› ‹decide (3<lv)=false› ‹bg ss=(o8,o9,aW)› ‹(!decide (aW=0))=false› ‹(!decide (cG ss lv=0))=true›).i0<|lx cB 2 J aS J J J<|aQ J J J (tb (show ss.size≤j_ by omega) ‹decide (10<((cp ss j_:Nat):Int))=false› ‹decide (lv<1)=false› ‹decide (3<lv)=false› ‹bg ss=(o8,o9,aW)› ‹(!decide (aW=0))=false› ‹(!decide (cG ss lv=0))=true›).i0<|lss J J J J<|k<|cZ J J J J (tb (show ss.size≤j_ by omega) ‹decide (10<((cp ss j_:Nat):Int))=false› ‹decide (lv<1)=false› ‹decide (3<lv)=false› ‹bg ss=(o8,o9,aW)› ‹(!decide (aW=0))=false› ‹(!decide (cG ss lv=0))=true›).i0 J<|ai (v:=.bool (decide (((j0 ss lv).2)<((j0 ss lv).1)))) J J<|aQ J J J (tb (show ss.size≤j_ by omega) ‹decide (10<((cp ss j_:Nat):Int))=false› ‹decide (lv<1)=false› ‹decide (3<lv)=false› ‹bg ss=(o8,o9,aW)› ‹(!decide (aW=0))=false› ‹(!decide (cG ss lv=0))=true›).ij<|fa pN J J<|aQ J J J (tb (show ss.size≤j_ by omega) ‹decide (10<((cp ss j_:Nat):Int))=false› ‹decide (lv<1)=false› ‹decide (3<lv)=false› ‹bg ss=(o8,o9,aW)› ‹(!decide (aW=0))=false› ‹(!decide (cG ss lv=0))=true›).ij<|lx cB 2 J aS J J J<|aQ J J J (tb (show ss.size≤j_ by omega) ‹decide (10<((cp ss j_:Nat):Int))=false› ‹decide (lv<1)=false› ‹decide (3<lv)=false› ‹bg ss=(o8,o9,aW)› ‹(!decide (aW=0))=false› ‹(!decide (cG ss lv=0))=true›).ij<|mv (v:=sL a5 o8.flatten c5) J J<|aQ J J J (tb (show ss.size≤j_ by omega) ‹decide (10<((cp ss j_:Nat):Int))=false› ‹decide (lv<1)=false› ‹decide (3<lv)=false› ‹bg ss=(o8,o9,aW)› ‹(!decide (aW=0))=false› ‹(!decide (cG ss lv=0))=true›).ij<|ef J J lI<|aQ J J J (tb (show ss.size≤j_ by omega) ‹decide (10<((cp ss j_:Nat):Int))=false› ‹decide (lv<1)=false› ‹decide (3<lv)=false› ‹bg ss=(o8,o9,aW)› ‹(!decide (aW=0))=false› ‹(!decide (cG ss lv=0))=true›).ij<|geq J J J J<|k<|cZ J J J J (tb (show ss.size≤j_ by omega) ‹decide (10<((cp ss j_:Nat):Int))=false› ‹decide (lv<1)=false› ‹decide (3<lv)=false› ‹bg ss=(o8,o9,aW)› ‹(!decide (aW=0))=false› ‹(!decide (cG ss lv=0))=true›).ij J<|aq<|nU J J (tb (show ss.size≤j_ by omega) ‹decide (10<((cp ss j_:Nat):Int))=false› ‹decide (lv<1)=false› ‹decide (3<lv)=false› ‹bg ss=(o8,o9,aW)› ‹(!decide (aW=0))=false› ‹(!decide (cG ss lv=0))=true›).jl<|sk<|nx<|sq<|yT J aU<|kq (v:=.bool true) (fun v_ x_=>?_) ?_
  ·
   have cc:=nL (w:=v_)<|hT.ext (cB.ext x_).below
   exact ca GD J e0 cc fun _ _ h_=>e2 h_
  refine kq (fun _ _=>mv (v:=.bool true) J J e1)<|qy J J J J<|kq (fun _ _=>mv (v:=sL a5 o8.flatten c5) J J e1)<|qy J J J J<|kq (fun _ _=>fa rS J J e1)<|qy J J J J<|kq (fun _ x_=>lx (cB.ext x_) 2 J aS J J J e1)<|qy J J J J<|mR (cB.rv 0 J) J J J J (by have h_:=(tb (show ss.size≤j_ by omega) ‹decide (10<((cp ss j_:Nat):Int))=false› ‹decide (lv<1)=false› ‹decide (3<lv)=false› ‹bg ss=(o8,o9,aW)› ‹(!decide (aW=0))=false› ‹(!decide (cG ss lv=0))=true›);have sN:=amG h_.i0;have BQ:=amG h_.ij;have jj:=amG h_.jl;omega) lI fZ ?_
  intro iE x0 aI cD
  refine qy J J J J<|kq (fun _ _=>fa l_ J J e1)<|qy J J J J<|F4 (cD).fst.w oo J J<|kq (fun _ _=>aN J J J J J J e1)<|kq (fun _ _=>mv (v:=.bool x0.1) J J e1)<|qy J J J ((tb (show ss.size≤j_ by omega) ‹decide (10<((cp ss j_:Nat):Int))=false› ‹decide (lv<1)=false› ‹decide (3<lv)=false› ‹bg ss=(o8,o9,aW)› ‹(!decide (aW=0))=false› ‹(!decide (cG ss lv=0))=true›).yx _ aI)<|kq (fun _ _=>mv (v:=sL a5 o8.flatten c5) J J e1)<|qy J J J ((tb (show ss.size≤j_ by omega) ‹decide (10<((cp ss j_:Nat):Int))=false› ‹decide (lv<1)=false› ‹decide (3<lv)=false› ‹bg ss=(o8,o9,aW)› ‹(!decide (aW=0))=false› ‹(!decide (cG ss lv=0))=true›).yx _ aI)<|kq (fun _ _=>fa pN J J e1)<|qy J J J ((tb (show ss.size≤j_ by omega) ‹decide (10<((cp ss j_:Nat):Int))=false› ‹decide (lv<1)=false› ‹decide (3<lv)=false› ‹bg ss=(o8,o9,aW)› ‹(!decide (aW=0))=false› ‹(!decide (cG ss lv=0))=true›).yx _ aI)<|kq (fun _ x_=>lx (cB.ext x_) 2 J aS J J J e1)<|qy J J J ((tb (show ss.size≤j_ by omega) ‹decide (10<((cp ss j_:Nat):Int))=false› ‹decide (lv<1)=false› ‹decide (3<lv)=false› ‹bg ss=(o8,o9,aW)› ‹(!decide (aW=0))=false› ‹(!decide (cG ss lv=0))=true›).yx _ aI)<|mR (cB.rv 0 J) J J J J (by have h_:=(tb (show ss.size≤j_ by omega) ‹decide (10<((cp ss j_:Nat):Int))=false› ‹decide (lv<1)=false› ‹decide (3<lv)=false› ‹bg ss=(o8,o9,aW)› ‹(!decide (aW=0))=false› ‹(!decide (cG ss lv=0))=true›);have sN:=amG h_.i0;have BQ:=amG h_.ij;have jj:=amG h_.jl;omega) lI fZ ?_
  intro rb x1 bV gG
  refine qy J J J ((tb (show ss.size≤j_ by omega) ‹decide (10<((cp ss j_:Nat):Int))=false› ‹decide (lv<1)=false› ‹decide (3<lv)=false› ‹bg ss=(o8,o9,aW)› ‹(!decide (aW=0))=false› ‹(!decide (cG ss lv=0))=true›).yx _ aI)<|kq (fun _ _=>fa l_ J J e1)<|qy J J J ((tb (show ss.size≤j_ by omega) ‹decide (10<((cp ss j_:Nat):Int))=false› ‹decide (lv<1)=false› ‹decide (3<lv)=false› ‹bg ss=(o8,o9,aW)› ‹(!decide (aW=0))=false› ‹(!decide (cG ss lv=0))=true›).yx _ aI)<|F4 (gG).fst.w oo J J<|kq (fun _ _=>aN J J J J ((tb (show ss.size≤j_ by omega) ‹decide (10<((cp ss j_:Nat):Int))=false› ‹decide (lv<1)=false› ‹decide (3<lv)=false› ‹bg ss=(o8,o9,aW)› ‹(!decide (aW=0))=false› ‹(!decide (cG ss lv=0))=true›).yx _ aI) J e1)<|kq (fun _ _=>mv (v:=.bool x1.1) J J e1)<|qy J J J ((tb (show ss.size≤j_ by omega) ‹decide (10<((cp ss j_:Nat):Int))=false› ‹decide (lv<1)=false› ‹decide (3<lv)=false› ‹bg ss=(o8,o9,aW)› ‹(!decide (aW=0))=false› ‹(!decide (cG ss lv=0))=true›).qg _ bV)<|kq (fun _ _=>mv (v:=sL a5 o8.flatten c5) J J e1)<|qy J J J ((tb (show ss.size≤j_ by omega) ‹decide (10<((cp ss j_:Nat):Int))=false› ‹decide (lv<1)=false› ‹decide (3<lv)=false› ‹bg ss=(o8,o9,aW)› ‹(!decide (aW=0))=false› ‹(!decide (cG ss lv=0))=true›).qg _ bV)<|kq (fun _ _=>fa rS J J e1)<|qy J J J ((tb (show ss.size≤j_ by omega) ‹decide (10<((cp ss j_:Nat):Int))=false› ‹decide (lv<1)=false› ‹decide (3<lv)=false› ‹bg ss=(o8,o9,aW)› ‹(!decide (aW=0))=false› ‹(!decide (cG ss lv=0))=true›).qg _ bV)<|kq (fun _ x_=>lx (cB.ext x_) 2 J aS J J J e1)<|qy J J J ((tb (show ss.size≤j_ by omega) ‹decide (10<((cp ss j_:Nat):Int))=false› ‹decide (lv<1)=false› ‹decide (3<lv)=false› ‹bg ss=(o8,o9,aW)› ‹(!decide (aW=0))=false› ‹(!decide (cG ss lv=0))=true›).qg _ bV)<|mR (cB.rv 0 J) J J J J (by have h_:=(tb (show ss.size≤j_ by omega) ‹decide (10<((cp ss j_:Nat):Int))=false› ‹decide (lv<1)=false› ‹decide (3<lv)=false› ‹bg ss=(o8,o9,aW)› ‹(!decide (aW=0))=false› ‹(!decide (cG ss lv=0))=true›);have sN:=amG h_.i0;have BQ:=amG h_.ij;have jj:=amG h_.jl;omega) lI fZ ?_
  intro pq x_ mW kB
  obtain rfl:x0=x_:=amE (aI.symm.trans mW)
  refine qy J J J ((tb (show ss.size≤j_ by omega) ‹decide (10<((cp ss j_:Nat):Int))=false› ‹decide (lv<1)=false› ‹decide (3<lv)=false› ‹bg ss=(o8,o9,aW)› ‹(!decide (aW=0))=false› ‹(!decide (cG ss lv=0))=true›).qg _ bV)<|rZ kB.w fZ J J ?_
  intro v0 iH
  obtain⟨_,⟨_,_,rfl,rfl,⟨_,_,rfl,⟨rfl,kR⟩,⟨rfl,nN⟩⟩⟩,rfl⟩:=iH
  refine qy J J J ((tb (show ss.size≤j_ by omega) ‹decide (10<((cp ss j_:Nat):Int))=false› ‹decide (lv<1)=false› ‹decide (3<lv)=false› ‹bg ss=(o8,o9,aW)› ‹(!decide (aW=0))=false› ‹(!decide (cG ss lv=0))=true›).qg _ bV)<|kq (fun _ _=>mv (v:=sL a5 o8.flatten c5) J J e1)<|qy J J J ((tb (show ss.size≤j_ by omega) ‹decide (10<((cp ss j_:Nat):Int))=false› ‹decide (lv<1)=false› ‹decide (3<lv)=false› ‹bg ss=(o8,o9,aW)› ‹(!decide (aW=0))=false› ‹(!decide (cG ss lv=0))=true›).qg _ bV)<|kq (fun _ _=>fa pN J J e1)<|qy J J J ((tb (show ss.size≤j_ by omega) ‹decide (10<((cp ss j_:Nat):Int))=false› ‹decide (lv<1)=false› ‹decide (3<lv)=false› ‹bg ss=(o8,o9,aW)› ‹(!decide (aW=0))=false› ‹(!decide (cG ss lv=0))=true›).qg _ bV)<|kq (fun _ x_=>lx (cB.ext x_) 2 J aS J J J e1)<|qy J J J ((tb (show ss.size≤j_ by omega) ‹decide (10<((cp ss j_:Nat):Int))=false› ‹decide (lv<1)=false› ‹decide (3<lv)=false› ‹bg ss=(o8,o9,aW)› ‹(!decide (aW=0))=false› ‹(!decide (cG ss lv=0))=true›).qg _ bV)<|mR (cB.rv 0 J) J J J J (by have h_:=(tb (show ss.size≤j_ by omega) ‹decide (10<((cp ss j_:Nat):Int))=false› ‹decide (lv<1)=false› ‹decide (3<lv)=false› ‹bg ss=(o8,o9,aW)› ‹(!decide (aW=0))=false› ‹(!decide (cG ss lv=0))=true›);have sN:=amG h_.i0;have BQ:=amG h_.ij;have jj:=amG h_.jl;omega) lI fZ ?_
  intro ue x_ mW tC
  obtain rfl:x1=x_:=amE (bV.symm.trans mW)
  refine qy J J J ((tb (show ss.size≤j_ by omega) ‹decide (10<((cp ss j_:Nat):Int))=false› ‹decide (lv<1)=false› ‹decide (3<lv)=false› ‹bg ss=(o8,o9,aW)› ‹(!decide (aW=0))=false› ‹(!decide (cG ss lv=0))=true›).qg _ bV)<|rZ tC.w fZ J J ?_
  intro v1 oI
  obtain⟨_,⟨_,_,rfl,rfl,⟨_,_,rfl,⟨rfl,rA⟩,⟨rfl,oJ⟩⟩⟩,rfl⟩:=oI
  refine qy J J J ((tb (show ss.size≤j_ by omega) ‹decide (10<((cp ss j_:Nat):Int))=false› ‹decide (lv<1)=false› ‹decide (3<lv)=false› ‹bg ss=(o8,o9,aW)› ‹(!decide (aW=0))=false› ‹(!decide (cG ss lv=0))=true›).qg _ bV)<|kq (fun _ _=>eqG aay J J J J (rs:=[decide (x0.1=x1.1),decide (x0.2.1=x1.2.1),decide (x0.2.2=x1.2.2)]) (q:=decide ((x0.1,x0.2.1,x0.2.2)=(x1.1,x1.2.1,x1.2.2))) ⟨⟨_,_,J,J,J⟩,⟨_,_,J,J,J⟩,⟨_,_,_,J,J,J⟩,trivial⟩ (by rw[amU];simp[apL]<;>done) e1)<|kq (fun _ _=>aN J J J J ((tb (show ss.size≤j_ by omega) ‹decide (10<((cp ss j_:Nat):Int))=false› ‹decide (lv<1)=false› ‹decide (3<lv)=false› ‹bg ss=(o8,o9,aW)› ‹(!decide (aW=0))=false› ‹(!decide (cG ss lv=0))=true›).qg _ bV) J e1)<|kq (fun _ _=>mv (v:=.bool (decide ((x0.1,x0.2.1,x0.2.2)=(x1.1,x1.2.1,x1.2.2)))) J J e1)<|qy J J J ((tb (show ss.size≤j_ by omega) ‹decide (10<((cp ss j_:Nat):Int))=false› ‹decide (lv<1)=false› ‹decide (3<lv)=false› ‹bg ss=(o8,o9,aW)› ‹(!decide (aW=0))=false› ‹(!decide (cG ss lv=0))=true›).ops _ _ aI bV).2.2.1<|kq (fun _ _=>fa rS J J e1)<|qy J J J ((tb (show ss.size≤j_ by omega) ‹decide (10<((cp ss j_:Nat):Int))=false› ‹decide (lv<1)=false› ‹decide (3<lv)=false› ‹bg ss=(o8,o9,aW)› ‹(!decide (aW=0))=false› ‹(!decide (cG ss lv=0))=true›).ops _ _ aI bV).2.2.1<|kq (fun _ x_=>lx (cB.ext x_) 2 J aS J J J e1)<|qy J J J ((tb (show ss.size≤j_ by omega) ‹decide (10<((cp ss j_:Nat):Int))=false› ‹decide (lv<1)=false› ‹decide (3<lv)=false› ‹bg ss=(o8,o9,aW)› ‹(!decide (aW=0))=false› ‹(!decide (cG ss lv=0))=true›).ops _ _ aI bV).2.2.1<|kq (fun _ _=>fa pN J J e1)<|qy J J J ((tb (show ss.size≤j_ by omega) ‹decide (10<((cp ss j_:Nat):Int))=false› ‹decide (lv<1)=false› ‹decide (3<lv)=false› ‹bg ss=(o8,o9,aW)› ‹(!decide (aW=0))=false› ‹(!decide (cG ss lv=0))=true›).ops _ _ aI bV).2.2.1<|kq (fun _ x_=>lx (cB.ext x_) 2 J aS J J J e1)<|qy J J J ((tb (show ss.size≤j_ by omega) ‹decide (10<((cp ss j_:Nat):Int))=false› ‹decide (lv<1)=false› ‹decide (3<lv)=false› ‹bg ss=(o8,o9,aW)› ‹(!decide (aW=0))=false› ‹(!decide (cG ss lv=0))=true›).ops _ _ aI bV).2.2.1<|kq (fun _ _=>eql J J J J e1)<|qy J J J ((tb (show ss.size≤j_ by omega) ‹decide (10<((cp ss j_:Nat):Int))=false› ‹decide (lv<1)=false› ‹decide (3<lv)=false› ‹bg ss=(o8,o9,aW)› ‹(!decide (aW=0))=false› ‹(!decide (cG ss lv=0))=true›).ops _ _ aI bV).2.2.1<|kq (fun _ _=>mv (v:=sL a5 o8.flatten c5) J J e1)<|qy J J J ((tb (show ss.size≤j_ by omega) ‹decide (10<((cp ss j_:Nat):Int))=false› ‹decide (lv<1)=false› ‹decide (3<lv)=false› ‹bg ss=(o8,o9,aW)› ‹(!decide (aW=0))=false› ‹(!decide (cG ss lv=0))=true›).ops _ _ aI bV).2.2.1<|kq (fun _ _=>fa pN J J e1)<|qy J J J ((tb (show ss.size≤j_ by omega) ‹decide (10<((cp ss j_:Nat):Int))=false› ‹decide (lv<1)=false› ‹decide (3<lv)=false› ‹bg ss=(o8,o9,aW)› ‹(!decide (aW=0))=false› ‹(!decide (cG ss lv=0))=true›).ops _ _ aI bV).2.2.1<|kq (fun _ x_=>lx (cB.ext x_) 2 J aS J J J e1)<|qy J J J ((tb (show ss.size≤j_ by omega) ‹decide (10<((cp ss j_:Nat):Int))=false› ‹decide (lv<1)=false› ‹decide (3<lv)=false› ‹bg ss=(o8,o9,aW)› ‹(!decide (aW=0))=false› ‹(!decide (cG ss lv=0))=true›).ops _ _ aI bV).2.2.1<|mR (cB.rv 0 J) J J J J (by have h_:=(tb (show ss.size≤j_ by omega) ‹decide (10<((cp ss j_:Nat):Int))=false› ‹decide (lv<1)=false› ‹decide (3<lv)=false› ‹bg ss=(o8,o9,aW)› ‹(!decide (aW=0))=false› ‹(!decide (cG ss lv=0))=true›);have sN:=amG h_.i0;have BQ:=amG h_.ij;have jj:=amG h_.jl;omega) lI fZ ?_
  intro tK x_ mW ud
  obtain rfl:x1=x_:=amE (bV.symm.trans mW)
  refine qy J J J ((tb (show ss.size≤j_ by omega) ‹decide (10<((cp ss j_:Nat):Int))=false› ‹decide (lv<1)=false› ‹decide (3<lv)=false› ‹bg ss=(o8,o9,aW)› ‹(!decide (aW=0))=false› ‹(!decide (cG ss lv=0))=true›).ops _ _ aI bV).2.2.1<|kq (fun _ _=>fa oS J J e1)<|qy J J J ((tb (show ss.size≤j_ by omega) ‹decide (10<((cp ss j_:Nat):Int))=false› ‹decide (lv<1)=false› ‹decide (3<lv)=false› ‹bg ss=(o8,o9,aW)› ‹(!decide (aW=0))=false› ‹(!decide (cG ss lv=0))=true›).ops _ _ aI bV).2.2.1<|nP (ud).s2.w aS J J ?_
  intro nB
  refine qy J J J ((tb (show ss.size≤j_ by omega) ‹decide (10<((cp ss j_:Nat):Int))=false› ‹decide (lv<1)=false› ‹decide (3<lv)=false› ‹bg ss=(o8,o9,aW)› ‹(!decide (aW=0))=false› ‹(!decide (cG ss lv=0))=true›).ops _ _ aI bV).2.2.1<|kq (fun _ _=>eql J J J J e1)<|qy J J J ((tb (show ss.size≤j_ by omega) ‹decide (10<((cp ss j_:Nat):Int))=false› ‹decide (lv<1)=false› ‹decide (3<lv)=false› ‹bg ss=(o8,o9,aW)› ‹(!decide (aW=0))=false› ‹(!decide (cG ss lv=0))=true›).ops _ _ aI bV).2.2.1<|kq (fun _ _=>eqB J J J J un4 e1)<|kq (fun _ _=>aN J J J J ((tb (show ss.size≤j_ by omega) ‹decide (10<((cp ss j_:Nat):Int))=false› ‹decide (lv<1)=false› ‹decide (3<lv)=false› ‹bg ss=(o8,o9,aW)› ‹(!decide (aW=0))=false› ‹(!decide (cG ss lv=0))=true›).ops _ _ aI bV).2.2.1 J e1)<|kq (fun _ _=>jy (v:=.bool ((decide (((j0 ss lv).1)=((j0 ss lv).2)))==(decide (x1.2.2=0)))) J J e1)<|zq ?_
  intro w6 iz
  have dx:=cB.ext iz
  refine nx<|rt<|aK<|r1 J J ?_
  exact⟨amz Value.bool (by exact((tb (show ss.size≤j_ by omega) ‹decide (10<((cp ss j_:Nat):Int))=false› ‹decide (lv<1)=false› ‹decide (3<lv)=false› ‹bg ss=(o8,o9,aW)› ‹(!decide (aW=0))=false› ‹(!decide (cG ss lv=0))=true›).ops _ _ aI bV).2.2.2),dx.below⟩
 have p6:=dT<|fl b6
 refine sk<|cV<|ai (v:=sL a4 o8 c4) J J<|k ?_
 have ff:=Us (h:=o8) cB.mb (cB.rv 1 J)<|by have h_:=Lm aj ‹decide (10<((cp ss j_:Nat):Int))=false›;rw[‹bg ss=(o8,o9,aW)›] at h_;have jj:o8.flatten.length≤64:=h_ (by simpa using ‹(!decide (aW=0))=false›);omega
 refine ca aiP J (ec J e0) ff ?_
 rintro _ w6 ⟨a6,c6,a7,c7,a8,c8,rfl,iz,iH,kR,nN⟩
 have dx:=cB.ext iz
 have dI:=eu dx iH
 have cU:=eu dI kR
 have d_:=eu cU nN
 refine ai (v:=.tuple #[.agg #[sL a6 (uw o8) c6,sL a7 (qE o8) c7,sL a8 (qF o8) c8],.bool (gX o8)]) J J<|k<|xt J J J<|k<|xt J J J<|k<|al d_ ej ?_
 let ck:=iL a8 (qF o8) c8::iL a7 (qE o8) c7::iL a6 (uw o8) c6::iL a5 o8.flatten c5::iL a4 o8 c4::J0::bc
 intro ba w7 jh (dD:HI (fun _=>False) w w7 (box ba #[.slice none 0 0,.slice none 0 0,.slice none 0 0] 47::ck))
 refine k<|bw dD 0 J ej J J J J J J J ?_
 intro w8 (cY:HI (fun _=>False) w w8 (box ba #[sL a6 (uw o8) c6,sL a7 (qE o8) c7,sL a8 (qF o8) c8] 47::ck))
 refine ak (v:=.bool (gX o8)) J J<|bz<|k ?_
 have mc:=nL (w:=w8)<|hT.ext cY.below
 refine ca GD J e0 mc ?_
 rintro _ w9 ⟨rfl,ki⟩
 have dW:=cY.ext ki
 refine ai (v:=.bool true) J J<|aQ J J J J<|mv (v:=.bool (gX o8)) J J<|k<|aN J J J J J J<|ai (v:=.bool (gX o8)) J J<|aQ J J J (tg (show ss.size≤j_ by omega) ‹decide (10<((cp ss j_:Nat):Int))=false› ‹decide (lv<1)=false› ‹decide (3<lv)=false› ‹bg ss=(o8,o9,aW)› ‹(!decide (aW=0))=false› ‹(!decide (cG ss lv=0))=false›).1<|fa ac6 J J<|aQ J J J (tg (show ss.size≤j_ by omega) ‹decide (10<((cp ss j_:Nat):Int))=false› ‹decide (lv<1)=false› ‹decide (3<lv)=false› ‹bg ss=(o8,o9,aW)› ‹(!decide (aW=0))=false› ‹(!decide (cG ss lv=0))=false›).1<|lx dW 6 J aS J J J<|aQ J J J (tg (show ss.size≤j_ by omega) ‹decide (10<((cp ss j_:Nat):Int))=false› ‹decide (lv<1)=false› ‹decide (3<lv)=false› ‹bg ss=(o8,o9,aW)› ‹(!decide (aW=0))=false› ‹(!decide (cG ss lv=0))=false›).1<|mv J s1<|aQ J J J (tg (show ss.size≤j_ by omega) ‹decide (10<((cp ss j_:Nat):Int))=false› ‹decide (lv<1)=false› ‹decide (3<lv)=false› ‹bg ss=(o8,o9,aW)› ‹(!decide (aW=0))=false› ‹(!decide (cG ss lv=0))=false›).1<|eql J J J J<|k<|aN J J J J (tg (show ss.size≤j_ by omega) ‹decide (10<((cp ss j_:Nat):Int))=false› ‹decide (lv<1)=false› ‹decide (3<lv)=false› ‹bg ss=(o8,o9,aW)› ‹(!decide (aW=0))=false› ‹(!decide (cG ss lv=0))=false›).1 J<|ak (v:=.bool (decide ((vZ ss lv)=lv))) J J<|aq<|rt<|r1 J J ?_
 exact⟨amz Value.bool (by exact(tg (show ss.size≤j_ by omega) ‹decide (10<((cp ss j_:Nat):Int))=false› ‹decide (lv<1)=false› ‹decide (3<lv)=false› ‹bg ss=(o8,o9,aW)› ‹(!decide (aW=0))=false› ‹(!decide (cG ss lv=0))=false›).2),dW.below⟩
end Go.Proofs.YtgjakhpjmapelaaGreatDoor
