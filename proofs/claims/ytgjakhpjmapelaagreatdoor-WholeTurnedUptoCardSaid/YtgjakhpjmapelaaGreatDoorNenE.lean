/- PRINTED by my own tool (wip/tool/gen.py): contracts of Go functions of this seat, each with its proof. -/
import Derived.Test.YtgjakhpjmapelaaGreatDoorVwnB
import Derived.Test.YtgjakhpjmapelaaGreatDoorVwnD
import Derived.Test.YtgjakhpjmapelaaGreatDoorVwnC
import Derived.Test.YtgjakhpjmapelaaGreatDoorNenD
import Derived.Test.YtgjakhpjmapelaaGreatDoorNenB
import Derived.Test.YtgjakhpjmapelaaGreatDoorVwnA
import Derived.Test.YtgjakhpjmapelaaGreatDoorNenA
import Derived.Test.YtgjakhpjmapelaaGreatDoorNenC
set_option linter.unusedVariables false
set_option linter.unusedSimpArgs false
namespace Go.Proofs.YtgjakhpjmapelaaGreatDoor
open Go.Ew Go.RowKit
set_option maxRecDepth 100000
set_option maxHeartbeats 1600000
attribute [local irreducible] WL WC SO PW PX PZ WE Code.wp wpList si cm
attribute [local irreducible] ko xJ jz fk ei AE Dq Ll words eh cY jK fF vJ
attribute [local irreducible] kJ uU zW ta zV rn kH fe lP lQ nY nB tV rp hG gL
variable {M:bY} {w w_:aG}
variable {bM ga:Nat} {Lc:TypeId} {ss:bh} {at_ bL er ch lv:Int} {r:List Go.Ew.Item} {gb:OA} {h:List (List (Bool×bh×Int))}
theorem tD:gR aI 66 3 3:=jT Tryz.underlying66
theorem uj:ep aI 23 1 false 8 (.int .i64 0):=⟨aS,aS⟩
theorem kv:gR aI 66 1 1:=jT Tryz.underlying66
theorem tE:gR aI 66 0 0:=jT Tryz.underlying66
theorem WK:cx aI 70:=cF Tryz.func70
theorem F6:cx aI 45:=cF Tryz.func45
theorem MO:cx aI 71:=cF Tryz.func71
theorem agH:cx aI 110:=cF Tryz.func110
theorem agG:cx aI 111:=cF Tryz.func111
theorem nn:gR aI 66 2 2:=jT Tryz.underlying66
theorem pA:cx aI 47:=cF Tryz.func47
theorem F3:cx aI 72:=cF Tryz.func72
theorem F2:cx aI 73:=cF Tryz.func73
theorem CA (hM:eJ M w) (zA:ss.size≤maxLen) (lI:aK at_) (eQ:aK bL) (nk:aK er) (Q_:0≤ch∧ch≤255) (h_c:w.heap[bM]? =some (.cells #[.string ss,I at_,I bL,I er] Lc (0,0))∧¬M bM) (eM:0≤at_∧at_≤(ss.size:Int)):Calls aI 70 #[.pointer (some ⟨bM,0,none⟩),.int .u8 ch] w (cm fun v w'=>v=.bool (cD ss at_ er ch)∧Ext w w'):=by
 refine dx 35 Tryz.func70 J J J hM fun f0 ha H=>?_
 have H0:=H.put (it:=ro bM #[.string ss,I at_,I bL,I er] Lc) J<|by rw[bP];exact h_c
 have i0:f0 0=pV bM 0:=ha 0 bj
 have i1:f0 1=.int .u8 ch:=ha 1 bj
 have zw:maxLen=9223372036854775807:=rfl
 refine az<|ak (v:=.bool false) J J<|aq<|sq<|B9 J aS<|kq (fun _ _=>mv J i0 e1)<|kq (fun _ _=>nc J J e1)<|kq (fun _ _=>fa tD J J e1)<|kq (fun _ x_=>lr (H0.ext x_) 0 J uj J J J e1)<|kq (fun _ _=>eql J J J J e1)<|kq (fun _ _=>mv (v:=.bool (decide (er=0))) J J e1) ?_
 rcases bE (decide (er=0)) with b0|b0
 ·
  have p0:=dT b0
  refine qy J J J b0<|kq (fun _ _=>mv J i0 e1)<|qy J J J b0<|kq (fun _ _=>nc J J e1)<|qy J J J b0<|kq (fun _ _=>fa kv J J e1)<|qy J J J b0<|kq (fun _ x_=>lr (H0.ext x_) 0 J aU J J J e1)<|qy J J J b0<|kq (fun _ _=>mv J i0 e1)<|qy J J J b0<|kq (fun _ _=>nc J J e1)<|qy J J J b0<|kq (fun _ _=>fa tE J J e1)<|qy J J J b0<|kq (fun _ x_=>lr (H0.ext x_) 0 J nU J J J e1)<|qy J J J b0<|kq (fun _ _=>vZ J J lY e1)<|qy J J J b0<|kq (fun _ _=>lss J J J J e1)<|kq (fun _ _=>aP J J J J b0 J e1)<|kq (fun _ _=>mv (v:=.bool (decide (at_<(ss.size:Int)))) J J e1) ?_
  rcases bE (decide (at_<(ss.size:Int))) with b1|b1
  ·
   have p1:=dT b1
   refine qy J J J b1<|kq (fun _ _=>mv J i0 e1)<|qy J J J b1<|kq (fun _ _=>nc J J e1)<|qy J J J b1<|kq (fun _ _=>fa tE J J e1)<|qy J J J b1<|kq (fun _ x_=>lr (H0.ext x_) 0 J nU J J J e1)<|qy J J J b1<|kq (fun _ _=>mv J i0 e1)<|qy J J J b1<|kq (fun _ _=>nc J J e1)<|qy J J J b1<|kq (fun _ _=>fa kv J J e1)<|qy J J J b1<|kq (fun _ x_=>lr (H0.ext x_) 0 J aU J J J e1)<|qy J J J b1<|kq (fun _ _=>Ye J J J J aj lY e1)<|qy J J J b1<|kq (fun _ _=>mv J i1 e1)<|qy J J J b1<|kq (fun _ _=>eql J J J J e1)<|kq (fun _ _=>aP J J J J b1 J e1)<|kq (fun _ _=>jM (v:=.bool (decide ((sT ss at_)=ch))) J J e1)<|zq ?_
   intro w0 bW
   have H1:=H0.ext bW
   refine nx<|rt<|r1 J J ?_
   exact⟨an0 Value.bool (by simp only[cD,b0,b1,BL]),H1.below⟩
  refine qn J J J b1<|qn J J J b1<|qn J J J b1<|qn J J J b1<|qn J J J b1<|qn J J J b1<|qn J J J b1<|qn J J J b1<|qn J J J b1<|qn J J J b1<|qn J J J b1<|kq (fun _ _=>dG J J J J b1 J e1)<|kq (fun _ _=>jM (v:=.bool false) J J e1)<|zq ?_
  intro w0 bW
  have H1:=H0.ext bW
  refine nx<|rt<|r1 J J ?_
  exact⟨an0 Value.bool (by simp only[cD,b0,b1,BL]),H1.below⟩
 refine qn J J J b0<|qn J J J b0<|qn J J J b0<|qn J J J b0<|qn J J J b0<|qn J J J b0<|qn J J J b0<|qn J J J b0<|qn J J J b0<|qn J J J b0<|kq (fun _ _=>dG J J J J b0 J e1)<|kq (fun _ _=>mv (v:=.bool false) J J e1)<|qn J J J J<|qn J J J J<|qn J J J J<|qn J J J J<|qn J J J J<|qn J J J J<|qn J J J J<|qn J J J J<|qn J J J J<|qn J J J J<|qn J J J J<|kq (fun _ _=>dG J J J J J J e1)<|kq (fun _ _=>jM (v:=.bool false) J J e1)<|zq ?_
 intro w0 bW
 have H1:=H0.ext bW
 refine nx<|rt<|r1 J J ?_
 exact⟨an0 Value.bool (by simp only[cD,b0,BL]),H1.below⟩
theorem qH (zA:ss.size≤maxLen) (lI:aK at_) (eQ:aK bL) (nk:aK er) (Q_:0≤ch∧ch≤255) (eM:0≤at_∧at_≤(ss.size:Int)) (H:HI M w w_ ([box bM #[.string ss,I at_,I bL,I er] 66]++r)):Calls aI 45 #[pV bM 0,.int .u8 ch] w_ (cm fun v w'=>v=.bool (cD ss at_ er ch)∧HI M w w' ([box bM #[.string ss,I (eO ss at_ er ch),I bL,I er] 66]++r)):=by
 refine enter 16 Tryz.func45 J J J fun f0 ha=>?_
 have i0:f0 0=pV bM 0:=ha 0 bj
 have i1:f0 1=.int .u8 ch:=ha 1 bj
 have zw:maxLen=9223372036854775807:=rfl
 refine az<|ak (v:=.bool false) J J<|aq<|sq<|az<|ai J i0<|ai J i1<|k ?_
 have bR:=CA (ss:=ss) (at_:=at_) (bL:=bL) (er:=er) (ch:=ch) (w:=w_) (M:=fun _=>False) (fun _ h_=>h_.elim) bt lI eQ nk (by exact Q_) ⟨H.at_ 0 rfl,fun h_=>h_⟩<|by exact eM
 refine ca WK J (ec J<|ec J e0) bR ?_
 rintro _ w0 ⟨rfl,bW⟩
 have H0:=H.ext bW
 refine k<|j4 J J<|z<|nx<|cd (b:=!(cD ss at_ er ch)) J J (fun b0=>?_)<|fun b0=>?_
 ·
  refine az<|ak (v:=.bool false) J J<|aq<|rt<|aL<|r1 J J ?_
  have e0:(false:Bool)=cD ss at_ er ch:=by simp only[(fX b0),BL]
  have e1:(at_:Int)=eO ss at_ er ch:=by simp only[eO,(fX b0),BL]
  try rw[←e0]
  try rw[←e1]
  refine⟨?_,?_⟩
  · first|rfl|simp only[e0,e1]|(simp only[an1])
  · first|exact H0|simpa +zetaDelta only[e0,e1,an1] using H0
 refine sk<|cO<|ai J i0<|k<|nc J J<|aQ kv J J<|bo H0 0 J aU J J J<|k<|add J J J J (by have h_:=Im (fw ‹(!cD ss at_ er ch)=false›);unfold aK;omega)<|k<|nc J J<|aQ kv J J<|k<|bu H0 0 J aU J J J J J J J ?_
 intro w1 (H1:HI M w w1 ([box bM #[.string ss,I (at_+1),I bL,I er] 66]++r))
 refine bw<|ak (v:=.bool true) J J<|aq<|rt<|r1 J J ?_
 have e0:(true:Bool)=cD ss at_ er ch:=by simp only[(fw b0),BL]
 have e1:(at_+1:Int)=eO ss at_ er ch:=by simp only[eO,(fw b0),BL]
 try rw[←e0]
 try rw[←e1]
 refine⟨?_,?_⟩
 · first|rfl|simp only[e0,e1]|(simp only[an1])
 · first|exact H1|simpa +zetaDelta only[e0,e1,an1] using H1
theorem uX {ex:Int} (zA:ss.size≤maxLen) (lI:aK at_) (eQ:aK bL) (nk:aK er) (anl:aK ex) (H:HI M w w_ ([box bM #[.string ss,I at_,I bL,I er] 66]++r)):Calls aI 71 #[pV bM 0,I ex] w_ (cm fun v w'=>v=.tuple #[]∧HI M w w' ([box bM #[.string ss,I at_,I bL,I (cp er ex)] 66]++r)):=by
 refine enter 13 Tryz.func71 J J J fun f0 ha=>?_
 have i0:f0 0=pV bM 0:=ha 0 bj
 have i1:f0 1=I ex:=ha 1 bj
 refine az<|ai J i0<|k<|nc J J<|aQ tD J J<|bo H 0 J uj J J J<|k<|eql J J J J<|z<|nx<|cd (b:=decide (er=0)) J J (fun b0=>?_)<|fun b0=>?_
 ·
  refine rg<|ai J i0<|ai J i1<|k<|nc J J<|aQ tD J J<|k<|bu H 0 J uj J J J J J J J ?_
  intro w0 (H0:HI M w w0 ([box bM #[.string ss,I at_,I bL,I ex] 66]++r))
  refine z<|Et J ?_
  have e0:(ex:Int)=cp er ex:=by simp only[cp,b0,BL]
  try rw[←e0]
  refine⟨?_,?_⟩
  · first|rfl|simp only[e0]|(simp only[an1])
  · first|exact H0|simpa +zetaDelta only[e0,an1] using H0
 refine sk<|Et J ?_
 have e0:(er:Int)=cp er ex:=by simp only[cp,b0,BL]
 try rw[←e0]
 refine⟨?_,?_⟩
 · first|rfl|simp only[e0]|(simp only[an1])
 · first|exact H|simpa +zetaDelta only[e0,an1] using H
theorem iw (zA:ss.size≤maxLen) (lI:aK at_) (eQ:aK bL) (nk:aK er) (Q_:0≤ch∧ch≤255) (eM:0≤at_∧at_≤(ss.size:Int)) (nh:0≤er∧er≤3) (H:HI M w w_ ([box bM #[.string ss,I at_,I bL,I er] 66]++r)):Calls aI 47 #[pV bM 0,.int .u8 ch] w_ (cm fun v w'=>∃(kF:Int) (l8:Int),v=.tuple #[]∧HI M w w' ([box bM #[.string ss,I kF,I bL,I l8] 66]++r)∧Bg ss at_ er ch=(kF,l8)∧(0≤kF∧at_≤kF∧kF≤(ss.size:Int))∧(0≤l8∧l8≤3)∧(l8=0→er=0∧kF=at_+1)):=by
 refine enter 10 Tryz.func47 J J J fun f0 ha=>?_
 have i0:f0 0=pV bM 0:=ha 0 bj
 have i1:f0 1=.int .u8 ch:=ha 1 bj
 have zw:maxLen=9223372036854775807:=rfl
 have aiP:=cq (b:=ch) (e:=er) eM
 refine az<|ai J i0<|ai J i1<|k ?_
 let J0:=box bM #[.string ss,I at_,I bL,I er] 66
 have H0:HI M w w_ ([J0]++([]++r)):=HI.aP (l:=[J0]) (l':=[J0]) (t:=r) H [0] au J J
 have bR:=qH (bM:=bM) (ss:=ss) (at_:=at_) (bL:=bL) (er:=er) (ch:=ch) (w:=w) (w_:=w_) (r:=([]++r)) (M:=M) bt lI eQ nk (by exact Q_) (by exact eM) H0
 refine ca F6 J (ec J<|ec J e0) bR ?_
 rintro _ w0 ⟨rfl,H1⟩
 let J1:=box bM #[.string ss,I (eO ss at_ er ch),I bL,I er] 66
 have H2:HI M w w0 ([J1]++r):=H1
 refine k<|j4 J J<|z<|nx<|cd (b:=!(cD ss at_ er ch)) J J (fun b0=>?_)<|fun b0=>?_
 ·
  refine rg<|ai J i0<|k ?_
  have H3:HI M w w0 ([J1]++([]++r)):=HI.aP (l:=[J1]) (l':=[J1]) (t:=r) H2 [0] au J J
  have cU:=uX (bM:=bM) (ss:=ss) (at_:=(eO ss at_ er ch)) (bL:=bL) (er:=er) (ex:=2) (w:=w) (w_:=w0) (r:=([]++r)) (M:=M) bt aR eQ nk aR H3
  refine ca MO J (ec J<|ec J e0) cU ?_
  rintro _ w1 ⟨rfl,H4⟩
  have H5:HI M w w1 ([box bM #[.string ss,I (eO ss at_ er ch),I bL,I (cp er 2)] 66]++r):=H4
  refine z<|Et J ?_
  have e0:(eO ss at_ er ch:Int)=(eO ss at_ er ch):=rfl
  have e1:(cp er 2:Int)=(cp er 2):=rfl
  try rw[←e0]
  try rw[←e1]
  refine⟨(eO ss at_ er ch),(cp er 2),?_,?_,(by simp only[Bg,eO,(fX b0),BL]),aj,(by exact lz (x:=2) nh au),(by exact fun h_=>(Pt h_).elim)⟩
  · first|rfl|simp only[e0,e1]|(simp only[an1])
  · first|exact H5|simpa +zetaDelta only[e0,e1,an1] using H5
 refine sk<|Et J ?_
 have e0:(eO ss at_ er ch:Int)=(eO ss at_ er ch):=rfl
 try rw[←e0]
 refine⟨(eO ss at_ er ch),er,?_,?_,(by simp only[Bg,eO,(fw b0),BL]),aj,(by exact nh),(by exact V7 ‹(!cD ss at_ er ch)=false›)⟩
 · first|rfl|simp only[e0]|(simp only[an1])
 · first|exact H2|simpa +zetaDelta only[e0,an1] using H2
theorem qI (zA:ss.size≤maxLen) (lI:aK at_) (eQ:aK bL) (nk:aK er) (eM:0≤at_∧at_≤(ss.size:Int)) (nh:0≤er∧er≤3) (H:HI M w w_ ([box bM #[.string ss,I at_,I bL,I er] 66]++r)):Calls aI 72 #[pV bM 0] w_ (cm fun v w'=>∃(kF:Int) (l8:Int) (nm:bh),v=.string nm∧HI M w w' ([box bM #[.string ss,I kF,I bL,I l8] 66]++r)∧KC ss at_ er=(kF,l8,nm)∧(0≤kF∧at_≤kF∧kF≤(ss.size:Int))∧(0≤l8∧l8≤3)∧nm.size≤8∧(l8=0→er=0∧at_<kF)):=by
 refine enter 83 Tryz.func72 J J J fun f0 ha=>?_
 have i0:f0 0=pV bM 0:=ha 0 bj
 have zw:maxLen=9223372036854775807:=rfl
 refine az<|ak (v:=.string ⟨#[]⟩) J J<|bw<|ai J i0<|k<|nc J J<|aQ kv J J<|bo H 0 J aU J J J<|ak (v:=I at_) J J<|z<|nx<|cut (fun f w'=>∃(ti:Int),f 0=pV bM 0∧f 3=I at_∧HI M w w' ([box bM #[.string ss,I ti,I bL,I er] 66]++r)∧(zN ss at_ er 0=ti)∧(at_≤ti∧ti≤at_+8∧ti≤(ss.size:Int))) ?_ ?_
 ·
  refine bk<|lp (fun m f w'=>∃(j_:Nat) (p_:Int),m=8-j_∧f 0=pV bM 0∧f 3=I at_∧HI M w w' ([box bM #[.string ss,I p_,I bL,I er] 66]++r)∧(p_=at_+(j_:Int))∧(j_≤8∧p_≤(ss.size:Int))∧(zN ss at_ er 0=zN ss at_ er j_)) _ ⟨0,at_,J,i0,J,H,aj,aj,(by rfl)⟩ ?_
  rintro _ f1 w1 ⟨j_,p_,rfl,s0,s1,H0,JE,pj,hs⟩
  refine sq<|sq<|B9 J aS<|kq (fun _ _=>mv J s0 e1)<|kq (fun _ _=>nc J J e1)<|kq (fun _ _=>fa tD J J e1)<|kq (fun _ x_=>lx (H0.ext x_) 0 J uj J J J e1)<|kq (fun _ _=>eql J J J J e1)<|kq (fun _ _=>mv (v:=.bool (decide (er=0))) J J e1) ?_
  rcases bE (decide (er=0)) with b0|b0
  ·
   have p0:=dT b0
   refine qy J J J b0<|kq (fun _ _=>mv J s0 e1)<|qy J J J b0<|kq (fun _ _=>nc J J e1)<|qy J J J b0<|kq (fun _ _=>fa kv J J e1)<|qy J J J b0<|kq (fun _ x_=>lx (H0.ext x_) 0 J aU J J J e1)<|qy J J J b0<|kq (fun _ _=>mv J s1 e1)<|qy J J J b0<|kq (fun _ _=>sub J J J J aR e1)<|qy J J J b0<|kq (fun _ _=>lss J J J J e1)<|kq (fun _ _=>aP J J J J b0 J e1)<|kq (fun _ _=>mv (v:=.bool (decide ((p_-at_)<8))) J J e1) ?_
   rcases bE (decide ((p_-at_)<8)) with b1|b1
   ·
    have p1:=dT b1
    refine qy J J J b1<|kq (fun _ _=>mv J s0 e1)<|qy J J J b1<|kq (fun _ _=>nc J J e1)<|qy J J J b1<|kq (fun _ _=>fa kv J J e1)<|qy J J J b1<|kq (fun _ x_=>lx (H0.ext x_) 0 J aU J J J e1)<|qy J J J b1<|kq (fun _ _=>mv J s0 e1)<|qy J J J b1<|kq (fun _ _=>nc J J e1)<|qy J J J b1<|kq (fun _ _=>fa tE J J e1)<|qy J J J b1<|kq (fun _ x_=>lx (H0.ext x_) 0 J nU J J J e1)<|qy J J J b1<|kq (fun _ _=>vZ J J lY e1)<|qy J J J b1<|kq (fun _ _=>lss J J J J e1)<|kq (fun _ _=>aP J J J J b1 J e1)<|kq (fun _ _=>mv (v:=.bool (decide (p_<(ss.size:Int)))) J J e1) ?_
    rcases bE (decide (p_<(ss.size:Int))) with b2|b2
    ·
     have p2:=dT b2
     refine qy J J J b2<|kq (fun _ _=>mv J s0 e1)<|qy J J J b2<|kq (fun _ _=>nc J J e1)<|qy J J J b2<|kq (fun _ _=>fa tE J J e1)<|qy J J J b2<|kq (fun _ x_=>lx (H0.ext x_) 0 J nU J J J e1)<|qy J J J b2<|kq (fun _ _=>mv J s0 e1)<|qy J J J b2<|kq (fun _ _=>nc J J e1)<|qy J J J b2<|kq (fun _ _=>fa kv J J e1)<|qy J J J b2<|kq (fun _ x_=>lx (H0.ext x_) 0 J aU J J J e1)<|qy J J J b2<|kq (fun _ _=>Ye J J J J aj lY e1)<|qy J J J b2<|kq (fun _ _=>geq J J J J e1)<|kq (fun _ _=>aP J J J J b2 J e1)<|kq (fun _ _=>mv (v:=.bool (decide (97≤(sT ss p_)))) J J e1) ?_
     rcases bE (decide (97≤(sT ss p_))) with b3|b3
     ·
      have p3:=dT b3
      refine qy J J J b3<|kq (fun _ _=>mv J s0 e1)<|qy J J J b3<|kq (fun _ _=>nc J J e1)<|qy J J J b3<|kq (fun _ _=>fa tE J J e1)<|qy J J J b3<|kq (fun _ x_=>lx (H0.ext x_) 0 J nU J J J e1)<|qy J J J b3<|kq (fun _ _=>mv J s0 e1)<|qy J J J b3<|kq (fun _ _=>nc J J e1)<|qy J J J b3<|kq (fun _ _=>fa kv J J e1)<|qy J J J b3<|kq (fun _ x_=>lx (H0.ext x_) 0 J aU J J J e1)<|qy J J J b3<|kq (fun _ _=>Ye J J J J aj lY e1)<|qy J J J b3<|kq (fun _ _=>leq J J J J e1)<|kq (fun _ _=>aP J J J J b3 J e1)<|zq ?_
      intro w2 bW
      have H1:=H0.ext bW
      refine nx<|cd (b:=decide ((sT ss p_)≤122)) J J (fun b4=>?_)<|fun b4=>?_
      ·
       have p4:=dT b4
       refine sk<|nx<|bk<|rg<|ai J s0<|k<|nc J J<|aQ kv J J<|bo H1 0 J aU J J J<|k<|add J J J J aR<|k<|nc J J<|aQ kv J J<|k<|bu H1 0 J aU J J J J J J J ?_
       intro w3 (H2:HI M w w3 ([box bM #[.string ss,I (p_+1),I bL,I er] 66]++r))
       refine z<|aF<|bF _ ?_ ⟨(j_+1),(p_+1),J,s0,s1,H2,aj,aj,(by exact hs.trans (ZB JE b0 b1 b2 b3 b4))⟩
       omega
      refine ex<|aT<|aY<|bf<|BA ⟨p_,s0,s1,H1,(by exact hs.trans (zM JE<|by simp only[b0,b1,b2,b3,b4,BL])),aj⟩
     refine qn J J J b3<|qn J J J b3<|qn J J J b3<|qn J J J b3<|qn J J J b3<|qn J J J b3<|qn J J J b3<|qn J J J b3<|qn J J J b3<|qn J J J b3<|kq (fun _ _=>dG J J J J b3 J e1)<|zq ?_
     intro w2 bW
     have H1:=H0.ext bW
     refine nx<|pk J J J<|ex<|aT<|aY<|bf<|BA ⟨p_,s0,s1,H1,(by exact hs.trans (zM JE<|by simp only[b0,b1,b2,b3,BL])),aj⟩
    refine qn J J J b2<|qn J J J b2<|qn J J J b2<|qn J J J b2<|qn J J J b2<|qn J J J b2<|qn J J J b2<|qn J J J b2<|qn J J J b2<|qn J J J b2<|kq (fun _ _=>dG J J J J b2 J e1)<|kq (fun _ _=>mv (v:=.bool false) J J e1)<|qn J J J J<|qn J J J J<|qn J J J J<|qn J J J J<|qn J J J J<|qn J J J J<|qn J J J J<|qn J J J J<|qn J J J J<|qn J J J J<|kq (fun _ _=>dG J J J J J J e1)<|zq ?_
    intro w2 bW
    have H1:=H0.ext bW
    refine nx<|pk J J J<|ex<|aT<|aY<|bf<|BA ⟨p_,s0,s1,H1,(by exact hs.trans (zM JE<|by simp only[b0,b1,b2,BL])),aj⟩
   refine qn J J J b1<|qn J J J b1<|qn J J J b1<|qn J J J b1<|qn J J J b1<|qn J J J b1<|qn J J J b1<|qn J J J b1<|qn J J J b1<|qn J J J b1<|kq (fun _ _=>dG J J J J b1 J e1)<|kq (fun _ _=>mv (v:=.bool false) J J e1)<|qn J J J J<|qn J J J J<|qn J J J J<|qn J J J J<|qn J J J J<|qn J J J J<|qn J J J J<|qn J J J J<|qn J J J J<|qn J J J J<|kq (fun _ _=>dG J J J J J J e1)<|kq (fun _ _=>mv (v:=.bool false) J J e1)<|qn J J J J<|qn J J J J<|qn J J J J<|qn J J J J<|qn J J J J<|qn J J J J<|qn J J J J<|qn J J J J<|qn J J J J<|qn J J J J<|kq (fun _ _=>dG J J J J J J e1)<|zq ?_
   intro w2 bW
   have H1:=H0.ext bW
   refine nx<|pk J J J<|ex<|aT<|aY<|bf<|BA ⟨p_,s0,s1,H1,(by exact hs.trans (zM JE<|by simp only[b0,b1,BL])),aj⟩
  refine qn J J J b0<|qn J J J b0<|qn J J J b0<|qn J J J b0<|qn J J J b0<|qn J J J b0<|qn J J J b0<|kq (fun _ _=>dG J J J J b0 J e1)<|kq (fun _ _=>mv (v:=.bool false) J J e1)<|qn J J J J<|qn J J J J<|qn J J J J<|qn J J J J<|qn J J J J<|qn J J J J<|qn J J J J<|qn J J J J<|qn J J J J<|qn J J J J<|kq (fun _ _=>dG J J J J J J e1)<|kq (fun _ _=>mv (v:=.bool false) J J e1)<|qn J J J J<|qn J J J J<|qn J J J J<|qn J J J J<|qn J J J J<|qn J J J J<|qn J J J J<|qn J J J J<|qn J J J J<|qn J J J J<|kq (fun _ _=>dG J J J J J J e1)<|kq (fun _ _=>mv (v:=.bool false) J J e1)<|qn J J J J<|qn J J J J<|qn J J J J<|qn J J J J<|qn J J J J<|qn J J J J<|qn J J J J<|qn J J J J<|qn J J J J<|qn J J J J<|kq (fun _ _=>dG J J J J J J e1)<|zq ?_
  intro w2 bW
  have H1:=H0.ext bW
  refine nx<|pk J J J<|ex<|aT<|aY<|bf<|BA ⟨p_,s0,s1,H1,(by exact hs.trans (zM JE<|by simp only[b0,BL])),aj⟩
 ·
  rintro f0 w0 ⟨ti,s2,s3,H3,BS,am3⟩
  refine sq<|az<|ai J s2<|k<|nc J J<|aQ kv J J<|bo H3 0 J aU J J J<|ai J s3<|k<|eql J J J J<|z<|nx<|cd (b:=decide (ti=at_)) J J (fun b1=>?_)<|fun b1=>?_
  ·
   refine rg<|ai J s2<|k ?_
   let J0:=box bM #[.string ss,I ti,I bL,I er] 66
   have H4:HI M w w0 ([J0]++([]++r)):=HI.aP (l:=[J0]) (l':=[J0]) (t:=r) H3 [0] au J J
   have bR:=uX (bM:=bM) (ss:=ss) (at_:=ti) (bL:=bL) (er:=er) (ex:=2) (w:=w) (w_:=w0) (r:=([]++r)) (M:=M) bt aR eQ nk aR H4
   refine ca MO J (ec J<|ec J e0) bR ?_
   rintro _ w3 ⟨rfl,H5⟩
   refine aq<|sq<|B9 J aS<|kq (fun _ _=>mv J s2 e1)<|kq (fun _ _=>nc J J e1)<|kq (fun _ _=>fa tE J J e1)<|kq (fun _ x_=>lx (H5.ext x_) 0 J nU J J J e1)<|kq (fun _ _=>mv J s3 e1)<|kq (fun _ _=>mv J s2 e1)<|kq (fun _ _=>nc J J e1)<|kq (fun _ _=>fa kv J J e1)<|kq (fun _ x_=>lx (H5.ext x_) 0 J aU J J J e1)<|kq (fun _ _=>Qi J J J J J J aj lY e1)<|kq (fun _ _=>jM (v:=.string (ss.extract at_.toNat ti.toNat)) J J e1)<|zq ?_
   intro w4 df
   have H7:=H5.ext df
   refine nx<|rt<|r1 J J ?_
   have e0:(ss.extract at_.toNat ti.toNat:bh)=(ss.extract at_.toNat ti.toNat):=rfl
   have e1:(cp er 2:Int)=(cp er 2):=rfl
   try rw[←e0]
   try rw[←e1]
   refine⟨ti,(cp er 2),(ss.extract at_.toNat ti.toNat),?_,?_,(by simp only[KC,BS,b1,BL]),aj,(by exact lz (x:=2) nh au),(by rw[F_ aj aj];omega),(by exact fun h_=>(Pt h_).elim)⟩
   · first|rfl|simp only[e0,e1]|(simp only[an1])
   · first|exact H7|simpa +zetaDelta only[e0,e1,an1] using H7
  have p1:=dF b1
  refine sk<|nx<|sq<|B9 J aS<|kq (fun _ _=>mv J s2 e1)<|kq (fun _ _=>nc J J e1)<|kq (fun _ _=>fa tE J J e1)<|kq (fun _ x_=>lx (H3.ext x_) 0 J nU J J J e1)<|kq (fun _ _=>mv J s3 e1)<|kq (fun _ _=>mv J s2 e1)<|kq (fun _ _=>nc J J e1)<|kq (fun _ _=>fa kv J J e1)<|kq (fun _ x_=>lx (H3.ext x_) 0 J aU J J J e1)<|kq (fun _ _=>Qi J J J J J J aj lY e1)<|kq (fun _ _=>jM (v:=.string (ss.extract at_.toNat ti.toNat)) J J e1)<|zq ?_
  intro w3 df
  have H4:=H3.ext df
  refine nx<|rt<|r1 J J ?_
  have e0:(ss.extract at_.toNat ti.toNat:bh)=(ss.extract at_.toNat ti.toNat):=rfl
  try rw[←e0]
  refine⟨ti,er,(ss.extract at_.toNat ti.toNat),?_,?_,(by simp only[KC,BS,b1,BL]),aj,(by exact nh),(by rw[F_ aj aj];omega),(by exact fun h_=>⟨h_,by omega⟩)⟩
  · first|rfl|simp only[e0]|(simp only[an1])
  · first|exact H4|simpa +zetaDelta only[e0,an1] using H4
theorem og (zA:ss.size≤maxLen) (lI:aK at_) (eQ:aK bL) (nk:aK er) (eM:0≤at_∧at_≤(ss.size:Int)) (nh:0≤er∧er≤3) (H:HI M w w_ ([box bM #[.string ss,I at_,I bL,I er] 66]++r)):Calls aI 73 #[pV bM 0] w_ (cm fun v w'=>∃(kF:Int) (l8:Int) (vl:Int),v=I vl∧HI M w w' ([box bM #[.string ss,I kF,I bL,I l8] 66]++r)∧LY ss at_ er=(kF,l8,vl)∧(0≤kF∧at_≤kF∧kF≤(ss.size:Int))∧(0≤l8∧l8≤3)∧aK vl∧(l8=0→er=0)):=by
 refine enter 49 Tryz.func73 J J J fun f0 ha=>?_
 have i0:f0 0=pV bM 0:=ha 0 bj
 have zw:maxLen=9223372036854775807:=rfl
 have Iy:=Vm eM
 refine az<|ak (v:=I 0) J J<|aq<|sq<|az<|ai J i0<|k<|nc J J<|aQ tD J J<|bo H 0 J uj J J J<|k<|neq J J J J<|z<|nx<|cd (b:=!decide (er=0)) J J (fun b0=>?_)<|fun b0=>?_
 ·
  have p0:=dF<|fX b0
  refine az<|ak (v:=I 0) J J<|aq<|rt<|aL<|r1 J J ?_
  refine⟨at_,er,0,?_,?_,(by simp only[LY,(fX b0),BL]),aj,(by exact nh),(by unfold aK;decide),(by exact id)⟩
  · first|rfl|simp only[an1]
  · first|exact H|simpa +zetaDelta only[an1] using H
 have p0:=dT<|fw b0
 refine sk<|nx<|sq<|B9 J aS<|kq (fun _ _=>mv J i0 e1)<|kq (fun _ _=>nc J J e1)<|kq (fun _ _=>fa kv J J e1)<|kq (fun _ x_=>lx (H.ext x_) 0 J aU J J J e1)<|kq (fun _ _=>mv J i0 e1)<|kq (fun _ _=>nc J J e1)<|kq (fun _ _=>fa tE J J e1)<|kq (fun _ x_=>lx (H.ext x_) 0 J nU J J J e1)<|kq (fun _ _=>mv J i0 e1)<|kq (fun _ _=>nc J J e1)<|kq (fun _ _=>fa kv J J e1)<|kq (fun _ x_=>lx (H.ext x_) 0 J aU J J J e1)<|kq (v:=I (gC ss at_)) (fun v_ x_=>?_) ?_
 ·
  have cc:=VZ (s:=ss) (at_:=at_) (w:=v_) bt lI
  exact ca agH J (ec J<|ec J e0) cc fun _ _ h_=>e2 h_
 refine kq (fun _ _=>add J J J J (by unfold aK;omega) e1)<|kq (fun _ _=>jM (v:=I (at_+(gC ss at_))) J J e1)<|zq ?_
 intro w0 bW
 have H0:=H.ext bW
 refine nx<|sq<|B9 J aS<|kq (fun _ _=>mv J i0 e1)<|kq (fun _ _=>nc J J e1)<|kq (fun _ _=>fa tE J J e1)<|kq (fun _ x_=>lx (H0.ext x_) 0 J nU J J J e1)<|kq (fun _ _=>mv J i0 e1)<|kq (fun _ _=>nc J J e1)<|kq (fun _ _=>fa kv J J e1)<|kq (fun _ x_=>lx (H0.ext x_) 0 J aU J J J e1)<|kq (fun _ _=>mv (v:=I (at_+(gC ss at_))) J J e1)<|kq (fun _ _=>Qi J J J J J J aj lY e1)<|kq (v:=.tuple #[I ((gj<|ss.extract at_.toNat (at_+(gC ss at_)).toNat).1),I ((gj<|ss.extract at_.toNat (at_+(gC ss at_)).toNat).2)]) (fun v_ x_=>?_) ?_
 ·
  have cc:=aaj (s:=(ss.extract at_.toNat (at_+(gC ss at_)).toNat)) (w:=v_)<|by exact Nat.le_trans (Dk _ _ _) zA
  exact ca agG J (ec J e0) cc fun _ _ h_=>e2 h_
 refine kq (fun _ _=>mv (v:=.tuple #[I ((gj<|ss.extract at_.toNat (at_+(gC ss at_)).toNat).1),I ((gj<|ss.extract at_.toNat (at_+(gC ss at_)).toNat).2)]) J J e1)<|kq (fun _ _=>xt J J J e1)<|kq (fun _ _=>xt J J J e1)<|kq (fun _ _=>jM (v:=I ((gj<|ss.extract at_.toNat (at_+(gC ss at_)).toNat).1)) J J e1)<|kq (fun _ _=>jM (v:=I ((gj<|ss.extract at_.toNat (at_+(gC ss at_)).toNat).2)) J J e1)<|zq ?_
 intro w1 df
 have H1:=H0.ext df
 refine nx<|sq<|az<|ai (v:=I ((gj<|ss.extract at_.toNat (at_+(gC ss at_)).toNat).2)) J J<|k<|neq J J J J<|z<|nx<|cd (b:=!decide (((gj<|ss.extract at_.toNat (at_+(gC ss at_)).toNat).2)=0)) J J (fun b1=>?_)<|fun b1=>?_
 ·
  have p1:=dF<|fX b1
  refine az<|ai J i0<|ai (v:=I ((gj<|ss.extract at_.toNat (at_+(gC ss at_)).toNat).2)) J J<|k ?_
  let J0:=box bM #[.string ss,I at_,I bL,I er] 66
  have H2:HI M w w1 ([J0]++([]++r)):=HI.aP (l:=[J0]) (l':=[J0]) (t:=r) H1 [0] au J J
  have bR:=uX (bM:=bM) (ss:=ss) (at_:=at_) (bL:=bL) (er:=er) (ex:=((gj<|ss.extract at_.toNat (at_+(gC ss at_)).toNat).2)) (w:=w) (w_:=w1) (r:=([]++r)) (M:=M) bt lI eQ nk (by have h_:=FD (ss.extract at_.toNat (at_+gC ss at_).toNat);unfold aK;omega) H2
  refine ca MO J (ec J<|ec J e0) bR ?_
  rintro _ w2 ⟨rfl,H3⟩
  have H4:HI M w w2 ([box bM #[.string ss,I at_,I bL,I (cp er ((gj (ss.extract at_.toNat (at_+(gC ss at_)).toNat)).2))] 66]++r):=H3
  refine bw<|ak (v:=I 0) J J<|aq<|rt<|aL<|r1 J J ?_
  have e0:(cp er ((gj (ss.extract at_.toNat (at_+(gC ss at_)).toNat)).2):Int)=(cp er ((gj (ss.extract at_.toNat (at_+(gC ss at_)).toNat)).2)):=rfl
  try rw[←e0]
  refine⟨at_,(cp er<|(gj<|ss.extract at_.toNat (at_+(gC ss at_)).toNat).2),0,?_,?_,(by simp only[LY,(fw b0),(fX b1),BL]),aj,(by exact lz nh (FD _).2),(by unfold aK;decide),(by exact fun h_=>(W0 (dF<|fX bt) h_).elim)⟩
  · first|rfl|simp only[e0]|(simp only[an1])
  · first|exact H4|simpa +zetaDelta only[e0,an1] using H4
 have p1:=dT<|fw b1
 refine sk<|cO<|ai J i0<|ai (v:=I (at_+(gC ss at_))) J J<|k<|nc J J<|aQ kv J J<|k<|bu H1 0 J aU J J J J J J J ?_
 intro w2 (H2:HI M w w2 ([box bM #[.string ss,I (at_+(gC ss at_)),I bL,I er] 66]++r))
 refine bw<|ai (v:=I ((gj<|ss.extract at_.toNat (at_+(gC ss at_)).toNat).1)) J J<|ak (v:=I ((gj<|ss.extract at_.toNat (at_+(gC ss at_)).toNat).1)) J J<|aq<|rt<|r1 J J ?_
 have e0:((gj (ss.extract at_.toNat (at_+(gC ss at_)).toNat)).1:Int)=((gj (ss.extract at_.toNat (at_+(gC ss at_)).toNat)).1):=rfl
 have e1:(at_+(gC ss at_):Int)=(at_+(gC ss at_)):=rfl
 try rw[←e0]
 try rw[←e1]
 refine⟨(at_+(gC ss at_)),er,((gj<|ss.extract at_.toNat (at_+(gC ss at_)).toNat).1),?_,?_,(by simp only[LY,(fw b0),(fw b1),BL]),aj,(by exact nh),(by exact(FD _).1),(by exact id)⟩
 · first|rfl|simp only[e0,e1]|(simp only[an1])
 · first|exact H2|simpa +zetaDelta only[e0,e1,an1] using H2
theorem OJ (zA:ss.size≤maxLen) (lI:aK at_) (eQ:aK bL) (nk:aK er) (eM:0≤at_∧at_≤(ss.size:Int)) (nh:0≤er∧er≤3) (aiY:0≤bL∧bL≤9223372036854775000) (H:HI M w w_ ([box bM #[.string ss,I at_,I bL,I er] 66]++r)):Calls aI 46 #[pV bM 0] w_ (cm fun v w'=>∃(kF:Int) (l8:Int) (wv:Bool) (nm:bh) (vl:Int),v=.agg #[.bool wv,.string nm,I vl]∧HI M w w' ([box bM #[.string ss,I kF,I (bL+1),I l8] 66]++r)∧Af ss at_ bL er=(kF,l8,(wv,nm,vl))∧(0≤kF∧at_≤kF∧kF≤(ss.size:Int))∧(0≤l8∧l8≤3)∧nm.size≤8∧aK vl∧(l8=0→at_+1≤kF)):=by
 refine enter 45 Tryz.func46 J J J fun f0 ha=>?_
 have i0:f0 0=pV bM 0:=ha 0 bj
 have zw:maxLen=9223372036854775807:=rfl
 refine az<|k<|al H ig ?_
 let J1:=box bM #[.string ss,I at_,I bL,I er] 66
 intro aW w0 bW (H0:HI M w w0 ([box aW #[.bool false,.string ⟨#[]⟩,I 0] 43,J1]++r))
 let J0:=box aW #[.bool false,.string ⟨#[]⟩,I 0] 43
 refine aq<|sq<|az<|ai J i0<|k<|nc J J<|aQ nn J J<|bo H0 1 J aU J J J<|k<|eql J J J J<|ai (v:=.bool (decide (bL=4096))) J J ?_
 rcases bE (decide (bL=4096)) with b0|b0
 ·
  refine aZ J J J b0<|mv J i0<|aZ J J J b0 ?_
  have bR:=CA (ss:=ss) (at_:=at_) (bL:=bL) (er:=er) (ch:=119) (w:=w0) (M:=fun _=>False) (fun _ h_=>h_.elim) bt lI eQ nk au ⟨H0.at_ 1 rfl,fun h_=>h_⟩ aj
  refine ca WK J (ec J<|ec J e0) bR ?_
  rintro _ w1 ⟨rfl,df⟩
  have H1:=H0.ext df
  refine aZ J J J b0<|mv (v:=.bool (cD ss at_ er 119)) J J ?_
  rcases bE (cD ss at_ er 119) with b1|b1
  ·
   refine aX J J J b1<|aX J J J b1<|aZ J J J b0<|aP J J J J b1 J<|k<|aP J J J J b0 J<|aq<|oW J J J<|rg<|ai J i0<|k ?_
   have H2:HI M w w1 ([J1]++([J0]++r)):=HI.aP (l:=[J0,J1]) (l':=[J1,J0]) (t:=r) H1 [1,0] au J J
   have cU:=uX (bM:=bM) (ss:=ss) (at_:=at_) (bL:=bL) (er:=er) (ex:=3) (w:=w) (w_:=w1) (r:=([J0]++r)) (M:=M) bt lI eQ nk aR H2
   refine ca MO J (ec J<|ec J e0) cU ?_
   rintro _ w2 ⟨rfl,H3⟩
   let J2:=box bM #[.string ss,I at_,I bL,I (cp er 3)] 66
   refine bw<|k<|al H3 ig ?_
   intro ba w3 eS (H5:HI M w w3 ([box ba #[.bool false,.string ⟨#[]⟩,I 0] 43,J2,J0]++r))
   let J3:=box ba #[.bool false,.string ⟨#[]⟩,I 0] 43
   refine aq<|sq<|az<|ai J i0<|k ?_
   have H6:HI M w w3 ([J2]++([J3,J0]++r)):=HI.aP (l:=[J3,J2,J0]) (l':=[J2,J3,J0]) (t:=r) H5 [1,0,2] au J J
   have fU:=qH (bM:=bM) (ss:=ss) (at_:=at_) (bL:=bL) (er:=(cp er 3)) (ch:=119) (w:=w) (w_:=w3) (r:=([J3,J0]++r)) (M:=M) bt lI eQ (by have h_:=lz (x:=3) nh au;unfold aK;omega) au aj H6
   refine ca F6 J (ec J<|ec J e0) fU ?_
   rintro _ w4 ⟨rfl,H7⟩
   let J4:=box bM #[.string ss,I (eO ss at_ (cp er 3) 119),I bL,I (cp er 3)] 66
   refine aQ oS J J<|k<|bu H7 1 J pe J J J J J J J ?_
   let J5:=box ba #[.bool (cD ss at_ (cp er 3) 119),.string ⟨#[]⟩,I 0] 43
   intro w5 (H9:HI M w w5 ([J4,J5,J0]++r))
   refine bw<|aQ oS J J<|bo H9 1 J pe J J J<|k<|j4 J J<|z<|nx<|cd (b:=!(cD ss at_ (cp er 3) 119)) J J (fun b2=>?_)<|fun b2=>?_
   ·
    refine rg<|ai J i0<|k ?_
    have dE:HI M w w5 ([J4]++([J5,J0]++r)):=HI.aP (l:=[J4,J5,J0]) (l':=[J4,J5,J0]) (t:=r) H9 [0,1,2] au J J
    have fb:=iw (bM:=bM) (ss:=ss) (at_:=(eO ss at_ (cp er 3) 119)) (bL:=bL) (er:=(cp er 3)) (ch:=114) (w:=w) (w_:=w5) (r:=([J5,J0]++r)) (M:=M) bt (by have h_:=cq (b:=119) (e:=er) eM;have lE:=cq (b:=119) (e:=cp er 3) eM;unfold aK;omega) eQ (by have h_:=lz (x:=3) nh au;unfold aK;omega) au (by have h_:=cq (b:=119) (e:=er) eM;have lE:=cq (b:=119) (e:=cp er 3) eM;omega) (by exact lz (x:=3) nh au) dE
    refine ca pA J (ec J<|ec J e0) fb ?_
    rintro _ w6 ⟨o0,o1,rfl,cV,q0,q1,q2,q3⟩
    let J6:=box bM #[.string ss,I o0,I bL,I o1] 66
    have dm:HI M w w6 ([J6,J5,J0]++r):=cV
    refine bw<|ai J i0<|k ?_
    have cL:HI M w w6 ([J6]++([J5,J0]++r)):=HI.aP (l:=[J6,J5,J0]) (l':=[J6,J5,J0]) (t:=r) dm [0,1,2] au J J
    have nr:=iw (bM:=bM) (ss:=ss) (at_:=o0) (bL:=bL) (er:=o1) (ch:=58) (w:=w) (w_:=w6) (r:=([J5,J0]++r)) (M:=M) bt aR eQ aR au aj aj cL
    refine ca pA J (ec J<|ec J e0) nr ?_
    rintro _ w7 ⟨o2,o3,rfl,cH,q4,q5,q6,q7⟩
    let J7:=box bM #[.string ss,I o2,I bL,I o3] 66
    have dV:HI M w w7 ([J7,J5,J0]++r):=cH
    refine bw<|ai J i0<|k ?_
    have dA:HI M w w7 ([J7]++([J5,J0]++r)):=HI.aP (l:=[J7,J5,J0]) (l':=[J7,J5,J0]) (t:=r) dV [0,1,2] au J J
    have n5:=qI (bM:=bM) (ss:=ss) (at_:=o2) (bL:=bL) (er:=o3) (w:=w) (w_:=w7) (r:=([J5,J0]++r)) (M:=M) bt aR eQ aR aj aj dA
    refine ca F3 J (ec J e0) n5 ?_
    rintro _ w8 ⟨o4,o5,o6,rfl,cT,q8,q9,uZ,xn,Ev⟩
    let J8:=box bM #[.string ss,I o4,I bL,I o5] 66
    refine aQ mx J J<|k<|bu cT 1 J nU J J J J J J J ?_
    let J9:=box ba #[.bool (cD ss at_ (cp er 3) 119),.string o6,I 0] 43
    intro w9 (dI:HI M w w9 ([J8,J9,J0]++r))
    refine bw<|ai J i0<|k ?_
    have cG:HI M w w9 ([J8]++([J9,J0]++r)):=HI.aP (l:=[J8,J9,J0]) (l':=[J8,J9,J0]) (t:=r) dI [0,1,2] au J J
    have AG:=iw (bM:=bM) (ss:=ss) (at_:=o4) (bL:=bL) (er:=o5) (ch:=61) (w:=w) (w_:=w9) (r:=([J9,J0]++r)) (M:=M) bt aR eQ aR au aj aj cG
    refine ca pA J (ec J<|ec J e0) AG ?_
    rintro _ dP ⟨o7,o8,rfl,d_,uY,OK,CF,CE⟩
    let dZ:=box bM #[.string ss,I o7,I bL,I o8] 66
    have dD:HI M w dP ([dZ,J9,J0]++r):=d_
    refine bw<|ai J i0<|k ?_
    have eR:HI M w dP ([dZ]++([J9,J0]++r)):=HI.aP (l:=[dZ,J9,J0]) (l':=[dZ,J9,J0]) (t:=r) dD [0,1,2] au J J
    have Dv:=og (bM:=bM) (ss:=ss) (at_:=o7) (bL:=bL) (er:=o8) (w:=w) (w_:=dP) (r:=([J9,J0]++r)) (M:=M) bt aR eQ aR aj aj eR
    refine ca F2 J (ec J e0) Dv ?_
    rintro _ ey ⟨o9,kN,fe,rfl,eW,yt,xm,q19,xl,Eu⟩
    refine aQ pM J J<|k<|bu eW 1 J aU J J J J J J J ?_
    let eL:=box ba #[.bool (cD ss at_ (cp er 3) 119),.string o6,I fe] 43
    intro fq (jf:HI M w fq ([box bM #[.string ss,I o9,I bL,I kN] 66,eL,J0]++r))
    refine bw<|ai J i0<|k<|nc J J<|aQ nn J J<|bo jf 0 J aU J J J<|k<|add J J J J aR<|k<|nc J J<|aQ nn J J<|k<|bu jf 0 J aU J J J J J J J ?_
    let gf:=box bM #[.string ss,I o9,I (bL+1),I kN] 66
    intro iQ (jC:HI M w iQ ([gf,eL,J0]++r))
    refine bw<|k<|cB jC 1 J ig J J au J<|k<|bu jC 2 J ig J J J J J J J ?_
    let fN:=box aW #[.bool (cD ss at_ (cp er 3) 119),.string o6,I fe] 43
    intro j1 (nu:HI M w j1 ([gf,eL,fN]++r))
    refine aq<|rt<|ph nu 2 J ig J J J J au ?_
    have jm:=HI.aP (l:=[gf,eL,fN]) (l':=[gf]) (t:=r) nu [0] au J J
    have e0:(cD ss at_ (cp er 3) 119:Bool)=(cD ss at_ (cp er 3) 119):=rfl
    have e1:(bL+1:Int)=(bL+1):=rfl
    try rw[←e0]
    try rw[←e1]
    refine⟨o9,kN,(cD ss at_ (cp er 3) 119),o6,fe,?_,?_,(by simp only[Af,Jo,Jn,q0,q4,q8,uY,yt,b0,b1,(fX b2),BL]),(by have h_:=cq (b:=119) (e:=er) eM;have lE:=cq (b:=119) (e:=cp er 3) eM;omega),aj,bt,bt,(by have h_:=cq (b:=119) (e:=er) eM;have lE:=cq (b:=119) (e:=cp er 3) eM;omega)⟩
    · first|rfl|simp only[e0,e1]|(simp only[an1])
    · first|exact jm|simpa +zetaDelta only[e0,e1,an1] using jm
   refine sk<|cO<|ai J i0<|k ?_
   have dE:HI M w w5 ([J4]++([J5,J0]++r)):=HI.aP (l:=[J4,J5,J0]) (l':=[J4,J5,J0]) (t:=r) H9 [0,1,2] au J J
   have fb:=iw (bM:=bM) (ss:=ss) (at_:=(eO ss at_ (cp er 3) 119)) (bL:=bL) (er:=(cp er 3)) (ch:=58) (w:=w) (w_:=w5) (r:=([J5,J0]++r)) (M:=M) bt (by have h_:=cq (b:=119) (e:=er) eM;have lE:=cq (b:=119) (e:=cp er 3) eM;unfold aK;omega) eQ (by have h_:=lz (x:=3) nh au;unfold aK;omega) au (by have h_:=cq (b:=119) (e:=er) eM;have lE:=cq (b:=119) (e:=cp er 3) eM;omega) (by exact lz (x:=3) nh au) dE
   refine ca pA J (ec J<|ec J e0) fb ?_
   rintro _ w6 ⟨o0,o1,rfl,cV,q0,q1,q2,q3⟩
   let iH:=box bM #[.string ss,I o0,I bL,I o1] 66
   have dm:HI M w w6 ([iH,J5,J0]++r):=cV
   refine bw<|ai J i0<|k ?_
   have cL:HI M w w6 ([iH]++([J5,J0]++r)):=HI.aP (l:=[iH,J5,J0]) (l':=[iH,J5,J0]) (t:=r) dm [0,1,2] au J J
   have nr:=qI (bM:=bM) (ss:=ss) (at_:=o0) (bL:=bL) (er:=o1) (w:=w) (w_:=w6) (r:=([J5,J0]++r)) (M:=M) bt aR eQ aR aj aj cL
   refine ca F3 J (ec J e0) nr ?_
   rintro _ w7 ⟨o2,o3,o4,rfl,cH,q4,q5,q6,q7,q8⟩
   let pc:=box bM #[.string ss,I o2,I bL,I o3] 66
   refine aQ mx J J<|k<|bu cH 1 J nU J J J J J J J ?_
   let mA:=box ba #[.bool (cD ss at_ (cp er 3) 119),.string o4,I 0] 43
   intro w8 (dA:HI M w w8 ([pc,mA,J0]++r))
   refine bw<|ai J i0<|k ?_
   have cT:HI M w w8 ([pc]++([mA,J0]++r)):=HI.aP (l:=[pc,mA,J0]) (l':=[pc,mA,J0]) (t:=r) dA [0,1,2] au J J
   have n5:=iw (bM:=bM) (ss:=ss) (at_:=o2) (bL:=bL) (er:=o3) (ch:=61) (w:=w) (w_:=w8) (r:=([mA,J0]++r)) (M:=M) bt aR eQ aR au aj aj cT
   refine ca pA J (ec J<|ec J e0) n5 ?_
   rintro _ w9 ⟨o5,o6,rfl,dX,q9,uZ,xn,Ev⟩
   let tM:=box bM #[.string ss,I o5,I bL,I o6] 66
   have dI:HI M w w9 ([tM,mA,J0]++r):=dX
   refine bw<|ai J i0<|k ?_
   have cG:HI M w w9 ([tM]++([mA,J0]++r)):=HI.aP (l:=[tM,mA,J0]) (l':=[tM,mA,J0]) (t:=r) dI [0,1,2] au J J
   have AG:=og (bM:=bM) (ss:=ss) (at_:=o5) (bL:=bL) (er:=o6) (w:=w) (w_:=w9) (r:=([mA,J0]++r)) (M:=M) bt aR eQ aR aj aj cG
   refine ca F2 J (ec J e0) AG ?_
   rintro _ dP ⟨o7,o8,o9,rfl,d_,uY,OK,CF,CE,yt⟩
   refine aQ pM J J<|k<|bu d_ 1 J aU J J J J J J J ?_
   let jO:=box ba #[.bool (cD ss at_ (cp er 3) 119),.string o4,I o9] 43
   intro ey (eR:HI M w ey ([box bM #[.string ss,I o7,I bL,I o8] 66,jO,J0]++r))
   refine bw<|ai J i0<|k<|nc J J<|aQ nn J J<|bo eR 0 J aU J J J<|k<|add J J J J aR<|k<|nc J J<|aQ nn J J<|k<|bu eR 0 J aU J J J J J J J ?_
   let pb:=box bM #[.string ss,I o7,I (bL+1),I o8] 66
   intro fq (eW:HI M w fq ([pb,jO,J0]++r))
   refine bw<|k<|cB eW 1 J ig J J au J<|k<|bu eW 2 J ig J J J J J J J ?_
   let qx:=box aW #[.bool (cD ss at_ (cp er 3) 119),.string o4,I o9] 43
   intro iQ (gW:HI M w iQ ([pb,jO,qx]++r))
   refine aq<|rt<|ph gW 2 J ig J J J J au ?_
   have jf:=HI.aP (l:=[pb,jO,qx]) (l':=[pb]) (t:=r) gW [0] au J J
   have e0:(cD ss at_ (cp er 3) 119:Bool)=(cD ss at_ (cp er 3) 119):=rfl
   have e1:(bL+1:Int)=(bL+1):=rfl
   try rw[←e0]
   try rw[←e1]
   refine⟨o7,o8,(cD ss at_ (cp er 3) 119),o4,o9,?_,?_,(by simp only[Af,Jo,Jn,q0,q4,q9,uY,b0,b1,(fw b2),BL]),(by have h_:=cq (b:=119) (e:=er) eM;have lE:=cq (b:=119) (e:=cp er 3) eM;omega),aj,bt,bt,(by have h_:=cq (b:=119) (e:=er) eM;have lE:=cq (b:=119) (e:=cp er 3) eM;omega)⟩
   · first|rfl|simp only[e0,e1]|(simp only[an1])
   · first|exact jf|simpa +zetaDelta only[e0,e1,an1] using jf
  refine aZ J J J b1<|mv J i0<|aZ J J J b1 ?_
  have cU:=CA (ss:=ss) (at_:=at_) (bL:=bL) (er:=er) (ch:=114) (w:=w1) (M:=fun _=>False) (fun _ h_=>h_.elim) bt lI eQ nk au ⟨H1.at_ 1 rfl,fun h_=>h_⟩ aj
  refine ca WK J (ec J<|ec J e0) cU ?_
  rintro _ w2 ⟨rfl,eS⟩
  have H2:=H1.ext eS
  refine aZ J J J b0<|dG J J J J b1 J<|k<|aP J J J J b0 J<|z<|nx<|cd (b:=cD ss at_ er 114) J J (fun b2=>?_)<|fun b2=>?_
  ·
   refine rg<|ai J i0<|k ?_
   have H3:HI M w w2 ([J1]++([J0]++r)):=HI.aP (l:=[J0,J1]) (l':=[J1,J0]) (t:=r) H2 [1,0] au J J
   have fU:=uX (bM:=bM) (ss:=ss) (at_:=at_) (bL:=bL) (er:=er) (ex:=3) (w:=w) (w_:=w2) (r:=([J0]++r)) (M:=M) bt lI eQ nk aR H3
   refine ca MO J (ec J<|ec J e0) fU ?_
   rintro _ w3 ⟨rfl,H4⟩
   let ob:=box bM #[.string ss,I at_,I bL,I (cp er 3)] 66
   refine bw<|k<|al H4 ig ?_
   intro ba w4 fH (H6:HI M w w4 ([box ba #[.bool false,.string ⟨#[]⟩,I 0] 43,ob,J0]++r))
   let pa:=box ba #[.bool false,.string ⟨#[]⟩,I 0] 43
   refine aq<|sq<|az<|ai J i0<|k ?_
   have H7:HI M w w4 ([ob]++([pa,J0]++r)):=HI.aP (l:=[pa,ob,J0]) (l':=[ob,pa,J0]) (t:=r) H6 [1,0,2] au J J
   have fb:=qH (bM:=bM) (ss:=ss) (at_:=at_) (bL:=bL) (er:=(cp er 3)) (ch:=119) (w:=w) (w_:=w4) (r:=([pa,J0]++r)) (M:=M) bt lI eQ (by have h_:=lz (x:=3) nh au;unfold aK;omega) au aj H7
   refine ca F6 J (ec J<|ec J e0) fb ?_
   rintro _ w5 ⟨rfl,H8⟩
   let vG:=box bM #[.string ss,I (eO ss at_ (cp er 3) 119),I bL,I (cp er 3)] 66
   refine aQ oS J J<|k<|bu H8 1 J pe J J J J J J J ?_
   let ug:=box ba #[.bool (cD ss at_ (cp er 3) 119),.string ⟨#[]⟩,I 0] 43
   let bc:=[ug,J0]
   intro w6 (dE:HI M w w6 ((vG::bc)++r))
   refine bw<|aQ oS J J<|bo dE 1 J pe J J J<|k<|j4 J J<|z<|nx<|cd (b:=!(cD ss at_ (cp er 3) 119)) J J (fun b3=>?_)<|fun b3=>?_
   ·
    refine rg<|ai J i0<|k ?_
    have cV:HI M w w6 ([vG]++([ug,J0]++r)):=HI.aP (l:=(vG::bc)) (l':=(vG::bc)) (t:=r) dE [0,1,2] au J J
    have nr:=iw (bM:=bM) (ss:=ss) (at_:=(eO ss at_ (cp er 3) 119)) (bL:=bL) (er:=(cp er 3)) (ch:=114) (w:=w) (w_:=w6) (r:=([ug,J0]++r)) (M:=M) bt (by have h_:=cq (b:=119) (e:=er) eM;have lE:=cq (b:=119) (e:=cp er 3) eM;unfold aK;omega) eQ (by have h_:=lz (x:=3) nh au;unfold aK;omega) au (by have h_:=cq (b:=119) (e:=er) eM;have lE:=cq (b:=119) (e:=cp er 3) eM;omega) (by exact lz (x:=3) nh au) cV
    refine ca pA J (ec J<|ec J e0) nr ?_
    rintro _ w7 ⟨o0,o1,rfl,dm,q0,q1,q2,q3⟩
    let Ca:=box bM #[.string ss,I o0,I bL,I o1] 66
    have cL:HI M w w7 ((Ca::bc)++r):=dm
    refine bw<|ai J i0<|k ?_
    have cH:HI M w w7 ([Ca]++([ug,J0]++r)):=HI.aP (l:=(Ca::bc)) (l':=(Ca::bc)) (t:=r) cL [0,1,2] au J J
    have n5:=iw (bM:=bM) (ss:=ss) (at_:=o0) (bL:=bL) (er:=o1) (ch:=58) (w:=w) (w_:=w7) (r:=([ug,J0]++r)) (M:=M) bt aR eQ aR au aj aj cH
    refine ca pA J (ec J<|ec J e0) n5 ?_
    rintro _ w8 ⟨o2,o3,rfl,dV,q4,q5,q6,q7⟩
    let uf:=box bM #[.string ss,I o2,I bL,I o3] 66
    have dA:HI M w w8 ((uf::bc)++r):=dV
    refine bw<|ai J i0<|k ?_
    have cT:HI M w w8 ([uf]++([ug,J0]++r)):=HI.aP (l:=(uf::bc)) (l':=(uf::bc)) (t:=r) dA [0,1,2] au J J
    have AG:=qI (bM:=bM) (ss:=ss) (at_:=o2) (bL:=bL) (er:=o3) (w:=w) (w_:=w8) (r:=([ug,J0]++r)) (M:=M) bt aR eQ aR aj aj cT
    refine ca F3 J (ec J e0) AG ?_
    rintro _ w9 ⟨o4,o5,o6,rfl,dX,q8,q9,uZ,xn,Ev⟩
    let zi:=box bM #[.string ss,I o4,I bL,I o5] 66
    refine aQ mx J J<|k<|bu dX 1 J nU J J J J J J J ?_
    let vF:=box ba #[.bool (cD ss at_ (cp er 3) 119),.string o6,I 0] 43
    intro dP (cG:HI M w dP ([zi,vF,J0]++r))
    refine bw<|ai J i0<|k ?_
    have d_:HI M w dP ([zi]++([vF,J0]++r)):=HI.aP (l:=[zi,vF,J0]) (l':=[zi,vF,J0]) (t:=r) cG [0,1,2] au J J
    have Dv:=iw (bM:=bM) (ss:=ss) (at_:=o4) (bL:=bL) (er:=o5) (ch:=61) (w:=w) (w_:=dP) (r:=([vF,J0]++r)) (M:=M) bt aR eQ aR au aj aj d_
    refine ca pA J (ec J<|ec J e0) Dv ?_
    rintro _ ey ⟨o7,o8,rfl,dD,uY,OK,CF,CE⟩
    let yh:=box bM #[.string ss,I o7,I bL,I o8] 66
    have eR:HI M w ey ([yh,vF,J0]++r):=dD
    refine bw<|ai J i0<|k ?_
    have eW:HI M w ey ([yh]++([vF,J0]++r)):=HI.aP (l:=[yh,vF,J0]) (l':=[yh,vF,J0]) (t:=r) eR [0,1,2] au J J
    have Uy:=og (bM:=bM) (ss:=ss) (at_:=o7) (bL:=bL) (er:=o8) (w:=w) (w_:=ey) (r:=([vF,J0]++r)) (M:=M) bt aR eQ aR aj aj eW
    refine ca F2 J (ec J e0) Uy ?_
    rintro _ fq ⟨o9,kN,fe,rfl,gW,yt,xm,q19,xl,Eu⟩
    refine aQ pM J J<|k<|bu gW 1 J aU J J J J J J J ?_
    let yg:=box ba #[.bool (cD ss at_ (cp er 3) 119),.string o6,I fe] 43
    intro iQ (jC:HI M w iQ ([box bM #[.string ss,I o9,I bL,I kN] 66,yg,J0]++r))
    refine bw<|ai J i0<|k<|nc J J<|aQ nn J J<|bo jC 0 J aU J J J<|k<|add J J J J aR<|k<|nc J J<|aQ nn J J<|k<|bu jC 0 J aU J J J J J J J ?_
    let E_:=box bM #[.string ss,I o9,I (bL+1),I kN] 66
    intro j1 (nu:HI M w j1 ([E_,yg,J0]++r))
    refine bw<|k<|cB nu 1 J ig J J au J<|k<|bu nu 2 J ig J J J J J J J ?_
    let tL:=box aW #[.bool (cD ss at_ (cp er 3) 119),.string o6,I fe] 43
    intro rm (jm:HI M w rm ([E_,yg,tL]++r))
    refine aq<|rt<|ph jm 2 J ig J J J J au ?_
    have tN:=HI.aP (l:=[E_,yg,tL]) (l':=[E_]) (t:=r) jm [0] au J J
    have e0:(cD ss at_ (cp er 3) 119:Bool)=(cD ss at_ (cp er 3) 119):=rfl
    have e1:(bL+1:Int)=(bL+1):=rfl
    try rw[←e0]
    try rw[←e1]
    refine⟨o9,kN,(cD ss at_ (cp er 3) 119),o6,fe,?_,?_,(by simp only[Af,Jo,Jn,q0,q4,q8,uY,yt,b0,b1,b2,(fX b3),BL]),(by have h_:=cq (b:=119) (e:=er) eM;have lE:=cq (b:=119) (e:=cp er 3) eM;omega),aj,bt,bt,(by have h_:=cq (b:=119) (e:=er) eM;have lE:=cq (b:=119) (e:=cp er 3) eM;omega)⟩
    · first|rfl|simp only[e0,e1]|(simp only[an1])
    · first|exact tN|simpa +zetaDelta only[e0,e1,an1] using tN
   refine sk<|cO<|ai J i0<|k ?_
   have cV:HI M w w6 ([vG]++([ug,J0]++r)):=HI.aP (l:=(vG::bc)) (l':=(vG::bc)) (t:=r) dE [0,1,2] au J J
   have nr:=iw (bM:=bM) (ss:=ss) (at_:=(eO ss at_ (cp er 3) 119)) (bL:=bL) (er:=(cp er 3)) (ch:=58) (w:=w) (w_:=w6) (r:=([ug,J0]++r)) (M:=M) bt (by have h_:=cq (b:=119) (e:=er) eM;have lE:=cq (b:=119) (e:=cp er 3) eM;unfold aK;omega) eQ (by have h_:=lz (x:=3) nh au;unfold aK;omega) au (by have h_:=cq (b:=119) (e:=er) eM;have lE:=cq (b:=119) (e:=cp er 3) eM;omega) (by exact lz (x:=3) nh au) cV
   refine ca pA J (ec J<|ec J e0) nr ?_
   rintro _ w7 ⟨o0,o1,rfl,dm,q0,q1,q2,q3⟩
   let rV:=box bM #[.string ss,I o0,I bL,I o1] 66
   have cL:HI M w w7 ((rV::bc)++r):=dm
   refine bw<|ai J i0<|k ?_
   have cH:HI M w w7 ([rV]++([ug,J0]++r)):=HI.aP (l:=(rV::bc)) (l':=(rV::bc)) (t:=r) cL [0,1,2] au J J
   have n5:=qI (bM:=bM) (ss:=ss) (at_:=o0) (bL:=bL) (er:=o1) (w:=w) (w_:=w7) (r:=([ug,J0]++r)) (M:=M) bt aR eQ aR aj aj cH
   refine ca F3 J (ec J e0) n5 ?_
   rintro _ w8 ⟨o2,o3,o4,rfl,dV,q4,q5,q6,q7,q8⟩
   let vE:=box bM #[.string ss,I o2,I bL,I o3] 66
   refine aQ mx J J<|k<|bu dV 1 J nU J J J J J J J ?_
   let pS:=box ba #[.bool (cD ss at_ (cp er 3) 119),.string o4,I 0] 43
   intro w9 (cT:HI M w w9 ([vE,pS,J0]++r))
   refine bw<|ai J i0<|k ?_
   have dX:HI M w w9 ([vE]++([pS,J0]++r)):=HI.aP (l:=[vE,pS,J0]) (l':=[vE,pS,J0]) (t:=r) cT [0,1,2] au J J
   have AG:=iw (bM:=bM) (ss:=ss) (at_:=o2) (bL:=bL) (er:=o3) (ch:=61) (w:=w) (w_:=w9) (r:=([pS,J0]++r)) (M:=M) bt aR eQ aR au aj aj dX
   refine ca pA J (ec J<|ec J e0) AG ?_
   rintro _ dP ⟨o5,o6,rfl,dI,q9,uZ,xn,Ev⟩
   let DO:=box bM #[.string ss,I o5,I bL,I o6] 66
   have cG:HI M w dP ([DO,pS,J0]++r):=dI
   refine bw<|ai J i0<|k ?_
   have d_:HI M w dP ([DO]++([pS,J0]++r)):=HI.aP (l:=[DO,pS,J0]) (l':=[DO,pS,J0]) (t:=r) cG [0,1,2] au J J
   have Dv:=og (bM:=bM) (ss:=ss) (at_:=o5) (bL:=bL) (er:=o6) (w:=w) (w_:=dP) (r:=([pS,J0]++r)) (M:=M) bt aR eQ aR aj aj d_
   refine ca F2 J (ec J e0) Dv ?_
   rintro _ ey ⟨o7,o8,o9,rfl,dD,uY,OK,CF,CE,yt⟩
   refine aQ pM J J<|k<|bu dD 1 J aU J J J J J J J ?_
   let zh:=box ba #[.bool (cD ss at_ (cp er 3) 119),.string o4,I o9] 43
   intro fq (eW:HI M w fq ([box bM #[.string ss,I o7,I bL,I o8] 66,zh,J0]++r))
   refine bw<|ai J i0<|k<|nc J J<|aQ nn J J<|bo eW 0 J aU J J J<|k<|add J J J J aR<|k<|nc J J<|aQ nn J J<|k<|bu eW 0 J aU J J J J J J J ?_
   let yd:=box bM #[.string ss,I o7,I (bL+1),I o8] 66
   intro iQ (gW:HI M w iQ ([yd,zh,J0]++r))
   refine bw<|k<|cB gW 1 J ig J J au J<|k<|bu gW 2 J ig J J J J J J J ?_
   let DN:=box aW #[.bool (cD ss at_ (cp er 3) 119),.string o4,I o9] 43
   intro j1 (jf:HI M w j1 ([yd,zh,DN]++r))
   refine aq<|rt<|ph jf 2 J ig J J J J au ?_
   have jC:=HI.aP (l:=[yd,zh,DN]) (l':=[yd]) (t:=r) jf [0] au J J
   have e0:(cD ss at_ (cp er 3) 119:Bool)=(cD ss at_ (cp er 3) 119):=rfl
   have e1:(bL+1:Int)=(bL+1):=rfl
   try rw[←e0]
   try rw[←e1]
   refine⟨o7,o8,(cD ss at_ (cp er 3) 119),o4,o9,?_,?_,(by simp only[Af,Jo,Jn,q0,q4,q9,uY,b0,b1,b2,(fw b3),BL]),(by have h_:=cq (b:=119) (e:=er) eM;have lE:=cq (b:=119) (e:=cp er 3) eM;omega),aj,bt,bt,(by have h_:=cq (b:=119) (e:=er) eM;have lE:=cq (b:=119) (e:=cp er 3) eM;omega)⟩
   · first|rfl|simp only[e0,e1]|(simp only[an1])
   · first|exact jC|simpa +zetaDelta only[e0,e1,an1] using jC
  refine sk<|cO<|k<|al H2 ig ?_
  intro ba w3 fH (H3:HI M w w3 ([box ba #[.bool false,.string ⟨#[]⟩,I 0] 43,J0,J1]++r))
  let DM:=box ba #[.bool false,.string ⟨#[]⟩,I 0] 43
  refine aq<|sq<|az<|ai J i0<|k ?_
  have H4:HI M w w3 ([J1]++([DM,J0]++r)):=HI.aP (l:=[DM,J0,J1]) (l':=[J1,DM,J0]) (t:=r) H3 [2,0,1] au J J
  have fU:=qH (bM:=bM) (ss:=ss) (at_:=at_) (bL:=bL) (er:=er) (ch:=119) (w:=w) (w_:=w3) (r:=([DM,J0]++r)) (M:=M) bt lI eQ nk au aj H4
  refine ca F6 J (ec J<|ec J e0) fU ?_
  rintro _ w4 ⟨rfl,H5⟩
  let DL:=box bM #[.string ss,I (eO ss at_ er 119),I bL,I er] 66
  refine aQ oS J J<|k<|bu H5 1 J pe J J J J J J J ?_
  let sX:=box ba #[.bool (cD ss at_ er 119),.string ⟨#[]⟩,I 0] 43
  intro w5 (H7:HI M w w5 ([DL,sX,J0]++r))
  refine bw<|aQ oS J J<|bo H7 1 J pe J J J<|k<|j4 J J<|aq<|oW J J (by rw[show (cD ss at_ er 119)=false from b1]<;>rfl)<|rg<|ai J i0<|k ?_
  have H8:HI M w w5 ([DL]++([sX,J0]++r)):=HI.aP (l:=[DL,sX,J0]) (l':=[DL,sX,J0]) (t:=r) H7 [0,1,2] au J J
  have fb:=iw (bM:=bM) (ss:=ss) (at_:=(eO ss at_ er 119)) (bL:=bL) (er:=er) (ch:=114) (w:=w) (w_:=w5) (r:=([sX,J0]++r)) (M:=M) bt (by have h_:=cq (b:=119) (e:=er) eM;have lE:=cq (b:=119) (e:=cp er 3) eM;unfold aK;omega) eQ nk au (by have h_:=cq (b:=119) (e:=er) eM;have lE:=cq (b:=119) (e:=cp er 3) eM;omega) aj H8
  refine ca pA J (ec J<|ec J e0) fb ?_
  rintro _ w6 ⟨o0,o1,rfl,H9,q0,q1,q2,q3⟩
  let Kk:=box bM #[.string ss,I o0,I bL,I o1] 66
  have dE:HI M w w6 ([Kk,sX,J0]++r):=H9
  refine bw<|ai J i0<|k ?_
  have cV:HI M w w6 ([Kk]++([sX,J0]++r)):=HI.aP (l:=[Kk,sX,J0]) (l':=[Kk,sX,J0]) (t:=r) dE [0,1,2] au J J
  have nr:=iw (bM:=bM) (ss:=ss) (at_:=o0) (bL:=bL) (er:=o1) (ch:=58) (w:=w) (w_:=w6) (r:=([sX,J0]++r)) (M:=M) bt aR eQ aR au aj aj cV
  refine ca pA J (ec J<|ec J e0) nr ?_
  rintro _ w7 ⟨o2,o3,rfl,dm,q4,q5,q6,q7⟩
  let E9:=box bM #[.string ss,I o2,I bL,I o3] 66
  have cL:HI M w w7 ([E9,sX,J0]++r):=dm
  refine bw<|ai J i0<|k ?_
  have cH:HI M w w7 ([E9]++([sX,J0]++r)):=HI.aP (l:=[E9,sX,J0]) (l':=[E9,sX,J0]) (t:=r) cL [0,1,2] au J J
  have n5:=qI (bM:=bM) (ss:=ss) (at_:=o2) (bL:=bL) (er:=o3) (w:=w) (w_:=w7) (r:=([sX,J0]++r)) (M:=M) bt aR eQ aR aj aj cH
  refine ca F3 J (ec J e0) n5 ?_
  rintro _ w8 ⟨o4,o5,o6,rfl,dV,q8,q9,uZ,xn,Ev⟩
  let E8:=box bM #[.string ss,I o4,I bL,I o5] 66
  refine aQ mx J J<|k<|bu dV 1 J nU J J J J J J J ?_
  let AO:=box ba #[.bool (cD ss at_ er 119),.string o6,I 0] 43
  intro w9 (cT:HI M w w9 ([E8,AO,J0]++r))
  refine bw<|ai J i0<|k ?_
  have dX:HI M w w9 ([E8]++([AO,J0]++r)):=HI.aP (l:=[E8,AO,J0]) (l':=[E8,AO,J0]) (t:=r) cT [0,1,2] au J J
  have AG:=iw (bM:=bM) (ss:=ss) (at_:=o4) (bL:=bL) (er:=o5) (ch:=61) (w:=w) (w_:=w9) (r:=([AO,J0]++r)) (M:=M) bt aR eQ aR au aj aj dX
  refine ca pA J (ec J<|ec J e0) AG ?_
  rintro _ dP ⟨o7,o8,rfl,dI,uY,OK,CF,CE⟩
  let HZ:=box bM #[.string ss,I o7,I bL,I o8] 66
  have cG:HI M w dP ([HZ,AO,J0]++r):=dI
  refine bw<|ai J i0<|k ?_
  have d_:HI M w dP ([HZ]++([AO,J0]++r)):=HI.aP (l:=[HZ,AO,J0]) (l':=[HZ,AO,J0]) (t:=r) cG [0,1,2] au J J
  have Dv:=og (bM:=bM) (ss:=ss) (at_:=o7) (bL:=bL) (er:=o8) (w:=w) (w_:=dP) (r:=([AO,J0]++r)) (M:=M) bt aR eQ aR aj aj d_
  refine ca F2 J (ec J e0) Dv ?_
  rintro _ ey ⟨o9,kN,fe,rfl,dD,yt,xm,q19,xl,Eu⟩
  refine aQ pM J J<|k<|bu dD 1 J aU J J J J J J J ?_
  let E7:=box ba #[.bool (cD ss at_ er 119),.string o6,I fe] 43
  intro fq (eW:HI M w fq ([box bM #[.string ss,I o9,I bL,I kN] 66,E7,J0]++r))
  refine bw<|ai J i0<|k<|nc J J<|aQ nn J J<|bo eW 0 J aU J J J<|k<|add J J J J aR<|k<|nc J J<|aQ nn J J<|k<|bu eW 0 J aU J J J J J J J ?_
  let AN:=box bM #[.string ss,I o9,I (bL+1),I kN] 66
  intro iQ (gW:HI M w iQ ([AN,E7,J0]++r))
  refine bw<|k<|cB gW 1 J ig J J au J<|k<|bu gW 2 J ig J J J J J J J ?_
  let zg:=box aW #[.bool (cD ss at_ er 119),.string o6,I fe] 43
  intro j1 (jf:HI M w j1 ([AN,E7,zg]++r))
  refine aq<|rt<|ph jf 2 J ig J J J J au ?_
  have jC:=HI.aP (l:=[AN,E7,zg]) (l':=[AN]) (t:=r) jf [0] au J J
  have e0:(cD ss at_ er 119:Bool)=(cD ss at_ er 119):=rfl
  have e1:(bL+1:Int)=(bL+1):=rfl
  try rw[←e0]
  try rw[←e1]
  refine⟨o9,kN,(cD ss at_ er 119),o6,fe,?_,?_,(by simp only[Af,Jo,Jn,q0,q4,q8,uY,yt,b0,b1,b2,BL]),(by have h_:=cq (b:=119) (e:=er) eM;have lE:=cq (b:=119) (e:=cp er 3) eM;omega),aj,bt,bt,(by have h_:=cq (b:=119) (e:=er) eM;have lE:=cq (b:=119) (e:=cp er 3) eM;omega)⟩
  · first|rfl|simp only[e0,e1]|(simp only[an1])
  · first|exact jC|simpa +zetaDelta only[e0,e1,an1] using jC
 refine aX J J J b0<|aX J J J b0<|aX J J J b0<|k<|gu J J J<|k<|gu J J J<|aX J J J b0<|k<|dG J J J J b0 J<|aq<|pk J J J<|sk<|cO<|k<|al H0 ig ?_
 intro ba w1 df (H1:HI M w w1 ([box ba #[.bool false,.string ⟨#[]⟩,I 0] 43,J0,J1]++r))
 let Kj:=box ba #[.bool false,.string ⟨#[]⟩,I 0] 43
 refine aq<|sq<|az<|ai J i0<|k ?_
 have H2:HI M w w1 ([J1]++([Kj,J0]++r)):=HI.aP (l:=[Kj,J0,J1]) (l':=[J1,Kj,J0]) (t:=r) H1 [2,0,1] au J J
 have bR:=qH (bM:=bM) (ss:=ss) (at_:=at_) (bL:=bL) (er:=er) (ch:=119) (w:=w) (w_:=w1) (r:=([Kj,J0]++r)) (M:=M) bt lI eQ nk au aj H2
 refine ca F6 J (ec J<|ec J e0) bR ?_
 rintro _ w2 ⟨rfl,H3⟩
 let DK:=box bM #[.string ss,I (eO ss at_ er 119),I bL,I er] 66
 refine aQ oS J J<|k<|bu H3 1 J pe J J J J J J J ?_
 let vD:=box ba #[.bool (cD ss at_ er 119),.string ⟨#[]⟩,I 0] 43
 let bX:=[vD,J0]
 intro w3 (H5:HI M w w3 ((DK::bX)++r))
 refine bw<|aQ oS J J<|bo H5 1 J pe J J J<|k<|j4 J J<|z<|nx<|cd (b:=!(cD ss at_ er 119)) J J (fun b1=>?_)<|fun b1=>?_
 ·
  refine rg<|ai J i0<|k ?_
  have H6:HI M w w3 ([DK]++([vD,J0]++r)):=HI.aP (l:=(DK::bX)) (l':=(DK::bX)) (t:=r) H5 [0,1,2] au J J
  have cU:=iw (bM:=bM) (ss:=ss) (at_:=(eO ss at_ er 119)) (bL:=bL) (er:=er) (ch:=114) (w:=w) (w_:=w3) (r:=([vD,J0]++r)) (M:=M) bt (by have h_:=cq (b:=119) (e:=er) eM;have lE:=cq (b:=119) (e:=cp er 3) eM;unfold aK;omega) eQ nk au (by have h_:=cq (b:=119) (e:=er) eM;have lE:=cq (b:=119) (e:=cp er 3) eM;omega) aj H6
  refine ca pA J (ec J<|ec J e0) cU ?_
  rintro _ w4 ⟨o0,o1,rfl,H7,q0,q1,q2,q3⟩
  let NH:=box bM #[.string ss,I o0,I bL,I o1] 66
  have H8:HI M w w4 ((NH::bX)++r):=H7
  refine bw<|ai J i0<|k ?_
  have H9:HI M w w4 ([NH]++([vD,J0]++r)):=HI.aP (l:=(NH::bX)) (l':=(NH::bX)) (t:=r) H8 [0,1,2] au J J
  have fU:=iw (bM:=bM) (ss:=ss) (at_:=o0) (bL:=bL) (er:=o1) (ch:=58) (w:=w) (w_:=w4) (r:=([vD,J0]++r)) (M:=M) bt aR eQ aR au aj aj H9
  refine ca pA J (ec J<|ec J e0) fU ?_
  rintro _ w5 ⟨o2,o3,rfl,dE,q4,q5,q6,q7⟩
  let NG:=box bM #[.string ss,I o2,I bL,I o3] 66
  have cV:HI M w w5 ((NG::bX)++r):=dE
  refine bw<|ai J i0<|k ?_
  have dm:HI M w w5 ([NG]++([vD,J0]++r)):=HI.aP (l:=(NG::bX)) (l':=(NG::bX)) (t:=r) cV [0,1,2] au J J
  have fb:=qI (bM:=bM) (ss:=ss) (at_:=o2) (bL:=bL) (er:=o3) (w:=w) (w_:=w5) (r:=([vD,J0]++r)) (M:=M) bt aR eQ aR aj aj dm
  refine ca F3 J (ec J e0) fb ?_
  rintro _ w6 ⟨o4,o5,o6,rfl,cL,q8,q9,uZ,xn,Ev⟩
  let ND:=box bM #[.string ss,I o4,I bL,I o5] 66
  refine aQ mx J J<|k<|bu cL 1 J nU J J J J J J J ?_
  let yc:=box ba #[.bool (cD ss at_ er 119),.string o6,I 0] 43
  intro w7 (dV:HI M w w7 ([ND,yc,J0]++r))
  refine bw<|ai J i0<|k ?_
  have dA:HI M w w7 ([ND]++([yc,J0]++r)):=HI.aP (l:=[ND,yc,J0]) (l':=[ND,yc,J0]) (t:=r) dV [0,1,2] au J J
  have nr:=iw (bM:=bM) (ss:=ss) (at_:=o4) (bL:=bL) (er:=o5) (ch:=61) (w:=w) (w_:=w7) (r:=([yc,J0]++r)) (M:=M) bt aR eQ aR au aj aj dA
  refine ca pA J (ec J<|ec J e0) nr ?_
  rintro _ w8 ⟨o7,o8,rfl,cT,uY,OK,CF,CE⟩
  let Ki:=box bM #[.string ss,I o7,I bL,I o8] 66
  have dX:HI M w w8 ([Ki,yc,J0]++r):=cT
  refine bw<|ai J i0<|k ?_
  have dI:HI M w w8 ([Ki]++([yc,J0]++r)):=HI.aP (l:=[Ki,yc,J0]) (l':=[Ki,yc,J0]) (t:=r) dX [0,1,2] au J J
  have n5:=og (bM:=bM) (ss:=ss) (at_:=o7) (bL:=bL) (er:=o8) (w:=w) (w_:=w8) (r:=([yc,J0]++r)) (M:=M) bt aR eQ aR aj aj dI
  refine ca F2 J (ec J e0) n5 ?_
  rintro _ w9 ⟨o9,kN,fe,rfl,cG,yt,xm,q19,xl,Eu⟩
  refine aQ pM J J<|k<|bu cG 1 J aU J J J J J J J ?_
  let E6:=box ba #[.bool (cD ss at_ er 119),.string o6,I fe] 43
  intro dP (dD:HI M w dP ([box bM #[.string ss,I o9,I bL,I kN] 66,E6,J0]++r))
  refine bw<|ai J i0<|k<|nc J J<|aQ nn J J<|bo dD 0 J aU J J J<|k<|add J J J J aR<|k<|nc J J<|aQ nn J J<|k<|bu dD 0 J aU J J J J J J J ?_
  let E5:=box bM #[.string ss,I o9,I (bL+1),I kN] 66
  intro ey (eR:HI M w ey ([E5,E6,J0]++r))
  refine bw<|k<|cB eR 1 J ig J J au J<|k<|bu eR 2 J ig J J J J J J J ?_
  let U6:=box aW #[.bool (cD ss at_ er 119),.string o6,I fe] 43
  intro fq (eW:HI M w fq ([E5,E6,U6]++r))
  refine aq<|rt<|ph eW 2 J ig J J J J au ?_
  have gW:=HI.aP (l:=[E5,E6,U6]) (l':=[E5]) (t:=r) eW [0] au J J
  have e0:(cD ss at_ er 119:Bool)=(cD ss at_ er 119):=rfl
  have e1:(bL+1:Int)=(bL+1):=rfl
  try rw[←e0]
  try rw[←e1]
  refine⟨o9,kN,(cD ss at_ er 119),o6,fe,?_,?_,(by simp only[Af,Jo,Jn,q0,q4,q8,uY,yt,b0,(fX b1),BL]),(by have h_:=cq (b:=119) (e:=er) eM;have lE:=cq (b:=119) (e:=cp er 3) eM;omega),aj,bt,bt,(by have h_:=cq (b:=119) (e:=er) eM;have lE:=cq (b:=119) (e:=cp er 3) eM;omega)⟩
  · first|rfl|simp only[e0,e1]|(simp only[an1])
  · first|exact gW|simpa +zetaDelta only[e0,e1,an1] using gW
 refine sk<|cO<|ai J i0<|k ?_
 have H6:HI M w w3 ([DK]++([vD,J0]++r)):=HI.aP (l:=(DK::bX)) (l':=(DK::bX)) (t:=r) H5 [0,1,2] au J J
 have cU:=iw (bM:=bM) (ss:=ss) (at_:=(eO ss at_ er 119)) (bL:=bL) (er:=er) (ch:=58) (w:=w) (w_:=w3) (r:=([vD,J0]++r)) (M:=M) bt (by have h_:=cq (b:=119) (e:=er) eM;have lE:=cq (b:=119) (e:=cp er 3) eM;unfold aK;omega) eQ nk au (by have h_:=cq (b:=119) (e:=er) eM;have lE:=cq (b:=119) (e:=cp er 3) eM;omega) aj H6
 refine ca pA J (ec J<|ec J e0) cU ?_
 rintro _ w4 ⟨o0,o1,rfl,H7,q0,q1,q2,q3⟩
 let HY:=box bM #[.string ss,I o0,I bL,I o1] 66
 have H8:HI M w w4 ((HY::bX)++r):=H7
 refine bw<|ai J i0<|k ?_
 have H9:HI M w w4 ([HY]++([vD,J0]++r)):=HI.aP (l:=(HY::bX)) (l':=(HY::bX)) (t:=r) H8 [0,1,2] au J J
 have fU:=qI (bM:=bM) (ss:=ss) (at_:=o0) (bL:=bL) (er:=o1) (w:=w) (w_:=w4) (r:=([vD,J0]++r)) (M:=M) bt aR eQ aR aj aj H9
 refine ca F3 J (ec J e0) fU ?_
 rintro _ w5 ⟨o2,o3,o4,rfl,dE,q4,q5,q6,q7,q8⟩
 let E4:=box bM #[.string ss,I o2,I bL,I o3] 66
 refine aQ mx J J<|k<|bu dE 1 J nU J J J J J J J ?_
 let AM:=box ba #[.bool (cD ss at_ er 119),.string o4,I 0] 43
 intro w6 (dm:HI M w w6 ([E4,AM,J0]++r))
 refine bw<|ai J i0<|k ?_
 have cL:HI M w w6 ([E4]++([AM,J0]++r)):=HI.aP (l:=[E4,AM,J0]) (l':=[E4,AM,J0]) (t:=r) dm [0,1,2] au J J
 have fb:=iw (bM:=bM) (ss:=ss) (at_:=o2) (bL:=bL) (er:=o3) (ch:=61) (w:=w) (w_:=w6) (r:=([AM,J0]++r)) (M:=M) bt aR eQ aR au aj aj cL
 refine ca pA J (ec J<|ec J e0) fb ?_
 rintro _ w7 ⟨o5,o6,rfl,cH,q9,uZ,xn,Ev⟩
 let Zv:=box bM #[.string ss,I o5,I bL,I o6] 66
 have dV:HI M w w7 ([Zv,AM,J0]++r):=cH
 refine bw<|ai J i0<|k ?_
 have dA:HI M w w7 ([Zv]++([AM,J0]++r)):=HI.aP (l:=[Zv,AM,J0]) (l':=[Zv,AM,J0]) (t:=r) dV [0,1,2] au J J
 have nr:=og (bM:=bM) (ss:=ss) (at_:=o5) (bL:=bL) (er:=o6) (w:=w) (w_:=w7) (r:=([AM,J0]++r)) (M:=M) bt aR eQ aR aj aj dA
 refine ca F2 J (ec J e0) nr ?_
 rintro _ w8 ⟨o7,o8,o9,rfl,cT,uY,OK,CF,CE,yt⟩
 refine aQ pM J J<|k<|bu cT 1 J aU J J J J J J J ?_
 let Zu:=box ba #[.bool (cD ss at_ er 119),.string o4,I o9] 43
 intro w9 (dI:HI M w w9 ([box bM #[.string ss,I o7,I bL,I o8] 66,Zu,J0]++r))
 refine bw<|ai J i0<|k<|nc J J<|aQ nn J J<|bo dI 0 J aU J J J<|k<|add J J J J aR<|k<|nc J J<|aQ nn J J<|k<|bu dI 0 J aU J J J J J J J ?_
 let Zt:=box bM #[.string ss,I o7,I (bL+1),I o8] 66
 intro dP (cG:HI M w dP ([Zt,Zu,J0]++r))
 refine bw<|k<|cB cG 1 J ig J J au J<|k<|bu cG 2 J ig J J J J J J J ?_
 let J68:=box aW #[.bool (cD ss at_ er 119),.string o4,I o9] 43
 intro ey (d_:HI M w ey ([Zt,Zu,J68]++r))
 refine aq<|rt<|ph d_ 2 J ig J J J J au ?_
 have dD:=HI.aP (l:=[Zt,Zu,J68]) (l':=[Zt]) (t:=r) d_ [0] au J J
 have e0:(cD ss at_ er 119:Bool)=(cD ss at_ er 119):=rfl
 have e1:(bL+1:Int)=(bL+1):=rfl
 try rw[←e0]
 try rw[←e1]
 refine⟨o7,o8,(cD ss at_ er 119),o4,o9,?_,?_,(by simp only[Af,Jo,Jn,q0,q4,q9,uY,b0,(fw b1),BL]),(by have h_:=cq (b:=119) (e:=er) eM;have lE:=cq (b:=119) (e:=cp er 3) eM;omega),aj,bt,bt,(by have h_:=cq (b:=119) (e:=er) eM;have lE:=cq (b:=119) (e:=cp er 3) eM;omega)⟩
 · first|rfl|simp only[e0,e1]|(simp only[an1])
 · first|exact dD|simpa +zetaDelta only[e0,e1,an1] using dD
theorem aer:cx aI 46:=cF Tryz.func46
theorem St (zA:ss.size≤maxLen) (lI:aK at_) (eQ:aK bL) (nk:aK er) (eM:0≤at_∧at_≤(ss.size:Int)) (amF:er=0) (aiY:0≤bL∧bL≤at_) (QW:ss.size≤1000000) (H:HI M w w_ ([box bM #[.string ss,I at_,I bL,I er] 66]++r)):Calls aI 22 #[pV bM 0] w_ (cm fun v w'=>∃(kF:Int) (l8:Int) (SX:Int) (ls:List jw) (a0:OA) (c0:Nat),v=sL a0 ls c0∧HI M w w' ([oL w 43 a0 ls c0,box bM #[.string ss,I kF,I SX,I l8] 66]++r)∧yJ ss at_ bL er=(kF,SX,l8,ls)∧(0≤kF∧at_≤kF∧kF≤(ss.size:Int))∧(0≤l8∧l8≤3)∧(0≤SX∧SX≤kF+1)∧(l8=0→at_<kF∧SX≤kF)):=by
 refine enter 19 Tryz.func22 J J J fun f0 ha=>?_
 have i0:f0 0=pV bM 0:=ha 0 bj
 have zw:maxLen=9223372036854775807:=rfl
 have aiP:=cq (b:=10) (e:=er) eM
 refine az<|ak (v:=.slice none 0 0) J J<|aq<|sq<|az<|ai J i0<|k ?_
 let J0:=box bM #[.string ss,I at_,I bL,I er] 66
 have H0:HI M w w_ ([J0]++([]++r)):=HI.aP (l:=[J0]) (l':=[J0]) (t:=r) H [0] au J J
 have bR:=qH (bM:=bM) (ss:=ss) (at_:=at_) (bL:=bL) (er:=er) (ch:=10) (w:=w) (w_:=w_) (r:=([]++r)) (M:=M) bt lI eQ nk au aj H0
 refine ca F6 J (ec J<|ec J e0) bR ?_
 rintro _ w0 ⟨rfl,H1⟩
 let J1:=box bM #[.string ss,I (eO ss at_ er 10),I bL,I er] 66
 have H2:HI M w w0 ([J1]++r):=H1
 refine z<|nx<|cd (b:=cD ss at_ er 10) J J (fun b0=>?_)<|fun b0=>?_
 ·
  refine sq ?_
  have amV:eO ss at_ er 10=at_+1:=by unfold eO;rw[‹cD ss at_ er 10=true›];rfl
  refine rg<|ak (v:=.slice none 0 0) J J<|aq<|rt<|aL<|r1 J J ?_
  have H3:=H2.qf (Bool×bh×Int) 43
  have e0:(eO ss at_ er 10:Int)=(eO ss at_ er 10):=rfl
  try rw[←e0]
  refine⟨(eO ss at_ er 10),er,bL,([]:List (Bool×bh×Int)),none,0,?_,?_,(by simp only[yJ,b0,BL]),aj,aj,aj,aj⟩
  · first|rfl|simp only[e0]|(simp only[an1])
  · first|exact H3|simpa +zetaDelta only[e0,an1] using H3
 refine sk<|cO<|ai J i0<|k ?_
 have H3:HI M w w0 ([J1]++([]++r)):=HI.aP (l:=[J1]) (l':=[J1]) (t:=r) H2 [0] au J J
 have cU:=OJ (bM:=bM) (ss:=ss) (at_:=(eO ss at_ er 10)) (bL:=bL) (er:=er) (w:=w) (w_:=w0) (r:=([]++r)) (M:=M) bt aR eQ nk aj aj aj H3
 refine ca aer J (ec J e0) cU ?_
 rintro _ w1 ⟨o0,o1,o2,o3,o4,rfl,H4,q0,q1,q2,q3,q4,q5⟩
 let J2:=box bM #[.string ss,I o0,I (bL+1),I o1] 66
 have H5:HI M w w1 ([J2]++r):=H4
 refine k<|bs (xs:=([(o2,o3,o4)]:List (Bool×bh×Int))) (cells:=#[.bool o2,.string o3,I o4]) (e:=43) H5 J (ck J ew) (fun _=>aS) ⟨[.bool o2,.string o3,I o4],[],J,⟨_,_,J,J,⟨_,_,J,⟨J,(by dsimp only;omega)⟩,⟨J,(show aK (o4) from bt)⟩⟩⟩,J⟩ J au ?_
 intro g0 w2 bW (H6:HI M w w2 ([own w.heap.size 43 (.slice (some ⟨g0,0,none⟩) 1 1) ([(o2,o3,o4)]:List (Bool×bh×Int)),J2]++r))
 refine ak (v:=.slice (some ⟨g0,0,none⟩) 1 1) J J<|aq<|sq<|bk<|lp (fun m f w'=>∃(CX:Nat) (p_:Int) (n_:Int) (e_:Int) (iA:List jw) (a0:OA) (c0:Nat),m=CX+1∧f 0=pV bM 0∧f 3=sL a0 iA c0∧HI M w w' ([oL w 43 a0 iA c0,box bM #[.string ss,I p_,I n_,I e_] 66]++r)∧(Bc ss (ss.size+1) o0 (bL+1) o1 ([(o2,o3,o4)]:List (Bool×bh×Int))=Bc ss CX p_ n_ e_ iA)∧(0≤p_∧o0≤p_∧p_≤(ss.size:Int)∧(ss.size:Int)-p_<(CX:Int))∧(0≤e_∧e_≤3)∧(0≤n_∧n_≤p_+1∧(e_=0→n_≤p_∧at_<p_))∧((iA.length:Int)=n_-bL)) _ ⟨(ss.size+1),o0,(bL+1),o1,([(o2,o3,o4)]:List (Bool×bh×Int)),(some ⟨g0,0,none⟩),1,J,i0,J,H6,(by rfl),(by push_cast;omega),bt,aj,(by simp only[iS,gA];omega)⟩ ?_
 rintro _ f0 w3 ⟨CX,p_,n_,e_,iA,a0,c0,rfl,s0,s1,H7,hs,JE,he_,C7,ai5⟩
 refine sq<|sq ?_
 have amX:=cq (b:=32) (e:=e_) (s:=ss) (a:=p_) ⟨by omega,by omega⟩
 refine rg<|ai J s0<|k ?_
 let J3:=box bM #[.string ss,I p_,I n_,I e_] 66
 let J4:=oL w 43 a0 iA c0
 have H8:HI M w w3 ([J3]++([J4]++r)):=HI.aP (l:=[J4,J3]) (l':=[J3,J4]) (t:=r) H7 [1,0] au J J
 have fU:=qH (bM:=bM) (ss:=ss) (at_:=p_) (bL:=n_) (er:=e_) (ch:=32) (w:=w) (w_:=w3) (r:=([J4]++r)) (M:=M) bt aR aR aR au aj H8
 refine ca F6 J (ec J<|ec J e0) fU ?_
 rintro _ w4 ⟨rfl,H9⟩
 let J5:=box bM #[.string ss,I (eO ss p_ e_ 32),I n_,I e_] 66
 have dE:HI M w w4 ([J5,J4]++r):=H9
 refine z<|nx<|cd (b:=cD ss p_ e_ 32) J J (fun b1=>?_)<|fun b1=>?_
 ·
  refine sk<|nx<|bk ?_
  obtain⟨am0,amZ, -⟩:=Im ‹cD ss p_ e_ 32=true›
  have amW:eO ss p_ e_ 32=p_+1:=by unfold eO;rw[‹cD ss p_ e_ 32=true›];rfl
  refine rg<|ai J s1<|ai J s0<|k ?_
  have cV:HI M w w4 ([J5]++([J4]++r)):=HI.aP (l:=[J5,J4]) (l':=[J5,J4]) (t:=r) dE [0,1] au J J
  have fb:=OJ (bM:=bM) (ss:=ss) (at_:=(eO ss p_ e_ 32)) (bL:=n_) (er:=e_) (w:=w) (w_:=w4) (r:=([J4]++r)) (M:=M) bt aR aR aR aj aj aj cV
  refine ca aer J (ec J e0) fb ?_
  rintro _ w5 ⟨o5,o6,o7,o8,o9,rfl,dm,q6,q7,q8,q9,uZ,xn⟩
  let J6:=box bM #[.string ss,I o5,I (n_+1),I o6] 66
  have cL:HI M w w5 ([J6,J4]++r):=dm
  refine k<|bs (xs:=([(o7,o8,o9)]:List (Bool×bh×Int))) (cells:=#[.bool o7,.string o8,I o9]) (e:=43) cL J (ck J ew) (fun _=>aS) ⟨[.bool o7,.string o8,I o9],[],J,⟨_,_,J,J,⟨_,_,J,⟨J,(by dsimp only;omega)⟩,⟨J,(show aK (o9) from bt)⟩⟩⟩,J⟩ J au ?_
  intro g1 w6 df (cH:HI M w w6 ([own w.heap.size 43 (.slice (some ⟨g1,0,none⟩) 1 1) ([(o7,o8,o9)]:List (Bool×bh×Int)),J6,J4]++r))
  let J7:=own w.heap.size 43 (.slice (some ⟨g1,0,none⟩) 1 1) ([(o7,o8,o9)]:List (Bool×bh×Int))
  refine k<|lV cH 2 J J J J J J (gX<|cH.at_ 0 J) mY ig J (by simp only[iS,gA];omega) J ?_
  intro a1 c1 w7 (dV:HI M w w7 ([J7,J6,oL w 43 a1 (iA++([(o7,o8,o9)]:List (Bool×bh×Int))) c1]++r))
  let J8:=oL w 43 a1 (iA++([(o7,o8,o9)]:List (Bool×bh×Int))) c1
  refine ak (v:=sL a1 (iA++([(o7,o8,o9)]:List (Bool×bh×Int))) c1) J J<|z<|aF ?_
  have dA:HI M w w7 ([J8,J6]++r):=HI.aP (l:=[J7,J6,J8]) (l':=[J8,J6]) (t:=r) dV [2,1] au J J
  refine bF _ ?_ ⟨(CX-1),o5,(n_+1),o6,(iA++([(o7,o8,o9)]:List (Bool×bh×Int))),a1,c1,J,s0,J,dA,(by exact VW hs aj ‹cD ss p_ e_ 32=true› q6),aj,bt,aj,(by simp only[fJ,iS,gA];omega)⟩
  omega
 refine ex<|aT<|aY<|bf<|nx<|sq ?_
 have Mo:=VV hs ‹cD ss p_ e_ 32=false›
 refine rg<|ai J s0<|k ?_
 have cV:HI M w w4 ([J5]++([J4]++r)):=HI.aP (l:=[J5,J4]) (l':=[J5,J4]) (t:=r) dE [0,1] au J J
 have fb:=iw (bM:=bM) (ss:=ss) (at_:=(eO ss p_ e_ 32)) (bL:=n_) (er:=e_) (ch:=10) (w:=w) (w_:=w4) (r:=([J4]++r)) (M:=M) bt aR aR aR au aj aj cV
 refine ca pA J (ec J<|ec J e0) fb ?_
 rintro _ w5 ⟨o5,o6,rfl,dm,q6,q7,q8,q9⟩
 let J9:=box bM #[.string ss,I o5,I n_,I o6] 66
 have cL:HI M w w5 ([J9,J4]++r):=dm
 refine bw<|ai J s1<|ak (v:=sL a0 iA c0) J J<|aq<|rt<|r1 J J ?_
 have cH:=HI.aP (l:=[J9,J4]) (l':=[J4,J9]) (t:=r) cL [1,0] au J J
 refine⟨o5,o6,n_,iA,a0,c0,?_,?_,(by simp only[yJ,Mo,q0,q6,b0,b1,BL]),aj,bt,aj,aj⟩
 · first|rfl|simp only[an1]
 · first|exact cH|simpa +zetaDelta only[an1] using cH
theorem aj7:cx aI 22:=cF Tryz.func22
theorem Su (hM:eJ M w) (zA:ss.size≤maxLen) (QW:ss.size≤1000000):Calls aI 11 #[.string ss] w (cm fun v w'=>∃(hs_:cR) (kF:Int) (l8:Int) (a0:OA) (c0:Nat),v=.tuple #[sL a0 hs_ c0,I kF,I l8]∧Ext w w'∧cA M w' a0 c0 hs_∧kJ ss=(hs_,kF,l8)∧(0≤kF∧kF≤(ss.size:Int))∧(0≤l8∧l8≤3)):=by
 refine dx 43 Tryz.func11 J J J hM fun f0 ha H=>?_
 have i0:f0 0=.string ss:=ha 0 bj
 have zw:maxLen=9223372036854775807:=rfl
 refine az<|ak (v:=.slice none 0 0) J J<|ak (v:=I 0) J J<|ak (v:=I 0) J J<|bw<|ai J i0<|k<|bd (v:=.agg #[.string ss,I 0,I 0,I 0]) J (ck J ew) (fun _=>aS)<|k<|bx H J J ?_
 intro aW w0 bW (H0:HI M w w0 [box aW #[.string ss,I 0,I 0,I 0] 66])
 refine ak (v:=pV aW 0) J J<|bw<|ak (v:=.slice none 0 0) J J<|aq<|sq<|bk ?_
 have H1:=H0.qf (List<|Bool×bh×Int) 40
 refine lp (fun m f w'=>∃(CX:Nat) (p_:Int) (n_:Int) (e_:Int) (h_:List (List<|Bool×bh×Int)) (a0:OA) (c0:Nat),m=CX+1∧f 0=.string ss∧f 5=pV aW 0∧f 6=sL a0 h_ c0∧HI M w w' [oL w 40 a0 h_ c0,box aW #[.string ss,I p_,I n_,I e_] 66]∧(pH ss (ss.size+1) 0 0 0 []=pH ss CX p_ n_ e_ h_)∧(0≤p_∧p_≤(ss.size:Int))∧(0≤e_∧e_≤3)∧(0≤n_∧(e_=0→n_≤p_∧(ss.size:Int)-p_<(CX:Int)∧(h_.length:Int)≤p_))∧((h_.length:Int)≤p_+1)) _ ⟨(ss.size+1),0,0,0,([]:List (List<|Bool×bh×Int)),none,0,J,i0,J,J,H1,(by rfl),aj,aj,(by simp only[gA];omega),(by simp only[gA];omega)⟩ ?_
 rintro _ f0 w1 ⟨CX,p_,n_,e_,h_,a0,c0,rfl,s0,s1,s2,H2,hs,JE,he_,C7,ai5⟩
 refine sq<|az<|ai J s1<|k<|nc J J<|aQ tD J J<|bo H2 1 J uj J J J<|k<|eql J J J J<|ai (v:=.bool (decide (e_=0))) J J ?_
 rcases bE (decide (e_=0)) with b0|b0
 ·
  have p0:=dT b0
  refine aZ J J J b0<|mv J s1<|aZ J J J b0<|nc J J<|aZ J J J b0<|fa kv J J<|aZ J J J b0<|lx H2 1 J aU J J J<|aZ J J J b0<|mv J s0<|aZ J J J b0<|vZ J J lY<|aZ J J J b0<|lss J J J J<|k<|aP J J J J b0 J<|z<|nx<|cd (b:=decide (p_<(ss.size:Int))) J J (fun b1=>?_)<|fun b1=>?_
  ·
   have p1:=dT b1
   refine sk<|nx<|bk<|rg<|ai J s2<|ai J s1<|k ?_
   have H3:HI M w w1 ([box aW #[.string ss,I p_,I n_,I e_] 66]++[oL w 40 a0 h_ c0]):=H2.bV [1,0] au J
   have bR:=St (bM:=aW) (ss:=ss) (at_:=p_) (bL:=n_) (er:=e_) (w:=w) (w_:=w1) (r:=[oL w 40 a0 h_ c0]) (M:=M) bt aR aR aR aj bt aj (by exact QW) H3
   refine ca aj7 J (ec J e0) bR ?_
   rintro _ w2 ⟨o0,o1,o2,o3,a1,c1,rfl,H4,q0,q1,q2,q3,q4⟩
   let J0:=box aW #[.string ss,I o0,I o2,I o1] 66
   have H5:HI M w w2 [oL w 43 a1 o3 c1,J0,oL w 40 a0 h_ c0]:=H4
   refine k ?_
   have H6:=H5.freeze 0 J
   refine bs (xs:=([o3]:List (List<|Bool×bh×Int))) (cells:=#[sL a1 o3 c1]) (e:=40) H6 J (ck J ew) (fun _=>aS) ⟨[sL a1 o3 c1],[],J,⟨_,J,RV.list.1 (H6.rv 0 J)⟩,J⟩ J au ?_
   intro g0 w3 df H7
   refine k<|lV H7 3 J J J J J J (gX<|H7.at_ 0 J) od rA J (by simp only[iS,gA];omega) J ?_
   intro a2 c2 w4 (H8:HI M w w4 [own w.heap.size 40 (.slice (some ⟨g0,0,none⟩) 1 1) ([o3]:List (List (Bool×bh×Int))),iL a1 o3 c1,J0,oL w 40 a2 (h_++([o3]:List (List (Bool×bh×Int)))) c2])
   refine ak (v:=sL a2 (h_++([o3]:List (List<|Bool×bh×Int))) c2) J J<|z<|aF ?_
   have H9:HI M w w4 [oL w 40 a2 (h_++([o3]:List (List (Bool×bh×Int)))) c2,J0]:=H8.bV [3,2] au J
   refine bF _ ?_ ⟨(CX-1),o0,o2,o1,(h_++([o3]:List (List<|Bool×bh×Int))),a2,c2,J,s0,s1,J,H9,(by exact QL hs aj ‹decide (e_=0)=true› ‹decide (p_<(ss.size:Int))=true› q0),aj,bt,(by simp only[fJ,iS,gA];omega),(by simp only[fJ,iS,gA];omega)⟩
   omega
  refine ex<|aT<|aY<|bf<|nx<|sq<|sq ?_
  have Mo:=G3 hs<|by rw[‹decide (e_=0)=true›,‹decide (p_<(ss.size:Int))=false›];rfl
  refine rg<|ai J s1<|k<|nc J J<|aQ tD J J<|bo H2 1 J uj J J J<|k<|neq J J J J<|aq<|pk J J (by rw[show (decide (e_=0))=true from b0]<;>rfl)<|sk<|cO<|ai J s2<|ak (v:=sL a0 h_ c0) J J<|ak (v:=I 0) J J<|ak (v:=I 0) J J<|aq<|rt<|r3 J J J J ?_
  exact⟨h_,0,0,a0,c0,J,H2.below,(H2.mD 0 J),(by simp only[kJ,Mo,b0,b1,BL]),aj,aj⟩
 refine aX J J J b0<|aX J J J b0<|aX J J J b0<|aX J J J b0<|aX J J J b0<|aX J J J b0<|aX J J J b0<|k<|dG J J J J b0 J<|aq<|pk J J J<|ex<|aT<|aY<|bf<|nx<|sq<|sq ?_
 have Mo:=G3 hs<|by rw[‹decide (e_=0)=false›];rfl
 refine rg<|ai J s1<|k<|nc J J<|aQ tD J J<|bo H2 1 J uj J J J<|k<|neq J J J J<|aq<|oW J J (by rw[show (decide (e_=0))=false from b0]<;>rfl)<|sq<|B9 J aS<|kq (fun _ _=>mv J s1 e1)<|kq (fun _ _=>nc J J e1)<|kq (fun _ _=>fa kv J J e1)<|kq (fun _ x_=>lx (H2.ext x_) 1 J aU J J J e1)<|kq (fun _ _=>mv J s1 e1)<|kq (fun _ _=>nc J J e1)<|kq (fun _ _=>fa tD J J e1)<|kq (fun _ x_=>lx (H2.ext x_) 1 J uj J J J e1)<|kq (fun _ _=>jM (v:=.slice none 0 0) J J e1)<|kq (fun _ _=>jM (v:=I p_) J J e1)<|kq (fun _ _=>jM (v:=I e_) J J e1)<|zq ?_
 intro w2 df
 have H3:=H2.ext df
 refine nx<|rt<|aL<|r3 J J J J ?_
 exact⟨([]:List (List<|Bool×bh×Int)),p_,e_,none,0,J,H3.below,(eo _ _),(by simp only[kJ,Mo,b0,BL]),aj,bt⟩
theorem aka:cx aI 11:=cF Tryz.func11
theorem WQ:cx aI 15:=cF Tryz.func15
theorem HM (hM:eJ M w) (hT:fS 0 w) (zA:ss.size≤maxLen) (pz:aK lv) (QW:ss.size≤1000000) (aiO:(kJ ss).2.2=0→(kJ ss).1.flatten.length≤64):Calls aI 10 #[.string ss,I lv] w (cm fun v w'=>∃(lc_:Int) (nc_:Int) (Sv:List (List bp)) (U0:aA) (Sw:List aA) (jc:List cN) (fw_:Int) (nw_:Int) (a0:OA) (c0:Nat) (a1:OA) (c1:Nat) (a2:OA) (c2:Nat) (a3:OA) (c3:Nat),v=.agg #[I (uU ss lv),I (zW ss lv),I ((ta ss lv).1),I ((ta ss lv).2),I (zV ss lv),.bool (rn ss lv),I lc_,I nc_,sL a0 Sv c0,sL a1 U0 c1,sL a2 Sw c2,I ((kH ss lv).1),I ((kH ss lv).2.1),I ((kH ss lv).2.2.1),I ((kH ss lv).2.2.2.1),I ((kH ss lv).2.2.2.2),sL a3 jc c3,I fw_,I nw_]∧Ext w w'∧cA M w' a0 c0 Sv∧cA M w' a1 c1 U0∧cA M w' a2 c2 Sw∧cA M w' a3 c3 jc):=by
 refine dx 26 Tryz.func10 J J J hM fun f0 ha H=>?_
 have i0:f0 0=.string ss:=ha 0 bj
 have i1:f0 1=I lv:=ha 1 bj
 refine az<|k<|al H lN ?_
 intro aW w0 bW (H0:HI M w w0 [box aW #[I 0,I 0,I 0,I 0,I 0,.bool false,I 0,I 0,.slice none 0 0,.slice none 0 0,.slice none 0 0,I 0,I 0,I 0,I 0,I 0,.slice none 0 0,I 0,I 0] 35])
 refine aq<|sq<|az<|ai J i1<|k ?_
 have bR:=EV (lv:=lv) (w:=w0) pz
 refine ca aet J (ec J e0) bR ?_
 rintro _ w1 ⟨rfl,df⟩
 have H1:=H0.ext df
 refine k<|j4 J J<|z<|nx<|cd (b:=!(decide (0<(((dS lv).length:Nat):Int)))) J J (fun b0=>?_)<|fun b0=>?_
 ·
  have p0:=dF<|fX b0
  refine sq ?_
  obtain⟨qR,Mz,nL,tA,rH,gQ⟩:=afB (s:=ss) (show sG lv=false from fX ‹(!decide (0<(((dS lv).length:Nat):Int)))=true›)
  refine rg<|k<|bd (v:=.agg #[I 1,I 0,I 0,I 0,I 0,.bool false,I 0,I 0,.slice none 0 0,.slice none 0 0,.slice none 0 0,I 0,I 0,I 0,I 0,I 0,.slice none 0 0,I 0,I 0]) J (ck J ew) (fun _=>aS)<|k<|bu H1 0 J lN J J J J J J J ?_
  intro w2 (H2:HI M w w2 [box aW #[I 1,I 0,I 0,I 0,I 0,.bool false,I 0,I 0,.slice none 0 0,.slice none 0 0,.slice none 0 0,I 0,I 0,I 0,I 0,I 0,.slice none 0 0,I 0,I 0] 35])
  refine aq<|rt<|aL<|ph H2 0 J lN J J J J au ?_
  have e0:(1:Int)=uU ss lv:=by exact qR.symm
  have e1:(0:Int)=zW ss lv:=by exact Mz.symm
  have e2:(0:Int)=(ta ss lv).1:=by rw[nL]
  have e3:(0:Int)=(ta ss lv).2:=by rw[nL]
  have e4:(0:Int)=zV ss lv:=by exact tA.symm
  have e5:(false:Bool)=rn ss lv:=by exact rH.symm
  have rU:(0:Int)=(kH ss lv).1:=by rw[gQ]
  have sQ:(0:Int)=(kH ss lv).2.1:=by rw[gQ]
  have rT:(0:Int)=(kH ss lv).2.2.1:=by rw[gQ]
  have tH:(0:Int)=(kH ss lv).2.2.2.1:=by rw[gQ]
  have tG:(0:Int)=(kH ss lv).2.2.2.2:=by rw[gQ]
  have bq:=Xe (fun (b9:Int) (dO:Int) (gF:Int) (lL:Int) (wU:Int) (wT:Bool) (sc:Int) (r9:Int) (r8:Int) (r7:Int) (r6:Int)=>(.agg #[I b9,I dO,I gF,I lL,I wU,.bool wT,I 0,I 0,.slice none ([]:List (List bp)).length 0,.slice none ([]:aA).length 0,.slice none ([]:List aA).length 0,I sc,I r9,I r8,I r7,I r6,.slice none ([]:List cN).length 0,I 0,I 0]:Value)) e0 e1 e2 e3 e4 e5 rU sQ rT tH tG
  exact⟨0,0,([]:List (List bp)),([]:aA),([]:List aA),([]:List cN),0,0,none,0,none,0,none,0,none,0,bq,H2.below,(eo _ _),(eo _ _),(eo _ _),(eo _ _)⟩
 have p0:=dT<|fw b0
 refine sk<|cO<|ai J i0<|k ?_
 have cU:=Su (ss:=ss) H1.mb bt<|by exact QW
 refine ca aka J (ec J e0) cU ?_
 rintro _ w2 ⟨o0,o1,o2,a0,c0,rfl,eS,cu,q0,q1,q2⟩
 have H2:=H1.ext eS
 have H3:=dR H2 cu
 refine ai (v:=.tuple #[sL a0 o0 c0,I o1,I o2]) J J<|k<|xt J J J<|k<|xt J J J<|k<|xt J J J<|ak (v:=sL a0 o0 c0) J J<|ak (v:=I o1) J J<|ak (v:=I o2) J J<|aq<|sq<|az<|ai (v:=I o2) J J<|k<|neq J J J J<|z<|nx<|cd (b:=!decide (o2=0)) J J (fun b1=>?_)<|fun b1=>?_
 ·
  have p1:=dF<|fX b1
  refine sq ?_
  obtain⟨qR,Mz,nL,tA,rH,gQ⟩:=abw (show sG lv=true from fw ‹(!decide (0<(((dS lv).length:Nat):Int)))=false›) q0 (dF (fX bt))
  refine rg<|ai (v:=I o2) J J<|ai (v:=I o1) J J<|k<|bd (v:=.agg #[I o2,I o1,I 0,I 0,I 0,.bool false,I 0,I 0,.slice none 0 0,.slice none 0 0,.slice none 0 0,I 0,I 0,I 0,I 0,I 0,.slice none 0 0,I 0,I 0]) J (ck J<|ck J ew) (fun _=>aS)<|k<|bu H3 1 J lN J J J J J J J ?_
  intro w3 (H4:HI M w w3 [iL a0 o0 c0,box aW #[I o2,I o1,I 0,I 0,I 0,.bool false,I 0,I 0,.slice none 0 0,.slice none 0 0,.slice none 0 0,I 0,I 0,I 0,I 0,I 0,.slice none 0 0,I 0,I 0] 35])
  refine aq<|rt<|aL<|ph H4 1 J lN J J J J au ?_
  have e0:(o2:Int)=uU ss lv:=by exact qR.symm
  have e1:(o1:Int)=zW ss lv:=by exact Mz.symm
  have e2:(0:Int)=(ta ss lv).1:=by rw[nL]
  have e3:(0:Int)=(ta ss lv).2:=by rw[nL]
  have e4:(0:Int)=zV ss lv:=by exact tA.symm
  have e5:(false:Bool)=rn ss lv:=by exact rH.symm
  have rU:(0:Int)=(kH ss lv).1:=by rw[gQ]
  have sQ:(0:Int)=(kH ss lv).2.1:=by rw[gQ]
  have rT:(0:Int)=(kH ss lv).2.2.1:=by rw[gQ]
  have tH:(0:Int)=(kH ss lv).2.2.2.1:=by rw[gQ]
  have tG:(0:Int)=(kH ss lv).2.2.2.2:=by rw[gQ]
  have bq:=Xe (fun (b9:Int) (dO:Int) (gF:Int) (lL:Int) (wU:Int) (wT:Bool) (sc:Int) (r9:Int) (r8:Int) (r7:Int) (r6:Int)=>(.agg #[I b9,I dO,I gF,I lL,I wU,.bool wT,I 0,I 0,.slice none ([]:List (List bp)).length 0,.slice none ([]:aA).length 0,.slice none ([]:List aA).length 0,I sc,I r9,I r8,I r7,I r6,.slice none ([]:List cN).length 0,I 0,I 0]:Value)) e0 e1 e2 e3 e4 e5 rU sQ rT tH tG
  exact⟨0,0,([]:List (List bp)),([]:aA),([]:List aA),([]:List cN),0,0,none,0,none,0,none,0,none,0,bq,H4.below,(eo _ _),(eo _ _),(eo _ _),(eo _ _)⟩
 have p1:=dT<|fw b1
 refine sk<|nx<|sq ?_
 have nh:=dT<|fw ‹(!decide (o2=0))=false›
 obtain⟨qR,Mz,nL,tA,rH,gQ⟩:=Qb (show sG lv=true from fw ‹(!decide (0<(((dS lv).length:Nat):Int)))=false›) q0 nh
 have ano:(o0.flatten).length≤64:=by have h_:=aiO;rw[q0] at h_;exact h_ nh
 refine rg<|ai (v:=sL a0 o0 c0) J J<|ai J i1<|k ?_
 have fU:=vT (h:=o0) (lv:=lv) H3.mb (hT.ext H3.below) (H3.rv 0 J) pz aj aj
 refine ca WQ J (ec J<|ec J e0) fU ?_
 rintro _ w3 ⟨o3,o4,o5,o6,o7,o8,o9,kN,a1,c1,a2,c2,a3,c3,a4,c4,rfl,fH,ee,eb,fh,jd⟩
 have H4:=H3.ext fH
 have H5:=dR H4 ee
 have H6:=dR H5 eb
 have H7:=dR H6 fh
 have H8:=dR H7 jd
 refine k<|bu H8 5 J lN J J J J J J J ?_
 intro w4 (H9:HI M w w4 [iL a4 o8 c4,iL a3 o7 c3,iL a2 o6 c2,iL a1 o5 c1,iL a0 o0 c0,box aW #[I (nY o0 lv),I 0,I ((nB o0 lv).1),I ((nB o0 lv).2),I (tV o0 lv),.bool (rp o0 lv),I o3,I o4,sL a1 o5 c1,sL a2 o6 c2,sL a3 o7 c3,I ((hG o0 lv).1),I ((hG o0 lv).2.1),I ((hG o0 lv).2.2.1),I ((hG o0 lv).2.2.2.1),I ((hG o0 lv).2.2.2.2),sL a4 o8 c4,I o9,I kN] 35])
 refine aq<|rt<|ph H9 5 J lN J J J J au ?_
 have e0:(nY o0 lv:Int)=uU ss lv:=by exact qR.symm
 have e1:(0:Int)=zW ss lv:=by exact Mz.symm
 have e2:((nB o0 lv).1:Int)=(ta ss lv).1:=by rw[nL]
 have e3:((nB o0 lv).2:Int)=(ta ss lv).2:=by rw[nL]
 have e4:(tV o0 lv:Int)=zV ss lv:=by exact tA.symm
 have e5:(rp o0 lv:Bool)=rn ss lv:=by exact rH.symm
 have rU:((hG o0 lv).1:Int)=(kH ss lv).1:=by rw[gQ]
 have sQ:((hG o0 lv).2.1:Int)=(kH ss lv).2.1:=by rw[gQ]
 have rT:((hG o0 lv).2.2.1:Int)=(kH ss lv).2.2.1:=by rw[gQ]
 have tH:((hG o0 lv).2.2.2.1:Int)=(kH ss lv).2.2.2.1:=by rw[gQ]
 have tG:((hG o0 lv).2.2.2.2:Int)=(kH ss lv).2.2.2.2:=by rw[gQ]
 have bq:=Xe (fun (b9:Int) (dO:Int) (gF:Int) (lL:Int) (wU:Int) (wT:Bool) (sc:Int) (r9:Int) (r8:Int) (r7:Int) (r6:Int)=>(.agg #[I b9,I dO,I gF,I lL,I wU,.bool wT,I o3,I o4,.slice a1 o5.length c1,.slice a2 o6.length c2,.slice a3 o7.length c3,I sc,I r9,I r8,I r7,I r6,.slice a4 o8.length c4,I o9,I kN]:Value)) e0 e1 e2 e3 e4 e5 rU sQ rT tH tG
 exact⟨o3,o4,o5,o6,o7,o8,o9,kN,a1,c1,a2,c2,a3,c3,a4,c4,bq,H9.below,(H9.fl 3 J),(H9.fl 2 J),(H9.fl 1 J),(H9.fl 0 J)⟩
theorem aev:cx aI 10:=cF Tryz.func10
theorem Hx:gR aI 35 0 0:=jT Tryz.underlying35
theorem Hw:gR aI 35 5 5:=jT Tryz.underlying35
theorem MV:gR aI 35 7 11:=jT Tryz.underlying35
theorem aj9:cx aI 19:=cF Tryz.func19
theorem aj':cx aI 13:=cF Tryz.func13
theorem Cl (hT:fS 0 w):Calls aI 9 #[] w (cm fun v w'=>v=.bool true∧Ext w w'):=by
 refine dx 31 Tryz.func9 J J J qk fun f0 ha H=>?_
 refine az<|ak (v:=.bool false) J J<|bw<|ak (v:=.string ⟨#[119,58,120,61,49,32,114,58,120,61,50,10,119,58,120,61,50,32,114,58,120,61,49,10]⟩) J J<|bw<|ai (v:=.string ⟨#[119,58,120,61,49,32,114,58,120,61,50,10,119,58,120,61,50,32,114,58,120,61,49,10]⟩) J J<|k ?_
 have bR:=HM (ss:=⟨#[119,58,120,61,49,32,114,58,120,61,50,10,119,58,120,61,50,32,114,58,120,61,49,10]⟩) (lv:=3) (w:=w) H.mb (hT.ext H.below) au aR au<|by exact UP
 refine ca aev J (ec J<|ec J e0) bR ?_
 rintro _ w0 ⟨o0,o1,o2,o3,o4,o5,o6,o7,a0,c0,a1,c1,a2,c2,a3,c3,rfl,bW,cu,ee,eb,fh⟩
 have H0:=H.ext bW
 have H1:=dR H0 cu
 have H2:=dR H1 ee
 have H3:=dR H2 eb
 have H4:=dR H3 fh
 refine ai (v:=.string ⟨#[119,58,120,61,49,32,114,58,120,61,50,10,119,58,120,61,50,32,114,58,120,61,49,10]⟩) J J<|k ?_
 have cU:=HM (ss:=⟨#[119,58,120,61,49,32,114,58,120,61,50,10,119,58,120,61,50,32,114,58,120,61,49,10]⟩) (lv:=2) H4.mb (hT.ext H4.below) au aR au<|by exact UP
 refine ca aev J (ec J<|ec J e0) cU ?_
 rintro _ w1 ⟨o8,o9,kN,fe,j3,yC,GR,Jr,a4,c4,a5,c5,a6,c6,a7,c7,rfl,df,jd,jX,iU,kW⟩
 have H5:=H4.ext df
 have H6:=dR H5 jd
 have H7:=dR H6 jX
 have H8:=dR H7 iU
 have H9:=dR H8 kW
 refine k<|al H9 lN ?_
 let bc:=[iL a7 yC c7,iL a6 j3 c6,iL a5 fe c5,iL a4 kN c4,iL a3 o5 c3,iL a2 o4 c2,iL a1 o3 c1,iL a0 o2 c0]
 intro aW w2 eS (dE:HI (fun _=>False) w w2 (box aW #[I 0,I 0,I 0,I 0,I 0,.bool false,I 0,I 0,.slice none 0 0,.slice none 0 0,.slice none 0 0,I 0,I 0,I 0,I 0,I 0,.slice none 0 0,I 0,I 0] 35::bc))
 refine k<|al dE lN ?_
 intro ba w3 fH (cV:HI (fun _=>False) w w3 (box ba #[I 0,I 0,I 0,I 0,I 0,.bool false,I 0,I 0,.slice none 0 0,.slice none 0 0,.slice none 0 0,I 0,I 0,I 0,I 0,I 0,.slice none 0 0,I 0,I 0] 35::box aW #[I 0,I 0,I 0,I 0,I 0,.bool false,I 0,I 0,.slice none 0 0,.slice none 0 0,.slice none 0 0,I 0,I 0,I 0,I 0,I 0,.slice none 0 0,I 0,I 0] 35::bc))
 refine k<|bu cV 1 J lN J J J J J J J ?_
 let J0:=box aW #[I (uU ⟨#[119,58,120,61,49,32,114,58,120,61,50,10,119,58,120,61,50,32,114,58,120,61,49,10]⟩ 3),I (zW ⟨#[119,58,120,61,49,32,114,58,120,61,50,10,119,58,120,61,50,32,114,58,120,61,49,10]⟩ 3),I ((ta ⟨#[119,58,120,61,49,32,114,58,120,61,50,10,119,58,120,61,50,32,114,58,120,61,49,10]⟩ 3).1),I ((ta ⟨#[119,58,120,61,49,32,114,58,120,61,50,10,119,58,120,61,50,32,114,58,120,61,49,10]⟩ 3).2),I (zV ⟨#[119,58,120,61,49,32,114,58,120,61,50,10,119,58,120,61,50,32,114,58,120,61,49,10]⟩ 3),.bool (rn ⟨#[119,58,120,61,49,32,114,58,120,61,50,10,119,58,120,61,50,32,114,58,120,61,49,10]⟩ 3),I o0,I o1,sL a0 o2 c0,sL a1 o3 c1,sL a2 o4 c2,I ((kH ⟨#[119,58,120,61,49,32,114,58,120,61,50,10,119,58,120,61,50,32,114,58,120,61,49,10]⟩ 3).1),I ((kH ⟨#[119,58,120,61,49,32,114,58,120,61,50,10,119,58,120,61,50,32,114,58,120,61,49,10]⟩ 3).2.1),I ((kH ⟨#[119,58,120,61,49,32,114,58,120,61,50,10,119,58,120,61,50,32,114,58,120,61,49,10]⟩ 3).2.2.1),I ((kH ⟨#[119,58,120,61,49,32,114,58,120,61,50,10,119,58,120,61,50,32,114,58,120,61,49,10]⟩ 3).2.2.2.1),I ((kH ⟨#[119,58,120,61,49,32,114,58,120,61,50,10,119,58,120,61,50,32,114,58,120,61,49,10]⟩ 3).2.2.2.2),sL a3 o5 c3,I o6,I o7] 35
 intro w4 (dm:HI (fun _=>False) w w4 (box ba #[I 0,I 0,I 0,I 0,I 0,.bool false,I 0,I 0,.slice none 0 0,.slice none 0 0,.slice none 0 0,I 0,I 0,I 0,I 0,I 0,.slice none 0 0,I 0,I 0] 35::J0::bc))
 refine k<|bu dm 0 J lN J J J J J J J ?_
 intro w5 (cL:HI (fun _=>False) w w5 (box ba #[I (uU ⟨#[119,58,120,61,49,32,114,58,120,61,50,10,119,58,120,61,50,32,114,58,120,61,49,10]⟩ 2),I (zW ⟨#[119,58,120,61,49,32,114,58,120,61,50,10,119,58,120,61,50,32,114,58,120,61,49,10]⟩ 2),I ((ta ⟨#[119,58,120,61,49,32,114,58,120,61,50,10,119,58,120,61,50,32,114,58,120,61,49,10]⟩ 2).1),I ((ta ⟨#[119,58,120,61,49,32,114,58,120,61,50,10,119,58,120,61,50,32,114,58,120,61,49,10]⟩ 2).2),I (zV ⟨#[119,58,120,61,49,32,114,58,120,61,50,10,119,58,120,61,50,32,114,58,120,61,49,10]⟩ 2),.bool (rn ⟨#[119,58,120,61,49,32,114,58,120,61,50,10,119,58,120,61,50,32,114,58,120,61,49,10]⟩ 2),I o8,I o9,sL a4 kN c4,sL a5 fe c5,sL a6 j3 c6,I ((kH ⟨#[119,58,120,61,49,32,114,58,120,61,50,10,119,58,120,61,50,32,114,58,120,61,49,10]⟩ 2).1),I ((kH ⟨#[119,58,120,61,49,32,114,58,120,61,50,10,119,58,120,61,50,32,114,58,120,61,49,10]⟩ 2).2.1),I ((kH ⟨#[119,58,120,61,49,32,114,58,120,61,50,10,119,58,120,61,50,32,114,58,120,61,49,10]⟩ 2).2.2.1),I ((kH ⟨#[119,58,120,61,49,32,114,58,120,61,50,10,119,58,120,61,50,32,114,58,120,61,49,10]⟩ 2).2.2.2.1),I ((kH ⟨#[119,58,120,61,49,32,114,58,120,61,50,10,119,58,120,61,50,32,114,58,120,61,49,10]⟩ 2).2.2.2.2),sL a7 yC c7,I GR,I Jr] 35::J0::bc))
 refine bw<|aQ Hx J J<|bo cL 1 J uj J J J<|k<|eql J J J J<|ai (v:=.bool (decide ((uU ⟨#[119,58,120,61,49,32,114,58,120,61,50,10,119,58,120,61,50,32,114,58,120,61,49,10]⟩ 3)=0))) J J<|aZ J J J (an6 Gl.1)<|fa Hw J J<|aZ J J J (an6 Gl.1)<|lx cL 1 J pe J J J<|k<|aP J J J J (an6 Gl.1) J<|ai (v:=.bool (rn ⟨#[119,58,120,61,49,32,114,58,120,61,50,10,119,58,120,61,50,32,114,58,120,61,49,10]⟩ 3)) J J<|aZ J J J Gl.2<|fa Hx J J<|aZ J J J Gl.2<|lx cL 0 J uj J J J<|aZ J J J Gl.2<|eql J J J J<|k<|aP J J J J Gl.2 J<|ai (v:=.bool (decide ((uU ⟨#[119,58,120,61,49,32,114,58,120,61,50,10,119,58,120,61,50,32,114,58,120,61,49,10]⟩ 2)=0))) J J<|aZ J J J (an6 zJ.1)<|fa Hw J J<|aZ J J J (an6 zJ.1)<|lx cL 0 J pe J J J<|aZ J J J (an6 zJ.1)<|j4 J J<|k<|aP J J J J (an6 zJ.1) J<|ai (v:=.bool (!(rn ⟨#[119,58,120,61,49,32,114,58,120,61,50,10,119,58,120,61,50,32,114,58,120,61,49,10]⟩ 2))) J J<|aZ J J J (by rw[show (rn ⟨#[119,58,120,61,49,32,114,58,120,61,50,10,119,58,120,61,50,32,114,58,120,61,49,10]⟩ 2)=false from zJ.2.1]<;>rfl)<|fa MV J J<|aZ J J J (by rw[show (rn ⟨#[119,58,120,61,49,32,114,58,120,61,50,10,119,58,120,61,50,32,114,58,120,61,49,10]⟩ 2)=false from zJ.2.1]<;>rfl)<|fa xS J J<|aZ J J J (by rw[show (rn ⟨#[119,58,120,61,49,32,114,58,120,61,50,10,119,58,120,61,50,32,114,58,120,61,49,10]⟩ 2)=false from zJ.2.1]<;>rfl)<|lx cL 0 J aU J J J<|aZ J J J (by rw[show (rn ⟨#[119,58,120,61,49,32,114,58,120,61,50,10,119,58,120,61,50,32,114,58,120,61,49,10]⟩ 2)=false from zJ.2.1]<;>rfl)<|eql J J J J<|k<|aP J J J J (by rw[show (rn ⟨#[119,58,120,61,49,32,114,58,120,61,50,10,119,58,120,61,50,32,114,58,120,61,49,10]⟩ 2)=false from zJ.2.1]<;>rfl) J<|ak (v:=.bool (decide (((kH ⟨#[119,58,120,61,49,32,114,58,120,61,50,10,119,58,120,61,50,32,114,58,120,61,49,10]⟩ 2).1)=5))) J J<|aq<|rt<|r1 J J ?_
 exact⟨an0 Value.bool (by exact(an6 zJ.2.2)),cL.below⟩
theorem R1 {k0:Int} (hM:eJ M w) (l6:cA M w gb ga h) (af':aK k0) (mF:h.flatten.length≤1048576) (am6:k0≤64):Calls aI 14 #[sL gb h ga,I k0] w (cm fun v w'=>∃(a0:OA) (c0:Nat) (a1:OA) (c1:Nat) (a2:OA) (c2:Nat),v=.tuple #[.agg #[.slice a0 (EL h k0).length c0,.slice a1 (B5 h k0).length c1,.slice a2 (B6 h k0).length c2],.bool (iJ h k0&&fe h)]∧Ext w w'∧RV M w' (.slice a0 (EL h k0).length c0) (EL h k0)∧RV M w' (.slice a1 (B5 h k0).length c1) (B5 h k0)∧RV M w' (.slice a2 (B6 h k0).length c2) (B6 h k0)):=by
 refine dx 15 Tryz.func14 J J J hM fun f0 ha H=>?_
 have H0:=dR H l6
 have i0:f0 0=sL gb h ga:=ha 0 bj
 have i1:f0 1=I k0:=ha 1 bj
 refine az<|k<|al H0 dQ ?_
 intro aW w0 bW (H1:HI M w w0 [box aW #[.slice none 0 0,.slice none 0 0,.slice none 0 0] 47,iL gb h ga])
 refine ak (v:=.bool false) J J<|aq<|sq<|az<|ai J i0<|ai J i1<|k ?_
 have bR:=NW (h:=h) (m:=k0) H1.mb (H1.rv 1 J) af'<|by exact mF
 refine ca aj9 J (ec J<|ec J e0) bR ?_
 rintro _ w1 ⟨rfl,df⟩
 have H2:=H1.ext df
 refine k<|j4 J J<|z<|nx<|cd (b:=!(iJ h k0)) J J (fun b0=>?_)<|fun b0=>?_
 ·
  refine sq ?_
  have zu:=fX ‹(!iJ h k0)=true›
  refine rg<|k<|bd (v:=.agg #[.slice none 0 0,.slice none 0 0,.slice none 0 0]) J ew (fun _=>aS)<|k<|bu H2 0 J dQ J J J J J J J ?_
  intro w2 (H3:HI M w w2 [box aW #[.slice none 0 0,.slice none 0 0,.slice none 0 0] 47,iL gb h ga])
  refine ak (v:=.bool false) J J<|aq<|rt<|aL<|iy H3 0 J dQ J J J J J au ?_
  have e0:([]:List bh)=EL h k0:=by unfold EL;rw[zu];rfl
  have e1:([]:List aN)=B5 h k0:=by unfold B5;rw[zu];rfl
  have e2:([]:aA)=B6 h k0:=by unfold B6;rw[zu];rfl
  have e3:(false:Bool)=(iJ h k0&&fe h):=by rw[zu];rfl
  have bq:=Ur (fun (b9:List bh) (dO:List aN) (gF:aA) (lL:Bool)=>(.tuple #[.agg #[.slice none b9.length 0,.slice none dO.length 0,.slice none gF.length 0],.bool lL]:Value)) e0 e1 e2 e3
  exact⟨none,0,none,0,none,0,bq,H3.below,(an0 (fun (x_:List bh)=>RV _ _ (.slice none x_.length 0) x_) e0).mp (eo _ _),(an0 (fun (x_:List aN)=>RV _ _ (.slice none x_.length 0) x_) e1).mp (eo _ _),(an0 (fun (x_:aA)=>RV _ _ (.slice none x_.length 0) x_) e2).mp (eo _ _)⟩
 refine sk<|nx<|sq ?_
 have zu:=fw ‹(!iJ h k0)=false›
 have Mx:=(Jb.1 zu).2.1
 refine rg<|ai J i0<|k ?_
 have cU:=VB (h:=h) H2.mb (H2.rv 1 J) aj
 refine ca aj' J (ec J e0) cU ?_
 rintro _ w2 ⟨a0,c0,a1,c1,a2,c2,rfl,eS,cu,ee,eb⟩
 have H3:=H2.ext eS
 have H4:=dR H3 cu
 have H5:=dR H4 ee
 have H6:=dR H5 eb
 refine k<|xt J J J<|k<|xt J J J<|k<|bu H6 3 J dQ J J J J J J J ?_
 intro w3 (H7:HI M w w3 [iL a2 (lQ h) c2,iL a1 (lP h) c1,iL a0 (tl h) c0,box aW #[sL a0 (tl h) c0,sL a1 (lP h) c1,sL a2 (lQ h) c2] 47,iL gb h ga])
 refine ak (v:=.bool (fe h)) J J<|aq<|rt<|iy H7 3 J dQ J J J J J au ?_
 have e0:(tl h:List bh)=EL h k0:=by unfold EL;rw[zu];rfl
 have e1:(lP h:List aN)=B5 h k0:=by unfold B5;rw[zu];rfl
 have e2:(lQ h:aA)=B6 h k0:=by unfold B6;rw[zu];rfl
 have e3:(fe h:Bool)=(iJ h k0&&fe h):=by rw[zu];rfl
 have bq:=Ur (fun (b9:List bh) (dO:List aN) (gF:aA) (lL:Bool)=>(.tuple #[.agg #[.slice a0 b9.length c0,.slice a1 dO.length c1,.slice a2 gF.length c2],.bool lL]:Value)) e0 e1 e2 e3
 exact⟨a0,c0,a1,c1,a2,c2,bq,H7.below,(an0 (fun (x_:List bh)=>RV _ _ (.slice a0 x_.length c0) x_) e0).mp (H7.fl 2 J),(an0 (fun (x_:List aN)=>RV _ _ (.slice a1 x_.length c1) x_) e1).mp (H7.fl 1 J),(an0 (fun (x_:aA)=>RV _ _ (.slice a2 x_.length c2) x_) e2).mp (H7.fl 0 J)⟩
theorem aj_:cx aI 14:=cF Tryz.func14
theorem go9:cx aI 9:=cF Tryz.func9
theorem un4:aI.underlying 4=some (.bool):=aS
theorem G5 {kQ:Int} {xc:Int} (hM:eJ M w) (hT:fS 0 w) (l6:cA M w gb ga h) (YL:0≤kQ∧kQ≤255) (YK:0≤xc∧xc≤255) (mF:h.flatten.length≤1048576) (ang:h.length≤1048576):Calls aI 5 #[sL gb h ga,.int .u8 kQ,.int .u8 xc] w (cm fun v w'=>v=.bool true∧Ext w w'):=by
 refine dx 136 Tryz.func5 J J J hM fun f0 ha H=>?_
 let J0:=iL gb h ga
 have H0:=H.put (it:=J0) J<|by rw[bP];exact l6
 have Iw:=bg l6
 have i0:f0 0=sL gb h ga:=ha 0 bj
 have i1:f0 1=.int .u8 kQ:=ha 1 bj
 have i2:f0 2=.int .u8 xc:=ha 2 bj
 refine az<|ak (v:=.bool false) J J<|bw<|ai J i0<|k ?_
 have bR:=R1 (h:=h) (k0:=12) H0.mb (H0.rv 0 J) aR (by exact mF) au
 refine ca aj_ J (ec J<|ec J e0) bR ?_
 rintro _ w0 ⟨a0,c0,a1,c1,a2,c2,rfl,bW,cu,ee,eb⟩
 have H1:=H0.ext bW
 let J1:=iL a0 (EL h 12) c0
 have H2:=H1.put (it:=J1) J cu
 let J2:=iL a1 (B5 h 12) c1
 have H3:=H2.put (it:=J2) J<|by rw[aH J];exact ee
 let J3:=iL a2 (B6 h 12) c2
 have H4:=H3.put (it:=J3) J<|by rw[aH rfl,aH rfl];exact eb
 refine ai (v:=.tuple #[.agg #[sL a0 (EL h 12) c0,sL a1 (B5 h 12) c1,sL a2 (B6 h 12) c2],.bool (iJ h 12&&fe h)]) J J<|k<|xt J J J<|k<|xt J J J<|k<|al H4 dQ ?_
 let bc:=[J3,J2,J1,J0]
 intro aW w1 df (H5:HI M w w1 (box aW #[.slice none 0 0,.slice none 0 0,.slice none 0 0] 47::bc))
 refine k<|bu H5 0 J dQ J J J J J J J ?_
 let J4:=box aW #[sL a0 (EL h 12) c0,sL a1 (B5 h 12) c1,sL a2 (B6 h 12) c2] 47
 let bX:=J4::bc
 intro w2 (H6:HI M w w2 bX)
 refine ak (v:=.bool (iJ h 12&&fe h)) J J<|aq<|sq<|az<|ai (v:=.bool (iJ h 12&&fe h)) J J<|k<|j4 J J<|ai (v:=.bool (!(iJ h 12&&fe h))) J J ?_
 rcases bE (!(iJ h 12&&fe h)) with b0|b0
 ·
  refine aX J J J b0<|aX J J J b0<|aX J J J b0<|k<|aP J J J J b0 J<|aq<|oW J J J<|az<|k ?_
  have cU:=Cl (w:=w2)<|hT.ext H6.below
  refine ca go9 J e0 cU ?_
  rintro _ w3 ⟨rfl,eS⟩
  have H7:=H6.ext eS
  refine ak (v:=.bool true) J J<|aq<|rt<|aL<|r1 J J ?_
  exact⟨J,H7.below⟩
 refine aZ J J J b0<|mv J i0<|aZ J J J b0<|dL J J od<|aZ J J J b0<|eql J J J J<|k<|dG J J J J b0 J<|z<|nx<|cd (b:=decide ((h.length:Int)=0)) J J (fun b1=>?_)<|fun b1=>?_
 ·
  refine az<|k ?_
  have cU:=Cl (w:=w2)<|hT.ext H6.below
  refine ca go9 J e0 cU ?_
  rintro _ w3 ⟨rfl,eS⟩
  have H7:=H6.ext eS
  refine ak (v:=.bool true) J J<|aq<|rt<|aL<|r1 J J ?_
  exact⟨J,H7.below⟩
 have p1:=dF b1
 refine sk<|nx<|sq ?_
 obtain⟨Py,Px,He,Mx⟩:=agN (fw ‹(!(iJ h 12&&fe h))=false›)
 have ai2:=aqy xc (b:=(h.length:Int)) aj
 have am8:=Int.emod_lt_of_pos xc (b:=(h.length:Int)) aj
 refine rg<|ai J i1<|k<|rem J J J J aj<|k<|Zc J J aR Ei zU<|k<|add J J J J aR<|ak (v:=I (1+(kQ%3))) J J<|bw<|ai J i2<|k<|Zc J J aR Ei zU<|ai J i0<|k<|dL J J od<|k<|rem J J J J aj<|ak (v:=I (xc%(h.length:Int))) J J<|bw<|ak (v:=.slice none 0 0) J J<|aq<|sq<|az<|ak (v:=I 0) J J<|aq<|bk ?_
 have H7:=H6.qf (List<|Bool×bh×Int) 40
 refine lp (fun m f w'=>∃(j_:Nat) (nZ:List (List<|Bool×bh×Int)) (a3:OA) (c3:Nat),m=h.length-j_∧f 0=sL gb h ga∧f 9=I (1+(kQ%3))∧f 10=I (xc%(h.length:Int))∧f 11=sL a3 nZ c3∧f 12=I (j_:Int)∧HI M w w' (oL w 40 a3 nZ c3::bX)∧(j_≤h.length)∧(nZ=kI h (xc%(h.length:Int)).toNat j_)) _ ⟨0,([]:List (List<|Bool×bh×Int)),none,0,J,i0,J,J,J,(bH J),H7,aj,(by rfl)⟩ ?_
 rintro _ f0 w3 ⟨j_,nZ,a3,c3,rfl,s0,s1,s2,s3,s4,H8,pj,hg_⟩
 refine sq<|az<|ai J s4<|ai J s0<|k<|dL J J od<|k<|lss J J J J<|z<|nx<|cd (b:=decide ((j_:Int)<(h.length:Int))) J J (fun b2=>?_)<|fun b2=>?_
 ·
  have p2:=dT b2
  refine sk<|nx<|sq<|bk<|sq ?_
  have adB:=aqy ((j_:Int)+(xc%(h.length:Int))) (b:=(h.length:Int)) aj
  have adA:=Int.emod_lt_of_pos ((j_:Int)+(xc%(h.length:Int))) (b:=(h.length:Int)) aj
  refine rg<|ai J s0<|ai J s4<|ai J s2<|k<|add J J J J aR<|ai J s0<|k<|dL J J od<|k<|rem J J J J aj<|k<|ia (H8.rv 5 J) J J J J aj od rA ?_
  intro iG x0 aM cw
  refine k<|va cw.w rA J J ?_
  intro a4 c4 fh
  have Al:=bg fh
  let J5:=iL a4 x0 c4
  have H9:=H8.put (it:=J5) J fh
  refine ak (v:=sL a4 x0 c4) J J<|aq<|sq ?_
  have acX:=(List.sublist_flatten_of_mem<|dz aM).length_le
  refine rg<|ak (v:=.slice none 0 0) J J<|aq<|sq<|az<|ak (v:=I 0) J J<|aq<|bk ?_
  have dE:=H9.qf (Bool×bh×Int) 43
  let J6:=oL w 40 a3 nZ c3
  let dM:=J5::J6::bX
  refine lp (fun m f w'=>∃(k_:Nat) (rK:List (Bool×bh×Int)) (a5:OA) (c5:Nat),m=x0.length-k_∧f 0=sL gb h ga∧f 9=I (1+(kQ%3))∧f 10=I (xc%(h.length:Int))∧f 11=sL a3 nZ c3∧f 12=I (j_:Int)∧f 13=sL a4 x0 c4∧f 14=sL a5 rK c5∧f 15=I (k_:Int)∧HI M w w' (oL w 43 a5 rK c5::dM)∧(k_≤x0.length)∧(rK=(x0.take k_).map uO)) _ ⟨0,([]:List (Bool×bh×Int)),none,0,J,s0,s1,s2,s3,s4,J,J,(bH J),dE,aj,(by rfl)⟩ ?_
  rintro _ f1 w4 ⟨k_,rK,a5,c5,rfl,s5,s6,s7,s8,s9,ej,eX,fA,cV,tx,Ww⟩
  refine sq<|az<|ai J fA<|ai J ej<|k<|dL J J mY<|k<|lss J J J J<|z<|nx<|cd (b:=decide ((k_:Int)<(x0.length:Int))) J J (fun b3=>?_)<|fun b3=>?_
  ·
   have p3:=dT b3
   refine sk<|nx<|sq<|bk<|sq ?_
   have zw:rK.length=k_:=by rw[Ww,aoo,ic];omega
   refine rg<|ai J ej<|ai J fA<|k<|ia (cV.rv 1 J) J J J J aj mY ig ?_
   intro ry x1 cQ gN
   refine aQ mx J J<|k<|Yd ((gN).s1).fst.w nU J J ?_
   intro jd
   refine k<|agR cV J J lY Cg Ei ?_
   let iO:=oL w 43 a5 rK c5::dM
   intro g0 c6 w5 eS (dm:HI M w w5 (EZ 5 g0 (gU x1.2.1)::iO))
   refine ak (v:=.slice (some ⟨g0,0,none⟩) ((gU x1.2.1).length) c6) J J<|aq<|sq<|sq ?_
   have IC:gT x1.2.1=true:=GU He aM cQ
   have ajf:=V5 IC
   refine rg<|ak (v:=I 0) J J<|aq<|bk<|lp (fun m f w'=>∃(c_:Nat) (jq:List (BitVec 8)),m=(gU x1.2.1).length-c_∧f 0=sL gb h ga∧f 9=I (1+(kQ%3))∧f 10=I (xc%(h.length:Int))∧f 11=sL a3 nZ c3∧f 12=I (j_:Int)∧f 13=sL a4 x0 c4∧f 14=sL a5 rK c5∧f 15=I (k_:Int)∧f 16=.slice (some ⟨g0,0,none⟩) ((gU x1.2.1).length) c6∧f 17=I (c_:Int)∧HI M w w' (EZ 5 g0 jq::iO)∧(c_≤(gU x1.2.1).length)∧(jq=vK c_ (gU x1.2.1))) _ ⟨0,(gU x1.2.1),J,s5,s6,s7,s8,s9,ej,eX,fA,J,(bH J),dm,aj,(by rfl)⟩ ?_
   rintro _ f2 w6 ⟨c_,jq,rfl,fD,gi,gS,kb,kK,lC,l3,lZ,mZ,pf,cL,hc_,tu⟩
   refine sq<|az<|ai J pf<|ai J mZ<|k<|dL J J Cg<|k<|lss J J J J<|z<|nx<|cd (b:=decide ((c_:Int)<((gU x1.2.1).length:Int))) J J (fun b4=>?_)<|fun b4=>?_
   ·
    have p4:=dT b4
    refine sk<|nx<|sq<|bk<|rg<|ai J mZ<|ai J pf<|ai J mZ<|ai J pf<|k<|iaY (cL.at_ 0 J) J J J J (by have h_:=qF c_ (gU x1.2.1);rw[←tu] at h_;omega) (by rw[tu,qF]) Cg I6 ?_
    intro x2 gZ kf
    refine k<|ld8 kf I6 J J<|k<|abD J J J J (by have h_:=AI IC tu gZ;omega)<|k<|Zl J J J J (by have h_:=AI IC tu gZ;omega)<|k<|rem J J J J (by have h_:=AI IC tu gZ;omega)<|k<|Zl J J J J (by have h_:=AI IC tu gZ;omega)<|k<|iaY (cL.at_ 0 J) J J J J (by have h_:=qF c_ (gU x1.2.1);rw[←tu] at h_;omega) (by rw[tu,qF]) Cg I6 ?_
    intro x3 qm sO
    refine k<|stY cL 0 J (by have h_:=qF c_ (gU x1.2.1);rw[←tu] at h_;omega) I6 J J J J (by have h_:=AI IC tu gZ;omega) ?_
    intro w7 (cH:HI M w w7 (EZ 5 g0 (jq.set ((c_:Int).toNat) (BitVec.ofInt 8 (97+((((x2.toNat:Int)-97)+13)%26))))::iO))
    refine z<|aF<|nx<|rg<|ai J pf<|k<|add J J J J aR<|ak (v:=I ((c_:Int)+1)) J J<|z<|bF _ ?_ ⟨(c_+1),(jq.set ((c_:Int).toNat) (BitVec.ofInt 8<|97+((((x2.toNat:Int)-97)+13)%26))),J,fD,gi,gS,kb,kK,lC,l3,lZ,mZ,(bH J),cH,aj,(by exact Sm tu gZ)⟩
    omega
   have p4:=dF b4
   refine ex<|aT<|aY<|bf<|nx ?_
   obtain⟨x2,gZ⟩:∃x,x0[(k_:Int).toNat]? =some x:=⟨_,dW aj⟩
   refine dr 15 [eV (sL a5 rK c5),eV (sL a4 x0 c4),eV (I (k_:Int)),fun v w'=>∃(ma:Addr),v=.pointer (some ma)∧At cL.fg w' ma x2,fun v w'=>∃(ma:Addr),v=.pointer (some<|(ma).add 0)∧At cL.fg w' ma x2,eV (.bool x2.1),eV (.slice (some ⟨g0,0,none⟩) ((gU x1.2.1).length) c6),eV (.string (kB jq)),eV (sL a4 x0 c4),eV (I (k_:Int)),fun v w'=>∃(po:Addr),v=.pointer (some po)∧At cL.fg w' po x2,fun v w'=>∃(po:Addr),v=.pointer (some<|(po).add 2)∧At cL.fg w' po x2,fun v w'=>v=I x2.2.2∧aK (x2.2.2),fun v w'=>v=.agg #[.bool x2.1,.string (kB jq),I x2.2.2]∧aK (x2.2.2),fun v w'=>∃(a6:OA) (c7:Nat),v=sL a6 ([(x2.1,kB jq,x2.2.2)]:List (Bool×bh×Int)) c7∧RV cL.fg w' (sL a6 ([(x2.1,kB jq,x2.2.2)]:List (Bool×bh×Int)) c7) ([(x2.1,kB jq,x2.2.2)]:List (Bool×bh×Int))] J aS ?_ ?_
   ·
    refine dc (fun _ _ My _ _=>mv J ((My 14 J).trans l3)<|d0 J J)<|dc (fun _ _ hf1 _ _=>mv J ((hf1 13 J).trans lC)<|d0 J J)<|dc (fun _ _ Hi _ _=>mv J ((Hi 15 J).trans lZ)<|d0 J J) ?_
    refine⟨fun _=>⟨fun f6 ey hf3 lX vf=>?_,by rintro _ _ _ x_ ⟨ma,e_,kf⟩;exact⟨ma,e_,kf.lift (Up.ext x_)⟩⟩,?_⟩
    ·
     have dI:=cL.ext lX
     have ym:f6 87=sL a4 x0 c4:=vf 1 J J
     have zX:f6 88=I (k_:Int):=vf 2 J J
     refine ia (dI.rv 2 J) J J ym zX aj mY ig ?_
     intro tJ x4 xD wc
     obtain rfl:x2=x4:=an5 (gZ.symm.trans xD)
     exact⟨_,J,Ext.refl _,⟨tJ,J,wc⟩⟩
    refine⟨fun _=>⟨fun f7 fq hf4 nS BV=>?_,by rintro _ _ _ x_ ⟨ma,e_,kf⟩;exact⟨ma,e_,kf.lift (Up.ext x_)⟩⟩,?_⟩
    ·
     obtain⟨Zp,Cs,MI⟩:∃(Zp:Addr),f7 89=.pointer (some Zp)∧At cL.fg fq Zp x2:=BV 3 rfl rfl
     refine fa oS J Cs ?_
     exact⟨_,J,Ext.refl _,⟨Zp,J,bt⟩⟩
    refine dc (fun f8 iQ Tz zP JH=>?_) ?_
    ·
     have dD:=cL.ext zP
     obtain⟨Zo,yl,MH⟩:∃(Zo:Addr),f8 90=.pointer (some ((Zo).add 0))∧At cL.fg iQ Zo x2:=JH 4 rfl rfl
     have eR:=dD.put (it:=pR Zo x2) J MH
     refine ldB ((eR.UQ 0 J)).fst.w pe J yl ?_
     exact⟨_,J,Ext.refl _,J⟩
    refine dc (fun _ _ Ty _ _=>mv J ((Ty 16 J).trans mZ)<|d0 J J)<|dc (fun _ _ _ Fc EG=>akc ((cL.ext Fc).at_ 0 rfl) J (EG 6 J J) (by rw[tu,qF]) Cg Ei lY<|d0 J J)<|dc (fun _ _ Tx _ _=>mv J ((Tx 13 J).trans lC)<|d0 J J)<|dc (fun _ _ YD _ _=>mv J ((YD 15 J).trans lZ)<|d0 J J) ?_
    refine⟨fun _=>⟨fun f13 tP zy P5 sm=>?_,by rintro _ _ _ x_ ⟨po,e_,sO⟩;exact⟨po,e_,sO.lift (Up.ext x_)⟩⟩,?_⟩
    ·
     have nu:=cL.ext P5
     have Ly:f13 94=sL a4 x0 c4:=sm 8 J J
     have OG:f13 95=I (k_:Int):=sm 9 J J
     refine ia (nu.rv 2 J) J J Ly OG aj mY ig ?_
     intro ad7 x5 Ml YU
     obtain rfl:x2=x5:=an5 (gZ.symm.trans Ml)
     exact⟨_,J,Ext.refl _,⟨ad7,J,YU⟩⟩
    refine⟨fun _=>⟨fun f14 vV adI K3 IA=>?_,by rintro _ _ _ x_ ⟨po,e_,sO⟩;exact⟨po,e_,sO.lift (Up.ext x_)⟩⟩,?_⟩
    ·
     obtain⟨Zn,s30,hA8⟩:∃(Zn:Addr),f14 96=.pointer (some Zn)∧At cL.fg vV Zn x2:=IA 10 rfl rfl
     refine fa pM J s30 ?_
     exact⟨_,J,Ext.refl _,⟨Zn,J,bt⟩⟩
    refine dc (fun f15 wY xH K1 FU=>?_) ?_
    ·
     have ln:=cL.ext K1
     obtain⟨Zm,s31,hA9⟩:∃(Zm:Addr),f15 97=.pointer (some ((Zm).add 2))∧At cL.fg wY Zm x2:=FU 11 rfl rfl
     have pq:=ln.put (it:=pR Zm x2) J hA9
     refine mP ((pq.UQ 0 J)).s2.w aU J s31 ?_
     intro kW
     exact⟨_,J,Ext.refl _,⟨J,kW⟩⟩
    refine dc (fun f16 I5 ajc air Mp=>?_) ?_
    ·
     have s32:f16 91=.bool x2.1:=Mp 5 J J
     have s33:f16 93=.string (kB jq):=Mp 7 J J
     obtain⟨s34,nV⟩:f16 98=I x2.2.2∧aK (x2.2.2):=Mp 12 rfl rfl
     refine bd (v:=.agg #[.bool x2.1,.string (kB jq),I x2.2.2]) J (ck s32<|ck s33<|ck s34 ew) (fun _=>aS) ?_
     exact⟨_,J,Ext.refl _,⟨J,nV⟩⟩
    refine⟨fun _=>⟨fun f17 Eh ajb Vd Ws=>?_,by rintro _ _ _ x_ ⟨a6,c7,e_,iU⟩;exact⟨a6,c7,e_,iU.lift (Up.ext x_)⟩⟩,?_⟩
    ·
     have ra:=cL.ext Vd
     obtain⟨s35,pg⟩:f17 99=.agg #[.bool x2.1,.string (kB jq),I x2.2.2]∧aK (x2.2.2):=Ws 13 rfl rfl
     refine bs (xs:=([(x2.1,kB jq,x2.2.2)]:List (Bool×bh×Int))) (cells:=#[.bool x2.1,.string (kB jq),I x2.2.2]) (e:=43) ra J (ck s35 ew) (fun _=>aS) ⟨[.bool x2.1,.string (kB jq),I x2.2.2],[],J,⟨_,_,J,J,⟨_,_,J,⟨J,(by rw[Ja,tu,qF,ns];assumption)⟩,⟨J,(show aK (x2.2.2) from bt)⟩⟩⟩,J⟩ J au ?_
     intro g2 La Vc (lg:HI M w La (own w.heap.size 43 (.slice (some ⟨g2,0,none⟩) 1 1) ([(x2.1,kB jq,x2.2.2)]:List (Bool×bh×Int))::EZ 5 g0 jq::iO))
     have AP:=lg.freeze 0 J
     exact⟨_,J,Vc,⟨(some ⟨g2,0,none⟩),1,J,(l4 J<|AP.rv 0 J)⟩⟩
    exact lW.rest J _
   ·
    intro f18 RW uD abj FT
    have ki:=cL.ext abj
    have s36:=(uD 0 J).trans fD
    have s37:=(uD 9 J).trans gi
    have s38:=(uD 10 J).trans gS
    have s39:=(uD 11 J).trans kb
    have s40:=(uD 12 J).trans kK
    have s41:=(uD 13 J).trans lC
    have s42:=(uD 15 J).trans lZ
    have s43:=FT 0 J
    obtain⟨a7,c8,s44,qd⟩:∃(a7:OA) (c8:Nat),f18 100=sL a7 ([(x2.1,kB jq,x2.2.2)]:List (Bool×bh×Int)) c8∧RV cL.fg RW (sL a7 ([(x2.1,kB jq,x2.2.2)]:List (Bool×bh×Int)) c8) ([(x2.1,kB jq,x2.2.2)]:List (Bool×bh×Int)):=FT 14 rfl
    let J7:=iL a7 ([(x2.1,kB jq,x2.2.2)]:List (Bool×bh×Int)) c8
    have uh:=ki.put (it:=J7) J qd
    refine k<|lV uh 2 J J J J s43 s44 (uh.rv 0 J).src mY ig J (by simp;omega) J ?_
    intro a8 c9 Oq (mB:HI M w Oq (J7::EZ 5 g0 jq::oL w 43 a8 (rK++([(x2.1,kB jq,x2.2.2)]:List (Bool×bh×Int))) c9::dM))
    refine ak (v:=sL a8 (rK++([(x2.1,kB jq,x2.2.2)]:List (Bool×bh×Int))) c9) J J<|z<|aF<|nx<|rg<|ai J s42<|k<|add J J J J aR<|ak (v:=I ((k_:Int)+1)) J J<|z ?_
    have wu:HI M w Oq (oL w 43 a8 (rK++([(x2.1,kB jq,x2.2.2)]:List (Bool×bh×Int))) c9::dM):=mB.bV [2,3,4,5,6,7,8,9] au J
    refine bF _ ?_ ⟨(k_+1),(rK++([(x2.1,kB jq,x2.2.2)]:List (Bool×bh×Int))),a8,c9,J,s36,s37,s38,s39,s40,s41,J,(bH J),wu,aj,(by rw[Ww];exact Qc cQ gZ tu aj)⟩
    omega
  have p3:=dF b3
  refine ex<|aT<|aY<|bf<|nx ?_
  have ane:nZ.length=j_:=by rw[hg_,Cj]
  refine rg<|ai J s8<|ai J eX<|k ?_
  have dm:=cV.freeze 0 J
  refine bs (xs:=([rK]:List (List<|Bool×bh×Int))) (cells:=#[sL a5 rK c5]) (e:=40) dm J (ck J ew) (fun _=>aS) ⟨[sL a5 rK c5],[],J,⟨_,J,RV.list.1 (dm.rv 0 J)⟩,J⟩ J au ?_
  intro g0 w5 eS cL
  refine k<|lV cL 3 J J J J J J (gX<|cL.at_ 0 J) od rA J (by simp;omega) J ?_
  intro a6 c6 w6 (cH:HI M w w6 (own w.heap.size 40 (.slice (some ⟨g0,0,none⟩) 1 1) ([rK]:List (List (Bool×bh×Int)))::iL a5 rK c5::J5::oL w 40 a6 (nZ++([rK]:List (List (Bool×bh×Int)))) c6::bX))
  refine ak (v:=sL a6 (nZ++([rK]:List (List<|Bool×bh×Int))) c6) J J<|z<|aF<|nx<|rg<|ai J s9<|k<|add J J J J aR<|ak (v:=I ((j_:Int)+1)) J J<|z ?_
  have dV:HI M w w6 (oL w 40 a6 (nZ++([rK]:List (List (Bool×bh×Int)))) c6::bX):=cH.bV [3,4,5,6,7,8] au J
  refine bF _ ?_ ⟨(j_+1),(nZ++([rK]:List (List<|Bool×bh×Int))),a6,c6,J,s5,s6,s7,J,(bH J),dV,aj,(by rw[hg_];exact Qd ai2 aM Ww aj)⟩
  omega
 have p2:=dF b2
 refine ex<|aT<|aY<|bf<|nx<|sq ?_
 have FX:(1+kQ%3)=1∨(1+kQ%3)=2∨(1+kQ%3)=3:=by omega
 have adD:nZ=kI h (xc%(h.length:Int)).toNat h.length:=by rw[hg_];congr 1;omega
 have anf:nZ.flatten.length=h.flatten.length:=by rw[adD];exact Gx aj
 have rG:=ZO He (n:=(xc%(h.length:Int)).toNat) aj FX
 rw[←adD] at rG
 refine rg<|ai J s0<|ai J s1<|k ?_
 have cU:=vT (h:=h) (lv:=(1+(kQ%3))) H8.mb (hT.ext H8.below) (H8.rv 5 J) aR (by exact mF) aj
 refine ca WQ J (ec J<|ec J e0) cU ?_
 rintro _ w4 ⟨o0,o1,o2,o3,o4,o5,o6,o7,a4,c4,a5,c5,a6,c6,a7,c7,rfl,eS,fh,jd,jX,iU⟩
 have H9:=H8.ext eS
 have dE:=dR H9 fh
 have cV:=dR dE jd
 have dm:=dR cV jX
 have cL:=dR dm iU
 refine ai J s3<|ai J s1<|k ?_
 have cH:=cL.freeze 4 J
 have fU:=vT (h:=nZ) (lv:=(1+(kQ%3))) cH.mb (hT.ext cH.below) (cH.rv 4 J) aR aj aj
 refine ca WQ J (ec J<|ec J e0) fU ?_
 rintro _ w5 ⟨o8,o9,kN,fe,j3,yC,GR,Jr,a8,c8,a9,c9,jv,ju,mU,mT,rfl,fH,kW,nV,pg,qd⟩
 have dV:=cH.ext fH
 have dA:=dR dV kW
 have cT:=dR dA nV
 have dX:=dR cT pg
 have dI:=dR dX qd
 refine k<|al dI lN ?_
 let fj:=iL mU yC mT::iL jv j3 ju::iL a9 fe c9::iL a8 kN c8::iL a7 o5 c7::iL a6 o4 c6::iL a5 o3 c5::iL a4 o2 c4::iL a3 nZ c3::bX
 intro ba w6 jg (cG:HI M w w6 (box ba #[I 0,I 0,I 0,I 0,I 0,.bool false,I 0,I 0,.slice none 0 0,.slice none 0 0,.slice none 0 0,I 0,I 0,I 0,I 0,I 0,.slice none 0 0,I 0,I 0] 35::fj))
 refine k<|al cG lN ?_
 intro bI w7 jr (d_:HI M w w7 (box bI #[I 0,I 0,I 0,I 0,I 0,.bool false,I 0,I 0,.slice none 0 0,.slice none 0 0,.slice none 0 0,I 0,I 0,I 0,I 0,I 0,.slice none 0 0,I 0,I 0] 35::box ba #[I 0,I 0,I 0,I 0,I 0,.bool false,I 0,I 0,.slice none 0 0,.slice none 0 0,.slice none 0 0,I 0,I 0,I 0,I 0,I 0,.slice none 0 0,I 0,I 0] 35::fj))
 refine k<|bu d_ 1 J lN J J J J J J J ?_
 let J8:=box ba #[I (nY h (1+(kQ%3))),I 0,I ((nB h (1+(kQ%3))).1),I ((nB h (1+(kQ%3))).2),I (tV h (1+(kQ%3))),.bool (rp h (1+(kQ%3))),I o0,I o1,sL a4 o2 c4,sL a5 o3 c5,sL a6 o4 c6,I ((hG h (1+(kQ%3))).1),I ((hG h (1+(kQ%3))).2.1),I ((hG h (1+(kQ%3))).2.2.1),I ((hG h (1+(kQ%3))).2.2.2.1),I ((hG h (1+(kQ%3))).2.2.2.2),sL a7 o5 c7,I o6,I o7] 35
 intro w8 (dD:HI M w w8 (box bI #[I 0,I 0,I 0,I 0,I 0,.bool false,I 0,I 0,.slice none 0 0,.slice none 0 0,.slice none 0 0,I 0,I 0,I 0,I 0,I 0,.slice none 0 0,I 0,I 0] 35::J8::fj))
 refine k<|bu dD 0 J lN J J J J J J J ?_
 intro w9 (eR:HI M w w9 (box bI #[I (nY nZ (1+(kQ%3))),I 0,I ((nB nZ (1+(kQ%3))).1),I ((nB nZ (1+(kQ%3))).2),I (tV nZ (1+(kQ%3))),.bool (rp nZ (1+(kQ%3))),I o8,I o9,sL a8 kN c8,sL a9 fe c9,sL jv j3 ju,I ((hG nZ (1+(kQ%3))).1),I ((hG nZ (1+(kQ%3))).2.1),I ((hG nZ (1+(kQ%3))).2.2.1),I ((hG nZ (1+(kQ%3))).2.2.2.1),I ((hG nZ (1+(kQ%3))).2.2.2.2),sL mU yC mT,I GR,I Jr] 35::J8::fj))
 refine bw<|k ?_
 have fb:=Cl (w:=w9)<|hT.ext eR.below
 refine ca go9 J e0 fb ?_
 rintro _ dP ⟨rfl,kr⟩
 have eW:=eR.ext kr
 refine ai (v:=.bool true) J J<|aZ J J J J<|fa Hx J J<|aZ J J J J<|lx eW 1 J uj J J J<|aZ J J J J<|fa Hx J J<|aZ J J J J<|lx eW 0 J uj J J J<|aZ J J J J<|eql J J J J<|k<|aP J J J J J J<|ai (v:=.bool (decide ((nY h<|1+(kQ%3))=(nY nZ<|1+(kQ%3))))) J J<|aZ J J J (an6 rG.1)<|fa Hw J J<|aZ J J J (an6 rG.1)<|lx eW 1 J pe J J J<|aZ J J J (an6 rG.1)<|fa Hw J J<|aZ J J J (an6 rG.1)<|lx eW 0 J pe J J J<|aZ J J J (an6 rG.1)<|eqB J J J J un4<|k<|aP J J J J (an6 rG.1) J<|ai (v:=.bool ((rp h<|1+(kQ%3))==(rp nZ<|1+(kQ%3)))) J J<|aZ J J J (ap'.2 rG.2.1)<|fa MV J J<|aZ J J J (ap'.2 rG.2.1)<|fa xS J J<|aZ J J J (ap'.2 rG.2.1)<|lx eW 1 J aU J J J<|aZ J J J (ap'.2 rG.2.1)<|fa MV J J<|aZ J J J (ap'.2 rG.2.1)<|fa xS J J<|aZ J J J (ap'.2 rG.2.1)<|lx eW 0 J aU J J J<|aZ J J J (ap'.2 rG.2.1)<|eql J J J J<|k<|aP J J J J (ap'.2 rG.2.1) J<|ak (v:=.bool (decide (((hG h<|1+(kQ%3)).1)=((hG nZ<|1+(kQ%3)).1)))) J J<|aq<|rt<|r1 J J ?_
 exact⟨an0 Value.bool (by exact(an6 rG.2.2)),eW.below⟩
end Go.Proofs.YtgjakhpjmapelaaGreatDoor
