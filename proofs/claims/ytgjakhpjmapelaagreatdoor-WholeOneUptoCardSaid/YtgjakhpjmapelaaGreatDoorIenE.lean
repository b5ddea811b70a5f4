/- PRINTED by my own tool (wip/tool/gen.py): contracts of Go functions of this seat, each with its proof. -/
import Derived.Test.YtgjakhpjmapelaaGreatDoorQwnB
import Derived.Test.YtgjakhpjmapelaaGreatDoorQwnD
import Derived.Test.YtgjakhpjmapelaaGreatDoorQwnC
import Derived.Test.YtgjakhpjmapelaaGreatDoorIenD
import Derived.Test.YtgjakhpjmapelaaGreatDoorIenB
import Derived.Test.YtgjakhpjmapelaaGreatDoorQwnA
import Derived.Test.YtgjakhpjmapelaaGreatDoorIenA
import Derived.Test.YtgjakhpjmapelaaGreatDoorIenC
set_option linter.unusedVariables false
set_option linter.unusedSimpArgs false
namespace Go.Proofs.YtgjakhpjmapelaaGreatDoor
open Go.Ew Go.RowKit
set_option maxRecDepth 100000
set_option maxHeartbeats 1600000
attribute [local irreducible] WL WC SO PW PX PZ WE Code.wp wpList sM ck
attribute [local irreducible] ku yA jH fy eo A3 D4 LQ words ej cZ jT fJ wy
attribute [local irreducible] kM vm As tF Ar rM kL fS me mg pz mQ tU pA gW iU
variable {M:cg} {w w_:aJ}
variable {bP gY gb aF aB az dY ax gL:Nat} {LG:TypeId} {ss:aY} {at_ bO er ch lv n1:Int} {r:List Go.Ew.Item} {gZ fX aC aA ay gM:OA} {h:List (List (Bool×aY×Int))} {l U kp:aE} {I:List aO}
theorem t':gV aM 66 3 3:=j1 Tryz.underlying66
theorem xQ:ez aM 23 1 false 8 (.int .i64 0):=⟨aV,aV⟩
theorem kx:gV aM 66 1 1:=j1 Tryz.underlying66
theorem ua:gV aM 66 0 0:=j1 Tryz.underlying66
theorem Xm:cD aM 70:=cE Tryz.func70
theorem Gx:cD aM 45:=cE Tryz.func45
theorem Nq:cD aM 71:=cE Tryz.func71
theorem ahi:cD aM 110:=cE Tryz.func110
theorem ahh:cD aM 111:=cE Tryz.func111
theorem nw:gV aM 66 2 2:=j1 Tryz.underlying66
theorem pP:cD aM 47:=cE Tryz.func47
theorem Gu:cD aM 72:=cE Tryz.func72
theorem Gt:cD aM 73:=cE Tryz.func73
theorem C2 (hM:eC M w) (z8:ss.size≤maxLen) (lO:aK at_) (eW:aK bO) (nu:aK er) (RH:0≤ch∧ch≤255) (h_c:w.heap[bP]? =some (.cells #[.string ss,C at_,C bO,C er] LG (0,0))∧¬M bP) (eS:0≤at_∧at_≤(ss.size:Int)):Calls aM 70 #[.pointer (some ⟨bP,0,none⟩),.int .u8 ch] w (ck fun v w'=>v=.bool (cH ss at_ er ch)∧Ext w w'):=by
 refine dv 35 Tryz.func70 J J J hM fun f0 ha H=>?_
 have H0:=H.put (it:=ro bP #[.string ss,C at_,C bO,C er] LG) J<|by rw[bQ];exact h_c
 have i0:f0 0=pV bP 0:=ha 0 bm
 have i1:f0 1=.int .u8 ch:=ha 1 bm
 have BX:maxLen=9223372036854775807:=rfl
 refine aD<|au (v:=.bool false) J J<|av<|sq<|A2 J aV<|kq (fun _ _=>mv J i0 e1)<|kq (fun _ _=>nc J J e1)<|kq (fun _ _=>fa t' J J e1)<|kq (fun _ x_=>lr (H0.ext x_) 0 J xQ J J J e1)<|kq (fun _ _=>eql J J J J e1)<|kq (fun _ _=>mv (v:=.bool (decide (er=0))) J J e1) ?_
 rcases bE (decide (er=0)) with b0|b0
 ·
  have p0:=dT b0
  refine qy J J J b0<|kq (fun _ _=>mv J i0 e1)<|qy J J J b0<|kq (fun _ _=>nc J J e1)<|qy J J J b0<|kq (fun _ _=>fa kx J J e1)<|qy J J J b0<|kq (fun _ x_=>lr (H0.ext x_) 0 J aT J J J e1)<|qy J J J b0<|kq (fun _ _=>mv J i0 e1)<|qy J J J b0<|kq (fun _ _=>nc J J e1)<|qy J J J b0<|kq (fun _ _=>fa ua J J e1)<|qy J J J b0<|kq (fun _ x_=>lr (H0.ext x_) 0 J oG J J J e1)<|qy J J J b0<|kq (fun _ _=>wQ J J mL e1)<|qy J J J b0<|kq (fun _ _=>lss J J J J e1)<|kq (fun _ _=>aQ J J J J b0 J e1)<|kq (fun _ _=>mv (v:=.bool (decide (at_<(ss.size:Int)))) J J e1) ?_
  rcases bE (decide (at_<(ss.size:Int))) with b1|b1
  ·
   have p1:=dT b1
   refine qy J J J b1<|kq (fun _ _=>mv J i0 e1)<|qy J J J b1<|kq (fun _ _=>nc J J e1)<|qy J J J b1<|kq (fun _ _=>fa ua J J e1)<|qy J J J b1<|kq (fun _ x_=>lr (H0.ext x_) 0 J oG J J J e1)<|qy J J J b1<|kq (fun _ _=>mv J i0 e1)<|qy J J J b1<|kq (fun _ _=>nc J J e1)<|qy J J J b1<|kq (fun _ _=>fa kx J J e1)<|qy J J J b1<|kq (fun _ x_=>lr (H0.ext x_) 0 J aT J J J e1)<|qy J J J b1<|kq (fun _ _=>YP J J J J aq mL e1)<|qy J J J b1<|kq (fun _ _=>mv J i1 e1)<|qy J J J b1<|kq (fun _ _=>eql J J J J e1)<|kq (fun _ _=>aQ J J J J b1 J e1)<|kq (fun _ _=>jV (v:=.bool (decide ((tv ss at_)=ch))) J J e1)<|zq ?_
   intro w0 bY
   have H1:=H0.ext bY
   refine nx<|rt<|r1 J J ?_
   exact⟨apj Value.bool (by simp only[cH,b0,b1,BL]),H1.below⟩
  refine qn J J J b1<|qn J J J b1<|qn J J J b1<|qn J J J b1<|qn J J J b1<|qn J J J b1<|qn J J J b1<|qn J J J b1<|qn J J J b1<|qn J J J b1<|qn J J J b1<|kq (fun _ _=>cU J J J J b1 J e1)<|kq (fun _ _=>jV (v:=.bool false) J J e1)<|zq ?_
  intro w0 bY
  have H1:=H0.ext bY
  refine nx<|rt<|r1 J J ?_
  exact⟨apj Value.bool (by simp only[cH,b0,b1,BL]),H1.below⟩
 refine qn J J J b0<|qn J J J b0<|qn J J J b0<|qn J J J b0<|qn J J J b0<|qn J J J b0<|qn J J J b0<|qn J J J b0<|qn J J J b0<|qn J J J b0<|kq (fun _ _=>cU J J J J b0 J e1)<|kq (fun _ _=>mv (v:=.bool false) J J e1)<|qn J J J J<|qn J J J J<|qn J J J J<|qn J J J J<|qn J J J J<|qn J J J J<|qn J J J J<|qn J J J J<|qn J J J J<|qn J J J J<|qn J J J J<|kq (fun _ _=>cU J J J J J J e1)<|kq (fun _ _=>jV (v:=.bool false) J J e1)<|zq ?_
 intro w0 bY
 have H1:=H0.ext bY
 refine nx<|rt<|r1 J J ?_
 exact⟨apj Value.bool (by simp only[cH,b0,BL]),H1.below⟩
theorem qV (z8:ss.size≤maxLen) (lO:aK at_) (eW:aK bO) (nu:aK er) (RH:0≤ch∧ch≤255) (eS:0≤at_∧at_≤(ss.size:Int)) (H:HI M w w_ ([box bP #[.string ss,C at_,C bO,C er] 66]++r)):Calls aM 45 #[pV bP 0,.int .u8 ch] w_ (ck fun v w'=>v=.bool (cH ss at_ er ch)∧HI M w w' ([box bP #[.string ss,C (eT ss at_ er ch),C bO,C er] 66]++r)):=by
 refine enter 16 Tryz.func45 J J J fun f0 ha=>?_
 have i0:f0 0=pV bP 0:=ha 0 bm
 have i1:f0 1=.int .u8 ch:=ha 1 bm
 have BX:maxLen=9223372036854775807:=rfl
 refine aD<|au (v:=.bool false) J J<|av<|sq<|aD<|ak J i0<|ak J i1<|k ?_
 have bT:=C2 (ss:=ss) (at_:=at_) (bO:=bO) (er:=er) (ch:=ch) (w:=w_) (M:=fun _=>False) (fun _ h_=>h_.elim) bu lO eW nu (by exact RH) ⟨H.at_ 0 rfl,fun h_=>h_⟩<|by exact eS
 refine ca Xm J (ec J<|ec J e0) bT ?_
 rintro _ w0 ⟨rfl,bY⟩
 have H0:=H.ext bY
 refine k<|jr J J<|z<|nx<|cd (b:=!(cH ss at_ er ch)) J J (fun b0=>?_)<|fun b0=>?_
 ·
  refine aD<|au (v:=.bool false) J J<|av<|rt<|aL<|r1 J J ?_
  have e0:(false:Bool)=cH ss at_ er ch:=by simp only[(gf b0),BL]
  have e1:(at_:Int)=eT ss at_ er ch:=by simp only[eT,(gf b0),BL]
  try rw[←e0]
  try rw[←e1]
  refine⟨?_,?_⟩
  · first|rfl|simp only[e0,e1]|(simp only[apk])
  · first|exact H0|simpa +zetaDelta only[e0,e1,apk] using H0
 refine sk<|cQ<|ak J i0<|k<|nc J J<|aU kx J J<|bq H0 0 J aT J J J<|k<|add J J J J (by have h_:=IK (fu ‹(!cH ss at_ er ch)=false›);unfold aK;omega)<|k<|nc J J<|aU kx J J<|k<|bA H0 0 J aT J J J J J J J ?_
 intro w1 (H1:HI M w w1 ([box bP #[.string ss,C (at_+1),C bO,C er] 66]++r))
 refine bz<|au (v:=.bool true) J J<|av<|rt<|r1 J J ?_
 have e0:(true:Bool)=cH ss at_ er ch:=by simp only[(fu b0),BL]
 have e1:(at_+1:Int)=eT ss at_ er ch:=by simp only[eT,(fu b0),BL]
 try rw[←e0]
 try rw[←e1]
 refine⟨?_,?_⟩
 · first|rfl|simp only[e0,e1]|(simp only[apk])
 · first|exact H1|simpa +zetaDelta only[e0,e1,apk] using H1
theorem vu {ex:Int} (z8:ss.size≤maxLen) (lO:aK at_) (eW:aK bO) (nu:aK er) (aow:aK ex) (H:HI M w w_ ([box bP #[.string ss,C at_,C bO,C er] 66]++r)):Calls aM 71 #[pV bP 0,C ex] w_ (ck fun v w'=>v=.tuple #[]∧HI M w w' ([box bP #[.string ss,C at_,C bO,C (cu er ex)] 66]++r)):=by
 refine enter 13 Tryz.func71 J J J fun f0 ha=>?_
 have i0:f0 0=pV bP 0:=ha 0 bm
 have i1:f0 1=C ex:=ha 1 bm
 refine aD<|ak J i0<|k<|nc J J<|aU t' J J<|bq H 0 J xQ J J J<|k<|eql J J J J<|z<|nx<|cd (b:=decide (er=0)) J J (fun b0=>?_)<|fun b0=>?_
 ·
  refine rg<|ak J i0<|ak J i1<|k<|nc J J<|aU t' J J<|k<|bA H 0 J xQ J J J J J J J ?_
  intro w0 (H0:HI M w w0 ([box bP #[.string ss,C at_,C bO,C ex] 66]++r))
  refine z<|EX J ?_
  have e0:(ex:Int)=cu er ex:=by simp only[cu,b0,BL]
  try rw[←e0]
  refine⟨?_,?_⟩
  · first|rfl|simp only[e0]|(simp only[apk])
  · first|exact H0|simpa +zetaDelta only[e0,apk] using H0
 refine sk<|EX J ?_
 have e0:(er:Int)=cu er ex:=by simp only[cu,b0,BL]
 try rw[←e0]
 refine⟨?_,?_⟩
 · first|rfl|simp only[e0]|(simp only[apk])
 · first|exact H|simpa +zetaDelta only[e0,apk] using H
theorem iw (z8:ss.size≤maxLen) (lO:aK at_) (eW:aK bO) (nu:aK er) (RH:0≤ch∧ch≤255) (eS:0≤at_∧at_≤(ss.size:Int)) (ns:0≤er∧er≤3) (H:HI M w w_ ([box bP #[.string ss,C at_,C bO,C er] 66]++r)):Calls aM 47 #[pV bP 0,.int .u8 ch] w_ (ck fun v w'=>∃(kI:Int) (l6:Int),v=.tuple #[]∧HI M w w' ([box bP #[.string ss,C kI,C bO,C l6] 66]++r)∧BF ss at_ er ch=(kI,l6)∧(0≤kI∧at_≤kI∧kI≤(ss.size:Int))∧(0≤l6∧l6≤3)∧(l6=0→er=0∧kI=at_+1)):=by
 refine enter 10 Tryz.func47 J J J fun f0 ha=>?_
 have i0:f0 0=pV bP 0:=ha 0 bm
 have i1:f0 1=.int .u8 ch:=ha 1 bm
 have BX:maxLen=9223372036854775807:=rfl
 have ajz:=cx (b:=ch) (e:=er) eS
 refine aD<|ak J i0<|ak J i1<|k ?_
 let J0:=box bP #[.string ss,C at_,C bO,C er] 66
 have H0:HI M w w_ ([J0]++([]++r)):=HI.aQ (l:=[J0]) (l':=[J0]) (t:=r) H [0] aw J J
 have bT:=qV (bP:=bP) (ss:=ss) (at_:=at_) (bO:=bO) (er:=er) (ch:=ch) (w:=w) (w_:=w_) (r:=([]++r)) (M:=M) bu lO eW nu (by exact RH) (by exact eS) H0
 refine ca Gx J (ec J<|ec J e0) bT ?_
 rintro _ w0 ⟨rfl,H1⟩
 let J1:=box bP #[.string ss,C (eT ss at_ er ch),C bO,C er] 66
 have H2:HI M w w0 ([J1]++r):=H1
 refine k<|jr J J<|z<|nx<|cd (b:=!(cH ss at_ er ch)) J J (fun b0=>?_)<|fun b0=>?_
 ·
  refine rg<|ak J i0<|k ?_
  have H3:HI M w w0 ([J1]++([]++r)):=HI.aQ (l:=[J1]) (l':=[J1]) (t:=r) H2 [0] aw J J
  have df:=vu (bP:=bP) (ss:=ss) (at_:=(eT ss at_ er ch)) (bO:=bO) (er:=er) (ex:=2) (w:=w) (w_:=w0) (r:=([]++r)) (M:=M) bu aS eW nu aS H3
  refine ca Nq J (ec J<|ec J e0) df ?_
  rintro _ w1 ⟨rfl,H4⟩
  have H5:HI M w w1 ([box bP #[.string ss,C (eT ss at_ er ch),C bO,C (cu er 2)] 66]++r):=H4
  refine z<|EX J ?_
  have e0:(eT ss at_ er ch:Int)=(eT ss at_ er ch):=rfl
  have e1:(cu er 2:Int)=(cu er 2):=rfl
  try rw[←e0]
  try rw[←e1]
  refine⟨(eT ss at_ er ch),(cu er 2),?_,?_,(by simp only[BF,eT,(gf b0),BL]),aq,(by exact lF (x:=2) ns aw),(by exact fun h_=>(P7 h_).elim)⟩
  · first|rfl|simp only[e0,e1]|(simp only[apk])
  · first|exact H5|simpa +zetaDelta only[e0,e1,apk] using H5
 refine sk<|EX J ?_
 have e0:(eT ss at_ er ch:Int)=(eT ss at_ er ch):=rfl
 try rw[←e0]
 refine⟨(eT ss at_ er ch),er,?_,?_,(by simp only[BF,eT,(fu b0),BL]),aq,(by exact ns),(by exact WN ‹(!cH ss at_ er ch)=false›)⟩
 · first|rfl|simp only[e0]|(simp only[apk])
 · first|exact H2|simpa +zetaDelta only[e0,apk] using H2
theorem qW (z8:ss.size≤maxLen) (lO:aK at_) (eW:aK bO) (nu:aK er) (eS:0≤at_∧at_≤(ss.size:Int)) (ns:0≤er∧er≤3) (H:HI M w w_ ([box bP #[.string ss,C at_,C bO,C er] 66]++r)):Calls aM 72 #[pV bP 0] w_ (ck fun v w'=>∃(kI:Int) (l6:Int) (nm:aY),v=.string nm∧HI M w w' ([box bP #[.string ss,C kI,C bO,C l6] 66]++r)∧K_ ss at_ er=(kI,l6,nm)∧(0≤kI∧at_≤kI∧kI≤(ss.size:Int))∧(0≤l6∧l6≤3)∧nm.size≤8∧(l6=0→er=0∧at_<kI)):=by
 refine enter 83 Tryz.func72 J J J fun f0 ha=>?_
 have i0:f0 0=pV bP 0:=ha 0 bm
 have BX:maxLen=9223372036854775807:=rfl
 refine aD<|au (v:=.string ⟨#[]⟩) J J<|bz<|ak J i0<|k<|nc J J<|aU kx J J<|bq H 0 J aT J J J<|au (v:=C at_) J J<|z<|nx<|cut (fun f w'=>∃(tM:Int),f 0=pV bP 0∧f 3=C at_∧HI M w w' ([box bP #[.string ss,C tM,C bO,C er] 66]++r)∧(zN ss at_ er 0=tM)∧(at_≤tM∧tM≤at_+8∧tM≤(ss.size:Int))) ?_ ?_
 ·
  refine bk<|lp (fun m f w'=>∃(j_:Nat) (p_:Int),m=8-j_∧f 0=pV bP 0∧f 3=C at_∧HI M w w' ([box bP #[.string ss,C p_,C bO,C er] 66]++r)∧(p_=at_+(j_:Int))∧(j_≤8∧p_≤(ss.size:Int))∧(zN ss at_ er 0=zN ss at_ er j_)) _ ⟨0,at_,J,i0,J,H,aq,aq,(by rfl)⟩ ?_
  rintro _ f1 w1 ⟨j_,p_,rfl,s0,s1,H0,J',kb,hs⟩
  refine sq<|sq<|A2 J aV<|kq (fun _ _=>mv J s0 e1)<|kq (fun _ _=>nc J J e1)<|kq (fun _ _=>fa t' J J e1)<|kq (fun _ x_=>lx (H0.ext x_) 0 J xQ J J J e1)<|kq (fun _ _=>eql J J J J e1)<|kq (fun _ _=>mv (v:=.bool (decide (er=0))) J J e1) ?_
  rcases bE (decide (er=0)) with b0|b0
  ·
   have p0:=dT b0
   refine qy J J J b0<|kq (fun _ _=>mv J s0 e1)<|qy J J J b0<|kq (fun _ _=>nc J J e1)<|qy J J J b0<|kq (fun _ _=>fa kx J J e1)<|qy J J J b0<|kq (fun _ x_=>lx (H0.ext x_) 0 J aT J J J e1)<|qy J J J b0<|kq (fun _ _=>mv J s1 e1)<|qy J J J b0<|kq (fun _ _=>sub J J J J aS e1)<|qy J J J b0<|kq (fun _ _=>lss J J J J e1)<|kq (fun _ _=>aQ J J J J b0 J e1)<|kq (fun _ _=>mv (v:=.bool (decide ((p_-at_)<8))) J J e1) ?_
   rcases bE (decide ((p_-at_)<8)) with b1|b1
   ·
    have p1:=dT b1
    refine qy J J J b1<|kq (fun _ _=>mv J s0 e1)<|qy J J J b1<|kq (fun _ _=>nc J J e1)<|qy J J J b1<|kq (fun _ _=>fa kx J J e1)<|qy J J J b1<|kq (fun _ x_=>lx (H0.ext x_) 0 J aT J J J e1)<|qy J J J b1<|kq (fun _ _=>mv J s0 e1)<|qy J J J b1<|kq (fun _ _=>nc J J e1)<|qy J J J b1<|kq (fun _ _=>fa ua J J e1)<|qy J J J b1<|kq (fun _ x_=>lx (H0.ext x_) 0 J oG J J J e1)<|qy J J J b1<|kq (fun _ _=>wQ J J mL e1)<|qy J J J b1<|kq (fun _ _=>lss J J J J e1)<|kq (fun _ _=>aQ J J J J b1 J e1)<|kq (fun _ _=>mv (v:=.bool (decide (p_<(ss.size:Int)))) J J e1) ?_
    rcases bE (decide (p_<(ss.size:Int))) with b2|b2
    ·
     have p2:=dT b2
     refine qy J J J b2<|kq (fun _ _=>mv J s0 e1)<|qy J J J b2<|kq (fun _ _=>nc J J e1)<|qy J J J b2<|kq (fun _ _=>fa ua J J e1)<|qy J J J b2<|kq (fun _ x_=>lx (H0.ext x_) 0 J oG J J J e1)<|qy J J J b2<|kq (fun _ _=>mv J s0 e1)<|qy J J J b2<|kq (fun _ _=>nc J J e1)<|qy J J J b2<|kq (fun _ _=>fa kx J J e1)<|qy J J J b2<|kq (fun _ x_=>lx (H0.ext x_) 0 J aT J J J e1)<|qy J J J b2<|kq (fun _ _=>YP J J J J aq mL e1)<|qy J J J b2<|kq (fun _ _=>geq J J J J e1)<|kq (fun _ _=>aQ J J J J b2 J e1)<|kq (fun _ _=>mv (v:=.bool (decide (97≤(tv ss p_)))) J J e1) ?_
     rcases bE (decide (97≤(tv ss p_))) with b3|b3
     ·
      have p3:=dT b3
      refine qy J J J b3<|kq (fun _ _=>mv J s0 e1)<|qy J J J b3<|kq (fun _ _=>nc J J e1)<|qy J J J b3<|kq (fun _ _=>fa ua J J e1)<|qy J J J b3<|kq (fun _ x_=>lx (H0.ext x_) 0 J oG J J J e1)<|qy J J J b3<|kq (fun _ _=>mv J s0 e1)<|qy J J J b3<|kq (fun _ _=>nc J J e1)<|qy J J J b3<|kq (fun _ _=>fa kx J J e1)<|qy J J J b3<|kq (fun _ x_=>lx (H0.ext x_) 0 J aT J J J e1)<|qy J J J b3<|kq (fun _ _=>YP J J J J aq mL e1)<|qy J J J b3<|kq (fun _ _=>leq J J J J e1)<|kq (fun _ _=>aQ J J J J b3 J e1)<|zq ?_
      intro w2 bY
      have H1:=H0.ext bY
      refine nx<|cd (b:=decide ((tv ss p_)≤122)) J J (fun b4=>?_)<|fun b4=>?_
      ·
       have p4:=dT b4
       refine sk<|nx<|bk<|rg<|ak J s0<|k<|nc J J<|aU kx J J<|bq H1 0 J aT J J J<|k<|add J J J J aS<|k<|nc J J<|aU kx J J<|k<|bA H1 0 J aT J J J J J J J ?_
       intro w3 (H2:HI M w w3 ([box bP #[.string ss,C (p_+1),C bO,C er] 66]++r))
       refine z<|aH<|bB _ ?_ ⟨(j_+1),(p_+1),J,s0,s1,H2,aq,aq,(by exact hs.trans (Z9 J' b0 b1 b2 b3 b4))⟩
       omega
      refine ex<|aW<|ba<|bh<|B5 ⟨p_,s0,s1,H1,(by exact hs.trans (Am J'<|by simp only[b0,b1,b2,b3,b4,BL])),aq⟩
     refine qn J J J b3<|qn J J J b3<|qn J J J b3<|qn J J J b3<|qn J J J b3<|qn J J J b3<|qn J J J b3<|qn J J J b3<|qn J J J b3<|qn J J J b3<|kq (fun _ _=>cU J J J J b3 J e1)<|zq ?_
     intro w2 bY
     have H1:=H0.ext bY
     refine nx<|nB J J J<|ex<|aW<|ba<|bh<|B5 ⟨p_,s0,s1,H1,(by exact hs.trans (Am J'<|by simp only[b0,b1,b2,b3,BL])),aq⟩
    refine qn J J J b2<|qn J J J b2<|qn J J J b2<|qn J J J b2<|qn J J J b2<|qn J J J b2<|qn J J J b2<|qn J J J b2<|qn J J J b2<|qn J J J b2<|kq (fun _ _=>cU J J J J b2 J e1)<|kq (fun _ _=>mv (v:=.bool false) J J e1)<|qn J J J J<|qn J J J J<|qn J J J J<|qn J J J J<|qn J J J J<|qn J J J J<|qn J J J J<|qn J J J J<|qn J J J J<|qn J J J J<|kq (fun _ _=>cU J J J J J J e1)<|zq ?_
    intro w2 bY
    have H1:=H0.ext bY
    refine nx<|nB J J J<|ex<|aW<|ba<|bh<|B5 ⟨p_,s0,s1,H1,(by exact hs.trans (Am J'<|by simp only[b0,b1,b2,BL])),aq⟩
   refine qn J J J b1<|qn J J J b1<|qn J J J b1<|qn J J J b1<|qn J J J b1<|qn J J J b1<|qn J J J b1<|qn J J J b1<|qn J J J b1<|qn J J J b1<|kq (fun _ _=>cU J J J J b1 J e1)<|kq (fun _ _=>mv (v:=.bool false) J J e1)<|qn J J J J<|qn J J J J<|qn J J J J<|qn J J J J<|qn J J J J<|qn J J J J<|qn J J J J<|qn J J J J<|qn J J J J<|qn J J J J<|kq (fun _ _=>cU J J J J J J e1)<|kq (fun _ _=>mv (v:=.bool false) J J e1)<|qn J J J J<|qn J J J J<|qn J J J J<|qn J J J J<|qn J J J J<|qn J J J J<|qn J J J J<|qn J J J J<|qn J J J J<|qn J J J J<|kq (fun _ _=>cU J J J J J J e1)<|zq ?_
   intro w2 bY
   have H1:=H0.ext bY
   refine nx<|nB J J J<|ex<|aW<|ba<|bh<|B5 ⟨p_,s0,s1,H1,(by exact hs.trans (Am J'<|by simp only[b0,b1,BL])),aq⟩
  refine qn J J J b0<|qn J J J b0<|qn J J J b0<|qn J J J b0<|qn J J J b0<|qn J J J b0<|qn J J J b0<|kq (fun _ _=>cU J J J J b0 J e1)<|kq (fun _ _=>mv (v:=.bool false) J J e1)<|qn J J J J<|qn J J J J<|qn J J J J<|qn J J J J<|qn J J J J<|qn J J J J<|qn J J J J<|qn J J J J<|qn J J J J<|qn J J J J<|kq (fun _ _=>cU J J J J J J e1)<|kq (fun _ _=>mv (v:=.bool false) J J e1)<|qn J J J J<|qn J J J J<|qn J J J J<|qn J J J J<|qn J J J J<|qn J J J J<|qn J J J J<|qn J J J J<|qn J J J J<|qn J J J J<|kq (fun _ _=>cU J J J J J J e1)<|kq (fun _ _=>mv (v:=.bool false) J J e1)<|qn J J J J<|qn J J J J<|qn J J J J<|qn J J J J<|qn J J J J<|qn J J J J<|qn J J J J<|qn J J J J<|qn J J J J<|qn J J J J<|kq (fun _ _=>cU J J J J J J e1)<|zq ?_
  intro w2 bY
  have H1:=H0.ext bY
  refine nx<|nB J J J<|ex<|aW<|ba<|bh<|B5 ⟨p_,s0,s1,H1,(by exact hs.trans (Am J'<|by simp only[b0,BL])),aq⟩
 ·
  rintro f0 w0 ⟨tM,s2,s3,H3,Cm,an9⟩
  refine sq<|aD<|ak J s2<|k<|nc J J<|aU kx J J<|bq H3 0 J aT J J J<|ak J s3<|k<|eql J J J J<|z<|nx<|cd (b:=decide (tM=at_)) J J (fun b1=>?_)<|fun b1=>?_
  ·
   refine rg<|ak J s2<|k ?_
   let J0:=box bP #[.string ss,C tM,C bO,C er] 66
   have H4:HI M w w0 ([J0]++([]++r)):=HI.aQ (l:=[J0]) (l':=[J0]) (t:=r) H3 [0] aw J J
   have bT:=vu (bP:=bP) (ss:=ss) (at_:=tM) (bO:=bO) (er:=er) (ex:=2) (w:=w) (w_:=w0) (r:=([]++r)) (M:=M) bu aS eW nu aS H4
   refine ca Nq J (ec J<|ec J e0) bT ?_
   rintro _ w3 ⟨rfl,H5⟩
   refine av<|sq<|A2 J aV<|kq (fun _ _=>mv J s2 e1)<|kq (fun _ _=>nc J J e1)<|kq (fun _ _=>fa ua J J e1)<|kq (fun _ x_=>lx (H5.ext x_) 0 J oG J J J e1)<|kq (fun _ _=>mv J s3 e1)<|kq (fun _ _=>mv J s2 e1)<|kq (fun _ _=>nc J J e1)<|kq (fun _ _=>fa kx J J e1)<|kq (fun _ x_=>lx (H5.ext x_) 0 J aT J J J e1)<|kq (fun _ _=>QM J J J J J J aq mL e1)<|kq (fun _ _=>jV (v:=.string (ss.extract at_.toNat tM.toNat)) J J e1)<|zq ?_
   intro w4 cS
   have H7:=H5.ext cS
   refine nx<|rt<|r1 J J ?_
   have e0:(ss.extract at_.toNat tM.toNat:aY)=(ss.extract at_.toNat tM.toNat):=rfl
   have e1:(cu er 2:Int)=(cu er 2):=rfl
   try rw[←e0]
   try rw[←e1]
   refine⟨tM,(cu er 2),(ss.extract at_.toNat tM.toNat),?_,?_,(by simp only[K_,Cm,b1,BL]),aq,(by exact lF (x:=2) ns aw),(by rw[GA aq aq];omega),(by exact fun h_=>(P7 h_).elim)⟩
   · first|rfl|simp only[e0,e1]|(simp only[apk])
   · first|exact H7|simpa +zetaDelta only[e0,e1,apk] using H7
  have p1:=dF b1
  refine sk<|nx<|sq<|A2 J aV<|kq (fun _ _=>mv J s2 e1)<|kq (fun _ _=>nc J J e1)<|kq (fun _ _=>fa ua J J e1)<|kq (fun _ x_=>lx (H3.ext x_) 0 J oG J J J e1)<|kq (fun _ _=>mv J s3 e1)<|kq (fun _ _=>mv J s2 e1)<|kq (fun _ _=>nc J J e1)<|kq (fun _ _=>fa kx J J e1)<|kq (fun _ x_=>lx (H3.ext x_) 0 J aT J J J e1)<|kq (fun _ _=>QM J J J J J J aq mL e1)<|kq (fun _ _=>jV (v:=.string (ss.extract at_.toNat tM.toNat)) J J e1)<|zq ?_
  intro w3 cS
  have H4:=H3.ext cS
  refine nx<|rt<|r1 J J ?_
  have e0:(ss.extract at_.toNat tM.toNat:aY)=(ss.extract at_.toNat tM.toNat):=rfl
  try rw[←e0]
  refine⟨tM,er,(ss.extract at_.toNat tM.toNat),?_,?_,(by simp only[K_,Cm,b1,BL]),aq,(by exact ns),(by rw[GA aq aq];omega),(by exact fun h_=>⟨h_,by omega⟩)⟩
  · first|rfl|simp only[e0]|(simp only[apk])
  · first|exact H4|simpa +zetaDelta only[e0,apk] using H4
theorem ou (z8:ss.size≤maxLen) (lO:aK at_) (eW:aK bO) (nu:aK er) (eS:0≤at_∧at_≤(ss.size:Int)) (ns:0≤er∧er≤3) (H:HI M w w_ ([box bP #[.string ss,C at_,C bO,C er] 66]++r)):Calls aM 73 #[pV bP 0] w_ (ck fun v w'=>∃(kI:Int) (l6:Int) (vl:Int),v=C vl∧HI M w w' ([box bP #[.string ss,C kI,C bO,C l6] 66]++r)∧Mx ss at_ er=(kI,l6,vl)∧(0≤kI∧at_≤kI∧kI≤(ss.size:Int))∧(0≤l6∧l6≤3)∧aK vl∧(l6=0→er=0)):=by
 refine enter 49 Tryz.func73 J J J fun f0 ha=>?_
 have i0:f0 0=pV bP 0:=ha 0 bm
 have BX:maxLen=9223372036854775807:=rfl
 have IX:=VZ eS
 refine aD<|au (v:=C 0) J J<|av<|sq<|aD<|ak J i0<|k<|nc J J<|aU t' J J<|bq H 0 J xQ J J J<|k<|neq J J J J<|z<|nx<|cd (b:=!decide (er=0)) J J (fun b0=>?_)<|fun b0=>?_
 ·
  have p0:=dF<|gf b0
  refine aD<|au (v:=C 0) J J<|av<|rt<|aL<|r1 J J ?_
  refine⟨at_,er,0,?_,?_,(by simp only[Mx,(gf b0),BL]),aq,(by exact ns),(by unfold aK;decide),(by exact id)⟩
  · first|rfl|simp only[apk]
  · first|exact H|simpa +zetaDelta only[apk] using H
 have p0:=dT<|fu b0
 refine sk<|nx<|sq<|A2 J aV<|kq (fun _ _=>mv J i0 e1)<|kq (fun _ _=>nc J J e1)<|kq (fun _ _=>fa kx J J e1)<|kq (fun _ x_=>lx (H.ext x_) 0 J aT J J J e1)<|kq (fun _ _=>mv J i0 e1)<|kq (fun _ _=>nc J J e1)<|kq (fun _ _=>fa ua J J e1)<|kq (fun _ x_=>lx (H.ext x_) 0 J oG J J J e1)<|kq (fun _ _=>mv J i0 e1)<|kq (fun _ _=>nc J J e1)<|kq (fun _ _=>fa kx J J e1)<|kq (fun _ x_=>lx (H.ext x_) 0 J aT J J J e1)<|kq (v:=C (gD ss at_)) (fun v_ x_=>?_) ?_
 ·
  have cc:=WH (s:=ss) (at_:=at_) (w:=v_) bu lO
  exact ca ahi J (ec J<|ec J e0) cc fun _ _ h_=>e2 h_
 refine kq (fun _ _=>add J J J J (by unfold aK;omega) e1)<|kq (fun _ _=>jV (v:=C (at_+(gD ss at_))) J J e1)<|zq ?_
 intro w0 bY
 have H0:=H.ext bY
 refine nx<|sq<|A2 J aV<|kq (fun _ _=>mv J i0 e1)<|kq (fun _ _=>nc J J e1)<|kq (fun _ _=>fa ua J J e1)<|kq (fun _ x_=>lx (H0.ext x_) 0 J oG J J J e1)<|kq (fun _ _=>mv J i0 e1)<|kq (fun _ _=>nc J J e1)<|kq (fun _ _=>fa kx J J e1)<|kq (fun _ x_=>lx (H0.ext x_) 0 J aT J J J e1)<|kq (fun _ _=>mv (v:=C (at_+(gD ss at_))) J J e1)<|kq (fun _ _=>QM J J J J J J aq mL e1)<|kq (v:=.tuple #[C ((gp<|ss.extract at_.toNat (at_+(gD ss at_)).toNat).1),C ((gp<|ss.extract at_.toNat (at_+(gD ss at_)).toNat).2)]) (fun v_ x_=>?_) ?_
 ·
  have cc:=aaP (s:=(ss.extract at_.toNat (at_+(gD ss at_)).toNat)) (w:=v_)<|by exact Nat.le_trans (D0 _ _ _) z8
  exact ca ahh J (ec J e0) cc fun _ _ h_=>e2 h_
 refine kq (fun _ _=>mv (v:=.tuple #[C ((gp<|ss.extract at_.toNat (at_+(gD ss at_)).toNat).1),C ((gp<|ss.extract at_.toNat (at_+(gD ss at_)).toNat).2)]) J J e1)<|kq (fun _ _=>xt J J J e1)<|kq (fun _ _=>xt J J J e1)<|kq (fun _ _=>jV (v:=C ((gp<|ss.extract at_.toNat (at_+(gD ss at_)).toNat).1)) J J e1)<|kq (fun _ _=>jV (v:=C ((gp<|ss.extract at_.toNat (at_+(gD ss at_)).toNat).2)) J J e1)<|zq ?_
 intro w1 cS
 have H1:=H0.ext cS
 refine nx<|sq<|aD<|ak (v:=C ((gp<|ss.extract at_.toNat (at_+(gD ss at_)).toNat).2)) J J<|k<|neq J J J J<|z<|nx<|cd (b:=!decide (((gp<|ss.extract at_.toNat (at_+(gD ss at_)).toNat).2)=0)) J J (fun b1=>?_)<|fun b1=>?_
 ·
  have p1:=dF<|gf b1
  refine aD<|ak J i0<|ak (v:=C ((gp<|ss.extract at_.toNat (at_+(gD ss at_)).toNat).2)) J J<|k ?_
  let J0:=box bP #[.string ss,C at_,C bO,C er] 66
  have H2:HI M w w1 ([J0]++([]++r)):=HI.aQ (l:=[J0]) (l':=[J0]) (t:=r) H1 [0] aw J J
  have bT:=vu (bP:=bP) (ss:=ss) (at_:=at_) (bO:=bO) (er:=er) (ex:=((gp<|ss.extract at_.toNat (at_+(gD ss at_)).toNat).2)) (w:=w) (w_:=w1) (r:=([]++r)) (M:=M) bu lO eW nu (by have h_:=FY (ss.extract at_.toNat (at_+gD ss at_).toNat);unfold aK;omega) H2
  refine ca Nq J (ec J<|ec J e0) bT ?_
  rintro _ w2 ⟨rfl,H3⟩
  have H4:HI M w w2 ([box bP #[.string ss,C at_,C bO,C (cu er ((gp (ss.extract at_.toNat (at_+(gD ss at_)).toNat)).2))] 66]++r):=H3
  refine bz<|au (v:=C 0) J J<|av<|rt<|aL<|r1 J J ?_
  have e0:(cu er ((gp (ss.extract at_.toNat (at_+(gD ss at_)).toNat)).2):Int)=(cu er ((gp (ss.extract at_.toNat (at_+(gD ss at_)).toNat)).2)):=rfl
  try rw[←e0]
  refine⟨at_,(cu er<|(gp<|ss.extract at_.toNat (at_+(gD ss at_)).toNat).2),0,?_,?_,(by simp only[Mx,(fu b0),(gf b1),BL]),aq,(by exact lF ns (FY _).2),(by unfold aK;decide),(by exact fun h_=>(Xz (dF<|gf bu) h_).elim)⟩
  · first|rfl|simp only[e0]|(simp only[apk])
  · first|exact H4|simpa +zetaDelta only[e0,apk] using H4
 have p1:=dT<|fu b1
 refine sk<|cQ<|ak J i0<|ak (v:=C (at_+(gD ss at_))) J J<|k<|nc J J<|aU kx J J<|k<|bA H1 0 J aT J J J J J J J ?_
 intro w2 (H2:HI M w w2 ([box bP #[.string ss,C (at_+(gD ss at_)),C bO,C er] 66]++r))
 refine bz<|ak (v:=C ((gp<|ss.extract at_.toNat (at_+(gD ss at_)).toNat).1)) J J<|au (v:=C ((gp<|ss.extract at_.toNat (at_+(gD ss at_)).toNat).1)) J J<|av<|rt<|r1 J J ?_
 have e0:((gp (ss.extract at_.toNat (at_+(gD ss at_)).toNat)).1:Int)=((gp (ss.extract at_.toNat (at_+(gD ss at_)).toNat)).1):=rfl
 have e1:(at_+(gD ss at_):Int)=(at_+(gD ss at_)):=rfl
 try rw[←e0]
 try rw[←e1]
 refine⟨(at_+(gD ss at_)),er,((gp<|ss.extract at_.toNat (at_+(gD ss at_)).toNat).1),?_,?_,(by simp only[Mx,(fu b0),(fu b1),BL]),aq,(by exact ns),(by exact(FY _).1),(by exact id)⟩
 · first|rfl|simp only[e0,e1]|(simp only[apk])
 · first|exact H2|simpa +zetaDelta only[e0,e1,apk] using H2
theorem Pg (z8:ss.size≤maxLen) (lO:aK at_) (eW:aK bO) (nu:aK er) (eS:0≤at_∧at_≤(ss.size:Int)) (ns:0≤er∧er≤3) (ajI:0≤bO∧bO≤9223372036854775000) (H:HI M w w_ ([box bP #[.string ss,C at_,C bO,C er] 66]++r)):Calls aM 46 #[pV bP 0] w_ (ck fun v w'=>∃(kI:Int) (l6:Int) (wv:Bool) (nm:aY) (vl:Int),v=.agg #[.bool wv,.string nm,C vl]∧HI M w w' ([box bP #[.string ss,C kI,C (bO+1),C l6] 66]++r)∧AF ss at_ bO er=(kI,l6,(wv,nm,vl))∧(0≤kI∧at_≤kI∧kI≤(ss.size:Int))∧(0≤l6∧l6≤3)∧nm.size≤8∧aK vl∧(l6=0→at_+1≤kI)):=by
 refine enter 45 Tryz.func46 J J J fun f0 ha=>?_
 have i0:f0 0=pV bP 0:=ha 0 bm
 have BX:maxLen=9223372036854775807:=rfl
 refine aD<|k<|al H iX ?_
 let J1:=box bP #[.string ss,C at_,C bO,C er] 66
 intro aX w0 bY (H0:HI M w w0 ([box aX #[.bool false,.string ⟨#[]⟩,C 0] 43,J1]++r))
 let J0:=box aX #[.bool false,.string ⟨#[]⟩,C 0] 43
 refine av<|sq<|aD<|ak J i0<|k<|nc J J<|aU nw J J<|bq H0 1 J aT J J J<|k<|eql J J J J<|ak (v:=.bool (decide (bO=4096))) J J ?_
 rcases bE (decide (bO=4096)) with b0|b0
 ·
  refine bl J J J b0<|mv J i0<|bl J J J b0 ?_
  have bT:=C2 (ss:=ss) (at_:=at_) (bO:=bO) (er:=er) (ch:=119) (w:=w0) (M:=fun _=>False) (fun _ h_=>h_.elim) bu lO eW nu aw ⟨H0.at_ 1 rfl,fun h_=>h_⟩ aq
  refine ca Xm J (ec J<|ec J e0) bT ?_
  rintro _ w1 ⟨rfl,cS⟩
  have H1:=H0.ext cS
  refine bl J J J b0<|mv (v:=.bool (cH ss at_ er 119)) J J ?_
  rcases bE (cH ss at_ er 119) with b1|b1
  ·
   refine aZ J J J b1<|aZ J J J b1<|bl J J J b0<|aQ J J J J b1 J<|k<|aQ J J J J b0 J<|av<|pk J J J<|rg<|ak J i0<|k ?_
   have H2:HI M w w1 ([J1]++([J0]++r)):=HI.aQ (l:=[J0,J1]) (l':=[J1,J0]) (t:=r) H1 [1,0] aw J J
   have df:=vu (bP:=bP) (ss:=ss) (at_:=at_) (bO:=bO) (er:=er) (ex:=3) (w:=w) (w_:=w1) (r:=([J0]++r)) (M:=M) bu lO eW nu aS H2
   refine ca Nq J (ec J<|ec J e0) df ?_
   rintro _ w2 ⟨rfl,H3⟩
   let J2:=box bP #[.string ss,C at_,C bO,C (cu er 3)] 66
   refine bz<|k<|al H3 iX ?_
   intro bj w3 fm (H5:HI M w w3 ([box bj #[.bool false,.string ⟨#[]⟩,C 0] 43,J2,J0]++r))
   let J3:=box bj #[.bool false,.string ⟨#[]⟩,C 0] 43
   refine av<|sq<|aD<|ak J i0<|k ?_
   have H6:HI M w w3 ([J2]++([J3,J0]++r)):=HI.aQ (l:=[J3,J2,J0]) (l':=[J2,J3,J0]) (t:=r) H5 [1,0,2] aw J J
   have fF:=qV (bP:=bP) (ss:=ss) (at_:=at_) (bO:=bO) (er:=(cu er 3)) (ch:=119) (w:=w) (w_:=w3) (r:=([J3,J0]++r)) (M:=M) bu lO eW (by have h_:=lF (x:=3) ns aw;unfold aK;omega) aw aq H6
   refine ca Gx J (ec J<|ec J e0) fF ?_
   rintro _ w4 ⟨rfl,H7⟩
   let J4:=box bP #[.string ss,C (eT ss at_ (cu er 3) 119),C bO,C (cu er 3)] 66
   refine aU qf J J<|k<|bA H7 1 J n5 J J J J J J J ?_
   let J5:=box bj #[.bool (cH ss at_ (cu er 3) 119),.string ⟨#[]⟩,C 0] 43
   intro w5 (H9:HI M w w5 ([J4,J5,J0]++r))
   refine bz<|aU qf J J<|bq H9 1 J n5 J J J<|k<|jr J J<|z<|nx<|cd (b:=!(cH ss at_ (cu er 3) 119)) J J (fun b2=>?_)<|fun b2=>?_
   ·
    refine rg<|ak J i0<|k ?_
    have dB:HI M w w5 ([J4]++([J5,J0]++r)):=HI.aQ (l:=[J4,J5,J0]) (l':=[J4,J5,J0]) (t:=r) H9 [0,1,2] aw J J
    have fc:=iw (bP:=bP) (ss:=ss) (at_:=(eT ss at_ (cu er 3) 119)) (bO:=bO) (er:=(cu er 3)) (ch:=114) (w:=w) (w_:=w5) (r:=([J5,J0]++r)) (M:=M) bu (by have h_:=cx (b:=119) (e:=er) eS;have lI:=cx (b:=119) (e:=cu er 3) eS;unfold aK;omega) eW (by have h_:=lF (x:=3) ns aw;unfold aK;omega) aw (by have h_:=cx (b:=119) (e:=er) eS;have lI:=cx (b:=119) (e:=cu er 3) eS;omega) (by exact lF (x:=3) ns aw) dB
    refine ca pP J (ec J<|ec J e0) fc ?_
    rintro _ w6 ⟨o0,o1,rfl,cT,q0,q1,q2,q3⟩
    let J6:=box bP #[.string ss,C o0,C bO,C o1] 66
    have db:HI M w w6 ([J6,J5,J0]++r):=cT
    refine bz<|ak J i0<|k ?_
    have dq:HI M w w6 ([J6]++([J5,J0]++r)):=HI.aQ (l:=[J6,J5,J0]) (l':=[J6,J5,J0]) (t:=r) db [0,1,2] aw J J
    have my:=iw (bP:=bP) (ss:=ss) (at_:=o0) (bO:=bO) (er:=o1) (ch:=58) (w:=w) (w_:=w6) (r:=([J5,J0]++r)) (M:=M) bu aS eW aS aw aq aq dq
    refine ca pP J (ec J<|ec J e0) my ?_
    rintro _ w7 ⟨o2,o3,rfl,cM,q4,q5,q6,q7⟩
    let J7:=box bP #[.string ss,C o2,C bO,C o3] 66
    have dR:HI M w w7 ([J7,J5,J0]++r):=cM
    refine bz<|ak J i0<|k ?_
    have dI:HI M w w7 ([J7]++([J5,J0]++r)):=HI.aQ (l:=[J7,J5,J0]) (l':=[J7,J5,J0]) (t:=r) dR [0,1,2] aw J J
    have mx:=qW (bP:=bP) (ss:=ss) (at_:=o2) (bO:=bO) (er:=o3) (w:=w) (w_:=w7) (r:=([J5,J0]++r)) (M:=M) bu aS eW aS aq aq dI
    refine ca Gu J (ec J e0) mx ?_
    rintro _ w8 ⟨o4,o5,o6,rfl,cR,q8,q9,vw,yc,EZ⟩
    let J8:=box bP #[.string ss,C o4,C bO,C o5] 66
    refine aU ny J J<|k<|bA cR 1 J oG J J J J J J J ?_
    let J9:=box bj #[.bool (cH ss at_ (cu er 3) 119),.string o6,C 0] 43
    intro w9 (dV:HI M w w9 ([J8,J9,J0]++r))
    refine bz<|ak J i0<|k ?_
    have cJ:HI M w w9 ([J8]++([J9,J0]++r)):=HI.aQ (l:=[J8,J9,J0]) (l':=[J8,J9,J0]) (t:=r) dV [0,1,2] aw J J
    have yL:=iw (bP:=bP) (ss:=ss) (at_:=o4) (bO:=bO) (er:=o5) (ch:=61) (w:=w) (w_:=w9) (r:=([J9,J0]++r)) (M:=M) bu aS eW aS aw aq aq cJ
    refine ca pP J (ec J<|ec J e0) yL ?_
    rintro _ dL ⟨o7,o8,rfl,ef,vv,Ph,C7,C6⟩
    let d_:=box bP #[.string ss,C o7,C bO,C o8] 66
    have dA:HI M w dL ([d_,J9,J0]++r):=ef
    refine bz<|ak J i0<|k ?_
    have fe:HI M w dL ([d_]++([J9,J0]++r)):=HI.aQ (l:=[d_,J9,J0]) (l':=[d_,J9,J0]) (t:=r) dA [0,1,2] aw J J
    have A5:=ou (bP:=bP) (ss:=ss) (at_:=o7) (bO:=bO) (er:=o8) (w:=w) (w_:=dL) (r:=([J9,J0]++r)) (M:=M) bu aS eW aS aq aq fe
    refine ca Gt J (ec J e0) A5 ?_
    rintro _ ew ⟨o9,kQ,fS,rfl,fw,yY,yb,q19,ya,EY⟩
    refine aU rA J J<|k<|bA fw 1 J aT J J J J J J J ?_
    let eJ:=box bj #[.bool (cH ss at_ (cu er 3) 119),.string o6,C fS] 43
    intro fq (iR:HI M w fq ([box bP #[.string ss,C o9,C bO,C kQ] 66,eJ,J0]++r))
    refine bz<|ak J i0<|k<|nc J J<|aU nw J J<|bq iR 0 J aT J J J<|k<|add J J J J aS<|k<|nc J J<|aU nw J J<|k<|bA iR 0 J aT J J J J J J J ?_
    let fZ:=box bP #[.string ss,C o9,C (bO+1),C kQ] 66
    intro iF (iQ:HI M w iF ([fZ,eJ,J0]++r))
    refine bz<|k<|cC iQ 1 J iX J J aw J<|k<|bA iQ 2 J iX J J J J J J J ?_
    let fI:=box aX #[.bool (cH ss at_ (cu er 3) 119),.string o6,C fS] 43
    intro jF (mz:HI M w jF ([fZ,eJ,fI]++r))
    refine av<|rt<|py mz 2 J iX J J J J aw ?_
    have iA:=HI.aQ (l:=[fZ,eJ,fI]) (l':=[fZ]) (t:=r) mz [0] aw J J
    have e0:(cH ss at_ (cu er 3) 119:Bool)=(cH ss at_ (cu er 3) 119):=rfl
    have e1:(bO+1:Int)=(bO+1):=rfl
    try rw[←e0]
    try rw[←e1]
    refine⟨o9,kQ,(cH ss at_ (cu er 3) 119),o6,fS,?_,?_,(by simp only[AF,JK,JJ,q0,q4,q8,vv,yY,b0,b1,(gf b2),BL]),(by have h_:=cx (b:=119) (e:=er) eS;have lI:=cx (b:=119) (e:=cu er 3) eS;omega),aq,bu,bu,(by have h_:=cx (b:=119) (e:=er) eS;have lI:=cx (b:=119) (e:=cu er 3) eS;omega)⟩
    · first|rfl|simp only[e0,e1]|(simp only[apk])
    · first|exact iA|simpa +zetaDelta only[e0,e1,apk] using iA
   refine sk<|cQ<|ak J i0<|k ?_
   have dB:HI M w w5 ([J4]++([J5,J0]++r)):=HI.aQ (l:=[J4,J5,J0]) (l':=[J4,J5,J0]) (t:=r) H9 [0,1,2] aw J J
   have fc:=iw (bP:=bP) (ss:=ss) (at_:=(eT ss at_ (cu er 3) 119)) (bO:=bO) (er:=(cu er 3)) (ch:=58) (w:=w) (w_:=w5) (r:=([J5,J0]++r)) (M:=M) bu (by have h_:=cx (b:=119) (e:=er) eS;have lI:=cx (b:=119) (e:=cu er 3) eS;unfold aK;omega) eW (by have h_:=lF (x:=3) ns aw;unfold aK;omega) aw (by have h_:=cx (b:=119) (e:=er) eS;have lI:=cx (b:=119) (e:=cu er 3) eS;omega) (by exact lF (x:=3) ns aw) dB
   refine ca pP J (ec J<|ec J e0) fc ?_
   rintro _ w6 ⟨o0,o1,rfl,cT,q0,q1,q2,q3⟩
   let iz:=box bP #[.string ss,C o0,C bO,C o1] 66
   have db:HI M w w6 ([iz,J5,J0]++r):=cT
   refine bz<|ak J i0<|k ?_
   have dq:HI M w w6 ([iz]++([J5,J0]++r)):=HI.aQ (l:=[iz,J5,J0]) (l':=[iz,J5,J0]) (t:=r) db [0,1,2] aw J J
   have my:=qW (bP:=bP) (ss:=ss) (at_:=o0) (bO:=bO) (er:=o1) (w:=w) (w_:=w6) (r:=([J5,J0]++r)) (M:=M) bu aS eW aS aq aq dq
   refine ca Gu J (ec J e0) my ?_
   rintro _ w7 ⟨o2,o3,o4,rfl,cM,q4,q5,q6,q7,q8⟩
   let nP:=box bP #[.string ss,C o2,C bO,C o3] 66
   refine aU ny J J<|k<|bA cM 1 J oG J J J J J J J ?_
   let lK:=box bj #[.bool (cH ss at_ (cu er 3) 119),.string o4,C 0] 43
   intro w8 (dI:HI M w w8 ([nP,lK,J0]++r))
   refine bz<|ak J i0<|k ?_
   have cR:HI M w w8 ([nP]++([lK,J0]++r)):=HI.aQ (l:=[nP,lK,J0]) (l':=[nP,lK,J0]) (t:=r) dI [0,1,2] aw J J
   have mx:=iw (bP:=bP) (ss:=ss) (at_:=o2) (bO:=bO) (er:=o3) (ch:=61) (w:=w) (w_:=w8) (r:=([lK,J0]++r)) (M:=M) bu aS eW aS aw aq aq cR
   refine ca pP J (ec J<|ec J e0) mx ?_
   rintro _ w9 ⟨o5,o6,rfl,dX,q9,vw,yc,EZ⟩
   let rU:=box bP #[.string ss,C o5,C bO,C o6] 66
   have dV:HI M w w9 ([rU,lK,J0]++r):=dX
   refine bz<|ak J i0<|k ?_
   have cJ:HI M w w9 ([rU]++([lK,J0]++r)):=HI.aQ (l:=[rU,lK,J0]) (l':=[rU,lK,J0]) (t:=r) dV [0,1,2] aw J J
   have yL:=ou (bP:=bP) (ss:=ss) (at_:=o5) (bO:=bO) (er:=o6) (w:=w) (w_:=w9) (r:=([lK,J0]++r)) (M:=M) bu aS eW aS aq aq cJ
   refine ca Gt J (ec J e0) yL ?_
   rintro _ dL ⟨o7,o8,o9,rfl,ef,vv,Ph,C7,C6,yY⟩
   refine aU rA J J<|k<|bA ef 1 J aT J J J J J J J ?_
   let jI:=box bj #[.bool (cH ss at_ (cu er 3) 119),.string o4,C o9] 43
   intro ew (fe:HI M w ew ([box bP #[.string ss,C o7,C bO,C o8] 66,jI,J0]++r))
   refine bz<|ak J i0<|k<|nc J J<|aU nw J J<|bq fe 0 J aT J J J<|k<|add J J J J aS<|k<|nc J J<|aU nw J J<|k<|bA fe 0 J aT J J J J J J J ?_
   let ot:=box bP #[.string ss,C o7,C (bO+1),C o8] 66
   intro fq (fw:HI M w fq ([ot,jI,J0]++r))
   refine bz<|k<|cC fw 1 J iX J J aw J<|k<|bA fw 2 J iX J J J J J J J ?_
   let pw:=box aX #[.bool (cH ss at_ (cu er 3) 119),.string o4,C o9] 43
   intro iF (gl:HI M w iF ([ot,jI,pw]++r))
   refine av<|rt<|py gl 2 J iX J J J J aw ?_
   have iR:=HI.aQ (l:=[ot,jI,pw]) (l':=[ot]) (t:=r) gl [0] aw J J
   have e0:(cH ss at_ (cu er 3) 119:Bool)=(cH ss at_ (cu er 3) 119):=rfl
   have e1:(bO+1:Int)=(bO+1):=rfl
   try rw[←e0]
   try rw[←e1]
   refine⟨o7,o8,(cH ss at_ (cu er 3) 119),o4,o9,?_,?_,(by simp only[AF,JK,JJ,q0,q4,q9,vv,b0,b1,(fu b2),BL]),(by have h_:=cx (b:=119) (e:=er) eS;have lI:=cx (b:=119) (e:=cu er 3) eS;omega),aq,bu,bu,(by have h_:=cx (b:=119) (e:=er) eS;have lI:=cx (b:=119) (e:=cu er 3) eS;omega)⟩
   · first|rfl|simp only[e0,e1]|(simp only[apk])
   · first|exact iR|simpa +zetaDelta only[e0,e1,apk] using iR
  refine bl J J J b1<|mv J i0<|bl J J J b1 ?_
  have df:=C2 (ss:=ss) (at_:=at_) (bO:=bO) (er:=er) (ch:=114) (w:=w1) (M:=fun _=>False) (fun _ h_=>h_.elim) bu lO eW nu aw ⟨H1.at_ 1 rfl,fun h_=>h_⟩ aq
  refine ca Xm J (ec J<|ec J e0) df ?_
  rintro _ w2 ⟨rfl,fm⟩
  have H2:=H1.ext fm
  refine bl J J J b0<|cU J J J J b1 J<|k<|aQ J J J J b0 J<|z<|nx<|cd (b:=cH ss at_ er 114) J J (fun b2=>?_)<|fun b2=>?_
  ·
   refine rg<|ak J i0<|k ?_
   have H3:HI M w w2 ([J1]++([J0]++r)):=HI.aQ (l:=[J0,J1]) (l':=[J1,J0]) (t:=r) H2 [1,0] aw J J
   have fF:=vu (bP:=bP) (ss:=ss) (at_:=at_) (bO:=bO) (er:=er) (ex:=3) (w:=w) (w_:=w2) (r:=([J0]++r)) (M:=M) bu lO eW nu aS H3
   refine ca Nq J (ec J<|ec J e0) fF ?_
   rintro _ w3 ⟨rfl,H4⟩
   let mX:=box bP #[.string ss,C at_,C bO,C (cu er 3)] 66
   refine bz<|k<|al H4 iX ?_
   intro bj w4 fg (H6:HI M w w4 ([box bj #[.bool false,.string ⟨#[]⟩,C 0] 43,mX,J0]++r))
   let nE:=box bj #[.bool false,.string ⟨#[]⟩,C 0] 43
   refine av<|sq<|aD<|ak J i0<|k ?_
   have H7:HI M w w4 ([mX]++([nE,J0]++r)):=HI.aQ (l:=[nE,mX,J0]) (l':=[mX,nE,J0]) (t:=r) H6 [1,0,2] aw J J
   have fc:=qV (bP:=bP) (ss:=ss) (at_:=at_) (bO:=bO) (er:=(cu er 3)) (ch:=119) (w:=w) (w_:=w4) (r:=([nE,J0]++r)) (M:=M) bu lO eW (by have h_:=lF (x:=3) ns aw;unfold aK;omega) aw aq H7
   refine ca Gx J (ec J<|ec J e0) fc ?_
   rintro _ w5 ⟨rfl,H8⟩
   let tB:=box bP #[.string ss,C (eT ss at_ (cu er 3) 119),C bO,C (cu er 3)] 66
   refine aU qf J J<|k<|bA H8 1 J n5 J J J J J J J ?_
   let uG:=box bj #[.bool (cH ss at_ (cu er 3) 119),.string ⟨#[]⟩,C 0] 43
   let bf:=[uG,J0]
   intro w6 (dB:HI M w w6 ((tB::bf)++r))
   refine bz<|aU qf J J<|bq dB 1 J n5 J J J<|k<|jr J J<|z<|nx<|cd (b:=!(cH ss at_ (cu er 3) 119)) J J (fun b3=>?_)<|fun b3=>?_
   ·
    refine rg<|ak J i0<|k ?_
    have cT:HI M w w6 ([tB]++([uG,J0]++r)):=HI.aQ (l:=(tB::bf)) (l':=(tB::bf)) (t:=r) dB [0,1,2] aw J J
    have my:=iw (bP:=bP) (ss:=ss) (at_:=(eT ss at_ (cu er 3) 119)) (bO:=bO) (er:=(cu er 3)) (ch:=114) (w:=w) (w_:=w6) (r:=([uG,J0]++r)) (M:=M) bu (by have h_:=cx (b:=119) (e:=er) eS;have lI:=cx (b:=119) (e:=cu er 3) eS;unfold aK;omega) eW (by have h_:=lF (x:=3) ns aw;unfold aK;omega) aw (by have h_:=cx (b:=119) (e:=er) eS;have lI:=cx (b:=119) (e:=cu er 3) eS;omega) (by exact lF (x:=3) ns aw) cT
    refine ca pP J (ec J<|ec J e0) my ?_
    rintro _ w7 ⟨o0,o1,rfl,db,q0,q1,q2,q3⟩
    let CB:=box bP #[.string ss,C o0,C bO,C o1] 66
    have dq:HI M w w7 ((CB::bf)++r):=db
    refine bz<|ak J i0<|k ?_
    have cM:HI M w w7 ([CB]++([uG,J0]++r)):=HI.aQ (l:=(CB::bf)) (l':=(CB::bf)) (t:=r) dq [0,1,2] aw J J
    have mx:=iw (bP:=bP) (ss:=ss) (at_:=o0) (bO:=bO) (er:=o1) (ch:=58) (w:=w) (w_:=w7) (r:=([uG,J0]++r)) (M:=M) bu aS eW aS aw aq aq cM
    refine ca pP J (ec J<|ec J e0) mx ?_
    rintro _ w8 ⟨o2,o3,rfl,dR,q4,q5,q6,q7⟩
    let uF:=box bP #[.string ss,C o2,C bO,C o3] 66
    have dI:HI M w w8 ((uF::bf)++r):=dR
    refine bz<|ak J i0<|k ?_
    have cR:HI M w w8 ([uF]++([uG,J0]++r)):=HI.aQ (l:=(uF::bf)) (l':=(uF::bf)) (t:=r) dI [0,1,2] aw J J
    have yL:=qW (bP:=bP) (ss:=ss) (at_:=o2) (bO:=bO) (er:=o3) (w:=w) (w_:=w8) (r:=([uG,J0]++r)) (M:=M) bu aS eW aS aq aq cR
    refine ca Gu J (ec J e0) yL ?_
    rintro _ w9 ⟨o4,o5,o6,rfl,dX,q8,q9,vw,yc,EZ⟩
    let zQ:=box bP #[.string ss,C o4,C bO,C o5] 66
    refine aU ny J J<|k<|bA dX 1 J oG J J J J J J J ?_
    let wj:=box bj #[.bool (cH ss at_ (cu er 3) 119),.string o6,C 0] 43
    intro dL (cJ:HI M w dL ([zQ,wj,J0]++r))
    refine bz<|ak J i0<|k ?_
    have ef:HI M w dL ([zQ]++([wj,J0]++r)):=HI.aQ (l:=[zQ,wj,J0]) (l':=[zQ,wj,J0]) (t:=r) cJ [0,1,2] aw J J
    have A5:=iw (bP:=bP) (ss:=ss) (at_:=o4) (bO:=bO) (er:=o5) (ch:=61) (w:=w) (w_:=dL) (r:=([wj,J0]++r)) (M:=M) bu aS eW aS aw aq aq ef
    refine ca pP J (ec J<|ec J e0) A5 ?_
    rintro _ ew ⟨o7,o8,rfl,dA,vv,Ph,C7,C6⟩
    let yT:=box bP #[.string ss,C o7,C bO,C o8] 66
    have fe:HI M w ew ([yT,wj,J0]++r):=dA
    refine bz<|ak J i0<|k ?_
    have fw:HI M w ew ([yT]++([wj,J0]++r)):=HI.aQ (l:=[yT,wj,J0]) (l':=[yT,wj,J0]) (t:=r) fe [0,1,2] aw J J
    have Ih:=ou (bP:=bP) (ss:=ss) (at_:=o7) (bO:=bO) (er:=o8) (w:=w) (w_:=ew) (r:=([wj,J0]++r)) (M:=M) bu aS eW aS aq aq fw
    refine ca Gt J (ec J e0) Ih ?_
    rintro _ fq ⟨o9,kQ,fS,rfl,gl,yY,yb,q19,ya,EY⟩
    refine aU rA J J<|k<|bA gl 1 J aT J J J J J J J ?_
    let yS:=box bj #[.bool (cH ss at_ (cu er 3) 119),.string o6,C fS] 43
    intro iF (iQ:HI M w iF ([box bP #[.string ss,C o9,C bO,C kQ] 66,yS,J0]++r))
    refine bz<|ak J i0<|k<|nc J J<|aU nw J J<|bq iQ 0 J aT J J J<|k<|add J J J J aS<|k<|nc J J<|aU nw J J<|k<|bA iQ 0 J aT J J J J J J J ?_
    let FA:=box bP #[.string ss,C o9,C (bO+1),C kQ] 66
    intro jF (mz:HI M w jF ([FA,yS,J0]++r))
    refine bz<|k<|cC mz 1 J iX J J aw J<|k<|bA mz 2 J iX J J J J J J J ?_
    let ug:=box aX #[.bool (cH ss at_ (cu er 3) 119),.string o6,C fS] 43
    intro oU (iA:HI M w oU ([FA,yS,ug]++r))
    refine av<|rt<|py iA 2 J iX J J J J aw ?_
    have pF:=HI.aQ (l:=[FA,yS,ug]) (l':=[FA]) (t:=r) iA [0] aw J J
    have e0:(cH ss at_ (cu er 3) 119:Bool)=(cH ss at_ (cu er 3) 119):=rfl
    have e1:(bO+1:Int)=(bO+1):=rfl
    try rw[←e0]
    try rw[←e1]
    refine⟨o9,kQ,(cH ss at_ (cu er 3) 119),o6,fS,?_,?_,(by simp only[AF,JK,JJ,q0,q4,q8,vv,yY,b0,b1,b2,(gf b3),BL]),(by have h_:=cx (b:=119) (e:=er) eS;have lI:=cx (b:=119) (e:=cu er 3) eS;omega),aq,bu,bu,(by have h_:=cx (b:=119) (e:=er) eS;have lI:=cx (b:=119) (e:=cu er 3) eS;omega)⟩
    · first|rfl|simp only[e0,e1]|(simp only[apk])
    · first|exact pF|simpa +zetaDelta only[e0,e1,apk] using pF
   refine sk<|cQ<|ak J i0<|k ?_
   have cT:HI M w w6 ([tB]++([uG,J0]++r)):=HI.aQ (l:=(tB::bf)) (l':=(tB::bf)) (t:=r) dB [0,1,2] aw J J
   have my:=iw (bP:=bP) (ss:=ss) (at_:=(eT ss at_ (cu er 3) 119)) (bO:=bO) (er:=(cu er 3)) (ch:=58) (w:=w) (w_:=w6) (r:=([uG,J0]++r)) (M:=M) bu (by have h_:=cx (b:=119) (e:=er) eS;have lI:=cx (b:=119) (e:=cu er 3) eS;unfold aK;omega) eW (by have h_:=lF (x:=3) ns aw;unfold aK;omega) aw (by have h_:=cx (b:=119) (e:=er) eS;have lI:=cx (b:=119) (e:=cu er 3) eS;omega) (by exact lF (x:=3) ns aw) cT
   refine ca pP J (ec J<|ec J e0) my ?_
   rintro _ w7 ⟨o0,o1,rfl,db,q0,q1,q2,q3⟩
   let sx:=box bP #[.string ss,C o0,C bO,C o1] 66
   have dq:HI M w w7 ((sx::bf)++r):=db
   refine bz<|ak J i0<|k ?_
   have cM:HI M w w7 ([sx]++([uG,J0]++r)):=HI.aQ (l:=(sx::bf)) (l':=(sx::bf)) (t:=r) dq [0,1,2] aw J J
   have mx:=qW (bP:=bP) (ss:=ss) (at_:=o0) (bO:=bO) (er:=o1) (w:=w) (w_:=w7) (r:=([uG,J0]++r)) (M:=M) bu aS eW aS aq aq cM
   refine ca Gu J (ec J e0) mx ?_
   rintro _ w8 ⟨o2,o3,o4,rfl,dR,q4,q5,q6,q7,q8⟩
   let wi:=box bP #[.string ss,C o2,C bO,C o3] 66
   refine aU ny J J<|k<|bA dR 1 J oG J J J J J J J ?_
   let qj:=box bj #[.bool (cH ss at_ (cu er 3) 119),.string o4,C 0] 43
   intro w9 (cR:HI M w w9 ([wi,qj,J0]++r))
   refine bz<|ak J i0<|k ?_
   have dX:HI M w w9 ([wi]++([qj,J0]++r)):=HI.aQ (l:=[wi,qj,J0]) (l':=[wi,qj,J0]) (t:=r) cR [0,1,2] aw J J
   have yL:=iw (bP:=bP) (ss:=ss) (at_:=o2) (bO:=bO) (er:=o3) (ch:=61) (w:=w) (w_:=w9) (r:=([qj,J0]++r)) (M:=M) bu aS eW aS aw aq aq dX
   refine ca pP J (ec J<|ec J e0) yL ?_
   rintro _ dL ⟨o5,o6,rfl,dV,q9,vw,yc,EZ⟩
   let Ej:=box bP #[.string ss,C o5,C bO,C o6] 66
   have cJ:HI M w dL ([Ej,qj,J0]++r):=dV
   refine bz<|ak J i0<|k ?_
   have ef:HI M w dL ([Ej]++([qj,J0]++r)):=HI.aQ (l:=[Ej,qj,J0]) (l':=[Ej,qj,J0]) (t:=r) cJ [0,1,2] aw J J
   have A5:=ou (bP:=bP) (ss:=ss) (at_:=o5) (bO:=bO) (er:=o6) (w:=w) (w_:=dL) (r:=([qj,J0]++r)) (M:=M) bu aS eW aS aq aq ef
   refine ca Gt J (ec J e0) A5 ?_
   rintro _ ew ⟨o7,o8,o9,rfl,dA,vv,Ph,C7,C6,yY⟩
   refine aU rA J J<|k<|bA dA 1 J aT J J J J J J J ?_
   let zP:=box bj #[.bool (cH ss at_ (cu er 3) 119),.string o4,C o9] 43
   intro fq (fw:HI M w fq ([box bP #[.string ss,C o7,C bO,C o8] 66,zP,J0]++r))
   refine bz<|ak J i0<|k<|nc J J<|aU nw J J<|bq fw 0 J aT J J J<|k<|add J J J J aS<|k<|nc J J<|aU nw J J<|k<|bA fw 0 J aT J J J J J J J ?_
   let yR:=box bP #[.string ss,C o7,C (bO+1),C o8] 66
   intro iF (gl:HI M w iF ([yR,zP,J0]++r))
   refine bz<|k<|cC gl 1 J iX J J aw J<|k<|bA gl 2 J iX J J J J J J J ?_
   let Ei:=box aX #[.bool (cH ss at_ (cu er 3) 119),.string o4,C o9] 43
   intro jF (iR:HI M w jF ([yR,zP,Ei]++r))
   refine av<|rt<|py iR 2 J iX J J J J aw ?_
   have iQ:=HI.aQ (l:=[yR,zP,Ei]) (l':=[yR]) (t:=r) iR [0] aw J J
   have e0:(cH ss at_ (cu er 3) 119:Bool)=(cH ss at_ (cu er 3) 119):=rfl
   have e1:(bO+1:Int)=(bO+1):=rfl
   try rw[←e0]
   try rw[←e1]
   refine⟨o7,o8,(cH ss at_ (cu er 3) 119),o4,o9,?_,?_,(by simp only[AF,JK,JJ,q0,q4,q9,vv,b0,b1,b2,(fu b3),BL]),(by have h_:=cx (b:=119) (e:=er) eS;have lI:=cx (b:=119) (e:=cu er 3) eS;omega),aq,bu,bu,(by have h_:=cx (b:=119) (e:=er) eS;have lI:=cx (b:=119) (e:=cu er 3) eS;omega)⟩
   · first|rfl|simp only[e0,e1]|(simp only[apk])
   · first|exact iQ|simpa +zetaDelta only[e0,e1,apk] using iQ
  refine sk<|cQ<|k<|al H2 iX ?_
  intro bj w3 fg (H3:HI M w w3 ([box bj #[.bool false,.string ⟨#[]⟩,C 0] 43,J0,J1]++r))
  let Eh:=box bj #[.bool false,.string ⟨#[]⟩,C 0] 43
  refine av<|sq<|aD<|ak J i0<|k ?_
  have H4:HI M w w3 ([J1]++([Eh,J0]++r)):=HI.aQ (l:=[Eh,J0,J1]) (l':=[J1,Eh,J0]) (t:=r) H3 [2,0,1] aw J J
  have fF:=qV (bP:=bP) (ss:=ss) (at_:=at_) (bO:=bO) (er:=er) (ch:=119) (w:=w) (w_:=w3) (r:=([Eh,J0]++r)) (M:=M) bu lO eW nu aw aq H4
  refine ca Gx J (ec J<|ec J e0) fF ?_
  rintro _ w4 ⟨rfl,H5⟩
  let Eg:=box bP #[.string ss,C (eT ss at_ er 119),C bO,C er] 66
  refine aU qf J J<|k<|bA H5 1 J n5 J J J J J J J ?_
  let tA:=box bj #[.bool (cH ss at_ er 119),.string ⟨#[]⟩,C 0] 43
  intro w5 (H7:HI M w w5 ([Eg,tA,J0]++r))
  refine bz<|aU qf J J<|bq H7 1 J n5 J J J<|k<|jr J J<|av<|pk J J (by rw[show (cH ss at_ er 119)=false from b1]<;>rfl)<|rg<|ak J i0<|k ?_
  have H8:HI M w w5 ([Eg]++([tA,J0]++r)):=HI.aQ (l:=[Eg,tA,J0]) (l':=[Eg,tA,J0]) (t:=r) H7 [0,1,2] aw J J
  have fc:=iw (bP:=bP) (ss:=ss) (at_:=(eT ss at_ er 119)) (bO:=bO) (er:=er) (ch:=114) (w:=w) (w_:=w5) (r:=([tA,J0]++r)) (M:=M) bu (by have h_:=cx (b:=119) (e:=er) eS;have lI:=cx (b:=119) (e:=cu er 3) eS;unfold aK;omega) eW nu aw (by have h_:=cx (b:=119) (e:=er) eS;have lI:=cx (b:=119) (e:=cu er 3) eS;omega) aq H8
  refine ca pP J (ec J<|ec J e0) fc ?_
  rintro _ w6 ⟨o0,o1,rfl,H9,q0,q1,q2,q3⟩
  let KK:=box bP #[.string ss,C o0,C bO,C o1] 66
  have dB:HI M w w6 ([KK,tA,J0]++r):=H9
  refine bz<|ak J i0<|k ?_
  have cT:HI M w w6 ([KK]++([tA,J0]++r)):=HI.aQ (l:=[KK,tA,J0]) (l':=[KK,tA,J0]) (t:=r) dB [0,1,2] aw J J
  have my:=iw (bP:=bP) (ss:=ss) (at_:=o0) (bO:=bO) (er:=o1) (ch:=58) (w:=w) (w_:=w6) (r:=([tA,J0]++r)) (M:=M) bu aS eW aS aw aq aq cT
  refine ca pP J (ec J<|ec J e0) my ?_
  rintro _ w7 ⟨o2,o3,rfl,db,q4,q5,q6,q7⟩
  let Fz:=box bP #[.string ss,C o2,C bO,C o3] 66
  have dq:HI M w w7 ([Fz,tA,J0]++r):=db
  refine bz<|ak J i0<|k ?_
  have cM:HI M w w7 ([Fz]++([tA,J0]++r)):=HI.aQ (l:=[Fz,tA,J0]) (l':=[Fz,tA,J0]) (t:=r) dq [0,1,2] aw J J
  have mx:=qW (bP:=bP) (ss:=ss) (at_:=o2) (bO:=bO) (er:=o3) (w:=w) (w_:=w7) (r:=([tA,J0]++r)) (M:=M) bu aS eW aS aq aq cM
  refine ca Gu J (ec J e0) mx ?_
  rintro _ w8 ⟨o4,o5,o6,rfl,dR,q8,q9,vw,yc,EZ⟩
  let Fy:=box bP #[.string ss,C o4,C bO,C o5] 66
  refine aU ny J J<|k<|bA dR 1 J oG J J J J J J J ?_
  let Ba:=box bj #[.bool (cH ss at_ er 119),.string o6,C 0] 43
  intro w9 (cR:HI M w w9 ([Fy,Ba,J0]++r))
  refine bz<|ak J i0<|k ?_
  have dX:HI M w w9 ([Fy]++([Ba,J0]++r)):=HI.aQ (l:=[Fy,Ba,J0]) (l':=[Fy,Ba,J0]) (t:=r) cR [0,1,2] aw J J
  have yL:=iw (bP:=bP) (ss:=ss) (at_:=o4) (bO:=bO) (er:=o5) (ch:=61) (w:=w) (w_:=w9) (r:=([Ba,J0]++r)) (M:=M) bu aS eW aS aw aq aq dX
  refine ca pP J (ec J<|ec J e0) yL ?_
  rintro _ dL ⟨o7,o8,rfl,dV,vv,Ph,C7,C6⟩
  let Iy:=box bP #[.string ss,C o7,C bO,C o8] 66
  have cJ:HI M w dL ([Iy,Ba,J0]++r):=dV
  refine bz<|ak J i0<|k ?_
  have ef:HI M w dL ([Iy]++([Ba,J0]++r)):=HI.aQ (l:=[Iy,Ba,J0]) (l':=[Iy,Ba,J0]) (t:=r) cJ [0,1,2] aw J J
  have A5:=ou (bP:=bP) (ss:=ss) (at_:=o7) (bO:=bO) (er:=o8) (w:=w) (w_:=dL) (r:=([Ba,J0]++r)) (M:=M) bu aS eW aS aq aq ef
  refine ca Gt J (ec J e0) A5 ?_
  rintro _ ew ⟨o9,kQ,fS,rfl,dA,yY,yb,q19,ya,EY⟩
  refine aU rA J J<|k<|bA dA 1 J aT J J J J J J J ?_
  let Fx:=box bj #[.bool (cH ss at_ er 119),.string o6,C fS] 43
  intro fq (fw:HI M w fq ([box bP #[.string ss,C o9,C bO,C kQ] 66,Fx,J0]++r))
  refine bz<|ak J i0<|k<|nc J J<|aU nw J J<|bq fw 0 J aT J J J<|k<|add J J J J aS<|k<|nc J J<|aU nw J J<|k<|bA fw 0 J aT J J J J J J J ?_
  let A':=box bP #[.string ss,C o9,C (bO+1),C kQ] 66
  intro iF (gl:HI M w iF ([A',Fx,J0]++r))
  refine bz<|k<|cC gl 1 J iX J J aw J<|k<|bA gl 2 J iX J J J J J J J ?_
  let zO:=box aX #[.bool (cH ss at_ er 119),.string o6,C fS] 43
  intro jF (iR:HI M w jF ([A',Fx,zO]++r))
  refine av<|rt<|py iR 2 J iX J J J J aw ?_
  have iQ:=HI.aQ (l:=[A',Fx,zO]) (l':=[A']) (t:=r) iR [0] aw J J
  have e0:(cH ss at_ er 119:Bool)=(cH ss at_ er 119):=rfl
  have e1:(bO+1:Int)=(bO+1):=rfl
  try rw[←e0]
  try rw[←e1]
  refine⟨o9,kQ,(cH ss at_ er 119),o6,fS,?_,?_,(by simp only[AF,JK,JJ,q0,q4,q8,vv,yY,b0,b1,b2,BL]),(by have h_:=cx (b:=119) (e:=er) eS;have lI:=cx (b:=119) (e:=cu er 3) eS;omega),aq,bu,bu,(by have h_:=cx (b:=119) (e:=er) eS;have lI:=cx (b:=119) (e:=cu er 3) eS;omega)⟩
  · first|rfl|simp only[e0,e1]|(simp only[apk])
  · first|exact iQ|simpa +zetaDelta only[e0,e1,apk] using iQ
 refine aZ J J J b0<|aZ J J J b0<|aZ J J J b0<|k<|gu J J J<|k<|gu J J J<|aZ J J J b0<|k<|cU J J J J b0 J<|av<|nB J J J<|sk<|cQ<|k<|al H0 iX ?_
 intro bj w1 cS (H1:HI M w w1 ([box bj #[.bool false,.string ⟨#[]⟩,C 0] 43,J0,J1]++r))
 let KJ:=box bj #[.bool false,.string ⟨#[]⟩,C 0] 43
 refine av<|sq<|aD<|ak J i0<|k ?_
 have H2:HI M w w1 ([J1]++([KJ,J0]++r)):=HI.aQ (l:=[KJ,J0,J1]) (l':=[J1,KJ,J0]) (t:=r) H1 [2,0,1] aw J J
 have bT:=qV (bP:=bP) (ss:=ss) (at_:=at_) (bO:=bO) (er:=er) (ch:=119) (w:=w) (w_:=w1) (r:=([KJ,J0]++r)) (M:=M) bu lO eW nu aw aq H2
 refine ca Gx J (ec J<|ec J e0) bT ?_
 rintro _ w2 ⟨rfl,H3⟩
 let Ef:=box bP #[.string ss,C (eT ss at_ er 119),C bO,C er] 66
 refine aU qf J J<|k<|bA H3 1 J n5 J J J J J J J ?_
 let wh:=box bj #[.bool (cH ss at_ er 119),.string ⟨#[]⟩,C 0] 43
 let bZ:=[wh,J0]
 intro w3 (H5:HI M w w3 ((Ef::bZ)++r))
 refine bz<|aU qf J J<|bq H5 1 J n5 J J J<|k<|jr J J<|z<|nx<|cd (b:=!(cH ss at_ er 119)) J J (fun b1=>?_)<|fun b1=>?_
 ·
  refine rg<|ak J i0<|k ?_
  have H6:HI M w w3 ([Ef]++([wh,J0]++r)):=HI.aQ (l:=(Ef::bZ)) (l':=(Ef::bZ)) (t:=r) H5 [0,1,2] aw J J
  have df:=iw (bP:=bP) (ss:=ss) (at_:=(eT ss at_ er 119)) (bO:=bO) (er:=er) (ch:=114) (w:=w) (w_:=w3) (r:=([wh,J0]++r)) (M:=M) bu (by have h_:=cx (b:=119) (e:=er) eS;have lI:=cx (b:=119) (e:=cu er 3) eS;unfold aK;omega) eW nu aw (by have h_:=cx (b:=119) (e:=er) eS;have lI:=cx (b:=119) (e:=cu er 3) eS;omega) aq H6
  refine ca pP J (ec J<|ec J e0) df ?_
  rintro _ w4 ⟨o0,o1,rfl,H7,q0,q1,q2,q3⟩
  let Oe:=box bP #[.string ss,C o0,C bO,C o1] 66
  have H8:HI M w w4 ((Oe::bZ)++r):=H7
  refine bz<|ak J i0<|k ?_
  have H9:HI M w w4 ([Oe]++([wh,J0]++r)):=HI.aQ (l:=(Oe::bZ)) (l':=(Oe::bZ)) (t:=r) H8 [0,1,2] aw J J
  have fF:=iw (bP:=bP) (ss:=ss) (at_:=o0) (bO:=bO) (er:=o1) (ch:=58) (w:=w) (w_:=w4) (r:=([wh,J0]++r)) (M:=M) bu aS eW aS aw aq aq H9
  refine ca pP J (ec J<|ec J e0) fF ?_
  rintro _ w5 ⟨o2,o3,rfl,dB,q4,q5,q6,q7⟩
  let Od:=box bP #[.string ss,C o2,C bO,C o3] 66
  have cT:HI M w w5 ((Od::bZ)++r):=dB
  refine bz<|ak J i0<|k ?_
  have db:HI M w w5 ([Od]++([wh,J0]++r)):=HI.aQ (l:=(Od::bZ)) (l':=(Od::bZ)) (t:=r) cT [0,1,2] aw J J
  have fc:=qW (bP:=bP) (ss:=ss) (at_:=o2) (bO:=bO) (er:=o3) (w:=w) (w_:=w5) (r:=([wh,J0]++r)) (M:=M) bu aS eW aS aq aq db
  refine ca Gu J (ec J e0) fc ?_
  rintro _ w6 ⟨o4,o5,o6,rfl,dq,q8,q9,vw,yc,EZ⟩
  let Oc:=box bP #[.string ss,C o4,C bO,C o5] 66
  refine aU ny J J<|k<|bA dq 1 J oG J J J J J J J ?_
  let yQ:=box bj #[.bool (cH ss at_ er 119),.string o6,C 0] 43
  intro w7 (dR:HI M w w7 ([Oc,yQ,J0]++r))
  refine bz<|ak J i0<|k ?_
  have dI:HI M w w7 ([Oc]++([yQ,J0]++r)):=HI.aQ (l:=[Oc,yQ,J0]) (l':=[Oc,yQ,J0]) (t:=r) dR [0,1,2] aw J J
  have my:=iw (bP:=bP) (ss:=ss) (at_:=o4) (bO:=bO) (er:=o5) (ch:=61) (w:=w) (w_:=w7) (r:=([yQ,J0]++r)) (M:=M) bu aS eW aS aw aq aq dI
  refine ca pP J (ec J<|ec J e0) my ?_
  rintro _ w8 ⟨o7,o8,rfl,cR,vv,Ph,C7,C6⟩
  let KI:=box bP #[.string ss,C o7,C bO,C o8] 66
  have dX:HI M w w8 ([KI,yQ,J0]++r):=cR
  refine bz<|ak J i0<|k ?_
  have dV:HI M w w8 ([KI]++([yQ,J0]++r)):=HI.aQ (l:=[KI,yQ,J0]) (l':=[KI,yQ,J0]) (t:=r) dX [0,1,2] aw J J
  have mx:=ou (bP:=bP) (ss:=ss) (at_:=o7) (bO:=bO) (er:=o8) (w:=w) (w_:=w8) (r:=([yQ,J0]++r)) (M:=M) bu aS eW aS aq aq dV
  refine ca Gt J (ec J e0) mx ?_
  rintro _ w9 ⟨o9,kQ,fS,rfl,cJ,yY,yb,q19,ya,EY⟩
  refine aU rA J J<|k<|bA cJ 1 J aT J J J J J J J ?_
  let Fw:=box bj #[.bool (cH ss at_ er 119),.string o6,C fS] 43
  intro dL (dA:HI M w dL ([box bP #[.string ss,C o9,C bO,C kQ] 66,Fw,J0]++r))
  refine bz<|ak J i0<|k<|nc J J<|aU nw J J<|bq dA 0 J aT J J J<|k<|add J J J J aS<|k<|nc J J<|aU nw J J<|k<|bA dA 0 J aT J J J J J J J ?_
  let Fv:=box bP #[.string ss,C o9,C (bO+1),C kQ] 66
  intro ew (fe:HI M w ew ([Fv,Fw,J0]++r))
  refine bz<|k<|cC fe 1 J iX J J aw J<|k<|bA fe 2 J iX J J J J J J J ?_
  let VG:=box aX #[.bool (cH ss at_ er 119),.string o6,C fS] 43
  intro fq (fw:HI M w fq ([Fv,Fw,VG]++r))
  refine av<|rt<|py fw 2 J iX J J J J aw ?_
  have gl:=HI.aQ (l:=[Fv,Fw,VG]) (l':=[Fv]) (t:=r) fw [0] aw J J
  have e0:(cH ss at_ er 119:Bool)=(cH ss at_ er 119):=rfl
  have e1:(bO+1:Int)=(bO+1):=rfl
  try rw[←e0]
  try rw[←e1]
  refine⟨o9,kQ,(cH ss at_ er 119),o6,fS,?_,?_,(by simp only[AF,JK,JJ,q0,q4,q8,vv,yY,b0,(gf b1),BL]),(by have h_:=cx (b:=119) (e:=er) eS;have lI:=cx (b:=119) (e:=cu er 3) eS;omega),aq,bu,bu,(by have h_:=cx (b:=119) (e:=er) eS;have lI:=cx (b:=119) (e:=cu er 3) eS;omega)⟩
  · first|rfl|simp only[e0,e1]|(simp only[apk])
  · first|exact gl|simpa +zetaDelta only[e0,e1,apk] using gl
 refine sk<|cQ<|ak J i0<|k ?_
 have H6:HI M w w3 ([Ef]++([wh,J0]++r)):=HI.aQ (l:=(Ef::bZ)) (l':=(Ef::bZ)) (t:=r) H5 [0,1,2] aw J J
 have df:=iw (bP:=bP) (ss:=ss) (at_:=(eT ss at_ er 119)) (bO:=bO) (er:=er) (ch:=58) (w:=w) (w_:=w3) (r:=([wh,J0]++r)) (M:=M) bu (by have h_:=cx (b:=119) (e:=er) eS;have lI:=cx (b:=119) (e:=cu er 3) eS;unfold aK;omega) eW nu aw (by have h_:=cx (b:=119) (e:=er) eS;have lI:=cx (b:=119) (e:=cu er 3) eS;omega) aq H6
 refine ca pP J (ec J<|ec J e0) df ?_
 rintro _ w4 ⟨o0,o1,rfl,H7,q0,q1,q2,q3⟩
 let Ix:=box bP #[.string ss,C o0,C bO,C o1] 66
 have H8:HI M w w4 ((Ix::bZ)++r):=H7
 refine bz<|ak J i0<|k ?_
 have H9:HI M w w4 ([Ix]++([wh,J0]++r)):=HI.aQ (l:=(Ix::bZ)) (l':=(Ix::bZ)) (t:=r) H8 [0,1,2] aw J J
 have fF:=qW (bP:=bP) (ss:=ss) (at_:=o0) (bO:=bO) (er:=o1) (w:=w) (w_:=w4) (r:=([wh,J0]++r)) (M:=M) bu aS eW aS aq aq H9
 refine ca Gu J (ec J e0) fF ?_
 rintro _ w5 ⟨o2,o3,o4,rfl,dB,q4,q5,q6,q7,q8⟩
 let Fu:=box bP #[.string ss,C o2,C bO,C o3] 66
 refine aU ny J J<|k<|bA dB 1 J oG J J J J J J J ?_
 let A_:=box bj #[.bool (cH ss at_ er 119),.string o4,C 0] 43
 intro w6 (db:HI M w w6 ([Fu,A_,J0]++r))
 refine bz<|ak J i0<|k ?_
 have dq:HI M w w6 ([Fu]++([A_,J0]++r)):=HI.aQ (l:=[Fu,A_,J0]) (l':=[Fu,A_,J0]) (t:=r) db [0,1,2] aw J J
 have fc:=iw (bP:=bP) (ss:=ss) (at_:=o2) (bO:=bO) (er:=o3) (ch:=61) (w:=w) (w_:=w6) (r:=([A_,J0]++r)) (M:=M) bu aS eW aS aw aq aq dq
 refine ca pP J (ec J<|ec J e0) fc ?_
 rintro _ w7 ⟨o5,o6,rfl,cM,q9,vw,yc,EZ⟩
 let Z2:=box bP #[.string ss,C o5,C bO,C o6] 66
 have dR:HI M w w7 ([Z2,A_,J0]++r):=cM
 refine bz<|ak J i0<|k ?_
 have dI:HI M w w7 ([Z2]++([A_,J0]++r)):=HI.aQ (l:=[Z2,A_,J0]) (l':=[Z2,A_,J0]) (t:=r) dR [0,1,2] aw J J
 have my:=ou (bP:=bP) (ss:=ss) (at_:=o5) (bO:=bO) (er:=o6) (w:=w) (w_:=w7) (r:=([A_,J0]++r)) (M:=M) bu aS eW aS aq aq dI
 refine ca Gt J (ec J e0) my ?_
 rintro _ w8 ⟨o7,o8,o9,rfl,cR,vv,Ph,C7,C6,yY⟩
 refine aU rA J J<|k<|bA cR 1 J aT J J J J J J J ?_
 let Z0:=box bj #[.bool (cH ss at_ er 119),.string o4,C o9] 43
 intro w9 (dV:HI M w w9 ([box bP #[.string ss,C o7,C bO,C o8] 66,Z0,J0]++r))
 refine bz<|ak J i0<|k<|nc J J<|aU nw J J<|bq dV 0 J aT J J J<|k<|add J J J J aS<|k<|nc J J<|aU nw J J<|k<|bA dV 0 J aT J J J J J J J ?_
 let ZZ:=box bP #[.string ss,C o7,C (bO+1),C o8] 66
 intro dL (cJ:HI M w dL ([ZZ,Z0,J0]++r))
 refine bz<|k<|cC cJ 1 J iX J J aw J<|k<|bA cJ 2 J iX J J J J J J J ?_
 let J68:=box aX #[.bool (cH ss at_ er 119),.string o4,C o9] 43
 intro ew (ef:HI M w ew ([ZZ,Z0,J68]++r))
 refine av<|rt<|py ef 2 J iX J J J J aw ?_
 have dA:=HI.aQ (l:=[ZZ,Z0,J68]) (l':=[ZZ]) (t:=r) ef [0] aw J J
 have e0:(cH ss at_ er 119:Bool)=(cH ss at_ er 119):=rfl
 have e1:(bO+1:Int)=(bO+1):=rfl
 try rw[←e0]
 try rw[←e1]
 refine⟨o7,o8,(cH ss at_ er 119),o4,o9,?_,?_,(by simp only[AF,JK,JJ,q0,q4,q9,vv,b0,(fu b1),BL]),(by have h_:=cx (b:=119) (e:=er) eS;have lI:=cx (b:=119) (e:=cu er 3) eS;omega),aq,bu,bu,(by have h_:=cx (b:=119) (e:=er) eS;have lI:=cx (b:=119) (e:=cu er 3) eS;omega)⟩
 · first|rfl|simp only[e0,e1]|(simp only[apk])
 · first|exact dA|simpa +zetaDelta only[e0,e1,apk] using dA
theorem ae0:cD aM 46:=cE Tryz.func46
theorem S' (z8:ss.size≤maxLen) (lO:aK at_) (eW:aK bO) (nu:aK er) (eS:0≤at_∧at_≤(ss.size:Int)) (anG:er=0) (ajI:0≤bO∧bO≤at_) (Rs:ss.size≤1000000) (H:HI M w w_ ([box bP #[.string ss,C at_,C bO,C er] 66]++r)):Calls aM 22 #[pV bP 0] w_ (ck fun v w'=>∃(kI:Int) (l6:Int) (TD:Int) (ls:List jL) (a0:OA) (c0:Nat),v=R a0 ls c0∧HI M w w' ([oL w 43 a0 ls c0,box bP #[.string ss,C kI,C TD,C l6] 66]++r)∧zh ss at_ bO er=(kI,TD,l6,ls)∧(0≤kI∧at_≤kI∧kI≤(ss.size:Int))∧(0≤l6∧l6≤3)∧(0≤TD∧TD≤kI+1)∧(l6=0→at_<kI∧TD≤kI)):=by
 refine enter 19 Tryz.func22 J J J fun f0 ha=>?_
 have i0:f0 0=pV bP 0:=ha 0 bm
 have BX:maxLen=9223372036854775807:=rfl
 have ajz:=cx (b:=10) (e:=er) eS
 refine aD<|au (v:=.slice none 0 0) J J<|av<|sq<|aD<|ak J i0<|k ?_
 let J0:=box bP #[.string ss,C at_,C bO,C er] 66
 have H0:HI M w w_ ([J0]++([]++r)):=HI.aQ (l:=[J0]) (l':=[J0]) (t:=r) H [0] aw J J
 have bT:=qV (bP:=bP) (ss:=ss) (at_:=at_) (bO:=bO) (er:=er) (ch:=10) (w:=w) (w_:=w_) (r:=([]++r)) (M:=M) bu lO eW nu aw aq H0
 refine ca Gx J (ec J<|ec J e0) bT ?_
 rintro _ w0 ⟨rfl,H1⟩
 let J1:=box bP #[.string ss,C (eT ss at_ er 10),C bO,C er] 66
 have H2:HI M w w0 ([J1]++r):=H1
 refine z<|nx<|cd (b:=cH ss at_ er 10) J J (fun b0=>?_)<|fun b0=>?_
 ·
  refine sq ?_
  have an1:eT ss at_ er 10=at_+1:=by unfold eT;rw[‹cH ss at_ er 10=true›];rfl
  refine rg<|au (v:=.slice none 0 0) J J<|av<|rt<|aL<|r1 J J ?_
  have H3:=H2.qZ (Bool×aY×Int) 43
  have e0:(eT ss at_ er 10:Int)=(eT ss at_ er 10):=rfl
  try rw[←e0]
  refine⟨(eT ss at_ er 10),er,bO,([]:List (Bool×aY×Int)),none,0,?_,?_,(by simp only[zh,b0,BL]),aq,aq,aq,aq⟩
  · first|rfl|simp only[e0]|(simp only[apk])
  · first|exact H3|simpa +zetaDelta only[e0,apk] using H3
 refine sk<|cQ<|ak J i0<|k ?_
 have H3:HI M w w0 ([J1]++([]++r)):=HI.aQ (l:=[J1]) (l':=[J1]) (t:=r) H2 [0] aw J J
 have df:=Pg (bP:=bP) (ss:=ss) (at_:=(eT ss at_ er 10)) (bO:=bO) (er:=er) (w:=w) (w_:=w0) (r:=([]++r)) (M:=M) bu aS eW nu aq aq aq H3
 refine ca ae0 J (ec J e0) df ?_
 rintro _ w1 ⟨o0,o1,o2,o3,o4,rfl,H4,q0,q1,q2,q3,q4,q5⟩
 let J2:=box bP #[.string ss,C o0,C (bO+1),C o1] 66
 have H5:HI M w w1 ([J2]++r):=H4
 refine k<|bs (xs:=([(o2,o3,o4)]:List (Bool×aY×Int))) (cells:=#[.bool o2,.string o3,C o4]) (e:=43) H5 J (ct J eA) (fun _=>aV) ⟨[.bool o2,.string o3,C o4],[],J,⟨_,_,J,J,⟨_,_,J,⟨J,(by dsimp only;omega)⟩,⟨J,(show aK (o4) from bu)⟩⟩⟩,J⟩ J aw ?_
 intro g0 w2 bY (H6:HI M w w2 ([own w.heap.size 43 (.slice (some ⟨g0,0,none⟩) 1 1) ([(o2,o3,o4)]:List (Bool×aY×Int)),J2]++r))
 refine au (v:=.slice (some ⟨g0,0,none⟩) 1 1) J J<|av<|sq<|bk<|lp (fun m f w'=>∃(Dp:Nat) (p_:Int) (n_:Int) (e_:Int) (iG:List jL) (a0:OA) (c0:Nat),m=Dp+1∧f 0=pV bP 0∧f 3=R a0 iG c0∧HI M w w' ([oL w 43 a0 iG c0,box bP #[.string ss,C p_,C n_,C e_] 66]++r)∧(BA ss (ss.size+1) o0 (bO+1) o1 ([(o2,o3,o4)]:List (Bool×aY×Int))=BA ss Dp p_ n_ e_ iG)∧(0≤p_∧o0≤p_∧p_≤(ss.size:Int)∧(ss.size:Int)-p_<(Dp:Int))∧(0≤e_∧e_≤3)∧(0≤n_∧n_≤p_+1∧(e_=0→n_≤p_∧at_<p_))∧((iG.length:Int)=n_-bO)) _ ⟨(ss.size+1),o0,(bO+1),o1,([(o2,o3,o4)]:List (Bool×aY×Int)),(some ⟨g0,0,none⟩),1,J,i0,J,H6,(by rfl),(by push_cast;omega),bu,aq,(by simp only[jb,gC];omega)⟩ ?_
 rintro _ f0 w3 ⟨Dp,p_,n_,e_,iG,a0,c0,rfl,s0,s1,H7,hs,J',he_,DG,ajO⟩
 refine sq<|sq ?_
 have an3:=cx (b:=32) (e:=e_) (s:=ss) (a:=p_) ⟨by omega,by omega⟩
 refine rg<|ak J s0<|k ?_
 let J3:=box bP #[.string ss,C p_,C n_,C e_] 66
 let J4:=oL w 43 a0 iG c0
 have H8:HI M w w3 ([J3]++([J4]++r)):=HI.aQ (l:=[J4,J3]) (l':=[J3,J4]) (t:=r) H7 [1,0] aw J J
 have fF:=qV (bP:=bP) (ss:=ss) (at_:=p_) (bO:=n_) (er:=e_) (ch:=32) (w:=w) (w_:=w3) (r:=([J4]++r)) (M:=M) bu aS aS aS aw aq H8
 refine ca Gx J (ec J<|ec J e0) fF ?_
 rintro _ w4 ⟨rfl,H9⟩
 let J5:=box bP #[.string ss,C (eT ss p_ e_ 32),C n_,C e_] 66
 have dB:HI M w w4 ([J5,J4]++r):=H9
 refine z<|nx<|cd (b:=cH ss p_ e_ 32) J J (fun b1=>?_)<|fun b1=>?_
 ·
  refine sk<|nx<|bk ?_
  obtain⟨an6,an5, -⟩:=IK ‹cH ss p_ e_ 32=true›
  have an2:eT ss p_ e_ 32=p_+1:=by unfold eT;rw[‹cH ss p_ e_ 32=true›];rfl
  refine rg<|ak J s1<|ak J s0<|k ?_
  have cT:HI M w w4 ([J5]++([J4]++r)):=HI.aQ (l:=[J5,J4]) (l':=[J5,J4]) (t:=r) dB [0,1] aw J J
  have fc:=Pg (bP:=bP) (ss:=ss) (at_:=(eT ss p_ e_ 32)) (bO:=n_) (er:=e_) (w:=w) (w_:=w4) (r:=([J4]++r)) (M:=M) bu aS aS aS aq aq aq cT
  refine ca ae0 J (ec J e0) fc ?_
  rintro _ w5 ⟨o5,o6,o7,o8,o9,rfl,db,q6,q7,q8,q9,vw,yc⟩
  let J6:=box bP #[.string ss,C o5,C (n_+1),C o6] 66
  have dq:HI M w w5 ([J6,J4]++r):=db
  refine k<|bs (xs:=([(o7,o8,o9)]:List (Bool×aY×Int))) (cells:=#[.bool o7,.string o8,C o9]) (e:=43) dq J (ct J eA) (fun _=>aV) ⟨[.bool o7,.string o8,C o9],[],J,⟨_,_,J,J,⟨_,_,J,⟨J,(by dsimp only;omega)⟩,⟨J,(show aK (o9) from bu)⟩⟩⟩,J⟩ J aw ?_
  intro g1 w6 cS (cM:HI M w w6 ([own w.heap.size 43 (.slice (some ⟨g1,0,none⟩) 1 1) ([(o7,o8,o9)]:List (Bool×aY×Int)),J6,J4]++r))
  let J7:=own w.heap.size 43 (.slice (some ⟨g1,0,none⟩) 1 1) ([(o7,o8,o9)]:List (Bool×aY×Int))
  refine k<|l7 cM 2 J J J J J J (hG<|cM.at_ 0 J) oV iX J (by simp only[jb,gC];omega) J ?_
  intro a1 c1 w7 (dR:HI M w w7 ([J7,J6,oL w 43 a1 (iG++([(o7,o8,o9)]:List (Bool×aY×Int))) c1]++r))
  let J8:=oL w 43 a1 (iG++([(o7,o8,o9)]:List (Bool×aY×Int))) c1
  refine au (v:=R a1 (iG++([(o7,o8,o9)]:List (Bool×aY×Int))) c1) J J<|z<|aH ?_
  have dI:HI M w w7 ([J8,J6]++r):=HI.aQ (l:=[J7,J6,J8]) (l':=[J8,J6]) (t:=r) dR [2,1] aw J J
  refine bB _ ?_ ⟨(Dp-1),o5,(n_+1),o6,(iG++([(o7,o8,o9)]:List (Bool×aY×Int))),a1,c1,J,s0,J,dI,(by exact WB hs aq ‹cH ss p_ e_ 32=true› q6),aq,bu,aq,(by simp only[gj,jb,gC];omega)⟩
  omega
 refine ex<|aW<|ba<|bh<|nx<|sq ?_
 have M3:=WA hs ‹cH ss p_ e_ 32=false›
 refine rg<|ak J s0<|k ?_
 have cT:HI M w w4 ([J5]++([J4]++r)):=HI.aQ (l:=[J5,J4]) (l':=[J5,J4]) (t:=r) dB [0,1] aw J J
 have fc:=iw (bP:=bP) (ss:=ss) (at_:=(eT ss p_ e_ 32)) (bO:=n_) (er:=e_) (ch:=10) (w:=w) (w_:=w4) (r:=([J4]++r)) (M:=M) bu aS aS aS aw aq aq cT
 refine ca pP J (ec J<|ec J e0) fc ?_
 rintro _ w5 ⟨o5,o6,rfl,db,q6,q7,q8,q9⟩
 let J9:=box bP #[.string ss,C o5,C n_,C o6] 66
 have dq:HI M w w5 ([J9,J4]++r):=db
 refine bz<|ak J s1<|au (v:=R a0 iG c0) J J<|av<|rt<|r1 J J ?_
 have cM:=HI.aQ (l:=[J9,J4]) (l':=[J4,J9]) (t:=r) dq [1,0] aw J J
 refine⟨o5,o6,n_,iG,a0,c0,?_,?_,(by simp only[zh,M3,q0,q6,b0,b1,BL]),aq,bu,aq,aq⟩
 · first|rfl|simp only[apk]
 · first|exact cM|simpa +zetaDelta only[apk] using cM
theorem akY:cD aM 22:=cE Tryz.func22
theorem Ta (hM:eC M w) (z8:ss.size≤maxLen) (Rs:ss.size≤1000000):Calls aM 11 #[.string ss] w (ck fun v w'=>∃(hs_:dp) (kI:Int) (l6:Int) (a0:OA) (c0:Nat),v=.tuple #[R a0 hs_ c0,C kI,C l6]∧Ext w w'∧cz M w' a0 c0 hs_∧kM ss=(hs_,kI,l6)∧(0≤kI∧kI≤(ss.size:Int))∧(0≤l6∧l6≤3)):=by
 refine dv 43 Tryz.func11 J J J hM fun f0 ha H=>?_
 have i0:f0 0=.string ss:=ha 0 bm
 have BX:maxLen=9223372036854775807:=rfl
 refine aD<|au (v:=.slice none 0 0) J J<|au (v:=C 0) J J<|au (v:=C 0) J J<|bz<|ak J i0<|k<|bd (v:=.agg #[.string ss,C 0,C 0,C 0]) J (ct J eA) (fun _=>aV)<|k<|bx H J J ?_
 intro aX w0 bY (H0:HI M w w0 [box aX #[.string ss,C 0,C 0,C 0] 66])
 refine au (v:=pV aX 0) J J<|bz<|au (v:=.slice none 0 0) J J<|av<|sq<|bk ?_
 have H1:=H0.qZ (List<|Bool×aY×Int) 40
 refine lp (fun m f w'=>∃(Dp:Nat) (p_:Int) (n_:Int) (e_:Int) (h_:List (List<|Bool×aY×Int)) (a0:OA) (c0:Nat),m=Dp+1∧f 0=.string ss∧f 5=pV aX 0∧f 6=R a0 h_ c0∧HI M w w' [oL w 40 a0 h_ c0,box aX #[.string ss,C p_,C n_,C e_] 66]∧(pX ss (ss.size+1) 0 0 0 []=pX ss Dp p_ n_ e_ h_)∧(0≤p_∧p_≤(ss.size:Int))∧(0≤e_∧e_≤3)∧(0≤n_∧(e_=0→n_≤p_∧(ss.size:Int)-p_<(Dp:Int)∧(h_.length:Int)≤p_))∧((h_.length:Int)≤p_+1)) _ ⟨(ss.size+1),0,0,0,([]:List (List<|Bool×aY×Int)),none,0,J,i0,J,J,H1,(by rfl),aq,aq,(by simp only[gC];omega),(by simp only[gC];omega)⟩ ?_
 rintro _ f0 w1 ⟨Dp,p_,n_,e_,h_,a0,c0,rfl,s0,s1,s2,H2,hs,J',he_,DG,ajO⟩
 refine sq<|aD<|ak J s1<|k<|nc J J<|aU t' J J<|bq H2 1 J xQ J J J<|k<|eql J J J J<|ak (v:=.bool (decide (e_=0))) J J ?_
 rcases bE (decide (e_=0)) with b0|b0
 ·
  have p0:=dT b0
  refine bl J J J b0<|mv J s1<|bl J J J b0<|nc J J<|bl J J J b0<|fa kx J J<|bl J J J b0<|lx H2 1 J aT J J J<|bl J J J b0<|mv J s0<|bl J J J b0<|wQ J J mL<|bl J J J b0<|lss J J J J<|k<|aQ J J J J b0 J<|z<|nx<|cd (b:=decide (p_<(ss.size:Int))) J J (fun b1=>?_)<|fun b1=>?_
  ·
   have p1:=dT b1
   refine sk<|nx<|bk<|rg<|ak J s2<|ak J s1<|k ?_
   have H3:HI M w w1 ([box aX #[.string ss,C p_,C n_,C e_] 66]++[oL w 40 a0 h_ c0]):=H2.bX [1,0] aw J
   have bT:=S' (bP:=aX) (ss:=ss) (at_:=p_) (bO:=n_) (er:=e_) (w:=w) (w_:=w1) (r:=[oL w 40 a0 h_ c0]) (M:=M) bu aS aS aS aq bu aq (by exact Rs) H3
   refine ca akY J (ec J e0) bT ?_
   rintro _ w2 ⟨o0,o1,o2,o3,a1,c1,rfl,H4,q0,q1,q2,q3,q4⟩
   let J0:=box aX #[.string ss,C o0,C o2,C o1] 66
   have H5:HI M w w2 [oL w 43 a1 o3 c1,J0,oL w 40 a0 h_ c0]:=H4
   refine k ?_
   have H6:=H5.freeze 0 J
   refine bs (xs:=([o3]:List (List<|Bool×aY×Int))) (cells:=#[R a1 o3 c1]) (e:=40) H6 J (ct J eA) (fun _=>aV) ⟨[R a1 o3 c1],[],J,⟨_,J,RV.list.1 (H6.rv 0 J)⟩,J⟩ J aw ?_
   intro g0 w3 cS H7
   refine k<|l7 H7 3 J J J J J J (hG<|H7.at_ 0 J) uI uJ J (by simp only[jb,gC];omega) J ?_
   intro a2 c2 w4 (H8:HI M w w4 [own w.heap.size 40 (.slice (some ⟨g0,0,none⟩) 1 1) ([o3]:List (List (Bool×aY×Int))),iL a1 o3 c1,J0,oL w 40 a2 (h_++([o3]:List (List (Bool×aY×Int)))) c2])
   refine au (v:=R a2 (h_++([o3]:List (List<|Bool×aY×Int))) c2) J J<|z<|aH ?_
   have H9:HI M w w4 [oL w 40 a2 (h_++([o3]:List (List (Bool×aY×Int)))) c2,J0]:=H8.bX [3,2] aw J
   refine bB _ ?_ ⟨(Dp-1),o0,o2,o1,(h_++([o3]:List (List<|Bool×aY×Int))),a2,c2,J,s0,s1,J,H9,(by exact Rf hs aq ‹decide (e_=0)=true› ‹decide (p_<(ss.size:Int))=true› q0),aq,bu,(by simp only[gj,jb,gC];omega),(by simp only[gj,jb,gC];omega)⟩
   omega
  refine ex<|aW<|ba<|bh<|nx<|sq<|sq ?_
  have M3:=Hl hs<|by rw[‹decide (e_=0)=true›,‹decide (p_<(ss.size:Int))=false›];rfl
  refine rg<|ak J s1<|k<|nc J J<|aU t' J J<|bq H2 1 J xQ J J J<|k<|neq J J J J<|av<|nB J J (by rw[show (decide (e_=0))=true from b0]<;>rfl)<|sk<|cQ<|ak J s2<|au (v:=R a0 h_ c0) J J<|au (v:=C 0) J J<|au (v:=C 0) J J<|av<|rt<|r3 J J J J ?_
  exact⟨h_,0,0,a0,c0,J,H2.below,(H2.mD 0 J),(by simp only[kM,M3,b0,b1,BL]),aq,aq⟩
 refine aZ J J J b0<|aZ J J J b0<|aZ J J J b0<|aZ J J J b0<|aZ J J J b0<|aZ J J J b0<|aZ J J J b0<|k<|cU J J J J b0 J<|av<|nB J J J<|ex<|aW<|ba<|bh<|nx<|sq<|sq ?_
 have M3:=Hl hs<|by rw[‹decide (e_=0)=false›];rfl
 refine rg<|ak J s1<|k<|nc J J<|aU t' J J<|bq H2 1 J xQ J J J<|k<|neq J J J J<|av<|pk J J (by rw[show (decide (e_=0))=false from b0]<;>rfl)<|sq<|A2 J aV<|kq (fun _ _=>mv J s1 e1)<|kq (fun _ _=>nc J J e1)<|kq (fun _ _=>fa kx J J e1)<|kq (fun _ x_=>lx (H2.ext x_) 1 J aT J J J e1)<|kq (fun _ _=>mv J s1 e1)<|kq (fun _ _=>nc J J e1)<|kq (fun _ _=>fa t' J J e1)<|kq (fun _ x_=>lx (H2.ext x_) 1 J xQ J J J e1)<|kq (fun _ _=>jV (v:=.slice none 0 0) J J e1)<|kq (fun _ _=>jV (v:=C p_) J J e1)<|kq (fun _ _=>jV (v:=C e_) J J e1)<|zq ?_
 intro w2 cS
 have H3:=H2.ext cS
 refine nx<|rt<|aL<|r3 J J J J ?_
 exact⟨([]:List (List<|Bool×aY×Int)),p_,e_,none,0,J,H3.below,(ep _ _),(by simp only[kM,M3,b0,BL]),aq,bu⟩
theorem ak4:cD aM 11:=cE Tryz.func11
theorem RP:cD aM 15:=cE Tryz.func15
theorem Ig (hM:eC M w) (hT:fY 0 w) (z8:ss.size≤maxLen) (pO:aK lv) (Rs:ss.size≤1000000) (ajy:(kM ss).2.2=0→(kM ss).1.flatten.length≤64):Calls aM 10 #[.string ss,C lv] w (ck fun v w'=>∃(lc_:Int) (nc_:Int) (Tb:List (List bw)) (VC:aE) (Tc:List aE) (jm:List cP) (fw_:Int) (nw_:Int) (a0:OA) (c0:Nat) (a1:OA) (c1:Nat) (a2:OA) (c2:Nat) (a3:OA) (c3:Nat),v=.agg #[C (vm ss lv),C (As ss lv),C ((tF ss lv).1),C ((tF ss lv).2),C (Ar ss lv),.bool (rM ss lv),C lc_,C nc_,R a0 Tb c0,R a1 VC c1,R a2 Tc c2,C ((kL ss lv).1),C ((kL ss lv).2.1),C ((kL ss lv).2.2.1),C ((kL ss lv).2.2.2.1),C ((kL ss lv).2.2.2.2),R a3 jm c3,C fw_,C nw_]∧Ext w w'∧cz M w' a0 c0 Tb∧cz M w' a1 c1 VC∧cz M w' a2 c2 Tc∧cz M w' a3 c3 jm):=by
 refine dv 26 Tryz.func10 J J J hM fun f0 ha H=>?_
 have i0:f0 0=.string ss:=ha 0 bm
 have i1:f0 1=C lv:=ha 1 bm
 refine aD<|k<|al H lb ?_
 intro aX w0 bY (H0:HI M w w0 [box aX #[C 0,C 0,C 0,C 0,C 0,.bool false,C 0,C 0,.slice none 0 0,.slice none 0 0,.slice none 0 0,C 0,C 0,C 0,C 0,C 0,.slice none 0 0,C 0,C 0] 35])
 refine av<|sq<|aD<|ak J i1<|k ?_
 have bT:=Fl (lv:=lv) (w:=w0) pO
 refine ca ae2 J (ec J e0) bT ?_
 rintro _ w1 ⟨rfl,cS⟩
 have H1:=H0.ext cS
 refine k<|jr J J<|z<|nx<|cd (b:=!(decide (0<(((eb lv).length:Nat):Int)))) J J (fun b0=>?_)<|fun b0=>?_
 ·
  have p0:=dF<|gf b0
  refine sq ?_
  obtain⟨rm,Na,nU,tY,r7,gU⟩:=agd (s:=ss) (show tc lv=false from gf ‹(!decide (0<(((eb lv).length:Nat):Int)))=true›)
  refine rg<|k<|bd (v:=.agg #[C 1,C 0,C 0,C 0,C 0,.bool false,C 0,C 0,.slice none 0 0,.slice none 0 0,.slice none 0 0,C 0,C 0,C 0,C 0,C 0,.slice none 0 0,C 0,C 0]) J (ct J eA) (fun _=>aV)<|k<|bA H1 0 J lb J J J J J J J ?_
  intro w2 (H2:HI M w w2 [box aX #[C 1,C 0,C 0,C 0,C 0,.bool false,C 0,C 0,.slice none 0 0,.slice none 0 0,.slice none 0 0,C 0,C 0,C 0,C 0,C 0,.slice none 0 0,C 0,C 0] 35])
  refine av<|rt<|aL<|py H2 0 J lb J J J J aw ?_
  have e0:(1:Int)=vm ss lv:=by exact rm.symm
  have e1:(0:Int)=As ss lv:=by exact Na.symm
  have e2:(0:Int)=(tF ss lv).1:=by rw[nU]
  have e3:(0:Int)=(tF ss lv).2:=by rw[nU]
  have e4:(0:Int)=Ar ss lv:=by exact tY.symm
  have e5:(false:Bool)=rM ss lv:=by exact r7.symm
  have su:(0:Int)=(kL ss lv).1:=by rw[gU]
  have tp:(0:Int)=(kL ss lv).2.1:=by rw[gU]
  have sr:(0:Int)=(kL ss lv).2.2.1:=by rw[gU]
  have uc:(0:Int)=(kL ss lv).2.2.2.1:=by rw[gU]
  have ub:(0:Int)=(kL ss lv).2.2.2.2:=by rw[gU]
  have bt:=XN (fun (cb:Int) (dK:Int) (gF:Int) (lR:Int) (xM:Int) (xL:Bool) (sI:Int) (sH:Int) (sG:Int) (sF:Int) (sE:Int)=>(.agg #[C cb,C dK,C gF,C lR,C xM,.bool xL,C 0,C 0,.slice none ([]:List (List bw)).length 0,.slice none ([]:aE).length 0,.slice none ([]:List aE).length 0,C sI,C sH,C sG,C sF,C sE,.slice none ([]:List cP).length 0,C 0,C 0]:Value)) e0 e1 e2 e3 e4 e5 su tp sr uc ub
  exact⟨0,0,([]:List (List bw)),([]:aE),([]:List aE),([]:List cP),0,0,none,0,none,0,none,0,none,0,bt,H2.below,(ep _ _),(ep _ _),(ep _ _),(ep _ _)⟩
 have p0:=dT<|fu b0
 refine sk<|cQ<|ak J i0<|k ?_
 have df:=Ta (ss:=ss) H1.mb bu<|by exact Rs
 refine ca ak4 J (ec J e0) df ?_
 rintro _ w2 ⟨o0,o1,o2,a0,c0,rfl,fm,cm,q0,q1,q2⟩
 have H2:=H1.ext fm
 have H3:=dU H2 cm
 refine ak (v:=.tuple #[R a0 o0 c0,C o1,C o2]) J J<|k<|xt J J J<|k<|xt J J J<|k<|xt J J J<|au (v:=R a0 o0 c0) J J<|au (v:=C o1) J J<|au (v:=C o2) J J<|av<|sq<|aD<|ak (v:=C o2) J J<|k<|neq J J J J<|z<|nx<|cd (b:=!decide (o2=0)) J J (fun b1=>?_)<|fun b1=>?_
 ·
  have p1:=dF<|gf b1
  refine sq ?_
  obtain⟨rm,Na,nU,tY,r7,gU⟩:=aca (show tc lv=true from fu ‹(!decide (0<(((eb lv).length:Nat):Int)))=false›) q0 (dF (gf bu))
  refine rg<|ak (v:=C o2) J J<|ak (v:=C o1) J J<|k<|bd (v:=.agg #[C o2,C o1,C 0,C 0,C 0,.bool false,C 0,C 0,.slice none 0 0,.slice none 0 0,.slice none 0 0,C 0,C 0,C 0,C 0,C 0,.slice none 0 0,C 0,C 0]) J (ct J<|ct J eA) (fun _=>aV)<|k<|bA H3 1 J lb J J J J J J J ?_
  intro w3 (H4:HI M w w3 [iL a0 o0 c0,box aX #[C o2,C o1,C 0,C 0,C 0,.bool false,C 0,C 0,.slice none 0 0,.slice none 0 0,.slice none 0 0,C 0,C 0,C 0,C 0,C 0,.slice none 0 0,C 0,C 0] 35])
  refine av<|rt<|aL<|py H4 1 J lb J J J J aw ?_
  have e0:(o2:Int)=vm ss lv:=by exact rm.symm
  have e1:(o1:Int)=As ss lv:=by exact Na.symm
  have e2:(0:Int)=(tF ss lv).1:=by rw[nU]
  have e3:(0:Int)=(tF ss lv).2:=by rw[nU]
  have e4:(0:Int)=Ar ss lv:=by exact tY.symm
  have e5:(false:Bool)=rM ss lv:=by exact r7.symm
  have su:(0:Int)=(kL ss lv).1:=by rw[gU]
  have tp:(0:Int)=(kL ss lv).2.1:=by rw[gU]
  have sr:(0:Int)=(kL ss lv).2.2.1:=by rw[gU]
  have uc:(0:Int)=(kL ss lv).2.2.2.1:=by rw[gU]
  have ub:(0:Int)=(kL ss lv).2.2.2.2:=by rw[gU]
  have bt:=XN (fun (cb:Int) (dK:Int) (gF:Int) (lR:Int) (xM:Int) (xL:Bool) (sI:Int) (sH:Int) (sG:Int) (sF:Int) (sE:Int)=>(.agg #[C cb,C dK,C gF,C lR,C xM,.bool xL,C 0,C 0,.slice none ([]:List (List bw)).length 0,.slice none ([]:aE).length 0,.slice none ([]:List aE).length 0,C sI,C sH,C sG,C sF,C sE,.slice none ([]:List cP).length 0,C 0,C 0]:Value)) e0 e1 e2 e3 e4 e5 su tp sr uc ub
  exact⟨0,0,([]:List (List bw)),([]:aE),([]:List aE),([]:List cP),0,0,none,0,none,0,none,0,none,0,bt,H4.below,(ep _ _),(ep _ _),(ep _ _),(ep _ _)⟩
 have p1:=dT<|fu b1
 refine sk<|nx<|sq ?_
 have ns:=dT<|fu ‹(!decide (o2=0))=false›
 obtain⟨rm,Na,nU,tY,r7,gU⟩:=QH (show tc lv=true from fu ‹(!decide (0<(((eb lv).length:Nat):Int)))=false›) q0 ns
 have aoA:(o0.flatten).length≤64:=by have h_:=ajy;rw[q0] at h_;exact h_ ns
 refine rg<|ak (v:=R a0 o0 c0) J J<|ak J i1<|k ?_
 have fF:=sC (h:=o0) (lv:=lv) H3.mb (hT.ext H3.below) (H3.rv 0 J) pO aq aq
 refine ca RP J (ec J<|ec J e0) fF ?_
 rintro _ w3 ⟨o3,o4,o5,o6,o7,o8,o9,kQ,a1,c1,a2,c2,a3,c3,a4,c4,rfl,fg,dN,dH,ft,iO⟩
 have H4:=H3.ext fg
 have H5:=dU H4 dN
 have H6:=dU H5 dH
 have H7:=dU H6 ft
 have H8:=dU H7 iO
 refine k<|bA H8 5 J lb J J J J J J J ?_
 intro w4 (H9:HI M w w4 [iL a4 o8 c4,iL a3 o7 c3,iL a2 o6 c2,iL a1 o5 c1,iL a0 o0 c0,box aX #[C (pz o0 lv),C 0,C ((mQ o0 lv).1),C ((mQ o0 lv).2),C (tU o0 lv),.bool (pA o0 lv),C o3,C o4,R a1 o5 c1,R a2 o6 c2,R a3 o7 c3,C ((gW o0 lv).1),C ((gW o0 lv).2.1),C ((gW o0 lv).2.2.1),C ((gW o0 lv).2.2.2.1),C ((gW o0 lv).2.2.2.2),R a4 o8 c4,C o9,C kQ] 35])
 refine av<|rt<|py H9 5 J lb J J J J aw ?_
 have e0:(pz o0 lv:Int)=vm ss lv:=by exact rm.symm
 have e1:(0:Int)=As ss lv:=by exact Na.symm
 have e2:((mQ o0 lv).1:Int)=(tF ss lv).1:=by rw[nU]
 have e3:((mQ o0 lv).2:Int)=(tF ss lv).2:=by rw[nU]
 have e4:(tU o0 lv:Int)=Ar ss lv:=by exact tY.symm
 have e5:(pA o0 lv:Bool)=rM ss lv:=by exact r7.symm
 have su:((gW o0 lv).1:Int)=(kL ss lv).1:=by rw[gU]
 have tp:((gW o0 lv).2.1:Int)=(kL ss lv).2.1:=by rw[gU]
 have sr:((gW o0 lv).2.2.1:Int)=(kL ss lv).2.2.1:=by rw[gU]
 have uc:((gW o0 lv).2.2.2.1:Int)=(kL ss lv).2.2.2.1:=by rw[gU]
 have ub:((gW o0 lv).2.2.2.2:Int)=(kL ss lv).2.2.2.2:=by rw[gU]
 have bt:=XN (fun (cb:Int) (dK:Int) (gF:Int) (lR:Int) (xM:Int) (xL:Bool) (sI:Int) (sH:Int) (sG:Int) (sF:Int) (sE:Int)=>(.agg #[C cb,C dK,C gF,C lR,C xM,.bool xL,C o3,C o4,.slice a1 o5.length c1,.slice a2 o6.length c2,.slice a3 o7.length c3,C sI,C sH,C sG,C sF,C sE,.slice a4 o8.length c4,C o9,C kQ]:Value)) e0 e1 e2 e3 e4 e5 su tp sr uc ub
 exact⟨o3,o4,o5,o6,o7,o8,o9,kQ,a1,c1,a2,c2,a3,c3,a4,c4,bt,H9.below,(H9.fz 3 J),(H9.fz 2 J),(H9.fz 1 J),(H9.fz 0 J)⟩
theorem ae4:cD aM 10:=cE Tryz.func10
theorem UI:gV aM 35 0 0:=j1 Tryz.underlying35
theorem DY:gV aM 35 5 5:=j1 Tryz.underlying35
theorem afc:gV aM 35 7 11:=j1 Tryz.underlying35
theorem ak0:cD aM 19:=cE Tryz.func19
theorem ak3:cD aM 13:=cE Tryz.func13
theorem Js (hT:fY 0 w):Calls aM 9 #[] w (ck fun v w'=>v=.bool true∧Ext w w'):=by
 refine dv 31 Tryz.func9 J J J qF fun f0 ha H=>?_
 refine aD<|au (v:=.bool false) J J<|bz<|au (v:=.string ⟨#[119,58,120,61,49,32,114,58,120,61,50,10,119,58,120,61,50,32,114,58,120,61,49,10]⟩) J J<|bz<|ak (v:=.string ⟨#[119,58,120,61,49,32,114,58,120,61,50,10,119,58,120,61,50,32,114,58,120,61,49,10]⟩) J J<|k ?_
 have bT:=Ig (ss:=⟨#[119,58,120,61,49,32,114,58,120,61,50,10,119,58,120,61,50,32,114,58,120,61,49,10]⟩) (lv:=3) (w:=w) H.mb (hT.ext H.below) aw aS aw<|by exact Vv
 refine ca ae4 J (ec J<|ec J e0) bT ?_
 rintro _ w0 ⟨o0,o1,o2,o3,o4,o5,o6,o7,a0,c0,a1,c1,a2,c2,a3,c3,rfl,bY,cm,dN,dH,ft⟩
 have H0:=H.ext bY
 have H1:=dU H0 cm
 have H2:=dU H1 dN
 have H3:=dU H2 dH
 have H4:=dU H3 ft
 refine ak (v:=.string ⟨#[119,58,120,61,49,32,114,58,120,61,50,10,119,58,120,61,50,32,114,58,120,61,49,10]⟩) J J<|k ?_
 have df:=Ig (ss:=⟨#[119,58,120,61,49,32,114,58,120,61,50,10,119,58,120,61,50,32,114,58,120,61,49,10]⟩) (lv:=2) H4.mb (hT.ext H4.below) aw aS aw<|by exact Vv
 refine ca ae4 J (ec J<|ec J e0) df ?_
 rintro _ w1 ⟨o8,o9,kQ,fS,ka,zb,Hb,JO,a4,c4,a5,c5,a6,c6,a7,c7,rfl,cS,iO,jK,i',kN⟩
 have H5:=H4.ext cS
 have H6:=dU H5 iO
 have H7:=dU H6 jK
 have H8:=dU H7 i'
 have H9:=dU H8 kN
 refine k<|al H9 lb ?_
 let bf:=[iL a7 zb c7,iL a6 ka c6,iL a5 fS c5,iL a4 kQ c4,iL a3 o5 c3,iL a2 o4 c2,iL a1 o3 c1,iL a0 o2 c0]
 intro aX w2 fm (dB:HI (fun _=>False) w w2 (box aX #[C 0,C 0,C 0,C 0,C 0,.bool false,C 0,C 0,.slice none 0 0,.slice none 0 0,.slice none 0 0,C 0,C 0,C 0,C 0,C 0,.slice none 0 0,C 0,C 0] 35::bf))
 refine k<|al dB lb ?_
 intro bj w3 fg (cT:HI (fun _=>False) w w3 (box bj #[C 0,C 0,C 0,C 0,C 0,.bool false,C 0,C 0,.slice none 0 0,.slice none 0 0,.slice none 0 0,C 0,C 0,C 0,C 0,C 0,.slice none 0 0,C 0,C 0] 35::box aX #[C 0,C 0,C 0,C 0,C 0,.bool false,C 0,C 0,.slice none 0 0,.slice none 0 0,.slice none 0 0,C 0,C 0,C 0,C 0,C 0,.slice none 0 0,C 0,C 0] 35::bf))
 refine k<|bA cT 1 J lb J J J J J J J ?_
 let J0:=box aX #[C (vm ⟨#[119,58,120,61,49,32,114,58,120,61,50,10,119,58,120,61,50,32,114,58,120,61,49,10]⟩ 3),C (As ⟨#[119,58,120,61,49,32,114,58,120,61,50,10,119,58,120,61,50,32,114,58,120,61,49,10]⟩ 3),C ((tF ⟨#[119,58,120,61,49,32,114,58,120,61,50,10,119,58,120,61,50,32,114,58,120,61,49,10]⟩ 3).1),C ((tF ⟨#[119,58,120,61,49,32,114,58,120,61,50,10,119,58,120,61,50,32,114,58,120,61,49,10]⟩ 3).2),C (Ar ⟨#[119,58,120,61,49,32,114,58,120,61,50,10,119,58,120,61,50,32,114,58,120,61,49,10]⟩ 3),.bool (rM ⟨#[119,58,120,61,49,32,114,58,120,61,50,10,119,58,120,61,50,32,114,58,120,61,49,10]⟩ 3),C o0,C o1,R a0 o2 c0,R a1 o3 c1,R a2 o4 c2,C ((kL ⟨#[119,58,120,61,49,32,114,58,120,61,50,10,119,58,120,61,50,32,114,58,120,61,49,10]⟩ 3).1),C ((kL ⟨#[119,58,120,61,49,32,114,58,120,61,50,10,119,58,120,61,50,32,114,58,120,61,49,10]⟩ 3).2.1),C ((kL ⟨#[119,58,120,61,49,32,114,58,120,61,50,10,119,58,120,61,50,32,114,58,120,61,49,10]⟩ 3).2.2.1),C ((kL ⟨#[119,58,120,61,49,32,114,58,120,61,50,10,119,58,120,61,50,32,114,58,120,61,49,10]⟩ 3).2.2.2.1),C ((kL ⟨#[119,58,120,61,49,32,114,58,120,61,50,10,119,58,120,61,50,32,114,58,120,61,49,10]⟩ 3).2.2.2.2),R a3 o5 c3,C o6,C o7] 35
 intro w4 (db:HI (fun _=>False) w w4 (box bj #[C 0,C 0,C 0,C 0,C 0,.bool false,C 0,C 0,.slice none 0 0,.slice none 0 0,.slice none 0 0,C 0,C 0,C 0,C 0,C 0,.slice none 0 0,C 0,C 0] 35::J0::bf))
 refine k<|bA db 0 J lb J J J J J J J ?_
 intro w5 (dq:HI (fun _=>False) w w5 (box bj #[C (vm ⟨#[119,58,120,61,49,32,114,58,120,61,50,10,119,58,120,61,50,32,114,58,120,61,49,10]⟩ 2),C (As ⟨#[119,58,120,61,49,32,114,58,120,61,50,10,119,58,120,61,50,32,114,58,120,61,49,10]⟩ 2),C ((tF ⟨#[119,58,120,61,49,32,114,58,120,61,50,10,119,58,120,61,50,32,114,58,120,61,49,10]⟩ 2).1),C ((tF ⟨#[119,58,120,61,49,32,114,58,120,61,50,10,119,58,120,61,50,32,114,58,120,61,49,10]⟩ 2).2),C (Ar ⟨#[119,58,120,61,49,32,114,58,120,61,50,10,119,58,120,61,50,32,114,58,120,61,49,10]⟩ 2),.bool (rM ⟨#[119,58,120,61,49,32,114,58,120,61,50,10,119,58,120,61,50,32,114,58,120,61,49,10]⟩ 2),C o8,C o9,R a4 kQ c4,R a5 fS c5,R a6 ka c6,C ((kL ⟨#[119,58,120,61,49,32,114,58,120,61,50,10,119,58,120,61,50,32,114,58,120,61,49,10]⟩ 2).1),C ((kL ⟨#[119,58,120,61,49,32,114,58,120,61,50,10,119,58,120,61,50,32,114,58,120,61,49,10]⟩ 2).2.1),C ((kL ⟨#[119,58,120,61,49,32,114,58,120,61,50,10,119,58,120,61,50,32,114,58,120,61,49,10]⟩ 2).2.2.1),C ((kL ⟨#[119,58,120,61,49,32,114,58,120,61,50,10,119,58,120,61,50,32,114,58,120,61,49,10]⟩ 2).2.2.2.1),C ((kL ⟨#[119,58,120,61,49,32,114,58,120,61,50,10,119,58,120,61,50,32,114,58,120,61,49,10]⟩ 2).2.2.2.2),R a7 zb c7,C Hb,C JO] 35::J0::bf))
 refine bz<|aU UI J J<|bq dq 1 J xQ J J J<|k<|eql J J J J<|ak (v:=.bool (decide ((vm ⟨#[119,58,120,61,49,32,114,58,120,61,50,10,119,58,120,61,50,32,114,58,120,61,49,10]⟩ 3)=0))) J J<|bl J J J (apt GP.1)<|fa DY J J<|bl J J J (apt GP.1)<|lx dq 1 J n5 J J J<|k<|aQ J J J J (apt GP.1) J<|ak (v:=.bool (rM ⟨#[119,58,120,61,49,32,114,58,120,61,50,10,119,58,120,61,50,32,114,58,120,61,49,10]⟩ 3)) J J<|bl J J J GP.2<|fa UI J J<|bl J J J GP.2<|lx dq 0 J xQ J J J<|bl J J J GP.2<|eql J J J J<|k<|aQ J J J J GP.2 J<|ak (v:=.bool (decide ((vm ⟨#[119,58,120,61,49,32,114,58,120,61,50,10,119,58,120,61,50,32,114,58,120,61,49,10]⟩ 2)=0))) J J<|bl J J J (apt Aj.1)<|fa DY J J<|bl J J J (apt Aj.1)<|lx dq 0 J n5 J J J<|bl J J J (apt Aj.1)<|jr J J<|k<|aQ J J J J (apt Aj.1) J<|ak (v:=.bool (!(rM ⟨#[119,58,120,61,49,32,114,58,120,61,50,10,119,58,120,61,50,32,114,58,120,61,49,10]⟩ 2))) J J<|bl J J J (by rw[show (rM ⟨#[119,58,120,61,49,32,114,58,120,61,50,10,119,58,120,61,50,32,114,58,120,61,49,10]⟩ 2)=false from Aj.2.1]<;>rfl)<|fa afc J J<|bl J J J (by rw[show (rM ⟨#[119,58,120,61,49,32,114,58,120,61,50,10,119,58,120,61,50,32,114,58,120,61,49,10]⟩ 2)=false from Aj.2.1]<;>rfl)<|fa DZ J J<|bl J J J (by rw[show (rM ⟨#[119,58,120,61,49,32,114,58,120,61,50,10,119,58,120,61,50,32,114,58,120,61,49,10]⟩ 2)=false from Aj.2.1]<;>rfl)<|lx dq 0 J aT J J J<|bl J J J (by rw[show (rM ⟨#[119,58,120,61,49,32,114,58,120,61,50,10,119,58,120,61,50,32,114,58,120,61,49,10]⟩ 2)=false from Aj.2.1]<;>rfl)<|eql J J J J<|k<|aQ J J J J (by rw[show (rM ⟨#[119,58,120,61,49,32,114,58,120,61,50,10,119,58,120,61,50,32,114,58,120,61,49,10]⟩ 2)=false from Aj.2.1]<;>rfl) J<|au (v:=.bool (decide (((kL ⟨#[119,58,120,61,49,32,114,58,120,61,50,10,119,58,120,61,50,32,114,58,120,61,49,10]⟩ 2).1)=5))) J J<|av<|rt<|r1 J J ?_
 exact⟨apj Value.bool (by exact(apt Aj.2.2)),dq.below⟩
theorem SF {kZ:Int} (hM:eC M w) (oe:cz M w gZ gY h) (agN:aK kZ) (oD:h.flatten.length≤1048576) (aoa:kZ≤64):Calls aM 14 #[R gZ h gY,C kZ] w (ck fun v w'=>∃(a0:OA) (c0:Nat) (a1:OA) (c1:Nat) (a2:OA) (c2:Nat),v=.tuple #[.agg #[.slice a0 (AY h kZ).length c0,.slice a1 (rR h kZ).length c1,.slice a2 (rS h kZ).length c2],.bool (jf h kZ&&fS h)]∧Ext w w'∧RV M w' (.slice a0 (AY h kZ).length c0) (AY h kZ)∧RV M w' (.slice a1 (rR h kZ).length c1) (rR h kZ)∧RV M w' (.slice a2 (rS h kZ).length c2) (rS h kZ)):=by
 refine dv 15 Tryz.func14 J J J hM fun f0 ha H=>?_
 have H0:=dU H oe
 have i0:f0 0=R gZ h gY:=ha 0 bm
 have i1:f0 1=C kZ:=ha 1 bm
 refine aD<|k<|al H0 dt ?_
 intro aX w0 bY (H1:HI M w w0 [box aX #[.slice none 0 0,.slice none 0 0,.slice none 0 0] 47,iL gZ h gY])
 refine au (v:=.bool false) J J<|av<|sq<|aD<|ak J i0<|ak J i1<|k ?_
 have bT:=Oz (h:=h) (m:=kZ) H1.mb (H1.rv 1 J) agN<|by exact oD
 refine ca ak0 J (ec J<|ec J e0) bT ?_
 rintro _ w1 ⟨rfl,cS⟩
 have H2:=H1.ext cS
 refine k<|jr J J<|z<|nx<|cd (b:=!(jf h kZ)) J J (fun b0=>?_)<|fun b0=>?_
 ·
  refine sq ?_
  have z1:=gf ‹(!jf h kZ)=true›
  refine rg<|k<|bd (v:=.agg #[.slice none 0 0,.slice none 0 0,.slice none 0 0]) J eA (fun _=>aV)<|k<|bA H2 0 J dt J J J J J J J ?_
  intro w2 (H3:HI M w w2 [box aX #[.slice none 0 0,.slice none 0 0,.slice none 0 0] 47,iL gZ h gY])
  refine au (v:=.bool false) J J<|av<|rt<|aL<|iB H3 0 J dt J J J J J aw ?_
  have e0:([]:List aY)=AY h kZ:=by unfold AY;rw[z1];rfl
  have e1:([]:List aO)=rR h kZ:=by unfold rR;rw[z1];rfl
  have e2:([]:aE)=rS h kZ:=by unfold rS;rw[z1];rfl
  have e3:(false:Bool)=(jf h kZ&&fS h):=by rw[z1];rfl
  have bt:=Vb (fun (cb:List aY) (dK:List aO) (gF:aE) (lR:Bool)=>(.tuple #[.agg #[.slice none cb.length 0,.slice none dK.length 0,.slice none gF.length 0],.bool lR]:Value)) e0 e1 e2 e3
  exact⟨none,0,none,0,none,0,bt,H3.below,(apj (fun (x_:List aY)=>RV _ _ (.slice none x_.length 0) x_) e0).mp (ep _ _),(apj (fun (x_:List aO)=>RV _ _ (.slice none x_.length 0) x_) e1).mp (ep _ _),(apj (fun (x_:aE)=>RV _ _ (.slice none x_.length 0) x_) e2).mp (ep _ _)⟩
 refine sk<|nx<|sq ?_
 have z1:=fu ‹(!jf h kZ)=false›
 have DI:=(Ju.1 z1).2.1
 refine rg<|ak J i0<|k ?_
 have df:=Wg (h:=h) H2.mb (H2.rv 1 J) aq
 refine ca ak3 J (ec J e0) df ?_
 rintro _ w2 ⟨a0,c0,a1,c1,a2,c2,rfl,fm,cm,dN,dH⟩
 have H3:=H2.ext fm
 have H4:=dU H3 cm
 have H5:=dU H4 dN
 have H6:=dU H5 dH
 refine k<|xt J J J<|k<|xt J J J<|k<|bA H6 3 J dt J J J J J J J ?_
 intro w3 (H7:HI M w w3 [iL a2 (mg h) c2,iL a1 (me h) c1,iL a0 (tQ h) c0,box aX #[R a0 (tQ h) c0,R a1 (me h) c1,R a2 (mg h) c2] 47,iL gZ h gY])
 refine au (v:=.bool (fS h)) J J<|av<|rt<|iB H7 3 J dt J J J J J aw ?_
 have e0:(tQ h:List aY)=AY h kZ:=by unfold AY;rw[z1];rfl
 have e1:(me h:List aO)=rR h kZ:=by unfold rR;rw[z1];rfl
 have e2:(mg h:aE)=rS h kZ:=by unfold rS;rw[z1];rfl
 have e3:(fS h:Bool)=(jf h kZ&&fS h):=by rw[z1];rfl
 have bt:=Vb (fun (cb:List aY) (dK:List aO) (gF:aE) (lR:Bool)=>(.tuple #[.agg #[.slice a0 cb.length c0,.slice a1 dK.length c1,.slice a2 gF.length c2],.bool lR]:Value)) e0 e1 e2 e3
 exact⟨a0,c0,a1,c1,a2,c2,bt,H7.below,(apj (fun (x_:List aY)=>RV _ _ (.slice a0 x_.length c0) x_) e0).mp (H7.fz 2 J),(apj (fun (x_:List aO)=>RV _ _ (.slice a1 x_.length c1) x_) e1).mp (H7.fz 1 J),(apj (fun (x_:aE)=>RV _ _ (.slice a2 x_.length c2) x_) e2).mp (H7.fz 0 J)⟩
theorem Gy:cD aM 40:=cE Tryz.func40
theorem Nr:cD aM 41:=cE Tryz.func41
theorem akx:cD aM 69:=cE Tryz.func69
theorem akI:cD aM 42:=cE Tryz.func42
theorem vt (hM:eC M w) (mR:cz M w fX gb l) (RG:aK n1):Calls aM 41 #[R fX l gb,C n1] w (ck fun v w'=>v=.bool (iM l n1)∧Ext w w'):=by
 refine dv 18 Tryz.func41 J J J hM fun f0 ha H=>?_
 have H0:=dU H mR
 have F6:=bg mR
 have i0:f0 0=R fX l gb:=ha 0 bm
 have i1:f0 1=C n1:=ha 1 bm
 refine aD<|au (v:=.bool false) J J<|av<|sq<|aD<|au (v:=C 0) J J<|av<|bk<|lp (fun m f w'=>∃(j_:Nat),m=l.length-j_∧f 0=R fX l gb∧f 1=C n1∧f 5=C (j_:Int)∧HI M w w' [iL fX l gb]∧(j_≤l.length)∧((l.take j_).any (fun z_=>decide (z_=n1))=false)) _ ⟨0,J,i0,i1,(bH J),H0,aq,bm⟩ ?_
 rintro _ f0 w0 ⟨j_,rfl,s0,s1,s2,H1,kb,hs⟩
 refine sq<|aD<|ak J s2<|ak J s0<|k<|dP J J cw<|k<|lss J J J J<|z<|nx<|cd (b:=decide ((j_:Int)<(l.length:Int))) J J (fun b0=>?_)<|fun b0=>?_
 ·
  have p0:=dT b0
  refine sk<|nx<|sq<|bk<|aD<|ak J s0<|ak J s2<|k<|ia (H1.rv 0 J) J J J J aq cw aT ?_
  intro iy x0 aN cB
  refine k<|kF cB.w aT J J ?_
  intro cm
  refine ak J s1<|k<|eql J J J J<|z<|nx<|cd (b:=decide (x0=n1)) J J (fun b1=>?_)<|fun b1=>?_
  ·
   refine aD<|au (v:=.bool true) J J<|av<|rt<|bI<|aL<|du<|bI<|aL<|r1 J J ?_
   exact⟨apj Value.bool (by exact abN aN b1),H1.below⟩
  have p1:=dF b1
  refine sk<|aH<|nx<|rg<|ak J s2<|k<|add J J J J aS<|au (v:=C ((j_:Int)+1)) J J<|z<|bB _ ?_ ⟨(j_+1),J,s0,s1,(bH J),H1,aq,(by exact oF aN hs b1)⟩
  omega
 have p0:=dF b0
 refine ex<|aW<|ba<|bh<|cQ<|au (v:=.bool false) J J<|av<|rt<|r1 J J ?_
 exact⟨apj Value.bool (by exact abO hs aq),H1.below⟩
theorem pK (hM:eC M w) (cW:cz M w aA az I) (RG:aK n1):Calls aM 40 #[.agg #[.slice aC aF aB,R aA I az,.slice ay dY ax],C n1] w (ck fun v w'=>v=.bool (iI I n1)∧Ext w w'):=by
 refine dv 14 Tryz.func40 J J J hM fun f0 ha H=>?_
 have H0:=dU H cW
 have i0:f0 0=.agg #[.slice aC aF aB,R aA I az,.slice ay dY ax]:=ha 0 bm
 have i1:f0 1=C n1:=ha 1 bm
 refine aD<|k<|bx H0 J i0 ?_
 intro aX w0 bY (H1:HI M w w0 [box aX #[.slice aC aF aB,R aA I az,.slice ay dY ax] 47,iL aA I az])
 refine au (v:=.bool false) J J<|bz<|ak J i1<|k<|geq J J J J<|ak (v:=.bool (decide (0≤n1))) J J ?_
 rcases bE (decide (0≤n1)) with b0|b0
 ·
  refine bl J J J b0<|mv J i1<|bl J J J b0<|fa eX J J<|bl J J J b0<|lx H1 0 J ir J J J<|bl J J J b0<|dP J J iK<|bl J J J b0<|lss J J J J<|k<|aQ J J J J b0 J<|au (v:=.bool (decide (n1<(I.length:Int)))) J J<|av<|rt<|r1 J J ?_
  exact⟨apj Value.bool (by simp only[iI,b0,BL]),H1.below⟩
 refine aZ J J J b0<|aZ J J J b0<|aZ J J J b0<|aZ J J J b0<|aZ J J J b0<|k<|cU J J J J b0 J<|au (v:=.bool false) J J<|av<|rt<|r1 J J ?_
 exact⟨apj Value.bool (by simp only[iI,b0,BL]),H1.below⟩
theorem Q1 {v1:Int} (hM:eC M w) (cW:cz M w aA az I) (mR:cz M w fX gb l) (aos:aK v1):Calls aM 69 #[.agg #[.slice aC aF aB,R aA I az,.slice ay dY ax],R fX l gb,C v1] w (ck fun v w'=>v=C (jM I v1 l)∧Ext w w'):=by
 refine dv 49 Tryz.func69 J J J hM fun f0 ha H=>?_
 have H0:=dU H cW
 have H1:=dU H0 mR
 have iE:=bg cW
 have F6:=bg mR
 have i0:f0 0=.agg #[.slice aC aF aB,R aA I az,.slice ay dY ax]:=ha 0 bm
 have i1:f0 1=R fX l gb:=ha 1 bm
 have i2:f0 2=C v1:=ha 2 bm
 refine aD<|k<|bx H1 J i0 ?_
 intro aX w0 bY (H2:HI M w w0 [box aX #[.slice aC aF aB,R aA I az,.slice ay dY ax] 47,iL fX l gb,iL aA I az])
 refine au (v:=C 0) J J<|av<|sq<|aD<|ak J i1<|k<|dP J J cw<|k<|sub J J J J aS<|au (v:=C ((l.length:Int)-1)) J J<|av<|bk<|lp (fun m f w'=>∃(j_:Nat),m=l.length-j_∧f 1=R fX l gb∧f 2=C v1∧f 3=pV aX 0∧f 7=C ((l.length:Int)-1-(j_:Int))∧HI M w w' [box aX #[.slice aC aF aB,R aA I az,.slice ay dY ax] 47,iL fX l gb,iL aA I az]∧(j_≤l.length)∧(jM I v1 l=jM I v1 (l.take<|l.length-j_))) _ ⟨0,J,i1,i2,J,(bH J),H2,aq,(by rw[arS,aqh])⟩ ?_
 rintro _ f0 w1 ⟨j_,rfl,s0,s1,s2,s3,H3,kb,hs⟩
 refine sq<|aD<|ak J s3<|k<|geq J J J J<|z<|nx<|cd (b:=decide (0≤((l.length:Int)-1-(j_:Int)))) J J (fun b0=>?_)<|fun b0=>?_
 ·
  have p0:=dT b0
  refine sk<|nx<|sq<|bk<|sq<|A2 J aV<|kq (fun _ x_=>cC (H3.ext x_) 0 J dt J s2 aw J e1)<|kq (fun _ _=>mv J s0 e1)<|kq (fun _ _=>mv J s3 e1)<|qz (H3.rv 1 J) J J J J aq cw aT ?_
  intro iy x0 aN cB
  refine mC cB.w aT J J ?_
  intro cm
  refine kq (v:=.bool (iI I x0)) (fun v_ x_=>?_) ?_
  ·
   have cc:=pK (I:=I) (n1:=x0) (aC:=aC) (aF:=aF) (aB:=aB) (ay:=ay) (dY:=dY) (ax:=ax) (w:=v_) (H3.ext x_).mb ((H3.ext x_).rv 2 rfl) cm
   exact ca Gy J (ec J<|ec J e0) cc fun _ _ h_=>e2 h_
  refine kq (fun _ _=>mv (v:=.bool (iI I x0)) J J e1) ?_
  rcases bE (iI I x0) with b1|b1
  ·
   refine qy J J J b1<|kq (fun _ _=>fa eX J s2 e1)<|qy J J J b1<|kq (fun _ x_=>lx (H3.ext x_) 0 J ir J J J e1)<|qy J J J b1<|kq (fun _ _=>mv J s0 e1)<|qy J J J b1<|kq (fun _ _=>mv J s3 e1)<|qy J J J b1<|qz (H3.rv 1 J) J J J J aq cw aT ?_
   intro mV x_ pY gx
   obtain rfl:x0=x_:=apm (aN.symm.trans pY)
   refine qy J J J b1<|mC gx.w aT J J ?_
   intro dN
   refine qy J J J b1<|qz (H3.rv 2 J) J J J J (by have h_:=tf (I:=I) (i:=x0) ‹_›;omega) iK jd ?_
   intro jo x1 cO jw
   refine qy J J J b1<|kq (fun _ _=>fa rz J J e1)<|qy J J J b1<|YB ((jw).s2).fst.w n5 J J<|kq (fun _ _=>aQ J J J J b1 J e1)<|kq (fun _ _=>mv (v:=.bool x1.2.2.1) J J e1) ?_
   rcases bE (x1.2.2.1) with b2|b2
   ·
    refine qy J J J b2<|kq (fun _ _=>fa eX J s2 e1)<|qy J J J b2<|kq (fun _ x_=>lx (H3.ext x_) 0 J ir J J J e1)<|qy J J J b2<|kq (fun _ _=>mv J s0 e1)<|qy J J J b2<|kq (fun _ _=>mv J s3 e1)<|qy J J J b2<|qz (H3.rv 1 J) J J J J aq cw aT ?_
    intro nD x_ pY qe
    obtain rfl:x0=x_:=apm (aN.symm.trans pY)
    refine qy J J J b2<|mC qe.w aT J J ?_
    intro dH
    refine qy J J J b2<|qz (H3.rv 2 J) J J J J (by have h_:=tf (I:=I) (i:=x0) ‹_›;omega) iK jd ?_
    intro la x_ pY rr
    obtain rfl:x1=x_:=apm (cO.symm.trans pY)
    refine qy J J J b2<|kq (fun _ _=>fa ry J J e1)<|qy J J J b2<|mC ((rr).s3).fst.w aT J J ?_
    intro ft
    refine qy J J J b2<|kq (fun _ _=>mv J s1 e1)<|qy J J J b2<|kq (fun _ _=>eql J J J J e1)<|kq (fun _ _=>aQ J J J J b2 J e1)<|zq ?_
    intro w2 cS
    have H4:=H3.ext cS
    refine nx<|cd (b:=decide (x1.2.2.2.1=v1)) J J (fun b3=>?_)<|fun b3=>?_
    ·
     refine aD<|ak J s0<|ak J s3<|k<|ia (H4.rv 1 J) J J J J aq cw aT ?_
     intro Ir x2 iY zv
     refine k<|kF zv.w aT J J ?_
     intro iO
     refine au (v:=C x2) J J<|av<|rt<|bI<|aL<|du<|bI<|aL<|r1 J J ?_
     exact⟨apj (Value.int .i64) (by obtain rfl:=apm (aN.symm.trans iY);exact(Rl hs p0 aN<|by rw[Mt b1 cO,b2,b3];rfl).symm),H4.below⟩
    have p3:=dF b3
    refine sk<|aH<|nx<|rg<|ak J s3<|k<|sub J J J J aS<|au (v:=C (((l.length:Int)-1-(j_:Int))-1)) J J<|z<|bB _ ?_ ⟨(j_+1),J,s0,s1,s2,(bH J),H4,aq,(by exact zX hs p0 aN (by rw[Mt b1 cO,b2,b3];rfl))⟩
    omega
   refine qn J J J b2<|qn J J J b2<|qn J J J b2<|qn J J J b2<|qn J J J b2<|qn J J J b2<|qn J J J b2<|qn J J J b2<|qn J J J b2<|qn J J J b2<|qn J J J b2<|kq (fun _ _=>cU J J J J b2 J e1)<|zq ?_
   intro w2 cS
   have H4:=H3.ext cS
   refine nx<|nB J J J<|sk<|aH<|nx<|rg<|ak J s3<|k<|sub J J J J aS<|au (v:=C (((l.length:Int)-1-(j_:Int))-1)) J J<|z<|bB _ ?_ ⟨(j_+1),J,s0,s1,s2,(bH J),H4,aq,(by exact zX hs p0 aN (by rw[Mt b1 cO,b2];rfl))⟩
   omega
  refine qn J J J b1<|qn J J J b1<|qn J J J b1<|qn J J J b1<|qn J J J b1<|qn J J J b1<|qn J J J b1<|qn J J J b1<|qn J J J b1<|kq (fun _ _=>cU J J J J b1 J e1)<|kq (fun _ _=>mv (v:=.bool false) J J e1)<|qn J J J J<|qn J J J J<|qn J J J J<|qn J J J J<|qn J J J J<|qn J J J J<|qn J J J J<|qn J J J J<|qn J J J J<|qn J J J J<|qn J J J J<|kq (fun _ _=>cU J J J J J J e1)<|zq ?_
  intro w2 cS
  have H4:=H3.ext cS
  refine nx<|nB J J J<|sk<|aH<|nx<|rg<|ak J s3<|k<|sub J J J J aS<|au (v:=C (((l.length:Int)-1-(j_:Int))-1)) J J<|z<|bB _ ?_ ⟨(j_+1),J,s0,s1,s2,(bH J),H4,aq,(by exact zX hs p0 aN (by exact aaK b1))⟩
  omega
 have p0:=dF b0
 refine ex<|aW<|ba<|bh<|cQ<|au (v:=C (-1)) J J<|av<|rt<|r1 J J ?_
 exact⟨apj (Value.int .i64) (by exact(TS hs p0).symm),H3.below⟩
theorem Ow (hM:eC M w) (cW:cz M w aA az I) (fC:cz M w ay ax U) (mR:cz M w fX gb l) (Gq:cz M w gM gL kp) (ey:U.length=I.length):Calls aM 42 #[.agg #[.slice aC aF aB,R aA I az,R ay U ax],R fX l gb,R gM kp gL] w (ck fun v w'=>∃(k1:Int),v=.tuple #[C k1,.bool (oT I U l kp)]∧Ext w w'):=by
 refine dv 57 Tryz.func42 J J J hM fun f0 ha H=>?_
 have H0:=dU H cW
 have H1:=dU H0 fC
 have H2:=dU H1 mR
 have H3:=dU H2 Gq
 have iE:=bg cW
 have kh:=bg fC
 have F6:=bg mR
 have Ld:=bg Gq
 have i0:f0 0=.agg #[.slice aC aF aB,R aA I az,R ay U ax]:=ha 0 bm
 have i1:f0 1=R fX l gb:=ha 1 bm
 have i2:f0 2=R gM kp gL:=ha 2 bm
 refine aD<|k<|bx H3 J i0 ?_
 let bf:=[iL gM kp gL,iL fX l gb,iL ay U ax,iL aA I az]
 intro aX w0 bY (H4:HI M w w0 (box aX #[.slice aC aF aB,R aA I az,R ay U ax] 47::bf))
 refine au (v:=C 0) J J<|au (v:=.bool false) J J<|av<|sq<|aD<|au (v:=C 0) J J<|av<|bk<|lp (fun m f w'=>∃(j_:Nat),m=l.length-j_∧f 1=R fX l gb∧f 2=R gM kp gL∧f 3=pV aX 0∧f 8=C (j_:Int)∧HI M w w' (box aX #[.slice aC aF aB,R aA I az,R ay U ax] 47::bf)∧(j_≤l.length)∧((List.range j_).any (rV I U l kp)=false)) _ ⟨0,J,i1,i2,J,(bH J),H4,aq,(by rfl)⟩ ?_
 rintro _ f0 w1 ⟨j_,rfl,s0,s1,s2,s3,H5,kb,hs⟩
 refine sq<|aD<|ak J s3<|ak J s0<|k<|dP J J cw<|k<|lss J J J J<|z<|nx<|cd (b:=decide ((j_:Int)<(l.length:Int))) J J (fun b0=>?_)<|fun b0=>?_
 ·
  have p0:=dT b0
  refine sk<|nx<|sq<|bk<|aD<|ak J s0<|ak J s3<|k<|ia (H5.rv 2 J) J J J J aq cw aT ?_
  intro iy x0 aN cB
  refine k<|kF cB.w aT J J ?_
  intro cm
  refine au (v:=C x0) J J<|av<|sq ?_
  rcases bE (iI I x0) with b1|b1
  ·
   rcases bE (iM kp x0) with b2|b2
   ·
    obtain⟨x1,cO⟩:∃x,I[x0.toNat]? =some x:=⟨_,eB (by have h_:=tf (I:=I) (i:=x0) ‹_›;omega)⟩
    rcases bE (!x1.2.2.1) with b3|b3
    ·
     obtain⟨x3,nr⟩:∃x,U[x0.toNat]? =some x:=⟨_,eB (by have h_:=tf (I:=I) (i:=x0) ‹_›;omega)⟩
     refine dr 34 [eV (.agg #[.slice aC aF aB,R aA I az,R ay U ax]),fun v w'=>v=C x0∧aK (x0),eV (.bool (iI I x0)),eV (.bool (iI I x0)),eV (R gM kp gL),fun v w'=>v=C x0∧aK (x0),eV (.bool (iM kp x0)),eV (.bool (iM kp x0)),eV (.bool (iM kp x0)),eV (pV aX 1),eV (R aA I az),fun v w'=>v=C x0∧aK (x0),fun v w'=>∃(jo:Addr),v=.pointer (some jo)∧At H5.eI w' jo x1,fun v w'=>∃(jo:Addr),v=.pointer (some<|(jo).add 2)∧At H5.eI w' jo x1,eV (.bool x1.2.2.1),eV (.bool (!x1.2.2.1)),eV (.bool (!x1.2.2.1)),eV (.bool (!x1.2.2.1)),eV (pV aX 2),eV (R ay U ax),fun v w'=>v=C x0∧aK (x0),fun v w'=>∃(nD:Addr),v=.pointer (some nD)∧At H5.eI w' nD x3,fun v w'=>v=C x3∧aK (x3),eV (.agg #[.slice aC aF aB,R aA I az,R ay U ax]),eV (R fX l gb),eV (C (j_:Int)),fun v w'=>∃(a0:OA) (c0:Nat),v=R a0 (l.take (j_:Int).toNat) c0∧RV H5.eI w' (R a0 (l.take (j_:Int).toNat) c0) (l.take (j_:Int).toNat),eV (pV aX 1),eV (R aA I az),fun v w'=>v=C x0∧aK (x0),fun v w'=>∃(la:Addr),v=.pointer (some la)∧At H5.eI w' la x1,fun v w'=>∃(la:Addr),v=.pointer (some<|(la).add 3)∧At H5.eI w' la x1,fun v w'=>v=C x1.2.2.2.1∧aK (x1.2.2.2.1),eV (C<|jM I x1.2.2.2.1<|l.take (j_:Int).toNat)] J aV ?_ ?_
     ·
      refine dc (fun _ _ vO sT _=>cC (H5.ext sT) 0 J dt J ((vO 3 J).trans s2) aw J<|d0 J J)<|dc (fun _ _ DK _ _=>mv J (DK 9 J) ⟨_,J,Ext.refl _,⟨J,cm⟩⟩)<|dc (fun f3 fq yx zR vJ=>?_) ?_
      ·
       have cR:=H5.ext zR
       have s4:f3 20=.agg #[.slice aC aF aB,R aA I az,R ay U ax]:=vJ 0 J J
       obtain⟨s5,iO⟩:f3 21=C x0∧aK (x0):=vJ 1 rfl rfl
       have Ih:=pK (I:=I) (n1:=x0) (aC:=aC) (aF:=aF) (aB:=aB) (ay:=ay) (dY:=U.length) (ax:=ax) cR.mb (cR.rv 4 J) iO
       refine ca Gy J (ec s4<|ec s5 e0) Ih ?_
       rintro _ iF ⟨rfl,CH⟩
       exact⟨_,J,CH,J⟩
      refine dc (fun _ _ _ _ oJ=>mv J (oJ 2 J J)<|d0 J J)<|dc (fun f5 oU yw CG rO=>?_) ?_
      ·
       have s7:f5 23=.bool (iI I x0):=rO 3 J J
       refine gy J J s7 b1<|mv J ((yw 2 J).trans s1) ?_
       exact⟨_,J,Ext.refl _,J⟩
      refine dc (fun f6 wJ Cs CF th=>?_) ?_
      ·
       have s8:f6 23=.bool (iI I x0):=th 3 J J
       refine gy J J s8 b1<|mv J (Cs 9 J) ?_
       exact⟨_,J,Ext.refl _,⟨J,cm⟩⟩
      refine dc (fun f7 r8 PV CE pB=>?_) ?_
      ·
       have dA:=H5.ext CE
       have s9:f7 23=.bool (iI I x0):=pB 3 J J
       have ei:f7 24=R gM kp gL:=pB 4 J J
       obtain⟨eR,jK⟩:f7 25=C x0∧aK (x0):=pB 5 rfl rfl
       refine gy J J s9 b1 ?_
       have NL:=vt (l:=kp) (n1:=x0) dA.mb (dA.rv 1 J) jK
       refine ca Nr J (ec ei<|ec eR e0) NL ?_
       rintro _ tD ⟨rfl,QA⟩
       exact⟨_,J,QA,J⟩
      refine dc (fun _ _ _ _ ri=>aQ J J J (ri 3 J J) b1 (ri 6 J J)<|d0 J J)<|dc (fun _ _ _ _ qI=>mv J (qI 7 J J)<|d0 J J)<|dc (fun f10 CM Ki Lv rN=>?_) ?_
      ·
       have gH:f10 28=.bool (iM kp x0):=rN 8 J J
       refine gy J J gH b2<|fa eX J ((Ki 3 J).trans s2) ?_
       exact⟨_,J,Ext.refl _,J⟩
      refine dc (fun f11 CL wE VR lh=>?_) ?_
      ·
       have iQ:=H5.ext VR
       have jZ:f11 28=.bool (iM kp x0):=lh 8 J J
       have kl:f11 29=pV aX 1:=lh 9 J J
       refine gy J J jZ b2<|lx iQ 0 J ir J kl J ?_
       exact⟨_,J,Ext.refl _,J⟩
      refine dc (fun f12 LD Gm Qz r6=>?_) ?_
      ·
       have ln:f12 28=.bool (iM kp x0):=r6 8 J J
       refine gy J J ln b2<|mv J (Gm 9 J) ?_
       exact⟨_,J,Ext.refl _,⟨J,cm⟩⟩
      refine⟨fun _=>⟨fun f13 O2 tX Qy oB=>?_,by rintro _ _ _ x_ ⟨jo,e_,jw⟩;exact⟨jo,e_,jw.lift (Up.ext x_)⟩⟩,?_⟩
      ·
       have iA:=H5.ext Qy
       have ll:f13 28=.bool (iM kp x0):=oB 8 J J
       have lU:f13 30=R aA I az:=oB 10 J J
       obtain⟨nh,i'⟩:f13 31=C x0∧aK (x0):=oB 11 rfl rfl
       refine gy J J ll b2<|ia (iA.rv 4 J) J J lU nh (by have h_:=tf (I:=I) (i:=x0) ‹_›;omega) iK jd ?_
       intro Ir x5 MX zv
       obtain rfl:x1=x5:=apm (cO.symm.trans MX)
       exact⟨_,J,Ext.refl _,⟨Ir,J,zv⟩⟩
      refine⟨fun _=>⟨fun f14 LC Xe ab0 rj=>?_,by rintro _ _ _ x_ ⟨jo,e_,jw⟩;exact⟨jo,e_,jw.lift (Up.ext x_)⟩⟩,?_⟩
      ·
       have oX:f14 28=.bool (iM kp x0):=rj 8 J J
       obtain⟨Iq,uk,Kl⟩:∃(Iq:Addr),f14 32=.pointer (some Iq)∧At H5.eI LC Iq x1:=rj 12 rfl rfl
       refine gy J J oX b2<|fa rz J uk ?_
       exact⟨_,J,Ext.refl _,⟨Iq,J,bu⟩⟩
      refine dc (fun f15 O1 Xd abZ r5=>?_) ?_
      ·
       have oO:=H5.ext abZ
       have vo:f15 28=.bool (iM kp x0):=r5 8 J J
       obtain⟨ZV,xX,Zr⟩:∃(ZV:Addr),f15 33=.pointer (some ((ZV).add 2))∧At H5.eI O1 ZV x1:=r5 13 rfl rfl
       have j9:=oO.put (it:=nO ZV x1) J Zr
       refine gy J J vo b2<|YO (((j9.Fq 0 J)).s2).fst.w n5 J xX ?_
       exact⟨_,J,Ext.refl _,J⟩
      refine dc (fun f16 SA uX anT pe=>?_) ?_
      ·
       have uj:f16 28=.bool (iM kp x0):=pe 8 J J
       have tI:f16 34=.bool x1.2.2.1:=pe 14 J J
       refine gy J J uj b2<|jr J tI ?_
       exact⟨_,J,Ext.refl _,J⟩
      refine dc (fun _ _ _ _ BW=>aQ J J J (BW 8 J J) b2 (BW 15 J J)<|d0 J J)<|dc (fun _ _ _ _ Gj=>mv J (Gj 16 J J)<|d0 J J)<|dc (fun f19 w30 aj3 anS Gi=>?_) ?_
      ·
       have s31:f19 37=.bool (!x1.2.2.1):=Gi 17 J J
       refine gy J J s31 b3<|fa sm J ((aj3 3 J).trans s2) ?_
       exact⟨_,J,Ext.refl _,J⟩
      refine dc (fun f20 w31 aoq ai' DB=>?_) ?_
      ·
       have wm:=H5.ext ai'
       have s32:f20 37=.bool (!x1.2.2.1):=DB 17 J J
       have s33:f20 38=pV aX 2:=DB 18 J J
       refine gy J J s32 b3<|lx wm 0 J qv J s33 J ?_
       exact⟨_,J,Ext.refl _,J⟩
      refine dc (fun f21 w32 aj2 anR Gh=>?_) ?_
      ·
       have s34:f21 37=.bool (!x1.2.2.1):=Gh 17 J J
       refine gy J J s34 b3<|mv J (aj2 9 J) ?_
       exact⟨_,J,Ext.refl _,⟨J,cm⟩⟩
      refine⟨fun _=>⟨fun f22 w33 aop ai_ BV=>?_,by rintro _ _ _ x_ ⟨nD,e_,qe⟩;exact⟨nD,e_,qe.lift (Up.ext x_)⟩⟩,?_⟩
      ·
       have xg:=H5.ext ai_
       have s35:f22 37=.bool (!x1.2.2.1):=BV 17 J J
       have s36:f22 39=R ay U ax:=BV 19 J J
       obtain⟨s37,kN⟩:f22 40=C x0∧aK (x0):=BV 20 rfl rfl
       refine gy J J s35 b3<|ia (xg.rv 3 J) J J s36 s37 (by have h_:=tf (I:=I) (i:=x0) ‹_›;omega) cw aT ?_
       intro ad8 x6 YU hA8
       obtain rfl:x3=x6:=apm (nr.symm.trans YU)
       exact⟨_,J,Ext.refl _,⟨ad8,J,hA8⟩⟩
      refine dc (fun f23 w34 aoo ai9 DA=>?_) ?_
      ·
       have qP:=H5.ext ai9
       have s38:f23 37=.bool (!x1.2.2.1):=DA 17 J J
       obtain⟨ZU,s39,hA9⟩:∃(ZU:Addr),f23 41=.pointer (some ZU)∧At H5.eI w34 ZU x3:=DA 21 rfl rfl
       have xf:=qP.put (it:=nO ZU x3) J hA9
       refine gy J J s38 b3<|kF (xf.Fq 0 J).w aT J s39 ?_
       intro nj
       exact⟨_,J,Ext.refl _,⟨J,nj⟩⟩
      refine dc (fun f24 w35 aj1 ai8 Gg=>?_) ?_
      ·
       have oN:=H5.ext ai8
       have s40:f24 37=.bool (!x1.2.2.1):=Gg 17 J J
       refine gy J J s40 b3<|cC oN 0 J dt J ((aj1 3 J).trans s2) aw J ?_
       exact⟨_,J,Ext.refl _,J⟩
      refine dc (fun f25 w36 aj0 anQ Gf=>?_) ?_
      ·
       have s41:f25 37=.bool (!x1.2.2.1):=Gf 17 J J
       refine gy J J s41 b3<|mv J ((aj0 1 J).trans s0) ?_
       exact⟨_,J,Ext.refl _,J⟩
      refine dc (fun f26 w37 ajZ anP Ge=>?_) ?_
      ·
       have s42:f26 37=.bool (!x1.2.2.1):=Ge 17 J J
       refine gy J J s42 b3<|mv J ((ajZ 8 J).trans s3) ?_
       exact⟨_,J,Ext.refl _,J⟩
      refine⟨fun _=>⟨fun f27 w38 aon ai7 BU=>?_,by rintro _ _ _ x_ ⟨a0,c0,e_,dH⟩;exact⟨a0,c0,e_,dH.lift (Up.ext x_)⟩⟩,?_⟩
      ·
       have VJ:=H5.ext ai7
       have s43:f27 37=.bool (!x1.2.2.1):=BU 17 J J
       have s44:f27 44=R fX l gb:=BU 24 J J
       have s45:f27 45=C (j_:Int):=BU 25 J J
       refine gy J J s43 b3<|Jx (VJ.rv 2 J) J J s44 s45 aq cw aT ?_
       intro a1 c1 n9
       exact⟨_,J,Ext.refl _,⟨a1,c1,J,n9⟩⟩
      refine dc (fun f28 w39 ajY abY Gd=>?_) ?_
      ·
       have s46:f28 37=.bool (!x1.2.2.1):=Gd 17 J J
       refine gy J J s46 b3<|fa eX J ((ajY 3 J).trans s2) ?_
       exact⟨_,J,Ext.refl _,J⟩
      refine dc (fun f29 w40 aom ai6 Dz=>?_) ?_
      ·
       have H49:=H5.ext ai6
       have s47:f29 37=.bool (!x1.2.2.1):=Dz 17 J J
       have s48:f29 47=pV aX 1:=Dz 27 J J
       refine gy J J s47 b3<|lx H49 0 J ir J s48 J ?_
       exact⟨_,J,Ext.refl _,J⟩
      refine dc (fun f30 w41 ajX anO Gc=>?_) ?_
      ·
       have s49:f30 37=.bool (!x1.2.2.1):=Gc 17 J J
       refine gy J J s49 b3<|mv J (ajX 9 J) ?_
       exact⟨_,J,Ext.refl _,⟨J,cm⟩⟩
      refine⟨fun _=>⟨fun f31 w42 aol ai5 BT=>?_,by rintro _ _ _ x_ ⟨la,e_,rr⟩;exact⟨la,e_,rr.lift (Up.ext x_)⟩⟩,?_⟩
      ·
       have H51:=H5.ext ai5
       have s50:f31 37=.bool (!x1.2.2.1):=BT 17 J J
       have s51:f31 48=R aA I az:=BT 28 J J
       obtain⟨s52,qT⟩:f31 49=C x0∧aK (x0):=BT 29 rfl rfl
       refine gy J J s50 b3<|ia (H51.rv 4 J) J J s51 s52 (by have h_:=tf (I:=I) (i:=x0) ‹_›;omega) iK jd ?_
       intro ak' x7 hx7 akj
       obtain rfl:x1=x7:=apm (cO.symm.trans hx7)
       exact⟨_,J,Ext.refl _,⟨ak',J,akj⟩⟩
      refine⟨fun _=>⟨fun f32 w43 aok abX Dy=>?_,by rintro _ _ _ x_ ⟨la,e_,rr⟩;exact⟨la,e_,rr.lift (Up.ext x_)⟩⟩,?_⟩
      ·
       have s53:f32 37=.bool (!x1.2.2.1):=Dy 17 J J
       obtain⟨Sg,s54,aoz⟩:∃(Sg:Addr),f32 50=.pointer (some Sg)∧At H5.eI w43 Sg x1:=Dy 30 rfl rfl
       refine gy J J s53 b3<|fa ry J s54 ?_
       exact⟨_,J,Ext.refl _,⟨Sg,J,bu⟩⟩
      refine dc (fun f33 w44 aoj ai4 Dx=>?_) ?_
      ·
       have H54:=H5.ext ai4
       have s55:f33 37=.bool (!x1.2.2.1):=Dx 17 J J
       obtain⟨Sf,s56,aki⟩:∃(Sf:Addr),f33 51=.pointer (some ((Sf).add 3))∧At H5.eI w44 Sf x1:=Dx 31 rfl rfl
       have H55:=H54.put (it:=nO Sf x1) J aki
       refine gy J J s55 b3<|kF (((H55.Fq 0 J)).s3).fst.w aT J s56 ?_
       intro nR
       exact⟨_,J,Ext.refl _,⟨J,nR⟩⟩
      refine dc (fun f34 w45 aoi VQ z6=>?_) ?_
      ·
       have H56:=H5.ext VQ
       have s57:f34 37=.bool (!x1.2.2.1):=z6 17 J J
       have s58:f34 43=.agg #[.slice aC aF aB,R aA I az,R ay U ax]:=z6 23 J J
       obtain⟨a2,c2,s59,mA⟩:∃(a2:OA) (c2:Nat),f34 46=R a2 (l.take (j_:Int).toNat) c2∧RV H5.eI w45 (R a2 (l.take (j_:Int).toNat) c2) (l.take (j_:Int).toNat):=z6 26 rfl rfl
       have VH:=dU H56 mA
       obtain⟨s60,pI⟩:f34 52=C x1.2.2.2.1∧aK (x1.2.2.2.1):=z6 32 rfl rfl
       refine gy J J s57 b3 ?_
       have ak_:=Q1 (I:=I) (l:=(l.take (j_:Int).toNat)) (v1:=x1.2.2.2.1) (aC:=aC) (aF:=aF) (aB:=aB) (ay:=ay) (dY:=U.length) (ax:=ax) VH.mb (VH.rv 5 J) (VH.rv 0 J) pI
       refine ca akx J (ec s58<|ec s59<|ec s60 e0) ak_ ?_
       rintro _ w46 ⟨rfl,ai3⟩
       exact⟨_,J,ai3,J⟩
      exact j4.rest J _
     ·
      intro f35 w47 pN ai2 BS
      have Z3:=H5.ext ai2
      have L7:=(pN 1 J).trans s0
      have L6:=(pN 2 J).trans s1
      have L5:=(pN 3 J).trans s2
      have JA:=(pN 8 J).trans s3
      have CX:=BS 17 J
      obtain⟨s66,qx⟩:f35 42=C x3∧aK (x3):=BS 22 rfl
      have s67:=BS 33 J
      refine bl J J CX b3<|neq J J s66 s67<|k<|aQ J J J CX b3 J<|z<|nx<|cd (b:=!decide (x3=(jM I x1.2.2.2.1<|l.take (j_:Int).toNat))) J J (fun b4=>?_)<|fun b4=>?_
      ·
       have p4:=dF<|gf b4
       refine aD<|ak J JA<|au (v:=C (j_:Int)) J J<|au (v:=.bool true) J J<|av<|rt<|bI<|aL<|du<|bI<|aL<|r2 J J J ?_
       have e1:(true:Bool)=oT I U l kp:=by exact Sr p0 ((St (k:=j_) aN cO nr b1 b2 b3).trans b4)
       have bt:=iD (fun (dK:Bool)=>(.tuple #[C (j_:Int),.bool dK]:Value)) e1
       exact⟨(j_:Int),bt,Z3.below⟩
      have p4:=dT<|fu b4
      refine sk<|aH<|nx<|rg<|ak J JA<|k<|add J J J J aS<|au (v:=C ((j_:Int)+1)) J J<|z<|bB _ ?_ ⟨(j_+1),J,L7,L6,L5,(bH J),Z3,aq,(by exact G4 hs (by exact(St (k:=j_) aN cO nr b1 b2 b3).trans b4))⟩
      omega
    refine dr 34 [eV (.agg #[.slice aC aF aB,R aA I az,R ay U ax]),fun v w'=>v=C x0∧aK (x0),eV (.bool (iI I x0)),eV (.bool (iI I x0)),eV (R gM kp gL),fun v w'=>v=C x0∧aK (x0),eV (.bool (iM kp x0)),eV (.bool (iM kp x0)),eV (.bool (iM kp x0)),eV (pV aX 1),eV (R aA I az),fun v w'=>v=C x0∧aK (x0),fun v w'=>∃(jo:Addr),v=.pointer (some jo)∧At H5.eI w' jo x1,fun v w'=>∃(jo:Addr),v=.pointer (some<|(jo).add 2)∧At H5.eI w' jo x1,eV (.bool x1.2.2.1),eV (.bool (!x1.2.2.1)),eV (.bool (!x1.2.2.1)),eV (.bool (!x1.2.2.1)),eV undef,eV undef,eV undef,eV undef,eV undef,eV undef,eV undef,eV undef,eV undef,eV undef,eV undef,eV undef,eV undef,eV undef,eV undef,eV undef] J aV ?_ ?_
    ·
     refine dc (fun _ _ vO lj _=>cC (H5.ext lj) 0 J dt J ((vO 3 J).trans s2) aw J<|d0 J J)<|dc (fun _ _ DK _ _=>mv J (DK 9 J) ⟨_,J,Ext.refl _,⟨J,cm⟩⟩)<|dc (fun f3 ew yx xK vJ=>?_) ?_
     ·
      have dR:=H5.ext xK
      have s4:f3 20=.agg #[.slice aC aF aB,R aA I az,R ay U ax]:=vJ 0 J J
      obtain⟨s5,dN⟩:f3 21=C x0∧aK (x0):=vJ 1 rfl rfl
      have A5:=pK (I:=I) (n1:=x0) (aC:=aC) (aF:=aF) (aB:=aB) (ay:=ay) (dY:=U.length) (ax:=ax) dR.mb (dR.rv 4 J) dN
      refine ca Gy J (ec s4<|ec s5 e0) A5 ?_
      rintro _ fq ⟨rfl,zR⟩
      exact⟨_,J,zR,J⟩
     refine dc (fun _ _ _ _ oJ=>mv J (oJ 2 J J)<|d0 J J)<|dc (fun f5 jF yw Bc rO=>?_) ?_
     ·
      have s7:f5 23=.bool (iI I x0):=rO 3 J J
      refine gy J J s7 b1<|mv J ((yw 2 J).trans s1) ?_
      exact⟨_,J,Ext.refl _,J⟩
     refine dc (fun f6 oU Cs CG th=>?_) ?_
     ·
      have s8:f6 23=.bool (iI I x0):=th 3 J J
      refine gy J J s8 b1<|mv J (Cs 9 J) ?_
      exact⟨_,J,Ext.refl _,⟨J,cm⟩⟩
     refine dc (fun f7 wJ PV CF pB=>?_) ?_
     ·
      have cJ:=H5.ext CF
      have s9:f7 23=.bool (iI I x0):=pB 3 J J
      have ei:f7 24=R gM kp gL:=pB 4 J J
      obtain⟨eR,dH⟩:f7 25=C x0∧aK (x0):=pB 5 rfl rfl
      refine gy J J s9 b1 ?_
      have Ih:=vt (l:=kp) (n1:=x0) cJ.mb (cJ.rv 1 J) dH
      refine ca Nr J (ec ei<|ec eR e0) Ih ?_
      rintro _ r8 ⟨rfl,CE⟩
      exact⟨_,J,CE,J⟩
     refine dc (fun _ _ _ _ ri=>aQ J J J (ri 3 J J) b1 (ri 6 J J)<|d0 J J)<|dc (fun _ _ _ _ qI=>mv J (qI 7 J J)<|d0 J J)<|dc (fun f10 vk Ki IA rN=>?_) ?_
     ·
      have gH:f10 28=.bool (iM kp x0):=rN 8 J J
      refine gy J J gH b2<|fa eX J ((Ki 3 J).trans s2) ?_
      exact⟨_,J,Ext.refl _,J⟩
     refine dc (fun f11 CM wE Lv lh=>?_) ?_
     ·
      have gl:=H5.ext Lv
      have jZ:f11 28=.bool (iM kp x0):=lh 8 J J
      have kl:f11 29=pV aX 1:=lh 9 J J
      refine gy J J jZ b2<|lx gl 0 J ir J kl J ?_
      exact⟨_,J,Ext.refl _,J⟩
     refine dc (fun f12 CL Gm VR r6=>?_) ?_
     ·
      have ln:f12 28=.bool (iM kp x0):=r6 8 J J
      refine gy J J ln b2<|mv J (Gm 9 J) ?_
      exact⟨_,J,Ext.refl _,⟨J,cm⟩⟩
     refine⟨fun _=>⟨fun f13 LD tX Qz oB=>?_,by rintro _ _ _ x_ ⟨jo,e_,jw⟩;exact⟨jo,e_,jw.lift (Up.ext x_)⟩⟩,?_⟩
     ·
      have iQ:=H5.ext Qz
      have ll:f13 28=.bool (iM kp x0):=oB 8 J J
      have lU:f13 30=R aA I az:=oB 10 J J
      obtain⟨nh,ft⟩:f13 31=C x0∧aK (x0):=oB 11 rfl rfl
      refine gy J J ll b2<|ia (iQ.rv 4 J) J J lU nh (by have h_:=tf (I:=I) (i:=x0) ‹_›;omega) iK jd ?_
      intro nD x3 nr qe
      obtain rfl:x1=x3:=apm (cO.symm.trans nr)
      exact⟨_,J,Ext.refl _,⟨nD,J,qe⟩⟩
     refine⟨fun _=>⟨fun f14 O2 Xe Qy rj=>?_,by rintro _ _ _ x_ ⟨jo,e_,jw⟩;exact⟨jo,e_,jw.lift (Up.ext x_)⟩⟩,?_⟩
     ·
      have oX:f14 28=.bool (iM kp x0):=rj 8 J J
      obtain⟨la,uk,rr⟩:∃(la:Addr),f14 32=.pointer (some la)∧At H5.eI O2 la x1:=rj 12 rfl rfl
      refine gy J J oX b2<|fa rz J uk ?_
      exact⟨_,J,Ext.refl _,⟨la,J,bu⟩⟩
     refine dc (fun f15 LC Xd ab0 r5=>?_) ?_
     ·
      have pF:=H5.ext ab0
      have vo:f15 28=.bool (iM kp x0):=r5 8 J J
      obtain⟨Ir,xX,zv⟩:∃(Ir:Addr),f15 33=.pointer (some ((Ir).add 2))∧At H5.eI LC Ir x1:=r5 13 rfl rfl
      have kC:=pF.put (it:=nO Ir x1) J zv
      refine gy J J vo b2<|YO (((kC.Fq 0 J)).s2).fst.w n5 J xX ?_
      exact⟨_,J,Ext.refl _,J⟩
     refine dc (fun f16 O1 uX abZ pe=>?_) ?_
     ·
      have uj:f16 28=.bool (iM kp x0):=pe 8 J J
      have tI:f16 34=.bool x1.2.2.1:=pe 14 J J
      refine gy J J uj b2<|jr J tI ?_
      exact⟨_,J,Ext.refl _,J⟩
     refine dc (fun _ _ _ _ BW=>aQ J J J (BW 8 J J) b2 (BW 15 J J)<|d0 J J)<|dc (fun _ _ _ _ Gj=>mv J (Gj 16 J J)<|d0 J J)<|dc (fun _ _ _ _ Gi=>gn J J (Gi 17 J J) b3<|d0 J J)<|dc (fun _ _ _ _ DB=>gn J J (DB 17 J J) b3<|d0 J J)<|dc (fun _ _ _ _ Gh=>gn J J (Gh 17 J J) b3<|d0 J J)<|dc (fun _ _ _ _ BV=>gn J J (BV 17 J J) b3<|d0 J J)<|dc (fun _ _ _ _ DA=>gn J J (DA 17 J J) b3<|d0 J J)<|dc (fun _ _ _ _ Gg=>gn J J (Gg 17 J J) b3<|d0 J J)<|dc (fun _ _ _ _ Gf=>gn J J (Gf 17 J J) b3<|d0 J J)<|dc (fun _ _ _ _ Ge=>gn J J (Ge 17 J J) b3<|d0 J J)<|dc (fun _ _ _ _ BU=>gn J J (BU 17 J J) b3<|d0 J J)<|dc (fun _ _ _ _ Gd=>gn J J (Gd 17 J J) b3<|d0 J J)<|dc (fun _ _ _ _ Dz=>gn J J (Dz 17 J J) b3<|d0 J J)<|dc (fun _ _ _ _ Gc=>gn J J (Gc 17 J J) b3<|d0 J J)<|dc (fun _ _ _ _ BT=>gn J J (BT 17 J J) b3<|d0 J J)<|dc (fun _ _ _ _ Dy=>gn J J (Dy 17 J J) b3<|d0 J J)<|dc (fun _ _ _ _ Dx=>gn J J (Dx 17 J J) b3<|d0 J J)<|dc (fun _ _ _ _ z6=>gn J J (z6 17 J J) b3<|d0 J J) ?_
     exact j4.rest J _
    ·
     intro f35 w45 pN VQ BS
     have H51:=H5.ext VQ
     have L7:=(pN 1 J).trans s0
     have L6:=(pN 2 J).trans s1
     have L5:=(pN 3 J).trans s2
     have JA:=(pN 8 J).trans s3
     have CX:=BS 17 J
     refine aZ J J CX b3<|k<|cU J J J CX b3 J<|av<|nB J J J<|sk<|aH<|nx<|rg<|ak J JA<|k<|add J J J J aS<|au (v:=C ((j_:Int)+1)) J J<|z<|bB _ ?_ ⟨(j_+1),J,L7,L6,L5,(bH J),H51,aq,(by exact G4 hs (by exact ab5 aN cO b3))⟩
     omega
   refine dr 34 [eV (.agg #[.slice aC aF aB,R aA I az,R ay U ax]),fun v w'=>v=C x0∧aK (x0),eV (.bool (iI I x0)),eV (.bool (iI I x0)),eV (R gM kp gL),fun v w'=>v=C x0∧aK (x0),eV (.bool (iM kp x0)),eV (.bool (iM kp x0)),eV (.bool (iM kp x0)),eV undef,eV undef,eV undef,eV undef,eV undef,eV undef,eV undef,eV (.bool false),eV (.bool false),eV undef,eV undef,eV undef,eV undef,eV undef,eV undef,eV undef,eV undef,eV undef,eV undef,eV undef,eV undef,eV undef,eV undef,eV undef,eV undef] J aV ?_ ?_
   ·
    refine dc (fun _ _ vO jE _=>cC (H5.ext jE) 0 J dt J ((vO 3 J).trans s2) aw J<|d0 J J)<|dc (fun _ _ DK _ _=>mv J (DK 9 J) ⟨_,J,Ext.refl _,⟨J,cm⟩⟩)<|dc (fun f3 w9 yx lj vJ=>?_) ?_
    ·
     have dq:=H5.ext lj
     have s4:f3 20=.agg #[.slice aC aF aB,R aA I az,R ay U ax]:=vJ 0 J J
     obtain⟨s5,dN⟩:f3 21=C x0∧aK (x0):=vJ 1 rfl rfl
     have mx:=pK (I:=I) (n1:=x0) (aC:=aC) (aF:=aF) (aB:=aB) (ay:=ay) (dY:=U.length) (ax:=ax) dq.mb (dq.rv 4 J) dN
     refine ca Gy J (ec s4<|ec s5 e0) mx ?_
     rintro _ dL ⟨rfl,sT⟩
     exact⟨_,J,sT,J⟩
    refine dc (fun _ _ _ _ oJ=>mv J (oJ 2 J J)<|d0 J J)<|dc (fun f5 fq yw zR rO=>?_) ?_
    ·
     have s7:f5 23=.bool (iI I x0):=rO 3 J J
     refine gy J J s7 b1<|mv J ((yw 2 J).trans s1) ?_
     exact⟨_,J,Ext.refl _,J⟩
    refine dc (fun f6 iF Cs CH th=>?_) ?_
    ·
     have s8:f6 23=.bool (iI I x0):=th 3 J J
     refine gy J J s8 b1<|mv J (Cs 9 J) ?_
     exact⟨_,J,Ext.refl _,⟨J,cm⟩⟩
    refine dc (fun f7 jF PV Bc pB=>?_) ?_
    ·
     have dX:=H5.ext Bc
     have s9:f7 23=.bool (iI I x0):=pB 3 J J
     have ei:f7 24=R gM kp gL:=pB 4 J J
     obtain⟨eR,dH⟩:f7 25=C x0∧aK (x0):=pB 5 rfl rfl
     refine gy J J s9 b1 ?_
     have yL:=vt (l:=kp) (n1:=x0) dX.mb (dX.rv 1 J) dH
     refine ca Nr J (ec ei<|ec eR e0) yL ?_
     rintro _ oU ⟨rfl,CG⟩
     exact⟨_,J,CG,J⟩
    refine dc (fun _ _ _ _ ri=>aQ J J J (ri 3 J J) b1 (ri 6 J J)<|d0 J J)<|dc (fun _ _ _ _ qI=>mv J (qI 7 J J)<|d0 J J)<|dc (fun _ _ _ _ rN=>gn J J (rN 8 J J) b2<|d0 J J)<|dc (fun _ _ _ _ lh=>gn J J (lh 8 J J) b2<|d0 J J)<|dc (fun _ _ _ _ r6=>gn J J (r6 8 J J) b2<|d0 J J)<|dc (fun _ _ _ _ oB=>gn J J (oB 8 J J) b2<|d0 J J)<|dc (fun _ _ _ _ rj=>gn J J (rj 8 J J) b2<|d0 J J)<|dc (fun _ _ _ _ r5=>gn J J (r5 8 J J) b2<|d0 J J)<|dc (fun _ _ _ _ pe=>gn J J (pe 8 J J) b2<|d0 J J)<|dc (fun _ _ _ _ BW=>cU J J J (BW 8 J J) b2 J<|d0 J J)<|dc (fun _ _ _ _ Gj=>mv J (Gj 16 J J)<|d0 J J)<|dc (fun _ _ _ _ Gi=>gn J J (Gi 17 J J) J<|d0 J J)<|dc (fun _ _ _ _ DB=>gn J J (DB 17 J J) J<|d0 J J)<|dc (fun _ _ _ _ Gh=>gn J J (Gh 17 J J) J<|d0 J J)<|dc (fun _ _ _ _ BV=>gn J J (BV 17 J J) J<|d0 J J)<|dc (fun _ _ _ _ DA=>gn J J (DA 17 J J) J<|d0 J J)<|dc (fun _ _ _ _ Gg=>gn J J (Gg 17 J J) J<|d0 J J)<|dc (fun _ _ _ _ Gf=>gn J J (Gf 17 J J) J<|d0 J J)<|dc (fun _ _ _ _ Ge=>gn J J (Ge 17 J J) J<|d0 J J)<|dc (fun _ _ _ _ BU=>gn J J (BU 17 J J) J<|d0 J J)<|dc (fun _ _ _ _ Gd=>gn J J (Gd 17 J J) J<|d0 J J)<|dc (fun _ _ _ _ Dz=>gn J J (Dz 17 J J) J<|d0 J J)<|dc (fun _ _ _ _ Gc=>gn J J (Gc 17 J J) J<|d0 J J)<|dc (fun _ _ _ _ BT=>gn J J (BT 17 J J) J<|d0 J J)<|dc (fun _ _ _ _ Dy=>gn J J (Dy 17 J J) J<|d0 J J)<|dc (fun _ _ _ _ Dx=>gn J J (Dx 17 J J) J<|d0 J J)<|dc (fun _ _ _ _ z6=>gn J J (z6 17 J J) J<|d0 J J) ?_
    exact j4.rest J _
   ·
    intro f35 w43 pN abX BS
    have VI:=H5.ext abX
    have L7:=(pN 1 J).trans s0
    have L6:=(pN 2 J).trans s1
    have L5:=(pN 3 J).trans s2
    have JA:=(pN 8 J).trans s3
    have CX:=BS 17 J
    refine aZ J J CX J<|k<|cU J J J CX J J<|av<|nB J J J<|sk<|aH<|nx<|rg<|ak J JA<|k<|add J J J J aS<|au (v:=C ((j_:Int)+1)) J J<|z<|bB _ ?_ ⟨(j_+1),J,L7,L6,L5,(bH J),VI,aq,(by exact G4 hs (by exact Z' aN b2))⟩
    omega
  refine dr 34 [eV (.agg #[.slice aC aF aB,R aA I az,R ay U ax]),fun v w'=>v=C x0∧aK (x0),eV (.bool (iI I x0)),eV (.bool (iI I x0)),eV undef,eV undef,eV undef,eV (.bool false),eV (.bool false),eV undef,eV undef,eV undef,eV undef,eV undef,eV undef,eV undef,eV (.bool false),eV (.bool false),eV undef,eV undef,eV undef,eV undef,eV undef,eV undef,eV undef,eV undef,eV undef,eV undef,eV undef,eV undef,eV undef,eV undef,eV undef,eV undef] J aV ?_ ?_
  ·
   refine dc (fun _ _ vO fg _=>cC (H5.ext fg) 0 J dt J ((vO 3 J).trans s2) aw J<|d0 J J)<|dc (fun _ _ DK _ _=>mv J (DK 9 J) ⟨_,J,Ext.refl _,⟨J,cm⟩⟩)<|dc (fun f3 w6 yx je vJ=>?_) ?_
   ·
    have dB:=H5.ext je
    have s4:f3 20=.agg #[.slice aC aF aB,R aA I az,R ay U ax]:=vJ 0 J J
    obtain⟨s5,dN⟩:f3 21=C x0∧aK (x0):=vJ 1 rfl rfl
    have fF:=pK (I:=I) (n1:=x0) (aC:=aC) (aF:=aF) (aB:=aB) (ay:=ay) (dY:=U.length) (ax:=ax) dB.mb (dB.rv 4 J) dN
    refine ca Gy J (ec s4<|ec s5 e0) fF ?_
    rintro _ w7 ⟨rfl,jE⟩
    exact⟨_,J,jE,J⟩
   refine dc (fun _ _ _ _ oJ=>mv J (oJ 2 J J)<|d0 J J)<|dc (fun _ _ _ _ rO=>gn J J (rO 3 J J) b1<|d0 J J)<|dc (fun _ _ _ _ th=>gn J J (th 3 J J) b1<|d0 J J)<|dc (fun _ _ _ _ pB=>gn J J (pB 3 J J) b1<|d0 J J)<|dc (fun _ _ _ _ ri=>cU J J J (ri 3 J J) b1 J<|d0 J J)<|dc (fun _ _ _ _ qI=>mv J (qI 7 J J)<|d0 J J)<|dc (fun _ _ _ _ rN=>gn J J (rN 8 J J) J<|d0 J J)<|dc (fun _ _ _ _ lh=>gn J J (lh 8 J J) J<|d0 J J)<|dc (fun _ _ _ _ r6=>gn J J (r6 8 J J) J<|d0 J J)<|dc (fun _ _ _ _ oB=>gn J J (oB 8 J J) J<|d0 J J)<|dc (fun _ _ _ _ rj=>gn J J (rj 8 J J) J<|d0 J J)<|dc (fun _ _ _ _ r5=>gn J J (r5 8 J J) J<|d0 J J)<|dc (fun _ _ _ _ pe=>gn J J (pe 8 J J) J<|d0 J J)<|dc (fun _ _ _ _ BW=>cU J J J (BW 8 J J) J J<|d0 J J)<|dc (fun _ _ _ _ Gj=>mv J (Gj 16 J J)<|d0 J J)<|dc (fun _ _ _ _ Gi=>gn J J (Gi 17 J J) J<|d0 J J)<|dc (fun _ _ _ _ DB=>gn J J (DB 17 J J) J<|d0 J J)<|dc (fun _ _ _ _ Gh=>gn J J (Gh 17 J J) J<|d0 J J)<|dc (fun _ _ _ _ BV=>gn J J (BV 17 J J) J<|d0 J J)<|dc (fun _ _ _ _ DA=>gn J J (DA 17 J J) J<|d0 J J)<|dc (fun _ _ _ _ Gg=>gn J J (Gg 17 J J) J<|d0 J J)<|dc (fun _ _ _ _ Gf=>gn J J (Gf 17 J J) J<|d0 J J)<|dc (fun _ _ _ _ Ge=>gn J J (Ge 17 J J) J<|d0 J J)<|dc (fun _ _ _ _ BU=>gn J J (BU 17 J J) J<|d0 J J)<|dc (fun _ _ _ _ Gd=>gn J J (Gd 17 J J) J<|d0 J J)<|dc (fun _ _ _ _ Dz=>gn J J (Dz 17 J J) J<|d0 J J)<|dc (fun _ _ _ _ Gc=>gn J J (Gc 17 J J) J<|d0 J J)<|dc (fun _ _ _ _ BT=>gn J J (BT 17 J J) J<|d0 J J)<|dc (fun _ _ _ _ Dy=>gn J J (Dy 17 J J) J<|d0 J J)<|dc (fun _ _ _ _ Dx=>gn J J (Dx 17 J J) J<|d0 J J)<|dc (fun _ _ _ _ z6=>gn J J (z6 17 J J) J<|d0 J J) ?_
   exact j4.rest J _
  ·
   intro f35 w39 pN abY BS
   have oN:=H5.ext abY
   have L7:=(pN 1 J).trans s0
   have L6:=(pN 2 J).trans s1
   have L5:=(pN 3 J).trans s2
   have JA:=(pN 8 J).trans s3
   have CX:=BS 17 J
   refine aZ J J CX J<|k<|cU J J J CX J J<|av<|nB J J J<|sk<|aH<|nx<|rg<|ak J JA<|k<|add J J J J aS<|au (v:=C ((j_:Int)+1)) J J<|z<|bB _ ?_ ⟨(j_+1),J,L7,L6,L5,(bH J),oN,aq,(by exact G4 hs (by exact Z_ aN b1))⟩
   omega
 have p0:=dF b0
 refine ex<|aW<|ba<|bh<|cQ<|au (v:=C 0) J J<|au (v:=.bool false) J J<|av<|rt<|r2 J J J ?_
 have e1:(false:Bool)=oT I U l kp:=by exact Ss kb p0 hs
 have bt:=iD (fun (dK:Bool)=>(.tuple #[C 0,.bool dK]:Value)) e1
 exact⟨0,bt,H5.below⟩
theorem Ox (hM:eC M w) (cW:cz M w aA az I) (fC:cz M w ay ax U) (mR:cz M w fX gb l) (Gq:cz M w gM gL kp) (ey:U.length=I.length):Calls aM 18 #[.agg #[.slice aC aF aB,R aA I az,R ay U ax],R fX l gb,R gM kp gL] w (ck fun v w'=>v=.bool (pM I U l kp)∧Ext w w'):=by
 refine dv 56 Tryz.func18 J J J hM fun f0 ha H=>?_
 let J0:=iL aA I az
 have H0:=H.put (it:=J0) J<|by rw[bQ];exact cW
 let J1:=iL ay U ax
 have H1:=H0.put (it:=J1) J<|by rw[aG rfl,bQ];exact fC
 have H2:=dU H1 mR
 let J2:=iL gM kp gL
 have H3:=H2.put (it:=J2) J<|by rw[aG rfl,aG rfl,aG rfl,bQ];exact Gq
 have iE:=bg cW
 have kh:=bg fC
 have F6:=bg mR
 have Ld:=bg Gq
 have i0:f0 0=.agg #[.slice aC aF aB,R aA I az,R ay U ax]:=ha 0 bm
 have i1:f0 1=R fX l gb:=ha 1 bm
 have i2:f0 2=R gM kp gL:=ha 2 bm
 refine aD<|k<|bx H3 J i0 ?_
 let bf:=[J2,iL fX l gb,J1,J0]
 intro aX w0 bY (H4:HI M w w0 (box aX #[.slice aC aF aB,R aA I az,R ay U ax] 47::bf))
 let J3:=box aX #[.slice aC aF aB,R aA I az,R ay U ax] 47
 refine au (v:=.bool false) J J<|av<|sq<|aD<|au (v:=C 0) J J<|av<|bk<|lp (fun m f w'=>∃(j_:Nat),m=l.length-j_∧f 1=R fX l gb∧f 2=R gM kp gL∧f 3=pV aX 0∧f 7=C (j_:Int)∧HI M w w' (J3::bf)∧(j_≤l.length)∧((List.range j_).all (vg I l)=true)) _ ⟨0,J,i1,i2,J,(bH J),H4,aq,(by rfl)⟩ ?_
 rintro _ f0 w1 ⟨j_,rfl,s0,s1,s2,s3,H5,kb,hs⟩
 refine sq<|aD<|ak J s3<|ak J s0<|k<|dP J J cw<|k<|lss J J J J<|z<|nx<|cd (b:=decide ((j_:Int)<(l.length:Int))) J J (fun b0=>?_)<|fun b0=>?_
 ·
  have p0:=dT b0
  refine sk<|nx<|sq<|bk<|sq ?_
  obtain⟨x0,aN⟩:∃x,l[(j_:Int).toNat]? =some x:=⟨_,eB aq⟩
  rcases bE (!(iI I x0)) with b1|b1
  ·
   refine dr 15 [eV (.agg #[.slice aC aF aB,R aA I az,R ay U ax]),eV (R fX l gb),eV (C (j_:Int)),fun v w'=>∃(mV:Addr),v=.pointer (some mV)∧At H5.eI w' mV x0,fun v w'=>v=C x0∧aK (x0),eV (.bool (iI I x0)),eV (.bool (!(iI I x0))),eV (.bool (!(iI I x0))),eV undef,eV undef,eV undef,eV undef,eV undef,eV undef,eV undef] J aV ?_ ?_
   ·
    refine dc (fun _ _ vO fg _=>cC (H5.ext fg) 0 J dt J ((vO 3 J).trans s2) aw J<|d0 J J)<|dc (fun _ _ DK _ _=>mv J ((DK 1 J).trans s0)<|d0 J J)<|dc (fun _ _ yx _ _=>mv J ((yx 7 J).trans s3)<|d0 J J) ?_
    refine⟨fun _=>⟨fun f4 w7 hf3 jE oJ=>?_,by rintro _ _ _ x_ ⟨mV,e_,gx⟩;exact⟨mV,e_,gx.lift (Up.ext x_)⟩⟩,?_⟩
    ·
     have cT:=H5.ext jE
     have s4:f4 18=R fX l gb:=oJ 1 J J
     have s5:f4 19=C (j_:Int):=oJ 2 J J
     refine ia (cT.rv 2 J) J J s4 s5 aq cw aT ?_
     intro jo x2 iY jw
     obtain rfl:x0=x2:=apm (aN.symm.trans iY)
     exact⟨_,J,Ext.refl _,⟨jo,J,jw⟩⟩
    refine dc (fun f5 w8 yw lk rO=>?_) ?_
    ·
     have db:=H5.ext lk
     obtain⟨nD,s6,qe⟩:∃(nD:Addr),f5 20=.pointer (some nD)∧At H5.eI w8 nD x0:=rO 3 rfl rfl
     have dq:=db.put (it:=nO nD x0) J qe
     refine kF (dq.Fq 0 J).w aT J s6 ?_
     intro dH
     exact⟨_,J,Ext.refl _,⟨J,dH⟩⟩
    refine dc (fun f6 w9 Cs lj th=>?_) ?_
    ·
     have cM:=H5.ext lj
     have s7:f6 17=.agg #[.slice aC aF aB,R aA I az,R ay U ax]:=th 0 J J
     obtain⟨s8,ft⟩:f6 21=C x0∧aK (x0):=th 4 rfl rfl
     have fF:=pK (I:=I) (n1:=x0) (aC:=aC) (aF:=aF) (aB:=aB) (ay:=ay) (dY:=U.length) (ax:=ax) cM.mb (cM.rv 4 J) ft
     refine ca Gy J (ec s7<|ec s8 e0) fF ?_
     rintro _ dL ⟨rfl,sT⟩
     exact⟨_,J,sT,J⟩
    refine dc (fun _ _ _ _ pB=>jr J (pB 5 J J)<|d0 J J)<|dc (fun _ _ _ _ ri=>mv J (ri 6 J J)<|d0 J J)<|dc (fun _ _ _ _ qI=>gn J J (qI 7 J J) b1<|d0 J J)<|dc (fun _ _ _ _ rN=>gn J J (rN 7 J J) b1<|d0 J J)<|dc (fun _ _ _ _ lh=>gn J J (lh 7 J J) b1<|d0 J J)<|dc (fun _ _ _ _ r6=>gn J J (r6 7 J J) b1<|d0 J J)<|dc (fun _ _ _ _ oB=>gn J J (oB 7 J J) b1<|d0 J J)<|dc (fun _ _ _ _ rj=>gn J J (rj 7 J J) b1<|d0 J J)<|dc (fun _ _ _ _ r5=>gn J J (r5 7 J J) b1<|d0 J J) ?_
    exact j4.rest J _
   ·
    intro f16 vk uX IA pe
    have gl:=H5.ext IA
    have tI:=pe 7 J
    refine aZ J J tI b1<|k<|aQ J J J tI b1 J<|av<|pk J J J<|aD<|au (v:=.bool false) J J<|av<|rt<|bI<|aL<|du<|bI<|aL<|r1 J J ?_
    exact⟨apj Value.bool (by exact PH p0 (by exact abm aN b1)),gl.below⟩
  refine dr 15 [eV (.agg #[.slice aC aF aB,R aA I az,R ay U ax]),eV (R fX l gb),eV (C (j_:Int)),fun v w'=>∃(mV:Addr),v=.pointer (some mV)∧At H5.eI w' mV x0,fun v w'=>v=C x0∧aK (x0),eV (.bool (iI I x0)),eV (.bool (!(iI I x0))),eV (.bool (!(iI I x0))),eV (R fX l gb),eV (C (j_:Int)),fun v w'=>∃(a0:OA) (c0:Nat),v=R a0 (l.take (j_:Int).toNat) c0∧RV H5.eI w' (R a0 (l.take (j_:Int).toNat) c0) (l.take (j_:Int).toNat),eV (R fX l gb),eV (C (j_:Int)),fun v w'=>∃(jo:Addr),v=.pointer (some jo)∧At H5.eI w' jo x0,fun v w'=>v=C x0∧aK (x0)] J aV ?_ ?_
  ·
   refine dc (fun _ _ vO fg _=>cC (H5.ext fg) 0 J dt J ((vO 3 J).trans s2) aw J<|d0 J J)<|dc (fun _ _ DK _ _=>mv J ((DK 1 J).trans s0)<|d0 J J)<|dc (fun _ _ yx _ _=>mv J ((yx 7 J).trans s3)<|d0 J J) ?_
   refine⟨fun _=>⟨fun f4 w7 hf3 jE oJ=>?_,by rintro _ _ _ x_ ⟨mV,e_,gx⟩;exact⟨mV,e_,gx.lift (Up.ext x_)⟩⟩,?_⟩
   ·
    have db:=H5.ext jE
    have s4:f4 18=R fX l gb:=oJ 1 J J
    have s5:f4 19=C (j_:Int):=oJ 2 J J
    refine ia (db.rv 2 J) J J s4 s5 aq cw aT ?_
    intro nD x3 nr qe
    obtain rfl:x0=x3:=apm (aN.symm.trans nr)
    exact⟨_,J,Ext.refl _,⟨nD,J,qe⟩⟩
   refine dc (fun f5 w8 yw lk rO=>?_) ?_
   ·
    have dq:=H5.ext lk
    obtain⟨la,s6,rr⟩:∃(la:Addr),f5 20=.pointer (some la)∧At H5.eI w8 la x0:=rO 3 rfl rfl
    have cM:=dq.put (it:=nO la x0) J rr
    refine kF (cM.Fq 0 J).w aT J s6 ?_
    intro iO
    exact⟨_,J,Ext.refl _,⟨J,iO⟩⟩
   refine dc (fun f6 w9 Cs lj th=>?_) ?_
   ·
    have dR:=H5.ext lj
    have s7:f6 17=.agg #[.slice aC aF aB,R aA I az,R ay U ax]:=th 0 J J
    obtain⟨s8,jK⟩:f6 21=C x0∧aK (x0):=th 4 rfl rfl
    have fF:=pK (I:=I) (n1:=x0) (aC:=aC) (aF:=aF) (aB:=aB) (ay:=ay) (dY:=U.length) (ax:=ax) dR.mb (dR.rv 4 J) jK
    refine ca Gy J (ec s7<|ec s8 e0) fF ?_
    rintro _ dL ⟨rfl,sT⟩
    exact⟨_,J,sT,J⟩
   refine dc (fun _ _ _ _ pB=>jr J (pB 5 J J)<|d0 J J)<|dc (fun _ _ _ _ ri=>mv J (ri 6 J J)<|d0 J J)<|dc (fun f9 iF Ug CH qI=>?_) ?_
   ·
    have eR:f9 24=.bool (!(iI I x0)):=qI 7 J J
    refine gy J J eR b1<|mv J ((Ug 1 J).trans s0) ?_
    exact⟨_,J,Ext.refl _,J⟩
   refine dc (fun f10 jF Ki Bc rN=>?_) ?_
   ·
    have fM:f10 24=.bool (!(iI I x0)):=rN 7 J J
    refine gy J J fM b1<|mv J ((Ki 7 J).trans s3) ?_
    exact⟨_,J,Ext.refl _,J⟩
   refine⟨fun _=>⟨fun f11 oU wE CG lh=>?_,by rintro _ _ _ x_ ⟨a0,c0,e_,dH⟩;exact⟨a0,c0,e_,dH.lift (Up.ext x_)⟩⟩,?_⟩
   ·
    have ef:=H5.ext CG
    have fL:f11 24=.bool (!(iI I x0)):=lh 7 J J
    have gv:f11 25=R fX l gb:=lh 8 J J
    have gH:f11 26=C (j_:Int):=lh 9 J J
    refine gy J J fL b1<|Jx (ef.rv 2 J) J J gv gH aq cw aT ?_
    intro a1 c1 i'
    exact⟨_,J,Ext.refl _,⟨a1,c1,J,i'⟩⟩
   refine dc (fun f12 wJ Gm CF r6=>?_) ?_
   ·
    have jZ:f12 24=.bool (!(iI I x0)):=r6 7 J J
    refine gy J J jZ b1<|mv J ((Gm 1 J).trans s0) ?_
    exact⟨_,J,Ext.refl _,J⟩
   refine dc (fun f13 r8 tX CE oB=>?_) ?_
   ·
    have kl:f13 24=.bool (!(iI I x0)):=oB 7 J J
    refine gy J J kl b1<|mv J ((tX 7 J).trans s3) ?_
    exact⟨_,J,Ext.refl _,J⟩
   refine⟨fun _=>⟨fun f14 tD Xe QA rj=>?_,by rintro _ _ _ x_ ⟨jo,e_,jw⟩;exact⟨jo,e_,jw.lift (Up.ext x_)⟩⟩,?_⟩
   ·
    have gl:=H5.ext QA
    have ln:f14 24=.bool (!(iI I x0)):=rj 7 J J
    have ll:f14 28=R fX l gb:=rj 11 J J
    have lU:f14 29=C (j_:Int):=rj 12 J J
    refine gy J J ln b1<|ia (gl.rv 2 J) J J ll lU aq cw aT ?_
    intro Ir x4 yo zv
    obtain rfl:x0=x4:=apm (aN.symm.trans yo)
    exact⟨_,J,Ext.refl _,⟨Ir,J,zv⟩⟩
   refine dc (fun f15 wI Xd VS r5=>?_) ?_
   ·
    have iR:=H5.ext VS
    have nh:f15 24=.bool (!(iI I x0)):=r5 7 J J
    obtain⟨Iq,oX,Kl⟩:∃(Iq:Addr),f15 30=.pointer (some Iq)∧At H5.eI wI Iq x0:=r5 13 rfl rfl
    have iQ:=iR.put (it:=nO Iq x0) J Kl
    refine gy J J nh b1<|kF (iQ.Fq 0 J).w aT J oX ?_
    intro kN
    exact⟨_,J,Ext.refl _,⟨J,kN⟩⟩
   exact j4.rest J _
  ·
   intro f16 vk uX IA pe
   have mz:=H5.ext IA
   have uk:=(uX 1 J).trans s0
   have vo:=(uX 2 J).trans s1
   have xX:=(uX 3 J).trans s2
   have uj:=(uX 7 J).trans s3
   have tI:=pe 7 J
   obtain⟨a2,c2,L8,nj⟩:∃(a2:OA) (c2:Nat),f16 27=R a2 (l.take (j_:Int).toNat) c2∧RV H5.eI vk (R a2 (l.take (j_:Int).toNat) c2) (l.take (j_:Int).toNat):=pe 10 rfl
   have iA:=dU mz nj
   obtain⟨Pd,n9⟩:f16 31=C x0∧aK (x0):=pe 14 rfl
   refine bl J J tI b1 ?_
   have fc:=vt (l:=(l.take (j_:Int).toNat)) (n1:=x0) iA.mb (iA.rv 0 J) n9
   refine ca Nr J (ec L8<|ec Pd e0) fc ?_
   rintro _ CM ⟨rfl,Lv⟩
   have pF:=iA.ext Lv
   refine k<|cU J J J tI b1 J<|z<|nx<|cd (b:=iM (l.take (j_:Int).toNat) x0) J J (fun b2=>?_)<|fun b2=>?_
   ·
    refine aD<|au (v:=.bool false) J J<|av<|rt<|bI<|aL<|du<|bI<|aL<|r1 J J ?_
    exact⟨apj Value.bool (by exact PH p0 (by exact(P5 (k:=j_) aN b1).trans (apj (fun z_=>!z_) b2))),pF.below⟩
   refine sk<|aH<|nx<|rg<|ak J uj<|k<|add J J J J aS<|au (v:=C ((j_:Int)+1)) J J<|z ?_
   have kC:HI M w CM (J3::bf):=pF.bX [1,2,3,4,5] aw J
   refine bB _ ?_ ⟨(j_+1),J,uk,vo,xX,(bH J),kC,aq,(by exact aax hs ((P5 (k:=j_) aN b1).trans (apj (fun z_=>!z_) b2)))⟩
   omega
 have p0:=dF b0
 refine ex<|aW<|ba<|bh<|nx<|sq<|aD<|au (v:=C 0) J J<|av<|bk<|lp (fun m f w'=>∃(i_:Nat),m=kp.length-i_∧f 1=R fX l gb∧f 2=R gM kp gL∧f 3=pV aX 0∧f 8=C (i_:Int)∧HI M w w' (J3::bf)∧(i_≤kp.length)∧((kp.take i_).all (iM l)=true)) _ ⟨0,J,s0,s1,s2,(bH J),H5,aq,(by rfl)⟩ ?_
 rintro _ f1 w2 ⟨i_,rfl,s4,s5,s6,s7,H6,ti,hq⟩
 refine sq<|aD<|ak J s7<|ak J s5<|k<|dP J J cw<|k<|lss J J J J<|z<|nx<|cd (b:=decide ((i_:Int)<(kp.length:Int))) J J (fun b1=>?_)<|fun b1=>?_
 ·
  have p1:=dT b1
  refine sk<|nx<|sq<|bk<|aD<|ak J s4<|ak J s5<|ak J s7<|k<|ia (H6.rv 1 J) J J J J aq cw aT ?_
  intro iy x0 aN cB
  refine k<|kF cB.w aT J J ?_
  intro cm
  refine k ?_
  have bT:=vt (l:=l) (n1:=x0) H6.mb (H6.rv 2 J) cm
  refine ca Nr J (ec J<|ec J e0) bT ?_
  rintro _ w3 ⟨rfl,cS⟩
  have H7:=H6.ext cS
  refine k<|jr J J<|z<|nx<|cd (b:=!(iM l x0)) J J (fun b2=>?_)<|fun b2=>?_
  ·
   refine aD<|au (v:=.bool false) J J<|av<|rt<|bI<|aL<|du<|bI<|aL<|r1 J J ?_
   exact⟨apj Value.bool (by exact WW aN bu),H7.below⟩
  refine sk<|aH<|nx<|rg<|ak J s7<|k<|add J J J J aS<|au (v:=C ((i_:Int)+1)) J J<|z<|bB _ ?_ ⟨(i_+1),J,s4,s5,s6,(bH J),H7,aq,(by exact X9 aN hq (fu bu))⟩
  omega
 have p1:=dF b1
 refine ex<|aW<|ba<|bh<|cQ<|k<|cC H6 0 J dt J s6 aw J<|ak J s4<|ak J s5<|k ?_
 have bT:=Ow (I:=I) (U:=U) (l:=l) (kp:=kp) (aC:=aC) (aF:=aF) (aB:=aB) H6.mb (H6.rv 4 J) (H6.rv 3 J) (H6.rv 2 J) (H6.rv 1 J) aq
 refine ca akI J (ec J<|ec J<|ec J e0) bT ?_
 rintro _ w3 ⟨o0,rfl,cS⟩
 have H7:=H6.ext cS
 refine ak (v:=.tuple #[C o0,.bool (oT I U l kp)]) J J<|k<|xt J J J<|k<|xt J J J<|au (v:=C o0) J J<|au (v:=.bool (oT I U l kp)) J J<|bz<|ak (v:=.bool (oT I U l kp)) J J<|k<|jr J J<|au (v:=.bool (!(oT I U l kp))) J J<|av<|rt<|r1 J J ?_
 exact⟨apj Value.bool (by exact aa1 kb p0 hs ti p1 hq),H7.below⟩
theorem ak2:cD aM 14:=cE Tryz.func14
theorem go9:cD aM 9:=cE Tryz.func9
theorem ak1:cD aM 18:=cE Tryz.func18
theorem SB:aM.underlying 4=some (.bool):=aV
theorem MM {l:List (Bool×aY×Int)} (hM:eC M w) (hT:fY 0 w) (mR:cz M w fX gb l) (Nh:l.length≤1048576):Calls aM 7 #[R fX l gb] w (ck fun v w'=>v=.bool true∧Ext w w'):=by
 refine dv 61 Tryz.func7 J J J hM fun f0 ha H=>?_
 let J0:=iL fX l gb
 have H0:=H.put (it:=J0) J<|by rw[bQ];exact mR
 have F6:=bg mR
 have i0:f0 0=R fX l gb:=ha 0 bm
 refine aD<|au (v:=.bool false) J J<|bz<|ak J i0<|k<|bs (xs:=([l]:List (List<|Bool×aY×Int))) (cells:=#[R fX l gb]) (e:=40) H0 J (ct J eA) (fun _=>aV) ⟨[R fX l gb],[],J,⟨_,J,RV.list.1 (H0.rv 0 J)⟩,J⟩ J aw ?_
 intro g0 w0 bY H1
 refine au (v:=.slice (some ⟨g0,0,none⟩) 1 1) J J<|bz<|ak (v:=.slice (some ⟨g0,0,none⟩) 1 1) J J<|k ?_
 have H2:=H1.freeze 0 J
 have bT:=SF (h:=([l]:List (List<|Bool×aY×Int))) (kZ:=12) H2.mb (H2.rv 0 J) aS (by simp only[aqU,ar6,aql];exact Nh) aw
 refine ca ak2 J (ec J<|ec J e0) bT ?_
 rintro _ w1 ⟨a0,c0,a1,c1,a2,c2,rfl,cS,cm,dN,dH⟩
 have H3:=H2.ext cS
 let J1:=iL a0 (AY ([l]:List (List (Bool×aY×Int))) 12) c0
 have H4:=H3.put (it:=J1) J cm
 let J2:=iL a1 (rR ([l]:List (List (Bool×aY×Int))) 12) c1
 have H5:=H4.put (it:=J2) J<|by rw[aG J];exact dN
 let J3:=iL a2 (rS ([l]:List (List (Bool×aY×Int))) 12) c2
 have H6:=H5.put (it:=J3) J<|by rw[aG rfl,aG rfl];exact dH
 refine ak (v:=.tuple #[.agg #[R a0 (AY ([l]:List (List<|Bool×aY×Int)) 12) c0,R a1 (rR ([l]:List (List<|Bool×aY×Int)) 12) c1,R a2 (rS ([l]:List (List<|Bool×aY×Int)) 12) c2],.bool (jf ([l]:List (List<|Bool×aY×Int)) 12&&fS ([l]:List (List<|Bool×aY×Int)))]) J J<|k<|xt J J J<|k<|xt J J J<|k<|al H6 dt ?_
 let J4:=sf (.slice (some ⟨g0,0,none⟩) 1 1) ([l]:List (List (Bool×aY×Int)))
 let bf:=[J3,J2,J1,J4,J0]
 intro aX w2 fm (H7:HI M w w2 (box aX #[.slice none 0 0,.slice none 0 0,.slice none 0 0] 47::bf))
 refine k<|bA H7 0 J dt J J J J J J J ?_
 let J5:=box aX #[R a0 (AY ([l]:List (List (Bool×aY×Int))) 12) c0,R a1 (rR ([l]:List (List (Bool×aY×Int))) 12) c1,R a2 (rS ([l]:List (List (Bool×aY×Int))) 12) c2] 47
 intro w3 (H8:HI M w w3 (J5::bf))
 refine au (v:=.bool (jf ([l]:List (List<|Bool×aY×Int)) 12&&fS ([l]:List (List<|Bool×aY×Int)))) J J<|av<|sq<|aD<|ak (v:=.bool (jf ([l]:List (List<|Bool×aY×Int)) 12&&fS ([l]:List (List<|Bool×aY×Int)))) J J<|k<|jr J J<|z<|nx<|cd (b:=!(jf ([l]:List (List<|Bool×aY×Int)) 12&&fS ([l]:List (List<|Bool×aY×Int)))) J J (fun b0=>?_)<|fun b0=>?_
 ·
  refine aD<|k ?_
  have df:=Js (w:=w3)<|hT.ext H8.below
  refine ca go9 J e0 df ?_
  rintro _ w4 ⟨rfl,fg⟩
  have H9:=H8.ext fg
  refine au (v:=.bool true) J J<|av<|rt<|aL<|r1 J J ?_
  exact⟨J,H9.below⟩
 refine sk<|nx<|sq ?_
 obtain⟨uD,uC,ur,DI⟩:=aho (fu ‹(!(jf ([l]:dp) 12&&fS ([l]:dp)))=false›)
 refine rg<|au (v:=.slice none 0 0) J J<|av<|sq<|aD<|au (v:=C 0) J J<|av<|bk ?_
 have H9:=H8.qZ Int 3
 refine lp (fun m f w'=>∃(j_:Nat) (iW:aE) (a3:OA) (c3:Nat),m=l.length-j_∧f 0=R fX l gb∧f 3=R (some ⟨g0,0,none⟩) ([l]:List (List<|Bool×aY×Int)) 1∧f 4=pV aX 0∧f 6=R a3 iW c3∧f 7=C (j_:Int)∧HI M w w' [oL w 3 a3 iW c3,box aX #[R a0 (AY ([l]:List (List<|Bool×aY×Int)) 12) c0,R a1 (rR ([l]:List (List<|Bool×aY×Int)) 12) c1,R a2 (rS ([l]:List (List<|Bool×aY×Int)) 12) c2] 47,iL a2 (rS ([l]:List (List<|Bool×aY×Int)) 12) c2,iL a1 (rR ([l]:List (List<|Bool×aY×Int)) 12) c1,iL a0 (AY ([l]:List (List<|Bool×aY×Int)) 12) c0,sf (.slice (some ⟨g0,0,none⟩) 1 1) ([l]:List (List<|Bool×aY×Int)),J0]∧(j_≤l.length)∧(iW=iS j_)) _ ⟨0,([]:aE),none,0,J,i0,J,J,J,(bH J),H9,aq,(by rfl)⟩ ?_
 rintro _ f0 w4 ⟨j_,iW,a3,c3,rfl,s0,s1,s2,s3,s4,dB,kb,uV⟩
 refine sq<|aD<|ak J s4<|ak J s0<|k<|dP J J oV<|k<|lss J J J J<|z<|nx<|cd (b:=decide ((j_:Int)<(l.length:Int))) J J (fun b1=>?_)<|fun b1=>?_
 ·
  have p1:=dT b1
  refine sk<|nx<|sq<|bk<|rg<|ak J s3<|ak J s4<|k<|bs (xs:=([(j_:Int)]:aE)) (cells:=#[C (j_:Int)]) (e:=3) dB J (ct J eA) (fun _=>aV) ⟨[C (j_:Int)],[],J,⟨J,(show aK ((j_:Int)) from aS)⟩,J⟩ J aw ?_
  intro g1 w5 fg cT
  refine k<|l7 cT 1 J J J J J J (hG<|cT.at_ 0 J) cw aT J (by rw[uV,F8];first|omega|(simp;omega)) J ?_
  intro a4 c4 w6 (db:HI M w w6 (own w.heap.size 3 (.slice (some ⟨g1,0,none⟩) 1 1) ([(j_:Int)]:aE)::oL w 3 a4 (iW++([(j_:Int)]:aE)) c4::J5::bf))
  refine au (v:=R a4 (iW++([(j_:Int)]:aE)) c4) J J<|z<|aH<|nx<|rg<|ak J s4<|k<|add J J J J aS<|au (v:=C ((j_:Int)+1)) J J<|z ?_
  have dq:HI M w w6 (oL w 3 a4 (iW++([(j_:Int)]:aE)) c4::J5::bf):=db.bX [1,2,3,4,5,6,7] aw J
  refine bB _ ?_ ⟨(j_+1),(iW++([(j_:Int)]:aE)),a4,c4,J,s0,s1,s2,J,(bH J),dq,aq,(by rw[TX,uV])⟩
  omega
 have p1:=dF b1
 refine ex<|aW<|ba<|bh<|cQ<|k<|cC dB 1 J dt J s2 aw J<|ak J s3<|ak J s3<|k ?_
 have cT:=dB.freeze 0 J
 have df:=Ox (I:=(rR ([l]:List (List<|Bool×aY×Int)) 12)) (U:=(rS ([l]:List (List<|Bool×aY×Int)) 12)) (l:=iW) (kp:=iW) (aC:=a0) (aF:=(AY ([l]:List (List<|Bool×aY×Int)) 12).length) (aB:=c0) cT.mb (cT.rv 3 J) (cT.rv 2 J) (cT.rv 0 J) (cT.rv 0 J)<|by rw[uD,uC];exact Mv _
 refine ca ak1 J (ec J<|ec J<|ec J e0) df ?_
 rintro _ w5 ⟨rfl,fg⟩
 have db:=dB.ext fg
 refine au (v:=.bool (pM (rR ([l]:List (List<|Bool×aY×Int)) 12) (rS ([l]:List (List<|Bool×aY×Int)) 12) iW iW)) J J<|bz<|ak J s1<|k ?_
 have fF:=sC (h:=([l]:List (List<|Bool×aY×Int))) (lv:=1) db.mb (hT.ext db.below) (db.rv 5 J) aS (by simp only[aqU,ar6,aql];exact Nh)<|by have h_:=DI;omega
 refine ca RP J (ec J<|ec J e0) fF ?_
 rintro _ w6 ⟨o0,o1,o2,o3,o4,o5,o6,o7,a4,c4,a5,c5,a6,c6,a7,c7,rfl,jl,ft,iO,jK,i'⟩
 have dq:=db.ext jl
 let J6:=iL a4 o2 c4
 have cM:=dq.put (it:=J6) J ft
 let J7:=iL a5 o3 c5
 have dR:=cM.put (it:=J7) J<|by rw[aG J];exact iO
 let J8:=iL a6 o4 c6
 have dI:=dR.put (it:=J8) J<|by rw[aG rfl,aG rfl];exact jK
 let J9:=iL a7 o5 c7
 have cR:=dI.put (it:=J9) J<|by rw[aG rfl,aG rfl,aG rfl];exact i'
 refine ak J s1<|k ?_
 have fc:=sC (h:=([l]:List (List<|Bool×aY×Int))) (lv:=2) cR.mb (hT.ext cR.below) (cR.rv 9 J) aS (by simp only[aqU,ar6,aql];exact Nh)<|by have h_:=DI;omega
 refine ca RP J (ec J<|ec J e0) fc ?_
 rintro _ w7 ⟨o8,o9,kQ,fS,ka,zb,Hb,JO,a8,c8,a9,c9,jy,jx,mW,mU,rfl,je,kN,nj,n9,qT⟩
 have dX:=cR.ext je
 let d_:=iL a8 kQ c8
 have dV:=dX.put (it:=d_) J kN
 let eJ:=iL a9 fS c9
 have cJ:=dV.put (it:=eJ) J<|by rw[aG J];exact nj
 let fZ:=iL jy ka jx
 have ef:=cJ.put (it:=fZ) J<|by rw[aG rfl,aG rfl];exact n9
 let fI:=iL mW zb mU
 have dA:=ef.put (it:=fI) J<|by rw[aG rfl,aG rfl,aG rfl];exact qT
 refine ak J s1<|k ?_
 have my:=sC (h:=([l]:List (List<|Bool×aY×Int))) (lv:=3) dA.mb (hT.ext dA.below) (dA.rv 13 J) aS (by simp only[aqU,ar6,aql];exact Nh)<|by have h_:=DI;omega
 refine ca RP J (ec J<|ec J e0) my ?_
 rintro _ w8 ⟨o16,Dh,TG,JN,TF,o21,TE,Px,a12,pD,j3,j2,lz,ly,KF,Kz,rfl,jE,nR,mA,pI,qx⟩
 have fe:=dA.ext jE
 let iz:=iL a12 TG pD
 have fw:=fe.put (it:=iz) J nR
 let nP:=iL j3 JN j2
 have gl:=fw.put (it:=nP) J<|by rw[aG J];exact mA
 let lK:=iL lz TF ly
 have iR:=gl.put (it:=lK) J<|by rw[aG rfl,aG rfl];exact pI
 let rU:=iL KF o21 Kz
 have iQ:=iR.put (it:=rU) J<|by rw[aG rfl,aG rfl,aG rfl];exact qx
 refine k<|al iQ lb ?_
 let ot:=oL w 3 a3 iW c3
 let bZ:=rU::lK::nP::iz::fI::fZ::eJ::d_::J9::J8::J7::J6::ot::J5::bf
 intro bj w9 lk (mz:HI M w w9 (box bj #[C 0,C 0,C 0,C 0,C 0,.bool false,C 0,C 0,.slice none 0 0,.slice none 0 0,.slice none 0 0,C 0,C 0,C 0,C 0,C 0,.slice none 0 0,C 0,C 0] 35::bZ))
 let jI:=box bj #[C 0,C 0,C 0,C 0,C 0,.bool false,C 0,C 0,.slice none 0 0,.slice none 0 0,.slice none 0 0,C 0,C 0,C 0,C 0,C 0,.slice none 0 0,C 0,C 0] 35
 refine k<|al mz lb ?_
 intro bK dL lj (iA:HI M w dL (box bK #[C 0,C 0,C 0,C 0,C 0,.bool false,C 0,C 0,.slice none 0 0,.slice none 0 0,.slice none 0 0,C 0,C 0,C 0,C 0,C 0,.slice none 0 0,C 0,C 0] 35::jI::bZ))
 let pw:=box bK #[C 0,C 0,C 0,C 0,C 0,.bool false,C 0,C 0,.slice none 0 0,.slice none 0 0,.slice none 0 0,C 0,C 0,C 0,C 0,C 0,.slice none 0 0,C 0,C 0] 35
 refine k<|al iA lb ?_
 intro fj ew sT (pF:HI M w ew (box fj #[C 0,C 0,C 0,C 0,C 0,.bool false,C 0,C 0,.slice none 0 0,.slice none 0 0,.slice none 0 0,C 0,C 0,C 0,C 0,C 0,.slice none 0 0,C 0,C 0] 35::pw::jI::bZ))
 let mX:=box fj #[C 0,C 0,C 0,C 0,C 0,.bool false,C 0,C 0,.slice none 0 0,.slice none 0 0,.slice none 0 0,C 0,C 0,C 0,C 0,C 0,.slice none 0 0,C 0,C 0] 35
 refine k<|bA pF 2 J lb J J J J J J J ?_
 let nE:=box bj #[C (pz ([l]:List (List (Bool×aY×Int))) 1),C 0,C ((mQ ([l]:List (List (Bool×aY×Int))) 1).1),C ((mQ ([l]:List (List (Bool×aY×Int))) 1).2),C (tU ([l]:List (List (Bool×aY×Int))) 1),.bool (pA ([l]:List (List (Bool×aY×Int))) 1),C o0,C o1,R a4 o2 c4,R a5 o3 c5,R a6 o4 c6,C ((gW ([l]:List (List (Bool×aY×Int))) 1).1),C ((gW ([l]:List (List (Bool×aY×Int))) 1).2.1),C ((gW ([l]:List (List (Bool×aY×Int))) 1).2.2.1),C ((gW ([l]:List (List (Bool×aY×Int))) 1).2.2.2.1),C ((gW ([l]:List (List (Bool×aY×Int))) 1).2.2.2.2),R a7 o5 c7,C o6,C o7] 35
 intro fq (kC:HI M w fq (mX::pw::nE::bZ))
 refine k<|bA kC 1 J lb J J J J J J J ?_
 let tB:=box bK #[C (pz ([l]:List (List (Bool×aY×Int))) 2),C 0,C ((mQ ([l]:List (List (Bool×aY×Int))) 2).1),C ((mQ ([l]:List (List (Bool×aY×Int))) 2).2),C (tU ([l]:List (List (Bool×aY×Int))) 2),.bool (pA ([l]:List (List (Bool×aY×Int))) 2),C o8,C o9,R a8 kQ c8,R a9 fS c9,R jy ka jx,C ((gW ([l]:List (List (Bool×aY×Int))) 2).1),C ((gW ([l]:List (List (Bool×aY×Int))) 2).2.1),C ((gW ([l]:List (List (Bool×aY×Int))) 2).2.2.1),C ((gW ([l]:List (List (Bool×aY×Int))) 2).2.2.2.1),C ((gW ([l]:List (List (Bool×aY×Int))) 2).2.2.2.2),R mW zb mU,C Hb,C JO] 35
 intro iF (oO:HI M w iF (mX::tB::nE::bZ))
 refine k<|bA oO 0 J lb J J J J J J J ?_
 intro jF (j9:HI M w jF (box fj #[C (pz ([l]:List (List (Bool×aY×Int))) 3),C 0,C ((mQ ([l]:List (List (Bool×aY×Int))) 3).1),C ((mQ ([l]:List (List (Bool×aY×Int))) 3).2),C (tU ([l]:List (List (Bool×aY×Int))) 3),.bool (pA ([l]:List (List (Bool×aY×Int))) 3),C o16,C Dh,R a12 TG pD,R j3 JN j2,R lz TF ly,C ((gW ([l]:List (List (Bool×aY×Int))) 3).1),C ((gW ([l]:List (List (Bool×aY×Int))) 3).2.1),C ((gW ([l]:List (List (Bool×aY×Int))) 3).2.2.1),C ((gW ([l]:List (List (Bool×aY×Int))) 3).2.2.2.1),C ((gW ([l]:List (List (Bool×aY×Int))) 3).2.2.2.2),R KF o21 Kz,C TE,C Px] 35::tB::nE::bZ))
 refine bz<|k ?_
 have mx:=Js (w:=jF)<|hT.ext j9.below
 refine ca go9 J e0 mx ?_
 rintro _ oU ⟨rfl,xK⟩
 have pE:=j9.ext xK
 refine ak (v:=.bool true) J J<|bl J J J J<|fa DY J J<|bl J J J J<|lx pE 2 J n5 J J J<|bl J J J J<|mv (v:=.bool (pM (rR ([l]:List (List<|Bool×aY×Int)) 12) (rS ([l]:List (List<|Bool×aY×Int)) 12) iW iW)) J J<|bl J J J J<|eqB J J J J SB<|k<|aQ J J J J J J<|ak (v:=.bool ((pA ([l]:List (List<|Bool×aY×Int)) 1)==(pM (rR ([l]:List (List<|Bool×aY×Int)) 12) (rS ([l]:List (List<|Bool×aY×Int)) 12) iW iW))) J J<|bl J J J (nk ur uD uC uV kb p1 (lv:=1) aw)<|fa DY J J<|bl J J J (nk ur uD uC uV kb p1 (lv:=1) aw)<|lx pE 1 J n5 J J J<|bl J J J (nk ur uD uC uV kb p1 (lv:=1) aw)<|mv (v:=.bool (pM (rR ([l]:List (List<|Bool×aY×Int)) 12) (rS ([l]:List (List<|Bool×aY×Int)) 12) iW iW)) J J<|bl J J J (nk ur uD uC uV kb p1 (lv:=1) aw)<|eqB J J J J SB<|k<|aQ J J J J (nk ur uD uC uV kb p1 (lv:=1) aw) J<|ak (v:=.bool ((pA ([l]:List (List<|Bool×aY×Int)) 2)==(pM (rR ([l]:List (List<|Bool×aY×Int)) 12) (rS ([l]:List (List<|Bool×aY×Int)) 12) iW iW))) J J<|bl J J J (nk ur uD uC uV kb p1 (lv:=2) aw)<|fa DY J J<|bl J J J (nk ur uD uC uV kb p1 (lv:=2) aw)<|lx pE 0 J n5 J J J<|bl J J J (nk ur uD uC uV kb p1 (lv:=2) aw)<|mv (v:=.bool (pM (rR ([l]:List (List<|Bool×aY×Int)) 12) (rS ([l]:List (List<|Bool×aY×Int)) 12) iW iW)) J J<|bl J J J (nk ur uD uC uV kb p1 (lv:=2) aw)<|eqB J J J J SB<|k<|aQ J J J J (nk ur uD uC uV kb p1 (lv:=2) aw) J<|au (v:=.bool ((pA ([l]:List (List<|Bool×aY×Int)) 3)==(pM (rR ([l]:List (List<|Bool×aY×Int)) 12) (rS ([l]:List (List<|Bool×aY×Int)) 12) iW iW))) J J<|av<|rt<|r1 J J ?_
 exact⟨apj Value.bool (by exact(nk ur uD uC uV kb p1 (lv:=3) aw)),pE.below⟩
end Go.Proofs.YtgjakhpjmapelaaGreatDoor
