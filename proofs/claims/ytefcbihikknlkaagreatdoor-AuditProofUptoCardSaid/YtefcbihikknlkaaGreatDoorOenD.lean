/- PRINTED by my own tool (wip/tool/gen.py): contracts of Go functions of this seat, each with its proof. -/
import Derived.Test.YtefcbihikknlkaaGreatDoorWwnB
import Derived.Test.YtefcbihikknlkaaGreatDoorWwnD
import Derived.Test.YtefcbihikknlkaaGreatDoorWwnC
import Derived.Test.YtefcbihikknlkaaGreatDoorOenC
import Derived.Test.YtefcbihikknlkaaGreatDoorOenA
import Derived.Test.YtefcbihikknlkaaGreatDoorOenB
import Derived.Test.YtefcbihikknlkaaGreatDoorWwnA
set_option linter.unusedVariables false
set_option linter.unusedSimpArgs false
namespace Go.Proofs.YtefcbihikknlkaaGreatDoor
open Go.Ew Go.RowKit
set_option maxRecDepth 100000
set_option maxHeartbeats 1600000
attribute [local irreducible] WL WC SO PW PX PZ WE Code.wp wpList qO cZ
attribute [local irreducible] eS oS iO fU ej y4 BC Is words dJ fH fZ fK uC
set_option maxRecDepth 1100000
variable {M:bT} {w w_:aI}
variable {aC av ax dO aU eM cF dA:OA} {aE aB au aw dN aT jd eL uN bZ cH kS cE kQ dz rA rk:Nat} {I:List aR} {fo:az} {l bf:List aA} {mn kd bB aZ bK aO lv i n1 n2 o fr to sa sb:Int} {mr:List (List bG)} {BY gO:TypeId} {rp:List Value} {p:Int→Bool}
theorem Rq:jt aX 79 2 2:=mu Tryz.underlying79
theorem Bp:dq aX 66:=dy Tryz.func66
theorem vD {r:List Go.Ew.Item} {xV:OA} {xU:Nat} {es:List (Int×Int×Int)} (fL:aN mn) (ho:et I) (eT:fo.length=I.length) (cT:I.length≤64) (bV:cq mn mr=true) (Dk:mn=((I.length:Nat):Int)) (mI:xD I.length es) (uJ:∀x∈es,(cD mn mr x.1 x.2.2).isSome=true) (TY:es.length≤300000) (jG:l.length≤10000000) (H:HI M w w_ ([iL av I au,iL ax fo aw,oL w 92 dO l dN,iL aU mr aT,iL xV es xU]++r)):Calls aX 67 #[.agg #[.slice aC aE aB,sL av I au,sL ax fo aw],sL dO l dN,.agg #[U mn,sL aU mr aT],sL xV es xU] w_ (cZ fun v w'=>∃(wN:OA) (wH:Nat) (a0:OA) (c0:Nat),v=.tuple #[.slice wN (eg I fo mn mr l es).length wH,.agg #[U mn,.slice a0 (dp mn mr es).length c0]]∧HI M w w' ([iL a0 (dp mn mr es) c0,iL av I au,iL ax fo aw,oL w 92 wN (eg I fo mn mr l es) wH,iL aU mr aT,iL xV es xU]++r)):=by
 refine enter 77 Tryz.func67 J J J fun f0 ha=>?_
 have iT:=bN<|H.rv 0 J
 have nn:=bN<|H.rv 1 J
 have xM:=oM<|H.at_ 2 J
 have lu:=bN<|H.rv 3 J
 have ajU:=bN<|H.rv 4 J
 have i0:f0 0=.agg #[.slice aC aE aB,sL av I au,sL ax fo aw]:=ha 0 bH
 have i1:f0 1=sL dO l dN:=ha 1 bH
 have i2:f0 2=.agg #[U mn,sL aU mr aT]:=ha 2 bH
 have i3:f0 3=sL xV es xU:=ha 3 bH
 refine aH<|k<|bx H J i0 ?_
 let J1:=iL av I au
 let J2:=iL ax fo aw
 let J3:=iL aU mr aT
 let J4:=iL xV es xU
 let bC:=[J1,J2,oL w 92 dO l dN,J3,J4]
 intro aK w0 dt (H0:HI M w w0 ((box aK #[.slice aC aE aB,sL av I au,sL ax fo aw] 32::bC)++r))
 let J0:=box aK #[.slice aC aE aB,sL av I au,sL ax fo aw] 32
 refine k<|bx H0 J i2 ?_
 intro aW w1 cR (H1:HI M w w1 ((box aW #[U mn,sL aU mr aT] 68::J0::bC)++r))
 let J5:=box aW #[U mn,sL aU mr aT] 68
 refine aj (v:=.slice none 0 0) J J<|k<|al H1 bh ?_
 intro bj w2 d_ (H2:HI M w w2 ((box bj #[U 0,.slice none 0 0] 68::J5::J0::bC)++r))
 let J6:=box bj #[U 0,.slice none 0 0] 68
 refine aG<|sq<|aH<|aj (v:=U 0) J J<|aG<|bk ?_
 let dk:=[J3,J4]
 refine lp (fun m f w'=>∃(j_:Nat) (cQ:List aA) (a0:OA) (c0:Nat),m=es.length-j_∧f 1=sL a0 cQ c0∧f 3=sL xV es xU∧f 4=pV aK 0∧f 6=pV aW 0∧f 9=pV bj 0∧f 10=U (j_:Int)∧HI M w w' ([J6,J5,J0,J1,J2,oL w 92 a0 cQ c0,J3,J4]++r)∧(j_≤es.length)∧(cQ=eg I fo mn mr l (es.take j_))) _ ⟨0,l,dO,dN,J,i1,i3,J,J,J,(bJ J),H2,ai,(by rfl)⟩ ?_
 rintro _ f0 w3 ⟨j_,cQ,a0,c0,rfl,s0,s1,s2,s3,s4,s5,H3,ra,hs⟩
 refine sq<|sq ?_
 have TT:=Uq bV ai uJ hs
 refine rg<|ak J s5<|ak J s1<|k<|ep J J pM<|k<|lss J J J J<|z<|nx<|cd (b:=decide ((j_:Int)<(es.length:Int))) J J (fun b0=>?_)<|fun b0=>?_
 ·
  have p0:=dT b0
  refine sk<|nx<|sq<|bk<|aH<|ak J s1<|ak J s5<|k<|ia (H3.rv 7 J) J J J J ai pM tg ?_
  intro fz x0 aq cN
  refine k<|vQ cN.w tg J J ?_
  intro v0 cL
  obtain⟨_,⟨_,_,rfl,⟨rfl,eQ⟩,⟨_,_,rfl,⟨rfl,gh⟩,⟨rfl,fQ⟩⟩⟩,rfl⟩:=cL
  refine k<|al H3 tg ?_
  let J7:=oL w 92 a0 cQ c0
  let dv:=J6::J5::J0::J1::J2::J7::dk
  intro dI w4 eG (H4:HI M w w4 ((box dI #[U 0,U 0,U 0] 79::dv)++r))
  refine k<|cz H4 0 J tg J J J J J J J ?_
  let J8:=box dI #[U x0.1,U x0.2.1,U x0.2.2] 79
  intro w5 (H5:HI M w w5 ((J8::dv)++r))
  refine aG<|sq<|aH<|ak J s0<|bo yU J J<|bR H5 0 J aQ J J J<|bo Bv J J<|bR H5 0 J aQ J J J<|k ?_
  have H6:=H5.freeze 6 J
  have cx:=DX (l:=cQ) (n1:=x0.1) (n2:=x0.2.1) H6.mb (H6.rv 6 J) eQ gh
  refine ca VT J (ec J<|ec J<|ec J e0) cx ?_
  rintro _ w6 ⟨rfl,eI⟩
  have H8:=H5.ext eI
  refine k<|geq J J J J<|z<|nx<|cd (b:=decide (0≤(iR cQ x0.1 x0.2.1))) J J (fun b1=>?_)<|fun b1=>?_
  ·
   have p1:=dT b1
   refine ex<|bg<|bz<|nx<|rg<|ak J s5<|k<|add J J J J aY<|aj (v:=U ((j_:Int)+1)) J J<|z ?_
   have H9:HI M w w6 (dv++r):=HI.ba (l:=(J8::dv)) (l':=dv) (t:=r) H8 [1,2,3,4,5,6,7,8] aJ J J
   refine bD _ ?_ ⟨(j_+1),cQ,a0,c0,J,s0,s1,s2,s3,s4,(bJ J),H9,ai,(by exact(Uo ‹decide (0≤iR cQ x0.1 x0.2.1)=true›).trans (Km hs aq))⟩
   omega
  have p1:=dF b1
  refine sk<|dM<|k<|cg H8 3 J dn J s2 aJ J<|ak J s0<|k<|cg H8 2 J bh J s3 aJ J<|bo yU J J<|bR H8 0 J aQ J J J<|bo Rq J J<|bR H8 0 J aQ J J J<|k ?_
  let dD:=[J3,J8,J6,J5,J0,J4]
  have H9:HI M w w6 ([J1,J2,J7,J3]++([J8,J6,J5,J0,J4]++r)):=HI.ba (l:=(J8::dv)) (l':=(J1::J2::J7::dD)) (t:=r) H8 [4,5,6,7,0,1,2,3,8] aJ J J
  have eF:=oB (aC:=aC) (aE:=aE) (aB:=aB) (av:=av) (au:=au) (I:=I) (ax:=ax) (aw:=aw) (fo:=fo) (dO:=a0) (dN:=c0) (l:=cQ) (mn:=mn) (aU:=aU) (aT:=aT) (mr:=mr) (n1:=x0.1) (n2:=x0.2.2) (w:=w) (w_:=w6) (r:=([J8,J6,J5,J0,J4]++r)) (M:=M) fL eQ fQ (by exact ho) (by exact eT) (by exact cT) (by exact bV) ai (by exact uJ _ (eh cG)) ai H9
  refine ca Bp J (ec J<|ec J<|ec J<|ec J<|ec J e0) eF ?_
  rintro _ w7 ⟨a1,c1,rfl,db⟩
  let J9:=oL w 92 a1 ((bq I fo cQ mn mr x0.1 x0.2.2).1) c1
  have da:HI M w w7 ((J1::J2::J9::dD)++r):=db
  refine ak (v:=.tuple #[sL a1 ((bq I fo cQ mn mr x0.1 x0.2.2).1) c1,U ((bq I fo cQ mn mr x0.1 x0.2.2).2)]) J J<|k<|xt J J J<|k<|xt J J J<|aj (v:=sL a1 ((bq I fo cQ mn mr x0.1 x0.2.2).1) c1) J J<|aj (v:=U ((bq I fo cQ mn mr x0.1 x0.2.2).2)) J J<|z<|nx ?_
  have akc:=C2 (I:=I) (fo:=fo) (l:=cQ) bV<|uJ x0<|eh aq
  refine rg<|ak (v:=sL a1 ((bq I fo cQ mn mr x0.1 x0.2.2).1) c1) J J<|bo yU J J<|bR da 4 J aQ J J J<|bo Bv J J<|bR da 4 J aQ J J J<|ak (v:=U ((bq I fo cQ mn mr x0.1 x0.2.2).2)) J J<|bo Rq J J<|bR da 4 J aQ J J J<|k<|bd (v:=.agg #[U 4,U x0.1,U x0.2.1,U ((bq I fo cQ mn mr x0.1 x0.2.2).2),U x0.2.2]) J (ct J<|ct J<|ct J<|ct J<|ct J eo) (fun _=>bu)<|k<|bs (xs:=([(4,x0.1,x0.2.1,(bq I fo cQ mn mr x0.1 x0.2.2).2,x0.2.2)]:List aA)) (cells:=#[U 4,U x0.1,U x0.2.1,U ((bq I fo cQ mn mr x0.1 x0.2.2).2),U x0.2.2]) (e:=92) da J (ct J eo) (fun _=>bu) ⟨[U 4,U x0.1,U x0.2.1,U ((bq I fo cQ mn mr x0.1 x0.2.2).2),U x0.2.2],[],J,⟨_,_,J,⟨J,(show aN (4) from aY)⟩,⟨_,_,J,⟨J,(show aN (x0.1) from cG)⟩,⟨_,_,J,⟨J,(show aN (x0.2.1) from cG)⟩,⟨_,_,J,⟨J,(show aN ((bq I fo cQ mn mr x0.1 x0.2.2).2) from aY)⟩,⟨J,(show aN (x0.2.2) from cG)⟩⟩⟩⟩⟩,J⟩ J aJ ?_
  intro g0 w8 ly (eB:HI M w w8 ((own w.heap.size 92 (.slice (some ⟨g0,0,none⟩) 1 1) ([(4,x0.1,x0.2.1,(bq I fo cQ mn mr x0.1 x0.2.2).2,x0.2.2)]:List aA)::J1::J2::J9::dD)++r))
  let qI:=own w.heap.size 92 (.slice (some ⟨g0,0,none⟩) 1 1) ([(4,x0.1,x0.2.1,(bq I fo cQ mn mr x0.1 x0.2.2).2,x0.2.2)]:List aA)
  refine k<|kE eB 3 J J J J J J (fD<|eB.at_ 0 J) mY iQ J (by simp;omega) J ?_
  intro a2 c2 w9 (dZ:HI M w w9 ((qI::J1::J2::oL w 92 a2 (((bq I fo cQ mn mr x0.1 x0.2.2).1)++([(4,x0.1,x0.2.1,(bq I fo cQ mn mr x0.1 x0.2.2).2,x0.2.2)]:List aA)) c2::dD)++r))
  let BS:=oL w 92 a2 (((bq I fo cQ mn mr x0.1 x0.2.2).1)++([(4,x0.1,x0.2.1,(bq I fo cQ mn mr x0.1 x0.2.2).2,x0.2.2)]:List aA)) c2
  refine aj (v:=sL a2 (((bq I fo cQ mn mr x0.1 x0.2.2).1)++([(4,x0.1,x0.2.1,(bq I fo cQ mn mr x0.1 x0.2.2).2,x0.2.2)]:List aA)) c2) J J<|z<|aF<|nx<|rg<|ak J s5<|k<|add J J J J aY<|aj (v:=U ((j_:Int)+1)) J J<|z ?_
  have cM:HI M w w9 ([J6,J5,J0,J1,J2,BS,J3,J4]++r):=HI.ba (l:=(qI::J1::J2::BS::dD)) (l':=[J6,J5,J0,J1,J2,BS,J3,J4]) (t:=r) dZ [6,7,8,1,2,3,4,9] aJ J J
  refine bD _ ?_ ⟨(j_+1),(((bq I fo cQ mn mr x0.1 x0.2.2).1)++([(4,x0.1,x0.2.1,(bq I fo cQ mn mr x0.1 x0.2.2).2,x0.2.2)]:List aA)),a2,c2,J,J,s1,s2,s3,s4,(bJ J),cM,ai,(by exact(XW ‹decide (0≤iR cQ x0.1 x0.2.1)=false›).trans (Km hs aq))⟩
  omega
 have p0:=dF b0
 refine ex<|bg<|bt<|bz<|nx<|sq<|aH<|aj (v:=U 0) J J<|aG<|bk ?_
 have H4:=H3.put (it:=J3) J<|H3.rv 6 J
 let ET:=oL w 92 a0 cQ c0
 let jO:=J0::J1::J2::ET::dk
 refine lp (fun m f w'=>∃(q_:Nat) (cp:Int) (fN:List (List bG)) (a1:OA) (c1:Nat),m=es.length-q_∧f 1=sL a0 cQ c0∧f 3=sL xV es xU∧f 6=pV aW 0∧f 9=pV bj 0∧f 14=U (q_:Int)∧HI M w w' ((iL a1 fN c1::J6::box aW #[U cp,sL a1 fN c1] 68::jO)++r)∧(q_≤es.length)∧(cp=mn∧fN=dp mn mr (es.take q_))) _ ⟨0,mn,mr,aU,aT,J,s0,s1,s3,s4,(bJ J),H4,ai,(by exact⟨J,J⟩)⟩ ?_
 rintro _ f1 w4 ⟨q_,cp,fN,a1,c1,rfl,s6,s7,s8,s9,ey,H6,jw,nH⟩
 refine sq<|aH<|ak J ey<|ak J s7<|k<|ep J J pM<|k<|lss J J J J<|z<|nx<|cd (b:=decide ((q_:Int)<(es.length:Int))) J J (fun b1=>?_)<|fun b1=>?_
 ·
  have p1:=dT b1
  refine sk<|nx<|sq<|bk ?_
  have px:=sm ai Dk bV mI nH
  refine EE [.r,.r,.r,.r,.r,.r,.r,.r,.r,.r,.r,.r,.r,.r,.s,.e] (fun _=>True) J bu (fun _ _=>trivial)<|yq J J<|kq (fun _ x_=>cg (H6.ext x_) 2 J bh J s8 aJ J e1)<|gC<|kq (fun _ _=>mv J s7 e1)<|gC<|kq (fun _ _=>mv J ey e1)<|gC<|hG (H6.rv 8 J) J J J J ai pM tg ?_
  intro fz x0 aq cN
  refine gC<|kq (fun _ _=>fa yU J J e1)<|gC<|fV (cN).fst.w aQ J J ?_
  intro cL
  refine gC<|kq (fun _ _=>mv J s7 e1)<|gC<|kq (fun _ _=>mv J ey e1)<|gC<|hG (H6.rv 8 J) J J J J ai pM tg ?_
  intro iG x_ ki eU
  obtain rfl:x0=x_:=alD (aq.symm.trans ki)
  refine gC<|kq (fun _ _=>fa Bv J J e1)<|gC<|fV ((eU).s1).fst.w aQ J J ?_
  intro eQ
  refine zq<|yu J (fun _ v w'=>∃(a2:OA) (c2:Nat),v=.tuple #[.agg #[U (dP cp x0.1 x0.2.1),sL a2 (bL cp fN x0.1 x0.2.1) c2],U (iH cp x0.1 x0.2.1)]∧RV H6.nA w' (sL a2 (bL cp fN x0.1 x0.2.1) c2) (bL cp fN x0.1 x0.2.1)) J xL J (fun v_ _ x_ _=>have eF:=pS (mn:=cp) (mr:=fN) (i:=x0.1) (j:=x0.2.1) (w:=v_) (H6.ext x_).mb aY ((H6.ext x_).rv 0 rfl) cL eQ (by exact(bQ px).1) (by exact(bQ px).2.1) (by exact(bQ px).2.2.1);ca Dq rfl (ec J<|ec J<|ec J e0) eF (fun _ w6 ⟨a3,c3,e_,eI,gG⟩=>⟨_,J,eI,⟨a3,c3,e_,(bm.rv gG (H6.ext x_).mb)⟩⟩))<|z1 J (fun _ v w'=>∃(a4:OA) (c4:Nat),v=.tuple #[.agg #[U (dP cp x0.1 x0.2.1),sL a4 (bL cp fN x0.1 x0.2.1) c4],U (iH cp x0.1 x0.2.1)]∧RV H6.nA w' (sL a4 (bL cp fN x0.1 x0.2.1) c4) (bL cp fN x0.1 x0.2.1)) 0 J J xL J (fun _ _ _ _ _ h_=>let ⟨a5,c5,ew,lM⟩:=h_;mv rfl ew ⟨_,J,Ext.refl _,⟨a5,c5,J,lM⟩⟩)<|z1 J (fun _ v w'=>∃(a6:OA) (c6:Nat),v=.agg #[U (dP cp x0.1 x0.2.1),sL a6 (bL cp fN x0.1 x0.2.1) c6]∧RV H6.nA w' (sL a6 (bL cp fN x0.1 x0.2.1) c6) (bL cp fN x0.1 x0.2.1)) 0 J J xL J (fun _ _ _ _ _ h_=>let ⟨a7,c7,eE,kK⟩:=h_;xt rfl eE rfl ⟨_,J,Ext.refl _,⟨a7,c7,J,kK⟩⟩)<|O7 J (X:=U (iH cp x0.1 x0.2.1)) 1 J J (fun _ _ _ _ _ h_=>let ⟨a9,c9,fc,mZ⟩:=h_;xt rfl fc rfl e1)<|ye<|yz ?_
  intro w7 f2 _ ly _ _ cI ji
  have lT:=H6.ext ly
  have fJ:=(cI 1 J).trans s6
  have fw:=(cI 3 J).trans s7
  have fX:=(cI 6 J).trans s8
  have gF:=(cI 9 J).trans s9
  have gL:=(cI 14 J).trans ey
  obtain⟨lI,lH,gE,pP⟩:=ji 0 _ _ rfl
  let wS:=iL lI (bL cp fN x0.1 x0.2.1) lH
  have pc:=lT.put (it:=wS) J pP
  refine vT<|cz pc 3 J bh J J fX gE J J J ?_
  let Hi:=box aW #[U (dP cp x0.1 x0.2.1),sL lI (bL cp fN x0.1 x0.2.1) lH] 68
  let pJ:=wS::iL a1 fN c1::J6::Hi::jO
  intro w8 (kY:HI M w w8 (pJ++r))
  refine kz<|aF<|nx<|rg<|ak J gL<|k<|add J J J J aY<|aj (v:=U ((q_:Int)+1)) J J<|z ?_
  have kt:=kY.put (it:=wS) J<|kY.rv 0 J
  have lJ:HI M w w8 ((wS::pJ)++r):=kt
  have kH:HI M w w8 ((wS::J6::Hi::jO)++r):=HI.ba (l:=(wS::pJ)) (l':=(wS::J6::Hi::jO)) (t:=r) lJ [0,3,4,5,6,7,8,9,10] aJ J J
  refine bD _ ?_ ⟨(q_+1),(dP cp x0.1 x0.2.1),(bL cp fN x0.1 x0.2.1),lI,lH,J,fJ,fw,fX,gF,(bJ J),kH,ai,(by exact CY nH aq (by rw[Dk];exact mI _ (eh aq)))⟩
  omega
 have p1:=dF b1
 refine ex<|bg<|bt<|bz<|nx<|sq<|EE [.r,.r,.r,.e] (fun _=>True) J bu (fun _ _=>trivial)<|yq J J<|kq (fun _ _=>mv J s6 e1)<|gC<|kq (fun _ x_=>cg (H6.ext x_) 2 J bh J s8 aJ J e1)<|gC<|kq (fun _ _=>gH (v:=sL a0 cQ c0) J J e1)<|zq<|ye<|yz ?_
 intro w5 f2 _ eG _ _ cI ji
 have H7:=H6.ext eG
 have ew:=cI 8 J
 have eE:=(cI 9 J).trans s9
 have fc:=cI 76 J
 refine vT<|cz H7 1 J bh J J eE fc J J J ?_
 let BP:=iL a1 fN c1::box bj #[U cp,sL a1 fN c1] 68::box aW #[U cp,sL a1 fN c1] 68::jO
 intro w6 (H8:HI M w w6 (BP++r))
 refine kz<|nx<|rt<|rd2 H8 1 J bh J J J eE J aJ ?_
 try simp only[df]
 rw[ew]
 have H9:=HI.ba (l:=BP) (l':=[iL a1 fN c1,J1,J2,ET,J3,J4]) (t:=r) H8 [0,4,5,6,7,8] aJ J J
 have e0:(cp:Int)=mn:=by exact nH.1
 have e1:(fN:List (List bG))=(dp mn mr es):=by rw[nH.2,alU ai]
 have e2:(cQ:List _)=(eg I fo mn mr l es):=by rw[hs,alU ai]
 try rw[←e0]
 try rw[←e1]
 try rw[←e2]
 refine⟨a0,c0,a1,c1,?_,?_⟩
 · first|rfl|(simp only[e0,e1,e2];done)|(simp only[e0,e1,e2];rfl)|(simp only[alP])
 · first|exact H9|simpa +zetaDelta only[e0,e1,e2,alP] using H9
theorem Uc:dq aX 67:=dy Tryz.func67
theorem S9 {dH:Value} {cV:Value} (hM:ei M w) (cX:cP M w av au I) (fM:cP M w ax aw fo) (jm:aN kd) (kT:aN bB) (jM:aN aZ) (lQ:aN bK) (ie:aN aO) (ho:et I) (cT:I.length≤64) (eT:fo.length=I.length) (ln:∀x∈fo,x<((I.length:Nat):Int)) (mP:I.length≤12) (oC:nD I fo) (uO:mX I fo kd bB aZ bK aO):Calls aX 29 #[.agg #[.slice aC aE aB,sL av I au,sL ax fo aw],.agg #[U kd,U bB,U aZ,U bK,U aO,.slice eM jd eL,dH,cV]] w (cZ fun v w'=>∃(D':List aA) (f_:Int) (s_:Int) (a0:OA) (c0:Nat),v=.tuple #[.agg #[U kd,U bB,U aZ,U bK,U aO,sL a0 D' c0,U f_,U s_],U 0]∧Ext w w'∧cP M w' a0 c0 D'∧Hd I fo kd bB aZ bK aO D' f_ s_∧D'.length≤1000000∧aN f_∧aN s_):=by
 refine dK 164 Tryz.func29 J J J hM fun f0 ha H=>?_
 let J0:=iL av I au
 have H0:=H.put (it:=J0) J<|by rw[dY];exact cX
 let J1:=iL ax fo aw
 have H1:=H0.put (it:=J1) J<|by rw[bp rfl,dY];exact fM
 have iT:=bN cX
 have nn:=bN fM
 have i0:f0 0=.agg #[.slice aC aE aB,sL av I au,sL ax fo aw]:=ha 0 bH
 have i1:f0 1=.agg #[U kd,U bB,U aZ,U bK,U aO,.slice eM jd eL,dH,cV]:=ha 1 bH
 have Cl:cq ((I.length:Nat):Int) (bw I fo)=true:=zS fo ai
 have so:cq ((I.length:Nat):Int) (bl I fo)=true:=tB fo ai
 refine aH<|k<|bx H1 J i0 ?_
 let bC:=[J1,J0]
 intro aK w0 dt (H2:HI M w w0 (box aK #[.slice aC aE aB,sL av I au,sL ax fo aw] 32::bC))
 let J2:=box aK #[.slice aC aE aB,sL av I au,sL ax fo aw] 32
 refine k<|bx H2 J i1 ?_
 let dk:=J2::bC
 intro aW w1 cR (H3:HI M w w1 (box aW #[U kd,U bB,U aZ,U bK,U aO,.slice eM jd eL,dH,cV] 25::dk))
 let J3:=box aW #[U kd,U bB,U aZ,U bK,U aO,.slice eM jd eL,dH,cV] 25
 refine k<|al H3 cu ?_
 let dv:=J3::dk
 intro bj w2 d_ (H4:HI M w w2 (box bj #[U 0,U 0,U 0,U 0,U 0,.slice none 0 0,U 0,U 0] 25::dv))
 let J4:=box bj #[U 0,U 0,U 0,U 0,U 0,.slice none 0 0,U 0,U 0] 25
 refine aj (v:=U 0) J J<|cU<|bo um J J<|bR H4 1 J aQ J J J<|bo jV J J<|bR H4 1 J aQ J J J<|bo jo J J<|bR H4 1 J aQ J J J<|bo ny J J<|bR H4 1 J aQ J J J<|bo ir J J<|bR H4 1 J aQ J J J<|k<|bd (v:=.agg #[U kd,U bB,U aZ,U bK,U aO,.slice none 0 0,U (-1),U (-1)]) J (ct J<|ct J<|ct J<|ct J<|ct J<|ct J<|ct J eo) (fun _=>bu)<|k<|al H4 cu ?_
 let dD:=J4::dv
 intro dI w3 eG (H5:HI M w w3 (box dI #[U 0,U 0,U 0,U 0,U 0,.slice none 0 0,U 0,U 0] 25::dD))
 refine k<|cz H5 0 J cu J J J J J J J ?_
 let J5:=box dI #[U kd,U bB,U aZ,U bK,U aO,.slice none 0 0,U (-1),U (-1)] 25
 let jO:=J5::dD
 intro w4 (H6:HI M w w4 jO)
 refine cU<|k<|cg H6 3 J dn J J aJ J<|k ?_
 have cx:=Cq (I:=I) (fo:=fo) (aC:=aC) (aE:=aE) (aB:=aB) H6.mb (H6.rv 5 J) (H6.rv 4 J) (by exact ho) ai (by exact eT)<|by exact ln
 refine ca aaQ J (ec J e0) cx ?_
 rintro _ w5 ⟨a0,c0,rfl,eI,cL⟩
 have H7:=H6.ext eI
 let J6:=iL a0 (bl I fo) c0
 have H8:=H7.put (it:=J6) J cL
 refine k<|al H8 bh ?_
 let pJ:=J6::jO
 intro mV w6 ly (H9:HI M w w6 (box mV #[U 0,.slice none 0 0] 68::pJ))
 refine k<|cz H9 0 J bh J J J J J J J ?_
 let J7:=box mV #[U (I.length:Int),sL a0 (bl I fo) c0] 68
 let BP:=J7::pJ
 intro w7 (db:HI M w w7 BP)
 refine cU<|k<|cg db 5 J dn J J aJ J<|k ?_
 have eF:=II (I:=I) (fo:=fo) (aC:=aC) (aE:=aE) (aB:=aB) db.mb (db.rv 7 J) (db.rv 6 J) (by exact ho) ai (by exact eT)<|by exact ln
 refine ca aa0 J (ec J e0) eF ?_
 rintro _ w8 ⟨a1,c1,rfl,iJ,eQ⟩
 have da:=db.ext iJ
 let J8:=iL a1 (bw I fo) c1
 have eB:=da.put (it:=J8) J eQ
 refine k<|al eB bh ?_
 let Se:=J8::BP
 intro wJ w9 je (dZ:HI M w w9 (box wJ #[U 0,.slice none 0 0] 68::Se))
 refine k<|cz dZ 0 J bh J J J J J J J ?_
 let J9:=box wJ #[U (I.length:Int),sL a1 (bw I fo) c1] 68
 let j9:=J9::Se
 intro jb (cM:HI M w jb j9)
 refine aG<|sq<|aH<|bo um J J<|bR cM 6 J aQ J J J<|aG<|bk<|aH<|k<|eql J J J J<|aj (v:=.bool (decide (kd=2))) J J<|z<|nx<|cd (b:=decide (kd=2)) J J (fun b0=>?_)<|fun b0=>?_
 ·
  obtain⟨yI,pz,sT,v7⟩:=YS eT mP uO (alT ‹decide (kd=2)=true›)
  refine rg<|k<|cg cM 7 J dn J J aJ J<|k<|cg cM 2 J bh J J aJ J<|bo ir J J<|bR cM 6 J aQ J J J<|bo ir J J<|bR cM 6 J aQ J J J<|k ?_
  have fR:=cM.ke aA 92
  have eY:HI M w jb ([J0,J1,own w.heap.size 92 (.slice none 0 0) ([]:List aA),J6]++[J9,J8,J7,J5,J4,J3,J2]):=fR.c_ [10,9,0,4,1,2,3,5,6,7,8] aJ J
  have gS:=oB (aC:=aC) (aE:=aE) (aB:=aB) (av:=av) (au:=au) (I:=I) (ax:=ax) (aw:=aw) (fo:=fo) (dO:=none) (dN:=0) (l:=([]:List aA)) (mn:=(I.length:Int)) (aU:=a0) (aT:=c0) (mr:=(bl I fo)) (n1:=aO) (n2:=aO) (w:=w) (w_:=jb) (r:=[J9,J8,J7,J5,J4,J3,J2]) (M:=M) aY ie ie (by exact ho) (by exact eT) (by exact cT) (by exact so) (by rfl) (by exact pz) (by simp only[gW];omega) eY
  refine ca Bp J (ec J<|ec J<|ec J<|ec J<|ec J e0) gS ?_
  rintro _ iK ⟨a2,c2,rfl,fg⟩
  let qI:=oL w 92 a2 ((bq I fo ([]:List aA) (I.length:Int) (bl I fo) aO aO).1) c2
  have gz:HI M w iK [J0,J1,qI,J6,J9,J8,J7,J5,J4,J3,J2]:=fg
  refine ak (v:=.tuple #[sL a2 ((bq I fo ([]:List aA) (I.length:Int) (bl I fo) aO aO).1) c2,U ((bq I fo ([]:List aA) (I.length:Int) (bl I fo) aO aO).2)]) J J<|k<|xt J J J<|k<|xt J J J<|bo pa J J<|k<|cz gz 7 J oI J J J J J J J ?_
  intro jf (jP:HI M w jf [J0,J1,qI,J6,J9,J8,J7,box dI #[U kd,U bB,U aZ,U bK,U aO,sL a2 ((bq I fo ([]:List aA) (I.length:Int) (bl I fo) aO aO).1) c2,U (-1),U (-1)] 25,J4,J3,J2])
  refine bo nw J J<|k<|cz jP 7 J aQ J J J J J J J ?_
  let BS:=box dI #[U kd,U bB,U aZ,U bK,U aO,sL a2 ((bq I fo ([]:List aA) (I.length:Int) (bl I fo) aO aO).1) c2,U ((bq I fo ([]:List aA) (I.length:Int) (bl I fo) aO aO).2),U (-1)] 25
  intro ju (gI:HI M w ju [J0,J1,qI,J6,J9,J8,J7,BS,J4,J3,J2])
  refine z<|aF<|dM<|k<|cg gI 7 J cu J J aJ J<|k<|cz gI 8 J cu J J J J J J J ?_
  intro jK (kO:HI M w jK [J0,J1,qI,J6,J9,J8,J7,BS,box bj #[U kd,U bB,U aZ,U bK,U aO,sL a2 ((bq I fo ([]:List aA) (I.length:Int) (bl I fo) aO aO).1) c2,U ((bq I fo ([]:List aA) (I.length:Int) (bl I fo) aO aO).2),U (-1)] 25,J3,J2])
  refine aj (v:=U 0) J J<|aG<|rt<|iS kO 8 J cu J J J J J aJ ?_
  have e6:((bq I fo ([]:List aA) (I.length:Int) (bl I fo) aO aO).2:Int)=((bq I fo ([]:List aA) (I.length:Int) (bl I fo) aO aO).2):=rfl
  have bF:=fu (fun (Aq:Int)=>(.tuple #[.agg #[U kd,U bB,U aZ,U bK,U aO,.slice a2 ((bq I fo ([]:List aA) (I.length:Int) (bl I fo) aO aO).1).length c2,U Aq,U (-1)],U 0]:Value)) e6
  exact⟨((bq I fo ([]:List aA) (I.length:Int) (bl I fo) aO aO).1),((bq I fo ([]:List aA) (I.length:Int) (bl I fo) aO aO).2),(-1),a2,c2,bF,kO.below,(kO.dV 2 J),(by exact sT),(by exact v7),(by refine ti (by first|exact so|exact AF|exact nW) (by first|exact pz|exact zJ) (by first|omega|(simp only[gW];omega)) ai),(by unfold aN;omega)⟩
 have p0:=dF b0
 refine aH<|k<|eql J J J J<|aj (v:=.bool (decide (kd=3))) J J<|z<|nx<|cd (b:=decide (kd=3)) J J (fun b1=>?_)<|fun b1=>?_
 ·
  obtain⟨yI,JA,pz,sT,v7⟩:=Tr eT mP uO (alT ‹decide (kd=3)=true›)
  refine rg<|k<|cg cM 7 J dn J J aJ J<|k<|cg cM 2 J bh J J aJ J<|bo jo J J<|bR cM 6 J aQ J J J<|bo jV J J<|bR cM 6 J aQ J J J<|k ?_
  have fR:=cM.ke aA 92
  have eY:HI M w jb ([J0,J1,own w.heap.size 92 (.slice none 0 0) ([]:List aA),J6]++[J9,J8,J7,J5,J4,J3,J2]):=fR.c_ [10,9,0,4,1,2,3,5,6,7,8] aJ J
  have gS:=oB (aC:=aC) (aE:=aE) (aB:=aB) (av:=av) (au:=au) (I:=I) (ax:=ax) (aw:=aw) (fo:=fo) (dO:=none) (dN:=0) (l:=([]:List aA)) (mn:=(I.length:Int)) (aU:=a0) (aT:=c0) (mr:=(bl I fo)) (n1:=aZ) (n2:=bB) (w:=w) (w_:=jb) (r:=[J9,J8,J7,J5,J4,J3,J2]) (M:=M) aY jM kT (by exact ho) (by exact eT) (by exact cT) (by exact so) (by rfl) (by exact pz) (by simp only[gW];omega) eY
  refine ca Bp J (ec J<|ec J<|ec J<|ec J<|ec J e0) gS ?_
  rintro _ iK ⟨a2,c2,rfl,fg⟩
  let ET:=oL w 92 a2 ((bq I fo ([]:List aA) (I.length:Int) (bl I fo) aZ bB).1) c2
  have gz:HI M w iK [J0,J1,ET,J6,J9,J8,J7,J5,J4,J3,J2]:=fg
  refine ak (v:=.tuple #[sL a2 ((bq I fo ([]:List aA) (I.length:Int) (bl I fo) aZ bB).1) c2,U ((bq I fo ([]:List aA) (I.length:Int) (bl I fo) aZ bB).2)]) J J<|k<|xt J J J<|k<|xt J J J<|bo pa J J<|k<|cz gz 7 J oI J J J J J J J ?_
  intro jf (jP:HI M w jf [J0,J1,ET,J6,J9,J8,J7,box dI #[U kd,U bB,U aZ,U bK,U aO,sL a2 ((bq I fo ([]:List aA) (I.length:Int) (bl I fo) aZ bB).1) c2,U (-1),U (-1)] 25,J4,J3,J2])
  refine bo nw J J<|k<|cz jP 7 J aQ J J J J J J J ?_
  let wS:=box dI #[U kd,U bB,U aZ,U bK,U aO,sL a2 ((bq I fo ([]:List aA) (I.length:Int) (bl I fo) aZ bB).1) c2,U ((bq I fo ([]:List aA) (I.length:Int) (bl I fo) aZ bB).2),U (-1)] 25
  intro ju (gI:HI M w ju [J0,J1,ET,J6,J9,J8,J7,wS,J4,J3,J2])
  refine z<|aF<|dM<|k<|cg gI 7 J cu J J aJ J<|k<|cz gI 8 J cu J J J J J J J ?_
  intro jK (kO:HI M w jK [J0,J1,ET,J6,J9,J8,J7,wS,box bj #[U kd,U bB,U aZ,U bK,U aO,sL a2 ((bq I fo ([]:List aA) (I.length:Int) (bl I fo) aZ bB).1) c2,U ((bq I fo ([]:List aA) (I.length:Int) (bl I fo) aZ bB).2),U (-1)] 25,J3,J2])
  refine aj (v:=U 0) J J<|aG<|rt<|iS kO 8 J cu J J J J J aJ ?_
  have e6:((bq I fo ([]:List aA) (I.length:Int) (bl I fo) aZ bB).2:Int)=((bq I fo ([]:List aA) (I.length:Int) (bl I fo) aZ bB).2):=rfl
  have bF:=fu (fun (Aq:Int)=>(.tuple #[.agg #[U kd,U bB,U aZ,U bK,U aO,.slice a2 ((bq I fo ([]:List aA) (I.length:Int) (bl I fo) aZ bB).1).length c2,U Aq,U (-1)],U 0]:Value)) e6
  exact⟨((bq I fo ([]:List aA) (I.length:Int) (bl I fo) aZ bB).1),((bq I fo ([]:List aA) (I.length:Int) (bl I fo) aZ bB).2),(-1),a2,c2,bF,kO.below,(kO.dV 2 J),(by exact sT),(by exact v7),(by refine ti (by first|exact so|exact AF|exact nW) (by first|exact pz|exact zJ) (by first|omega|(simp only[gW];omega)) ai),(by unfold aN;omega)⟩
 have p1:=dF b1
 refine aH<|k<|eql J J J J<|aj (v:=.bool (decide (kd=4))) J J<|z<|nx<|cd (b:=decide (kd=4)) J J (fun b2=>?_)<|fun b2=>?_
 ·
  refine sq ?_
  obtain⟨yI,JA,akB,pz,zJ,afy,sT,v7⟩:=Xi eT mP oC uO (alT ‹decide (kd=4)=true›)
  refine rg<|k<|cg cM 7 J dn J J aJ J<|k<|cg cM 2 J bh J J aJ J<|bo jo J J<|bR cM 6 J aQ J J J<|bo ny J J<|bR cM 6 J aQ J J J<|k ?_
  have fR:=cM.ke aA 92
  have eY:HI M w jb ([J0,J1,own w.heap.size 92 (.slice none 0 0) ([]:List aA),J6]++[J9,J8,J7,J5,J4,J3,J2]):=fR.c_ [10,9,0,4,1,2,3,5,6,7,8] aJ J
  have gS:=oB (aC:=aC) (aE:=aE) (aB:=aB) (av:=av) (au:=au) (I:=I) (ax:=ax) (aw:=aw) (fo:=fo) (dO:=none) (dN:=0) (l:=([]:List aA)) (mn:=(I.length:Int)) (aU:=a0) (aT:=c0) (mr:=(bl I fo)) (n1:=aZ) (n2:=bK) (w:=w) (w_:=jb) (r:=[J9,J8,J7,J5,J4,J3,J2]) (M:=M) aY jM lQ (by exact ho) (by exact eT) (by exact cT) (by exact so) (by rfl) (by exact pz) (by simp only[gW];omega) eY
  refine ca Bp J (ec J<|ec J<|ec J<|ec J<|ec J e0) gS ?_
  rintro _ iK ⟨a2,c2,rfl,fg⟩
  let Hi:=oL w 92 a2 ((bq I fo ([]:List aA) (I.length:Int) (bl I fo) aZ bK).1) c2
  have gz:HI M w iK [J0,J1,Hi,J6,J9,J8,J7,J5,J4,J3,J2]:=fg
  refine ak (v:=.tuple #[sL a2 ((bq I fo ([]:List aA) (I.length:Int) (bl I fo) aZ bK).1) c2,U ((bq I fo ([]:List aA) (I.length:Int) (bl I fo) aZ bK).2)]) J J<|k<|xt J J J<|k<|xt J J J<|bo pa J J<|k<|cz gz 7 J oI J J J J J J J ?_
  intro jf (jP:HI M w jf [J0,J1,Hi,J6,J9,J8,J7,box dI #[U kd,U bB,U aZ,U bK,U aO,sL a2 ((bq I fo ([]:List aA) (I.length:Int) (bl I fo) aZ bK).1) c2,U (-1),U (-1)] 25,J4,J3,J2])
  refine bo nw J J<|k<|cz jP 7 J aQ J J J J J J J ?_
  let Wj:=box dI #[U kd,U bB,U aZ,U bK,U aO,sL a2 ((bq I fo ([]:List aA) (I.length:Int) (bl I fo) aZ bK).1) c2,U ((bq I fo ([]:List aA) (I.length:Int) (bl I fo) aZ bK).2),U (-1)] 25
  intro ju (gI:HI M w ju [J0,J1,Hi,J6,J9,J8,J7,Wj,J4,J3,J2])
  refine aG<|rg<|k<|cg gI 10 J dn J J aJ J<|bo pa J J<|bR gI 7 J oI J J J<|k<|cg gI 6 J bh J J aJ J<|bo ny J J<|bR gI 9 J aQ J J J<|bo jV J J<|bR gI 9 J aQ J J J<|k ?_
  have kO:HI M w ju ([J0,J1,Hi,J6]++[J9,J8,J7,Wj,J4,J3,J2]):=gI.c_ [0,1,2,3,4,5,6,7,8,9,10] aJ J
  have nB:=oB (aC:=aC) (aE:=aE) (aB:=aB) (av:=av) (au:=au) (I:=I) (ax:=ax) (aw:=aw) (fo:=fo) (dO:=a2) (dN:=c2) (l:=((bq I fo ([]:List aA) (I.length:Int) (bl I fo) aZ bK).1)) (mn:=(I.length:Int)) (aU:=a0) (aT:=c0) (mr:=(bl I fo)) (n1:=bK) (n2:=bB) (w:=w) (w_:=ju) (r:=[J9,J8,J7,Wj,J4,J3,J2]) (M:=M) aY lQ kT (by exact ho) (by exact eT) (by exact cT) (by exact so) (by rfl) (by exact zJ) ai kO
  refine ca Bp J (ec J<|ec J<|ec J<|ec J<|ec J e0) nB ?_
  rintro _ jK ⟨a3,c3,rfl,lK⟩
  let Wi:=oL w 92 a3 ((bq I fo ((bq I fo ([]:List aA) (I.length:Int) (bl I fo) aZ bK).1) (I.length:Int) (bl I fo) bK bB).1) c3
  have lT:HI M w jK [J0,J1,Wi,J6,J9,J8,J7,Wj,J4,J3,J2]:=lK
  refine ak (v:=.tuple #[sL a3 ((bq I fo ((bq I fo ([]:List aA) (I.length:Int) (bl I fo) aZ bK).1) (I.length:Int) (bl I fo) bK bB).1) c3,U ((bq I fo ((bq I fo ([]:List aA) (I.length:Int) (bl I fo) aZ bK).1) (I.length:Int) (bl I fo) bK bB).2)]) J J<|k<|xt J J J<|k<|xt J J J<|bo pa J J<|k<|cz lT 7 J oI J J J J J J J ?_
  intro lz (pc:HI M w lz [J0,J1,Wi,J6,J9,J8,J7,box dI #[U kd,U bB,U aZ,U bK,U aO,sL a3 ((bq I fo ((bq I fo ([]:List aA) (I.length:Int) (bl I fo) aZ bK).1) (I.length:Int) (bl I fo) bK bB).1) c3,U ((bq I fo ([]:List aA) (I.length:Int) (bl I fo) aZ bK).2),U (-1)] 25,J4,J3,J2])
  refine bo uk J J<|k<|cz pc 7 J aQ J J J J J J J ?_
  let J17:=box dI #[U kd,U bB,U aZ,U bK,U aO,sL a3 ((bq I fo ((bq I fo ([]:List aA) (I.length:Int) (bl I fo) aZ bK).1) (I.length:Int) (bl I fo) bK bB).1) c3,U ((bq I fo ([]:List aA) (I.length:Int) (bl I fo) aZ bK).2),U ((bq I fo ((bq I fo ([]:List aA) (I.length:Int) (bl I fo) aZ bK).1) (I.length:Int) (bl I fo) bK bB).2)] 25
  intro mB (iE:HI M w mB [J0,J1,Wi,J6,J9,J8,J7,J17,J4,J3,J2])
  refine z<|aF<|dM<|k<|cg iE 7 J cu J J aJ J<|k<|cz iE 8 J cu J J J J J J J ?_
  intro lL (kY:HI M w lL [J0,J1,Wi,J6,J9,J8,J7,J17,box bj #[U kd,U bB,U aZ,U bK,U aO,sL a3 ((bq I fo ((bq I fo ([]:List aA) (I.length:Int) (bl I fo) aZ bK).1) (I.length:Int) (bl I fo) bK bB).1) c3,U ((bq I fo ([]:List aA) (I.length:Int) (bl I fo) aZ bK).2),U ((bq I fo ((bq I fo ([]:List aA) (I.length:Int) (bl I fo) aZ bK).1) (I.length:Int) (bl I fo) bK bB).2)] 25,J3,J2])
  refine aj (v:=U 0) J J<|aG<|rt<|iS kY 8 J cu J J J J J aJ ?_
  have e6:((bq I fo ([]:List aA) (I.length:Int) (bl I fo) aZ bK).2:Int)=((bq I fo ([]:List aA) (I.length:Int) (bl I fo) aZ bK).2):=rfl
  have e7:((bq I fo ((bq I fo ([]:List aA) (I.length:Int) (bl I fo) aZ bK).1) (I.length:Int) (bl I fo) bK bB).2:Int)=((bq I fo ((bq I fo ([]:List aA) (I.length:Int) (bl I fo) aZ bK).1) (I.length:Int) (bl I fo) bK bB).2):=rfl
  have bF:=sd (fun (Aq:Int) (x_7:Int)=>(.tuple #[.agg #[U kd,U bB,U aZ,U bK,U aO,.slice a3 ((bq I fo ((bq I fo ([]:List aA) (I.length:Int) (bl I fo) aZ bK).1) (I.length:Int) (bl I fo) bK bB).1).length c3,U Aq,U x_7],U 0]:Value)) e6 e7
  exact⟨((bq I fo ((bq I fo ([]:List aA) (I.length:Int) (bl I fo) aZ bK).1) (I.length:Int) (bl I fo) bK bB).1),((bq I fo ([]:List aA) (I.length:Int) (bl I fo) aZ bK).2),((bq I fo ((bq I fo ([]:List aA) (I.length:Int) (bl I fo) aZ bK).1) (I.length:Int) (bl I fo) bK bB).2),a3,c3,bF,kY.below,(kY.dV 2 J),(by exact sT),(by exact v7),(by refine ti (by first|exact so|exact AF|exact nW) (by first|exact pz|exact zJ) (by first|omega|(simp only[gW];omega)) ai),(by refine ti (by first|exact so|exact AF|exact nW) (by first|exact zJ|exact pz) (by first|omega|(simp only[gW];omega)) ai)⟩
 have p2:=dF b2
 refine aH<|k<|eql J J J J<|aj (v:=.bool (decide (kd=5))) J J<|z<|nx<|cd (b:=decide (kd=5)) J J (fun b3=>?_)<|fun b3=>?_
 ·
  refine sq ?_
  obtain⟨yI,mI,uJ,TY,akG,pz,AF,sT,v7⟩:=Xj eT mP oC ln uO (alT ‹decide (kd=5)=true›) rfl
  refine V1 [none,none,none,none,some 5,none,none,none,none,some 11,none,none] [0,0,0,0,12,31,63,127,127,0,767,2047] [fun v_=>[],fun v_=>[],fun v_=>[],fun v_=>[],fun v_=>[oL w 79 (vA<|v_ 4) (bP I fo (I.length:Int) (bw I fo) I.length) (vC<|v_ 4)],fun v_=>[iL (vA<|vK 1<|vK 1<|v_ 5) (dp (I.length:Int) (bl I fo)<|bP I fo (I.length:Int) (bw I fo) I.length) (vC<|vK 1<|vK 1<|v_ 5),oL w 92 (vA<|vK 0<|v_ 5) (eg I fo (I.length:Int) (bl I fo) ([]:List aA)<|bP I fo (I.length:Int) (bw I fo) I.length) (vC<|vK 0<|v_ 5)],fun v_=>[jL ((v_ 6)=(v_ 5))],fun v_=>[jL ((v_ 7)=vK 0 (v_ 6))],fun v_=>[jL ((v_ 8)=vK 1 (v_ 6))],fun v_=>[box (vG<|v_ 9) #[U 0,.slice none 0 0] 68],fun v_=>[jL ((v_ 10)=(v_ 7))],fun v_=>[box (vG<|v_ 9) #[U (I.length:Int),sL (vA<|vK 1<|vK 1<|v_ 5) (dp (I.length:Int) (bl I fo)<|bP I fo (I.length:Int) (bw I fo) I.length) (vC<|vK 1<|vK 1<|v_ 5)] 68]] [[],[],[],[],[],[4],[],[6],[6],[],[6,7],[6,8,9]] [fun v_=>v_=.agg #[.slice aC aE aB,sL av I au,sL ax fo aw],fun v_=>v_=.agg #[U (I.length:Int),sL a0 (bl I fo) c0],fun v_=>v_=.agg #[.slice aC aE aB,sL av I au,sL ax fo aw],fun v_=>v_=.agg #[U (I.length:Int),sL a1 (bw I fo) c1],fun v_=>∃(a2:Option Addr) (c2:Nat),v_=sL a2 (bP I fo (I.length:Int) (bw I fo) I.length) c2,fun v_=>∃(a3:Option Addr) (c3:Nat) (a4:Option Addr) (c4:Nat),v_=.tuple #[sL a3 (eg I fo (I.length:Int) (bl I fo) ([]:List aA)<|bP I fo (I.length:Int) (bw I fo) I.length) c3,.agg #[U (I.length:Int),sL a4 (dp (I.length:Int) (bl I fo)<|bP I fo (I.length:Int) (bw I fo) I.length) c4]],fun _=>True,fun _=>True,fun _=>True,fun v_=>∃(uw:Nat),v_=pV uw 0,fun _=>True,fun _=>True] [J9,J8,J7,J6,J5,J4,J3,J2,J1,J0] J bu J J cM ?_ ?_
  ·
   refine⟨fun f0 lz V_ bW n9 Jp A5 pc=>?_,?_⟩
   ·
    have iE:HI M w lz (j9++bW):=(by have h_:HI M w lz (j9++(bW)):=pc;exact h_)
    refine cg iE 7 J dn J (n9 2 J) aJ J ?_
    exact⟨_,J,J,iE⟩
   refine⟨fun f1 mB V_ bW xm oW yC kt=>?_,?_⟩
   ·
    have lJ:HI M w mB (j9++bW):=(by have h_:HI M w mB (j9++(bW)):=kt;exact h_)
    refine cg lJ 2 J bh J (xm 7 J) aJ J ?_
    exact⟨_,J,J,lJ⟩
   refine⟨fun f2 lL V_ bW gM rY j7 rn=>?_,?_⟩
   ·
    have sh:HI M w lL (j9++bW):=(by have h_:HI M w lL (j9++(bW)):=rn;exact h_)
    refine cg sh 7 J dn J (gM 2 J) aJ J ?_
    exact⟨_,J,J,sh⟩
   refine⟨fun f3 jX V_ bW GP lP A4 qJ=>?_,?_⟩
   ·
    have pb:HI M w jX (j9++bW):=(by have h_:HI M w jX (j9++(bW)):=qJ;exact h_)
    refine cg pb 0 J bh J (GP 8 J) aJ J ?_
    exact⟨_,J,J,pb⟩
   refine⟨fun f4 kJ V_ bW vY jk A3 BU=>?_,?_⟩
   ·
    obtain⟨ez0,q0⟩:=jk 2 _ rfl rfl rfl
    have ez1:V_ 2=.agg #[.slice aC aE aB,sL av I au,sL ax fo aw]:=q0
    have s0:f4 95=.agg #[.slice aC aE aB,sL av I au,sL ax fo aw]:=ez0.trans ez1
    obtain⟨ez2,q1⟩:=jk 3 _ rfl rfl rfl
    have ez3:V_ 3=.agg #[U (I.length:Int),sL a1 (bw I fo) c1]:=q1
    have s1:f4 96=.agg #[U (I.length:Int),sL a1 (bw I fo) c1]:=ez2.trans ez3
    have uB:HI M w kJ (j9++bW):=(by have h_:HI M w kJ (j9++(bW)):=BU;exact h_)
    have oo:=Cp (I:=I) (fo:=fo) (mn:=(I.length:Int)) (mr:=(bw I fo)) (aC:=aC) (aE:=aE) (aB:=aB) uB.mb (uB.rv 9 J) (uB.rv 8 J) aY (uB.rv 1 J) (by exact ho) (by exact cT) (by exact eT) (by exact Cl)<|by rfl
    refine ca aaX J (ec s0<|ec s1 e0) oo ?_
    rintro _ ow ⟨a5,c5,rfl,gv,fQ⟩
    have sZ:=uB.ic fQ
    let J18:=oL w 79 a5 (bP I fo (I.length:Int) (bw I fo) I.length) c5
    have sP:HI M w ow ((J18::j9)++bW):=sZ
    have lS:=HI.ba (l:=(J18::j9)) (l':=[J9,J8,J7,J6,J5,J4,J3,J2,J1,J0,J18]) (t:=bW) sP [1,2,3,4,5,6,7,8,9,10,0] aJ J J
    exact⟨_,J,⟨a5,c5,J⟩,lS⟩
   refine⟨fun f5 kv V_ bW ZG j8 A2 sO=>?_,?_⟩
   ·
    obtain⟨ez4,q2⟩:=j8 0 _ rfl rfl rfl
    have ez5:V_ 0=.agg #[.slice aC aE aB,sL av I au,sL ax fo aw]:=q2
    have s2:f5 93=.agg #[.slice aC aE aB,sL av I au,sL ax fo aw]:=ez4.trans ez5
    obtain⟨ez6,q3⟩:=j8 1 _ rfl rfl rfl
    have ez7:V_ 1=.agg #[U (I.length:Int),sL a0 (bl I fo) c0]:=q3
    have s3:f5 94=.agg #[U (I.length:Int),sL a0 (bl I fo) c0]:=ez6.trans ez7
    obtain⟨ez8,q4⟩:=j8 4 _ rfl rfl rfl
    obtain⟨a6,c6,ez9⟩:∃(a6:Option Addr) (c6:Nat),V_ 4=sL a6 (bP I fo (I.length:Int) (bw I fo) I.length) c6:=q4
    have s4:f5 97=sL a6 (bP I fo (I.length:Int) (bw I fo) I.length) c6:=ez8.trans ez9
    have sY:HI M w kv ([box wJ #[U (I.length:Int),sL a1 (bw I fo) c1] 68,iL a1 (bw I fo) c1,box mV #[U (I.length:Int),sL a0 (bl I fo) c0] 68,iL a0 (bl I fo) c0,box dI #[U kd,U bB,U aZ,U bK,U aO,.slice none 0 0,U (-1),U (-1)] 25,box bj #[U 0,U 0,U 0,U 0,U 0,.slice none 0 0,U 0,U 0] 25,box aW #[U kd,U bB,U aZ,U bK,U aO,.slice eM jd eL,dH,cV] 25,box aK #[.slice aC aE aB,sL av I au,sL ax fo aw] 32,iL ax fo aw,iL av I au,oL w 79 a6 (bP I fo (I.length:Int) (bw I fo) I.length) c6]++bW):=(by have h_:HI M w kv ([box wJ #[U (I.length:Int),sL a1 (bw I fo) c1] 68,iL a1 (bw I fo) c1,box mV #[U (I.length:Int),sL a0 (bl I fo) c0] 68,iL a0 (bl I fo) c0,box dI #[U kd,U bB,U aZ,U bK,U aO,.slice none 0 0,U (-1),U (-1)] 25,box bj #[U 0,U 0,U 0,U 0,U 0,.slice none 0 0,U 0,U 0] 25,box aW #[U kd,U bB,U aZ,U bK,U aO,.slice eM jd eL,dH,cV] 25,box aK #[.slice aC aE aB,sL av I au,sL ax fo aw] 32,iL ax fo aw,iL av I au]++([oL w 79 (vA<|V_ 4) (bP I fo (I.length:Int) (bw I fo) I.length) (vC<|V_ 4)]++(bW))):=sO;rw[ez9] at h_;exact h_)
    have BT:=sY.ke aA 92
    let Wh:=own w.heap.size 92 (.slice none 0 0) ([]:List aA)
    have sN:HI M w kv ([Wh,J9,J8,J7,J6,J5,J4,J3,J2,J1,J0,oL w 79 a6 (bP I fo (I.length:Int) (bw I fo) I.length) c6]++bW):=BT
    have sX:=sN.freeze 11 J
    let J20:=iL a6 (bP I fo (I.length:Int) (bw I fo) I.length) c6
    let Sd:=[Wh,J9,J8,J7,J6,J5,J4,J3,J2,J1,J0,J20]
    have wU:HI M w kv (Sd++bW):=sX
    let F5:=[J6,J20,J9,J8,J7,J5,J4,J3,J2]
    have KY:HI M w kv ([J0,J1,Wh,J6,J20]++([J9,J8,J7,J5,J4,J3,J2]++bW)):=HI.ba (l:=Sd) (l':=(J0::J1::Wh::F5)) (t:=bW) wU [10,9,0,4,11,1,2,3,5,6,7,8] aJ J J
    have wF:=vD (aC:=aC) (aE:=aE) (aB:=aB) (av:=av) (au:=au) (I:=I) (ax:=ax) (aw:=aw) (fo:=fo) (dO:=none) (dN:=0) (l:=([]:List aA)) (mn:=(I.length:Int)) (aU:=a0) (aT:=c0) (mr:=(bl I fo)) (xV:=a6) (xU:=c6) (es:=(bP I fo (I.length:Int) (bw I fo) I.length)) (w:=w) (w_:=kv) (r:=([J9,J8,J7,J5,J4,J3,J2]++bW)) (M:=M) aY (by exact ho) (by exact eT) (by exact cT) (by exact so) (by rfl) (by exact mI) (by first|exact uJ) ai (by simp only[gW];omega) KY
    refine ca Uc J (ec s2<|ec J<|ec s3<|ec s4 e0) wF ?_
    rintro _ nU ⟨a7,c7,a8,c8,rfl,KW⟩
    let J21:=iL a8 (dp (I.length:Int) (bl I fo) (bP I fo (I.length:Int) (bw I fo) I.length)) c8
    let J22:=oL w 92 a7 (eg I fo (I.length:Int) (bl I fo) ([]:List aA) (bP I fo (I.length:Int) (bw I fo) I.length)) c7
    have Sv:HI M w nU ((J21::J0::J1::J22::F5)++bW):=KW
    have M_:=HI.ba (l:=(J21::J0::J1::J22::F5)) (l':=[J9,J8,J7,J6,J5,J4,J3,J2,J1,J0,J21,J22]) (t:=bW) Sv [6,7,8,4,9,10,11,12,2,1,0,3] aJ J J
    exact⟨_,J,⟨a7,c7,a8,c8,J⟩,M_⟩
   refine⟨fun f6 ov V_ bW Mi kj A1 Su=>?_,?_⟩
   ·
    obtain⟨ags,q5⟩:=kj 5 _ rfl rfl rfl
    obtain⟨a9,c9,lI,lH,abf⟩:∃(a9:Option Addr) (c9:Nat) (lI:Option Addr) (lH:Nat),V_ 5=.tuple #[sL a9 (eg I fo (I.length:Int) (bl I fo) ([]:List aA) (bP I fo (I.length:Int) (bw I fo) I.length)) c9,.agg #[U (I.length:Int),sL lI (dp (I.length:Int) (bl I fo) (bP I fo (I.length:Int) (bw I fo) I.length)) lH]]:=q5
    have s5:f6 98=.tuple #[sL a9 (eg I fo (I.length:Int) (bl I fo) ([]:List aA) (bP I fo (I.length:Int) (bw I fo) I.length)) c9,.agg #[U (I.length:Int),sL lI (dp (I.length:Int) (bl I fo) (bP I fo (I.length:Int) (bw I fo) I.length)) lH]]:=ags.trans abf
    have St:HI M w ov (j9++bW):=(by have h_:HI M w ov (j9++(bW)):=Su;exact h_)
    refine mv J s5 ?_
    have adK:.tuple #[sL a9 (eg I fo (I.length:Int) (bl I fo) ([]:List aA) (bP I fo (I.length:Int) (bw I fo) I.length)) c9,.agg #[U (I.length:Int),sL lI (dp (I.length:Int) (bl I fo) (bP I fo (I.length:Int) (bw I fo) I.length)) lH]]=(V_ 5):=(by rw[abf]<;>rfl)
    have M9:=HI.ba (l:=(jL (.tuple #[sL a9 (eg I fo (I.length:Int) (bl I fo) ([]:List aA)<|bP I fo (I.length:Int) (bw I fo) I.length) c9,.agg #[U (I.length:Int),sL lI (dp (I.length:Int) (bl I fo)<|bP I fo (I.length:Int) (bw I fo) I.length) lH]]=(V_ 5))::j9)) (l':=[J9,J8,J7,J6,J5,J4,J3,J2,J1,J0,jL (.tuple #[sL a9 (eg I fo (I.length:Int) (bl I fo) ([]:List aA)<|bP I fo (I.length:Int) (bw I fo) I.length) c9,.agg #[U (I.length:Int),sL lI (dp (I.length:Int) (bl I fo)<|bP I fo (I.length:Int) (bw I fo) I.length) lH]]=(V_ 5))]) (t:=bW) (HI.pr (p:=.tuple #[sL a9 (eg I fo (I.length:Int) (bl I fo) ([]:List aA)<|bP I fo (I.length:Int) (bw I fo) I.length) c9,.agg #[U (I.length:Int),sL lI (dp (I.length:Int) (bl I fo)<|bP I fo (I.length:Int) (bw I fo) I.length) lH]]=(V_ 5)) St adK) [1,2,3,4,5,6,7,8,9,10,0] aJ J J
    exact⟨_,J,trivial,M9⟩
   refine⟨fun f7 pL V_ bW ZF ll A0 Ss=>?_,?_⟩
   ·
    let KS:=[J9,J8,J7,J6,J5,J4,J3,J2,J1,J0,jL ((V_ 6)=(V_ 5))]
    have Hk:HI M w pL (KS++bW):=Ss
    have yB:V_ 6=(V_ 5):=HI.at_ (it:=jL ((V_ 6)=(V_ 5))) Hk 10 J
    have Sr:=HI.ba (l:=KS) (l':=j9) (t:=bW) Hk [0,1,2,3,4,5,6,7,8,9] aJ J J
    obtain⟨akS,q6⟩:=ll 5 _ rfl rfl rfl
    obtain⟨pI,pF,a12,qH,abe⟩:∃(pI:Option Addr) (pF:Nat) (a12:Option Addr) (qH:Nat),V_ 5=.tuple #[sL pI (eg I fo (I.length:Int) (bl I fo) ([]:List aA) (bP I fo (I.length:Int) (bw I fo) I.length)) pF,.agg #[U (I.length:Int),sL a12 (dp (I.length:Int) (bl I fo) (bP I fo (I.length:Int) (bw I fo) I.length)) qH]]:=q6
    have s7:f7 92=.tuple #[sL pI (eg I fo (I.length:Int) (bl I fo) ([]:List aA) (bP I fo (I.length:Int) (bw I fo) I.length)) pF,.agg #[U (I.length:Int),sL a12 (dp (I.length:Int) (bl I fo) (bP I fo (I.length:Int) (bw I fo) I.length)) qH]]:=(show f7 92=V_ 6 from(ll 6 _ J J J).1).trans (yB.trans (by rw[abe]<;>rfl))
    have H58:HI M w pL (j9++bW):=(by have h_:HI M w pL (j9++([]++bW)):=Sr;exact h_)
    refine xt J s7 J ?_
    have adJ:sL pI (eg I fo (I.length:Int) (bl I fo) ([]:List aA) (bP I fo (I.length:Int) (bw I fo) I.length)) pF=vK 0 (V_ 6):=(by rw[yB,abe]<;>rfl)
    have Hj:=HI.ba (l:=(jL (sL pI (eg I fo (I.length:Int) (bl I fo) ([]:List aA)<|bP I fo (I.length:Int) (bw I fo) I.length) pF=vK 0 (V_ 6))::jL ((V_ 6)=(V_ 5))::j9)) (l':=[J9,J8,J7,J6,J5,J4,J3,J2,J1,J0,jL ((V_ 6)=(V_ 5)),jL (sL pI (eg I fo (I.length:Int) (bl I fo) ([]:List aA)<|bP I fo (I.length:Int) (bw I fo) I.length) pF=vK 0 (V_ 6))]) (t:=bW) (HI.pr (p:=sL pI (eg I fo (I.length:Int) (bl I fo) ([]:List aA)<|bP I fo (I.length:Int) (bw I fo) I.length) pF=vK 0 (V_ 6)) (HI.pr (p:=(V_ 6)=(V_ 5)) H58 yB) adJ) [2,3,4,5,6,7,8,9,10,11,1,0] aJ J J
    exact⟨_,J,trivial,Hj⟩
   refine⟨fun f8 nL V_ bW Mh jj Mk H61=>?_,?_⟩
   ·
    let DM:=[J9,J8,J7,J6,J5,J4,J3,J2,J1,J0,jL ((V_ 6)=(V_ 5))]
    have M7:HI M w nL (DM++bW):=H61
    have zI:V_ 6=(V_ 5):=HI.at_ (it:=jL ((V_ 6)=(V_ 5))) M7 10 J
    have Sq:=HI.ba (l:=DM) (l':=j9) (t:=bW) M7 [0,1,2,3,4,5,6,7,8,9] aJ J J
    obtain⟨akR,q7⟩:=jj 5 _ rfl rfl rfl
    obtain⟨sg,se,y_,y7,abd⟩:∃(sg:Option Addr) (se:Nat) (y_:Option Addr) (y7:Nat),V_ 5=.tuple #[sL sg (eg I fo (I.length:Int) (bl I fo) ([]:List aA) (bP I fo (I.length:Int) (bw I fo) I.length)) se,.agg #[U (I.length:Int),sL y_ (dp (I.length:Int) (bl I fo) (bP I fo (I.length:Int) (bw I fo) I.length)) y7]]:=q7
    have s9:f8 92=.tuple #[sL sg (eg I fo (I.length:Int) (bl I fo) ([]:List aA) (bP I fo (I.length:Int) (bw I fo) I.length)) se,.agg #[U (I.length:Int),sL y_ (dp (I.length:Int) (bl I fo) (bP I fo (I.length:Int) (bw I fo) I.length)) y7]]:=(show f8 92=V_ 6 from(jj 6 _ J J J).1).trans (zI.trans (by rw[abd]<;>rfl))
    have M6:HI M w nL (j9++bW):=(by have h_:HI M w nL (j9++([]++bW)):=Sq;exact h_)
    refine xt J s9 J ?_
    have adI:.agg #[U (I.length:Int),sL y_ (dp (I.length:Int) (bl I fo) (bP I fo (I.length:Int) (bw I fo) I.length)) y7]=vK 1 (V_ 6):=(by rw[zI,abd]<;>rfl)
    have H66:=HI.ba (l:=(jL (.agg #[U (I.length:Int),sL y_ (dp (I.length:Int) (bl I fo)<|bP I fo (I.length:Int) (bw I fo) I.length) y7]=vK 1 (V_ 6))::jL ((V_ 6)=(V_ 5))::j9)) (l':=[J9,J8,J7,J6,J5,J4,J3,J2,J1,J0,jL ((V_ 6)=(V_ 5)),jL (.agg #[U (I.length:Int),sL y_ (dp (I.length:Int) (bl I fo)<|bP I fo (I.length:Int) (bw I fo) I.length) y7]=vK 1 (V_ 6))]) (t:=bW) (HI.pr (p:=.agg #[U (I.length:Int),sL y_ (dp (I.length:Int) (bl I fo)<|bP I fo (I.length:Int) (bw I fo) I.length) y7]=vK 1 (V_ 6)) (HI.pr (p:=(V_ 6)=(V_ 5)) M6 zI) adI) [2,3,4,5,6,7,8,9,10,11,1,0] aJ J J
    exact⟨_,J,trivial,H66⟩
   refine⟨fun f9 xX V_ bW ZE mS FN Sp=>?_,?_⟩
   ·
    have H68:HI M w xX (j9++bW):=(by have h_:HI M w xX (j9++(bW)):=Sp;exact h_)
    refine al H68 bh ?_
    intro V6 DP j0 (H69:HI M w DP ((box V6 #[U 0,.slice none 0 0] 68::j9)++bW))
    have Sn:=HI.ba (l:=(box V6 #[U 0,.slice none 0 0] 68::j9)) (l':=[J9,J8,J7,J6,J5,J4,J3,J2,J1,J0,box V6 #[U 0,.slice none 0 0] 68]) (t:=bW) H69 [1,2,3,4,5,6,7,8,9,10,0] aJ J J
    exact⟨_,J,⟨V6,J⟩,Sn⟩
   refine⟨fun f10 Ge V_ bW TI iz Jl Sm=>?_,?_⟩
   ·
    let KR:=[J9,J8,J7,J6,J5,J4,J3,J2,J1,J0,jL ((V_ 6)=(V_ 5)),jL ((V_ 7)=vK 0 (V_ 6))]
    have H72:HI M w Ge (KR++bW):=Sm
    have FM:V_ 6=(V_ 5):=HI.at_ (it:=jL ((V_ 6)=(V_ 5))) H72 10 J
    have FL:V_ 7=vK 0 (V_ 6):=HI.at_ (it:=jL ((V_ 7)=vK 0 (V_ 6))) H72 11 J
    have Sl:=HI.ba (l:=KR) (l':=j9) (t:=bW) H72 [0,1,2,3,4,5,6,7,8,9] aJ J J
    obtain⟨akQ,q8⟩:=iz 5 _ rfl rfl rfl
    obtain⟨uZ,uY,mW,mU,abc⟩:∃(uZ:Option Addr) (uY:Nat) (mW:Option Addr) (mU:Nat),V_ 5=.tuple #[sL uZ (eg I fo (I.length:Int) (bl I fo) ([]:List aA) (bP I fo (I.length:Int) (bw I fo) I.length)) uY,.agg #[U (I.length:Int),sL mW (dp (I.length:Int) (bl I fo) (bP I fo (I.length:Int) (bw I fo) I.length)) mU]]:=q8
    have ew:f10 99=sL uZ (eg I fo (I.length:Int) (bl I fo) ([]:List aA) (bP I fo (I.length:Int) (bw I fo) I.length)) uY:=(show f10 99=V_ 7 from(iz 7 _ J J J).1).trans (FL.trans (by rw[FM,abc]<;>rfl))
    have M5:HI M w Ge (j9++bW):=(by have h_:HI M w Ge (j9++([]++bW)):=Sl;exact h_)
    refine gH J ew ?_
    have adH:sL uZ (eg I fo (I.length:Int) (bl I fo) ([]:List aA) (bP I fo (I.length:Int) (bw I fo) I.length)) uY=(V_ 7):=(by rw[FL,FM,abc]<;>rfl)
    have H76:=HI.ba (l:=(jL (sL uZ (eg I fo (I.length:Int) (bl I fo) ([]:List aA)<|bP I fo (I.length:Int) (bw I fo) I.length) uY=(V_ 7))::jL ((V_ 7)=vK 0 (V_ 6))::jL ((V_ 6)=(V_ 5))::j9)) (l':=[J9,J8,J7,J6,J5,J4,J3,J2,J1,J0,jL ((V_ 6)=(V_ 5)),jL ((V_ 7)=vK 0 (V_ 6)),jL (sL uZ (eg I fo (I.length:Int) (bl I fo) ([]:List aA)<|bP I fo (I.length:Int) (bw I fo) I.length) uY=(V_ 7))]) (t:=bW) (HI.pr (p:=sL uZ (eg I fo (I.length:Int) (bl I fo) ([]:List aA)<|bP I fo (I.length:Int) (bw I fo) I.length) uY=(V_ 7)) (HI.pr (p:=(V_ 7)=vK 0 (V_ 6)) (HI.pr (p:=(V_ 6)=(V_ 5)) M5 FM) FL) adH) [3,4,5,6,7,8,9,10,11,12,2,1,0] aJ J J
    exact⟨_,J,trivial,H76⟩
   refine⟨fun f11 Gc V_ bW ZH jI TM H77=>?_,?_⟩
   ·
    let J23:=box (vG (V_ 9)) #[U 0,.slice none 0 0] 68
    let KQ:=[J9,J8,J7,J6,J5,J4,J3,J2,J1,J0,jL ((V_ 6)=(V_ 5)),jL ((V_ 8)=vK 1 (V_ 6)),J23]
    have Sk:HI M w Gc (KQ++bW):=H77
    have TL:V_ 6=(V_ 5):=HI.at_ (it:=jL ((V_ 6)=(V_ 5))) Sk 10 J
    have TK:V_ 8=vK 1 (V_ 6):=HI.at_ (it:=jL ((V_ 8)=vK 1 (V_ 6))) Sk 11 J
    have H79:=HI.ba (l:=KQ) (l':=[J9,J8,J7,J6,J5,J4,J3,J2,J1,J0,J23]) (t:=bW) Sk [0,1,2,3,4,5,6,7,8,9,12] aJ J J
    obtain⟨agr,q9⟩:=jI 9 _ rfl rfl rfl
    obtain⟨MT,Uk⟩:∃(MT:Nat),V_ 9=pV MT 0:=q9
    have eE:f11 10=pV MT 0:=agr.trans Uk
    obtain⟨akP,YC⟩:=jI 5 _ rfl rfl rfl
    obtain⟨a17,wG,KO,Ky,Uj⟩:∃(a17:Option Addr) (wG:Nat) (KO:Option Addr) (Ky:Nat),V_ 5=.tuple #[sL a17 (eg I fo (I.length:Int) (bl I fo) ([]:List aA) (bP I fo (I.length:Int) (bw I fo) I.length)) wG,.agg #[U (I.length:Int),sL KO (dp (I.length:Int) (bl I fo) (bP I fo (I.length:Int) (bw I fo) I.length)) Ky]]:=YC
    have fJ:f11 100=.agg #[U (I.length:Int),sL KO (dp (I.length:Int) (bl I fo) (bP I fo (I.length:Int) (bw I fo) I.length)) Ky]:=(show f11 100=V_ 8 from(jI 8 _ J J J).1).trans (TK.trans (by rw[TL,Uj]<;>rfl))
    have H80:HI M w Gc ([box wJ #[U (I.length:Int),sL a1 (bw I fo) c1] 68,iL a1 (bw I fo) c1,box mV #[U (I.length:Int),sL a0 (bl I fo) c0] 68,iL a0 (bl I fo) c0,box dI #[U kd,U bB,U aZ,U bK,U aO,.slice none 0 0,U (-1),U (-1)] 25,box bj #[U 0,U 0,U 0,U 0,U 0,.slice none 0 0,U 0,U 0] 25,box aW #[U kd,U bB,U aZ,U bK,U aO,.slice eM jd eL,dH,cV] 25,box aK #[.slice aC aE aB,sL av I au,sL ax fo aw] 32,iL ax fo aw,iL av I au,box MT #[U 0,.slice none 0 0] 68]++bW):=(by have h_:HI M w Gc ([box wJ #[U (I.length:Int),sL a1 (bw I fo) c1] 68,iL a1 (bw I fo) c1,box mV #[U (I.length:Int),sL a0 (bl I fo) c0] 68,iL a0 (bl I fo) c0,box dI #[U kd,U bB,U aZ,U bK,U aO,.slice none 0 0,U (-1),U (-1)] 25,box bj #[U 0,U 0,U 0,U 0,U 0,.slice none 0 0,U 0,U 0] 25,box aW #[U kd,U bB,U aZ,U bK,U aO,.slice eM jd eL,dH,cV] 25,box aK #[.slice aC aE aB,sL av I au,sL ax fo aw] 32,iL ax fo aw,iL av I au]++([box (vG<|V_ 9) #[U 0,.slice none 0 0] 68]++bW)):=H79;rw[Uk] at h_;exact h_)
    refine cz H80 10 J bh J J eE fJ J J J ?_
    let J24:=box MT #[U (I.length:Int),sL KO (dp (I.length:Int) (bl I fo) (bP I fo (I.length:Int) (bw I fo) I.length)) Ky] 68
    intro Ij (H81:HI M w Ij ([J9,J8,J7,J6,J5,J4,J3,J2,J1,J0,J24]++bW))
    have H83:=HI.ba (l:=[jL ((V_ 8)=vK 1 (V_ 6)),jL ((V_ 6)=(V_ 5)),J9,J8,J7,J6,J5,J4,J3,J2,J1,J0,J24]) (l':=[J9,J8,J7,J6,J5,J4,J3,J2,J1,J0,jL ((V_ 6)=(V_ 5)),jL ((V_ 8)=vK 1 (V_ 6)),J24]) (t:=bW) (HI.pr (p:=(V_ 8)=vK 1 (V_ 6)) (HI.pr (p:=(V_ 6)=(V_ 5)) H81 TL) TK) [2,3,4,5,6,7,8,9,10,11,1,0,12] aJ J J
    exact⟨undef,J,trivial,(by have h_:=H83;(try simp +zetaDelta only[] at h_);rw[show (MT:Nat)=(vG<|V_ 9) from by rw[Uk]<;>rfl,show (KO:Option Addr)=(vA<|vK 1<|vK 1<|V_ 5) from by rw[Uj]<;>rfl,show (Ky:Nat)=(vC<|vK 1<|vK 1<|V_ 5) from by rw[Uj]<;>rfl] at h_;exact h_)⟩
   exact trivial
  ·
   intro f12 Au V_ AZ kg H84
   obtain⟨agq,YB⟩:=kg 9 _ rfl rfl
   obtain⟨R4,abb⟩:∃(R4:Nat),V_ 9=pV R4 0:=YB
   have fw:f12 10=pV R4 0:=agq.trans abb
   obtain⟨akO,YA⟩:=kg 5 _ rfl rfl
   obtain⟨MW,MP,a20,Hb,aba⟩:∃(MW:Option Addr) (MP:Nat) (a20:Option Addr) (Hb:Nat),V_ 5=.tuple #[sL MW (eg I fo (I.length:Int) (bl I fo) ([]:List aA) (bP I fo (I.length:Int) (bw I fo) I.length)) MP,.agg #[U (I.length:Int),sL a20 (dp (I.length:Int) (bl I fo) (bP I fo (I.length:Int) (bw I fo) I.length)) Hb]]:=YA
   have gF:f12 2=pV aK 0:=AZ 2 J
   have gL:f12 3=pV aW 0:=AZ 3 J
   have gE:f12 4=pV bj 0:=AZ 4 J
   have jg:f12 6=pV dI 0:=AZ 6 J
   have M4:HI M w Au [box wJ #[U (I.length:Int),sL a1 (bw I fo) c1] 68,iL a1 (bw I fo) c1,box mV #[U (I.length:Int),sL a0 (bl I fo) c0] 68,iL a0 (bl I fo) c0,box dI #[U kd,U bB,U aZ,U bK,U aO,.slice none 0 0,U (-1),U (-1)] 25,box bj #[U 0,U 0,U 0,U 0,U 0,.slice none 0 0,U 0,U 0] 25,box aW #[U kd,U bB,U aZ,U bK,U aO,.slice eM jd eL,dH,cV] 25,box aK #[.slice aC aE aB,sL av I au,sL ax fo aw] 32,iL ax fo aw,iL av I au,iL (vA (vK 1 (vK 1 (V_ 5)))) (dp (I.length:Int) (bl I fo) (bP I fo (I.length:Int) (bw I fo) I.length)) (vC (vK 1 (vK 1 (V_ 5)))),oL w 92 (vA (vK 0 (V_ 5))) (eg I fo (I.length:Int) (bl I fo) ([]:List aA) (bP I fo (I.length:Int) (bw I fo) I.length)) (vC (vK 0 (V_ 5))),jL ((V_ 6)=(V_ 5)),jL ((V_ 7)=vK 0 (V_ 6)),jL ((V_ 8)=vK 1 (V_ 6)),jL ((V_ 10)=(V_ 7)),box (vG (V_ 9)) #[U (I.length:Int),sL (vA (vK 1 (vK 1 (V_ 5)))) (dp (I.length:Int) (bl I fo) (bP I fo (I.length:Int) (bw I fo) I.length)) (vC (vK 1 (vK 1 (V_ 5))))] 68]:=(by refine cast ?_ H84;kernel_rfl)
   have ZQ:V_ 6=(V_ 5):=HI.at_ (it:=jL ((V_ 6)=(V_ 5))) M4 12 J
   have ZP:V_ 7=vK 0 (V_ 6):=HI.at_ (it:=jL ((V_ 7)=vK 0 (V_ 6))) M4 13 J
   have ZO:V_ 10=(V_ 7):=HI.at_ (it:=jL ((V_ 10)=(V_ 7))) M4 15 J
   have H86:HI M w Au [J9,J8,J7,J6,J5,J4,J3,J2,J1,J0,iL (vA (vK 1 (vK 1 (V_ 5)))) (dp (I.length:Int) (bl I fo) (bP I fo (I.length:Int) (bw I fo) I.length)) (vC (vK 1 (vK 1 (V_ 5)))),oL w 92 (vA (vK 0 (V_ 5))) (eg I fo (I.length:Int) (bl I fo) ([]:List aA) (bP I fo (I.length:Int) (bw I fo) I.length)) (vC (vK 0 (V_ 5))),box (vG (V_ 9)) #[U (I.length:Int),sL (vA (vK 1 (vK 1 (V_ 5)))) (dp (I.length:Int) (bl I fo) (bP I fo (I.length:Int) (bw I fo) I.length)) (vC (vK 1 (vK 1 (V_ 5))))] 68]:=M4.c_ [0,1,2,3,4,5,6,7,8,9,10,11,16] aJ J
   have kU:f12 9=sL MW (eg I fo (I.length:Int) (bl I fo) ([]:List aA) (bP I fo (I.length:Int) (bw I fo) I.length)) MP:=(show f12 9=V_ 10 from(kg 10 _ J J).1).trans (ZO.trans (by rw[ZP,ZQ,aba]<;>rfl))
   have KU:HI M w Au [box wJ #[U (I.length:Int),sL a1 (bw I fo) c1] 68,iL a1 (bw I fo) c1,box mV #[U (I.length:Int),sL a0 (bl I fo) c0] 68,iL a0 (bl I fo) c0,box dI #[U kd,U bB,U aZ,U bK,U aO,.slice none 0 0,U (-1),U (-1)] 25,box bj #[U 0,U 0,U 0,U 0,U 0,.slice none 0 0,U 0,U 0] 25,box aW #[U kd,U bB,U aZ,U bK,U aO,.slice eM jd eL,dH,cV] 25,box aK #[.slice aC aE aB,sL av I au,sL ax fo aw] 32,iL ax fo aw,iL av I au,iL a20 (dp (I.length:Int) (bl I fo) (bP I fo (I.length:Int) (bw I fo) I.length)) Hb,oL w 92 MW (eg I fo (I.length:Int) (bl I fo) ([]:List aA) (bP I fo (I.length:Int) (bw I fo) I.length)) MP,box R4 #[U (I.length:Int),sL a20 (dp (I.length:Int) (bl I fo) (bP I fo (I.length:Int) (bw I fo) I.length)) Hb] 68]:=(by have h_:HI M w Au ([box wJ #[U (I.length:Int),sL a1 (bw I fo) c1] 68,iL a1 (bw I fo) c1,box mV #[U (I.length:Int),sL a0 (bl I fo) c0] 68,iL a0 (bl I fo) c0,box dI #[U kd,U bB,U aZ,U bK,U aO,.slice none 0 0,U (-1),U (-1)] 25,box bj #[U 0,U 0,U 0,U 0,U 0,.slice none 0 0,U 0,U 0] 25,box aW #[U kd,U bB,U aZ,U bK,U aO,.slice eM jd eL,dH,cV] 25,box aK #[.slice aC aE aB,sL av I au,sL ax fo aw] 32,iL ax fo aw,iL av I au]++([iL (vA<|vK 1<|vK 1<|V_ 5) (dp (I.length:Int) (bl I fo)<|bP I fo (I.length:Int) (bw I fo) I.length) (vC<|vK 1<|vK 1<|V_ 5),oL w 92 (vA<|vK 0<|V_ 5) (eg I fo (I.length:Int) (bl I fo) ([]:List aA)<|bP I fo (I.length:Int) (bw I fo) I.length) (vC<|vK 0<|V_ 5),box (vG<|V_ 9) #[U (I.length:Int),sL (vA<|vK 1<|vK 1<|V_ 5) (dp (I.length:Int) (bl I fo)<|bP I fo (I.length:Int) (bw I fo) I.length) (vC<|vK 1<|vK 1<|V_ 5)] 68])):=H86;rw[abb] at h_;rw[aba] at h_;exact h_)
   refine nx<|rg<|k<|cg KU 7 J dn J gF aJ J<|ak J kU<|k<|cg KU 12 J bh J fw aJ J<|bo ir J gL<|bR KU 6 J aQ J J J<|bo ir J gL<|bR KU 6 J aQ J J J<|k ?_
   let Sj:=iL a20 (dp (I.length:Int) (bl I fo) (bP I fo (I.length:Int) (bw I fo) I.length)) Hb
   let M3:=box R4 #[U (I.length:Int),sL a20 (dp (I.length:Int) (bl I fo) (bP I fo (I.length:Int) (bw I fo) I.length)) Hb] 68
   have H88:HI M w Au ([J0,J1,oL w 92 MW (eg I fo (I.length:Int) (bl I fo) ([]:List aA) (bP I fo (I.length:Int) (bw I fo) I.length)) MP,Sj]++[J9,J8,J7,J6,J5,J4,J3,J2,M3]):=KU.c_ [9,8,11,10,0,1,2,3,4,5,6,7,12] aJ J
   have y6:=oB (aC:=aC) (aE:=aE) (aB:=aB) (av:=av) (au:=au) (I:=I) (ax:=ax) (aw:=aw) (fo:=fo) (dO:=MW) (dN:=MP) (l:=(eg I fo (I.length:Int) (bl I fo) ([]:List aA)<|bP I fo (I.length:Int) (bw I fo) I.length)) (mn:=(I.length:Int)) (aU:=a20) (aT:=Hb) (mr:=(dp (I.length:Int) (bl I fo)<|bP I fo (I.length:Int) (bw I fo) I.length)) (n1:=aO) (n2:=aO) (w:=w) (w_:=Au) (r:=[J9,J8,J7,J6,J5,J4,J3,J2,M3]) (M:=M) aY ie ie (by exact ho) (by exact eT) (by exact cT) (by exact AF) (by rfl) (by exact pz) ai H88
   refine ca Bp J (ec J<|ec J<|ec J<|ec J<|ec J e0) y6 ?_
   rintro _ Ii ⟨a21,BG,rfl,Wk⟩
   let Wg:=oL w 92 a21 ((bq I fo (eg I fo (I.length:Int) (bl I fo) ([]:List aA) (bP I fo (I.length:Int) (bw I fo) I.length)) (I.length:Int) (dp (I.length:Int) (bl I fo) (bP I fo (I.length:Int) (bw I fo) I.length)) aO aO).1) BG
   have H90:HI M w Ii [J0,J1,Wg,Sj,J9,J8,J7,J6,J5,J4,J3,J2,M3]:=Wk
   refine ak (v:=.tuple #[sL a21 ((bq I fo (eg I fo (I.length:Int) (bl I fo) ([]:List aA)<|bP I fo (I.length:Int) (bw I fo) I.length) (I.length:Int) (dp (I.length:Int) (bl I fo)<|bP I fo (I.length:Int) (bw I fo) I.length) aO aO).1) BG,U ((bq I fo (eg I fo (I.length:Int) (bl I fo) ([]:List aA)<|bP I fo (I.length:Int) (bw I fo) I.length) (I.length:Int) (dp (I.length:Int) (bl I fo)<|bP I fo (I.length:Int) (bw I fo) I.length) aO aO).2)]) J J<|k<|xt J J J<|k<|xt J J J<|bo pa J jg<|k<|cz H90 8 J oI J J J J J J J ?_
   intro Pj (H91:HI M w Pj [J0,J1,Wg,Sj,J9,J8,J7,J6,box dI #[U kd,U bB,U aZ,U bK,U aO,sL a21 ((bq I fo (eg I fo (I.length:Int) (bl I fo) ([]:List aA) (bP I fo (I.length:Int) (bw I fo) I.length)) (I.length:Int) (dp (I.length:Int) (bl I fo) (bP I fo (I.length:Int) (bw I fo) I.length)) aO aO).1) BG,U (-1),U (-1)] 25,J4,J3,J2,M3])
   refine bo nw J jg<|k<|cz H91 8 J aQ J J J J J J J ?_
   let J28:=box dI #[U kd,U bB,U aZ,U bK,U aO,sL a21 ((bq I fo (eg I fo (I.length:Int) (bl I fo) ([]:List aA) (bP I fo (I.length:Int) (bw I fo) I.length)) (I.length:Int) (dp (I.length:Int) (bl I fo) (bP I fo (I.length:Int) (bw I fo) I.length)) aO aO).1) BG,U ((bq I fo (eg I fo (I.length:Int) (bl I fo) ([]:List aA) (bP I fo (I.length:Int) (bw I fo) I.length)) (I.length:Int) (dp (I.length:Int) (bl I fo) (bP I fo (I.length:Int) (bw I fo) I.length)) aO aO).2),U (-1)] 25
   intro UK (H92:HI M w UK [J0,J1,Wg,Sj,J9,J8,J7,J6,J28,J4,J3,J2,M3])
   refine z<|aF<|dM<|k<|cg H92 8 J cu J jg aJ J<|k<|cz H92 9 J cu J J gE J J J J ?_
   intro UJ (H93:HI M w UJ [J0,J1,Wg,Sj,J9,J8,J7,J6,J28,box bj #[U kd,U bB,U aZ,U bK,U aO,sL a21 ((bq I fo (eg I fo (I.length:Int) (bl I fo) ([]:List aA) (bP I fo (I.length:Int) (bw I fo) I.length)) (I.length:Int) (dp (I.length:Int) (bl I fo) (bP I fo (I.length:Int) (bw I fo) I.length)) aO aO).1) BG,U ((bq I fo (eg I fo (I.length:Int) (bl I fo) ([]:List aA) (bP I fo (I.length:Int) (bw I fo) I.length)) (I.length:Int) (dp (I.length:Int) (bl I fo) (bP I fo (I.length:Int) (bw I fo) I.length)) aO aO).2),U (-1)] 25,J3,J2,M3])
   refine aj (v:=U 0) J J<|aG<|rt<|iS H93 9 J cu J J J gE J aJ ?_
   have e6:((bq I fo (eg I fo (I.length:Int) (bl I fo) ([]:List aA) (bP I fo (I.length:Int) (bw I fo) I.length)) (I.length:Int) (dp (I.length:Int) (bl I fo) (bP I fo (I.length:Int) (bw I fo) I.length)) aO aO).2:Int)=((bq I fo (eg I fo (I.length:Int) (bl I fo) ([]:List aA) (bP I fo (I.length:Int) (bw I fo) I.length)) (I.length:Int) (dp (I.length:Int) (bl I fo) (bP I fo (I.length:Int) (bw I fo) I.length)) aO aO).2):=rfl
   have bF:=fu (fun (Aq:Int)=>(.tuple #[.agg #[U kd,U bB,U aZ,U bK,U aO,.slice a21 ((bq I fo (eg I fo (I.length:Int) (bl I fo) ([]:List aA)<|bP I fo (I.length:Int) (bw I fo) I.length) (I.length:Int) (dp (I.length:Int) (bl I fo)<|bP I fo (I.length:Int) (bw I fo) I.length) aO aO).1).length BG,U Aq,U (-1)],U 0]:Value)) e6
   exact⟨((bq I fo (eg I fo (I.length:Int) (bl I fo) ([]:List aA)<|bP I fo (I.length:Int) (bw I fo) I.length) (I.length:Int) (dp (I.length:Int) (bl I fo)<|bP I fo (I.length:Int) (bw I fo) I.length) aO aO).1),((bq I fo (eg I fo (I.length:Int) (bl I fo) ([]:List aA)<|bP I fo (I.length:Int) (bw I fo) I.length) (I.length:Int) (dp (I.length:Int) (bl I fo)<|bP I fo (I.length:Int) (bw I fo) I.length) aO aO).2),(-1),a21,BG,bF,H93.below,(H93.dV 2 J),(by exact sT),(by exact v7),(by refine ti (by first|exact so|exact AF|exact nW) (by first|exact pz|exact zJ) (by first|omega|(simp only[gW];omega)) ai),(by unfold aN;omega)⟩
 have p3:=dF b3
 refine sq<|aH<|k<|eql J J J J<|aj (v:=.bool (decide (kd=6))) J J<|z<|nx<|cd (b:=decide (kd=6)) J J (fun b4=>?_)<|fun b4=>?_
 ·
  have p4:=dT b4
  refine sk<|nx<|nP J J b4<|sq ?_
  have Um:kd=6∨kd=7:=by exact Or.inl (alT ‹decide (kd=6)=true›)
  obtain⟨Dm,Z8⟩:=Pf uO Um
  have uM:aV (cm I) (bS I aO I.length)=dB I aO:=tu ho aO
  have zL:∀x∈aV (cm I) (bS I aO I.length),0≤x∧x<((I.length:Nat):Int):=fun x_ h_=>(mc (fo:=fo) ho (by rw[←uM];exact h_) Dm).1
  refine rg<|k<|cg cM 0 J bh J J aJ J<|bo ir J J<|bR cM 6 J aQ J J J<|k ?_
  have gS:=zu (mn:=(I.length:Int)) (mr:=(bw I fo)) (o:=aO) cM.mb aY (cM.rv 1 J) ie<|by exact Cl
  refine ca Ub J (ec J<|ec J e0) gS ?_
  rintro _ iK ⟨a2,c2,rfl,lh,gh⟩
  have fR:=cM.ic gh
  refine aj (v:=sL a2 (dm (I.length:Int) (bw I fo) aO) c2) J J<|cU<|k<|cg fR 3 J bh J J aJ J<|ak (v:=sL a2 (dm (I.length:Int) (bw I fo) aO) c2) J J<|k ?_
  have eY:=fR.freeze 0 J
  have nB:=vE (mn:=(I.length:Int)) (mr:=(bl I fo)) (l:=(dm (I.length:Int) (bw I fo) aO)) eY.mb aY (eY.rv 4 J) (eY.rv 0 J)<|by exact so
  refine ca Ua J (ec J<|ec J e0) nB ?_
  rintro _ jf ⟨a3,c3,rfl,jD,fQ⟩
  have fg:=eY.ext jD
  let wQ:=iL a3 (gD (I.length:Int) (bl I fo) (dm (I.length:Int) (bw I fo) aO)) c3
  have gz:=fg.put (it:=wQ) J fQ
  refine k<|al gz bh ?_
  let zb:=iL a2 (dm (I.length:Int) (bw I fo) aO) c2
  intro uw ju gv (jP:HI M w ju (box uw #[U 0,.slice none 0 0] 68::wQ::zb::j9))
  refine k<|cz jP 0 J bh J J J J J J J ?_
  intro jK (gI:HI M w jK (box uw #[U (I.length:Int),sL a3 (gD (I.length:Int) (bl I fo) (dm (I.length:Int) (bw I fo) aO)) c3] 68::wQ::zb::j9))
  refine cU<|k<|cg gI 10 J dn J J aJ J<|bo ir J J<|bR gI 9 J aQ J J J<|k ?_
  have oo:=u2 (I:=I) (o:=aO) (aC:=aC) (aE:=aE) (aB:=aB) (ax:=ax) (cH:=fo.length) (aw:=aw) gI.mb (gI.rv 12 J) ie ai
  refine ca OH J (ec J<|ec J e0) oo ?_
  rintro _ lz ⟨a4,c4,rfl,j0,gG⟩
  have kO:=gI.ic gG
  refine aj (v:=sL a4 (aV (cm I)<|bS I aO I.length) c4) J J<|cU<|aj (v:=.slice none 0 0) J J<|aG<|sq<|bk ?_
  have lK:=kO.freeze 0 J
  have lT:=lK.ke aA 92
  have pc:=lT.put (it:=wQ) J<|lT.rv 3 J
  let An:=iL a4 (aV (cm I) (bS I aO I.length)) c4
  refine lp (fun m f w'=>∃(bX:List (List bG)) (cQ:List aA) (a5:OA) (c5:Nat) (a6:OA) (c6:Nat),m=I.length*I.length-pv I bX∧f 2=pV aK 0∧f 3=pV aW 0∧f 4=pV bj 0∧f 6=pV dI 0∧f 12=pV uw 0∧f 13=sL a4 (aV (cm I)<|bS I aO I.length) c4∧f 14=sL a5 cQ c5∧HI M w w' (iL a6 bX c6::oL w 92 a5 cQ c5::An::box uw #[U ((I.length:Nat):Int),sL a6 bX c6] 68::iL a3 (gD (I.length:Int) (bl I fo)<|dm (I.length:Int) (bw I fo) aO) c3::iL a2 (dm (I.length:Int) (bw I fo) aO) c2::box wJ #[U (I.length:Int),sL a1 (bw I fo) c1] 68::J8::box mV #[U (I.length:Int),sL a0 (bl I fo) c0] 68::pJ)∧(wT I fo aO bX cQ)) _ ⟨(gD ((I.length:Nat):Int) (bl I fo)<|dm ((I.length:Nat):Int) (bw I fo) aO),([]:List aA),none,0,a3,c3,J,J,J,J,J,J,J,J,pc,(by exact JI eT aO)⟩ ?_
  rintro _ f0 mB ⟨bX,cQ,a5,c5,a6,c6,rfl,s0,s1,s2,s3,s4,s5,s6,iE,hs⟩
  refine bk<|sq ?_
  have nW:=zN hs ai
  have TT:=Mp mP hs
  have aad:=vz bX I
  refine BB J bu<|xq J<|kq (fun _ x_=>cg (iE.ext x_) 13 J dn J s0 aJ J e1)<|zq<|xq J<|kq (fun _ x_=>cg (iE.ext x_) 3 J bh J s4 aJ J e1)<|zq<|xu (fun v w'=>∃(a7:OA) (c7:Nat),v=.agg #[U ((I.length:Nat):Int),sL a7 (bU ((I.length:Nat):Int) bX) c7]∧RV iE.nA w' (sL a7 (bU ((I.length:Nat):Int) bX) c7) (bU ((I.length:Nat):Int) bX)) J (by rintro _ _ _ x_ ⟨a7,c7,e_,gl⟩;exact⟨a7,c7,e_,gl.lift (Up.ext x_)⟩) J (fun v_ x_=>have y6:=qV (mn:=((I.length:Nat):Int)) (mr:=bX) (w:=v_) (iE.ext x_).mb aY ((iE.ext x_).rv 0 rfl) (by exact nW);ca JU rfl (ec J e0) y6 (fun _ jX ⟨a8,c8,e_,kZ,lk⟩=>⟨_,J,kZ,⟨a8,c8,e_,lk⟩⟩))<|xq J<|kq (fun _ _=>mv J s5 e1)<|zq<|F8 (fun v w'=>∃(lI:OA) (lH:Nat),v=sL lI (cJ I fo ((I.length:Nat):Int) (bU ((I.length:Nat):Int) bX) (aV (cm I)<|bS I aO I.length) I.length) lH∧RV iE.nA w' (sL lI (cJ I fo ((I.length:Nat):Int) (bU ((I.length:Nat):Int) bX) (aV (cm I)<|bS I aO I.length) I.length) lH) (cJ I fo ((I.length:Nat):Int) (bU ((I.length:Nat):Int) bX) (aV (cm I)<|bS I aO I.length) I.length)) 0 J J (by rintro _ _ _ x_ ⟨lI,lH,e_,kK⟩;exact⟨lI,lH,e_,kK.lift (Up.ext x_)⟩) J (fun v_ _ x_ h_=>let ⟨pI,pF,s7,lD⟩:=h_;have pb:=(iE.ext x_).put (it:=iL pI (bU ((I.length:Nat):Int) bX) pF) rfl lD;have RW:=AI (I:=I) (fo:=fo) (mn:=((I.length:Nat):Int)) (mr:=(bU ((I.length:Nat):Int) bX)) (kp:=(aV (cm I)<|bS I aO I.length)) (aC:=aC) (aE:=aE) (aB:=aB) pb.mb (pb.rv 16 J) (pb.rv 15 J) aY (pb.rv 0 J) (pb.rv 3 J) (by exact ho) (by exact cT) (by exact eT) (by exact sH nW) (by rfl) (by exact zL);ca T' rfl (ec J<|ec s7<|ec J e0) RW (fun _ ow ⟨a12,qH,e_,po,mZ⟩=>⟨_,J,po,⟨a12,qH,e_,(gY J<|bm.rv mZ pb.mb)⟩⟩))<|F8 (fun v w'=>∃(sg:OA) (se:Nat),v=sL sg (cJ I fo ((I.length:Nat):Int) (bU ((I.length:Nat):Int) bX) (aV (cm I)<|bS I aO I.length) I.length) se∧RV iE.nA w' (sL sg (cJ I fo ((I.length:Nat):Int) (bU ((I.length:Nat):Int) bX) (aV (cm I)<|bS I aO I.length) I.length) se) (cJ I fo ((I.length:Nat):Int) (bU ((I.length:Nat):Int) bX) (aV (cm I)<|bS I aO I.length) I.length)) 0 J J (by rintro _ _ _ x_ ⟨sg,se,e_,qM⟩;exact⟨sg,se,e_,qM.lift (Up.ext x_)⟩) J (fun _ _ _ h_=>let ⟨y_,y7,s8,rz⟩:=h_;gH rfl s8 ⟨_,J,Ext.refl _,⟨y_,y7,J,rz⟩⟩)<|zx ?_
  intro kv f1 oG cI ji
  have sP:=iE.ext oG
  have s9:=(cI 2 J).trans s0
  have ey:=(cI 3 J).trans s1
  have ew:=(cI 4 J).trans s2
  have eE:=(cI 6 J).trans s3
  have fc:=(cI 12 J).trans s4
  have fJ:=(cI 13 J).trans s5
  have fw:=(cI 14 J).trans s6
  obtain⟨uZ,uY,fX,tj⟩:=ji 0 _ _ rfl
  let CM:=iL uZ (cJ I fo ((I.length:Nat):Int) (bU ((I.length:Nat):Int) bX) (aV (cm I) (bS I aO I.length)) I.length) uY
  have lS:=sP.put (it:=CM) J tj
  refine nx<|sq<|aH<|ak J fX<|k<|ep J J pM<|k<|eql J J J J<|z<|nx<|cd (b:=decide (((cJ I fo ((I.length:Nat):Int) (bU ((I.length:Nat):Int) bX) (aV (cm I)<|bS I aO I.length) I.length).length:Int)=0)) J J (fun b5=>?_)<|fun b5=>?_
  ·
   have p5:=dT b5
   refine ex<|bg<|Dd aJ<|bt<|bz<|dM<|bo jV J ey<|bR lS 13 J aQ J J J<|aj (v:=U bB) J J<|aG<|sq<|aH<|bo um J ey<|bR lS 13 J aQ J J J<|k<|eql J J J J<|aG<|l7 J J (alH<|by have h_:=alT ‹decide (kd=6)=true›;omega)<|sk<|nx ?_
   have Mc:cJ I fo ((I.length:Nat):Int) (bU ((I.length:Nat):Int) bX) (dB I aO) I.length=[]:=by rw[←uM];exact anL.1 ai
   obtain⟨JA,pz,sT,v7⟩:fB I bB∧(cD ((I.length:Nat):Int) bX aZ bB).isSome=true∧Hd I fo kd bB aZ bK aO (bq I fo cQ ((I.length:Nat):Int) bX aZ bB).1 (bq I fo cQ ((I.length:Nat):Int) bX aZ bB).2 (-1)∧(bq I fo cQ ((I.length:Nat):Int) bX aZ bB).1.length≤1000000:=by exact YT eT mP oC ho uO (alT ‹decide (kd=6)=true›) hs Mc
   refine rg<|k<|cg lS 14 J dn J s9 aJ J<|ak J fw<|k<|cg lS 4 J bh J fc aJ J<|bo jo J ey<|bR lS 13 J aQ J J J<|ak (v:=U bB) J J<|k ?_
   let MZ:=box uw #[U ((I.length:Nat):Int),sL a6 bX c6] 68
   have sO:HI M w kv ([J0,J1,oL w 92 a5 cQ c5,iL a6 bX c6]++[CM,An,MZ,wQ,zb,J9,J8,J7,J6,J5,J4,J3,J2]):=lS.c_ [16,15,2,1,0,3,4,5,6,7,8,9,10,11,12,13,14] aJ J
   have Kr:=oB (aC:=aC) (aE:=aE) (aB:=aB) (av:=av) (au:=au) (I:=I) (ax:=ax) (aw:=aw) (fo:=fo) (dO:=a5) (dN:=c5) (l:=cQ) (mn:=((I.length:Nat):Int)) (aU:=a6) (aT:=c6) (mr:=bX) (n1:=aZ) (n2:=bB) (w:=w) (w_:=kv) (r:=[CM,An,MZ,wQ,zb,J9,J8,J7,J6,J5,J4,J3,J2]) (M:=M) aY jM kT (by exact ho) (by exact eT) (by exact cT) (by exact nW) (by rfl) (by exact pz) ai sO
   refine ca Bp J (ec J<|ec J<|ec J<|ec J<|ec J e0) Kr ?_
   rintro _ nU ⟨mW,mU,rfl,sY⟩
   let Wf:=oL w 92 mW ((bq I fo cQ ((I.length:Nat):Int) bX aZ bB).1) mU
   have BT:HI M w nU [J0,J1,Wf,iL a6 bX c6,CM,An,MZ,wQ,zb,J9,J8,J7,J6,J5,J4,J3,J2]:=sY
   refine ak (v:=.tuple #[sL mW ((bq I fo cQ ((I.length:Nat):Int) bX aZ bB).1) mU,U ((bq I fo cQ ((I.length:Nat):Int) bX aZ bB).2)]) J J<|k<|xt J J J<|k<|xt J J J<|bo pa J eE<|k<|cz BT 13 J oI J J J J J J J ?_
   intro ov (sN:HI M w ov [J0,J1,Wf,iL a6 bX c6,CM,An,MZ,wQ,zb,J9,J8,J7,J6,box dI #[U kd,U bB,U aZ,U bK,U aO,sL mW ((bq I fo cQ ((I.length:Nat):Int) bX aZ bB).1) mU,U (-1),U (-1)] 25,J4,J3,J2])
   refine bo nw J eE<|k<|cz sN 13 J aQ J J J J J J J ?_
   let J35:=box dI #[U kd,U bB,U aZ,U bK,U aO,sL mW ((bq I fo cQ ((I.length:Nat):Int) bX aZ bB).1) mU,U ((bq I fo cQ ((I.length:Nat):Int) bX aZ bB).2),U (-1)] 25
   intro pL (sX:HI M w pL [J0,J1,Wf,iL a6 bX c6,CM,An,MZ,wQ,zb,J9,J8,J7,J6,J35,J4,J3,J2])
   refine z<|aF<|dM<|k<|cg sX 13 J cu J eE aJ J<|k<|cz sX 14 J cu J J ew J J J J ?_
   intro nL (wU:HI M w nL [J0,J1,Wf,iL a6 bX c6,CM,An,MZ,wQ,zb,J9,J8,J7,J6,J35,box bj #[U kd,U bB,U aZ,U bK,U aO,sL mW ((bq I fo cQ ((I.length:Nat):Int) bX aZ bB).1) mU,U ((bq I fo cQ ((I.length:Nat):Int) bX aZ bB).2),U (-1)] 25,J3,J2])
   refine aj (v:=U 0) J J<|aG<|rt<|iS wU 14 J cu J J J ew J aJ ?_
   have e6:((bq I fo cQ ((I.length:Nat):Int) bX aZ bB).2:Int)=((bq I fo cQ ((I.length:Nat):Int) bX aZ bB).2):=rfl
   have bF:=fu (fun (Aq:Int)=>(.tuple #[.agg #[U kd,U bB,U aZ,U bK,U aO,.slice mW ((bq I fo cQ ((I.length:Nat):Int) bX aZ bB).1).length mU,U Aq,U (-1)],U 0]:Value)) e6
   exact⟨((bq I fo cQ ((I.length:Nat):Int) bX aZ bB).1),((bq I fo cQ ((I.length:Nat):Int) bX aZ bB).2),(-1),mW,mU,bF,wU.below,(wU.dV 2 J),(by exact sT),(by exact v7),(by refine ti (by first|exact so|exact AF|exact nW) (by first|exact pz|exact zJ) (by first|omega|(simp only[gW];omega)) ai),(by unfold aN;omega)⟩
  have p5:=dF b5
  refine sk<|nx ?_
  obtain⟨hH_,hc_,mI⟩:=Mn eT mP oC ho Dm hs (es:=(cJ I fo ((I.length:Nat):Int) (bU ((I.length:Nat):Int) bX) (aV (cm I) (bS I aO I.length)) I.length)) (by rw[uM])
  have uJ:=Mo mP ho Dm hs (es:=(cJ I fo ((I.length:Nat):Int) (bU ((I.length:Nat):Int) bX) (aV (cm I)<|bS I aO I.length) I.length))<|by rw[uM]
  have ZX:=tX (I:=I) (fo:=fo) (n:=((I.length:Nat):Int)) (rs:=bU ((I.length:Nat):Int) bX) (kp:=aV (cm I) (bS I aO I.length)) I.length
  have ZC:I.length*I.length≤144:=amB mP mP
  have T4:=hc_<|by intro h_;have e_:=alB List.length h_;simp only[gW] at e_;omega
  have ac4:=vz (dp ((I.length:Nat):Int) bX<|cJ I fo ((I.length:Nat):Int) (bU ((I.length:Nat):Int) bX) (aV (cm I)<|bS I aO I.length) I.length) I
  refine rg<|k<|cg lS 14 J dn J s9 aJ J<|ak J fw<|k<|cg lS 4 J bh J fc aJ J<|ak J fX<|k ?_
  let J36:=box uw #[U ((I.length:Nat):Int),sL a6 bX c6] 68
  have sO:HI M w kv ([J0,J1,oL w 92 a5 cQ c5,iL a6 bX c6,CM]++[An,J36,wQ,zb,J9,J8,J7,J6,J5,J4,J3,J2]):=lS.c_ [16,15,2,1,0,3,4,5,6,7,8,9,10,11,12,13,14] aJ J
  have Kr:=vD (aC:=aC) (aE:=aE) (aB:=aB) (av:=av) (au:=au) (I:=I) (ax:=ax) (aw:=aw) (fo:=fo) (dO:=a5) (dN:=c5) (l:=cQ) (mn:=((I.length:Nat):Int)) (aU:=a6) (aT:=c6) (mr:=bX) (xV:=uZ) (xU:=uY) (es:=(cJ I fo ((I.length:Nat):Int) (bU ((I.length:Nat):Int) bX) (aV (cm I)<|bS I aO I.length) I.length)) (w:=w) (w_:=kv) (r:=[An,J36,wQ,zb,J9,J8,J7,J6,J5,J4,J3,J2]) (M:=M) aY (by exact ho) (by exact eT) (by exact cT) (by exact nW) (by rfl) (by exact mI) (by first|exact uJ) ai ai sO
  refine ca Uc J (ec J<|ec J<|ec J<|ec J e0) Kr ?_
  rintro _ nU ⟨mW,mU,a17,wG,rfl,sY⟩
  let We:=iL a17 (dp ((I.length:Nat):Int) bX (cJ I fo ((I.length:Nat):Int) (bU ((I.length:Nat):Int) bX) (aV (cm I) (bS I aO I.length)) I.length)) wG
  let J38:=oL w 92 mW (eg I fo ((I.length:Nat):Int) bX cQ (cJ I fo ((I.length:Nat):Int) (bU ((I.length:Nat):Int) bX) (aV (cm I) (bS I aO I.length)) I.length)) mU
  have BT:HI M w nU [We,J0,J1,J38,iL a6 bX c6,CM,An,J36,wQ,zb,J9,J8,J7,J6,J5,J4,J3,J2]:=sY
  refine ak (v:=.tuple #[sL mW (eg I fo ((I.length:Nat):Int) bX cQ<|cJ I fo ((I.length:Nat):Int) (bU ((I.length:Nat):Int) bX) (aV (cm I)<|bS I aO I.length) I.length) mU,.agg #[U ((I.length:Nat):Int),sL a17 (dp ((I.length:Nat):Int) bX<|cJ I fo ((I.length:Nat):Int) (bU ((I.length:Nat):Int) bX) (aV (cm I)<|bS I aO I.length) I.length) wG]]) J J<|k<|xt J J J<|k<|xt J J J<|aj (v:=sL mW (eg I fo ((I.length:Nat):Int) bX cQ<|cJ I fo ((I.length:Nat):Int) (bU ((I.length:Nat):Int) bX) (aV (cm I)<|bS I aO I.length) I.length) mU) J J<|k<|cz BT 7 J bh J J fc J J J J ?_
  let J39:=box uw #[U ((I.length:Nat):Int),sL a17 (dp ((I.length:Nat):Int) bX (cJ I fo ((I.length:Nat):Int) (bU ((I.length:Nat):Int) bX) (aV (cm I) (bS I aO I.length)) I.length)) wG] 68
  intro ov (sN:HI M w ov [We,J0,J1,J38,iL a6 bX c6,CM,An,J39,wQ,zb,J9,J8,J7,J6,J5,J4,J3,J2])
  refine z<|aF ?_
  have sX:=sN.put (it:=We) J<|sN.rv 0 J
  have wU:HI M w ov (We::J38::An::J39::wQ::zb::j9):=sX.c_ [0,4,7,8,9,10,11,12,13,14,15,16,17,18,3,2] aJ J
  refine bD _ ?_ ⟨(dp ((I.length:Nat):Int) bX<|cJ I fo ((I.length:Nat):Int) (bU ((I.length:Nat):Int) bX) (aV (cm I)<|bS I aO I.length) I.length),(eg I fo ((I.length:Nat):Int) bX cQ<|cJ I fo ((I.length:Nat):Int) (bU ((I.length:Nat):Int) bX) (aV (cm I)<|bS I aO I.length) I.length),mW,mU,a17,wG,J,s9,ey,ew,eE,fc,fJ,J,wU,(by exact hH_)⟩
  omega
 have p4:=dF b4
 refine rg<|k<|eql J J J J<|aj (v:=.bool (decide (kd=7))) J J<|z<|nx<|cd (b:=decide (kd=7)) J J (fun b5=>?_)<|fun b5=>?_
 ·
  have p5:=dT b5
  refine sq ?_
  have Um:kd=6∨kd=7:=by exact Or.inr (alT ‹decide (kd=7)=true›)
  obtain⟨Dm,Z8⟩:=Pf uO Um
  have uM:aV (cm I) (bS I aO I.length)=dB I aO:=tu ho aO
  have zL:∀x∈aV (cm I) (bS I aO I.length),0≤x∧x<((I.length:Nat):Int):=fun x_ h_=>(mc (fo:=fo) ho (by rw[←uM];exact h_) Dm).1
  refine rg<|k<|cg cM 0 J bh J J aJ J<|bo ir J J<|bR cM 6 J aQ J J J<|k ?_
  have gS:=zu (mn:=(I.length:Int)) (mr:=(bw I fo)) (o:=aO) cM.mb aY (cM.rv 1 J) ie<|by exact Cl
  refine ca Ub J (ec J<|ec J e0) gS ?_
  rintro _ iK ⟨a2,c2,rfl,lh,gh⟩
  have fR:=cM.ic gh
  refine aj (v:=sL a2 (dm (I.length:Int) (bw I fo) aO) c2) J J<|cU<|k<|cg fR 3 J bh J J aJ J<|ak (v:=sL a2 (dm (I.length:Int) (bw I fo) aO) c2) J J<|k ?_
  have eY:=fR.freeze 0 J
  have nB:=vE (mn:=(I.length:Int)) (mr:=(bl I fo)) (l:=(dm (I.length:Int) (bw I fo) aO)) eY.mb aY (eY.rv 4 J) (eY.rv 0 J)<|by exact so
  refine ca Ua J (ec J<|ec J e0) nB ?_
  rintro _ jf ⟨a3,c3,rfl,jD,fQ⟩
  have fg:=eY.ext jD
  let wP:=iL a3 (gD (I.length:Int) (bl I fo) (dm (I.length:Int) (bw I fo) aO)) c3
  have gz:=fg.put (it:=wP) J fQ
  refine k<|al gz bh ?_
  let za:=iL a2 (dm (I.length:Int) (bw I fo) aO) c2
  intro uw ju gv (jP:HI M w ju (box uw #[U 0,.slice none 0 0] 68::wP::za::j9))
  refine k<|cz jP 0 J bh J J J J J J J ?_
  intro jK (gI:HI M w jK (box uw #[U (I.length:Int),sL a3 (gD (I.length:Int) (bl I fo) (dm (I.length:Int) (bw I fo) aO)) c3] 68::wP::za::j9))
  refine cU<|k<|cg gI 10 J dn J J aJ J<|bo ir J J<|bR gI 9 J aQ J J J<|k ?_
  have oo:=u2 (I:=I) (o:=aO) (aC:=aC) (aE:=aE) (aB:=aB) (ax:=ax) (cH:=fo.length) (aw:=aw) gI.mb (gI.rv 12 J) ie ai
  refine ca OH J (ec J<|ec J e0) oo ?_
  rintro _ lz ⟨a4,c4,rfl,j0,gG⟩
  have kO:=gI.ic gG
  refine aj (v:=sL a4 (aV (cm I)<|bS I aO I.length) c4) J J<|cU<|aj (v:=.slice none 0 0) J J<|aG<|sq<|bk ?_
  have lK:=kO.freeze 0 J
  have lT:=lK.ke aA 92
  have pc:=lT.put (it:=wP) J<|lT.rv 3 J
  let Am:=iL a4 (aV (cm I) (bS I aO I.length)) c4
  refine lp (fun m f w'=>∃(bX:List (List bG)) (cQ:List aA) (a5:OA) (c5:Nat) (a6:OA) (c6:Nat),m=I.length*I.length-pv I bX∧f 2=pV aK 0∧f 3=pV aW 0∧f 4=pV bj 0∧f 6=pV dI 0∧f 12=pV uw 0∧f 13=sL a4 (aV (cm I)<|bS I aO I.length) c4∧f 14=sL a5 cQ c5∧HI M w w' (iL a6 bX c6::oL w 92 a5 cQ c5::Am::box uw #[U ((I.length:Nat):Int),sL a6 bX c6] 68::iL a3 (gD (I.length:Int) (bl I fo)<|dm (I.length:Int) (bw I fo) aO) c3::iL a2 (dm (I.length:Int) (bw I fo) aO) c2::box wJ #[U (I.length:Int),sL a1 (bw I fo) c1] 68::J8::box mV #[U (I.length:Int),sL a0 (bl I fo) c0] 68::pJ)∧(wT I fo aO bX cQ)) _ ⟨(gD ((I.length:Nat):Int) (bl I fo)<|dm ((I.length:Nat):Int) (bw I fo) aO),([]:List aA),none,0,a3,c3,J,J,J,J,J,J,J,J,pc,(by exact JI eT aO)⟩ ?_
  rintro _ f0 mB ⟨bX,cQ,a5,c5,a6,c6,rfl,s0,s1,s2,s3,s4,s5,s6,iE,hs⟩
  refine bk<|sq ?_
  have nW:=zN hs ai
  have TT:=Mp mP hs
  have aad:=vz bX I
  refine BB J bu<|xq J<|kq (fun _ x_=>cg (iE.ext x_) 13 J dn J s0 aJ J e1)<|zq<|xq J<|kq (fun _ x_=>cg (iE.ext x_) 3 J bh J s4 aJ J e1)<|zq<|xu (fun v w'=>∃(a7:OA) (c7:Nat),v=.agg #[U ((I.length:Nat):Int),sL a7 (bU ((I.length:Nat):Int) bX) c7]∧RV iE.nA w' (sL a7 (bU ((I.length:Nat):Int) bX) c7) (bU ((I.length:Nat):Int) bX)) J (by rintro _ _ _ x_ ⟨a7,c7,e_,gl⟩;exact⟨a7,c7,e_,gl.lift (Up.ext x_)⟩) J (fun v_ x_=>have y6:=qV (mn:=((I.length:Nat):Int)) (mr:=bX) (w:=v_) (iE.ext x_).mb aY ((iE.ext x_).rv 0 rfl) (by exact nW);ca JU rfl (ec J e0) y6 (fun _ jX ⟨a8,c8,e_,kZ,lk⟩=>⟨_,J,kZ,⟨a8,c8,e_,lk⟩⟩))<|xq J<|kq (fun _ _=>mv J s5 e1)<|zq<|F8 (fun v w'=>∃(lI:OA) (lH:Nat),v=sL lI (cJ I fo ((I.length:Nat):Int) (bU ((I.length:Nat):Int) bX) (aV (cm I)<|bS I aO I.length) I.length) lH∧RV iE.nA w' (sL lI (cJ I fo ((I.length:Nat):Int) (bU ((I.length:Nat):Int) bX) (aV (cm I)<|bS I aO I.length) I.length) lH) (cJ I fo ((I.length:Nat):Int) (bU ((I.length:Nat):Int) bX) (aV (cm I)<|bS I aO I.length) I.length)) 0 J J (by rintro _ _ _ x_ ⟨lI,lH,e_,kK⟩;exact⟨lI,lH,e_,kK.lift (Up.ext x_)⟩) J (fun v_ _ x_ h_=>let ⟨pI,pF,s7,lD⟩:=h_;have pb:=(iE.ext x_).put (it:=iL pI (bU ((I.length:Nat):Int) bX) pF) rfl lD;have RW:=AI (I:=I) (fo:=fo) (mn:=((I.length:Nat):Int)) (mr:=(bU ((I.length:Nat):Int) bX)) (kp:=(aV (cm I)<|bS I aO I.length)) (aC:=aC) (aE:=aE) (aB:=aB) pb.mb (pb.rv 16 J) (pb.rv 15 J) aY (pb.rv 0 J) (pb.rv 3 J) (by exact ho) (by exact cT) (by exact eT) (by exact sH nW) (by rfl) (by exact zL);ca T' rfl (ec J<|ec s7<|ec J e0) RW (fun _ ow ⟨a12,qH,e_,po,mZ⟩=>⟨_,J,po,⟨a12,qH,e_,(gY J<|bm.rv mZ pb.mb)⟩⟩))<|F8 (fun v w'=>∃(sg:OA) (se:Nat),v=sL sg (cJ I fo ((I.length:Nat):Int) (bU ((I.length:Nat):Int) bX) (aV (cm I)<|bS I aO I.length) I.length) se∧RV iE.nA w' (sL sg (cJ I fo ((I.length:Nat):Int) (bU ((I.length:Nat):Int) bX) (aV (cm I)<|bS I aO I.length) I.length) se) (cJ I fo ((I.length:Nat):Int) (bU ((I.length:Nat):Int) bX) (aV (cm I)<|bS I aO I.length) I.length)) 0 J J (by rintro _ _ _ x_ ⟨sg,se,e_,qM⟩;exact⟨sg,se,e_,qM.lift (Up.ext x_)⟩) J (fun _ _ _ h_=>let ⟨y_,y7,s8,rz⟩:=h_;gH rfl s8 ⟨_,J,Ext.refl _,⟨y_,y7,J,rz⟩⟩)<|zx ?_
  intro kv f1 oG cI ji
  have sP:=iE.ext oG
  have s9:=(cI 2 J).trans s0
  have ey:=(cI 3 J).trans s1
  have ew:=(cI 4 J).trans s2
  have eE:=(cI 6 J).trans s3
  have fc:=(cI 12 J).trans s4
  have fJ:=(cI 13 J).trans s5
  have fw:=(cI 14 J).trans s6
  obtain⟨uZ,uY,fX,tj⟩:=ji 0 _ _ rfl
  let CL:=iL uZ (cJ I fo ((I.length:Nat):Int) (bU ((I.length:Nat):Int) bX) (aV (cm I) (bS I aO I.length)) I.length) uY
  have lS:=sP.put (it:=CL) J tj
  refine nx<|sq<|aH<|ak J fX<|k<|ep J J pM<|k<|eql J J J J<|z<|nx<|cd (b:=decide (((cJ I fo ((I.length:Nat):Int) (bU ((I.length:Nat):Int) bX) (aV (cm I)<|bS I aO I.length) I.length).length:Int)=0)) J J (fun b6=>?_)<|fun b6=>?_
  ·
   have p6:=dT b6
   refine ex<|bg<|Dd aJ<|bt<|bz<|dM<|bo jV J ey<|bR lS 13 J aQ J J J<|aj (v:=U bB) J J<|aG<|sq<|aH<|bo um J ey<|bR lS 13 J aQ J J J<|k<|eql J J J J<|aG<|nP J J b5<|rg<|bo jo J ey<|bR lS 13 J aQ J J J<|aj (v:=U aZ) J J<|z<|nx ?_
   have Mc:cJ I fo ((I.length:Nat):Int) (bU ((I.length:Nat):Int) bX) (dB I aO) I.length=[]:=by rw[←uM];exact anL.1 ai
   obtain⟨JA,pz,sT,v7⟩:fB I aZ∧(cD ((I.length:Nat):Int) bX aZ aZ).isSome=true∧Hd I fo kd bB aZ bK aO (bq I fo cQ ((I.length:Nat):Int) bX aZ aZ).1 (bq I fo cQ ((I.length:Nat):Int) bX aZ aZ).2 (-1)∧(bq I fo cQ ((I.length:Nat):Int) bX aZ aZ).1.length≤1000000:=by exact⟨Z8,Ts eT mP oC ho uO (alT ‹decide (kd=7)=true›) hs Mc⟩
   refine rg<|k<|cg lS 14 J dn J s9 aJ J<|ak J fw<|k<|cg lS 4 J bh J fc aJ J<|bo jo J ey<|bR lS 13 J aQ J J J<|ak (v:=U aZ) J J<|k ?_
   let MY:=box uw #[U ((I.length:Nat):Int),sL a6 bX c6] 68
   have sO:HI M w kv ([J0,J1,oL w 92 a5 cQ c5,iL a6 bX c6]++[CL,Am,MY,wP,za,J9,J8,J7,J6,J5,J4,J3,J2]):=lS.c_ [16,15,2,1,0,3,4,5,6,7,8,9,10,11,12,13,14] aJ J
   have Kr:=oB (aC:=aC) (aE:=aE) (aB:=aB) (av:=av) (au:=au) (I:=I) (ax:=ax) (aw:=aw) (fo:=fo) (dO:=a5) (dN:=c5) (l:=cQ) (mn:=((I.length:Nat):Int)) (aU:=a6) (aT:=c6) (mr:=bX) (n1:=aZ) (n2:=aZ) (w:=w) (w_:=kv) (r:=[CL,Am,MY,wP,za,J9,J8,J7,J6,J5,J4,J3,J2]) (M:=M) aY jM jM (by exact ho) (by exact eT) (by exact cT) (by exact nW) (by rfl) (by exact pz) ai sO
   refine ca Bp J (ec J<|ec J<|ec J<|ec J<|ec J e0) Kr ?_
   rintro _ nU ⟨mW,mU,rfl,sY⟩
   let Wd:=oL w 92 mW ((bq I fo cQ ((I.length:Nat):Int) bX aZ aZ).1) mU
   have BT:HI M w nU [J0,J1,Wd,iL a6 bX c6,CL,Am,MY,wP,za,J9,J8,J7,J6,J5,J4,J3,J2]:=sY
   refine ak (v:=.tuple #[sL mW ((bq I fo cQ ((I.length:Nat):Int) bX aZ aZ).1) mU,U ((bq I fo cQ ((I.length:Nat):Int) bX aZ aZ).2)]) J J<|k<|xt J J J<|k<|xt J J J<|bo pa J eE<|k<|cz BT 13 J oI J J J J J J J ?_
   intro ov (sN:HI M w ov [J0,J1,Wd,iL a6 bX c6,CL,Am,MY,wP,za,J9,J8,J7,J6,box dI #[U kd,U bB,U aZ,U bK,U aO,sL mW ((bq I fo cQ ((I.length:Nat):Int) bX aZ aZ).1) mU,U (-1),U (-1)] 25,J4,J3,J2])
   refine bo nw J eE<|k<|cz sN 13 J aQ J J J J J J J ?_
   let J46:=box dI #[U kd,U bB,U aZ,U bK,U aO,sL mW ((bq I fo cQ ((I.length:Nat):Int) bX aZ aZ).1) mU,U ((bq I fo cQ ((I.length:Nat):Int) bX aZ aZ).2),U (-1)] 25
   intro pL (sX:HI M w pL [J0,J1,Wd,iL a6 bX c6,CL,Am,MY,wP,za,J9,J8,J7,J6,J46,J4,J3,J2])
   refine z<|aF<|dM<|k<|cg sX 13 J cu J eE aJ J<|k<|cz sX 14 J cu J J ew J J J J ?_
   intro nL (wU:HI M w nL [J0,J1,Wd,iL a6 bX c6,CL,Am,MY,wP,za,J9,J8,J7,J6,J46,box bj #[U kd,U bB,U aZ,U bK,U aO,sL mW ((bq I fo cQ ((I.length:Nat):Int) bX aZ aZ).1) mU,U ((bq I fo cQ ((I.length:Nat):Int) bX aZ aZ).2),U (-1)] 25,J3,J2])
   refine aj (v:=U 0) J J<|aG<|rt<|iS wU 14 J cu J J J ew J aJ ?_
   have e6:((bq I fo cQ ((I.length:Nat):Int) bX aZ aZ).2:Int)=((bq I fo cQ ((I.length:Nat):Int) bX aZ aZ).2):=rfl
   have bF:=fu (fun (Aq:Int)=>(.tuple #[.agg #[U kd,U bB,U aZ,U bK,U aO,.slice mW ((bq I fo cQ ((I.length:Nat):Int) bX aZ aZ).1).length mU,U Aq,U (-1)],U 0]:Value)) e6
   exact⟨((bq I fo cQ ((I.length:Nat):Int) bX aZ aZ).1),((bq I fo cQ ((I.length:Nat):Int) bX aZ aZ).2),(-1),mW,mU,bF,wU.below,(wU.dV 2 J),(by exact sT),(by exact v7),(by refine ti (by first|exact so|exact AF|exact nW) (by first|exact pz|exact zJ) (by first|omega|(simp only[gW];omega)) ai),(by unfold aN;omega)⟩
  have p6:=dF b6
  refine sk<|nx ?_
  obtain⟨hH_,hc_,mI⟩:=Mn eT mP oC ho Dm hs (es:=(cJ I fo ((I.length:Nat):Int) (bU ((I.length:Nat):Int) bX) (aV (cm I) (bS I aO I.length)) I.length)) (by rw[uM])
  have uJ:=Mo mP ho Dm hs (es:=(cJ I fo ((I.length:Nat):Int) (bU ((I.length:Nat):Int) bX) (aV (cm I)<|bS I aO I.length) I.length))<|by rw[uM]
  have ZX:=tX (I:=I) (fo:=fo) (n:=((I.length:Nat):Int)) (rs:=bU ((I.length:Nat):Int) bX) (kp:=aV (cm I) (bS I aO I.length)) I.length
  have ZC:I.length*I.length≤144:=amB mP mP
  have T4:=hc_<|by intro h_;have e_:=alB List.length h_;simp only[gW] at e_;omega
  have ac4:=vz (dp ((I.length:Nat):Int) bX<|cJ I fo ((I.length:Nat):Int) (bU ((I.length:Nat):Int) bX) (aV (cm I)<|bS I aO I.length) I.length) I
  refine rg<|k<|cg lS 14 J dn J s9 aJ J<|ak J fw<|k<|cg lS 4 J bh J fc aJ J<|ak J fX<|k ?_
  let J47:=box uw #[U ((I.length:Nat):Int),sL a6 bX c6] 68
  have sO:HI M w kv ([J0,J1,oL w 92 a5 cQ c5,iL a6 bX c6,CL]++[Am,J47,wP,za,J9,J8,J7,J6,J5,J4,J3,J2]):=lS.c_ [16,15,2,1,0,3,4,5,6,7,8,9,10,11,12,13,14] aJ J
  have Kr:=vD (aC:=aC) (aE:=aE) (aB:=aB) (av:=av) (au:=au) (I:=I) (ax:=ax) (aw:=aw) (fo:=fo) (dO:=a5) (dN:=c5) (l:=cQ) (mn:=((I.length:Nat):Int)) (aU:=a6) (aT:=c6) (mr:=bX) (xV:=uZ) (xU:=uY) (es:=(cJ I fo ((I.length:Nat):Int) (bU ((I.length:Nat):Int) bX) (aV (cm I)<|bS I aO I.length) I.length)) (w:=w) (w_:=kv) (r:=[Am,J47,wP,za,J9,J8,J7,J6,J5,J4,J3,J2]) (M:=M) aY (by exact ho) (by exact eT) (by exact cT) (by exact nW) (by rfl) (by exact mI) (by first|exact uJ) ai ai sO
  refine ca Uc J (ec J<|ec J<|ec J<|ec J e0) Kr ?_
  rintro _ nU ⟨mW,mU,a17,wG,rfl,sY⟩
  let Wc:=iL a17 (dp ((I.length:Nat):Int) bX (cJ I fo ((I.length:Nat):Int) (bU ((I.length:Nat):Int) bX) (aV (cm I) (bS I aO I.length)) I.length)) wG
  let J49:=oL w 92 mW (eg I fo ((I.length:Nat):Int) bX cQ (cJ I fo ((I.length:Nat):Int) (bU ((I.length:Nat):Int) bX) (aV (cm I) (bS I aO I.length)) I.length)) mU
  have BT:HI M w nU [Wc,J0,J1,J49,iL a6 bX c6,CL,Am,J47,wP,za,J9,J8,J7,J6,J5,J4,J3,J2]:=sY
  refine ak (v:=.tuple #[sL mW (eg I fo ((I.length:Nat):Int) bX cQ<|cJ I fo ((I.length:Nat):Int) (bU ((I.length:Nat):Int) bX) (aV (cm I)<|bS I aO I.length) I.length) mU,.agg #[U ((I.length:Nat):Int),sL a17 (dp ((I.length:Nat):Int) bX<|cJ I fo ((I.length:Nat):Int) (bU ((I.length:Nat):Int) bX) (aV (cm I)<|bS I aO I.length) I.length) wG]]) J J<|k<|xt J J J<|k<|xt J J J<|aj (v:=sL mW (eg I fo ((I.length:Nat):Int) bX cQ<|cJ I fo ((I.length:Nat):Int) (bU ((I.length:Nat):Int) bX) (aV (cm I)<|bS I aO I.length) I.length) mU) J J<|k<|cz BT 7 J bh J J fc J J J J ?_
  let J50:=box uw #[U ((I.length:Nat):Int),sL a17 (dp ((I.length:Nat):Int) bX (cJ I fo ((I.length:Nat):Int) (bU ((I.length:Nat):Int) bX) (aV (cm I) (bS I aO I.length)) I.length)) wG] 68
  intro ov (sN:HI M w ov [Wc,J0,J1,J49,iL a6 bX c6,CL,Am,J50,wP,za,J9,J8,J7,J6,J5,J4,J3,J2])
  refine z<|aF ?_
  have sX:=sN.put (it:=Wc) J<|sN.rv 0 J
  have wU:HI M w ov (Wc::J49::Am::J50::wP::za::j9):=sX.c_ [0,4,7,8,9,10,11,12,13,14,15,16,17,18,3,2] aJ J
  refine bD _ ?_ ⟨(dp ((I.length:Nat):Int) bX<|cJ I fo ((I.length:Nat):Int) (bU ((I.length:Nat):Int) bX) (aV (cm I)<|bS I aO I.length) I.length),(eg I fo ((I.length:Nat):Int) bX cQ<|cJ I fo ((I.length:Nat):Int) (bU ((I.length:Nat):Int) bX) (aV (cm I)<|bS I aO I.length) I.length),mW,mU,a17,wG,J,s9,ey,ew,eE,fc,fJ,J,wU,(by exact hH_)⟩
  omega
 refine sk<|aF<|dM<|k<|cg cM 4 J cu J J aJ J<|k<|cz cM 5 J cu J J J J J J J ?_
 intro iK (fR:HI M w iK [J9,J8,J7,J6,J5,box bj #[U kd,U bB,U aZ,U bK,U aO,.slice none 0 0,U (-1),U (-1)] 25,J3,J2,J1,J0])
 refine aj (v:=U 0) J J<|aG<|rt<|iS fR 5 J cu J J J J J aJ ?_
 exact⟨([]:List aA),(-1),(-1),none,0,J,fR.below,(lC _ _),(by exact Yf uO (al3 ‹decide (kd=2)=false›) (al3 ‹decide (kd=3)=false›) (al3 ‹decide (kd=4)=false›) (al3 ‹decide (kd=5)=false›) (al3 ‹decide (kd=6)=false›) (al3 ‹decide (kd=7)=false›)),(by exact anu _),(by unfold aN;omega),(by unfold aN;omega)⟩
theorem agf:dq aX 28:=dy Tryz.func28
theorem age:dq aX 29:=dy Tryz.func29
theorem Ny (hM:ei M w) (cX:cP M w av au I) (fM:cP M w ax aw fo) (xR:aN lv) (ho:et I) (cT:I.length≤64) (eT:fo.length=I.length) (ln:∀x∈fo,x<((I.length:Nat):Int)) (Z2:lv=1∨lv=2∨lv=3) (mP:I.length≤12) (oC:nD I fo):Calls aX 12 #[.agg #[.slice aC aE aB,sL av I au,sL ax fo aw],U lv] w (cZ fun v w'=>∃(k_:Int) (r_:Int) (a_:Int) (b_:Int) (o_:Int) (D':List aA) (f_:Int) (s_:Int) (a0:OA) (c0:Nat),v=.tuple #[.agg #[U k_,U r_,U a_,U b_,U o_,sL a0 D' c0,U f_,U s_],U (iX I fo lv)]∧Ext w w'∧cP M w' a0 c0 D'∧Hg k_ r_ a_ b_ o_∧D'.length≤1000000∧aN f_∧aN s_∧(iX I fo lv=0→fk (ez lv) k_=true∧Hd I fo k_ r_ a_ b_ o_ D' f_ s_)):=by
 refine dK 23 Tryz.func12 J J J hM fun f0 ha H=>?_
 let J0:=iL av I au
 have H0:=H.put (it:=J0) J<|by rw[dY];exact cX
 let J1:=iL ax fo aw
 have H1:=H0.put (it:=J1) J<|by rw[bp rfl,dY];exact fM
 have i0:f0 0=.agg #[.slice aC aE aB,sL av I au,sL ax fo aw]:=ha 0 bH
 have i1:f0 1=U lv:=ha 1 bH
 refine aH<|k<|bx H1 J i0 ?_
 intro aK w0 dt (H2:HI M w w0 [box aK #[.slice aC aE aB,sL av I au,sL ax fo aw] 32,J1,J0])
 let J2:=box aK #[.slice aC aE aB,sL av I au,sL ax fo aw] 32
 refine k<|al H2 cu ?_
 intro aW w1 cR (H3:HI M w w1 [box aW #[U 0,U 0,U 0,U 0,U 0,.slice none 0 0,U 0,U 0] 25,J2,J1,J0])
 let J3:=box aW #[U 0,U 0,U 0,U 0,U 0,.slice none 0 0,U 0,U 0] 25
 refine aj (v:=U 0) J J<|cU<|k<|cg H3 1 J dn J J aJ J<|ak J i1<|k ?_
 have cx:=NC (I:=I) (fo:=fo) (lv:=lv) (aC:=aC) (aE:=aE) (aB:=aB) H3.mb (H3.rv 3 J) (H3.rv 2 J) xR (by exact ho) (by exact cT) (by exact eT) (by exact ln) (by exact Z2)<|by exact oC
 refine ca agf J (ec J<|ec J e0) cx ?_
 rintro _ w2 ⟨o0,o1,o2,o3,o4,o5,o6,rfl,d_,q0⟩
 have H4:=H3.ext d_
 refine ak (v:=.tuple #[.agg #[U o0,U o1,U o2,U o3,U o4,.slice none 0 0,U o5,U o6],U (iX I fo lv)]) J J<|k<|xt J J J<|k<|xt J J J<|k<|al H4 cu ?_
 intro bj w3 eG (H5:HI M w w3 [box bj #[U 0,U 0,U 0,U 0,U 0,.slice none 0 0,U 0,U 0] 25,J3,J2,J1,J0])
 refine k<|cz H5 0 J cu J J J J J J J ?_
 let J4:=box bj #[U o0,U o1,U o2,U o3,U o4,.slice none 0 0,U o5,U o6] 25
 intro w4 (H6:HI M w w4 [J4,J3,J2,J1,J0])
 refine aj (v:=U (iX I fo lv)) J J<|aG<|sq<|aH<|ak (v:=U (iX I fo lv)) J J<|k<|neq J J J J<|z<|nx<|cd (b:=!decide ((iX I fo lv)=0)) J J (fun b0=>?_)<|fun b0=>?_
 ·
  have p0:=dF<|fE b0
  refine aH<|k<|bd (v:=.agg #[U 0,U 0,U 0,U 0,U 0,.slice none 0 0,U 0,U 0]) J eo (fun _=>bu)<|ak (v:=U (iX I fo lv)) J J<|k<|cz H6 1 J cu J J J J J J J ?_
  intro w5 (H7:HI M w w5 [J4,J3,J2,J1,J0])
  refine aj (v:=U (iX I fo lv)) J J<|aG<|rt<|aS<|iS H7 1 J cu J J J J J aJ ?_
  exact⟨0,0,0,0,0,([]:List aA),0,0,none,0,J,H7.below,(lC _ _),(by exact wi0),(by exact anu _),(by exact De),(by exact De),(by exact fun h_=>XY cG h_)⟩
 have p0:=dT<|fF b0
 refine sk<|nx<|sq ?_
 have aai:iX I fo lv=0:=by assumption
 obtain⟨yI,ra,uO⟩:=XK eT ln ho cG (RP aai)
 obtain⟨i1_,i2_,i3_,i4_,i5_⟩:=id yI
 refine rg<|k<|cg H6 2 J dn J J aJ J<|k<|cg H6 0 J cu J J aJ J<|k ?_
 have eF:=S9 (I:=I) (fo:=fo) (kd:=o0) (bB:=o1) (aZ:=o2) (bK:=o3) (aO:=o4) (aC:=aC) (aE:=aE) (aB:=aB) (eM:=none) (jd:=0) (eL:=0) (dH:=(U o5)) (cV:=(U o6)) H6.mb (H6.rv 4 J) (H6.rv 3 J) cG cG cG cG cG (by exact ho) (by exact cT) (by exact eT) (by exact ln) (by exact mP) (by exact oC)<|by exact uO
 refine ca age J (ec J<|ec J e0) eF ?_
 rintro _ w5 ⟨o7,o8,o9,a0,c0,rfl,eI,cL,q1,q2,q3,q4⟩
 have H7:=H6.ext eI
 have H8:=cj H7 cL
 refine k<|xt J J J<|k<|xt J J J<|k<|cz H8 2 J cu J J J J J J J ?_
 intro w6 (H9:HI M w w6 [iL a0 o7 c0,J4,box aW #[U o0,U o1,U o2,U o3,U o4,sL a0 o7 c0,U o8,U o9] 25,J2,J1,J0])
 refine aj (v:=U 0) J J<|aG<|rt<|iS H9 2 J cu J J J J J aJ ?_
 have e8:(0:Int)=iX I fo lv:=by exact aai.symm
 have bF:=fu (fun (ku:Int)=>(.tuple #[.agg #[U o0,U o1,U o2,U o3,U o4,.slice a0 o7.length c0,U o8,U o9],U ku]:Value)) e8
 exact⟨o0,o1,o2,o3,o4,o7,o8,o9,a0,c0,bF,H9.below,(H9.jn 0 J),(by exact yI),cG,cG,cG,(by exact fun _=>⟨ra,by assumption⟩)⟩
theorem SC:fA aX 54 1 false 8 (.pointer none):=⟨bu,bu⟩
theorem mL:jt aX 57 0 0:=mu Tryz.underlying57
theorem af0:dq aX 84:=dy Tryz.func84
theorem aa2:dq aX 21:=dy Tryz.func21
theorem wz:jt aX 57 1 3:=mu Tryz.underlying57
theorem X5 (hM:ei M w) (nt:aN i) (cX:cP M w av au I) (T7:w.heap[uN]? =some (.cells #[.pointer (some ⟨bZ,0,none⟩)] BY (0,0))∧¬M uN) (ob:w.heap[bZ]? =some (.cells #[.slice aC aE aB,sL av I au,.slice ax cH aw,.slice cF kS cE,.slice dA kQ dz] gO (0,0))∧¬M bZ):Calls aX 84 #[U i,.pointer (some ⟨uN,0,none⟩)] w (cZ fun v w'=>v=.bool (dV I i)∧Ext w w'):=by
 refine dK 16 Tryz.func84 J J J hM fun f0 ha H=>?_
 have H0:=cj H cX
 have iT:=bN cX
 have i0:f0 0=U i:=ha 0 bH
 have H1:=H0.put (it:=ro bZ #[.slice aC aE aB,sL av I au,.slice ax cH aw,.slice cF kS cE,.slice dA kQ dz] gO) J<|by rw[bp rfl,dY];exact ob
 have H2:=H1.put (it:=ro uN #[pV bZ 0] BY) J<|by rw[bp rfl,bp rfl,dY];exact T7
 have i1:f0 1=pV uN 0:=ha 1 bH
 refine aH<|aj (v:=.bool false) J J<|cU<|ak J i0<|k<|lss J J J J<|ak (v:=.bool (decide (i<0))) J J ?_
 rcases bE (decide (i<0)) with b0|b0
 ·
  have p0:=dT b0
  refine aD J J J b0<|aD J J J b0<|aD J J J b0<|aD J J J b0<|aD J J J b0<|aD J J J b0<|aD J J J b0<|aD J J J b0<|k<|ba J J J J b0 J<|aj (v:=.bool true) J J<|aG<|rt<|r1 J J ?_
  exact⟨alB Value.bool (by (rw[Xc cG];done)),H2.below⟩
 have p0:=dF b0
 refine aM J J J b0<|mv J i0<|aM J J J b0<|lr H2 0 J SC J i1 J<|aM J J J b0<|nc J J<|aM J J J b0<|fa mL J J<|aM J J J b0<|fa dh J J<|aM J J J b0<|lr H2 1 J eR J J J<|aM J J J b0<|ep J J fj<|aM J J J b0<|geq J J J J<|k<|bc J J J J b0 J<|aj (v:=.bool (decide ((I.length:Int)≤i))) J J<|aG<|rt<|r1 J J ?_
 exact⟨alB Value.bool (by exact Xd cG),H2.below⟩
theorem sJ {l:az} (hM:ei M w) (cX:cP M w av au I) (rj:cP M w dO dN l) (ob:w.heap[bZ]? =some (.cells #[.slice aC aE aB,sL av I au,.slice ax cH aw,.slice cF kS cE,.slice dA kQ dz] gO (0,0))∧¬M bZ):Calls aX 46 #[.pointer (some ⟨bZ,0,none⟩),sL dO l dN] w (cZ fun v w'=>v=.bool (!(l.any (dV I)))∧Ext w w'):=by
 refine dK 9 Tryz.func46 J J J hM fun f0 ha H=>?_
 have H0:=cj H cX
 have H1:=cj H0 rj
 have H2:=H1.put (it:=ro bZ #[.slice aC aE aB,sL av I au,.slice ax cH aw,.slice cF kS cE,.slice dA kQ dz] gO) J<|by rw[bp rfl,bp rfl,dY];exact ob
 have i0:f0 0=pV bZ 0:=ha 0 bH
 have i1:f0 1=sL dO l dN:=ha 1 bH
 refine aH<|k<|bx H2 J i0 ?_
 intro aK w0 dt (H3:HI M w w0 [box aK #[pV bZ 0] 54,ro bZ #[.slice aC aE aB,sL av I au,.slice ax cH aw,.slice cF kS cE,.slice dA kQ dz] gO,iL dO l dN,iL av I au])
 refine aj (v:=.bool false) J J<|cU<|ak J i1<|k<|mf J<|k ?_
 have cx:=wC (r:=l) (p:=(fun (x_:Int)=>dV I x_)) H3.mb (H3.rv 2 J) ⟨af0,fun w_ v_ x_ ki e_ oC=>by have H_:=H3.ext e_;obtain⟨_,⟨rfl,cL⟩,rfl⟩:=oC;exact X5 (I:=I) (M:=fun _=>False) (fun _ h_=>h_.elim) cL ((H_.rv 3 J).lift (Up.less fun _ _ h_=>h_.elim)) ⟨H_.at_ 0 rfl,fun h_=>h_⟩ ⟨(H_.at_ 1 J).1,fun h_=>h_⟩⟩
 refine ca aa2 J (ec J<|ec J e0) cx ?_
 rintro _ w1 ⟨rfl,cR⟩
 have H4:=H3.ext cR
 refine k<|kc J J<|aj (v:=.bool (!(l.any<|fun (x_:Int)=>dV I x_))) J J<|aG<|rt<|r1 J J ?_
 exact⟨alB Value.bool (show (!(l.any<|fun (x_:Int)=>dV I x_))=(!(l.any<|dV I)) from rfl),H4.below⟩
theorem DE (hM:ei M w) (tN:cP M w cF cE bf) (nt:aN i) (ob:w.heap[bZ]? =some (.cells #[.slice aC aE aB,.slice av rA au,.slice ax cH aw,sL cF bf cE,.slice dA kQ dz] gO (0,0))∧¬M bZ):Calls aX 83 #[.pointer (some ⟨bZ,0,none⟩),U i] w (cZ fun v w'=>v=.tuple #[.agg #[U ((bI bf i).elim 0 (·.1)),U ((bI bf i).elim 0 (·.2.1)),U ((bI bf i).elim 0 (·.2.2.1)),U ((bI bf i).elim 0 (·.2.2.2.1)),U ((bI bf i).elim 0 (·.2.2.2.2))],.bool ((bI bf i).isSome)]∧Ext w w'):=by
 refine dK 25 Tryz.func83 J J J hM fun f0 ha H=>?_
 have H0:=cj H tN
 have QG:=bN tN
 have H1:=H0.put (it:=ro bZ #[.slice aC aE aB,.slice av rA au,.slice ax cH aw,sL cF bf cE,.slice dA kQ dz] gO) J<|by rw[bp rfl,dY];exact ob
 have i0:f0 0=pV bZ 0:=ha 0 bH
 have i1:f0 1=U i:=ha 1 bH
 refine aH<|k<|al H1 iQ ?_
 let bC:=[ro bZ #[.slice aC aE aB,.slice av rA au,.slice ax cH aw,sL cF bf cE,.slice dA kQ dz] gO,iL cF bf cE]
 intro aK w0 dt (H2:HI M w w0 (box aK #[U 0,U 0,U 0,U 0,U 0] 92::bC))
 refine aj (v:=.bool false) J J<|aG<|sq<|aH<|ak J i1<|k<|lss J J J J<|ak (v:=.bool (decide (i<0))) J J ?_
 rcases bE (decide (i<0)) with b0|b0
 ·
  have p0:=dT b0
  refine aD J J J b0<|aD J J J b0<|aD J J J b0<|aD J J J b0<|aD J J J b0<|aD J J J b0<|aD J J J b0<|k<|ba J J J J b0 J<|aG<|nP J J J<|aH<|k<|bd (v:=.agg #[U 0,U 0,U 0,U 0,U 0]) J eo (fun _=>bu)<|k<|cz H2 0 J iQ J J J J J J J ?_
  intro w1 (H3:HI M w w1 (box aK #[U 0,U 0,U 0,U 0,U 0] 92::bC))
  refine aj (v:=.bool false) J J<|aG<|rt<|aS<|iS H3 0 J iQ J J J J J aJ ?_
  have e0:(0:Int)=(bI bf i).elim 0 (·.1):=by rw[nf ai];rfl
  have e1:(0:Int)=(bI bf i).elim 0 (·.2.1):=by rw[nf ai];rfl
  have e2:(0:Int)=(bI bf i).elim 0 (·.2.2.1):=by rw[nf ai];rfl
  have e3:(0:Int)=(bI bf i).elim 0 (·.2.2.2.1):=by rw[nf ai];rfl
  have e4:(0:Int)=(bI bf i).elim 0 (·.2.2.2.2):=by rw[nf ai];rfl
  have e5:(false:Bool)=(bI bf i).isSome:=by rw[nf ai];rfl
  have bF:=cg6 (fun (cK:Int) (fI:Int) (jE:Int) (vt:Int) (O9:Int) (O8:Bool)=>(.tuple #[.agg #[U cK,U fI,U jE,U vt,U O9],.bool O8]:Value)) e0 e1 e2 e3 e4 e5
  exact⟨bF,H3.below⟩
 have p0:=dF b0
 refine aM J J J b0<|mv J i1<|aM J J J b0<|mv J i0<|aM J J J b0<|nc J J<|aM J J J b0<|fa wz J J<|aM J J J b0<|lr H2 1 J oI J J J<|aM J J J b0<|ep J J mY<|aM J J J b0<|geq J J J J<|k<|bc J J J J b0 J<|z<|nx<|cd (b:=decide ((bf.length:Int)≤i)) J J (fun b1=>?_)<|fun b1=>?_
 ·
  have p1:=dT b1
  refine aH<|k<|bd (v:=.agg #[U 0,U 0,U 0,U 0,U 0]) J eo (fun _=>bu)<|k<|cz H2 0 J iQ J J J J J J J ?_
  intro w1 (H3:HI M w w1 (box aK #[U 0,U 0,U 0,U 0,U 0] 92::bC))
  refine aj (v:=.bool false) J J<|aG<|rt<|aS<|iS H3 0 J iQ J J J J J aJ ?_
  have e0:(0:Int)=(bI bf i).elim 0 (·.1):=by rw[nf ai];rfl
  have e1:(0:Int)=(bI bf i).elim 0 (·.2.1):=by rw[nf ai];rfl
  have e2:(0:Int)=(bI bf i).elim 0 (·.2.2.1):=by rw[nf ai];rfl
  have e3:(0:Int)=(bI bf i).elim 0 (·.2.2.2.1):=by rw[nf ai];rfl
  have e4:(0:Int)=(bI bf i).elim 0 (·.2.2.2.2):=by rw[nf ai];rfl
  have e5:(false:Bool)=(bI bf i).isSome:=by rw[nf ai];rfl
  have bF:=cg6 (fun (cK:Int) (fI:Int) (jE:Int) (vt:Int) (O9:Int) (O8:Bool)=>(.tuple #[.agg #[U cK,U fI,U jE,U vt,U O9],.bool O8]:Value)) e0 e1 e2 e3 e4 e5
  exact⟨bF,H3.below⟩
 have p1:=dF b1
 refine sk<|dM<|ak J i0<|k<|nc J J<|bo wz J J<|k<|lr H2 1 J oI J J J<|ak J i1<|k<|ia (H2.rv 2 J) J J J J ai mY iQ ?_
 intro fz x0 aq cN
 refine k<|vQ cN.w iQ J J ?_
 intro v0 cL
 obtain⟨_,⟨_,_,rfl,⟨rfl,eQ⟩,⟨_,_,rfl,⟨rfl,gh⟩,⟨_,_,rfl,⟨rfl,fQ⟩,⟨_,_,rfl,⟨rfl,gG⟩,⟨rfl,gl⟩⟩⟩⟩⟩,rfl⟩:=cL
 refine k<|cz H2 0 J iQ J J J J J J J ?_
 intro w1 (H3:HI M w w1 (box aK #[U x0.1,U x0.2.1,U x0.2.2.1,U x0.2.2.2.1,U x0.2.2.2.2] 92::bC))
 refine aj (v:=.bool true) J J<|aG<|rt<|iS H3 0 J iQ J J J J J aJ ?_
 have e0:(x0.1:Int)=(bI bf i).elim 0 (·.1):=by rw[ql ai aq];rfl
 have e1:(x0.2.1:Int)=(bI bf i).elim 0 (·.2.1):=by rw[ql ai aq];rfl
 have e2:(x0.2.2.1:Int)=(bI bf i).elim 0 (·.2.2.1):=by rw[ql ai aq];rfl
 have e3:(x0.2.2.2.1:Int)=(bI bf i).elim 0 (·.2.2.2.1):=by rw[ql ai aq];rfl
 have e4:(x0.2.2.2.2:Int)=(bI bf i).elim 0 (·.2.2.2.2):=by rw[ql ai aq];rfl
 have e5:(true:Bool)=(bI bf i).isSome:=by rw[ql ai aq];rfl
 have bF:=cg6 (fun (cK:Int) (fI:Int) (jE:Int) (vt:Int) (O9:Int) (O8:Bool)=>(.tuple #[.agg #[U cK,U fI,U jE,U vt,U O9],.bool O8]:Value)) e0 e1 e2 e3 e4 e5
 exact⟨bF,H3.below⟩
theorem T_:dq aX 83:=dy Tryz.func83
theorem qi {n3:Int} (hM:ei M w) (tN:cP M w cF cE bf) (tA:aN n1) (wj:aN n2) (akJ:aN n3) (ob:w.heap[bZ]? =some (.cells #[.slice aC aE aB,.slice av rA au,.slice ax cH aw,sL cF bf cE,.slice dA kQ dz] gO (0,0))∧¬M bZ):Calls aX 48 #[.pointer (some ⟨bZ,0,none⟩),U n1,U n2,U n3] w (cZ fun v w'=>v=.bool (fP bf n1 n2 n3)∧Ext w w'):=by
 refine dK 30 Tryz.func48 J J J hM fun f0 ha H=>?_
 have H0:=cj H tN
 have H1:=H0.put (it:=ro bZ #[.slice aC aE aB,.slice av rA au,.slice ax cH aw,sL cF bf cE,.slice dA kQ dz] gO) J<|by rw[bp rfl,dY];exact ob
 have i0:f0 0=pV bZ 0:=ha 0 bH
 have i1:f0 1=U n1:=ha 1 bH
 have i2:f0 2=U n2:=ha 2 bH
 have i3:f0 3=U n3:=ha 3 bH
 refine aH<|aj (v:=.bool false) J J<|cU<|ak J i0<|ak J i1<|k ?_
 have cx:=DE (bf:=bf) (i:=n1) H1.mb (H1.rv 1 J) tA<|H1.at_ 0 J
 refine ca T_ J (ec J<|ec J e0) cx ?_
 rintro _ w0 ⟨rfl,dt⟩
 have H2:=H1.ext dt
 refine ak (v:=.tuple #[.agg #[U ((bI bf n1).elim 0 (·.1)),U ((bI bf n1).elim 0 (·.2.1)),U ((bI bf n1).elim 0 (·.2.2.1)),U ((bI bf n1).elim 0 (·.2.2.2.1)),U ((bI bf n1).elim 0 (·.2.2.2.2))],.bool ((bI bf n1).isSome)]) J J<|k<|xt J J J<|k<|xt J J J<|k<|al H2 iQ ?_
 let bC:=[ro bZ #[.slice aC aE aB,.slice av rA au,.slice ax cH aw,sL cF bf cE,.slice dA kQ dz] gO,iL cF bf cE]
 intro aK w1 cR (H3:HI M w w1 (box aK #[U 0,U 0,U 0,U 0,U 0] 92::bC))
 refine k<|cz H3 0 J iQ J J J J J J J ?_
 intro w2 (H4:HI M w w2 (box aK #[U ((bI bf n1).elim 0 (·.1)),U ((bI bf n1).elim 0 (·.2.1)),U ((bI bf n1).elim 0 (·.2.2.1)),U ((bI bf n1).elim 0 (·.2.2.2.1)),U ((bI bf n1).elim 0 (·.2.2.2.2))] 92::bC))
 refine aj (v:=.bool ((bI bf n1).isSome)) J J<|cU<|ak (v:=.bool ((bI bf n1).isSome)) J J<|ak (v:=.bool ((bI bf n1).isSome)) J J ?_
 rcases bE ((bI bf n1).isSome) with b0|b0
 ·
  refine aM J J J b0<|fa rl J J<|aM J J J b0<|lx H4 0 J aQ J J J<|aM J J J b0<|mv J i2<|aM J J J b0<|eql J J J J<|k<|ba J J J J b0 J<|ak (v:=.bool (decide (((bI bf n1).elim 0 (·.2.1))=n2))) J J ?_
  rcases bE (decide (((bI bf n1).elim 0 (·.2.1))=n2)) with b1|b1
  ·
   refine aM J J J b1<|fa oZ J J<|aM J J J b1<|lx H4 0 J aQ J J J<|aM J J J b1<|mv J i3<|aM J J J b1<|eql J J J J<|k<|ba J J J J b1 J<|aj (v:=.bool (decide (((bI bf n1).elim 0 (·.2.2.1))=n3))) J J<|aG<|rt<|r1 J J ?_
   exact⟨alB Value.bool (by exact Yp cG cG),H4.below⟩
  refine aD J J J b1<|aD J J J b1<|aD J J J b1<|aD J J J b1<|k<|bc J J J J b1 J<|aj (v:=.bool false) J J<|aG<|rt<|r1 J J ?_
  exact⟨alB Value.bool (by exact Yq cG cG),H4.below⟩
 refine aD J J J b0<|aD J J J b0<|aD J J J b0<|aD J J J b0<|k<|bc J J J J b0 J<|ak (v:=.bool false) J J<|aD J J J J<|aD J J J J<|aD J J J J<|aD J J J J<|k<|bc J J J J J J<|aj (v:=.bool false) J J<|aG<|rt<|r1 J J ?_
 exact⟨alB Value.bool (by exact WG cG),H4.below⟩
theorem He (hM:ei M w) (cX:cP M w av au I) (tA:aN n1) (wj:aN n2) (ob:w.heap[bZ]? =some (.cells #[.slice aC aE aB,sL av I au,.slice ax cH aw,.slice cF kS cE,.slice dA kQ dz] gO (0,0))∧¬M bZ) (A9:0≤n1∧n1<((I.length:Nat):Int)) (afq:0≤n2∧n2<((I.length:Nat):Int)):Calls aX 50 #[.pointer (some ⟨bZ,0,none⟩),U n1,U n2] w (cZ fun v w'=>v=.bool (dE I n1 n2)∧Ext w w'):=by
 refine dK 43 Tryz.func50 J J J hM fun f0 ha H=>?_
 have H0:=cj H cX
 have H1:=H0.put (it:=ro bZ #[.slice aC aE aB,sL av I au,.slice ax cH aw,.slice cF kS cE,.slice dA kQ dz] gO) J<|by rw[bp rfl,dY];exact ob
 have i0:f0 0=pV bZ 0:=ha 0 bH
 have i1:f0 1=U n1:=ha 1 bH
 have i2:f0 2=U n2:=ha 2 bH
 refine aH<|aj (v:=.bool false) J J<|aG<|sq ?_
 obtain⟨x0,aq⟩:∃x,I[n1.toNat]? =some x:=⟨_,dW ai⟩
 obtain⟨x1,cw⟩:∃x,I[n2.toNat]? =some x:=⟨_,dW ai⟩
 refine VZ [.v,.v,.v,.v,.v,.v,.v,.v,.v,.v,.v,.v,.v,.v,.v,.v,.n,.n,.s 16 7,.s 17 15] [fun (N:bT) (v:Value) (w':aI)=>v=pV bZ 0,fun (N:bT) (v:Value) (w':aI)=>v=pV bZ 0,fun (N:bT) (v:Value) (w':aI)=>v=pV bZ 0,fun (N:bT) (v:Value) (w':aI)=>v=pV bZ 1,fun (N:bT) (v:Value) (w':aI)=>v=sL av I au,fun (N:bT) (v:Value) (w':aI)=>v=U n1,fun (N:bT) (v:Value) (w':aI)=>∃(fz:Addr),v=.pointer (some fz)∧At (MS M [ro bZ #[.slice aC aE aB,sL av I au,.slice ax cH aw,.slice cF kS cE,.slice dA kQ dz] gO,iL av I au]) w fz x0,fun (N:bT) (v:Value) (w':aI)=>v=.agg #[U x0.1,U x0.2.1,.bool x0.2.2.1,U x0.2.2.2.1,U x0.2.2.2.2]∧aN (x0.1)∧aN (x0.2.1)∧aN (x0.2.2.2.1)∧aN (x0.2.2.2.2),fun (N:bT) (v:Value) (w':aI)=>v=pV bZ 0,fun (N:bT) (v:Value) (w':aI)=>v=pV bZ 0,fun (N:bT) (v:Value) (w':aI)=>v=pV bZ 0,fun (N:bT) (v:Value) (w':aI)=>v=pV bZ 1,fun (N:bT) (v:Value) (w':aI)=>v=sL av I au,fun (N:bT) (v:Value) (w':aI)=>v=U n2,fun (N:bT) (v:Value) (w':aI)=>∃(iG:Addr),v=.pointer (some iG)∧At (MS M [ro bZ #[.slice aC aE aB,sL av I au,.slice ax cH aw,.slice cF kS cE,.slice dA kQ dz] gO,iL av I au]) w iG x1,fun (N:bT) (v:Value) (w':aI)=>v=.agg #[U x1.1,U x1.2.1,.bool x1.2.2.1,U x1.2.2.2.1,U x1.2.2.2.2]∧aN (x1.1)∧aN (x1.2.1)∧aN (x1.2.2.2.1)∧aN (x1.2.2.2.2),fun _ _ _=>True,fun _ _ _=>True,fun _ _ _=>True,fun _ _ _=>True] [(#[],0),(#[],0),(#[],0),(#[],0),(#[],0),(#[],0),(#[],0),(#[],0),(#[],0),(#[],0),(#[],0),(#[],0),(#[],0),(#[],0),(#[],0),(#[],0),(#[U 0,U 0,.bool false,U 0,U 0],85),(#[U 0,U 0,.bool false,U 0,U 0],85),(#[],0),(#[],0)] J bu ?_ ?_
 ·
  refine⟨⟨fun _ _ _ _ _ _ h=>h,J,fun f0 w2 N0 kC d_ hN0 Jp=>?_⟩,?_⟩
  ·
   refine mv J ((kC 0 J).trans i0) ?_
   exact⟨_,J,Ext.refl _,J⟩
  refine⟨⟨fun _ _ _ _ _ _ h=>h,J,fun f1 w3 N1 rh eG G1 oW=>?_⟩,?_⟩
  ·
   have A5:=oW 0 J ⟨_,J,J⟩
   have s0:f1 9=pV bZ 0:=A5
   refine nc J s0 ?_
   exact⟨_,J,Ext.refl _,J⟩
  refine⟨⟨fun _ _ _ _ _ _ h=>h,J,fun f2 w4 N2 l4 eI hN2 rY=>?_⟩,?_⟩
  ·
   have yC:=rY 1 J ⟨_,J,J⟩
   have s1:f2 10=pV bZ 0:=yC
   refine fa mL J s1 ?_
   exact⟨_,J,Ext.refl _,J⟩
  refine⟨⟨fun _ _ _ _ _ _ h=>h,J,fun f3 w5 N3 qC ly CC lP=>?_⟩,?_⟩
  ·
   have j7:=lP 2 J ⟨_,J,J⟩
   have s2:f3 11=pV bZ 0:=j7
   refine fa dh J s2 ?_
   exact⟨_,J,Ext.refl _,J⟩
  refine⟨⟨fun _ _ _ _ _ _ h=>h,J,fun f4 w6 N4 re iJ CB jk=>?_⟩,?_⟩
  ·
   have A4:=jk 3 J ⟨_,J,J⟩
   have s3:f4 12=pV bZ 1:=A4
   refine lr (H1.ext iJ) 0 J eR J s3 J ?_
   exact⟨_,J,Ext.refl _,J⟩
  refine⟨⟨fun _ _ _ _ _ _ h=>h,J,fun f5 w7 N5 ns je hN5 j8=>?_⟩,?_⟩
  ·
   refine mv J ((ns 1 J).trans i1) ?_
   exact⟨_,J,Ext.refl _,J⟩
  refine⟨⟨fun _ _ _ _ _ _ h=>h,J,fun f6 w8 N6 rb lh Rh kj=>?_⟩,?_⟩
  ·
   have A3:=kj 4 J ⟨_,J,J⟩
   have s4:f6 13=sL av I au:=A3
   have A2:=kj 5 J ⟨_,J,J⟩
   have s5:f6 14=U n1:=A2
   refine iax (H1.rv 1 J) J J s4 s5 ai fj gB ?_
   intro kX x2 dR gJ
   obtain rfl:x0=x2:=alD (aq.symm.trans dR)
   exact⟨_,J,Ext.refl _,⟨kX,J,gJ⟩⟩
  refine⟨⟨fun _ _ _ _ _ _ h=>h,J,fun f7 w9 N7 qa jD hN7 ll=>?_⟩,?_⟩
  ·
   have A1:=ll 6 J ⟨_,J,J⟩
   obtain⟨jc,s6,km⟩:∃(jc:Addr),f7 15=.pointer (some jc)∧At (MS M [ro bZ #[.slice aC aE aB,sL av I au,.slice ax cH aw,.slice cF kS cE,.slice dA kQ dz] gO,iL av I au]) w jc x0:=A1
   have H4:=H1.put (it:=lq jc x0) J km
   refine Zk (H4.wK 0 J).w jD gB J s6 ?_
   intro v2 lD
   obtain⟨_,⟨_,_,rfl,⟨rfl,mZ⟩,⟨_,_,rfl,⟨rfl,pP⟩,⟨_,_,rfl,rfl,⟨_,_,rfl,⟨rfl,qM⟩,⟨rfl,rz⟩⟩⟩⟩⟩,rfl⟩:=lD
   exact⟨_,J,Ext.refl _,⟨J,mZ,pP,qM,rz⟩⟩
  refine⟨⟨fun _ _ _ _ _ _ h=>h,J,fun f8 jb N8 oa gv hN8 jj=>?_⟩,?_⟩
  ·
   refine mv J ((oa 0 J).trans i0) ?_
   exact⟨_,J,Ext.refl _,J⟩
  refine⟨⟨fun _ _ _ _ _ _ h=>h,J,fun f9 iK N9 r6 j0 hN9 mS=>?_⟩,?_⟩
  ·
   have A0:=mS 8 J ⟨_,J,J⟩
   have s7:f9 17=pV bZ 0:=A0
   refine nc J s7 ?_
   exact⟨_,J,Ext.refl _,J⟩
  refine⟨⟨fun _ _ _ _ _ _ h=>h,J,fun f10 jf N10 mg kb JR iz=>?_⟩,?_⟩
  ·
   have yB:=iz 9 J ⟨_,J,J⟩
   have s8:f10 18=pV bZ 0:=yB
   refine fa mL J s8 ?_
   exact⟨_,J,Ext.refl _,J⟩
  refine⟨⟨fun _ _ _ _ _ _ h=>h,J,fun f11 ju N11 pq kZ afO jI=>?_⟩,?_⟩
  ·
   have Mk:=jI 10 J ⟨_,J,J⟩
   have s9:f11 19=pV bZ 0:=Mk
   refine fa dh J s9 ?_
   exact⟨_,J,Ext.refl _,J⟩
  refine⟨⟨fun _ _ _ _ _ _ h=>h,J,fun f12 jK N12 wb qL OF kg=>?_⟩,?_⟩
  ·
   have zI:=kg 11 J ⟨_,J,J⟩
   have ey:f12 20=pV bZ 1:=zI
   refine lr (H1.ext qL) 0 J eR J ey J ?_
   exact⟨_,J,Ext.refl _,J⟩
  refine⟨⟨fun _ _ _ _ _ _ h=>h,J,fun f13 lz N13 qb po afN uL=>?_⟩,?_⟩
  ·
   refine mv J ((qb 2 J).trans i2) ?_
   exact⟨_,J,Ext.refl _,J⟩
  refine⟨⟨fun _ _ _ _ _ _ h=>h,J,fun f14 mB N14 Bc oG afM xO=>?_⟩,?_⟩
  ·
   have FN:=xO 12 J ⟨_,J,J⟩
   have ew:f14 21=sL av I au:=FN
   have Jl:=xO 13 J ⟨_,J,J⟩
   have eE:f14 22=U n2:=Jl
   refine iax (H1.rv 1 J) J J ew eE ai fj gB ?_
   intro sK x3 gX oD
   obtain rfl:x1=x3:=alD (cw.symm.trans gX)
   exact⟨_,J,Ext.refl _,⟨sK,J,oD⟩⟩
  refine⟨⟨fun _ _ _ _ _ _ h=>h,J,fun f15 lL N15 Bb tc T8 uK=>?_⟩,?_⟩
  ·
   have FM:=uK 14 J ⟨_,J,J⟩
   obtain⟨kG,fc,qe⟩:∃(kG:Addr),f15 23=.pointer (some kG)∧At (MS M [ro bZ #[.slice aC aE aB,sL av I au,.slice ax cH aw,.slice cF kS cE,.slice dA kQ dz] gO,iL av I au]) w kG x1:=FM
   have H5:=H1.put (it:=lq kG x1) J qe
   refine Zk (H5.wK 0 J).w tc gB J fc ?_
   intro v3 tj
   obtain⟨_,⟨_,_,rfl,⟨rfl,SX⟩,⟨_,_,rfl,⟨rfl,SU⟩,⟨_,_,rfl,rfl,⟨_,_,rfl,⟨rfl,E4⟩,⟨rfl,SS⟩⟩⟩⟩⟩,rfl⟩:=tj
   exact⟨_,J,Ext.refl _,⟨J,SX,SU,E4,SS⟩⟩
  refine⟨⟨fun _ _ _ _ _ _ h=>h,J,fun _ _ _=>trivial,fun f16 jX N16 akF vq akL ZU=>?_⟩,?_⟩
  ·
   refine MU gB ?_
   exact⟨J,J⟩
  refine⟨⟨fun _ _ _ _ _ _ h=>h,J,fun _ _ _=>trivial,fun f17 kJ N17 akE qK akK ZT=>?_⟩,?_⟩
  ·
   refine MU gB ?_
   exact⟨J,J⟩
  refine⟨⟨fun _ _ _ _ _ _ h=>h,J,J,J,⟨_,J,J⟩,⟨_,J,J⟩,by decide,trivial,by rintro _ _ _ ⟨e_,eQ,gh,fQ,gG⟩;subst e_;rfl,fun f18 ow N_ bj Ut vo fJ qG oY iC=>?_⟩,?_⟩
  ·
   obtain⟨e_,eQ,gh,fQ,gG⟩:=iC
   exact LI gB J J fJ J qG ((alB (fun v=>v.cells.size) e_).trans rfl) oY<|(alB (fun v=>v.cells.toList.all Value.oneCell') e_).trans rfl
  refine⟨⟨fun _ _ _ _ _ _ h=>h,J,J,J,⟨_,J,J⟩,⟨_,J,J⟩,by decide,trivial,by rintro _ _ _ ⟨e_,lk,lM,ml,kK⟩;subst e_;rfl,fun f19 kv N_ dI Ko HW fw uf qE lZ=>?_⟩,?_⟩
  ·
   obtain⟨e_,lk,lM,ml,kK⟩:=lZ
   exact LI gB J J fw J uf ((alB (fun v=>v.cells.size) e_).trans rfl) qE<|(alB (fun v=>v.cells.toList.all Value.oneCell') e_).trans rfl
  exact trivial
 ·
  intro f20 nU I0 Z' Ap Jo aav yL
  have fX:=(Z' 1 J).trans i1
  have gF:=(Z' 2 J).trans i2
  obtain⟨gL,SR,aj_,ae_,Ys⟩:f20 16=.agg #[U x0.1,U x0.2.1,.bool x0.2.2.1,U x0.2.2.2.1,U x0.2.2.2.2]∧aN (x0.1)∧aN (x0.2.1)∧aN (x0.2.2.2.1)∧aN (x0.2.2.2.2):=(Jo 7 _ rfl rfl)
  obtain⟨gE,aj9,aj8,aj7,aj6⟩:f20 24=.agg #[U x1.1,U x1.2.1,.bool x1.2.2.1,U x1.2.2.2.1,U x1.2.2.2.2]∧aN (x1.1)∧aN (x1.2.1)∧aN (x1.2.2.2.1)∧aN (x1.2.2.2.2):=(Jo 15 _ rfl rfl)
  obtain⟨jg,Cz, -,Us,ue,cI⟩:=aav 16 aJ trivial
  have FL:Us=#[U x0.1,U x0.2.1,.bool x0.2.2.1,U x0.2.2.2.1,U x0.2.2.2.2]:=(cI.2.1 18 7 J J).trans (alB Value.cells gL)
  rw[FL] at ue
  have acO:=Cz
  obtain⟨kU,Z9, -,Ur,Q',ub⟩:=aav 17 aJ trivial
  have TM:Ur=#[U x1.1,U x1.2.1,.bool x1.2.2.1,U x1.2.2.2.1,U x1.2.2.2.2]:=(ub.2.1 19 15 J J).trans (alB Value.cells gE)
  rw[TM] at Q'
  have acN:=Z9
  have agB:=yL 16 17 aJ aJ aJ trivial trivial
  have H6:HI M w nU [box (I0 16) #[U x0.1,U x0.2.1,.bool x0.2.2.1,U x0.2.2.2.1,U x0.2.2.2.2] 85,box (I0 17) #[U x1.1,U x1.2.1,.bool x1.2.2.1,U x1.2.2.2.1,U x1.2.2.2.2] 85,ro bZ #[.slice aC aE aB,sL av I au,.slice ax cH aw,.slice cF kS cE,.slice dA kQ dz] gO,iL av I au]:=H1.lays Ap [((I0 16),#[U x0.1,U x0.2.1,.bool x0.2.2.1,U x0.2.2.2.1,U x0.2.2.2.2],85),((I0 17),#[U x1.1,U x1.2.1,.bool x1.2.2.1,U x1.2.2.2.1,U x1.2.2.2.2],85)] (by intro q_ jw;simp only[alQ,amC,am3] at jw;rcases jw with rfl|rfl<;>first|exact⟨acO,ue⟩|exact⟨acN,Q'⟩)<|by simp only[amD,aod,amr,alQ,amC,am3,ans,aoU,not_or,anP,anZ]<;>omega
  refine dM<|ak J fX<|ak J gF<|k<|neq J J J J<|ak (v:=.bool (!decide (n1=n2))) J J ?_
  rcases bE (!decide (n1=n2)) with b0|b0
  ·
   have p0:=dF<|fE b0
   refine aM J J J b0<|fa oe J jg<|aM J J J b0<|lx H6 0 J mC J J J<|k<|ba J J J J b0 J<|ak (v:=.bool x0.2.2.1) J J ?_
   rcases bE (x0.2.2.1) with b1|b1
   ·
    refine aM J J J b1<|fa oe J kU<|aM J J J b1<|lx H6 1 J mC J J J<|k<|ba J J J J b1 J<|ak (v:=.bool x1.2.2.1) J J ?_
    rcases bE (x1.2.2.1) with b2|b2
    ·
     refine aM J J J b2<|fa nv J jg<|aM J J J b2<|lx H6 0 J aQ J J J<|aM J J J b2<|fa nv J kU<|aM J J J b2<|lx H6 1 J aQ J J J<|aM J J J b2<|eql J J J J<|k<|ba J J J J b2 J<|aj (v:=.bool (decide (x0.2.2.2.1=x1.2.2.2.1))) J J<|aG<|rt<|r1 J J ?_
     exact⟨alB Value.bool (by rw[zw aq cw];simp_all),H6.below⟩
    refine aD J J J b2<|aD J J J b2<|aD J J J b2<|aD J J J b2<|aD J J J b2<|k<|bc J J J J b2 J<|aj (v:=.bool false) J J<|aG<|rt<|r1 J J ?_
    exact⟨alB Value.bool (by rw[zw aq cw];simp_all),H6.below⟩
   refine aD J J J b1<|aD J J J b1<|k<|bc J J J J b1 J<|ak (v:=.bool false) J J<|aD J J J J<|aD J J J J<|aD J J J J<|aD J J J J<|aD J J J J<|k<|bc J J J J J J<|aj (v:=.bool false) J J<|aG<|rt<|r1 J J ?_
   exact⟨alB Value.bool (by rw[zw aq cw];simp_all),H6.below⟩
  have p0:=dT<|fF b0
  refine aD J J J b0<|aD J J J b0<|k<|bc J J J J b0 J<|ak (v:=.bool false) J J<|aD J J J J<|aD J J J J<|k<|bc J J J J J J<|ak (v:=.bool false) J J<|aD J J J J<|aD J J J J<|aD J J J J<|aD J J J J<|aD J J J J<|k<|bc J J J J J J<|aj (v:=.bool false) J J<|aG<|rt<|r1 J J ?_
  exact⟨alB Value.bool (by rw[zw aq cw];simp_all),H6.below⟩
theorem adt:dq aX 113:=dy Tryz.func113
theorem P6 (hM:ei M w) (hT:mi 0 w) (fL:aN mn) (eO:cP M w aU aT mr) (Ag:aN o) (bV:cq mn mr=true):Calls aX 91 #[.agg #[U mn,sL aU mr aT],U o] w (cZ fun v w'=>∃(a0:OA) (c0:Nat),v=.slice a0 (dm mn mr o).length c0∧Ext w w'∧bm M 3 w (dm mn mr o) (.slice a0 (dm mn mr o).length c0) w'):=by
 refine dK 22 Tryz.func91 J J J hM fun f0 ha H=>?_
 have H0:=cj H eO
 have lu:=bN eO
 have i0:f0 0=.agg #[U mn,sL aU mr aT]:=ha 0 bH
 have i1:f0 1=U o:=ha 1 bH
 have A_:=(bQ bV).1;have CE:=(bQ bV).2.2.1;have CF:=iA bV
 refine aH<|k<|bx H0 J i0 ?_
 intro aK w0 dt (H1:HI M w w0 [box aK #[U mn,sL aU mr aT] 68,iL aU mr aT])
 refine aj (v:=.slice none 0 0) J J<|aG<|sq<|aH<|ak J i1<|k<|lss J J J J<|ak (v:=.bool (decide (o<0))) J J ?_
 rcases bE (decide (o<0)) with b0|b0
 ·
  have p0:=dT b0
  refine aD J J J b0<|aD J J J b0<|aD J J J b0<|aD J J J b0<|k<|ba J J J J b0 J<|aG<|nP J J J<|aH<|aj (v:=.slice none 0 0) J J<|aG<|rt<|aS<|r1 J J ?_
  have e0:([]:az)=dm mn mr o:=by exact(CS ai).symm
  have bF:=fu (fun (cK:az)=>(.slice none cK.length 0:Value)) e0
  exact⟨none,0,bF,H1.below,(alB (fun (x_:az)=>bm _ _ _ x_ (.slice none x_.length 0) _) e0).mp (gQ H1.below)⟩
 have p0:=dF b0
 refine aM J J J b0<|mv J i1<|aM J J J b0<|fa gm J J<|aM J J J b0<|lx H1 0 J aQ J J J<|aM J J J b0<|geq J J J J<|k<|bc J J J J b0 J<|z<|nx<|cd (b:=decide (mn≤o)) J J (fun b1=>?_)<|fun b1=>?_
 ·
  have p1:=dT b1
  refine aH<|aj (v:=.slice none 0 0) J J<|aG<|rt<|aS<|r1 J J ?_
  have e0:([]:az)=dm mn mr o:=by exact(CS ai).symm
  have bF:=fu (fun (cK:az)=>(.slice none cK.length 0:Value)) e0
  exact⟨none,0,bF,H1.below,(alB (fun (x_:az)=>bm _ _ _ x_ (.slice none x_.length 0) _) e0).mp (gQ H1.below)⟩
 have p1:=dF b1
 refine sk<|nx<|sq ?_
 have hq:0≤o∧o<mn:=by omega
 have tl_:=Gh mn mr
 refine rg<|k<|cg H1 0 J bh J J aJ J<|k ?_
 have cx:=Tx (mn:=mn) (mr:=mr) H1.mb (hT.ext H1.below) fL (H1.rv 1 J)<|by exact bV
 refine ca adt J (ec J e0) cx ?_
 rintro _ w1 ⟨a0,c0,rfl,cR,cL⟩
 have H2:=H1.ic cL
 refine k<|fd (v:=sL a0 (oJ mn mr) c0) J J (fun _=>bu)<|ak J i1<|k<|jh (H2.at_ 0 J) J J J J ai iY eJ ?_
 intro g0 x0 iC aq cN
 refine k<|vR cN eJ J J ?_
 intro a1 c1 eQ
 have H3:=cj H2 eQ
 refine ak J i1<|k ?_
 have eF:=E5 (r:=x0) (i:=o) H3.mb (H3.rv 0 J) Ag<|by have h_:=Aw bV aq;omega
 refine ca OK J (ec J<|ec J e0) eF ?_
 rintro _ w2 ⟨a2,c2,rfl,d_,gh⟩
 have H4:=H3.ic gh
 refine k ?_
 have H5:=H4.freeze 0 J
 have gS:=ID (r:=(ej x0 o)) H5.mb (hT.ext H5.below) (H5.rv 0 J)<|by rw[nE];have h_:=Aw bV aq;omega
 refine ca VQ J (ec J e0) gS ?_
 rintro _ w3 ⟨a3,c3,rfl,eG,fQ⟩
 have H6:=H5.ic fQ
 refine aj (v:=sL a3 (fH<|ej x0 o) c3) J J<|aG<|rt<|r1 J J ?_
 have e0:(fH (ej x0 o):az)=dm mn mr o:=by exact Pe bV hq aq
 have bF:=fu (fun (cK:az)=>(.slice a3 cK.length c3:Value)) e0
 exact⟨a3,c3,bF,H6.below,(alB (fun (x_:az)=>bm _ _ _ x_ (.slice a3 x_.length c3) _) e0).mp (H6.cB 0 J)⟩
theorem F0 {r:List Go.Ew.Item} {rK:OA} {rJ:Nat} {xs:az} (yP:FPH aX rk rp M w (fun ys_=>own w.heap.size 3 (sL rK xs rJ) ys_) r xs p) (H:HI M w w_ ([oL w 3 rK xs rJ]++r)):Calls aX 88 #[sL rK xs rJ,.func (.func rk) #[] rp.toArray] w_ (cZ fun v w'=>v=.slice rK (aV p xs).length rJ∧HI M w w' ([oL w 3 rK (aV p xs) rJ]++r)):=by
 refine enter 42 Tryz.func88 J J J fun f0 ha=>?_
 have ajS:=oM<|H.at_ 0 J
 have i0:f0 0=sL rK xs rJ:=ha 0 bH
 have i1:f0 1=.func (.func rk) #[] rp.toArray:=ha 1 bH
 refine aH<|aj (v:=.slice none 0 0) J J<|cU<|ak J i0<|ak J i1<|k ?_
 have H0:=H.freeze 0 J
 have cx:=Aa (r:=xs) (p:=p) H0.mb (H0.rv 0 J)<|yP.fp H
 refine ca aaV J (ec J<|ec J e0) cx ?_
 rintro _ w0 ⟨rfl,dt⟩
 have H2:=H.ext dt
 refine aj (v:=U (gx p xs)) J J<|aG<|sq<|aH<|ak (v:=U (gx p xs)) J J<|k<|eql J J J J<|z<|nx<|cd (b:=decide ((gx p xs)=(-1))) J J (fun b0=>?_)<|fun b0=>?_
 ·
  have p0:=dT b0
  refine aH<|ak J i0<|aj (v:=sL rK xs rJ) J J<|aG<|rt<|aS<|r1 J J ?_
  have e0:(xs:List _)=(aV p xs):=by exact XT cG
  try rw[←e0]
  refine⟨?_,?_⟩
  · first|rfl|simp only[e0]|(simp only[alP])
  · first|exact H2|simpa only[e0,alP] using H2
 have p0:=dF b0
 refine sk<|nx<|sq<|sq ?_
 obtain⟨akD,akC,JA⟩:=Un (p:=p) (xs:=xs) cG
 refine rg<|ak (v:=U (gx p xs)) J J<|k<|add J J J J aY<|aj (v:=U ((gx p xs)+1)) J J<|aG<|bk<|lp (fun m f w'=>∃(q:Int) (k_:Nat) (ys:az),m=xs.length-k_∧f 0=sL rK xs rJ∧f 1=.func (.func rk) #[] rp.toArray∧f 5=U q∧f 6=U (k_:Int)∧HI M w w' ([own w.heap.size 3 (.slice rK xs.length rJ) ys]++r)∧(0≤q∧q<(k_:Int)∧k_≤xs.length)∧(DF p xs ys q k_)) _ ⟨(gx p xs),((gx p xs).toNat+1),xs,J,i0,i1,(bJ J),(bJ J),H2,ai,(by exact JA)⟩ ?_
 rintro _ f0 w1 ⟨q,k_,ys,rfl,s0,s1,s2,s3,H3,jw,hs⟩
 refine sq<|aH<|ak J s3<|ak J s0<|k<|ep J J cY<|k<|lss J J J J<|z<|nx<|cd (b:=decide ((k_:Int)<(xs.length:Int))) J J (fun b1=>?_)<|fun b1=>?_
 ·
  have p1:=dT b1
  refine sk<|nx<|sq<|bk<|aH<|ak J s0<|ak J s3<|k<|jh (H3.at_ 0 J) J J J J (by have h_:=hs.1;first|omega|(simp only[im,lY,xf,gW];omega)) cY aQ ?_
  intro g0 x0 iC aq cN
  refine k<|kB cN aQ J J ?_
  intro cL
  refine aj (v:=U x0) J J<|aG<|sq ?_
  have A_:=hs.1
  refine rg<|ak J s1<|ak (v:=U x0) J J<|k<|cf yP.1 J J J (ec J e0) (yP.2 _ _ H3 _ (by exact eh (by exact OS hs aq)) cL) ?_
  rintro _ w2 ⟨rfl,cR⟩
  have H4:=H3.ext cR
  have H5:HI M w w2 ([own w.heap.size 3 (.slice rK xs.length rJ) ys]++r):=H4
  refine k<|kc J J<|z<|nx<|cd (b:=!(p x0)) J J (fun b2=>?_)<|fun b2=>?_
  ·
   refine aH<|ak J s0<|ak J s2<|ak (v:=U x0) J J<|k<|jh (H5.at_ 0 J) J J J J (by have h_:=hs.1;first|omega|(simp only[im,lY,xf,gW];omega)) cY aQ ?_
   intro g1 x1 lZ cw eU
   refine k<|rO H5 0 J lZ J (by have h_:=hs.1;first|omega|(simp only[im,lY,xf,gW];omega)) aQ J J J J (RV.int.2 ⟨J,cG⟩) ?_
   intro w3 (H6:HI M w w3 ([own w.heap.size 3 (.slice rK xs.length rJ) (ys.set q.toNat x0)]++r))
   refine aG<|rg<|ak J s2<|k<|add J J J J aY<|aj (v:=U (q+1)) J J<|z<|aF<|nx<|rg<|ak J s3<|k<|add J J J J aY<|aj (v:=U ((k_:Int)+1)) J J<|z<|bD _ ?_ ⟨(q+1),(k_+1),(ys.set q.toNat x0),J,s0,s1,(bJ J),(bJ J),H6,ai,(by exact XU hs aq (by simpa using b2) ai ai)⟩
   omega
  refine sk<|aF<|nx<|rg<|ak J s3<|k<|add J J J J aY<|aj (v:=U ((k_:Int)+1)) J J<|z<|bD _ ?_ ⟨q,(k_+1),ys,J,s0,s1,(bJ s2),(bJ J),H5,ai,(by exact XV hs aq (by simpa using b2))⟩
  omega
 have p1:=dF b1
 refine ex<|bg<|bt<|bz<|dM<|ak J s0<|ak J s2<|k<|ae5 (H3.at_ 0 J) J J J J (by have h_:=hs.1;first|omega|(simp only[im,lY,xf,gW];omega)) cY aQ<|k<|clO H3 0 J J J (q:=q.toNat) J cY aQ (by have h_:=hs.1;omega) ?_
 intro w2 (H4:HI M w w2 ([own w.heap.size 3 (.slice rK xs.length rJ) (ys.take q.toNat++(List.replicate (ys.length-q.toNat) (0:Int)++[]))]++r))
 refine cU<|ak J s0<|ak J s2<|k<|acx H4 0 J J J J J (by have h_:=hs.1;first|omega|(simp only[im,lY,xf,gW];omega)) cY aQ ?_
 intro (H5:HI M w w2 ([oL w 3 rK ((ys.take q.toNat++(List.replicate (ys.length-q.toNat) (0:Int)++[])).take q.toNat) rJ]++r))
 refine aj (v:=sL rK ((ys.take q.toNat++(List.replicate (ys.length-q.toNat) (0:Int)++[])).take q.toNat) rJ) J J<|aG<|rt<|r1 J J ?_
 have e0:((ys.take q.toNat++(List.replicate (ys.length-q.toNat) (0:Int)++[])).take q.toNat:List _)=(aV p xs):=by exact abz hs ai ai (by have h_:=hs.1;omega) _
 try rw[←e0]
 refine⟨?_,?_⟩
 · first|rfl|simp only[e0]|(simp only[alP])
 · first|exact H5|simpa only[e0,alP] using H5
theorem NQ {R6:Nat} {Yj:TypeId} (hM:ei M w) (nt:aN i) (cX:cP M w av au I) (JO:w.heap[R6]? =some (.cells #[.slice aC aE aB,sL av I au,.slice ax cH aw] Yj (0,0))∧¬M R6) (Ad:0≤i∧i<((I.length:Nat):Int)):Calls aX 90 #[U i,.pointer (some ⟨R6,0,none⟩)] w (cZ fun v w'=>v=.bool (cm I i)∧Ext w w'):=by
 refine dK 10 Tryz.func90 J J J hM fun f0 ha H=>?_
 have H0:=cj H cX
 have i0:f0 0=U i:=ha 0 bH
 have H1:=H0.put (it:=ro R6 #[.slice aC aE aB,sL av I au,.slice ax cH aw] Yj) J<|by rw[bp rfl,dY];exact JO
 have i1:f0 1=pV R6 0:=ha 1 bH
 refine aH<|aj (v:=.bool false) J J<|cU<|bo dh J i1<|k<|lr H1 0 J eR J J J<|ak J i0<|k<|ia (H1.rv 1 J) J J J J ai fj gB ?_
 intro fz x0 aq cN
 refine bo oe J J<|k<|QK ((cN).s2).fst.w mC J J<|aj (v:=.bool x0.2.2.1) J J<|aG<|rt<|r1 J J ?_
 exact⟨alB Value.bool (by exact(HY aq).symm),H1.below⟩
theorem afW:dq aX 89:=dy Tryz.func89
theorem afV:dq aX 90:=dy Tryz.func90
theorem afX:dq aX 88:=dy Tryz.func88
theorem Gx (hM:ei M w) (cX:cP M w av au I) (Ag:aN o) (ho:et I) (cT:I.length≤4096):Calls aX 52 #[.agg #[.slice aC aE aB,sL av I au,.slice ax cH aw],U o] w (cZ fun v w'=>∃(a0:OA) (c0:Nat),v=.slice a0 (aV (cm I) (fG I o)).length c0∧Ext w w'∧bm M 3 w (aV (cm I) (fG I o)) (.slice a0 (aV (cm I) (fG I o)).length c0) w'):=by
 refine dK 10 Tryz.func52 J J J hM fun f0 ha H=>?_
 have H0:=cj H cX
 have i0:f0 0=.agg #[.slice aC aE aB,sL av I au,.slice ax cH aw]:=ha 0 bH
 have i1:f0 1=U o:=ha 1 bH
 refine aH<|k<|bx H0 J i0 ?_
 intro aK w0 dt (H1:HI M w w0 [box aK #[.slice aC aE aB,sL av I au,.slice ax cH aw] 32,iL av I au])
 refine aj (v:=.slice none 0 0) J J<|cU<|k<|cg H1 0 J dn J J aJ J<|ak J i1<|k ?_
 have cx:=Iz (I:=I) (tt:=o) (aC:=aC) (aE:=aE) (aB:=aB) (ax:=ax) (cH:=cH) (aw:=aw) H1.mb (H1.rv 1 J) Ag ai ai
 refine ca afW J (ec J<|ec J e0) cx ?_
 rintro _ w1 ⟨a0,c0,rfl,cR,cL⟩
 have H2:=H1.ic cL
 refine k<|mf J<|k ?_
 have H3:HI M w w1 ([oL w 3 a0 (fG I o) c0]++[box aK #[.slice aC aE aB,sL av I au,.slice ax cH aw] 32,iL av I au]):=H2.c_ [0,1,2] aJ J
 have eF:=F0 (rK:=a0) (rJ:=c0) (xs:=(fG I o)) (rk:=90) (rp:=[pV aK 0]) (p:=(fun (x_:Int)=>cm I x_)) (w:=w) (w_:=w1) (r:=[box aK #[.slice aC aE aB,sL av I au,.slice ax cH aw] 32,iL av I au]) (M:=M) ⟨afV,fun w_ ys_ H_ x_ ki ZM=>NQ (I:=I) (M:=fun _=>False) (fun _ h_=>h_.elim) ZM ((H_.rv 2 J).lift (Up.less fun _ _ h_=>h_.elim)) ⟨H_.at_ 1 rfl,fun h_=>h_⟩ (by obtain⟨j_,Vz⟩:=amt.1 ki;exact P_ ho Vz)⟩ H3
 refine ca afX J (ec J<|ec J e0) eF ?_
 rintro _ w2 ⟨rfl,H4⟩
 have H5:HI M w w2 [oL w 3 a0 (aV (fun (x_:Int)=>cm I x_) (fG I o)) c0,box aK #[.slice aC aE aB,sL av I au,.slice ax cH aw] 32,iL av I au]:=H4
 refine aj (v:=sL a0 (aV (fun (x_:Int)=>cm I x_)<|fG I o) c0) J J<|aG<|rt<|r1 J J ?_
 have e0:((aV (fun (x_:Int)=>cm I x_) (fG I o)):az)=aV (cm I) (fG I o):=rfl
 have bF:=fu (fun (cK:az)=>(.slice a0 cK.length c0:Value)) e0
 exact⟨a0,c0,bF,H5.below,(alB (fun (x_:az)=>bm _ _ _ x_ (.slice a0 x_.length c0) _) e0).mp (H5.cB 0 J)⟩
theorem JV:dq aX 19:=dy Tryz.func19
theorem afT:dq aX 92:=dy Tryz.func92
theorem afU:dq aX 91:=dy Tryz.func91
theorem aaS:dq aX 52:=dy Tryz.func52
theorem afS:dq aX 93:=dy Tryz.func93
theorem aaL:dq aX 86:=dy Tryz.func86
theorem zP:dq aX 46:=dy Tryz.func46
theorem Lt {Ce:Nat} {Im:TypeId} {KK:OA} {Ku:Nat} {wl:az} {Cd:Nat} {Il:TypeId} {KM:OA} {Kw:Nat} {kl:az} (hM:ei M w) (jm:aN kd) (Dp:aN fr) (Bj:aN to) (JL:aN sa) (Dn:aN sb) (afG:cP M w KK Ku wl) (afI:cP M w KM Kw kl) (ac7:w.heap[Ce]? =some (.cells #[sL KK wl Ku] Im (0,0))∧¬M Ce) (ac6:w.heap[Cd]? =some (.cells #[sL KM kl Kw] Il (0,0))∧¬M Cd):Calls aX 93 #[.agg #[U kd,U fr,U to,U sa,U sb],.pointer (some ⟨Ce,0,none⟩),.pointer (some ⟨Cd,0,none⟩)] w (cZ fun v w'=>v=.bool (kI wl kl (kd,fr,to,sa,sb))∧Ext w w'):=by
 refine dK 22 Tryz.func93 J J J hM fun f0 ha H=>?_
 have H0:=cj H afG
 have H1:=cj H0 afI
 have i0:f0 0=.agg #[U kd,U fr,U to,U sa,U sb]:=ha 0 bH
 have H2:=H1.put (it:=ro Ce #[sL KK wl Ku] Im) J<|by rw[bp rfl,bp rfl,dY];exact ac7
 have i1:f0 1=pV Ce 0:=ha 1 bH
 have H3:=H2.put (it:=ro Cd #[sL KM kl Kw] Il) J<|by rw[bp rfl,bp rfl,bp rfl,dY];exact ac6
 have i2:f0 2=pV Cd 0:=ha 2 bH
 refine aH<|k<|bx H3 J i0 ?_
 intro aK w0 dt (H4:HI M w w0 [box aK #[U kd,U fr,U to,U sa,U sb] 92,ro Cd #[sL KM kl Kw] Il,ro Ce #[sL KK wl Ku] Im,iL KM kl Kw,iL KK wl Ku])
 refine aj (v:=.bool false) J J<|aG<|sq<|aH<|bo Bt J J<|bR H4 0 J aQ J J J<|aG<|bk<|sq<|aH<|k<|eql J J J J<|aj (v:=.bool (decide (kd=1))) J J<|z<|nx<|cd (b:=decide (kd=1)) J J (fun b0=>?_)<|fun b0=>?_
 ·
  refine sk<|nx<|nP J J b0<|aH<|k<|lr H4 2 J lA J i1 J<|bo oZ J J<|bR H4 0 J aQ J J J<|k ?_
  have cx:=qg (gi:=wl) (lj:=to) H4.mb (H4.rv 4 J) Bj
  refine ca JV J (ec J<|ec J e0) cx ?_
  rintro _ w1 ⟨rfl,cR⟩
  have H5:=H4.ext cR
  refine k<|kc J J<|aj (v:=.bool (!(wl.any<|fun (z_:Int)=>decide (to=z_)))) J J<|aG<|rt<|bM<|aS<|r1 J J ?_
  exact⟨alB Value.bool (by simp only[kI,fk,b0,BL]),H5.below⟩
 refine rg<|k<|eql J J J J<|aj (v:=.bool (decide (kd=2))) J J<|z<|nx<|cd (b:=decide (kd=2)) J J (fun b1=>?_)<|fun b1=>?_
 ·
  refine aH<|k<|lr H4 2 J lA J i1 J<|bo oZ J J<|bR H4 0 J aQ J J J<|k ?_
  have cx:=qg (gi:=wl) (lj:=to) H4.mb (H4.rv 4 J) Bj
  refine ca JV J (ec J<|ec J e0) cx ?_
  rintro _ w1 ⟨rfl,cR⟩
  have H5:=H4.ext cR
  refine k<|kc J J<|aj (v:=.bool (!(wl.any<|fun (z_:Int)=>decide (to=z_)))) J J<|aG<|rt<|bM<|aS<|r1 J J ?_
  exact⟨alB Value.bool (by simp only[kI,fk,b0,b1,BL]),H5.below⟩
 refine aH<|k<|eql J J J J<|aj (v:=.bool (decide (kd=4))) J J<|z<|nx<|cd (b:=decide (kd=4)) J J (fun b2=>?_)<|fun b2=>?_
 ·
  refine aH<|k<|lr H4 1 J lA J i2 J<|bo uj J J<|bR H4 0 J aQ J J J<|k ?_
  have cx:=qg (gi:=kl) (lj:=sb) H4.mb (H4.rv 3 J) Dn
  refine ca JV J (ec J<|ec J e0) cx ?_
  rintro _ w1 ⟨rfl,cR⟩
  have H5:=H4.ext cR
  refine k<|kc J J<|aj (v:=.bool (!(kl.any<|fun (z_:Int)=>decide (sb=z_)))) J J<|aG<|rt<|bM<|aS<|r1 J J ?_
  exact⟨alB Value.bool (by simp only[kI,fk,b0,b1,b2,BL]),H5.below⟩
 refine sk<|aF<|dM<|aj (v:=.bool false) J J<|aG<|rt<|r1 J J ?_
 exact⟨alB Value.bool (by simp only[kI,fk,b0,b1,b2,BL]),H4.below⟩
theorem EL (hM:ei M w) (hT:mi 0 w) (cX:cP M w av au I) (fM:cP M w ax aw fo) (tN:cP M w cF cE bf) (ie:aN aO) (ob:w.heap[bZ]? =some (.cells #[.slice aC aE aB,sL av I au,sL ax fo aw,sL cF bf cE,.slice dA kQ dz] gO (0,0))∧¬M bZ) (ho:et I) (cT:I.length≤4096) (eT:fo.length=I.length) (ln:∀x∈fo,x<((I.length:Nat):Int)):Calls aX 53 #[.pointer (some ⟨bZ,0,none⟩),U aO] w (cZ fun v w'=>v=.bool (te I fo bf aO)∧Ext w w'):=by
 refine dK 27 Tryz.func53 J J J hM fun f0 ha H=>?_
 have H0:=cj H cX
 have H1:=cj H0 fM
 have H2:=cj H1 tN
 have H3:=H2.put (it:=ro bZ #[.slice aC aE aB,sL av I au,sL ax fo aw,sL cF bf cE,.slice dA kQ dz] gO) J<|by rw[bp rfl,bp rfl,bp rfl,dY];exact ob
 have i0:f0 0=pV bZ 0:=ha 0 bH
 have i1:f0 1=U aO:=ha 1 bH
 refine aH<|aj (v:=.bool false) J J<|aG<|sq<|VZ [.v,.v,.v,.v,.v,.v,.v,.v,.v,.v,.v,.v,.v,.n,.n,.s 13 6,.s 14 12] [fun (N:bT) (v:Value) (w':aI)=>v=pV bZ 0,fun (N:bT) (v:Value) (w':aI)=>v=pV bZ 0,fun (N:bT) (v:Value) (w':aI)=>v=pV bZ 0,fun (N:bT) (v:Value) (w':aI)=>v=.agg #[.slice aC aE aB,sL av I au,sL ax fo aw],fun (N:bT) (v:Value) (w':aI)=>∃(a0:OA) (c0:Nat),v=.agg #[U (I.length:Int),sL a0 (bw I fo) c0]∧RV (MN (MS M [ro bZ #[.slice aC aE aB,sL av I au,sL ax fo aw,sL cF bf cE,.slice dA kQ dz] gO,iL cF bf cE,iL ax fo aw,iL av I au]) N) w' (sL a0 (bw I fo) c0) (bw I fo),fun (N:bT) (v:Value) (w':aI)=>v=U aO,fun (N:bT) (v:Value) (w':aI)=>∃(a1:OA) (c1:Nat),v=sL a1 (dm (I.length:Int) (bw I fo) aO) c1∧RV (MN (MS M [ro bZ #[.slice aC aE aB,sL av I au,sL ax fo aw,sL cF bf cE,.slice dA kQ dz] gO,iL cF bf cE,iL ax fo aw,iL av I au]) N) w' (sL a1 (dm (I.length:Int) (bw I fo) aO) c1) (dm (I.length:Int) (bw I fo) aO),fun (N:bT) (v:Value) (w':aI)=>v=pV bZ 0,fun (N:bT) (v:Value) (w':aI)=>v=pV bZ 0,fun (N:bT) (v:Value) (w':aI)=>v=pV bZ 0,fun (N:bT) (v:Value) (w':aI)=>v=.agg #[.slice aC aE aB,sL av I au,sL ax fo aw],fun (N:bT) (v:Value) (w':aI)=>v=U aO,fun (N:bT) (v:Value) (w':aI)=>∃(a2:OA) (c2:Nat),v=sL a2 (aV (cm I)<|fG I aO) c2∧RV (MN (MS M [ro bZ #[.slice aC aE aB,sL av I au,sL ax fo aw,sL cF bf cE,.slice dA kQ dz] gO,iL cF bf cE,iL ax fo aw,iL av I au]) N) w' (sL a2 (aV (cm I)<|fG I aO) c2) (aV (cm I)<|fG I aO),fun _ _ _=>True,fun _ _ _=>True,fun _ _ _=>True,fun _ _ _=>True] [(#[],0),(#[],0),(#[],0),(#[],0),(#[],0),(#[],0),(#[],0),(#[],0),(#[],0),(#[],0),(#[],0),(#[],0),(#[],0),(#[.slice none 0 0],30),(#[.slice none 0 0],30),(#[],0),(#[],0)] J bu ?_ ?_
 ·
  refine⟨⟨fun _ _ _ _ _ _ h=>h,J,fun f0 w5 N0 kC ly hN0 Jp=>?_⟩,?_⟩
  ·
   refine mv J ((kC 0 J).trans i0) ?_
   exact⟨_,J,Ext.refl _,J⟩
  refine⟨⟨fun _ _ _ _ _ _ h=>h,J,fun f1 w6 N1 rh iJ G1 oW=>?_⟩,?_⟩
  ·
   have A5:=oW 0 J ⟨_,J,J⟩
   have s0:f1 7=pV bZ 0:=A5
   refine nc J s0 ?_
   exact⟨_,J,Ext.refl _,J⟩
  refine⟨⟨fun _ _ _ _ _ _ h=>h,J,fun f2 w7 N2 l4 je hN2 rY=>?_⟩,?_⟩
  ·
   have yC:=rY 1 J ⟨_,J,J⟩
   have s1:f2 8=pV bZ 0:=yC
   refine fa mL J s1 ?_
   exact⟨_,J,Ext.refl _,J⟩
  refine⟨⟨fun _ _ _ _ _ _ h=>h,J,fun f3 w8 N3 qC lh CC lP=>?_⟩,?_⟩
  ·
   have j7:=lP 2 J ⟨_,J,J⟩
   have s2:f3 9=pV bZ 0:=j7
   refine Vf (H3.ext lh) 0 J dn J s2 aJ J ?_
   exact⟨_,J,Ext.refl _,J⟩
  refine⟨⟨by rintro _ _ _ _ _ k_ ⟨a0,c0,e_,fQ⟩;exact⟨a0,c0,e_,la fQ k_⟩,J,fun f4 w9 N4 re jD CB jk=>?_⟩,?_⟩
  ·
   have A4:=jk 3 J ⟨_,J,J⟩
   have s3:f4 10=.agg #[.slice aC aE aB,sL av I au,sL ax fo aw]:=A4
   have nB:=Uy (I:=I) (fo:=fo) (aC:=aC) (aE:=aE) (aB:=aB) (w:=w9) (gK H3.mb jD CB) (j4 (H3.rv 3 J) jD CB) (j4 (H3.rv 2 J) jD CB) (by exact ho) (by exact cT) (by exact eT)<|by exact ln
   refine ca afT J (ec s3 e0) nB ?_
   rintro _ jb ⟨a3,c3,rfl,gv,lk⟩
   exact⟨_,J,gv,⟨a3,c3,J,lk⟩⟩
  refine⟨⟨fun _ _ _ _ _ _ h=>h,J,fun f5 iK N5 ns j0 hN5 j8=>?_⟩,?_⟩
  ·
   refine mv J ((ns 1 J).trans i1) ?_
   exact⟨_,J,Ext.refl _,J⟩
  refine⟨⟨by rintro _ _ _ _ _ k_ ⟨a1,c1,e_,gG⟩;exact⟨a1,c1,e_,la gG k_⟩,J,fun f6 jf N6 rb kb Rh kj=>?_⟩,?_⟩
  ·
   have A3:=kj 4 J ⟨_,J,J⟩
   obtain⟨a0,c0,s4,fQ⟩:=A3
   have A2:=kj 5 J ⟨_,J,J⟩
   have s5:f6 12=U aO:=A2
   have oo:=P6 (mn:=(I.length:Int)) (mr:=(bw I fo)) (o:=aO) (w:=jf) (gK H3.mb kb Rh) (hT.ext (H3.below.trans kb)) aY fQ ie<|by exact zS _ cT
   refine ca afU J (ec s4<|ec s5 e0) oo ?_
   rintro _ ju ⟨a4,c4,rfl,kZ,lM⟩
   exact⟨_,J,kZ,⟨a4,c4,J,(bm.rv lM<|gK H3.mb kb Rh)⟩⟩
  refine⟨⟨fun _ _ _ _ _ _ h=>h,J,fun f7 jK N7 qa qL hN7 ll=>?_⟩,?_⟩
  ·
   refine mv J ((qa 0 J).trans i0) ?_
   exact⟨_,J,Ext.refl _,J⟩
  refine⟨⟨fun _ _ _ _ _ _ h=>h,J,fun f8 lz N8 oa po hN8 jj=>?_⟩,?_⟩
  ·
   have A1:=jj 7 J ⟨_,J,J⟩
   have s6:f8 14=pV bZ 0:=A1
   refine nc J s6 ?_
   exact⟨_,J,Ext.refl _,J⟩
  refine⟨⟨fun _ _ _ _ _ _ h=>h,J,fun f9 mB N9 r6 oG hN9 mS=>?_⟩,?_⟩
  ·
   have A0:=mS 8 J ⟨_,J,J⟩
   have s7:f9 15=pV bZ 0:=A0
   refine fa mL J s7 ?_
   exact⟨_,J,Ext.refl _,J⟩
  refine⟨⟨fun _ _ _ _ _ _ h=>h,J,fun f10 lL N10 mg tc JR iz=>?_⟩,?_⟩
  ·
   have yB:=iz 9 J ⟨_,J,J⟩
   have s8:f10 16=pV bZ 0:=yB
   refine Vf (H3.ext tc) 0 J dn J s8 aJ J ?_
   exact⟨_,J,Ext.refl _,J⟩
  refine⟨⟨fun _ _ _ _ _ _ h=>h,J,fun f11 jX N11 pq vq afO jI=>?_⟩,?_⟩
  ·
   refine mv J ((pq 1 J).trans i1) ?_
   exact⟨_,J,Ext.refl _,J⟩
  refine⟨⟨by rintro _ _ _ _ _ k_ ⟨a2,c2,e_,gl⟩;exact⟨a2,c2,e_,la gl k_⟩,J,fun f12 kJ N12 wb qK OF kg=>?_⟩,?_⟩
  ·
   have Mk:=kg 10 J ⟨_,J,J⟩
   have s9:f12 17=.agg #[.slice aC aE aB,sL av I au,sL ax fo aw]:=Mk
   have zI:=kg 11 J ⟨_,J,J⟩
   have ey:f12 18=U aO:=zI
   have wF:=Gx (I:=I) (o:=aO) (aC:=aC) (aE:=aE) (aB:=aB) (ax:=ax) (cH:=fo.length) (aw:=aw) (w:=kJ) (gK H3.mb qK OF) (j4 (H3.rv 3 J) qK OF) ie (by exact ho)<|by exact cT
   refine ca aaS J (ec s9<|ec ey e0) wF ?_
   rintro _ ow ⟨a5,c5,rfl,vo,ml⟩
   exact⟨_,J,vo,⟨a5,c5,J,(bm.rv ml<|gK H3.mb qK OF)⟩⟩
  refine⟨⟨fun _ _ _ _ _ _ h=>h,J,fun _ _ _=>trivial,fun f13 kv N13 qb HW afN uL=>?_⟩,?_⟩
  ·
   refine MU lA ?_
   exact⟨J,J⟩
  refine⟨⟨fun _ _ _ _ _ _ h=>h,J,fun _ _ _=>trivial,fun f14 nU N14 Bc Ap afM xO=>?_⟩,?_⟩
  ·
   refine MU lA ?_
   exact⟨J,J⟩
  refine⟨⟨fun _ _ _ _ _ _ h=>h,J,J,J,⟨_,J,J⟩,⟨_,J,J⟩,by decide,trivial,by rintro _ _ _ ⟨a1,c1,e_,gG⟩;subst e_;rfl,fun f15 ov N_ bj Ut Ya ew qG oY iC=>?_⟩,?_⟩
  ·
   obtain⟨a1,c1,e_,gG⟩:=iC
   exact LI lA J J ew J qG ((alB (fun v=>v.cells.size) e_).trans rfl) oY<|(alB (fun v=>v.cells.toList.all Value.oneCell') e_).trans rfl
  refine⟨⟨fun _ _ _ _ _ _ h=>h,J,J,J,⟨_,J,J⟩,⟨_,J,J⟩,by decide,trivial,by rintro _ _ _ ⟨a2,c2,e_,gl⟩;subst e_;rfl,fun f16 pL N_ dI Ko aj1 eE uf qE lZ=>?_⟩,?_⟩
  ·
   obtain⟨a2,c2,e_,gl⟩:=lZ
   exact LI lA J J eE J uf ((alB (fun v=>v.cells.size) e_).trans rfl) qE<|(alB (fun v=>v.cells.toList.all Value.oneCell') e_).trans rfl
  exact trivial
 ·
  intro f17 nL I0 Bb ae2 uK T8 yL
  have fc:=(Bb 0 J).trans i0
  obtain⟨a6,c6,fJ,kK⟩:=(uK 6 _ rfl rfl)
  obtain⟨a7,c7,fw,lD⟩:=(uK 12 _ rfl rfl)
  obtain⟨fX,Cz, -,Us,ue,cI⟩:=T8 13 aJ trivial
  have FN:Us=#[sL a6 (dm (I.length:Int) (bw I fo) aO) c6]:=(cI.2.1 15 6 J J).trans (alB Value.cells fJ)
  rw[FN] at ue
  have acQ:=Cz
  obtain⟨gF,Z9, -,Ur,Q',ub⟩:=T8 14 aJ trivial
  have Jl:Ur=#[sL a7 (aV (cm I) (fG I aO)) c7]:=(ub.2.1 16 12 J J).trans (alB Value.cells fw)
  rw[Jl] at Q'
  have acP:=Z9
  have agC:=yL 13 14 aJ aJ aJ trivial trivial
  have H6:HI M w nL [box (I0 13) #[sL a6 (dm (I.length:Int) (bw I fo) aO) c6] 30,box (I0 14) #[sL a7 (aV (cm I) (fG I aO)) c7] 30,ro bZ #[.slice aC aE aB,sL av I au,sL ax fo aw,sL cF bf cE,.slice dA kQ dz] gO,iL cF bf cE,iL ax fo aw,iL av I au]:=H3.lays ae2 [((I0 13),#[sL a6 (dm (I.length:Int) (bw I fo) aO) c6],30),((I0 14),#[sL a7 (aV (cm I)<|fG I aO) c7],30)] (by intro q_ jw;simp only[alQ,amC,am3] at jw;rcases jw with rfl|rfl<;>first|exact⟨acQ,ue⟩|exact⟨acP,Q'⟩)<|by simp only[amD,aod,amr,alQ,amC,am3,ans,aoU,not_or,anP,anZ]<;>omega
  have H7:=H6.put (it:=iL a6 (dm (I.length:Int) (bw I fo) aO) c6) J<|x8 [((I0 13),#[sL a6 (dm (I.length:Int) (bw I fo) aO) c6],30),((I0 14),#[sL a7 (aV (cm I)<|fG I aO) c7],30)] kK<|by intro q_ jw;simp only[alQ,amC,am3] at jw;rcases jw with rfl|rfl<;>first|exact⟨13,by decide,rfl,trivial,rfl⟩|exact⟨14,by decide,rfl,trivial,rfl⟩
  have H8:=H7.put (it:=iL a7 (aV (cm I)<|fG I aO) c7) J<|by rw[bp J];exact(x8 [((I0 13),#[sL a6 (dm (I.length:Int) (bw I fo) aO) c6],30),((I0 14),#[sL a7 (aV (cm I)<|fG I aO) c7],30)] lD<|by intro q_ jw;simp only[alQ,amC,am3] at jw;rcases jw with rfl|rfl<;>first|exact⟨13,by decide,rfl,trivial,rfl⟩|exact⟨14,by decide,rfl,trivial,rfl⟩)
  refine dM<|ak J fc<|k<|nc J J<|bo wz J J<|k<|lr H8 4 J oI J J J<|k<|mf2 J (mfc fX<|mfc gF mf0)<|k ?_
  have y6:=uX (r:=bf) (p:=(fun (x_:aA)=>kI (dm (I.length:Int) (bw I fo) aO) (aV (cm I)<|fG I aO) (x_.1,x_.2.1,x_.2.2.1,x_.2.2.2.1,x_.2.2.2.2))) H8.mb (H8.rv 5 J) ⟨afS,fun w_ v_ x_ ki e_ oC=>by have H_:=H8.ext e_;obtain⟨_,⟨_,_,rfl,⟨rfl,mZ⟩,⟨_,_,rfl,⟨rfl,pP⟩,⟨_,_,rfl,⟨rfl,qM⟩,⟨_,_,rfl,⟨rfl,rz⟩,⟨rfl,tj⟩⟩⟩⟩⟩,rfl⟩:=oC;exact Lt (wl:=(dm (I.length:Int) (bw I fo) aO)) (kl:=(aV (cm I)<|fG I aO)) (M:=fun _=>False) (fun _ h_=>h_.elim) mZ pP qM rz tj ((H_.rv 1 J).lift (Up.less fun _ _ h_=>h_.elim)) ((H_.rv 0 J).lift (Up.less fun _ _ h_=>h_.elim)) ⟨H_.at_ 2 rfl,fun h_=>h_⟩ ⟨H_.at_ 3 rfl,fun h_=>h_⟩⟩
  refine ca aaL J (ec J<|ec J e0) y6 ?_
  rintro _ xX ⟨rfl,ae1⟩
  have H9:=H8.ext ae1
  refine k<|kc J J<|aj (v:=.bool (!(bf.any<|fun (x_:aA)=>kI (dm (I.length:Int) (bw I fo) aO) (aV (cm I)<|fG I aO) (x_.1,x_.2.1,x_.2.2.1,x_.2.2.2.1,x_.2.2.2.2)))) J J<|aG<|rt<|r1 J J ?_
  exact⟨alB Value.bool (show (!(bf.any<|fun (x_:aA)=>kI (dm (I.length:Int) (bw I fo) aO) (aV (cm I)<|fG I aO) (x_.1,x_.2.1,x_.2.2.1,x_.2.2.2.1,x_.2.2.2.2)))=(te I fo bf aO) from rfl),H9.below⟩
theorem Hf (hM:ei M w) (cX:cP M w av au I) (fM:cP M w ax aw fo) (tA:aN n1) (wj:aN n2) (ob:w.heap[bZ]? =some (.cells #[.slice aC aE aB,sL av I au,sL ax fo aw,.slice cF kS cE,.slice dA kQ dz] gO (0,0))∧¬M bZ) (eT:fo.length=I.length):Calls aX 49 #[.pointer (some ⟨bZ,0,none⟩),U n1,U n2] w (cZ fun v w'=>v=.bool (l5 I fo n1 n2)∧Ext w w'):=by
 refine dK 55 Tryz.func49 J J J hM fun f0 ha H=>?_
 have H0:=cj H cX
 have H1:=cj H0 fM
 have H2:=H1.put (it:=ro bZ #[.slice aC aE aB,sL av I au,sL ax fo aw,.slice cF kS cE,.slice dA kQ dz] gO) J<|by rw[bp rfl,bp rfl,dY];exact ob
 have i0:f0 0=pV bZ 0:=ha 0 bH
 have i1:f0 1=U n1:=ha 1 bH
 have i2:f0 2=U n2:=ha 2 bH
 refine aH<|aj (v:=.bool false) J J<|aG<|sq<|BB J bu<|xq J<|kq (fun _ _=>mv J i0 e1)<|zq<|xq J<|kq (fun _ _=>mv J i1 e1)<|zq<|xq J<|kq (fun _ _=>mv J i2 e1)<|zq<|xu (fun v w'=>∃(a0:OA) (c0:Nat),v=sL a0 ([n1,n2]:az) c0∧RV (MS M [ro bZ #[.slice aC aE aB,sL av I au,sL ax fo aw,.slice cF kS cE,.slice dA kQ dz] gO,iL ax fo aw,iL av I au]) w' (sL a0 ([n1,n2]:az) c0) ([n1,n2]:az)) J (by rintro _ _ _ x_ ⟨a0,c0,e_,cL⟩;exact⟨a0,c0,e_,cL.lift (Up.ext x_)⟩) J (fun v_ x_=>?_) ?_
 ·
  have H5:=H2.ext x_
  refine bs (xs:=([n1,n2]:az)) (cells:=#[U n1,U n2]) (e:=3) H5 J (ct J<|ct J eo) (fun _=>bu) ⟨[U n1],[U n2],J,⟨J,tA⟩,⟨[U n2],[],J,⟨J,wj⟩,J⟩⟩ J aJ ?_
  intro g1 w1 cR (H6:HI M w w1 [own w.heap.size 3 (.slice (some ⟨g1,0,none⟩) 2 2) ([n1,n2]:az),ro bZ #[.slice aC aE aB,sL av I au,sL ax fo aw,.slice cF kS cE,.slice dA kQ dz] gO,iL ax fo aw,iL av I au])
  have H7:=H6.freeze 0 J
  exact⟨_,J,cR,⟨(some ⟨g1,0,none⟩),2,J,(gY J<|H7.rv 0 J)⟩⟩
 refine F9 (X:=.bool (!(([n1,n2]:az).any (dV I)))) 0 J J (fun v_ u_ x_ h_=>?_) ?_
 ·
  have H9:=H2.ext x_
  obtain⟨a2,c2,s0,gh⟩:=h_
  have db:=cj H9 gh
  have cc:=sJ (I:=I) (l:=([n1,n2]:az)) db.mb (db.rv 3 J) (db.rv 0 J)<|db.at_ 1 J
  exact ca zP J (ec J<|ec s0 e0) cc fun _ _ h_=>e2 h_
 refine xq J<|kq (fun _ _=>mv (v:=.bool (!(([n1,n2]:az).any (dV I)))) J J e1)<|zq ?_
 rcases bE (!(([n1,n2]:az).any (dV I))) with b0|b0
 ·
  refine xq J<|qy J J J b0<|kq (fun _ _=>mv J i0 e1)<|zq<|xq J<|qy J J J b0<|kq (fun _ _=>nc J J e1)<|zq<|xq J<|qy J J J b0<|kq (fun _ _=>fa mL J J e1)<|zq<|xq J<|qy J J J b0<|kq (fun _ _=>fa kD J J e1)<|zq<|xq J<|qy J J J b0<|kq (fun _ x_=>lr (H2.ext x_) 0 J lA J J J e1)<|zq<|xq J<|qy J J J b0<|kq (fun _ _=>mv J i1 e1)<|zq<|xq J<|qy J J J b0<|hG (H2.rv 1 J) J J J J (by have h_:=sx (I:=I) (fr:=n1) (to:=n2) cG;omega) cY aQ ?_
  intro fz x0 aq cN
  refine zq<|xq J<|qy J J J b0<|fV cN.w aQ J J ?_
  intro fQ
  refine zq<|xq J<|qy J J J b0<|kq (fun _ _=>eql J J J J e1)<|zq<|xq J<|kq (fun _ _=>ba J J J J b0 J e1)<|zq<|xq J<|kq (fun _ _=>mv (v:=.bool (decide (x0=(-1)))) J J e1)<|zq ?_
  rcases bE (decide (x0=(-1))) with b1|b1
  ·
   refine xq J<|qy J J J b1<|kq (fun _ _=>mv J i0 e1)<|zq<|xq J<|qy J J J b1<|kq (fun _ _=>nc J J e1)<|zq<|xq J<|qy J J J b1<|kq (fun _ _=>fa mL J J e1)<|zq<|xq J<|qy J J J b1<|kq (fun _ _=>fa dh J J e1)<|zq<|xq J<|qy J J J b1<|kq (fun _ x_=>lr (H2.ext x_) 0 J eR J J J e1)<|zq<|xq J<|qy J J J b1<|kq (fun _ _=>mv J i2 e1)<|zq<|xq J<|qy J J J b1<|hG (H2.rv 2 J) J J J J (by have h_:=sx (I:=I) (fr:=n1) (to:=n2) cG;omega) fj gB ?_
   intro iG x1 cw eU
   refine zq<|xq J<|qy J J J b1<|kq (fun _ _=>fa oe J J e1)<|zq<|xq J<|qy J J J b1<|tL ((eU).s2).fst.w mC J J<|zq<|xq J<|kq (fun _ _=>ba J J J J b1 J e1)<|zq<|xq J<|kq (fun _ _=>mv (v:=.bool x1.2.2.1) J J e1)<|zq ?_
   rcases bE (x1.2.2.1) with b2|b2
   ·
    refine xq J<|qy J J J b2<|kq (fun _ _=>mv J i0 e1)<|zq<|xq J<|qy J J J b2<|kq (fun _ _=>nc J J e1)<|zq<|xq J<|qy J J J b2<|kq (fun _ _=>fa mL J J e1)<|zq<|xq J<|qy J J J b2<|kq (fun _ _=>fa dh J J e1)<|zq<|xq J<|qy J J J b2<|kq (fun _ x_=>lr (H2.ext x_) 0 J eR J J J e1)<|zq<|xq J<|qy J J J b2<|kq (fun _ _=>mv J i2 e1)<|zq<|xq J<|qy J J J b2<|hG (H2.rv 2 J) J J J J (by have h_:=sx (I:=I) (fr:=n1) (to:=n2) cG;omega) fj gB ?_
    intro kX x_ ki gJ
    obtain rfl:x1=x_:=alD (cw.symm.trans ki)
    refine zq<|xq J<|qy J J J b2<|kq (fun _ _=>fa nv J J e1)<|zq<|xq J<|qy J J J b2<|fV ((gJ).s3).fst.w aQ J J ?_
    intro gG
    refine zq<|xq J<|qy J J J b2<|kq (fun _ _=>mv J i0 e1)<|zq<|xq J<|qy J J J b2<|kq (fun _ _=>nc J J e1)<|zq<|xq J<|qy J J J b2<|kq (fun _ _=>fa mL J J e1)<|zq<|xq J<|qy J J J b2<|kq (fun _ _=>fa dh J J e1)<|zq<|xq J<|qy J J J b2<|kq (fun _ x_=>lr (H2.ext x_) 0 J eR J J J e1)<|zq<|xq J<|qy J J J b2<|kq (fun _ _=>mv J i1 e1)<|zq<|xq J<|qy J J J b2<|hG (H2.rv 2 J) J J J J (by have h_:=sx (I:=I) (fr:=n1) (to:=n2) cG;omega) fj gB ?_
    intro jc x2 dR km
    refine zq<|xq J<|qy J J J b2<|kq (fun _ _=>fa nv J J e1)<|zq<|xq J<|qy J J J b2<|fV ((km).s3).fst.w aQ J J ?_
    intro gl
    refine zq<|xq J<|qy J J J b2<|kq (fun _ _=>eql J J J J e1)<|zq<|xq J<|kq (fun _ _=>ba J J J J b2 J e1)<|zq<|xq J<|kq (fun _ _=>gH (v:=.bool (decide (x1.2.2.2.1=x2.2.2.2.1))) J J e1)<|zq<|zx ?_
    intro w3 f0 eG cI ji
    have da:=H2.ext eG
    have s1:=cI 6 J
    refine nx<|rt<|r1 J J ?_
    rw[s1]
    exact⟨alB Value.bool (by simp only[l5,cm,gU,aq,cw,dR,(fE b0),b1,b2,BL]),da.below⟩
   refine xq J<|qn J J J b2<|zq<|xq J<|qn J J J b2<|zq<|xq J<|qn J J J b2<|zq<|xq J<|qn J J J b2<|zq<|xq J<|qn J J J b2<|zq<|xq J<|qn J J J b2<|zq<|xq J<|qn J J J b2<|zq<|xq J<|qn J J J b2<|zq<|xq J<|qn J J J b2<|zq<|xq J<|qn J J J b2<|zq<|xq J<|qn J J J b2<|zq<|xq J<|qn J J J b2<|zq<|xq J<|qn J J J b2<|zq<|xq J<|qn J J J b2<|zq<|xq J<|qn J J J b2<|zq<|xq J<|qn J J J b2<|zq<|xq J<|qn J J J b2<|zq<|xq J<|qn J J J b2<|zq<|xq J<|qn J J J b2<|zq<|xq J<|kq (fun _ _=>bc J J J J b2 J e1)<|zq<|xq J<|kq (fun _ _=>gH (v:=.bool false) J J e1)<|zq<|zx ?_
   intro w3 f0 eG cI ji
   have da:=H2.ext eG
   have s1:=cI 6 J
   refine nx<|rt<|r1 J J ?_
   rw[s1]
   exact⟨alB Value.bool (by simp only[l5,cm,gU,aq,cw,(fE b0),b1,b2,BL]),da.below⟩
  refine xq J<|qn J J J b1<|zq<|xq J<|qn J J J b1<|zq<|xq J<|qn J J J b1<|zq<|xq J<|qn J J J b1<|zq<|xq J<|qn J J J b1<|zq<|xq J<|qn J J J b1<|zq<|xq J<|qn J J J b1<|zq<|xq J<|qn J J J b1<|zq<|xq J<|qn J J J b1<|zq<|xq J<|kq (fun _ _=>bc J J J J b1 J e1)<|zq<|xq J<|kq (fun _ _=>mv (v:=.bool false) J J e1)<|zq<|xq J<|qn J J J J<|zq<|xq J<|qn J J J J<|zq<|xq J<|qn J J J J<|zq<|xq J<|qn J J J J<|zq<|xq J<|qn J J J J<|zq<|xq J<|qn J J J J<|zq<|xq J<|qn J J J J<|zq<|xq J<|qn J J J J<|zq<|xq J<|qn J J J J<|zq<|xq J<|qn J J J J<|zq<|xq J<|qn J J J J<|zq<|xq J<|qn J J J J<|zq<|xq J<|qn J J J J<|zq<|xq J<|qn J J J J<|zq<|xq J<|qn J J J J<|zq<|xq J<|qn J J J J<|zq<|xq J<|qn J J J J<|zq<|xq J<|qn J J J J<|zq<|xq J<|qn J J J J<|zq<|xq J<|kq (fun _ _=>bc J J J J J J e1)<|zq<|xq J<|kq (fun _ _=>gH (v:=.bool false) J J e1)<|zq<|zx ?_
  intro w3 f0 eG cI ji
  have da:=H2.ext eG
  have s1:=cI 6 J
  refine nx<|rt<|r1 J J ?_
  rw[s1]
  exact⟨alB Value.bool (by simp only[l5,cm,gU,aq,(fE b0),b1,BL]),da.below⟩
 refine xq J<|qn J J J b0<|zq<|xq J<|qn J J J b0<|zq<|xq J<|qn J J J b0<|zq<|xq J<|qn J J J b0<|zq<|xq J<|qn J J J b0<|zq<|xq J<|qn J J J b0<|zq<|xq J<|qn J J J b0<|zq<|xq J<|qn J J J b0<|zq<|xq J<|qn J J J b0<|zq<|xq J<|kq (fun _ _=>bc J J J J b0 J e1)<|zq<|xq J<|kq (fun _ _=>mv (v:=.bool false) J J e1)<|zq<|xq J<|qn J J J J<|zq<|xq J<|qn J J J J<|zq<|xq J<|qn J J J J<|zq<|xq J<|qn J J J J<|zq<|xq J<|qn J J J J<|zq<|xq J<|qn J J J J<|zq<|xq J<|qn J J J J<|zq<|xq J<|qn J J J J<|zq<|xq J<|qn J J J J<|zq<|xq J<|kq (fun _ _=>bc J J J J J J e1)<|zq<|xq J<|kq (fun _ _=>mv (v:=.bool false) J J e1)<|zq<|xq J<|qn J J J J<|zq<|xq J<|qn J J J J<|zq<|xq J<|qn J J J J<|zq<|xq J<|qn J J J J<|zq<|xq J<|qn J J J J<|zq<|xq J<|qn J J J J<|zq<|xq J<|qn J J J J<|zq<|xq J<|qn J J J J<|zq<|xq J<|qn J J J J<|zq<|xq J<|qn J J J J<|zq<|xq J<|qn J J J J<|zq<|xq J<|qn J J J J<|zq<|xq J<|qn J J J J<|zq<|xq J<|qn J J J J<|zq<|xq J<|qn J J J J<|zq<|xq J<|qn J J J J<|zq<|xq J<|qn J J J J<|zq<|xq J<|qn J J J J<|zq<|xq J<|qn J J J J<|zq<|xq J<|kq (fun _ _=>bc J J J J J J e1)<|zq<|xq J<|kq (fun _ _=>gH (v:=.bool false) J J e1)<|zq<|zx ?_
 intro w3 f0 eG cI ji
 have da:=H2.ext eG
 have s1:=cI 6 J
 refine nx<|rt<|r1 J J ?_
 rw[s1]
 exact⟨alB Value.bool (by simp only[l5,cm,gU,(fF b0),BL]),da.below⟩
end Go.Proofs.YtefcbihikknlkaaGreatDoor
