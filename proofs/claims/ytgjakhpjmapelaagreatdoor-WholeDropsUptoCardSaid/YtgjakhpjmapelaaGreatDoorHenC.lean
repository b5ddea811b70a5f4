/- PRINTED by my own tool (wip/tool/gen.py): contracts of Go functions of this seat, each with its proof. -/
import Derived.Test.YtgjakhpjmapelaaGreatDoorPwnB
import Derived.Test.YtgjakhpjmapelaaGreatDoorPwnC
import Derived.Test.YtgjakhpjmapelaaGreatDoorHenB
import Derived.Test.YtgjakhpjmapelaaGreatDoorHenA
import Derived.Test.YtgjakhpjmapelaaGreatDoorPwnA
import Derived.Test.YtgjakhpjmapelaaGreatDoorPwnD
set_option linter.unusedVariables false
set_option linter.unusedSimpArgs false
namespace Go.Proofs.YtgjakhpjmapelaaGreatDoor
open Go.Ew Go.RowKit
set_option maxRecDepth 100000
set_option maxHeartbeats 1600000
attribute [local irreducible] WL WC SO PW PX PZ WE Code.wp wpList rY cg
attribute [local irreducible] ka xy jr fg eb Ak C8 KP words d_ cV jE fC vC
variable {M:Nat→Prop} {w w_:World}
variable {r:List Go.Ew.Item} {cW aF aD ax az ew bw cY bH bz dJ eE dp jB rn eU:Nat} {aE ay aA ey cZ bA dR dq iH:OA} {I:List aI} {U:List Int} {sp:List cL} {mp:KV} {pn mn o ft fy gE mI mH nj cn lv kd fw:Int} {pr mr cr:List (List bY)} {mq:List ((Int×Int)×Bool)} {sw:List (Int×(List (List bY)))} {l4:TypeId}
theorem QQ:cu aK 106:=⟨_,_,Tryz.func106,rfl,aC⟩
theorem QP:cu aK 122:=⟨_,_,Tryz.func122,rfl,aC⟩
theorem Ka:cu aK 120:=⟨_,_,Tryz.func120,rfl,aC⟩
theorem IN (qG:aM pn) (fY:aM mn) (tO:aM o) (hT:fP 0 w) (ho:gX I) (du:I.length≤64) (eu:U.length=I.length) (fG:∀x∈U,x<((I.length:Nat):Int)) (BJ:mn=((I.length:Nat):Int)) (BI:mr=cp I U) (nP:0≤o∧o<((I.length:Nat):Int)) (I_:pn=((I.length:Nat):Int)) (tW:bF pn pr=true) (HP:sp.length≤1000000000000) (H:HI M w w_ ([box cW #[.slice aE aF aD,R ay I ax,R aA U az,R ey sp ew,.map (some bw),C pn,R cZ pr cY,.map (some bH)] 142,iL ay I ax,iL aA U az,oL w 175 ey sp ew,bX bw mp,iL cZ pr cY,bS bH mq,iL bA mr bz]++r)):Calls aK 83 #[pV cW 0,.agg #[C mn,R bA mr bz],C o] w_ (cg fun v w'=>∃(sR:List cL) (Gg:KV) (Cm:List (List bY)) (nV:OA) (nU:Nat) (yS:OA) (yO:Nat),v=.tuple #[]∧HI M w w' ([box cW #[.slice aE aF aD,R ay I ax,R aA U az,R nV sR nU,.map (some bw),C pn,R yS Cm yO,.map (some bH)] 142,iL ay I ax,iL aA U az,oL w 175 nV sR nU,bX bw Gg,iL yS Cm yO,bS bH mq,iL bA mr bz]++r)∧sR.length≤sp.length+402000000000∧bF pn Cm=true):=by
 refine enter 93 Tryz.func83 J J J fun f0 ha=>?_
 have iU:=bf<|H.rv 1 J
 have kE:=bf<|H.rv 2 J
 have DH:=j'<|H.at_ 3 J
 have DI:=bf<|H.rv 5 J
 have np:=bf<|H.rv 7 J
 have i0:f0 0=pV cW 0:=ha 0 bh
 have i1:f0 1=.agg #[C mn,R bA mr bz]:=ha 1 bh
 have i2:f0 2=C o:=ha 2 bh
 refine aB<|k<|bx H J i1 ?_
 let J1:=box cW #[.slice aE aF aD,R ay I ax,R aA U az,R ey sp ew,.map (some bw),C pn,R cZ pr cY,.map (some bH)] 142
 let J2:=iL ay I ax
 let J3:=iL aA U az
 let J4:=oL w 175 ey sp ew
 let J5:=bX bw mp
 let J6:=iL cZ pr cY
 let J7:=iL bA mr bz
 let ba:=[J6,bS bH mq,J7]
 intro aX w0 bT (H0:HI M w w0 ((box aX #[C mn,R bA mr bz] 26::J1::J2::J3::J4::J5::ba)++r))
 let J0:=box aX #[C mn,R bA mr bz] 26
 refine av<|sq<|mg [.r,.r,.r,.r,.r,.r,.r,.r,.r,.s,.s,.s,.n,.e,.s,.s,.s] (fun _=>True) J aC (fun _ _=>trivial)<|yq J J<|kq (fun _ _=>mv J i0 e1)<|bM<|kq (fun _ _=>nc J J e1)<|bM<|kq (fun _ _=>fa HW J J e1)<|bM<|kq (fun _ x_=>cz (H0.ext x_) 1 J dN J J aw J e1)<|bM<|kq (fun _ x_=>cz (H0.ext x_) 0 J bm J J aw J e1)<|bM<|kq (fun _ _=>mv J i2 e1)<|zq<|yu J (fun N v w'=>∃(o0:List dX) (o1:Int) (a0:OA) (c0:Nat) (a1:OA) (c1:Nat),v=.tuple #[.agg #[C ((I.length:Nat):Int),R a0 (cU I U o) c0],R a1 o0 c1,C o1,C 0]∧o0.length≤2000000000∧aM o1∧ot I.length o0∧RV (MN H0.fV N) w' (R a0 (cU I U o) c0) (cU I U o)∧RV (MN H0.fV N) w' (R a1 o0 c1) o0) J ⟨by rintro _ _ _ _ x_ ⟨o0,o1,a0,c0,a1,c1,e_,q0,q1,q2,dY,fu⟩;exact⟨o0,o1,a0,c0,a1,c1,e_,q0,q1,q2,dY.lift (Up.ext x_),fu.lift (Up.ext x_)⟩,by rintro _ _ _ _ _ k_ ⟨o0,o1,a0,c0,a1,c1,e_,q0,q1,q2,dY,fu⟩;exact⟨o0,o1,a0,c0,a1,c1,e_,q0,q1,q2,gV dY k_,gV fu k_⟩⟩ J (fun v_ _ x_ n_=>have cS:=HB (I:=I) (U:=U) (mn:=mn) (mr:=mr) (o:=o) (aE:=aE) (aF:=aF) (aD:=aD) (w:=v_) (kC H0.mb x_ n_) (hT.ext (H0.below.trans x_)) (kc (H0.rv 2 J) x_ n_) (kc (H0.rv 3 J) x_ n_) fY (kc (H0.rv 8 J) x_ n_) tO (by exact ho) aq (by exact eu) (by exact fG) aq aq aq;ca QQ rfl (ec J<|ec J<|ec J e0) cS (fun _ w2 ⟨o2,o3,a2,c2,a3,c3,e_,eR,je,jT,q3,q4,q5⟩=>⟨_,J,eR,⟨o2,o3,a2,c2,a3,c3,e_,q3,q4,q5,je,jT⟩⟩))<|lF J (fun N v w'=>∃(o4:List dX) (o5:Int) (a4:OA) (c4:Nat) (a5:OA) (c5:Nat),v=.tuple #[.agg #[C ((I.length:Nat):Int),R a4 (cU I U o) c4],R a5 o4 c5,C o5,C 0]∧o4.length≤2000000000∧aM o5∧ot I.length o4∧RV (MN H0.fV N) w' (R a4 (cU I U o) c4) (cU I U o)∧RV (MN H0.fV N) w' (R a5 o4 c5) o4) 0 J J ⟨by rintro _ _ _ _ x_ ⟨o4,o5,a4,c4,a5,c5,e_,q6,q7,q8,jd,lq⟩;exact⟨o4,o5,a4,c4,a5,c5,e_,q6,q7,q8,jd.lift (Up.ext x_),lq.lift (Up.ext x_)⟩,by rintro _ _ _ _ _ k_ ⟨o4,o5,a4,c4,a5,c5,e_,q6,q7,q8,jd,lq⟩;exact⟨o4,o5,a4,c4,a5,c5,e_,q6,q7,q8,gV jd k_,gV lq k_⟩⟩ J (fun _ _ _ _ _ h_=>let ⟨o6,o7,a6,c6,a7,c7,s0,q9,uL,xa,oC,pw⟩:=h_;mv rfl s0 ⟨_,J,Ext.refl _,⟨o6,o7,a6,c6,a7,c7,J,q9,uL,xa,oC,pw⟩⟩)<|lF J (fun N v w'=>∃(a8:OA) (c8:Nat),v=.agg #[C ((I.length:Nat):Int),R a8 (cU I U o) c8]∧RV (MN H0.fV N) w' (R a8 (cU I U o) c8) (cU I U o)) 0 J J kO J (fun _ _ _ _ _ h_=>let ⟨kf,eO,i',iZ,l3,lX,s1,Cl,Ck,ya,mR,pT⟩:=h_;xt rfl s1 rfl ⟨_,J,Ext.refl _,⟨i',iZ,J,mR⟩⟩)<|lF J (fun N v w'=>∃(jM:List dX) (jP:OA) (jO:Nat),v=R jP jM jO∧jM.length≤2000000000∧ot I.length jM∧RV (MN H0.fV N) w' (R jP jM jO) jM) 1 J J ⟨by rintro _ _ _ _ x_ ⟨jM,jP,jO,e_,wZ,wY,oD⟩;exact⟨jM,jP,jO,e_,wZ,wY,oD.lift (Up.ext x_)⟩,by rintro _ _ _ _ _ k_ ⟨jM,jP,jO,e_,wZ,wY,oD⟩;exact⟨jM,jP,jO,e_,wZ,wY,gV oD k_⟩⟩ J (fun _ _ _ _ _ h_=>let ⟨Cy,Ee,la,k0,tz,tw,s2,D',q22,Lg,wW,AO⟩:=h_;xt rfl s2 rfl ⟨_,J,Ext.refl _,⟨Cy,tz,tw,J,D',Lg,AO⟩⟩)<|lF J (fun _ v _=>∃(Cx:Int),v=C Cx∧aM Cx) 2 J J mE J (fun _ _ _ _ _ h_=>let ⟨Su,IX,YX,YR,Uy,T',s3,q27,R',q29,abk,abj⟩:=h_;xt rfl s3 rfl ⟨_,J,Ext.refl _,⟨IX,J,R'⟩⟩)<|Rj J (X:=C 0) 3 J J (fun _ _ _ _ _ h_=>let ⟨Ss,Oq,a22,c22,a23,c23,s4,q33,q34,q35,abi,abh⟩:=h_;xt rfl s4 rfl e1)<|yn (z:=#[C 0,.slice none 0 0]) J J (fun _=>Pr bm)<|ye<|lF J (fun N v w'=>∃(mG:List dX) (a24:OA) (yN:Nat),v=R a24 mG yN∧mG.length≤2000000000∧ot I.length mG∧RV (MN H0.fV N) w' (R a24 mG yN) mG) 2 J J ⟨by rintro _ _ _ _ x_ ⟨mG,a24,yN,e_,Cj,Ci,wV⟩;exact⟨mG,a24,yN,e_,Cj,Ci,wV.lift (Up.ext x_)⟩,by rintro _ _ _ _ _ k_ ⟨mG,a24,yN,e_,Cj,Ci,wV⟩;exact⟨mG,a24,yN,e_,Cj,Ci,gV wV k_⟩⟩ J (fun _ _ _ _ _ h_=>let ⟨Lq,a25,EC,s5,R_,R9,Lc⟩:=h_;jG rfl s5 ⟨_,J,Ext.refl _,⟨Lq,a25,EC,J,R_,R9,Lc⟩⟩)<|lF J (fun _ v _=>∃(si:Int),v=C si∧aM si) 2 J J mE J (fun _ _ _ _ _ h_=>let ⟨tF,s6,R8⟩:=h_;jG rfl s6 ⟨_,J,Ext.refl _,⟨tF,J,R8⟩⟩)<|yq J J<|kq (fun _ _=>jG (v:=C 0) J J e1)<|zq<|yz ?_
 intro w3 f0 _ fH _ _ cB iN
 obtain⟨bD,s7,CS,sy,BH⟩:=iN 2 _ _ rfl
 have pD:=Pg (z:=#[C 0,.slice none 0 0]) (T:=26) CS sy BH<|Ph
 let J8:=box bD #[C 0,.slice none 0 0] 26
 have H8:HI M w w3 ((J8::J0::J1::J2::J3::J4::J5::ba)++r):=H0.DK fH pD (Ow Ov Ox)
 have s8:=(cB 0 J).trans i0
 obtain⟨o28,a26,G',s9,q42,q43,Lb⟩:=iN 1 _ _ rfl
 let J9:=iL a26 o28 G'
 have H9:=H8.put (it:=J9) J<|rW Lb pD
 obtain⟨Ar,An,eo,U0⟩:=iN 5 _ _ rfl
 let dO:=iL Ar (cU I U o) An
 have db:=H9.put (it:=dO) J<|Zt J<|rW U0 pD
 refine j5<|bt db 2 J bm J J s7 eo J J J ?_
 let eC:=box bD #[C ((I.length:Nat):Int),R Ar (cU I U o) An] 26
 intro w4 (dz:HI M w w4 ([dO,J9,eC,J0,J1,J2,J3,J4,J5,J6,bS bH mq,J7]++r))
 refine kz<|nx<|bk ?_
 have cM:=dz.put (it:=J9) J<|dz.rv 1 J
 have dt:=cM.put (it:=J6) J<|cM.rv 10 J
 refine lp (fun m f w'=>∃(gb:List dX) (jj:List cL) (jk:KV) (cG:Int) (m_:List (List bY)) (a28:OA) (re:Nat) (oU:OA) (oS:Nat) (j1:OA) (jZ:Nat),m=gb.length∧f 0=pV cW 0∧f 7=R a28 gb re∧HI M w w' ([iL j1 m_ jZ,iL a28 gb re,dO,J9,box bD #[C ((I.length:Nat):Int),R Ar (cU I U o) An] 26,J0,box cW #[.slice aE aF aD,R ay I ax,R aA U az,R oU jj oS,.map (some bw),C cG,R j1 m_ jZ,.map (some bH)] 142,J2,J3,oL w 175 oU jj oS,bX bw jk,J6,bS bH mq,J7]++r)∧(ot I.length gb)∧(jj.length+201*gb.length≤sp.length+201*o28.length)∧(cG=pn)∧(bF cG m_=true)) _ ⟨o28,sp,mp,pn,pr,a26,G',ey,ew,cZ,cY,J,s8,s9,dt,aq,aq,aq,aq⟩ ?_
 rintro _ f1 w5 ⟨gb,jj,jk,cG,m_,a28,re,oU,oS,j1,jZ,rfl,fb,fM,dM,ui,HQ,CO,tJ⟩
 refine sq<|aB<|ak J fM<|k<|dP J J ej<|k<|gtr J J J J<|z<|nx<|cd (b:=decide (0<(gb.length:Int))) J J (fun b0=>?_)<|fun b0=>?_
 ·
  have p0:=dT b0
  refine sk<|nx<|bk<|aB<|au (v:=C 0) J J<|bp<|ak J fb<|k<|nc J J<|aS qV J J<|k<|cz dM 6 J bm J J aw J<|k ?_
  have fS:=wo (mn:=cG) (mr:=m_) dM.mb aT (dM.rv 0 J)<|by exact tJ
  refine ca QJ J (ec J e0) fS ?_
  rintro _ w6 ⟨a31,Jv,rfl,ja,La⟩
  have dI:=dM.eL La
  let fQ:=oL w 144 a31 (fc cG m_) Jv
  let fz:=iL j1 m_ jZ
  let il:=iL a28 gb re
  let nX:=box cW #[.slice aE aF aD,R ay I ax,R aA U az,R oU jj oS,.map (some bw),C cG,R j1 m_ jZ,.map (some bH)] 142
  let lB:=oL w 175 oU jj oS
  let qQ:=bX bw jk
  refine k<|al dI bm ?_
  let bZ:=dO::J9::eC::J0::nX::J2::J3::lB::qQ::ba
  intro fe w7 ji (dV:HI M w w7 ((box fe #[C 0,.slice none 0 0] 26::fQ::fz::il::bZ)++r))
  refine k<|bt dV 0 J bm J J J J J J J ?_
  let jv:=box fe #[C cG,R a31 (fc cG m_) Jv] 26
  let dE:=jv::fQ::fz::il::bZ
  intro w8 (dG:HI M w w8 (dE++r))
  refine av<|sq<|bk ?_
  let iO:=J0::nX::J2::J3::lB::qQ::ba
  refine lp (fun m f w'=>∃(k_:Nat),m=gb.length-k_∧f 0=pV cW 0∧f 7=R a28 gb re∧f 10=C (k_:Int)∧f 11=pV fe 0∧HI M w w' ((jv::fQ::fz::il::dO::J9::box bD #[C ((I.length:Nat):Int),R Ar (cU I U o) An] 26::iO)++r)∧(k_≤gb.length)) _ ⟨0,J,fb,fM,(bJ J),J,dG,aq⟩ ?_
  rintro _ f2 w9 ⟨k_,rfl,fL,gB,gT,ky,eS,pB⟩
  refine sq<|sq<|BT J aC<|kq (fun _ _=>mv J gT e1)<|kq (fun _ _=>mv J gB e1)<|kq (fun _ _=>dP J J ej e1)<|kq (fun _ _=>lss J J J J e1)<|kq (fun _ _=>mv (v:=.bool (decide ((k_:Int)<(gb.length:Int)))) J J e1) ?_
  rcases bE (decide ((k_:Int)<(gb.length:Int))) with b1|b1
  ·
   have p1:=dT b1
   refine qy J J J b1<|kq (fun _ x_=>cz (eS.ext x_) 0 J bm J ky aw J e1)<|qy J J J b1<|kq (fun _ _=>mv J gB e1)<|qy J J J b1<|kq (fun _ _=>mv J gT e1)<|qy J J J b1<|ub (eS.rv 3 J) J J J J aq ej cI ?_
   intro iC x0 aP ct
   refine qy J J J b1<|kq (fun _ _=>fa kK J J e1)<|qy J J J b1<|pc (ct).fst.w aV J J ?_
   intro E2
   refine qy J J J b1<|kq (fun _ _=>mv J gB e1)<|qy J J J b1<|kq (fun _ _=>mv J gT e1)<|qy J J J b1<|ub (eS.rv 3 J) J J J J aq ej cI ?_
   intro rh x_ th gL
   obtain rfl:x0=x_:=anm (aP.symm.trans th)
   refine qy J J J b1<|kq (fun _ _=>fa sA J J e1)<|qy J J J b1<|pc (gL).s2.w aV J J ?_
   intro E1
   refine qy J J J b1<|kq (v:=.bool (eF cG (fc cG m_) x0.1 x0.2.2)) (fun v_ x_=>?_) ?_
   ·
    have ff:=(eS.ext x_).freeze 1 rfl
    have cc:=ud (mn:=cG) (mr:=(fc cG m_)) (i:=x0.1) (j:=x0.2.2) ff.mb aT (ff.rv 1 J) E2 E1 (by exact(bO<|oP tJ).1) (by exact(bO<|oP tJ).2.1) aq
    exact ca Fw J (ec J<|ec J<|ec J e0) cc fun _ _ h_=>e2 h_
   refine kq (fun _ _=>aR J J J J b1 J e1)<|kq (fun _ _=>mv (v:=.bool (eF cG (fc cG m_) x0.1 x0.2.2)) J J e1) ?_
   rcases bE (eF cG (fc cG m_) x0.1 x0.2.2) with b2|b2
   ·
    refine qy J J J b2<|kq (fun _ x_=>cz (eS.ext x_) 0 J bm J ky aw J e1)<|qy J J J b2<|kq (fun _ _=>mv J gB e1)<|qy J J J b2<|kq (fun _ _=>mv J gT e1)<|qy J J J b2<|ub (eS.rv 3 J) J J J J aq ej cI ?_
    intro pK x_ th kR
    obtain rfl:x0=x_:=anm (aP.symm.trans th)
    refine qy J J J b2<|kq (fun _ _=>fa kK J J e1)<|qy J J J b2<|pc (kR).fst.w aV J J ?_
    intro AN
    refine qy J J J b2<|kq (fun _ _=>mv J gB e1)<|qy J J J b2<|kq (fun _ _=>mv J gT e1)<|qy J J J b2<|ub (eS.rv 3 J) J J J J aq ej cI ?_
    intro vn x_ th u5
    obtain rfl:x0=x_:=anm (aP.symm.trans th)
    refine qy J J J b2<|kq (fun _ _=>fa mM J J e1)<|qy J J J b2<|pc ((u5).s1).fst.w aV J J ?_
    intro EZ
    refine qy J J J b2<|kq (v:=.bool (eF cG (fc cG m_) x0.1 x0.2.1)) (fun v_ x_=>?_) ?_
    ·
     have iI:=(eS.ext x_).freeze 1 rfl
     have cc:=ud (mn:=cG) (mr:=(fc cG m_)) (i:=x0.1) (j:=x0.2.1) iI.mb aT (iI.rv 1 J) AN EZ (by exact(bO<|oP tJ).1) (by exact(bO<|oP tJ).2.1) aq
     exact ca Fw J (ec J<|ec J<|ec J e0) cc fun _ _ h_=>e2 h_
    refine qy J J J b2<|kq (fun _ _=>jI J J e1)<|kq (fun _ _=>aR J J J J b2 J e1)<|zq ?_
    intro dL kb
    have kU:=eS.ext kb
    refine nx<|cd (b:=!(eF cG (fc cG m_) x0.1 x0.2.1)) J J (fun b3=>?_)<|fun b3=>?_
    ·
     refine sk<|nx<|bk<|rg<|ak J gT<|k<|add J J J J aT<|au (v:=C ((k_:Int)+1)) J J<|z<|aJ<|bB _ ?_ ⟨(k_+1),J,fL,gB,(bJ J),ky,kU,aq⟩
     omega
    refine ex<|aW<|bc<|bg<|nx<|sq<|aB<|ak J gT<|k<|eql J J J J<|z<|nx<|cd (b:=decide ((k_:Int)=0)) J J (fun b4=>?_)<|fun b4=>?_
    ·
     have p4:=dT b4
     refine aB<|ak J gB<|k<|N3 (kU.rv 3 J) J J J J aq ej cI ?_
     intro a32 oR AM
     let oW:=iL a32 (gb.drop (1:Int).toNat) oR
     have iD:=kU.put (it:=oW) J AM
     refine au (v:=R a32 (gb.drop (1:Int).toNat) oR) J J<|av<|ex<|aW<|bg ?_
     have kT:=iD.put (it:=fz) J<|iD.rv 3 J
     have j7:=kT.put (it:=oW) J<|kT.rv 1 J
     have kl:=j7.put (it:=J2) J<|j7.rv 12 J
     have j6:=kl.put (it:=J3) J<|kl.rv 14 J
     have vy:HI M w dL ((J3::J2::oW::fz::oW::dE)++r):=j6
     have mi:HI M w dL ((fz::oW::bZ)++r):=HI.aR (l:=(J3::J2::oW::fz::oW::dE)) (l':=(fz::oW::bZ)) (t:=r) vy [3,2,9,10,11,12,13,1,0,16,17,18,19,20] aw rfl rfl
     refine bB _ ?_ ⟨(gb.drop (1:Int).toNat),jj,jk,cG,m_,a32,oR,oU,oS,j1,jZ,J,fL,J,mi,(by intro e_ h_;exact ui e_ (ao1 h_)),(by simp only[anI];omega),bq,bq⟩
     first|(simp only[anI];omega)|omega
    have p4:=dF b4
    refine sk<|nx<|sq<|aB<|ak J gB<|ak J gT<|k<|K1 (kU.rv 3 J) J J J J aq ej cI ?_
    intro a32 oR AM
    let qh:=iL a32 (gb.take (k_:Int).toNat) oR
    have iD:=kU.put (it:=qh) J AM
    refine k<|dP J J ej<|ak (v:=C 0) J J<|av<|bk<|lp (fun m f w'=>∃(q_:Nat) (jc:List cL) (iT:KV) (a33:OA) (lR:Nat),m=(gb.take (k_:Int).toNat).length-q_∧f 0=pV cW 0∧f 7=R a28 gb re∧f 10=C (k_:Int)∧f 75=R a32 (gb.take (k_:Int).toNat) oR∧f 76=C ((gb.take (k_:Int).toNat).length:Int)∧f 77=C (q_:Int)∧HI M w w' ([qh,jv,fQ,fz,il,dO,J9,box bD #[C ((I.length:Nat):Int),R Ar (cU I U o) An] 26,J0,box cW #[.slice aE aF aD,R ay I ax,R aA U az,R a33 jc lR,.map (some bw),C cG,R j1 m_ jZ,.map (some bH)] 142,J2,J3,oL w 175 a33 jc lR,bX bw iT,J6,bS bH mq,J7]++r)∧(q_≤(gb.take (k_:Int).toNat).length)∧(jc.length≤jj.length+201*q_)) _ ⟨0,jj,jk,oU,oS,J,fL,gB,gT,J,J,(bJ J),iD,aq,aq⟩ ?_
    rintro _ f3 ef ⟨q_,jc,iT,a33,lR,rfl,ln,mQ,mP,nM,pv,rr,kT,so,acu⟩
    refine sq ?_
    have acC:((gb.take (k_:Int).toNat)).length≤gb.length:=by rw[gY];exact aqt _ _
    refine rg<|k<|lss J J rr pv<|av<|sq<|cd (b:=decide ((q_:Int)<((gb.take (k_:Int).toNat).length:Int))) J J (fun b5=>?_)<|fun b5=>?_
    ·
     have p5:=dT b5
     refine sk<|nx<|sq<|bk<|aB<|k<|ia (kT.rv 0 J) J J nM rr aq ej cI ?_
     intro vm x1 cP xD
     refine k<|nt xD.w cI J J ?_
     intro v0 K_
     obtain⟨_,⟨_,_,rfl,⟨rfl,K9⟩,⟨_,_,rfl,⟨rfl,ahL⟩,⟨rfl,ahK⟩⟩⟩,rfl⟩:=K_
     refine k<|al kT cI ?_
     let nW:=box cW #[.slice aE aF aD,R ay I ax,R aA U az,R a33 jc lR,.map (some bw),C cG,R j1 m_ jZ,.map (some bH)] 142
     let oV:=oL w 175 a33 jc lR
     let fk:=qh::jv::fQ::fz::il::dO::J9::eC::J0::nW::J2::J3::oV::bX bw iT::ba
     intro gM fh ma (oq:HI M w fh ((box gM #[C 0,C 0,C 0] 122::fk)++r))
     refine k<|bt oq 0 J cI J J J J J J J ?_
     let vv:=box gM #[C x1.1,C x1.2.1,C x1.2.2] 122
     intro iz (j7:HI M w iz ((vv::fk)++r))
     refine av<|rg<|ak J ln<|k<|cz j7 0 J cI J J aw J<|k ?_
     let kJ:=[fz,bS bH mq,vv,qh,jv,fQ,il,dO,J9,eC,J0,J6,J7]
     have qR:HI M w iz ([nW,J2,J3,oV,bX bw iT,fz,bS bH mq]++([vv,qh,jv,fQ,il,dO,J9,eC,J0,J6,J7]++r)):=HI.aR (l:=(vv::fk)) (l':=(nW::J2::J3::oV::bX bw iT::kJ)) (t:=r) j7 [10,11,12,13,14,4,16,0,1,2,3,5,6,7,8,9,15,17] aw rfl rfl
     have eX:=AT (cW:=cW) (aE:=aE) (aF:=aF) (aD:=aD) (ay:=ay) (ax:=ax) (I:=I) (aA:=aA) (az:=az) (U:=U) (ey:=a33) (ew:=lR) (sp:=jc) (bw:=bw) (mp:=iT) (pn:=cG) (cZ:=j1) (cY:=jZ) (pr:=m_) (bH:=bH) (mq:=mq) (ft:=x1.1) (fy:=x1.2.1) (gE:=x1.2.2) (w:=w) (w_:=iz) (r:=([vv,qh,jv,fQ,il,dO,J9,eC,J0,J6,J7]++r)) (M:=M) aT K9 ahL ahK hT aq aq (by exact eu) aq (by exact tJ) qR
     refine ca QP J (ec J<|ec J e0) eX ?_
     rintro _ jw ⟨qx,IW,sH,sD,rfl,kl,R7⟩
     let tS:=box cW #[.slice aE aF aD,R ay I ax,R aA U az,R sH qx sD,.map (some bw),C cG,R j1 m_ jZ,.map (some bH)] 142
     let BV:=oL w 175 sH qx sD
     let tR:=bX bw IW
     refine z<|aJ<|nx<|rg<|k<|add J J rr J aT<|ak (v:=C ((q_:Int)+1)) J J<|z ?_
     have j6:=kl.put (it:=fz) J<|kl.rv 5 J
     have mi:=j6.put (it:=J2) J<|j6.rv 2 J
     have qi:=mi.put (it:=J3) J<|mi.rv 4 J
     have vw:HI M w jw ((J3::J2::fz::tS::J2::J3::BV::tR::kJ)++r):=qi
     let rJ:=qh::jv::fQ::fz::il::dO::J9::eC::J0::tS::J2::J3::BV::tR::ba
     have oo:HI M w jw (rJ++r):=HI.aR (l:=(J3::J2::fz::tS::J2::J3::BV::tR::kJ)) (l':=rJ) (t:=r) vw [11,12,13,2,14,15,16,17,18,3,1,0,6,7,19,9,20] aw rfl rfl
     refine bB _ ?_ ⟨(q_+1),qx,IW,sH,sD,J,ln,mQ,mP,nM,pv,(bJ J),oo,aq,aq⟩
     omega
    have p5:=dF b5
    refine ex<|aW<|bc<|bg<|cO<|ak J ln<|ak J mQ<|ak J mP<|k<|K1 (kT.rv 4 J) J J J J aq ej cI ?_
    intro sH sD K_
    let yW:=iL sH (gb.take (k_:Int).toNat) sD
    have oq:=kT.put (it:=yW) J K_
    let vu:=box cW #[.slice aE aF aD,R ay I ax,R aA U az,R a33 jc lR,.map (some bw),C cG,R j1 m_ jZ,.map (some bH)] 142
    let xU:=oL w 175 a33 jc lR
    let xT:=bX bw iT
    let Dj:=yW::qh::jv::fQ::fz::il::dO::J9::eC::J0::vu::J2::J3::xU::xT::ba
    have j7:HI M w ef (Dj++r):=oq
    refine k ?_
    let Hg:=[bS bH mq,yW,qh,jv,fQ,il,dO,J9,eC,J0,J6,J7]
    have qR:HI M w ef ([vu,J2,J3,xU,xT,fz,bS bH mq,yW]++([qh,jv,fQ,il,dO,J9,eC,J0,J6,J7]++r)):=HI.aR (l:=Dj) (l':=(vu::J2::J3::xU::xT::fz::Hg)) (t:=r) j7 [10,11,12,13,14,4,16,0,1,2,3,5,6,7,8,9,15,17] aw rfl rfl
    have eX:=yc (cW:=cW) (aE:=aE) (aF:=aF) (aD:=aD) (ay:=ay) (ax:=ax) (I:=I) (aA:=aA) (az:=az) (U:=U) (ey:=a33) (ew:=lR) (sp:=jc) (bw:=bw) (mp:=iT) (pn:=cG) (cZ:=j1) (cY:=jZ) (pr:=m_) (bH:=bH) (mq:=mq) (zt:=sH) (zm:=sD) (es:=(gb.take (k_:Int).toNat)) (w:=w) (w_:=ef) (r:=([qh,jv,fQ,il,dO,J9,eC,J0,J6,J7]++r)) (M:=M) aT (by exact tJ) (by intro x_ h_;rw[CO,I_];exact ui x_ (aoB h_)) qR
    refine ca Ka J (ec J<|ec J e0) eX ?_
    rintro _ fh ⟨qx,a35,Dc,rfl,kl,R7⟩
    let EM:=box cW #[.slice aE aF aD,R ay I ax,R aA U az,R a33 jc lR,.map (some bw),C cG,R a35 qx Dc,.map (some bH)] 142
    let tB:=iL a35 qx Dc
    refine z<|nx ?_
    have acA:((gb.take (k_:Int).toNat)).length=k_:=by rw[gY,dv];exact aon aq
    refine rg<|ak J mQ<|ak J mP<|k<|N3 (kl.rv 11 J) J J J J aq ej cI ?_
    intro Di Db K9
    let rK:=iL Di (gb.drop (k_:Int).toNat) Db
    have j6:=kl.put (it:=rK) J K9
    refine au (v:=R Di (gb.drop (k_:Int).toNat) Db) J J<|z<|aJ ?_
    have mi:=j6.put (it:=tB) J<|j6.rv 6 J
    have qi:=mi.put (it:=rK) J<|mi.rv 1 J
    have oo:=qi.put (it:=J2) J<|qi.rv 4 J
    have JF:=oo.put (it:=J3) J<|oo.rv 6 J
    let EE:=J3::J2::rK::tB::rK::EM::J2::J3::xU::xT::tB::Hg
    have H46:HI M w fh (EE++r):=JF
    let M5:=tB::rK::dO::J9::eC::J0::EM::J2::J3::xU::xT::ba
    have H47:HI M w fh (M5++r):=HI.aR (l:=EE) (l':=M5) (t:=r) H46 [3,2,17,18,19,20,5,1,0,8,9,21,11,22] aw rfl rfl
    refine bB _ ?_ ⟨(gb.drop (k_:Int).toNat),jc,iT,cG,qx,Di,Db,a33,lR,a35,Dc,J,ln,J,H47,(by intro e_ h_;exact ui e_ (ao1 h_)),(by simp only[anI];omega),bq,bq⟩
    first|(simp only[anI];omega)|omega
   refine qn J J J b2<|qn J J J b2<|qn J J J b2<|qn J J J b2<|qn J J J b2<|qn J J J b2<|qn J J J b2<|qn J J J b2<|qn J J J b2<|qn J J J b2<|qn J J J b2<|qn J J J b2<|qn J J J b2<|kq (fun _ _=>cJ J J J J b2 J e1)<|zq ?_
   intro dL kb
   have iI:=eS.ext kb
   refine nx<|oQ J J J<|ex<|aW<|bc<|bg<|nx<|sq<|aB<|ak J gT<|k<|eql J J J J<|z<|nx<|cd (b:=decide ((k_:Int)=0)) J J (fun b3=>?_)<|fun b3=>?_
   ·
    have p3:=dT b3
    refine aB<|ak J gB<|k<|N3 (iI.rv 3 J) J J J J aq ej cI ?_
    intro a32 oR AN
    let vt:=iL a32 (gb.drop (1:Int).toNat) oR
    have iE:=iI.put (it:=vt) J AN
    refine au (v:=R a32 (gb.drop (1:Int).toNat) oR) J J<|av<|ex<|aW<|bg ?_
    have iD:=iE.put (it:=fz) J<|iE.rv 3 J
    have kT:=iD.put (it:=vt) J<|iD.rv 1 J
    have j7:=kT.put (it:=J2) J<|kT.rv 12 J
    have kl:=j7.put (it:=J3) J<|j7.rv 14 J
    have Ax:HI M w dL ((J3::J2::vt::fz::vt::dE)++r):=kl
    have j6:HI M w dL ((fz::vt::bZ)++r):=HI.aR (l:=(J3::J2::vt::fz::vt::dE)) (l':=(fz::vt::bZ)) (t:=r) Ax [3,2,9,10,11,12,13,1,0,16,17,18,19,20] aw rfl rfl
    refine bB _ ?_ ⟨(gb.drop (1:Int).toNat),jj,jk,cG,m_,a32,oR,oU,oS,j1,jZ,J,fL,J,j6,(by intro e_ h_;exact ui e_ (ao1 h_)),(by simp only[anI];omega),bq,bq⟩
    first|(simp only[anI];omega)|omega
   have p3:=dF b3
   refine sk<|nx<|sq<|aB<|ak J gB<|ak J gT<|k<|K1 (iI.rv 3 J) J J J J aq ej cI ?_
   intro a32 oR AN
   let pL:=iL a32 (gb.take (k_:Int).toNat) oR
   have iE:=iI.put (it:=pL) J AN
   refine k<|dP J J ej<|ak (v:=C 0) J J<|av<|bk<|lp (fun m f w'=>∃(q_:Nat) (jc:List cL) (iT:KV) (a33:OA) (lR:Nat),m=(gb.take (k_:Int).toNat).length-q_∧f 0=pV cW 0∧f 7=R a28 gb re∧f 10=C (k_:Int)∧f 75=R a32 (gb.take (k_:Int).toNat) oR∧f 76=C ((gb.take (k_:Int).toNat).length:Int)∧f 77=C (q_:Int)∧HI M w w' ([pL,jv,fQ,fz,il,dO,J9,box bD #[C ((I.length:Nat):Int),R Ar (cU I U o) An] 26,J0,box cW #[.slice aE aF aD,R ay I ax,R aA U az,R a33 jc lR,.map (some bw),C cG,R j1 m_ jZ,.map (some bH)] 142,J2,J3,oL w 175 a33 jc lR,bX bw iT,J6,bS bH mq,J7]++r)∧(q_≤(gb.take (k_:Int).toNat).length)∧(jc.length≤jj.length+201*q_)) _ ⟨0,jj,jk,oU,oS,J,fL,gB,gT,J,J,(bJ J),iE,aq,aq⟩ ?_
   rintro _ f3 ef ⟨q_,jc,iT,a33,lR,rfl,ln,mQ,mP,nM,pv,rr,iD,so,acu⟩
   refine sq ?_
   have acC:((gb.take (k_:Int).toNat)).length≤gb.length:=by rw[gY];exact aqt _ _
   refine rg<|k<|lss J J rr pv<|av<|sq<|cd (b:=decide ((q_:Int)<((gb.take (k_:Int).toNat).length:Int))) J J (fun b4=>?_)<|fun b4=>?_
   ·
    have p4:=dT b4
    refine sk<|nx<|sq<|bk<|aB<|k<|ia (iD.rv 0 J) J J nM rr aq ej cI ?_
    intro pK x1 cP kR
    refine k<|nt kR.w cI J J ?_
    intro v0 EZ
    obtain⟨_,⟨_,_,rfl,⟨rfl,AM⟩,⟨_,_,rfl,⟨rfl,K_⟩,⟨rfl,K9⟩⟩⟩,rfl⟩:=EZ
    refine k<|al iD cI ?_
    let Dt:=box cW #[.slice aE aF aD,R ay I ax,R aA U az,R a33 jc lR,.map (some bw),C cG,R j1 m_ jZ,.map (some bH)] 142
    let yV:=oL w 175 a33 jc lR
    let Xf:=pL::jv::fQ::fz::il::dO::J9::eC::J0::Dt::J2::J3::yV::bX bw iT::ba
    intro gM fh ma (ri:HI M w fh ((box gM #[C 0,C 0,C 0] 122::Xf)++r))
    refine k<|bt ri 0 J cI J J J J J J J ?_
    let xS:=box gM #[C x1.1,C x1.2.1,C x1.2.2] 122
    intro iz (kT:HI M w iz ((xS::Xf)++r))
    refine av<|rg<|ak J ln<|k<|cz kT 0 J cI J J aw J<|k ?_
    let Xe:=[fz,bS bH mq,xS,pL,jv,fQ,il,dO,J9,eC,J0,J6,J7]
    have oq:HI M w iz ([Dt,J2,J3,yV,bX bw iT,fz,bS bH mq]++([xS,pL,jv,fQ,il,dO,J9,eC,J0,J6,J7]++r)):=HI.aR (l:=(xS::Xf)) (l':=(Dt::J2::J3::yV::bX bw iT::Xe)) (t:=r) kT [10,11,12,13,14,4,16,0,1,2,3,5,6,7,8,9,15,17] aw rfl rfl
    have eX:=AT (cW:=cW) (aE:=aE) (aF:=aF) (aD:=aD) (ay:=ay) (ax:=ax) (I:=I) (aA:=aA) (az:=az) (U:=U) (ey:=a33) (ew:=lR) (sp:=jc) (bw:=bw) (mp:=iT) (pn:=cG) (cZ:=j1) (cY:=jZ) (pr:=m_) (bH:=bH) (mq:=mq) (ft:=x1.1) (fy:=x1.2.1) (gE:=x1.2.2) (w:=w) (w_:=iz) (r:=([xS,pL,jv,fQ,il,dO,J9,eC,J0,J6,J7]++r)) (M:=M) aT AM K_ K9 hT aq aq (by exact eu) aq (by exact tJ) oq
    refine ca QP J (ec J<|ec J e0) eX ?_
    rintro _ jw ⟨qx,IW,sH,sD,rfl,j7,R7⟩
    let Dr:=box cW #[.slice aE aF aD,R ay I ax,R aA U az,R sH qx sD,.map (some bw),C cG,R j1 m_ jZ,.map (some bH)] 142
    let Dq:=oL w 175 sH qx sD
    let Dp:=bX bw IW
    refine z<|aJ<|nx<|rg<|k<|add J J rr J aT<|ak (v:=C ((q_:Int)+1)) J J<|z ?_
    have kl:=j7.put (it:=fz) J<|j7.rv 5 J
    have j6:=kl.put (it:=J2) J<|kl.rv 2 J
    have mi:=j6.put (it:=J3) J<|j6.rv 4 J
    have wb:HI M w jw ((J3::J2::fz::Dr::J2::J3::Dq::Dp::Xe)++r):=mi
    let aeB:=pL::jv::fQ::fz::il::dO::J9::eC::J0::Dr::J2::J3::Dq::Dp::ba
    have qi:HI M w jw (aeB++r):=HI.aR (l:=(J3::J2::fz::Dr::J2::J3::Dq::Dp::Xe)) (l':=aeB) (t:=r) wb [11,12,13,2,14,15,16,17,18,3,1,0,6,7,19,9,20] aw rfl rfl
    refine bB _ ?_ ⟨(q_+1),qx,IW,sH,sD,J,ln,mQ,mP,nM,pv,(bJ J),qi,aq,aq⟩
    omega
   have p4:=dF b4
   refine ex<|aW<|bc<|bg<|cO<|ak J ln<|ak J mQ<|ak J mP<|k<|K1 (iD.rv 4 J) J J J J aq ej cI ?_
   intro sH sD EZ
   let sI:=iL sH (gb.take (k_:Int).toNat) sD
   have ri:=iD.put (it:=sI) J EZ
   let JE:=box cW #[.slice aE aF aD,R ay I ax,R aA U az,R a33 jc lR,.map (some bw),C cG,R j1 m_ jZ,.map (some bH)] 142
   let EL:=oL w 175 a33 jc lR
   let EK:=bX bw iT
   let aeA:=sI::pL::jv::fQ::fz::il::dO::J9::eC::J0::JE::J2::J3::EL::EK::ba
   have kT:HI M w ef (aeA++r):=ri
   refine k ?_
   let aez:=[bS bH mq,sI,pL,jv,fQ,il,dO,J9,eC,J0,J6,J7]
   have oq:HI M w ef ([JE,J2,J3,EL,EK,fz,bS bH mq,sI]++([pL,jv,fQ,il,dO,J9,eC,J0,J6,J7]++r)):=HI.aR (l:=aeA) (l':=(JE::J2::J3::EL::EK::fz::aez)) (t:=r) kT [10,11,12,13,14,4,16,0,1,2,3,5,6,7,8,9,15,17] aw rfl rfl
   have eX:=yc (cW:=cW) (aE:=aE) (aF:=aF) (aD:=aD) (ay:=ay) (ax:=ax) (I:=I) (aA:=aA) (az:=az) (U:=U) (ey:=a33) (ew:=lR) (sp:=jc) (bw:=bw) (mp:=iT) (pn:=cG) (cZ:=j1) (cY:=jZ) (pr:=m_) (bH:=bH) (mq:=mq) (zt:=sH) (zm:=sD) (es:=(gb.take (k_:Int).toNat)) (w:=w) (w_:=ef) (r:=([pL,jv,fQ,il,dO,J9,eC,J0,J6,J7]++r)) (M:=M) aT (by exact tJ) (by intro x_ h_;rw[CO,I_];exact ui x_ (aoB h_)) oq
   refine ca Ka J (ec J<|ec J e0) eX ?_
   rintro _ fh ⟨qx,a35,Dc,rfl,j7,R7⟩
   let Aw:=box cW #[.slice aE aF aD,R ay I ax,R aA U az,R a33 jc lR,.map (some bw),C cG,R a35 qx Dc,.map (some bH)] 142
   let Hl:=iL a35 qx Dc
   refine z<|nx ?_
   have acA:((gb.take (k_:Int).toNat)).length=k_:=by rw[gY,dv];exact aon aq
   refine rg<|ak J mQ<|ak J mP<|k<|N3 (j7.rv 11 J) J J J J aq ej cI ?_
   intro Di Db AM
   let EJ:=iL Di (gb.drop (k_:Int).toNat) Db
   have kl:=j7.put (it:=EJ) J AM
   refine au (v:=R Di (gb.drop (k_:Int).toNat) Db) J J<|z<|aJ ?_
   have j6:=kl.put (it:=Hl) J<|kl.rv 6 J
   have mi:=j6.put (it:=EJ) J<|j6.rv 1 J
   have qi:=mi.put (it:=J2) J<|mi.rv 4 J
   have oo:=qi.put (it:=J3) J<|qi.rv 6 J
   let aey:=J3::J2::EJ::Hl::EJ::Aw::J2::J3::EL::EK::Hl::aez
   have Y4:HI M w fh (aey++r):=oo
   let aex:=Hl::EJ::dO::J9::eC::J0::Aw::J2::J3::EL::EK::ba
   have JF:HI M w fh (aex++r):=HI.aR (l:=aey) (l':=aex) (t:=r) Y4 [3,2,17,18,19,20,5,1,0,8,9,21,11,22] aw rfl rfl
   refine bB _ ?_ ⟨(gb.drop (k_:Int).toNat),jc,iT,cG,qx,Di,Db,a33,lR,a35,Dc,J,ln,J,JF,(by intro e_ h_;exact ui e_ (ao1 h_)),(by simp only[anI];omega),bq,bq⟩
   first|(simp only[anI];omega)|omega
  have p1:=dF b1
  refine qn J J J b1<|qn J J J b1<|qn J J J b1<|qn J J J b1<|qn J J J b1<|qn J J J b1<|qn J J J b1<|qn J J J b1<|qn J J J b1<|qn J J J b1<|qn J J J b1<|qn J J J b1<|kq (fun _ _=>cJ J J J J b1 J e1)<|kq (fun _ _=>mv (v:=.bool false) J J e1)<|qn J J J J<|qn J J J J<|qn J J J J<|qn J J J J<|qn J J J J<|qn J J J J<|qn J J J J<|qn J J J J<|qn J J J J<|qn J J J J<|qn J J J J<|qn J J J J<|qn J J J J<|kq (fun _ _=>cJ J J J J J J e1)<|zq ?_
  intro dL kb
  have ff:=eS.ext kb
  refine nx<|oQ J J J<|ex<|aW<|bc<|bg<|nx<|sq<|aB<|ak J gT<|k<|eql J J J J<|z<|nx<|cd (b:=decide ((k_:Int)=0)) J J (fun b2=>?_)<|fun b2=>?_
  ·
   have p2:=dT b2
   refine aB<|ak J gB<|k<|N3 (ff.rv 3 J) J J J J aq ej cI ?_
   intro a32 oR E2
   let Av:=iL a32 (gb.drop (1:Int).toNat) oR
   have ga:=ff.put (it:=Av) J E2
   refine au (v:=R a32 (gb.drop (1:Int).toNat) oR) J J<|av<|ex<|aW<|bg ?_
   have iE:=ga.put (it:=fz) J<|ga.rv 3 J
   have iD:=iE.put (it:=Av) J<|iE.rv 1 J
   have kT:=iD.put (it:=J2) J<|iD.rv 12 J
   have j7:=kT.put (it:=J3) J<|kT.rv 14 J
   have qR:HI M w dL ((J3::J2::Av::fz::Av::dE)++r):=j7
   have kl:HI M w dL ((fz::Av::bZ)++r):=HI.aR (l:=(J3::J2::Av::fz::Av::dE)) (l':=(fz::Av::bZ)) (t:=r) qR [3,2,9,10,11,12,13,1,0,16,17,18,19,20] aw rfl rfl
   refine bB _ ?_ ⟨(gb.drop (1:Int).toNat),jj,jk,cG,m_,a32,oR,oU,oS,j1,jZ,J,fL,J,kl,(by intro e_ h_;exact ui e_ (ao1 h_)),(by simp only[anI];omega),bq,bq⟩
   first|(simp only[anI];omega)|omega
  have p2:=dF b2
  refine sk<|nx<|sq<|aB<|ak J gB<|ak J gT<|k<|K1 (ff.rv 3 J) J J J J aq ej cI ?_
  intro a32 oR E2
  let yU:=iL a32 (gb.take (k_:Int).toNat) oR
  have ga:=ff.put (it:=yU) J E2
  refine k<|dP J J ej<|ak (v:=C 0) J J<|av<|bk<|lp (fun m f w'=>∃(q_:Nat) (jc:List cL) (iT:KV) (a33:OA) (lR:Nat),m=(gb.take (k_:Int).toNat).length-q_∧f 0=pV cW 0∧f 7=R a28 gb re∧f 10=C (k_:Int)∧f 75=R a32 (gb.take (k_:Int).toNat) oR∧f 76=C ((gb.take (k_:Int).toNat).length:Int)∧f 77=C (q_:Int)∧HI M w w' ([yU,jv,fQ,fz,il,dO,J9,box bD #[C ((I.length:Nat):Int),R Ar (cU I U o) An] 26,J0,box cW #[.slice aE aF aD,R ay I ax,R aA U az,R a33 jc lR,.map (some bw),C cG,R j1 m_ jZ,.map (some bH)] 142,J2,J3,oL w 175 a33 jc lR,bX bw iT,J6,bS bH mq,J7]++r)∧(q_≤(gb.take (k_:Int).toNat).length)∧(jc.length≤jj.length+201*q_)) _ ⟨0,jj,jk,oU,oS,J,fL,gB,gT,J,J,(bJ J),ga,aq,aq⟩ ?_
  rintro _ f3 ef ⟨q_,jc,iT,a33,lR,rfl,ln,mQ,mP,nM,pv,rr,iE,so,acu⟩
  refine sq ?_
  have acC:((gb.take (k_:Int).toNat)).length≤gb.length:=by rw[gY];exact aqt _ _
  refine rg<|k<|lss J J rr pv<|av<|sq<|cd (b:=decide ((q_:Int)<((gb.take (k_:Int).toNat).length:Int))) J J (fun b3=>?_)<|fun b3=>?_
  ·
   have p3:=dT b3
   refine sk<|nx<|sq<|bk<|aB<|k<|ia (iE.rv 0 J) J J nM rr aq ej cI ?_
   intro iC x0 aP ct
   refine k<|nt ct.w cI J J ?_
   intro v0 E1
   obtain⟨_,⟨_,_,rfl,⟨rfl,AN⟩,⟨_,_,rfl,⟨rfl,EZ⟩,⟨rfl,AM⟩⟩⟩,rfl⟩:=E1
   refine k<|al iE cI ?_
   let JD:=box cW #[.slice aE aF aD,R ay I ax,R aA U az,R a33 jc lR,.map (some bw),C cG,R j1 m_ jZ,.map (some bH)] 142
   let Dm:=oL w 175 a33 jc lR
   let Xd:=yU::jv::fQ::fz::il::dO::J9::eC::J0::JD::J2::J3::Dm::bX bw iT::ba
   intro gM fh ma (kU:HI M w fh ((box gM #[C 0,C 0,C 0] 122::Xd)++r))
   refine k<|bt kU 0 J cI J J J J J J J ?_
   let vq:=box gM #[C x0.1,C x0.2.1,C x0.2.2] 122
   intro iz (iD:HI M w iz ((vq::Xd)++r))
   refine av<|rg<|ak J ln<|k<|cz iD 0 J cI J J aw J<|k ?_
   let aew:=[fz,bS bH mq,vq,yU,jv,fQ,il,dO,J9,eC,J0,J6,J7]
   have ri:HI M w iz ([JD,J2,J3,Dm,bX bw iT,fz,bS bH mq]++([vq,yU,jv,fQ,il,dO,J9,eC,J0,J6,J7]++r)):=HI.aR (l:=(vq::Xd)) (l':=(JD::J2::J3::Dm::bX bw iT::aew)) (t:=r) iD [10,11,12,13,14,4,16,0,1,2,3,5,6,7,8,9,15,17] aw rfl rfl
   have eX:=AT (cW:=cW) (aE:=aE) (aF:=aF) (aD:=aD) (ay:=ay) (ax:=ax) (I:=I) (aA:=aA) (az:=az) (U:=U) (ey:=a33) (ew:=lR) (sp:=jc) (bw:=bw) (mp:=iT) (pn:=cG) (cZ:=j1) (cY:=jZ) (pr:=m_) (bH:=bH) (mq:=mq) (ft:=x0.1) (fy:=x0.2.1) (gE:=x0.2.2) (w:=w) (w_:=iz) (r:=([vq,yU,jv,fQ,il,dO,J9,eC,J0,J6,J7]++r)) (M:=M) aT AN EZ AM hT aq aq (by exact eu) aq (by exact tJ) ri
   refine ca QP J (ec J<|ec J e0) eX ?_
   rintro _ jw ⟨qx,IW,sH,sD,rfl,kT,R7⟩
   let M_:=box cW #[.slice aE aF aD,R ay I ax,R aA U az,R sH qx sD,.map (some bw),C cG,R j1 m_ jZ,.map (some bH)] 142
   let M9:=oL w 175 sH qx sD
   let M8:=bX bw IW
   refine z<|aJ<|nx<|rg<|k<|add J J rr J aT<|ak (v:=C ((q_:Int)+1)) J J<|z ?_
   have j7:=kT.put (it:=fz) J<|kT.rv 5 J
   have kl:=j7.put (it:=J2) J<|j7.rv 2 J
   have j6:=kl.put (it:=J3) J<|kl.rv 4 J
   let aev:=J3::J2::fz::M_::J2::J3::M9::M8::aew
   have vy:HI M w jw (aev++r):=j6
   let aeu:=yU::jv::fQ::fz::il::dO::J9::eC::J0::M_::J2::J3::M9::M8::ba
   have mi:HI M w jw (aeu++r):=HI.aR (l:=aev) (l':=aeu) (t:=r) vy [11,12,13,2,14,15,16,17,18,3,1,0,6,7,19,9,20] aw rfl rfl
   refine bB _ ?_ ⟨(q_+1),qx,IW,sH,sD,J,ln,mQ,mP,nM,pv,(bJ J),mi,aq,aq⟩
   omega
  have p3:=dF b3
  refine ex<|aW<|bc<|bg<|cO<|ak J ln<|ak J mQ<|ak J mP<|k<|K1 (iE.rv 4 J) J J J J aq ej cI ?_
  intro sH sD E1
  let xR:=iL sH (gb.take (k_:Int).toNat) sD
  have kU:=iE.put (it:=xR) J E1
  let JC:=box cW #[.slice aE aF aD,R ay I ax,R aA U az,R a33 jc lR,.map (some bw),C cG,R j1 m_ jZ,.map (some bH)] 142
  let EI:=oL w 175 a33 jc lR
  let EH:=bX bw iT
  let aet:=xR::yU::jv::fQ::fz::il::dO::J9::eC::J0::JC::J2::J3::EI::EH::ba
  have iD:HI M w ef (aet++r):=kU
  refine k ?_
  let aes:=[bS bH mq,xR,yU,jv,fQ,il,dO,J9,eC,J0,J6,J7]
  have ri:HI M w ef ([JC,J2,J3,EI,EH,fz,bS bH mq,xR]++([yU,jv,fQ,il,dO,J9,eC,J0,J6,J7]++r)):=HI.aR (l:=aet) (l':=(JC::J2::J3::EI::EH::fz::aes)) (t:=r) iD [10,11,12,13,14,4,16,0,1,2,3,5,6,7,8,9,15,17] aw rfl rfl
  have eX:=yc (cW:=cW) (aE:=aE) (aF:=aF) (aD:=aD) (ay:=ay) (ax:=ax) (I:=I) (aA:=aA) (az:=az) (U:=U) (ey:=a33) (ew:=lR) (sp:=jc) (bw:=bw) (mp:=iT) (pn:=cG) (cZ:=j1) (cY:=jZ) (pr:=m_) (bH:=bH) (mq:=mq) (zt:=sH) (zm:=sD) (es:=(gb.take (k_:Int).toNat)) (w:=w) (w_:=ef) (r:=([yU,jv,fQ,il,dO,J9,eC,J0,J6,J7]++r)) (M:=M) aT (by exact tJ) (by intro x_ h_;rw[CO,I_];exact ui x_ (aoB h_)) ri
  refine ca Ka J (ec J<|ec J e0) eX ?_
  rintro _ fh ⟨qx,a35,Dc,rfl,kT,R7⟩
  let UC:=box cW #[.slice aE aF aD,R ay I ax,R aA U az,R a33 jc lR,.map (some bw),C cG,R a35 qx Dc,.map (some bH)] 142
  let Hk:=iL a35 qx Dc
  refine z<|nx ?_
  have acA:((gb.take (k_:Int).toNat)).length=k_:=by rw[gY,dv];exact aon aq
  refine rg<|ak J mQ<|ak J mP<|k<|N3 (kT.rv 11 J) J J J J aq ej cI ?_
  intro Di Db AN
  let EG:=iL Di (gb.drop (k_:Int).toNat) Db
  have j7:=kT.put (it:=EG) J AN
  refine au (v:=R Di (gb.drop (k_:Int).toNat) Db) J J<|z<|aJ ?_
  have kl:=j7.put (it:=Hk) J<|j7.rv 6 J
  have j6:=kl.put (it:=EG) J<|kl.rv 1 J
  have mi:=j6.put (it:=J2) J<|j6.rv 4 J
  have qi:=mi.put (it:=J3) J<|mi.rv 6 J
  let aer:=J3::J2::EG::Hk::EG::UC::J2::J3::EI::EH::Hk::aes
  have vw:HI M w fh (aer++r):=qi
  let aeq:=Hk::EG::dO::J9::eC::J0::UC::J2::J3::EI::EH::ba
  have oo:HI M w fh (aeq++r):=HI.aR (l:=aer) (l':=aeq) (t:=r) vw [3,2,17,18,19,20,5,1,0,8,9,21,11,22] aw rfl rfl
  refine bB _ ?_ ⟨(gb.drop (k_:Int).toNat),jc,iT,cG,qx,Di,Db,a33,lR,a35,Dc,J,ln,J,oo,(by intro e_ h_;exact ui e_ (ao1 h_)),(by simp only[anI];omega),bq,bq⟩
  first|(simp only[anI];omega)|omega
 refine ex<|aW<|bc<|bg<|D_ J ?_
 let Au:=box cW #[.slice aE aF aD,R ay I ax,R aA U az,R oU jj oS,.map (some bw),C cG,R j1 m_ jZ,.map (some bH)] 142
 have dI:=HI.aR (l:=[iL j1 m_ jZ,iL a28 gb re,dO,J9,eC,J0,Au,J2,J3,oL w 175 oU jj oS,bX bw jk,J6,bS bH mq,J7]) (l':=[Au,J2,J3,oL w 175 oU jj oS,bX bw jk,iL j1 m_ jZ,bS bH mq,J7]) (t:=r) dM [6,7,8,9,10,0,12,13] aw J J
 have e0:(cG:Int)=pn:=by exact CO
 try rw[←e0]
 refine⟨jj,jk,m_,oU,oS,j1,jZ,?_,?_,aq,(by exact tJ)⟩
 · first|rfl|simp only[e0]|(simp only[anj])
 · first|exact dI|simpa +zetaDelta only[e0,anj] using dI
theorem YC:cu aK 119:=⟨_,_,Tryz.func119,rfl,aC⟩
theorem Eb (Bf:aM ft) (DM:aM fy) (Be:aM gE) (Yo:aM mI) (Yn:aM mH) (Ym:aM nj):Calls aK 119 #[.agg #[C ft,C fy,C gE],.agg #[C mI,C mH,C nj]] w (cg fun v w'=>v=.bool (decide (ft=mI)&&decide (fy=mH))∧Ext w w'):=by
 refine dm 17 Tryz.func119 J J J py fun f0 ha H=>?_
 have i0:f0 0=.agg #[C ft,C fy,C gE]:=ha 0 bh
 have i1:f0 1=.agg #[C mI,C mH,C nj]:=ha 1 bh
 refine aB<|k<|bx H J i0 ?_
 intro aX w0 bT (H0:HI (fun _=>False) w w0 [box aX #[C ft,C fy,C gE] 122])
 refine k<|bx H0 J i1 ?_
 intro aZ w1 da (H1:HI (fun _=>False) w w1 [box aZ #[C mI,C mH,C nj] 122,box aX #[C ft,C fy,C gE] 122])
 refine au (v:=.bool false) J J<|bp<|aS kK J J<|bl H1 1 J aV J J J<|aS kK J J<|bl H1 0 J aV J J J<|k<|eql J J J J<|ak (v:=.bool (decide (ft=mI))) J J ?_
 rcases bE (decide (ft=mI)) with b0|b0
 ·
  refine aU J J J b0<|fa mM J J<|aU J J J b0<|lx H1 1 J aV J J J<|aU J J J b0<|fa mM J J<|aU J J J b0<|lx H1 0 J aV J J J<|aU J J J b0<|eql J J J J<|k<|aR J J J J b0 J<|au (v:=.bool (decide (fy=mH))) J J<|av<|rt<|r1 J J ?_
  exact⟨ani Value.bool (by simp only[b0,BL]),H1.below⟩
 refine aO J J J b0<|aO J J J b0<|aO J J J b0<|aO J J J b0<|aO J J J b0<|k<|cJ J J J J b0 J<|au (v:=.bool false) J J<|av<|rt<|r1 J J ?_
 exact⟨ani Value.bool (by simp only[b0,BL]),H1.below⟩
theorem FG {xs:List (Int×Int×Int)} (H:HI M w w_ ([oL w 122 dR xs dJ]++r)):Calls aK 118 #[R dR xs dJ,.func (.func 119) #[] #[]] w_ (cg fun v w'=>∃(Xi:List dX),v=R dR Xi dJ∧HI M w w' ([oL w 122 dR Xi dJ]++r)∧Xi.length≤xs.length∧∀x∈Xi,x∈xs):=by
 refine enter 66 Tryz.func118 J J J fun f0 ha=>?_
 have Gi:=j'<|H.at_ 0 J
 have i0:f0 0=R dR xs dJ:=ha 0 bh
 have i1:f0 1=.func (.func 119) #[] #[]:=ha 1 bh
 refine aB<|au (v:=.slice none 0 0) J J<|av<|sq<|aB<|ak J i0<|k<|dP J J ej<|k<|lss J J J J<|z<|nx<|cd (b:=decide ((xs.length:Int)<2)) J J (fun b0=>?_)<|fun b0=>?_
 ·
  refine aB<|ak J i0<|au (v:=R dR xs dJ) J J<|av<|rt<|aL<|r1 J J ?_
  refine⟨xs,?_,?_,(by exact anl _),(by exact fun _ h_=>h_)⟩
  · first|rfl|simp only[anj]
  · first|exact H|simpa +zetaDelta only[anj] using H
 have p0:=dF b0
 refine sk<|nx<|sq<|aB<|au (v:=C 1) J J<|av<|bk<|lp (fun m f w'=>∃(k_:Nat),m=xs.length-k_∧f 0=R dR xs dJ∧f 1=.func (.func 119) #[] #[]∧f 5=C (k_:Int)∧HI M w w' ([oL w 122 dR xs dJ]++r)∧(1≤k_∧k_≤xs.length)) _ ⟨1,J,i0,i1,(bJ J),H,aq⟩ ?_
 rintro _ f0 w0 ⟨k_,rfl,s0,s1,s2,H0,pB⟩
 refine sq<|aB<|ak J s2<|ak J s0<|k<|dP J J ej<|k<|lss J J J J<|z<|nx<|cd (b:=decide ((k_:Int)<(xs.length:Int))) J J (fun b1=>?_)<|fun b1=>?_
 ·
  have p1:=dT b1
  refine sk<|nx<|sq<|bk<|sq<|mg [.r,.r,.r,.r,.r,.r,.r,.r,.r,.r,.r] (fun _=>True) J aC (fun _ _=>trivial)<|yq J J<|kq (fun _ _=>mv J s1 e1)<|bM<|kq (fun _ _=>mv J s0 e1)<|bM<|kq (fun _ _=>mv J s2 e1)<|bM<|sV (H0.at_ 0 J) J J J J aq ej cI ?_
  intro iC x0 aP ct
  refine bM<|xZ ct cI J J ?_
  intro v0 cq
  obtain⟨_,⟨_,_,rfl,⟨rfl,dZ⟩,⟨_,_,rfl,⟨rfl,dY⟩,⟨rfl,fu⟩⟩⟩,rfl⟩:=cq
  refine bM<|kq (fun _ _=>mv J s0 e1)<|bM<|kq (fun _ _=>mv J s2 e1)<|bM<|kq (fun _ _=>sub J J J J aT e1)<|bM<|sV (H0.at_ 0 J) J J J J aq ej cI ?_
  intro rh x1 cP gL
  refine bM<|xZ gL cI J J ?_
  intro v1 je
  obtain⟨_,⟨_,_,rfl,⟨rfl,jT⟩,⟨_,_,rfl,⟨rfl,jd⟩,⟨rfl,lq⟩⟩⟩,rfl⟩:=je
  refine zq<|yq J J<|kq (v:=.bool (decide (x0.1=x1.1)&&decide (x0.2.1=x1.2.1))) (fun v_ _=>have cc:=Eb (ft:=x0.1) (fy:=x0.2.1) (gE:=x0.2.2) (mI:=x1.1) (mH:=x1.2.1) (nj:=x1.2.2) (w:=v_) dZ dY fu jT jd lq;cf YC rfl rfl rfl (ec J<|ec J e0) cc fun _ _ h_=>e2 h_)<|zq<|yz ?_
  intro w1 f1 _ bT _ _ cB iN
  have H1:=H0.ext bT
  have s3:=(cB 0 J).trans s0
  have s4:=(cB 1 J).trans s1
  have s5:=(cB 5 J).trans s2
  have s6:=cB 28 J
  refine kz<|nx<|cd (b:=(decide (x0.1=x1.1)&&decide (x0.2.1=x1.2.1))) J s6 (fun b2=>?_)<|fun b2=>?_
  ·
   refine aB<|ak J s3<|ak J s5<|k<|UZ (H1.at_ 0 J) J J J J aq ej cI<|au (v:=.slice (ph dR dJ (k_:Int).toNat) (xs.length-(k_:Int).toNat) (dJ-(k_:Int).toNat)) J J<|av<|sq<|aB<|au (v:=C 1) J J<|av<|bk<|lp (fun m f w'=>∃(tG:Nat) (q_:Nat) (qX:List dX),m=xs.length-k_-tG∧f 0=R dR xs dJ∧f 1=.func (.func 119) #[] #[]∧f 5=C (q_:Int)∧f 6=.slice (ph dR dJ (k_:Int).toNat) (xs.length-(k_:Int).toNat) (dJ-(k_:Int).toNat)∧f 7=C (tG:Int)∧HI M w w' ([own w.heap.size 122 (.slice dR xs.length dJ) qX]++r)∧(qX.length=xs.length∧∀x∈qX,x∈xs)∧(k_≤q_∧q_<k_+tG∧k_+tG≤xs.length)) _ ⟨1,k_,xs,J,s3,s4,(bJ s5),J,(bJ J),H1,(by exact⟨J,fun _ h_=>h_⟩),aq⟩ ?_
   rintro _ f2 w2 ⟨tG,q_,qX,rfl,s7,s8,s9,eo,fb,H2,hs,so⟩
   refine sq<|aB<|ak J fb<|ak J eo<|k<|dP J J ej<|k<|lss J J J J<|z<|nx<|cd (b:=decide ((tG:Int)<((xs.length-(k_:Int).toNat:Nat):Int))) J J (fun b3=>?_)<|fun b3=>?_
   ·
    have p3:=dT b3
    refine sk<|nx<|sq<|bk<|sq<|mg [.r,.r,.r,.r,.r,.r,.r,.r,.r,.r,.r,.r] (fun _=>True) J aC (fun _ _=>trivial)<|yq J J<|kq (fun _ _=>mv J s8 e1)<|bM<|kq (fun _ _=>mv J eo e1)<|bM<|kq (fun _ _=>mv J fb e1)<|bM<|R6 (H2.at_ 0 J) J J J J aq ej cI ?_
    intro pK x2 iA kR
    refine bM<|xZ kR cI J J ?_
    intro v2 oC
    obtain⟨_,⟨_,_,rfl,⟨rfl,pw⟩,⟨_,_,rfl,⟨rfl,rk⟩,⟨rfl,nZ⟩⟩⟩,rfl⟩:=oC
    refine bM<|kq (fun _ _=>mv J eo e1)<|bM<|kq (fun _ _=>mv J fb e1)<|bM<|kq (fun _ _=>sub J J J J aT e1)<|bM<|R6 (H2.at_ 0 J) J J J J aq ej cI ?_
    intro vn x3 mW u5
    refine bM<|xZ u5 cI J J ?_
    intro v3 mR
    obtain⟨_,⟨_,_,rfl,⟨rfl,pT⟩,⟨_,_,rfl,⟨rfl,qp⟩,⟨rfl,oD⟩⟩⟩,rfl⟩:=mR
    refine zq<|yq J J<|kq (v:=.bool (decide (x2.1=x3.1)&&decide (x2.2.1=x3.2.1))) (fun v_ _=>have cc:=Eb (ft:=x2.1) (fy:=x2.2.1) (gE:=x2.2.2) (mI:=x3.1) (mH:=x3.2.1) (nj:=x3.2.2) (w:=v_) pw rk nZ pT qp oD;cf YC rfl rfl rfl (ec J<|ec J e0) cc fun _ _ h_=>e2 h_)<|bM<|kq (fun _ _=>jI J J e1)<|zq<|yz ?_
    intro w3 f3 _ da _ _ fF zY
    have H3:=H2.ext da
    have fM:=(fF 0 J).trans s7
    have fL:=(fF 1 J).trans s8
    have gB:=(fF 5 J).trans s9
    have gT:=(fF 6 J).trans eo
    have ky:=(fF 7 J).trans fb
    have ln:=fF 49 J
    refine kz<|nx<|cd (b:=!(decide (x2.1=x3.1)&&decide (x2.2.1=x3.2.1))) J ln (fun b4=>?_)<|fun b4=>?_
    ·
     refine aB<|ak J fM<|ak J gB<|ak J gT<|ak J ky<|k<|ahV (H3.at_ 0 J) J J J J aq ej cI ?_
     intro vm x4 yr xD
     refine k<|nt xD cI J J ?_
     intro v4 wW
     obtain⟨_,⟨_,_,rfl,⟨rfl,AO⟩,⟨_,_,rfl,⟨rfl,HD⟩,⟨rfl,abl⟩⟩⟩,rfl⟩:=wW
     refine k<|ij (H3.at_ 0 J) J J J J aq ej cI ?_
     intro g0 x5 iq SK OS
     refine k<|pt H3 0 J iq J aq cI J J J J ⟨_,⟨_,_,J,⟨J,(show aM (x4.1) from bq)⟩,⟨_,_,J,⟨J,(show aM (x4.2.1) from bq)⟩,⟨J,(show aM (x4.2.2) from bq)⟩⟩⟩,J⟩ ?_
     intro w4 (H4:HI M w w4 ([own w.heap.size 122 (.slice dR xs.length dJ) (qX.set ((q_:Int).toNat) (x4.1,x4.2.1,x4.2.2))]++r))
     refine av<|rg<|ak J gB<|k<|add J J J J aT<|au (v:=C ((q_:Int)+1)) J J<|z<|aJ<|nx<|rg<|ak J ky<|k<|add J J J J aT<|au (v:=C ((tG:Int)+1)) J J<|z<|bB _ ?_ ⟨(tG+1),(q_+1),(qX.set ((q_:Int).toNat) (x4.1,x4.2.1,x4.2.2)),J,fM,fL,(bJ J),gT,(bJ J),H4,(by exact aat hs yr),aq⟩
     omega
    refine sk<|aJ<|nx<|rg<|ak J ky<|k<|add J J J J aT<|au (v:=C ((tG:Int)+1)) J J<|z<|bB _ ?_ ⟨(tG+1),q_,qX,J,fM,fL,(bJ gB),gT,(bJ J),H3,(by exact hs),aq⟩
    omega
   refine ex<|aW<|bc<|bg<|cO<|ak J s7<|ak J s9<|k<|UZ (H2.at_ 0 J) J J J J aq ej cI<|k<|clE H2 0 J J J (q:=(q_:Int).toNat) J ej cI (by have h_:=hs.1;omega) ?_
   intro w3 (H3:HI M w w3 ([own w.heap.size 122 (.slice dR xs.length dJ) (qX.take ((q_:Int).toNat)++List.replicate (qX.length-((q_:Int).toNat)) (0,0,0))]++r))
   refine bp<|ak J s7<|ak J s9<|k<|RM H3 0 J J J J J (by have h_:=hs.1;first|omega|(simp only[fA,gY,od];omega)) ej cI ?_
   intro (H4:HI M w w3 ([oL w 122 dR ((qX.take ((q_:Int).toNat)++List.replicate (qX.length-((q_:Int).toNat)) (0,0,0)).take (q_:Int).toNat) dJ]++r))
   refine au (v:=R dR ((qX.take ((q_:Int).toNat)++List.replicate (qX.length-((q_:Int).toNat)) (0,0,0)).take (q_:Int).toNat) dJ) J J<|av<|rt<|bQ<|aL<|dU<|bQ<|aL<|r1 J J ?_
   refine⟨((qX.take ((q_:Int).toNat)++List.replicate (qX.length-((q_:Int).toNat)) (0,0,0)).take (q_:Int).toNat),?_,?_,(by have h_:=hs.1;exact aav h_ aq),(by have h_:=hs.1;exact aau hs.2 aq)⟩
   · first|rfl|simp only[anj]
   · first|exact H4|simpa +zetaDelta only[anj] using H4
  refine sk<|aJ<|nx<|rg<|ak J s5<|k<|add J J J J aT<|au (v:=C ((k_:Int)+1)) J J<|z<|bB _ ?_ ⟨(k_+1),J,s3,s4,(bJ J),H1,aq⟩
  omega
 refine ex<|aW<|bc<|bg<|cO<|ak J s0<|au (v:=R dR xs dJ) J J<|av<|rt<|r1 J J ?_
 refine⟨xs,?_,?_,(by exact anl _),(by exact fun _ h_=>h_)⟩
 · first|rfl|simp only[anj]
 · first|exact H0|simpa +zetaDelta only[anj] using H0
theorem afR:cu aK 118:=⟨_,_,Tryz.func118,rfl,aC⟩
theorem aag:gO aK 175 0 0:=⟨_,_,Tryz.underlying175,rfl,rfl,aC⟩
theorem F7 (qG:aM pn) (hT:fP 0 w) (ho:gX I) (du:I.length≤64) (eu:U.length=I.length) (fG:∀x∈U,x<((I.length:Nat):Int)) (I_:pn=((I.length:Nat):Int)) (tW:bF pn pr=true) (HP:sp.length≤1000000000000) (H:HI M w w_ ([box cW #[.slice aE aF aD,R ay I ax,R aA U az,R ey sp ew,.map (some bw),C pn,R cZ pr cY,.map (some bH)] 142,iL ay I ax,iL aA U az,oL w 175 ey sp ew,bX bw mp,iL cZ pr cY,bS bH mq]++r)):Calls aK 80 #[pV cW 0] w_ (cg fun v w'=>∃(sR:List cL) (Gg:KV) (Cm:List (List bY)) (nV:OA) (nU:Nat) (yS:OA) (yO:Nat),v=.tuple #[]∧HI M w w' ([box cW #[.slice aE aF aD,R ay I ax,R aA U az,R nV sR nU,.map (some bw),C pn,R yS Cm yO,.map (some bH)] 142,iL ay I ax,iL aA U az,oL w 175 nV sR nU,bX bw Gg,iL yS Cm yO,bS bH mq]++r)∧sR.length≤sp.length+53000000∧bF pn Cm=true):=by
 refine enter 77 Tryz.func80 J J J fun f0 ha=>?_
 have iU:=bf<|H.rv 1 J
 have kE:=bf<|H.rv 2 J
 have DH:=j'<|H.at_ 3 J
 have DI:=bf<|H.rv 5 J
 have i0:f0 0=pV cW 0:=ha 0 bh
 have E3:=oP tW
 have QB:=(qM (I:=I) (U:=U) E3).1
 have ui:=TN (I:=I) (U:=U) I_ E3 eu fG
 refine sq<|mg [.r,.r,.r,.r,.r,.r,.r,.r,.r,.r,.r] (fun _=>True) J aC (fun _ _=>trivial)<|yq J J<|kq (fun _ _=>mv J i0 e1)<|bM<|kq (fun _ _=>nc J J e1)<|bM<|kq (fun _ _=>fa HW J J e1)<|bM<|kq (fun _ x_=>cz (H.ext x_) 0 J dN J J aw J e1)<|bM<|kq (fun _ _=>mv J i0 e1)<|bM<|kq (fun _ _=>nc J J e1)<|bM<|kq (fun _ _=>fa qV J J e1)<|bM<|kq (fun _ x_=>cz (H.ext x_) 0 J bm J J aw J e1)<|zq<|yu J (fun _ v w'=>∃(a0:OA) (c0:Nat),v=.agg #[C pn,R a0 (fc pn pr) c0]∧RV H.fV w' (R a0 (fc pn pr) c0) (fc pn pr)) J jk J (fun v_ _ x_ _=>have cS:=wo (mn:=pn) (mr:=pr) (w:=v_) (H.ext x_).mb qG ((H.ext x_).rv 5 rfl) (by exact tW);ca QJ rfl (ec J e0) cS (fun _ w1 ⟨a1,c1,e_,da,dY⟩=>⟨_,J,da,⟨a1,c1,e_,(bj.rv dY (H.ext x_).mb)⟩⟩))<|lF J (fun _ v w'=>∃(a3:OA) (c3:Nat),v=R a3 (cH I U pn<|fc pn pr) c3∧bj H.fV 122 w_ (cH I U pn<|fc pn pr) (.slice a3 (cH I U pn<|fc pn pr).length c3) w') 0 J J (mN<|by rintro _ _ _ x_ ⟨a3,c3,e_,jd⟩;exact⟨a3,c3,e_,jd.LJ x_⟩) J (fun v_ _ _ x_ _ h_=>let ⟨a4,c4,s0,lq⟩:=h_;have H9:=(H.ext x_).put (it:=iL a4 (fc pn pr) c4) rfl lq;have eX:=uB (I:=I) (U:=U) (mn:=pn) (mr:=(fc pn pr)) (aE:=aE) (aF:=aF) (aD:=aD) H9.mb (hT.ext H9.below) (H9.rv 2 J) (H9.rv 3 J) bq (H9.rv 0 J) aq (by exact eu) (by exact fG) (by exact E3);ca QH rfl (ec J<|ec s0 e0) eX (fun _ w3 ⟨a5,c5,e_,fH,oC⟩=>⟨_,J,fH,⟨a5,c5,e_,(bj.anyM<|bj.base oC x_)⟩⟩))<|lF J (fun _ v w'=>∃(a6:OA) (c6:Nat),v=R a6 (cH I U pn<|fc pn pr) c6∧bj H.fV 122 w_ (cH I U pn<|fc pn pr) (.slice a6 (cH I U pn<|fc pn pr).length c6) w') 0 J J (mN<|by rintro _ _ _ x_ ⟨a6,c6,e_,rk⟩;exact⟨a6,c6,e_,rk.LJ x_⟩) J (fun _ _ _ _ _ h_=>let ⟨a7,c7,s1,nZ⟩:=h_;jG rfl s1 ⟨_,J,Ext.refl _,⟨a7,c7,J,nZ⟩⟩)<|yz ?_
 intro w4 f0 _ ja _ _ cB iN
 obtain⟨a8,c8,s2,mR⟩:=iN 0 _ _ rfl
 have dz:=H.eL<|bj.anyM mR
 have s3:=(cB 0 J).trans i0
 refine kz<|cO<|ak J s2<|k ?_
 let J0:=oL w 122 a8 (cH I U pn (fc pn pr)) c8
 let J1:=box cW #[.slice aE aF aD,R ay I ax,R aA U az,R ey sp ew,.map (some bw),C pn,R cZ pr cY,.map (some bH)] 142
 let J2:=iL ay I ax
 let J3:=iL aA U az
 let J4:=oL w 175 ey sp ew
 let J5:=iL cZ pr cY
 let ba:=[J5,bS bH mq]
 let bZ:=J0::J1::J2::J3::J4::bX bw mp::ba
 have cM:HI M w w4 ([J0]++([J1,J2,J3,J4,bX bw mp,J5,bS bH mq]++r)):=HI.aR (l:=(J0::J1::J2::J3::J4::bX bw mp::ba)) (l':=bZ) (t:=r) dz [0,1,2,3,4,5,6,7] aw rfl rfl
 have kI:=FG (dR:=a8) (dJ:=c8) (xs:=(cH I U pn<|fc pn pr)) (w:=w) (w_:=w4) (r:=([J1,J2,J3,J4,bX bw mp,J5,bS bH mq]++r)) (M:=M) cM
 refine ca afR J (ec J<|ec J e0) kI ?_
 rintro _ w5 ⟨o0,rfl,dW,q0,q1⟩
 let J6:=oL w 122 a8 o0 c8
 refine au (v:=R a8 o0 c8) J J<|av<|sq<|aB<|ak (v:=R a8 o0 c8) J J<|k<|dP J J ej<|ak (v:=C 0) J J<|av<|bk<|lp (fun m f w'=>∃(j_:Nat) (jj:List cL) (jk:KV) (a9:OA) (c9:Nat),m=o0.length-j_∧f 0=pV cW 0∧f 2=R a8 o0 c8∧f 20=R a8 o0 c8∧f 21=C (o0.length:Int)∧f 22=C (j_:Int)∧HI M w w' ((J6::box cW #[.slice aE aF aD,R ay I ax,R aA U az,R a9 jj c9,.map (some bw),C pn,R cZ pr cY,.map (some bH)] 142::J2::J3::oL w 175 a9 jj c9::bX bw jk::ba)++r)∧(j_≤o0.length)∧(jj.length≤sp.length+201*j_)) _ ⟨0,sp,mp,ey,ew,J,s3,J,J,J,(bJ J),dW,aq,aq⟩ ?_
 rintro _ f1 w6 ⟨j_,jj,jk,a9,c9,rfl,s4,s5,s6,s7,s8,cR,pB,HQ⟩
 refine aB<|k<|lss J J s8 s7<|av<|sq<|cd (b:=decide ((j_:Int)<(o0.length:Int))) J J (fun b0=>?_)<|fun b0=>?_
 ·
  have p0:=dT b0
  refine sk<|nx<|sq<|bk<|aB<|k<|ij (cR.at_ 0 J) J J s6 s8 aq ej cI ?_
  intro g0 x0 iq aP ct
  refine k<|nt ct cI J J ?_
  intro v0 pT
  obtain⟨_,⟨_,_,rfl,⟨rfl,qp⟩,⟨_,_,rfl,⟨rfl,oD⟩,⟨rfl,wW⟩⟩⟩,rfl⟩:=pT
  refine k<|al cR cI ?_
  let J7:=box cW #[.slice aE aF aD,R ay I ax,R aA U az,R a9 jj c9,.map (some bw),C pn,R cZ pr cY,.map (some bH)] 142
  let J8:=oL w 175 a9 jj c9
  let dE:=J7::J2::J3::J8::bX bw jk::ba
  intro aX w7 ji (dM:HI M w w7 ((box aX #[C 0,C 0,C 0] 122::J6::dE)++r))
  refine k<|bt dM 0 J cI J J J J J J J ?_
  let J9:=box aX #[C x0.1,C x0.2.1,C x0.2.2] 122
  intro w8 (dI:HI M w w8 ((J9::J6::dE)++r))
  refine bp<|ak J s4<|aS kK J J<|bl dI 0 J aV J J J<|aS sA J J<|bl dI 0 J aV J J J<|k ?_
  let iO:=[J5,bS bH mq,J9,J6]
  have cF:HI M w w8 (dE++([J9,J6]++r)):=HI.aR (l:=(J9::J6::dE)) (l':=(J7::J2::J3::J8::bX bw jk::iO)) (t:=r) dI [2,3,4,5,6,7,8,0,1] aw rfl rfl
  have nk:=mD (cW:=cW) (aE:=aE) (aF:=aF) (aD:=aD) (ay:=ay) (ax:=ax) (I:=I) (aA:=aA) (az:=az) (U:=U) (ey:=a9) (ew:=c9) (sp:=jj) (bw:=bw) (mp:=jk) (pn:=pn) (cZ:=cZ) (cY:=cY) (pr:=pr) (bH:=bH) (mq:=mq) (f_:=x0.1) (t_:=x0.2.2) (w:=w) (w_:=w8) (r:=([J9,J6]++r)) (M:=M) qG qp wW hT aq aq (by exact eu) aq (by exact tW) cF
  refine ca zi J (ec J<|ec J<|ec J e0) nk ?_
  rintro _ w9 ⟨o1,o2,o3,i',iZ,rfl,dV,q2,q3⟩
  let dO:=box cW #[.slice aE aF aD,R ay I ax,R aA U az,R i' o2 iZ,.map (some bw),C pn,R cZ pr cY,.map (some bH)] 142
  let eC:=bX bw o3
  let fk:=dO::J2::J3::oL w 175 i' o2 iZ::eC::iO
  have dG:HI M w w9 (fk++r):=dV
  refine au (v:=C o1) J J<|z<|nx<|mg [.s,.r,.r,.r,.r,.r,.r,.r,.r,.r,.r,.r,.r,.r,.e,.f,.f,.e] (fun _=>True) J aC (fun _ _=>trivial)<|yq J J<|kq (fun _ _=>mv J s4 e1)<|bM<|kq (fun _ _=>mv J s4 e1)<|bM<|kq (fun _ _=>nc J J e1)<|bM<|kq (fun _ _=>fa lV J J e1)<|bM<|kq (fun _ x_=>lx (dG.ext x_) 0 J nB J J J e1)<|bM<|kq (fun _ _=>fa kK J J e1)<|bM<|kq (fun _ x_=>lx (dG.ext x_) 7 J aV J J J e1)<|bM<|kq (fun _ _=>fa mM J J e1)<|bM<|kq (fun _ x_=>lx (dG.ext x_) 7 J aV J J J e1)<|bM<|kq (fun _ _=>mv (v:=C o1) J J e1)<|bM<|kq (fun _ _=>fa sA J J e1)<|bM<|kq (fun _ x_=>lx (dG.ext x_) 7 J aV J J J e1)<|bM<|kq (fun _ _=>bd (v:=.agg #[C 4,C x0.1,C x0.2.1,C o1,C x0.2.2]) J (cj J<|cj J<|cj J<|cj J<|cj J eh) (fun _=>aC) e1)<|zq<|yu J (fun _ v w'=>∃(l3:OA) (lX:Nat),v=R l3 ([(4,x0.1,x0.2.1,o1,x0.2.2)]:List cL) lX∧RV dG.fV w' (R l3 ([(4,x0.1,x0.2.1,o1,x0.2.2)]:List cL) lX) ([(4,x0.1,x0.2.1,o1,x0.2.2)]:List cL)) J Go.Proofs.YtgjakhpjmapelaaGreatDoor.jk J (fun v_ N_ x_ n_=>?_) ?_
  ·
   have ga:=dG.ext x_
   refine bs (xs:=([(4,x0.1,x0.2.1,o1,x0.2.2)]:List cL)) (cells:=#[C 4,C x0.1,C x0.2.1,C o1,C x0.2.2]) (e:=175) ga J (cj J eh) (fun _=>aC) ⟨[C 4,C x0.1,C x0.2.1,C o1,C x0.2.2],[],J,⟨_,_,J,⟨J,(show aM (4) from aT)⟩,⟨_,_,J,⟨J,(show aM (x0.1) from bq)⟩,⟨_,_,J,⟨J,(show aM (x0.2.1) from bq)⟩,⟨_,_,J,⟨J,(show aM (o1) from bq)⟩,⟨J,(show aM (x0.2.2) from bq)⟩⟩⟩⟩⟩,J⟩ J aw ?_
   intro g2 ef ma (iI:HI M w ef ((own w.heap.size 175 (.slice (some ⟨g2,0,none⟩) 1 1) ([(4,x0.1,x0.2.1,o1,x0.2.2)]:List cL)::fk)++r))
   have iE:=iI.freeze 0 J
   exact⟨_,J,ma,⟨(some ⟨g2,0,none⟩),1,J,(mK J<|iE.rv 0 J)⟩⟩
  refine ye<|yf J (fun _ _=>nc J J e3)<|yf J (fun _ _=>fa lV J J e3)<|ye<|yz ?_
  intro fh f2 _ nr _ _ fF zY
  have kU:=dG.ext nr
  have s9:=(fF 0 J).trans s4
  have eo:=(fF 2 J).trans s5
  have fb:=(fF 20 J).trans s6
  have fM:=(fF 21 J).trans s7
  have fL:=(fF 22 J).trans s8
  have gB:=fF 36 J
  obtain⟨a12,nT,gT,HD⟩:=zY 0 _ _ rfl
  let fQ:=iL a12 ([(4,x0.1,x0.2.1,o1,x0.2.2)]:List cL) nT
  have iD:=kU.put (it:=fQ) J HD
  have ky:=fF 48 J
  refine j5<|lA iD 4 J J J J gB gT (iD.rv 0 J).src KF AE J (by simp only[iM,gr];omega) J ?_
  intro jP jO iz (kT:HI M w iz ((fQ::dO::J2::J3::oL w 175 jP (o2++([(4,x0.1,x0.2.1,o1,x0.2.2)]:List cL)) jO::eC::iO)++r))
  let fz:=oL w 175 jP (o2++([(4,x0.1,x0.2.1,o1,x0.2.2)]:List cL)) jO
  refine j5<|bt kT 1 J nB J J ky J J J J ?_
  let il:=box cW #[.slice aE aF aD,R ay I ax,R aA U az,R jP (o2++([(4,x0.1,x0.2.1,o1,x0.2.2)]:List cL)) jO,.map (some bw),C pn,R cZ pr cY,.map (some bH)] 142
  let kJ:=fQ::il::J2::J3::fz::eC::iO
  intro jw (oq:HI M w jw (kJ++r))
  refine kz<|aJ<|nx<|rg<|k<|add J J fL J aT<|ak (v:=C ((j_:Int)+1)) J J<|z ?_
  have j7:=oq.put (it:=J2) J<|oq.rv 2 J
  have kl:=j7.put (it:=J3) J<|j7.rv 4 J
  have j6:=kl.put (it:=J5) J<|kl.rv 8 J
  have vy:HI M w jw ((J5::J3::J2::kJ)++r):=j6
  have mi:HI M w jw ((J6::il::J2::J3::fz::eC::ba)++r):=HI.aR (l:=(J5::J3::J2::kJ)) (l':=(J6::il::J2::J3::fz::eC::ba)) (t:=r) vy [12,4,2,1,7,8,0,10] aw rfl rfl
  refine bB _ ?_ ⟨(j_+1),(o2++([(4,x0.1,x0.2.1,o1,x0.2.2)]:List cL)),o3,jP,jO,J,s9,eo,fb,fM,(bJ J),mi,aq,(by simp only[fA,iM,gr];omega)⟩
  omega
 have p0:=dF b0
 refine ex<|aW<|bc<|bg<|nx<|sq<|aB<|ak J s4<|k<|nc J J<|aS lV J J<|bl cR 1 J nB J J J<|k<|dP J J KF<|ak (v:=C 0) J J<|av<|bk ?_
 let nX:=box cW #[.slice aE aF aD,R ay I ax,R aA U az,R a9 jj c9,.map (some bw),C pn,R cZ pr cY,.map (some bH)] 142
 let lB:=oL w 175 a9 jj c9
 refine lp (fun m f w'=>∃(j_:Nat) (iT:KV),m=jj.length-j_∧f 0=pV cW 0∧f 2=R a8 o0 c8∧f 53=R a9 jj c9∧f 54=C (jj.length:Int)∧f 55=C (j_:Int)∧HI M w w' ((J6::nX::J2::J3::lB::bX bw iT::ba)++r)∧(j_≤jj.length)) _ ⟨0,jk,J,s4,s5,J,J,(bJ J),cR,aq⟩ ?_
 rintro _ f2 w7 ⟨j_,iT,rfl,s9,eo,fb,fM,fL,dM,pB⟩
 refine aB<|k<|lss J J fL fM<|av<|sq<|cd (b:=decide ((j_:Int)<(jj.length:Int))) J J (fun b1=>?_)<|fun b1=>?_
 ·
  have p1:=dT b1
  refine sk<|nx<|sq<|bk<|aB<|ak J fL<|k<|ij (dM.at_ 4 J) J J fb fL aq KF AE ?_
  intro g0 x0 iq aP ct
  refine k<|nt ct AE J J ?_
  intro v0 pT
  obtain⟨_,⟨_,_,rfl,⟨rfl,qp⟩,⟨_,_,rfl,⟨rfl,oD⟩,⟨_,_,rfl,⟨rfl,wW⟩,⟨_,_,rfl,⟨rfl,AO⟩,⟨rfl,HD⟩⟩⟩⟩⟩,rfl⟩:=pT
  refine k<|al dM AE ?_
  let rJ:=J6::nX::J2::J3::lB::bX bw iT::ba
  intro aX w8 ji (dI:HI M w w8 ((box aX #[C 0,C 0,C 0,C 0,C 0] 175::rJ)++r))
  refine au (v:=C (j_:Int)) J J<|k<|bt dI 0 J AE J J J J J J J ?_
  let qQ:=box aX #[C x0.1,C x0.2.1,C x0.2.2.1,C x0.2.2.2.1,C x0.2.2.2.2] 175
  intro w9 (cF:HI M w w9 ((qQ::rJ)++r))
  refine bp<|aS aag J J<|bl cF 0 J aV J J J<|k<|eql J J J J<|z<|nx<|cd (b:=decide (x0.1=4)) J J (fun b2=>?_)<|fun b2=>?_
  ·
   have p2:=dT b2
   refine mg [.r,.r,.r,.r,.r,.r,.r,.r,.r,.r,.e] (fun _=>True) J aC (fun _ _=>trivial)<|yq J J<|kq (fun _ _=>mv J s9 e1)<|bM<|kq (fun _ _=>nc J J e1)<|bM<|kq (fun _ _=>fa DR J J e1)<|bM<|kq (fun _ x_=>lx (cF.ext x_) 2 J JQ J J J e1)<|bM<|kq (fun _ _=>fa OZ J J e1)<|bM<|kq (fun _ x_=>lx (cF.ext x_) 0 J aV J J J e1)<|bM<|kq (fun _ _=>fa OY J J e1)<|bM<|kq (fun _ x_=>lx (cF.ext x_) 0 J aV J J J e1)<|bM<|kq (fun _ _=>bd (v:=.agg #[C x0.2.1,C x0.2.2.1]) J (cj J<|cj J eh) (fun _=>aC) e1)<|bM<|kq (fun _ _=>mv (v:=C (j_:Int)) J J e1)<|zq<|ye<|yz ?_
   intro dL f3 _ kb _ _ fF zY
   have dV:=cF.ext kb
   have gB:=(fF 0 J).trans s9
   have gT:=(fF 2 J).trans eo
   have ky:=(fF 53 J).trans fb
   have ln:=(fF 54 J).trans fM
   have mQ:=(fF 55 J).trans fL
   have mP:=fF 66 J
   have nM:=fF 71 J
   have pv:=fF 72 J
   refine j5<|XG (k:=(x0.2.1,x0.2.2.1)) JV dV 6 J J J J mP nM pv aT ?_
   let jv:=bX bw (jn iT (x0.2.1,x0.2.2.1) (j_:Int))
   let Dj:=J6::nX::J2::J3::lB::jv::ba
   intro ef (dG:HI M w ef ((qQ::Dj)++r))
   refine kz<|aJ<|nx<|rg<|k<|add J J mQ J aT<|ak (v:=C ((j_:Int)+1)) J J<|z ?_
   have eS:HI M w ef (Dj++r):=HI.aR (l:=(qQ::Dj)) (l':=Dj) (t:=r) dG [1,2,3,4,5,6,7,8] aw rfl rfl
   refine bB _ ?_ ⟨(j_+1),(jn iT (x0.2.1,x0.2.2.1) (j_:Int)),J,gB,gT,ky,ln,(bJ J),eS,aq⟩
   omega
  have p2:=dF b2
  refine sk<|aJ<|nx<|rg<|k<|add J J fL J aT<|ak (v:=C ((j_:Int)+1)) J J<|z ?_
  have dV:HI M w w9 (rJ++r):=HI.aR (l:=(qQ::rJ)) (l':=rJ) (t:=r) cF [1,2,3,4,5,6,7,8] aw rfl rfl
  refine bB _ ?_ ⟨(j_+1),iT,J,s9,eo,fb,fM,(bJ J),dV,aq⟩
  omega
 refine ex<|aW<|bc<|bg<|nx<|rg<|ak J s9<|ak J eo<|k ?_
 have dI:=dM.freeze 0 J
 let oW:=bX bw iT
 let Hg:=iL a8 o0 c8::nX::J2::J3::lB::oW::ba
 have cF:HI M w w7 (Hg++r):=dI
 let EE:=[bS bH mq,iL a8 o0 c8]
 have dV:HI M w w7 ((nX::J2::J3::lB::oW::J5::EE)++([]++r)):=HI.aR (l:=Hg) (l':=(nX::J2::J3::lB::oW::J5::EE)) (t:=r) cF [1,2,3,4,5,6,7,0] aw rfl rfl
 have nk:=yc (cW:=cW) (aE:=aE) (aF:=aF) (aD:=aD) (ay:=ay) (ax:=ax) (I:=I) (aA:=aA) (az:=az) (U:=U) (ey:=a9) (ew:=c9) (sp:=jj) (bw:=bw) (mp:=iT) (pn:=pn) (cZ:=cZ) (cY:=cY) (pr:=pr) (bH:=bH) (mq:=mq) (zt:=a8) (zm:=c8) (es:=o0) (w:=w) (w_:=w7) (r:=([]++r)) (M:=M) qG (by exact tW) (by intro x_ h_;rw[I_];exact ui x_ (q1 x_ h_)) dV
 refine ca Ka J (ec J<|ec J e0) nk ?_
 rintro _ w8 ⟨o1,i',iZ,rfl,dG,q2⟩
 let qh:=box cW #[.slice aE aF aD,R ay I ax,R aA U az,R a9 jj c9,.map (some bw),C pn,R i' o1 iZ,.map (some bH)] 142
 let M5:=qh::J2::J3::lB::oW::iL i' o1 iZ::EE
 have eS:HI M w w8 (M5++r):=dG
 refine z<|D_ J ?_
 have ff:=HI.aR (l:=M5) (l':=[qh,J2,J3,lB,oW,iL i' o1 iZ,bS bH mq]) (t:=r) eS [0,1,2,3,4,5,6] aw J J
 refine⟨jj,iT,o1,a9,c9,i',iZ,?_,?_,aq,bq⟩
 · first|rfl|simp only[anj]
 · first|exact ff|simpa +zetaDelta only[anj] using ff
theorem C2:gO aK 80 2 5:=⟨_,_,Tryz.underlying80,rfl,rfl,aC⟩
theorem KH:ei aK 78 1 false 24 (.slice none 0 0):=⟨aC,aC⟩
theorem Hs:aK.underlying 78=some (.slice 26):=aC
theorem rG:gO aK 80 0 0:=⟨_,_,Tryz.underlying80,rfl,rfl,aC⟩
theorem xG:gO aK 80 1 3:=⟨_,_,Tryz.underlying80,rfl,rfl,aC⟩
theorem Po (km:aM cn) (hT:fP 0 w) (ho:gX I) (du:I.length≤64) (eu:U.length=I.length) (fG:∀x∈U,x<((I.length:Nat):Int)) (oe:cn=((I.length:Nat):Int)) (pC:cr=cp I U) (hsw:iH=none∧sw=[]∨sw=eP I U) (H:HI M w w_ ([box eE #[.slice aE aF aD,R ay I ax,R aA U az,C cn,R dq cr dp,R iH sw jB] 80,iL ay I ax,iL aA U az,iL dq cr dp,oL w 26 iH sw jB]++r)):Calls aK 67 #[pV eE 0] w_ (cg fun v w'=>∃(wy:OA) (wx:Nat),v=.slice wy (eP I U).length wx∧HI M w w' ([box eE #[.slice aE aF aD,R ay I ax,R aA U az,C cn,R dq cr dp,.slice wy (eP I U).length wx] 80,iL ay I ax,iL aA U az,iL dq cr dp,oL w 26 wy (eP I U) wx]++r)):=by
 refine enter 52 Tryz.func67 J J J fun f0 ha=>?_
 have iU:=bf<|H.rv 1 J
 have kE:=bf<|H.rv 2 J
 have A5:=bf<|H.rv 3 J
 have XO:=j'<|H.at_ 4 J
 have i0:f0 0=pV eE 0:=ha 0 bh
 have aic:iH.isNone=true→sw=[]:=Oe (H.at_ 4 rfl)
 refine aB<|au (v:=.slice none 0 0) J J<|av<|sq<|aB<|ak J i0<|k<|nc J J<|aS C2 J J<|bl H 0 J KH J J J<|k<|TL J J J J Hs<|z<|nx<|cd (b:=iH.isNone) J J (fun b0=>?_)<|fun b0=>?_
 ·
  refine aB<|ak J i0<|k<|nc J J<|aS rG J J<|aS fB J J<|bl H 0 J jb J J J<|k<|dP J J js<|ak (v:=C 0) J J<|av<|bk ?_
  let J0:=iL ay I ax
  let J1:=iL aA U az
  let J2:=iL dq cr dp
  refine lp (fun m f w'=>∃(j_:Nat) (iX:List (Int×(List<|List bY))) (a0:OA) (c0:Nat),m=I.length-j_∧f 0=pV eE 0∧f 18=C (I.length:Int)∧f 19=C (j_:Int)∧HI M w w' ([box eE #[.slice aE aF aD,R ay I ax,R aA U az,C cn,R dq cr dp,R a0 iX c0] 80,J0,J1,J2,oL w 26 a0 iX c0]++r)∧(j_≤I.length)∧(iX=(eP I U).take j_)) _ ⟨0,sw,iH,jB,J,i0,J,(bJ J),H,aq,(by rw[aic bq];rfl)⟩ ?_
  rintro _ f0 w0 ⟨j_,iX,a0,c0,rfl,s0,s1,s2,H0,pB,hs⟩
  refine aB<|k<|lss J J s2 s1<|av<|sq<|cd (b:=decide ((j_:Int)<(I.length:Int))) J J (fun b1=>?_)<|fun b1=>?_
  ·
   have p1:=dT b1
   refine sk<|nx<|sq<|bk<|aB<|ak J s2<|au (v:=C (j_:Int)) J J<|av<|sq<|mg [.r,.r,.r,.r,.r,.r,.r,.r,.r,.r,.r,.r,.s,.s,.s,.n,.e,.s,.s,.s] (fun _=>True) J aC (fun _ _=>trivial)<|yq J J<|kq (fun _ _=>mv J s0 e1)<|bM<|kq (fun _ _=>nc J J e1)<|bM<|kq (fun _ _=>fa rG J J e1)<|bM<|kq (fun _ x_=>cz (H0.ext x_) 0 J dN J J aw J e1)<|bM<|kq (fun _ _=>mv J s0 e1)<|bM<|kq (fun _ _=>nc J J e1)<|bM<|kq (fun _ _=>fa xG J J e1)<|bM<|kq (fun _ x_=>cz (H0.ext x_) 0 J bm J J aw J e1)<|bM<|kq (fun _ _=>mv (v:=C (j_:Int)) J J e1)<|zq<|yu J (fun N v w'=>∃(o0:List dX) (o1:Int) (a1:OA) (c1:Nat) (a2:OA) (c2:Nat),v=.tuple #[.agg #[C ((I.length:Nat):Int),R a1 (cU I U (j_:Int)) c1],R a2 o0 c2,C o1,C 0]∧o0.length≤2000000000∧aM o1∧ot I.length o0∧RV (MN H0.fV N) w' (R a1 (cU I U (j_:Int)) c1) (cU I U (j_:Int))∧RV (MN H0.fV N) w' (R a2 o0 c2) o0) J ⟨by rintro _ _ _ _ x_ ⟨o0,o1,a1,c1,a2,c2,e_,q0,q1,q2,dY,fu⟩;exact⟨o0,o1,a1,c1,a2,c2,e_,q0,q1,q2,dY.lift (Up.ext x_),fu.lift (Up.ext x_)⟩,by rintro _ _ _ _ _ k_ ⟨o0,o1,a1,c1,a2,c2,e_,q0,q1,q2,dY,fu⟩;exact⟨o0,o1,a1,c1,a2,c2,e_,q0,q1,q2,gV dY k_,gV fu k_⟩⟩ J (fun v_ _ x_ n_=>have cS:=HB (I:=I) (U:=U) (mn:=cn) (mr:=cr) (o:=(j_:Int)) (aE:=aE) (aF:=aF) (aD:=aD) (w:=v_) (kC H0.mb x_ n_) (hT.ext (H0.below.trans x_)) (kc (H0.rv 1 J) x_ n_) (kc (H0.rv 2 J) x_ n_) km (kc (H0.rv 3 J) x_ n_) aT (by exact ho) (by exact du) (by exact eu) (by exact fG) (by exact oe) (by exact pC) aq;ca QQ rfl (ec J<|ec J<|ec J e0) cS (fun _ w2 ⟨o2,o3,a3,c3,a4,c4,e_,da,je,jT,q3,q4,q5⟩=>⟨_,J,da,⟨o2,o3,a3,c3,a4,c4,e_,q3,q4,q5,je,jT⟩⟩))<|lF J (fun N v w'=>∃(o4:List dX) (o5:Int) (a5:OA) (c5:Nat) (a6:OA) (c6:Nat),v=.tuple #[.agg #[C ((I.length:Nat):Int),R a5 (cU I U (j_:Int)) c5],R a6 o4 c6,C o5,C 0]∧o4.length≤2000000000∧aM o5∧ot I.length o4∧RV (MN H0.fV N) w' (R a5 (cU I U (j_:Int)) c5) (cU I U (j_:Int))∧RV (MN H0.fV N) w' (R a6 o4 c6) o4) 0 J J ⟨by rintro _ _ _ _ x_ ⟨o4,o5,a5,c5,a6,c6,e_,q6,q7,q8,jd,lq⟩;exact⟨o4,o5,a5,c5,a6,c6,e_,q6,q7,q8,jd.lift (Up.ext x_),lq.lift (Up.ext x_)⟩,by rintro _ _ _ _ _ k_ ⟨o4,o5,a5,c5,a6,c6,e_,q6,q7,q8,jd,lq⟩;exact⟨o4,o5,a5,c5,a6,c6,e_,q6,q7,q8,gV jd k_,gV lq k_⟩⟩ J (fun _ _ _ _ _ h_=>let ⟨o6,o7,a7,c7,a8,c8,s3,q9,uL,xa,oC,pw⟩:=h_;mv rfl s3 ⟨_,J,Ext.refl _,⟨o6,o7,a7,c7,a8,c8,J,q9,uL,xa,oC,pw⟩⟩)<|lF J (fun N v w'=>∃(a9:OA) (c9:Nat),v=.agg #[C ((I.length:Nat):Int),R a9 (cU I U (j_:Int)) c9]∧RV (MN H0.fV N) w' (R a9 (cU I U (j_:Int)) c9) (cU I U (j_:Int))) 0 J J kO J (fun _ _ _ _ _ h_=>let ⟨kf,eO,l3,lX,a12,nT,s4,Cl,Ck,ya,mR,pT⟩:=h_;xt rfl s4 rfl ⟨_,J,Ext.refl _,⟨l3,lX,J,mR⟩⟩)<|lF J (fun N v w'=>∃(jM:List dX) (la:OA) (k0:Nat),v=R la jM k0∧jM.length≤2000000000∧ot I.length jM∧RV (MN H0.fV N) w' (R la jM k0) jM) 1 J J ⟨by rintro _ _ _ _ x_ ⟨jM,la,k0,e_,wZ,wY,oD⟩;exact⟨jM,la,k0,e_,wZ,wY,oD.lift (Up.ext x_)⟩,by rintro _ _ _ _ _ k_ ⟨jM,la,k0,e_,wZ,wY,oD⟩;exact⟨jM,la,k0,e_,wZ,wY,gV oD k_⟩⟩ J (fun _ _ _ _ _ h_=>let ⟨Cy,Ee,tz,tw,As,Ao,s5,D',q22,Lg,wW,AO⟩:=h_;xt rfl s5 rfl ⟨_,J,Ext.refl _,⟨Cy,As,Ao,J,D',Lg,AO⟩⟩)<|lF J (fun _ v _=>∃(Cx:Int),v=C Cx∧aM Cx) 2 J J mE J (fun _ _ _ _ _ h_=>let ⟨Su,IX,Uy,T',a20,c20,s6,q27,R',q29,abk,abj⟩:=h_;xt rfl s6 rfl ⟨_,J,Ext.refl _,⟨IX,J,R'⟩⟩)<|Rj J (X:=C 0) 3 J J (fun _ _ _ _ _ h_=>let ⟨Ss,Oq,a23,c23,a24,yN,s7,q33,q34,q35,abi,abh⟩:=h_;xt rfl s7 rfl e1)<|yn (z:=#[C 0,.slice none 0 0]) J J (fun _=>Pr bm)<|ye<|lF J (fun N v w'=>∃(mG:List dX) (a25:OA) (EC:Nat),v=R a25 mG EC∧mG.length≤2000000000∧ot I.length mG∧RV (MN H0.fV N) w' (R a25 mG EC) mG) 2 J J ⟨by rintro _ _ _ _ x_ ⟨mG,a25,EC,e_,Cj,Ci,wV⟩;exact⟨mG,a25,EC,e_,Cj,Ci,wV.lift (Up.ext x_)⟩,by rintro _ _ _ _ _ k_ ⟨mG,a25,EC,e_,Cj,Ci,wV⟩;exact⟨mG,a25,EC,e_,Cj,Ci,gV wV k_⟩⟩ J (fun _ _ _ _ _ h_=>let ⟨Lq,a26,G',s8,R_,R9,Lc⟩:=h_;jG rfl s8 ⟨_,J,Ext.refl _,⟨Lq,a26,G',J,R_,R9,Lc⟩⟩)<|lF J (fun _ v _=>∃(si:Int),v=C si∧aM si) 2 J J mE J (fun _ _ _ _ _ h_=>let ⟨tF,s9,R8⟩:=h_;jG rfl s9 ⟨_,J,Ext.refl _,⟨tF,J,R8⟩⟩)<|yq J J<|kq (fun _ _=>jG (v:=C 0) J J e1)<|zq<|yz ?_
   intro w3 f1 _ eR _ _ cB iN
   obtain⟨aZ,eo,CS,sy,BH⟩:=iN 2 _ _ rfl
   have pD:=Pg (z:=#[C 0,.slice none 0 0]) (T:=26) CS sy BH<|Ph
   let J3:=box eE #[.slice aE aF aD,R ay I ax,R aA U az,C cn,R dq cr dp,R a0 iX c0] 80
   let J4:=oL w 26 a0 iX c0
   have H8:HI M w w3 ([box aZ #[C 0,.slice none 0 0] 26,J3,J0,J1,J2,J4]++r):=H0.DK eR pD (Ow Ov Ox)
   have fb:=(cB 0 J).trans s0
   have fM:=(cB 18 J).trans s1
   have fL:=(cB 19 J).trans s2
   obtain⟨Ar,An,gB,Lb⟩:=iN 5 _ _ rfl
   let J5:=iL Ar (cU I U (j_:Int)) An
   have H9:=H8.put (it:=J5) J<|rW Lb pD
   refine j5<|bt H9 1 J bm J J eo gB J J J ?_
   let J6:=box aZ #[C ((I.length:Nat):Int),R Ar (cU I U (j_:Int)) An] 26
   intro w4 (db:HI M w w4 ([J5,J6,J3,J0,J1,J2,J4]++r))
   refine kz<|nx<|mg [.s,.r,.r,.r,.r,.r,.r,.e,.f,.f,.e] (fun _=>True) J aC (fun _ _=>trivial)<|yq J J<|kq (fun _ _=>mv J fb e1)<|bM<|kq (fun _ _=>mv J fb e1)<|bM<|kq (fun _ _=>nc J J e1)<|bM<|kq (fun _ _=>fa C2 J J e1)<|bM<|kq (fun _ x_=>lx (db.ext x_) 2 J KH J J J e1)<|bM<|kq (fun _ x_=>cz (db.ext x_) 1 J bm J eo aw J e1)<|zq<|yu J (fun _ v w'=>∃(a28:OA) (re:Nat),v=R a28 ([(((I.length:Nat):Int),cU I U (j_:Int))]:List (Int×(List<|List bY))) re∧RV db.fV w' (R a28 ([(((I.length:Nat):Int),cU I U (j_:Int))]:List (Int×(List<|List bY))) re) ([(((I.length:Nat):Int),cU I U (j_:Int))]:List (Int×(List<|List bY)))) J jk J (fun v_ N_ x_ n_=>?_) ?_
   ·
    have cM:=db.ext x_
    refine bs (xs:=([(((I.length:Nat):Int),cU I U (j_:Int))]:List (Int×(List<|List bY)))) (cells:=#[C ((I.length:Nat):Int),R Ar (cU I U (j_:Int)) An]) (e:=26) cM J (cj J eh) (fun _=>aC) ⟨[C ((I.length:Nat):Int),R Ar (cU I U (j_:Int)) An],[],J,⟨_,_,J,⟨J,(show aM (((I.length:Nat):Int)) from aT)⟩,⟨_,J,RV.list.1 (cM.rv 0 J)⟩⟩,J⟩ J aw ?_
    intro g1 w6 ja (dW:HI M w w6 ([own w.heap.size 26 (.slice (some ⟨g1,0,none⟩) 1 1) ([(((I.length:Nat):Int),cU I U (j_:Int))]:List (Int×(List (List bY)))),J5,J6,J3,J0,J1,J2,J4]++r))
    have dt:=dW.freeze 0 J
    exact⟨_,J,ja,⟨(some ⟨g1,0,none⟩),1,J,(mK J<|dt.rv 0 J)⟩⟩
   refine ye<|yf J (fun _ _=>nc J J e3)<|yf J (fun _ _=>fa C2 J J e3)<|ye<|yz ?_
   intro w7 f2 _ ji _ _ fF zY
   have cR:=db.ext ji
   have gT:=(fF 0 J).trans fb
   have ky:=(fF 18 J).trans fM
   have ln:=(fF 19 J).trans fL
   have mQ:=fF 41 J
   obtain⟨oU,oS,mP,La⟩:=zY 0 _ _ rfl
   let J7:=iL oU ([(((I.length:Nat):Int),cU I U (j_:Int))]:List (Int×(List (List bY)))) oS
   have dM:=cR.put (it:=J7) J La
   have nM:=fF 46 J
   refine j5<|lA dM 7 J J J J mQ mP (dM.rv 0 J).src Hs bm J (by rw[hs];simp only[gY,iM,gr];omega) J ?_
   intro j1 jZ w8 (cF:HI M w w8 ([J7,J5,J6,J3,J0,J1,J2,oL w 26 j1 (iX++([(((I.length:Nat):Int),cU I U (j_:Int))]:List (Int×(List (List bY))))) jZ]++r))
   let J8:=oL w 26 j1 (iX++([(((I.length:Nat):Int),cU I U (j_:Int))]:List (Int×(List (List bY))))) jZ
   refine j5<|bt cF 3 J KH J J nM J J J J ?_
   let J9:=box eE #[.slice aE aF aD,R ay I ax,R aA U az,C cn,R dq cr dp,R j1 (iX++([(((I.length:Nat):Int),cU I U (j_:Int))]:List (Int×(List (List bY))))) jZ] 80
   let ba:=[J9,J0,J1,J2,J8]
   intro w9 (dV:HI M w w9 ((J7::J5::J6::ba)++r))
   refine kz<|aJ<|nx<|rg<|k<|add J J ln J aT<|ak (v:=C ((j_:Int)+1)) J J<|z ?_
   have dG:=dV.put (it:=J0) J<|dV.rv 4 J
   have ff:=dG.put (it:=J1) J<|dG.rv 6 J
   have iI:=ff.put (it:=J2) J<|ff.rv 8 J
   have iE:HI M w w9 ((J2::J1::J0::J7::J5::J6::ba)++r):=iI
   have kU:HI M w w9 (ba++r):=HI.aR (l:=(J2::J1::J0::J7::J5::J6::ba)) (l':=ba) (t:=r) iE [6,2,1,0,10] aw rfl rfl
   refine bB _ ?_ ⟨(j_+1),(iX++([(((I.length:Nat):Int),cU I U (j_:Int))]:List (Int×(List<|List bY)))),j1,jZ,J,gT,ky,(bJ J),kU,aq,(by rw[hs];exact RP aq)⟩
   omega
  have p1:=dF b1
  refine ex<|aW<|bc<|bg<|cO<|ak J s0<|k<|nc J J<|aS C2 J J<|bl H0 0 J KH J J J<|au (v:=R a0 iX c0) J J<|av<|rt<|r1 J J ?_
  have e0:(iX:List _)=(eP I U):=by rw[hs];exact ant (by rw[AL];omega)
  try rw[←e0]
  refine⟨a0,c0,?_,?_⟩
  · first|rfl|simp only[e0]|(simp only[anj])
  · first|exact H0|simpa +zetaDelta only[e0,anj] using H0
 refine sk<|cO<|ak J i0<|k<|nc J J<|aS C2 J J<|bl H 0 J KH J J J<|au (v:=R iH sw jB) J J<|av<|rt<|r1 J J ?_
 have e0:(sw:List _)=(eP I U):=by rcases hsw with ⟨h_,_⟩|h_;exact absurd (by rw[h_];rfl) (Bool.eq_false_iff.1 ‹iH.isNone=false›);exact h_
 try rw[←e0]
 refine⟨iH,jB,?_,?_⟩
 · first|rfl|simp only[e0]|(simp only[anj])
 · first|exact H|simpa +zetaDelta only[e0,anj] using H
theorem bR:ei aK 33 8 true 80 (.agg #[.int .i64 0,.int .i64 0,.int .i64 0,.int .i64 0,.int .i64 0,.slice none 0 0,.int .i64 0,.int .i64 0]):=⟨aC,aC⟩
theorem Fx:cu aK 60:=⟨_,_,Tryz.func60,rfl,aC⟩
theorem pG:gO aK 33 1 1:=⟨_,_,Tryz.underlying33,rfl,rfl,aC⟩
theorem QI:cu aK 62:=⟨_,_,Tryz.func62,rfl,aC⟩
theorem ng:gO aK 33 4 4:=⟨_,_,Tryz.underlying33,rfl,rfl,aC⟩
theorem Jy (hM:eG M w) (pe:aM lv):Calls aK 31 #[C lv] w (cg fun v w'=>∃(a0:OA) (c0:Nat),v=.slice a0 (dQ lv).length c0∧Ext w w'∧bj M 3 w (dQ lv) (.slice a0 (dQ lv).length c0) w'):=by
 refine dm 19 Tryz.func31 J J J hM fun f0 ha H=>?_
 have i0:f0 0=C lv:=ha 0 bh
 refine aB<|au (v:=.slice none 0 0) J J<|bp<|k<|bs (xs:=([1,2,3,4]:List Int)) (cells:=#[C 1,C 2,C 3,C 4]) (e:=3) H J (cj J<|cj J<|cj J<|cj J eh) (fun _=>aC) ⟨[C 1],[C 2,C 3,C 4],J,⟨J,(show aM (1) from aT)⟩,⟨[C 2],[C 3,C 4],J,⟨J,(show aM (2) from aT)⟩,⟨[C 3],[C 4],J,⟨J,(show aM (3) from aT)⟩,⟨[C 4],[],J,⟨J,(show aM (4) from aT)⟩,J⟩⟩⟩⟩ J aw ?_
 intro g0 w0 bT H0
 refine au (v:=.slice (some ⟨g0,0,none⟩) 4 4) J J<|av<|sq<|aB<|ak J i0<|av<|bk<|aB<|k<|eql J J J J<|au (v:=.bool (decide (lv=1))) J J<|z<|nx<|cd (b:=decide (lv=1)) J J (fun b0=>?_)<|fun b0=>?_
 ·
  refine aB<|ak (v:=.slice (some ⟨g0,0,none⟩) 4 4) J J<|au (v:=.slice (some ⟨g0,0,none⟩) 4 4) J J<|av<|rt<|bQ<|aL<|r1 J J ?_
  have e0:(([1,2,3,4]:List Int):List Int)=dQ lv:=by simp only[dQ,b0,BL]
  have l0:4=(dQ lv).length:=by rw[←e0];simp
  have bo:=iB (fun (uT:Nat)=>(.slice (some ⟨g0,0,none⟩) uT 4:Value)) l0
  exact⟨(some ⟨g0,0,none⟩),4,bo,H0.below,(ani (fun (n_:Nat)=>bj _ _ _ (dQ lv) (.slice (some ⟨g0,0,none⟩) n_ 4) _) l0).mp ((ani (fun (x_:List Int)=>bj _ _ _ x_ (.slice (some ⟨g0,0,none⟩) 4 4) _) e0).mp (H0.df 0 J))⟩
 refine aB<|k<|eql J J J J<|au (v:=.bool (decide (lv=2))) J J<|z<|nx<|cd (b:=decide (lv=2)) J J (fun b1=>?_)<|fun b1=>?_
 ·
  refine aB<|ak (v:=.slice (some ⟨g0,0,none⟩) 4 4) J J<|k<|bs (xs:=([5]:List Int)) (cells:=#[C 5]) (e:=3) H0 J (cj J eh) (fun _=>aC) ⟨[C 5],[],J,⟨J,(show aM (5) from aT)⟩,J⟩ J aw ?_
  intro g1 w1 da H1
  refine k<|lA H1 1 J J J J J J (gP<|H1.at_ 0 J) cK aV J bh J ?_
  intro a0 c0 w2 (H2:HI M w w2 [own w.heap.size 3 (.slice (some ⟨g1,0,none⟩) 1 1) ([5]:List Int),oL w 3 a0 (([1,2,3,4]:List Int)++([5]:List Int)) c0])
  refine au (v:=R a0 (([1,2,3,4]:List Int)++([5]:List Int)) c0) J J<|av<|rt<|bQ<|aL<|r1 J J ?_
  have e0:((([1,2,3,4]:List Int)++([5]:List Int)):List Int)=dQ lv:=by simp only[dQ,b0,b1,BL]
  have bo:=iB (fun (bW:List Int)=>(.slice a0 bW.length c0:Value)) e0
  exact⟨a0,c0,bo,H2.below,(ani (fun (x_:List Int)=>bj _ _ _ x_ (.slice a0 x_.length c0) _) e0).mp (H2.df 1 J)⟩
 refine aB<|k<|eql J J J J<|au (v:=.bool (decide (lv=3))) J J<|z<|nx<|cd (b:=decide (lv=3)) J J (fun b2=>?_)<|fun b2=>?_
 ·
  refine aB<|ak (v:=.slice (some ⟨g0,0,none⟩) 4 4) J J<|k<|bs (xs:=([6,7]:List Int)) (cells:=#[C 6,C 7]) (e:=3) H0 J (cj J<|cj J eh) (fun _=>aC) ⟨[C 6],[C 7],J,⟨J,(show aM (6) from aT)⟩,⟨[C 7],[],J,⟨J,(show aM (7) from aT)⟩,J⟩⟩ J aw ?_
  intro g1 w1 da H1
  refine k<|lA H1 1 J J J J J J (gP<|H1.at_ 0 J) cK aV J bh J ?_
  intro a0 c0 w2 (H2:HI M w w2 [own w.heap.size 3 (.slice (some ⟨g1,0,none⟩) 2 2) ([6,7]:List Int),oL w 3 a0 (([1,2,3,4]:List Int)++([6,7]:List Int)) c0])
  refine au (v:=R a0 (([1,2,3,4]:List Int)++([6,7]:List Int)) c0) J J<|av<|rt<|bQ<|aL<|r1 J J ?_
  have e0:((([1,2,3,4]:List Int)++([6,7]:List Int)):List Int)=dQ lv:=by simp only[dQ,b0,b1,b2,BL]
  have bo:=iB (fun (bW:List Int)=>(.slice a0 bW.length c0:Value)) e0
  exact⟨a0,c0,bo,H2.below,(ani (fun (x_:List Int)=>bj _ _ _ x_ (.slice a0 x_.length c0) _) e0).mp (H2.df 1 J)⟩
 refine sk<|aJ<|cO<|au (v:=.slice none 0 0) J J<|av<|rt<|r1 J J ?_
 have e0:([]:List Int)=dQ lv:=by simp only[dQ,b0,b1,b2,BL]
 have bo:=iB (fun (bW:List Int)=>(.slice none bW.length 0:Value)) e0
 exact⟨none,0,bo,H0.below,(ani (fun (x_:List Int)=>bj _ _ _ x_ (.slice none x_.length 0) _) e0).mp (fN H0.below)⟩
theorem qO (lQ:aM kd):Calls aK 60 #[C kd] w (cg fun v w'=>v=.agg #[C kd,C (-1),C (-1),C (-1),C (-1),.slice none 0 0,C (-1),C (-1)]∧Ext w w'):=by
 refine dm 5 Tryz.func60 J J J py fun f0 ha H=>?_
 have i0:f0 0=C kd:=ha 0 bh
 refine aB<|k<|al H bR ?_
 intro aX w0 bT (H0:HI (fun _=>False) w w0 [box aX #[C 0,C 0,C 0,C 0,C 0,.slice none 0 0,C 0,C 0] 33])
 refine bp<|ak J i0<|k<|bd (v:=.agg #[C kd,C (-1),C (-1),C (-1),C (-1),.slice none 0 0,C (-1),C (-1)]) J (cj J<|cj J<|cj J<|cj J<|cj J<|cj J<|cj J eh) (fun _=>aC)<|k<|bt H0 0 J bR J J J J J J J ?_
 intro w1 (H1:HI (fun _=>False) w w1 [box aX #[C kd,C (-1),C (-1),C (-1),C (-1),.slice none 0 0,C (-1),C (-1)] 33])
 refine av<|rt<|oY H1 0 J bR J J J J aw ?_
 exact⟨J,H1.below⟩
theorem W7 (hM:eG M w) (dy:cA M w ay ax I) (fZ:cA M w aA az U) (km:aM cn) (nF:cA M w dq dp cr) (lQ:aM kd) (kZ:w.heap[eE]? =some (.cells #[.slice aE aF aD,R ay I ax,R aA U az,C cn,R dq cr dp,.slice iH rn jB] l4 (0,0))∧¬M eE):Calls aK 33 #[.pointer (some ⟨eE,0,none⟩),C kd] w (cg fun v w'=>∃(k_:Int) (r_:Int) (a_:Int) (b_:Int) (o_:Int) (f_:Int) (s_:Int),v=.tuple #[.agg #[C k_,C r_,C a_,C b_,C o_,.slice none 0 0,C f_,C s_],.bool ((oZ U kd).isSome)]∧Ext w w'∧qg (oZ U kd) k_ r_ a_ b_ o_):=by
 refine dm 20 Tryz.func33 J J J hM fun f0 ha H=>?_
 let J0:=iL ay I ax
 have H0:=H.put (it:=J0) J<|by rw[bN];exact dy
 let J1:=iL aA U az
 have H1:=H0.put (it:=J1) J<|by rw[aG rfl,bN];exact fZ
 let J2:=iL dq cr dp
 have H2:=H1.put (it:=J2) J<|by rw[aG rfl,aG rfl,bN];exact nF
 have iU:=bf dy
 have kE:=bf fZ
 have A5:=bf nF
 let J3:=ro eE #[.slice aE aF aD,R ay I ax,R aA U az,C cn,R dq cr dp,.slice iH rn jB] l4
 have H3:=H2.put (it:=J3) J<|by rw[aG rfl,aG rfl,aG rfl,bN];exact kZ
 have i0:f0 0=pV eE 0:=ha 0 bh
 have i1:f0 1=C kd:=ha 1 bh
 refine aB<|k<|al H3 bR ?_
 let ba:=[J3,J2,J1,J0]
 intro aX w0 bT (H4:HI M w w0 (box aX #[C 0,C 0,C 0,C 0,C 0,.slice none 0 0,C 0,C 0] 33::ba))
 let J4:=box aX #[C 0,C 0,C 0,C 0,C 0,.slice none 0 0,C 0,C 0] 33
 refine au (v:=.bool false) J J<|bp<|ak J i1<|k ?_
 have bP:=qO (kd:=kd) (w:=w0) lQ
 refine ca Fx J (ec J e0) bP ?_
 rintro _ w1 ⟨rfl,da⟩
 have H5:=H4.ext da
 refine k<|al H5 bR ?_
 intro aZ w2 eR (H6:HI M w w2 (box aZ #[C 0,C 0,C 0,C 0,C 0,.slice none 0 0,C 0,C 0] 33::J4::ba))
 refine k<|bt H6 0 J bR J J J J J J J ?_
 intro w3 (H7:HI M w w3 (box aZ #[C kd,C (-1),C (-1),C (-1),C (-1),.slice none 0 0,C (-1),C (-1)] 33::J4::ba))
 refine bp<|ak J i0<|k<|nc J J<|aS rG J J<|aS tq J J<|k<|lr H7 2 J qm J J J<|k ?_
 have cS:=I6 (rA:=U) (tE:=(-2)) H7.mb (H7.rv 4 J) aT
 refine ca adu J (ec J<|ec J e0) cS ?_
 rintro _ w4 ⟨rfl,fH⟩
 have H8:=H7.ext fH
 refine aS pG J J<|k<|bt H8 0 J aV J J J J J J J ?_
 intro w5 (H9:HI M w w5 (box aZ #[C kd,C (eA (fun (z_:Int)=>decide ((-2)=z_)) U),C (-1),C (-1),C (-1),.slice none 0 0,C (-1),C (-1)] 33::J4::ba))
 refine av<|sq<|mg [.r,.f,.f,.f,.e,.s] (fun w'=>HI M w w' [box aZ #[C kd,C (eA (fun (z_:Int)=>decide ((-2)=z_)) U),C (-1),C (-1),C (-1),.slice none 0 0,C (-1),C (-1)] 33]) J aC (fun _ x_=>(H9.bU (l':=[box aZ #[C kd,C (eA (fun (z_:Int)=>decide ((-2)=z_)) U),C (-1),C (-1),C (-1),.slice none 0 0,C (-1),C (-1)] 33]) [0] aw J).ext x_)<|yq J J<|kq (fun _ x_=>cz (H9.ext x_) 0 J bR J J aw J e1)<|zq<|yf J (fun _ _=>fa pG J J e3)<|yf J (fun _ i_=>lx i_ 0 J aV J J J e3)<|yf J (fun _ _=>geq J J J J e3)<|ye<|yq J J<|kq (fun _ _=>jG (v:=.bool (decide (0≤(eA (fun (z_:Int)=>decide ((-2)=z_)) U)))) J J e1)<|zq<|yz ?_
 intro w6 f0 _ ja _ _ cB iN
 have dH:=H9.ext ja
 have s0:=cB 4 J
 have s1:=cB 5 J
 have s2:=cB 16 J
 refine ke<|bt dH 1 J bR J J s0 s2 J J J ?_
 intro w7 (db:HI M w w7 (box aZ #[C kd,C (eA (fun (z_:Int)=>decide ((-2)=z_)) U),C (-1),C (-1),C (-1),.slice none 0 0,C (-1),C (-1)] 33::box aX #[C kd,C (eA (fun (z_:Int)=>decide ((-2)=z_)) U),C (-1),C (-1),C (-1),.slice none 0 0,C (-1),C (-1)] 33::ba))
 refine⟨db.bU [0] aw rfl,?_⟩
 refine kz<|nx<|rt<|im db 1 J bR J J J s0 J aw ?_
 try simp only[cX]
 rw[s1]
 have e1:(eA (fun (z_:Int)=>decide ((-2)=z_)) U:Int)=(eA (fun (z_:Int)=>decide ((-2)=z_)) U):=rfl
 have e8:(decide (0≤(eA (fun (z_:Int)=>decide ((-2)=z_)) U)):Bool)=(oZ U kd).isSome:=by exact NY
 have bo:=nA (fun (dK:Int) (lG:Bool)=>(.tuple #[.agg #[C kd,C dK,C (-1),C (-1),C (-1),.slice none 0 0,C (-1),C (-1)],.bool lG]:Value)) e1 e8
 exact⟨kd,(eA (fun (z_:Int)=>decide ((-2)=z_)) U),(-1),(-1),(-1),(-1),(-1),bo,db.below,(by exact aa5 lQ aq)⟩
theorem Ul {abM:Nat} (hM:eG M w) (km:aM cn) (nF:cA M w dq dp cr) (lQ:aM kd) (kZ:w.heap[eE]? =some (.cells #[.slice aE aF aD,.slice ay abM ax,.slice aA eU az,C cn,R dq cr dp,.slice iH rn jB] l4 (0,0))∧¬M eE) (kY:bF cn cr=true):Calls aK 34 #[.pointer (some ⟨eE,0,none⟩),C kd] w (cg fun v w'=>∃(k_:Int) (r_:Int) (a_:Int) (b_:Int) (o_:Int) (f_:Int) (s_:Int),v=.tuple #[.agg #[C k_,C r_,C a_,C b_,C o_,.slice none 0 0,C f_,C s_],.bool ((j8 cn cr kd).isSome)]∧Ext w w'∧qg (j8 cn cr kd) k_ r_ a_ b_ o_):=by
 refine dm 24 Tryz.func34 J J J hM fun f0 ha H=>?_
 let J0:=iL dq cr dp
 have H0:=H.put (it:=J0) J<|by rw[bN];exact nF
 let J1:=ro eE #[.slice aE aF aD,.slice ay abM ax,.slice aA eU az,C cn,R dq cr dp,.slice iH rn jB] l4
 have H1:=H0.put (it:=J1) J<|by rw[aG rfl,bN];exact kZ
 have i0:f0 0=pV eE 0:=ha 0 bh
 have i1:f0 1=C kd:=ha 1 bh
 refine aB<|k<|al H1 bR ?_
 intro aX w0 bT (H2:HI M w w0 [box aX #[C 0,C 0,C 0,C 0,C 0,.slice none 0 0,C 0,C 0] 33,J1,J0])
 let J2:=box aX #[C 0,C 0,C 0,C 0,C 0,.slice none 0 0,C 0,C 0] 33
 refine au (v:=.bool false) J J<|bp<|ak J i1<|k ?_
 have bP:=qO (kd:=kd) (w:=w0) lQ
 refine ca Fx J (ec J e0) bP ?_
 rintro _ w1 ⟨rfl,da⟩
 have H3:=H2.ext da
 refine k<|al H3 bR ?_
 intro aZ w2 eR (H4:HI M w w2 [box aZ #[C 0,C 0,C 0,C 0,C 0,.slice none 0 0,C 0,C 0] 33,J2,J1,J0])
 refine k<|bt H4 0 J bR J J J J J J J ?_
 let J3:=box aZ #[C kd,C (-1),C (-1),C (-1),C (-1),.slice none 0 0,C (-1),C (-1)] 33
 intro w3 (H5:HI M w w3 [J3,J2,J1,J0])
 refine bp<|ak J i0<|k<|nc J J<|aS xG J J<|k<|vS H5 2 J bm J J aw J<|k ?_
 have cS:=yw (mn:=cn) (mr:=cr) H5.mb km (H5.rv 3 J)<|by exact kY
 refine ca QI J (ec J e0) cS ?_
 rintro _ w4 ⟨rfl,fH⟩
 have H6:=H5.ext fH
 refine ak (v:=.tuple #[C (((cQ cn cr).getD 0:Nat):Int),.bool ((cQ cn cr).isSome)]) J J<|k<|xt J J J<|k<|xt J J J<|au (v:=C (((cQ cn cr).getD 0:Nat):Int)) J J<|au (v:=.bool ((cQ cn cr).isSome)) J J<|av<|sq<|aB<|ak (v:=.bool ((cQ cn cr).isSome)) J J<|z<|nx<|cd (b:=(cQ cn cr).isSome) J J (fun b0=>?_)<|fun b0=>?_
 ·
  refine rg<|ak (v:=C (((cQ cn cr).getD 0:Nat):Int)) J J<|aS ng J J<|k<|bt H6 0 J aV J J J J J J J ?_
  let J4:=box aZ #[C kd,C (-1),C (-1),C (-1),C (((cQ cn cr).getD 0:Nat):Int),.slice none 0 0,C (-1),C (-1)] 33
  intro w5 (H7:HI M w w5 [J4,J2,J1,J0])
  refine bp<|k<|cz H7 0 J bR J J aw J<|ak (v:=.bool ((cQ cn cr).isSome)) J J<|k<|bt H7 1 J bR J J J J J J J ?_
  intro w6 (H8:HI M w w6 [J4,box aX #[C kd,C (-1),C (-1),C (-1),C (((cQ cn cr).getD 0:Nat):Int),.slice none 0 0,C (-1),C (-1)] 33,J1,J0])
  refine au (v:=.bool ((cQ cn cr).isSome)) J J<|av<|rt<|im H8 1 J bR J J J J J aw ?_
  have e8:((cQ cn cr).isSome:Bool)=(j8 cn cr kd).isSome:=by exact Cd
  have bo:=iB (fun (lG:Bool)=>(.tuple #[.agg #[C kd,C (-1),C (-1),C (-1),C (((cQ cn cr).getD 0:Nat):Int),.slice none 0 0,C (-1),C (-1)],.bool lG]:Value)) e8
  exact⟨kd,(-1),(-1),(-1),(((cQ cn cr).getD 0:Nat):Int),(-1),(-1),bo,H8.below,(by have h_:=(bO kY).2.2.1;first|exact PQ lQ aq bq|exact PS lQ bq)⟩
 refine sk<|cO<|k<|cz H6 0 J bR J J aw J<|ak (v:=.bool ((cQ cn cr).isSome)) J J<|k<|bt H6 1 J bR J J J J J J J ?_
 intro w5 (H7:HI M w w5 [J3,box aX #[C kd,C (-1),C (-1),C (-1),C (-1),.slice none 0 0,C (-1),C (-1)] 33,J1,J0])
 refine au (v:=.bool ((cQ cn cr).isSome)) J J<|av<|rt<|im H7 1 J bR J J J J J aw ?_
 have e8:((cQ cn cr).isSome:Bool)=(j8 cn cr kd).isSome:=by exact Cd
 have bo:=iB (fun (lG:Bool)=>(.tuple #[.agg #[C kd,C (-1),C (-1),C (-1),C (-1),.slice none 0 0,C (-1),C (-1)],.bool lG]:Value)) e8
 exact⟨kd,(-1),(-1),(-1),(-1),(-1),(-1),bo,H7.below,(by have h_:=(bO kY).2.2.1;first|exact PQ lQ aq bq|exact PS lQ bq)⟩
theorem MK (hM:eG M w) (hT:fP 0 w) (dy:cA M w ay ax I) (fZ:cA M w aA az U) (km:aM cn) (nF:cA M w dq dp cr) (lQ:aM kd) (kZ:w.heap[eE]? =some (.cells #[.slice aE aF aD,R ay I ax,R aA U az,C cn,R dq cr dp,.slice iH rn jB] l4 (0,0))∧¬M eE) (ho:gX I) (du:I.length≤64) (eu:U.length=I.length) (fG:∀x∈U,x<((I.length:Nat):Int)) (oe:cn=((I.length:Nat):Int)) (pC:cr=cp I U):Calls aK 37 #[.pointer (some ⟨eE,0,none⟩),C kd] w (cg fun v w'=>∃(k_:Int) (r_:Int) (a_:Int) (b_:Int) (o_:Int) (f_:Int) (s_:Int),v=.tuple #[.agg #[C k_,C r_,C a_,C b_,C o_,.slice none 0 0,C f_,C s_],.bool ((j8 ((I.length:Nat):Int) (Al I U) kd).isSome)]∧Ext w w'∧qg (j8 ((I.length:Nat):Int) (Al I U) kd) k_ r_ a_ b_ o_):=by
 refine dm 52 Tryz.func37 J J J hM fun f0 ha H=>?_
 let J0:=iL ay I ax
 have H0:=H.put (it:=J0) J<|by rw[bN];exact dy
 let J1:=iL aA U az
 have H1:=H0.put (it:=J1) J<|by rw[aG rfl,bN];exact fZ
 let J2:=iL dq cr dp
 have H2:=H1.put (it:=J2) J<|by rw[aG rfl,aG rfl,bN];exact nF
 have iU:=bf dy
 have kE:=bf fZ
 have A5:=bf nF
 let J3:=ro eE #[.slice aE aF aD,R ay I ax,R aA U az,C cn,R dq cr dp,.slice iH rn jB] l4
 have H3:=H2.put (it:=J3) J<|by rw[aG rfl,aG rfl,aG rfl,bN];exact kZ
 have i0:f0 0=pV eE 0:=ha 0 bh
 have i1:f0 1=C kd:=ha 1 bh
 have kY:bF cn cr=true:=by rw[oe,pC];exact pj U aq
 refine aB<|k<|al H3 bR ?_
 let ba:=[J3,J2,J1,J0]
 intro aX w0 bT (H4:HI M w w0 (box aX #[C 0,C 0,C 0,C 0,C 0,.slice none 0 0,C 0,C 0] 33::ba))
 let J4:=box aX #[C 0,C 0,C 0,C 0,C 0,.slice none 0 0,C 0,C 0] 33
 refine au (v:=.bool false) J J<|bp<|ak J i0<|k<|nc J J<|aS xG J J<|k<|vS H4 1 J bm J J aw J<|k<|al H4 bm ?_
 let bZ:=J4::ba
 intro aZ w1 da (H5:HI M w w1 (box aZ #[C 0,.slice none 0 0] 26::bZ))
 refine k<|bt H5 0 J bm J J J J J J J ?_
 intro w2 (H6:HI M w w2 (box aZ #[C cn,R dq cr dp] 26::bZ))
 refine av<|sq<|sq<|TU J aC<|xq J<|kq (fun _ _=>mv J i0 e1)<|zq<|xq J<|kq (fun _ _=>nc J J e1)<|zq<|xq J<|kq (fun _ _=>fa rG J J e1)<|zq<|xq J<|kq (fun _ x_=>vS (H6.ext x_) 2 J dN J J aw J e1)<|zq<|xq J<|kq (fun _ _=>mv J i0 e1)<|zq<|xq J<|kq (fun _ _=>nc J J e1)<|zq<|xq J<|kq (fun _ _=>fa xG J J e1)<|zq<|xq J<|kq (fun _ x_=>vS (H6.ext x_) 2 J bm J J aw J e1)<|zq<|xu (fun v w'=>∃(a0:OA) (c0:Nat),v=R a0 (cH I U cn cr) c0∧RV H6.fV w' (R a0 (cH I U cn cr) c0) (cH I U cn cr)) J (by rintro _ _ _ x_ ⟨a0,c0,e_,dZ⟩;exact⟨a0,c0,e_,dZ.lift (Up.ext x_)⟩) J (fun v_ x_=>have cS:=uB (I:=I) (U:=U) (mn:=cn) (mr:=cr) (aE:=aE) (aF:=aF) (aD:=aD) (w:=v_) (H6.ext x_).mb (hT.ext (H6.ext x_).below) ((H6.ext x_).rv 5 rfl) ((H6.ext x_).rv 4 rfl) km ((H6.ext x_).rv 3 rfl) aq (by exact eu) (by exact fG) (by exact kY);ca QH rfl (ec J<|ec J e0) cS (fun _ w4 ⟨a1,c1,e_,fH,dY⟩=>⟨_,J,fH,⟨a1,c1,e_,(bj.rv dY (H6.ext x_).mb)⟩⟩))<|xk1 (X:=C ((cH I U cn cr).length:Int)) 0 J J (fun _ _ _ h_=>let ⟨a3,c3,s0,jT⟩:=h_;dP rfl s0 ej e1)<|xq J<|kq (fun _ _=>mv (v:=C 0) J J e1)<|zq<|zx ?_
 intro w5 f0 ja cB iN
 have cM:=H6.ext ja
 have s1:=(cB 1 J).trans i1
 have s2:=cB 4 J
 have s3:=cB 6 J
 obtain⟨a4,c4,s4,jd⟩:=iN 0 _ _ rfl
 let J5:=iL a4 (cH I U cn cr) c4
 have dW:=cM.put (it:=J5) J jd
 have s5:=cB 25 J
 have s6:=cB 26 J
 refine nx<|bk ?_
 have dt:=dW.put (it:=J2) J<|dW.rv 4 J
 refine lp (fun m f w'=>∃(q_:Nat) (fR:Int) (fE:List (List bY)) (a5:OA) (c5:Nat),m=(cH I U cn cr).length-q_∧f 1=C kd∧f 4=pV aX 0∧f 6=pV aZ 0∧f 24=R a4 (cH I U cn cr) c4∧f 25=C ((cH I U cn cr).length:Int)∧f 26=C (q_:Int)∧HI M w w' (iL a5 fE c5::J5::box aZ #[C fR,R a5 fE c5] 26::bZ)∧(q_≤(cH I U cn cr).length)∧(fR=cn∧fE=lZ cn cr ((cH I U cn cr).take q_))) _ ⟨0,cn,cr,dq,dp,J,s1,s2,s3,s4,s5,(bJ s6),dt,aq,(by exact⟨J,J⟩)⟩ ?_
 rintro _ f1 w6 ⟨q_,fR,fE,a5,c5,rfl,s7,s8,s9,eo,fb,fM,cR,so,n9⟩
 refine sq ?_
 have OR:=qM (I:=I) (U:=U) kY;have QB:=OR.1
 have r6:=YQ eu fG oe pC OR
 refine rg<|k<|lss J J fM fb<|av<|sq<|cd (b:=decide ((q_:Int)<((cH I U cn cr).length:Int))) J J (fun b0=>?_)<|fun b0=>?_
 ·
  have p0:=dT b0
  refine sk<|nx<|sq<|bk<|aB<|k<|ia (cR.rv 1 J) J J eo fM aq ej cI ?_
  intro iC x0 aP ct
  refine k<|nt ct.w cI J J ?_
  intro v0 lq
  obtain⟨_,⟨_,_,rfl,⟨rfl,oC⟩,⟨_,_,rfl,⟨rfl,pw⟩,⟨rfl,rk⟩⟩⟩,rfl⟩:=lq
  refine k<|al cR cI ?_
  let dE:=iL a5 fE c5::J5::box aZ #[C fR,R a5 fE c5] 26::bZ
  intro bD w7 ji (dM:HI M w w7 (box bD #[C 0,C 0,C 0] 122::dE))
  refine k<|bt dM 0 J cI J J J J J J J ?_
  intro w8 (dI:HI M w w8 (box bD #[C x0.1,C x0.2.1,C x0.2.2] 122::dE))
  refine av<|rg<|k<|cz dI 3 J bm J s9 aw J<|aS kK J J<|bl dI 0 J aV J J J<|aS mM J J<|bl dI 0 J aV J J J<|k ?_
  have fS:=Fj (mn:=fR) (mr:=fE) (i:=x0.1) (j:=x0.2.1) dI.mb aT (dI.rv 1 J) oC pw<|by exact T4 aq oe pC r6 n9
  refine ca We J (ec J<|ec J<|ec J e0) fS ?_
  rintro _ w9 ⟨a6,c6,rfl,kb,nZ⟩
  have cF:=dI.ext kb
  let J6:=iL a6 (gU fR fE x0.1 x0.2.1) c6
  have dV:=cF.put (it:=J6) J nZ
  refine ak (v:=.tuple #[.agg #[C (ie fR x0.1 x0.2.1),R a6 (gU fR fE x0.1 x0.2.1) c6],C (lC fR x0.1 x0.2.1)]) J J<|k<|xt J J J<|k<|xt J J J<|k<|bt dV 4 J bm J J s9 J J J J ?_
  let J7:=box aZ #[C (ie fR x0.1 x0.2.1),R a6 (gU fR fE x0.1 x0.2.1) c6] 26
  intro dL (dG:HI M w dL (J6::box bD #[C x0.1,C x0.2.1,C x0.2.2] 122::iL a5 fE c5::J5::J7::bZ))
  refine z<|aJ<|nx<|rg<|k<|add J J fM J aT<|ak (v:=C ((q_:Int)+1)) J J<|z ?_
  have eS:=dG.put (it:=J6) J<|dG.rv 0 J
  have ff:HI M w dL (J6::J5::J7::bZ):=eS.bU [0,4,5,6,7,8,9,10] aw rfl
  refine bB _ ?_ ⟨(q_+1),(ie fR x0.1 x0.2.1),(gU fR fE x0.1 x0.2.1),a6,c6,J,s7,s8,s9,eo,fb,(bJ J),ff,aq,(by exact Bu n9 aP (KR oe r6 aP))⟩
  omega
 have p0:=dF b0
 refine ex<|aW<|bc<|bg<|cO<|ak J s7<|k ?_
 have fS:=qO (kd:=kd) (w:=w6) lQ
 refine ca Fx J (ec J e0) fS ?_
 rintro _ w7 ⟨rfl,ji⟩
 have dM:=cR.ext ji
 refine k<|al dM bR ?_
 let J8:=box aZ #[C fR,R a5 fE c5] 26
 let iO:=iL a5 fE c5::J5::J8::bZ
 intro bD w8 kb (dI:HI M w w8 (box bD #[C 0,C 0,C 0,C 0,C 0,.slice none 0 0,C 0,C 0] 33::iO))
 refine k<|bt dI 0 J bR J J J J J J J ?_
 let J9:=box bD #[C kd,C (-1),C (-1),C (-1),C (-1),.slice none 0 0,C (-1),C (-1)] 33
 intro w9 (cF:HI M w w9 (J9::iO))
 refine av<|sq ?_
 have BE:=adY eu fG oe pC OR n9 aq
 refine rg<|k<|cz cF 3 J bm J s9 aw J<|k ?_
 have eX:=yw (mn:=fR) (mr:=fE) cF.mb aT (cF.rv 1 J)<|by exact T4 aq oe pC r6 n9
 refine ca QI J (ec J e0) eX ?_
 rintro _ dL ⟨rfl,ma⟩
 have dV:=cF.ext ma
 refine ak (v:=.tuple #[C (((cQ fR fE).getD 0:Nat):Int),.bool ((cQ fR fE).isSome)]) J J<|k<|xt J J J<|k<|xt J J J<|au (v:=C (((cQ fR fE).getD 0:Nat):Int)) J J<|au (v:=.bool ((cQ fR fE).isSome)) J J<|av<|sq<|aB<|ak (v:=.bool ((cQ fR fE).isSome)) J J<|z<|nx<|cd (b:=(cQ fR fE).isSome) J J (fun b1=>?_)<|fun b1=>?_
 ·
  refine rg<|ak (v:=C (((cQ fR fE).getD 0:Nat):Int)) J J<|aS ng J J<|k<|bt dV 0 J aV J J J J J J J ?_
  let dO:=box bD #[C kd,C (-1),C (-1),C (-1),C (((cQ fR fE).getD 0:Nat):Int),.slice none 0 0,C (-1),C (-1)] 33
  intro ef (dG:HI M w ef (dO::iO))
  refine bp<|k<|cz dG 0 J bR J J aw J<|ak (v:=.bool ((cQ fR fE).isSome)) J J<|k<|bt dG 4 J bR J J s8 J J J J ?_
  intro fh (eS:HI M w fh (dO::iL a5 fE c5::J5::J8::box aX #[C kd,C (-1),C (-1),C (-1),C (((cQ fR fE).getD 0:Nat):Int),.slice none 0 0,C (-1),C (-1)] 33::ba))
  refine au (v:=.bool ((cQ fR fE).isSome)) J J<|av<|rt<|im eS 4 J bR J J J s8 J aw ?_
  have e8:((cQ fR fE).isSome:Bool)=(j8 ((I.length:Nat):Int) (Al I U) kd).isSome:=by exact N7 BE
  have bo:=iB (fun (lG:Bool)=>(.tuple #[.agg #[C kd,C (-1),C (-1),C (-1),C (((cQ fR fE).getD 0:Nat):Int),.slice none 0 0,C (-1),C (-1)],.bool lG]:Value)) e8
  exact⟨kd,(-1),(-1),(-1),(((cQ fR fE).getD 0:Nat):Int),(-1),(-1),bo,eS.below,(by exact abp BE lQ aq bq)⟩
 refine sk<|cO<|k<|cz dV 0 J bR J J aw J<|ak (v:=.bool ((cQ fR fE).isSome)) J J<|k<|bt dV 4 J bR J J s8 J J J J ?_
 intro ef (dG:HI M w ef (J9::iL a5 fE c5::J5::J8::box aX #[C kd,C (-1),C (-1),C (-1),C (-1),.slice none 0 0,C (-1),C (-1)] 33::ba))
 refine au (v:=.bool ((cQ fR fE).isSome)) J J<|av<|rt<|im dG 4 J bR J J J s8 J aw ?_
 have e8:((cQ fR fE).isSome:Bool)=(j8 ((I.length:Nat):Int) (Al I U) kd).isSome:=by exact N7 BE
 have bo:=iB (fun (lG:Bool)=>(.tuple #[.agg #[C kd,C (-1),C (-1),C (-1),C (-1),.slice none 0 0,C (-1),C (-1)],.bool lG]:Value)) e8
 exact⟨kd,(-1),(-1),(-1),(-1),(-1),(-1),bo,dG.below,(by exact abq BE lQ bq)⟩
theorem Wf:cu aK 63:=⟨_,_,Tryz.func63,rfl,aC⟩
theorem nQ:gO aK 33 2 2:=⟨_,_,Tryz.underlying33,rfl,rfl,aC⟩
theorem De {abN:Nat} (hM:eG M w) (hT:fP 0 w) (dy:cA M w ay ax I) (km:aM cn) (fY:aM mn) (gl:cA M w bA bz mr) (GD:aM fw) (kZ:w.heap[eE]? =some (.cells #[.slice aE aF aD,R ay I ax,.slice aA eU az,C cn,.slice dq abN dp,.slice iH rn jB] l4 (0,0))∧¬M eE) (bV:bF mn mr=true) (ah7:0≤fw∧fw<((I.length:Nat):Int)):Calls aK 63 #[.pointer (some ⟨eE,0,none⟩),.agg #[C mn,R bA mr bz],C fw] w (cg fun v w'=>∃(a0:OA) (c0:Nat),v=.slice a0 (dh I mn mr fw).length c0∧Ext w w'∧RV (fun b=>b<w.heap.size) w' (.slice a0 (dh I mn mr fw).length c0) (dh I mn mr fw)):=by
 refine dm 24 Tryz.func63 J J J hM fun f0 ha H=>?_
 have H0:=dS H dy
 have H1:=dS H0 gl
 let J0:=ro eE #[.slice aE aF aD,R ay I ax,.slice aA eU az,C cn,.slice dq abN dp,.slice iH rn jB] l4
 have H2:=H1.put (it:=J0) J<|by rw[aG rfl,aG rfl,bN];exact kZ
 have i0:f0 0=pV eE 0:=ha 0 bh
 have i1:f0 1=.agg #[C mn,R bA mr bz]:=ha 1 bh
 have i2:f0 2=C fw:=ha 2 bh
 refine aB<|k<|bx H2 J i1 ?_
 intro aX w0 bT (H3:HI M w w0 [box aX #[C mn,R bA mr bz] 26,J0,iL bA mr bz,iL ay I ax])
 refine au (v:=.slice none 0 0) J J<|av<|sq<|TU J aC<|xq J<|kq (fun _ _=>mv J i0 e1)<|zq<|xq J<|kq (fun _ _=>nc J J e1)<|zq<|xq J<|kq (fun _ _=>fa rG J J e1)<|zq<|xq J<|kq (fun _ x_=>vS (H3.ext x_) 1 J dN J J aw J e1)<|zq<|xq J<|kq (fun _ x_=>cz (H3.ext x_) 0 J bm J J aw J e1)<|zq<|xq J<|kq (fun _ _=>mv J i2 e1)<|zq<|xu (fun v w'=>∃(a0:OA) (c0:Nat),v=R a0 (eQ mn mr fw) c0∧RV (fun c_=>c_<w0.heap.size) w' (R a0 (eQ mn mr fw) c0) (eQ mn mr fw)) J (by rintro _ _ _ x_ ⟨a0,c0,e_,dZ⟩;exact⟨a0,c0,e_,dZ.lift (Up.ext x_)⟩) J (fun v_ x_=>have cS:=Od (mn:=mn) (mr:=mr) (o:=fw) (w:=v_) (H3.ext x_).mb (hT.ext (H3.ext x_).below) fY ((H3.ext x_).rv 2 rfl) GD (by exact bV);ca YG rfl (ec J<|ec J e0) cS (fun _ w2 ⟨a1,c1,e_,eR,dY⟩=>⟨_,J,eR,⟨a1,c1,e_,(bj.rvN dY x_)⟩⟩))<|xq J<|kq (fun _ _=>mv J i0 e1)<|zq<|xq J<|kq (fun _ _=>nc J J e1)<|zq<|xq J<|kq (fun _ _=>fa rG J J e1)<|zq<|xq J<|kq (fun _ _=>fa fB J J e1)<|zq<|xq J<|kq (fun _ x_=>lr (H3.ext x_) 1 J jb J J J e1)<|zq<|xq J<|kq (fun _ _=>mv J i2 e1)<|zq<|xq J<|ub (H3.rv 3 J) J J J J aq js jy ?_
 intro iC x0 aP ct
 refine zq<|xq J<|kq (fun _ _=>fa tm J J e1)<|zq<|xq J<|pc ((ct).s3).fst.w aV J J ?_
 intro je
 refine zq<|xu1 (fun v w'=>∃(a3:OA) (c3:Nat),v=R a3 (aY (iJ I x0.2.2.2.1)<|eQ mn mr fw) c3∧RV (fun c_=>c_<w0.heap.size) w' (R a3 (aY (iJ I x0.2.2.2.1)<|eQ mn mr fw) c3) (aY (iJ I x0.2.2.2.1)<|eQ mn mr fw)) 0 J J (by rintro _ _ _ x_ ⟨a3,c3,e_,lq⟩;exact⟨a3,c3,e_,lq.lift (Up.ext x_)⟩) J (fun v_ _ x_ h_=>let ⟨a4,c4,s0,oC⟩:=h_;have dW:=(H3.ext x_).put (it:=iL a4 (eQ mn mr fw) c4) rfl (K8 oC H3);have eX:=Ec (I:=I) (l:=(eQ mn mr fw)) (vr:=x0.2.2.2.1) (aE:=aE) (aF:=aF) (aD:=aD) (aA:=aA) (eU:=eU) (az:=az) dW.mb (dW.rv 4 J) (dW.rv 0 J) je (by have h_:=uO bV fw;omega);ca adq rfl (ec J<|ec s0<|ec J e0) eX (fun _ w4 ⟨a5,c5,e_,ja,pw⟩=>⟨_,J,ja,⟨a5,c5,e_,(bj.rvN pw x_)⟩⟩))<|xu1 (fun v w'=>∃(a6:OA) (c6:Nat),v=R a6 (aY (iJ I x0.2.2.2.1)<|eQ mn mr fw) c6∧RV (fun c_=>c_<w0.heap.size) w' (R a6 (aY (iJ I x0.2.2.2.1)<|eQ mn mr fw) c6) (aY (iJ I x0.2.2.2.1)<|eQ mn mr fw)) 0 J J (by rintro _ _ _ x_ ⟨a6,c6,e_,nZ⟩;exact⟨a6,c6,e_,nZ.lift (Up.ext x_)⟩) J (fun _ _ _ h_=>let ⟨a7,c7,s1,mR⟩:=h_;jG rfl s1 ⟨_,J,Ext.refl _,⟨a7,c7,J,mR⟩⟩)<|zx ?_
 intro w5 f0 ji cB iN
 have dV:=H3.ext ji
 obtain⟨a8,c8,s2,pT⟩:=iN 0 _ _ rfl
 have dG:=dV.put (it:=iL a8 (aY (iJ I x0.2.2.2.1)<|eQ mn mr fw) c8) J<|K8 pT H3
 refine nx<|rt<|r1 J J ?_
 rw[s2]
 have e0:(aY (iJ I x0.2.2.2.1) (eQ mn mr fw):List Int)=dh I mn mr fw:=by simp only[dh,ql,aP,BL]
 have bo:=iB (fun (bW:List Int)=>(.slice a8 bW.length c8:Value)) e0
 exact⟨a8,c8,bo,dG.below,(ani (fun (x_:List Int)=>RV _ _ (.slice a8 x_.length c8) x_) e0).mp (abf pT H3)⟩
theorem Uk (hM:eG M w) (hT:fP 0 w) (dy:cA M w ay ax I) (fZ:cA M w aA az U) (km:aM cn) (nF:cA M w dq dp cr) (lQ:aM kd) (kZ:w.heap[eE]? =some (.cells #[.slice aE aF aD,R ay I ax,R aA U az,C cn,R dq cr dp,.slice iH rn jB] l4 (0,0))∧¬M eE) (kY:bF cn cr=true) (eu:U.length=I.length):Calls aK 35 #[.pointer (some ⟨eE,0,none⟩),C kd] w (cg fun v w'=>∃(k_:Int) (r_:Int) (a_:Int) (b_:Int) (o_:Int) (f_:Int) (s_:Int),v=.tuple #[.agg #[C k_,C r_,C a_,C b_,C o_,.slice none 0 0,C f_,C s_],.bool ((pX I U cn cr kd).isSome)]∧Ext w w'∧qg (pX I U cn cr kd) k_ r_ a_ b_ o_):=by
 refine dm 44 Tryz.func35 J J J hM fun f0 ha H=>?_
 let J0:=iL ay I ax
 have H0:=H.put (it:=J0) J<|by rw[bN];exact dy
 let J1:=iL aA U az
 have H1:=H0.put (it:=J1) J<|by rw[aG rfl,bN];exact fZ
 let J2:=iL dq cr dp
 have H2:=H1.put (it:=J2) J<|by rw[aG rfl,aG rfl,bN];exact nF
 have iU:=bf dy
 have kE:=bf fZ
 have A5:=bf nF
 let J3:=ro eE #[.slice aE aF aD,R ay I ax,R aA U az,C cn,R dq cr dp,.slice iH rn jB] l4
 have H3:=H2.put (it:=J3) J<|by rw[aG rfl,aG rfl,aG rfl,bN];exact kZ
 have i0:f0 0=pV eE 0:=ha 0 bh
 have i1:f0 1=C kd:=ha 1 bh
 refine aB<|k<|al H3 bR ?_
 let ba:=[J3,J2,J1,J0]
 intro aX w0 bT (H4:HI M w w0 (box aX #[C 0,C 0,C 0,C 0,C 0,.slice none 0 0,C 0,C 0] 33::ba))
 let J4:=box aX #[C 0,C 0,C 0,C 0,C 0,.slice none 0 0,C 0,C 0] 33
 refine au (v:=.bool false) J J<|av<|sq<|aB<|ak J i0<|k<|nc J J<|aS rG J J<|aS tq J J<|k<|lr H4 1 J qm J J J<|k<|dP J J cK<|ak (v:=C 0) J J<|av<|bk ?_
 let bZ:=J4::ba
 refine lp (fun m f w'=>∃(j_:Nat),m=U.length-j_∧f 0=pV eE 0∧f 1=C kd∧f 4=pV aX 0∧f 14=R aA U az∧f 15=C (U.length:Int)∧f 16=C (j_:Int)∧HI M w w' bZ∧(j_≤U.length)∧(∀q,q<j_→vg I U cn cr q=false)) _ ⟨0,J,i0,i1,J,J,J,(bJ J),H4,aq,(by intro q h;omega)⟩ ?_
 rintro _ f0 w1 ⟨j_,rfl,s0,s1,s2,s3,s4,s5,H5,pB,hs⟩
 refine aB<|k<|lss J J s5 s4<|av<|sq<|cd (b:=decide ((j_:Int)<(U.length:Int))) J J (fun b0=>?_)<|fun b0=>?_
 ·
  have p0:=dT b0
  refine sk<|nx<|sq<|bk<|aB<|ak J s5<|k<|ia (H5.rv 3 J) J J s3 s5 aq cK aV ?_
  intro iC x0 aP ct
  refine k<|mV ct.w aV J J ?_
  intro cq
  refine au (v:=C (j_:Int)) J J<|au (v:=C x0) J J<|av<|sq<|aB<|ak (v:=C x0) J J<|k<|neq J J J J<|z<|nx<|cd (b:=!decide (x0=(-1))) J J (fun b1=>?_)<|fun b1=>?_
  ·
   have p1:=dF<|fX b1
   refine ex<|aW<|bg<|nx<|rg<|k<|add J J s5 J aT<|ak (v:=C ((j_:Int)+1)) J J<|z<|bB _ ?_ ⟨(j_+1),J,s0,s1,s2,s3,s4,(bJ J),H5,aq,(by exact r8 hs (by simp only[vg,jo aP,b0,(fX b1),BL]))⟩
   omega
  have p1:=dT<|eY b1
  refine sk<|cO<|ak J s0<|ak J s0<|k<|nc J J<|aS xG J J<|k<|vS H5 1 J bm J J aw J<|ak (v:=C (j_:Int)) J J<|k ?_
  have bP:=De (I:=I) (cn:=cn) (mn:=cn) (mr:=cr) (fw:=(j_:Int)) H5.mb (hT.ext H5.below) (H5.rv 4 J) km km (H5.rv 2 J) aT (H5.at_ 1 J) (by exact kY) aq
  refine ca Wf J (ec J<|ec J<|ec J e0) bP ?_
  rintro _ w2 ⟨a0,c0,rfl,da,dZ⟩
  have H6:=H5.ext da
  have dY:=(dZ.lift<|Up.less fun b _ hb=>H5.mb b hb)
  let J5:=iL a0 (dh I cn cr (j_:Int)) c0
  have H7:=H6.put (it:=J5) J dY
  refine au (v:=R a0 (dh I cn cr (j_:Int)) c0) J J<|bp<|ak (v:=R a0 (dh I cn cr (j_:Int)) c0) J J<|k<|dP J J cK<|k<|gtr J J J J<|z<|nx<|cd (b:=decide (0<((dh I cn cr (j_:Int)).length:Int))) J J (fun b2=>?_)<|fun b2=>?_
  ·
   have p2:=dT b2
   refine aB<|ak J s1<|k ?_
   have cS:=qO (kd:=kd) (w:=w2) lQ
   refine ca Fx J (ec J e0) cS ?_
   rintro _ w3 ⟨rfl,eR⟩
   have H8:=H7.ext eR
   refine k<|al H8 bR ?_
   let dE:=J5::bZ
   intro aZ w4 fH (H9:HI M w w4 (box aZ #[C 0,C 0,C 0,C 0,C 0,.slice none 0 0,C 0,C 0] 33::dE))
   refine k<|bt H9 0 J bR J J J J J J J ?_
   let J6:=box aZ #[C kd,C (-1),C (-1),C (-1),C (-1),.slice none 0 0,C (-1),C (-1)] 33
   intro w5 (dH:HI M w w5 (J6::dE))
   refine av<|sq ?_
   obtain⟨x1,cP⟩:∃x,(dh I cn cr (j_:Int))[(0:Int).toNat]? =some x:=⟨_,eB aq⟩
   have cM:HI M w w5 [J5,J4,J3,J2,J1,J0,J6]:=dH.bU [1,2,3,4,5,6,0] aw rfl
   let J7:=box aZ #[C kd,C (j_:Int),C (-1),C (-1),C (-1),.slice none 0 0,C (-1),C (-1)] 33
   let J8:=box aZ #[C kd,C (j_:Int),C x1,C (-1),C (-1),.slice none 0 0,C (-1),C (-1)] 33
   refine Ww [none,none,none,none,none,some 7,none,none,some 5] [0,0,2,6,1,17,63,127] [fun _=>[],fun _=>[],fun v_=>[qP (vP v_) x1],fun _=>[],fun _=>[],fun v_=>[J7],fun _=>[],fun v_=>[J8],fun _=>[J6]] [[],[],[],[2],[],[8],[],[5]] [fun v_=>v_=C (j_:Int),fun v_=>v_=R a0 (dh I cn cr (j_:Int)) c0,fun v_=>∃(rh:Addr),v_=.pointer (some rh),fun v_=>v_=C x1∧aM (x1),fun v_=>v_=pV aZ 1,fun _=>True,fun v_=>v_=pV aZ 2,fun _=>True] [J5,J4,J3,J2,J1,J0] J aC J cM ?_ ?_
   ·
    refine⟨fun f1 w8 V_ ez lT hp0 hq0 dW=>?_,?_⟩
    ·
     have dt:HI M w w8 (dE++ez):=(by have h_:HI M w w8 (dE++(ez)):=dW;exact h_)
     refine mv J (lT 6 J) ?_
     exact⟨_,J,J,dt⟩
    refine⟨fun f2 w9 V_ ez Gx Jc I9 dM=>?_,?_⟩
    ·
     have dI:HI M w w9 (dE++ez):=(by have h_:HI M w w9 (dE++(ez)):=dM;exact h_)
     refine mv J (Gx 8 J) ?_
     exact⟨_,J,J,dI⟩
    refine⟨fun f3 dL V_ ez gK SZ nw dV=>?_,?_⟩
    ·
     obtain⟨e0,q0⟩:=SZ 1 _ rfl rfl rfl
     have e1:V_ 1=R a0 (dh I cn cr (j_:Int)) c0:=q0
     have s6:f3 36=R a0 (dh I cn cr (j_:Int)) c0:=e0.trans e1
     have dG:HI M w dL (dE++ez):=(by have h_:HI M w dL (dE++(ez)):=dV;exact h_)
     refine ia (dG.rv 0 J) J J s6 J aq cK aV ?_
     intro pK x2 iA kR
     obtain rfl:x1=x2:=anm (cP.symm.trans iA)
     have eS:=dG.put (it:=qP pK x1) J kR
     have ff:HI M w dL ((qP pK x1::dE)++ez):=eS
     have ga:=HI.aR (l:=(qP pK x1::dE)) (l':=[J5,J4,J3,J2,J1,J0,qP pK x1]) (t:=ez) ff [1,2,3,4,5,6,0] aw J J
     exact⟨_,J,⟨pK,J⟩,ga⟩
    refine⟨fun f4 ef V_ ez zZ yx Ej iI=>?_,?_⟩
    ·
     obtain⟨e2,q1⟩:=yx 2 _ rfl rfl rfl
     obtain⟨vn,e3⟩:∃(vn:Addr),V_ 2=.pointer (some vn):=q1
     have s7:f4 37=.pointer (some vn):=e2.trans e3
     have iE:HI M w ef ([iL a0 (dh I cn cr (j_:Int)) c0,box aX #[C 0,C 0,C 0,C 0,C 0,.slice none 0 0,C 0,C 0] 33,ro eE #[.slice aE aF aD,R ay I ax,R aA U az,C cn,R dq cr dp,.slice iH rn jB] l4,iL dq cr dp,iL aA U az,iL ay I ax,qP vn x1]++ez):=(by have h_:HI M w ef ([iL a0 (dh I cn cr (j_:Int)) c0,box aX #[C 0,C 0,C 0,C 0,C 0,.slice none 0 0,C 0,C 0] 33,ro eE #[.slice aE aF aD,R ay I ax,R aA U az,C cn,R dq cr dp,.slice iH rn jB] l4,iL dq cr dp,iL aA U az,iL ay I ax]++([qP (vP (V_ 2)) x1]++(ez))):=iI;rw[e3] at h_;exact h_)
     refine mV (iE.atv 6 J).w aV J s7 ?_
     intro je
     exact⟨_,J,⟨J,je⟩,(by have h_:=iE;rw[show (vn:Addr)=(vP<|V_ 2) from by rw[e3]<;>rfl] at h_;exact h_)⟩
    refine⟨fun f5 fh V_ ez X3 El Ei iD=>?_,?_⟩
    ·
     have ri:HI M w fh (dE++ez):=(by have h_:HI M w fh (dE++(ez)):=iD;exact h_)
     refine fa pG J (X3 9 J) ?_
     exact⟨_,J,J,ri⟩
    refine⟨fun f6 iz V_ ez hs5 OO hq5 oq=>?_,?_⟩
    ·
     obtain⟨e4,q2⟩:=OO 0 _ rfl rfl rfl
     have e5:V_ 0=C (j_:Int):=q2
     have s8:f6 35=C (j_:Int):=e4.trans e5
     obtain⟨e6,q3⟩:=OO 4 _ rfl rfl rfl
     have e7:V_ 4=pV aZ 1:=q3
     have s9:f6 39=pV aZ 1:=e6.trans e7
     have j7:HI M w iz ([J5,J4,J3,J2,J1,J0,J6]++ez):=(by have h_:HI M w iz (dE++([J6]++(ez))):=oq;exact h_)
     refine bt j7 6 J aV J J s9 s8 J J J ?_
     intro jw (qR:HI M w jw ([J5,J4,J3,J2,J1,J0,J7]++ez))
     exact⟨undef,J,trivial,qR⟩
    refine⟨fun f7 pZ V_ ez hs6 Jb hq6 Ax=>?_,?_⟩
    ·
     have j6:HI M w pZ (dE++ez):=(by have h_:HI M w pZ (dE++(ez)):=Ax;exact h_)
     refine fa nQ J (hs6 9 J) ?_
     exact⟨_,J,J,j6⟩
    refine⟨fun f8 uF V_ ez hs7 Ja hq7 mi=>?_,?_⟩
    ·
     obtain⟨e8,q4⟩:=Ja 3 _ rfl rfl rfl
     obtain⟨e9,jT⟩:V_ 3=C x1∧aM (x1):=q4
     have eo:f8 38=C x1:=e8.trans e9
     obtain⟨TS,q5⟩:=Ja 6 _ rfl rfl rfl
     have rI:V_ 6=pV aZ 2:=q5
     have fb:f8 40=pV aZ 2:=TS.trans rI
     have wb:HI M w uF ([J5,J4,J3,J2,J1,J0,J7]++ez):=(by have h_:HI M w uF (dE++([J7]++(ez))):=mi;exact h_)
     refine bt wb 6 J aV J J fb eo J J J ?_
     intro sM (qi:HI M w sM ([J5,J4,J3,J2,J1,J0,J8]++ez))
     exact⟨undef,J,trivial,qi⟩
    exact trivial
   ·
    intro f9 sK V_ X2 BG oo
    obtain⟨sB,q6⟩:=BG 2 _ rfl rfl
    obtain⟨vm,rH⟩:∃(vm:Addr),V_ 2=.pointer (some vm):=q6
    have fL:=(X2 4 J).trans s2
    have gB:f9 9=pV aZ 0:=X2 9 rfl
    have Y4:HI M w sK [iL a0 (dh I cn cr (j_:Int)) c0,box aX #[C 0,C 0,C 0,C 0,C 0,.slice none 0 0,C 0,C 0] 33,ro eE #[.slice aE aF aD,R ay I ax,R aA U az,C cn,R dq cr dp,.slice iH rn jB] l4,iL dq cr dp,iL aA U az,iL ay I ax,qP vm x1,box aZ #[C kd,C (j_:Int),C x1,C (-1),C (-1),.slice none 0 0,C (-1),C (-1)] 33]:=(by have h_:HI M w sK ([iL a0 (dh I cn cr (j_:Int)) c0,box aX #[C 0,C 0,C 0,C 0,C 0,.slice none 0 0,C 0,C 0] 33,ro eE #[.slice aE aF aD,R ay I ax,R aA U az,C cn,R dq cr dp,.slice iH rn jB] l4,iL dq cr dp,iL aA U az,iL ay I ax]++([]++([]++([qP (vP (V_ 2)) x1]++([]++([]++([]++([box aZ #[C kd,C (j_:Int),C x1,C (-1),C (-1),.slice none 0 0,C (-1),C (-1)] 33]++([]))))))))):=oo;rw[rH] at h_;exact h_)
    refine cO<|k<|cz Y4 7 J bR J gB aw J<|k<|bt Y4 1 J bR J J fL J J J J ?_
    intro uE (JF:HI M w uE [J5,box aX #[C kd,C (j_:Int),C x1,C (-1),C (-1),.slice none 0 0,C (-1),C (-1)] 33,J3,J2,J1,J0,qP vm x1,J8])
    refine au (v:=.bool true) J J<|av<|rt<|bQ<|aL<|dU<|bQ<|aL ?_
    have qE:=DQ (n:=U.length) hs aq<|show vg I U cn cr j_=true by simp only[vg,jo aP,cP,b0,(eY b1),b2,BL]
    refine im JF 1 J bR J J J fL J aw ?_
    have e8:(true:Bool)=(pX I U cn cr kd).isSome:=by exact adN qE
    have bo:=iB (fun (lG:Bool)=>(.tuple #[.agg #[C kd,C (j_:Int),C x1,C (-1),C (-1),.slice none 0 0,C (-1),C (-1)],.bool lG]:Value)) e8
    exact⟨kd,(j_:Int),x1,(-1),(-1),(-1),(-1),bo,JF.below,(by exact af5 lQ qE aq cP (MX kY cP))⟩
  have p2:=dF b2
  refine sk<|aJ<|nx<|rg<|k<|add J J s5 J aT<|ak (v:=C ((j_:Int)+1)) J J<|z ?_
  have H8:HI M w w2 bZ:=H7.bU [1,2,3,4,5] aw rfl
  refine bB _ ?_ ⟨(j_+1),J,s0,s1,s2,s3,s4,(bJ J),H8,aq,(by exact r8 hs (by simp only[vg,jo aP,b0,(eY b1),b2,BL]))⟩
  omega
 have p0:=dF b0
 refine ex<|aW<|bc<|bg<|cO<|k<|bd (v:=.agg #[C 0,C 0,C 0,C 0,C 0,.slice none 0 0,C 0,C 0]) J eh (fun _=>aC)<|k<|bt H5 0 J bR J J s2 J J J J ?_
 intro w2 (H6:HI M w w2 bZ)
 refine au (v:=.bool false) J J<|av<|rt ?_
 have qE:Aj I U cn cr=none:=Bg hs aq
 refine im H6 0 J bR J J J s2 J aw ?_
 have e8:(false:Bool)=(pX I U cn cr kd).isSome:=by rw[TP qE];rfl
 have bo:=iB (fun (lG:Bool)=>(.tuple #[.agg #[C 0,C 0,C 0,C 0,C 0,.slice none 0 0,C 0,C 0],.bool lG]:Value)) e8
 exact⟨0,0,0,0,0,0,0,bo,H6.below,(by exact tT (TP qE) NU)⟩
theorem Ah:gO aK 33 3 3:=⟨_,_,Tryz.underlying33,rfl,rfl,aC⟩
theorem NN (hM:eG M w) (hT:fP 0 w) (dy:cA M w ay ax I) (fZ:cA M w aA az U) (km:aM cn) (nF:cA M w dq dp cr) (lQ:aM kd) (kZ:w.heap[eE]? =some (.cells #[.slice aE aF aD,R ay I ax,R aA U az,C cn,R dq cr dp,.slice iH rn jB] l4 (0,0))∧¬M eE) (kY:bF cn cr=true) (eu:U.length=I.length):Calls aK 36 #[.pointer (some ⟨eE,0,none⟩),C kd] w (cg fun v w'=>∃(k_:Int) (r_:Int) (a_:Int) (b_:Int) (o_:Int) (f_:Int) (s_:Int),v=.tuple #[.agg #[C k_,C r_,C a_,C b_,C o_,.slice none 0 0,C f_,C s_],.bool ((pY I U cn cr kd).isSome)]∧Ext w w'∧qg (pY I U cn cr kd) k_ r_ a_ b_ o_):=by
 refine dm 60 Tryz.func36 J J J hM fun f0 ha H=>?_
 let J0:=iL ay I ax
 have H0:=H.put (it:=J0) J<|by rw[bN];exact dy
 let J1:=iL aA U az
 have H1:=H0.put (it:=J1) J<|by rw[aG rfl,bN];exact fZ
 let J2:=iL dq cr dp
 have H2:=H1.put (it:=J2) J<|by rw[aG rfl,aG rfl,bN];exact nF
 have iU:=bf dy
 have kE:=bf fZ
 have A5:=bf nF
 let J3:=ro eE #[.slice aE aF aD,R ay I ax,R aA U az,C cn,R dq cr dp,.slice iH rn jB] l4
 have H3:=H2.put (it:=J3) J<|by rw[aG rfl,aG rfl,aG rfl,bN];exact kZ
 have i0:f0 0=pV eE 0:=ha 0 bh
 have i1:f0 1=C kd:=ha 1 bh
 refine aB<|k<|al H3 bR ?_
 let ba:=[J3,J2,J1,J0]
 intro aX w0 bT (H4:HI M w w0 (box aX #[C 0,C 0,C 0,C 0,C 0,.slice none 0 0,C 0,C 0] 33::ba))
 let J4:=box aX #[C 0,C 0,C 0,C 0,C 0,.slice none 0 0,C 0,C 0] 33
 refine au (v:=.bool false) J J<|av<|sq<|aB<|ak J i0<|k<|nc J J<|aS rG J J<|aS tq J J<|k<|lr H4 1 J qm J J J<|k<|dP J J cK<|ak (v:=C 0) J J<|av<|bk<|lp (fun m f w'=>∃(j_:Nat),m=U.length-j_∧f 0=pV eE 0∧f 1=C kd∧f 4=pV aX 0∧f 15=R aA U az∧f 16=C (U.length:Int)∧f 17=C (j_:Int)∧HI M w w' (J4::ba)∧(j_≤U.length)∧(∀q,q<j_→vL I U cn cr q=false)) _ ⟨0,J,i0,i1,J,J,J,(bJ J),H4,aq,(by intro q h;omega)⟩ ?_
 rintro _ f0 w1 ⟨j_,rfl,s0,s1,s2,s3,s4,s5,H5,pB,hs⟩
 refine aB<|k<|lss J J s5 s4<|av<|sq<|cd (b:=decide ((j_:Int)<(U.length:Int))) J J (fun b0=>?_)<|fun b0=>?_
 ·
  have p0:=dT b0
  refine sk<|nx<|sq<|bk<|aB<|ak J s5<|k<|ia (H5.rv 3 J) J J s3 s5 aq cK aV ?_
  intro iC x0 aP ct
  refine k<|mV ct.w aV J J ?_
  intro cq
  refine au (v:=C (j_:Int)) J J<|au (v:=C x0) J J<|av<|sq<|aB<|ak (v:=C x0) J J<|k<|lss J J J J<|z<|nx<|cd (b:=decide (x0<0)) J J (fun b1=>?_)<|fun b1=>?_
  ·
   have p1:=dT b1
   refine ex<|aW<|bg<|nx<|rg<|k<|add J J s5 J aT<|ak (v:=C ((j_:Int)+1)) J J<|z<|bB _ ?_ ⟨(j_+1),J,s0,s1,s2,s3,s4,(bJ J),H5,aq,(by exact aeb hs aP ‹_›)⟩
   omega
  have p1:=dF b1
  refine sk<|cO<|ak J s0<|ak J s0<|k<|nc J J<|aS xG J J<|k<|vS H5 1 J bm J J aw J<|ak (v:=C (j_:Int)) J J<|k ?_
  have bP:=De (I:=I) (cn:=cn) (mn:=cn) (mr:=cr) (fw:=(j_:Int)) H5.mb (hT.ext H5.below) (H5.rv 4 J) km km (H5.rv 2 J) aT (H5.at_ 1 J) (by exact kY) aq
  refine ca Wf J (ec J<|ec J<|ec J e0) bP ?_
  rintro _ w2 ⟨a0,c0,rfl,da,dZ⟩
  have H6:=H5.ext da
  have dY:=(dZ.lift<|Up.less fun b _ hb=>H5.mb b hb)
  let J5:=iL a0 (dh I cn cr (j_:Int)) c0
  have H7:=H6.put (it:=J5) J dY
  refine k<|dP J J cK<|ak (v:=C 0) J J<|av<|bk ?_
  let bZ:=J5::J4::ba
  refine lp (fun m f w'=>∃(q_:Nat),m=(dh I cn cr (j_:Int)).length-q_∧f 0=pV eE 0∧f 1=C kd∧f 4=pV aX 0∧f 6=C (j_:Int)∧f 7=C x0∧f 15=R aA U az∧f 16=C (U.length:Int)∧f 17=C (j_:Int)∧f 30=R a0 (dh I cn cr (j_:Int)) c0∧f 31=C ((dh I cn cr (j_:Int)).length:Int)∧f 32=C (q_:Int)∧HI M w w' bZ∧(q_≤(dh I cn cr (j_:Int)).length)∧(∀y∈(dh I cn cr (j_:Int)).take q_,(zn cn cr x0) y=false)) _ ⟨0,J,s0,s1,s2,J,J,s3,s4,s5,J,J,(bJ J),H7,aq,bh⟩ ?_
  rintro _ f1 w3 ⟨q_,rfl,s6,s7,s8,s9,eo,fb,fM,fL,gB,gT,ky,H8,so,gK⟩
  refine sq ?_
  have la_:=Q' kY I (j_:Int)
  refine rg<|k<|lss J J ky gT<|av<|sq<|cd (b:=decide ((q_:Int)<((dh I cn cr (j_:Int)).length:Int))) J J (fun b2=>?_)<|fun b2=>?_
  ·
   have p2:=dT b2
   refine sk<|nx<|sq<|bk<|aB<|k<|ia (H8.rv 0 J) J J gB ky aq cK aV ?_
   intro rh x1 cP gL
   refine k<|mV gL.w aV J J ?_
   intro fu
   refine au (v:=C x1) J J<|bp<|ak (v:=C x1) J J<|ak J eo<|k<|neq J J J J<|ak (v:=.bool (!decide (x1=x0))) J J ?_
   rcases bE (!decide (x1=x0)) with b3|b3
   ·
    have p3:=dF<|fX b3
    refine aU J J J b3<|mv J s6<|aU J J J b3<|nc J J<|aU J J J b3<|fa xG J J<|aU J J J b3<|vS H8 2 J bm J J aw J<|aU J J J b3<|mv J eo<|aU J J J b3<|mv (v:=C x1) J J<|aU J J J b3 ?_
    have cS:=ud (mn:=cn) (mr:=cr) (i:=x0) (j:=x1) H8.mb km (H8.rv 3 J) cq fu (by exact(bO kY).1) (by exact(bO kY).2.1)<|by exact(bO kY).2.2.1
    refine ca Fw J (ec J<|ec J<|ec J e0) cS ?_
    rintro _ w4 ⟨rfl,eR⟩
    have H9:=H8.ext eR
    refine k<|aR J J J J b3 J<|z<|nx<|cd (b:=eF cn cr x0 x1) J J (fun b4=>?_)<|fun b4=>?_
    ·
     refine sq ?_
     obtain⟨qE,CR,ha_⟩:=aec hs aq aP ‹_› gK cP (fX ‹(!decide (x1=x0))=true›) ‹_›
     refine rg<|ak J s7<|k ?_
     have fS:=qO (kd:=kd) (w:=w4) lQ
     refine ca Fx J (ec J e0) fS ?_
     rintro _ w5 ⟨rfl,fH⟩
     have dH:=H9.ext fH
     refine k<|al dH bR ?_
     intro aZ w6 ja (db:HI M w w6 (box aZ #[C 0,C 0,C 0,C 0,C 0,.slice none 0 0,C 0,C 0] 33::bZ))
     refine k<|bt db 0 J bR J J J J J J J ?_
     intro w7 (dw:HI M w w7 (box aZ #[C kd,C (-1),C (-1),C (-1),C (-1),.slice none 0 0,C (-1),C (-1)] 33::bZ))
     refine bp<|ak J s9<|ak J eo<|ak (v:=C x1) J J<|aS pG J J<|k<|bt dw 0 J aV J J J J J J J ?_
     intro w8 (dz:HI M w w8 (box aZ #[C kd,C (j_:Int),C (-1),C (-1),C (-1),.slice none 0 0,C (-1),C (-1)] 33::bZ))
     refine aS nQ J J<|k<|bt dz 0 J aV J J J J J J J ?_
     intro w9 (cM:HI M w w9 (box aZ #[C kd,C (j_:Int),C x0,C (-1),C (-1),.slice none 0 0,C (-1),C (-1)] 33::bZ))
     refine aS Ah J J<|k<|bt cM 0 J aV J J J J J J J ?_
     let J6:=box aZ #[C kd,C (j_:Int),C x0,C x1,C (-1),.slice none 0 0,C (-1),C (-1)] 33
     intro dL (dW:HI M w dL (J6::bZ))
     refine bp<|k<|cz dW 0 J bR J J aw J<|k<|bt dW 2 J bR J J s8 J J J J ?_
     intro ef (dt:HI M w ef (J6::J5::box aX #[C kd,C (j_:Int),C x0,C x1,C (-1),.slice none 0 0,C (-1),C (-1)] 33::ba))
     refine au (v:=.bool true) J J<|av<|rt<|bQ<|aL<|dU<|bQ<|bQ<|aL<|dU<|bQ<|aL<|im dt 2 J bR J J J s8 J aw ?_
     have e8:(true:Bool)=(pY I U cn cr kd).isSome:=by exact ad7 qE
     have bo:=iB (fun (lG:Bool)=>(.tuple #[.agg #[C kd,C (j_:Int),C x0,C x1,C (-1),.slice none 0 0,C (-1),C (-1)],.bool lG]:Value)) e8
     exact⟨kd,(j_:Int),x0,x1,(-1),(-1),(-1),bo,dt.below,(by exact af7 lQ qE CR ha_ aq bq (MX kY cP))⟩
    refine sk<|aJ<|nx<|rg<|k<|add J J ky J aT<|ak (v:=C ((q_:Int)+1)) J J<|z<|bB _ ?_ ⟨(q_+1),J,s6,s7,s8,s9,eo,fb,fM,fL,gB,gT,(bJ J),H9,aq,(by exact OC gK cP (by simp only[zn,b0,b1,b2,(fX b3),b4,BL]))⟩
    omega
   have p3:=dT<|eY b3
   refine aO J J J b3<|aO J J J b3<|aO J J J b3<|aO J J J b3<|aO J J J b3<|aO J J J b3<|aO J J J b3<|k<|cJ J J J J b3 J<|av<|oQ J J J<|sk<|aJ<|nx<|rg<|k<|add J J ky J aT<|ak (v:=C ((q_:Int)+1)) J J<|z<|bB _ ?_ ⟨(q_+1),J,s6,s7,s8,s9,eo,fb,fM,fL,gB,gT,(bJ J),H8,aq,(by exact OC gK cP (by simp only[zn,b0,b1,b2,(eY b3),BL]))⟩
   omega
  have p2:=dF b2
  refine ex<|aW<|bc<|bg<|aJ<|nx<|rg<|k<|add J J fL J aT<|ak (v:=C ((j_:Int)+1)) J J<|z ?_
  have H9:HI M w w3 (J4::ba):=H8.bU [1,2,3,4,5] aw rfl
  refine bB _ ?_ ⟨(j_+1),J,s6,s7,s8,fb,fM,(bJ J),H9,aq,(by exact W2 hs aP gK aq)⟩
  omega
 have p0:=dF b0
 refine ex<|aW<|bc<|bg<|cO<|k<|bd (v:=.agg #[C 0,C 0,C 0,C 0,C 0,.slice none 0 0,C 0,C 0]) J eh (fun _=>aC)<|k<|bt H5 0 J bR J J s2 J J J J ?_
 intro w2 (H6:HI M w w2 (J4::ba))
 refine au (v:=.bool false) J J<|av<|rt ?_
 have qE:FL I U cn cr=none:=Bg hs aq
 refine im H6 0 J bR J J J s2 J aw ?_
 have e8:(false:Bool)=(pY I U cn cr kd).isSome:=by rw[Ua qE];rfl
 have bo:=iB (fun (lG:Bool)=>(.tuple #[.agg #[C 0,C 0,C 0,C 0,C 0,.slice none 0 0,C 0,C 0],.bool lG]:Value)) e8
 exact⟨0,0,0,0,0,0,0,bo,H6.below,(by exact tT (Ua qE) NU)⟩
theorem adt:cu aK 67:=⟨_,_,Tryz.func67,rfl,aC⟩
theorem W6 (km:aM cn) (lQ:aM kd) (hT:fP 0 w) (ho:gX I) (du:I.length≤64) (eu:U.length=I.length) (fG:∀x∈U,x<((I.length:Nat):Int)) (oe:cn=((I.length:Nat):Int)) (pC:cr=cp I U) (hsw:iH=none∧sw=[]∨sw=eP I U) (H:HI M w w_ ([box eE #[.slice aE aF aD,R ay I ax,R aA U az,C cn,R dq cr dp,R iH sw jB] 80,iL ay I ax,iL aA U az,iL dq cr dp,oL w 26 iH sw jB]++r)):Calls aK 39 #[pV eE 0,C kd] w_ (cg fun v w'=>∃(k_:Int) (r_:Int) (a_:Int) (b_:Int) (o_:Int) (f_:Int) (s_:Int) (wy:OA) (wx:Nat),v=.tuple #[.agg #[C k_,C r_,C a_,C b_,C o_,.slice none 0 0,C f_,C s_],.bool ((sc I U kd).isSome)]∧HI M w w' ([box eE #[.slice aE aF aD,R ay I ax,R aA U az,C cn,R dq cr dp,.slice wy (eP I U).length wx] 80,iL ay I ax,iL aA U az,iL dq cr dp,oL w 26 wy (eP I U) wx]++r)∧qg (sc I U kd) k_ r_ a_ b_ o_):=by
 refine enter 34 Tryz.func39 J J J fun f0 ha=>?_
 have iU:=bf<|H.rv 1 J
 have kE:=bf<|H.rv 2 J
 have A5:=bf<|H.rv 3 J
 have XO:=j'<|H.at_ 4 J
 have i0:f0 0=pV eE 0:=ha 0 bh
 have i1:f0 1=C kd:=ha 1 bh
 refine aB<|k<|al H bR ?_
 let J1:=box eE #[.slice aE aF aD,R ay I ax,R aA U az,C cn,R dq cr dp,R iH sw jB] 80
 let J2:=iL ay I ax
 let J3:=iL aA U az
 let J4:=iL dq cr dp
 let J5:=oL w 26 iH sw jB
 intro aX w0 bT (H0:HI M w w0 ([box aX #[C 0,C 0,C 0,C 0,C 0,.slice none 0 0,C 0,C 0] 33,J1,J2,J3,J4,J5]++r))
 let J0:=box aX #[C 0,C 0,C 0,C 0,C 0,.slice none 0 0,C 0,C 0] 33
 refine au (v:=.bool false) J J<|av<|sq<|aB<|ak J i0<|k ?_
 have H1:HI M w w0 ([J1,J2,J3,J4,J5]++([J0]++r)):=HI.aR (l:=[J0,J1,J2,J3,J4,J5]) (l':=[J1,J2,J3,J4,J5,J0]) (t:=r) H0 [1,2,3,4,5,0] aw rfl rfl
 have bP:=Po (eE:=eE) (aE:=aE) (aF:=aF) (aD:=aD) (ay:=ay) (ax:=ax) (I:=I) (aA:=aA) (az:=az) (U:=U) (cn:=cn) (dq:=dq) (dp:=dp) (cr:=cr) (iH:=iH) (jB:=jB) (sw:=sw) (w:=w) (w_:=w0) (r:=([J0]++r)) (M:=M) km hT (by exact ho) (by exact du) (by exact eu) (by exact fG) (by exact oe) (by exact pC) aq H1
 refine ca adt J (ec J e0) bP ?_
 rintro _ w1 ⟨a0,c0,rfl,H2⟩
 let J6:=box eE #[.slice aE aF aD,R ay I ax,R aA U az,C cn,R dq cr dp,R a0 (eP I U) c0] 80
 let J7:=oL w 26 a0 (eP I U) c0
 refine k<|dP J J Hs<|ak (v:=C 0) J J<|av<|bk ?_
 let ba:=[J6,J2,J3,J4,J7,J0]
 refine lp (fun m f w'=>∃(j_:Nat),m=I.length-j_∧f 1=C kd∧f 4=pV aX 0∧f 12=R a0 (eP I U) c0∧f 13=C ((eP I U).length:Int)∧f 14=C (j_:Int)∧HI M w w' (ba++r)∧(j_≤I.length)∧(∀q,q<j_→Xw I U q=false)) _ ⟨0,J,i1,J,J,J,(bJ J),H2,aq,(by intro q h;omega)⟩ ?_
 rintro _ f0 w2 ⟨j_,rfl,s0,s1,s2,s3,s4,H4,pB,hs⟩
 refine aB<|k<|lss J J s4 s3<|av<|sq<|cd (b:=decide ((j_:Int)<((eP I U).length:Int))) J J (fun b0=>?_)<|fun b0=>?_
 ·
  have p0:=dT b0
  refine sk<|nx<|sq<|bk<|aB<|ak J s4<|k<|ij (H4.at_ 4 J) J J s2 s4 aq Hs bm ?_
  intro g0 x0 iq aP ct
  refine k<|nt ct bm J J ?_
  intro v0 cq
  obtain⟨_,⟨_,_,rfl,⟨rfl,dZ⟩,⟨v1,rfl,dY⟩⟩,rfl⟩:=cq
  obtain⟨a1,c1,rfl,fu⟩:=RS.explicit dY
  let J8:=iL a1 x0.2 c1
  have H5:=H4.put (it:=J8) J<|by exact fu
  refine k<|al H5 bm ?_
  intro aZ w3 da (H7:HI M w w3 ((box aZ #[C 0,.slice none 0 0] 26::J8::ba)++r))
  refine au (v:=C (j_:Int)) J J<|k<|bt H7 0 J bm J J J J J J J ?_
  let J9:=box aZ #[C x0.1,R a1 x0.2 c1] 26
  let bZ:=J9::J8::ba
  intro w4 (H8:HI M w w4 (bZ++r))
  refine av<|sq ?_
  obtain⟨GB,Ti⟩:=N6 aP
  have zh:x0.1=((I.length:Nat):Int):=by rw[Ti]
  have zg:x0.2=(cU I U (j_:Int)):=by rw[Ti]
  have PN:bF x0.1 x0.2=true:=by rw[zh,zg];exact F2 du GB
  refine rg<|k<|cz H8 0 J bm J J aw J<|k ?_
  have cS:=yw (mn:=x0.1) (mr:=x0.2) H8.mb dZ (H8.rv 1 J)<|by exact PN
  refine ca QI J (ec J e0) cS ?_
  rintro _ w5 ⟨rfl,eR⟩
  have H9:=H8.ext eR
  refine ak (v:=.tuple #[C (((cQ x0.1 x0.2).getD 0:Nat):Int),.bool ((cQ x0.1 x0.2).isSome)]) J J<|k<|xt J J J<|k<|xt J J J<|au (v:=C (((cQ x0.1 x0.2).getD 0:Nat):Int)) J J<|au (v:=.bool ((cQ x0.1 x0.2).isSome)) J J<|bp<|ak (v:=.bool ((cQ x0.1 x0.2).isSome)) J J<|z<|nx<|cd (b:=(cQ x0.1 x0.2).isSome) J J (fun b1=>?_)<|fun b1=>?_
  ·
   refine aB<|ak J s0<|k ?_
   have fS:=qO (kd:=kd) (w:=w5) lQ
   refine ca Fx J (ec J e0) fS ?_
   rintro _ w6 ⟨rfl,fH⟩
   have dH:=H9.ext fH
   refine k<|al dH bR ?_
   intro bD w7 ja (db:HI M w w7 ((box bD #[C 0,C 0,C 0,C 0,C 0,.slice none 0 0,C 0,C 0] 33::bZ)++r))
   refine k<|bt db 0 J bR J J J J J J J ?_
   intro w8 (dw:HI M w w8 ((box bD #[C kd,C (-1),C (-1),C (-1),C (-1),.slice none 0 0,C (-1),C (-1)] 33::bZ)++r))
   refine bp<|ak (v:=C (j_:Int)) J J<|ak (v:=C (((cQ x0.1 x0.2).getD 0:Nat):Int)) J J<|aS ng J J<|k<|bt dw 0 J aV J J J J J J J ?_
   intro w9 (dz:HI M w w9 ((box bD #[C kd,C (-1),C (-1),C (-1),C (j_:Int),.slice none 0 0,C (-1),C (-1)] 33::bZ)++r))
   refine aS nQ J J<|k<|bt dz 0 J aV J J J J J J J ?_
   let dO:=box bD #[C kd,C (-1),C (((cQ x0.1 x0.2).getD 0:Nat):Int),C (-1),C (j_:Int),.slice none 0 0,C (-1),C (-1)] 33
   intro dL (cM:HI M w dL ((dO::bZ)++r))
   refine bp<|k<|cz cM 0 J bR J J aw J<|k<|bt cM 8 J bR J J s1 J J J J ?_
   let eC:=box aX #[C kd,C (-1),C (((cQ x0.1 x0.2).getD 0:Nat):Int),C (-1),C (j_:Int),.slice none 0 0,C (-1),C (-1)] 33
   intro ef (dW:HI M w ef ([dO,J9,J8,J6,J2,J3,J4,J7,eC]++r))
   refine au (v:=.bool true) J J<|av<|rt<|bQ<|aL<|dU<|bQ<|aL ?_
   have tK:(cQ ((I.length:Nat):Int) (cU I U (j_:Int))).isSome=true:=by rw[←zh,←zg];assumption
   have qE:IC I U=some j_:=DQ hs GB tK
   refine im dW 8 J bR J J J s1 J aw ?_
   have dt:=HI.aR (l:=[dO,J9,J8,J6,J2,J3,J4,J7,eC]) (l':=[J6,J2,J3,J4,J7]) (t:=r) dW [3,4,5,6,7] aw J J
   have e0:(true:Bool)=(sc I U kd).isSome:=by exact aeS qE
   try rw[←e0]
   refine⟨kd,(-1),(((cQ x0.1 x0.2).getD 0:Nat):Int),(-1),(j_:Int),(-1),(-1),a0,c0,?_,?_,(by rw[zh,zg];exact ahD lQ qE GB du tK)⟩
   · first|rfl|simp only[e0]|(simp only[anj])
   · first|exact dt|simpa +zetaDelta only[e0,anj] using dt
  refine sk<|aJ<|nx<|rg<|k<|add J J s4 J aT<|ak (v:=C ((j_:Int)+1)) J J<|z ?_
  have dH:HI M w w5 (ba++r):=HI.aR (l:=bZ) (l':=ba) (t:=r) H9 [2,3,4,5,6,7] aw rfl rfl
  refine bB _ ?_ ⟨(j_+1),J,s0,s1,s2,s3,(bJ J),dH,aq,(by exact r8 hs (by unfold Xw;rw[←zh,←zg];assumption))⟩
  omega
 have p0:=dF b0
 refine ex<|aW<|bc<|bg<|cO<|k<|bd (v:=.agg #[C 0,C 0,C 0,C 0,C 0,.slice none 0 0,C 0,C 0]) J eh (fun _=>aC)<|k<|bt H4 5 J bR J J s1 J J J J ?_
 intro w3 (H5:HI M w w3 (ba++r))
 refine au (v:=.bool false) J J<|av<|rt ?_
 have qE:IC I U=none:=Bg hs (by rw[AL] at p0;omega)
 refine im H5 5 J bR J J J s1 J aw ?_
 have H6:=HI.aR (l:=ba) (l':=[J6,J2,J3,J4,J7]) (t:=r) H5 [0,1,2,3,4] aw J J
 have e0:(false:Bool)=(sc I U kd).isSome:=by rw[Xv qE];rfl
 try rw[←e0]
 refine⟨0,0,0,0,0,0,0,a0,c0,?_,?_,(by exact tT (Xv qE) NU)⟩
 · first|rfl|simp only[e0]|(simp only[anj])
 · first|exact H6|simpa +zetaDelta only[e0,anj] using H6
theorem Uj (km:aM cn) (lQ:aM kd) (hT:fP 0 w) (ho:gX I) (du:I.length≤64) (eu:U.length=I.length) (fG:∀x∈U,x<((I.length:Nat):Int)) (oe:cn=((I.length:Nat):Int)) (pC:cr=cp I U) (hsw:iH=none∧sw=[]∨sw=eP I U) (H:HI M w w_ ([box eE #[.slice aE aF aD,R ay I ax,R aA U az,C cn,R dq cr dp,R iH sw jB] 80,iL ay I ax,iL aA U az,iL dq cr dp,oL w 26 iH sw jB]++r)):Calls aK 38 #[pV eE 0,C kd] w_ (cg fun v w'=>∃(k_:Int) (r_:Int) (a_:Int) (b_:Int) (o_:Int) (f_:Int) (s_:Int) (wy:OA) (wx:Nat),v=.tuple #[.agg #[C k_,C r_,C a_,C b_,C o_,.slice none 0 0,C f_,C s_],.bool ((se I U kd).isSome)]∧HI M w w' ([box eE #[.slice aE aF aD,R ay I ax,R aA U az,C cn,R dq cr dp,.slice wy (eP I U).length wx] 80,iL ay I ax,iL aA U az,iL dq cr dp,oL w 26 wy (eP I U) wx]++r)∧qg (se I U kd) k_ r_ a_ b_ o_):=by
 refine enter 63 Tryz.func38 J J J fun f0 ha=>?_
 have iU:=bf<|H.rv 1 J
 have kE:=bf<|H.rv 2 J
 have A5:=bf<|H.rv 3 J
 have XO:=j'<|H.at_ 4 J
 have i0:f0 0=pV eE 0:=ha 0 bh
 have i1:f0 1=C kd:=ha 1 bh
 refine aB<|k<|al H bR ?_
 let J1:=box eE #[.slice aE aF aD,R ay I ax,R aA U az,C cn,R dq cr dp,R iH sw jB] 80
 let J2:=iL ay I ax
 let J3:=iL aA U az
 let J4:=iL dq cr dp
 let J5:=oL w 26 iH sw jB
 intro aX w0 bT (H0:HI M w w0 ([box aX #[C 0,C 0,C 0,C 0,C 0,.slice none 0 0,C 0,C 0] 33,J1,J2,J3,J4,J5]++r))
 let J0:=box aX #[C 0,C 0,C 0,C 0,C 0,.slice none 0 0,C 0,C 0] 33
 refine au (v:=.bool false) J J<|av<|sq<|aB<|ak J i0<|k ?_
 have H1:HI M w w0 ([J1,J2,J3,J4,J5]++([J0]++r)):=HI.aR (l:=[J0,J1,J2,J3,J4,J5]) (l':=[J1,J2,J3,J4,J5,J0]) (t:=r) H0 [1,2,3,4,5,0] aw rfl rfl
 have bP:=Po (eE:=eE) (aE:=aE) (aF:=aF) (aD:=aD) (ay:=ay) (ax:=ax) (I:=I) (aA:=aA) (az:=az) (U:=U) (cn:=cn) (dq:=dq) (dp:=dp) (cr:=cr) (iH:=iH) (jB:=jB) (sw:=sw) (w:=w) (w_:=w0) (r:=([J0]++r)) (M:=M) km hT (by exact ho) (by exact du) (by exact eu) (by exact fG) (by exact oe) (by exact pC) aq H1
 refine ca adt J (ec J e0) bP ?_
 rintro _ w1 ⟨a0,c0,rfl,H2⟩
 let J6:=box eE #[.slice aE aF aD,R ay I ax,R aA U az,C cn,R dq cr dp,R a0 (eP I U) c0] 80
 let J7:=oL w 26 a0 (eP I U) c0
 refine k<|dP J J Hs<|ak (v:=C 0) J J<|av<|bk ?_
 let ba:=[J6,J2,J3,J4,J7,J0]
 refine lp (fun m f w'=>∃(j_:Nat),m=I.length-j_∧f 0=pV eE 0∧f 1=C kd∧f 4=pV aX 0∧f 13=R a0 (eP I U) c0∧f 14=C ((eP I U).length:Int)∧f 15=C (j_:Int)∧HI M w w' (ba++r)∧(j_≤I.length)∧(∀q,q<j_→II I U q=false)) _ ⟨0,J,i0,i1,J,J,J,(bJ J),H2,aq,(by intro q h;omega)⟩ ?_
 rintro _ f0 w2 ⟨j_,rfl,s0,s1,s2,s3,s4,s5,H4,pB,hs⟩
 refine aB<|k<|lss J J s5 s4<|av<|sq<|cd (b:=decide ((j_:Int)<((eP I U).length:Int))) J J (fun b0=>?_)<|fun b0=>?_
 ·
  have p0:=dT b0
  refine sk<|nx<|sq<|bk<|aB<|ak J s5<|k<|ij (H4.at_ 4 J) J J s3 s5 aq Hs bm ?_
  intro g0 x0 iq aP ct
  refine k<|nt ct bm J J ?_
  intro v0 cq
  obtain⟨_,⟨_,_,rfl,⟨rfl,dZ⟩,⟨v1,rfl,dY⟩⟩,rfl⟩:=cq
  obtain⟨a1,c1,rfl,fu⟩:=RS.explicit dY
  let J8:=iL a1 x0.2 c1
  have H5:=H4.put (it:=J8) J<|by exact fu
  refine k<|al H5 bm ?_
  let bZ:=J8::ba
  intro aZ w3 da (H7:HI M w w3 ((box aZ #[C 0,.slice none 0 0] 26::bZ)++r))
  refine au (v:=C (j_:Int)) J J<|k<|bt H7 0 J bm J J J J J J J ?_
  let J9:=box aZ #[C x0.1,R a1 x0.2 c1] 26
  let dE:=J9::bZ
  intro w4 (H8:HI M w w4 (dE++r))
  refine av<|sq ?_
  obtain⟨GB,Ti⟩:=N6 aP
  have zh:x0.1=((I.length:Nat):Int):=by rw[Ti]
  have zg:x0.2=(cU I U (j_:Int)):=by rw[Ti]
  have PN:bF x0.1 x0.2=true:=by rw[zh,zg];exact F2 du GB
  have lk_:=A8 ho du (o:=(j_:Int)) ⟨by omega,by omega⟩
  refine rg<|ak J s0<|k<|nc J J<|aS rG J J<|k<|cz H8 2 J dN J J aw J<|ak (v:=C (j_:Int)) J J<|k ?_
  have cS:=Co (I:=I) (o:=(j_:Int)) (aE:=aE) (aF:=aF) (aD:=aD) (aA:=aA) (eU:=U.length) (az:=az) H8.mb (H8.rv 3 J) aT (by exact ho) aq
  refine ca Wd J (ec J<|ec J e0) cS ?_
  rintro _ w5 ⟨a2,c2,rfl,eR,je⟩
  have H9:=H8.eL je
  let dO:=oL w 3 a2 (aY (fJ I) (cw I (j_:Int))) c2
  refine k<|dP J J cK<|ak (v:=C 0) J J<|av<|bk ?_
  let iO:=dO::dE
  refine lp (fun m f w'=>∃(q_:Nat),m=(aY (fJ I)<|cw I (j_:Int)).length-q_∧f 0=pV eE 0∧f 1=C kd∧f 4=pV aX 0∧f 6=C (j_:Int)∧f 7=pV aZ 0∧f 13=R a0 (eP I U) c0∧f 14=C ((eP I U).length:Int)∧f 15=C (j_:Int)∧f 25=R a2 (aY (fJ I)<|cw I (j_:Int)) c2∧f 26=C ((aY (fJ I)<|cw I (j_:Int)).length:Int)∧f 27=C (q_:Int)∧HI M w w' (iO++r)∧(q_≤(aY (fJ I)<|cw I (j_:Int)).length)∧(∀y∈(aY (fJ I)<|cw I (j_:Int)).take q_,B9 I U ((I.length:Nat):Int) (cU I U (j_:Int)) y=false)) _ ⟨0,J,s0,s1,s2,J,J,s3,s4,s5,J,J,(bJ J),H9,aq,(by intro y h;simp at h)⟩ ?_
  rintro _ f1 w6 ⟨q_,rfl,s6,s7,s8,s9,eo,fb,fM,fL,gB,gT,ky,db,ain,gK⟩
  refine aB<|k<|lss J J ky gT<|av<|sq<|cd (b:=decide ((q_:Int)<((aY (fJ I)<|cw I (j_:Int)).length:Int))) J J (fun b1=>?_)<|fun b1=>?_
  ·
   have p1:=dT b1
   refine sk<|nx<|sq<|bk<|aB<|k<|ij (db.at_ 0 J) J J gB ky aq cK aV ?_
   intro g1 x1 kG cP gL
   refine k<|mV gL aV J J ?_
   intro jT
   refine au (v:=C x1) J J<|av<|sq ?_
   obtain⟨q2_,ah8⟩:=Z0 cP
   have Eh:=IS ho ah8
   refine rg<|ak J s6<|k<|cz db 1 J bm J eo aw J<|ak (v:=C x1) J J<|k ?_
   have fS:=De (I:=I) (cn:=cn) (mn:=x0.1) (mr:=x0.2) (fw:=x1) (w:=w6) (M:=fun _=>False) (fun _ h_=>h_.elim) (hT.ext db.below) ((db.rv 4 J).lift (Up.less fun _ _ h_=>h_.elim)) km dZ ((db.rv 2 J).lift (Up.less fun _ _ h_=>h_.elim)) jT ⟨db.at_ 3 rfl,fun h_=>h_⟩ (by exact PN) aq
   refine ca Wf J (ec J<|ec J<|ec J e0) fS ?_
   rintro _ w7 ⟨a3,c3,rfl,fH,jd⟩
   have dw:=db.ext fH
   have lq:=(jd.lift<|Up.less fun b _ hb=>db.mb b hb)
   let eC:=iL a3 (dh I x0.1 x0.2 x1) c3
   have dz:=dw.put (it:=eC) J lq
   let fk:=eC::iO
   have cM:HI M w w7 (fk++r):=dz
   refine au (v:=R a3 (dh I x0.1 x0.2 x1) c3) J J<|bp<|ak J s6<|k<|nc J J<|aS rG J J<|aS tq J J<|bl cM 4 J qm J J J<|ak (v:=C x1) J J<|k<|ia (cM.rv 6 J) J J J J aq cK aV ?_
   intro iC x2 iA kR
   refine k<|mV kR.w aV J J ?_
   intro oC
   refine k<|eql J J J J<|ak (v:=.bool (decide (x2=(-1)))) J J ?_
   rcases bE (decide (x2=(-1))) with b2|b2
   ·
    have p2:=dT b2
    refine aU J J J b2<|mv (v:=R a3 (dh I x0.1 x0.2 x1) c3) J J<|aU J J J b2<|dP J J cK<|aU J J J b2<|gtr J J J J<|k<|aR J J J J b2 J<|z<|nx<|cd (b:=decide (0<((dh I x0.1 x0.2 x1).length:Int))) J J (fun b3=>?_)<|fun b3=>?_
    ·
     have p3:=dT b3
     refine aB<|ak J s7<|k ?_
     have eX:=qO (kd:=kd) (w:=w7) lQ
     refine ca Fx J (ec J e0) eX ?_
     rintro _ w8 ⟨rfl,ja⟩
     have dW:=cM.ext ja
     refine k<|al dW bR ?_
     intro bD w9 ji (dt:HI M w w9 ((box bD #[C 0,C 0,C 0,C 0,C 0,.slice none 0 0,C 0,C 0] 33::fk)++r))
     refine k<|bt dt 0 J bR J J J J J J J ?_
     let fQ:=box bD #[C kd,C (-1),C (-1),C (-1),C (-1),.slice none 0 0,C (-1),C (-1)] 33
     intro dL (cR:HI M w dL ((fQ::fk)++r))
     refine av<|sq ?_
     obtain⟨x3,mW⟩:∃x,(dh I x0.1 x0.2 x1)[(0:Int).toNat]? =some x:=⟨_,eB aq⟩
     have eS:HI M w dL ((fQ::fk)++r):=cR
     let kJ:=[eC,dO,J9,J8,J6,J2,J3,J4,J7,J0,fQ]
     have ff:HI M w dL (kJ++r):=HI.aR (l:=(fQ::fk)) (l':=kJ) (t:=r) eS [1,2,3,4,5,6,7,8,9,10,0] aw rfl rfl
     refine Ww [none,none,none,none,none,none,some 8,none,some 10,none,none,some 6,none] [0,0,0,4,12,1,33,99,227,511,1023] [fun _=>[],fun _=>[],fun _=>[],fun v_=>[qP (vP v_) x3],fun _=>[],fun _=>[],fun v_=>[box bD #[C kd,C (-1),C (-1),C (-1),C (j_:Int),.slice none 0 0,C (-1),C (-1)] 33],fun _=>[],fun v_=>[box bD #[C kd,C x1,C (-1),C (-1),C (j_:Int),.slice none 0 0,C (-1),C (-1)] 33],fun _=>[],fun v_=>[box bD #[C kd,C x1,C x3,C (-1),C (j_:Int),.slice none 0 0,C (-1),C (-1)] 33],fun _=>[box bD #[C kd,C (-1),C (-1),C (-1),C (-1),.slice none 0 0,C (-1),C (-1)] 33],fun _=>r] [[],[],[],[],[3],[],[11],[],[6],[],[8]] [fun v_=>v_=C (j_:Int),fun v_=>v_=C x1∧aM (x1),fun v_=>v_=R a3 (dh I x0.1 x0.2 x1) c3,fun v_=>∃(rh:Addr),v_=.pointer (some rh),fun v_=>v_=C x3∧aM (x3),fun v_=>v_=pV bD 4,fun _=>True,fun v_=>v_=pV bD 1,fun _=>True,fun v_=>v_=pV bD 2,fun _=>True] [iL a3 (dh I x0.1 x0.2 x1) c3,oL w 3 a2 (aY (fJ I)<|cw I (j_:Int)) c2,box aZ #[C x0.1,R a1 x0.2 c1] 26,iL a1 x0.2 c1,box eE #[.slice aE aF aD,R ay I ax,R aA U az,C cn,R dq cr dp,R a0 (eP I U) c0] 80,iL ay I ax,iL aA U az,iL dq cr dp,oL w 26 a0 (eP I U) c0,box aX #[C 0,C 0,C 0,C 0,C 0,.slice none 0 0,C 0,C 0] 33] J aC J (by show HI _ _ _ ([iL a3 (dh I x0.1 x0.2 x1) c3,oL w 3 a2 (aY (fJ I)<|cw I (j_:Int)) c2,box aZ #[C x0.1,R a1 x0.2 c1] 26,iL a1 x0.2 c1,box eE #[.slice aE aF aD,R ay I ax,R aA U az,C cn,R dq cr dp,R a0 (eP I U) c0] 80,iL ay I ax,iL aA U az,iL dq cr dp,oL w 26 a0 (eP I U) c0,box aX #[C 0,C 0,C 0,C 0,C 0,.slice none 0 0,C 0,C 0] 33]++([box bD #[C kd,C (-1),C (-1),C (-1),C (-1),.slice none 0 0,C (-1),C (-1)] 33]++(r++[])));rw[aoT];exact ff) ?_ ?_
     ·
      refine⟨fun f2 jw V_ ez lT hp0 hq0 ga=>?_,?_⟩
      ·
       have iI:HI M w jw (fk++ez):=(by have h_:HI M w jw (fk++(ez)):=ga;exact h_)
       refine mv J ((lT 6 J).trans s9) ?_
       exact⟨_,J,J,iI⟩
      refine⟨fun f3 pZ V_ ez Gx Jc I9 kU=>?_,?_⟩
      ·
       have iD:HI M w pZ (fk++ez):=(by have h_:HI M w pZ (fk++(ez)):=kU;exact h_)
       refine mv J (Gx 9 J) ?_
       exact⟨_,J,⟨J,jT⟩,iD⟩
      refine⟨fun f4 uF V_ ez gK SZ nw kT=>?_,?_⟩
      ·
       have oq:HI M w uF (fk++ez):=(by have h_:HI M w uF (fk++(ez)):=kT;exact h_)
       refine mv J (gK 10 J) ?_
       exact⟨_,J,J,oq⟩
      refine⟨fun f5 sM V_ ez zZ yx Ej qR=>?_,?_⟩
      ·
       obtain⟨e0,q0⟩:=yx 2 _ rfl rfl rfl
       have e1:V_ 2=R a3 (dh I x0.1 x0.2 x1) c3:=q0
       have ln:f5 53=R a3 (dh I x0.1 x0.2 x1) c3:=e0.trans e1
       have kl:HI M w sM (fk++ez):=(by have h_:HI M w sM (fk++(ez)):=qR;exact h_)
       refine ia (kl.rv 0 J) J J ln J aq cK aV ?_
       intro pK x4 yr xD
       obtain rfl:x3=x4:=anm (mW.symm.trans yr)
       have Ax:=kl.put (it:=qP pK x3) J xD
       have j6:HI M w sM ((qP pK x3::fk)++ez):=Ax
       have vy:=HI.aR (l:=(qP pK x3::fk)) (l':=[eC,dO,J9,J8,J6,J2,J3,J4,J7,J0,qP pK x3]) (t:=ez) j6 [1,2,3,4,5,6,7,8,9,10,0] aw J J
       exact⟨_,J,⟨pK,J⟩,vy⟩
      refine⟨fun f6 sK V_ ez X3 El Ei mi=>?_,?_⟩
      ·
       obtain⟨e2,q1⟩:=El 3 _ rfl rfl rfl
       obtain⟨vn,e3⟩:∃(vn:Addr),V_ 3=.pointer (some vn):=q1
       have mQ:f6 54=.pointer (some vn):=e2.trans e3
       have wb:HI M w sK ([iL a3 (dh I x0.1 x0.2 x1) c3,oL w 3 a2 (aY (fJ I) (cw I (j_:Int))) c2,box aZ #[C x0.1,R a1 x0.2 c1] 26,iL a1 x0.2 c1,box eE #[.slice aE aF aD,R ay I ax,R aA U az,C cn,R dq cr dp,R a0 (eP I U) c0] 80,iL ay I ax,iL aA U az,iL dq cr dp,oL w 26 a0 (eP I U) c0,box aX #[C 0,C 0,C 0,C 0,C 0,.slice none 0 0,C 0,C 0] 33,qP vn x3]++ez):=(by have h_:HI M w sK ([iL a3 (dh I x0.1 x0.2 x1) c3,oL w 3 a2 (aY (fJ I) (cw I (j_:Int))) c2,box aZ #[C x0.1,R a1 x0.2 c1] 26,iL a1 x0.2 c1,box eE #[.slice aE aF aD,R ay I ax,R aA U az,C cn,R dq cr dp,R a0 (eP I U) c0] 80,iL ay I ax,iL aA U az,iL dq cr dp,oL w 26 a0 (eP I U) c0,box aX #[C 0,C 0,C 0,C 0,C 0,.slice none 0 0,C 0,C 0] 33]++([qP (vP (V_ 3)) x3]++(ez))):=mi;rw[e3] at h_;exact h_)
       refine mV (wb.atv 10 J).w aV J mQ ?_
       intro rk
       exact⟨_,J,⟨J,rk⟩,(by have h_:=wb;rw[show (vn:Addr)=(vP<|V_ 3) from by rw[e3]<;>rfl] at h_;exact h_)⟩
      refine⟨fun f7 uE V_ ez hs5 OO hq5 vw=>?_,?_⟩
      ·
       have oo:HI M w uE (fk++ez):=(by have h_:HI M w uE (fk++(ez)):=vw;exact h_)
       refine fa ng J (hs5 11 J) ?_
       exact⟨_,J,J,oo⟩
      refine⟨fun f8 xW V_ ez hs6 Jb hq6 JF=>?_,?_⟩
      ·
       obtain⟨e4,q2⟩:=Jb 0 _ rfl rfl rfl
       have e5:V_ 0=C (j_:Int):=q2
       have mP:f8 51=C (j_:Int):=e4.trans e5
       obtain⟨e6,q3⟩:=Jb 5 _ rfl rfl rfl
       have e7:V_ 5=pV bD 4:=q3
       have nM:f8 56=pV bD 4:=e6.trans e7
       have H46:HI M w xW (kJ++ez):=(by have h_:HI M w xW (fk++([fQ]++(ez))):=JF;exact h_)
       refine bt H46 10 J aV J J nM mP J J J ?_
       intro KE (H47:HI M w KE ([eC,dO,J9,J8,J6,J2,J3,J4,J7,J0,box bD #[C kd,C (-1),C (-1),C (-1),C (j_:Int),.slice none 0 0,C (-1),C (-1)] 33]++ez))
       exact⟨undef,J,trivial,H47⟩
      refine⟨fun f9 FW V_ ez hs7 Ja hq7 H49=>?_,?_⟩
      ·
       have H50:HI M w FW (fk++ez):=(by have h_:HI M w FW (fk++(ez)):=H49;exact h_)
       refine fa pG J (hs7 11 J) ?_
       exact⟨_,J,J,H50⟩
      refine⟨fun f10 Rs V_ ez X2 BG hq8 H52=>?_,?_⟩
      ·
       obtain⟨e8,q4⟩:=BG 1 _ rfl rfl rfl
       obtain⟨e9,nZ⟩:V_ 1=C x1∧aM (x1):=q4
       have pv:f10 52=C x1:=e8.trans e9
       obtain⟨TS,q5⟩:=BG 7 _ rfl rfl rfl
       have rI:V_ 7=pV bD 1:=q5
       have rr:f10 57=pV bD 1:=TS.trans rI
       let fz:=box bD #[C kd,C (-1),C (-1),C (-1),C (j_:Int),.slice none 0 0,C (-1),C (-1)] 33
       have H53:HI M w Rs ([eC,dO,J9,J8,J6,J2,J3,J4,J7,J0,fz]++ez):=(by have h_:HI M w Rs (fk++([fz]++(ez))):=H52;exact h_)
       refine bt H53 10 J aV J J rr pv J J J ?_
       intro w24 (H54:HI M w w24 ([eC,dO,J9,J8,J6,J2,J3,J4,J7,J0,box bD #[C kd,C x1,C (-1),C (-1),C (j_:Int),.slice none 0 0,C (-1),C (-1)] 33]++ez))
       exact⟨undef,J,trivial,H54⟩
      refine⟨fun f11 w25 V_ ez hs9 Ek hq9 H56=>?_,?_⟩
      ·
       have H57:HI M w w25 (fk++ez):=(by have h_:HI M w w25 (fk++(ez)):=H56;exact h_)
       refine fa nQ J (hs9 11 J) ?_
       exact⟨_,J,J,H57⟩
      refine⟨fun f12 w26 V_ ez acw vI ami H59=>?_,?_⟩
      ·
       obtain⟨sB,q6⟩:=vI 4 _ rfl rfl rfl
       obtain⟨rH,mR⟩:V_ 4=C x3∧aM (x3):=q6
       have BD:f12 55=C x3:=sB.trans rH
       obtain⟨tv,q7⟩:=vI 9 _ rfl rfl rfl
       have tu:V_ 9=pV bD 2:=q7
       have Ca:f12 58=pV bD 2:=tv.trans tu
       let il:=box bD #[C kd,C x1,C (-1),C (-1),C (j_:Int),.slice none 0 0,C (-1),C (-1)] 33
       have H60:HI M w w26 ([eC,dO,J9,J8,J6,J2,J3,J4,J7,J0,il]++ez):=(by have h_:HI M w w26 (fk++([il]++(ez))):=H59;exact h_)
       refine bt H60 10 J aV J J Ca BD J J J ?_
       intro Xm (H61:HI M w Xm ([eC,dO,J9,J8,J6,J2,J3,J4,J7,J0,box bD #[C kd,C x1,C x3,C (-1),C (j_:Int),.slice none 0 0,C (-1),C (-1)] 33]++ez))
       exact⟨undef,J,trivial,H61⟩
      exact trivial
     ·
      intro f13 w28 V_ acv Qw H63
      obtain⟨e16,q8⟩:=Qw 3 _ rfl rfl
      obtain⟨vm,e17⟩:∃(vm:Addr),V_ 3=.pointer (some vm):=q8
      have BC:=(acv 4 J).trans s8
      have F3:f13 11=pV bD 0:=acv 11 rfl
      have H64:HI M w w28 ([iL a3 (dh I x0.1 x0.2 x1) c3,oL w 3 a2 (aY (fJ I) (cw I (j_:Int))) c2,box aZ #[C x0.1,R a1 x0.2 c1] 26,iL a1 x0.2 c1,box eE #[.slice aE aF aD,R ay I ax,R aA U az,C cn,R dq cr dp,R a0 (eP I U) c0] 80,iL ay I ax,iL aA U az,iL dq cr dp,oL w 26 a0 (eP I U) c0,box aX #[C 0,C 0,C 0,C 0,C 0,.slice none 0 0,C 0,C 0] 33,qP vm x3,box bD #[C kd,C x1,C x3,C (-1),C (j_:Int),.slice none 0 0,C (-1),C (-1)] 33]++r):=(by have h_:HI M w w28 ([iL a3 (dh I x0.1 x0.2 x1) c3,oL w 3 a2 (aY (fJ I) (cw I (j_:Int))) c2,box aZ #[C x0.1,R a1 x0.2 c1] 26,iL a1 x0.2 c1,box eE #[.slice aE aF aD,R ay I ax,R aA U az,C cn,R dq cr dp,R a0 (eP I U) c0] 80,iL ay I ax,iL aA U az,iL dq cr dp,oL w 26 a0 (eP I U) c0,box aX #[C 0,C 0,C 0,C 0,C 0,.slice none 0 0,C 0,C 0] 33]++([]++([]++([]++([qP (vP (V_ 3)) x3]++([]++([]++([]++([]++([box bD #[C kd,C x1,C x3,C (-1),C (j_:Int),.slice none 0 0,C (-1),C (-1)] 33]++(r++([])))))))))))):=H63;rw[e17] at h_;rw[aoT] at h_;exact h_)
      refine cO<|k<|cz H64 11 J bR J F3 aw J<|k<|bt H64 9 J bR J J BC J J J J ?_
      let nX:=box aX #[C kd,C x1,C x3,C (-1),C (j_:Int),.slice none 0 0,C (-1),C (-1)] 33
      let lB:=box bD #[C kd,C x1,C x3,C (-1),C (j_:Int),.slice none 0 0,C (-1),C (-1)] 33
      let rJ:=[eC,dO,J9,J8,J6,J2,J3,J4,J7,nX,qP vm x3,lB]
      intro w29 (H65:HI M w w29 (rJ++r))
      refine au (v:=.bool true) J J<|av<|rt<|bQ<|aL<|dU<|bQ<|bQ<|aL<|dU<|bQ<|aL ?_
      have so:(aY (fJ I) (cw I (j_:Int))).find? (B9 I U ((I.length:Nat):Int) (cU I U (j_:Int)))=some x1:=adH gK cP (by simp only[B9,←zh,←zg,jo aP,jo cP,iA,mW,b0,b1,b2,b3,BL])
      have qE:IJ I U=some j_:=DQ hs GB (abe so)
      refine im H65 9 J bR J J J BC J aw ?_
      have H66:=HI.aR (l:=rJ) (l':=[J6,J2,J3,J4,J7]) (t:=r) H65 [4,5,6,7,8] aw J J
      have TR:(true:Bool)=(se I U kd).isSome:=by exact ae2 qE
      try rw[←TR]
      refine⟨kd,x1,x3,(-1),(j_:Int),(-1),(-1),a0,c0,?_,?_,(by exact ahJ lQ qE so aq bq (by rw[←zh,←zg];assumption) (MX PN ‹_›))⟩
      · first|rfl|simp only[TR]|(simp only[anj])
      · first|exact H66|simpa +zetaDelta only[TR,anj] using H66
    have p3:=dF b3
    refine sk<|aJ<|nx<|rg<|k<|add J J ky J aT<|ak (v:=C ((q_:Int)+1)) J J<|z ?_
    have dW:HI M w w7 (iO++r):=HI.aR (l:=fk) (l':=iO) (t:=r) cM [1,2,3,4,5,6,7,8,9] aw rfl rfl
    refine bB _ ?_ ⟨(q_+1),J,s6,s7,s8,s9,eo,fb,fM,fL,gB,gT,(bJ J),dW,aq,(by exact YH gK cP (by simp only[B9,←zh,←zg,jo aP,jo cP,iA,b0,b1,b2,b3,BL]))⟩
    omega
   have p2:=dF b2
   refine aO J J J b2<|aO J J J b2<|aO J J J b2<|k<|cJ J J J J b2 J<|av<|oQ J J J<|sk<|aJ<|nx<|rg<|k<|add J J ky J aT<|ak (v:=C ((q_:Int)+1)) J J<|z ?_
   have dW:HI M w w7 (iO++r):=HI.aR (l:=fk) (l':=iO) (t:=r) cM [1,2,3,4,5,6,7,8,9] aw rfl rfl
   refine bB _ ?_ ⟨(q_+1),J,s6,s7,s8,s9,eo,fb,fM,fL,gB,gT,(bJ J),dW,aq,(by exact YH gK cP (by simp only[B9,←zh,←zg,jo aP,jo cP,iA,b0,b1,b2,BL]))⟩
   omega
  have p1:=dF b1
  refine ex<|aW<|bc<|bg<|aJ<|nx<|rg<|k<|add J J fL J aT<|ak (v:=C ((j_:Int)+1)) J J<|z ?_
  have dw:HI M w w6 (ba++r):=HI.aR (l:=iO) (l':=ba) (t:=r) db [3,4,5,6,7,8] aw rfl rfl
  refine bB _ ?_ ⟨(j_+1),J,s6,s7,s8,fb,fM,(bJ J),dw,aq,(by exact r8 hs (Zp<|adI gK<|by unfold kX;omega))⟩
  omega
 have p0:=dF b0
 refine ex<|aW<|bc<|bg<|cO<|k<|bd (v:=.agg #[C 0,C 0,C 0,C 0,C 0,.slice none 0 0,C 0,C 0]) J eh (fun _=>aC)<|k<|bt H4 5 J bR J J s2 J J J J ?_
 intro w3 (H5:HI M w w3 (ba++r))
 refine au (v:=.bool false) J J<|av<|rt ?_
 have qE:IJ I U=none:=Bg hs (by rw[AL] at p0;omega)
 refine im H5 5 J bR J J J s2 J aw ?_
 have H6:=HI.aR (l:=ba) (l':=[J6,J2,J3,J4,J7]) (t:=r) H5 [0,1,2,3,4] aw J J
 have e0:(false:Bool)=(se I U kd).isSome:=by rw[Xy qE];rfl
 try rw[←e0]
 refine⟨0,0,0,0,0,0,0,a0,c0,?_,?_,(by exact tT (Xy qE) NU)⟩
 · first|rfl|simp only[e0]|(simp only[anj])
 · first|exact H6|simpa +zetaDelta only[e0,anj] using H6
theorem ady:cu aK 31:=⟨_,_,Tryz.func31,rfl,aC⟩
theorem QL:cu aK 32:=⟨_,_,Tryz.func32,rfl,aC⟩
theorem EU:aK.underlying 82=some (.slice 81):=aC
theorem sO:ei aK 81 1 false 8 (.nilFunc):=⟨aC,aC⟩
theorem aja:cu aK 33:=⟨_,_,Tryz.func33,rfl,aC⟩
theorem ai':cu aK 34:=⟨_,_,Tryz.func34,rfl,aC⟩
theorem ai_:cu aK 35:=⟨_,_,Tryz.func35,rfl,aC⟩
theorem ai9:cu aK 36:=⟨_,_,Tryz.func36,rfl,aC⟩
theorem ai8:cu aK 37:=⟨_,_,Tryz.func37,rfl,aC⟩
theorem ai7:cu aK 38:=⟨_,_,Tryz.func38,rfl,aC⟩
theorem ai6:cu aK 39:=⟨_,_,Tryz.func39,rfl,aC⟩
theorem ML (hM:eG M w) (hT:fP 0 w) (dy:cA M w ay ax I) (fZ:cA M w aA az U) (pe:aM lv) (ho:gX I) (du:I.length≤64) (eu:U.length=I.length) (fG:∀x∈U,x<((I.length:Nat):Int)) (L0:lv=1∨lv=2∨lv=3):Calls aK 16 #[.agg #[.slice aE aF aD,R ay I ax,R aA U az],C lv] w (cg fun v w'=>∃(k_:Int) (r_:Int) (a_:Int) (b_:Int) (o_:Int) (f_:Int) (s_:Int),v=.tuple #[.agg #[C k_,C r_,C a_,C b_,C o_,.slice none 0 0,C f_,C s_],C (eZ I U lv)]∧Ext w w'∧qg (ik I U lv) k_ r_ a_ b_ o_):=by
 refine dm 57 Tryz.func16 J J J hM fun f0 ha H=>?_
 let J0:=iL ay I ax
 have H0:=H.put (it:=J0) J<|by rw[bN];exact dy
 let J1:=iL aA U az
 have H1:=H0.put (it:=J1) J<|by rw[aG rfl,bN];exact fZ
 have iU:=bf dy
 have kE:=bf fZ
 have i0:f0 0=.agg #[.slice aE aF aD,R ay I ax,R aA U az]:=ha 0 bh
 have i1:f0 1=C lv:=ha 1 bh
 have kY:bF ((I.length:Nat):Int) (cp I U)=true:=pj U aq
 have ail:=SF (lv:=lv)
 refine aB<|k<|bx H1 J i0 ?_
 let ba:=[J1,J0]
 intro aX w0 bT (H2:HI M w w0 (box aX #[.slice aE aF aD,R ay I ax,R aA U az] 47::ba))
 let J2:=box aX #[.slice aE aF aD,R ay I ax,R aA U az] 47
 refine k<|al H2 bR ?_
 let bZ:=J2::ba
 intro aZ w1 da (H3:HI M w w1 (box aZ #[C 0,C 0,C 0,C 0,C 0,.slice none 0 0,C 0,C 0] 33::bZ))
 let J3:=box aZ #[C 0,C 0,C 0,C 0,C 0,.slice none 0 0,C 0,C 0] 33
 refine au (v:=C 0) J J<|bp<|ak J i1<|k ?_
 have bP:=Jy (lv:=lv) H3.mb pe
 refine ca ady J (ec J e0) bP ?_
 rintro _ w2 ⟨a0,c0,rfl,eR,cq⟩
 have H4:=H3.eL cq
 refine au (v:=R a0 (dQ lv) c0) J J<|av<|sq<|aB<|ak (v:=R a0 (dQ lv) c0) J J<|k<|TL J J J J cK<|av<|oQ J J (Bool.eq_false_iff.2 fun h_=>VM L0 (Oe (H4.at_ 0 J) h_))<|sk<|nx<|sq<|mg [.r,.r,.r,.r,.e,.e] (fun _=>True) J aC (fun _ _=>trivial)<|yq J J<|kq (fun _ x_=>cz (H4.ext x_) 2 J dN J J aw J e1)<|bM<|kq (fun _ x_=>cz (H4.ext x_) 2 J dN J J aw J e1)<|zq<|yu J (fun _ v w'=>∃(a1:OA) (c1:Nat),v=.agg #[C (I.length:Int),R a1 (cp I U) c1]∧RV H4.fV w' (R a1 (cp I U) c1) (cp I U)) J jk J (fun v_ _ x_ _=>have fS:=Bo (I:=I) (U:=U) (aE:=aE) (aF:=aF) (aD:=aD) (w:=v_) (H4.ext x_).mb ((H4.ext x_).rv 4 rfl) ((H4.ext x_).rv 3 rfl) (by exact ho) aq (by exact eu) (by exact fG);ca QL rfl (ec J e0) fS (fun _ w4 ⟨a2,c2,e_,ja,dY⟩=>⟨_,J,ja,⟨a2,c2,e_,dY⟩⟩))<|lF J (fun _ v w'=>∃(a3:OA) (c3:Nat),v=.agg #[.slice aE aF aD,R ay I ax,R aA U az,C (I.length:Int),R a3 (cp I U) c3,.slice none 0 0]∧RV H4.fV w' (R a3 (cp I U) c3) (cp I U)) 0 J J jk J (fun _ _ _ _ _ h_=>let ⟨a4,c4,s0,je⟩:=h_;bd (v:=.agg #[.slice aE aF aD,R ay I ax,R aA U az,C (I.length:Int),R a4 (cp I U) c4,.slice none 0 0]) rfl (cj J<|cj s0 eh) (fun _=>aC) ⟨_,J,Ext.refl _,⟨a4,c4,J,je⟩⟩)<|ye<|ye<|yz ?_
 intro w5 f0 _ ji _ _ cB iN
 have dw:=H4.ext ji
 have s1:=cB 4 J
 have s2:=cB 6 J
 obtain⟨a5,c5,s3,jT⟩:=iN 0 _ _ rfl
 let J4:=iL a5 (cp I U) c5
 have dz:=dw.put (it:=J4) J jT
 refine j5<|bx dz J s3 ?_
 let J5:=oL w 3 a0 (dQ lv) c0
 let dE:=J4::J5::J3::bZ
 intro bD w6 kb (cM:HI M w w6 (box bD #[.slice aE aF aD,R ay I ax,R aA U az,C (I.length:Int),R a5 (cp I U) c5,.slice none 0 0] 80::dE))
 refine j5<|jG (v:=pV bD 0) J J<|kz<|cO<|ak (v:=pV bD 0) J J<|k<|Lz J J<|ak (v:=pV bD 0) J J<|k<|Lz J J<|ak (v:=pV bD 0) J J<|k<|Lz J J<|ak (v:=pV bD 0) J J<|k<|Lz J J<|ak (v:=pV bD 0) J J<|k<|Lz J J<|ak (v:=pV bD 0) J J<|k<|Lz J J<|ak (v:=pV bD 0) J J<|k<|Lz J J<|k<|bsB (cells:=#[.nilFunc,.func (.func 33) #[pV bD 0] #[],.func (.func 34) #[pV bD 0] #[],.func (.func 35) #[pV bD 0] #[],.func (.func 36) #[pV bD 0] #[],.func (.func 37) #[pV bD 0] #[],.func (.func 38) #[pV bD 0] #[],.func (.func 39) #[pV bD 0] #[]]) (e:=81) cM J (cj J<|cj J<|cj J<|cj J<|cj J<|cj J<|cj J<|cj J eh) (fun _=>aC) ?_
 intro g0 w7 ma (dW:HI M w w7 (box g0 #[.nilFunc,.func (.func 33) #[pV bD 0] #[],.func (.func 34) #[pV bD 0] #[],.func (.func 35) #[pV bD 0] #[],.func (.func 36) #[pV bD 0] #[],.func (.func 37) #[pV bD 0] #[],.func (.func 38) #[pV bD 0] #[],.func (.func 39) #[pV bD 0] #[]] 81::box bD #[.slice aE aF aD,R ay I ax,R aA U az,C (I.length:Int),R a5 (cp I U) c5,.slice none 0 0] 80::dE))
 let J6:=box g0 #[.nilFunc,.func (.func 33) #[pV bD 0] #[],.func (.func 34) #[pV bD 0] #[],.func (.func 35) #[pV bD 0] #[],.func (.func 36) #[pV bD 0] #[],.func (.func 37) #[pV bD 0] #[],.func (.func 38) #[pV bD 0] #[],.func (.func 39) #[pV bD 0] #[]] 81
 refine au (v:=.slice (some ⟨g0,0,none⟩) 8 8) J J<|av<|sq<|aB<|ak J s2<|k<|dP J J cK<|ak (v:=C 0) J J<|av<|bk ?_
 have dt:=dW.rl (Int×(List<|List bY)) 26
 refine lp (fun m f w'=>∃(j_:Nat) (iX:List (Int×(List<|List bY))) (a6:OA) (c6:Nat),m=(dQ lv).length-j_∧f 4=pV aZ 0∧f 7=pV bD 0∧f 8=.slice (some ⟨g0,0,none⟩) 8 8∧f 38=R a0 (dQ lv) c0∧f 39=C ((dQ lv).length:Int)∧f 40=C (j_:Int)∧HI M w w' (oL w 26 a6 iX c6::J6::box bD #[.slice aE aF aD,R ay I ax,R aA U az,C (I.length:Int),R a5 (cp I U) c5,R a6 iX c6] 80::dE)∧(j_≤(dQ lv).length)∧(a6=none∧iX=[]∨iX=eP I U)∧(∀y∈(dQ lv).take j_,j9 I U y=none)) _ ⟨0,([]:List (Int×(List<|List bY))),none,0,J,s1,J,J,J,J,(bJ J),dt,aq,(by exact Or.inl ⟨J,J⟩),(by intro y h;simp at h)⟩ ?_
 rintro _ f1 w8 ⟨j_,iX,a6,c6,rfl,s4,s5,s6,s7,s8,s9,cR,pB,Fk,hs⟩
 refine aB<|k<|lss J J s9 s8<|av<|sq<|cd (b:=decide ((j_:Int)<((dQ lv).length:Int))) J J (fun b0=>?_)<|fun b0=>?_
 ·
  have p0:=dT b0
  refine sk<|nx<|sq<|bk<|aB<|k<|ij (cR.at_ 4 J) J J s7 s9 aq cK aV ?_
  intro g1 x0 iq aP ct
  refine k<|mV ct aV J J ?_
  intro jd
  refine au (v:=C x0) J J<|av<|sq ?_
  rcases (show x0=1∨x0=2∨x0=3∨x0=4∨x0=5∨x0=6∨x0=7 from by exact LH (dB aP)) with rfl|rfl|rfl|rfl|rfl|rfl|rfl
  ·
   refine rg<|ak J s6<|ak (v:=C 1) J J<|k<|LP J J J J 1 J aw EU sO<|bl cR 1 J sO J J J<|ak (v:=C 1) J J<|k ?_
   have eX:=W7 (I:=I) (U:=U) (cn:=(I.length:Int)) (cr:=(cp I U)) (kd:=1) (w:=w8) (M:=fun _=>False) (fun _ h_=>h_.elim) ((cR.rv 8 J).lift (Up.less fun _ _ h_=>h_.elim)) ((cR.rv 7 J).lift (Up.less fun _ _ h_=>h_.elim)) aT ((cR.rv 3 J).lift (Up.less fun _ _ h_=>h_.elim)) bq ⟨cR.at_ 2 rfl,fun h_=>h_⟩
   refine MB aja J J J (ec J e0) eX ?_
   rintro _ w9 ⟨o0,o1,o2,o3,o4,o5,o6,rfl,nr,q0⟩
   have dM:=cR.ext nr
   refine ak (v:=.tuple #[.agg #[C o0,C o1,C o2,C o3,C o4,.slice none 0 0,C o5,C o6],.bool ((oZ U 1).isSome)]) J J<|k<|xt J J J<|k<|xt J J J<|k<|al dM bR ?_
   let J7:=box bD #[.slice aE aF aD,R ay I ax,R aA U az,C (I.length:Int),R a5 (cp I U) c5,R a6 iX c6] 80
   let iO:=oL w 26 a6 iX c6::J6::J7::dE
   intro fe dL tD (dI:HI M w dL (box fe #[C 0,C 0,C 0,C 0,C 0,.slice none 0 0,C 0,C 0] 33::iO))
   refine k<|bt dI 0 J bR J J J J J J J ?_
   let J8:=box fe #[C o0,C o1,C o2,C o3,C o4,.slice none 0 0,C o5,C o6] 33
   intro ef (cF:HI M w ef (J8::iO))
   refine au (v:=.bool ((oZ U 1).isSome)) J J<|bp<|ak (v:=.bool ((oZ U 1).isSome)) J J<|z<|nx<|cd (b:=(oZ U 1).isSome) J J (fun b1=>?_)<|fun b1=>?_
   ·
    refine aB<|k<|cz cF 0 J bR J J aw J<|k<|bt cF 6 J bR J J s4 J J J J ?_
    intro fh (dV:HI M w fh [J8,oL w 26 a6 iX c6,J6,J7,J4,J5,box aZ #[C o0,C o1,C o2,C o3,C o4,.slice none 0 0,C o5,C o6] 33,J2,J1,J0])
    refine au (v:=C 0) J J<|av<|rt<|bQ<|aL<|dU<|bQ<|aL<|im dV 6 J bR J J J s4 J aw ?_
    have e8:(0:Int)=eZ I U lv:=by exact r9 (nO hs aP Vn bq) bq
    have bo:=iB (fun (lG:Int)=>(.tuple #[.agg #[C o0,C o1,C o2,C o3,C o4,.slice none 0 0,C o5,C o6],C lG]:Value)) e8
    exact⟨o0,o1,o2,o3,o4,o5,o6,bo,dV.below,(by exact wK (nO hs aP Vn bq) bq)⟩
   refine sk<|aJ<|nx<|rg<|k<|add J J s9 J aT<|ak (v:=C ((j_:Int)+1)) J J<|z ?_
   have dV:=cF.put (it:=J4) J<|cF.rv 4 J
   have dG:=dV.put (it:=J1) J<|dV.rv 9 J
   have eS:=dG.put (it:=J0) J<|dG.rv 11 J
   have ff:HI M w ef iO:=eS.bU [4,5,6,2,8,9,10,1,0] aw rfl
   refine bB _ ?_ ⟨(j_+1),iX,a6,c6,J,s4,s5,s6,s7,s8,(bJ J),ff,aq,(by exact Fk),(by exact AS hs aP Vn bq)⟩
   omega
  ·
   refine rg<|ak J s6<|ak (v:=C 2) J J<|k<|LP J J J J 2 J aw EU sO<|bl cR 1 J sO J J J<|ak (v:=C 2) J J<|k ?_
   have eX:=Ul (cn:=(I.length:Int)) (cr:=(cp I U)) (kd:=2) (w:=w8) (M:=fun _=>False) (fun _ h_=>h_.elim) aT ((cR.rv 3 J).lift (Up.less fun _ _ h_=>h_.elim)) bq ⟨cR.at_ 2 rfl,fun h_=>h_⟩<|by exact kY
   refine MB ai' J J J (ec J e0) eX ?_
   rintro _ w9 ⟨o0,o1,o2,o3,o4,o5,o6,rfl,nr,q0⟩
   have dM:=cR.ext nr
   refine ak (v:=.tuple #[.agg #[C o0,C o1,C o2,C o3,C o4,.slice none 0 0,C o5,C o6],.bool ((j8 (I.length:Int) (cp I U) 2).isSome)]) J J<|k<|xt J J J<|k<|xt J J J<|k<|al dM bR ?_
   let J9:=box bD #[.slice aE aF aD,R ay I ax,R aA U az,C (I.length:Int),R a5 (cp I U) c5,R a6 iX c6] 80
   let fk:=oL w 26 a6 iX c6::J6::J9::dE
   intro fe dL tD (dI:HI M w dL (box fe #[C 0,C 0,C 0,C 0,C 0,.slice none 0 0,C 0,C 0] 33::fk))
   refine k<|bt dI 0 J bR J J J J J J J ?_
   let dO:=box fe #[C o0,C o1,C o2,C o3,C o4,.slice none 0 0,C o5,C o6] 33
   intro ef (cF:HI M w ef (dO::fk))
   refine au (v:=.bool ((j8 (I.length:Int) (cp I U) 2).isSome)) J J<|bp<|ak (v:=.bool ((j8 (I.length:Int) (cp I U) 2).isSome)) J J<|z<|nx<|cd (b:=(j8 (I.length:Int) (cp I U) 2).isSome) J J (fun b1=>?_)<|fun b1=>?_
   ·
    refine aB<|k<|cz cF 0 J bR J J aw J<|k<|bt cF 6 J bR J J s4 J J J J ?_
    intro fh (dV:HI M w fh [dO,oL w 26 a6 iX c6,J6,J9,J4,J5,box aZ #[C o0,C o1,C o2,C o3,C o4,.slice none 0 0,C o5,C o6] 33,J2,J1,J0])
    refine au (v:=C 0) J J<|av<|rt<|bQ<|aL<|dU<|bQ<|aL<|im dV 6 J bR J J J s4 J aw ?_
    have e8:(0:Int)=eZ I U lv:=by exact r9 (nO hs aP Vm bq) bq
    have bo:=iB (fun (lG:Int)=>(.tuple #[.agg #[C o0,C o1,C o2,C o3,C o4,.slice none 0 0,C o5,C o6],C lG]:Value)) e8
    exact⟨o0,o1,o2,o3,o4,o5,o6,bo,dV.below,(by exact wK (nO hs aP Vm bq) bq)⟩
   refine sk<|aJ<|nx<|rg<|k<|add J J s9 J aT<|ak (v:=C ((j_:Int)+1)) J J<|z ?_
   have dV:=cF.put (it:=J4) J<|cF.rv 4 J
   have dG:=dV.put (it:=J1) J<|dV.rv 9 J
   have eS:=dG.put (it:=J0) J<|dG.rv 11 J
   have ff:HI M w ef fk:=eS.bU [4,5,6,2,8,9,10,1,0] aw rfl
   refine bB _ ?_ ⟨(j_+1),iX,a6,c6,J,s4,s5,s6,s7,s8,(bJ J),ff,aq,(by exact Fk),(by exact AS hs aP Vm bq)⟩
   omega
  ·
   refine rg<|ak J s6<|ak (v:=C 3) J J<|k<|LP J J J J 3 J aw EU sO<|bl cR 1 J sO J J J<|ak (v:=C 3) J J<|k ?_
   have eX:=Uk (I:=I) (U:=U) (cn:=(I.length:Int)) (cr:=(cp I U)) (kd:=3) (w:=w8) (M:=fun _=>False) (fun _ h_=>h_.elim) (hT.ext cR.below) ((cR.rv 8 J).lift (Up.less fun _ _ h_=>h_.elim)) ((cR.rv 7 J).lift (Up.less fun _ _ h_=>h_.elim)) aT ((cR.rv 3 J).lift (Up.less fun _ _ h_=>h_.elim)) bq ⟨cR.at_ 2 rfl,fun h_=>h_⟩ (by exact kY)<|by exact eu
   refine MB ai_ J J J (ec J e0) eX ?_
   rintro _ w9 ⟨o0,o1,o2,o3,o4,o5,o6,rfl,nr,q0⟩
   have dM:=cR.ext nr
   refine ak (v:=.tuple #[.agg #[C o0,C o1,C o2,C o3,C o4,.slice none 0 0,C o5,C o6],.bool ((pX I U (I.length:Int) (cp I U) 3).isSome)]) J J<|k<|xt J J J<|k<|xt J J J<|k<|al dM bR ?_
   let eC:=box bD #[.slice aE aF aD,R ay I ax,R aA U az,C (I.length:Int),R a5 (cp I U) c5,R a6 iX c6] 80
   let kJ:=oL w 26 a6 iX c6::J6::eC::dE
   intro fe dL tD (dI:HI M w dL (box fe #[C 0,C 0,C 0,C 0,C 0,.slice none 0 0,C 0,C 0] 33::kJ))
   refine k<|bt dI 0 J bR J J J J J J J ?_
   let fQ:=box fe #[C o0,C o1,C o2,C o3,C o4,.slice none 0 0,C o5,C o6] 33
   intro ef (cF:HI M w ef (fQ::kJ))
   refine au (v:=.bool ((pX I U (I.length:Int) (cp I U) 3).isSome)) J J<|bp<|ak (v:=.bool ((pX I U (I.length:Int) (cp I U) 3).isSome)) J J<|z<|nx<|cd (b:=(pX I U (I.length:Int) (cp I U) 3).isSome) J J (fun b1=>?_)<|fun b1=>?_
   ·
    refine aB<|k<|cz cF 0 J bR J J aw J<|k<|bt cF 6 J bR J J s4 J J J J ?_
    intro fh (dV:HI M w fh [fQ,oL w 26 a6 iX c6,J6,eC,J4,J5,box aZ #[C o0,C o1,C o2,C o3,C o4,.slice none 0 0,C o5,C o6] 33,J2,J1,J0])
    refine au (v:=C 0) J J<|av<|rt<|bQ<|aL<|dU<|bQ<|aL<|im dV 6 J bR J J J s4 J aw ?_
    have e8:(0:Int)=eZ I U lv:=by exact r9 (nO hs aP Vl bq) bq
    have bo:=iB (fun (lG:Int)=>(.tuple #[.agg #[C o0,C o1,C o2,C o3,C o4,.slice none 0 0,C o5,C o6],C lG]:Value)) e8
    exact⟨o0,o1,o2,o3,o4,o5,o6,bo,dV.below,(by exact wK (nO hs aP Vl bq) bq)⟩
   refine sk<|aJ<|nx<|rg<|k<|add J J s9 J aT<|ak (v:=C ((j_:Int)+1)) J J<|z ?_
   have dV:=cF.put (it:=J4) J<|cF.rv 4 J
   have dG:=dV.put (it:=J1) J<|dV.rv 9 J
   have eS:=dG.put (it:=J0) J<|dG.rv 11 J
   have ff:HI M w ef kJ:=eS.bU [4,5,6,2,8,9,10,1,0] aw rfl
   refine bB _ ?_ ⟨(j_+1),iX,a6,c6,J,s4,s5,s6,s7,s8,(bJ J),ff,aq,(by exact Fk),(by exact AS hs aP Vl bq)⟩
   omega
  ·
   refine rg<|ak J s6<|ak (v:=C 4) J J<|k<|LP J J J J 4 J aw EU sO<|bl cR 1 J sO J J J<|ak (v:=C 4) J J<|k ?_
   have eX:=NN (I:=I) (U:=U) (cn:=(I.length:Int)) (cr:=(cp I U)) (kd:=4) (w:=w8) (M:=fun _=>False) (fun _ h_=>h_.elim) (hT.ext cR.below) ((cR.rv 8 J).lift (Up.less fun _ _ h_=>h_.elim)) ((cR.rv 7 J).lift (Up.less fun _ _ h_=>h_.elim)) aT ((cR.rv 3 J).lift (Up.less fun _ _ h_=>h_.elim)) bq ⟨cR.at_ 2 rfl,fun h_=>h_⟩ (by exact kY)<|by exact eu
   refine MB ai9 J J J (ec J e0) eX ?_
   rintro _ w9 ⟨o0,o1,o2,o3,o4,o5,o6,rfl,nr,q0⟩
   have dM:=cR.ext nr
   refine ak (v:=.tuple #[.agg #[C o0,C o1,C o2,C o3,C o4,.slice none 0 0,C o5,C o6],.bool ((pY I U (I.length:Int) (cp I U) 4).isSome)]) J J<|k<|xt J J J<|k<|xt J J J<|k<|al dM bR ?_
   let fz:=box bD #[.slice aE aF aD,R ay I ax,R aA U az,C (I.length:Int),R a5 (cp I U) c5,R a6 iX c6] 80
   let rJ:=oL w 26 a6 iX c6::J6::fz::dE
   intro fe dL tD (dI:HI M w dL (box fe #[C 0,C 0,C 0,C 0,C 0,.slice none 0 0,C 0,C 0] 33::rJ))
   refine k<|bt dI 0 J bR J J J J J J J ?_
   let il:=box fe #[C o0,C o1,C o2,C o3,C o4,.slice none 0 0,C o5,C o6] 33
   intro ef (cF:HI M w ef (il::rJ))
   refine au (v:=.bool ((pY I U (I.length:Int) (cp I U) 4).isSome)) J J<|bp<|ak (v:=.bool ((pY I U (I.length:Int) (cp I U) 4).isSome)) J J<|z<|nx<|cd (b:=(pY I U (I.length:Int) (cp I U) 4).isSome) J J (fun b1=>?_)<|fun b1=>?_
   ·
    refine aB<|k<|cz cF 0 J bR J J aw J<|k<|bt cF 6 J bR J J s4 J J J J ?_
    intro fh (dV:HI M w fh [il,oL w 26 a6 iX c6,J6,fz,J4,J5,box aZ #[C o0,C o1,C o2,C o3,C o4,.slice none 0 0,C o5,C o6] 33,J2,J1,J0])
    refine au (v:=C 0) J J<|av<|rt<|bQ<|aL<|dU<|bQ<|aL<|im dV 6 J bR J J J s4 J aw ?_
    have e8:(0:Int)=eZ I U lv:=by exact r9 (nO hs aP Vk bq) bq
    have bo:=iB (fun (lG:Int)=>(.tuple #[.agg #[C o0,C o1,C o2,C o3,C o4,.slice none 0 0,C o5,C o6],C lG]:Value)) e8
    exact⟨o0,o1,o2,o3,o4,o5,o6,bo,dV.below,(by exact wK (nO hs aP Vk bq) bq)⟩
   refine sk<|aJ<|nx<|rg<|k<|add J J s9 J aT<|ak (v:=C ((j_:Int)+1)) J J<|z ?_
   have dV:=cF.put (it:=J4) J<|cF.rv 4 J
   have dG:=dV.put (it:=J1) J<|dV.rv 9 J
   have eS:=dG.put (it:=J0) J<|dG.rv 11 J
   have ff:HI M w ef rJ:=eS.bU [4,5,6,2,8,9,10,1,0] aw rfl
   refine bB _ ?_ ⟨(j_+1),iX,a6,c6,J,s4,s5,s6,s7,s8,(bJ J),ff,aq,(by exact Fk),(by exact AS hs aP Vk bq)⟩
   omega
  ·
   refine rg<|ak J s6<|ak (v:=C 5) J J<|k<|LP J J J J 5 J aw EU sO<|bl cR 1 J sO J J J<|ak (v:=C 5) J J<|k ?_
   have eX:=MK (I:=I) (U:=U) (cn:=(I.length:Int)) (cr:=(cp I U)) (kd:=5) (w:=w8) (M:=fun _=>False) (fun _ h_=>h_.elim) (hT.ext cR.below) ((cR.rv 8 J).lift (Up.less fun _ _ h_=>h_.elim)) ((cR.rv 7 J).lift (Up.less fun _ _ h_=>h_.elim)) aT ((cR.rv 3 J).lift (Up.less fun _ _ h_=>h_.elim)) bq ⟨cR.at_ 2 rfl,fun h_=>h_⟩ (by exact ho) (by exact du) (by exact eu) (by exact fG) aq<|by rfl
   refine MB ai8 J J J (ec J e0) eX ?_
   rintro _ w9 ⟨o0,o1,o2,o3,o4,o5,o6,rfl,nr,q0⟩
   have dM:=cR.ext nr
   refine ak (v:=.tuple #[.agg #[C o0,C o1,C o2,C o3,C o4,.slice none 0 0,C o5,C o6],.bool ((j8 ((I.length:Nat):Int) (Al I U) 5).isSome)]) J J<|k<|xt J J J<|k<|xt J J J<|k<|al dM bR ?_
   let nX:=box bD #[.slice aE aF aD,R ay I ax,R aA U az,C (I.length:Int),R a5 (cp I U) c5,R a6 iX c6] 80
   let Dj:=oL w 26 a6 iX c6::J6::nX::dE
   intro fe dL tD (dI:HI M w dL (box fe #[C 0,C 0,C 0,C 0,C 0,.slice none 0 0,C 0,C 0] 33::Dj))
   refine k<|bt dI 0 J bR J J J J J J J ?_
   let lB:=box fe #[C o0,C o1,C o2,C o3,C o4,.slice none 0 0,C o5,C o6] 33
   intro ef (cF:HI M w ef (lB::Dj))
   refine au (v:=.bool ((j8 ((I.length:Nat):Int) (Al I U) 5).isSome)) J J<|bp<|ak (v:=.bool ((j8 ((I.length:Nat):Int) (Al I U) 5).isSome)) J J<|z<|nx<|cd (b:=(j8 ((I.length:Nat):Int) (Al I U) 5).isSome) J J (fun b1=>?_)<|fun b1=>?_
   ·
    refine aB<|k<|cz cF 0 J bR J J aw J<|k<|bt cF 6 J bR J J s4 J J J J ?_
    intro fh (dV:HI M w fh [lB,oL w 26 a6 iX c6,J6,nX,J4,J5,box aZ #[C o0,C o1,C o2,C o3,C o4,.slice none 0 0,C o5,C o6] 33,J2,J1,J0])
    refine au (v:=C 0) J J<|av<|rt<|bQ<|aL<|dU<|bQ<|aL<|im dV 6 J bR J J J s4 J aw ?_
    have e8:(0:Int)=eZ I U lv:=by exact r9 (nO hs aP Vj bq) bq
    have bo:=iB (fun (lG:Int)=>(.tuple #[.agg #[C o0,C o1,C o2,C o3,C o4,.slice none 0 0,C o5,C o6],C lG]:Value)) e8
    exact⟨o0,o1,o2,o3,o4,o5,o6,bo,dV.below,(by exact wK (nO hs aP Vj bq) bq)⟩
   refine sk<|aJ<|nx<|rg<|k<|add J J s9 J aT<|ak (v:=C ((j_:Int)+1)) J J<|z ?_
   have dV:=cF.put (it:=J4) J<|cF.rv 4 J
   have dG:=dV.put (it:=J1) J<|dV.rv 9 J
   have eS:=dG.put (it:=J0) J<|dG.rv 11 J
   have ff:HI M w ef Dj:=eS.bU [4,5,6,2,8,9,10,1,0] aw rfl
   refine bB _ ?_ ⟨(j_+1),iX,a6,c6,J,s4,s5,s6,s7,s8,(bJ J),ff,aq,(by exact Fk),(by exact AS hs aP Vj bq)⟩
   omega
  ·
   refine rg<|ak J s6<|ak (v:=C 6) J J<|k<|LP J J J J 6 J aw EU sO<|bl cR 1 J sO J J J<|ak (v:=C 6) J J<|k ?_
   have dM:HI M w w8 ([box bD #[.slice aE aF aD,R ay I ax,R aA U az,C (I.length:Int),R a5 (cp I U) c5,R a6 iX c6] 80,J0,J1,J4,oL w 26 a6 iX c6]++[J6,J5,J3,J2]):=cR.bU [2,8,7,3,0,1,4,5,6] aw rfl
   have eX:=Uj (eE:=bD) (aE:=aE) (aF:=aF) (aD:=aD) (ay:=ay) (ax:=ax) (I:=I) (aA:=aA) (az:=az) (U:=U) (cn:=(I.length:Int)) (dq:=a5) (dp:=c5) (cr:=(cp I U)) (iH:=a6) (jB:=c6) (sw:=iX) (kd:=6) (w:=w) (w_:=w8) (r:=[J6,J5,J3,J2]) (M:=M) aT bq hT (by exact ho) (by exact du) (by exact eu) (by exact fG) aq (by rfl) (by exact Fk) dM
   refine MB ai7 J J J (ec J e0) eX ?_
   rintro _ w9 ⟨o0,o1,o2,o3,o4,o5,o6,a7,c7,rfl,dI,q0⟩
   let qQ:=box bD #[.slice aE aF aD,R ay I ax,R aA U az,C (I.length:Int),R a5 (cp I U) c5,R a7 (eP I U) c7] 80
   let jv:=oL w 26 a7 (eP I U) c7
   let Hg:=[qQ,J0,J1,J4,jv,J6,J5,J3,J2]
   have cF:HI M w w9 Hg:=dI
   refine ak (v:=.tuple #[.agg #[C o0,C o1,C o2,C o3,C o4,.slice none 0 0,C o5,C o6],.bool ((se I U 6).isSome)]) J J<|k<|xt J J J<|k<|xt J J J<|k<|al cF bR ?_
   intro fe dL nr (dV:HI M w dL (box fe #[C 0,C 0,C 0,C 0,C 0,.slice none 0 0,C 0,C 0] 33::Hg))
   refine k<|bt dV 0 J bR J J J J J J J ?_
   let oW:=box fe #[C o0,C o1,C o2,C o3,C o4,.slice none 0 0,C o5,C o6] 33
   intro ef (dG:HI M w ef (oW::Hg))
   refine au (v:=.bool ((se I U 6).isSome)) J J<|bp<|ak (v:=.bool ((se I U 6).isSome)) J J<|z<|nx<|cd (b:=(se I U 6).isSome) J J (fun b1=>?_)<|fun b1=>?_
   ·
    refine aB<|k<|cz dG 0 J bR J J aw J<|k<|bt dG 8 J bR J J s4 J J J J ?_
    intro fh (eS:HI M w fh [oW,qQ,J0,J1,J4,jv,J6,J5,box aZ #[C o0,C o1,C o2,C o3,C o4,.slice none 0 0,C o5,C o6] 33,J2])
    refine au (v:=C 0) J J<|av<|rt<|bQ<|aL<|dU<|bQ<|aL<|im eS 8 J bR J J J s4 J aw ?_
    have e8:(0:Int)=eZ I U lv:=by exact r9 (nO hs aP Vi bq) bq
    have bo:=iB (fun (lG:Int)=>(.tuple #[.agg #[C o0,C o1,C o2,C o3,C o4,.slice none 0 0,C o5,C o6],C lG]:Value)) e8
    exact⟨o0,o1,o2,o3,o4,o5,o6,bo,eS.below,(by exact wK (nO hs aP Vi bq) bq)⟩
   refine sk<|aJ<|nx<|rg<|k<|add J J s9 J aT<|ak (v:=C ((j_:Int)+1)) J J<|z ?_
   have eS:=dG.put (it:=J4) J<|dG.rv 4 J
   have ff:=eS.put (it:=J1) J<|eS.rv 4 J
   have ga:=ff.put (it:=J0) J<|ff.rv 4 J
   have iI:HI M w ef (jv::J6::qQ::dE):=ga.bU [8,9,4,2,10,11,12,1,0] aw rfl
   refine bB _ ?_ ⟨(j_+1),(eP I U),a7,c7,J,s4,s5,s6,s7,s8,(bJ J),iI,aq,(by exact Or.inr rfl),(by exact AS hs aP Vi bq)⟩
   omega
  refine rg<|ak J s6<|ak (v:=C 7) J J<|k<|LP J J J J 7 J aw EU sO<|bl cR 1 J sO J J J<|ak (v:=C 7) J J<|k ?_
  have dM:HI M w w8 ([box bD #[.slice aE aF aD,R ay I ax,R aA U az,C (I.length:Int),R a5 (cp I U) c5,R a6 iX c6] 80,J0,J1,J4,oL w 26 a6 iX c6]++[J6,J5,J3,J2]):=cR.bU [2,8,7,3,0,1,4,5,6] aw rfl
  have eX:=W6 (eE:=bD) (aE:=aE) (aF:=aF) (aD:=aD) (ay:=ay) (ax:=ax) (I:=I) (aA:=aA) (az:=az) (U:=U) (cn:=(I.length:Int)) (dq:=a5) (dp:=c5) (cr:=(cp I U)) (iH:=a6) (jB:=c6) (sw:=iX) (kd:=7) (w:=w) (w_:=w8) (r:=[J6,J5,J3,J2]) (M:=M) aT bq hT (by exact ho) (by exact du) (by exact eu) (by exact fG) aq (by rfl) (by exact Fk) dM
  refine MB ai6 J J J (ec J e0) eX ?_
  rintro _ w9 ⟨o0,o1,o2,o3,o4,o5,o6,a7,c7,rfl,dI,q0⟩
  let qh:=box bD #[.slice aE aF aD,R ay I ax,R aA U az,C (I.length:Int),R a5 (cp I U) c5,R a7 (eP I U) c7] 80
  let nW:=oL w 26 a7 (eP I U) c7
  let EE:=[qh,J0,J1,J4,nW,J6,J5,J3,J2]
  have cF:HI M w w9 EE:=dI
  refine ak (v:=.tuple #[.agg #[C o0,C o1,C o2,C o3,C o4,.slice none 0 0,C o5,C o6],.bool ((sc I U 7).isSome)]) J J<|k<|xt J J J<|k<|xt J J J<|k<|al cF bR ?_
  intro fe dL nr (dV:HI M w dL (box fe #[C 0,C 0,C 0,C 0,C 0,.slice none 0 0,C 0,C 0] 33::EE))
  refine k<|bt dV 0 J bR J J J J J J J ?_
  let oV:=box fe #[C o0,C o1,C o2,C o3,C o4,.slice none 0 0,C o5,C o6] 33
  intro ef (dG:HI M w ef (oV::EE))
  refine au (v:=.bool ((sc I U 7).isSome)) J J<|bp<|ak (v:=.bool ((sc I U 7).isSome)) J J<|z<|nx<|cd (b:=(sc I U 7).isSome) J J (fun b1=>?_)<|fun b1=>?_
  ·
   refine aB<|k<|cz dG 0 J bR J J aw J<|k<|bt dG 8 J bR J J s4 J J J J ?_
   intro fh (eS:HI M w fh [oV,qh,J0,J1,J4,nW,J6,J5,box aZ #[C o0,C o1,C o2,C o3,C o4,.slice none 0 0,C o5,C o6] 33,J2])
   refine au (v:=C 0) J J<|av<|rt<|bQ<|aL<|dU<|bQ<|aL<|im eS 8 J bR J J J s4 J aw ?_
   have e8:(0:Int)=eZ I U lv:=by exact r9 (nO hs aP Vh bq) bq
   have bo:=iB (fun (lG:Int)=>(.tuple #[.agg #[C o0,C o1,C o2,C o3,C o4,.slice none 0 0,C o5,C o6],C lG]:Value)) e8
   exact⟨o0,o1,o2,o3,o4,o5,o6,bo,eS.below,(by exact wK (nO hs aP Vh bq) bq)⟩
  refine sk<|aJ<|nx<|rg<|k<|add J J s9 J aT<|ak (v:=C ((j_:Int)+1)) J J<|z ?_
  have eS:=dG.put (it:=J4) J<|dG.rv 4 J
  have ff:=eS.put (it:=J1) J<|eS.rv 4 J
  have ga:=ff.put (it:=J0) J<|ff.rv 4 J
  have iI:HI M w ef (nW::J6::qh::dE):=ga.bU [8,9,4,2,10,11,12,1,0] aw rfl
  refine bB _ ?_ ⟨(j_+1),(eP I U),a7,c7,J,s4,s5,s6,s7,s8,(bJ J),iI,aq,(by exact Or.inr rfl),(by exact AS hs aP Vh bq)⟩
  omega
 have p0:=dF b0
 refine ex<|aW<|bc<|bg<|cO<|k<|bd (v:=.agg #[C 0,C 0,C 0,C 0,C 0,.slice none 0 0,C 0,C 0]) J eh (fun _=>aC)<|k<|bt cR 5 J bR J J s4 J J J J ?_
 intro w9 (dM:HI M w w9 (oL w 26 a6 iX c6::J6::box bD #[.slice aE aF aD,R ay I ax,R aA U az,C (I.length:Int),R a5 (cp I U) c5,R a6 iX c6] 80::dE))
 refine au (v:=C 8) J J<|av<|rt<|im dM 5 J bR J J J s4 J aw ?_
 have e8:(8:Int)=eZ I U lv:=by exact aaw (Oc hs aq)
 have bo:=iB (fun (lG:Int)=>(.tuple #[.agg #[C 0,C 0,C 0,C 0,C 0,.slice none 0 0,C 0,C 0],C lG]:Value)) e8
 exact⟨0,0,0,0,0,0,0,bo,dM.below,(by exact tT (Oc hs aq) NU)⟩
end Go.Proofs.YtgjakhpjmapelaaGreatDoor
