/- PRINTED by my own tool (wip/tool/gen.py): contracts of Go functions of this seat, each with its proof. -/
import Derived.Test.YtgjakhpjmapelaaGreatDoorUwnB
import Derived.Test.YtgjakhpjmapelaaGreatDoorUwnC
import Derived.Test.YtgjakhpjmapelaaGreatDoorMenB
import Derived.Test.YtgjakhpjmapelaaGreatDoorMenA
import Derived.Test.YtgjakhpjmapelaaGreatDoorUwnA
import Derived.Test.YtgjakhpjmapelaaGreatDoorUwnD
set_option linter.unusedVariables false
set_option linter.unusedSimpArgs false
namespace Go.Proofs.YtgjakhpjmapelaaGreatDoor
open Go.Ew Go.RowKit
set_option maxRecDepth 100000
set_option maxHeartbeats 1600000
attribute [local irreducible] WL WC SO PW PX PZ WE Code.wp wpList sB cp
attribute [local irreducible] kl xQ jx fq ej AJ Dw KW words eb cX jM fH vS
variable {M:bW} {w w_:aH}
variable {r:List Go.Ew.Item} {cY aE aB av ax eA bB da bL bC dS eJ dx jH rS fe:Nat} {aC aw ay eB db bD dW dy iO:OA} {U:List aO} {fo:aA} {sp:List cN} {mp:KV} {pn mn o fC fE gE mS mR nt cn lv kd fD:Int} {pr mr cr:List (List bt)} {mq:List ((Int×Int)×Bool)} {sw:List (Int×(List (List bt)))} {me:TypeId}
theorem QL:cA aI 106:=cI Tryz.func106
theorem QK:cA aI 122:=cI Tryz.func122
theorem Ko:cA aI 120:=cI Tryz.func120
theorem IP (ra:aJ pn) (ga:aJ mn) (ui:aJ o) (hT:fU 0 w) (ho:ig U) (dB:U.length≤64) (ez:fo.length=U.length) (fL:∀x∈fo,x<((U.length:Nat):Int)) (B8:mn=((U.length:Nat):Int)) (B7:mr=cu U fo) (yQ:0≤o∧o<((U.length:Nat):Int)) (I':pn=((U.length:Nat):Int)) (uy:bK pn pr=true) (HX:sp.length≤1000000000000) (H:HI M w w_ ([box cY #[.slice aC aE aB,sL aw U av,sL ay fo ax,sL eB sp eA,.map (some bB),I pn,sL db pr da,.map (some bL)] 142,iL aw U av,iL ay fo ax,oL w 175 eB sp eA,cb bB mp,iL db pr da,bU bL mq,iL bD mr bC]++r)):Calls aI 83 #[pV cY 0,.agg #[I mn,sL bD mr bC],I o] w_ (cp fun v w'=>∃(tu:List cN) (GA:KV) (CG:List (List bt)) (oz:OA) (ou:Nat) (zm:OA) (zf:Nat),v=.tuple #[]∧HI M w w' ([box cY #[.slice aC aE aB,sL aw U av,sL ay fo ax,sL oz tu ou,.map (some bB),I pn,sL zm CG zf,.map (some bL)] 142,iL aw U av,iL ay fo ax,oL w 175 oz tu ou,cb bB GA,iL zm CG zf,bU bL mq,iL bD mr bC]++r)∧tu.length≤sp.length+402000000000∧bK pn CG=true):=by
 refine enter 93 Tryz.func83 J J J fun f0 ha=>?_
 have ja:=bj<|H.rv 1 J
 have kP:=bj<|H.rv 2 J
 have DZ:=kj<|H.at_ 3 J
 have D0:=bj<|H.rv 5 J
 have nz:=bj<|H.rv 7 J
 have i0:f0 0=pV cY 0:=ha 0 bl
 have i1:f0 1=.agg #[I mn,sL bD mr bC]:=ha 1 bl
 have i2:f0 2=I o:=ha 2 bl
 refine az<|k<|bx H J i1 ?_
 let J1:=box cY #[.slice aC aE aB,sL aw U av,sL ay fo ax,sL eB sp eA,.map (some bB),I pn,sL db pr da,.map (some bL)] 142
 let J2:=iL aw U av
 let J3:=iL ay fo ax
 let J4:=oL w 175 eB sp eA
 let J5:=cb bB mp
 let J6:=iL db pr da
 let J7:=iL bD mr bC
 let ba:=[J6,bU bL mq,J7]
 intro aZ w0 bY (H0:HI M w w0 ((box aZ #[I mn,sL bD mr bC] 26::J1::J2::J3::J4::J5::ba)++r))
 let J0:=box aZ #[I mn,sL bD mr bC] 26
 refine aq<|sq<|lH [.r,.r,.r,.r,.r,.r,.r,.r,.r,.s,.s,.s,.n,.e,.s,.s,.s] (fun _=>True) J aS (fun _ _=>trivial)<|yq J J<|kq (fun _ _=>mv J i0 e1)<|bH<|kq (fun _ _=>nc J J e1)<|bH<|kq (fun _ _=>fa Ig J J e1)<|bH<|kq (fun _ x_=>cB (H0.ext x_) 1 J eh J J au J e1)<|bH<|kq (fun _ x_=>cB (H0.ext x_) 0 J bp J J au J e1)<|bH<|kq (fun _ _=>mv J i2 e1)<|zq<|yu J (fun N v w'=>∃(o0:List ep) (o1:Int) (a0:OA) (c0:Nat) (a1:OA) (c1:Nat),v=.tuple #[.agg #[I ((U.length:Nat):Int),sL a0 (cW U fo o) c0],sL a1 o0 c1,I o1,I 0]∧o0.length≤2000000000∧aJ o1∧oJ U.length o0∧RV (MN H0.fS N) w' (sL a0 (cW U fo o) c0) (cW U fo o)∧RV (MN H0.fS N) w' (sL a1 o0 c1) o0) J ⟨by rintro _ _ _ _ x_ ⟨o0,o1,a0,c0,a1,c1,e_,q0,q1,q2,dZ,fy⟩;exact⟨o0,o1,a0,c0,a1,c1,e_,q0,q1,q2,dZ.lift (Up.ext x_),fy.lift (Up.ext x_)⟩,by rintro _ _ _ _ _ k_ ⟨o0,o1,a0,c0,a1,c1,e_,q0,q1,q2,dZ,fy⟩;exact⟨o0,o1,a0,c0,a1,c1,e_,q0,q1,q2,ie dZ k_,ie fy k_⟩⟩ J (fun v_ _ x_ n_=>have cU:=HN (U:=U) (fo:=fo) (mn:=mn) (mr:=mr) (o:=o) (aC:=aC) (aE:=aE) (aB:=aB) (w:=v_) (kN H0.mb x_ n_) (hT.ext (H0.below.trans x_)) (km (H0.rv 2 J) x_ n_) (km (H0.rv 3 J) x_ n_) ga (km (H0.rv 8 J) x_ n_) ui (by exact ho) aj (by exact ez) (by exact fL) aj aj aj;ca QL rfl (ec J<|ec J<|ec J e0) cU (fun _ w2 ⟨o2,o3,a2,c2,a3,c3,e_,fk,iT,jS,q3,q4,q5⟩=>⟨_,J,fk,⟨o2,o3,a2,c2,a3,c3,e_,q3,q4,q5,iT,jS⟩⟩))<|lL J (fun N v w'=>∃(o4:List ep) (o5:Int) (a4:OA) (c4:Nat) (a5:OA) (c5:Nat),v=.tuple #[.agg #[I ((U.length:Nat):Int),sL a4 (cW U fo o) c4],sL a5 o4 c5,I o5,I 0]∧o4.length≤2000000000∧aJ o5∧oJ U.length o4∧RV (MN H0.fS N) w' (sL a4 (cW U fo o) c4) (cW U fo o)∧RV (MN H0.fS N) w' (sL a5 o4 c5) o4) 0 J J ⟨by rintro _ _ _ _ x_ ⟨o4,o5,a4,c4,a5,c5,e_,q6,q7,q8,je,lh⟩;exact⟨o4,o5,a4,c4,a5,c5,e_,q6,q7,q8,je.lift (Up.ext x_),lh.lift (Up.ext x_)⟩,by rintro _ _ _ _ _ k_ ⟨o4,o5,a4,c4,a5,c5,e_,q6,q7,q8,je,lh⟩;exact⟨o4,o5,a4,c4,a5,c5,e_,q6,q7,q8,ie je k_,ie lh k_⟩⟩ J (fun _ _ _ _ _ h_=>let ⟨o6,o7,a6,c6,a7,c7,s0,q9,u5,xC,oE,nE⟩:=h_;mv rfl s0 ⟨_,J,Ext.refl _,⟨o6,o7,a6,c6,a7,c7,J,q9,u5,xC,oE,nE⟩⟩)<|lL J (fun N v w'=>∃(a8:OA) (c8:Nat),v=.agg #[I ((U.length:Nat):Int),sL a8 (cW U fo o) c8]∧RV (MN H0.fS N) w' (sL a8 (cW U fo o) c8) (cW U fo o)) 0 J J Et J (fun _ _ _ _ _ h_=>let ⟨kM,gq,jq,jo,mV,mU,s1,CF,CE,yy,nR,qN⟩:=h_;xt rfl s1 rfl ⟨_,J,Ext.refl _,⟨jq,jo,J,nR⟩⟩)<|lL J (fun N v w'=>∃(j5:List ep) (jW:OA) (jV:Nat),v=sL jW j5 jV∧j5.length≤2000000000∧oJ U.length j5∧RV (MN H0.fS N) w' (sL jW j5 jV) j5) 1 J J ⟨by rintro _ _ _ _ x_ ⟨j5,jW,jV,e_,xB,xA,qj⟩;exact⟨j5,jW,jV,e_,xB,xA,qj.lift (Up.ext x_)⟩,by rintro _ _ _ _ _ k_ ⟨j5,jW,jV,e_,xB,xA,qj⟩;exact⟨j5,jW,jV,e_,xB,xA,ie qj k_⟩⟩ J (fun _ _ _ _ _ h_=>let ⟨Gx,IZ,ln,ll,JJ,JC,s2,En,q22,Lm,A9,Ff⟩:=h_;xt rfl s2 rfl ⟨_,J,Ext.refl _,⟨Gx,JJ,JC,J,En,Lm,Ff⟩⟩)<|lL J (fun _ v _=>∃(CR:Int),v=I CR∧aJ CR) 2 J J mE J (fun _ _ _ _ _ h_=>let ⟨Sl,IY,a18,c18,a19,c19,s3,q27,R1,q29,abc,abb⟩:=h_;xt rfl s3 rfl ⟨_,J,Ext.refl _,⟨IY,J,R1⟩⟩)<|Rc J (X:=I 0) 3 J J (fun _ _ _ _ _ h_=>let ⟨Sj,OC,a22,c22,a23,c23,s4,q33,q34,q35,aba,aa'⟩:=h_;xt rfl s4 rfl e1)<|yn (z:=#[I 0,.slice none 0 0]) J J (fun _=>M7 bp)<|ye<|lL J (fun N v w'=>∃(mO:List ep) (a24:OA) (ze:Nat),v=sL a24 mO ze∧mO.length≤2000000000∧oJ U.length mO∧RV (MN H0.fS N) w' (sL a24 mO ze) mO) 2 J J ⟨by rintro _ _ _ _ x_ ⟨mO,a24,ze,e_,CD,CC,xy⟩;exact⟨mO,a24,ze,e_,CD,CC,xy.lift (Up.ext x_)⟩,by rintro _ _ _ _ _ k_ ⟨mO,a24,ze,e_,CD,CC,xy⟩;exact⟨mO,a24,ze,e_,CD,CC,ie xy k_⟩⟩ J (fun _ _ _ _ _ h_=>let ⟨Lw,a25,ES,s5,R0,RZ,Li⟩:=h_;jO rfl s5 ⟨_,J,Ext.refl _,⟨Lw,a25,ES,J,R0,RZ,Li⟩⟩)<|lL J (fun _ v _=>∃(sQ:Int),v=I sQ∧aJ sQ) 2 J J mE J (fun _ _ _ _ _ h_=>let ⟨ua,s6,RY⟩:=h_;jO rfl s6 ⟨_,J,Ext.refl _,⟨ua,J,RY⟩⟩)<|yq J J<|kq (fun _ _=>jO (v:=I 0) J J e1)<|zq<|yz ?_
 intro w3 f0 _ fN _ _ cx iJ
 obtain⟨bJ,s7,AE,rI,yR⟩:=iJ 2 _ _ rfl
 have og:=MM (z:=#[I 0,.slice none 0 0]) (T:=26) AE rI yR<|MO
 let J8:=box bJ #[I 0,.slice none 0 0] 26
 have H8:HI M w w3 ((J8::J0::J1::J2::J3::J4::J5::ba)++r):=H0.Bs fN og<|LF LC LG
 have s8:=(cx 0 J).trans i0
 obtain⟨o28,a26,Ho,s9,q42,q43,Lh⟩:=iJ 1 _ _ rfl
 let J9:=iL a26 o28 Ho
 have H9:=H8.put (it:=J9) J<|sy Lh og
 obtain⟨AO,AL,eu,UK⟩:=iJ 5 _ _ rfl
 let dR:=iL AO (cW U fo o) AL
 have cV:=H9.put (it:=dR) J<|Zb J<|sy UK og
 refine jw<|bw cV 2 J bp J J s7 eu J J J ?_
 let eE:=box bJ #[I ((U.length:Nat):Int),sL AO (cW U fo o) AL] 26
 intro w4 (dJ:HI M w w4 ([dR,J9,eE,J0,J1,J2,J3,J4,J5,J6,bU bL mq,J7]++r))
 refine kz<|nx<|bk ?_
 have cM:=dJ.put (it:=J9) J<|dJ.rv 1 J
 have dt:=cM.put (it:=J6) J<|cM.rv 10 J
 refine lp (fun m f w'=>∃(gh:List ep) (jn:List cN) (oF:KV) (cJ:Int) (m_:List (List bt)) (a28:OA) (rJ:Nat) (pv:OA) (pq:Nat) (j9:OA) (j7:Nat),m=gh.length∧f 0=pV cY 0∧f 7=sL a28 gh rJ∧HI M w w' ([iL j9 m_ j7,iL a28 gh rJ,dR,J9,box bJ #[I ((U.length:Nat):Int),sL AO (cW U fo o) AL] 26,J0,box cY #[.slice aC aE aB,sL aw U av,sL ay fo ax,sL pv jn pq,.map (some bB),I cJ,sL j9 m_ j7,.map (some bL)] 142,J2,J3,oL w 175 pv jn pq,cb bB oF,J6,bU bL mq,J7]++r)∧(oJ U.length gh)∧(jn.length+201*gh.length≤sp.length+201*o28.length)∧(cJ=pn)∧(bK cJ m_=true)) _ ⟨o28,sp,mp,pn,pr,a26,Ho,eB,eA,db,da,J,s8,s9,dt,aj,aj,aj,aj⟩ ?_
 rintro _ f1 w5 ⟨gh,jn,oF,cJ,m_,a28,rJ,pv,pq,j9,j7,rfl,fb,fu,dI,uJ,HY,C_,tK⟩
 refine sq<|az<|ai J fu<|k<|dD J J ey<|k<|gtr J J J J<|z<|nx<|cd (b:=decide (0<(gh.length:Int))) J J (fun b0=>?_)<|fun b0=>?_
 ·
  have p0:=dT b0
  refine sk<|nx<|bk<|az<|ak (v:=I 0) J J<|bz<|ai J fb<|k<|nc J J<|aQ rA J J<|k<|cB dI 6 J bp J J au J<|k ?_
  have fP:=wL (mn:=cJ) (mr:=m_) dI.mb aR (dI.rv 0 J)<|by exact tK
  refine ca QE J (ec J e0) fP ?_
  rintro _ w6 ⟨a31,JA,rfl,iP,Lg⟩
  have dw:=dI.eT Lg
  let fM:=oL w 144 a31 (fj cJ m_) JA
  let fI:=iL j9 m_ j7
  let gU:=iL a28 gh rJ
  let ma:=box cY #[.slice aC aE aB,sL aw U av,sL ay fo ax,sL pv jn pq,.map (some bB),I cJ,sL j9 m_ j7,.map (some bL)] 142
  let lZ:=oL w 175 pv jn pq
  let rM:=cb bB oF
  refine k<|al dw bp ?_
  let bV:=dR::J9::eE::J0::ma::J2::J3::lZ::rM::ba
  intro fh w7 jc (df:HI M w w7 ((box fh #[I 0,.slice none 0 0] 26::fM::fI::gU::bV)++r))
  refine k<|bw df 0 J bp J J J J J J J ?_
  let jz:=box fh #[I cJ,sL a31 (fj cJ m_) JA] 26
  let dz:=jz::fM::fI::gU::bV
  intro w8 (dH:HI M w w8 (dz++r))
  refine aq<|sq<|bk ?_
  let iW:=J0::ma::J2::J3::lZ::rM::ba
  refine lp (fun m f w'=>∃(k_:Nat),m=gh.length-k_∧f 0=pV cY 0∧f 7=sL a28 gh rJ∧f 10=I (k_:Int)∧f 11=pV fh 0∧HI M w w' ((jz::fM::fI::gU::dR::J9::box bJ #[I ((U.length:Nat):Int),sL AO (cW U fo o) AL] 26::iW)++r)∧(k_≤gh.length)) _ ⟨0,J,fb,fu,(bG J),J,dH,aj⟩ ?_
  rintro _ f2 w9 ⟨k_,rfl,fl,gi,gS,j4,eP,pA⟩
  refine sq<|sq<|zb J aS<|kq (fun _ _=>mv J gS e1)<|kq (fun _ _=>mv J gi e1)<|kq (fun _ _=>dD J J ey e1)<|kq (fun _ _=>lss J J J J e1)<|kq (fun _ _=>mv (v:=.bool (decide ((k_:Int)<(gh.length:Int)))) J J e1) ?_
  rcases bE (decide ((k_:Int)<(gh.length:Int))) with b1|b1
  ·
   have p1:=dT b1
   refine qy J J J b1<|kq (fun _ x_=>cB (eP.ext x_) 0 J bp J j4 au J e1)<|qy J J J b1<|kq (fun _ _=>mv J gi e1)<|qy J J J b1<|kq (fun _ _=>mv J gS e1)<|qy J J J b1<|rQ (eP.rv 3 J) J J J J aj ey cL ?_
   intro iE x0 aM cz
   refine qy J J J b1<|kq (fun _ _=>fa kR J J e1)<|qy J J J b1<|ob (cz).fst.w aT J J ?_
   intro Fe
   refine qy J J J b1<|kq (fun _ _=>mv J gi e1)<|qy J J J b1<|kq (fun _ _=>mv J gS e1)<|qy J J J b1<|rQ (eP.rv 3 J) J J J J aj ey cL ?_
   intro rK x_ pe gL
   obtain rfl:x0=x_:=ana (aM.symm.trans pe)
   refine qy J J J b1<|kq (fun _ _=>fa sZ J J e1)<|qy J J J b1<|ob (gL).s2.w aT J J ?_
   intro Fc
   refine qy J J J b1<|kq (v:=.bool (eK cJ (fj cJ m_) x0.1 x0.2.2)) (fun v_ x_=>?_) ?_
   ·
    have ff:=(eP.ext x_).freeze 1 rfl
    have cc:=uE (mn:=cJ) (mr:=(fj cJ m_)) (i:=x0.1) (j:=x0.2.2) ff.mb aR (ff.rv 1 J) Fe Fc (by exact(bQ<|pk tK).1) (by exact(bQ<|pk tK).2.1) aj
    exact ca FN J (ec J<|ec J<|ec J e0) cc fun _ _ h_=>e2 h_
   refine kq (fun _ _=>aP J J J J b1 J e1)<|kq (fun _ _=>mv (v:=.bool (eK cJ (fj cJ m_) x0.1 x0.2.2)) J J e1) ?_
   rcases bE (eK cJ (fj cJ m_) x0.1 x0.2.2) with b2|b2
   ·
    refine qy J J J b2<|kq (fun _ x_=>cB (eP.ext x_) 0 J bp J j4 au J e1)<|qy J J J b2<|kq (fun _ _=>mv J gi e1)<|qy J J J b2<|kq (fun _ _=>mv J gS e1)<|qy J J J b2<|rQ (eP.rv 3 J) J J J J aj ey cL ?_
    intro pZ x_ pe kV
    obtain rfl:x0=x_:=ana (aM.symm.trans pe)
    refine qy J J J b2<|kq (fun _ _=>fa kR J J e1)<|qy J J J b2<|ob (kV).fst.w aT J J ?_
    intro A8
    refine qy J J J b2<|kq (fun _ _=>mv J gi e1)<|qy J J J b2<|kq (fun _ _=>mv J gS e1)<|qy J J J b2<|rQ (eP.rv 3 J) J J J J aj ey cL ?_
    intro vI x_ pe vw
    obtain rfl:x0=x_:=ana (aM.symm.trans pe)
    refine qy J J J b2<|kq (fun _ _=>fa mZ J J e1)<|qy J J J b2<|ob ((vw).s1).fst.w aT J J ?_
    intro Fb
    refine qy J J J b2<|kq (v:=.bool (eK cJ (fj cJ m_) x0.1 x0.2.1)) (fun v_ x_=>?_) ?_
    ·
     have iy:=(eP.ext x_).freeze 1 rfl
     have cc:=uE (mn:=cJ) (mr:=(fj cJ m_)) (i:=x0.1) (j:=x0.2.1) iy.mb aR (iy.rv 1 J) A8 Fb (by exact(bQ<|pk tK).1) (by exact(bQ<|pk tK).2.1) aj
     exact ca FN J (ec J<|ec J<|ec J e0) cc fun _ _ h_=>e2 h_
    refine qy J J J b2<|kq (fun _ _=>jY J J e1)<|kq (fun _ _=>aP J J J J b2 J e1)<|zq ?_
    intro dM jK
    have kY:=eP.ext jK
    refine nx<|cd (b:=!(eK cJ (fj cJ m_) x0.1 x0.2.1)) J J (fun b3=>?_)<|fun b3=>?_
    ·
     refine sk<|nx<|bk<|rg<|ai J gS<|k<|add J J J J aR<|ak (v:=I ((k_:Int)+1)) J J<|z<|aG<|bF _ ?_ ⟨(k_+1),J,fl,gi,(bG J),j4,kY,aj⟩
     omega
    refine ex<|aV<|bc<|bg<|nx<|sq<|az<|ai J gS<|k<|eql J J J J<|z<|nx<|cd (b:=decide ((k_:Int)=0)) J J (fun b4=>?_)<|fun b4=>?_
    ·
     have p4:=dT b4
     refine az<|ai J gi<|k<|Oa (kY.rv 3 J) J J J J aj ey cL ?_
     intro a32 po A7
     let nO:=iL a32 (gh.drop (1:Int).toNat) po
     have iw:=kY.put (it:=nO) J A7
     refine ak (v:=sL a32 (gh.drop (1:Int).toNat) po) J J<|aq<|ex<|aV<|bg ?_
     have j':=iw.put (it:=fI) J<|iw.rv 3 J
     have jX:=j'.put (it:=nO) J<|j'.rv 1 J
     have kX:=jX.put (it:=J2) J<|jX.rv 12 J
     have kg:=kX.put (it:=J3) J<|kX.rv 14 J
     have vN:HI M w dM ((J3::J2::nO::fI::nO::dz)++r):=kg
     have mc:HI M w dM ((fI::nO::bV)++r):=HI.aP (l:=(J3::J2::nO::fI::nO::dz)) (l':=(fI::nO::bV)) (t:=r) vN [3,2,9,10,11,12,13,1,0,16,17,18,19,20] au J J
     refine bF _ ?_ ⟨(gh.drop (1:Int).toNat),jn,oF,cJ,m_,a32,po,pv,pq,j9,j7,J,fl,J,mc,(by intro e_ h_;exact uJ e_ (aoT h_)),(by simp only[anz];omega),bo,bo⟩
     first|(simp only[anz];omega)|omega
    have p4:=dF b4
    refine sk<|nx<|sq<|az<|ai J gi<|ai J gS<|k<|Ob (kY.rv 3 J) J J J J aj ey cL ?_
    intro a32 po A7
    let pw:=iL a32 (gh.take (k_:Int).toNat) po
    have iw:=kY.put (it:=pw) J A7
    refine k<|dD J J ey<|ai (v:=I 0) J J<|aq<|bk<|lp (fun m f w'=>∃(q_:Nat) (ji:List cN) (iZ:KV) (a33:OA) (lX:Nat),m=(gh.take (k_:Int).toNat).length-q_∧f 0=pV cY 0∧f 7=sL a28 gh rJ∧f 10=I (k_:Int)∧f 75=sL a32 (gh.take (k_:Int).toNat) po∧f 76=I ((gh.take (k_:Int).toNat).length:Int)∧f 77=I (q_:Int)∧HI M w w' ([pw,jz,fM,fI,gU,dR,J9,box bJ #[I ((U.length:Nat):Int),sL AO (cW U fo o) AL] 26,J0,box cY #[.slice aC aE aB,sL aw U av,sL ay fo ax,sL a33 ji lX,.map (some bB),I cJ,sL j9 m_ j7,.map (some bL)] 142,J2,J3,oL w 175 a33 ji lX,cb bB iZ,J6,bU bL mq,J7]++r)∧(q_≤(gh.take (k_:Int).toNat).length)∧(ji.length≤jn.length+201*q_)) _ ⟨0,jn,oF,pv,pq,J,fl,gi,gS,J,J,(bG J),iw,aj,aj⟩ ?_
    rintro _ f3 ee ⟨q_,ji,iZ,a33,lX,rfl,kJ,lD,l5,l4,oT,oS,j',sU,ack⟩
    refine sq ?_
    have acu:((gh.take (k_:Int).toNat)).length≤gh.length:=by rw[iB];exact aqk _ _
    refine rg<|k<|lss J J oS oT<|aq<|sq<|cd (b:=decide ((q_:Int)<((gh.take (k_:Int).toNat).length:Int))) J J (fun b5=>?_)<|fun b5=>?_
    ·
     have p5:=dT b5
     refine sk<|nx<|sq<|bk<|az<|k<|ia (j'.rv 0 J) J J l4 oS aj ey cL ?_
     intro uo x1 cQ wx
     refine k<|nF wx.w cL J J ?_
     intro v0 Lf
     obtain⟨_,⟨_,_,rfl,⟨rfl,Le⟩,⟨_,_,rfl,⟨rfl,ahO⟩,⟨rfl,ahM⟩⟩⟩,rfl⟩:=Lf
     refine k<|al j' cL ?_
     let mW:=box cY #[.slice aC aE aB,sL aw U av,sL ay fo ax,sL a33 ji lX,.map (some bB),I cJ,sL j9 m_ j7,.map (some bL)] 142
     let nN:=oL w 175 a33 ji lX
     let fm:=pw::jz::fM::fI::gU::dR::J9::eE::J0::mW::J2::J3::nN::cb bB iZ::ba
     intro gN ft lC (nP:HI M w ft ((box gN #[I 0,I 0,I 0] 122::fm)++r))
     refine k<|bw nP 0 J cL J J J J J J J ?_
     let tV:=box gN #[I x1.1,I x1.2.1,I x1.2.2] 122
     intro ij (jX:HI M w ij ((tV::fm)++r))
     refine aq<|rg<|ai J kJ<|k<|cB jX 0 J cL J J au J<|k ?_
     let kx:=[fI,bU bL mq,tV,pw,jz,fM,gU,dR,J9,eE,J0,J6,J7]
     have rp:HI M w ij ([mW,J2,J3,nN,cb bB iZ,fI,bU bL mq]++([tV,pw,jz,fM,gU,dR,J9,eE,J0,J6,J7]++r)):=HI.aP (l:=(tV::fm)) (l':=(mW::J2::J3::nN::cb bB iZ::kx)) (t:=r) jX [10,11,12,13,14,4,16,0,1,2,3,5,6,7,8,9,15,17] au J J
     have eZ:=Bd (cY:=cY) (aC:=aC) (aE:=aE) (aB:=aB) (aw:=aw) (av:=av) (U:=U) (ay:=ay) (ax:=ax) (fo:=fo) (eB:=a33) (eA:=lX) (sp:=ji) (bB:=bB) (mp:=iZ) (pn:=cJ) (db:=j9) (da:=j7) (pr:=m_) (bL:=bL) (mq:=mq) (fC:=x1.1) (fE:=x1.2.1) (gE:=x1.2.2) (w:=w) (w_:=ij) (r:=([tV,pw,jz,fM,gU,dR,J9,eE,J0,J6,J7]++r)) (M:=M) aR Le ahO ahM hT aj aj (by exact ez) aj (by exact tK) rp
     refine ca QK J (ec J<|ec J e0) eZ ?_
     rintro _ jv ⟨qS,IX,ti,te,rfl,kX,RX⟩
     let sf:=box cY #[.slice aC aE aB,sL aw U av,sL ay fo ax,sL ti qS te,.map (some bB),I cJ,sL j9 m_ j7,.map (some bL)] 142
     let ym:=oL w 175 ti qS te
     let se:=cb bB IX
     refine z<|aG<|nx<|rg<|k<|add J J oS J aR<|ai (v:=I ((q_:Int)+1)) J J<|z ?_
     have kg:=kX.put (it:=fI) J<|kX.rv 5 J
     have mc:=kg.put (it:=J2) J<|kg.rv 2 J
     have rN:=mc.put (it:=J3) J<|mc.rv 4 J
     have zv:HI M w jv ((J3::J2::fI::sf::J2::J3::ym::se::kx)++r):=rN
     let rn:=pw::jz::fM::fI::gU::dR::J9::eE::J0::sf::J2::J3::ym::se::ba
     have qG:HI M w jv (rn++r):=HI.aP (l:=(J3::J2::fI::sf::J2::J3::ym::se::kx)) (l':=rn) (t:=r) zv [11,12,13,2,14,15,16,17,18,3,1,0,6,7,19,9,20] au J J
     refine bF _ ?_ ⟨(q_+1),qS,IX,ti,te,J,kJ,lD,l5,l4,oT,(bG J),qG,aj,aj⟩
     omega
    have p5:=dF b5
    refine ex<|aV<|bc<|bg<|cO<|ai J kJ<|ai J lD<|ai J l5<|k<|Ob (j'.rv 4 J) J J J J aj ey cL ?_
    intro ti te Lf
    let vM:=iL ti (gh.take (k_:Int).toNat) te
    have nP:=j'.put (it:=vM) J Lf
    let tl:=box cY #[.slice aC aE aB,sL aw U av,sL ay fo ax,sL a33 ji lX,.map (some bB),I cJ,sL j9 m_ j7,.map (some bL)] 142
    let uu:=oL w 175 a33 ji lX
    let ur:=cb bB iZ
    let vJ:=vM::pw::jz::fM::fI::gU::dR::J9::eE::J0::tl::J2::J3::uu::ur::ba
    have jX:HI M w ee (vJ++r):=nP
    refine k ?_
    let DK:=[bU bL mq,vM,pw,jz,fM,gU,dR,J9,eE,J0,J6,J7]
    have rp:HI M w ee ([tl,J2,J3,uu,ur,fI,bU bL mq,vM]++([pw,jz,fM,gU,dR,J9,eE,J0,J6,J7]++r)):=HI.aP (l:=vJ) (l':=(tl::J2::J3::uu::ur::fI::DK)) (t:=r) jX [10,11,12,13,14,4,16,0,1,2,3,5,6,7,8,9,15,17] au J J
    have eZ:=yB (cY:=cY) (aC:=aC) (aE:=aE) (aB:=aB) (aw:=aw) (av:=av) (U:=U) (ay:=ay) (ax:=ax) (fo:=fo) (eB:=a33) (eA:=lX) (sp:=ji) (bB:=bB) (mp:=iZ) (pn:=cJ) (db:=j9) (da:=j7) (pr:=m_) (bL:=bL) (mq:=mq) (zU:=ti) (zO:=te) (es:=(gh.take (k_:Int).toNat)) (w:=w) (w_:=ee) (r:=([pw,jz,fM,gU,dR,J9,eE,J0,J6,J7]++r)) (M:=M) aR (by exact tK) (by intro x_ h_;rw[C_,I'];exact uJ x_ (aox h_)) rp
    refine ca Ko J (ec J<|ec J e0) eZ ?_
    rintro _ ft ⟨qS,a35,DC,rfl,kX,RX⟩
    let AS:=box cY #[.slice aC aE aB,sL aw U av,sL ay fo ax,sL a33 ji lX,.map (some bB),I cJ,sL a35 qS DC,.map (some bL)] 142
    let rL:=iL a35 qS DC
    refine z<|nx ?_
    have acr:((gh.take (k_:Int).toNat)).length=k_:=by rw[iB,dP];exact aof aj
    refine rg<|ai J lD<|ai J l5<|k<|Oa (kX.rv 11 J) J J J J aj ey cL ?_
    intro DI DB Le
    let qF:=iL DI (gh.drop (k_:Int).toNat) DB
    have kg:=kX.put (it:=qF) J Le
    refine ak (v:=sL DI (gh.drop (k_:Int).toNat) DB) J J<|z<|aG ?_
    have mc:=kg.put (it:=rL) J<|kg.rv 6 J
    have rN:=mc.put (it:=qF) J<|mc.rv 1 J
    have qG:=rN.put (it:=J2) J<|rN.rv 4 J
    have JR:=qG.put (it:=J3) J<|qG.rv 6 J
    let zn:=J3::J2::qF::rL::qF::AS::J2::J3::uu::ur::rL::DK
    have H46:HI M w ft (zn++r):=JR
    let wb:=rL::qF::dR::J9::eE::J0::AS::J2::J3::uu::ur::ba
    have H47:HI M w ft (wb++r):=HI.aP (l:=zn) (l':=wb) (t:=r) H46 [3,2,17,18,19,20,5,1,0,8,9,21,11,22] au J J
    refine bF _ ?_ ⟨(gh.drop (k_:Int).toNat),ji,iZ,cJ,qS,DI,DB,a33,lX,a35,DC,J,kJ,J,H47,(by intro e_ h_;exact uJ e_ (aoT h_)),(by simp only[anz];omega),bo,bo⟩
    first|(simp only[anz];omega)|omega
   refine qn J J J b2<|qn J J J b2<|qn J J J b2<|qn J J J b2<|qn J J J b2<|qn J J J b2<|qn J J J b2<|qn J J J b2<|qn J J J b2<|qn J J J b2<|qn J J J b2<|qn J J J b2<|qn J J J b2<|kq (fun _ _=>dA J J J J b2 J e1)<|zq ?_
   intro dM jK
   have iy:=eP.ext jK
   refine nx<|pB J J J<|ex<|aV<|bc<|bg<|nx<|sq<|az<|ai J gS<|k<|eql J J J J<|z<|nx<|cd (b:=decide ((k_:Int)=0)) J J (fun b3=>?_)<|fun b3=>?_
   ·
    have p3:=dT b3
    refine az<|ai J gi<|k<|Oa (iy.rv 3 J) J J J J aj ey cL ?_
    intro a32 po A8
    let tk:=iL a32 (gh.drop (1:Int).toNat) po
    have iS:=iy.put (it:=tk) J A8
    refine ak (v:=sL a32 (gh.drop (1:Int).toNat) po) J J<|aq<|ex<|aV<|bg ?_
    have iw:=iS.put (it:=fI) J<|iS.rv 3 J
    have j':=iw.put (it:=tk) J<|iw.rv 1 J
    have jX:=j'.put (it:=J2) J<|j'.rv 12 J
    have kX:=jX.put (it:=J3) J<|jX.rv 14 J
    have AT:HI M w dM ((J3::J2::tk::fI::tk::dz)++r):=kX
    have kg:HI M w dM ((fI::tk::bV)++r):=HI.aP (l:=(J3::J2::tk::fI::tk::dz)) (l':=(fI::tk::bV)) (t:=r) AT [3,2,9,10,11,12,13,1,0,16,17,18,19,20] au J J
    refine bF _ ?_ ⟨(gh.drop (1:Int).toNat),jn,oF,cJ,m_,a32,po,pv,pq,j9,j7,J,fl,J,kg,(by intro e_ h_;exact uJ e_ (aoT h_)),(by simp only[anz];omega),bo,bo⟩
    first|(simp only[anz];omega)|omega
   have p3:=dF b3
   refine sk<|nx<|sq<|az<|ai J gi<|ai J gS<|k<|Ob (iy.rv 3 J) J J J J aj ey cL ?_
   intro a32 po A8
   let oI:=iL a32 (gh.take (k_:Int).toNat) po
   have iS:=iy.put (it:=oI) J A8
   refine k<|dD J J ey<|ai (v:=I 0) J J<|aq<|bk<|lp (fun m f w'=>∃(q_:Nat) (ji:List cN) (iZ:KV) (a33:OA) (lX:Nat),m=(gh.take (k_:Int).toNat).length-q_∧f 0=pV cY 0∧f 7=sL a28 gh rJ∧f 10=I (k_:Int)∧f 75=sL a32 (gh.take (k_:Int).toNat) po∧f 76=I ((gh.take (k_:Int).toNat).length:Int)∧f 77=I (q_:Int)∧HI M w w' ([oI,jz,fM,fI,gU,dR,J9,box bJ #[I ((U.length:Nat):Int),sL AO (cW U fo o) AL] 26,J0,box cY #[.slice aC aE aB,sL aw U av,sL ay fo ax,sL a33 ji lX,.map (some bB),I cJ,sL j9 m_ j7,.map (some bL)] 142,J2,J3,oL w 175 a33 ji lX,cb bB iZ,J6,bU bL mq,J7]++r)∧(q_≤(gh.take (k_:Int).toNat).length)∧(ji.length≤jn.length+201*q_)) _ ⟨0,jn,oF,pv,pq,J,fl,gi,gS,J,J,(bG J),iS,aj,aj⟩ ?_
   rintro _ f3 ee ⟨q_,ji,iZ,a33,lX,rfl,kJ,lD,l5,l4,oT,oS,iw,sU,ack⟩
   refine sq ?_
   have acu:((gh.take (k_:Int).toNat)).length≤gh.length:=by rw[iB];exact aqk _ _
   refine rg<|k<|lss J J oS oT<|aq<|sq<|cd (b:=decide ((q_:Int)<((gh.take (k_:Int).toNat).length:Int))) J J (fun b4=>?_)<|fun b4=>?_
   ·
    have p4:=dT b4
    refine sk<|nx<|sq<|bk<|az<|k<|ia (iw.rv 0 J) J J l4 oS aj ey cL ?_
    intro pZ x1 cQ kV
    refine k<|nF kV.w cL J J ?_
    intro v0 Fb
    obtain⟨_,⟨_,_,rfl,⟨rfl,A7⟩,⟨_,_,rfl,⟨rfl,Lf⟩,⟨rfl,Le⟩⟩⟩,rfl⟩:=Fb
    refine k<|al iw cL ?_
    let zu:=box cY #[.slice aC aE aB,sL aw U av,sL ay fo ax,sL a33 ji lX,.map (some bB),I cJ,sL j9 m_ j7,.map (some bL)] 142
    let vL:=oL w 175 a33 ji lX
    let W1:=oI::jz::fM::fI::gU::dR::J9::eE::J0::zu::J2::J3::vL::cb bB iZ::ba
    intro gN ft lC (qa:HI M w ft ((box gN #[I 0,I 0,I 0] 122::W1)++r))
    refine k<|bw qa 0 J cL J J J J J J J ?_
    let uq:=box gN #[I x1.1,I x1.2.1,I x1.2.2] 122
    intro ij (j':HI M w ij ((uq::W1)++r))
    refine aq<|rg<|ai J kJ<|k<|cB j' 0 J cL J J au J<|k ?_
    let W0:=[fI,bU bL mq,uq,oI,jz,fM,gU,dR,J9,eE,J0,J6,J7]
    have nP:HI M w ij ([zu,J2,J3,vL,cb bB iZ,fI,bU bL mq]++([uq,oI,jz,fM,gU,dR,J9,eE,J0,J6,J7]++r)):=HI.aP (l:=(uq::W1)) (l':=(zu::J2::J3::vL::cb bB iZ::W0)) (t:=r) j' [10,11,12,13,14,4,16,0,1,2,3,5,6,7,8,9,15,17] au J J
    have eZ:=Bd (cY:=cY) (aC:=aC) (aE:=aE) (aB:=aB) (aw:=aw) (av:=av) (U:=U) (ay:=ay) (ax:=ax) (fo:=fo) (eB:=a33) (eA:=lX) (sp:=ji) (bB:=bB) (mp:=iZ) (pn:=cJ) (db:=j9) (da:=j7) (pr:=m_) (bL:=bL) (mq:=mq) (fC:=x1.1) (fE:=x1.2.1) (gE:=x1.2.2) (w:=w) (w_:=ij) (r:=([uq,oI,jz,fM,gU,dR,J9,eE,J0,J6,J7]++r)) (M:=M) aR A7 Lf Le hT aj aj (by exact ez) aj (by exact tK) nP
    refine ca QK J (ec J<|ec J e0) eZ ?_
    rintro _ jv ⟨qS,IX,ti,te,rfl,jX,RX⟩
    let zt:=box cY #[.slice aC aE aB,sL aw U av,sL ay fo ax,sL ti qS te,.map (some bB),I cJ,sL j9 m_ j7,.map (some bL)] 142
    let yl:=oL w 175 ti qS te
    let zr:=cb bB IX
    refine z<|aG<|nx<|rg<|k<|add J J oS J aR<|ai (v:=I ((q_:Int)+1)) J J<|z ?_
    have kX:=jX.put (it:=fI) J<|jX.rv 5 J
    have kg:=kX.put (it:=J2) J<|kX.rv 2 J
    have mc:=kg.put (it:=J3) J<|kg.rv 4 J
    have tW:HI M w jv ((J3::J2::fI::zt::J2::J3::yl::zr::W0)++r):=mc
    let aey:=oI::jz::fM::fI::gU::dR::J9::eE::J0::zt::J2::J3::yl::zr::ba
    have rN:HI M w jv (aey++r):=HI.aP (l:=(J3::J2::fI::zt::J2::J3::yl::zr::W0)) (l':=aey) (t:=r) tW [11,12,13,2,14,15,16,17,18,3,1,0,6,7,19,9,20] au J J
    refine bF _ ?_ ⟨(q_+1),qS,IX,ti,te,J,kJ,lD,l5,l4,oT,(bG J),rN,aj,aj⟩
    omega
   have p4:=dF b4
   refine ex<|aV<|bc<|bg<|cO<|ai J kJ<|ai J lD<|ai J l5<|k<|Ob (iw.rv 4 J) J J J J aj ey cL ?_
   intro ti te Fb
   let tj:=iL ti (gh.take (k_:Int).toNat) te
   have qa:=iw.put (it:=tj) J Fb
   let JQ:=box cY #[.slice aC aE aB,sL aw U av,sL ay fo ax,sL a33 ji lX,.map (some bB),I cJ,sL j9 m_ j7,.map (some bL)] 142
   let E1:=oL w 175 a33 ji lX
   let EZ:=cb bB iZ
   let aex:=tj::oI::jz::fM::fI::gU::dR::J9::eE::J0::JQ::J2::J3::E1::EZ::ba
   have j':HI M w ee (aex++r):=qa
   refine k ?_
   let aew:=[bU bL mq,tj,oI,jz,fM,gU,dR,J9,eE,J0,J6,J7]
   have nP:HI M w ee ([JQ,J2,J3,E1,EZ,fI,bU bL mq,tj]++([oI,jz,fM,gU,dR,J9,eE,J0,J6,J7]++r)):=HI.aP (l:=aex) (l':=(JQ::J2::J3::E1::EZ::fI::aew)) (t:=r) j' [10,11,12,13,14,4,16,0,1,2,3,5,6,7,8,9,15,17] au J J
   have eZ:=yB (cY:=cY) (aC:=aC) (aE:=aE) (aB:=aB) (aw:=aw) (av:=av) (U:=U) (ay:=ay) (ax:=ax) (fo:=fo) (eB:=a33) (eA:=lX) (sp:=ji) (bB:=bB) (mp:=iZ) (pn:=cJ) (db:=j9) (da:=j7) (pr:=m_) (bL:=bL) (mq:=mq) (zU:=ti) (zO:=te) (es:=(gh.take (k_:Int).toNat)) (w:=w) (w_:=ee) (r:=([oI,jz,fM,gU,dR,J9,eE,J0,J6,J7]++r)) (M:=M) aR (by exact tK) (by intro x_ h_;rw[C_,I'];exact uJ x_ (aox h_)) nP
   refine ca Ko J (ec J<|ec J e0) eZ ?_
   rintro _ ft ⟨qS,a35,DC,rfl,jX,RX⟩
   let AR:=box cY #[.slice aC aE aB,sL aw U av,sL ay fo ax,sL a33 ji lX,.map (some bB),I cJ,sL a35 qS DC,.map (some bL)] 142
   let Hz:=iL a35 qS DC
   refine z<|nx ?_
   have acr:((gh.take (k_:Int).toNat)).length=k_:=by rw[iB,dP];exact aof aj
   refine rg<|ai J lD<|ai J l5<|k<|Oa (jX.rv 11 J) J J J J aj ey cL ?_
   intro DI DB A7
   let EY:=iL DI (gh.drop (k_:Int).toNat) DB
   have kX:=jX.put (it:=EY) J A7
   refine ak (v:=sL DI (gh.drop (k_:Int).toNat) DB) J J<|z<|aG ?_
   have kg:=kX.put (it:=Hz) J<|kX.rv 6 J
   have mc:=kg.put (it:=EY) J<|kg.rv 1 J
   have rN:=mc.put (it:=J2) J<|mc.rv 4 J
   have qG:=rN.put (it:=J3) J<|rN.rv 6 J
   let aev:=J3::J2::EY::Hz::EY::AR::J2::J3::E1::EZ::Hz::aew
   have YL:HI M w ft (aev++r):=qG
   let aeu:=Hz::EY::dR::J9::eE::J0::AR::J2::J3::E1::EZ::ba
   have JR:HI M w ft (aeu++r):=HI.aP (l:=aev) (l':=aeu) (t:=r) YL [3,2,17,18,19,20,5,1,0,8,9,21,11,22] au J J
   refine bF _ ?_ ⟨(gh.drop (k_:Int).toNat),ji,iZ,cJ,qS,DI,DB,a33,lX,a35,DC,J,kJ,J,JR,(by intro e_ h_;exact uJ e_ (aoT h_)),(by simp only[anz];omega),bo,bo⟩
   first|(simp only[anz];omega)|omega
  have p1:=dF b1
  refine qn J J J b1<|qn J J J b1<|qn J J J b1<|qn J J J b1<|qn J J J b1<|qn J J J b1<|qn J J J b1<|qn J J J b1<|qn J J J b1<|qn J J J b1<|qn J J J b1<|qn J J J b1<|kq (fun _ _=>dA J J J J b1 J e1)<|kq (fun _ _=>mv (v:=.bool false) J J e1)<|qn J J J J<|qn J J J J<|qn J J J J<|qn J J J J<|qn J J J J<|qn J J J J<|qn J J J J<|qn J J J J<|qn J J J J<|qn J J J J<|qn J J J J<|qn J J J J<|qn J J J J<|kq (fun _ _=>dA J J J J J J e1)<|zq ?_
  intro dM jK
  have ff:=eP.ext jK
  refine nx<|pB J J J<|ex<|aV<|bc<|bg<|nx<|sq<|az<|ai J gS<|k<|eql J J J J<|z<|nx<|cd (b:=decide ((k_:Int)=0)) J J (fun b2=>?_)<|fun b2=>?_
  ·
   have p2:=dT b2
   refine az<|ai J gi<|k<|Oa (ff.rv 3 J) J J J J aj ey cL ?_
   intro a32 po Fe
   let AQ:=iL a32 (gh.drop (1:Int).toNat) po
   have gr:=ff.put (it:=AQ) J Fe
   refine ak (v:=sL a32 (gh.drop (1:Int).toNat) po) J J<|aq<|ex<|aV<|bg ?_
   have iS:=gr.put (it:=fI) J<|gr.rv 3 J
   have iw:=iS.put (it:=AQ) J<|iS.rv 1 J
   have j':=iw.put (it:=J2) J<|iw.rv 12 J
   have jX:=j'.put (it:=J3) J<|j'.rv 14 J
   have rp:HI M w dM ((J3::J2::AQ::fI::AQ::dz)++r):=jX
   have kX:HI M w dM ((fI::AQ::bV)++r):=HI.aP (l:=(J3::J2::AQ::fI::AQ::dz)) (l':=(fI::AQ::bV)) (t:=r) rp [3,2,9,10,11,12,13,1,0,16,17,18,19,20] au J J
   refine bF _ ?_ ⟨(gh.drop (1:Int).toNat),jn,oF,cJ,m_,a32,po,pv,pq,j9,j7,J,fl,J,kX,(by intro e_ h_;exact uJ e_ (aoT h_)),(by simp only[anz];omega),bo,bo⟩
   first|(simp only[anz];omega)|omega
  have p2:=dF b2
  refine sk<|nx<|sq<|az<|ai J gi<|ai J gS<|k<|Ob (ff.rv 3 J) J J J J aj ey cL ?_
  intro a32 po Fe
  let zp:=iL a32 (gh.take (k_:Int).toNat) po
  have gr:=ff.put (it:=zp) J Fe
  refine k<|dD J J ey<|ai (v:=I 0) J J<|aq<|bk<|lp (fun m f w'=>∃(q_:Nat) (ji:List cN) (iZ:KV) (a33:OA) (lX:Nat),m=(gh.take (k_:Int).toNat).length-q_∧f 0=pV cY 0∧f 7=sL a28 gh rJ∧f 10=I (k_:Int)∧f 75=sL a32 (gh.take (k_:Int).toNat) po∧f 76=I ((gh.take (k_:Int).toNat).length:Int)∧f 77=I (q_:Int)∧HI M w w' ([zp,jz,fM,fI,gU,dR,J9,box bJ #[I ((U.length:Nat):Int),sL AO (cW U fo o) AL] 26,J0,box cY #[.slice aC aE aB,sL aw U av,sL ay fo ax,sL a33 ji lX,.map (some bB),I cJ,sL j9 m_ j7,.map (some bL)] 142,J2,J3,oL w 175 a33 ji lX,cb bB iZ,J6,bU bL mq,J7]++r)∧(q_≤(gh.take (k_:Int).toNat).length)∧(ji.length≤jn.length+201*q_)) _ ⟨0,jn,oF,pv,pq,J,fl,gi,gS,J,J,(bG J),gr,aj,aj⟩ ?_
  rintro _ f3 ee ⟨q_,ji,iZ,a33,lX,rfl,kJ,lD,l5,l4,oT,oS,iS,sU,ack⟩
  refine sq ?_
  have acu:((gh.take (k_:Int).toNat)).length≤gh.length:=by rw[iB];exact aqk _ _
  refine rg<|k<|lss J J oS oT<|aq<|sq<|cd (b:=decide ((q_:Int)<((gh.take (k_:Int).toNat).length:Int))) J J (fun b3=>?_)<|fun b3=>?_
  ·
   have p3:=dT b3
   refine sk<|nx<|sq<|bk<|az<|k<|ia (iS.rv 0 J) J J l4 oS aj ey cL ?_
   intro iE x0 aM cz
   refine k<|nF cz.w cL J J ?_
   intro v0 Fc
   obtain⟨_,⟨_,_,rfl,⟨rfl,A8⟩,⟨_,_,rfl,⟨rfl,Fb⟩,⟨rfl,A7⟩⟩⟩,rfl⟩:=Fc
   refine k<|al iS cL ?_
   let JP:=box cY #[.slice aC aE aB,sL aw U av,sL ay fo ax,sL a33 ji lX,.map (some bB),I cJ,sL j9 m_ j7,.map (some bL)] 142
   let DN:=oL w 175 a33 ji lX
   let WZ:=zp::jz::fM::fI::gU::dR::J9::eE::J0::JP::J2::J3::DN::cb bB iZ::ba
   intro gN ft lC (kY:HI M w ft ((box gN #[I 0,I 0,I 0] 122::WZ)++r))
   refine k<|bw kY 0 J cL J J J J J J J ?_
   let vK:=box gN #[I x0.1,I x0.2.1,I x0.2.2] 122
   intro ij (iw:HI M w ij ((vK::WZ)++r))
   refine aq<|rg<|ai J kJ<|k<|cB iw 0 J cL J J au J<|k ?_
   let aet:=[fI,bU bL mq,vK,zp,jz,fM,gU,dR,J9,eE,J0,J6,J7]
   have qa:HI M w ij ([JP,J2,J3,DN,cb bB iZ,fI,bU bL mq]++([vK,zp,jz,fM,gU,dR,J9,eE,J0,J6,J7]++r)):=HI.aP (l:=(vK::WZ)) (l':=(JP::J2::J3::DN::cb bB iZ::aet)) (t:=r) iw [10,11,12,13,14,4,16,0,1,2,3,5,6,7,8,9,15,17] au J J
   have eZ:=Bd (cY:=cY) (aC:=aC) (aE:=aE) (aB:=aB) (aw:=aw) (av:=av) (U:=U) (ay:=ay) (ax:=ax) (fo:=fo) (eB:=a33) (eA:=lX) (sp:=ji) (bB:=bB) (mp:=iZ) (pn:=cJ) (db:=j9) (da:=j7) (pr:=m_) (bL:=bL) (mq:=mq) (fC:=x0.1) (fE:=x0.2.1) (gE:=x0.2.2) (w:=w) (w_:=ij) (r:=([vK,zp,jz,fM,gU,dR,J9,eE,J0,J6,J7]++r)) (M:=M) aR A8 Fb A7 hT aj aj (by exact ez) aj (by exact tK) qa
   refine ca QK J (ec J<|ec J e0) eZ ?_
   rintro _ jv ⟨qS,IX,ti,te,rfl,j',RX⟩
   let Ni:=box cY #[.slice aC aE aB,sL aw U av,sL ay fo ax,sL ti qS te,.map (some bB),I cJ,sL j9 m_ j7,.map (some bL)] 142
   let Nh:=oL w 175 ti qS te
   let Ng:=cb bB IX
   refine z<|aG<|nx<|rg<|k<|add J J oS J aR<|ai (v:=I ((q_:Int)+1)) J J<|z ?_
   have jX:=j'.put (it:=fI) J<|j'.rv 5 J
   have kX:=jX.put (it:=J2) J<|jX.rv 2 J
   have kg:=kX.put (it:=J3) J<|kX.rv 4 J
   let aes:=J3::J2::fI::Ni::J2::J3::Nh::Ng::aet
   have vN:HI M w jv (aes++r):=kg
   let aer:=zp::jz::fM::fI::gU::dR::J9::eE::J0::Ni::J2::J3::Nh::Ng::ba
   have mc:HI M w jv (aer++r):=HI.aP (l:=aes) (l':=aer) (t:=r) vN [11,12,13,2,14,15,16,17,18,3,1,0,6,7,19,9,20] au J J
   refine bF _ ?_ ⟨(q_+1),qS,IX,ti,te,J,kJ,lD,l5,l4,oT,(bG J),mc,aj,aj⟩
   omega
  have p3:=dF b3
  refine ex<|aV<|bc<|bg<|cO<|ai J kJ<|ai J lD<|ai J l5<|k<|Ob (iS.rv 4 J) J J J J aj ey cL ?_
  intro ti te Fc
  let yk:=iL ti (gh.take (k_:Int).toNat) te
  have kY:=iS.put (it:=yk) J Fc
  let JO:=box cY #[.slice aC aE aB,sL aw U av,sL ay fo ax,sL a33 ji lX,.map (some bB),I cJ,sL j9 m_ j7,.map (some bL)] 142
  let EX:=oL w 175 a33 ji lX
  let EW:=cb bB iZ
  let aeq:=yk::zp::jz::fM::fI::gU::dR::J9::eE::J0::JO::J2::J3::EX::EW::ba
  have iw:HI M w ee (aeq++r):=kY
  refine k ?_
  let aep:=[bU bL mq,yk,zp,jz,fM,gU,dR,J9,eE,J0,J6,J7]
  have qa:HI M w ee ([JO,J2,J3,EX,EW,fI,bU bL mq,yk]++([zp,jz,fM,gU,dR,J9,eE,J0,J6,J7]++r)):=HI.aP (l:=aeq) (l':=(JO::J2::J3::EX::EW::fI::aep)) (t:=r) iw [10,11,12,13,14,4,16,0,1,2,3,5,6,7,8,9,15,17] au J J
  have eZ:=yB (cY:=cY) (aC:=aC) (aE:=aE) (aB:=aB) (aw:=aw) (av:=av) (U:=U) (ay:=ay) (ax:=ax) (fo:=fo) (eB:=a33) (eA:=lX) (sp:=ji) (bB:=bB) (mp:=iZ) (pn:=cJ) (db:=j9) (da:=j7) (pr:=m_) (bL:=bL) (mq:=mq) (zU:=ti) (zO:=te) (es:=(gh.take (k_:Int).toNat)) (w:=w) (w_:=ee) (r:=([zp,jz,fM,gU,dR,J9,eE,J0,J6,J7]++r)) (M:=M) aR (by exact tK) (by intro x_ h_;rw[C_,I'];exact uJ x_ (aox h_)) qa
  refine ca Ko J (ec J<|ec J e0) eZ ?_
  rintro _ ft ⟨qS,a35,DC,rfl,j',RX⟩
  let Uq:=box cY #[.slice aC aE aB,sL aw U av,sL ay fo ax,sL a33 ji lX,.map (some bB),I cJ,sL a35 qS DC,.map (some bL)] 142
  let Hy:=iL a35 qS DC
  refine z<|nx ?_
  have acr:((gh.take (k_:Int).toNat)).length=k_:=by rw[iB,dP];exact aof aj
  refine rg<|ai J lD<|ai J l5<|k<|Oa (j'.rv 11 J) J J J J aj ey cL ?_
  intro DI DB A8
  let EV:=iL DI (gh.drop (k_:Int).toNat) DB
  have jX:=j'.put (it:=EV) J A8
  refine ak (v:=sL DI (gh.drop (k_:Int).toNat) DB) J J<|z<|aG ?_
  have kX:=jX.put (it:=Hy) J<|jX.rv 6 J
  have kg:=kX.put (it:=EV) J<|kX.rv 1 J
  have mc:=kg.put (it:=J2) J<|kg.rv 4 J
  have rN:=mc.put (it:=J3) J<|mc.rv 6 J
  let aeo:=J3::J2::EV::Hy::EV::Uq::J2::J3::EX::EW::Hy::aep
  have zv:HI M w ft (aeo++r):=rN
  let aen:=Hy::EV::dR::J9::eE::J0::Uq::J2::J3::EX::EW::ba
  have qG:HI M w ft (aen++r):=HI.aP (l:=aeo) (l':=aen) (t:=r) zv [3,2,17,18,19,20,5,1,0,8,9,21,11,22] au J J
  refine bF _ ?_ ⟨(gh.drop (k_:Int).toNat),ji,iZ,cJ,qS,DI,DB,a33,lX,a35,DC,J,kJ,J,qG,(by intro e_ h_;exact uJ e_ (aoT h_)),(by simp only[anz];omega),bo,bo⟩
  first|(simp only[anz];omega)|omega
 refine ex<|aV<|bc<|bg<|Em J ?_
 let AP:=box cY #[.slice aC aE aB,sL aw U av,sL ay fo ax,sL pv jn pq,.map (some bB),I cJ,sL j9 m_ j7,.map (some bL)] 142
 have dw:=HI.aP (l:=[iL j9 m_ j7,iL a28 gh rJ,dR,J9,eE,J0,AP,J2,J3,oL w 175 pv jn pq,cb bB oF,J6,bU bL mq,J7]) (l':=[AP,J2,J3,oL w 175 pv jn pq,cb bB oF,iL j9 m_ j7,bU bL mq,J7]) (t:=r) dI [6,7,8,9,10,0,12,13] au J J
 have e0:(cJ:Int)=pn:=by exact C_
 try rw[←e0]
 refine⟨jn,oF,m_,pv,pq,j9,j7,?_,?_,aj,(by exact tK)⟩
 · first|rfl|simp only[e0]|(simp only[am'])
 · first|exact dw|simpa +zetaDelta only[e0,am'] using dw
theorem Ym:cA aI 119:=cI Tryz.func119
theorem Ep (BE:aJ fC) (D2:aJ fE) (BD:aJ gE) (X9:aJ mS) (X8:aJ mR) (X7:aJ nt):Calls aI 119 #[.agg #[I fC,I fE,I gE],.agg #[I mS,I mR,I nt]] w (cp fun v w'=>v=.bool (decide (fC=mS)&&decide (fE=mR))∧Ext w w'):=by
 refine dG 17 Tryz.func119 J J J qt fun f0 ha H=>?_
 have i0:f0 0=.agg #[I fC,I fE,I gE]:=ha 0 bl
 have i1:f0 1=.agg #[I mS,I mR,I nt]:=ha 1 bl
 refine az<|k<|bx H J i0 ?_
 intro aZ w0 bY (H0:HI (fun _=>False) w w0 [box aZ #[I fC,I fE,I gE] 122])
 refine k<|bx H0 J i1 ?_
 intro aY w1 cT (H1:HI (fun _=>False) w w1 [box aY #[I mS,I mR,I nt] 122,box aZ #[I fC,I fE,I gE] 122])
 refine ak (v:=.bool false) J J<|bz<|aQ kR J J<|bq H1 1 J aT J J J<|aQ kR J J<|bq H1 0 J aT J J J<|k<|eql J J J J<|ai (v:=.bool (decide (fC=mS))) J J ?_
 rcases bE (decide (fC=mS)) with b0|b0
 ·
  refine bh J J J b0<|fa mZ J J<|bh J J J b0<|lx H1 1 J aT J J J<|bh J J J b0<|fa mZ J J<|bh J J J b0<|lx H1 0 J aT J J J<|bh J J J b0<|eql J J J J<|k<|aP J J J J b0 J<|ak (v:=.bool (decide (fE=mR))) J J<|aq<|rt<|r1 J J ?_
  exact⟨am_ Value.bool (by simp only[b0,BL]),H1.below⟩
 refine aW J J J b0<|aW J J J b0<|aW J J J b0<|aW J J J b0<|aW J J J b0<|k<|dA J J J J b0 J<|ak (v:=.bool false) J J<|aq<|rt<|r1 J J ?_
 exact⟨am_ Value.bool (by simp only[b0,BL]),H1.below⟩
theorem F0 {xs:List (Int×Int×Int)} (H:HI M w w_ ([oL w 122 dW xs dS]++r)):Calls aI 118 #[sL dW xs dS,.func (.func 119) #[] #[]] w_ (cp fun v w'=>∃(W4:List ep),v=sL dW W4 dS∧HI M w w' ([oL w 122 dW W4 dS]++r)∧W4.length≤xs.length∧∀x∈W4,x∈xs):=by
 refine enter 66 Tryz.func118 J J J fun f0 ha=>?_
 have GC:=kj<|H.at_ 0 J
 have i0:f0 0=sL dW xs dS:=ha 0 bl
 have i1:f0 1=.func (.func 119) #[] #[]:=ha 1 bl
 refine az<|ak (v:=.slice none 0 0) J J<|aq<|sq<|az<|ai J i0<|k<|dD J J ey<|k<|lss J J J J<|z<|nx<|cd (b:=decide ((xs.length:Int)<2)) J J (fun b0=>?_)<|fun b0=>?_
 ·
  refine az<|ai J i0<|ak (v:=sL dW xs dS) J J<|aq<|rt<|aK<|r1 J J ?_
  refine⟨xs,?_,?_,(by exact ane _),(by exact fun _ h_=>h_)⟩
  · first|rfl|simp only[am']
  · first|exact H|simpa +zetaDelta only[am'] using H
 have p0:=dF b0
 refine sk<|nx<|sq<|az<|ak (v:=I 1) J J<|aq<|bk<|lp (fun m f w'=>∃(k_:Nat),m=xs.length-k_∧f 0=sL dW xs dS∧f 1=.func (.func 119) #[] #[]∧f 5=I (k_:Int)∧HI M w w' ([oL w 122 dW xs dS]++r)∧(1≤k_∧k_≤xs.length)) _ ⟨1,J,i0,i1,(bG J),H,aj⟩ ?_
 rintro _ f0 w0 ⟨k_,rfl,s0,s1,s2,H0,pA⟩
 refine sq<|az<|ai J s2<|ai J s0<|k<|dD J J ey<|k<|lss J J J J<|z<|nx<|cd (b:=decide ((k_:Int)<(xs.length:Int))) J J (fun b1=>?_)<|fun b1=>?_
 ·
  have p1:=dT b1
  refine sk<|nx<|sq<|bk<|sq<|lH [.r,.r,.r,.r,.r,.r,.r,.r,.r,.r,.r] (fun _=>True) J aS (fun _ _=>trivial)<|yq J J<|kq (fun _ _=>mv J s1 e1)<|bH<|kq (fun _ _=>mv J s0 e1)<|bH<|kq (fun _ _=>mv J s2 e1)<|bH<|oK (H0.at_ 0 J) J J J J aj ey cL ?_
  intro iE x0 aM cz
  refine bH<|tz cz cL J J ?_
  intro v0 cw
  obtain⟨_,⟨_,_,rfl,⟨rfl,d_⟩,⟨_,_,rfl,⟨rfl,dZ⟩,⟨rfl,fy⟩⟩⟩,rfl⟩:=cw
  refine bH<|kq (fun _ _=>mv J s0 e1)<|bH<|kq (fun _ _=>mv J s2 e1)<|bH<|kq (fun _ _=>sub J J J J aR e1)<|bH<|oK (H0.at_ 0 J) J J J J aj ey cL ?_
  intro rK x1 cQ gL
  refine bH<|tz gL cL J J ?_
  intro v1 iT
  obtain⟨_,⟨_,_,rfl,⟨rfl,jS⟩,⟨_,_,rfl,⟨rfl,je⟩,⟨rfl,lh⟩⟩⟩,rfl⟩:=iT
  refine zq<|yq J J<|kq (v:=.bool (decide (x0.1=x1.1)&&decide (x0.2.1=x1.2.1))) (fun v_ _=>have cc:=Ep (fC:=x0.1) (fE:=x0.2.1) (gE:=x0.2.2) (mS:=x1.1) (mR:=x1.2.1) (nt:=x1.2.2) (w:=v_) d_ dZ fy jS je lh;cf Ym rfl rfl rfl (ec J<|ec J e0) cc fun _ _ h_=>e2 h_)<|zq<|yz ?_
  intro w1 f1 _ bY _ _ cx iJ
  have H1:=H0.ext bY
  have s3:=(cx 0 J).trans s0
  have s4:=(cx 1 J).trans s1
  have s5:=(cx 5 J).trans s2
  have s6:=cx 28 J
  refine kz<|nx<|cd (b:=(decide (x0.1=x1.1)&&decide (x0.2.1=x1.2.1))) J s6 (fun b2=>?_)<|fun b2=>?_
  ·
   refine az<|ai J s3<|ai J s5<|k<|UI (H1.at_ 0 J) J J J J aj ey cL<|ak (v:=.slice (pK dW dS (k_:Int).toNat) (xs.length-(k_:Int).toNat) (dS-(k_:Int).toNat)) J J<|aq<|sq<|az<|ak (v:=I 1) J J<|aq<|bk<|lp (fun m f w'=>∃(ub:Nat) (q_:Nat) (rC:List ep),m=xs.length-k_-ub∧f 0=sL dW xs dS∧f 1=.func (.func 119) #[] #[]∧f 5=I (q_:Int)∧f 6=.slice (pK dW dS (k_:Int).toNat) (xs.length-(k_:Int).toNat) (dS-(k_:Int).toNat)∧f 7=I (ub:Int)∧HI M w w' ([own w.heap.size 122 (.slice dW xs.length dS) rC]++r)∧(rC.length=xs.length∧∀x∈rC,x∈xs)∧(k_≤q_∧q_<k_+ub∧k_+ub≤xs.length)) _ ⟨1,k_,xs,J,s3,s4,(bG s5),J,(bG J),H1,(by exact⟨J,fun _ h_=>h_⟩),aj⟩ ?_
   rintro _ f2 w2 ⟨ub,q_,rC,rfl,s7,s8,s9,eu,fb,H2,hs,sU⟩
   refine sq<|az<|ai J fb<|ai J eu<|k<|dD J J ey<|k<|lss J J J J<|z<|nx<|cd (b:=decide ((ub:Int)<((xs.length-(k_:Int).toNat:Nat):Int))) J J (fun b3=>?_)<|fun b3=>?_
   ·
    have p3:=dT b3
    refine sk<|nx<|sq<|bk<|sq<|lH [.r,.r,.r,.r,.r,.r,.r,.r,.r,.r,.r,.r] (fun _=>True) J aS (fun _ _=>trivial)<|yq J J<|kq (fun _ _=>mv J s8 e1)<|bH<|kq (fun _ _=>mv J eu e1)<|bH<|kq (fun _ _=>mv J fb e1)<|bH<|RW (H2.at_ 0 J) J J J J aj ey cL ?_
    intro pZ x2 jf kV
    refine bH<|tz kV cL J J ?_
    intro v2 oE
    obtain⟨_,⟨_,_,rfl,⟨rfl,nE⟩,⟨_,_,rfl,⟨rfl,rP⟩,⟨rfl,oU⟩⟩⟩,rfl⟩:=oE
    refine bH<|kq (fun _ _=>mv J eu e1)<|bH<|kq (fun _ _=>mv J fb e1)<|bH<|kq (fun _ _=>sub J J J J aR e1)<|bH<|RW (H2.at_ 0 J) J J J J aj ey cL ?_
    intro vI x3 nH vw
    refine bH<|tz vw cL J J ?_
    intro v3 nR
    obtain⟨_,⟨_,_,rfl,⟨rfl,qN⟩,⟨_,_,rfl,⟨rfl,qM⟩,⟨rfl,qj⟩⟩⟩,rfl⟩:=nR
    refine zq<|yq J J<|kq (v:=.bool (decide (x2.1=x3.1)&&decide (x2.2.1=x3.2.1))) (fun v_ _=>have cc:=Ep (fC:=x2.1) (fE:=x2.2.1) (gE:=x2.2.2) (mS:=x3.1) (mR:=x3.2.1) (nt:=x3.2.2) (w:=v_) nE rP oU qN qM qj;cf Ym rfl rfl rfl (ec J<|ec J e0) cc fun _ _ h_=>e2 h_)<|bH<|kq (fun _ _=>jY J J e1)<|zq<|yz ?_
    intro w3 f3 _ cT _ _ eD vm
    have H3:=H2.ext cT
    have fu:=(eD 0 J).trans s7
    have fl:=(eD 1 J).trans s8
    have gi:=(eD 5 J).trans s9
    have gS:=(eD 6 J).trans eu
    have j4:=(eD 7 J).trans fb
    have kJ:=eD 49 J
    refine kz<|nx<|cd (b:=!(decide (x2.1=x3.1)&&decide (x2.2.1=x3.2.1))) J kJ (fun b4=>?_)<|fun b4=>?_
    ·
     refine az<|ai J fu<|ai J gi<|ai J gS<|ai J j4<|k<|ahX (H3.at_ 0 J) J J J J aj ey cL ?_
     intro uo x4 yN wx
     refine k<|nF wx cL J J ?_
     intro v4 A9
     obtain⟨_,⟨_,_,rfl,⟨rfl,Ff⟩,⟨_,_,rfl,⟨rfl,PI⟩,⟨rfl,abd⟩⟩⟩,rfl⟩:=A9
     refine k<|gW (H3.at_ 0 J) J J J J aj ey cL ?_
     intro g0 x5 iC Ey Jo
     refine k<|oQ H3 0 J iC J aj cL J J J J ⟨_,⟨_,_,J,⟨J,(show aJ (x4.1) from bo)⟩,⟨_,_,J,⟨J,(show aJ (x4.2.1) from bo)⟩,⟨J,(show aJ (x4.2.2) from bo)⟩⟩⟩,J⟩ ?_
     intro w4 (H4:HI M w w4 ([own w.heap.size 122 (.slice dW xs.length dS) (rC.set ((q_:Int).toNat) (x4.1,x4.2.1,x4.2.2))]++r))
     refine aq<|rg<|ai J gi<|k<|add J J J J aR<|ak (v:=I ((q_:Int)+1)) J J<|z<|aG<|nx<|rg<|ai J j4<|k<|add J J J J aR<|ak (v:=I ((ub:Int)+1)) J J<|z<|bF _ ?_ ⟨(ub+1),(q_+1),(rC.set ((q_:Int).toNat) (x4.1,x4.2.1,x4.2.2)),J,fu,fl,(bG J),gS,(bG J),H4,(by exact aac hs yN),aj⟩
     omega
    refine sk<|aG<|nx<|rg<|ai J j4<|k<|add J J J J aR<|ak (v:=I ((ub:Int)+1)) J J<|z<|bF _ ?_ ⟨(ub+1),q_,rC,J,fu,fl,(bG gi),gS,(bG J),H3,(by exact hs),aj⟩
    omega
   refine ex<|aV<|bc<|bg<|cO<|ai J s7<|ai J s9<|k<|UI (H2.at_ 0 J) J J J J aj ey cL<|k<|clE H2 0 J J J (q:=(q_:Int).toNat) J ey cL (by have h_:=hs.1;omega) ?_
   intro w3 (H3:HI M w w3 ([own w.heap.size 122 (.slice dW xs.length dS) (rC.take ((q_:Int).toNat)++List.replicate (rC.length-((q_:Int).toNat)) (0,0,0))]++r))
   refine bz<|ai J s7<|ai J s9<|k<|RB H3 0 J J J J J (by have h_:=hs.1;first|omega|(simp only[fF,iB,oG];omega)) ey cL ?_
   intro (H4:HI M w w3 ([oL w 122 dW ((rC.take ((q_:Int).toNat)++List.replicate (rC.length-((q_:Int).toNat)) (0,0,0)).take (q_:Int).toNat) dS]++r))
   refine ak (v:=sL dW ((rC.take ((q_:Int).toNat)++List.replicate (rC.length-((q_:Int).toNat)) (0,0,0)).take (q_:Int).toNat) dS) J J<|aq<|rt<|bR<|aK<|dX<|bR<|aK<|r1 J J ?_
   refine⟨((rC.take ((q_:Int).toNat)++List.replicate (rC.length-((q_:Int).toNat)) (0,0,0)).take (q_:Int).toNat),?_,?_,(by have h_:=hs.1;exact aae h_ aj),(by have h_:=hs.1;exact aad hs.2 aj)⟩
   · first|rfl|simp only[am']
   · first|exact H4|simpa +zetaDelta only[am'] using H4
  refine sk<|aG<|nx<|rg<|ai J s5<|k<|add J J J J aR<|ak (v:=I ((k_:Int)+1)) J J<|z<|bF _ ?_ ⟨(k_+1),J,s3,s4,(bG J),H1,aj⟩
  omega
 refine ex<|aV<|bc<|bg<|cO<|ai J s0<|ak (v:=sL dW xs dS) J J<|aq<|rt<|r1 J J ?_
 refine⟨xs,?_,?_,(by exact ane _),(by exact fun _ h_=>h_)⟩
 · first|rfl|simp only[am']
 · first|exact H0|simpa +zetaDelta only[am'] using H0
theorem afP:cA aI 118:=cI Tryz.func118
theorem Z2:gR aI 175 0 0:=jU Tryz.underlying175
theorem Gq (ra:aJ pn) (hT:fU 0 w) (ho:ig U) (dB:U.length≤64) (ez:fo.length=U.length) (fL:∀x∈fo,x<((U.length:Nat):Int)) (I':pn=((U.length:Nat):Int)) (uy:bK pn pr=true) (HX:sp.length≤1000000000000) (H:HI M w w_ ([box cY #[.slice aC aE aB,sL aw U av,sL ay fo ax,sL eB sp eA,.map (some bB),I pn,sL db pr da,.map (some bL)] 142,iL aw U av,iL ay fo ax,oL w 175 eB sp eA,cb bB mp,iL db pr da,bU bL mq]++r)):Calls aI 80 #[pV cY 0] w_ (cp fun v w'=>∃(tu:List cN) (GA:KV) (CG:List (List bt)) (oz:OA) (ou:Nat) (zm:OA) (zf:Nat),v=.tuple #[]∧HI M w w' ([box cY #[.slice aC aE aB,sL aw U av,sL ay fo ax,sL oz tu ou,.map (some bB),I pn,sL zm CG zf,.map (some bL)] 142,iL aw U av,iL ay fo ax,oL w 175 oz tu ou,cb bB GA,iL zm CG zf,bU bL mq]++r)∧tu.length≤sp.length+53000000∧bK pn CG=true):=by
 refine enter 77 Tryz.func80 J J J fun f0 ha=>?_
 have ja:=bj<|H.rv 1 J
 have kP:=bj<|H.rv 2 J
 have DZ:=kj<|H.at_ 3 J
 have D0:=bj<|H.rv 5 J
 have i0:f0 0=pV cY 0:=ha 0 bl
 have Fg:=pk uy
 have Qw:=(ri (U:=U) (fo:=fo) Fg).1
 have uJ:=TE (U:=U) (fo:=fo) I' Fg ez fL
 refine sq<|lH [.r,.r,.r,.r,.r,.r,.r,.r,.r,.r,.r] (fun _=>True) J aS (fun _ _=>trivial)<|yq J J<|kq (fun _ _=>mv J i0 e1)<|bH<|kq (fun _ _=>nc J J e1)<|bH<|kq (fun _ _=>fa Ig J J e1)<|bH<|kq (fun _ x_=>cB (H.ext x_) 0 J eh J J au J e1)<|bH<|kq (fun _ _=>mv J i0 e1)<|bH<|kq (fun _ _=>nc J J e1)<|bH<|kq (fun _ _=>fa rA J J e1)<|bH<|kq (fun _ x_=>cB (H.ext x_) 0 J bp J J au J e1)<|zq<|yu J (fun _ v w'=>∃(a0:OA) (c0:Nat),v=.agg #[I pn,sL a0 (fj pn pr) c0]∧RV H.fS w' (sL a0 (fj pn pr) c0) (fj pn pr)) J nh J (fun v_ _ x_ _=>have cU:=wL (mn:=pn) (mr:=pr) (w:=v_) (H.ext x_).mb ra ((H.ext x_).rv 5 rfl) (by exact uy);ca QE rfl (ec J e0) cU (fun _ w1 ⟨a1,c1,e_,cT,dZ⟩=>⟨_,J,cT,⟨a1,c1,e_,(bm.rv dZ (H.ext x_).mb)⟩⟩))<|lL J (fun _ v w'=>∃(a3:OA) (c3:Nat),v=sL a3 (cK U fo pn<|fj pn pr) c3∧bm H.fS 122 w_ (cK U fo pn<|fj pn pr) (.slice a3 (cK U fo pn<|fj pn pr).length c3) w') 0 J J (mN<|by rintro _ _ _ x_ ⟨a3,c3,e_,je⟩;exact⟨a3,c3,e_,je.LR x_⟩) J (fun v_ _ _ x_ _ h_=>let ⟨a4,c4,s0,lh⟩:=h_;have H9:=(H.ext x_).put (it:=iL a4 (fj pn pr) c4) rfl lh;have eZ:=uV (U:=U) (fo:=fo) (mn:=pn) (mr:=(fj pn pr)) (aC:=aC) (aE:=aE) (aB:=aB) H9.mb (hT.ext H9.below) (H9.rv 2 J) (H9.rv 3 J) bo (H9.rv 0 J) aj (by exact ez) (by exact fL) (by exact Fg);ca QC rfl (ec J<|ec s0 e0) eZ (fun _ w3 ⟨a5,c5,e_,fN,oE⟩=>⟨_,J,fN,⟨a5,c5,e_,(bm.anyM<|bm.base oE x_)⟩⟩))<|lL J (fun _ v w'=>∃(a6:OA) (c6:Nat),v=sL a6 (cK U fo pn<|fj pn pr) c6∧bm H.fS 122 w_ (cK U fo pn<|fj pn pr) (.slice a6 (cK U fo pn<|fj pn pr).length c6) w') 0 J J (mN<|by rintro _ _ _ x_ ⟨a6,c6,e_,rP⟩;exact⟨a6,c6,e_,rP.LR x_⟩) J (fun _ _ _ _ _ h_=>let ⟨a7,c7,s1,oU⟩:=h_;jO rfl s1 ⟨_,J,Ext.refl _,⟨a7,c7,J,oU⟩⟩)<|yz ?_
 intro w4 f0 _ iP _ _ cx iJ
 obtain⟨a8,c8,s2,nR⟩:=iJ 0 _ _ rfl
 have dJ:=H.eT<|bm.anyM nR
 have s3:=(cx 0 J).trans i0
 refine kz<|cO<|ai J s2<|k ?_
 let J0:=oL w 122 a8 (cK U fo pn (fj pn pr)) c8
 let J1:=box cY #[.slice aC aE aB,sL aw U av,sL ay fo ax,sL eB sp eA,.map (some bB),I pn,sL db pr da,.map (some bL)] 142
 let J2:=iL aw U av
 let J3:=iL ay fo ax
 let J4:=oL w 175 eB sp eA
 let J5:=iL db pr da
 let ba:=[J5,bU bL mq]
 let bV:=J0::J1::J2::J3::J4::cb bB mp::ba
 have cM:HI M w w4 ([J0]++([J1,J2,J3,J4,cb bB mp,J5,bU bL mq]++r)):=HI.aP (l:=(J0::J1::J2::J3::J4::cb bB mp::ba)) (l':=bV) (t:=r) dJ [0,1,2,3,4,5,6,7] au J J
 have mx:=F0 (dW:=a8) (dS:=c8) (xs:=(cK U fo pn<|fj pn pr)) (w:=w) (w_:=w4) (r:=([J1,J2,J3,J4,cb bB mp,J5,bU bL mq]++r)) (M:=M) cM
 refine ca afP J (ec J<|ec J e0) mx ?_
 rintro _ w5 ⟨o0,rfl,dU,q0,q1⟩
 let J6:=oL w 122 a8 o0 c8
 refine ak (v:=sL a8 o0 c8) J J<|aq<|sq<|az<|ai (v:=sL a8 o0 c8) J J<|k<|dD J J ey<|ai (v:=I 0) J J<|aq<|bk<|lp (fun m f w'=>∃(j_:Nat) (jn:List cN) (oF:KV) (a9:OA) (c9:Nat),m=o0.length-j_∧f 0=pV cY 0∧f 2=sL a8 o0 c8∧f 20=sL a8 o0 c8∧f 21=I (o0.length:Int)∧f 22=I (j_:Int)∧HI M w w' ((J6::box cY #[.slice aC aE aB,sL aw U av,sL ay fo ax,sL a9 jn c9,.map (some bB),I pn,sL db pr da,.map (some bL)] 142::J2::J3::oL w 175 a9 jn c9::cb bB oF::ba)++r)∧(j_≤o0.length)∧(jn.length≤sp.length+201*j_)) _ ⟨0,sp,mp,eB,eA,J,s3,J,J,J,(bG J),dU,aj,aj⟩ ?_
 rintro _ f1 w6 ⟨j_,jn,oF,a9,c9,rfl,s4,s5,s6,s7,s8,cR,pA,HY⟩
 refine az<|k<|lss J J s8 s7<|aq<|sq<|cd (b:=decide ((j_:Int)<(o0.length:Int))) J J (fun b0=>?_)<|fun b0=>?_
 ·
  have p0:=dT b0
  refine sk<|nx<|sq<|bk<|az<|k<|gW (cR.at_ 0 J) J J s6 s8 aj ey cL ?_
  intro g0 x0 iC aM cz
  refine k<|nF cz cL J J ?_
  intro v0 qN
  obtain⟨_,⟨_,_,rfl,⟨rfl,qM⟩,⟨_,_,rfl,⟨rfl,qj⟩,⟨rfl,A9⟩⟩⟩,rfl⟩:=qN
  refine k<|al cR cL ?_
  let J7:=box cY #[.slice aC aE aB,sL aw U av,sL ay fo ax,sL a9 jn c9,.map (some bB),I pn,sL db pr da,.map (some bL)] 142
  let J8:=oL w 175 a9 jn c9
  let dz:=J7::J2::J3::J8::cb bB oF::ba
  intro aZ w7 jc (dI:HI M w w7 ((box aZ #[I 0,I 0,I 0] 122::J6::dz)++r))
  refine k<|bw dI 0 J cL J J J J J J J ?_
  let J9:=box aZ #[I x0.1,I x0.2.1,I x0.2.2] 122
  intro w8 (dw:HI M w w8 ((J9::J6::dz)++r))
  refine bz<|ai J s4<|aQ kR J J<|bq dw 0 J aT J J J<|aQ sZ J J<|bq dw 0 J aT J J J<|k ?_
  let iW:=[J5,bU bL mq,J9,J6]
  have cE:HI M w w8 (dz++([J9,J6]++r)):=HI.aP (l:=(J9::J6::dz)) (l':=(J7::J2::J3::J8::cb bB oF::iW)) (t:=r) dw [2,3,4,5,6,7,8,0,1] au J J
  have nu:=mL (cY:=cY) (aC:=aC) (aE:=aE) (aB:=aB) (aw:=aw) (av:=av) (U:=U) (ay:=ay) (ax:=ax) (fo:=fo) (eB:=a9) (eA:=c9) (sp:=jn) (bB:=bB) (mp:=oF) (pn:=pn) (db:=db) (da:=da) (pr:=pr) (bL:=bL) (mq:=mq) (f_:=x0.1) (t_:=x0.2.2) (w:=w) (w_:=w8) (r:=([J9,J6]++r)) (M:=M) ra qM A9 hT aj aj (by exact ez) aj (by exact uy) cE
  refine ca zK J (ec J<|ec J<|ec J e0) nu ?_
  rintro _ w9 ⟨o1,o2,o3,jq,jo,rfl,df,q2,q3⟩
  let dR:=box cY #[.slice aC aE aB,sL aw U av,sL ay fo ax,sL jq o2 jo,.map (some bB),I pn,sL db pr da,.map (some bL)] 142
  let eE:=cb bB o3
  let fm:=dR::J2::J3::oL w 175 jq o2 jo::eE::iW
  have dH:HI M w w9 (fm++r):=df
  refine ak (v:=I o1) J J<|z<|nx<|lH [.s,.r,.r,.r,.r,.r,.r,.r,.r,.r,.r,.r,.r,.r,.e,.f,.f,.e] (fun _=>True) J aS (fun _ _=>trivial)<|yq J J<|kq (fun _ _=>mv J s4 e1)<|bH<|kq (fun _ _=>mv J s4 e1)<|bH<|kq (fun _ _=>nc J J e1)<|bH<|kq (fun _ _=>fa l8 J J e1)<|bH<|kq (fun _ x_=>lx (dH.ext x_) 0 J nQ J J J e1)<|bH<|kq (fun _ _=>fa kR J J e1)<|bH<|kq (fun _ x_=>lx (dH.ext x_) 7 J aT J J J e1)<|bH<|kq (fun _ _=>fa mZ J J e1)<|bH<|kq (fun _ x_=>lx (dH.ext x_) 7 J aT J J J e1)<|bH<|kq (fun _ _=>mv (v:=I o1) J J e1)<|bH<|kq (fun _ _=>fa sZ J J e1)<|bH<|kq (fun _ x_=>lx (dH.ext x_) 7 J aT J J J e1)<|bH<|kq (fun _ _=>bd (v:=.agg #[I 4,I x0.1,I x0.2.1,I o1,I x0.2.2]) J (cm J<|cm J<|cm J<|cm J<|cm J ew) (fun _=>aS) e1)<|zq<|yu J (fun _ v w'=>∃(mV:OA) (mU:Nat),v=sL mV ([(4,x0.1,x0.2.1,o1,x0.2.2)]:List cN) mU∧RV dH.fS w' (sL mV ([(4,x0.1,x0.2.1,o1,x0.2.2)]:List cN) mU) ([(4,x0.1,x0.2.1,o1,x0.2.2)]:List cN)) J nh J (fun v_ N_ x_ n_=>?_) ?_
  ·
   have gr:=dH.ext x_
   refine bs (xs:=([(4,x0.1,x0.2.1,o1,x0.2.2)]:List cN)) (cells:=#[I 4,I x0.1,I x0.2.1,I o1,I x0.2.2]) (e:=175) gr J (cm J ew) (fun _=>aS) ⟨[I 4,I x0.1,I x0.2.1,I o1,I x0.2.2],[],J,⟨_,_,J,⟨J,(show aJ (4) from aR)⟩,⟨_,_,J,⟨J,(show aJ (x0.1) from bo)⟩,⟨_,_,J,⟨J,(show aJ (x0.2.1) from bo)⟩,⟨_,_,J,⟨J,(show aJ (o1) from bo)⟩,⟨J,(show aJ (x0.2.2) from bo)⟩⟩⟩⟩⟩,J⟩ J au ?_
   intro g2 ee lC (iy:HI M w ee ((own w.heap.size 175 (.slice (some ⟨g2,0,none⟩) 1 1) ([(4,x0.1,x0.2.1,o1,x0.2.2)]:List cN)::fm)++r))
   have iS:=iy.freeze 0 J
   exact⟨_,J,lC,⟨(some ⟨g2,0,none⟩),1,J,(ly J<|iS.rv 0 J)⟩⟩
  refine ye<|yf J (fun _ _=>nc J J e3)<|yf J (fun _ _=>fa l8 J J e3)<|ye<|yz ?_
  intro ft f2 _ l3 _ _ eD vm
  have kY:=dH.ext l3
  have s9:=(eD 0 J).trans s4
  have eu:=(eD 2 J).trans s5
  have fb:=(eD 20 J).trans s6
  have fu:=(eD 21 J).trans s7
  have fl:=(eD 22 J).trans s8
  have gi:=eD 36 J
  obtain⟨a12,pC,gS,PI⟩:=vm 0 _ _ rfl
  let fM:=iL a12 ([(4,x0.1,x0.2.1,o1,x0.2.2)]:List cN) pC
  have iw:=kY.put (it:=fM) J PI
  have j4:=eD 48 J
  refine jw<|lY iw 4 J J J J gi gS (iw.rv 0 J).src KL AZ J (by simp only[iI,gj];omega) J ?_
  intro jW jV ij (j':HI M w ij ((fM::dR::J2::J3::oL w 175 jW (o2++([(4,x0.1,x0.2.1,o1,x0.2.2)]:List cN)) jV::eE::iW)++r))
  let fI:=oL w 175 jW (o2++([(4,x0.1,x0.2.1,o1,x0.2.2)]:List cN)) jV
  refine jw<|bw j' 1 J nQ J J j4 J J J J ?_
  let gU:=box cY #[.slice aC aE aB,sL aw U av,sL ay fo ax,sL jW (o2++([(4,x0.1,x0.2.1,o1,x0.2.2)]:List cN)) jV,.map (some bB),I pn,sL db pr da,.map (some bL)] 142
  let kx:=fM::gU::J2::J3::fI::eE::iW
  intro jv (nP:HI M w jv (kx++r))
  refine kz<|aG<|nx<|rg<|k<|add J J fl J aR<|ai (v:=I ((j_:Int)+1)) J J<|z ?_
  have jX:=nP.put (it:=J2) J<|nP.rv 2 J
  have kX:=jX.put (it:=J3) J<|jX.rv 4 J
  have kg:=kX.put (it:=J5) J<|kX.rv 8 J
  have vN:HI M w jv ((J5::J3::J2::kx)++r):=kg
  have mc:HI M w jv ((J6::gU::J2::J3::fI::eE::ba)++r):=HI.aP (l:=(J5::J3::J2::kx)) (l':=(J6::gU::J2::J3::fI::eE::ba)) (t:=r) vN [12,4,2,1,7,8,0,10] au J J
  refine bF _ ?_ ⟨(j_+1),(o2++([(4,x0.1,x0.2.1,o1,x0.2.2)]:List cN)),o3,jW,jV,J,s9,eu,fb,fu,(bG J),mc,aj,(by simp only[fF,iI,gj];omega)⟩
  omega
 have p0:=dF b0
 refine ex<|aV<|bc<|bg<|nx<|sq<|az<|ai J s4<|k<|nc J J<|aQ l8 J J<|bq cR 1 J nQ J J J<|k<|dD J J KL<|ai (v:=I 0) J J<|aq<|bk ?_
 let ma:=box cY #[.slice aC aE aB,sL aw U av,sL ay fo ax,sL a9 jn c9,.map (some bB),I pn,sL db pr da,.map (some bL)] 142
 let lZ:=oL w 175 a9 jn c9
 refine lp (fun m f w'=>∃(j_:Nat) (iZ:KV),m=jn.length-j_∧f 0=pV cY 0∧f 2=sL a8 o0 c8∧f 53=sL a9 jn c9∧f 54=I (jn.length:Int)∧f 55=I (j_:Int)∧HI M w w' ((J6::ma::J2::J3::lZ::cb bB iZ::ba)++r)∧(j_≤jn.length)) _ ⟨0,oF,J,s4,s5,J,J,(bG J),cR,aj⟩ ?_
 rintro _ f2 w7 ⟨j_,iZ,rfl,s9,eu,fb,fu,fl,dI,pA⟩
 refine az<|k<|lss J J fl fu<|aq<|sq<|cd (b:=decide ((j_:Int)<(jn.length:Int))) J J (fun b1=>?_)<|fun b1=>?_
 ·
  have p1:=dT b1
  refine sk<|nx<|sq<|bk<|az<|ai J fl<|k<|gW (dI.at_ 4 J) J J fb fl aj KL AZ ?_
  intro g0 x0 iC aM cz
  refine k<|nF cz AZ J J ?_
  intro v0 qN
  obtain⟨_,⟨_,_,rfl,⟨rfl,qM⟩,⟨_,_,rfl,⟨rfl,qj⟩,⟨_,_,rfl,⟨rfl,A9⟩,⟨_,_,rfl,⟨rfl,Ff⟩,⟨rfl,PI⟩⟩⟩⟩⟩,rfl⟩:=qN
  refine k<|al dI AZ ?_
  let rn:=J6::ma::J2::J3::lZ::cb bB iZ::ba
  intro aZ w8 jc (dw:HI M w w8 ((box aZ #[I 0,I 0,I 0,I 0,I 0] 175::rn)++r))
  refine ak (v:=I (j_:Int)) J J<|k<|bw dw 0 J AZ J J J J J J J ?_
  let rM:=box aZ #[I x0.1,I x0.2.1,I x0.2.2.1,I x0.2.2.2.1,I x0.2.2.2.2] 175
  intro w9 (cE:HI M w w9 ((rM::rn)++r))
  refine bz<|aQ Z2 J J<|bq cE 0 J aT J J J<|k<|eql J J J J<|z<|nx<|cd (b:=decide (x0.1=4)) J J (fun b2=>?_)<|fun b2=>?_
  ·
   have p2:=dT b2
   refine lH [.r,.r,.r,.r,.r,.r,.r,.r,.r,.r,.e] (fun _=>True) J aS (fun _ _=>trivial)<|yq J J<|kq (fun _ _=>mv J s9 e1)<|bH<|kq (fun _ _=>nc J J e1)<|bH<|kq (fun _ _=>fa D7 J J e1)<|bH<|kq (fun _ x_=>lx (cE.ext x_) 2 J Ka J J J e1)<|bH<|kq (fun _ _=>fa O2 J J e1)<|bH<|kq (fun _ x_=>lx (cE.ext x_) 0 J aT J J J e1)<|bH<|kq (fun _ _=>fa O1 J J e1)<|bH<|kq (fun _ x_=>lx (cE.ext x_) 0 J aT J J J e1)<|bH<|kq (fun _ _=>bd (v:=.agg #[I x0.2.1,I x0.2.2.1]) J (cm J<|cm J ew) (fun _=>aS) e1)<|bH<|kq (fun _ _=>mv (v:=I (j_:Int)) J J e1)<|zq<|ye<|yz ?_
   intro dM f3 _ jK _ _ eD vm
   have df:=cE.ext jK
   have gi:=(eD 0 J).trans s9
   have gS:=(eD 2 J).trans eu
   have j4:=(eD 53 J).trans fb
   have kJ:=(eD 54 J).trans fu
   have lD:=(eD 55 J).trans fl
   have l5:=eD 66 J
   have l4:=eD 71 J
   have oT:=eD 72 J
   refine jw<|Xp (k:=(x0.2.1,x0.2.2.1)) Kf df 6 J J J J l5 l4 oT aR ?_
   let jz:=cb bB (js iZ (x0.2.1,x0.2.2.1) (j_:Int))
   let vJ:=J6::ma::J2::J3::lZ::jz::ba
   intro ee (dH:HI M w ee ((rM::vJ)++r))
   refine kz<|aG<|nx<|rg<|k<|add J J lD J aR<|ai (v:=I ((j_:Int)+1)) J J<|z ?_
   have eP:HI M w ee (vJ++r):=HI.aP (l:=(rM::vJ)) (l':=vJ) (t:=r) dH [1,2,3,4,5,6,7,8] au J J
   refine bF _ ?_ ⟨(j_+1),(js iZ (x0.2.1,x0.2.2.1) (j_:Int)),J,gi,gS,j4,kJ,(bG J),eP,aj⟩
   omega
  have p2:=dF b2
  refine sk<|aG<|nx<|rg<|k<|add J J fl J aR<|ai (v:=I ((j_:Int)+1)) J J<|z ?_
  have df:HI M w w9 (rn++r):=HI.aP (l:=(rM::rn)) (l':=rn) (t:=r) cE [1,2,3,4,5,6,7,8] au J J
  refine bF _ ?_ ⟨(j_+1),iZ,J,s9,eu,fb,fu,(bG J),df,aj⟩
  omega
 refine ex<|aV<|bc<|bg<|nx<|rg<|ai J s9<|ai J eu<|k ?_
 have dw:=dI.freeze 0 J
 let nO:=cb bB iZ
 let DK:=iL a8 o0 c8::ma::J2::J3::lZ::nO::ba
 have cE:HI M w w7 (DK++r):=dw
 let zn:=[bU bL mq,iL a8 o0 c8]
 have df:HI M w w7 ((ma::J2::J3::lZ::nO::J5::zn)++([]++r)):=HI.aP (l:=DK) (l':=(ma::J2::J3::lZ::nO::J5::zn)) (t:=r) cE [1,2,3,4,5,6,7,0] au J J
 have nu:=yB (cY:=cY) (aC:=aC) (aE:=aE) (aB:=aB) (aw:=aw) (av:=av) (U:=U) (ay:=ay) (ax:=ax) (fo:=fo) (eB:=a9) (eA:=c9) (sp:=jn) (bB:=bB) (mp:=iZ) (pn:=pn) (db:=db) (da:=da) (pr:=pr) (bL:=bL) (mq:=mq) (zU:=a8) (zO:=c8) (es:=o0) (w:=w) (w_:=w7) (r:=([]++r)) (M:=M) ra (by exact uy) (by intro x_ h_;rw[I'];exact uJ x_ (q1 x_ h_)) df
 refine ca Ko J (ec J<|ec J e0) nu ?_
 rintro _ w8 ⟨o1,jq,jo,rfl,dH,q2⟩
 let pw:=box cY #[.slice aC aE aB,sL aw U av,sL ay fo ax,sL a9 jn c9,.map (some bB),I pn,sL jq o1 jo,.map (some bL)] 142
 let wb:=pw::J2::J3::lZ::nO::iL jq o1 jo::zn
 have eP:HI M w w8 (wb++r):=dH
 refine z<|Em J ?_
 have ff:=HI.aP (l:=wb) (l':=[pw,J2,J3,lZ,nO,iL jq o1 jo,bU bL mq]) (t:=r) eP [0,1,2,3,4,5,6] au J J
 refine⟨jn,iZ,o1,a9,c9,jq,jo,?_,?_,aj,bo⟩
 · first|rfl|simp only[am']
 · first|exact ff|simpa +zetaDelta only[am'] using ff
theorem Dl:gR aI 80 2 5:=jU Tryz.underlying80
theorem KN:ef aI 78 1 false 24 (.slice none 0 0):=⟨aS,aS⟩
theorem HF:aI.underlying 78=some (.slice 26):=aS
theorem r7:gR aI 80 0 0:=jU Tryz.underlying80
theorem xX:gR aI 80 1 3:=jU Tryz.underlying80
theorem Pm (kA:aJ cn) (hT:fU 0 w) (ho:ig U) (dB:U.length≤64) (ez:fo.length=U.length) (fL:∀x∈fo,x<((U.length:Nat):Int)) (oH:cn=((U.length:Nat):Int)) (pS:cr=cu U fo) (hsw:iO=none∧sw=[]∨sw=eX U fo) (H:HI M w w_ ([box eJ #[.slice aC aE aB,sL aw U av,sL ay fo ax,I cn,sL dy cr dx,sL iO sw jH] 80,iL aw U av,iL ay fo ax,iL dy cr dx,oL w 26 iO sw jH]++r)):Calls aI 67 #[pV eJ 0] w_ (cp fun v w'=>∃(wQ:OA) (wP:Nat),v=.slice wQ (eX U fo).length wP∧HI M w w' ([box eJ #[.slice aC aE aB,sL aw U av,sL ay fo ax,I cn,sL dy cr dx,.slice wQ (eX U fo).length wP] 80,iL aw U av,iL ay fo ax,iL dy cr dx,oL w 26 wQ (eX U fo) wP]++r)):=by
 refine enter 52 Tryz.func67 J J J fun f0 ha=>?_
 have ja:=bj<|H.rv 1 J
 have kP:=bj<|H.rv 2 J
 have Bq:=bj<|H.rv 3 J
 have Xx:=kj<|H.at_ 4 J
 have i0:f0 0=pV eJ 0:=ha 0 bl
 have aie:iO.isNone=true→sw=[]:=Oo<|H.at_ 4 J
 refine az<|ak (v:=.slice none 0 0) J J<|aq<|sq<|az<|ai J i0<|k<|nc J J<|aQ Dl J J<|bq H 0 J KN J J J<|k<|TB J J J J HF<|z<|nx<|cd (b:=iO.isNone) J J (fun b0=>?_)<|fun b0=>?_
 ·
  refine az<|ai J i0<|k<|nc J J<|aQ r7 J J<|aQ fG J J<|bq H 0 J jh J J J<|k<|dD J J jA<|ai (v:=I 0) J J<|aq<|bk ?_
  let J0:=iL aw U av
  let J1:=iL ay fo ax
  let J2:=iL dy cr dx
  refine lp (fun m f w'=>∃(j_:Nat) (jd:List (Int×(List<|List bt))) (a0:OA) (c0:Nat),m=U.length-j_∧f 0=pV eJ 0∧f 18=I (U.length:Int)∧f 19=I (j_:Int)∧HI M w w' ([box eJ #[.slice aC aE aB,sL aw U av,sL ay fo ax,I cn,sL dy cr dx,sL a0 jd c0] 80,J0,J1,J2,oL w 26 a0 jd c0]++r)∧(j_≤U.length)∧(jd=(eX U fo).take j_)) _ ⟨0,sw,iO,jH,J,i0,J,(bG J),H,aj,(by rw[aie bo];rfl)⟩ ?_
  rintro _ f0 w0 ⟨j_,jd,a0,c0,rfl,s0,s1,s2,H0,pA,hs⟩
  refine az<|k<|lss J J s2 s1<|aq<|sq<|cd (b:=decide ((j_:Int)<(U.length:Int))) J J (fun b1=>?_)<|fun b1=>?_
  ·
   have p1:=dT b1
   refine sk<|nx<|sq<|bk<|az<|ai J s2<|ak (v:=I (j_:Int)) J J<|aq<|sq<|lH [.r,.r,.r,.r,.r,.r,.r,.r,.r,.r,.r,.r,.s,.s,.s,.n,.e,.s,.s,.s] (fun _=>True) J aS (fun _ _=>trivial)<|yq J J<|kq (fun _ _=>mv J s0 e1)<|bH<|kq (fun _ _=>nc J J e1)<|bH<|kq (fun _ _=>fa r7 J J e1)<|bH<|kq (fun _ x_=>cB (H0.ext x_) 0 J eh J J au J e1)<|bH<|kq (fun _ _=>mv J s0 e1)<|bH<|kq (fun _ _=>nc J J e1)<|bH<|kq (fun _ _=>fa xX J J e1)<|bH<|kq (fun _ x_=>cB (H0.ext x_) 0 J bp J J au J e1)<|bH<|kq (fun _ _=>mv (v:=I (j_:Int)) J J e1)<|zq<|yu J (fun N v w'=>∃(o0:List ep) (o1:Int) (a1:OA) (c1:Nat) (a2:OA) (c2:Nat),v=.tuple #[.agg #[I ((U.length:Nat):Int),sL a1 (cW U fo (j_:Int)) c1],sL a2 o0 c2,I o1,I 0]∧o0.length≤2000000000∧aJ o1∧oJ U.length o0∧RV (MN H0.fS N) w' (sL a1 (cW U fo (j_:Int)) c1) (cW U fo (j_:Int))∧RV (MN H0.fS N) w' (sL a2 o0 c2) o0) J ⟨by rintro _ _ _ _ x_ ⟨o0,o1,a1,c1,a2,c2,e_,q0,q1,q2,dZ,fy⟩;exact⟨o0,o1,a1,c1,a2,c2,e_,q0,q1,q2,dZ.lift (Up.ext x_),fy.lift (Up.ext x_)⟩,by rintro _ _ _ _ _ k_ ⟨o0,o1,a1,c1,a2,c2,e_,q0,q1,q2,dZ,fy⟩;exact⟨o0,o1,a1,c1,a2,c2,e_,q0,q1,q2,ie dZ k_,ie fy k_⟩⟩ J (fun v_ _ x_ n_=>have cU:=HN (U:=U) (fo:=fo) (mn:=cn) (mr:=cr) (o:=(j_:Int)) (aC:=aC) (aE:=aE) (aB:=aB) (w:=v_) (kN H0.mb x_ n_) (hT.ext (H0.below.trans x_)) (km (H0.rv 1 J) x_ n_) (km (H0.rv 2 J) x_ n_) kA (km (H0.rv 3 J) x_ n_) aR (by exact ho) (by exact dB) (by exact ez) (by exact fL) (by exact oH) (by exact pS) aj;ca QL rfl (ec J<|ec J<|ec J e0) cU (fun _ w2 ⟨o2,o3,a3,c3,a4,c4,e_,cT,iT,jS,q3,q4,q5⟩=>⟨_,J,cT,⟨o2,o3,a3,c3,a4,c4,e_,q3,q4,q5,iT,jS⟩⟩))<|lL J (fun N v w'=>∃(o4:List ep) (o5:Int) (a5:OA) (c5:Nat) (a6:OA) (c6:Nat),v=.tuple #[.agg #[I ((U.length:Nat):Int),sL a5 (cW U fo (j_:Int)) c5],sL a6 o4 c6,I o5,I 0]∧o4.length≤2000000000∧aJ o5∧oJ U.length o4∧RV (MN H0.fS N) w' (sL a5 (cW U fo (j_:Int)) c5) (cW U fo (j_:Int))∧RV (MN H0.fS N) w' (sL a6 o4 c6) o4) 0 J J ⟨by rintro _ _ _ _ x_ ⟨o4,o5,a5,c5,a6,c6,e_,q6,q7,q8,je,lh⟩;exact⟨o4,o5,a5,c5,a6,c6,e_,q6,q7,q8,je.lift (Up.ext x_),lh.lift (Up.ext x_)⟩,by rintro _ _ _ _ _ k_ ⟨o4,o5,a5,c5,a6,c6,e_,q6,q7,q8,je,lh⟩;exact⟨o4,o5,a5,c5,a6,c6,e_,q6,q7,q8,ie je k_,ie lh k_⟩⟩ J (fun _ _ _ _ _ h_=>let ⟨o6,o7,a7,c7,a8,c8,s3,q9,u5,xC,oE,nE⟩:=h_;mv rfl s3 ⟨_,J,Ext.refl _,⟨o6,o7,a7,c7,a8,c8,J,q9,u5,xC,oE,nE⟩⟩)<|lL J (fun N v w'=>∃(a9:OA) (c9:Nat),v=.agg #[I ((U.length:Nat):Int),sL a9 (cW U fo (j_:Int)) c9]∧RV (MN H0.fS N) w' (sL a9 (cW U fo (j_:Int)) c9) (cW U fo (j_:Int))) 0 J J Et J (fun _ _ _ _ _ h_=>let ⟨kM,gq,mV,mU,a12,pC,s4,CF,CE,yy,nR,qN⟩:=h_;xt rfl s4 rfl ⟨_,J,Ext.refl _,⟨mV,mU,J,nR⟩⟩)<|lL J (fun N v w'=>∃(j5:List ep) (ln:OA) (ll:Nat),v=sL ln j5 ll∧j5.length≤2000000000∧oJ U.length j5∧RV (MN H0.fS N) w' (sL ln j5 ll) j5) 1 J J ⟨by rintro _ _ _ _ x_ ⟨j5,ln,ll,e_,xB,xA,qj⟩;exact⟨j5,ln,ll,e_,xB,xA,qj.lift (Up.ext x_)⟩,by rintro _ _ _ _ _ k_ ⟨j5,ln,ll,e_,xB,xA,qj⟩;exact⟨j5,ln,ll,e_,xB,xA,ie qj k_⟩⟩ J (fun _ _ _ _ _ h_=>let ⟨Gx,IZ,JJ,JC,JI,JB,s5,En,q22,Lm,A9,Ff⟩:=h_;xt rfl s5 rfl ⟨_,J,Ext.refl _,⟨Gx,JI,JB,J,En,Lm,Ff⟩⟩)<|lL J (fun _ v _=>∃(CR:Int),v=I CR∧aJ CR) 2 J J mE J (fun _ _ _ _ _ h_=>let ⟨Sl,IY,a19,c19,a20,c20,s6,q27,R1,q29,abc,abb⟩:=h_;xt rfl s6 rfl ⟨_,J,Ext.refl _,⟨IY,J,R1⟩⟩)<|Rc J (X:=I 0) 3 J J (fun _ _ _ _ _ h_=>let ⟨Sj,OC,a23,c23,a24,ze,s7,q33,q34,q35,aba,aa'⟩:=h_;xt rfl s7 rfl e1)<|yn (z:=#[I 0,.slice none 0 0]) J J (fun _=>M7 bp)<|ye<|lL J (fun N v w'=>∃(mO:List ep) (a25:OA) (ES:Nat),v=sL a25 mO ES∧mO.length≤2000000000∧oJ U.length mO∧RV (MN H0.fS N) w' (sL a25 mO ES) mO) 2 J J ⟨by rintro _ _ _ _ x_ ⟨mO,a25,ES,e_,CD,CC,xy⟩;exact⟨mO,a25,ES,e_,CD,CC,xy.lift (Up.ext x_)⟩,by rintro _ _ _ _ _ k_ ⟨mO,a25,ES,e_,CD,CC,xy⟩;exact⟨mO,a25,ES,e_,CD,CC,ie xy k_⟩⟩ J (fun _ _ _ _ _ h_=>let ⟨Lw,a26,Ho,s8,R0,RZ,Li⟩:=h_;jO rfl s8 ⟨_,J,Ext.refl _,⟨Lw,a26,Ho,J,R0,RZ,Li⟩⟩)<|lL J (fun _ v _=>∃(sQ:Int),v=I sQ∧aJ sQ) 2 J J mE J (fun _ _ _ _ _ h_=>let ⟨ua,s9,RY⟩:=h_;jO rfl s9 ⟨_,J,Ext.refl _,⟨ua,J,RY⟩⟩)<|yq J J<|kq (fun _ _=>jO (v:=I 0) J J e1)<|zq<|yz ?_
   intro w3 f1 _ fk _ _ cx iJ
   obtain⟨aY,eu,AE,rI,yR⟩:=iJ 2 _ _ rfl
   have og:=MM (z:=#[I 0,.slice none 0 0]) (T:=26) AE rI yR<|MO
   let J3:=box eJ #[.slice aC aE aB,sL aw U av,sL ay fo ax,I cn,sL dy cr dx,sL a0 jd c0] 80
   let J4:=oL w 26 a0 jd c0
   have H8:HI M w w3 ([box aY #[I 0,.slice none 0 0] 26,J3,J0,J1,J2,J4]++r):=H0.Bs fk og<|LF LC LG
   have fb:=(cx 0 J).trans s0
   have fu:=(cx 18 J).trans s1
   have fl:=(cx 19 J).trans s2
   obtain⟨AO,AL,gi,Lh⟩:=iJ 5 _ _ rfl
   let J5:=iL AO (cW U fo (j_:Int)) AL
   have H9:=H8.put (it:=J5) J<|sy Lh og
   refine jw<|bw H9 1 J bp J J eu gi J J J ?_
   let J6:=box aY #[I ((U.length:Nat):Int),sL AO (cW U fo (j_:Int)) AL] 26
   intro w4 (cV:HI M w w4 ([J5,J6,J3,J0,J1,J2,J4]++r))
   refine kz<|nx<|lH [.s,.r,.r,.r,.r,.r,.r,.e,.f,.f,.e] (fun _=>True) J aS (fun _ _=>trivial)<|yq J J<|kq (fun _ _=>mv J fb e1)<|bH<|kq (fun _ _=>mv J fb e1)<|bH<|kq (fun _ _=>nc J J e1)<|bH<|kq (fun _ _=>fa Dl J J e1)<|bH<|kq (fun _ x_=>lx (cV.ext x_) 2 J KN J J J e1)<|bH<|kq (fun _ x_=>cB (cV.ext x_) 1 J bp J eu au J e1)<|zq<|yu J (fun _ v w'=>∃(a28:OA) (rJ:Nat),v=sL a28 ([(((U.length:Nat):Int),cW U fo (j_:Int))]:List (Int×(List<|List bt))) rJ∧RV cV.fS w' (sL a28 ([(((U.length:Nat):Int),cW U fo (j_:Int))]:List (Int×(List<|List bt))) rJ) ([(((U.length:Nat):Int),cW U fo (j_:Int))]:List (Int×(List<|List bt)))) J nh J (fun v_ N_ x_ n_=>?_) ?_
   ·
    have cM:=cV.ext x_
    refine bs (xs:=([(((U.length:Nat):Int),cW U fo (j_:Int))]:List (Int×(List<|List bt)))) (cells:=#[I ((U.length:Nat):Int),sL AO (cW U fo (j_:Int)) AL]) (e:=26) cM J (cm J ew) (fun _=>aS) ⟨[I ((U.length:Nat):Int),sL AO (cW U fo (j_:Int)) AL],[],J,⟨_,_,J,⟨J,(show aJ (((U.length:Nat):Int)) from aR)⟩,⟨_,J,RV.list.1 (cM.rv 0 J)⟩⟩,J⟩ J au ?_
    intro g1 w6 iP (dU:HI M w w6 ([own w.heap.size 26 (.slice (some ⟨g1,0,none⟩) 1 1) ([(((U.length:Nat):Int),cW U fo (j_:Int))]:List (Int×(List (List bt)))),J5,J6,J3,J0,J1,J2,J4]++r))
    have dt:=dU.freeze 0 J
    exact⟨_,J,iP,⟨(some ⟨g1,0,none⟩),1,J,(ly J<|dt.rv 0 J)⟩⟩
   refine ye<|yf J (fun _ _=>nc J J e3)<|yf J (fun _ _=>fa Dl J J e3)<|ye<|yz ?_
   intro w7 f2 _ jc _ _ eD vm
   have cR:=cV.ext jc
   have gS:=(eD 0 J).trans fb
   have j4:=(eD 18 J).trans fu
   have kJ:=(eD 19 J).trans fl
   have lD:=eD 41 J
   obtain⟨pv,pq,l5,Lg⟩:=vm 0 _ _ rfl
   let J7:=iL pv ([(((U.length:Nat):Int),cW U fo (j_:Int))]:List (Int×(List (List bt)))) pq
   have dI:=cR.put (it:=J7) J Lg
   have l4:=eD 46 J
   refine jw<|lY dI 7 J J J J lD l5 (dI.rv 0 J).src HF bp J (by rw[hs];simp only[iB,iI,gj];omega) J ?_
   intro j9 j7 w8 (cE:HI M w w8 ([J7,J5,J6,J3,J0,J1,J2,oL w 26 j9 (jd++([(((U.length:Nat):Int),cW U fo (j_:Int))]:List (Int×(List (List bt))))) j7]++r))
   let J8:=oL w 26 j9 (jd++([(((U.length:Nat):Int),cW U fo (j_:Int))]:List (Int×(List (List bt))))) j7
   refine jw<|bw cE 3 J KN J J l4 J J J J ?_
   let J9:=box eJ #[.slice aC aE aB,sL aw U av,sL ay fo ax,I cn,sL dy cr dx,sL j9 (jd++([(((U.length:Nat):Int),cW U fo (j_:Int))]:List (Int×(List (List bt))))) j7] 80
   let ba:=[J9,J0,J1,J2,J8]
   intro w9 (df:HI M w w9 ((J7::J5::J6::ba)++r))
   refine kz<|aG<|nx<|rg<|k<|add J J kJ J aR<|ai (v:=I ((j_:Int)+1)) J J<|z ?_
   have dH:=df.put (it:=J0) J<|df.rv 4 J
   have ff:=dH.put (it:=J1) J<|dH.rv 6 J
   have iy:=ff.put (it:=J2) J<|ff.rv 8 J
   have iS:HI M w w9 ((J2::J1::J0::J7::J5::J6::ba)++r):=iy
   have kY:HI M w w9 (ba++r):=HI.aP (l:=(J2::J1::J0::J7::J5::J6::ba)) (l':=ba) (t:=r) iS [6,2,1,0,10] au J J
   refine bF _ ?_ ⟨(j_+1),(jd++([(((U.length:Nat):Int),cW U fo (j_:Int))]:List (Int×(List<|List bt)))),j9,j7,J,gS,j4,(bG J),kY,aj,(by rw[hs];exact RE aj)⟩
   omega
  have p1:=dF b1
  refine ex<|aV<|bc<|bg<|cO<|ai J s0<|k<|nc J J<|aQ Dl J J<|bq H0 0 J KN J J J<|ak (v:=sL a0 jd c0) J J<|aq<|rt<|r1 J J ?_
  have e0:(jd:List _)=(eX U fo):=by rw[hs];exact anj (by rw[A6];omega)
  try rw[←e0]
  refine⟨a0,c0,?_,?_⟩
  · first|rfl|simp only[e0]|(simp only[am'])
  · first|exact H0|simpa +zetaDelta only[e0,am'] using H0
 refine sk<|cO<|ai J i0<|k<|nc J J<|aQ Dl J J<|bq H 0 J KN J J J<|ak (v:=sL iO sw jH) J J<|aq<|rt<|r1 J J ?_
 have e0:(sw:List _)=(eX U fo):=by rcases hsw with ⟨h_,_⟩|h_;exact absurd (by rw[h_];rfl) (Bool.eq_false_iff.1 ‹iO.isNone=false›);exact h_
 try rw[←e0]
 refine⟨iO,jH,?_,?_⟩
 · first|rfl|simp only[e0]|(simp only[am'])
 · first|exact H|simpa +zetaDelta only[e0,am'] using H
theorem bT:ef aI 33 8 true 80 (.agg #[.int .i64 0,.int .i64 0,.int .i64 0,.int .i64 0,.int .i64 0,.slice none 0 0,.int .i64 0,.int .i64 0]):=⟨aS,aS⟩
theorem FO:cA aI 60:=cI Tryz.func60
theorem r8:gR aI 33 1 1:=jU Tryz.underlying33
theorem QD:cA aI 62:=cI Tryz.func62
theorem ph:gR aI 33 4 4:=jU Tryz.underlying33
theorem JF (hM:eO M w) (pH:aJ lv):Calls aI 31 #[I lv] w (cp fun v w'=>∃(a0:OA) (c0:Nat),v=.slice a0 (dV lv).length c0∧Ext w w'∧bm M 3 w (dV lv) (.slice a0 (dV lv).length c0) w'):=by
 refine dG 19 Tryz.func31 J J J hM fun f0 ha H=>?_
 have i0:f0 0=I lv:=ha 0 bl
 refine az<|ak (v:=.slice none 0 0) J J<|bz<|k<|bs (xs:=([1,2,3,4]:aA)) (cells:=#[I 1,I 2,I 3,I 4]) (e:=3) H J (cm J<|cm J<|cm J<|cm J ew) (fun _=>aS) ⟨[I 1],[I 2,I 3,I 4],J,⟨J,(show aJ (1) from aR)⟩,⟨[I 2],[I 3,I 4],J,⟨J,(show aJ (2) from aR)⟩,⟨[I 3],[I 4],J,⟨J,(show aJ (3) from aR)⟩,⟨[I 4],[],J,⟨J,(show aJ (4) from aR)⟩,J⟩⟩⟩⟩ J au ?_
 intro g0 w0 bY H0
 refine ak (v:=.slice (some ⟨g0,0,none⟩) 4 4) J J<|aq<|sq<|az<|ai J i0<|aq<|bk<|az<|k<|eql J J J J<|ak (v:=.bool (decide (lv=1))) J J<|z<|nx<|cd (b:=decide (lv=1)) J J (fun b0=>?_)<|fun b0=>?_
 ·
  refine az<|ai (v:=.slice (some ⟨g0,0,none⟩) 4 4) J J<|ak (v:=.slice (some ⟨g0,0,none⟩) 4 4) J J<|aq<|rt<|bR<|aK<|r1 J J ?_
  have e0:(([1,2,3,4]:aA):aA)=dV lv:=by simp only[dV,b0,BL]
  have l0:4=(dV lv).length:=by rw[←e0];simp
  have bu:=iK (fun (vf:Nat)=>(.slice (some ⟨g0,0,none⟩) vf 4:Value)) l0
  exact⟨(some ⟨g0,0,none⟩),4,bu,H0.below,(am_ (fun (n_:Nat)=>bm _ _ _ (dV lv) (.slice (some ⟨g0,0,none⟩) n_ 4) _) l0).mp ((am_ (fun (x_:aA)=>bm _ _ _ x_ (.slice (some ⟨g0,0,none⟩) 4 4) _) e0).mp (H0.dp 0 J))⟩
 refine az<|k<|eql J J J J<|ak (v:=.bool (decide (lv=2))) J J<|z<|nx<|cd (b:=decide (lv=2)) J J (fun b1=>?_)<|fun b1=>?_
 ·
  refine az<|ai (v:=.slice (some ⟨g0,0,none⟩) 4 4) J J<|k<|bs (xs:=([5]:aA)) (cells:=#[I 5]) (e:=3) H0 J (cm J ew) (fun _=>aS) ⟨[I 5],[],J,⟨J,(show aJ (5) from aR)⟩,J⟩ J au ?_
  intro g1 w1 cT H1
  refine k<|lY H1 1 J J J J J J (gY<|H1.at_ 0 J) cG aT J bl J ?_
  intro a0 c0 w2 (H2:HI M w w2 [own w.heap.size 3 (.slice (some ⟨g1,0,none⟩) 1 1) ([5]:aA),oL w 3 a0 (([1,2,3,4]:aA)++([5]:aA)) c0])
  refine ak (v:=sL a0 (([1,2,3,4]:aA)++([5]:aA)) c0) J J<|aq<|rt<|bR<|aK<|r1 J J ?_
  have e0:((([1,2,3,4]:aA)++([5]:aA)):aA)=dV lv:=by simp only[dV,b0,b1,BL]
  have bu:=iK (fun (cg:aA)=>(.slice a0 cg.length c0:Value)) e0
  exact⟨a0,c0,bu,H2.below,(am_ (fun (x_:aA)=>bm _ _ _ x_ (.slice a0 x_.length c0) _) e0).mp (H2.dp 1 J)⟩
 refine az<|k<|eql J J J J<|ak (v:=.bool (decide (lv=3))) J J<|z<|nx<|cd (b:=decide (lv=3)) J J (fun b2=>?_)<|fun b2=>?_
 ·
  refine az<|ai (v:=.slice (some ⟨g0,0,none⟩) 4 4) J J<|k<|bs (xs:=([6,7]:aA)) (cells:=#[I 6,I 7]) (e:=3) H0 J (cm J<|cm J ew) (fun _=>aS) ⟨[I 6],[I 7],J,⟨J,(show aJ (6) from aR)⟩,⟨[I 7],[],J,⟨J,(show aJ (7) from aR)⟩,J⟩⟩ J au ?_
  intro g1 w1 cT H1
  refine k<|lY H1 1 J J J J J J (gY<|H1.at_ 0 J) cG aT J bl J ?_
  intro a0 c0 w2 (H2:HI M w w2 [own w.heap.size 3 (.slice (some ⟨g1,0,none⟩) 2 2) ([6,7]:aA),oL w 3 a0 (([1,2,3,4]:aA)++([6,7]:aA)) c0])
  refine ak (v:=sL a0 (([1,2,3,4]:aA)++([6,7]:aA)) c0) J J<|aq<|rt<|bR<|aK<|r1 J J ?_
  have e0:((([1,2,3,4]:aA)++([6,7]:aA)):aA)=dV lv:=by simp only[dV,b0,b1,b2,BL]
  have bu:=iK (fun (cg:aA)=>(.slice a0 cg.length c0:Value)) e0
  exact⟨a0,c0,bu,H2.below,(am_ (fun (x_:aA)=>bm _ _ _ x_ (.slice a0 x_.length c0) _) e0).mp (H2.dp 1 J)⟩
 refine sk<|aG<|cO<|ak (v:=.slice none 0 0) J J<|aq<|rt<|r1 J J ?_
 have e0:([]:aA)=dV lv:=by simp only[dV,b0,b1,b2,BL]
 have bu:=iK (fun (cg:aA)=>(.slice none cg.length 0:Value)) e0
 exact⟨none,0,bu,H0.below,(am_ (fun (x_:aA)=>bm _ _ _ x_ (.slice none x_.length 0) _) e0).mp (fR H0.below)⟩
theorem rl (lV:aJ kd):Calls aI 60 #[I kd] w (cp fun v w'=>v=.agg #[I kd,I (-1),I (-1),I (-1),I (-1),.slice none 0 0,I (-1),I (-1)]∧Ext w w'):=by
 refine dG 5 Tryz.func60 J J J qt fun f0 ha H=>?_
 have i0:f0 0=I kd:=ha 0 bl
 refine az<|k<|al H bT ?_
 intro aZ w0 bY (H0:HI (fun _=>False) w w0 [box aZ #[I 0,I 0,I 0,I 0,I 0,.slice none 0 0,I 0,I 0] 33])
 refine bz<|ai J i0<|k<|bd (v:=.agg #[I kd,I (-1),I (-1),I (-1),I (-1),.slice none 0 0,I (-1),I (-1)]) J (cm J<|cm J<|cm J<|cm J<|cm J<|cm J<|cm J ew) (fun _=>aS)<|k<|bw H0 0 J bT J J J J J J J ?_
 intro w1 (H1:HI (fun _=>False) w w1 [box aZ #[I kd,I (-1),I (-1),I (-1),I (-1),.slice none 0 0,I (-1),I (-1)] 33])
 refine aq<|rt<|py H1 0 J bT J J J J au ?_
 exact⟨J,H1.below⟩
theorem WS (hM:eO M w) (dL:cD M w aw av U) (gb:cD M w ay ax fo) (kA:aJ cn) (nW:cD M w dy dx cr) (lV:aJ kd) (lk:w.heap[eJ]? =some (.cells #[.slice aC aE aB,sL aw U av,sL ay fo ax,I cn,sL dy cr dx,.slice iO rS jH] me (0,0))∧¬M eJ):Calls aI 33 #[.pointer (some ⟨eJ,0,none⟩),I kd] w (cp fun v w'=>∃(k_:Int) (r_:Int) (a_:Int) (b_:Int) (o_:Int) (f_:Int) (s_:Int),v=.tuple #[.agg #[I k_,I r_,I a_,I b_,I o_,.slice none 0 0,I f_,I s_],.bool ((pD fo kd).isSome)]∧Ext w w'∧qE (pD fo kd) k_ r_ a_ b_ o_):=by
 refine dG 20 Tryz.func33 J J J hM fun f0 ha H=>?_
 let J0:=iL aw U av
 have H0:=H.put (it:=J0) J<|by rw[bP];exact dL
 let J1:=iL ay fo ax
 have H1:=H0.put (it:=J1) J<|by rw[aD rfl,bP];exact gb
 let J2:=iL dy cr dx
 have H2:=H1.put (it:=J2) J<|by rw[aD rfl,aD rfl,bP];exact nW
 have ja:=bj dL
 have kP:=bj gb
 have Bq:=bj nW
 let J3:=ro eJ #[.slice aC aE aB,sL aw U av,sL ay fo ax,I cn,sL dy cr dx,.slice iO rS jH] me
 have H3:=H2.put (it:=J3) J<|by rw[aD rfl,aD rfl,aD rfl,bP];exact lk
 have i0:f0 0=pV eJ 0:=ha 0 bl
 have i1:f0 1=I kd:=ha 1 bl
 refine az<|k<|al H3 bT ?_
 let ba:=[J3,J2,J1,J0]
 intro aZ w0 bY (H4:HI M w w0 (box aZ #[I 0,I 0,I 0,I 0,I 0,.slice none 0 0,I 0,I 0] 33::ba))
 let J4:=box aZ #[I 0,I 0,I 0,I 0,I 0,.slice none 0 0,I 0,I 0] 33
 refine ak (v:=.bool false) J J<|bz<|ai J i1<|k ?_
 have bS:=rl (kd:=kd) (w:=w0) lV
 refine ca FO J (ec J e0) bS ?_
 rintro _ w1 ⟨rfl,cT⟩
 have H5:=H4.ext cT
 refine k<|al H5 bT ?_
 intro aY w2 fk (H6:HI M w w2 (box aY #[I 0,I 0,I 0,I 0,I 0,.slice none 0 0,I 0,I 0] 33::J4::ba))
 refine k<|bw H6 0 J bT J J J J J J J ?_
 intro w3 (H7:HI M w w3 (box aY #[I kd,I (-1),I (-1),I (-1),I (-1),.slice none 0 0,I (-1),I (-1)] 33::J4::ba))
 refine bz<|ai J i0<|k<|nc J J<|aQ r7 J J<|aQ tR J J<|k<|lr H7 2 J qJ J J J<|k ?_
 have cU:=I7 (rY:=fo) (tY:=(-2)) H7.mb (H7.rv 4 J) aR
 refine ca adm J (ec J<|ec J e0) cU ?_
 rintro _ w4 ⟨rfl,fN⟩
 have H8:=H7.ext fN
 refine aQ r8 J J<|k<|bw H8 0 J aT J J J J J J J ?_
 intro w5 (H9:HI M w w5 (box aY #[I kd,I (eM (fun (z_:Int)=>decide ((-2)=z_)) fo),I (-1),I (-1),I (-1),.slice none 0 0,I (-1),I (-1)] 33::J4::ba))
 refine aq<|sq<|lH [.r,.f,.f,.f,.e,.s] (fun w'=>HI M w w' [box aY #[I kd,I (eM (fun (z_:Int)=>decide ((-2)=z_)) fo),I (-1),I (-1),I (-1),.slice none 0 0,I (-1),I (-1)] 33]) J aS (fun _ x_=>(H9.bX (l':=[box aY #[I kd,I (eM (fun (z_:Int)=>decide ((-2)=z_)) fo),I (-1),I (-1),I (-1),.slice none 0 0,I (-1),I (-1)] 33]) [0] au J).ext x_)<|yq J J<|kq (fun _ x_=>cB (H9.ext x_) 0 J bT J J au J e1)<|zq<|yf J (fun _ _=>fa r8 J J e3)<|yf J (fun _ i_=>lx i_ 0 J aT J J J e3)<|yf J (fun _ _=>geq J J J J e3)<|ye<|yq J J<|kq (fun _ _=>jO (v:=.bool (decide (0≤(eM (fun (z_:Int)=>decide ((-2)=z_)) fo)))) J J e1)<|zq<|yz ?_
 intro w6 f0 _ iP _ _ cx iJ
 have dO:=H9.ext iP
 have s0:=cx 4 J
 have s1:=cx 5 J
 have s2:=cx 16 J
 refine ke<|bw dO 1 J bT J J s0 s2 J J J ?_
 intro w7 (cV:HI M w w7 (box aY #[I kd,I (eM (fun (z_:Int)=>decide ((-2)=z_)) fo),I (-1),I (-1),I (-1),.slice none 0 0,I (-1),I (-1)] 33::box aZ #[I kd,I (eM (fun (z_:Int)=>decide ((-2)=z_)) fo),I (-1),I (-1),I (-1),.slice none 0 0,I (-1),I (-1)] 33::ba))
 refine⟨cV.bX [0] au rfl,?_⟩
 refine kz<|nx<|rt<|iH cV 1 J bT J J J s0 J au ?_
 try simp only[cZ]
 rw[s1]
 have e1:(eM (fun (z_:Int)=>decide ((-2)=z_)) fo:Int)=(eM (fun (z_:Int)=>decide ((-2)=z_)) fo):=rfl
 have e8:(decide (0≤(eM (fun (z_:Int)=>decide ((-2)=z_)) fo)):Bool)=(pD fo kd).isSome:=by exact N5
 have bu:=nL (fun (dY:Int) (lM:Bool)=>(.tuple #[.agg #[I kd,I dY,I (-1),I (-1),I (-1),.slice none 0 0,I (-1),I (-1)],.bool lM]:Value)) e1 e8
 exact⟨kd,(eM (fun (z_:Int)=>decide ((-2)=z_)) fo),(-1),(-1),(-1),(-1),(-1),bu,cV.below,(by exact aaN lV aj)⟩
theorem Ub {abD:Nat} (hM:eO M w) (kA:aJ cn) (nW:cD M w dy dx cr) (lV:aJ kd) (lk:w.heap[eJ]? =some (.cells #[.slice aC aE aB,.slice aw abD av,.slice ay fe ax,I cn,sL dy cr dx,.slice iO rS jH] me (0,0))∧¬M eJ) (lj:bK cn cr=true):Calls aI 34 #[.pointer (some ⟨eJ,0,none⟩),I kd] w (cp fun v w'=>∃(k_:Int) (r_:Int) (a_:Int) (b_:Int) (o_:Int) (f_:Int) (s_:Int),v=.tuple #[.agg #[I k_,I r_,I a_,I b_,I o_,.slice none 0 0,I f_,I s_],.bool ((kh cn cr kd).isSome)]∧Ext w w'∧qE (kh cn cr kd) k_ r_ a_ b_ o_):=by
 refine dG 24 Tryz.func34 J J J hM fun f0 ha H=>?_
 let J0:=iL dy cr dx
 have H0:=H.put (it:=J0) J<|by rw[bP];exact nW
 let J1:=ro eJ #[.slice aC aE aB,.slice aw abD av,.slice ay fe ax,I cn,sL dy cr dx,.slice iO rS jH] me
 have H1:=H0.put (it:=J1) J<|by rw[aD rfl,bP];exact lk
 have i0:f0 0=pV eJ 0:=ha 0 bl
 have i1:f0 1=I kd:=ha 1 bl
 refine az<|k<|al H1 bT ?_
 intro aZ w0 bY (H2:HI M w w0 [box aZ #[I 0,I 0,I 0,I 0,I 0,.slice none 0 0,I 0,I 0] 33,J1,J0])
 let J2:=box aZ #[I 0,I 0,I 0,I 0,I 0,.slice none 0 0,I 0,I 0] 33
 refine ak (v:=.bool false) J J<|bz<|ai J i1<|k ?_
 have bS:=rl (kd:=kd) (w:=w0) lV
 refine ca FO J (ec J e0) bS ?_
 rintro _ w1 ⟨rfl,cT⟩
 have H3:=H2.ext cT
 refine k<|al H3 bT ?_
 intro aY w2 fk (H4:HI M w w2 [box aY #[I 0,I 0,I 0,I 0,I 0,.slice none 0 0,I 0,I 0] 33,J2,J1,J0])
 refine k<|bw H4 0 J bT J J J J J J J ?_
 let J3:=box aY #[I kd,I (-1),I (-1),I (-1),I (-1),.slice none 0 0,I (-1),I (-1)] 33
 intro w3 (H5:HI M w w3 [J3,J2,J1,J0])
 refine bz<|ai J i0<|k<|nc J J<|aQ xX J J<|k<|wj H5 2 J bp J J au J<|k ?_
 have cU:=yO (mn:=cn) (mr:=cr) H5.mb kA (H5.rv 3 J)<|by exact lj
 refine ca QD J (ec J e0) cU ?_
 rintro _ w4 ⟨rfl,fN⟩
 have H6:=H5.ext fN
 refine ai (v:=.tuple #[I (((cP cn cr).getD 0:Nat):Int),.bool ((cP cn cr).isSome)]) J J<|k<|xt J J J<|k<|xt J J J<|ak (v:=I (((cP cn cr).getD 0:Nat):Int)) J J<|ak (v:=.bool ((cP cn cr).isSome)) J J<|aq<|sq<|az<|ai (v:=.bool ((cP cn cr).isSome)) J J<|z<|nx<|cd (b:=(cP cn cr).isSome) J J (fun b0=>?_)<|fun b0=>?_
 ·
  refine rg<|ai (v:=I (((cP cn cr).getD 0:Nat):Int)) J J<|aQ ph J J<|k<|bw H6 0 J aT J J J J J J J ?_
  let J4:=box aY #[I kd,I (-1),I (-1),I (-1),I (((cP cn cr).getD 0:Nat):Int),.slice none 0 0,I (-1),I (-1)] 33
  intro w5 (H7:HI M w w5 [J4,J2,J1,J0])
  refine bz<|k<|cB H7 0 J bT J J au J<|ai (v:=.bool ((cP cn cr).isSome)) J J<|k<|bw H7 1 J bT J J J J J J J ?_
  intro w6 (H8:HI M w w6 [J4,box aZ #[I kd,I (-1),I (-1),I (-1),I (((cP cn cr).getD 0:Nat):Int),.slice none 0 0,I (-1),I (-1)] 33,J1,J0])
  refine ak (v:=.bool ((cP cn cr).isSome)) J J<|aq<|rt<|iH H8 1 J bT J J J J J au ?_
  have e8:((cP cn cr).isSome:Bool)=(kh cn cr kd).isSome:=by exact Cx
  have bu:=iK (fun (lM:Bool)=>(.tuple #[.agg #[I kd,I (-1),I (-1),I (-1),I (((cP cn cr).getD 0:Nat):Int),.slice none 0 0,I (-1),I (-1)],.bool lM]:Value)) e8
  exact⟨kd,(-1),(-1),(-1),(((cP cn cr).getD 0:Nat):Int),(-1),(-1),bu,H8.below,(by have h_:=(bQ lj).2.2.1;first|exact PM lV aj bo|exact PN lV bo)⟩
 refine sk<|cO<|k<|cB H6 0 J bT J J au J<|ai (v:=.bool ((cP cn cr).isSome)) J J<|k<|bw H6 1 J bT J J J J J J J ?_
 intro w5 (H7:HI M w w5 [J3,box aZ #[I kd,I (-1),I (-1),I (-1),I (-1),.slice none 0 0,I (-1),I (-1)] 33,J1,J0])
 refine ak (v:=.bool ((cP cn cr).isSome)) J J<|aq<|rt<|iH H7 1 J bT J J J J J au ?_
 have e8:((cP cn cr).isSome:Bool)=(kh cn cr kd).isSome:=by exact Cx
 have bu:=iK (fun (lM:Bool)=>(.tuple #[.agg #[I kd,I (-1),I (-1),I (-1),I (-1),.slice none 0 0,I (-1),I (-1)],.bool lM]:Value)) e8
 exact⟨kd,(-1),(-1),(-1),(-1),(-1),(-1),bu,H7.below,(by have h_:=(bQ lj).2.2.1;first|exact PM lV aj bo|exact PN lV bo)⟩
theorem MU (hM:eO M w) (hT:fU 0 w) (dL:cD M w aw av U) (gb:cD M w ay ax fo) (kA:aJ cn) (nW:cD M w dy dx cr) (lV:aJ kd) (lk:w.heap[eJ]? =some (.cells #[.slice aC aE aB,sL aw U av,sL ay fo ax,I cn,sL dy cr dx,.slice iO rS jH] me (0,0))∧¬M eJ) (ho:ig U) (dB:U.length≤64) (ez:fo.length=U.length) (fL:∀x∈fo,x<((U.length:Nat):Int)) (oH:cn=((U.length:Nat):Int)) (pS:cr=cu U fo):Calls aI 37 #[.pointer (some ⟨eJ,0,none⟩),I kd] w (cp fun v w'=>∃(k_:Int) (r_:Int) (a_:Int) (b_:Int) (o_:Int) (f_:Int) (s_:Int),v=.tuple #[.agg #[I k_,I r_,I a_,I b_,I o_,.slice none 0 0,I f_,I s_],.bool ((kh ((U.length:Nat):Int) (AK U fo) kd).isSome)]∧Ext w w'∧qE (kh ((U.length:Nat):Int) (AK U fo) kd) k_ r_ a_ b_ o_):=by
 refine dG 52 Tryz.func37 J J J hM fun f0 ha H=>?_
 let J0:=iL aw U av
 have H0:=H.put (it:=J0) J<|by rw[bP];exact dL
 let J1:=iL ay fo ax
 have H1:=H0.put (it:=J1) J<|by rw[aD rfl,bP];exact gb
 let J2:=iL dy cr dx
 have H2:=H1.put (it:=J2) J<|by rw[aD rfl,aD rfl,bP];exact nW
 have ja:=bj dL
 have kP:=bj gb
 have Bq:=bj nW
 let J3:=ro eJ #[.slice aC aE aB,sL aw U av,sL ay fo ax,I cn,sL dy cr dx,.slice iO rS jH] me
 have H3:=H2.put (it:=J3) J<|by rw[aD rfl,aD rfl,aD rfl,bP];exact lk
 have i0:f0 0=pV eJ 0:=ha 0 bl
 have i1:f0 1=I kd:=ha 1 bl
 have lj:bK cn cr=true:=by rw[oH,pS];exact pL fo aj
 refine az<|k<|al H3 bT ?_
 let ba:=[J3,J2,J1,J0]
 intro aZ w0 bY (H4:HI M w w0 (box aZ #[I 0,I 0,I 0,I 0,I 0,.slice none 0 0,I 0,I 0] 33::ba))
 let J4:=box aZ #[I 0,I 0,I 0,I 0,I 0,.slice none 0 0,I 0,I 0] 33
 refine ak (v:=.bool false) J J<|bz<|ai J i0<|k<|nc J J<|aQ xX J J<|k<|wj H4 1 J bp J J au J<|k<|al H4 bp ?_
 let bV:=J4::ba
 intro aY w1 cT (H5:HI M w w1 (box aY #[I 0,.slice none 0 0] 26::bV))
 refine k<|bw H5 0 J bp J J J J J J J ?_
 intro w2 (H6:HI M w w2 (box aY #[I cn,sL dy cr dx] 26::bV))
 refine aq<|sq<|sq<|TN J aS<|xq J<|kq (fun _ _=>mv J i0 e1)<|zq<|xq J<|kq (fun _ _=>nc J J e1)<|zq<|xq J<|kq (fun _ _=>fa r7 J J e1)<|zq<|xq J<|kq (fun _ x_=>wj (H6.ext x_) 2 J eh J J au J e1)<|zq<|xq J<|kq (fun _ _=>mv J i0 e1)<|zq<|xq J<|kq (fun _ _=>nc J J e1)<|zq<|xq J<|kq (fun _ _=>fa xX J J e1)<|zq<|xq J<|kq (fun _ x_=>wj (H6.ext x_) 2 J bp J J au J e1)<|zq<|xu (fun v w'=>∃(a0:OA) (c0:Nat),v=sL a0 (cK U fo cn cr) c0∧RV H6.fS w' (sL a0 (cK U fo cn cr) c0) (cK U fo cn cr)) J (by rintro _ _ _ x_ ⟨a0,c0,e_,d_⟩;exact⟨a0,c0,e_,d_.lift (Up.ext x_)⟩) J (fun v_ x_=>have cU:=uV (U:=U) (fo:=fo) (mn:=cn) (mr:=cr) (aC:=aC) (aE:=aE) (aB:=aB) (w:=v_) (H6.ext x_).mb (hT.ext (H6.ext x_).below) ((H6.ext x_).rv 5 rfl) ((H6.ext x_).rv 4 rfl) kA ((H6.ext x_).rv 3 rfl) aj (by exact ez) (by exact fL) (by exact lj);ca QC rfl (ec J<|ec J e0) cU (fun _ w4 ⟨a1,c1,e_,fN,dZ⟩=>⟨_,J,fN,⟨a1,c1,e_,(bm.rv dZ (H6.ext x_).mb)⟩⟩))<|xk1 (X:=I ((cK U fo cn cr).length:Int)) 0 J J (fun _ _ _ h_=>let ⟨a3,c3,s0,jS⟩:=h_;dD rfl s0 ey e1)<|xq J<|kq (fun _ _=>mv (v:=I 0) J J e1)<|zq<|zx ?_
 intro w5 f0 iP cx iJ
 have cM:=H6.ext iP
 have s1:=(cx 1 J).trans i1
 have s2:=cx 4 J
 have s3:=cx 6 J
 obtain⟨a4,c4,s4,je⟩:=iJ 0 _ _ rfl
 let J5:=iL a4 (cK U fo cn cr) c4
 have dU:=cM.put (it:=J5) J je
 have s5:=cx 25 J
 have s6:=cx 26 J
 refine nx<|bk ?_
 have dt:=dU.put (it:=J2) J<|dU.rv 4 J
 refine lp (fun m f w'=>∃(q_:Nat) (fV:Int) (fK:List (List bt)) (a5:OA) (c5:Nat),m=(cK U fo cn cr).length-q_∧f 1=I kd∧f 4=pV aZ 0∧f 6=pV aY 0∧f 24=sL a4 (cK U fo cn cr) c4∧f 25=I ((cK U fo cn cr).length:Int)∧f 26=I (q_:Int)∧HI M w w' (iL a5 fK c5::J5::box aY #[I fV,sL a5 fK c5] 26::bV)∧(q_≤(cK U fo cn cr).length)∧(fV=cn∧fK=l_ cn cr ((cK U fo cn cr).take q_))) _ ⟨0,cn,cr,dy,dx,J,s1,s2,s3,s4,s5,(bG s6),dt,aj,(by exact⟨J,J⟩)⟩ ?_
 rintro _ f1 w6 ⟨q_,fV,fK,a5,c5,rfl,s7,s8,s9,eu,fb,fu,cR,sU,oC⟩
 refine sq ?_
 have OW:=ri (U:=U) (fo:=fo) lj;have Qw:=OW.1
 have sE:=Yz ez fL oH pS OW
 refine rg<|k<|lss J J fu fb<|aq<|sq<|cd (b:=decide ((q_:Int)<((cK U fo cn cr).length:Int))) J J (fun b0=>?_)<|fun b0=>?_
 ·
  have p0:=dT b0
  refine sk<|nx<|sq<|bk<|az<|k<|ia (cR.rv 1 J) J J eu fu aj ey cL ?_
  intro iE x0 aM cz
  refine k<|nF cz.w cL J J ?_
  intro v0 lh
  obtain⟨_,⟨_,_,rfl,⟨rfl,oE⟩,⟨_,_,rfl,⟨rfl,nE⟩,⟨rfl,rP⟩⟩⟩,rfl⟩:=lh
  refine k<|al cR cL ?_
  let dz:=iL a5 fK c5::J5::box aY #[I fV,sL a5 fK c5] 26::bV
  intro bJ w7 jc (dI:HI M w w7 (box bJ #[I 0,I 0,I 0] 122::dz))
  refine k<|bw dI 0 J cL J J J J J J J ?_
  intro w8 (dw:HI M w w8 (box bJ #[I x0.1,I x0.2.1,I x0.2.2] 122::dz))
  refine aq<|rg<|k<|cB dw 3 J bp J s9 au J<|aQ kR J J<|bq dw 0 J aT J J J<|aQ mZ J J<|bq dw 0 J aT J J J<|k ?_
  have fP:=FC (mn:=fV) (mr:=fK) (i:=x0.1) (j:=x0.2.1) dw.mb aR (dw.rv 1 J) oE nE<|by exact TU aj oH pS sE oC
  refine ca V3 J (ec J<|ec J<|ec J e0) fP ?_
  rintro _ w9 ⟨a6,c6,rfl,jK,oU⟩
  have cE:=dw.ext jK
  let J6:=iL a6 (ic fV fK x0.1 x0.2.1) c6
  have df:=cE.put (it:=J6) J oU
  refine ai (v:=.tuple #[.agg #[I (ir fV x0.1 x0.2.1),sL a6 (ic fV fK x0.1 x0.2.1) c6],I (lI fV x0.1 x0.2.1)]) J J<|k<|xt J J J<|k<|xt J J J<|k<|bw df 4 J bp J J s9 J J J J ?_
  let J7:=box aY #[I (ir fV x0.1 x0.2.1),sL a6 (ic fV fK x0.1 x0.2.1) c6] 26
  intro dM (dH:HI M w dM (J6::box bJ #[I x0.1,I x0.2.1,I x0.2.2] 122::iL a5 fK c5::J5::J7::bV))
  refine z<|aG<|nx<|rg<|k<|add J J fu J aR<|ai (v:=I ((q_:Int)+1)) J J<|z ?_
  have eP:=dH.put (it:=J6) J<|dH.rv 0 J
  have ff:HI M w dM (J6::J5::J7::bV):=eP.bX [0,4,5,6,7,8,9,10] au J
  refine bF _ ?_ ⟨(q_+1),(ir fV x0.1 x0.2.1),(ic fV fK x0.1 x0.2.1),a6,c6,J,s7,s8,s9,eu,fb,(bG J),ff,aj,(by exact BT oC aM (K1 oH sE aM))⟩
  omega
 have p0:=dF b0
 refine ex<|aV<|bc<|bg<|cO<|ai J s7<|k ?_
 have fP:=rl (kd:=kd) (w:=w6) lV
 refine ca FO J (ec J e0) fP ?_
 rintro _ w7 ⟨rfl,jc⟩
 have dI:=cR.ext jc
 refine k<|al dI bT ?_
 let J8:=box aY #[I fV,sL a5 fK c5] 26
 let iW:=iL a5 fK c5::J5::J8::bV
 intro bJ w8 jK (dw:HI M w w8 (box bJ #[I 0,I 0,I 0,I 0,I 0,.slice none 0 0,I 0,I 0] 33::iW))
 refine k<|bw dw 0 J bT J J J J J J J ?_
 let J9:=box bJ #[I kd,I (-1),I (-1),I (-1),I (-1),.slice none 0 0,I (-1),I (-1)] 33
 intro w9 (cE:HI M w w9 (J9::iW))
 refine aq<|sq ?_
 have B3:=adU ez fL oH pS OW oC aj
 refine rg<|k<|cB cE 3 J bp J s9 au J<|k ?_
 have eZ:=yO (mn:=fV) (mr:=fK) cE.mb aR (cE.rv 1 J)<|by exact TU aj oH pS sE oC
 refine ca QD J (ec J e0) eZ ?_
 rintro _ dM ⟨rfl,lC⟩
 have df:=cE.ext lC
 refine ai (v:=.tuple #[I (((cP fV fK).getD 0:Nat):Int),.bool ((cP fV fK).isSome)]) J J<|k<|xt J J J<|k<|xt J J J<|ak (v:=I (((cP fV fK).getD 0:Nat):Int)) J J<|ak (v:=.bool ((cP fV fK).isSome)) J J<|aq<|sq<|az<|ai (v:=.bool ((cP fV fK).isSome)) J J<|z<|nx<|cd (b:=(cP fV fK).isSome) J J (fun b1=>?_)<|fun b1=>?_
 ·
  refine rg<|ai (v:=I (((cP fV fK).getD 0:Nat):Int)) J J<|aQ ph J J<|k<|bw df 0 J aT J J J J J J J ?_
  let dR:=box bJ #[I kd,I (-1),I (-1),I (-1),I (((cP fV fK).getD 0:Nat):Int),.slice none 0 0,I (-1),I (-1)] 33
  intro ee (dH:HI M w ee (dR::iW))
  refine bz<|k<|cB dH 0 J bT J J au J<|ai (v:=.bool ((cP fV fK).isSome)) J J<|k<|bw dH 4 J bT J J s8 J J J J ?_
  intro ft (eP:HI M w ft (dR::iL a5 fK c5::J5::J8::box aZ #[I kd,I (-1),I (-1),I (-1),I (((cP fV fK).getD 0:Nat):Int),.slice none 0 0,I (-1),I (-1)] 33::ba))
  refine ak (v:=.bool ((cP fV fK).isSome)) J J<|aq<|rt<|iH eP 4 J bT J J J s8 J au ?_
  have e8:((cP fV fK).isSome:Bool)=(kh ((U.length:Nat):Int) (AK U fo) kd).isSome:=by exact Og B3
  have bu:=iK (fun (lM:Bool)=>(.tuple #[.agg #[I kd,I (-1),I (-1),I (-1),I (((cP fV fK).getD 0:Nat):Int),.slice none 0 0,I (-1),I (-1)],.bool lM]:Value)) e8
  exact⟨kd,(-1),(-1),(-1),(((cP fV fK).getD 0:Nat):Int),(-1),(-1),bu,eP.below,(by exact abh B3 lV aj bo)⟩
 refine sk<|cO<|k<|cB df 0 J bT J J au J<|ai (v:=.bool ((cP fV fK).isSome)) J J<|k<|bw df 4 J bT J J s8 J J J J ?_
 intro ee (dH:HI M w ee (J9::iL a5 fK c5::J5::J8::box aZ #[I kd,I (-1),I (-1),I (-1),I (-1),.slice none 0 0,I (-1),I (-1)] 33::ba))
 refine ak (v:=.bool ((cP fV fK).isSome)) J J<|aq<|rt<|iH dH 4 J bT J J J s8 J au ?_
 have e8:((cP fV fK).isSome:Bool)=(kh ((U.length:Nat):Int) (AK U fo) kd).isSome:=by exact Og B3
 have bu:=iK (fun (lM:Bool)=>(.tuple #[.agg #[I kd,I (-1),I (-1),I (-1),I (-1),.slice none 0 0,I (-1),I (-1)],.bool lM]:Value)) e8
 exact⟨kd,(-1),(-1),(-1),(-1),(-1),(-1),bu,dH.below,(by exact abi B3 lV bo)⟩
theorem V4:cA aI 63:=cI Tryz.func63
theorem pW:gR aI 33 2 2:=jU Tryz.underlying33
theorem DD {abE:Nat} (hM:eO M w) (hT:fU 0 w) (dL:cD M w aw av U) (kA:aJ cn) (ga:aJ mn) (gv:cD M w bD bC mr) (GZ:aJ fD) (lk:w.heap[eJ]? =some (.cells #[.slice aC aE aB,sL aw U av,.slice ay fe ax,I cn,.slice dy abE dx,.slice iO rS jH] me (0,0))∧¬M eJ) (bZ:bK mn mr=true) (ah9:0≤fD∧fD<((U.length:Nat):Int)):Calls aI 63 #[.pointer (some ⟨eJ,0,none⟩),.agg #[I mn,sL bD mr bC],I fD] w (cp fun v w'=>∃(a0:OA) (c0:Nat),v=.slice a0 (dq U mn mr fD).length c0∧Ext w w'∧RV (fun b=>b<w.heap.size) w' (.slice a0 (dq U mn mr fD).length c0) (dq U mn mr fD)):=by
 refine dG 24 Tryz.func63 J J J hM fun f0 ha H=>?_
 have H0:=eG H dL
 have H1:=eG H0 gv
 let J0:=ro eJ #[.slice aC aE aB,sL aw U av,.slice ay fe ax,I cn,.slice dy abE dx,.slice iO rS jH] me
 have H2:=H1.put (it:=J0) J<|by rw[aD rfl,aD rfl,bP];exact lk
 have i0:f0 0=pV eJ 0:=ha 0 bl
 have i1:f0 1=.agg #[I mn,sL bD mr bC]:=ha 1 bl
 have i2:f0 2=I fD:=ha 2 bl
 refine az<|k<|bx H2 J i1 ?_
 intro aZ w0 bY (H3:HI M w w0 [box aZ #[I mn,sL bD mr bC] 26,J0,iL bD mr bC,iL aw U av])
 refine ak (v:=.slice none 0 0) J J<|aq<|sq<|TN J aS<|xq J<|kq (fun _ _=>mv J i0 e1)<|zq<|xq J<|kq (fun _ _=>nc J J e1)<|zq<|xq J<|kq (fun _ _=>fa r7 J J e1)<|zq<|xq J<|kq (fun _ x_=>wj (H3.ext x_) 1 J eh J J au J e1)<|zq<|xq J<|kq (fun _ x_=>cB (H3.ext x_) 0 J bp J J au J e1)<|zq<|xq J<|kq (fun _ _=>mv J i2 e1)<|zq<|xu (fun v w'=>∃(a0:OA) (c0:Nat),v=sL a0 (eY mn mr fD) c0∧RV (fun c_=>c_<w0.heap.size) w' (sL a0 (eY mn mr fD) c0) (eY mn mr fD)) J (by rintro _ _ _ x_ ⟨a0,c0,e_,d_⟩;exact⟨a0,c0,e_,d_.lift (Up.ext x_)⟩) J (fun v_ x_=>have cU:=On (mn:=mn) (mr:=mr) (o:=fD) (w:=v_) (H3.ext x_).mb (hT.ext (H3.ext x_).below) ga ((H3.ext x_).rv 2 rfl) GZ (by exact bZ);ca Yq rfl (ec J<|ec J e0) cU (fun _ w2 ⟨a1,c1,e_,fk,dZ⟩=>⟨_,J,fk,⟨a1,c1,e_,(bm.rvN dZ x_)⟩⟩))<|xq J<|kq (fun _ _=>mv J i0 e1)<|zq<|xq J<|kq (fun _ _=>nc J J e1)<|zq<|xq J<|kq (fun _ _=>fa r7 J J e1)<|zq<|xq J<|kq (fun _ _=>fa fG J J e1)<|zq<|xq J<|kq (fun _ x_=>lr (H3.ext x_) 1 J jh J J J e1)<|zq<|xq J<|kq (fun _ _=>mv J i2 e1)<|zq<|xq J<|rQ (H3.rv 3 J) J J J J aj jA jE ?_
 intro iE x0 aM cz
 refine zq<|xq J<|kq (fun _ _=>fa tO J J e1)<|zq<|xq J<|ob ((cz).s3).fst.w aT J J ?_
 intro iT
 refine zq<|xu1 (fun v w'=>∃(a3:OA) (c3:Nat),v=sL a3 (aX (iQ U x0.2.2.2.1)<|eY mn mr fD) c3∧RV (fun c_=>c_<w0.heap.size) w' (sL a3 (aX (iQ U x0.2.2.2.1)<|eY mn mr fD) c3) (aX (iQ U x0.2.2.2.1)<|eY mn mr fD)) 0 J J (by rintro _ _ _ x_ ⟨a3,c3,e_,lh⟩;exact⟨a3,c3,e_,lh.lift (Up.ext x_)⟩) J (fun v_ _ x_ h_=>let ⟨a4,c4,s0,oE⟩:=h_;have dU:=(H3.ext x_).put (it:=iL a4 (eY mn mr fD) c4) rfl (Ld oE H3);have eZ:=Er (U:=U) (l:=(eY mn mr fD)) (vr:=x0.2.2.2.1) (aC:=aC) (aE:=aE) (aB:=aB) (ay:=ay) (fe:=fe) (ax:=ax) dU.mb (dU.rv 4 J) (dU.rv 0 J) iT (by have h_:=u9 bZ fD;omega);ca adi rfl (ec J<|ec s0<|ec J e0) eZ (fun _ w4 ⟨a5,c5,e_,iP,nE⟩=>⟨_,J,iP,⟨a5,c5,e_,(bm.rvN nE x_)⟩⟩))<|xu1 (fun v w'=>∃(a6:OA) (c6:Nat),v=sL a6 (aX (iQ U x0.2.2.2.1)<|eY mn mr fD) c6∧RV (fun c_=>c_<w0.heap.size) w' (sL a6 (aX (iQ U x0.2.2.2.1)<|eY mn mr fD) c6) (aX (iQ U x0.2.2.2.1)<|eY mn mr fD)) 0 J J (by rintro _ _ _ x_ ⟨a6,c6,e_,oU⟩;exact⟨a6,c6,e_,oU.lift (Up.ext x_)⟩) J (fun _ _ _ h_=>let ⟨a7,c7,s1,nR⟩:=h_;jO rfl s1 ⟨_,J,Ext.refl _,⟨a7,c7,J,nR⟩⟩)<|zx ?_
 intro w5 f0 jc cx iJ
 have df:=H3.ext jc
 obtain⟨a8,c8,s2,qN⟩:=iJ 0 _ _ rfl
 have dH:=df.put (it:=iL a8 (aX (iQ U x0.2.2.2.1)<|eY mn mr fD) c8) J<|Ld qN H3
 refine nx<|rt<|r1 J J ?_
 rw[s2]
 have e0:(aX (iQ U x0.2.2.2.1) (eY mn mr fD):aA)=dq U mn mr fD:=by simp only[dq,qq,aM,BL]
 have bu:=iK (fun (cg:aA)=>(.slice a8 cg.length c8:Value)) e0
 exact⟨a8,c8,bu,dH.below,(am_ (fun (x_:aA)=>RV _ _ (.slice a8 x_.length c8) x_) e0).mp (aa9 qN H3)⟩
theorem Ua (hM:eO M w) (hT:fU 0 w) (dL:cD M w aw av U) (gb:cD M w ay ax fo) (kA:aJ cn) (nW:cD M w dy dx cr) (lV:aJ kd) (lk:w.heap[eJ]? =some (.cells #[.slice aC aE aB,sL aw U av,sL ay fo ax,I cn,sL dy cr dx,.slice iO rS jH] me (0,0))∧¬M eJ) (lj:bK cn cr=true) (ez:fo.length=U.length):Calls aI 35 #[.pointer (some ⟨eJ,0,none⟩),I kd] w (cp fun v w'=>∃(k_:Int) (r_:Int) (a_:Int) (b_:Int) (o_:Int) (f_:Int) (s_:Int),v=.tuple #[.agg #[I k_,I r_,I a_,I b_,I o_,.slice none 0 0,I f_,I s_],.bool ((qo U fo cn cr kd).isSome)]∧Ext w w'∧qE (qo U fo cn cr kd) k_ r_ a_ b_ o_):=by
 refine dG 44 Tryz.func35 J J J hM fun f0 ha H=>?_
 let J0:=iL aw U av
 have H0:=H.put (it:=J0) J<|by rw[bP];exact dL
 let J1:=iL ay fo ax
 have H1:=H0.put (it:=J1) J<|by rw[aD rfl,bP];exact gb
 let J2:=iL dy cr dx
 have H2:=H1.put (it:=J2) J<|by rw[aD rfl,aD rfl,bP];exact nW
 have ja:=bj dL
 have kP:=bj gb
 have Bq:=bj nW
 let J3:=ro eJ #[.slice aC aE aB,sL aw U av,sL ay fo ax,I cn,sL dy cr dx,.slice iO rS jH] me
 have H3:=H2.put (it:=J3) J<|by rw[aD rfl,aD rfl,aD rfl,bP];exact lk
 have i0:f0 0=pV eJ 0:=ha 0 bl
 have i1:f0 1=I kd:=ha 1 bl
 refine az<|k<|al H3 bT ?_
 let ba:=[J3,J2,J1,J0]
 intro aZ w0 bY (H4:HI M w w0 (box aZ #[I 0,I 0,I 0,I 0,I 0,.slice none 0 0,I 0,I 0] 33::ba))
 let J4:=box aZ #[I 0,I 0,I 0,I 0,I 0,.slice none 0 0,I 0,I 0] 33
 refine ak (v:=.bool false) J J<|aq<|sq<|az<|ai J i0<|k<|nc J J<|aQ r7 J J<|aQ tR J J<|k<|lr H4 1 J qJ J J J<|k<|dD J J cG<|ai (v:=I 0) J J<|aq<|bk ?_
 let bV:=J4::ba
 refine lp (fun m f w'=>∃(j_:Nat),m=fo.length-j_∧f 0=pV eJ 0∧f 1=I kd∧f 4=pV aZ 0∧f 14=sL ay fo ax∧f 15=I (fo.length:Int)∧f 16=I (j_:Int)∧HI M w w' bV∧(j_≤fo.length)∧(∀q,q<j_→vF U fo cn cr q=false)) _ ⟨0,J,i0,i1,J,J,J,(bG J),H4,aj,(by intro q h;omega)⟩ ?_
 rintro _ f0 w1 ⟨j_,rfl,s0,s1,s2,s3,s4,s5,H5,pA,hs⟩
 refine az<|k<|lss J J s5 s4<|aq<|sq<|cd (b:=decide ((j_:Int)<(fo.length:Int))) J J (fun b0=>?_)<|fun b0=>?_
 ·
  have p0:=dT b0
  refine sk<|nx<|sq<|bk<|az<|ai J s5<|k<|ia (H5.rv 3 J) J J s3 s5 aj cG aT ?_
  intro iE x0 aM cz
  refine k<|mw cz.w aT J J ?_
  intro cw
  refine ak (v:=I (j_:Int)) J J<|ak (v:=I x0) J J<|aq<|sq<|az<|ai (v:=I x0) J J<|k<|neq J J J J<|z<|nx<|cd (b:=!decide (x0=(-1))) J J (fun b1=>?_)<|fun b1=>?_
  ·
   have p1:=dF<|gl b1
   refine ex<|aV<|bg<|nx<|rg<|k<|add J J s5 J aR<|ai (v:=I ((j_:Int)+1)) J J<|z<|bF _ ?_ ⟨(j_+1),J,s0,s1,s2,s3,s4,(bG J),H5,aj,(by exact sG hs (by simp only[vF,jt aM,b0,(gl b1),BL]))⟩
   omega
  have p1:=dT<|fA b1
  refine sk<|cO<|ai J s0<|ai J s0<|k<|nc J J<|aQ xX J J<|k<|wj H5 1 J bp J J au J<|ai (v:=I (j_:Int)) J J<|k ?_
  have bS:=DD (U:=U) (cn:=cn) (mn:=cn) (mr:=cr) (fD:=(j_:Int)) H5.mb (hT.ext H5.below) (H5.rv 4 J) kA kA (H5.rv 2 J) aR (H5.at_ 1 J) (by exact lj) aj
  refine ca V4 J (ec J<|ec J<|ec J e0) bS ?_
  rintro _ w2 ⟨a0,c0,rfl,cT,d_⟩
  have H6:=H5.ext cT
  have dZ:=(d_.lift<|Up.less fun b _ hb=>H5.mb b hb)
  let J5:=iL a0 (dq U cn cr (j_:Int)) c0
  have H7:=H6.put (it:=J5) J dZ
  refine ak (v:=sL a0 (dq U cn cr (j_:Int)) c0) J J<|bz<|ai (v:=sL a0 (dq U cn cr (j_:Int)) c0) J J<|k<|dD J J cG<|k<|gtr J J J J<|z<|nx<|cd (b:=decide (0<((dq U cn cr (j_:Int)).length:Int))) J J (fun b2=>?_)<|fun b2=>?_
  ·
   have p2:=dT b2
   refine az<|ai J s1<|k ?_
   have cU:=rl (kd:=kd) (w:=w2) lV
   refine ca FO J (ec J e0) cU ?_
   rintro _ w3 ⟨rfl,fk⟩
   have H8:=H7.ext fk
   refine k<|al H8 bT ?_
   let dz:=J5::bV
   intro aY w4 fN (H9:HI M w w4 (box aY #[I 0,I 0,I 0,I 0,I 0,.slice none 0 0,I 0,I 0] 33::dz))
   refine k<|bw H9 0 J bT J J J J J J J ?_
   let J6:=box aY #[I kd,I (-1),I (-1),I (-1),I (-1),.slice none 0 0,I (-1),I (-1)] 33
   intro w5 (dO:HI M w w5 (J6::dz))
   refine aq<|sq ?_
   obtain⟨x1,cQ⟩:∃x,(dq U cn cr (j_:Int))[(0:Int).toNat]? =some x:=⟨_,eI aj⟩
   have cM:HI M w w5 [J5,J4,J3,J2,J1,J0,J6]:=dO.bX [1,2,3,4,5,6,0] au J
   let J7:=box aY #[I kd,I (j_:Int),I (-1),I (-1),I (-1),.slice none 0 0,I (-1),I (-1)] 33
   let J8:=box aY #[I kd,I (j_:Int),I x1,I (-1),I (-1),.slice none 0 0,I (-1),I (-1)] 33
   refine Wi [none,none,none,none,none,some 7,none,none,some 5] [0,0,2,6,1,17,63,127] [fun _=>[],fun _=>[],fun v_=>[rm (vP v_) x1],fun _=>[],fun _=>[],fun v_=>[J7],fun _=>[],fun v_=>[J8],fun _=>[J6]] [[],[],[],[2],[],[8],[],[5]] [fun v_=>v_=I (j_:Int),fun v_=>v_=sL a0 (dq U cn cr (j_:Int)) c0,fun v_=>∃(rK:Addr),v_=.pointer (some rK),fun v_=>v_=I x1∧aJ (x1),fun v_=>v_=pV aY 1,fun _=>True,fun v_=>v_=pV aY 2,fun _=>True] [J5,J4,J3,J2,J1,J0] J aS J cM ?_ ?_
   ·
    refine⟨fun f1 w8 V_ eC kD hp0 hq0 dU=>?_,?_⟩
    ·
     have dt:HI M w w8 (dz++eC):=(by have h_:HI M w w8 (dz++(eC)):=dU;exact h_)
     refine mv J (kD 6 J) ?_
     exact⟨_,J,J,dt⟩
    refine⟨fun f2 w9 V_ eC GS Jd I_ dI=>?_,?_⟩
    ·
     have dw:HI M w w9 (dz++eC):=(by have h_:HI M w w9 (dz++(eC)):=dI;exact h_)
     refine mv J (GS 8 J) ?_
     exact⟨_,J,J,dw⟩
    refine⟨fun f3 dM V_ eC gK SN nI df=>?_,?_⟩
    ·
     obtain⟨e0,q0⟩:=SN 1 _ rfl rfl rfl
     have e1:V_ 1=sL a0 (dq U cn cr (j_:Int)) c0:=q0
     have s6:f3 36=sL a0 (dq U cn cr (j_:Int)) c0:=e0.trans e1
     have dH:HI M w dM (dz++eC):=(by have h_:HI M w dM (dz++(eC)):=df;exact h_)
     refine ia (dH.rv 0 J) J J s6 J aj cG aT ?_
     intro pZ x2 jf kV
     obtain rfl:x1=x2:=ana (cQ.symm.trans jf)
     have eP:=dH.put (it:=rm pZ x1) J kV
     have ff:HI M w dM ((rm pZ x1::dz)++eC):=eP
     have gr:=HI.aP (l:=(rm pZ x1::dz)) (l':=[J5,J4,J3,J2,J1,J0,rm pZ x1]) (t:=eC) ff [1,2,3,4,5,6,0] au J J
     exact⟨_,J,⟨pZ,J⟩,gr⟩
    refine⟨fun f4 ee V_ eC Au yP EB iy=>?_,?_⟩
    ·
     obtain⟨e2,q1⟩:=yP 2 _ rfl rfl rfl
     obtain⟨vI,e3⟩:∃(vI:Addr),V_ 2=.pointer (some vI):=q1
     have s7:f4 37=.pointer (some vI):=e2.trans e3
     have iS:HI M w ee ([iL a0 (dq U cn cr (j_:Int)) c0,box aZ #[I 0,I 0,I 0,I 0,I 0,.slice none 0 0,I 0,I 0] 33,ro eJ #[.slice aC aE aB,sL aw U av,sL ay fo ax,I cn,sL dy cr dx,.slice iO rS jH] me,iL dy cr dx,iL ay fo ax,iL aw U av,rm vI x1]++eC):=(by have h_:HI M w ee ([iL a0 (dq U cn cr (j_:Int)) c0,box aZ #[I 0,I 0,I 0,I 0,I 0,.slice none 0 0,I 0,I 0] 33,ro eJ #[.slice aC aE aB,sL aw U av,sL ay fo ax,I cn,sL dy cr dx,.slice iO rS jH] me,iL dy cr dx,iL ay fo ax,iL aw U av]++([rm (vP<|V_ 2) x1]++(eC))):=iy;rw[e3] at h_;exact h_)
     refine mw (iS.atv 6 J).w aT J s7 ?_
     intro iT
     exact⟨_,J,⟨J,iT⟩,(by have h_:=iS;rw[show (vI:Addr)=(vP<|V_ 2) from by rw[e3]<;>rfl] at h_;exact h_)⟩
    refine⟨fun f5 ft V_ eC XN ED EA iw=>?_,?_⟩
    ·
     have qa:HI M w ft (dz++eC):=(by have h_:HI M w ft (dz++(eC)):=iw;exact h_)
     refine fa r8 J (XN 9 J) ?_
     exact⟨_,J,J,qa⟩
    refine⟨fun f6 ij V_ eC hs5 OT hq5 nP=>?_,?_⟩
    ·
     obtain⟨e4,q2⟩:=OT 0 _ rfl rfl rfl
     have e5:V_ 0=I (j_:Int):=q2
     have s8:f6 35=I (j_:Int):=e4.trans e5
     obtain⟨e6,q3⟩:=OT 4 _ rfl rfl rfl
     have e7:V_ 4=pV aY 1:=q3
     have s9:f6 39=pV aY 1:=e6.trans e7
     have jX:HI M w ij ([J5,J4,J3,J2,J1,J0,J6]++eC):=(by have h_:HI M w ij (dz++([J6]++(eC))):=nP;exact h_)
     refine bw jX 6 J aT J J s9 s8 J J J ?_
     intro jv (rp:HI M w jv ([J5,J4,J3,J2,J1,J0,J7]++eC))
     exact⟨undef,J,trivial,rp⟩
    refine⟨fun f7 nB V_ eC hs6 Jc hq6 AT=>?_,?_⟩
    ·
     have kg:HI M w nB (dz++eC):=(by have h_:HI M w nB (dz++(eC)):=AT;exact h_)
     refine fa pW J (hs6 9 J) ?_
     exact⟨_,J,J,kg⟩
    refine⟨fun f8 rE V_ eC hs7 Jb hq7 mc=>?_,?_⟩
    ·
     obtain⟨e8,q4⟩:=Jb 3 _ rfl rfl rfl
     obtain⟨e9,jS⟩:V_ 3=I x1∧aJ (x1):=q4
     have eu:f8 38=I x1:=e8.trans e9
     obtain⟨TL,q5⟩:=Jb 6 _ rfl rfl rfl
     have sc:V_ 6=pV aY 2:=q5
     have fb:f8 40=pV aY 2:=TL.trans sc
     have tW:HI M w rE ([J5,J4,J3,J2,J1,J0,J7]++eC):=(by have h_:HI M w rE (dz++([J7]++(eC))):=mc;exact h_)
     refine bw tW 6 J aT J J fb eu J J J ?_
     intro tn (rN:HI M w tn ([J5,J4,J3,J2,J1,J0,J8]++eC))
     exact⟨undef,J,trivial,rN⟩
    exact trivial
   ·
    intro f9 uY V_ XM B6 qG
    obtain⟨ta,q6⟩:=B6 2 _ rfl rfl
    obtain⟨uo,r9⟩:∃(uo:Addr),V_ 2=.pointer (some uo):=q6
    have fl:=(XM 4 J).trans s2
    have gi:f9 9=pV aY 0:=XM 9 J
    have YL:HI M w uY [iL a0 (dq U cn cr (j_:Int)) c0,box aZ #[I 0,I 0,I 0,I 0,I 0,.slice none 0 0,I 0,I 0] 33,ro eJ #[.slice aC aE aB,sL aw U av,sL ay fo ax,I cn,sL dy cr dx,.slice iO rS jH] me,iL dy cr dx,iL ay fo ax,iL aw U av,rm uo x1,box aY #[I kd,I (j_:Int),I x1,I (-1),I (-1),.slice none 0 0,I (-1),I (-1)] 33]:=(by have h_:HI M w uY ([iL a0 (dq U cn cr (j_:Int)) c0,box aZ #[I 0,I 0,I 0,I 0,I 0,.slice none 0 0,I 0,I 0] 33,ro eJ #[.slice aC aE aB,sL aw U av,sL ay fo ax,I cn,sL dy cr dx,.slice iO rS jH] me,iL dy cr dx,iL ay fo ax,iL aw U av]++([]++([]++([rm (vP<|V_ 2) x1]++([]++([]++([]++([box aY #[I kd,I (j_:Int),I x1,I (-1),I (-1),.slice none 0 0,I (-1),I (-1)] 33]++([]))))))))):=qG;rw[r9] at h_;exact h_)
    refine cO<|k<|cB YL 7 J bT J gi au J<|k<|bw YL 1 J bT J J fl J J J J ?_
    intro yr (JR:HI M w yr [J5,box aZ #[I kd,I (j_:Int),I x1,I (-1),I (-1),.slice none 0 0,I (-1),I (-1)] 33,J3,J2,J1,J0,rm uo x1,J8])
    refine ak (v:=.bool true) J J<|aq<|rt<|bR<|aK<|dX<|bR<|aK ?_
    have qY:=D6 (n:=fo.length) hs aj<|show vF U fo cn cr j_=true by simp only[vF,jt aM,cQ,b0,(fA b1),b2,BL]
    refine iH JR 1 J bT J J J fl J au ?_
    have e8:(true:Bool)=(qo U fo cn cr kd).isSome:=by exact adI qY
    have bu:=iK (fun (lM:Bool)=>(.tuple #[.agg #[I kd,I (j_:Int),I x1,I (-1),I (-1),.slice none 0 0,I (-1),I (-1)],.bool lM]:Value)) e8
    exact⟨kd,(j_:Int),x1,(-1),(-1),(-1),(-1),bu,JR.below,(by exact af2 lV qY aj cQ (M8 lj cQ))⟩
  have p2:=dF b2
  refine sk<|aG<|nx<|rg<|k<|add J J s5 J aR<|ai (v:=I ((j_:Int)+1)) J J<|z ?_
  have H8:HI M w w2 bV:=H7.bX [1,2,3,4,5] au J
  refine bF _ ?_ ⟨(j_+1),J,s0,s1,s2,s3,s4,(bG J),H8,aj,(by exact sG hs (by simp only[vF,jt aM,b0,(fA b1),b2,BL]))⟩
  omega
 have p0:=dF b0
 refine ex<|aV<|bc<|bg<|cO<|k<|bd (v:=.agg #[I 0,I 0,I 0,I 0,I 0,.slice none 0 0,I 0,I 0]) J ew (fun _=>aS)<|k<|bw H5 0 J bT J J s2 J J J J ?_
 intro w2 (H6:HI M w w2 bV)
 refine ak (v:=.bool false) J J<|aq<|rt ?_
 have qY:AI U fo cn cr=none:=BG hs aj
 refine iH H6 0 J bT J J J s2 J au ?_
 have e8:(false:Bool)=(qo U fo cn cr kd).isSome:=by rw[TG qY];rfl
 have bu:=iK (fun (lM:Bool)=>(.tuple #[.agg #[I 0,I 0,I 0,I 0,I 0,.slice none 0 0,I 0,I 0],.bool lM]:Value)) e8
 exact⟨0,0,0,0,0,0,0,bu,H6.below,(by exact uv (TG qY) NZ)⟩
theorem G':gR aI 33 3 3:=jU Tryz.underlying33
theorem NT (hM:eO M w) (hT:fU 0 w) (dL:cD M w aw av U) (gb:cD M w ay ax fo) (kA:aJ cn) (nW:cD M w dy dx cr) (lV:aJ kd) (lk:w.heap[eJ]? =some (.cells #[.slice aC aE aB,sL aw U av,sL ay fo ax,I cn,sL dy cr dx,.slice iO rS jH] me (0,0))∧¬M eJ) (lj:bK cn cr=true) (ez:fo.length=U.length):Calls aI 36 #[.pointer (some ⟨eJ,0,none⟩),I kd] w (cp fun v w'=>∃(k_:Int) (r_:Int) (a_:Int) (b_:Int) (o_:Int) (f_:Int) (s_:Int),v=.tuple #[.agg #[I k_,I r_,I a_,I b_,I o_,.slice none 0 0,I f_,I s_],.bool ((qp U fo cn cr kd).isSome)]∧Ext w w'∧qE (qp U fo cn cr kd) k_ r_ a_ b_ o_):=by
 refine dG 60 Tryz.func36 J J J hM fun f0 ha H=>?_
 let J0:=iL aw U av
 have H0:=H.put (it:=J0) J<|by rw[bP];exact dL
 let J1:=iL ay fo ax
 have H1:=H0.put (it:=J1) J<|by rw[aD rfl,bP];exact gb
 let J2:=iL dy cr dx
 have H2:=H1.put (it:=J2) J<|by rw[aD rfl,aD rfl,bP];exact nW
 have ja:=bj dL
 have kP:=bj gb
 have Bq:=bj nW
 let J3:=ro eJ #[.slice aC aE aB,sL aw U av,sL ay fo ax,I cn,sL dy cr dx,.slice iO rS jH] me
 have H3:=H2.put (it:=J3) J<|by rw[aD rfl,aD rfl,aD rfl,bP];exact lk
 have i0:f0 0=pV eJ 0:=ha 0 bl
 have i1:f0 1=I kd:=ha 1 bl
 refine az<|k<|al H3 bT ?_
 let ba:=[J3,J2,J1,J0]
 intro aZ w0 bY (H4:HI M w w0 (box aZ #[I 0,I 0,I 0,I 0,I 0,.slice none 0 0,I 0,I 0] 33::ba))
 let J4:=box aZ #[I 0,I 0,I 0,I 0,I 0,.slice none 0 0,I 0,I 0] 33
 refine ak (v:=.bool false) J J<|aq<|sq<|az<|ai J i0<|k<|nc J J<|aQ r7 J J<|aQ tR J J<|k<|lr H4 1 J qJ J J J<|k<|dD J J cG<|ai (v:=I 0) J J<|aq<|bk<|lp (fun m f w'=>∃(j_:Nat),m=fo.length-j_∧f 0=pV eJ 0∧f 1=I kd∧f 4=pV aZ 0∧f 15=sL ay fo ax∧f 16=I (fo.length:Int)∧f 17=I (j_:Int)∧HI M w w' (J4::ba)∧(j_≤fo.length)∧(∀q,q<j_→wa U fo cn cr q=false)) _ ⟨0,J,i0,i1,J,J,J,(bG J),H4,aj,(by intro q h;omega)⟩ ?_
 rintro _ f0 w1 ⟨j_,rfl,s0,s1,s2,s3,s4,s5,H5,pA,hs⟩
 refine az<|k<|lss J J s5 s4<|aq<|sq<|cd (b:=decide ((j_:Int)<(fo.length:Int))) J J (fun b0=>?_)<|fun b0=>?_
 ·
  have p0:=dT b0
  refine sk<|nx<|sq<|bk<|az<|ai J s5<|k<|ia (H5.rv 3 J) J J s3 s5 aj cG aT ?_
  intro iE x0 aM cz
  refine k<|mw cz.w aT J J ?_
  intro cw
  refine ak (v:=I (j_:Int)) J J<|ak (v:=I x0) J J<|aq<|sq<|az<|ai (v:=I x0) J J<|k<|lss J J J J<|z<|nx<|cd (b:=decide (x0<0)) J J (fun b1=>?_)<|fun b1=>?_
  ·
   have p1:=dT b1
   refine ex<|aV<|bg<|nx<|rg<|k<|add J J s5 J aR<|ai (v:=I ((j_:Int)+1)) J J<|z<|bF _ ?_ ⟨(j_+1),J,s0,s1,s2,s3,s4,(bG J),H5,aj,(by exact ad8 hs aM ‹_›)⟩
   omega
  have p1:=dF b1
  refine sk<|cO<|ai J s0<|ai J s0<|k<|nc J J<|aQ xX J J<|k<|wj H5 1 J bp J J au J<|ai (v:=I (j_:Int)) J J<|k ?_
  have bS:=DD (U:=U) (cn:=cn) (mn:=cn) (mr:=cr) (fD:=(j_:Int)) H5.mb (hT.ext H5.below) (H5.rv 4 J) kA kA (H5.rv 2 J) aR (H5.at_ 1 J) (by exact lj) aj
  refine ca V4 J (ec J<|ec J<|ec J e0) bS ?_
  rintro _ w2 ⟨a0,c0,rfl,cT,d_⟩
  have H6:=H5.ext cT
  have dZ:=(d_.lift<|Up.less fun b _ hb=>H5.mb b hb)
  let J5:=iL a0 (dq U cn cr (j_:Int)) c0
  have H7:=H6.put (it:=J5) J dZ
  refine k<|dD J J cG<|ai (v:=I 0) J J<|aq<|bk ?_
  let bV:=J5::J4::ba
  refine lp (fun m f w'=>∃(q_:Nat),m=(dq U cn cr (j_:Int)).length-q_∧f 0=pV eJ 0∧f 1=I kd∧f 4=pV aZ 0∧f 6=I (j_:Int)∧f 7=I x0∧f 15=sL ay fo ax∧f 16=I (fo.length:Int)∧f 17=I (j_:Int)∧f 30=sL a0 (dq U cn cr (j_:Int)) c0∧f 31=I ((dq U cn cr (j_:Int)).length:Int)∧f 32=I (q_:Int)∧HI M w w' bV∧(q_≤(dq U cn cr (j_:Int)).length)∧(∀y∈(dq U cn cr (j_:Int)).take q_,(zP cn cr x0) y=false)) _ ⟨0,J,s0,s1,s2,J,J,s3,s4,s5,J,J,(bG J),H7,aj,bl⟩ ?_
  rintro _ f1 w3 ⟨q_,rfl,s6,s7,s8,s9,eu,fb,fu,fl,gi,gS,j4,H8,sU,gK⟩
  refine sq ?_
  have qv:=Q5 lj U (j_:Int)
  refine rg<|k<|lss J J j4 gS<|aq<|sq<|cd (b:=decide ((q_:Int)<((dq U cn cr (j_:Int)).length:Int))) J J (fun b2=>?_)<|fun b2=>?_
  ·
   have p2:=dT b2
   refine sk<|nx<|sq<|bk<|az<|k<|ia (H8.rv 0 J) J J gi j4 aj cG aT ?_
   intro rK x1 cQ gL
   refine k<|mw gL.w aT J J ?_
   intro fy
   refine ak (v:=I x1) J J<|bz<|ai (v:=I x1) J J<|ai J eu<|k<|neq J J J J<|ai (v:=.bool (!decide (x1=x0))) J J ?_
   rcases bE (!decide (x1=x0)) with b3|b3
   ·
    have p3:=dF<|gl b3
    refine bh J J J b3<|mv J s6<|bh J J J b3<|nc J J<|bh J J J b3<|fa xX J J<|bh J J J b3<|wj H8 2 J bp J J au J<|bh J J J b3<|mv J eu<|bh J J J b3<|mv (v:=I x1) J J<|bh J J J b3 ?_
    have cU:=uE (mn:=cn) (mr:=cr) (i:=x0) (j:=x1) H8.mb kA (H8.rv 3 J) cw fy (by exact(bQ lj).1) (by exact(bQ lj).2.1)<|by exact(bQ lj).2.2.1
    refine ca FN J (ec J<|ec J<|ec J e0) cU ?_
    rintro _ w4 ⟨rfl,fk⟩
    have H9:=H8.ext fk
    refine k<|aP J J J J b3 J<|z<|nx<|cd (b:=eK cn cr x0 x1) J J (fun b4=>?_)<|fun b4=>?_
    ·
     refine sq ?_
     obtain⟨qY,Db,ha_⟩:=ad9 hs aj aM ‹_› gK cQ (gl ‹(!decide (x1=x0))=true›) ‹_›
     refine rg<|ai J s7<|k ?_
     have fP:=rl (kd:=kd) (w:=w4) lV
     refine ca FO J (ec J e0) fP ?_
     rintro _ w5 ⟨rfl,fN⟩
     have dO:=H9.ext fN
     refine k<|al dO bT ?_
     intro aY w6 iP (cV:HI M w w6 (box aY #[I 0,I 0,I 0,I 0,I 0,.slice none 0 0,I 0,I 0] 33::bV))
     refine k<|bw cV 0 J bT J J J J J J J ?_
     intro w7 (du:HI M w w7 (box aY #[I kd,I (-1),I (-1),I (-1),I (-1),.slice none 0 0,I (-1),I (-1)] 33::bV))
     refine bz<|ai J s9<|ai J eu<|ai (v:=I x1) J J<|aQ r8 J J<|k<|bw du 0 J aT J J J J J J J ?_
     intro w8 (dJ:HI M w w8 (box aY #[I kd,I (j_:Int),I (-1),I (-1),I (-1),.slice none 0 0,I (-1),I (-1)] 33::bV))
     refine aQ pW J J<|k<|bw dJ 0 J aT J J J J J J J ?_
     intro w9 (cM:HI M w w9 (box aY #[I kd,I (j_:Int),I x0,I (-1),I (-1),.slice none 0 0,I (-1),I (-1)] 33::bV))
     refine aQ G' J J<|k<|bw cM 0 J aT J J J J J J J ?_
     let J6:=box aY #[I kd,I (j_:Int),I x0,I x1,I (-1),.slice none 0 0,I (-1),I (-1)] 33
     intro dM (dU:HI M w dM (J6::bV))
     refine bz<|k<|cB dU 0 J bT J J au J<|k<|bw dU 2 J bT J J s8 J J J J ?_
     intro ee (dt:HI M w ee (J6::J5::box aZ #[I kd,I (j_:Int),I x0,I x1,I (-1),.slice none 0 0,I (-1),I (-1)] 33::ba))
     refine ak (v:=.bool true) J J<|aq<|rt<|bR<|aK<|dX<|bR<|bR<|aK<|dX<|bR<|aK<|iH dt 2 J bT J J J s8 J au ?_
     have e8:(true:Bool)=(qp U fo cn cr kd).isSome:=by exact adW qY
     have bu:=iK (fun (lM:Bool)=>(.tuple #[.agg #[I kd,I (j_:Int),I x0,I x1,I (-1),.slice none 0 0,I (-1),I (-1)],.bool lM]:Value)) e8
     exact⟨kd,(j_:Int),x0,x1,(-1),(-1),(-1),bu,dt.below,(by exact af4 lV qY Db ha_ aj bo (M8 lj cQ))⟩
    refine sk<|aG<|nx<|rg<|k<|add J J j4 J aR<|ai (v:=I ((q_:Int)+1)) J J<|z<|bF _ ?_ ⟨(q_+1),J,s6,s7,s8,s9,eu,fb,fu,fl,gi,gS,(bG J),H9,aj,(by exact OI gK cQ (by simp only[zP,b0,b1,b2,(gl b3),b4,BL]))⟩
    omega
   have p3:=dT<|fA b3
   refine aW J J J b3<|aW J J J b3<|aW J J J b3<|aW J J J b3<|aW J J J b3<|aW J J J b3<|aW J J J b3<|k<|dA J J J J b3 J<|aq<|pB J J J<|sk<|aG<|nx<|rg<|k<|add J J j4 J aR<|ai (v:=I ((q_:Int)+1)) J J<|z<|bF _ ?_ ⟨(q_+1),J,s6,s7,s8,s9,eu,fb,fu,fl,gi,gS,(bG J),H8,aj,(by exact OI gK cQ (by simp only[zP,b0,b1,b2,(fA b3),BL]))⟩
   omega
  have p2:=dF b2
  refine ex<|aV<|bc<|bg<|aG<|nx<|rg<|k<|add J J fl J aR<|ai (v:=I ((j_:Int)+1)) J J<|z ?_
  have H9:HI M w w3 (J4::ba):=H8.bX [1,2,3,4,5] au J
  refine bF _ ?_ ⟨(j_+1),J,s6,s7,s8,fb,fu,(bG J),H9,aj,(by exact WM hs aM gK aj)⟩
  omega
 have p0:=dF b0
 refine ex<|aV<|bc<|bg<|cO<|k<|bd (v:=.agg #[I 0,I 0,I 0,I 0,I 0,.slice none 0 0,I 0,I 0]) J ew (fun _=>aS)<|k<|bw H5 0 J bT J J s2 J J J J ?_
 intro w2 (H6:HI M w w2 (J4::ba))
 refine ak (v:=.bool false) J J<|aq<|rt ?_
 have qY:F6 U fo cn cr=none:=BG hs aj
 refine iH H6 0 J bT J J J s2 J au ?_
 have e8:(false:Bool)=(qp U fo cn cr kd).isSome:=by rw[T1 qY];rfl
 have bu:=iK (fun (lM:Bool)=>(.tuple #[.agg #[I 0,I 0,I 0,I 0,I 0,.slice none 0 0,I 0,I 0],.bool lM]:Value)) e8
 exact⟨0,0,0,0,0,0,0,bu,H6.below,(by exact uv (T1 qY) NZ)⟩
theorem adl:cA aI 67:=cI Tryz.func67
theorem WR (kA:aJ cn) (lV:aJ kd) (hT:fU 0 w) (ho:ig U) (dB:U.length≤64) (ez:fo.length=U.length) (fL:∀x∈fo,x<((U.length:Nat):Int)) (oH:cn=((U.length:Nat):Int)) (pS:cr=cu U fo) (hsw:iO=none∧sw=[]∨sw=eX U fo) (H:HI M w w_ ([box eJ #[.slice aC aE aB,sL aw U av,sL ay fo ax,I cn,sL dy cr dx,sL iO sw jH] 80,iL aw U av,iL ay fo ax,iL dy cr dx,oL w 26 iO sw jH]++r)):Calls aI 39 #[pV eJ 0,I kd] w_ (cp fun v w'=>∃(k_:Int) (r_:Int) (a_:Int) (b_:Int) (o_:Int) (f_:Int) (s_:Int) (wQ:OA) (wP:Nat),v=.tuple #[.agg #[I k_,I r_,I a_,I b_,I o_,.slice none 0 0,I f_,I s_],.bool ((sI U fo kd).isSome)]∧HI M w w' ([box eJ #[.slice aC aE aB,sL aw U av,sL ay fo ax,I cn,sL dy cr dx,.slice wQ (eX U fo).length wP] 80,iL aw U av,iL ay fo ax,iL dy cr dx,oL w 26 wQ (eX U fo) wP]++r)∧qE (sI U fo kd) k_ r_ a_ b_ o_):=by
 refine enter 34 Tryz.func39 J J J fun f0 ha=>?_
 have ja:=bj<|H.rv 1 J
 have kP:=bj<|H.rv 2 J
 have Bq:=bj<|H.rv 3 J
 have Xx:=kj<|H.at_ 4 J
 have i0:f0 0=pV eJ 0:=ha 0 bl
 have i1:f0 1=I kd:=ha 1 bl
 refine az<|k<|al H bT ?_
 let J1:=box eJ #[.slice aC aE aB,sL aw U av,sL ay fo ax,I cn,sL dy cr dx,sL iO sw jH] 80
 let J2:=iL aw U av
 let J3:=iL ay fo ax
 let J4:=iL dy cr dx
 let J5:=oL w 26 iO sw jH
 intro aZ w0 bY (H0:HI M w w0 ([box aZ #[I 0,I 0,I 0,I 0,I 0,.slice none 0 0,I 0,I 0] 33,J1,J2,J3,J4,J5]++r))
 let J0:=box aZ #[I 0,I 0,I 0,I 0,I 0,.slice none 0 0,I 0,I 0] 33
 refine ak (v:=.bool false) J J<|aq<|sq<|az<|ai J i0<|k ?_
 have H1:HI M w w0 ([J1,J2,J3,J4,J5]++([J0]++r)):=HI.aP (l:=[J0,J1,J2,J3,J4,J5]) (l':=[J1,J2,J3,J4,J5,J0]) (t:=r) H0 [1,2,3,4,5,0] au J J
 have bS:=Pm (eJ:=eJ) (aC:=aC) (aE:=aE) (aB:=aB) (aw:=aw) (av:=av) (U:=U) (ay:=ay) (ax:=ax) (fo:=fo) (cn:=cn) (dy:=dy) (dx:=dx) (cr:=cr) (iO:=iO) (jH:=jH) (sw:=sw) (w:=w) (w_:=w0) (r:=([J0]++r)) (M:=M) kA hT (by exact ho) (by exact dB) (by exact ez) (by exact fL) (by exact oH) (by exact pS) aj H1
 refine ca adl J (ec J e0) bS ?_
 rintro _ w1 ⟨a0,c0,rfl,H2⟩
 let J6:=box eJ #[.slice aC aE aB,sL aw U av,sL ay fo ax,I cn,sL dy cr dx,sL a0 (eX U fo) c0] 80
 let J7:=oL w 26 a0 (eX U fo) c0
 refine k<|dD J J HF<|ai (v:=I 0) J J<|aq<|bk ?_
 let ba:=[J6,J2,J3,J4,J7,J0]
 refine lp (fun m f w'=>∃(j_:Nat),m=U.length-j_∧f 1=I kd∧f 4=pV aZ 0∧f 12=sL a0 (eX U fo) c0∧f 13=I ((eX U fo).length:Int)∧f 14=I (j_:Int)∧HI M w w' (ba++r)∧(j_≤U.length)∧(∀q,q<j_→Xe U fo q=false)) _ ⟨0,J,i1,J,J,J,(bG J),H2,aj,(by intro q h;omega)⟩ ?_
 rintro _ f0 w2 ⟨j_,rfl,s0,s1,s2,s3,s4,H4,pA,hs⟩
 refine az<|k<|lss J J s4 s3<|aq<|sq<|cd (b:=decide ((j_:Int)<((eX U fo).length:Int))) J J (fun b0=>?_)<|fun b0=>?_
 ·
  have p0:=dT b0
  refine sk<|nx<|sq<|bk<|az<|ai J s4<|k<|gW (H4.at_ 4 J) J J s2 s4 aj HF bp ?_
  intro g0 x0 iC aM cz
  refine k<|nF cz bp J J ?_
  intro v0 cw
  obtain⟨_,⟨_,_,rfl,⟨rfl,d_⟩,⟨v1,rfl,dZ⟩⟩,rfl⟩:=cw
  obtain⟨a1,c1,rfl,fy⟩:=RS.explicit dZ
  let J8:=iL a1 x0.2 c1
  have H5:=H4.put (it:=J8) J<|by exact fy
  refine k<|al H5 bp ?_
  intro aY w3 cT (H7:HI M w w3 ((box aY #[I 0,.slice none 0 0] 26::J8::ba)++r))
  refine ak (v:=I (j_:Int)) J J<|k<|bw H7 0 J bp J J J J J J J ?_
  let J9:=box aY #[I x0.1,sL a1 x0.2 c1] 26
  let bV:=J9::J8::ba
  intro w4 (H8:HI M w w4 (bV++r))
  refine aq<|sq ?_
  obtain⟨GX,S'⟩:=Of aM
  have zJ:x0.1=((U.length:Nat):Int):=by rw[S']
  have zI:x0.2=(cW U fo (j_:Int)):=by rw[S']
  have PK:bK x0.1 x0.2=true:=by rw[zJ,zI];exact Gm dB GX
  refine rg<|k<|cB H8 0 J bp J J au J<|k ?_
  have cU:=yO (mn:=x0.1) (mr:=x0.2) H8.mb d_ (H8.rv 1 J)<|by exact PK
  refine ca QD J (ec J e0) cU ?_
  rintro _ w5 ⟨rfl,fk⟩
  have H9:=H8.ext fk
  refine ai (v:=.tuple #[I (((cP x0.1 x0.2).getD 0:Nat):Int),.bool ((cP x0.1 x0.2).isSome)]) J J<|k<|xt J J J<|k<|xt J J J<|ak (v:=I (((cP x0.1 x0.2).getD 0:Nat):Int)) J J<|ak (v:=.bool ((cP x0.1 x0.2).isSome)) J J<|bz<|ai (v:=.bool ((cP x0.1 x0.2).isSome)) J J<|z<|nx<|cd (b:=(cP x0.1 x0.2).isSome) J J (fun b1=>?_)<|fun b1=>?_
  ·
   refine az<|ai J s0<|k ?_
   have fP:=rl (kd:=kd) (w:=w5) lV
   refine ca FO J (ec J e0) fP ?_
   rintro _ w6 ⟨rfl,fN⟩
   have dO:=H9.ext fN
   refine k<|al dO bT ?_
   intro bJ w7 iP (cV:HI M w w7 ((box bJ #[I 0,I 0,I 0,I 0,I 0,.slice none 0 0,I 0,I 0] 33::bV)++r))
   refine k<|bw cV 0 J bT J J J J J J J ?_
   intro w8 (du:HI M w w8 ((box bJ #[I kd,I (-1),I (-1),I (-1),I (-1),.slice none 0 0,I (-1),I (-1)] 33::bV)++r))
   refine bz<|ai (v:=I (j_:Int)) J J<|ai (v:=I (((cP x0.1 x0.2).getD 0:Nat):Int)) J J<|aQ ph J J<|k<|bw du 0 J aT J J J J J J J ?_
   intro w9 (dJ:HI M w w9 ((box bJ #[I kd,I (-1),I (-1),I (-1),I (j_:Int),.slice none 0 0,I (-1),I (-1)] 33::bV)++r))
   refine aQ pW J J<|k<|bw dJ 0 J aT J J J J J J J ?_
   let dR:=box bJ #[I kd,I (-1),I (((cP x0.1 x0.2).getD 0:Nat):Int),I (-1),I (j_:Int),.slice none 0 0,I (-1),I (-1)] 33
   intro dM (cM:HI M w dM ((dR::bV)++r))
   refine bz<|k<|cB cM 0 J bT J J au J<|k<|bw cM 8 J bT J J s1 J J J J ?_
   let eE:=box aZ #[I kd,I (-1),I (((cP x0.1 x0.2).getD 0:Nat):Int),I (-1),I (j_:Int),.slice none 0 0,I (-1),I (-1)] 33
   intro ee (dU:HI M w ee ([dR,J9,J8,J6,J2,J3,J4,J7,eE]++r))
   refine ak (v:=.bool true) J J<|aq<|rt<|bR<|aK<|dX<|bR<|aK ?_
   have ue:(cP ((U.length:Nat):Int) (cW U fo (j_:Int))).isSome=true:=by rw[←zJ,←zI];assumption
   have qY:IF U fo=some j_:=D6 hs GX ue
   refine iH dU 8 J bT J J J s1 J au ?_
   have dt:=HI.aP (l:=[dR,J9,J8,J6,J2,J3,J4,J7,eE]) (l':=[J6,J2,J3,J4,J7]) (t:=r) dU [3,4,5,6,7] au J J
   have e0:(true:Bool)=(sI U fo kd).isSome:=by exact aeO qY
   try rw[←e0]
   refine⟨kd,(-1),(((cP x0.1 x0.2).getD 0:Nat):Int),(-1),(j_:Int),(-1),(-1),a0,c0,?_,?_,(by rw[zJ,zI];exact ahE lV qY GX dB ue)⟩
   · first|rfl|simp only[e0]|(simp only[am'])
   · first|exact dt|simpa +zetaDelta only[e0,am'] using dt
  refine sk<|aG<|nx<|rg<|k<|add J J s4 J aR<|ai (v:=I ((j_:Int)+1)) J J<|z ?_
  have dO:HI M w w5 (ba++r):=HI.aP (l:=bV) (l':=ba) (t:=r) H9 [2,3,4,5,6,7] au J J
  refine bF _ ?_ ⟨(j_+1),J,s0,s1,s2,s3,(bG J),dO,aj,(by exact sG hs (by unfold Xe;rw[←zJ,←zI];assumption))⟩
  omega
 have p0:=dF b0
 refine ex<|aV<|bc<|bg<|cO<|k<|bd (v:=.agg #[I 0,I 0,I 0,I 0,I 0,.slice none 0 0,I 0,I 0]) J ew (fun _=>aS)<|k<|bw H4 5 J bT J J s1 J J J J ?_
 intro w3 (H5:HI M w w3 (ba++r))
 refine ak (v:=.bool false) J J<|aq<|rt ?_
 have qY:IF U fo=none:=BG hs<|by rw[A6] at p0;omega
 refine iH H5 5 J bT J J J s1 J au ?_
 have H6:=HI.aP (l:=ba) (l':=[J6,J2,J3,J4,J7]) (t:=r) H5 [0,1,2,3,4] au J J
 have e0:(false:Bool)=(sI U fo kd).isSome:=by rw[Xd qY];rfl
 try rw[←e0]
 refine⟨0,0,0,0,0,0,0,a0,c0,?_,?_,(by exact uv (Xd qY) NZ)⟩
 · first|rfl|simp only[e0]|(simp only[am'])
 · first|exact H6|simpa +zetaDelta only[e0,am'] using H6
theorem T' (kA:aJ cn) (lV:aJ kd) (hT:fU 0 w) (ho:ig U) (dB:U.length≤64) (ez:fo.length=U.length) (fL:∀x∈fo,x<((U.length:Nat):Int)) (oH:cn=((U.length:Nat):Int)) (pS:cr=cu U fo) (hsw:iO=none∧sw=[]∨sw=eX U fo) (H:HI M w w_ ([box eJ #[.slice aC aE aB,sL aw U av,sL ay fo ax,I cn,sL dy cr dx,sL iO sw jH] 80,iL aw U av,iL ay fo ax,iL dy cr dx,oL w 26 iO sw jH]++r)):Calls aI 38 #[pV eJ 0,I kd] w_ (cp fun v w'=>∃(k_:Int) (r_:Int) (a_:Int) (b_:Int) (o_:Int) (f_:Int) (s_:Int) (wQ:OA) (wP:Nat),v=.tuple #[.agg #[I k_,I r_,I a_,I b_,I o_,.slice none 0 0,I f_,I s_],.bool ((sK U fo kd).isSome)]∧HI M w w' ([box eJ #[.slice aC aE aB,sL aw U av,sL ay fo ax,I cn,sL dy cr dx,.slice wQ (eX U fo).length wP] 80,iL aw U av,iL ay fo ax,iL dy cr dx,oL w 26 wQ (eX U fo) wP]++r)∧qE (sK U fo kd) k_ r_ a_ b_ o_):=by
 refine enter 63 Tryz.func38 J J J fun f0 ha=>?_
 have ja:=bj<|H.rv 1 J
 have kP:=bj<|H.rv 2 J
 have Bq:=bj<|H.rv 3 J
 have Xx:=kj<|H.at_ 4 J
 have i0:f0 0=pV eJ 0:=ha 0 bl
 have i1:f0 1=I kd:=ha 1 bl
 refine az<|k<|al H bT ?_
 let J1:=box eJ #[.slice aC aE aB,sL aw U av,sL ay fo ax,I cn,sL dy cr dx,sL iO sw jH] 80
 let J2:=iL aw U av
 let J3:=iL ay fo ax
 let J4:=iL dy cr dx
 let J5:=oL w 26 iO sw jH
 intro aZ w0 bY (H0:HI M w w0 ([box aZ #[I 0,I 0,I 0,I 0,I 0,.slice none 0 0,I 0,I 0] 33,J1,J2,J3,J4,J5]++r))
 let J0:=box aZ #[I 0,I 0,I 0,I 0,I 0,.slice none 0 0,I 0,I 0] 33
 refine ak (v:=.bool false) J J<|aq<|sq<|az<|ai J i0<|k ?_
 have H1:HI M w w0 ([J1,J2,J3,J4,J5]++([J0]++r)):=HI.aP (l:=[J0,J1,J2,J3,J4,J5]) (l':=[J1,J2,J3,J4,J5,J0]) (t:=r) H0 [1,2,3,4,5,0] au J J
 have bS:=Pm (eJ:=eJ) (aC:=aC) (aE:=aE) (aB:=aB) (aw:=aw) (av:=av) (U:=U) (ay:=ay) (ax:=ax) (fo:=fo) (cn:=cn) (dy:=dy) (dx:=dx) (cr:=cr) (iO:=iO) (jH:=jH) (sw:=sw) (w:=w) (w_:=w0) (r:=([J0]++r)) (M:=M) kA hT (by exact ho) (by exact dB) (by exact ez) (by exact fL) (by exact oH) (by exact pS) aj H1
 refine ca adl J (ec J e0) bS ?_
 rintro _ w1 ⟨a0,c0,rfl,H2⟩
 let J6:=box eJ #[.slice aC aE aB,sL aw U av,sL ay fo ax,I cn,sL dy cr dx,sL a0 (eX U fo) c0] 80
 let J7:=oL w 26 a0 (eX U fo) c0
 refine k<|dD J J HF<|ai (v:=I 0) J J<|aq<|bk ?_
 let ba:=[J6,J2,J3,J4,J7,J0]
 refine lp (fun m f w'=>∃(j_:Nat),m=U.length-j_∧f 0=pV eJ 0∧f 1=I kd∧f 4=pV aZ 0∧f 13=sL a0 (eX U fo) c0∧f 14=I ((eX U fo).length:Int)∧f 15=I (j_:Int)∧HI M w w' (ba++r)∧(j_≤U.length)∧(∀q,q<j_→IK U fo q=false)) _ ⟨0,J,i0,i1,J,J,J,(bG J),H2,aj,(by intro q h;omega)⟩ ?_
 rintro _ f0 w2 ⟨j_,rfl,s0,s1,s2,s3,s4,s5,H4,pA,hs⟩
 refine az<|k<|lss J J s5 s4<|aq<|sq<|cd (b:=decide ((j_:Int)<((eX U fo).length:Int))) J J (fun b0=>?_)<|fun b0=>?_
 ·
  have p0:=dT b0
  refine sk<|nx<|sq<|bk<|az<|ai J s5<|k<|gW (H4.at_ 4 J) J J s3 s5 aj HF bp ?_
  intro g0 x0 iC aM cz
  refine k<|nF cz bp J J ?_
  intro v0 cw
  obtain⟨_,⟨_,_,rfl,⟨rfl,d_⟩,⟨v1,rfl,dZ⟩⟩,rfl⟩:=cw
  obtain⟨a1,c1,rfl,fy⟩:=RS.explicit dZ
  let J8:=iL a1 x0.2 c1
  have H5:=H4.put (it:=J8) J<|by exact fy
  refine k<|al H5 bp ?_
  let bV:=J8::ba
  intro aY w3 cT (H7:HI M w w3 ((box aY #[I 0,.slice none 0 0] 26::bV)++r))
  refine ak (v:=I (j_:Int)) J J<|k<|bw H7 0 J bp J J J J J J J ?_
  let J9:=box aY #[I x0.1,sL a1 x0.2 c1] 26
  let dz:=J9::bV
  intro w4 (H8:HI M w w4 (dz++r))
  refine aq<|sq ?_
  obtain⟨GX,S'⟩:=Of aM
  have zJ:x0.1=((U.length:Nat):Int):=by rw[S']
  have zI:x0.2=(cW U fo (j_:Int)):=by rw[S']
  have PK:bK x0.1 x0.2=true:=by rw[zJ,zI];exact Gm dB GX
  have lk_:=Bv ho dB (o:=(j_:Int)) ⟨by omega,by omega⟩
  refine rg<|ai J s0<|k<|nc J J<|aQ r7 J J<|k<|cB H8 2 J eh J J au J<|ai (v:=I (j_:Int)) J J<|k ?_
  have cU:=CI (U:=U) (o:=(j_:Int)) (aC:=aC) (aE:=aE) (aB:=aB) (ay:=ay) (fe:=fo.length) (ax:=ax) H8.mb (H8.rv 3 J) aR (by exact ho) aj
  refine ca V1 J (ec J<|ec J e0) cU ?_
  rintro _ w5 ⟨a2,c2,rfl,fk,iT⟩
  have H9:=H8.eT iT
  let dR:=oL w 3 a2 (aX (fX U) (cC U (j_:Int))) c2
  refine k<|dD J J cG<|ai (v:=I 0) J J<|aq<|bk ?_
  let iW:=dR::dz
  refine lp (fun m f w'=>∃(q_:Nat),m=(aX (fX U)<|cC U (j_:Int)).length-q_∧f 0=pV eJ 0∧f 1=I kd∧f 4=pV aZ 0∧f 6=I (j_:Int)∧f 7=pV aY 0∧f 13=sL a0 (eX U fo) c0∧f 14=I ((eX U fo).length:Int)∧f 15=I (j_:Int)∧f 25=sL a2 (aX (fX U)<|cC U (j_:Int)) c2∧f 26=I ((aX (fX U)<|cC U (j_:Int)).length:Int)∧f 27=I (q_:Int)∧HI M w w' (iW++r)∧(q_≤(aX (fX U)<|cC U (j_:Int)).length)∧(∀y∈(aX (fX U)<|cC U (j_:Int)).take q_,Cu U fo ((U.length:Nat):Int) (cW U fo (j_:Int)) y=false)) _ ⟨0,J,s0,s1,s2,J,J,s3,s4,s5,J,J,(bG J),H9,aj,(by intro y h;simp at h)⟩ ?_
  rintro _ f1 w6 ⟨q_,rfl,s6,s7,s8,s9,eu,fb,fu,fl,gi,gS,j4,cV,aip,gK⟩
  refine az<|k<|lss J J j4 gS<|aq<|sq<|cd (b:=decide ((q_:Int)<((aX (fX U)<|cC U (j_:Int)).length:Int))) J J (fun b1=>?_)<|fun b1=>?_
  ·
   have p1:=dT b1
   refine sk<|nx<|sq<|bk<|az<|k<|gW (cV.at_ 0 J) J J gi j4 aj cG aT ?_
   intro g1 x1 kn cQ gL
   refine k<|mw gL aT J J ?_
   intro jS
   refine ak (v:=I x1) J J<|aq<|sq ?_
   obtain⟨q2_,ah_⟩:=ZH cQ
   have Ez:=IT ho ah_
   refine rg<|ai J s6<|k<|cB cV 1 J bp J eu au J<|ai (v:=I x1) J J<|k ?_
   have fP:=DD (U:=U) (cn:=cn) (mn:=x0.1) (mr:=x0.2) (fD:=x1) (w:=w6) (M:=fun _=>False) (fun _ h_=>h_.elim) (hT.ext cV.below) ((cV.rv 4 J).lift (Up.less fun _ _ h_=>h_.elim)) kA d_ ((cV.rv 2 J).lift (Up.less fun _ _ h_=>h_.elim)) jS ⟨cV.at_ 3 rfl,fun h_=>h_⟩ (by exact PK) aj
   refine ca V4 J (ec J<|ec J<|ec J e0) fP ?_
   rintro _ w7 ⟨a3,c3,rfl,fN,je⟩
   have du:=cV.ext fN
   have lh:=(je.lift<|Up.less fun b _ hb=>cV.mb b hb)
   let eE:=iL a3 (dq U x0.1 x0.2 x1) c3
   have dJ:=du.put (it:=eE) J lh
   let fm:=eE::iW
   have cM:HI M w w7 (fm++r):=dJ
   refine ak (v:=sL a3 (dq U x0.1 x0.2 x1) c3) J J<|bz<|ai J s6<|k<|nc J J<|aQ r7 J J<|aQ tR J J<|bq cM 4 J qJ J J J<|ai (v:=I x1) J J<|k<|ia (cM.rv 6 J) J J J J aj cG aT ?_
   intro iE x2 jf kV
   refine k<|mw kV.w aT J J ?_
   intro oE
   refine k<|eql J J J J<|ai (v:=.bool (decide (x2=(-1)))) J J ?_
   rcases bE (decide (x2=(-1))) with b2|b2
   ·
    have p2:=dT b2
    refine bh J J J b2<|mv (v:=sL a3 (dq U x0.1 x0.2 x1) c3) J J<|bh J J J b2<|dD J J cG<|bh J J J b2<|gtr J J J J<|k<|aP J J J J b2 J<|z<|nx<|cd (b:=decide (0<((dq U x0.1 x0.2 x1).length:Int))) J J (fun b3=>?_)<|fun b3=>?_
    ·
     have p3:=dT b3
     refine az<|ai J s7<|k ?_
     have eZ:=rl (kd:=kd) (w:=w7) lV
     refine ca FO J (ec J e0) eZ ?_
     rintro _ w8 ⟨rfl,iP⟩
     have dU:=cM.ext iP
     refine k<|al dU bT ?_
     intro bJ w9 jc (dt:HI M w w9 ((box bJ #[I 0,I 0,I 0,I 0,I 0,.slice none 0 0,I 0,I 0] 33::fm)++r))
     refine k<|bw dt 0 J bT J J J J J J J ?_
     let fM:=box bJ #[I kd,I (-1),I (-1),I (-1),I (-1),.slice none 0 0,I (-1),I (-1)] 33
     intro dM (cR:HI M w dM ((fM::fm)++r))
     refine aq<|sq ?_
     obtain⟨x3,nH⟩:∃x,(dq U x0.1 x0.2 x1)[(0:Int).toNat]? =some x:=⟨_,eI aj⟩
     have eP:HI M w dM ((fM::fm)++r):=cR
     let kx:=[eE,dR,J9,J8,J6,J2,J3,J4,J7,J0,fM]
     have ff:HI M w dM (kx++r):=HI.aP (l:=(fM::fm)) (l':=kx) (t:=r) eP [1,2,3,4,5,6,7,8,9,10,0] au J J
     refine Wi [none,none,none,none,none,none,some 8,none,some 10,none,none,some 6,none] [0,0,0,4,12,1,33,99,227,511,1023] [fun _=>[],fun _=>[],fun _=>[],fun v_=>[rm (vP v_) x3],fun _=>[],fun _=>[],fun v_=>[box bJ #[I kd,I (-1),I (-1),I (-1),I (j_:Int),.slice none 0 0,I (-1),I (-1)] 33],fun _=>[],fun v_=>[box bJ #[I kd,I x1,I (-1),I (-1),I (j_:Int),.slice none 0 0,I (-1),I (-1)] 33],fun _=>[],fun v_=>[box bJ #[I kd,I x1,I x3,I (-1),I (j_:Int),.slice none 0 0,I (-1),I (-1)] 33],fun _=>[box bJ #[I kd,I (-1),I (-1),I (-1),I (-1),.slice none 0 0,I (-1),I (-1)] 33],fun _=>r] [[],[],[],[],[3],[],[11],[],[6],[],[8]] [fun v_=>v_=I (j_:Int),fun v_=>v_=I x1∧aJ (x1),fun v_=>v_=sL a3 (dq U x0.1 x0.2 x1) c3,fun v_=>∃(rK:Addr),v_=.pointer (some rK),fun v_=>v_=I x3∧aJ (x3),fun v_=>v_=pV bJ 4,fun _=>True,fun v_=>v_=pV bJ 1,fun _=>True,fun v_=>v_=pV bJ 2,fun _=>True] [iL a3 (dq U x0.1 x0.2 x1) c3,oL w 3 a2 (aX (fX U)<|cC U (j_:Int)) c2,box aY #[I x0.1,sL a1 x0.2 c1] 26,iL a1 x0.2 c1,box eJ #[.slice aC aE aB,sL aw U av,sL ay fo ax,I cn,sL dy cr dx,sL a0 (eX U fo) c0] 80,iL aw U av,iL ay fo ax,iL dy cr dx,oL w 26 a0 (eX U fo) c0,box aZ #[I 0,I 0,I 0,I 0,I 0,.slice none 0 0,I 0,I 0] 33] J aS J (by show HI _ _ _ ([iL a3 (dq U x0.1 x0.2 x1) c3,oL w 3 a2 (aX (fX U)<|cC U (j_:Int)) c2,box aY #[I x0.1,sL a1 x0.2 c1] 26,iL a1 x0.2 c1,box eJ #[.slice aC aE aB,sL aw U av,sL ay fo ax,I cn,sL dy cr dx,sL a0 (eX U fo) c0] 80,iL aw U av,iL ay fo ax,iL dy cr dx,oL w 26 a0 (eX U fo) c0,box aZ #[I 0,I 0,I 0,I 0,I 0,.slice none 0 0,I 0,I 0] 33]++([box bJ #[I kd,I (-1),I (-1),I (-1),I (-1),.slice none 0 0,I (-1),I (-1)] 33]++(r++[])));rw[aoB];exact ff) ?_ ?_
     ·
      refine⟨fun f2 jv V_ eC kD hp0 hq0 gr=>?_,?_⟩
      ·
       have iy:HI M w jv (fm++eC):=(by have h_:HI M w jv (fm++(eC)):=gr;exact h_)
       refine mv J ((kD 6 J).trans s9) ?_
       exact⟨_,J,J,iy⟩
      refine⟨fun f3 nB V_ eC GS Jd I_ kY=>?_,?_⟩
      ·
       have iw:HI M w nB (fm++eC):=(by have h_:HI M w nB (fm++(eC)):=kY;exact h_)
       refine mv J (GS 9 J) ?_
       exact⟨_,J,⟨J,jS⟩,iw⟩
      refine⟨fun f4 rE V_ eC gK SN nI j'=>?_,?_⟩
      ·
       have nP:HI M w rE (fm++eC):=(by have h_:HI M w rE (fm++(eC)):=j';exact h_)
       refine mv J (gK 10 J) ?_
       exact⟨_,J,J,nP⟩
      refine⟨fun f5 tn V_ eC Au yP EB rp=>?_,?_⟩
      ·
       obtain⟨e0,q0⟩:=yP 2 _ rfl rfl rfl
       have e1:V_ 2=sL a3 (dq U x0.1 x0.2 x1) c3:=q0
       have kJ:f5 53=sL a3 (dq U x0.1 x0.2 x1) c3:=e0.trans e1
       have kX:HI M w tn (fm++eC):=(by have h_:HI M w tn (fm++(eC)):=rp;exact h_)
       refine ia (kX.rv 0 J) J J kJ J aj cG aT ?_
       intro pZ x4 yN wx
       obtain rfl:x3=x4:=ana (nH.symm.trans yN)
       have AT:=kX.put (it:=rm pZ x3) J wx
       have kg:HI M w tn ((rm pZ x3::fm)++eC):=AT
       have vN:=HI.aP (l:=(rm pZ x3::fm)) (l':=[eE,dR,J9,J8,J6,J2,J3,J4,J7,J0,rm pZ x3]) (t:=eC) kg [1,2,3,4,5,6,7,8,9,10,0] au J J
       exact⟨_,J,⟨pZ,J⟩,vN⟩
      refine⟨fun f6 uY V_ eC XN ED EA mc=>?_,?_⟩
      ·
       obtain⟨e2,q1⟩:=ED 3 _ rfl rfl rfl
       obtain⟨vI,e3⟩:∃(vI:Addr),V_ 3=.pointer (some vI):=q1
       have lD:f6 54=.pointer (some vI):=e2.trans e3
       have tW:HI M w uY ([iL a3 (dq U x0.1 x0.2 x1) c3,oL w 3 a2 (aX (fX U) (cC U (j_:Int))) c2,box aY #[I x0.1,sL a1 x0.2 c1] 26,iL a1 x0.2 c1,box eJ #[.slice aC aE aB,sL aw U av,sL ay fo ax,I cn,sL dy cr dx,sL a0 (eX U fo) c0] 80,iL aw U av,iL ay fo ax,iL dy cr dx,oL w 26 a0 (eX U fo) c0,box aZ #[I 0,I 0,I 0,I 0,I 0,.slice none 0 0,I 0,I 0] 33,rm vI x3]++eC):=(by have h_:HI M w uY ([iL a3 (dq U x0.1 x0.2 x1) c3,oL w 3 a2 (aX (fX U)<|cC U (j_:Int)) c2,box aY #[I x0.1,sL a1 x0.2 c1] 26,iL a1 x0.2 c1,box eJ #[.slice aC aE aB,sL aw U av,sL ay fo ax,I cn,sL dy cr dx,sL a0 (eX U fo) c0] 80,iL aw U av,iL ay fo ax,iL dy cr dx,oL w 26 a0 (eX U fo) c0,box aZ #[I 0,I 0,I 0,I 0,I 0,.slice none 0 0,I 0,I 0] 33]++([rm (vP<|V_ 3) x3]++(eC))):=mc;rw[e3] at h_;exact h_)
       refine mw (tW.atv 10 J).w aT J lD ?_
       intro rP
       exact⟨_,J,⟨J,rP⟩,(by have h_:=tW;rw[show (vI:Addr)=(vP<|V_ 3) from by rw[e3]<;>rfl] at h_;exact h_)⟩
      refine⟨fun f7 yr V_ eC hs5 OT hq5 zv=>?_,?_⟩
      ·
       have qG:HI M w yr (fm++eC):=(by have h_:HI M w yr (fm++(eC)):=zv;exact h_)
       refine fa ph J (hs5 11 J) ?_
       exact⟨_,J,J,qG⟩
      refine⟨fun f8 z1 V_ eC hs6 Jc hq6 JR=>?_,?_⟩
      ·
       obtain⟨e4,q2⟩:=Jc 0 _ rfl rfl rfl
       have e5:V_ 0=I (j_:Int):=q2
       have l5:f8 51=I (j_:Int):=e4.trans e5
       obtain⟨e6,q3⟩:=Jc 5 _ rfl rfl rfl
       have e7:V_ 5=pV bJ 4:=q3
       have l4:f8 56=pV bJ 4:=e6.trans e7
       have H46:HI M w z1 (kx++eC):=(by have h_:HI M w z1 (fm++([fM]++(eC))):=JR;exact h_)
       refine bw H46 10 J aT J J l4 l5 J J J ?_
       intro KK (H47:HI M w KK ([eE,dR,J9,J8,J6,J2,J3,J4,J7,J0,box bJ #[I kd,I (-1),I (-1),I (-1),I (j_:Int),.slice none 0 0,I (-1),I (-1)] 33]++eC))
       exact⟨undef,J,trivial,H47⟩
      refine⟨fun f9 Gf V_ eC hs7 Jb hq7 H49=>?_,?_⟩
      ·
       have H50:HI M w Gf (fm++eC):=(by have h_:HI M w Gf (fm++(eC)):=H49;exact h_)
       refine fa r8 J (hs7 11 J) ?_
       exact⟨_,J,J,H50⟩
      refine⟨fun f10 Rk V_ eC XM B6 hq8 H52=>?_,?_⟩
      ·
       obtain⟨e8,q4⟩:=B6 1 _ rfl rfl rfl
       obtain⟨e9,oU⟩:V_ 1=I x1∧aJ (x1):=q4
       have oT:f10 52=I x1:=e8.trans e9
       obtain⟨TL,q5⟩:=B6 7 _ rfl rfl rfl
       have sc:V_ 7=pV bJ 1:=q5
       have oS:f10 57=pV bJ 1:=TL.trans sc
       let fI:=box bJ #[I kd,I (-1),I (-1),I (-1),I (j_:Int),.slice none 0 0,I (-1),I (-1)] 33
       have H53:HI M w Rk ([eE,dR,J9,J8,J6,J2,J3,J4,J7,J0,fI]++eC):=(by have h_:HI M w Rk (fm++([fI]++(eC))):=H52;exact h_)
       refine bw H53 10 J aT J J oS oT J J J ?_
       intro w24 (H54:HI M w w24 ([eE,dR,J9,J8,J6,J2,J3,J4,J7,J0,box bJ #[I kd,I x1,I (-1),I (-1),I (j_:Int),.slice none 0 0,I (-1),I (-1)] 33]++eC))
       exact⟨undef,J,trivial,H54⟩
      refine⟨fun f11 w25 V_ eC hs9 EC hq9 H56=>?_,?_⟩
      ·
       have H57:HI M w w25 (fm++eC):=(by have h_:HI M w w25 (fm++(eC)):=H56;exact h_)
       refine fa pW J (hs9 11 J) ?_
       exact⟨_,J,J,H57⟩
      refine⟨fun f12 w26 V_ eC acn vY ame H59=>?_,?_⟩
      ·
       obtain⟨ta,q6⟩:=vY 4 _ rfl rfl rfl
       obtain⟨r9,nR⟩:V_ 4=I x3∧aJ (x3):=q6
       have t':f12 55=I x3:=ta.trans r9
       obtain⟨tT,q7⟩:=vY 9 _ rfl rfl rfl
       have tS:V_ 9=pV bJ 2:=q7
       have u1:f12 58=pV bJ 2:=tT.trans tS
       let gU:=box bJ #[I kd,I x1,I (-1),I (-1),I (j_:Int),.slice none 0 0,I (-1),I (-1)] 33
       have H60:HI M w w26 ([eE,dR,J9,J8,J6,J2,J3,J4,J7,J0,gU]++eC):=(by have h_:HI M w w26 (fm++([gU]++(eC))):=H59;exact h_)
       refine bw H60 10 J aT J J u1 t' J J J ?_
       intro W6 (H61:HI M w W6 ([eE,dR,J9,J8,J6,J2,J3,J4,J7,J0,box bJ #[I kd,I x1,I x3,I (-1),I (j_:Int),.slice none 0 0,I (-1),I (-1)] 33]++eC))
       exact⟨undef,J,trivial,H61⟩
      exact trivial
     ·
      intro f13 w28 V_ acm Qr H63
      obtain⟨e16,q8⟩:=Qr 3 _ rfl rfl
      obtain⟨uo,e17⟩:∃(uo:Addr),V_ 3=.pointer (some uo):=q8
      have sM:=(acm 4 J).trans s8
      have xw:f13 11=pV bJ 0:=acm 11 J
      have H64:HI M w w28 ([iL a3 (dq U x0.1 x0.2 x1) c3,oL w 3 a2 (aX (fX U) (cC U (j_:Int))) c2,box aY #[I x0.1,sL a1 x0.2 c1] 26,iL a1 x0.2 c1,box eJ #[.slice aC aE aB,sL aw U av,sL ay fo ax,I cn,sL dy cr dx,sL a0 (eX U fo) c0] 80,iL aw U av,iL ay fo ax,iL dy cr dx,oL w 26 a0 (eX U fo) c0,box aZ #[I 0,I 0,I 0,I 0,I 0,.slice none 0 0,I 0,I 0] 33,rm uo x3,box bJ #[I kd,I x1,I x3,I (-1),I (j_:Int),.slice none 0 0,I (-1),I (-1)] 33]++r):=(by have h_:HI M w w28 ([iL a3 (dq U x0.1 x0.2 x1) c3,oL w 3 a2 (aX (fX U)<|cC U (j_:Int)) c2,box aY #[I x0.1,sL a1 x0.2 c1] 26,iL a1 x0.2 c1,box eJ #[.slice aC aE aB,sL aw U av,sL ay fo ax,I cn,sL dy cr dx,sL a0 (eX U fo) c0] 80,iL aw U av,iL ay fo ax,iL dy cr dx,oL w 26 a0 (eX U fo) c0,box aZ #[I 0,I 0,I 0,I 0,I 0,.slice none 0 0,I 0,I 0] 33]++([]++([]++([]++([rm (vP<|V_ 3) x3]++([]++([]++([]++([]++([box bJ #[I kd,I x1,I x3,I (-1),I (j_:Int),.slice none 0 0,I (-1),I (-1)] 33]++(r++([])))))))))))):=H63;rw[e17] at h_;rw[aoB] at h_;exact h_)
      refine cO<|k<|cB H64 11 J bT J xw au J<|k<|bw H64 9 J bT J J sM J J J J ?_
      let ma:=box aZ #[I kd,I x1,I x3,I (-1),I (j_:Int),.slice none 0 0,I (-1),I (-1)] 33
      let lZ:=box bJ #[I kd,I x1,I x3,I (-1),I (j_:Int),.slice none 0 0,I (-1),I (-1)] 33
      let rn:=[eE,dR,J9,J8,J6,J2,J3,J4,J7,ma,rm uo x3,lZ]
      intro w29 (H65:HI M w w29 (rn++r))
      refine ak (v:=.bool true) J J<|aq<|rt<|bR<|aK<|dX<|bR<|bR<|aK<|dX<|bR<|aK ?_
      have sU:(aX (fX U) (cC U (j_:Int))).find? (Cu U fo ((U.length:Nat):Int) (cW U fo (j_:Int)))=some x1:=adB gK cQ<|by simp only[Cu,←zJ,←zI,jt aM,jt cQ,jf,nH,b0,b1,b2,b3,BL]
      have qY:IL U fo=some j_:=D6 hs GX<|aaY sU
      refine iH H65 9 J bT J J J sM J au ?_
      have H66:=HI.aP (l:=rn) (l':=[J6,J2,J3,J4,J7]) (t:=r) H65 [4,5,6,7,8] au J J
      have TK:(true:Bool)=(sK U fo kd).isSome:=by exact ae0 qY
      try rw[←TK]
      refine⟨kd,x1,x3,(-1),(j_:Int),(-1),(-1),a0,c0,?_,?_,(by exact ahL lV qY sU aj bo (by rw[←zJ,←zI];assumption) (M8 PK ‹_›))⟩
      · first|rfl|simp only[TK]|(simp only[am'])
      · first|exact H66|simpa +zetaDelta only[TK,am'] using H66
    have p3:=dF b3
    refine sk<|aG<|nx<|rg<|k<|add J J j4 J aR<|ai (v:=I ((q_:Int)+1)) J J<|z ?_
    have dU:HI M w w7 (iW++r):=HI.aP (l:=fm) (l':=iW) (t:=r) cM [1,2,3,4,5,6,7,8,9] au J J
    refine bF _ ?_ ⟨(q_+1),J,s6,s7,s8,s9,eu,fb,fu,fl,gi,gS,(bG J),dU,aj,(by exact Yr gK cQ (by simp only[Cu,←zJ,←zI,jt aM,jt cQ,jf,b0,b1,b2,b3,BL]))⟩
    omega
   have p2:=dF b2
   refine aW J J J b2<|aW J J J b2<|aW J J J b2<|k<|dA J J J J b2 J<|aq<|pB J J J<|sk<|aG<|nx<|rg<|k<|add J J j4 J aR<|ai (v:=I ((q_:Int)+1)) J J<|z ?_
   have dU:HI M w w7 (iW++r):=HI.aP (l:=fm) (l':=iW) (t:=r) cM [1,2,3,4,5,6,7,8,9] au J J
   refine bF _ ?_ ⟨(q_+1),J,s6,s7,s8,s9,eu,fb,fu,fl,gi,gS,(bG J),dU,aj,(by exact Yr gK cQ (by simp only[Cu,←zJ,←zI,jt aM,jt cQ,jf,b0,b1,b2,BL]))⟩
   omega
  have p1:=dF b1
  refine ex<|aV<|bc<|bg<|aG<|nx<|rg<|k<|add J J fl J aR<|ai (v:=I ((j_:Int)+1)) J J<|z ?_
  have du:HI M w w6 (ba++r):=HI.aP (l:=iW) (l':=ba) (t:=r) cV [3,4,5,6,7,8] au J J
  refine bF _ ?_ ⟨(j_+1),J,s6,s7,s8,fb,fu,(bG J),du,aj,(by exact sG hs (Y8<|adC gK<|by unfold l6;omega))⟩
  omega
 have p0:=dF b0
 refine ex<|aV<|bc<|bg<|cO<|k<|bd (v:=.agg #[I 0,I 0,I 0,I 0,I 0,.slice none 0 0,I 0,I 0]) J ew (fun _=>aS)<|k<|bw H4 5 J bT J J s2 J J J J ?_
 intro w3 (H5:HI M w w3 (ba++r))
 refine ak (v:=.bool false) J J<|aq<|rt ?_
 have qY:IL U fo=none:=BG hs<|by rw[A6] at p0;omega
 refine iH H5 5 J bT J J J s2 J au ?_
 have H6:=HI.aP (l:=ba) (l':=[J6,J2,J3,J4,J7]) (t:=r) H5 [0,1,2,3,4] au J J
 have e0:(false:Bool)=(sK U fo kd).isSome:=by rw[Xg qY];rfl
 try rw[←e0]
 refine⟨0,0,0,0,0,0,0,a0,c0,?_,?_,(by exact uv (Xg qY) NZ)⟩
 · first|rfl|simp only[e0]|(simp only[am'])
 · first|exact H6|simpa +zetaDelta only[e0,am'] using H6
theorem adq:cA aI 31:=cI Tryz.func31
theorem QG:cA aI 32:=cI Tryz.func32
theorem E7:aI.underlying 82=some (.slice 81):=aS
theorem tp:ef aI 81 1 false 8 (.nilFunc):=⟨aS,aS⟩
theorem ajc:cA aI 33:=cI Tryz.func33
theorem ajb:cA aI 34:=cI Tryz.func34
theorem aja:cA aI 35:=cI Tryz.func35
theorem ai':cA aI 36:=cI Tryz.func36
theorem ai_:cA aI 37:=cI Tryz.func37
theorem ai9:cA aI 38:=cI Tryz.func38
theorem ai8:cA aI 39:=cI Tryz.func39
theorem MV (hM:eO M w) (hT:fU 0 w) (dL:cD M w aw av U) (gb:cD M w ay ax fo) (pH:aJ lv) (ho:ig U) (dB:U.length≤64) (ez:fo.length=U.length) (fL:∀x∈fo,x<((U.length:Nat):Int)) (L_:lv=1∨lv=2∨lv=3):Calls aI 16 #[.agg #[.slice aC aE aB,sL aw U av,sL ay fo ax],I lv] w (cp fun v w'=>∃(k_:Int) (r_:Int) (a_:Int) (b_:Int) (o_:Int) (f_:Int) (s_:Int),v=.tuple #[.agg #[I k_,I r_,I a_,I b_,I o_,.slice none 0 0,I f_,I s_],I (fg U fo lv)]∧Ext w w'∧qE (iN U fo lv) k_ r_ a_ b_ o_):=by
 refine dG 57 Tryz.func16 J J J hM fun f0 ha H=>?_
 let J0:=iL aw U av
 have H0:=H.put (it:=J0) J<|by rw[bP];exact dL
 let J1:=iL ay fo ax
 have H1:=H0.put (it:=J1) J<|by rw[aD rfl,bP];exact gb
 have ja:=bj dL
 have kP:=bj gb
 have i0:f0 0=.agg #[.slice aC aE aB,sL aw U av,sL ay fo ax]:=ha 0 bl
 have i1:f0 1=I lv:=ha 1 bl
 have lj:bK ((U.length:Nat):Int) (cu U fo)=true:=pL fo aj
 have ain:=SA (lv:=lv)
 refine az<|k<|bx H1 J i0 ?_
 let ba:=[J1,J0]
 intro aZ w0 bY (H2:HI M w w0 (box aZ #[.slice aC aE aB,sL aw U av,sL ay fo ax] 47::ba))
 let J2:=box aZ #[.slice aC aE aB,sL aw U av,sL ay fo ax] 47
 refine k<|al H2 bT ?_
 let bV:=J2::ba
 intro aY w1 cT (H3:HI M w w1 (box aY #[I 0,I 0,I 0,I 0,I 0,.slice none 0 0,I 0,I 0] 33::bV))
 let J3:=box aY #[I 0,I 0,I 0,I 0,I 0,.slice none 0 0,I 0,I 0] 33
 refine ak (v:=I 0) J J<|bz<|ai J i1<|k ?_
 have bS:=JF (lv:=lv) H3.mb pH
 refine ca adq J (ec J e0) bS ?_
 rintro _ w2 ⟨a0,c0,rfl,fk,cw⟩
 have H4:=H3.eT cw
 refine ak (v:=sL a0 (dV lv) c0) J J<|aq<|sq<|az<|ai (v:=sL a0 (dV lv) c0) J J<|k<|TB J J J J cG<|aq<|pB J J (Bool.eq_false_iff.2 fun h_=>Vz L_ (Oo (H4.at_ 0 J) h_))<|sk<|nx<|sq<|lH [.r,.r,.r,.r,.e,.e] (fun _=>True) J aS (fun _ _=>trivial)<|yq J J<|kq (fun _ x_=>cB (H4.ext x_) 2 J eh J J au J e1)<|bH<|kq (fun _ x_=>cB (H4.ext x_) 2 J eh J J au J e1)<|zq<|yu J (fun _ v w'=>∃(a1:OA) (c1:Nat),v=.agg #[I (U.length:Int),sL a1 (cu U fo) c1]∧RV H4.fS w' (sL a1 (cu U fo) c1) (cu U fo)) J nh J (fun v_ _ x_ _=>have fP:=BN (U:=U) (fo:=fo) (aC:=aC) (aE:=aE) (aB:=aB) (w:=v_) (H4.ext x_).mb ((H4.ext x_).rv 4 rfl) ((H4.ext x_).rv 3 rfl) (by exact ho) aj (by exact ez) (by exact fL);ca QG rfl (ec J e0) fP (fun _ w4 ⟨a2,c2,e_,iP,dZ⟩=>⟨_,J,iP,⟨a2,c2,e_,dZ⟩⟩))<|lL J (fun _ v w'=>∃(a3:OA) (c3:Nat),v=.agg #[.slice aC aE aB,sL aw U av,sL ay fo ax,I (U.length:Int),sL a3 (cu U fo) c3,.slice none 0 0]∧RV H4.fS w' (sL a3 (cu U fo) c3) (cu U fo)) 0 J J nh J (fun _ _ _ _ _ h_=>let ⟨a4,c4,s0,iT⟩:=h_;bd (v:=.agg #[.slice aC aE aB,sL aw U av,sL ay fo ax,I (U.length:Int),sL a4 (cu U fo) c4,.slice none 0 0]) rfl (cm J<|cm s0 ew) (fun _=>aS) ⟨_,J,Ext.refl _,⟨a4,c4,J,iT⟩⟩)<|ye<|ye<|yz ?_
 intro w5 f0 _ jc _ _ cx iJ
 have du:=H4.ext jc
 have s1:=cx 4 J
 have s2:=cx 6 J
 obtain⟨a5,c5,s3,jS⟩:=iJ 0 _ _ rfl
 let J4:=iL a5 (cu U fo) c5
 have dJ:=du.put (it:=J4) J jS
 refine jw<|bx dJ J s3 ?_
 let J5:=oL w 3 a0 (dV lv) c0
 let dz:=J4::J5::J3::bV
 intro bJ w6 jK (cM:HI M w w6 (box bJ #[.slice aC aE aB,sL aw U av,sL ay fo ax,I (U.length:Int),sL a5 (cu U fo) c5,.slice none 0 0] 80::dz))
 refine jw<|jO (v:=pV bJ 0) J J<|kz<|cO<|ai (v:=pV bJ 0) J J<|k<|LJ J J<|ai (v:=pV bJ 0) J J<|k<|LJ J J<|ai (v:=pV bJ 0) J J<|k<|LJ J J<|ai (v:=pV bJ 0) J J<|k<|LJ J J<|ai (v:=pV bJ 0) J J<|k<|LJ J J<|ai (v:=pV bJ 0) J J<|k<|LJ J J<|ai (v:=pV bJ 0) J J<|k<|LJ J J<|k<|bsB (cells:=#[.nilFunc,.func (.func 33) #[pV bJ 0] #[],.func (.func 34) #[pV bJ 0] #[],.func (.func 35) #[pV bJ 0] #[],.func (.func 36) #[pV bJ 0] #[],.func (.func 37) #[pV bJ 0] #[],.func (.func 38) #[pV bJ 0] #[],.func (.func 39) #[pV bJ 0] #[]]) (e:=81) cM J (cm J<|cm J<|cm J<|cm J<|cm J<|cm J<|cm J<|cm J ew) (fun _=>aS) ?_
 intro g0 w7 lC (dU:HI M w w7 (box g0 #[.nilFunc,.func (.func 33) #[pV bJ 0] #[],.func (.func 34) #[pV bJ 0] #[],.func (.func 35) #[pV bJ 0] #[],.func (.func 36) #[pV bJ 0] #[],.func (.func 37) #[pV bJ 0] #[],.func (.func 38) #[pV bJ 0] #[],.func (.func 39) #[pV bJ 0] #[]] 81::box bJ #[.slice aC aE aB,sL aw U av,sL ay fo ax,I (U.length:Int),sL a5 (cu U fo) c5,.slice none 0 0] 80::dz))
 let J6:=box g0 #[.nilFunc,.func (.func 33) #[pV bJ 0] #[],.func (.func 34) #[pV bJ 0] #[],.func (.func 35) #[pV bJ 0] #[],.func (.func 36) #[pV bJ 0] #[],.func (.func 37) #[pV bJ 0] #[],.func (.func 38) #[pV bJ 0] #[],.func (.func 39) #[pV bJ 0] #[]] 81
 refine ak (v:=.slice (some ⟨g0,0,none⟩) 8 8) J J<|aq<|sq<|az<|ai J s2<|k<|dD J J cG<|ai (v:=I 0) J J<|aq<|bk ?_
 have dt:=dU.ql (Int×(List<|List bt)) 26
 refine lp (fun m f w'=>∃(j_:Nat) (jd:List (Int×(List<|List bt))) (a6:OA) (c6:Nat),m=(dV lv).length-j_∧f 4=pV aY 0∧f 7=pV bJ 0∧f 8=.slice (some ⟨g0,0,none⟩) 8 8∧f 38=sL a0 (dV lv) c0∧f 39=I ((dV lv).length:Int)∧f 40=I (j_:Int)∧HI M w w' (oL w 26 a6 jd c6::J6::box bJ #[.slice aC aE aB,sL aw U av,sL ay fo ax,I (U.length:Int),sL a5 (cu U fo) c5,sL a6 jd c6] 80::dz)∧(j_≤(dV lv).length)∧(a6=none∧jd=[]∨jd=eX U fo)∧(∀y∈(dV lv).take j_,ki U fo y=none)) _ ⟨0,([]:List (Int×(List<|List bt))),none,0,J,s1,J,J,J,J,(bG J),dt,aj,(by exact Or.inl ⟨J,J⟩),(by intro y h;simp at h)⟩ ?_
 rintro _ f1 w8 ⟨j_,jd,a6,c6,rfl,s4,s5,s6,s7,s8,s9,cR,pA,FD,hs⟩
 refine az<|k<|lss J J s9 s8<|aq<|sq<|cd (b:=decide ((j_:Int)<((dV lv).length:Int))) J J (fun b0=>?_)<|fun b0=>?_
 ·
  have p0:=dT b0
  refine sk<|nx<|sq<|bk<|az<|k<|gW (cR.at_ 4 J) J J s7 s9 aj cG aT ?_
  intro g1 x0 iC aM cz
  refine k<|mw cz aT J J ?_
  intro je
  refine ak (v:=I x0) J J<|aq<|sq ?_
  rcases (show x0=1∨x0=2∨x0=3∨x0=4∨x0=5∨x0=6∨x0=7 from by exact LQ (dC aM)) with rfl|rfl|rfl|rfl|rfl|rfl|rfl
  ·
   refine rg<|ai J s6<|ai (v:=I 1) J J<|k<|LY J J J J 1 J au E7 tp<|bq cR 1 J tp J J J<|ai (v:=I 1) J J<|k ?_
   have eZ:=WS (U:=U) (fo:=fo) (cn:=(U.length:Int)) (cr:=(cu U fo)) (kd:=1) (w:=w8) (M:=fun _=>False) (fun _ h_=>h_.elim) ((cR.rv 8 J).lift (Up.less fun _ _ h_=>h_.elim)) ((cR.rv 7 J).lift (Up.less fun _ _ h_=>h_.elim)) aR ((cR.rv 3 J).lift (Up.less fun _ _ h_=>h_.elim)) bo ⟨cR.at_ 2 rfl,fun h_=>h_⟩
   refine MH ajc J J J (ec J e0) eZ ?_
   rintro _ w9 ⟨o0,o1,o2,o3,o4,o5,o6,rfl,l3,q0⟩
   have dI:=cR.ext l3
   refine ai (v:=.tuple #[.agg #[I o0,I o1,I o2,I o3,I o4,.slice none 0 0,I o5,I o6],.bool ((pD fo 1).isSome)]) J J<|k<|xt J J J<|k<|xt J J J<|k<|al dI bT ?_
   let J7:=box bJ #[.slice aC aE aB,sL aw U av,sL ay fo ax,I (U.length:Int),sL a5 (cu U fo) c5,sL a6 jd c6] 80
   let iW:=oL w 26 a6 jd c6::J6::J7::dz
   intro fh dM yp (dw:HI M w dM (box fh #[I 0,I 0,I 0,I 0,I 0,.slice none 0 0,I 0,I 0] 33::iW))
   refine k<|bw dw 0 J bT J J J J J J J ?_
   let J8:=box fh #[I o0,I o1,I o2,I o3,I o4,.slice none 0 0,I o5,I o6] 33
   intro ee (cE:HI M w ee (J8::iW))
   refine ak (v:=.bool ((pD fo 1).isSome)) J J<|bz<|ai (v:=.bool ((pD fo 1).isSome)) J J<|z<|nx<|cd (b:=(pD fo 1).isSome) J J (fun b1=>?_)<|fun b1=>?_
   ·
    refine az<|k<|cB cE 0 J bT J J au J<|k<|bw cE 6 J bT J J s4 J J J J ?_
    intro ft (df:HI M w ft [J8,oL w 26 a6 jd c6,J6,J7,J4,J5,box aY #[I o0,I o1,I o2,I o3,I o4,.slice none 0 0,I o5,I o6] 33,J2,J1,J0])
    refine ak (v:=I 0) J J<|aq<|rt<|bR<|aK<|dX<|bR<|aK<|iH df 6 J bT J J J s4 J au ?_
    have e8:(0:Int)=fg U fo lv:=by exact sH (od hs aM Vb bo) bo
    have bu:=iK (fun (lM:Int)=>(.tuple #[.agg #[I o0,I o1,I o2,I o3,I o4,.slice none 0 0,I o5,I o6],I lM]:Value)) e8
    exact⟨o0,o1,o2,o3,o4,o5,o6,bu,df.below,(by exact xf (od hs aM Vb bo) bo)⟩
   refine sk<|aG<|nx<|rg<|k<|add J J s9 J aR<|ai (v:=I ((j_:Int)+1)) J J<|z ?_
   have df:=cE.put (it:=J4) J<|cE.rv 4 J
   have dH:=df.put (it:=J1) J<|df.rv 9 J
   have eP:=dH.put (it:=J0) J<|dH.rv 11 J
   have ff:HI M w ee iW:=eP.bX [4,5,6,2,8,9,10,1,0] au J
   refine bF _ ?_ ⟨(j_+1),jd,a6,c6,J,s4,s5,s6,s7,s8,(bG J),ff,aj,(by exact FD),(by exact Bc hs aM Vb bo)⟩
   omega
  ·
   refine rg<|ai J s6<|ai (v:=I 2) J J<|k<|LY J J J J 2 J au E7 tp<|bq cR 1 J tp J J J<|ai (v:=I 2) J J<|k ?_
   have eZ:=Ub (cn:=(U.length:Int)) (cr:=(cu U fo)) (kd:=2) (w:=w8) (M:=fun _=>False) (fun _ h_=>h_.elim) aR ((cR.rv 3 J).lift (Up.less fun _ _ h_=>h_.elim)) bo ⟨cR.at_ 2 rfl,fun h_=>h_⟩<|by exact lj
   refine MH ajb J J J (ec J e0) eZ ?_
   rintro _ w9 ⟨o0,o1,o2,o3,o4,o5,o6,rfl,l3,q0⟩
   have dI:=cR.ext l3
   refine ai (v:=.tuple #[.agg #[I o0,I o1,I o2,I o3,I o4,.slice none 0 0,I o5,I o6],.bool ((kh (U.length:Int) (cu U fo) 2).isSome)]) J J<|k<|xt J J J<|k<|xt J J J<|k<|al dI bT ?_
   let J9:=box bJ #[.slice aC aE aB,sL aw U av,sL ay fo ax,I (U.length:Int),sL a5 (cu U fo) c5,sL a6 jd c6] 80
   let fm:=oL w 26 a6 jd c6::J6::J9::dz
   intro fh dM yp (dw:HI M w dM (box fh #[I 0,I 0,I 0,I 0,I 0,.slice none 0 0,I 0,I 0] 33::fm))
   refine k<|bw dw 0 J bT J J J J J J J ?_
   let dR:=box fh #[I o0,I o1,I o2,I o3,I o4,.slice none 0 0,I o5,I o6] 33
   intro ee (cE:HI M w ee (dR::fm))
   refine ak (v:=.bool ((kh (U.length:Int) (cu U fo) 2).isSome)) J J<|bz<|ai (v:=.bool ((kh (U.length:Int) (cu U fo) 2).isSome)) J J<|z<|nx<|cd (b:=(kh (U.length:Int) (cu U fo) 2).isSome) J J (fun b1=>?_)<|fun b1=>?_
   ·
    refine az<|k<|cB cE 0 J bT J J au J<|k<|bw cE 6 J bT J J s4 J J J J ?_
    intro ft (df:HI M w ft [dR,oL w 26 a6 jd c6,J6,J9,J4,J5,box aY #[I o0,I o1,I o2,I o3,I o4,.slice none 0 0,I o5,I o6] 33,J2,J1,J0])
    refine ak (v:=I 0) J J<|aq<|rt<|bR<|aK<|dX<|bR<|aK<|iH df 6 J bT J J J s4 J au ?_
    have e8:(0:Int)=fg U fo lv:=by exact sH (od hs aM Va bo) bo
    have bu:=iK (fun (lM:Int)=>(.tuple #[.agg #[I o0,I o1,I o2,I o3,I o4,.slice none 0 0,I o5,I o6],I lM]:Value)) e8
    exact⟨o0,o1,o2,o3,o4,o5,o6,bu,df.below,(by exact xf (od hs aM Va bo) bo)⟩
   refine sk<|aG<|nx<|rg<|k<|add J J s9 J aR<|ai (v:=I ((j_:Int)+1)) J J<|z ?_
   have df:=cE.put (it:=J4) J<|cE.rv 4 J
   have dH:=df.put (it:=J1) J<|df.rv 9 J
   have eP:=dH.put (it:=J0) J<|dH.rv 11 J
   have ff:HI M w ee fm:=eP.bX [4,5,6,2,8,9,10,1,0] au J
   refine bF _ ?_ ⟨(j_+1),jd,a6,c6,J,s4,s5,s6,s7,s8,(bG J),ff,aj,(by exact FD),(by exact Bc hs aM Va bo)⟩
   omega
  ·
   refine rg<|ai J s6<|ai (v:=I 3) J J<|k<|LY J J J J 3 J au E7 tp<|bq cR 1 J tp J J J<|ai (v:=I 3) J J<|k ?_
   have eZ:=Ua (U:=U) (fo:=fo) (cn:=(U.length:Int)) (cr:=(cu U fo)) (kd:=3) (w:=w8) (M:=fun _=>False) (fun _ h_=>h_.elim) (hT.ext cR.below) ((cR.rv 8 J).lift (Up.less fun _ _ h_=>h_.elim)) ((cR.rv 7 J).lift (Up.less fun _ _ h_=>h_.elim)) aR ((cR.rv 3 J).lift (Up.less fun _ _ h_=>h_.elim)) bo ⟨cR.at_ 2 rfl,fun h_=>h_⟩ (by exact lj)<|by exact ez
   refine MH aja J J J (ec J e0) eZ ?_
   rintro _ w9 ⟨o0,o1,o2,o3,o4,o5,o6,rfl,l3,q0⟩
   have dI:=cR.ext l3
   refine ai (v:=.tuple #[.agg #[I o0,I o1,I o2,I o3,I o4,.slice none 0 0,I o5,I o6],.bool ((qo U fo (U.length:Int) (cu U fo) 3).isSome)]) J J<|k<|xt J J J<|k<|xt J J J<|k<|al dI bT ?_
   let eE:=box bJ #[.slice aC aE aB,sL aw U av,sL ay fo ax,I (U.length:Int),sL a5 (cu U fo) c5,sL a6 jd c6] 80
   let kx:=oL w 26 a6 jd c6::J6::eE::dz
   intro fh dM yp (dw:HI M w dM (box fh #[I 0,I 0,I 0,I 0,I 0,.slice none 0 0,I 0,I 0] 33::kx))
   refine k<|bw dw 0 J bT J J J J J J J ?_
   let fM:=box fh #[I o0,I o1,I o2,I o3,I o4,.slice none 0 0,I o5,I o6] 33
   intro ee (cE:HI M w ee (fM::kx))
   refine ak (v:=.bool ((qo U fo (U.length:Int) (cu U fo) 3).isSome)) J J<|bz<|ai (v:=.bool ((qo U fo (U.length:Int) (cu U fo) 3).isSome)) J J<|z<|nx<|cd (b:=(qo U fo (U.length:Int) (cu U fo) 3).isSome) J J (fun b1=>?_)<|fun b1=>?_
   ·
    refine az<|k<|cB cE 0 J bT J J au J<|k<|bw cE 6 J bT J J s4 J J J J ?_
    intro ft (df:HI M w ft [fM,oL w 26 a6 jd c6,J6,eE,J4,J5,box aY #[I o0,I o1,I o2,I o3,I o4,.slice none 0 0,I o5,I o6] 33,J2,J1,J0])
    refine ak (v:=I 0) J J<|aq<|rt<|bR<|aK<|dX<|bR<|aK<|iH df 6 J bT J J J s4 J au ?_
    have e8:(0:Int)=fg U fo lv:=by exact sH (od hs aM U_ bo) bo
    have bu:=iK (fun (lM:Int)=>(.tuple #[.agg #[I o0,I o1,I o2,I o3,I o4,.slice none 0 0,I o5,I o6],I lM]:Value)) e8
    exact⟨o0,o1,o2,o3,o4,o5,o6,bu,df.below,(by exact xf (od hs aM U_ bo) bo)⟩
   refine sk<|aG<|nx<|rg<|k<|add J J s9 J aR<|ai (v:=I ((j_:Int)+1)) J J<|z ?_
   have df:=cE.put (it:=J4) J<|cE.rv 4 J
   have dH:=df.put (it:=J1) J<|df.rv 9 J
   have eP:=dH.put (it:=J0) J<|dH.rv 11 J
   have ff:HI M w ee kx:=eP.bX [4,5,6,2,8,9,10,1,0] au J
   refine bF _ ?_ ⟨(j_+1),jd,a6,c6,J,s4,s5,s6,s7,s8,(bG J),ff,aj,(by exact FD),(by exact Bc hs aM U_ bo)⟩
   omega
  ·
   refine rg<|ai J s6<|ai (v:=I 4) J J<|k<|LY J J J J 4 J au E7 tp<|bq cR 1 J tp J J J<|ai (v:=I 4) J J<|k ?_
   have eZ:=NT (U:=U) (fo:=fo) (cn:=(U.length:Int)) (cr:=(cu U fo)) (kd:=4) (w:=w8) (M:=fun _=>False) (fun _ h_=>h_.elim) (hT.ext cR.below) ((cR.rv 8 J).lift (Up.less fun _ _ h_=>h_.elim)) ((cR.rv 7 J).lift (Up.less fun _ _ h_=>h_.elim)) aR ((cR.rv 3 J).lift (Up.less fun _ _ h_=>h_.elim)) bo ⟨cR.at_ 2 rfl,fun h_=>h_⟩ (by exact lj)<|by exact ez
   refine MH ai' J J J (ec J e0) eZ ?_
   rintro _ w9 ⟨o0,o1,o2,o3,o4,o5,o6,rfl,l3,q0⟩
   have dI:=cR.ext l3
   refine ai (v:=.tuple #[.agg #[I o0,I o1,I o2,I o3,I o4,.slice none 0 0,I o5,I o6],.bool ((qp U fo (U.length:Int) (cu U fo) 4).isSome)]) J J<|k<|xt J J J<|k<|xt J J J<|k<|al dI bT ?_
   let fI:=box bJ #[.slice aC aE aB,sL aw U av,sL ay fo ax,I (U.length:Int),sL a5 (cu U fo) c5,sL a6 jd c6] 80
   let rn:=oL w 26 a6 jd c6::J6::fI::dz
   intro fh dM yp (dw:HI M w dM (box fh #[I 0,I 0,I 0,I 0,I 0,.slice none 0 0,I 0,I 0] 33::rn))
   refine k<|bw dw 0 J bT J J J J J J J ?_
   let gU:=box fh #[I o0,I o1,I o2,I o3,I o4,.slice none 0 0,I o5,I o6] 33
   intro ee (cE:HI M w ee (gU::rn))
   refine ak (v:=.bool ((qp U fo (U.length:Int) (cu U fo) 4).isSome)) J J<|bz<|ai (v:=.bool ((qp U fo (U.length:Int) (cu U fo) 4).isSome)) J J<|z<|nx<|cd (b:=(qp U fo (U.length:Int) (cu U fo) 4).isSome) J J (fun b1=>?_)<|fun b1=>?_
   ·
    refine az<|k<|cB cE 0 J bT J J au J<|k<|bw cE 6 J bT J J s4 J J J J ?_
    intro ft (df:HI M w ft [gU,oL w 26 a6 jd c6,J6,fI,J4,J5,box aY #[I o0,I o1,I o2,I o3,I o4,.slice none 0 0,I o5,I o6] 33,J2,J1,J0])
    refine ak (v:=I 0) J J<|aq<|rt<|bR<|aK<|dX<|bR<|aK<|iH df 6 J bT J J J s4 J au ?_
    have e8:(0:Int)=fg U fo lv:=by exact sH (od hs aM U9 bo) bo
    have bu:=iK (fun (lM:Int)=>(.tuple #[.agg #[I o0,I o1,I o2,I o3,I o4,.slice none 0 0,I o5,I o6],I lM]:Value)) e8
    exact⟨o0,o1,o2,o3,o4,o5,o6,bu,df.below,(by exact xf (od hs aM U9 bo) bo)⟩
   refine sk<|aG<|nx<|rg<|k<|add J J s9 J aR<|ai (v:=I ((j_:Int)+1)) J J<|z ?_
   have df:=cE.put (it:=J4) J<|cE.rv 4 J
   have dH:=df.put (it:=J1) J<|df.rv 9 J
   have eP:=dH.put (it:=J0) J<|dH.rv 11 J
   have ff:HI M w ee rn:=eP.bX [4,5,6,2,8,9,10,1,0] au J
   refine bF _ ?_ ⟨(j_+1),jd,a6,c6,J,s4,s5,s6,s7,s8,(bG J),ff,aj,(by exact FD),(by exact Bc hs aM U9 bo)⟩
   omega
  ·
   refine rg<|ai J s6<|ai (v:=I 5) J J<|k<|LY J J J J 5 J au E7 tp<|bq cR 1 J tp J J J<|ai (v:=I 5) J J<|k ?_
   have eZ:=MU (U:=U) (fo:=fo) (cn:=(U.length:Int)) (cr:=(cu U fo)) (kd:=5) (w:=w8) (M:=fun _=>False) (fun _ h_=>h_.elim) (hT.ext cR.below) ((cR.rv 8 J).lift (Up.less fun _ _ h_=>h_.elim)) ((cR.rv 7 J).lift (Up.less fun _ _ h_=>h_.elim)) aR ((cR.rv 3 J).lift (Up.less fun _ _ h_=>h_.elim)) bo ⟨cR.at_ 2 rfl,fun h_=>h_⟩ (by exact ho) (by exact dB) (by exact ez) (by exact fL) aj<|by rfl
   refine MH ai_ J J J (ec J e0) eZ ?_
   rintro _ w9 ⟨o0,o1,o2,o3,o4,o5,o6,rfl,l3,q0⟩
   have dI:=cR.ext l3
   refine ai (v:=.tuple #[.agg #[I o0,I o1,I o2,I o3,I o4,.slice none 0 0,I o5,I o6],.bool ((kh ((U.length:Nat):Int) (AK U fo) 5).isSome)]) J J<|k<|xt J J J<|k<|xt J J J<|k<|al dI bT ?_
   let ma:=box bJ #[.slice aC aE aB,sL aw U av,sL ay fo ax,I (U.length:Int),sL a5 (cu U fo) c5,sL a6 jd c6] 80
   let vJ:=oL w 26 a6 jd c6::J6::ma::dz
   intro fh dM yp (dw:HI M w dM (box fh #[I 0,I 0,I 0,I 0,I 0,.slice none 0 0,I 0,I 0] 33::vJ))
   refine k<|bw dw 0 J bT J J J J J J J ?_
   let lZ:=box fh #[I o0,I o1,I o2,I o3,I o4,.slice none 0 0,I o5,I o6] 33
   intro ee (cE:HI M w ee (lZ::vJ))
   refine ak (v:=.bool ((kh ((U.length:Nat):Int) (AK U fo) 5).isSome)) J J<|bz<|ai (v:=.bool ((kh ((U.length:Nat):Int) (AK U fo) 5).isSome)) J J<|z<|nx<|cd (b:=(kh ((U.length:Nat):Int) (AK U fo) 5).isSome) J J (fun b1=>?_)<|fun b1=>?_
   ·
    refine az<|k<|cB cE 0 J bT J J au J<|k<|bw cE 6 J bT J J s4 J J J J ?_
    intro ft (df:HI M w ft [lZ,oL w 26 a6 jd c6,J6,ma,J4,J5,box aY #[I o0,I o1,I o2,I o3,I o4,.slice none 0 0,I o5,I o6] 33,J2,J1,J0])
    refine ak (v:=I 0) J J<|aq<|rt<|bR<|aK<|dX<|bR<|aK<|iH df 6 J bT J J J s4 J au ?_
    have e8:(0:Int)=fg U fo lv:=by exact sH (od hs aM U7 bo) bo
    have bu:=iK (fun (lM:Int)=>(.tuple #[.agg #[I o0,I o1,I o2,I o3,I o4,.slice none 0 0,I o5,I o6],I lM]:Value)) e8
    exact⟨o0,o1,o2,o3,o4,o5,o6,bu,df.below,(by exact xf (od hs aM U7 bo) bo)⟩
   refine sk<|aG<|nx<|rg<|k<|add J J s9 J aR<|ai (v:=I ((j_:Int)+1)) J J<|z ?_
   have df:=cE.put (it:=J4) J<|cE.rv 4 J
   have dH:=df.put (it:=J1) J<|df.rv 9 J
   have eP:=dH.put (it:=J0) J<|dH.rv 11 J
   have ff:HI M w ee vJ:=eP.bX [4,5,6,2,8,9,10,1,0] au J
   refine bF _ ?_ ⟨(j_+1),jd,a6,c6,J,s4,s5,s6,s7,s8,(bG J),ff,aj,(by exact FD),(by exact Bc hs aM U7 bo)⟩
   omega
  ·
   refine rg<|ai J s6<|ai (v:=I 6) J J<|k<|LY J J J J 6 J au E7 tp<|bq cR 1 J tp J J J<|ai (v:=I 6) J J<|k ?_
   have dI:HI M w w8 ([box bJ #[.slice aC aE aB,sL aw U av,sL ay fo ax,I (U.length:Int),sL a5 (cu U fo) c5,sL a6 jd c6] 80,J0,J1,J4,oL w 26 a6 jd c6]++[J6,J5,J3,J2]):=cR.bX [2,8,7,3,0,1,4,5,6] au J
   have eZ:=T' (eJ:=bJ) (aC:=aC) (aE:=aE) (aB:=aB) (aw:=aw) (av:=av) (U:=U) (ay:=ay) (ax:=ax) (fo:=fo) (cn:=(U.length:Int)) (dy:=a5) (dx:=c5) (cr:=(cu U fo)) (iO:=a6) (jH:=c6) (sw:=jd) (kd:=6) (w:=w) (w_:=w8) (r:=[J6,J5,J3,J2]) (M:=M) aR bo hT (by exact ho) (by exact dB) (by exact ez) (by exact fL) aj (by rfl) (by exact FD) dI
   refine MH ai9 J J J (ec J e0) eZ ?_
   rintro _ w9 ⟨o0,o1,o2,o3,o4,o5,o6,a7,c7,rfl,dw,q0⟩
   let rM:=box bJ #[.slice aC aE aB,sL aw U av,sL ay fo ax,I (U.length:Int),sL a5 (cu U fo) c5,sL a7 (eX U fo) c7] 80
   let jz:=oL w 26 a7 (eX U fo) c7
   let DK:=[rM,J0,J1,J4,jz,J6,J5,J3,J2]
   have cE:HI M w w9 DK:=dw
   refine ai (v:=.tuple #[.agg #[I o0,I o1,I o2,I o3,I o4,.slice none 0 0,I o5,I o6],.bool ((sK U fo 6).isSome)]) J J<|k<|xt J J J<|k<|xt J J J<|k<|al cE bT ?_
   intro fh dM l3 (df:HI M w dM (box fh #[I 0,I 0,I 0,I 0,I 0,.slice none 0 0,I 0,I 0] 33::DK))
   refine k<|bw df 0 J bT J J J J J J J ?_
   let nO:=box fh #[I o0,I o1,I o2,I o3,I o4,.slice none 0 0,I o5,I o6] 33
   intro ee (dH:HI M w ee (nO::DK))
   refine ak (v:=.bool ((sK U fo 6).isSome)) J J<|bz<|ai (v:=.bool ((sK U fo 6).isSome)) J J<|z<|nx<|cd (b:=(sK U fo 6).isSome) J J (fun b1=>?_)<|fun b1=>?_
   ·
    refine az<|k<|cB dH 0 J bT J J au J<|k<|bw dH 8 J bT J J s4 J J J J ?_
    intro ft (eP:HI M w ft [nO,rM,J0,J1,J4,jz,J6,J5,box aY #[I o0,I o1,I o2,I o3,I o4,.slice none 0 0,I o5,I o6] 33,J2])
    refine ak (v:=I 0) J J<|aq<|rt<|bR<|aK<|dX<|bR<|aK<|iH eP 8 J bT J J J s4 J au ?_
    have e8:(0:Int)=fg U fo lv:=by exact sH (od hs aM U6 bo) bo
    have bu:=iK (fun (lM:Int)=>(.tuple #[.agg #[I o0,I o1,I o2,I o3,I o4,.slice none 0 0,I o5,I o6],I lM]:Value)) e8
    exact⟨o0,o1,o2,o3,o4,o5,o6,bu,eP.below,(by exact xf (od hs aM U6 bo) bo)⟩
   refine sk<|aG<|nx<|rg<|k<|add J J s9 J aR<|ai (v:=I ((j_:Int)+1)) J J<|z ?_
   have eP:=dH.put (it:=J4) J<|dH.rv 4 J
   have ff:=eP.put (it:=J1) J<|eP.rv 4 J
   have gr:=ff.put (it:=J0) J<|ff.rv 4 J
   have iy:HI M w ee (jz::J6::rM::dz):=gr.bX [8,9,4,2,10,11,12,1,0] au J
   refine bF _ ?_ ⟨(j_+1),(eX U fo),a7,c7,J,s4,s5,s6,s7,s8,(bG J),iy,aj,(by exact Or.inr rfl),(by exact Bc hs aM U6 bo)⟩
   omega
  refine rg<|ai J s6<|ai (v:=I 7) J J<|k<|LY J J J J 7 J au E7 tp<|bq cR 1 J tp J J J<|ai (v:=I 7) J J<|k ?_
  have dI:HI M w w8 ([box bJ #[.slice aC aE aB,sL aw U av,sL ay fo ax,I (U.length:Int),sL a5 (cu U fo) c5,sL a6 jd c6] 80,J0,J1,J4,oL w 26 a6 jd c6]++[J6,J5,J3,J2]):=cR.bX [2,8,7,3,0,1,4,5,6] au J
  have eZ:=WR (eJ:=bJ) (aC:=aC) (aE:=aE) (aB:=aB) (aw:=aw) (av:=av) (U:=U) (ay:=ay) (ax:=ax) (fo:=fo) (cn:=(U.length:Int)) (dy:=a5) (dx:=c5) (cr:=(cu U fo)) (iO:=a6) (jH:=c6) (sw:=jd) (kd:=7) (w:=w) (w_:=w8) (r:=[J6,J5,J3,J2]) (M:=M) aR bo hT (by exact ho) (by exact dB) (by exact ez) (by exact fL) aj (by rfl) (by exact FD) dI
  refine MH ai8 J J J (ec J e0) eZ ?_
  rintro _ w9 ⟨o0,o1,o2,o3,o4,o5,o6,a7,c7,rfl,dw,q0⟩
  let pw:=box bJ #[.slice aC aE aB,sL aw U av,sL ay fo ax,I (U.length:Int),sL a5 (cu U fo) c5,sL a7 (eX U fo) c7] 80
  let mW:=oL w 26 a7 (eX U fo) c7
  let zn:=[pw,J0,J1,J4,mW,J6,J5,J3,J2]
  have cE:HI M w w9 zn:=dw
  refine ai (v:=.tuple #[.agg #[I o0,I o1,I o2,I o3,I o4,.slice none 0 0,I o5,I o6],.bool ((sI U fo 7).isSome)]) J J<|k<|xt J J J<|k<|xt J J J<|k<|al cE bT ?_
  intro fh dM l3 (df:HI M w dM (box fh #[I 0,I 0,I 0,I 0,I 0,.slice none 0 0,I 0,I 0] 33::zn))
  refine k<|bw df 0 J bT J J J J J J J ?_
  let nN:=box fh #[I o0,I o1,I o2,I o3,I o4,.slice none 0 0,I o5,I o6] 33
  intro ee (dH:HI M w ee (nN::zn))
  refine ak (v:=.bool ((sI U fo 7).isSome)) J J<|bz<|ai (v:=.bool ((sI U fo 7).isSome)) J J<|z<|nx<|cd (b:=(sI U fo 7).isSome) J J (fun b1=>?_)<|fun b1=>?_
  ·
   refine az<|k<|cB dH 0 J bT J J au J<|k<|bw dH 8 J bT J J s4 J J J J ?_
   intro ft (eP:HI M w ft [nN,pw,J0,J1,J4,mW,J6,J5,box aY #[I o0,I o1,I o2,I o3,I o4,.slice none 0 0,I o5,I o6] 33,J2])
   refine ak (v:=I 0) J J<|aq<|rt<|bR<|aK<|dX<|bR<|aK<|iH eP 8 J bT J J J s4 J au ?_
   have e8:(0:Int)=fg U fo lv:=by exact sH (od hs aM U5 bo) bo
   have bu:=iK (fun (lM:Int)=>(.tuple #[.agg #[I o0,I o1,I o2,I o3,I o4,.slice none 0 0,I o5,I o6],I lM]:Value)) e8
   exact⟨o0,o1,o2,o3,o4,o5,o6,bu,eP.below,(by exact xf (od hs aM U5 bo) bo)⟩
  refine sk<|aG<|nx<|rg<|k<|add J J s9 J aR<|ai (v:=I ((j_:Int)+1)) J J<|z ?_
  have eP:=dH.put (it:=J4) J<|dH.rv 4 J
  have ff:=eP.put (it:=J1) J<|eP.rv 4 J
  have gr:=ff.put (it:=J0) J<|ff.rv 4 J
  have iy:HI M w ee (mW::J6::pw::dz):=gr.bX [8,9,4,2,10,11,12,1,0] au J
  refine bF _ ?_ ⟨(j_+1),(eX U fo),a7,c7,J,s4,s5,s6,s7,s8,(bG J),iy,aj,(by exact Or.inr rfl),(by exact Bc hs aM U5 bo)⟩
  omega
 have p0:=dF b0
 refine ex<|aV<|bc<|bg<|cO<|k<|bd (v:=.agg #[I 0,I 0,I 0,I 0,I 0,.slice none 0 0,I 0,I 0]) J ew (fun _=>aS)<|k<|bw cR 5 J bT J J s4 J J J J ?_
 intro w9 (dI:HI M w w9 (oL w 26 a6 jd c6::J6::box bJ #[.slice aC aE aB,sL aw U av,sL ay fo ax,I (U.length:Int),sL a5 (cu U fo) c5,sL a6 jd c6] 80::dz))
 refine ak (v:=I 8) J J<|aq<|rt<|iH dI 5 J bT J J J s4 J au ?_
 have e8:(8:Int)=fg U fo lv:=by exact aaf (Om hs aj)
 have bu:=iK (fun (lM:Int)=>(.tuple #[.agg #[I 0,I 0,I 0,I 0,I 0,.slice none 0 0,I 0,I 0],I lM]:Value)) e8
 exact⟨0,0,0,0,0,0,0,bu,dI.below,(by exact uv (Om hs aj) NZ)⟩
end Go.Proofs.YtgjakhpjmapelaaGreatDoor
