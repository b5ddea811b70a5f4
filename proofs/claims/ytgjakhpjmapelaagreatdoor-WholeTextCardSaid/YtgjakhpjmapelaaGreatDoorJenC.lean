/- PRINTED by my own tool (wip/tool/gen.py): contracts of Go functions of this seat, each with its proof. -/
import Derived.Test.YtgjakhpjmapelaaGreatDoorTwnB
import Derived.Test.YtgjakhpjmapelaaGreatDoorTwnC
import Derived.Test.YtgjakhpjmapelaaGreatDoorJenB
import Derived.Test.YtgjakhpjmapelaaGreatDoorJenA
import Derived.Test.YtgjakhpjmapelaaGreatDoorTwnA
import Derived.Test.YtgjakhpjmapelaaGreatDoorTwnD
set_option linter.unusedVariables false
set_option linter.unusedSimpArgs false
namespace Go.Proofs.YtgjakhpjmapelaaGreatDoor
open Go.Ew Go.RowKit
set_option maxRecDepth 100000
set_option maxHeartbeats 1600000
attribute [local irreducible] WL WC SO PW PX PZ WE Code.wp wpList sj cA
attribute [local irreducible] kh xM jr fm eo Aq C6 Kt words eb de jJ fG vM
variable {M:cb} {w w_:aG}
variable {r:List Go.Ew.Item} {df aD aB av ax eE bC dm bK bD dL eK dA jE rD fc:Nat} {aC aw ay eF dp bF dV dB iI:OA} {U:List aO} {fo:aA} {sp:List cT} {mp:KV} {pn mn o fy fD gI mH mG nh cn lv kd fC:Int} {pr mr cr:List (List bt)} {mq:List ((Int×Int)×Bool)} {sw:List (Int×(List (List bt)))} {lV:TypeId}
theorem Qt:cH aJ 106:=cN Tryz.func106
theorem Qs:cH aJ 122:=cN Tryz.func122
theorem JK:cH aJ 120:=cN Tryz.func120
theorem Iv (qR:aL pn) (gk:aL mn) (ua:aL o) (hT:fW 0 w) (ho:hG U) (dC:U.length≤64) (eD:fo.length=U.length) (fK:∀x∈fo,x<((U.length:Nat):Int)) (BH:mn=((U.length:Nat):Int)) (BG:mr=cC U fo) (Ov:0≤o∧o<((U.length:Nat):Int)) (IP:pn=((U.length:Nat):Int)) (uo:bI pn pr=true) (HA:sp.length≤1000000000000) (H:HI M w w_ ([box df #[.slice aC aD aB,sL aw U av,sL ay fo ax,sL eF sp eE,.map (some bC),I pn,sL dp pr dm,.map (some bK)] 142,iL aw U av,iL ay fo ax,oL w 175 eF sp eE,cj bC mp,iL dp pr dm,bX bK mq,iL bF mr bD]++r)):Calls aJ 83 #[pV df 0,.agg #[I mn,sL bF mr bD],I o] w_ (cA fun v w'=>∃(sZ:List cT) (Gd:KV) (Cm:List (List bt)) (nZ:OA) (nX:Nat) (y':OA) (yW:Nat),v=.tuple #[]∧HI M w w' ([box df #[.slice aC aD aB,sL aw U av,sL ay fo ax,sL nZ sZ nX,.map (some bC),I pn,sL y' Cm yW,.map (some bK)] 142,iL aw U av,iL ay fo ax,oL w 175 nZ sZ nX,cj bC Gd,iL y' Cm yW,bX bK mq,iL bF mr bD]++r)∧sZ.length≤sp.length+402000000000∧bI pn Cm=true):=by
 refine enter 93 Tryz.func83 J J J fun f0 ha=>?_
 have iS:=bl<|H.rv 1 J
 have kM:=bl<|H.rv 2 J
 have DE:=kf<|H.at_ 3 J
 have DG:=bl<|H.rv 5 J
 have np:=bl<|H.rv 7 J
 have i0:f0 0=pV df 0:=ha 0 bm
 have i1:f0 1=.agg #[I mn,sL bF mr bD]:=ha 1 bm
 have i2:f0 2=I o:=ha 2 bm
 refine az<|k<|bx H J i1 ?_
 let J1:=box df #[.slice aC aD aB,sL aw U av,sL ay fo ax,sL eF sp eE,.map (some bC),I pn,sL dp pr dm,.map (some bK)] 142
 let J2:=iL aw U av
 let J3:=iL ay fo ax
 let J4:=oL w 175 eF sp eE
 let J5:=cj bC mp
 let J6:=iL dp pr dm
 let J7:=iL bF mr bD
 let bc:=[J6,bX bK mq,J7]
 intro aZ w0 bY (H0:HI M w w0 ((box aZ #[I mn,sL bF mr bD] 26::J1::J2::J3::J4::J5::bc)++r))
 let J0:=box aZ #[I mn,sL bF mr bD] 26
 refine aq<|sq<|ma [.r,.r,.r,.r,.r,.r,.r,.r,.r,.s,.s,.s,.n,.e,.s,.s,.s] (fun _=>True) J aU (fun _ _=>trivial)<|yq J J<|kq (fun _ _=>mv J i0 e1)<|bQ<|kq (fun _ _=>nc J J e1)<|bQ<|kq (fun _ _=>fa HK J J e1)<|bQ<|kq (fun _ x_=>cI (H0.ext x_) 1 J ej J J au J e1)<|bQ<|kq (fun _ x_=>cI (H0.ext x_) 0 J bp J J au J e1)<|bQ<|kq (fun _ _=>mv J i2 e1)<|zq<|yu J (fun N v w'=>∃(o0:List ew) (o1:Int) (a0:OA) (c0:Nat) (a1:OA) (c1:Nat),v=.tuple #[.agg #[I ((U.length:Nat):Int),sL a0 (db U fo o) c0],sL a1 o0 c1,I o1,I 0]∧o0.length≤2000000000∧aL o1∧oC U.length o0∧RV (MN H0.gh N) w' (sL a0 (db U fo o) c0) (db U fo o)∧RV (MN H0.gh N) w' (sL a1 o0 c1) o0) J ⟨by rintro _ _ _ _ x_ ⟨o0,o1,a0,c0,a1,c1,e_,q0,q1,q2,ei,fB⟩;exact⟨o0,o1,a0,c0,a1,c1,e_,q0,q1,q2,ei.lift (Up.ext x_),fB.lift (Up.ext x_)⟩,by rintro _ _ _ _ _ k_ ⟨o0,o1,a0,c0,a1,c1,e_,q0,q1,q2,ei,fB⟩;exact⟨o0,o1,a0,c0,a1,c1,e_,q0,q1,q2,gZ ei k_,gZ fB k_⟩⟩ J (fun v_ _ x_ n_=>have dq:=Ho (U:=U) (fo:=fo) (mn:=mn) (mr:=mr) (o:=o) (aC:=aC) (aD:=aD) (aB:=aB) (w:=v_) (kK H0.mb x_ n_) (hT.ext (H0.below.trans x_)) (kj (H0.rv 2 J) x_ n_) (kj (H0.rv 3 J) x_ n_) gk (kj (H0.rv 8 J) x_ n_) ua (by exact ho) aj (by exact eD) (by exact fK) aj aj aj;ca Qt rfl (ec J<|ec J<|ec J e0) dq (fun _ w2 ⟨o2,o3,a2,c2,a3,c3,e_,fe,ja,jW,q3,q4,q5⟩=>⟨_,J,fe,⟨o2,o3,a2,c2,a3,c3,e_,q3,q4,q5,ja,jW⟩⟩))<|lE J (fun N v w'=>∃(o4:List ew) (o5:Int) (a4:OA) (c4:Nat) (a5:OA) (c5:Nat),v=.tuple #[.agg #[I ((U.length:Nat):Int),sL a4 (db U fo o) c4],sL a5 o4 c5,I o5,I 0]∧o4.length≤2000000000∧aL o5∧oC U.length o4∧RV (MN H0.gh N) w' (sL a4 (db U fo o) c4) (db U fo o)∧RV (MN H0.gh N) w' (sL a5 o4 c5) o4) 0 J J ⟨by rintro _ _ _ _ x_ ⟨o4,o5,a4,c4,a5,c5,e_,q6,q7,q8,iH,kR⟩;exact⟨o4,o5,a4,c4,a5,c5,e_,q6,q7,q8,iH.lift (Up.ext x_),kR.lift (Up.ext x_)⟩,by rintro _ _ _ _ _ k_ ⟨o4,o5,a4,c4,a5,c5,e_,q6,q7,q8,iH,kR⟩;exact⟨o4,o5,a4,c4,a5,c5,e_,q6,q7,q8,gZ iH k_,gZ kR k_⟩⟩ J (fun _ _ _ _ _ h_=>let ⟨o6,o7,a6,c6,a7,c7,s0,q9,u0,xz,nN,oI⟩:=h_;mv rfl s0 ⟨_,J,Ext.refl _,⟨o6,o7,a6,c6,a7,c7,J,q9,u0,xz,nN,oI⟩⟩)<|lE J (fun N v w'=>∃(a8:OA) (c8:Nat),v=.agg #[I ((U.length:Nat):Int),sL a8 (db U fo o) c8]∧RV (MN H0.gh N) w' (sL a8 (db U fo o) c8) (db U fo o)) 0 J J Ed J (fun _ _ _ _ _ h_=>let ⟨aW,gX,jH,jF,nY,nW,s1,Cl,Ck,yp,nB,sh⟩:=h_;xt rfl s1 rfl ⟨_,J,Ext.refl _,⟨jH,jF,J,nB⟩⟩)<|lE J (fun N v w'=>∃(ky:List ew) (ka:OA) (j9:Nat),v=sL ka ky j9∧ky.length≤2000000000∧oC U.length ky∧RV (MN H0.gh N) w' (sL ka ky j9) ky) 1 J J ⟨by rintro _ _ _ _ x_ ⟨ky,ka,j9,e_,xy,xw,p9⟩;exact⟨ky,ka,j9,e_,xy,xw,p9.lift (Up.ext x_)⟩,by rintro _ _ _ _ _ k_ ⟨ky,ka,j9,e_,xy,xw,p9⟩;exact⟨ky,ka,j9,e_,xy,xw,gZ p9 k_⟩⟩ J (fun _ _ _ _ _ h_=>let ⟨K_,N5,lU,lS,TX,Tx,s2,D_,q22,KS,AQ,E1⟩:=h_;xt rfl s2 rfl ⟨_,J,Ext.refl _,⟨K_,TX,Tx,J,D_,KS,E1⟩⟩)<|lE J (fun _ v _=>∃(Ga:Int),v=I Ga∧aL Ga) 2 J J mE J (fun _ _ _ _ _ h_=>let ⟨o18,RU,a18,c18,a19,c19,s3,q27,RA,q29,aaL,aaK⟩:=h_;xt rfl s3 rfl ⟨_,J,Ext.refl _,⟨RU,J,RA⟩⟩)<|QV J (X:=I 0) 3 J J (fun _ _ _ _ _ h_=>let ⟨o22,W3,a22,c22,a23,c23,s4,q33,q34,q35,aaJ,aaI⟩:=h_;xt rfl s4 rfl e1)<|yn (z:=#[I 0,.slice none 0 0]) J J (fun _=>O3 bp)<|ye<|lE J (fun N v w'=>∃(mF:List ew) (a24:OA) (yV:Nat),v=sL a24 mF yV∧mF.length≤2000000000∧oC U.length mF∧RV (MN H0.gh N) w' (sL a24 mF yV) mF) 2 J J ⟨by rintro _ _ _ _ x_ ⟨mF,a24,yV,e_,Cj,Ci,xp⟩;exact⟨mF,a24,yV,e_,Cj,Ci,xp.lift (Up.ext x_)⟩,by rintro _ _ _ _ _ k_ ⟨mF,a24,yV,e_,Cj,Ci,xp⟩;exact⟨mF,a24,yV,e_,Cj,Ci,gZ xp k_⟩⟩ J (fun _ _ _ _ _ h_=>let ⟨K9,a25,Ez,s5,Rz,Ry,KM⟩:=h_;jy rfl s5 ⟨_,J,Ext.refl _,⟨K9,a25,Ez,J,Rz,Ry,KM⟩⟩)<|lE J (fun _ v _=>∃(sF:Int),v=I sF∧aL sF) 2 J J mE J (fun _ _ _ _ _ h_=>let ⟨tS,s6,Rx⟩:=h_;jy rfl s6 ⟨_,J,Ext.refl _,⟨tS,J,Rx⟩⟩)<|yq J J<|kq (fun _ _=>jy (v:=I 0) J J e1)<|zq<|yz ?_
 intro w3 f0 _ fA _ _ cK iK
 obtain⟨bL,s7,CQ,l9,BF⟩:=iK 2 _ _ rfl
 have pL:=OU (z:=#[I 0,.slice none 0 0]) (T:=26) CQ l9 BF<|OV
 let J8:=box bL #[I 0,.slice none 0 0] 26
 have H8:HI M w w3 ((J8::J0::J1::J2::J3::J4::J5::bc)++r):=H0.DH fA pL<|N9 N8 Oa
 have s8:=(cK 0 J).trans i0
 obtain⟨o28,a26,G1,s9,q42,q43,KL⟩:=iK 1 _ _ rfl
 let J9:=iL a26 o28 G1
 have H9:=H8.put (it:=J9) J<|sf KL pL
 obtain⟨Ax,Au,eC,Uj⟩:=iK 5 _ _ rfl
 let dZ:=iL Ax (db U fo o) Au
 have cB:=H9.put (it:=dZ) J<|YP J<|sf Uj pL
 refine j8<|bw cB 2 J bp J J s7 eC J J J ?_
 let eP:=box bL #[I ((U.length:Nat):Int),sL Ax (db U fo o) Au] 26
 intro w4 (dI:HI M w w4 ([dZ,J9,eP,J0,J1,J2,J3,J4,J5,J6,bX bK mq,J7]++r))
 refine kz<|nx<|bk ?_
 have cU:=dI.put (it:=J9) J<|dI.rv 1 J
 have dD:=cU.put (it:=J6) J<|cU.rv 10 J
 refine lp (fun m f w'=>∃(gq:List ew) (ji:List cT) (oq:KV) (cO:Int) (m_:List (List bt)) (a28:OA) (ru:Nat) (oZ:OA) (oX:Nat) (j4:OA) (j2:Nat),m=gq.length∧f 0=pV df 0∧f 7=sL a28 gq ru∧HI M w w' ([iL j4 m_ j2,iL a28 gq ru,dZ,J9,box bL #[I ((U.length:Nat):Int),sL Ax (db U fo o) Au] 26,J0,box df #[.slice aC aD aB,sL aw U av,sL ay fo ax,sL oZ ji oX,.map (some bC),I cO,sL j4 m_ j2,.map (some bK)] 142,J2,J3,oL w 175 oZ ji oX,cj bC oq,J6,bX bK mq,J7]++r)∧(oC U.length gq)∧(ji.length+201*gq.length≤sp.length+201*o28.length)∧(cO=pn)∧(bI cO m_=true)) _ ⟨o28,sp,mp,pn,pr,a26,G1,eF,eE,dp,dm,J,s8,s9,dD,aj,aj,aj,aj⟩ ?_
 rintro _ f1 w5 ⟨gq,ji,oq,cO,m_,a28,ru,oZ,oX,j4,j2,rfl,fj,fT,dW,uE,HB,CM,tW⟩
 refine sq<|az<|ai J fT<|k<|ef J J eA<|k<|gtr J J J J<|z<|nx<|cd (b:=decide (0<(gq.length:Int))) J J (fun b0=>?_)<|fun b0=>?_
 ·
  have p0:=dT b0
  refine sk<|nx<|bk<|az<|ak (v:=I 0) J J<|bz<|ai J fj<|k<|nc J J<|aR rj J J<|k<|cI dW 6 J bp J J au J<|k ?_
  have fP:=wK (mn:=cO) (mr:=m_) dW.mb aT (dW.rv 0 J)<|by exact tW
  refine ca Qn J (ec J e0) fP ?_
  rintro _ w6 ⟨a31,I',rfl,iz,KK⟩
  have dQ:=dW.eS KK
  let gp:=oL w 144 a31 (fk cO m_) I'
  let fQ:=iL j4 m_ j2
  let iF:=iL a28 gq ru
  let pc:=box df #[.slice aC aD aB,sL aw U av,sL ay fo ax,sL oZ ji oX,.map (some bC),I cO,sL j4 m_ j2,.map (some bK)] 142
  let mh:=oL w 175 oZ ji oX
  let tM:=cj bC oq
  refine k<|al dQ bp ?_
  let ck:=dZ::J9::eP::J0::pc::J2::J3::mh::tM::bc
  intro fq w7 jh (eh:HI M w w7 ((box fq #[I 0,.slice none 0 0] 26::gp::fQ::iF::ck)++r))
  refine k<|bw eh 0 J bp J J J J J J J ?_
  let jM:=box fq #[I cO,sL a31 (fk cO m_) I'] 26
  let dY:=jM::gp::fQ::iF::ck
  intro w8 (dO:HI M w w8 (dY++r))
  refine aq<|sq<|bk ?_
  let jk:=J0::pc::J2::J3::mh::tM::bc
  refine lp (fun m f w'=>∃(k_:Nat),m=gq.length-k_∧f 0=pV df 0∧f 7=sL a28 gq ru∧f 10=I (k_:Int)∧f 11=pV fq 0∧HI M w w' ((jM::gp::fQ::iF::dZ::J9::box bL #[I ((U.length:Nat):Int),sL Ax (db U fo o) Au] 26::jk)++r)∧(k_≤gq.length)) _ ⟨0,J,fj,fT,(bN J),J,dO,aj⟩ ?_
  rintro _ f2 w9 ⟨k_,rfl,fS,gF,gW,kG,fg,pk⟩
  refine sq<|sq<|yT J aU<|kq (fun _ _=>mv J gW e1)<|kq (fun _ _=>mv J gF e1)<|kq (fun _ _=>ef J J eA e1)<|kq (fun _ _=>lss J J J J e1)<|kq (fun _ _=>mv (v:=.bool (decide ((k_:Int)<(gq.length:Int)))) J J e1) ?_
  rcases bE (decide ((k_:Int)<(gq.length:Int))) with b1|b1
  ·
   have p1:=dT b1
   refine qy J J J b1<|kq (fun _ x_=>cI (fg.ext x_) 0 J bp J kG au J e1)<|qy J J J b1<|kq (fun _ _=>mv J gF e1)<|qy J J J b1<|kq (fun _ _=>mv J gW e1)<|qy J J J b1<|mR (fg.rv 3 J) J J J J aj eA cR ?_
   intro iE x0 aI cD
   refine qy J J J b1<|kq (fun _ _=>fa kQ J J e1)<|qy J J J b1<|nP (cD).fst.w aS J J ?_
   intro EZ
   refine qy J J J b1<|kq (fun _ _=>mv J gF e1)<|qy J J J b1<|kq (fun _ _=>mv J gW e1)<|qy J J J b1<|mR (fg.rv 3 J) J J J J aj eA cR ?_
   intro rb x_ mW gG
   obtain rfl:x0=x_:=amE (aI.symm.trans mW)
   refine qy J J J b1<|kq (fun _ _=>fa sO J J e1)<|qy J J J b1<|nP (gG).s2.w aS J J ?_
   intro EY
   refine qy J J J b1<|kq (v:=.bool (eL cO (fk cO m_) x0.1 x0.2.2)) (fun v_ x_=>?_) ?_
   ·
    have fz:=(fg.ext x_).freeze 1 rfl
    have cc:=uz (mn:=cO) (mr:=(fk cO m_)) (i:=x0.1) (j:=x0.2.2) fz.mb aT (fz.rv 1 J) EZ EY (by exact(bR<|oV tW).1) (by exact(bR<|oV tW).2.1) aj
    exact ca Fv J (ec J<|ec J<|ec J e0) cc fun _ _ h_=>e2 h_
   refine kq (fun _ _=>aN J J J J b1 J e1)<|kq (fun _ _=>mv (v:=.bool (eL cO (fk cO m_) x0.1 x0.2.2)) J J e1) ?_
   rcases bE (eL cO (fk cO m_) x0.1 x0.2.2) with b2|b2
   ·
    refine qy J J J b2<|kq (fun _ x_=>cI (fg.ext x_) 0 J bp J kG au J e1)<|qy J J J b2<|kq (fun _ _=>mv J gF e1)<|qy J J J b2<|kq (fun _ _=>mv J gW e1)<|qy J J J b2<|mR (fg.rv 3 J) J J J J aj eA cR ?_
    intro pq x_ mW kB
    obtain rfl:x0=x_:=amE (aI.symm.trans mW)
    refine qy J J J b2<|kq (fun _ _=>fa kQ J J e1)<|qy J J J b2<|nP (kB).fst.w aS J J ?_
    intro AP
    refine qy J J J b2<|kq (fun _ _=>mv J gF e1)<|qy J J J b2<|kq (fun _ _=>mv J gW e1)<|qy J J J b2<|mR (fg.rv 3 J) J J J J aj eA cR ?_
    intro ue x_ mW tC
    obtain rfl:x0=x_:=amE (aI.symm.trans mW)
    refine qy J J J b2<|kq (fun _ _=>fa mL J J e1)<|qy J J J b2<|nP ((tC).s1).fst.w aS J J ?_
    intro EX
    refine qy J J J b2<|kq (v:=.bool (eL cO (fk cO m_) x0.1 x0.2.1)) (fun v_ x_=>?_) ?_
    ·
     have iY:=(fg.ext x_).freeze 1 rfl
     have cc:=uz (mn:=cO) (mr:=(fk cO m_)) (i:=x0.1) (j:=x0.2.1) iY.mb aT (iY.rv 1 J) AP EX (by exact(bR<|oV tW).1) (by exact(bR<|oV tW).2.1) aj
     exact ca Fv J (ec J<|ec J<|ec J e0) cc fun _ _ h_=>e2 h_
    refine qy J J J b2<|kq (fun _ _=>kg J J e1)<|kq (fun _ _=>aN J J J J b2 J e1)<|zq ?_
    intro dP ki
    have n5:=fg.ext ki
    refine nx<|cd (b:=!(eL cO (fk cO m_) x0.1 x0.2.1)) J J (fun b3=>?_)<|fun b3=>?_
    ·
     refine sk<|nx<|bk<|rg<|ai J gW<|k<|add J J J J aT<|ak (v:=I ((k_:Int)+1)) J J<|z<|aF<|bG _ ?_ ⟨(k_+1),J,fS,gF,(bN J),kG,n5,aj⟩
     omega
    refine ex<|aV<|bf<|bh<|nx<|sq<|az<|ai J gW<|k<|eql J J J J<|z<|nx<|cd (b:=decide ((k_:Int)=0)) J J (fun b4=>?_)<|fun b4=>?_
    ·
     have p4:=dT b4
     refine az<|ai J gF<|k<|NH (n5.rv 3 J) J J J J aj eA cR ?_
     intro a32 oW AO
     let pb:=iL a32 (gq.drop (1:Int).toNat) oW
     have jd:=n5.put (it:=pb) J AO
     refine ak (v:=sL a32 (gq.drop (1:Int).toNat) oW) J J<|aq<|ex<|aV<|bh ?_
     have lO:=jd.put (it:=fQ) J<|jd.rv 3 J
     have kP:=lO.put (it:=pb) J<|lO.rv 1 J
     have lA:=kP.put (it:=J2) J<|kP.rv 12 J
     have kE:=lA.put (it:=J3) J<|lA.rv 14 J
     have yj:HI M w dP ((J3::J2::pb::fQ::pb::dY)++r):=kE
     have nn:HI M w dP ((fQ::pb::ck)++r):=HI.aN (l:=(J3::J2::pb::fQ::pb::dY)) (l':=(fQ::pb::ck)) (t:=r) yj [3,2,9,10,11,12,13,1,0,16,17,18,19,20] au J J
     refine bG _ ?_ ⟨(gq.drop (1:Int).toNat),ji,oq,cO,m_,a32,oW,oZ,oX,j4,j2,J,fS,J,nn,(by intro e_ h_;exact uE e_ (aoh h_)),(by simp only[amZ];omega),bo,bo⟩
     first|(simp only[amZ];omega)|omega
    have p4:=dF b4
    refine sk<|nx<|sq<|az<|ai J gF<|ai J gW<|k<|NI (n5.rv 3 J) J J J J aj eA cR ?_
    intro a32 oW AO
    let qm:=iL a32 (gq.take (k_:Int).toNat) oW
    have jd:=n5.put (it:=qm) J AO
    refine k<|ef J J eA<|ai (v:=I 0) J J<|aq<|bk<|lp (fun m f w'=>∃(q_:Nat) (i':List cT) (iR:KV) (a33:OA) (lN:Nat),m=(gq.take (k_:Int).toNat).length-q_∧f 0=pV df 0∧f 7=sL a28 gq ru∧f 10=I (k_:Int)∧f 75=sL a32 (gq.take (k_:Int).toNat) oW∧f 76=I ((gq.take (k_:Int).toNat).length:Int)∧f 77=I (q_:Int)∧HI M w w' ([qm,jM,gp,fQ,iF,dZ,J9,box bL #[I ((U.length:Nat):Int),sL Ax (db U fo o) Au] 26,J0,box df #[.slice aC aD aB,sL aw U av,sL ay fo ax,sL a33 i' lN,.map (some bC),I cO,sL j4 m_ j2,.map (some bK)] 142,J2,J3,oL w 175 a33 i' lN,cj bC iR,J6,bX bK mq,J7]++r)∧(q_≤(gq.take (k_:Int).toNat).length)∧(i'.length≤ji.length+201*q_)) _ ⟨0,ji,oq,oZ,oX,J,fS,gF,gW,J,J,(bN J),jd,aj,aj⟩ ?_
    rintro _ f3 eB ⟨q_,i',iR,a33,lN,rfl,lu,mQ,mP,nM,pG,rI,lO,sI,abO⟩
    refine sq ?_
    have abW:((gq.take (k_:Int).toNat)).length≤gq.length:=by rw[iu];exact apM _ _
    refine rg<|k<|lss J J rI pG<|aq<|sq<|cd (b:=decide ((q_:Int)<((gq.take (k_:Int).toNat).length:Int))) J J (fun b5=>?_)<|fun b5=>?_
    ·
     have p5:=dT b5
     refine sk<|nx<|sq<|bk<|az<|k<|ia (lO.rv 0 J) J J nM rI aj eA cR ?_
     intro tK x1 bV ud
     refine k<|nr ud.w cR J J ?_
     intro v0 KJ
     obtain⟨_,⟨_,_,rfl,⟨rfl,KI⟩,⟨_,_,rfl,⟨rfl,ahd⟩,⟨rfl,ahc⟩⟩⟩,rfl⟩:=KJ
     refine k<|al lO cR ?_
     let n3:=box df #[.slice aC aD aB,sL aw U av,sL ay fo ax,sL a33 i' lN,.map (some bC),I cO,sL j4 m_ j2,.map (some bK)] 142
     let pa:=oL w 175 a33 i' lN
     let fL:=qm::jM::gp::fQ::iF::dZ::J9::eP::J0::n3::J2::J3::pa::cj bC iR::bc
     intro gO fE mA (qp:HI M w fE ((box gO #[I 0,I 0,I 0] 122::fL)++r))
     refine k<|bw qp 0 J cR J J J J J J J ?_
     let vH:=box gO #[I x1.1,I x1.2.1,I x1.2.2] 122
     intro iU (kP:HI M w iU ((vH::fL)++r))
     refine aq<|rg<|ai J lu<|k<|cI kP 0 J cR J J au J<|k ?_
     let lz:=[fQ,bX bK mq,vH,qm,jM,gp,iF,dZ,J9,eP,J0,J6,J7]
     have rX:HI M w iU ([n3,J2,J3,pa,cj bC iR,fQ,bX bK mq]++([vH,qm,jM,gp,iF,dZ,J9,eP,J0,J6,J7]++r)):=HI.aN (l:=(vH::fL)) (l':=(n3::J2::J3::pa::cj bC iR::lz)) (t:=r) kP [10,11,12,13,14,4,16,0,1,2,3,5,6,7,8,9,15,17] au J J
     have ff:=AU (df:=df) (aC:=aC) (aD:=aD) (aB:=aB) (aw:=aw) (av:=av) (U:=U) (ay:=ay) (ax:=ax) (fo:=fo) (eF:=a33) (eE:=lN) (sp:=i') (bC:=bC) (mp:=iR) (pn:=cO) (dp:=j4) (dm:=j2) (pr:=m_) (bK:=bK) (mq:=mq) (fy:=x1.1) (fD:=x1.2.1) (gI:=x1.2.2) (w:=w) (w_:=iU) (r:=([vH,qm,jM,gp,iF,dZ,J9,eP,J0,J6,J7]++r)) (M:=M) aT KI ahd ahc hT aj aj (by exact eD) aj (by exact tW) rX
     refine ca Qs J (ec J<|ec J e0) ff ?_
     rintro _ jZ ⟨qD,IB,sV,sS,rfl,lA,Rw⟩
     let uh:=box df #[.slice aC aD aB,sL aw U av,sL ay fo ax,sL sV qD sS,.map (some bC),I cO,sL j4 m_ j2,.map (some bK)] 142
     let BV:=oL w 175 sV qD sS
     let ug:=cj bC IB
     refine z<|aF<|nx<|rg<|k<|add J J rI J aT<|ai (v:=I ((q_:Int)+1)) J J<|z ?_
     have kE:=lA.put (it:=fQ) J<|lA.rv 5 J
     have nn:=kE.put (it:=J2) J<|kE.rv 2 J
     have ry:=nn.put (it:=J3) J<|nn.rv 4 J
     have ze:HI M w jZ ((J3::J2::fQ::uh::J2::J3::BV::ug::lz)++r):=ry
     let uf:=qm::jM::gp::fQ::iF::dZ::J9::eP::J0::uh::J2::J3::BV::ug::bc
     have qo:HI M w jZ (uf++r):=HI.aN (l:=(J3::J2::fQ::uh::J2::J3::BV::ug::lz)) (l':=uf) (t:=r) ze [11,12,13,2,14,15,16,17,18,3,1,0,6,7,19,9,20] au J J
     refine bG _ ?_ ⟨(q_+1),qD,IB,sV,sS,J,lu,mQ,mP,nM,pG,(bN J),qo,aj,aj⟩
     omega
    have p5:=dF b5
    refine ex<|aV<|bf<|bh<|cV<|ai J lu<|ai J mQ<|ai J mP<|k<|NI (lO.rv 4 J) J J J J aj eA cR ?_
    intro sV sS KJ
    let zd:=iL sV (gq.take (k_:Int).toNat) sS
    have qp:=lO.put (it:=zd) J KJ
    let vG:=box df #[.slice aC aD aB,sL aw U av,sL ay fo ax,sL a33 i' lN,.map (some bC),I cO,sL j4 m_ j2,.map (some bK)] 142
    let yi:=oL w 175 a33 i' lN
    let yh:=cj bC iR
    let Df:=zd::qm::jM::gp::fQ::iF::dZ::J9::eP::J0::vG::J2::J3::yi::yh::bc
    have kP:HI M w eB (Df++r):=qp
    refine k ?_
    let G_:=[bX bK mq,zd,qm,jM,gp,iF,dZ,J9,eP,J0,J6,J7]
    have rX:HI M w eB ([vG,J2,J3,yi,yh,fQ,bX bK mq,zd]++([qm,jM,gp,iF,dZ,J9,eP,J0,J6,J7]++r)):=HI.aN (l:=Df) (l':=(vG::J2::J3::yi::yh::fQ::G_)) (t:=r) kP [10,11,12,13,14,4,16,0,1,2,3,5,6,7,8,9,15,17] au J J
    have ff:=yt (df:=df) (aC:=aC) (aD:=aD) (aB:=aB) (aw:=aw) (av:=av) (U:=U) (ay:=ay) (ax:=ax) (fo:=fo) (eF:=a33) (eE:=lN) (sp:=i') (bC:=bC) (mp:=iR) (pn:=cO) (dp:=j4) (dm:=j2) (pr:=m_) (bK:=bK) (mq:=mq) (zF:=sV) (zA:=sS) (es:=(gq.take (k_:Int).toNat)) (w:=w) (w_:=eB) (r:=([qm,jM,gp,iF,dZ,J9,eP,J0,J6,J7]++r)) (M:=M) aT (by exact tW) (by intro x_ h_;rw[CM,IP];exact uE x_ (anU h_)) rX
    refine ca JK J (ec J<|ec J e0) ff ?_
    rintro _ fE ⟨qD,a35,Da,rfl,lA,Rw⟩
    let EJ:=box df #[.slice aC aD aB,sL aw U av,sL ay fo ax,sL a33 i' lN,.map (some bC),I cO,sL a35 qD Da,.map (some bK)] 142
    let tL:=iL a35 qD Da
    refine z<|nx ?_
    have abU:((gq.take (k_:Int).toNat)).length=k_:=by rw[iu,dM];exact anF aj
    refine rg<|ai J mQ<|ai J mP<|k<|NH (lA.rv 11 J) J J J J aj eA cR ?_
    intro De C' KI
    let rW:=iL De (gq.drop (k_:Int).toNat) C'
    have kE:=lA.put (it:=rW) J KI
    refine ak (v:=sL De (gq.drop (k_:Int).toNat) C') J J<|z<|aF ?_
    have nn:=kE.put (it:=tL) J<|kE.rv 6 J
    have ry:=nn.put (it:=rW) J<|nn.rv 1 J
    have qo:=ry.put (it:=J2) J<|ry.rv 4 J
    have Jm:=qo.put (it:=J3) J<|qo.rv 6 J
    let EB:=J3::J2::rW::tL::rW::EJ::J2::J3::yi::yh::tL::G_
    have H46:HI M w fE (EB++r):=Jm
    let ML:=tL::rW::dZ::J9::eP::J0::EJ::J2::J3::yi::yh::bc
    have H47:HI M w fE (ML++r):=HI.aN (l:=EB) (l':=ML) (t:=r) H46 [3,2,17,18,19,20,5,1,0,8,9,21,11,22] au J J
    refine bG _ ?_ ⟨(gq.drop (k_:Int).toNat),i',iR,cO,qD,De,C',a33,lN,a35,Da,J,lu,J,H47,(by intro e_ h_;exact uE e_ (aoh h_)),(by simp only[amZ];omega),bo,bo⟩
    first|(simp only[amZ];omega)|omega
   refine qn J J J b2<|qn J J J b2<|qn J J J b2<|qn J J J b2<|qn J J J b2<|qn J J J b2<|qn J J J b2<|qn J J J b2<|qn J J J b2<|qn J J J b2<|qn J J J b2<|qn J J J b2<|qn J J J b2<|kq (fun _ _=>cZ J J J J b2 J e1)<|zq ?_
   intro dP ki
   have iY:=fg.ext ki
   refine nx<|nU J J J<|ex<|aV<|bf<|bh<|nx<|sq<|az<|ai J gW<|k<|eql J J J J<|z<|nx<|cd (b:=decide ((k_:Int)=0)) J J (fun b3=>?_)<|fun b3=>?_
   ·
    have p3:=dT b3
    refine az<|ai J gF<|k<|NH (iY.rv 3 J) J J J J aj eA cR ?_
    intro a32 oW AP
    let vF:=iL a32 (gq.drop (1:Int).toNat) oW
    have jz:=iY.put (it:=vF) J AP
    refine ak (v:=sL a32 (gq.drop (1:Int).toNat) oW) J J<|aq<|ex<|aV<|bh ?_
    have jd:=jz.put (it:=fQ) J<|jz.rv 3 J
    have lO:=jd.put (it:=vF) J<|jd.rv 1 J
    have kP:=lO.put (it:=J2) J<|lO.rv 12 J
    have lA:=kP.put (it:=J3) J<|kP.rv 14 J
    have Dm:HI M w dP ((J3::J2::vF::fQ::vF::dY)++r):=lA
    have kE:HI M w dP ((fQ::vF::ck)++r):=HI.aN (l:=(J3::J2::vF::fQ::vF::dY)) (l':=(fQ::vF::ck)) (t:=r) Dm [3,2,9,10,11,12,13,1,0,16,17,18,19,20] au J J
    refine bG _ ?_ ⟨(gq.drop (1:Int).toNat),ji,oq,cO,m_,a32,oW,oZ,oX,j4,j2,J,fS,J,kE,(by intro e_ h_;exact uE e_ (aoh h_)),(by simp only[amZ];omega),bo,bo⟩
    first|(simp only[amZ];omega)|omega
   have p3:=dF b3
   refine sk<|nx<|sq<|az<|ai J gF<|ai J gW<|k<|NI (iY.rv 3 J) J J J J aj eA cR ?_
   intro a32 oW AP
   let pR:=iL a32 (gq.take (k_:Int).toNat) oW
   have jz:=iY.put (it:=pR) J AP
   refine k<|ef J J eA<|ai (v:=I 0) J J<|aq<|bk<|lp (fun m f w'=>∃(q_:Nat) (i':List cT) (iR:KV) (a33:OA) (lN:Nat),m=(gq.take (k_:Int).toNat).length-q_∧f 0=pV df 0∧f 7=sL a28 gq ru∧f 10=I (k_:Int)∧f 75=sL a32 (gq.take (k_:Int).toNat) oW∧f 76=I ((gq.take (k_:Int).toNat).length:Int)∧f 77=I (q_:Int)∧HI M w w' ([pR,jM,gp,fQ,iF,dZ,J9,box bL #[I ((U.length:Nat):Int),sL Ax (db U fo o) Au] 26,J0,box df #[.slice aC aD aB,sL aw U av,sL ay fo ax,sL a33 i' lN,.map (some bC),I cO,sL j4 m_ j2,.map (some bK)] 142,J2,J3,oL w 175 a33 i' lN,cj bC iR,J6,bX bK mq,J7]++r)∧(q_≤(gq.take (k_:Int).toNat).length)∧(i'.length≤ji.length+201*q_)) _ ⟨0,ji,oq,oZ,oX,J,fS,gF,gW,J,J,(bN J),jz,aj,aj⟩ ?_
   rintro _ f3 eB ⟨q_,i',iR,a33,lN,rfl,lu,mQ,mP,nM,pG,rI,jd,sI,abO⟩
   refine sq ?_
   have abW:((gq.take (k_:Int).toNat)).length≤gq.length:=by rw[iu];exact apM _ _
   refine rg<|k<|lss J J rI pG<|aq<|sq<|cd (b:=decide ((q_:Int)<((gq.take (k_:Int).toNat).length:Int))) J J (fun b4=>?_)<|fun b4=>?_
   ·
    have p4:=dT b4
    refine sk<|nx<|sq<|bk<|az<|k<|ia (jd.rv 0 J) J J nM rI aj eA cR ?_
    intro pq x1 bV kB
    refine k<|nr kB.w cR J J ?_
    intro v0 EX
    obtain⟨_,⟨_,_,rfl,⟨rfl,AO⟩,⟨_,_,rfl,⟨rfl,KJ⟩,⟨rfl,KI⟩⟩⟩,rfl⟩:=EX
    refine k<|al jd cR ?_
    let Dl:=box df #[.slice aC aD aB,sL aw U av,sL ay fo ax,sL a33 i' lN,.map (some bC),I cO,sL j4 m_ j2,.map (some bK)] 142
    let zc:=oL w 175 a33 i' lN
    let Wy:=pR::jM::gp::fQ::iF::dZ::J9::eP::J0::Dl::J2::J3::zc::cj bC iR::bc
    intro gO fE mA (tN:HI M w fE ((box gO #[I 0,I 0,I 0] 122::Wy)++r))
    refine k<|bw tN 0 J cR J J J J J J J ?_
    let yg:=box gO #[I x1.1,I x1.2.1,I x1.2.2] 122
    intro iU (lO:HI M w iU ((yg::Wy)++r))
    refine aq<|rg<|ai J lu<|k<|cI lO 0 J cR J J au J<|k ?_
    let Wx:=[fQ,bX bK mq,yg,pR,jM,gp,iF,dZ,J9,eP,J0,J6,J7]
    have qp:HI M w iU ([Dl,J2,J3,zc,cj bC iR,fQ,bX bK mq]++([yg,pR,jM,gp,iF,dZ,J9,eP,J0,J6,J7]++r)):=HI.aN (l:=(yg::Wy)) (l':=(Dl::J2::J3::zc::cj bC iR::Wx)) (t:=r) lO [10,11,12,13,14,4,16,0,1,2,3,5,6,7,8,9,15,17] au J J
    have ff:=AU (df:=df) (aC:=aC) (aD:=aD) (aB:=aB) (aw:=aw) (av:=av) (U:=U) (ay:=ay) (ax:=ax) (fo:=fo) (eF:=a33) (eE:=lN) (sp:=i') (bC:=bC) (mp:=iR) (pn:=cO) (dp:=j4) (dm:=j2) (pr:=m_) (bK:=bK) (mq:=mq) (fy:=x1.1) (fD:=x1.2.1) (gI:=x1.2.2) (w:=w) (w_:=iU) (r:=([yg,pR,jM,gp,iF,dZ,J9,eP,J0,J6,J7]++r)) (M:=M) aT AO KJ KI hT aj aj (by exact eD) aj (by exact tW) qp
    refine ca Qs J (ec J<|ec J e0) ff ?_
    rintro _ jZ ⟨qD,IB,sV,sS,rfl,kP,Rw⟩
    let Dk:=box df #[.slice aC aD aB,sL aw U av,sL ay fo ax,sL sV qD sS,.map (some bC),I cO,sL j4 m_ j2,.map (some bK)] 142
    let Dj:=oL w 175 sV qD sS
    let Di:=cj bC IB
    refine z<|aF<|nx<|rg<|k<|add J J rI J aT<|ai (v:=I ((q_:Int)+1)) J J<|z ?_
    have lA:=kP.put (it:=fQ) J<|kP.rv 5 J
    have kE:=lA.put (it:=J2) J<|lA.rv 2 J
    have nn:=kE.put (it:=J3) J<|kE.rv 4 J
    have zf:HI M w jZ ((J3::J2::fQ::Dk::J2::J3::Dj::Di::Wx)++r):=nn
    let adV:=pR::jM::gp::fQ::iF::dZ::J9::eP::J0::Dk::J2::J3::Dj::Di::bc
    have ry:HI M w jZ (adV++r):=HI.aN (l:=(J3::J2::fQ::Dk::J2::J3::Dj::Di::Wx)) (l':=adV) (t:=r) zf [11,12,13,2,14,15,16,17,18,3,1,0,6,7,19,9,20] au J J
    refine bG _ ?_ ⟨(q_+1),qD,IB,sV,sS,J,lu,mQ,mP,nM,pG,(bN J),ry,aj,aj⟩
    omega
   have p4:=dF b4
   refine ex<|aV<|bf<|bh<|cV<|ai J lu<|ai J mQ<|ai J mP<|k<|NI (jd.rv 4 J) J J J J aj eA cR ?_
   intro sV sS EX
   let sW:=iL sV (gq.take (k_:Int).toNat) sS
   have tN:=jd.put (it:=sW) J EX
   let Jl:=box df #[.slice aC aD aB,sL aw U av,sL ay fo ax,sL a33 i' lN,.map (some bC),I cO,sL j4 m_ j2,.map (some bK)] 142
   let EI:=oL w 175 a33 i' lN
   let EH:=cj bC iR
   let adU:=sW::pR::jM::gp::fQ::iF::dZ::J9::eP::J0::Jl::J2::J3::EI::EH::bc
   have lO:HI M w eB (adU++r):=tN
   refine k ?_
   let adT:=[bX bK mq,sW,pR,jM,gp,iF,dZ,J9,eP,J0,J6,J7]
   have qp:HI M w eB ([Jl,J2,J3,EI,EH,fQ,bX bK mq,sW]++([pR,jM,gp,iF,dZ,J9,eP,J0,J6,J7]++r)):=HI.aN (l:=adU) (l':=(Jl::J2::J3::EI::EH::fQ::adT)) (t:=r) lO [10,11,12,13,14,4,16,0,1,2,3,5,6,7,8,9,15,17] au J J
   have ff:=yt (df:=df) (aC:=aC) (aD:=aD) (aB:=aB) (aw:=aw) (av:=av) (U:=U) (ay:=ay) (ax:=ax) (fo:=fo) (eF:=a33) (eE:=lN) (sp:=i') (bC:=bC) (mp:=iR) (pn:=cO) (dp:=j4) (dm:=j2) (pr:=m_) (bK:=bK) (mq:=mq) (zF:=sV) (zA:=sS) (es:=(gq.take (k_:Int).toNat)) (w:=w) (w_:=eB) (r:=([pR,jM,gp,iF,dZ,J9,eP,J0,J6,J7]++r)) (M:=M) aT (by exact tW) (by intro x_ h_;rw[CM,IP];exact uE x_ (anU h_)) qp
   refine ca JK J (ec J<|ec J e0) ff ?_
   rintro _ fE ⟨qD,a35,Da,rfl,kP,Rw⟩
   let AA:=box df #[.slice aC aD aB,sL aw U av,sL ay fo ax,sL a33 i' lN,.map (some bC),I cO,sL a35 qD Da,.map (some bK)] 142
   let Hd:=iL a35 qD Da
   refine z<|nx ?_
   have abU:((gq.take (k_:Int).toNat)).length=k_:=by rw[iu,dM];exact anF aj
   refine rg<|ai J mQ<|ai J mP<|k<|NH (kP.rv 11 J) J J J J aj eA cR ?_
   intro De C' AO
   let EG:=iL De (gq.drop (k_:Int).toNat) C'
   have lA:=kP.put (it:=EG) J AO
   refine ak (v:=sL De (gq.drop (k_:Int).toNat) C') J J<|z<|aF ?_
   have kE:=lA.put (it:=Hd) J<|lA.rv 6 J
   have nn:=kE.put (it:=EG) J<|kE.rv 1 J
   have ry:=nn.put (it:=J2) J<|nn.rv 4 J
   have qo:=ry.put (it:=J3) J<|ry.rv 6 J
   let adS:=J3::J2::EG::Hd::EG::AA::J2::J3::EI::EH::Hd::adT
   have Yn:HI M w fE (adS++r):=qo
   let adR:=Hd::EG::dZ::J9::eP::J0::AA::J2::J3::EI::EH::bc
   have Jm:HI M w fE (adR++r):=HI.aN (l:=adS) (l':=adR) (t:=r) Yn [3,2,17,18,19,20,5,1,0,8,9,21,11,22] au J J
   refine bG _ ?_ ⟨(gq.drop (k_:Int).toNat),i',iR,cO,qD,De,C',a33,lN,a35,Da,J,lu,J,Jm,(by intro e_ h_;exact uE e_ (aoh h_)),(by simp only[amZ];omega),bo,bo⟩
   first|(simp only[amZ];omega)|omega
  have p1:=dF b1
  refine qn J J J b1<|qn J J J b1<|qn J J J b1<|qn J J J b1<|qn J J J b1<|qn J J J b1<|qn J J J b1<|qn J J J b1<|qn J J J b1<|qn J J J b1<|qn J J J b1<|qn J J J b1<|kq (fun _ _=>cZ J J J J b1 J e1)<|kq (fun _ _=>mv (v:=.bool false) J J e1)<|qn J J J J<|qn J J J J<|qn J J J J<|qn J J J J<|qn J J J J<|qn J J J J<|qn J J J J<|qn J J J J<|qn J J J J<|qn J J J J<|qn J J J J<|qn J J J J<|qn J J J J<|kq (fun _ _=>cZ J J J J J J e1)<|zq ?_
  intro dP ki
  have fz:=fg.ext ki
  refine nx<|nU J J J<|ex<|aV<|bf<|bh<|nx<|sq<|az<|ai J gW<|k<|eql J J J J<|z<|nx<|cd (b:=decide ((k_:Int)=0)) J J (fun b2=>?_)<|fun b2=>?_
  ·
   have p2:=dT b2
   refine az<|ai J gF<|k<|NH (fz.rv 3 J) J J J J aj eA cR ?_
   intro a32 oW EZ
   let Az:=iL a32 (gq.drop (1:Int).toNat) oW
   have gS:=fz.put (it:=Az) J EZ
   refine ak (v:=sL a32 (gq.drop (1:Int).toNat) oW) J J<|aq<|ex<|aV<|bh ?_
   have jz:=gS.put (it:=fQ) J<|gS.rv 3 J
   have jd:=jz.put (it:=Az) J<|jz.rv 1 J
   have lO:=jd.put (it:=J2) J<|jd.rv 12 J
   have kP:=lO.put (it:=J3) J<|lO.rv 14 J
   have rX:HI M w dP ((J3::J2::Az::fQ::Az::dY)++r):=kP
   have lA:HI M w dP ((fQ::Az::ck)++r):=HI.aN (l:=(J3::J2::Az::fQ::Az::dY)) (l':=(fQ::Az::ck)) (t:=r) rX [3,2,9,10,11,12,13,1,0,16,17,18,19,20] au J J
   refine bG _ ?_ ⟨(gq.drop (1:Int).toNat),ji,oq,cO,m_,a32,oW,oZ,oX,j4,j2,J,fS,J,lA,(by intro e_ h_;exact uE e_ (aoh h_)),(by simp only[amZ];omega),bo,bo⟩
   first|(simp only[amZ];omega)|omega
  have p2:=dF b2
  refine sk<|nx<|sq<|az<|ai J gF<|ai J gW<|k<|NI (fz.rv 3 J) J J J J aj eA cR ?_
  intro a32 oW EZ
  let zb:=iL a32 (gq.take (k_:Int).toNat) oW
  have gS:=fz.put (it:=zb) J EZ
  refine k<|ef J J eA<|ai (v:=I 0) J J<|aq<|bk<|lp (fun m f w'=>∃(q_:Nat) (i':List cT) (iR:KV) (a33:OA) (lN:Nat),m=(gq.take (k_:Int).toNat).length-q_∧f 0=pV df 0∧f 7=sL a28 gq ru∧f 10=I (k_:Int)∧f 75=sL a32 (gq.take (k_:Int).toNat) oW∧f 76=I ((gq.take (k_:Int).toNat).length:Int)∧f 77=I (q_:Int)∧HI M w w' ([zb,jM,gp,fQ,iF,dZ,J9,box bL #[I ((U.length:Nat):Int),sL Ax (db U fo o) Au] 26,J0,box df #[.slice aC aD aB,sL aw U av,sL ay fo ax,sL a33 i' lN,.map (some bC),I cO,sL j4 m_ j2,.map (some bK)] 142,J2,J3,oL w 175 a33 i' lN,cj bC iR,J6,bX bK mq,J7]++r)∧(q_≤(gq.take (k_:Int).toNat).length)∧(i'.length≤ji.length+201*q_)) _ ⟨0,ji,oq,oZ,oX,J,fS,gF,gW,J,J,(bN J),gS,aj,aj⟩ ?_
  rintro _ f3 eB ⟨q_,i',iR,a33,lN,rfl,lu,mQ,mP,nM,pG,rI,jz,sI,abO⟩
  refine sq ?_
  have abW:((gq.take (k_:Int).toNat)).length≤gq.length:=by rw[iu];exact apM _ _
  refine rg<|k<|lss J J rI pG<|aq<|sq<|cd (b:=decide ((q_:Int)<((gq.take (k_:Int).toNat).length:Int))) J J (fun b3=>?_)<|fun b3=>?_
  ·
   have p3:=dT b3
   refine sk<|nx<|sq<|bk<|az<|k<|ia (jz.rv 0 J) J J nM rI aj eA cR ?_
   intro iE x0 aI cD
   refine k<|nr cD.w cR J J ?_
   intro v0 EY
   obtain⟨_,⟨_,_,rfl,⟨rfl,AP⟩,⟨_,_,rfl,⟨rfl,EX⟩,⟨rfl,AO⟩⟩⟩,rfl⟩:=EY
   refine k<|al jz cR ?_
   let Jk:=box df #[.slice aC aD aB,sL aw U av,sL ay fo ax,sL a33 i' lN,.map (some bC),I cO,sL j4 m_ j2,.map (some bK)] 142
   let Dh:=oL w 175 a33 i' lN
   let Ww:=zb::jM::gp::fQ::iF::dZ::J9::eP::J0::Jk::J2::J3::Dh::cj bC iR::bc
   intro gO fE mA (n5:HI M w fE ((box gO #[I 0,I 0,I 0] 122::Ww)++r))
   refine k<|bw n5 0 J cR J J J J J J J ?_
   let vE:=box gO #[I x0.1,I x0.2.1,I x0.2.2] 122
   intro iU (jd:HI M w iU ((vE::Ww)++r))
   refine aq<|rg<|ai J lu<|k<|cI jd 0 J cR J J au J<|k ?_
   let adQ:=[fQ,bX bK mq,vE,zb,jM,gp,iF,dZ,J9,eP,J0,J6,J7]
   have tN:HI M w iU ([Jk,J2,J3,Dh,cj bC iR,fQ,bX bK mq]++([vE,zb,jM,gp,iF,dZ,J9,eP,J0,J6,J7]++r)):=HI.aN (l:=(vE::Ww)) (l':=(Jk::J2::J3::Dh::cj bC iR::adQ)) (t:=r) jd [10,11,12,13,14,4,16,0,1,2,3,5,6,7,8,9,15,17] au J J
   have ff:=AU (df:=df) (aC:=aC) (aD:=aD) (aB:=aB) (aw:=aw) (av:=av) (U:=U) (ay:=ay) (ax:=ax) (fo:=fo) (eF:=a33) (eE:=lN) (sp:=i') (bC:=bC) (mp:=iR) (pn:=cO) (dp:=j4) (dm:=j2) (pr:=m_) (bK:=bK) (mq:=mq) (fy:=x0.1) (fD:=x0.2.1) (gI:=x0.2.2) (w:=w) (w_:=iU) (r:=([vE,zb,jM,gp,iF,dZ,J9,eP,J0,J6,J7]++r)) (M:=M) aT AP EX AO hT aj aj (by exact eD) aj (by exact tW) tN
   refine ca Qs J (ec J<|ec J e0) ff ?_
   rintro _ jZ ⟨qD,IB,sV,sS,rfl,lO,Rw⟩
   let MQ:=box df #[.slice aC aD aB,sL aw U av,sL ay fo ax,sL sV qD sS,.map (some bC),I cO,sL j4 m_ j2,.map (some bK)] 142
   let MP:=oL w 175 sV qD sS
   let MO:=cj bC IB
   refine z<|aF<|nx<|rg<|k<|add J J rI J aT<|ai (v:=I ((q_:Int)+1)) J J<|z ?_
   have kP:=lO.put (it:=fQ) J<|lO.rv 5 J
   have lA:=kP.put (it:=J2) J<|kP.rv 2 J
   have kE:=lA.put (it:=J3) J<|lA.rv 4 J
   let adO:=J3::J2::fQ::MQ::J2::J3::MP::MO::adQ
   have yj:HI M w jZ (adO++r):=kE
   let adN:=zb::jM::gp::fQ::iF::dZ::J9::eP::J0::MQ::J2::J3::MP::MO::bc
   have nn:HI M w jZ (adN++r):=HI.aN (l:=adO) (l':=adN) (t:=r) yj [11,12,13,2,14,15,16,17,18,3,1,0,6,7,19,9,20] au J J
   refine bG _ ?_ ⟨(q_+1),qD,IB,sV,sS,J,lu,mQ,mP,nM,pG,(bN J),nn,aj,aj⟩
   omega
  have p3:=dF b3
  refine ex<|aV<|bf<|bh<|cV<|ai J lu<|ai J mQ<|ai J mP<|k<|NI (jz.rv 4 J) J J J J aj eA cR ?_
  intro sV sS EY
  let yd:=iL sV (gq.take (k_:Int).toNat) sS
  have n5:=jz.put (it:=yd) J EY
  let Jj:=box df #[.slice aC aD aB,sL aw U av,sL ay fo ax,sL a33 i' lN,.map (some bC),I cO,sL j4 m_ j2,.map (some bK)] 142
  let EF:=oL w 175 a33 i' lN
  let EE:=cj bC iR
  let adM:=yd::zb::jM::gp::fQ::iF::dZ::J9::eP::J0::Jj::J2::J3::EF::EE::bc
  have jd:HI M w eB (adM++r):=n5
  refine k ?_
  let adL:=[bX bK mq,yd,zb,jM,gp,iF,dZ,J9,eP,J0,J6,J7]
  have tN:HI M w eB ([Jj,J2,J3,EF,EE,fQ,bX bK mq,yd]++([zb,jM,gp,iF,dZ,J9,eP,J0,J6,J7]++r)):=HI.aN (l:=adM) (l':=(Jj::J2::J3::EF::EE::fQ::adL)) (t:=r) jd [10,11,12,13,14,4,16,0,1,2,3,5,6,7,8,9,15,17] au J J
  have ff:=yt (df:=df) (aC:=aC) (aD:=aD) (aB:=aB) (aw:=aw) (av:=av) (U:=U) (ay:=ay) (ax:=ax) (fo:=fo) (eF:=a33) (eE:=lN) (sp:=i') (bC:=bC) (mp:=iR) (pn:=cO) (dp:=j4) (dm:=j2) (pr:=m_) (bK:=bK) (mq:=mq) (zF:=sV) (zA:=sS) (es:=(gq.take (k_:Int).toNat)) (w:=w) (w_:=eB) (r:=([zb,jM,gp,iF,dZ,J9,eP,J0,J6,J7]++r)) (M:=M) aT (by exact tW) (by intro x_ h_;rw[CM,IP];exact uE x_ (anU h_)) tN
  refine ca JK J (ec J<|ec J e0) ff ?_
  rintro _ fE ⟨qD,a35,Da,rfl,lO,Rw⟩
  let T1:=box df #[.slice aC aD aB,sL aw U av,sL ay fo ax,sL a33 i' lN,.map (some bC),I cO,sL a35 qD Da,.map (some bK)] 142
  let Hc:=iL a35 qD Da
  refine z<|nx ?_
  have abU:((gq.take (k_:Int).toNat)).length=k_:=by rw[iu,dM];exact anF aj
  refine rg<|ai J mQ<|ai J mP<|k<|NH (lO.rv 11 J) J J J J aj eA cR ?_
  intro De C' AP
  let ED:=iL De (gq.drop (k_:Int).toNat) C'
  have kP:=lO.put (it:=ED) J AP
  refine ak (v:=sL De (gq.drop (k_:Int).toNat) C') J J<|z<|aF ?_
  have lA:=kP.put (it:=Hc) J<|kP.rv 6 J
  have kE:=lA.put (it:=ED) J<|lA.rv 1 J
  have nn:=kE.put (it:=J2) J<|kE.rv 4 J
  have ry:=nn.put (it:=J3) J<|nn.rv 6 J
  let adK:=J3::J2::ED::Hc::ED::T1::J2::J3::EF::EE::Hc::adL
  have ze:HI M w fE (adK++r):=ry
  let adJ:=Hc::ED::dZ::J9::eP::J0::T1::J2::J3::EF::EE::bc
  have qo:HI M w fE (adJ++r):=HI.aN (l:=adK) (l':=adJ) (t:=r) ze [3,2,17,18,19,20,5,1,0,8,9,21,11,22] au J J
  refine bG _ ?_ ⟨(gq.drop (k_:Int).toNat),i',iR,cO,qD,De,C',a33,lN,a35,Da,J,lu,J,qo,(by intro e_ h_;exact uE e_ (aoh h_)),(by simp only[amZ];omega),bo,bo⟩
  first|(simp only[amZ];omega)|omega
 refine ex<|aV<|bf<|bh<|D9 J ?_
 let Ay:=box df #[.slice aC aD aB,sL aw U av,sL ay fo ax,sL oZ ji oX,.map (some bC),I cO,sL j4 m_ j2,.map (some bK)] 142
 have dQ:=HI.aN (l:=[iL j4 m_ j2,iL a28 gq ru,dZ,J9,eP,J0,Ay,J2,J3,oL w 175 oZ ji oX,cj bC oq,J6,bX bK mq,J7]) (l':=[Ay,J2,J3,oL w 175 oZ ji oX,cj bC oq,iL j4 m_ j2,bX bK mq,J7]) (t:=r) dW [6,7,8,9,10,0,12,13] au J J
 have e0:(cO:Int)=pn:=by exact CM
 try rw[←e0]
 refine⟨ji,oq,m_,oZ,oX,j4,j2,?_,?_,aj,(by exact tW)⟩
 · first|rfl|simp only[e0]|(simp only[amA])
 · first|exact dQ|simpa +zetaDelta only[e0,amA] using dQ
theorem XZ:cH aJ 119:=cN Tryz.func119
theorem Ea (Bf:aL fy) (DK:aL fD) (Be:aL gI) (XK:aL mH) (XJ:aL mG) (XI:aL nh):Calls aJ 119 #[.agg #[I fy,I fD,I gI],.agg #[I mH,I mG,I nh]] w (cA fun v w'=>v=.bool (decide (fy=mH)&&decide (fD=mG))∧Ext w w'):=by
 refine dH 17 Tryz.func119 J J J pI fun f0 ha H=>?_
 have i0:f0 0=.agg #[I fy,I fD,I gI]:=ha 0 bm
 have i1:f0 1=.agg #[I mH,I mG,I nh]:=ha 1 bm
 refine az<|k<|bx H J i0 ?_
 intro aZ w0 bY (H0:HI (fun _=>False) w w0 [box aZ #[I fy,I fD,I gI] 122])
 refine k<|bx H0 J i1 ?_
 intro ba w1 dy (H1:HI (fun _=>False) w w1 [box ba #[I mH,I mG,I nh] 122,box aZ #[I fy,I fD,I gI] 122])
 refine ak (v:=.bool false) J J<|bz<|aR kQ J J<|bq H1 1 J aS J J J<|aR kQ J J<|bq H1 0 J aS J J J<|k<|eql J J J J<|ai (v:=.bool (decide (fy=mH))) J J ?_
 rcases bE (decide (fy=mH)) with b0|b0
 ·
  refine aQ J J J b0<|fa mL J J<|aQ J J J b0<|lx H1 1 J aS J J J<|aQ J J J b0<|fa mL J J<|aQ J J J b0<|lx H1 0 J aS J J J<|aQ J J J b0<|eql J J J J<|k<|aN J J J J b0 J<|ak (v:=.bool (decide (fD=mG))) J J<|aq<|rt<|r1 J J ?_
  exact⟨amz Value.bool (by simp only[b0,BL]),H1.below⟩
 refine aX J J J b0<|aX J J J b0<|aX J J J b0<|aX J J J b0<|aX J J J b0<|k<|cZ J J J J b0 J<|ak (v:=.bool false) J J<|aq<|rt<|r1 J J ?_
 exact⟨amz Value.bool (by simp only[b0,BL]),H1.below⟩
theorem FD {xs:List (Int×Int×Int)} (H:HI M w w_ ([oL w 122 dV xs dL]++r)):Calls aJ 118 #[sL dV xs dL,.func (.func 119) #[] #[]] w_ (cA fun v w'=>∃(WB:List ew),v=sL dV WB dL∧HI M w w' ([oL w 122 dV WB dL]++r)∧WB.length≤xs.length∧∀x∈WB,x∈xs):=by
 refine enter 66 Tryz.func118 J J J fun f0 ha=>?_
 have Gf:=kf<|H.at_ 0 J
 have i0:f0 0=sL dV xs dL:=ha 0 bm
 have i1:f0 1=.func (.func 119) #[] #[]:=ha 1 bm
 refine az<|ak (v:=.slice none 0 0) J J<|aq<|sq<|az<|ai J i0<|k<|ef J J eA<|k<|lss J J J J<|z<|nx<|cd (b:=decide ((xs.length:Int)<2)) J J (fun b0=>?_)<|fun b0=>?_
 ·
  refine az<|ai J i0<|ak (v:=sL dV xs dL) J J<|aq<|rt<|aK<|r1 J J ?_
  refine⟨xs,?_,?_,(by exact amD _),(by exact fun _ h_=>h_)⟩
  · first|rfl|simp only[amA]
  · first|exact H|simpa +zetaDelta only[amA] using H
 have p0:=dF b0
 refine sk<|nx<|sq<|az<|ak (v:=I 1) J J<|aq<|bk<|lp (fun m f w'=>∃(k_:Nat),m=xs.length-k_∧f 0=sL dV xs dL∧f 1=.func (.func 119) #[] #[]∧f 5=I (k_:Int)∧HI M w w' ([oL w 122 dV xs dL]++r)∧(1≤k_∧k_≤xs.length)) _ ⟨1,J,i0,i1,(bN J),H,aj⟩ ?_
 rintro _ f0 w0 ⟨k_,rfl,s0,s1,s2,H0,pk⟩
 refine sq<|az<|ai J s2<|ai J s0<|k<|ef J J eA<|k<|lss J J J J<|z<|nx<|cd (b:=decide ((k_:Int)<(xs.length:Int))) J J (fun b1=>?_)<|fun b1=>?_
 ·
  have p1:=dT b1
  refine sk<|nx<|sq<|bk<|sq<|ma [.r,.r,.r,.r,.r,.r,.r,.r,.r,.r,.r] (fun _=>True) J aU (fun _ _=>trivial)<|yq J J<|kq (fun _ _=>mv J s1 e1)<|bQ<|kq (fun _ _=>mv J s0 e1)<|bQ<|kq (fun _ _=>mv J s2 e1)<|bQ<|th (H0.at_ 0 J) J J J J aj eA cR ?_
  intro iE x0 aI cD
  refine bQ<|rZ cD cR J J ?_
  intro v0 cE
  obtain⟨_,⟨_,_,rfl,⟨rfl,ep⟩,⟨_,_,rfl,⟨rfl,ei⟩,⟨rfl,fB⟩⟩⟩,rfl⟩:=cE
  refine bQ<|kq (fun _ _=>mv J s0 e1)<|bQ<|kq (fun _ _=>mv J s2 e1)<|bQ<|kq (fun _ _=>sub J J J J aT e1)<|bQ<|th (H0.at_ 0 J) J J J J aj eA cR ?_
  intro rb x1 bV gG
  refine bQ<|rZ gG cR J J ?_
  intro v1 ja
  obtain⟨_,⟨_,_,rfl,⟨rfl,jW⟩,⟨_,_,rfl,⟨rfl,iH⟩,⟨rfl,kR⟩⟩⟩,rfl⟩:=ja
  refine zq<|yq J J<|kq (v:=.bool (decide (x0.1=x1.1)&&decide (x0.2.1=x1.2.1))) (fun v_ _=>have cc:=Ea (fy:=x0.1) (fD:=x0.2.1) (gI:=x0.2.2) (mH:=x1.1) (mG:=x1.2.1) (nh:=x1.2.2) (w:=v_) ep ei fB jW iH kR;cf XZ rfl rfl rfl (ec J<|ec J e0) cc fun _ _ h_=>e2 h_)<|zq<|yz ?_
  intro w1 f1 _ bY _ _ cK iK
  have H1:=H0.ext bY
  have s3:=(cK 0 J).trans s0
  have s4:=(cK 1 J).trans s1
  have s5:=(cK 5 J).trans s2
  have s6:=cK 28 J
  refine kz<|nx<|cd (b:=(decide (x0.1=x1.1)&&decide (x0.2.1=x1.2.1))) J s6 (fun b2=>?_)<|fun b2=>?_
  ·
   refine az<|ai J s3<|ai J s5<|k<|Ui (H1.at_ 0 J) J J J J aj eA cR<|ak (v:=.slice (pA dV dL (k_:Int).toNat) (xs.length-(k_:Int).toNat) (dL-(k_:Int).toNat)) J J<|aq<|sq<|az<|ak (v:=I 1) J J<|aq<|bk<|lp (fun m f w'=>∃(tT:Nat) (q_:Nat) (rl:List ew),m=xs.length-k_-tT∧f 0=sL dV xs dL∧f 1=.func (.func 119) #[] #[]∧f 5=I (q_:Int)∧f 6=.slice (pA dV dL (k_:Int).toNat) (xs.length-(k_:Int).toNat) (dL-(k_:Int).toNat)∧f 7=I (tT:Int)∧HI M w w' ([own w.heap.size 122 (.slice dV xs.length dL) rl]++r)∧(rl.length=xs.length∧∀x∈rl,x∈xs)∧(k_≤q_∧q_<k_+tT∧k_+tT≤xs.length)) _ ⟨1,k_,xs,J,s3,s4,(bN s5),J,(bN J),H1,(by exact⟨J,fun _ h_=>h_⟩),aj⟩ ?_
   rintro _ f2 w2 ⟨tT,q_,rl,rfl,s7,s8,s9,eC,fj,H2,hs,sI⟩
   refine sq<|az<|ai J fj<|ai J eC<|k<|ef J J eA<|k<|lss J J J J<|z<|nx<|cd (b:=decide ((tT:Int)<((xs.length-(k_:Int).toNat:Nat):Int))) J J (fun b3=>?_)<|fun b3=>?_
   ·
    have p3:=dT b3
    refine sk<|nx<|sq<|bk<|sq<|ma [.r,.r,.r,.r,.r,.r,.r,.r,.r,.r,.r,.r] (fun _=>True) J aU (fun _ _=>trivial)<|yq J J<|kq (fun _ _=>mv J s8 e1)<|bQ<|kq (fun _ _=>mv J eC e1)<|bQ<|kq (fun _ _=>mv J fj e1)<|bQ<|Rv (H2.at_ 0 J) J J J J aj eA cR ?_
    intro pq x2 jb kB
    refine bQ<|rZ kB cR J J ?_
    intro v2 nN
    obtain⟨_,⟨_,_,rfl,⟨rfl,oI⟩,⟨_,_,rfl,⟨rfl,rA⟩,⟨rfl,oJ⟩⟩⟩,rfl⟩:=nN
    refine bQ<|kq (fun _ _=>mv J eC e1)<|bQ<|kq (fun _ _=>mv J fj e1)<|bQ<|kq (fun _ _=>sub J J J J aT e1)<|bQ<|Rv (H2.at_ 0 J) J J J J aj eA cR ?_
    intro ue x3 qI tC
    refine bQ<|rZ tC cR J J ?_
    intro v3 nB
    obtain⟨_,⟨_,_,rfl,⟨rfl,sh⟩,⟨_,_,rfl,⟨rfl,sg⟩,⟨rfl,p9⟩⟩⟩,rfl⟩:=nB
    refine zq<|yq J J<|kq (v:=.bool (decide (x2.1=x3.1)&&decide (x2.2.1=x3.2.1))) (fun v_ _=>have cc:=Ea (fy:=x2.1) (fD:=x2.2.1) (gI:=x2.2.2) (mH:=x3.1) (mG:=x3.2.1) (nh:=x3.2.2) (w:=v_) oI rA oJ sh sg p9;cf XZ rfl rfl rfl (ec J<|ec J e0) cc fun _ _ h_=>e2 h_)<|bQ<|kq (fun _ _=>kg J J e1)<|zq<|yz ?_
    intro w3 f3 _ dy _ _ fJ Ac
    have H3:=H2.ext dy
    have fT:=(fJ 0 J).trans s7
    have fS:=(fJ 1 J).trans s8
    have gF:=(fJ 5 J).trans s9
    have gW:=(fJ 6 J).trans eC
    have kG:=(fJ 7 J).trans fj
    have lu:=fJ 49 J
    refine kz<|nx<|cd (b:=!(decide (x2.1=x3.1)&&decide (x2.2.1=x3.2.1))) J lu (fun b4=>?_)<|fun b4=>?_
    ·
     refine az<|ai J fT<|ai J gF<|ai J gW<|ai J kG<|k<|ahm (H3.at_ 0 J) J J J J aj eA cR ?_
     intro tK x4 Ab ud
     refine k<|nr ud cR J J ?_
     intro v4 AQ
     obtain⟨_,⟨_,_,rfl,⟨rfl,E1⟩,⟨_,_,rfl,⟨rfl,Pp⟩,⟨rfl,aaM⟩⟩⟩,rfl⟩:=AQ
     refine k<|iq (H3.at_ 0 J) J J J J aj eA cR ?_
     intro g0 x5 iC Sa OB
     refine k<|qf H3 0 J iC J aj cR J J J J ⟨_,⟨_,_,J,⟨J,(show aL (x4.1) from bo)⟩,⟨_,_,J,⟨J,(show aL (x4.2.1) from bo)⟩,⟨J,(show aL (x4.2.2) from bo)⟩⟩⟩,J⟩ ?_
     intro w4 (H4:HI M w w4 ([own w.heap.size 122 (.slice dV xs.length dL) (rl.set ((q_:Int).toNat) (x4.1,x4.2.1,x4.2.2))]++r))
     refine aq<|rg<|ai J gF<|k<|add J J J J aT<|ak (v:=I ((q_:Int)+1)) J J<|z<|aF<|nx<|rg<|ai J kG<|k<|add J J J J aT<|ak (v:=I ((tT:Int)+1)) J J<|z<|bG _ ?_ ⟨(tT+1),(q_+1),(rl.set ((q_:Int).toNat) (x4.1,x4.2.1,x4.2.2)),J,fT,fS,(bN J),gW,(bN J),H4,(by exact ZS hs Ab),aj⟩
     omega
    refine sk<|aF<|nx<|rg<|ai J kG<|k<|add J J J J aT<|ak (v:=I ((tT:Int)+1)) J J<|z<|bG _ ?_ ⟨(tT+1),q_,rl,J,fT,fS,(bN gF),gW,(bN J),H3,(by exact hs),aj⟩
    omega
   refine ex<|aV<|bf<|bh<|cV<|ai J s7<|ai J s9<|k<|Ui (H2.at_ 0 J) J J J J aj eA cR<|k<|clE H2 0 J J J (q:=(q_:Int).toNat) J eA cR (by have h_:=hs.1;omega) ?_
   intro w3 (H3:HI M w w3 ([own w.heap.size 122 (.slice dV xs.length dL) (rl.take ((q_:Int).toNat)++List.replicate (rl.length-((q_:Int).toNat)) (0,0,0))]++r))
   refine bz<|ai J s7<|ai J s9<|k<|Re H3 0 J J J J J (by have h_:=hs.1;first|omega|(simp only[fN,iu,ot];omega)) eA cR ?_
   intro (H4:HI M w w3 ([oL w 122 dV ((rl.take ((q_:Int).toNat)++List.replicate (rl.length-((q_:Int).toNat)) (0,0,0)).take (q_:Int).toNat) dL]++r))
   refine ak (v:=sL dV ((rl.take ((q_:Int).toNat)++List.replicate (rl.length-((q_:Int).toNat)) (0,0,0)).take (q_:Int).toNat) dL) J J<|aq<|rt<|bU<|aK<|ee<|bU<|aK<|r1 J J ?_
   refine⟨((rl.take ((q_:Int).toNat)++List.replicate (rl.length-((q_:Int).toNat)) (0,0,0)).take (q_:Int).toNat),?_,?_,(by have h_:=hs.1;exact ZU h_ aj),(by have h_:=hs.1;exact ZT hs.2 aj)⟩
   · first|rfl|simp only[amA]
   · first|exact H4|simpa +zetaDelta only[amA] using H4
  refine sk<|aF<|nx<|rg<|ai J s5<|k<|add J J J J aT<|ak (v:=I ((k_:Int)+1)) J J<|z<|bG _ ?_ ⟨(k_+1),J,s3,s4,(bN J),H1,aj⟩
  omega
 refine ex<|aV<|bf<|bh<|cV<|ai J s0<|ak (v:=sL dV xs dL) J J<|aq<|rt<|r1 J J ?_
 refine⟨xs,?_,?_,(by exact amD _),(by exact fun _ h_=>h_)⟩
 · first|rfl|simp only[amA]
 · first|exact H0|simpa +zetaDelta only[amA] using H0
theorem ae':cH aJ 118:=cN Tryz.func118
theorem ZF:gv aJ 175 0 0:=js Tryz.underlying175
theorem F6 (qR:aL pn) (hT:fW 0 w) (ho:hG U) (dC:U.length≤64) (eD:fo.length=U.length) (fK:∀x∈fo,x<((U.length:Nat):Int)) (IP:pn=((U.length:Nat):Int)) (uo:bI pn pr=true) (HA:sp.length≤1000000000000) (H:HI M w w_ ([box df #[.slice aC aD aB,sL aw U av,sL ay fo ax,sL eF sp eE,.map (some bC),I pn,sL dp pr dm,.map (some bK)] 142,iL aw U av,iL ay fo ax,oL w 175 eF sp eE,cj bC mp,iL dp pr dm,bX bK mq]++r)):Calls aJ 80 #[pV df 0] w_ (cA fun v w'=>∃(sZ:List cT) (Gd:KV) (Cm:List (List bt)) (nZ:OA) (nX:Nat) (y':OA) (yW:Nat),v=.tuple #[]∧HI M w w' ([box df #[.slice aC aD aB,sL aw U av,sL ay fo ax,sL nZ sZ nX,.map (some bC),I pn,sL y' Cm yW,.map (some bK)] 142,iL aw U av,iL ay fo ax,oL w 175 nZ sZ nX,cj bC Gd,iL y' Cm yW,bX bK mq]++r)∧sZ.length≤sp.length+53000000∧bI pn Cm=true):=by
 refine enter 77 Tryz.func80 J J J fun f0 ha=>?_
 have iS:=bl<|H.rv 1 J
 have kM:=bl<|H.rv 2 J
 have DE:=kf<|H.at_ 3 J
 have DG:=bl<|H.rv 5 J
 have i0:f0 0=pV df 0:=ha 0 bm
 have E2:=oV uo
 have Qf:=(qV (U:=U) (fo:=fo) E2).1
 have uE:=Ta (U:=U) (fo:=fo) IP E2 eD fK
 refine sq<|ma [.r,.r,.r,.r,.r,.r,.r,.r,.r,.r,.r] (fun _=>True) J aU (fun _ _=>trivial)<|yq J J<|kq (fun _ _=>mv J i0 e1)<|bQ<|kq (fun _ _=>nc J J e1)<|bQ<|kq (fun _ _=>fa HK J J e1)<|bQ<|kq (fun _ x_=>cI (H.ext x_) 0 J ej J J au J e1)<|bQ<|kq (fun _ _=>mv J i0 e1)<|bQ<|kq (fun _ _=>nc J J e1)<|bQ<|kq (fun _ _=>fa rj J J e1)<|bQ<|kq (fun _ x_=>cI (H.ext x_) 0 J bp J J au J e1)<|zq<|yu J (fun _ v w'=>∃(a0:OA) (c0:Nat),v=.agg #[I pn,sL a0 (fk pn pr) c0]∧RV H.gh w' (sL a0 (fk pn pr) c0) (fk pn pr)) J od J (fun v_ _ x_ _=>have dq:=wK (mn:=pn) (mr:=pr) (w:=v_) (H.ext x_).mb qR ((H.ext x_).rv 5 rfl) (by exact uo);ca Qn rfl (ec J e0) dq (fun _ w1 ⟨a1,c1,e_,dy,ei⟩=>⟨_,J,dy,⟨a1,c1,e_,(bj.rv ei (H.ext x_).mb)⟩⟩))<|lE J (fun _ v w'=>∃(a3:OA) (c3:Nat),v=sL a3 (cP U fo pn<|fk pn pr) c3∧bj H.gh 122 w_ (cP U fo pn<|fk pn pr) (.slice a3 (cP U fo pn<|fk pn pr).length c3) w') 0 J J (mN<|by rintro _ _ _ x_ ⟨a3,c3,e_,iH⟩;exact⟨a3,c3,e_,iH.Lr x_⟩) J (fun v_ _ _ x_ _ h_=>let ⟨a4,c4,s0,kR⟩:=h_;have H9:=(H.ext x_).put (it:=iL a4 (fk pn pr) c4) rfl kR;have ff:=uS (U:=U) (fo:=fo) (mn:=pn) (mr:=(fk pn pr)) (aC:=aC) (aD:=aD) (aB:=aB) H9.mb (hT.ext H9.below) (H9.rv 2 J) (H9.rv 3 J) bo (H9.rv 0 J) aj (by exact eD) (by exact fK) (by exact E2);ca Ql rfl (ec J<|ec s0 e0) ff (fun _ w3 ⟨a5,c5,e_,fA,nN⟩=>⟨_,J,fA,⟨a5,c5,e_,(bj.anyM<|bj.base nN x_)⟩⟩))<|lE J (fun _ v w'=>∃(a6:OA) (c6:Nat),v=sL a6 (cP U fo pn<|fk pn pr) c6∧bj H.gh 122 w_ (cP U fo pn<|fk pn pr) (.slice a6 (cP U fo pn<|fk pn pr).length c6) w') 0 J J (mN<|by rintro _ _ _ x_ ⟨a6,c6,e_,rA⟩;exact⟨a6,c6,e_,rA.Lr x_⟩) J (fun _ _ _ _ _ h_=>let ⟨a7,c7,s1,oJ⟩:=h_;jy rfl s1 ⟨_,J,Ext.refl _,⟨a7,c7,J,oJ⟩⟩)<|yz ?_
 intro w4 f0 _ iz _ _ cK iK
 obtain⟨a8,c8,s2,nB⟩:=iK 0 _ _ rfl
 have dI:=H.eS<|bj.anyM nB
 have s3:=(cK 0 J).trans i0
 refine kz<|cV<|ai J s2<|k ?_
 let J0:=oL w 122 a8 (cP U fo pn (fk pn pr)) c8
 let J1:=box df #[.slice aC aD aB,sL aw U av,sL ay fo ax,sL eF sp eE,.map (some bC),I pn,sL dp pr dm,.map (some bK)] 142
 let J2:=iL aw U av
 let J3:=iL ay fo ax
 let J4:=oL w 175 eF sp eE
 let J5:=iL dp pr dm
 let bc:=[J5,bX bK mq]
 let ck:=J0::J1::J2::J3::J4::cj bC mp::bc
 have cU:HI M w w4 ([J0]++([J1,J2,J3,J4,cj bC mp,J5,bX bK mq]++r)):=HI.aN (l:=(J0::J1::J2::J3::J4::cj bC mp::bc)) (l':=ck) (t:=r) dI [0,1,2,3,4,5,6,7] au J J
 have mc:=FD (dV:=a8) (dL:=c8) (xs:=(cP U fo pn<|fk pn pr)) (w:=w) (w_:=w4) (r:=([J1,J2,J3,J4,cj bC mp,J5,bX bK mq]++r)) (M:=M) cU
 refine ca ae' J (ec J<|ec J e0) mc ?_
 rintro _ w5 ⟨o0,rfl,d_,q0,q1⟩
 let J6:=oL w 122 a8 o0 c8
 refine ak (v:=sL a8 o0 c8) J J<|aq<|sq<|az<|ai (v:=sL a8 o0 c8) J J<|k<|ef J J eA<|ai (v:=I 0) J J<|aq<|bk<|lp (fun m f w'=>∃(j_:Nat) (ji:List cT) (oq:KV) (a9:OA) (c9:Nat),m=o0.length-j_∧f 0=pV df 0∧f 2=sL a8 o0 c8∧f 20=sL a8 o0 c8∧f 21=I (o0.length:Int)∧f 22=I (j_:Int)∧HI M w w' ((J6::box df #[.slice aC aD aB,sL aw U av,sL ay fo ax,sL a9 ji c9,.map (some bC),I pn,sL dp pr dm,.map (some bK)] 142::J2::J3::oL w 175 a9 ji c9::cj bC oq::bc)++r)∧(j_≤o0.length)∧(ji.length≤sp.length+201*j_)) _ ⟨0,sp,mp,eF,eE,J,s3,J,J,J,(bN J),d_,aj,aj⟩ ?_
 rintro _ f1 w6 ⟨j_,ji,oq,a9,c9,rfl,s4,s5,s6,s7,s8,cY,pk,HB⟩
 refine az<|k<|lss J J s8 s7<|aq<|sq<|cd (b:=decide ((j_:Int)<(o0.length:Int))) J J (fun b0=>?_)<|fun b0=>?_
 ·
  have p0:=dT b0
  refine sk<|nx<|sq<|bk<|az<|k<|iq (cY.at_ 0 J) J J s6 s8 aj eA cR ?_
  intro g0 x0 iC aI cD
  refine k<|nr cD cR J J ?_
  intro v0 sh
  obtain⟨_,⟨_,_,rfl,⟨rfl,sg⟩,⟨_,_,rfl,⟨rfl,p9⟩,⟨rfl,AQ⟩⟩⟩,rfl⟩:=sh
  refine k<|al cY cR ?_
  let J7:=box df #[.slice aC aD aB,sL aw U av,sL ay fo ax,sL a9 ji c9,.map (some bC),I pn,sL dp pr dm,.map (some bK)] 142
  let J8:=oL w 175 a9 ji c9
  let dY:=J7::J2::J3::J8::cj bC oq::bc
  intro aZ w7 jh (dW:HI M w w7 ((box aZ #[I 0,I 0,I 0] 122::J6::dY)++r))
  refine k<|bw dW 0 J cR J J J J J J J ?_
  let J9:=box aZ #[I x0.1,I x0.2.1,I x0.2.2] 122
  intro w8 (dQ:HI M w w8 ((J9::J6::dY)++r))
  refine bz<|ai J s4<|aR kQ J J<|bq dQ 0 J aS J J J<|aR sO J J<|bq dQ 0 J aS J J J<|k ?_
  let jk:=[J5,bX bK mq,J9,J6]
  have cQ:HI M w w8 (dY++([J9,J6]++r)):=HI.aN (l:=(J9::J6::dY)) (l':=(J7::J2::J3::J8::cj bC oq::jk)) (t:=r) dQ [2,3,4,5,6,7,8,0,1] au J J
  have nV:=mC (df:=df) (aC:=aC) (aD:=aD) (aB:=aB) (aw:=aw) (av:=av) (U:=U) (ay:=ay) (ax:=ax) (fo:=fo) (eF:=a9) (eE:=c9) (sp:=ji) (bC:=bC) (mp:=oq) (pn:=pn) (dp:=dp) (dm:=dm) (pr:=pr) (bK:=bK) (mq:=mq) (f_:=x0.1) (t_:=x0.2.2) (w:=w) (w_:=w8) (r:=([J9,J6]++r)) (M:=M) qR sg AQ hT aj aj (by exact eD) aj (by exact uo) cQ
  refine ca zu J (ec J<|ec J<|ec J e0) nV ?_
  rintro _ w9 ⟨o1,o2,o3,jH,jF,rfl,eh,q2,q3⟩
  let dZ:=box df #[.slice aC aD aB,sL aw U av,sL ay fo ax,sL jH o2 jF,.map (some bC),I pn,sL dp pr dm,.map (some bK)] 142
  let eP:=cj bC o3
  let fL:=dZ::J2::J3::oL w 175 jH o2 jF::eP::jk
  have dO:HI M w w9 (fL++r):=eh
  refine ak (v:=I o1) J J<|z<|nx<|ma [.s,.r,.r,.r,.r,.r,.r,.r,.r,.r,.r,.r,.r,.r,.e,.f,.f,.e] (fun _=>True) J aU (fun _ _=>trivial)<|yq J J<|kq (fun _ _=>mv J s4 e1)<|bQ<|kq (fun _ _=>mv J s4 e1)<|bQ<|kq (fun _ _=>nc J J e1)<|bQ<|kq (fun _ _=>fa lR J J e1)<|bQ<|kq (fun _ x_=>lx (dO.ext x_) 0 J nA J J J e1)<|bQ<|kq (fun _ _=>fa kQ J J e1)<|bQ<|kq (fun _ x_=>lx (dO.ext x_) 7 J aS J J J e1)<|bQ<|kq (fun _ _=>fa mL J J e1)<|bQ<|kq (fun _ x_=>lx (dO.ext x_) 7 J aS J J J e1)<|bQ<|kq (fun _ _=>mv (v:=I o1) J J e1)<|bQ<|kq (fun _ _=>fa sO J J e1)<|bQ<|kq (fun _ x_=>lx (dO.ext x_) 7 J aS J J J e1)<|bQ<|kq (fun _ _=>bd (v:=.agg #[I 4,I x0.1,I x0.2.1,I o1,I x0.2.2]) J (cz J<|cz J<|cz J<|cz J<|cz J eI) (fun _=>aU) e1)<|zq<|yu J (fun _ v w'=>∃(nY:OA) (nW:Nat),v=sL nY ([(4,x0.1,x0.2.1,o1,x0.2.2)]:List cT) nW∧RV dO.gh w' (sL nY ([(4,x0.1,x0.2.1,o1,x0.2.2)]:List cT) nW) ([(4,x0.1,x0.2.1,o1,x0.2.2)]:List cT)) J od J (fun v_ N_ x_ n_=>?_) ?_
  ·
   have gS:=dO.ext x_
   refine bs (xs:=([(4,x0.1,x0.2.1,o1,x0.2.2)]:List cT)) (cells:=#[I 4,I x0.1,I x0.2.1,I o1,I x0.2.2]) (e:=175) gS J (cz J eI) (fun _=>aU) ⟨[I 4,I x0.1,I x0.2.1,I o1,I x0.2.2],[],J,⟨_,_,J,⟨J,(show aL (4) from aT)⟩,⟨_,_,J,⟨J,(show aL (x0.1) from bo)⟩,⟨_,_,J,⟨J,(show aL (x0.2.1) from bo)⟩,⟨_,_,J,⟨J,(show aL (o1) from bo)⟩,⟨J,(show aL (x0.2.2) from bo)⟩⟩⟩⟩⟩,J⟩ J au ?_
   intro g2 eB mA (iY:HI M w eB ((own w.heap.size 175 (.slice (some ⟨g2,0,none⟩) 1 1) ([(4,x0.1,x0.2.1,o1,x0.2.2)]:List cT)::fL)++r))
   have jz:=iY.freeze 0 J
   exact⟨_,J,mA,⟨(some ⟨g2,0,none⟩),1,J,(mJ J<|jz.rv 0 J)⟩⟩
  refine ye<|yf J (fun _ _=>nc J J e3)<|yf J (fun _ _=>fa lR J J e3)<|ye<|yz ?_
  intro fE f2 _ og _ _ fJ Ac
  have n5:=dO.ext og
  have s9:=(fJ 0 J).trans s4
  have eC:=(fJ 2 J).trans s5
  have fj:=(fJ 20 J).trans s6
  have fT:=(fJ 21 J).trans s7
  have fS:=(fJ 22 J).trans s8
  have gF:=fJ 36 J
  obtain⟨a12,qY,gW,Pp⟩:=Ac 0 _ _ rfl
  let gp:=iL a12 ([(4,x0.1,x0.2.1,o1,x0.2.2)]:List cT) qY
  have jd:=n5.put (it:=gp) J Pp
  have kG:=fJ 48 J
  refine j8<|me jd 4 J J J J gF gW (jd.rv 0 J).src Kh AG J (by simp only[iB,gj];omega) J ?_
  intro ka j9 iU (lO:HI M w iU ((gp::dZ::J2::J3::oL w 175 ka (o2++([(4,x0.1,x0.2.1,o1,x0.2.2)]:List cT)) j9::eP::jk)++r))
  let fQ:=oL w 175 ka (o2++([(4,x0.1,x0.2.1,o1,x0.2.2)]:List cT)) j9
  refine j8<|bw lO 1 J nA J J kG J J J J ?_
  let iF:=box df #[.slice aC aD aB,sL aw U av,sL ay fo ax,sL ka (o2++([(4,x0.1,x0.2.1,o1,x0.2.2)]:List cT)) j9,.map (some bC),I pn,sL dp pr dm,.map (some bK)] 142
  let lz:=gp::iF::J2::J3::fQ::eP::jk
  intro jZ (qp:HI M w jZ (lz++r))
  refine kz<|aF<|nx<|rg<|k<|add J J fS J aT<|ai (v:=I ((j_:Int)+1)) J J<|z ?_
  have kP:=qp.put (it:=J2) J<|qp.rv 2 J
  have lA:=kP.put (it:=J3) J<|kP.rv 4 J
  have kE:=lA.put (it:=J5) J<|lA.rv 8 J
  have yj:HI M w jZ ((J5::J3::J2::lz)++r):=kE
  have nn:HI M w jZ ((J6::iF::J2::J3::fQ::eP::bc)++r):=HI.aN (l:=(J5::J3::J2::lz)) (l':=(J6::iF::J2::J3::fQ::eP::bc)) (t:=r) yj [12,4,2,1,7,8,0,10] au J J
  refine bG _ ?_ ⟨(j_+1),(o2++([(4,x0.1,x0.2.1,o1,x0.2.2)]:List cT)),o3,ka,j9,J,s9,eC,fj,fT,(bN J),nn,aj,(by simp only[fN,iB,gj];omega)⟩
  omega
 have p0:=dF b0
 refine ex<|aV<|bf<|bh<|nx<|sq<|az<|ai J s4<|k<|nc J J<|aR lR J J<|bq cY 1 J nA J J J<|k<|ef J J Kh<|ai (v:=I 0) J J<|aq<|bk ?_
 let pc:=box df #[.slice aC aD aB,sL aw U av,sL ay fo ax,sL a9 ji c9,.map (some bC),I pn,sL dp pr dm,.map (some bK)] 142
 let mh:=oL w 175 a9 ji c9
 refine lp (fun m f w'=>∃(j_:Nat) (iR:KV),m=ji.length-j_∧f 0=pV df 0∧f 2=sL a8 o0 c8∧f 53=sL a9 ji c9∧f 54=I (ji.length:Int)∧f 55=I (j_:Int)∧HI M w w' ((J6::pc::J2::J3::mh::cj bC iR::bc)++r)∧(j_≤ji.length)) _ ⟨0,oq,J,s4,s5,J,J,(bN J),cY,aj⟩ ?_
 rintro _ f2 w7 ⟨j_,iR,rfl,s9,eC,fj,fT,fS,dW,pk⟩
 refine az<|k<|lss J J fS fT<|aq<|sq<|cd (b:=decide ((j_:Int)<(ji.length:Int))) J J (fun b1=>?_)<|fun b1=>?_
 ·
  have p1:=dT b1
  refine sk<|nx<|sq<|bk<|az<|ai J fS<|k<|iq (dW.at_ 4 J) J J fj fS aj Kh AG ?_
  intro g0 x0 iC aI cD
  refine k<|nr cD AG J J ?_
  intro v0 sh
  obtain⟨_,⟨_,_,rfl,⟨rfl,sg⟩,⟨_,_,rfl,⟨rfl,p9⟩,⟨_,_,rfl,⟨rfl,AQ⟩,⟨_,_,rfl,⟨rfl,E1⟩,⟨rfl,Pp⟩⟩⟩⟩⟩,rfl⟩:=sh
  refine k<|al dW AG ?_
  let uf:=J6::pc::J2::J3::mh::cj bC iR::bc
  intro aZ w8 jh (dQ:HI M w w8 ((box aZ #[I 0,I 0,I 0,I 0,I 0] 175::uf)++r))
  refine ak (v:=I (j_:Int)) J J<|k<|bw dQ 0 J AG J J J J J J J ?_
  let tM:=box aZ #[I x0.1,I x0.2.1,I x0.2.2.1,I x0.2.2.2.1,I x0.2.2.2.2] 175
  intro w9 (cQ:HI M w w9 ((tM::uf)++r))
  refine bz<|aR ZF J J<|bq cQ 0 J aS J J J<|k<|eql J J J J<|z<|nx<|cd (b:=decide (x0.1=4)) J J (fun b2=>?_)<|fun b2=>?_
  ·
   have p2:=dT b2
   refine ma [.r,.r,.r,.r,.r,.r,.r,.r,.r,.r,.e] (fun _=>True) J aU (fun _ _=>trivial)<|yq J J<|kq (fun _ _=>mv J s9 e1)<|bQ<|kq (fun _ _=>nc J J e1)<|bQ<|kq (fun _ _=>fa DP J J e1)<|bQ<|kq (fun _ x_=>lx (cQ.ext x_) 2 J Jz J J J e1)<|bQ<|kq (fun _ _=>fa OF J J e1)<|bQ<|kq (fun _ x_=>lx (cQ.ext x_) 0 J aS J J J e1)<|bQ<|kq (fun _ _=>fa OE J J e1)<|bQ<|kq (fun _ x_=>lx (cQ.ext x_) 0 J aS J J J e1)<|bQ<|kq (fun _ _=>bd (v:=.agg #[I x0.2.1,I x0.2.2.1]) J (cz J<|cz J eI) (fun _=>aU) e1)<|bQ<|kq (fun _ _=>mv (v:=I (j_:Int)) J J e1)<|zq<|ye<|yz ?_
   intro dP f3 _ ki _ _ fJ Ac
   have eh:=cQ.ext ki
   have gF:=(fJ 0 J).trans s9
   have gW:=(fJ 2 J).trans eC
   have kG:=(fJ 53 J).trans fj
   have lu:=(fJ 54 J).trans fT
   have mQ:=(fJ 55 J).trans fS
   have mP:=fJ 66 J
   have nM:=fJ 71 J
   have pG:=fJ 72 J
   refine j8<|W4 (k:=(x0.2.1,x0.2.2.1)) JC eh 6 J J J J mP nM pG aT ?_
   let jM:=cj bC (jn iR (x0.2.1,x0.2.2.1) (j_:Int))
   let Df:=J6::pc::J2::J3::mh::jM::bc
   intro eB (dO:HI M w eB ((tM::Df)++r))
   refine kz<|aF<|nx<|rg<|k<|add J J mQ J aT<|ai (v:=I ((j_:Int)+1)) J J<|z ?_
   have fg:HI M w eB (Df++r):=HI.aN (l:=(tM::Df)) (l':=Df) (t:=r) dO [1,2,3,4,5,6,7,8] au J J
   refine bG _ ?_ ⟨(j_+1),(jn iR (x0.2.1,x0.2.2.1) (j_:Int)),J,gF,gW,kG,lu,(bN J),fg,aj⟩
   omega
  have p2:=dF b2
  refine sk<|aF<|nx<|rg<|k<|add J J fS J aT<|ai (v:=I ((j_:Int)+1)) J J<|z ?_
  have eh:HI M w w9 (uf++r):=HI.aN (l:=(tM::uf)) (l':=uf) (t:=r) cQ [1,2,3,4,5,6,7,8] au J J
  refine bG _ ?_ ⟨(j_+1),iR,J,s9,eC,fj,fT,(bN J),eh,aj⟩
  omega
 refine ex<|aV<|bf<|bh<|nx<|rg<|ai J s9<|ai J eC<|k ?_
 have dQ:=dW.freeze 0 J
 let pb:=cj bC iR
 let G_:=iL a8 o0 c8::pc::J2::J3::mh::pb::bc
 have cQ:HI M w w7 (G_++r):=dQ
 let EB:=[bX bK mq,iL a8 o0 c8]
 have eh:HI M w w7 ((pc::J2::J3::mh::pb::J5::EB)++([]++r)):=HI.aN (l:=G_) (l':=(pc::J2::J3::mh::pb::J5::EB)) (t:=r) cQ [1,2,3,4,5,6,7,0] au J J
 have nV:=yt (df:=df) (aC:=aC) (aD:=aD) (aB:=aB) (aw:=aw) (av:=av) (U:=U) (ay:=ay) (ax:=ax) (fo:=fo) (eF:=a9) (eE:=c9) (sp:=ji) (bC:=bC) (mp:=iR) (pn:=pn) (dp:=dp) (dm:=dm) (pr:=pr) (bK:=bK) (mq:=mq) (zF:=a8) (zA:=c8) (es:=o0) (w:=w) (w_:=w7) (r:=([]++r)) (M:=M) qR (by exact uo) (by intro x_ h_;rw[IP];exact uE x_ (q1 x_ h_)) eh
 refine ca JK J (ec J<|ec J e0) nV ?_
 rintro _ w8 ⟨o1,jH,jF,rfl,dO,q2⟩
 let qm:=box df #[.slice aC aD aB,sL aw U av,sL ay fo ax,sL a9 ji c9,.map (some bC),I pn,sL jH o1 jF,.map (some bK)] 142
 let ML:=qm::J2::J3::mh::pb::iL jH o1 jF::EB
 have fg:HI M w w8 (ML++r):=dO
 refine z<|D9 J ?_
 have fz:=HI.aN (l:=ML) (l':=[qm,J2,J3,mh,pb,iL jH o1 jF,bX bK mq]) (t:=r) fg [0,1,2,3,4,5,6] au J J
 refine⟨ji,iR,o1,a9,c9,jH,jF,?_,?_,aj,bo⟩
 · first|rfl|simp only[amA]
 · first|exact fz|simpa +zetaDelta only[amA] using fz
theorem CZ:gv aJ 80 2 5:=js Tryz.underlying80
theorem Kj:ey aJ 78 1 false 24 (.slice none 0 0):=⟨aU,aU⟩
theorem Hh:aJ.underlying 78=some (.slice 26):=aU
theorem rR:gv aJ 80 0 0:=js Tryz.underlying80
theorem xT:gv aJ 80 1 3:=js Tryz.underlying80
theorem O0 (kv:aL cn) (hT:fW 0 w) (ho:hG U) (dC:U.length≤64) (eD:fo.length=U.length) (fK:∀x∈fo,x<((U.length:Nat):Int)) (ou:cn=((U.length:Nat):Int)) (pK:cr=cC U fo) (hsw:iI=none∧sw=[]∨sw=eX U fo) (H:HI M w w_ ([box eK #[.slice aC aD aB,sL aw U av,sL ay fo ax,I cn,sL dB cr dA,sL iI sw jE] 80,iL aw U av,iL ay fo ax,iL dB cr dA,oL w 26 iI sw jE]++r)):Calls aJ 67 #[pV eK 0] w_ (cA fun v w'=>∃(wQ:OA) (wP:Nat),v=.slice wQ (eX U fo).length wP∧HI M w w' ([box eK #[.slice aC aD aB,sL aw U av,sL ay fo ax,I cn,sL dB cr dA,.slice wQ (eX U fo).length wP] 80,iL aw U av,iL ay fo ax,iL dB cr dA,oL w 26 wQ (eX U fo) wP]++r)):=by
 refine enter 52 Tryz.func67 J J J fun f0 ha=>?_
 have iS:=bl<|H.rv 1 J
 have kM:=bl<|H.rv 2 J
 have A5:=bl<|H.rv 3 J
 have Xa:=kf<|H.at_ 4 J
 have i0:f0 0=pV eK 0:=ha 0 bm
 have ahF:iI.isNone=true→sw=[]:=NT<|H.at_ 4 J
 refine az<|ak (v:=.slice none 0 0) J J<|aq<|sq<|az<|ai J i0<|k<|nc J J<|aR CZ J J<|bq H 0 J Kj J J J<|k<|S9 J J J J Hh<|z<|nx<|cd (b:=iI.isNone) J J (fun b0=>?_)<|fun b0=>?_
 ·
  refine az<|ai J i0<|k<|nc J J<|aR rR J J<|aR fF J J<|bq H 0 J iZ J J J<|k<|ef J J jv<|ai (v:=I 0) J J<|aq<|bk ?_
  let J0:=iL aw U av
  let J1:=iL ay fo ax
  let J2:=iL dB cr dA
  refine lp (fun m f w'=>∃(j_:Nat) (iW:List (Int×(List<|List bt))) (a0:OA) (c0:Nat),m=U.length-j_∧f 0=pV eK 0∧f 18=I (U.length:Int)∧f 19=I (j_:Int)∧HI M w w' ([box eK #[.slice aC aD aB,sL aw U av,sL ay fo ax,I cn,sL dB cr dA,sL a0 iW c0] 80,J0,J1,J2,oL w 26 a0 iW c0]++r)∧(j_≤U.length)∧(iW=(eX U fo).take j_)) _ ⟨0,sw,iI,jE,J,i0,J,(bN J),H,aj,(by rw[ahF bo];rfl)⟩ ?_
  rintro _ f0 w0 ⟨j_,iW,a0,c0,rfl,s0,s1,s2,H0,pk,hs⟩
  refine az<|k<|lss J J s2 s1<|aq<|sq<|cd (b:=decide ((j_:Int)<(U.length:Int))) J J (fun b1=>?_)<|fun b1=>?_
  ·
   have p1:=dT b1
   refine sk<|nx<|sq<|bk<|az<|ai J s2<|ak (v:=I (j_:Int)) J J<|aq<|sq<|ma [.r,.r,.r,.r,.r,.r,.r,.r,.r,.r,.r,.r,.s,.s,.s,.n,.e,.s,.s,.s] (fun _=>True) J aU (fun _ _=>trivial)<|yq J J<|kq (fun _ _=>mv J s0 e1)<|bQ<|kq (fun _ _=>nc J J e1)<|bQ<|kq (fun _ _=>fa rR J J e1)<|bQ<|kq (fun _ x_=>cI (H0.ext x_) 0 J ej J J au J e1)<|bQ<|kq (fun _ _=>mv J s0 e1)<|bQ<|kq (fun _ _=>nc J J e1)<|bQ<|kq (fun _ _=>fa xT J J e1)<|bQ<|kq (fun _ x_=>cI (H0.ext x_) 0 J bp J J au J e1)<|bQ<|kq (fun _ _=>mv (v:=I (j_:Int)) J J e1)<|zq<|yu J (fun N v w'=>∃(o0:List ew) (o1:Int) (a1:OA) (c1:Nat) (a2:OA) (c2:Nat),v=.tuple #[.agg #[I ((U.length:Nat):Int),sL a1 (db U fo (j_:Int)) c1],sL a2 o0 c2,I o1,I 0]∧o0.length≤2000000000∧aL o1∧oC U.length o0∧RV (MN H0.gh N) w' (sL a1 (db U fo (j_:Int)) c1) (db U fo (j_:Int))∧RV (MN H0.gh N) w' (sL a2 o0 c2) o0) J ⟨by rintro _ _ _ _ x_ ⟨o0,o1,a1,c1,a2,c2,e_,q0,q1,q2,ei,fB⟩;exact⟨o0,o1,a1,c1,a2,c2,e_,q0,q1,q2,ei.lift (Up.ext x_),fB.lift (Up.ext x_)⟩,by rintro _ _ _ _ _ k_ ⟨o0,o1,a1,c1,a2,c2,e_,q0,q1,q2,ei,fB⟩;exact⟨o0,o1,a1,c1,a2,c2,e_,q0,q1,q2,gZ ei k_,gZ fB k_⟩⟩ J (fun v_ _ x_ n_=>have dq:=Ho (U:=U) (fo:=fo) (mn:=cn) (mr:=cr) (o:=(j_:Int)) (aC:=aC) (aD:=aD) (aB:=aB) (w:=v_) (kK H0.mb x_ n_) (hT.ext (H0.below.trans x_)) (kj (H0.rv 1 J) x_ n_) (kj (H0.rv 2 J) x_ n_) kv (kj (H0.rv 3 J) x_ n_) aT (by exact ho) (by exact dC) (by exact eD) (by exact fK) (by exact ou) (by exact pK) aj;ca Qt rfl (ec J<|ec J<|ec J e0) dq (fun _ w2 ⟨o2,o3,a3,c3,a4,c4,e_,dy,ja,jW,q3,q4,q5⟩=>⟨_,J,dy,⟨o2,o3,a3,c3,a4,c4,e_,q3,q4,q5,ja,jW⟩⟩))<|lE J (fun N v w'=>∃(o4:List ew) (o5:Int) (a5:OA) (c5:Nat) (a6:OA) (c6:Nat),v=.tuple #[.agg #[I ((U.length:Nat):Int),sL a5 (db U fo (j_:Int)) c5],sL a6 o4 c6,I o5,I 0]∧o4.length≤2000000000∧aL o5∧oC U.length o4∧RV (MN H0.gh N) w' (sL a5 (db U fo (j_:Int)) c5) (db U fo (j_:Int))∧RV (MN H0.gh N) w' (sL a6 o4 c6) o4) 0 J J ⟨by rintro _ _ _ _ x_ ⟨o4,o5,a5,c5,a6,c6,e_,q6,q7,q8,iH,kR⟩;exact⟨o4,o5,a5,c5,a6,c6,e_,q6,q7,q8,iH.lift (Up.ext x_),kR.lift (Up.ext x_)⟩,by rintro _ _ _ _ _ k_ ⟨o4,o5,a5,c5,a6,c6,e_,q6,q7,q8,iH,kR⟩;exact⟨o4,o5,a5,c5,a6,c6,e_,q6,q7,q8,gZ iH k_,gZ kR k_⟩⟩ J (fun _ _ _ _ _ h_=>let ⟨o6,o7,a7,c7,a8,c8,s3,q9,u0,xz,nN,oI⟩:=h_;mv rfl s3 ⟨_,J,Ext.refl _,⟨o6,o7,a7,c7,a8,c8,J,q9,u0,xz,nN,oI⟩⟩)<|lE J (fun N v w'=>∃(a9:OA) (c9:Nat),v=.agg #[I ((U.length:Nat):Int),sL a9 (db U fo (j_:Int)) c9]∧RV (MN H0.gh N) w' (sL a9 (db U fo (j_:Int)) c9) (db U fo (j_:Int))) 0 J J Ed J (fun _ _ _ _ _ h_=>let ⟨aW,gX,nY,nW,a12,qY,s4,Cl,Ck,yp,nB,sh⟩:=h_;xt rfl s4 rfl ⟨_,J,Ext.refl _,⟨nY,nW,J,nB⟩⟩)<|lE J (fun N v w'=>∃(ky:List ew) (lU:OA) (lS:Nat),v=sL lU ky lS∧ky.length≤2000000000∧oC U.length ky∧RV (MN H0.gh N) w' (sL lU ky lS) ky) 1 J J ⟨by rintro _ _ _ _ x_ ⟨ky,lU,lS,e_,xy,xw,p9⟩;exact⟨ky,lU,lS,e_,xy,xw,p9.lift (Up.ext x_)⟩,by rintro _ _ _ _ _ k_ ⟨ky,lU,lS,e_,xy,xw,p9⟩;exact⟨ky,lU,lS,e_,xy,xw,gZ p9 k_⟩⟩ J (fun _ _ _ _ _ h_=>let ⟨K_,N5,TX,Tx,Jf,Ja,s5,D_,q22,KS,AQ,E1⟩:=h_;xt rfl s5 rfl ⟨_,J,Ext.refl _,⟨K_,Jf,Ja,J,D_,KS,E1⟩⟩)<|lE J (fun _ v _=>∃(Ga:Int),v=I Ga∧aL Ga) 2 J J mE J (fun _ _ _ _ _ h_=>let ⟨o18,RU,a19,c19,a20,c20,s6,q27,RA,q29,aaL,aaK⟩:=h_;xt rfl s6 rfl ⟨_,J,Ext.refl _,⟨RU,J,RA⟩⟩)<|QV J (X:=I 0) 3 J J (fun _ _ _ _ _ h_=>let ⟨o22,W3,a23,c23,a24,yV,s7,q33,q34,q35,aaJ,aaI⟩:=h_;xt rfl s7 rfl e1)<|yn (z:=#[I 0,.slice none 0 0]) J J (fun _=>O3 bp)<|ye<|lE J (fun N v w'=>∃(mF:List ew) (a25:OA) (Ez:Nat),v=sL a25 mF Ez∧mF.length≤2000000000∧oC U.length mF∧RV (MN H0.gh N) w' (sL a25 mF Ez) mF) 2 J J ⟨by rintro _ _ _ _ x_ ⟨mF,a25,Ez,e_,Cj,Ci,xp⟩;exact⟨mF,a25,Ez,e_,Cj,Ci,xp.lift (Up.ext x_)⟩,by rintro _ _ _ _ _ k_ ⟨mF,a25,Ez,e_,Cj,Ci,xp⟩;exact⟨mF,a25,Ez,e_,Cj,Ci,gZ xp k_⟩⟩ J (fun _ _ _ _ _ h_=>let ⟨K9,a26,G1,s8,Rz,Ry,KM⟩:=h_;jy rfl s8 ⟨_,J,Ext.refl _,⟨K9,a26,G1,J,Rz,Ry,KM⟩⟩)<|lE J (fun _ v _=>∃(sF:Int),v=I sF∧aL sF) 2 J J mE J (fun _ _ _ _ _ h_=>let ⟨tS,s9,Rx⟩:=h_;jy rfl s9 ⟨_,J,Ext.refl _,⟨tS,J,Rx⟩⟩)<|yq J J<|kq (fun _ _=>jy (v:=I 0) J J e1)<|zq<|yz ?_
   intro w3 f1 _ fe _ _ cK iK
   obtain⟨ba,eC,CQ,l9,BF⟩:=iK 2 _ _ rfl
   have pL:=OU (z:=#[I 0,.slice none 0 0]) (T:=26) CQ l9 BF<|OV
   let J3:=box eK #[.slice aC aD aB,sL aw U av,sL ay fo ax,I cn,sL dB cr dA,sL a0 iW c0] 80
   let J4:=oL w 26 a0 iW c0
   have H8:HI M w w3 ([box ba #[I 0,.slice none 0 0] 26,J3,J0,J1,J2,J4]++r):=H0.DH fe pL<|N9 N8 Oa
   have fj:=(cK 0 J).trans s0
   have fT:=(cK 18 J).trans s1
   have fS:=(cK 19 J).trans s2
   obtain⟨Ax,Au,gF,KL⟩:=iK 5 _ _ rfl
   let J5:=iL Ax (db U fo (j_:Int)) Au
   have H9:=H8.put (it:=J5) J<|sf KL pL
   refine j8<|bw H9 1 J bp J J eC gF J J J ?_
   let J6:=box ba #[I ((U.length:Nat):Int),sL Ax (db U fo (j_:Int)) Au] 26
   intro w4 (cB:HI M w w4 ([J5,J6,J3,J0,J1,J2,J4]++r))
   refine kz<|nx<|ma [.s,.r,.r,.r,.r,.r,.r,.e,.f,.f,.e] (fun _=>True) J aU (fun _ _=>trivial)<|yq J J<|kq (fun _ _=>mv J fj e1)<|bQ<|kq (fun _ _=>mv J fj e1)<|bQ<|kq (fun _ _=>nc J J e1)<|bQ<|kq (fun _ _=>fa CZ J J e1)<|bQ<|kq (fun _ x_=>lx (cB.ext x_) 2 J Kj J J J e1)<|bQ<|kq (fun _ x_=>cI (cB.ext x_) 1 J bp J eC au J e1)<|zq<|yu J (fun _ v w'=>∃(a28:OA) (ru:Nat),v=sL a28 ([(((U.length:Nat):Int),db U fo (j_:Int))]:List (Int×(List<|List bt))) ru∧RV cB.gh w' (sL a28 ([(((U.length:Nat):Int),db U fo (j_:Int))]:List (Int×(List<|List bt))) ru) ([(((U.length:Nat):Int),db U fo (j_:Int))]:List (Int×(List<|List bt)))) J od J (fun v_ N_ x_ n_=>?_) ?_
   ·
    have cU:=cB.ext x_
    refine bs (xs:=([(((U.length:Nat):Int),db U fo (j_:Int))]:List (Int×(List<|List bt)))) (cells:=#[I ((U.length:Nat):Int),sL Ax (db U fo (j_:Int)) Au]) (e:=26) cU J (cz J eI) (fun _=>aU) ⟨[I ((U.length:Nat):Int),sL Ax (db U fo (j_:Int)) Au],[],J,⟨_,_,J,⟨J,(show aL (((U.length:Nat):Int)) from aT)⟩,⟨_,J,RV.list.1 (cU.rv 0 J)⟩⟩,J⟩ J au ?_
    intro g1 w6 iz (d_:HI M w w6 ([own w.heap.size 26 (.slice (some ⟨g1,0,none⟩) 1 1) ([(((U.length:Nat):Int),db U fo (j_:Int))]:List (Int×(List (List bt)))),J5,J6,J3,J0,J1,J2,J4]++r))
    have dD:=d_.freeze 0 J
    exact⟨_,J,iz,⟨(some ⟨g1,0,none⟩),1,J,(mJ J<|dD.rv 0 J)⟩⟩
   refine ye<|yf J (fun _ _=>nc J J e3)<|yf J (fun _ _=>fa CZ J J e3)<|ye<|yz ?_
   intro w7 f2 _ jh _ _ fJ Ac
   have cY:=cB.ext jh
   have gW:=(fJ 0 J).trans fj
   have kG:=(fJ 18 J).trans fT
   have lu:=(fJ 19 J).trans fS
   have mQ:=fJ 41 J
   obtain⟨oZ,oX,mP,KK⟩:=Ac 0 _ _ rfl
   let J7:=iL oZ ([(((U.length:Nat):Int),db U fo (j_:Int))]:List (Int×(List (List bt)))) oX
   have dW:=cY.put (it:=J7) J KK
   have nM:=fJ 46 J
   refine j8<|me dW 7 J J J J mQ mP (dW.rv 0 J).src Hh bp J (by rw[hs];simp only[iu,iB,gj];omega) J ?_
   intro j4 j2 w8 (cQ:HI M w w8 ([J7,J5,J6,J3,J0,J1,J2,oL w 26 j4 (iW++([(((U.length:Nat):Int),db U fo (j_:Int))]:List (Int×(List (List bt))))) j2]++r))
   let J8:=oL w 26 j4 (iW++([(((U.length:Nat):Int),db U fo (j_:Int))]:List (Int×(List (List bt))))) j2
   refine j8<|bw cQ 3 J Kj J J nM J J J J ?_
   let J9:=box eK #[.slice aC aD aB,sL aw U av,sL ay fo ax,I cn,sL dB cr dA,sL j4 (iW++([(((U.length:Nat):Int),db U fo (j_:Int))]:List (Int×(List (List bt))))) j2] 80
   let bc:=[J9,J0,J1,J2,J8]
   intro w9 (eh:HI M w w9 ((J7::J5::J6::bc)++r))
   refine kz<|aF<|nx<|rg<|k<|add J J lu J aT<|ai (v:=I ((j_:Int)+1)) J J<|z ?_
   have dO:=eh.put (it:=J0) J<|eh.rv 4 J
   have fz:=dO.put (it:=J1) J<|dO.rv 6 J
   have iY:=fz.put (it:=J2) J<|fz.rv 8 J
   have jz:HI M w w9 ((J2::J1::J0::J7::J5::J6::bc)++r):=iY
   have n5:HI M w w9 (bc++r):=HI.aN (l:=(J2::J1::J0::J7::J5::J6::bc)) (l':=bc) (t:=r) jz [6,2,1,0,10] au J J
   refine bG _ ?_ ⟨(j_+1),(iW++([(((U.length:Nat):Int),db U fo (j_:Int))]:List (Int×(List<|List bt)))),j4,j2,J,gW,kG,(bN J),n5,aj,(by rw[hs];exact Rh aj)⟩
   omega
  have p1:=dF b1
  refine ex<|aV<|bf<|bh<|cV<|ai J s0<|k<|nc J J<|aR CZ J J<|bq H0 0 J Kj J J J<|ak (v:=sL a0 iW c0) J J<|aq<|rt<|r1 J J ?_
  have e0:(iW:List _)=(eX U fo):=by rw[hs];exact amL (by rw[AN];omega)
  try rw[←e0]
  refine⟨a0,c0,?_,?_⟩
  · first|rfl|simp only[e0]|(simp only[amA])
  · first|exact H0|simpa +zetaDelta only[e0,amA] using H0
 refine sk<|cV<|ai J i0<|k<|nc J J<|aR CZ J J<|bq H 0 J Kj J J J<|ak (v:=sL iI sw jE) J J<|aq<|rt<|r1 J J ?_
 have e0:(sw:List _)=(eX U fo):=by rcases hsw with ⟨h_,_⟩|h_;exact absurd (by rw[h_];rfl) (Bool.eq_false_iff.1 ‹iI.isNone=false›);exact h_
 try rw[←e0]
 refine⟨iI,jE,?_,?_⟩
 · first|rfl|simp only[e0]|(simp only[amA])
 · first|exact H|simpa +zetaDelta only[e0,amA] using H
theorem bW:ey aJ 33 8 true 80 (.agg #[.int .i64 0,.int .i64 0,.int .i64 0,.int .i64 0,.int .i64 0,.slice none 0 0,.int .i64 0,.int .i64 0]):=⟨aU,aU⟩
theorem Fw:cH aJ 60:=cN Tryz.func60
theorem rT:gv aJ 33 1 1:=js Tryz.underlying33
theorem Qm:cH aJ 62:=cN Tryz.func62
theorem oT:gv aJ 33 4 4:=js Tryz.underlying33
theorem Jd (hM:eU M w) (mZ:aL lv):Calls aJ 31 #[I lv] w (cA fun v w'=>∃(a0:OA) (c0:Nat),v=.slice a0 (dS lv).length c0∧Ext w w'∧bj M 3 w (dS lv) (.slice a0 (dS lv).length c0) w'):=by
 refine dH 19 Tryz.func31 J J J hM fun f0 ha H=>?_
 have i0:f0 0=I lv:=ha 0 bm
 refine az<|ak (v:=.slice none 0 0) J J<|bz<|k<|bs (xs:=([1,2,3,4]:aA)) (cells:=#[I 1,I 2,I 3,I 4]) (e:=3) H J (cz J<|cz J<|cz J<|cz J eI) (fun _=>aU) ⟨[I 1],[I 2,I 3,I 4],J,⟨J,(show aL (1) from aT)⟩,⟨[I 2],[I 3,I 4],J,⟨J,(show aL (2) from aT)⟩,⟨[I 3],[I 4],J,⟨J,(show aL (3) from aT)⟩,⟨[I 4],[],J,⟨J,(show aL (4) from aT)⟩,J⟩⟩⟩⟩ J au ?_
 intro g0 w0 bY H0
 refine ak (v:=.slice (some ⟨g0,0,none⟩) 4 4) J J<|aq<|sq<|az<|ai J i0<|aq<|bk<|az<|k<|eql J J J J<|ak (v:=.bool (decide (lv=1))) J J<|z<|nx<|cd (b:=decide (lv=1)) J J (fun b0=>?_)<|fun b0=>?_
 ·
  refine az<|ai (v:=.slice (some ⟨g0,0,none⟩) 4 4) J J<|ak (v:=.slice (some ⟨g0,0,none⟩) 4 4) J J<|aq<|rt<|bU<|aK<|r1 J J ?_
  have e0:(([1,2,3,4]:aA):aA)=dS lv:=by simp only[dS,b0,BL]
  have l0:4=(dS lv).length:=by rw[←e0];simp
  have bu:=iD (fun (va:Nat)=>(.slice (some ⟨g0,0,none⟩) va 4:Value)) l0
  exact⟨(some ⟨g0,0,none⟩),4,bu,H0.below,(amz (fun (n_:Nat)=>bj _ _ _ (dS lv) (.slice (some ⟨g0,0,none⟩) n_ 4) _) l0).mp ((amz (fun (x_:aA)=>bj _ _ _ x_ (.slice (some ⟨g0,0,none⟩) 4 4) _) e0).mp (H0.du 0 J))⟩
 refine az<|k<|eql J J J J<|ak (v:=.bool (decide (lv=2))) J J<|z<|nx<|cd (b:=decide (lv=2)) J J (fun b1=>?_)<|fun b1=>?_
 ·
  refine az<|ai (v:=.slice (some ⟨g0,0,none⟩) 4 4) J J<|k<|bs (xs:=([5]:aA)) (cells:=#[I 5]) (e:=3) H0 J (cz J eI) (fun _=>aU) ⟨[I 5],[],J,⟨J,(show aL (5) from aT)⟩,J⟩ J au ?_
  intro g1 w1 dy H1
  refine k<|me H1 1 J J J J J J (ib<|H1.at_ 0 J) cS aS J bm J ?_
  intro a0 c0 w2 (H2:HI M w w2 [own w.heap.size 3 (.slice (some ⟨g1,0,none⟩) 1 1) ([5]:aA),oL w 3 a0 (([1,2,3,4]:aA)++([5]:aA)) c0])
  refine ak (v:=sL a0 (([1,2,3,4]:aA)++([5]:aA)) c0) J J<|aq<|rt<|bU<|aK<|r1 J J ?_
  have e0:((([1,2,3,4]:aA)++([5]:aA)):aA)=dS lv:=by simp only[dS,b0,b1,BL]
  have bu:=iD (fun (cq:aA)=>(.slice a0 cq.length c0:Value)) e0
  exact⟨a0,c0,bu,H2.below,(amz (fun (x_:aA)=>bj _ _ _ x_ (.slice a0 x_.length c0) _) e0).mp (H2.du 1 J)⟩
 refine az<|k<|eql J J J J<|ak (v:=.bool (decide (lv=3))) J J<|z<|nx<|cd (b:=decide (lv=3)) J J (fun b2=>?_)<|fun b2=>?_
 ·
  refine az<|ai (v:=.slice (some ⟨g0,0,none⟩) 4 4) J J<|k<|bs (xs:=([6,7]:aA)) (cells:=#[I 6,I 7]) (e:=3) H0 J (cz J<|cz J eI) (fun _=>aU) ⟨[I 6],[I 7],J,⟨J,(show aL (6) from aT)⟩,⟨[I 7],[],J,⟨J,(show aL (7) from aT)⟩,J⟩⟩ J au ?_
  intro g1 w1 dy H1
  refine k<|me H1 1 J J J J J J (ib<|H1.at_ 0 J) cS aS J bm J ?_
  intro a0 c0 w2 (H2:HI M w w2 [own w.heap.size 3 (.slice (some ⟨g1,0,none⟩) 2 2) ([6,7]:aA),oL w 3 a0 (([1,2,3,4]:aA)++([6,7]:aA)) c0])
  refine ak (v:=sL a0 (([1,2,3,4]:aA)++([6,7]:aA)) c0) J J<|aq<|rt<|bU<|aK<|r1 J J ?_
  have e0:((([1,2,3,4]:aA)++([6,7]:aA)):aA)=dS lv:=by simp only[dS,b0,b1,b2,BL]
  have bu:=iD (fun (cq:aA)=>(.slice a0 cq.length c0:Value)) e0
  exact⟨a0,c0,bu,H2.below,(amz (fun (x_:aA)=>bj _ _ _ x_ (.slice a0 x_.length c0) _) e0).mp (H2.du 1 J)⟩
 refine sk<|aF<|cV<|ak (v:=.slice none 0 0) J J<|aq<|rt<|r1 J J ?_
 have e0:([]:aA)=dS lv:=by simp only[dS,b0,b1,b2,BL]
 have bu:=iD (fun (cq:aA)=>(.slice none cq.length 0:Value)) e0
 exact⟨none,0,bu,H0.below,(amz (fun (x_:aA)=>bj _ _ _ x_ (.slice none x_.length 0) _) e0).mp (fU H0.below)⟩
theorem qZ (lM:aL kd):Calls aJ 60 #[I kd] w (cA fun v w'=>v=.agg #[I kd,I (-1),I (-1),I (-1),I (-1),.slice none 0 0,I (-1),I (-1)]∧Ext w w'):=by
 refine dH 5 Tryz.func60 J J J pI fun f0 ha H=>?_
 have i0:f0 0=I kd:=ha 0 bm
 refine az<|k<|al H bW ?_
 intro aZ w0 bY (H0:HI (fun _=>False) w w0 [box aZ #[I 0,I 0,I 0,I 0,I 0,.slice none 0 0,I 0,I 0] 33])
 refine bz<|ai J i0<|k<|bd (v:=.agg #[I kd,I (-1),I (-1),I (-1),I (-1),.slice none 0 0,I (-1),I (-1)]) J (cz J<|cz J<|cz J<|cz J<|cz J<|cz J<|cz J eI) (fun _=>aU)<|k<|bw H0 0 J bW J J J J J J J ?_
 intro w1 (H1:HI (fun _=>False) w w1 [box aZ #[I kd,I (-1),I (-1),I (-1),I (-1),.slice none 0 0,I (-1),I (-1)] 33])
 refine aq<|rt<|pf H1 0 J bW J J J J au ?_
 exact⟨J,H1.below⟩
theorem Wo (hM:eU M w) (dG:cL M w aw av U) (gl:cL M w ay ax fo) (kv:aL cn) (nF:cL M w dB dA cr) (lM:aL kd) (la:w.heap[eK]? =some (.cells #[.slice aC aD aB,sL aw U av,sL ay fo ax,I cn,sL dB cr dA,.slice iI rD jE] lV (0,0))∧¬M eK):Calls aJ 33 #[.pointer (some ⟨eK,0,none⟩),I kd] w (cA fun v w'=>∃(k_:Int) (r_:Int) (a_:Int) (b_:Int) (o_:Int) (f_:Int) (s_:Int),v=.tuple #[.agg #[I k_,I r_,I a_,I b_,I o_,.slice none 0 0,I f_,I s_],.bool ((pt fo kd).isSome)]∧Ext w w'∧ql (pt fo kd) k_ r_ a_ b_ o_):=by
 refine dH 20 Tryz.func33 J J J hM fun f0 ha H=>?_
 let J0:=iL aw U av
 have H0:=H.put (it:=J0) J<|by rw[bS];exact dG
 let J1:=iL ay fo ax
 have H1:=H0.put (it:=J1) J<|by rw[aH rfl,bS];exact gl
 let J2:=iL dB cr dA
 have H2:=H1.put (it:=J2) J<|by rw[aH rfl,aH rfl,bS];exact nF
 have iS:=bl dG
 have kM:=bl gl
 have A5:=bl nF
 let J3:=ro eK #[.slice aC aD aB,sL aw U av,sL ay fo ax,I cn,sL dB cr dA,.slice iI rD jE] lV
 have H3:=H2.put (it:=J3) J<|by rw[aH rfl,aH rfl,aH rfl,bS];exact la
 have i0:f0 0=pV eK 0:=ha 0 bm
 have i1:f0 1=I kd:=ha 1 bm
 refine az<|k<|al H3 bW ?_
 let bc:=[J3,J2,J1,J0]
 intro aZ w0 bY (H4:HI M w w0 (box aZ #[I 0,I 0,I 0,I 0,I 0,.slice none 0 0,I 0,I 0] 33::bc))
 let J4:=box aZ #[I 0,I 0,I 0,I 0,I 0,.slice none 0 0,I 0,I 0] 33
 refine ak (v:=.bool false) J J<|bz<|ai J i1<|k ?_
 have bT:=qZ (kd:=kd) (w:=w0) lM
 refine ca Fw J (ec J e0) bT ?_
 rintro _ w1 ⟨rfl,dy⟩
 have H5:=H4.ext dy
 refine k<|al H5 bW ?_
 intro ba w2 fe (H6:HI M w w2 (box ba #[I 0,I 0,I 0,I 0,I 0,.slice none 0 0,I 0,I 0] 33::J4::bc))
 refine k<|bw H6 0 J bW J J J J J J J ?_
 intro w3 (H7:HI M w w3 (box ba #[I kd,I (-1),I (-1),I (-1),I (-1),.slice none 0 0,I (-1),I (-1)] 33::J4::bc))
 refine bz<|ai J i0<|k<|nc J J<|aR rR J J<|aR tG J J<|k<|lr H7 2 J qv J J J<|k ?_
 have dq:=IK (rM:=fo) (tQ:=(-2)) H7.mb (H7.rv 4 J) aT
 refine ca acO J (ec J<|ec J e0) dq ?_
 rintro _ w4 ⟨rfl,fA⟩
 have H8:=H7.ext fA
 refine aR rT J J<|k<|bw H8 0 J aS J J J J J J J ?_
 intro w5 (H9:HI M w w5 (box ba #[I kd,I (eO (fun (z_:Int)=>decide ((-2)=z_)) fo),I (-1),I (-1),I (-1),.slice none 0 0,I (-1),I (-1)] 33::J4::bc))
 refine aq<|sq<|ma [.r,.f,.f,.f,.e,.s] (fun w'=>HI M w w' [box ba #[I kd,I (eO (fun (z_:Int)=>decide ((-2)=z_)) fo),I (-1),I (-1),I (-1),.slice none 0 0,I (-1),I (-1)] 33]) J aU (fun _ x_=>(H9.bZ (l':=[box ba #[I kd,I (eO (fun (z_:Int)=>decide ((-2)=z_)) fo),I (-1),I (-1),I (-1),.slice none 0 0,I (-1),I (-1)] 33]) [0] au J).ext x_)<|yq J J<|kq (fun _ x_=>cI (H9.ext x_) 0 J bW J J au J e1)<|zq<|yf J (fun _ _=>fa rT J J e3)<|yf J (fun _ i_=>lx i_ 0 J aS J J J e3)<|yf J (fun _ _=>geq J J J J e3)<|ye<|yq J J<|kq (fun _ _=>jy (v:=.bool (decide (0≤(eO (fun (z_:Int)=>decide ((-2)=z_)) fo)))) J J e1)<|zq<|yz ?_
 intro w6 f0 _ iz _ _ cK iK
 have dz:=H9.ext iz
 have s0:=cK 4 J
 have s1:=cK 5 J
 have s2:=cK 16 J
 refine ke<|bw dz 1 J bW J J s0 s2 J J J ?_
 intro w7 (cB:HI M w w7 (box ba #[I kd,I (eO (fun (z_:Int)=>decide ((-2)=z_)) fo),I (-1),I (-1),I (-1),.slice none 0 0,I (-1),I (-1)] 33::box aZ #[I kd,I (eO (fun (z_:Int)=>decide ((-2)=z_)) fo),I (-1),I (-1),I (-1),.slice none 0 0,I (-1),I (-1)] 33::bc))
 refine⟨cB.bZ [0] au rfl,?_⟩
 refine kz<|nx<|rt<|iA cB 1 J bW J J J s0 J au ?_
 try simp only[dh]
 rw[s1]
 have e1:(eO (fun (z_:Int)=>decide ((-2)=z_)) fo:Int)=(eO (fun (z_:Int)=>decide ((-2)=z_)) fo):=rfl
 have e8:(decide (0≤(eO (fun (z_:Int)=>decide ((-2)=z_)) fo)):Bool)=(pt fo kd).isSome:=by exact Nz
 have bu:=ny (fun (dX:Int) (lF:Bool)=>(.tuple #[.agg #[I kd,I dX,I (-1),I (-1),I (-1),.slice none 0 0,I (-1),I (-1)],.bool lF]:Value)) e1 e8
 exact⟨kd,(eO (fun (z_:Int)=>decide ((-2)=z_)) fo),(-1),(-1),(-1),(-1),(-1),bu,cB.below,(by exact aat lM aj)⟩
theorem TL {abc:Nat} (hM:eU M w) (kv:aL cn) (nF:cL M w dB dA cr) (lM:aL kd) (la:w.heap[eK]? =some (.cells #[.slice aC aD aB,.slice aw abc av,.slice ay fc ax,I cn,sL dB cr dA,.slice iI rD jE] lV (0,0))∧¬M eK) (kY:bI cn cr=true):Calls aJ 34 #[.pointer (some ⟨eK,0,none⟩),I kd] w (cA fun v w'=>∃(k_:Int) (r_:Int) (a_:Int) (b_:Int) (o_:Int) (f_:Int) (s_:Int),v=.tuple #[.agg #[I k_,I r_,I a_,I b_,I o_,.slice none 0 0,I f_,I s_],.bool ((kb cn cr kd).isSome)]∧Ext w w'∧ql (kb cn cr kd) k_ r_ a_ b_ o_):=by
 refine dH 24 Tryz.func34 J J J hM fun f0 ha H=>?_
 let J0:=iL dB cr dA
 have H0:=H.put (it:=J0) J<|by rw[bS];exact nF
 let J1:=ro eK #[.slice aC aD aB,.slice aw abc av,.slice ay fc ax,I cn,sL dB cr dA,.slice iI rD jE] lV
 have H1:=H0.put (it:=J1) J<|by rw[aH rfl,bS];exact la
 have i0:f0 0=pV eK 0:=ha 0 bm
 have i1:f0 1=I kd:=ha 1 bm
 refine az<|k<|al H1 bW ?_
 intro aZ w0 bY (H2:HI M w w0 [box aZ #[I 0,I 0,I 0,I 0,I 0,.slice none 0 0,I 0,I 0] 33,J1,J0])
 let J2:=box aZ #[I 0,I 0,I 0,I 0,I 0,.slice none 0 0,I 0,I 0] 33
 refine ak (v:=.bool false) J J<|bz<|ai J i1<|k ?_
 have bT:=qZ (kd:=kd) (w:=w0) lM
 refine ca Fw J (ec J e0) bT ?_
 rintro _ w1 ⟨rfl,dy⟩
 have H3:=H2.ext dy
 refine k<|al H3 bW ?_
 intro ba w2 fe (H4:HI M w w2 [box ba #[I 0,I 0,I 0,I 0,I 0,.slice none 0 0,I 0,I 0] 33,J2,J1,J0])
 refine k<|bw H4 0 J bW J J J J J J J ?_
 let J3:=box ba #[I kd,I (-1),I (-1),I (-1),I (-1),.slice none 0 0,I (-1),I (-1)] 33
 intro w3 (H5:HI M w w3 [J3,J2,J1,J0])
 refine bz<|ai J i0<|k<|nc J J<|aR xT J J<|k<|wc H5 2 J bp J J au J<|k ?_
 have dq:=yH (mn:=cn) (mr:=cr) H5.mb kv (H5.rv 3 J)<|by exact kY
 refine ca Qm J (ec J e0) dq ?_
 rintro _ w4 ⟨rfl,fA⟩
 have H6:=H5.ext fA
 refine ai (v:=.tuple #[I (((cW cn cr).getD 0:Nat):Int),.bool ((cW cn cr).isSome)]) J J<|k<|xt J J J<|k<|xt J J J<|ak (v:=I (((cW cn cr).getD 0:Nat):Int)) J J<|ak (v:=.bool ((cW cn cr).isSome)) J J<|aq<|sq<|az<|ai (v:=.bool ((cW cn cr).isSome)) J J<|z<|nx<|cd (b:=(cW cn cr).isSome) J J (fun b0=>?_)<|fun b0=>?_
 ·
  refine rg<|ai (v:=I (((cW cn cr).getD 0:Nat):Int)) J J<|aR oT J J<|k<|bw H6 0 J aS J J J J J J J ?_
  let J4:=box ba #[I kd,I (-1),I (-1),I (-1),I (((cW cn cr).getD 0:Nat):Int),.slice none 0 0,I (-1),I (-1)] 33
  intro w5 (H7:HI M w w5 [J4,J2,J1,J0])
  refine bz<|k<|cI H7 0 J bW J J au J<|ai (v:=.bool ((cW cn cr).isSome)) J J<|k<|bw H7 1 J bW J J J J J J J ?_
  intro w6 (H8:HI M w w6 [J4,box aZ #[I kd,I (-1),I (-1),I (-1),I (((cW cn cr).getD 0:Nat):Int),.slice none 0 0,I (-1),I (-1)] 33,J1,J0])
  refine ak (v:=.bool ((cW cn cr).isSome)) J J<|aq<|rt<|iA H8 1 J bW J J J J J au ?_
  have e8:((cW cn cr).isSome:Bool)=(kb cn cr kd).isSome:=by exact Cd
  have bu:=iD (fun (lF:Bool)=>(.tuple #[.agg #[I kd,I (-1),I (-1),I (-1),I (((cW cn cr).getD 0:Nat):Int),.slice none 0 0,I (-1),I (-1)],.bool lF]:Value)) e8
  exact⟨kd,(-1),(-1),(-1),(((cW cn cr).getD 0:Nat):Int),(-1),(-1),bu,H8.below,(by have h_:=(bR kY).2.2.1;first|exact Pt lM aj bo|exact Pu lM bo)⟩
 refine sk<|cV<|k<|cI H6 0 J bW J J au J<|ai (v:=.bool ((cW cn cr).isSome)) J J<|k<|bw H6 1 J bW J J J J J J J ?_
 intro w5 (H7:HI M w w5 [J3,box aZ #[I kd,I (-1),I (-1),I (-1),I (-1),.slice none 0 0,I (-1),I (-1)] 33,J1,J0])
 refine ak (v:=.bool ((cW cn cr).isSome)) J J<|aq<|rt<|iA H7 1 J bW J J J J J au ?_
 have e8:((cW cn cr).isSome:Bool)=(kb cn cr kd).isSome:=by exact Cd
 have bu:=iD (fun (lF:Bool)=>(.tuple #[.agg #[I kd,I (-1),I (-1),I (-1),I (-1),.slice none 0 0,I (-1),I (-1)],.bool lF]:Value)) e8
 exact⟨kd,(-1),(-1),(-1),(-1),(-1),(-1),bu,H7.below,(by have h_:=(bR kY).2.2.1;first|exact Pt lM aj bo|exact Pu lM bo)⟩
theorem Mv (hM:eU M w) (hT:fW 0 w) (dG:cL M w aw av U) (gl:cL M w ay ax fo) (kv:aL cn) (nF:cL M w dB dA cr) (lM:aL kd) (la:w.heap[eK]? =some (.cells #[.slice aC aD aB,sL aw U av,sL ay fo ax,I cn,sL dB cr dA,.slice iI rD jE] lV (0,0))∧¬M eK) (ho:hG U) (dC:U.length≤64) (eD:fo.length=U.length) (fK:∀x∈fo,x<((U.length:Nat):Int)) (ou:cn=((U.length:Nat):Int)) (pK:cr=cC U fo):Calls aJ 37 #[.pointer (some ⟨eK,0,none⟩),I kd] w (cA fun v w'=>∃(k_:Int) (r_:Int) (a_:Int) (b_:Int) (o_:Int) (f_:Int) (s_:Int),v=.tuple #[.agg #[I k_,I r_,I a_,I b_,I o_,.slice none 0 0,I f_,I s_],.bool ((kb ((U.length:Nat):Int) (Ar U fo) kd).isSome)]∧Ext w w'∧ql (kb ((U.length:Nat):Int) (Ar U fo) kd) k_ r_ a_ b_ o_):=by
 refine dH 52 Tryz.func37 J J J hM fun f0 ha H=>?_
 let J0:=iL aw U av
 have H0:=H.put (it:=J0) J<|by rw[bS];exact dG
 let J1:=iL ay fo ax
 have H1:=H0.put (it:=J1) J<|by rw[aH rfl,bS];exact gl
 let J2:=iL dB cr dA
 have H2:=H1.put (it:=J2) J<|by rw[aH rfl,aH rfl,bS];exact nF
 have iS:=bl dG
 have kM:=bl gl
 have A5:=bl nF
 let J3:=ro eK #[.slice aC aD aB,sL aw U av,sL ay fo ax,I cn,sL dB cr dA,.slice iI rD jE] lV
 have H3:=H2.put (it:=J3) J<|by rw[aH rfl,aH rfl,aH rfl,bS];exact la
 have i0:f0 0=pV eK 0:=ha 0 bm
 have i1:f0 1=I kd:=ha 1 bm
 have kY:bI cn cr=true:=by rw[ou,pK];exact pB fo aj
 refine az<|k<|al H3 bW ?_
 let bc:=[J3,J2,J1,J0]
 intro aZ w0 bY (H4:HI M w w0 (box aZ #[I 0,I 0,I 0,I 0,I 0,.slice none 0 0,I 0,I 0] 33::bc))
 let J4:=box aZ #[I 0,I 0,I 0,I 0,I 0,.slice none 0 0,I 0,I 0] 33
 refine ak (v:=.bool false) J J<|bz<|ai J i0<|k<|nc J J<|aR xT J J<|k<|wc H4 1 J bp J J au J<|k<|al H4 bp ?_
 let ck:=J4::bc
 intro ba w1 dy (H5:HI M w w1 (box ba #[I 0,.slice none 0 0] 26::ck))
 refine k<|bw H5 0 J bp J J J J J J J ?_
 intro w2 (H6:HI M w w2 (box ba #[I cn,sL dB cr dA] 26::ck))
 refine aq<|sq<|sq<|Tj J aU<|xq J<|kq (fun _ _=>mv J i0 e1)<|zq<|xq J<|kq (fun _ _=>nc J J e1)<|zq<|xq J<|kq (fun _ _=>fa rR J J e1)<|zq<|xq J<|kq (fun _ x_=>wc (H6.ext x_) 2 J ej J J au J e1)<|zq<|xq J<|kq (fun _ _=>mv J i0 e1)<|zq<|xq J<|kq (fun _ _=>nc J J e1)<|zq<|xq J<|kq (fun _ _=>fa xT J J e1)<|zq<|xq J<|kq (fun _ x_=>wc (H6.ext x_) 2 J bp J J au J e1)<|zq<|xu (fun v w'=>∃(a0:OA) (c0:Nat),v=sL a0 (cP U fo cn cr) c0∧RV H6.gh w' (sL a0 (cP U fo cn cr) c0) (cP U fo cn cr)) J (by rintro _ _ _ x_ ⟨a0,c0,e_,ep⟩;exact⟨a0,c0,e_,ep.lift (Up.ext x_)⟩) J (fun v_ x_=>have dq:=uS (U:=U) (fo:=fo) (mn:=cn) (mr:=cr) (aC:=aC) (aD:=aD) (aB:=aB) (w:=v_) (H6.ext x_).mb (hT.ext (H6.ext x_).below) ((H6.ext x_).rv 5 rfl) ((H6.ext x_).rv 4 rfl) kv ((H6.ext x_).rv 3 rfl) aj (by exact eD) (by exact fK) (by exact kY);ca Ql rfl (ec J<|ec J e0) dq (fun _ w4 ⟨a1,c1,e_,fA,ei⟩=>⟨_,J,fA,⟨a1,c1,e_,(bj.rv ei (H6.ext x_).mb)⟩⟩))<|xk1 (X:=I ((cP U fo cn cr).length:Int)) 0 J J (fun _ _ _ h_=>let ⟨a3,c3,s0,jW⟩:=h_;ef rfl s0 eA e1)<|xq J<|kq (fun _ _=>mv (v:=I 0) J J e1)<|zq<|zx ?_
 intro w5 f0 iz cK iK
 have cU:=H6.ext iz
 have s1:=(cK 1 J).trans i1
 have s2:=cK 4 J
 have s3:=cK 6 J
 obtain⟨a4,c4,s4,iH⟩:=iK 0 _ _ rfl
 let J5:=iL a4 (cP U fo cn cr) c4
 have d_:=cU.put (it:=J5) J iH
 have s5:=cK 25 J
 have s6:=cK 26 J
 refine nx<|bk ?_
 have dD:=d_.put (it:=J2) J<|d_.rv 4 J
 refine lp (fun m f w'=>∃(q_:Nat) (fY:Int) (fI:List (List bt)) (a5:OA) (c5:Nat),m=(cP U fo cn cr).length-q_∧f 1=I kd∧f 4=pV aZ 0∧f 6=pV ba 0∧f 24=sL a4 (cP U fo cn cr) c4∧f 25=I ((cP U fo cn cr).length:Int)∧f 26=I (q_:Int)∧HI M w w' (iL a5 fI c5::J5::box ba #[I fY,sL a5 fI c5] 26::ck)∧(q_≤(cP U fo cn cr).length)∧(fY=cn∧fI=lT cn cr ((cP U fo cn cr).take q_))) _ ⟨0,cn,cr,dB,dA,J,s1,s2,s3,s4,s5,(bN s6),dD,aj,(by exact⟨J,J⟩)⟩ ?_
 rintro _ f1 w6 ⟨q_,fY,fI,a5,c5,rfl,s7,s8,s9,eC,fj,fT,cY,sI,oe⟩
 refine sq ?_
 have Oz:=qV (U:=U) (fo:=fo) kY;have Qf:=Oz.1
 have so:=Ya eD fK ou pK Oz
 refine rg<|k<|lss J J fT fj<|aq<|sq<|cd (b:=decide ((q_:Int)<((cP U fo cn cr).length:Int))) J J (fun b0=>?_)<|fun b0=>?_
 ·
  have p0:=dT b0
  refine sk<|nx<|sq<|bk<|az<|k<|ia (cY.rv 1 J) J J eC fT aj eA cR ?_
  intro iE x0 aI cD
  refine k<|nr cD.w cR J J ?_
  intro v0 kR
  obtain⟨_,⟨_,_,rfl,⟨rfl,nN⟩,⟨_,_,rfl,⟨rfl,oI⟩,⟨rfl,rA⟩⟩⟩,rfl⟩:=kR
  refine k<|al cY cR ?_
  let dY:=iL a5 fI c5::J5::box ba #[I fY,sL a5 fI c5] 26::ck
  intro bL w7 jh (dW:HI M w w7 (box bL #[I 0,I 0,I 0] 122::dY))
  refine k<|bw dW 0 J cR J J J J J J J ?_
  intro w8 (dQ:HI M w w8 (box bL #[I x0.1,I x0.2.1,I x0.2.2] 122::dY))
  refine aq<|rg<|k<|cI dQ 3 J bp J s9 au J<|aR kQ J J<|bq dQ 0 J aS J J J<|aR mL J J<|bq dQ 0 J aS J J J<|k ?_
  have fP:=Fi (mn:=fY) (mr:=fI) (i:=x0.1) (j:=x0.2.1) dQ.mb aT (dQ.rv 1 J) nN oI<|by exact Tq aj ou pK so oe
  refine ca VA J (ec J<|ec J<|ec J e0) fP ?_
  rintro _ w9 ⟨a6,c6,rfl,ki,oJ⟩
  have cQ:=dQ.ext ki
  let J6:=iL a6 (gY fY fI x0.1 x0.2.1) c6
  have eh:=cQ.put (it:=J6) J oJ
  refine ai (v:=.tuple #[.agg #[I (ik fY x0.1 x0.2.1),sL a6 (gY fY fI x0.1 x0.2.1) c6],I (lB fY x0.1 x0.2.1)]) J J<|k<|xt J J J<|k<|xt J J J<|k<|bw eh 4 J bp J J s9 J J J J ?_
  let J7:=box ba #[I (ik fY x0.1 x0.2.1),sL a6 (gY fY fI x0.1 x0.2.1) c6] 26
  intro dP (dO:HI M w dP (J6::box bL #[I x0.1,I x0.2.1,I x0.2.2] 122::iL a5 fI c5::J5::J7::ck))
  refine z<|aF<|nx<|rg<|k<|add J J fT J aT<|ai (v:=I ((q_:Int)+1)) J J<|z ?_
  have fg:=dO.put (it:=J6) J<|dO.rv 0 J
  have fz:HI M w dP (J6::J5::J7::ck):=fg.bZ [0,4,5,6,7,8,9,10] au J
  refine bG _ ?_ ⟨(q_+1),(ik fY x0.1 x0.2.1),(gY fY fI x0.1 x0.2.1),a6,c6,J,s7,s8,s9,eC,fj,(bN J),fz,aj,(by exact Bt oe aI (Kw ou so aI))⟩
  omega
 have p0:=dF b0
 refine ex<|aV<|bf<|bh<|cV<|ai J s7<|k ?_
 have fP:=qZ (kd:=kd) (w:=w6) lM
 refine ca Fw J (ec J e0) fP ?_
 rintro _ w7 ⟨rfl,jh⟩
 have dW:=cY.ext jh
 refine k<|al dW bW ?_
 let J8:=box ba #[I fY,sL a5 fI c5] 26
 let jk:=iL a5 fI c5::J5::J8::ck
 intro bL w8 ki (dQ:HI M w w8 (box bL #[I 0,I 0,I 0,I 0,I 0,.slice none 0 0,I 0,I 0] 33::jk))
 refine k<|bw dQ 0 J bW J J J J J J J ?_
 let J9:=box bL #[I kd,I (-1),I (-1),I (-1),I (-1),.slice none 0 0,I (-1),I (-1)] 33
 intro w9 (cQ:HI M w w9 (J9::jk))
 refine aq<|sq ?_
 have BC:=adm eD fK ou pK Oz oe aj
 refine rg<|k<|cI cQ 3 J bp J s9 au J<|k ?_
 have ff:=yH (mn:=fY) (mr:=fI) cQ.mb aT (cQ.rv 1 J)<|by exact Tq aj ou pK so oe
 refine ca Qm J (ec J e0) ff ?_
 rintro _ dP ⟨rfl,mA⟩
 have eh:=cQ.ext mA
 refine ai (v:=.tuple #[I (((cW fY fI).getD 0:Nat):Int),.bool ((cW fY fI).isSome)]) J J<|k<|xt J J J<|k<|xt J J J<|ak (v:=I (((cW fY fI).getD 0:Nat):Int)) J J<|ak (v:=.bool ((cW fY fI).isSome)) J J<|aq<|sq<|az<|ai (v:=.bool ((cW fY fI).isSome)) J J<|z<|nx<|cd (b:=(cW fY fI).isSome) J J (fun b1=>?_)<|fun b1=>?_
 ·
  refine rg<|ai (v:=I (((cW fY fI).getD 0:Nat):Int)) J J<|aR oT J J<|k<|bw eh 0 J aS J J J J J J J ?_
  let dZ:=box bL #[I kd,I (-1),I (-1),I (-1),I (((cW fY fI).getD 0:Nat):Int),.slice none 0 0,I (-1),I (-1)] 33
  intro eB (dO:HI M w eB (dZ::jk))
  refine bz<|k<|cI dO 0 J bW J J au J<|ai (v:=.bool ((cW fY fI).isSome)) J J<|k<|bw dO 4 J bW J J s8 J J J J ?_
  intro fE (fg:HI M w fE (dZ::iL a5 fI c5::J5::J8::box aZ #[I kd,I (-1),I (-1),I (-1),I (((cW fY fI).getD 0:Nat):Int),.slice none 0 0,I (-1),I (-1)] 33::bc))
  refine ak (v:=.bool ((cW fY fI).isSome)) J J<|aq<|rt<|iA fg 4 J bW J J J s8 J au ?_
  have e8:((cW fY fI).isSome:Bool)=(kb ((U.length:Nat):Int) (Ar U fo) kd).isSome:=by exact NM BC
  have bu:=iD (fun (lF:Bool)=>(.tuple #[.agg #[I kd,I (-1),I (-1),I (-1),I (((cW fY fI).getD 0:Nat):Int),.slice none 0 0,I (-1),I (-1)],.bool lF]:Value)) e8
  exact⟨kd,(-1),(-1),(-1),(((cW fY fI).getD 0:Nat):Int),(-1),(-1),bu,fg.below,(by exact aaQ BC lM aj bo)⟩
 refine sk<|cV<|k<|cI eh 0 J bW J J au J<|ai (v:=.bool ((cW fY fI).isSome)) J J<|k<|bw eh 4 J bW J J s8 J J J J ?_
 intro eB (dO:HI M w eB (J9::iL a5 fI c5::J5::J8::box aZ #[I kd,I (-1),I (-1),I (-1),I (-1),.slice none 0 0,I (-1),I (-1)] 33::bc))
 refine ak (v:=.bool ((cW fY fI).isSome)) J J<|aq<|rt<|iA dO 4 J bW J J J s8 J au ?_
 have e8:((cW fY fI).isSome:Bool)=(kb ((U.length:Nat):Int) (Ar U fo) kd).isSome:=by exact NM BC
 have bu:=iD (fun (lF:Bool)=>(.tuple #[.agg #[I kd,I (-1),I (-1),I (-1),I (-1),.slice none 0 0,I (-1),I (-1)],.bool lF]:Value)) e8
 exact⟨kd,(-1),(-1),(-1),(-1),(-1),(-1),bu,dO.below,(by exact aaR BC lM bo)⟩
theorem VB:cH aJ 63:=cN Tryz.func63
theorem pO:gv aJ 33 2 2:=js Tryz.underlying33
theorem Db {abd:Nat} (hM:eU M w) (hT:fW 0 w) (dG:cL M w aw av U) (kv:aL cn) (gk:aL mn) (gB:cL M w bF bD mr) (GA:aL fC) (la:w.heap[eK]? =some (.cells #[.slice aC aD aB,sL aw U av,.slice ay fc ax,I cn,.slice dB abd dA,.slice iI rD jE] lV (0,0))∧¬M eK) (b9:bI mn mr=true) (ahy:0≤fC∧fC<((U.length:Nat):Int)):Calls aJ 63 #[.pointer (some ⟨eK,0,none⟩),.agg #[I mn,sL bF mr bD],I fC] w (cA fun v w'=>∃(a0:OA) (c0:Nat),v=.slice a0 (dv U mn mr fC).length c0∧Ext w w'∧RV (fun b=>b<w.heap.size) w' (.slice a0 (dv U mn mr fC).length c0) (dv U mn mr fC)):=by
 refine dH 24 Tryz.func63 J J J hM fun f0 ha H=>?_
 have H0:=eu H dG
 have H1:=eu H0 gB
 let J0:=ro eK #[.slice aC aD aB,sL aw U av,.slice ay fc ax,I cn,.slice dB abd dA,.slice iI rD jE] lV
 have H2:=H1.put (it:=J0) J<|by rw[aH rfl,aH rfl,bS];exact la
 have i0:f0 0=pV eK 0:=ha 0 bm
 have i1:f0 1=.agg #[I mn,sL bF mr bD]:=ha 1 bm
 have i2:f0 2=I fC:=ha 2 bm
 refine az<|k<|bx H2 J i1 ?_
 intro aZ w0 bY (H3:HI M w w0 [box aZ #[I mn,sL bF mr bD] 26,J0,iL bF mr bD,iL aw U av])
 refine ak (v:=.slice none 0 0) J J<|aq<|sq<|Tj J aU<|xq J<|kq (fun _ _=>mv J i0 e1)<|zq<|xq J<|kq (fun _ _=>nc J J e1)<|zq<|xq J<|kq (fun _ _=>fa rR J J e1)<|zq<|xq J<|kq (fun _ x_=>wc (H3.ext x_) 1 J ej J J au J e1)<|zq<|xq J<|kq (fun _ x_=>cI (H3.ext x_) 0 J bp J J au J e1)<|zq<|xq J<|kq (fun _ _=>mv J i2 e1)<|zq<|xu (fun v w'=>∃(a0:OA) (c0:Nat),v=sL a0 (eY mn mr fC) c0∧RV (fun c_=>c_<w0.heap.size) w' (sL a0 (eY mn mr fC) c0) (eY mn mr fC)) J (by rintro _ _ _ x_ ⟨a0,c0,e_,ep⟩;exact⟨a0,c0,e_,ep.lift (Up.ext x_)⟩) J (fun v_ x_=>have dq:=NS (mn:=mn) (mr:=mr) (o:=fC) (w:=v_) (H3.ext x_).mb (hT.ext (H3.ext x_).below) gk ((H3.ext x_).rv 2 rfl) GA (by exact b9);ca X3 rfl (ec J<|ec J e0) dq (fun _ w2 ⟨a1,c1,e_,fe,ei⟩=>⟨_,J,fe,⟨a1,c1,e_,(bj.rvN ei x_)⟩⟩))<|xq J<|kq (fun _ _=>mv J i0 e1)<|zq<|xq J<|kq (fun _ _=>nc J J e1)<|zq<|xq J<|kq (fun _ _=>fa rR J J e1)<|zq<|xq J<|kq (fun _ _=>fa fF J J e1)<|zq<|xq J<|kq (fun _ x_=>lr (H3.ext x_) 1 J iZ J J J e1)<|zq<|xq J<|kq (fun _ _=>mv J i2 e1)<|zq<|xq J<|mR (H3.rv 3 J) J J J J aj jv jB ?_
 intro iE x0 aI cD
 refine zq<|xq J<|kq (fun _ _=>fa tD J J e1)<|zq<|xq J<|nP ((cD).s3).fst.w aS J J ?_
 intro ja
 refine zq<|xu1 (fun v w'=>∃(a3:OA) (c3:Nat),v=sL a3 (aY (iM U x0.2.2.2.1)<|eY mn mr fC) c3∧RV (fun c_=>c_<w0.heap.size) w' (sL a3 (aY (iM U x0.2.2.2.1)<|eY mn mr fC) c3) (aY (iM U x0.2.2.2.1)<|eY mn mr fC)) 0 J J (by rintro _ _ _ x_ ⟨a3,c3,e_,kR⟩;exact⟨a3,c3,e_,kR.lift (Up.ext x_)⟩) J (fun v_ _ x_ h_=>let ⟨a4,c4,s0,nN⟩:=h_;have d_:=(H3.ext x_).put (it:=iL a4 (eY mn mr fC) c4) rfl (KH nN H3);have ff:=Eb (U:=U) (l:=(eY mn mr fC)) (vr:=x0.2.2.2.1) (aC:=aC) (aD:=aD) (aB:=aB) (ay:=ay) (fc:=fc) (ax:=ax) d_.mb (d_.rv 4 J) (d_.rv 0 J) ja (by have h_:=u4 b9 fC;omega);ca acK rfl (ec J<|ec s0<|ec J e0) ff (fun _ w4 ⟨a5,c5,e_,iz,oI⟩=>⟨_,J,iz,⟨a5,c5,e_,(bj.rvN oI x_)⟩⟩))<|xu1 (fun v w'=>∃(a6:OA) (c6:Nat),v=sL a6 (aY (iM U x0.2.2.2.1)<|eY mn mr fC) c6∧RV (fun c_=>c_<w0.heap.size) w' (sL a6 (aY (iM U x0.2.2.2.1)<|eY mn mr fC) c6) (aY (iM U x0.2.2.2.1)<|eY mn mr fC)) 0 J J (by rintro _ _ _ x_ ⟨a6,c6,e_,oJ⟩;exact⟨a6,c6,e_,oJ.lift (Up.ext x_)⟩) J (fun _ _ _ h_=>let ⟨a7,c7,s1,nB⟩:=h_;jy rfl s1 ⟨_,J,Ext.refl _,⟨a7,c7,J,nB⟩⟩)<|zx ?_
 intro w5 f0 jh cK iK
 have eh:=H3.ext jh
 obtain⟨a8,c8,s2,sh⟩:=iK 0 _ _ rfl
 have dO:=eh.put (it:=iL a8 (aY (iM U x0.2.2.2.1)<|eY mn mr fC) c8) J<|KH sh H3
 refine nx<|rt<|r1 J J ?_
 rw[s2]
 have e0:(aY (iM U x0.2.2.2.1) (eY mn mr fC):aA)=dv U mn mr fC:=by simp only[dv,rG,aI,BL]
 have bu:=iD (fun (cq:aA)=>(.slice a8 cq.length c8:Value)) e0
 exact⟨a8,c8,bu,dO.below,(amz (fun (x_:aA)=>RV _ _ (.slice a8 x_.length c8) x_) e0).mp (aaG sh H3)⟩
theorem TK (hM:eU M w) (hT:fW 0 w) (dG:cL M w aw av U) (gl:cL M w ay ax fo) (kv:aL cn) (nF:cL M w dB dA cr) (lM:aL kd) (la:w.heap[eK]? =some (.cells #[.slice aC aD aB,sL aw U av,sL ay fo ax,I cn,sL dB cr dA,.slice iI rD jE] lV (0,0))∧¬M eK) (kY:bI cn cr=true) (eD:fo.length=U.length):Calls aJ 35 #[.pointer (some ⟨eK,0,none⟩),I kd] w (cA fun v w'=>∃(k_:Int) (r_:Int) (a_:Int) (b_:Int) (o_:Int) (f_:Int) (s_:Int),v=.tuple #[.agg #[I k_,I r_,I a_,I b_,I o_,.slice none 0 0,I f_,I s_],.bool ((qd U fo cn cr kd).isSome)]∧Ext w w'∧ql (qd U fo cn cr kd) k_ r_ a_ b_ o_):=by
 refine dH 44 Tryz.func35 J J J hM fun f0 ha H=>?_
 let J0:=iL aw U av
 have H0:=H.put (it:=J0) J<|by rw[bS];exact dG
 let J1:=iL ay fo ax
 have H1:=H0.put (it:=J1) J<|by rw[aH rfl,bS];exact gl
 let J2:=iL dB cr dA
 have H2:=H1.put (it:=J2) J<|by rw[aH rfl,aH rfl,bS];exact nF
 have iS:=bl dG
 have kM:=bl gl
 have A5:=bl nF
 let J3:=ro eK #[.slice aC aD aB,sL aw U av,sL ay fo ax,I cn,sL dB cr dA,.slice iI rD jE] lV
 have H3:=H2.put (it:=J3) J<|by rw[aH rfl,aH rfl,aH rfl,bS];exact la
 have i0:f0 0=pV eK 0:=ha 0 bm
 have i1:f0 1=I kd:=ha 1 bm
 refine az<|k<|al H3 bW ?_
 let bc:=[J3,J2,J1,J0]
 intro aZ w0 bY (H4:HI M w w0 (box aZ #[I 0,I 0,I 0,I 0,I 0,.slice none 0 0,I 0,I 0] 33::bc))
 let J4:=box aZ #[I 0,I 0,I 0,I 0,I 0,.slice none 0 0,I 0,I 0] 33
 refine ak (v:=.bool false) J J<|aq<|sq<|az<|ai J i0<|k<|nc J J<|aR rR J J<|aR tG J J<|k<|lr H4 1 J qv J J J<|k<|ef J J cS<|ai (v:=I 0) J J<|aq<|bk ?_
 let ck:=J4::bc
 refine lp (fun m f w'=>∃(j_:Nat),m=fo.length-j_∧f 0=pV eK 0∧f 1=I kd∧f 4=pV aZ 0∧f 14=sL ay fo ax∧f 15=I (fo.length:Int)∧f 16=I (j_:Int)∧HI M w w' ck∧(j_≤fo.length)∧(∀q,q<j_→vB U fo cn cr q=false)) _ ⟨0,J,i0,i1,J,J,J,(bN J),H4,aj,(by intro q h;omega)⟩ ?_
 rintro _ f0 w1 ⟨j_,rfl,s0,s1,s2,s3,s4,s5,H5,pk,hs⟩
 refine az<|k<|lss J J s5 s4<|aq<|sq<|cd (b:=decide ((j_:Int)<(fo.length:Int))) J J (fun b0=>?_)<|fun b0=>?_
 ·
  have p0:=dT b0
  refine sk<|nx<|sq<|bk<|az<|ai J s5<|k<|ia (H5.rv 3 J) J J s3 s5 aj cS aS ?_
  intro iE x0 aI cD
  refine k<|mV cD.w aS J J ?_
  intro cE
  refine ak (v:=I (j_:Int)) J J<|ak (v:=I x0) J J<|aq<|sq<|az<|ai (v:=I x0) J J<|k<|neq J J J J<|z<|nx<|cd (b:=!decide (x0=(-1))) J J (fun b1=>?_)<|fun b1=>?_
  ·
   have p1:=dF<|fX b1
   refine ex<|aV<|bh<|nx<|rg<|k<|add J J s5 J aT<|ai (v:=I ((j_:Int)+1)) J J<|z<|bG _ ?_ ⟨(j_+1),J,s0,s1,s2,s3,s4,(bN J),H5,aj,(by exact su hs (by simp only[vB,jo aI,b0,(fX b1),BL]))⟩
   omega
  have p1:=dT<|fl b1
  refine sk<|cV<|ai J s0<|ai J s0<|k<|nc J J<|aR xT J J<|k<|wc H5 1 J bp J J au J<|ai (v:=I (j_:Int)) J J<|k ?_
  have bT:=Db (U:=U) (cn:=cn) (mn:=cn) (mr:=cr) (fC:=(j_:Int)) H5.mb (hT.ext H5.below) (H5.rv 4 J) kv kv (H5.rv 2 J) aT (H5.at_ 1 J) (by exact kY) aj
  refine ca VB J (ec J<|ec J<|ec J e0) bT ?_
  rintro _ w2 ⟨a0,c0,rfl,dy,ep⟩
  have H6:=H5.ext dy
  have ei:=(ep.lift<|Up.less fun b _ hb=>H5.mb b hb)
  let J5:=iL a0 (dv U cn cr (j_:Int)) c0
  have H7:=H6.put (it:=J5) J ei
  refine ak (v:=sL a0 (dv U cn cr (j_:Int)) c0) J J<|bz<|ai (v:=sL a0 (dv U cn cr (j_:Int)) c0) J J<|k<|ef J J cS<|k<|gtr J J J J<|z<|nx<|cd (b:=decide (0<((dv U cn cr (j_:Int)).length:Int))) J J (fun b2=>?_)<|fun b2=>?_
  ·
   have p2:=dT b2
   refine az<|ai J s1<|k ?_
   have dq:=qZ (kd:=kd) (w:=w2) lM
   refine ca Fw J (ec J e0) dq ?_
   rintro _ w3 ⟨rfl,fe⟩
   have H8:=H7.ext fe
   refine k<|al H8 bW ?_
   let dY:=J5::ck
   intro ba w4 fA (H9:HI M w w4 (box ba #[I 0,I 0,I 0,I 0,I 0,.slice none 0 0,I 0,I 0] 33::dY))
   refine k<|bw H9 0 J bW J J J J J J J ?_
   let J6:=box ba #[I kd,I (-1),I (-1),I (-1),I (-1),.slice none 0 0,I (-1),I (-1)] 33
   intro w5 (dz:HI M w w5 (J6::dY))
   refine aq<|sq ?_
   obtain⟨x1,bV⟩:∃x,(dv U cn cr (j_:Int))[(0:Int).toNat]? =some x:=⟨_,eR aj⟩
   have cU:HI M w w5 [J5,J4,J3,J2,J1,J0,J6]:=dz.bZ [1,2,3,4,5,6,0] au J
   let J7:=box ba #[I kd,I (j_:Int),I (-1),I (-1),I (-1),.slice none 0 0,I (-1),I (-1)] 33
   let J8:=box ba #[I kd,I (j_:Int),I x1,I (-1),I (-1),.slice none 0 0,I (-1),I (-1)] 33
   refine VR [none,none,none,none,none,some 7,none,none,some 5] [0,0,2,6,1,17,63,127] [fun _=>[],fun _=>[],fun v_=>[ra (vP v_) x1],fun _=>[],fun _=>[],fun v_=>[J7],fun _=>[],fun v_=>[J8],fun _=>[J6]] [[],[],[],[2],[],[8],[],[5]] [fun v_=>v_=I (j_:Int),fun v_=>v_=sL a0 (dv U cn cr (j_:Int)) c0,fun v_=>∃(rb:Addr),v_=.pointer (some rb),fun v_=>v_=I x1∧aL (x1),fun v_=>v_=pV ba 1,fun _=>True,fun v_=>v_=pV ba 2,fun _=>True] [J5,J4,J3,J2,J1,J0] J aU J cU ?_ ?_
   ·
    refine⟨fun f1 w8 V_ eG lQ hp0 hq0 d_=>?_,?_⟩
    ·
     have dD:HI M w w8 (dY++eG):=(by have h_:HI M w w8 (dY++(eG)):=d_;exact h_)
     refine mv J (lQ 6 J) ?_
     exact⟨_,J,J,dD⟩
    refine⟨fun f2 w9 V_ eG Gt IU IN dW=>?_,?_⟩
    ·
     have dQ:HI M w w9 (dY++eG):=(by have h_:HI M w w9 (dY++(eG)):=dW;exact h_)
     refine mv J (Gt 8 J) ?_
     exact⟨_,J,J,dQ⟩
    refine⟨fun f3 dP V_ eG gN Sl nt eh=>?_,?_⟩
    ·
     obtain⟨e0,q0⟩:=Sl 1 _ rfl rfl rfl
     have e1:V_ 1=sL a0 (dv U cn cr (j_:Int)) c0:=q0
     have s6:f3 36=sL a0 (dv U cn cr (j_:Int)) c0:=e0.trans e1
     have dO:HI M w dP (dY++eG):=(by have h_:HI M w dP (dY++(eG)):=eh;exact h_)
     refine ia (dO.rv 0 J) J J s6 J aj cS aS ?_
     intro pq x2 jb kB
     obtain rfl:x1=x2:=amE (bV.symm.trans jb)
     have fg:=dO.put (it:=ra pq x1) J kB
     have fz:HI M w dP ((ra pq x1::dY)++eG):=fg
     have gS:=HI.aN (l:=(ra pq x1::dY)) (l':=[J5,J4,J3,J2,J1,J0,ra pq x1]) (t:=eG) fz [1,2,3,4,5,6,0] au J J
     exact⟨_,J,⟨pq,J⟩,gS⟩
    refine⟨fun f4 eB V_ eG Ad yI Ei iY=>?_,?_⟩
    ·
     obtain⟨e2,q1⟩:=yI 2 _ rfl rfl rfl
     obtain⟨ue,e3⟩:∃(ue:Addr),V_ 2=.pointer (some ue):=q1
     have s7:f4 37=.pointer (some ue):=e2.trans e3
     have jz:HI M w eB ([iL a0 (dv U cn cr (j_:Int)) c0,box aZ #[I 0,I 0,I 0,I 0,I 0,.slice none 0 0,I 0,I 0] 33,ro eK #[.slice aC aD aB,sL aw U av,sL ay fo ax,I cn,sL dB cr dA,.slice iI rD jE] lV,iL dB cr dA,iL ay fo ax,iL aw U av,ra ue x1]++eG):=(by have h_:HI M w eB ([iL a0 (dv U cn cr (j_:Int)) c0,box aZ #[I 0,I 0,I 0,I 0,I 0,.slice none 0 0,I 0,I 0] 33,ro eK #[.slice aC aD aB,sL aw U av,sL ay fo ax,I cn,sL dB cr dA,.slice iI rD jE] lV,iL dB cr dA,iL ay fo ax,iL aw U av]++([ra (vP<|V_ 2) x1]++(eG))):=iY;rw[e3] at h_;exact h_)
     refine mV (jz.atv 6 J).w aS J s7 ?_
     intro ja
     exact⟨_,J,⟨J,ja⟩,(by have h_:=jz;rw[show (ue:Addr)=(vP<|V_ 2) from by rw[e3]<;>rfl] at h_;exact h_)⟩
    refine⟨fun f5 fE V_ eG Xp Ek Eh jd=>?_,?_⟩
    ·
     have tN:HI M w fE (dY++eG):=(by have h_:HI M w fE (dY++(eG)):=jd;exact h_)
     refine fa rT J (Xp 9 J) ?_
     exact⟨_,J,J,tN⟩
    refine⟨fun f6 iU V_ eG hs5 Ou hq5 qp=>?_,?_⟩
    ·
     obtain⟨e4,q2⟩:=Ou 0 _ rfl rfl rfl
     have e5:V_ 0=I (j_:Int):=q2
     have s8:f6 35=I (j_:Int):=e4.trans e5
     obtain⟨e6,q3⟩:=Ou 4 _ rfl rfl rfl
     have e7:V_ 4=pV ba 1:=q3
     have s9:f6 39=pV ba 1:=e6.trans e7
     have kP:HI M w iU ([J5,J4,J3,J2,J1,J0,J6]++eG):=(by have h_:HI M w iU (dY++([J6]++(eG))):=qp;exact h_)
     refine bw kP 6 J aS J J s9 s8 J J J ?_
     intro jZ (rX:HI M w jZ ([J5,J4,J3,J2,J1,J0,J7]++eG))
     exact⟨undef,J,trivial,rX⟩
    refine⟨fun f7 rn V_ eG hs6 IT hq6 Dm=>?_,?_⟩
    ·
     have kE:HI M w rn (dY++eG):=(by have h_:HI M w rn (dY++(eG)):=Dm;exact h_)
     refine fa pO J (hs6 9 J) ?_
     exact⟨_,J,J,kE⟩
    refine⟨fun f8 zL V_ eG hs7 IS hq7 nn=>?_,?_⟩
    ·
     obtain⟨e8,q4⟩:=IS 3 _ rfl rfl rfl
     obtain⟨e9,jW⟩:V_ 3=I x1∧aL (x1):=q4
     have eC:f8 38=I x1:=e8.trans e9
     obtain⟨Th,q5⟩:=IS 6 _ rfl rfl rfl
     have rV:V_ 6=pV ba 2:=q5
     have fj:f8 40=pV ba 2:=Th.trans rV
     have zf:HI M w zL ([J5,J4,J3,J2,J1,J0,J7]++eG):=(by have h_:HI M w zL (dY++([J7]++(eG))):=nn;exact h_)
     refine bw zf 6 J aS J J fj eC J J J ?_
     intro tP (ry:HI M w tP ([J5,J4,J3,J2,J1,J0,J8]++eG))
     exact⟨undef,J,trivial,ry⟩
    exact trivial
   ·
    intro f9 uV V_ Xo BE qo
    obtain⟨sP,q6⟩:=BE 2 _ rfl rfl
    obtain⟨tK,rU⟩:∃(tK:Addr),V_ 2=.pointer (some tK):=q6
    have fS:=(Xo 4 J).trans s2
    have gF:f9 9=pV ba 0:=Xo 9 J
    have Yn:HI M w uV [iL a0 (dv U cn cr (j_:Int)) c0,box aZ #[I 0,I 0,I 0,I 0,I 0,.slice none 0 0,I 0,I 0] 33,ro eK #[.slice aC aD aB,sL aw U av,sL ay fo ax,I cn,sL dB cr dA,.slice iI rD jE] lV,iL dB cr dA,iL ay fo ax,iL aw U av,ra tK x1,box ba #[I kd,I (j_:Int),I x1,I (-1),I (-1),.slice none 0 0,I (-1),I (-1)] 33]:=(by have h_:HI M w uV ([iL a0 (dv U cn cr (j_:Int)) c0,box aZ #[I 0,I 0,I 0,I 0,I 0,.slice none 0 0,I 0,I 0] 33,ro eK #[.slice aC aD aB,sL aw U av,sL ay fo ax,I cn,sL dB cr dA,.slice iI rD jE] lV,iL dB cr dA,iL ay fo ax,iL aw U av]++([]++([]++([ra (vP<|V_ 2) x1]++([]++([]++([]++([box ba #[I kd,I (j_:Int),I x1,I (-1),I (-1),.slice none 0 0,I (-1),I (-1)] 33]++([]))))))))):=qo;rw[rU] at h_;exact h_)
    refine cV<|k<|cI Yn 7 J bW J gF au J<|k<|bw Yn 1 J bW J J fS J J J J ?_
    intro yl (Jm:HI M w yl [J5,box aZ #[I kd,I (j_:Int),I x1,I (-1),I (-1),.slice none 0 0,I (-1),I (-1)] 33,J3,J2,J1,J0,ra tK x1,J8])
    refine ak (v:=.bool true) J J<|aq<|rt<|bU<|aK<|ee<|bU<|aK ?_
    have qP:=DO (n:=fo.length) hs aj<|show vB U fo cn cr j_=true by simp only[vB,jo aI,bV,b0,(fl b1),b2,BL]
    refine iA Jm 1 J bW J J J fS J au ?_
    have e8:(true:Bool)=(qd U fo cn cr kd).isSome:=by exact adb qP
    have bu:=iD (fun (lF:Bool)=>(.tuple #[.agg #[I kd,I (j_:Int),I x1,I (-1),I (-1),.slice none 0 0,I (-1),I (-1)],.bool lF]:Value)) e8
    exact⟨kd,(j_:Int),x1,(-1),(-1),(-1),(-1),bu,Jm.below,(by exact afm lM qP aj bV (MG kY bV))⟩
  have p2:=dF b2
  refine sk<|aF<|nx<|rg<|k<|add J J s5 J aT<|ai (v:=I ((j_:Int)+1)) J J<|z ?_
  have H8:HI M w w2 ck:=H7.bZ [1,2,3,4,5] au J
  refine bG _ ?_ ⟨(j_+1),J,s0,s1,s2,s3,s4,(bN J),H8,aj,(by exact su hs (by simp only[vB,jo aI,b0,(fl b1),b2,BL]))⟩
  omega
 have p0:=dF b0
 refine ex<|aV<|bf<|bh<|cV<|k<|bd (v:=.agg #[I 0,I 0,I 0,I 0,I 0,.slice none 0 0,I 0,I 0]) J eI (fun _=>aU)<|k<|bw H5 0 J bW J J s2 J J J J ?_
 intro w2 (H6:HI M w w2 ck)
 refine ak (v:=.bool false) J J<|aq<|rt ?_
 have qP:Ap U fo cn cr=none:=Bg hs aj
 refine iA H6 0 J bW J J J s2 J au ?_
 have e8:(false:Bool)=(qd U fo cn cr kd).isSome:=by rw[Tc qP];rfl
 have bu:=iD (fun (lF:Bool)=>(.tuple #[.agg #[I 0,I 0,I 0,I 0,I 0,.slice none 0 0,I 0,I 0],.bool lF]:Value)) e8
 exact⟨0,0,0,0,0,0,0,bu,H6.below,(by exact ui (Tc qP) Nv)⟩
theorem GK:gv aJ 33 3 3:=js Tryz.underlying33
theorem Np (hM:eU M w) (hT:fW 0 w) (dG:cL M w aw av U) (gl:cL M w ay ax fo) (kv:aL cn) (nF:cL M w dB dA cr) (lM:aL kd) (la:w.heap[eK]? =some (.cells #[.slice aC aD aB,sL aw U av,sL ay fo ax,I cn,sL dB cr dA,.slice iI rD jE] lV (0,0))∧¬M eK) (kY:bI cn cr=true) (eD:fo.length=U.length):Calls aJ 36 #[.pointer (some ⟨eK,0,none⟩),I kd] w (cA fun v w'=>∃(k_:Int) (r_:Int) (a_:Int) (b_:Int) (o_:Int) (f_:Int) (s_:Int),v=.tuple #[.agg #[I k_,I r_,I a_,I b_,I o_,.slice none 0 0,I f_,I s_],.bool ((qe U fo cn cr kd).isSome)]∧Ext w w'∧ql (qe U fo cn cr kd) k_ r_ a_ b_ o_):=by
 refine dH 60 Tryz.func36 J J J hM fun f0 ha H=>?_
 let J0:=iL aw U av
 have H0:=H.put (it:=J0) J<|by rw[bS];exact dG
 let J1:=iL ay fo ax
 have H1:=H0.put (it:=J1) J<|by rw[aH rfl,bS];exact gl
 let J2:=iL dB cr dA
 have H2:=H1.put (it:=J2) J<|by rw[aH rfl,aH rfl,bS];exact nF
 have iS:=bl dG
 have kM:=bl gl
 have A5:=bl nF
 let J3:=ro eK #[.slice aC aD aB,sL aw U av,sL ay fo ax,I cn,sL dB cr dA,.slice iI rD jE] lV
 have H3:=H2.put (it:=J3) J<|by rw[aH rfl,aH rfl,aH rfl,bS];exact la
 have i0:f0 0=pV eK 0:=ha 0 bm
 have i1:f0 1=I kd:=ha 1 bm
 refine az<|k<|al H3 bW ?_
 let bc:=[J3,J2,J1,J0]
 intro aZ w0 bY (H4:HI M w w0 (box aZ #[I 0,I 0,I 0,I 0,I 0,.slice none 0 0,I 0,I 0] 33::bc))
 let J4:=box aZ #[I 0,I 0,I 0,I 0,I 0,.slice none 0 0,I 0,I 0] 33
 refine ak (v:=.bool false) J J<|aq<|sq<|az<|ai J i0<|k<|nc J J<|aR rR J J<|aR tG J J<|k<|lr H4 1 J qv J J J<|k<|ef J J cS<|ai (v:=I 0) J J<|aq<|bk<|lp (fun m f w'=>∃(j_:Nat),m=fo.length-j_∧f 0=pV eK 0∧f 1=I kd∧f 4=pV aZ 0∧f 15=sL ay fo ax∧f 16=I (fo.length:Int)∧f 17=I (j_:Int)∧HI M w w' (J4::bc)∧(j_≤fo.length)∧(∀q,q<j_→vX U fo cn cr q=false)) _ ⟨0,J,i0,i1,J,J,J,(bN J),H4,aj,(by intro q h;omega)⟩ ?_
 rintro _ f0 w1 ⟨j_,rfl,s0,s1,s2,s3,s4,s5,H5,pk,hs⟩
 refine az<|k<|lss J J s5 s4<|aq<|sq<|cd (b:=decide ((j_:Int)<(fo.length:Int))) J J (fun b0=>?_)<|fun b0=>?_
 ·
  have p0:=dT b0
  refine sk<|nx<|sq<|bk<|az<|ai J s5<|k<|ia (H5.rv 3 J) J J s3 s5 aj cS aS ?_
  intro iE x0 aI cD
  refine k<|mV cD.w aS J J ?_
  intro cE
  refine ak (v:=I (j_:Int)) J J<|ak (v:=I x0) J J<|aq<|sq<|az<|ai (v:=I x0) J J<|k<|lss J J J J<|z<|nx<|cd (b:=decide (x0<0)) J J (fun b1=>?_)<|fun b1=>?_
  ·
   have p1:=dT b1
   refine ex<|aV<|bh<|nx<|rg<|k<|add J J s5 J aT<|ai (v:=I ((j_:Int)+1)) J J<|z<|bG _ ?_ ⟨(j_+1),J,s0,s1,s2,s3,s4,(bN J),H5,aj,(by exact adt hs aI ‹_›)⟩
   omega
  have p1:=dF b1
  refine sk<|cV<|ai J s0<|ai J s0<|k<|nc J J<|aR xT J J<|k<|wc H5 1 J bp J J au J<|ai (v:=I (j_:Int)) J J<|k ?_
  have bT:=Db (U:=U) (cn:=cn) (mn:=cn) (mr:=cr) (fC:=(j_:Int)) H5.mb (hT.ext H5.below) (H5.rv 4 J) kv kv (H5.rv 2 J) aT (H5.at_ 1 J) (by exact kY) aj
  refine ca VB J (ec J<|ec J<|ec J e0) bT ?_
  rintro _ w2 ⟨a0,c0,rfl,dy,ep⟩
  have H6:=H5.ext dy
  have ei:=(ep.lift<|Up.less fun b _ hb=>H5.mb b hb)
  let J5:=iL a0 (dv U cn cr (j_:Int)) c0
  have H7:=H6.put (it:=J5) J ei
  refine k<|ef J J cS<|ai (v:=I 0) J J<|aq<|bk ?_
  let ck:=J5::J4::bc
  refine lp (fun m f w'=>∃(q_:Nat),m=(dv U cn cr (j_:Int)).length-q_∧f 0=pV eK 0∧f 1=I kd∧f 4=pV aZ 0∧f 6=I (j_:Int)∧f 7=I x0∧f 15=sL ay fo ax∧f 16=I (fo.length:Int)∧f 17=I (j_:Int)∧f 30=sL a0 (dv U cn cr (j_:Int)) c0∧f 31=I ((dv U cn cr (j_:Int)).length:Int)∧f 32=I (q_:Int)∧HI M w w' ck∧(q_≤(dv U cn cr (j_:Int)).length)∧(∀y∈(dv U cn cr (j_:Int)).take q_,(zB cn cr x0) y=false)) _ ⟨0,J,s0,s1,s2,J,J,s3,s4,s5,J,J,(bN J),H7,aj,bm⟩ ?_
  rintro _ f1 w3 ⟨q_,rfl,s6,s7,s8,s9,eC,fj,fT,fS,gF,gW,kG,H8,sI,gN⟩
  refine sq ?_
  have la_:=QN kY U (j_:Int)
  refine rg<|k<|lss J J kG gW<|aq<|sq<|cd (b:=decide ((q_:Int)<((dv U cn cr (j_:Int)).length:Int))) J J (fun b2=>?_)<|fun b2=>?_
  ·
   have p2:=dT b2
   refine sk<|nx<|sq<|bk<|az<|k<|ia (H8.rv 0 J) J J gF kG aj cS aS ?_
   intro rb x1 bV gG
   refine k<|mV gG.w aS J J ?_
   intro fB
   refine ak (v:=I x1) J J<|bz<|ai (v:=I x1) J J<|ai J eC<|k<|neq J J J J<|ai (v:=.bool (!decide (x1=x0))) J J ?_
   rcases bE (!decide (x1=x0)) with b3|b3
   ·
    have p3:=dF<|fX b3
    refine aQ J J J b3<|mv J s6<|aQ J J J b3<|nc J J<|aQ J J J b3<|fa xT J J<|aQ J J J b3<|wc H8 2 J bp J J au J<|aQ J J J b3<|mv J eC<|aQ J J J b3<|mv (v:=I x1) J J<|aQ J J J b3 ?_
    have dq:=uz (mn:=cn) (mr:=cr) (i:=x0) (j:=x1) H8.mb kv (H8.rv 3 J) cE fB (by exact(bR kY).1) (by exact(bR kY).2.1)<|by exact(bR kY).2.2.1
    refine ca Fv J (ec J<|ec J<|ec J e0) dq ?_
    rintro _ w4 ⟨rfl,fe⟩
    have H9:=H8.ext fe
    refine k<|aN J J J J b3 J<|z<|nx<|cd (b:=eL cn cr x0 x1) J J (fun b4=>?_)<|fun b4=>?_
    ·
     refine sq ?_
     obtain⟨qP,CP,ha_⟩:=adu hs aj aI ‹_› gN bV (fX ‹(!decide (x1=x0))=true›) ‹_›
     refine rg<|ai J s7<|k ?_
     have fP:=qZ (kd:=kd) (w:=w4) lM
     refine ca Fw J (ec J e0) fP ?_
     rintro _ w5 ⟨rfl,fA⟩
     have dz:=H9.ext fA
     refine k<|al dz bW ?_
     intro ba w6 iz (cB:HI M w w6 (box ba #[I 0,I 0,I 0,I 0,I 0,.slice none 0 0,I 0,I 0] 33::ck))
     refine k<|bw cB 0 J bW J J J J J J J ?_
     intro w7 (dx:HI M w w7 (box ba #[I kd,I (-1),I (-1),I (-1),I (-1),.slice none 0 0,I (-1),I (-1)] 33::ck))
     refine bz<|ai J s9<|ai J eC<|ai (v:=I x1) J J<|aR rT J J<|k<|bw dx 0 J aS J J J J J J J ?_
     intro w8 (dI:HI M w w8 (box ba #[I kd,I (j_:Int),I (-1),I (-1),I (-1),.slice none 0 0,I (-1),I (-1)] 33::ck))
     refine aR pO J J<|k<|bw dI 0 J aS J J J J J J J ?_
     intro w9 (cU:HI M w w9 (box ba #[I kd,I (j_:Int),I x0,I (-1),I (-1),.slice none 0 0,I (-1),I (-1)] 33::ck))
     refine aR GK J J<|k<|bw cU 0 J aS J J J J J J J ?_
     let J6:=box ba #[I kd,I (j_:Int),I x0,I x1,I (-1),.slice none 0 0,I (-1),I (-1)] 33
     intro dP (d_:HI M w dP (J6::ck))
     refine bz<|k<|cI d_ 0 J bW J J au J<|k<|bw d_ 2 J bW J J s8 J J J J ?_
     intro eB (dD:HI M w eB (J6::J5::box aZ #[I kd,I (j_:Int),I x0,I x1,I (-1),.slice none 0 0,I (-1),I (-1)] 33::bc))
     refine ak (v:=.bool true) J J<|aq<|rt<|bU<|aK<|ee<|bU<|bU<|aK<|ee<|bU<|aK<|iA dD 2 J bW J J J s8 J au ?_
     have e8:(true:Bool)=(qe U fo cn cr kd).isSome:=by exact adn qP
     have bu:=iD (fun (lF:Bool)=>(.tuple #[.agg #[I kd,I (j_:Int),I x0,I x1,I (-1),.slice none 0 0,I (-1),I (-1)],.bool lF]:Value)) e8
     exact⟨kd,(j_:Int),x0,x1,(-1),(-1),(-1),bu,dD.below,(by exact afo lM qP CP ha_ aj bo (MG kY bV))⟩
    refine sk<|aF<|nx<|rg<|k<|add J J kG J aT<|ai (v:=I ((q_:Int)+1)) J J<|z<|bG _ ?_ ⟨(q_+1),J,s6,s7,s8,s9,eC,fj,fT,fS,gF,gW,(bN J),H9,aj,(by exact Of gN bV (by simp only[zB,b0,b1,b2,(fX b3),b4,BL]))⟩
    omega
   have p3:=dT<|fl b3
   refine aX J J J b3<|aX J J J b3<|aX J J J b3<|aX J J J b3<|aX J J J b3<|aX J J J b3<|aX J J J b3<|k<|cZ J J J J b3 J<|aq<|nU J J J<|sk<|aF<|nx<|rg<|k<|add J J kG J aT<|ai (v:=I ((q_:Int)+1)) J J<|z<|bG _ ?_ ⟨(q_+1),J,s6,s7,s8,s9,eC,fj,fT,fS,gF,gW,(bN J),H8,aj,(by exact Of gN bV (by simp only[zB,b0,b1,b2,(fl b3),BL]))⟩
   omega
  have p2:=dF b2
  refine ex<|aV<|bf<|bh<|aF<|nx<|rg<|k<|add J J fS J aT<|ai (v:=I ((j_:Int)+1)) J J<|z ?_
  have H9:HI M w w3 (J4::bc):=H8.bZ [1,2,3,4,5] au J
  refine bG _ ?_ ⟨(j_+1),J,s6,s7,s8,fj,fT,(bN J),H9,aj,(by exact Wj hs aI gN aj)⟩
  omega
 have p0:=dF b0
 refine ex<|aV<|bf<|bh<|cV<|k<|bd (v:=.agg #[I 0,I 0,I 0,I 0,I 0,.slice none 0 0,I 0,I 0]) J eI (fun _=>aU)<|k<|bw H5 0 J bW J J s2 J J J J ?_
 intro w2 (H6:HI M w w2 (J4::bc))
 refine ak (v:=.bool false) J J<|aq<|rt ?_
 have qP:FI U fo cn cr=none:=Bg hs aj
 refine iA H6 0 J bW J J J s2 J au ?_
 have e8:(false:Bool)=(qe U fo cn cr kd).isSome:=by rw[Tz qP];rfl
 have bu:=iD (fun (lF:Bool)=>(.tuple #[.agg #[I 0,I 0,I 0,I 0,I 0,.slice none 0 0,I 0,I 0],.bool lF]:Value)) e8
 exact⟨0,0,0,0,0,0,0,bu,H6.below,(by exact ui (Tz qP) Nv)⟩
theorem acN:cH aJ 67:=cN Tryz.func67
theorem Wn (kv:aL cn) (lM:aL kd) (hT:fW 0 w) (ho:hG U) (dC:U.length≤64) (eD:fo.length=U.length) (fK:∀x∈fo,x<((U.length:Nat):Int)) (ou:cn=((U.length:Nat):Int)) (pK:cr=cC U fo) (hsw:iI=none∧sw=[]∨sw=eX U fo) (H:HI M w w_ ([box eK #[.slice aC aD aB,sL aw U av,sL ay fo ax,I cn,sL dB cr dA,sL iI sw jE] 80,iL aw U av,iL ay fo ax,iL dB cr dA,oL w 26 iI sw jE]++r)):Calls aJ 39 #[pV eK 0,I kd] w_ (cA fun v w'=>∃(k_:Int) (r_:Int) (a_:Int) (b_:Int) (o_:Int) (f_:Int) (s_:Int) (wQ:OA) (wP:Nat),v=.tuple #[.agg #[I k_,I r_,I a_,I b_,I o_,.slice none 0 0,I f_,I s_],.bool ((sy U fo kd).isSome)]∧HI M w w' ([box eK #[.slice aC aD aB,sL aw U av,sL ay fo ax,I cn,sL dB cr dA,.slice wQ (eX U fo).length wP] 80,iL aw U av,iL ay fo ax,iL dB cr dA,oL w 26 wQ (eX U fo) wP]++r)∧ql (sy U fo kd) k_ r_ a_ b_ o_):=by
 refine enter 34 Tryz.func39 J J J fun f0 ha=>?_
 have iS:=bl<|H.rv 1 J
 have kM:=bl<|H.rv 2 J
 have A5:=bl<|H.rv 3 J
 have Xa:=kf<|H.at_ 4 J
 have i0:f0 0=pV eK 0:=ha 0 bm
 have i1:f0 1=I kd:=ha 1 bm
 refine az<|k<|al H bW ?_
 let J1:=box eK #[.slice aC aD aB,sL aw U av,sL ay fo ax,I cn,sL dB cr dA,sL iI sw jE] 80
 let J2:=iL aw U av
 let J3:=iL ay fo ax
 let J4:=iL dB cr dA
 let J5:=oL w 26 iI sw jE
 intro aZ w0 bY (H0:HI M w w0 ([box aZ #[I 0,I 0,I 0,I 0,I 0,.slice none 0 0,I 0,I 0] 33,J1,J2,J3,J4,J5]++r))
 let J0:=box aZ #[I 0,I 0,I 0,I 0,I 0,.slice none 0 0,I 0,I 0] 33
 refine ak (v:=.bool false) J J<|aq<|sq<|az<|ai J i0<|k ?_
 have H1:HI M w w0 ([J1,J2,J3,J4,J5]++([J0]++r)):=HI.aN (l:=[J0,J1,J2,J3,J4,J5]) (l':=[J1,J2,J3,J4,J5,J0]) (t:=r) H0 [1,2,3,4,5,0] au J J
 have bT:=O0 (eK:=eK) (aC:=aC) (aD:=aD) (aB:=aB) (aw:=aw) (av:=av) (U:=U) (ay:=ay) (ax:=ax) (fo:=fo) (cn:=cn) (dB:=dB) (dA:=dA) (cr:=cr) (iI:=iI) (jE:=jE) (sw:=sw) (w:=w) (w_:=w0) (r:=([J0]++r)) (M:=M) kv hT (by exact ho) (by exact dC) (by exact eD) (by exact fK) (by exact ou) (by exact pK) aj H1
 refine ca acN J (ec J e0) bT ?_
 rintro _ w1 ⟨a0,c0,rfl,H2⟩
 let J6:=box eK #[.slice aC aD aB,sL aw U av,sL ay fo ax,I cn,sL dB cr dA,sL a0 (eX U fo) c0] 80
 let J7:=oL w 26 a0 (eX U fo) c0
 refine k<|ef J J Hh<|ai (v:=I 0) J J<|aq<|bk ?_
 let bc:=[J6,J2,J3,J4,J7,J0]
 refine lp (fun m f w'=>∃(j_:Nat),m=U.length-j_∧f 1=I kd∧f 4=pV aZ 0∧f 12=sL a0 (eX U fo) c0∧f 13=I ((eX U fo).length:Int)∧f 14=I (j_:Int)∧HI M w w' (bc++r)∧(j_≤U.length)∧(∀q,q<j_→WS U fo q=false)) _ ⟨0,J,i1,J,J,J,(bN J),H2,aj,(by intro q h;omega)⟩ ?_
 rintro _ f0 w2 ⟨j_,rfl,s0,s1,s2,s3,s4,H4,pk,hs⟩
 refine az<|k<|lss J J s4 s3<|aq<|sq<|cd (b:=decide ((j_:Int)<((eX U fo).length:Int))) J J (fun b0=>?_)<|fun b0=>?_
 ·
  have p0:=dT b0
  refine sk<|nx<|sq<|bk<|az<|ai J s4<|k<|iq (H4.at_ 4 J) J J s2 s4 aj Hh bp ?_
  intro g0 x0 iC aI cD
  refine k<|nr cD bp J J ?_
  intro v0 cE
  obtain⟨_,⟨_,_,rfl,⟨rfl,ep⟩,⟨v1,rfl,ei⟩⟩,rfl⟩:=cE
  obtain⟨a1,c1,rfl,fB⟩:=RS.explicit ei
  let J8:=iL a1 x0.2 c1
  have H5:=H4.put (it:=J8) J<|by exact fB
  refine k<|al H5 bp ?_
  intro ba w3 dy (H7:HI M w w3 ((box ba #[I 0,.slice none 0 0] 26::J8::bc)++r))
  refine ak (v:=I (j_:Int)) J J<|k<|bw H7 0 J bp J J J J J J J ?_
  let J9:=box ba #[I x0.1,sL a1 x0.2 c1] 26
  let ck:=J9::J8::bc
  intro w4 (H8:HI M w w4 (ck++r))
  refine aq<|sq ?_
  obtain⟨Gx,SG⟩:=NL aI
  have zt:x0.1=((U.length:Nat):Int):=by rw[SG]
  have zr:x0.2=(db U fo (j_:Int)):=by rw[SG]
  have Pr:bI x0.1 x0.2=true:=by rw[zt,zr];exact FZ dC Gx
  refine rg<|k<|cI H8 0 J bp J J au J<|k ?_
  have dq:=yH (mn:=x0.1) (mr:=x0.2) H8.mb ep (H8.rv 1 J)<|by exact Pr
  refine ca Qm J (ec J e0) dq ?_
  rintro _ w5 ⟨rfl,fe⟩
  have H9:=H8.ext fe
  refine ai (v:=.tuple #[I (((cW x0.1 x0.2).getD 0:Nat):Int),.bool ((cW x0.1 x0.2).isSome)]) J J<|k<|xt J J J<|k<|xt J J J<|ak (v:=I (((cW x0.1 x0.2).getD 0:Nat):Int)) J J<|ak (v:=.bool ((cW x0.1 x0.2).isSome)) J J<|bz<|ai (v:=.bool ((cW x0.1 x0.2).isSome)) J J<|z<|nx<|cd (b:=(cW x0.1 x0.2).isSome) J J (fun b1=>?_)<|fun b1=>?_
  ·
   refine az<|ai J s0<|k ?_
   have fP:=qZ (kd:=kd) (w:=w5) lM
   refine ca Fw J (ec J e0) fP ?_
   rintro _ w6 ⟨rfl,fA⟩
   have dz:=H9.ext fA
   refine k<|al dz bW ?_
   intro bL w7 iz (cB:HI M w w7 ((box bL #[I 0,I 0,I 0,I 0,I 0,.slice none 0 0,I 0,I 0] 33::ck)++r))
   refine k<|bw cB 0 J bW J J J J J J J ?_
   intro w8 (dx:HI M w w8 ((box bL #[I kd,I (-1),I (-1),I (-1),I (-1),.slice none 0 0,I (-1),I (-1)] 33::ck)++r))
   refine bz<|ai (v:=I (j_:Int)) J J<|ai (v:=I (((cW x0.1 x0.2).getD 0:Nat):Int)) J J<|aR oT J J<|k<|bw dx 0 J aS J J J J J J J ?_
   intro w9 (dI:HI M w w9 ((box bL #[I kd,I (-1),I (-1),I (-1),I (j_:Int),.slice none 0 0,I (-1),I (-1)] 33::ck)++r))
   refine aR pO J J<|k<|bw dI 0 J aS J J J J J J J ?_
   let dZ:=box bL #[I kd,I (-1),I (((cW x0.1 x0.2).getD 0:Nat):Int),I (-1),I (j_:Int),.slice none 0 0,I (-1),I (-1)] 33
   intro dP (cU:HI M w dP ((dZ::ck)++r))
   refine bz<|k<|cI cU 0 J bW J J au J<|k<|bw cU 8 J bW J J s1 J J J J ?_
   let eP:=box aZ #[I kd,I (-1),I (((cW x0.1 x0.2).getD 0:Nat):Int),I (-1),I (j_:Int),.slice none 0 0,I (-1),I (-1)] 33
   intro eB (d_:HI M w eB ([dZ,J9,J8,J6,J2,J3,J4,J7,eP]++r))
   refine ak (v:=.bool true) J J<|aq<|rt<|bU<|aK<|ee<|bU<|aK ?_
   have tX:(cW ((U.length:Nat):Int) (db U fo (j_:Int))).isSome=true:=by rw[←zt,←zr];assumption
   have qP:Ik U fo=some j_:=DO hs Gx tX
   refine iA d_ 8 J bW J J J s1 J au ?_
   have dD:=HI.aN (l:=[dZ,J9,J8,J6,J2,J3,J4,J7,eP]) (l':=[J6,J2,J3,J4,J7]) (t:=r) d_ [3,4,5,6,7] au J J
   have e0:(true:Bool)=(sy U fo kd).isSome:=by exact aed qP
   try rw[←e0]
   refine⟨kd,(-1),(((cW x0.1 x0.2).getD 0:Nat):Int),(-1),(j_:Int),(-1),(-1),a0,c0,?_,?_,(by rw[zt,zr];exact ag7 lM qP Gx dC tX)⟩
   · first|rfl|simp only[e0]|(simp only[amA])
   · first|exact dD|simpa +zetaDelta only[e0,amA] using dD
  refine sk<|aF<|nx<|rg<|k<|add J J s4 J aT<|ai (v:=I ((j_:Int)+1)) J J<|z ?_
  have dz:HI M w w5 (bc++r):=HI.aN (l:=ck) (l':=bc) (t:=r) H9 [2,3,4,5,6,7] au J J
  refine bG _ ?_ ⟨(j_+1),J,s0,s1,s2,s3,(bN J),dz,aj,(by exact su hs (by unfold WS;rw[←zt,←zr];assumption))⟩
  omega
 have p0:=dF b0
 refine ex<|aV<|bf<|bh<|cV<|k<|bd (v:=.agg #[I 0,I 0,I 0,I 0,I 0,.slice none 0 0,I 0,I 0]) J eI (fun _=>aU)<|k<|bw H4 5 J bW J J s1 J J J J ?_
 intro w3 (H5:HI M w w3 (bc++r))
 refine ak (v:=.bool false) J J<|aq<|rt ?_
 have qP:Ik U fo=none:=Bg hs<|by rw[AN] at p0;omega
 refine iA H5 5 J bW J J J s1 J au ?_
 have H6:=HI.aN (l:=bc) (l':=[J6,J2,J3,J4,J7]) (t:=r) H5 [0,1,2,3,4] au J J
 have e0:(false:Bool)=(sy U fo kd).isSome:=by rw[WR qP];rfl
 try rw[←e0]
 refine⟨0,0,0,0,0,0,0,a0,c0,?_,?_,(by exact ui (WR qP) Nv)⟩
 · first|rfl|simp only[e0]|(simp only[amA])
 · first|exact H6|simpa +zetaDelta only[e0,amA] using H6
theorem TJ (kv:aL cn) (lM:aL kd) (hT:fW 0 w) (ho:hG U) (dC:U.length≤64) (eD:fo.length=U.length) (fK:∀x∈fo,x<((U.length:Nat):Int)) (ou:cn=((U.length:Nat):Int)) (pK:cr=cC U fo) (hsw:iI=none∧sw=[]∨sw=eX U fo) (H:HI M w w_ ([box eK #[.slice aC aD aB,sL aw U av,sL ay fo ax,I cn,sL dB cr dA,sL iI sw jE] 80,iL aw U av,iL ay fo ax,iL dB cr dA,oL w 26 iI sw jE]++r)):Calls aJ 38 #[pV eK 0,I kd] w_ (cA fun v w'=>∃(k_:Int) (r_:Int) (a_:Int) (b_:Int) (o_:Int) (f_:Int) (s_:Int) (wQ:OA) (wP:Nat),v=.tuple #[.agg #[I k_,I r_,I a_,I b_,I o_,.slice none 0 0,I f_,I s_],.bool ((sA U fo kd).isSome)]∧HI M w w' ([box eK #[.slice aC aD aB,sL aw U av,sL ay fo ax,I cn,sL dB cr dA,.slice wQ (eX U fo).length wP] 80,iL aw U av,iL ay fo ax,iL dB cr dA,oL w 26 wQ (eX U fo) wP]++r)∧ql (sA U fo kd) k_ r_ a_ b_ o_):=by
 refine enter 63 Tryz.func38 J J J fun f0 ha=>?_
 have iS:=bl<|H.rv 1 J
 have kM:=bl<|H.rv 2 J
 have A5:=bl<|H.rv 3 J
 have Xa:=kf<|H.at_ 4 J
 have i0:f0 0=pV eK 0:=ha 0 bm
 have i1:f0 1=I kd:=ha 1 bm
 refine az<|k<|al H bW ?_
 let J1:=box eK #[.slice aC aD aB,sL aw U av,sL ay fo ax,I cn,sL dB cr dA,sL iI sw jE] 80
 let J2:=iL aw U av
 let J3:=iL ay fo ax
 let J4:=iL dB cr dA
 let J5:=oL w 26 iI sw jE
 intro aZ w0 bY (H0:HI M w w0 ([box aZ #[I 0,I 0,I 0,I 0,I 0,.slice none 0 0,I 0,I 0] 33,J1,J2,J3,J4,J5]++r))
 let J0:=box aZ #[I 0,I 0,I 0,I 0,I 0,.slice none 0 0,I 0,I 0] 33
 refine ak (v:=.bool false) J J<|aq<|sq<|az<|ai J i0<|k ?_
 have H1:HI M w w0 ([J1,J2,J3,J4,J5]++([J0]++r)):=HI.aN (l:=[J0,J1,J2,J3,J4,J5]) (l':=[J1,J2,J3,J4,J5,J0]) (t:=r) H0 [1,2,3,4,5,0] au J J
 have bT:=O0 (eK:=eK) (aC:=aC) (aD:=aD) (aB:=aB) (aw:=aw) (av:=av) (U:=U) (ay:=ay) (ax:=ax) (fo:=fo) (cn:=cn) (dB:=dB) (dA:=dA) (cr:=cr) (iI:=iI) (jE:=jE) (sw:=sw) (w:=w) (w_:=w0) (r:=([J0]++r)) (M:=M) kv hT (by exact ho) (by exact dC) (by exact eD) (by exact fK) (by exact ou) (by exact pK) aj H1
 refine ca acN J (ec J e0) bT ?_
 rintro _ w1 ⟨a0,c0,rfl,H2⟩
 let J6:=box eK #[.slice aC aD aB,sL aw U av,sL ay fo ax,I cn,sL dB cr dA,sL a0 (eX U fo) c0] 80
 let J7:=oL w 26 a0 (eX U fo) c0
 refine k<|ef J J Hh<|ai (v:=I 0) J J<|aq<|bk ?_
 let bc:=[J6,J2,J3,J4,J7,J0]
 refine lp (fun m f w'=>∃(j_:Nat),m=U.length-j_∧f 0=pV eK 0∧f 1=I kd∧f 4=pV aZ 0∧f 13=sL a0 (eX U fo) c0∧f 14=I ((eX U fo).length:Int)∧f 15=I (j_:Int)∧HI M w w' (bc++r)∧(j_≤U.length)∧(∀q,q<j_→Iq U fo q=false)) _ ⟨0,J,i0,i1,J,J,J,(bN J),H2,aj,(by intro q h;omega)⟩ ?_
 rintro _ f0 w2 ⟨j_,rfl,s0,s1,s2,s3,s4,s5,H4,pk,hs⟩
 refine az<|k<|lss J J s5 s4<|aq<|sq<|cd (b:=decide ((j_:Int)<((eX U fo).length:Int))) J J (fun b0=>?_)<|fun b0=>?_
 ·
  have p0:=dT b0
  refine sk<|nx<|sq<|bk<|az<|ai J s5<|k<|iq (H4.at_ 4 J) J J s3 s5 aj Hh bp ?_
  intro g0 x0 iC aI cD
  refine k<|nr cD bp J J ?_
  intro v0 cE
  obtain⟨_,⟨_,_,rfl,⟨rfl,ep⟩,⟨v1,rfl,ei⟩⟩,rfl⟩:=cE
  obtain⟨a1,c1,rfl,fB⟩:=RS.explicit ei
  let J8:=iL a1 x0.2 c1
  have H5:=H4.put (it:=J8) J<|by exact fB
  refine k<|al H5 bp ?_
  let ck:=J8::bc
  intro ba w3 dy (H7:HI M w w3 ((box ba #[I 0,.slice none 0 0] 26::ck)++r))
  refine ak (v:=I (j_:Int)) J J<|k<|bw H7 0 J bp J J J J J J J ?_
  let J9:=box ba #[I x0.1,sL a1 x0.2 c1] 26
  let dY:=J9::ck
  intro w4 (H8:HI M w w4 (dY++r))
  refine aq<|sq ?_
  obtain⟨Gx,SG⟩:=NL aI
  have zt:x0.1=((U.length:Nat):Int):=by rw[SG]
  have zr:x0.2=(db U fo (j_:Int)):=by rw[SG]
  have Pr:bI x0.1 x0.2=true:=by rw[zt,zr];exact FZ dC Gx
  have lk_:=A8 ho dC (o:=(j_:Int)) ⟨by omega,by omega⟩
  refine rg<|ai J s0<|k<|nc J J<|aR rR J J<|k<|cI H8 2 J ej J J au J<|ai (v:=I (j_:Int)) J J<|k ?_
  have dq:=Co (U:=U) (o:=(j_:Int)) (aC:=aC) (aD:=aD) (aB:=aB) (ay:=ay) (fc:=fo.length) (ax:=ax) H8.mb (H8.rv 3 J) aT (by exact ho) aj
  refine ca Vz J (ec J<|ec J e0) dq ?_
  rintro _ w5 ⟨a2,c2,rfl,fe,ja⟩
  have H9:=H8.eS ja
  let dZ:=oL w 3 a2 (aY (gf U) (cF U (j_:Int))) c2
  refine k<|ef J J cS<|ai (v:=I 0) J J<|aq<|bk ?_
  let jk:=dZ::dY
  refine lp (fun m f w'=>∃(q_:Nat),m=(aY (gf U)<|cF U (j_:Int)).length-q_∧f 0=pV eK 0∧f 1=I kd∧f 4=pV aZ 0∧f 6=I (j_:Int)∧f 7=pV ba 0∧f 13=sL a0 (eX U fo) c0∧f 14=I ((eX U fo).length:Int)∧f 15=I (j_:Int)∧f 25=sL a2 (aY (gf U)<|cF U (j_:Int)) c2∧f 26=I ((aY (gf U)<|cF U (j_:Int)).length:Int)∧f 27=I (q_:Int)∧HI M w w' (jk++r)∧(q_≤(aY (gf U)<|cF U (j_:Int)).length)∧(∀y∈(aY (gf U)<|cF U (j_:Int)).take q_,B_ U fo ((U.length:Nat):Int) (db U fo (j_:Int)) y=false)) _ ⟨0,J,s0,s1,s2,J,J,s3,s4,s5,J,J,(bN J),H9,aj,(by intro y h;simp at h)⟩ ?_
  rintro _ f1 w6 ⟨q_,rfl,s6,s7,s8,s9,eC,fj,fT,fS,gF,gW,kG,cB,ahQ,gN⟩
  refine az<|k<|lss J J kG gW<|aq<|sq<|cd (b:=decide ((q_:Int)<((aY (gf U)<|cF U (j_:Int)).length:Int))) J J (fun b1=>?_)<|fun b1=>?_
  ·
   have p1:=dT b1
   refine sk<|nx<|sq<|bk<|az<|k<|iq (cB.at_ 0 J) J J gF kG aj cS aS ?_
   intro g1 x1 kN bV gG
   refine k<|mV gG aS J J ?_
   intro jW
   refine ak (v:=I x1) J J<|aq<|sq ?_
   obtain⟨q2_,ahz⟩:=Zn bV
   have Eg:=Iz ho ahz
   refine rg<|ai J s6<|k<|cI cB 1 J bp J eC au J<|ai (v:=I x1) J J<|k ?_
   have fP:=Db (U:=U) (cn:=cn) (mn:=x0.1) (mr:=x0.2) (fC:=x1) (w:=w6) (M:=fun _=>False) (fun _ h_=>h_.elim) (hT.ext cB.below) ((cB.rv 4 J).lift (Up.less fun _ _ h_=>h_.elim)) kv ep ((cB.rv 2 J).lift (Up.less fun _ _ h_=>h_.elim)) jW ⟨cB.at_ 3 rfl,fun h_=>h_⟩ (by exact Pr) aj
   refine ca VB J (ec J<|ec J<|ec J e0) fP ?_
   rintro _ w7 ⟨a3,c3,rfl,fA,iH⟩
   have dx:=cB.ext fA
   have kR:=(iH.lift<|Up.less fun b _ hb=>cB.mb b hb)
   let eP:=iL a3 (dv U x0.1 x0.2 x1) c3
   have dI:=dx.put (it:=eP) J kR
   let fL:=eP::jk
   have cU:HI M w w7 (fL++r):=dI
   refine ak (v:=sL a3 (dv U x0.1 x0.2 x1) c3) J J<|bz<|ai J s6<|k<|nc J J<|aR rR J J<|aR tG J J<|bq cU 4 J qv J J J<|ai (v:=I x1) J J<|k<|ia (cU.rv 6 J) J J J J aj cS aS ?_
   intro iE x2 jb kB
   refine k<|mV kB.w aS J J ?_
   intro nN
   refine k<|eql J J J J<|ai (v:=.bool (decide (x2=(-1)))) J J ?_
   rcases bE (decide (x2=(-1))) with b2|b2
   ·
    have p2:=dT b2
    refine aQ J J J b2<|mv (v:=sL a3 (dv U x0.1 x0.2 x1) c3) J J<|aQ J J J b2<|ef J J cS<|aQ J J J b2<|gtr J J J J<|k<|aN J J J J b2 J<|z<|nx<|cd (b:=decide (0<((dv U x0.1 x0.2 x1).length:Int))) J J (fun b3=>?_)<|fun b3=>?_
    ·
     have p3:=dT b3
     refine az<|ai J s7<|k ?_
     have ff:=qZ (kd:=kd) (w:=w7) lM
     refine ca Fw J (ec J e0) ff ?_
     rintro _ w8 ⟨rfl,iz⟩
     have d_:=cU.ext iz
     refine k<|al d_ bW ?_
     intro bL w9 jh (dD:HI M w w9 ((box bL #[I 0,I 0,I 0,I 0,I 0,.slice none 0 0,I 0,I 0] 33::fL)++r))
     refine k<|bw dD 0 J bW J J J J J J J ?_
     let gp:=box bL #[I kd,I (-1),I (-1),I (-1),I (-1),.slice none 0 0,I (-1),I (-1)] 33
     intro dP (cY:HI M w dP ((gp::fL)++r))
     refine aq<|sq ?_
     obtain⟨x3,qI⟩:∃x,(dv U x0.1 x0.2 x1)[(0:Int).toNat]? =some x:=⟨_,eR aj⟩
     have fg:HI M w dP ((gp::fL)++r):=cY
     let lz:=[eP,dZ,J9,J8,J6,J2,J3,J4,J7,J0,gp]
     have fz:HI M w dP (lz++r):=HI.aN (l:=(gp::fL)) (l':=lz) (t:=r) fg [1,2,3,4,5,6,7,8,9,10,0] au J J
     refine VR [none,none,none,none,none,none,some 8,none,some 10,none,none,some 6,none] [0,0,0,4,12,1,33,99,227,511,1023] [fun _=>[],fun _=>[],fun _=>[],fun v_=>[ra (vP v_) x3],fun _=>[],fun _=>[],fun v_=>[box bL #[I kd,I (-1),I (-1),I (-1),I (j_:Int),.slice none 0 0,I (-1),I (-1)] 33],fun _=>[],fun v_=>[box bL #[I kd,I x1,I (-1),I (-1),I (j_:Int),.slice none 0 0,I (-1),I (-1)] 33],fun _=>[],fun v_=>[box bL #[I kd,I x1,I x3,I (-1),I (j_:Int),.slice none 0 0,I (-1),I (-1)] 33],fun _=>[box bL #[I kd,I (-1),I (-1),I (-1),I (-1),.slice none 0 0,I (-1),I (-1)] 33],fun _=>r] [[],[],[],[],[3],[],[11],[],[6],[],[8]] [fun v_=>v_=I (j_:Int),fun v_=>v_=I x1∧aL (x1),fun v_=>v_=sL a3 (dv U x0.1 x0.2 x1) c3,fun v_=>∃(rb:Addr),v_=.pointer (some rb),fun v_=>v_=I x3∧aL (x3),fun v_=>v_=pV bL 4,fun _=>True,fun v_=>v_=pV bL 1,fun _=>True,fun v_=>v_=pV bL 2,fun _=>True] [iL a3 (dv U x0.1 x0.2 x1) c3,oL w 3 a2 (aY (gf U)<|cF U (j_:Int)) c2,box ba #[I x0.1,sL a1 x0.2 c1] 26,iL a1 x0.2 c1,box eK #[.slice aC aD aB,sL aw U av,sL ay fo ax,I cn,sL dB cr dA,sL a0 (eX U fo) c0] 80,iL aw U av,iL ay fo ax,iL dB cr dA,oL w 26 a0 (eX U fo) c0,box aZ #[I 0,I 0,I 0,I 0,I 0,.slice none 0 0,I 0,I 0] 33] J aU J (by show HI _ _ _ ([iL a3 (dv U x0.1 x0.2 x1) c3,oL w 3 a2 (aY (gf U)<|cF U (j_:Int)) c2,box ba #[I x0.1,sL a1 x0.2 c1] 26,iL a1 x0.2 c1,box eK #[.slice aC aD aB,sL aw U av,sL ay fo ax,I cn,sL dB cr dA,sL a0 (eX U fo) c0] 80,iL aw U av,iL ay fo ax,iL dB cr dA,oL w 26 a0 (eX U fo) c0,box aZ #[I 0,I 0,I 0,I 0,I 0,.slice none 0 0,I 0,I 0] 33]++([box bL #[I kd,I (-1),I (-1),I (-1),I (-1),.slice none 0 0,I (-1),I (-1)] 33]++(r++[])));rw[anR];exact fz) ?_ ?_
     ·
      refine⟨fun f2 jZ V_ eG lQ hp0 hq0 gS=>?_,?_⟩
      ·
       have iY:HI M w jZ (fL++eG):=(by have h_:HI M w jZ (fL++(eG)):=gS;exact h_)
       refine mv J ((lQ 6 J).trans s9) ?_
       exact⟨_,J,J,iY⟩
      refine⟨fun f3 rn V_ eG Gt IU IN n5=>?_,?_⟩
      ·
       have jd:HI M w rn (fL++eG):=(by have h_:HI M w rn (fL++(eG)):=n5;exact h_)
       refine mv J (Gt 9 J) ?_
       exact⟨_,J,⟨J,jW⟩,jd⟩
      refine⟨fun f4 zL V_ eG gN Sl nt lO=>?_,?_⟩
      ·
       have qp:HI M w zL (fL++eG):=(by have h_:HI M w zL (fL++(eG)):=lO;exact h_)
       refine mv J (gN 10 J) ?_
       exact⟨_,J,J,qp⟩
      refine⟨fun f5 tP V_ eG Ad yI Ei rX=>?_,?_⟩
      ·
       obtain⟨e0,q0⟩:=yI 2 _ rfl rfl rfl
       have e1:V_ 2=sL a3 (dv U x0.1 x0.2 x1) c3:=q0
       have lu:f5 53=sL a3 (dv U x0.1 x0.2 x1) c3:=e0.trans e1
       have lA:HI M w tP (fL++eG):=(by have h_:HI M w tP (fL++(eG)):=rX;exact h_)
       refine ia (lA.rv 0 J) J J lu J aj cS aS ?_
       intro pq x4 Ab ud
       obtain rfl:x3=x4:=amE (qI.symm.trans Ab)
       have Dm:=lA.put (it:=ra pq x3) J ud
       have kE:HI M w tP ((ra pq x3::fL)++eG):=Dm
       have yj:=HI.aN (l:=(ra pq x3::fL)) (l':=[eP,dZ,J9,J8,J6,J2,J3,J4,J7,J0,ra pq x3]) (t:=eG) kE [1,2,3,4,5,6,7,8,9,10,0] au J J
       exact⟨_,J,⟨pq,J⟩,yj⟩
      refine⟨fun f6 uV V_ eG Xp Ek Eh nn=>?_,?_⟩
      ·
       obtain⟨e2,q1⟩:=Ek 3 _ rfl rfl rfl
       obtain⟨ue,e3⟩:∃(ue:Addr),V_ 3=.pointer (some ue):=q1
       have mQ:f6 54=.pointer (some ue):=e2.trans e3
       have zf:HI M w uV ([iL a3 (dv U x0.1 x0.2 x1) c3,oL w 3 a2 (aY (gf U) (cF U (j_:Int))) c2,box ba #[I x0.1,sL a1 x0.2 c1] 26,iL a1 x0.2 c1,box eK #[.slice aC aD aB,sL aw U av,sL ay fo ax,I cn,sL dB cr dA,sL a0 (eX U fo) c0] 80,iL aw U av,iL ay fo ax,iL dB cr dA,oL w 26 a0 (eX U fo) c0,box aZ #[I 0,I 0,I 0,I 0,I 0,.slice none 0 0,I 0,I 0] 33,ra ue x3]++eG):=(by have h_:HI M w uV ([iL a3 (dv U x0.1 x0.2 x1) c3,oL w 3 a2 (aY (gf U)<|cF U (j_:Int)) c2,box ba #[I x0.1,sL a1 x0.2 c1] 26,iL a1 x0.2 c1,box eK #[.slice aC aD aB,sL aw U av,sL ay fo ax,I cn,sL dB cr dA,sL a0 (eX U fo) c0] 80,iL aw U av,iL ay fo ax,iL dB cr dA,oL w 26 a0 (eX U fo) c0,box aZ #[I 0,I 0,I 0,I 0,I 0,.slice none 0 0,I 0,I 0] 33]++([ra (vP<|V_ 3) x3]++(eG))):=nn;rw[e3] at h_;exact h_)
       refine mV (zf.atv 10 J).w aS J mQ ?_
       intro rA
       exact⟨_,J,⟨J,rA⟩,(by have h_:=zf;rw[show (ue:Addr)=(vP<|V_ 3) from by rw[e3]<;>rfl] at h_;exact h_)⟩
      refine⟨fun f7 yl V_ eG hs5 Ou hq5 ze=>?_,?_⟩
      ·
       have qo:HI M w yl (fL++eG):=(by have h_:HI M w yl (fL++(eG)):=ze;exact h_)
       refine fa oT J (hs5 11 J) ?_
       exact⟨_,J,J,qo⟩
      refine⟨fun f8 zK V_ eG hs6 IT hq6 Jm=>?_,?_⟩
      ·
       obtain⟨e4,q2⟩:=IT 0 _ rfl rfl rfl
       have e5:V_ 0=I (j_:Int):=q2
       have mP:f8 51=I (j_:Int):=e4.trans e5
       obtain⟨e6,q3⟩:=IT 5 _ rfl rfl rfl
       have e7:V_ 5=pV bL 4:=q3
       have nM:f8 56=pV bL 4:=e6.trans e7
       have H46:HI M w zK (lz++eG):=(by have h_:HI M w zK (fL++([gp]++(eG))):=Jm;exact h_)
       refine bw H46 10 J aS J J nM mP J J J ?_
       intro Kg (H47:HI M w Kg ([eP,dZ,J9,J8,J6,J2,J3,J4,J7,J0,box bL #[I kd,I (-1),I (-1),I (-1),I (j_:Int),.slice none 0 0,I (-1),I (-1)] 33]++eG))
       exact⟨undef,J,trivial,H47⟩
      refine⟨fun f9 FT V_ eG hs7 IS hq7 H49=>?_,?_⟩
      ·
       have H50:HI M w FT (fL++eG):=(by have h_:HI M w FT (fL++(eG)):=H49;exact h_)
       refine fa rT J (hs7 11 J) ?_
       exact⟨_,J,J,H50⟩
      refine⟨fun f10 Q1 V_ eG Xo BE hq8 H52=>?_,?_⟩
      ·
       obtain⟨e8,q4⟩:=BE 1 _ rfl rfl rfl
       obtain⟨e9,oJ⟩:V_ 1=I x1∧aL (x1):=q4
       have pG:f10 52=I x1:=e8.trans e9
       obtain⟨Th,q5⟩:=BE 7 _ rfl rfl rfl
       have rV:V_ 7=pV bL 1:=q5
       have rI:f10 57=pV bL 1:=Th.trans rV
       let fQ:=box bL #[I kd,I (-1),I (-1),I (-1),I (j_:Int),.slice none 0 0,I (-1),I (-1)] 33
       have H53:HI M w Q1 ([eP,dZ,J9,J8,J6,J2,J3,J4,J7,J0,fQ]++eG):=(by have h_:HI M w Q1 (fL++([fQ]++(eG))):=H52;exact h_)
       refine bw H53 10 J aS J J rI pG J J J ?_
       intro w24 (H54:HI M w w24 ([eP,dZ,J9,J8,J6,J2,J3,J4,J7,J0,box bL #[I kd,I x1,I (-1),I (-1),I (j_:Int),.slice none 0 0,I (-1),I (-1)] 33]++eG))
       exact⟨undef,J,trivial,H54⟩
      refine⟨fun f11 w25 V_ eG hs9 Ej hq9 H56=>?_,?_⟩
      ·
       have H57:HI M w w25 (fL++eG):=(by have h_:HI M w w25 (fL++(eG)):=H56;exact h_)
       refine fa pO J (hs9 11 J) ?_
       exact⟨_,J,J,H57⟩
      refine⟨fun f12 w26 V_ eG abQ vU alC H59=>?_,?_⟩
      ·
       obtain⟨sP,q6⟩:=vU 4 _ rfl rfl rfl
       obtain⟨rU,nB⟩:V_ 4=I x3∧aL (x3):=q6
       have BA:f12 55=I x3:=sP.trans rU
       obtain⟨tI,q7⟩:=vU 9 _ rfl rfl rfl
       have tH:V_ 9=pV bL 2:=q7
       have Cb:f12 58=pV bL 2:=tI.trans tH
       let iF:=box bL #[I kd,I x1,I (-1),I (-1),I (j_:Int),.slice none 0 0,I (-1),I (-1)] 33
       have H60:HI M w w26 ([eP,dZ,J9,J8,J6,J2,J3,J4,J7,J0,iF]++eG):=(by have h_:HI M w w26 (fL++([iF]++(eG))):=H59;exact h_)
       refine bw H60 10 J aS J J Cb BA J J J ?_
       intro WD (H61:HI M w WD ([eP,dZ,J9,J8,J6,J2,J3,J4,J7,J0,box bL #[I kd,I x1,I x3,I (-1),I (j_:Int),.slice none 0 0,I (-1),I (-1)] 33]++eG))
       exact⟨undef,J,trivial,H61⟩
      exact trivial
     ·
      intro f13 w28 V_ abP Qa H63
      obtain⟨e16,q8⟩:=Qa 3 _ rfl rfl
      obtain⟨tK,e17⟩:∃(tK:Addr),V_ 3=.pointer (some tK):=q8
      have Bz:=(abP 4 J).trans s8
      have F0:f13 11=pV bL 0:=abP 11 J
      have H64:HI M w w28 ([iL a3 (dv U x0.1 x0.2 x1) c3,oL w 3 a2 (aY (gf U) (cF U (j_:Int))) c2,box ba #[I x0.1,sL a1 x0.2 c1] 26,iL a1 x0.2 c1,box eK #[.slice aC aD aB,sL aw U av,sL ay fo ax,I cn,sL dB cr dA,sL a0 (eX U fo) c0] 80,iL aw U av,iL ay fo ax,iL dB cr dA,oL w 26 a0 (eX U fo) c0,box aZ #[I 0,I 0,I 0,I 0,I 0,.slice none 0 0,I 0,I 0] 33,ra tK x3,box bL #[I kd,I x1,I x3,I (-1),I (j_:Int),.slice none 0 0,I (-1),I (-1)] 33]++r):=(by have h_:HI M w w28 ([iL a3 (dv U x0.1 x0.2 x1) c3,oL w 3 a2 (aY (gf U)<|cF U (j_:Int)) c2,box ba #[I x0.1,sL a1 x0.2 c1] 26,iL a1 x0.2 c1,box eK #[.slice aC aD aB,sL aw U av,sL ay fo ax,I cn,sL dB cr dA,sL a0 (eX U fo) c0] 80,iL aw U av,iL ay fo ax,iL dB cr dA,oL w 26 a0 (eX U fo) c0,box aZ #[I 0,I 0,I 0,I 0,I 0,.slice none 0 0,I 0,I 0] 33]++([]++([]++([]++([ra (vP<|V_ 3) x3]++([]++([]++([]++([]++([box bL #[I kd,I x1,I x3,I (-1),I (j_:Int),.slice none 0 0,I (-1),I (-1)] 33]++(r++([])))))))))))):=H63;rw[e17] at h_;rw[anR] at h_;exact h_)
      refine cV<|k<|cI H64 11 J bW J F0 au J<|k<|bw H64 9 J bW J J Bz J J J J ?_
      let pc:=box aZ #[I kd,I x1,I x3,I (-1),I (j_:Int),.slice none 0 0,I (-1),I (-1)] 33
      let mh:=box bL #[I kd,I x1,I x3,I (-1),I (j_:Int),.slice none 0 0,I (-1),I (-1)] 33
      let uf:=[eP,dZ,J9,J8,J6,J2,J3,J4,J7,pc,ra tK x3,mh]
      intro w29 (H65:HI M w w29 (uf++r))
      refine ak (v:=.bool true) J J<|aq<|rt<|bU<|aK<|ee<|bU<|bU<|aK<|ee<|bU<|aK ?_
      have sI:(aY (gf U) (cF U (j_:Int))).find? (B_ U fo ((U.length:Nat):Int) (db U fo (j_:Int)))=some x1:=ac2 gN bV<|by simp only[B_,←zt,←zr,jo aI,jo bV,jb,qI,b0,b1,b2,b3,BL]
      have qP:Ir U fo=some j_:=DO hs Gx<|aaF sI
      refine iA H65 9 J bW J J J Bz J au ?_
      have H66:=HI.aN (l:=uf) (l':=[J6,J2,J3,J4,J7]) (t:=r) H65 [4,5,6,7,8] au J J
      have Tg:(true:Bool)=(sA U fo kd).isSome:=by exact aen qP
      try rw[←Tg]
      refine⟨kd,x1,x3,(-1),(j_:Int),(-1),(-1),a0,c0,?_,?_,(by exact ahb lM qP sI aj bo (by rw[←zt,←zr];assumption) (MG Pr ‹_›))⟩
      · first|rfl|simp only[Tg]|(simp only[amA])
      · first|exact H66|simpa +zetaDelta only[Tg,amA] using H66
    have p3:=dF b3
    refine sk<|aF<|nx<|rg<|k<|add J J kG J aT<|ai (v:=I ((q_:Int)+1)) J J<|z ?_
    have d_:HI M w w7 (jk++r):=HI.aN (l:=fL) (l':=jk) (t:=r) cU [1,2,3,4,5,6,7,8,9] au J J
    refine bG _ ?_ ⟨(q_+1),J,s6,s7,s8,s9,eC,fj,fT,fS,gF,gW,(bN J),d_,aj,(by exact X4 gN bV (by simp only[B_,←zt,←zr,jo aI,jo bV,jb,b0,b1,b2,b3,BL]))⟩
    omega
   have p2:=dF b2
   refine aX J J J b2<|aX J J J b2<|aX J J J b2<|k<|cZ J J J J b2 J<|aq<|nU J J J<|sk<|aF<|nx<|rg<|k<|add J J kG J aT<|ai (v:=I ((q_:Int)+1)) J J<|z ?_
   have d_:HI M w w7 (jk++r):=HI.aN (l:=fL) (l':=jk) (t:=r) cU [1,2,3,4,5,6,7,8,9] au J J
   refine bG _ ?_ ⟨(q_+1),J,s6,s7,s8,s9,eC,fj,fT,fS,gF,gW,(bN J),d_,aj,(by exact X4 gN bV (by simp only[B_,←zt,←zr,jo aI,jo bV,jb,b0,b1,b2,BL]))⟩
   omega
  have p1:=dF b1
  refine ex<|aV<|bf<|bh<|aF<|nx<|rg<|k<|add J J fS J aT<|ai (v:=I ((j_:Int)+1)) J J<|z ?_
  have dx:HI M w w6 (bc++r):=HI.aN (l:=jk) (l':=bc) (t:=r) cB [3,4,5,6,7,8] au J J
  refine bG _ ?_ ⟨(j_+1),J,s6,s7,s8,fj,fT,(bN J),dx,aj,(by exact su hs (YL<|ac3 gN<|by unfold lP;omega))⟩
  omega
 have p0:=dF b0
 refine ex<|aV<|bf<|bh<|cV<|k<|bd (v:=.agg #[I 0,I 0,I 0,I 0,I 0,.slice none 0 0,I 0,I 0]) J eI (fun _=>aU)<|k<|bw H4 5 J bW J J s2 J J J J ?_
 intro w3 (H5:HI M w w3 (bc++r))
 refine ak (v:=.bool false) J J<|aq<|rt ?_
 have qP:Ir U fo=none:=Bg hs<|by rw[AN] at p0;omega
 refine iA H5 5 J bW J J J s2 J au ?_
 have H6:=HI.aN (l:=bc) (l':=[J6,J2,J3,J4,J7]) (t:=r) H5 [0,1,2,3,4] au J J
 have e0:(false:Bool)=(sA U fo kd).isSome:=by rw[WU qP];rfl
 try rw[←e0]
 refine⟨0,0,0,0,0,0,0,a0,c0,?_,?_,(by exact ui (WU qP) Nv)⟩
 · first|rfl|simp only[e0]|(simp only[amA])
 · first|exact H6|simpa +zetaDelta only[e0,amA] using H6
theorem acS:cH aJ 31:=cN Tryz.func31
theorem Qp:cH aJ 32:=cN Tryz.func32
theorem ES:aJ.underlying 82=some (.slice 81):=aU
theorem sY:ey aJ 81 1 false 8 (.nilFunc):=⟨aU,aU⟩
theorem aiD:cH aJ 33:=cN Tryz.func33
theorem aiC:cH aJ 34:=cN Tryz.func34
theorem aiB:cH aJ 35:=cN Tryz.func35
theorem aiA:cH aJ 36:=cN Tryz.func36
theorem aiz:cH aJ 37:=cN Tryz.func37
theorem aiy:cH aJ 38:=cN Tryz.func38
theorem aix:cH aJ 39:=cN Tryz.func39
theorem Mw (hM:eU M w) (hT:fW 0 w) (dG:cL M w aw av U) (gl:cL M w ay ax fo) (mZ:aL lv) (ho:hG U) (dC:U.length≤64) (eD:fo.length=U.length) (fK:∀x∈fo,x<((U.length:Nat):Int)) (LK:lv=1∨lv=2∨lv=3):Calls aJ 16 #[.agg #[.slice aC aD aB,sL aw U av,sL ay fo ax],I lv] w (cA fun v w'=>∃(k_:Int) (r_:Int) (a_:Int) (b_:Int) (o_:Int) (f_:Int) (s_:Int),v=.tuple #[.agg #[I k_,I r_,I a_,I b_,I o_,.slice none 0 0,I f_,I s_],I (fh U fo lv)]∧Ext w w'∧ql (je U fo lv) k_ r_ a_ b_ o_):=by
 refine dH 57 Tryz.func16 J J J hM fun f0 ha H=>?_
 let J0:=iL aw U av
 have H0:=H.put (it:=J0) J<|by rw[bS];exact dG
 let J1:=iL ay fo ax
 have H1:=H0.put (it:=J1) J<|by rw[aH rfl,bS];exact gl
 have iS:=bl dG
 have kM:=bl gl
 have i0:f0 0=.agg #[.slice aC aD aB,sL aw U av,sL ay fo ax]:=ha 0 bm
 have i1:f0 1=I lv:=ha 1 bm
 have kY:bI ((U.length:Nat):Int) (cC U fo)=true:=pB fo aj
 have ahO:=R6 (lv:=lv)
 refine az<|k<|bx H1 J i0 ?_
 let bc:=[J1,J0]
 intro aZ w0 bY (H2:HI M w w0 (box aZ #[.slice aC aD aB,sL aw U av,sL ay fo ax] 47::bc))
 let J2:=box aZ #[.slice aC aD aB,sL aw U av,sL ay fo ax] 47
 refine k<|al H2 bW ?_
 let ck:=J2::bc
 intro ba w1 dy (H3:HI M w w1 (box ba #[I 0,I 0,I 0,I 0,I 0,.slice none 0 0,I 0,I 0] 33::ck))
 let J3:=box ba #[I 0,I 0,I 0,I 0,I 0,.slice none 0 0,I 0,I 0] 33
 refine ak (v:=I 0) J J<|bz<|ai J i1<|k ?_
 have bT:=Jd (lv:=lv) H3.mb mZ
 refine ca acS J (ec J e0) bT ?_
 rintro _ w2 ⟨a0,c0,rfl,fe,cE⟩
 have H4:=H3.eS cE
 refine ak (v:=sL a0 (dS lv) c0) J J<|aq<|sq<|az<|ai (v:=sL a0 (dS lv) c0) J J<|k<|S9 J J J J cS<|aq<|nU J J (Bool.eq_false_iff.2 fun h_=>U_ LK (NT (H4.at_ 0 J) h_))<|sk<|nx<|sq<|ma [.r,.r,.r,.r,.e,.e] (fun _=>True) J aU (fun _ _=>trivial)<|yq J J<|kq (fun _ x_=>cI (H4.ext x_) 2 J ej J J au J e1)<|bQ<|kq (fun _ x_=>cI (H4.ext x_) 2 J ej J J au J e1)<|zq<|yu J (fun _ v w'=>∃(a1:OA) (c1:Nat),v=.agg #[I (U.length:Int),sL a1 (cC U fo) c1]∧RV H4.gh w' (sL a1 (cC U fo) c1) (cC U fo)) J od J (fun v_ _ x_ _=>have fP:=Bo (U:=U) (fo:=fo) (aC:=aC) (aD:=aD) (aB:=aB) (w:=v_) (H4.ext x_).mb ((H4.ext x_).rv 4 rfl) ((H4.ext x_).rv 3 rfl) (by exact ho) aj (by exact eD) (by exact fK);ca Qp rfl (ec J e0) fP (fun _ w4 ⟨a2,c2,e_,iz,ei⟩=>⟨_,J,iz,⟨a2,c2,e_,ei⟩⟩))<|lE J (fun _ v w'=>∃(a3:OA) (c3:Nat),v=.agg #[.slice aC aD aB,sL aw U av,sL ay fo ax,I (U.length:Int),sL a3 (cC U fo) c3,.slice none 0 0]∧RV H4.gh w' (sL a3 (cC U fo) c3) (cC U fo)) 0 J J od J (fun _ _ _ _ _ h_=>let ⟨a4,c4,s0,ja⟩:=h_;bd (v:=.agg #[.slice aC aD aB,sL aw U av,sL ay fo ax,I (U.length:Int),sL a4 (cC U fo) c4,.slice none 0 0]) rfl (cz J<|cz s0 eI) (fun _=>aU) ⟨_,J,Ext.refl _,⟨a4,c4,J,ja⟩⟩)<|ye<|ye<|yz ?_
 intro w5 f0 _ jh _ _ cK iK
 have dx:=H4.ext jh
 have s1:=cK 4 J
 have s2:=cK 6 J
 obtain⟨a5,c5,s3,jW⟩:=iK 0 _ _ rfl
 let J4:=iL a5 (cC U fo) c5
 have dI:=dx.put (it:=J4) J jW
 refine j8<|bx dI J s3 ?_
 let J5:=oL w 3 a0 (dS lv) c0
 let dY:=J4::J5::J3::ck
 intro bL w6 ki (cU:HI M w w6 (box bL #[.slice aC aD aB,sL aw U av,sL ay fo ax,I (U.length:Int),sL a5 (cC U fo) c5,.slice none 0 0] 80::dY))
 refine j8<|jy (v:=pV bL 0) J J<|kz<|cV<|ai (v:=pV bL 0) J J<|k<|Lg J J<|ai (v:=pV bL 0) J J<|k<|Lg J J<|ai (v:=pV bL 0) J J<|k<|Lg J J<|ai (v:=pV bL 0) J J<|k<|Lg J J<|ai (v:=pV bL 0) J J<|k<|Lg J J<|ai (v:=pV bL 0) J J<|k<|Lg J J<|ai (v:=pV bL 0) J J<|k<|Lg J J<|k<|bsB (cells:=#[.nilFunc,.func (.func 33) #[pV bL 0] #[],.func (.func 34) #[pV bL 0] #[],.func (.func 35) #[pV bL 0] #[],.func (.func 36) #[pV bL 0] #[],.func (.func 37) #[pV bL 0] #[],.func (.func 38) #[pV bL 0] #[],.func (.func 39) #[pV bL 0] #[]]) (e:=81) cU J (cz J<|cz J<|cz J<|cz J<|cz J<|cz J<|cz J<|cz J eI) (fun _=>aU) ?_
 intro g0 w7 mA (d_:HI M w w7 (box g0 #[.nilFunc,.func (.func 33) #[pV bL 0] #[],.func (.func 34) #[pV bL 0] #[],.func (.func 35) #[pV bL 0] #[],.func (.func 36) #[pV bL 0] #[],.func (.func 37) #[pV bL 0] #[],.func (.func 38) #[pV bL 0] #[],.func (.func 39) #[pV bL 0] #[]] 81::box bL #[.slice aC aD aB,sL aw U av,sL ay fo ax,I (U.length:Int),sL a5 (cC U fo) c5,.slice none 0 0] 80::dY))
 let J6:=box g0 #[.nilFunc,.func (.func 33) #[pV bL 0] #[],.func (.func 34) #[pV bL 0] #[],.func (.func 35) #[pV bL 0] #[],.func (.func 36) #[pV bL 0] #[],.func (.func 37) #[pV bL 0] #[],.func (.func 38) #[pV bL 0] #[],.func (.func 39) #[pV bL 0] #[]] 81
 refine ak (v:=.slice (some ⟨g0,0,none⟩) 8 8) J J<|aq<|sq<|az<|ai J s2<|k<|ef J J cS<|ai (v:=I 0) J J<|aq<|bk ?_
 have dD:=d_.rB (Int×(List<|List bt)) 26
 refine lp (fun m f w'=>∃(j_:Nat) (iW:List (Int×(List<|List bt))) (a6:OA) (c6:Nat),m=(dS lv).length-j_∧f 4=pV ba 0∧f 7=pV bL 0∧f 8=.slice (some ⟨g0,0,none⟩) 8 8∧f 38=sL a0 (dS lv) c0∧f 39=I ((dS lv).length:Int)∧f 40=I (j_:Int)∧HI M w w' (oL w 26 a6 iW c6::J6::box bL #[.slice aC aD aB,sL aw U av,sL ay fo ax,I (U.length:Int),sL a5 (cC U fo) c5,sL a6 iW c6] 80::dY)∧(j_≤(dS lv).length)∧(a6=none∧iW=[]∨iW=eX U fo)∧(∀y∈(dS lv).take j_,kc U fo y=none)) _ ⟨0,([]:List (Int×(List<|List bt))),none,0,J,s1,J,J,J,J,(bN J),dD,aj,(by exact Or.inl ⟨J,J⟩),(by intro y h;simp at h)⟩ ?_
 rintro _ f1 w8 ⟨j_,iW,a6,c6,rfl,s4,s5,s6,s7,s8,s9,cY,pk,Fj,hs⟩
 refine az<|k<|lss J J s9 s8<|aq<|sq<|cd (b:=decide ((j_:Int)<((dS lv).length:Int))) J J (fun b0=>?_)<|fun b0=>?_
 ·
  have p0:=dT b0
  refine sk<|nx<|sq<|bk<|az<|k<|iq (cY.at_ 4 J) J J s7 s9 aj cS aS ?_
  intro g1 x0 iC aI cD
  refine k<|mV cD aS J J ?_
  intro iH
  refine ak (v:=I x0) J J<|aq<|sq ?_
  rcases (show x0=1∨x0=2∨x0=3∨x0=4∨x0=5∨x0=6∨x0=7 from by exact Lq (dN aI)) with rfl|rfl|rfl|rfl|rfl|rfl|rfl
  ·
   refine rg<|ai J s6<|ai (v:=I 1) J J<|k<|Lx J J J J 1 J au ES sY<|bq cY 1 J sY J J J<|ai (v:=I 1) J J<|k ?_
   have ff:=Wo (U:=U) (fo:=fo) (cn:=(U.length:Int)) (cr:=(cC U fo)) (kd:=1) (w:=w8) (M:=fun _=>False) (fun _ h_=>h_.elim) ((cY.rv 8 J).lift (Up.less fun _ _ h_=>h_.elim)) ((cY.rv 7 J).lift (Up.less fun _ _ h_=>h_.elim)) aT ((cY.rv 3 J).lift (Up.less fun _ _ h_=>h_.elim)) bo ⟨cY.at_ 2 rfl,fun h_=>h_⟩
   refine Ml aiD J J J (ec J e0) ff ?_
   rintro _ w9 ⟨o0,o1,o2,o3,o4,o5,o6,rfl,og,q0⟩
   have dW:=cY.ext og
   refine ai (v:=.tuple #[.agg #[I o0,I o1,I o2,I o3,I o4,.slice none 0 0,I o5,I o6],.bool ((pt fo 1).isSome)]) J J<|k<|xt J J J<|k<|xt J J J<|k<|al dW bW ?_
   let J7:=box bL #[.slice aC aD aB,sL aw U av,sL ay fo ax,I (U.length:Int),sL a5 (cC U fo) c5,sL a6 iW c6] 80
   let jk:=oL w 26 a6 iW c6::J6::J7::dY
   intro fq dP BY (dQ:HI M w dP (box fq #[I 0,I 0,I 0,I 0,I 0,.slice none 0 0,I 0,I 0] 33::jk))
   refine k<|bw dQ 0 J bW J J J J J J J ?_
   let J8:=box fq #[I o0,I o1,I o2,I o3,I o4,.slice none 0 0,I o5,I o6] 33
   intro eB (cQ:HI M w eB (J8::jk))
   refine ak (v:=.bool ((pt fo 1).isSome)) J J<|bz<|ai (v:=.bool ((pt fo 1).isSome)) J J<|z<|nx<|cd (b:=(pt fo 1).isSome) J J (fun b1=>?_)<|fun b1=>?_
   ·
    refine az<|k<|cI cQ 0 J bW J J au J<|k<|bw cQ 6 J bW J J s4 J J J J ?_
    intro fE (eh:HI M w fE [J8,oL w 26 a6 iW c6,J6,J7,J4,J5,box ba #[I o0,I o1,I o2,I o3,I o4,.slice none 0 0,I o5,I o6] 33,J2,J1,J0])
    refine ak (v:=I 0) J J<|aq<|rt<|bU<|aK<|ee<|bU<|aK<|iA eh 6 J bW J J J s4 J au ?_
    have e8:(0:Int)=fh U fo lv:=by exact sx (nQ hs aI UG bo) bo
    have bu:=iD (fun (lF:Int)=>(.tuple #[.agg #[I o0,I o1,I o2,I o3,I o4,.slice none 0 0,I o5,I o6],I lF]:Value)) e8
    exact⟨o0,o1,o2,o3,o4,o5,o6,bu,eh.below,(by exact xe (nQ hs aI UG bo) bo)⟩
   refine sk<|aF<|nx<|rg<|k<|add J J s9 J aT<|ai (v:=I ((j_:Int)+1)) J J<|z ?_
   have eh:=cQ.put (it:=J4) J<|cQ.rv 4 J
   have dO:=eh.put (it:=J1) J<|eh.rv 9 J
   have fg:=dO.put (it:=J0) J<|dO.rv 11 J
   have fz:HI M w eB jk:=fg.bZ [4,5,6,2,8,9,10,1,0] au J
   refine bG _ ?_ ⟨(j_+1),iW,a6,c6,J,s4,s5,s6,s7,s8,(bN J),fz,aj,(by exact Fj),(by exact AT hs aI UG bo)⟩
   omega
  ·
   refine rg<|ai J s6<|ai (v:=I 2) J J<|k<|Lx J J J J 2 J au ES sY<|bq cY 1 J sY J J J<|ai (v:=I 2) J J<|k ?_
   have ff:=TL (cn:=(U.length:Int)) (cr:=(cC U fo)) (kd:=2) (w:=w8) (M:=fun _=>False) (fun _ h_=>h_.elim) aT ((cY.rv 3 J).lift (Up.less fun _ _ h_=>h_.elim)) bo ⟨cY.at_ 2 rfl,fun h_=>h_⟩<|by exact kY
   refine Ml aiC J J J (ec J e0) ff ?_
   rintro _ w9 ⟨o0,o1,o2,o3,o4,o5,o6,rfl,og,q0⟩
   have dW:=cY.ext og
   refine ai (v:=.tuple #[.agg #[I o0,I o1,I o2,I o3,I o4,.slice none 0 0,I o5,I o6],.bool ((kb (U.length:Int) (cC U fo) 2).isSome)]) J J<|k<|xt J J J<|k<|xt J J J<|k<|al dW bW ?_
   let J9:=box bL #[.slice aC aD aB,sL aw U av,sL ay fo ax,I (U.length:Int),sL a5 (cC U fo) c5,sL a6 iW c6] 80
   let fL:=oL w 26 a6 iW c6::J6::J9::dY
   intro fq dP BY (dQ:HI M w dP (box fq #[I 0,I 0,I 0,I 0,I 0,.slice none 0 0,I 0,I 0] 33::fL))
   refine k<|bw dQ 0 J bW J J J J J J J ?_
   let dZ:=box fq #[I o0,I o1,I o2,I o3,I o4,.slice none 0 0,I o5,I o6] 33
   intro eB (cQ:HI M w eB (dZ::fL))
   refine ak (v:=.bool ((kb (U.length:Int) (cC U fo) 2).isSome)) J J<|bz<|ai (v:=.bool ((kb (U.length:Int) (cC U fo) 2).isSome)) J J<|z<|nx<|cd (b:=(kb (U.length:Int) (cC U fo) 2).isSome) J J (fun b1=>?_)<|fun b1=>?_
   ·
    refine az<|k<|cI cQ 0 J bW J J au J<|k<|bw cQ 6 J bW J J s4 J J J J ?_
    intro fE (eh:HI M w fE [dZ,oL w 26 a6 iW c6,J6,J9,J4,J5,box ba #[I o0,I o1,I o2,I o3,I o4,.slice none 0 0,I o5,I o6] 33,J2,J1,J0])
    refine ak (v:=I 0) J J<|aq<|rt<|bU<|aK<|ee<|bU<|aK<|iA eh 6 J bW J J J s4 J au ?_
    have e8:(0:Int)=fh U fo lv:=by exact sx (nQ hs aI UF bo) bo
    have bu:=iD (fun (lF:Int)=>(.tuple #[.agg #[I o0,I o1,I o2,I o3,I o4,.slice none 0 0,I o5,I o6],I lF]:Value)) e8
    exact⟨o0,o1,o2,o3,o4,o5,o6,bu,eh.below,(by exact xe (nQ hs aI UF bo) bo)⟩
   refine sk<|aF<|nx<|rg<|k<|add J J s9 J aT<|ai (v:=I ((j_:Int)+1)) J J<|z ?_
   have eh:=cQ.put (it:=J4) J<|cQ.rv 4 J
   have dO:=eh.put (it:=J1) J<|eh.rv 9 J
   have fg:=dO.put (it:=J0) J<|dO.rv 11 J
   have fz:HI M w eB fL:=fg.bZ [4,5,6,2,8,9,10,1,0] au J
   refine bG _ ?_ ⟨(j_+1),iW,a6,c6,J,s4,s5,s6,s7,s8,(bN J),fz,aj,(by exact Fj),(by exact AT hs aI UF bo)⟩
   omega
  ·
   refine rg<|ai J s6<|ai (v:=I 3) J J<|k<|Lx J J J J 3 J au ES sY<|bq cY 1 J sY J J J<|ai (v:=I 3) J J<|k ?_
   have ff:=TK (U:=U) (fo:=fo) (cn:=(U.length:Int)) (cr:=(cC U fo)) (kd:=3) (w:=w8) (M:=fun _=>False) (fun _ h_=>h_.elim) (hT.ext cY.below) ((cY.rv 8 J).lift (Up.less fun _ _ h_=>h_.elim)) ((cY.rv 7 J).lift (Up.less fun _ _ h_=>h_.elim)) aT ((cY.rv 3 J).lift (Up.less fun _ _ h_=>h_.elim)) bo ⟨cY.at_ 2 rfl,fun h_=>h_⟩ (by exact kY)<|by exact eD
   refine Ml aiB J J J (ec J e0) ff ?_
   rintro _ w9 ⟨o0,o1,o2,o3,o4,o5,o6,rfl,og,q0⟩
   have dW:=cY.ext og
   refine ai (v:=.tuple #[.agg #[I o0,I o1,I o2,I o3,I o4,.slice none 0 0,I o5,I o6],.bool ((qd U fo (U.length:Int) (cC U fo) 3).isSome)]) J J<|k<|xt J J J<|k<|xt J J J<|k<|al dW bW ?_
   let eP:=box bL #[.slice aC aD aB,sL aw U av,sL ay fo ax,I (U.length:Int),sL a5 (cC U fo) c5,sL a6 iW c6] 80
   let lz:=oL w 26 a6 iW c6::J6::eP::dY
   intro fq dP BY (dQ:HI M w dP (box fq #[I 0,I 0,I 0,I 0,I 0,.slice none 0 0,I 0,I 0] 33::lz))
   refine k<|bw dQ 0 J bW J J J J J J J ?_
   let gp:=box fq #[I o0,I o1,I o2,I o3,I o4,.slice none 0 0,I o5,I o6] 33
   intro eB (cQ:HI M w eB (gp::lz))
   refine ak (v:=.bool ((qd U fo (U.length:Int) (cC U fo) 3).isSome)) J J<|bz<|ai (v:=.bool ((qd U fo (U.length:Int) (cC U fo) 3).isSome)) J J<|z<|nx<|cd (b:=(qd U fo (U.length:Int) (cC U fo) 3).isSome) J J (fun b1=>?_)<|fun b1=>?_
   ·
    refine az<|k<|cI cQ 0 J bW J J au J<|k<|bw cQ 6 J bW J J s4 J J J J ?_
    intro fE (eh:HI M w fE [gp,oL w 26 a6 iW c6,J6,eP,J4,J5,box ba #[I o0,I o1,I o2,I o3,I o4,.slice none 0 0,I o5,I o6] 33,J2,J1,J0])
    refine ak (v:=I 0) J J<|aq<|rt<|bU<|aK<|ee<|bU<|aK<|iA eh 6 J bW J J J s4 J au ?_
    have e8:(0:Int)=fh U fo lv:=by exact sx (nQ hs aI UE bo) bo
    have bu:=iD (fun (lF:Int)=>(.tuple #[.agg #[I o0,I o1,I o2,I o3,I o4,.slice none 0 0,I o5,I o6],I lF]:Value)) e8
    exact⟨o0,o1,o2,o3,o4,o5,o6,bu,eh.below,(by exact xe (nQ hs aI UE bo) bo)⟩
   refine sk<|aF<|nx<|rg<|k<|add J J s9 J aT<|ai (v:=I ((j_:Int)+1)) J J<|z ?_
   have eh:=cQ.put (it:=J4) J<|cQ.rv 4 J
   have dO:=eh.put (it:=J1) J<|eh.rv 9 J
   have fg:=dO.put (it:=J0) J<|dO.rv 11 J
   have fz:HI M w eB lz:=fg.bZ [4,5,6,2,8,9,10,1,0] au J
   refine bG _ ?_ ⟨(j_+1),iW,a6,c6,J,s4,s5,s6,s7,s8,(bN J),fz,aj,(by exact Fj),(by exact AT hs aI UE bo)⟩
   omega
  ·
   refine rg<|ai J s6<|ai (v:=I 4) J J<|k<|Lx J J J J 4 J au ES sY<|bq cY 1 J sY J J J<|ai (v:=I 4) J J<|k ?_
   have ff:=Np (U:=U) (fo:=fo) (cn:=(U.length:Int)) (cr:=(cC U fo)) (kd:=4) (w:=w8) (M:=fun _=>False) (fun _ h_=>h_.elim) (hT.ext cY.below) ((cY.rv 8 J).lift (Up.less fun _ _ h_=>h_.elim)) ((cY.rv 7 J).lift (Up.less fun _ _ h_=>h_.elim)) aT ((cY.rv 3 J).lift (Up.less fun _ _ h_=>h_.elim)) bo ⟨cY.at_ 2 rfl,fun h_=>h_⟩ (by exact kY)<|by exact eD
   refine Ml aiA J J J (ec J e0) ff ?_
   rintro _ w9 ⟨o0,o1,o2,o3,o4,o5,o6,rfl,og,q0⟩
   have dW:=cY.ext og
   refine ai (v:=.tuple #[.agg #[I o0,I o1,I o2,I o3,I o4,.slice none 0 0,I o5,I o6],.bool ((qe U fo (U.length:Int) (cC U fo) 4).isSome)]) J J<|k<|xt J J J<|k<|xt J J J<|k<|al dW bW ?_
   let fQ:=box bL #[.slice aC aD aB,sL aw U av,sL ay fo ax,I (U.length:Int),sL a5 (cC U fo) c5,sL a6 iW c6] 80
   let uf:=oL w 26 a6 iW c6::J6::fQ::dY
   intro fq dP BY (dQ:HI M w dP (box fq #[I 0,I 0,I 0,I 0,I 0,.slice none 0 0,I 0,I 0] 33::uf))
   refine k<|bw dQ 0 J bW J J J J J J J ?_
   let iF:=box fq #[I o0,I o1,I o2,I o3,I o4,.slice none 0 0,I o5,I o6] 33
   intro eB (cQ:HI M w eB (iF::uf))
   refine ak (v:=.bool ((qe U fo (U.length:Int) (cC U fo) 4).isSome)) J J<|bz<|ai (v:=.bool ((qe U fo (U.length:Int) (cC U fo) 4).isSome)) J J<|z<|nx<|cd (b:=(qe U fo (U.length:Int) (cC U fo) 4).isSome) J J (fun b1=>?_)<|fun b1=>?_
   ·
    refine az<|k<|cI cQ 0 J bW J J au J<|k<|bw cQ 6 J bW J J s4 J J J J ?_
    intro fE (eh:HI M w fE [iF,oL w 26 a6 iW c6,J6,fQ,J4,J5,box ba #[I o0,I o1,I o2,I o3,I o4,.slice none 0 0,I o5,I o6] 33,J2,J1,J0])
    refine ak (v:=I 0) J J<|aq<|rt<|bU<|aK<|ee<|bU<|aK<|iA eh 6 J bW J J J s4 J au ?_
    have e8:(0:Int)=fh U fo lv:=by exact sx (nQ hs aI UD bo) bo
    have bu:=iD (fun (lF:Int)=>(.tuple #[.agg #[I o0,I o1,I o2,I o3,I o4,.slice none 0 0,I o5,I o6],I lF]:Value)) e8
    exact⟨o0,o1,o2,o3,o4,o5,o6,bu,eh.below,(by exact xe (nQ hs aI UD bo) bo)⟩
   refine sk<|aF<|nx<|rg<|k<|add J J s9 J aT<|ai (v:=I ((j_:Int)+1)) J J<|z ?_
   have eh:=cQ.put (it:=J4) J<|cQ.rv 4 J
   have dO:=eh.put (it:=J1) J<|eh.rv 9 J
   have fg:=dO.put (it:=J0) J<|dO.rv 11 J
   have fz:HI M w eB uf:=fg.bZ [4,5,6,2,8,9,10,1,0] au J
   refine bG _ ?_ ⟨(j_+1),iW,a6,c6,J,s4,s5,s6,s7,s8,(bN J),fz,aj,(by exact Fj),(by exact AT hs aI UD bo)⟩
   omega
  ·
   refine rg<|ai J s6<|ai (v:=I 5) J J<|k<|Lx J J J J 5 J au ES sY<|bq cY 1 J sY J J J<|ai (v:=I 5) J J<|k ?_
   have ff:=Mv (U:=U) (fo:=fo) (cn:=(U.length:Int)) (cr:=(cC U fo)) (kd:=5) (w:=w8) (M:=fun _=>False) (fun _ h_=>h_.elim) (hT.ext cY.below) ((cY.rv 8 J).lift (Up.less fun _ _ h_=>h_.elim)) ((cY.rv 7 J).lift (Up.less fun _ _ h_=>h_.elim)) aT ((cY.rv 3 J).lift (Up.less fun _ _ h_=>h_.elim)) bo ⟨cY.at_ 2 rfl,fun h_=>h_⟩ (by exact ho) (by exact dC) (by exact eD) (by exact fK) aj<|by rfl
   refine Ml aiz J J J (ec J e0) ff ?_
   rintro _ w9 ⟨o0,o1,o2,o3,o4,o5,o6,rfl,og,q0⟩
   have dW:=cY.ext og
   refine ai (v:=.tuple #[.agg #[I o0,I o1,I o2,I o3,I o4,.slice none 0 0,I o5,I o6],.bool ((kb ((U.length:Nat):Int) (Ar U fo) 5).isSome)]) J J<|k<|xt J J J<|k<|xt J J J<|k<|al dW bW ?_
   let pc:=box bL #[.slice aC aD aB,sL aw U av,sL ay fo ax,I (U.length:Int),sL a5 (cC U fo) c5,sL a6 iW c6] 80
   let Df:=oL w 26 a6 iW c6::J6::pc::dY
   intro fq dP BY (dQ:HI M w dP (box fq #[I 0,I 0,I 0,I 0,I 0,.slice none 0 0,I 0,I 0] 33::Df))
   refine k<|bw dQ 0 J bW J J J J J J J ?_
   let mh:=box fq #[I o0,I o1,I o2,I o3,I o4,.slice none 0 0,I o5,I o6] 33
   intro eB (cQ:HI M w eB (mh::Df))
   refine ak (v:=.bool ((kb ((U.length:Nat):Int) (Ar U fo) 5).isSome)) J J<|bz<|ai (v:=.bool ((kb ((U.length:Nat):Int) (Ar U fo) 5).isSome)) J J<|z<|nx<|cd (b:=(kb ((U.length:Nat):Int) (Ar U fo) 5).isSome) J J (fun b1=>?_)<|fun b1=>?_
   ·
    refine az<|k<|cI cQ 0 J bW J J au J<|k<|bw cQ 6 J bW J J s4 J J J J ?_
    intro fE (eh:HI M w fE [mh,oL w 26 a6 iW c6,J6,pc,J4,J5,box ba #[I o0,I o1,I o2,I o3,I o4,.slice none 0 0,I o5,I o6] 33,J2,J1,J0])
    refine ak (v:=I 0) J J<|aq<|rt<|bU<|aK<|ee<|bU<|aK<|iA eh 6 J bW J J J s4 J au ?_
    have e8:(0:Int)=fh U fo lv:=by exact sx (nQ hs aI UC bo) bo
    have bu:=iD (fun (lF:Int)=>(.tuple #[.agg #[I o0,I o1,I o2,I o3,I o4,.slice none 0 0,I o5,I o6],I lF]:Value)) e8
    exact⟨o0,o1,o2,o3,o4,o5,o6,bu,eh.below,(by exact xe (nQ hs aI UC bo) bo)⟩
   refine sk<|aF<|nx<|rg<|k<|add J J s9 J aT<|ai (v:=I ((j_:Int)+1)) J J<|z ?_
   have eh:=cQ.put (it:=J4) J<|cQ.rv 4 J
   have dO:=eh.put (it:=J1) J<|eh.rv 9 J
   have fg:=dO.put (it:=J0) J<|dO.rv 11 J
   have fz:HI M w eB Df:=fg.bZ [4,5,6,2,8,9,10,1,0] au J
   refine bG _ ?_ ⟨(j_+1),iW,a6,c6,J,s4,s5,s6,s7,s8,(bN J),fz,aj,(by exact Fj),(by exact AT hs aI UC bo)⟩
   omega
  ·
   refine rg<|ai J s6<|ai (v:=I 6) J J<|k<|Lx J J J J 6 J au ES sY<|bq cY 1 J sY J J J<|ai (v:=I 6) J J<|k ?_
   have dW:HI M w w8 ([box bL #[.slice aC aD aB,sL aw U av,sL ay fo ax,I (U.length:Int),sL a5 (cC U fo) c5,sL a6 iW c6] 80,J0,J1,J4,oL w 26 a6 iW c6]++[J6,J5,J3,J2]):=cY.bZ [2,8,7,3,0,1,4,5,6] au J
   have ff:=TJ (eK:=bL) (aC:=aC) (aD:=aD) (aB:=aB) (aw:=aw) (av:=av) (U:=U) (ay:=ay) (ax:=ax) (fo:=fo) (cn:=(U.length:Int)) (dB:=a5) (dA:=c5) (cr:=(cC U fo)) (iI:=a6) (jE:=c6) (sw:=iW) (kd:=6) (w:=w) (w_:=w8) (r:=[J6,J5,J3,J2]) (M:=M) aT bo hT (by exact ho) (by exact dC) (by exact eD) (by exact fK) aj (by rfl) (by exact Fj) dW
   refine Ml aiy J J J (ec J e0) ff ?_
   rintro _ w9 ⟨o0,o1,o2,o3,o4,o5,o6,a7,c7,rfl,dQ,q0⟩
   let tM:=box bL #[.slice aC aD aB,sL aw U av,sL ay fo ax,I (U.length:Int),sL a5 (cC U fo) c5,sL a7 (eX U fo) c7] 80
   let jM:=oL w 26 a7 (eX U fo) c7
   let G_:=[tM,J0,J1,J4,jM,J6,J5,J3,J2]
   have cQ:HI M w w9 G_:=dQ
   refine ai (v:=.tuple #[.agg #[I o0,I o1,I o2,I o3,I o4,.slice none 0 0,I o5,I o6],.bool ((sA U fo 6).isSome)]) J J<|k<|xt J J J<|k<|xt J J J<|k<|al cQ bW ?_
   intro fq dP og (eh:HI M w dP (box fq #[I 0,I 0,I 0,I 0,I 0,.slice none 0 0,I 0,I 0] 33::G_))
   refine k<|bw eh 0 J bW J J J J J J J ?_
   let pb:=box fq #[I o0,I o1,I o2,I o3,I o4,.slice none 0 0,I o5,I o6] 33
   intro eB (dO:HI M w eB (pb::G_))
   refine ak (v:=.bool ((sA U fo 6).isSome)) J J<|bz<|ai (v:=.bool ((sA U fo 6).isSome)) J J<|z<|nx<|cd (b:=(sA U fo 6).isSome) J J (fun b1=>?_)<|fun b1=>?_
   ·
    refine az<|k<|cI dO 0 J bW J J au J<|k<|bw dO 8 J bW J J s4 J J J J ?_
    intro fE (fg:HI M w fE [pb,tM,J0,J1,J4,jM,J6,J5,box ba #[I o0,I o1,I o2,I o3,I o4,.slice none 0 0,I o5,I o6] 33,J2])
    refine ak (v:=I 0) J J<|aq<|rt<|bU<|aK<|ee<|bU<|aK<|iA fg 8 J bW J J J s4 J au ?_
    have e8:(0:Int)=fh U fo lv:=by exact sx (nQ hs aI UB bo) bo
    have bu:=iD (fun (lF:Int)=>(.tuple #[.agg #[I o0,I o1,I o2,I o3,I o4,.slice none 0 0,I o5,I o6],I lF]:Value)) e8
    exact⟨o0,o1,o2,o3,o4,o5,o6,bu,fg.below,(by exact xe (nQ hs aI UB bo) bo)⟩
   refine sk<|aF<|nx<|rg<|k<|add J J s9 J aT<|ai (v:=I ((j_:Int)+1)) J J<|z ?_
   have fg:=dO.put (it:=J4) J<|dO.rv 4 J
   have fz:=fg.put (it:=J1) J<|fg.rv 4 J
   have gS:=fz.put (it:=J0) J<|fz.rv 4 J
   have iY:HI M w eB (jM::J6::tM::dY):=gS.bZ [8,9,4,2,10,11,12,1,0] au J
   refine bG _ ?_ ⟨(j_+1),(eX U fo),a7,c7,J,s4,s5,s6,s7,s8,(bN J),iY,aj,(by exact Or.inr rfl),(by exact AT hs aI UB bo)⟩
   omega
  refine rg<|ai J s6<|ai (v:=I 7) J J<|k<|Lx J J J J 7 J au ES sY<|bq cY 1 J sY J J J<|ai (v:=I 7) J J<|k ?_
  have dW:HI M w w8 ([box bL #[.slice aC aD aB,sL aw U av,sL ay fo ax,I (U.length:Int),sL a5 (cC U fo) c5,sL a6 iW c6] 80,J0,J1,J4,oL w 26 a6 iW c6]++[J6,J5,J3,J2]):=cY.bZ [2,8,7,3,0,1,4,5,6] au J
  have ff:=Wn (eK:=bL) (aC:=aC) (aD:=aD) (aB:=aB) (aw:=aw) (av:=av) (U:=U) (ay:=ay) (ax:=ax) (fo:=fo) (cn:=(U.length:Int)) (dB:=a5) (dA:=c5) (cr:=(cC U fo)) (iI:=a6) (jE:=c6) (sw:=iW) (kd:=7) (w:=w) (w_:=w8) (r:=[J6,J5,J3,J2]) (M:=M) aT bo hT (by exact ho) (by exact dC) (by exact eD) (by exact fK) aj (by rfl) (by exact Fj) dW
  refine Ml aix J J J (ec J e0) ff ?_
  rintro _ w9 ⟨o0,o1,o2,o3,o4,o5,o6,a7,c7,rfl,dQ,q0⟩
  let qm:=box bL #[.slice aC aD aB,sL aw U av,sL ay fo ax,I (U.length:Int),sL a5 (cC U fo) c5,sL a7 (eX U fo) c7] 80
  let n3:=oL w 26 a7 (eX U fo) c7
  let EB:=[qm,J0,J1,J4,n3,J6,J5,J3,J2]
  have cQ:HI M w w9 EB:=dQ
  refine ai (v:=.tuple #[.agg #[I o0,I o1,I o2,I o3,I o4,.slice none 0 0,I o5,I o6],.bool ((sy U fo 7).isSome)]) J J<|k<|xt J J J<|k<|xt J J J<|k<|al cQ bW ?_
  intro fq dP og (eh:HI M w dP (box fq #[I 0,I 0,I 0,I 0,I 0,.slice none 0 0,I 0,I 0] 33::EB))
  refine k<|bw eh 0 J bW J J J J J J J ?_
  let pa:=box fq #[I o0,I o1,I o2,I o3,I o4,.slice none 0 0,I o5,I o6] 33
  intro eB (dO:HI M w eB (pa::EB))
  refine ak (v:=.bool ((sy U fo 7).isSome)) J J<|bz<|ai (v:=.bool ((sy U fo 7).isSome)) J J<|z<|nx<|cd (b:=(sy U fo 7).isSome) J J (fun b1=>?_)<|fun b1=>?_
  ·
   refine az<|k<|cI dO 0 J bW J J au J<|k<|bw dO 8 J bW J J s4 J J J J ?_
   intro fE (fg:HI M w fE [pa,qm,J0,J1,J4,n3,J6,J5,box ba #[I o0,I o1,I o2,I o3,I o4,.slice none 0 0,I o5,I o6] 33,J2])
   refine ak (v:=I 0) J J<|aq<|rt<|bU<|aK<|ee<|bU<|aK<|iA fg 8 J bW J J J s4 J au ?_
   have e8:(0:Int)=fh U fo lv:=by exact sx (nQ hs aI UA bo) bo
   have bu:=iD (fun (lF:Int)=>(.tuple #[.agg #[I o0,I o1,I o2,I o3,I o4,.slice none 0 0,I o5,I o6],I lF]:Value)) e8
   exact⟨o0,o1,o2,o3,o4,o5,o6,bu,fg.below,(by exact xe (nQ hs aI UA bo) bo)⟩
  refine sk<|aF<|nx<|rg<|k<|add J J s9 J aT<|ai (v:=I ((j_:Int)+1)) J J<|z ?_
  have fg:=dO.put (it:=J4) J<|dO.rv 4 J
  have fz:=fg.put (it:=J1) J<|fg.rv 4 J
  have gS:=fz.put (it:=J0) J<|fz.rv 4 J
  have iY:HI M w eB (n3::J6::qm::dY):=gS.bZ [8,9,4,2,10,11,12,1,0] au J
  refine bG _ ?_ ⟨(j_+1),(eX U fo),a7,c7,J,s4,s5,s6,s7,s8,(bN J),iY,aj,(by exact Or.inr rfl),(by exact AT hs aI UA bo)⟩
  omega
 have p0:=dF b0
 refine ex<|aV<|bf<|bh<|cV<|k<|bd (v:=.agg #[I 0,I 0,I 0,I 0,I 0,.slice none 0 0,I 0,I 0]) J eI (fun _=>aU)<|k<|bw cY 5 J bW J J s4 J J J J ?_
 intro w9 (dW:HI M w w9 (oL w 26 a6 iW c6::J6::box bL #[.slice aC aD aB,sL aw U av,sL ay fo ax,I (U.length:Int),sL a5 (cC U fo) c5,sL a6 iW c6] 80::dY))
 refine ak (v:=I 8) J J<|aq<|rt<|iA dW 5 J bW J J J s4 J au ?_
 have e8:(8:Int)=fh U fo lv:=by exact ZW (NR hs aj)
 have bu:=iD (fun (lF:Int)=>(.tuple #[.agg #[I 0,I 0,I 0,I 0,I 0,.slice none 0 0,I 0,I 0],I lF]:Value)) e8
 exact⟨0,0,0,0,0,0,0,bu,dW.below,(by exact ui (NR hs aj) Nv)⟩
end Go.Proofs.YtgjakhpjmapelaaGreatDoor
