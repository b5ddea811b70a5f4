/- PRINTED by my own tool (wip/tool/gen.py): contracts of Go functions of this seat, each with its proof. -/
import Derived.Test.YtgjakhpjmapelaaGreatDoorVwnB
import Derived.Test.YtgjakhpjmapelaaGreatDoorVwnC
import Derived.Test.YtgjakhpjmapelaaGreatDoorNenB
import Derived.Test.YtgjakhpjmapelaaGreatDoorNenA
import Derived.Test.YtgjakhpjmapelaaGreatDoorVwnA
import Derived.Test.YtgjakhpjmapelaaGreatDoorVwnD
set_option linter.unusedVariables false
set_option linter.unusedSimpArgs false
namespace Go.Proofs.YtgjakhpjmapelaaGreatDoor
open Go.Ew Go.RowKit
set_option maxRecDepth 100000
set_option maxHeartbeats 1600000
attribute [local irreducible] WL WC SO PW PX PZ WE Code.wp wpList si cm
attribute [local irreducible] ko xJ jz fk ei AE Dq Ll words eh cY jK fF vJ
variable {M:bY} {w w_:aG}
variable {r:List Go.Ew.Item} {cZ aD aB av ax eC bA db bK bB dN eH dv jH rE eZ:Nat} {aC aw ay eD de bC dU dw iN:OA} {U:List aN} {fo:aA} {sp:List cN} {mp:KV} {pn mn o fz fC gH mR mQ nq cn lv kd fB:Int} {pr mr cr:List (List bp)} {mq:List ((Int×Int)×Bool)} {sw:List (Int×(List (List bp)))} {me:TypeId}
theorem Rj:cx aI 106:=cF Tryz.func106
theorem Ri:cx aI 122:=cF Tryz.func122
theorem KK:cx aI 120:=cF Tryz.func120
theorem Jk (qS:aK pn) (fY:aK mn) (ub:aK o) (hT:fS 0 w) (ho:ik U) (dy:U.length≤64) (eB:fo.length=U.length) (fL:∀x∈fo,x<((U.length:Nat):Int)) (BY:mn=((U.length:Nat):Int)) (BX:mr=ct U fo) (He:0≤o∧o<((U.length:Nat):Int)) (JD:pn=((U.length:Nat):Int)) (uq:bJ pn pr=true) (Iy:sp.length≤1000000000000) (H:HI M w w_ ([box cZ #[.slice aC aD aB,sL aw U av,sL ay fo ax,sL eD sp eC,.map (some bA),I pn,sL de pr db,.map (some bK)] 142,iL aw U av,iL ay fo ax,oL w 175 eD sp eC,cb bA mp,iL de pr db,bU bK mq,iL bC mr bB]++r)):Calls aI 83 #[pV cZ 0,.agg #[I mn,sL bC mr bB],I o] w_ (cm fun v w'=>∃(tc:List cN) (GW:KV) (CG:List (List bp)) (oa:OA) (n9:Nat) (ze:OA) (y':Nat),v=.tuple #[]∧HI M w w' ([box cZ #[.slice aC aD aB,sL aw U av,sL ay fo ax,sL oa tc n9,.map (some bA),I pn,sL ze CG y',.map (some bK)] 142,iL aw U av,iL ay fo ax,oL w 175 oa tc n9,cb bA GW,iL ze CG y',bU bK mq,iL bC mr bB]++r)∧tc.length≤sp.length+402000000000∧bJ pn CG=true):=by
 refine enter 93 Tryz.func83 J J J fun f0 ha=>?_
 have ja:=bg<|H.rv 1 J
 have kR:=bg<|H.rv 2 J
 have D2:=kl<|H.at_ 3 J
 have D3:=bg<|H.rv 5 J
 have nw:=bg<|H.rv 7 J
 have i0:f0 0=pV cZ 0:=ha 0 bj
 have i1:f0 1=.agg #[I mn,sL bC mr bB]:=ha 1 bj
 have i2:f0 2=I o:=ha 2 bj
 refine az<|k<|bx H J i1 ?_
 let J1:=box cZ #[.slice aC aD aB,sL aw U av,sL ay fo ax,sL eD sp eC,.map (some bA),I pn,sL de pr db,.map (some bK)] 142
 let J2:=iL aw U av
 let J3:=iL ay fo ax
 let J4:=oL w 175 eD sp eC
 let J5:=cb bA mp
 let J6:=iL de pr db
 let J7:=iL bC mr bB
 let bc:=[J6,bU bK mq,J7]
 intro aW w0 bW (H0:HI M w w0 ((box aW #[I mn,sL bC mr bB] 26::J1::J2::J3::J4::J5::bc)++r))
 let J0:=box aW #[I mn,sL bC mr bB] 26
 refine aq<|sq<|my [.r,.r,.r,.r,.r,.r,.r,.r,.r,.s,.s,.s,.n,.e,.s,.s,.s] (fun _=>True) J aS (fun _ _=>trivial)<|yq J J<|kq (fun _ _=>mv J i0 e1)<|bO<|kq (fun _ _=>nc J J e1)<|bO<|kq (fun _ _=>fa IH J J e1)<|bO<|kq (fun _ x_=>cB (H0.ext x_) 1 J dQ J J au J e1)<|bO<|kq (fun _ x_=>cB (H0.ext x_) 0 J bm J J au J e1)<|bO<|kq (fun _ _=>mv J i2 e1)<|zq<|yu J (fun N v w'=>∃(o0:List eu) (o1:Int) (a0:OA) (c0:Nat) (a1:OA) (c1:Nat),v=.tuple #[.agg #[I ((U.length:Nat):Int),sL a0 (cX U fo o) c0],sL a1 o0 c1,I o1,I 0]∧o0.length≤2000000000∧aK o1∧oC U.length o0∧RV (MN H0.fg N) w' (sL a0 (cX U fo o) c0) (cX U fo o)∧RV (MN H0.fg N) w' (sL a1 o0 c1) o0) J ⟨by rintro _ _ _ _ x_ ⟨o0,o1,a0,c0,a1,c1,e_,q0,q1,q2,eb,fh⟩;exact⟨o0,o1,a0,c0,a1,c1,e_,q0,q1,q2,eb.lift (Up.ext x_),fh.lift (Up.ext x_)⟩,by rintro _ _ _ _ _ k_ ⟨o0,o1,a0,c0,a1,c1,e_,q0,q1,q2,eb,fh⟩;exact⟨o0,o1,a0,c0,a1,c1,e_,q0,q1,q2,ij eb k_,ij fh k_⟩⟩ J (fun v_ _ x_ n_=>have cU:=Io (U:=U) (fo:=fo) (mn:=mn) (mr:=mr) (o:=o) (aC:=aC) (aD:=aD) (aB:=aB) (w:=v_) (kO H0.mb x_ n_) (hT.ext (H0.below.trans x_)) (ku (H0.rv 2 J) x_ n_) (ku (H0.rv 3 J) x_ n_) fY (ku (H0.rv 8 J) x_ n_) ub (by exact ho) aj (by exact eB) (by exact fL) aj aj aj;ca Rj rfl (ec J<|ec J<|ec J e0) cU (fun _ w2 ⟨o2,o3,a2,c2,a3,c3,e_,eS,jd,jX,q3,q4,q5⟩=>⟨_,J,eS,⟨o2,o3,a2,c2,a3,c3,e_,q3,q4,q5,jd,jX⟩⟩))<|lJ J (fun N v w'=>∃(o4:List eu) (o5:Int) (a4:OA) (c4:Nat) (a5:OA) (c5:Nat),v=.tuple #[.agg #[I ((U.length:Nat):Int),sL a4 (cX U fo o) c4],sL a5 o4 c5,I o5,I 0]∧o4.length≤2000000000∧aK o5∧oC U.length o4∧RV (MN H0.fg N) w' (sL a4 (cX U fo o) c4) (cX U fo o)∧RV (MN H0.fg N) w' (sL a5 o4 c5) o4) 0 J J ⟨by rintro _ _ _ _ x_ ⟨o4,o5,a4,c4,a5,c5,e_,q6,q7,q8,iU,kW⟩;exact⟨o4,o5,a4,c4,a5,c5,e_,q6,q7,q8,iU.lift (Up.ext x_),kW.lift (Up.ext x_)⟩,by rintro _ _ _ _ _ k_ ⟨o4,o5,a4,c4,a5,c5,e_,q6,q7,q8,iU,kW⟩;exact⟨o4,o5,a4,c4,a5,c5,e_,q6,q7,q8,ij iU k_,ij kW k_⟩⟩ J (fun _ _ _ _ _ h_=>let ⟨o6,o7,a6,c6,a7,c7,s0,q9,uZ,xn,nV,pg⟩:=h_;mv rfl s0 ⟨_,J,Ext.refl _,⟨o6,o7,a6,c6,a7,c7,J,q9,uZ,xn,nV,pg⟩⟩)<|lJ J (fun N v w'=>∃(a8:OA) (c8:Nat),v=.agg #[I ((U.length:Nat):Int),sL a8 (cX U fo o) c8]∧RV (MN H0.fg N) w' (sL a8 (cX U fo o) c8) (cX U fo o)) 0 J J k0 J (fun _ _ _ _ _ h_=>let ⟨kN,fe,jv,ju,mU,mT,s1,CF,CE,yt,oH,sg⟩:=h_;xt rfl s1 rfl ⟨_,J,Ext.refl _,⟨jv,ju,J,oH⟩⟩)<|lJ J (fun N v w'=>∃(j3:List eu) (kh:OA) (kg:Nat),v=sL kh j3 kg∧j3.length≤2000000000∧oC U.length j3∧RV (MN H0.fg N) w' (sL kh j3 kg) j3) 1 J J ⟨by rintro _ _ _ _ x_ ⟨j3,kh,kg,e_,xm,xl,qa⟩;exact⟨j3,kh,kg,e_,xm,xl,qa.lift (Up.ext x_)⟩,by rintro _ _ _ _ _ k_ ⟨j3,kh,kg,e_,xm,xl,qa⟩;exact⟨j3,kh,kg,e_,xm,xl,ij qa k_⟩⟩ J (fun _ _ _ _ _ h_=>let ⟨GR,Jr,mc,l9,U1,Uz,s2,Eu,q22,LK,A5,Ft⟩:=h_;xt rfl s2 rfl ⟨_,J,Ext.refl _,⟨GR,U1,Uz,J,Eu,LK,Ft⟩⟩)<|lJ J (fun _ v _=>∃(GQ:Int),v=I GQ∧aK GQ) 2 J J mE J (fun _ _ _ _ _ h_=>let ⟨o18,SY,a18,c18,a19,c19,s3,q27,SC,q29,ab3,ab2⟩:=h_;xt rfl s3 rfl ⟨_,J,Ext.refl _,⟨SY,J,SC⟩⟩)<|RN J (X:=I 0) 3 J J (fun _ _ _ _ _ h_=>let ⟨o22,X4,a22,c22,a23,c23,s4,q33,q34,q35,ab1,ab0⟩:=h_;xt rfl s4 rfl e1)<|yn (z:=#[I 0,.slice none 0 0]) J J (fun _=>PY bm)<|ye<|lJ J (fun N v w'=>∃(mO:List eu) (a24:OA) (y_:Nat),v=sL a24 mO y_∧mO.length≤2000000000∧oC U.length mO∧RV (MN H0.fg N) w' (sL a24 mO y_) mO) 2 J J ⟨by rintro _ _ _ _ x_ ⟨mO,a24,y_,e_,CD,CC,xh⟩;exact⟨mO,a24,y_,e_,CD,CC,xh.lift (Up.ext x_)⟩,by rintro _ _ _ _ _ k_ ⟨mO,a24,y_,e_,CD,CC,xh⟩;exact⟨mO,a24,y_,e_,CD,CC,ij xh k_⟩⟩ J (fun _ _ _ _ _ h_=>let ⟨LW,a25,EY,s5,SB,SA,LF⟩:=h_;jM rfl s5 ⟨_,J,Ext.refl _,⟨LW,a25,EY,J,SB,SA,LF⟩⟩)<|lJ J (fun _ v _=>∃(sE:Int),v=I sE∧aK sE) 2 J J mE J (fun _ _ _ _ _ h_=>let ⟨tT,s6,Sz⟩:=h_;jM rfl s6 ⟨_,J,Ext.refl _,⟨tT,J,Sz⟩⟩)<|yq J J<|kq (fun _ _=>jM (v:=I 0) J J e1)<|zq<|yz ?_
 intro w3 f0 _ fH _ _ cC iT
 obtain⟨bI,s7,C',sN,BW⟩:=iT 2 _ _ rfl
 have pK:=PJ (z:=#[I 0,.slice none 0 0]) (T:=26) C' sN BW<|PK
 let J8:=box bI #[I 0,.slice none 0 0] 26
 have H8:HI M w w3 ((J8::J0::J1::J2::J3::J4::J5::bc)++r):=H0.D4 fH pK<|O2 O1 O3
 have s8:=(cC 0 J).trans i0
 obtain⟨o28,a26,HO,s9,q42,q43,LD⟩:=iT 1 _ _ rfl
 let J9:=iL a26 o28 HO
 have H9:=H8.put (it:=J9) J<|se LD pK
 obtain⟨AL,AH,ej,Vt⟩:=iT 5 _ _ rfl
 let dZ:=iL AL (cX U fo o) AH
 have cV:=H9.put (it:=dZ) J<|Z2 J<|se Vt pK
 refine kc<|bu cV 2 J bm J J s7 ej J J J ?_
 let eL:=box bI #[I ((U.length:Nat):Int),sL AL (cX U fo o) AH] 26
 intro w4 (cL:HI M w w4 ([dZ,J9,eL,J0,J1,J2,J3,J4,J5,J6,bU bK mq,J7]++r))
 refine kz<|nx<|bk ?_
 have cH:=cL.put (it:=J9) J<|cL.rv 1 J
 have dA:=cH.put (it:=J6) J<|cH.rv 10 J
 refine lp (fun m f w'=>∃(gh:List eu) (js:List cN) (ou:KV) (cI:Int) (m_:List (List bp)) (a28:OA) (ru:Nat) (oZ:OA) (oY:Nat) (j8:OA) (j6:Nat),m=gh.length∧f 0=pV cZ 0∧f 7=sL a28 gh ru∧HI M w w' ([iL j8 m_ j6,iL a28 gh ru,dZ,J9,box bI #[I ((U.length:Nat):Int),sL AL (cX U fo o) AH] 26,J0,box cZ #[.slice aC aD aB,sL aw U av,sL ay fo ax,sL oZ js oY,.map (some bA),I cI,sL j8 m_ j6,.map (some bK)] 142,J2,J3,oL w 175 oZ js oY,cb bA ou,J6,bU bK mq,J7]++r)∧(oC U.length gh)∧(js.length+201*gh.length≤sp.length+201*o28.length)∧(cI=pn)∧(bJ cI m_=true)) _ ⟨o28,sp,mp,pn,pr,a26,HO,eD,eC,de,db,J,s8,s9,dA,aj,aj,aj,aj⟩ ?_
 rintro _ f1 w5 ⟨gh,js,ou,cI,m_,a28,ru,oZ,oY,j8,j6,rfl,eX,fA,dX,uF,Iz,C7,tx⟩
 refine sq<|az<|ai J fA<|k<|dL J J eA<|k<|gtr J J J J<|z<|nx<|cd (b:=decide (0<(gh.length:Int))) J J (fun b0=>?_)<|fun b0=>?_
 ·
  have p0:=dT b0
  refine sk<|nx<|bk<|az<|ak (v:=I 0) J J<|bw<|ai J eX<|k<|nc J J<|aQ rj J J<|k<|cB dX 6 J bm J J au J<|k ?_
  have fU:=wD (mn:=cI) (mr:=m_) dX.mb aR (dX.rv 0 J)<|by exact tx
  refine ca Rc J (ec J e0) fU ?_
  rintro _ w6 ⟨a31,J_,rfl,jg,LC⟩
  have dI:=dX.eP LC
  let gf:=oL w 144 a31 (ff cI m_) J_
  let fN:=iL j8 m_ j6
  let iH:=iL a28 gh ru
  let pc:=box cZ #[.slice aC aD aB,sL aw U av,sL ay fo ax,sL oZ js oY,.map (some bA),I cI,sL j8 m_ j6,.map (some bK)] 142
  let mA:=oL w 175 oZ js oY
  let tM:=cb bA ou
  refine k<|al dI bm ?_
  let bX:=dZ::J9::eL::J0::pc::J2::J3::mA::tM::bc
  intro fm w7 jr (d_:HI M w w7 ((box fm #[I 0,.slice none 0 0] 26::gf::fN::iH::bX)++r))
  refine k<|bu d_ 0 J bm J J J J J J J ?_
  let jO:=box fm #[I cI,sL a31 (ff cI m_) J_] 26
  let dM:=jO::gf::fN::iH::bX
  intro w8 (dD:HI M w w8 (dM++r))
  refine aq<|sq<|bk ?_
  let iO:=J0::pc::J2::J3::mA::tM::bc
  refine lp (fun m f w'=>∃(k_:Nat),m=gh.length-k_∧f 0=pV cZ 0∧f 7=sL a28 gh ru∧f 10=I (k_:Int)∧f 11=pV fm 0∧HI M w w' ((jO::gf::fN::iH::dZ::J9::box bI #[I ((U.length:Nat):Int),sL AL (cX U fo o) AH] 26::iO)++r)∧(k_≤gh.length)) _ ⟨0,J,eX,fA,(bH J),J,dD,aj⟩ ?_
  rintro _ f2 w9 ⟨k_,rfl,fD,gi,gS,kb,eR,pj⟩
  refine sq<|sq<|B9 J aS<|kq (fun _ _=>mv J gS e1)<|kq (fun _ _=>mv J gi e1)<|kq (fun _ _=>dL J J eA e1)<|kq (fun _ _=>lss J J J J e1)<|kq (fun _ _=>mv (v:=.bool (decide ((k_:Int)<(gh.length:Int)))) J J e1) ?_
  rcases bE (decide ((k_:Int)<(gh.length:Int))) with b1|b1
  ·
   have p1:=dT b1
   refine qy J J J b1<|kq (fun _ x_=>cB (eR.ext x_) 0 J bm J kb au J e1)<|qy J J J b1<|kq (fun _ _=>mv J gi e1)<|qy J J J b1<|kq (fun _ _=>mv J gS e1)<|qy J J J b1<|ux (eR.rv 3 J) J J J J aj eA cK ?_
   intro iG x0 aM cw
   refine qy J J J b1<|kq (fun _ _=>fa kV J J e1)<|qy J J J b1<|px (cw).fst.w aU J J ?_
   intro Fs
   refine qy J J J b1<|kq (fun _ _=>mv J gi e1)<|qy J J J b1<|kq (fun _ _=>mv J gS e1)<|qy J J J b1<|ux (eR.rv 3 J) J J J J aj eA cK ?_
   intro ry x_ tv gN
   obtain rfl:x0=x_:=an5 (aM.symm.trans tv)
   refine qy J J J b1<|kq (fun _ _=>fa sP J J e1)<|qy J J J b1<|px (gN).s2.w aU J J ?_
   intro Fq
   refine qy J J J b1<|kq (v:=.bool (eI cI (ff cI m_) x0.1 x0.2.2)) (fun v_ x_=>?_) ?_
   ·
    have eW:=(eR.ext x_).freeze 1 rfl
    have cc:=uz (mn:=cI) (mr:=(ff cI m_)) (i:=x0.1) (j:=x0.2.2) eW.mb aR (eW.rv 1 J) Fs Fq (by exact(bQ<|oV tx).1) (by exact(bQ<|oV tx).2.1) aj
    exact ca F4 J (ec J<|ec J<|ec J e0) cc fun _ _ h_=>e2 h_
   refine kq (fun _ _=>aP J J J J b1 J e1)<|kq (fun _ _=>mv (v:=.bool (eI cI (ff cI m_) x0.1 x0.2.2)) J J e1) ?_
   rcases bE (eI cI (ff cI m_) x0.1 x0.2.2) with b2|b2
   ·
    refine qy J J J b2<|kq (fun _ x_=>cB (eR.ext x_) 0 J bm J kb au J e1)<|qy J J J b2<|kq (fun _ _=>mv J gi e1)<|qy J J J b2<|kq (fun _ _=>mv J gS e1)<|qy J J J b2<|ux (eR.rv 3 J) J J J J aj eA cK ?_
    intro ma x_ tv kf
    obtain rfl:x0=x_:=an5 (aM.symm.trans tv)
    refine qy J J J b2<|kq (fun _ _=>fa kV J J e1)<|qy J J J b2<|px (kf).fst.w aU J J ?_
    intro A4
    refine qy J J J b2<|kq (fun _ _=>mv J gi e1)<|qy J J J b2<|kq (fun _ _=>mv J gS e1)<|qy J J J b2<|ux (eR.rv 3 J) J J J J aj eA cK ?_
    intro po x_ tv sO
    obtain rfl:x0=x_:=an5 (aM.symm.trans tv)
    refine qy J J J b2<|kq (fun _ _=>fa mW J J e1)<|qy J J J b2<|px ((sO).s1).fst.w aU J J ?_
    intro Fp
    refine qy J J J b2<|kq (v:=.bool (eI cI (ff cI m_) x0.1 x0.2.1)) (fun v_ x_=>?_) ?_
    ·
     have jf:=(eR.ext x_).freeze 1 rfl
     have cc:=uz (mn:=cI) (mr:=(ff cI m_)) (i:=x0.1) (j:=x0.2.1) jf.mb aR (jf.rv 1 J) A4 Fp (by exact(bQ<|oV tx).1) (by exact(bQ<|oV tx).2.1) aj
     exact ca F4 J (ec J<|ec J<|ec J e0) cc fun _ _ h_=>e2 h_
    refine qy J J J b2<|kq (fun _ _=>j4 J J e1)<|kq (fun _ _=>aP J J J J b2 J e1)<|zq ?_
    intro dP kr
    have nu:=eR.ext kr
    refine nx<|cd (b:=!(eI cI (ff cI m_) x0.1 x0.2.1)) J J (fun b3=>?_)<|fun b3=>?_
    ·
     refine sk<|nx<|bk<|rg<|ai J gS<|k<|add J J J J aR<|ak (v:=I ((k_:Int)+1)) J J<|z<|aF<|bF _ ?_ ⟨(k_+1),J,fD,gi,(bH J),kb,nu,aj⟩
     omega
    refine ex<|aT<|aY<|bf<|nx<|sq<|az<|ai J gS<|k<|eql J J J J<|z<|nx<|cd (b:=decide ((k_:Int)=0)) J J (fun b4=>?_)<|fun b4=>?_
    ·
     have p4:=dT b4
     refine az<|ai J gi<|k<|OB (nu.rv 3 J) J J J J aj eA cK ?_
     intro a32 oX A3
     let pb:=iL a32 (gh.drop (1:Int).toNat) oX
     have jm:=nu.put (it:=pb) J A3
     refine ak (v:=sL a32 (gh.drop (1:Int).toNat) oX) J J<|aq<|ex<|aT<|bf ?_
     have ln:=jm.put (it:=fN) J<|jm.rv 3 J
     have kU:=ln.put (it:=pb) J<|ln.rv 1 J
     have lg:=kU.put (it:=J2) J<|kU.rv 12 J
     have ki:=lg.put (it:=J3) J<|lg.rv 14 J
     have uh:HI M w dP ((J3::J2::pb::fN::pb::dM)++r):=ki
     have mB:HI M w dP ((fN::pb::bX)++r):=HI.aP (l:=(J3::J2::pb::fN::pb::dM)) (l':=(fN::pb::bX)) (t:=r) uh [3,2,9,10,11,12,13,1,0,16,17,18,19,20] au J J
     refine bF _ ?_ ⟨(gh.drop (1:Int).toNat),js,ou,cI,m_,a32,oX,oZ,oY,j8,j6,J,fD,J,mB,(by intro e_ h_;exact uF e_ (apJ h_)),(by simp only[aog];omega),bt,bt⟩
     first|(simp only[aog];omega)|omega
    have p4:=dF b4
    refine sk<|nx<|sq<|az<|ai J gi<|ai J gS<|k<|OC (nu.rv 3 J) J J J J aj eA cK ?_
    intro a32 oX A3
    let qx:=iL a32 (gh.take (k_:Int).toNat) oX
    have jm:=nu.put (it:=qx) J A3
    refine k<|dL J J eA<|ai (v:=I 0) J J<|aq<|bk<|lp (fun m f w'=>∃(q_:Nat) (ji:List cN) (i':KV) (a33:OA) (lU:Nat),m=(gh.take (k_:Int).toNat).length-q_∧f 0=pV cZ 0∧f 7=sL a28 gh ru∧f 10=I (k_:Int)∧f 75=sL a32 (gh.take (k_:Int).toNat) oX∧f 76=I ((gh.take (k_:Int).toNat).length:Int)∧f 77=I (q_:Int)∧HI M w w' ([qx,jO,gf,fN,iH,dZ,J9,box bI #[I ((U.length:Nat):Int),sL AL (cX U fo o) AH] 26,J0,box cZ #[.slice aC aD aB,sL aw U av,sL ay fo ax,sL a33 ji lU,.map (some bA),I cI,sL j8 m_ j6,.map (some bK)] 142,J2,J3,oL w 175 a33 ji lU,cb bA i',J6,bU bK mq,J7]++r)∧(q_≤(gh.take (k_:Int).toNat).length)∧(ji.length≤js.length+201*q_)) _ ⟨0,js,ou,oZ,oY,J,fD,gi,gS,J,J,(bH J),jm,aj,aj⟩ ?_
    rintro _ f3 ey ⟨q_,ji,i',a33,lU,rfl,kK,lC,l3,lZ,mZ,pf,ln,sI,ada⟩
    refine sq ?_
    have adk:((gh.take (k_:Int).toNat)).length≤gh.length:=by rw[ic];exact arc _ _
    refine rg<|k<|lss J J pf mZ<|aq<|sq<|cd (b:=decide ((q_:Int)<((gh.take (k_:Int).toNat).length:Int))) J J (fun b5=>?_)<|fun b5=>?_
    ·
     have p5:=dT b5
     refine sk<|nx<|sq<|bk<|az<|k<|ia (ln.rv 0 J) J J lZ pf aj eA cK ?_
     intro tJ x1 cQ wc
     refine k<|nz wc.w cK J J ?_
     intro v0 LB
     obtain⟨_,⟨_,_,rfl,⟨rfl,LA⟩,⟨_,_,rfl,⟨rfl,aiA⟩,⟨rfl,aiz⟩⟩⟩,rfl⟩:=LB
     refine k<|al ln cK ?_
     let ob:=box cZ #[.slice aC aD aB,sL aw U av,sL ay fo ax,sL a33 ji lU,.map (some bA),I cI,sL j8 m_ j6,.map (some bK)] 142
     let pa:=oL w 175 a33 ji lU
     let fj:=qx::jO::gf::fN::iH::dZ::J9::eL::J0::ob::J2::J3::pa::cb bA i'::bc
     intro gO fq lX (pq:HI M w fq ((box gO #[I 0,I 0,I 0] 122::fj)++r))
     refine k<|bu pq 0 J cK J J J J J J J ?_
     let vG:=box gO #[I x1.1,I x1.2.1,I x1.2.2] 122
     intro iQ (kU:HI M w iQ ((vG::fj)++r))
     refine aq<|rg<|ai J kK<|k<|cB kU 0 J cK J J au J<|k ?_
     let lF:=[fN,bU bK mq,vG,qx,jO,gf,iH,dZ,J9,eL,J0,J6,J7]
     have ra:HI M w iQ ([ob,J2,J3,pa,cb bA i',fN,bU bK mq]++([vG,qx,jO,gf,iH,dZ,J9,eL,J0,J6,J7]++r)):=HI.aP (l:=(vG::fj)) (l':=(ob::J2::J3::pa::cb bA i'::lF)) (t:=r) kU [10,11,12,13,14,4,16,0,1,2,3,5,6,7,8,9,15,17] au J J
     have fb:=A_ (cZ:=cZ) (aC:=aC) (aD:=aD) (aB:=aB) (aw:=aw) (av:=av) (U:=U) (ay:=ay) (ax:=ax) (fo:=fo) (eD:=a33) (eC:=lU) (sp:=ji) (bA:=bA) (mp:=i') (pn:=cI) (de:=j8) (db:=j6) (pr:=m_) (bK:=bK) (mq:=mq) (fz:=x1.1) (fC:=x1.2.1) (gH:=x1.2.2) (w:=w) (w_:=iQ) (r:=([vG,qx,jO,gf,iH,dZ,J9,eL,J0,J6,J7]++r)) (M:=M) aR LA aiA aiz hT aj aj (by exact eB) aj (by exact tx) ra
     refine ca Ri J (ec J<|ec J e0) fb ?_
     rintro _ j1 ⟨qK,Jq,sW,sS,rfl,lg,Sy⟩
     let ug:=box cZ #[.slice aC aD aB,sL aw U av,sL ay fo ax,sL sW qK sS,.map (some bA),I cI,sL j8 m_ j6,.map (some bK)] 142
     let Ca:=oL w 175 sW qK sS
     let uf:=cb bA Jq
     refine z<|aF<|nx<|rg<|k<|add J J pf J aR<|ai (v:=I ((q_:Int)+1)) J J<|z ?_
     have ki:=lg.put (it:=fN) J<|lg.rv 5 J
     have mB:=ki.put (it:=J2) J<|ki.rv 2 J
     have rz:=mB.put (it:=J3) J<|mB.rv 4 J
     have zj:HI M w j1 ((J3::J2::fN::ug::J2::J3::Ca::uf::lF)++r):=rz
     let ue:=qx::jO::gf::fN::iH::dZ::J9::eL::J0::ug::J2::J3::Ca::uf::bc
     have qz:HI M w j1 (ue++r):=HI.aP (l:=(J3::J2::fN::ug::J2::J3::Ca::uf::lF)) (l':=ue) (t:=r) zj [11,12,13,2,14,15,16,17,18,3,1,0,6,7,19,9,20] au J J
     refine bF _ ?_ ⟨(q_+1),qK,Jq,sW,sS,J,kK,lC,l3,lZ,mZ,(bH J),qz,aj,aj⟩
     omega
    have p5:=dF b5
    refine ex<|aT<|aY<|bf<|cO<|ai J kK<|ai J lC<|ai J l3<|k<|OC (ln.rv 4 J) J J J J aj eA cK ?_
    intro sW sS LB
    let zi:=iL sW (gh.take (k_:Int).toNat) sS
    have pq:=ln.put (it:=zi) J LB
    let vF:=box cZ #[.slice aC aD aB,sL aw U av,sL ay fo ax,sL a33 ji lU,.map (some bA),I cI,sL j8 m_ j6,.map (some bK)] 142
    let yh:=oL w 175 a33 ji lU
    let yg:=cb bA i'
    let DE:=zi::qx::jO::gf::fN::iH::dZ::J9::eL::J0::vF::J2::J3::yh::yg::bc
    have kU:HI M w ey (DE++r):=pq
    refine k ?_
    let HU:=[bU bK mq,zi,qx,jO,gf,iH,dZ,J9,eL,J0,J6,J7]
    have ra:HI M w ey ([vF,J2,J3,yh,yg,fN,bU bK mq,zi]++([qx,jO,gf,iH,dZ,J9,eL,J0,J6,J7]++r)):=HI.aP (l:=DE) (l':=(vF::J2::J3::yh::yg::fN::HU)) (t:=r) kU [10,11,12,13,14,4,16,0,1,2,3,5,6,7,8,9,15,17] au J J
    have fb:=yx (cZ:=cZ) (aC:=aC) (aD:=aD) (aB:=aB) (aw:=aw) (av:=av) (U:=U) (ay:=ay) (ax:=ax) (fo:=fo) (eD:=a33) (eC:=lU) (sp:=ji) (bA:=bA) (mp:=i') (pn:=cI) (de:=j8) (db:=j6) (pr:=m_) (bK:=bK) (mq:=mq) (zL:=sW) (zG:=sS) (es:=(gh.take (k_:Int).toNat)) (w:=w) (w_:=ey) (r:=([qx,jO,gf,iH,dZ,J9,eL,J0,J6,J7]++r)) (M:=M) aR (by exact tx) (by intro x_ h_;rw[C7,JD];exact uF x_ (apl h_)) ra
    refine ca KK J (ec J<|ec J e0) fb ?_
    rintro _ fq ⟨qK,a35,Dx,rfl,lg,Sy⟩
    let E_:=box cZ #[.slice aC aD aB,sL aw U av,sL ay fo ax,sL a33 ji lU,.map (some bA),I cI,sL a35 qK Dx,.map (some bK)] 142
    let tL:=iL a35 qK Dx
    refine z<|nx ?_
    have adi:((gh.take (k_:Int).toNat)).length=k_:=by rw[ic,dq];exact ao7 aj
    refine rg<|ai J lC<|ai J l3<|k<|OB (lg.rv 11 J) J J J J aj eA cK ?_
    intro DD Dw LA
    let rV:=iL DD (gh.drop (k_:Int).toNat) Dw
    have ki:=lg.put (it:=rV) J LA
    refine ak (v:=sL DD (gh.drop (k_:Int).toNat) Dw) J J<|z<|aF ?_
    have mB:=ki.put (it:=tL) J<|ki.rv 6 J
    have rz:=mB.put (it:=rV) J<|mB.rv 1 J
    have qz:=rz.put (it:=J2) J<|rz.rv 4 J
    have Kl:=qz.put (it:=J3) J<|qz.rv 6 J
    let E2:=J3::J2::rV::tL::rV::E_::J2::J3::yh::yg::tL::HU
    have H46:HI M w fq (E2++r):=Kl
    let NA:=tL::rV::dZ::J9::eL::J0::E_::J2::J3::yh::yg::bc
    have H47:HI M w fq (NA++r):=HI.aP (l:=E2) (l':=NA) (t:=r) H46 [3,2,17,18,19,20,5,1,0,8,9,21,11,22] au J J
    refine bF _ ?_ ⟨(gh.drop (k_:Int).toNat),ji,i',cI,qK,DD,Dw,a33,lU,a35,Dx,J,kK,J,H47,(by intro e_ h_;exact uF e_ (apJ h_)),(by simp only[aog];omega),bt,bt⟩
    first|(simp only[aog];omega)|omega
   refine qn J J J b2<|qn J J J b2<|qn J J J b2<|qn J J J b2<|qn J J J b2<|qn J J J b2<|qn J J J b2<|qn J J J b2<|qn J J J b2<|qn J J J b2<|qn J J J b2<|qn J J J b2<|qn J J J b2<|kq (fun _ _=>dG J J J J b2 J e1)<|zq ?_
   intro dP kr
   have jf:=eR.ext kr
   refine nx<|pk J J J<|ex<|aT<|aY<|bf<|nx<|sq<|az<|ai J gS<|k<|eql J J J J<|z<|nx<|cd (b:=decide ((k_:Int)=0)) J J (fun b3=>?_)<|fun b3=>?_
   ·
    have p3:=dT b3
    refine az<|ai J gi<|k<|OB (jf.rv 3 J) J J J J aj eA cK ?_
    intro a32 oX A4
    let vE:=iL a32 (gh.drop (1:Int).toNat) oX
    have jC:=jf.put (it:=vE) J A4
    refine ak (v:=sL a32 (gh.drop (1:Int).toNat) oX) J J<|aq<|ex<|aT<|bf ?_
    have jm:=jC.put (it:=fN) J<|jC.rv 3 J
    have ln:=jm.put (it:=vE) J<|jm.rv 1 J
    have kU:=ln.put (it:=J2) J<|ln.rv 12 J
    have lg:=kU.put (it:=J3) J<|kU.rv 14 J
    have AP:HI M w dP ((J3::J2::vE::fN::vE::dM)++r):=lg
    have ki:HI M w dP ((fN::vE::bX)++r):=HI.aP (l:=(J3::J2::vE::fN::vE::dM)) (l':=(fN::vE::bX)) (t:=r) AP [3,2,9,10,11,12,13,1,0,16,17,18,19,20] au J J
    refine bF _ ?_ ⟨(gh.drop (1:Int).toNat),js,ou,cI,m_,a32,oX,oZ,oY,j8,j6,J,fD,J,ki,(by intro e_ h_;exact uF e_ (apJ h_)),(by simp only[aog];omega),bt,bt⟩
    first|(simp only[aog];omega)|omega
   have p3:=dF b3
   refine sk<|nx<|sq<|az<|ai J gi<|ai J gS<|k<|OC (jf.rv 3 J) J J J J aj eA cK ?_
   intro a32 oX A4
   let pS:=iL a32 (gh.take (k_:Int).toNat) oX
   have jC:=jf.put (it:=pS) J A4
   refine k<|dL J J eA<|ai (v:=I 0) J J<|aq<|bk<|lp (fun m f w'=>∃(q_:Nat) (ji:List cN) (i':KV) (a33:OA) (lU:Nat),m=(gh.take (k_:Int).toNat).length-q_∧f 0=pV cZ 0∧f 7=sL a28 gh ru∧f 10=I (k_:Int)∧f 75=sL a32 (gh.take (k_:Int).toNat) oX∧f 76=I ((gh.take (k_:Int).toNat).length:Int)∧f 77=I (q_:Int)∧HI M w w' ([pS,jO,gf,fN,iH,dZ,J9,box bI #[I ((U.length:Nat):Int),sL AL (cX U fo o) AH] 26,J0,box cZ #[.slice aC aD aB,sL aw U av,sL ay fo ax,sL a33 ji lU,.map (some bA),I cI,sL j8 m_ j6,.map (some bK)] 142,J2,J3,oL w 175 a33 ji lU,cb bA i',J6,bU bK mq,J7]++r)∧(q_≤(gh.take (k_:Int).toNat).length)∧(ji.length≤js.length+201*q_)) _ ⟨0,js,ou,oZ,oY,J,fD,gi,gS,J,J,(bH J),jC,aj,aj⟩ ?_
   rintro _ f3 ey ⟨q_,ji,i',a33,lU,rfl,kK,lC,l3,lZ,mZ,pf,jm,sI,ada⟩
   refine sq ?_
   have adk:((gh.take (k_:Int).toNat)).length≤gh.length:=by rw[ic];exact arc _ _
   refine rg<|k<|lss J J pf mZ<|aq<|sq<|cd (b:=decide ((q_:Int)<((gh.take (k_:Int).toNat).length:Int))) J J (fun b4=>?_)<|fun b4=>?_
   ·
    have p4:=dT b4
    refine sk<|nx<|sq<|bk<|az<|k<|ia (jm.rv 0 J) J J lZ pf aj eA cK ?_
    intro ma x1 cQ kf
    refine k<|nz kf.w cK J J ?_
    intro v0 Fp
    obtain⟨_,⟨_,_,rfl,⟨rfl,A3⟩,⟨_,_,rfl,⟨rfl,LB⟩,⟨rfl,LA⟩⟩⟩,rfl⟩:=Fp
    refine k<|al jm cK ?_
    let DO:=box cZ #[.slice aC aD aB,sL aw U av,sL ay fo ax,sL a33 ji lU,.map (some bA),I cI,sL j8 m_ j6,.map (some bK)] 142
    let zh:=oL w 175 a33 ji lU
    let XH:=pS::jO::gf::fN::iH::dZ::J9::eL::J0::DO::J2::J3::zh::cb bA i'::bc
    intro gO fq lX (tN:HI M w fq ((box gO #[I 0,I 0,I 0] 122::XH)++r))
    refine k<|bu tN 0 J cK J J J J J J J ?_
    let yd:=box gO #[I x1.1,I x1.2.1,I x1.2.2] 122
    intro iQ (ln:HI M w iQ ((yd::XH)++r))
    refine aq<|rg<|ai J kK<|k<|cB ln 0 J cK J J au J<|k ?_
    let XG:=[fN,bU bK mq,yd,pS,jO,gf,iH,dZ,J9,eL,J0,J6,J7]
    have pq:HI M w iQ ([DO,J2,J3,zh,cb bA i',fN,bU bK mq]++([yd,pS,jO,gf,iH,dZ,J9,eL,J0,J6,J7]++r)):=HI.aP (l:=(yd::XH)) (l':=(DO::J2::J3::zh::cb bA i'::XG)) (t:=r) ln [10,11,12,13,14,4,16,0,1,2,3,5,6,7,8,9,15,17] au J J
    have fb:=A_ (cZ:=cZ) (aC:=aC) (aD:=aD) (aB:=aB) (aw:=aw) (av:=av) (U:=U) (ay:=ay) (ax:=ax) (fo:=fo) (eD:=a33) (eC:=lU) (sp:=ji) (bA:=bA) (mp:=i') (pn:=cI) (de:=j8) (db:=j6) (pr:=m_) (bK:=bK) (mq:=mq) (fz:=x1.1) (fC:=x1.2.1) (gH:=x1.2.2) (w:=w) (w_:=iQ) (r:=([yd,pS,jO,gf,iH,dZ,J9,eL,J0,J6,J7]++r)) (M:=M) aR A3 LB LA hT aj aj (by exact eB) aj (by exact tx) pq
    refine ca Ri J (ec J<|ec J e0) fb ?_
    rintro _ j1 ⟨qK,Jq,sW,sS,rfl,kU,Sy⟩
    let DN:=box cZ #[.slice aC aD aB,sL aw U av,sL ay fo ax,sL sW qK sS,.map (some bA),I cI,sL j8 m_ j6,.map (some bK)] 142
    let DM:=oL w 175 sW qK sS
    let DL:=cb bA Jq
    refine z<|aF<|nx<|rg<|k<|add J J pf J aR<|ai (v:=I ((q_:Int)+1)) J J<|z ?_
    have lg:=kU.put (it:=fN) J<|kU.rv 5 J
    have ki:=lg.put (it:=J2) J<|lg.rv 2 J
    have mB:=ki.put (it:=J3) J<|ki.rv 4 J
    have wu:HI M w j1 ((J3::J2::fN::DN::J2::J3::DM::DL::XG)++r):=mB
    let afm:=pS::jO::gf::fN::iH::dZ::J9::eL::J0::DN::J2::J3::DM::DL::bc
    have rz:HI M w j1 (afm++r):=HI.aP (l:=(J3::J2::fN::DN::J2::J3::DM::DL::XG)) (l':=afm) (t:=r) wu [11,12,13,2,14,15,16,17,18,3,1,0,6,7,19,9,20] au J J
    refine bF _ ?_ ⟨(q_+1),qK,Jq,sW,sS,J,kK,lC,l3,lZ,mZ,(bH J),rz,aj,aj⟩
    omega
   have p4:=dF b4
   refine ex<|aT<|aY<|bf<|cO<|ai J kK<|ai J lC<|ai J l3<|k<|OC (jm.rv 4 J) J J J J aj eA cK ?_
   intro sW sS Fp
   let sX:=iL sW (gh.take (k_:Int).toNat) sS
   have tN:=jm.put (it:=sX) J Fp
   let Kk:=box cZ #[.slice aC aD aB,sL aw U av,sL ay fo ax,sL a33 ji lU,.map (some bA),I cI,sL j8 m_ j6,.map (some bK)] 142
   let E9:=oL w 175 a33 ji lU
   let E8:=cb bA i'
   let afl:=sX::pS::jO::gf::fN::iH::dZ::J9::eL::J0::Kk::J2::J3::E9::E8::bc
   have ln:HI M w ey (afl++r):=tN
   refine k ?_
   let afk:=[bU bK mq,sX,pS,jO,gf,iH,dZ,J9,eL,J0,J6,J7]
   have pq:HI M w ey ([Kk,J2,J3,E9,E8,fN,bU bK mq,sX]++([pS,jO,gf,iH,dZ,J9,eL,J0,J6,J7]++r)):=HI.aP (l:=afl) (l':=(Kk::J2::J3::E9::E8::fN::afk)) (t:=r) ln [10,11,12,13,14,4,16,0,1,2,3,5,6,7,8,9,15,17] au J J
   have fb:=yx (cZ:=cZ) (aC:=aC) (aD:=aD) (aB:=aB) (aw:=aw) (av:=av) (U:=U) (ay:=ay) (ax:=ax) (fo:=fo) (eD:=a33) (eC:=lU) (sp:=ji) (bA:=bA) (mp:=i') (pn:=cI) (de:=j8) (db:=j6) (pr:=m_) (bK:=bK) (mq:=mq) (zL:=sW) (zG:=sS) (es:=(gh.take (k_:Int).toNat)) (w:=w) (w_:=ey) (r:=([pS,jO,gf,iH,dZ,J9,eL,J0,J6,J7]++r)) (M:=M) aR (by exact tx) (by intro x_ h_;rw[C7,JD];exact uF x_ (apl h_)) pq
   refine ca KK J (ec J<|ec J e0) fb ?_
   rintro _ fq ⟨qK,a35,Dx,rfl,kU,Sy⟩
   let AO:=box cZ #[.slice aC aD aB,sL aw U av,sL ay fo ax,sL a33 ji lU,.map (some bA),I cI,sL a35 qK Dx,.map (some bK)] 142
   let HZ:=iL a35 qK Dx
   refine z<|nx ?_
   have adi:((gh.take (k_:Int).toNat)).length=k_:=by rw[ic,dq];exact ao7 aj
   refine rg<|ai J lC<|ai J l3<|k<|OB (kU.rv 11 J) J J J J aj eA cK ?_
   intro DD Dw A3
   let E7:=iL DD (gh.drop (k_:Int).toNat) Dw
   have lg:=kU.put (it:=E7) J A3
   refine ak (v:=sL DD (gh.drop (k_:Int).toNat) Dw) J J<|z<|aF ?_
   have ki:=lg.put (it:=HZ) J<|lg.rv 6 J
   have mB:=ki.put (it:=E7) J<|ki.rv 1 J
   have rz:=mB.put (it:=J2) J<|mB.rv 4 J
   have qz:=rz.put (it:=J3) J<|rz.rv 6 J
   let afj:=J3::J2::E7::HZ::E7::AO::J2::J3::E9::E8::HZ::afk
   have Zw:HI M w fq (afj++r):=qz
   let afi:=HZ::E7::dZ::J9::eL::J0::AO::J2::J3::E9::E8::bc
   have Kl:HI M w fq (afi++r):=HI.aP (l:=afj) (l':=afi) (t:=r) Zw [3,2,17,18,19,20,5,1,0,8,9,21,11,22] au J J
   refine bF _ ?_ ⟨(gh.drop (k_:Int).toNat),ji,i',cI,qK,DD,Dw,a33,lU,a35,Dx,J,kK,J,Kl,(by intro e_ h_;exact uF e_ (apJ h_)),(by simp only[aog];omega),bt,bt⟩
   first|(simp only[aog];omega)|omega
  have p1:=dF b1
  refine qn J J J b1<|qn J J J b1<|qn J J J b1<|qn J J J b1<|qn J J J b1<|qn J J J b1<|qn J J J b1<|qn J J J b1<|qn J J J b1<|qn J J J b1<|qn J J J b1<|qn J J J b1<|kq (fun _ _=>dG J J J J b1 J e1)<|kq (fun _ _=>mv (v:=.bool false) J J e1)<|qn J J J J<|qn J J J J<|qn J J J J<|qn J J J J<|qn J J J J<|qn J J J J<|qn J J J J<|qn J J J J<|qn J J J J<|qn J J J J<|qn J J J J<|qn J J J J<|qn J J J J<|kq (fun _ _=>dG J J J J J J e1)<|zq ?_
  intro dP kr
  have eW:=eR.ext kr
  refine nx<|pk J J J<|ex<|aT<|aY<|bf<|nx<|sq<|az<|ai J gS<|k<|eql J J J J<|z<|nx<|cd (b:=decide ((k_:Int)=0)) J J (fun b2=>?_)<|fun b2=>?_
  ·
   have p2:=dT b2
   refine az<|ai J gi<|k<|OB (eW.rv 3 J) J J J J aj eA cK ?_
   intro a32 oX Fs
   let AN:=iL a32 (gh.drop (1:Int).toNat) oX
   have gW:=eW.put (it:=AN) J Fs
   refine ak (v:=sL a32 (gh.drop (1:Int).toNat) oX) J J<|aq<|ex<|aT<|bf ?_
   have jC:=gW.put (it:=fN) J<|gW.rv 3 J
   have jm:=jC.put (it:=AN) J<|jC.rv 1 J
   have ln:=jm.put (it:=J2) J<|jm.rv 12 J
   have kU:=ln.put (it:=J3) J<|ln.rv 14 J
   have ra:HI M w dP ((J3::J2::AN::fN::AN::dM)++r):=kU
   have lg:HI M w dP ((fN::AN::bX)++r):=HI.aP (l:=(J3::J2::AN::fN::AN::dM)) (l':=(fN::AN::bX)) (t:=r) ra [3,2,9,10,11,12,13,1,0,16,17,18,19,20] au J J
   refine bF _ ?_ ⟨(gh.drop (1:Int).toNat),js,ou,cI,m_,a32,oX,oZ,oY,j8,j6,J,fD,J,lg,(by intro e_ h_;exact uF e_ (apJ h_)),(by simp only[aog];omega),bt,bt⟩
   first|(simp only[aog];omega)|omega
  have p2:=dF b2
  refine sk<|nx<|sq<|az<|ai J gi<|ai J gS<|k<|OC (eW.rv 3 J) J J J J aj eA cK ?_
  intro a32 oX Fs
  let zg:=iL a32 (gh.take (k_:Int).toNat) oX
  have gW:=eW.put (it:=zg) J Fs
  refine k<|dL J J eA<|ai (v:=I 0) J J<|aq<|bk<|lp (fun m f w'=>∃(q_:Nat) (ji:List cN) (i':KV) (a33:OA) (lU:Nat),m=(gh.take (k_:Int).toNat).length-q_∧f 0=pV cZ 0∧f 7=sL a28 gh ru∧f 10=I (k_:Int)∧f 75=sL a32 (gh.take (k_:Int).toNat) oX∧f 76=I ((gh.take (k_:Int).toNat).length:Int)∧f 77=I (q_:Int)∧HI M w w' ([zg,jO,gf,fN,iH,dZ,J9,box bI #[I ((U.length:Nat):Int),sL AL (cX U fo o) AH] 26,J0,box cZ #[.slice aC aD aB,sL aw U av,sL ay fo ax,sL a33 ji lU,.map (some bA),I cI,sL j8 m_ j6,.map (some bK)] 142,J2,J3,oL w 175 a33 ji lU,cb bA i',J6,bU bK mq,J7]++r)∧(q_≤(gh.take (k_:Int).toNat).length)∧(ji.length≤js.length+201*q_)) _ ⟨0,js,ou,oZ,oY,J,fD,gi,gS,J,J,(bH J),gW,aj,aj⟩ ?_
  rintro _ f3 ey ⟨q_,ji,i',a33,lU,rfl,kK,lC,l3,lZ,mZ,pf,jC,sI,ada⟩
  refine sq ?_
  have adk:((gh.take (k_:Int).toNat)).length≤gh.length:=by rw[ic];exact arc _ _
  refine rg<|k<|lss J J pf mZ<|aq<|sq<|cd (b:=decide ((q_:Int)<((gh.take (k_:Int).toNat).length:Int))) J J (fun b3=>?_)<|fun b3=>?_
  ·
   have p3:=dT b3
   refine sk<|nx<|sq<|bk<|az<|k<|ia (jC.rv 0 J) J J lZ pf aj eA cK ?_
   intro iG x0 aM cw
   refine k<|nz cw.w cK J J ?_
   intro v0 Fq
   obtain⟨_,⟨_,_,rfl,⟨rfl,A4⟩,⟨_,_,rfl,⟨rfl,Fp⟩,⟨rfl,A3⟩⟩⟩,rfl⟩:=Fq
   refine k<|al jC cK ?_
   let Kj:=box cZ #[.slice aC aD aB,sL aw U av,sL ay fo ax,sL a33 ji lU,.map (some bA),I cI,sL j8 m_ j6,.map (some bK)] 142
   let DK:=oL w 175 a33 ji lU
   let XF:=zg::jO::gf::fN::iH::dZ::J9::eL::J0::Kj::J2::J3::DK::cb bA i'::bc
   intro gO fq lX (nu:HI M w fq ((box gO #[I 0,I 0,I 0] 122::XF)++r))
   refine k<|bu nu 0 J cK J J J J J J J ?_
   let vD:=box gO #[I x0.1,I x0.2.1,I x0.2.2] 122
   intro iQ (jm:HI M w iQ ((vD::XF)++r))
   refine aq<|rg<|ai J kK<|k<|cB jm 0 J cK J J au J<|k ?_
   let afh:=[fN,bU bK mq,vD,zg,jO,gf,iH,dZ,J9,eL,J0,J6,J7]
   have tN:HI M w iQ ([Kj,J2,J3,DK,cb bA i',fN,bU bK mq]++([vD,zg,jO,gf,iH,dZ,J9,eL,J0,J6,J7]++r)):=HI.aP (l:=(vD::XF)) (l':=(Kj::J2::J3::DK::cb bA i'::afh)) (t:=r) jm [10,11,12,13,14,4,16,0,1,2,3,5,6,7,8,9,15,17] au J J
   have fb:=A_ (cZ:=cZ) (aC:=aC) (aD:=aD) (aB:=aB) (aw:=aw) (av:=av) (U:=U) (ay:=ay) (ax:=ax) (fo:=fo) (eD:=a33) (eC:=lU) (sp:=ji) (bA:=bA) (mp:=i') (pn:=cI) (de:=j8) (db:=j6) (pr:=m_) (bK:=bK) (mq:=mq) (fz:=x0.1) (fC:=x0.2.1) (gH:=x0.2.2) (w:=w) (w_:=iQ) (r:=([vD,zg,jO,gf,iH,dZ,J9,eL,J0,J6,J7]++r)) (M:=M) aR A4 Fp A3 hT aj aj (by exact eB) aj (by exact tx) tN
   refine ca Ri J (ec J<|ec J e0) fb ?_
   rintro _ j1 ⟨qK,Jq,sW,sS,rfl,ln,Sy⟩
   let NH:=box cZ #[.slice aC aD aB,sL aw U av,sL ay fo ax,sL sW qK sS,.map (some bA),I cI,sL j8 m_ j6,.map (some bK)] 142
   let NG:=oL w 175 sW qK sS
   let ND:=cb bA Jq
   refine z<|aF<|nx<|rg<|k<|add J J pf J aR<|ai (v:=I ((q_:Int)+1)) J J<|z ?_
   have kU:=ln.put (it:=fN) J<|ln.rv 5 J
   have lg:=kU.put (it:=J2) J<|kU.rv 2 J
   have ki:=lg.put (it:=J3) J<|lg.rv 4 J
   let afg:=J3::J2::fN::NH::J2::J3::NG::ND::afh
   have uh:HI M w j1 (afg++r):=ki
   let aff:=zg::jO::gf::fN::iH::dZ::J9::eL::J0::NH::J2::J3::NG::ND::bc
   have mB:HI M w j1 (aff++r):=HI.aP (l:=afg) (l':=aff) (t:=r) uh [11,12,13,2,14,15,16,17,18,3,1,0,6,7,19,9,20] au J J
   refine bF _ ?_ ⟨(q_+1),qK,Jq,sW,sS,J,kK,lC,l3,lZ,mZ,(bH J),mB,aj,aj⟩
   omega
  have p3:=dF b3
  refine ex<|aT<|aY<|bf<|cO<|ai J kK<|ai J lC<|ai J l3<|k<|OC (jC.rv 4 J) J J J J aj eA cK ?_
  intro sW sS Fq
  let yc:=iL sW (gh.take (k_:Int).toNat) sS
  have nu:=jC.put (it:=yc) J Fq
  let Ki:=box cZ #[.slice aC aD aB,sL aw U av,sL ay fo ax,sL a33 ji lU,.map (some bA),I cI,sL j8 m_ j6,.map (some bK)] 142
  let E6:=oL w 175 a33 ji lU
  let E5:=cb bA i'
  let afe:=yc::zg::jO::gf::fN::iH::dZ::J9::eL::J0::Ki::J2::J3::E6::E5::bc
  have jm:HI M w ey (afe++r):=nu
  refine k ?_
  let afd:=[bU bK mq,yc,zg,jO,gf,iH,dZ,J9,eL,J0,J6,J7]
  have tN:HI M w ey ([Ki,J2,J3,E6,E5,fN,bU bK mq,yc]++([zg,jO,gf,iH,dZ,J9,eL,J0,J6,J7]++r)):=HI.aP (l:=afe) (l':=(Ki::J2::J3::E6::E5::fN::afd)) (t:=r) jm [10,11,12,13,14,4,16,0,1,2,3,5,6,7,8,9,15,17] au J J
  have fb:=yx (cZ:=cZ) (aC:=aC) (aD:=aD) (aB:=aB) (aw:=aw) (av:=av) (U:=U) (ay:=ay) (ax:=ax) (fo:=fo) (eD:=a33) (eC:=lU) (sp:=ji) (bA:=bA) (mp:=i') (pn:=cI) (de:=j8) (db:=j6) (pr:=m_) (bK:=bK) (mq:=mq) (zL:=sW) (zG:=sS) (es:=(gh.take (k_:Int).toNat)) (w:=w) (w_:=ey) (r:=([zg,jO,gf,iH,dZ,J9,eL,J0,J6,J7]++r)) (M:=M) aR (by exact tx) (by intro x_ h_;rw[C7,JD];exact uF x_ (apl h_)) tN
  refine ca KK J (ec J<|ec J e0) fb ?_
  rintro _ fq ⟨qK,a35,Dx,rfl,ln,Sy⟩
  let U6:=box cZ #[.slice aC aD aB,sL aw U av,sL ay fo ax,sL a33 ji lU,.map (some bA),I cI,sL a35 qK Dx,.map (some bK)] 142
  let HY:=iL a35 qK Dx
  refine z<|nx ?_
  have adi:((gh.take (k_:Int).toNat)).length=k_:=by rw[ic,dq];exact ao7 aj
  refine rg<|ai J lC<|ai J l3<|k<|OB (ln.rv 11 J) J J J J aj eA cK ?_
  intro DD Dw A4
  let E4:=iL DD (gh.drop (k_:Int).toNat) Dw
  have kU:=ln.put (it:=E4) J A4
  refine ak (v:=sL DD (gh.drop (k_:Int).toNat) Dw) J J<|z<|aF ?_
  have lg:=kU.put (it:=HY) J<|kU.rv 6 J
  have ki:=lg.put (it:=E4) J<|lg.rv 1 J
  have mB:=ki.put (it:=J2) J<|ki.rv 4 J
  have rz:=mB.put (it:=J3) J<|mB.rv 6 J
  let afc:=J3::J2::E4::HY::E4::U6::J2::J3::E6::E5::HY::afd
  have zj:HI M w fq (afc++r):=rz
  let afb:=HY::E4::dZ::J9::eL::J0::U6::J2::J3::E6::E5::bc
  have qz:HI M w fq (afb++r):=HI.aP (l:=afc) (l':=afb) (t:=r) zj [3,2,17,18,19,20,5,1,0,8,9,21,11,22] au J J
  refine bF _ ?_ ⟨(gh.drop (k_:Int).toNat),ji,i',cI,qK,DD,Dw,a33,lU,a35,Dx,J,kK,J,qz,(by intro e_ h_;exact uF e_ (apJ h_)),(by simp only[aog];omega),bt,bt⟩
  first|(simp only[aog];omega)|omega
 refine ex<|aT<|aY<|bf<|Et J ?_
 let AM:=box cZ #[.slice aC aD aB,sL aw U av,sL ay fo ax,sL oZ js oY,.map (some bA),I cI,sL j8 m_ j6,.map (some bK)] 142
 have dI:=HI.aP (l:=[iL j8 m_ j6,iL a28 gh ru,dZ,J9,eL,J0,AM,J2,J3,oL w 175 oZ js oY,cb bA ou,J6,bU bK mq,J7]) (l':=[AM,J2,J3,oL w 175 oZ js oY,cb bA ou,iL j8 m_ j6,bU bK mq,J7]) (t:=r) dX [6,7,8,9,10,0,12,13] au J J
 have e0:(cI:Int)=pn:=by exact C7
 try rw[←e0]
 refine⟨js,ou,m_,oZ,oY,j8,j6,?_,?_,aj,(by exact tx)⟩
 · first|rfl|simp only[e0]|(simp only[an1])
 · first|exact dI|simpa +zetaDelta only[e0,an1] using dI
theorem Y3:cx aI 119:=cF Tryz.func119
theorem Ex (Bw:aK fz) (D6:aK fC) (Bv:aK gH) (YO:aK mR) (YN:aK mQ) (YM:aK nq):Calls aI 119 #[.agg #[I fz,I fC,I gH],.agg #[I mR,I mQ,I nq]] w (cm fun v w'=>v=.bool (decide (fz=mR)&&decide (fC=mQ))∧Ext w w'):=by
 refine dx 17 Tryz.func119 J J J qk fun f0 ha H=>?_
 have i0:f0 0=.agg #[I fz,I fC,I gH]:=ha 0 bj
 have i1:f0 1=.agg #[I mR,I mQ,I nq]:=ha 1 bj
 refine az<|k<|bx H J i0 ?_
 intro aW w0 bW (H0:HI (fun _=>False) w w0 [box aW #[I fz,I fC,I gH] 122])
 refine k<|bx H0 J i1 ?_
 intro ba w1 df (H1:HI (fun _=>False) w w1 [box ba #[I mR,I mQ,I nq] 122,box aW #[I fz,I fC,I gH] 122])
 refine ak (v:=.bool false) J J<|bw<|aQ kV J J<|bo H1 1 J aU J J J<|aQ kV J J<|bo H1 0 J aU J J J<|k<|eql J J J J<|ai (v:=.bool (decide (fz=mR))) J J ?_
 rcases bE (decide (fz=mR)) with b0|b0
 ·
  refine aZ J J J b0<|fa mW J J<|aZ J J J b0<|lx H1 1 J aU J J J<|aZ J J J b0<|fa mW J J<|aZ J J J b0<|lx H1 0 J aU J J J<|aZ J J J b0<|eql J J J J<|k<|aP J J J J b0 J<|ak (v:=.bool (decide (fC=mQ))) J J<|aq<|rt<|r1 J J ?_
  exact⟨an0 Value.bool (by simp only[b0,BL]),H1.below⟩
 refine aX J J J b0<|aX J J J b0<|aX J J J b0<|aX J J J b0<|aX J J J b0<|k<|dG J J J J b0 J<|ak (v:=.bool false) J J<|aq<|rt<|r1 J J ?_
 exact⟨an0 Value.bool (by simp only[b0,BL]),H1.below⟩
theorem Ge {xs:List (Int×Int×Int)} (H:HI M w w_ ([oL w 122 dU xs dN]++r)):Calls aI 118 #[sL dU xs dN,.func (.func 119) #[] #[]] w_ (cm fun v w'=>∃(XK:List eu),v=sL dU XK dN∧HI M w w' ([oL w 122 dU XK dN]++r)∧XK.length≤xs.length∧∀x∈XK,x∈xs):=by
 refine enter 66 Tryz.func118 J J J fun f0 ha=>?_
 have GY:=kl<|H.at_ 0 J
 have i0:f0 0=sL dU xs dN:=ha 0 bj
 have i1:f0 1=.func (.func 119) #[] #[]:=ha 1 bj
 refine az<|ak (v:=.slice none 0 0) J J<|aq<|sq<|az<|ai J i0<|k<|dL J J eA<|k<|lss J J J J<|z<|nx<|cd (b:=decide ((xs.length:Int)<2)) J J (fun b0=>?_)<|fun b0=>?_
 ·
  refine az<|ai J i0<|ak (v:=sL dU xs dN) J J<|aq<|rt<|aL<|r1 J J ?_
  refine⟨xs,?_,?_,(by exact an3 _),(by exact fun _ h_=>h_)⟩
  · first|rfl|simp only[an1]
  · first|exact H|simpa +zetaDelta only[an1] using H
 have p0:=dF b0
 refine sk<|nx<|sq<|az<|ak (v:=I 1) J J<|aq<|bk<|lp (fun m f w'=>∃(k_:Nat),m=xs.length-k_∧f 0=sL dU xs dN∧f 1=.func (.func 119) #[] #[]∧f 5=I (k_:Int)∧HI M w w' ([oL w 122 dU xs dN]++r)∧(1≤k_∧k_≤xs.length)) _ ⟨1,J,i0,i1,(bH J),H,aj⟩ ?_
 rintro _ f0 w0 ⟨k_,rfl,s0,s1,s2,H0,pj⟩
 refine sq<|az<|ai J s2<|ai J s0<|k<|dL J J eA<|k<|lss J J J J<|z<|nx<|cd (b:=decide ((k_:Int)<(xs.length:Int))) J J (fun b1=>?_)<|fun b1=>?_
 ·
  have p1:=dT b1
  refine sk<|nx<|sq<|bk<|sq<|my [.r,.r,.r,.r,.r,.r,.r,.r,.r,.r,.r] (fun _=>True) J aS (fun _ _=>trivial)<|yq J J<|kq (fun _ _=>mv J s1 e1)<|bO<|kq (fun _ _=>mv J s0 e1)<|bO<|kq (fun _ _=>mv J s2 e1)<|bO<|th (H0.at_ 0 J) J J J J aj eA cK ?_
  intro iG x0 aM cw
  refine bO<|yr cw cK J J ?_
  intro v0 cu
  obtain⟨_,⟨_,_,rfl,⟨rfl,ee⟩,⟨_,_,rfl,⟨rfl,eb⟩,⟨rfl,fh⟩⟩⟩,rfl⟩:=cu
  refine bO<|kq (fun _ _=>mv J s0 e1)<|bO<|kq (fun _ _=>mv J s2 e1)<|bO<|kq (fun _ _=>sub J J J J aR e1)<|bO<|th (H0.at_ 0 J) J J J J aj eA cK ?_
  intro ry x1 cQ gN
  refine bO<|yr gN cK J J ?_
  intro v1 jd
  obtain⟨_,⟨_,_,rfl,⟨rfl,jX⟩,⟨_,_,rfl,⟨rfl,iU⟩,⟨rfl,kW⟩⟩⟩,rfl⟩:=jd
  refine zq<|yq J J<|kq (v:=.bool (decide (x0.1=x1.1)&&decide (x0.2.1=x1.2.1))) (fun v_ _=>have cc:=Ex (fz:=x0.1) (fC:=x0.2.1) (gH:=x0.2.2) (mR:=x1.1) (mQ:=x1.2.1) (nq:=x1.2.2) (w:=v_) ee eb fh jX iU kW;cf Y3 rfl rfl rfl (ec J<|ec J e0) cc fun _ _ h_=>e2 h_)<|zq<|yz ?_
  intro w1 f1 _ bW _ _ cC iT
  have H1:=H0.ext bW
  have s3:=(cC 0 J).trans s0
  have s4:=(cC 1 J).trans s1
  have s5:=(cC 5 J).trans s2
  have s6:=cC 28 J
  refine kz<|nx<|cd (b:=(decide (x0.1=x1.1)&&decide (x0.2.1=x1.2.1))) J s6 (fun b2=>?_)<|fun b2=>?_
  ·
   refine az<|ai J s3<|ai J s5<|k<|Vs (H1.at_ 0 J) J J J J aj eA cK<|ak (v:=.slice (pC dU dN (k_:Int).toNat) (xs.length-(k_:Int).toNat) (dN-(k_:Int).toNat)) J J<|aq<|sq<|az<|ak (v:=I 1) J J<|aq<|bk<|lp (fun m f w'=>∃(tU:Nat) (q_:Nat) (jq:List eu),m=xs.length-k_-tU∧f 0=sL dU xs dN∧f 1=.func (.func 119) #[] #[]∧f 5=I (q_:Int)∧f 6=.slice (pC dU dN (k_:Int).toNat) (xs.length-(k_:Int).toNat) (dN-(k_:Int).toNat)∧f 7=I (tU:Int)∧HI M w w' ([own w.heap.size 122 (.slice dU xs.length dN) jq]++r)∧(jq.length=xs.length∧∀x∈jq,x∈xs)∧(k_≤q_∧q_<k_+tU∧k_+tU≤xs.length)) _ ⟨1,k_,xs,J,s3,s4,(bH s5),J,(bH J),H1,(by exact⟨J,fun _ h_=>h_⟩),aj⟩ ?_
   rintro _ f2 w2 ⟨tU,q_,jq,rfl,s7,s8,s9,ej,eX,H2,hs,sI⟩
   refine sq<|az<|ai J eX<|ai J ej<|k<|dL J J eA<|k<|lss J J J J<|z<|nx<|cd (b:=decide ((tU:Int)<((xs.length-(k_:Int).toNat:Nat):Int))) J J (fun b3=>?_)<|fun b3=>?_
   ·
    have p3:=dT b3
    refine sk<|nx<|sq<|bk<|sq<|my [.r,.r,.r,.r,.r,.r,.r,.r,.r,.r,.r,.r] (fun _=>True) J aS (fun _ _=>trivial)<|yq J J<|kq (fun _ _=>mv J s8 e1)<|bO<|kq (fun _ _=>mv J ej e1)<|bO<|kq (fun _ _=>mv J eX e1)<|bO<|Sx (H2.at_ 0 J) J J J J aj eA cK ?_
    intro ma x2 gZ kf
    refine bO<|yr kf cK J J ?_
    intro v2 nV
    obtain⟨_,⟨_,_,rfl,⟨rfl,pg⟩,⟨_,_,rfl,⟨rfl,qd⟩,⟨rfl,qb⟩⟩⟩,rfl⟩:=nV
    refine bO<|kq (fun _ _=>mv J ej e1)<|bO<|kq (fun _ _=>mv J eX e1)<|bO<|kq (fun _ _=>sub J J J J aR e1)<|bO<|Sx (H2.at_ 0 J) J J J J aj eA cK ?_
    intro po x3 qm sO
    refine bO<|yr sO cK J J ?_
    intro v3 oH
    obtain⟨_,⟨_,_,rfl,⟨rfl,sg⟩,⟨_,_,rfl,⟨rfl,sf⟩,⟨rfl,qa⟩⟩⟩,rfl⟩:=oH
    refine zq<|yq J J<|kq (v:=.bool (decide (x2.1=x3.1)&&decide (x2.2.1=x3.2.1))) (fun v_ _=>have cc:=Ex (fz:=x2.1) (fC:=x2.2.1) (gH:=x2.2.2) (mR:=x3.1) (mQ:=x3.2.1) (nq:=x3.2.2) (w:=v_) pg qd qb sg sf qa;cf Y3 rfl rfl rfl (ec J<|ec J e0) cc fun _ _ h_=>e2 h_)<|bO<|kq (fun _ _=>j4 J J e1)<|zq<|yz ?_
    intro w3 f3 _ df _ _ fK Ao
    have H3:=H2.ext df
    have fA:=(fK 0 J).trans s7
    have fD:=(fK 1 J).trans s8
    have gi:=(fK 5 J).trans s9
    have gS:=(fK 6 J).trans ej
    have kb:=(fK 7 J).trans eX
    have kK:=fK 49 J
    refine kz<|nx<|cd (b:=!(decide (x2.1=x3.1)&&decide (x2.2.1=x3.2.1))) J kK (fun b4=>?_)<|fun b4=>?_
    ·
     refine az<|ai J fA<|ai J gi<|ai J gS<|ai J kb<|k<|aiJ (H3.at_ 0 J) J J J J aj eA cK ?_
     intro tJ x4 xD wc
     refine k<|nz wc cK J J ?_
     intro v4 A5
     obtain⟨_,⟨_,_,rfl,⟨rfl,Ft⟩,⟨_,_,rfl,⟨rfl,Qm⟩,⟨rfl,ab4⟩⟩⟩,rfl⟩:=A5
     refine k<|iz (H3.at_ 0 J) J J J J aj eA cK ?_
     intro g0 x5 iE Ml MI
     refine k<|qj H3 0 J iE J aj cK J J J J ⟨_,⟨_,_,J,⟨J,(show aK (x4.1) from bt)⟩,⟨_,_,J,⟨J,(show aK (x4.2.1) from bt)⟩,⟨J,(show aK (x4.2.2) from bt)⟩⟩⟩,J⟩ ?_
     intro w4 (H4:HI M w w4 ([own w.heap.size 122 (.slice dU xs.length dN) (jq.set ((q_:Int).toNat) (x4.1,x4.2.1,x4.2.2))]++r))
     refine aq<|rg<|ai J gi<|k<|add J J J J aR<|ak (v:=I ((q_:Int)+1)) J J<|z<|aF<|nx<|rg<|ai J kb<|k<|add J J J J aR<|ak (v:=I ((tU:Int)+1)) J J<|z<|bF _ ?_ ⟨(tU+1),(q_+1),(jq.set ((q_:Int).toNat) (x4.1,x4.2.1,x4.2.2)),J,fA,fD,(bH J),gS,(bH J),H4,(by exact aaZ hs xD),aj⟩
     omega
    refine sk<|aF<|nx<|rg<|ai J kb<|k<|add J J J J aR<|ak (v:=I ((tU:Int)+1)) J J<|z<|bF _ ?_ ⟨(tU+1),q_,jq,J,fA,fD,(bH gi),gS,(bH J),H3,(by exact hs),aj⟩
    omega
   refine ex<|aT<|aY<|bf<|cO<|ai J s7<|ai J s9<|k<|Vs (H2.at_ 0 J) J J J J aj eA cK<|k<|clE H2 0 J J J (q:=(q_:Int).toNat) J eA cK (by have h_:=hs.1;omega) ?_
   intro w3 (H3:HI M w w3 ([own w.heap.size 122 (.slice dU xs.length dN) (jq.take ((q_:Int).toNat)++List.replicate (jq.length-((q_:Int).toNat)) (0,0,0))]++r))
   refine bw<|ai J s7<|ai J s9<|k<|Sd H3 0 J J J J J (by have h_:=hs.1;first|omega|(simp only[fJ,ic,oz];omega)) eA cK ?_
   intro (H4:HI M w w3 ([oL w 122 dU ((jq.take ((q_:Int).toNat)++List.replicate (jq.length-((q_:Int).toNat)) (0,0,0)).take (q_:Int).toNat) dN]++r))
   refine ak (v:=sL dU ((jq.take ((q_:Int).toNat)++List.replicate (jq.length-((q_:Int).toNat)) (0,0,0)).take (q_:Int).toNat) dN) J J<|aq<|rt<|bS<|aL<|dY<|bS<|aL<|r1 J J ?_
   refine⟨((jq.take ((q_:Int).toNat)++List.replicate (jq.length-((q_:Int).toNat)) (0,0,0)).take (q_:Int).toNat),?_,?_,(by have h_:=hs.1;exact aa1 h_ aj),(by have h_:=hs.1;exact aa0 hs.2 aj)⟩
   · first|rfl|simp only[an1]
   · first|exact H4|simpa +zetaDelta only[an1] using H4
  refine sk<|aF<|nx<|rg<|ai J s5<|k<|add J J J J aR<|ak (v:=I ((k_:Int)+1)) J J<|z<|bF _ ?_ ⟨(k_+1),J,s3,s4,(bH J),H1,aj⟩
  omega
 refine ex<|aT<|aY<|bf<|cO<|ai J s0<|ak (v:=sL dU xs dN) J J<|aq<|rt<|r1 J J ?_
 refine⟨xs,?_,?_,(by exact an3 _),(by exact fun _ h_=>h_)⟩
 · first|rfl|simp only[an1]
 · first|exact H0|simpa +zetaDelta only[an1] using H0
theorem agC:cx aI 118:=cF Tryz.func118
theorem aaN:gR aI 175 0 0:=jT Tryz.underlying175
theorem GG (qS:aK pn) (hT:fS 0 w) (ho:ik U) (dy:U.length≤64) (eB:fo.length=U.length) (fL:∀x∈fo,x<((U.length:Nat):Int)) (JD:pn=((U.length:Nat):Int)) (uq:bJ pn pr=true) (Iy:sp.length≤1000000000000) (H:HI M w w_ ([box cZ #[.slice aC aD aB,sL aw U av,sL ay fo ax,sL eD sp eC,.map (some bA),I pn,sL de pr db,.map (some bK)] 142,iL aw U av,iL ay fo ax,oL w 175 eD sp eC,cb bA mp,iL de pr db,bU bK mq]++r)):Calls aI 80 #[pV cZ 0] w_ (cm fun v w'=>∃(tc:List cN) (GW:KV) (CG:List (List bp)) (oa:OA) (n9:Nat) (ze:OA) (y':Nat),v=.tuple #[]∧HI M w w' ([box cZ #[.slice aC aD aB,sL aw U av,sL ay fo ax,sL oa tc n9,.map (some bA),I pn,sL ze CG y',.map (some bK)] 142,iL aw U av,iL ay fo ax,oL w 175 oa tc n9,cb bA GW,iL ze CG y',bU bK mq]++r)∧tc.length≤sp.length+53000000∧bJ pn CG=true):=by
 refine enter 77 Tryz.func80 J J J fun f0 ha=>?_
 have ja:=bg<|H.rv 1 J
 have kR:=bg<|H.rv 2 J
 have D2:=kl<|H.at_ 3 J
 have D3:=bg<|H.rv 5 J
 have i0:f0 0=pV cZ 0:=ha 0 bj
 have Fu:=oV uq
 have Q6:=(qW (U:=U) (fo:=fo) Fu).1
 have uF:=Uc (U:=U) (fo:=fo) JD Fu eB fL
 refine sq<|my [.r,.r,.r,.r,.r,.r,.r,.r,.r,.r,.r] (fun _=>True) J aS (fun _ _=>trivial)<|yq J J<|kq (fun _ _=>mv J i0 e1)<|bO<|kq (fun _ _=>nc J J e1)<|bO<|kq (fun _ _=>fa IH J J e1)<|bO<|kq (fun _ x_=>cB (H.ext x_) 0 J dQ J J au J e1)<|bO<|kq (fun _ _=>mv J i0 e1)<|bO<|kq (fun _ _=>nc J J e1)<|bO<|kq (fun _ _=>fa rj J J e1)<|bO<|kq (fun _ x_=>cB (H.ext x_) 0 J bm J J au J e1)<|zq<|yu J (fun _ v w'=>∃(a0:OA) (c0:Nat),v=.agg #[I pn,sL a0 (ff pn pr) c0]∧RV H.fg w' (sL a0 (ff pn pr) c0) (ff pn pr)) J oq J (fun v_ _ x_ _=>have cU:=wD (mn:=pn) (mr:=pr) (w:=v_) (H.ext x_).mb qS ((H.ext x_).rv 5 rfl) (by exact uq);ca Rc rfl (ec J e0) cU (fun _ w1 ⟨a1,c1,e_,df,eb⟩=>⟨_,J,df,⟨a1,c1,e_,(bl.rv eb (H.ext x_).mb)⟩⟩))<|lJ J (fun _ v w'=>∃(a3:OA) (c3:Nat),v=sL a3 (cJ U fo pn<|ff pn pr) c3∧bl H.fg 122 w_ (cJ U fo pn<|ff pn pr) (.slice a3 (cJ U fo pn<|ff pn pr).length c3) w') 0 J J (mN<|by rintro _ _ _ x_ ⟨a3,c3,e_,iU⟩;exact⟨a3,c3,e_,iU.Md x_⟩) J (fun v_ _ _ x_ _ h_=>let ⟨a4,c4,s0,kW⟩:=h_;have H9:=(H.ext x_).put (it:=iL a4 (ff pn pr) c4) rfl kW;have fb:=uR (U:=U) (fo:=fo) (mn:=pn) (mr:=(ff pn pr)) (aC:=aC) (aD:=aD) (aB:=aB) H9.mb (hT.ext H9.below) (H9.rv 2 J) (H9.rv 3 J) bt (H9.rv 0 J) aj (by exact eB) (by exact fL) (by exact Fu);ca Ra rfl (ec J<|ec s0 e0) fb (fun _ w3 ⟨a5,c5,e_,fH,nV⟩=>⟨_,J,fH,⟨a5,c5,e_,(bl.anyM<|bl.base nV x_)⟩⟩))<|lJ J (fun _ v w'=>∃(a6:OA) (c6:Nat),v=sL a6 (cJ U fo pn<|ff pn pr) c6∧bl H.fg 122 w_ (cJ U fo pn<|ff pn pr) (.slice a6 (cJ U fo pn<|ff pn pr).length c6) w') 0 J J (mN<|by rintro _ _ _ x_ ⟨a6,c6,e_,qd⟩;exact⟨a6,c6,e_,qd.Md x_⟩) J (fun _ _ _ _ _ h_=>let ⟨a7,c7,s1,qb⟩:=h_;jM rfl s1 ⟨_,J,Ext.refl _,⟨a7,c7,J,qb⟩⟩)<|yz ?_
 intro w4 f0 _ jg _ _ cC iT
 obtain⟨a8,c8,s2,oH⟩:=iT 0 _ _ rfl
 have cL:=H.eP<|bl.anyM oH
 have s3:=(cC 0 J).trans i0
 refine kz<|cO<|ai J s2<|k ?_
 let J0:=oL w 122 a8 (cJ U fo pn (ff pn pr)) c8
 let J1:=box cZ #[.slice aC aD aB,sL aw U av,sL ay fo ax,sL eD sp eC,.map (some bA),I pn,sL de pr db,.map (some bK)] 142
 let J2:=iL aw U av
 let J3:=iL ay fo ax
 let J4:=oL w 175 eD sp eC
 let J5:=iL de pr db
 let bc:=[J5,bU bK mq]
 let bX:=J0::J1::J2::J3::J4::cb bA mp::bc
 have cH:HI M w w4 ([J0]++([J1,J2,J3,J4,cb bA mp,J5,bU bK mq]++r)):=HI.aP (l:=(J0::J1::J2::J3::J4::cb bA mp::bc)) (l':=bX) (t:=r) cL [0,1,2,3,4,5,6,7] au J J
 have nr:=Ge (dU:=a8) (dN:=c8) (xs:=(cJ U fo pn<|ff pn pr)) (w:=w) (w_:=w4) (r:=([J1,J2,J3,J4,cb bA mp,J5,bU bK mq]++r)) (M:=M) cH
 refine ca agC J (ec J<|ec J e0) nr ?_
 rintro _ w5 ⟨o0,rfl,dV,q0,q1⟩
 let J6:=oL w 122 a8 o0 c8
 refine ak (v:=sL a8 o0 c8) J J<|aq<|sq<|az<|ai (v:=sL a8 o0 c8) J J<|k<|dL J J eA<|ai (v:=I 0) J J<|aq<|bk<|lp (fun m f w'=>∃(j_:Nat) (js:List cN) (ou:KV) (a9:OA) (c9:Nat),m=o0.length-j_∧f 0=pV cZ 0∧f 2=sL a8 o0 c8∧f 20=sL a8 o0 c8∧f 21=I (o0.length:Int)∧f 22=I (j_:Int)∧HI M w w' ((J6::box cZ #[.slice aC aD aB,sL aw U av,sL ay fo ax,sL a9 js c9,.map (some bA),I pn,sL de pr db,.map (some bK)] 142::J2::J3::oL w 175 a9 js c9::cb bA ou::bc)++r)∧(j_≤o0.length)∧(js.length≤sp.length+201*j_)) _ ⟨0,sp,mp,eD,eC,J,s3,J,J,J,(bH J),dV,aj,aj⟩ ?_
 rintro _ f1 w6 ⟨j_,js,ou,a9,c9,rfl,s4,s5,s6,s7,s8,cT,pj,Iz⟩
 refine az<|k<|lss J J s8 s7<|aq<|sq<|cd (b:=decide ((j_:Int)<(o0.length:Int))) J J (fun b0=>?_)<|fun b0=>?_
 ·
  have p0:=dT b0
  refine sk<|nx<|sq<|bk<|az<|k<|iz (cT.at_ 0 J) J J s6 s8 aj eA cK ?_
  intro g0 x0 iE aM cw
  refine k<|nz cw cK J J ?_
  intro v0 sg
  obtain⟨_,⟨_,_,rfl,⟨rfl,sf⟩,⟨_,_,rfl,⟨rfl,qa⟩,⟨rfl,A5⟩⟩⟩,rfl⟩:=sg
  refine k<|al cT cK ?_
  let J7:=box cZ #[.slice aC aD aB,sL aw U av,sL ay fo ax,sL a9 js c9,.map (some bA),I pn,sL de pr db,.map (some bK)] 142
  let J8:=oL w 175 a9 js c9
  let dM:=J7::J2::J3::J8::cb bA ou::bc
  intro aW w7 jr (dX:HI M w w7 ((box aW #[I 0,I 0,I 0] 122::J6::dM)++r))
  refine k<|bu dX 0 J cK J J J J J J J ?_
  let J9:=box aW #[I x0.1,I x0.2.1,I x0.2.2] 122
  intro w8 (dI:HI M w w8 ((J9::J6::dM)++r))
  refine bw<|ai J s4<|aQ kV J J<|bo dI 0 J aU J J J<|aQ sP J J<|bo dI 0 J aU J J J<|k ?_
  let iO:=[J5,bU bK mq,J9,J6]
  have cG:HI M w w8 (dM++([J9,J6]++r)):=HI.aP (l:=(J9::J6::dM)) (l':=(J7::J2::J3::J8::cb bA ou::iO)) (t:=r) dI [2,3,4,5,6,7,8,0,1] au J J
  have n5:=mL (cZ:=cZ) (aC:=aC) (aD:=aD) (aB:=aB) (aw:=aw) (av:=av) (U:=U) (ay:=ay) (ax:=ax) (fo:=fo) (eD:=a9) (eC:=c9) (sp:=js) (bA:=bA) (mp:=ou) (pn:=pn) (de:=de) (db:=db) (pr:=pr) (bK:=bK) (mq:=mq) (f_:=x0.1) (t_:=x0.2.2) (w:=w) (w_:=w8) (r:=([J9,J6]++r)) (M:=M) qS sf A5 hT aj aj (by exact eB) aj (by exact uq) cG
  refine ca zD J (ec J<|ec J<|ec J e0) n5 ?_
  rintro _ w9 ⟨o1,o2,o3,jv,ju,rfl,d_,q2,q3⟩
  let dZ:=box cZ #[.slice aC aD aB,sL aw U av,sL ay fo ax,sL jv o2 ju,.map (some bA),I pn,sL de pr db,.map (some bK)] 142
  let eL:=cb bA o3
  let fj:=dZ::J2::J3::oL w 175 jv o2 ju::eL::iO
  have dD:HI M w w9 (fj++r):=d_
  refine ak (v:=I o1) J J<|z<|nx<|my [.s,.r,.r,.r,.r,.r,.r,.r,.r,.r,.r,.r,.r,.r,.e,.f,.f,.e] (fun _=>True) J aS (fun _ _=>trivial)<|yq J J<|kq (fun _ _=>mv J s4 e1)<|bO<|kq (fun _ _=>mv J s4 e1)<|bO<|kq (fun _ _=>nc J J e1)<|bO<|kq (fun _ _=>fa l7 J J e1)<|bO<|kq (fun _ x_=>lx (dD.ext x_) 0 J nI J J J e1)<|bO<|kq (fun _ _=>fa kV J J e1)<|bO<|kq (fun _ x_=>lx (dD.ext x_) 7 J aU J J J e1)<|bO<|kq (fun _ _=>fa mW J J e1)<|bO<|kq (fun _ x_=>lx (dD.ext x_) 7 J aU J J J e1)<|bO<|kq (fun _ _=>mv (v:=I o1) J J e1)<|bO<|kq (fun _ _=>fa sP J J e1)<|bO<|kq (fun _ x_=>lx (dD.ext x_) 7 J aU J J J e1)<|bO<|kq (fun _ _=>bd (v:=.agg #[I 4,I x0.1,I x0.2.1,I o1,I x0.2.2]) J (ck J<|ck J<|ck J<|ck J<|ck J ew) (fun _=>aS) e1)<|zq<|yu J (fun _ v w'=>∃(mU:OA) (mT:Nat),v=sL mU ([(4,x0.1,x0.2.1,o1,x0.2.2)]:List cN) mT∧RV dD.fg w' (sL mU ([(4,x0.1,x0.2.1,o1,x0.2.2)]:List cN) mT) ([(4,x0.1,x0.2.1,o1,x0.2.2)]:List cN)) J oq J (fun v_ N_ x_ n_=>?_) ?_
  ·
   have gW:=dD.ext x_
   refine bs (xs:=([(4,x0.1,x0.2.1,o1,x0.2.2)]:List cN)) (cells:=#[I 4,I x0.1,I x0.2.1,I o1,I x0.2.2]) (e:=175) gW J (ck J ew) (fun _=>aS) ⟨[I 4,I x0.1,I x0.2.1,I o1,I x0.2.2],[],J,⟨_,_,J,⟨J,(show aK (4) from aR)⟩,⟨_,_,J,⟨J,(show aK (x0.1) from bt)⟩,⟨_,_,J,⟨J,(show aK (x0.2.1) from bt)⟩,⟨_,_,J,⟨J,(show aK (o1) from bt)⟩,⟨J,(show aK (x0.2.2) from bt)⟩⟩⟩⟩⟩,J⟩ J au ?_
   intro g2 ey lX (jf:HI M w ey ((own w.heap.size 175 (.slice (some ⟨g2,0,none⟩) 1 1) ([(4,x0.1,x0.2.1,o1,x0.2.2)]:List cN)::fj)++r))
   have jC:=jf.freeze 0 J
   exact⟨_,J,lX,⟨(some ⟨g2,0,none⟩),1,J,(l4 J<|jC.rv 0 J)⟩⟩
  refine ye<|yf J (fun _ _=>nc J J e3)<|yf J (fun _ _=>fa l7 J J e3)<|ye<|yz ?_
  intro fq f2 _ nS _ _ fK Ao
  have nu:=dD.ext nS
  have s9:=(fK 0 J).trans s4
  have ej:=(fK 2 J).trans s5
  have eX:=(fK 20 J).trans s6
  have fA:=(fK 21 J).trans s7
  have fD:=(fK 22 J).trans s8
  have gi:=fK 36 J
  obtain⟨a12,qY,gS,Qm⟩:=Ao 0 _ _ rfl
  let gf:=iL a12 ([(4,x0.1,x0.2.1,o1,x0.2.2)]:List cN) qY
  have jm:=nu.put (it:=gf) J Qm
  have kb:=fK 48 J
  refine kc<|lV jm 4 J J J J gi gS (jm.rv 0 J).src Lb AV J (by simp only[iS,gA];omega) J ?_
  intro kh kg iQ (ln:HI M w iQ ((gf::dZ::J2::J3::oL w 175 kh (o2++([(4,x0.1,x0.2.1,o1,x0.2.2)]:List cN)) kg::eL::iO)++r))
  let fN:=oL w 175 kh (o2++([(4,x0.1,x0.2.1,o1,x0.2.2)]:List cN)) kg
  refine kc<|bu ln 1 J nI J J kb J J J J ?_
  let iH:=box cZ #[.slice aC aD aB,sL aw U av,sL ay fo ax,sL kh (o2++([(4,x0.1,x0.2.1,o1,x0.2.2)]:List cN)) kg,.map (some bA),I pn,sL de pr db,.map (some bK)] 142
  let lF:=gf::iH::J2::J3::fN::eL::iO
  intro j1 (pq:HI M w j1 (lF++r))
  refine kz<|aF<|nx<|rg<|k<|add J J fD J aR<|ai (v:=I ((j_:Int)+1)) J J<|z ?_
  have kU:=pq.put (it:=J2) J<|pq.rv 2 J
  have lg:=kU.put (it:=J3) J<|kU.rv 4 J
  have ki:=lg.put (it:=J5) J<|lg.rv 8 J
  have uh:HI M w j1 ((J5::J3::J2::lF)++r):=ki
  have mB:HI M w j1 ((J6::iH::J2::J3::fN::eL::bc)++r):=HI.aP (l:=(J5::J3::J2::lF)) (l':=(J6::iH::J2::J3::fN::eL::bc)) (t:=r) uh [12,4,2,1,7,8,0,10] au J J
  refine bF _ ?_ ⟨(j_+1),(o2++([(4,x0.1,x0.2.1,o1,x0.2.2)]:List cN)),o3,kh,kg,J,s9,ej,eX,fA,(bH J),mB,aj,(by simp only[fJ,iS,gA];omega)⟩
  omega
 have p0:=dF b0
 refine ex<|aT<|aY<|bf<|nx<|sq<|az<|ai J s4<|k<|nc J J<|aQ l7 J J<|bo cT 1 J nI J J J<|k<|dL J J Lb<|ai (v:=I 0) J J<|aq<|bk ?_
 let pc:=box cZ #[.slice aC aD aB,sL aw U av,sL ay fo ax,sL a9 js c9,.map (some bA),I pn,sL de pr db,.map (some bK)] 142
 let mA:=oL w 175 a9 js c9
 refine lp (fun m f w'=>∃(j_:Nat) (i':KV),m=js.length-j_∧f 0=pV cZ 0∧f 2=sL a8 o0 c8∧f 53=sL a9 js c9∧f 54=I (js.length:Int)∧f 55=I (j_:Int)∧HI M w w' ((J6::pc::J2::J3::mA::cb bA i'::bc)++r)∧(j_≤js.length)) _ ⟨0,ou,J,s4,s5,J,J,(bH J),cT,aj⟩ ?_
 rintro _ f2 w7 ⟨j_,i',rfl,s9,ej,eX,fA,fD,dX,pj⟩
 refine az<|k<|lss J J fD fA<|aq<|sq<|cd (b:=decide ((j_:Int)<(js.length:Int))) J J (fun b1=>?_)<|fun b1=>?_
 ·
  have p1:=dT b1
  refine sk<|nx<|sq<|bk<|az<|ai J fD<|k<|iz (dX.at_ 4 J) J J eX fD aj Lb AV ?_
  intro g0 x0 iE aM cw
  refine k<|nz cw AV J J ?_
  intro v0 sg
  obtain⟨_,⟨_,_,rfl,⟨rfl,sf⟩,⟨_,_,rfl,⟨rfl,qa⟩,⟨_,_,rfl,⟨rfl,A5⟩,⟨_,_,rfl,⟨rfl,Ft⟩,⟨rfl,Qm⟩⟩⟩⟩⟩,rfl⟩:=sg
  refine k<|al dX AV ?_
  let ue:=J6::pc::J2::J3::mA::cb bA i'::bc
  intro aW w8 jr (dI:HI M w w8 ((box aW #[I 0,I 0,I 0,I 0,I 0] 175::ue)++r))
  refine ak (v:=I (j_:Int)) J J<|k<|bu dI 0 J AV J J J J J J J ?_
  let tM:=box aW #[I x0.1,I x0.2.1,I x0.2.2.1,I x0.2.2.2.1,I x0.2.2.2.2] 175
  intro w9 (cG:HI M w w9 ((tM::ue)++r))
  refine bw<|aQ aaN J J<|bo cG 0 J aU J J J<|k<|eql J J J J<|z<|nx<|cd (b:=decide (x0.1=4)) J J (fun b2=>?_)<|fun b2=>?_
  ·
   have p2:=dT b2
   refine my [.r,.r,.r,.r,.r,.r,.r,.r,.r,.r,.e] (fun _=>True) J aS (fun _ _=>trivial)<|yq J J<|kq (fun _ _=>mv J s9 e1)<|bO<|kq (fun _ _=>nc J J e1)<|bO<|kq (fun _ _=>fa D' J J e1)<|bO<|kq (fun _ x_=>lx (cG.ext x_) 2 J Kz J J J e1)<|bO<|kq (fun _ _=>fa Pr J J e1)<|bO<|kq (fun _ x_=>lx (cG.ext x_) 0 J aU J J J e1)<|bO<|kq (fun _ _=>fa Pq J J e1)<|bO<|kq (fun _ x_=>lx (cG.ext x_) 0 J aU J J J e1)<|bO<|kq (fun _ _=>bd (v:=.agg #[I x0.2.1,I x0.2.2.1]) J (ck J<|ck J ew) (fun _=>aS) e1)<|bO<|kq (fun _ _=>mv (v:=I (j_:Int)) J J e1)<|zq<|ye<|yz ?_
   intro dP f3 _ kr _ _ fK Ao
   have d_:=cG.ext kr
   have gi:=(fK 0 J).trans s9
   have gS:=(fK 2 J).trans ej
   have kb:=(fK 53 J).trans eX
   have kK:=(fK 54 J).trans fA
   have lC:=(fK 55 J).trans fD
   have l3:=fK 66 J
   have lZ:=fK 71 J
   have mZ:=fK 72 J
   refine kc<|X5 (k:=(x0.2.1,x0.2.2.1)) KD d_ 6 J J J J l3 lZ mZ aR ?_
   let jO:=cb bA (jx i' (x0.2.1,x0.2.2.1) (j_:Int))
   let DE:=J6::pc::J2::J3::mA::jO::bc
   intro ey (dD:HI M w ey ((tM::DE)++r))
   refine kz<|aF<|nx<|rg<|k<|add J J lC J aR<|ai (v:=I ((j_:Int)+1)) J J<|z ?_
   have eR:HI M w ey (DE++r):=HI.aP (l:=(tM::DE)) (l':=DE) (t:=r) dD [1,2,3,4,5,6,7,8] au J J
   refine bF _ ?_ ⟨(j_+1),(jx i' (x0.2.1,x0.2.2.1) (j_:Int)),J,gi,gS,kb,kK,(bH J),eR,aj⟩
   omega
  have p2:=dF b2
  refine sk<|aF<|nx<|rg<|k<|add J J fD J aR<|ai (v:=I ((j_:Int)+1)) J J<|z ?_
  have d_:HI M w w9 (ue++r):=HI.aP (l:=(tM::ue)) (l':=ue) (t:=r) cG [1,2,3,4,5,6,7,8] au J J
  refine bF _ ?_ ⟨(j_+1),i',J,s9,ej,eX,fA,(bH J),d_,aj⟩
  omega
 refine ex<|aT<|aY<|bf<|nx<|rg<|ai J s9<|ai J ej<|k ?_
 have dI:=dX.freeze 0 J
 let pb:=cb bA i'
 let HU:=iL a8 o0 c8::pc::J2::J3::mA::pb::bc
 have cG:HI M w w7 (HU++r):=dI
 let E2:=[bU bK mq,iL a8 o0 c8]
 have d_:HI M w w7 ((pc::J2::J3::mA::pb::J5::E2)++([]++r)):=HI.aP (l:=HU) (l':=(pc::J2::J3::mA::pb::J5::E2)) (t:=r) cG [1,2,3,4,5,6,7,0] au J J
 have n5:=yx (cZ:=cZ) (aC:=aC) (aD:=aD) (aB:=aB) (aw:=aw) (av:=av) (U:=U) (ay:=ay) (ax:=ax) (fo:=fo) (eD:=a9) (eC:=c9) (sp:=js) (bA:=bA) (mp:=i') (pn:=pn) (de:=de) (db:=db) (pr:=pr) (bK:=bK) (mq:=mq) (zL:=a8) (zG:=c8) (es:=o0) (w:=w) (w_:=w7) (r:=([]++r)) (M:=M) qS (by exact uq) (by intro x_ h_;rw[JD];exact uF x_ (q1 x_ h_)) d_
 refine ca KK J (ec J<|ec J e0) n5 ?_
 rintro _ w8 ⟨o1,jv,ju,rfl,dD,q2⟩
 let qx:=box cZ #[.slice aC aD aB,sL aw U av,sL ay fo ax,sL a9 js c9,.map (some bA),I pn,sL jv o1 ju,.map (some bK)] 142
 let NA:=qx::J2::J3::mA::pb::iL jv o1 ju::E2
 have eR:HI M w w8 (NA++r):=dD
 refine z<|Et J ?_
 have eW:=HI.aP (l:=NA) (l':=[qx,J2,J3,mA,pb,iL jv o1 ju,bU bK mq]) (t:=r) eR [0,1,2,3,4,5,6] au J J
 refine⟨js,i',o1,a9,c9,jv,ju,?_,?_,aj,bt⟩
 · first|rfl|simp only[an1]
 · first|exact eW|simpa +zetaDelta only[an1] using eW
theorem Dj:gR aI 80 2 5:=jT Tryz.underlying80
theorem Ld:ep aI 78 1 false 24 (.slice none 0 0):=⟨aS,aS⟩
theorem Ie:aI.underlying 78=some (.slice 26):=aS
theorem rR:gR aI 80 0 0:=jT Tryz.underlying80
theorem xQ:gR aI 80 1 3:=jT Tryz.underlying80
theorem PT (kC:aK cn) (hT:fS 0 w) (ho:ik U) (dy:U.length≤64) (eB:fo.length=U.length) (fL:∀x∈fo,x<((U.length:Nat):Int)) (oA:cn=((U.length:Nat):Int)) (pJ:cr=ct U fo) (hsw:iN=none∧sw=[]∨sw=eT U fo) (H:HI M w w_ ([box eH #[.slice aC aD aB,sL aw U av,sL ay fo ax,I cn,sL dw cr dv,sL iN sw jH] 80,iL aw U av,iL ay fo ax,iL dw cr dv,oL w 26 iN sw jH]++r)):Calls aI 67 #[pV eH 0] w_ (cm fun v w'=>∃(wH:OA) (wG:Nat),v=.slice wH (eT U fo).length wG∧HI M w w' ([box eH #[.slice aC aD aB,sL aw U av,sL ay fo ax,I cn,sL dw cr dv,.slice wH (eT U fo).length wG] 80,iL aw U av,iL ay fo ax,iL dw cr dv,oL w 26 wH (eT U fo) wG]++r)):=by
 refine enter 52 Tryz.func67 J J J fun f0 ha=>?_
 have ja:=bg<|H.rv 1 J
 have kR:=bg<|H.rv 2 J
 have Bl:=bg<|H.rv 3 J
 have Yb:=kl<|H.at_ 4 J
 have i0:f0 0=pV eH 0:=ha 0 bj
 have aiZ:iN.isNone=true→sw=[]:=OP<|H.at_ 4 J
 refine az<|ak (v:=.slice none 0 0) J J<|aq<|sq<|az<|ai J i0<|k<|nc J J<|aQ Dj J J<|bo H 0 J Ld J J J<|k<|T' J J J J Ie<|z<|nx<|cd (b:=iN.isNone) J J (fun b0=>?_)<|fun b0=>?_
 ·
  refine az<|ai J i0<|k<|nc J J<|aQ rR J J<|aQ fE J J<|bo H 0 J jh J J J<|k<|dL J J jA<|ai (v:=I 0) J J<|aq<|bk ?_
  let J0:=iL aw U av
  let J1:=iL ay fo ax
  let J2:=iL dw cr dv
  refine lp (fun m f w'=>∃(j_:Nat) (jc:List (Int×(List<|List bp))) (a0:OA) (c0:Nat),m=U.length-j_∧f 0=pV eH 0∧f 18=I (U.length:Int)∧f 19=I (j_:Int)∧HI M w w' ([box eH #[.slice aC aD aB,sL aw U av,sL ay fo ax,I cn,sL dw cr dv,sL a0 jc c0] 80,J0,J1,J2,oL w 26 a0 jc c0]++r)∧(j_≤U.length)∧(jc=(eT U fo).take j_)) _ ⟨0,sw,iN,jH,J,i0,J,(bH J),H,aj,(by rw[aiZ bt];rfl)⟩ ?_
  rintro _ f0 w0 ⟨j_,jc,a0,c0,rfl,s0,s1,s2,H0,pj,hs⟩
  refine az<|k<|lss J J s2 s1<|aq<|sq<|cd (b:=decide ((j_:Int)<(U.length:Int))) J J (fun b1=>?_)<|fun b1=>?_
  ·
   have p1:=dT b1
   refine sk<|nx<|sq<|bk<|az<|ai J s2<|ak (v:=I (j_:Int)) J J<|aq<|sq<|my [.r,.r,.r,.r,.r,.r,.r,.r,.r,.r,.r,.r,.s,.s,.s,.n,.e,.s,.s,.s] (fun _=>True) J aS (fun _ _=>trivial)<|yq J J<|kq (fun _ _=>mv J s0 e1)<|bO<|kq (fun _ _=>nc J J e1)<|bO<|kq (fun _ _=>fa rR J J e1)<|bO<|kq (fun _ x_=>cB (H0.ext x_) 0 J dQ J J au J e1)<|bO<|kq (fun _ _=>mv J s0 e1)<|bO<|kq (fun _ _=>nc J J e1)<|bO<|kq (fun _ _=>fa xQ J J e1)<|bO<|kq (fun _ x_=>cB (H0.ext x_) 0 J bm J J au J e1)<|bO<|kq (fun _ _=>mv (v:=I (j_:Int)) J J e1)<|zq<|yu J (fun N v w'=>∃(o0:List eu) (o1:Int) (a1:OA) (c1:Nat) (a2:OA) (c2:Nat),v=.tuple #[.agg #[I ((U.length:Nat):Int),sL a1 (cX U fo (j_:Int)) c1],sL a2 o0 c2,I o1,I 0]∧o0.length≤2000000000∧aK o1∧oC U.length o0∧RV (MN H0.fg N) w' (sL a1 (cX U fo (j_:Int)) c1) (cX U fo (j_:Int))∧RV (MN H0.fg N) w' (sL a2 o0 c2) o0) J ⟨by rintro _ _ _ _ x_ ⟨o0,o1,a1,c1,a2,c2,e_,q0,q1,q2,eb,fh⟩;exact⟨o0,o1,a1,c1,a2,c2,e_,q0,q1,q2,eb.lift (Up.ext x_),fh.lift (Up.ext x_)⟩,by rintro _ _ _ _ _ k_ ⟨o0,o1,a1,c1,a2,c2,e_,q0,q1,q2,eb,fh⟩;exact⟨o0,o1,a1,c1,a2,c2,e_,q0,q1,q2,ij eb k_,ij fh k_⟩⟩ J (fun v_ _ x_ n_=>have cU:=Io (U:=U) (fo:=fo) (mn:=cn) (mr:=cr) (o:=(j_:Int)) (aC:=aC) (aD:=aD) (aB:=aB) (w:=v_) (kO H0.mb x_ n_) (hT.ext (H0.below.trans x_)) (ku (H0.rv 1 J) x_ n_) (ku (H0.rv 2 J) x_ n_) kC (ku (H0.rv 3 J) x_ n_) aR (by exact ho) (by exact dy) (by exact eB) (by exact fL) (by exact oA) (by exact pJ) aj;ca Rj rfl (ec J<|ec J<|ec J e0) cU (fun _ w2 ⟨o2,o3,a3,c3,a4,c4,e_,df,jd,jX,q3,q4,q5⟩=>⟨_,J,df,⟨o2,o3,a3,c3,a4,c4,e_,q3,q4,q5,jd,jX⟩⟩))<|lJ J (fun N v w'=>∃(o4:List eu) (o5:Int) (a5:OA) (c5:Nat) (a6:OA) (c6:Nat),v=.tuple #[.agg #[I ((U.length:Nat):Int),sL a5 (cX U fo (j_:Int)) c5],sL a6 o4 c6,I o5,I 0]∧o4.length≤2000000000∧aK o5∧oC U.length o4∧RV (MN H0.fg N) w' (sL a5 (cX U fo (j_:Int)) c5) (cX U fo (j_:Int))∧RV (MN H0.fg N) w' (sL a6 o4 c6) o4) 0 J J ⟨by rintro _ _ _ _ x_ ⟨o4,o5,a5,c5,a6,c6,e_,q6,q7,q8,iU,kW⟩;exact⟨o4,o5,a5,c5,a6,c6,e_,q6,q7,q8,iU.lift (Up.ext x_),kW.lift (Up.ext x_)⟩,by rintro _ _ _ _ _ k_ ⟨o4,o5,a5,c5,a6,c6,e_,q6,q7,q8,iU,kW⟩;exact⟨o4,o5,a5,c5,a6,c6,e_,q6,q7,q8,ij iU k_,ij kW k_⟩⟩ J (fun _ _ _ _ _ h_=>let ⟨o6,o7,a7,c7,a8,c8,s3,q9,uZ,xn,nV,pg⟩:=h_;mv rfl s3 ⟨_,J,Ext.refl _,⟨o6,o7,a7,c7,a8,c8,J,q9,uZ,xn,nV,pg⟩⟩)<|lJ J (fun N v w'=>∃(a9:OA) (c9:Nat),v=.agg #[I ((U.length:Nat):Int),sL a9 (cX U fo (j_:Int)) c9]∧RV (MN H0.fg N) w' (sL a9 (cX U fo (j_:Int)) c9) (cX U fo (j_:Int))) 0 J J k0 J (fun _ _ _ _ _ h_=>let ⟨kN,fe,mU,mT,a12,qY,s4,CF,CE,yt,oH,sg⟩:=h_;xt rfl s4 rfl ⟨_,J,Ext.refl _,⟨mU,mT,J,oH⟩⟩)<|lJ J (fun N v w'=>∃(j3:List eu) (mc:OA) (l9:Nat),v=sL mc j3 l9∧j3.length≤2000000000∧oC U.length j3∧RV (MN H0.fg N) w' (sL mc j3 l9) j3) 1 J J ⟨by rintro _ _ _ _ x_ ⟨j3,mc,l9,e_,xm,xl,qa⟩;exact⟨j3,mc,l9,e_,xm,xl,qa.lift (Up.ext x_)⟩,by rintro _ _ _ _ _ k_ ⟨j3,mc,l9,e_,xm,xl,qa⟩;exact⟨j3,mc,l9,e_,xm,xl,ij qa k_⟩⟩ J (fun _ _ _ _ _ h_=>let ⟨GR,Jr,U1,Uz,Kf,J',s5,Eu,q22,LK,A5,Ft⟩:=h_;xt rfl s5 rfl ⟨_,J,Ext.refl _,⟨GR,Kf,J',J,Eu,LK,Ft⟩⟩)<|lJ J (fun _ v _=>∃(GQ:Int),v=I GQ∧aK GQ) 2 J J mE J (fun _ _ _ _ _ h_=>let ⟨o18,SY,a19,c19,a20,c20,s6,q27,SC,q29,ab3,ab2⟩:=h_;xt rfl s6 rfl ⟨_,J,Ext.refl _,⟨SY,J,SC⟩⟩)<|RN J (X:=I 0) 3 J J (fun _ _ _ _ _ h_=>let ⟨o22,X4,a23,c23,a24,y_,s7,q33,q34,q35,ab1,ab0⟩:=h_;xt rfl s7 rfl e1)<|yn (z:=#[I 0,.slice none 0 0]) J J (fun _=>PY bm)<|ye<|lJ J (fun N v w'=>∃(mO:List eu) (a25:OA) (EY:Nat),v=sL a25 mO EY∧mO.length≤2000000000∧oC U.length mO∧RV (MN H0.fg N) w' (sL a25 mO EY) mO) 2 J J ⟨by rintro _ _ _ _ x_ ⟨mO,a25,EY,e_,CD,CC,xh⟩;exact⟨mO,a25,EY,e_,CD,CC,xh.lift (Up.ext x_)⟩,by rintro _ _ _ _ _ k_ ⟨mO,a25,EY,e_,CD,CC,xh⟩;exact⟨mO,a25,EY,e_,CD,CC,ij xh k_⟩⟩ J (fun _ _ _ _ _ h_=>let ⟨LW,a26,HO,s8,SB,SA,LF⟩:=h_;jM rfl s8 ⟨_,J,Ext.refl _,⟨LW,a26,HO,J,SB,SA,LF⟩⟩)<|lJ J (fun _ v _=>∃(sE:Int),v=I sE∧aK sE) 2 J J mE J (fun _ _ _ _ _ h_=>let ⟨tT,s9,Sz⟩:=h_;jM rfl s9 ⟨_,J,Ext.refl _,⟨tT,J,Sz⟩⟩)<|yq J J<|kq (fun _ _=>jM (v:=I 0) J J e1)<|zq<|yz ?_
   intro w3 f1 _ eS _ _ cC iT
   obtain⟨ba,ej,C',sN,BW⟩:=iT 2 _ _ rfl
   have pK:=PJ (z:=#[I 0,.slice none 0 0]) (T:=26) C' sN BW<|PK
   let J3:=box eH #[.slice aC aD aB,sL aw U av,sL ay fo ax,I cn,sL dw cr dv,sL a0 jc c0] 80
   let J4:=oL w 26 a0 jc c0
   have H8:HI M w w3 ([box ba #[I 0,.slice none 0 0] 26,J3,J0,J1,J2,J4]++r):=H0.D4 eS pK<|O2 O1 O3
   have eX:=(cC 0 J).trans s0
   have fA:=(cC 18 J).trans s1
   have fD:=(cC 19 J).trans s2
   obtain⟨AL,AH,gi,LD⟩:=iT 5 _ _ rfl
   let J5:=iL AL (cX U fo (j_:Int)) AH
   have H9:=H8.put (it:=J5) J<|se LD pK
   refine kc<|bu H9 1 J bm J J ej gi J J J ?_
   let J6:=box ba #[I ((U.length:Nat):Int),sL AL (cX U fo (j_:Int)) AH] 26
   intro w4 (cV:HI M w w4 ([J5,J6,J3,J0,J1,J2,J4]++r))
   refine kz<|nx<|my [.s,.r,.r,.r,.r,.r,.r,.e,.f,.f,.e] (fun _=>True) J aS (fun _ _=>trivial)<|yq J J<|kq (fun _ _=>mv J eX e1)<|bO<|kq (fun _ _=>mv J eX e1)<|bO<|kq (fun _ _=>nc J J e1)<|bO<|kq (fun _ _=>fa Dj J J e1)<|bO<|kq (fun _ x_=>lx (cV.ext x_) 2 J Ld J J J e1)<|bO<|kq (fun _ x_=>cB (cV.ext x_) 1 J bm J ej au J e1)<|zq<|yu J (fun _ v w'=>∃(a28:OA) (ru:Nat),v=sL a28 ([(((U.length:Nat):Int),cX U fo (j_:Int))]:List (Int×(List<|List bp))) ru∧RV cV.fg w' (sL a28 ([(((U.length:Nat):Int),cX U fo (j_:Int))]:List (Int×(List<|List bp))) ru) ([(((U.length:Nat):Int),cX U fo (j_:Int))]:List (Int×(List<|List bp)))) J oq J (fun v_ N_ x_ n_=>?_) ?_
   ·
    have cH:=cV.ext x_
    refine bs (xs:=([(((U.length:Nat):Int),cX U fo (j_:Int))]:List (Int×(List<|List bp)))) (cells:=#[I ((U.length:Nat):Int),sL AL (cX U fo (j_:Int)) AH]) (e:=26) cH J (ck J ew) (fun _=>aS) ⟨[I ((U.length:Nat):Int),sL AL (cX U fo (j_:Int)) AH],[],J,⟨_,_,J,⟨J,(show aK (((U.length:Nat):Int)) from aR)⟩,⟨_,J,RV.list.1 (cH.rv 0 J)⟩⟩,J⟩ J au ?_
    intro g1 w6 jg (dV:HI M w w6 ([own w.heap.size 26 (.slice (some ⟨g1,0,none⟩) 1 1) ([(((U.length:Nat):Int),cX U fo (j_:Int))]:List (Int×(List (List bp)))),J5,J6,J3,J0,J1,J2,J4]++r))
    have dA:=dV.freeze 0 J
    exact⟨_,J,jg,⟨(some ⟨g1,0,none⟩),1,J,(l4 J<|dA.rv 0 J)⟩⟩
   refine ye<|yf J (fun _ _=>nc J J e3)<|yf J (fun _ _=>fa Dj J J e3)<|ye<|yz ?_
   intro w7 f2 _ jr _ _ fK Ao
   have cT:=cV.ext jr
   have gS:=(fK 0 J).trans eX
   have kb:=(fK 18 J).trans fA
   have kK:=(fK 19 J).trans fD
   have lC:=fK 41 J
   obtain⟨oZ,oY,l3,LC⟩:=Ao 0 _ _ rfl
   let J7:=iL oZ ([(((U.length:Nat):Int),cX U fo (j_:Int))]:List (Int×(List (List bp)))) oY
   have dX:=cT.put (it:=J7) J LC
   have lZ:=fK 46 J
   refine kc<|lV dX 7 J J J J lC l3 (dX.rv 0 J).src Ie bm J (by rw[hs];simp only[ic,iS,gA];omega) J ?_
   intro j8 j6 w8 (cG:HI M w w8 ([J7,J5,J6,J3,J0,J1,J2,oL w 26 j8 (jc++([(((U.length:Nat):Int),cX U fo (j_:Int))]:List (Int×(List (List bp))))) j6]++r))
   let J8:=oL w 26 j8 (jc++([(((U.length:Nat):Int),cX U fo (j_:Int))]:List (Int×(List (List bp))))) j6
   refine kc<|bu cG 3 J Ld J J lZ J J J J ?_
   let J9:=box eH #[.slice aC aD aB,sL aw U av,sL ay fo ax,I cn,sL dw cr dv,sL j8 (jc++([(((U.length:Nat):Int),cX U fo (j_:Int))]:List (Int×(List (List bp))))) j6] 80
   let bc:=[J9,J0,J1,J2,J8]
   intro w9 (d_:HI M w w9 ((J7::J5::J6::bc)++r))
   refine kz<|aF<|nx<|rg<|k<|add J J kK J aR<|ai (v:=I ((j_:Int)+1)) J J<|z ?_
   have dD:=d_.put (it:=J0) J<|d_.rv 4 J
   have eW:=dD.put (it:=J1) J<|dD.rv 6 J
   have jf:=eW.put (it:=J2) J<|eW.rv 8 J
   have jC:HI M w w9 ((J2::J1::J0::J7::J5::J6::bc)++r):=jf
   have nu:HI M w w9 (bc++r):=HI.aP (l:=(J2::J1::J0::J7::J5::J6::bc)) (l':=bc) (t:=r) jC [6,2,1,0,10] au J J
   refine bF _ ?_ ⟨(j_+1),(jc++([(((U.length:Nat):Int),cX U fo (j_:Int))]:List (Int×(List<|List bp)))),j8,j6,J,gS,kb,(bH J),nu,aj,(by rw[hs];exact Sg aj)⟩
   omega
  have p1:=dF b1
  refine ex<|aT<|aY<|bf<|cO<|ai J s0<|k<|nc J J<|aQ Dj J J<|bo H0 0 J Ld J J J<|ak (v:=sL a0 jc c0) J J<|aq<|rt<|r1 J J ?_
  have e0:(jc:List _)=(eT U fo):=by rw[hs];exact an_ (by rw[A2];omega)
  try rw[←e0]
  refine⟨a0,c0,?_,?_⟩
  · first|rfl|simp only[e0]|(simp only[an1])
  · first|exact H0|simpa +zetaDelta only[e0,an1] using H0
 refine sk<|cO<|ai J i0<|k<|nc J J<|aQ Dj J J<|bo H 0 J Ld J J J<|ak (v:=sL iN sw jH) J J<|aq<|rt<|r1 J J ?_
 have e0:(sw:List _)=(eT U fo):=by rcases hsw with ⟨h_,_⟩|h_;exact absurd (by rw[h_];rfl) (Bool.eq_false_iff.1 ‹iN.isNone=false›);exact h_
 try rw[←e0]
 refine⟨iN,jH,?_,?_⟩
 · first|rfl|simp only[e0]|(simp only[an1])
 · first|exact H|simpa +zetaDelta only[e0,an1] using H
theorem bT:ep aI 33 8 true 80 (.agg #[.int .i64 0,.int .i64 0,.int .i64 0,.int .i64 0,.int .i64 0,.slice none 0 0,.int .i64 0,.int .i64 0]):=⟨aS,aS⟩
theorem F5:cx aI 60:=cF Tryz.func60
theorem rS:gR aI 33 1 1:=jT Tryz.underlying33
theorem Rb:cx aI 62:=cF Tryz.func62
theorem oT:gR aI 33 4 4:=jT Tryz.underlying33
theorem Kc (hM:eJ M w) (pz:aK lv):Calls aI 31 #[I lv] w (cm fun v w'=>∃(a0:OA) (c0:Nat),v=.slice a0 (dS lv).length c0∧Ext w w'∧bl M 3 w (dS lv) (.slice a0 (dS lv).length c0) w'):=by
 refine dx 19 Tryz.func31 J J J hM fun f0 ha H=>?_
 have i0:f0 0=I lv:=ha 0 bj
 refine az<|ak (v:=.slice none 0 0) J J<|bw<|k<|bs (xs:=([1,2,3,4]:aA)) (cells:=#[I 1,I 2,I 3,I 4]) (e:=3) H J (ck J<|ck J<|ck J<|ck J ew) (fun _=>aS) ⟨[I 1],[I 2,I 3,I 4],J,⟨J,(show aK (1) from aR)⟩,⟨[I 2],[I 3,I 4],J,⟨J,(show aK (2) from aR)⟩,⟨[I 3],[I 4],J,⟨J,(show aK (3) from aR)⟩,⟨[I 4],[],J,⟨J,(show aK (4) from aR)⟩,J⟩⟩⟩⟩ J au ?_
 intro g0 w0 bW H0
 refine ak (v:=.slice (some ⟨g0,0,none⟩) 4 4) J J<|aq<|sq<|az<|ai J i0<|aq<|bk<|az<|k<|eql J J J J<|ak (v:=.bool (decide (lv=1))) J J<|z<|nx<|cd (b:=decide (lv=1)) J J (fun b0=>?_)<|fun b0=>?_
 ·
  refine az<|ai (v:=.slice (some ⟨g0,0,none⟩) 4 4) J J<|ak (v:=.slice (some ⟨g0,0,none⟩) 4 4) J J<|aq<|rt<|bS<|aL<|r1 J J ?_
  have e0:(([1,2,3,4]:aA):aA)=dS lv:=by simp only[dS,b0,BL]
  have l0:4=(dS lv).length:=by rw[←e0];simp
  have bq:=iF (fun (u6:Nat)=>(.slice (some ⟨g0,0,none⟩) u6 4:Value)) l0
  exact⟨(some ⟨g0,0,none⟩),4,bq,H0.below,(an0 (fun (n_:Nat)=>bl _ _ _ (dS lv) (.slice (some ⟨g0,0,none⟩) n_ 4) _) l0).mp ((an0 (fun (x_:aA)=>bl _ _ _ x_ (.slice (some ⟨g0,0,none⟩) 4 4) _) e0).mp (H0.dt 0 J))⟩
 refine az<|k<|eql J J J J<|ak (v:=.bool (decide (lv=2))) J J<|z<|nx<|cd (b:=decide (lv=2)) J J (fun b1=>?_)<|fun b1=>?_
 ·
  refine az<|ai (v:=.slice (some ⟨g0,0,none⟩) 4 4) J J<|k<|bs (xs:=([5]:aA)) (cells:=#[I 5]) (e:=3) H0 J (ck J ew) (fun _=>aS) ⟨[I 5],[],J,⟨J,(show aK (5) from aR)⟩,J⟩ J au ?_
  intro g1 w1 df H1
  refine k<|lV H1 1 J J J J J J (gX<|H1.at_ 0 J) cM aU J bj J ?_
  intro a0 c0 w2 (H2:HI M w w2 [own w.heap.size 3 (.slice (some ⟨g1,0,none⟩) 1 1) ([5]:aA),oL w 3 a0 (([1,2,3,4]:aA)++([5]:aA)) c0])
  refine ak (v:=sL a0 (([1,2,3,4]:aA)++([5]:aA)) c0) J J<|aq<|rt<|bS<|aL<|r1 J J ?_
  have e0:((([1,2,3,4]:aA)++([5]:aA)):aA)=dS lv:=by simp only[dS,b0,b1,BL]
  have bq:=iF (fun (b9:aA)=>(.slice a0 b9.length c0:Value)) e0
  exact⟨a0,c0,bq,H2.below,(an0 (fun (x_:aA)=>bl _ _ _ x_ (.slice a0 x_.length c0) _) e0).mp (H2.dt 1 J)⟩
 refine az<|k<|eql J J J J<|ak (v:=.bool (decide (lv=3))) J J<|z<|nx<|cd (b:=decide (lv=3)) J J (fun b2=>?_)<|fun b2=>?_
 ·
  refine az<|ai (v:=.slice (some ⟨g0,0,none⟩) 4 4) J J<|k<|bs (xs:=([6,7]:aA)) (cells:=#[I 6,I 7]) (e:=3) H0 J (ck J<|ck J ew) (fun _=>aS) ⟨[I 6],[I 7],J,⟨J,(show aK (6) from aR)⟩,⟨[I 7],[],J,⟨J,(show aK (7) from aR)⟩,J⟩⟩ J au ?_
  intro g1 w1 df H1
  refine k<|lV H1 1 J J J J J J (gX<|H1.at_ 0 J) cM aU J bj J ?_
  intro a0 c0 w2 (H2:HI M w w2 [own w.heap.size 3 (.slice (some ⟨g1,0,none⟩) 2 2) ([6,7]:aA),oL w 3 a0 (([1,2,3,4]:aA)++([6,7]:aA)) c0])
  refine ak (v:=sL a0 (([1,2,3,4]:aA)++([6,7]:aA)) c0) J J<|aq<|rt<|bS<|aL<|r1 J J ?_
  have e0:((([1,2,3,4]:aA)++([6,7]:aA)):aA)=dS lv:=by simp only[dS,b0,b1,b2,BL]
  have bq:=iF (fun (b9:aA)=>(.slice a0 b9.length c0:Value)) e0
  exact⟨a0,c0,bq,H2.below,(an0 (fun (x_:aA)=>bl _ _ _ x_ (.slice a0 x_.length c0) _) e0).mp (H2.dt 1 J)⟩
 refine sk<|aF<|cO<|ak (v:=.slice none 0 0) J J<|aq<|rt<|r1 J J ?_
 have e0:([]:aA)=dS lv:=by simp only[dS,b0,b1,b2,BL]
 have bq:=iF (fun (b9:aA)=>(.slice none b9.length 0:Value)) e0
 exact⟨none,0,bq,H0.below,(an0 (fun (x_:aA)=>bl _ _ _ x_ (.slice none x_.length 0) _) e0).mp (fQ H0.below)⟩
theorem qZ (lT:aK kd):Calls aI 60 #[I kd] w (cm fun v w'=>v=.agg #[I kd,I (-1),I (-1),I (-1),I (-1),.slice none 0 0,I (-1),I (-1)]∧Ext w w'):=by
 refine dx 5 Tryz.func60 J J J qk fun f0 ha H=>?_
 have i0:f0 0=I kd:=ha 0 bj
 refine az<|k<|al H bT ?_
 intro aW w0 bW (H0:HI (fun _=>False) w w0 [box aW #[I 0,I 0,I 0,I 0,I 0,.slice none 0 0,I 0,I 0] 33])
 refine bw<|ai J i0<|k<|bd (v:=.agg #[I kd,I (-1),I (-1),I (-1),I (-1),.slice none 0 0,I (-1),I (-1)]) J (ck J<|ck J<|ck J<|ck J<|ck J<|ck J<|ck J ew) (fun _=>aS)<|k<|bu H0 0 J bT J J J J J J J ?_
 intro w1 (H1:HI (fun _=>False) w w1 [box aW #[I kd,I (-1),I (-1),I (-1),I (-1),.slice none 0 0,I (-1),I (-1)] 33])
 refine aq<|rt<|ph H1 0 J bT J J J J au ?_
 exact⟨J,H1.below⟩
theorem Xy (hM:eJ M w) (dC:cA M w aw av U) (fZ:cA M w ay ax fo) (kC:aK cn) (nM:cA M w dw dv cr) (lT:aK kd) (ll:w.heap[eH]? =some (.cells #[.slice aC aD aB,sL aw U av,sL ay fo ax,I cn,sL dw cr dv,.slice iN rE jH] me (0,0))∧¬M eH):Calls aI 33 #[.pointer (some ⟨eH,0,none⟩),I kd] w (cm fun v w'=>∃(k_:Int) (r_:Int) (a_:Int) (b_:Int) (o_:Int) (f_:Int) (s_:Int),v=.tuple #[.agg #[I k_,I r_,I a_,I b_,I o_,.slice none 0 0,I f_,I s_],.bool ((pt fo kd).isSome)]∧Ext w w'∧qw (pt fo kd) k_ r_ a_ b_ o_):=by
 refine dx 20 Tryz.func33 J J J hM fun f0 ha H=>?_
 let J0:=iL aw U av
 have H0:=H.put (it:=J0) J<|by rw[bP];exact dC
 let J1:=iL ay fo ax
 have H1:=H0.put (it:=J1) J<|by rw[aH rfl,bP];exact fZ
 let J2:=iL dw cr dv
 have H2:=H1.put (it:=J2) J<|by rw[aH rfl,aH rfl,bP];exact nM
 have ja:=bg dC
 have kR:=bg fZ
 have Bl:=bg nM
 let J3:=ro eH #[.slice aC aD aB,sL aw U av,sL ay fo ax,I cn,sL dw cr dv,.slice iN rE jH] me
 have H3:=H2.put (it:=J3) J<|by rw[aH rfl,aH rfl,aH rfl,bP];exact ll
 have i0:f0 0=pV eH 0:=ha 0 bj
 have i1:f0 1=I kd:=ha 1 bj
 refine az<|k<|al H3 bT ?_
 let bc:=[J3,J2,J1,J0]
 intro aW w0 bW (H4:HI M w w0 (box aW #[I 0,I 0,I 0,I 0,I 0,.slice none 0 0,I 0,I 0] 33::bc))
 let J4:=box aW #[I 0,I 0,I 0,I 0,I 0,.slice none 0 0,I 0,I 0] 33
 refine ak (v:=.bool false) J J<|bw<|ai J i1<|k ?_
 have bR:=qZ (kd:=kd) (w:=w0) lT
 refine ca F5 J (ec J e0) bR ?_
 rintro _ w1 ⟨rfl,df⟩
 have H5:=H4.ext df
 refine k<|al H5 bT ?_
 intro ba w2 eS (H6:HI M w w2 (box ba #[I 0,I 0,I 0,I 0,I 0,.slice none 0 0,I 0,I 0] 33::J4::bc))
 refine k<|bu H6 0 J bT J J J J J J J ?_
 intro w3 (H7:HI M w w3 (box ba #[I kd,I (-1),I (-1),I (-1),I (-1),.slice none 0 0,I (-1),I (-1)] 33::J4::bc))
 refine bw<|ai J i0<|k<|nc J J<|aQ rR J J<|aQ tF J J<|k<|lr H7 2 J qD J J J<|k ?_
 have cU:=Jz (rM:=fo) (tR:=(-2)) H7.mb (H7.rv 4 J) aR
 refine ca aeo J (ec J<|ec J e0) cU ?_
 rintro _ w4 ⟨rfl,fH⟩
 have H8:=H7.ext fH
 refine aQ rS J J<|k<|bu H8 0 J aU J J J J J J J ?_
 intro w5 (H9:HI M w w5 (box ba #[I kd,I (eF (fun (z_:Int)=>decide ((-2)=z_)) fo),I (-1),I (-1),I (-1),.slice none 0 0,I (-1),I (-1)] 33::J4::bc))
 refine aq<|sq<|my [.r,.f,.f,.f,.e,.s] (fun w'=>HI M w w' [box ba #[I kd,I (eF (fun (z_:Int)=>decide ((-2)=z_)) fo),I (-1),I (-1),I (-1),.slice none 0 0,I (-1),I (-1)] 33]) J aS (fun _ x_=>(H9.bV (l':=[box ba #[I kd,I (eF (fun (z_:Int)=>decide ((-2)=z_)) fo),I (-1),I (-1),I (-1),.slice none 0 0,I (-1),I (-1)] 33]) [0] au J).ext x_)<|yq J J<|kq (fun _ x_=>cB (H9.ext x_) 0 J bT J J au J e1)<|zq<|yf J (fun _ _=>fa rS J J e3)<|yf J (fun _ i_=>lx i_ 0 J aU J J J e3)<|yf J (fun _ _=>geq J J J J e3)<|ye<|yq J J<|kq (fun _ _=>jM (v:=.bool (decide (0≤(eF (fun (z_:Int)=>decide ((-2)=z_)) fo)))) J J e1)<|zq<|yz ?_
 intro w6 f0 _ jg _ _ cC iT
 have dE:=H9.ext jg
 have s0:=cC 4 J
 have s1:=cC 5 J
 have s2:=cC 16 J
 refine ke<|bu dE 1 J bT J J s0 s2 J J J ?_
 intro w7 (cV:HI M w w7 (box ba #[I kd,I (eF (fun (z_:Int)=>decide ((-2)=z_)) fo),I (-1),I (-1),I (-1),.slice none 0 0,I (-1),I (-1)] 33::box aW #[I kd,I (eF (fun (z_:Int)=>decide ((-2)=z_)) fo),I (-1),I (-1),I (-1),.slice none 0 0,I (-1),I (-1)] 33::bc))
 refine⟨cV.bV [0] au rfl,?_⟩
 refine kz<|nx<|rt<|iy cV 1 J bT J J J s0 J au ?_
 try simp only[cW]
 rw[s1]
 have e1:(eF (fun (z_:Int)=>decide ((-2)=z_)) fo:Int)=(eF (fun (z_:Int)=>decide ((-2)=z_)) fo):=rfl
 have e8:(decide (0≤(eF (fun (z_:Int)=>decide ((-2)=z_)) fo)):Bool)=(pt fo kd).isSome:=by exact Ov
 have bq:=nG (fun (dO:Int) (lK:Bool)=>(.tuple #[.agg #[I kd,I dO,I (-1),I (-1),I (-1),.slice none 0 0,I (-1),I (-1)],.bool lK]:Value)) e1 e8
 exact⟨kd,(eF (fun (z_:Int)=>decide ((-2)=z_)) fo),(-1),(-1),(-1),(-1),(-1),bq,cV.below,(by exact aby lT aj)⟩
theorem UL {acu:Nat} (hM:eJ M w) (kC:aK cn) (nM:cA M w dw dv cr) (lT:aK kd) (ll:w.heap[eH]? =some (.cells #[.slice aC aD aB,.slice aw acu av,.slice ay eZ ax,I cn,sL dw cr dv,.slice iN rE jH] me (0,0))∧¬M eH) (lk:bJ cn cr=true):Calls aI 34 #[.pointer (some ⟨eH,0,none⟩),I kd] w (cm fun v w'=>∃(k_:Int) (r_:Int) (a_:Int) (b_:Int) (o_:Int) (f_:Int) (s_:Int),v=.tuple #[.agg #[I k_,I r_,I a_,I b_,I o_,.slice none 0 0,I f_,I s_],.bool ((kj cn cr kd).isSome)]∧Ext w w'∧qw (kj cn cr kd) k_ r_ a_ b_ o_):=by
 refine dx 24 Tryz.func34 J J J hM fun f0 ha H=>?_
 let J0:=iL dw cr dv
 have H0:=H.put (it:=J0) J<|by rw[bP];exact nM
 let J1:=ro eH #[.slice aC aD aB,.slice aw acu av,.slice ay eZ ax,I cn,sL dw cr dv,.slice iN rE jH] me
 have H1:=H0.put (it:=J1) J<|by rw[aH rfl,bP];exact ll
 have i0:f0 0=pV eH 0:=ha 0 bj
 have i1:f0 1=I kd:=ha 1 bj
 refine az<|k<|al H1 bT ?_
 intro aW w0 bW (H2:HI M w w0 [box aW #[I 0,I 0,I 0,I 0,I 0,.slice none 0 0,I 0,I 0] 33,J1,J0])
 let J2:=box aW #[I 0,I 0,I 0,I 0,I 0,.slice none 0 0,I 0,I 0] 33
 refine ak (v:=.bool false) J J<|bw<|ai J i1<|k ?_
 have bR:=qZ (kd:=kd) (w:=w0) lT
 refine ca F5 J (ec J e0) bR ?_
 rintro _ w1 ⟨rfl,df⟩
 have H3:=H2.ext df
 refine k<|al H3 bT ?_
 intro ba w2 eS (H4:HI M w w2 [box ba #[I 0,I 0,I 0,I 0,I 0,.slice none 0 0,I 0,I 0] 33,J2,J1,J0])
 refine k<|bu H4 0 J bT J J J J J J J ?_
 let J3:=box ba #[I kd,I (-1),I (-1),I (-1),I (-1),.slice none 0 0,I (-1),I (-1)] 33
 intro w3 (H5:HI M w w3 [J3,J2,J1,J0])
 refine bw<|ai J i0<|k<|nc J J<|aQ xQ J J<|k<|v7 H5 2 J bm J J au J<|k ?_
 have cU:=yN (mn:=cn) (mr:=cr) H5.mb kC (H5.rv 3 J)<|by exact lk
 refine ca Rb J (ec J e0) cU ?_
 rintro _ w4 ⟨rfl,fH⟩
 have H6:=H5.ext fH
 refine ai (v:=.tuple #[I (((cP cn cr).getD 0:Nat):Int),.bool ((cP cn cr).isSome)]) J J<|k<|xt J J J<|k<|xt J J J<|ak (v:=I (((cP cn cr).getD 0:Nat):Int)) J J<|ak (v:=.bool ((cP cn cr).isSome)) J J<|aq<|sq<|az<|ai (v:=.bool ((cP cn cr).isSome)) J J<|z<|nx<|cd (b:=(cP cn cr).isSome) J J (fun b0=>?_)<|fun b0=>?_
 ·
  refine rg<|ai (v:=I (((cP cn cr).getD 0:Nat):Int)) J J<|aQ oT J J<|k<|bu H6 0 J aU J J J J J J J ?_
  let J4:=box ba #[I kd,I (-1),I (-1),I (-1),I (((cP cn cr).getD 0:Nat):Int),.slice none 0 0,I (-1),I (-1)] 33
  intro w5 (H7:HI M w w5 [J4,J2,J1,J0])
  refine bw<|k<|cB H7 0 J bT J J au J<|ai (v:=.bool ((cP cn cr).isSome)) J J<|k<|bu H7 1 J bT J J J J J J J ?_
  intro w6 (H8:HI M w w6 [J4,box aW #[I kd,I (-1),I (-1),I (-1),I (((cP cn cr).getD 0:Nat):Int),.slice none 0 0,I (-1),I (-1)] 33,J1,J0])
  refine ak (v:=.bool ((cP cn cr).isSome)) J J<|aq<|rt<|iy H8 1 J bT J J J J J au ?_
  have e8:((cP cn cr).isSome:Bool)=(kj cn cr kd).isSome:=by exact Cw
  have bq:=iF (fun (lK:Bool)=>(.tuple #[.agg #[I kd,I (-1),I (-1),I (-1),I (((cP cn cr).getD 0:Nat):Int),.slice none 0 0,I (-1),I (-1)],.bool lK]:Value)) e8
  exact⟨kd,(-1),(-1),(-1),(((cP cn cr).getD 0:Nat):Int),(-1),(-1),bq,H8.below,(by have h_:=(bQ lk).2.2.1;first|exact Qq lT aj bt|exact Qr lT bt)⟩
 refine sk<|cO<|k<|cB H6 0 J bT J J au J<|ai (v:=.bool ((cP cn cr).isSome)) J J<|k<|bu H6 1 J bT J J J J J J J ?_
 intro w5 (H7:HI M w w5 [J3,box aW #[I kd,I (-1),I (-1),I (-1),I (-1),.slice none 0 0,I (-1),I (-1)] 33,J1,J0])
 refine ak (v:=.bool ((cP cn cr).isSome)) J J<|aq<|rt<|iy H7 1 J bT J J J J J au ?_
 have e8:((cP cn cr).isSome:Bool)=(kj cn cr kd).isSome:=by exact Cw
 have bq:=iF (fun (lK:Bool)=>(.tuple #[.agg #[I kd,I (-1),I (-1),I (-1),I (-1),.slice none 0 0,I (-1),I (-1)],.bool lK]:Value)) e8
 exact⟨kd,(-1),(-1),(-1),(-1),(-1),(-1),bq,H7.below,(by have h_:=(bQ lk).2.2.1;first|exact Qq lT aj bt|exact Qr lT bt)⟩
theorem Nj (hM:eJ M w) (hT:fS 0 w) (dC:cA M w aw av U) (fZ:cA M w ay ax fo) (kC:aK cn) (nM:cA M w dw dv cr) (lT:aK kd) (ll:w.heap[eH]? =some (.cells #[.slice aC aD aB,sL aw U av,sL ay fo ax,I cn,sL dw cr dv,.slice iN rE jH] me (0,0))∧¬M eH) (ho:ik U) (dy:U.length≤64) (eB:fo.length=U.length) (fL:∀x∈fo,x<((U.length:Nat):Int)) (oA:cn=((U.length:Nat):Int)) (pJ:cr=ct U fo):Calls aI 37 #[.pointer (some ⟨eH,0,none⟩),I kd] w (cm fun v w'=>∃(k_:Int) (r_:Int) (a_:Int) (b_:Int) (o_:Int) (f_:Int) (s_:Int),v=.tuple #[.agg #[I k_,I r_,I a_,I b_,I o_,.slice none 0 0,I f_,I s_],.bool ((kj ((U.length:Nat):Int) (AF U fo) kd).isSome)]∧Ext w w'∧qw (kj ((U.length:Nat):Int) (AF U fo) kd) k_ r_ a_ b_ o_):=by
 refine dx 52 Tryz.func37 J J J hM fun f0 ha H=>?_
 let J0:=iL aw U av
 have H0:=H.put (it:=J0) J<|by rw[bP];exact dC
 let J1:=iL ay fo ax
 have H1:=H0.put (it:=J1) J<|by rw[aH rfl,bP];exact fZ
 let J2:=iL dw cr dv
 have H2:=H1.put (it:=J2) J<|by rw[aH rfl,aH rfl,bP];exact nM
 have ja:=bg dC
 have kR:=bg fZ
 have Bl:=bg nM
 let J3:=ro eH #[.slice aC aD aB,sL aw U av,sL ay fo ax,I cn,sL dw cr dv,.slice iN rE jH] me
 have H3:=H2.put (it:=J3) J<|by rw[aH rfl,aH rfl,aH rfl,bP];exact ll
 have i0:f0 0=pV eH 0:=ha 0 bj
 have i1:f0 1=I kd:=ha 1 bj
 have lk:bJ cn cr=true:=by rw[oA,pJ];exact pD fo aj
 refine az<|k<|al H3 bT ?_
 let bc:=[J3,J2,J1,J0]
 intro aW w0 bW (H4:HI M w w0 (box aW #[I 0,I 0,I 0,I 0,I 0,.slice none 0 0,I 0,I 0] 33::bc))
 let J4:=box aW #[I 0,I 0,I 0,I 0,I 0,.slice none 0 0,I 0,I 0] 33
 refine ak (v:=.bool false) J J<|bw<|ai J i0<|k<|nc J J<|aQ xQ J J<|k<|v7 H4 1 J bm J J au J<|k<|al H4 bm ?_
 let bX:=J4::bc
 intro ba w1 df (H5:HI M w w1 (box ba #[I 0,.slice none 0 0] 26::bX))
 refine k<|bu H5 0 J bm J J J J J J J ?_
 intro w2 (H6:HI M w w2 (box ba #[I cn,sL dw cr dv] 26::bX))
 refine aq<|sq<|sq<|Uj J aS<|xq J<|kq (fun _ _=>mv J i0 e1)<|zq<|xq J<|kq (fun _ _=>nc J J e1)<|zq<|xq J<|kq (fun _ _=>fa rR J J e1)<|zq<|xq J<|kq (fun _ x_=>v7 (H6.ext x_) 2 J dQ J J au J e1)<|zq<|xq J<|kq (fun _ _=>mv J i0 e1)<|zq<|xq J<|kq (fun _ _=>nc J J e1)<|zq<|xq J<|kq (fun _ _=>fa xQ J J e1)<|zq<|xq J<|kq (fun _ x_=>v7 (H6.ext x_) 2 J bm J J au J e1)<|zq<|xu (fun v w'=>∃(a0:OA) (c0:Nat),v=sL a0 (cJ U fo cn cr) c0∧RV H6.fg w' (sL a0 (cJ U fo cn cr) c0) (cJ U fo cn cr)) J (by rintro _ _ _ x_ ⟨a0,c0,e_,ee⟩;exact⟨a0,c0,e_,ee.lift (Up.ext x_)⟩) J (fun v_ x_=>have cU:=uR (U:=U) (fo:=fo) (mn:=cn) (mr:=cr) (aC:=aC) (aD:=aD) (aB:=aB) (w:=v_) (H6.ext x_).mb (hT.ext (H6.ext x_).below) ((H6.ext x_).rv 5 rfl) ((H6.ext x_).rv 4 rfl) kC ((H6.ext x_).rv 3 rfl) aj (by exact eB) (by exact fL) (by exact lk);ca Ra rfl (ec J<|ec J e0) cU (fun _ w4 ⟨a1,c1,e_,fH,eb⟩=>⟨_,J,fH,⟨a1,c1,e_,(bl.rv eb (H6.ext x_).mb)⟩⟩))<|xk1 (X:=I ((cJ U fo cn cr).length:Int)) 0 J J (fun _ _ _ h_=>let ⟨a3,c3,s0,jX⟩:=h_;dL rfl s0 eA e1)<|xq J<|kq (fun _ _=>mv (v:=I 0) J J e1)<|zq<|zx ?_
 intro w5 f0 jg cC iT
 have cH:=H6.ext jg
 have s1:=(cC 1 J).trans i1
 have s2:=cC 4 J
 have s3:=cC 6 J
 obtain⟨a4,c4,s4,iU⟩:=iT 0 _ _ rfl
 let J5:=iL a4 (cJ U fo cn cr) c4
 have dV:=cH.put (it:=J5) J iU
 have s5:=cC 25 J
 have s6:=cC 26 J
 refine nx<|bk ?_
 have dA:=dV.put (it:=J2) J<|dV.rv 4 J
 refine lp (fun m f w'=>∃(q_:Nat) (fT:Int) (fI:List (List bp)) (a5:OA) (c5:Nat),m=(cJ U fo cn cr).length-q_∧f 1=I kd∧f 4=pV aW 0∧f 6=pV ba 0∧f 24=sL a4 (cJ U fo cn cr) c4∧f 25=I ((cJ U fo cn cr).length:Int)∧f 26=I (q_:Int)∧HI M w w' (iL a5 fI c5::J5::box ba #[I fT,sL a5 fI c5] 26::bX)∧(q_≤(cJ U fo cn cr).length)∧(fT=cn∧fI=l_ cn cr ((cJ U fo cn cr).take q_))) _ ⟨0,cn,cr,dw,dv,J,s1,s2,s3,s4,s5,(bH s6),dA,aj,(by exact⟨J,J⟩)⟩ ?_
 rintro _ f1 w6 ⟨q_,fT,fI,a5,c5,rfl,s7,s8,s9,ej,eX,fA,cT,sI,ot⟩
 refine sq ?_
 have Pl:=qW (U:=U) (fo:=fo) lk;have Q6:=Pl.1
 have so:=Zf eB fL oA pJ Pl
 refine rg<|k<|lss J J fA eX<|aq<|sq<|cd (b:=decide ((q_:Int)<((cJ U fo cn cr).length:Int))) J J (fun b0=>?_)<|fun b0=>?_
 ·
  have p0:=dT b0
  refine sk<|nx<|sq<|bk<|az<|k<|ia (cT.rv 1 J) J J ej fA aj eA cK ?_
  intro iG x0 aM cw
  refine k<|nz cw.w cK J J ?_
  intro v0 kW
  obtain⟨_,⟨_,_,rfl,⟨rfl,nV⟩,⟨_,_,rfl,⟨rfl,pg⟩,⟨rfl,qd⟩⟩⟩,rfl⟩:=kW
  refine k<|al cT cK ?_
  let dM:=iL a5 fI c5::J5::box ba #[I fT,sL a5 fI c5] 26::bX
  intro bI w7 jr (dX:HI M w w7 (box bI #[I 0,I 0,I 0] 122::dM))
  refine k<|bu dX 0 J cK J J J J J J J ?_
  intro w8 (dI:HI M w w8 (box bI #[I x0.1,I x0.2.1,I x0.2.2] 122::dM))
  refine aq<|rg<|k<|cB dI 3 J bm J s9 au J<|aQ kV J J<|bo dI 0 J aU J J J<|aQ mW J J<|bo dI 0 J aU J J J<|k ?_
  have fU:=FO (mn:=fT) (mr:=fI) (i:=x0.1) (j:=x0.2.1) dI.mb aR (dI.rv 1 J) nV pg<|by exact Us aj oA pJ so ot
  refine ca WN J (ec J<|ec J<|ec J e0) fU ?_
  rintro _ w9 ⟨a6,c6,rfl,kr,qb⟩
  have cG:=dI.ext kr
  let J6:=iL a6 (ie fT fI x0.1 x0.2.1) c6
  have d_:=cG.put (it:=J6) J qb
  refine ai (v:=.tuple #[.agg #[I (iu fT x0.1 x0.2.1),sL a6 (ie fT fI x0.1 x0.2.1) c6],I (lG fT x0.1 x0.2.1)]) J J<|k<|xt J J J<|k<|xt J J J<|k<|bu d_ 4 J bm J J s9 J J J J ?_
  let J7:=box ba #[I (iu fT x0.1 x0.2.1),sL a6 (ie fT fI x0.1 x0.2.1) c6] 26
  intro dP (dD:HI M w dP (J6::box bI #[I x0.1,I x0.2.1,I x0.2.2] 122::iL a5 fI c5::J5::J7::bX))
  refine z<|aF<|nx<|rg<|k<|add J J fA J aR<|ai (v:=I ((q_:Int)+1)) J J<|z ?_
  have eR:=dD.put (it:=J6) J<|dD.rv 0 J
  have eW:HI M w dP (J6::J5::J7::bX):=eR.bV [0,4,5,6,7,8,9,10] au J
  refine bF _ ?_ ⟨(q_+1),(iu fT x0.1 x0.2.1),(ie fT fI x0.1 x0.2.1),a6,c6,J,s7,s8,s9,ej,eX,(bH J),eW,aj,(by exact BJ ot aM (Ln oA so aM))⟩
  omega
 have p0:=dF b0
 refine ex<|aT<|aY<|bf<|cO<|ai J s7<|k ?_
 have fU:=qZ (kd:=kd) (w:=w6) lT
 refine ca F5 J (ec J e0) fU ?_
 rintro _ w7 ⟨rfl,jr⟩
 have dX:=cT.ext jr
 refine k<|al dX bT ?_
 let J8:=box ba #[I fT,sL a5 fI c5] 26
 let iO:=iL a5 fI c5::J5::J8::bX
 intro bI w8 kr (dI:HI M w w8 (box bI #[I 0,I 0,I 0,I 0,I 0,.slice none 0 0,I 0,I 0] 33::iO))
 refine k<|bu dI 0 J bT J J J J J J J ?_
 let J9:=box bI #[I kd,I (-1),I (-1),I (-1),I (-1),.slice none 0 0,I (-1),I (-1)] 33
 intro w9 (cG:HI M w w9 (J9::iO))
 refine aq<|sq ?_
 have BS:=aeR eB fL oA pJ Pl ot aj
 refine rg<|k<|cB cG 3 J bm J s9 au J<|k ?_
 have fb:=yN (mn:=fT) (mr:=fI) cG.mb aR (cG.rv 1 J)<|by exact Us aj oA pJ so ot
 refine ca Rb J (ec J e0) fb ?_
 rintro _ dP ⟨rfl,lX⟩
 have d_:=cG.ext lX
 refine ai (v:=.tuple #[I (((cP fT fI).getD 0:Nat):Int),.bool ((cP fT fI).isSome)]) J J<|k<|xt J J J<|k<|xt J J J<|ak (v:=I (((cP fT fI).getD 0:Nat):Int)) J J<|ak (v:=.bool ((cP fT fI).isSome)) J J<|aq<|sq<|az<|ai (v:=.bool ((cP fT fI).isSome)) J J<|z<|nx<|cd (b:=(cP fT fI).isSome) J J (fun b1=>?_)<|fun b1=>?_
 ·
  refine rg<|ai (v:=I (((cP fT fI).getD 0:Nat):Int)) J J<|aQ oT J J<|k<|bu d_ 0 J aU J J J J J J J ?_
  let dZ:=box bI #[I kd,I (-1),I (-1),I (-1),I (((cP fT fI).getD 0:Nat):Int),.slice none 0 0,I (-1),I (-1)] 33
  intro ey (dD:HI M w ey (dZ::iO))
  refine bw<|k<|cB dD 0 J bT J J au J<|ai (v:=.bool ((cP fT fI).isSome)) J J<|k<|bu dD 4 J bT J J s8 J J J J ?_
  intro fq (eR:HI M w fq (dZ::iL a5 fI c5::J5::J8::box aW #[I kd,I (-1),I (-1),I (-1),I (((cP fT fI).getD 0:Nat):Int),.slice none 0 0,I (-1),I (-1)] 33::bc))
  refine ak (v:=.bool ((cP fT fI).isSome)) J J<|aq<|rt<|iy eR 4 J bT J J J s8 J au ?_
  have e8:((cP fT fI).isSome:Bool)=(kj ((U.length:Nat):Int) (AF U fo) kd).isSome:=by exact OI BS
  have bq:=iF (fun (lK:Bool)=>(.tuple #[.agg #[I kd,I (-1),I (-1),I (-1),I (((cP fT fI).getD 0:Nat):Int),.slice none 0 0,I (-1),I (-1)],.bool lK]:Value)) e8
  exact⟨kd,(-1),(-1),(-1),(((cP fT fI).getD 0:Nat):Int),(-1),(-1),bq,eR.below,(by exact ab8 BS lT aj bt)⟩
 refine sk<|cO<|k<|cB d_ 0 J bT J J au J<|ai (v:=.bool ((cP fT fI).isSome)) J J<|k<|bu d_ 4 J bT J J s8 J J J J ?_
 intro ey (dD:HI M w ey (J9::iL a5 fI c5::J5::J8::box aW #[I kd,I (-1),I (-1),I (-1),I (-1),.slice none 0 0,I (-1),I (-1)] 33::bc))
 refine ak (v:=.bool ((cP fT fI).isSome)) J J<|aq<|rt<|iy dD 4 J bT J J J s8 J au ?_
 have e8:((cP fT fI).isSome:Bool)=(kj ((U.length:Nat):Int) (AF U fo) kd).isSome:=by exact OI BS
 have bq:=iF (fun (lK:Bool)=>(.tuple #[.agg #[I kd,I (-1),I (-1),I (-1),I (-1),.slice none 0 0,I (-1),I (-1)],.bool lK]:Value)) e8
 exact⟨kd,(-1),(-1),(-1),(-1),(-1),(-1),bq,dD.below,(by exact ab9 BS lT bt)⟩
theorem WO:cx aI 63:=cF Tryz.func63
theorem pN:gR aI 33 2 2:=jT Tryz.underlying33
theorem Dz {acv:Nat} (hM:eJ M w) (hT:fS 0 w) (dC:cA M w aw av U) (kC:aK cn) (fY:aK mn) (gr:cA M w bC bB mr) (Hk:aK fB) (ll:w.heap[eH]? =some (.cells #[.slice aC aD aB,sL aw U av,.slice ay eZ ax,I cn,.slice dw acv dv,.slice iN rE jH] me (0,0))∧¬M eH) (bZ:bJ mn mr=true) (aiU:0≤fB∧fB<((U.length:Nat):Int)):Calls aI 63 #[.pointer (some ⟨eH,0,none⟩),.agg #[I mn,sL bC mr bB],I fB] w (cm fun v w'=>∃(a0:OA) (c0:Nat),v=.slice a0 (du U mn mr fB).length c0∧Ext w w'∧RV (fun b=>b<w.heap.size) w' (.slice a0 (du U mn mr fB).length c0) (du U mn mr fB)):=by
 refine dx 24 Tryz.func63 J J J hM fun f0 ha H=>?_
 have H0:=dR H dC
 have H1:=dR H0 gr
 let J0:=ro eH #[.slice aC aD aB,sL aw U av,.slice ay eZ ax,I cn,.slice dw acv dv,.slice iN rE jH] me
 have H2:=H1.put (it:=J0) J<|by rw[aH rfl,aH rfl,bP];exact ll
 have i0:f0 0=pV eH 0:=ha 0 bj
 have i1:f0 1=.agg #[I mn,sL bC mr bB]:=ha 1 bj
 have i2:f0 2=I fB:=ha 2 bj
 refine az<|k<|bx H2 J i1 ?_
 intro aW w0 bW (H3:HI M w w0 [box aW #[I mn,sL bC mr bB] 26,J0,iL bC mr bB,iL aw U av])
 refine ak (v:=.slice none 0 0) J J<|aq<|sq<|Uj J aS<|xq J<|kq (fun _ _=>mv J i0 e1)<|zq<|xq J<|kq (fun _ _=>nc J J e1)<|zq<|xq J<|kq (fun _ _=>fa rR J J e1)<|zq<|xq J<|kq (fun _ x_=>v7 (H3.ext x_) 1 J dQ J J au J e1)<|zq<|xq J<|kq (fun _ x_=>cB (H3.ext x_) 0 J bm J J au J e1)<|zq<|xq J<|kq (fun _ _=>mv J i2 e1)<|zq<|xu (fun v w'=>∃(a0:OA) (c0:Nat),v=sL a0 (eU mn mr fB) c0∧RV (fun c_=>c_<w0.heap.size) w' (sL a0 (eU mn mr fB) c0) (eU mn mr fB)) J (by rintro _ _ _ x_ ⟨a0,c0,e_,ee⟩;exact⟨a0,c0,e_,ee.lift (Up.ext x_)⟩) J (fun v_ x_=>have cU:=OO (mn:=mn) (mr:=mr) (o:=fB) (w:=v_) (H3.ext x_).mb (hT.ext (H3.ext x_).below) fY ((H3.ext x_).rv 2 rfl) Hk (by exact bZ);ca Y7 rfl (ec J<|ec J e0) cU (fun _ w2 ⟨a1,c1,e_,eS,eb⟩=>⟨_,J,eS,⟨a1,c1,e_,(bl.rvN eb x_)⟩⟩))<|xq J<|kq (fun _ _=>mv J i0 e1)<|zq<|xq J<|kq (fun _ _=>nc J J e1)<|zq<|xq J<|kq (fun _ _=>fa rR J J e1)<|zq<|xq J<|kq (fun _ _=>fa fE J J e1)<|zq<|xq J<|kq (fun _ x_=>lr (H3.ext x_) 1 J jh J J J e1)<|zq<|xq J<|kq (fun _ _=>mv J i2 e1)<|zq<|xq J<|ux (H3.rv 3 J) J J J J aj jA jE ?_
 intro iG x0 aM cw
 refine zq<|xq J<|kq (fun _ _=>fa tC J J e1)<|zq<|xq J<|px ((cw).s3).fst.w aU J J ?_
 intro jd
 refine zq<|xu1 (fun v w'=>∃(a3:OA) (c3:Nat),v=sL a3 (aV (iP U x0.2.2.2.1)<|eU mn mr fB) c3∧RV (fun c_=>c_<w0.heap.size) w' (sL a3 (aV (iP U x0.2.2.2.1)<|eU mn mr fB) c3) (aV (iP U x0.2.2.2.1)<|eU mn mr fB)) 0 J J (by rintro _ _ _ x_ ⟨a3,c3,e_,kW⟩;exact⟨a3,c3,e_,kW.lift (Up.ext x_)⟩) J (fun v_ _ x_ h_=>let ⟨a4,c4,s0,nV⟩:=h_;have dV:=(H3.ext x_).put (it:=iL a4 (eU mn mr fB) c4) rfl (Lz nV H3);have fb:=Ey (U:=U) (l:=(eU mn mr fB)) (vr:=x0.2.2.2.1) (aC:=aC) (aD:=aD) (aB:=aB) (ay:=ay) (eZ:=eZ) (ax:=ax) dV.mb (dV.rv 4 J) (dV.rv 0 J) jd (by have h_:=u2 bZ fB;omega);ca aej rfl (ec J<|ec s0<|ec J e0) fb (fun _ w4 ⟨a5,c5,e_,jg,pg⟩=>⟨_,J,jg,⟨a5,c5,e_,(bl.rvN pg x_)⟩⟩))<|xu1 (fun v w'=>∃(a6:OA) (c6:Nat),v=sL a6 (aV (iP U x0.2.2.2.1)<|eU mn mr fB) c6∧RV (fun c_=>c_<w0.heap.size) w' (sL a6 (aV (iP U x0.2.2.2.1)<|eU mn mr fB) c6) (aV (iP U x0.2.2.2.1)<|eU mn mr fB)) 0 J J (by rintro _ _ _ x_ ⟨a6,c6,e_,qb⟩;exact⟨a6,c6,e_,qb.lift (Up.ext x_)⟩) J (fun _ _ _ h_=>let ⟨a7,c7,s1,oH⟩:=h_;jM rfl s1 ⟨_,J,Ext.refl _,⟨a7,c7,J,oH⟩⟩)<|zx ?_
 intro w5 f0 jr cC iT
 have d_:=H3.ext jr
 obtain⟨a8,c8,s2,sg⟩:=iT 0 _ _ rfl
 have dD:=d_.put (it:=iL a8 (aV (iP U x0.2.2.2.1)<|eU mn mr fB) c8) J<|Lz sg H3
 refine nx<|rt<|r1 J J ?_
 rw[s2]
 have e0:(aV (iP U x0.2.2.2.1) (eU mn mr fB):aA)=du U mn mr fB:=by simp only[du,qC,aM,BL]
 have bq:=iF (fun (b9:aA)=>(.slice a8 b9.length c8:Value)) e0
 exact⟨a8,c8,bq,dD.below,(an0 (fun (x_:aA)=>RV _ _ (.slice a8 x_.length c8) x_) e0).mp (abY sg H3)⟩
theorem UK (hM:eJ M w) (hT:fS 0 w) (dC:cA M w aw av U) (fZ:cA M w ay ax fo) (kC:aK cn) (nM:cA M w dw dv cr) (lT:aK kd) (ll:w.heap[eH]? =some (.cells #[.slice aC aD aB,sL aw U av,sL ay fo ax,I cn,sL dw cr dv,.slice iN rE jH] me (0,0))∧¬M eH) (lk:bJ cn cr=true) (eB:fo.length=U.length):Calls aI 35 #[.pointer (some ⟨eH,0,none⟩),I kd] w (cm fun v w'=>∃(k_:Int) (r_:Int) (a_:Int) (b_:Int) (o_:Int) (f_:Int) (s_:Int),v=.tuple #[.agg #[I k_,I r_,I a_,I b_,I o_,.slice none 0 0,I f_,I s_],.bool ((qh U fo cn cr kd).isSome)]∧Ext w w'∧qw (qh U fo cn cr kd) k_ r_ a_ b_ o_):=by
 refine dx 44 Tryz.func35 J J J hM fun f0 ha H=>?_
 let J0:=iL aw U av
 have H0:=H.put (it:=J0) J<|by rw[bP];exact dC
 let J1:=iL ay fo ax
 have H1:=H0.put (it:=J1) J<|by rw[aH rfl,bP];exact fZ
 let J2:=iL dw cr dv
 have H2:=H1.put (it:=J2) J<|by rw[aH rfl,aH rfl,bP];exact nM
 have ja:=bg dC
 have kR:=bg fZ
 have Bl:=bg nM
 let J3:=ro eH #[.slice aC aD aB,sL aw U av,sL ay fo ax,I cn,sL dw cr dv,.slice iN rE jH] me
 have H3:=H2.put (it:=J3) J<|by rw[aH rfl,aH rfl,aH rfl,bP];exact ll
 have i0:f0 0=pV eH 0:=ha 0 bj
 have i1:f0 1=I kd:=ha 1 bj
 refine az<|k<|al H3 bT ?_
 let bc:=[J3,J2,J1,J0]
 intro aW w0 bW (H4:HI M w w0 (box aW #[I 0,I 0,I 0,I 0,I 0,.slice none 0 0,I 0,I 0] 33::bc))
 let J4:=box aW #[I 0,I 0,I 0,I 0,I 0,.slice none 0 0,I 0,I 0] 33
 refine ak (v:=.bool false) J J<|aq<|sq<|az<|ai J i0<|k<|nc J J<|aQ rR J J<|aQ tF J J<|k<|lr H4 1 J qD J J J<|k<|dL J J cM<|ai (v:=I 0) J J<|aq<|bk ?_
 let bX:=J4::bc
 refine lp (fun m f w'=>∃(j_:Nat),m=fo.length-j_∧f 0=pV eH 0∧f 1=I kd∧f 4=pV aW 0∧f 14=sL ay fo ax∧f 15=I (fo.length:Int)∧f 16=I (j_:Int)∧HI M w w' bX∧(j_≤fo.length)∧(∀q,q<j_→vz U fo cn cr q=false)) _ ⟨0,J,i0,i1,J,J,J,(bH J),H4,aj,(by intro q h;omega)⟩ ?_
 rintro _ f0 w1 ⟨j_,rfl,s0,s1,s2,s3,s4,s5,H5,pj,hs⟩
 refine az<|k<|lss J J s5 s4<|aq<|sq<|cd (b:=decide ((j_:Int)<(fo.length:Int))) J J (fun b0=>?_)<|fun b0=>?_
 ·
  have p0:=dT b0
  refine sk<|nx<|sq<|bk<|az<|ai J s5<|k<|ia (H5.rv 3 J) J J s3 s5 aj cM aU ?_
  intro iG x0 aM cw
  refine k<|mP cw.w aU J J ?_
  intro cu
  refine ak (v:=I (j_:Int)) J J<|ak (v:=I x0) J J<|aq<|sq<|az<|ai (v:=I x0) J J<|k<|neq J J J J<|z<|nx<|cd (b:=!decide (x0=(-1))) J J (fun b1=>?_)<|fun b1=>?_
  ·
   have p1:=dF<|fX b1
   refine ex<|aT<|bf<|nx<|rg<|k<|add J J s5 J aR<|ai (v:=I ((j_:Int)+1)) J J<|z<|bF _ ?_ ⟨(j_+1),J,s0,s1,s2,s3,s4,(bH J),H5,aj,(by exact su hs (by simp only[vz,jy aM,b0,(fX b1),BL]))⟩
   omega
  have p1:=dT<|fw b1
  refine sk<|cO<|ai J s0<|ai J s0<|k<|nc J J<|aQ xQ J J<|k<|v7 H5 1 J bm J J au J<|ai (v:=I (j_:Int)) J J<|k ?_
  have bR:=Dz (U:=U) (cn:=cn) (mn:=cn) (mr:=cr) (fB:=(j_:Int)) H5.mb (hT.ext H5.below) (H5.rv 4 J) kC kC (H5.rv 2 J) aR (H5.at_ 1 J) (by exact lk) aj
  refine ca WO J (ec J<|ec J<|ec J e0) bR ?_
  rintro _ w2 ⟨a0,c0,rfl,df,ee⟩
  have H6:=H5.ext df
  have eb:=(ee.lift<|Up.less fun b _ hb=>H5.mb b hb)
  let J5:=iL a0 (du U cn cr (j_:Int)) c0
  have H7:=H6.put (it:=J5) J eb
  refine ak (v:=sL a0 (du U cn cr (j_:Int)) c0) J J<|bw<|ai (v:=sL a0 (du U cn cr (j_:Int)) c0) J J<|k<|dL J J cM<|k<|gtr J J J J<|z<|nx<|cd (b:=decide (0<((du U cn cr (j_:Int)).length:Int))) J J (fun b2=>?_)<|fun b2=>?_
  ·
   have p2:=dT b2
   refine az<|ai J s1<|k ?_
   have cU:=qZ (kd:=kd) (w:=w2) lT
   refine ca F5 J (ec J e0) cU ?_
   rintro _ w3 ⟨rfl,eS⟩
   have H8:=H7.ext eS
   refine k<|al H8 bT ?_
   let dM:=J5::bX
   intro ba w4 fH (H9:HI M w w4 (box ba #[I 0,I 0,I 0,I 0,I 0,.slice none 0 0,I 0,I 0] 33::dM))
   refine k<|bu H9 0 J bT J J J J J J J ?_
   let J6:=box ba #[I kd,I (-1),I (-1),I (-1),I (-1),.slice none 0 0,I (-1),I (-1)] 33
   intro w5 (dE:HI M w w5 (J6::dM))
   refine aq<|sq ?_
   obtain⟨x1,cQ⟩:∃x,(du U cn cr (j_:Int))[(0:Int).toNat]? =some x:=⟨_,dW aj⟩
   have cH:HI M w w5 [J5,J4,J3,J2,J1,J0,J6]:=dE.bV [1,2,3,4,5,6,0] au J
   let J7:=box ba #[I kd,I (j_:Int),I (-1),I (-1),I (-1),.slice none 0 0,I (-1),I (-1)] 33
   let J8:=box ba #[I kd,I (j_:Int),I x1,I (-1),I (-1),.slice none 0 0,I (-1),I (-1)] 33
   refine W4 [none,none,none,none,none,some 7,none,none,some 5] [0,0,2,6,1,17,63,127] [fun _=>[],fun _=>[],fun v_=>[pR (vP v_) x1],fun _=>[],fun _=>[],fun v_=>[J7],fun _=>[],fun v_=>[J8],fun _=>[J6]] [[],[],[],[2],[],[8],[],[5]] [fun v_=>v_=I (j_:Int),fun v_=>v_=sL a0 (du U cn cr (j_:Int)) c0,fun v_=>∃(ry:Addr),v_=.pointer (some ry),fun v_=>v_=I x1∧aK (x1),fun v_=>v_=pV ba 1,fun _=>True,fun v_=>v_=pV ba 2,fun _=>True] [J5,J4,J3,J2,J1,J0] J aS J cH ?_ ?_
   ·
    refine⟨fun f1 w8 V_ eE l5 hp0 hq0 dV=>?_,?_⟩
    ·
     have dA:HI M w w8 (dM++eE):=(by have h_:HI M w w8 (dM++(eE)):=dV;exact h_)
     refine mv J (l5 6 J) ?_
     exact⟨_,J,J,dA⟩
    refine⟨fun f2 w9 V_ eE Hc JI JC dX=>?_,?_⟩
    ·
     have dI:HI M w w9 (dM++eE):=(by have h_:HI M w w9 (dM++(eE)):=dX;exact h_)
     refine mv J (Hc 8 J) ?_
     exact⟨_,J,J,dI⟩
    refine⟨fun f3 dP V_ eE gM Tl nC d_=>?_,?_⟩
    ·
     obtain⟨e0,q0⟩:=Tl 1 _ rfl rfl rfl
     have e1:V_ 1=sL a0 (du U cn cr (j_:Int)) c0:=q0
     have s6:f3 36=sL a0 (du U cn cr (j_:Int)) c0:=e0.trans e1
     have dD:HI M w dP (dM++eE):=(by have h_:HI M w dP (dM++(eE)):=d_;exact h_)
     refine ia (dD.rv 0 J) J J s6 J aj cM aU ?_
     intro ma x2 gZ kf
     obtain rfl:x1=x2:=an5 (cQ.symm.trans gZ)
     have eR:=dD.put (it:=pR ma x1) J kf
     have eW:HI M w dP ((pR ma x1::dM)++eE):=eR
     have gW:=HI.aP (l:=(pR ma x1::dM)) (l':=[J5,J4,J3,J2,J1,J0,pR ma x1]) (t:=eE) eW [1,2,3,4,5,6,0] au J J
     exact⟨_,J,⟨ma,J⟩,gW⟩
    refine⟨fun f4 ey V_ eE Ap vf EE jf=>?_,?_⟩
    ·
     obtain⟨e2,q1⟩:=vf 2 _ rfl rfl rfl
     obtain⟨po,e3⟩:∃(po:Addr),V_ 2=.pointer (some po):=q1
     have s7:f4 37=.pointer (some po):=e2.trans e3
     have jC:HI M w ey ([iL a0 (du U cn cr (j_:Int)) c0,box aW #[I 0,I 0,I 0,I 0,I 0,.slice none 0 0,I 0,I 0] 33,ro eH #[.slice aC aD aB,sL aw U av,sL ay fo ax,I cn,sL dw cr dv,.slice iN rE jH] me,iL dw cr dv,iL ay fo ax,iL aw U av,pR po x1]++eE):=(by have h_:HI M w ey ([iL a0 (du U cn cr (j_:Int)) c0,box aW #[I 0,I 0,I 0,I 0,I 0,.slice none 0 0,I 0,I 0] 33,ro eH #[.slice aC aD aB,sL aw U av,sL ay fo ax,I cn,sL dw cr dv,.slice iN rE jH] me,iL dw cr dv,iL ay fo ax,iL aw U av]++([pR (vP<|V_ 2) x1]++(eE))):=jf;rw[e3] at h_;exact h_)
     refine mP (jC.UQ 6 J).w aU J s7 ?_
     intro jd
     exact⟨_,J,⟨J,jd⟩,(by have h_:=jC;rw[show (po:Addr)=(vP<|V_ 2) from by rw[e3]<;>rfl] at h_;exact h_)⟩
    refine⟨fun f5 fq V_ eE Yr BV ED jm=>?_,?_⟩
    ·
     have tN:HI M w fq (dM++eE):=(by have h_:HI M w fq (dM++(eE)):=jm;exact h_)
     refine fa rS J (Yr 9 J) ?_
     exact⟨_,J,J,tN⟩
    refine⟨fun f6 iQ V_ eE hs5 JH hq5 pq=>?_,?_⟩
    ·
     obtain⟨e4,q2⟩:=JH 0 _ rfl rfl rfl
     have e5:V_ 0=I (j_:Int):=q2
     have s8:f6 35=I (j_:Int):=e4.trans e5
     obtain⟨e6,q3⟩:=JH 4 _ rfl rfl rfl
     have e7:V_ 4=pV ba 1:=q3
     have s9:f6 39=pV ba 1:=e6.trans e7
     have kU:HI M w iQ ([J5,J4,J3,J2,J1,J0,J6]++eE):=(by have h_:HI M w iQ (dM++([J6]++(eE))):=pq;exact h_)
     refine bu kU 6 J aU J J s9 s8 J J J ?_
     intro j1 (ra:HI M w j1 ([J5,J4,J3,J2,J1,J0,J7]++eE))
     exact⟨undef,J,trivial,ra⟩
    refine⟨fun f7 rm V_ eE hs6 JF hq6 AP=>?_,?_⟩
    ·
     have ki:HI M w rm (dM++eE):=(by have h_:HI M w rm (dM++(eE)):=AP;exact h_)
     refine fa pN J (hs6 9 J) ?_
     exact⟨_,J,J,ki⟩
    refine⟨fun f8 zS V_ eE hs7 EG hq7 mB=>?_,?_⟩
    ·
     obtain⟨e8,q4⟩:=EG 3 _ rfl rfl rfl
     obtain⟨e9,jX⟩:V_ 3=I x1∧aK (x1):=q4
     have ej:f8 38=I x1:=e8.trans e9
     obtain⟨Uh,q5⟩:=EG 6 _ rfl rfl rfl
     have rU:V_ 6=pV ba 2:=q5
     have eX:f8 40=pV ba 2:=Uh.trans rU
     have wu:HI M w zS ([J5,J4,J3,J2,J1,J0,J7]++eE):=(by have h_:HI M w zS (dM++([J7]++(eE))):=mB;exact h_)
     refine bu wu 6 J aU J J eX ej J J J ?_
     intro tQ (rz:HI M w tQ ([J5,J4,J3,J2,J1,J0,J8]++eE))
     exact⟨undef,J,trivial,rz⟩
    exact trivial
   ·
    intro f9 tP V_ Yq BU qz
    obtain⟨sQ,q6⟩:=BU 2 _ rfl rfl
    obtain⟨tJ,rT⟩:∃(tJ:Addr),V_ 2=.pointer (some tJ):=q6
    have fD:=(Yq 4 J).trans s2
    have gi:f9 9=pV ba 0:=Yq 9 J
    have Zw:HI M w tP [iL a0 (du U cn cr (j_:Int)) c0,box aW #[I 0,I 0,I 0,I 0,I 0,.slice none 0 0,I 0,I 0] 33,ro eH #[.slice aC aD aB,sL aw U av,sL ay fo ax,I cn,sL dw cr dv,.slice iN rE jH] me,iL dw cr dv,iL ay fo ax,iL aw U av,pR tJ x1,box ba #[I kd,I (j_:Int),I x1,I (-1),I (-1),.slice none 0 0,I (-1),I (-1)] 33]:=(by have h_:HI M w tP ([iL a0 (du U cn cr (j_:Int)) c0,box aW #[I 0,I 0,I 0,I 0,I 0,.slice none 0 0,I 0,I 0] 33,ro eH #[.slice aC aD aB,sL aw U av,sL ay fo ax,I cn,sL dw cr dv,.slice iN rE jH] me,iL dw cr dv,iL ay fo ax,iL aw U av]++([]++([]++([pR (vP<|V_ 2) x1]++([]++([]++([]++([box ba #[I kd,I (j_:Int),I x1,I (-1),I (-1),.slice none 0 0,I (-1),I (-1)] 33]++([]))))))))):=qz;rw[rT] at h_;exact h_)
    refine cO<|k<|cB Zw 7 J bT J gi au J<|k<|bu Zw 1 J bT J J fD J J J J ?_
    intro vV (Kl:HI M w vV [J5,box aW #[I kd,I (j_:Int),I x1,I (-1),I (-1),.slice none 0 0,I (-1),I (-1)] 33,J3,J2,J1,J0,pR tJ x1,J8])
    refine ak (v:=.bool true) J J<|aq<|rt<|bS<|aL<|dY<|bS<|aL ?_
    have qQ:=D_ (n:=fo.length) hs aj<|show vz U fo cn cr j_=true by simp only[vz,jy aM,cQ,b0,(fw b1),b2,BL]
    refine iy Kl 1 J bT J J J fD J au ?_
    have e8:(true:Bool)=(qh U fo cn cr kd).isSome:=by exact aeH qQ
    have bq:=iF (fun (lK:Bool)=>(.tuple #[.agg #[I kd,I (j_:Int),I x1,I (-1),I (-1),.slice none 0 0,I (-1),I (-1)],.bool lK]:Value)) e8
    exact⟨kd,(j_:Int),x1,(-1),(-1),(-1),(-1),bq,Kl.below,(by exact agQ lT qQ aj cQ (Nv lk cQ))⟩
  have p2:=dF b2
  refine sk<|aF<|nx<|rg<|k<|add J J s5 J aR<|ai (v:=I ((j_:Int)+1)) J J<|z ?_
  have H8:HI M w w2 bX:=H7.bV [1,2,3,4,5] au J
  refine bF _ ?_ ⟨(j_+1),J,s0,s1,s2,s3,s4,(bH J),H8,aj,(by exact su hs (by simp only[vz,jy aM,b0,(fw b1),b2,BL]))⟩
  omega
 have p0:=dF b0
 refine ex<|aT<|aY<|bf<|cO<|k<|bd (v:=.agg #[I 0,I 0,I 0,I 0,I 0,.slice none 0 0,I 0,I 0]) J ew (fun _=>aS)<|k<|bu H5 0 J bT J J s2 J J J J ?_
 intro w2 (H6:HI M w w2 bX)
 refine ak (v:=.bool false) J J<|aq<|rt ?_
 have qQ:AD U fo cn cr=none:=Bx hs aj
 refine iy H6 0 J bT J J J s2 J au ?_
 have e8:(false:Bool)=(qh U fo cn cr kd).isSome:=by rw[Ue qQ];rfl
 have bq:=iF (fun (lK:Bool)=>(.tuple #[.agg #[I 0,I 0,I 0,I 0,I 0,.slice none 0 0,I 0,I 0],.bool lK]:Value)) e8
 exact⟨0,0,0,0,0,0,0,bq,H6.below,(by exact ui (Ue qQ) On)⟩
theorem Hy:gR aI 33 3 3:=jT Tryz.underlying33
theorem Og (hM:eJ M w) (hT:fS 0 w) (dC:cA M w aw av U) (fZ:cA M w ay ax fo) (kC:aK cn) (nM:cA M w dw dv cr) (lT:aK kd) (ll:w.heap[eH]? =some (.cells #[.slice aC aD aB,sL aw U av,sL ay fo ax,I cn,sL dw cr dv,.slice iN rE jH] me (0,0))∧¬M eH) (lk:bJ cn cr=true) (eB:fo.length=U.length):Calls aI 36 #[.pointer (some ⟨eH,0,none⟩),I kd] w (cm fun v w'=>∃(k_:Int) (r_:Int) (a_:Int) (b_:Int) (o_:Int) (f_:Int) (s_:Int),v=.tuple #[.agg #[I k_,I r_,I a_,I b_,I o_,.slice none 0 0,I f_,I s_],.bool ((qi U fo cn cr kd).isSome)]∧Ext w w'∧qw (qi U fo cn cr kd) k_ r_ a_ b_ o_):=by
 refine dx 60 Tryz.func36 J J J hM fun f0 ha H=>?_
 let J0:=iL aw U av
 have H0:=H.put (it:=J0) J<|by rw[bP];exact dC
 let J1:=iL ay fo ax
 have H1:=H0.put (it:=J1) J<|by rw[aH rfl,bP];exact fZ
 let J2:=iL dw cr dv
 have H2:=H1.put (it:=J2) J<|by rw[aH rfl,aH rfl,bP];exact nM
 have ja:=bg dC
 have kR:=bg fZ
 have Bl:=bg nM
 let J3:=ro eH #[.slice aC aD aB,sL aw U av,sL ay fo ax,I cn,sL dw cr dv,.slice iN rE jH] me
 have H3:=H2.put (it:=J3) J<|by rw[aH rfl,aH rfl,aH rfl,bP];exact ll
 have i0:f0 0=pV eH 0:=ha 0 bj
 have i1:f0 1=I kd:=ha 1 bj
 refine az<|k<|al H3 bT ?_
 let bc:=[J3,J2,J1,J0]
 intro aW w0 bW (H4:HI M w w0 (box aW #[I 0,I 0,I 0,I 0,I 0,.slice none 0 0,I 0,I 0] 33::bc))
 let J4:=box aW #[I 0,I 0,I 0,I 0,I 0,.slice none 0 0,I 0,I 0] 33
 refine ak (v:=.bool false) J J<|aq<|sq<|az<|ai J i0<|k<|nc J J<|aQ rR J J<|aQ tF J J<|k<|lr H4 1 J qD J J J<|k<|dL J J cM<|ai (v:=I 0) J J<|aq<|bk<|lp (fun m f w'=>∃(j_:Nat),m=fo.length-j_∧f 0=pV eH 0∧f 1=I kd∧f 4=pV aW 0∧f 15=sL ay fo ax∧f 16=I (fo.length:Int)∧f 17=I (j_:Int)∧HI M w w' (J4::bc)∧(j_≤fo.length)∧(∀q,q<j_→vU U fo cn cr q=false)) _ ⟨0,J,i0,i1,J,J,J,(bH J),H4,aj,(by intro q h;omega)⟩ ?_
 rintro _ f0 w1 ⟨j_,rfl,s0,s1,s2,s3,s4,s5,H5,pj,hs⟩
 refine az<|k<|lss J J s5 s4<|aq<|sq<|cd (b:=decide ((j_:Int)<(fo.length:Int))) J J (fun b0=>?_)<|fun b0=>?_
 ·
  have p0:=dT b0
  refine sk<|nx<|sq<|bk<|az<|ai J s5<|k<|ia (H5.rv 3 J) J J s3 s5 aj cM aU ?_
  intro iG x0 aM cw
  refine k<|mP cw.w aU J J ?_
  intro cu
  refine ak (v:=I (j_:Int)) J J<|ak (v:=I x0) J J<|aq<|sq<|az<|ai (v:=I x0) J J<|k<|lss J J J J<|z<|nx<|cd (b:=decide (x0<0)) J J (fun b1=>?_)<|fun b1=>?_
  ·
   have p1:=dT b1
   refine ex<|aT<|bf<|nx<|rg<|k<|add J J s5 J aR<|ai (v:=I ((j_:Int)+1)) J J<|z<|bF _ ?_ ⟨(j_+1),J,s0,s1,s2,s3,s4,(bH J),H5,aj,(by exact aeZ hs aM ‹_›)⟩
   omega
  have p1:=dF b1
  refine sk<|cO<|ai J s0<|ai J s0<|k<|nc J J<|aQ xQ J J<|k<|v7 H5 1 J bm J J au J<|ai (v:=I (j_:Int)) J J<|k ?_
  have bR:=Dz (U:=U) (cn:=cn) (mn:=cn) (mr:=cr) (fB:=(j_:Int)) H5.mb (hT.ext H5.below) (H5.rv 4 J) kC kC (H5.rv 2 J) aR (H5.at_ 1 J) (by exact lk) aj
  refine ca WO J (ec J<|ec J<|ec J e0) bR ?_
  rintro _ w2 ⟨a0,c0,rfl,df,ee⟩
  have H6:=H5.ext df
  have eb:=(ee.lift<|Up.less fun b _ hb=>H5.mb b hb)
  let J5:=iL a0 (du U cn cr (j_:Int)) c0
  have H7:=H6.put (it:=J5) J eb
  refine k<|dL J J cM<|ai (v:=I 0) J J<|aq<|bk ?_
  let bX:=J5::J4::bc
  refine lp (fun m f w'=>∃(q_:Nat),m=(du U cn cr (j_:Int)).length-q_∧f 0=pV eH 0∧f 1=I kd∧f 4=pV aW 0∧f 6=I (j_:Int)∧f 7=I x0∧f 15=sL ay fo ax∧f 16=I (fo.length:Int)∧f 17=I (j_:Int)∧f 30=sL a0 (du U cn cr (j_:Int)) c0∧f 31=I ((du U cn cr (j_:Int)).length:Int)∧f 32=I (q_:Int)∧HI M w w' bX∧(q_≤(du U cn cr (j_:Int)).length)∧(∀y∈(du U cn cr (j_:Int)).take q_,(zH cn cr x0) y=false)) _ ⟨0,J,s0,s1,s2,J,J,s3,s4,s5,J,J,(bH J),H7,aj,bj⟩ ?_
  rintro _ f1 w3 ⟨q_,rfl,s6,s7,s8,s9,ej,eX,fA,fD,gi,gS,kb,H8,sI,gM⟩
  refine sq ?_
  have la_:=RD lk U (j_:Int)
  refine rg<|k<|lss J J kb gS<|aq<|sq<|cd (b:=decide ((q_:Int)<((du U cn cr (j_:Int)).length:Int))) J J (fun b2=>?_)<|fun b2=>?_
  ·
   have p2:=dT b2
   refine sk<|nx<|sq<|bk<|az<|k<|ia (H8.rv 0 J) J J gi kb aj cM aU ?_
   intro ry x1 cQ gN
   refine k<|mP gN.w aU J J ?_
   intro fh
   refine ak (v:=I x1) J J<|bw<|ai (v:=I x1) J J<|ai J ej<|k<|neq J J J J<|ai (v:=.bool (!decide (x1=x0))) J J ?_
   rcases bE (!decide (x1=x0)) with b3|b3
   ·
    have p3:=dF<|fX b3
    refine aZ J J J b3<|mv J s6<|aZ J J J b3<|nc J J<|aZ J J J b3<|fa xQ J J<|aZ J J J b3<|v7 H8 2 J bm J J au J<|aZ J J J b3<|mv J ej<|aZ J J J b3<|mv (v:=I x1) J J<|aZ J J J b3 ?_
    have cU:=uz (mn:=cn) (mr:=cr) (i:=x0) (j:=x1) H8.mb kC (H8.rv 3 J) cu fh (by exact(bQ lk).1) (by exact(bQ lk).2.1)<|by exact(bQ lk).2.2.1
    refine ca F4 J (ec J<|ec J<|ec J e0) cU ?_
    rintro _ w4 ⟨rfl,eS⟩
    have H9:=H8.ext eS
    refine k<|aP J J J J b3 J<|z<|nx<|cd (b:=eI cn cr x0 x1) J J (fun b4=>?_)<|fun b4=>?_
    ·
     refine sq ?_
     obtain⟨qQ,C_,ha_⟩:=ae0 hs aj aM ‹_› gM cQ (fX ‹(!decide (x1=x0))=true›) ‹_›
     refine rg<|ai J s7<|k ?_
     have fU:=qZ (kd:=kd) (w:=w4) lT
     refine ca F5 J (ec J e0) fU ?_
     rintro _ w5 ⟨rfl,fH⟩
     have dE:=H9.ext fH
     refine k<|al dE bT ?_
     intro ba w6 jg (cV:HI M w w6 (box ba #[I 0,I 0,I 0,I 0,I 0,.slice none 0 0,I 0,I 0] 33::bX))
     refine k<|bu cV 0 J bT J J J J J J J ?_
     intro w7 (dm:HI M w w7 (box ba #[I kd,I (-1),I (-1),I (-1),I (-1),.slice none 0 0,I (-1),I (-1)] 33::bX))
     refine bw<|ai J s9<|ai J ej<|ai (v:=I x1) J J<|aQ rS J J<|k<|bu dm 0 J aU J J J J J J J ?_
     intro w8 (cL:HI M w w8 (box ba #[I kd,I (j_:Int),I (-1),I (-1),I (-1),.slice none 0 0,I (-1),I (-1)] 33::bX))
     refine aQ pN J J<|k<|bu cL 0 J aU J J J J J J J ?_
     intro w9 (cH:HI M w w9 (box ba #[I kd,I (j_:Int),I x0,I (-1),I (-1),.slice none 0 0,I (-1),I (-1)] 33::bX))
     refine aQ Hy J J<|k<|bu cH 0 J aU J J J J J J J ?_
     let J6:=box ba #[I kd,I (j_:Int),I x0,I x1,I (-1),.slice none 0 0,I (-1),I (-1)] 33
     intro dP (dV:HI M w dP (J6::bX))
     refine bw<|k<|cB dV 0 J bT J J au J<|k<|bu dV 2 J bT J J s8 J J J J ?_
     intro ey (dA:HI M w ey (J6::J5::box aW #[I kd,I (j_:Int),I x0,I x1,I (-1),.slice none 0 0,I (-1),I (-1)] 33::bc))
     refine ak (v:=.bool true) J J<|aq<|rt<|bS<|aL<|dY<|bS<|bS<|aL<|dY<|bS<|aL<|iy dA 2 J bT J J J s8 J au ?_
     have e8:(true:Bool)=(qi U fo cn cr kd).isSome:=by exact aeT qQ
     have bq:=iF (fun (lK:Bool)=>(.tuple #[.agg #[I kd,I (j_:Int),I x0,I x1,I (-1),.slice none 0 0,I (-1),I (-1)],.bool lK]:Value)) e8
     exact⟨kd,(j_:Int),x0,x1,(-1),(-1),(-1),bq,dA.below,(by exact agT lT qQ C_ ha_ aj bt (Nv lk cQ))⟩
    refine sk<|aF<|nx<|rg<|k<|add J J kb J aR<|ai (v:=I ((q_:Int)+1)) J J<|z<|bF _ ?_ ⟨(q_+1),J,s6,s7,s8,s9,ej,eX,fA,fD,gi,gS,(bH J),H9,aj,(by exact O7 gM cQ (by simp only[zH,b0,b1,b2,(fX b3),b4,BL]))⟩
    omega
   have p3:=dT<|fw b3
   refine aX J J J b3<|aX J J J b3<|aX J J J b3<|aX J J J b3<|aX J J J b3<|aX J J J b3<|aX J J J b3<|k<|dG J J J J b3 J<|aq<|pk J J J<|sk<|aF<|nx<|rg<|k<|add J J kb J aR<|ai (v:=I ((q_:Int)+1)) J J<|z<|bF _ ?_ ⟨(q_+1),J,s6,s7,s8,s9,ej,eX,fA,fD,gi,gS,(bH J),H8,aj,(by exact O7 gM cQ (by simp only[zH,b0,b1,b2,(fw b3),BL]))⟩
   omega
  have p2:=dF b2
  refine ex<|aT<|aY<|bf<|aF<|nx<|rg<|k<|add J J fD J aR<|ai (v:=I ((j_:Int)+1)) J J<|z ?_
  have H9:HI M w w3 (J4::bc):=H8.bV [1,2,3,4,5] au J
  refine bF _ ?_ ⟨(j_+1),J,s6,s7,s8,eX,fA,(bH J),H9,aj,(by exact Xt hs aM gM aj)⟩
  omega
 have p0:=dF b0
 refine ex<|aT<|aY<|bf<|cO<|k<|bd (v:=.agg #[I 0,I 0,I 0,I 0,I 0,.slice none 0 0,I 0,I 0]) J ew (fun _=>aS)<|k<|bu H5 0 J bT J J s2 J J J J ?_
 intro w2 (H6:HI M w w2 (J4::bc))
 refine ak (v:=.bool false) J J<|aq<|rt ?_
 have qQ:Gj U fo cn cr=none:=Bx hs aj
 refine iy H6 0 J bT J J J s2 J au ?_
 have e8:(false:Bool)=(qi U fo cn cr kd).isSome:=by rw[UA qQ];rfl
 have bq:=iF (fun (lK:Bool)=>(.tuple #[.agg #[I 0,I 0,I 0,I 0,I 0,.slice none 0 0,I 0,I 0],.bool lK]:Value)) e8
 exact⟨0,0,0,0,0,0,0,bq,H6.below,(by exact ui (UA qQ) On)⟩
theorem aen:cx aI 67:=cF Tryz.func67
theorem Xx (kC:aK cn) (lT:aK kd) (hT:fS 0 w) (ho:ik U) (dy:U.length≤64) (eB:fo.length=U.length) (fL:∀x∈fo,x<((U.length:Nat):Int)) (oA:cn=((U.length:Nat):Int)) (pJ:cr=ct U fo) (hsw:iN=none∧sw=[]∨sw=eT U fo) (H:HI M w w_ ([box eH #[.slice aC aD aB,sL aw U av,sL ay fo ax,I cn,sL dw cr dv,sL iN sw jH] 80,iL aw U av,iL ay fo ax,iL dw cr dv,oL w 26 iN sw jH]++r)):Calls aI 39 #[pV eH 0,I kd] w_ (cm fun v w'=>∃(k_:Int) (r_:Int) (a_:Int) (b_:Int) (o_:Int) (f_:Int) (s_:Int) (wH:OA) (wG:Nat),v=.tuple #[.agg #[I k_,I r_,I a_,I b_,I o_,.slice none 0 0,I f_,I s_],.bool ((sy U fo kd).isSome)]∧HI M w w' ([box eH #[.slice aC aD aB,sL aw U av,sL ay fo ax,I cn,sL dw cr dv,.slice wH (eT U fo).length wG] 80,iL aw U av,iL ay fo ax,iL dw cr dv,oL w 26 wH (eT U fo) wG]++r)∧qw (sy U fo kd) k_ r_ a_ b_ o_):=by
 refine enter 34 Tryz.func39 J J J fun f0 ha=>?_
 have ja:=bg<|H.rv 1 J
 have kR:=bg<|H.rv 2 J
 have Bl:=bg<|H.rv 3 J
 have Yb:=kl<|H.at_ 4 J
 have i0:f0 0=pV eH 0:=ha 0 bj
 have i1:f0 1=I kd:=ha 1 bj
 refine az<|k<|al H bT ?_
 let J1:=box eH #[.slice aC aD aB,sL aw U av,sL ay fo ax,I cn,sL dw cr dv,sL iN sw jH] 80
 let J2:=iL aw U av
 let J3:=iL ay fo ax
 let J4:=iL dw cr dv
 let J5:=oL w 26 iN sw jH
 intro aW w0 bW (H0:HI M w w0 ([box aW #[I 0,I 0,I 0,I 0,I 0,.slice none 0 0,I 0,I 0] 33,J1,J2,J3,J4,J5]++r))
 let J0:=box aW #[I 0,I 0,I 0,I 0,I 0,.slice none 0 0,I 0,I 0] 33
 refine ak (v:=.bool false) J J<|aq<|sq<|az<|ai J i0<|k ?_
 have H1:HI M w w0 ([J1,J2,J3,J4,J5]++([J0]++r)):=HI.aP (l:=[J0,J1,J2,J3,J4,J5]) (l':=[J1,J2,J3,J4,J5,J0]) (t:=r) H0 [1,2,3,4,5,0] au J J
 have bR:=PT (eH:=eH) (aC:=aC) (aD:=aD) (aB:=aB) (aw:=aw) (av:=av) (U:=U) (ay:=ay) (ax:=ax) (fo:=fo) (cn:=cn) (dw:=dw) (dv:=dv) (cr:=cr) (iN:=iN) (jH:=jH) (sw:=sw) (w:=w) (w_:=w0) (r:=([J0]++r)) (M:=M) kC hT (by exact ho) (by exact dy) (by exact eB) (by exact fL) (by exact oA) (by exact pJ) aj H1
 refine ca aen J (ec J e0) bR ?_
 rintro _ w1 ⟨a0,c0,rfl,H2⟩
 let J6:=box eH #[.slice aC aD aB,sL aw U av,sL ay fo ax,I cn,sL dw cr dv,sL a0 (eT U fo) c0] 80
 let J7:=oL w 26 a0 (eT U fo) c0
 refine k<|dL J J Ie<|ai (v:=I 0) J J<|aq<|bk ?_
 let bc:=[J6,J2,J3,J4,J7,J0]
 refine lp (fun m f w'=>∃(j_:Nat),m=U.length-j_∧f 1=I kd∧f 4=pV aW 0∧f 12=sL a0 (eT U fo) c0∧f 13=I ((eT U fo).length:Int)∧f 14=I (j_:Int)∧HI M w w' (bc++r)∧(j_≤U.length)∧(∀q,q<j_→XV U fo q=false)) _ ⟨0,J,i1,J,J,J,(bH J),H2,aj,(by intro q h;omega)⟩ ?_
 rintro _ f0 w2 ⟨j_,rfl,s0,s1,s2,s3,s4,H4,pj,hs⟩
 refine az<|k<|lss J J s4 s3<|aq<|sq<|cd (b:=decide ((j_:Int)<((eT U fo).length:Int))) J J (fun b0=>?_)<|fun b0=>?_
 ·
  have p0:=dT b0
  refine sk<|nx<|sq<|bk<|az<|ai J s4<|k<|iz (H4.at_ 4 J) J J s2 s4 aj Ie bm ?_
  intro g0 x0 iE aM cw
  refine k<|nz cw bm J J ?_
  intro v0 cu
  obtain⟨_,⟨_,_,rfl,⟨rfl,ee⟩,⟨v1,rfl,eb⟩⟩,rfl⟩:=cu
  obtain⟨a1,c1,rfl,fh⟩:=RS.explicit eb
  let J8:=iL a1 x0.2 c1
  have H5:=H4.put (it:=J8) J<|by exact fh
  refine k<|al H5 bm ?_
  intro ba w3 df (H7:HI M w w3 ((box ba #[I 0,.slice none 0 0] 26::J8::bc)++r))
  refine ak (v:=I (j_:Int)) J J<|k<|bu H7 0 J bm J J J J J J J ?_
  let J9:=box ba #[I x0.1,sL a1 x0.2 c1] 26
  let bX:=J9::J8::bc
  intro w4 (H8:HI M w w4 (bX++r))
  refine aq<|sq ?_
  obtain⟨Hh,TL⟩:=OF aM
  have zC:x0.1=((U.length:Nat):Int):=by rw[TL]
  have zB:x0.2=(cX U fo (j_:Int)):=by rw[TL]
  have Qo:bJ x0.1 x0.2=true:=by rw[zC,zB];exact GA dy Hh
  refine rg<|k<|cB H8 0 J bm J J au J<|k ?_
  have cU:=yN (mn:=x0.1) (mr:=x0.2) H8.mb ee (H8.rv 1 J)<|by exact Qo
  refine ca Rb J (ec J e0) cU ?_
  rintro _ w5 ⟨rfl,eS⟩
  have H9:=H8.ext eS
  refine ai (v:=.tuple #[I (((cP x0.1 x0.2).getD 0:Nat):Int),.bool ((cP x0.1 x0.2).isSome)]) J J<|k<|xt J J J<|k<|xt J J J<|ak (v:=I (((cP x0.1 x0.2).getD 0:Nat):Int)) J J<|ak (v:=.bool ((cP x0.1 x0.2).isSome)) J J<|bw<|ai (v:=.bool ((cP x0.1 x0.2).isSome)) J J<|z<|nx<|cd (b:=(cP x0.1 x0.2).isSome) J J (fun b1=>?_)<|fun b1=>?_
  ·
   refine az<|ai J s0<|k ?_
   have fU:=qZ (kd:=kd) (w:=w5) lT
   refine ca F5 J (ec J e0) fU ?_
   rintro _ w6 ⟨rfl,fH⟩
   have dE:=H9.ext fH
   refine k<|al dE bT ?_
   intro bI w7 jg (cV:HI M w w7 ((box bI #[I 0,I 0,I 0,I 0,I 0,.slice none 0 0,I 0,I 0] 33::bX)++r))
   refine k<|bu cV 0 J bT J J J J J J J ?_
   intro w8 (dm:HI M w w8 ((box bI #[I kd,I (-1),I (-1),I (-1),I (-1),.slice none 0 0,I (-1),I (-1)] 33::bX)++r))
   refine bw<|ai (v:=I (j_:Int)) J J<|ai (v:=I (((cP x0.1 x0.2).getD 0:Nat):Int)) J J<|aQ oT J J<|k<|bu dm 0 J aU J J J J J J J ?_
   intro w9 (cL:HI M w w9 ((box bI #[I kd,I (-1),I (-1),I (-1),I (j_:Int),.slice none 0 0,I (-1),I (-1)] 33::bX)++r))
   refine aQ pN J J<|k<|bu cL 0 J aU J J J J J J J ?_
   let dZ:=box bI #[I kd,I (-1),I (((cP x0.1 x0.2).getD 0:Nat):Int),I (-1),I (j_:Int),.slice none 0 0,I (-1),I (-1)] 33
   intro dP (cH:HI M w dP ((dZ::bX)++r))
   refine bw<|k<|cB cH 0 J bT J J au J<|k<|bu cH 8 J bT J J s1 J J J J ?_
   let eL:=box aW #[I kd,I (-1),I (((cP x0.1 x0.2).getD 0:Nat):Int),I (-1),I (j_:Int),.slice none 0 0,I (-1),I (-1)] 33
   intro ey (dV:HI M w ey ([dZ,J9,J8,J6,J2,J3,J4,J7,eL]++r))
   refine ak (v:=.bool true) J J<|aq<|rt<|bS<|aL<|dY<|bS<|aL ?_
   have tY:(cP ((U.length:Nat):Int) (cX U fo (j_:Int))).isSome=true:=by rw[←zC,←zB];assumption
   have qQ:I8 U fo=some j_:=D_ hs Hh tY
   refine iy dV 8 J bT J J J s1 J au ?_
   have dA:=HI.aP (l:=[dZ,J9,J8,J6,J2,J3,J4,J7,eL]) (l':=[J6,J2,J3,J4,J7]) (t:=r) dV [3,4,5,6,7] au J J
   have e0:(true:Bool)=(sy U fo kd).isSome:=by exact afC qQ
   try rw[←e0]
   refine⟨kd,(-1),(((cP x0.1 x0.2).getD 0:Nat):Int),(-1),(j_:Int),(-1),(-1),a0,c0,?_,?_,(by rw[zC,zB];exact ait lT qQ Hh dy tY)⟩
   · first|rfl|simp only[e0]|(simp only[an1])
   · first|exact dA|simpa +zetaDelta only[e0,an1] using dA
  refine sk<|aF<|nx<|rg<|k<|add J J s4 J aR<|ai (v:=I ((j_:Int)+1)) J J<|z ?_
  have dE:HI M w w5 (bc++r):=HI.aP (l:=bX) (l':=bc) (t:=r) H9 [2,3,4,5,6,7] au J J
  refine bF _ ?_ ⟨(j_+1),J,s0,s1,s2,s3,(bH J),dE,aj,(by exact su hs (by unfold XV;rw[←zC,←zB];assumption))⟩
  omega
 have p0:=dF b0
 refine ex<|aT<|aY<|bf<|cO<|k<|bd (v:=.agg #[I 0,I 0,I 0,I 0,I 0,.slice none 0 0,I 0,I 0]) J ew (fun _=>aS)<|k<|bu H4 5 J bT J J s1 J J J J ?_
 intro w3 (H5:HI M w w3 (bc++r))
 refine ak (v:=.bool false) J J<|aq<|rt ?_
 have qQ:I8 U fo=none:=Bx hs<|by rw[A2] at p0;omega
 refine iy H5 5 J bT J J J s1 J au ?_
 have H6:=HI.aP (l:=bc) (l':=[J6,J2,J3,J4,J7]) (t:=r) H5 [0,1,2,3,4] au J J
 have e0:(false:Bool)=(sy U fo kd).isSome:=by rw[XU qQ];rfl
 try rw[←e0]
 refine⟨0,0,0,0,0,0,0,a0,c0,?_,?_,(by exact ui (XU qQ) On)⟩
 · first|rfl|simp only[e0]|(simp only[an1])
 · first|exact H6|simpa +zetaDelta only[e0,an1] using H6
theorem UJ (kC:aK cn) (lT:aK kd) (hT:fS 0 w) (ho:ik U) (dy:U.length≤64) (eB:fo.length=U.length) (fL:∀x∈fo,x<((U.length:Nat):Int)) (oA:cn=((U.length:Nat):Int)) (pJ:cr=ct U fo) (hsw:iN=none∧sw=[]∨sw=eT U fo) (H:HI M w w_ ([box eH #[.slice aC aD aB,sL aw U av,sL ay fo ax,I cn,sL dw cr dv,sL iN sw jH] 80,iL aw U av,iL ay fo ax,iL dw cr dv,oL w 26 iN sw jH]++r)):Calls aI 38 #[pV eH 0,I kd] w_ (cm fun v w'=>∃(k_:Int) (r_:Int) (a_:Int) (b_:Int) (o_:Int) (f_:Int) (s_:Int) (wH:OA) (wG:Nat),v=.tuple #[.agg #[I k_,I r_,I a_,I b_,I o_,.slice none 0 0,I f_,I s_],.bool ((sA U fo kd).isSome)]∧HI M w w' ([box eH #[.slice aC aD aB,sL aw U av,sL ay fo ax,I cn,sL dw cr dv,.slice wH (eT U fo).length wG] 80,iL aw U av,iL ay fo ax,iL dw cr dv,oL w 26 wH (eT U fo) wG]++r)∧qw (sA U fo kd) k_ r_ a_ b_ o_):=by
 refine enter 63 Tryz.func38 J J J fun f0 ha=>?_
 have ja:=bg<|H.rv 1 J
 have kR:=bg<|H.rv 2 J
 have Bl:=bg<|H.rv 3 J
 have Yb:=kl<|H.at_ 4 J
 have i0:f0 0=pV eH 0:=ha 0 bj
 have i1:f0 1=I kd:=ha 1 bj
 refine az<|k<|al H bT ?_
 let J1:=box eH #[.slice aC aD aB,sL aw U av,sL ay fo ax,I cn,sL dw cr dv,sL iN sw jH] 80
 let J2:=iL aw U av
 let J3:=iL ay fo ax
 let J4:=iL dw cr dv
 let J5:=oL w 26 iN sw jH
 intro aW w0 bW (H0:HI M w w0 ([box aW #[I 0,I 0,I 0,I 0,I 0,.slice none 0 0,I 0,I 0] 33,J1,J2,J3,J4,J5]++r))
 let J0:=box aW #[I 0,I 0,I 0,I 0,I 0,.slice none 0 0,I 0,I 0] 33
 refine ak (v:=.bool false) J J<|aq<|sq<|az<|ai J i0<|k ?_
 have H1:HI M w w0 ([J1,J2,J3,J4,J5]++([J0]++r)):=HI.aP (l:=[J0,J1,J2,J3,J4,J5]) (l':=[J1,J2,J3,J4,J5,J0]) (t:=r) H0 [1,2,3,4,5,0] au J J
 have bR:=PT (eH:=eH) (aC:=aC) (aD:=aD) (aB:=aB) (aw:=aw) (av:=av) (U:=U) (ay:=ay) (ax:=ax) (fo:=fo) (cn:=cn) (dw:=dw) (dv:=dv) (cr:=cr) (iN:=iN) (jH:=jH) (sw:=sw) (w:=w) (w_:=w0) (r:=([J0]++r)) (M:=M) kC hT (by exact ho) (by exact dy) (by exact eB) (by exact fL) (by exact oA) (by exact pJ) aj H1
 refine ca aen J (ec J e0) bR ?_
 rintro _ w1 ⟨a0,c0,rfl,H2⟩
 let J6:=box eH #[.slice aC aD aB,sL aw U av,sL ay fo ax,I cn,sL dw cr dv,sL a0 (eT U fo) c0] 80
 let J7:=oL w 26 a0 (eT U fo) c0
 refine k<|dL J J Ie<|ai (v:=I 0) J J<|aq<|bk ?_
 let bc:=[J6,J2,J3,J4,J7,J0]
 refine lp (fun m f w'=>∃(j_:Nat),m=U.length-j_∧f 0=pV eH 0∧f 1=I kd∧f 4=pV aW 0∧f 13=sL a0 (eT U fo) c0∧f 14=I ((eT U fo).length:Int)∧f 15=I (j_:Int)∧HI M w w' (bc++r)∧(j_≤U.length)∧(∀q,q<j_→Je U fo q=false)) _ ⟨0,J,i0,i1,J,J,J,(bH J),H2,aj,(by intro q h;omega)⟩ ?_
 rintro _ f0 w2 ⟨j_,rfl,s0,s1,s2,s3,s4,s5,H4,pj,hs⟩
 refine az<|k<|lss J J s5 s4<|aq<|sq<|cd (b:=decide ((j_:Int)<((eT U fo).length:Int))) J J (fun b0=>?_)<|fun b0=>?_
 ·
  have p0:=dT b0
  refine sk<|nx<|sq<|bk<|az<|ai J s5<|k<|iz (H4.at_ 4 J) J J s3 s5 aj Ie bm ?_
  intro g0 x0 iE aM cw
  refine k<|nz cw bm J J ?_
  intro v0 cu
  obtain⟨_,⟨_,_,rfl,⟨rfl,ee⟩,⟨v1,rfl,eb⟩⟩,rfl⟩:=cu
  obtain⟨a1,c1,rfl,fh⟩:=RS.explicit eb
  let J8:=iL a1 x0.2 c1
  have H5:=H4.put (it:=J8) J<|by exact fh
  refine k<|al H5 bm ?_
  let bX:=J8::bc
  intro ba w3 df (H7:HI M w w3 ((box ba #[I 0,.slice none 0 0] 26::bX)++r))
  refine ak (v:=I (j_:Int)) J J<|k<|bu H7 0 J bm J J J J J J J ?_
  let J9:=box ba #[I x0.1,sL a1 x0.2 c1] 26
  let dM:=J9::bX
  intro w4 (H8:HI M w w4 (dM++r))
  refine aq<|sq ?_
  obtain⟨Hh,TL⟩:=OF aM
  have zC:x0.1=((U.length:Nat):Int):=by rw[TL]
  have zB:x0.2=(cX U fo (j_:Int)):=by rw[TL]
  have Qo:bJ x0.1 x0.2=true:=by rw[zC,zB];exact GA dy Hh
  have lk_:=Bp ho dy (o:=(j_:Int)) ⟨by omega,by omega⟩
  refine rg<|ai J s0<|k<|nc J J<|aQ rR J J<|k<|cB H8 2 J dQ J J au J<|ai (v:=I (j_:Int)) J J<|k ?_
  have cU:=CI (U:=U) (o:=(j_:Int)) (aC:=aC) (aD:=aD) (aB:=aB) (ay:=ay) (eZ:=fo.length) (ax:=ax) H8.mb (H8.rv 3 J) aR (by exact ho) aj
  refine ca WM J (ec J<|ec J e0) cU ?_
  rintro _ w5 ⟨a2,c2,rfl,eS,jd⟩
  have H9:=H8.eP jd
  let dZ:=oL w 3 a2 (aV (fO U) (cz U (j_:Int))) c2
  refine k<|dL J J cM<|ai (v:=I 0) J J<|aq<|bk ?_
  let iO:=dZ::dM
  refine lp (fun m f w'=>∃(q_:Nat),m=(aV (fO U)<|cz U (j_:Int)).length-q_∧f 0=pV eH 0∧f 1=I kd∧f 4=pV aW 0∧f 6=I (j_:Int)∧f 7=pV ba 0∧f 13=sL a0 (eT U fo) c0∧f 14=I ((eT U fo).length:Int)∧f 15=I (j_:Int)∧f 25=sL a2 (aV (fO U)<|cz U (j_:Int)) c2∧f 26=I ((aV (fO U)<|cz U (j_:Int)).length:Int)∧f 27=I (q_:Int)∧HI M w w' (iO++r)∧(q_≤(aV (fO U)<|cz U (j_:Int)).length)∧(∀y∈(aV (fO U)<|cz U (j_:Int)).take q_,Cq U fo ((U.length:Nat):Int) (cX U fo (j_:Int)) y=false)) _ ⟨0,J,s0,s1,s2,J,J,s3,s4,s5,J,J,(bH J),H9,aj,(by intro y h;simp at h)⟩ ?_
  rintro _ f1 w6 ⟨q_,rfl,s6,s7,s8,s9,ej,eX,fA,fD,gi,gS,kb,cV,ai_,gM⟩
  refine az<|k<|lss J J kb gS<|aq<|sq<|cd (b:=decide ((q_:Int)<((aV (fO U)<|cz U (j_:Int)).length:Int))) J J (fun b1=>?_)<|fun b1=>?_
  ·
   have p1:=dT b1
   refine sk<|nx<|sq<|bk<|az<|k<|iz (cV.at_ 0 J) J J gi kb aj cM aU ?_
   intro g1 x1 kT cQ gN
   refine k<|mP gN aU J J ?_
   intro jX
   refine ak (v:=I x1) J J<|aq<|sq ?_
   obtain⟨q2_,aiV⟩:=aaw cQ
   have EC:=Jm ho aiV
   refine rg<|ai J s6<|k<|cB cV 1 J bm J ej au J<|ai (v:=I x1) J J<|k ?_
   have fU:=Dz (U:=U) (cn:=cn) (mn:=x0.1) (mr:=x0.2) (fB:=x1) (w:=w6) (M:=fun _=>False) (fun _ h_=>h_.elim) (hT.ext cV.below) ((cV.rv 4 J).lift (Up.less fun _ _ h_=>h_.elim)) kC ee ((cV.rv 2 J).lift (Up.less fun _ _ h_=>h_.elim)) jX ⟨cV.at_ 3 rfl,fun h_=>h_⟩ (by exact Qo) aj
   refine ca WO J (ec J<|ec J<|ec J e0) fU ?_
   rintro _ w7 ⟨a3,c3,rfl,fH,iU⟩
   have dm:=cV.ext fH
   have kW:=(iU.lift<|Up.less fun b _ hb=>cV.mb b hb)
   let eL:=iL a3 (du U x0.1 x0.2 x1) c3
   have cL:=dm.put (it:=eL) J kW
   let fj:=eL::iO
   have cH:HI M w w7 (fj++r):=cL
   refine ak (v:=sL a3 (du U x0.1 x0.2 x1) c3) J J<|bw<|ai J s6<|k<|nc J J<|aQ rR J J<|aQ tF J J<|bo cH 4 J qD J J J<|ai (v:=I x1) J J<|k<|ia (cH.rv 6 J) J J J J aj cM aU ?_
   intro iG x2 gZ kf
   refine k<|mP kf.w aU J J ?_
   intro nV
   refine k<|eql J J J J<|ai (v:=.bool (decide (x2=(-1)))) J J ?_
   rcases bE (decide (x2=(-1))) with b2|b2
   ·
    have p2:=dT b2
    refine aZ J J J b2<|mv (v:=sL a3 (du U x0.1 x0.2 x1) c3) J J<|aZ J J J b2<|dL J J cM<|aZ J J J b2<|gtr J J J J<|k<|aP J J J J b2 J<|z<|nx<|cd (b:=decide (0<((du U x0.1 x0.2 x1).length:Int))) J J (fun b3=>?_)<|fun b3=>?_
    ·
     have p3:=dT b3
     refine az<|ai J s7<|k ?_
     have fb:=qZ (kd:=kd) (w:=w7) lT
     refine ca F5 J (ec J e0) fb ?_
     rintro _ w8 ⟨rfl,jg⟩
     have dV:=cH.ext jg
     refine k<|al dV bT ?_
     intro bI w9 jr (dA:HI M w w9 ((box bI #[I 0,I 0,I 0,I 0,I 0,.slice none 0 0,I 0,I 0] 33::fj)++r))
     refine k<|bu dA 0 J bT J J J J J J J ?_
     let gf:=box bI #[I kd,I (-1),I (-1),I (-1),I (-1),.slice none 0 0,I (-1),I (-1)] 33
     intro dP (cT:HI M w dP ((gf::fj)++r))
     refine aq<|sq ?_
     obtain⟨x3,qm⟩:∃x,(du U x0.1 x0.2 x1)[(0:Int).toNat]? =some x:=⟨_,dW aj⟩
     have eR:HI M w dP ((gf::fj)++r):=cT
     let lF:=[eL,dZ,J9,J8,J6,J2,J3,J4,J7,J0,gf]
     have eW:HI M w dP (lF++r):=HI.aP (l:=(gf::fj)) (l':=lF) (t:=r) eR [1,2,3,4,5,6,7,8,9,10,0] au J J
     refine W4 [none,none,none,none,none,none,some 8,none,some 10,none,none,some 6,none] [0,0,0,4,12,1,33,99,227,511,1023] [fun _=>[],fun _=>[],fun _=>[],fun v_=>[pR (vP v_) x3],fun _=>[],fun _=>[],fun v_=>[box bI #[I kd,I (-1),I (-1),I (-1),I (j_:Int),.slice none 0 0,I (-1),I (-1)] 33],fun _=>[],fun v_=>[box bI #[I kd,I x1,I (-1),I (-1),I (j_:Int),.slice none 0 0,I (-1),I (-1)] 33],fun _=>[],fun v_=>[box bI #[I kd,I x1,I x3,I (-1),I (j_:Int),.slice none 0 0,I (-1),I (-1)] 33],fun _=>[box bI #[I kd,I (-1),I (-1),I (-1),I (-1),.slice none 0 0,I (-1),I (-1)] 33],fun _=>r] [[],[],[],[],[3],[],[11],[],[6],[],[8]] [fun v_=>v_=I (j_:Int),fun v_=>v_=I x1∧aK (x1),fun v_=>v_=sL a3 (du U x0.1 x0.2 x1) c3,fun v_=>∃(ry:Addr),v_=.pointer (some ry),fun v_=>v_=I x3∧aK (x3),fun v_=>v_=pV bI 4,fun _=>True,fun v_=>v_=pV bI 1,fun _=>True,fun v_=>v_=pV bI 2,fun _=>True] [iL a3 (du U x0.1 x0.2 x1) c3,oL w 3 a2 (aV (fO U)<|cz U (j_:Int)) c2,box ba #[I x0.1,sL a1 x0.2 c1] 26,iL a1 x0.2 c1,box eH #[.slice aC aD aB,sL aw U av,sL ay fo ax,I cn,sL dw cr dv,sL a0 (eT U fo) c0] 80,iL aw U av,iL ay fo ax,iL dw cr dv,oL w 26 a0 (eT U fo) c0,box aW #[I 0,I 0,I 0,I 0,I 0,.slice none 0 0,I 0,I 0] 33] J aS J (by show HI _ _ _ ([iL a3 (du U x0.1 x0.2 x1) c3,oL w 3 a2 (aV (fO U)<|cz U (j_:Int)) c2,box ba #[I x0.1,sL a1 x0.2 c1] 26,iL a1 x0.2 c1,box eH #[.slice aC aD aB,sL aw U av,sL ay fo ax,I cn,sL dw cr dv,sL a0 (eT U fo) c0] 80,iL aw U av,iL ay fo ax,iL dw cr dv,oL w 26 a0 (eT U fo) c0,box aW #[I 0,I 0,I 0,I 0,I 0,.slice none 0 0,I 0,I 0] 33]++([box bI #[I kd,I (-1),I (-1),I (-1),I (-1),.slice none 0 0,I (-1),I (-1)] 33]++(r++[])));rw[aps];exact eW) ?_ ?_
     ·
      refine⟨fun f2 j1 V_ eE l5 hp0 hq0 gW=>?_,?_⟩
      ·
       have jf:HI M w j1 (fj++eE):=(by have h_:HI M w j1 (fj++(eE)):=gW;exact h_)
       refine mv J ((l5 6 J).trans s9) ?_
       exact⟨_,J,J,jf⟩
      refine⟨fun f3 rm V_ eE Hc JI JC nu=>?_,?_⟩
      ·
       have jm:HI M w rm (fj++eE):=(by have h_:HI M w rm (fj++(eE)):=nu;exact h_)
       refine mv J (Hc 9 J) ?_
       exact⟨_,J,⟨J,jX⟩,jm⟩
      refine⟨fun f4 zS V_ eE gM Tl nC ln=>?_,?_⟩
      ·
       have pq:HI M w zS (fj++eE):=(by have h_:HI M w zS (fj++(eE)):=ln;exact h_)
       refine mv J (gM 10 J) ?_
       exact⟨_,J,J,pq⟩
      refine⟨fun f5 tQ V_ eE Ap vf EE ra=>?_,?_⟩
      ·
       obtain⟨e0,q0⟩:=vf 2 _ rfl rfl rfl
       have e1:V_ 2=sL a3 (du U x0.1 x0.2 x1) c3:=q0
       have kK:f5 53=sL a3 (du U x0.1 x0.2 x1) c3:=e0.trans e1
       have lg:HI M w tQ (fj++eE):=(by have h_:HI M w tQ (fj++(eE)):=ra;exact h_)
       refine ia (lg.rv 0 J) J J kK J aj cM aU ?_
       intro ma x4 xD wc
       obtain rfl:x3=x4:=an5 (qm.symm.trans xD)
       have AP:=lg.put (it:=pR ma x3) J wc
       have ki:HI M w tQ ((pR ma x3::fj)++eE):=AP
       have uh:=HI.aP (l:=(pR ma x3::fj)) (l':=[eL,dZ,J9,J8,J6,J2,J3,J4,J7,J0,pR ma x3]) (t:=eE) ki [1,2,3,4,5,6,7,8,9,10,0] au J J
       exact⟨_,J,⟨ma,J⟩,uh⟩
      refine⟨fun f6 tP V_ eE Yr BV ED mB=>?_,?_⟩
      ·
       obtain⟨e2,q1⟩:=BV 3 _ rfl rfl rfl
       obtain⟨po,e3⟩:∃(po:Addr),V_ 3=.pointer (some po):=q1
       have lC:f6 54=.pointer (some po):=e2.trans e3
       have wu:HI M w tP ([iL a3 (du U x0.1 x0.2 x1) c3,oL w 3 a2 (aV (fO U) (cz U (j_:Int))) c2,box ba #[I x0.1,sL a1 x0.2 c1] 26,iL a1 x0.2 c1,box eH #[.slice aC aD aB,sL aw U av,sL ay fo ax,I cn,sL dw cr dv,sL a0 (eT U fo) c0] 80,iL aw U av,iL ay fo ax,iL dw cr dv,oL w 26 a0 (eT U fo) c0,box aW #[I 0,I 0,I 0,I 0,I 0,.slice none 0 0,I 0,I 0] 33,pR po x3]++eE):=(by have h_:HI M w tP ([iL a3 (du U x0.1 x0.2 x1) c3,oL w 3 a2 (aV (fO U)<|cz U (j_:Int)) c2,box ba #[I x0.1,sL a1 x0.2 c1] 26,iL a1 x0.2 c1,box eH #[.slice aC aD aB,sL aw U av,sL ay fo ax,I cn,sL dw cr dv,sL a0 (eT U fo) c0] 80,iL aw U av,iL ay fo ax,iL dw cr dv,oL w 26 a0 (eT U fo) c0,box aW #[I 0,I 0,I 0,I 0,I 0,.slice none 0 0,I 0,I 0] 33]++([pR (vP<|V_ 3) x3]++(eE))):=mB;rw[e3] at h_;exact h_)
       refine mP (wu.UQ 10 J).w aU J lC ?_
       intro qd
       exact⟨_,J,⟨J,qd⟩,(by have h_:=wu;rw[show (po:Addr)=(vP<|V_ 3) from by rw[e3]<;>rfl] at h_;exact h_)⟩
      refine⟨fun f7 vV V_ eE hs5 JH hq5 zj=>?_,?_⟩
      ·
       have qz:HI M w vV (fj++eE):=(by have h_:HI M w vV (fj++(eE)):=zj;exact h_)
       refine fa oT J (hs5 11 J) ?_
       exact⟨_,J,J,qz⟩
      refine⟨fun f8 wY V_ eE hs6 JF hq6 Kl=>?_,?_⟩
      ·
       obtain⟨e4,q2⟩:=JF 0 _ rfl rfl rfl
       have e5:V_ 0=I (j_:Int):=q2
       have l3:f8 51=I (j_:Int):=e4.trans e5
       obtain⟨e6,q3⟩:=JF 5 _ rfl rfl rfl
       have e7:V_ 5=pV bI 4:=q3
       have lZ:f8 56=pV bI 4:=e6.trans e7
       have H46:HI M w wY (lF++eE):=(by have h_:HI M w wY (fj++([gf]++(eE))):=Kl;exact h_)
       refine bu H46 10 J aU J J lZ l3 J J J ?_
       intro I5 (H47:HI M w I5 ([eL,dZ,J9,J8,J6,J2,J3,J4,J7,J0,box bI #[I kd,I (-1),I (-1),I (-1),I (j_:Int),.slice none 0 0,I (-1),I (-1)] 33]++eE))
       exact⟨undef,J,trivial,H47⟩
      refine⟨fun f9 Eh V_ eE hs7 EG hq7 H49=>?_,?_⟩
      ·
       have H50:HI M w Eh (fj++eE):=(by have h_:HI M w Eh (fj++(eE)):=H49;exact h_)
       refine fa rS J (hs7 11 J) ?_
       exact⟨_,J,J,H50⟩
      refine⟨fun f10 La V_ eE Yq BU hq8 H52=>?_,?_⟩
      ·
       obtain⟨e8,q4⟩:=BU 1 _ rfl rfl rfl
       obtain⟨e9,qb⟩:V_ 1=I x1∧aK (x1):=q4
       have mZ:f10 52=I x1:=e8.trans e9
       obtain⟨Uh,q5⟩:=BU 7 _ rfl rfl rfl
       have rU:V_ 7=pV bI 1:=q5
       have pf:f10 57=pV bI 1:=Uh.trans rU
       let fN:=box bI #[I kd,I (-1),I (-1),I (-1),I (j_:Int),.slice none 0 0,I (-1),I (-1)] 33
       have H53:HI M w La ([eL,dZ,J9,J8,J6,J2,J3,J4,J7,J0,fN]++eE):=(by have h_:HI M w La (fj++([fN]++(eE))):=H52;exact h_)
       refine bu H53 10 J aU J J pf mZ J J J ?_
       intro RW (H54:HI M w RW ([eL,dZ,J9,J8,J6,J2,J3,J4,J7,J0,box bI #[I kd,I x1,I (-1),I (-1),I (j_:Int),.slice none 0 0,I (-1),I (-1)] 33]++eE))
       exact⟨undef,J,trivial,H54⟩
      refine⟨fun f11 Oq V_ eE hs9 EF hq9 H56=>?_,?_⟩
      ·
       have H57:HI M w Oq (fj++eE):=(by have h_:HI M w Oq (fj++(eE)):=H56;exact h_)
       refine fa pN J (hs9 11 J) ?_
       exact⟨_,J,J,H57⟩
      refine⟨fun f12 w26 V_ eE ade sm am1 H59=>?_,?_⟩
      ·
       obtain⟨sQ,q6⟩:=sm 4 _ rfl rfl rfl
       obtain⟨rT,oH⟩:V_ 4=I x3∧aK (x3):=q6
       have ym:f12 55=I x3:=sQ.trans rT
       obtain⟨tH,q7⟩:=sm 9 _ rfl rfl rfl
       have tG:V_ 9=pV bI 2:=q7
       have zX:f12 58=pV bI 2:=tH.trans tG
       let iH:=box bI #[I kd,I x1,I (-1),I (-1),I (j_:Int),.slice none 0 0,I (-1),I (-1)] 33
       have H60:HI M w w26 ([eL,dZ,J9,J8,J6,J2,J3,J4,J7,J0,iH]++eE):=(by have h_:HI M w w26 (fj++([iH]++(eE))):=H59;exact h_)
       refine bu H60 10 J aU J J zX ym J J J ?_
       intro XM (H61:HI M w XM ([eL,dZ,J9,J8,J6,J2,J3,J4,J7,J0,box bI #[I kd,I x1,I x3,I (-1),I (j_:Int),.slice none 0 0,I (-1),I (-1)] 33]++eE))
       exact⟨undef,J,trivial,H61⟩
      exact trivial
     ·
      intro f13 w28 V_ adb IA H63
      obtain⟨e16,q8⟩:=IA 3 _ rfl rfl
      obtain⟨tJ,e17⟩:∃(tJ:Addr),V_ 3=.pointer (some tJ):=q8
      have yl:=(adb 4 J).trans s8
      have GB:f13 11=pV bI 0:=adb 11 J
      have H64:HI M w w28 ([iL a3 (du U x0.1 x0.2 x1) c3,oL w 3 a2 (aV (fO U) (cz U (j_:Int))) c2,box ba #[I x0.1,sL a1 x0.2 c1] 26,iL a1 x0.2 c1,box eH #[.slice aC aD aB,sL aw U av,sL ay fo ax,I cn,sL dw cr dv,sL a0 (eT U fo) c0] 80,iL aw U av,iL ay fo ax,iL dw cr dv,oL w 26 a0 (eT U fo) c0,box aW #[I 0,I 0,I 0,I 0,I 0,.slice none 0 0,I 0,I 0] 33,pR tJ x3,box bI #[I kd,I x1,I x3,I (-1),I (j_:Int),.slice none 0 0,I (-1),I (-1)] 33]++r):=(by have h_:HI M w w28 ([iL a3 (du U x0.1 x0.2 x1) c3,oL w 3 a2 (aV (fO U)<|cz U (j_:Int)) c2,box ba #[I x0.1,sL a1 x0.2 c1] 26,iL a1 x0.2 c1,box eH #[.slice aC aD aB,sL aw U av,sL ay fo ax,I cn,sL dw cr dv,sL a0 (eT U fo) c0] 80,iL aw U av,iL ay fo ax,iL dw cr dv,oL w 26 a0 (eT U fo) c0,box aW #[I 0,I 0,I 0,I 0,I 0,.slice none 0 0,I 0,I 0] 33]++([]++([]++([]++([pR (vP<|V_ 3) x3]++([]++([]++([]++([]++([box bI #[I kd,I x1,I x3,I (-1),I (j_:Int),.slice none 0 0,I (-1),I (-1)] 33]++(r++([])))))))))))):=H63;rw[e17] at h_;rw[aps] at h_;exact h_)
      refine cO<|k<|cB H64 11 J bT J GB au J<|k<|bu H64 9 J bT J J yl J J J J ?_
      let pc:=box aW #[I kd,I x1,I x3,I (-1),I (j_:Int),.slice none 0 0,I (-1),I (-1)] 33
      let mA:=box bI #[I kd,I x1,I x3,I (-1),I (j_:Int),.slice none 0 0,I (-1),I (-1)] 33
      let ue:=[eL,dZ,J9,J8,J6,J2,J3,J4,J7,pc,pR tJ x3,mA]
      intro w29 (H65:HI M w w29 (ue++r))
      refine ak (v:=.bool true) J J<|aq<|rt<|bS<|aL<|dY<|bS<|bS<|aL<|dY<|bS<|aL ?_
      have sI:(aV (fO U) (cz U (j_:Int))).find? (Cq U fo ((U.length:Nat):Int) (cX U fo (j_:Int)))=some x1:=aeB gM cQ<|by simp only[Cq,←zC,←zB,jy aM,jy cQ,gZ,qm,b0,b1,b2,b3,BL]
      have qQ:Jf U fo=some j_:=D_ hs Hh<|abK sI
      refine iy H65 9 J bT J J J yl J au ?_
      have H66:=HI.aP (l:=ue) (l':=[J6,J2,J3,J4,J7]) (t:=r) H65 [4,5,6,7,8] au J J
      have Ug:(true:Bool)=(sA U fo kd).isSome:=by exact afM qQ
      try rw[←Ug]
      refine⟨kd,x1,x3,(-1),(j_:Int),(-1),(-1),a0,c0,?_,?_,(by exact aiy lT qQ sI aj bt (by rw[←zC,←zB];assumption) (Nv Qo ‹_›))⟩
      · first|rfl|simp only[Ug]|(simp only[an1])
      · first|exact H66|simpa +zetaDelta only[Ug,an1] using H66
    have p3:=dF b3
    refine sk<|aF<|nx<|rg<|k<|add J J kb J aR<|ai (v:=I ((q_:Int)+1)) J J<|z ?_
    have dV:HI M w w7 (iO++r):=HI.aP (l:=fj) (l':=iO) (t:=r) cH [1,2,3,4,5,6,7,8,9] au J J
    refine bF _ ?_ ⟨(q_+1),J,s6,s7,s8,s9,ej,eX,fA,fD,gi,gS,(bH J),dV,aj,(by exact Y8 gM cQ (by simp only[Cq,←zC,←zB,jy aM,jy cQ,gZ,b0,b1,b2,b3,BL]))⟩
    omega
   have p2:=dF b2
   refine aX J J J b2<|aX J J J b2<|aX J J J b2<|k<|dG J J J J b2 J<|aq<|pk J J J<|sk<|aF<|nx<|rg<|k<|add J J kb J aR<|ai (v:=I ((q_:Int)+1)) J J<|z ?_
   have dV:HI M w w7 (iO++r):=HI.aP (l:=fj) (l':=iO) (t:=r) cH [1,2,3,4,5,6,7,8,9] au J J
   refine bF _ ?_ ⟨(q_+1),J,s6,s7,s8,s9,ej,eX,fA,fD,gi,gS,(bH J),dV,aj,(by exact Y8 gM cQ (by simp only[Cq,←zC,←zB,jy aM,jy cQ,gZ,b0,b1,b2,BL]))⟩
   omega
  have p1:=dF b1
  refine ex<|aT<|aY<|bf<|aF<|nx<|rg<|k<|add J J fD J aR<|ai (v:=I ((j_:Int)+1)) J J<|z ?_
  have dm:HI M w w6 (bc++r):=HI.aP (l:=iO) (l':=bc) (t:=r) cV [3,4,5,6,7,8] au J J
  refine bF _ ?_ ⟨(j_+1),J,s6,s7,s8,eX,fA,(bH J),dm,aj,(by exact su hs (ZX<|aeC gM<|by unfold lj;omega))⟩
  omega
 have p0:=dF b0
 refine ex<|aT<|aY<|bf<|cO<|k<|bd (v:=.agg #[I 0,I 0,I 0,I 0,I 0,.slice none 0 0,I 0,I 0]) J ew (fun _=>aS)<|k<|bu H4 5 J bT J J s2 J J J J ?_
 intro w3 (H5:HI M w w3 (bc++r))
 refine ak (v:=.bool false) J J<|aq<|rt ?_
 have qQ:Jf U fo=none:=Bx hs<|by rw[A2] at p0;omega
 refine iy H5 5 J bT J J J s2 J au ?_
 have H6:=HI.aP (l:=bc) (l':=[J6,J2,J3,J4,J7]) (t:=r) H5 [0,1,2,3,4] au J J
 have e0:(false:Bool)=(sA U fo kd).isSome:=by rw[XX qQ];rfl
 try rw[←e0]
 refine⟨0,0,0,0,0,0,0,a0,c0,?_,?_,(by exact ui (XX qQ) On)⟩
 · first|rfl|simp only[e0]|(simp only[an1])
 · first|exact H6|simpa +zetaDelta only[e0,an1] using H6
theorem aes:cx aI 31:=cF Tryz.func31
theorem Rf:cx aI 32:=cF Tryz.func32
theorem Fi:aI.underlying 82=some (.slice 81):=aS
theorem sZ:ep aI 81 1 false 8 (.nilFunc):=⟨aS,aS⟩
theorem ajY:cx aI 33:=cF Tryz.func33
theorem ajX:cx aI 34:=cF Tryz.func34
theorem ajW:cx aI 35:=cF Tryz.func35
theorem ajV:cx aI 36:=cF Tryz.func36
theorem ajU:cx aI 37:=cF Tryz.func37
theorem ajT:cx aI 38:=cF Tryz.func38
theorem ajS:cx aI 39:=cF Tryz.func39
theorem Nk (hM:eJ M w) (hT:fS 0 w) (dC:cA M w aw av U) (fZ:cA M w ay ax fo) (pz:aK lv) (ho:ik U) (dy:U.length≤64) (eB:fo.length=U.length) (fL:∀x∈fo,x<((U.length:Nat):Int)) (Mt:lv=1∨lv=2∨lv=3):Calls aI 16 #[.agg #[.slice aC aD aB,sL aw U av,sL ay fo ax],I lv] w (cm fun v w'=>∃(k_:Int) (r_:Int) (a_:Int) (b_:Int) (o_:Int) (f_:Int) (s_:Int),v=.tuple #[.agg #[I k_,I r_,I a_,I b_,I o_,.slice none 0 0,I f_,I s_],I (fc U fo lv)]∧Ext w w'∧qw (gL U fo lv) k_ r_ a_ b_ o_):=by
 refine dx 57 Tryz.func16 J J J hM fun f0 ha H=>?_
 let J0:=iL aw U av
 have H0:=H.put (it:=J0) J<|by rw[bP];exact dC
 let J1:=iL ay fo ax
 have H1:=H0.put (it:=J1) J<|by rw[aH rfl,bP];exact fZ
 have ja:=bg dC
 have kR:=bg fZ
 have i0:f0 0=.agg #[.slice aC aD aB,sL aw U av,sL ay fo ax]:=ha 0 bj
 have i1:f0 1=I lv:=ha 1 bj
 have lk:bJ ((U.length:Nat):Int) (ct U fo)=true:=pD fo aj
 have ai8:=S9 (lv:=lv)
 refine az<|k<|bx H1 J i0 ?_
 let bc:=[J1,J0]
 intro aW w0 bW (H2:HI M w w0 (box aW #[.slice aC aD aB,sL aw U av,sL ay fo ax] 47::bc))
 let J2:=box aW #[.slice aC aD aB,sL aw U av,sL ay fo ax] 47
 refine k<|al H2 bT ?_
 let bX:=J2::bc
 intro ba w1 df (H3:HI M w w1 (box ba #[I 0,I 0,I 0,I 0,I 0,.slice none 0 0,I 0,I 0] 33::bX))
 let J3:=box ba #[I 0,I 0,I 0,I 0,I 0,.slice none 0 0,I 0,I 0] 33
 refine ak (v:=I 0) J J<|bw<|ai J i1<|k ?_
 have bR:=Kc (lv:=lv) H3.mb pz
 refine ca aes J (ec J e0) bR ?_
 rintro _ w2 ⟨a0,c0,rfl,eS,cu⟩
 have H4:=H3.eP cu
 refine ak (v:=sL a0 (dS lv) c0) J J<|aq<|sq<|az<|ai (v:=sL a0 (dS lv) c0) J J<|k<|T' J J J J cM<|aq<|pk J J (Bool.eq_false_iff.2 fun h_=>Wh Mt (OP (H4.at_ 0 J) h_))<|sk<|nx<|sq<|my [.r,.r,.r,.r,.e,.e] (fun _=>True) J aS (fun _ _=>trivial)<|yq J J<|kq (fun _ x_=>cB (H4.ext x_) 2 J dQ J J au J e1)<|bO<|kq (fun _ x_=>cB (H4.ext x_) 2 J dQ J J au J e1)<|zq<|yu J (fun _ v w'=>∃(a1:OA) (c1:Nat),v=.agg #[I (U.length:Int),sL a1 (ct U fo) c1]∧RV H4.fg w' (sL a1 (ct U fo) c1) (ct U fo)) J oq J (fun v_ _ x_ _=>have fU:=BD (U:=U) (fo:=fo) (aC:=aC) (aD:=aD) (aB:=aB) (w:=v_) (H4.ext x_).mb ((H4.ext x_).rv 4 rfl) ((H4.ext x_).rv 3 rfl) (by exact ho) aj (by exact eB) (by exact fL);ca Rf rfl (ec J e0) fU (fun _ w4 ⟨a2,c2,e_,jg,eb⟩=>⟨_,J,jg,⟨a2,c2,e_,eb⟩⟩))<|lJ J (fun _ v w'=>∃(a3:OA) (c3:Nat),v=.agg #[.slice aC aD aB,sL aw U av,sL ay fo ax,I (U.length:Int),sL a3 (ct U fo) c3,.slice none 0 0]∧RV H4.fg w' (sL a3 (ct U fo) c3) (ct U fo)) 0 J J oq J (fun _ _ _ _ _ h_=>let ⟨a4,c4,s0,jd⟩:=h_;bd (v:=.agg #[.slice aC aD aB,sL aw U av,sL ay fo ax,I (U.length:Int),sL a4 (ct U fo) c4,.slice none 0 0]) rfl (ck J<|ck s0 ew) (fun _=>aS) ⟨_,J,Ext.refl _,⟨a4,c4,J,jd⟩⟩)<|ye<|ye<|yz ?_
 intro w5 f0 _ jr _ _ cC iT
 have dm:=H4.ext jr
 have s1:=cC 4 J
 have s2:=cC 6 J
 obtain⟨a5,c5,s3,jX⟩:=iT 0 _ _ rfl
 let J4:=iL a5 (ct U fo) c5
 have cL:=dm.put (it:=J4) J jX
 refine kc<|bx cL J s3 ?_
 let J5:=oL w 3 a0 (dS lv) c0
 let dM:=J4::J5::J3::bX
 intro bI w6 kr (cH:HI M w w6 (box bI #[.slice aC aD aB,sL aw U av,sL ay fo ax,I (U.length:Int),sL a5 (ct U fo) c5,.slice none 0 0] 80::dM))
 refine kc<|jM (v:=pV bI 0) J J<|kz<|cO<|ai (v:=pV bI 0) J J<|k<|L6 J J<|ai (v:=pV bI 0) J J<|k<|L6 J J<|ai (v:=pV bI 0) J J<|k<|L6 J J<|ai (v:=pV bI 0) J J<|k<|L6 J J<|ai (v:=pV bI 0) J J<|k<|L6 J J<|ai (v:=pV bI 0) J J<|k<|L6 J J<|ai (v:=pV bI 0) J J<|k<|L6 J J<|k<|bsB (cells:=#[.nilFunc,.func (.func 33) #[pV bI 0] #[],.func (.func 34) #[pV bI 0] #[],.func (.func 35) #[pV bI 0] #[],.func (.func 36) #[pV bI 0] #[],.func (.func 37) #[pV bI 0] #[],.func (.func 38) #[pV bI 0] #[],.func (.func 39) #[pV bI 0] #[]]) (e:=81) cH J (ck J<|ck J<|ck J<|ck J<|ck J<|ck J<|ck J<|ck J ew) (fun _=>aS) ?_
 intro g0 w7 lX (dV:HI M w w7 (box g0 #[.nilFunc,.func (.func 33) #[pV bI 0] #[],.func (.func 34) #[pV bI 0] #[],.func (.func 35) #[pV bI 0] #[],.func (.func 36) #[pV bI 0] #[],.func (.func 37) #[pV bI 0] #[],.func (.func 38) #[pV bI 0] #[],.func (.func 39) #[pV bI 0] #[]] 81::box bI #[.slice aC aD aB,sL aw U av,sL ay fo ax,I (U.length:Int),sL a5 (ct U fo) c5,.slice none 0 0] 80::dM))
 let J6:=box g0 #[.nilFunc,.func (.func 33) #[pV bI 0] #[],.func (.func 34) #[pV bI 0] #[],.func (.func 35) #[pV bI 0] #[],.func (.func 36) #[pV bI 0] #[],.func (.func 37) #[pV bI 0] #[],.func (.func 38) #[pV bI 0] #[],.func (.func 39) #[pV bI 0] #[]] 81
 refine ak (v:=.slice (some ⟨g0,0,none⟩) 8 8) J J<|aq<|sq<|az<|ai J s2<|k<|dL J J cM<|ai (v:=I 0) J J<|aq<|bk ?_
 have dA:=dV.qf (Int×(List<|List bp)) 26
 refine lp (fun m f w'=>∃(j_:Nat) (jc:List (Int×(List<|List bp))) (a6:OA) (c6:Nat),m=(dS lv).length-j_∧f 4=pV ba 0∧f 7=pV bI 0∧f 8=.slice (some ⟨g0,0,none⟩) 8 8∧f 38=sL a0 (dS lv) c0∧f 39=I ((dS lv).length:Int)∧f 40=I (j_:Int)∧HI M w w' (oL w 26 a6 jc c6::J6::box bI #[.slice aC aD aB,sL aw U av,sL ay fo ax,I (U.length:Int),sL a5 (ct U fo) c5,sL a6 jc c6] 80::dM)∧(j_≤(dS lv).length)∧(a6=none∧jc=[]∨jc=eT U fo)∧(∀y∈(dS lv).take j_,jj U fo y=none)) _ ⟨0,([]:List (Int×(List<|List bp))),none,0,J,s1,J,J,J,J,(bH J),dA,aj,(by exact Or.inl ⟨J,J⟩),(by intro y h;simp at h)⟩ ?_
 rintro _ f1 w8 ⟨j_,jc,a6,c6,rfl,s4,s5,s6,s7,s8,s9,cT,pj,FQ,hs⟩
 refine az<|k<|lss J J s9 s8<|aq<|sq<|cd (b:=decide ((j_:Int)<((dS lv).length:Int))) J J (fun b0=>?_)<|fun b0=>?_
 ·
  have p0:=dT b0
  refine sk<|nx<|sq<|bk<|az<|k<|iz (cT.at_ 4 J) J J s7 s9 aj cM aU ?_
  intro g1 x0 iE aM cw
  refine k<|mP cw aU J J ?_
  intro iU
  refine ak (v:=I x0) J J<|aq<|sq ?_
  rcases (show x0=1∨x0=2∨x0=3∨x0=4∨x0=5∨x0=6∨x0=7 from by exact Bo (dz aM)) with rfl|rfl|rfl|rfl|rfl|rfl|rfl
  ·
   refine rg<|ai J s6<|ai (v:=I 1) J J<|k<|Mj J J J J 1 J au Fi sZ<|bo cT 1 J sZ J J J<|ai (v:=I 1) J J<|k ?_
   have fb:=Xy (U:=U) (fo:=fo) (cn:=(U.length:Int)) (cr:=(ct U fo)) (kd:=1) (w:=w8) (M:=fun _=>False) (fun _ h_=>h_.elim) ((cT.rv 8 J).lift (Up.less fun _ _ h_=>h_.elim)) ((cT.rv 7 J).lift (Up.less fun _ _ h_=>h_.elim)) aR ((cT.rv 3 J).lift (Up.less fun _ _ h_=>h_.elim)) bt ⟨cT.at_ 2 rfl,fun h_=>h_⟩
   refine M9 ajY J J J (ec J e0) fb ?_
   rintro _ w9 ⟨o0,o1,o2,o3,o4,o5,o6,rfl,nS,q0⟩
   have dX:=cT.ext nS
   refine ai (v:=.tuple #[.agg #[I o0,I o1,I o2,I o3,I o4,.slice none 0 0,I o5,I o6],.bool ((pt fo 1).isSome)]) J J<|k<|xt J J J<|k<|xt J J J<|k<|al dX bT ?_
   let J7:=box bI #[.slice aC aD aB,sL aw U av,sL ay fo ax,I (U.length:Int),sL a5 (ct U fo) c5,sL a6 jc c6] 80
   let iO:=oL w 26 a6 jc c6::J6::J7::dM
   intro fm dP zP (dI:HI M w dP (box fm #[I 0,I 0,I 0,I 0,I 0,.slice none 0 0,I 0,I 0] 33::iO))
   refine k<|bu dI 0 J bT J J J J J J J ?_
   let J8:=box fm #[I o0,I o1,I o2,I o3,I o4,.slice none 0 0,I o5,I o6] 33
   intro ey (cG:HI M w ey (J8::iO))
   refine ak (v:=.bool ((pt fo 1).isSome)) J J<|bw<|ai (v:=.bool ((pt fo 1).isSome)) J J<|z<|nx<|cd (b:=(pt fo 1).isSome) J J (fun b1=>?_)<|fun b1=>?_
   ·
    refine az<|k<|cB cG 0 J bT J J au J<|k<|bu cG 6 J bT J J s4 J J J J ?_
    intro fq (d_:HI M w fq [J8,oL w 26 a6 jc c6,J6,J7,J4,J5,box ba #[I o0,I o1,I o2,I o3,I o4,.slice none 0 0,I o5,I o6] 33,J2,J1,J0])
    refine ak (v:=I 0) J J<|aq<|rt<|bS<|aL<|dY<|bS<|aL<|iy d_ 6 J bT J J J s4 J au ?_
    have e8:(0:Int)=fc U fo lv:=by exact sx (nX hs aM VQ bt) bt
    have bq:=iF (fun (lK:Int)=>(.tuple #[.agg #[I o0,I o1,I o2,I o3,I o4,.slice none 0 0,I o5,I o6],I lK]:Value)) e8
    exact⟨o0,o1,o2,o3,o4,o5,o6,bq,d_.below,(by exact wV (nX hs aM VQ bt) bt)⟩
   refine sk<|aF<|nx<|rg<|k<|add J J s9 J aR<|ai (v:=I ((j_:Int)+1)) J J<|z ?_
   have d_:=cG.put (it:=J4) J<|cG.rv 4 J
   have dD:=d_.put (it:=J1) J<|d_.rv 9 J
   have eR:=dD.put (it:=J0) J<|dD.rv 11 J
   have eW:HI M w ey iO:=eR.bV [4,5,6,2,8,9,10,1,0] au J
   refine bF _ ?_ ⟨(j_+1),jc,a6,c6,J,s4,s5,s6,s7,s8,(bH J),eW,aj,(by exact FQ),(by exact A9 hs aM VQ bt)⟩
   omega
  ·
   refine rg<|ai J s6<|ai (v:=I 2) J J<|k<|Mj J J J J 2 J au Fi sZ<|bo cT 1 J sZ J J J<|ai (v:=I 2) J J<|k ?_
   have fb:=UL (cn:=(U.length:Int)) (cr:=(ct U fo)) (kd:=2) (w:=w8) (M:=fun _=>False) (fun _ h_=>h_.elim) aR ((cT.rv 3 J).lift (Up.less fun _ _ h_=>h_.elim)) bt ⟨cT.at_ 2 rfl,fun h_=>h_⟩<|by exact lk
   refine M9 ajX J J J (ec J e0) fb ?_
   rintro _ w9 ⟨o0,o1,o2,o3,o4,o5,o6,rfl,nS,q0⟩
   have dX:=cT.ext nS
   refine ai (v:=.tuple #[.agg #[I o0,I o1,I o2,I o3,I o4,.slice none 0 0,I o5,I o6],.bool ((kj (U.length:Int) (ct U fo) 2).isSome)]) J J<|k<|xt J J J<|k<|xt J J J<|k<|al dX bT ?_
   let J9:=box bI #[.slice aC aD aB,sL aw U av,sL ay fo ax,I (U.length:Int),sL a5 (ct U fo) c5,sL a6 jc c6] 80
   let fj:=oL w 26 a6 jc c6::J6::J9::dM
   intro fm dP zP (dI:HI M w dP (box fm #[I 0,I 0,I 0,I 0,I 0,.slice none 0 0,I 0,I 0] 33::fj))
   refine k<|bu dI 0 J bT J J J J J J J ?_
   let dZ:=box fm #[I o0,I o1,I o2,I o3,I o4,.slice none 0 0,I o5,I o6] 33
   intro ey (cG:HI M w ey (dZ::fj))
   refine ak (v:=.bool ((kj (U.length:Int) (ct U fo) 2).isSome)) J J<|bw<|ai (v:=.bool ((kj (U.length:Int) (ct U fo) 2).isSome)) J J<|z<|nx<|cd (b:=(kj (U.length:Int) (ct U fo) 2).isSome) J J (fun b1=>?_)<|fun b1=>?_
   ·
    refine az<|k<|cB cG 0 J bT J J au J<|k<|bu cG 6 J bT J J s4 J J J J ?_
    intro fq (d_:HI M w fq [dZ,oL w 26 a6 jc c6,J6,J9,J4,J5,box ba #[I o0,I o1,I o2,I o3,I o4,.slice none 0 0,I o5,I o6] 33,J2,J1,J0])
    refine ak (v:=I 0) J J<|aq<|rt<|bS<|aL<|dY<|bS<|aL<|iy d_ 6 J bT J J J s4 J au ?_
    have e8:(0:Int)=fc U fo lv:=by exact sx (nX hs aM VO bt) bt
    have bq:=iF (fun (lK:Int)=>(.tuple #[.agg #[I o0,I o1,I o2,I o3,I o4,.slice none 0 0,I o5,I o6],I lK]:Value)) e8
    exact⟨o0,o1,o2,o3,o4,o5,o6,bq,d_.below,(by exact wV (nX hs aM VO bt) bt)⟩
   refine sk<|aF<|nx<|rg<|k<|add J J s9 J aR<|ai (v:=I ((j_:Int)+1)) J J<|z ?_
   have d_:=cG.put (it:=J4) J<|cG.rv 4 J
   have dD:=d_.put (it:=J1) J<|d_.rv 9 J
   have eR:=dD.put (it:=J0) J<|dD.rv 11 J
   have eW:HI M w ey fj:=eR.bV [4,5,6,2,8,9,10,1,0] au J
   refine bF _ ?_ ⟨(j_+1),jc,a6,c6,J,s4,s5,s6,s7,s8,(bH J),eW,aj,(by exact FQ),(by exact A9 hs aM VO bt)⟩
   omega
  ·
   refine rg<|ai J s6<|ai (v:=I 3) J J<|k<|Mj J J J J 3 J au Fi sZ<|bo cT 1 J sZ J J J<|ai (v:=I 3) J J<|k ?_
   have fb:=UK (U:=U) (fo:=fo) (cn:=(U.length:Int)) (cr:=(ct U fo)) (kd:=3) (w:=w8) (M:=fun _=>False) (fun _ h_=>h_.elim) (hT.ext cT.below) ((cT.rv 8 J).lift (Up.less fun _ _ h_=>h_.elim)) ((cT.rv 7 J).lift (Up.less fun _ _ h_=>h_.elim)) aR ((cT.rv 3 J).lift (Up.less fun _ _ h_=>h_.elim)) bt ⟨cT.at_ 2 rfl,fun h_=>h_⟩ (by exact lk)<|by exact eB
   refine M9 ajW J J J (ec J e0) fb ?_
   rintro _ w9 ⟨o0,o1,o2,o3,o4,o5,o6,rfl,nS,q0⟩
   have dX:=cT.ext nS
   refine ai (v:=.tuple #[.agg #[I o0,I o1,I o2,I o3,I o4,.slice none 0 0,I o5,I o6],.bool ((qh U fo (U.length:Int) (ct U fo) 3).isSome)]) J J<|k<|xt J J J<|k<|xt J J J<|k<|al dX bT ?_
   let eL:=box bI #[.slice aC aD aB,sL aw U av,sL ay fo ax,I (U.length:Int),sL a5 (ct U fo) c5,sL a6 jc c6] 80
   let lF:=oL w 26 a6 jc c6::J6::eL::dM
   intro fm dP zP (dI:HI M w dP (box fm #[I 0,I 0,I 0,I 0,I 0,.slice none 0 0,I 0,I 0] 33::lF))
   refine k<|bu dI 0 J bT J J J J J J J ?_
   let gf:=box fm #[I o0,I o1,I o2,I o3,I o4,.slice none 0 0,I o5,I o6] 33
   intro ey (cG:HI M w ey (gf::lF))
   refine ak (v:=.bool ((qh U fo (U.length:Int) (ct U fo) 3).isSome)) J J<|bw<|ai (v:=.bool ((qh U fo (U.length:Int) (ct U fo) 3).isSome)) J J<|z<|nx<|cd (b:=(qh U fo (U.length:Int) (ct U fo) 3).isSome) J J (fun b1=>?_)<|fun b1=>?_
   ·
    refine az<|k<|cB cG 0 J bT J J au J<|k<|bu cG 6 J bT J J s4 J J J J ?_
    intro fq (d_:HI M w fq [gf,oL w 26 a6 jc c6,J6,eL,J4,J5,box ba #[I o0,I o1,I o2,I o3,I o4,.slice none 0 0,I o5,I o6] 33,J2,J1,J0])
    refine ak (v:=I 0) J J<|aq<|rt<|bS<|aL<|dY<|bS<|aL<|iy d_ 6 J bT J J J s4 J au ?_
    have e8:(0:Int)=fc U fo lv:=by exact sx (nX hs aM VN bt) bt
    have bq:=iF (fun (lK:Int)=>(.tuple #[.agg #[I o0,I o1,I o2,I o3,I o4,.slice none 0 0,I o5,I o6],I lK]:Value)) e8
    exact⟨o0,o1,o2,o3,o4,o5,o6,bq,d_.below,(by exact wV (nX hs aM VN bt) bt)⟩
   refine sk<|aF<|nx<|rg<|k<|add J J s9 J aR<|ai (v:=I ((j_:Int)+1)) J J<|z ?_
   have d_:=cG.put (it:=J4) J<|cG.rv 4 J
   have dD:=d_.put (it:=J1) J<|d_.rv 9 J
   have eR:=dD.put (it:=J0) J<|dD.rv 11 J
   have eW:HI M w ey lF:=eR.bV [4,5,6,2,8,9,10,1,0] au J
   refine bF _ ?_ ⟨(j_+1),jc,a6,c6,J,s4,s5,s6,s7,s8,(bH J),eW,aj,(by exact FQ),(by exact A9 hs aM VN bt)⟩
   omega
  ·
   refine rg<|ai J s6<|ai (v:=I 4) J J<|k<|Mj J J J J 4 J au Fi sZ<|bo cT 1 J sZ J J J<|ai (v:=I 4) J J<|k ?_
   have fb:=Og (U:=U) (fo:=fo) (cn:=(U.length:Int)) (cr:=(ct U fo)) (kd:=4) (w:=w8) (M:=fun _=>False) (fun _ h_=>h_.elim) (hT.ext cT.below) ((cT.rv 8 J).lift (Up.less fun _ _ h_=>h_.elim)) ((cT.rv 7 J).lift (Up.less fun _ _ h_=>h_.elim)) aR ((cT.rv 3 J).lift (Up.less fun _ _ h_=>h_.elim)) bt ⟨cT.at_ 2 rfl,fun h_=>h_⟩ (by exact lk)<|by exact eB
   refine M9 ajV J J J (ec J e0) fb ?_
   rintro _ w9 ⟨o0,o1,o2,o3,o4,o5,o6,rfl,nS,q0⟩
   have dX:=cT.ext nS
   refine ai (v:=.tuple #[.agg #[I o0,I o1,I o2,I o3,I o4,.slice none 0 0,I o5,I o6],.bool ((qi U fo (U.length:Int) (ct U fo) 4).isSome)]) J J<|k<|xt J J J<|k<|xt J J J<|k<|al dX bT ?_
   let fN:=box bI #[.slice aC aD aB,sL aw U av,sL ay fo ax,I (U.length:Int),sL a5 (ct U fo) c5,sL a6 jc c6] 80
   let ue:=oL w 26 a6 jc c6::J6::fN::dM
   intro fm dP zP (dI:HI M w dP (box fm #[I 0,I 0,I 0,I 0,I 0,.slice none 0 0,I 0,I 0] 33::ue))
   refine k<|bu dI 0 J bT J J J J J J J ?_
   let iH:=box fm #[I o0,I o1,I o2,I o3,I o4,.slice none 0 0,I o5,I o6] 33
   intro ey (cG:HI M w ey (iH::ue))
   refine ak (v:=.bool ((qi U fo (U.length:Int) (ct U fo) 4).isSome)) J J<|bw<|ai (v:=.bool ((qi U fo (U.length:Int) (ct U fo) 4).isSome)) J J<|z<|nx<|cd (b:=(qi U fo (U.length:Int) (ct U fo) 4).isSome) J J (fun b1=>?_)<|fun b1=>?_
   ·
    refine az<|k<|cB cG 0 J bT J J au J<|k<|bu cG 6 J bT J J s4 J J J J ?_
    intro fq (d_:HI M w fq [iH,oL w 26 a6 jc c6,J6,fN,J4,J5,box ba #[I o0,I o1,I o2,I o3,I o4,.slice none 0 0,I o5,I o6] 33,J2,J1,J0])
    refine ak (v:=I 0) J J<|aq<|rt<|bS<|aL<|dY<|bS<|aL<|iy d_ 6 J bT J J J s4 J au ?_
    have e8:(0:Int)=fc U fo lv:=by exact sx (nX hs aM VM bt) bt
    have bq:=iF (fun (lK:Int)=>(.tuple #[.agg #[I o0,I o1,I o2,I o3,I o4,.slice none 0 0,I o5,I o6],I lK]:Value)) e8
    exact⟨o0,o1,o2,o3,o4,o5,o6,bq,d_.below,(by exact wV (nX hs aM VM bt) bt)⟩
   refine sk<|aF<|nx<|rg<|k<|add J J s9 J aR<|ai (v:=I ((j_:Int)+1)) J J<|z ?_
   have d_:=cG.put (it:=J4) J<|cG.rv 4 J
   have dD:=d_.put (it:=J1) J<|d_.rv 9 J
   have eR:=dD.put (it:=J0) J<|dD.rv 11 J
   have eW:HI M w ey ue:=eR.bV [4,5,6,2,8,9,10,1,0] au J
   refine bF _ ?_ ⟨(j_+1),jc,a6,c6,J,s4,s5,s6,s7,s8,(bH J),eW,aj,(by exact FQ),(by exact A9 hs aM VM bt)⟩
   omega
  ·
   refine rg<|ai J s6<|ai (v:=I 5) J J<|k<|Mj J J J J 5 J au Fi sZ<|bo cT 1 J sZ J J J<|ai (v:=I 5) J J<|k ?_
   have fb:=Nj (U:=U) (fo:=fo) (cn:=(U.length:Int)) (cr:=(ct U fo)) (kd:=5) (w:=w8) (M:=fun _=>False) (fun _ h_=>h_.elim) (hT.ext cT.below) ((cT.rv 8 J).lift (Up.less fun _ _ h_=>h_.elim)) ((cT.rv 7 J).lift (Up.less fun _ _ h_=>h_.elim)) aR ((cT.rv 3 J).lift (Up.less fun _ _ h_=>h_.elim)) bt ⟨cT.at_ 2 rfl,fun h_=>h_⟩ (by exact ho) (by exact dy) (by exact eB) (by exact fL) aj<|by rfl
   refine M9 ajU J J J (ec J e0) fb ?_
   rintro _ w9 ⟨o0,o1,o2,o3,o4,o5,o6,rfl,nS,q0⟩
   have dX:=cT.ext nS
   refine ai (v:=.tuple #[.agg #[I o0,I o1,I o2,I o3,I o4,.slice none 0 0,I o5,I o6],.bool ((kj ((U.length:Nat):Int) (AF U fo) 5).isSome)]) J J<|k<|xt J J J<|k<|xt J J J<|k<|al dX bT ?_
   let pc:=box bI #[.slice aC aD aB,sL aw U av,sL ay fo ax,I (U.length:Int),sL a5 (ct U fo) c5,sL a6 jc c6] 80
   let DE:=oL w 26 a6 jc c6::J6::pc::dM
   intro fm dP zP (dI:HI M w dP (box fm #[I 0,I 0,I 0,I 0,I 0,.slice none 0 0,I 0,I 0] 33::DE))
   refine k<|bu dI 0 J bT J J J J J J J ?_
   let mA:=box fm #[I o0,I o1,I o2,I o3,I o4,.slice none 0 0,I o5,I o6] 33
   intro ey (cG:HI M w ey (mA::DE))
   refine ak (v:=.bool ((kj ((U.length:Nat):Int) (AF U fo) 5).isSome)) J J<|bw<|ai (v:=.bool ((kj ((U.length:Nat):Int) (AF U fo) 5).isSome)) J J<|z<|nx<|cd (b:=(kj ((U.length:Nat):Int) (AF U fo) 5).isSome) J J (fun b1=>?_)<|fun b1=>?_
   ·
    refine az<|k<|cB cG 0 J bT J J au J<|k<|bu cG 6 J bT J J s4 J J J J ?_
    intro fq (d_:HI M w fq [mA,oL w 26 a6 jc c6,J6,pc,J4,J5,box ba #[I o0,I o1,I o2,I o3,I o4,.slice none 0 0,I o5,I o6] 33,J2,J1,J0])
    refine ak (v:=I 0) J J<|aq<|rt<|bS<|aL<|dY<|bS<|aL<|iy d_ 6 J bT J J J s4 J au ?_
    have e8:(0:Int)=fc U fo lv:=by exact sx (nX hs aM VL bt) bt
    have bq:=iF (fun (lK:Int)=>(.tuple #[.agg #[I o0,I o1,I o2,I o3,I o4,.slice none 0 0,I o5,I o6],I lK]:Value)) e8
    exact⟨o0,o1,o2,o3,o4,o5,o6,bq,d_.below,(by exact wV (nX hs aM VL bt) bt)⟩
   refine sk<|aF<|nx<|rg<|k<|add J J s9 J aR<|ai (v:=I ((j_:Int)+1)) J J<|z ?_
   have d_:=cG.put (it:=J4) J<|cG.rv 4 J
   have dD:=d_.put (it:=J1) J<|d_.rv 9 J
   have eR:=dD.put (it:=J0) J<|dD.rv 11 J
   have eW:HI M w ey DE:=eR.bV [4,5,6,2,8,9,10,1,0] au J
   refine bF _ ?_ ⟨(j_+1),jc,a6,c6,J,s4,s5,s6,s7,s8,(bH J),eW,aj,(by exact FQ),(by exact A9 hs aM VL bt)⟩
   omega
  ·
   refine rg<|ai J s6<|ai (v:=I 6) J J<|k<|Mj J J J J 6 J au Fi sZ<|bo cT 1 J sZ J J J<|ai (v:=I 6) J J<|k ?_
   have dX:HI M w w8 ([box bI #[.slice aC aD aB,sL aw U av,sL ay fo ax,I (U.length:Int),sL a5 (ct U fo) c5,sL a6 jc c6] 80,J0,J1,J4,oL w 26 a6 jc c6]++[J6,J5,J3,J2]):=cT.bV [2,8,7,3,0,1,4,5,6] au J
   have fb:=UJ (eH:=bI) (aC:=aC) (aD:=aD) (aB:=aB) (aw:=aw) (av:=av) (U:=U) (ay:=ay) (ax:=ax) (fo:=fo) (cn:=(U.length:Int)) (dw:=a5) (dv:=c5) (cr:=(ct U fo)) (iN:=a6) (jH:=c6) (sw:=jc) (kd:=6) (w:=w) (w_:=w8) (r:=[J6,J5,J3,J2]) (M:=M) aR bt hT (by exact ho) (by exact dy) (by exact eB) (by exact fL) aj (by rfl) (by exact FQ) dX
   refine M9 ajT J J J (ec J e0) fb ?_
   rintro _ w9 ⟨o0,o1,o2,o3,o4,o5,o6,a7,c7,rfl,dI,q0⟩
   let tM:=box bI #[.slice aC aD aB,sL aw U av,sL ay fo ax,I (U.length:Int),sL a5 (ct U fo) c5,sL a7 (eT U fo) c7] 80
   let jO:=oL w 26 a7 (eT U fo) c7
   let HU:=[tM,J0,J1,J4,jO,J6,J5,J3,J2]
   have cG:HI M w w9 HU:=dI
   refine ai (v:=.tuple #[.agg #[I o0,I o1,I o2,I o3,I o4,.slice none 0 0,I o5,I o6],.bool ((sA U fo 6).isSome)]) J J<|k<|xt J J J<|k<|xt J J J<|k<|al cG bT ?_
   intro fm dP nS (d_:HI M w dP (box fm #[I 0,I 0,I 0,I 0,I 0,.slice none 0 0,I 0,I 0] 33::HU))
   refine k<|bu d_ 0 J bT J J J J J J J ?_
   let pb:=box fm #[I o0,I o1,I o2,I o3,I o4,.slice none 0 0,I o5,I o6] 33
   intro ey (dD:HI M w ey (pb::HU))
   refine ak (v:=.bool ((sA U fo 6).isSome)) J J<|bw<|ai (v:=.bool ((sA U fo 6).isSome)) J J<|z<|nx<|cd (b:=(sA U fo 6).isSome) J J (fun b1=>?_)<|fun b1=>?_
   ·
    refine az<|k<|cB dD 0 J bT J J au J<|k<|bu dD 8 J bT J J s4 J J J J ?_
    intro fq (eR:HI M w fq [pb,tM,J0,J1,J4,jO,J6,J5,box ba #[I o0,I o1,I o2,I o3,I o4,.slice none 0 0,I o5,I o6] 33,J2])
    refine ak (v:=I 0) J J<|aq<|rt<|bS<|aL<|dY<|bS<|aL<|iy eR 8 J bT J J J s4 J au ?_
    have e8:(0:Int)=fc U fo lv:=by exact sx (nX hs aM VK bt) bt
    have bq:=iF (fun (lK:Int)=>(.tuple #[.agg #[I o0,I o1,I o2,I o3,I o4,.slice none 0 0,I o5,I o6],I lK]:Value)) e8
    exact⟨o0,o1,o2,o3,o4,o5,o6,bq,eR.below,(by exact wV (nX hs aM VK bt) bt)⟩
   refine sk<|aF<|nx<|rg<|k<|add J J s9 J aR<|ai (v:=I ((j_:Int)+1)) J J<|z ?_
   have eR:=dD.put (it:=J4) J<|dD.rv 4 J
   have eW:=eR.put (it:=J1) J<|eR.rv 4 J
   have gW:=eW.put (it:=J0) J<|eW.rv 4 J
   have jf:HI M w ey (jO::J6::tM::dM):=gW.bV [8,9,4,2,10,11,12,1,0] au J
   refine bF _ ?_ ⟨(j_+1),(eT U fo),a7,c7,J,s4,s5,s6,s7,s8,(bH J),jf,aj,(by exact Or.inr rfl),(by exact A9 hs aM VK bt)⟩
   omega
  refine rg<|ai J s6<|ai (v:=I 7) J J<|k<|Mj J J J J 7 J au Fi sZ<|bo cT 1 J sZ J J J<|ai (v:=I 7) J J<|k ?_
  have dX:HI M w w8 ([box bI #[.slice aC aD aB,sL aw U av,sL ay fo ax,I (U.length:Int),sL a5 (ct U fo) c5,sL a6 jc c6] 80,J0,J1,J4,oL w 26 a6 jc c6]++[J6,J5,J3,J2]):=cT.bV [2,8,7,3,0,1,4,5,6] au J
  have fb:=Xx (eH:=bI) (aC:=aC) (aD:=aD) (aB:=aB) (aw:=aw) (av:=av) (U:=U) (ay:=ay) (ax:=ax) (fo:=fo) (cn:=(U.length:Int)) (dw:=a5) (dv:=c5) (cr:=(ct U fo)) (iN:=a6) (jH:=c6) (sw:=jc) (kd:=7) (w:=w) (w_:=w8) (r:=[J6,J5,J3,J2]) (M:=M) aR bt hT (by exact ho) (by exact dy) (by exact eB) (by exact fL) aj (by rfl) (by exact FQ) dX
  refine M9 ajS J J J (ec J e0) fb ?_
  rintro _ w9 ⟨o0,o1,o2,o3,o4,o5,o6,a7,c7,rfl,dI,q0⟩
  let qx:=box bI #[.slice aC aD aB,sL aw U av,sL ay fo ax,I (U.length:Int),sL a5 (ct U fo) c5,sL a7 (eT U fo) c7] 80
  let ob:=oL w 26 a7 (eT U fo) c7
  let E2:=[qx,J0,J1,J4,ob,J6,J5,J3,J2]
  have cG:HI M w w9 E2:=dI
  refine ai (v:=.tuple #[.agg #[I o0,I o1,I o2,I o3,I o4,.slice none 0 0,I o5,I o6],.bool ((sy U fo 7).isSome)]) J J<|k<|xt J J J<|k<|xt J J J<|k<|al cG bT ?_
  intro fm dP nS (d_:HI M w dP (box fm #[I 0,I 0,I 0,I 0,I 0,.slice none 0 0,I 0,I 0] 33::E2))
  refine k<|bu d_ 0 J bT J J J J J J J ?_
  let pa:=box fm #[I o0,I o1,I o2,I o3,I o4,.slice none 0 0,I o5,I o6] 33
  intro ey (dD:HI M w ey (pa::E2))
  refine ak (v:=.bool ((sy U fo 7).isSome)) J J<|bw<|ai (v:=.bool ((sy U fo 7).isSome)) J J<|z<|nx<|cd (b:=(sy U fo 7).isSome) J J (fun b1=>?_)<|fun b1=>?_
  ·
   refine az<|k<|cB dD 0 J bT J J au J<|k<|bu dD 8 J bT J J s4 J J J J ?_
   intro fq (eR:HI M w fq [pa,qx,J0,J1,J4,ob,J6,J5,box ba #[I o0,I o1,I o2,I o3,I o4,.slice none 0 0,I o5,I o6] 33,J2])
   refine ak (v:=I 0) J J<|aq<|rt<|bS<|aL<|dY<|bS<|aL<|iy eR 8 J bT J J J s4 J au ?_
   have e8:(0:Int)=fc U fo lv:=by exact sx (nX hs aM VJ bt) bt
   have bq:=iF (fun (lK:Int)=>(.tuple #[.agg #[I o0,I o1,I o2,I o3,I o4,.slice none 0 0,I o5,I o6],I lK]:Value)) e8
   exact⟨o0,o1,o2,o3,o4,o5,o6,bq,eR.below,(by exact wV (nX hs aM VJ bt) bt)⟩
  refine sk<|aF<|nx<|rg<|k<|add J J s9 J aR<|ai (v:=I ((j_:Int)+1)) J J<|z ?_
  have eR:=dD.put (it:=J4) J<|dD.rv 4 J
  have eW:=eR.put (it:=J1) J<|eR.rv 4 J
  have gW:=eW.put (it:=J0) J<|eW.rv 4 J
  have jf:HI M w ey (ob::J6::qx::dM):=gW.bV [8,9,4,2,10,11,12,1,0] au J
  refine bF _ ?_ ⟨(j_+1),(eT U fo),a7,c7,J,s4,s5,s6,s7,s8,(bH J),jf,aj,(by exact Or.inr rfl),(by exact A9 hs aM VJ bt)⟩
  omega
 have p0:=dF b0
 refine ex<|aT<|aY<|bf<|cO<|k<|bd (v:=.agg #[I 0,I 0,I 0,I 0,I 0,.slice none 0 0,I 0,I 0]) J ew (fun _=>aS)<|k<|bu cT 5 J bT J J s4 J J J J ?_
 intro w9 (dX:HI M w w9 (oL w 26 a6 jc c6::J6::box bI #[.slice aC aD aB,sL aw U av,sL ay fo ax,I (U.length:Int),sL a5 (ct U fo) c5,sL a6 jc c6] 80::dM))
 refine ak (v:=I 8) J J<|aq<|rt<|iy dX 5 J bT J J J s4 J au ?_
 have e8:(8:Int)=fc U fo lv:=by exact aa2 (ON hs aj)
 have bq:=iF (fun (lK:Int)=>(.tuple #[.agg #[I 0,I 0,I 0,I 0,I 0,.slice none 0 0,I 0,I 0],I lK]:Value)) e8
 exact⟨0,0,0,0,0,0,0,bq,dX.below,(by exact ui (ON hs aj) On)⟩
end Go.Proofs.YtgjakhpjmapelaaGreatDoor
