/- PRINTED by my own tool (wip/tool/gen.py): contracts of Go functions of this seat, each with its proof. -/
import Derived.Test.YtgjakhpjmapelaaGreatDoorOwnB
import Derived.Test.YtgjakhpjmapelaaGreatDoorOwnC
import Derived.Test.YtgjakhpjmapelaaGreatDoorGenB
import Derived.Test.YtgjakhpjmapelaaGreatDoorGenA
import Derived.Test.YtgjakhpjmapelaaGreatDoorOwnA
set_option linter.unusedVariables false
set_option linter.unusedSimpArgs false
namespace Go.Proofs.YtgjakhpjmapelaaGreatDoor
open Go.Ew Go.RowKit
set_option maxRecDepth 100000
set_option maxHeartbeats 1600000
attribute [local irreducible] WL WC SO PW PX PZ WE Code.wp wpList rT cb
attribute [local irreducible] j2 xc jj fe dY z8 CS Ky words dX cR jz fz ve
variable {M:Nat→Prop} {w w_:World}
variable {r:List Go.Ew.Item} {cS aF aC ax az ep bw cW bH bz dH eB dh jw ri eS:Nat} {aD ay aA eu cX bA dO dm iy:OA} {I:List aH} {U:List Int} {sp:List cH} {mp:KV} {pn mn o fm fu gA mB mA mZ cn lv kd ft:Int} {pr mr cr:List (List bX)} {mq:List ((Int×Int)×Bool)} {sw:List (Int×(List (List bX)))} {lU:TypeId}
theorem Ql:ct aJ 106:=⟨_,_,Tryz.func106,rfl,aM⟩
theorem Qk:ct aJ 122:=⟨_,_,Tryz.func122,rfl,aM⟩
theorem JP:ct aJ 120:=⟨_,_,Tryz.func120,rfl,aM⟩
theorem IC (qz:aK pn) (fZ:aK mn) (tB:aK o) (hT:fQ 0 w) (ho:gL I) (dp:I.length≤64) (eo:U.length=I.length) (fE:∀x∈U,x<((I.length:Nat):Int)) (Bt:mn=((I.length:Nat):Int)) (Bs:mr=cp I U) (jk:0≤o∧o<((I.length:Nat):Int)) (IX:pn=((I.length:Nat):Int)) (tN:bF pn pr=true) (HF:sp.length≤1000000000000) (H:HI M w w_ ([box cS #[.slice aD aF aC,R ay I ax,R aA U az,R eu sp ep,.map (some bw),C pn,R cX pr cW,.map (some bH)] 142,iL ay I ax,iL aA U az,oL w 175 eu sp ep,bW bw mp,iL cX pr cW,bR bH mq,iL bA mr bz]++r)):Calls aJ 83 #[pV cS 0,.agg #[C mn,R bA mr bz],C o] w_ (cb fun v w'=>∃(sG:List cH) (Gf:KV) (B7:List (List bX)) (nR:OA) (nQ:Nat) (yE:OA) (yA:Nat),v=.tuple #[]∧HI M w w' ([box cS #[.slice aD aF aC,R ay I ax,R aA U az,R nR sG nQ,.map (some bw),C pn,R yE B7 yA,.map (some bH)] 142,iL ay I ax,iL aA U az,oL w 175 nR sG nQ,bW bw Gf,iL yE B7 yA,bR bH mq,iL bA mr bz]++r)∧sG.length≤sp.length+402000000000∧bF pn B7=true):=by
 refine enter 93 Tryz.func83 J J J fun f0 ha=>?_
 have fM:=aP<|H.rv 1 J
 have iA:=aP<|H.rv 2 J
 have Dp:=j1<|H.at_ 3 J
 have Dq:=aP<|H.rv 5 J
 have kA:=aP<|H.rv 7 J
 have i0:f0 0=pV cS 0:=ha 0 bh
 have i1:f0 1=.agg #[C mn,R bA mr bz]:=ha 1 bh
 have i2:f0 2=C o:=ha 2 bh
 refine aB<|k<|bx H J i1 ?_
 let J1:=box cS #[.slice aD aF aC,R ay I ax,R aA U az,R eu sp ep,.map (some bw),C pn,R cX pr cW,.map (some bH)] 142
 let J2:=iL ay I ax
 let J3:=iL aA U az
 let J4:=oL w 175 eu sp ep
 let J5:=bW bw mp
 let J6:=iL cX pr cW
 let J7:=iL bA mr bz
 let bc:=[J6,bR bH mq,J7]
 intro aY w0 bS (H0:HI M w w0 ((box aY #[C mn,R bA mr bz] 26::J1::J2::J3::J4::J5::bc)++r))
 let J0:=box aY #[C mn,R bA mr bz] 26
 refine av<|sq ?_
 refine l8 [.r,.r,.r,.r,.r,.r,.r,.r,.r,.s,.s,.s,.n,.e,.s,.s,.s] (fun _=>True) J (by kernel_rfl) (fun _ _=>trivial) ?_
 refine yq J J<|kq (fun _ _=>mv rfl i0 e1)<|zq<|yq J J<|kq (fun _ _=>nc rfl rfl e1)<|zq<|yq J J<|kq (fun _ _=>fa HO rfl rfl e1)<|zq<|yq J J<|kq (fun _ x_=>cq (H0.ext x_) 1 rfl dx rfl rfl aw rfl e1)<|zq<|yq J J<|kq (fun _ x_=>cq (H0.ext x_) 0 rfl bm rfl rfl aw rfl e1)<|zq<|yq J J<|kq (fun _ _=>mv rfl i2 e1)<|zq ?_
 refine yu J (fun N v w'=>∃(o0:List dU) (o1:Int) (a0:OA) (c0:Nat) (a1:OA) (c1:Nat),v=.tuple #[.agg #[C ((I.length:Nat):Int),R a0 (cQ I U o) c0],R a1 o0 c1,C o1,C 0]∧o0.length≤2000000000∧aK o1∧n5 I.length o0∧RV (MN H0.fW N) w' (R a0 (cQ I U o) c0) (cQ I U o)∧RV (MN H0.fW N) w' (R a1 o0 c1) o0) J ⟨by rintro _ _ _ _ x_ ⟨o0,o1,a0,c0,a1,c1,e_,q0,q1,q2,dV,fq⟩;exact⟨o0,o1,a0,c0,a1,c1,e_,q0,q1,q2,dV.lift (Up.ext x_),fq.lift (Up.ext x_)⟩,by rintro _ _ _ _ _ k_ ⟨o0,o1,a0,c0,a1,c1,e_,q0,q1,q2,dV,fq⟩;exact⟨o0,o1,a0,c0,a1,c1,e_,q0,q1,q2,gR dV k_,gR fq k_⟩⟩ J (fun v_ _ x_ n_=>have cV:=Hs (I:=I) (U:=U) (mn:=mn) (mr:=mr) (o:=o) (aD:=aD) (aF:=aF) (aC:=aC) (w:=v_) (kx H0.mb x_ n_) (hT.ext (H0.below.trans x_)) (j3 (H0.rv 2 J) x_ n_) (j3 (H0.rv 3 J) x_ n_) fZ (j3 (H0.rv 8 J) x_ n_) tB (by exact ho) aq (by exact eo) (by exact fE) aq aq aq;ca Ql rfl (ec J<|ec J<|ec J e0) cV (fun _ w2 ⟨o2,o3,a2,c2,a3,c3,e_,eT,iU,jO,q3,q4,q5⟩=>⟨_,J,eT,⟨o2,o3,a2,c2,a3,c3,e_,q3,q4,q5,iU,jO⟩⟩)) ?_
 refine lq J (fun N v w'=>∃(o4:List dU) (o5:Int) (a4:OA) (c4:Nat) (a5:OA) (c5:Nat),v=.tuple #[.agg #[C ((I.length:Nat):Int),R a4 (cQ I U o) c4],R a5 o4 c5,C o5,C 0]∧o4.length≤2000000000∧aK o5∧n5 I.length o4∧RV (MN H0.fW N) w' (R a4 (cQ I U o) c4) (cQ I U o)∧RV (MN H0.fW N) w' (R a5 o4 c5) o4) 0 J J ⟨by rintro _ _ _ _ x_ ⟨o4,o5,a4,c4,a5,c5,e_,q6,q7,q8,iT,kZ⟩;exact⟨o4,o5,a4,c4,a5,c5,e_,q6,q7,q8,iT.lift (Up.ext x_),kZ.lift (Up.ext x_)⟩,by rintro _ _ _ _ _ k_ ⟨o4,o5,a4,c4,a5,c5,e_,q6,q7,q8,iT,kZ⟩;exact⟨o4,o5,a4,c4,a5,c5,e_,q6,q7,q8,gR iT k_,gR kZ k_⟩⟩ J (fun _ _ _ _ _ h_=>let ⟨o6,o7,a6,c6,a7,c7,s0,q9,ux,wK,oe,ph⟩:=h_;mv rfl s0 ⟨_,J,Ext.refl _,⟨o6,o7,a6,c6,a7,c7,J,q9,ux,wK,oe,ph⟩⟩) ?_
 refine lq J (fun N v w'=>∃(a8:OA) (c8:Nat),v=.agg #[C ((I.length:Nat):Int),R a8 (cQ I U o) c8]∧RV (MN H0.fW N) w' (R a8 (cQ I U o) c8) (cQ I U o)) 0 J J kI J (fun _ _ _ _ _ h_=>let ⟨kv,fF,iZ,iY,mF,mD,s1,B6,B5,xP,nw,qh⟩:=h_;xt rfl s1 rfl ⟨_,J,Ext.refl _,⟨iZ,iY,J,nw⟩⟩) ?_
 refine lq J (fun N v w'=>∃(jR:List dU) (jK:OA) (jJ:Nat),v=R jK jR jJ∧jR.length≤2000000000∧n5 I.length jR∧RV (MN H0.fW N) w' (R jK jR jJ) jR) 1 J J ⟨by rintro _ _ _ _ x_ ⟨jR,jK,jJ,e_,wJ,wI,pM⟩;exact⟨jR,jK,jJ,e_,wJ,wI,pM.lift (Up.ext x_)⟩,by rintro _ _ _ _ _ k_ ⟨jR,jK,jJ,e_,wJ,wI,pM⟩;exact⟨jR,jK,jJ,e_,wJ,wI,gR pM k_⟩⟩ J (fun _ _ _ _ _ h_=>let ⟨D0,Gb,kL,kJ,TZ,TB,s2,DV,q22,KT,Az,EM⟩:=h_;xt rfl s2 rfl ⟨_,J,Ext.refl _,⟨D0,TZ,TB,J,DV,KT,EM⟩⟩) ?_
 refine lq J (fun _ v _=>∃(Ch:Int),v=C Ch∧aK Ch) 2 J J mE J (fun _ _ _ _ _ h_=>let ⟨RY,IJ,a18,c18,a19,c19,s3,q27,RD,q29,aav,aau⟩:=h_;xt rfl s3 rfl ⟨_,J,Ext.refl _,⟨IJ,J,RD⟩⟩) ?_
 refine QP J (X:=C 0) 3 J J (fun _ _ _ _ _ h_=>let ⟨N0,K8,a22,c22,a23,c23,s4,q33,q34,q35,aat,aas⟩:=h_;xt rfl s4 rfl e1) ?_
 refine yn (z:=#[C 0,.slice none 0 0]) J J (fun _=>OW bm)<|ye ?_
 refine lq J (fun N v w'=>∃(j4:List dU) (a24:OA) (yy:Nat),v=R a24 j4 yy∧j4.length≤2000000000∧n5 I.length j4∧RV (MN H0.fW N) w' (R a24 j4 yy) j4) 2 J J ⟨by rintro _ _ _ _ x_ ⟨j4,a24,yy,e_,B4,B3,wG⟩;exact⟨j4,a24,yy,e_,B4,B3,wG.lift (Up.ext x_)⟩,by rintro _ _ _ _ _ k_ ⟨j4,a24,yy,e_,B4,B3,wG⟩;exact⟨j4,a24,yy,e_,B4,B3,gR wG k_⟩⟩ J (fun _ _ _ _ _ h_=>let ⟨vw,a25,Ej,s5,RC,RB,KP⟩:=h_;jB rfl s5 ⟨_,J,Ext.refl _,⟨vw,a25,Ej,J,RC,RB,KP⟩⟩) ?_
 refine lq J (fun _ v _=>∃(nJ:Int),v=C nJ∧aK nJ) 2 J J mE J (fun _ _ _ _ _ h_=>let ⟨ou,s6,RA⟩:=h_;jB rfl s6 ⟨_,J,Ext.refl _,⟨ou,J,RA⟩⟩) ?_
 refine yq J J<|kq (fun _ _=>jB (v:=C 0) rfl rfl e1)<|zq<|yz ?_
 intro w3 f0 _ fB _ _ cz iC
 obtain⟨bD,s7,CC,sj,Br⟩:=iC 2 _ _ rfl
 have px:=ON (z:=#[C 0,.slice none 0 0]) (T:=26) CC sj Br<|OO
 let J8:=box bD #[C 0,.slice none 0 0] 26
 have H8:HI M w w3 ((J8::J0::J1::J2::J3::J4::J5::bc)++r):=H0.Dr fB px (N4 N3 N5)
 have s8:=(cz 0 J).trans i0
 obtain⟨Bn,a26,G4,s9,q42,q43,KO⟩:=iC 1 _ _ rfl
 let J9:=iL a26 Bn G4
 have H9:=H8.put (it:=J9) J<|rR KO px
 obtain⟨Af,Ac,ej,Um⟩:=iC 5 _ _ rfl
 let dK:=iL Af (cQ I U o) Ac
 have cT:=H9.put (it:=dK) J<|YH J<|rR Um px
 refine jZ<|bp cT 2 J bm J J s7 ej J J J ?_
 let ez:=box bD #[C ((I.length:Nat):Int),R Af (cQ I U o) Ac] 26
 intro w4 (dw:HI M w w4 ([dK,J9,ez,J0,J1,J2,J3,J4,J5,J6,bR bH mq,J7]++r))
 refine kz<|nx<|bk ?_
 have cJ:=dw.put (it:=J9) J<|dw.rv 1 J
 have de:=cJ.put (it:=J6) J<|cJ.rv 10 J
 refine lp (fun m f w'=>∃(gb:List dU) (jc:List cH) (jd:KV) (cD:Int) (m_:List (List bX)) (a28:OA) (qX:Nat) (oJ:OA) (oI:Nat) (jV:OA) (jT:Nat),m=gb.length∧f 0=pV cS 0∧f 7=R a28 gb qX∧HI M w w' ([iL jV m_ jT,iL a28 gb qX,dK,J9,box bD #[C ((I.length:Nat):Int),R Af (cQ I U o) Ac] 26,J0,box cS #[.slice aD aF aC,R ay I ax,R aA U az,R oJ jc oI,.map (some bw),C cD,R jV m_ jT,.map (some bH)] 142,J2,J3,oL w 175 oJ jc oI,bW bw jd,J6,bR bH mq,J7]++r)∧(n5 I.length gb)∧(jc.length+201*gb.length≤sp.length+201*Bn.length)∧(cD=pn)∧(bF cD m_=true)) _ ⟨Bn,sp,mp,pn,pr,a26,G4,eu,ep,cX,cW,J,s8,s9,de,aq,aq,aq,aq⟩ ?_
 rintro _ f1 w5 ⟨gb,jc,jd,cD,m_,a28,qX,oJ,oI,jV,jT,rfl,eY,fK,dP,tZ,HG,Cy,tv⟩
 refine sq<|aB<|ak J fK<|k<|dW J J ei<|k<|gtr J J J J<|z<|nx ?_
 refine cd (b:=decide (0<(gb.length:Int))) J J (fun b0=>?_)<|fun b0=>?_
 ·
  have p0:=dT b0
  refine sk<|nx<|bk<|aB<|au (v:=C 0) J J<|bt<|ak J eY<|k<|nc J J<|aU qQ J J<|k<|cq dP 6 J bm J J aw J<|k ?_
  have fT:=vW (mn:=cD) (mr:=m_) dP.mb aV (dP.rv 0 J)<|by exact tv
  refine ca Qe J (ec J e0) fT ?_
  rintro _ w6 ⟨a31,Jh,rfl,iN,KN⟩
  have dG:=dP.eI KN
  let fR:=oL w 144 a31 (fb cD m_) Jh
  let fw:=iL jV m_ jT
  let hG:=iL a28 gb qX
  let nt:=box cS #[.slice aD aF aC,R ay I ax,R aA U az,R oJ jc oI,.map (some bw),C cD,R jV m_ jT,.map (some bH)] 142
  let lh:=oL w 175 oJ jc oI
  let qY:=bW bw jd
  refine k<|al dG bm ?_
  let bY:=dK::J9::ez::J0::nt::J2::J3::lh::qY::bc
  intro eX w7 jb (dR:HI M w w7 ((box eX #[C 0,.slice none 0 0] 26::fR::fw::hG::bY)++r))
  refine k<|bp dR 0 J bm J J J J J J J ?_
  let jm:=box eX #[C cD,R a31 (fb cD m_) Jh] 26
  let dE:=jm::fR::fw::hG::bY
  intro w8 (dB:HI M w w8 (dE++r))
  refine av<|sq<|bk ?_
  let iH:=J0::nt::J2::J3::lh::qY::bc
  refine lp (fun m f w'=>∃(k_:Nat),m=gb.length-k_∧f 0=pV cS 0∧f 7=R a28 gb qX∧f 10=C (k_:Int)∧f 11=pV eX 0∧HI M w w' ((jm::fR::fw::hG::dK::J9::box bD #[C ((I.length:Nat):Int),R Af (cQ I U o) Ac] 26::iH)++r)∧(k_≤gb.length)) _ ⟨0,J,eY,fK,(bJ J),J,dB,aq⟩ ?_
  rintro _ f2 w9 ⟨k_,rfl,fJ,gx,gP,kr,eO,pt⟩
  refine sq<|sq ?_
  refine BD J (by kernel_rfl) ?_
  refine kq (fun _ _=>mv rfl gP e1)<|kq (fun _ _=>mv rfl gx e1)<|kq (fun _ _=>dW rfl rfl ei e1)<|kq (fun _ _=>lss rfl rfl rfl rfl e1)<|kq (fun _ _=>mv (v:=.bool (decide ((k_:Int)<(gb.length:Int)))) rfl rfl e1) ?_
  rcases bE (decide ((k_:Int)<(gb.length:Int))) with b1|b1
  ·
   have p1:=dT b1
   refine qy J J J b1<|kq (fun _ x_=>cq (eO.ext x_) 0 rfl bm rfl kr aw rfl e1)<|qy J J J b1<|kq (fun _ _=>mv rfl gx e1)<|qy J J J b1<|kq (fun _ _=>mv rfl gP e1)<|qy J J J b1<|tS (eO.rv 3 J) J J J J aq ei cF ?_
   intro iw x0 aQ cu
   refine qy J J J b1<|kq (fun _ _=>fa kE rfl rfl e1)<|qy J J J b1<|oW (cu).fst.w aW J J ?_
   intro EL
   refine qy J J J b1<|kq (fun _ _=>mv rfl gx e1)<|qy J J J b1<|kq (fun _ _=>mv rfl gP e1)<|qy J J J b1<|tS (eO.rv 3 J) J J J J aq ei cF ?_
   intro rD x_ sV gK
   obtain rfl:x0=x_:=amo (aQ.symm.trans sV)
   refine qy J J J b1<|kq (fun _ _=>fa sl rfl rfl e1)<|qy J J J b1<|oW (gK).s2.w aW J J ?_
   intro EK
   refine qy J J J b1 ?_
   refine kq (v:=.bool (eC cD (fb cD m_) x0.1 x0.2.2)) (fun v_ x_=>?_) ?_
   ·
    have fc:=(eO.ext x_).freeze 1 rfl
    have cc:=tU (mn:=cD) (mr:=(fb cD m_)) (i:=x0.1) (j:=x0.2.2) fc.mb aV (fc.rv 1 J) EL EK (by exact(bO<|oG tv).1) (by exact(bO<|oG tv).2.1) aq
    exact ca Fk J (ec J<|ec J<|ec J e0) cc fun _ _ h_=>e2 h_
   refine kq (fun _ _=>aR rfl rfl rfl rfl b1 rfl e1)<|kq (fun _ _=>mv (v:=.bool (eC cD (fb cD m_) x0.1 x0.2.2)) rfl rfl e1) ?_
   rcases bE (eC cD (fb cD m_) x0.1 x0.2.2) with b2|b2
   ·
    refine qy J J J b2<|kq (fun _ x_=>cq (eO.ext x_) 0 rfl bm rfl kr aw rfl e1)<|qy J J J b2<|kq (fun _ _=>mv rfl gx e1)<|qy J J J b2<|kq (fun _ _=>mv rfl gP e1)<|qy J J J b2<|tS (eO.rv 3 J) J J J J aq ei cF ?_
    intro pZ x_ sV la
    obtain rfl:x0=x_:=amo (aQ.symm.trans sV)
    refine qy J J J b2<|kq (fun _ _=>fa kE rfl rfl e1)<|qy J J J b2<|oW (la).fst.w aW J J ?_
    intro Ay
    refine qy J J J b2<|kq (fun _ _=>mv rfl gx e1)<|qy J J J b2<|kq (fun _ _=>mv rfl gP e1)<|qy J J J b2<|tS (eO.rv 3 J) J J J J aq ei cF ?_
    intro vK x_ sV xh
    obtain rfl:x0=x_:=amo (aQ.symm.trans sV)
    refine qy J J J b2<|kq (fun _ _=>fa mI rfl rfl e1)<|qy J J J b2<|oW ((xh).s1).fst.w aW J J ?_
    intro EJ
    refine qy J J J b2 ?_
    refine kq (v:=.bool (eC cD (fb cD m_) x0.1 x0.2.1)) (fun v_ x_=>?_) ?_
    ·
     have iD:=(eO.ext x_).freeze 1 rfl
     have cc:=tU (mn:=cD) (mr:=(fb cD m_)) (i:=x0.1) (j:=x0.2.1) iD.mb aV (iD.rv 1 J) Ay EJ (by exact(bO<|oG tv).1) (by exact(bO<|oG tv).2.1) aq
     exact ca Fk J (ec J<|ec J<|ec J e0) cc fun _ _ h_=>e2 h_
    refine qy J J J b2<|kq (fun _ _=>jE rfl rfl e1)<|kq (fun _ _=>aR rfl rfl rfl rfl b2 rfl e1)<|zq ?_
    intro dD kf
    have lL:=eO.ext kf
    refine nx ?_
    refine cd (b:=!(eC cD (fb cD m_) x0.1 x0.2.1)) J J (fun b3=>?_)<|fun b3=>?_
    ·
     refine sk<|nx<|bk<|rg<|ak J gP<|k<|add J J J J aV<|au (v:=C ((k_:Int)+1)) J J<|z<|aI ?_
     refine bB _ ?_ ⟨(k_+1),J,fJ,gx,(bJ J),kr,lL,aq⟩
     omega
    refine ex<|aX<|bf<|bg<|nx<|sq<|aB<|ak J gP<|k<|eql J J J J<|z<|nx ?_
    refine cd (b:=decide ((k_:Int)=0)) J J (fun b4=>?_)<|fun b4=>?_
    ·
     have p4:=dT b4
     refine aB<|ak J gx<|k<|NG (lL.rv 3 J) J J J J aq ei cF ?_
     intro a32 oH Ax
     let ns:=iL a32 (gb.drop (1:Int).toNat) oH
     have il:=lL.put (it:=ns) J Ax
     refine au (v:=R a32 (gb.drop (1:Int).toNat) oH) J J<|av<|ex<|aX<|bg ?_
     have je:=il.put (it:=fw) J<|il.rv 3 J
     have j9:=je.put (it:=ns) J<|je.rv 1 J
     have lj:=j9.put (it:=J2) J<|j9.rv 12 J
     have kl:=lj.put (it:=J3) J<|lj.rv 14 J
     have xH:HI M w dD ((J3::J2::ns::fw::ns::dE)++r):=kl
     have ng:HI M w dD ((fw::ns::bY)++r):=HI.aR (l:=(J3::J2::ns::fw::ns::dE)) (l':=(fw::ns::bY)) (t:=r) xH [3,2,9,10,11,12,13,1,0,16,17,18,19,20] aw rfl rfl
     refine bB _ ?_ ⟨(gb.drop (1:Int).toNat),jc,jd,cD,m_,a32,oH,oJ,oI,jV,jT,J,fJ,J,ng,(by intro e_ h_;exact tZ e_ (anY h_)),(by simp only[amF];omega),bq,bq⟩
     first|(simp only[amF];omega)|omega
    have p4:=dF b4
    refine sk<|nx<|sq<|aB<|ak J gx<|ak J gP<|k<|NH (lL.rv 3 J) J J J J aq ei cF ?_
    intro a32 oH Ax
    let oS:=iL a32 (gb.take (k_:Int).toNat) oH
    have il:=lL.put (it:=oS) J Ax
    refine k<|dW J J ei<|ak (v:=C 0) J J<|av<|bk ?_
    refine lp (fun m f w'=>∃(q_:Nat) (iS:List cH) (iK:KV) (a33:OA) (lJ:Nat),m=(gb.take (k_:Int).toNat).length-q_∧f 0=pV cS 0∧f 7=R a28 gb qX∧f 10=C (k_:Int)∧f 75=R a32 (gb.take (k_:Int).toNat) oH∧f 76=C ((gb.take (k_:Int).toNat).length:Int)∧f 77=C (q_:Int)∧HI M w w' ([oS,jm,fR,fw,hG,dK,J9,box bD #[C ((I.length:Nat):Int),R Af (cQ I U o) Ac] 26,J0,box cS #[.slice aD aF aC,R ay I ax,R aA U az,R a33 iS lJ,.map (some bw),C cD,R jV m_ jT,.map (some bH)] 142,J2,J3,oL w 175 a33 iS lJ,bW bw iK,J6,bR bH mq,J7]++r)∧(q_≤(gb.take (k_:Int).toNat).length)∧(iS.length≤jc.length+201*q_)) _ ⟨0,jc,jd,oJ,oI,J,fJ,gx,gP,J,J,(bJ J),il,aq,aq⟩ ?_
    rintro _ f3 eb ⟨q_,iS,iK,a33,lJ,rfl,kY,mL,mK,nG,pg,rm,je,sf,abx⟩
    refine sq ?_
    have abF:((gb.take (k_:Int).toNat)).length≤gb.length:=by rw[ij];exact apq _ _
    refine rg<|k<|lss J J rm pg<|av<|sq ?_
    refine cd (b:=decide ((q_:Int)<((gb.take (k_:Int).toNat).length:Int))) J J (fun b5=>?_)<|fun b5=>?_
    ·
     have p5:=dT b5
     refine sk<|nx<|sq<|bk<|aB<|k<|ia (je.rv 0 J) J J nG rm aq ei cF ?_
     intro u3 x1 cP yo
     refine k<|nj yo.w cF J J ?_
     intro v0 KM
     obtain⟨_,⟨_,_,rfl,⟨rfl,KL⟩,⟨_,_,rfl,⟨rfl,agX⟩,⟨rfl,agW⟩⟩⟩,rfl⟩:=KM
     refine k<|al je cF ?_
     let nf:=box cS #[.slice aD aF aC,R ay I ax,R aA U az,R a33 iS lJ,.map (some bw),C cD,R jV m_ jT,.map (some bH)] 142
     let lK:=oL w 175 a33 iS lJ
     let eW:=oS::jm::fR::fw::hG::dK::J9::ez::J0::nf::J2::J3::lK::bW bw iK::bc
     intro fP ff l4 (nZ:HI M w ff ((box fP #[C 0,C 0,C 0] 122::eW)++r))
     refine k<|bp nZ 0 J cF J J J J J J J ?_
     let u7:=box fP #[C x1.1,C x1.2.1,C x1.2.2] 122
     intro hQ (j9:HI M w hQ ((u7::eW)++r))
     refine av<|rg<|ak J kY<|k<|cq j9 0 J cF J J aw J<|k ?_
     let lg:=[fw,bR bH mq,u7,oS,jm,fR,hG,dK,J9,ez,J0,J6,J7]
     have rF:HI M w hQ ([nf,J2,J3,lK,bW bw iK,fw,bR bH mq]++([u7,oS,jm,fR,hG,dK,J9,ez,J0,J6,J7]++r)):=HI.aR (l:=(u7::eW)) (l':=(nf::J2::J3::lK::bW bw iK::lg)) (t:=r) j9 [10,11,12,13,14,4,16,0,1,2,3,5,6,7,8,9,15,17] aw rfl rfl
     have eU:=AF (cS:=cS) (aD:=aD) (aF:=aF) (aC:=aC) (ay:=ay) (ax:=ax) (I:=I) (aA:=aA) (az:=az) (U:=U) (eu:=a33) (ep:=lJ) (sp:=iS) (bw:=bw) (mp:=iK) (pn:=cD) (cX:=jV) (cW:=jT) (pr:=m_) (bH:=bH) (mq:=mq) (fm:=x1.1) (fu:=x1.2.1) (gA:=x1.2.2) (w:=w) (w_:=hQ) (r:=([u7,oS,jm,fR,hG,dK,J9,ez,J0,J6,J7]++r)) (M:=M) aV KL agX agW hT aq aq (by exact eo) aq (by exact tv) rF
     refine ca Qk J (ec J<|ec J e0) eU ?_
     rintro _ iO ⟨my,uC,sA,sr,rfl,lj,Rz⟩
     let tH:=box cS #[.slice aD aF aC,R ay I ax,R aA U az,R sA my sr,.map (some bw),C cD,R jV m_ jT,.map (some bH)] 142
     let BF:=oL w 175 sA my sr
     let tG:=bW bw uC
     refine z<|aI<|nx<|rg<|k<|add J J rm J aV<|ak (v:=C ((q_:Int)+1)) J J<|z ?_
     have kl:=lj.put (it:=fw) J<|lj.rv 5 J
     have ng:=kl.put (it:=J2) J<|kl.rv 2 J
     have qZ:=ng.put (it:=J3) J<|ng.rv 4 J
     have yI:HI M w iO ((J3::J2::fw::tH::J2::J3::BF::tG::lg)++r):=qZ
     let tF:=oS::jm::fR::fw::hG::dK::J9::ez::J0::tH::J2::J3::BF::tG::bc
     have qa:HI M w iO (tF++r):=HI.aR (l:=(J3::J2::fw::tH::J2::J3::BF::tG::lg)) (l':=tF) (t:=r) yI [11,12,13,2,14,15,16,17,18,3,1,0,6,7,19,9,20] aw rfl rfl
     refine bB _ ?_ ⟨(q_+1),my,uC,sA,sr,J,kY,mL,mK,nG,pg,(bJ J),qa,aq,aq⟩
     omega
    have p5:=dF b5
    refine ex<|aX<|bf<|bg<|cI<|ak J kY<|ak J mL<|ak J mK<|k<|NH (je.rv 4 J) J J J J aq ei cF ?_
    intro sA sr KM
    let yH:=iL sA (gb.take (k_:Int).toNat) sr
    have nZ:=je.put (it:=yH) J KM
    let u6:=box cS #[.slice aD aF aC,R ay I ax,R aA U az,R a33 iS lJ,.map (some bw),C cD,R jV m_ jT,.map (some bH)] 142
    let xG:=oL w 175 a33 iS lJ
    let xF:=bW bw iK
    let C3:=yH::oS::jm::fR::fw::hG::dK::J9::ez::J0::u6::J2::J3::xG::xF::bc
    have j9:HI M w eb (C3++r):=nZ
    refine k ?_
    let Hb:=[bR bH mq,yH,oS,jm,fR,hG,dK,J9,ez,J0,J6,J7]
    have rF:HI M w eb ([u6,J2,J3,xG,xF,fw,bR bH mq,yH]++([oS,jm,fR,hG,dK,J9,ez,J0,J6,J7]++r)):=HI.aR (l:=C3) (l':=(u6::J2::J3::xG::xF::fw::Hb)) (t:=r) j9 [10,11,12,13,14,4,16,0,1,2,3,5,6,7,8,9,15,17] aw rfl rfl
    have eU:=xR (cS:=cS) (aD:=aD) (aF:=aF) (aC:=aC) (ay:=ay) (ax:=ax) (I:=I) (aA:=aA) (az:=az) (U:=U) (eu:=a33) (ep:=lJ) (sp:=iS) (bw:=bw) (mp:=iK) (pn:=cD) (cX:=jV) (cW:=jT) (pr:=m_) (bH:=bH) (mq:=mq) (ze:=sA) (y_:=sr) (es:=(gb.take (k_:Int).toNat)) (w:=w) (w_:=eb) (r:=([oS,jm,fR,hG,dK,J9,ez,J0,J6,J7]++r)) (M:=M) aV (by exact tv) (by intro x_ h_;rw[Cy,IX];exact tZ x_ (anz h_)) rF
    refine ca JP J (ec J<|ec J e0) eU ?_
    rintro _ ff ⟨my,a35,CX,rfl,lj,Rz⟩
    let Eu:=box cS #[.slice aD aF aC,R ay I ax,R aA U az,R a33 iS lJ,.map (some bw),C cD,R a35 my CX,.map (some bH)] 142
    let tl:=iL a35 my CX
    refine z<|nx ?_
    have abD:((gb.take (k_:Int).toNat)).length=k_:=by rw[ij,dZ];exact anl aq
    refine rg<|ak J mL<|ak J mK<|k<|NG (lj.rv 11 J) J J J J aq ei cF ?_
    intro C2 CW KL
    let rE:=iL C2 (gb.drop (k_:Int).toNat) CW
    have kl:=lj.put (it:=rE) J KL
    refine au (v:=R C2 (gb.drop (k_:Int).toNat) CW) J J<|z<|aI ?_
    have ng:=kl.put (it:=tl) J<|kl.rv 6 J
    have qZ:=ng.put (it:=rE) J<|ng.rv 1 J
    have qa:=qZ.put (it:=J2) J<|qZ.rv 4 J
    have Jt:=qa.put (it:=J3) J<|qa.rv 6 J
    let El:=J3::J2::rE::tl::rE::Eu::J2::J3::xG::xF::tl::Hb
    have H46:HI M w ff (El++r):=Jt
    let MF:=tl::rE::dK::J9::ez::J0::Eu::J2::J3::xG::xF::bc
    have H47:HI M w ff (MF++r):=HI.aR (l:=El) (l':=MF) (t:=r) H46 [3,2,17,18,19,20,5,1,0,8,9,21,11,22] aw rfl rfl
    refine bB _ ?_ ⟨(gb.drop (k_:Int).toNat),iS,iK,cD,my,C2,CW,a33,lJ,a35,CX,J,kY,J,H47,(by intro e_ h_;exact tZ e_ (anY h_)),(by simp only[amF];omega),bq,bq⟩
    first|(simp only[amF];omega)|omega
   refine qn J J J b2<|qn J J J b2<|qn J J J b2<|qn J J J b2<|qn J J J b2<|qn J J J b2<|qn J J J b2<|qn J J J b2<|qn J J J b2<|qn J J J b2<|qn J J J b2<|qn J J J b2<|qn J J J b2<|kq (fun _ _=>cK rfl rfl rfl rfl b2 rfl e1)<|zq ?_
   intro dD kf
   have iD:=eO.ext kf
   refine nx<|nP J J J<|ex<|aX<|bf<|bg<|nx<|sq<|aB<|ak J gP<|k<|eql J J J J<|z<|nx ?_
   refine cd (b:=decide ((k_:Int)=0)) J J (fun b3=>?_)<|fun b3=>?_
   ·
    have p3:=dT b3
    refine aB<|ak J gx<|k<|NG (iD.rv 3 J) J J J J aq ei cF ?_
    intro a32 oH Ay
    let u5:=iL a32 (gb.drop (1:Int).toNat) oH
    have ga:=iD.put (it:=u5) J Ay
    refine au (v:=R a32 (gb.drop (1:Int).toNat) oH) J J<|av<|ex<|aX<|bg ?_
    have il:=ga.put (it:=fw) J<|ga.rv 3 J
    have je:=il.put (it:=u5) J<|il.rv 1 J
    have j9:=je.put (it:=J2) J<|je.rv 12 J
    have lj:=j9.put (it:=J3) J<|j9.rv 14 J
    have C':HI M w dD ((J3::J2::u5::fw::u5::dE)++r):=lj
    have kl:HI M w dD ((fw::u5::bY)++r):=HI.aR (l:=(J3::J2::u5::fw::u5::dE)) (l':=(fw::u5::bY)) (t:=r) C' [3,2,9,10,11,12,13,1,0,16,17,18,19,20] aw rfl rfl
    refine bB _ ?_ ⟨(gb.drop (1:Int).toNat),jc,jd,cD,m_,a32,oH,oJ,oI,jV,jT,J,fJ,J,kl,(by intro e_ h_;exact tZ e_ (anY h_)),(by simp only[amF];omega),bq,bq⟩
    first|(simp only[amF];omega)|omega
   have p3:=dF b3
   refine sk<|nx<|sq<|aB<|ak J gx<|ak J gP<|k<|NH (iD.rv 3 J) J J J J aq ei cF ?_
   intro a32 oH Ay
   let pD:=iL a32 (gb.take (k_:Int).toNat) oH
   have ga:=iD.put (it:=pD) J Ay
   refine k<|dW J J ei<|ak (v:=C 0) J J<|av<|bk ?_
   refine lp (fun m f w'=>∃(q_:Nat) (iS:List cH) (iK:KV) (a33:OA) (lJ:Nat),m=(gb.take (k_:Int).toNat).length-q_∧f 0=pV cS 0∧f 7=R a28 gb qX∧f 10=C (k_:Int)∧f 75=R a32 (gb.take (k_:Int).toNat) oH∧f 76=C ((gb.take (k_:Int).toNat).length:Int)∧f 77=C (q_:Int)∧HI M w w' ([pD,jm,fR,fw,hG,dK,J9,box bD #[C ((I.length:Nat):Int),R Af (cQ I U o) Ac] 26,J0,box cS #[.slice aD aF aC,R ay I ax,R aA U az,R a33 iS lJ,.map (some bw),C cD,R jV m_ jT,.map (some bH)] 142,J2,J3,oL w 175 a33 iS lJ,bW bw iK,J6,bR bH mq,J7]++r)∧(q_≤(gb.take (k_:Int).toNat).length)∧(iS.length≤jc.length+201*q_)) _ ⟨0,jc,jd,oJ,oI,J,fJ,gx,gP,J,J,(bJ J),ga,aq,aq⟩ ?_
   rintro _ f3 eb ⟨q_,iS,iK,a33,lJ,rfl,kY,mL,mK,nG,pg,rm,il,sf,abx⟩
   refine sq ?_
   have abF:((gb.take (k_:Int).toNat)).length≤gb.length:=by rw[ij];exact apq _ _
   refine rg<|k<|lss J J rm pg<|av<|sq ?_
   refine cd (b:=decide ((q_:Int)<((gb.take (k_:Int).toNat).length:Int))) J J (fun b4=>?_)<|fun b4=>?_
   ·
    have p4:=dT b4
    refine sk<|nx<|sq<|bk<|aB<|k<|ia (il.rv 0 J) J J nG rm aq ei cF ?_
    intro pZ x1 cP la
    refine k<|nj la.w cF J J ?_
    intro v0 EJ
    obtain⟨_,⟨_,_,rfl,⟨rfl,Ax⟩,⟨_,_,rfl,⟨rfl,KM⟩,⟨rfl,KL⟩⟩⟩,rfl⟩:=EJ
    refine k<|al il cF ?_
    let C_:=box cS #[.slice aD aF aC,R ay I ax,R aA U az,R a33 iS lJ,.map (some bw),C cD,R jV m_ jT,.map (some bH)] 142
    let yG:=oL w 175 a33 iS lJ
    let Ws:=pD::jm::fR::fw::hG::dK::J9::ez::J0::C_::J2::J3::yG::bW bw iK::bc
    intro fP ff l4 (n3:HI M w ff ((box fP #[C 0,C 0,C 0] 122::Ws)++r))
    refine k<|bp n3 0 J cF J J J J J J J ?_
    let xE:=box fP #[C x1.1,C x1.2.1,C x1.2.2] 122
    intro hQ (je:HI M w hQ ((xE::Ws)++r))
    refine av<|rg<|ak J kY<|k<|cq je 0 J cF J J aw J<|k ?_
    let Wr:=[fw,bR bH mq,xE,pD,jm,fR,hG,dK,J9,ez,J0,J6,J7]
    have nZ:HI M w hQ ([C_,J2,J3,yG,bW bw iK,fw,bR bH mq]++([xE,pD,jm,fR,hG,dK,J9,ez,J0,J6,J7]++r)):=HI.aR (l:=(xE::Ws)) (l':=(C_::J2::J3::yG::bW bw iK::Wr)) (t:=r) je [10,11,12,13,14,4,16,0,1,2,3,5,6,7,8,9,15,17] aw rfl rfl
    have eU:=AF (cS:=cS) (aD:=aD) (aF:=aF) (aC:=aC) (ay:=ay) (ax:=ax) (I:=I) (aA:=aA) (az:=az) (U:=U) (eu:=a33) (ep:=lJ) (sp:=iS) (bw:=bw) (mp:=iK) (pn:=cD) (cX:=jV) (cW:=jT) (pr:=m_) (bH:=bH) (mq:=mq) (fm:=x1.1) (fu:=x1.2.1) (gA:=x1.2.2) (w:=w) (w_:=hQ) (r:=([xE,pD,jm,fR,hG,dK,J9,ez,J0,J6,J7]++r)) (M:=M) aV Ax KM KL hT aq aq (by exact eo) aq (by exact tv) nZ
    refine ca Qk J (ec J<|ec J e0) eU ?_
    rintro _ iO ⟨my,uC,sA,sr,rfl,j9,Rz⟩
    let C9:=box cS #[.slice aD aF aC,R ay I ax,R aA U az,R sA my sr,.map (some bw),C cD,R jV m_ jT,.map (some bH)] 142
    let C8:=oL w 175 sA my sr
    let C7:=bW bw uC
    refine z<|aI<|nx<|rg<|k<|add J J rm J aV<|ak (v:=C ((q_:Int)+1)) J J<|z ?_
    have lj:=j9.put (it:=fw) J<|j9.rv 5 J
    have kl:=lj.put (it:=J2) J<|lj.rv 2 J
    have ng:=kl.put (it:=J3) J<|kl.rv 4 J
    have yJ:HI M w iO ((J3::J2::fw::C9::J2::J3::C8::C7::Wr)++r):=ng
    let adB:=pD::jm::fR::fw::hG::dK::J9::ez::J0::C9::J2::J3::C8::C7::bc
    have qZ:HI M w iO (adB++r):=HI.aR (l:=(J3::J2::fw::C9::J2::J3::C8::C7::Wr)) (l':=adB) (t:=r) yJ [11,12,13,2,14,15,16,17,18,3,1,0,6,7,19,9,20] aw rfl rfl
    refine bB _ ?_ ⟨(q_+1),my,uC,sA,sr,J,kY,mL,mK,nG,pg,(bJ J),qZ,aq,aq⟩
    omega
   have p4:=dF b4
   refine ex<|aX<|bf<|bg<|cI<|ak J kY<|ak J mL<|ak J mK<|k<|NH (il.rv 4 J) J J J J aq ei cF ?_
   intro sA sr EJ
   let sB:=iL sA (gb.take (k_:Int).toNat) sr
   have n3:=il.put (it:=sB) J EJ
   let Js:=box cS #[.slice aD aF aC,R ay I ax,R aA U az,R a33 iS lJ,.map (some bw),C cD,R jV m_ jT,.map (some bH)] 142
   let Et:=oL w 175 a33 iS lJ
   let Es:=bW bw iK
   let adA:=sB::pD::jm::fR::fw::hG::dK::J9::ez::J0::Js::J2::J3::Et::Es::bc
   have je:HI M w eb (adA++r):=n3
   refine k ?_
   let adz:=[bR bH mq,sB,pD,jm,fR,hG,dK,J9,ez,J0,J6,J7]
   have nZ:HI M w eb ([Js,J2,J3,Et,Es,fw,bR bH mq,sB]++([pD,jm,fR,hG,dK,J9,ez,J0,J6,J7]++r)):=HI.aR (l:=adA) (l':=(Js::J2::J3::Et::Es::fw::adz)) (t:=r) je [10,11,12,13,14,4,16,0,1,2,3,5,6,7,8,9,15,17] aw rfl rfl
   have eU:=xR (cS:=cS) (aD:=aD) (aF:=aF) (aC:=aC) (ay:=ay) (ax:=ax) (I:=I) (aA:=aA) (az:=az) (U:=U) (eu:=a33) (ep:=lJ) (sp:=iS) (bw:=bw) (mp:=iK) (pn:=cD) (cX:=jV) (cW:=jT) (pr:=m_) (bH:=bH) (mq:=mq) (ze:=sA) (y_:=sr) (es:=(gb.take (k_:Int).toNat)) (w:=w) (w_:=eb) (r:=([pD,jm,fR,hG,dK,J9,ez,J0,J6,J7]++r)) (M:=M) aV (by exact tv) (by intro x_ h_;rw[Cy,IX];exact tZ x_ (anz h_)) nZ
   refine ca JP J (ec J<|ec J e0) eU ?_
   rintro _ ff ⟨my,a35,CX,rfl,j9,Rz⟩
   let Aj:=box cS #[.slice aD aF aC,R ay I ax,R aA U az,R a33 iS lJ,.map (some bw),C cD,R a35 my CX,.map (some bH)] 142
   let Hg:=iL a35 my CX
   refine z<|nx ?_
   have abD:((gb.take (k_:Int).toNat)).length=k_:=by rw[ij,dZ];exact anl aq
   refine rg<|ak J mL<|ak J mK<|k<|NG (j9.rv 11 J) J J J J aq ei cF ?_
   intro C2 CW Ax
   let Er:=iL C2 (gb.drop (k_:Int).toNat) CW
   have lj:=j9.put (it:=Er) J Ax
   refine au (v:=R C2 (gb.drop (k_:Int).toNat) CW) J J<|z<|aI ?_
   have kl:=lj.put (it:=Hg) J<|lj.rv 6 J
   have ng:=kl.put (it:=Er) J<|kl.rv 1 J
   have qZ:=ng.put (it:=J2) J<|ng.rv 4 J
   have qa:=qZ.put (it:=J3) J<|qZ.rv 6 J
   let ady:=J3::J2::Er::Hg::Er::Aj::J2::J3::Et::Es::Hg::adz
   have Yh:HI M w ff (ady++r):=qa
   let adx:=Hg::Er::dK::J9::ez::J0::Aj::J2::J3::Et::Es::bc
   have Jt:HI M w ff (adx++r):=HI.aR (l:=ady) (l':=adx) (t:=r) Yh [3,2,17,18,19,20,5,1,0,8,9,21,11,22] aw rfl rfl
   refine bB _ ?_ ⟨(gb.drop (k_:Int).toNat),iS,iK,cD,my,C2,CW,a33,lJ,a35,CX,J,kY,J,Jt,(by intro e_ h_;exact tZ e_ (anY h_)),(by simp only[amF];omega),bq,bq⟩
   first|(simp only[amF];omega)|omega
  have p1:=dF b1
  refine qn J J J b1<|qn J J J b1<|qn J J J b1<|qn J J J b1<|qn J J J b1<|qn J J J b1<|qn J J J b1<|qn J J J b1<|qn J J J b1<|qn J J J b1<|qn J J J b1<|qn J J J b1<|kq (fun _ _=>cK rfl rfl rfl rfl b1 rfl e1)<|kq (fun _ _=>mv (v:=.bool false) rfl rfl e1)<|qn J J J J<|qn J J J J<|qn J J J J<|qn J J J J<|qn J J J J<|qn J J J J<|qn J J J J<|qn J J J J<|qn J J J J<|qn J J J J<|qn J J J J<|qn J J J J<|qn J J J J<|kq (fun _ _=>cK rfl rfl rfl rfl rfl rfl e1)<|zq ?_
  intro dD kf
  have fc:=eO.ext kf
  refine nx<|nP J J J<|ex<|aX<|bf<|bg<|nx<|sq<|aB<|ak J gP<|k<|eql J J J J<|z<|nx ?_
  refine cd (b:=decide ((k_:Int)=0)) J J (fun b2=>?_)<|fun b2=>?_
  ·
   have p2:=dT b2
   refine aB<|ak J gx<|k<|NG (fc.rv 3 J) J J J J aq ei cF ?_
   intro a32 oH EL
   let Ai:=iL a32 (gb.drop (1:Int).toNat) oH
   have gI:=fc.put (it:=Ai) J EL
   refine au (v:=R a32 (gb.drop (1:Int).toNat) oH) J J<|av<|ex<|aX<|bg ?_
   have ga:=gI.put (it:=fw) J<|gI.rv 3 J
   have il:=ga.put (it:=Ai) J<|ga.rv 1 J
   have je:=il.put (it:=J2) J<|il.rv 12 J
   have j9:=je.put (it:=J3) J<|je.rv 14 J
   have rF:HI M w dD ((J3::J2::Ai::fw::Ai::dE)++r):=j9
   have lj:HI M w dD ((fw::Ai::bY)++r):=HI.aR (l:=(J3::J2::Ai::fw::Ai::dE)) (l':=(fw::Ai::bY)) (t:=r) rF [3,2,9,10,11,12,13,1,0,16,17,18,19,20] aw rfl rfl
   refine bB _ ?_ ⟨(gb.drop (1:Int).toNat),jc,jd,cD,m_,a32,oH,oJ,oI,jV,jT,J,fJ,J,lj,(by intro e_ h_;exact tZ e_ (anY h_)),(by simp only[amF];omega),bq,bq⟩
   first|(simp only[amF];omega)|omega
  have p2:=dF b2
  refine sk<|nx<|sq<|aB<|ak J gx<|ak J gP<|k<|NH (fc.rv 3 J) J J J J aq ei cF ?_
  intro a32 oH EL
  let yF:=iL a32 (gb.take (k_:Int).toNat) oH
  have gI:=fc.put (it:=yF) J EL
  refine k<|dW J J ei<|ak (v:=C 0) J J<|av<|bk ?_
  refine lp (fun m f w'=>∃(q_:Nat) (iS:List cH) (iK:KV) (a33:OA) (lJ:Nat),m=(gb.take (k_:Int).toNat).length-q_∧f 0=pV cS 0∧f 7=R a28 gb qX∧f 10=C (k_:Int)∧f 75=R a32 (gb.take (k_:Int).toNat) oH∧f 76=C ((gb.take (k_:Int).toNat).length:Int)∧f 77=C (q_:Int)∧HI M w w' ([yF,jm,fR,fw,hG,dK,J9,box bD #[C ((I.length:Nat):Int),R Af (cQ I U o) Ac] 26,J0,box cS #[.slice aD aF aC,R ay I ax,R aA U az,R a33 iS lJ,.map (some bw),C cD,R jV m_ jT,.map (some bH)] 142,J2,J3,oL w 175 a33 iS lJ,bW bw iK,J6,bR bH mq,J7]++r)∧(q_≤(gb.take (k_:Int).toNat).length)∧(iS.length≤jc.length+201*q_)) _ ⟨0,jc,jd,oJ,oI,J,fJ,gx,gP,J,J,(bJ J),gI,aq,aq⟩ ?_
  rintro _ f3 eb ⟨q_,iS,iK,a33,lJ,rfl,kY,mL,mK,nG,pg,rm,ga,sf,abx⟩
  refine sq ?_
  have abF:((gb.take (k_:Int).toNat)).length≤gb.length:=by rw[ij];exact apq _ _
  refine rg<|k<|lss J J rm pg<|av<|sq ?_
  refine cd (b:=decide ((q_:Int)<((gb.take (k_:Int).toNat).length:Int))) J J (fun b3=>?_)<|fun b3=>?_
  ·
   have p3:=dT b3
   refine sk<|nx<|sq<|bk<|aB<|k<|ia (ga.rv 0 J) J J nG rm aq ei cF ?_
   intro iw x0 aQ cu
   refine k<|nj cu.w cF J J ?_
   intro v0 EK
   obtain⟨_,⟨_,_,rfl,⟨rfl,Ay⟩,⟨_,_,rfl,⟨rfl,EJ⟩,⟨rfl,Ax⟩⟩⟩,rfl⟩:=EK
   refine k<|al ga cF ?_
   let Jr:=box cS #[.slice aD aF aC,R ay I ax,R aA U az,R a33 iS lJ,.map (some bw),C cD,R jV m_ jT,.map (some bH)] 142
   let C6:=oL w 175 a33 iS lJ
   let Wq:=yF::jm::fR::fw::hG::dK::J9::ez::J0::Jr::J2::J3::C6::bW bw iK::bc
   intro fP ff l4 (lL:HI M w ff ((box fP #[C 0,C 0,C 0] 122::Wq)++r))
   refine k<|bp lL 0 J cF J J J J J J J ?_
   let u4:=box fP #[C x0.1,C x0.2.1,C x0.2.2] 122
   intro hQ (il:HI M w hQ ((u4::Wq)++r))
   refine av<|rg<|ak J kY<|k<|cq il 0 J cF J J aw J<|k ?_
   let adw:=[fw,bR bH mq,u4,yF,jm,fR,hG,dK,J9,ez,J0,J6,J7]
   have n3:HI M w hQ ([Jr,J2,J3,C6,bW bw iK,fw,bR bH mq]++([u4,yF,jm,fR,hG,dK,J9,ez,J0,J6,J7]++r)):=HI.aR (l:=(u4::Wq)) (l':=(Jr::J2::J3::C6::bW bw iK::adw)) (t:=r) il [10,11,12,13,14,4,16,0,1,2,3,5,6,7,8,9,15,17] aw rfl rfl
   have eU:=AF (cS:=cS) (aD:=aD) (aF:=aF) (aC:=aC) (ay:=ay) (ax:=ax) (I:=I) (aA:=aA) (az:=az) (U:=U) (eu:=a33) (ep:=lJ) (sp:=iS) (bw:=bw) (mp:=iK) (pn:=cD) (cX:=jV) (cW:=jT) (pr:=m_) (bH:=bH) (mq:=mq) (fm:=x0.1) (fu:=x0.2.1) (gA:=x0.2.2) (w:=w) (w_:=hQ) (r:=([u4,yF,jm,fR,hG,dK,J9,ez,J0,J6,J7]++r)) (M:=M) aV Ay EJ Ax hT aq aq (by exact eo) aq (by exact tv) n3
   refine ca Qk J (ec J<|ec J e0) eU ?_
   rintro _ iO ⟨my,uC,sA,sr,rfl,je,Rz⟩
   let MK:=box cS #[.slice aD aF aC,R ay I ax,R aA U az,R sA my sr,.map (some bw),C cD,R jV m_ jT,.map (some bH)] 142
   let MJ:=oL w 175 sA my sr
   let MI:=bW bw uC
   refine z<|aI<|nx<|rg<|k<|add J J rm J aV<|ak (v:=C ((q_:Int)+1)) J J<|z ?_
   have j9:=je.put (it:=fw) J<|je.rv 5 J
   have lj:=j9.put (it:=J2) J<|j9.rv 2 J
   have kl:=lj.put (it:=J3) J<|lj.rv 4 J
   let adv:=J3::J2::fw::MK::J2::J3::MJ::MI::adw
   have xH:HI M w iO (adv++r):=kl
   let adu:=yF::jm::fR::fw::hG::dK::J9::ez::J0::MK::J2::J3::MJ::MI::bc
   have ng:HI M w iO (adu++r):=HI.aR (l:=adv) (l':=adu) (t:=r) xH [11,12,13,2,14,15,16,17,18,3,1,0,6,7,19,9,20] aw rfl rfl
   refine bB _ ?_ ⟨(q_+1),my,uC,sA,sr,J,kY,mL,mK,nG,pg,(bJ J),ng,aq,aq⟩
   omega
  have p3:=dF b3
  refine ex<|aX<|bf<|bg<|cI<|ak J kY<|ak J mL<|ak J mK<|k<|NH (ga.rv 4 J) J J J J aq ei cF ?_
  intro sA sr EK
  let xD:=iL sA (gb.take (k_:Int).toNat) sr
  have lL:=ga.put (it:=xD) J EK
  let Jq:=box cS #[.slice aD aF aC,R ay I ax,R aA U az,R a33 iS lJ,.map (some bw),C cD,R jV m_ jT,.map (some bH)] 142
  let Ep:=oL w 175 a33 iS lJ
  let Eo:=bW bw iK
  let adt:=xD::yF::jm::fR::fw::hG::dK::J9::ez::J0::Jq::J2::J3::Ep::Eo::bc
  have il:HI M w eb (adt++r):=lL
  refine k ?_
  let ads:=[bR bH mq,xD,yF,jm,fR,hG,dK,J9,ez,J0,J6,J7]
  have n3:HI M w eb ([Jq,J2,J3,Ep,Eo,fw,bR bH mq,xD]++([yF,jm,fR,hG,dK,J9,ez,J0,J6,J7]++r)):=HI.aR (l:=adt) (l':=(Jq::J2::J3::Ep::Eo::fw::ads)) (t:=r) il [10,11,12,13,14,4,16,0,1,2,3,5,6,7,8,9,15,17] aw rfl rfl
  have eU:=xR (cS:=cS) (aD:=aD) (aF:=aF) (aC:=aC) (ay:=ay) (ax:=ax) (I:=I) (aA:=aA) (az:=az) (U:=U) (eu:=a33) (ep:=lJ) (sp:=iS) (bw:=bw) (mp:=iK) (pn:=cD) (cX:=jV) (cW:=jT) (pr:=m_) (bH:=bH) (mq:=mq) (ze:=sA) (y_:=sr) (es:=(gb.take (k_:Int).toNat)) (w:=w) (w_:=eb) (r:=([yF,jm,fR,hG,dK,J9,ez,J0,J6,J7]++r)) (M:=M) aV (by exact tv) (by intro x_ h_;rw[Cy,IX];exact tZ x_ (anz h_)) n3
  refine ca JP J (ec J<|ec J e0) eU ?_
  rintro _ ff ⟨my,a35,CX,rfl,je,Rz⟩
  let T4:=box cS #[.slice aD aF aC,R ay I ax,R aA U az,R a33 iS lJ,.map (some bw),C cD,R a35 my CX,.map (some bH)] 142
  let Hf:=iL a35 my CX
  refine z<|nx ?_
  have abD:((gb.take (k_:Int).toNat)).length=k_:=by rw[ij,dZ];exact anl aq
  refine rg<|ak J mL<|ak J mK<|k<|NG (je.rv 11 J) J J J J aq ei cF ?_
  intro C2 CW Ay
  let En:=iL C2 (gb.drop (k_:Int).toNat) CW
  have j9:=je.put (it:=En) J Ay
  refine au (v:=R C2 (gb.drop (k_:Int).toNat) CW) J J<|z<|aI ?_
  have lj:=j9.put (it:=Hf) J<|j9.rv 6 J
  have kl:=lj.put (it:=En) J<|lj.rv 1 J
  have ng:=kl.put (it:=J2) J<|kl.rv 4 J
  have qZ:=ng.put (it:=J3) J<|ng.rv 6 J
  let adr:=J3::J2::En::Hf::En::T4::J2::J3::Ep::Eo::Hf::ads
  have yI:HI M w ff (adr++r):=qZ
  let adq:=Hf::En::dK::J9::ez::J0::T4::J2::J3::Ep::Eo::bc
  have qa:HI M w ff (adq++r):=HI.aR (l:=adr) (l':=adq) (t:=r) yI [3,2,17,18,19,20,5,1,0,8,9,21,11,22] aw rfl rfl
  refine bB _ ?_ ⟨(gb.drop (k_:Int).toNat),iS,iK,cD,my,C2,CW,a33,lJ,a35,CX,J,kY,J,qa,(by intro e_ h_;exact tZ e_ (anY h_)),(by simp only[amF];omega),bq,bq⟩
  first|(simp only[amF];omega)|omega
 have p0:=dF b0
 refine ex<|aX<|bf<|bg<|DU J ?_
 let Ah:=box cS #[.slice aD aF aC,R ay I ax,R aA U az,R oJ jc oI,.map (some bw),C cD,R jV m_ jT,.map (some bH)] 142
 have dG:=HI.aR (l:=[iL jV m_ jT,iL a28 gb qX,dK,J9,ez,J0,Ah,J2,J3,oL w 175 oJ jc oI,bW bw jd,J6,bR bH mq,J7]) (l':=[Ah,J2,J3,oL w 175 oJ jc oI,bW bw jd,iL jV m_ jT,bR bH mq,J7]) (t:=r) dP [6,7,8,9,10,0,12,13] aw J J
 have e0:(cD:Int)=pn:=by exact Cy
 try rw[←e0]
 refine⟨jc,jd,m_,oJ,oI,jV,jT,?_,?_,aq,(by exact tv)⟩
 · first|rfl|simp only[e0]|(simp only[ami])
 · first|exact dG|simpa +zetaDelta only[e0,ami] using dG
theorem XU:ct aJ 119:=⟨_,_,Tryz.func119,rfl,aM⟩
theorem DX (A3:aK fm) (Du:aK fu) (A2:aK gA) (XF:aK mB) (XE:aK mA) (XD:aK mZ):Calls aJ 119 #[.agg #[C fm,C fu,C gA],.agg #[C mB,C mA,C mZ]] w (cb fun v w'=>v=.bool (decide (fm=mB)&&decide (fu=mA))∧Ext w w'):=by
 refine df 17 Tryz.func119 J J J pk fun f0 ha H=>?_
 have i0:f0 0=.agg #[C fm,C fu,C gA]:=ha 0 bh
 have i1:f0 1=.agg #[C mB,C mA,C mZ]:=ha 1 bh
 refine aB<|k<|bx H J i0 ?_
 intro aY w0 bS (H0:HI (fun _=>False) w w0 [box aY #[C fm,C fu,C gA] 122])
 refine k<|bx H0 J i1 ?_
 intro ba w1 cY (H1:HI (fun _=>False) w w1 [box ba #[C mB,C mA,C mZ] 122,box aY #[C fm,C fu,C gA] 122])
 refine au (v:=.bool false) J J<|bt<|aU kE J J<|bl H1 1 J aW J J J<|aU kE J J<|bl H1 0 J aW J J J<|k<|eql J J J J<|ak (v:=.bool (decide (fm=mB))) J J ?_
 rcases bE (decide (fm=mB)) with b0|b0
 ·
  have p0:=dT b0
  refine aT J J J b0<|fa mI J J<|aT J J J b0<|lx H1 1 J aW J J J<|aT J J J b0<|fa mI J J<|aT J J J b0<|lx H1 0 J aW J J J<|aT J J J b0<|eql J J J J<|k<|aR J J J J b0 J<|au (v:=.bool (decide (fu=mA))) J J<|av<|rt<|r1 J J ?_
  exact⟨amh Value.bool (by simp only[b0,BL]),H1.below⟩
 have p0:=dF b0
 refine aN J J J b0<|aN J J J b0<|aN J J J b0<|aN J J J b0<|aN J J J b0<|k<|cK J J J J b0 J<|au (v:=.bool false) J J<|av<|rt<|r1 J J ?_
 exact⟨amh Value.bool (by simp only[b0,BL]),H1.below⟩
theorem Fx {xs:List (Int×Int×Int)} (H:HI M w w_ ([oL w 122 dO xs dH]++r)):Calls aJ 118 #[R dO xs dH,.func (.func 119) #[] #[]] w_ (cb fun v w'=>∃(Ww:List dU),v=R dO Ww dH∧HI M w w' ([oL w 122 dO Ww dH]++r)∧Ww.length≤xs.length∧∀x∈Ww,x∈xs):=by
 refine enter 66 Tryz.func118 J J J fun f0 ha=>?_
 have Gh:=j1<|H.at_ 0 J
 have i0:f0 0=R dO xs dH:=ha 0 bh
 have i1:f0 1=.func (.func 119) #[] #[]:=ha 1 bh
 refine aB<|au (v:=.slice none 0 0) J J<|av<|sq<|aB<|ak J i0<|k<|dW J J ei<|k<|lss J J J J<|z<|nx ?_
 refine cd (b:=decide ((xs.length:Int)<2)) J J (fun b0=>?_)<|fun b0=>?_
 ·
  have p0:=dT b0
  refine aB<|ak J i0<|au (v:=R dO xs dH) J J<|av<|rt<|aL<|r1 J J ?_
  refine⟨xs,?_,?_,(by exact amk _),(by exact fun _ h_=>h_)⟩
  · first|rfl|simp only[ami]
  · first|exact H|simpa +zetaDelta only[ami] using H
 have p0:=dF b0
 refine sk<|nx<|sq<|aB<|au (v:=C 1) J J<|av<|bk ?_
 refine lp (fun m f w'=>∃(k_:Nat),m=xs.length-k_∧f 0=R dO xs dH∧f 1=.func (.func 119) #[] #[]∧f 5=C (k_:Int)∧HI M w w' ([oL w 122 dO xs dH]++r)∧(1≤k_∧k_≤xs.length)) _ ⟨1,J,i0,i1,(bJ J),H,aq⟩ ?_
 rintro _ f0 w0 ⟨k_,rfl,s0,s1,s2,H0,pt⟩
 refine sq<|aB<|ak J s2<|ak J s0<|k<|dW J J ei<|k<|lss J J J J<|z<|nx ?_
 refine cd (b:=decide ((k_:Int)<(xs.length:Int))) J J (fun b1=>?_)<|fun b1=>?_
 ·
  have p1:=dT b1
  refine sk<|nx<|sq<|bk<|sq ?_
  refine l8 [.r,.r,.r,.r,.r,.r,.r,.r,.r,.r,.r] (fun _=>True) J (by kernel_rfl) (fun _ _=>trivial) ?_
  refine yq J J<|kq (fun _ _=>mv rfl s1 e1)<|zq<|yq J J<|kq (fun _ _=>mv rfl s0 e1)<|zq<|yq J J<|kq (fun _ _=>mv rfl s2 e1)<|zq<|yq J J<|sK (H0.at_ 0 J) J J J J aq ei cF ?_
  intro iw x0 aQ cu
  refine zq<|yq J J<|xO cu cF J J ?_
  intro v0 cm
  obtain⟨_,⟨_,_,rfl,⟨rfl,dM⟩,⟨_,_,rfl,⟨rfl,dV⟩,⟨rfl,fq⟩⟩⟩,rfl⟩:=cm
  refine zq<|yq J J<|kq (fun _ _=>mv rfl s0 e1)<|zq<|yq J J<|kq (fun _ _=>mv rfl s2 e1)<|zq<|yq J J<|kq (fun _ _=>sub rfl rfl rfl rfl aV e1)<|zq<|yq J J<|sK (H0.at_ 0 J) J J J J aq ei cF ?_
  intro rD x1 cP gK
  refine zq<|yq J J<|xO gK cF J J ?_
  intro v1 iU
  obtain⟨_,⟨_,_,rfl,⟨rfl,jO⟩,⟨_,_,rfl,⟨rfl,iT⟩,⟨rfl,kZ⟩⟩⟩,rfl⟩:=iU
  refine zq<|yq J J ?_
  refine kq (v:=.bool (decide (x0.1=x1.1)&&decide (x0.2.1=x1.2.1))) (fun v_ _=>have cc:=DX (fm:=x0.1) (fu:=x0.2.1) (gA:=x0.2.2) (mB:=x1.1) (mA:=x1.2.1) (mZ:=x1.2.2) (w:=v_) dM dV fq jO iT kZ;cf XU rfl rfl rfl (ec J<|ec J e0) cc fun _ _ h_=>e2 h_) ?_
  refine zq<|yz ?_
  intro w1 f1 _ bS _ _ cz iC
  have H1:=H0.ext bS
  have s3:=(cz 0 J).trans s0
  have s4:=(cz 1 J).trans s1
  have s5:=(cz 5 J).trans s2
  have s6:=cz 28 J
  refine kz<|nx ?_
  refine cd (b:=(decide (x0.1=x1.1)&&decide (x0.2.1=x1.2.1))) J s6 (fun b2=>?_)<|fun b2=>?_
  ·
   refine aB<|ak J s3<|ak J s5<|k<|Ul (H1.at_ 0 J) J J J J aq ei cF<|au (v:=.slice (pb dO dH (k_:Int).toNat) (xs.length-(k_:Int).toNat) (dH-(k_:Int).toNat)) J J<|av<|sq<|aB<|au (v:=C 1) J J<|av<|bk ?_
   refine lp (fun m f w'=>∃(tp:Nat) (q_:Nat) (qS:List dU),m=xs.length-k_-tp∧f 0=R dO xs dH∧f 1=.func (.func 119) #[] #[]∧f 5=C (q_:Int)∧f 6=.slice (pb dO dH (k_:Int).toNat) (xs.length-(k_:Int).toNat) (dH-(k_:Int).toNat)∧f 7=C (tp:Int)∧HI M w w' ([own w.heap.size 122 (.slice dO xs.length dH) qS]++r)∧(qS.length=xs.length∧∀x∈qS,x∈xs)∧(k_≤q_∧q_<k_+tp∧k_+tp≤xs.length)) _ ⟨1,k_,xs,J,s3,s4,(bJ s5),J,(bJ J),H1,(by exact⟨J,fun _ h_=>h_⟩),aq⟩ ?_
   rintro _ f2 w2 ⟨tp,q_,qS,rfl,s7,s8,s9,ej,eY,H2,hs,sf⟩
   refine sq<|aB<|ak J eY<|ak J ej<|k<|dW J J ei<|k<|lss J J J J<|z<|nx ?_
   refine cd (b:=decide ((tp:Int)<((xs.length-(k_:Int).toNat:Nat):Int))) J J (fun b3=>?_)<|fun b3=>?_
   ·
    have p3:=dT b3
    refine sk<|nx<|sq<|bk<|sq ?_
    refine l8 [.r,.r,.r,.r,.r,.r,.r,.r,.r,.r,.r,.r] (fun _=>True) J (by kernel_rfl) (fun _ _=>trivial) ?_
    refine yq J J<|kq (fun _ _=>mv rfl s8 e1)<|zq<|yq J J<|kq (fun _ _=>mv rfl ej e1)<|zq<|yq J J<|kq (fun _ _=>mv rfl eY e1)<|zq<|yq J J<|Ry (H2.at_ 0 J) J J J J aq ei cF ?_
    intro pZ x2 iW la
    refine zq<|yq J J<|xO la cF J J ?_
    intro v2 oe
    obtain⟨_,⟨_,_,rfl,⟨rfl,ph⟩,⟨_,_,rfl,⟨rfl,rb⟩,⟨rfl,og⟩⟩⟩,rfl⟩:=oe
    refine zq<|yq J J<|kq (fun _ _=>mv rfl ej e1)<|zq<|yq J J<|kq (fun _ _=>mv rfl eY e1)<|zq<|yq J J<|kq (fun _ _=>sub rfl rfl rfl rfl aV e1)<|zq<|yq J J<|Ry (H2.at_ 0 J) J J J J aq ei cF ?_
    intro vK x3 qo xh
    refine zq<|yq J J<|xO xh cF J J ?_
    intro v3 nw
    obtain⟨_,⟨_,_,rfl,⟨rfl,qh⟩,⟨_,_,rfl,⟨rfl,qg⟩,⟨rfl,pM⟩⟩⟩,rfl⟩:=nw
    refine zq<|yq J J ?_
    refine kq (v:=.bool (decide (x2.1=x3.1)&&decide (x2.2.1=x3.2.1))) (fun v_ _=>have cc:=DX (fm:=x2.1) (fu:=x2.2.1) (gA:=x2.2.2) (mB:=x3.1) (mA:=x3.2.1) (mZ:=x3.2.2) (w:=v_) ph rb og qh qg pM;cf XU rfl rfl rfl (ec J<|ec J e0) cc fun _ _ h_=>e2 h_) ?_
    refine zq<|yq J J<|kq (fun _ _=>jE rfl rfl e1)<|zq<|yz ?_
    intro w3 f3 _ cY _ _ fD zL
    have H3:=H2.ext cY
    have fK:=(fD 0 J).trans s7
    have fJ:=(fD 1 J).trans s8
    have gx:=(fD 5 J).trans s9
    have gP:=(fD 6 J).trans ej
    have kr:=(fD 7 J).trans eY
    have kY:=fD 49 J
    refine kz<|nx ?_
    refine cd (b:=!(decide (x2.1=x3.1)&&decide (x2.2.1=x3.2.1))) J kY (fun b4=>?_)<|fun b4=>?_
    ·
     refine aB<|ak J fK<|ak J gx<|ak J gP<|ak J kr<|k<|ag6 (H3.at_ 0 J) J J J J aq ei cF ?_
     intro u3 x4 zK yo
     refine k<|nj yo cF J J ?_
     intro v4 Az
     obtain⟨_,⟨_,_,rfl,⟨rfl,EM⟩,⟨_,_,rfl,⟨rfl,Pg⟩,⟨rfl,aaw⟩⟩⟩,rfl⟩:=Az
     refine k<|ic (H3.at_ 0 J) J J J J aq ei cF ?_
     intro g0 x5 im Sd Oq
     refine k<|pR H3 0 J im J aq cF J J J J ⟨_,⟨_,_,J,⟨J,(show aK (x4.1) from bq)⟩,⟨_,_,J,⟨J,(show aK (x4.2.1) from bq)⟩,⟨J,(show aK (x4.2.2) from bq)⟩⟩⟩,J⟩ ?_
     intro w4 (H4:HI M w w4 ([own w.heap.size 122 (.slice dO xs.length dH) (qS.set ((q_:Int).toNat) (x4.1,x4.2.1,x4.2.2))]++r))
     refine av<|rg<|ak J gx<|k<|add J J J J aV<|au (v:=C ((q_:Int)+1)) J J<|z<|aI<|nx<|rg<|ak J kr<|k<|add J J J J aV<|au (v:=C ((tp:Int)+1)) J J<|z ?_
     refine bB _ ?_ ⟨(tp+1),(q_+1),(qS.set ((q_:Int).toNat) (x4.1,x4.2.1,x4.2.2)),J,fK,fJ,(bJ J),gP,(bJ J),H4,(by exact ZE hs zK),aq⟩
     omega
    refine sk<|aI<|nx<|rg<|ak J kr<|k<|add J J J J aV<|au (v:=C ((tp:Int)+1)) J J<|z ?_
    refine bB _ ?_ ⟨(tp+1),q_,qS,J,fK,fJ,(bJ gx),gP,(bJ J),H3,(by exact hs),aq⟩
    omega
   have p3:=dF b3
   refine ex<|aX<|bf<|bg<|cI<|ak J s7<|ak J s9<|k<|Ul (H2.at_ 0 J) J J J J aq ei cF<|k<|clE H2 0 J J J (q:=(q_:Int).toNat) J ei cF (by have h_:=hs.1;omega) ?_
   intro w3 (H3:HI M w w3 ([own w.heap.size 122 (.slice dO xs.length dH) (qS.take ((q_:Int).toNat)++List.replicate (qS.length-((q_:Int).toNat)) (0,0,0))]++r))
   refine bt<|ak J s7<|ak J s9<|k<|Rg H3 0 J J J J J (by have h_:=hs.1;first|omega|(simp only[gf,ij,nX];omega)) ei cF ?_
   intro (H4:HI M w w3 ([oL w 122 dO ((qS.take ((q_:Int).toNat)++List.replicate (qS.length-((q_:Int).toNat)) (0,0,0)).take (q_:Int).toNat) dH]++r))
   refine au (v:=R dO ((qS.take ((q_:Int).toNat)++List.replicate (qS.length-((q_:Int).toNat)) (0,0,0)).take (q_:Int).toNat) dH) J J<|av<|rt<|bQ<|aL<|dQ<|bQ<|aL<|r1 J J ?_
   refine⟨((qS.take ((q_:Int).toNat)++List.replicate (qS.length-((q_:Int).toNat)) (0,0,0)).take (q_:Int).toNat),?_,?_,(by have h_:=hs.1;exact ZG h_ aq),(by have h_:=hs.1;exact ZF hs.2 aq)⟩
   · first|rfl|simp only[ami]
   · first|exact H4|simpa +zetaDelta only[ami] using H4
  refine sk<|aI<|nx<|rg<|ak J s5<|k<|add J J J J aV<|au (v:=C ((k_:Int)+1)) J J<|z ?_
  refine bB _ ?_ ⟨(k_+1),J,s3,s4,(bJ J),H1,aq⟩
  omega
 have p1:=dF b1
 refine ex<|aX<|bf<|bg<|cI<|ak J s0<|au (v:=R dO xs dH) J J<|av<|rt<|r1 J J ?_
 refine⟨xs,?_,?_,(by exact amk _),(by exact fun _ h_=>h_)⟩
 · first|rfl|simp only[ami]
 · first|exact H0|simpa +zetaDelta only[ami] using H0
theorem aeY:ct aJ 118:=⟨_,_,Tryz.func118,rfl,aM⟩
theorem Zs:gM aJ 175 0 0:=⟨_,_,Tryz.underlying175,rfl,rfl,aM⟩
theorem F6 (qz:aK pn) (hT:fQ 0 w) (ho:gL I) (dp:I.length≤64) (eo:U.length=I.length) (fE:∀x∈U,x<((I.length:Nat):Int)) (IX:pn=((I.length:Nat):Int)) (tN:bF pn pr=true) (HF:sp.length≤1000000000000) (H:HI M w w_ ([box cS #[.slice aD aF aC,R ay I ax,R aA U az,R eu sp ep,.map (some bw),C pn,R cX pr cW,.map (some bH)] 142,iL ay I ax,iL aA U az,oL w 175 eu sp ep,bW bw mp,iL cX pr cW,bR bH mq]++r)):Calls aJ 80 #[pV cS 0] w_ (cb fun v w'=>∃(sG:List cH) (Gf:KV) (B7:List (List bX)) (nR:OA) (nQ:Nat) (yE:OA) (yA:Nat),v=.tuple #[]∧HI M w w' ([box cS #[.slice aD aF aC,R ay I ax,R aA U az,R nR sG nQ,.map (some bw),C pn,R yE B7 yA,.map (some bH)] 142,iL ay I ax,iL aA U az,oL w 175 nR sG nQ,bW bw Gf,iL yE B7 yA,bR bH mq]++r)∧sG.length≤sp.length+53000000∧bF pn B7=true):=by
 refine enter 77 Tryz.func80 J J J fun f0 ha=>?_
 have fM:=aP<|H.rv 1 J
 have iA:=aP<|H.rv 2 J
 have Dp:=j1<|H.at_ 3 J
 have Dq:=aP<|H.rv 5 J
 have i0:f0 0=pV cS 0:=ha 0 bh
 have EO:=oG tN
 have P8:=(qE (I:=I) (U:=U) EO).1
 have tZ:=Te (I:=I) (U:=U) IX EO eo fE
 refine sq ?_
 refine l8 [.r,.r,.r,.r,.r,.r,.r,.r,.r,.r,.r] (fun _=>True) J (by kernel_rfl) (fun _ _=>trivial) ?_
 refine yq J J<|kq (fun _ _=>mv rfl i0 e1)<|zq<|yq J J<|kq (fun _ _=>nc rfl rfl e1)<|zq<|yq J J<|kq (fun _ _=>fa HO rfl rfl e1)<|zq<|yq J J<|kq (fun _ x_=>cq (H.ext x_) 0 rfl dx rfl rfl aw rfl e1)<|zq<|yq J J<|kq (fun _ _=>mv rfl i0 e1)<|zq<|yq J J<|kq (fun _ _=>nc rfl rfl e1)<|zq<|yq J J<|kq (fun _ _=>fa qQ rfl rfl e1)<|zq<|yq J J<|kq (fun _ x_=>cq (H.ext x_) 0 rfl bm rfl rfl aw rfl e1)<|zq ?_
 refine yu J (fun _ v w'=>∃(a0:OA) (c0:Nat),v=.agg #[C pn,R a0 (fb pn pr) c0]∧RV H.fW w' (R a0 (fb pn pr) c0) (fb pn pr)) J jd J (fun v_ _ x_ _=>have cV:=vW (mn:=pn) (mr:=pr) (w:=v_) (H.ext x_).mb qz ((H.ext x_).rv 5 rfl) (by exact tN);ca Qe rfl (ec J e0) cV (fun _ w1 ⟨a1,c1,e_,cY,dV⟩=>⟨_,J,cY,⟨a1,c1,e_,(bj.rv dV (H.ext x_).mb)⟩⟩)) ?_
 refine lq J (fun _ v w'=>∃(a3:OA) (c3:Nat),v=R a3 (cE I U pn<|fb pn pr) c3∧bj H.fW 122 w_ (cE I U pn<|fb pn pr) (.slice a3 (cE I U pn<|fb pn pr).length c3) w') 0 J J (mN<|by rintro _ _ _ x_ ⟨a3,c3,e_,iT⟩;exact⟨a3,c3,e_,iT.Lo x_⟩) J (fun v_ _ _ x_ _ h_=>let ⟨a4,c4,s0,kZ⟩:=h_;have H9:=(H.ext x_).put (it:=iL a4 (fb pn pr) c4) rfl kZ;have eU:=uj (I:=I) (U:=U) (mn:=pn) (mr:=(fb pn pr)) (aD:=aD) (aF:=aF) (aC:=aC) H9.mb (hT.ext H9.below) (H9.rv 2 J) (H9.rv 3 J) bq (H9.rv 0 J) aq (by exact eo) (by exact fE) (by exact EO);ca Qc rfl (ec J<|ec s0 e0) eU (fun _ w3 ⟨a5,c5,e_,fB,oe⟩=>⟨_,J,fB,⟨a5,c5,e_,(bj.anyM<|bj.base oe x_)⟩⟩)) ?_
 refine lq J (fun _ v w'=>∃(a6:OA) (c6:Nat),v=R a6 (cE I U pn<|fb pn pr) c6∧bj H.fW 122 w_ (cE I U pn<|fb pn pr) (.slice a6 (cE I U pn<|fb pn pr).length c6) w') 0 J J (mN<|by rintro _ _ _ x_ ⟨a6,c6,e_,rb⟩;exact⟨a6,c6,e_,rb.Lo x_⟩) J (fun _ _ _ _ _ h_=>let ⟨a7,c7,s1,og⟩:=h_;jB rfl s1 ⟨_,J,Ext.refl _,⟨a7,c7,J,og⟩⟩) ?_
 refine yz ?_
 intro w4 f0 _ iN _ _ cz iC
 obtain⟨a8,c8,s2,nw⟩:=iC 0 _ _ rfl
 have dw:=H.eI<|bj.anyM nw
 have s3:=(cz 0 J).trans i0
 refine kz<|cI<|ak J s2<|k ?_
 let J0:=oL w 122 a8 (cE I U pn (fb pn pr)) c8
 let J1:=box cS #[.slice aD aF aC,R ay I ax,R aA U az,R eu sp ep,.map (some bw),C pn,R cX pr cW,.map (some bH)] 142
 let J2:=iL ay I ax
 let J3:=iL aA U az
 let J4:=oL w 175 eu sp ep
 let J5:=iL cX pr cW
 let bc:=[J5,bR bH mq]
 let bY:=J0::J1::J2::J3::J4::bW bw mp::bc
 have cJ:HI M w w4 ([J0]++([J1,J2,J3,J4,bW bw mp,J5,bR bH mq]++r)):=HI.aR (l:=(J0::J1::J2::J3::J4::bW bw mp::bc)) (l':=bY) (t:=r) dw [0,1,2,3,4,5,6,7] aw rfl rfl
 have kR:=Fx (dO:=a8) (dH:=c8) (xs:=(cE I U pn<|fb pn pr)) (w:=w) (w_:=w4) (r:=([J1,J2,J3,J4,bW bw mp,J5,bR bH mq]++r)) (M:=M) cJ
 refine ca aeY J (ec J<|ec J e0) kR ?_
 rintro _ w5 ⟨o0,rfl,dS,q0,q1⟩
 let J6:=oL w 122 a8 o0 c8
 refine au (v:=R a8 o0 c8) J J<|av<|sq<|aB<|ak (v:=R a8 o0 c8) J J<|k<|dW J J ei<|ak (v:=C 0) J J<|av<|bk ?_
 refine lp (fun m f w'=>∃(j_:Nat) (jc:List cH) (jd:KV) (a9:OA) (c9:Nat),m=o0.length-j_∧f 0=pV cS 0∧f 2=R a8 o0 c8∧f 20=R a8 o0 c8∧f 21=C (o0.length:Int)∧f 22=C (j_:Int)∧HI M w w' ((J6::box cS #[.slice aD aF aC,R ay I ax,R aA U az,R a9 jc c9,.map (some bw),C pn,R cX pr cW,.map (some bH)] 142::J2::J3::oL w 175 a9 jc c9::bW bw jd::bc)++r)∧(j_≤o0.length)∧(jc.length≤sp.length+201*j_)) _ ⟨0,sp,mp,eu,ep,J,s3,J,J,J,(bJ J),dS,aq,aq⟩ ?_
 rintro _ f1 w6 ⟨j_,jc,jd,a9,c9,rfl,s4,s5,s6,s7,s8,cO,pt,HG⟩
 refine aB<|k<|lss J J s8 s7<|av<|sq ?_
 refine cd (b:=decide ((j_:Int)<(o0.length:Int))) J J (fun b0=>?_)<|fun b0=>?_
 ·
  have p0:=dT b0
  refine sk<|nx<|sq<|bk<|aB<|k<|ic (cO.at_ 0 J) J J s6 s8 aq ei cF ?_
  intro g0 x0 im aQ cu
  refine k<|nj cu cF J J ?_
  intro v0 qh
  obtain⟨_,⟨_,_,rfl,⟨rfl,qg⟩,⟨_,_,rfl,⟨rfl,pM⟩,⟨rfl,Az⟩⟩⟩,rfl⟩:=qh
  refine k<|al cO cF ?_
  let J7:=box cS #[.slice aD aF aC,R ay I ax,R aA U az,R a9 jc c9,.map (some bw),C pn,R cX pr cW,.map (some bH)] 142
  let J8:=oL w 175 a9 jc c9
  let dE:=J7::J2::J3::J8::bW bw jd::bc
  intro aY w7 jb (dP:HI M w w7 ((box aY #[C 0,C 0,C 0] 122::J6::dE)++r))
  refine k<|bp dP 0 J cF J J J J J J J ?_
  let J9:=box aY #[C x0.1,C x0.2.1,C x0.2.2] 122
  intro w8 (dG:HI M w w8 ((J9::J6::dE)++r))
  refine bt<|ak J s4<|aU kE J J<|bl dG 0 J aW J J J<|aU sl J J<|bl dG 0 J aW J J J<|k ?_
  let iH:=[J5,bR bH mq,J9,J6]
  have cC:HI M w w8 (dE++([J9,J6]++r)):=HI.aR (l:=(J9::J6::dE)) (l':=(J7::J2::J3::J8::bW bw jd::iH)) (t:=r) dG [2,3,4,5,6,7,8,0,1] aw rfl rfl
  have lI:=mw (cS:=cS) (aD:=aD) (aF:=aF) (aC:=aC) (ay:=ay) (ax:=ax) (I:=I) (aA:=aA) (az:=az) (U:=U) (eu:=a9) (ep:=c9) (sp:=jc) (bw:=bw) (mp:=jd) (pn:=pn) (cX:=cX) (cW:=cW) (pr:=pr) (bH:=bH) (mq:=mq) (f_:=x0.1) (t_:=x0.2.2) (w:=w) (w_:=w8) (r:=([J9,J6]++r)) (M:=M) qz qg Az hT aq aq (by exact eo) aq (by exact tN) cC
  refine ca yX J (ec J<|ec J<|ec J e0) lI ?_
  rintro _ w9 ⟨o1,o2,o3,iZ,iY,rfl,dR,q2,q3⟩
  let dK:=box cS #[.slice aD aF aC,R ay I ax,R aA U az,R iZ o2 iY,.map (some bw),C pn,R cX pr cW,.map (some bH)] 142
  let ez:=bW bw o3
  let eW:=dK::J2::J3::oL w 175 iZ o2 iY::ez::iH
  have dB:HI M w w9 (eW++r):=dR
  refine au (v:=C o1) J J<|z<|nx ?_
  refine l8 [.s,.r,.r,.r,.r,.r,.r,.r,.r,.r,.r,.r,.r,.r,.e,.f,.f,.e] (fun _=>True) J (by kernel_rfl) (fun _ _=>trivial) ?_
  refine yq J J<|kq (fun _ _=>mv rfl s4 e1)<|zq<|yq J J<|kq (fun _ _=>mv rfl s4 e1)<|zq<|yq J J<|kq (fun _ _=>nc rfl rfl e1)<|zq<|yq J J<|kq (fun _ _=>fa lR rfl rfl e1)<|zq<|yq J J<|kq (fun _ x_=>lx (dB.ext x_) 0 rfl nu rfl rfl rfl e1)<|zq<|yq J J<|kq (fun _ _=>fa kE rfl rfl e1)<|zq<|yq J J<|kq (fun _ x_=>lx (dB.ext x_) 7 rfl aW rfl rfl rfl e1)<|zq<|yq J J<|kq (fun _ _=>fa mI rfl rfl e1)<|zq<|yq J J<|kq (fun _ x_=>lx (dB.ext x_) 7 rfl aW rfl rfl rfl e1)<|zq<|yq J J<|kq (fun _ _=>mv (v:=C o1) rfl rfl e1)<|zq<|yq J J<|kq (fun _ _=>fa sl rfl rfl e1)<|zq<|yq J J<|kq (fun _ x_=>lx (dB.ext x_) 7 rfl aW rfl rfl rfl e1)<|zq<|yq J J<|kq (fun _ _=>bd (v:=.agg #[C 4,C x0.1,C x0.2.1,C o1,C x0.2.2]) rfl (cj J<|cj J<|cj J<|cj J<|cj J ey) (fun _=>aM) e1)<|zq ?_
  refine yu J (fun _ v w'=>∃(mF:OA) (mD:Nat),v=R mF ([(4,x0.1,x0.2.1,o1,x0.2.2)]:List cH) mD∧RV dB.fW w' (R mF ([(4,x0.1,x0.2.1,o1,x0.2.2)]:List cH) mD) ([(4,x0.1,x0.2.1,o1,x0.2.2)]:List cH)) J Go.Proofs.YtgjakhpjmapelaaGreatDoor.jd J (fun v_ N_ x_ n_=>?_) ?_
  ·
   have gI:=dB.ext x_
   refine bs (xs:=([(4,x0.1,x0.2.1,o1,x0.2.2)]:List cH)) (cells:=#[C 4,C x0.1,C x0.2.1,C o1,C x0.2.2]) (e:=175) gI J (cj J ey) (fun _=>aM) ⟨[C 4,C x0.1,C x0.2.1,C o1,C x0.2.2],[],J,⟨_,_,J,⟨J,(show aK (4) from aV)⟩,⟨_,_,J,⟨J,(show aK (x0.1) from bq)⟩,⟨_,_,J,⟨J,(show aK (x0.2.1) from bq)⟩,⟨_,_,J,⟨J,(show aK (o1) from bq)⟩,⟨J,(show aK (x0.2.2) from bq)⟩⟩⟩⟩⟩,J⟩ J aw ?_
   intro g2 eb l4 (iD:HI M w eb ((own w.heap.size 175 (.slice (some ⟨g2,0,none⟩) 1 1) ([(4,x0.1,x0.2.1,o1,x0.2.2)]:List cH)::eW)++r))
   have ga:=iD.freeze 0 J
   exact⟨_,J,l4,⟨(some ⟨g2,0,none⟩),1,J,(mG J<|ga.rv 0 J)⟩⟩
  refine ye<|yf J (fun _ _=>nc rfl rfl e3)<|yf J (fun _ _=>fa lR rfl rfl e3)<|ye<|yz ?_
  intro ff f2 _ lM _ _ fD zL
  have lL:=dB.ext lM
  have s9:=(fD 0 J).trans s4
  have ej:=(fD 2 J).trans s5
  have eY:=(fD 20 J).trans s6
  have fK:=(fD 21 J).trans s7
  have fJ:=(fD 22 J).trans s8
  have gx:=fD 36 J
  obtain⟨a12,oQ,gP,Pg⟩:=zL 0 _ _ rfl
  let fR:=iL a12 ([(4,x0.1,x0.2.1,o1,x0.2.2)]:List cH) oQ
  have il:=lL.put (it:=fR) J Pg
  have kr:=fD 48 J
  refine jZ<|l9 il 4 J J J J gx gP (il.rv 0 J).src Km Ao J (by simp only[iB,gm];omega) J ?_
  intro jK jJ hQ (je:HI M w hQ ((fR::dK::J2::J3::oL w 175 jK (o2++([(4,x0.1,x0.2.1,o1,x0.2.2)]:List cH)) jJ::ez::iH)++r))
  let fw:=oL w 175 jK (o2++([(4,x0.1,x0.2.1,o1,x0.2.2)]:List cH)) jJ
  refine jZ<|bp je 1 J nu J J kr J J J J ?_
  let hG:=box cS #[.slice aD aF aC,R ay I ax,R aA U az,R jK (o2++([(4,x0.1,x0.2.1,o1,x0.2.2)]:List cH)) jJ,.map (some bw),C pn,R cX pr cW,.map (some bH)] 142
  let lg:=fR::hG::J2::J3::fw::ez::iH
  intro iO (nZ:HI M w iO (lg++r))
  refine kz<|aI<|nx<|rg<|k<|add J J fJ J aV<|ak (v:=C ((j_:Int)+1)) J J<|z ?_
  have j9:=nZ.put (it:=J2) J<|nZ.rv 2 J
  have lj:=j9.put (it:=J3) J<|j9.rv 4 J
  have kl:=lj.put (it:=J5) J<|lj.rv 8 J
  have xH:HI M w iO ((J5::J3::J2::lg)++r):=kl
  have ng:HI M w iO ((J6::hG::J2::J3::fw::ez::bc)++r):=HI.aR (l:=(J5::J3::J2::lg)) (l':=(J6::hG::J2::J3::fw::ez::bc)) (t:=r) xH [12,4,2,1,7,8,0,10] aw rfl rfl
  refine bB _ ?_ ⟨(j_+1),(o2++([(4,x0.1,x0.2.1,o1,x0.2.2)]:List cH)),o3,jK,jJ,J,s9,ej,eY,fK,(bJ J),ng,aq,(by simp only[gf,iB,gm];omega)⟩
  omega
 have p0:=dF b0
 refine ex<|aX<|bf<|bg<|nx<|sq<|aB<|ak J s4<|k<|nc J J<|aU lR J J<|bl cO 1 J nu J J J<|k<|dW J J Km<|ak (v:=C 0) J J<|av<|bk ?_
 let nt:=box cS #[.slice aD aF aC,R ay I ax,R aA U az,R a9 jc c9,.map (some bw),C pn,R cX pr cW,.map (some bH)] 142
 let lh:=oL w 175 a9 jc c9
 refine lp (fun m f w'=>∃(j_:Nat) (iK:KV),m=jc.length-j_∧f 0=pV cS 0∧f 2=R a8 o0 c8∧f 53=R a9 jc c9∧f 54=C (jc.length:Int)∧f 55=C (j_:Int)∧HI M w w' ((J6::nt::J2::J3::lh::bW bw iK::bc)++r)∧(j_≤jc.length)) _ ⟨0,jd,J,s4,s5,J,J,(bJ J),cO,aq⟩ ?_
 rintro _ f2 w7 ⟨j_,iK,rfl,s9,ej,eY,fK,fJ,dP,pt⟩
 refine aB<|k<|lss J J fJ fK<|av<|sq ?_
 refine cd (b:=decide ((j_:Int)<(jc.length:Int))) J J (fun b1=>?_)<|fun b1=>?_
 ·
  have p1:=dT b1
  refine sk<|nx<|sq<|bk<|aB<|ak J fJ<|k<|ic (dP.at_ 4 J) J J eY fJ aq Km Ao ?_
  intro g0 x0 im aQ cu
  refine k<|nj cu Ao J J ?_
  intro v0 qh
  obtain⟨_,⟨_,_,rfl,⟨rfl,qg⟩,⟨_,_,rfl,⟨rfl,pM⟩,⟨_,_,rfl,⟨rfl,Az⟩,⟨_,_,rfl,⟨rfl,EM⟩,⟨rfl,Pg⟩⟩⟩⟩⟩,rfl⟩:=qh
  refine k<|al dP Ao ?_
  let tF:=J6::nt::J2::J3::lh::bW bw iK::bc
  intro aY w8 jb (dG:HI M w w8 ((box aY #[C 0,C 0,C 0,C 0,C 0] 175::tF)++r))
  refine au (v:=C (j_:Int)) J J<|k<|bp dG 0 J Ao J J J J J J J ?_
  let qY:=box aY #[C x0.1,C x0.2.1,C x0.2.2.1,C x0.2.2.2.1,C x0.2.2.2.2] 175
  intro w9 (cC:HI M w w9 ((qY::tF)++r))
  refine bt<|aU Zs J J<|bl cC 0 J aW J J J<|k<|eql J J J J<|z<|nx ?_
  refine cd (b:=decide (x0.1=4)) J J (fun b2=>?_)<|fun b2=>?_
  ·
   have p2:=dT b2
   refine l8 [.r,.r,.r,.r,.r,.r,.r,.r,.r,.r,.e] (fun _=>True) J (by kernel_rfl) (fun _ _=>trivial) ?_
   refine yq J J<|kq (fun _ _=>mv rfl s9 e1)<|zq<|yq J J<|kq (fun _ _=>nc rfl rfl e1)<|zq<|yq J J<|kq (fun _ _=>fa Dy rfl rfl e1)<|zq<|yq J J<|kq (fun _ x_=>lx (cC.ext x_) 2 rfl JE rfl rfl rfl e1)<|zq<|yq J J<|kq (fun _ _=>fa Ow rfl rfl e1)<|zq<|yq J J<|kq (fun _ x_=>lx (cC.ext x_) 0 rfl aW rfl rfl rfl e1)<|zq<|yq J J<|kq (fun _ _=>fa Ov rfl rfl e1)<|zq<|yq J J<|kq (fun _ x_=>lx (cC.ext x_) 0 rfl aW rfl rfl rfl e1)<|zq<|yq J J<|kq (fun _ _=>bd (v:=.agg #[C x0.2.1,C x0.2.2.1]) rfl (cj J<|cj J ey) (fun _=>aM) e1)<|zq<|yq J J<|kq (fun _ _=>mv (v:=C (j_:Int)) rfl rfl e1)<|zq<|ye<|yz ?_
   intro dD f3 _ kf _ _ fD zL
   have dR:=cC.ext kf
   have gx:=(fD 0 J).trans s9
   have gP:=(fD 2 J).trans ej
   have kr:=(fD 53 J).trans eY
   have kY:=(fD 54 J).trans fK
   have mL:=(fD 55 J).trans fJ
   have mK:=fD 66 J
   have nG:=fD 71 J
   have pg:=fD 72 J
   refine jZ<|WZ (k:=(x0.2.1,x0.2.2.1)) JJ dR 6 J J J J mK nG pg aV ?_
   let jm:=bW bw (jg iK (x0.2.1,x0.2.2.1) (j_:Int))
   let C3:=J6::nt::J2::J3::lh::jm::bc
   intro eb (dB:HI M w eb ((qY::C3)++r))
   refine kz<|aI<|nx<|rg<|k<|add J J mL J aV<|ak (v:=C ((j_:Int)+1)) J J<|z ?_
   have eO:HI M w eb (C3++r):=HI.aR (l:=(qY::C3)) (l':=C3) (t:=r) dB [1,2,3,4,5,6,7,8] aw rfl rfl
   refine bB _ ?_ ⟨(j_+1),(jg iK (x0.2.1,x0.2.2.1) (j_:Int)),J,gx,gP,kr,kY,(bJ J),eO,aq⟩
   omega
  have p2:=dF b2
  refine sk<|aI<|nx<|rg<|k<|add J J fJ J aV<|ak (v:=C ((j_:Int)+1)) J J<|z ?_
  have dR:HI M w w9 (tF++r):=HI.aR (l:=(qY::tF)) (l':=tF) (t:=r) cC [1,2,3,4,5,6,7,8] aw rfl rfl
  refine bB _ ?_ ⟨(j_+1),iK,J,s9,ej,eY,fK,(bJ J),dR,aq⟩
  omega
 have p1:=dF b1
 refine ex<|aX<|bf<|bg<|nx<|rg<|ak J s9<|ak J ej<|k ?_
 have dG:=dP.freeze 0 J
 let ns:=bW bw iK
 let Hb:=iL a8 o0 c8::nt::J2::J3::lh::ns::bc
 have cC:HI M w w7 (Hb++r):=dG
 let El:=[bR bH mq,iL a8 o0 c8]
 have dR:HI M w w7 ((nt::J2::J3::lh::ns::J5::El)++([]++r)):=HI.aR (l:=Hb) (l':=(nt::J2::J3::lh::ns::J5::El)) (t:=r) cC [1,2,3,4,5,6,7,0] aw rfl rfl
 have lI:=xR (cS:=cS) (aD:=aD) (aF:=aF) (aC:=aC) (ay:=ay) (ax:=ax) (I:=I) (aA:=aA) (az:=az) (U:=U) (eu:=a9) (ep:=c9) (sp:=jc) (bw:=bw) (mp:=iK) (pn:=pn) (cX:=cX) (cW:=cW) (pr:=pr) (bH:=bH) (mq:=mq) (ze:=a8) (y_:=c8) (es:=o0) (w:=w) (w_:=w7) (r:=([]++r)) (M:=M) qz (by exact tN) (by intro x_ h_;rw[IX];exact tZ x_ (q1 x_ h_)) dR
 refine ca JP J (ec J<|ec J e0) lI ?_
 rintro _ w8 ⟨o1,iZ,iY,rfl,dB,q2⟩
 let oS:=box cS #[.slice aD aF aC,R ay I ax,R aA U az,R a9 jc c9,.map (some bw),C pn,R iZ o1 iY,.map (some bH)] 142
 let MF:=oS::J2::J3::lh::ns::iL iZ o1 iY::El
 have eO:HI M w w8 (MF++r):=dB
 refine z<|DU J ?_
 have fc:=HI.aR (l:=MF) (l':=[oS,J2,J3,lh,ns,iL iZ o1 iY,bR bH mq]) (t:=r) eO [0,1,2,3,4,5,6] aw J J
 refine⟨jc,iK,o1,a9,c9,iZ,iY,?_,?_,aq,bq⟩
 · first|rfl|simp only[ami]
 · first|exact fc|simpa +zetaDelta only[ami] using fc
theorem CL:gM aJ 80 2 5:=⟨_,_,Tryz.underlying80,rfl,rfl,aM⟩
theorem Kp:eh aJ 78 1 false 24 (.slice none 0 0):=⟨aM,aM⟩
theorem Hl:aJ.underlying 78=some (.slice 26):=aM
theorem rA:gM aJ 80 0 0:=⟨_,_,Tryz.underlying80,rfl,rfl,aM⟩
theorem xm:gM aJ 80 1 3:=⟨_,_,Tryz.underlying80,rfl,rfl,aM⟩
theorem OT (kb:aK cn) (hT:fQ 0 w) (ho:gL I) (dp:I.length≤64) (eo:U.length=I.length) (fE:∀x∈U,x<((I.length:Nat):Int)) (nY:cn=((I.length:Nat):Int)) (pw:cr=cp I U) (hsw:iy=none∧sw=[]∨sw=eK I U) (H:HI M w w_ ([box eB #[.slice aD aF aC,R ay I ax,R aA U az,C cn,R dm cr dh,R iy sw jw] 80,iL ay I ax,iL aA U az,iL dm cr dh,oL w 26 iy sw jw]++r)):Calls aJ 67 #[pV eB 0] w_ (cb fun v w'=>∃(v7:OA) (vZ:Nat),v=.slice v7 (eK I U).length vZ∧HI M w w' ([box eB #[.slice aD aF aC,R ay I ax,R aA U az,C cn,R dm cr dh,.slice v7 (eK I U).length vZ] 80,iL ay I ax,iL aA U az,iL dm cr dh,oL w 26 v7 (eK I U) vZ]++r)):=by
 refine enter 52 Tryz.func67 J J J fun f0 ha=>?_
 have fM:=aP<|H.rv 1 J
 have iA:=aP<|H.rv 2 J
 have sS:=aP<|H.rv 3 J
 have W7:=j1<|H.at_ 4 J
 have i0:f0 0=pV eB 0:=ha 0 bh
 have ahn:iy.isNone=true→sw=[]:=NS (H.at_ 4 rfl)
 refine aB<|au (v:=.slice none 0 0) J J<|av<|sq<|aB<|ak J i0<|k<|nc J J<|aU CL J J<|bl H 0 J Kp J J J<|k<|Tb J J J J Hl<|z<|nx ?_
 refine cd (b:=iy.isNone) J J (fun b0=>?_)<|fun b0=>?_
 ·
  refine aB<|ak J i0<|k<|nc J J<|aU rA J J<|aU fy J J<|bl H 0 J iR J J J<|k<|dW J J jn<|ak (v:=C 0) J J<|av<|bk ?_
  let J0:=iL ay I ax
  let J1:=iL aA U az
  let J2:=iL dm cr dh
  refine lp (fun m f w'=>∃(j_:Nat) (iP:List (Int×(List<|List bX))) (a0:OA) (c0:Nat),m=I.length-j_∧f 0=pV eB 0∧f 18=C (I.length:Int)∧f 19=C (j_:Int)∧HI M w w' ([box eB #[.slice aD aF aC,R ay I ax,R aA U az,C cn,R dm cr dh,R a0 iP c0] 80,J0,J1,J2,oL w 26 a0 iP c0]++r)∧(j_≤I.length)∧(iP=(eK I U).take j_)) _ ⟨0,sw,iy,jw,J,i0,J,(bJ J),H,aq,(by rw[ahn bq];rfl)⟩ ?_
  rintro _ f0 w0 ⟨j_,iP,a0,c0,rfl,s0,s1,s2,H0,pt,hs⟩
  refine aB<|k<|lss J J s2 s1<|av<|sq ?_
  refine cd (b:=decide ((j_:Int)<(I.length:Int))) J J (fun b1=>?_)<|fun b1=>?_
  ·
   have p1:=dT b1
   refine sk<|nx<|sq<|bk<|aB<|ak J s2<|au (v:=C (j_:Int)) J J<|av<|sq ?_
   refine l8 [.r,.r,.r,.r,.r,.r,.r,.r,.r,.r,.r,.r,.s,.s,.s,.n,.e,.s,.s,.s] (fun _=>True) J (by kernel_rfl) (fun _ _=>trivial) ?_
   refine yq J J<|kq (fun _ _=>mv rfl s0 e1)<|zq<|yq J J<|kq (fun _ _=>nc rfl rfl e1)<|zq<|yq J J<|kq (fun _ _=>fa rA rfl rfl e1)<|zq<|yq J J<|kq (fun _ x_=>cq (H0.ext x_) 0 rfl dx rfl rfl aw rfl e1)<|zq<|yq J J<|kq (fun _ _=>mv rfl s0 e1)<|zq<|yq J J<|kq (fun _ _=>nc rfl rfl e1)<|zq<|yq J J<|kq (fun _ _=>fa xm rfl rfl e1)<|zq<|yq J J<|kq (fun _ x_=>cq (H0.ext x_) 0 rfl bm rfl rfl aw rfl e1)<|zq<|yq J J<|kq (fun _ _=>mv (v:=C (j_:Int)) rfl rfl e1)<|zq ?_
   refine yu J (fun N v w'=>∃(o0:List dU) (o1:Int) (a1:OA) (c1:Nat) (a2:OA) (c2:Nat),v=.tuple #[.agg #[C ((I.length:Nat):Int),R a1 (cQ I U (j_:Int)) c1],R a2 o0 c2,C o1,C 0]∧o0.length≤2000000000∧aK o1∧n5 I.length o0∧RV (MN H0.fW N) w' (R a1 (cQ I U (j_:Int)) c1) (cQ I U (j_:Int))∧RV (MN H0.fW N) w' (R a2 o0 c2) o0) J ⟨by rintro _ _ _ _ x_ ⟨o0,o1,a1,c1,a2,c2,e_,q0,q1,q2,dV,fq⟩;exact⟨o0,o1,a1,c1,a2,c2,e_,q0,q1,q2,dV.lift (Up.ext x_),fq.lift (Up.ext x_)⟩,by rintro _ _ _ _ _ k_ ⟨o0,o1,a1,c1,a2,c2,e_,q0,q1,q2,dV,fq⟩;exact⟨o0,o1,a1,c1,a2,c2,e_,q0,q1,q2,gR dV k_,gR fq k_⟩⟩ J (fun v_ _ x_ n_=>have cV:=Hs (I:=I) (U:=U) (mn:=cn) (mr:=cr) (o:=(j_:Int)) (aD:=aD) (aF:=aF) (aC:=aC) (w:=v_) (kx H0.mb x_ n_) (hT.ext (H0.below.trans x_)) (j3 (H0.rv 1 J) x_ n_) (j3 (H0.rv 2 J) x_ n_) kb (j3 (H0.rv 3 J) x_ n_) aV (by exact ho) (by exact dp) (by exact eo) (by exact fE) (by exact nY) (by exact pw) aq;ca Ql rfl (ec J<|ec J<|ec J e0) cV (fun _ w2 ⟨o2,o3,a3,c3,a4,c4,e_,cY,iU,jO,q3,q4,q5⟩=>⟨_,J,cY,⟨o2,o3,a3,c3,a4,c4,e_,q3,q4,q5,iU,jO⟩⟩)) ?_
   refine lq J (fun N v w'=>∃(o4:List dU) (o5:Int) (a5:OA) (c5:Nat) (a6:OA) (c6:Nat),v=.tuple #[.agg #[C ((I.length:Nat):Int),R a5 (cQ I U (j_:Int)) c5],R a6 o4 c6,C o5,C 0]∧o4.length≤2000000000∧aK o5∧n5 I.length o4∧RV (MN H0.fW N) w' (R a5 (cQ I U (j_:Int)) c5) (cQ I U (j_:Int))∧RV (MN H0.fW N) w' (R a6 o4 c6) o4) 0 J J ⟨by rintro _ _ _ _ x_ ⟨o4,o5,a5,c5,a6,c6,e_,q6,q7,q8,iT,kZ⟩;exact⟨o4,o5,a5,c5,a6,c6,e_,q6,q7,q8,iT.lift (Up.ext x_),kZ.lift (Up.ext x_)⟩,by rintro _ _ _ _ _ k_ ⟨o4,o5,a5,c5,a6,c6,e_,q6,q7,q8,iT,kZ⟩;exact⟨o4,o5,a5,c5,a6,c6,e_,q6,q7,q8,gR iT k_,gR kZ k_⟩⟩ J (fun _ _ _ _ _ h_=>let ⟨o6,o7,a7,c7,a8,c8,s3,q9,ux,wK,oe,ph⟩:=h_;mv rfl s3 ⟨_,J,Ext.refl _,⟨o6,o7,a7,c7,a8,c8,J,q9,ux,wK,oe,ph⟩⟩) ?_
   refine lq J (fun N v w'=>∃(a9:OA) (c9:Nat),v=.agg #[C ((I.length:Nat):Int),R a9 (cQ I U (j_:Int)) c9]∧RV (MN H0.fW N) w' (R a9 (cQ I U (j_:Int)) c9) (cQ I U (j_:Int))) 0 J J kI J (fun _ _ _ _ _ h_=>let ⟨kv,fF,mF,mD,a12,oQ,s4,B6,B5,xP,nw,qh⟩:=h_;xt rfl s4 rfl ⟨_,J,Ext.refl _,⟨mF,mD,J,nw⟩⟩) ?_
   refine lq J (fun N v w'=>∃(jR:List dU) (kL:OA) (kJ:Nat),v=R kL jR kJ∧jR.length≤2000000000∧n5 I.length jR∧RV (MN H0.fW N) w' (R kL jR kJ) jR) 1 J J ⟨by rintro _ _ _ _ x_ ⟨jR,kL,kJ,e_,wJ,wI,pM⟩;exact⟨jR,kL,kJ,e_,wJ,wI,pM.lift (Up.ext x_)⟩,by rintro _ _ _ _ _ k_ ⟨jR,kL,kJ,e_,wJ,wI,pM⟩;exact⟨jR,kL,kJ,e_,wJ,wI,gR pM k_⟩⟩ J (fun _ _ _ _ _ h_=>let ⟨D0,Gb,TZ,TB,Jn,Ji,s5,DV,q22,KT,Az,EM⟩:=h_;xt rfl s5 rfl ⟨_,J,Ext.refl _,⟨D0,Jn,Ji,J,DV,KT,EM⟩⟩) ?_
   refine lq J (fun _ v _=>∃(Ch:Int),v=C Ch∧aK Ch) 2 J J mE J (fun _ _ _ _ _ h_=>let ⟨RY,IJ,a19,c19,a20,c20,s6,q27,RD,q29,aav,aau⟩:=h_;xt rfl s6 rfl ⟨_,J,Ext.refl _,⟨IJ,J,RD⟩⟩) ?_
   refine QP J (X:=C 0) 3 J J (fun _ _ _ _ _ h_=>let ⟨N0,K8,a23,c23,a24,yy,s7,q33,q34,q35,aat,aas⟩:=h_;xt rfl s7 rfl e1) ?_
   refine yn (z:=#[C 0,.slice none 0 0]) J J (fun _=>OW bm)<|ye ?_
   refine lq J (fun N v w'=>∃(j4:List dU) (a25:OA) (Ej:Nat),v=R a25 j4 Ej∧j4.length≤2000000000∧n5 I.length j4∧RV (MN H0.fW N) w' (R a25 j4 Ej) j4) 2 J J ⟨by rintro _ _ _ _ x_ ⟨j4,a25,Ej,e_,B4,B3,wG⟩;exact⟨j4,a25,Ej,e_,B4,B3,wG.lift (Up.ext x_)⟩,by rintro _ _ _ _ _ k_ ⟨j4,a25,Ej,e_,B4,B3,wG⟩;exact⟨j4,a25,Ej,e_,B4,B3,gR wG k_⟩⟩ J (fun _ _ _ _ _ h_=>let ⟨vw,a26,G4,s8,RC,RB,KP⟩:=h_;jB rfl s8 ⟨_,J,Ext.refl _,⟨vw,a26,G4,J,RC,RB,KP⟩⟩) ?_
   refine lq J (fun _ v _=>∃(nJ:Int),v=C nJ∧aK nJ) 2 J J mE J (fun _ _ _ _ _ h_=>let ⟨ou,s9,RA⟩:=h_;jB rfl s9 ⟨_,J,Ext.refl _,⟨ou,J,RA⟩⟩) ?_
   refine yq J J<|kq (fun _ _=>jB (v:=C 0) rfl rfl e1)<|zq<|yz ?_
   intro w3 f1 _ eT _ _ cz iC
   obtain⟨ba,ej,CC,sj,Br⟩:=iC 2 _ _ rfl
   have px:=ON (z:=#[C 0,.slice none 0 0]) (T:=26) CC sj Br<|OO
   let J3:=box eB #[.slice aD aF aC,R ay I ax,R aA U az,C cn,R dm cr dh,R a0 iP c0] 80
   let J4:=oL w 26 a0 iP c0
   have H8:HI M w w3 ([box ba #[C 0,.slice none 0 0] 26,J3,J0,J1,J2,J4]++r):=H0.Dr eT px (N4 N3 N5)
   have eY:=(cz 0 J).trans s0
   have fK:=(cz 18 J).trans s1
   have fJ:=(cz 19 J).trans s2
   obtain⟨Af,Ac,gx,KO⟩:=iC 5 _ _ rfl
   let J5:=iL Af (cQ I U (j_:Int)) Ac
   have H9:=H8.put (it:=J5) J<|rR KO px
   refine jZ<|bp H9 1 J bm J J ej gx J J J ?_
   let J6:=box ba #[C ((I.length:Nat):Int),R Af (cQ I U (j_:Int)) Ac] 26
   intro w4 (cT:HI M w w4 ([J5,J6,J3,J0,J1,J2,J4]++r))
   refine kz<|nx ?_
   refine l8 [.s,.r,.r,.r,.r,.r,.r,.e,.f,.f,.e] (fun _=>True) J (by kernel_rfl) (fun _ _=>trivial) ?_
   refine yq J J<|kq (fun _ _=>mv rfl eY e1)<|zq<|yq J J<|kq (fun _ _=>mv rfl eY e1)<|zq<|yq J J<|kq (fun _ _=>nc rfl rfl e1)<|zq<|yq J J<|kq (fun _ _=>fa CL rfl rfl e1)<|zq<|yq J J<|kq (fun _ x_=>lx (cT.ext x_) 2 rfl Kp rfl rfl rfl e1)<|zq<|yq J J<|kq (fun _ x_=>cq (cT.ext x_) 1 rfl bm rfl ej aw rfl e1)<|zq ?_
   refine yu J (fun _ v w'=>∃(a28:OA) (qX:Nat),v=R a28 ([(((I.length:Nat):Int),cQ I U (j_:Int))]:List (Int×(List<|List bX))) qX∧RV cT.fW w' (R a28 ([(((I.length:Nat):Int),cQ I U (j_:Int))]:List (Int×(List<|List bX))) qX) ([(((I.length:Nat):Int),cQ I U (j_:Int))]:List (Int×(List<|List bX)))) J jd J (fun v_ N_ x_ n_=>?_) ?_
   ·
    have cJ:=cT.ext x_
    refine bs (xs:=([(((I.length:Nat):Int),cQ I U (j_:Int))]:List (Int×(List<|List bX)))) (cells:=#[C ((I.length:Nat):Int),R Af (cQ I U (j_:Int)) Ac]) (e:=26) cJ J (cj J ey) (fun _=>aM) ⟨[C ((I.length:Nat):Int),R Af (cQ I U (j_:Int)) Ac],[],J,⟨_,_,J,⟨J,(show aK (((I.length:Nat):Int)) from aV)⟩,⟨_,J,RV.list.1 (cJ.rv 0 J)⟩⟩,J⟩ J aw ?_
    intro g1 w6 iN (dS:HI M w w6 ([own w.heap.size 26 (.slice (some ⟨g1,0,none⟩) 1 1) ([(((I.length:Nat):Int),cQ I U (j_:Int))]:List (Int×(List (List bX)))),J5,J6,J3,J0,J1,J2,J4]++r))
    have de:=dS.freeze 0 J
    exact⟨_,J,iN,⟨(some ⟨g1,0,none⟩),1,J,(mG J<|de.rv 0 J)⟩⟩
   refine ye<|yf J (fun _ _=>nc rfl rfl e3)<|yf J (fun _ _=>fa CL rfl rfl e3)<|ye<|yz ?_
   intro w7 f2 _ jb _ _ fD zL
   have cO:=cT.ext jb
   have gP:=(fD 0 J).trans eY
   have kr:=(fD 18 J).trans fK
   have kY:=(fD 19 J).trans fJ
   have mL:=fD 41 J
   obtain⟨oJ,oI,mK,KN⟩:=zL 0 _ _ rfl
   let J7:=iL oJ ([(((I.length:Nat):Int),cQ I U (j_:Int))]:List (Int×(List (List bX)))) oI
   have dP:=cO.put (it:=J7) J KN
   have nG:=fD 46 J
   refine jZ<|l9 dP 7 J J J J mL mK (dP.rv 0 J).src Hl bm J (by rw[hs];simp only[ij,iB,gm];omega) J ?_
   intro jV jT w8 (cC:HI M w w8 ([J7,J5,J6,J3,J0,J1,J2,oL w 26 jV (iP++([(((I.length:Nat):Int),cQ I U (j_:Int))]:List (Int×(List (List bX))))) jT]++r))
   let J8:=oL w 26 jV (iP++([(((I.length:Nat):Int),cQ I U (j_:Int))]:List (Int×(List (List bX))))) jT
   refine jZ<|bp cC 3 J Kp J J nG J J J J ?_
   let J9:=box eB #[.slice aD aF aC,R ay I ax,R aA U az,C cn,R dm cr dh,R jV (iP++([(((I.length:Nat):Int),cQ I U (j_:Int))]:List (Int×(List (List bX))))) jT] 80
   let bc:=[J9,J0,J1,J2,J8]
   intro w9 (dR:HI M w w9 ((J7::J5::J6::bc)++r))
   refine kz<|aI<|nx<|rg<|k<|add J J kY J aV<|ak (v:=C ((j_:Int)+1)) J J<|z ?_
   have dB:=dR.put (it:=J0) J<|dR.rv 4 J
   have fc:=dB.put (it:=J1) J<|dB.rv 6 J
   have iD:=fc.put (it:=J2) J<|fc.rv 8 J
   have ga:HI M w w9 ((J2::J1::J0::J7::J5::J6::bc)++r):=iD
   have lL:HI M w w9 (bc++r):=HI.aR (l:=(J2::J1::J0::J7::J5::J6::bc)) (l':=bc) (t:=r) ga [6,2,1,0,10] aw rfl rfl
   refine bB _ ?_ ⟨(j_+1),(iP++([(((I.length:Nat):Int),cQ I U (j_:Int))]:List (Int×(List<|List bX)))),jV,jT,J,gP,kr,(bJ J),lL,aq,(by rw[hs];exact Rj aq)⟩
   omega
  have p1:=dF b1
  refine ex<|aX<|bf<|bg<|cI<|ak J s0<|k<|nc J J<|aU CL J J<|bl H0 0 J Kp J J J<|au (v:=R a0 iP c0) J J<|av<|rt<|r1 J J ?_
  have e0:(iP:List _)=(eK I U):=by rw[hs];exact amr (by rw[Aw];omega)
  try rw[←e0]
  refine⟨a0,c0,?_,?_⟩
  · first|rfl|simp only[e0]|(simp only[ami])
  · first|exact H0|simpa +zetaDelta only[e0,ami] using H0
 refine sk<|cI<|ak J i0<|k<|nc J J<|aU CL J J<|bl H 0 J Kp J J J<|au (v:=R iy sw jw) J J<|av<|rt<|r1 J J ?_
 have e0:(sw:List _)=(eK I U):=by rcases hsw with ⟨h_,_⟩|h_;exact absurd (by rw[h_];rfl) (Bool.eq_false_iff.1 ‹iy.isNone=false›);exact h_
 try rw[←e0]
 refine⟨iy,jw,?_,?_⟩
 · first|rfl|simp only[e0]|(simp only[ami])
 · first|exact H|simpa +zetaDelta only[e0,ami] using H
theorem bM:eh aJ 33 8 true 80 (.agg #[.int .i64 0,.int .i64 0,.int .i64 0,.int .i64 0,.int .i64 0,.slice none 0 0,.int .i64 0,.int .i64 0]):=⟨aM,aM⟩
theorem Fl:ct aJ 60:=⟨_,_,Tryz.func60,rfl,aM⟩
theorem pA:gM aJ 33 1 1:=⟨_,_,Tryz.underlying33,rfl,rfl,aM⟩
theorem Qd:ct aJ 62:=⟨_,_,Tryz.func62,rfl,aM⟩
theorem mX:gM aJ 33 4 4:=⟨_,_,Tryz.underlying33,rfl,rfl,aM⟩
theorem Jl (hM:eD M w) (oY:aK lv):Calls aJ 31 #[C lv] w (cb fun v w'=>∃(a0:OA) (c0:Nat),v=.slice a0 (dq lv).length c0∧Ext w w'∧bj M 3 w (dq lv) (.slice a0 (dq lv).length c0) w'):=by
 refine df 19 Tryz.func31 J J J hM fun f0 ha H=>?_
 have i0:f0 0=C lv:=ha 0 bh
 refine aB<|au (v:=.slice none 0 0) J J<|bt<|k<|bs (xs:=([1,2,3,4]:List Int)) (cells:=#[C 1,C 2,C 3,C 4]) (e:=3) H J (cj J<|cj J<|cj J<|cj J ey) (fun _=>aM) ⟨[C 1],[C 2,C 3,C 4],J,⟨J,(show aK (1) from aV)⟩,⟨[C 2],[C 3,C 4],J,⟨J,(show aK (2) from aV)⟩,⟨[C 3],[C 4],J,⟨J,(show aK (3) from aV)⟩,⟨[C 4],[],J,⟨J,(show aK (4) from aV)⟩,J⟩⟩⟩⟩ J aw ?_
 intro g0 w0 bS H0
 refine au (v:=.slice (some ⟨g0,0,none⟩) 4 4) J J<|av<|sq<|aB<|ak J i0<|av<|bk<|aB<|k<|eql J J J J<|au (v:=.bool (decide (lv=1))) J J<|z<|nx ?_
 refine cd (b:=decide (lv=1)) J J (fun b0=>?_)<|fun b0=>?_
 ·
  have p0:=dT b0
  refine aB<|ak (v:=.slice (some ⟨g0,0,none⟩) 4 4) J J<|au (v:=.slice (some ⟨g0,0,none⟩) 4 4) J J<|av<|rt<|bQ<|aL<|r1 J J ?_
  have e0:(([1,2,3,4]:List Int):List Int)=dq lv:=by simp only[dq,b0,BL]
  have l0:4=(dq lv).length:=by rw[←e0];simp
  have bo:=iq (fun (uF:Nat)=>(.slice (some ⟨g0,0,none⟩) uF 4:Value)) l0
  exact⟨(some ⟨g0,0,none⟩),4,bo,H0.below,(amh (fun (n_:Nat)=>bj _ _ _ (dq lv) (.slice (some ⟨g0,0,none⟩) n_ 4) _) l0).mp ((amh (fun (x_:List Int)=>bj _ _ _ x_ (.slice (some ⟨g0,0,none⟩) 4 4) _) e0).mp (H0.da 0 J))⟩
 have p0:=dF b0
 refine aB<|k<|eql J J J J<|au (v:=.bool (decide (lv=2))) J J<|z<|nx ?_
 refine cd (b:=decide (lv=2)) J J (fun b1=>?_)<|fun b1=>?_
 ·
  have p1:=dT b1
  refine aB<|ak (v:=.slice (some ⟨g0,0,none⟩) 4 4) J J<|k<|bs (xs:=([5]:List Int)) (cells:=#[C 5]) (e:=3) H0 J (cj J ey) (fun _=>aM) ⟨[C 5],[],J,⟨J,(show aK (5) from aV)⟩,J⟩ J aw ?_
  intro g1 w1 cY H1
  refine k<|l9 H1 1 J J J J J J (gT<|H1.at_ 0 J) cG aW J bh J ?_
  intro a0 c0 w2 (H2:HI M w w2 [own w.heap.size 3 (.slice (some ⟨g1,0,none⟩) 1 1) ([5]:List Int),oL w 3 a0 (([1,2,3,4]:List Int)++([5]:List Int)) c0])
  refine au (v:=R a0 (([1,2,3,4]:List Int)++([5]:List Int)) c0) J J<|av<|rt<|bQ<|aL<|r1 J J ?_
  have e0:((([1,2,3,4]:List Int)++([5]:List Int)):List Int)=dq lv:=by simp only[dq,b0,b1,BL]
  have bo:=iq (fun (bV:List Int)=>(.slice a0 bV.length c0:Value)) e0
  exact⟨a0,c0,bo,H2.below,(amh (fun (x_:List Int)=>bj _ _ _ x_ (.slice a0 x_.length c0) _) e0).mp (H2.da 1 J)⟩
 have p1:=dF b1
 refine aB<|k<|eql J J J J<|au (v:=.bool (decide (lv=3))) J J<|z<|nx ?_
 refine cd (b:=decide (lv=3)) J J (fun b2=>?_)<|fun b2=>?_
 ·
  have p2:=dT b2
  refine aB<|ak (v:=.slice (some ⟨g0,0,none⟩) 4 4) J J<|k<|bs (xs:=([6,7]:List Int)) (cells:=#[C 6,C 7]) (e:=3) H0 J (cj J<|cj J ey) (fun _=>aM) ⟨[C 6],[C 7],J,⟨J,(show aK (6) from aV)⟩,⟨[C 7],[],J,⟨J,(show aK (7) from aV)⟩,J⟩⟩ J aw ?_
  intro g1 w1 cY H1
  refine k<|l9 H1 1 J J J J J J (gT<|H1.at_ 0 J) cG aW J bh J ?_
  intro a0 c0 w2 (H2:HI M w w2 [own w.heap.size 3 (.slice (some ⟨g1,0,none⟩) 2 2) ([6,7]:List Int),oL w 3 a0 (([1,2,3,4]:List Int)++([6,7]:List Int)) c0])
  refine au (v:=R a0 (([1,2,3,4]:List Int)++([6,7]:List Int)) c0) J J<|av<|rt<|bQ<|aL<|r1 J J ?_
  have e0:((([1,2,3,4]:List Int)++([6,7]:List Int)):List Int)=dq lv:=by simp only[dq,b0,b1,b2,BL]
  have bo:=iq (fun (bV:List Int)=>(.slice a0 bV.length c0:Value)) e0
  exact⟨a0,c0,bo,H2.below,(amh (fun (x_:List Int)=>bj _ _ _ x_ (.slice a0 x_.length c0) _) e0).mp (H2.da 1 J)⟩
 have p2:=dF b2
 refine sk<|aI<|cI<|au (v:=.slice none 0 0) J J<|av<|rt<|r1 J J ?_
 have e0:([]:List Int)=dq lv:=by simp only[dq,b0,b1,b2,BL]
 have bo:=iq (fun (bV:List Int)=>(.slice none bV.length 0:Value)) e0
 exact⟨none,0,bo,H0.below,(amh (fun (x_:List Int)=>bj _ _ _ x_ (.slice none x_.length 0) _) e0).mp (fL H0.below)⟩
theorem qI (lF:aK kd):Calls aJ 60 #[C kd] w (cb fun v w'=>v=.agg #[C kd,C (-1),C (-1),C (-1),C (-1),.slice none 0 0,C (-1),C (-1)]∧Ext w w'):=by
 refine df 5 Tryz.func60 J J J pk fun f0 ha H=>?_
 have i0:f0 0=C kd:=ha 0 bh
 refine aB<|k<|al H bM ?_
 intro aY w0 bS (H0:HI (fun _=>False) w w0 [box aY #[C 0,C 0,C 0,C 0,C 0,.slice none 0 0,C 0,C 0] 33])
 refine bt<|ak J i0<|k<|bd (v:=.agg #[C kd,C (-1),C (-1),C (-1),C (-1),.slice none 0 0,C (-1),C (-1)]) J (cj J<|cj J<|cj J<|cj J<|cj J<|cj J<|cj J ey) (fun _=>aM)<|k<|bp H0 0 J bM J J J J J J J ?_
 intro w1 (H1:HI (fun _=>False) w w1 [box aY #[C kd,C (-1),C (-1),C (-1),C (-1),.slice none 0 0,C (-1),C (-1)] 33])
 refine av<|rt<|oN H1 0 J bM J J J J aw ?_
 exact⟨J,H1.below⟩
theorem Wj (hM:eD M w) (cL:cw M w ay ax I) (eZ:cw M w aA az U) (kb:aK cn) (lG:cw M w dm dh cr) (lF:aK kd) (kQ:w.heap[eB]? =some (.cells #[.slice aD aF aC,R ay I ax,R aA U az,C cn,R dm cr dh,.slice iy ri jw] lU (0,0))∧¬M eB):Calls aJ 33 #[.pointer (some ⟨eB,0,none⟩),C kd] w (cb fun v w'=>∃(k_:Int) (r_:Int) (a_:Int) (b_:Int) (o_:Int) (f_:Int) (s_:Int),v=.tuple #[.agg #[C k_,C r_,C a_,C b_,C o_,.slice none 0 0,C f_,C s_],.bool ((oT U kd).isSome)]∧Ext w w'∧p9 (oT U kd) k_ r_ a_ b_ o_):=by
 refine df 20 Tryz.func33 J J J hM fun f0 ha H=>?_
 let J0:=iL ay I ax
 have H0:=H.put (it:=J0) J<|by rw[bN];exact cL
 let J1:=iL aA U az
 have H1:=H0.put (it:=J1) J<|by rw[aE rfl,bN];exact eZ
 let J2:=iL dm cr dh
 have H2:=H1.put (it:=J2) J<|by rw[aE rfl,aE rfl,bN];exact lG
 have fM:=aP cL
 have iA:=aP eZ
 have sS:=aP lG
 let J3:=ro eB #[.slice aD aF aC,R ay I ax,R aA U az,C cn,R dm cr dh,.slice iy ri jw] lU
 have H3:=H2.put (it:=J3) J<|by rw[aE rfl,aE rfl,aE rfl,bN];exact kQ
 have i0:f0 0=pV eB 0:=ha 0 bh
 have i1:f0 1=C kd:=ha 1 bh
 refine aB<|k<|al H3 bM ?_
 let bc:=[J3,J2,J1,J0]
 intro aY w0 bS (H4:HI M w w0 (box aY #[C 0,C 0,C 0,C 0,C 0,.slice none 0 0,C 0,C 0] 33::bc))
 let J4:=box aY #[C 0,C 0,C 0,C 0,C 0,.slice none 0 0,C 0,C 0] 33
 refine au (v:=.bool false) J J<|bt<|ak J i1<|k ?_
 have bP:=qI (kd:=kd) (w:=w0) lF
 refine ca Fl J (ec J e0) bP ?_
 rintro _ w1 ⟨rfl,cY⟩
 have H5:=H4.ext cY
 refine k<|al H5 bM ?_
 intro ba w2 eT (H6:HI M w w2 (box ba #[C 0,C 0,C 0,C 0,C 0,.slice none 0 0,C 0,C 0] 33::J4::bc))
 refine k<|bp H6 0 J bM J J J J J J J ?_
 intro w3 (H7:HI M w w3 (box ba #[C kd,C (-1),C (-1),C (-1),C (-1),.slice none 0 0,C (-1),C (-1)] 33::J4::bc))
 refine bt<|ak J i0<|k<|nc J J<|aU rA J J<|aU tg J J<|k<|lr H7 2 J qe J J J<|k ?_
 have cV:=IT (rr:=U) (tn:=(-2)) H7.mb (H7.rv 4 J) aV
 refine ca acz J (ec J<|ec J e0) cV ?_
 rintro _ w4 ⟨rfl,fB⟩
 have H8:=H7.ext fB
 refine aU pA J J<|k<|bp H8 0 J aW J J J J J J J ?_
 intro w5 (H9:HI M w w5 (box ba #[C kd,C (eF (fun (z_:Int)=>decide ((-2)=z_)) U),C (-1),C (-1),C (-1),.slice none 0 0,C (-1),C (-1)] 33::J4::bc))
 refine av<|sq ?_
 refine l8 [.r,.f,.f,.f,.e,.s] (fun w'=>HI M w w' [box ba #[C kd,C (eF (fun (z_:Int)=>decide ((-2)=z_)) U),C (-1),C (-1),C (-1),.slice none 0 0,C (-1),C (-1)] 33]) J (by kernel_rfl) (fun _ x_=>(H9.bT (l':=[box ba #[C kd,C (eF (fun (z_:Int)=>decide ((-2)=z_)) U),C (-1),C (-1),C (-1),.slice none 0 0,C (-1),C (-1)] 33]) [0] aw J).ext x_) ?_
 refine yq J J<|kq (fun _ x_=>cq (H9.ext x_) 0 rfl bM rfl rfl aw rfl e1)<|zq<|yf J (fun _ _=>fa pA rfl rfl e3)<|yf J (fun _ i_=>lx i_ 0 rfl aW rfl rfl rfl e3)<|yf J (fun _ _=>geq rfl rfl rfl rfl e3)<|ye<|yq J J<|kq (fun _ _=>jB (v:=.bool (decide (0≤(eF (fun (z_:Int)=>decide ((-2)=z_)) U)))) rfl rfl e1)<|zq<|yz ?_
 intro w6 f0 _ iN _ _ cz iC
 have dC:=H9.ext iN
 have s0:=cz 4 J
 have s1:=cz 5 J
 have s2:=cz 16 J
 refine ke<|bp dC 1 J bM J J s0 s2 J J J ?_
 intro w7 (cT:HI M w w7 (box ba #[C kd,C (eF (fun (z_:Int)=>decide ((-2)=z_)) U),C (-1),C (-1),C (-1),.slice none 0 0,C (-1),C (-1)] 33::box aY #[C kd,C (eF (fun (z_:Int)=>decide ((-2)=z_)) U),C (-1),C (-1),C (-1),.slice none 0 0,C (-1),C (-1)] 33::bc))
 refine⟨cT.bT [0] aw rfl,?_⟩
 refine kz<|nx<|rt<|ib cT 1 J bM J J J s0 J aw ?_
 try simp only[cU]
 rw[s1]
 have e1:(eF (fun (z_:Int)=>decide ((-2)=z_)) U:Int)=(eF (fun (z_:Int)=>decide ((-2)=z_)) U):=rfl
 have e8:(decide (0≤(eF (fun (z_:Int)=>decide ((-2)=z_)) U)):Bool)=(oT U kd).isSome:=by exact NA
 have bo:=nr (fun (dI:Int) (lu:Bool)=>(.tuple #[.agg #[C kd,C dI,C (-1),C (-1),C (-1),.slice none 0 0,C (-1),C (-1)],.bool lu]:Value)) e1 e8
 exact⟨kd,(eF (fun (z_:Int)=>decide ((-2)=z_)) U),(-1),(-1),(-1),(-1),(-1),bo,cT.below,(by exact aae lF aq)⟩
theorem TO {aaT:Nat} (hM:eD M w) (kb:aK cn) (lG:cw M w dm dh cr) (lF:aK kd) (kQ:w.heap[eB]? =some (.cells #[.slice aD aF aC,.slice ay aaT ax,.slice aA eS az,C cn,R dm cr dh,.slice iy ri jw] lU (0,0))∧¬M eB) (kP:bF cn cr=true):Calls aJ 34 #[.pointer (some ⟨eB,0,none⟩),C kd] w (cb fun v w'=>∃(k_:Int) (r_:Int) (a_:Int) (b_:Int) (o_:Int) (f_:Int) (s_:Int),v=.tuple #[.agg #[C k_,C r_,C a_,C b_,C o_,.slice none 0 0,C f_,C s_],.bool ((j0 cn cr kd).isSome)]∧Ext w w'∧p9 (j0 cn cr kd) k_ r_ a_ b_ o_):=by
 refine df 24 Tryz.func34 J J J hM fun f0 ha H=>?_
 let J0:=iL dm cr dh
 have H0:=H.put (it:=J0) J<|by rw[bN];exact lG
 have sS:=aP lG
 let J1:=ro eB #[.slice aD aF aC,.slice ay aaT ax,.slice aA eS az,C cn,R dm cr dh,.slice iy ri jw] lU
 have H1:=H0.put (it:=J1) J<|by rw[aE rfl,bN];exact kQ
 have i0:f0 0=pV eB 0:=ha 0 bh
 have i1:f0 1=C kd:=ha 1 bh
 refine aB<|k<|al H1 bM ?_
 intro aY w0 bS (H2:HI M w w0 [box aY #[C 0,C 0,C 0,C 0,C 0,.slice none 0 0,C 0,C 0] 33,J1,J0])
 let J2:=box aY #[C 0,C 0,C 0,C 0,C 0,.slice none 0 0,C 0,C 0] 33
 refine au (v:=.bool false) J J<|bt<|ak J i1<|k ?_
 have bP:=qI (kd:=kd) (w:=w0) lF
 refine ca Fl J (ec J e0) bP ?_
 rintro _ w1 ⟨rfl,cY⟩
 have H3:=H2.ext cY
 refine k<|al H3 bM ?_
 intro ba w2 eT (H4:HI M w w2 [box ba #[C 0,C 0,C 0,C 0,C 0,.slice none 0 0,C 0,C 0] 33,J2,J1,J0])
 refine k<|bp H4 0 J bM J J J J J J J ?_
 let J3:=box ba #[C kd,C (-1),C (-1),C (-1),C (-1),.slice none 0 0,C (-1),C (-1)] 33
 intro w3 (H5:HI M w w3 [J3,J2,J1,J0])
 refine bt<|ak J i0<|k<|nc J J<|aU xm J J<|k<|vA H5 2 J bm J J aw J<|k ?_
 have cV:=yd (mn:=cn) (mr:=cr) H5.mb kb (H5.rv 3 J)<|by exact kP
 refine ca Qd J (ec J e0) cV ?_
 rintro _ w4 ⟨rfl,fB⟩
 have H6:=H5.ext fB
 refine ak (v:=.tuple #[C (((cM cn cr).getD 0:Nat):Int),.bool ((cM cn cr).isSome)]) J J<|k<|xt J J J<|k<|xt J J J<|au (v:=C (((cM cn cr).getD 0:Nat):Int)) J J<|au (v:=.bool ((cM cn cr).isSome)) J J<|av<|sq<|aB<|ak (v:=.bool ((cM cn cr).isSome)) J J<|z<|nx ?_
 refine cd (b:=(cM cn cr).isSome) J J (fun b0=>?_)<|fun b0=>?_
 ·
  refine rg<|ak (v:=C (((cM cn cr).getD 0:Nat):Int)) J J<|aU mX J J<|k<|bp H6 0 J aW J J J J J J J ?_
  let J4:=box ba #[C kd,C (-1),C (-1),C (-1),C (((cM cn cr).getD 0:Nat):Int),.slice none 0 0,C (-1),C (-1)] 33
  intro w5 (H7:HI M w w5 [J4,J2,J1,J0])
  refine bt<|k<|cq H7 0 J bM J J aw J<|ak (v:=.bool ((cM cn cr).isSome)) J J<|k<|bp H7 1 J bM J J J J J J J ?_
  intro w6 (H8:HI M w w6 [J4,box aY #[C kd,C (-1),C (-1),C (-1),C (((cM cn cr).getD 0:Nat):Int),.slice none 0 0,C (-1),C (-1)] 33,J1,J0])
  refine au (v:=.bool ((cM cn cr).isSome)) J J<|av<|rt<|ib H8 1 J bM J J J J J aw ?_
  have e8:((cM cn cr).isSome:Bool)=(j0 cn cr kd).isSome:=by exact BY
  have bo:=iq (fun (lu:Bool)=>(.tuple #[.agg #[C kd,C (-1),C (-1),C (-1),C (((cM cn cr).getD 0:Nat):Int),.slice none 0 0,C (-1),C (-1)],.bool lu]:Value)) e8
  exact⟨kd,(-1),(-1),(-1),(((cM cn cr).getD 0:Nat):Int),(-1),(-1),bo,H8.below,(by have h_:=(bO kP).2.2.1;first|exact Pl lF aq bq|exact Pm lF bq)⟩
 refine sk<|cI<|k<|cq H6 0 J bM J J aw J<|ak (v:=.bool ((cM cn cr).isSome)) J J<|k<|bp H6 1 J bM J J J J J J J ?_
 intro w5 (H7:HI M w w5 [J3,box aY #[C kd,C (-1),C (-1),C (-1),C (-1),.slice none 0 0,C (-1),C (-1)] 33,J1,J0])
 refine au (v:=.bool ((cM cn cr).isSome)) J J<|av<|rt<|ib H7 1 J bM J J J J J aw ?_
 have e8:((cM cn cr).isSome:Bool)=(j0 cn cr kd).isSome:=by exact BY
 have bo:=iq (fun (lu:Bool)=>(.tuple #[.agg #[C kd,C (-1),C (-1),C (-1),C (-1),.slice none 0 0,C (-1),C (-1)],.bool lu]:Value)) e8
 exact⟨kd,(-1),(-1),(-1),(-1),(-1),(-1),bo,H7.below,(by have h_:=(bO kP).2.2.1;first|exact Pl lF aq bq|exact Pm lF bq)⟩
theorem Mq (hM:eD M w) (hT:fQ 0 w) (cL:cw M w ay ax I) (eZ:cw M w aA az U) (kb:aK cn) (lG:cw M w dm dh cr) (lF:aK kd) (kQ:w.heap[eB]? =some (.cells #[.slice aD aF aC,R ay I ax,R aA U az,C cn,R dm cr dh,.slice iy ri jw] lU (0,0))∧¬M eB) (ho:gL I) (dp:I.length≤64) (eo:U.length=I.length) (fE:∀x∈U,x<((I.length:Nat):Int)) (nY:cn=((I.length:Nat):Int)) (pw:cr=cp I U):Calls aJ 37 #[.pointer (some ⟨eB,0,none⟩),C kd] w (cb fun v w'=>∃(k_:Int) (r_:Int) (a_:Int) (b_:Int) (o_:Int) (f_:Int) (s_:Int),v=.tuple #[.agg #[C k_,C r_,C a_,C b_,C o_,.slice none 0 0,C f_,C s_],.bool ((j0 ((I.length:Nat):Int) (Aa I U) kd).isSome)]∧Ext w w'∧p9 (j0 ((I.length:Nat):Int) (Aa I U) kd) k_ r_ a_ b_ o_):=by
 refine df 52 Tryz.func37 J J J hM fun f0 ha H=>?_
 let J0:=iL ay I ax
 have H0:=H.put (it:=J0) J<|by rw[bN];exact cL
 let J1:=iL aA U az
 have H1:=H0.put (it:=J1) J<|by rw[aE rfl,bN];exact eZ
 let J2:=iL dm cr dh
 have H2:=H1.put (it:=J2) J<|by rw[aE rfl,aE rfl,bN];exact lG
 have fM:=aP cL
 have iA:=aP eZ
 have sS:=aP lG
 let J3:=ro eB #[.slice aD aF aC,R ay I ax,R aA U az,C cn,R dm cr dh,.slice iy ri jw] lU
 have H3:=H2.put (it:=J3) J<|by rw[aE rfl,aE rfl,aE rfl,bN];exact kQ
 have i0:f0 0=pV eB 0:=ha 0 bh
 have i1:f0 1=C kd:=ha 1 bh
 have kP:bF cn cr=true:=by rw[nY,pw];exact pc U aq
 refine aB<|k<|al H3 bM ?_
 let bc:=[J3,J2,J1,J0]
 intro aY w0 bS (H4:HI M w w0 (box aY #[C 0,C 0,C 0,C 0,C 0,.slice none 0 0,C 0,C 0] 33::bc))
 let J4:=box aY #[C 0,C 0,C 0,C 0,C 0,.slice none 0 0,C 0,C 0] 33
 refine au (v:=.bool false) J J<|bt<|ak J i0<|k<|nc J J<|aU xm J J<|k<|vA H4 1 J bm J J aw J<|k<|al H4 bm ?_
 let bY:=J4::bc
 intro ba w1 cY (H5:HI M w w1 (box ba #[C 0,.slice none 0 0] 26::bY))
 refine k<|bp H5 0 J bm J J J J J J J ?_
 intro w2 (H6:HI M w w2 (box ba #[C cn,R dm cr dh] 26::bY))
 refine av<|sq<|sq ?_
 refine Tl J (by kernel_rfl) ?_
 refine xq J<|kq (fun _ _=>mv rfl i0 e1)<|zq<|xq J<|kq (fun _ _=>nc rfl rfl e1)<|zq<|xq J<|kq (fun _ _=>fa rA rfl rfl e1)<|zq<|xq J<|kq (fun _ x_=>vA (H6.ext x_) 2 rfl dx rfl rfl aw rfl e1)<|zq<|xq J<|kq (fun _ _=>mv rfl i0 e1)<|zq<|xq J<|kq (fun _ _=>nc rfl rfl e1)<|zq<|xq J<|kq (fun _ _=>fa xm rfl rfl e1)<|zq<|xq J<|kq (fun _ x_=>vA (H6.ext x_) 2 rfl bm rfl rfl aw rfl e1)<|zq ?_
 refine xu (fun v w'=>∃(a0:OA) (c0:Nat),v=R a0 (cE I U cn cr) c0∧RV H6.fW w' (R a0 (cE I U cn cr) c0) (cE I U cn cr)) J (by rintro _ _ _ x_ ⟨a0,c0,e_,dM⟩;exact⟨a0,c0,e_,dM.lift (Up.ext x_)⟩) J (fun v_ x_=>have cV:=uj (I:=I) (U:=U) (mn:=cn) (mr:=cr) (aD:=aD) (aF:=aF) (aC:=aC) (w:=v_) (H6.ext x_).mb (hT.ext (H6.ext x_).below) ((H6.ext x_).rv 5 rfl) ((H6.ext x_).rv 4 rfl) kb ((H6.ext x_).rv 3 rfl) aq (by exact eo) (by exact fE) (by exact kP);ca Qc rfl (ec J<|ec J e0) cV (fun _ w4 ⟨a1,c1,e_,fB,dV⟩=>⟨_,J,fB,⟨a1,c1,e_,(bj.rv dV (H6.ext x_).mb)⟩⟩)) ?_
 refine Z2 (X:=C ((cE I U cn cr).length:Int)) 0 J J (fun _ _ _ h_=>let ⟨a3,c3,s0,jO⟩:=h_;dW rfl s0 ei e1) ?_
 refine xq J<|kq (fun _ _=>mv (v:=C 0) rfl rfl e1)<|zq<|zx ?_
 intro w5 f0 iN cz iC
 have cJ:=H6.ext iN
 have s1:=(cz 1 J).trans i1
 have s2:=cz 4 J
 have s3:=cz 6 J
 obtain⟨a4,c4,s4,iT⟩:=iC 0 _ _ rfl
 let J5:=iL a4 (cE I U cn cr) c4
 have dS:=cJ.put (it:=J5) J iT
 have s5:=cz 25 J
 have s6:=cz 26 J
 refine nx<|bk ?_
 have de:=dS.put (it:=J2) J<|dS.rv 4 J
 refine lp (fun m f w'=>∃(q_:Nat) (fS:Int) (fC:List (List bX)) (a5:OA) (c5:Nat),m=(cE I U cn cr).length-q_∧f 1=C kd∧f 4=pV aY 0∧f 6=pV ba 0∧f 24=R a4 (cE I U cn cr) c4∧f 25=C ((cE I U cn cr).length:Int)∧f 26=C (q_:Int)∧HI M w w' (iL a5 fC c5::J5::box ba #[C fS,R a5 fC c5] 26::bY)∧(q_≤(cE I U cn cr).length)∧(fS=cn∧fC=lT cn cr ((cE I U cn cr).take q_))) _ ⟨0,cn,cr,dm,dh,J,s1,s2,s3,s4,s5,(bJ s6),de,aq,(by exact⟨J,J⟩)⟩ ?_
 rintro _ f1 w6 ⟨q_,fS,fC,a5,c5,rfl,s7,s8,s9,ej,eY,fK,cO,sf,nU⟩
 refine sq ?_
 have Oo:=qE (I:=I) (U:=U) kP;have P8:=Oo.1
 have rW:=X7 eo fE nY pw Oo
 refine rg<|k<|lss J J fK eY<|av<|sq ?_
 refine cd (b:=decide ((q_:Int)<((cE I U cn cr).length:Int))) J J (fun b0=>?_)<|fun b0=>?_
 ·
  have p0:=dT b0
  refine sk<|nx<|sq<|bk<|aB<|k<|ia (cO.rv 1 J) J J ej fK aq ei cF ?_
  intro iw x0 aQ cu
  refine k<|nj cu.w cF J J ?_
  intro v0 kZ
  obtain⟨_,⟨_,_,rfl,⟨rfl,oe⟩,⟨_,_,rfl,⟨rfl,ph⟩,⟨rfl,rb⟩⟩⟩,rfl⟩:=kZ
  refine k<|al cO cF ?_
  let dE:=iL a5 fC c5::J5::box ba #[C fS,R a5 fC c5] 26::bY
  intro bD w7 jb (dP:HI M w w7 (box bD #[C 0,C 0,C 0] 122::dE))
  refine k<|bp dP 0 J cF J J J J J J J ?_
  intro w8 (dG:HI M w w8 (box bD #[C x0.1,C x0.2.1,C x0.2.2] 122::dE))
  refine av<|rg<|k<|cq dG 3 J bm J s9 aw J<|aU kE J J<|bl dG 0 J aW J J J<|aU mI J J<|bl dG 0 J aW J J J<|k ?_
  have fT:=E_ (mn:=fS) (mr:=fC) (i:=x0.1) (j:=x0.2.1) dG.mb aV (dG.rv 1 J) oe ph<|by exact Tu aq nY pw rW nU
  refine ca Vy J (ec J<|ec J<|ec J e0) fT ?_
  rintro _ w9 ⟨a6,c6,rfl,kf,og⟩
  have cC:=dG.ext kf
  let J6:=iL a6 (gQ fS fC x0.1 x0.2.1) c6
  have dR:=cC.put (it:=J6) J og
  refine ak (v:=.tuple #[.agg #[C (gX fS x0.1 x0.2.1),R a6 (gQ fS fC x0.1 x0.2.1) c6],C (lk fS x0.1 x0.2.1)]) J J<|k<|xt J J J<|k<|xt J J J<|k<|bp dR 4 J bm J J s9 J J J J ?_
  let J7:=box ba #[C (gX fS x0.1 x0.2.1),R a6 (gQ fS fC x0.1 x0.2.1) c6] 26
  intro dD (dB:HI M w dD (J6::box bD #[C x0.1,C x0.2.1,C x0.2.2] 122::iL a5 fC c5::J5::J7::bY))
  refine z<|aI<|nx<|rg<|k<|add J J fK J aV<|ak (v:=C ((q_:Int)+1)) J J<|z ?_
  have eO:=dB.put (it:=J6) J<|dB.rv 0 J
  have fc:HI M w dD (J6::J5::J7::bY):=eO.bT [0,4,5,6,7,8,9,10] aw rfl
  refine bB _ ?_ ⟨(q_+1),(gX fS x0.1 x0.2.1),(gQ fS fC x0.1 x0.2.1),a6,c6,J,s7,s8,s9,ej,eY,(bJ J),fc,aq,(by exact Bd nU aQ (KA nY rW aQ))⟩
  omega
 have p0:=dF b0
 refine ex<|aX<|bf<|bg<|cI<|ak J s7<|k ?_
 have fT:=qI (kd:=kd) (w:=w6) lF
 refine ca Fl J (ec J e0) fT ?_
 rintro _ w7 ⟨rfl,jb⟩
 have dP:=cO.ext jb
 refine k<|al dP bM ?_
 let J8:=box ba #[C fS,R a5 fC c5] 26
 let iH:=iL a5 fC c5::J5::J8::bY
 intro bD w8 kf (dG:HI M w w8 (box bD #[C 0,C 0,C 0,C 0,C 0,.slice none 0 0,C 0,C 0] 33::iH))
 refine k<|bp dG 0 J bM J J J J J J J ?_
 let J9:=box bD #[C kd,C (-1),C (-1),C (-1),C (-1),.slice none 0 0,C (-1),C (-1)] 33
 intro w9 (cC:HI M w w9 (J9::iH))
 refine av<|sq ?_
 have Bo:=ac2 eo fE nY pw Oo nU aq
 refine rg<|k<|cq cC 3 J bm J s9 aw J<|k ?_
 have eU:=yd (mn:=fS) (mr:=fC) cC.mb aV (cC.rv 1 J)<|by exact Tu aq nY pw rW nU
 refine ca Qd J (ec J e0) eU ?_
 rintro _ dD ⟨rfl,l4⟩
 have dR:=cC.ext l4
 refine ak (v:=.tuple #[C (((cM fS fC).getD 0:Nat):Int),.bool ((cM fS fC).isSome)]) J J<|k<|xt J J J<|k<|xt J J J<|au (v:=C (((cM fS fC).getD 0:Nat):Int)) J J<|au (v:=.bool ((cM fS fC).isSome)) J J<|av<|sq<|aB<|ak (v:=.bool ((cM fS fC).isSome)) J J<|z<|nx ?_
 refine cd (b:=(cM fS fC).isSome) J J (fun b1=>?_)<|fun b1=>?_
 ·
  refine rg<|ak (v:=C (((cM fS fC).getD 0:Nat):Int)) J J<|aU mX J J<|k<|bp dR 0 J aW J J J J J J J ?_
  let dK:=box bD #[C kd,C (-1),C (-1),C (-1),C (((cM fS fC).getD 0:Nat):Int),.slice none 0 0,C (-1),C (-1)] 33
  intro eb (dB:HI M w eb (dK::iH))
  refine bt<|k<|cq dB 0 J bM J J aw J<|ak (v:=.bool ((cM fS fC).isSome)) J J<|k<|bp dB 4 J bM J J s8 J J J J ?_
  intro ff (eO:HI M w ff (dK::iL a5 fC c5::J5::J8::box aY #[C kd,C (-1),C (-1),C (-1),C (((cM fS fC).getD 0:Nat):Int),.slice none 0 0,C (-1),C (-1)] 33::bc))
  refine au (v:=.bool ((cM fS fC).isSome)) J J<|av<|rt<|ib eO 4 J bM J J J s8 J aw ?_
  have e8:((cM fS fC).isSome:Bool)=(j0 ((I.length:Nat):Int) (Aa I U) kd).isSome:=by exact NL Bo
  have bo:=iq (fun (lu:Bool)=>(.tuple #[.agg #[C kd,C (-1),C (-1),C (-1),C (((cM fS fC).getD 0:Nat):Int),.slice none 0 0,C (-1),C (-1)],.bool lu]:Value)) e8
  exact⟨kd,(-1),(-1),(-1),(((cM fS fC).getD 0:Nat):Int),(-1),(-1),bo,eO.below,(by exact aaA Bo lF aq bq)⟩
 refine sk<|cI<|k<|cq dR 0 J bM J J aw J<|ak (v:=.bool ((cM fS fC).isSome)) J J<|k<|bp dR 4 J bM J J s8 J J J J ?_
 intro eb (dB:HI M w eb (J9::iL a5 fC c5::J5::J8::box aY #[C kd,C (-1),C (-1),C (-1),C (-1),.slice none 0 0,C (-1),C (-1)] 33::bc))
 refine au (v:=.bool ((cM fS fC).isSome)) J J<|av<|rt<|ib dB 4 J bM J J J s8 J aw ?_
 have e8:((cM fS fC).isSome:Bool)=(j0 ((I.length:Nat):Int) (Aa I U) kd).isSome:=by exact NL Bo
 have bo:=iq (fun (lu:Bool)=>(.tuple #[.agg #[C kd,C (-1),C (-1),C (-1),C (-1),.slice none 0 0,C (-1),C (-1)],.bool lu]:Value)) e8
 exact⟨kd,(-1),(-1),(-1),(-1),(-1),(-1),bo,dB.below,(by exact aaB Bo lF bq)⟩
theorem Vz:ct aJ 63:=⟨_,_,Tryz.func63,rfl,aM⟩
theorem nM:gM aJ 33 2 2:=⟨_,_,Tryz.underlying33,rfl,rfl,aM⟩
theorem CY {aaU:Nat} (hM:eD M w) (hT:fQ 0 w) (cL:cw M w ay ax I) (kb:aK cn) (fZ:aK mn) (fG:cw M w bA bz mr) (GB:aK ft) (kQ:w.heap[eB]? =some (.cells #[.slice aD aF aC,R ay I ax,.slice aA eS az,C cn,.slice dm aaU dh,.slice iy ri jw] lU (0,0))∧¬M eB) (bU:bF mn mr=true) (ahg:0≤ft∧ft<((I.length:Nat):Int)):Calls aJ 63 #[.pointer (some ⟨eB,0,none⟩),.agg #[C mn,R bA mr bz],C ft] w (cb fun v w'=>∃(a0:OA) (c0:Nat),v=.slice a0 (db I mn mr ft).length c0∧Ext w w'∧RV (fun b=>b<w.heap.size) w' (.slice a0 (db I mn mr ft).length c0) (db I mn mr ft)):=by
 refine df 24 Tryz.func63 J J J hM fun f0 ha H=>?_
 have H0:=ee H cL
 have H1:=ee H0 fG
 have fM:=aP cL
 have kA:=aP fG
 let J0:=ro eB #[.slice aD aF aC,R ay I ax,.slice aA eS az,C cn,.slice dm aaU dh,.slice iy ri jw] lU
 have H2:=H1.put (it:=J0) J<|by rw[aE rfl,aE rfl,bN];exact kQ
 have i0:f0 0=pV eB 0:=ha 0 bh
 have i1:f0 1=.agg #[C mn,R bA mr bz]:=ha 1 bh
 have i2:f0 2=C ft:=ha 2 bh
 refine aB<|k<|bx H2 J i1 ?_
 intro aY w0 bS (H3:HI M w w0 [box aY #[C mn,R bA mr bz] 26,J0,iL bA mr bz,iL ay I ax])
 refine au (v:=.slice none 0 0) J J<|av<|sq ?_
 refine Tl J (by kernel_rfl) ?_
 refine xq J<|kq (fun _ _=>mv rfl i0 e1)<|zq<|xq J<|kq (fun _ _=>nc rfl rfl e1)<|zq<|xq J<|kq (fun _ _=>fa rA rfl rfl e1)<|zq<|xq J<|kq (fun _ x_=>vA (H3.ext x_) 1 rfl dx rfl rfl aw rfl e1)<|zq<|xq J<|kq (fun _ x_=>cq (H3.ext x_) 0 rfl bm rfl rfl aw rfl e1)<|zq<|xq J<|kq (fun _ _=>mv rfl i2 e1)<|zq ?_
 refine xu (fun v w'=>∃(a0:OA) (c0:Nat),v=R a0 (eL mn mr ft) c0∧RV (fun c_=>c_<w0.heap.size) w' (R a0 (eL mn mr ft) c0) (eL mn mr ft)) J (by rintro _ _ _ x_ ⟨a0,c0,e_,dM⟩;exact⟨a0,c0,e_,dM.lift (Up.ext x_)⟩) J (fun v_ x_=>have cV:=NR (mn:=mn) (mr:=mr) (o:=ft) (w:=v_) (H3.ext x_).mb (hT.ext (H3.ext x_).below) fZ ((H3.ext x_).rv 2 rfl) GB (by exact bU);ca XY rfl (ec J<|ec J e0) cV (fun _ w2 ⟨a1,c1,e_,eT,dV⟩=>⟨_,J,eT,⟨a1,c1,e_,(bj.rvN dV x_)⟩⟩)) ?_
 refine xq J<|kq (fun _ _=>mv rfl i0 e1)<|zq<|xq J<|kq (fun _ _=>nc rfl rfl e1)<|zq<|xq J<|kq (fun _ _=>fa rA rfl rfl e1)<|zq<|xq J<|kq (fun _ _=>fa fy rfl rfl e1)<|zq<|xq J<|kq (fun _ x_=>lr (H3.ext x_) 1 rfl iR rfl rfl rfl e1)<|zq<|xq J<|kq (fun _ _=>mv rfl i2 e1)<|zq<|xq J<|tS (H3.rv 3 J) J J J J aq jn jr ?_
 intro iw x0 aQ cu
 refine zq<|xq J<|kq (fun _ _=>fa tc rfl rfl e1)<|zq<|xq J<|oW ((cu).s3).fst.w aW J J ?_
 intro iU
 refine zq ?_
 refine ZZ (fun v w'=>∃(a3:OA) (c3:Nat),v=R a3 (aZ (iE I x0.2.2.2.1)<|eL mn mr ft) c3∧RV (fun c_=>c_<w0.heap.size) w' (R a3 (aZ (iE I x0.2.2.2.1)<|eL mn mr ft) c3) (aZ (iE I x0.2.2.2.1)<|eL mn mr ft)) 0 J J (by rintro _ _ _ x_ ⟨a3,c3,e_,kZ⟩;exact⟨a3,c3,e_,kZ.lift (Up.ext x_)⟩) J (fun v_ _ x_ h_=>let ⟨a4,c4,s0,oe⟩:=h_;have dS:=(H3.ext x_).put (it:=iL a4 (eL mn mr ft) c4) rfl (KK oe H3);have eU:=DY (I:=I) (l:=(eL mn mr ft)) (vr:=x0.2.2.2.1) (aD:=aD) (aF:=aF) (aC:=aC) (aA:=aA) (eS:=eS) (az:=az) dS.mb (dS.rv 4 J) (dS.rv 0 J) iU (by have h_:=uA bU ft;omega);ca acv rfl (ec J<|ec s0<|ec J e0) eU (fun _ w4 ⟨a5,c5,e_,iN,ph⟩=>⟨_,J,iN,⟨a5,c5,e_,(bj.rvN ph x_)⟩⟩)) ?_
 refine ZZ (fun v w'=>∃(a6:OA) (c6:Nat),v=R a6 (aZ (iE I x0.2.2.2.1)<|eL mn mr ft) c6∧RV (fun c_=>c_<w0.heap.size) w' (R a6 (aZ (iE I x0.2.2.2.1)<|eL mn mr ft) c6) (aZ (iE I x0.2.2.2.1)<|eL mn mr ft)) 0 J J (by rintro _ _ _ x_ ⟨a6,c6,e_,og⟩;exact⟨a6,c6,e_,og.lift (Up.ext x_)⟩) J (fun _ _ _ h_=>let ⟨a7,c7,s1,nw⟩:=h_;jB rfl s1 ⟨_,J,Ext.refl _,⟨a7,c7,J,nw⟩⟩) ?_
 refine zx ?_
 intro w5 f0 jb cz iC
 have dR:=H3.ext jb
 obtain⟨a8,c8,s2,qh⟩:=iC 0 _ _ rfl
 have dB:=dR.put (it:=iL a8 (aZ (iE I x0.2.2.2.1)<|eL mn mr ft) c8) J<|KK qh H3
 refine nx<|rt<|r1 J J ?_
 rw[s2]
 have e0:(aZ (iE I x0.2.2.2.1) (eL mn mr ft):List Int)=db I mn mr ft:=by simp only[db,rl,aQ,BL]
 have bo:=iq (fun (bV:List Int)=>(.slice a8 bV.length c8:Value)) e0
 exact⟨a8,c8,bo,dB.below,(amh (fun (x_:List Int)=>RV _ _ (.slice a8 x_.length c8) x_) e0).mp (aaq qh H3)⟩
theorem TN (hM:eD M w) (hT:fQ 0 w) (cL:cw M w ay ax I) (eZ:cw M w aA az U) (kb:aK cn) (lG:cw M w dm dh cr) (lF:aK kd) (kQ:w.heap[eB]? =some (.cells #[.slice aD aF aC,R ay I ax,R aA U az,C cn,R dm cr dh,.slice iy ri jw] lU (0,0))∧¬M eB) (kP:bF cn cr=true) (eo:U.length=I.length):Calls aJ 35 #[.pointer (some ⟨eB,0,none⟩),C kd] w (cb fun v w'=>∃(k_:Int) (r_:Int) (a_:Int) (b_:Int) (o_:Int) (f_:Int) (s_:Int),v=.tuple #[.agg #[C k_,C r_,C a_,C b_,C o_,.slice none 0 0,C f_,C s_],.bool ((pP I U cn cr kd).isSome)]∧Ext w w'∧p9 (pP I U cn cr kd) k_ r_ a_ b_ o_):=by
 refine df 44 Tryz.func35 J J J hM fun f0 ha H=>?_
 let J0:=iL ay I ax
 have H0:=H.put (it:=J0) J<|by rw[bN];exact cL
 let J1:=iL aA U az
 have H1:=H0.put (it:=J1) J<|by rw[aE rfl,bN];exact eZ
 let J2:=iL dm cr dh
 have H2:=H1.put (it:=J2) J<|by rw[aE rfl,aE rfl,bN];exact lG
 have fM:=aP cL
 have iA:=aP eZ
 have sS:=aP lG
 let J3:=ro eB #[.slice aD aF aC,R ay I ax,R aA U az,C cn,R dm cr dh,.slice iy ri jw] lU
 have H3:=H2.put (it:=J3) J<|by rw[aE rfl,aE rfl,aE rfl,bN];exact kQ
 have i0:f0 0=pV eB 0:=ha 0 bh
 have i1:f0 1=C kd:=ha 1 bh
 refine aB<|k<|al H3 bM ?_
 let bc:=[J3,J2,J1,J0]
 intro aY w0 bS (H4:HI M w w0 (box aY #[C 0,C 0,C 0,C 0,C 0,.slice none 0 0,C 0,C 0] 33::bc))
 let J4:=box aY #[C 0,C 0,C 0,C 0,C 0,.slice none 0 0,C 0,C 0] 33
 refine au (v:=.bool false) J J<|av<|sq<|aB<|ak J i0<|k<|nc J J<|aU rA J J<|aU tg J J<|k<|lr H4 1 J qe J J J<|k<|dW J J cG<|ak (v:=C 0) J J<|av<|bk ?_
 let bY:=J4::bc
 refine lp (fun m f w'=>∃(j_:Nat),m=U.length-j_∧f 0=pV eB 0∧f 1=C kd∧f 4=pV aY 0∧f 14=R aA U az∧f 15=C (U.length:Int)∧f 16=C (j_:Int)∧HI M w w' bY∧(j_≤U.length)∧(∀q,q<j_→u0 I U cn cr q=false)) _ ⟨0,J,i0,i1,J,J,J,(bJ J),H4,aq,(by intro q h;omega)⟩ ?_
 rintro _ f0 w1 ⟨j_,rfl,s0,s1,s2,s3,s4,s5,H5,pt,hs⟩
 refine aB<|k<|lss J J s5 s4<|av<|sq ?_
 refine cd (b:=decide ((j_:Int)<(U.length:Int))) J J (fun b0=>?_)<|fun b0=>?_
 ·
  have p0:=dT b0
  refine sk<|nx<|sq<|bk<|aB<|ak J s5<|k<|ia (H5.rv 3 J) J J s3 s5 aq cG aW ?_
  intro iw x0 aQ cu
  refine k<|mQ cu.w aW J J ?_
  intro cm
  refine au (v:=C (j_:Int)) J J<|au (v:=C x0) J J<|av<|sq<|aB<|ak (v:=C x0) J J<|k<|neq J J J J<|z<|nx ?_
  refine cd (b:=!decide (x0=(-1))) J J (fun b1=>?_)<|fun b1=>?_
  ·
   have p1:=dF<|fY b1
   refine ex<|aX<|bg<|nx<|rg<|k<|add J J s5 J aV<|ak (v:=C ((j_:Int)+1)) J J<|z ?_
   refine bB _ ?_ ⟨(j_+1),J,s0,s1,s2,s3,s4,(bJ J),H5,aq,(by exact rY hs (by simp only[u0,jh aQ,b0,(fY b1),BL]))⟩
   omega
  have p1:=dT<|fk b1
  refine sk<|cI<|ak J s0<|ak J s0<|k<|nc J J<|aU xm J J<|k<|vA H5 1 J bm J J aw J<|ak (v:=C (j_:Int)) J J<|k ?_
  have bP:=CY (I:=I) (cn:=cn) (mn:=cn) (mr:=cr) (ft:=(j_:Int)) H5.mb (hT.ext H5.below) (H5.rv 4 J) kb kb (H5.rv 2 J) aV (H5.at_ 1 J) (by exact kP) aq
  refine ca Vz J (ec J<|ec J<|ec J e0) bP ?_
  rintro _ w2 ⟨a0,c0,rfl,cY,dM⟩
  have H6:=H5.ext cY
  have dV:=(dM.lift<|Up.less fun b _ hb=>H5.mb b hb)
  let J5:=iL a0 (db I cn cr (j_:Int)) c0
  have H7:=H6.put (it:=J5) J dV
  refine au (v:=R a0 (db I cn cr (j_:Int)) c0) J J<|bt<|ak (v:=R a0 (db I cn cr (j_:Int)) c0) J J<|k<|dW J J cG<|k<|gtr J J J J<|z<|nx ?_
  refine cd (b:=decide (0<((db I cn cr (j_:Int)).length:Int))) J J (fun b2=>?_)<|fun b2=>?_
  ·
   have p2:=dT b2
   refine aB<|ak J s1<|k ?_
   have cV:=qI (kd:=kd) (w:=w2) lF
   refine ca Fl J (ec J e0) cV ?_
   rintro _ w3 ⟨rfl,eT⟩
   have H8:=H7.ext eT
   refine k<|al H8 bM ?_
   let dE:=J5::bY
   intro ba w4 fB (H9:HI M w w4 (box ba #[C 0,C 0,C 0,C 0,C 0,.slice none 0 0,C 0,C 0] 33::dE))
   refine k<|bp H9 0 J bM J J J J J J J ?_
   let J6:=box ba #[C kd,C (-1),C (-1),C (-1),C (-1),.slice none 0 0,C (-1),C (-1)] 33
   intro w5 (dC:HI M w w5 (J6::dE))
   refine av<|sq ?_
   obtain⟨x1,cP⟩:∃x,(db I cn cr (j_:Int))[(0:Int).toNat]? =some x:=⟨_,eP aq⟩
   have cJ:HI M w w5 [J5,J4,J3,J2,J1,J0,J6]:=dC.bT [1,2,3,4,5,6,0] aw rfl
   let J7:=box ba #[C kd,C (j_:Int),C (-1),C (-1),C (-1),.slice none 0 0,C (-1),C (-1)] 33
   let J8:=box ba #[C kd,C (j_:Int),C x1,C (-1),C (-1),.slice none 0 0,C (-1),C (-1)] 33
   refine VM [none,none,none,none,none,some 7,none,none,some 5] [0,0,2,6,1,17,63,127] [fun _=>[],fun _=>[],fun v_=>[qJ (vP v_) x1],fun _=>[],fun _=>[],fun v_=>[J7],fun _=>[],fun v_=>[J8],fun _=>[J6]] [[],[],[],[2],[],[8],[],[5]] [fun v_=>v_=C (j_:Int),fun v_=>v_=R a0 (db I cn cr (j_:Int)) c0,fun v_=>∃(rD:Addr),v_=.pointer (some rD),fun v_=>v_=C x1∧aK (x1),fun v_=>v_=pV ba 1,fun _=>True,fun v_=>v_=pV ba 2,fun _=>True] [J5,J4,J3,J2,J1,J0] J (by kernel_rfl) J cJ ?_ ?_
   ·
    refine⟨fun f1 w8 V_ ew lQ hp0 hq0 dS=>?_,?_⟩
    ·
     have de:HI M w w8 (dE++ew):=(by have h_:HI M w w8 (dE++(ew)):=dS;exact h_)
     refine mv J (lQ 6 J) ?_
     exact⟨_,J,J,de⟩
    refine⟨fun f2 w9 V_ ew Gv I1 IW dP=>?_,?_⟩
    ·
     have dG:HI M w w9 (dE++ew):=(by have h_:HI M w w9 (dE++(ew)):=dP;exact h_)
     refine mv J (Gv 8 J) ?_
     exact⟨_,J,J,dG⟩
    refine⟨fun f3 dD V_ ew gH Sp nn dR=>?_,?_⟩
    ·
     obtain⟨e0,q0⟩:=Sp 1 _ rfl rfl rfl
     have e1:V_ 1=R a0 (db I cn cr (j_:Int)) c0:=q0
     have s6:f3 36=R a0 (db I cn cr (j_:Int)) c0:=e0.trans e1
     have dB:HI M w dD (dE++ew):=(by have h_:HI M w dD (dE++(ew)):=dR;exact h_)
     refine ia (dB.rv 0 J) J J s6 J aq cG aW ?_
     intro pZ x2 iW la
     obtain rfl:x1=x2:=amo (cP.symm.trans iW)
     have eO:=dB.put (it:=qJ pZ x1) J la
     have fc:HI M w dD ((qJ pZ x1::dE)++ew):=eO
     have gI:=HI.aR (l:=(qJ pZ x1::dE)) (l':=[J5,J4,J3,J2,J1,J0,qJ pZ x1]) (t:=ew) fc [1,2,3,4,5,6,0] aw J J
     exact⟨_,J,⟨pZ,J⟩,gI⟩
    refine⟨fun f4 eb V_ ew zM yg D5 iD=>?_,?_⟩
    ·
     obtain⟨e2,q1⟩:=yg 2 _ rfl rfl rfl
     obtain⟨vK,e3⟩:∃(vK:Addr),V_ 2=.pointer (some vK):=q1
     have s7:f4 37=.pointer (some vK):=e2.trans e3
     have ga:HI M w eb ([iL a0 (db I cn cr (j_:Int)) c0,box aY #[C 0,C 0,C 0,C 0,C 0,.slice none 0 0,C 0,C 0] 33,ro eB #[.slice aD aF aC,R ay I ax,R aA U az,C cn,R dm cr dh,.slice iy ri jw] lU,iL dm cr dh,iL aA U az,iL ay I ax,qJ vK x1]++ew):=(by have h_:HI M w eb ([iL a0 (db I cn cr (j_:Int)) c0,box aY #[C 0,C 0,C 0,C 0,C 0,.slice none 0 0,C 0,C 0] 33,ro eB #[.slice aD aF aC,R ay I ax,R aA U az,C cn,R dm cr dh,.slice iy ri jw] lU,iL dm cr dh,iL aA U az,iL ay I ax]++([qJ (vP (V_ 2)) x1]++(ew))):=iD;rw[e3] at h_;exact h_)
     refine mQ (ga.atv 6 J).w aW J s7 ?_
     intro iU
     exact⟨_,J,⟨J,iU⟩,(by have h_:=ga;rw[show (vK:Addr)=(vP<|V_ 2) from by rw[e3]<;>rfl] at h_;exact h_)⟩
    refine⟨fun f5 ff V_ ew Xk D7 D4 il=>?_,?_⟩
    ·
     have n3:HI M w ff (dE++ew):=(by have h_:HI M w ff (dE++(ew)):=il;exact h_)
     refine fa pA J (Xk 9 J) ?_
     exact⟨_,J,J,n3⟩
    refine⟨fun f6 hQ V_ ew hs5 Ol hq5 nZ=>?_,?_⟩
    ·
     obtain⟨e4,q2⟩:=Ol 0 _ rfl rfl rfl
     have e5:V_ 0=C (j_:Int):=q2
     have s8:f6 35=C (j_:Int):=e4.trans e5
     obtain⟨e6,q3⟩:=Ol 4 _ rfl rfl rfl
     have e7:V_ 4=pV ba 1:=q3
     have s9:f6 39=pV ba 1:=e6.trans e7
     have j9:HI M w hQ ([J5,J4,J3,J2,J1,J0,J6]++ew):=(by have h_:HI M w hQ (dE++([J6]++(ew))):=nZ;exact h_)
     refine bp j9 6 J aW J J s9 s8 J J J ?_
     intro iO (rF:HI M w iO ([J5,J4,J3,J2,J1,J0,J7]++ew))
     exact⟨undef,J,trivial,rF⟩
    refine⟨fun f7 oM V_ ew hs6 I0 hq6 C'=>?_,?_⟩
    ·
     have kl:HI M w oM (dE++ew):=(by have h_:HI M w oM (dE++(ew)):=C';exact h_)
     refine fa nM J (hs6 9 J) ?_
     exact⟨_,J,J,kl⟩
    refine⟨fun f8 wz V_ ew hs7 IZ hq7 ng=>?_,?_⟩
    ·
     obtain⟨e8,q4⟩:=IZ 3 _ rfl rfl rfl
     obtain⟨e9,jO⟩:V_ 3=C x1∧aK (x1):=q4
     have ej:f8 38=C x1:=e8.trans e9
     obtain⟨Tj,q5⟩:=IZ 6 _ rfl rfl rfl
     have rC:V_ 6=pV ba 2:=q5
     have eY:f8 40=pV ba 2:=Tj.trans rC
     have yJ:HI M w wz ([J5,J4,J3,J2,J1,J0,J7]++ew):=(by have h_:HI M w wz (dE++([J7]++(ew))):=ng;exact h_)
     refine bp yJ 6 J aW J J eY ej J J J ?_
     intro sD (qZ:HI M w sD ([J5,J4,J3,J2,J1,J0,J8]++ew))
     exact⟨undef,J,trivial,qZ⟩
    exact trivial
   ·
    intro f9 uo V_ Xj Bq qa
    obtain⟨sm,q6⟩:=Bq 2 _ rfl rfl
    obtain⟨u3,rB⟩:∃(u3:Addr),V_ 2=.pointer (some u3):=q6
    have fJ:=(Xj 4 J).trans s2
    have gx:f9 9=pV ba 0:=Xj 9 rfl
    have Yh:HI M w uo [iL a0 (db I cn cr (j_:Int)) c0,box aY #[C 0,C 0,C 0,C 0,C 0,.slice none 0 0,C 0,C 0] 33,ro eB #[.slice aD aF aC,R ay I ax,R aA U az,C cn,R dm cr dh,.slice iy ri jw] lU,iL dm cr dh,iL aA U az,iL ay I ax,qJ u3 x1,box ba #[C kd,C (j_:Int),C x1,C (-1),C (-1),.slice none 0 0,C (-1),C (-1)] 33]:=(by have h_:HI M w uo ([iL a0 (db I cn cr (j_:Int)) c0,box aY #[C 0,C 0,C 0,C 0,C 0,.slice none 0 0,C 0,C 0] 33,ro eB #[.slice aD aF aC,R ay I ax,R aA U az,C cn,R dm cr dh,.slice iy ri jw] lU,iL dm cr dh,iL aA U az,iL ay I ax]++([]++([]++([qJ (vP (V_ 2)) x1]++([]++([]++([]++([box ba #[C kd,C (j_:Int),C x1,C (-1),C (-1),.slice none 0 0,C (-1),C (-1)] 33]++([]))))))))):=qa;rw[rB] at h_;exact h_)
    refine cI<|k<|cq Yh 7 J bM J gx aw J<|k<|bp Yh 1 J bM J J fJ J J J J ?_
    intro xK (Jt:HI M w xK [J5,box aY #[C kd,C (j_:Int),C x1,C (-1),C (-1),.slice none 0 0,C (-1),C (-1)] 33,J3,J2,J1,J0,qJ u3 x1,J8])
    refine au (v:=.bool true) J J<|av<|rt<|bQ<|aL<|dQ<|bQ<|aL ?_
    have qw:=Dx (n:=U.length) hs aq<|show u0 I U cn cr j_=true by simp only[u0,jh aQ,cP,b0,(fk b1),b2,BL]
    refine ib Jt 1 J bM J J J fJ J aw ?_
    have e8:(true:Bool)=(pP I U cn cr kd).isSome:=by exact acT qw
    have bo:=iq (fun (lu:Bool)=>(.tuple #[.agg #[C kd,C (j_:Int),C x1,C (-1),C (-1),.slice none 0 0,C (-1),C (-1)],.bool lu]:Value)) e8
    exact⟨kd,(j_:Int),x1,(-1),(-1),(-1),(-1),bo,Jt.below,(by exact afa lF qw aq cP (MA kP cP))⟩
  have p2:=dF b2
  refine sk<|aI<|nx<|rg<|k<|add J J s5 J aV<|ak (v:=C ((j_:Int)+1)) J J<|z ?_
  have H8:HI M w w2 bY:=H7.bT [1,2,3,4,5] aw rfl
  refine bB _ ?_ ⟨(j_+1),J,s0,s1,s2,s3,s4,(bJ J),H8,aq,(by exact rY hs (by simp only[u0,jh aQ,b0,(fk b1),b2,BL]))⟩
  omega
 have p0:=dF b0
 refine ex<|aX<|bf<|bg<|cI<|k<|bd (v:=.agg #[C 0,C 0,C 0,C 0,C 0,.slice none 0 0,C 0,C 0]) J ey (fun _=>aM)<|k<|bp H5 0 J bM J J s2 J J J J ?_
 intro w2 (H6:HI M w w2 bY)
 refine au (v:=.bool false) J J<|av<|rt ?_
 have qw:z7 I U cn cr=none:=A4 hs aq
 refine ib H6 0 J bM J J J s2 J aw ?_
 have e8:(false:Bool)=(pP I U cn cr kd).isSome:=by rw[Tg qw];rfl
 have bo:=iq (fun (lu:Bool)=>(.tuple #[.agg #[C 0,C 0,C 0,C 0,C 0,.slice none 0 0,C 0,C 0],.bool lu]:Value)) e8
 exact⟨0,0,0,0,0,0,0,bo,H6.below,(by exact tJ (Tg qw) Nw)⟩
theorem zZ:gM aJ 33 3 3:=⟨_,_,Tryz.underlying33,rfl,rfl,aM⟩
theorem Nn (hM:eD M w) (hT:fQ 0 w) (cL:cw M w ay ax I) (eZ:cw M w aA az U) (kb:aK cn) (lG:cw M w dm dh cr) (lF:aK kd) (kQ:w.heap[eB]? =some (.cells #[.slice aD aF aC,R ay I ax,R aA U az,C cn,R dm cr dh,.slice iy ri jw] lU (0,0))∧¬M eB) (kP:bF cn cr=true) (eo:U.length=I.length):Calls aJ 36 #[.pointer (some ⟨eB,0,none⟩),C kd] w (cb fun v w'=>∃(k_:Int) (r_:Int) (a_:Int) (b_:Int) (o_:Int) (f_:Int) (s_:Int),v=.tuple #[.agg #[C k_,C r_,C a_,C b_,C o_,.slice none 0 0,C f_,C s_],.bool ((pQ I U cn cr kd).isSome)]∧Ext w w'∧p9 (pQ I U cn cr kd) k_ r_ a_ b_ o_):=by
 refine df 60 Tryz.func36 J J J hM fun f0 ha H=>?_
 let J0:=iL ay I ax
 have H0:=H.put (it:=J0) J<|by rw[bN];exact cL
 let J1:=iL aA U az
 have H1:=H0.put (it:=J1) J<|by rw[aE rfl,bN];exact eZ
 let J2:=iL dm cr dh
 have H2:=H1.put (it:=J2) J<|by rw[aE rfl,aE rfl,bN];exact lG
 have fM:=aP cL
 have iA:=aP eZ
 have sS:=aP lG
 let J3:=ro eB #[.slice aD aF aC,R ay I ax,R aA U az,C cn,R dm cr dh,.slice iy ri jw] lU
 have H3:=H2.put (it:=J3) J<|by rw[aE rfl,aE rfl,aE rfl,bN];exact kQ
 have i0:f0 0=pV eB 0:=ha 0 bh
 have i1:f0 1=C kd:=ha 1 bh
 refine aB<|k<|al H3 bM ?_
 let bc:=[J3,J2,J1,J0]
 intro aY w0 bS (H4:HI M w w0 (box aY #[C 0,C 0,C 0,C 0,C 0,.slice none 0 0,C 0,C 0] 33::bc))
 let J4:=box aY #[C 0,C 0,C 0,C 0,C 0,.slice none 0 0,C 0,C 0] 33
 refine au (v:=.bool false) J J<|av<|sq<|aB<|ak J i0<|k<|nc J J<|aU rA J J<|aU tg J J<|k<|lr H4 1 J qe J J J<|k<|dW J J cG<|ak (v:=C 0) J J<|av<|bk ?_
 refine lp (fun m f w'=>∃(j_:Nat),m=U.length-j_∧f 0=pV eB 0∧f 1=C kd∧f 4=pV aY 0∧f 15=R aA U az∧f 16=C (U.length:Int)∧f 17=C (j_:Int)∧HI M w w' (J4::bc)∧(j_≤U.length)∧(∀q,q<j_→vq I U cn cr q=false)) _ ⟨0,J,i0,i1,J,J,J,(bJ J),H4,aq,(by intro q h;omega)⟩ ?_
 rintro _ f0 w1 ⟨j_,rfl,s0,s1,s2,s3,s4,s5,H5,pt,hs⟩
 refine aB<|k<|lss J J s5 s4<|av<|sq ?_
 refine cd (b:=decide ((j_:Int)<(U.length:Int))) J J (fun b0=>?_)<|fun b0=>?_
 ·
  have p0:=dT b0
  refine sk<|nx<|sq<|bk<|aB<|ak J s5<|k<|ia (H5.rv 3 J) J J s3 s5 aq cG aW ?_
  intro iw x0 aQ cu
  refine k<|mQ cu.w aW J J ?_
  intro cm
  refine au (v:=C (j_:Int)) J J<|au (v:=C x0) J J<|av<|sq<|aB<|ak (v:=C x0) J J<|k<|lss J J J J<|z<|nx ?_
  refine cd (b:=decide (x0<0)) J J (fun b1=>?_)<|fun b1=>?_
  ·
   have p1:=dT b1
   refine ex<|aX<|bg<|nx<|rg<|k<|add J J s5 J aV<|ak (v:=C ((j_:Int)+1)) J J<|z ?_
   refine bB _ ?_ ⟨(j_+1),J,s0,s1,s2,s3,s4,(bJ J),H5,aq,(by exact ac' hs aQ ‹_›)⟩
   omega
  have p1:=dF b1
  refine sk<|cI<|ak J s0<|ak J s0<|k<|nc J J<|aU xm J J<|k<|vA H5 1 J bm J J aw J<|ak (v:=C (j_:Int)) J J<|k ?_
  have bP:=CY (I:=I) (cn:=cn) (mn:=cn) (mr:=cr) (ft:=(j_:Int)) H5.mb (hT.ext H5.below) (H5.rv 4 J) kb kb (H5.rv 2 J) aV (H5.at_ 1 J) (by exact kP) aq
  refine ca Vz J (ec J<|ec J<|ec J e0) bP ?_
  rintro _ w2 ⟨a0,c0,rfl,cY,dM⟩
  have H6:=H5.ext cY
  have dV:=(dM.lift<|Up.less fun b _ hb=>H5.mb b hb)
  let J5:=iL a0 (db I cn cr (j_:Int)) c0
  have H7:=H6.put (it:=J5) J dV
  refine k<|dW J J cG<|ak (v:=C 0) J J<|av<|bk ?_
  let bY:=J5::J4::bc
  refine lp (fun m f w'=>∃(q_:Nat),m=(db I cn cr (j_:Int)).length-q_∧f 0=pV eB 0∧f 1=C kd∧f 4=pV aY 0∧f 6=C (j_:Int)∧f 7=C x0∧f 15=R aA U az∧f 16=C (U.length:Int)∧f 17=C (j_:Int)∧f 30=R a0 (db I cn cr (j_:Int)) c0∧f 31=C ((db I cn cr (j_:Int)).length:Int)∧f 32=C (q_:Int)∧HI M w w' bY∧(q_≤(db I cn cr (j_:Int)).length)∧(∀y∈(db I cn cr (j_:Int)).take q_,(y' cn cr x0) y=false)) _ ⟨0,J,s0,s1,s2,J,J,s3,s4,s5,J,J,(bJ J),H7,aq,bh⟩ ?_
  rintro _ f1 w3 ⟨q_,rfl,s6,s7,s8,s9,ej,eY,fK,fJ,gx,gP,kr,H8,sf,gH⟩
  refine sq ?_
  have la_:=QF kP I (j_:Int)
  refine rg<|k<|lss J J kr gP<|av<|sq ?_
  refine cd (b:=decide ((q_:Int)<((db I cn cr (j_:Int)).length:Int))) J J (fun b2=>?_)<|fun b2=>?_
  ·
   have p2:=dT b2
   refine sk<|nx<|sq<|bk<|aB<|k<|ia (H8.rv 0 J) J J gx kr aq cG aW ?_
   intro rD x1 cP gK
   refine k<|mQ gK.w aW J J ?_
   intro fq
   refine au (v:=C x1) J J<|bt<|ak (v:=C x1) J J<|ak J ej<|k<|neq J J J J<|ak (v:=.bool (!decide (x1=x0))) J J ?_
   rcases bE (!decide (x1=x0)) with b3|b3
   ·
    have p3:=dF<|fY b3
    refine aT J J J b3<|mv J s6<|aT J J J b3<|nc J J<|aT J J J b3<|fa xm J J<|aT J J J b3<|vA H8 2 J bm J J aw J<|aT J J J b3<|mv J ej<|aT J J J b3<|mv (v:=C x1) J J<|aT J J J b3 ?_
    have cV:=tU (mn:=cn) (mr:=cr) (i:=x0) (j:=x1) H8.mb kb (H8.rv 3 J) cm fq (by exact(bO kP).1) (by exact(bO kP).2.1)<|by exact(bO kP).2.2.1
    refine ca Fk J (ec J<|ec J<|ec J e0) cV ?_
    rintro _ w4 ⟨rfl,eT⟩
    have H9:=H8.ext eT
    refine k<|aR J J J J b3 J<|z<|nx ?_
    refine cd (b:=eC cn cr x0 x1) J J (fun b4=>?_)<|fun b4=>?_
    ·
     refine sq ?_
     obtain⟨qw,CB,ha_⟩:=ada hs aq aQ ‹_› gH cP (fY ‹(!decide (x1=x0))=true›) ‹_›
     refine rg<|ak J s7<|k ?_
     have fT:=qI (kd:=kd) (w:=w4) lF
     refine ca Fl J (ec J e0) fT ?_
     rintro _ w5 ⟨rfl,fB⟩
     have dC:=H9.ext fB
     refine k<|al dC bM ?_
     intro ba w6 iN (cT:HI M w w6 (box ba #[C 0,C 0,C 0,C 0,C 0,.slice none 0 0,C 0,C 0] 33::bY))
     refine k<|bp cT 0 J bM J J J J J J J ?_
     intro w7 (dt:HI M w w7 (box ba #[C kd,C (-1),C (-1),C (-1),C (-1),.slice none 0 0,C (-1),C (-1)] 33::bY))
     refine bt<|ak J s9<|ak J ej<|ak (v:=C x1) J J<|aU pA J J<|k<|bp dt 0 J aW J J J J J J J ?_
     intro w8 (dw:HI M w w8 (box ba #[C kd,C (j_:Int),C (-1),C (-1),C (-1),.slice none 0 0,C (-1),C (-1)] 33::bY))
     refine aU nM J J<|k<|bp dw 0 J aW J J J J J J J ?_
     intro w9 (cJ:HI M w w9 (box ba #[C kd,C (j_:Int),C x0,C (-1),C (-1),.slice none 0 0,C (-1),C (-1)] 33::bY))
     refine aU zZ J J<|k<|bp cJ 0 J aW J J J J J J J ?_
     let J6:=box ba #[C kd,C (j_:Int),C x0,C x1,C (-1),.slice none 0 0,C (-1),C (-1)] 33
     intro dD (dS:HI M w dD (J6::bY))
     refine bt<|k<|cq dS 0 J bM J J aw J<|k<|bp dS 2 J bM J J s8 J J J J ?_
     intro eb (de:HI M w eb (J6::J5::box aY #[C kd,C (j_:Int),C x0,C x1,C (-1),.slice none 0 0,C (-1),C (-1)] 33::bc))
     refine au (v:=.bool true) J J<|av<|rt<|bQ<|aL<|dQ<|bQ<|bQ<|aL<|dQ<|bQ<|aL<|ib de 2 J bM J J J s8 J aw ?_
     have e8:(true:Bool)=(pQ I U cn cr kd).isSome:=by exact ac4 qw
     have bo:=iq (fun (lu:Bool)=>(.tuple #[.agg #[C kd,C (j_:Int),C x0,C x1,C (-1),.slice none 0 0,C (-1),C (-1)],.bool lu]:Value)) e8
     exact⟨kd,(j_:Int),x0,x1,(-1),(-1),(-1),bo,de.below,(by exact afc lF qw CB ha_ aq bq (MA kP cP))⟩
    refine sk<|aI<|nx<|rg<|k<|add J J kr J aV<|ak (v:=C ((q_:Int)+1)) J J<|z ?_
    refine bB _ ?_ ⟨(q_+1),J,s6,s7,s8,s9,ej,eY,fK,fJ,gx,gP,(bJ J),H9,aq,(by exact N9 gH cP (by simp only[y',b0,b1,b2,(fY b3),b4,BL]))⟩
    omega
   have p3:=dT<|fk b3
   refine aN J J J b3<|aN J J J b3<|aN J J J b3<|aN J J J b3<|aN J J J b3<|aN J J J b3<|aN J J J b3<|k<|cK J J J J b3 J<|av<|nP J J J<|sk<|aI<|nx<|rg<|k<|add J J kr J aV<|ak (v:=C ((q_:Int)+1)) J J<|z ?_
   refine bB _ ?_ ⟨(q_+1),J,s6,s7,s8,s9,ej,eY,fK,fJ,gx,gP,(bJ J),H8,aq,(by exact N9 gH cP (by simp only[y',b0,b1,b2,(fk b3),BL]))⟩
   omega
  have p2:=dF b2
  refine ex<|aX<|bf<|bg<|aI<|nx<|rg<|k<|add J J fJ J aV<|ak (v:=C ((j_:Int)+1)) J J<|z ?_
  have H9:HI M w w3 (J4::bc):=H8.bT [1,2,3,4,5] aw rfl
  refine bB _ ?_ ⟨(j_+1),J,s6,s7,s8,eY,fK,(bJ J),H9,aq,(by exact We hs aQ gH aq)⟩
  omega
 have p0:=dF b0
 refine ex<|aX<|bf<|bg<|cI<|k<|bd (v:=.agg #[C 0,C 0,C 0,C 0,C 0,.slice none 0 0,C 0,C 0]) J ey (fun _=>aM)<|k<|bp H5 0 J bM J J s2 J J J J ?_
 intro w2 (H6:HI M w w2 (J4::bc))
 refine au (v:=.bool false) J J<|av<|rt ?_
 have qw:FC I U cn cr=none:=A4 hs aq
 refine ib H6 0 J bM J J J s2 J aw ?_
 have e8:(false:Bool)=(pQ I U cn cr kd).isSome:=by rw[TD qw];rfl
 have bo:=iq (fun (lu:Bool)=>(.tuple #[.agg #[C 0,C 0,C 0,C 0,C 0,.slice none 0 0,C 0,C 0],.bool lu]:Value)) e8
 exact⟨0,0,0,0,0,0,0,bo,H6.below,(by exact tJ (TD qw) Nw)⟩
theorem acy:ct aJ 67:=⟨_,_,Tryz.func67,rfl,aM⟩
theorem Wi (kb:aK cn) (lF:aK kd) (hT:fQ 0 w) (ho:gL I) (dp:I.length≤64) (eo:U.length=I.length) (fE:∀x∈U,x<((I.length:Nat):Int)) (nY:cn=((I.length:Nat):Int)) (pw:cr=cp I U) (hsw:iy=none∧sw=[]∨sw=eK I U) (H:HI M w w_ ([box eB #[.slice aD aF aC,R ay I ax,R aA U az,C cn,R dm cr dh,R iy sw jw] 80,iL ay I ax,iL aA U az,iL dm cr dh,oL w 26 iy sw jw]++r)):Calls aJ 39 #[pV eB 0,C kd] w_ (cb fun v w'=>∃(k_:Int) (r_:Int) (a_:Int) (b_:Int) (o_:Int) (f_:Int) (s_:Int) (v7:OA) (vZ:Nat),v=.tuple #[.agg #[C k_,C r_,C a_,C b_,C o_,.slice none 0 0,C f_,C s_],.bool ((r5 I U kd).isSome)]∧HI M w w' ([box eB #[.slice aD aF aC,R ay I ax,R aA U az,C cn,R dm cr dh,.slice v7 (eK I U).length vZ] 80,iL ay I ax,iL aA U az,iL dm cr dh,oL w 26 v7 (eK I U) vZ]++r)∧p9 (r5 I U kd) k_ r_ a_ b_ o_):=by
 refine enter 34 Tryz.func39 J J J fun f0 ha=>?_
 have fM:=aP<|H.rv 1 J
 have iA:=aP<|H.rv 2 J
 have sS:=aP<|H.rv 3 J
 have W7:=j1<|H.at_ 4 J
 have i0:f0 0=pV eB 0:=ha 0 bh
 have i1:f0 1=C kd:=ha 1 bh
 refine aB<|k<|al H bM ?_
 let J1:=box eB #[.slice aD aF aC,R ay I ax,R aA U az,C cn,R dm cr dh,R iy sw jw] 80
 let J2:=iL ay I ax
 let J3:=iL aA U az
 let J4:=iL dm cr dh
 let J5:=oL w 26 iy sw jw
 intro aY w0 bS (H0:HI M w w0 ([box aY #[C 0,C 0,C 0,C 0,C 0,.slice none 0 0,C 0,C 0] 33,J1,J2,J3,J4,J5]++r))
 let J0:=box aY #[C 0,C 0,C 0,C 0,C 0,.slice none 0 0,C 0,C 0] 33
 refine au (v:=.bool false) J J<|av<|sq<|aB<|ak J i0<|k ?_
 have H1:HI M w w0 ([J1,J2,J3,J4,J5]++([J0]++r)):=HI.aR (l:=[J0,J1,J2,J3,J4,J5]) (l':=[J1,J2,J3,J4,J5,J0]) (t:=r) H0 [1,2,3,4,5,0] aw rfl rfl
 have bP:=OT (eB:=eB) (aD:=aD) (aF:=aF) (aC:=aC) (ay:=ay) (ax:=ax) (I:=I) (aA:=aA) (az:=az) (U:=U) (cn:=cn) (dm:=dm) (dh:=dh) (cr:=cr) (iy:=iy) (jw:=jw) (sw:=sw) (w:=w) (w_:=w0) (r:=([J0]++r)) (M:=M) kb hT (by exact ho) (by exact dp) (by exact eo) (by exact fE) (by exact nY) (by exact pw) aq H1
 refine ca acy J (ec J e0) bP ?_
 rintro _ w1 ⟨a0,c0,rfl,H2⟩
 let J6:=box eB #[.slice aD aF aC,R ay I ax,R aA U az,C cn,R dm cr dh,R a0 (eK I U) c0] 80
 let J7:=oL w 26 a0 (eK I U) c0
 refine k<|dW J J Hl<|ak (v:=C 0) J J<|av<|bk ?_
 let bc:=[J6,J2,J3,J4,J7,J0]
 refine lp (fun m f w'=>∃(j_:Nat),m=I.length-j_∧f 1=C kd∧f 4=pV aY 0∧f 12=R a0 (eK I U) c0∧f 13=C ((eK I U).length:Int)∧f 14=C (j_:Int)∧HI M w w' (bc++r)∧(j_≤I.length)∧(∀q,q<j_→WN I U q=false)) _ ⟨0,J,i1,J,J,J,(bJ J),H2,aq,(by intro q h;omega)⟩ ?_
 rintro _ f0 w2 ⟨j_,rfl,s0,s1,s2,s3,s4,H4,pt,hs⟩
 refine aB<|k<|lss J J s4 s3<|av<|sq ?_
 refine cd (b:=decide ((j_:Int)<((eK I U).length:Int))) J J (fun b0=>?_)<|fun b0=>?_
 ·
  have p0:=dT b0
  refine sk<|nx<|sq<|bk<|aB<|ak J s4<|k<|ic (H4.at_ 4 J) J J s2 s4 aq Hl bm ?_
  intro g0 x0 im aQ cu
  refine k<|nj cu bm J J ?_
  intro v0 cm
  obtain⟨_,⟨_,_,rfl,⟨rfl,dM⟩,⟨v1,rfl,dV⟩⟩,rfl⟩:=cm
  obtain⟨a1,c1,rfl,fq⟩:=RS.explicit dV
  let J8:=iL a1 x0.2 c1
  have H5:=H4.put (it:=J8) J<|by exact fq
  refine k<|al H5 bm ?_
  intro ba w3 cY (H7:HI M w w3 ((box ba #[C 0,.slice none 0 0] 26::J8::bc)++r))
  refine au (v:=C (j_:Int)) J J<|k<|bp H7 0 J bm J J J J J J J ?_
  let J9:=box ba #[C x0.1,R a1 x0.2 c1] 26
  let bY:=J9::J8::bc
  intro w4 (H8:HI M w w4 (bY++r))
  refine av<|sq ?_
  obtain⟨Gz,SJ⟩:=NK aQ
  have yW:x0.1=((I.length:Nat):Int):=by rw[SJ]
  have yV:x0.2=(cQ I U (j_:Int)):=by rw[SJ]
  have Pj:bF x0.1 x0.2=true:=by rw[yW,yV];exact FZ dp Gz
  refine rg<|k<|cq H8 0 J bm J J aw J<|k ?_
  have cV:=yd (mn:=x0.1) (mr:=x0.2) H8.mb dM (H8.rv 1 J)<|by exact Pj
  refine ca Qd J (ec J e0) cV ?_
  rintro _ w5 ⟨rfl,eT⟩
  have H9:=H8.ext eT
  refine ak (v:=.tuple #[C (((cM x0.1 x0.2).getD 0:Nat):Int),.bool ((cM x0.1 x0.2).isSome)]) J J<|k<|xt J J J<|k<|xt J J J<|au (v:=C (((cM x0.1 x0.2).getD 0:Nat):Int)) J J<|au (v:=.bool ((cM x0.1 x0.2).isSome)) J J<|bt<|ak (v:=.bool ((cM x0.1 x0.2).isSome)) J J<|z<|nx ?_
  refine cd (b:=(cM x0.1 x0.2).isSome) J J (fun b1=>?_)<|fun b1=>?_
  ·
   refine aB<|ak J s0<|k ?_
   have fT:=qI (kd:=kd) (w:=w5) lF
   refine ca Fl J (ec J e0) fT ?_
   rintro _ w6 ⟨rfl,fB⟩
   have dC:=H9.ext fB
   refine k<|al dC bM ?_
   intro bD w7 iN (cT:HI M w w7 ((box bD #[C 0,C 0,C 0,C 0,C 0,.slice none 0 0,C 0,C 0] 33::bY)++r))
   refine k<|bp cT 0 J bM J J J J J J J ?_
   intro w8 (dt:HI M w w8 ((box bD #[C kd,C (-1),C (-1),C (-1),C (-1),.slice none 0 0,C (-1),C (-1)] 33::bY)++r))
   refine bt<|ak (v:=C (j_:Int)) J J<|ak (v:=C (((cM x0.1 x0.2).getD 0:Nat):Int)) J J<|aU mX J J<|k<|bp dt 0 J aW J J J J J J J ?_
   intro w9 (dw:HI M w w9 ((box bD #[C kd,C (-1),C (-1),C (-1),C (j_:Int),.slice none 0 0,C (-1),C (-1)] 33::bY)++r))
   refine aU nM J J<|k<|bp dw 0 J aW J J J J J J J ?_
   let dK:=box bD #[C kd,C (-1),C (((cM x0.1 x0.2).getD 0:Nat):Int),C (-1),C (j_:Int),.slice none 0 0,C (-1),C (-1)] 33
   intro dD (cJ:HI M w dD ((dK::bY)++r))
   refine bt<|k<|cq cJ 0 J bM J J aw J<|k<|bp cJ 8 J bM J J s1 J J J J ?_
   let ez:=box aY #[C kd,C (-1),C (((cM x0.1 x0.2).getD 0:Nat):Int),C (-1),C (j_:Int),.slice none 0 0,C (-1),C (-1)] 33
   intro eb (dS:HI M w eb ([dK,J9,J8,J6,J2,J3,J4,J7,ez]++r))
   refine au (v:=.bool true) J J<|av<|rt<|bQ<|aL<|dQ<|bQ<|aL ?_
   have tw:(cM ((I.length:Nat):Int) (cQ I U (j_:Int))).isSome=true:=by rw[←yW,←yV];assumption
   have qw:It I U=some j_:=Dx hs Gz tw
   refine ib dS 8 J bM J J J s1 J aw ?_
   have de:=HI.aR (l:=[dK,J9,J8,J6,J2,J3,J4,J7,ez]) (l':=[J6,J2,J3,J4,J7]) (t:=r) dS [3,4,5,6,7] aw J J
   have e0:(true:Bool)=(r5 I U kd).isSome:=by exact adT qw
   try rw[←e0]
   refine⟨kd,(-1),(((cM x0.1 x0.2).getD 0:Nat):Int),(-1),(j_:Int),(-1),(-1),a0,c0,?_,?_,(by rw[yW,yV];exact agP lF qw Gz dp tw)⟩
   · first|rfl|simp only[e0]|(simp only[ami])
   · first|exact de|simpa +zetaDelta only[e0,ami] using de
  refine sk<|aI<|nx<|rg<|k<|add J J s4 J aV<|ak (v:=C ((j_:Int)+1)) J J<|z ?_
  have dC:HI M w w5 (bc++r):=HI.aR (l:=bY) (l':=bc) (t:=r) H9 [2,3,4,5,6,7] aw rfl rfl
  refine bB _ ?_ ⟨(j_+1),J,s0,s1,s2,s3,(bJ J),dC,aq,(by exact rY hs (by unfold WN;rw[←yW,←yV];assumption))⟩
  omega
 have p0:=dF b0
 refine ex<|aX<|bf<|bg<|cI<|k<|bd (v:=.agg #[C 0,C 0,C 0,C 0,C 0,.slice none 0 0,C 0,C 0]) J ey (fun _=>aM)<|k<|bp H4 5 J bM J J s1 J J J J ?_
 intro w3 (H5:HI M w w3 (bc++r))
 refine au (v:=.bool false) J J<|av<|rt ?_
 have qw:It I U=none:=A4 hs (by rw[Aw] at p0;omega)
 refine ib H5 5 J bM J J J s1 J aw ?_
 have H6:=HI.aR (l:=bc) (l':=[J6,J2,J3,J4,J7]) (t:=r) H5 [0,1,2,3,4] aw J J
 have e0:(false:Bool)=(r5 I U kd).isSome:=by rw[WM qw];rfl
 try rw[←e0]
 refine⟨0,0,0,0,0,0,0,a0,c0,?_,?_,(by exact tJ (WM qw) Nw)⟩
 · first|rfl|simp only[e0]|(simp only[ami])
 · first|exact H6|simpa +zetaDelta only[e0,ami] using H6
theorem TM (kb:aK cn) (lF:aK kd) (hT:fQ 0 w) (ho:gL I) (dp:I.length≤64) (eo:U.length=I.length) (fE:∀x∈U,x<((I.length:Nat):Int)) (nY:cn=((I.length:Nat):Int)) (pw:cr=cp I U) (hsw:iy=none∧sw=[]∨sw=eK I U) (H:HI M w w_ ([box eB #[.slice aD aF aC,R ay I ax,R aA U az,C cn,R dm cr dh,R iy sw jw] 80,iL ay I ax,iL aA U az,iL dm cr dh,oL w 26 iy sw jw]++r)):Calls aJ 38 #[pV eB 0,C kd] w_ (cb fun v w'=>∃(k_:Int) (r_:Int) (a_:Int) (b_:Int) (o_:Int) (f_:Int) (s_:Int) (v7:OA) (vZ:Nat),v=.tuple #[.agg #[C k_,C r_,C a_,C b_,C o_,.slice none 0 0,C f_,C s_],.bool ((r6 I U kd).isSome)]∧HI M w w' ([box eB #[.slice aD aF aC,R ay I ax,R aA U az,C cn,R dm cr dh,.slice v7 (eK I U).length vZ] 80,iL ay I ax,iL aA U az,iL dm cr dh,oL w 26 v7 (eK I U) vZ]++r)∧p9 (r6 I U kd) k_ r_ a_ b_ o_):=by
 refine enter 63 Tryz.func38 J J J fun f0 ha=>?_
 have fM:=aP<|H.rv 1 J
 have iA:=aP<|H.rv 2 J
 have sS:=aP<|H.rv 3 J
 have W7:=j1<|H.at_ 4 J
 have i0:f0 0=pV eB 0:=ha 0 bh
 have i1:f0 1=C kd:=ha 1 bh
 refine aB<|k<|al H bM ?_
 let J1:=box eB #[.slice aD aF aC,R ay I ax,R aA U az,C cn,R dm cr dh,R iy sw jw] 80
 let J2:=iL ay I ax
 let J3:=iL aA U az
 let J4:=iL dm cr dh
 let J5:=oL w 26 iy sw jw
 intro aY w0 bS (H0:HI M w w0 ([box aY #[C 0,C 0,C 0,C 0,C 0,.slice none 0 0,C 0,C 0] 33,J1,J2,J3,J4,J5]++r))
 let J0:=box aY #[C 0,C 0,C 0,C 0,C 0,.slice none 0 0,C 0,C 0] 33
 refine au (v:=.bool false) J J<|av<|sq<|aB<|ak J i0<|k ?_
 have H1:HI M w w0 ([J1,J2,J3,J4,J5]++([J0]++r)):=HI.aR (l:=[J0,J1,J2,J3,J4,J5]) (l':=[J1,J2,J3,J4,J5,J0]) (t:=r) H0 [1,2,3,4,5,0] aw rfl rfl
 have bP:=OT (eB:=eB) (aD:=aD) (aF:=aF) (aC:=aC) (ay:=ay) (ax:=ax) (I:=I) (aA:=aA) (az:=az) (U:=U) (cn:=cn) (dm:=dm) (dh:=dh) (cr:=cr) (iy:=iy) (jw:=jw) (sw:=sw) (w:=w) (w_:=w0) (r:=([J0]++r)) (M:=M) kb hT (by exact ho) (by exact dp) (by exact eo) (by exact fE) (by exact nY) (by exact pw) aq H1
 refine ca acy J (ec J e0) bP ?_
 rintro _ w1 ⟨a0,c0,rfl,H2⟩
 let J6:=box eB #[.slice aD aF aC,R ay I ax,R aA U az,C cn,R dm cr dh,R a0 (eK I U) c0] 80
 let J7:=oL w 26 a0 (eK I U) c0
 refine k<|dW J J Hl<|ak (v:=C 0) J J<|av<|bk ?_
 let bc:=[J6,J2,J3,J4,J7,J0]
 refine lp (fun m f w'=>∃(j_:Nat),m=I.length-j_∧f 0=pV eB 0∧f 1=C kd∧f 4=pV aY 0∧f 13=R a0 (eK I U) c0∧f 14=C ((eK I U).length:Int)∧f 15=C (j_:Int)∧HI M w w' (bc++r)∧(j_≤I.length)∧(∀q,q<j_→Iy I U q=false)) _ ⟨0,J,i0,i1,J,J,J,(bJ J),H2,aq,(by intro q h;omega)⟩ ?_
 rintro _ f0 w2 ⟨j_,rfl,s0,s1,s2,s3,s4,s5,H4,pt,hs⟩
 refine aB<|k<|lss J J s5 s4<|av<|sq ?_
 refine cd (b:=decide ((j_:Int)<((eK I U).length:Int))) J J (fun b0=>?_)<|fun b0=>?_
 ·
  have p0:=dT b0
  refine sk<|nx<|sq<|bk<|aB<|ak J s5<|k<|ic (H4.at_ 4 J) J J s3 s5 aq Hl bm ?_
  intro g0 x0 im aQ cu
  refine k<|nj cu bm J J ?_
  intro v0 cm
  obtain⟨_,⟨_,_,rfl,⟨rfl,dM⟩,⟨v1,rfl,dV⟩⟩,rfl⟩:=cm
  obtain⟨a1,c1,rfl,fq⟩:=RS.explicit dV
  let J8:=iL a1 x0.2 c1
  have H5:=H4.put (it:=J8) J<|by exact fq
  refine k<|al H5 bm ?_
  let bY:=J8::bc
  intro ba w3 cY (H7:HI M w w3 ((box ba #[C 0,.slice none 0 0] 26::bY)++r))
  refine au (v:=C (j_:Int)) J J<|k<|bp H7 0 J bm J J J J J J J ?_
  let J9:=box ba #[C x0.1,R a1 x0.2 c1] 26
  let dE:=J9::bY
  intro w4 (H8:HI M w w4 (dE++r))
  refine av<|sq ?_
  obtain⟨Gz,SJ⟩:=NK aQ
  have yW:x0.1=((I.length:Nat):Int):=by rw[SJ]
  have yV:x0.2=(cQ I U (j_:Int)):=by rw[SJ]
  have Pj:bF x0.1 x0.2=true:=by rw[yW,yV];exact FZ dp Gz
  have lk_:=AU ho dp (o:=(j_:Int)) ⟨by omega,by omega⟩
  refine rg<|ak J s0<|k<|nc J J<|aU rA J J<|k<|cq H8 2 J dx J J aw J<|ak (v:=C (j_:Int)) J J<|k ?_
  have cV:=B9 (I:=I) (o:=(j_:Int)) (aD:=aD) (aF:=aF) (aC:=aC) (aA:=aA) (eS:=U.length) (az:=az) H8.mb (H8.rv 3 J) aV (by exact ho) aq
  refine ca Vx J (ec J<|ec J e0) cV ?_
  rintro _ w5 ⟨a2,c2,rfl,eT,iU⟩
  have H9:=H8.eI iU
  let dK:=oL w 3 a2 (aZ (fV I) (cx I (j_:Int))) c2
  refine k<|dW J J cG<|ak (v:=C 0) J J<|av<|bk ?_
  let iH:=dK::dE
  refine lp (fun m f w'=>∃(q_:Nat),m=(aZ (fV I)<|cx I (j_:Int)).length-q_∧f 0=pV eB 0∧f 1=C kd∧f 4=pV aY 0∧f 6=C (j_:Int)∧f 7=pV ba 0∧f 13=R a0 (eK I U) c0∧f 14=C ((eK I U).length:Int)∧f 15=C (j_:Int)∧f 25=R a2 (aZ (fV I)<|cx I (j_:Int)) c2∧f 26=C ((aZ (fV I)<|cx I (j_:Int)).length:Int)∧f 27=C (q_:Int)∧HI M w w' (iH++r)∧(q_≤(aZ (fV I)<|cx I (j_:Int)).length)∧(∀y∈(aZ (fV I)<|cx I (j_:Int)).take q_,BU I U ((I.length:Nat):Int) (cQ I U (j_:Int)) y=false)) _ ⟨0,J,s0,s1,s2,J,J,s3,s4,s5,J,J,(bJ J),H9,aq,(by intro y h;simp at h)⟩ ?_
  rintro _ f1 w6 ⟨q_,rfl,s6,s7,s8,s9,ej,eY,fK,fJ,gx,gP,kr,cT,ahx,gH⟩
  refine aB<|k<|lss J J kr gP<|av<|sq ?_
  refine cd (b:=decide ((q_:Int)<((aZ (fV I)<|cx I (j_:Int)).length:Int))) J J (fun b1=>?_)<|fun b1=>?_
  ·
   have p1:=dT b1
   refine sk<|nx<|sq<|bk<|aB<|k<|ic (cT.at_ 0 J) J J gx kr aq cG aW ?_
   intro g1 x1 kB cP gK
   refine k<|mQ gK aW J J ?_
   intro jO
   refine au (v:=C x1) J J<|av<|sq ?_
   obtain⟨q2_,ahh⟩:=Zb cP
   have D3:=IF ho ahh
   refine rg<|ak J s6<|k<|cq cT 1 J bm J ej aw J<|ak (v:=C x1) J J<|k ?_
   have fT:=CY (I:=I) (cn:=cn) (mn:=x0.1) (mr:=x0.2) (ft:=x1) (w:=w6) (M:=fun _=>False) (fun _ h_=>h_.elim) (hT.ext cT.below) ((cT.rv 4 J).lift (Up.less fun _ _ h_=>h_.elim)) kb dM ((cT.rv 2 J).lift (Up.less fun _ _ h_=>h_.elim)) jO ⟨cT.at_ 3 rfl,fun h_=>h_⟩ (by exact Pj) aq
   refine ca Vz J (ec J<|ec J<|ec J e0) fT ?_
   rintro _ w7 ⟨a3,c3,rfl,fB,iT⟩
   have dt:=cT.ext fB
   have kZ:=(iT.lift<|Up.less fun b _ hb=>cT.mb b hb)
   let ez:=iL a3 (db I x0.1 x0.2 x1) c3
   have dw:=dt.put (it:=ez) J kZ
   let eW:=ez::iH
   have cJ:HI M w w7 (eW++r):=dw
   refine au (v:=R a3 (db I x0.1 x0.2 x1) c3) J J<|bt<|ak J s6<|k<|nc J J<|aU rA J J<|aU tg J J<|bl cJ 4 J qe J J J<|ak (v:=C x1) J J<|k<|ia (cJ.rv 6 J) J J J J aq cG aW ?_
   intro iw x2 iW la
   refine k<|mQ la.w aW J J ?_
   intro oe
   refine k<|eql J J J J<|ak (v:=.bool (decide (x2=(-1)))) J J ?_
   rcases bE (decide (x2=(-1))) with b2|b2
   ·
    have p2:=dT b2
    refine aT J J J b2<|mv (v:=R a3 (db I x0.1 x0.2 x1) c3) J J<|aT J J J b2<|dW J J cG<|aT J J J b2<|gtr J J J J<|k<|aR J J J J b2 J<|z<|nx ?_
    refine cd (b:=decide (0<((db I x0.1 x0.2 x1).length:Int))) J J (fun b3=>?_)<|fun b3=>?_
    ·
     have p3:=dT b3
     refine aB<|ak J s7<|k ?_
     have eU:=qI (kd:=kd) (w:=w7) lF
     refine ca Fl J (ec J e0) eU ?_
     rintro _ w8 ⟨rfl,iN⟩
     have dS:=cJ.ext iN
     refine k<|al dS bM ?_
     intro bD w9 jb (de:HI M w w9 ((box bD #[C 0,C 0,C 0,C 0,C 0,.slice none 0 0,C 0,C 0] 33::eW)++r))
     refine k<|bp de 0 J bM J J J J J J J ?_
     let fR:=box bD #[C kd,C (-1),C (-1),C (-1),C (-1),.slice none 0 0,C (-1),C (-1)] 33
     intro dD (cO:HI M w dD ((fR::eW)++r))
     refine av<|sq ?_
     obtain⟨x3,qo⟩:∃x,(db I x0.1 x0.2 x1)[(0:Int).toNat]? =some x:=⟨_,eP aq⟩
     have eO:HI M w dD ((fR::eW)++r):=cO
     let lg:=[ez,dK,J9,J8,J6,J2,J3,J4,J7,J0,fR]
     have fc:HI M w dD (lg++r):=HI.aR (l:=(fR::eW)) (l':=lg) (t:=r) eO [1,2,3,4,5,6,7,8,9,10,0] aw rfl rfl
     refine VM [none,none,none,none,none,none,some 8,none,some 10,none,none,some 6,none] [0,0,0,4,12,1,33,99,227,511,1023] [fun _=>[],fun _=>[],fun _=>[],fun v_=>[qJ (vP v_) x3],fun _=>[],fun _=>[],fun v_=>[box bD #[C kd,C (-1),C (-1),C (-1),C (j_:Int),.slice none 0 0,C (-1),C (-1)] 33],fun _=>[],fun v_=>[box bD #[C kd,C x1,C (-1),C (-1),C (j_:Int),.slice none 0 0,C (-1),C (-1)] 33],fun _=>[],fun v_=>[box bD #[C kd,C x1,C x3,C (-1),C (j_:Int),.slice none 0 0,C (-1),C (-1)] 33],fun _=>[box bD #[C kd,C (-1),C (-1),C (-1),C (-1),.slice none 0 0,C (-1),C (-1)] 33],fun _=>r] [[],[],[],[],[3],[],[11],[],[6],[],[8]] [fun v_=>v_=C (j_:Int),fun v_=>v_=C x1∧aK (x1),fun v_=>v_=R a3 (db I x0.1 x0.2 x1) c3,fun v_=>∃(rD:Addr),v_=.pointer (some rD),fun v_=>v_=C x3∧aK (x3),fun v_=>v_=pV bD 4,fun _=>True,fun v_=>v_=pV bD 1,fun _=>True,fun v_=>v_=pV bD 2,fun _=>True] [iL a3 (db I x0.1 x0.2 x1) c3,oL w 3 a2 (aZ (fV I)<|cx I (j_:Int)) c2,box ba #[C x0.1,R a1 x0.2 c1] 26,iL a1 x0.2 c1,box eB #[.slice aD aF aC,R ay I ax,R aA U az,C cn,R dm cr dh,R a0 (eK I U) c0] 80,iL ay I ax,iL aA U az,iL dm cr dh,oL w 26 a0 (eK I U) c0,box aY #[C 0,C 0,C 0,C 0,C 0,.slice none 0 0,C 0,C 0] 33] J (by kernel_rfl) J (by show HI _ _ _ ([iL a3 (db I x0.1 x0.2 x1) c3,oL w 3 a2 (aZ (fV I)<|cx I (j_:Int)) c2,box ba #[C x0.1,R a1 x0.2 c1] 26,iL a1 x0.2 c1,box eB #[.slice aD aF aC,R ay I ax,R aA U az,C cn,R dm cr dh,R a0 (eK I U) c0] 80,iL ay I ax,iL aA U az,iL dm cr dh,oL w 26 a0 (eK I U) c0,box aY #[C 0,C 0,C 0,C 0,C 0,.slice none 0 0,C 0,C 0] 33]++([box bD #[C kd,C (-1),C (-1),C (-1),C (-1),.slice none 0 0,C (-1),C (-1)] 33]++(r++[])));rw[anR];exact fc) ?_ ?_
     ·
      refine⟨fun f2 iO V_ ew lQ hp0 hq0 gI=>?_,?_⟩
      ·
       have iD:HI M w iO (eW++ew):=(by have h_:HI M w iO (eW++(ew)):=gI;exact h_)
       refine mv J ((lQ 6 J).trans s9) ?_
       exact⟨_,J,J,iD⟩
      refine⟨fun f3 oM V_ ew Gv I1 IW lL=>?_,?_⟩
      ·
       have il:HI M w oM (eW++ew):=(by have h_:HI M w oM (eW++(ew)):=lL;exact h_)
       refine mv J (Gv 9 J) ?_
       exact⟨_,J,⟨J,jO⟩,il⟩
      refine⟨fun f4 wz V_ ew gH Sp nn je=>?_,?_⟩
      ·
       have nZ:HI M w wz (eW++ew):=(by have h_:HI M w wz (eW++(ew)):=je;exact h_)
       refine mv J (gH 10 J) ?_
       exact⟨_,J,J,nZ⟩
      refine⟨fun f5 sD V_ ew zM yg D5 rF=>?_,?_⟩
      ·
       obtain⟨e0,q0⟩:=yg 2 _ rfl rfl rfl
       have e1:V_ 2=R a3 (db I x0.1 x0.2 x1) c3:=q0
       have kY:f5 53=R a3 (db I x0.1 x0.2 x1) c3:=e0.trans e1
       have lj:HI M w sD (eW++ew):=(by have h_:HI M w sD (eW++(ew)):=rF;exact h_)
       refine ia (lj.rv 0 J) J J kY J aq cG aW ?_
       intro pZ x4 zK yo
       obtain rfl:x3=x4:=amo (qo.symm.trans zK)
       have C':=lj.put (it:=qJ pZ x3) J yo
       have kl:HI M w sD ((qJ pZ x3::eW)++ew):=C'
       have xH:=HI.aR (l:=(qJ pZ x3::eW)) (l':=[ez,dK,J9,J8,J6,J2,J3,J4,J7,J0,qJ pZ x3]) (t:=ew) kl [1,2,3,4,5,6,7,8,9,10,0] aw J J
       exact⟨_,J,⟨pZ,J⟩,xH⟩
      refine⟨fun f6 uo V_ ew Xk D7 D4 ng=>?_,?_⟩
      ·
       obtain⟨e2,q1⟩:=D7 3 _ rfl rfl rfl
       obtain⟨vK,e3⟩:∃(vK:Addr),V_ 3=.pointer (some vK):=q1
       have mL:f6 54=.pointer (some vK):=e2.trans e3
       have yJ:HI M w uo ([iL a3 (db I x0.1 x0.2 x1) c3,oL w 3 a2 (aZ (fV I) (cx I (j_:Int))) c2,box ba #[C x0.1,R a1 x0.2 c1] 26,iL a1 x0.2 c1,box eB #[.slice aD aF aC,R ay I ax,R aA U az,C cn,R dm cr dh,R a0 (eK I U) c0] 80,iL ay I ax,iL aA U az,iL dm cr dh,oL w 26 a0 (eK I U) c0,box aY #[C 0,C 0,C 0,C 0,C 0,.slice none 0 0,C 0,C 0] 33,qJ vK x3]++ew):=(by have h_:HI M w uo ([iL a3 (db I x0.1 x0.2 x1) c3,oL w 3 a2 (aZ (fV I) (cx I (j_:Int))) c2,box ba #[C x0.1,R a1 x0.2 c1] 26,iL a1 x0.2 c1,box eB #[.slice aD aF aC,R ay I ax,R aA U az,C cn,R dm cr dh,R a0 (eK I U) c0] 80,iL ay I ax,iL aA U az,iL dm cr dh,oL w 26 a0 (eK I U) c0,box aY #[C 0,C 0,C 0,C 0,C 0,.slice none 0 0,C 0,C 0] 33]++([qJ (vP (V_ 3)) x3]++(ew))):=ng;rw[e3] at h_;exact h_)
       refine mQ (yJ.atv 10 J).w aW J mL ?_
       intro rb
       exact⟨_,J,⟨J,rb⟩,(by have h_:=yJ;rw[show (vK:Addr)=(vP<|V_ 3) from by rw[e3]<;>rfl] at h_;exact h_)⟩
      refine⟨fun f7 xK V_ ew hs5 Ol hq5 yI=>?_,?_⟩
      ·
       have qa:HI M w xK (eW++ew):=(by have h_:HI M w xK (eW++(ew)):=yI;exact h_)
       refine fa mX J (hs5 11 J) ?_
       exact⟨_,J,J,qa⟩
      refine⟨fun f8 zj V_ ew hs6 I0 hq6 Jt=>?_,?_⟩
      ·
       obtain⟨e4,q2⟩:=I0 0 _ rfl rfl rfl
       have e5:V_ 0=C (j_:Int):=q2
       have mK:f8 51=C (j_:Int):=e4.trans e5
       obtain⟨e6,q3⟩:=I0 5 _ rfl rfl rfl
       have e7:V_ 5=pV bD 4:=q3
       have nG:f8 56=pV bD 4:=e6.trans e7
       have H46:HI M w zj (lg++ew):=(by have h_:HI M w zj (eW++([fR]++(ew))):=Jt;exact h_)
       refine bp H46 10 J aW J J nG mK J J J ?_
       intro Kl (H47:HI M w Kl ([ez,dK,J9,J8,J6,J2,J3,J4,J7,J0,box bD #[C kd,C (-1),C (-1),C (-1),C (j_:Int),.slice none 0 0,C (-1),C (-1)] 33]++ew))
       exact⟨undef,J,trivial,H47⟩
      refine⟨fun f9 FT V_ ew hs7 IZ hq7 H49=>?_,?_⟩
      ·
       have H50:HI M w FT (eW++ew):=(by have h_:HI M w FT (eW++(ew)):=H49;exact h_)
       refine fa pA J (hs7 11 J) ?_
       exact⟨_,J,J,H50⟩
      refine⟨fun f10 QY V_ ew Xj Bq hq8 H52=>?_,?_⟩
      ·
       obtain⟨e8,q4⟩:=Bq 1 _ rfl rfl rfl
       obtain⟨e9,og⟩:V_ 1=C x1∧aK (x1):=q4
       have pg:f10 52=C x1:=e8.trans e9
       obtain⟨Tj,q5⟩:=Bq 7 _ rfl rfl rfl
       have rC:V_ 7=pV bD 1:=q5
       have rm:f10 57=pV bD 1:=Tj.trans rC
       let fw:=box bD #[C kd,C (-1),C (-1),C (-1),C (j_:Int),.slice none 0 0,C (-1),C (-1)] 33
       have H53:HI M w QY ([ez,dK,J9,J8,J6,J2,J3,J4,J7,J0,fw]++ew):=(by have h_:HI M w QY (eW++([fw]++(ew))):=H52;exact h_)
       refine bp H53 10 J aW J J rm pg J J J ?_
       intro w24 (H54:HI M w w24 ([ez,dK,J9,J8,J6,J2,J3,J4,J7,J0,box bD #[C kd,C x1,C (-1),C (-1),C (j_:Int),.slice none 0 0,C (-1),C (-1)] 33]++ew))
       exact⟨undef,J,trivial,H54⟩
      refine⟨fun f11 Z' V_ ew hs9 D6 hq9 H56=>?_,?_⟩
      ·
       have H57:HI M w Z' (eW++ew):=(by have h_:HI M w Z' (eW++(ew)):=H56;exact h_)
       refine fa nM J (hs9 11 J) ?_
       exact⟨_,J,J,H57⟩
      refine⟨fun f12 Z_ V_ ew abz vm alm H59=>?_,?_⟩
      ·
       obtain⟨sm,q6⟩:=vm 4 _ rfl rfl rfl
       obtain⟨rB,nw⟩:V_ 4=C x3∧aK (x3):=q6
       have Bm:f12 55=C x3:=sm.trans rB
       obtain⟨ti,q7⟩:=vm 9 _ rfl rfl rfl
       have th:V_ 9=pV bD 2:=q7
       have BW:f12 58=pV bD 2:=ti.trans th
       let hG:=box bD #[C kd,C x1,C (-1),C (-1),C (j_:Int),.slice none 0 0,C (-1),C (-1)] 33
       have H60:HI M w Z_ ([ez,dK,J9,J8,J6,J2,J3,J4,J7,J0,hG]++ew):=(by have h_:HI M w Z_ (eW++([hG]++(ew))):=H59;exact h_)
       refine bp H60 10 J aW J J BW Bm J J J ?_
       intro Wy (H61:HI M w Wy ([ez,dK,J9,J8,J6,J2,J3,J4,J7,J0,box bD #[C kd,C x1,C x3,C (-1),C (j_:Int),.slice none 0 0,C (-1),C (-1)] 33]++ew))
       exact⟨undef,J,trivial,H61⟩
      exact trivial
     ·
      intro f13 w28 V_ aby P3 H63
      obtain⟨e16,q8⟩:=P3 3 _ rfl rfl
      obtain⟨u3,e17⟩:∃(u3:Addr),V_ 3=.pointer (some u3):=q8
      have Bl:=(aby 4 J).trans s8
      have F0:f13 11=pV bD 0:=aby 11 rfl
      have H64:HI M w w28 ([iL a3 (db I x0.1 x0.2 x1) c3,oL w 3 a2 (aZ (fV I) (cx I (j_:Int))) c2,box ba #[C x0.1,R a1 x0.2 c1] 26,iL a1 x0.2 c1,box eB #[.slice aD aF aC,R ay I ax,R aA U az,C cn,R dm cr dh,R a0 (eK I U) c0] 80,iL ay I ax,iL aA U az,iL dm cr dh,oL w 26 a0 (eK I U) c0,box aY #[C 0,C 0,C 0,C 0,C 0,.slice none 0 0,C 0,C 0] 33,qJ u3 x3,box bD #[C kd,C x1,C x3,C (-1),C (j_:Int),.slice none 0 0,C (-1),C (-1)] 33]++r):=(by have h_:HI M w w28 ([iL a3 (db I x0.1 x0.2 x1) c3,oL w 3 a2 (aZ (fV I) (cx I (j_:Int))) c2,box ba #[C x0.1,R a1 x0.2 c1] 26,iL a1 x0.2 c1,box eB #[.slice aD aF aC,R ay I ax,R aA U az,C cn,R dm cr dh,R a0 (eK I U) c0] 80,iL ay I ax,iL aA U az,iL dm cr dh,oL w 26 a0 (eK I U) c0,box aY #[C 0,C 0,C 0,C 0,C 0,.slice none 0 0,C 0,C 0] 33]++([]++([]++([]++([qJ (vP (V_ 3)) x3]++([]++([]++([]++([]++([box bD #[C kd,C x1,C x3,C (-1),C (j_:Int),.slice none 0 0,C (-1),C (-1)] 33]++(r++([])))))))))))):=H63;rw[e17] at h_;rw[anR] at h_;exact h_)
      refine cI<|k<|cq H64 11 J bM J F0 aw J<|k<|bp H64 9 J bM J J Bl J J J J ?_
      let nt:=box aY #[C kd,C x1,C x3,C (-1),C (j_:Int),.slice none 0 0,C (-1),C (-1)] 33
      let lh:=box bD #[C kd,C x1,C x3,C (-1),C (j_:Int),.slice none 0 0,C (-1),C (-1)] 33
      let tF:=[ez,dK,J9,J8,J6,J2,J3,J4,J7,nt,qJ u3 x3,lh]
      intro w29 (H65:HI M w w29 (tF++r))
      refine au (v:=.bool true) J J<|av<|rt<|bQ<|aL<|dQ<|bQ<|bQ<|aL<|dQ<|bQ<|aL ?_
      have sf:(aZ (fV I) (cx I (j_:Int))).find? (BU I U ((I.length:Nat):Int) (cQ I U (j_:Int)))=some x1:=acM gH cP (by simp only[BU,←yW,←yV,jh aQ,jh cP,iW,qo,b0,b1,b2,b3,BL])
      have qw:Iz I U=some j_:=Dx hs Gz (aap sf)
      refine ib H65 9 J bM J J J Bl J aw ?_
      have H66:=HI.aR (l:=tF) (l':=[J6,J2,J3,J4,J7]) (t:=r) H65 [4,5,6,7,8] aw J J
      have Ti:(true:Bool)=(r6 I U kd).isSome:=by exact ad8 qw
      try rw[←Ti]
      refine⟨kd,x1,x3,(-1),(j_:Int),(-1),(-1),a0,c0,?_,?_,(by exact agV lF qw sf aq bq (by rw[←yW,←yV];assumption) (MA Pj ‹_›))⟩
      · first|rfl|simp only[Ti]|(simp only[ami])
      · first|exact H66|simpa +zetaDelta only[Ti,ami] using H66
    have p3:=dF b3
    refine sk<|aI<|nx<|rg<|k<|add J J kr J aV<|ak (v:=C ((q_:Int)+1)) J J<|z ?_
    have dS:HI M w w7 (iH++r):=HI.aR (l:=eW) (l':=iH) (t:=r) cJ [1,2,3,4,5,6,7,8,9] aw rfl rfl
    refine bB _ ?_ ⟨(q_+1),J,s6,s7,s8,s9,ej,eY,fK,fJ,gx,gP,(bJ J),dS,aq,(by exact XZ gH cP (by simp only[BU,←yW,←yV,jh aQ,jh cP,iW,b0,b1,b2,b3,BL]))⟩
    omega
   have p2:=dF b2
   refine aN J J J b2<|aN J J J b2<|aN J J J b2<|k<|cK J J J J b2 J<|av<|nP J J J<|sk<|aI<|nx<|rg<|k<|add J J kr J aV<|ak (v:=C ((q_:Int)+1)) J J<|z ?_
   have dS:HI M w w7 (iH++r):=HI.aR (l:=eW) (l':=iH) (t:=r) cJ [1,2,3,4,5,6,7,8,9] aw rfl rfl
   refine bB _ ?_ ⟨(q_+1),J,s6,s7,s8,s9,ej,eY,fK,fJ,gx,gP,(bJ J),dS,aq,(by exact XZ gH cP (by simp only[BU,←yW,←yV,jh aQ,jh cP,iW,b0,b1,b2,BL]))⟩
   omega
  have p1:=dF b1
  refine ex<|aX<|bf<|bg<|aI<|nx<|rg<|k<|add J J fJ J aV<|ak (v:=C ((j_:Int)+1)) J J<|z ?_
  have dt:HI M w w6 (bc++r):=HI.aR (l:=iH) (l':=bc) (t:=r) cT [3,4,5,6,7,8] aw rfl rfl
  refine bB _ ?_ ⟨(j_+1),J,s6,s7,s8,eY,fK,(bJ J),dt,aq,(by exact rY hs (YD<|acN gH<|by unfold lO;omega))⟩
  omega
 have p0:=dF b0
 refine ex<|aX<|bf<|bg<|cI<|k<|bd (v:=.agg #[C 0,C 0,C 0,C 0,C 0,.slice none 0 0,C 0,C 0]) J ey (fun _=>aM)<|k<|bp H4 5 J bM J J s2 J J J J ?_
 intro w3 (H5:HI M w w3 (bc++r))
 refine au (v:=.bool false) J J<|av<|rt ?_
 have qw:Iz I U=none:=A4 hs (by rw[Aw] at p0;omega)
 refine ib H5 5 J bM J J J s2 J aw ?_
 have H6:=HI.aR (l:=bc) (l':=[J6,J2,J3,J4,J7]) (t:=r) H5 [0,1,2,3,4] aw J J
 have e0:(false:Bool)=(r6 I U kd).isSome:=by rw[WQ qw];rfl
 try rw[←e0]
 refine⟨0,0,0,0,0,0,0,a0,c0,?_,?_,(by exact tJ (WQ qw) Nw)⟩
 · first|rfl|simp only[e0]|(simp only[ami])
 · first|exact H6|simpa +zetaDelta only[e0,ami] using H6
theorem acD:ct aJ 31:=⟨_,_,Tryz.func31,rfl,aM⟩
theorem Qg:ct aJ 32:=⟨_,_,Tryz.func32,rfl,aM⟩
theorem EC:aJ.underlying 82=some (.slice 81):=aM
theorem sE:eh aJ 81 1 false 8 (.nilFunc):=⟨aM,aM⟩
theorem aij:ct aJ 33:=⟨_,_,Tryz.func33,rfl,aM⟩
theorem aii:ct aJ 34:=⟨_,_,Tryz.func34,rfl,aM⟩
theorem aih:ct aJ 35:=⟨_,_,Tryz.func35,rfl,aM⟩
theorem aif:ct aJ 36:=⟨_,_,Tryz.func36,rfl,aM⟩
theorem aie:ct aJ 37:=⟨_,_,Tryz.func37,rfl,aM⟩
theorem aid:ct aJ 38:=⟨_,_,Tryz.func38,rfl,aM⟩
theorem aic:ct aJ 39:=⟨_,_,Tryz.func39,rfl,aM⟩
theorem xA (hM:eD M w) (hT:fQ 0 w) (cL:cw M w ay ax I) (eZ:cw M w aA az U) (oY:aK lv) (ho:gL I) (dp:I.length≤64) (eo:U.length=I.length) (fE:∀x∈U,x<((I.length:Nat):Int)) (LF:lv=1∨lv=2∨lv=3):Calls aJ 16 #[.agg #[.slice aD aF aC,R ay I ax,R aA U az],C lv] w (cb fun v w'=>∃(k_:Int) (r_:Int) (a_:Int) (b_:Int) (o_:Int) (f_:Int) (s_:Int),v=.tuple #[.agg #[C k_,C r_,C a_,C b_,C o_,.slice none 0 0,C f_,C s_],C (dL I U lv)]∧Ext w w'∧p9 (fN I U lv) k_ r_ a_ b_ o_):=by
 refine df 57 Tryz.func16 J J J hM fun f0 ha H=>?_
 let J0:=iL ay I ax
 have H0:=H.put (it:=J0) J<|by rw[bN];exact cL
 let J1:=iL aA U az
 have H1:=H0.put (it:=J1) J<|by rw[aE rfl,bN];exact eZ
 have fM:=aP cL
 have iA:=aP eZ
 have i0:f0 0=.agg #[.slice aD aF aC,R ay I ax,R aA U az]:=ha 0 bh
 have i1:f0 1=C lv:=ha 1 bh
 have kP:bF ((I.length:Nat):Int) (cp I U)=true:=pc U aq
 have ahv:=R9 (lv:=lv)
 refine aB<|k<|bx H1 J i0 ?_
 let bc:=[J1,J0]
 intro aY w0 bS (H2:HI M w w0 (box aY #[.slice aD aF aC,R ay I ax,R aA U az] 47::bc))
 let J2:=box aY #[.slice aD aF aC,R ay I ax,R aA U az] 47
 refine k<|al H2 bM ?_
 let bY:=J2::bc
 intro ba w1 cY (H3:HI M w w1 (box ba #[C 0,C 0,C 0,C 0,C 0,.slice none 0 0,C 0,C 0] 33::bY))
 let J3:=box ba #[C 0,C 0,C 0,C 0,C 0,.slice none 0 0,C 0,C 0] 33
 refine au (v:=C 0) J J<|bt<|ak J i1<|k ?_
 have bP:=Jl (lv:=lv) H3.mb oY
 refine ca acD J (ec J e0) bP ?_
 rintro _ w2 ⟨a0,c0,rfl,eT,cm⟩
 have H4:=H3.eI cm
 refine au (v:=R a0 (dq lv) c0) J J<|av<|sq<|aB<|ak (v:=R a0 (dq lv) c0) J J<|k<|Tb J J J J cG<|av<|nP J J (Bool.eq_false_iff.2 fun h_=>Va LF (NS (H4.at_ 0 J) h_))<|sk<|nx<|sq ?_
 refine l8 [.r,.r,.r,.r,.e,.e] (fun _=>True) J (by kernel_rfl) (fun _ _=>trivial) ?_
 refine yq J J<|kq (fun _ x_=>cq (H4.ext x_) 2 rfl dx rfl rfl aw rfl e1)<|zq<|yq J J<|kq (fun _ x_=>cq (H4.ext x_) 2 rfl dx rfl rfl aw rfl e1)<|zq ?_
 refine yu J (fun _ v w'=>∃(a1:OA) (c1:Nat),v=.agg #[C (I.length:Int),R a1 (cp I U) c1]∧RV H4.fW w' (R a1 (cp I U) c1) (cp I U)) J jd J (fun v_ _ x_ _=>have fT:=A' (I:=I) (U:=U) (aD:=aD) (aF:=aF) (aC:=aC) (w:=v_) (H4.ext x_).mb ((H4.ext x_).rv 4 rfl) ((H4.ext x_).rv 3 rfl) (by exact ho) aq (by exact eo) (by exact fE);ca Qg rfl (ec J e0) fT (fun _ w4 ⟨a2,c2,e_,iN,dV⟩=>⟨_,J,iN,⟨a2,c2,e_,dV⟩⟩)) ?_
 refine lq J (fun _ v w'=>∃(a3:OA) (c3:Nat),v=.agg #[.slice aD aF aC,R ay I ax,R aA U az,C (I.length:Int),R a3 (cp I U) c3,.slice none 0 0]∧RV H4.fW w' (R a3 (cp I U) c3) (cp I U)) 0 J J jd J (fun _ _ _ _ _ h_=>let ⟨a4,c4,s0,iU⟩:=h_;bd (v:=.agg #[.slice aD aF aC,R ay I ax,R aA U az,C (I.length:Int),R a4 (cp I U) c4,.slice none 0 0]) rfl (cj J<|cj s0 ey) (fun _=>aM) ⟨_,J,Ext.refl _,⟨a4,c4,J,iU⟩⟩) ?_
 refine ye<|ye<|yz ?_
 intro w5 f0 _ jb _ _ cz iC
 have dt:=H4.ext jb
 have s1:=cz 4 J
 have s2:=cz 6 J
 obtain⟨a5,c5,s3,jO⟩:=iC 0 _ _ rfl
 let J4:=iL a5 (cp I U) c5
 have dw:=dt.put (it:=J4) J jO
 refine jZ<|bx dw J s3 ?_
 let J5:=oL w 3 a0 (dq lv) c0
 let dE:=J4::J5::J3::bY
 intro bD w6 kf (cJ:HI M w w6 (box bD #[.slice aD aF aC,R ay I ax,R aA U az,C (I.length:Int),R a5 (cp I U) c5,.slice none 0 0] 80::dE))
 refine jZ<|jB (v:=pV bD 0) J J<|kz<|cI<|ak (v:=pV bD 0) J J<|k<|Lf J J<|ak (v:=pV bD 0) J J<|k<|Lf J J<|ak (v:=pV bD 0) J J<|k<|Lf J J<|ak (v:=pV bD 0) J J<|k<|Lf J J<|ak (v:=pV bD 0) J J<|k<|Lf J J<|ak (v:=pV bD 0) J J<|k<|Lf J J<|ak (v:=pV bD 0) J J<|k<|Lf J J<|k<|bsB (cells:=#[.nilFunc,.func (.func 33) #[pV bD 0] #[],.func (.func 34) #[pV bD 0] #[],.func (.func 35) #[pV bD 0] #[],.func (.func 36) #[pV bD 0] #[],.func (.func 37) #[pV bD 0] #[],.func (.func 38) #[pV bD 0] #[],.func (.func 39) #[pV bD 0] #[]]) (e:=81) cJ J (cj J<|cj J<|cj J<|cj J<|cj J<|cj J<|cj J<|cj J ey) (fun _=>aM) ?_
 intro g0 w7 l4 (dS:HI M w w7 (box g0 #[.nilFunc,.func (.func 33) #[pV bD 0] #[],.func (.func 34) #[pV bD 0] #[],.func (.func 35) #[pV bD 0] #[],.func (.func 36) #[pV bD 0] #[],.func (.func 37) #[pV bD 0] #[],.func (.func 38) #[pV bD 0] #[],.func (.func 39) #[pV bD 0] #[]] 81::box bD #[.slice aD aF aC,R ay I ax,R aA U az,C (I.length:Int),R a5 (cp I U) c5,.slice none 0 0] 80::dE))
 let J6:=box g0 #[.nilFunc,.func (.func 33) #[pV bD 0] #[],.func (.func 34) #[pV bD 0] #[],.func (.func 35) #[pV bD 0] #[],.func (.func 36) #[pV bD 0] #[],.func (.func 37) #[pV bD 0] #[],.func (.func 38) #[pV bD 0] #[],.func (.func 39) #[pV bD 0] #[]] 81
 refine au (v:=.slice (some ⟨g0,0,none⟩) 8 8) J J<|av<|sq<|aB<|ak J s2<|k<|dW J J cG<|ak (v:=C 0) J J<|av<|bk ?_
 have de:=dS.re (Int×(List<|List bX)) 26
 refine lp (fun m f w'=>∃(j_:Nat) (iP:List (Int×(List<|List bX))) (a6:OA) (c6:Nat),m=(dq lv).length-j_∧f 4=pV ba 0∧f 7=pV bD 0∧f 8=.slice (some ⟨g0,0,none⟩) 8 8∧f 38=R a0 (dq lv) c0∧f 39=C ((dq lv).length:Int)∧f 40=C (j_:Int)∧HI M w w' (oL w 26 a6 iP c6::J6::box bD #[.slice aD aF aC,R ay I ax,R aA U az,C (I.length:Int),R a5 (cp I U) c5,R a6 iP c6] 80::dE)∧(j_≤(dq lv).length)∧(a6=none∧iP=[]∨iP=eK I U)∧(∀y∈(dq lv).take j_,jL I U y=none)) _ ⟨0,([]:List (Int×(List<|List bX))),none,0,J,s1,J,J,J,J,(bJ J),de,aq,(by exact Or.inl ⟨J,J⟩),(by intro y h;simp at h)⟩ ?_
 rintro _ f1 w8 ⟨j_,iP,a6,c6,rfl,s4,s5,s6,s7,s8,s9,cO,pt,E',hs⟩
 refine aB<|k<|lss J J s9 s8<|av<|sq ?_
 refine cd (b:=decide ((j_:Int)<((dq lv).length:Int))) J J (fun b0=>?_)<|fun b0=>?_
 ·
  have p0:=dT b0
  refine sk<|nx<|sq<|bk<|aB<|k<|ic (cO.at_ 4 J) J J s7 s9 aq cG aW ?_
  intro g1 x0 im aQ cu
  refine k<|mQ cu aW J J ?_
  intro iT
  refine au (v:=C x0) J J<|av<|sq ?_
  rcases (show x0=1∨x0=2∨x0=3∨x0=4∨x0=5∨x0=6∨x0=7 from by exact Ln (dJ aQ)) with rfl|rfl|rfl|rfl|rfl|rfl|rfl
  ·
   refine rg<|ak J s6<|ak (v:=C 1) J J<|k<|Lu J J J J 1 J aw EC sE<|bl cO 1 J sE J J J<|ak (v:=C 1) J J<|k ?_
   have eU:=Wj (I:=I) (U:=U) (cn:=(I.length:Int)) (cr:=(cp I U)) (kd:=1) (w:=w8) (M:=fun _=>False) (fun _ h_=>h_.elim) ((cO.rv 8 J).lift (Up.less fun _ _ h_=>h_.elim)) ((cO.rv 7 J).lift (Up.less fun _ _ h_=>h_.elim)) aV ((cO.rv 3 J).lift (Up.less fun _ _ h_=>h_.elim)) bq ⟨cO.at_ 2 rfl,fun h_=>h_⟩
   refine Mh aij J J J (ec J e0) eU ?_
   rintro _ w9 ⟨o0,o1,o2,o3,o4,o5,o6,rfl,lM,q0⟩
   have dP:=cO.ext lM
   refine ak (v:=.tuple #[.agg #[C o0,C o1,C o2,C o3,C o4,.slice none 0 0,C o5,C o6],.bool ((oT U 1).isSome)]) J J<|k<|xt J J J<|k<|xt J J J<|k<|al dP bM ?_
   let J7:=box bD #[.slice aD aF aC,R ay I ax,R aA U az,C (I.length:Int),R a5 (cp I U) c5,R a6 iP c6] 80
   let iH:=oL w 26 a6 iP c6::J6::J7::dE
   intro eX dD xJ (dG:HI M w dD (box eX #[C 0,C 0,C 0,C 0,C 0,.slice none 0 0,C 0,C 0] 33::iH))
   refine k<|bp dG 0 J bM J J J J J J J ?_
   let J8:=box eX #[C o0,C o1,C o2,C o3,C o4,.slice none 0 0,C o5,C o6] 33
   intro eb (cC:HI M w eb (J8::iH))
   refine au (v:=.bool ((oT U 1).isSome)) J J<|bt<|ak (v:=.bool ((oT U 1).isSome)) J J<|z<|nx ?_
   refine cd (b:=(oT U 1).isSome) J J (fun b1=>?_)<|fun b1=>?_
   ·
    refine aB<|k<|cq cC 0 J bM J J aw J<|k<|bp cC 6 J bM J J s4 J J J J ?_
    intro ff (dR:HI M w ff [J8,oL w 26 a6 iP c6,J6,J7,J4,J5,box ba #[C o0,C o1,C o2,C o3,C o4,.slice none 0 0,C o5,C o6] 33,J2,J1,J0])
    refine au (v:=C 0) J J<|av<|rt<|bQ<|aL<|dQ<|bQ<|aL<|ib dR 6 J bM J J J s4 J aw ?_
    have e8:(0:Int)=dL I U lv:=by exact rZ (nI hs aQ UJ bq) bq
    have bo:=iq (fun (lu:Int)=>(.tuple #[.agg #[C o0,C o1,C o2,C o3,C o4,.slice none 0 0,C o5,C o6],C lu]:Value)) e8
    exact⟨o0,o1,o2,o3,o4,o5,o6,bo,dR.below,(by exact wu (nI hs aQ UJ bq) bq)⟩
   refine sk<|aI<|nx<|rg<|k<|add J J s9 J aV<|ak (v:=C ((j_:Int)+1)) J J<|z ?_
   have dR:=cC.put (it:=J4) J<|cC.rv 4 J
   have dB:=dR.put (it:=J1) J<|dR.rv 9 J
   have eO:=dB.put (it:=J0) J<|dB.rv 11 J
   have fc:HI M w eb iH:=eO.bT [4,5,6,2,8,9,10,1,0] aw rfl
   refine bB _ ?_ ⟨(j_+1),iP,a6,c6,J,s4,s5,s6,s7,s8,(bJ J),fc,aq,(by exact E'),(by exact AE hs aQ UJ bq)⟩
   omega
  ·
   refine rg<|ak J s6<|ak (v:=C 2) J J<|k<|Lu J J J J 2 J aw EC sE<|bl cO 1 J sE J J J<|ak (v:=C 2) J J<|k ?_
   have eU:=TO (cn:=(I.length:Int)) (cr:=(cp I U)) (kd:=2) (w:=w8) (M:=fun _=>False) (fun _ h_=>h_.elim) aV ((cO.rv 3 J).lift (Up.less fun _ _ h_=>h_.elim)) bq ⟨cO.at_ 2 rfl,fun h_=>h_⟩<|by exact kP
   refine Mh aii J J J (ec J e0) eU ?_
   rintro _ w9 ⟨o0,o1,o2,o3,o4,o5,o6,rfl,lM,q0⟩
   have dP:=cO.ext lM
   refine ak (v:=.tuple #[.agg #[C o0,C o1,C o2,C o3,C o4,.slice none 0 0,C o5,C o6],.bool ((j0 (I.length:Int) (cp I U) 2).isSome)]) J J<|k<|xt J J J<|k<|xt J J J<|k<|al dP bM ?_
   let J9:=box bD #[.slice aD aF aC,R ay I ax,R aA U az,C (I.length:Int),R a5 (cp I U) c5,R a6 iP c6] 80
   let eW:=oL w 26 a6 iP c6::J6::J9::dE
   intro eX dD xJ (dG:HI M w dD (box eX #[C 0,C 0,C 0,C 0,C 0,.slice none 0 0,C 0,C 0] 33::eW))
   refine k<|bp dG 0 J bM J J J J J J J ?_
   let dK:=box eX #[C o0,C o1,C o2,C o3,C o4,.slice none 0 0,C o5,C o6] 33
   intro eb (cC:HI M w eb (dK::eW))
   refine au (v:=.bool ((j0 (I.length:Int) (cp I U) 2).isSome)) J J<|bt<|ak (v:=.bool ((j0 (I.length:Int) (cp I U) 2).isSome)) J J<|z<|nx ?_
   refine cd (b:=(j0 (I.length:Int) (cp I U) 2).isSome) J J (fun b1=>?_)<|fun b1=>?_
   ·
    refine aB<|k<|cq cC 0 J bM J J aw J<|k<|bp cC 6 J bM J J s4 J J J J ?_
    intro ff (dR:HI M w ff [dK,oL w 26 a6 iP c6,J6,J9,J4,J5,box ba #[C o0,C o1,C o2,C o3,C o4,.slice none 0 0,C o5,C o6] 33,J2,J1,J0])
    refine au (v:=C 0) J J<|av<|rt<|bQ<|aL<|dQ<|bQ<|aL<|ib dR 6 J bM J J J s4 J aw ?_
    have e8:(0:Int)=dL I U lv:=by exact rZ (nI hs aQ UI bq) bq
    have bo:=iq (fun (lu:Int)=>(.tuple #[.agg #[C o0,C o1,C o2,C o3,C o4,.slice none 0 0,C o5,C o6],C lu]:Value)) e8
    exact⟨o0,o1,o2,o3,o4,o5,o6,bo,dR.below,(by exact wu (nI hs aQ UI bq) bq)⟩
   refine sk<|aI<|nx<|rg<|k<|add J J s9 J aV<|ak (v:=C ((j_:Int)+1)) J J<|z ?_
   have dR:=cC.put (it:=J4) J<|cC.rv 4 J
   have dB:=dR.put (it:=J1) J<|dR.rv 9 J
   have eO:=dB.put (it:=J0) J<|dB.rv 11 J
   have fc:HI M w eb eW:=eO.bT [4,5,6,2,8,9,10,1,0] aw rfl
   refine bB _ ?_ ⟨(j_+1),iP,a6,c6,J,s4,s5,s6,s7,s8,(bJ J),fc,aq,(by exact E'),(by exact AE hs aQ UI bq)⟩
   omega
  ·
   refine rg<|ak J s6<|ak (v:=C 3) J J<|k<|Lu J J J J 3 J aw EC sE<|bl cO 1 J sE J J J<|ak (v:=C 3) J J<|k ?_
   have eU:=TN (I:=I) (U:=U) (cn:=(I.length:Int)) (cr:=(cp I U)) (kd:=3) (w:=w8) (M:=fun _=>False) (fun _ h_=>h_.elim) (hT.ext cO.below) ((cO.rv 8 J).lift (Up.less fun _ _ h_=>h_.elim)) ((cO.rv 7 J).lift (Up.less fun _ _ h_=>h_.elim)) aV ((cO.rv 3 J).lift (Up.less fun _ _ h_=>h_.elim)) bq ⟨cO.at_ 2 rfl,fun h_=>h_⟩ (by exact kP)<|by exact eo
   refine Mh aih J J J (ec J e0) eU ?_
   rintro _ w9 ⟨o0,o1,o2,o3,o4,o5,o6,rfl,lM,q0⟩
   have dP:=cO.ext lM
   refine ak (v:=.tuple #[.agg #[C o0,C o1,C o2,C o3,C o4,.slice none 0 0,C o5,C o6],.bool ((pP I U (I.length:Int) (cp I U) 3).isSome)]) J J<|k<|xt J J J<|k<|xt J J J<|k<|al dP bM ?_
   let ez:=box bD #[.slice aD aF aC,R ay I ax,R aA U az,C (I.length:Int),R a5 (cp I U) c5,R a6 iP c6] 80
   let lg:=oL w 26 a6 iP c6::J6::ez::dE
   intro eX dD xJ (dG:HI M w dD (box eX #[C 0,C 0,C 0,C 0,C 0,.slice none 0 0,C 0,C 0] 33::lg))
   refine k<|bp dG 0 J bM J J J J J J J ?_
   let fR:=box eX #[C o0,C o1,C o2,C o3,C o4,.slice none 0 0,C o5,C o6] 33
   intro eb (cC:HI M w eb (fR::lg))
   refine au (v:=.bool ((pP I U (I.length:Int) (cp I U) 3).isSome)) J J<|bt<|ak (v:=.bool ((pP I U (I.length:Int) (cp I U) 3).isSome)) J J<|z<|nx ?_
   refine cd (b:=(pP I U (I.length:Int) (cp I U) 3).isSome) J J (fun b1=>?_)<|fun b1=>?_
   ·
    refine aB<|k<|cq cC 0 J bM J J aw J<|k<|bp cC 6 J bM J J s4 J J J J ?_
    intro ff (dR:HI M w ff [fR,oL w 26 a6 iP c6,J6,ez,J4,J5,box ba #[C o0,C o1,C o2,C o3,C o4,.slice none 0 0,C o5,C o6] 33,J2,J1,J0])
    refine au (v:=C 0) J J<|av<|rt<|bQ<|aL<|dQ<|bQ<|aL<|ib dR 6 J bM J J J s4 J aw ?_
    have e8:(0:Int)=dL I U lv:=by exact rZ (nI hs aQ UH bq) bq
    have bo:=iq (fun (lu:Int)=>(.tuple #[.agg #[C o0,C o1,C o2,C o3,C o4,.slice none 0 0,C o5,C o6],C lu]:Value)) e8
    exact⟨o0,o1,o2,o3,o4,o5,o6,bo,dR.below,(by exact wu (nI hs aQ UH bq) bq)⟩
   refine sk<|aI<|nx<|rg<|k<|add J J s9 J aV<|ak (v:=C ((j_:Int)+1)) J J<|z ?_
   have dR:=cC.put (it:=J4) J<|cC.rv 4 J
   have dB:=dR.put (it:=J1) J<|dR.rv 9 J
   have eO:=dB.put (it:=J0) J<|dB.rv 11 J
   have fc:HI M w eb lg:=eO.bT [4,5,6,2,8,9,10,1,0] aw rfl
   refine bB _ ?_ ⟨(j_+1),iP,a6,c6,J,s4,s5,s6,s7,s8,(bJ J),fc,aq,(by exact E'),(by exact AE hs aQ UH bq)⟩
   omega
  ·
   refine rg<|ak J s6<|ak (v:=C 4) J J<|k<|Lu J J J J 4 J aw EC sE<|bl cO 1 J sE J J J<|ak (v:=C 4) J J<|k ?_
   have eU:=Nn (I:=I) (U:=U) (cn:=(I.length:Int)) (cr:=(cp I U)) (kd:=4) (w:=w8) (M:=fun _=>False) (fun _ h_=>h_.elim) (hT.ext cO.below) ((cO.rv 8 J).lift (Up.less fun _ _ h_=>h_.elim)) ((cO.rv 7 J).lift (Up.less fun _ _ h_=>h_.elim)) aV ((cO.rv 3 J).lift (Up.less fun _ _ h_=>h_.elim)) bq ⟨cO.at_ 2 rfl,fun h_=>h_⟩ (by exact kP)<|by exact eo
   refine Mh aif J J J (ec J e0) eU ?_
   rintro _ w9 ⟨o0,o1,o2,o3,o4,o5,o6,rfl,lM,q0⟩
   have dP:=cO.ext lM
   refine ak (v:=.tuple #[.agg #[C o0,C o1,C o2,C o3,C o4,.slice none 0 0,C o5,C o6],.bool ((pQ I U (I.length:Int) (cp I U) 4).isSome)]) J J<|k<|xt J J J<|k<|xt J J J<|k<|al dP bM ?_
   let fw:=box bD #[.slice aD aF aC,R ay I ax,R aA U az,C (I.length:Int),R a5 (cp I U) c5,R a6 iP c6] 80
   let tF:=oL w 26 a6 iP c6::J6::fw::dE
   intro eX dD xJ (dG:HI M w dD (box eX #[C 0,C 0,C 0,C 0,C 0,.slice none 0 0,C 0,C 0] 33::tF))
   refine k<|bp dG 0 J bM J J J J J J J ?_
   let hG:=box eX #[C o0,C o1,C o2,C o3,C o4,.slice none 0 0,C o5,C o6] 33
   intro eb (cC:HI M w eb (hG::tF))
   refine au (v:=.bool ((pQ I U (I.length:Int) (cp I U) 4).isSome)) J J<|bt<|ak (v:=.bool ((pQ I U (I.length:Int) (cp I U) 4).isSome)) J J<|z<|nx ?_
   refine cd (b:=(pQ I U (I.length:Int) (cp I U) 4).isSome) J J (fun b1=>?_)<|fun b1=>?_
   ·
    refine aB<|k<|cq cC 0 J bM J J aw J<|k<|bp cC 6 J bM J J s4 J J J J ?_
    intro ff (dR:HI M w ff [hG,oL w 26 a6 iP c6,J6,fw,J4,J5,box ba #[C o0,C o1,C o2,C o3,C o4,.slice none 0 0,C o5,C o6] 33,J2,J1,J0])
    refine au (v:=C 0) J J<|av<|rt<|bQ<|aL<|dQ<|bQ<|aL<|ib dR 6 J bM J J J s4 J aw ?_
    have e8:(0:Int)=dL I U lv:=by exact rZ (nI hs aQ UG bq) bq
    have bo:=iq (fun (lu:Int)=>(.tuple #[.agg #[C o0,C o1,C o2,C o3,C o4,.slice none 0 0,C o5,C o6],C lu]:Value)) e8
    exact⟨o0,o1,o2,o3,o4,o5,o6,bo,dR.below,(by exact wu (nI hs aQ UG bq) bq)⟩
   refine sk<|aI<|nx<|rg<|k<|add J J s9 J aV<|ak (v:=C ((j_:Int)+1)) J J<|z ?_
   have dR:=cC.put (it:=J4) J<|cC.rv 4 J
   have dB:=dR.put (it:=J1) J<|dR.rv 9 J
   have eO:=dB.put (it:=J0) J<|dB.rv 11 J
   have fc:HI M w eb tF:=eO.bT [4,5,6,2,8,9,10,1,0] aw rfl
   refine bB _ ?_ ⟨(j_+1),iP,a6,c6,J,s4,s5,s6,s7,s8,(bJ J),fc,aq,(by exact E'),(by exact AE hs aQ UG bq)⟩
   omega
  ·
   refine rg<|ak J s6<|ak (v:=C 5) J J<|k<|Lu J J J J 5 J aw EC sE<|bl cO 1 J sE J J J<|ak (v:=C 5) J J<|k ?_
   have eU:=Mq (I:=I) (U:=U) (cn:=(I.length:Int)) (cr:=(cp I U)) (kd:=5) (w:=w8) (M:=fun _=>False) (fun _ h_=>h_.elim) (hT.ext cO.below) ((cO.rv 8 J).lift (Up.less fun _ _ h_=>h_.elim)) ((cO.rv 7 J).lift (Up.less fun _ _ h_=>h_.elim)) aV ((cO.rv 3 J).lift (Up.less fun _ _ h_=>h_.elim)) bq ⟨cO.at_ 2 rfl,fun h_=>h_⟩ (by exact ho) (by exact dp) (by exact eo) (by exact fE) aq<|by rfl
   refine Mh aie J J J (ec J e0) eU ?_
   rintro _ w9 ⟨o0,o1,o2,o3,o4,o5,o6,rfl,lM,q0⟩
   have dP:=cO.ext lM
   refine ak (v:=.tuple #[.agg #[C o0,C o1,C o2,C o3,C o4,.slice none 0 0,C o5,C o6],.bool ((j0 ((I.length:Nat):Int) (Aa I U) 5).isSome)]) J J<|k<|xt J J J<|k<|xt J J J<|k<|al dP bM ?_
   let nt:=box bD #[.slice aD aF aC,R ay I ax,R aA U az,C (I.length:Int),R a5 (cp I U) c5,R a6 iP c6] 80
   let C3:=oL w 26 a6 iP c6::J6::nt::dE
   intro eX dD xJ (dG:HI M w dD (box eX #[C 0,C 0,C 0,C 0,C 0,.slice none 0 0,C 0,C 0] 33::C3))
   refine k<|bp dG 0 J bM J J J J J J J ?_
   let lh:=box eX #[C o0,C o1,C o2,C o3,C o4,.slice none 0 0,C o5,C o6] 33
   intro eb (cC:HI M w eb (lh::C3))
   refine au (v:=.bool ((j0 ((I.length:Nat):Int) (Aa I U) 5).isSome)) J J<|bt<|ak (v:=.bool ((j0 ((I.length:Nat):Int) (Aa I U) 5).isSome)) J J<|z<|nx ?_
   refine cd (b:=(j0 ((I.length:Nat):Int) (Aa I U) 5).isSome) J J (fun b1=>?_)<|fun b1=>?_
   ·
    refine aB<|k<|cq cC 0 J bM J J aw J<|k<|bp cC 6 J bM J J s4 J J J J ?_
    intro ff (dR:HI M w ff [lh,oL w 26 a6 iP c6,J6,nt,J4,J5,box ba #[C o0,C o1,C o2,C o3,C o4,.slice none 0 0,C o5,C o6] 33,J2,J1,J0])
    refine au (v:=C 0) J J<|av<|rt<|bQ<|aL<|dQ<|bQ<|aL<|ib dR 6 J bM J J J s4 J aw ?_
    have e8:(0:Int)=dL I U lv:=by exact rZ (nI hs aQ UF bq) bq
    have bo:=iq (fun (lu:Int)=>(.tuple #[.agg #[C o0,C o1,C o2,C o3,C o4,.slice none 0 0,C o5,C o6],C lu]:Value)) e8
    exact⟨o0,o1,o2,o3,o4,o5,o6,bo,dR.below,(by exact wu (nI hs aQ UF bq) bq)⟩
   refine sk<|aI<|nx<|rg<|k<|add J J s9 J aV<|ak (v:=C ((j_:Int)+1)) J J<|z ?_
   have dR:=cC.put (it:=J4) J<|cC.rv 4 J
   have dB:=dR.put (it:=J1) J<|dR.rv 9 J
   have eO:=dB.put (it:=J0) J<|dB.rv 11 J
   have fc:HI M w eb C3:=eO.bT [4,5,6,2,8,9,10,1,0] aw rfl
   refine bB _ ?_ ⟨(j_+1),iP,a6,c6,J,s4,s5,s6,s7,s8,(bJ J),fc,aq,(by exact E'),(by exact AE hs aQ UF bq)⟩
   omega
  ·
   refine rg<|ak J s6<|ak (v:=C 6) J J<|k<|Lu J J J J 6 J aw EC sE<|bl cO 1 J sE J J J<|ak (v:=C 6) J J<|k ?_
   have dP:HI M w w8 ([box bD #[.slice aD aF aC,R ay I ax,R aA U az,C (I.length:Int),R a5 (cp I U) c5,R a6 iP c6] 80,J0,J1,J4,oL w 26 a6 iP c6]++[J6,J5,J3,J2]):=cO.bT [2,8,7,3,0,1,4,5,6] aw rfl
   have eU:=TM (eB:=bD) (aD:=aD) (aF:=aF) (aC:=aC) (ay:=ay) (ax:=ax) (I:=I) (aA:=aA) (az:=az) (U:=U) (cn:=(I.length:Int)) (dm:=a5) (dh:=c5) (cr:=(cp I U)) (iy:=a6) (jw:=c6) (sw:=iP) (kd:=6) (w:=w) (w_:=w8) (r:=[J6,J5,J3,J2]) (M:=M) aV bq hT (by exact ho) (by exact dp) (by exact eo) (by exact fE) aq (by rfl) (by exact E') dP
   refine Mh aid J J J (ec J e0) eU ?_
   rintro _ w9 ⟨o0,o1,o2,o3,o4,o5,o6,a7,c7,rfl,dG,q0⟩
   let qY:=box bD #[.slice aD aF aC,R ay I ax,R aA U az,C (I.length:Int),R a5 (cp I U) c5,R a7 (eK I U) c7] 80
   let jm:=oL w 26 a7 (eK I U) c7
   let Hb:=[qY,J0,J1,J4,jm,J6,J5,J3,J2]
   have cC:HI M w w9 Hb:=dG
   refine ak (v:=.tuple #[.agg #[C o0,C o1,C o2,C o3,C o4,.slice none 0 0,C o5,C o6],.bool ((r6 I U 6).isSome)]) J J<|k<|xt J J J<|k<|xt J J J<|k<|al cC bM ?_
   intro eX dD lM (dR:HI M w dD (box eX #[C 0,C 0,C 0,C 0,C 0,.slice none 0 0,C 0,C 0] 33::Hb))
   refine k<|bp dR 0 J bM J J J J J J J ?_
   let ns:=box eX #[C o0,C o1,C o2,C o3,C o4,.slice none 0 0,C o5,C o6] 33
   intro eb (dB:HI M w eb (ns::Hb))
   refine au (v:=.bool ((r6 I U 6).isSome)) J J<|bt<|ak (v:=.bool ((r6 I U 6).isSome)) J J<|z<|nx ?_
   refine cd (b:=(r6 I U 6).isSome) J J (fun b1=>?_)<|fun b1=>?_
   ·
    refine aB<|k<|cq dB 0 J bM J J aw J<|k<|bp dB 8 J bM J J s4 J J J J ?_
    intro ff (eO:HI M w ff [ns,qY,J0,J1,J4,jm,J6,J5,box ba #[C o0,C o1,C o2,C o3,C o4,.slice none 0 0,C o5,C o6] 33,J2])
    refine au (v:=C 0) J J<|av<|rt<|bQ<|aL<|dQ<|bQ<|aL<|ib eO 8 J bM J J J s4 J aw ?_
    have e8:(0:Int)=dL I U lv:=by exact rZ (nI hs aQ UE bq) bq
    have bo:=iq (fun (lu:Int)=>(.tuple #[.agg #[C o0,C o1,C o2,C o3,C o4,.slice none 0 0,C o5,C o6],C lu]:Value)) e8
    exact⟨o0,o1,o2,o3,o4,o5,o6,bo,eO.below,(by exact wu (nI hs aQ UE bq) bq)⟩
   refine sk<|aI<|nx<|rg<|k<|add J J s9 J aV<|ak (v:=C ((j_:Int)+1)) J J<|z ?_
   have eO:=dB.put (it:=J4) J<|dB.rv 4 J
   have fc:=eO.put (it:=J1) J<|eO.rv 4 J
   have gI:=fc.put (it:=J0) J<|fc.rv 4 J
   have iD:HI M w eb (jm::J6::qY::dE):=gI.bT [8,9,4,2,10,11,12,1,0] aw rfl
   refine bB _ ?_ ⟨(j_+1),(eK I U),a7,c7,J,s4,s5,s6,s7,s8,(bJ J),iD,aq,(by exact Or.inr rfl),(by exact AE hs aQ UE bq)⟩
   omega
  refine rg<|ak J s6<|ak (v:=C 7) J J<|k<|Lu J J J J 7 J aw EC sE<|bl cO 1 J sE J J J<|ak (v:=C 7) J J<|k ?_
  have dP:HI M w w8 ([box bD #[.slice aD aF aC,R ay I ax,R aA U az,C (I.length:Int),R a5 (cp I U) c5,R a6 iP c6] 80,J0,J1,J4,oL w 26 a6 iP c6]++[J6,J5,J3,J2]):=cO.bT [2,8,7,3,0,1,4,5,6] aw rfl
  have eU:=Wi (eB:=bD) (aD:=aD) (aF:=aF) (aC:=aC) (ay:=ay) (ax:=ax) (I:=I) (aA:=aA) (az:=az) (U:=U) (cn:=(I.length:Int)) (dm:=a5) (dh:=c5) (cr:=(cp I U)) (iy:=a6) (jw:=c6) (sw:=iP) (kd:=7) (w:=w) (w_:=w8) (r:=[J6,J5,J3,J2]) (M:=M) aV bq hT (by exact ho) (by exact dp) (by exact eo) (by exact fE) aq (by rfl) (by exact E') dP
  refine Mh aic J J J (ec J e0) eU ?_
  rintro _ w9 ⟨o0,o1,o2,o3,o4,o5,o6,a7,c7,rfl,dG,q0⟩
  let oS:=box bD #[.slice aD aF aC,R ay I ax,R aA U az,C (I.length:Int),R a5 (cp I U) c5,R a7 (eK I U) c7] 80
  let nf:=oL w 26 a7 (eK I U) c7
  let El:=[oS,J0,J1,J4,nf,J6,J5,J3,J2]
  have cC:HI M w w9 El:=dG
  refine ak (v:=.tuple #[.agg #[C o0,C o1,C o2,C o3,C o4,.slice none 0 0,C o5,C o6],.bool ((r5 I U 7).isSome)]) J J<|k<|xt J J J<|k<|xt J J J<|k<|al cC bM ?_
  intro eX dD lM (dR:HI M w dD (box eX #[C 0,C 0,C 0,C 0,C 0,.slice none 0 0,C 0,C 0] 33::El))
  refine k<|bp dR 0 J bM J J J J J J J ?_
  let lK:=box eX #[C o0,C o1,C o2,C o3,C o4,.slice none 0 0,C o5,C o6] 33
  intro eb (dB:HI M w eb (lK::El))
  refine au (v:=.bool ((r5 I U 7).isSome)) J J<|bt<|ak (v:=.bool ((r5 I U 7).isSome)) J J<|z<|nx ?_
  refine cd (b:=(r5 I U 7).isSome) J J (fun b1=>?_)<|fun b1=>?_
  ·
   refine aB<|k<|cq dB 0 J bM J J aw J<|k<|bp dB 8 J bM J J s4 J J J J ?_
   intro ff (eO:HI M w ff [lK,oS,J0,J1,J4,nf,J6,J5,box ba #[C o0,C o1,C o2,C o3,C o4,.slice none 0 0,C o5,C o6] 33,J2])
   refine au (v:=C 0) J J<|av<|rt<|bQ<|aL<|dQ<|bQ<|aL<|ib eO 8 J bM J J J s4 J aw ?_
   have e8:(0:Int)=dL I U lv:=by exact rZ (nI hs aQ UD bq) bq
   have bo:=iq (fun (lu:Int)=>(.tuple #[.agg #[C o0,C o1,C o2,C o3,C o4,.slice none 0 0,C o5,C o6],C lu]:Value)) e8
   exact⟨o0,o1,o2,o3,o4,o5,o6,bo,eO.below,(by exact wu (nI hs aQ UD bq) bq)⟩
  refine sk<|aI<|nx<|rg<|k<|add J J s9 J aV<|ak (v:=C ((j_:Int)+1)) J J<|z ?_
  have eO:=dB.put (it:=J4) J<|dB.rv 4 J
  have fc:=eO.put (it:=J1) J<|eO.rv 4 J
  have gI:=fc.put (it:=J0) J<|fc.rv 4 J
  have iD:HI M w eb (nf::J6::oS::dE):=gI.bT [8,9,4,2,10,11,12,1,0] aw rfl
  refine bB _ ?_ ⟨(j_+1),(eK I U),a7,c7,J,s4,s5,s6,s7,s8,(bJ J),iD,aq,(by exact Or.inr rfl),(by exact AE hs aQ UD bq)⟩
  omega
 have p0:=dF b0
 refine ex<|aX<|bf<|bg<|cI<|k<|bd (v:=.agg #[C 0,C 0,C 0,C 0,C 0,.slice none 0 0,C 0,C 0]) J ey (fun _=>aM)<|k<|bp cO 5 J bM J J s4 J J J J ?_
 intro w9 (dP:HI M w w9 (oL w 26 a6 iP c6::J6::box bD #[.slice aD aF aC,R ay I ax,R aA U az,C (I.length:Int),R a5 (cp I U) c5,R a6 iP c6] 80::dE))
 refine au (v:=C 8) J J<|av<|rt<|ib dP 5 J bM J J J s4 J aw ?_
 have e8:(8:Int)=dL I U lv:=by exact ZH (NQ hs aq)
 have bo:=iq (fun (lu:Int)=>(.tuple #[.agg #[C 0,C 0,C 0,C 0,C 0,.slice none 0 0,C 0,C 0],C lu]:Value)) e8
 exact⟨0,0,0,0,0,0,0,bo,dP.below,(by exact tJ (NQ hs aq) Nw)⟩
end Go.Proofs.YtgjakhpjmapelaaGreatDoor
