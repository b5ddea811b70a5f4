/- PRINTED by my own tool (wip/tool/gen.py): contracts of Go functions of this seat, each with its proof. -/
import Derived.Test.YtgjakhpjmapelaaGreatDoorQwnB
import Derived.Test.YtgjakhpjmapelaaGreatDoorQwnC
import Derived.Test.YtgjakhpjmapelaaGreatDoorIenB
import Derived.Test.YtgjakhpjmapelaaGreatDoorIenA
import Derived.Test.YtgjakhpjmapelaaGreatDoorQwnA
import Derived.Test.YtgjakhpjmapelaaGreatDoorQwnD
set_option linter.unusedVariables false
set_option linter.unusedSimpArgs false
namespace Go.Proofs.YtgjakhpjmapelaaGreatDoor
open Go.Ew Go.RowKit
set_option maxRecDepth 100000
set_option maxHeartbeats 1600000
attribute [local irreducible] WL WC SO PW PX PZ WE Code.wp wpList sM ck
attribute [local irreducible] ku yA jH fy eo A3 D4 LQ words ej cZ jT fJ wy
variable {M:cg} {w w_:aJ}
variable {r:List Go.Ew.Item} {da aF aB az ax eE bD dh bN bF dW eL dD jQ rY dY:Nat} {aC aA ay eF dm bG ee dE iZ:OA} {I:List aO} {U:aE} {sp:List cP} {mp:KV} {pn mn o fE fH gK mT mS nA cn lv kd fG:Int} {pr mr cr:List (List bw)} {mq:List ((Int×Int)×Bool)} {sw:List (Int×(List (List bw)))} {l9:TypeId}
theorem RU:cD aM 106:=cE Tryz.func106
theorem RT:cD aM 122:=cE Tryz.func122
theorem Li:cD aM 120:=cE Tryz.func120
theorem JE (rn:aK pn) (gk:aK mn) (uz:aK o) (hT:fY 0 w) (ho:ij I) (dG:I.length≤64) (ey:U.length=I.length) (fP:∀x∈U,x<((I.length:Nat):Int)) (Cq:mn=((I.length:Nat):Int)) (Cp:mr=cA I U) (ur:0≤o∧o<((I.length:Nat):Int)) (J_:pn=((I.length:Nat):Int)) (uM:bL pn pr=true) (IX:sp.length≤1000000000000) (H:HI M w w_ ([box da #[.slice aC aF aB,R aA I az,R ay U ax,R eF sp eE,.map (some bD),C pn,R dm pr dh,.map (some bN)] 142,iL aA I az,iL ay U ax,oL w 175 eF sp eE,cj bD mp,iL dm pr dh,bW bN mq,iL bG mr bF]++r)):Calls aM 83 #[pV da 0,.agg #[C mn,R bG mr bF],C o] w_ (ck fun v w'=>∃(tG:List cP) (He:KV) (C8:List (List bw)) (oq:OA) (oo:Nat) (zL:OA) (zG:Nat),v=.tuple #[]∧HI M w w' ([box da #[.slice aC aF aB,R aA I az,R ay U ax,R oq tG oo,.map (some bD),C pn,R zL C8 zG,.map (some bN)] 142,iL aA I az,iL ay U ax,oL w 175 oq tG oo,cj bD He,iL zL C8 zG,bW bN mq,iL bG mr bF]++r)∧tG.length≤sp.length+402000000000∧bL pn C8=true):=by
 refine enter 93 Tryz.func83 J J J fun f0 ha=>?_
 have iE:=bg<|H.rv 1 J
 have kh:=bg<|H.rv 2 J
 have Ex:=kr<|H.at_ 3 J
 have Ey:=bg<|H.rv 5 J
 have nG:=bg<|H.rv 7 J
 have i0:f0 0=pV da 0:=ha 0 bm
 have i1:f0 1=.agg #[C mn,R bG mr bF]:=ha 1 bm
 have i2:f0 2=C o:=ha 2 bm
 refine aD<|k<|bx H J i1 ?_
 let J1:=box da #[.slice aC aF aB,R aA I az,R ay U ax,R eF sp eE,.map (some bD),C pn,R dm pr dh,.map (some bN)] 142
 let J2:=iL aA I az
 let J3:=iL ay U ax
 let J4:=oL w 175 eF sp eE
 let J5:=cj bD mp
 let J6:=iL dm pr dh
 let J7:=iL bG mr bF
 let bf:=[J6,bW bN mq,J7]
 intro aX w0 bY (H0:HI M w w0 ((box aX #[C mn,R bG mr bF] 26::J1::J2::J3::J4::J5::bf)++r))
 let J0:=box aX #[C mn,R bG mr bF] 26
 refine av<|sq<|mw [.r,.r,.r,.r,.r,.r,.r,.r,.r,.s,.s,.s,.n,.e,.s,.s,.s] (fun _=>True) J aV (fun _ _=>trivial)<|yq J J<|kq (fun _ _=>mv J i0 e1)<|bS<|kq (fun _ _=>nc J J e1)<|bS<|kq (fun _ _=>fa I4 J J e1)<|bS<|kq (fun _ x_=>cC (H0.ext x_) 1 J dt J J aw J e1)<|bS<|kq (fun _ x_=>cC (H0.ext x_) 0 J bp J J aw J e1)<|bS<|kq (fun _ _=>mv J i2 e1)<|zq<|yu J (fun N v w'=>∃(o0:List eu) (o1:Int) (a0:OA) (c0:Nat) (a1:OA) (c1:Nat),v=.tuple #[.agg #[C ((I.length:Nat):Int),R a0 (cY I U o) c0],R a1 o0 c1,C o1,C 0]∧o0.length≤2000000000∧aK o1∧oP I.length o0∧RV (MN H0.eI N) w' (R a0 (cY I U o) c0) (cY I U o)∧RV (MN H0.eI N) w' (R a1 o0 c1) o0) J ⟨by rintro _ _ _ _ x_ ⟨o0,o1,a0,c0,a1,c1,e_,q0,q1,q2,dH,ft⟩;exact⟨o0,o1,a0,c0,a1,c1,e_,q0,q1,q2,dH.lift (Up.ext x_),ft.lift (Up.ext x_)⟩,by rintro _ _ _ _ _ k_ ⟨o0,o1,a0,c0,a1,c1,e_,q0,q1,q2,dH,ft⟩;exact⟨o0,o1,a0,c0,a1,c1,e_,q0,q1,q2,ig dH k_,ig ft k_⟩⟩ J (fun v_ _ x_ n_=>have df:=IL (I:=I) (U:=U) (mn:=mn) (mr:=mr) (o:=o) (aC:=aC) (aF:=aF) (aB:=aB) (w:=v_) (kR H0.mb x_ n_) (hT.ext (H0.below.trans x_)) (kv (H0.rv 2 J) x_ n_) (kv (H0.rv 3 J) x_ n_) gk (kv (H0.rv 8 J) x_ n_) uz (by exact ho) aq (by exact ey) (by exact fP) aq aq aq;ca RU rfl (ec J<|ec J<|ec J e0) df (fun _ w2 ⟨o2,o3,a2,c2,a3,c3,e_,fm,iO,jK,q3,q4,q5⟩=>⟨_,J,fm,⟨o2,o3,a2,c2,a3,c3,e_,q3,q4,q5,iO,jK⟩⟩))<|lP J (fun N v w'=>∃(o4:List eu) (o5:Int) (a4:OA) (c4:Nat) (a5:OA) (c5:Nat),v=.tuple #[.agg #[C ((I.length:Nat):Int),R a4 (cY I U o) c4],R a5 o4 c5,C o5,C 0]∧o4.length≤2000000000∧aK o5∧oP I.length o4∧RV (MN H0.eI N) w' (R a4 (cY I U o) c4) (cY I U o)∧RV (MN H0.eI N) w' (R a5 o4 c5) o4) 0 J J ⟨by rintro _ _ _ _ x_ ⟨o4,o5,a4,c4,a5,c5,e_,q6,q7,q8,i',kN⟩;exact⟨o4,o5,a4,c4,a5,c5,e_,q6,q7,q8,i'.lift (Up.ext x_),kN.lift (Up.ext x_)⟩,by rintro _ _ _ _ _ k_ ⟨o4,o5,a4,c4,a5,c5,e_,q6,q7,q8,i',kN⟩;exact⟨o4,o5,a4,c4,a5,c5,e_,q6,q7,q8,ig i' k_,ig kN k_⟩⟩ J (fun _ _ _ _ _ h_=>let ⟨o6,o7,a6,c6,a7,c7,s0,q9,vw,yc,nj,n9⟩:=h_;mv rfl s0 ⟨_,J,Ext.refl _,⟨o6,o7,a6,c6,a7,c7,J,q9,vw,yc,nj,n9⟩⟩)<|lP J (fun N v w'=>∃(a8:OA) (c8:Nat),v=.agg #[C ((I.length:Nat):Int),R a8 (cY I U o) c8]∧RV (MN H0.eI N) w' (R a8 (cY I U o) c8) (cY I U o)) 0 J J kZ J (fun _ _ _ _ _ h_=>let ⟨kQ,fS,jy,jx,mW,mU,s1,C7,C6,yY,mA,pI⟩:=h_;xt rfl s1 rfl ⟨_,J,Ext.refl _,⟨jy,jx,J,mA⟩⟩)<|lP J (fun N v w'=>∃(ka:List eu) (j3:OA) (j2:Nat),v=R j3 ka j2∧ka.length≤2000000000∧oP I.length ka∧RV (MN H0.eI N) w' (R j3 ka j2) ka) 1 J J ⟨by rintro _ _ _ _ x_ ⟨ka,j3,j2,e_,yb,ya,qw⟩;exact⟨ka,j3,j2,e_,yb,ya,qw.lift (Up.ext x_)⟩,by rintro _ _ _ _ _ k_ ⟨ka,j3,j2,e_,yb,ya,qw⟩;exact⟨ka,j3,j2,e_,yb,ya,ig qw k_⟩⟩ J (fun _ _ _ _ _ h_=>let ⟨Hb,JO,lz,ly,KF,Kz,s2,EY,q22,Mg,Br,FO⟩:=h_;xt rfl s2 rfl ⟨_,J,Ext.refl _,⟨Hb,KF,Kz,J,EY,Mg,FO⟩⟩)<|lP J (fun _ v _=>∃(Dh:Int),v=C Dh∧aK Dh) 2 J J mE J (fun _ _ _ _ _ h_=>let ⟨TG,JN,a18,c18,a19,c19,s3,q27,Ti,q29,acJ,acI⟩:=h_;xt rfl s3 rfl ⟨_,J,Ext.refl _,⟨JN,J,Ti⟩⟩)<|Sn J (X:=C 0) 3 J J (fun _ _ _ _ _ h_=>let ⟨TE,Px,a22,c22,a23,c23,s4,q33,q34,q35,acH,acG⟩:=h_;xt rfl s4 rfl e1)<|yn (z:=#[C 0,.slice none 0 0]) J J (fun _=>Qt bp)<|ye<|lP J (fun N v w'=>∃(mP:List eu) (a24:OA) (zF:Nat),v=R a24 mP zF∧mP.length≤2000000000∧oP I.length mP∧RV (MN H0.eI N) w' (R a24 mP zF) mP) 2 J J ⟨by rintro _ _ _ _ x_ ⟨mP,a24,zF,e_,C5,C4,xY⟩;exact⟨mP,a24,zF,e_,C5,C4,xY.lift (Up.ext x_)⟩,by rintro _ _ _ _ _ k_ ⟨mP,a24,zF,e_,C5,C4,xY⟩;exact⟨mP,a24,zF,e_,C5,C4,ig xY k_⟩⟩ J (fun _ _ _ _ _ h_=>let ⟨Mu,a25,Fo,s5,Th,Tg,Md⟩:=h_;jV rfl s5 ⟨_,J,Ext.refl _,⟨Mu,a25,Fo,J,Th,Tg,Md⟩⟩)<|lP J (fun _ v _=>∃(sZ:Int),v=C sZ∧aK sZ) 2 J J mE J (fun _ _ _ _ _ h_=>let ⟨um,s6,Tf⟩:=h_;jV rfl s6 ⟨_,J,Ext.refl _,⟨um,J,Tf⟩⟩)<|yq J J<|kq (fun _ _=>jV (v:=C 0) J J e1)<|zq<|yz ?_
 intro w3 f0 _ fg _ _ cG jc
 obtain⟨bK,s7,DN,tm,Co⟩:=jc 2 _ _ rfl
 have qb:=Qj (z:=#[C 0,.slice none 0 0]) (T:=26) DN tm Co<|Qk
 let J8:=box bK #[C 0,.slice none 0 0] 26
 have H8:HI M w w3 ((J8::J0::J1::J2::J3::J4::J5::bf)++r):=H0.Ez fg qb<|PB PA PC
 have s8:=(cG 0 J).trans i0
 obtain⟨o28,a26,Ij,s9,q42,q43,Mc⟩:=jc 1 _ _ rfl
 let J9:=iL a26 o28 Ij
 have H9:=H8.put (it:=J9) J<|sJ Mc qb
 obtain⟨A9,A6,ei,V8⟩:=jc 5 _ _ rfl
 let d_:=iL A9 (cY I U o) A6
 have cT:=H9.put (it:=d_) J<|aat J<|sJ V8 qb
 refine km<|bA cT 2 J bp J J s7 ei J J J ?_
 let eJ:=box bK #[C ((I.length:Nat):Int),R A9 (cY I U o) A6] 26
 intro w4 (dq:HI M w w4 ([d_,J9,eJ,J0,J1,J2,J3,J4,J5,J6,bW bN mq,J7]++r))
 refine kz<|nx<|bk ?_
 have cM:=dq.put (it:=J9) J<|dq.rv 1 J
 have dI:=cM.put (it:=J6) J<|cM.rv 10 J
 refine lp (fun m f w'=>∃(gm:List eu) (jv:List cP) (oH:KV) (cK:Int) (m_:List (List bw)) (a28:OA) (rT:Nat) (pv:OA) (pq:Nat) (kf:OA) (kc:Nat),m=gm.length∧f 0=pV da 0∧f 7=R a28 gm rT∧HI M w w' ([iL kf m_ kc,iL a28 gm rT,d_,J9,box bK #[C ((I.length:Nat):Int),R A9 (cY I U o) A6] 26,J0,box da #[.slice aC aF aB,R aA I az,R ay U ax,R pv jv pq,.map (some bD),C cK,R kf m_ kc,.map (some bN)] 142,J2,J3,oL w 175 pv jv pq,cj bD oH,J6,bW bN mq,J7]++r)∧(oP I.length gm)∧(jv.length+201*gm.length≤sp.length+201*o28.length)∧(cK=pn)∧(bL cK m_=true)) _ ⟨o28,sp,mp,pn,pr,a26,Ij,eF,eE,dm,dh,J,s8,s9,dI,aq,aq,aq,aq⟩ ?_
 rintro _ f1 w5 ⟨gm,jv,oH,cK,m_,a28,rT,pv,pq,kf,kc,rfl,eR,fM,dX,uZ,IY,DG,ti⟩
 refine sq<|aD<|ak J fM<|k<|dP J J eD<|k<|gtr J J J J<|z<|nx<|cd (b:=decide (0<(gm.length:Int))) J J (fun b0=>?_)<|fun b0=>?_
 ·
  have p0:=dT b0
  refine sk<|nx<|bk<|aD<|au (v:=C 0) J J<|bz<|ak J eR<|k<|nc J J<|aU rI J J<|k<|cC dX 6 J bp J J aw J<|k ?_
  have fF:=xr (mn:=cK) (mr:=m_) dX.mb aS (dX.rv 0 J)<|by exact ti
  refine ca RM J (ec J e0) fF ?_
  rintro _ w6 ⟨a31,Kx,rfl,jl,Mb⟩
  have dV:=dX.eU Mb
  let fZ:=oL w 144 a31 (fl cK m_) Kx
  let fI:=iL kf m_ kc
  let iz:=iL a28 gm rT
  let nP:=box da #[.slice aC aF aB,R aA I az,R ay U ax,R pv jv pq,.map (some bD),C cK,R kf m_ kc,.map (some bN)] 142
  let lK:=oL w 175 pv jv pq
  let rU:=cj bD oH
  refine k<|al dV bp ?_
  let bZ:=d_::J9::eJ::J0::nP::J2::J3::lK::rU::bf
  intro fj w7 je (ef:HI M w w7 ((box fj #[C 0,.slice none 0 0] 26::fZ::fI::iz::bZ)++r))
  refine k<|bA ef 0 J bp J J J J J J J ?_
  let jI:=box fj #[C cK,R a31 (fl cK m_) Kx] 26
  let eh:=jI::fZ::fI::iz::bZ
  intro w8 (dA:HI M w w8 (eh++r))
  refine av<|sq<|bk ?_
  let jz:=J0::nP::J2::J3::lK::rU::bf
  refine lp (fun m f w'=>∃(k_:Nat),m=gm.length-k_∧f 0=pV da 0∧f 7=R a28 gm rT∧f 10=C (k_:Int)∧f 11=pV fj 0∧HI M w w' ((jI::fZ::fI::iz::d_::J9::box bK #[C ((I.length:Nat):Int),R A9 (cY I U o) A6] 26::jz)++r)∧(k_≤gm.length)) _ ⟨0,J,eR,fM,(bH J),J,dA,aq⟩ ?_
  rintro _ f2 w9 ⟨k_,rfl,fL,gv,gH,jZ,fe,kb⟩
  refine sq<|sq<|A2 J aV<|kq (fun _ _=>mv J gH e1)<|kq (fun _ _=>mv J gv e1)<|kq (fun _ _=>dP J J eD e1)<|kq (fun _ _=>lss J J J J e1)<|kq (fun _ _=>mv (v:=.bool (decide ((k_:Int)<(gm.length:Int)))) J J e1) ?_
  rcases bE (decide ((k_:Int)<(gm.length:Int))) with b1|b1
  ·
   have p1:=dT b1
   refine qy J J J b1<|kq (fun _ x_=>cC (fe.ext x_) 0 J bp J jZ aw J e1)<|qy J J J b1<|kq (fun _ _=>mv J gv e1)<|qy J J J b1<|kq (fun _ _=>mv J gH e1)<|qy J J J b1<|qz (fe.rv 3 J) J J J J aq eD cN ?_
   intro iy x0 aN cB
   refine qy J J J b1<|kq (fun _ _=>fa kV J J e1)<|qy J J J b1<|mC (cB).fst.w aT J J ?_
   intro FN
   refine qy J J J b1<|kq (fun _ _=>mv J gv e1)<|qy J J J b1<|kq (fun _ _=>mv J gH e1)<|qy J J J b1<|qz (fe.rv 3 J) J J J J aq eD cN ?_
   intro mV x_ pY gx
   obtain rfl:x0=x_:=apm (aN.symm.trans pY)
   refine qy J J J b1<|kq (fun _ _=>fa tn J J e1)<|qy J J J b1<|mC (gx).s2.w aT J J ?_
   intro FM
   refine qy J J J b1<|kq (v:=.bool (eO cK (fl cK m_) x0.1 x0.2.2)) (fun v_ x_=>?_) ?_
   ·
    have fw:=(fe.ext x_).freeze 1 rfl
    have cc:=uS (mn:=cK) (mr:=(fl cK m_)) (i:=x0.1) (j:=x0.2.2) fw.mb aS (fw.rv 1 J) FN FM (by exact(bU<|pj ti).1) (by exact(bU<|pj ti).2.1) aq
    exact ca Gv J (ec J<|ec J<|ec J e0) cc fun _ _ h_=>e2 h_
   refine kq (fun _ _=>aQ J J J J b1 J e1)<|kq (fun _ _=>mv (v:=.bool (eO cK (fl cK m_) x0.1 x0.2.2)) J J e1) ?_
   rcases bE (eO cK (fl cK m_) x0.1 x0.2.2) with b2|b2
   ·
    refine qy J J J b2<|kq (fun _ x_=>cC (fe.ext x_) 0 J bp J jZ aw J e1)<|qy J J J b2<|kq (fun _ _=>mv J gv e1)<|qy J J J b2<|kq (fun _ _=>mv J gH e1)<|qy J J J b2<|qz (fe.rv 3 J) J J J J aq eD cN ?_
    intro jo x_ pY jw
    obtain rfl:x0=x_:=apm (aN.symm.trans pY)
    refine qy J J J b2<|kq (fun _ _=>fa kV J J e1)<|qy J J J b2<|mC (jw).fst.w aT J J ?_
    intro Bq
    refine qy J J J b2<|kq (fun _ _=>mv J gv e1)<|qy J J J b2<|kq (fun _ _=>mv J gH e1)<|qy J J J b2<|qz (fe.rv 3 J) J J J J aq eD cN ?_
    intro nD x_ pY qe
    obtain rfl:x0=x_:=apm (aN.symm.trans pY)
    refine qy J J J b2<|kq (fun _ _=>fa nf J J e1)<|qy J J J b2<|mC ((qe).s1).fst.w aT J J ?_
    intro FL
    refine qy J J J b2<|kq (v:=.bool (eO cK (fl cK m_) x0.1 x0.2.1)) (fun v_ x_=>?_) ?_
    ·
     have iR:=(fe.ext x_).freeze 1 rfl
     have cc:=uS (mn:=cK) (mr:=(fl cK m_)) (i:=x0.1) (j:=x0.2.1) iR.mb aS (iR.rv 1 J) Bq FL (by exact(bU<|pj ti).1) (by exact(bU<|pj ti).2.1) aq
     exact ca Gv J (ec J<|ec J<|ec J e0) cc fun _ _ h_=>e2 h_
    refine qy J J J b2<|kq (fun _ _=>jr J J e1)<|kq (fun _ _=>aQ J J J J b2 J e1)<|zq ?_
    intro dL jE
    have mz:=fe.ext jE
    refine nx<|cd (b:=!(eO cK (fl cK m_) x0.1 x0.2.1)) J J (fun b3=>?_)<|fun b3=>?_
    ·
     refine sk<|nx<|bk<|rg<|ak J gH<|k<|add J J J J aS<|au (v:=C ((k_:Int)+1)) J J<|z<|aH<|bB _ ?_ ⟨(k_+1),J,fL,gv,(bH J),jZ,mz,aq⟩
     omega
    refine ex<|aW<|ba<|bh<|nx<|sq<|aD<|ak J gH<|k<|eql J J J J<|z<|nx<|cd (b:=decide ((k_:Int)=0)) J J (fun b4=>?_)<|fun b4=>?_
    ·
     have p4:=dT b4
     refine aD<|ak J gv<|k<|O_ (mz.rv 3 J) J J J J aq eD cN ?_
     intro a32 po Bp
     let ot:=iL a32 (gm.drop (1:Int).toNat) po
     have iA:=mz.put (it:=ot) J Bp
     refine au (v:=R a32 (gm.drop (1:Int).toNat) po) J J<|av<|ex<|aW<|bh ?_
     have kC:=iA.put (it:=fI) J<|iA.rv 3 J
     have j9:=kC.put (it:=ot) J<|kC.rv 1 J
     have lL:=j9.put (it:=J2) J<|j9.rv 12 J
     have kJ:=lL.put (it:=J3) J<|lL.rv 14 J
     have wm:HI M w dL ((J3::J2::ot::fI::ot::eh)++r):=kJ
     have nF:HI M w dL ((fI::ot::bZ)++r):=HI.aQ (l:=(J3::J2::ot::fI::ot::eh)) (l':=(fI::ot::bZ)) (t:=r) wm [3,2,9,10,11,12,13,1,0,16,17,18,19,20] aw J J
     refine bB _ ?_ ⟨(gm.drop (1:Int).toNat),jv,oH,cK,m_,a32,po,pv,pq,kf,kc,J,fL,J,nF,(by intro e_ h_;exact uZ e_ (aq4 h_)),(by simp only[apJ];omega),bu,bu⟩
     first|(simp only[apJ];omega)|omega
    have p4:=dF b4
    refine sk<|nx<|sq<|aD<|ak J gv<|ak J gH<|k<|Jx (mz.rv 3 J) J J J J aq eD cN ?_
    intro a32 po Bp
    let pw:=iL a32 (gm.take (k_:Int).toNat) po
    have iA:=mz.put (it:=pw) J Bp
    refine k<|dP J J eD<|ak (v:=C 0) J J<|av<|bk<|lp (fun m f w'=>∃(q_:Nat) (jq:List cP) (jj:KV) (a33:OA) (lZ:Nat),m=(gm.take (k_:Int).toNat).length-q_∧f 0=pV da 0∧f 7=R a28 gm rT∧f 10=C (k_:Int)∧f 75=R a32 (gm.take (k_:Int).toNat) po∧f 76=C ((gm.take (k_:Int).toNat).length:Int)∧f 77=C (q_:Int)∧HI M w w' ([pw,jI,fZ,fI,iz,d_,J9,box bK #[C ((I.length:Nat):Int),R A9 (cY I U o) A6] 26,J0,box da #[.slice aC aF aB,R aA I az,R ay U ax,R a33 jq lZ,.map (some bD),C cK,R kf m_ kc,.map (some bN)] 142,J2,J3,oL w 175 a33 jq lZ,cj bD jj,J6,bW bN mq,J7]++r)∧(q_≤(gm.take (k_:Int).toNat).length)∧(jq.length≤jv.length+201*q_)) _ ⟨0,jv,oH,pv,pq,J,fL,gv,gH,J,J,(bH J),iA,aq,aq⟩ ?_
    rintro _ f3 ew ⟨q_,jq,jj,a33,lZ,rfl,kl,ln,ll,lU,nh,oX,kC,tg,adR⟩
    refine sq ?_
    have adZ:((gm.take (k_:Int).toNat)).length≤gm.length:=by rw[iH];exact asy _ _
    refine rg<|k<|lss J J oX nh<|av<|sq<|cd (b:=decide ((q_:Int)<((gm.take (k_:Int).toNat).length:Int))) J J (fun b5=>?_)<|fun b5=>?_
    ·
     have p5:=dT b5
     refine sk<|nx<|sq<|bk<|aD<|k<|ia (kC.rv 0 J) J J lU oX aq eD cN ?_
     intro la x1 cO rr
     refine k<|nI rr.w cN J J ?_
     intro v0 Ma
     obtain⟨_,⟨_,_,rfl,⟨rfl,L_⟩,⟨_,_,rfl,⟨rfl,ajj⟩,⟨rfl,aji⟩⟩⟩,rfl⟩:=Ma
     refine k<|al kC cN ?_
     let mX:=box da #[.slice aC aF aB,R aA I az,R ay U ax,R a33 jq lZ,.map (some bD),C cK,R kf m_ kc,.map (some bN)] 142
     let nE:=oL w 175 a33 jq lZ
     let fQ:=pw::jI::fZ::fI::iz::d_::J9::eJ::J0::mX::J2::J3::nE::cj bD jj::bf
     intro gT fq lk (oO:HI M w fq ((box gT #[C 0,C 0,C 0] 122::fQ)++r))
     refine k<|bA oO 0 J cN J J J J J J J ?_
     let tB:=box gT #[C x1.1,C x1.2.1,C x1.2.2] 122
     intro iF (j9:HI M w iF ((tB::fQ)++r))
     refine av<|rg<|ak J kl<|k<|cC j9 0 J cN J J aw J<|k ?_
     let lJ:=[fI,bW bN mq,tB,pw,jI,fZ,iz,d_,J9,eJ,J0,J6,J7]
     have pE:HI M w iF ([mX,J2,J3,nE,cj bD jj,fI,bW bN mq]++([tB,pw,jI,fZ,iz,d_,J9,eJ,J0,J6,J7]++r)):=HI.aQ (l:=(tB::fQ)) (l':=(mX::J2::J3::nE::cj bD jj::lJ)) (t:=r) j9 [10,11,12,13,14,4,16,0,1,2,3,5,6,7,8,9,15,17] aw J J
     have fc:=Bw (da:=da) (aC:=aC) (aF:=aF) (aB:=aB) (aA:=aA) (az:=az) (I:=I) (ay:=ay) (ax:=ax) (U:=U) (eF:=a33) (eE:=lZ) (sp:=jq) (bD:=bD) (mp:=jj) (pn:=cK) (dm:=kf) (dh:=kc) (pr:=m_) (bN:=bN) (mq:=mq) (fE:=x1.1) (fH:=x1.2.1) (gK:=x1.2.2) (w:=w) (w_:=iF) (r:=([tB,pw,jI,fZ,iz,d_,J9,eJ,J0,J6,J7]++r)) (M:=M) aS L_ ajj aji hT aq aq (by exact ey) aq (by exact ti) pE
     refine ca RT J (ec J<|ec J e0) fc ?_
     rintro _ jF ⟨qY,JM,tz,tu,rfl,lL,Te⟩
     let uG:=box da #[.slice aC aF aB,R aA I az,R ay U ax,R tz qY tu,.map (some bD),C cK,R kf m_ kc,.map (some bN)] 142
     let CB:=oL w 175 tz qY tu
     let uF:=cj bD JM
     refine z<|aH<|nx<|rg<|k<|add J J oX J aS<|ak (v:=C ((q_:Int)+1)) J J<|z ?_
     have kJ:=lL.put (it:=fI) J<|lL.rv 5 J
     have nF:=kJ.put (it:=J2) J<|kJ.rv 2 J
     have qP:=nF.put (it:=J3) J<|nF.rv 4 J
     have xf:HI M w jF ((J3::J2::fI::uG::J2::J3::CB::uF::lJ)++r):=qP
     let uE:=pw::jI::fZ::fI::iz::d_::J9::eJ::J0::uG::J2::J3::CB::uF::bf
     have oN:HI M w jF (uE++r):=HI.aQ (l:=(J3::J2::fI::uG::J2::J3::CB::uF::lJ)) (l':=uE) (t:=r) xf [11,12,13,2,14,15,16,17,18,3,1,0,6,7,19,9,20] aw J J
     refine bB _ ?_ ⟨(q_+1),qY,JM,tz,tu,J,kl,ln,ll,lU,nh,(bH J),oN,aq,aq⟩
     omega
    have p5:=dF b5
    refine ex<|aW<|ba<|bh<|cQ<|ak J kl<|ak J ln<|ak J ll<|k<|Jx (kC.rv 4 J) J J J J aq eD cN ?_
    intro tz tu Ma
    let zQ:=iL tz (gm.take (k_:Int).toNat) tu
    have oO:=kC.put (it:=zQ) J Ma
    let wj:=box da #[.slice aC aF aB,R aA I az,R ay U ax,R a33 jq lZ,.map (some bD),C cK,R kf m_ kc,.map (some bN)] 142
    let yT:=oL w 175 a33 jq lZ
    let yS:=cj bD jj
    let Ec:=zQ::pw::jI::fZ::fI::iz::d_::J9::eJ::J0::wj::J2::J3::yT::yS::bf
    have j9:HI M w ew (Ec++r):=oO
    refine k ?_
    let It:=[bW bN mq,zQ,pw,jI,fZ,iz,d_,J9,eJ,J0,J6,J7]
    have pE:HI M w ew ([wj,J2,J3,yT,yS,fI,bW bN mq,zQ]++([pw,jI,fZ,iz,d_,J9,eJ,J0,J6,J7]++r)):=HI.aQ (l:=Ec) (l':=(wj::J2::J3::yT::yS::fI::It)) (t:=r) j9 [10,11,12,13,14,4,16,0,1,2,3,5,6,7,8,9,15,17] aw J J
    have fc:=y_ (da:=da) (aC:=aC) (aF:=aF) (aB:=aB) (aA:=aA) (az:=az) (I:=I) (ay:=ay) (ax:=ax) (U:=U) (eF:=a33) (eE:=lZ) (sp:=jq) (bD:=bD) (mp:=jj) (pn:=cK) (dm:=kf) (dh:=kc) (pr:=m_) (bN:=bN) (mq:=mq) (Al:=tz) (Af:=tu) (es:=(gm.take (k_:Int).toNat)) (w:=w) (w_:=ew) (r:=([pw,jI,fZ,iz,d_,J9,eJ,J0,J6,J7]++r)) (M:=M) aS (by exact ti) (by intro x_ h_;rw[DG,J_];exact uZ x_ (aqF h_)) pE
    refine ca Li J (ec J<|ec J e0) fc ?_
    rintro _ fq ⟨qY,a35,D9,rfl,lL,Te⟩
    let FA:=box da #[.slice aC aF aB,R aA I az,R ay U ax,R a33 jq lZ,.map (some bD),C cK,R a35 qY D9,.map (some bN)] 142
    let ug:=iL a35 qY D9
    refine z<|nx ?_
    have adX:((gm.take (k_:Int).toNat)).length=k_:=by rw[iH,dS];exact aqk aq
    refine rg<|ak J ln<|ak J ll<|k<|O_ (lL.rv 11 J) J J J J aq eD cN ?_
    intro Eb D8 L_
    let sx:=iL Eb (gm.drop (k_:Int).toNat) D8
    have kJ:=lL.put (it:=sx) J L_
    refine au (v:=R Eb (gm.drop (k_:Int).toNat) D8) J J<|z<|aH ?_
    have nF:=kJ.put (it:=ug) J<|kJ.rv 6 J
    have qP:=nF.put (it:=sx) J<|nF.rv 1 J
    have oN:=qP.put (it:=J2) J<|qP.rv 4 J
    have KL:=oN.put (it:=J3) J<|oN.rv 6 J
    let Fs:=J3::J2::sx::ug::sx::FA::J2::J3::yT::yS::ug::It
    have VJ:HI M w fq (Fs++r):=KL
    let N9:=ug::sx::d_::J9::eJ::J0::FA::J2::J3::yT::yS::bf
    have VI:HI M w fq (N9++r):=HI.aQ (l:=Fs) (l':=N9) (t:=r) VJ [3,2,17,18,19,20,5,1,0,8,9,21,11,22] aw J J
    refine bB _ ?_ ⟨(gm.drop (k_:Int).toNat),jq,jj,cK,qY,Eb,D8,a33,lZ,a35,D9,J,kl,J,VI,(by intro e_ h_;exact uZ e_ (aq4 h_)),(by simp only[apJ];omega),bu,bu⟩
    first|(simp only[apJ];omega)|omega
   refine qn J J J b2<|qn J J J b2<|qn J J J b2<|qn J J J b2<|qn J J J b2<|qn J J J b2<|qn J J J b2<|qn J J J b2<|qn J J J b2<|qn J J J b2<|qn J J J b2<|qn J J J b2<|qn J J J b2<|kq (fun _ _=>cU J J J J b2 J e1)<|zq ?_
   intro dL jE
   have iR:=fe.ext jE
   refine nx<|nB J J J<|ex<|aW<|ba<|bh<|nx<|sq<|aD<|ak J gH<|k<|eql J J J J<|z<|nx<|cd (b:=decide ((k_:Int)=0)) J J (fun b3=>?_)<|fun b3=>?_
   ·
    have p3:=dT b3
    refine aD<|ak J gv<|k<|O_ (iR.rv 3 J) J J J J aq eD cN ?_
    intro a32 po Bq
    let wi:=iL a32 (gm.drop (1:Int).toNat) po
    have iQ:=iR.put (it:=wi) J Bq
    refine au (v:=R a32 (gm.drop (1:Int).toNat) po) J J<|av<|ex<|aW<|bh ?_
    have iA:=iQ.put (it:=fI) J<|iQ.rv 3 J
    have kC:=iA.put (it:=wi) J<|iA.rv 1 J
    have j9:=kC.put (it:=J2) J<|kC.rv 12 J
    have lL:=j9.put (it:=J3) J<|j9.rv 14 J
    have Ek:HI M w dL ((J3::J2::wi::fI::wi::eh)++r):=lL
    have kJ:HI M w dL ((fI::wi::bZ)++r):=HI.aQ (l:=(J3::J2::wi::fI::wi::eh)) (l':=(fI::wi::bZ)) (t:=r) Ek [3,2,9,10,11,12,13,1,0,16,17,18,19,20] aw J J
    refine bB _ ?_ ⟨(gm.drop (1:Int).toNat),jv,oH,cK,m_,a32,po,pv,pq,kf,kc,J,fL,J,kJ,(by intro e_ h_;exact uZ e_ (aq4 h_)),(by simp only[apJ];omega),bu,bu⟩
    first|(simp only[apJ];omega)|omega
   have p3:=dF b3
   refine sk<|nx<|sq<|aD<|ak J gv<|ak J gH<|k<|Jx (iR.rv 3 J) J J J J aq eD cN ?_
   intro a32 po Bq
   let qj:=iL a32 (gm.take (k_:Int).toNat) po
   have iQ:=iR.put (it:=qj) J Bq
   refine k<|dP J J eD<|ak (v:=C 0) J J<|av<|bk<|lp (fun m f w'=>∃(q_:Nat) (jq:List cP) (jj:KV) (a33:OA) (lZ:Nat),m=(gm.take (k_:Int).toNat).length-q_∧f 0=pV da 0∧f 7=R a28 gm rT∧f 10=C (k_:Int)∧f 75=R a32 (gm.take (k_:Int).toNat) po∧f 76=C ((gm.take (k_:Int).toNat).length:Int)∧f 77=C (q_:Int)∧HI M w w' ([qj,jI,fZ,fI,iz,d_,J9,box bK #[C ((I.length:Nat):Int),R A9 (cY I U o) A6] 26,J0,box da #[.slice aC aF aB,R aA I az,R ay U ax,R a33 jq lZ,.map (some bD),C cK,R kf m_ kc,.map (some bN)] 142,J2,J3,oL w 175 a33 jq lZ,cj bD jj,J6,bW bN mq,J7]++r)∧(q_≤(gm.take (k_:Int).toNat).length)∧(jq.length≤jv.length+201*q_)) _ ⟨0,jv,oH,pv,pq,J,fL,gv,gH,J,J,(bH J),iQ,aq,aq⟩ ?_
   rintro _ f3 ew ⟨q_,jq,jj,a33,lZ,rfl,kl,ln,ll,lU,nh,oX,iA,tg,adR⟩
   refine sq ?_
   have adZ:((gm.take (k_:Int).toNat)).length≤gm.length:=by rw[iH];exact asy _ _
   refine rg<|k<|lss J J oX nh<|av<|sq<|cd (b:=decide ((q_:Int)<((gm.take (k_:Int).toNat).length:Int))) J J (fun b4=>?_)<|fun b4=>?_
   ·
    have p4:=dT b4
    refine sk<|nx<|sq<|bk<|aD<|k<|ia (iA.rv 0 J) J J lU oX aq eD cN ?_
    intro jo x1 cO jw
    refine k<|nI jw.w cN J J ?_
    intro v0 FL
    obtain⟨_,⟨_,_,rfl,⟨rfl,Bp⟩,⟨_,_,rfl,⟨rfl,Ma⟩,⟨rfl,L_⟩⟩⟩,rfl⟩:=FL
    refine k<|al iA cN ?_
    let Ej:=box da #[.slice aC aF aB,R aA I az,R ay U ax,R a33 jq lZ,.map (some bD),C cK,R kf m_ kc,.map (some bN)] 142
    let zP:=oL w 175 a33 jq lZ
    let Yf:=qj::jI::fZ::fI::iz::d_::J9::eJ::J0::Ej::J2::J3::zP::cj bD jj::bf
    intro gT fq lk (pF:HI M w fq ((box gT #[C 0,C 0,C 0] 122::Yf)++r))
    refine k<|bA pF 0 J cN J J J J J J J ?_
    let yR:=box gT #[C x1.1,C x1.2.1,C x1.2.2] 122
    intro iF (kC:HI M w iF ((yR::Yf)++r))
    refine av<|rg<|ak J kl<|k<|cC kC 0 J cN J J aw J<|k ?_
    let Ye:=[fI,bW bN mq,yR,qj,jI,fZ,iz,d_,J9,eJ,J0,J6,J7]
    have oO:HI M w iF ([Ej,J2,J3,zP,cj bD jj,fI,bW bN mq]++([yR,qj,jI,fZ,iz,d_,J9,eJ,J0,J6,J7]++r)):=HI.aQ (l:=(yR::Yf)) (l':=(Ej::J2::J3::zP::cj bD jj::Ye)) (t:=r) kC [10,11,12,13,14,4,16,0,1,2,3,5,6,7,8,9,15,17] aw J J
    have fc:=Bw (da:=da) (aC:=aC) (aF:=aF) (aB:=aB) (aA:=aA) (az:=az) (I:=I) (ay:=ay) (ax:=ax) (U:=U) (eF:=a33) (eE:=lZ) (sp:=jq) (bD:=bD) (mp:=jj) (pn:=cK) (dm:=kf) (dh:=kc) (pr:=m_) (bN:=bN) (mq:=mq) (fE:=x1.1) (fH:=x1.2.1) (gK:=x1.2.2) (w:=w) (w_:=iF) (r:=([yR,qj,jI,fZ,iz,d_,J9,eJ,J0,J6,J7]++r)) (M:=M) aS Bp Ma L_ hT aq aq (by exact ey) aq (by exact ti) oO
    refine ca RT J (ec J<|ec J e0) fc ?_
    rintro _ jF ⟨qY,JM,tz,tu,rfl,j9,Te⟩
    let Ei:=box da #[.slice aC aF aB,R aA I az,R ay U ax,R tz qY tu,.map (some bD),C cK,R kf m_ kc,.map (some bN)] 142
    let Eh:=oL w 175 tz qY tu
    let Eg:=cj bD JM
    refine z<|aH<|nx<|rg<|k<|add J J oX J aS<|ak (v:=C ((q_:Int)+1)) J J<|z ?_
    have lL:=j9.put (it:=fI) J<|j9.rv 5 J
    have kJ:=lL.put (it:=J2) J<|lL.rv 2 J
    have nF:=kJ.put (it:=J3) J<|kJ.rv 4 J
    have xg:HI M w jF ((J3::J2::fI::Ei::J2::J3::Eh::Eg::Ye)++r):=nF
    let afY:=qj::jI::fZ::fI::iz::d_::J9::eJ::J0::Ei::J2::J3::Eh::Eg::bf
    have qP:HI M w jF (afY++r):=HI.aQ (l:=(J3::J2::fI::Ei::J2::J3::Eh::Eg::Ye)) (l':=afY) (t:=r) xg [11,12,13,2,14,15,16,17,18,3,1,0,6,7,19,9,20] aw J J
    refine bB _ ?_ ⟨(q_+1),qY,JM,tz,tu,J,kl,ln,ll,lU,nh,(bH J),qP,aq,aq⟩
    omega
   have p4:=dF b4
   refine ex<|aW<|ba<|bh<|cQ<|ak J kl<|ak J ln<|ak J ll<|k<|Jx (iA.rv 4 J) J J J J aq eD cN ?_
   intro tz tu FL
   let tA:=iL tz (gm.take (k_:Int).toNat) tu
   have pF:=iA.put (it:=tA) J FL
   let KK:=box da #[.slice aC aF aB,R aA I az,R ay U ax,R a33 jq lZ,.map (some bD),C cK,R kf m_ kc,.map (some bN)] 142
   let Fz:=oL w 175 a33 jq lZ
   let Fy:=cj bD jj
   let afX:=tA::qj::jI::fZ::fI::iz::d_::J9::eJ::J0::KK::J2::J3::Fz::Fy::bf
   have kC:HI M w ew (afX++r):=pF
   refine k ?_
   let afW:=[bW bN mq,tA,qj,jI,fZ,iz,d_,J9,eJ,J0,J6,J7]
   have oO:HI M w ew ([KK,J2,J3,Fz,Fy,fI,bW bN mq,tA]++([qj,jI,fZ,iz,d_,J9,eJ,J0,J6,J7]++r)):=HI.aQ (l:=afX) (l':=(KK::J2::J3::Fz::Fy::fI::afW)) (t:=r) kC [10,11,12,13,14,4,16,0,1,2,3,5,6,7,8,9,15,17] aw J J
   have fc:=y_ (da:=da) (aC:=aC) (aF:=aF) (aB:=aB) (aA:=aA) (az:=az) (I:=I) (ay:=ay) (ax:=ax) (U:=U) (eF:=a33) (eE:=lZ) (sp:=jq) (bD:=bD) (mp:=jj) (pn:=cK) (dm:=kf) (dh:=kc) (pr:=m_) (bN:=bN) (mq:=mq) (Al:=tz) (Af:=tu) (es:=(gm.take (k_:Int).toNat)) (w:=w) (w_:=ew) (r:=([qj,jI,fZ,iz,d_,J9,eJ,J0,J6,J7]++r)) (M:=M) aS (by exact ti) (by intro x_ h_;rw[DG,J_];exact uZ x_ (aqF h_)) oO
   refine ca Li J (ec J<|ec J e0) fc ?_
   rintro _ fq ⟨qY,a35,D9,rfl,j9,Te⟩
   let Ba:=box da #[.slice aC aF aB,R aA I az,R ay U ax,R a33 jq lZ,.map (some bD),C cK,R a35 qY D9,.map (some bN)] 142
   let Iy:=iL a35 qY D9
   refine z<|nx ?_
   have adX:((gm.take (k_:Int).toNat)).length=k_:=by rw[iH,dS];exact aqk aq
   refine rg<|ak J ln<|ak J ll<|k<|O_ (j9.rv 11 J) J J J J aq eD cN ?_
   intro Eb D8 Bp
   let Fx:=iL Eb (gm.drop (k_:Int).toNat) D8
   have lL:=j9.put (it:=Fx) J Bp
   refine au (v:=R Eb (gm.drop (k_:Int).toNat) D8) J J<|z<|aH ?_
   have kJ:=lL.put (it:=Iy) J<|lL.rv 6 J
   have nF:=kJ.put (it:=Fx) J<|kJ.rv 1 J
   have qP:=nF.put (it:=J2) J<|nF.rv 4 J
   have oN:=qP.put (it:=J3) J<|qP.rv 6 J
   let afV:=J3::J2::Fx::Iy::Fx::Ba::J2::J3::Fz::Fy::Iy::afW
   have Z4:HI M w fq (afV++r):=oN
   let afU:=Iy::Fx::d_::J9::eJ::J0::Ba::J2::J3::Fz::Fy::bf
   have KL:HI M w fq (afU++r):=HI.aQ (l:=afV) (l':=afU) (t:=r) Z4 [3,2,17,18,19,20,5,1,0,8,9,21,11,22] aw J J
   refine bB _ ?_ ⟨(gm.drop (k_:Int).toNat),jq,jj,cK,qY,Eb,D8,a33,lZ,a35,D9,J,kl,J,KL,(by intro e_ h_;exact uZ e_ (aq4 h_)),(by simp only[apJ];omega),bu,bu⟩
   first|(simp only[apJ];omega)|omega
  have p1:=dF b1
  refine qn J J J b1<|qn J J J b1<|qn J J J b1<|qn J J J b1<|qn J J J b1<|qn J J J b1<|qn J J J b1<|qn J J J b1<|qn J J J b1<|qn J J J b1<|qn J J J b1<|qn J J J b1<|kq (fun _ _=>cU J J J J b1 J e1)<|kq (fun _ _=>mv (v:=.bool false) J J e1)<|qn J J J J<|qn J J J J<|qn J J J J<|qn J J J J<|qn J J J J<|qn J J J J<|qn J J J J<|qn J J J J<|qn J J J J<|qn J J J J<|qn J J J J<|qn J J J J<|qn J J J J<|kq (fun _ _=>cU J J J J J J e1)<|zq ?_
  intro dL jE
  have fw:=fe.ext jE
  refine nx<|nB J J J<|ex<|aW<|ba<|bh<|nx<|sq<|aD<|ak J gH<|k<|eql J J J J<|z<|nx<|cd (b:=decide ((k_:Int)=0)) J J (fun b2=>?_)<|fun b2=>?_
  ·
   have p2:=dT b2
   refine aD<|ak J gv<|k<|O_ (fw.rv 3 J) J J J J aq eD cN ?_
   intro a32 po FN
   let A':=iL a32 (gm.drop (1:Int).toNat) po
   have gl:=fw.put (it:=A') J FN
   refine au (v:=R a32 (gm.drop (1:Int).toNat) po) J J<|av<|ex<|aW<|bh ?_
   have iQ:=gl.put (it:=fI) J<|gl.rv 3 J
   have iA:=iQ.put (it:=A') J<|iQ.rv 1 J
   have kC:=iA.put (it:=J2) J<|iA.rv 12 J
   have j9:=kC.put (it:=J3) J<|kC.rv 14 J
   have pE:HI M w dL ((J3::J2::A'::fI::A'::eh)++r):=j9
   have lL:HI M w dL ((fI::A'::bZ)++r):=HI.aQ (l:=(J3::J2::A'::fI::A'::eh)) (l':=(fI::A'::bZ)) (t:=r) pE [3,2,9,10,11,12,13,1,0,16,17,18,19,20] aw J J
   refine bB _ ?_ ⟨(gm.drop (1:Int).toNat),jv,oH,cK,m_,a32,po,pv,pq,kf,kc,J,fL,J,lL,(by intro e_ h_;exact uZ e_ (aq4 h_)),(by simp only[apJ];omega),bu,bu⟩
   first|(simp only[apJ];omega)|omega
  have p2:=dF b2
  refine sk<|nx<|sq<|aD<|ak J gv<|ak J gH<|k<|Jx (fw.rv 3 J) J J J J aq eD cN ?_
  intro a32 po FN
  let zO:=iL a32 (gm.take (k_:Int).toNat) po
  have gl:=fw.put (it:=zO) J FN
  refine k<|dP J J eD<|ak (v:=C 0) J J<|av<|bk<|lp (fun m f w'=>∃(q_:Nat) (jq:List cP) (jj:KV) (a33:OA) (lZ:Nat),m=(gm.take (k_:Int).toNat).length-q_∧f 0=pV da 0∧f 7=R a28 gm rT∧f 10=C (k_:Int)∧f 75=R a32 (gm.take (k_:Int).toNat) po∧f 76=C ((gm.take (k_:Int).toNat).length:Int)∧f 77=C (q_:Int)∧HI M w w' ([zO,jI,fZ,fI,iz,d_,J9,box bK #[C ((I.length:Nat):Int),R A9 (cY I U o) A6] 26,J0,box da #[.slice aC aF aB,R aA I az,R ay U ax,R a33 jq lZ,.map (some bD),C cK,R kf m_ kc,.map (some bN)] 142,J2,J3,oL w 175 a33 jq lZ,cj bD jj,J6,bW bN mq,J7]++r)∧(q_≤(gm.take (k_:Int).toNat).length)∧(jq.length≤jv.length+201*q_)) _ ⟨0,jv,oH,pv,pq,J,fL,gv,gH,J,J,(bH J),gl,aq,aq⟩ ?_
  rintro _ f3 ew ⟨q_,jq,jj,a33,lZ,rfl,kl,ln,ll,lU,nh,oX,iQ,tg,adR⟩
  refine sq ?_
  have adZ:((gm.take (k_:Int).toNat)).length≤gm.length:=by rw[iH];exact asy _ _
  refine rg<|k<|lss J J oX nh<|av<|sq<|cd (b:=decide ((q_:Int)<((gm.take (k_:Int).toNat).length:Int))) J J (fun b3=>?_)<|fun b3=>?_
  ·
   have p3:=dT b3
   refine sk<|nx<|sq<|bk<|aD<|k<|ia (iQ.rv 0 J) J J lU oX aq eD cN ?_
   intro iy x0 aN cB
   refine k<|nI cB.w cN J J ?_
   intro v0 FM
   obtain⟨_,⟨_,_,rfl,⟨rfl,Bq⟩,⟨_,_,rfl,⟨rfl,FL⟩,⟨rfl,Bp⟩⟩⟩,rfl⟩:=FM
   refine k<|al iQ cN ?_
   let KJ:=box da #[.slice aC aF aB,R aA I az,R ay U ax,R a33 jq lZ,.map (some bD),C cK,R kf m_ kc,.map (some bN)] 142
   let Ef:=oL w 175 a33 jq lZ
   let Yd:=zO::jI::fZ::fI::iz::d_::J9::eJ::J0::KJ::J2::J3::Ef::cj bD jj::bf
   intro gT fq lk (mz:HI M w fq ((box gT #[C 0,C 0,C 0] 122::Yd)++r))
   refine k<|bA mz 0 J cN J J J J J J J ?_
   let wh:=box gT #[C x0.1,C x0.2.1,C x0.2.2] 122
   intro iF (iA:HI M w iF ((wh::Yd)++r))
   refine av<|rg<|ak J kl<|k<|cC iA 0 J cN J J aw J<|k ?_
   let afT:=[fI,bW bN mq,wh,zO,jI,fZ,iz,d_,J9,eJ,J0,J6,J7]
   have pF:HI M w iF ([KJ,J2,J3,Ef,cj bD jj,fI,bW bN mq]++([wh,zO,jI,fZ,iz,d_,J9,eJ,J0,J6,J7]++r)):=HI.aQ (l:=(wh::Yd)) (l':=(KJ::J2::J3::Ef::cj bD jj::afT)) (t:=r) iA [10,11,12,13,14,4,16,0,1,2,3,5,6,7,8,9,15,17] aw J J
   have fc:=Bw (da:=da) (aC:=aC) (aF:=aF) (aB:=aB) (aA:=aA) (az:=az) (I:=I) (ay:=ay) (ax:=ax) (U:=U) (eF:=a33) (eE:=lZ) (sp:=jq) (bD:=bD) (mp:=jj) (pn:=cK) (dm:=kf) (dh:=kc) (pr:=m_) (bN:=bN) (mq:=mq) (fE:=x0.1) (fH:=x0.2.1) (gK:=x0.2.2) (w:=w) (w_:=iF) (r:=([wh,zO,jI,fZ,iz,d_,J9,eJ,J0,J6,J7]++r)) (M:=M) aS Bq FL Bp hT aq aq (by exact ey) aq (by exact ti) pF
   refine ca RT J (ec J<|ec J e0) fc ?_
   rintro _ jF ⟨qY,JM,tz,tu,rfl,kC,Te⟩
   let Oe:=box da #[.slice aC aF aB,R aA I az,R ay U ax,R tz qY tu,.map (some bD),C cK,R kf m_ kc,.map (some bN)] 142
   let Od:=oL w 175 tz qY tu
   let Oc:=cj bD JM
   refine z<|aH<|nx<|rg<|k<|add J J oX J aS<|ak (v:=C ((q_:Int)+1)) J J<|z ?_
   have j9:=kC.put (it:=fI) J<|kC.rv 5 J
   have lL:=j9.put (it:=J2) J<|j9.rv 2 J
   have kJ:=lL.put (it:=J3) J<|lL.rv 4 J
   let afS:=J3::J2::fI::Oe::J2::J3::Od::Oc::afT
   have wm:HI M w jF (afS++r):=kJ
   let afR:=zO::jI::fZ::fI::iz::d_::J9::eJ::J0::Oe::J2::J3::Od::Oc::bf
   have nF:HI M w jF (afR++r):=HI.aQ (l:=afS) (l':=afR) (t:=r) wm [11,12,13,2,14,15,16,17,18,3,1,0,6,7,19,9,20] aw J J
   refine bB _ ?_ ⟨(q_+1),qY,JM,tz,tu,J,kl,ln,ll,lU,nh,(bH J),nF,aq,aq⟩
   omega
  have p3:=dF b3
  refine ex<|aW<|ba<|bh<|cQ<|ak J kl<|ak J ln<|ak J ll<|k<|Jx (iQ.rv 4 J) J J J J aq eD cN ?_
  intro tz tu FM
  let yQ:=iL tz (gm.take (k_:Int).toNat) tu
  have mz:=iQ.put (it:=yQ) J FM
  let KI:=box da #[.slice aC aF aB,R aA I az,R ay U ax,R a33 jq lZ,.map (some bD),C cK,R kf m_ kc,.map (some bN)] 142
  let Fw:=oL w 175 a33 jq lZ
  let Fv:=cj bD jj
  let afQ:=yQ::zO::jI::fZ::fI::iz::d_::J9::eJ::J0::KI::J2::J3::Fw::Fv::bf
  have iA:HI M w ew (afQ++r):=mz
  refine k ?_
  let afP:=[bW bN mq,yQ,zO,jI,fZ,iz,d_,J9,eJ,J0,J6,J7]
  have pF:HI M w ew ([KI,J2,J3,Fw,Fv,fI,bW bN mq,yQ]++([zO,jI,fZ,iz,d_,J9,eJ,J0,J6,J7]++r)):=HI.aQ (l:=afQ) (l':=(KI::J2::J3::Fw::Fv::fI::afP)) (t:=r) iA [10,11,12,13,14,4,16,0,1,2,3,5,6,7,8,9,15,17] aw J J
  have fc:=y_ (da:=da) (aC:=aC) (aF:=aF) (aB:=aB) (aA:=aA) (az:=az) (I:=I) (ay:=ay) (ax:=ax) (U:=U) (eF:=a33) (eE:=lZ) (sp:=jq) (bD:=bD) (mp:=jj) (pn:=cK) (dm:=kf) (dh:=kc) (pr:=m_) (bN:=bN) (mq:=mq) (Al:=tz) (Af:=tu) (es:=(gm.take (k_:Int).toNat)) (w:=w) (w_:=ew) (r:=([zO,jI,fZ,iz,d_,J9,eJ,J0,J6,J7]++r)) (M:=M) aS (by exact ti) (by intro x_ h_;rw[DG,J_];exact uZ x_ (aqF h_)) pF
  refine ca Li J (ec J<|ec J e0) fc ?_
  rintro _ fq ⟨qY,a35,D9,rfl,kC,Te⟩
  let VG:=box da #[.slice aC aF aB,R aA I az,R ay U ax,R a33 jq lZ,.map (some bD),C cK,R a35 qY D9,.map (some bN)] 142
  let Ix:=iL a35 qY D9
  refine z<|nx ?_
  have adX:((gm.take (k_:Int).toNat)).length=k_:=by rw[iH,dS];exact aqk aq
  refine rg<|ak J ln<|ak J ll<|k<|O_ (kC.rv 11 J) J J J J aq eD cN ?_
  intro Eb D8 Bq
  let Fu:=iL Eb (gm.drop (k_:Int).toNat) D8
  have j9:=kC.put (it:=Fu) J Bq
  refine au (v:=R Eb (gm.drop (k_:Int).toNat) D8) J J<|z<|aH ?_
  have lL:=j9.put (it:=Ix) J<|j9.rv 6 J
  have kJ:=lL.put (it:=Fu) J<|lL.rv 1 J
  have nF:=kJ.put (it:=J2) J<|kJ.rv 4 J
  have qP:=nF.put (it:=J3) J<|nF.rv 6 J
  let afO:=J3::J2::Fu::Ix::Fu::VG::J2::J3::Fw::Fv::Ix::afP
  have xf:HI M w fq (afO++r):=qP
  let afN:=Ix::Fu::d_::J9::eJ::J0::VG::J2::J3::Fw::Fv::bf
  have oN:HI M w fq (afN++r):=HI.aQ (l:=afO) (l':=afN) (t:=r) xf [3,2,17,18,19,20,5,1,0,8,9,21,11,22] aw J J
  refine bB _ ?_ ⟨(gm.drop (k_:Int).toNat),jq,jj,cK,qY,Eb,D8,a33,lZ,a35,D9,J,kl,J,oN,(by intro e_ h_;exact uZ e_ (aq4 h_)),(by simp only[apJ];omega),bu,bu⟩
  first|(simp only[apJ];omega)|omega
 refine ex<|aW<|ba<|bh<|EX J ?_
 let A_:=box da #[.slice aC aF aB,R aA I az,R ay U ax,R pv jv pq,.map (some bD),C cK,R kf m_ kc,.map (some bN)] 142
 have dV:=HI.aQ (l:=[iL kf m_ kc,iL a28 gm rT,d_,J9,eJ,J0,A_,J2,J3,oL w 175 pv jv pq,cj bD oH,J6,bW bN mq,J7]) (l':=[A_,J2,J3,oL w 175 pv jv pq,cj bD oH,iL kf m_ kc,bW bN mq,J7]) (t:=r) dX [6,7,8,9,10,0,12,13] aw J J
 have e0:(cK:Int)=pn:=by exact DG
 try rw[←e0]
 refine⟨jv,oH,m_,pv,pq,kf,kc,?_,?_,aq,(by exact ti)⟩
 · first|rfl|simp only[e0]|(simp only[apk])
 · first|exact dV|simpa +zetaDelta only[e0,apk] using dV
theorem ZA:cD aM 119:=cE Tryz.func119
theorem E1 (B1:aK fE) (EB:aK fH) (B0:aK gK) (Zl:aK mT) (Zk:aK mS) (Zj:aK nA):Calls aM 119 #[.agg #[C fE,C fH,C gK],.agg #[C mT,C mS,C nA]] w (ck fun v w'=>v=.bool (decide (fE=mT)&&decide (fH=mS))∧Ext w w'):=by
 refine dv 17 Tryz.func119 J J J qF fun f0 ha H=>?_
 have i0:f0 0=.agg #[C fE,C fH,C gK]:=ha 0 bm
 have i1:f0 1=.agg #[C mT,C mS,C nA]:=ha 1 bm
 refine aD<|k<|bx H J i0 ?_
 intro aX w0 bY (H0:HI (fun _=>False) w w0 [box aX #[C fE,C fH,C gK] 122])
 refine k<|bx H0 J i1 ?_
 intro bj w1 cS (H1:HI (fun _=>False) w w1 [box bj #[C mT,C mS,C nA] 122,box aX #[C fE,C fH,C gK] 122])
 refine au (v:=.bool false) J J<|bz<|aU kV J J<|bq H1 1 J aT J J J<|aU kV J J<|bq H1 0 J aT J J J<|k<|eql J J J J<|ak (v:=.bool (decide (fE=mT))) J J ?_
 rcases bE (decide (fE=mT)) with b0|b0
 ·
  refine bl J J J b0<|fa nf J J<|bl J J J b0<|lx H1 1 J aT J J J<|bl J J J b0<|fa nf J J<|bl J J J b0<|lx H1 0 J aT J J J<|bl J J J b0<|eql J J J J<|k<|aQ J J J J b0 J<|au (v:=.bool (decide (fH=mS))) J J<|av<|rt<|r1 J J ?_
  exact⟨apj Value.bool (by simp only[b0,BL]),H1.below⟩
 refine aZ J J J b0<|aZ J J J b0<|aZ J J J b0<|aZ J J J b0<|aZ J J J b0<|k<|cU J J J J b0 J<|au (v:=.bool false) J J<|av<|rt<|r1 J J ?_
 exact⟨apj Value.bool (by simp only[b0,BL]),H1.below⟩
theorem GG {xs:List (Int×Int×Int)} (H:HI M w w_ ([oL w 122 ee xs dW]++r)):Calls aM 118 #[R ee xs dW,.func (.func 119) #[] #[]] w_ (ck fun v w'=>∃(Yj:List eu),v=R ee Yj dW∧HI M w w' ([oL w 122 ee Yj dW]++r)∧Yj.length≤xs.length∧∀x∈Yj,x∈xs):=by
 refine enter 66 Tryz.func118 J J J fun f0 ha=>?_
 have Hg:=kr<|H.at_ 0 J
 have i0:f0 0=R ee xs dW:=ha 0 bm
 have i1:f0 1=.func (.func 119) #[] #[]:=ha 1 bm
 refine aD<|au (v:=.slice none 0 0) J J<|av<|sq<|aD<|ak J i0<|k<|dP J J eD<|k<|lss J J J J<|z<|nx<|cd (b:=decide ((xs.length:Int)<2)) J J (fun b0=>?_)<|fun b0=>?_
 ·
  refine aD<|ak J i0<|au (v:=R ee xs dW) J J<|av<|rt<|aL<|r1 J J ?_
  refine⟨xs,?_,?_,(by exact apn _),(by exact fun _ h_=>h_)⟩
  · first|rfl|simp only[apk]
  · first|exact H|simpa +zetaDelta only[apk] using H
 have p0:=dF b0
 refine sk<|nx<|sq<|aD<|au (v:=C 1) J J<|av<|bk<|lp (fun m f w'=>∃(k_:Nat),m=xs.length-k_∧f 0=R ee xs dW∧f 1=.func (.func 119) #[] #[]∧f 5=C (k_:Int)∧HI M w w' ([oL w 122 ee xs dW]++r)∧(1≤k_∧k_≤xs.length)) _ ⟨1,J,i0,i1,(bH J),H,aq⟩ ?_
 rintro _ f0 w0 ⟨k_,rfl,s0,s1,s2,H0,kb⟩
 refine sq<|aD<|ak J s2<|ak J s0<|k<|dP J J eD<|k<|lss J J J J<|z<|nx<|cd (b:=decide ((k_:Int)<(xs.length:Int))) J J (fun b1=>?_)<|fun b1=>?_
 ·
  have p1:=dT b1
  refine sk<|nx<|sq<|bk<|sq<|mw [.r,.r,.r,.r,.r,.r,.r,.r,.r,.r,.r] (fun _=>True) J aV (fun _ _=>trivial)<|yq J J<|kq (fun _ _=>mv J s1 e1)<|bS<|kq (fun _ _=>mv J s0 e1)<|bS<|kq (fun _ _=>mv J s2 e1)<|bS<|tL (H0.at_ 0 J) J J J J aq eD cN ?_
  intro iy x0 aN cB
  refine bS<|yX cB cN J J ?_
  intro v0 cm
  obtain⟨_,⟨_,_,rfl,⟨rfl,dN⟩,⟨_,_,rfl,⟨rfl,dH⟩,⟨rfl,ft⟩⟩⟩,rfl⟩:=cm
  refine bS<|kq (fun _ _=>mv J s0 e1)<|bS<|kq (fun _ _=>mv J s2 e1)<|bS<|kq (fun _ _=>sub J J J J aS e1)<|bS<|tL (H0.at_ 0 J) J J J J aq eD cN ?_
  intro mV x1 cO gx
  refine bS<|yX gx cN J J ?_
  intro v1 iO
  obtain⟨_,⟨_,_,rfl,⟨rfl,jK⟩,⟨_,_,rfl,⟨rfl,i'⟩,⟨rfl,kN⟩⟩⟩,rfl⟩:=iO
  refine zq<|yq J J<|kq (v:=.bool (decide (x0.1=x1.1)&&decide (x0.2.1=x1.2.1))) (fun v_ _=>have cc:=E1 (fE:=x0.1) (fH:=x0.2.1) (gK:=x0.2.2) (mT:=x1.1) (mS:=x1.2.1) (nA:=x1.2.2) (w:=v_) dN dH ft jK i' kN;cf ZA rfl rfl rfl (ec J<|ec J e0) cc fun _ _ h_=>e2 h_)<|zq<|yz ?_
  intro w1 f1 _ bY _ _ cG jc
  have H1:=H0.ext bY
  have s3:=(cG 0 J).trans s0
  have s4:=(cG 1 J).trans s1
  have s5:=(cG 5 J).trans s2
  have s6:=cG 28 J
  refine kz<|nx<|cd (b:=(decide (x0.1=x1.1)&&decide (x0.2.1=x1.2.1))) J s6 (fun b2=>?_)<|fun b2=>?_
  ·
   refine aD<|ak J s3<|ak J s5<|k<|V7 (H1.at_ 0 J) J J J J aq eD cN<|au (v:=.slice (pR ee dW (k_:Int).toNat) (xs.length-(k_:Int).toNat) (dW-(k_:Int).toNat)) J J<|av<|sq<|aD<|au (v:=C 1) J J<|av<|bk<|lp (fun m f w'=>∃(uo:Nat) (q_:Nat) (rK:List eu),m=xs.length-k_-uo∧f 0=R ee xs dW∧f 1=.func (.func 119) #[] #[]∧f 5=C (q_:Int)∧f 6=.slice (pR ee dW (k_:Int).toNat) (xs.length-(k_:Int).toNat) (dW-(k_:Int).toNat)∧f 7=C (uo:Int)∧HI M w w' ([own w.heap.size 122 (.slice ee xs.length dW) rK]++r)∧(rK.length=xs.length∧∀x∈rK,x∈xs)∧(k_≤q_∧q_<k_+uo∧k_+uo≤xs.length)) _ ⟨1,k_,xs,J,s3,s4,(bH s5),J,(bH J),H1,(by exact⟨J,fun _ h_=>h_⟩),aq⟩ ?_
   rintro _ f2 w2 ⟨uo,q_,rK,rfl,s7,s8,s9,ei,eR,H2,hs,tg⟩
   refine sq<|aD<|ak J eR<|ak J ei<|k<|dP J J eD<|k<|lss J J J J<|z<|nx<|cd (b:=decide ((uo:Int)<((xs.length-(k_:Int).toNat:Nat):Int))) J J (fun b3=>?_)<|fun b3=>?_
   ·
    have p3:=dT b3
    refine sk<|nx<|sq<|bk<|sq<|mw [.r,.r,.r,.r,.r,.r,.r,.r,.r,.r,.r,.r] (fun _=>True) J aV (fun _ _=>trivial)<|yq J J<|kq (fun _ _=>mv J s8 e1)<|bS<|kq (fun _ _=>mv J ei e1)<|bS<|kq (fun _ _=>mv J eR e1)<|bS<|Td (H2.at_ 0 J) J J J J aq eD cN ?_
    intro jo x2 iY jw
    refine bS<|yX jw cN J J ?_
    intro v2 nj
    obtain⟨_,⟨_,_,rfl,⟨rfl,n9⟩,⟨_,_,rfl,⟨rfl,qT⟩,⟨rfl,nR⟩⟩⟩,rfl⟩:=nj
    refine bS<|kq (fun _ _=>mv J ei e1)<|bS<|kq (fun _ _=>mv J eR e1)<|bS<|kq (fun _ _=>sub J J J J aS e1)<|bS<|Td (H2.at_ 0 J) J J J J aq eD cN ?_
    intro nD x3 nr qe
    refine bS<|yX qe cN J J ?_
    intro v3 mA
    obtain⟨_,⟨_,_,rfl,⟨rfl,pI⟩,⟨_,_,rfl,⟨rfl,qx⟩,⟨rfl,qw⟩⟩⟩,rfl⟩:=mA
    refine zq<|yq J J<|kq (v:=.bool (decide (x2.1=x3.1)&&decide (x2.2.1=x3.2.1))) (fun v_ _=>have cc:=E1 (fE:=x2.1) (fH:=x2.2.1) (gK:=x2.2.2) (mT:=x3.1) (mS:=x3.2.1) (nA:=x3.2.2) (w:=v_) n9 qT nR pI qx qw;cf ZA rfl rfl rfl (ec J<|ec J e0) cc fun _ _ h_=>e2 h_)<|bS<|kq (fun _ _=>jr J J e1)<|zq<|yz ?_
    intro w3 f3 _ cS _ _ fO AN
    have H3:=H2.ext cS
    have fM:=(fO 0 J).trans s7
    have fL:=(fO 1 J).trans s8
    have gv:=(fO 5 J).trans s9
    have gH:=(fO 6 J).trans ei
    have jZ:=(fO 7 J).trans eR
    have kl:=fO 49 J
    refine kz<|nx<|cd (b:=!(decide (x2.1=x3.1)&&decide (x2.2.1=x3.2.1))) J kl (fun b4=>?_)<|fun b4=>?_
    ·
     refine aD<|ak J fM<|ak J gv<|ak J gH<|ak J jZ<|k<|ajs (H3.at_ 0 J) J J J J aq eD cN ?_
     intro la x4 yo rr
     refine k<|nI rr cN J J ?_
     intro v4 Br
     obtain⟨_,⟨_,_,rfl,⟨rfl,FO⟩,⟨_,_,rfl,⟨rfl,QQ⟩,⟨rfl,acK⟩⟩⟩,rfl⟩:=Br
     refine k<|iC (H3.at_ 0 J) J J J J aq eD cN ?_
     intro g0 x5 iP MX zv
     refine k<|qE H3 0 J iP J aq cN J J J J ⟨_,⟨_,_,J,⟨J,(show aK (x4.1) from bu)⟩,⟨_,_,J,⟨J,(show aK (x4.2.1) from bu)⟩,⟨J,(show aK (x4.2.2) from bu)⟩⟩⟩,J⟩ ?_
     intro w4 (H4:HI M w w4 ([own w.heap.size 122 (.slice ee xs.length dW) (rK.set ((q_:Int).toNat) (x4.1,x4.2.1,x4.2.2))]++r))
     refine av<|rg<|ak J gv<|k<|add J J J J aS<|au (v:=C ((q_:Int)+1)) J J<|z<|aH<|nx<|rg<|ak J jZ<|k<|add J J J J aS<|au (v:=C ((uo:Int)+1)) J J<|z<|bB _ ?_ ⟨(uo+1),(q_+1),(rK.set ((q_:Int).toNat) (x4.1,x4.2.1,x4.2.2)),J,fM,fL,(bH J),gH,(bH J),H4,(by exact abz hs yo),aq⟩
     omega
    refine sk<|aH<|nx<|rg<|ak J jZ<|k<|add J J J J aS<|au (v:=C ((uo:Int)+1)) J J<|z<|bB _ ?_ ⟨(uo+1),q_,rK,J,fM,fL,(bH gv),gH,(bH J),H3,(by exact hs),aq⟩
    omega
   refine ex<|aW<|ba<|bh<|cQ<|ak J s7<|ak J s9<|k<|V7 (H2.at_ 0 J) J J J J aq eD cN<|k<|clE H2 0 J J J (q:=(q_:Int).toNat) J eD cN (by have h_:=hs.1;omega) ?_
   intro w3 (H3:HI M w w3 ([own w.heap.size 122 (.slice ee xs.length dW) (rK.take ((q_:Int).toNat)++List.replicate (rK.length-((q_:Int).toNat)) (0,0,0))]++r))
   refine bz<|ak J s7<|ak J s9<|k<|SY H3 0 J J J J J (by have h_:=hs.1;first|omega|(simp only[gj,iH,oI];omega)) eD cN ?_
   intro (H4:HI M w w3 ([oL w 122 ee ((rK.take ((q_:Int).toNat)++List.replicate (rK.length-((q_:Int).toNat)) (0,0,0)).take (q_:Int).toNat) dW]++r))
   refine au (v:=R ee ((rK.take ((q_:Int).toNat)++List.replicate (rK.length-((q_:Int).toNat)) (0,0,0)).take (q_:Int).toNat) dW) J J<|av<|rt<|bI<|aL<|du<|bI<|aL<|r1 J J ?_
   refine⟨((rK.take ((q_:Int).toNat)++List.replicate (rK.length-((q_:Int).toNat)) (0,0,0)).take (q_:Int).toNat),?_,?_,(by have h_:=hs.1;exact abB h_ aq),(by have h_:=hs.1;exact abA hs.2 aq)⟩
   · first|rfl|simp only[apk]
   · first|exact H4|simpa +zetaDelta only[apk] using H4
  refine sk<|aH<|nx<|rg<|ak J s5<|k<|add J J J J aS<|au (v:=C ((k_:Int)+1)) J J<|z<|bB _ ?_ ⟨(k_+1),J,s3,s4,(bH J),H1,aq⟩
  omega
 refine ex<|aW<|ba<|bh<|cQ<|ak J s0<|au (v:=R ee xs dW) J J<|av<|rt<|r1 J J ?_
 refine⟨xs,?_,?_,(by exact apn _),(by exact fun _ h_=>h_)⟩
 · first|rfl|simp only[apk]
 · first|exact H0|simpa +zetaDelta only[apk] using H0
theorem ahd:cD aM 118:=cE Tryz.func118
theorem abl:gV aM 175 0 0:=j1 Tryz.underlying175
theorem G7 (rn:aK pn) (hT:fY 0 w) (ho:ij I) (dG:I.length≤64) (ey:U.length=I.length) (fP:∀x∈U,x<((I.length:Nat):Int)) (J_:pn=((I.length:Nat):Int)) (uM:bL pn pr=true) (IX:sp.length≤1000000000000) (H:HI M w w_ ([box da #[.slice aC aF aB,R aA I az,R ay U ax,R eF sp eE,.map (some bD),C pn,R dm pr dh,.map (some bN)] 142,iL aA I az,iL ay U ax,oL w 175 eF sp eE,cj bD mp,iL dm pr dh,bW bN mq]++r)):Calls aM 80 #[pV da 0] w_ (ck fun v w'=>∃(tG:List cP) (He:KV) (C8:List (List bw)) (oq:OA) (oo:Nat) (zL:OA) (zG:Nat),v=.tuple #[]∧HI M w w' ([box da #[.slice aC aF aB,R aA I az,R ay U ax,R oq tG oo,.map (some bD),C pn,R zL C8 zG,.map (some bN)] 142,iL aA I az,iL ay U ax,oL w 175 oq tG oo,cj bD He,iL zL C8 zG,bW bN mq]++r)∧tG.length≤sp.length+53000000∧bL pn C8=true):=by
 refine enter 77 Tryz.func80 J J J fun f0 ha=>?_
 have iE:=bg<|H.rv 1 J
 have kh:=bg<|H.rv 2 J
 have Ex:=kr<|H.at_ 3 J
 have Ey:=bg<|H.rv 5 J
 have i0:f0 0=pV da 0:=ha 0 bm
 have FQ:=pj uM
 have RC:=(rB (I:=I) (U:=U) FQ).1
 have uZ:=UW (I:=I) (U:=U) J_ FQ ey fP
 refine sq<|mw [.r,.r,.r,.r,.r,.r,.r,.r,.r,.r,.r] (fun _=>True) J aV (fun _ _=>trivial)<|yq J J<|kq (fun _ _=>mv J i0 e1)<|bS<|kq (fun _ _=>nc J J e1)<|bS<|kq (fun _ _=>fa I4 J J e1)<|bS<|kq (fun _ x_=>cC (H.ext x_) 0 J dt J J aw J e1)<|bS<|kq (fun _ _=>mv J i0 e1)<|bS<|kq (fun _ _=>nc J J e1)<|bS<|kq (fun _ _=>fa rI J J e1)<|bS<|kq (fun _ x_=>cC (H.ext x_) 0 J bp J J aw J e1)<|zq<|yu J (fun _ v w'=>∃(a0:OA) (c0:Nat),v=.agg #[C pn,R a0 (fl pn pr) c0]∧RV H.eI w' (R a0 (fl pn pr) c0) (fl pn pr)) J oA J (fun v_ _ x_ _=>have df:=xr (mn:=pn) (mr:=pr) (w:=v_) (H.ext x_).mb rn ((H.ext x_).rv 5 rfl) (by exact uM);ca RM rfl (ec J e0) df (fun _ w1 ⟨a1,c1,e_,cS,dH⟩=>⟨_,J,cS,⟨a1,c1,e_,(bo.rv dH (H.ext x_).mb)⟩⟩))<|lP J (fun _ v w'=>∃(a3:OA) (c3:Nat),v=R a3 (cL I U pn<|fl pn pr) c3∧bo H.eI 122 w_ (cL I U pn<|fl pn pr) (.slice a3 (cL I U pn<|fl pn pr).length c3) w') 0 J J (mN<|by rintro _ _ _ x_ ⟨a3,c3,e_,i'⟩;exact⟨a3,c3,e_,i'.MP x_⟩) J (fun v_ _ _ x_ _ h_=>let ⟨a4,c4,s0,kN⟩:=h_;have H9:=(H.ext x_).put (it:=iL a4 (fl pn pr) c4) rfl kN;have fc:=vh (I:=I) (U:=U) (mn:=pn) (mr:=(fl pn pr)) (aC:=aC) (aF:=aF) (aB:=aB) H9.mb (hT.ext H9.below) (H9.rv 2 J) (H9.rv 3 J) bu (H9.rv 0 J) aq (by exact ey) (by exact fP) (by exact FQ);ca RJ rfl (ec J<|ec s0 e0) fc (fun _ w3 ⟨a5,c5,e_,fg,nj⟩=>⟨_,J,fg,⟨a5,c5,e_,(bo.anyM<|bo.base nj x_)⟩⟩))<|lP J (fun _ v w'=>∃(a6:OA) (c6:Nat),v=R a6 (cL I U pn<|fl pn pr) c6∧bo H.eI 122 w_ (cL I U pn<|fl pn pr) (.slice a6 (cL I U pn<|fl pn pr).length c6) w') 0 J J (mN<|by rintro _ _ _ x_ ⟨a6,c6,e_,qT⟩;exact⟨a6,c6,e_,qT.MP x_⟩) J (fun _ _ _ _ _ h_=>let ⟨a7,c7,s1,nR⟩:=h_;jV rfl s1 ⟨_,J,Ext.refl _,⟨a7,c7,J,nR⟩⟩)<|yz ?_
 intro w4 f0 _ jl _ _ cG jc
 obtain⟨a8,c8,s2,mA⟩:=jc 0 _ _ rfl
 have dq:=H.eU<|bo.anyM mA
 have s3:=(cG 0 J).trans i0
 refine kz<|cQ<|ak J s2<|k ?_
 let J0:=oL w 122 a8 (cL I U pn (fl pn pr)) c8
 let J1:=box da #[.slice aC aF aB,R aA I az,R ay U ax,R eF sp eE,.map (some bD),C pn,R dm pr dh,.map (some bN)] 142
 let J2:=iL aA I az
 let J3:=iL ay U ax
 let J4:=oL w 175 eF sp eE
 let J5:=iL dm pr dh
 let bf:=[J5,bW bN mq]
 let bZ:=J0::J1::J2::J3::J4::cj bD mp::bf
 have cM:HI M w w4 ([J0]++([J1,J2,J3,J4,cj bD mp,J5,bW bN mq]++r)):=HI.aQ (l:=(J0::J1::J2::J3::J4::cj bD mp::bf)) (l':=bZ) (t:=r) dq [0,1,2,3,4,5,6,7] aw J J
 have my:=GG (ee:=a8) (dW:=c8) (xs:=(cL I U pn<|fl pn pr)) (w:=w) (w_:=w4) (r:=([J1,J2,J3,J4,cj bD mp,J5,bW bN mq]++r)) (M:=M) cM
 refine ca ahd J (ec J<|ec J e0) my ?_
 rintro _ w5 ⟨o0,rfl,dR,q0,q1⟩
 let J6:=oL w 122 a8 o0 c8
 refine au (v:=R a8 o0 c8) J J<|av<|sq<|aD<|ak (v:=R a8 o0 c8) J J<|k<|dP J J eD<|ak (v:=C 0) J J<|av<|bk<|lp (fun m f w'=>∃(j_:Nat) (jv:List cP) (oH:KV) (a9:OA) (c9:Nat),m=o0.length-j_∧f 0=pV da 0∧f 2=R a8 o0 c8∧f 20=R a8 o0 c8∧f 21=C (o0.length:Int)∧f 22=C (j_:Int)∧HI M w w' ((J6::box da #[.slice aC aF aB,R aA I az,R ay U ax,R a9 jv c9,.map (some bD),C pn,R dm pr dh,.map (some bN)] 142::J2::J3::oL w 175 a9 jv c9::cj bD oH::bf)++r)∧(j_≤o0.length)∧(jv.length≤sp.length+201*j_)) _ ⟨0,sp,mp,eF,eE,J,s3,J,J,J,(bH J),dR,aq,aq⟩ ?_
 rintro _ f1 w6 ⟨j_,jv,oH,a9,c9,rfl,s4,s5,s6,s7,s8,cR,kb,IY⟩
 refine aD<|k<|lss J J s8 s7<|av<|sq<|cd (b:=decide ((j_:Int)<(o0.length:Int))) J J (fun b0=>?_)<|fun b0=>?_
 ·
  have p0:=dT b0
  refine sk<|nx<|sq<|bk<|aD<|k<|iC (cR.at_ 0 J) J J s6 s8 aq eD cN ?_
  intro g0 x0 iP aN cB
  refine k<|nI cB cN J J ?_
  intro v0 pI
  obtain⟨_,⟨_,_,rfl,⟨rfl,qx⟩,⟨_,_,rfl,⟨rfl,qw⟩,⟨rfl,Br⟩⟩⟩,rfl⟩:=pI
  refine k<|al cR cN ?_
  let J7:=box da #[.slice aC aF aB,R aA I az,R ay U ax,R a9 jv c9,.map (some bD),C pn,R dm pr dh,.map (some bN)] 142
  let J8:=oL w 175 a9 jv c9
  let eh:=J7::J2::J3::J8::cj bD oH::bf
  intro aX w7 je (dX:HI M w w7 ((box aX #[C 0,C 0,C 0] 122::J6::eh)++r))
  refine k<|bA dX 0 J cN J J J J J J J ?_
  let J9:=box aX #[C x0.1,C x0.2.1,C x0.2.2] 122
  intro w8 (dV:HI M w w8 ((J9::J6::eh)++r))
  refine bz<|ak J s4<|aU kV J J<|bq dV 0 J aT J J J<|aU tn J J<|bq dV 0 J aT J J J<|k ?_
  let jz:=[J5,bW bN mq,J9,J6]
  have cJ:HI M w w8 (eh++([J9,J6]++r)):=HI.aQ (l:=(J9::J6::eh)) (l':=(J7::J2::J3::J8::cj bD oH::jz)) (t:=r) dV [2,3,4,5,6,7,8,0,1] aw J J
  have mx:=mM (da:=da) (aC:=aC) (aF:=aF) (aB:=aB) (aA:=aA) (az:=az) (I:=I) (ay:=ay) (ax:=ax) (U:=U) (eF:=a9) (eE:=c9) (sp:=jv) (bD:=bD) (mp:=oH) (pn:=pn) (dm:=dm) (dh:=dh) (pr:=pr) (bN:=bN) (mq:=mq) (f_:=x0.1) (t_:=x0.2.2) (w:=w) (w_:=w8) (r:=([J9,J6]++r)) (M:=M) rn qx Br hT aq aq (by exact ey) aq (by exact uM) cJ
  refine ca Ac J (ec J<|ec J<|ec J e0) mx ?_
  rintro _ w9 ⟨o1,o2,o3,jy,jx,rfl,ef,q2,q3⟩
  let d_:=box da #[.slice aC aF aB,R aA I az,R ay U ax,R jy o2 jx,.map (some bD),C pn,R dm pr dh,.map (some bN)] 142
  let eJ:=cj bD o3
  let fQ:=d_::J2::J3::oL w 175 jy o2 jx::eJ::jz
  have dA:HI M w w9 (fQ++r):=ef
  refine au (v:=C o1) J J<|z<|nx<|mw [.s,.r,.r,.r,.r,.r,.r,.r,.r,.r,.r,.r,.r,.r,.e,.f,.f,.e] (fun _=>True) J aV (fun _ _=>trivial)<|yq J J<|kq (fun _ _=>mv J s4 e1)<|bS<|kq (fun _ _=>mv J s4 e1)<|bS<|kq (fun _ _=>nc J J e1)<|bS<|kq (fun _ _=>fa l5 J J e1)<|bS<|kq (fun _ x_=>lx (dA.ext x_) 0 J nQ J J J e1)<|bS<|kq (fun _ _=>fa kV J J e1)<|bS<|kq (fun _ x_=>lx (dA.ext x_) 7 J aT J J J e1)<|bS<|kq (fun _ _=>fa nf J J e1)<|bS<|kq (fun _ x_=>lx (dA.ext x_) 7 J aT J J J e1)<|bS<|kq (fun _ _=>mv (v:=C o1) J J e1)<|bS<|kq (fun _ _=>fa tn J J e1)<|bS<|kq (fun _ x_=>lx (dA.ext x_) 7 J aT J J J e1)<|bS<|kq (fun _ _=>bd (v:=.agg #[C 4,C x0.1,C x0.2.1,C o1,C x0.2.2]) J (ct J<|ct J<|ct J<|ct J<|ct J eA) (fun _=>aV) e1)<|zq<|yu J (fun _ v w'=>∃(mW:OA) (mU:Nat),v=R mW ([(4,x0.1,x0.2.1,o1,x0.2.2)]:List cP) mU∧RV dA.eI w' (R mW ([(4,x0.1,x0.2.1,o1,x0.2.2)]:List cP) mU) ([(4,x0.1,x0.2.1,o1,x0.2.2)]:List cP)) J oA J (fun v_ N_ x_ n_=>?_) ?_
  ·
   have gl:=dA.ext x_
   refine bs (xs:=([(4,x0.1,x0.2.1,o1,x0.2.2)]:List cP)) (cells:=#[C 4,C x0.1,C x0.2.1,C o1,C x0.2.2]) (e:=175) gl J (ct J eA) (fun _=>aV) ⟨[C 4,C x0.1,C x0.2.1,C o1,C x0.2.2],[],J,⟨_,_,J,⟨J,(show aK (4) from aS)⟩,⟨_,_,J,⟨J,(show aK (x0.1) from bu)⟩,⟨_,_,J,⟨J,(show aK (x0.2.1) from bu)⟩,⟨_,_,J,⟨J,(show aK (o1) from bu)⟩,⟨J,(show aK (x0.2.2) from bu)⟩⟩⟩⟩⟩,J⟩ J aw ?_
   intro g2 ew lk (iR:HI M w ew ((own w.heap.size 175 (.slice (some ⟨g2,0,none⟩) 1 1) ([(4,x0.1,x0.2.1,o1,x0.2.2)]:List cP)::fQ)++r))
   have iQ:=iR.freeze 0 J
   exact⟨_,J,lk,⟨(some ⟨g2,0,none⟩),1,J,(mY J<|iQ.rv 0 J)⟩⟩
  refine ye<|yf J (fun _ _=>nc J J e3)<|yf J (fun _ _=>fa l5 J J e3)<|ye<|yz ?_
  intro fq f2 _ lj _ _ fO AN
  have mz:=dA.ext lj
  have s9:=(fO 0 J).trans s4
  have ei:=(fO 2 J).trans s5
  have eR:=(fO 20 J).trans s6
  have fM:=(fO 21 J).trans s7
  have fL:=(fO 22 J).trans s8
  have gv:=fO 36 J
  obtain⟨a12,pD,gH,QQ⟩:=AN 0 _ _ rfl
  let fZ:=iL a12 ([(4,x0.1,x0.2.1,o1,x0.2.2)]:List cP) pD
  have iA:=mz.put (it:=fZ) J QQ
  have jZ:=fO 48 J
  refine km<|l7 iA 4 J J J J gv gH (iA.rv 0 J).src LF Bg J (by simp only[jb,gC];omega) J ?_
  intro j3 j2 iF (kC:HI M w iF ((fZ::d_::J2::J3::oL w 175 j3 (o2++([(4,x0.1,x0.2.1,o1,x0.2.2)]:List cP)) j2::eJ::jz)++r))
  let fI:=oL w 175 j3 (o2++([(4,x0.1,x0.2.1,o1,x0.2.2)]:List cP)) j2
  refine km<|bA kC 1 J nQ J J jZ J J J J ?_
  let iz:=box da #[.slice aC aF aB,R aA I az,R ay U ax,R j3 (o2++([(4,x0.1,x0.2.1,o1,x0.2.2)]:List cP)) j2,.map (some bD),C pn,R dm pr dh,.map (some bN)] 142
  let lJ:=fZ::iz::J2::J3::fI::eJ::jz
  intro jF (oO:HI M w jF (lJ++r))
  refine kz<|aH<|nx<|rg<|k<|add J J fL J aS<|ak (v:=C ((j_:Int)+1)) J J<|z ?_
  have j9:=oO.put (it:=J2) J<|oO.rv 2 J
  have lL:=j9.put (it:=J3) J<|j9.rv 4 J
  have kJ:=lL.put (it:=J5) J<|lL.rv 8 J
  have wm:HI M w jF ((J5::J3::J2::lJ)++r):=kJ
  have nF:HI M w jF ((J6::iz::J2::J3::fI::eJ::bf)++r):=HI.aQ (l:=(J5::J3::J2::lJ)) (l':=(J6::iz::J2::J3::fI::eJ::bf)) (t:=r) wm [12,4,2,1,7,8,0,10] aw J J
  refine bB _ ?_ ⟨(j_+1),(o2++([(4,x0.1,x0.2.1,o1,x0.2.2)]:List cP)),o3,j3,j2,J,s9,ei,eR,fM,(bH J),nF,aq,(by simp only[gj,jb,gC];omega)⟩
  omega
 have p0:=dF b0
 refine ex<|aW<|ba<|bh<|nx<|sq<|aD<|ak J s4<|k<|nc J J<|aU l5 J J<|bq cR 1 J nQ J J J<|k<|dP J J LF<|ak (v:=C 0) J J<|av<|bk ?_
 let nP:=box da #[.slice aC aF aB,R aA I az,R ay U ax,R a9 jv c9,.map (some bD),C pn,R dm pr dh,.map (some bN)] 142
 let lK:=oL w 175 a9 jv c9
 refine lp (fun m f w'=>∃(j_:Nat) (jj:KV),m=jv.length-j_∧f 0=pV da 0∧f 2=R a8 o0 c8∧f 53=R a9 jv c9∧f 54=C (jv.length:Int)∧f 55=C (j_:Int)∧HI M w w' ((J6::nP::J2::J3::lK::cj bD jj::bf)++r)∧(j_≤jv.length)) _ ⟨0,oH,J,s4,s5,J,J,(bH J),cR,aq⟩ ?_
 rintro _ f2 w7 ⟨j_,jj,rfl,s9,ei,eR,fM,fL,dX,kb⟩
 refine aD<|k<|lss J J fL fM<|av<|sq<|cd (b:=decide ((j_:Int)<(jv.length:Int))) J J (fun b1=>?_)<|fun b1=>?_
 ·
  have p1:=dT b1
  refine sk<|nx<|sq<|bk<|aD<|ak J fL<|k<|iC (dX.at_ 4 J) J J eR fL aq LF Bg ?_
  intro g0 x0 iP aN cB
  refine k<|nI cB Bg J J ?_
  intro v0 pI
  obtain⟨_,⟨_,_,rfl,⟨rfl,qx⟩,⟨_,_,rfl,⟨rfl,qw⟩,⟨_,_,rfl,⟨rfl,Br⟩,⟨_,_,rfl,⟨rfl,FO⟩,⟨rfl,QQ⟩⟩⟩⟩⟩,rfl⟩:=pI
  refine k<|al dX Bg ?_
  let uE:=J6::nP::J2::J3::lK::cj bD jj::bf
  intro aX w8 je (dV:HI M w w8 ((box aX #[C 0,C 0,C 0,C 0,C 0] 175::uE)++r))
  refine au (v:=C (j_:Int)) J J<|k<|bA dV 0 J Bg J J J J J J J ?_
  let rU:=box aX #[C x0.1,C x0.2.1,C x0.2.2.1,C x0.2.2.2.1,C x0.2.2.2.2] 175
  intro w9 (cJ:HI M w w9 ((rU::uE)++r))
  refine bz<|aU abl J J<|bq cJ 0 J aT J J J<|k<|eql J J J J<|z<|nx<|cd (b:=decide (x0.1=4)) J J (fun b2=>?_)<|fun b2=>?_
  ·
   have p2:=dT b2
   refine mw [.r,.r,.r,.r,.r,.r,.r,.r,.r,.r,.e] (fun _=>True) J aV (fun _ _=>trivial)<|yq J J<|kq (fun _ _=>mv J s9 e1)<|bS<|kq (fun _ _=>nc J J e1)<|bS<|kq (fun _ _=>fa EG J J e1)<|bS<|kq (fun _ x_=>lx (cJ.ext x_) 2 J K7 J J J e1)<|bS<|kq (fun _ _=>fa P4 J J e1)<|bS<|kq (fun _ x_=>lx (cJ.ext x_) 0 J aT J J J e1)<|bS<|kq (fun _ _=>fa P3 J J e1)<|bS<|kq (fun _ x_=>lx (cJ.ext x_) 0 J aT J J J e1)<|bS<|kq (fun _ _=>bd (v:=.agg #[C x0.2.1,C x0.2.2.1]) J (ct J<|ct J eA) (fun _=>aV) e1)<|bS<|kq (fun _ _=>mv (v:=C (j_:Int)) J J e1)<|zq<|ye<|yz ?_
   intro dL f3 _ jE _ _ fO AN
   have ef:=cJ.ext jE
   have gv:=(fO 0 J).trans s9
   have gH:=(fO 2 J).trans ei
   have jZ:=(fO 53 J).trans eR
   have kl:=(fO 54 J).trans fM
   have ln:=(fO 55 J).trans fL
   have ll:=fO 66 J
   have lU:=fO 71 J
   have nh:=fO 72 J
   refine km<|YF (k:=(x0.2.1,x0.2.2.1)) La ef 6 J J J J ll lU nh aS ?_
   let jI:=cj bD (jB jj (x0.2.1,x0.2.2.1) (j_:Int))
   let Ec:=J6::nP::J2::J3::lK::jI::bf
   intro ew (dA:HI M w ew ((rU::Ec)++r))
   refine kz<|aH<|nx<|rg<|k<|add J J ln J aS<|ak (v:=C ((j_:Int)+1)) J J<|z ?_
   have fe:HI M w ew (Ec++r):=HI.aQ (l:=(rU::Ec)) (l':=Ec) (t:=r) dA [1,2,3,4,5,6,7,8] aw J J
   refine bB _ ?_ ⟨(j_+1),(jB jj (x0.2.1,x0.2.2.1) (j_:Int)),J,gv,gH,jZ,kl,(bH J),fe,aq⟩
   omega
  have p2:=dF b2
  refine sk<|aH<|nx<|rg<|k<|add J J fL J aS<|ak (v:=C ((j_:Int)+1)) J J<|z ?_
  have ef:HI M w w9 (uE++r):=HI.aQ (l:=(rU::uE)) (l':=uE) (t:=r) cJ [1,2,3,4,5,6,7,8] aw J J
  refine bB _ ?_ ⟨(j_+1),jj,J,s9,ei,eR,fM,(bH J),ef,aq⟩
  omega
 refine ex<|aW<|ba<|bh<|nx<|rg<|ak J s9<|ak J ei<|k ?_
 have dV:=dX.freeze 0 J
 let ot:=cj bD jj
 let It:=iL a8 o0 c8::nP::J2::J3::lK::ot::bf
 have cJ:HI M w w7 (It++r):=dV
 let Fs:=[bW bN mq,iL a8 o0 c8]
 have ef:HI M w w7 ((nP::J2::J3::lK::ot::J5::Fs)++([]++r)):=HI.aQ (l:=It) (l':=(nP::J2::J3::lK::ot::J5::Fs)) (t:=r) cJ [1,2,3,4,5,6,7,0] aw J J
 have mx:=y_ (da:=da) (aC:=aC) (aF:=aF) (aB:=aB) (aA:=aA) (az:=az) (I:=I) (ay:=ay) (ax:=ax) (U:=U) (eF:=a9) (eE:=c9) (sp:=jv) (bD:=bD) (mp:=jj) (pn:=pn) (dm:=dm) (dh:=dh) (pr:=pr) (bN:=bN) (mq:=mq) (Al:=a8) (Af:=c8) (es:=o0) (w:=w) (w_:=w7) (r:=([]++r)) (M:=M) rn (by exact uM) (by intro x_ h_;rw[J_];exact uZ x_ (q1 x_ h_)) ef
 refine ca Li J (ec J<|ec J e0) mx ?_
 rintro _ w8 ⟨o1,jy,jx,rfl,dA,q2⟩
 let pw:=box da #[.slice aC aF aB,R aA I az,R ay U ax,R a9 jv c9,.map (some bD),C pn,R jy o1 jx,.map (some bN)] 142
 let N9:=pw::J2::J3::lK::ot::iL jy o1 jx::Fs
 have fe:HI M w w8 (N9++r):=dA
 refine z<|EX J ?_
 have fw:=HI.aQ (l:=N9) (l':=[pw,J2,J3,lK,ot,iL jy o1 jx,bW bN mq]) (t:=r) fe [0,1,2,3,4,5,6] aw J J
 refine⟨jv,jj,o1,a9,c9,jy,jx,?_,?_,aq,bu⟩
 · first|rfl|simp only[apk]
 · first|exact fw|simpa +zetaDelta only[apk] using fw
theorem DX:gV aM 80 2 5:=j1 Tryz.underlying80
theorem LH:ez aM 78 1 false 24 (.slice none 0 0):=⟨aV,aV⟩
theorem IE:aM.underlying 78=some (.slice 26):=aV
theorem sl:gV aM 80 0 0:=j1 Tryz.underlying80
theorem yG:gV aM 80 1 3:=j1 Tryz.underlying80
theorem Qq (kD:aK cn) (hT:fY 0 w) (ho:ij I) (dG:I.length≤64) (ey:U.length=I.length) (fP:∀x∈U,x<((I.length:Nat):Int)) (oK:cn=((I.length:Nat):Int)) (qa:cr=cA I U) (hsw:iZ=none∧sw=[]∨sw=eZ I U) (H:HI M w w_ ([box eL #[.slice aC aF aB,R aA I az,R ay U ax,C cn,R dE cr dD,R iZ sw jQ] 80,iL aA I az,iL ay U ax,iL dE cr dD,oL w 26 iZ sw jQ]++r)):Calls aM 67 #[pV eL 0] w_ (ck fun v w'=>∃(xz:OA) (xy:Nat),v=.slice xz (eZ I U).length xy∧HI M w w' ([box eL #[.slice aC aF aB,R aA I az,R ay U ax,C cn,R dE cr dD,.slice xz (eZ I U).length xy] 80,iL aA I az,iL ay U ax,iL dE cr dD,oL w 26 xz (eZ I U) xy]++r)):=by
 refine enter 52 Tryz.func67 J J J fun f0 ha=>?_
 have iE:=bg<|H.rv 1 J
 have kh:=bg<|H.rv 2 J
 have BJ:=bg<|H.rv 3 J
 have YN:=kr<|H.at_ 4 J
 have i0:f0 0=pV eL 0:=ha 0 bm
 have ajJ:iZ.isNone=true→sw=[]:=Pn<|H.at_ 4 J
 refine aD<|au (v:=.slice none 0 0) J J<|av<|sq<|aD<|ak J i0<|k<|nc J J<|aU DX J J<|bq H 0 J LH J J J<|k<|UR J J J J IE<|z<|nx<|cd (b:=iZ.isNone) J J (fun b0=>?_)<|fun b0=>?_
 ·
  refine aD<|ak J i0<|k<|nc J J<|aU sl J J<|aU eX J J<|bq H 0 J ir J J J<|k<|dP J J iK<|ak (v:=C 0) J J<|av<|bk ?_
  let J0:=iL aA I az
  let J1:=iL ay U ax
  let J2:=iL dE cr dD
  refine lp (fun m f w'=>∃(j_:Nat) (jm:List (Int×(List<|List bw))) (a0:OA) (c0:Nat),m=I.length-j_∧f 0=pV eL 0∧f 18=C (I.length:Int)∧f 19=C (j_:Int)∧HI M w w' ([box eL #[.slice aC aF aB,R aA I az,R ay U ax,C cn,R dE cr dD,R a0 jm c0] 80,J0,J1,J2,oL w 26 a0 jm c0]++r)∧(j_≤I.length)∧(jm=(eZ I U).take j_)) _ ⟨0,sw,iZ,jQ,J,i0,J,(bH J),H,aq,(by rw[ajJ bu];rfl)⟩ ?_
  rintro _ f0 w0 ⟨j_,jm,a0,c0,rfl,s0,s1,s2,H0,kb,hs⟩
  refine aD<|k<|lss J J s2 s1<|av<|sq<|cd (b:=decide ((j_:Int)<(I.length:Int))) J J (fun b1=>?_)<|fun b1=>?_
  ·
   have p1:=dT b1
   refine sk<|nx<|sq<|bk<|aD<|ak J s2<|au (v:=C (j_:Int)) J J<|av<|sq<|mw [.r,.r,.r,.r,.r,.r,.r,.r,.r,.r,.r,.r,.s,.s,.s,.n,.e,.s,.s,.s] (fun _=>True) J aV (fun _ _=>trivial)<|yq J J<|kq (fun _ _=>mv J s0 e1)<|bS<|kq (fun _ _=>nc J J e1)<|bS<|kq (fun _ _=>fa sl J J e1)<|bS<|kq (fun _ x_=>cC (H0.ext x_) 0 J dt J J aw J e1)<|bS<|kq (fun _ _=>mv J s0 e1)<|bS<|kq (fun _ _=>nc J J e1)<|bS<|kq (fun _ _=>fa yG J J e1)<|bS<|kq (fun _ x_=>cC (H0.ext x_) 0 J bp J J aw J e1)<|bS<|kq (fun _ _=>mv (v:=C (j_:Int)) J J e1)<|zq<|yu J (fun N v w'=>∃(o0:List eu) (o1:Int) (a1:OA) (c1:Nat) (a2:OA) (c2:Nat),v=.tuple #[.agg #[C ((I.length:Nat):Int),R a1 (cY I U (j_:Int)) c1],R a2 o0 c2,C o1,C 0]∧o0.length≤2000000000∧aK o1∧oP I.length o0∧RV (MN H0.eI N) w' (R a1 (cY I U (j_:Int)) c1) (cY I U (j_:Int))∧RV (MN H0.eI N) w' (R a2 o0 c2) o0) J ⟨by rintro _ _ _ _ x_ ⟨o0,o1,a1,c1,a2,c2,e_,q0,q1,q2,dH,ft⟩;exact⟨o0,o1,a1,c1,a2,c2,e_,q0,q1,q2,dH.lift (Up.ext x_),ft.lift (Up.ext x_)⟩,by rintro _ _ _ _ _ k_ ⟨o0,o1,a1,c1,a2,c2,e_,q0,q1,q2,dH,ft⟩;exact⟨o0,o1,a1,c1,a2,c2,e_,q0,q1,q2,ig dH k_,ig ft k_⟩⟩ J (fun v_ _ x_ n_=>have df:=IL (I:=I) (U:=U) (mn:=cn) (mr:=cr) (o:=(j_:Int)) (aC:=aC) (aF:=aF) (aB:=aB) (w:=v_) (kR H0.mb x_ n_) (hT.ext (H0.below.trans x_)) (kv (H0.rv 1 J) x_ n_) (kv (H0.rv 2 J) x_ n_) kD (kv (H0.rv 3 J) x_ n_) aS (by exact ho) (by exact dG) (by exact ey) (by exact fP) (by exact oK) (by exact qa) aq;ca RU rfl (ec J<|ec J<|ec J e0) df (fun _ w2 ⟨o2,o3,a3,c3,a4,c4,e_,cS,iO,jK,q3,q4,q5⟩=>⟨_,J,cS,⟨o2,o3,a3,c3,a4,c4,e_,q3,q4,q5,iO,jK⟩⟩))<|lP J (fun N v w'=>∃(o4:List eu) (o5:Int) (a5:OA) (c5:Nat) (a6:OA) (c6:Nat),v=.tuple #[.agg #[C ((I.length:Nat):Int),R a5 (cY I U (j_:Int)) c5],R a6 o4 c6,C o5,C 0]∧o4.length≤2000000000∧aK o5∧oP I.length o4∧RV (MN H0.eI N) w' (R a5 (cY I U (j_:Int)) c5) (cY I U (j_:Int))∧RV (MN H0.eI N) w' (R a6 o4 c6) o4) 0 J J ⟨by rintro _ _ _ _ x_ ⟨o4,o5,a5,c5,a6,c6,e_,q6,q7,q8,i',kN⟩;exact⟨o4,o5,a5,c5,a6,c6,e_,q6,q7,q8,i'.lift (Up.ext x_),kN.lift (Up.ext x_)⟩,by rintro _ _ _ _ _ k_ ⟨o4,o5,a5,c5,a6,c6,e_,q6,q7,q8,i',kN⟩;exact⟨o4,o5,a5,c5,a6,c6,e_,q6,q7,q8,ig i' k_,ig kN k_⟩⟩ J (fun _ _ _ _ _ h_=>let ⟨o6,o7,a7,c7,a8,c8,s3,q9,vw,yc,nj,n9⟩:=h_;mv rfl s3 ⟨_,J,Ext.refl _,⟨o6,o7,a7,c7,a8,c8,J,q9,vw,yc,nj,n9⟩⟩)<|lP J (fun N v w'=>∃(a9:OA) (c9:Nat),v=.agg #[C ((I.length:Nat):Int),R a9 (cY I U (j_:Int)) c9]∧RV (MN H0.eI N) w' (R a9 (cY I U (j_:Int)) c9) (cY I U (j_:Int))) 0 J J kZ J (fun _ _ _ _ _ h_=>let ⟨kQ,fS,mW,mU,a12,pD,s4,C7,C6,yY,mA,pI⟩:=h_;xt rfl s4 rfl ⟨_,J,Ext.refl _,⟨mW,mU,J,mA⟩⟩)<|lP J (fun N v w'=>∃(ka:List eu) (lz:OA) (ly:Nat),v=R lz ka ly∧ka.length≤2000000000∧oP I.length ka∧RV (MN H0.eI N) w' (R lz ka ly) ka) 1 J J ⟨by rintro _ _ _ _ x_ ⟨ka,lz,ly,e_,yb,ya,qw⟩;exact⟨ka,lz,ly,e_,yb,ya,qw.lift (Up.ext x_)⟩,by rintro _ _ _ _ _ k_ ⟨ka,lz,ly,e_,yb,ya,qw⟩;exact⟨ka,lz,ly,e_,yb,ya,ig qw k_⟩⟩ J (fun _ _ _ _ _ h_=>let ⟨Hb,JO,KF,Kz,KE,Ky,s5,EY,q22,Mg,Br,FO⟩:=h_;xt rfl s5 rfl ⟨_,J,Ext.refl _,⟨Hb,KE,Ky,J,EY,Mg,FO⟩⟩)<|lP J (fun _ v _=>∃(Dh:Int),v=C Dh∧aK Dh) 2 J J mE J (fun _ _ _ _ _ h_=>let ⟨TG,JN,a19,c19,a20,c20,s6,q27,Ti,q29,acJ,acI⟩:=h_;xt rfl s6 rfl ⟨_,J,Ext.refl _,⟨JN,J,Ti⟩⟩)<|Sn J (X:=C 0) 3 J J (fun _ _ _ _ _ h_=>let ⟨TE,Px,a23,c23,a24,zF,s7,q33,q34,q35,acH,acG⟩:=h_;xt rfl s7 rfl e1)<|yn (z:=#[C 0,.slice none 0 0]) J J (fun _=>Qt bp)<|ye<|lP J (fun N v w'=>∃(mP:List eu) (a25:OA) (Fo:Nat),v=R a25 mP Fo∧mP.length≤2000000000∧oP I.length mP∧RV (MN H0.eI N) w' (R a25 mP Fo) mP) 2 J J ⟨by rintro _ _ _ _ x_ ⟨mP,a25,Fo,e_,C5,C4,xY⟩;exact⟨mP,a25,Fo,e_,C5,C4,xY.lift (Up.ext x_)⟩,by rintro _ _ _ _ _ k_ ⟨mP,a25,Fo,e_,C5,C4,xY⟩;exact⟨mP,a25,Fo,e_,C5,C4,ig xY k_⟩⟩ J (fun _ _ _ _ _ h_=>let ⟨Mu,a26,Ij,s8,Th,Tg,Md⟩:=h_;jV rfl s8 ⟨_,J,Ext.refl _,⟨Mu,a26,Ij,J,Th,Tg,Md⟩⟩)<|lP J (fun _ v _=>∃(sZ:Int),v=C sZ∧aK sZ) 2 J J mE J (fun _ _ _ _ _ h_=>let ⟨um,s9,Tf⟩:=h_;jV rfl s9 ⟨_,J,Ext.refl _,⟨um,J,Tf⟩⟩)<|yq J J<|kq (fun _ _=>jV (v:=C 0) J J e1)<|zq<|yz ?_
   intro w3 f1 _ fm _ _ cG jc
   obtain⟨bj,ei,DN,tm,Co⟩:=jc 2 _ _ rfl
   have qb:=Qj (z:=#[C 0,.slice none 0 0]) (T:=26) DN tm Co<|Qk
   let J3:=box eL #[.slice aC aF aB,R aA I az,R ay U ax,C cn,R dE cr dD,R a0 jm c0] 80
   let J4:=oL w 26 a0 jm c0
   have H8:HI M w w3 ([box bj #[C 0,.slice none 0 0] 26,J3,J0,J1,J2,J4]++r):=H0.Ez fm qb<|PB PA PC
   have eR:=(cG 0 J).trans s0
   have fM:=(cG 18 J).trans s1
   have fL:=(cG 19 J).trans s2
   obtain⟨A9,A6,gv,Mc⟩:=jc 5 _ _ rfl
   let J5:=iL A9 (cY I U (j_:Int)) A6
   have H9:=H8.put (it:=J5) J<|sJ Mc qb
   refine km<|bA H9 1 J bp J J ei gv J J J ?_
   let J6:=box bj #[C ((I.length:Nat):Int),R A9 (cY I U (j_:Int)) A6] 26
   intro w4 (cT:HI M w w4 ([J5,J6,J3,J0,J1,J2,J4]++r))
   refine kz<|nx<|mw [.s,.r,.r,.r,.r,.r,.r,.e,.f,.f,.e] (fun _=>True) J aV (fun _ _=>trivial)<|yq J J<|kq (fun _ _=>mv J eR e1)<|bS<|kq (fun _ _=>mv J eR e1)<|bS<|kq (fun _ _=>nc J J e1)<|bS<|kq (fun _ _=>fa DX J J e1)<|bS<|kq (fun _ x_=>lx (cT.ext x_) 2 J LH J J J e1)<|bS<|kq (fun _ x_=>cC (cT.ext x_) 1 J bp J ei aw J e1)<|zq<|yu J (fun _ v w'=>∃(a28:OA) (rT:Nat),v=R a28 ([(((I.length:Nat):Int),cY I U (j_:Int))]:List (Int×(List<|List bw))) rT∧RV cT.eI w' (R a28 ([(((I.length:Nat):Int),cY I U (j_:Int))]:List (Int×(List<|List bw))) rT) ([(((I.length:Nat):Int),cY I U (j_:Int))]:List (Int×(List<|List bw)))) J oA J (fun v_ N_ x_ n_=>?_) ?_
   ·
    have cM:=cT.ext x_
    refine bs (xs:=([(((I.length:Nat):Int),cY I U (j_:Int))]:List (Int×(List<|List bw)))) (cells:=#[C ((I.length:Nat):Int),R A9 (cY I U (j_:Int)) A6]) (e:=26) cM J (ct J eA) (fun _=>aV) ⟨[C ((I.length:Nat):Int),R A9 (cY I U (j_:Int)) A6],[],J,⟨_,_,J,⟨J,(show aK (((I.length:Nat):Int)) from aS)⟩,⟨_,J,RV.list.1 (cM.rv 0 J)⟩⟩,J⟩ J aw ?_
    intro g1 w6 jl (dR:HI M w w6 ([own w.heap.size 26 (.slice (some ⟨g1,0,none⟩) 1 1) ([(((I.length:Nat):Int),cY I U (j_:Int))]:List (Int×(List (List bw)))),J5,J6,J3,J0,J1,J2,J4]++r))
    have dI:=dR.freeze 0 J
    exact⟨_,J,jl,⟨(some ⟨g1,0,none⟩),1,J,(mY J<|dI.rv 0 J)⟩⟩
   refine ye<|yf J (fun _ _=>nc J J e3)<|yf J (fun _ _=>fa DX J J e3)<|ye<|yz ?_
   intro w7 f2 _ je _ _ fO AN
   have cR:=cT.ext je
   have gH:=(fO 0 J).trans eR
   have jZ:=(fO 18 J).trans fM
   have kl:=(fO 19 J).trans fL
   have ln:=fO 41 J
   obtain⟨pv,pq,ll,Mb⟩:=AN 0 _ _ rfl
   let J7:=iL pv ([(((I.length:Nat):Int),cY I U (j_:Int))]:List (Int×(List (List bw)))) pq
   have dX:=cR.put (it:=J7) J Mb
   have lU:=fO 46 J
   refine km<|l7 dX 7 J J J J ln ll (dX.rv 0 J).src IE bp J (by rw[hs];simp only[iH,jb,gC];omega) J ?_
   intro kf kc w8 (cJ:HI M w w8 ([J7,J5,J6,J3,J0,J1,J2,oL w 26 kf (jm++([(((I.length:Nat):Int),cY I U (j_:Int))]:List (Int×(List (List bw))))) kc]++r))
   let J8:=oL w 26 kf (jm++([(((I.length:Nat):Int),cY I U (j_:Int))]:List (Int×(List (List bw))))) kc
   refine km<|bA cJ 3 J LH J J lU J J J J ?_
   let J9:=box eL #[.slice aC aF aB,R aA I az,R ay U ax,C cn,R dE cr dD,R kf (jm++([(((I.length:Nat):Int),cY I U (j_:Int))]:List (Int×(List (List bw))))) kc] 80
   let bf:=[J9,J0,J1,J2,J8]
   intro w9 (ef:HI M w w9 ((J7::J5::J6::bf)++r))
   refine kz<|aH<|nx<|rg<|k<|add J J kl J aS<|ak (v:=C ((j_:Int)+1)) J J<|z ?_
   have dA:=ef.put (it:=J0) J<|ef.rv 4 J
   have fw:=dA.put (it:=J1) J<|dA.rv 6 J
   have iR:=fw.put (it:=J2) J<|fw.rv 8 J
   have iQ:HI M w w9 ((J2::J1::J0::J7::J5::J6::bf)++r):=iR
   have mz:HI M w w9 (bf++r):=HI.aQ (l:=(J2::J1::J0::J7::J5::J6::bf)) (l':=bf) (t:=r) iQ [6,2,1,0,10] aw J J
   refine bB _ ?_ ⟨(j_+1),(jm++([(((I.length:Nat):Int),cY I U (j_:Int))]:List (Int×(List<|List bw)))),kf,kc,J,gH,jZ,(bH J),mz,aq,(by rw[hs];exact S1 aq)⟩
   omega
  have p1:=dF b1
  refine ex<|aW<|ba<|bh<|cQ<|ak J s0<|k<|nc J J<|aU DX J J<|bq H0 0 J LH J J J<|au (v:=R a0 jm c0) J J<|av<|rt<|r1 J J ?_
  have e0:(jm:List _)=(eZ I U):=by rw[hs];exact apu (by rw[Bo];omega)
  try rw[←e0]
  refine⟨a0,c0,?_,?_⟩
  · first|rfl|simp only[e0]|(simp only[apk])
  · first|exact H0|simpa +zetaDelta only[e0,apk] using H0
 refine sk<|cQ<|ak J i0<|k<|nc J J<|aU DX J J<|bq H 0 J LH J J J<|au (v:=R iZ sw jQ) J J<|av<|rt<|r1 J J ?_
 have e0:(sw:List _)=(eZ I U):=by rcases hsw with ⟨h_,_⟩|h_;exact absurd (by rw[h_];rfl) (Bool.eq_false_iff.1 ‹iZ.isNone=false›);exact h_
 try rw[←e0]
 refine⟨iZ,jQ,?_,?_⟩
 · first|rfl|simp only[e0]|(simp only[apk])
 · first|exact H|simpa +zetaDelta only[e0,apk] using H
theorem bV:ez aM 33 8 true 80 (.agg #[.int .i64 0,.int .i64 0,.int .i64 0,.int .i64 0,.int .i64 0,.slice none 0 0,.int .i64 0,.int .i64 0]):=⟨aV,aV⟩
theorem Gw:cD aM 60:=cE Tryz.func60
theorem so:gV aM 33 1 1:=j1 Tryz.underlying33
theorem RL:cD aM 62:=cE Tryz.func62
theorem pg:gV aM 33 4 4:=j1 Tryz.underlying33
theorem KC (hM:eC M w) (pO:aK lv):Calls aM 31 #[C lv] w (ck fun v w'=>∃(a0:OA) (c0:Nat),v=.slice a0 (eb lv).length c0∧Ext w w'∧bo M 3 w (eb lv) (.slice a0 (eb lv).length c0) w'):=by
 refine dv 19 Tryz.func31 J J J hM fun f0 ha H=>?_
 have i0:f0 0=C lv:=ha 0 bm
 refine aD<|au (v:=.slice none 0 0) J J<|bz<|k<|bs (xs:=([1,2,3,4]:aE)) (cells:=#[C 1,C 2,C 3,C 4]) (e:=3) H J (ct J<|ct J<|ct J<|ct J eA) (fun _=>aV) ⟨[C 1],[C 2,C 3,C 4],J,⟨J,(show aK (1) from aS)⟩,⟨[C 2],[C 3,C 4],J,⟨J,(show aK (2) from aS)⟩,⟨[C 3],[C 4],J,⟨J,(show aK (3) from aS)⟩,⟨[C 4],[],J,⟨J,(show aK (4) from aS)⟩,J⟩⟩⟩⟩ J aw ?_
 intro g0 w0 bY H0
 refine au (v:=.slice (some ⟨g0,0,none⟩) 4 4) J J<|av<|sq<|aD<|ak J i0<|av<|bk<|aD<|k<|eql J J J J<|au (v:=.bool (decide (lv=1))) J J<|z<|nx<|cd (b:=decide (lv=1)) J J (fun b0=>?_)<|fun b0=>?_
 ·
  refine aD<|ak (v:=.slice (some ⟨g0,0,none⟩) 4 4) J J<|au (v:=.slice (some ⟨g0,0,none⟩) 4 4) J J<|av<|rt<|bI<|aL<|r1 J J ?_
  have e0:(([1,2,3,4]:aE):aE)=eb lv:=by simp only[eb,b0,BL]
  have l0:4=(eb lv).length:=by rw[←e0];simp
  have bt:=iD (fun (vE:Nat)=>(.slice (some ⟨g0,0,none⟩) vE 4:Value)) l0
  exact⟨(some ⟨g0,0,none⟩),4,bt,H0.below,(apj (fun (n_:Nat)=>bo _ _ _ (eb lv) (.slice (some ⟨g0,0,none⟩) n_ 4) _) l0).mp ((apj (fun (x_:aE)=>bo _ _ _ x_ (.slice (some ⟨g0,0,none⟩) 4 4) _) e0).mp (H0.dx 0 J))⟩
 refine aD<|k<|eql J J J J<|au (v:=.bool (decide (lv=2))) J J<|z<|nx<|cd (b:=decide (lv=2)) J J (fun b1=>?_)<|fun b1=>?_
 ·
  refine aD<|ak (v:=.slice (some ⟨g0,0,none⟩) 4 4) J J<|k<|bs (xs:=([5]:aE)) (cells:=#[C 5]) (e:=3) H0 J (ct J eA) (fun _=>aV) ⟨[C 5],[],J,⟨J,(show aK (5) from aS)⟩,J⟩ J aw ?_
  intro g1 w1 cS H1
  refine k<|l7 H1 1 J J J J J J (hG<|H1.at_ 0 J) cw aT J bm J ?_
  intro a0 c0 w2 (H2:HI M w w2 [own w.heap.size 3 (.slice (some ⟨g1,0,none⟩) 1 1) ([5]:aE),oL w 3 a0 (([1,2,3,4]:aE)++([5]:aE)) c0])
  refine au (v:=R a0 (([1,2,3,4]:aE)++([5]:aE)) c0) J J<|av<|rt<|bI<|aL<|r1 J J ?_
  have e0:((([1,2,3,4]:aE)++([5]:aE)):aE)=eb lv:=by simp only[eb,b0,b1,BL]
  have bt:=iD (fun (cb:aE)=>(.slice a0 cb.length c0:Value)) e0
  exact⟨a0,c0,bt,H2.below,(apj (fun (x_:aE)=>bo _ _ _ x_ (.slice a0 x_.length c0) _) e0).mp (H2.dx 1 J)⟩
 refine aD<|k<|eql J J J J<|au (v:=.bool (decide (lv=3))) J J<|z<|nx<|cd (b:=decide (lv=3)) J J (fun b2=>?_)<|fun b2=>?_
 ·
  refine aD<|ak (v:=.slice (some ⟨g0,0,none⟩) 4 4) J J<|k<|bs (xs:=([6,7]:aE)) (cells:=#[C 6,C 7]) (e:=3) H0 J (ct J<|ct J eA) (fun _=>aV) ⟨[C 6],[C 7],J,⟨J,(show aK (6) from aS)⟩,⟨[C 7],[],J,⟨J,(show aK (7) from aS)⟩,J⟩⟩ J aw ?_
  intro g1 w1 cS H1
  refine k<|l7 H1 1 J J J J J J (hG<|H1.at_ 0 J) cw aT J bm J ?_
  intro a0 c0 w2 (H2:HI M w w2 [own w.heap.size 3 (.slice (some ⟨g1,0,none⟩) 2 2) ([6,7]:aE),oL w 3 a0 (([1,2,3,4]:aE)++([6,7]:aE)) c0])
  refine au (v:=R a0 (([1,2,3,4]:aE)++([6,7]:aE)) c0) J J<|av<|rt<|bI<|aL<|r1 J J ?_
  have e0:((([1,2,3,4]:aE)++([6,7]:aE)):aE)=eb lv:=by simp only[eb,b0,b1,b2,BL]
  have bt:=iD (fun (cb:aE)=>(.slice a0 cb.length c0:Value)) e0
  exact⟨a0,c0,bt,H2.below,(apj (fun (x_:aE)=>bo _ _ _ x_ (.slice a0 x_.length c0) _) e0).mp (H2.dx 1 J)⟩
 refine sk<|aH<|cQ<|au (v:=.slice none 0 0) J J<|av<|rt<|r1 J J ?_
 have e0:([]:aE)=eb lv:=by simp only[eb,b0,b1,b2,BL]
 have bt:=iD (fun (cb:aE)=>(.slice none cb.length 0:Value)) e0
 exact⟨none,0,bt,H0.below,(apj (fun (x_:aE)=>bo _ _ _ x_ (.slice none x_.length 0) _) e0).mp (fV H0.below)⟩
theorem rE (lY:aK kd):Calls aM 60 #[C kd] w (ck fun v w'=>v=.agg #[C kd,C (-1),C (-1),C (-1),C (-1),.slice none 0 0,C (-1),C (-1)]∧Ext w w'):=by
 refine dv 5 Tryz.func60 J J J qF fun f0 ha H=>?_
 have i0:f0 0=C kd:=ha 0 bm
 refine aD<|k<|al H bV ?_
 intro aX w0 bY (H0:HI (fun _=>False) w w0 [box aX #[C 0,C 0,C 0,C 0,C 0,.slice none 0 0,C 0,C 0] 33])
 refine bz<|ak J i0<|k<|bd (v:=.agg #[C kd,C (-1),C (-1),C (-1),C (-1),.slice none 0 0,C (-1),C (-1)]) J (ct J<|ct J<|ct J<|ct J<|ct J<|ct J<|ct J eA) (fun _=>aV)<|k<|bA H0 0 J bV J J J J J J J ?_
 intro w1 (H1:HI (fun _=>False) w w1 [box aX #[C kd,C (-1),C (-1),C (-1),C (-1),.slice none 0 0,C (-1),C (-1)] 33])
 refine av<|rt<|py H1 0 J bV J J J J aw ?_
 exact⟨J,H1.below⟩
theorem X7 (hM:eC M w) (cW:cz M w aA az I) (fC:cz M w ay ax U) (kD:aK cn) (nV:cz M w dE dD cr) (lY:aK kd) (lu:w.heap[eL]? =some (.cells #[.slice aC aF aB,R aA I az,R ay U ax,C cn,R dE cr dD,.slice iZ rY jQ] l9 (0,0))∧¬M eL):Calls aM 33 #[.pointer (some ⟨eL,0,none⟩),C kd] w (ck fun v w'=>∃(k_:Int) (r_:Int) (a_:Int) (b_:Int) (o_:Int) (f_:Int) (s_:Int),v=.tuple #[.agg #[C k_,C r_,C a_,C b_,C o_,.slice none 0 0,C f_,C s_],.bool ((pG U kd).isSome)]∧Ext w w'∧qO (pG U kd) k_ r_ a_ b_ o_):=by
 refine dv 20 Tryz.func33 J J J hM fun f0 ha H=>?_
 let J0:=iL aA I az
 have H0:=H.put (it:=J0) J<|by rw[bQ];exact cW
 let J1:=iL ay U ax
 have H1:=H0.put (it:=J1) J<|by rw[aG rfl,bQ];exact fC
 let J2:=iL dE cr dD
 have H2:=H1.put (it:=J2) J<|by rw[aG rfl,aG rfl,bQ];exact nV
 have iE:=bg cW
 have kh:=bg fC
 have BJ:=bg nV
 let J3:=ro eL #[.slice aC aF aB,R aA I az,R ay U ax,C cn,R dE cr dD,.slice iZ rY jQ] l9
 have H3:=H2.put (it:=J3) J<|by rw[aG rfl,aG rfl,aG rfl,bQ];exact lu
 have i0:f0 0=pV eL 0:=ha 0 bm
 have i1:f0 1=C kd:=ha 1 bm
 refine aD<|k<|al H3 bV ?_
 let bf:=[J3,J2,J1,J0]
 intro aX w0 bY (H4:HI M w w0 (box aX #[C 0,C 0,C 0,C 0,C 0,.slice none 0 0,C 0,C 0] 33::bf))
 let J4:=box aX #[C 0,C 0,C 0,C 0,C 0,.slice none 0 0,C 0,C 0] 33
 refine au (v:=.bool false) J J<|bz<|ak J i1<|k ?_
 have bT:=rE (kd:=kd) (w:=w0) lY
 refine ca Gw J (ec J e0) bT ?_
 rintro _ w1 ⟨rfl,cS⟩
 have H5:=H4.ext cS
 refine k<|al H5 bV ?_
 intro bj w2 fm (H6:HI M w w2 (box bj #[C 0,C 0,C 0,C 0,C 0,.slice none 0 0,C 0,C 0] 33::J4::bf))
 refine k<|bA H6 0 J bV J J J J J J J ?_
 intro w3 (H7:HI M w w3 (box bj #[C kd,C (-1),C (-1),C (-1),C (-1),.slice none 0 0,C (-1),C (-1)] 33::J4::bf))
 refine bz<|ak J i0<|k<|nc J J<|aU sl J J<|aU sm J J<|k<|lr H7 2 J qv J J J<|k ?_
 have df:=JW (se:=U) (ui:=(-2)) H7.mb (H7.rv 4 J) aS
 refine ca aeX J (ec J<|ec J e0) df ?_
 rintro _ w4 ⟨rfl,fg⟩
 have H8:=H7.ext fg
 refine aU so J J<|k<|bA H8 0 J aT J J J J J J J ?_
 intro w5 (H9:HI M w w5 (box bj #[C kd,C (eM (fun (z_:Int)=>decide ((-2)=z_)) U),C (-1),C (-1),C (-1),.slice none 0 0,C (-1),C (-1)] 33::J4::bf))
 refine av<|sq<|mw [.r,.f,.f,.f,.e,.s] (fun w'=>HI M w w' [box bj #[C kd,C (eM (fun (z_:Int)=>decide ((-2)=z_)) U),C (-1),C (-1),C (-1),.slice none 0 0,C (-1),C (-1)] 33]) J aV (fun _ x_=>(H9.bX (l':=[box bj #[C kd,C (eM (fun (z_:Int)=>decide ((-2)=z_)) U),C (-1),C (-1),C (-1),.slice none 0 0,C (-1),C (-1)] 33]) [0] aw J).ext x_)<|yq J J<|kq (fun _ x_=>cC (H9.ext x_) 0 J bV J J aw J e1)<|zq<|yf J (fun _ _=>fa so J J e3)<|yf J (fun _ i_=>lx i_ 0 J aT J J J e3)<|yf J (fun _ _=>geq J J J J e3)<|ye<|yq J J<|kq (fun _ _=>jV (v:=.bool (decide (0≤(eM (fun (z_:Int)=>decide ((-2)=z_)) U)))) J J e1)<|zq<|yz ?_
 intro w6 f0 _ jl _ _ cG jc
 have dB:=H9.ext jl
 have s0:=cG 4 J
 have s1:=cG 5 J
 have s2:=cG 16 J
 refine ke<|bA dB 1 J bV J J s0 s2 J J J ?_
 intro w7 (cT:HI M w w7 (box bj #[C kd,C (eM (fun (z_:Int)=>decide ((-2)=z_)) U),C (-1),C (-1),C (-1),.slice none 0 0,C (-1),C (-1)] 33::box aX #[C kd,C (eM (fun (z_:Int)=>decide ((-2)=z_)) U),C (-1),C (-1),C (-1),.slice none 0 0,C (-1),C (-1)] 33::bf))
 refine⟨cT.bX [0] aw rfl,?_⟩
 refine kz<|nx<|rt<|iB cT 1 J bV J J J s0 J aw ?_
 try simp only[de]
 rw[s1]
 have e1:(eM (fun (z_:Int)=>decide ((-2)=z_)) U:Int)=(eM (fun (z_:Int)=>decide ((-2)=z_)) U):=rfl
 have e8:(decide (0≤(eM (fun (z_:Int)=>decide ((-2)=z_)) U)):Bool)=(pG U kd).isSome:=by exact O5
 have bt:=nN (fun (dK:Int) (lQ:Bool)=>(.tuple #[.agg #[C kd,C dK,C (-1),C (-1),C (-1),.slice none 0 0,C (-1),C (-1)],.bool lQ]:Value)) e1 e8
 exact⟨kd,(eM (fun (z_:Int)=>decide ((-2)=z_)) U),(-1),(-1),(-1),(-1),(-1),bt,cT.below,(by exact acd lY aq)⟩
theorem Vs {ac':Nat} (hM:eC M w) (kD:aK cn) (nV:cz M w dE dD cr) (lY:aK kd) (lu:w.heap[eL]? =some (.cells #[.slice aC aF aB,.slice aA ac' az,.slice ay dY ax,C cn,R dE cr dD,.slice iZ rY jQ] l9 (0,0))∧¬M eL) (lq:bL cn cr=true):Calls aM 34 #[.pointer (some ⟨eL,0,none⟩),C kd] w (ck fun v w'=>∃(k_:Int) (r_:Int) (a_:Int) (b_:Int) (o_:Int) (f_:Int) (s_:Int),v=.tuple #[.agg #[C k_,C r_,C a_,C b_,C o_,.slice none 0 0,C f_,C s_],.bool ((kn cn cr kd).isSome)]∧Ext w w'∧qO (kn cn cr kd) k_ r_ a_ b_ o_):=by
 refine dv 24 Tryz.func34 J J J hM fun f0 ha H=>?_
 let J0:=iL dE cr dD
 have H0:=H.put (it:=J0) J<|by rw[bQ];exact nV
 let J1:=ro eL #[.slice aC aF aB,.slice aA ac' az,.slice ay dY ax,C cn,R dE cr dD,.slice iZ rY jQ] l9
 have H1:=H0.put (it:=J1) J<|by rw[aG rfl,bQ];exact lu
 have i0:f0 0=pV eL 0:=ha 0 bm
 have i1:f0 1=C kd:=ha 1 bm
 refine aD<|k<|al H1 bV ?_
 intro aX w0 bY (H2:HI M w w0 [box aX #[C 0,C 0,C 0,C 0,C 0,.slice none 0 0,C 0,C 0] 33,J1,J0])
 let J2:=box aX #[C 0,C 0,C 0,C 0,C 0,.slice none 0 0,C 0,C 0] 33
 refine au (v:=.bool false) J J<|bz<|ak J i1<|k ?_
 have bT:=rE (kd:=kd) (w:=w0) lY
 refine ca Gw J (ec J e0) bT ?_
 rintro _ w1 ⟨rfl,cS⟩
 have H3:=H2.ext cS
 refine k<|al H3 bV ?_
 intro bj w2 fm (H4:HI M w w2 [box bj #[C 0,C 0,C 0,C 0,C 0,.slice none 0 0,C 0,C 0] 33,J2,J1,J0])
 refine k<|bA H4 0 J bV J J J J J J J ?_
 let J3:=box bj #[C kd,C (-1),C (-1),C (-1),C (-1),.slice none 0 0,C (-1),C (-1)] 33
 intro w3 (H5:HI M w w3 [J3,J2,J1,J0])
 refine bz<|ak J i0<|k<|nc J J<|aU yG J J<|k<|wS H5 2 J bp J J aw J<|k ?_
 have df:=zm (mn:=cn) (mr:=cr) H5.mb kD (H5.rv 3 J)<|by exact lq
 refine ca RL J (ec J e0) df ?_
 rintro _ w4 ⟨rfl,fg⟩
 have H6:=H5.ext fg
 refine ak (v:=.tuple #[C (((cV cn cr).getD 0:Nat):Int),.bool ((cV cn cr).isSome)]) J J<|k<|xt J J J<|k<|xt J J J<|au (v:=C (((cV cn cr).getD 0:Nat):Int)) J J<|au (v:=.bool ((cV cn cr).isSome)) J J<|av<|sq<|aD<|ak (v:=.bool ((cV cn cr).isSome)) J J<|z<|nx<|cd (b:=(cV cn cr).isSome) J J (fun b0=>?_)<|fun b0=>?_
 ·
  refine rg<|ak (v:=C (((cV cn cr).getD 0:Nat):Int)) J J<|aU pg J J<|k<|bA H6 0 J aT J J J J J J J ?_
  let J4:=box bj #[C kd,C (-1),C (-1),C (-1),C (((cV cn cr).getD 0:Nat):Int),.slice none 0 0,C (-1),C (-1)] 33
  intro w5 (H7:HI M w w5 [J4,J2,J1,J0])
  refine bz<|k<|cC H7 0 J bV J J aw J<|ak (v:=.bool ((cV cn cr).isSome)) J J<|k<|bA H7 1 J bV J J J J J J J ?_
  intro w6 (H8:HI M w w6 [J4,box aX #[C kd,C (-1),C (-1),C (-1),C (((cV cn cr).getD 0:Nat):Int),.slice none 0 0,C (-1),C (-1)] 33,J1,J0])
  refine au (v:=.bool ((cV cn cr).isSome)) J J<|av<|rt<|iB H8 1 J bV J J J J J aw ?_
  have e8:((cV cn cr).isSome:Bool)=(kn cn cr kd).isSome:=by exact CZ
  have bt:=iD (fun (lQ:Bool)=>(.tuple #[.agg #[C kd,C (-1),C (-1),C (-1),C (((cV cn cr).getD 0:Nat):Int),.slice none 0 0,C (-1),C (-1)],.bool lQ]:Value)) e8
  exact⟨kd,(-1),(-1),(-1),(((cV cn cr).getD 0:Nat):Int),(-1),(-1),bt,H8.below,(by have h_:=(bU lq).2.2.1;first|exact QU lY aq bu|exact QV lY bu)⟩
 refine sk<|cQ<|k<|cC H6 0 J bV J J aw J<|ak (v:=.bool ((cV cn cr).isSome)) J J<|k<|bA H6 1 J bV J J J J J J J ?_
 intro w5 (H7:HI M w w5 [J3,box aX #[C kd,C (-1),C (-1),C (-1),C (-1),.slice none 0 0,C (-1),C (-1)] 33,J1,J0])
 refine au (v:=.bool ((cV cn cr).isSome)) J J<|av<|rt<|iB H7 1 J bV J J J J J aw ?_
 have e8:((cV cn cr).isSome:Bool)=(kn cn cr kd).isSome:=by exact CZ
 have bt:=iD (fun (lQ:Bool)=>(.tuple #[.agg #[C kd,C (-1),C (-1),C (-1),C (-1),.slice none 0 0,C (-1),C (-1)],.bool lQ]:Value)) e8
 exact⟨kd,(-1),(-1),(-1),(-1),(-1),(-1),bt,H7.below,(by have h_:=(bU lq).2.2.1;first|exact QU lY aq bu|exact QV lY bu)⟩
theorem NT (hM:eC M w) (hT:fY 0 w) (cW:cz M w aA az I) (fC:cz M w ay ax U) (kD:aK cn) (nV:cz M w dE dD cr) (lY:aK kd) (lu:w.heap[eL]? =some (.cells #[.slice aC aF aB,R aA I az,R ay U ax,C cn,R dE cr dD,.slice iZ rY jQ] l9 (0,0))∧¬M eL) (ho:ij I) (dG:I.length≤64) (ey:U.length=I.length) (fP:∀x∈U,x<((I.length:Nat):Int)) (oK:cn=((I.length:Nat):Int)) (qa:cr=cA I U):Calls aM 37 #[.pointer (some ⟨eL,0,none⟩),C kd] w (ck fun v w'=>∃(k_:Int) (r_:Int) (a_:Int) (b_:Int) (o_:Int) (f_:Int) (s_:Int),v=.tuple #[.agg #[C k_,C r_,C a_,C b_,C o_,.slice none 0 0,C f_,C s_],.bool ((kn ((I.length:Nat):Int) (A4 I U) kd).isSome)]∧Ext w w'∧qO (kn ((I.length:Nat):Int) (A4 I U) kd) k_ r_ a_ b_ o_):=by
 refine dv 52 Tryz.func37 J J J hM fun f0 ha H=>?_
 let J0:=iL aA I az
 have H0:=H.put (it:=J0) J<|by rw[bQ];exact cW
 let J1:=iL ay U ax
 have H1:=H0.put (it:=J1) J<|by rw[aG rfl,bQ];exact fC
 let J2:=iL dE cr dD
 have H2:=H1.put (it:=J2) J<|by rw[aG rfl,aG rfl,bQ];exact nV
 have iE:=bg cW
 have kh:=bg fC
 have BJ:=bg nV
 let J3:=ro eL #[.slice aC aF aB,R aA I az,R ay U ax,C cn,R dE cr dD,.slice iZ rY jQ] l9
 have H3:=H2.put (it:=J3) J<|by rw[aG rfl,aG rfl,aG rfl,bQ];exact lu
 have i0:f0 0=pV eL 0:=ha 0 bm
 have i1:f0 1=C kd:=ha 1 bm
 have lq:bL cn cr=true:=by rw[oK,qa];exact pS U aq
 refine aD<|k<|al H3 bV ?_
 let bf:=[J3,J2,J1,J0]
 intro aX w0 bY (H4:HI M w w0 (box aX #[C 0,C 0,C 0,C 0,C 0,.slice none 0 0,C 0,C 0] 33::bf))
 let J4:=box aX #[C 0,C 0,C 0,C 0,C 0,.slice none 0 0,C 0,C 0] 33
 refine au (v:=.bool false) J J<|bz<|ak J i0<|k<|nc J J<|aU yG J J<|k<|wS H4 1 J bp J J aw J<|k<|al H4 bp ?_
 let bZ:=J4::bf
 intro bj w1 cS (H5:HI M w w1 (box bj #[C 0,.slice none 0 0] 26::bZ))
 refine k<|bA H5 0 J bp J J J J J J J ?_
 intro w2 (H6:HI M w w2 (box bj #[C cn,R dE cr dD] 26::bZ))
 refine av<|sq<|sq<|U4 J aV<|xq J<|kq (fun _ _=>mv J i0 e1)<|zq<|xq J<|kq (fun _ _=>nc J J e1)<|zq<|xq J<|kq (fun _ _=>fa sl J J e1)<|zq<|xq J<|kq (fun _ x_=>wS (H6.ext x_) 2 J dt J J aw J e1)<|zq<|xq J<|kq (fun _ _=>mv J i0 e1)<|zq<|xq J<|kq (fun _ _=>nc J J e1)<|zq<|xq J<|kq (fun _ _=>fa yG J J e1)<|zq<|xq J<|kq (fun _ x_=>wS (H6.ext x_) 2 J bp J J aw J e1)<|zq<|xu (fun v w'=>∃(a0:OA) (c0:Nat),v=R a0 (cL I U cn cr) c0∧RV H6.eI w' (R a0 (cL I U cn cr) c0) (cL I U cn cr)) J (by rintro _ _ _ x_ ⟨a0,c0,e_,dN⟩;exact⟨a0,c0,e_,dN.lift (Up.ext x_)⟩) J (fun v_ x_=>have df:=vh (I:=I) (U:=U) (mn:=cn) (mr:=cr) (aC:=aC) (aF:=aF) (aB:=aB) (w:=v_) (H6.ext x_).mb (hT.ext (H6.ext x_).below) ((H6.ext x_).rv 5 rfl) ((H6.ext x_).rv 4 rfl) kD ((H6.ext x_).rv 3 rfl) aq (by exact ey) (by exact fP) (by exact lq);ca RJ rfl (ec J<|ec J e0) df (fun _ w4 ⟨a1,c1,e_,fg,dH⟩=>⟨_,J,fg,⟨a1,c1,e_,(bo.rv dH (H6.ext x_).mb)⟩⟩))<|xk1 (X:=C ((cL I U cn cr).length:Int)) 0 J J (fun _ _ _ h_=>let ⟨a3,c3,s0,jK⟩:=h_;dP rfl s0 eD e1)<|xq J<|kq (fun _ _=>mv (v:=C 0) J J e1)<|zq<|zx ?_
 intro w5 f0 jl cG jc
 have cM:=H6.ext jl
 have s1:=(cG 1 J).trans i1
 have s2:=cG 4 J
 have s3:=cG 6 J
 obtain⟨a4,c4,s4,i'⟩:=jc 0 _ _ rfl
 let J5:=iL a4 (cL I U cn cr) c4
 have dR:=cM.put (it:=J5) J i'
 have s5:=cG 25 J
 have s6:=cG 26 J
 refine nx<|bk ?_
 have dI:=dR.put (it:=J2) J<|dR.rv 4 J
 refine lp (fun m f w'=>∃(q_:Nat) (ga:Int) (fN:List (List bw)) (a5:OA) (c5:Nat),m=(cL I U cn cr).length-q_∧f 1=C kd∧f 4=pV aX 0∧f 6=pV bj 0∧f 24=R a4 (cL I U cn cr) c4∧f 25=C ((cL I U cn cr).length:Int)∧f 26=C (q_:Int)∧HI M w w' (iL a5 fN c5::J5::box bj #[C ga,R a5 fN c5] 26::bZ)∧(q_≤(cL I U cn cr).length)∧(ga=cn∧fN=l8 cn cr ((cL I U cn cr).take q_))) _ ⟨0,cn,cr,dE,dD,J,s1,s2,s3,s4,s5,(bH s6),dI,aq,(by exact⟨J,J⟩)⟩ ?_
 rintro _ f1 w6 ⟨q_,ga,fN,a5,c5,rfl,s7,s8,s9,ei,eR,fM,cR,tg,oC⟩
 refine sq ?_
 have P0:=rB (I:=I) (U:=U) lq;have RC:=P0.1
 have sP:=ZO ey fP oK qa P0
 refine rg<|k<|lss J J fM eR<|av<|sq<|cd (b:=decide ((q_:Int)<((cL I U cn cr).length:Int))) J J (fun b0=>?_)<|fun b0=>?_
 ·
  have p0:=dT b0
  refine sk<|nx<|sq<|bk<|aD<|k<|ia (cR.rv 1 J) J J ei fM aq eD cN ?_
  intro iy x0 aN cB
  refine k<|nI cB.w cN J J ?_
  intro v0 kN
  obtain⟨_,⟨_,_,rfl,⟨rfl,nj⟩,⟨_,_,rfl,⟨rfl,n9⟩,⟨rfl,qT⟩⟩⟩,rfl⟩:=kN
  refine k<|al cR cN ?_
  let eh:=iL a5 fN c5::J5::box bj #[C ga,R a5 fN c5] 26::bZ
  intro bK w7 je (dX:HI M w w7 (box bK #[C 0,C 0,C 0] 122::eh))
  refine k<|bA dX 0 J cN J J J J J J J ?_
  intro w8 (dV:HI M w w8 (box bK #[C x0.1,C x0.2.1,C x0.2.2] 122::eh))
  refine av<|rg<|k<|cC dV 3 J bp J s9 aw J<|aU kV J J<|bq dV 0 J aT J J J<|aU nf J J<|bq dV 0 J aT J J J<|k ?_
  have fF:=F' (mn:=ga) (mr:=fN) (i:=x0.1) (j:=x0.2.1) dV.mb aS (dV.rv 1 J) nj n9<|by exact Vc aq oK qa sP oC
  refine ca Xo J (ec J<|ec J<|ec J e0) fF ?_
  rintro _ w9 ⟨a6,c6,rfl,jE,nR⟩
  have cJ:=dV.ext jE
  let J6:=iL a6 (ie ga fN x0.1 x0.2.1) c6
  have ef:=cJ.put (it:=J6) J nR
  refine ak (v:=.tuple #[.agg #[C (iu ga x0.1 x0.2.1),R a6 (ie ga fN x0.1 x0.2.1) c6],C (lM ga x0.1 x0.2.1)]) J J<|k<|xt J J J<|k<|xt J J J<|k<|bA ef 4 J bp J J s9 J J J J ?_
  let J7:=box bj #[C (iu ga x0.1 x0.2.1),R a6 (ie ga fN x0.1 x0.2.1) c6] 26
  intro dL (dA:HI M w dL (J6::box bK #[C x0.1,C x0.2.1,C x0.2.2] 122::iL a5 fN c5::J5::J7::bZ))
  refine z<|aH<|nx<|rg<|k<|add J J fM J aS<|ak (v:=C ((q_:Int)+1)) J J<|z ?_
  have fe:=dA.put (it:=J6) J<|dA.rv 0 J
  have fw:HI M w dL (J6::J5::J7::bZ):=fe.bX [0,4,5,6,7,8,9,10] aw J
  refine bB _ ?_ ⟨(q_+1),(iu ga x0.1 x0.2.1),(ie ga fN x0.1 x0.2.1),a6,c6,J,s7,s8,s9,ei,eR,(bH J),fw,aq,(by exact Cd oC aN (LS oK sP aN))⟩
  omega
 have p0:=dF b0
 refine ex<|aW<|ba<|bh<|cQ<|ak J s7<|k ?_
 have fF:=rE (kd:=kd) (w:=w6) lY
 refine ca Gw J (ec J e0) fF ?_
 rintro _ w7 ⟨rfl,je⟩
 have dX:=cR.ext je
 refine k<|al dX bV ?_
 let J8:=box bj #[C ga,R a5 fN c5] 26
 let jz:=iL a5 fN c5::J5::J8::bZ
 intro bK w8 jE (dV:HI M w w8 (box bK #[C 0,C 0,C 0,C 0,C 0,.slice none 0 0,C 0,C 0] 33::jz))
 refine k<|bA dV 0 J bV J J J J J J J ?_
 let J9:=box bK #[C kd,C (-1),C (-1),C (-1),C (-1),.slice none 0 0,C (-1),C (-1)] 33
 intro w9 (cJ:HI M w w9 (J9::jz))
 refine av<|sq ?_
 have Cm:=afq ey fP oK qa P0 oC aq
 refine rg<|k<|cC cJ 3 J bp J s9 aw J<|k ?_
 have fc:=zm (mn:=ga) (mr:=fN) cJ.mb aS (cJ.rv 1 J)<|by exact Vc aq oK qa sP oC
 refine ca RL J (ec J e0) fc ?_
 rintro _ dL ⟨rfl,lk⟩
 have ef:=cJ.ext lk
 refine ak (v:=.tuple #[C (((cV ga fN).getD 0:Nat):Int),.bool ((cV ga fN).isSome)]) J J<|k<|xt J J J<|k<|xt J J J<|au (v:=C (((cV ga fN).getD 0:Nat):Int)) J J<|au (v:=.bool ((cV ga fN).isSome)) J J<|av<|sq<|aD<|ak (v:=.bool ((cV ga fN).isSome)) J J<|z<|nx<|cd (b:=(cV ga fN).isSome) J J (fun b1=>?_)<|fun b1=>?_
 ·
  refine rg<|ak (v:=C (((cV ga fN).getD 0:Nat):Int)) J J<|aU pg J J<|k<|bA ef 0 J aT J J J J J J J ?_
  let d_:=box bK #[C kd,C (-1),C (-1),C (-1),C (((cV ga fN).getD 0:Nat):Int),.slice none 0 0,C (-1),C (-1)] 33
  intro ew (dA:HI M w ew (d_::jz))
  refine bz<|k<|cC dA 0 J bV J J aw J<|ak (v:=.bool ((cV ga fN).isSome)) J J<|k<|bA dA 4 J bV J J s8 J J J J ?_
  intro fq (fe:HI M w fq (d_::iL a5 fN c5::J5::J8::box aX #[C kd,C (-1),C (-1),C (-1),C (((cV ga fN).getD 0:Nat):Int),.slice none 0 0,C (-1),C (-1)] 33::bf))
  refine au (v:=.bool ((cV ga fN).isSome)) J J<|av<|rt<|iB fe 4 J bV J J J s8 J aw ?_
  have e8:((cV ga fN).isSome:Bool)=(kn ((I.length:Nat):Int) (A4 I U) kd).isSome:=by exact Pf Cm
  have bt:=iD (fun (lQ:Bool)=>(.tuple #[.agg #[C kd,C (-1),C (-1),C (-1),C (((cV ga fN).getD 0:Nat):Int),.slice none 0 0,C (-1),C (-1)],.bool lQ]:Value)) e8
  exact⟨kd,(-1),(-1),(-1),(((cV ga fN).getD 0:Nat):Int),(-1),(-1),bt,fe.below,(by exact acO Cm lY aq bu)⟩
 refine sk<|cQ<|k<|cC ef 0 J bV J J aw J<|ak (v:=.bool ((cV ga fN).isSome)) J J<|k<|bA ef 4 J bV J J s8 J J J J ?_
 intro ew (dA:HI M w ew (J9::iL a5 fN c5::J5::J8::box aX #[C kd,C (-1),C (-1),C (-1),C (-1),.slice none 0 0,C (-1),C (-1)] 33::bf))
 refine au (v:=.bool ((cV ga fN).isSome)) J J<|av<|rt<|iB dA 4 J bV J J J s8 J aw ?_
 have e8:((cV ga fN).isSome:Bool)=(kn ((I.length:Nat):Int) (A4 I U) kd).isSome:=by exact Pf Cm
 have bt:=iD (fun (lQ:Bool)=>(.tuple #[.agg #[C kd,C (-1),C (-1),C (-1),C (-1),.slice none 0 0,C (-1),C (-1)],.bool lQ]:Value)) e8
 exact⟨kd,(-1),(-1),(-1),(-1),(-1),(-1),bt,dA.below,(by exact acP Cm lY bu)⟩
theorem Xp:cD aM 63:=cE Tryz.func63
theorem qg:gV aM 33 2 2:=j1 Tryz.underlying33
theorem D_ {ada:Nat} (hM:eC M w) (hT:fY 0 w) (cW:cz M w aA az I) (kD:aK cn) (gk:aK mn) (gz:cz M w bG bF mr) (HD:aK fG) (lu:w.heap[eL]? =some (.cells #[.slice aC aF aB,R aA I az,.slice ay dY ax,C cn,.slice dE ada dD,.slice iZ rY jQ] l9 (0,0))∧¬M eL) (b9:bL mn mr=true) (ajE:0≤fG∧fG<((I.length:Nat):Int)):Calls aM 63 #[.pointer (some ⟨eL,0,none⟩),.agg #[C mn,R bG mr bF],C fG] w (ck fun v w'=>∃(a0:OA) (c0:Nat),v=.slice a0 (dy I mn mr fG).length c0∧Ext w w'∧RV (fun b=>b<w.heap.size) w' (.slice a0 (dy I mn mr fG).length c0) (dy I mn mr fG)):=by
 refine dv 24 Tryz.func63 J J J hM fun f0 ha H=>?_
 have H0:=dU H cW
 have H1:=dU H0 gz
 let J0:=ro eL #[.slice aC aF aB,R aA I az,.slice ay dY ax,C cn,.slice dE ada dD,.slice iZ rY jQ] l9
 have H2:=H1.put (it:=J0) J<|by rw[aG rfl,aG rfl,bQ];exact lu
 have i0:f0 0=pV eL 0:=ha 0 bm
 have i1:f0 1=.agg #[C mn,R bG mr bF]:=ha 1 bm
 have i2:f0 2=C fG:=ha 2 bm
 refine aD<|k<|bx H2 J i1 ?_
 intro aX w0 bY (H3:HI M w w0 [box aX #[C mn,R bG mr bF] 26,J0,iL bG mr bF,iL aA I az])
 refine au (v:=.slice none 0 0) J J<|av<|sq<|U4 J aV<|xq J<|kq (fun _ _=>mv J i0 e1)<|zq<|xq J<|kq (fun _ _=>nc J J e1)<|zq<|xq J<|kq (fun _ _=>fa sl J J e1)<|zq<|xq J<|kq (fun _ x_=>wS (H3.ext x_) 1 J dt J J aw J e1)<|zq<|xq J<|kq (fun _ x_=>cC (H3.ext x_) 0 J bp J J aw J e1)<|zq<|xq J<|kq (fun _ _=>mv J i2 e1)<|zq<|xu (fun v w'=>∃(a0:OA) (c0:Nat),v=R a0 (fb mn mr fG) c0∧RV (fun c_=>c_<w0.heap.size) w' (R a0 (fb mn mr fG) c0) (fb mn mr fG)) J (by rintro _ _ _ x_ ⟨a0,c0,e_,dN⟩;exact⟨a0,c0,e_,dN.lift (Up.ext x_)⟩) J (fun v_ x_=>have df:=Pm (mn:=mn) (mr:=mr) (o:=fG) (w:=v_) (H3.ext x_).mb (hT.ext (H3.ext x_).below) gk ((H3.ext x_).rv 2 rfl) HD (by exact b9);ca ZE rfl (ec J<|ec J e0) df (fun _ w2 ⟨a1,c1,e_,fm,dH⟩=>⟨_,J,fm,⟨a1,c1,e_,(bo.rvN dH x_)⟩⟩))<|xq J<|kq (fun _ _=>mv J i0 e1)<|zq<|xq J<|kq (fun _ _=>nc J J e1)<|zq<|xq J<|kq (fun _ _=>fa sl J J e1)<|zq<|xq J<|kq (fun _ _=>fa eX J J e1)<|zq<|xq J<|kq (fun _ x_=>lr (H3.ext x_) 1 J ir J J J e1)<|zq<|xq J<|kq (fun _ _=>mv J i2 e1)<|zq<|xq J<|qz (H3.rv 3 J) J J J J aq iK jd ?_
 intro iy x0 aN cB
 refine zq<|xq J<|kq (fun _ _=>fa ry J J e1)<|zq<|xq J<|mC ((cB).s3).fst.w aT J J ?_
 intro iO
 refine zq<|xu1 (fun v w'=>∃(a3:OA) (c3:Nat),v=R a3 (bc (gR I x0.2.2.2.1)<|fb mn mr fG) c3∧RV (fun c_=>c_<w0.heap.size) w' (R a3 (bc (gR I x0.2.2.2.1)<|fb mn mr fG) c3) (bc (gR I x0.2.2.2.1)<|fb mn mr fG)) 0 J J (by rintro _ _ _ x_ ⟨a3,c3,e_,kN⟩;exact⟨a3,c3,e_,kN.lift (Up.ext x_)⟩) J (fun v_ _ x_ h_=>let ⟨a4,c4,s0,nj⟩:=h_;have dR:=(H3.ext x_).put (it:=iL a4 (fb mn mr fG) c4) rfl (L9 nj H3);have fc:=E2 (I:=I) (l:=(fb mn mr fG)) (vr:=x0.2.2.2.1) (aC:=aC) (aF:=aF) (aB:=aB) (ay:=ay) (dY:=dY) (ax:=ax) dR.mb (dR.rv 4 J) (dR.rv 0 J) iO (by have h_:=vA b9 fG;omega);ca aeT rfl (ec J<|ec s0<|ec J e0) fc (fun _ w4 ⟨a5,c5,e_,jl,n9⟩=>⟨_,J,jl,⟨a5,c5,e_,(bo.rvN n9 x_)⟩⟩))<|xu1 (fun v w'=>∃(a6:OA) (c6:Nat),v=R a6 (bc (gR I x0.2.2.2.1)<|fb mn mr fG) c6∧RV (fun c_=>c_<w0.heap.size) w' (R a6 (bc (gR I x0.2.2.2.1)<|fb mn mr fG) c6) (bc (gR I x0.2.2.2.1)<|fb mn mr fG)) 0 J J (by rintro _ _ _ x_ ⟨a6,c6,e_,nR⟩;exact⟨a6,c6,e_,nR.lift (Up.ext x_)⟩) J (fun _ _ _ h_=>let ⟨a7,c7,s1,mA⟩:=h_;jV rfl s1 ⟨_,J,Ext.refl _,⟨a7,c7,J,mA⟩⟩)<|zx ?_
 intro w5 f0 je cG jc
 have ef:=H3.ext je
 obtain⟨a8,c8,s2,pI⟩:=jc 0 _ _ rfl
 have dA:=ef.put (it:=iL a8 (bc (gR I x0.2.2.2.1)<|fb mn mr fG) c8) J<|L9 pI H3
 refine nx<|rt<|r1 J J ?_
 rw[s2]
 have e0:(bc (gR I x0.2.2.2.1) (fb mn mr fG):aE)=dy I mn mr fG:=by simp only[dy,ml,aN,BL]
 have bt:=iD (fun (cb:aE)=>(.slice a8 cb.length c8:Value)) e0
 exact⟨a8,c8,bt,dA.below,(apj (fun (x_:aE)=>RV _ _ (.slice a8 x_.length c8) x_) e0).mp (acE pI H3)⟩
theorem Vr (hM:eC M w) (hT:fY 0 w) (cW:cz M w aA az I) (fC:cz M w ay ax U) (kD:aK cn) (nV:cz M w dE dD cr) (lY:aK kd) (lu:w.heap[eL]? =some (.cells #[.slice aC aF aB,R aA I az,R ay U ax,C cn,R dE cr dD,.slice iZ rY jQ] l9 (0,0))∧¬M eL) (lq:bL cn cr=true) (ey:U.length=I.length):Calls aM 35 #[.pointer (some ⟨eL,0,none⟩),C kd] w (ck fun v w'=>∃(k_:Int) (r_:Int) (a_:Int) (b_:Int) (o_:Int) (f_:Int) (s_:Int),v=.tuple #[.agg #[C k_,C r_,C a_,C b_,C o_,.slice none 0 0,C f_,C s_],.bool ((qC I U cn cr kd).isSome)]∧Ext w w'∧qO (qC I U cn cr kd) k_ r_ a_ b_ o_):=by
 refine dv 44 Tryz.func35 J J J hM fun f0 ha H=>?_
 let J0:=iL aA I az
 have H0:=H.put (it:=J0) J<|by rw[bQ];exact cW
 let J1:=iL ay U ax
 have H1:=H0.put (it:=J1) J<|by rw[aG rfl,bQ];exact fC
 let J2:=iL dE cr dD
 have H2:=H1.put (it:=J2) J<|by rw[aG rfl,aG rfl,bQ];exact nV
 have iE:=bg cW
 have kh:=bg fC
 have BJ:=bg nV
 let J3:=ro eL #[.slice aC aF aB,R aA I az,R ay U ax,C cn,R dE cr dD,.slice iZ rY jQ] l9
 have H3:=H2.put (it:=J3) J<|by rw[aG rfl,aG rfl,aG rfl,bQ];exact lu
 have i0:f0 0=pV eL 0:=ha 0 bm
 have i1:f0 1=C kd:=ha 1 bm
 refine aD<|k<|al H3 bV ?_
 let bf:=[J3,J2,J1,J0]
 intro aX w0 bY (H4:HI M w w0 (box aX #[C 0,C 0,C 0,C 0,C 0,.slice none 0 0,C 0,C 0] 33::bf))
 let J4:=box aX #[C 0,C 0,C 0,C 0,C 0,.slice none 0 0,C 0,C 0] 33
 refine au (v:=.bool false) J J<|av<|sq<|aD<|ak J i0<|k<|nc J J<|aU sl J J<|aU sm J J<|k<|lr H4 1 J qv J J J<|k<|dP J J cw<|ak (v:=C 0) J J<|av<|bk ?_
 let bZ:=J4::bf
 refine lp (fun m f w'=>∃(j_:Nat),m=U.length-j_∧f 0=pV eL 0∧f 1=C kd∧f 4=pV aX 0∧f 14=R ay U ax∧f 15=C (U.length:Int)∧f 16=C (j_:Int)∧HI M w w' bZ∧(j_≤U.length)∧(∀q,q<j_→wb I U cn cr q=false)) _ ⟨0,J,i0,i1,J,J,J,(bH J),H4,aq,(by intro q h;omega)⟩ ?_
 rintro _ f0 w1 ⟨j_,rfl,s0,s1,s2,s3,s4,s5,H5,kb,hs⟩
 refine aD<|k<|lss J J s5 s4<|av<|sq<|cd (b:=decide ((j_:Int)<(U.length:Int))) J J (fun b0=>?_)<|fun b0=>?_
 ·
  have p0:=dT b0
  refine sk<|nx<|sq<|bk<|aD<|ak J s5<|k<|ia (H5.rv 3 J) J J s3 s5 aq cw aT ?_
  intro iy x0 aN cB
  refine k<|kF cB.w aT J J ?_
  intro cm
  refine au (v:=C (j_:Int)) J J<|au (v:=C x0) J J<|av<|sq<|aD<|ak (v:=C x0) J J<|k<|neq J J J J<|z<|nx<|cd (b:=!decide (x0=(-1))) J J (fun b1=>?_)<|fun b1=>?_
  ·
   have p1:=dF<|gf b1
   refine ex<|aW<|bh<|nx<|rg<|k<|add J J s5 J aS<|ak (v:=C ((j_:Int)+1)) J J<|z<|bB _ ?_ ⟨(j_+1),J,s0,s1,s2,s3,s4,(bH J),H5,aq,(by exact sR hs (by simp only[wb,jC aN,b0,(gf b1),BL]))⟩
   omega
  have p1:=dT<|fu b1
  refine sk<|cQ<|ak J s0<|ak J s0<|k<|nc J J<|aU yG J J<|k<|wS H5 1 J bp J J aw J<|ak (v:=C (j_:Int)) J J<|k ?_
  have bT:=D_ (I:=I) (cn:=cn) (mn:=cn) (mr:=cr) (fG:=(j_:Int)) H5.mb (hT.ext H5.below) (H5.rv 4 J) kD kD (H5.rv 2 J) aS (H5.at_ 1 J) (by exact lq) aq
  refine ca Xp J (ec J<|ec J<|ec J e0) bT ?_
  rintro _ w2 ⟨a0,c0,rfl,cS,dN⟩
  have H6:=H5.ext cS
  have dH:=(dN.lift<|Up.less fun b _ hb=>H5.mb b hb)
  let J5:=iL a0 (dy I cn cr (j_:Int)) c0
  have H7:=H6.put (it:=J5) J dH
  refine au (v:=R a0 (dy I cn cr (j_:Int)) c0) J J<|bz<|ak (v:=R a0 (dy I cn cr (j_:Int)) c0) J J<|k<|dP J J cw<|k<|gtr J J J J<|z<|nx<|cd (b:=decide (0<((dy I cn cr (j_:Int)).length:Int))) J J (fun b2=>?_)<|fun b2=>?_
  ·
   have p2:=dT b2
   refine aD<|ak J s1<|k ?_
   have df:=rE (kd:=kd) (w:=w2) lY
   refine ca Gw J (ec J e0) df ?_
   rintro _ w3 ⟨rfl,fm⟩
   have H8:=H7.ext fm
   refine k<|al H8 bV ?_
   let eh:=J5::bZ
   intro bj w4 fg (H9:HI M w w4 (box bj #[C 0,C 0,C 0,C 0,C 0,.slice none 0 0,C 0,C 0] 33::eh))
   refine k<|bA H9 0 J bV J J J J J J J ?_
   let J6:=box bj #[C kd,C (-1),C (-1),C (-1),C (-1),.slice none 0 0,C (-1),C (-1)] 33
   intro w5 (dB:HI M w w5 (J6::eh))
   refine av<|sq ?_
   obtain⟨x1,cO⟩:∃x,(dy I cn cr (j_:Int))[(0:Int).toNat]? =some x:=⟨_,eB aq⟩
   have cM:HI M w w5 [J5,J4,J3,J2,J1,J0,J6]:=dB.bX [1,2,3,4,5,6,0] aw J
   let J7:=box bj #[C kd,C (j_:Int),C (-1),C (-1),C (-1),.slice none 0 0,C (-1),C (-1)] 33
   let J8:=box bj #[C kd,C (j_:Int),C x1,C (-1),C (-1),.slice none 0 0,C (-1),C (-1)] 33
   refine XD [none,none,none,none,none,some 7,none,none,some 5] [0,0,2,6,1,17,63,127] [fun _=>[],fun _=>[],fun v_=>[nO (vP v_) x1],fun _=>[],fun _=>[],fun v_=>[J7],fun _=>[],fun v_=>[J8],fun _=>[J6]] [[],[],[],[2],[],[8],[],[5]] [fun v_=>v_=C (j_:Int),fun v_=>v_=R a0 (dy I cn cr (j_:Int)) c0,fun v_=>∃(mV:Addr),v_=.pointer (some mV),fun v_=>v_=C x1∧aK (x1),fun v_=>v_=pV bj 1,fun _=>True,fun v_=>v_=pV bj 2,fun _=>True] [J5,J4,J3,J2,J1,J0] J aV J cM ?_ ?_
   ·
    refine⟨fun f1 w8 V_ eG l4 hp0 hq0 dR=>?_,?_⟩
    ·
     have dI:HI M w w8 (eh++eG):=(by have h_:HI M w w8 (eh++(eG)):=dR;exact h_)
     refine mv J (l4 6 J) ?_
     exact⟨_,J,J,dI⟩
    refine⟨fun f2 w9 V_ eG Hw Ka JZ dX=>?_,?_⟩
    ·
     have dV:HI M w w9 (eh++eG):=(by have h_:HI M w w9 (eh++(eG)):=dX;exact h_)
     refine mv J (Hw 8 J) ?_
     exact⟨_,J,J,dV⟩
    refine⟨fun f3 dL V_ eG gS vJ nK ef=>?_,?_⟩
    ·
     obtain⟨e0,q0⟩:=vJ 1 _ rfl rfl rfl
     have e1:V_ 1=R a0 (dy I cn cr (j_:Int)) c0:=q0
     have s6:f3 36=R a0 (dy I cn cr (j_:Int)) c0:=e0.trans e1
     have dA:HI M w dL (eh++eG):=(by have h_:HI M w dL (eh++(eG)):=ef;exact h_)
     refine ia (dA.rv 0 J) J J s6 J aq cw aT ?_
     intro jo x2 iY jw
     obtain rfl:x1=x2:=apm (cO.symm.trans iY)
     have fe:=dA.put (it:=nO jo x1) J jw
     have fw:HI M w dL ((nO jo x1::eh)++eG):=fe
     have gl:=HI.aQ (l:=(nO jo x1::eh)) (l':=[J5,J4,J3,J2,J1,J0,nO jo x1]) (t:=eG) fw [1,2,3,4,5,6,0] aw J J
     exact⟨_,J,⟨jo,J⟩,gl⟩
    refine⟨fun f4 ew V_ eG AO oJ E9 iR=>?_,?_⟩
    ·
     obtain⟨e2,q1⟩:=oJ 2 _ rfl rfl rfl
     obtain⟨nD,e3⟩:∃(nD:Addr),V_ 2=.pointer (some nD):=q1
     have s7:f4 37=.pointer (some nD):=e2.trans e3
     have iQ:HI M w ew ([iL a0 (dy I cn cr (j_:Int)) c0,box aX #[C 0,C 0,C 0,C 0,C 0,.slice none 0 0,C 0,C 0] 33,ro eL #[.slice aC aF aB,R aA I az,R ay U ax,C cn,R dE cr dD,.slice iZ rY jQ] l9,iL dE cr dD,iL ay U ax,iL aA I az,nO nD x1]++eG):=(by have h_:HI M w ew ([iL a0 (dy I cn cr (j_:Int)) c0,box aX #[C 0,C 0,C 0,C 0,C 0,.slice none 0 0,C 0,C 0] 33,ro eL #[.slice aC aF aB,R aA I az,R ay U ax,C cn,R dE cr dD,.slice iZ rY jQ] l9,iL dE cr dD,iL ay U ax,iL aA I az]++([nO (vP<|V_ 2) x1]++(eG))):=iR;rw[e3] at h_;exact h_)
     refine kF (iQ.Fq 6 J).w aT J s7 ?_
     intro iO
     exact⟨_,J,⟨J,iO⟩,(by have h_:=iQ;rw[show (nD:Addr)=(vP<|V_ 2) from by rw[e3]<;>rfl] at h_;exact h_)⟩
    refine⟨fun f5 fq V_ eG Y3 rO E8 iA=>?_,?_⟩
    ·
     have pF:HI M w fq (eh++eG):=(by have h_:HI M w fq (eh++(eG)):=iA;exact h_)
     refine fa so J (Y3 9 J) ?_
     exact⟨_,J,J,pF⟩
    refine⟨fun f6 iF V_ eG hs5 th hq5 oO=>?_,?_⟩
    ·
     obtain⟨e4,q2⟩:=th 0 _ rfl rfl rfl
     have e5:V_ 0=C (j_:Int):=q2
     have s8:f6 35=C (j_:Int):=e4.trans e5
     obtain⟨e6,q3⟩:=th 4 _ rfl rfl rfl
     have e7:V_ 4=pV bj 1:=q3
     have s9:f6 39=pV bj 1:=e6.trans e7
     have j9:HI M w iF ([J5,J4,J3,J2,J1,J0,J6]++eG):=(by have h_:HI M w iF (eh++([J6]++(eG))):=oO;exact h_)
     refine bA j9 6 J aT J J s9 s8 J J J ?_
     intro jF (pE:HI M w jF ([J5,J4,J3,J2,J1,J0,J7]++eG))
     exact⟨undef,J,trivial,pE⟩
    refine⟨fun f7 oU V_ eG hs6 pB hq6 Ek=>?_,?_⟩
    ·
     have kJ:HI M w oU (eh++eG):=(by have h_:HI M w oU (eh++(eG)):=Ek;exact h_)
     refine fa qg J (hs6 9 J) ?_
     exact⟨_,J,J,kJ⟩
    refine⟨fun f8 wJ V_ eG hs7 ri hq7 nF=>?_,?_⟩
    ·
     obtain⟨e8,q4⟩:=ri 3 _ rfl rfl rfl
     obtain⟨e9,jK⟩:V_ 3=C x1∧aK (x1):=q4
     have ei:f8 38=C x1:=e8.trans e9
     obtain⟨U1,q5⟩:=ri 6 _ rfl rfl rfl
     have su:V_ 6=pV bj 2:=q5
     have eR:f8 40=pV bj 2:=U1.trans su
     have xg:HI M w wJ ([J5,J4,J3,J2,J1,J0,J7]++eG):=(by have h_:HI M w wJ (eh++([J7]++(eG))):=nF;exact h_)
     refine bA xg 6 J aT J J eR ei J J J ?_
     intro r8 (qP:HI M w r8 ([J5,J4,J3,J2,J1,J0,J8]++eG))
     exact⟨undef,J,trivial,qP⟩
    exact trivial
   ·
    intro f9 tD V_ Y2 qI oN
    obtain⟨tp,q6⟩:=qI 2 _ rfl rfl
    obtain⟨la,sr⟩:∃(la:Addr),V_ 2=.pointer (some la):=q6
    have fL:=(Y2 4 J).trans s2
    have gv:f9 9=pV bj 0:=Y2 9 J
    have Z4:HI M w tD [iL a0 (dy I cn cr (j_:Int)) c0,box aX #[C 0,C 0,C 0,C 0,C 0,.slice none 0 0,C 0,C 0] 33,ro eL #[.slice aC aF aB,R aA I az,R ay U ax,C cn,R dE cr dD,.slice iZ rY jQ] l9,iL dE cr dD,iL ay U ax,iL aA I az,nO la x1,box bj #[C kd,C (j_:Int),C x1,C (-1),C (-1),.slice none 0 0,C (-1),C (-1)] 33]:=(by have h_:HI M w tD ([iL a0 (dy I cn cr (j_:Int)) c0,box aX #[C 0,C 0,C 0,C 0,C 0,.slice none 0 0,C 0,C 0] 33,ro eL #[.slice aC aF aB,R aA I az,R ay U ax,C cn,R dE cr dD,.slice iZ rY jQ] l9,iL dE cr dD,iL ay U ax,iL aA I az]++([]++([]++([nO (vP<|V_ 2) x1]++([]++([]++([]++([box bj #[C kd,C (j_:Int),C x1,C (-1),C (-1),.slice none 0 0,C (-1),C (-1)] 33]++([]))))))))):=oN;rw[sr] at h_;exact h_)
    refine cQ<|k<|cC Z4 7 J bV J gv aw J<|k<|bA Z4 1 J bV J J fL J J J J ?_
    intro wI (KL:HI M w wI [J5,box aX #[C kd,C (j_:Int),C x1,C (-1),C (-1),.slice none 0 0,C (-1),C (-1)] 33,J3,J2,J1,J0,nO la x1,J8])
    refine au (v:=.bool true) J J<|av<|rt<|bI<|aL<|du<|bI<|aL ?_
    have rl:=EF (n:=U.length) hs aq<|show wb I U cn cr j_=true by simp only[wb,jC aN,cO,b0,(fu b1),b2,BL]
    refine iB KL 1 J bV J J J fL J aw ?_
    have e8:(true:Bool)=(qC I U cn cr kd).isSome:=by exact afh rl
    have bt:=iD (fun (lQ:Bool)=>(.tuple #[.agg #[C kd,C (j_:Int),C x1,C (-1),C (-1),.slice none 0 0,C (-1),C (-1)],.bool lQ]:Value)) e8
    exact⟨kd,(j_:Int),x1,(-1),(-1),(-1),(-1),bt,KL.below,(by exact ahr lY rl aq cO (N4 lq cO))⟩
  have p2:=dF b2
  refine sk<|aH<|nx<|rg<|k<|add J J s5 J aS<|ak (v:=C ((j_:Int)+1)) J J<|z ?_
  have H8:HI M w w2 bZ:=H7.bX [1,2,3,4,5] aw J
  refine bB _ ?_ ⟨(j_+1),J,s0,s1,s2,s3,s4,(bH J),H8,aq,(by exact sR hs (by simp only[wb,jC aN,b0,(fu b1),b2,BL]))⟩
  omega
 have p0:=dF b0
 refine ex<|aW<|ba<|bh<|cQ<|k<|bd (v:=.agg #[C 0,C 0,C 0,C 0,C 0,.slice none 0 0,C 0,C 0]) J eA (fun _=>aV)<|k<|bA H5 0 J bV J J s2 J J J J ?_
 intro w2 (H6:HI M w w2 bZ)
 refine au (v:=.bool false) J J<|av<|rt ?_
 have rl:A1 I U cn cr=none:=B2 hs aq
 refine iB H6 0 J bV J J J s2 J aw ?_
 have e8:(false:Bool)=(qC I U cn cr kd).isSome:=by rw[UY rl];rfl
 have bt:=iD (fun (lQ:Bool)=>(.tuple #[.agg #[C 0,C 0,C 0,C 0,C 0,.slice none 0 0,C 0,C 0],.bool lQ]:Value)) e8
 exact⟨0,0,0,0,0,0,0,bt,H6.below,(by exact uH (UY rl) OZ)⟩
theorem HQ:gV aM 33 3 3:=j1 Tryz.underlying33
theorem OT (hM:eC M w) (hT:fY 0 w) (cW:cz M w aA az I) (fC:cz M w ay ax U) (kD:aK cn) (nV:cz M w dE dD cr) (lY:aK kd) (lu:w.heap[eL]? =some (.cells #[.slice aC aF aB,R aA I az,R ay U ax,C cn,R dE cr dD,.slice iZ rY jQ] l9 (0,0))∧¬M eL) (lq:bL cn cr=true) (ey:U.length=I.length):Calls aM 36 #[.pointer (some ⟨eL,0,none⟩),C kd] w (ck fun v w'=>∃(k_:Int) (r_:Int) (a_:Int) (b_:Int) (o_:Int) (f_:Int) (s_:Int),v=.tuple #[.agg #[C k_,C r_,C a_,C b_,C o_,.slice none 0 0,C f_,C s_],.bool ((qD I U cn cr kd).isSome)]∧Ext w w'∧qO (qD I U cn cr kd) k_ r_ a_ b_ o_):=by
 refine dv 60 Tryz.func36 J J J hM fun f0 ha H=>?_
 let J0:=iL aA I az
 have H0:=H.put (it:=J0) J<|by rw[bQ];exact cW
 let J1:=iL ay U ax
 have H1:=H0.put (it:=J1) J<|by rw[aG rfl,bQ];exact fC
 let J2:=iL dE cr dD
 have H2:=H1.put (it:=J2) J<|by rw[aG rfl,aG rfl,bQ];exact nV
 have iE:=bg cW
 have kh:=bg fC
 have BJ:=bg nV
 let J3:=ro eL #[.slice aC aF aB,R aA I az,R ay U ax,C cn,R dE cr dD,.slice iZ rY jQ] l9
 have H3:=H2.put (it:=J3) J<|by rw[aG rfl,aG rfl,aG rfl,bQ];exact lu
 have i0:f0 0=pV eL 0:=ha 0 bm
 have i1:f0 1=C kd:=ha 1 bm
 refine aD<|k<|al H3 bV ?_
 let bf:=[J3,J2,J1,J0]
 intro aX w0 bY (H4:HI M w w0 (box aX #[C 0,C 0,C 0,C 0,C 0,.slice none 0 0,C 0,C 0] 33::bf))
 let J4:=box aX #[C 0,C 0,C 0,C 0,C 0,.slice none 0 0,C 0,C 0] 33
 refine au (v:=.bool false) J J<|av<|sq<|aD<|ak J i0<|k<|nc J J<|aU sl J J<|aU sm J J<|k<|lr H4 1 J qv J J J<|k<|dP J J cw<|ak (v:=C 0) J J<|av<|bk<|lp (fun m f w'=>∃(j_:Nat),m=U.length-j_∧f 0=pV eL 0∧f 1=C kd∧f 4=pV aX 0∧f 15=R ay U ax∧f 16=C (U.length:Int)∧f 17=C (j_:Int)∧HI M w w' (J4::bf)∧(j_≤U.length)∧(∀q,q<j_→wH I U cn cr q=false)) _ ⟨0,J,i0,i1,J,J,J,(bH J),H4,aq,(by intro q h;omega)⟩ ?_
 rintro _ f0 w1 ⟨j_,rfl,s0,s1,s2,s3,s4,s5,H5,kb,hs⟩
 refine aD<|k<|lss J J s5 s4<|av<|sq<|cd (b:=decide ((j_:Int)<(U.length:Int))) J J (fun b0=>?_)<|fun b0=>?_
 ·
  have p0:=dT b0
  refine sk<|nx<|sq<|bk<|aD<|ak J s5<|k<|ia (H5.rv 3 J) J J s3 s5 aq cw aT ?_
  intro iy x0 aN cB
  refine k<|kF cB.w aT J J ?_
  intro cm
  refine au (v:=C (j_:Int)) J J<|au (v:=C x0) J J<|av<|sq<|aD<|ak (v:=C x0) J J<|k<|lss J J J J<|z<|nx<|cd (b:=decide (x0<0)) J J (fun b1=>?_)<|fun b1=>?_
  ·
   have p1:=dT b1
   refine ex<|aW<|bh<|nx<|rg<|k<|add J J s5 J aS<|ak (v:=C ((j_:Int)+1)) J J<|z<|bB _ ?_ ⟨(j_+1),J,s0,s1,s2,s3,s4,(bH J),H5,aq,(by exact afy hs aN ‹_›)⟩
   omega
  have p1:=dF b1
  refine sk<|cQ<|ak J s0<|ak J s0<|k<|nc J J<|aU yG J J<|k<|wS H5 1 J bp J J aw J<|ak (v:=C (j_:Int)) J J<|k ?_
  have bT:=D_ (I:=I) (cn:=cn) (mn:=cn) (mr:=cr) (fG:=(j_:Int)) H5.mb (hT.ext H5.below) (H5.rv 4 J) kD kD (H5.rv 2 J) aS (H5.at_ 1 J) (by exact lq) aq
  refine ca Xp J (ec J<|ec J<|ec J e0) bT ?_
  rintro _ w2 ⟨a0,c0,rfl,cS,dN⟩
  have H6:=H5.ext cS
  have dH:=(dN.lift<|Up.less fun b _ hb=>H5.mb b hb)
  let J5:=iL a0 (dy I cn cr (j_:Int)) c0
  have H7:=H6.put (it:=J5) J dH
  refine k<|dP J J cw<|ak (v:=C 0) J J<|av<|bk ?_
  let bZ:=J5::J4::bf
  refine lp (fun m f w'=>∃(q_:Nat),m=(dy I cn cr (j_:Int)).length-q_∧f 0=pV eL 0∧f 1=C kd∧f 4=pV aX 0∧f 6=C (j_:Int)∧f 7=C x0∧f 15=R ay U ax∧f 16=C (U.length:Int)∧f 17=C (j_:Int)∧f 30=R a0 (dy I cn cr (j_:Int)) c0∧f 31=C ((dy I cn cr (j_:Int)).length:Int)∧f 32=C (q_:Int)∧HI M w w' bZ∧(q_≤(dy I cn cr (j_:Int)).length)∧(∀y∈(dy I cn cr (j_:Int)).take q_,(Ag cn cr x0) y=false)) _ ⟨0,J,s0,s1,s2,J,J,s3,s4,s5,J,J,(bH J),H7,aq,bm⟩ ?_
  rintro _ f1 w3 ⟨q_,rfl,s6,s7,s8,s9,ei,eR,fM,fL,gv,gH,jZ,H8,tg,gS⟩
  refine sq ?_
  have la_:=Sd lq I (j_:Int)
  refine rg<|k<|lss J J jZ gH<|av<|sq<|cd (b:=decide ((q_:Int)<((dy I cn cr (j_:Int)).length:Int))) J J (fun b2=>?_)<|fun b2=>?_
  ·
   have p2:=dT b2
   refine sk<|nx<|sq<|bk<|aD<|k<|ia (H8.rv 0 J) J J gv jZ aq cw aT ?_
   intro mV x1 cO gx
   refine k<|kF gx.w aT J J ?_
   intro ft
   refine au (v:=C x1) J J<|bz<|ak (v:=C x1) J J<|ak J ei<|k<|neq J J J J<|ak (v:=.bool (!decide (x1=x0))) J J ?_
   rcases bE (!decide (x1=x0)) with b3|b3
   ·
    have p3:=dF<|gf b3
    refine bl J J J b3<|mv J s6<|bl J J J b3<|nc J J<|bl J J J b3<|fa yG J J<|bl J J J b3<|wS H8 2 J bp J J aw J<|bl J J J b3<|mv J ei<|bl J J J b3<|mv (v:=C x1) J J<|bl J J J b3 ?_
    have df:=uS (mn:=cn) (mr:=cr) (i:=x0) (j:=x1) H8.mb kD (H8.rv 3 J) cm ft (by exact(bU lq).1) (by exact(bU lq).2.1)<|by exact(bU lq).2.2.1
    refine ca Gv J (ec J<|ec J<|ec J e0) df ?_
    rintro _ w4 ⟨rfl,fm⟩
    have H9:=H8.ext fm
    refine k<|aQ J J J J b3 J<|z<|nx<|cd (b:=eO cn cr x0 x1) J J (fun b4=>?_)<|fun b4=>?_
    ·
     refine sq ?_
     obtain⟨rl,DM,ha_⟩:=afz hs aq aN ‹_› gS cO (gf ‹(!decide (x1=x0))=true›) ‹_›
     refine rg<|ak J s7<|k ?_
     have fF:=rE (kd:=kd) (w:=w4) lY
     refine ca Gw J (ec J e0) fF ?_
     rintro _ w5 ⟨rfl,fg⟩
     have dB:=H9.ext fg
     refine k<|al dB bV ?_
     intro bj w6 jl (cT:HI M w w6 (box bj #[C 0,C 0,C 0,C 0,C 0,.slice none 0 0,C 0,C 0] 33::bZ))
     refine k<|bA cT 0 J bV J J J J J J J ?_
     intro w7 (db:HI M w w7 (box bj #[C kd,C (-1),C (-1),C (-1),C (-1),.slice none 0 0,C (-1),C (-1)] 33::bZ))
     refine bz<|ak J s9<|ak J ei<|ak (v:=C x1) J J<|aU so J J<|k<|bA db 0 J aT J J J J J J J ?_
     intro w8 (dq:HI M w w8 (box bj #[C kd,C (j_:Int),C (-1),C (-1),C (-1),.slice none 0 0,C (-1),C (-1)] 33::bZ))
     refine aU qg J J<|k<|bA dq 0 J aT J J J J J J J ?_
     intro w9 (cM:HI M w w9 (box bj #[C kd,C (j_:Int),C x0,C (-1),C (-1),.slice none 0 0,C (-1),C (-1)] 33::bZ))
     refine aU HQ J J<|k<|bA cM 0 J aT J J J J J J J ?_
     let J6:=box bj #[C kd,C (j_:Int),C x0,C x1,C (-1),.slice none 0 0,C (-1),C (-1)] 33
     intro dL (dR:HI M w dL (J6::bZ))
     refine bz<|k<|cC dR 0 J bV J J aw J<|k<|bA dR 2 J bV J J s8 J J J J ?_
     intro ew (dI:HI M w ew (J6::J5::box aX #[C kd,C (j_:Int),C x0,C x1,C (-1),.slice none 0 0,C (-1),C (-1)] 33::bf))
     refine au (v:=.bool true) J J<|av<|rt<|bI<|aL<|du<|bI<|bI<|aL<|du<|bI<|aL<|iB dI 2 J bV J J J s8 J aw ?_
     have e8:(true:Bool)=(qD I U cn cr kd).isSome:=by exact afs rl
     have bt:=iD (fun (lQ:Bool)=>(.tuple #[.agg #[C kd,C (j_:Int),C x0,C x1,C (-1),.slice none 0 0,C (-1),C (-1)],.bool lQ]:Value)) e8
     exact⟨kd,(j_:Int),x0,x1,(-1),(-1),(-1),bt,dI.below,(by exact aht lY rl DM ha_ aq bu (N4 lq cO))⟩
    refine sk<|aH<|nx<|rg<|k<|add J J jZ J aS<|ak (v:=C ((q_:Int)+1)) J J<|z<|bB _ ?_ ⟨(q_+1),J,s6,s7,s8,s9,ei,eR,fM,fL,gv,gH,(bH J),H9,aq,(by exact PG gS cO (by simp only[Ag,b0,b1,b2,(gf b3),b4,BL]))⟩
    omega
   have p3:=dT<|fu b3
   refine aZ J J J b3<|aZ J J J b3<|aZ J J J b3<|aZ J J J b3<|aZ J J J b3<|aZ J J J b3<|aZ J J J b3<|k<|cU J J J J b3 J<|av<|nB J J J<|sk<|aH<|nx<|rg<|k<|add J J jZ J aS<|ak (v:=C ((q_:Int)+1)) J J<|z<|bB _ ?_ ⟨(q_+1),J,s6,s7,s8,s9,ei,eR,fM,fL,gv,gH,(bH J),H8,aq,(by exact PG gS cO (by simp only[Ag,b0,b1,b2,(fu b3),BL]))⟩
   omega
  have p2:=dF b2
  refine ex<|aW<|ba<|bh<|aH<|nx<|rg<|k<|add J J fL J aS<|ak (v:=C ((j_:Int)+1)) J J<|z ?_
  have H9:HI M w w3 (J4::bf):=H8.bX [1,2,3,4,5] aw J
  refine bB _ ?_ ⟨(j_+1),J,s6,s7,s8,eR,fM,(bH J),H9,aq,(by exact X2 hs aN gS aq)⟩
  omega
 have p0:=dF b0
 refine ex<|aW<|ba<|bh<|cQ<|k<|bd (v:=.agg #[C 0,C 0,C 0,C 0,C 0,.slice none 0 0,C 0,C 0]) J eA (fun _=>aV)<|k<|bA H5 0 J bV J J s2 J J J J ?_
 intro w2 (H6:HI M w w2 (J4::bf))
 refine au (v:=.bool false) J J<|av<|rt ?_
 have rl:GL I U cn cr=none:=B2 hs aq
 refine iB H6 0 J bV J J J s2 J aw ?_
 have e8:(false:Bool)=(qD I U cn cr kd).isSome:=by rw[Vh rl];rfl
 have bt:=iD (fun (lQ:Bool)=>(.tuple #[.agg #[C 0,C 0,C 0,C 0,C 0,.slice none 0 0,C 0,C 0],.bool lQ]:Value)) e8
 exact⟨0,0,0,0,0,0,0,bt,H6.below,(by exact uH (Vh rl) OZ)⟩
theorem aeW:cD aM 67:=cE Tryz.func67
theorem X6 (kD:aK cn) (lY:aK kd) (hT:fY 0 w) (ho:ij I) (dG:I.length≤64) (ey:U.length=I.length) (fP:∀x∈U,x<((I.length:Nat):Int)) (oK:cn=((I.length:Nat):Int)) (qa:cr=cA I U) (hsw:iZ=none∧sw=[]∨sw=eZ I U) (H:HI M w w_ ([box eL #[.slice aC aF aB,R aA I az,R ay U ax,C cn,R dE cr dD,R iZ sw jQ] 80,iL aA I az,iL ay U ax,iL dE cr dD,oL w 26 iZ sw jQ]++r)):Calls aM 39 #[pV eL 0,C kd] w_ (ck fun v w'=>∃(k_:Int) (r_:Int) (a_:Int) (b_:Int) (o_:Int) (f_:Int) (s_:Int) (xz:OA) (xy:Nat),v=.tuple #[.agg #[C k_,C r_,C a_,C b_,C o_,.slice none 0 0,C f_,C s_],.bool ((sU I U kd).isSome)]∧HI M w w' ([box eL #[.slice aC aF aB,R aA I az,R ay U ax,C cn,R dE cr dD,.slice xz (eZ I U).length xy] 80,iL aA I az,iL ay U ax,iL dE cr dD,oL w 26 xz (eZ I U) xy]++r)∧qO (sU I U kd) k_ r_ a_ b_ o_):=by
 refine enter 34 Tryz.func39 J J J fun f0 ha=>?_
 have iE:=bg<|H.rv 1 J
 have kh:=bg<|H.rv 2 J
 have BJ:=bg<|H.rv 3 J
 have YN:=kr<|H.at_ 4 J
 have i0:f0 0=pV eL 0:=ha 0 bm
 have i1:f0 1=C kd:=ha 1 bm
 refine aD<|k<|al H bV ?_
 let J1:=box eL #[.slice aC aF aB,R aA I az,R ay U ax,C cn,R dE cr dD,R iZ sw jQ] 80
 let J2:=iL aA I az
 let J3:=iL ay U ax
 let J4:=iL dE cr dD
 let J5:=oL w 26 iZ sw jQ
 intro aX w0 bY (H0:HI M w w0 ([box aX #[C 0,C 0,C 0,C 0,C 0,.slice none 0 0,C 0,C 0] 33,J1,J2,J3,J4,J5]++r))
 let J0:=box aX #[C 0,C 0,C 0,C 0,C 0,.slice none 0 0,C 0,C 0] 33
 refine au (v:=.bool false) J J<|av<|sq<|aD<|ak J i0<|k ?_
 have H1:HI M w w0 ([J1,J2,J3,J4,J5]++([J0]++r)):=HI.aQ (l:=[J0,J1,J2,J3,J4,J5]) (l':=[J1,J2,J3,J4,J5,J0]) (t:=r) H0 [1,2,3,4,5,0] aw J J
 have bT:=Qq (eL:=eL) (aC:=aC) (aF:=aF) (aB:=aB) (aA:=aA) (az:=az) (I:=I) (ay:=ay) (ax:=ax) (U:=U) (cn:=cn) (dE:=dE) (dD:=dD) (cr:=cr) (iZ:=iZ) (jQ:=jQ) (sw:=sw) (w:=w) (w_:=w0) (r:=([J0]++r)) (M:=M) kD hT (by exact ho) (by exact dG) (by exact ey) (by exact fP) (by exact oK) (by exact qa) aq H1
 refine ca aeW J (ec J e0) bT ?_
 rintro _ w1 ⟨a0,c0,rfl,H2⟩
 let J6:=box eL #[.slice aC aF aB,R aA I az,R ay U ax,C cn,R dE cr dD,R a0 (eZ I U) c0] 80
 let J7:=oL w 26 a0 (eZ I U) c0
 refine k<|dP J J IE<|ak (v:=C 0) J J<|av<|bk ?_
 let bf:=[J6,J2,J3,J4,J7,J0]
 refine lp (fun m f w'=>∃(j_:Nat),m=I.length-j_∧f 1=C kd∧f 4=pV aX 0∧f 12=R a0 (eZ I U) c0∧f 13=C ((eZ I U).length:Int)∧f 14=C (j_:Int)∧HI M w w' (bf++r)∧(j_≤I.length)∧(∀q,q<j_→Yv I U q=false)) _ ⟨0,J,i1,J,J,J,(bH J),H2,aq,(by intro q h;omega)⟩ ?_
 rintro _ f0 w2 ⟨j_,rfl,s0,s1,s2,s3,s4,H4,kb,hs⟩
 refine aD<|k<|lss J J s4 s3<|av<|sq<|cd (b:=decide ((j_:Int)<((eZ I U).length:Int))) J J (fun b0=>?_)<|fun b0=>?_
 ·
  have p0:=dT b0
  refine sk<|nx<|sq<|bk<|aD<|ak J s4<|k<|iC (H4.at_ 4 J) J J s2 s4 aq IE bp ?_
  intro g0 x0 iP aN cB
  refine k<|nI cB bp J J ?_
  intro v0 cm
  obtain⟨_,⟨_,_,rfl,⟨rfl,dN⟩,⟨v1,rfl,dH⟩⟩,rfl⟩:=cm
  obtain⟨a1,c1,rfl,ft⟩:=RS.explicit dH
  let J8:=iL a1 x0.2 c1
  have H5:=H4.put (it:=J8) J<|by exact ft
  refine k<|al H5 bp ?_
  intro bj w3 cS (H7:HI M w w3 ((box bj #[C 0,.slice none 0 0] 26::J8::bf)++r))
  refine au (v:=C (j_:Int)) J J<|k<|bA H7 0 J bp J J J J J J J ?_
  let J9:=box bj #[C x0.1,R a1 x0.2 c1] 26
  let bZ:=J9::J8::bf
  intro w4 (H8:HI M w w4 (bZ++r))
  refine av<|sq ?_
  obtain⟨HB,Ur⟩:=Pc aN
  have Ab:x0.1=((I.length:Nat):Int):=by rw[Ur]
  have Aa:x0.2=(cY I U (j_:Int)):=by rw[Ur]
  have QS:bL x0.1 x0.2=true:=by rw[Ab,Aa];exact G2 dG HB
  refine rg<|k<|cC H8 0 J bp J J aw J<|k ?_
  have df:=zm (mn:=x0.1) (mr:=x0.2) H8.mb dN (H8.rv 1 J)<|by exact QS
  refine ca RL J (ec J e0) df ?_
  rintro _ w5 ⟨rfl,fm⟩
  have H9:=H8.ext fm
  refine ak (v:=.tuple #[C (((cV x0.1 x0.2).getD 0:Nat):Int),.bool ((cV x0.1 x0.2).isSome)]) J J<|k<|xt J J J<|k<|xt J J J<|au (v:=C (((cV x0.1 x0.2).getD 0:Nat):Int)) J J<|au (v:=.bool ((cV x0.1 x0.2).isSome)) J J<|bz<|ak (v:=.bool ((cV x0.1 x0.2).isSome)) J J<|z<|nx<|cd (b:=(cV x0.1 x0.2).isSome) J J (fun b1=>?_)<|fun b1=>?_
  ·
   refine aD<|ak J s0<|k ?_
   have fF:=rE (kd:=kd) (w:=w5) lY
   refine ca Gw J (ec J e0) fF ?_
   rintro _ w6 ⟨rfl,fg⟩
   have dB:=H9.ext fg
   refine k<|al dB bV ?_
   intro bK w7 jl (cT:HI M w w7 ((box bK #[C 0,C 0,C 0,C 0,C 0,.slice none 0 0,C 0,C 0] 33::bZ)++r))
   refine k<|bA cT 0 J bV J J J J J J J ?_
   intro w8 (db:HI M w w8 ((box bK #[C kd,C (-1),C (-1),C (-1),C (-1),.slice none 0 0,C (-1),C (-1)] 33::bZ)++r))
   refine bz<|ak (v:=C (j_:Int)) J J<|ak (v:=C (((cV x0.1 x0.2).getD 0:Nat):Int)) J J<|aU pg J J<|k<|bA db 0 J aT J J J J J J J ?_
   intro w9 (dq:HI M w w9 ((box bK #[C kd,C (-1),C (-1),C (-1),C (j_:Int),.slice none 0 0,C (-1),C (-1)] 33::bZ)++r))
   refine aU qg J J<|k<|bA dq 0 J aT J J J J J J J ?_
   let d_:=box bK #[C kd,C (-1),C (((cV x0.1 x0.2).getD 0:Nat):Int),C (-1),C (j_:Int),.slice none 0 0,C (-1),C (-1)] 33
   intro dL (cM:HI M w dL ((d_::bZ)++r))
   refine bz<|k<|cC cM 0 J bV J J aw J<|k<|bA cM 8 J bV J J s1 J J J J ?_
   let eJ:=box aX #[C kd,C (-1),C (((cV x0.1 x0.2).getD 0:Nat):Int),C (-1),C (j_:Int),.slice none 0 0,C (-1),C (-1)] 33
   intro ew (dR:HI M w ew ([d_,J9,J8,J6,J2,J3,J4,J7,eJ]++r))
   refine au (v:=.bool true) J J<|av<|rt<|bI<|aL<|du<|bI<|aL ?_
   have uv:(cV ((I.length:Nat):Int) (cY I U (j_:Int))).isSome=true:=by rw[←Ab,←Aa];assumption
   have rl:Jq I U=some j_:=EF hs HB uv
   refine iB dR 8 J bV J J J s1 J aw ?_
   have dI:=HI.aQ (l:=[d_,J9,J8,J6,J2,J3,J4,J7,eJ]) (l':=[J6,J2,J3,J4,J7]) (t:=r) dR [3,4,5,6,7] aw J J
   have e0:(true:Bool)=(sU I U kd).isSome:=by exact age rl
   try rw[←e0]
   refine⟨kd,(-1),(((cV x0.1 x0.2).getD 0:Nat):Int),(-1),(j_:Int),(-1),(-1),a0,c0,?_,?_,(by rw[Ab,Aa];exact ajb lY rl HB dG uv)⟩
   · first|rfl|simp only[e0]|(simp only[apk])
   · first|exact dI|simpa +zetaDelta only[e0,apk] using dI
  refine sk<|aH<|nx<|rg<|k<|add J J s4 J aS<|ak (v:=C ((j_:Int)+1)) J J<|z ?_
  have dB:HI M w w5 (bf++r):=HI.aQ (l:=bZ) (l':=bf) (t:=r) H9 [2,3,4,5,6,7] aw J J
  refine bB _ ?_ ⟨(j_+1),J,s0,s1,s2,s3,(bH J),dB,aq,(by exact sR hs (by unfold Yv;rw[←Ab,←Aa];assumption))⟩
  omega
 have p0:=dF b0
 refine ex<|aW<|ba<|bh<|cQ<|k<|bd (v:=.agg #[C 0,C 0,C 0,C 0,C 0,.slice none 0 0,C 0,C 0]) J eA (fun _=>aV)<|k<|bA H4 5 J bV J J s1 J J J J ?_
 intro w3 (H5:HI M w w3 (bf++r))
 refine au (v:=.bool false) J J<|av<|rt ?_
 have rl:Jq I U=none:=B2 hs<|by rw[Bo] at p0;omega
 refine iB H5 5 J bV J J J s1 J aw ?_
 have H6:=HI.aQ (l:=bf) (l':=[J6,J2,J3,J4,J7]) (t:=r) H5 [0,1,2,3,4] aw J J
 have e0:(false:Bool)=(sU I U kd).isSome:=by rw[Yu rl];rfl
 try rw[←e0]
 refine⟨0,0,0,0,0,0,0,a0,c0,?_,?_,(by exact uH (Yu rl) OZ)⟩
 · first|rfl|simp only[e0]|(simp only[apk])
 · first|exact H6|simpa +zetaDelta only[e0,apk] using H6
theorem Vq (kD:aK cn) (lY:aK kd) (hT:fY 0 w) (ho:ij I) (dG:I.length≤64) (ey:U.length=I.length) (fP:∀x∈U,x<((I.length:Nat):Int)) (oK:cn=((I.length:Nat):Int)) (qa:cr=cA I U) (hsw:iZ=none∧sw=[]∨sw=eZ I U) (H:HI M w w_ ([box eL #[.slice aC aF aB,R aA I az,R ay U ax,C cn,R dE cr dD,R iZ sw jQ] 80,iL aA I az,iL ay U ax,iL dE cr dD,oL w 26 iZ sw jQ]++r)):Calls aM 38 #[pV eL 0,C kd] w_ (ck fun v w'=>∃(k_:Int) (r_:Int) (a_:Int) (b_:Int) (o_:Int) (f_:Int) (s_:Int) (xz:OA) (xy:Nat),v=.tuple #[.agg #[C k_,C r_,C a_,C b_,C o_,.slice none 0 0,C f_,C s_],.bool ((sV I U kd).isSome)]∧HI M w w' ([box eL #[.slice aC aF aB,R aA I az,R ay U ax,C cn,R dE cr dD,.slice xz (eZ I U).length xy] 80,iL aA I az,iL ay U ax,iL dE cr dD,oL w 26 xz (eZ I U) xy]++r)∧qO (sV I U kd) k_ r_ a_ b_ o_):=by
 refine enter 63 Tryz.func38 J J J fun f0 ha=>?_
 have iE:=bg<|H.rv 1 J
 have kh:=bg<|H.rv 2 J
 have BJ:=bg<|H.rv 3 J
 have YN:=kr<|H.at_ 4 J
 have i0:f0 0=pV eL 0:=ha 0 bm
 have i1:f0 1=C kd:=ha 1 bm
 refine aD<|k<|al H bV ?_
 let J1:=box eL #[.slice aC aF aB,R aA I az,R ay U ax,C cn,R dE cr dD,R iZ sw jQ] 80
 let J2:=iL aA I az
 let J3:=iL ay U ax
 let J4:=iL dE cr dD
 let J5:=oL w 26 iZ sw jQ
 intro aX w0 bY (H0:HI M w w0 ([box aX #[C 0,C 0,C 0,C 0,C 0,.slice none 0 0,C 0,C 0] 33,J1,J2,J3,J4,J5]++r))
 let J0:=box aX #[C 0,C 0,C 0,C 0,C 0,.slice none 0 0,C 0,C 0] 33
 refine au (v:=.bool false) J J<|av<|sq<|aD<|ak J i0<|k ?_
 have H1:HI M w w0 ([J1,J2,J3,J4,J5]++([J0]++r)):=HI.aQ (l:=[J0,J1,J2,J3,J4,J5]) (l':=[J1,J2,J3,J4,J5,J0]) (t:=r) H0 [1,2,3,4,5,0] aw J J
 have bT:=Qq (eL:=eL) (aC:=aC) (aF:=aF) (aB:=aB) (aA:=aA) (az:=az) (I:=I) (ay:=ay) (ax:=ax) (U:=U) (cn:=cn) (dE:=dE) (dD:=dD) (cr:=cr) (iZ:=iZ) (jQ:=jQ) (sw:=sw) (w:=w) (w_:=w0) (r:=([J0]++r)) (M:=M) kD hT (by exact ho) (by exact dG) (by exact ey) (by exact fP) (by exact oK) (by exact qa) aq H1
 refine ca aeW J (ec J e0) bT ?_
 rintro _ w1 ⟨a0,c0,rfl,H2⟩
 let J6:=box eL #[.slice aC aF aB,R aA I az,R ay U ax,C cn,R dE cr dD,R a0 (eZ I U) c0] 80
 let J7:=oL w 26 a0 (eZ I U) c0
 refine k<|dP J J IE<|ak (v:=C 0) J J<|av<|bk ?_
 let bf:=[J6,J2,J3,J4,J7,J0]
 refine lp (fun m f w'=>∃(j_:Nat),m=I.length-j_∧f 0=pV eL 0∧f 1=C kd∧f 4=pV aX 0∧f 13=R a0 (eZ I U) c0∧f 14=C ((eZ I U).length:Int)∧f 15=C (j_:Int)∧HI M w w' (bf++r)∧(j_≤I.length)∧(∀q,q<j_→Jy I U q=false)) _ ⟨0,J,i0,i1,J,J,J,(bH J),H2,aq,(by intro q h;omega)⟩ ?_
 rintro _ f0 w2 ⟨j_,rfl,s0,s1,s2,s3,s4,s5,H4,kb,hs⟩
 refine aD<|k<|lss J J s5 s4<|av<|sq<|cd (b:=decide ((j_:Int)<((eZ I U).length:Int))) J J (fun b0=>?_)<|fun b0=>?_
 ·
  have p0:=dT b0
  refine sk<|nx<|sq<|bk<|aD<|ak J s5<|k<|iC (H4.at_ 4 J) J J s3 s5 aq IE bp ?_
  intro g0 x0 iP aN cB
  refine k<|nI cB bp J J ?_
  intro v0 cm
  obtain⟨_,⟨_,_,rfl,⟨rfl,dN⟩,⟨v1,rfl,dH⟩⟩,rfl⟩:=cm
  obtain⟨a1,c1,rfl,ft⟩:=RS.explicit dH
  let J8:=iL a1 x0.2 c1
  have H5:=H4.put (it:=J8) J<|by exact ft
  refine k<|al H5 bp ?_
  let bZ:=J8::bf
  intro bj w3 cS (H7:HI M w w3 ((box bj #[C 0,.slice none 0 0] 26::bZ)++r))
  refine au (v:=C (j_:Int)) J J<|k<|bA H7 0 J bp J J J J J J J ?_
  let J9:=box bj #[C x0.1,R a1 x0.2 c1] 26
  let eh:=J9::bZ
  intro w4 (H8:HI M w w4 (eh++r))
  refine av<|sq ?_
  obtain⟨HB,Ur⟩:=Pc aN
  have Ab:x0.1=((I.length:Nat):Int):=by rw[Ur]
  have Aa:x0.2=(cY I U (j_:Int)):=by rw[Ur]
  have QS:bL x0.1 x0.2=true:=by rw[Ab,Aa];exact G2 dG HB
  have lk_:=BO ho dG (o:=(j_:Int)) ⟨by omega,by omega⟩
  refine rg<|ak J s0<|k<|nc J J<|aU sl J J<|k<|cC H8 2 J dt J J aw J<|ak (v:=C (j_:Int)) J J<|k ?_
  have df:=C_ (I:=I) (o:=(j_:Int)) (aC:=aC) (aF:=aF) (aB:=aB) (ay:=ay) (dY:=U.length) (ax:=ax) H8.mb (H8.rv 3 J) aS (by exact ho) aq
  refine ca Xn J (ec J<|ec J e0) df ?_
  rintro _ w5 ⟨a2,c2,rfl,fm,iO⟩
  have H9:=H8.eU iO
  let d_:=oL w 3 a2 (bc (fk I) (cF I (j_:Int))) c2
  refine k<|dP J J cw<|ak (v:=C 0) J J<|av<|bk ?_
  let jz:=d_::eh
  refine lp (fun m f w'=>∃(q_:Nat),m=(bc (fk I)<|cF I (j_:Int)).length-q_∧f 0=pV eL 0∧f 1=C kd∧f 4=pV aX 0∧f 6=C (j_:Int)∧f 7=pV bj 0∧f 13=R a0 (eZ I U) c0∧f 14=C ((eZ I U).length:Int)∧f 15=C (j_:Int)∧f 25=R a2 (bc (fk I)<|cF I (j_:Int)) c2∧f 26=C ((bc (fk I)<|cF I (j_:Int)).length:Int)∧f 27=C (q_:Int)∧HI M w w' (jz++r)∧(q_≤(bc (fk I)<|cF I (j_:Int)).length)∧(∀y∈(bc (fk I)<|cF I (j_:Int)).take q_,CV I U ((I.length:Nat):Int) (cY I U (j_:Int)) y=false)) _ ⟨0,J,s0,s1,s2,J,J,s3,s4,s5,J,J,(bH J),H9,aq,(by intro y h;simp at h)⟩ ?_
  rintro _ f1 w6 ⟨q_,rfl,s6,s7,s8,s9,ei,eR,fM,fL,gv,gH,jZ,cT,ajT,gS⟩
  refine aD<|k<|lss J J jZ gH<|av<|sq<|cd (b:=decide ((q_:Int)<((bc (fk I)<|cF I (j_:Int)).length:Int))) J J (fun b1=>?_)<|fun b1=>?_
  ·
   have p1:=dT b1
   refine sk<|nx<|sq<|bk<|aD<|k<|iC (cT.at_ 0 J) J J gv jZ aq cw aT ?_
   intro g1 x1 kT cO gx
   refine k<|kF gx aT J J ?_
   intro jK
   refine au (v:=C x1) J J<|av<|sq ?_
   obtain⟨q2_,ajF⟩:=aa3 cO
   have E7:=JI ho ajF
   refine rg<|ak J s6<|k<|cC cT 1 J bp J ei aw J<|ak (v:=C x1) J J<|k ?_
   have fF:=D_ (I:=I) (cn:=cn) (mn:=x0.1) (mr:=x0.2) (fG:=x1) (w:=w6) (M:=fun _=>False) (fun _ h_=>h_.elim) (hT.ext cT.below) ((cT.rv 4 J).lift (Up.less fun _ _ h_=>h_.elim)) kD dN ((cT.rv 2 J).lift (Up.less fun _ _ h_=>h_.elim)) jK ⟨cT.at_ 3 rfl,fun h_=>h_⟩ (by exact QS) aq
   refine ca Xp J (ec J<|ec J<|ec J e0) fF ?_
   rintro _ w7 ⟨a3,c3,rfl,fg,i'⟩
   have db:=cT.ext fg
   have kN:=(i'.lift<|Up.less fun b _ hb=>cT.mb b hb)
   let eJ:=iL a3 (dy I x0.1 x0.2 x1) c3
   have dq:=db.put (it:=eJ) J kN
   let fQ:=eJ::jz
   have cM:HI M w w7 (fQ++r):=dq
   refine au (v:=R a3 (dy I x0.1 x0.2 x1) c3) J J<|bz<|ak J s6<|k<|nc J J<|aU sl J J<|aU sm J J<|bq cM 4 J qv J J J<|ak (v:=C x1) J J<|k<|ia (cM.rv 6 J) J J J J aq cw aT ?_
   intro iy x2 iY jw
   refine k<|kF jw.w aT J J ?_
   intro nj
   refine k<|eql J J J J<|ak (v:=.bool (decide (x2=(-1)))) J J ?_
   rcases bE (decide (x2=(-1))) with b2|b2
   ·
    have p2:=dT b2
    refine bl J J J b2<|mv (v:=R a3 (dy I x0.1 x0.2 x1) c3) J J<|bl J J J b2<|dP J J cw<|bl J J J b2<|gtr J J J J<|k<|aQ J J J J b2 J<|z<|nx<|cd (b:=decide (0<((dy I x0.1 x0.2 x1).length:Int))) J J (fun b3=>?_)<|fun b3=>?_
    ·
     have p3:=dT b3
     refine aD<|ak J s7<|k ?_
     have fc:=rE (kd:=kd) (w:=w7) lY
     refine ca Gw J (ec J e0) fc ?_
     rintro _ w8 ⟨rfl,jl⟩
     have dR:=cM.ext jl
     refine k<|al dR bV ?_
     intro bK w9 je (dI:HI M w w9 ((box bK #[C 0,C 0,C 0,C 0,C 0,.slice none 0 0,C 0,C 0] 33::fQ)++r))
     refine k<|bA dI 0 J bV J J J J J J J ?_
     let fZ:=box bK #[C kd,C (-1),C (-1),C (-1),C (-1),.slice none 0 0,C (-1),C (-1)] 33
     intro dL (cR:HI M w dL ((fZ::fQ)++r))
     refine av<|sq ?_
     obtain⟨x3,nr⟩:∃x,(dy I x0.1 x0.2 x1)[(0:Int).toNat]? =some x:=⟨_,eB aq⟩
     have fe:HI M w dL ((fZ::fQ)++r):=cR
     let lJ:=[eJ,d_,J9,J8,J6,J2,J3,J4,J7,J0,fZ]
     have fw:HI M w dL (lJ++r):=HI.aQ (l:=(fZ::fQ)) (l':=lJ) (t:=r) fe [1,2,3,4,5,6,7,8,9,10,0] aw J J
     refine XD [none,none,none,none,none,none,some 8,none,some 10,none,none,some 6,none] [0,0,0,4,12,1,33,99,227,511,1023] [fun _=>[],fun _=>[],fun _=>[],fun v_=>[nO (vP v_) x3],fun _=>[],fun _=>[],fun v_=>[box bK #[C kd,C (-1),C (-1),C (-1),C (j_:Int),.slice none 0 0,C (-1),C (-1)] 33],fun _=>[],fun v_=>[box bK #[C kd,C x1,C (-1),C (-1),C (j_:Int),.slice none 0 0,C (-1),C (-1)] 33],fun _=>[],fun v_=>[box bK #[C kd,C x1,C x3,C (-1),C (j_:Int),.slice none 0 0,C (-1),C (-1)] 33],fun _=>[box bK #[C kd,C (-1),C (-1),C (-1),C (-1),.slice none 0 0,C (-1),C (-1)] 33],fun _=>r] [[],[],[],[],[3],[],[11],[],[6],[],[8]] [fun v_=>v_=C (j_:Int),fun v_=>v_=C x1∧aK (x1),fun v_=>v_=R a3 (dy I x0.1 x0.2 x1) c3,fun v_=>∃(mV:Addr),v_=.pointer (some mV),fun v_=>v_=C x3∧aK (x3),fun v_=>v_=pV bK 4,fun _=>True,fun v_=>v_=pV bK 1,fun _=>True,fun v_=>v_=pV bK 2,fun _=>True] [iL a3 (dy I x0.1 x0.2 x1) c3,oL w 3 a2 (bc (fk I)<|cF I (j_:Int)) c2,box bj #[C x0.1,R a1 x0.2 c1] 26,iL a1 x0.2 c1,box eL #[.slice aC aF aB,R aA I az,R ay U ax,C cn,R dE cr dD,R a0 (eZ I U) c0] 80,iL aA I az,iL ay U ax,iL dE cr dD,oL w 26 a0 (eZ I U) c0,box aX #[C 0,C 0,C 0,C 0,C 0,.slice none 0 0,C 0,C 0] 33] J aV J (by show HI _ _ _ ([iL a3 (dy I x0.1 x0.2 x1) c3,oL w 3 a2 (bc (fk I)<|cF I (j_:Int)) c2,box bj #[C x0.1,R a1 x0.2 c1] 26,iL a1 x0.2 c1,box eL #[.slice aC aF aB,R aA I az,R ay U ax,C cn,R dE cr dD,R a0 (eZ I U) c0] 80,iL aA I az,iL ay U ax,iL dE cr dD,oL w 26 a0 (eZ I U) c0,box aX #[C 0,C 0,C 0,C 0,C 0,.slice none 0 0,C 0,C 0] 33]++([box bK #[C kd,C (-1),C (-1),C (-1),C (-1),.slice none 0 0,C (-1),C (-1)] 33]++(r++[])));rw[aql];exact fw) ?_ ?_
     ·
      refine⟨fun f2 jF V_ eG l4 hp0 hq0 gl=>?_,?_⟩
      ·
       have iR:HI M w jF (fQ++eG):=(by have h_:HI M w jF (fQ++(eG)):=gl;exact h_)
       refine mv J ((l4 6 J).trans s9) ?_
       exact⟨_,J,J,iR⟩
      refine⟨fun f3 oU V_ eG Hw Ka JZ mz=>?_,?_⟩
      ·
       have iA:HI M w oU (fQ++eG):=(by have h_:HI M w oU (fQ++(eG)):=mz;exact h_)
       refine mv J (Hw 9 J) ?_
       exact⟨_,J,⟨J,jK⟩,iA⟩
      refine⟨fun f4 wJ V_ eG gS vJ nK kC=>?_,?_⟩
      ·
       have oO:HI M w wJ (fQ++eG):=(by have h_:HI M w wJ (fQ++(eG)):=kC;exact h_)
       refine mv J (gS 10 J) ?_
       exact⟨_,J,J,oO⟩
      refine⟨fun f5 r8 V_ eG AO oJ E9 pE=>?_,?_⟩
      ·
       obtain⟨e0,q0⟩:=oJ 2 _ rfl rfl rfl
       have e1:V_ 2=R a3 (dy I x0.1 x0.2 x1) c3:=q0
       have kl:f5 53=R a3 (dy I x0.1 x0.2 x1) c3:=e0.trans e1
       have lL:HI M w r8 (fQ++eG):=(by have h_:HI M w r8 (fQ++(eG)):=pE;exact h_)
       refine ia (lL.rv 0 J) J J kl J aq cw aT ?_
       intro jo x4 yo rr
       obtain rfl:x3=x4:=apm (nr.symm.trans yo)
       have Ek:=lL.put (it:=nO jo x3) J rr
       have kJ:HI M w r8 ((nO jo x3::fQ)++eG):=Ek
       have wm:=HI.aQ (l:=(nO jo x3::fQ)) (l':=[eJ,d_,J9,J8,J6,J2,J3,J4,J7,J0,nO jo x3]) (t:=eG) kJ [1,2,3,4,5,6,7,8,9,10,0] aw J J
       exact⟨_,J,⟨jo,J⟩,wm⟩
      refine⟨fun f6 tD V_ eG Y3 rO E8 nF=>?_,?_⟩
      ·
       obtain⟨e2,q1⟩:=rO 3 _ rfl rfl rfl
       obtain⟨nD,e3⟩:∃(nD:Addr),V_ 3=.pointer (some nD):=q1
       have ln:f6 54=.pointer (some nD):=e2.trans e3
       have xg:HI M w tD ([iL a3 (dy I x0.1 x0.2 x1) c3,oL w 3 a2 (bc (fk I) (cF I (j_:Int))) c2,box bj #[C x0.1,R a1 x0.2 c1] 26,iL a1 x0.2 c1,box eL #[.slice aC aF aB,R aA I az,R ay U ax,C cn,R dE cr dD,R a0 (eZ I U) c0] 80,iL aA I az,iL ay U ax,iL dE cr dD,oL w 26 a0 (eZ I U) c0,box aX #[C 0,C 0,C 0,C 0,C 0,.slice none 0 0,C 0,C 0] 33,nO nD x3]++eG):=(by have h_:HI M w tD ([iL a3 (dy I x0.1 x0.2 x1) c3,oL w 3 a2 (bc (fk I)<|cF I (j_:Int)) c2,box bj #[C x0.1,R a1 x0.2 c1] 26,iL a1 x0.2 c1,box eL #[.slice aC aF aB,R aA I az,R ay U ax,C cn,R dE cr dD,R a0 (eZ I U) c0] 80,iL aA I az,iL ay U ax,iL dE cr dD,oL w 26 a0 (eZ I U) c0,box aX #[C 0,C 0,C 0,C 0,C 0,.slice none 0 0,C 0,C 0] 33]++([nO (vP<|V_ 3) x3]++(eG))):=nF;rw[e3] at h_;exact h_)
       refine kF (xg.Fq 10 J).w aT J ln ?_
       intro qT
       exact⟨_,J,⟨J,qT⟩,(by have h_:=xg;rw[show (nD:Addr)=(vP<|V_ 3) from by rw[e3]<;>rfl] at h_;exact h_)⟩
      refine⟨fun f7 wI V_ eG hs5 th hq5 xf=>?_,?_⟩
      ·
       have oN:HI M w wI (fQ++eG):=(by have h_:HI M w wI (fQ++(eG)):=xf;exact h_)
       refine fa pg J (hs5 11 J) ?_
       exact⟨_,J,J,oN⟩
      refine⟨fun f8 vk V_ eG hs6 pB hq6 KL=>?_,?_⟩
      ·
       obtain⟨e4,q2⟩:=pB 0 _ rfl rfl rfl
       have e5:V_ 0=C (j_:Int):=q2
       have ll:f8 51=C (j_:Int):=e4.trans e5
       obtain⟨e6,q3⟩:=pB 5 _ rfl rfl rfl
       have e7:V_ 5=pV bK 4:=q3
       have lU:f8 56=pV bK 4:=e6.trans e7
       have VJ:HI M w vk (lJ++eG):=(by have h_:HI M w vk (fQ++([fZ]++(eG))):=KL;exact h_)
       refine bA VJ 10 J aT J J lU ll J J J ?_
       intro CM (VI:HI M w CM ([eJ,d_,J9,J8,J6,J2,J3,J4,J7,J0,box bK #[C kd,C (-1),C (-1),C (-1),C (j_:Int),.slice none 0 0,C (-1),C (-1)] 33]++eG))
       exact⟨undef,J,trivial,VI⟩
      refine⟨fun f9 CL V_ eG hs7 ri hq7 H49=>?_,?_⟩
      ·
       have H50:HI M w CL (fQ++eG):=(by have h_:HI M w CL (fQ++(eG)):=H49;exact h_)
       refine fa so J (hs7 11 J) ?_
       exact⟨_,J,J,H50⟩
      refine⟨fun f10 LD V_ eG Y2 qI hq8 H52=>?_,?_⟩
      ·
       obtain⟨e8,q4⟩:=qI 1 _ rfl rfl rfl
       obtain⟨e9,nR⟩:V_ 1=C x1∧aK (x1):=q4
       have nh:f10 52=C x1:=e8.trans e9
       obtain⟨U1,q5⟩:=qI 7 _ rfl rfl rfl
       have su:V_ 7=pV bK 1:=q5
       have oX:f10 57=pV bK 1:=U1.trans su
       let fI:=box bK #[C kd,C (-1),C (-1),C (-1),C (j_:Int),.slice none 0 0,C (-1),C (-1)] 33
       have H53:HI M w LD ([eJ,d_,J9,J8,J6,J2,J3,J4,J7,J0,fI]++eG):=(by have h_:HI M w LD (fQ++([fI]++(eG))):=H52;exact h_)
       refine bA H53 10 J aT J J oX nh J J J ?_
       intro O2 (H54:HI M w O2 ([eJ,d_,J9,J8,J6,J2,J3,J4,J7,J0,box bK #[C kd,C x1,C (-1),C (-1),C (j_:Int),.slice none 0 0,C (-1),C (-1)] 33]++eG))
       exact⟨undef,J,trivial,H54⟩
      refine⟨fun f11 LC V_ eG hs9 rN hq9 H56=>?_,?_⟩
      ·
       have VH:HI M w LC (fQ++eG):=(by have h_:HI M w LC (fQ++(eG)):=H56;exact h_)
       refine fa qg J (hs9 11 J) ?_
       exact⟨_,J,J,VH⟩
      refine⟨fun f12 O1 V_ eG adT lh an7 Z3=>?_,?_⟩
      ·
       obtain⟨tp,q6⟩:=lh 4 _ rfl rfl rfl
       obtain⟨sr,mA⟩:V_ 4=C x3∧aK (x3):=q6
       have uk:f12 55=C x3:=tp.trans sr
       obtain⟨uc,q7⟩:=lh 9 _ rfl rfl rfl
       have ub:V_ 9=pV bK 2:=q7
       have vo:f12 58=pV bK 2:=uc.trans ub
       let iz:=box bK #[C kd,C x1,C (-1),C (-1),C (j_:Int),.slice none 0 0,C (-1),C (-1)] 33
       have H60:HI M w O1 ([eJ,d_,J9,J8,J6,J2,J3,J4,J7,J0,iz]++eG):=(by have h_:HI M w O1 (fQ++([iz]++(eG))):=Z3;exact h_)
       refine bA H60 10 J aT J J vo uk J J J ?_
       intro SA (H61:HI M w SA ([eJ,d_,J9,J8,J6,J2,J3,J4,J7,J0,box bK #[C kd,C x1,C x3,C (-1),C (j_:Int),.slice none 0 0,C (-1),C (-1)] 33]++eG))
       exact⟨undef,J,trivial,H61⟩
      exact trivial
     ·
      intro f13 w28 V_ adS r6 H63
      obtain⟨e16,q8⟩:=r6 3 _ rfl rfl
      obtain⟨la,e17⟩:∃(la:Addr),V_ 3=.pointer (some la):=q8
      have uj:=(adS 4 J).trans s8
      have tI:f13 11=pV bK 0:=adS 11 J
      have H64:HI M w w28 ([iL a3 (dy I x0.1 x0.2 x1) c3,oL w 3 a2 (bc (fk I) (cF I (j_:Int))) c2,box bj #[C x0.1,R a1 x0.2 c1] 26,iL a1 x0.2 c1,box eL #[.slice aC aF aB,R aA I az,R ay U ax,C cn,R dE cr dD,R a0 (eZ I U) c0] 80,iL aA I az,iL ay U ax,iL dE cr dD,oL w 26 a0 (eZ I U) c0,box aX #[C 0,C 0,C 0,C 0,C 0,.slice none 0 0,C 0,C 0] 33,nO la x3,box bK #[C kd,C x1,C x3,C (-1),C (j_:Int),.slice none 0 0,C (-1),C (-1)] 33]++r):=(by have h_:HI M w w28 ([iL a3 (dy I x0.1 x0.2 x1) c3,oL w 3 a2 (bc (fk I)<|cF I (j_:Int)) c2,box bj #[C x0.1,R a1 x0.2 c1] 26,iL a1 x0.2 c1,box eL #[.slice aC aF aB,R aA I az,R ay U ax,C cn,R dE cr dD,R a0 (eZ I U) c0] 80,iL aA I az,iL ay U ax,iL dE cr dD,oL w 26 a0 (eZ I U) c0,box aX #[C 0,C 0,C 0,C 0,C 0,.slice none 0 0,C 0,C 0] 33]++([]++([]++([]++([nO (vP<|V_ 3) x3]++([]++([]++([]++([]++([box bK #[C kd,C x1,C x3,C (-1),C (j_:Int),.slice none 0 0,C (-1),C (-1)] 33]++(r++([])))))))))))):=H63;rw[e17] at h_;rw[aql] at h_;exact h_)
      refine cQ<|k<|cC H64 11 J bV J tI aw J<|k<|bA H64 9 J bV J J uj J J J J ?_
      let nP:=box aX #[C kd,C x1,C x3,C (-1),C (j_:Int),.slice none 0 0,C (-1),C (-1)] 33
      let lK:=box bK #[C kd,C x1,C x3,C (-1),C (j_:Int),.slice none 0 0,C (-1),C (-1)] 33
      let uE:=[eJ,d_,J9,J8,J6,J2,J3,J4,J7,nP,nO la x3,lK]
      intro w29 (H65:HI M w w29 (uE++r))
      refine au (v:=.bool true) J J<|av<|rt<|bI<|aL<|du<|bI<|bI<|aL<|du<|bI<|aL ?_
      have tg:(bc (fk I) (cF I (j_:Int))).find? (CV I U ((I.length:Nat):Int) (cY I U (j_:Int)))=some x1:=ae' gS cO<|by simp only[CV,←Ab,←Aa,jC aN,jC cO,iY,nr,b0,b1,b2,b3,BL]
      have rl:Jz I U=some j_:=EF hs HB<|acp tg
      refine iB H65 9 J bV J J J uj J aw ?_
      have H66:=HI.aQ (l:=uE) (l':=[J6,J2,J3,J4,J7]) (t:=r) H65 [4,5,6,7,8] aw J J
      have U0:(true:Bool)=(sV I U kd).isSome:=by exact agp rl
      try rw[←U0]
      refine⟨kd,x1,x3,(-1),(j_:Int),(-1),(-1),a0,c0,?_,?_,(by exact ajh lY rl tg aq bu (by rw[←Ab,←Aa];assumption) (N4 QS ‹_›))⟩
      · first|rfl|simp only[U0]|(simp only[apk])
      · first|exact H66|simpa +zetaDelta only[U0,apk] using H66
    have p3:=dF b3
    refine sk<|aH<|nx<|rg<|k<|add J J jZ J aS<|ak (v:=C ((q_:Int)+1)) J J<|z ?_
    have dR:HI M w w7 (jz++r):=HI.aQ (l:=fQ) (l':=jz) (t:=r) cM [1,2,3,4,5,6,7,8,9] aw J J
    refine bB _ ?_ ⟨(q_+1),J,s6,s7,s8,s9,ei,eR,fM,fL,gv,gH,(bH J),dR,aq,(by exact ZF gS cO (by simp only[CV,←Ab,←Aa,jC aN,jC cO,iY,b0,b1,b2,b3,BL]))⟩
    omega
   have p2:=dF b2
   refine aZ J J J b2<|aZ J J J b2<|aZ J J J b2<|k<|cU J J J J b2 J<|av<|nB J J J<|sk<|aH<|nx<|rg<|k<|add J J jZ J aS<|ak (v:=C ((q_:Int)+1)) J J<|z ?_
   have dR:HI M w w7 (jz++r):=HI.aQ (l:=fQ) (l':=jz) (t:=r) cM [1,2,3,4,5,6,7,8,9] aw J J
   refine bB _ ?_ ⟨(q_+1),J,s6,s7,s8,s9,ei,eR,fM,fL,gv,gH,(bH J),dR,aq,(by exact ZF gS cO (by simp only[CV,←Ab,←Aa,jC aN,jC cO,iY,b0,b1,b2,BL]))⟩
   omega
  have p1:=dF b1
  refine ex<|aW<|ba<|bh<|aH<|nx<|rg<|k<|add J J fL J aS<|ak (v:=C ((j_:Int)+1)) J J<|z ?_
  have db:HI M w w6 (bf++r):=HI.aQ (l:=jz) (l':=bf) (t:=r) cT [3,4,5,6,7,8] aw J J
  refine bB _ ?_ ⟨(j_+1),J,s6,s7,s8,eR,fM,(bH J),db,aq,(by exact sR hs (aap<|afa gS<|by unfold l3;omega))⟩
  omega
 have p0:=dF b0
 refine ex<|aW<|ba<|bh<|cQ<|k<|bd (v:=.agg #[C 0,C 0,C 0,C 0,C 0,.slice none 0 0,C 0,C 0]) J eA (fun _=>aV)<|k<|bA H4 5 J bV J J s2 J J J J ?_
 intro w3 (H5:HI M w w3 (bf++r))
 refine au (v:=.bool false) J J<|av<|rt ?_
 have rl:Jz I U=none:=B2 hs<|by rw[Bo] at p0;omega
 refine iB H5 5 J bV J J J s2 J aw ?_
 have H6:=HI.aQ (l:=bf) (l':=[J6,J2,J3,J4,J7]) (t:=r) H5 [0,1,2,3,4] aw J J
 have e0:(false:Bool)=(sV I U kd).isSome:=by rw[Yx rl];rfl
 try rw[←e0]
 refine⟨0,0,0,0,0,0,0,a0,c0,?_,?_,(by exact uH (Yx rl) OZ)⟩
 · first|rfl|simp only[e0]|(simp only[apk])
 · first|exact H6|simpa +zetaDelta only[e0,apk] using H6
theorem ae1:cD aM 31:=cE Tryz.func31
theorem RO:cD aM 32:=cE Tryz.func32
theorem FG:aM.underlying 82=some (.slice 81):=aV
theorem tE:ez aM 81 1 false 8 (.nilFunc):=⟨aV,aV⟩
theorem akP:cD aM 33:=cE Tryz.func33
theorem akO:cD aM 34:=cE Tryz.func34
theorem akN:cD aM 35:=cE Tryz.func35
theorem akM:cD aM 36:=cE Tryz.func36
theorem akL:cD aM 37:=cE Tryz.func37
theorem akK:cD aM 38:=cE Tryz.func38
theorem akJ:cD aM 39:=cE Tryz.func39
theorem NU (hM:eC M w) (hT:fY 0 w) (cW:cz M w aA az I) (fC:cz M w ay ax U) (pO:aK lv) (ho:ij I) (dG:I.length≤64) (ey:U.length=I.length) (fP:∀x∈U,x<((I.length:Nat):Int)) (HA:lv=1∨lv=2∨lv=3):Calls aM 16 #[.agg #[.slice aC aF aB,R aA I az,R ay U ax],C lv] w (ck fun v w'=>∃(k_:Int) (r_:Int) (a_:Int) (b_:Int) (o_:Int) (f_:Int) (s_:Int),v=.tuple #[.agg #[C k_,C r_,C a_,C b_,C o_,.slice none 0 0,C f_,C s_],C (fh I U lv)]∧Ext w w'∧qO (iU I U lv) k_ r_ a_ b_ o_):=by
 refine dv 57 Tryz.func16 J J J hM fun f0 ha H=>?_
 let J0:=iL aA I az
 have H0:=H.put (it:=J0) J<|by rw[bQ];exact cW
 let J1:=iL ay U ax
 have H1:=H0.put (it:=J1) J<|by rw[aG rfl,bQ];exact fC
 have iE:=bg cW
 have kh:=bg fC
 have i0:f0 0=.agg #[.slice aC aF aB,R aA I az,R ay U ax]:=ha 0 bm
 have i1:f0 1=C lv:=ha 1 bm
 have lq:bL ((I.length:Nat):Int) (cA I U)=true:=pS U aq
 have ajR:=TU (lv:=lv)
 refine aD<|k<|bx H1 J i0 ?_
 let bf:=[J1,J0]
 intro aX w0 bY (H2:HI M w w0 (box aX #[.slice aC aF aB,R aA I az,R ay U ax] 47::bf))
 let J2:=box aX #[.slice aC aF aB,R aA I az,R ay U ax] 47
 refine k<|al H2 bV ?_
 let bZ:=J2::bf
 intro bj w1 cS (H3:HI M w w1 (box bj #[C 0,C 0,C 0,C 0,C 0,.slice none 0 0,C 0,C 0] 33::bZ))
 let J3:=box bj #[C 0,C 0,C 0,C 0,C 0,.slice none 0 0,C 0,C 0] 33
 refine au (v:=C 0) J J<|bz<|ak J i1<|k ?_
 have bT:=KC (lv:=lv) H3.mb pO
 refine ca ae1 J (ec J e0) bT ?_
 rintro _ w2 ⟨a0,c0,rfl,fm,cm⟩
 have H4:=H3.eU cm
 refine au (v:=R a0 (eb lv) c0) J J<|av<|sq<|aD<|ak (v:=R a0 (eb lv) c0) J J<|k<|UR J J J J cw<|av<|nB J J (Bool.eq_false_iff.2 fun h_=>WY HA (Pn (H4.at_ 0 J) h_))<|sk<|nx<|sq<|mw [.r,.r,.r,.r,.e,.e] (fun _=>True) J aV (fun _ _=>trivial)<|yq J J<|kq (fun _ x_=>cC (H4.ext x_) 2 J dt J J aw J e1)<|bS<|kq (fun _ x_=>cC (H4.ext x_) 2 J dt J J aw J e1)<|zq<|yu J (fun _ v w'=>∃(a1:OA) (c1:Nat),v=.agg #[C (I.length:Int),R a1 (cA I U) c1]∧RV H4.eI w' (R a1 (cA I U) c1) (cA I U)) J oA J (fun v_ _ x_ _=>have fF:=B8 (I:=I) (U:=U) (aC:=aC) (aF:=aF) (aB:=aB) (w:=v_) (H4.ext x_).mb ((H4.ext x_).rv 4 rfl) ((H4.ext x_).rv 3 rfl) (by exact ho) aq (by exact ey) (by exact fP);ca RO rfl (ec J e0) fF (fun _ w4 ⟨a2,c2,e_,jl,dH⟩=>⟨_,J,jl,⟨a2,c2,e_,dH⟩⟩))<|lP J (fun _ v w'=>∃(a3:OA) (c3:Nat),v=.agg #[.slice aC aF aB,R aA I az,R ay U ax,C (I.length:Int),R a3 (cA I U) c3,.slice none 0 0]∧RV H4.eI w' (R a3 (cA I U) c3) (cA I U)) 0 J J oA J (fun _ _ _ _ _ h_=>let ⟨a4,c4,s0,iO⟩:=h_;bd (v:=.agg #[.slice aC aF aB,R aA I az,R ay U ax,C (I.length:Int),R a4 (cA I U) c4,.slice none 0 0]) rfl (ct J<|ct s0 eA) (fun _=>aV) ⟨_,J,Ext.refl _,⟨a4,c4,J,iO⟩⟩)<|ye<|ye<|yz ?_
 intro w5 f0 _ je _ _ cG jc
 have db:=H4.ext je
 have s1:=cG 4 J
 have s2:=cG 6 J
 obtain⟨a5,c5,s3,jK⟩:=jc 0 _ _ rfl
 let J4:=iL a5 (cA I U) c5
 have dq:=db.put (it:=J4) J jK
 refine km<|bx dq J s3 ?_
 let J5:=oL w 3 a0 (eb lv) c0
 let eh:=J4::J5::J3::bZ
 intro bK w6 jE (cM:HI M w w6 (box bK #[.slice aC aF aB,R aA I az,R ay U ax,C (I.length:Int),R a5 (cA I U) c5,.slice none 0 0] 80::eh))
 refine km<|jV (v:=pV bK 0) J J<|kz<|cQ<|ak (v:=pV bK 0) J J<|k<|ME J J<|ak (v:=pV bK 0) J J<|k<|ME J J<|ak (v:=pV bK 0) J J<|k<|ME J J<|ak (v:=pV bK 0) J J<|k<|ME J J<|ak (v:=pV bK 0) J J<|k<|ME J J<|ak (v:=pV bK 0) J J<|k<|ME J J<|ak (v:=pV bK 0) J J<|k<|ME J J<|k<|bsB (cells:=#[.nilFunc,.func (.func 33) #[pV bK 0] #[],.func (.func 34) #[pV bK 0] #[],.func (.func 35) #[pV bK 0] #[],.func (.func 36) #[pV bK 0] #[],.func (.func 37) #[pV bK 0] #[],.func (.func 38) #[pV bK 0] #[],.func (.func 39) #[pV bK 0] #[]]) (e:=81) cM J (ct J<|ct J<|ct J<|ct J<|ct J<|ct J<|ct J<|ct J eA) (fun _=>aV) ?_
 intro g0 w7 lk (dR:HI M w w7 (box g0 #[.nilFunc,.func (.func 33) #[pV bK 0] #[],.func (.func 34) #[pV bK 0] #[],.func (.func 35) #[pV bK 0] #[],.func (.func 36) #[pV bK 0] #[],.func (.func 37) #[pV bK 0] #[],.func (.func 38) #[pV bK 0] #[],.func (.func 39) #[pV bK 0] #[]] 81::box bK #[.slice aC aF aB,R aA I az,R ay U ax,C (I.length:Int),R a5 (cA I U) c5,.slice none 0 0] 80::eh))
 let J6:=box g0 #[.nilFunc,.func (.func 33) #[pV bK 0] #[],.func (.func 34) #[pV bK 0] #[],.func (.func 35) #[pV bK 0] #[],.func (.func 36) #[pV bK 0] #[],.func (.func 37) #[pV bK 0] #[],.func (.func 38) #[pV bK 0] #[],.func (.func 39) #[pV bK 0] #[]] 81
 refine au (v:=.slice (some ⟨g0,0,none⟩) 8 8) J J<|av<|sq<|aD<|ak J s2<|k<|dP J J cw<|ak (v:=C 0) J J<|av<|bk ?_
 have dI:=dR.qZ (Int×(List<|List bw)) 26
 refine lp (fun m f w'=>∃(j_:Nat) (jm:List (Int×(List<|List bw))) (a6:OA) (c6:Nat),m=(eb lv).length-j_∧f 4=pV bj 0∧f 7=pV bK 0∧f 8=.slice (some ⟨g0,0,none⟩) 8 8∧f 38=R a0 (eb lv) c0∧f 39=C ((eb lv).length:Int)∧f 40=C (j_:Int)∧HI M w w' (oL w 26 a6 jm c6::J6::box bK #[.slice aC aF aB,R aA I az,R ay U ax,C (I.length:Int),R a5 (cA I U) c5,R a6 jm c6] 80::eh)∧(j_≤(eb lv).length)∧(a6=none∧jm=[]∨jm=eZ I U)∧(∀y∈(eb lv).take j_,ko I U y=none)) _ ⟨0,([]:List (Int×(List<|List bw))),none,0,J,s1,J,J,J,J,(bH J),dI,aq,(by exact Or.inl ⟨J,J⟩),(by intro y h;simp at h)⟩ ?_
 rintro _ f1 w8 ⟨j_,jm,a6,c6,rfl,s4,s5,s6,s7,s8,s9,cR,kb,Ga,hs⟩
 refine aD<|k<|lss J J s9 s8<|av<|sq<|cd (b:=decide ((j_:Int)<((eb lv).length:Int))) J J (fun b0=>?_)<|fun b0=>?_
 ·
  have p0:=dT b0
  refine sk<|nx<|sq<|bk<|aD<|k<|iC (cR.at_ 4 J) J J s7 s9 aq cw aT ?_
  intro g1 x0 iP aN cB
  refine k<|kF cB aT J J ?_
  intro i'
  refine au (v:=C x0) J J<|av<|sq ?_
  rcases (show x0=1∨x0=2∨x0=3∨x0=4∨x0=5∨x0=6∨x0=7 from by exact MO (dO aN)) with rfl|rfl|rfl|rfl|rfl|rfl|rfl
  ·
   refine rg<|ak J s6<|ak (v:=C 1) J J<|k<|MW J J J J 1 J aw FG tE<|bq cR 1 J tE J J J<|ak (v:=C 1) J J<|k ?_
   have fc:=X7 (I:=I) (U:=U) (cn:=(I.length:Int)) (cr:=(cA I U)) (kd:=1) (w:=w8) (M:=fun _=>False) (fun _ h_=>h_.elim) ((cR.rv 8 J).lift (Up.less fun _ _ h_=>h_.elim)) ((cR.rv 7 J).lift (Up.less fun _ _ h_=>h_.elim)) aS ((cR.rv 3 J).lift (Up.less fun _ _ h_=>h_.elim)) bu ⟨cR.at_ 2 rfl,fun h_=>h_⟩
   refine NJ akP J J J (ec J e0) fc ?_
   rintro _ w9 ⟨o0,o1,o2,o3,o4,o5,o6,rfl,lj,q0⟩
   have dX:=cR.ext lj
   refine ak (v:=.tuple #[.agg #[C o0,C o1,C o2,C o3,C o4,.slice none 0 0,C o5,C o6],.bool ((pG U 1).isSome)]) J J<|k<|xt J J J<|k<|xt J J J<|k<|al dX bV ?_
   let J7:=box bK #[.slice aC aF aB,R aA I az,R ay U ax,C (I.length:Int),R a5 (cA I U) c5,R a6 jm c6] 80
   let jz:=oL w 26 a6 jm c6::J6::J7::eh
   intro fj dL sT (dV:HI M w dL (box fj #[C 0,C 0,C 0,C 0,C 0,.slice none 0 0,C 0,C 0] 33::jz))
   refine k<|bA dV 0 J bV J J J J J J J ?_
   let J8:=box fj #[C o0,C o1,C o2,C o3,C o4,.slice none 0 0,C o5,C o6] 33
   intro ew (cJ:HI M w ew (J8::jz))
   refine au (v:=.bool ((pG U 1).isSome)) J J<|bz<|ak (v:=.bool ((pG U 1).isSome)) J J<|z<|nx<|cd (b:=(pG U 1).isSome) J J (fun b1=>?_)<|fun b1=>?_
   ·
    refine aD<|k<|cC cJ 0 J bV J J aw J<|k<|bA cJ 6 J bV J J s4 J J J J ?_
    intro fq (ef:HI M w fq [J8,oL w 26 a6 jm c6,J6,J7,J4,J5,box bj #[C o0,C o1,C o2,C o3,C o4,.slice none 0 0,C o5,C o6] 33,J2,J1,J0])
    refine au (v:=C 0) J J<|av<|rt<|bI<|aL<|du<|bI<|aL<|iB ef 6 J bV J J J s4 J aw ?_
    have e8:(0:Int)=fh I U lv:=by exact sS (ob hs aN Wv bu) bu
    have bt:=iD (fun (lQ:Int)=>(.tuple #[.agg #[C o0,C o1,C o2,C o3,C o4,.slice none 0 0,C o5,C o6],C lQ]:Value)) e8
    exact⟨o0,o1,o2,o3,o4,o5,o6,bt,ef.below,(by exact xN (ob hs aN Wv bu) bu)⟩
   refine sk<|aH<|nx<|rg<|k<|add J J s9 J aS<|ak (v:=C ((j_:Int)+1)) J J<|z ?_
   have ef:=cJ.put (it:=J4) J<|cJ.rv 4 J
   have dA:=ef.put (it:=J1) J<|ef.rv 9 J
   have fe:=dA.put (it:=J0) J<|dA.rv 11 J
   have fw:HI M w ew jz:=fe.bX [4,5,6,2,8,9,10,1,0] aw J
   refine bB _ ?_ ⟨(j_+1),jm,a6,c6,J,s4,s5,s6,s7,s8,(bH J),fw,aq,(by exact Ga),(by exact Bv hs aN Wv bu)⟩
   omega
  ·
   refine rg<|ak J s6<|ak (v:=C 2) J J<|k<|MW J J J J 2 J aw FG tE<|bq cR 1 J tE J J J<|ak (v:=C 2) J J<|k ?_
   have fc:=Vs (cn:=(I.length:Int)) (cr:=(cA I U)) (kd:=2) (w:=w8) (M:=fun _=>False) (fun _ h_=>h_.elim) aS ((cR.rv 3 J).lift (Up.less fun _ _ h_=>h_.elim)) bu ⟨cR.at_ 2 rfl,fun h_=>h_⟩<|by exact lq
   refine NJ akO J J J (ec J e0) fc ?_
   rintro _ w9 ⟨o0,o1,o2,o3,o4,o5,o6,rfl,lj,q0⟩
   have dX:=cR.ext lj
   refine ak (v:=.tuple #[.agg #[C o0,C o1,C o2,C o3,C o4,.slice none 0 0,C o5,C o6],.bool ((kn (I.length:Int) (cA I U) 2).isSome)]) J J<|k<|xt J J J<|k<|xt J J J<|k<|al dX bV ?_
   let J9:=box bK #[.slice aC aF aB,R aA I az,R ay U ax,C (I.length:Int),R a5 (cA I U) c5,R a6 jm c6] 80
   let fQ:=oL w 26 a6 jm c6::J6::J9::eh
   intro fj dL sT (dV:HI M w dL (box fj #[C 0,C 0,C 0,C 0,C 0,.slice none 0 0,C 0,C 0] 33::fQ))
   refine k<|bA dV 0 J bV J J J J J J J ?_
   let d_:=box fj #[C o0,C o1,C o2,C o3,C o4,.slice none 0 0,C o5,C o6] 33
   intro ew (cJ:HI M w ew (d_::fQ))
   refine au (v:=.bool ((kn (I.length:Int) (cA I U) 2).isSome)) J J<|bz<|ak (v:=.bool ((kn (I.length:Int) (cA I U) 2).isSome)) J J<|z<|nx<|cd (b:=(kn (I.length:Int) (cA I U) 2).isSome) J J (fun b1=>?_)<|fun b1=>?_
   ·
    refine aD<|k<|cC cJ 0 J bV J J aw J<|k<|bA cJ 6 J bV J J s4 J J J J ?_
    intro fq (ef:HI M w fq [d_,oL w 26 a6 jm c6,J6,J9,J4,J5,box bj #[C o0,C o1,C o2,C o3,C o4,.slice none 0 0,C o5,C o6] 33,J2,J1,J0])
    refine au (v:=C 0) J J<|av<|rt<|bI<|aL<|du<|bI<|aL<|iB ef 6 J bV J J J s4 J aw ?_
    have e8:(0:Int)=fh I U lv:=by exact sS (ob hs aN Wu bu) bu
    have bt:=iD (fun (lQ:Int)=>(.tuple #[.agg #[C o0,C o1,C o2,C o3,C o4,.slice none 0 0,C o5,C o6],C lQ]:Value)) e8
    exact⟨o0,o1,o2,o3,o4,o5,o6,bt,ef.below,(by exact xN (ob hs aN Wu bu) bu)⟩
   refine sk<|aH<|nx<|rg<|k<|add J J s9 J aS<|ak (v:=C ((j_:Int)+1)) J J<|z ?_
   have ef:=cJ.put (it:=J4) J<|cJ.rv 4 J
   have dA:=ef.put (it:=J1) J<|ef.rv 9 J
   have fe:=dA.put (it:=J0) J<|dA.rv 11 J
   have fw:HI M w ew fQ:=fe.bX [4,5,6,2,8,9,10,1,0] aw J
   refine bB _ ?_ ⟨(j_+1),jm,a6,c6,J,s4,s5,s6,s7,s8,(bH J),fw,aq,(by exact Ga),(by exact Bv hs aN Wu bu)⟩
   omega
  ·
   refine rg<|ak J s6<|ak (v:=C 3) J J<|k<|MW J J J J 3 J aw FG tE<|bq cR 1 J tE J J J<|ak (v:=C 3) J J<|k ?_
   have fc:=Vr (I:=I) (U:=U) (cn:=(I.length:Int)) (cr:=(cA I U)) (kd:=3) (w:=w8) (M:=fun _=>False) (fun _ h_=>h_.elim) (hT.ext cR.below) ((cR.rv 8 J).lift (Up.less fun _ _ h_=>h_.elim)) ((cR.rv 7 J).lift (Up.less fun _ _ h_=>h_.elim)) aS ((cR.rv 3 J).lift (Up.less fun _ _ h_=>h_.elim)) bu ⟨cR.at_ 2 rfl,fun h_=>h_⟩ (by exact lq)<|by exact ey
   refine NJ akN J J J (ec J e0) fc ?_
   rintro _ w9 ⟨o0,o1,o2,o3,o4,o5,o6,rfl,lj,q0⟩
   have dX:=cR.ext lj
   refine ak (v:=.tuple #[.agg #[C o0,C o1,C o2,C o3,C o4,.slice none 0 0,C o5,C o6],.bool ((qC I U (I.length:Int) (cA I U) 3).isSome)]) J J<|k<|xt J J J<|k<|xt J J J<|k<|al dX bV ?_
   let eJ:=box bK #[.slice aC aF aB,R aA I az,R ay U ax,C (I.length:Int),R a5 (cA I U) c5,R a6 jm c6] 80
   let lJ:=oL w 26 a6 jm c6::J6::eJ::eh
   intro fj dL sT (dV:HI M w dL (box fj #[C 0,C 0,C 0,C 0,C 0,.slice none 0 0,C 0,C 0] 33::lJ))
   refine k<|bA dV 0 J bV J J J J J J J ?_
   let fZ:=box fj #[C o0,C o1,C o2,C o3,C o4,.slice none 0 0,C o5,C o6] 33
   intro ew (cJ:HI M w ew (fZ::lJ))
   refine au (v:=.bool ((qC I U (I.length:Int) (cA I U) 3).isSome)) J J<|bz<|ak (v:=.bool ((qC I U (I.length:Int) (cA I U) 3).isSome)) J J<|z<|nx<|cd (b:=(qC I U (I.length:Int) (cA I U) 3).isSome) J J (fun b1=>?_)<|fun b1=>?_
   ·
    refine aD<|k<|cC cJ 0 J bV J J aw J<|k<|bA cJ 6 J bV J J s4 J J J J ?_
    intro fq (ef:HI M w fq [fZ,oL w 26 a6 jm c6,J6,eJ,J4,J5,box bj #[C o0,C o1,C o2,C o3,C o4,.slice none 0 0,C o5,C o6] 33,J2,J1,J0])
    refine au (v:=C 0) J J<|av<|rt<|bI<|aL<|du<|bI<|aL<|iB ef 6 J bV J J J s4 J aw ?_
    have e8:(0:Int)=fh I U lv:=by exact sS (ob hs aN Ws bu) bu
    have bt:=iD (fun (lQ:Int)=>(.tuple #[.agg #[C o0,C o1,C o2,C o3,C o4,.slice none 0 0,C o5,C o6],C lQ]:Value)) e8
    exact⟨o0,o1,o2,o3,o4,o5,o6,bt,ef.below,(by exact xN (ob hs aN Ws bu) bu)⟩
   refine sk<|aH<|nx<|rg<|k<|add J J s9 J aS<|ak (v:=C ((j_:Int)+1)) J J<|z ?_
   have ef:=cJ.put (it:=J4) J<|cJ.rv 4 J
   have dA:=ef.put (it:=J1) J<|ef.rv 9 J
   have fe:=dA.put (it:=J0) J<|dA.rv 11 J
   have fw:HI M w ew lJ:=fe.bX [4,5,6,2,8,9,10,1,0] aw J
   refine bB _ ?_ ⟨(j_+1),jm,a6,c6,J,s4,s5,s6,s7,s8,(bH J),fw,aq,(by exact Ga),(by exact Bv hs aN Ws bu)⟩
   omega
  ·
   refine rg<|ak J s6<|ak (v:=C 4) J J<|k<|MW J J J J 4 J aw FG tE<|bq cR 1 J tE J J J<|ak (v:=C 4) J J<|k ?_
   have fc:=OT (I:=I) (U:=U) (cn:=(I.length:Int)) (cr:=(cA I U)) (kd:=4) (w:=w8) (M:=fun _=>False) (fun _ h_=>h_.elim) (hT.ext cR.below) ((cR.rv 8 J).lift (Up.less fun _ _ h_=>h_.elim)) ((cR.rv 7 J).lift (Up.less fun _ _ h_=>h_.elim)) aS ((cR.rv 3 J).lift (Up.less fun _ _ h_=>h_.elim)) bu ⟨cR.at_ 2 rfl,fun h_=>h_⟩ (by exact lq)<|by exact ey
   refine NJ akM J J J (ec J e0) fc ?_
   rintro _ w9 ⟨o0,o1,o2,o3,o4,o5,o6,rfl,lj,q0⟩
   have dX:=cR.ext lj
   refine ak (v:=.tuple #[.agg #[C o0,C o1,C o2,C o3,C o4,.slice none 0 0,C o5,C o6],.bool ((qD I U (I.length:Int) (cA I U) 4).isSome)]) J J<|k<|xt J J J<|k<|xt J J J<|k<|al dX bV ?_
   let fI:=box bK #[.slice aC aF aB,R aA I az,R ay U ax,C (I.length:Int),R a5 (cA I U) c5,R a6 jm c6] 80
   let uE:=oL w 26 a6 jm c6::J6::fI::eh
   intro fj dL sT (dV:HI M w dL (box fj #[C 0,C 0,C 0,C 0,C 0,.slice none 0 0,C 0,C 0] 33::uE))
   refine k<|bA dV 0 J bV J J J J J J J ?_
   let iz:=box fj #[C o0,C o1,C o2,C o3,C o4,.slice none 0 0,C o5,C o6] 33
   intro ew (cJ:HI M w ew (iz::uE))
   refine au (v:=.bool ((qD I U (I.length:Int) (cA I U) 4).isSome)) J J<|bz<|ak (v:=.bool ((qD I U (I.length:Int) (cA I U) 4).isSome)) J J<|z<|nx<|cd (b:=(qD I U (I.length:Int) (cA I U) 4).isSome) J J (fun b1=>?_)<|fun b1=>?_
   ·
    refine aD<|k<|cC cJ 0 J bV J J aw J<|k<|bA cJ 6 J bV J J s4 J J J J ?_
    intro fq (ef:HI M w fq [iz,oL w 26 a6 jm c6,J6,fI,J4,J5,box bj #[C o0,C o1,C o2,C o3,C o4,.slice none 0 0,C o5,C o6] 33,J2,J1,J0])
    refine au (v:=C 0) J J<|av<|rt<|bI<|aL<|du<|bI<|aL<|iB ef 6 J bV J J J s4 J aw ?_
    have e8:(0:Int)=fh I U lv:=by exact sS (ob hs aN Wr bu) bu
    have bt:=iD (fun (lQ:Int)=>(.tuple #[.agg #[C o0,C o1,C o2,C o3,C o4,.slice none 0 0,C o5,C o6],C lQ]:Value)) e8
    exact⟨o0,o1,o2,o3,o4,o5,o6,bt,ef.below,(by exact xN (ob hs aN Wr bu) bu)⟩
   refine sk<|aH<|nx<|rg<|k<|add J J s9 J aS<|ak (v:=C ((j_:Int)+1)) J J<|z ?_
   have ef:=cJ.put (it:=J4) J<|cJ.rv 4 J
   have dA:=ef.put (it:=J1) J<|ef.rv 9 J
   have fe:=dA.put (it:=J0) J<|dA.rv 11 J
   have fw:HI M w ew uE:=fe.bX [4,5,6,2,8,9,10,1,0] aw J
   refine bB _ ?_ ⟨(j_+1),jm,a6,c6,J,s4,s5,s6,s7,s8,(bH J),fw,aq,(by exact Ga),(by exact Bv hs aN Wr bu)⟩
   omega
  ·
   refine rg<|ak J s6<|ak (v:=C 5) J J<|k<|MW J J J J 5 J aw FG tE<|bq cR 1 J tE J J J<|ak (v:=C 5) J J<|k ?_
   have fc:=NT (I:=I) (U:=U) (cn:=(I.length:Int)) (cr:=(cA I U)) (kd:=5) (w:=w8) (M:=fun _=>False) (fun _ h_=>h_.elim) (hT.ext cR.below) ((cR.rv 8 J).lift (Up.less fun _ _ h_=>h_.elim)) ((cR.rv 7 J).lift (Up.less fun _ _ h_=>h_.elim)) aS ((cR.rv 3 J).lift (Up.less fun _ _ h_=>h_.elim)) bu ⟨cR.at_ 2 rfl,fun h_=>h_⟩ (by exact ho) (by exact dG) (by exact ey) (by exact fP) aq<|by rfl
   refine NJ akL J J J (ec J e0) fc ?_
   rintro _ w9 ⟨o0,o1,o2,o3,o4,o5,o6,rfl,lj,q0⟩
   have dX:=cR.ext lj
   refine ak (v:=.tuple #[.agg #[C o0,C o1,C o2,C o3,C o4,.slice none 0 0,C o5,C o6],.bool ((kn ((I.length:Nat):Int) (A4 I U) 5).isSome)]) J J<|k<|xt J J J<|k<|xt J J J<|k<|al dX bV ?_
   let nP:=box bK #[.slice aC aF aB,R aA I az,R ay U ax,C (I.length:Int),R a5 (cA I U) c5,R a6 jm c6] 80
   let Ec:=oL w 26 a6 jm c6::J6::nP::eh
   intro fj dL sT (dV:HI M w dL (box fj #[C 0,C 0,C 0,C 0,C 0,.slice none 0 0,C 0,C 0] 33::Ec))
   refine k<|bA dV 0 J bV J J J J J J J ?_
   let lK:=box fj #[C o0,C o1,C o2,C o3,C o4,.slice none 0 0,C o5,C o6] 33
   intro ew (cJ:HI M w ew (lK::Ec))
   refine au (v:=.bool ((kn ((I.length:Nat):Int) (A4 I U) 5).isSome)) J J<|bz<|ak (v:=.bool ((kn ((I.length:Nat):Int) (A4 I U) 5).isSome)) J J<|z<|nx<|cd (b:=(kn ((I.length:Nat):Int) (A4 I U) 5).isSome) J J (fun b1=>?_)<|fun b1=>?_
   ·
    refine aD<|k<|cC cJ 0 J bV J J aw J<|k<|bA cJ 6 J bV J J s4 J J J J ?_
    intro fq (ef:HI M w fq [lK,oL w 26 a6 jm c6,J6,nP,J4,J5,box bj #[C o0,C o1,C o2,C o3,C o4,.slice none 0 0,C o5,C o6] 33,J2,J1,J0])
    refine au (v:=C 0) J J<|av<|rt<|bI<|aL<|du<|bI<|aL<|iB ef 6 J bV J J J s4 J aw ?_
    have e8:(0:Int)=fh I U lv:=by exact sS (ob hs aN Wq bu) bu
    have bt:=iD (fun (lQ:Int)=>(.tuple #[.agg #[C o0,C o1,C o2,C o3,C o4,.slice none 0 0,C o5,C o6],C lQ]:Value)) e8
    exact⟨o0,o1,o2,o3,o4,o5,o6,bt,ef.below,(by exact xN (ob hs aN Wq bu) bu)⟩
   refine sk<|aH<|nx<|rg<|k<|add J J s9 J aS<|ak (v:=C ((j_:Int)+1)) J J<|z ?_
   have ef:=cJ.put (it:=J4) J<|cJ.rv 4 J
   have dA:=ef.put (it:=J1) J<|ef.rv 9 J
   have fe:=dA.put (it:=J0) J<|dA.rv 11 J
   have fw:HI M w ew Ec:=fe.bX [4,5,6,2,8,9,10,1,0] aw J
   refine bB _ ?_ ⟨(j_+1),jm,a6,c6,J,s4,s5,s6,s7,s8,(bH J),fw,aq,(by exact Ga),(by exact Bv hs aN Wq bu)⟩
   omega
  ·
   refine rg<|ak J s6<|ak (v:=C 6) J J<|k<|MW J J J J 6 J aw FG tE<|bq cR 1 J tE J J J<|ak (v:=C 6) J J<|k ?_
   have dX:HI M w w8 ([box bK #[.slice aC aF aB,R aA I az,R ay U ax,C (I.length:Int),R a5 (cA I U) c5,R a6 jm c6] 80,J0,J1,J4,oL w 26 a6 jm c6]++[J6,J5,J3,J2]):=cR.bX [2,8,7,3,0,1,4,5,6] aw J
   have fc:=Vq (eL:=bK) (aC:=aC) (aF:=aF) (aB:=aB) (aA:=aA) (az:=az) (I:=I) (ay:=ay) (ax:=ax) (U:=U) (cn:=(I.length:Int)) (dE:=a5) (dD:=c5) (cr:=(cA I U)) (iZ:=a6) (jQ:=c6) (sw:=jm) (kd:=6) (w:=w) (w_:=w8) (r:=[J6,J5,J3,J2]) (M:=M) aS bu hT (by exact ho) (by exact dG) (by exact ey) (by exact fP) aq (by rfl) (by exact Ga) dX
   refine NJ akK J J J (ec J e0) fc ?_
   rintro _ w9 ⟨o0,o1,o2,o3,o4,o5,o6,a7,c7,rfl,dV,q0⟩
   let rU:=box bK #[.slice aC aF aB,R aA I az,R ay U ax,C (I.length:Int),R a5 (cA I U) c5,R a7 (eZ I U) c7] 80
   let jI:=oL w 26 a7 (eZ I U) c7
   let It:=[rU,J0,J1,J4,jI,J6,J5,J3,J2]
   have cJ:HI M w w9 It:=dV
   refine ak (v:=.tuple #[.agg #[C o0,C o1,C o2,C o3,C o4,.slice none 0 0,C o5,C o6],.bool ((sV I U 6).isSome)]) J J<|k<|xt J J J<|k<|xt J J J<|k<|al cJ bV ?_
   intro fj dL lj (ef:HI M w dL (box fj #[C 0,C 0,C 0,C 0,C 0,.slice none 0 0,C 0,C 0] 33::It))
   refine k<|bA ef 0 J bV J J J J J J J ?_
   let ot:=box fj #[C o0,C o1,C o2,C o3,C o4,.slice none 0 0,C o5,C o6] 33
   intro ew (dA:HI M w ew (ot::It))
   refine au (v:=.bool ((sV I U 6).isSome)) J J<|bz<|ak (v:=.bool ((sV I U 6).isSome)) J J<|z<|nx<|cd (b:=(sV I U 6).isSome) J J (fun b1=>?_)<|fun b1=>?_
   ·
    refine aD<|k<|cC dA 0 J bV J J aw J<|k<|bA dA 8 J bV J J s4 J J J J ?_
    intro fq (fe:HI M w fq [ot,rU,J0,J1,J4,jI,J6,J5,box bj #[C o0,C o1,C o2,C o3,C o4,.slice none 0 0,C o5,C o6] 33,J2])
    refine au (v:=C 0) J J<|av<|rt<|bI<|aL<|du<|bI<|aL<|iB fe 8 J bV J J J s4 J aw ?_
    have e8:(0:Int)=fh I U lv:=by exact sS (ob hs aN Wp bu) bu
    have bt:=iD (fun (lQ:Int)=>(.tuple #[.agg #[C o0,C o1,C o2,C o3,C o4,.slice none 0 0,C o5,C o6],C lQ]:Value)) e8
    exact⟨o0,o1,o2,o3,o4,o5,o6,bt,fe.below,(by exact xN (ob hs aN Wp bu) bu)⟩
   refine sk<|aH<|nx<|rg<|k<|add J J s9 J aS<|ak (v:=C ((j_:Int)+1)) J J<|z ?_
   have fe:=dA.put (it:=J4) J<|dA.rv 4 J
   have fw:=fe.put (it:=J1) J<|fe.rv 4 J
   have gl:=fw.put (it:=J0) J<|fw.rv 4 J
   have iR:HI M w ew (jI::J6::rU::eh):=gl.bX [8,9,4,2,10,11,12,1,0] aw J
   refine bB _ ?_ ⟨(j_+1),(eZ I U),a7,c7,J,s4,s5,s6,s7,s8,(bH J),iR,aq,(by exact Or.inr rfl),(by exact Bv hs aN Wp bu)⟩
   omega
  refine rg<|ak J s6<|ak (v:=C 7) J J<|k<|MW J J J J 7 J aw FG tE<|bq cR 1 J tE J J J<|ak (v:=C 7) J J<|k ?_
  have dX:HI M w w8 ([box bK #[.slice aC aF aB,R aA I az,R ay U ax,C (I.length:Int),R a5 (cA I U) c5,R a6 jm c6] 80,J0,J1,J4,oL w 26 a6 jm c6]++[J6,J5,J3,J2]):=cR.bX [2,8,7,3,0,1,4,5,6] aw J
  have fc:=X6 (eL:=bK) (aC:=aC) (aF:=aF) (aB:=aB) (aA:=aA) (az:=az) (I:=I) (ay:=ay) (ax:=ax) (U:=U) (cn:=(I.length:Int)) (dE:=a5) (dD:=c5) (cr:=(cA I U)) (iZ:=a6) (jQ:=c6) (sw:=jm) (kd:=7) (w:=w) (w_:=w8) (r:=[J6,J5,J3,J2]) (M:=M) aS bu hT (by exact ho) (by exact dG) (by exact ey) (by exact fP) aq (by rfl) (by exact Ga) dX
  refine NJ akJ J J J (ec J e0) fc ?_
  rintro _ w9 ⟨o0,o1,o2,o3,o4,o5,o6,a7,c7,rfl,dV,q0⟩
  let pw:=box bK #[.slice aC aF aB,R aA I az,R ay U ax,C (I.length:Int),R a5 (cA I U) c5,R a7 (eZ I U) c7] 80
  let mX:=oL w 26 a7 (eZ I U) c7
  let Fs:=[pw,J0,J1,J4,mX,J6,J5,J3,J2]
  have cJ:HI M w w9 Fs:=dV
  refine ak (v:=.tuple #[.agg #[C o0,C o1,C o2,C o3,C o4,.slice none 0 0,C o5,C o6],.bool ((sU I U 7).isSome)]) J J<|k<|xt J J J<|k<|xt J J J<|k<|al cJ bV ?_
  intro fj dL lj (ef:HI M w dL (box fj #[C 0,C 0,C 0,C 0,C 0,.slice none 0 0,C 0,C 0] 33::Fs))
  refine k<|bA ef 0 J bV J J J J J J J ?_
  let nE:=box fj #[C o0,C o1,C o2,C o3,C o4,.slice none 0 0,C o5,C o6] 33
  intro ew (dA:HI M w ew (nE::Fs))
  refine au (v:=.bool ((sU I U 7).isSome)) J J<|bz<|ak (v:=.bool ((sU I U 7).isSome)) J J<|z<|nx<|cd (b:=(sU I U 7).isSome) J J (fun b1=>?_)<|fun b1=>?_
  ·
   refine aD<|k<|cC dA 0 J bV J J aw J<|k<|bA dA 8 J bV J J s4 J J J J ?_
   intro fq (fe:HI M w fq [nE,pw,J0,J1,J4,mX,J6,J5,box bj #[C o0,C o1,C o2,C o3,C o4,.slice none 0 0,C o5,C o6] 33,J2])
   refine au (v:=C 0) J J<|av<|rt<|bI<|aL<|du<|bI<|aL<|iB fe 8 J bV J J J s4 J aw ?_
   have e8:(0:Int)=fh I U lv:=by exact sS (ob hs aN Wo bu) bu
   have bt:=iD (fun (lQ:Int)=>(.tuple #[.agg #[C o0,C o1,C o2,C o3,C o4,.slice none 0 0,C o5,C o6],C lQ]:Value)) e8
   exact⟨o0,o1,o2,o3,o4,o5,o6,bt,fe.below,(by exact xN (ob hs aN Wo bu) bu)⟩
  refine sk<|aH<|nx<|rg<|k<|add J J s9 J aS<|ak (v:=C ((j_:Int)+1)) J J<|z ?_
  have fe:=dA.put (it:=J4) J<|dA.rv 4 J
  have fw:=fe.put (it:=J1) J<|fe.rv 4 J
  have gl:=fw.put (it:=J0) J<|fw.rv 4 J
  have iR:HI M w ew (mX::J6::pw::eh):=gl.bX [8,9,4,2,10,11,12,1,0] aw J
  refine bB _ ?_ ⟨(j_+1),(eZ I U),a7,c7,J,s4,s5,s6,s7,s8,(bH J),iR,aq,(by exact Or.inr rfl),(by exact Bv hs aN Wo bu)⟩
  omega
 have p0:=dF b0
 refine ex<|aW<|ba<|bh<|cQ<|k<|bd (v:=.agg #[C 0,C 0,C 0,C 0,C 0,.slice none 0 0,C 0,C 0]) J eA (fun _=>aV)<|k<|bA cR 5 J bV J J s4 J J J J ?_
 intro w9 (dX:HI M w w9 (oL w 26 a6 jm c6::J6::box bK #[.slice aC aF aB,R aA I az,R ay U ax,C (I.length:Int),R a5 (cA I U) c5,R a6 jm c6] 80::eh))
 refine au (v:=C 8) J J<|av<|rt<|iB dX 5 J bV J J J s4 J aw ?_
 have e8:(8:Int)=fh I U lv:=by exact abC (Pl hs aq)
 have bt:=iD (fun (lQ:Int)=>(.tuple #[.agg #[C 0,C 0,C 0,C 0,C 0,.slice none 0 0,C 0,C 0],C lQ]:Value)) e8
 exact⟨0,0,0,0,0,0,0,bt,dX.below,(by exact uH (Pl hs aq) OZ)⟩
end Go.Proofs.YtgjakhpjmapelaaGreatDoor
