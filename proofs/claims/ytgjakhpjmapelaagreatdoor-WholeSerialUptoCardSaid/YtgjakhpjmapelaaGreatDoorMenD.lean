/- PRINTED by my own tool (wip/tool/gen.py): contracts of Go functions of this seat, each with its proof. -/
import Derived.Test.YtgjakhpjmapelaaGreatDoorUwnB
import Derived.Test.YtgjakhpjmapelaaGreatDoorUwnC
import Derived.Test.YtgjakhpjmapelaaGreatDoorMenC
import Derived.Test.YtgjakhpjmapelaaGreatDoorMenB
import Derived.Test.YtgjakhpjmapelaaGreatDoorMenA
import Derived.Test.YtgjakhpjmapelaaGreatDoorUwnD
import Derived.Test.YtgjakhpjmapelaaGreatDoorUwnA
set_option linter.unusedVariables false
set_option linter.unusedSimpArgs false
namespace Go.Proofs.YtgjakhpjmapelaaGreatDoor
open Go.Ew Go.RowKit
set_option maxRecDepth 100000
set_option maxHeartbeats 1600000
attribute [local irreducible] WL WC SO PW PX PZ WE Code.wp wpList sB cp
attribute [local irreducible] kl xQ jx fq ej AJ Dw KW words eb cX jM fH vS
variable {M:bW} {w w_:aH}
variable {aC aw ay wE wD bD dy jP gO:OA} {aE aB av ax wC wB bC eJ dx kB fe j2 qD gM:Nat} {U:List aO} {fo:aA} {kd fD lv x_ mn cn o xx at_:Int} {a b:List bt} {mr cr:List (List bt)} {me:TypeId} {r:List Go.Ew.Item} {fv:List bf} {s cs p_:bf} {qH:List Value} {h:List (List (Bool×bf×Int))}
theorem Dp:gR aI 33 0 0:=jU Tryz.underlying33
theorem aiT:cA aI 78:=cI Tryz.func78
theorem xY:gR aI 33 6 6:=jU Tryz.underlying33
theorem vC:gR aI 33 5 5:=jU Tryz.underlying33
theorem adF:gR aI 33 7 7:=jU Tryz.underlying33
theorem aiS:cA aI 80:=cI Tryz.func80
theorem adk:cA aI 83:=cI Tryz.func83
theorem adt:cA aI 16:=cI Tryz.func16
theorem ai1:cA aI 53:=cI Tryz.func53
theorem UY {j0:Int} {lN:Int} {gz:Int} {Hu:OA} {Gz Hn:Nat} {Th:Value} {kf:Value} (hM:eO M w) (hT:fU 0 w) (dL:cD M w aw av U) (gb:cD M w ay ax fo) (lV:aJ kd) (GZ:aJ fD) (BC:aJ j0) (X5:aJ lN) (yX:aJ gz) (ho:ig U) (dB:U.length≤64) (ez:fo.length=U.length) (fL:∀x∈fo,x<((U.length:Nat):Int)) (ab8:kd=6∨kd=7→0≤gz∧gz<((U.length:Nat):Int)):Calls aI 53 #[.agg #[.slice aC aE aB,sL aw U av,sL ay fo ax],.agg #[I kd,I fD,I j0,I lN,I gz,.slice Hu Gz Hn,Th,kf]] w (cp fun v w'=>∃(iA:List cN) (f_:Int) (s_:Int) (a0:OA) (c0:Nat),v=.tuple #[.agg #[I kd,I fD,I j0,I lN,I gz,sL a0 iA c0,I f_,I s_],I 0]∧Ext w w'∧cD M w' a0 c0 iA):=by
 refine dG 113 Tryz.func53 J J J hM fun f0 ha H=>?_
 let J0:=iL aw U av
 have H0:=H.put (it:=J0) J<|by rw[bP];exact dL
 let J1:=iL ay fo ax
 have H1:=H0.put (it:=J1) J<|by rw[aD rfl,bP];exact gb
 have ja:=bj dL
 have kP:=bj gb
 have i0:f0 0=.agg #[.slice aC aE aB,sL aw U av,sL ay fo ax]:=ha 0 bl
 have i1:f0 1=.agg #[I kd,I fD,I j0,I lN,I gz,.slice Hu Gz Hn,Th,kf]:=ha 1 bl
 have A_:=Mz fo<|show U.length≤4096 by omega
 have PL:=pL fo<|show U.length≤4096 by omega
 refine az<|k<|bx H1 J i0 ?_
 intro aZ w0 bY (H2:HI M w w0 [box aZ #[.slice aC aE aB,sL aw U av,sL ay fo ax] 47,J1,J0])
 let J2:=box aZ #[.slice aC aE aB,sL aw U av,sL ay fo ax] 47
 refine k<|bx H2 J i1 ?_
 intro aY w1 cT (H3:HI M w w1 [box aY #[I kd,I fD,I j0,I lN,I gz,.slice Hu Gz Hn,Th,kf] 33,J2,J1,J0])
 let J3:=box aY #[I kd,I fD,I j0,I lN,I gz,.slice Hu Gz Hn,Th,kf] 33
 refine k<|al H3 bT ?_
 intro bJ w2 fk (H4:HI M w w2 [box bJ #[I 0,I 0,I 0,I 0,I 0,.slice none 0 0,I 0,I 0] 33,J3,J2,J1,J0])
 let J4:=box bJ #[I 0,I 0,I 0,I 0,I 0,.slice none 0 0,I 0,I 0] 33
 refine ak (v:=I 0) J J<|bz<|aQ Dp J J<|bq H4 1 J aT J J J<|aQ r8 J J<|bq H4 1 J aT J J J<|aQ pW J J<|bq H4 1 J aT J J J<|aQ G' J J<|bq H4 1 J aT J J J<|aQ ph J J<|bq H4 1 J aT J J J<|k<|bd (v:=.agg #[I kd,I fD,I j0,I lN,I gz,.slice none 0 0,I (-1),I (-1)]) J (cm J<|cm J<|cm J<|cm J<|cm J<|cm J<|cm J ew) (fun _=>aS)<|k<|al H4 bT ?_
 intro fh w3 fN (H5:HI M w w3 [box fh #[I 0,I 0,I 0,I 0,I 0,.slice none 0 0,I 0,I 0] 33,J4,J3,J2,J1,J0])
 refine k<|bw H5 0 J bT J J J J J J J ?_
 let J5:=box fh #[I kd,I fD,I j0,I lN,I gz,.slice none 0 0,I (-1),I (-1)] 33
 intro w4 (H6:HI M w w4 [J5,J4,J3,J2,J1,J0])
 refine aq<|sq<|lH [.r,.r,.r,.e,.e] (fun _=>True) J aS (fun _ _=>trivial)<|yq J J<|kq (fun _ x_=>cB (H6.ext x_) 3 J eh J J au J e1)<|bH<|kq (fun _ x_=>cB (H6.ext x_) 3 J eh J J au J e1)<|zq<|yu J (fun _ v w'=>∃(a0:OA) (c0:Nat),v=.agg #[I (U.length:Int),sL a0 (kv U fo) c0]∧RV H6.fS w' (sL a0 (kv U fo) c0) (kv U fo)) J nh J (fun v_ _ x_ _=>have cU:=ER (U:=U) (fo:=fo) (aC:=aC) (aE:=aE) (aB:=aB) (w:=v_) (H6.ext x_).mb ((H6.ext x_).rv 5 rfl) ((H6.ext x_).rv 4 rfl) (by exact ho) aj (by exact ez) (by exact fL);ca adn rfl (ec J e0) cU (fun _ w6 ⟨a1,c1,e_,jc,d_⟩=>⟨_,J,jc,⟨a1,c1,e_,d_⟩⟩))<|ye<|ye<|yz ?_
 intro w7 f0 _ jK _ _ cx iJ
 have du:=H6.ext jK
 have s0:=cx 2 J
 have s1:=cx 3 J
 have s2:=cx 4 J
 have s3:=cx 6 J
 have s4:=cx 21 J
 obtain⟨a2,c2,s5,dZ⟩:=iJ 0 _ _ rfl
 let J6:=iL a2 (kv U fo) c2
 have dJ:=du.put (it:=J6) J dZ
 refine jw ?_
 have cM:HI M w w7 ([J0,J1,J6]++[J5,J4,J3,J2]):=dJ.bX [6,5,0,1,2,3,4] au J
 have fP:=NB (aC:=aC) (aE:=aE) (aB:=aB) (aw:=aw) (av:=av) (U:=U) (ay:=ay) (ax:=ax) (fo:=fo) (mn:=(U.length:Int)) (bD:=a2) (bC:=c2) (mr:=(kv U fo)) (w:=w) (w_:=w7) (r:=[J5,J4,J3,J2]) (M:=M) aR cM
 refine ca aiT J (ec s4<|ec s5 e0) fP ?_
 rintro _ w8 ⟨gN,a3,c3,dQ,fT,rfl,dU⟩
 let J7:=box gN #[.slice aC aE aB,sL aw U av,sL ay fo ax,sL a3 ([]:List cN) c3,.map (some dQ),I (U.length:Int),sL a2 (kv U fo) c2,.map (some fT)] 142
 let J8:=oL w 175 a3 ([]:List cN) c3
 let J9:=cb dQ ([]:KV)
 let ba:=[J8,J9,bU fT ([]:List ((Int×Int)×Bool)),J0,J1,J6,J5,J4,J3,J2]
 have dt:HI M w w8 (J7::ba):=dU
 refine jw<|jO (v:=pV gN 0) J J<|kz<|nx<|sq<|az<|aQ Dp J s1<|bq dt 9 J aT J J J<|aq<|bk<|az<|k<|eql J J J J<|ak (v:=.bool (decide (kd=2))) J J<|z<|nx<|cd (b:=decide (kd=2)) J J (fun b0=>?_)<|fun b0=>?_
 ·
  refine rg<|ai (v:=pV gN 0) J J<|aQ ph J s1<|bq dt 9 J aT J J J<|aQ ph J s1<|bq dt 9 J aT J J J<|k ?_
  have cR:HI M w w8 ([J7,J0,J1,J8,J9,J6,bU fT ([]:List ((Int×Int)×Bool))]++[J5,J4,J3,J2]):=dt.bX [0,4,5,1,2,6,3,7,8,9,10] au J
  have eZ:=mL (cY:=gN) (aC:=aC) (aE:=aE) (aB:=aB) (aw:=aw) (av:=av) (U:=U) (ay:=ay) (ax:=ax) (fo:=fo) (eB:=a3) (eA:=c3) (sp:=([]:List cN)) (bB:=dQ) (mp:=([]:KV)) (pn:=(U.length:Int)) (db:=a2) (da:=c2) (pr:=(kv U fo)) (bL:=fT) (mq:=([]:List ((Int×Int)×Bool))) (f_:=gz) (t_:=gz) (w:=w) (w_:=w8) (r:=[J5,J4,J3,J2]) (M:=M) aR yX yX hT (by simp only[gj];omega) aj (by exact ez) (by exact dB) (by exact A_) cR
  refine ca zK J (ec J<|ec J<|ec J e0) eZ ?_
  rintro _ w9 ⟨o0,o1,o2,a4,c4,rfl,dI,q0,q1⟩
  let dR:=box gN #[.slice aC aE aB,sL aw U av,sL ay fo ax,sL a4 o1 c4,.map (some dQ),I (U.length:Int),sL a2 (kv U fo) c2,.map (some fT)] 142
  have dw:HI M w w9 [dR,J0,J1,oL w 175 a4 o1 c4,cb dQ o2,J6,bU fT ([]:List ((Int×Int)×Bool)),J5,J4,J3,J2]:=dI
  refine aQ xY J s3<|k<|bw dw 7 J aT J J J J J J J ?_
  intro dM (cE:HI M w dM [dR,J0,J1,oL w 175 a4 o1 c4,cb dQ o2,J6,bU fT ([]:List ((Int×Int)×Bool)),box fh #[I kd,I fD,I j0,I lN,I gz,.slice none 0 0,I o0,I (-1)] 33,J4,J3,J2])
  refine z<|aG<|cO<|ai (v:=pV gN 0) J J<|k<|nc J J<|aQ l8 J J<|bq cE 0 J nQ J J J<|aQ vC J s3<|k<|bw cE 7 J nQ J J J J J J J ?_
  let eE:=box fh #[I kd,I fD,I j0,I lN,I gz,sL a4 o1 c4,I o0,I (-1)] 33
  intro ee (df:HI M w ee [dR,J0,J1,oL w 175 a4 o1 c4,cb dQ o2,J6,bU fT ([]:List ((Int×Int)×Bool)),eE,J4,J3,J2])
  refine bz<|k<|cB df 7 J bT J s3 au J<|k<|bw df 8 J bT J J s2 J J J J ?_
  intro ft (dH:HI M w ft [dR,J0,J1,oL w 175 a4 o1 c4,cb dQ o2,J6,bU fT ([]:List ((Int×Int)×Bool)),eE,box bJ #[I kd,I fD,I j0,I lN,I gz,sL a4 o1 c4,I o0,I (-1)] 33,J3,J2])
  refine ak (v:=I 0) J J<|aq<|rt<|iH dH 8 J bT J J J s2 J au ?_
  exact⟨o1,o0,(-1),a4,c4,J,dH.below,(dH.mB 3 J)⟩
 have p0:=dF b0
 refine az<|k<|eql J J J J<|ak (v:=.bool (decide (kd=3))) J J<|z<|nx<|cd (b:=decide (kd=3)) J J (fun b1=>?_)<|fun b1=>?_
 ·
  refine rg<|ai (v:=pV gN 0) J J<|aQ pW J s1<|bq dt 9 J aT J J J<|aQ r8 J s1<|bq dt 9 J aT J J J<|k ?_
  have cR:HI M w w8 ([J7,J0,J1,J8,J9,J6,bU fT ([]:List ((Int×Int)×Bool))]++[J5,J4,J3,J2]):=dt.bX [0,4,5,1,2,6,3,7,8,9,10] au J
  have eZ:=mL (cY:=gN) (aC:=aC) (aE:=aE) (aB:=aB) (aw:=aw) (av:=av) (U:=U) (ay:=ay) (ax:=ax) (fo:=fo) (eB:=a3) (eA:=c3) (sp:=([]:List cN)) (bB:=dQ) (mp:=([]:KV)) (pn:=(U.length:Int)) (db:=a2) (da:=c2) (pr:=(kv U fo)) (bL:=fT) (mq:=([]:List ((Int×Int)×Bool))) (f_:=j0) (t_:=fD) (w:=w) (w_:=w8) (r:=[J5,J4,J3,J2]) (M:=M) aR BC GZ hT (by simp only[gj];omega) aj (by exact ez) (by exact dB) (by exact A_) cR
  refine ca zK J (ec J<|ec J<|ec J e0) eZ ?_
  rintro _ w9 ⟨o0,o1,o2,a4,c4,rfl,dI,q0,q1⟩
  let fM:=box gN #[.slice aC aE aB,sL aw U av,sL ay fo ax,sL a4 o1 c4,.map (some dQ),I (U.length:Int),sL a2 (kv U fo) c2,.map (some fT)] 142
  have dw:HI M w w9 [fM,J0,J1,oL w 175 a4 o1 c4,cb dQ o2,J6,bU fT ([]:List ((Int×Int)×Bool)),J5,J4,J3,J2]:=dI
  refine aQ xY J s3<|k<|bw dw 7 J aT J J J J J J J ?_
  intro dM (cE:HI M w dM [fM,J0,J1,oL w 175 a4 o1 c4,cb dQ o2,J6,bU fT ([]:List ((Int×Int)×Bool)),box fh #[I kd,I fD,I j0,I lN,I gz,.slice none 0 0,I o0,I (-1)] 33,J4,J3,J2])
  refine z<|aG<|cO<|ai (v:=pV gN 0) J J<|k<|nc J J<|aQ l8 J J<|bq cE 0 J nQ J J J<|aQ vC J s3<|k<|bw cE 7 J nQ J J J J J J J ?_
  let fI:=box fh #[I kd,I fD,I j0,I lN,I gz,sL a4 o1 c4,I o0,I (-1)] 33
  intro ee (df:HI M w ee [fM,J0,J1,oL w 175 a4 o1 c4,cb dQ o2,J6,bU fT ([]:List ((Int×Int)×Bool)),fI,J4,J3,J2])
  refine bz<|k<|cB df 7 J bT J s3 au J<|k<|bw df 8 J bT J J s2 J J J J ?_
  intro ft (dH:HI M w ft [fM,J0,J1,oL w 175 a4 o1 c4,cb dQ o2,J6,bU fT ([]:List ((Int×Int)×Bool)),fI,box bJ #[I kd,I fD,I j0,I lN,I gz,sL a4 o1 c4,I o0,I (-1)] 33,J3,J2])
  refine ak (v:=I 0) J J<|aq<|rt<|iH dH 8 J bT J J J s2 J au ?_
  exact⟨o1,o0,(-1),a4,c4,J,dH.below,(dH.mB 3 J)⟩
 have p1:=dF b1
 refine az<|k<|eql J J J J<|ak (v:=.bool (decide (kd=4))) J J<|z<|nx<|cd (b:=decide (kd=4)) J J (fun b2=>?_)<|fun b2=>?_
 ·
  refine lH [.r,.r,.r,.r,.r,.e,.s,.f,.f,.f,.f,.e,.f,.e,.f,.e] (fun w'=>HI M w w' [J3]) J aS (fun _ x_=>(dt.bX (l':=[J3]) [9] au J).ext x_)<|yq J J<|kq (fun _ _=>mv (v:=pV gN 0) J J e1)<|bH<|kq (fun _ _=>fa pW J s1 e1)<|bH<|kq (fun _ x_=>lx (dt.ext x_) 9 J aT J J J e1)<|bH<|kq (fun _ _=>fa G' J s1 e1)<|bH<|kq (fun _ x_=>lx (dt.ext x_) 9 J aT J J J e1)<|zq<|ye<|yq J J<|kq (fun _ _=>mv (v:=pV gN 0) J J e1)<|zq<|yf J (fun _ _=>fa G' J s1 e3)<|yf J (fun _ i_=>lx i_ 0 J aT J J J e3)<|yf J (fun _ _=>fa r8 J s1 e3)<|yf J (fun _ i_=>lx i_ 0 J aT J J J e3)<|ye<|yf J (fun _ _=>fa xY J s3 e3)<|ye<|yf J (fun _ _=>fa adF J s3 e3)<|ye<|yz ?_
  intro w9 f1 _ lC _ _ eD vm
  have cR:=dt.ext lC
  have s6:=(eD 4 J).trans s2
  have s7:=(eD 6 J).trans s3
  have s8:=eD 7 J
  have s9:=eD 47 J
  have eu:=eD 49 J
  have fb:=eD 51 J
  have fu:=eD 53 J
  have fl:=eD 55 J
  have gi:=eD 57 J
  have gS:=eD 59 J
  have j4:=eD 60 J
  refine ke ?_
  let bV:=[J6,bU fT ([]:List ((Int×Int)×Bool))]
  have dI:HI M w w9 ((J7::J0::J1::J8::J9::bV)++[J5,J4,J3,J2]):=cR.bX [0,4,5,1,2,6,3,7,8,9,10] au J
  have eZ:=mL (cY:=gN) (aC:=aC) (aE:=aE) (aB:=aB) (aw:=aw) (av:=av) (U:=U) (ay:=ay) (ax:=ax) (fo:=fo) (eB:=a3) (eA:=c3) (sp:=([]:List cN)) (bB:=dQ) (mp:=([]:KV)) (pn:=(U.length:Int)) (db:=a2) (da:=c2) (pr:=(kv U fo)) (bL:=fT) (mq:=([]:List ((Int×Int)×Bool))) (f_:=j0) (t_:=lN) (w:=w) (w_:=w9) (r:=[J5,J4,J3,J2]) (M:=M) aR BC X5 hT (by simp only[gj];omega) aj (by exact ez) (by exact dB) (by exact A_) dI
  refine ca zK J (ec s9<|ec eu<|ec fb e0) eZ ?_
  rintro _ dM ⟨o0,o1,o2,a4,c4,rfl,dw,q0,q1⟩
  let gU:=box gN #[.slice aC aE aB,sL aw U av,sL ay fo ax,sL a4 o1 c4,.map (some dQ),I (U.length:Int),sL a2 (kv U fo) c2,.map (some fT)] 142
  let dz:=[J6,bU fT ([]:List ((Int×Int)×Bool)),J5,J4,J3,J2]
  have cE:HI M w dM (gU::J0::J1::oL w 175 a4 o1 c4::cb dQ o2::dz):=dw
  refine⟨cE.bX [9] au rfl,?_⟩
  refine ke ?_
  have df:HI M w dM ((gU::J0::J1::oL w 175 a4 o1 c4::cb dQ o2::bV)++[J5,J4,J3,J2]):=cE.bX [0,1,2,3,4,5,6,7,8,9,10] au J
  have mx:=mL (cY:=gN) (aC:=aC) (aE:=aE) (aB:=aB) (aw:=aw) (av:=av) (U:=U) (ay:=ay) (ax:=ax) (fo:=fo) (eB:=a4) (eA:=c4) (sp:=o1) (bB:=dQ) (mp:=o2) (pn:=(U.length:Int)) (db:=a2) (da:=c2) (pr:=(kv U fo)) (bL:=fT) (mq:=([]:List ((Int×Int)×Bool))) (f_:=lN) (t_:=fD) (w:=w) (w_:=dM) (r:=[J5,J4,J3,J2]) (M:=M) aR X5 GZ hT (by simp only[gj] at *;omega) aj (by exact ez) (by exact dB) (by exact A_) df
  refine ca zK J (ec fu<|ec fl<|ec gi e0) mx ?_
  rintro _ ee ⟨o3,o4,o5,a5,c5,rfl,dH,q2,q3⟩
  let ma:=box gN #[.slice aC aE aB,sL aw U av,sL ay fo ax,sL a5 o4 c5,.map (some dQ),I (U.length:Int),sL a2 (kv U fo) c2,.map (some fT)] 142
  let lZ:=oL w 175 a5 o4 c5
  have eP:HI M w ee (ma::J0::J1::lZ::cb dQ o5::dz):=dH
  refine⟨eP.bX [9] au rfl,?_⟩
  refine ke<|bw eP 7 J aT J J gS J J J J ?_
  intro ft (ff:HI M w ft [ma,J0,J1,lZ,cb dQ o5,J6,bU fT ([]:List ((Int×Int)×Bool)),box fh #[I kd,I fD,I j0,I lN,I gz,.slice none 0 0,I o0,I (-1)] 33,J4,J3,J2])
  refine⟨ff.bX [9] au rfl,?_⟩
  refine ke<|bw ff 7 J aT J J j4 J J J J ?_
  intro ij (gr:HI M w ij [ma,J0,J1,lZ,cb dQ o5,J6,bU fT ([]:List ((Int×Int)×Bool)),box fh #[I kd,I fD,I j0,I lN,I gz,.slice none 0 0,I o0,I o3] 33,J4,J3,J2])
  refine⟨gr.bX [9] au rfl,?_⟩
  refine kz<|aG<|cO<|ai J s8<|k<|nc J J<|aQ l8 J J<|bq gr 0 J nQ J J J<|aQ vC J s7<|k<|bw gr 7 J nQ J J J J J J J ?_
  let rM:=box fh #[I kd,I fD,I j0,I lN,I gz,sL a5 o4 c5,I o0,I o3] 33
  intro jv (iy:HI M w jv [ma,J0,J1,lZ,cb dQ o5,J6,bU fT ([]:List ((Int×Int)×Bool)),rM,J4,J3,J2])
  refine bz<|k<|cB iy 7 J bT J s7 au J<|k<|bw iy 8 J bT J J s6 J J J J ?_
  intro nB (iS:HI M w nB [ma,J0,J1,lZ,cb dQ o5,J6,bU fT ([]:List ((Int×Int)×Bool)),rM,box bJ #[I kd,I fD,I j0,I lN,I gz,sL a5 o4 c5,I o0,I o3] 33,J3,J2])
  refine ak (v:=I 0) J J<|aq<|rt<|iH iS 8 J bT J J J s6 J au ?_
  exact⟨o4,o0,o3,a5,c5,J,iS.below,(iS.mB 3 J)⟩
 have p2:=dF b2
 refine az<|k<|eql J J J J<|ak (v:=.bool (decide (kd=5))) J J<|z<|nx<|cd (b:=decide (kd=5)) J J (fun b3=>?_)<|fun b3=>?_
 ·
  refine az<|ai (v:=pV gN 0) J J<|k ?_
  have cR:HI M w w8 ([J7,J0,J1,J8,J9,J6,bU fT ([]:List ((Int×Int)×Bool))]++[J5,J4,J3,J2]):=dt.bX [0,4,5,1,2,6,3,7,8,9,10] au J
  have eZ:=Gq (cY:=gN) (aC:=aC) (aE:=aE) (aB:=aB) (aw:=aw) (av:=av) (U:=U) (ay:=ay) (ax:=ax) (fo:=fo) (eB:=a3) (eA:=c3) (sp:=([]:List cN)) (bB:=dQ) (mp:=([]:KV)) (pn:=(U.length:Int)) (db:=a2) (da:=c2) (pr:=(kv U fo)) (bL:=fT) (mq:=([]:List ((Int×Int)×Bool))) (w:=w) (w_:=w8) (r:=[J5,J4,J3,J2]) (M:=M) aR hT (by exact ho) (by exact dB) (by exact ez) (by exact fL) aj (by exact A_) (by simp only[gj];omega) cR
  refine ca aiS J (ec J e0) eZ ?_
  rintro _ w9 ⟨o0,o1,o2,a4,c4,a5,c5,rfl,dI,q0,q1⟩
  let jz:=box gN #[.slice aC aE aB,sL aw U av,sL ay fo ax,sL a4 o0 c4,.map (some dQ),I (U.length:Int),sL a5 o2 c5,.map (some fT)] 142
  let iW:=[iL a5 o2 c5,bU fT ([]:List ((Int×Int)×Bool)),J5,J4,J3,J2]
  have dw:HI M w w9 (jz::J0::J1::oL w 175 a4 o0 c4::cb dQ o1::iW):=dI
  refine aq<|rg<|ai (v:=pV gN 0) J J<|aQ ph J s1<|bq dw 9 J aT J J J<|aQ ph J s1<|bq dw 9 J aT J J J<|k ?_
  have cE:HI M w w9 ([jz,J0,J1,oL w 175 a4 o0 c4,cb dQ o1,iL a5 o2 c5,bU fT ([]:List ((Int×Int)×Bool))]++[J5,J4,J3,J2]):=dw.bX [0,1,2,3,4,5,6,7,8,9,10] au J
  have mx:=mL (cY:=gN) (aC:=aC) (aE:=aE) (aB:=aB) (aw:=aw) (av:=av) (U:=U) (ay:=ay) (ax:=ax) (fo:=fo) (eB:=a4) (eA:=c4) (sp:=o0) (bB:=dQ) (mp:=o1) (pn:=(U.length:Int)) (db:=a5) (da:=c5) (pr:=o2) (bL:=fT) (mq:=([]:List ((Int×Int)×Bool))) (f_:=gz) (t_:=gz) (w:=w) (w_:=w9) (r:=[J5,J4,J3,J2]) (M:=M) aR yX yX hT (by simp only[gj] at *;omega) aj (by exact ez) (by exact dB) bo cE
  refine ca zK J (ec J<|ec J<|ec J e0) mx ?_
  rintro _ dM ⟨o3,o4,o5,a6,c6,rfl,df,q2,q3⟩
  let nO:=box gN #[.slice aC aE aB,sL aw U av,sL ay fo ax,sL a6 o4 c6,.map (some dQ),I (U.length:Int),sL a5 o2 c5,.map (some fT)] 142
  have dH:HI M w dM (nO::J0::J1::oL w 175 a6 o4 c6::cb dQ o5::iW):=df
  refine aQ xY J s3<|k<|bw dH 7 J aT J J J J J J J ?_
  intro ee (eP:HI M w ee [nO,J0,J1,oL w 175 a6 o4 c6,cb dQ o5,iL a5 o2 c5,bU fT ([]:List ((Int×Int)×Bool)),box fh #[I kd,I fD,I j0,I lN,I gz,.slice none 0 0,I o3,I (-1)] 33,J4,J3,J2])
  refine z<|aG<|cO<|ai (v:=pV gN 0) J J<|k<|nc J J<|aQ l8 J J<|bq eP 0 J nQ J J J<|aQ vC J s3<|k<|bw eP 7 J nQ J J J J J J J ?_
  let pw:=box fh #[I kd,I fD,I j0,I lN,I gz,sL a6 o4 c6,I o3,I (-1)] 33
  intro ft (ff:HI M w ft [nO,J0,J1,oL w 175 a6 o4 c6,cb dQ o5,iL a5 o2 c5,bU fT ([]:List ((Int×Int)×Bool)),pw,J4,J3,J2])
  refine bz<|k<|cB ff 7 J bT J s3 au J<|k<|bw ff 8 J bT J J s2 J J J J ?_
  intro ij (gr:HI M w ij [nO,J0,J1,oL w 175 a6 o4 c6,cb dQ o5,iL a5 o2 c5,bU fT ([]:List ((Int×Int)×Bool)),pw,box bJ #[I kd,I fD,I j0,I lN,I gz,sL a6 o4 c6,I o3,I (-1)] 33,J3,J2])
  refine ak (v:=I 0) J J<|aq<|rt<|iH gr 8 J bT J J J s2 J au ?_
  exact⟨o4,o3,(-1),a6,c6,J,gr.below,(gr.mB 3 J)⟩
 have p3:=dF b3
 refine sq<|az<|k<|eql J J J J<|ak (v:=.bool (decide (kd=6))) J J<|z<|nx<|cd (b:=decide (kd=6)) J J (fun b4=>?_)<|fun b4=>?_
 ·
  have p4:=dT b4
  refine sk<|nx<|ot J J b4<|az<|k<|cB dt 10 J eh J s0 au J<|k ?_
  have eZ:=BN (U:=U) (fo:=fo) (aC:=aC) (aE:=aE) (aB:=aB) dt.mb (dt.rv 4 J) (dt.rv 5 J) (by exact ho) aj (by exact ez)<|by exact fL
  refine ca QG J (ec J e0) eZ ?_
  rintro _ w9 ⟨a4,c4,rfl,lC,fy⟩
  have cR:=dt.ext lC
  let mW:=iL a4 (cu U fo) c4
  have dI:=cR.put (it:=mW) J fy
  refine k<|al dI bp ?_
  intro AM dM l3 (dw:HI M w dM (box AM #[I 0,.slice none 0 0] 26::mW::J7::ba))
  refine k<|bw dw 0 J bp J J J J J J J ?_
  let nN:=box AM #[I (U.length:Int),sL a4 (cu U fo) c4] 26
  intro ee (cE:HI M w ee (nN::mW::J7::ba))
  refine aq<|sq<|lH [.r,.r,.r,.r,.r,.r,.r,.r,.r,.r,.r,.r,.e] (fun _=>True) J aS (fun _ _=>trivial)<|yq J J<|kq (fun _ _=>mv (v:=pV gN 0) J J e1)<|bH<|kq (fun _ _=>mv (v:=pV gN 0) J J e1)<|bH<|kq (fun _ _=>nc J J e1)<|bH<|kq (fun _ _=>fa rA J J e1)<|bH<|kq (fun _ x_=>cB (cE.ext x_) 2 J bp J J au J e1)<|bH<|kq (fun _ x_=>cB (cE.ext x_) 0 J bp J J au J e1)<|bH<|kq (fun _ _=>fa ph J s1 e1)<|bH<|kq (fun _ x_=>lx (cE.ext x_) 11 J aT J J J e1)<|zq<|yu J (fun _ v w'=>∃(a5:OA) (c5:Nat),v=sL a5 (bO (U.length:Int) (cu U fo) gz) c5∧RV cE.fS w' (sL a5 (bO (U.length:Int) (cu U fo) gz) c5) (bO (U.length:Int) (cu U fo) gz)) J nh J (fun v_ _ x_ _=>have nu:=u6 (mn:=(U.length:Int)) (mr:=(cu U fo)) (o:=gz) (w:=v_) (cE.ext x_).mb (hT.ext (cE.ext x_).below) aR ((cE.ext x_).rv 1 rfl) yX (by exact PL);ca Mq rfl (ec J<|ec J e0) nu (fun _ ij ⟨a6,c6,e_,Cj,je⟩=>⟨_,J,Cj,⟨a6,c6,e_,(bm.rv je (cE.ext x_).mb)⟩⟩))<|lL J (fun _ v w'=>∃(a8:OA) (c8:Nat),v=.agg #[I (U.length:Int),sL a8 (gp (U.length:Int) (kv U fo)<|bO (U.length:Int) (cu U fo) gz) c8]∧RV cE.fS w' (sL a8 (gp (U.length:Int) (kv U fo)<|bO (U.length:Int) (cu U fo) gz) c8) (gp (U.length:Int) (kv U fo)<|bO (U.length:Int) (cu U fo) gz)) 0 J J nh J (fun v_ _ _ x_ _ h_=>let ⟨a9,c9,s6,oU⟩:=h_;have iw:=(cE.ext x_).put (it:=iL a9 (bO (U.length:Int) (cu U fo) gz) c9) rfl oU;have DA:=zE (mn:=(U.length:Int)) (mr:=(kv U fo)) (l:=(bO (U.length:Int) (cu U fo) gz)) iw.mb aR (iw.rv 9 J) (iw.rv 0 J) (by exact A_) (by have h_:=uX PL gz;omega);ca VY rfl (ec J<|ec s6 e0) DA (fun _ nB ⟨jq,jo,e_,HB,nR⟩=>⟨_,J,HB,⟨jq,jo,e_,(ly J<|bm.rv nR iw.mb)⟩⟩))<|yq J J<|kq (fun _ _=>nc J J e1)<|bH<|kq (fun _ _=>fa rA J J e1)<|zq<|ye<|yz ?_
  intro rE f1 _ KD _ _ eD vm
  have nP:=cE.ext KD
  have s7:=(eD 3 J).trans s1
  have s8:=(eD 4 J).trans s2
  have s9:=(eD 6 J).trans s3
  have eu:=eD 7 J
  have fb:=eD 8 J
  obtain⟨mV,mU,fu,qM⟩:=vm 0 _ _ rfl
  let tV:=iL mV (gp (U.length:Int) (kv U fo) (bO (U.length:Int) (cu U fo) gz)) mU
  have jX:=nP.put (it:=tV) J qM
  have fl:=eD 88 J
  refine jw<|bw jX 3 J bp J J fl fu J J J ?_
  let sf:=box gN #[.slice aC aE aB,sL aw U av,sL ay fo ax,sL a3 ([]:List cN) c3,.map (some dQ),I (U.length:Int),sL mV (gp (U.length:Int) (kv U fo) (bO (U.length:Int) (cu U fo) gz)) mU,.map (some fT)] 142
  intro tn (rp:HI M w tn (tV::nN::mW::sf::ba))
  refine kz<|cO<|ai J eu<|k<|cB rp 1 J bp J fb au J<|aQ ph J s7<|bq rp 12 J aT J J J<|k ?_
  have kX:HI M w tn ([sf,J0,J1,J8,J9,tV,bU fT ([]:List ((Int×Int)×Bool)),mW]++[nN,J6,J5,J4,J3,J2]):=rp.bX [3,7,8,4,5,0,6,2,1,9,10,11,12,13] au J
  have T0:=IP (cY:=gN) (aC:=aC) (aE:=aE) (aB:=aB) (aw:=aw) (av:=av) (U:=U) (ay:=ay) (ax:=ax) (fo:=fo) (eB:=a3) (eA:=c3) (sp:=([]:List cN)) (bB:=dQ) (mp:=([]:KV)) (pn:=(U.length:Int)) (db:=mV) (da:=mU) (pr:=(gp (U.length:Int) (kv U fo)<|bO (U.length:Int) (cu U fo) gz)) (bL:=fT) (mq:=([]:List ((Int×Int)×Bool))) (mn:=(U.length:Int)) (bD:=a4) (bC:=c4) (mr:=(cu U fo)) (o:=gz) (w:=w) (w_:=tn) (r:=[nN,J6,J5,J4,J3,J2]) (M:=M) aR aR yX hT (by exact ho) (by exact dB) (by exact ez) (by exact fL) aj (by rfl) (by exact ab8 aj) aj (by exact Cl A_ _) (by simp only[gj];omega) kX
  refine ca adk J (ec J<|ec J<|ec J e0) T0 ?_
  rintro _ uY ⟨o0,o1,o2,a12,pC,jW,jV,rfl,AT,q0,q1⟩
  let ym:=box gN #[.slice aC aE aB,sL aw U av,sL ay fo ax,sL a12 o0 pC,.map (some dQ),I (U.length:Int),sL jW o2 jV,.map (some fT)] 142
  let se:=iL jW o2 jV
  let fm:=[se,bU fT ([]:List ((Int×Int)×Bool)),mW,nN,J6,J5,J4,J3,J2]
  have kg:HI M w uY (ym::J0::J1::oL w 175 a12 o0 pC::cb dQ o1::fm):=AT
  refine bz<|aQ r8 J s7<|bq kg 12 J aT J J J<|ak (v:=I fD) J J<|aq<|sq<|az<|aQ Dp J s7<|bq kg 12 J aT J J J<|k<|eql J J J J<|z<|nx<|cd (b:=decide (kd=7)) J J (fun b5=>?_)<|fun b5=>?_
  ·
   have p5:=dT b5
   refine rg<|aQ pW J s7<|bq kg 12 J aT J J J<|ak (v:=I j0) J J<|aq<|rg<|ai J eu<|aQ pW J s7<|bq kg 12 J aT J J J<|ai (v:=I j0) J J<|k ?_
   have vN:HI M w uY ([ym,J0,J1,oL w 175 a12 o0 pC,cb dQ o1,se,bU fT ([]:List ((Int×Int)×Bool))]++[mW,nN,J6,J5,J4,J3,J2]):=kg.bX [0,1,2,3,4,5,6,7,8,9,10,11,12,13] au J
   have TZ:=mL (cY:=gN) (aC:=aC) (aE:=aE) (aB:=aB) (aw:=aw) (av:=av) (U:=U) (ay:=ay) (ax:=ax) (fo:=fo) (eB:=a12) (eA:=pC) (sp:=o0) (bB:=dQ) (mp:=o1) (pn:=(U.length:Int)) (db:=jW) (da:=jV) (pr:=o2) (bL:=fT) (mq:=([]:List ((Int×Int)×Bool))) (f_:=j0) (t_:=j0) (w:=w) (w_:=uY) (r:=[mW,nN,J6,J5,J4,J3,J2]) (M:=M) aR BC BC hT aj aj (by exact ez) (by exact dB) bo vN
   refine ca zK J (ec J<|ec J<|ec J e0) TZ ?_
   rintro _ yr ⟨o3,o4,o5,ln,ll,rfl,mc,q2,q3⟩
   let vM:=box gN #[.slice aC aE aB,sL aw U av,sL ay fo ax,sL ln o4 ll,.map (some dQ),I (U.length:Int),sL jW o2 jV,.map (some fT)] 142
   have tW:HI M w yr (vM::J0::J1::oL w 175 ln o4 ll::cb dQ o5::fm):=mc
   refine aQ xY J s9<|k<|bw tW 10 J aT J J J J J J J ?_
   intro z1 (rN:HI M w z1 [vM,J0,J1,oL w 175 ln o4 ll,cb dQ o5,se,bU fT ([]:List ((Int×Int)×Bool)),mW,nN,J6,box fh #[I kd,I fD,I j0,I lN,I gz,.slice none 0 0,I o3,I (-1)] 33,J4,J3,J2])
   refine z<|aG<|cO<|ai J eu<|k<|nc J J<|aQ l8 J J<|bq rN 0 J nQ J J J<|aQ vC J s9<|k<|bw rN 10 J nQ J J J J J J J ?_
   let tl:=box fh #[I kd,I fD,I j0,I lN,I gz,sL ln o4 ll,I o3,I (-1)] 33
   intro KK (zv:HI M w KK [vM,J0,J1,oL w 175 ln o4 ll,cb dQ o5,se,bU fT ([]:List ((Int×Int)×Bool)),mW,nN,J6,tl,J4,J3,J2])
   refine bz<|k<|cB zv 10 J bT J s9 au J<|k<|bw zv 11 J bT J J s8 J J J J ?_
   intro Gf (qG:HI M w Gf [vM,J0,J1,oL w 175 ln o4 ll,cb dQ o5,se,bU fT ([]:List ((Int×Int)×Bool)),mW,nN,J6,tl,box bJ #[I kd,I fD,I j0,I lN,I gz,sL ln o4 ll,I o3,I (-1)] 33,J3,J2])
   refine ak (v:=I 0) J J<|aq<|rt<|iH qG 11 J bT J J J s8 J au ?_
   exact⟨o4,o3,(-1),ln,ll,J,qG.below,(qG.mB 3 J)⟩
  refine sk<|nx<|rg<|ai J eu<|aQ pW J s7<|bq kg 12 J aT J J J<|ai (v:=I fD) J J<|k ?_
  have vN:HI M w uY ([ym,J0,J1,oL w 175 a12 o0 pC,cb dQ o1,se,bU fT ([]:List ((Int×Int)×Bool))]++[mW,nN,J6,J5,J4,J3,J2]):=kg.bX [0,1,2,3,4,5,6,7,8,9,10,11,12,13] au J
  have TZ:=mL (cY:=gN) (aC:=aC) (aE:=aE) (aB:=aB) (aw:=aw) (av:=av) (U:=U) (ay:=ay) (ax:=ax) (fo:=fo) (eB:=a12) (eA:=pC) (sp:=o0) (bB:=dQ) (mp:=o1) (pn:=(U.length:Int)) (db:=jW) (da:=jV) (pr:=o2) (bL:=fT) (mq:=([]:List ((Int×Int)×Bool))) (f_:=j0) (t_:=fD) (w:=w) (w_:=uY) (r:=[mW,nN,J6,J5,J4,J3,J2]) (M:=M) aR BC GZ hT (by simp only[gj] at *;omega) aj (by exact ez) (by exact dB) bo vN
  refine ca zK J (ec J<|ec J<|ec J e0) TZ ?_
  rintro _ yr ⟨o3,o4,o5,ln,ll,rfl,mc,q2,q3⟩
  let uu:=box gN #[.slice aC aE aB,sL aw U av,sL ay fo ax,sL ln o4 ll,.map (some dQ),I (U.length:Int),sL jW o2 jV,.map (some fT)] 142
  let ur:=oL w 175 ln o4 ll
  have tW:HI M w yr (uu::J0::J1::ur::cb dQ o5::fm):=mc
  refine aQ xY J s9<|k<|bw tW 10 J aT J J J J J J J ?_
  intro z1 (rN:HI M w z1 [uu,J0,J1,ur,cb dQ o5,se,bU fT ([]:List ((Int×Int)×Bool)),mW,nN,J6,box fh #[I kd,I fD,I j0,I lN,I gz,.slice none 0 0,I o3,I (-1)] 33,J4,J3,J2])
  refine z<|aG<|cO<|ai J eu<|k<|nc J J<|aQ l8 J J<|bq rN 0 J nQ J J J<|aQ vC J s9<|k<|bw rN 10 J nQ J J J J J J J ?_
  let AS:=box fh #[I kd,I fD,I j0,I lN,I gz,sL ln o4 ll,I o3,I (-1)] 33
  intro KK (zv:HI M w KK [uu,J0,J1,ur,cb dQ o5,se,bU fT ([]:List ((Int×Int)×Bool)),mW,nN,J6,AS,J4,J3,J2])
  refine bz<|k<|cB zv 10 J bT J s9 au J<|k<|bw zv 11 J bT J J s8 J J J J ?_
  intro Gf (qG:HI M w Gf [uu,J0,J1,ur,cb dQ o5,se,bU fT ([]:List ((Int×Int)×Bool)),mW,nN,J6,AS,box bJ #[I kd,I fD,I j0,I lN,I gz,sL ln o4 ll,I o3,I (-1)] 33,J3,J2])
  refine ak (v:=I 0) J J<|aq<|rt<|iH qG 11 J bT J J J s8 J au ?_
  exact⟨o4,o3,(-1),ln,ll,J,qG.below,(qG.mB 3 J)⟩
 have p4:=dF b4
 refine rg<|k<|eql J J J J<|ak (v:=.bool (decide (kd=7))) J J<|z<|nx<|cd (b:=decide (kd=7)) J J (fun b5=>?_)<|fun b5=>?_
 ·
  have p5:=dT b5
  refine az<|k<|cB dt 10 J eh J s0 au J<|k ?_
  have eZ:=BN (U:=U) (fo:=fo) (aC:=aC) (aE:=aE) (aB:=aB) dt.mb (dt.rv 4 J) (dt.rv 5 J) (by exact ho) aj (by exact ez)<|by exact fL
  refine ca QG J (ec J e0) eZ ?_
  rintro _ w9 ⟨a4,c4,rfl,lC,fy⟩
  have cR:=dt.ext lC
  let rL:=iL a4 (cu U fo) c4
  have dI:=cR.put (it:=rL) J fy
  refine k<|al dI bp ?_
  intro AM dM l3 (dw:HI M w dM (box AM #[I 0,.slice none 0 0] 26::rL::J7::ba))
  refine k<|bw dw 0 J bp J J J J J J J ?_
  let qF:=box AM #[I (U.length:Int),sL a4 (cu U fo) c4] 26
  intro ee (cE:HI M w ee (qF::rL::J7::ba))
  refine aq<|sq<|lH [.r,.r,.r,.r,.r,.r,.r,.r,.r,.r,.r,.r,.e] (fun _=>True) J aS (fun _ _=>trivial)<|yq J J<|kq (fun _ _=>mv (v:=pV gN 0) J J e1)<|bH<|kq (fun _ _=>mv (v:=pV gN 0) J J e1)<|bH<|kq (fun _ _=>nc J J e1)<|bH<|kq (fun _ _=>fa rA J J e1)<|bH<|kq (fun _ x_=>cB (cE.ext x_) 2 J bp J J au J e1)<|bH<|kq (fun _ x_=>cB (cE.ext x_) 0 J bp J J au J e1)<|bH<|kq (fun _ _=>fa ph J s1 e1)<|bH<|kq (fun _ x_=>lx (cE.ext x_) 11 J aT J J J e1)<|zq<|yu J (fun _ v w'=>∃(a5:OA) (c5:Nat),v=sL a5 (bO (U.length:Int) (cu U fo) gz) c5∧RV cE.fS w' (sL a5 (bO (U.length:Int) (cu U fo) gz) c5) (bO (U.length:Int) (cu U fo) gz)) J nh J (fun v_ _ x_ _=>have nu:=u6 (mn:=(U.length:Int)) (mr:=(cu U fo)) (o:=gz) (w:=v_) (cE.ext x_).mb (hT.ext (cE.ext x_).below) aR ((cE.ext x_).rv 1 rfl) yX (by exact PL);ca Mq rfl (ec J<|ec J e0) nu (fun _ ij ⟨a6,c6,e_,Cj,je⟩=>⟨_,J,Cj,⟨a6,c6,e_,(bm.rv je (cE.ext x_).mb)⟩⟩))<|lL J (fun _ v w'=>∃(a8:OA) (c8:Nat),v=.agg #[I (U.length:Int),sL a8 (gp (U.length:Int) (kv U fo)<|bO (U.length:Int) (cu U fo) gz) c8]∧RV cE.fS w' (sL a8 (gp (U.length:Int) (kv U fo)<|bO (U.length:Int) (cu U fo) gz) c8) (gp (U.length:Int) (kv U fo)<|bO (U.length:Int) (cu U fo) gz)) 0 J J nh J (fun v_ _ _ x_ _ h_=>let ⟨a9,c9,s6,oU⟩:=h_;have iw:=(cE.ext x_).put (it:=iL a9 (bO (U.length:Int) (cu U fo) gz) c9) rfl oU;have DA:=zE (mn:=(U.length:Int)) (mr:=(kv U fo)) (l:=(bO (U.length:Int) (cu U fo) gz)) iw.mb aR (iw.rv 9 J) (iw.rv 0 J) (by exact A_) (by have h_:=uX PL gz;omega);ca VY rfl (ec J<|ec s6 e0) DA (fun _ nB ⟨jq,jo,e_,HB,nR⟩=>⟨_,J,HB,⟨jq,jo,e_,(ly J<|bm.rv nR iw.mb)⟩⟩))<|yq J J<|kq (fun _ _=>nc J J e1)<|bH<|kq (fun _ _=>fa rA J J e1)<|zq<|ye<|yz ?_
  intro rE f1 _ KD _ _ eD vm
  have nP:=cE.ext KD
  have s7:=(eD 3 J).trans s1
  have s8:=(eD 4 J).trans s2
  have s9:=(eD 6 J).trans s3
  have eu:=eD 7 J
  have fb:=eD 8 J
  obtain⟨mV,mU,fu,qM⟩:=vm 0 _ _ rfl
  let tk:=iL mV (gp (U.length:Int) (kv U fo) (bO (U.length:Int) (cu U fo) gz)) mU
  have jX:=nP.put (it:=tk) J qM
  have fl:=eD 88 J
  refine jw<|bw jX 3 J bp J J fl fu J J J ?_
  let oI:=box gN #[.slice aC aE aB,sL aw U av,sL ay fo ax,sL a3 ([]:List cN) c3,.map (some dQ),I (U.length:Int),sL mV (gp (U.length:Int) (kv U fo) (bO (U.length:Int) (cu U fo) gz)) mU,.map (some fT)] 142
  intro tn (rp:HI M w tn (tk::qF::rL::oI::ba))
  refine kz<|cO<|ai J eu<|k<|cB rp 1 J bp J fb au J<|aQ ph J s7<|bq rp 12 J aT J J J<|k ?_
  have kX:HI M w tn ([oI,J0,J1,J8,J9,tk,bU fT ([]:List ((Int×Int)×Bool)),rL]++[qF,J6,J5,J4,J3,J2]):=rp.bX [3,7,8,4,5,0,6,2,1,9,10,11,12,13] au J
  have T0:=IP (cY:=gN) (aC:=aC) (aE:=aE) (aB:=aB) (aw:=aw) (av:=av) (U:=U) (ay:=ay) (ax:=ax) (fo:=fo) (eB:=a3) (eA:=c3) (sp:=([]:List cN)) (bB:=dQ) (mp:=([]:KV)) (pn:=(U.length:Int)) (db:=mV) (da:=mU) (pr:=(gp (U.length:Int) (kv U fo)<|bO (U.length:Int) (cu U fo) gz)) (bL:=fT) (mq:=([]:List ((Int×Int)×Bool))) (mn:=(U.length:Int)) (bD:=a4) (bC:=c4) (mr:=(cu U fo)) (o:=gz) (w:=w) (w_:=tn) (r:=[qF,J6,J5,J4,J3,J2]) (M:=M) aR aR yX hT (by exact ho) (by exact dB) (by exact ez) (by exact fL) aj (by rfl) (by exact ab8 aj) aj (by exact Cl A_ _) (by simp only[gj];omega) kX
  refine ca adk J (ec J<|ec J<|ec J e0) T0 ?_
  rintro _ uY ⟨o0,o1,o2,a12,pC,jW,jV,rfl,AT,q0,q1⟩
  let zu:=box gN #[.slice aC aE aB,sL aw U av,sL ay fo ax,sL a12 o0 pC,.map (some dQ),I (U.length:Int),sL jW o2 jV,.map (some fT)] 142
  let vL:=iL jW o2 jV
  let kx:=[vL,bU fT ([]:List ((Int×Int)×Bool)),rL,qF,J6,J5,J4,J3,J2]
  have kg:HI M w uY (zu::J0::J1::oL w 175 a12 o0 pC::cb dQ o1::kx):=AT
  refine bz<|aQ r8 J s7<|bq kg 12 J aT J J J<|ak (v:=I fD) J J<|aq<|sq<|az<|aQ Dp J s7<|bq kg 12 J aT J J J<|k<|eql J J J J<|aq<|ot J J b5<|rg<|aQ pW J s7<|bq kg 12 J aT J J J<|ak (v:=I j0) J J<|aq<|rg<|ai J eu<|aQ pW J s7<|bq kg 12 J aT J J J<|ai (v:=I j0) J J<|k ?_
  have vN:HI M w uY ([zu,J0,J1,oL w 175 a12 o0 pC,cb dQ o1,vL,bU fT ([]:List ((Int×Int)×Bool))]++[rL,qF,J6,J5,J4,J3,J2]):=kg.bX [0,1,2,3,4,5,6,7,8,9,10,11,12,13] au J
  have TZ:=mL (cY:=gN) (aC:=aC) (aE:=aE) (aB:=aB) (aw:=aw) (av:=av) (U:=U) (ay:=ay) (ax:=ax) (fo:=fo) (eB:=a12) (eA:=pC) (sp:=o0) (bB:=dQ) (mp:=o1) (pn:=(U.length:Int)) (db:=jW) (da:=jV) (pr:=o2) (bL:=fT) (mq:=([]:List ((Int×Int)×Bool))) (f_:=j0) (t_:=j0) (w:=w) (w_:=uY) (r:=[rL,qF,J6,J5,J4,J3,J2]) (M:=M) aR BC BC hT (by simp only[gj] at *;omega) aj (by exact ez) (by exact dB) bo vN
  refine ca zK J (ec J<|ec J<|ec J e0) TZ ?_
  rintro _ yr ⟨o3,o4,o5,ln,ll,rfl,mc,q2,q3⟩
  let uq:=box gN #[.slice aC aE aB,sL aw U av,sL ay fo ax,sL ln o4 ll,.map (some dQ),I (U.length:Int),sL jW o2 jV,.map (some fT)] 142
  let zt:=oL w 175 ln o4 ll
  have tW:HI M w yr (uq::J0::J1::zt::cb dQ o5::kx):=mc
  refine aQ xY J s9<|k<|bw tW 10 J aT J J J J J J J ?_
  intro z1 (rN:HI M w z1 [uq,J0,J1,zt,cb dQ o5,vL,bU fT ([]:List ((Int×Int)×Bool)),rL,qF,J6,box fh #[I kd,I fD,I j0,I lN,I gz,.slice none 0 0,I o3,I (-1)] 33,J4,J3,J2])
  refine z<|aG<|cO<|ai J eu<|k<|nc J J<|aQ l8 J J<|bq rN 0 J nQ J J J<|aQ vC J s9<|k<|bw rN 10 J nQ J J J J J J J ?_
  let yl:=box fh #[I kd,I fD,I j0,I lN,I gz,sL ln o4 ll,I o3,I (-1)] 33
  intro KK (zv:HI M w KK [uq,J0,J1,zt,cb dQ o5,vL,bU fT ([]:List ((Int×Int)×Bool)),rL,qF,J6,yl,J4,J3,J2])
  refine bz<|k<|cB zv 10 J bT J s9 au J<|k<|bw zv 11 J bT J J s8 J J J J ?_
  intro Gf (qG:HI M w Gf [uq,J0,J1,zt,cb dQ o5,vL,bU fT ([]:List ((Int×Int)×Bool)),rL,qF,J6,yl,box bJ #[I kd,I fD,I j0,I lN,I gz,sL ln o4 ll,I o3,I (-1)] 33,J3,J2])
  refine ak (v:=I 0) J J<|aq<|rt<|iH qG 11 J bT J J J s8 J au ?_
  exact⟨o4,o3,(-1),ln,ll,J,qG.below,(qG.mB 3 J)⟩
 refine sk<|aG<|cO<|ai (v:=pV gN 0) J J<|k<|nc J J<|aQ l8 J J<|bq dt 0 J nQ J J J<|aQ vC J s3<|k<|bw dt 7 J nQ J J J J J J J ?_
 let zr:=box fh #[I kd,I fD,I j0,I lN,I gz,sL a3 ([]:List cN) c3,I (-1),I (-1)] 33
 intro w9 (cR:HI M w w9 [J7,J8,J9,bU fT ([]:List ((Int×Int)×Bool)),J0,J1,J6,zr,J4,J3,J2])
 refine bz<|k<|cB cR 7 J bT J s3 au J<|k<|bw cR 8 J bT J J s2 J J J J ?_
 intro dM (dI:HI M w dM [J7,J8,J9,bU fT ([]:List ((Int×Int)×Bool)),J0,J1,J6,zr,box bJ #[I kd,I fD,I j0,I lN,I gz,sL a3 ([]:List cN) c3,I (-1),I (-1)] 33,J3,J2])
 refine ak (v:=I 0) J J<|aq<|rt<|iH dI 8 J bT J J J s2 J au ?_
 exact⟨([]:List cN),(-1),(-1),a3,c3,J,dI.below,(dI.mB 1 J)⟩
theorem P2 (hM:eO M w) (hT:fU 0 w) (dL:cD M w aw av U) (gb:cD M w ay ax fo) (pH:aJ lv) (ho:ig U) (dB:U.length≤64) (ez:fo.length=U.length) (fL:∀x∈fo,x<((U.length:Nat):Int)) (L_:lv=1∨lv=2∨lv=3):Calls aI 29 #[.agg #[.slice aC aE aB,sL aw U av,sL ay fo ax],I lv] w (cp fun v w'=>∃(k_:Int) (r_:Int) (a_:Int) (b_:Int) (o_:Int) (iA:List cN) (f_:Int) (s_:Int) (a0:OA) (c0:Nat),v=.tuple #[.agg #[I k_,I r_,I a_,I b_,I o_,sL a0 iA c0,I f_,I s_],I (fg U fo lv)]∧Ext w w'∧cD M w' a0 c0 iA∧qE (iN U fo lv) k_ r_ a_ b_ o_):=by
 refine dG 23 Tryz.func29 J J J hM fun f0 ha H=>?_
 let J0:=iL aw U av
 have H0:=H.put (it:=J0) J<|by rw[bP];exact dL
 let J1:=iL ay fo ax
 have H1:=H0.put (it:=J1) J<|by rw[aD rfl,bP];exact gb
 have i0:f0 0=.agg #[.slice aC aE aB,sL aw U av,sL ay fo ax]:=ha 0 bl
 have i1:f0 1=I lv:=ha 1 bl
 refine az<|k<|bx H1 J i0 ?_
 intro aZ w0 bY (H2:HI M w w0 [box aZ #[.slice aC aE aB,sL aw U av,sL ay fo ax] 47,J1,J0])
 let J2:=box aZ #[.slice aC aE aB,sL aw U av,sL ay fo ax] 47
 refine k<|al H2 bT ?_
 intro aY w1 cT (H3:HI M w w1 [box aY #[I 0,I 0,I 0,I 0,I 0,.slice none 0 0,I 0,I 0] 33,J2,J1,J0])
 let J3:=box aY #[I 0,I 0,I 0,I 0,I 0,.slice none 0 0,I 0,I 0] 33
 refine ak (v:=I 0) J J<|bz<|k<|cB H3 1 J eh J J au J<|ai J i1<|k ?_
 have bS:=MV (U:=U) (fo:=fo) (lv:=lv) (aC:=aC) (aE:=aE) (aB:=aB) H3.mb (hT.ext H3.below) (H3.rv 3 J) (H3.rv 2 J) pH (by exact ho) (by exact dB) (by exact ez) (by exact fL)<|by exact L_
 refine ca adt J (ec J<|ec J e0) bS ?_
 rintro _ w2 ⟨o0,o1,o2,o3,o4,o5,o6,rfl,fk,q0⟩
 have H4:=H3.ext fk
 refine ai (v:=.tuple #[.agg #[I o0,I o1,I o2,I o3,I o4,.slice none 0 0,I o5,I o6],I (fg U fo lv)]) J J<|k<|xt J J J<|k<|xt J J J<|k<|al H4 bT ?_
 intro bJ w3 fN (H5:HI M w w3 [box bJ #[I 0,I 0,I 0,I 0,I 0,.slice none 0 0,I 0,I 0] 33,J3,J2,J1,J0])
 refine k<|bw H5 0 J bT J J J J J J J ?_
 let J4:=box bJ #[I o0,I o1,I o2,I o3,I o4,.slice none 0 0,I o5,I o6] 33
 intro w4 (H6:HI M w w4 [J4,J3,J2,J1,J0])
 refine ak (v:=I (fg U fo lv)) J J<|aq<|sq<|az<|ai (v:=I (fg U fo lv)) J J<|k<|neq J J J J<|z<|nx<|cd (b:=!decide ((fg U fo lv)=0)) J J (fun b0=>?_)<|fun b0=>?_
 ·
  have p0:=dF<|gl b0
  refine az<|k<|bd (v:=.agg #[I 0,I 0,I 0,I 0,I 0,.slice none 0 0,I 0,I 0]) J ew (fun _=>aS)<|ai (v:=I (fg U fo lv)) J J<|k<|bw H6 1 J bT J J J J J J J ?_
  intro w5 (H7:HI M w w5 [J4,J3,J2,J1,J0])
  refine ak (v:=I (fg U fo lv)) J J<|aq<|rt<|aK<|iH H7 1 J bT J J J J J au ?_
  exact⟨0,0,0,0,0,([]:List cN),0,0,none,0,J,H7.below,(eF _ _),(by exact uv (Il<|dF<|gl ‹(!decide (fg U fo lv=0))=true›) NZ)⟩
 have p0:=dT<|fA b0
 refine sk<|cO<|k<|cB H6 2 J eh J J au J<|k<|cB H6 0 J bT J J au J<|k ?_
 have cU:=UY (U:=U) (fo:=fo) (kd:=o0) (fD:=o1) (j0:=o2) (lN:=o3) (gz:=o4) (aC:=aC) (aE:=aE) (aB:=aB) (Hu:=none) (Gz:=0) (Hn:=0) (Th:=(I o5)) (kf:=(I o6)) H6.mb (hT.ext H6.below) (H6.rv 4 J) (H6.rv 3 J) (by exact q0.1.k) (by exact q0.1.r) (by exact q0.1.a) (by exact q0.1.b) (by exact q0.1.o) (by exact ho) (by exact dB) (by exact ez) (by exact fL)<|by exact Z3 q0 (dT<|fA ‹(!decide (fg U fo lv=0))=false›)
 refine ca ai1 J (ec J<|ec J e0) cU ?_
 rintro _ w5 ⟨o7,o8,o9,a0,c0,rfl,iP,cw⟩
 have H7:=H6.ext iP
 have H8:=eG H7 cw
 refine k<|xt J J J<|k<|xt J J J<|k<|bw H8 2 J bT J J J J J J J ?_
 intro w6 (H9:HI M w w6 [iL a0 o7 c0,J4,box aY #[I o0,I o1,I o2,I o3,I o4,sL a0 o7 c0,I o8,I o9] 33,J2,J1,J0])
 refine ak (v:=I 0) J J<|aq<|rt<|iH H9 2 J bT J J J J J au ?_
 have e8:(0:Int)=fg U fo lv:=by exact(dT<|fA ‹(!decide (fg U fo lv=0))=false›).symm
 have bu:=iK (fun (lM:Int)=>(.tuple #[.agg #[I o0,I o1,I o2,I o3,I o4,.slice a0 o7.length c0,I o8,I o9],I lM]:Value)) e8
 exact⟨o0,o1,o2,o3,o4,o7,o8,o9,a0,c0,bu,H9.below,(H9.gf 0 J),(by exact q0)⟩
theorem aiQ:cA aI 91:=cI Tryz.func91
theorem aiR:cA aI 90:=cI Tryz.func90
theorem PB (hM:eO M w) (S_:cD M w wE wC a) (De:cD M w wD wB b) (ue:a.length≤b.length) (aim:a.length≤1000000000):Calls aI 91 #[sL wE a wC,sL wD b wB] w (cp fun v w'=>v=.bool (pd a b)∧Ext w w'):=by
 refine dG 22 Tryz.func91 J J J hM fun f0 ha H=>?_
 have H0:=eG H S_
 have H1:=eG H0 De
 have ahW:=bj S_
 have ahV:=bj De
 have i0:f0 0=sL wE a wC:=ha 0 bl
 have i1:f0 1=sL wD b wB:=ha 1 bl
 refine az<|ak (v:=.bool false) J J<|aq<|sq<|az<|ai J i0<|k<|dD J J iq<|ai (v:=I 0) J J<|aq<|bk<|lp (fun m f w'=>∃(j_:Nat),m=a.length-j_∧f 1=sL wD b wB∧f 7=sL wE a wC∧f 8=I (a.length:Int)∧f 9=I (j_:Int)∧HI M w w' [iL wD b wB,iL wE a wC]∧(j_≤a.length)∧(∀q,q<j_→Kg a b q=false)) _ ⟨0,J,i1,J,J,(bG J),H1,aj,(by intro q h;omega)⟩ ?_
 rintro _ f0 w0 ⟨j_,rfl,s0,s1,s2,s3,H2,pA,hs⟩
 refine az<|k<|lss J J s3 s2<|aq<|sq<|cd (b:=decide ((j_:Int)<(a.length:Int))) J J (fun b0=>?_)<|fun b0=>?_
 ·
  have p0:=dT b0
  refine sk<|nx<|sq<|bk<|az<|ai J s3<|k<|ia (H2.rv 1 J) J J s1 s3 aj iq fw ?_
  intro iE x0 aM cz
  refine k<|yL cz.w fw J J<|ak (v:=I (j_:Int)) J J<|ak (v:=ag x0) J J<|bz<|ai (v:=ag x0) J J<|ai J s0<|ai (v:=I (j_:Int)) J J<|k<|ia (H2.rv 0 J) J J J J aj iq fw ?_
  intro rK x1 cQ gL
  refine k<|yL gL.w fw J J<|k<|DE x0 x1 J J J J<|k<|neU (x0 &&& x1) (0#64) J J J J<|z<|nx<|cd (b:=!decide ((x0 &&& x1)=(0#64))) J J (fun b1=>?_)<|fun b1=>?_
  ·
   have p1:=dF<|gl b1
   refine az<|ak (v:=.bool true) J J<|aq<|rt<|bR<|aK<|dX<|bR<|aK<|r1 J J ?_
   exact⟨am_ Value.bool (by exact aei (j:=j_) aj (by simp only[Kg,jt aM,jt cQ,b0,(gl b1),BL])),H2.below⟩
  have p1:=dT<|fA b1
  refine sk<|aG<|nx<|rg<|k<|add J J s3 J aR<|ai (v:=I ((j_:Int)+1)) J J<|z<|bF _ ?_ ⟨(j_+1),J,s0,s1,s2,(bG J),H2,aj,(by exact sG hs (by simp only[Kg,jt aM,jt cQ,b0,(fA b1),BL]))⟩
  omega
 have p0:=dF b0
 refine ex<|aV<|bc<|bg<|cO<|ak (v:=.bool false) J J<|aq<|rt<|r1 J J ?_
 exact⟨am_ Value.bool (by exact aas hs aj),H2.below⟩
theorem PC {MX:Nat} {W_:TypeId} {MW:Nat} {W9:TypeId} {WW:OA} {Wy:Nat} {lf:List bt} (hM:eO M w) (acY:aJ x_) (ga:aJ mn) (gv:cD M w bD bC mr) (aix:cD M w WW Wy lf) (aiH:w.heap[MX]? =some (.cells #[I mn,sL bD mr bC] W_ (0,0))∧¬M MX) (aiG:w.heap[MW]? =some (.cells #[sL WW lf Wy] W9 (0,0))∧¬M MW) (bZ:bK mn mr=true) (pe:0≤x_∧x_<mn) (ail:lf.length=words mn):Calls aI 90 #[I x_,.pointer (some ⟨MX,0,none⟩),.pointer (some ⟨MW,0,none⟩)] w (cp fun v w'=>v=.bool (!(pd (mr.getD x_.toNat []) lf))∧Ext w w'):=by
 refine dG 13 Tryz.func90 J J J hM fun f0 ha H=>?_
 have H0:=eG H gv
 have H1:=eG H0 aix
 have i0:f0 0=I x_:=ha 0 bl
 have H2:=H1.put (it:=ro MX #[I mn,sL bD mr bC] W_) J<|by rw[aD rfl,aD rfl,bP];exact aiH
 have i1:f0 1=pV MX 0:=ha 1 bl
 have H3:=H2.put (it:=ro MW #[sL WW lf Wy] W9) J<|by rw[aD rfl,aD rfl,aD rfl,bP];exact aiG
 have i2:f0 2=pV MW 0:=ha 2 bl
 have alJ:=(bQ bZ).1
 refine az<|ak (v:=.bool false) J J<|aq<|sq<|zb J aS<|kq (fun _ _=>fa iD J i1 e1)<|kq (fun _ x_=>lr (H3.ext x_) 1 J lb J J J e1)<|kq (fun _ _=>mv J i0 e1)<|rQ (H3.rv 3 J) J J J J aj im dm ?_
 intro iE x0 aM cz
 refine Bb cz.w dm J J ?_
 intro a0 c0 cw
 have H4:=eG H3 cw
 refine kq (fun _ x_=>lr (H4.ext x_) 1 J dm J i2 J e1)<|kq (v:=.bool (pd x0 lf)) (fun v_ x_=>?_) ?_
 ·
  have cc:=PB (a:=x0) (b:=lf) (w:=v_) (H4.ext x_).mb ((H4.ext x_).rv 0 rfl) ((H4.ext x_).rv 3 rfl) (by rw[ail,nY bZ aM];exact ane _)<|by exact(bQ bZ).2.1 _ (dC aM)
  exact ca aiQ J (ec J<|ec J e0) cc fun _ _ h_=>e2 h_
 refine kq (fun _ _=>jY J J e1)<|kq (fun _ _=>jO (v:=.bool (!(pd x0 lf))) J J e1)<|zq ?_
 intro w0 bY
 have H5:=H4.ext bY
 refine nx<|rt<|r1 J J ?_
 exact⟨am_ Value.bool (by rw[show mr.getD x_.toNat []=x0 from by rw[ik,aM];rfl]),H5.below⟩
theorem yw {Ga:OA} {F4:Nat} {nd:aA} (hM:eO M w) (hT:fU 0 w) (ga:aJ mn) (gv:cD M w bD bC mr) (ac2:cD M w Ga F4 nd) (bZ:bK mn mr=true) (ami:nd.length≤8192):Calls aI 56 #[.agg #[I mn,sL bD mr bC],sL Ga nd F4] w (cp fun v w'=>∃(a0:OA) (c0:Nat),v=.tuple #[.slice a0 ((dK mn mr nd).1).length c0,I ((dK mn mr nd).2)]∧Ext w w'∧bm M 3 w ((dK mn mr nd).1) (.slice a0 ((dK mn mr nd).1).length c0) w'):=by
 refine dG 76 Tryz.func56 J J J hM fun f0 ha H=>?_
 let J0:=iL bD mr bC
 have H0:=H.put (it:=J0) J<|by rw[bP];exact gv
 let J1:=iL Ga nd F4
 have H1:=H0.put (it:=J1) J<|by rw[aD rfl,bP];exact ac2
 have nz:=bj gv
 have alB:=bj ac2
 have i0:f0 0=.agg #[I mn,sL bD mr bC]:=ha 0 bl
 have i1:f0 1=sL Ga nd F4:=ha 1 bl
 have Jp:=(bQ bZ).2.2.1
 have hw_:words mn≤64:=by have h_:=(bQ bZ).2.2.1;unfold words;omega
 have ahP:=Gi bZ
 refine az<|k<|bx H1 J i0 ?_
 intro aZ w0 bY (H2:HI M w w0 [box aZ #[I mn,sL bD mr bC] 26,J1,J0])
 let J2:=box aZ #[I mn,sL bD mr bC] 26
 refine ak (v:=.slice none 0 0) J J<|ak (v:=I 0) J J<|bz<|aQ ku J J<|bq H2 0 J aT J J J<|k ?_
 have bS:=DW (n:=mn) H2.mb ga aj
 refine ca QB J (ec J e0) bS ?_
 rintro _ w1 ⟨a0,c0,rfl,cT,cw⟩
 have H3:=H2.eT cw
 refine k<|al H3 dm ?_
 let ba:=[J2,J1,J0]
 intro aY w2 fk (H4:HI M w w2 (box aY #[.slice none 0 0] 144::oL w 151 a0 (eb mn) c0::ba))
 refine k<|bw H4 0 J dm J J J J J J J ?_
 intro w3 (H5:HI M w w3 (box aY #[sL a0 (eb mn) c0] 144::oL w 151 a0 (eb mn) c0::ba))
 refine aq<|sq<|az<|ai J i1<|k<|dD J J cG<|ai (v:=I 0) J J<|aq<|bk<|lp (fun m f w'=>∃(j_:Nat) (vh:List bt) (a1:OA) (c1:Nat),m=nd.length-j_∧f 1=sL Ga nd F4∧f 2=pV aZ 0∧f 6=pV aY 0∧f 16=sL Ga nd F4∧f 17=I (nd.length:Int)∧f 18=I (j_:Int)∧HI M w w' (box aY #[sL a1 vh c1] 144::oL w 151 a1 vh c1::ba)∧(j_≤nd.length)∧(BX mn vh)∧(rr mn nd (eb mn)=rr mn (nd.drop j_) vh)) _ ⟨0,(eb mn),a0,c0,J,i1,J,J,J,J,(bG J),H5,aj,(by exact ZC),(by rw[apN])⟩ ?_
 rintro _ f0 w4 ⟨j_,vh,a1,c1,rfl,s0,s1,s2,s3,s4,s5,H6,pA,hs,hb⟩
 refine az<|k<|lss J J s5 s4<|aq<|sq<|cd (b:=decide ((j_:Int)<(nd.length:Int))) J J (fun b0=>?_)<|fun b0=>?_
 ·
  have p0:=dT b0
  refine sk<|nx<|sq<|bk<|sq ?_
  have HY:=hs.1
  refine rg<|k<|ia (H6.rv 3 J) J J s3 s5 aj cG aT ?_
  intro iE x0 aM cz
  refine k<|mw cz.w aT J J ?_
  intro d_
  refine ak (v:=I x0) J J<|aq<|sq<|az<|ai (v:=I x0) J J<|k<|lss J J J J<|ai (v:=.bool (decide (x0<0))) J J ?_
  rcases bE (decide (x0<0)) with b1|b1
  ·
   have p1:=dT b1
   refine aW J J J b1<|aW J J J b1<|aW J J J b1<|aW J J J b1<|k<|aP J J J J b1 J<|ai (v:=.bool true) J J<|aW J J J J<|aW J J J J<|aW J J J J<|k<|aP J J J J J J<|aq<|ot J J J<|az<|ak (v:=.slice none 0 0) J J<|ak (v:=I 1) J J<|aq<|rt<|aK<|bR<|aK<|dX<|bR<|aK ?_
   have za:=KS (rs:=mr) hb aM<|.inl aj
   refine r2 J J J ?_
   have e0:([]:aA)=(dK mn mr nd).1:=by rw[za]
   have e1:(1:Int)=(dK mn mr nd).2:=by rw[za]
   have bu:=nL (fun (cg:aA) (dY:Int)=>(.tuple #[.slice none cg.length 0,I dY]:Value)) e0 e1
   exact⟨none,0,bu,H6.below,(am_ (fun (x_:aA)=>bm _ _ _ x_ (.slice none x_.length 0) _) e0).mp (fR H6.below)⟩
  have p1:=dF b1
  refine bh J J J b1<|mv (v:=I x0) J J<|bh J J J b1<|fa ku J s1<|bh J J J b1<|lx H6 2 J aT J J J<|bh J J J b1<|geq J J J J<|k<|dA J J J J b1 J<|ai (v:=.bool (decide (mn≤x0))) J J ?_
  rcases bE (decide (mn≤x0)) with b2|b2
  ·
   have p2:=dT b2
   refine aW J J J b2<|aW J J J b2<|aW J J J b2<|k<|aP J J J J b2 J<|aq<|ot J J J<|az<|ak (v:=.slice none 0 0) J J<|ak (v:=I 1) J J<|aq<|rt<|aK<|bR<|aK<|dX<|bR<|aK ?_
   have za:=KS (rs:=mr) hb aM<|.inr (.inl aj)
   refine r2 J J J ?_
   have e0:([]:aA)=(dK mn mr nd).1:=by rw[za]
   have e1:(1:Int)=(dK mn mr nd).2:=by rw[za]
   have bu:=nL (fun (cg:aA) (dY:Int)=>(.tuple #[.slice none cg.length 0,I dY]:Value)) e0 e1
   exact⟨none,0,bu,H6.below,(am_ (fun (x_:aA)=>bm _ _ _ x_ (.slice none x_.length 0) _) e0).mp (fR H6.below)⟩
  have p2:=dF b2
  refine bh J J J b2<|lx H6 0 J dm J s2 J<|bh J J J b2<|mv (v:=I x0) J J<|bh J J J b2 ?_
  have H7:=H6.freeze 1 J
  have cU:=Ac (r:=vh) (i:=x0) H7.mb (H7.rv 1 J) d_
  refine ca Mp J (ec J<|ec J e0) cU ?_
  rintro _ w5 ⟨rfl,fN⟩
  have H8:=H6.ext fN
  refine k<|dA J J J J b2 J<|z<|nx<|cd (b:=fq vh x0) J J (fun b3=>?_)<|fun b3=>?_
  ·
   refine az<|ak (v:=.slice none 0 0) J J<|ak (v:=I 1) J J<|aq<|rt<|aK<|bR<|aK<|dX<|bR<|aK ?_
   have za:=KS (rs:=mr) hb aM<|.inr (.inr bo)
   refine r2 J J J ?_
   have e0:([]:aA)=(dK mn mr nd).1:=by rw[za]
   have e1:(1:Int)=(dK mn mr nd).2:=by rw[za]
   have bu:=nL (fun (cg:aA) (dY:Int)=>(.tuple #[.slice none cg.length 0,I dY]:Value)) e0 e1
   exact⟨none,0,bu,H8.below,(am_ (fun (x_:aA)=>bm _ _ _ x_ (.slice none x_.length 0) _) e0).mp (fR H8.below)⟩
  refine sk<|nx<|rg<|bq H8 0 J dm J s2 J<|ai (v:=I x0) J J<|k ?_
  have H9:=H8.freeze 1 J
  have fP:=uz (r:=vh) (i:=x0) H9.mb (H9.rv 1 J) d_ aj
  refine ca FK J (ec J<|ec J e0) fP ?_
  rintro _ w6 ⟨a2,c2,rfl,iP,dZ⟩
  have dO:=H9.eT dZ
  refine k<|bw dO 1 J dm J J s2 J J J J ?_
  intro w7 (cV:HI M w w7 (oL w 151 a2 (ej vh x0) c2::box aY #[sL a2 (ej vh x0) c2] 144::iL a1 vh c1::ba))
  refine z<|aG<|nx<|rg<|k<|add J J s5 J aR<|ai (v:=I ((j_:Int)+1)) J J<|z ?_
  have du:HI M w w7 (box aY #[sL a2 (ej vh x0) c2] 144::oL w 151 a2 (ej vh x0) c2::ba):=cV.bX [1,0,3,4,5] au J
  refine bF _ ?_ ⟨(j_+1),(ej vh x0),a2,c2,J,s0,s1,s2,s3,s4,(bG J),du,aj,(by exact ZB hs aj aj),(by exact Y4 hb aM aj aj bo)⟩
  omega
 have p0:=dF b0
 refine ex<|aV<|bc<|bg<|nx<|sq ?_
 have HY:=hs.1
 refine rg<|k<|cB H6 2 J bp J s1 au J<|k ?_
 have cU:=Fy (mn:=mn) (mr:=mr) H6.mb (hT.ext H6.below) ga (H6.rv 4 J)<|by exact bZ
 refine ca VX J (ec J e0) cU ?_
 rintro _ w5 ⟨a2,c2,rfl,fN,d_⟩
 have H7:=H6.eT d_
 refine k<|al H7 bp ?_
 let J3:=oL w 144 a2 (gH mn mr) c2
 let J4:=box aY #[sL a1 vh c1] 144
 let bV:=J3::J4::oL w 151 a1 vh c1::ba
 intro bJ w6 iP (H8:HI M w w6 (box bJ #[I 0,.slice none 0 0] 26::bV))
 refine k<|bw H8 0 J bp J J J J J J J ?_
 let J5:=box bJ #[I mn,sL a2 (gH mn mr) c2] 26
 intro w7 (H9:HI M w w7 (J5::bV))
 refine bz<|ai J s0<|k<|dD J J cG<|k<|mk0 (α:=Int) (m:=nd.length) H9 J J J J cG aT aj aj ?_
 intro g0 w8 jc (dO:HI M w w8 (own w.heap.size 3 (.slice (some ⟨g0,0,none⟩) 0 nd.length) ([]:aA)::J5::bV))
 refine ak (v:=.slice (some ⟨g0,0,none⟩) 0 nd.length) J J<|aq<|sq<|bk<|lp (fun m f w'=>∃(wc:aA) (jB:List bt) (a3:OA) (c3:Nat) (a4:OA) (c4:Nat),m=nd.length-wc.length∧f 1=sL Ga nd F4∧f 6=pV aY 0∧f 9=pV bJ 0∧f 10=sL a3 wc c3∧HI M w w' [oL w 3 a3 wc c3,J5,J3,box aY #[sL a4 jB c4] 144,oL w 151 a4 jB c4,J2,J1,J0]∧(wc.length≤nd.length)∧(BX mn jB)∧(dK mn mr nd=A0 (gH mn mr) (nd.length-wc.length) jB wc)) _ ⟨([]:aA),vh,(some ⟨g0,0,none⟩),nd.length,a1,c1,J,s0,s2,J,J,dO,bl,(by exact hs),(by exact UB hb aj)⟩ ?_
 rintro _ f1 w9 ⟨wc,jB,a3,c3,a4,c4,rfl,s6,s7,s8,s9,cV,aip,gK,ht⟩
 refine sq<|az<|ai J s9<|k<|dD J J cG<|ai J s6<|k<|dD J J cG<|k<|lss J J J J<|z<|nx<|cd (b:=decide ((wc.length:Int)<(nd.length:Int))) J J (fun b1=>?_)<|fun b1=>?_
 ·
  have p1:=dT b1
  refine sk<|nx<|bk<|sq ?_
  have HY:=gK.1
  refine rg<|bq cV 3 J dm J s7 J<|k ?_
  have du:=cV.freeze 4 J
  have fP:=uA (r:=jB) du.mb (hT.ext du.below) (du.rv 4 J) aj
  refine ca Ib J (ec J e0) fP ?_
  rintro _ dM ⟨a5,c5,rfl,jK,dZ⟩
  have dJ:=cV.eT<|bm.anyM dZ
  refine k<|mf2 J (Xu s8<|Xu s7 mf0)<|k ?_
  have cM:=dJ.freeze 0 J
  have eZ:=vX (r:=(cX jB)) (p:=(fun (x_:Int)=>(!(pd ((gH mn mr).getD x_.toNat []) jB)))) cM.mb (cM.rv 0 J) ⟨aiR,fun w_ v_ x_ pe e_ B5=>by have H_:=cM.ext e_;obtain⟨_,⟨rfl,fy⟩,rfl⟩:=B5;exact PC (mn:=mn) (mr:=(gH mn mr)) (lf:=jB) (M:=fun _=>False) (fun _ h_=>h_.elim) fy bo ((H_.mB 3 J).lift (Up.less fun _ _ h_=>h_.elim)) ((H_.mB 5 J).lift (Up.less fun _ _ h_=>h_.elim)) ⟨H_.at_ 2 rfl,fun h_=>h_⟩ ⟨H_.at_ 4 rfl,fun h_=>h_⟩ (by exact ahP) (by exact gK.2 _ pe) (by exact gK.1)⟩
  refine ca VW J (ec J<|ec J e0) eZ ?_
  rintro _ ee ⟨rfl,lC⟩
  have dU:=dJ.ext lC
  refine ak (v:=I (eM (fun (x_:Int)=>(!(pd ((gH mn mr).getD x_.toNat []) jB)))<|cX jB)) J J<|aq<|sq<|sq ?_
  have amp:=ZN (p:=(fun (x_:Int)=>(!(pd ((gH mn mr).getD x_.toNat []) jB)))) (r:=cX jB)
  have aij:=fun (q_:Nat) (x_:Int) (h_:(cX jB)[q_]? =some x_)=>abN gK h_
  refine rg<|ai (v:=I (eM (fun (x_:Int)=>(!(pd ((gH mn mr).getD x_.toNat []) jB)))<|cX jB)) J J<|k<|lss J J J J<|z<|nx<|cd (b:=decide ((eM (fun (x_:Int)=>(!(pd ((gH mn mr).getD x_.toNat []) jB)))<|cX jB)<0)) J J (fun b2=>?_)<|fun b2=>?_
  ·
   have p2:=dT b2
   refine az<|ak (v:=.slice none 0 0) J J<|ak (v:=I 7) J J<|aq<|rt<|aK<|bR<|dX<|bR<|aK ?_
   have za:=aeP ht aj<|show eM (fun (x_:Int)=>(!(pd ((gH mn mr).getD x_.toNat []) jB))) (cX jB)<0 from by omega
   refine r2 J J J ?_
   have e0:([]:aA)=(dK mn mr nd).1:=by rw[za]
   have e1:(7:Int)=(dK mn mr nd).2:=by rw[za]
   have bu:=nL (fun (cg:aA) (dY:Int)=>(.tuple #[.slice none cg.length 0,I dY]:Value)) e0 e1
   exact⟨none,0,bu,dU.below,(am_ (fun (x_:aA)=>bm _ _ _ x_ (.slice none x_.length 0) _) e0).mp (fR dU.below)⟩
  have p2:=dF b2
  refine sk<|cO<|bq dU 4 J dm J s7 J<|k ?_
  have dt:=dU.freeze 5 J
  have mx:=uA (r:=jB) dt.mb (hT.ext dt.below) (dt.rv 5 J) aj
  refine ca Ib J (ec J e0) mx ?_
  rintro _ ft ⟨a6,c6,rfl,l3,iT⟩
  have cR:=dU.eT<|bm.anyM iT
  refine ai (v:=I (eM (fun (x_:Int)=>(!(pd ((gH mn mr).getD x_.toNat []) jB)))<|cX jB)) J J<|k<|gW (cR.at_ 0 J) J J J J aj cG aT ?_
  intro g1 x0 iC aM cz
  refine k<|mw cz aT J J ?_
  intro jS
  refine ak (v:=I x0) J J<|aq<|sq ?_
  obtain⟨ah2,ah1⟩:=aij _ _ aM
  have al4:=Vw gK ah2 ah1
  refine rg<|bq cR 5 J dm J s7 J<|ai (v:=I x0) J J<|k<|K8 J J J J<|k<|gW (cR.at_ 6 J) J J J J aj iq fw ?_
  intro g2 x1 kn cQ gL
  refine k<|yL gL fw J J<|ai (v:=I x0) J J<|k<|KA J J J J<|k<|Pb J J BY DT<|k<|aaX (1#64) ((BitVec.ofInt 64<|x0%64).toNat:Int) aj J J J J<|k<|aar x1 ((1#64) <<< ((BitVec.ofInt 64<|x0%64).toNat:Int).toNat) J J J J<|k<|gW (cR.at_ 6 J) J J J J aj iq fw ?_
  intro g3 x2 vk jf kV
  refine k<|oQ cR 6 J vk J aj fw J J J J (RV.bv.2 J) ?_
  let J6:=box aY #[sL a4 jB c4] 144
  let J7:=own w.heap.size 151 (.slice a4 jB.length c4) (jB.set ((x0/64).toNat) (x1 &&& ~~~((1#64) <<< ((BitVec.ofInt 64 (x0%64)).toNat:Int).toNat)))
  intro ij (dI:HI M w ij [oL w 3 a6 (cX jB) c6,oL w 3 a5 (cX jB) c5,oL w 3 a3 wc c3,J5,J3,J6,J7,J2,J1,J0])
  refine aq<|rg<|ai J s9<|ai (v:=I x0) J J<|k<|bs (xs:=([x0]:aA)) (cells:=#[I x0]) (e:=3) dI J (cm J ew) (fun _=>aS) ⟨[I x0],[],J,⟨J,(show aJ (x0) from bo)⟩,J⟩ J au ?_
  intro g4 jv yp dw
  refine k<|lY dw 3 J J J J J J (gY<|dw.at_ 0 J) cG aT J (by simp;omega) J ?_
  intro a7 c7 nB (cE:HI M w nB [own w.heap.size 3 (.slice (some ⟨g4,0,none⟩) 1 1) ([x0]:aA),oL w 3 a6 (cX jB) c6,oL w 3 a5 (cX jB) c5,oL w 3 a7 (wc++([x0]:aA)) c7,J5,J3,J6,J7,J2,J1,J0])
  refine ak (v:=sL a7 (wc++([x0]:aA)) c7) J J<|z<|aG ?_
  have df:HI M w nB [oL w 3 a7 (wc++([x0]:aA)) c7,J5,J3,J6,J7,J2,J1,J0]:=cE.bX [3,4,5,6,7,8,9,10] au J
  have dH:HI M w nB [oL w 3 a7 (wc++([x0]:aA)) c7,J5,J3,box aY #[sL a4 (jB.set ((x0/64).toNat) (x1 &&& ~~~((1#64) <<< ((BitVec.ofInt 64 (x0%64)).toNat:Int).toNat))) c4] 144,own w.heap.size 151 (.slice a4 (jB.set ((x0/64).toNat) (x1 &&& ~~~((1#64) <<< ((BitVec.ofInt 64 (x0%64)).toNat:Int).toNat))).length c4) (jB.set ((x0/64).toNat) (x1 &&& ~~~((1#64) <<< ((BitVec.ofInt 64 (x0%64)).toNat:Int).toNat))),J2,J1,J0]:=by simpa +zetaDelta only[sL,am'] using df
  refine bF _ ?_ ⟨(wc++([x0]:aA)),(jB.set ((x0/64).toNat) (x1 &&& ~~~((1#64) <<< ((BitVec.ofInt 64<|x0%64).toNat:Int).toNat))),a7,c7,a4,c4,J,s6,s7,s8,J,dH,(by rw[fF,iI,gj];omega),(by exact ZD gK ‹_›),(by exact Y3 ht aj (show ¬eM (fun (x_:Int)=>(!(pd ((gH mn mr).getD x_.toNat []) jB))) (cX jB)<0 from by omega) aM ‹_›)⟩
  rw[fF,iI,gj];omega
 have p1:=dF b1
 refine ex<|aV<|bc<|bg<|cO<|ai J s9<|ak (v:=sL a3 wc c3) J J<|ak (v:=I 0) J J<|aq<|rt ?_
 have za:=aaO ht aj
 refine r2 J J J ?_
 have e0:(wc:aA)=(dK mn mr nd).1:=by rw[za]
 have e1:(0:Int)=(dK mn mr nd).2:=by rw[za]
 have bu:=nL (fun (cg:aA) (dY:Int)=>(.tuple #[.slice a3 cg.length c3,I dY]:Value)) e0 e1
 exact⟨a3,c3,bu,cV.below,(am_ (fun (x_:aA)=>bm _ _ _ x_ (.slice a3 x_.length c3) _) e0).mp (cV.dp 0 J)⟩
theorem Ih:gR aI 107 0 0:=jU Tryz.underlying107
theorem uO:gR aI 107 1 3:=jU Tryz.underlying107
theorem afK:cA aI 130:=cI Tryz.func130
theorem QF:cA aI 56:=cI Tryz.func56
theorem Gh:ef aI 103 1 false 8 (.pointer none):=⟨aS,aS⟩
theorem Pz:ef aI 63 1 false 8 (.nilFunc):=⟨aS,aS⟩
theorem Yj:cA aI 132:=cI Tryz.func132
theorem afJ:cA aI 134:=cI Tryz.func134
theorem aiP:cA aI 92:=cI Tryz.func92
theorem aiO:cA aI 93:=cI Tryz.func93
theorem TV {M3:Nat} {Xc:TypeId} {WX:OA} {Wz:Nat} {dn:aA} (hM:eO M w) (acY:aJ x_) (aiD:cD M w WX Wz dn) (aiK:w.heap[M3]? =some (.cells #[sL WX dn Wz] Xc (0,0))∧¬M M3):Calls aI 130 #[I x_,.pointer (some ⟨M3,0,none⟩)] w (cp fun v w'=>v=.bool (dn.any (fun (z_:Int)=>decide (x_=z_)))∧Ext w w'):=by
 refine dG 7 Tryz.func130 J J J hM fun f0 ha H=>?_
 have H0:=eG H aiD
 have i0:f0 0=I x_:=ha 0 bl
 have H1:=H0.put (it:=ro M3 #[sL WX dn Wz] Xc) J<|by rw[aD rfl,bP];exact aiK
 have i1:f0 1=pV M3 0:=ha 1 bl
 refine az<|ak (v:=.bool false) J J<|bz<|k<|lr H1 0 J qJ J i1 J<|ai J i0<|k ?_
 have bS:=Dx (rY:=dn) (tY:=x_) H1.mb (H1.rv 1 J) acY
 refine ca Yk J (ec J<|ec J e0) bS ?_
 rintro _ w0 ⟨rfl,bY⟩
 have H2:=H1.ext bY
 refine ak (v:=.bool (dn.any<|fun (z_:Int)=>decide (x_=z_))) J J<|aq<|rt<|r1 J J ?_
 exact⟨am_ Value.bool (show (dn.any<|fun (z_:Int)=>decide (x_=z_))=(dn.any<|fun (z_:Int)=>decide (x_=z_)) from rfl),H2.below⟩
theorem Wv (hM:eO M w) (hT:fU 0 w) (dL:cD M w aw av U) (gb:cD M w ay ax fo) (kA:aJ cn) (nW:cD M w dy dx cr) (ui:aJ o) (lk:w.heap[eJ]? =some (.cells #[.slice aC aE aB,sL aw U av,sL ay fo ax,I cn,sL dy cr dx] me (0,0))∧¬M eJ) (ho:ig U) (dB:U.length≤64) (ez:fo.length=U.length) (fL:∀x∈fo,x<((U.length:Nat):Int)) (oH:cn=((U.length:Nat):Int)) (pS:cr=cu U fo) (yQ:0≤o∧o<((U.length:Nat):Int)):Calls aI 92 #[.pointer (some ⟨eJ,0,none⟩),I o] w (cp fun v w'=>∃(ls:aA) (a0:OA) (c0:Nat),v=sL a0 ls c0∧Ext w w'∧bm M 3 w ls (sL a0 ls c0) w'∧ls.length≤300000):=by
 refine dG 58 Tryz.func92 J J J hM fun f0 ha H=>?_
 let J0:=iL aw U av
 have H0:=H.put (it:=J0) J<|by rw[bP];exact dL
 let J1:=iL ay fo ax
 have H1:=H0.put (it:=J1) J<|by rw[aD rfl,bP];exact gb
 let J2:=iL dy cr dx
 have H2:=H1.put (it:=J2) J<|by rw[aD rfl,aD rfl,bP];exact nW
 have ja:=bj dL
 have kP:=bj gb
 have Bq:=bj nW
 let J3:=ro eJ #[.slice aC aE aB,sL aw U av,sL ay fo ax,I cn,sL dy cr dx] me
 have H3:=H2.put (it:=J3) J<|by rw[aD rfl,aD rfl,aD rfl,bP];exact lk
 have i0:f0 0=pV eJ 0:=ha 0 bl
 have i1:f0 1=I o:=ha 1 bl
 have lj:bK cn cr=true:=by rw[oH,pS];exact pL fo aj
 have lk_:=Bv ho dB yQ
 have Xi:=aeX (fo:=fo) (o:=o) dB
 have amn:(aX (fX U) (cC U o)++([o]:aA)).length≤65:=by rw[fF];simp only[iI,gj];omega
 refine az<|ak (v:=.slice none 0 0) J J<|aq<|sq<|lH [.r,.r,.r,.r,.r,.r,.r,.r,.r,.r,.r,.r,.s,.s,.s,.n,.e,.s,.s,.s] (fun _=>True) J aS (fun _ _=>trivial)<|yq J J<|kq (fun _ _=>mv J i0 e1)<|bH<|kq (fun _ _=>nc J J e1)<|bH<|kq (fun _ _=>fa Ih J J e1)<|bH<|kq (fun _ x_=>wj (H3.ext x_) 0 J eh J J au J e1)<|bH<|kq (fun _ _=>mv J i0 e1)<|bH<|kq (fun _ _=>nc J J e1)<|bH<|kq (fun _ _=>fa uO J J e1)<|bH<|kq (fun _ x_=>wj (H3.ext x_) 0 J bp J J au J e1)<|bH<|kq (fun _ _=>mv J i1 e1)<|zq<|yu J (fun N v w'=>∃(o0:List ep) (o1:Int) (a0:OA) (c0:Nat) (a1:OA) (c1:Nat),v=.tuple #[.agg #[I ((U.length:Nat):Int),sL a0 (cW U fo o) c0],sL a1 o0 c1,I o1,I 0]∧o0.length≤2000000000∧aJ o1∧oJ U.length o0∧RV (MN H3.fS N) w' (sL a0 (cW U fo o) c0) (cW U fo o)∧RV (MN H3.fS N) w' (sL a1 o0 c1) o0) J ⟨by rintro _ _ _ _ x_ ⟨o0,o1,a0,c0,a1,c1,e_,q0,q1,q2,dZ,fy⟩;exact⟨o0,o1,a0,c0,a1,c1,e_,q0,q1,q2,dZ.lift (Up.ext x_),fy.lift (Up.ext x_)⟩,by rintro _ _ _ _ _ k_ ⟨o0,o1,a0,c0,a1,c1,e_,q0,q1,q2,dZ,fy⟩;exact⟨o0,o1,a0,c0,a1,c1,e_,q0,q1,q2,ie dZ k_,ie fy k_⟩⟩ J (fun v_ _ x_ n_=>have cU:=HN (U:=U) (fo:=fo) (mn:=cn) (mr:=cr) (o:=o) (aC:=aC) (aE:=aE) (aB:=aB) (w:=v_) (kN H3.mb x_ n_) (hT.ext (H3.below.trans x_)) (km (H3.rv 3 J) x_ n_) (km (H3.rv 2 J) x_ n_) kA (km (H3.rv 1 J) x_ n_) ui (by exact ho) (by exact dB) (by exact ez) (by exact fL) (by exact oH) (by exact pS) aj;ca QL rfl (ec J<|ec J<|ec J e0) cU (fun _ w1 ⟨o2,o3,a2,c2,a3,c3,e_,cT,iT,jS,q3,q4,q5⟩=>⟨_,J,cT,⟨o2,o3,a2,c2,a3,c3,e_,q3,q4,q5,iT,jS⟩⟩))<|lL J (fun N v w'=>∃(o4:List ep) (o5:Int) (a4:OA) (c4:Nat) (a5:OA) (c5:Nat),v=.tuple #[.agg #[I ((U.length:Nat):Int),sL a4 (cW U fo o) c4],sL a5 o4 c5,I o5,I 0]∧o4.length≤2000000000∧aJ o5∧oJ U.length o4∧RV (MN H3.fS N) w' (sL a4 (cW U fo o) c4) (cW U fo o)∧RV (MN H3.fS N) w' (sL a5 o4 c5) o4) 0 J J ⟨by rintro _ _ _ _ x_ ⟨o4,o5,a4,c4,a5,c5,e_,q6,q7,q8,je,lh⟩;exact⟨o4,o5,a4,c4,a5,c5,e_,q6,q7,q8,je.lift (Up.ext x_),lh.lift (Up.ext x_)⟩,by rintro _ _ _ _ _ k_ ⟨o4,o5,a4,c4,a5,c5,e_,q6,q7,q8,je,lh⟩;exact⟨o4,o5,a4,c4,a5,c5,e_,q6,q7,q8,ie je k_,ie lh k_⟩⟩ J (fun _ _ _ _ _ h_=>let ⟨o6,o7,a6,c6,a7,c7,s0,q9,u5,xC,oE,nE⟩:=h_;mv rfl s0 ⟨_,J,Ext.refl _,⟨o6,o7,a6,c6,a7,c7,J,q9,u5,xC,oE,nE⟩⟩)<|lL J (fun N v w'=>∃(a8:OA) (c8:Nat),v=.agg #[I ((U.length:Nat):Int),sL a8 (cW U fo o) c8]∧RV (MN H3.fS N) w' (sL a8 (cW U fo o) c8) (cW U fo o)) 0 J J Et J (fun _ _ _ _ _ h_=>let ⟨kM,gq,jq,jo,mV,mU,s1,CF,CE,yy,nR,qN⟩:=h_;xt rfl s1 rfl ⟨_,J,Ext.refl _,⟨jq,jo,J,nR⟩⟩)<|lL J (fun N v w'=>∃(j5:List ep) (jW:OA) (jV:Nat),v=sL jW j5 jV∧j5.length≤2000000000∧oJ U.length j5∧RV (MN H3.fS N) w' (sL jW j5 jV) j5) 1 J J ⟨by rintro _ _ _ _ x_ ⟨j5,jW,jV,e_,xB,xA,qj⟩;exact⟨j5,jW,jV,e_,xB,xA,qj.lift (Up.ext x_)⟩,by rintro _ _ _ _ _ k_ ⟨j5,jW,jV,e_,xB,xA,qj⟩;exact⟨j5,jW,jV,e_,xB,xA,ie qj k_⟩⟩ J (fun _ _ _ _ _ h_=>let ⟨Gx,IZ,ln,ll,JJ,JC,s2,En,q22,Lm,A9,Ff⟩:=h_;xt rfl s2 rfl ⟨_,J,Ext.refl _,⟨Gx,JJ,JC,J,En,Lm,Ff⟩⟩)<|lL J (fun _ v _=>∃(CR:Int),v=I CR∧aJ CR) 2 J J mE J (fun _ _ _ _ _ h_=>let ⟨Sl,IY,a18,c18,a19,c19,s3,q27,R1,q29,abc,abb⟩:=h_;xt rfl s3 rfl ⟨_,J,Ext.refl _,⟨IY,J,R1⟩⟩)<|Rc J (X:=I 0) 3 J J (fun _ _ _ _ _ h_=>let ⟨Sj,OC,a22,c22,a23,c23,s4,q33,q34,q35,aba,aa'⟩:=h_;xt rfl s4 rfl e1)<|yn (z:=#[I 0,.slice none 0 0]) J J (fun _=>M7 bp)<|ye<|lL J (fun N v w'=>∃(mO:List ep) (a24:OA) (ze:Nat),v=sL a24 mO ze∧mO.length≤2000000000∧oJ U.length mO∧RV (MN H3.fS N) w' (sL a24 mO ze) mO) 2 J J ⟨by rintro _ _ _ _ x_ ⟨mO,a24,ze,e_,CD,CC,xy⟩;exact⟨mO,a24,ze,e_,CD,CC,xy.lift (Up.ext x_)⟩,by rintro _ _ _ _ _ k_ ⟨mO,a24,ze,e_,CD,CC,xy⟩;exact⟨mO,a24,ze,e_,CD,CC,ie xy k_⟩⟩ J (fun _ _ _ _ _ h_=>let ⟨Lw,a25,ES,s5,R0,RZ,Li⟩:=h_;jO rfl s5 ⟨_,J,Ext.refl _,⟨Lw,a25,ES,J,R0,RZ,Li⟩⟩)<|lL J (fun _ v _=>∃(sQ:Int),v=I sQ∧aJ sQ) 2 J J mE J (fun _ _ _ _ _ h_=>let ⟨ua,s6,RY⟩:=h_;jO rfl s6 ⟨_,J,Ext.refl _,⟨ua,J,RY⟩⟩)<|yq J J<|kq (fun _ _=>jO (v:=I 0) J J e1)<|zq<|yz ?_
 intro w2 f0 _ fk _ _ cx iJ
 obtain⟨aY,s7,AE,rI,yR⟩:=iJ 2 _ _ rfl
 have og:=MM (z:=#[I 0,.slice none 0 0]) (T:=26) AE rI yR<|MO
 let ba:=[J3,J2,J1,J0]
 have cV:HI M w w2 (box aY #[I 0,.slice none 0 0] 26::ba):=H3.Bs fk og<|LF LC LG
 have s8:=(cx 0 J).trans i0
 have s9:=(cx 1 J).trans i1
 obtain⟨a26,Ho,eu,Lh⟩:=iJ 5 _ _ rfl
 let J4:=iL a26 (cW U fo o) Ho
 have du:=cV.put (it:=J4) J<|sy Lh og
 refine jw<|bw du 1 J bp J J s7 eu J J J ?_
 let J5:=box aY #[I ((U.length:Nat):Int),sL a26 (cW U fo o) Ho] 26
 intro w3 (dJ:HI M w w3 (J4::J5::ba))
 refine kz<|cO<|k<|al dJ qJ ?_
 intro bJ w4 fN (cM:HI M w w4 (box bJ #[.slice none 0 0] 27::J4::J5::ba))
 refine aq<|sq<|az<|ai J s8<|k<|nc J J<|aQ Ih J J<|k<|wj cM 3 J eh J J au J<|ai J s9<|k ?_
 have fP:=CI (U:=U) (o:=o) (aC:=aC) (aE:=aE) (aB:=aB) (ay:=ay) (fe:=fo.length) (ax:=ax) cM.mb (cM.rv 6 J) ui (by exact ho) aj
 refine ca V1 J (ec J<|ec J e0) fP ?_
 rintro _ w5 ⟨AO,AL,rfl,iP,UK⟩
 have dU:=cM.eT UK
 refine ai J s9<|k<|bs (xs:=([o]:aA)) (cells:=#[I o]) (e:=3) dU J (cm J ew) (fun _=>aS) ⟨[I o],[],J,⟨J,ui⟩,J⟩ J au ?_
 intro g0 w6 jc dt
 refine k<|lY dt 1 J J J J J J (gY<|dt.at_ 0 J) cG aT J (by simp only[iI,gj];omega) J ?_
 let J6:=own w.heap.size 3 (.slice (some ⟨g0,0,none⟩) 1 1) ([o]:aA)
 intro a28 rJ w7 (cR:HI M w w7 (J6::oL w 3 a28 (aX (fX U) (cC U o)++([o]:aA)) rJ::box bJ #[.slice none 0 0] 27::J4::J5::ba))
 refine k<|dD J J cG<|ai (v:=I 0) J J<|aq<|bk ?_
 have dI:=cR.ql Int 3
 let bV:=J4::box aY #[I ((U.length:Nat):Int),sL a26 (cW U fo o) Ho] 26::ba
 refine lp (fun m f w'=>∃(j_:Nat) (iA:aA) (pv:OA) (pq:Nat),m=(aX (fX U) (cC U o)++([o]:aA)).length-j_∧f 5=pV aY 0∧f 9=pV bJ 0∧f 36=sL a28 (aX (fX U) (cC U o)++([o]:aA)) rJ∧f 37=I ((aX (fX U) (cC U o)++([o]:aA)).length:Int)∧f 38=I (j_:Int)∧HI M w w' (oL w 3 pv iA pq::own w.heap.size 3 (.slice (some ⟨g0,0,none⟩) 1 1) ([o]:aA)::oL w 3 a28 (aX (fX U) (cC U o)++([o]:aA)) rJ::box bJ #[sL pv iA pq] 27::bV)∧(j_≤(aX (fX U) (cC U o)++([o]:aA)).length)∧(iA.length≤4096*j_)) _ ⟨0,([]:aA),none,0,J,s7,J,J,J,(bG J),dI,aj,(by exact aok _)⟩ ?_
 rintro _ f1 w8 ⟨j_,iA,pv,pq,rfl,fb,fu,fl,gi,gS,dw,pA,hs⟩
 refine az<|k<|lss J J gS gi<|aq<|sq<|cd (b:=decide ((j_:Int)<((aX (fX U) (cC U o)++([o]:aA)).length:Int))) J J (fun b0=>?_)<|fun b0=>?_
 ·
  have p0:=dT b0
  refine sk<|nx<|sq<|bk<|az<|k<|gW (dw.at_ 2 J) J J fl gS aj cG aT ?_
  intro g1 x0 iC aM cz
  refine k<|mw cz aT J J ?_
  intro Lg
  refine ak (v:=I x0) J J<|bz<|k<|cB dw 5 J bp J fb au J<|ai (v:=I x0) J J<|k ?_
  have eZ:=u6 (mn:=((U.length:Nat):Int)) (mr:=(cW U fo o)) (o:=x0) dw.mb (hT.ext dw.below) aR (dw.rv 4 J) Lg<|by exact Xi
  refine ca Mq J (ec J<|ec J e0) eZ ?_
  rintro _ w9 ⟨j9,j7,rfl,jK,Fe⟩
  have cE:=dw.eT Fe
  refine k<|mf2 J (Xu fu mf0)<|k ?_
  let J7:=box bJ #[sL pv iA pq] 27
  have df:HI M w w9 ([oL w 3 j9 (bO ((U.length:Nat):Int) (cW U fo o) x0) j7]++[oL w 3 pv iA pq,J6,oL w 3 a28 (aX (fX U) (cC U o)++([o]:aA)) rJ,J7,J4,J5,J3,J2,J1,J0]):=cE.bX [0,1,2,3,4,5,6,7,8,9,10] au J
  have mx:=pj (dW:=j9) (dS:=j7) (xs:=(bO ((U.length:Nat):Int) (cW U fo o) x0)) (qD:=130) (qH:=[pV bJ 0]) (p:=(fun (x_:Int)=>(iA.any<|fun (z_:Int)=>decide (x_=z_)))) (w:=w) (w_:=w9) (r:=[oL w 3 pv iA pq,own w.heap.size 3 (.slice (some ⟨g0,0,none⟩) 1 1) ([o]:aA),oL w 3 a28 (aX (fX U) (cC U o)++([o]:aA)) rJ,J7,J4,box aY #[I ((U.length:Nat):Int),sL a26 (cW U fo o) Ho] 26,J3,J2,J1,J0]) (M:=M) ⟨afK,fun w_ rC H_ x_ pe Ez=>TV (dn:=iA) (M:=fun _=>False) (fun _ h_=>h_.elim) Ez ((H_.mB 1 J).lift (Up.less fun _ _ h_=>h_.elim)) ⟨H_.at_ 4 rfl,fun h_=>h_⟩⟩ df
  refine ca G3 J (ec J<|ec J e0) mx ?_
  rintro _ dM ⟨rfl,dH⟩
  have eP:HI M w dM (oL w 3 j9 (aX (fun (x_:Int)=>(iA.any (fun (z_:Int)=>decide (x_=z_)))) (bO ((U.length:Nat):Int) (cW U fo o) x0)) j7::oL w 3 pv iA pq::own w.heap.size 3 (.slice (some ⟨g0,0,none⟩) 1 1) ([o]:aA)::oL w 3 a28 (aX (fX U) (cC U o)++([o]:aA)) rJ::J7::bV):=dH
  refine ak (v:=sL j9 (aX (fun (x_:Int)=>(iA.any<|fun (z_:Int)=>decide (x_=z_)))<|bO ((U.length:Nat):Int) (cW U fo o) x0) j7) J J<|bz<|k<|cB eP 6 J bp J fb au J<|ai (v:=sL j9 (aX (fun (x_:Int)=>(iA.any<|fun (z_:Int)=>decide (x_=z_)))<|bO ((U.length:Nat):Int) (cW U fo o) x0) j7) J J<|k ?_
  have ff:=eP.freeze 0 J
  have nu:=yw (mn:=((U.length:Nat):Int)) (mr:=(cW U fo o)) (nd:=(aX (fun (x_:Int)=>(iA.any<|fun (z_:Int)=>decide (x_=z_)))<|bO ((U.length:Nat):Int) (cW U fo o) x0)) ff.mb (hT.ext ff.below) aR (ff.rv 5 J) (ff.rv 0 J) (by exact Xi)<|by exact Nat.le_trans (uW Xi x0 _) au
  refine ca QF J (ec J<|ec J e0) nu ?_
  rintro _ ee ⟨a31,JA,rfl,lC,Fc⟩
  have gr:=ff.eT Fc
  refine ai (v:=.tuple #[sL a31 ((dK ((U.length:Nat):Int) (cW U fo o)<|aX (fun (x_:Int)=>(iA.any<|fun (z_:Int)=>decide (x_=z_)))<|bO ((U.length:Nat):Int) (cW U fo o) x0).1) JA,I ((dK ((U.length:Nat):Int) (cW U fo o)<|aX (fun (x_:Int)=>(iA.any<|fun (z_:Int)=>decide (x_=z_)))<|bO ((U.length:Nat):Int) (cW U fo o) x0).2)]) J J<|k<|xt J J J<|k<|xt J J J<|ak (v:=sL a31 ((dK ((U.length:Nat):Int) (cW U fo o)<|aX (fun (x_:Int)=>(iA.any<|fun (z_:Int)=>decide (x_=z_)))<|bO ((U.length:Nat):Int) (cW U fo o) x0).1) JA) J J<|z<|nx ?_
  have al5:=uW Xi x0<|fun (x_:Int)=>(iA.any<|fun (z_:Int)=>decide (x_=z_))
  have al7:=KR (n:=((U.length:Nat):Int)) (rs:=cW U fo o) (nd:=aX (fun (x_:Int)=>(iA.any<|fun (z_:Int)=>decide (x_=z_))) (bO ((U.length:Nat):Int) (cW U fo o) x0))
  refine rg<|bq gr 5 J qJ J fu J<|ai (v:=sL a31 ((dK ((U.length:Nat):Int) (cW U fo o)<|aX (fun (x_:Int)=>(iA.any<|fun (z_:Int)=>decide (x_=z_)))<|bO ((U.length:Nat):Int) (cW U fo o) x0).1) JA) J J<|k<|lY gr 2 J J J J J J (gY<|gr.at_ 0 J) cG aT J aj J ?_
  intro a32 po ft (iy:HI M w ft (oL w 3 a31 ((dK ((U.length:Nat):Int) (cW U fo o) (aX (fun (x_:Int)=>(iA.any (fun (z_:Int)=>decide (x_=z_)))) (bO ((U.length:Nat):Int) (cW U fo o) x0))).1) JA::iL j9 (aX (fun (x_:Int)=>(iA.any (fun (z_:Int)=>decide (x_=z_)))) (bO ((U.length:Nat):Int) (cW U fo o) x0)) j7::oL w 3 a32 (iA++(dK ((U.length:Nat):Int) (cW U fo o) (aX (fun (x_:Int)=>(iA.any (fun (z_:Int)=>decide (x_=z_)))) (bO ((U.length:Nat):Int) (cW U fo o) x0))).1) po::own w.heap.size 3 (.slice (some ⟨g0,0,none⟩) 1 1) ([o]:aA)::oL w 3 a28 (aX (fX U) (cC U o)++([o]:aA)) rJ::J7::bV))
  refine k<|bw iy 5 J qJ J J fu J J J J ?_
  intro ij (iS:HI M w ij (oL w 3 a31 ((dK ((U.length:Nat):Int) (cW U fo o) (aX (fun (x_:Int)=>(iA.any (fun (z_:Int)=>decide (x_=z_)))) (bO ((U.length:Nat):Int) (cW U fo o) x0))).1) JA::iL j9 (aX (fun (x_:Int)=>(iA.any (fun (z_:Int)=>decide (x_=z_)))) (bO ((U.length:Nat):Int) (cW U fo o) x0)) j7::oL w 3 a32 (iA++(dK ((U.length:Nat):Int) (cW U fo o) (aX (fun (x_:Int)=>(iA.any (fun (z_:Int)=>decide (x_=z_)))) (bO ((U.length:Nat):Int) (cW U fo o) x0))).1) po::own w.heap.size 3 (.slice (some ⟨g0,0,none⟩) 1 1) ([o]:aA)::oL w 3 a28 (aX (fX U) (cC U o)++([o]:aA)) rJ::box bJ #[sL a32 (iA++(dK ((U.length:Nat):Int) (cW U fo o) (aX (fun (x_:Int)=>(iA.any (fun (z_:Int)=>decide (x_=z_)))) (bO ((U.length:Nat):Int) (cW U fo o) x0))).1) po] 27::bV))
  refine z<|aG<|nx<|rg<|k<|add J J gS J aR<|ai (v:=I ((j_:Int)+1)) J J<|z ?_
  have kY:HI M w ij (oL w 3 a32 (iA++(dK ((U.length:Nat):Int) (cW U fo o) (aX (fun (x_:Int)=>(iA.any (fun (z_:Int)=>decide (x_=z_)))) (bO ((U.length:Nat):Int) (cW U fo o) x0))).1) po::own w.heap.size 3 (.slice (some ⟨g0,0,none⟩) 1 1) ([o]:aA)::oL w 3 a28 (aX (fX U) (cC U o)++([o]:aA)) rJ::box bJ #[sL a32 (iA++(dK ((U.length:Nat):Int) (cW U fo o) (aX (fun (x_:Int)=>(iA.any (fun (z_:Int)=>decide (x_=z_)))) (bO ((U.length:Nat):Int) (cW U fo o) x0))).1) po] 27::bV):=iS.bX [2,3,4,5,6,7,8,9,10,11] au J
  refine bF _ ?_ ⟨(j_+1),(iA++(dK ((U.length:Nat):Int) (cW U fo o)<|aX (fun (x_:Int)=>(iA.any<|fun (z_:Int)=>decide (x_=z_)))<|bO ((U.length:Nat):Int) (cW U fo o) x0).1),a32,po,J,fb,fu,fl,gi,(bG J),kY,aj,(by rw[fF];omega)⟩
  omega
 refine ex<|aV<|bc<|bg<|cO<|bq dw 3 J qJ J fu J<|ak (v:=sL pv iA pq) J J<|aq<|rt<|r1 J J ?_
 exact⟨iA,pv,pq,J,dw.below,(dw.dp 0 J),aj⟩
theorem Dz {MZ:Nat} {Xb:TypeId} {fr:Int} {W8:TypeId} (hM:eO M w) (acW:aJ xx) (aiC:aJ fr) (dL:cD M w aw av U) (gb:cD M w ay ax fo) (kA:aJ cn) (nW:cD M w dy dx cr) (aiJ:w.heap[MZ]? =some (.cells #[I fr] Xb (0,0))∧¬M MZ) (aiF:w.heap[kB]? =some (.cells #[.pointer (some ⟨eJ,0,none⟩)] W8 (0,0))∧¬M kB) (lk:w.heap[eJ]? =some (.cells #[.slice aC aE aB,sL aw U av,sL ay fo ax,I cn,sL dy cr dx] me (0,0))∧¬M eJ) (lj:bK cn cr=true):Calls aI 132 #[I xx,.pointer (some ⟨MZ,0,none⟩),.pointer (some ⟨kB,0,none⟩)] w (cp fun v w'=>v=.bool (decide (0≤fr)&&(decide (xx=fr)||eK cn cr fr xx))∧Ext w w'):=by
 refine dG 21 Tryz.func132 J J J hM fun f0 ha H=>?_
 have H0:=eG H dL
 have H1:=eG H0 gb
 have H2:=eG H1 nW
 have i0:f0 0=I xx:=ha 0 bl
 have H3:=H2.put (it:=ro MZ #[I fr] Xb) J<|by rw[aD rfl,aD rfl,aD rfl,bP];exact aiJ
 have i1:f0 1=pV MZ 0:=ha 1 bl
 have H4:=H3.put (it:=ro eJ #[.slice aC aE aB,sL aw U av,sL ay fo ax,I cn,sL dy cr dx] me) J<|by rw[aD rfl,aD rfl,aD rfl,aD rfl,bP];exact lk
 have H5:=H4.put (it:=ro kB #[pV eJ 0] W8) J<|by rw[aD rfl,aD rfl,aD rfl,aD rfl,aD rfl,bP];exact aiF
 have i2:f0 2=pV kB 0:=ha 2 bl
 refine az<|ak (v:=.bool false) J J<|aq<|sq<|zb J aS<|kq (fun _ x_=>lr (H5.ext x_) 2 J aT J i1 J e1)<|kq (fun _ _=>geq J J J J e1)<|kq (fun _ _=>mv (v:=.bool (decide (0≤fr))) J J e1) ?_
 rcases bE (decide (0≤fr)) with b0|b0
 ·
  refine qy J J J b0<|kq (fun _ _=>mv J i0 e1)<|qy J J J b0<|kq (fun _ x_=>lr (H5.ext x_) 2 J aT J i1 J e1)<|qy J J J b0<|kq (fun _ _=>eql J J J J e1)<|qy J J J b0<|kq (fun _ _=>mv (v:=.bool (decide (xx=fr))) J J e1) ?_
  rcases bE (decide (xx=fr)) with b1|b1
  ·
   refine qn J J J b1<|qn J J J b1<|qn J J J b1<|qn J J J b1<|qn J J J b1<|qn J J J b1<|qn J J J b1<|qy J J J b0<|kq (fun _ _=>aP J J J J b1 J e1)<|kq (fun _ _=>aP J J J J b0 J e1)<|kq (fun _ _=>jO (v:=.bool true) J J e1)<|zq ?_
   intro w0 bY
   have H6:=H5.ext bY
   refine nx<|rt<|r1 J J ?_
   exact⟨am_ Value.bool (by simp only[b0,b1,BL]),H6.below⟩
  refine qy J J J b1<|kq (fun _ x_=>lr (H5.ext x_) 0 J Gh J i2 J e1)<|qy J J J b1<|kq (fun _ _=>nc J J e1)<|qy J J J b1<|kq (fun _ _=>fa uO J J e1)<|qy J J J b1<|kq (fun _ x_=>wj (H5.ext x_) 1 J bp J J au J e1)<|qy J J J b1<|kq (fun _ x_=>lr (H5.ext x_) 2 J aT J i1 J e1)<|qy J J J b1<|kq (fun _ _=>mv J i0 e1)<|qy J J J b1<|kq (v:=.bool (eK cn cr fr xx)) (fun v_ x_=>?_) ?_
  ·
   have cc:=uE (mn:=cn) (mr:=cr) (i:=fr) (j:=xx) (w:=v_) (H5.ext x_).mb kA ((H5.ext x_).rv 3 rfl) aiC acW (by exact(bQ lj).1) (by exact(bQ lj).2.1)<|by exact(bQ lj).2.2.1
   exact ca FN J (ec J<|ec J<|ec J e0) cc fun _ _ h_=>e2 h_
  refine qy J J J b0<|kq (fun _ _=>dA J J J J b1 J e1)<|kq (fun _ _=>aP J J J J b0 J e1)<|kq (fun _ _=>jO (v:=.bool (eK cn cr fr xx)) J J e1)<|zq ?_
  intro w0 bY
  have H6:=H5.ext bY
  refine nx<|rt<|r1 J J ?_
  exact⟨am_ Value.bool (by simp only[b0,b1,BL]),H6.below⟩
 refine qn J J J b0<|qn J J J b0<|qn J J J b0<|qn J J J b0<|qu J J J<|qu J J J<|qu J J J<|qu J J J<|qu J J J<|qu J J J<|qu J J J<|qn J J J b0<|kq (fun _ _=>dA J J J J b0 J e1)<|kq (fun _ _=>jO (v:=.bool false) J J e1)<|zq ?_
 intro w0 bY
 have H6:=H5.ext bY
 refine nx<|rt<|r1 J J ?_
 exact⟨am_ Value.bool (by simp only[b0,BL]),H6.below⟩
theorem MI {MY:Nat} {Xa:TypeId} {V8:Nat} {W3:List Value} {pp:Int→Bool} (hM:eO M w) (acW:aJ xx) (ac1:FP aI V8 W3 M w [xx] pp) (aiI:w.heap[MY]? =some (.cells #[.func (.func V8) #[] W3.toArray] Xa (0,0))∧¬M MY):Calls aI 134 #[I xx,.pointer (some ⟨MY,0,none⟩)] w (cp fun v w'=>v=.bool (!(pp xx))∧Ext w w'):=by
 refine dG 8 Tryz.func134 J J J hM fun f0 ha H=>?_
 have i0:f0 0=I xx:=ha 0 bl
 have H0:=H.put (it:=ro MY #[.func (.func V8) #[] W3.toArray] Xa) J<|by rw[bP];exact aiI
 have i1:f0 1=pV MY 0:=ha 1 bl
 refine az<|ak (v:=.bool false) J J<|bz<|k<|lr H0 0 J Pz J i1 J<|ai J i0<|k<|cf ac1.1 J J J (ec J e0) (ac1.2 _ _ _ (by exact aoh.2 rfl) H0.below<|(RV.int.2 ⟨J,aR⟩).lift H0.out) ?_
 rintro _ w0 ⟨rfl,bY⟩
 have H1:=H0.ext bY
 refine k<|jY J J<|ak (v:=.bool (!(pp xx))) J J<|aq<|rt<|r1 J J ?_
 exact⟨am_ Value.bool (show (!(pp xx))=(!(pp xx)) from rfl),H1.below⟩
theorem NS (hM:eO M w) (hT:fU 0 w) (dL:cD M w aw av U) (gb:cD M w ay ax fo) (kA:aJ cn) (nW:cD M w dy dx cr) (ui:aJ o) (lk:w.heap[eJ]? =some (.cells #[.slice aC aE aB,sL aw U av,sL ay fo ax,I cn,sL dy cr dx] me (0,0))∧¬M eJ) (ho:ig U) (dB:U.length≤64) (ez:fo.length=U.length) (fL:∀x∈fo,x<((U.length:Nat):Int)) (oH:cn=((U.length:Nat):Int)) (pS:cr=cu U fo) (yQ:0≤o∧o<((U.length:Nat):Int)):Calls aI 93 #[.pointer (some ⟨eJ,0,none⟩),I o] w (cp fun v w'=>∃(ls:aA) (a0:OA) (c0:Nat),v=sL a0 ls c0∧Ext w w'∧bm M 3 w ls (sL a0 ls c0) w'∧ls.length≤300000):=by
 refine dG 53 Tryz.func93 J J J hM fun f0 ha H=>?_
 let J0:=iL aw U av
 have H0:=H.put (it:=J0) J<|by rw[bP];exact dL
 let J1:=iL ay fo ax
 have H1:=H0.put (it:=J1) J<|by rw[aD rfl,bP];exact gb
 let J2:=iL dy cr dx
 have H2:=H1.put (it:=J2) J<|by rw[aD rfl,aD rfl,bP];exact nW
 let J3:=ro eJ #[.slice aC aE aB,sL aw U av,sL ay fo ax,I cn,sL dy cr dx] me
 have H3:=H2.put (it:=J3) J<|by rw[aD rfl,aD rfl,aD rfl,bP];exact lk
 have i0:f0 0=pV eJ 0:=ha 0 bl
 have i1:f0 1=I o:=ha 1 bl
 have lj:bK cn cr=true:=by rw[oH,pS];exact pL fo aj
 refine az<|k<|bx H3 J i0 ?_
 let ba:=[J3,J2,J1,J0]
 intro aZ w0 bY (H4:HI M w w0 (box aZ #[pV eJ 0] 103::ba))
 let J4:=box aZ #[pV eJ 0] 103
 refine ak (v:=.slice none 0 0) J J<|bz<|bq H4 0 J Gh J J J<|k<|nc J J<|aQ Ih J J<|aQ tR J J<|k<|lr H4 1 J qJ J J J<|ai J i1<|k<|ia (H4.rv 3 J) J J J J aj cG aT ?_
 intro iE x0 aM cz
 refine k<|mw cz.w aT J J ?_
 intro cw
 refine k<|al H4 aT ?_
 intro aY w1 cT (H5:HI M w w1 (box aY #[I 0] 3::J4::ba))
 refine k<|bw H5 0 J aT J J J J J J J ?_
 let J5:=box aY #[I x0] 3
 let bV:=J5::J4::ba
 intro w2 (H6:HI M w w2 bV)
 refine bz<|k<|mf J<|k<|al H6 Pz ?_
 intro bJ w3 fk (H7:HI M w w3 (box bJ #[.nilFunc] 63::bV))
 refine k<|bw H7 0 J Pz J J J J J J J ?_
 let J6:=box bJ #[.func (.func 132) #[] #[pV aY 0,pV aZ 0]] 63
 intro w4 (H8:HI M w w4 (J6::bV))
 refine bz<|bq H8 2 J Gh J J J<|k<|nc J J<|aQ uO J J<|k<|wj H8 3 J bp J J au J<|ai J i1<|k ?_
 have bS:=u6 (mn:=cn) (mr:=cr) (o:=o) H8.mb (hT.ext H8.below) kA (H8.rv 4 J) ui<|by exact lj
 refine ca Mq J (ec J<|ec J e0) bS ?_
 rintro _ w5 ⟨a0,c0,rfl,fN,d_⟩
 have H9:=H8.eT d_
 refine ak (v:=sL a0 (bO cn cr o) c0) J J<|aq<|sq<|lH [.f,.f,.f,.f,.r,.r,.r,.e,.e,.e,.e,.e,.e,.e] (fun w'=>HI M w w' [J4,J3]) J aS (fun _ x_=>(H9.bX (l':=[J4,J3]) [3,4] au J).ext x_)<|yf J (fun _ i_=>lx i_ 0 J Gh J J J e3)<|yf J (fun _ _=>nc J J e3)<|yf J (fun _ _=>fa uO J J e3)<|yf J (fun _ i_=>wj i_ 1 J bp J J au J e3)<|yq J J<|kq (fun _ _=>mv (v:=sL a0 (bO cn cr o) c0) J J e1)<|zq<|yu J (fun _ v w'=>∃(a1:OA) (c1:Nat),v=sL a1 (bO cn cr o) c1∧bm H9.fS 3 w5 (bO cn cr o) (.slice a1 (bO cn cr o).length c1) w') J (mN<|by rintro _ _ _ x_ ⟨a1,c1,e_,fy⟩;exact⟨a1,c1,e_,fy.LR x_⟩) J (fun v_ _ x_ _=>have fP:=Jy (l:=(bO cn cr o)) (w:=v_) ((H9.ext x_).freeze 0 rfl).mb (((H9.ext x_).freeze 0 rfl).rv 0 rfl) (by have h_:=uX lj o;omega);ca Yi rfl (ec J e0) fP (fun _ w7 ⟨a2,c2,e_,jc,iT⟩=>⟨_,J,jc,⟨a2,c2,e_,(bm.anyM<|bm.base iT x_)⟩⟩))<|yq J J<|kq (fun _ x_=>lx (H9.ext x_) 1 J Pz J J J e1)<|zq<|ye<|ye<|ye<|ye<|ye<|ye<|ye<|yz ?_
 intro w8 f0 _ jK _ _ cx iJ
 obtain⟨a3,c3,s0,je⟩:=iJ 0 _ _ rfl
 have dU:=H9.eT<|bm.anyM je
 have s1:=cx 2 J
 have s2:=cx 6 J
 have s3:=cx 7 J
 have s4:=cx 31 J
 have s5:=cx 34 J
 refine ke ?_
 let J7:=oL w 3 a0 (bO cn cr o) c0
 have dt:HI M w w8 ([oL w 3 a3 (bO cn cr o) c3]++[J7,J6,J5,J4,J3,J2,J1,J0]):=dU.bX [0,1,2,3,4,5,6,7,8] au J
 have eZ:=pj (dW:=a3) (dS:=c3) (xs:=(bO cn cr o)) (qD:=132) (qH:=[pV aY 0,pV aZ 0]) (p:=(fun (x_:Int)=>(decide (0≤x0)&&(decide (x_=x0)||eK cn cr x0 x_)))) (w:=w) (w_:=w8) (r:=[J7,J6,J5,J4,J3,J2,J1,J0]) (M:=M) ⟨Yj,fun w_ rC H_ x_ pe Ez=>Dz (fr:=x0) (U:=U) (fo:=fo) (cn:=cn) (cr:=cr) (M:=fun _=>False) (fun _ h_=>h_.elim) Ez bo ((H_.rv 8 J).lift (Up.less fun _ _ h_=>h_.elim)) ((H_.rv 7 J).lift (Up.less fun _ _ h_=>h_.elim)) bo ((H_.rv 6 J).lift (Up.less fun _ _ h_=>h_.elim)) ⟨H_.at_ 3 rfl,fun h_=>h_⟩ ⟨H_.at_ 4 rfl,fun h_=>h_⟩ ⟨(H_.at_ 5 J).1,fun h_=>h_⟩ (by exact lj)⟩ dt
 refine ca G3 J (ec s0<|ec s5 e0) eZ ?_
 rintro _ w9 ⟨rfl,cR⟩
 have dI:HI M w w9 (oL w 3 a3 (aX (fun (x_:Int)=>(decide (0≤x0)&&(decide (x_=x0)||eK cn cr x0 x_))) (bO cn cr o)) c3::J7::J6::bV):=cR
 refine⟨dI.bX [4,5] au rfl,?_⟩
 refine ke ?_
 have dw:=dI.freeze 0 J
 have mx:=yw (mn:=cn) (mr:=cr) (nd:=(aX (fun (x_:Int)=>(decide (0≤x0)&&(decide (x_=x0)||eK cn cr x0 x_)))<|bO cn cr o)) dw.mb (hT.ext dw.below) kA (dw.rv 6 J) (dw.rv 0 J) (by exact lj)<|by exact Nat.le_trans (uW lj o _) au
 refine ca QF J (ec s4<|ec J e0) mx ?_
 rintro _ dM ⟨a4,c4,rfl,lC,lh⟩
 have cE:=dI.eT<|bm.anyM lh
 refine⟨cE.bX [5,6] au rfl,?_⟩
 refine ke<|mv (v:=.tuple #[sL a4 ((dK cn cr<|aX (fun (x_:Int)=>(decide (0≤x0)&&(decide (x_=x0)||eK cn cr x0 x_)))<|bO cn cr o).1) c4,I ((dK cn cr<|aX (fun (x_:Int)=>(decide (0≤x0)&&(decide (x_=x0)||eK cn cr x0 x_)))<|bO cn cr o).2)]) J J ?_
 refine⟨cE.bX [5,6] au rfl,?_⟩
 refine ke<|xt J J J ?_
 refine⟨cE.bX [5,6] au rfl,?_⟩
 refine ke<|xt J J J ?_
 refine⟨cE.bX [5,6] au rfl,?_⟩
 refine ke<|jO (v:=sL a4 ((dK cn cr<|aX (fun (x_:Int)=>(decide (0≤x0)&&(decide (x_=x0)||eK cn cr x0 x_)))<|bO cn cr o).1) c4) J J ?_
 refine⟨cE.bX [5,6] au rfl,?_⟩
 refine ke<|jO (v:=I ((dK cn cr<|aX (fun (x_:Int)=>(decide (0≤x0)&&(decide (x_=x0)||eK cn cr x0 x_)))<|bO cn cr o).2)) J J ?_
 refine⟨cE.bX [5,6] au rfl,?_⟩
 refine kz<|nx<|sq<|lH [.f,.f,.f,.f,.r,.r,.e,.e,.e,.e,.e,.e,.e] (fun w'=>HI M w w' [J4,J3]) J aS (fun _ x_=>(cE.bX (l':=[J4,J3]) [5,6] au J).ext x_)<|yf J (fun _ i_=>lx i_ 0 J Gh J s1 J e3)<|yf J (fun _ _=>nc J J e3)<|yf J (fun _ _=>fa uO J J e3)<|yf J (fun _ i_=>wj i_ 1 J bp J J au J e3)<|yq J J<|kq (fun _ _=>mv J s3 e1)<|bH<|kq (fun _ _=>mf2 J (Xu s2 mf0) e1)<|zq<|ye<|ye<|ye<|ye<|ye<|ye<|ye<|yz ?_
 intro ee f1 _ l3 _ _ eD vm
 have df:=cE.ext l3
 have s6:=eD 8 J
 have s7:=eD 43 J
 have s8:=eD 44 J
 have s9:=eD 45 J
 refine ke ?_
 have dH:HI M w ee ([J7]++[oL w 3 a4 ((dK cn cr (aX (fun (x_:Int)=>(decide (0≤x0)&&(decide (x_=x0)||eK cn cr x0 x_))) (bO cn cr o))).1) c4,oL w 3 a3 (aX (fun (x_:Int)=>(decide (0≤x0)&&(decide (x_=x0)||eK cn cr x0 x_))) (bO cn cr o)) c3,J6,J5,J4,J3,J2,J1,J0]):=df.bX [2,0,1,3,4,5,6,7,8,9] au J
 have nu:=pj (dW:=a0) (dS:=c0) (xs:=(bO cn cr o)) (qD:=134) (qH:=[pV bJ 0]) (p:=(fun (x_:Int)=>(!((fun (x_:Int)=>(decide (0≤x0)&&(decide (x_=x0)||eK cn cr x0 x_))) x_)))) (w:=w) (w_:=ee) (r:=[oL w 3 a4 ((dK cn cr<|aX (fun (x_:Int)=>(decide (0≤x0)&&(decide (x_=x0)||eK cn cr x0 x_)))<|bO cn cr o).1) c4,oL w 3 a3 (aX (fun (x_:Int)=>(decide (0≤x0)&&(decide (x_=x0)||eK cn cr x0 x_)))<|bO cn cr o) c3,J6,J5,J4,J3,J2,J1,J0]) (M:=M) ⟨afJ,fun w_ rC H_ x_ pe Ez=>MI (pp:=(fun (x_:Int)=>(decide (0≤x0)&&(decide (x_=x0)||eK cn cr x0 x_)))) (M:=fun _=>False) (fun _ h_=>h_.elim) Ez ⟨Yj,fun w_ v_ x_ pe e_ B5=>by have H_:=H_.ext e_;obtain⟨_,⟨rfl,oE⟩,rfl⟩:=B5;exact Dz (fr:=x0) (U:=U) (fo:=fo) (cn:=cn) (cr:=cr) (M:=fun _=>False) (fun _ h_=>h_.elim) oE bo ((H_.rv 9 J).lift (Up.less fun _ _ h_=>h_.elim)) ((H_.rv 8 J).lift (Up.less fun _ _ h_=>h_.elim)) bo ((H_.rv 7 J).lift (Up.less fun _ _ h_=>h_.elim)) ⟨H_.at_ 4 rfl,fun h_=>h_⟩ ⟨H_.at_ 5 rfl,fun h_=>h_⟩ ⟨(H_.at_ 6 J).1,fun h_=>h_⟩ (by exact lj)⟩ ⟨H_.at_ 3 rfl,fun h_=>h_⟩⟩ dH
 refine ca G3 J (ec s8<|ec s9 e0) nu ?_
 rintro _ ft ⟨rfl,eP⟩
 have ff:HI M w ft (oL w 3 a0 (aX (fun (x_:Int)=>(!((fun (x_:Int)=>(decide (0≤x0)&&(decide (x_=x0)||eK cn cr x0 x_))) x_))) (bO cn cr o)) c0::oL w 3 a4 ((dK cn cr (aX (fun (x_:Int)=>(decide (0≤x0)&&(decide (x_=x0)||eK cn cr x0 x_))) (bO cn cr o))).1) c4::oL w 3 a3 (aX (fun (x_:Int)=>(decide (0≤x0)&&(decide (x_=x0)||eK cn cr x0 x_))) (bO cn cr o)) c3::J6::bV):=eP
 refine⟨ff.bX [5,6] au rfl,?_⟩
 refine ke ?_
 have gr:=ff.freeze 0 J
 have yd:=yw (mn:=cn) (mr:=cr) (nd:=(aX (fun (x_:Int)=>(!((fun (x_:Int)=>(decide (0≤x0)&&(decide (x_=x0)||eK cn cr x0 x_))) x_)))<|bO cn cr o)) gr.mb (hT.ext gr.below) kA (gr.rv 7 J) (gr.rv 0 J) (by exact lj)<|by exact Nat.le_trans (uW lj o _) au
 refine ca QF J (ec s7<|ec J e0) yd ?_
 rintro _ ij ⟨a5,c5,rfl,yp,nE⟩
 have iy:=ff.eT<|bm.anyM nE
 refine⟨iy.bX [6,7] au rfl,?_⟩
 refine ke<|mv (v:=.tuple #[sL a5 ((dK cn cr<|aX (fun (x_:Int)=>(!((fun (x_:Int)=>(decide (0≤x0)&&(decide (x_=x0)||eK cn cr x0 x_))) x_)))<|bO cn cr o).1) c5,I ((dK cn cr<|aX (fun (x_:Int)=>(!((fun (x_:Int)=>(decide (0≤x0)&&(decide (x_=x0)||eK cn cr x0 x_))) x_)))<|bO cn cr o).2)]) J J ?_
 refine⟨iy.bX [6,7] au rfl,?_⟩
 refine ke<|xt J J J ?_
 refine⟨iy.bX [6,7] au rfl,?_⟩
 refine ke<|xt J J J ?_
 refine⟨iy.bX [6,7] au rfl,?_⟩
 refine ke<|jO (v:=sL a5 ((dK cn cr<|aX (fun (x_:Int)=>(!((fun (x_:Int)=>(decide (0≤x0)&&(decide (x_=x0)||eK cn cr x0 x_))) x_)))<|bO cn cr o).1) c5) J J ?_
 refine⟨iy.bX [6,7] au rfl,?_⟩
 refine ke<|jO (v:=I ((dK cn cr<|aX (fun (x_:Int)=>(!((fun (x_:Int)=>(decide (0≤x0)&&(decide (x_=x0)||eK cn cr x0 x_))) x_)))<|bO cn cr o).2)) J J ?_
 refine⟨iy.bX [6,7] au rfl,?_⟩
 refine kz<|nx<|sq ?_
 have h1_:=Ro lj o<|fun (x_:Int)=>(decide (0≤x0)&&(decide (x_=x0)||eK cn cr x0 x_))
 have lG:=Ro lj o<|fun (x_:Int)=>(!((fun (x_:Int)=>(decide (0≤x0)&&(decide (x_=x0)||eK cn cr x0 x_))) x_))
 refine rg<|ai J s6<|ai (v:=sL a5 ((dK cn cr<|aX (fun (x_:Int)=>(!((fun (x_:Int)=>(decide (0≤x0)&&(decide (x_=x0)||eK cn cr x0 x_))) x_)))<|bO cn cr o).1) c5) J J<|k<|lY iy 2 J J J J J J (gY<|iy.at_ 0 J) cG aT J aj J ?_
 intro a6 c6 jv (iS:HI M w jv (oL w 3 a5 ((dK cn cr (aX (fun (x_:Int)=>(!((fun (x_:Int)=>(decide (0≤x0)&&(decide (x_=x0)||eK cn cr x0 x_))) x_))) (bO cn cr o))).1) c5::oL w 3 a0 (aX (fun (x_:Int)=>(!((fun (x_:Int)=>(decide (0≤x0)&&(decide (x_=x0)||eK cn cr x0 x_))) x_))) (bO cn cr o)) c0::oL w 3 a6 ((dK cn cr (aX (fun (x_:Int)=>(decide (0≤x0)&&(decide (x_=x0)||eK cn cr x0 x_))) (bO cn cr o))).1++(dK cn cr (aX (fun (x_:Int)=>(!((fun (x_:Int)=>(decide (0≤x0)&&(decide (x_=x0)||eK cn cr x0 x_))) x_))) (bO cn cr o))).1) c6::oL w 3 a3 (aX (fun (x_:Int)=>(decide (0≤x0)&&(decide (x_=x0)||eK cn cr x0 x_))) (bO cn cr o)) c3::J6::bV))
 refine ak (v:=sL a6 ((dK cn cr<|aX (fun (x_:Int)=>(decide (0≤x0)&&(decide (x_=x0)||eK cn cr x0 x_)))<|bO cn cr o).1++(dK cn cr<|aX (fun (x_:Int)=>(!((fun (x_:Int)=>(decide (0≤x0)&&(decide (x_=x0)||eK cn cr x0 x_))) x_)))<|bO cn cr o).1) c6) J J<|aq<|rt<|r1 J J ?_
 exact⟨((dK cn cr<|aX (fun (x_:Int)=>(decide (0≤x0)&&(decide (x_=x0)||eK cn cr x0 x_)))<|bO cn cr o).1++(dK cn cr<|aX (fun (x_:Int)=>(!((fun (x_:Int)=>(decide (0≤x0)&&(decide (x_=x0)||eK cn cr x0 x_))) x_)))<|bO cn cr o).1),a6,c6,J,iS.below,(iS.dp 2 J),(by rw[fF];omega)⟩
theorem Wu (hM:eO M w) (hT:fU 0 w) (dL:cD M w aw av U) (gb:cD M w ay ax fo) (kA:aJ cn) (nW:cD M w dy dx cr) (ui:aJ o) (pH:aJ lv) (lk:w.heap[eJ]? =some (.cells #[.slice aC aE aB,sL aw U av,sL ay fo ax,I cn,sL dy cr dx] me (0,0))∧¬M eJ) (ho:ig U) (dB:U.length≤64) (ez:fo.length=U.length) (fL:∀x∈fo,x<((U.length:Nat):Int)) (oH:cn=((U.length:Nat):Int)) (pS:cr=cu U fo) (yQ:0≤o∧o<((U.length:Nat):Int)):Calls aI 57 #[.pointer (some ⟨eJ,0,none⟩),I o,I lv] w (cp fun v w'=>∃(ls:aA) (a0:OA) (c0:Nat),v=sL a0 ls c0∧Ext w w'∧bm M 3 w ls (sL a0 ls c0) w'∧ls.length≤300000):=by
 refine dG 15 Tryz.func57 J J J hM fun f0 ha H=>?_
 have H0:=eG H dL
 have H1:=eG H0 gb
 have H2:=eG H1 nW
 have H3:=H2.put (it:=ro eJ #[.slice aC aE aB,sL aw U av,sL ay fo ax,I cn,sL dy cr dx] me) J<|by rw[aD rfl,aD rfl,aD rfl,bP];exact lk
 have i0:f0 0=pV eJ 0:=ha 0 bl
 have i1:f0 1=I o:=ha 1 bl
 have i2:f0 2=I lv:=ha 2 bl
 refine az<|ak (v:=.slice none 0 0) J J<|aq<|sq<|az<|ai J i2<|k<|eql J J J J<|z<|nx<|cd (b:=decide (lv=3)) J J (fun b0=>?_)<|fun b0=>?_
 ·
  refine az<|ai J i0<|ai J i1<|k ?_
  have bS:=Wv (U:=U) (fo:=fo) (cn:=cn) (cr:=cr) (o:=o) H3.mb (hT.ext H3.below) (H3.rv 3 J) (H3.rv 2 J) kA (H3.rv 1 J) ui (H3.at_ 0 J) (by exact ho) (by exact dB) (by exact ez) (by exact fL) (by exact oH) (by exact pS) aj
  refine ca aiP J (ec J<|ec J e0) bS ?_
  rintro _ w0 ⟨o0,a0,c0,rfl,bY,cw,q0⟩
  have H4:=H3.eT cw
  refine ak (v:=sL a0 o0 c0) J J<|aq<|rt<|aK<|r1 J J ?_
  exact⟨o0,a0,c0,J,H4.below,(H4.dp 0 J),bo⟩
 refine sk<|cO<|ai J i0<|ai J i1<|k ?_
 have bS:=NS (U:=U) (fo:=fo) (cn:=cn) (cr:=cr) (o:=o) H3.mb (hT.ext H3.below) (H3.rv 3 J) (H3.rv 2 J) kA (H3.rv 1 J) ui (H3.at_ 0 J) (by exact ho) (by exact dB) (by exact ez) (by exact fL) (by exact oH) (by exact pS) aj
 refine ca aiO J (ec J<|ec J e0) bS ?_
 rintro _ w0 ⟨o0,a0,c0,rfl,bY,cw,q0⟩
 have H4:=H3.eT cw
 refine ak (v:=sL a0 o0 c0) J J<|aq<|rt<|r1 J J ?_
 exact⟨o0,a0,c0,J,H4.below,(H4.dp 0 J),bo⟩
theorem vQ:ef aI 30 5 true 88 (.agg #[.int .i64 0,.int .i64 0,.slice none 0 0,.slice none 0 0,.slice none 0 0]):=⟨aS,aS⟩
theorem ai0:cA aI 54:=cI Tryz.func54
theorem aiZ:cA aI 55:=cI Tryz.func55
theorem adG:gR aI 30 2 3:=jU Tryz.underlying30
theorem Ts:gR aI 30 3 4:=jU Tryz.underlying30
theorem aaK:ef aI 28 1 false 24 (.slice none 0 0):=⟨aS,aS⟩
theorem aiY:cA aI 57:=cI Tryz.func57
theorem ahD:aI.underlying 28=some (.slice 27):=aS
theorem Wr (hM:eO M w) (hT:fU 0 w) (dL:cD M w aw av U) (gb:cD M w ay ax fo) (ga:aJ mn) (gv:cD M w bD bC mr) (ho:ig U) (dB:U.length≤64) (ez:fo.length=U.length) (fL:∀x∈fo,x<((U.length:Nat):Int)) (B8:mn=((U.length:Nat):Int)) (B7:mr=cu U fo):Calls aI 55 #[.agg #[.slice aC aE aB,sL aw U av,sL ay fo ax],.agg #[I mn,sL bD mr bC]] w (cp fun v w'=>∃(on:Int) (om:List (List bt)) (er:Int) (a0:OA) (c0:Nat),v=.tuple #[.agg #[I on,sL a0 om c0],I er]∧Ext w w'∧cD M w' a0 c0 om∧bK on om=true∧aJ on∧aJ er):=by
 refine dG 39 Tryz.func55 J J J hM fun f0 ha H=>?_
 let J0:=iL aw U av
 have H0:=H.put (it:=J0) J<|by rw[bP];exact dL
 let J1:=iL ay fo ax
 have H1:=H0.put (it:=J1) J<|by rw[aD rfl,bP];exact gb
 let J2:=iL bD mr bC
 have H2:=H1.put (it:=J2) J<|by rw[aD rfl,aD rfl,bP];exact gv
 have ja:=bj dL
 have kP:=bj gb
 have nz:=bj gv
 have i0:f0 0=.agg #[.slice aC aE aB,sL aw U av,sL ay fo ax]:=ha 0 bl
 have i1:f0 1=.agg #[I mn,sL bD mr bC]:=ha 1 bl
 have bZ:bK mn mr=true:=by rw[B8,B7];exact pL fo aj
 have Fg:=pk bZ
 refine az<|k<|bx H2 J i0 ?_
 let ba:=[J2,J1,J0]
 intro aZ w0 bY (H3:HI M w w0 (box aZ #[.slice aC aE aB,sL aw U av,sL ay fo ax] 47::ba))
 let J3:=box aZ #[.slice aC aE aB,sL aw U av,sL ay fo ax] 47
 refine k<|bx H3 J i1 ?_
 let bV:=J3::ba
 intro aY w1 cT (H4:HI M w w1 (box aY #[I mn,sL bD mr bC] 26::bV))
 let J4:=box aY #[I mn,sL bD mr bC] 26
 refine k<|al H4 bp ?_
 let dz:=J4::bV
 intro bJ w2 fk (H5:HI M w w2 (box bJ #[I 0,.slice none 0 0] 26::dz))
 let J5:=box bJ #[I 0,.slice none 0 0] 26
 refine ak (v:=I 0) J J<|bz<|k<|cB H5 1 J bp J J au J<|k ?_
 have bS:=wL (mn:=mn) (mr:=mr) H5.mb ga (H5.rv 3 J)<|by exact bZ
 refine ca QE J (ec J e0) bS ?_
 rintro _ w3 ⟨a0,c0,rfl,fN,cw⟩
 have H6:=H5.eT cw
 refine k<|al H6 bp ?_
 let iW:=oL w 144 a0 (fj mn mr) c0::J5::dz
 intro fh w4 iP (H7:HI M w w4 (box fh #[I 0,.slice none 0 0] 26::iW))
 refine k<|bw H7 0 J bp J J J J J J J ?_
 intro w5 (H8:HI M w w5 (box fh #[I mn,sL a0 (fj mn mr) c0] 26::iW))
 refine aq<|sq<|az<|k<|cB H8 4 J eh J J au J<|k<|cB H8 3 J bp J J au J<|k ?_
 have cU:=uV (U:=U) (fo:=fo) (mn:=mn) (mr:=mr) (aC:=aC) (aE:=aE) (aB:=aB) H8.mb (hT.ext H8.below) (H8.rv 7 J) (H8.rv 6 J) ga (H8.rv 5 J) aj (by exact ez) (by exact fL)<|by exact bZ
 refine ca QC J (ec J<|ec J e0) cU ?_
 rintro _ w6 ⟨a1,c1,rfl,jc,d_⟩
 have H9:=H8.eT d_
 refine k<|dD J J ey<|ai (v:=I 0) J J<|aq<|bk ?_
 have dO:=H9.freeze 2 J
 let J6:=iL a0 (fj mn mr) c0
 have cV:=dO.put (it:=J6) J<|dO.rv 2 J
 let J7:=oL w 122 a1 (cK U fo mn mr) c1
 let fm:=J6::J5::dz
 refine lp (fun m f w'=>∃(q_:Nat) (fV:Int) (fK:List (List bt)) (a2:OA) (c2:Nat),m=(cK U fo mn mr).length-q_∧f 4=pV bJ 0∧f 6=pV fh 0∧f 15=sL a1 (cK U fo mn mr) c1∧f 16=I ((cK U fo mn mr).length:Int)∧f 17=I (q_:Int)∧HI M w w' (iL a2 fK c2::J7::box fh #[I fV,sL a2 fK c2] 26::fm)∧(q_≤(cK U fo mn mr).length)∧(fV=mn∧fK=l_ mn (fj mn mr) ((cK U fo mn mr).take q_))) _ ⟨0,mn,(fj mn mr),a0,c0,J,J,J,J,J,(bG J),cV,aj,(by exact⟨J,J⟩)⟩ ?_
 rintro _ f0 w7 ⟨q_,fV,fK,a2,c2,rfl,s0,s1,s2,s3,s4,du,sU,oC⟩
 refine sq ?_
 have OW:=ri (U:=U) (fo:=fo) bZ;have Qw:=OW.1
 have sE:=Yz ez fL B8 B7 OW
 refine rg<|k<|lss J J s4 s3<|aq<|sq<|cd (b:=decide ((q_:Int)<((cK U fo mn mr).length:Int))) J J (fun b0=>?_)<|fun b0=>?_
 ·
  have p0:=dT b0
  refine sk<|nx<|sq<|bk<|az<|k<|gW (du.at_ 1 J) J J s2 s4 aj ey cL ?_
  intro g0 x0 iC aM cz
  refine k<|nF cz cL J J ?_
  intro v0 dZ
  obtain⟨_,⟨_,_,rfl,⟨rfl,fy⟩,⟨_,_,rfl,⟨rfl,iT⟩,⟨rfl,jS⟩⟩⟩,rfl⟩:=dZ
  refine k<|al du cL ?_
  let kx:=iL a2 fK c2::J7::box fh #[I fV,sL a2 fK c2] 26::fm
  intro gN w8 jK (dJ:HI M w w8 (box gN #[I 0,I 0,I 0] 122::kx))
  refine k<|bw dJ 0 J cL J J J J J J J ?_
  intro w9 (cM:HI M w w9 (box gN #[I x0.1,I x0.2.1,I x0.2.2] 122::kx))
  refine aq<|rg<|k<|cB cM 3 J bp J s1 au J<|aQ kR J J<|bq cM 0 J aT J J J<|aQ mZ J J<|bq cM 0 J aT J J J<|k ?_
  have fP:=FC (mn:=fV) (mr:=fK) (i:=x0.1) (j:=x0.2.1) cM.mb aR (cM.rv 1 J) fy iT<|by exact Iq B8 Fg sE oC
  refine ca V3 J (ec J<|ec J<|ec J e0) fP ?_
  rintro _ dM ⟨a3,c3,rfl,lC,je⟩
  have dU:=cM.ext lC
  let J8:=iL a3 (ic fV fK x0.1 x0.2.1) c3
  have dt:=dU.put (it:=J8) J je
  refine ai (v:=.tuple #[.agg #[I (ir fV x0.1 x0.2.1),sL a3 (ic fV fK x0.1 x0.2.1) c3],I (lI fV x0.1 x0.2.1)]) J J<|k<|xt J J J<|k<|xt J J J<|k<|bw dt 4 J bp J J s1 J J J J ?_
  let J9:=box fh #[I (ir fV x0.1 x0.2.1),sL a3 (ic fV fK x0.1 x0.2.1) c3] 26
  intro ee (cR:HI M w ee (J8::box gN #[I x0.1,I x0.2.1,I x0.2.2] 122::iL a2 fK c2::J7::J9::fm))
  refine z<|aG<|nx<|rg<|k<|add J J s4 J aR<|ai (v:=I ((q_:Int)+1)) J J<|z ?_
  have dI:=cR.put (it:=J8) J<|cR.rv 0 J
  have dw:HI M w ee (J8::J7::J9::fm):=dI.bX [0,4,5,6,7,8,9,10,11,12] au J
  refine bF _ ?_ ⟨(q_+1),(ir fV x0.1 x0.2.1),(ic fV fK x0.1 x0.2.1),a3,c3,J,s0,s1,s2,s3,(bG J),dw,aj,(by exact BT oC aM (K1 B8 sE aM))⟩
  omega
 refine ex<|aV<|bc<|bg<|nx<|sq<|az<|k<|cB du 2 J bp J s1 au J<|k ?_
 have fP:=yO (mn:=fV) (mr:=fK) du.mb aR (du.rv 0 J)<|by exact Iq B8 Fg sE oC
 refine ca QD J (ec J e0) fP ?_
 rintro _ w8 ⟨rfl,jK⟩
 have dJ:=du.ext jK
 refine ai (v:=.tuple #[I (((cP fV fK).getD 0:Nat):Int),.bool ((cP fV fK).isSome)]) J J<|k<|xt J J J<|k<|xt J J J<|ak (v:=I (((cP fV fK).getD 0:Nat):Int)) J J<|ak (v:=.bool ((cP fV fK).isSome)) J J<|bz<|ai (v:=.bool ((cP fV fK).isSome)) J J<|z<|nx<|cd (b:=(cP fV fK).isSome) J J (fun b1=>?_)<|fun b1=>?_
 ·
  refine az<|k<|bd (v:=.agg #[I 0,.slice none 0 0]) J ew (fun _=>aS)<|k<|bw dJ 4 J bp J J s0 J J J J ?_
  intro w9 (cM:HI M w w9 (iL a2 fK c2::J7::box fh #[I fV,sL a2 fK c2] 26::fm))
  refine ak (v:=I 7) J J<|aq<|rt<|aK<|iH cM 4 J bp J J J s0 J au ?_
  exact⟨0,([]:List (List bt)),7,none,0,J,cM.below,(eF _ _),(by exact RM),(by exact FB),(by unfold aJ;omega)⟩
 refine sk<|cO<|k<|cB dJ 2 J bp J s1 au J<|k<|bw dJ 4 J bp J J s0 J J J J ?_
 intro w9 (cM:HI M w w9 (iL a2 fK c2::J7::box fh #[I fV,sL a2 fK c2] 26::J6::box bJ #[I fV,sL a2 fK c2] 26::dz))
 refine ak (v:=I 0) J J<|aq<|rt<|iH cM 4 J bp J J J s0 J au ?_
 exact⟨fV,fK,0,a2,c2,J,cM.below,(cM.gf 0 J),(by exact Iq B8 Fg sE oC),(by rw[oC.1];assumption),(by exact FB)⟩
theorem Q1 (pH:aJ lv) (hT:fU 0 w) (ho:ig U) (dB:U.length≤64) (ez:fo.length=U.length) (fL:∀x∈fo,x<((U.length:Nat):Int)) (L_:lv=1∨lv=2∨lv=3) (XZ:iN U fo lv=none) (H:HI M w w_ ([iL aw U av,iL ay fo ax]++r)):Calls aI 54 #[.agg #[.slice aC aE aB,sL aw U av,sL ay fo ax],I lv] w_ (cp fun v w'=>∃(YC:Nat) (a0:OA) (c0:Nat),v=.tuple #[pV YC 0,I 0]∧HI M w w' ([box YC #[.slice aC aE aB,sL aw U av,sL ay fo ax,I ((U.length:Nat):Int),.slice a0 (cu U fo).length c0] 107,iL a0 (cu U fo) c0,iL aw U av,iL ay fo ax]++r)):=by
 refine enter 25 Tryz.func54 J J J fun f0 ha=>?_
 have ja:=bj<|H.rv 0 J
 have kP:=bj<|H.rv 1 J
 have i0:f0 0=.agg #[.slice aC aE aB,sL aw U av,sL ay fo ax]:=ha 0 bl
 have i1:f0 1=I lv:=ha 1 bl
 refine az<|k<|bx H J i0 ?_
 let J1:=iL aw U av
 let J2:=iL ay fo ax
 intro aZ w0 bY (H0:HI M w w0 ([box aZ #[.slice aC aE aB,sL aw U av,sL ay fo ax] 47,J1,J2]++r))
 let J0:=box aZ #[.slice aC aE aB,sL aw U av,sL ay fo ax] 47
 refine ak (v:=.pointer none) J J<|ak (v:=I 0) J J<|aq<|sq<|az<|k<|cB H0 0 J eh J J au J<|ai J i1<|k ?_
 have bS:=MV (U:=U) (fo:=fo) (lv:=lv) (aC:=aC) (aE:=aE) (aB:=aB) H0.mb (hT.ext H0.below) (H0.rv 1 J) (H0.rv 2 J) pH (by exact ho) (by exact dB) (by exact ez) (by exact fL)<|by exact L_
 refine ca adt J (ec J<|ec J e0) bS ?_
 rintro _ w1 ⟨o0,o1,o2,o3,o4,o5,o6,rfl,cT,q0⟩
 have H1:=H0.ext cT
 refine ai (v:=.tuple #[.agg #[I o0,I o1,I o2,I o3,I o4,.slice none 0 0,I o5,I o6],I (fg U fo lv)]) J J<|k<|xt J J J<|k<|xt J J J<|k<|al H1 bT ?_
 intro aY w2 fk (H2:HI M w w2 ([box aY #[I 0,I 0,I 0,I 0,I 0,.slice none 0 0,I 0,I 0] 33,J0,J1,J2]++r))
 refine k<|bw H2 0 J bT J J J J J J J ?_
 let J3:=box aY #[I o0,I o1,I o2,I o3,I o4,.slice none 0 0,I o5,I o6] 33
 intro w3 (H3:HI M w w3 ([J3,J0,J1,J2]++r))
 refine ak (v:=I (fg U fo lv)) J J<|bz<|ai (v:=I (fg U fo lv)) J J<|aq<|bk<|az<|k<|eql J J J J<|ak (v:=.bool (decide ((fg U fo lv)=1))) J J<|z<|nx ?_
 have BZ:(decide ((fg U fo lv)=1))=false:=(by rw[anr];unfold fg;rw[XZ];decide)
 refine pB J J BZ<|az<|k<|eql J J J J<|ak (v:=.bool (decide ((fg U fo lv)=0))) J J<|z<|nx ?_
 have KO:(decide ((fg U fo lv)=0))=false:=(by rw[anr];unfold fg;rw[XZ];decide)
 refine pB J J KO<|sk<|aG<|nx<|sq<|lH [.r,.r,.r,.r,.e,.e,.s] (fun _=>True) J aS (fun _ _=>trivial)<|yq J J<|kq (fun _ x_=>cB (H3.ext x_) 1 J eh J J au J e1)<|bH<|kq (fun _ x_=>cB (H3.ext x_) 1 J eh J J au J e1)<|zq<|yu J (fun _ v w'=>∃(a0:OA) (c0:Nat),v=.agg #[I (U.length:Int),sL a0 (cu U fo) c0]∧RV H3.fS w' (sL a0 (cu U fo) c0) (cu U fo)) J nh J (fun v_ _ x_ _=>have fP:=BN (U:=U) (fo:=fo) (aC:=aC) (aE:=aE) (aB:=aB) (w:=v_) (H3.ext x_).mb ((H3.ext x_).rv 2 rfl) ((H3.ext x_).rv 3 rfl) (by exact ho) aj (by exact ez) (by exact fL);ca QG rfl (ec J e0) fP (fun _ w5 ⟨a1,c1,e_,iP,d_⟩=>⟨_,J,iP,⟨a1,c1,e_,d_⟩⟩))<|lL J (fun _ v w'=>∃(a2:OA) (c2:Nat),v=.agg #[.slice aC aE aB,sL aw U av,sL ay fo ax,I (U.length:Int),sL a2 (cu U fo) c2]∧RV H3.fS w' (sL a2 (cu U fo) c2) (cu U fo)) 0 J J nh J (fun _ _ _ _ _ h_=>let ⟨a3,c3,s0,fy⟩:=h_;bd (v:=.agg #[.slice aC aE aB,sL aw U av,sL ay fo ax,I (U.length:Int),sL a3 (cu U fo) c3]) rfl (cm J<|cm s0 ew) (fun _=>aS) ⟨_,J,Ext.refl _,⟨a3,c3,J,fy⟩⟩)<|ye<|ye<|yq J J<|kq (fun _ _=>jO (v:=I 0) J J e1)<|zq<|yz ?_
 intro w6 f0 _ jc _ _ cx iJ
 have cM:=H3.ext jc
 have s1:=cx 5 J
 obtain⟨a4,c4,s2,iT⟩:=iJ 0 _ _ rfl
 let J4:=iL a4 (cu U fo) c4
 have dU:=cM.put (it:=J4) J iT
 refine jw<|bx dU J s2 ?_
 intro bJ w7 jK (cR:HI M w w7 ([box bJ #[.slice aC aE aB,sL aw U av,sL ay fo ax,I (U.length:Int),sL a4 (cu U fo) c4] 107,J4,J3,J0,J1,J2]++r))
 let J5:=box bJ #[.slice aC aE aB,sL aw U av,sL ay fo ax,I (U.length:Int),sL a4 (cu U fo) c4] 107
 refine jw<|jO (v:=pV bJ 0) J J<|kz<|nx<|rt<|r2 J J J ?_
 try simp only[cZ,ck]
 rw[s1]
 have dI:=HI.aP (l:=[J5,J4,J3,J0,J1,J2]) (l':=[J5,J4,J1,J2]) (t:=r) cR [0,1,4,5] au J J
 have e0:((U.length:Int):Int)=((U.length:Nat):Int):=rfl
 try rw[←e0]
 refine⟨bJ,a4,c4,?_,?_⟩
 · first|rfl|simp only[e0]|(simp only[am'])
 · first|exact dI|simpa +zetaDelta only[e0,am'] using dI
theorem TW (hM:eO M w) (hT:fU 0 w) (dL:cD M w aw av U) (gb:cD M w ay ax fo) (pH:aJ lv) (ho:ig U) (dB:U.length≤64) (ez:fo.length=U.length) (fL:∀x∈fo,x<((U.length:Nat):Int)) (L_:lv=1∨lv=2∨lv=3) (XZ:iN U fo lv=none):Calls aI 30 #[.agg #[.slice aC aE aB,sL aw U av,sL ay fo ax],I lv] w (cp fun v w'=>∃(cn_:Int) (cm_:List (List bt)) (co_:aA) (cs_:List aA) (a0:OA) (c0:Nat) (a1:OA) (c1:Nat) (a2:OA) (c2:Nat),v=.tuple #[.agg #[I lv,I cn_,sL a0 cm_ c0,sL a1 co_ c1,sL a2 cs_ c2],I 0]∧Ext w w'∧cD M w' a0 c0 cm_∧cD M w' a1 c1 co_∧cD M w' a2 c2 cs_):=by
 refine dG 80 Tryz.func30 J J J hM fun f0 ha H=>?_
 let J0:=iL aw U av
 have H0:=H.put (it:=J0) J<|by rw[bP];exact dL
 let J1:=iL ay fo ax
 have H1:=H0.put (it:=J1) J<|by rw[aD rfl,bP];exact gb
 have ja:=bj dL
 have kP:=bj gb
 have i0:f0 0=.agg #[.slice aC aE aB,sL aw U av,sL ay fo ax]:=ha 0 bl
 have i1:f0 1=I lv:=ha 1 bl
 have lj:bK ((U.length:Nat):Int) (cu U fo)=true:=pL fo aj
 refine az<|k<|bx H1 J i0 ?_
 intro aZ w0 bY (H2:HI M w w0 [box aZ #[.slice aC aE aB,sL aw U av,sL ay fo ax] 47,J1,J0])
 let J2:=box aZ #[.slice aC aE aB,sL aw U av,sL ay fo ax] 47
 refine k<|al H2 vQ ?_
 intro aY w1 cT (H3:HI M w w1 [box aY #[I 0,I 0,.slice none 0 0,.slice none 0 0,.slice none 0 0] 30,J2,J1,J0])
 let J3:=box aY #[I 0,I 0,.slice none 0 0,.slice none 0 0,.slice none 0 0] 30
 refine ak (v:=I 0) J J<|bz<|k<|cB H3 1 J eh J J au J<|ai J i1<|k ?_
 have H4:HI M w w1 ([J0,J1]++[J3,J2]):=H3.bX [3,2,0,1] au J
 have bS:=Q1 (aC:=aC) (aE:=aE) (aB:=aB) (aw:=aw) (av:=av) (U:=U) (ay:=ay) (ax:=ax) (fo:=fo) (lv:=lv) (w:=w) (w_:=w1) (r:=[J3,J2]) (M:=M) pH hT (by exact ho) (by exact dB) (by exact ez) (by exact fL) (by exact L_) (by exact XZ) H4
 refine ca ai0 J (ec J<|ec J e0) bS ?_
 rintro _ w2 ⟨bJ,a0,c0,rfl,H5⟩
 let J4:=box bJ #[.slice aC aE aB,sL aw U av,sL ay fo ax,I ((U.length:Nat):Int),sL a0 (cu U fo) c0] 107
 let J5:=iL a0 (cu U fo) c0
 let ba:=[J4,J5,J0,J1,J3,J2]
 have H6:HI M w w2 ba:=H5
 refine ai (v:=.tuple #[pV bJ 0,I 0]) J J<|k<|xt J J J<|k<|xt J J J<|ak (v:=pV bJ 0) J J<|ak (v:=I 0) J J<|aq<|sq<|az<|ai (v:=I 0) J J<|k<|neq J J J J<|aq<|pB J J au<|sk<|cO<|ai J i1<|ai (v:=pV bJ 0) J J<|k<|nc J J<|aQ uO J J<|k<|cB H6 0 J bp J J au J<|k<|bd (v:=.agg #[I lv,I ((U.length:Nat):Int),sL a0 (cu U fo) c0,.slice none 0 0,.slice none 0 0]) J (cm J<|cm J ew) (fun _=>aS)<|k<|al H6 vQ ?_
 intro fh w3 fk (H7:HI M w w3 (box fh #[I 0,I 0,.slice none 0 0,.slice none 0 0,.slice none 0 0] 30::ba))
 refine k<|bw H7 0 J vQ J J J J J J J ?_
 let J6:=box fh #[I lv,I ((U.length:Nat):Int),sL a0 (cu U fo) c0,.slice none 0 0,.slice none 0 0] 30
 intro w4 (H8:HI M w w4 (J6::ba))
 refine aq<|sq<|az<|ai J i1<|k<|eql J J J J<|z<|nx<|cd (b:=decide (lv=2)) J J (fun b0=>?_)<|fun b0=>?_
 ·
  have p0:=dT b0
  refine sq<|lH [.r,.r,.r,.r,.r,.r,.r,.r,.s,.n,.e,.s] (fun _=>True) J aS (fun _ _=>trivial)<|yq J J<|kq (fun _ x_=>cB (H8.ext x_) 6 J eh J J au J e1)<|bH<|kq (fun _ _=>mv (v:=pV bJ 0) J J e1)<|bH<|kq (fun _ _=>nc J J e1)<|bH<|kq (fun _ _=>fa uO J J e1)<|bH<|kq (fun _ x_=>cB (H8.ext x_) 1 J bp J J au J e1)<|zq<|yu J (fun N v w'=>∃(o0:Int) (o1:List (List bt)) (o2:Int) (a1:OA) (c1:Nat),v=.tuple #[.agg #[I o0,sL a1 o1 c1],I o2]∧bK o0 o1=true∧aJ o0∧aJ o2∧RV (MN H8.fS N) w' (sL a1 o1 c1) o1) J ⟨by rintro _ _ _ _ x_ ⟨o0,o1,o2,a1,c1,e_,q0,q1,q2,d_⟩;exact⟨o0,o1,o2,a1,c1,e_,q0,q1,q2,d_.lift (Up.ext x_)⟩,by rintro _ _ _ _ _ k_ ⟨o0,o1,o2,a1,c1,e_,q0,q1,q2,d_⟩;exact⟨o0,o1,o2,a1,c1,e_,q0,q1,q2,ie d_ k_⟩⟩ J (fun v_ _ x_ n_=>have fP:=Wr (U:=U) (fo:=fo) (mn:=((U.length:Nat):Int)) (mr:=(cu U fo)) (aC:=aC) (aE:=aE) (aB:=aB) (w:=v_) (kN H8.mb x_ n_) (hT.ext (H8.below.trans x_)) (km (H8.rv 3 J) x_ n_) (km (H8.rv 4 J) x_ n_) aR (km (H8.rv 2 J) x_ n_) (by exact ho) (by exact dB) (by exact ez) (by exact fL) (by rfl) (by rfl);ca aiZ rfl (ec J<|ec J e0) fP (fun _ w6 ⟨o3,o4,o5,a2,c2,e_,iP,dZ,q3,q4,q5⟩=>⟨_,J,iP,⟨o3,o4,o5,a2,c2,e_,q3,q4,q5,dZ⟩⟩))<|lL J (fun N v w'=>∃(o6:Int) (o7:List (List bt)) (o8:Int) (a3:OA) (c3:Nat),v=.tuple #[.agg #[I o6,sL a3 o7 c3],I o8]∧bK o6 o7=true∧aJ o6∧aJ o8∧RV (MN H8.fS N) w' (sL a3 o7 c3) o7) 0 J J ⟨by rintro _ _ _ _ x_ ⟨o6,o7,o8,a3,c3,e_,q6,q7,q8,fy⟩;exact⟨o6,o7,o8,a3,c3,e_,q6,q7,q8,fy.lift (Up.ext x_)⟩,by rintro _ _ _ _ _ k_ ⟨o6,o7,o8,a3,c3,e_,q6,q7,q8,fy⟩;exact⟨o6,o7,o8,a3,c3,e_,q6,q7,q8,ie fy k_⟩⟩ J (fun _ _ _ _ _ h_=>let ⟨o9,kM,gq,a4,c4,s0,q9,u5,xC,iT⟩:=h_;mv rfl s0 ⟨_,J,Ext.refl _,⟨o9,kM,gq,a4,c4,J,q9,u5,xC,iT⟩⟩)<|lL J (fun N v w'=>∃(j5:Int) (yE:List (List bt)) (a5:OA) (c5:Nat),v=.agg #[I j5,sL a5 yE c5]∧bK j5 yE=true∧aJ j5∧RV (MN H8.fS N) w' (sL a5 yE c5) yE) 0 J J ⟨by rintro _ _ _ _ x_ ⟨j5,yE,a5,c5,e_,Eo,u4,jS⟩;exact⟨j5,yE,a5,c5,e_,Eo,u4,jS.lift (Up.ext x_)⟩,by rintro _ _ _ _ _ k_ ⟨j5,yE,a5,c5,e_,Eo,u4,jS⟩;exact⟨j5,yE,a5,c5,e_,Eo,u4,ie jS k_⟩⟩ J (fun _ _ _ _ _ h_=>let ⟨IZ,o16,CR,a6,c6,s1,CF,CE,yy,je⟩:=h_;xt rfl s1 rfl ⟨_,J,Ext.refl _,⟨IZ,o16,a6,c6,J,CF,CE,je⟩⟩)<|lL J (fun _ v _=>∃(Sk:Int),v=I Sk∧aJ Sk) 1 J J mE J (fun _ _ _ _ _ h_=>let ⟨o21,Sj,OC,a8,c8,s2,En,q22,Lm,oE⟩:=h_;xt rfl s2 rfl ⟨_,J,Ext.refl _,⟨OC,J,Lm⟩⟩)<|yn (z:=#[I 0,.slice none 0 0]) J J (fun _=>M7 bp)<|ye<|lL J (fun _ v _=>∃(mO:Int),v=I mO∧aJ mO) 1 J J mE J (fun _ _ _ _ _ h_=>let ⟨Lw,s3,q25⟩:=h_;jO rfl s3 ⟨_,J,Ext.refl _,⟨Lw,J,q25⟩⟩)<|yz ?_
  intro w7 f0 _ jc _ _ cx iJ
  obtain⟨AM,s4,AE,rI,yR⟩:=iJ 1 _ _ rfl
  have og:=MM (z:=#[I 0,.slice none 0 0]) (T:=26) AE rI yR<|MO
  have dJ:HI M w w7 (box AM #[I 0,.slice none 0 0] 26::J6::ba):=H8.Bs jc og<|LF LC LG
  have s5:=cx 2 J
  have s6:=cx 4 J
  have s7:=cx 8 J
  obtain⟨sQ,ua,a9,c9,s8,q26,q27,nE⟩:=iJ 3 _ _ rfl
  let J7:=iL a9 ua c9
  have cM:=dJ.put (it:=J7) J<|sy nE og
  refine jw<|bw cM 1 J bp J J s4 s8 J J J ?_
  let J8:=box AM #[I sQ,sL a9 ua c9] 26
  let bV:=J7::J8::J6::ba
  intro w8 (dU:HI M w w8 bV)
  refine kz<|cO<|aQ fG J s5<|bq dU 8 J jh J J J<|k<|dD J J jA<|k<|mk (m:=U.length) (zx:=(0:Int)) dU J J J J cG aT (fun _ _=>⟨J,by unfold aJ;omega⟩) aj aj ?_
  intro g0 w9 jK (dt:HI M w w9 (own w.heap.size 3 (.slice (some ⟨g0,0,none⟩) U.length U.length) (List.replicate U.length (0:Int))::bV))
  refine ak (v:=sL (some ⟨g0,0,none⟩) U U.length) J J<|aq<|sq<|az<|ai (v:=sL (some ⟨g0,0,none⟩) U U.length) J J<|k<|dD J J cG<|ai (v:=I 0) J J<|aq<|bk ?_
  let dz:=[J5,J0,J1,J3,J2]
  refine lp (fun m f w'=>∃(j_:Nat) (n5:aA),m=U.length-j_∧f 4=pV aY 0∧f 8=pV fh 0∧f 9=pV AM 0∧f 11=sL (some ⟨g0,0,none⟩) U U.length∧f 46=I (U.length:Int)∧f 47=I (j_:Int)∧HI M w w' (own w.heap.size 3 (.slice (some ⟨g0,0,none⟩) U.length U.length) n5::J7::J8::box fh #[I lv,I ((U.length:Nat):Int),sL a0 (cu U fo) c0,.slice none 0 0,.slice none 0 0] 30::box bJ #[.slice aC aE aB,sL aw U av,sL ay fo ax,I ((U.length:Nat):Int),sL a0 (cu U fo) c0] 107::dz)∧(j_≤U.length)∧(n5.length=U.length)) _ ⟨0,(List.replicate U.length 0),J,s6,s7,s4,J,J,(bG J),dt,aj,(by exact oG ..)⟩ ?_
  rintro _ f1 dM ⟨j_,n5,rfl,s9,eu,fb,fu,fl,gi,cR,pA,ah0⟩
  refine az<|k<|lss J J gi fl<|aq<|sq<|cd (b:=decide ((j_:Int)<(U.length:Int))) J J (fun b1=>?_)<|fun b1=>?_
  ·
   have p1:=dT b1
   refine sk<|nx<|sq<|bk<|az<|ai J gi<|ak (v:=I (j_:Int)) J J<|aq<|rg<|ai J fu<|ai (v:=I (j_:Int)) J J<|ai (v:=I (j_:Int)) J J<|k<|gW (cR.at_ 0 J) J J J J aj cG aT ?_
   intro g1 x0 iC aM cz
   refine k<|oQ cR 0 J iC J aj aT J J J J (RV.int.2 ⟨J,aR⟩) ?_
   intro ee (dI:HI M w ee (own w.heap.size 3 (.slice (some ⟨g0,0,none⟩) U.length U.length) (n5.set ((j_:Int).toNat) (j_:Int))::bV))
   refine z<|aG<|nx<|rg<|k<|add J J gi J aR<|ai (v:=I ((j_:Int)+1)) J J<|z<|bF _ ?_ ⟨(j_+1),(n5.set ((j_:Int).toNat) (j_:Int)),J,s9,eu,fb,fu,fl,(bG J),dI,aj,(by rw[am'];exact ah0)⟩
   omega
  refine ex<|aV<|bc<|bg<|cO<|k<|cB cR 2 J bp J fb au J<|ai J fu<|k ?_
  have Dt:(U.length:Nat)=n5.length:=Fm<|cR.at_ 0 J
  have dI:HI M w dM (oL w 3 (some ⟨g0,0,none⟩) n5 U.length::bV):=by simpa +zetaDelta only[oL,sL,Dt] using cR
  have dw:=dI.freeze 0 J
  have eZ:=yw (mn:=sQ) (mr:=ua) (nd:=n5) dw.mb (hT.ext dw.below) bo (dw.rv 1 J) (dw.rv 0 J) bo aj
  refine ca QF J (ec J<|ec (aqp (b:=(.slice (some ⟨g0,0,none⟩) U.length U.length:Value)) J<|am_ (fun n_=>Value.slice (some ⟨g0,0,none⟩) n_ U.length) Dt) e0) eZ ?_
  rintro _ ee ⟨jq,jo,rfl,lC,rP⟩
  have cE:=cR.eT<|bm.anyM rP
  refine ai (v:=.tuple #[sL jq ((dK sQ ua n5).1) jo,I ((dK sQ ua n5).2)]) J J<|k<|xt J J J<|k<|xt J J J<|aQ adG J eu<|k<|bw cE 4 J qJ J J J J J J J ?_
  let J9:=own w.heap.size 3 (.slice (some ⟨g0,0,none⟩) U.length U.length) n5
  let dR:=box fh #[I lv,I ((U.length:Nat):Int),sL a0 (cu U fo) c0,sL jq ((dK sQ ua n5).1) jo,.slice none 0 0] 30
  intro ft (df:HI M w ft (oL w 3 jq ((dK sQ ua n5).1) jo::J9::J7::J8::dR::ba))
  refine bz<|k<|cB df 4 J vQ J eu au J<|k<|bw df 9 J vQ J J s9 J J J J ?_
  intro ij (dH:HI M w ij [oL w 3 jq ((dK sQ ua n5).1) jo,J9,J7,J8,dR,J4,J5,J0,J1,box aY #[I lv,I ((U.length:Nat):Int),sL a0 (cu U fo) c0,sL jq ((dK sQ ua n5).1) jo,.slice none 0 0] 30,J2])
  refine ak (v:=I 0) J J<|aq<|rt<|aK<|iH dH 9 J vQ J J J s9 J au ?_
  have e2:(cu U fo:List (List bt))=(cu U fo):=rfl
  have e3:((dK sQ ua n5).1:aA)=((dK sQ ua n5).1):=rfl
  have bu:=nL (fun (gV:List (List bt)) (na:aA)=>(.tuple #[.agg #[I lv,I ((U.length:Nat):Int),.slice a0 gV.length c0,.slice jq na.length jo,.slice none ([]:List aA).length 0],I 0]:Value)) e2 e3
  exact⟨((U.length:Nat):Int),(cu U fo),((dK sQ ua n5).1),([]:List aA),a0,c0,jq,jo,none,0,bu,dH.below,(am_ (fun (x_:List (List bt))=>RV _ _ (.slice a0 x_.length c0) x_) e2).mp (dH.gf 6 J),(am_ (fun (x_:aA)=>RV _ _ (.slice jq x_.length jo) x_) e3).mp (dH.mB 0 J),(eF _ _)⟩
 have p0:=dF b0
 refine sk<|nx<|sq<|az<|aQ fG J J<|bq H8 6 J jh J J J<|k<|dD J J jA<|ai (v:=I 0) J J<|aq<|bk ?_
 have H9:=H8.ql aA 27
 let iW:=[J5,J0,J1,J3,J2]
 refine lp (fun m f w'=>∃(j_:Nat) (iG:List aA) (a1:OA) (c1:Nat),m=U.length-j_∧f 1=I lv∧f 4=pV aY 0∧f 6=pV bJ 0∧f 8=pV fh 0∧f 65=I (U.length:Int)∧f 66=I (j_:Int)∧HI M w w' (oL w 27 a1 iG c1::box fh #[I lv,I ((U.length:Nat):Int),sL a0 (cu U fo) c0,.slice none 0 0,sL a1 iG c1] 30::box bJ #[.slice aC aE aB,sL aw U av,sL ay fo ax,I ((U.length:Nat):Int),sL a0 (cu U fo) c0] 107::iW)∧(j_≤U.length)∧(iG.length≤j_)) _ ⟨0,([]:List aA),none,0,J,i1,J,J,J,J,(bG J),H9,aj,(by exact ane _)⟩ ?_
 rintro _ f0 w5 ⟨j_,iG,a1,c1,rfl,s0,s1,s2,s3,s4,s5,dO,pA,HY⟩
 refine az<|k<|lss J J s5 s4<|aq<|sq<|cd (b:=decide ((j_:Int)<(U.length:Int))) J J (fun b1=>?_)<|fun b1=>?_
 ·
  have p1:=dT b1
  refine sk<|nx<|sq<|bk<|az<|ai J s5<|ak (v:=I (j_:Int)) J J<|z<|nx<|lH [.r,.r,.r,.r,.r,.r,.r,.e,.f,.e] (fun _=>True) J aS (fun _ _=>trivial)<|yq J J<|kq (fun _ _=>fa Ts J s3 e1)<|bH<|kq (fun _ x_=>lx (dO.ext x_) 1 J aaK J J J e1)<|bH<|kq (fun _ _=>mv J s2 e1)<|bH<|kq (fun _ _=>mv (v:=I (j_:Int)) J J e1)<|bH<|kq (fun _ _=>mv J s0 e1)<|zq<|yu J (fun _ v w'=>∃(o0:aA) (a2:OA) (c2:Nat),v=sL a2 o0 c2∧o0.length≤300000∧RV (fun c_=>c_<w5.heap.size) w' (sL a2 o0 c2) o0) J (mN<|by rintro _ _ _ x_ ⟨o0,a2,c2,e_,q0,d_⟩;exact⟨o0,a2,c2,e_,q0,d_.lift (Up.ext x_)⟩) J (fun v_ _ x_ _=>have fP:=Wu (U:=U) (fo:=fo) (cn:=((U.length:Nat):Int)) (cr:=(cu U fo)) (o:=(j_:Int)) (lv:=lv) (w:=v_) (M:=fun _=>False) (fun _ h_=>h_.elim) (hT.ext (dO.ext x_).below) (((dO.ext x_).rv 4 rfl).lift (Up.less fun _ _ h_=>h_.elim)) (((dO.ext x_).rv 5 rfl).lift (Up.less fun _ _ h_=>h_.elim)) aR (((dO.ext x_).rv 3 rfl).lift (Up.less fun _ _ h_=>h_.elim)) aR pH ⟨(dO.ext x_).at_ 2 rfl,fun h_=>h_⟩ (by exact ho) (by exact dB) (by exact ez) (by exact fL) (by rfl) (by rfl) aj;ca aiY rfl (ec J<|ec J<|ec J e0) fP (fun _ w7 ⟨o1,a3,c3,e_,iP,dZ,q1⟩=>⟨_,J,iP,⟨o1,a3,c3,e_,q1,(bm.rvN dZ x_)⟩⟩))<|lL J (fun _ v w'=>∃(o2:aA) (a5:OA) (c5:Nat),v=sL a5 ([o2]:List aA) c5∧o2.length≤300000∧RV dO.fS w' (sL a5 ([o2]:List aA) c5) ([o2]:List aA)) 0 J J (mN<|by rintro _ _ _ x_ ⟨o2,a5,c5,e_,q2,jS⟩;exact⟨o2,a5,c5,e_,q2,jS.lift (Up.ext x_)⟩) J (fun v_ N_ u_ x_ n_ h_=>?_) ?_
  ·
   have cE:=dO.ext x_
   obtain⟨o3,a6,c6,s6,q3,je⟩:=h_
   have df:=cE.put (it:=iL a6 o3 c6) J<|Ld je dO
   refine bs (xs:=([o3]:List aA)) (cells:=#[sL a6 o3 c6]) (e:=27) df J (cm s6 ew) (fun _=>aS) ⟨[sL a6 o3 c6],[],J,⟨_,J,RV.list.1 (df.rv 0 J)⟩,J⟩ J au ?_
   intro g1 w9 jK (dH:HI M w w9 (own w.heap.size 27 (.slice (some ⟨g1,0,none⟩) 1 1) ([o3]:List aA)::iL a6 o3 c6::oL w 27 a1 iG c1::box fh #[I lv,I ((U.length:Nat):Int),sL a0 (cu U fo) c0,.slice none 0 0,sL a1 iG c1] 30::ba))
   have eP:=dH.freeze 0 J
   exact⟨_,J,jK,⟨o3,(some ⟨g1,0,none⟩),1,J,q3,(ly J<|ly J<|eP.rv 0 J)⟩⟩
  refine ye<|yf J (fun _ _=>fa Ts J s3 e3)<|ye<|yz ?_
  intro dM f1 _ lC _ _ cx iJ
  have ff:=dO.ext lC
  have s7:=(cx 1 J).trans s0
  have s8:=(cx 4 J).trans s1
  have s9:=(cx 6 J).trans s2
  have eu:=(cx 8 J).trans s3
  have fb:=(cx 65 J).trans s4
  have fu:=(cx 66 J).trans s5
  have fl:=cx 70 J
  obtain⟨o4,a7,c7,gi,q4,lh⟩:=iJ 0 _ _ rfl
  let eE:=iL a7 ([o4]:List aA) c7
  have gr:=ff.put (it:=eE) J lh
  have gS:=cx 77 J
  refine jw<|lY gr 1 J J J J fl gi (gr.rv 0 J).src ahD qJ J (by simp only[iI,gj];omega) J ?_
  intro a8 c8 ee (iy:HI M w ee (eE::oL w 27 a8 (iG++([o4]:List aA)) c8::box fh #[I lv,I ((U.length:Nat):Int),sL a0 (cu U fo) c0,.slice none 0 0,sL a1 iG c1] 30::ba))
  refine jw<|bw iy 2 J aaK J J gS J J J J ?_
  let fM:=box fh #[I lv,I ((U.length:Nat):Int),sL a0 (cu U fo) c0,.slice none 0 0,sL a8 (iG++([o4]:List aA)) c8] 30
  let fm:=oL w 27 a8 (iG++([o4]:List aA)) c8::fM::ba
  intro ft (iS:HI M w ft (eE::fm))
  refine kz<|aG<|nx<|rg<|k<|add J J fu J aR<|ai (v:=I ((j_:Int)+1)) J J<|z ?_
  have kY:=iS.put (it:=J5) J<|iS.rv 4 J
  have iw:HI M w ft fm:=kY.bX [2,3,4,0,6,7,8,9] au J
  refine bF _ ?_ ⟨(j_+1),(iG++([o4]:List aA)),a8,c8,J,s7,s8,s9,eu,fb,(bG J),iw,aj,(by rw[fF,iI,gj];omega)⟩
  omega
 refine ex<|aV<|bc<|bg<|cO<|k<|cB dO 1 J vQ J s3 au J<|k<|bw dO 6 J vQ J J s1 J J J J ?_
 intro w6 (cV:HI M w w6 [oL w 27 a1 iG c1,box fh #[I lv,I ((U.length:Nat):Int),sL a0 (cu U fo) c0,.slice none 0 0,sL a1 iG c1] 30,J4,J5,J0,J1,box aY #[I lv,I ((U.length:Nat):Int),sL a0 (cu U fo) c0,.slice none 0 0,sL a1 iG c1] 30,J2])
 refine ak (v:=I 0) J J<|aq<|rt<|iH cV 6 J vQ J J J s1 J au ?_
 have e2:(cu U fo:List (List bt))=(cu U fo):=rfl
 have bu:=iK (fun (gV:List (List bt))=>(.tuple #[.agg #[I lv,I ((U.length:Nat):Int),.slice a0 gV.length c0,.slice none ([]:aA).length 0,.slice a1 iG.length c1],I 0]:Value)) e2
 exact⟨((U.length:Nat):Int),(cu U fo),([]:aA),iG,a0,c0,none,0,a1,c1,bu,cV.below,(am_ (fun (x_:List (List bt))=>RV _ _ (.slice a0 x_.length c0) x_) e2).mp (cV.gf 3 J),(eF _ _),(cV.mB 0 J)⟩
theorem EP (pH:aJ lv):Calls aI 21 #[I lv] w (cp fun v w'=>v=.bool (decide (0<(((dV lv).length:Nat):Int)))∧Ext w w'):=by
 refine dG 7 Tryz.func21 J J J qt fun f0 ha H=>?_
 have i0:f0 0=I lv:=ha 0 bl
 refine az<|ak (v:=.bool false) J J<|bz<|ai J i0<|k ?_
 have bS:=JF (lv:=lv) (w:=w) H.mb pH
 refine ca adq J (ec J e0) bS ?_
 rintro _ w0 ⟨a0,c0,rfl,bY,cw⟩
 have H0:=H.eT cw
 refine k<|dD J J cG<|k<|gtr J J J J<|ak (v:=.bool (decide (0<((dV lv).length:Int)))) J J<|aq<|rt<|r1 J J ?_
 exact⟨am_ Value.bool (show (decide (0<((dV lv).length:Int)))=(decide (0<(((dV lv).length:Nat):Int))) from rfl),H0.below⟩
theorem Kb:ef aI 101 2 true 16 (.agg #[.int .i64 0,.int .i64 0]):=⟨aS,aS⟩
theorem aeW:Pq aI 101 [some (0,0),some (1,0)]:=⟨aS,aS,aS,aS⟩
theorem abH:IA aI 99:=Vv (by kernel_rfl:aI.underlying 99=some (.map 101 3)) (zD aeW) aT
theorem aeM:aI.underlying 134=some (.array 2 3):=aS
theorem agb:Uu aI 134:=arF aeM BY aS aS aS
theorem Xr:IA aI 132:=Vv (by kernel_rfl:aI.underlying 132=some (.map 134 3)) (Qf agb) aT
theorem ai2:cA aI 52:=cI Tryz.func52
theorem MC (hM:eO M w) (dL:cD M w aw av U):Calls aI 27 #[.agg #[.slice aC aE aB,sL aw U av,.slice ay fe ax]] w (cp fun v w'=>v=.tuple #[I ((dv U).1),I ((dv U).2.1),I ((dv U).2.2)]∧Ext w w'):=by
 refine dG 46 Tryz.func27 J J J hM fun f0 ha H=>?_
 let J0:=iL aw U av
 have H0:=H.put (it:=J0) J<|by rw[bP];exact dL
 have ja:=bj dL
 have i0:f0 0=.agg #[.slice aC aE aB,sL aw U av,.slice ay fe ax]:=ha 0 bl
 refine az<|k<|bx H0 J i0 ?_
 intro aZ w0 bY (H1:HI M w w0 [box aZ #[.slice aC aE aB,sL aw U av,.slice ay fe ax] 47,J0])
 let J1:=box aZ #[.slice aC aE aB,sL aw U av,.slice ay fe ax] 47
 refine ak (v:=I 0) J J<|ak (v:=I 0) J J<|ak (v:=I 0) J J<|bz<|k<|mm H1 ?_
 intro dQ w1 cT (H2:HI M w w1 [cb dQ ([]:KV),J1,J0])
 refine ak (v:=.map (some dQ)) J J<|aq<|sq<|az<|aQ fG J J<|bq H2 1 J jh J J J<|k<|dD J J jA<|ai (v:=I 0) J J<|aq<|bk<|lp (fun m f w'=>∃(j:Nat) (j1:KV),m=U.length-j∧f 5=.map (some dQ)∧f 13=sL aw U av∧f 14=I (U.length:Int)∧f 15=I (j:Int)∧HI M w w' [cb dQ j1,J1,J0]∧(j≤U.length)∧(∀k,k<j→oD U k=false)∧(tX U j j1)) _ ⟨0,([]:KV),J,J,J,J,(bG J),H2,aj,(by intro k hk;omega),(by exact Hb _)⟩ ?_
 rintro _ f0 w2 ⟨j,j1,rfl,s0,s1,s2,s3,H3,hk,hs,hm⟩
 refine az<|k<|lss J J s3 s2<|aq<|sq<|cd (b:=decide ((j:Int)<(U.length:Int))) J J (fun b0=>?_)<|fun b0=>?_
 ·
  have p0:=dT b0
  refine sk<|nx<|sq<|bk<|az<|ai J s3<|k<|ia (H3.rv 2 J) J J s1 s3 aj jA jE ?_
  intro iE x0 aM cz
  refine k<|nF cz.w jE J J ?_
  intro v0 cw
  obtain⟨_,⟨_,_,rfl,⟨rfl,d_⟩,⟨_,_,rfl,⟨rfl,dZ⟩,⟨_,_,rfl,rfl,⟨_,_,rfl,⟨rfl,fy⟩,⟨rfl,iT⟩⟩⟩⟩⟩,rfl⟩:=cw
  refine k<|al H3 jE ?_
  let ba:=[cb dQ j1,J1,J0]
  intro aY w3 fk (H4:HI M w w3 (box aY #[I 0,I 0,.bool false,I 0,I 0] 95::ba))
  refine ak (v:=I (j:Int)) J J<|k<|bw H4 0 J jE J J J J J J J ?_
  let J2:=box aY #[I x0.1,I x0.2.1,.bool x0.2.2.1,I x0.2.2.2.1,I x0.2.2.2.2] 95
  intro w4 (H5:HI M w w4 (J2::ba))
  refine aq<|sq<|az<|aQ vA J J<|bq H5 0 J oP J J J<|k<|jY J J<|z<|nx<|cd (b:=!x0.2.2.1) J J (fun b1=>?_)<|fun b1=>?_
  ·
   refine ex<|aV<|bg<|nx<|rg<|k<|add J J s3 J aR<|ai (v:=I ((j:Int)+1)) J J<|z ?_
   have H6:HI M w w4 ba:=H5.bX [1,2,3] au J
   refine bF _ ?_ ⟨(j+1),j1,J,s0,s1,s2,(bG J),H6,aj,(by exact BO hs aM (MR<|by simpa using b1)),(by exact EI hm aM (by simpa using b1))⟩
   omega
  refine sk<|nx<|sq<|az<|aQ r6 J J<|bq H5 0 J aT J J J<|k<|eql J J J J<|z<|nx<|cd (b:=decide (x0.2.2.2.2=0)) J J (fun b2=>?_)<|fun b2=>?_
  ·
   have p2:=dT b2
   refine az<|ai (v:=I (j:Int)) J J<|ai (v:=I (j:Int)) J J<|ak (v:=I (j:Int)) J J<|ak (v:=I (j:Int)) J J<|ak (v:=I 5) J J<|aq<|rt<|aK<|bR<|aK<|dX<|bR<|aK<|r3 J J J J ?_
   have e0:((j:Int):Int)=(dv U).1:=by exact(am_ (fun z_:Int×Int×Int=>z_.1)<|uQ hs aM (by simpa using b1) p2).symm
   have e1:((j:Int):Int)=(dv U).2.1:=by exact(am_ (fun z_:Int×Int×Int=>z_.2.1)<|uQ hs aM (by simpa using b1) p2).symm
   have e2:(5:Int)=(dv U).2.2:=by exact(am_ (fun z_:Int×Int×Int=>z_.2.2)<|uQ hs aM (by simpa using b1) p2).symm
   have bu:=rk (fun (cg:Int) (dY:Int) (gV:Int)=>(.tuple #[I cg,I dY,I gV]:Value)) e0 e1 e2
   exact⟨bu,H5.below⟩
  have p2:=dF b2
  refine sk<|cO<|aQ tO J J<|bq H5 0 J aT J J J<|aQ r6 J J<|bq H5 0 J aT J J J<|k<|bd (v:=.agg #[I x0.2.2.2.1,I x0.2.2.2.2]) J (cm J<|cm J ew) (fun _=>aS)<|k<|al H5 Kb ?_
  intro bJ w5 fN (H6:HI M w w5 (box bJ #[I 0,I 0] 101::J2::ba))
  refine k<|bw H6 0 J Kb J J J J J J J ?_
  intro w6 (H7:HI M w w6 (box bJ #[I x0.2.2.2.1,I x0.2.2.2.2] 101::J2::ba))
  refine aq<|sq<|az<|ai J s0<|k<|cB H7 0 J Kb J J au J<|k<|Xt (k:=(x0.2.2.2.1,x0.2.2.2.2)) abH H7 2 J J J J J ?_
  intro jS
  refine ai (v:=.tuple #[I ((getM j1 (x0.2.2.2.1,x0.2.2.2.2)).getD 0),.bool ((getM j1 (x0.2.2.2.1,x0.2.2.2.2)).isSome)]) J J<|k<|xt J J J<|k<|xt J J J<|ak (v:=I ((getM j1 (x0.2.2.2.1,x0.2.2.2.2)).getD 0)) J J<|ak (v:=.bool ((getM j1 (x0.2.2.2.1,x0.2.2.2.2)).isSome)) J J<|bz<|ai (v:=.bool ((getM j1 (x0.2.2.2.1,x0.2.2.2.2)).isSome)) J J<|z<|nx<|cd (b:=(getM j1 (x0.2.2.2.1,x0.2.2.2.2)).isSome) J J (fun b3=>?_)<|fun b3=>?_
  ·
   refine az<|ai (v:=I ((getM j1 (x0.2.2.2.1,x0.2.2.2.2)).getD 0)) J J<|ai (v:=I (j:Int)) J J<|ak (v:=I ((getM j1 (x0.2.2.2.1,x0.2.2.2.2)).getD 0)) J J<|ak (v:=I (j:Int)) J J<|ak (v:=I 4) J J<|aq<|rt<|aK<|bR<|aK<|dX<|bR<|aK<|r3 J J J J ?_
   have e0:((getM j1 (x0.2.2.2.1,x0.2.2.2.2)).getD 0:Int)=(dv U).1:=by exact(A5 hm aM b3).1.trans (am_ (fun z_:Int×Int×Int=>z_.1)<|tc hs aM (by simpa using b1) p2 (A5 hm aM b3).2).symm
   have e1:((j:Int):Int)=(dv U).2.1:=by exact(am_ (fun z_:Int×Int×Int=>z_.2.1)<|tc hs aM (by simpa using b1) p2 (A5 hm aM b3).2).symm
   have e2:(4:Int)=(dv U).2.2:=by exact(am_ (fun z_:Int×Int×Int=>z_.2.2)<|tc hs aM (by simpa using b1) p2 (A5 hm aM b3).2).symm
   have bu:=rk (fun (cg:Int) (dY:Int) (gV:Int)=>(.tuple #[I cg,I dY,I gV]:Value)) e0 e1 e2
   exact⟨bu,H7.below⟩
  refine sk<|nx<|rg<|ai J s0<|k<|cB H7 0 J Kb J J au J<|ai (v:=I (j:Int)) J J<|k<|Xp (k:=(x0.2.2.2.1,x0.2.2.2.2)) abH H7 2 J J J J J J J aR ?_
  let J3:=cb dQ (js j1 (x0.2.2.2.1,x0.2.2.2.2) (j:Int))
  intro w7 (H8:HI M w w7 [box bJ #[I x0.2.2.2.1,I x0.2.2.2.2] 101,J2,J3,J1,J0])
  refine z<|aG<|nx<|rg<|k<|add J J s3 J aR<|ai (v:=I ((j:Int)+1)) J J<|z ?_
  have H9:HI M w w7 [J3,J1,J0]:=H8.bX [2,3,4] au J
  refine bF _ ?_ ⟨(j+1),(js j1 (x0.2.2.2.1,x0.2.2.2.2) (j:Int)),J,s0,s1,s2,(bG J),H9,aj,(by exact BO hs aM (MT p2<|by rw[(Oe hm aM (by simpa using b1) b3).2];omega)),(by exact Ha hm aM (by simpa using b1) (Oe hm aM (by simpa using b1) b3).1)⟩
  omega
 have p0:=dF b0
 refine ex<|aV<|bc<|bg<|cO<|ak (v:=I 0) J J<|ak (v:=I 0) J J<|ak (v:=I 0) J J<|aq<|rt<|r3 J J J J ?_
 have e0:(0:Int)=(dv U).1:=by exact(am_ (fun z_:Int×Int×Int=>z_.1)<|xa hs aj).symm
 have e1:(0:Int)=(dv U).2.1:=by exact(am_ (fun z_:Int×Int×Int=>z_.2.1)<|xa hs aj).symm
 have e2:(0:Int)=(dv U).2.2:=by exact(am_ (fun z_:Int×Int×Int=>z_.2.2)<|xa hs aj).symm
 have bu:=rk (fun (cg:Int) (dY:Int) (gV:Int)=>(.tuple #[I cg,I dY,I gV]:Value)) e0 e1 e2
 exact⟨bu,H3.below⟩
theorem NG (hM:eO M w) (dL:cD M w aw av U) (dB:U.length≤4096):Calls aI 52 #[.agg #[.slice aC aE aB,sL aw U av,.slice ay fe ax]] w (cp fun v w'=>∃(a0:OA) (c0:Nat),v=.slice a0 (gJ U).length c0∧Ext w w'∧bm M 3 w (gJ U) (.slice a0 (gJ U).length c0) w'):=by
 refine dG 76 Tryz.func52 J J J hM fun f0 ha H=>?_
 let J0:=iL aw U av
 have H0:=H.put (it:=J0) J<|by rw[bP];exact dL
 have ja:=bj dL
 have i0:f0 0=.agg #[.slice aC aE aB,sL aw U av,.slice ay fe ax]:=ha 0 bl
 refine az<|k<|bx H0 J i0 ?_
 intro aZ w0 bY (H1:HI M w w0 [box aZ #[.slice aC aE aB,sL aw U av,.slice ay fe ax] 47,J0])
 let J1:=box aZ #[.slice aC aE aB,sL aw U av,.slice ay fe ax] 47
 refine ak (v:=.slice none 0 0) J J<|bz<|k<|mm H1 ?_
 let ba:=[J1,J0]
 intro dQ w1 cT (H2:HI M w w1 (cb dQ ([]:KV)::ba))
 refine ak (v:=.map (some dQ)) J J<|aq<|sq<|az<|aQ fG J J<|bq H2 1 J jh J J J<|k<|dD J J jA<|ai (v:=I 0) J J<|aq<|bk<|lp (fun m f w'=>∃(j:Nat) (j1:KV),m=U.length-j∧f 1=pV aZ 0∧f 3=.map (some dQ)∧f 13=sL aw U av∧f 14=I (U.length:Int)∧f 15=I (j:Int)∧HI M w w' (cb dQ j1::ba)∧(j≤U.length)∧(j1=uT U j)) _ ⟨0,([]:KV),J,J,J,J,J,(bG J),H2,aj,(by rfl)⟩ ?_
 rintro _ f0 w2 ⟨j,j1,rfl,s0,s1,s2,s3,s4,H3,hk,hm⟩
 refine az<|k<|lss J J s4 s3<|aq<|sq<|cd (b:=decide ((j:Int)<(U.length:Int))) J J (fun b0=>?_)<|fun b0=>?_
 ·
  have p0:=dT b0
  refine sk<|nx<|sq<|bk<|az<|ai J s4<|k<|ia (H3.rv 2 J) J J s2 s4 aj jA jE ?_
  intro iE x0 aM cz
  refine k<|nF cz.w jE J J ?_
  intro v0 cw
  obtain⟨_,⟨_,_,rfl,⟨rfl,d_⟩,⟨_,_,rfl,⟨rfl,dZ⟩,⟨_,_,rfl,rfl,⟨_,_,rfl,⟨rfl,fy⟩,⟨rfl,iT⟩⟩⟩⟩⟩,rfl⟩:=cw
  refine k<|al H3 jE ?_
  intro aY w3 fk (H4:HI M w w3 [box aY #[I 0,I 0,.bool false,I 0,I 0] 95,cb dQ j1,J1,J0])
  refine ak (v:=I (j:Int)) J J<|k<|bw H4 0 J jE J J J J J J J ?_
  let J2:=box aY #[I x0.1,I x0.2.1,.bool x0.2.2.1,I x0.2.2.2.1,I x0.2.2.2.2] 95
  intro w4 (H5:HI M w w4 [J2,cb dQ j1,J1,J0])
  refine bz<|aQ vA J J<|bq H5 0 J oP J J J<|z<|nx<|cd (b:=x0.2.2.1) J J (fun b1=>?_)<|fun b1=>?_
  ·
   refine rg<|ai J s1<|aQ tO J J<|bq H5 0 J aT J J J<|aQ r6 J J<|bq H5 0 J aT J J J<|k<|bd (v:=.agg #[I x0.2.2.2.1,I x0.2.2.2.2]) J (cm J<|cm J ew) (fun _=>aS)<|ai (v:=I (j:Int)) J J<|k<|Xp (k:=(x0.2.2.2.1,x0.2.2.2.2)) Xr H5 1 J J J J J J J aR ?_
   let J3:=cb dQ (js j1 (x0.2.2.2.1,x0.2.2.2.2) (j:Int))
   intro w5 (H6:HI M w w5 [J2,J3,J1,J0])
   refine z<|aG<|nx<|rg<|k<|add J J s4 J aR<|ai (v:=I ((j:Int)+1)) J J<|z ?_
   have H7:HI M w w5 (J3::ba):=H6.bX [1,2,3] au J
   refine bF _ ?_ ⟨(j+1),(js j1 (x0.2.2.2.1,x0.2.2.2.2) (j:Int)),J,s0,s1,s2,s3,(bG J),H7,aj,(by rw[hm];first|exact zC aM b1|exact Bu aM b1)⟩
   omega
  refine sk<|aG<|nx<|rg<|k<|add J J s4 J aR<|ai (v:=I ((j:Int)+1)) J J<|z ?_
  have H6:HI M w w4 (cb dQ j1::ba):=H5.bX [1,2,3] au J
  refine bF _ ?_ ⟨(j+1),j1,J,s0,s1,s2,s3,(bG J),H6,aj,(by rw[hm];first|exact zC aM b1|exact Bu aM b1)⟩
  omega
 have p0:=dF b0
 refine ex<|aV<|bc<|bg<|cO<|aQ fG J s0<|bq H3 1 J jh J J J<|k<|dD J J jA<|k<|mk (m:=U.length) (zx:=(0:Int)) H3 J J J J cG aT (fun _ _=>⟨J,by unfold aJ;omega⟩) aj aj ?_
 let J4:=cb dQ j1
 let bV:=J4::ba
 intro g0 w3 fk (H4:HI M w w3 (own w.heap.size 3 (.slice (some ⟨g0,0,none⟩) U.length U.length) (List.replicate U.length (0:Int))::bV))
 refine ak (v:=sL (some ⟨g0,0,none⟩) U U.length) J J<|aq<|sq<|az<|aQ fG J s0<|bq H4 2 J jh J J J<|k<|dD J J jA<|ai (v:=I 0) J J<|aq<|bk<|lp (fun m f w'=>∃(q:Nat) (xs:aA),m=U.length-q∧f 3=.map (some dQ)∧f 6=sL (some ⟨g0,0,none⟩) U U.length∧f 35=sL aw U av∧f 36=I (U.length:Int)∧f 37=I (q:Int)∧HI M w w' (own w.heap.size 3 (.slice (some ⟨g0,0,none⟩) U.length U.length) xs::bV)∧(q≤U.length)∧(xs.length=U.length)∧(xs=Di j1 U q)) _ ⟨0,(List.replicate U.length (0:Int)),J,s1,J,J,J,(bG J),H4,aj,bl,(by exact Tl _ _)⟩ ?_
 rintro _ f1 w4 ⟨q,xs,rfl,s5,s6,s7,s8,s9,H5,sU,hl,hs⟩
 refine az<|k<|lss J J s9 s8<|aq<|sq<|cd (b:=decide ((q:Int)<(U.length:Int))) J J (fun b1=>?_)<|fun b1=>?_
 ·
  have p1:=dT b1
  refine sk<|nx<|sq<|bk<|az<|ai J s9<|k<|ia (H5.rv 3 J) J J s7 s9 aj jA jE ?_
  intro iE x0 aM cz
  refine k<|nF cz.w jE J J ?_
  intro v0 cw
  obtain⟨_,⟨_,_,rfl,⟨rfl,d_⟩,⟨_,_,rfl,⟨rfl,dZ⟩,⟨_,_,rfl,rfl,⟨_,_,rfl,⟨rfl,fy⟩,⟨rfl,iT⟩⟩⟩⟩⟩,rfl⟩:=cw
  refine k<|al H5 jE ?_
  let J5:=own w.heap.size 3 (.slice (some ⟨g0,0,none⟩) U.length U.length) xs
  intro aY w5 fN (H6:HI M w w5 (box aY #[I 0,I 0,.bool false,I 0,I 0] 95::J5::bV))
  refine ak (v:=I (q:Int)) J J<|k<|bw H6 0 J jE J J J J J J J ?_
  let J6:=box aY #[I x0.1,I x0.2.1,.bool x0.2.2.1,I x0.2.2.2.1,I x0.2.2.2.2] 95
  intro w6 (H7:HI M w w6 (J6::J5::bV))
  refine bz<|ai J s5<|aQ tO J J<|bq H7 0 J aT J J J<|aQ r6 J J<|bq H7 0 J aT J J J<|k<|bd (v:=.agg #[I x0.2.2.2.1,I x0.2.2.2.2]) J (cm J<|cm J ew) (fun _=>aS)<|k<|Xt (k:=(x0.2.2.2.1,x0.2.2.2.2)) Xr H7 2 J J J J J ?_
  intro jS
  refine ai (v:=.tuple #[I ((getM j1 (x0.2.2.2.1,x0.2.2.2.2)).getD 0),.bool ((getM j1 (x0.2.2.2.1,x0.2.2.2.2)).isSome)]) J J<|k<|xt J J J<|k<|xt J J J<|ak (v:=I ((getM j1 (x0.2.2.2.1,x0.2.2.2.2)).getD 0)) J J<|ak (v:=.bool ((getM j1 (x0.2.2.2.1,x0.2.2.2.2)).isSome)) J J<|aq<|bk<|az<|aQ vA J J<|bq H7 0 J oP J J J<|ak (v:=.bool x0.2.2.1) J J<|z<|nx<|cd (b:=x0.2.2.1) J J (fun b2=>?_)<|fun b2=>?_
  ·
   refine rg<|ai J s6<|ai (v:=I (q:Int)) J J<|k<|gW (H7.at_ 1 J) J J J J aj cG aT ?_
   intro g1 x1 iC cQ gL
   refine k<|oQ H7 1 J iC J aj aT J J J J (RV.int.2 ⟨J,aR⟩) ?_
   let J7:=own w.heap.size 3 (.slice (some ⟨g0,0,none⟩) U.length U.length) (xs.set ((q:Int).toNat) (-3))
   intro w7 (H8:HI M w w7 (J6::J7::bV))
   refine z<|aG<|aG<|nx<|rg<|k<|add J J s9 J aR<|ai (v:=I ((q:Int)+1)) J J<|z ?_
   have H9:HI M w w7 (J7::bV):=H8.bX [1,2,3,4] au J
   refine bF _ ?_ ⟨(q+1),(xs.set ((q:Int).toNat) (-3)),J,s5,s6,s7,s8,(bG J),H9,aj,(by simpa using hl),(by rw[hs];first|exact jZ aM (Kt b2)|exact jZ aM (Kw b2 p3)|exact jZ aM (Ku b2 p3 b4)|exact jZ aM (Kv b2 p3 b4))⟩
   omega
  refine az<|aQ r6 J J<|bq H7 0 J aT J J J<|k<|eql J J J J<|ak (v:=.bool (decide (x0.2.2.2.2=0))) J J<|z<|nx<|cd (b:=decide (x0.2.2.2.2=0)) J J (fun b3=>?_)<|fun b3=>?_
  ·
   have p3:=dT b3
   refine rg<|ai J s6<|ai (v:=I (q:Int)) J J<|k<|gW (H7.at_ 1 J) J J J J aj cG aT ?_
   intro g1 x1 iC cQ gL
   refine k<|oQ H7 1 J iC J aj aT J J J J (RV.int.2 ⟨J,aR⟩) ?_
   let J8:=own w.heap.size 3 (.slice (some ⟨g0,0,none⟩) U.length U.length) (xs.set ((q:Int).toNat) (-1))
   intro w7 (H8:HI M w w7 (J6::J8::bV))
   refine z<|aG<|aG<|nx<|rg<|k<|add J J s9 J aR<|ai (v:=I ((q:Int)+1)) J J<|z ?_
   have H9:HI M w w7 (J8::bV):=H8.bX [1,2,3,4] au J
   refine bF _ ?_ ⟨(q+1),(xs.set ((q:Int).toNat) (-1)),J,s5,s6,s7,s8,(bG J),H9,aj,(by simpa using hl),(by rw[hs];first|exact jZ aM (Kt b2)|exact jZ aM (Kw b2 p3)|exact jZ aM (Ku b2 p3 b4)|exact jZ aM (Kv b2 p3 b4))⟩
   omega
  have p3:=dF b3
  refine az<|ai (v:=.bool ((getM j1 (x0.2.2.2.1,x0.2.2.2.2)).isSome)) J J<|ak (v:=.bool ((getM j1 (x0.2.2.2.1,x0.2.2.2.2)).isSome)) J J<|z<|nx<|cd (b:=(getM j1 (x0.2.2.2.1,x0.2.2.2.2)).isSome) J J (fun b4=>?_)<|fun b4=>?_
  ·
   refine rg<|ai J s6<|ai (v:=I (q:Int)) J J<|ai (v:=I ((getM j1 (x0.2.2.2.1,x0.2.2.2.2)).getD 0)) J J<|k<|gW (H7.at_ 1 J) J J J J aj cG aT ?_
   intro g1 x1 iC cQ gL
   refine k<|oQ H7 1 J iC J aj aT J J J J (RV.int.2 ⟨J,aR⟩) ?_
   let J9:=own w.heap.size 3 (.slice (some ⟨g0,0,none⟩) U.length U.length) (xs.set ((q:Int).toNat) ((getM j1 (x0.2.2.2.1,x0.2.2.2.2)).getD 0))
   intro w7 (H8:HI M w w7 (J6::J9::bV))
   refine z<|aG<|aG<|nx<|rg<|k<|add J J s9 J aR<|ai (v:=I ((q:Int)+1)) J J<|z ?_
   have H9:HI M w w7 (J9::bV):=H8.bX [1,2,3,4] au J
   refine bF _ ?_ ⟨(q+1),(xs.set ((q:Int).toNat) ((getM j1 (x0.2.2.2.1,x0.2.2.2.2)).getD 0)),J,s5,s6,s7,s8,(bG J),H9,aj,(by simpa using hl),(by rw[hs];first|exact jZ aM (Kt b2)|exact jZ aM (Kw b2 p3)|exact jZ aM (Ku b2 p3 b4)|exact jZ aM (Kv b2 p3 b4))⟩
   omega
  refine rg<|ai J s6<|ai (v:=I (q:Int)) J J<|k<|gW (H7.at_ 1 J) J J J J aj cG aT ?_
  intro g1 x1 iC cQ gL
  refine k<|oQ H7 1 J iC J aj aT J J J J (RV.int.2 ⟨J,aR⟩) ?_
  let dR:=own w.heap.size 3 (.slice (some ⟨g0,0,none⟩) U.length U.length) (xs.set ((q:Int).toNat) (-2))
  intro w7 (H8:HI M w w7 (J6::dR::bV))
  refine z<|aG<|aG<|nx<|rg<|k<|add J J s9 J aR<|ai (v:=I ((q:Int)+1)) J J<|z ?_
  have H9:HI M w w7 (dR::bV):=H8.bX [1,2,3,4] au J
  refine bF _ ?_ ⟨(q+1),(xs.set ((q:Int).toNat) (-2)),J,s5,s6,s7,s8,(bG J),H9,aj,(by simpa using hl),(by rw[hs];first|exact jZ aM (Kt b2)|exact jZ aM (Kw b2 p3)|exact jZ aM (Ku b2 p3 b4)|exact jZ aM (Kv b2 p3 b4))⟩
  omega
 have p1:=dF b1
 refine ex<|aV<|bc<|bg<|cO<|ai J s6<|ak (v:=sL (some ⟨g0,0,none⟩) U U.length) J J<|aq<|rt<|r1 J J ?_
 have e0:(xs:aA)=gJ U:=by rw[hs,hm];unfold gJ;rw[Wa aj,show j=U.length from by omega]
 have l0:U.length=(gJ U).length:=by rw[←e0];omega
 have bu:=iK (fun (vf:Nat)=>(.slice (some ⟨g0,0,none⟩) vf U.length:Value)) l0
 exact⟨(some ⟨g0,0,none⟩),U.length,bu,H5.below,(am_ (fun (n_:Nat)=>bm _ _ _ (gJ U) (.slice (some ⟨g0,0,none⟩) n_ U.length) _) l0).mp ((am_ (fun (x_:aA)=>bm _ _ _ x_ (.slice (some ⟨g0,0,none⟩) U.length U.length) _) e0).mp (H5.dp 0 J))⟩
theorem NH (hM:eO M w) (VU:cD M w aC aB fv) (dL:cD M w aw av U) (gb:cD M w ay ax fo) (dB:U.length≤4096):Calls aI 28 #[.agg #[sL aC fv aB,sL aw U av,sL ay fo ax]] w (cp fun v w'=>∃(a0:OA) (c0:Nat) (a1:OA) (c1:Nat) (a2:OA) (c2:Nat),v=.agg #[sL a0 fv c0,sL a1 U c1,.slice a2 (gJ U).length c2]∧Ext w w'∧cD M w' a0 c0 fv∧cD M w' a1 c1 U∧RV M w' (.slice a2 (gJ U).length c2) (gJ U)):=by
 refine dG 7 Tryz.func28 J J J hM fun f0 ha H=>?_
 let J0:=iL aC fv aB
 have H0:=H.put (it:=J0) J<|by rw[bP];exact VU
 let J1:=iL aw U av
 have H1:=H0.put (it:=J1) J<|by rw[aD rfl,bP];exact dL
 let J2:=iL ay fo ax
 have H2:=H1.put (it:=J2) J<|by rw[aD rfl,aD rfl,bP];exact gb
 have i0:f0 0=.agg #[sL aC fv aB,sL aw U av,sL ay fo ax]:=ha 0 bl
 refine az<|k<|bx H2 J i0 ?_
 intro aZ w0 bY (H3:HI M w w0 [box aZ #[sL aC fv aB,sL aw U av,sL ay fo ax] 47,J2,J1,J0])
 refine k<|al H3 eh ?_
 intro aY w1 cT (H4:HI M w w1 [box aY #[.slice none 0 0,.slice none 0 0,.slice none 0 0] 47,box aZ #[sL aC fv aB,sL aw U av,sL ay fo ax] 47,J2,J1,J0])
 refine bz<|k<|cB H4 1 J eh J J au J<|k ?_
 have bS:=NG (U:=U) (aC:=aC) (aE:=fv.length) (aB:=aB) (ay:=ay) (fe:=fo.length) (ax:=ax) H4.mb (H4.rv 3 J) bo
 refine ca ai2 J (ec J e0) bS ?_
 rintro _ w2 ⟨a0,c0,rfl,fk,cw⟩
 have H5:=H4.eT cw
 refine aQ tR J J<|k<|bw H5 2 J qJ J J J J J J J ?_
 let J3:=box aZ #[sL aC fv aB,sL aw U av,sL a0 (gJ U) c0] 47
 intro w3 (H6:HI M w w3 [oL w 3 a0 (gJ U) c0,box aY #[.slice none 0 0,.slice none 0 0,.slice none 0 0] 47,J3,J2,J1,J0])
 refine bz<|k<|cB H6 2 J eh J J au J<|k<|bw H6 1 J eh J J J J J J J ?_
 intro w4 (H7:HI M w w4 [oL w 3 a0 (gJ U) c0,box aY #[sL aC fv aB,sL aw U av,sL a0 (gJ U) c0] 47,J3,J2,J1,J0])
 refine aq<|rt<|py H7 1 J eh J J J J au ?_
 exact⟨aC,aB,aw,av,a0,c0,J,H7.below,(H7.gf 5 J),(H7.gf 4 J),(H7.mB 0 J)⟩
theorem Yo:cA aI 114:=cI Tryz.func114
theorem aiU:cA aI 77:=cI Tryz.func77
theorem afR:cA aI 113:=cI Tryz.func113
theorem afA:cA aI 146:=cI Tryz.func146
theorem afS:cA aI 112:=cI Tryz.func112
theorem aiX:cA aI 74:=cI Tryz.func74
theorem aiV:cA aI 76:=cI Tryz.func76
theorem aiW:cA aI 75:=cI Tryz.func75
set_option maxRecDepth 100000 in
set_option maxHeartbeats 1600000 in
def CW:Go.Shelf.Ren:=⟨fun|160=>114|232=>148|231=>147|227=>149|234=>151|233=>150|236=>153|235=>152|228=>172|271=>175|151=>174|197=>173|120=>188|152=>187|260=>186|137=>192|119=>193|224=>194|225=>195|217=>196|266=>197|n=>n,fun|9=>9|4=>4|3=>3|5=>5|117=>200|116=>199|0=>0|124=>203|21=>21|105=>220|46=>152|119=>244|139=>247|138=>246|n=>n,fun|3=>1|4=>2|n=>n⟩
theorem LN:Go.Proofs.Lays.n160 aI CW:={
  mixed:=aS
  f119:=Tryz.func193.trans (am_ some aS)
  f120:=Tryz.func188.trans (am_ some aS)
  f137:=Tryz.func192.trans (am_ some aS)
  f151:=Tryz.func174.trans (am_ some aS)
  f152:=Tryz.func187.trans (am_ some aS)
  f160:=Tryz.func114.trans (am_ some aS)
  f197:=Tryz.func173.trans (am_ some aS)
  f217:=Tryz.func196.trans (am_ some aS)
  f224:=Tryz.func194.trans (am_ some aS)
  f225:=Tryz.func195.trans (am_ some aS)
  f227:=Tryz.func149.trans (am_ some aS)
  f228:=Tryz.func172.trans (am_ some aS)
  f231:=Tryz.func147.trans (am_ some aS)
  f232:=Tryz.func148.trans (am_ some aS)
  f233:=Tryz.func150.trans (am_ some aS)
  f234:=Tryz.func151.trans (am_ some aS)
  f235:=Tryz.func152.trans (am_ some aS)
  f236:=Tryz.func153.trans (am_ some aS)
  f260:=Tryz.func186.trans (am_ some aS)
  f266:=Tryz.func197.trans (am_ some aS)
  f271:=Tryz.func175.trans (am_ some aS)
  t0:=Tryz.underlying0
  a0:=Tryz.isAgg0
  z0:=Tryz.sizeOf0
  v0:=Tryz.zeroValue0
  t3:=Tryz.underlying3
  a3:=Tryz.isAgg3
  z3:=Tryz.sizeOf3
  v3:=Tryz.zeroValue3
  t4:=Tryz.underlying4
  a4:=Tryz.isAgg4
  z4:=Tryz.sizeOf4
  v4:=Tryz.zeroValue4
  t5:=Tryz.underlying5
  a5:=Tryz.isAgg5
  z5:=Tryz.sizeOf5
  v5:=Tryz.zeroValue5
  t9:=Tryz.underlying9
  a9:=Tryz.isAgg9
  z9:=Tryz.sizeOf9
  v9:=Tryz.zeroValue9
  t21:=Tryz.underlying21
  a21:=Tryz.isAgg21
  z21:=Tryz.sizeOf21
  v21:=Tryz.zeroValue21
  t46:=Tryz.underlying152
  a46:=Tryz.isAgg152
  z46:=Tryz.sizeOf152
  v46:=Tryz.zeroValue152
  t105:=Tryz.underlying220
  a105:=Tryz.isAgg220
  z105:=Tryz.sizeOf220
  v105:=Tryz.zeroValue220
  t116:=Tryz.underlying199
  a116:=Tryz.isAgg199
  z116:=Tryz.sizeOf199
  t117:=Tryz.underlying200
  a117:=Tryz.isAgg200
  z117:=Tryz.sizeOf200
  v117:=Tryz.zeroValue200
  t119:=Tryz.underlying244
  a119:=Tryz.isAgg244
  z119:=Tryz.sizeOf244
  t124:=Tryz.underlying203
  a124:=Tryz.isAgg203
  z124:=Tryz.sizeOf203
  v124:=Tryz.zeroValue203
  t138:=Tryz.underlying246
  a138:=Tryz.isAgg246
  z138:=Tryz.sizeOf246
  v138:=Tryz.zeroValue246
  t139:=Tryz.underlying247
  a139:=Tryz.isAgg247
  z139:=Tryz.sizeOf247
  v139:=Tryz.zeroValue247
  g3:=aS
  g4:=by kernel_rfl}
theorem Cr (lk:s.size≤maxLen) (aiE:cs.size≤maxLen) (FI:Rb cs):Calls aI 114 #[.string s,.string cs] w (cp fun v w'=>v=.string (trimB s cs)∧Ext w w'):=by
  have Mn:(aI.info? (CW.t 116)).map (fun i=>(i.zero,i.size))=some (some (.agg (Array.replicate 256 (.bool false))),256):=aS
  by_cases h0:s.size=0
  · refine(Go.Proofs.Any.strings_Trim_empty LN s cs w<|.inl h0).mono ?_
    rintro e w' ⟨rfl,rfl⟩
    unfold cp
    refine⟨_,J,?_,Ext.refl _⟩
    have hs:s.data.toList=[]:=by rw[←aod,anW];exact h0
    unfold trimB
    rw[hs]
    refine am_ Value.string ?_
    cases s with|mk a=>exact am_ ByteArray.mk (aoV h0)
  · refine(Go.Proofs.Any.strings_Trim_set LN (zero_of_info Mn).1 (zero_of_info Mn).2 s cs w FI.two aj lk FI.low FI.asc).mono ?_
    rintro e w' ⟨rfl,q,rfl⟩
    unfold cp
    exact⟨_,J,J,((Ext.alloc w _).trans (Ext.alloc _ _)).trans (Ty _ q)⟩
set_option maxRecDepth 100000 in
set_option maxHeartbeats 1600000 in
def xJ:Go.Shelf.Ren:=⟨fun|161=>144|231=>147|227=>149|233=>150|235=>152|228=>172|197=>173|151=>174|260=>186|152=>187|137=>192|119=>193|224=>194|225=>195|217=>196|266=>197|n=>n,fun|9=>9|4=>4|3=>3|5=>5|117=>200|116=>199|0=>0|124=>203|105=>220|21=>21|119=>244|46=>152|139=>247|138=>246|n=>n,fun|3=>1|4=>2|n=>n⟩
theorem CX:Go.Proofs.Lays.n161 aI xJ:={
  mixed:=aS
  f119:=Tryz.func193.trans (am_ some aS)
  f137:=Tryz.func192.trans (am_ some aS)
  f151:=Tryz.func174.trans (am_ some aS)
  f152:=Tryz.func187.trans (am_ some aS)
  f161:=Tryz.func144.trans (am_ some aS)
  f197:=Tryz.func173.trans (am_ some aS)
  f217:=Tryz.func196.trans (am_ some aS)
  f224:=Tryz.func194.trans (am_ some aS)
  f225:=Tryz.func195.trans (am_ some aS)
  f227:=Tryz.func149.trans (am_ some aS)
  f228:=Tryz.func172.trans (am_ some aS)
  f231:=Tryz.func147.trans (am_ some aS)
  f233:=Tryz.func150.trans (am_ some aS)
  f235:=Tryz.func152.trans (am_ some aS)
  f260:=Tryz.func186.trans (am_ some aS)
  f266:=Tryz.func197.trans (am_ some aS)
  t0:=Tryz.underlying0
  a0:=Tryz.isAgg0
  z0:=Tryz.sizeOf0
  v0:=Tryz.zeroValue0
  t3:=Tryz.underlying3
  a3:=Tryz.isAgg3
  z3:=Tryz.sizeOf3
  v3:=Tryz.zeroValue3
  t4:=Tryz.underlying4
  a4:=Tryz.isAgg4
  z4:=Tryz.sizeOf4
  v4:=Tryz.zeroValue4
  t5:=Tryz.underlying5
  a5:=Tryz.isAgg5
  z5:=Tryz.sizeOf5
  v5:=Tryz.zeroValue5
  t9:=Tryz.underlying9
  a9:=Tryz.isAgg9
  z9:=Tryz.sizeOf9
  v9:=Tryz.zeroValue9
  t21:=Tryz.underlying21
  a21:=Tryz.isAgg21
  z21:=Tryz.sizeOf21
  v21:=Tryz.zeroValue21
  t46:=Tryz.underlying152
  a46:=Tryz.isAgg152
  z46:=Tryz.sizeOf152
  v46:=Tryz.zeroValue152
  t105:=Tryz.underlying220
  a105:=Tryz.isAgg220
  z105:=Tryz.sizeOf220
  v105:=Tryz.zeroValue220
  t116:=Tryz.underlying199
  a116:=Tryz.isAgg199
  z116:=Tryz.sizeOf199
  t117:=Tryz.underlying200
  a117:=Tryz.isAgg200
  z117:=Tryz.sizeOf200
  v117:=Tryz.zeroValue200
  t119:=Tryz.underlying244
  a119:=Tryz.isAgg244
  z119:=Tryz.sizeOf244
  t124:=Tryz.underlying203
  a124:=Tryz.isAgg203
  z124:=Tryz.sizeOf203
  v124:=Tryz.zeroValue203
  t138:=Tryz.underlying246
  a138:=Tryz.isAgg246
  z138:=Tryz.sizeOf246
  v138:=Tryz.zeroValue246
  t139:=Tryz.underlying247
  a139:=Tryz.isAgg247
  z139:=Tryz.sizeOf247
  v139:=Tryz.zeroValue247
  g3:=aS
  g4:=by kernel_rfl}
theorem E9 (lk:s.size≤maxLen) (aiE:cs.size≤maxLen) (FI:Rb cs):Calls aI 144 #[.string s,.string cs] w (cp fun v w'=>v=.string (Cp s cs)∧Ext w w'):=by
  have Mn:(aI.info? (xJ.t 116)).map (fun i=>(i.zero,i.size))=some (some (.agg (Array.replicate 256 (.bool false))),256):=aS
  by_cases h0:s.size=0
  · refine(Go.Proofs.Any.strings_TrimLeft_empty CX s cs w<|.inl h0).mono ?_
    rintro e w' ⟨rfl,rfl⟩
    unfold cp
    refine⟨_,J,?_,Ext.refl _⟩
    have hs:s.data.toList=[]:=by rw[←aod,anW];exact h0
    unfold Cp
    rw[hs]
    refine am_ Value.string ?_
    cases s with|mk a=>exact am_ ByteArray.mk (aoV h0)
  · refine(Go.Proofs.Any.strings_TrimLeft_set CX (zero_of_info Mn).1 (zero_of_info Mn).2 s cs w FI.two aj FI.low FI.asc).mono ?_
    rintro e w' ⟨rfl,rfl⟩
    unfold cp
    exact⟨_,J,J,(Ext.alloc w _).trans (Ext.alloc _ _)⟩
theorem Qt (lk:s.size≤maxLen):Calls aI 77 #[.string s] w (cp fun v w'=>v=.bool (mC s)∧Ext w w'):=by
 refine dG 15 Tryz.func77 J J J qt fun f0 ha H=>?_
 have i0:f0 0=.string s:=ha 0 bl
 refine az<|ak (v:=.bool false) J J<|bz<|ai J i0<|k<|neS J J J J<|ai (v:=.bool (!decide (s=⟨#[]⟩))) J J ?_
 rcases bE (!decide (s=⟨#[]⟩)) with b0|b0
 ·
  have p0:=dF<|gl b0
  refine bh J J J b0<|mv J i0<|bh J J J b0<|wi J J mK<|bh J J J b0<|leq J J J J<|k<|aP J J J J b0 J<|ai (v:=.bool (decide ((s.size:Int)≤8))) J J ?_
  rcases bE (decide ((s.size:Int)≤8)) with b1|b1
  ·
   refine bh J J J b1<|mv J i0<|bh J J J b1 ?_
   have bS:=Cr (s:=s) (cs:=⟨#[97,98,99,100,101,102,103,104,105,106,107,108,109,110,111,112,113,114,115,116,117,118,119,120,121,122]⟩) (w:=w) bo au<|by exact NU
   refine ca Yo J (ec J<|ec J e0) bS ?_
   rintro _ w0 ⟨rfl,bY⟩
   have H0:=H.ext bY
   refine bh J J J b1<|Tz J J J J<|k<|aP J J J J b1 J<|ak (v:=.bool (decide (trimB s ⟨#[97,98,99,100,101,102,103,104,105,106,107,108,109,110,111,112,113,114,115,116,117,118,119,120,121,122]⟩=⟨#[]⟩))) J J<|aq<|rt<|r1 J J ?_
   exact⟨am_ Value.bool (by rw[Fw];simp only[(gl b0),b1,BL]),H0.below⟩
  refine aW J J J b1<|aW J J J b1<|aW J J J b1<|k<|dA J J J J b1 J<|ak (v:=.bool false) J J<|aq<|rt<|r1 J J ?_
  exact⟨am_ Value.bool (by rw[Fw];simp only[(gl b0),b1,BL]),H.below⟩
 have p0:=dT<|fA b0
 refine aW J J J b0<|aW J J J b0<|aW J J J b0<|k<|dA J J J J b0 J<|ai (v:=.bool false) J J<|aW J J J J<|aW J J J J<|aW J J J J<|k<|dA J J J J J J<|ak (v:=.bool false) J J<|aq<|rt<|r1 J J ?_
 exact⟨am_ Value.bool (by rw[Fw];simp only[(fA b0),BL]),H.below⟩
theorem NM {ow:Bool} {ov:bf} {on:Int} (amw:ov.size≤maxLen) (amx:aJ on):Calls aI 76 #[.agg #[.bool ow,.string ov,I on]] w (cp fun v w'=>v=.bool (!(mC ov))∧Ext w w'):=by
 refine dG 7 Tryz.func76 J J J qt fun f0 ha H=>?_
 have i0:f0 0=.agg #[.bool ow,.string ov,I on]:=ha 0 bl
 refine az<|k<|bx H J i0 ?_
 intro aZ w0 bY (H0:HI (fun _=>False) w w0 [box aZ #[.bool ow,.string ov,I on] 43])
 refine ak (v:=.bool false) J J<|bz<|aQ lW J J<|bq H0 0 J nD J J J<|k ?_
 have bS:=Qt (s:=ov) (w:=w0) bo
 refine ca aiU J (ec J e0) bS ?_
 rintro _ w1 ⟨rfl,cT⟩
 have H1:=H0.ext cT
 refine k<|jY J J<|ak (v:=.bool (!(mC ov))) J J<|aq<|rt<|r1 J J ?_
 exact⟨am_ Value.bool (show (!(mC ov))=(!(mC ov)) from rfl),H1.below⟩
theorem LV {r:List (Bool×bf×Int)} {p:(Bool×bf×Int)→Bool} (hM:eO M w) (pT:cD M w jP j2 r) (AF:FP aI qD qH M w r p):Calls aI 113 #[sL jP r j2,.func (.func qD) #[] qH.toArray] w (cp fun v w'=>v=I (eM p r)∧Ext w w'):=by
 refine dG 19 Tryz.func113 J J J hM fun f0 ha H=>?_
 have H0:=eG H pT
 have Vx:=bj pT
 have i0:f0 0=sL jP r j2:=ha 0 bl
 have i1:f0 1=.func (.func qD) #[] qH.toArray:=ha 1 bl
 refine az<|ak (v:=I 0) J J<|aq<|sq<|az<|ai J i0<|k<|dD J J lP<|ai (v:=I 0) J J<|aq<|bk<|lp (fun m f w'=>∃(j:Nat),m=r.length-j∧f 0=sL jP r j2∧f 1=.func (.func qD) #[] qH.toArray∧f 7=I (r.length:Int)∧f 8=I (j:Int)∧HI M w w' [iL jP r j2]∧(j≤r.length)∧((r.take j).any p=false)) _ ⟨0,J,i0,i1,J,(bG J),H0,aj,bl⟩ ?_
 rintro _ f0 w0 ⟨j,rfl,s0,s1,s2,s3,H1,hk,hs⟩
 refine az<|k<|lss J J s3 s2<|aq<|sq<|cd (b:=decide ((j:Int)<(r.length:Int))) J J (fun b0=>?_)<|fun b0=>?_
 ·
  have p0:=dT b0
  refine sk<|nx<|sq<|bk<|az<|ai J s3<|ak (v:=I (j:Int)) J J<|bz<|ai J s1<|ai J s0<|ai (v:=I (j:Int)) J J<|k<|ia (H1.rv 0 J) J J J J aj lP fY ?_
  intro iE x0 aM cz
  refine k<|nF cz.w fY J J ?_
  intro v0 cw
  obtain⟨_,⟨_,_,rfl,rfl,⟨_,_,rfl,⟨rfl,d_⟩,⟨rfl,dZ⟩⟩⟩,rfl⟩:=cw
  refine k<|cf AF.1 J J J (ec J e0) (AF.2 _ _ _ (by exact dC ‹_›) H1.below<|RV.lift (v:=.agg #[.bool x0.1,.string x0.2.1,I x0.2.2]) (x:=((x0.1,x0.2.1,x0.2.2):(Bool×bf×Int))) ⟨_,⟨_,_,J,J,⟨_,_,J,⟨J,aj⟩,⟨J,(show aJ (x0.2.2) from aR)⟩⟩⟩,J⟩ H1.out) ?_
  rintro _ w1 ⟨rfl,bY⟩
  have H2:=H1.ext bY
  refine z<|nx<|cd (b:=p (x0.1,x0.2.1,x0.2.2)) J J (fun b1=>?_)<|fun b1=>?_
  ·
   refine az<|ai (v:=I (j:Int)) J J<|ak (v:=I (j:Int)) J J<|aq<|rt<|bR<|aK<|dX<|bR<|aK<|r1 J J ?_
   exact⟨am_ (Value.int .i64) (by exact uF aM hs b1),H2.below⟩
  refine sk<|aG<|nx<|rg<|k<|add J J s3 J aR<|ai (v:=I ((j:Int)+1)) J J<|z<|bF _ ?_ ⟨(j+1),J,s0,s1,s2,(bG J),H2,aj,(by exact pN aM hs b1)⟩
  omega
 have p0:=dF b0
 refine ex<|aV<|bc<|bg<|cO<|ak (v:=I (-1)) J J<|aq<|rt<|r1 J J ?_
 exact⟨am_ (Value.int .i64) (by exact vj hs aj),H1.below⟩
theorem Hj {r:List (Bool×bf×Int)} {p:(Bool×bf×Int)→Bool} (hM:eO M w) (pT:cD M w jP j2 r) (AF:FP aI qD qH M w r p):Calls aI 75 #[sL jP r j2,.func (.func qD) #[] qH.toArray] w (cp fun v w'=>v=.bool (r.any p)∧Ext w w'):=by
 refine dG 9 Tryz.func75 J J J hM fun f0 ha H=>?_
 have H0:=eG H pT
 have i0:f0 0=sL jP r j2:=ha 0 bl
 have i1:f0 1=.func (.func qD) #[] qH.toArray:=ha 1 bl
 refine az<|ak (v:=.bool false) J J<|bz<|ai J i0<|ai J i1<|k ?_
 have bS:=LV (r:=r) (p:=p) H0.mb (H0.rv 0 J)<|AF.sub H0.below Uo
 refine ca afR J (ec J<|ec J e0) bS ?_
 rintro _ w0 ⟨rfl,bY⟩
 have H1:=H0.ext bY
 refine k<|geq J J J J<|ak (v:=.bool (decide (0≤(eM p r)))) J J<|aq<|rt<|r1 J J ?_
 exact⟨am_ Value.bool (by exact uG),H1.below⟩
set_option maxRecDepth 100000 in
set_option maxHeartbeats 1600000 in
def LO:Go.Shelf.Ren:=⟨fun|4=>146|n=>n,fun|22=>40|25=>43|3=>3|4=>4|9=>9|20=>20|0=>0|n=>n,fun|n=>n⟩
theorem LP:Go.Proofs.Lays8.n4 aI LO:={
  mixed:=aS
  f4:=⟨Tryz.f146.name,by decide,Tryz.func146.trans (am_ some aS)⟩
  t0:=Tryz.underlying0
  a0:=Tryz.isAgg0
  z0:=Tryz.sizeOf0
  v0:=Tryz.zeroValue0
  t3:=Tryz.underlying3
  a3:=Tryz.isAgg3
  z3:=Tryz.sizeOf3
  v3:=Tryz.zeroValue3
  t4:=Tryz.underlying4
  a4:=Tryz.isAgg4
  z4:=Tryz.sizeOf4
  v4:=Tryz.zeroValue4
  t9:=Tryz.underlying9
  a9:=Tryz.isAgg9
  z9:=Tryz.sizeOf9
  v9:=Tryz.zeroValue9
  t20:=Tryz.underlying20
  a20:=Tryz.isAgg20
  z20:=Tryz.sizeOf20
  v20:=Tryz.zeroValue20
  t22:=Tryz.underlying40
  a22:=Tryz.isAgg40
  z22:=Tryz.sizeOf40
  v22:=Tryz.zeroValue40}
theorem ZU {WV:OA} {Vp Wx:Nat} {KU:Int} (hM:eO M w) (alS:aJ KU) (B3:WV=none∧Vp=0∧Wx=0) (ama:0≤KU∧KU≤1048576):Calls aI 146 #[.slice WV Vp Wx,I KU] w (cp fun v w'=>∃(a0:OA) (c0:Nat),v=.slice a0 ([]:List (Bool×bf×Int)).length c0∧Ext w w'∧bm M 43 w ([]:List (Bool×bf×Int)) (.slice a0 ([]:List (Bool×bf×Int)).length c0) w'):=by
  obtain⟨rfl,rfl,rfl⟩:=B3
  obtain⟨m,rfl⟩:∃m:Nat,KU=((m:Nat):Int):=⟨KU.toNat,by omega⟩
  by_cases h0:m=0
  · subst h0
    refine(Go.Proofs.Any8.slices_Grow_room LP none 0 0 0 w aj aj aj aj).mono ?_
    rintro e w' ⟨rfl,rfl⟩
    unfold cp
    exact⟨_,J,none,0,J,Ext.refl _,fR (Ext.refl _)⟩
  · have ug:(aI.info? 43).map (fun i=>(i.size,i.bytes,i.zero))=some (3,32,some (.agg #[.bool false,.string ⟨#[]⟩,.int .i64 0])):=aS
    obtain⟨i0,Ji,sW⟩:=anC.1 ug
    simp only[anS] at sW
    obtain⟨e1,e2,e3⟩:=sW
    refine(Go.Proofs.Any8.slices_Grow_grow LP i0 (.agg #[.bool false,.string ⟨#[]⟩,.int .i64 0]) Ji e3 aj none 0 0 m [] w aj aj (by rw[e2];omega) aj bl (fun _=>rfl)<|fun a h=>by cases h).mono ?_
    rintro e w' ⟨rfl,rfl⟩
    unfold cp
    exact⟨_,J,_,_,J,(Ext.drew w).trans (Ext.alloc _ _),Te (z:=.agg #[.bool false,.string ⟨#[]⟩,.int .i64 0]) rfl aj⟩
theorem TQ (hM:eO M w) (mQ:cD M w gO gM h) (nV:h.flatten.length≤1048576):Calls aI 112 #[sL gO h gM] w (cp fun v w'=>∃(a0:OA) (c0:Nat),v=.slice a0 h.flatten.length c0∧Ext w w'∧bm M 43 w h.flatten (.slice a0 h.flatten.length c0) w'):=by
 refine dG 36 Tryz.func112 J J J hM fun f0 ha H=>?_
 have H0:=eG H mQ
 have HV:=bj mQ
 have i0:f0 0=sL gO h gM:=ha 0 bl
 refine az<|ak (v:=.slice none 0 0) J J<|bz<|ak (v:=I 0) J J<|aq<|sq<|az<|ai J i0<|k<|dD J J kZ<|ai (v:=I 0) J J<|aq<|bk<|lp (fun m f w'=>∃(j_:Nat),m=h.length-j_∧f 0=sL gO h gM∧f 3=I ((((h.take j_).flatten).length:Nat):Int)∧f 9=sL gO h gM∧f 10=I (h.length:Int)∧f 11=I (j_:Int)∧HI M w w' [iL gO h gM]∧(j_≤h.length)) _ ⟨0,J,i0,(bG J),J,J,(bG J),H0,aj⟩ ?_
 rintro _ f0 w0 ⟨j_,rfl,s0,s1,s2,s3,s4,H1,pA⟩
 refine az<|k<|lss J J s4 s3<|aq<|sq<|cd (b:=decide ((j_:Int)<(h.length:Int))) J J (fun b0=>?_)<|fun b0=>?_
 ·
  have p0:=dT b0
  refine sk<|nx<|sq<|bk<|az<|k<|ia (H1.rv 0 J) J J s2 s4 aj kZ lQ ?_
  intro iE x0 aM cz
  refine k<|wm cz.w lQ J J ?_
  intro a0 c0 cw
  have Aq:=bj cw
  have H2:=eG H1 cw
  refine ak (v:=sL a0 x0 c0) J J<|bz<|ai J s1<|ai (v:=sL a0 x0 c0) J J<|k<|dD J J lP<|k<|add J J J J (by have h_:=uN aM;unfold aJ at *;omega)<|ak (v:=I (((((h.take j_).flatten).length:Nat):Int)+(x0.length:Int))) J J<|bz<|ai (v:=I (((((h.take j_).flatten).length:Nat):Int)+(x0.length:Int))) J J<|k<|lss J J J J<|z<|nx ?_
  have BZ:(decide ((((((h.take j_).flatten).length:Nat):Int)+(x0.length:Int))<0))=false:=(by rw[anr];omega)
  refine pB J J BZ<|sk<|aG<|nx<|rg<|k<|add J J s4 J (by have h_:=uN aM;unfold aJ at *;omega)<|ai (v:=I ((j_:Int)+1)) J J<|z ?_
  have H3:HI M w w0 [iL gO h gM]:=H2.bX [1] au J
  refine bF _ ?_ ⟨(j_+1),J,s0,(ieq J<|by rw[vz aM,fF];omega),s2,s3,(bG J),H3,aj⟩
  omega
 have p0:=dF b0
 refine ex<|aV<|bc<|bg<|cO<|ai J s1<|k ?_
 have bS:=ZU (KU:=((((h.take j_).flatten).length:Nat):Int)) (WV:=none) (Vp:=0) (Wx:=0) H1.mb (by have h_:=To h j_;unfold aJ at *;omega) (by exact⟨J,J,J⟩)<|by rw[mg aj] at *;omega
 refine ca afA J (ec J<|ec J e0) bS ?_
 rintro _ w1 ⟨a0,c0,rfl,bY,cw⟩
 have H2:=H1.eT cw
 refine ak (v:=sL a0 ([]:List (Bool×bf×Int)) c0) J J<|aq<|sq<|az<|ai J s0<|k<|dD J J kZ<|ai (v:=I 0) J J<|aq<|bk<|lp (fun m f w'=>∃(i_:Nat) (n5:List (Bool×bf×Int)) (a1:OA) (c1:Nat),m=h.length-i_∧f 6=sL a1 n5 c1∧f 25=sL gO h gM∧f 26=I (h.length:Int)∧f 27=I (i_:Int)∧HI M w w' [oL w 43 a1 n5 c1,iL gO h gM]∧(i_≤h.length)∧(n5=(h.take i_).flatten)) _ ⟨0,([]:List (Bool×bf×Int)),a0,c0,J,J,J,J,(bG J),H2,aj,(by rfl)⟩ ?_
 rintro _ f1 w2 ⟨i_,n5,a1,c1,rfl,s5,s6,s7,s8,H3,pA,hs⟩
 refine az<|k<|lss J J s8 s7<|aq<|sq<|cd (b:=decide ((i_:Int)<(h.length:Int))) J J (fun b1=>?_)<|fun b1=>?_
 ·
  have p1:=dT b1
  refine sk<|nx<|sq<|bk<|az<|k<|ia (H3.rv 1 J) J J s6 s8 aj kZ lQ ?_
  intro iE x0 aM cz
  refine k<|wm cz.w lQ J J ?_
  intro a2 c2 d_
  have Aq:=bj d_
  have H4:=eG H3 d_
  refine ak (v:=sL a2 x0 c2) J J<|aq<|rg<|ai J s5<|ai (v:=sL a2 x0 c2) J J<|k<|lY H4 1 J J J J J J (H4.rv 0 J).src lP fY J (by have h_:=uN aM;rw[hs];omega) J ?_
  intro a3 c3 w3 (H5:HI M w w3 [iL a2 x0 c2,oL w 43 a3 (n5++x0) c3,iL gO h gM])
  refine ak (v:=sL a3 (n5++x0) c3) J J<|z<|aG<|nx<|rg<|k<|add J J s8 J (by have h_:=uN aM;unfold aJ at *;omega)<|ai (v:=I ((i_:Int)+1)) J J<|z ?_
  have H6:HI M w w3 [oL w 43 a3 (n5++x0) c3,iL gO h gM]:=H5.bX [1,2] au J
  refine bF _ ?_ ⟨(i_+1),(n5++x0),a3,c3,J,J,s6,s7,(bG J),H6,aj,(by rw[hs,vz aM])⟩
  omega
 have p1:=dF b1
 refine ex<|aV<|bc<|bg<|cO<|ai J s5<|ak (v:=sL a1 n5 c1) J J<|aq<|rt<|r1 J J ?_
 have e0:(n5:List (Bool×bf×Int))=h.flatten:=by rw[hs,mg aj]
 have bu:=iK (fun (cg:List (Bool×bf×Int))=>(.slice a1 cg.length c1:Value)) e0
 exact⟨a1,c1,bu,H3.below,(am_ (fun (x_:List (Bool×bf×Int))=>bm _ _ _ x_ (.slice a1 x_.length c1) _) e0).mp (H3.dp 0 J)⟩
theorem SZ (hM:eO M w) (mQ:cD M w gO gM h) (nV:h.flatten.length≤1048576):Calls aI 74 #[sL gO h gM] w (cp fun v w'=>∃(a0:OA) (c0:Nat),v=.slice a0 h.flatten.length c0∧Ext w w'∧bm M 43 w h.flatten (.slice a0 h.flatten.length c0) w'):=by
 refine dG 5 Tryz.func74 J J J hM fun f0 ha H=>?_
 have H0:=eG H mQ
 have i0:f0 0=sL gO h gM:=ha 0 bl
 refine az<|ak (v:=.slice none 0 0) J J<|bz<|ai J i0<|k ?_
 have bS:=TQ (h:=h) H0.mb (H0.rv 0 J)<|by exact nV
 refine ca afS J (ec J e0) bS ?_
 rintro _ w0 ⟨a0,c0,rfl,bY,cw⟩
 have H1:=H0.eT cw
 refine ak (v:=sL a0 h.flatten c0) J J<|aq<|rt<|r1 J J ?_
 exact⟨a0,c0,J,H1.below,(H1.dp 0 J)⟩
theorem Qu (hM:eO M w) (mQ:cD M w gO gM h) (nV:h.flatten.length≤1048576):Calls aI 51 #[sL gO h gM] w (cp fun v w'=>v=.bool (jj h)∧Ext w w'):=by
 refine dG 14 Tryz.func51 J J J hM fun f0 ha H=>?_
 have H0:=eG H mQ
 have i0:f0 0=sL gO h gM:=ha 0 bl
 refine az<|ak (v:=.bool false) J J<|bz<|ai J i0<|k ?_
 have bS:=SZ (h:=h) H0.mb (H0.rv 0 J)<|by exact nV
 refine ca aiX J (ec J e0) bS ?_
 rintro _ w0 ⟨a0,c0,rfl,bY,cw⟩
 have H1:=H0.eT cw
 refine ak (v:=sL a0 h.flatten c0) J J<|bz<|ai (v:=sL a0 h.flatten c0) J J<|k<|dD J J lP<|k<|leq J J J J<|ai (v:=.bool (decide ((h.flatten.length:Int)≤4096))) J J ?_
 rcases bE (decide ((h.flatten.length:Int)≤4096)) with b0|b0
 ·
  refine bh J J J b0<|mv (v:=sL a0 h.flatten c0) J J<|bh J J J b0 ?_
  have H2:=H1.freeze 0 J
  have cU:=Hj (r:=h.flatten) (p:=(fun (x_:(Bool×bf×Int))=>(!(mC x_.2.1)))) H2.mb (H2.rv 0 J) ⟨aiV,fun w_ v_ x_ pe e_ B5=>by have H_:=H2.ext e_;obtain⟨_,⟨_,_,rfl,rfl,⟨_,_,rfl,⟨rfl,d_⟩,⟨rfl,dZ⟩⟩⟩,rfl⟩:=B5;exact NM d_ dZ⟩
  refine ca aiW J (ec J<|ec J e0) cU ?_
  rintro _ w1 ⟨rfl,cT⟩
  have H3:=H1.ext cT
  refine bh J J J b0<|jY J J<|k<|aP J J J J b0 J<|ak (v:=.bool (!(h.flatten.any<|fun (x_:(Bool×bf×Int))=>(!(mC x_.2.1))))) J J<|aq<|rt<|r1 J J ?_
  exact⟨am_ Value.bool (by rw[Ej];simp only[b0,BL]),H3.below⟩
 refine aW J J J b0<|aW J J J b0<|aW J J J b0<|k<|dA J J J J b0 J<|ak (v:=.bool false) J J<|aq<|rt<|r1 J J ?_
 exact⟨am_ Value.bool (by rw[Ej];simp only[b0,BL]),H1.below⟩
theorem ai3:cA aI 51:=cI Tryz.func51
theorem abI:Q8 aI 98:=Xv (by kernel_rfl:aI.underlying 98=some (.map 9 3)) (VB mK) aT rfl
theorem SD (hM:eO M w) (mQ:cD M w gO gM h) (nV:h.flatten.length≤1048576):Calls aI 26 #[sL gO h gM] w (cp fun v w'=>∃(a0:OA) (c0:Nat) (a1:OA) (c1:Nat) (a2:OA) (c2:Nat),v=.tuple #[.agg #[.slice a0 (mu h).length c0,.slice a1 (cS h).length c1,.slice a2 ([]:aA).length c2],I (lE h)]∧Ext w w'∧RV M w' (.slice a0 (mu h).length c0) (mu h)∧RV M w' (.slice a1 (cS h).length c1) (cS h)∧RV M w' (.slice a2 ([]:aA).length c2) ([]:aA)):=by
 refine dG 70 Tryz.func26 J J J hM fun f0 ha H=>?_
 let J0:=iL gO h gM
 have H0:=H.put (it:=J0) J<|by rw[bP];exact mQ
 have HV:=bj mQ
 have i0:f0 0=sL gO h gM:=ha 0 bl
 refine az<|k<|al H0 eh ?_
 intro aZ w0 bY (H1:HI M w w0 [box aZ #[.slice none 0 0,.slice none 0 0,.slice none 0 0] 47,J0])
 let J1:=box aZ #[.slice none 0 0,.slice none 0 0,.slice none 0 0] 47
 refine ak (v:=I 0) J J<|aq<|sq<|az<|ai J i0<|k ?_
 have bS:=Qu (h:=h) H1.mb (H1.rv 1 J)<|by exact nV
 refine ca ai3 J (ec J e0) bS ?_
 rintro _ w1 ⟨rfl,cT⟩
 have H2:=H1.ext cT
 refine k<|jY J J<|z<|nx<|cd (b:=!(jj h)) J J (fun b0=>?_)<|fun b0=>?_
 ·
  refine sq ?_
  have hq:jj h=false:=by simpa using b0
  refine rg<|k<|bd (v:=.agg #[.slice none 0 0,.slice none 0 0,.slice none 0 0]) J ew (fun _=>aS)<|k<|bw H2 0 J eh J J J J J J J ?_
  intro w2 (H3:HI M w w2 [J1,J0])
  refine ak (v:=I 1) J J<|aq<|rt<|aK<|iH H3 0 J eh J J J J J au ?_
  have e0:([]:List bf)=mu h:=by exact(xG hq).1.symm
  have e1:([]:List aO)=cS h:=by exact(xG hq).2.1.symm
  have e3:(1:Int)=lE h:=by exact(xG hq).2.2.symm
  have bu:=rk (fun (cg:List bf) (dY:List aO) (na:Int)=>(.tuple #[.agg #[.slice none cg.length 0,.slice none dY.length 0,.slice none ([]:aA).length 0],I na]:Value)) e0 e1 e3
  exact⟨none,0,none,0,none,0,bu,H3.below,(am_ (fun (x_:List bf)=>RV _ _ (.slice none x_.length 0) x_) e0).mp (eF _ _),(am_ (fun (x_:List aO)=>RV _ _ (.slice none x_.length 0) x_) e1).mp (eF _ _),(eF _ _)⟩
 refine sk<|nx<|sq ?_
 have hq:jj h=true:=by simpa using b0
 refine rg<|k<|al H2 eh ?_
 let ba:=[J1,J0]
 intro aY w2 fk (H3:HI M w w2 (box aY #[.slice none 0 0,.slice none 0 0,.slice none 0 0] 47::ba))
 refine bz<|k<|mmS H3 ?_
 intro dQ w3 fN (H4:HI M w w3 [tF dQ ([]:List (bf×Int)),box aY #[.slice none 0 0,.slice none 0 0,.slice none 0 0] 47,J1,J0])
 refine ak (v:=.map (some dQ)) J J<|aq<|sq<|az<|ai J i0<|k<|dD J J kZ<|ai (v:=I 0) J J<|aq<|bk ?_
 have H5:=H4.ql bf 9
 have H6:=H5.ql aO 95
 refine lp (fun m f w'=>∃(i:Nat) (vs:List bf) (aF:List aO) (j1:List (bf×Int)) (a0:OA) (c0:Nat) (a1:OA) (c1:Nat),m=h.length-i∧f 2=pV aZ 0∧f 4=pV aY 0∧f 5=.map (some dQ)∧f 17=sL gO h gM∧f 18=I (h.length:Int)∧f 19=I (i:Int)∧HI M w w' [oL w 95 a1 aF c1,oL w 9 a0 vs c0,tF dQ j1,box aY #[sL a0 vs c0,sL a1 aF c1,.slice none 0 0] 47,J1,J0]∧(i≤h.length)∧(vs=(iF h i).1)∧(aF=(iF h i).2)∧(BW vs j1)) _ ⟨0,([]:List bf),([]:List aO),([]:List (bf×Int)),none,0,none,0,J,J,J,J,J,J,(bG J),H6,aj,(by rfl),(by rfl),(by exact Vt)⟩ ?_
 rintro _ f0 w4 ⟨i,vs,aF,j1,a0,c0,a1,c1,rfl,s0,s1,s2,s3,s4,s5,H7,XX,h1,h2,hm⟩
 refine az<|k<|lss J J s5 s4<|aq<|sq<|cd (b:=decide ((i:Int)<(h.length:Int))) J J (fun b1=>?_)<|fun b1=>?_
 ·
  have p1:=dT b1
  refine sk<|nx<|sq<|bk<|az<|ai J s5<|k<|ia (H7.rv 5 J) J J s3 s5 aj kZ lQ ?_
  intro iE x0 aM cz
  refine k<|wm cz.w lQ J J ?_
  intro a2 c2 cw
  have Aq:=bj cw
  let J2:=iL a2 x0 c2
  have H8:=H7.put (it:=J2) J cw
  refine ak (v:=I (i:Int)) J J<|ak (v:=sL a2 x0 c2) J J<|bz<|ai (v:=sL a2 x0 c2) J J<|k<|dD J J lP<|ai (v:=I 0) J J<|aq<|bk<|lp (fun m f w'=>∃(q:Nat) (lO:List bf) (qm:List aO) (kO:List (bf×Int)) (a3:OA) (c3:Nat) (a4:OA) (c4:Nat),m=(h.getD i []).length-q∧f 2=pV aZ 0∧f 4=pV aY 0∧f 5=.map (some dQ)∧f 6=I (i:Int)∧f 17=sL gO h gM∧f 18=I (h.length:Int)∧f 19=I (i:Int)∧f 24=sL a2 x0 c2∧f 25=I (x0.length:Int)∧f 26=I (q:Int)∧HI M w w' [J2,oL w 95 a4 qm c4,oL w 9 a3 lO c3,tF dQ kO,box aY #[sL a3 lO c3,sL a4 qm c4,.slice none 0 0] 47,J1,J0]∧(q≤(h.getD i []).length)∧(lO=(jL i (iF h i) (h.getD i []) q).1)∧(qm=(jL i (iF h i) (h.getD i []) q).2)∧(BW lO kO)) _ ⟨0,vs,aF,j1,a0,c0,a1,c1,J,s0,s1,s2,J,s3,s4,s5,J,J,(bG J),H8,aj,(by exact h1),(by exact h2),(by exact hm)⟩ ?_
  rintro _ f1 w5 ⟨q,lO,qm,kO,a3,c3,a4,c4,rfl,s6,s7,s8,s9,eu,fb,fu,fl,gi,gS,H9,hk,h1,h2,hm⟩
  refine az<|k<|lss J J gS gi<|aq<|sq<|cd (b:=decide ((q:Int)<(x0.length:Int))) J J (fun b2=>?_)<|fun b2=>?_
  ·
   have p2:=dT b2
   refine sk<|nx<|sq<|bk<|az<|ai J gS<|k<|ia (H9.rv 0 J) J J fl gS aj lP fY ?_
   intro rK x1 cQ gL
   refine k<|nF gL.w fY J J ?_
   intro v0 d_
   obtain⟨_,⟨_,_,rfl,rfl,⟨_,_,rfl,⟨rfl,dZ⟩,⟨rfl,fy⟩⟩⟩,rfl⟩:=d_
   refine k<|al H9 fY ?_
   let J3:=oL w 95 a4 qm c4
   let J4:=oL w 9 a3 lO c3
   let J5:=box aY #[sL a3 lO c3,sL a4 qm c4,.slice none 0 0] 47
   let bV:=J4::tF dQ kO::J5::ba
   intro bJ w6 iP (dO:HI M w w6 (box bJ #[.bool false,.string ⟨#[]⟩,I 0] 43::J2::J3::bV))
   refine ak (v:=I (q:Int)) J J<|k<|bw dO 0 J fY J J J J J J J ?_
   let J6:=box bJ #[.bool x1.1,.string x1.2.1,I x1.2.2] 43
   intro w7 (cV:HI M w w7 (J6::J2::J3::bV))
   refine bz<|ai J s8<|aQ lW J J<|bq cV 0 J nD J J J<|k<|ahT (k:=x1.2.1) abI cV 4 J J J J J ?_
   intro iT
   refine ai (v:=.tuple #[I ((fO kO x1.2.1).getD 0),.bool ((fO kO x1.2.1).isSome)]) J J<|k<|xt J J J<|k<|xt J J J<|ak (v:=I ((fO kO x1.2.1).getD 0)) J J<|ak (v:=.bool ((fO kO x1.2.1).isSome)) J J<|aq<|sq<|az<|ai (v:=.bool ((fO kO x1.2.1).isSome)) J J<|k<|jY J J<|z<|nx<|cd (b:=!((fO kO x1.2.1).isSome)) J J (fun b3=>?_)<|fun b3=>?_
   ·
    refine az<|aQ vB J s7<|bq cV 5 J Cn J J J<|k<|dD J J HG<|ak (v:=I (lO.length:Int)) J J<|bz<|ai J s8<|aQ lW J J<|bq cV 0 J nD J J J<|ai (v:=I (lO.length:Int)) J J<|k<|ahR (k:=x1.2.1) (v:=(lO.length:Int)) abI cV 4 J J J J J J J (by have h3:=qf (k:=q) aM aj;rw[←fB aM,←h1,←h2] at h3;unfold aJ;omega) ?_
    let dz:=tF dQ (lS kO x1.2.1 (lO.length:Int))::J5::ba
    intro w8 (du:HI M w w8 (J6::J2::J3::J4::dz))
    refine aq<|rg<|aQ vB J s7<|bq du 5 J Cn J J J<|aQ lW J J<|bq du 0 J nD J J J<|k<|bs (xs:=([x1.2.1]:List bf)) (cells:=#[.string x1.2.1]) (e:=9) du J (cm J ew) (fun _=>aS) ⟨[.string x1.2.1],[],J,⟨J,bo⟩,J⟩ J au ?_
    intro g0 w9 jc dJ
    refine k<|lY dJ 4 J J J J J J (gY<|dJ.at_ 0 J) HG nD J (by have h_:=qf (k:=q) aM aj;rw[←fB aM,←h1,←h2] at h_;simp only[iI,gj];omega) J ?_
    let J7:=own w.heap.size 9 (.slice (some ⟨g0,0,none⟩) 1 1) ([x1.2.1]:List bf)
    intro a5 c5 dM (cM:HI M w dM (J7::J6::J2::J3::oL w 9 a5 (lO++([x1.2.1]:List bf)) c5::dz))
    let J8:=oL w 9 a5 (lO++([x1.2.1]:List bf)) c5
    refine aQ vB J s7<|k<|bw cM 6 J Cn J J J J J J J ?_
    let J9:=box aY #[sL a5 (lO++([x1.2.1]:List bf)) c5,sL a4 qm c4,.slice none 0 0] 47
    let iW:=J8::tF dQ (lS kO x1.2.1 (lO.length:Int))::J9::ba
    intro ee (dU:HI M w ee (J7::J6::J2::J3::iW))
    refine aq<|rg<|aQ fG J s7<|bq dU 6 J jh J J J<|ai J s9<|ai (v:=I (q:Int)) J J<|aQ pg J J<|bq dU 1 J oP J J J<|ai (v:=I (lO.length:Int)) J J<|aQ oo J J<|bq dU 1 J aT J J J<|k<|bd (v:=.agg #[I (i:Int),I (q:Int),.bool x1.1,I (lO.length:Int),I x1.2.2]) J (cm J<|cm J<|cm J<|cm J<|cm J ew) (fun _=>aS)<|k<|bs (xs:=([((i:Int),(q:Int),x1.1,(lO.length:Int),x1.2.2)]:List aO)) (cells:=#[I (i:Int),I (q:Int),.bool x1.1,I (lO.length:Int),I x1.2.2]) (e:=95) dU J (cm J ew) (fun _=>aS) ⟨[I (i:Int),I (q:Int),.bool x1.1,I (lO.length:Int),I x1.2.2],[],J,⟨_,_,J,⟨J,(show aJ ((i:Int)) from aR)⟩,⟨_,_,J,⟨J,(show aJ ((q:Int)) from aR)⟩,⟨_,_,J,J,⟨_,_,J,⟨J,(show aJ ((lO.length:Int)) from(by have h3:=qf (k:=q) aM aj;rw[←fB aM,←h1,←h2] at h3;unfold aJ;omega))⟩,⟨J,(show aJ (x1.2.2) from bo)⟩⟩⟩⟩⟩,J⟩ J au ?_
    intro g1 ft jK dt
    refine k<|lY dt 4 J J J J J J (gY<|dt.at_ 0 J) jA jE J (by have h_:=qf (k:=q) aM aj;rw[←fB aM,←h1,←h2] at h_;simp only[iI,gj];omega) J ?_
    let dR:=own w.heap.size 95 (.slice (some ⟨g1,0,none⟩) 1 1) ([((i:Int),(q:Int),x1.1,(lO.length:Int),x1.2.2)]:List aO)
    intro a6 c6 ij (cR:HI M w ij (dR::J7::J6::J2::oL w 95 a6 (qm++([((i:Int),(q:Int),x1.1,(lO.length:Int),x1.2.2)]:List aO)) c6::iW))
    let eE:=oL w 95 a6 (qm++([((i:Int),(q:Int),x1.1,(lO.length:Int),x1.2.2)]:List aO)) c6
    refine aQ fG J s7<|k<|bw cR 7 J jh J J J J J J J ?_
    let fM:=box aY #[sL a5 (lO++([x1.2.1]:List bf)) c5,sL a6 (qm++([((i:Int),(q:Int),x1.1,(lO.length:Int),x1.2.2)]:List aO)) c6,.slice none 0 0] 47
    let fm:=J2::eE::J8::tF dQ (lS kO x1.2.1 (lO.length:Int))::fM::ba
    intro jv (dI:HI M w jv (dR::J7::J6::fm))
    refine z<|aG<|nx<|rg<|k<|add J J gS J aR<|ai (v:=I ((q:Int)+1)) J J<|z ?_
    have dw:HI M w jv fm:=dI.bX [3,4,5,6,7,8,9] au J
    refine bF _ ?_ ⟨(q+1),(lO++([x1.2.1]:List bf)),(qm++([((i:Int),(q:Int),x1.1,(lO.length:Int),x1.2.2)]:List aO)),(lS kO x1.2.1 (lO.length:Int)),a5,c5,a6,c6,J,s6,s7,s8,s9,eu,fb,fu,fl,gi,(bG J),dw,(by rw[fB aM] at *;omega),(by exact(OO h1 h2 hm aM cQ<|gl b3).1),(by exact(OO h1 h2 hm aM cQ<|gl b3).2),(by exact Vs hm (gl b3))⟩
    rw[fB aM] at *;omega
   refine sk<|nx<|rg<|aQ fG J s7<|bq cV 5 J jh J J J<|ai J s9<|ai (v:=I (q:Int)) J J<|aQ pg J J<|bq cV 0 J oP J J J<|ai (v:=I ((fO kO x1.2.1).getD 0)) J J<|aQ oo J J<|bq cV 0 J aT J J J<|k<|bd (v:=.agg #[I (i:Int),I (q:Int),.bool x1.1,I ((fO kO x1.2.1).getD 0),I x1.2.2]) J (cm J<|cm J<|cm J<|cm J<|cm J ew) (fun _=>aS)<|k<|bs (xs:=([((i:Int),(q:Int),x1.1,(fO kO x1.2.1).getD 0,x1.2.2)]:List aO)) (cells:=#[I (i:Int),I (q:Int),.bool x1.1,I ((fO kO x1.2.1).getD 0),I x1.2.2]) (e:=95) cV J (cm J ew) (fun _=>aS) ⟨[I (i:Int),I (q:Int),.bool x1.1,I ((fO kO x1.2.1).getD 0),I x1.2.2],[],J,⟨_,_,J,⟨J,(show aJ ((i:Int)) from aR)⟩,⟨_,_,J,⟨J,(show aJ ((q:Int)) from aR)⟩,⟨_,_,J,J,⟨_,_,J,⟨J,(show aJ ((fO kO x1.2.1).getD 0) from bo)⟩,⟨J,(show aJ (x1.2.2) from bo)⟩⟩⟩⟩⟩,J⟩ J au ?_
   intro g0 w8 jc du
   refine k<|lY du 3 J J J J J J (gY<|du.at_ 0 J) jA jE J (by have h_:=qf (k:=q) aM aj;rw[←fB aM,←h1,←h2] at h_;simp only[iI,gj];omega) J ?_
   let fI:=own w.heap.size 95 (.slice (some ⟨g0,0,none⟩) 1 1) ([((i:Int),(q:Int),x1.1,(fO kO x1.2.1).getD 0,x1.2.2)]:List aO)
   intro a5 c5 w9 (dJ:HI M w w9 (fI::J6::J2::oL w 95 a5 (qm++([((i:Int),(q:Int),x1.1,(fO kO x1.2.1).getD 0,x1.2.2)]:List aO)) c5::bV))
   let gU:=oL w 95 a5 (qm++([((i:Int),(q:Int),x1.1,(fO kO x1.2.1).getD 0,x1.2.2)]:List aO)) c5
   refine aQ fG J s7<|k<|bw dJ 6 J jh J J J J J J J ?_
   let ma:=box aY #[sL a3 lO c3,sL a5 (qm++([((i:Int),(q:Int),x1.1,(fO kO x1.2.1).getD 0,x1.2.2)]:List aO)) c5,.slice none 0 0] 47
   let kx:=J2::gU::J4::tF dQ kO::ma::ba
   intro dM (cM:HI M w dM (fI::J6::kx))
   refine z<|aG<|nx<|rg<|k<|add J J gS J aR<|ai (v:=I ((q:Int)+1)) J J<|z ?_
   have dU:HI M w dM kx:=cM.bX [2,3,4,5,6,7,8] au J
   refine bF _ ?_ ⟨(q+1),lO,(qm++([((i:Int),(q:Int),x1.1,(fO kO x1.2.1).getD 0,x1.2.2)]:List aO)),kO,a3,c3,a5,c5,J,s6,s7,s8,s9,eu,fb,fu,fl,gi,(bG J),dU,(by rw[fB aM] at *;omega),(by exact(ON h1 h2 hm aM cQ<|fA b3).1),(by exact(ON h1 h2 hm aM cQ<|fA b3).2),(by exact hm)⟩
   rw[fB aM] at *;omega
  have p2:=dF b2
  refine ex<|aV<|bc<|bg<|aG<|nx<|rg<|k<|add J J fu J aR<|ai (v:=I ((i:Int)+1)) J J<|z ?_
  have dO:HI M w w5 [oL w 95 a4 qm c4,oL w 9 a3 lO c3,tF dQ kO,box aY #[sL a3 lO c3,sL a4 qm c4,.slice none 0 0] 47,J1,J0]:=H9.bX [1,2,3,4,5,6] au J
  refine bF _ ?_ ⟨(i+1),lO,qm,kO,a3,c3,a4,c4,J,s6,s7,s8,eu,fb,(bG J),dO,aj,(by rw[h1,BR aj (by rw[fB aM];omega)]),(by rw[h2,BR aj (by rw[fB aM];omega)]),(by exact hm)⟩
  omega
 have p1:=dF b1
 refine ex<|aV<|bc<|bg<|cO<|k<|cB H7 3 J eh J s1 au J<|k<|bw H7 4 J eh J J s0 J J J J ?_
 intro w5 (H8:HI M w w5 [oL w 95 a1 aF c1,oL w 9 a0 vs c0,tF dQ j1,box aY #[sL a0 vs c0,sL a1 aF c1,.slice none 0 0] 47,box aZ #[sL a0 vs c0,sL a1 aF c1,.slice none 0 0] 47,J0])
 refine ak (v:=I 0) J J<|aq<|rt<|iH H8 4 J eh J J J s0 J au ?_
 have e0:(vs:List bf)=mu h:=by rw[(tD hq).1,h1];unfold y_;rw[show i=h.length from by omega]
 have e1:(aF:List aO)=cS h:=by rw[(tD hq).2.1,h2];unfold jy;rw[show i=h.length from by omega]
 have e3:(0:Int)=lE h:=by exact(tD hq).2.2.symm
 have bu:=rk (fun (cg:List bf) (dY:List aO) (na:Int)=>(.tuple #[.agg #[.slice a0 cg.length c0,.slice a1 dY.length c1,.slice none ([]:aA).length 0],I na]:Value)) e0 e1 e3
 exact⟨a0,c0,a1,c1,none,0,bu,H8.below,(am_ (fun (x_:List bf)=>RV _ _ (.slice a0 x_.length c0) x_) e0).mp (H8.mB 1 J),(am_ (fun (x_:List aO)=>RV _ _ (.slice a1 x_.length c1) x_) e1).mp (H8.mB 0 J),(eF _ _)⟩
theorem k0:ef aI 35 19 true 216 (.agg #[.int .i64 0,.int .i64 0,.int .i64 0,.int .i64 0,.int .i64 0,.bool false,.int .i64 0,.int .i64 0,.slice none 0 0,.slice none 0 0,.slice none 0 0,.int .i64 0,.int .i64 0,.int .i64 0,.int .i64 0,.int .i64 0,.slice none 0 0,.int .i64 0,.int .i64 0]):=⟨aS,aS⟩
theorem ajh:cA aI 26:=cI Tryz.func26
theorem adr:cA aI 21:=cI Tryz.func21
theorem ajg:cA aI 27:=cI Tryz.func27
theorem ajf:cA aI 28:=cI Tryz.func28
theorem aje:cA aI 29:=cI Tryz.func29
theorem ajd:cA aI 30:=cI Tryz.func30
theorem si (hM:eO M w) (hT:fU 0 w) (mQ:cD M w gO gM h) (pH:aJ lv) (nV:h.flatten.length≤1048576) (alH:h.flatten.length≤64):Calls aI 15 #[sL gO h gM,I lv] w (cp fun v w'=>∃(lc_:Int) (nc_:Int) (RT:List (List bt)) (Ul:aA) (RU:List aA) (jd:List cN) (fw_:Int) (nw_:Int) (a0:OA) (c0:Nat) (a1:OA) (c1:Nat) (a2:OA) (c2:Nat) (a3:OA) (c3:Nat),v=.agg #[I (pz h lv),I 0,I ((mP h lv).1),I ((mP h lv).2),I (tI h lv),.bool (qz h lv),I lc_,I nc_,sL a0 RT c0,sL a1 Ul c1,sL a2 RU c2,I ((gX h lv).1),I ((gX h lv).2.1),I ((gX h lv).2.2.1),I ((gX h lv).2.2.2.1),I ((gX h lv).2.2.2.2),sL a3 jd c3,I fw_,I nw_]∧Ext w w'∧cD M w' a0 c0 RT∧cD M w' a1 c1 Ul∧cD M w' a2 c2 RU∧cD M w' a3 c3 jd):=by
 refine dG 64 Tryz.func15 J J J hM fun f0 ha H=>?_
 let J0:=iL gO h gM
 have H0:=H.put (it:=J0) J<|by rw[bP];exact mQ
 have i0:f0 0=sL gO h gM:=ha 0 bl
 have i1:f0 1=I lv:=ha 1 bl
 have amh:=OB h
 refine az<|k<|al H0 k0 ?_
 intro aZ w0 bY (H1:HI M w w0 [box aZ #[I 0,I 0,I 0,I 0,I 0,.bool false,I 0,I 0,.slice none 0 0,.slice none 0 0,.slice none 0 0,I 0,I 0,I 0,I 0,I 0,.slice none 0 0,I 0,I 0] 35,J0])
 let J1:=box aZ #[I 0,I 0,I 0,I 0,I 0,.bool false,I 0,I 0,.slice none 0 0,.slice none 0 0,.slice none 0 0,I 0,I 0,I 0,I 0,I 0,.slice none 0 0,I 0,I 0] 35
 refine bz<|ai J i0<|k ?_
 have bS:=SD (h:=h) H1.mb (H1.rv 1 J)<|by exact nV
 refine ca ajh J (ec J e0) bS ?_
 rintro _ w1 ⟨a0,c0,a1,c1,a2,c2,rfl,cT,cw,d_,dZ⟩
 have H2:=H1.ext cT
 let J2:=iL a0 (mu h) c0
 have H3:=H2.put (it:=J2) J cw
 let J3:=iL a1 (cS h) c1
 have H4:=H3.put (it:=J3) J<|by rw[aD J];exact d_
 let J4:=iL a2 ([]:aA) c2
 have H5:=H4.put (it:=J4) J<|by rw[aD rfl,aD rfl];exact dZ
 refine ai (v:=.tuple #[.agg #[sL a0 (mu h) c0,sL a1 (cS h) c1,sL a2 ([]:aA) c2],I (lE h)]) J J<|k<|xt J J J<|k<|xt J J J<|k<|al H5 eh ?_
 let ba:=[J4,J3,J2,J1,J0]
 intro aY w2 fk (H6:HI M w w2 (box aY #[.slice none 0 0,.slice none 0 0,.slice none 0 0] 47::ba))
 refine k<|bw H6 0 J eh J J J J J J J ?_
 let J5:=box aY #[sL a0 (mu h) c0,sL a1 (cS h) c1,sL a2 ([]:aA) c2] 47
 intro w3 (H7:HI M w w3 (J5::ba))
 refine ak (v:=I (lE h)) J J<|aq<|sq<|sq ?_
 have aml:decide (0<(((dV lv).length:Nat):Int))=sS lv:=rfl
 refine rg<|ai (v:=I (lE h)) J J<|k<|neq J J J J<|ai (v:=.bool (!decide ((lE h)=0))) J J ?_
 rcases bE (!decide ((lE h)=0)) with b0|b0
 ·
  have p0:=dF<|gl b0
  refine aW J J J b0<|aW J J J b0<|aW J J J b0<|k<|aP J J J J b0 J<|aq<|ot J J J<|sq ?_
  obtain⟨qZ,nU⟩:=SJ (h:=h) (lv:=lv) (by exact .inl (gl ‹(!decide (lE h=0))=true›))
  obtain⟨tM,rU,gQ⟩:=Ql qZ au
  refine rg<|k<|bd (v:=.agg #[I 1,I 0,I 0,I 0,I 0,.bool false,I 0,I 0,.slice none 0 0,.slice none 0 0,.slice none 0 0,I 0,I 0,I 0,I 0,I 0,.slice none 0 0,I 0,I 0]) J (cm J ew) (fun _=>aS)<|k<|bw H7 4 J k0 J J J J J J J ?_
  intro w4 (H8:HI M w w4 [J5,J4,J3,J2,box aZ #[I 1,I 0,I 0,I 0,I 0,.bool false,I 0,I 0,.slice none 0 0,.slice none 0 0,.slice none 0 0,I 0,I 0,I 0,I 0,I 0,.slice none 0 0,I 0,I 0] 35,J0])
  refine aq<|rt<|aK<|py H8 4 J k0 J J J J au ?_
  have e0:(1:Int)=pz h lv:=by rw[qZ]
  have e2:(0:Int)=(mP h lv).1:=by rw[nU]
  have e3:(0:Int)=(mP h lv).2:=by rw[nU]
  have e4:(0:Int)=tI h lv:=by rw[tM]
  have e5:(false:Bool)=qz h lv:=by exact rU.symm
  have sc:(0:Int)=(gX h lv).1:=by rw[gQ]
  have ta:(0:Int)=(gX h lv).2.1:=by rw[gQ]
  have r9:(0:Int)=(gX h lv).2.2.1:=by rw[gQ]
  have tT:(0:Int)=(gX h lv).2.2.2.1:=by rw[gQ]
  have tS:(0:Int)=(gX h lv).2.2.2.2:=by rw[gQ]
  have bu:=MG (fun (cg:Int) (gV:Int) (na:Int) (xe:Int) (xc:Bool) (su:Int) (sr:Int) (so:Int) (sm:Int) (sl:Int)=>(.agg #[I cg,I 0,I gV,I na,I xe,.bool xc,I 0,I 0,.slice none ([]:List (List bt)).length 0,.slice none ([]:aA).length 0,.slice none ([]:List aA).length 0,I su,I sr,I so,I sm,I sl,.slice none ([]:List cN).length 0,I 0,I 0]:Value)) e0 e2 e3 e4 e5 sc ta r9 tT tS
  exact⟨0,0,([]:List (List bt)),([]:aA),([]:List aA),([]:List cN),0,0,none,0,none,0,none,0,none,0,bu,H8.below,(eF _ _),(eF _ _),(eF _ _),(eF _ _)⟩
 have p0:=dT<|fA b0
 refine bh J J J b0<|mv J i1<|bh J J J b0 ?_
 have cU:=EP (lv:=lv) (w:=w3) pH
 refine ca adr J (ec J e0) cU ?_
 rintro _ w4 ⟨rfl,fN⟩
 have H8:=H7.ext fN
 refine bh J J J b0<|jY J J<|k<|dA J J J J b0 J<|z<|nx<|cd (b:=!(decide (0<(((dV lv).length:Nat):Int)))) J J (fun b1=>?_)<|fun b1=>?_
 ·
  have p1:=dF<|gl b1
  refine sq ?_
  obtain⟨qZ,nU⟩:=SJ (h:=h) (lv:=lv) (by exact .inr (gl ‹(!decide (0<(((dV lv).length:Nat):Int)))=true›))
  obtain⟨tM,rU,gQ⟩:=Ql qZ au
  refine rg<|k<|bd (v:=.agg #[I 1,I 0,I 0,I 0,I 0,.bool false,I 0,I 0,.slice none 0 0,.slice none 0 0,.slice none 0 0,I 0,I 0,I 0,I 0,I 0,.slice none 0 0,I 0,I 0]) J (cm J ew) (fun _=>aS)<|k<|bw H8 4 J k0 J J J J J J J ?_
  intro w5 (H9:HI M w w5 [J5,J4,J3,J2,box aZ #[I 1,I 0,I 0,I 0,I 0,.bool false,I 0,I 0,.slice none 0 0,.slice none 0 0,.slice none 0 0,I 0,I 0,I 0,I 0,I 0,.slice none 0 0,I 0,I 0] 35,J0])
  refine aq<|rt<|aK<|py H9 4 J k0 J J J J au ?_
  have e0:(1:Int)=pz h lv:=by rw[qZ]
  have e2:(0:Int)=(mP h lv).1:=by rw[nU]
  have e3:(0:Int)=(mP h lv).2:=by rw[nU]
  have e4:(0:Int)=tI h lv:=by rw[tM]
  have e5:(false:Bool)=qz h lv:=by exact rU.symm
  have sc:(0:Int)=(gX h lv).1:=by rw[gQ]
  have ta:(0:Int)=(gX h lv).2.1:=by rw[gQ]
  have r9:(0:Int)=(gX h lv).2.2.1:=by rw[gQ]
  have tT:(0:Int)=(gX h lv).2.2.2.1:=by rw[gQ]
  have tS:(0:Int)=(gX h lv).2.2.2.2:=by rw[gQ]
  have bu:=MG (fun (cg:Int) (gV:Int) (na:Int) (xe:Int) (xc:Bool) (su:Int) (sr:Int) (so:Int) (sm:Int) (sl:Int)=>(.agg #[I cg,I 0,I gV,I na,I xe,.bool xc,I 0,I 0,.slice none ([]:List (List bt)).length 0,.slice none ([]:aA).length 0,.slice none ([]:List aA).length 0,I su,I sr,I so,I sm,I sl,.slice none ([]:List cN).length 0,I 0,I 0]:Value)) e0 e2 e3 e4 e5 sc ta r9 tT tS
  exact⟨0,0,([]:List (List bt)),([]:aA),([]:List aA),([]:List cN),0,0,none,0,none,0,none,0,none,0,bu,H9.below,(eF _ _),(eF _ _),(eF _ _),(eF _ _)⟩
 have p1:=dT<|fA b1
 refine sk<|nx<|sq<|az<|k<|cB H8 0 J eh J J au J<|k ?_
 have fP:=MC (U:=(cS h)) (aC:=a0) (aE:=(mu h).length) (aB:=c0) (ay:=a2) (fe:=([]:aA).length) (ax:=c2) H8.mb<|H8.rv 2 J
 refine ca ajg J (ec J e0) fP ?_
 rintro _ w5 ⟨rfl,iP⟩
 have H9:=H8.ext iP
 refine ai (v:=.tuple #[I ((dv<|cS h).1),I ((dv<|cS h).2.1),I ((dv<|cS h).2.2)]) J J<|k<|xt J J J<|k<|xt J J J<|k<|xt J J J<|ak (v:=I ((dv<|cS h).1)) J J<|ak (v:=I ((dv<|cS h).2.1)) J J<|ak (v:=I ((dv<|cS h).2.2)) J J<|bz<|ai (v:=I ((dv<|cS h).2.2)) J J<|k<|neq J J J J<|z<|nx<|cd (b:=!decide (((dv<|cS h).2.2)=0)) J J (fun b2=>?_)<|fun b2=>?_
 ·
  have p2:=dF<|gl b2
  refine sq ?_
  have VM:lE h=0:=dT<|fA ‹(!decide (lE h=0))=false›
  have L9:sS lv=true:=fA ‹(!decide (0<(((dV lv).length:Nat):Int)))=false›
  obtain⟨qZ,nU⟩:=acf VM L9
  obtain⟨tM,rU,gQ⟩:=Ql qZ (dF (gl ‹(!decide ((dv (cS h)).2.2=0))=true›))
  refine rg<|ai (v:=I ((dv<|cS h).2.2)) J J<|ai (v:=I ((dv<|cS h).1)) J J<|ai (v:=I ((dv<|cS h).2.1)) J J<|k<|bd (v:=.agg #[I ((dv<|cS h).2.2),I 0,I ((dv<|cS h).1),I ((dv<|cS h).2.1),I 0,.bool false,I 0,I 0,.slice none 0 0,.slice none 0 0,.slice none 0 0,I 0,I 0,I 0,I 0,I 0,.slice none 0 0,I 0,I 0]) J (cm J<|cm J<|cm J ew) (fun _=>aS)<|k<|bw H9 4 J k0 J J J J J J J ?_
  intro w6 (dO:HI M w w6 [J5,J4,J3,J2,box aZ #[I ((dv (cS h)).2.2),I 0,I ((dv (cS h)).1),I ((dv (cS h)).2.1),I 0,.bool false,I 0,I 0,.slice none 0 0,.slice none 0 0,.slice none 0 0,I 0,I 0,I 0,I 0,I 0,.slice none 0 0,I 0,I 0] 35,J0])
  refine aq<|rt<|aK<|py dO 4 J k0 J J J J au ?_
  have e0:((dv (cS h)).2.2:Int)=pz h lv:=by rw[qZ]
  have e2:((dv (cS h)).1:Int)=(mP h lv).1:=by rw[nU]
  have e3:((dv (cS h)).2.1:Int)=(mP h lv).2:=by rw[nU]
  have e4:(0:Int)=tI h lv:=by rw[tM]
  have e5:(false:Bool)=qz h lv:=by exact rU.symm
  have sc:(0:Int)=(gX h lv).1:=by rw[gQ]
  have ta:(0:Int)=(gX h lv).2.1:=by rw[gQ]
  have r9:(0:Int)=(gX h lv).2.2.1:=by rw[gQ]
  have tT:(0:Int)=(gX h lv).2.2.2.1:=by rw[gQ]
  have tS:(0:Int)=(gX h lv).2.2.2.2:=by rw[gQ]
  have bu:=MG (fun (cg:Int) (gV:Int) (na:Int) (xe:Int) (xc:Bool) (su:Int) (sr:Int) (so:Int) (sm:Int) (sl:Int)=>(.agg #[I cg,I 0,I gV,I na,I xe,.bool xc,I 0,I 0,.slice none ([]:List (List bt)).length 0,.slice none ([]:aA).length 0,.slice none ([]:List aA).length 0,I su,I sr,I so,I sm,I sl,.slice none ([]:List cN).length 0,I 0,I 0]:Value)) e0 e2 e3 e4 e5 sc ta r9 tT tS
  exact⟨0,0,([]:List (List bt)),([]:aA),([]:List aA),([]:List cN),0,0,none,0,none,0,none,0,none,0,bu,dO.below,(eF _ _),(eF _ _),(eF _ _),(eF _ _)⟩
 have p2:=dT<|fA b2
 refine sk<|nx<|sq ?_
 have VM:lE h=0:=dT<|fA ‹(!decide (lE h=0))=false›
 have L9:sS lv=true:=fA ‹(!decide (0<(((dV lv).length:Nat):Int)))=false›
 have VT:(dv (cS h)).2.2=0:=dT<|fA ‹(!decide ((dv<|cS h).2.2=0))=false›
 obtain⟨qZ,nU,tM,rU,gQ⟩:=XL VM L9 VT
 have VQ:=Ti<|cS h
 refine rg<|k<|cB H9 0 J eh J J au J<|k ?_
 have eZ:=NH (fv:=(mu h)) (U:=(cS h)) (fo:=([]:aA)) H9.mb (H9.rv 3 J) (H9.rv 2 J) (H9.rv 1 J) aj
 refine ca ajf J (ec J e0) eZ ?_
 rintro _ w6 ⟨a3,c3,a4,c4,a5,c5,rfl,jc,fy,iT,jS⟩
 have dO:=H9.ext jc
 let J6:=iL a3 (mu h) c3
 have cV:=dO.put (it:=J6) J fy
 let J7:=iL a4 (cS h) c4
 have du:=cV.put (it:=J7) J<|by rw[aD J];exact iT
 let J8:=iL a5 (gJ (cS h)) c5
 have dJ:=du.put (it:=J8) J<|by rw[aD rfl,aD rfl];exact jS
 refine k<|bw dJ 3 J eh J J J J J J J ?_
 let J9:=box aY #[sL a3 (mu h) c3,sL a4 (cS h) c4,sL a5 (gJ (cS h)) c5] 47
 let bV:=J8::J7::J6::J9::ba
 intro w7 (cM:HI M w w7 bV)
 refine aq<|sq<|az<|k<|cB cM 3 J eh J J au J<|ai J i1<|k ?_
 have mx:=P2 (U:=(cS h)) (fo:=(gJ<|cS h)) (lv:=lv) (aC:=a3) (aE:=(mu h).length) (aB:=c3) cM.mb (hT.ext cM.below) (cM.rv 1 J) (cM.rv 0 J) pH (by exact Oz h) aj (by exact VQ) (by exact Mt VT)<|by exact Xw L9
 refine ca aje J (ec J<|ec J e0) mx ?_
 rintro _ w8 ⟨o0,o1,o2,o3,o4,o5,o6,o7,a6,c6,rfl,jK,je,q0⟩
 have dU:=cM.ext jK
 let dR:=iL a6 o5 c6
 have dt:=dU.put (it:=dR) J je
 refine ai (v:=.tuple #[.agg #[I o0,I o1,I o2,I o3,I o4,sL a6 o5 c6,I o6,I o7],I (fg (cS h) (gJ<|cS h) lv)]) J J<|k<|xt J J J<|k<|xt J J J<|k<|al dt bT ?_
 intro bJ w9 lC (cR:HI M w w9 (box bJ #[I 0,I 0,I 0,I 0,I 0,.slice none 0 0,I 0,I 0] 33::dR::bV))
 refine k<|bw cR 0 J bT J J J J J J J ?_
 let eE:=box bJ #[I o0,I o1,I o2,I o3,I o4,sL a6 o5 c6,I o6,I o7] 33
 intro dM (dI:HI M w dM (eE::dR::bV))
 refine ak (v:=I (fg (cS h) (gJ<|cS h) lv)) J J<|bz<|ai (v:=I (fg (cS h) (gJ<|cS h) lv)) J J<|k<|eql J J J J<|z<|nx<|cd (b:=decide ((fg (cS h) (gJ<|cS h) lv)=0)) J J (fun b3=>?_)<|fun b3=>?_
 ·
  refine sq ?_
  rw[anh (dT ‹decide (fg (cS h) (gJ (cS h)) lv=0)=true›)] at rU;rw[aaC q0 (dT ‹decide (fg (cS h) (gJ (cS h)) lv=0)=true›)] at gQ
  refine rg<|ai J i1<|k<|cB dI 0 J bT J J au J<|k<|bd (v:=.agg #[I 0,I 0,I 0,I 0,I lv,.bool false,I 0,I 0,.slice none 0 0,.slice none 0 0,.slice none 0 0,I o0,I o1,I o2,I o3,I o4,sL a6 o5 c6,I o6,I o7]) J (cm J<|cm J ew) (fun _=>aS)<|k<|bw dI 9 J k0 J J J J J J J ?_
  intro ee (dw:HI M w ee [eE,dR,J8,J7,J6,J9,J4,J3,J2,box aZ #[I 0,I 0,I 0,I 0,I lv,.bool false,I 0,I 0,.slice none 0 0,.slice none 0 0,.slice none 0 0,I o0,I o1,I o2,I o3,I o4,sL a6 o5 c6,I o6,I o7] 35,J0])
  refine aq<|rt<|aK<|py dw 9 J k0 J J J J au ?_
  have e0:(0:Int)=pz h lv:=by rw[qZ]
  have e2:(0:Int)=(mP h lv).1:=by rw[nU]
  have e3:(0:Int)=(mP h lv).2:=by rw[nU]
  have e4:(lv:Int)=tI h lv:=by rw[tM]
  have e5:(false:Bool)=qz h lv:=by exact rU.symm
  have sc:(o0:Int)=(gX h lv).1:=by rw[gQ]
  have ta:(o1:Int)=(gX h lv).2.1:=by rw[gQ]
  have r9:(o2:Int)=(gX h lv).2.2.1:=by rw[gQ]
  have tT:(o3:Int)=(gX h lv).2.2.2.1:=by rw[gQ]
  have tS:(o4:Int)=(gX h lv).2.2.2.2:=by rw[gQ]
  have bu:=MG (fun (cg:Int) (gV:Int) (na:Int) (xe:Int) (xc:Bool) (su:Int) (sr:Int) (so:Int) (sm:Int) (sl:Int)=>(.agg #[I cg,I 0,I gV,I na,I xe,.bool xc,I 0,I 0,.slice none ([]:List (List bt)).length 0,.slice none ([]:aA).length 0,.slice none ([]:List aA).length 0,I su,I sr,I so,I sm,I sl,.slice a6 o5.length c6,I o6,I o7]:Value)) e0 e2 e3 e4 e5 sc ta r9 tT tS
  exact⟨0,0,([]:List (List bt)),([]:aA),([]:List aA),o5,o6,o7,none,0,none,0,none,0,a6,c6,bu,dw.below,(eF _ _),(eF _ _),(eF _ _),(dw.gf 1 J)⟩
 refine sk<|nx<|sq ?_
 have VS:=dF ‹decide (fg (cS h) (gJ<|cS h) lv=0)=false›
 rw[ank VS] at rU;rw[aaA VS] at gQ
 refine rg<|k<|cB dI 5 J eh J J au J<|ai J i1<|k ?_
 have nu:=TW (U:=(cS h)) (fo:=(gJ<|cS h)) (lv:=lv) (aC:=a3) (aE:=(mu h).length) (aB:=c3) dI.mb (hT.ext dI.below) (dI.rv 3 J) (dI.rv 2 J) pH (by exact Oz h) aj (by exact VQ) (by exact Mt VT) (by exact Xw L9)<|by exact Il VS
 refine ca ajd J (ec J<|ec J e0) nu ?_
 rintro _ ee ⟨o8,o9,kM,gq,a7,c7,a8,c8,a9,c9,rfl,l3,lh,oE,nE⟩
 have dw:=dI.ext l3
 have cE:=eG dw lh
 have df:=eG cE oE
 have dH:=eG df nE
 refine ai (v:=.tuple #[.agg #[I lv,I o8,sL a7 o9 c7,sL a8 kM c8,sL a9 gq c9],I 0]) J J<|k<|xt J J J<|k<|xt J J J<|k<|al dH vQ ?_
 let dz:=iL a9 gq c9::iL a8 kM c8::iL a7 o9 c7::eE::dR::bV
 intro fh ft yp (eP:HI M w ft (box fh #[I 0,I 0,.slice none 0 0,.slice none 0 0,.slice none 0 0] 30::dz))
 refine k<|bw eP 0 J vQ J J J J J J J ?_
 let fM:=box fh #[I lv,I o8,sL a7 o9 c7,sL a8 kM c8,sL a9 gq c9] 30
 intro ij (ff:HI M w ij (fM::dz))
 refine ak (v:=I 0) J J<|aq<|sq<|az<|ai (v:=I 0) J J<|k<|neq J J J J<|aq<|pB J J au<|sk<|cO<|ai J i1<|k<|cB ff 0 J vQ J J au J<|k<|bd (v:=.agg #[I 0,I 0,I 0,I 0,I lv,.bool true,I lv,I o8,sL a7 o9 c7,sL a8 kM c8,sL a9 gq c9,I 0,I 0,I 0,I 0,I 0,.slice none 0 0,I 0,I 0]) J (cm J<|cm J<|cm J ew) (fun _=>aS)<|k<|bw ff 13 J k0 J J J J J J J ?_
 intro jv (gr:HI M w jv [fM,iL a9 gq c9,iL a8 kM c8,iL a7 o9 c7,eE,dR,J8,J7,J6,J9,J4,J3,J2,box aZ #[I 0,I 0,I 0,I 0,I lv,.bool true,I lv,I o8,sL a7 o9 c7,sL a8 kM c8,sL a9 gq c9,I 0,I 0,I 0,I 0,I 0,.slice none 0 0,I 0,I 0] 35,J0])
 refine aq<|rt<|py gr 13 J k0 J J J J au ?_
 have e0:(0:Int)=pz h lv:=by rw[qZ]
 have e2:(0:Int)=(mP h lv).1:=by rw[nU]
 have e3:(0:Int)=(mP h lv).2:=by rw[nU]
 have e4:(lv:Int)=tI h lv:=by rw[tM]
 have e5:(true:Bool)=qz h lv:=by exact rU.symm
 have sc:(0:Int)=(gX h lv).1:=by rw[gQ]
 have ta:(0:Int)=(gX h lv).2.1:=by rw[gQ]
 have r9:(0:Int)=(gX h lv).2.2.1:=by rw[gQ]
 have tT:(0:Int)=(gX h lv).2.2.2.1:=by rw[gQ]
 have tS:(0:Int)=(gX h lv).2.2.2.2:=by rw[gQ]
 have bu:=MG (fun (cg:Int) (gV:Int) (na:Int) (xe:Int) (xc:Bool) (su:Int) (sr:Int) (so:Int) (sm:Int) (sl:Int)=>(.agg #[I cg,I 0,I gV,I na,I xe,.bool xc,I lv,I o8,.slice a7 o9.length c7,.slice a8 kM.length c8,.slice a9 gq.length c9,I su,I sr,I so,I sm,I sl,.slice none ([]:List cN).length 0,I 0,I 0]:Value)) e0 e2 e3 e4 e5 sc ta r9 tT tS
 exact⟨lv,o8,o9,kM,gq,([]:List cN),0,0,a7,c7,a8,c8,a9,c9,none,0,bu,gr.below,(gr.gf 3 J),(gr.gf 2 J),(gr.gf 1 J),(eF _ _)⟩
theorem Yf:cA aI 185:=cI Tryz.func185
theorem afu:cA aI 170:=cI Tryz.func170
theorem aft:cA aI 171:=cI Tryz.func171
theorem afD:cA aI 143:=cI Tryz.func143
theorem afC:cA aI 144:=cI Tryz.func144
theorem Ct (lk:s.size≤maxLen) (Qz:p_.size≤maxLen):Calls aI 185 #[.string s,.string p_] w (cp fun v w'=>v=.bool (jQ s p_)∧Ext w w'):=by
 refine dG 18 Tryz.func185 J J J qt fun f0 ha H=>?_
 have i0:f0 0=.string s:=ha 0 bl
 have i1:f0 1=.string p_:=ha 1 bl
 refine az<|ak (v:=.bool false) J J<|bz<|ai J i0<|k<|wi J J mK<|ai J i1<|k<|wi J J mK<|k<|geq J J J J<|ai (v:=.bool (decide ((p_.size:Int)≤(s.size:Int)))) J J ?_
 rcases bE (decide ((p_.size:Int)≤(s.size:Int))) with b0|b0
 ·
  have p0:=dT b0
  refine bh J J J b0<|mv J i0<|bh J J J b0<|mv J i1<|bh J J J b0<|wi J J mK<|bh J J J b0<|ahJ J J J J aj mK<|bh J J J b0<|mv J i1<|bh J J J b0<|Tz J J J J<|k<|aP J J J J b0 J<|ak (v:=.bool (decide (s.extract 0 (p_.size:Int).toNat=p_))) J J<|aq<|rt<|r1 J J ?_
  exact⟨am_ Value.bool (by simp only[jQ,b0,BL]),H.below⟩
 refine aW J J J b0<|aW J J J b0<|aW J J J b0<|aW J J J b0<|aW J J J b0<|aW J J J b0<|k<|dA J J J J b0 J<|ak (v:=.bool false) J J<|aq<|rt<|r1 J J ?_
 exact⟨am_ Value.bool (by simp only[jQ,b0,BL]),H.below⟩
theorem JU (lk:s.size≤maxLen) (Qz:p_.size≤maxLen):Calls aI 170 #[.string s,.string p_] w (cp fun v w'=>v=.string (eH s p_)∧Ext w w'):=by
 refine dG 13 Tryz.func170 J J J qt fun f0 ha H=>?_
 have i0:f0 0=.string s:=ha 0 bl
 have i1:f0 1=.string p_:=ha 1 bl
 have C7:jQ s p_=true→(p_.size:Int)≤(s.size:Int):=by intro h_;unfold jQ at h_;cases e_:decide ((p_.size:Int)≤(s.size:Int))<;>rw[e_] at h_;cases h_;exact anT e_
 refine az<|ak (v:=.string ⟨#[]⟩) J J<|aq<|sq<|az<|ai J i0<|ai J i1<|k ?_
 have bS:=Ct (s:=s) (p_:=p_) (w:=w) bo bo
 refine ca Yf J (ec J<|ec J e0) bS ?_
 rintro _ w0 ⟨rfl,bY⟩
 have H0:=H.ext bY
 refine z<|nx<|cd (b:=jQ s p_) J J (fun b0=>?_)<|fun b0=>?_
 ·
  refine az<|ai J i0<|ai J i1<|k<|wi J J mK<|k<|UH J J J J (by have h_:=C7 bo;omega) mK<|ak (v:=.string (s.extract (p_.size:Int).toNat s.size)) J J<|aq<|rt<|aK<|r1 J J ?_
  exact⟨am_ Value.string (by simp only[eH,b0,BL]),H0.below⟩
 refine sk<|cO<|ai J i0<|ak (v:=.string s) J J<|aq<|rt<|r1 J J ?_
 exact⟨am_ Value.string (by simp only[eH,b0,BL]),H0.below⟩
theorem K7 (lk:s.size≤maxLen) (Qz:p_.size≤maxLen):Calls aI 171 #[.string s,.string p_] w (cp fun v w'=>v=.tuple #[.string (eH s p_),.bool (jQ s p_)]∧Ext w w'):=by
 refine dG 15 Tryz.func171 J J J qt fun f0 ha H=>?_
 have i0:f0 0=.string s:=ha 0 bl
 have i1:f0 1=.string p_:=ha 1 bl
 have C7:jQ s p_=true→(p_.size:Int)≤(s.size:Int):=by intro h_;unfold jQ at h_;cases e_:decide ((p_.size:Int)≤(s.size:Int))<;>rw[e_] at h_;cases h_;exact anT e_
 refine az<|ak (v:=.string ⟨#[]⟩) J J<|ak (v:=.bool false) J J<|aq<|sq<|az<|ai J i0<|ai J i1<|k ?_
 have bS:=Ct (s:=s) (p_:=p_) (w:=w) bo bo
 refine ca Yf J (ec J<|ec J e0) bS ?_
 rintro _ w0 ⟨rfl,bY⟩
 have H0:=H.ext bY
 refine k<|jY J J<|z<|nx<|cd (b:=!(jQ s p_)) J J (fun b0=>?_)<|fun b0=>?_
 ·
  refine az<|ai J i0<|ak (v:=.string s) J J<|ak (v:=.bool false) J J<|aq<|rt<|aK<|r2 J J J ?_
  have e0:(s:bf)=eH s p_:=by simp only[eH,(gl b0),BL]
  have e1:(false:Bool)=jQ s p_:=by simp only[(gl b0),BL]
  have bu:=nL (fun (cg:bf) (dY:Bool)=>(.tuple #[.string cg,.bool dY]:Value)) e0 e1
  exact⟨bu,H0.below⟩
 refine sk<|cO<|ai J i0<|ai J i1<|k<|wi J J mK<|k<|UH J J J J (by have h_:=C7 (by simpa using ‹(!jQ s p_)=false›);omega) mK<|ak (v:=.string (s.extract (p_.size:Int).toNat s.size)) J J<|ak (v:=.bool true) J J<|aq<|rt<|r2 J J J ?_
 have e0:(s.extract (p_.size:Int).toNat s.size:bf)=eH s p_:=by simp only[eH,(fA b0),BL]
 have e1:(true:Bool)=jQ s p_:=by simp only[(fA b0),BL]
 have bu:=nL (fun (cg:bf) (dY:Bool)=>(.tuple #[.string cg,.bool dY]:Value)) e0 e1
 exact⟨bu,H0.below⟩
theorem Cq (lk:s.size≤maxLen) (Qz:p_.size≤maxLen):Calls aI 143 #[.string s,.string p_] w (cp fun v w'=>v=.string (eH s p_)∧Ext w w'):=by
 refine dG 8 Tryz.func143 J J J qt fun f0 ha H=>?_
 have i0:f0 0=.string s:=ha 0 bl
 have i1:f0 1=.string p_:=ha 1 bl
 refine az<|ak (v:=.string ⟨#[]⟩) J J<|bz<|ai J i0<|ai J i1<|k ?_
 have bS:=JU (s:=s) (p_:=p_) (w:=w) bo bo
 refine ca afu J (ec J<|ec J e0) bS ?_
 rintro _ w0 ⟨rfl,bY⟩
 have H0:=H.ext bY
 refine ak (v:=.string (eH s p_)) J J<|aq<|rt<|r1 J J ?_
 exact⟨J,H0.below⟩
theorem Ea (lk:s.size≤maxLen) (Qz:p_.size≤maxLen):Calls aI 145 #[.string s,.string p_] w (cp fun v w'=>v=.tuple #[.string (eH s p_),.bool (jQ s p_)]∧Ext w w'):=by
 refine dG 11 Tryz.func145 J J J qt fun f0 ha H=>?_
 have i0:f0 0=.string s:=ha 0 bl
 have i1:f0 1=.string p_:=ha 1 bl
 refine az<|ak (v:=.string ⟨#[]⟩) J J<|ak (v:=.bool false) J J<|bz<|ai J i0<|ai J i1<|k ?_
 have bS:=K7 (s:=s) (p_:=p_) (w:=w) bo bo
 refine ca aft J (ec J<|ec J e0) bS ?_
 rintro _ w0 ⟨rfl,bY⟩
 have H0:=H.ext bY
 refine k<|xt J J J<|k<|xt J J J<|ak (v:=.string (eH s p_)) J J<|ak (v:=.bool (jQ s p_)) J J<|aq<|rt<|r2 J J J ?_
 exact⟨J,H0.below⟩
theorem Vl (lk:s.size≤maxLen) (lK:aJ at_):Calls aI 110 #[.string s,I at_] w (cp fun v w'=>v=I (gB s at_)∧Ext w w'):=by
 refine dG 26 Tryz.func110 J J J qt fun f0 ha H=>?_
 have i0:f0 0=.string s:=ha 0 bl
 have i1:f0 1=I at_:=ha 1 bl
 have Bz:maxLen=9223372036854775807:=rfl
 refine az<|ak (v:=I 0) J J<|aq<|sq<|az<|ai J i1<|k<|lss J J J J<|ai (v:=.bool (decide (at_<0))) J J ?_
 rcases bE (decide (at_<0)) with b0|b0
 ·
  refine aW J J J b0<|aW J J J b0<|aW J J J b0<|aW J J J b0<|k<|aP J J J J b0 J<|aq<|ot J J J<|az<|ak (v:=I 0) J J<|aq<|rt<|aK<|r1 J J ?_
  exact⟨am_ (Value.int .i64) (by simp only[gB,b0,BL]),H.below⟩
 have p0:=dF b0
 refine bh J J J b0<|mv J i1<|bh J J J b0<|mv J i0<|bh J J J b0<|wi J J mK<|bh J J J b0<|geq J J J J<|k<|dA J J J J b0 J<|z<|nx<|cd (b:=decide ((s.size:Int)≤at_)) J J (fun b1=>?_)<|fun b1=>?_
 ·
  refine az<|ak (v:=I 0) J J<|aq<|rt<|aK<|r1 J J ?_
  exact⟨am_ (Value.int .i64) (by simp only[gB,b0,b1,BL]),H.below⟩
 have p1:=dF b1
 refine sk<|cO<|ai J i0<|ai J i1<|k<|UH J J J J aj mK<|ak (v:=.string (s.extract at_.toNat s.size)) J J<|bz<|ai (v:=.string (s.extract at_.toNat s.size)) J J<|k ?_
 have bS:=Cq (s:=(s.extract at_.toNat s.size)) (p_:=⟨#[45]⟩) (w:=w) (by exact Nat.le_trans (Dq _ _ _) lk) au
 refine ca afD J (ec J<|ec J e0) bS ?_
 rintro _ w0 ⟨rfl,bY⟩
 have H0:=H.ext bY
 refine ak (v:=.string (eH (s.extract at_.toNat s.size) ⟨#[45]⟩)) J J<|bz<|ai (v:=.string (s.extract at_.toNat s.size)) J J<|k<|wi J J mK<|ai (v:=.string (eH (s.extract at_.toNat s.size) ⟨#[45]⟩)) J J<|k ?_
 have cU:=E9 (s:=(eH (s.extract at_.toNat s.size) ⟨#[45]⟩)) (cs:=⟨#[48,49,50,51,52,53,54,55,56,57]⟩) (w:=w0) (by exact Nat.le_trans (rq _ _) (Nat.le_trans (Dq _ _ _) lk)) au<|by exact Hs
 refine ca afC J (ec J<|ec J e0) cU ?_
 rintro _ w1 ⟨rfl,cT⟩
 have H1:=H0.ext cT
 refine k<|wi J J mK<|k<|sub J J J J (by have h1_:=Eg (eH (s.extract at_.toNat s.size) ⟨#[45]⟩) ⟨#[48,49,50,51,52,53,54,55,56,57]⟩;have lG:=rq (s.extract at_.toNat s.size) ⟨#[45]⟩;have h3_:=Dq s at_.toNat s.size;unfold aJ;omega)<|ak (v:=I (((s.extract at_.toNat s.size).size:Int)-((Cp (eH (s.extract at_.toNat s.size) ⟨#[45]⟩) ⟨#[48,49,50,51,52,53,54,55,56,57]⟩).size:Int))) J J<|aq<|rt<|r1 J J ?_
 exact⟨am_ (Value.int .i64) (by simp only[gB,b0,b1,BL]),H1.below⟩
theorem afB:cA aI 145:=cI Tryz.func145
theorem AY:aI.underlying 57=some (.slice 5):=aS
theorem Px:aI.underlying 151=some (.int .u64):=aS
theorem Zu (lk:s.size≤maxLen):Calls aI 111 #[.string s] w (cp fun v w'=>v=.tuple #[I ((gk s).1),I ((gk s).2)]∧Ext w w'):=by
 refine dG 62 Tryz.func111 J J J qt fun f0 ha H=>?_
 have i0:f0 0=.string s:=ha 0 bl
 have Bz:maxLen=9223372036854775807:=rfl
 refine az<|ak (v:=I 0) J J<|ak (v:=I 0) J J<|bz<|ai J i0<|k ?_
 have bS:=Ea (s:=s) (p_:=⟨#[45]⟩) (w:=w) bo au
 refine ca afB J (ec J<|ec J e0) bS ?_
 rintro _ w0 ⟨rfl,bY⟩
 have H0:=H.ext bY
 refine ai (v:=.tuple #[.string (eH s ⟨#[45]⟩),.bool (jQ s ⟨#[45]⟩)]) J J<|k<|xt J J J<|k<|xt J J J<|ak (v:=.string (eH s ⟨#[45]⟩)) J J<|ak (v:=.bool (jQ s ⟨#[45]⟩)) J J<|z<|nx<|cut (fun f w'=>f 4=.string (eH s ⟨#[45]⟩)∧f 5=.bool (jQ s ⟨#[45]⟩)∧HI (fun _=>False) w w' []∧(lT s=false)) ?_ ?_
 ·
  refine az<|ai (v:=.string (eH s ⟨#[45]⟩)) J J<|k<|Tz J J J J<|ai (v:=.bool (decide (eH s ⟨#[45]⟩=⟨#[]⟩))) J J ?_
  rcases bE (decide (eH s ⟨#[45]⟩=⟨#[]⟩)) with b0|b0
  ·
   refine aW J J J b0<|aW J J J b0<|aW J J J b0<|k<|aP J J J J b0 J<|ai (v:=.bool true) J J<|aW J J J J<|aW J J J J<|aW J J J J<|aW J J J J<|k<|gu J J J<|k<|gu J J J<|aW J J J J<|k<|aP J J J J J J<|aq<|ot J J J<|az<|ak (v:=I 0) J J<|ak (v:=I 2) J J<|aq<|rt<|Ik ?_
   have um:gk s=(0,2):=Fs<|by simp only[lT,b0,BL]
   refine r2 J J J ?_
   have e0:(0:Int)=(gk s).1:=by rw[um]
   have e1:(2:Int)=(gk s).2:=by rw[um]
   have bu:=nL (fun (cg:Int) (dY:Int)=>(.tuple #[I cg,I dY]:Value)) e0 e1
   exact⟨bu,H0.below⟩
  have p0:=dF b0
  refine bh J J J b0<|mv (v:=.string (eH s ⟨#[45]⟩)) J J<|bh J J J b0 ?_
  have cU:=Cr (s:=(eH s ⟨#[45]⟩)) (cs:=⟨#[48,49,50,51,52,53,54,55,56,57]⟩) (w:=w0) (by exact Nat.le_trans (rq _ _) lk) au<|by exact Hs
  refine ca Yo J (ec J<|ec J e0) cU ?_
  rintro _ w2 ⟨rfl,cT⟩
  have H1:=H0.ext cT
  refine bh J J J b0<|neS J J J J<|k<|dA J J J J b0 J<|ai (v:=.bool (!decide (trimB (eH s ⟨#[45]⟩) ⟨#[48,49,50,51,52,53,54,55,56,57]⟩=⟨#[]⟩))) J J ?_
  rcases bE (!decide (trimB (eH s ⟨#[45]⟩) ⟨#[48,49,50,51,52,53,54,55,56,57]⟩=⟨#[]⟩)) with b1|b1
  ·
   have p1:=dF<|gl b1
   refine aW J J J b1<|aW J J J b1<|aW J J J b1<|aW J J J b1<|k<|gu J J J<|k<|gu J J J<|aW J J J b1<|k<|aP J J J J b1 J<|aq<|ot J J J<|az<|ak (v:=I 0) J J<|ak (v:=I 2) J J<|aq<|rt<|Ik ?_
   have um:gk s=(0,2):=Fs<|by simp only[lT,b0,(gl b1),BL]
   refine r2 J J J ?_
   have e0:(0:Int)=(gk s).1:=by rw[um]
   have e1:(2:Int)=(gk s).2:=by rw[um]
   have bu:=nL (fun (cg:Int) (dY:Int)=>(.tuple #[I cg,I dY]:Value)) e0 e1
   exact⟨bu,H1.below⟩
  have p1:=dT<|fA b1
  refine bh J J J b1<|mv (v:=.string (eH s ⟨#[45]⟩)) J J<|bh J J J b1<|Xz J J J J (by exact⟨aqr _,aab p0⟩) mK<|bh J J J b1<|eql J J J J<|bh J J J b1<|mv (v:=.bool (decide ((tf (eH s ⟨#[45]⟩) 0)=48))) J J ?_
  rcases bE (decide ((tf (eH s ⟨#[45]⟩) 0)=48)) with b2|b2
  ·
   refine bh J J J b2<|mv J i0<|bh J J J b2<|neS J J J J<|bh J J J b1<|aP J J J J b2 J<|k<|dA J J J J b1 J<|z<|nx<|cd (b:=!decide (s=⟨#[48]⟩)) J J (fun b3=>?_)<|fun b3=>?_
   ·
    have p3:=dF<|gl b3
    refine az<|ak (v:=I 0) J J<|ak (v:=I 2) J J<|aq<|rt<|Ik ?_
    have um:gk s=(0,2):=Fs<|by simp only[lT,b0,(fA b1),b2,(gl b3),BL]
    refine r2 J J J ?_
    have e0:(0:Int)=(gk s).1:=by rw[um]
    have e1:(2:Int)=(gk s).2:=by rw[um]
    have bu:=nL (fun (cg:Int) (dY:Int)=>(.tuple #[I cg,I dY]:Value)) e0 e1
    exact⟨bu,H1.below⟩
   have p3:=dT<|fA b3
   refine sk<|ya ⟨J,J,H1,(by simp only[lT,b0,(fA b1),b2,(fA b3),BL])⟩
  refine aW J J J b2<|aW J J J b2<|bh J J J b1<|dA J J J J b2 J<|k<|dA J J J J b1 J<|aq<|pB J J J<|sk<|ya ⟨J,J,H1,(by simp only[lT,b0,(fA b1),b2,BL])⟩
 ·
  rintro f0 w1 ⟨s0,s1,H3,Db⟩
  refine az<|ak (v:=ag (9223372036854775807#64)) J J<|z<|nx<|cut (fun f w'=>∃(m_:bt),f 4=.string (eH s ⟨#[45]⟩)∧f 5=.bool (jQ s ⟨#[45]⟩)∧f 6=ag m_∧HI (fun _=>False) w w' []∧(m_.toNat=pb s)) ?_ ?_
  ·
   refine az<|ai J s1<|z<|nx<|cd (b:=jQ s ⟨#[45]⟩) J J (fun b3=>?_)<|fun b3=>?_
   ·
    refine rg<|ai (v:=ag (9223372036854775807#64)) J J<|k<|Iw (9223372036854775807#64) (1#64) J J J J<|ak (v:=ag ((9223372036854775807#64)+(1#64))) J J<|z<|ya ⟨((9223372036854775807#64)+(1#64)),s0,s1,(N2 J<|by rfl),H3,(by unfold pb;rw[b3];rfl)⟩
   refine sk<|ya ⟨(9223372036854775807#64),s0,s1,(N2 J<|by rfl),H3,(by unfold pb;rw[b3];rfl)⟩
  ·
   rintro f1 w3 ⟨m_,s2,s3,s4,H5,VN⟩
   refine az<|ak (v:=ag (0#64)) J J<|aq<|sq<|az<|ai J s2<|k<|ajr H5 J J (by exact Nat.le_trans (rq _ _) lk) mK AY N1 ?_
   intro a0 c0 w4 fk (H6:HI (fun _=>False) w w4 [iL a0 (pM (eH s ⟨#[45]⟩)) c0])
   refine k<|dD J J AY<|ai (v:=I 0) J J<|aq<|bk<|lp (fun m f w'=>∃(j_:Nat) (yF:bt),m=(pM<|eH s ⟨#[45]⟩).length-j_∧f 5=.bool (jQ s ⟨#[45]⟩)∧f 6=ag m_∧f 7=ag yF∧f 36=sL a0 (pM<|eH s ⟨#[45]⟩) c0∧f 37=I ((pM<|eH s ⟨#[45]⟩).length:Int)∧f 38=I (j_:Int)∧HI (fun _=>False) w w' [iL a0 (pM<|eH s ⟨#[45]⟩) c0]∧(j_≤(pM<|eH s ⟨#[45]⟩).length)∧(nf m_.toNat (BJ s).data.toList 0=nf m_.toNat ((BJ s).data.toList.drop j_) yF.toNat)) _ ⟨0,(0#64),J,s3,s4,(N2 J<|by rfl),J,J,(bG J),H6,aj,(by rfl)⟩ ?_
   rintro _ f2 w5 ⟨j_,yF,rfl,s5,s6,s7,s8,s9,eu,H7,pA,hs⟩
   refine sq ?_
   have amj:=Zv s
   have ams:(pM (eH s ⟨#[45]⟩)).length≤s.size:=by rw[uR];exact rq _ _
   refine rg<|k<|lss J J eu s9<|aq<|sq<|cd (b:=decide ((j_:Int)<((pM<|eH s ⟨#[45]⟩).length:Int))) J J (fun b4=>?_)<|fun b4=>?_
   ·
    have p4:=dT b4
    refine sk<|nx<|sq<|bk<|az<|k<|ia (H7.rv 0 J) J J s8 eu aj AY N3 ?_
    intro iE x0 aM cz
    refine k<|ld8 cz.w N3 J J<|ak (v:=U8 x0) J J<|bz<|ai (v:=U8 x0) J J<|k<|ahI J J J J (by have h_:=TO (Pn Db) aM;omega)<|k<|Pb J J N1 Px<|ak (v:=ag (BitVec.ofInt 64<|(x0.toNat:Int)-48)) J J<|aq<|sq<|sq ?_
    have hd_:=TO (Pn Db) aM
    refine rg<|ai J s7<|ai J s6<|ai (v:=ag (BitVec.ofInt 64<|(x0.toNat:Int)-48)) J J<|k<|aaR m_ (BitVec.ofInt 64<|(x0.toNat:Int)-48) J J J J<|k<|ahQ (m_-(BitVec.ofInt 64<|(x0.toNat:Int)-48)) (10#64) au J J J J<|k<|Ye yF ((m_-(BitVec.ofInt 64<|(x0.toNat:Int)-48))/(10#64)) J J J J<|z<|nx<|cd (b:=decide (((m_-(BitVec.ofInt 64<|(x0.toNat:Int)-48))/(10#64)).toNat<yF.toNat)) J J (fun b5=>?_)<|fun b5=>?_
    ·
     refine az<|ak (v:=I 0) J J<|ak (v:=I 3) J J<|aq<|rt<|aK<|bR<|aK<|dX<|bR<|aK ?_
     have um:gk s=(0,3):=Vo Db<|by rw[←VN];exact Zt hd_ aj (It aM) hs bo
     refine r2 J J J ?_
     have e0:(0:Int)=(gk s).1:=by rw[um]
     have e1:(3:Int)=(gk s).2:=by rw[um]
     have bu:=nL (fun (cg:Int) (dY:Int)=>(.tuple #[I cg,I dY]:Value)) e0 e1
     exact⟨bu,H7.below⟩
    have p5:=dF b5
    refine sk<|nx<|rg<|ai J s7<|k<|Fx (10#64) yF J J J J<|ai (v:=ag (BitVec.ofInt 64<|(x0.toNat:Int)-48)) J J<|k<|Iw ((10#64)*yF) (BitVec.ofInt 64<|(x0.toNat:Int)-48) J J J J<|ak (v:=ag (((10#64)*yF)+(BitVec.ofInt 64<|(x0.toNat:Int)-48))) J J<|z<|aG<|nx<|rg<|k<|add J J eu J aR<|ai (v:=I ((j_:Int)+1)) J J<|z<|bF _ ?_ ⟨(j_+1),(((10#64)*yF)+(BitVec.ofInt 64<|(x0.toNat:Int)-48)),J,s5,s6,(N2 J<|by rfl),s8,s9,(bG J),H7,aj,(by exact Vk hd_ aj (It aM) hs bo)⟩
    omega
   have p4:=dF b4
   refine ex<|aV<|bc<|bg<|nx<|sq<|az<|ai J s5<|z<|nx<|cd (b:=jQ s ⟨#[45]⟩) J J (fun b5=>?_)<|fun b5=>?_
   ·
    refine az<|ai J s7<|k<|abz yF J J<|k<|cvT J J Px BY<|ak (v:=I ((-yF).toInt)) J J<|ak (v:=I 0) J J<|aq<|rt<|aK ?_
    have um:=Vn Db bo<|by rw[←VN];exact OD hs (by have h_:=uR (eH s ⟨#[45]⟩);rw[anW];show (eH s ⟨#[45]⟩).size≤_;omega)
    refine r2 J J J ?_
    have e0:((-yF).toInt:Int)=(gk s).1:=by rw[um]
    have e1:(0:Int)=(gk s).2:=by rw[um]
    have bu:=nL (fun (cg:Int) (dY:Int)=>(.tuple #[I cg,I dY]:Value)) e0 e1
    exact⟨bu,H7.below⟩
   refine sk<|cO<|ai J s7<|k<|cvT J J Px BY<|ak (v:=I yF.toInt) J J<|ak (v:=I 0) J J<|aq<|rt ?_
   have um:=Vm Db bo<|by rw[←VN];exact OD hs (by have h_:=uR (eH s ⟨#[45]⟩);rw[anW];show (eH s ⟨#[45]⟩).size≤_;omega)
   refine r2 J J J ?_
   have e0:(yF.toInt:Int)=(gk s).1:=by rw[um]
   have e1:(0:Int)=(gk s).2:=by rw[um]
   have bu:=nL (fun (cg:Int) (dY:Int)=>(.tuple #[I cg,I dY]:Value)) e0 e1
   exact⟨bu,H7.below⟩
end Go.Proofs.YtgjakhpjmapelaaGreatDoor
