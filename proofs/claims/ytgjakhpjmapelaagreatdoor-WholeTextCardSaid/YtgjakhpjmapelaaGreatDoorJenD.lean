/- PRINTED by my own tool (wip/tool/gen.py): contracts of Go functions of this seat, each with its proof. -/
import Derived.Test.YtgjakhpjmapelaaGreatDoorTwnB
import Derived.Test.YtgjakhpjmapelaaGreatDoorTwnC
import Derived.Test.YtgjakhpjmapelaaGreatDoorJenC
import Derived.Test.YtgjakhpjmapelaaGreatDoorJenB
import Derived.Test.YtgjakhpjmapelaaGreatDoorJenA
import Derived.Test.YtgjakhpjmapelaaGreatDoorTwnD
import Derived.Test.YtgjakhpjmapelaaGreatDoorTwnA
set_option linter.unusedVariables false
set_option linter.unusedSimpArgs false
namespace Go.Proofs.YtgjakhpjmapelaaGreatDoor
open Go.Ew Go.RowKit
set_option maxRecDepth 100000
set_option maxHeartbeats 1600000
attribute [local irreducible] WL WC SO PW PX PZ WE Code.wp wpList sj cA
attribute [local irreducible] kh xM jr fm eo Aq C6 Kt words eb de jJ fG vM
variable {M:cb} {w w_:aG}
variable {aC aw ay wD wC bF dB jL ju:OA} {aD aB av ax wB wA bD eK dA kx fc jY qk jt:Nat} {U:List aO} {fo:aA} {kd fC lv x_ mn cn o xx at_:Int} {a b:List bt} {mr cr:List (List bt)} {lV:TypeId} {r:List Go.Ew.Item} {fv:List bA} {s cs p_:bA} {qq:List Value} {h:List (List (Bool×bA×Int))}
theorem C0:gv aJ 33 0 0:=js Tryz.underlying33
theorem aij:cH aJ 78:=cN Tryz.func78
theorem xU:gv aJ 33 6 6:=js Tryz.underlying33
theorem vw:gv aJ 33 5 5:=js Tryz.underlying33
theorem ac8:gv aJ 33 7 7:=js Tryz.underlying33
theorem aii:cH aJ 80:=cN Tryz.func80
theorem acM:cH aJ 83:=cN Tryz.func83
theorem acU:cH aJ 16:=cN Tryz.func16
theorem air:cH aJ 53:=cN Tryz.func53
theorem Uu {jU:Int} {lG:Int} {gA:Int} {G9:OA} {Gc G0:Nat} {SQ:Value} {Rc:Value} (hM:eU M w) (hT:fW 0 w) (dG:cL M w aw av U) (gl:cL M w ay ax fo) (lM:aL kd) (GA:aL fC) (Bd:aL jU) (XG:aL lG) (yO:aL gA) (ho:hG U) (dC:U.length≤64) (eD:fo.length=U.length) (fK:∀x∈fo,x<((U.length:Nat):Int)) (abD:kd=6∨kd=7→0≤gA∧gA<((U.length:Nat):Int)):Calls aJ 53 #[.agg #[.slice aC aD aB,sL aw U av,sL ay fo ax],.agg #[I kd,I fC,I jU,I lG,I gA,.slice G9 Gc G0,SQ,Rc]] w (cA fun v w'=>∃(ir:List cT) (f_:Int) (s_:Int) (a0:OA) (c0:Nat),v=.tuple #[.agg #[I kd,I fC,I jU,I lG,I gA,sL a0 ir c0,I f_,I s_],I 0]∧Ext w w'∧cL M w' a0 c0 ir):=by
 refine dH 113 Tryz.func53 J J J hM fun f0 ha H=>?_
 let J0:=iL aw U av
 have H0:=H.put (it:=J0) J<|by rw[bS];exact dG
 let J1:=iL ay fo ax
 have H1:=H0.put (it:=J1) J<|by rw[aH rfl,bS];exact gl
 have iS:=bl dG
 have kM:=bl gl
 have i0:f0 0=.agg #[.slice aC aD aB,sL aw U av,sL ay fo ax]:=ha 0 bm
 have i1:f0 1=.agg #[I kd,I fC,I jU,I lG,I gA,.slice G9 Gc G0,SQ,Rc]:=ha 1 bm
 have AR:=Mc fo<|show U.length≤4096 by omega
 have Ps:=pB fo<|show U.length≤4096 by omega
 refine az<|k<|bx H1 J i0 ?_
 intro aZ w0 bY (H2:HI M w w0 [box aZ #[.slice aC aD aB,sL aw U av,sL ay fo ax] 47,J1,J0])
 let J2:=box aZ #[.slice aC aD aB,sL aw U av,sL ay fo ax] 47
 refine k<|bx H2 J i1 ?_
 intro ba w1 dy (H3:HI M w w1 [box ba #[I kd,I fC,I jU,I lG,I gA,.slice G9 Gc G0,SQ,Rc] 33,J2,J1,J0])
 let J3:=box ba #[I kd,I fC,I jU,I lG,I gA,.slice G9 Gc G0,SQ,Rc] 33
 refine k<|al H3 bW ?_
 intro bL w2 fe (H4:HI M w w2 [box bL #[I 0,I 0,I 0,I 0,I 0,.slice none 0 0,I 0,I 0] 33,J3,J2,J1,J0])
 let J4:=box bL #[I 0,I 0,I 0,I 0,I 0,.slice none 0 0,I 0,I 0] 33
 refine ak (v:=I 0) J J<|bz<|aR C0 J J<|bq H4 1 J aS J J J<|aR rT J J<|bq H4 1 J aS J J J<|aR pO J J<|bq H4 1 J aS J J J<|aR GK J J<|bq H4 1 J aS J J J<|aR oT J J<|bq H4 1 J aS J J J<|k<|bd (v:=.agg #[I kd,I fC,I jU,I lG,I gA,.slice none 0 0,I (-1),I (-1)]) J (cz J<|cz J<|cz J<|cz J<|cz J<|cz J<|cz J eI) (fun _=>aU)<|k<|al H4 bW ?_
 intro fq w3 fA (H5:HI M w w3 [box fq #[I 0,I 0,I 0,I 0,I 0,.slice none 0 0,I 0,I 0] 33,J4,J3,J2,J1,J0])
 refine k<|bw H5 0 J bW J J J J J J J ?_
 let J5:=box fq #[I kd,I fC,I jU,I lG,I gA,.slice none 0 0,I (-1),I (-1)] 33
 intro w4 (H6:HI M w w4 [J5,J4,J3,J2,J1,J0])
 refine aq<|sq<|ma [.r,.r,.r,.e,.e] (fun _=>True) J aU (fun _ _=>trivial)<|yq J J<|kq (fun _ x_=>cI (H6.ext x_) 3 J ej J J au J e1)<|bQ<|kq (fun _ x_=>cI (H6.ext x_) 3 J ej J J au J e1)<|zq<|yu J (fun _ v w'=>∃(a0:OA) (c0:Nat),v=.agg #[I (U.length:Int),sL a0 (kn U fo) c0]∧RV H6.gh w' (sL a0 (kn U fo) c0) (kn U fo)) J od J (fun v_ _ x_ _=>have dq:=Ey (U:=U) (fo:=fo) (aC:=aC) (aD:=aD) (aB:=aB) (w:=v_) (H6.ext x_).mb ((H6.ext x_).rv 5 rfl) ((H6.ext x_).rv 4 rfl) (by exact ho) aj (by exact eD) (by exact fK);ca acP rfl (ec J e0) dq (fun _ w6 ⟨a1,c1,e_,jh,ep⟩=>⟨_,J,jh,⟨a1,c1,e_,ep⟩⟩))<|ye<|ye<|yz ?_
 intro w7 f0 _ ki _ _ cK iK
 have dx:=H6.ext ki
 have s0:=cK 2 J
 have s1:=cK 3 J
 have s2:=cK 4 J
 have s3:=cK 6 J
 have s4:=cK 21 J
 obtain⟨a2,c2,s5,ei⟩:=iK 0 _ _ rfl
 let J6:=iL a2 (kn U fo) c2
 have dI:=dx.put (it:=J6) J ei
 refine j8 ?_
 have cU:HI M w w7 ([J0,J1,J6]++[J5,J4,J3,J2]):=dI.bZ [6,5,0,1,2,3,4] au J
 have fP:=Na (aC:=aC) (aD:=aD) (aB:=aB) (aw:=aw) (av:=av) (U:=U) (ay:=ay) (ax:=ax) (fo:=fo) (mn:=(U.length:Int)) (bF:=a2) (bD:=c2) (mr:=(kn U fo)) (w:=w) (w_:=w7) (r:=[J5,J4,J3,J2]) (M:=M) aT cU
 refine ca aij J (ec s4<|ec s5 e0) fP ?_
 rintro _ w8 ⟨gO,a3,c3,dK,fV,rfl,d_⟩
 let J7:=box gO #[.slice aC aD aB,sL aw U av,sL ay fo ax,sL a3 ([]:List cT) c3,.map (some dK),I (U.length:Int),sL a2 (kn U fo) c2,.map (some fV)] 142
 let J8:=oL w 175 a3 ([]:List cT) c3
 let J9:=cj dK ([]:KV)
 let bc:=[J8,J9,bX fV ([]:List ((Int×Int)×Bool)),J0,J1,J6,J5,J4,J3,J2]
 have dD:HI M w w8 (J7::bc):=d_
 refine j8<|jy (v:=pV gO 0) J J<|kz<|nx<|sq<|az<|aR C0 J s1<|bq dD 9 J aS J J J<|aq<|bk<|az<|k<|eql J J J J<|ak (v:=.bool (decide (kd=2))) J J<|z<|nx<|cd (b:=decide (kd=2)) J J (fun b0=>?_)<|fun b0=>?_
 ·
  refine rg<|ai (v:=pV gO 0) J J<|aR oT J s1<|bq dD 9 J aS J J J<|aR oT J s1<|bq dD 9 J aS J J J<|k ?_
  have cY:HI M w w8 ([J7,J0,J1,J8,J9,J6,bX fV ([]:List ((Int×Int)×Bool))]++[J5,J4,J3,J2]):=dD.bZ [0,4,5,1,2,6,3,7,8,9,10] au J
  have ff:=mC (df:=gO) (aC:=aC) (aD:=aD) (aB:=aB) (aw:=aw) (av:=av) (U:=U) (ay:=ay) (ax:=ax) (fo:=fo) (eF:=a3) (eE:=c3) (sp:=([]:List cT)) (bC:=dK) (mp:=([]:KV)) (pn:=(U.length:Int)) (dp:=a2) (dm:=c2) (pr:=(kn U fo)) (bK:=fV) (mq:=([]:List ((Int×Int)×Bool))) (f_:=gA) (t_:=gA) (w:=w) (w_:=w8) (r:=[J5,J4,J3,J2]) (M:=M) aT yO yO hT (by simp only[gj];omega) aj (by exact eD) (by exact dC) (by exact AR) cY
  refine ca zu J (ec J<|ec J<|ec J e0) ff ?_
  rintro _ w9 ⟨o0,o1,o2,a4,c4,rfl,dW,q0,q1⟩
  let dZ:=box gO #[.slice aC aD aB,sL aw U av,sL ay fo ax,sL a4 o1 c4,.map (some dK),I (U.length:Int),sL a2 (kn U fo) c2,.map (some fV)] 142
  have dQ:HI M w w9 [dZ,J0,J1,oL w 175 a4 o1 c4,cj dK o2,J6,bX fV ([]:List ((Int×Int)×Bool)),J5,J4,J3,J2]:=dW
  refine aR xU J s3<|k<|bw dQ 7 J aS J J J J J J J ?_
  intro dP (cQ:HI M w dP [dZ,J0,J1,oL w 175 a4 o1 c4,cj dK o2,J6,bX fV ([]:List ((Int×Int)×Bool)),box fq #[I kd,I fC,I jU,I lG,I gA,.slice none 0 0,I o0,I (-1)] 33,J4,J3,J2])
  refine z<|aF<|cV<|ai (v:=pV gO 0) J J<|k<|nc J J<|aR lR J J<|bq cQ 0 J nA J J J<|aR vw J s3<|k<|bw cQ 7 J nA J J J J J J J ?_
  let eP:=box fq #[I kd,I fC,I jU,I lG,I gA,sL a4 o1 c4,I o0,I (-1)] 33
  intro eB (eh:HI M w eB [dZ,J0,J1,oL w 175 a4 o1 c4,cj dK o2,J6,bX fV ([]:List ((Int×Int)×Bool)),eP,J4,J3,J2])
  refine bz<|k<|cI eh 7 J bW J s3 au J<|k<|bw eh 8 J bW J J s2 J J J J ?_
  intro fE (dO:HI M w fE [dZ,J0,J1,oL w 175 a4 o1 c4,cj dK o2,J6,bX fV ([]:List ((Int×Int)×Bool)),eP,box bL #[I kd,I fC,I jU,I lG,I gA,sL a4 o1 c4,I o0,I (-1)] 33,J3,J2])
  refine ak (v:=I 0) J J<|aq<|rt<|iA dO 8 J bW J J J s2 J au ?_
  exact⟨o1,o0,(-1),a4,c4,J,dO.below,(dO.mu 3 J)⟩
 have p0:=dF b0
 refine az<|k<|eql J J J J<|ak (v:=.bool (decide (kd=3))) J J<|z<|nx<|cd (b:=decide (kd=3)) J J (fun b1=>?_)<|fun b1=>?_
 ·
  refine rg<|ai (v:=pV gO 0) J J<|aR pO J s1<|bq dD 9 J aS J J J<|aR rT J s1<|bq dD 9 J aS J J J<|k ?_
  have cY:HI M w w8 ([J7,J0,J1,J8,J9,J6,bX fV ([]:List ((Int×Int)×Bool))]++[J5,J4,J3,J2]):=dD.bZ [0,4,5,1,2,6,3,7,8,9,10] au J
  have ff:=mC (df:=gO) (aC:=aC) (aD:=aD) (aB:=aB) (aw:=aw) (av:=av) (U:=U) (ay:=ay) (ax:=ax) (fo:=fo) (eF:=a3) (eE:=c3) (sp:=([]:List cT)) (bC:=dK) (mp:=([]:KV)) (pn:=(U.length:Int)) (dp:=a2) (dm:=c2) (pr:=(kn U fo)) (bK:=fV) (mq:=([]:List ((Int×Int)×Bool))) (f_:=jU) (t_:=fC) (w:=w) (w_:=w8) (r:=[J5,J4,J3,J2]) (M:=M) aT Bd GA hT (by simp only[gj];omega) aj (by exact eD) (by exact dC) (by exact AR) cY
  refine ca zu J (ec J<|ec J<|ec J e0) ff ?_
  rintro _ w9 ⟨o0,o1,o2,a4,c4,rfl,dW,q0,q1⟩
  let gp:=box gO #[.slice aC aD aB,sL aw U av,sL ay fo ax,sL a4 o1 c4,.map (some dK),I (U.length:Int),sL a2 (kn U fo) c2,.map (some fV)] 142
  have dQ:HI M w w9 [gp,J0,J1,oL w 175 a4 o1 c4,cj dK o2,J6,bX fV ([]:List ((Int×Int)×Bool)),J5,J4,J3,J2]:=dW
  refine aR xU J s3<|k<|bw dQ 7 J aS J J J J J J J ?_
  intro dP (cQ:HI M w dP [gp,J0,J1,oL w 175 a4 o1 c4,cj dK o2,J6,bX fV ([]:List ((Int×Int)×Bool)),box fq #[I kd,I fC,I jU,I lG,I gA,.slice none 0 0,I o0,I (-1)] 33,J4,J3,J2])
  refine z<|aF<|cV<|ai (v:=pV gO 0) J J<|k<|nc J J<|aR lR J J<|bq cQ 0 J nA J J J<|aR vw J s3<|k<|bw cQ 7 J nA J J J J J J J ?_
  let fQ:=box fq #[I kd,I fC,I jU,I lG,I gA,sL a4 o1 c4,I o0,I (-1)] 33
  intro eB (eh:HI M w eB [gp,J0,J1,oL w 175 a4 o1 c4,cj dK o2,J6,bX fV ([]:List ((Int×Int)×Bool)),fQ,J4,J3,J2])
  refine bz<|k<|cI eh 7 J bW J s3 au J<|k<|bw eh 8 J bW J J s2 J J J J ?_
  intro fE (dO:HI M w fE [gp,J0,J1,oL w 175 a4 o1 c4,cj dK o2,J6,bX fV ([]:List ((Int×Int)×Bool)),fQ,box bL #[I kd,I fC,I jU,I lG,I gA,sL a4 o1 c4,I o0,I (-1)] 33,J3,J2])
  refine ak (v:=I 0) J J<|aq<|rt<|iA dO 8 J bW J J J s2 J au ?_
  exact⟨o1,o0,(-1),a4,c4,J,dO.below,(dO.mu 3 J)⟩
 have p1:=dF b1
 refine az<|k<|eql J J J J<|ak (v:=.bool (decide (kd=4))) J J<|z<|nx<|cd (b:=decide (kd=4)) J J (fun b2=>?_)<|fun b2=>?_
 ·
  refine ma [.r,.r,.r,.r,.r,.e,.s,.f,.f,.f,.f,.e,.f,.e,.f,.e] (fun w'=>HI M w w' [J3]) J aU (fun _ x_=>(dD.bZ (l':=[J3]) [9] au J).ext x_)<|yq J J<|kq (fun _ _=>mv (v:=pV gO 0) J J e1)<|bQ<|kq (fun _ _=>fa pO J s1 e1)<|bQ<|kq (fun _ x_=>lx (dD.ext x_) 9 J aS J J J e1)<|bQ<|kq (fun _ _=>fa GK J s1 e1)<|bQ<|kq (fun _ x_=>lx (dD.ext x_) 9 J aS J J J e1)<|zq<|ye<|yq J J<|kq (fun _ _=>mv (v:=pV gO 0) J J e1)<|zq<|yf J (fun _ _=>fa GK J s1 e3)<|yf J (fun _ i_=>lx i_ 0 J aS J J J e3)<|yf J (fun _ _=>fa rT J s1 e3)<|yf J (fun _ i_=>lx i_ 0 J aS J J J e3)<|ye<|yf J (fun _ _=>fa xU J s3 e3)<|ye<|yf J (fun _ _=>fa ac8 J s3 e3)<|ye<|yz ?_
  intro w9 f1 _ mA _ _ fJ Ac
  have cY:=dD.ext mA
  have s6:=(fJ 4 J).trans s2
  have s7:=(fJ 6 J).trans s3
  have s8:=fJ 7 J
  have s9:=fJ 47 J
  have eC:=fJ 49 J
  have fj:=fJ 51 J
  have fT:=fJ 53 J
  have fS:=fJ 55 J
  have gF:=fJ 57 J
  have gW:=fJ 59 J
  have kG:=fJ 60 J
  refine ke ?_
  let ck:=[J6,bX fV ([]:List ((Int×Int)×Bool))]
  have dW:HI M w w9 ((J7::J0::J1::J8::J9::ck)++[J5,J4,J3,J2]):=cY.bZ [0,4,5,1,2,6,3,7,8,9,10] au J
  have ff:=mC (df:=gO) (aC:=aC) (aD:=aD) (aB:=aB) (aw:=aw) (av:=av) (U:=U) (ay:=ay) (ax:=ax) (fo:=fo) (eF:=a3) (eE:=c3) (sp:=([]:List cT)) (bC:=dK) (mp:=([]:KV)) (pn:=(U.length:Int)) (dp:=a2) (dm:=c2) (pr:=(kn U fo)) (bK:=fV) (mq:=([]:List ((Int×Int)×Bool))) (f_:=jU) (t_:=lG) (w:=w) (w_:=w9) (r:=[J5,J4,J3,J2]) (M:=M) aT Bd XG hT (by simp only[gj];omega) aj (by exact eD) (by exact dC) (by exact AR) dW
  refine ca zu J (ec s9<|ec eC<|ec fj e0) ff ?_
  rintro _ dP ⟨o0,o1,o2,a4,c4,rfl,dQ,q0,q1⟩
  let iF:=box gO #[.slice aC aD aB,sL aw U av,sL ay fo ax,sL a4 o1 c4,.map (some dK),I (U.length:Int),sL a2 (kn U fo) c2,.map (some fV)] 142
  let dY:=[J6,bX fV ([]:List ((Int×Int)×Bool)),J5,J4,J3,J2]
  have cQ:HI M w dP (iF::J0::J1::oL w 175 a4 o1 c4::cj dK o2::dY):=dQ
  refine⟨cQ.bZ [9] au rfl,?_⟩
  refine ke ?_
  have eh:HI M w dP ((iF::J0::J1::oL w 175 a4 o1 c4::cj dK o2::ck)++[J5,J4,J3,J2]):=cQ.bZ [0,1,2,3,4,5,6,7,8,9,10] au J
  have mc:=mC (df:=gO) (aC:=aC) (aD:=aD) (aB:=aB) (aw:=aw) (av:=av) (U:=U) (ay:=ay) (ax:=ax) (fo:=fo) (eF:=a4) (eE:=c4) (sp:=o1) (bC:=dK) (mp:=o2) (pn:=(U.length:Int)) (dp:=a2) (dm:=c2) (pr:=(kn U fo)) (bK:=fV) (mq:=([]:List ((Int×Int)×Bool))) (f_:=lG) (t_:=fC) (w:=w) (w_:=dP) (r:=[J5,J4,J3,J2]) (M:=M) aT XG GA hT (by simp only[gj] at *;omega) aj (by exact eD) (by exact dC) (by exact AR) eh
  refine ca zu J (ec fT<|ec fS<|ec gF e0) mc ?_
  rintro _ eB ⟨o3,o4,o5,a5,c5,rfl,dO,q2,q3⟩
  let pc:=box gO #[.slice aC aD aB,sL aw U av,sL ay fo ax,sL a5 o4 c5,.map (some dK),I (U.length:Int),sL a2 (kn U fo) c2,.map (some fV)] 142
  let mh:=oL w 175 a5 o4 c5
  have fg:HI M w eB (pc::J0::J1::mh::cj dK o5::dY):=dO
  refine⟨fg.bZ [9] au rfl,?_⟩
  refine ke<|bw fg 7 J aS J J gW J J J J ?_
  intro fE (fz:HI M w fE [pc,J0,J1,mh,cj dK o5,J6,bX fV ([]:List ((Int×Int)×Bool)),box fq #[I kd,I fC,I jU,I lG,I gA,.slice none 0 0,I o0,I (-1)] 33,J4,J3,J2])
  refine⟨fz.bZ [9] au rfl,?_⟩
  refine ke<|bw fz 7 J aS J J kG J J J J ?_
  intro iU (gS:HI M w iU [pc,J0,J1,mh,cj dK o5,J6,bX fV ([]:List ((Int×Int)×Bool)),box fq #[I kd,I fC,I jU,I lG,I gA,.slice none 0 0,I o0,I o3] 33,J4,J3,J2])
  refine⟨gS.bZ [9] au rfl,?_⟩
  refine kz<|aF<|cV<|ai J s8<|k<|nc J J<|aR lR J J<|bq gS 0 J nA J J J<|aR vw J s7<|k<|bw gS 7 J nA J J J J J J J ?_
  let tM:=box fq #[I kd,I fC,I jU,I lG,I gA,sL a5 o4 c5,I o0,I o3] 33
  intro jZ (iY:HI M w jZ [pc,J0,J1,mh,cj dK o5,J6,bX fV ([]:List ((Int×Int)×Bool)),tM,J4,J3,J2])
  refine bz<|k<|cI iY 7 J bW J s7 au J<|k<|bw iY 8 J bW J J s6 J J J J ?_
  intro rn (jz:HI M w rn [pc,J0,J1,mh,cj dK o5,J6,bX fV ([]:List ((Int×Int)×Bool)),tM,box bL #[I kd,I fC,I jU,I lG,I gA,sL a5 o4 c5,I o0,I o3] 33,J3,J2])
  refine ak (v:=I 0) J J<|aq<|rt<|iA jz 8 J bW J J J s6 J au ?_
  exact⟨o4,o0,o3,a5,c5,J,jz.below,(jz.mu 3 J)⟩
 have p2:=dF b2
 refine az<|k<|eql J J J J<|ak (v:=.bool (decide (kd=5))) J J<|z<|nx<|cd (b:=decide (kd=5)) J J (fun b3=>?_)<|fun b3=>?_
 ·
  refine az<|ai (v:=pV gO 0) J J<|k ?_
  have cY:HI M w w8 ([J7,J0,J1,J8,J9,J6,bX fV ([]:List ((Int×Int)×Bool))]++[J5,J4,J3,J2]):=dD.bZ [0,4,5,1,2,6,3,7,8,9,10] au J
  have ff:=F6 (df:=gO) (aC:=aC) (aD:=aD) (aB:=aB) (aw:=aw) (av:=av) (U:=U) (ay:=ay) (ax:=ax) (fo:=fo) (eF:=a3) (eE:=c3) (sp:=([]:List cT)) (bC:=dK) (mp:=([]:KV)) (pn:=(U.length:Int)) (dp:=a2) (dm:=c2) (pr:=(kn U fo)) (bK:=fV) (mq:=([]:List ((Int×Int)×Bool))) (w:=w) (w_:=w8) (r:=[J5,J4,J3,J2]) (M:=M) aT hT (by exact ho) (by exact dC) (by exact eD) (by exact fK) aj (by exact AR) (by simp only[gj];omega) cY
  refine ca aii J (ec J e0) ff ?_
  rintro _ w9 ⟨o0,o1,o2,a4,c4,a5,c5,rfl,dW,q0,q1⟩
  let jM:=box gO #[.slice aC aD aB,sL aw U av,sL ay fo ax,sL a4 o0 c4,.map (some dK),I (U.length:Int),sL a5 o2 c5,.map (some fV)] 142
  let jk:=[iL a5 o2 c5,bX fV ([]:List ((Int×Int)×Bool)),J5,J4,J3,J2]
  have dQ:HI M w w9 (jM::J0::J1::oL w 175 a4 o0 c4::cj dK o1::jk):=dW
  refine aq<|rg<|ai (v:=pV gO 0) J J<|aR oT J s1<|bq dQ 9 J aS J J J<|aR oT J s1<|bq dQ 9 J aS J J J<|k ?_
  have cQ:HI M w w9 ([jM,J0,J1,oL w 175 a4 o0 c4,cj dK o1,iL a5 o2 c5,bX fV ([]:List ((Int×Int)×Bool))]++[J5,J4,J3,J2]):=dQ.bZ [0,1,2,3,4,5,6,7,8,9,10] au J
  have mc:=mC (df:=gO) (aC:=aC) (aD:=aD) (aB:=aB) (aw:=aw) (av:=av) (U:=U) (ay:=ay) (ax:=ax) (fo:=fo) (eF:=a4) (eE:=c4) (sp:=o0) (bC:=dK) (mp:=o1) (pn:=(U.length:Int)) (dp:=a5) (dm:=c5) (pr:=o2) (bK:=fV) (mq:=([]:List ((Int×Int)×Bool))) (f_:=gA) (t_:=gA) (w:=w) (w_:=w9) (r:=[J5,J4,J3,J2]) (M:=M) aT yO yO hT (by simp only[gj] at *;omega) aj (by exact eD) (by exact dC) bo cQ
  refine ca zu J (ec J<|ec J<|ec J e0) mc ?_
  rintro _ dP ⟨o3,o4,o5,a6,c6,rfl,eh,q2,q3⟩
  let pb:=box gO #[.slice aC aD aB,sL aw U av,sL ay fo ax,sL a6 o4 c6,.map (some dK),I (U.length:Int),sL a5 o2 c5,.map (some fV)] 142
  have dO:HI M w dP (pb::J0::J1::oL w 175 a6 o4 c6::cj dK o5::jk):=eh
  refine aR xU J s3<|k<|bw dO 7 J aS J J J J J J J ?_
  intro eB (fg:HI M w eB [pb,J0,J1,oL w 175 a6 o4 c6,cj dK o5,iL a5 o2 c5,bX fV ([]:List ((Int×Int)×Bool)),box fq #[I kd,I fC,I jU,I lG,I gA,.slice none 0 0,I o3,I (-1)] 33,J4,J3,J2])
  refine z<|aF<|cV<|ai (v:=pV gO 0) J J<|k<|nc J J<|aR lR J J<|bq fg 0 J nA J J J<|aR vw J s3<|k<|bw fg 7 J nA J J J J J J J ?_
  let qm:=box fq #[I kd,I fC,I jU,I lG,I gA,sL a6 o4 c6,I o3,I (-1)] 33
  intro fE (fz:HI M w fE [pb,J0,J1,oL w 175 a6 o4 c6,cj dK o5,iL a5 o2 c5,bX fV ([]:List ((Int×Int)×Bool)),qm,J4,J3,J2])
  refine bz<|k<|cI fz 7 J bW J s3 au J<|k<|bw fz 8 J bW J J s2 J J J J ?_
  intro iU (gS:HI M w iU [pb,J0,J1,oL w 175 a6 o4 c6,cj dK o5,iL a5 o2 c5,bX fV ([]:List ((Int×Int)×Bool)),qm,box bL #[I kd,I fC,I jU,I lG,I gA,sL a6 o4 c6,I o3,I (-1)] 33,J3,J2])
  refine ak (v:=I 0) J J<|aq<|rt<|iA gS 8 J bW J J J s2 J au ?_
  exact⟨o4,o3,(-1),a6,c6,J,gS.below,(gS.mu 3 J)⟩
 have p3:=dF b3
 refine sq<|az<|k<|eql J J J J<|ak (v:=.bool (decide (kd=6))) J J<|z<|nx<|cd (b:=decide (kd=6)) J J (fun b4=>?_)<|fun b4=>?_
 ·
  have p4:=dT b4
  refine sk<|nx<|oA J J b4<|az<|k<|cI dD 10 J ej J s0 au J<|k ?_
  have ff:=Bo (U:=U) (fo:=fo) (aC:=aC) (aD:=aD) (aB:=aB) dD.mb (dD.rv 4 J) (dD.rv 5 J) (by exact ho) aj (by exact eD)<|by exact fK
  refine ca Qp J (ec J e0) ff ?_
  rintro _ w9 ⟨a4,c4,rfl,mA,fB⟩
  have cY:=dD.ext mA
  let n3:=iL a4 (cC U fo) c4
  have dW:=cY.put (it:=n3) J fB
  refine k<|al dW bp ?_
  intro Av dP og (dQ:HI M w dP (box Av #[I 0,.slice none 0 0] 26::n3::J7::bc))
  refine k<|bw dQ 0 J bp J J J J J J J ?_
  let pa:=box Av #[I (U.length:Int),sL a4 (cC U fo) c4] 26
  intro eB (cQ:HI M w eB (pa::n3::J7::bc))
  refine aq<|sq<|ma [.r,.r,.r,.r,.r,.r,.r,.r,.r,.r,.r,.r,.e] (fun _=>True) J aU (fun _ _=>trivial)<|yq J J<|kq (fun _ _=>mv (v:=pV gO 0) J J e1)<|bQ<|kq (fun _ _=>mv (v:=pV gO 0) J J e1)<|bQ<|kq (fun _ _=>nc J J e1)<|bQ<|kq (fun _ _=>fa rj J J e1)<|bQ<|kq (fun _ x_=>cI (cQ.ext x_) 2 J bp J J au J e1)<|bQ<|kq (fun _ x_=>cI (cQ.ext x_) 0 J bp J J au J e1)<|bQ<|kq (fun _ _=>fa oT J s1 e1)<|bQ<|kq (fun _ x_=>lx (cQ.ext x_) 11 J aS J J J e1)<|zq<|yu J (fun _ v w'=>∃(a5:OA) (c5:Nat),v=sL a5 (bP (U.length:Int) (cC U fo) gA) c5∧RV cQ.gh w' (sL a5 (bP (U.length:Int) (cC U fo) gA) c5) (bP (U.length:Int) (cC U fo) gA)) J od J (fun v_ _ x_ _=>have nV:=u2 (mn:=(U.length:Int)) (mr:=(cC U fo)) (o:=gA) (w:=v_) (cQ.ext x_).mb (hT.ext (cQ.ext x_).below) aT ((cQ.ext x_).rv 1 rfl) yO (by exact Ps);ca L3 rfl (ec J<|ec J e0) nV (fun _ iU ⟨a6,c6,e_,EM,iH⟩=>⟨_,J,EM,⟨a6,c6,e_,(bj.rv iH (cQ.ext x_).mb)⟩⟩))<|lE J (fun _ v w'=>∃(a8:OA) (c8:Nat),v=.agg #[I (U.length:Int),sL a8 (gz (U.length:Int) (kn U fo)<|bP (U.length:Int) (cC U fo) gA) c8]∧RV cQ.gh w' (sL a8 (gz (U.length:Int) (kn U fo)<|bP (U.length:Int) (cC U fo) gA) c8) (gz (U.length:Int) (kn U fo)<|bP (U.length:Int) (cC U fo) gA)) 0 J J od J (fun v_ _ _ x_ _ h_=>let ⟨a9,c9,s6,oJ⟩:=h_;have jd:=(cQ.ext x_).put (it:=iL a9 (bP (U.length:Int) (cC U fo) gA) c9) rfl oJ;have C_:=zn (mn:=(U.length:Int)) (mr:=(kn U fo)) (l:=(bP (U.length:Int) (cC U fo) gA)) jd.mb aT (jd.rv 9 J) (jd.rv 0 J) (by exact AR) (by have h_:=uU Ps gA;omega);ca Vx rfl (ec J<|ec s6 e0) C_ (fun _ rn ⟨jH,jF,e_,O8,nB⟩=>⟨_,J,O8,⟨jH,jF,e_,(mJ J<|bj.rv nB jd.mb)⟩⟩))<|yq J J<|kq (fun _ _=>nc J J e1)<|bQ<|kq (fun _ _=>fa rj J J e1)<|zq<|ye<|yz ?_
  intro zL f1 _ J' _ _ fJ Ac
  have qp:=cQ.ext J'
  have s7:=(fJ 3 J).trans s1
  have s8:=(fJ 4 J).trans s2
  have s9:=(fJ 6 J).trans s3
  have eC:=fJ 7 J
  have fj:=fJ 8 J
  obtain⟨nY,nW,fT,sg⟩:=Ac 0 _ _ rfl
  let vH:=iL nY (gz (U.length:Int) (kn U fo) (bP (U.length:Int) (cC U fo) gA)) nW
  have kP:=qp.put (it:=vH) J sg
  have fS:=fJ 88 J
  refine j8<|bw kP 3 J bp J J fS fT J J J ?_
  let uh:=box gO #[.slice aC aD aB,sL aw U av,sL ay fo ax,sL a3 ([]:List cT) c3,.map (some dK),I (U.length:Int),sL nY (gz (U.length:Int) (kn U fo) (bP (U.length:Int) (cC U fo) gA)) nW,.map (some fV)] 142
  intro tP (rX:HI M w tP (vH::pa::n3::uh::bc))
  refine kz<|cV<|ai J eC<|k<|cI rX 1 J bp J fj au J<|aR oT J s7<|bq rX 12 J aS J J J<|k ?_
  have lA:HI M w tP ([uh,J0,J1,J8,J9,vH,bX fV ([]:List ((Int×Int)×Bool)),n3]++[pa,J6,J5,J4,J3,J2]):=rX.bZ [3,7,8,4,5,0,6,2,1,9,10,11,12,13] au J
  have Tw:=Iv (df:=gO) (aC:=aC) (aD:=aD) (aB:=aB) (aw:=aw) (av:=av) (U:=U) (ay:=ay) (ax:=ax) (fo:=fo) (eF:=a3) (eE:=c3) (sp:=([]:List cT)) (bC:=dK) (mp:=([]:KV)) (pn:=(U.length:Int)) (dp:=nY) (dm:=nW) (pr:=(gz (U.length:Int) (kn U fo)<|bP (U.length:Int) (cC U fo) gA)) (bK:=fV) (mq:=([]:List ((Int×Int)×Bool))) (mn:=(U.length:Int)) (bF:=a4) (bD:=c4) (mr:=(cC U fo)) (o:=gA) (w:=w) (w_:=tP) (r:=[pa,J6,J5,J4,J3,J2]) (M:=M) aT aT yO hT (by exact ho) (by exact dC) (by exact eD) (by exact fK) aj (by rfl) (by exact abD aj) aj (by exact B0 AR _) (by simp only[gj];omega) lA
  refine ca acM J (ec J<|ec J<|ec J e0) Tw ?_
  rintro _ uV ⟨o0,o1,o2,a12,qY,ka,j9,rfl,Dm,q0,q1⟩
  let BV:=box gO #[.slice aC aD aB,sL aw U av,sL ay fo ax,sL a12 o0 qY,.map (some dK),I (U.length:Int),sL ka o2 j9,.map (some fV)] 142
  let ug:=iL ka o2 j9
  let fL:=[ug,bX fV ([]:List ((Int×Int)×Bool)),n3,pa,J6,J5,J4,J3,J2]
  have kE:HI M w uV (BV::J0::J1::oL w 175 a12 o0 qY::cj dK o1::fL):=Dm
  refine bz<|aR rT J s7<|bq kE 12 J aS J J J<|ak (v:=I fC) J J<|aq<|sq<|az<|aR C0 J s7<|bq kE 12 J aS J J J<|k<|eql J J J J<|z<|nx<|cd (b:=decide (kd=7)) J J (fun b5=>?_)<|fun b5=>?_
  ·
   have p5:=dT b5
   refine rg<|aR pO J s7<|bq kE 12 J aS J J J<|ak (v:=I jU) J J<|aq<|rg<|ai J eC<|aR pO J s7<|bq kE 12 J aS J J J<|ai (v:=I jU) J J<|k ?_
   have yj:HI M w uV ([BV,J0,J1,oL w 175 a12 o0 qY,cj dK o1,ug,bX fV ([]:List ((Int×Int)×Bool))]++[n3,pa,J6,J5,J4,J3,J2]):=kE.bZ [0,1,2,3,4,5,6,7,8,9,10,11,12,13] au J
   have Tv:=mC (df:=gO) (aC:=aC) (aD:=aD) (aB:=aB) (aw:=aw) (av:=av) (U:=U) (ay:=ay) (ax:=ax) (fo:=fo) (eF:=a12) (eE:=qY) (sp:=o0) (bC:=dK) (mp:=o1) (pn:=(U.length:Int)) (dp:=ka) (dm:=j9) (pr:=o2) (bK:=fV) (mq:=([]:List ((Int×Int)×Bool))) (f_:=jU) (t_:=jU) (w:=w) (w_:=uV) (r:=[n3,pa,J6,J5,J4,J3,J2]) (M:=M) aT Bd Bd hT aj aj (by exact eD) (by exact dC) bo yj
   refine ca zu J (ec J<|ec J<|ec J e0) Tv ?_
   rintro _ yl ⟨o3,o4,o5,lU,lS,rfl,nn,q2,q3⟩
   let zd:=box gO #[.slice aC aD aB,sL aw U av,sL ay fo ax,sL lU o4 lS,.map (some dK),I (U.length:Int),sL ka o2 j9,.map (some fV)] 142
   have zf:HI M w yl (zd::J0::J1::oL w 175 lU o4 lS::cj dK o5::fL):=nn
   refine aR xU J s9<|k<|bw zf 10 J aS J J J J J J J ?_
   intro zK (ry:HI M w zK [zd,J0,J1,oL w 175 lU o4 lS,cj dK o5,ug,bX fV ([]:List ((Int×Int)×Bool)),n3,pa,J6,box fq #[I kd,I fC,I jU,I lG,I gA,.slice none 0 0,I o3,I (-1)] 33,J4,J3,J2])
   refine z<|aF<|cV<|ai J eC<|k<|nc J J<|aR lR J J<|bq ry 0 J nA J J J<|aR vw J s9<|k<|bw ry 10 J nA J J J J J J J ?_
   let vG:=box fq #[I kd,I fC,I jU,I lG,I gA,sL lU o4 lS,I o3,I (-1)] 33
   intro Kg (ze:HI M w Kg [zd,J0,J1,oL w 175 lU o4 lS,cj dK o5,ug,bX fV ([]:List ((Int×Int)×Bool)),n3,pa,J6,vG,J4,J3,J2])
   refine bz<|k<|cI ze 10 J bW J s9 au J<|k<|bw ze 11 J bW J J s8 J J J J ?_
   intro FT (qo:HI M w FT [zd,J0,J1,oL w 175 lU o4 lS,cj dK o5,ug,bX fV ([]:List ((Int×Int)×Bool)),n3,pa,J6,vG,box bL #[I kd,I fC,I jU,I lG,I gA,sL lU o4 lS,I o3,I (-1)] 33,J3,J2])
   refine ak (v:=I 0) J J<|aq<|rt<|iA qo 11 J bW J J J s8 J au ?_
   exact⟨o4,o3,(-1),lU,lS,J,qo.below,(qo.mu 3 J)⟩
  refine sk<|nx<|rg<|ai J eC<|aR pO J s7<|bq kE 12 J aS J J J<|ai (v:=I fC) J J<|k ?_
  have yj:HI M w uV ([BV,J0,J1,oL w 175 a12 o0 qY,cj dK o1,ug,bX fV ([]:List ((Int×Int)×Bool))]++[n3,pa,J6,J5,J4,J3,J2]):=kE.bZ [0,1,2,3,4,5,6,7,8,9,10,11,12,13] au J
  have Tv:=mC (df:=gO) (aC:=aC) (aD:=aD) (aB:=aB) (aw:=aw) (av:=av) (U:=U) (ay:=ay) (ax:=ax) (fo:=fo) (eF:=a12) (eE:=qY) (sp:=o0) (bC:=dK) (mp:=o1) (pn:=(U.length:Int)) (dp:=ka) (dm:=j9) (pr:=o2) (bK:=fV) (mq:=([]:List ((Int×Int)×Bool))) (f_:=jU) (t_:=fC) (w:=w) (w_:=uV) (r:=[n3,pa,J6,J5,J4,J3,J2]) (M:=M) aT Bd GA hT (by simp only[gj] at *;omega) aj (by exact eD) (by exact dC) bo yj
  refine ca zu J (ec J<|ec J<|ec J e0) Tv ?_
  rintro _ yl ⟨o3,o4,o5,lU,lS,rfl,nn,q2,q3⟩
  let yi:=box gO #[.slice aC aD aB,sL aw U av,sL ay fo ax,sL lU o4 lS,.map (some dK),I (U.length:Int),sL ka o2 j9,.map (some fV)] 142
  let yh:=oL w 175 lU o4 lS
  have zf:HI M w yl (yi::J0::J1::yh::cj dK o5::fL):=nn
  refine aR xU J s9<|k<|bw zf 10 J aS J J J J J J J ?_
  intro zK (ry:HI M w zK [yi,J0,J1,yh,cj dK o5,ug,bX fV ([]:List ((Int×Int)×Bool)),n3,pa,J6,box fq #[I kd,I fC,I jU,I lG,I gA,.slice none 0 0,I o3,I (-1)] 33,J4,J3,J2])
  refine z<|aF<|cV<|ai J eC<|k<|nc J J<|aR lR J J<|bq ry 0 J nA J J J<|aR vw J s9<|k<|bw ry 10 J nA J J J J J J J ?_
  let EJ:=box fq #[I kd,I fC,I jU,I lG,I gA,sL lU o4 lS,I o3,I (-1)] 33
  intro Kg (ze:HI M w Kg [yi,J0,J1,yh,cj dK o5,ug,bX fV ([]:List ((Int×Int)×Bool)),n3,pa,J6,EJ,J4,J3,J2])
  refine bz<|k<|cI ze 10 J bW J s9 au J<|k<|bw ze 11 J bW J J s8 J J J J ?_
  intro FT (qo:HI M w FT [yi,J0,J1,yh,cj dK o5,ug,bX fV ([]:List ((Int×Int)×Bool)),n3,pa,J6,EJ,box bL #[I kd,I fC,I jU,I lG,I gA,sL lU o4 lS,I o3,I (-1)] 33,J3,J2])
  refine ak (v:=I 0) J J<|aq<|rt<|iA qo 11 J bW J J J s8 J au ?_
  exact⟨o4,o3,(-1),lU,lS,J,qo.below,(qo.mu 3 J)⟩
 have p4:=dF b4
 refine rg<|k<|eql J J J J<|ak (v:=.bool (decide (kd=7))) J J<|z<|nx<|cd (b:=decide (kd=7)) J J (fun b5=>?_)<|fun b5=>?_
 ·
  have p5:=dT b5
  refine az<|k<|cI dD 10 J ej J s0 au J<|k ?_
  have ff:=Bo (U:=U) (fo:=fo) (aC:=aC) (aD:=aD) (aB:=aB) dD.mb (dD.rv 4 J) (dD.rv 5 J) (by exact ho) aj (by exact eD)<|by exact fK
  refine ca Qp J (ec J e0) ff ?_
  rintro _ w9 ⟨a4,c4,rfl,mA,fB⟩
  have cY:=dD.ext mA
  let tL:=iL a4 (cC U fo) c4
  have dW:=cY.put (it:=tL) J fB
  refine k<|al dW bp ?_
  intro Av dP og (dQ:HI M w dP (box Av #[I 0,.slice none 0 0] 26::tL::J7::bc))
  refine k<|bw dQ 0 J bp J J J J J J J ?_
  let rW:=box Av #[I (U.length:Int),sL a4 (cC U fo) c4] 26
  intro eB (cQ:HI M w eB (rW::tL::J7::bc))
  refine aq<|sq<|ma [.r,.r,.r,.r,.r,.r,.r,.r,.r,.r,.r,.r,.e] (fun _=>True) J aU (fun _ _=>trivial)<|yq J J<|kq (fun _ _=>mv (v:=pV gO 0) J J e1)<|bQ<|kq (fun _ _=>mv (v:=pV gO 0) J J e1)<|bQ<|kq (fun _ _=>nc J J e1)<|bQ<|kq (fun _ _=>fa rj J J e1)<|bQ<|kq (fun _ x_=>cI (cQ.ext x_) 2 J bp J J au J e1)<|bQ<|kq (fun _ x_=>cI (cQ.ext x_) 0 J bp J J au J e1)<|bQ<|kq (fun _ _=>fa oT J s1 e1)<|bQ<|kq (fun _ x_=>lx (cQ.ext x_) 11 J aS J J J e1)<|zq<|yu J (fun _ v w'=>∃(a5:OA) (c5:Nat),v=sL a5 (bP (U.length:Int) (cC U fo) gA) c5∧RV cQ.gh w' (sL a5 (bP (U.length:Int) (cC U fo) gA) c5) (bP (U.length:Int) (cC U fo) gA)) J od J (fun v_ _ x_ _=>have nV:=u2 (mn:=(U.length:Int)) (mr:=(cC U fo)) (o:=gA) (w:=v_) (cQ.ext x_).mb (hT.ext (cQ.ext x_).below) aT ((cQ.ext x_).rv 1 rfl) yO (by exact Ps);ca L3 rfl (ec J<|ec J e0) nV (fun _ iU ⟨a6,c6,e_,EM,iH⟩=>⟨_,J,EM,⟨a6,c6,e_,(bj.rv iH (cQ.ext x_).mb)⟩⟩))<|lE J (fun _ v w'=>∃(a8:OA) (c8:Nat),v=.agg #[I (U.length:Int),sL a8 (gz (U.length:Int) (kn U fo)<|bP (U.length:Int) (cC U fo) gA) c8]∧RV cQ.gh w' (sL a8 (gz (U.length:Int) (kn U fo)<|bP (U.length:Int) (cC U fo) gA) c8) (gz (U.length:Int) (kn U fo)<|bP (U.length:Int) (cC U fo) gA)) 0 J J od J (fun v_ _ _ x_ _ h_=>let ⟨a9,c9,s6,oJ⟩:=h_;have jd:=(cQ.ext x_).put (it:=iL a9 (bP (U.length:Int) (cC U fo) gA) c9) rfl oJ;have C_:=zn (mn:=(U.length:Int)) (mr:=(kn U fo)) (l:=(bP (U.length:Int) (cC U fo) gA)) jd.mb aT (jd.rv 9 J) (jd.rv 0 J) (by exact AR) (by have h_:=uU Ps gA;omega);ca Vx rfl (ec J<|ec s6 e0) C_ (fun _ rn ⟨jH,jF,e_,O8,nB⟩=>⟨_,J,O8,⟨jH,jF,e_,(mJ J<|bj.rv nB jd.mb)⟩⟩))<|yq J J<|kq (fun _ _=>nc J J e1)<|bQ<|kq (fun _ _=>fa rj J J e1)<|zq<|ye<|yz ?_
  intro zL f1 _ J' _ _ fJ Ac
  have qp:=cQ.ext J'
  have s7:=(fJ 3 J).trans s1
  have s8:=(fJ 4 J).trans s2
  have s9:=(fJ 6 J).trans s3
  have eC:=fJ 7 J
  have fj:=fJ 8 J
  obtain⟨nY,nW,fT,sg⟩:=Ac 0 _ _ rfl
  let vF:=iL nY (gz (U.length:Int) (kn U fo) (bP (U.length:Int) (cC U fo) gA)) nW
  have kP:=qp.put (it:=vF) J sg
  have fS:=fJ 88 J
  refine j8<|bw kP 3 J bp J J fS fT J J J ?_
  let pR:=box gO #[.slice aC aD aB,sL aw U av,sL ay fo ax,sL a3 ([]:List cT) c3,.map (some dK),I (U.length:Int),sL nY (gz (U.length:Int) (kn U fo) (bP (U.length:Int) (cC U fo) gA)) nW,.map (some fV)] 142
  intro tP (rX:HI M w tP (vF::rW::tL::pR::bc))
  refine kz<|cV<|ai J eC<|k<|cI rX 1 J bp J fj au J<|aR oT J s7<|bq rX 12 J aS J J J<|k ?_
  have lA:HI M w tP ([pR,J0,J1,J8,J9,vF,bX fV ([]:List ((Int×Int)×Bool)),tL]++[rW,J6,J5,J4,J3,J2]):=rX.bZ [3,7,8,4,5,0,6,2,1,9,10,11,12,13] au J
  have Tw:=Iv (df:=gO) (aC:=aC) (aD:=aD) (aB:=aB) (aw:=aw) (av:=av) (U:=U) (ay:=ay) (ax:=ax) (fo:=fo) (eF:=a3) (eE:=c3) (sp:=([]:List cT)) (bC:=dK) (mp:=([]:KV)) (pn:=(U.length:Int)) (dp:=nY) (dm:=nW) (pr:=(gz (U.length:Int) (kn U fo)<|bP (U.length:Int) (cC U fo) gA)) (bK:=fV) (mq:=([]:List ((Int×Int)×Bool))) (mn:=(U.length:Int)) (bF:=a4) (bD:=c4) (mr:=(cC U fo)) (o:=gA) (w:=w) (w_:=tP) (r:=[rW,J6,J5,J4,J3,J2]) (M:=M) aT aT yO hT (by exact ho) (by exact dC) (by exact eD) (by exact fK) aj (by rfl) (by exact abD aj) aj (by exact B0 AR _) (by simp only[gj];omega) lA
  refine ca acM J (ec J<|ec J<|ec J e0) Tw ?_
  rintro _ uV ⟨o0,o1,o2,a12,qY,ka,j9,rfl,Dm,q0,q1⟩
  let Dl:=box gO #[.slice aC aD aB,sL aw U av,sL ay fo ax,sL a12 o0 qY,.map (some dK),I (U.length:Int),sL ka o2 j9,.map (some fV)] 142
  let zc:=iL ka o2 j9
  let lz:=[zc,bX fV ([]:List ((Int×Int)×Bool)),tL,rW,J6,J5,J4,J3,J2]
  have kE:HI M w uV (Dl::J0::J1::oL w 175 a12 o0 qY::cj dK o1::lz):=Dm
  refine bz<|aR rT J s7<|bq kE 12 J aS J J J<|ak (v:=I fC) J J<|aq<|sq<|az<|aR C0 J s7<|bq kE 12 J aS J J J<|k<|eql J J J J<|aq<|oA J J b5<|rg<|aR pO J s7<|bq kE 12 J aS J J J<|ak (v:=I jU) J J<|aq<|rg<|ai J eC<|aR pO J s7<|bq kE 12 J aS J J J<|ai (v:=I jU) J J<|k ?_
  have yj:HI M w uV ([Dl,J0,J1,oL w 175 a12 o0 qY,cj dK o1,zc,bX fV ([]:List ((Int×Int)×Bool))]++[tL,rW,J6,J5,J4,J3,J2]):=kE.bZ [0,1,2,3,4,5,6,7,8,9,10,11,12,13] au J
  have Tv:=mC (df:=gO) (aC:=aC) (aD:=aD) (aB:=aB) (aw:=aw) (av:=av) (U:=U) (ay:=ay) (ax:=ax) (fo:=fo) (eF:=a12) (eE:=qY) (sp:=o0) (bC:=dK) (mp:=o1) (pn:=(U.length:Int)) (dp:=ka) (dm:=j9) (pr:=o2) (bK:=fV) (mq:=([]:List ((Int×Int)×Bool))) (f_:=jU) (t_:=jU) (w:=w) (w_:=uV) (r:=[tL,rW,J6,J5,J4,J3,J2]) (M:=M) aT Bd Bd hT (by simp only[gj] at *;omega) aj (by exact eD) (by exact dC) bo yj
  refine ca zu J (ec J<|ec J<|ec J e0) Tv ?_
  rintro _ yl ⟨o3,o4,o5,lU,lS,rfl,nn,q2,q3⟩
  let yg:=box gO #[.slice aC aD aB,sL aw U av,sL ay fo ax,sL lU o4 lS,.map (some dK),I (U.length:Int),sL ka o2 j9,.map (some fV)] 142
  let Dk:=oL w 175 lU o4 lS
  have zf:HI M w yl (yg::J0::J1::Dk::cj dK o5::lz):=nn
  refine aR xU J s9<|k<|bw zf 10 J aS J J J J J J J ?_
  intro zK (ry:HI M w zK [yg,J0,J1,Dk,cj dK o5,zc,bX fV ([]:List ((Int×Int)×Bool)),tL,rW,J6,box fq #[I kd,I fC,I jU,I lG,I gA,.slice none 0 0,I o3,I (-1)] 33,J4,J3,J2])
  refine z<|aF<|cV<|ai J eC<|k<|nc J J<|aR lR J J<|bq ry 0 J nA J J J<|aR vw J s9<|k<|bw ry 10 J nA J J J J J J J ?_
  let Dj:=box fq #[I kd,I fC,I jU,I lG,I gA,sL lU o4 lS,I o3,I (-1)] 33
  intro Kg (ze:HI M w Kg [yg,J0,J1,Dk,cj dK o5,zc,bX fV ([]:List ((Int×Int)×Bool)),tL,rW,J6,Dj,J4,J3,J2])
  refine bz<|k<|cI ze 10 J bW J s9 au J<|k<|bw ze 11 J bW J J s8 J J J J ?_
  intro FT (qo:HI M w FT [yg,J0,J1,Dk,cj dK o5,zc,bX fV ([]:List ((Int×Int)×Bool)),tL,rW,J6,Dj,box bL #[I kd,I fC,I jU,I lG,I gA,sL lU o4 lS,I o3,I (-1)] 33,J3,J2])
  refine ak (v:=I 0) J J<|aq<|rt<|iA qo 11 J bW J J J s8 J au ?_
  exact⟨o4,o3,(-1),lU,lS,J,qo.below,(qo.mu 3 J)⟩
 refine sk<|aF<|cV<|ai (v:=pV gO 0) J J<|k<|nc J J<|aR lR J J<|bq dD 0 J nA J J J<|aR vw J s3<|k<|bw dD 7 J nA J J J J J J J ?_
 let Di:=box fq #[I kd,I fC,I jU,I lG,I gA,sL a3 ([]:List cT) c3,I (-1),I (-1)] 33
 intro w9 (cY:HI M w w9 [J7,J8,J9,bX fV ([]:List ((Int×Int)×Bool)),J0,J1,J6,Di,J4,J3,J2])
 refine bz<|k<|cI cY 7 J bW J s3 au J<|k<|bw cY 8 J bW J J s2 J J J J ?_
 intro dP (dW:HI M w dP [J7,J8,J9,bX fV ([]:List ((Int×Int)×Bool)),J0,J1,J6,Di,box bL #[I kd,I fC,I jU,I lG,I gA,sL a3 ([]:List cT) c3,I (-1),I (-1)] 33,J3,J2])
 refine ak (v:=I 0) J J<|aq<|rt<|iA dW 8 J bW J J J s2 J au ?_
 exact⟨([]:List cT),(-1),(-1),a3,c3,J,dW.below,(dW.mu 1 J)⟩
theorem PE (hM:eU M w) (hT:fW 0 w) (dG:cL M w aw av U) (gl:cL M w ay ax fo) (mZ:aL lv) (ho:hG U) (dC:U.length≤64) (eD:fo.length=U.length) (fK:∀x∈fo,x<((U.length:Nat):Int)) (LK:lv=1∨lv=2∨lv=3):Calls aJ 29 #[.agg #[.slice aC aD aB,sL aw U av,sL ay fo ax],I lv] w (cA fun v w'=>∃(k_:Int) (r_:Int) (a_:Int) (b_:Int) (o_:Int) (ir:List cT) (f_:Int) (s_:Int) (a0:OA) (c0:Nat),v=.tuple #[.agg #[I k_,I r_,I a_,I b_,I o_,sL a0 ir c0,I f_,I s_],I (fh U fo lv)]∧Ext w w'∧cL M w' a0 c0 ir∧ql (je U fo lv) k_ r_ a_ b_ o_):=by
 refine dH 23 Tryz.func29 J J J hM fun f0 ha H=>?_
 let J0:=iL aw U av
 have H0:=H.put (it:=J0) J<|by rw[bS];exact dG
 let J1:=iL ay fo ax
 have H1:=H0.put (it:=J1) J<|by rw[aH rfl,bS];exact gl
 have i0:f0 0=.agg #[.slice aC aD aB,sL aw U av,sL ay fo ax]:=ha 0 bm
 have i1:f0 1=I lv:=ha 1 bm
 refine az<|k<|bx H1 J i0 ?_
 intro aZ w0 bY (H2:HI M w w0 [box aZ #[.slice aC aD aB,sL aw U av,sL ay fo ax] 47,J1,J0])
 let J2:=box aZ #[.slice aC aD aB,sL aw U av,sL ay fo ax] 47
 refine k<|al H2 bW ?_
 intro ba w1 dy (H3:HI M w w1 [box ba #[I 0,I 0,I 0,I 0,I 0,.slice none 0 0,I 0,I 0] 33,J2,J1,J0])
 let J3:=box ba #[I 0,I 0,I 0,I 0,I 0,.slice none 0 0,I 0,I 0] 33
 refine ak (v:=I 0) J J<|bz<|k<|cI H3 1 J ej J J au J<|ai J i1<|k ?_
 have bT:=Mw (U:=U) (fo:=fo) (lv:=lv) (aC:=aC) (aD:=aD) (aB:=aB) H3.mb (hT.ext H3.below) (H3.rv 3 J) (H3.rv 2 J) mZ (by exact ho) (by exact dC) (by exact eD) (by exact fK)<|by exact LK
 refine ca acU J (ec J<|ec J e0) bT ?_
 rintro _ w2 ⟨o0,o1,o2,o3,o4,o5,o6,rfl,fe,q0⟩
 have H4:=H3.ext fe
 refine ai (v:=.tuple #[.agg #[I o0,I o1,I o2,I o3,I o4,.slice none 0 0,I o5,I o6],I (fh U fo lv)]) J J<|k<|xt J J J<|k<|xt J J J<|k<|al H4 bW ?_
 intro bL w3 fA (H5:HI M w w3 [box bL #[I 0,I 0,I 0,I 0,I 0,.slice none 0 0,I 0,I 0] 33,J3,J2,J1,J0])
 refine k<|bw H5 0 J bW J J J J J J J ?_
 let J4:=box bL #[I o0,I o1,I o2,I o3,I o4,.slice none 0 0,I o5,I o6] 33
 intro w4 (H6:HI M w w4 [J4,J3,J2,J1,J0])
 refine ak (v:=I (fh U fo lv)) J J<|aq<|sq<|az<|ai (v:=I (fh U fo lv)) J J<|k<|neq J J J J<|z<|nx<|cd (b:=!decide ((fh U fo lv)=0)) J J (fun b0=>?_)<|fun b0=>?_
 ·
  have p0:=dF<|fX b0
  refine az<|k<|bd (v:=.agg #[I 0,I 0,I 0,I 0,I 0,.slice none 0 0,I 0,I 0]) J eI (fun _=>aU)<|ai (v:=I (fh U fo lv)) J J<|k<|bw H6 1 J bW J J J J J J J ?_
  intro w5 (H7:HI M w w5 [J4,J3,J2,J1,J0])
  refine ak (v:=I (fh U fo lv)) J J<|aq<|rt<|aK<|iA H7 1 J bW J J J J J au ?_
  exact⟨0,0,0,0,0,([]:List cT),0,0,none,0,J,H7.below,(eH _ _),(by exact ui (HQ<|dF<|fX ‹(!decide (fh U fo lv=0))=true›) Nv)⟩
 have p0:=dT<|fl b0
 refine sk<|cV<|k<|cI H6 2 J ej J J au J<|k<|cI H6 0 J bW J J au J<|k ?_
 have dq:=Uu (U:=U) (fo:=fo) (kd:=o0) (fC:=o1) (jU:=o2) (lG:=o3) (gA:=o4) (aC:=aC) (aD:=aD) (aB:=aB) (G9:=none) (Gc:=0) (G0:=0) (SQ:=(I o5)) (Rc:=(I o6)) H6.mb (hT.ext H6.below) (H6.rv 4 J) (H6.rv 3 J) (by exact q0.1.k) (by exact q0.1.r) (by exact q0.1.a) (by exact q0.1.b) (by exact q0.1.o) (by exact ho) (by exact dC) (by exact eD) (by exact fK)<|by exact ZG q0 (dT<|fl ‹(!decide (fh U fo lv=0))=false›)
 refine ca air J (ec J<|ec J e0) dq ?_
 rintro _ w5 ⟨o7,o8,o9,a0,c0,rfl,iz,cE⟩
 have H7:=H6.ext iz
 have H8:=eu H7 cE
 refine k<|xt J J J<|k<|xt J J J<|k<|bw H8 2 J bW J J J J J J J ?_
 intro w6 (H9:HI M w w6 [iL a0 o7 c0,J4,box ba #[I o0,I o1,I o2,I o3,I o4,sL a0 o7 c0,I o8,I o9] 33,J2,J1,J0])
 refine ak (v:=I 0) J J<|aq<|rt<|iA H9 2 J bW J J J J J au ?_
 have e8:(0:Int)=fh U fo lv:=by exact(dT<|fl ‹(!decide (fh U fo lv=0))=false›).symm
 have bu:=iD (fun (lF:Int)=>(.tuple #[.agg #[I o0,I o1,I o2,I o3,I o4,.slice a0 o7.length c0,I o8,I o9],I lF]:Value)) e8
 exact⟨o0,o1,o2,o3,o4,o7,o8,o9,a0,c0,bu,H9.below,(H9.gm 0 J),(by exact q0)⟩
theorem aif:cH aJ 91:=cN Tryz.func91
theorem aih:cH aJ 90:=cN Tryz.func90
theorem Pf (hM:eU M w) (SF:cL M w wD wB a) (CT:cL M w wC wA b) (tX:a.length≤b.length) (ahM:a.length≤1000000000):Calls aJ 91 #[sL wD a wB,sL wC b wA] w (cA fun v w'=>v=.bool (oP a b)∧Ext w w'):=by
 refine dH 22 Tryz.func91 J J J hM fun f0 ha H=>?_
 have H0:=eu H SF
 have H1:=eu H0 CT
 have ahl:=bl SF
 have ahk:=bl CT
 have i0:f0 0=sL wD a wB:=ha 0 bm
 have i1:f0 1=sL wC b wA:=ha 1 bm
 refine az<|ak (v:=.bool false) J J<|aq<|sq<|az<|ai J i0<|k<|ef J J ig<|ai (v:=I 0) J J<|aq<|bk<|lp (fun m f w'=>∃(j_:Nat),m=a.length-j_∧f 1=sL wC b wA∧f 7=sL wD a wB∧f 8=I (a.length:Int)∧f 9=I (j_:Int)∧HI M w w' [iL wC b wA,iL wD a wB]∧(j_≤a.length)∧(∀q,q<j_→JD a b q=false)) _ ⟨0,J,i1,J,J,(bN J),H1,aj,(by intro q h;omega)⟩ ?_
 rintro _ f0 w0 ⟨j_,rfl,s0,s1,s2,s3,H2,pk,hs⟩
 refine az<|k<|lss J J s3 s2<|aq<|sq<|cd (b:=decide ((j_:Int)<(a.length:Int))) J J (fun b0=>?_)<|fun b0=>?_
 ·
  have p0:=dT b0
  refine sk<|nx<|sq<|bk<|az<|ai J s3<|k<|ia (H2.rv 1 J) J J s1 s3 aj ig ft ?_
  intro iE x0 aI cD
  refine k<|yF cD.w ft J J<|ak (v:=I (j_:Int)) J J<|ak (v:=ag x0) J J<|bz<|ai (v:=ag x0) J J<|ai J s0<|ai (v:=I (j_:Int)) J J<|k<|ia (H2.rv 0 J) J J J J aj ig ft ?_
  intro rb x1 bV gG
  refine k<|yF gG.w ft J J<|k<|Dc x0 x1 J J J J<|k<|neU (x0 &&& x1) (0#64) J J J J<|z<|nx<|cd (b:=!decide ((x0 &&& x1)=(0#64))) J J (fun b1=>?_)<|fun b1=>?_
  ·
   have p1:=dF<|fX b1
   refine az<|ak (v:=.bool true) J J<|aq<|rt<|bU<|aK<|ee<|bU<|aK<|r1 J J ?_
   exact⟨amz Value.bool (by exact adF (j:=j_) aj (by simp only[JD,jo aI,jo bV,b0,(fX b1),BL])),H2.below⟩
  have p1:=dT<|fl b1
  refine sk<|aF<|nx<|rg<|k<|add J J s3 J aT<|ai (v:=I ((j_:Int)+1)) J J<|z<|bG _ ?_ ⟨(j_+1),J,s0,s1,s2,(bN J),H2,aj,(by exact su hs (by simp only[JD,jo aI,jo bV,b0,(fl b1),BL]))⟩
  omega
 have p0:=dF b0
 refine ex<|aV<|bf<|bh<|cV<|ak (v:=.bool false) J J<|aq<|rt<|r1 J J ?_
 exact⟨amz Value.bool (by exact Z' hs aj),H2.below⟩
theorem Pg {My:Nat} {WK:TypeId} {Mx:Nat} {WJ:TypeId} {Ws:OA} {V9:Nat} {lf:List bt} (hM:eU M w) (acq:aL x_) (gk:aL mn) (gB:cL M w bF bD mr) (ahY:cL M w Ws V9 lf) (ah8:w.heap[My]? =some (.cells #[I mn,sL bF mr bD] WK (0,0))∧¬M My) (ah7:w.heap[Mx]? =some (.cells #[sL Ws lf V9] WJ (0,0))∧¬M Mx) (b9:bI mn mr=true) (mW:0≤x_∧x_<mn) (ahL:lf.length=words mn):Calls aJ 90 #[I x_,.pointer (some ⟨My,0,none⟩),.pointer (some ⟨Mx,0,none⟩)] w (cA fun v w'=>v=.bool (!(oP (mr.getD x_.toNat []) lf))∧Ext w w'):=by
 refine dH 13 Tryz.func90 J J J hM fun f0 ha H=>?_
 have H0:=eu H gB
 have H1:=eu H0 ahY
 have i0:f0 0=I x_:=ha 0 bm
 have H2:=H1.put (it:=ro My #[I mn,sL bF mr bD] WK) J<|by rw[aH rfl,aH rfl,bS];exact ah8
 have i1:f0 1=pV My 0:=ha 1 bm
 have H3:=H2.put (it:=ro Mx #[sL Ws lf V9] WJ) J<|by rw[aH rfl,aH rfl,aH rfl,bS];exact ah7
 have i2:f0 2=pV Mx 0:=ha 2 bm
 have ala:=(bR b9).1
 refine az<|ak (v:=.bool false) J J<|aq<|sq<|yT J aU<|kq (fun _ _=>fa iw J i1 e1)<|kq (fun _ x_=>lr (H3.ext x_) 1 J kX J J J e1)<|kq (fun _ _=>mv J i0 e1)<|mR (H3.rv 3 J) J J J J aj ie dt ?_
 intro iE x0 aI cD
 refine F3 cD.w dt J J ?_
 intro a0 c0 cE
 have H4:=eu H3 cE
 refine kq (fun _ x_=>lr (H4.ext x_) 1 J dt J i2 J e1)<|kq (v:=.bool (oP x0 lf)) (fun v_ x_=>?_) ?_
 ·
  have cc:=Pf (a:=x0) (b:=lf) (w:=v_) (H4.ext x_).mb ((H4.ext x_).rv 0 rfl) ((H4.ext x_).rv 3 rfl) (by rw[ahL,nH b9 aI];exact amD _)<|by exact(bR b9).2.1 _ (dN aI)
  exact ca aif J (ec J<|ec J e0) cc fun _ _ h_=>e2 h_
 refine kq (fun _ _=>kg J J e1)<|kq (fun _ _=>jy (v:=.bool (!(oP x0 lf))) J J e1)<|zq ?_
 intro w0 bY
 have H5:=H4.ext bY
 refine nx<|rt<|r1 J J ?_
 exact⟨amz Value.bool (by rw[show mr.getD x_.toNat []=x0 from by rw[im,aI];rfl]),H5.below⟩
theorem ym {FN:OA} {FG:Nat} {nd:aA} (hM:eU M w) (hT:fW 0 w) (gk:aL mn) (gB:cL M w bF bD mr) (acv:cL M w FN FG nd) (b9:bI mn mr=true) (alG:nd.length≤8192):Calls aJ 56 #[.agg #[I mn,sL bF mr bD],sL FN nd FG] w (cA fun v w'=>∃(a0:OA) (c0:Nat),v=.tuple #[.slice a0 ((dE mn mr nd).1).length c0,I ((dE mn mr nd).2)]∧Ext w w'∧bj M 3 w ((dE mn mr nd).1) (.slice a0 ((dE mn mr nd).1).length c0) w'):=by
 refine dH 76 Tryz.func56 J J J hM fun f0 ha H=>?_
 let J0:=iL bF mr bD
 have H0:=H.put (it:=J0) J<|by rw[bS];exact gB
 let J1:=iL FN nd FG
 have H1:=H0.put (it:=J1) J<|by rw[aH rfl,bS];exact acv
 have np:=bl gB
 have ak4:=bl acv
 have i0:f0 0=.agg #[I mn,sL bF mr bD]:=ha 0 bm
 have i1:f0 1=sL FN nd FG:=ha 1 bm
 have I1:=(bR b9).2.2.1
 have hw_:words mn≤64:=by have h_:=(bR b9).2.2.1;unfold words;omega
 have ahe:=FX b9
 refine az<|k<|bx H1 J i0 ?_
 intro aZ w0 bY (H2:HI M w w0 [box aZ #[I mn,sL bF mr bD] 26,J1,J0])
 let J2:=box aZ #[I mn,sL bF mr bD] 26
 refine ak (v:=.slice none 0 0) J J<|ak (v:=I 0) J J<|bz<|aR km J J<|bq H2 0 J aS J J J<|k ?_
 have bT:=Dy (n:=mn) H2.mb gk aj
 refine ca Qk J (ec J e0) bT ?_
 rintro _ w1 ⟨a0,c0,rfl,dy,cE⟩
 have H3:=H2.eS cE
 refine k<|al H3 dt ?_
 let bc:=[J2,J1,J0]
 intro ba w2 fe (H4:HI M w w2 (box ba #[.slice none 0 0] 144::oL w 151 a0 (eb mn) c0::bc))
 refine k<|bw H4 0 J dt J J J J J J J ?_
 intro w3 (H5:HI M w w3 (box ba #[sL a0 (eb mn) c0] 144::oL w 151 a0 (eb mn) c0::bc))
 refine aq<|sq<|az<|ai J i1<|k<|ef J J cS<|ai (v:=I 0) J J<|aq<|bk<|lp (fun m f w'=>∃(j_:Nat) (ve:List bt) (a1:OA) (c1:Nat),m=nd.length-j_∧f 1=sL FN nd FG∧f 2=pV aZ 0∧f 6=pV ba 0∧f 16=sL FN nd FG∧f 17=I (nd.length:Int)∧f 18=I (j_:Int)∧HI M w w' (box ba #[sL a1 ve c1] 144::oL w 151 a1 ve c1::bc)∧(j_≤nd.length)∧(Bx mn ve)∧(rh mn nd (eb mn)=rh mn (nd.drop j_) ve)) _ ⟨0,(eb mn),a0,c0,J,i1,J,J,J,J,(bN J),H5,aj,(by exact Zh),(by rw[ao'])⟩ ?_
 rintro _ f0 w4 ⟨j_,ve,a1,c1,rfl,s0,s1,s2,s3,s4,s5,H6,pk,hs,hb⟩
 refine az<|k<|lss J J s5 s4<|aq<|sq<|cd (b:=decide ((j_:Int)<(nd.length:Int))) J J (fun b0=>?_)<|fun b0=>?_
 ·
  have p0:=dT b0
  refine sk<|nx<|sq<|bk<|sq ?_
  have HB:=hs.1
  refine rg<|k<|ia (H6.rv 3 J) J J s3 s5 aj cS aS ?_
  intro iE x0 aI cD
  refine k<|mV cD.w aS J J ?_
  intro ep
  refine ak (v:=I x0) J J<|aq<|sq<|az<|ai (v:=I x0) J J<|k<|lss J J J J<|ai (v:=.bool (decide (x0<0))) J J ?_
  rcases bE (decide (x0<0)) with b1|b1
  ·
   have p1:=dT b1
   refine aX J J J b1<|aX J J J b1<|aX J J J b1<|aX J J J b1<|k<|aN J J J J b1 J<|ai (v:=.bool true) J J<|aX J J J J<|aX J J J J<|aX J J J J<|k<|aN J J J J J J<|aq<|oA J J J<|az<|ak (v:=.slice none 0 0) J J<|ak (v:=I 1) J J<|aq<|rt<|aK<|bU<|aK<|ee<|bU<|aK ?_
   have yS:=Kp (rs:=mr) hb aI<|.inl aj
   refine r2 J J J ?_
   have e0:([]:aA)=(dE mn mr nd).1:=by rw[yS]
   have e1:(1:Int)=(dE mn mr nd).2:=by rw[yS]
   have bu:=ny (fun (cq:aA) (dX:Int)=>(.tuple #[.slice none cq.length 0,I dX]:Value)) e0 e1
   exact⟨none,0,bu,H6.below,(amz (fun (x_:aA)=>bj _ _ _ x_ (.slice none x_.length 0) _) e0).mp (fU H6.below)⟩
  have p1:=dF b1
  refine aQ J J J b1<|mv (v:=I x0) J J<|aQ J J J b1<|fa km J s1<|aQ J J J b1<|lx H6 2 J aS J J J<|aQ J J J b1<|geq J J J J<|k<|cZ J J J J b1 J<|ai (v:=.bool (decide (mn≤x0))) J J ?_
  rcases bE (decide (mn≤x0)) with b2|b2
  ·
   have p2:=dT b2
   refine aX J J J b2<|aX J J J b2<|aX J J J b2<|k<|aN J J J J b2 J<|aq<|oA J J J<|az<|ak (v:=.slice none 0 0) J J<|ak (v:=I 1) J J<|aq<|rt<|aK<|bU<|aK<|ee<|bU<|aK ?_
   have yS:=Kp (rs:=mr) hb aI<|.inr (.inl aj)
   refine r2 J J J ?_
   have e0:([]:aA)=(dE mn mr nd).1:=by rw[yS]
   have e1:(1:Int)=(dE mn mr nd).2:=by rw[yS]
   have bu:=ny (fun (cq:aA) (dX:Int)=>(.tuple #[.slice none cq.length 0,I dX]:Value)) e0 e1
   exact⟨none,0,bu,H6.below,(amz (fun (x_:aA)=>bj _ _ _ x_ (.slice none x_.length 0) _) e0).mp (fU H6.below)⟩
  have p2:=dF b2
  refine aQ J J J b2<|lx H6 0 J dt J s2 J<|aQ J J J b2<|mv (v:=I x0) J J<|aQ J J J b2 ?_
  have H7:=H6.freeze 1 J
  have dq:=zQ (r:=ve) (i:=x0) H7.mb (H7.rv 1 J) ep
  refine ca L1 J (ec J<|ec J e0) dq ?_
  rintro _ w5 ⟨rfl,fA⟩
  have H8:=H6.ext fA
  refine k<|cZ J J J J b2 J<|z<|nx<|cd (b:=fm ve x0) J J (fun b3=>?_)<|fun b3=>?_
  ·
   refine az<|ak (v:=.slice none 0 0) J J<|ak (v:=I 1) J J<|aq<|rt<|aK<|bU<|aK<|ee<|bU<|aK ?_
   have yS:=Kp (rs:=mr) hb aI<|.inr (.inr bo)
   refine r2 J J J ?_
   have e0:([]:aA)=(dE mn mr nd).1:=by rw[yS]
   have e1:(1:Int)=(dE mn mr nd).2:=by rw[yS]
   have bu:=ny (fun (cq:aA) (dX:Int)=>(.tuple #[.slice none cq.length 0,I dX]:Value)) e0 e1
   exact⟨none,0,bu,H8.below,(amz (fun (x_:aA)=>bj _ _ _ x_ (.slice none x_.length 0) _) e0).mp (fU H8.below)⟩
  refine sk<|nx<|rg<|bq H8 0 J dt J s2 J<|ai (v:=I x0) J J<|k ?_
  have H9:=H8.freeze 1 J
  have fP:=ur (r:=ve) (i:=x0) H9.mb (H9.rv 1 J) ep aj
  refine ca Fs J (ec J<|ec J e0) fP ?_
  rintro _ w6 ⟨a2,c2,rfl,iz,ei⟩
  have dz:=H9.eS ei
  refine k<|bw dz 1 J dt J J s2 J J J J ?_
  intro w7 (cB:HI M w w7 (oL w 151 a2 (eo ve x0) c2::box ba #[sL a2 (eo ve x0) c2] 144::iL a1 ve c1::bc))
  refine z<|aF<|nx<|rg<|k<|add J J s5 J aT<|ai (v:=I ((j_:Int)+1)) J J<|z ?_
  have dx:HI M w w7 (box ba #[sL a2 (eo ve x0) c2] 144::oL w 151 a2 (eo ve x0) c2::bc):=cB.bZ [1,0,3,4,5] au J
  refine bG _ ?_ ⟨(j_+1),(eo ve x0),a2,c2,J,s0,s1,s2,s3,s4,(bN J),dx,aj,(by exact Zg hs aj aj),(by exact YI hb aI aj aj bo)⟩
  omega
 have p0:=dF b0
 refine ex<|aV<|bf<|bh<|nx<|sq ?_
 have HB:=hs.1
 refine rg<|k<|cI H6 2 J bp J s1 au J<|k ?_
 have dq:=Fe (mn:=mn) (mr:=mr) H6.mb (hT.ext H6.below) gk (H6.rv 4 J)<|by exact b9
 refine ca Vw J (ec J e0) dq ?_
 rintro _ w5 ⟨a2,c2,rfl,fA,ep⟩
 have H7:=H6.eS ep
 refine k<|al H7 bp ?_
 let J3:=oL w 144 a2 (gL mn mr) c2
 let J4:=box ba #[sL a1 ve c1] 144
 let ck:=J3::J4::oL w 151 a1 ve c1::bc
 intro bL w6 iz (H8:HI M w w6 (box bL #[I 0,.slice none 0 0] 26::ck))
 refine k<|bw H8 0 J bp J J J J J J J ?_
 let J5:=box bL #[I mn,sL a2 (gL mn mr) c2] 26
 intro w7 (H9:HI M w w7 (J5::ck))
 refine bz<|ai J s0<|k<|ef J J cS<|k<|mk0 (α:=Int) (m:=nd.length) H9 J J J J cS aS aj aj ?_
 intro g0 w8 jh (dz:HI M w w8 (own w.heap.size 3 (.slice (some ⟨g0,0,none⟩) 0 nd.length) ([]:aA)::J5::ck))
 refine ak (v:=.slice (some ⟨g0,0,none⟩) 0 nd.length) J J<|aq<|sq<|bk<|lp (fun m f w'=>∃(wa:aA) (jw:List bt) (a3:OA) (c3:Nat) (a4:OA) (c4:Nat),m=nd.length-wa.length∧f 1=sL FN nd FG∧f 6=pV ba 0∧f 9=pV bL 0∧f 10=sL a3 wa c3∧HI M w w' [oL w 3 a3 wa c3,J5,J3,box ba #[sL a4 jw c4] 144,oL w 151 a4 jw c4,J2,J1,J0]∧(wa.length≤nd.length)∧(Bx mn jw)∧(dE mn mr nd=AH (gL mn mr) (nd.length-wa.length) jw wa)) _ ⟨([]:aA),ve,(some ⟨g0,0,none⟩),nd.length,a1,c1,J,s0,s2,J,J,dz,bm,(by exact hs),(by exact Uc hb aj)⟩ ?_
 rintro _ f1 w9 ⟨wa,jw,a3,c3,a4,c4,rfl,s6,s7,s8,s9,cB,ahQ,gN,ht⟩
 refine sq<|az<|ai J s9<|k<|ef J J cS<|ai J s6<|k<|ef J J cS<|k<|lss J J J J<|z<|nx<|cd (b:=decide ((wa.length:Int)<(nd.length:Int))) J J (fun b1=>?_)<|fun b1=>?_
 ·
  have p1:=dT b1
  refine sk<|nx<|bk<|sq ?_
  have HB:=gN.1
  refine rg<|bq cB 3 J dt J s7 J<|k ?_
  have dx:=cB.freeze 4 J
  have fP:=uu (r:=jw) dx.mb (hT.ext dx.below) (dx.rv 4 J) aj
  refine ca HE J (ec J e0) fP ?_
  rintro _ dP ⟨a5,c5,rfl,ki,ei⟩
  have dI:=cB.eS<|bj.anyM ei
  refine k<|mf2 J (W9 s8<|W9 s7 mf0)<|k ?_
  have cU:=dI.freeze 0 J
  have ff:=vT (r:=(de jw)) (p:=(fun (x_:Int)=>(!(oP ((gL mn mr).getD x_.toNat []) jw)))) cU.mb (cU.rv 0 J) ⟨aih,fun w_ v_ x_ mW e_ Gs=>by have H_:=cU.ext e_;obtain⟨_,⟨rfl,fB⟩,rfl⟩:=Gs;exact Pg (mn:=mn) (mr:=(gL mn mr)) (lf:=jw) (M:=fun _=>False) (fun _ h_=>h_.elim) fB bo ((H_.mu 3 J).lift (Up.less fun _ _ h_=>h_.elim)) ((H_.mu 5 J).lift (Up.less fun _ _ h_=>h_.elim)) ⟨H_.at_ 2 rfl,fun h_=>h_⟩ ⟨H_.at_ 4 rfl,fun h_=>h_⟩ (by exact ahe) (by exact gN.2 _ mW) (by exact gN.1)⟩
  refine ca Vv J (ec J<|ec J e0) ff ?_
  rintro _ eB ⟨rfl,mA⟩
  have d_:=dI.ext mA
  refine ak (v:=I (eO (fun (x_:Int)=>(!(oP ((gL mn mr).getD x_.toNat []) jw)))<|de jw)) J J<|aq<|sq<|sq ?_
  have alN:=Zt (p:=(fun (x_:Int)=>(!(oP ((gL mn mr).getD x_.toNat []) jw)))) (r:=de jw)
  have ahJ:=fun (q_:Nat) (x_:Int) (h_:(de jw)[q_]? =some x_)=>abm gN h_
  refine rg<|ai (v:=I (eO (fun (x_:Int)=>(!(oP ((gL mn mr).getD x_.toNat []) jw)))<|de jw)) J J<|k<|lss J J J J<|z<|nx<|cd (b:=decide ((eO (fun (x_:Int)=>(!(oP ((gL mn mr).getD x_.toNat []) jw)))<|de jw)<0)) J J (fun b2=>?_)<|fun b2=>?_
  ·
   have p2:=dT b2
   refine az<|ak (v:=.slice none 0 0) J J<|ak (v:=I 7) J J<|aq<|rt<|aK<|bU<|ee<|bU<|aK ?_
   have yS:=aee ht aj<|show eO (fun (x_:Int)=>(!(oP ((gL mn mr).getD x_.toNat []) jw))) (de jw)<0 from by omega
   refine r2 J J J ?_
   have e0:([]:aA)=(dE mn mr nd).1:=by rw[yS]
   have e1:(7:Int)=(dE mn mr nd).2:=by rw[yS]
   have bu:=ny (fun (cq:aA) (dX:Int)=>(.tuple #[.slice none cq.length 0,I dX]:Value)) e0 e1
   exact⟨none,0,bu,d_.below,(amz (fun (x_:aA)=>bj _ _ _ x_ (.slice none x_.length 0) _) e0).mp (fU d_.below)⟩
  have p2:=dF b2
  refine sk<|cV<|bq d_ 4 J dt J s7 J<|k ?_
  have dD:=d_.freeze 5 J
  have mc:=uu (r:=jw) dD.mb (hT.ext dD.below) (dD.rv 5 J) aj
  refine ca HE J (ec J e0) mc ?_
  rintro _ fE ⟨a6,c6,rfl,og,ja⟩
  have cY:=d_.eS<|bj.anyM ja
  refine ai (v:=I (eO (fun (x_:Int)=>(!(oP ((gL mn mr).getD x_.toNat []) jw)))<|de jw)) J J<|k<|iq (cY.at_ 0 J) J J J J aj cS aS ?_
  intro g1 x0 iC aI cD
  refine k<|mV cD aS J J ?_
  intro jW
  refine ak (v:=I x0) J J<|aq<|sq ?_
  obtain⟨ahr,ahq⟩:=ahJ _ _ aI
  have als:=U5 gN ahr ahq
  refine rg<|bq cY 5 J dt J s7 J<|ai (v:=I x0) J J<|k<|KC J J J J<|k<|iq (cY.at_ 6 J) J J J J aj ig ft ?_
  intro g2 x1 kN bV gG
  refine k<|yF gG ft J J<|ai (v:=I x0) J J<|k<|JY J J J J<|k<|OP J J B2 Dv<|k<|aaE (1#64) ((BitVec.ofInt 64<|x0%64).toNat:Int) aj J J J J<|k<|Z_ x1 ((1#64) <<< ((BitVec.ofInt 64<|x0%64).toNat:Int).toNat) J J J J<|k<|iq (cY.at_ 6 J) J J J J aj ig ft ?_
  intro g3 x2 BD jb kB
  refine k<|qf cY 6 J BD J aj ft J J J J (RV.bv.2 J) ?_
  let J6:=box ba #[sL a4 jw c4] 144
  let J7:=own w.heap.size 151 (.slice a4 jw.length c4) (jw.set ((x0/64).toNat) (x1 &&& ~~~((1#64) <<< ((BitVec.ofInt 64 (x0%64)).toNat:Int).toNat)))
  intro iU (dW:HI M w iU [oL w 3 a6 (de jw) c6,oL w 3 a5 (de jw) c5,oL w 3 a3 wa c3,J5,J3,J6,J7,J2,J1,J0])
  refine aq<|rg<|ai J s9<|ai (v:=I x0) J J<|k<|bs (xs:=([x0]:aA)) (cells:=#[I x0]) (e:=3) dW J (cz J eI) (fun _=>aU) ⟨[I x0],[],J,⟨J,(show aL (x0) from bo)⟩,J⟩ J au ?_
  intro g4 jZ BY dQ
  refine k<|me dQ 3 J J J J J J (ib<|dQ.at_ 0 J) cS aS J (by simp;omega) J ?_
  intro a7 c7 rn (cQ:HI M w rn [own w.heap.size 3 (.slice (some ⟨g4,0,none⟩) 1 1) ([x0]:aA),oL w 3 a6 (de jw) c6,oL w 3 a5 (de jw) c5,oL w 3 a7 (wa++([x0]:aA)) c7,J5,J3,J6,J7,J2,J1,J0])
  refine ak (v:=sL a7 (wa++([x0]:aA)) c7) J J<|z<|aF ?_
  have eh:HI M w rn [oL w 3 a7 (wa++([x0]:aA)) c7,J5,J3,J6,J7,J2,J1,J0]:=cQ.bZ [3,4,5,6,7,8,9,10] au J
  have dO:HI M w rn [oL w 3 a7 (wa++([x0]:aA)) c7,J5,J3,box ba #[sL a4 (jw.set ((x0/64).toNat) (x1 &&& ~~~((1#64) <<< ((BitVec.ofInt 64 (x0%64)).toNat:Int).toNat))) c4] 144,own w.heap.size 151 (.slice a4 (jw.set ((x0/64).toNat) (x1 &&& ~~~((1#64) <<< ((BitVec.ofInt 64 (x0%64)).toNat:Int).toNat))).length c4) (jw.set ((x0/64).toNat) (x1 &&& ~~~((1#64) <<< ((BitVec.ofInt 64 (x0%64)).toNat:Int).toNat))),J2,J1,J0]:=by simpa +zetaDelta only[sL,amA] using eh
  refine bG _ ?_ ⟨(wa++([x0]:aA)),(jw.set ((x0/64).toNat) (x1 &&& ~~~((1#64) <<< ((BitVec.ofInt 64<|x0%64).toNat:Int).toNat))),a7,c7,a4,c4,J,s6,s7,s8,J,dO,(by rw[fN,iB,gj];omega),(by exact Zi gN ‹_›),(by exact YG ht aj (show ¬eO (fun (x_:Int)=>(!(oP ((gL mn mr).getD x_.toNat []) jw))) (de jw)<0 from by omega) aI ‹_›)⟩
  rw[fN,iB,gj];omega
 have p1:=dF b1
 refine ex<|aV<|bf<|bh<|cV<|ai J s9<|ak (v:=sL a3 wa c3) J J<|ak (v:=I 0) J J<|aq<|rt ?_
 have yS:=aau ht aj
 refine r2 J J J ?_
 have e0:(wa:aA)=(dE mn mr nd).1:=by rw[yS]
 have e1:(0:Int)=(dE mn mr nd).2:=by rw[yS]
 have bu:=ny (fun (cq:aA) (dX:Int)=>(.tuple #[.slice a3 cq.length c3,I dX]:Value)) e0 e1
 exact⟨a3,c3,bu,cB.below,(amz (fun (x_:aA)=>bj _ _ _ x_ (.slice a3 x_.length c3) _) e0).mp (cB.du 0 J)⟩
theorem HL:gv aJ 107 0 0:=js Tryz.underlying107
theorem uK:gv aJ 107 1 3:=js Tryz.underlying107
theorem ae6:cH aJ 130:=cN Tryz.func130
theorem Qo:cH aJ 56:=cN Tryz.func56
theorem FV:ey aJ 103 1 false 8 (.pointer none):=⟨aU,aU⟩
theorem Pd:ey aJ 63 1 false 8 (.nilFunc):=⟨aU,aU⟩
theorem XW:cH aJ 132:=cN Tryz.func132
theorem ae5:cH aJ 134:=cN Tryz.func134
theorem aie:cH aJ 92:=cN Tryz.func92
theorem aid:cH aJ 93:=cN Tryz.func93
theorem Ts {MB:Nat} {WO:TypeId} {Wu:OA} {Wa:Nat} {dn:aA} (hM:eU M w) (acq:aL x_) (ah4:cL M w Wu Wa dn) (ah':w.heap[MB]? =some (.cells #[sL Wu dn Wa] WO (0,0))∧¬M MB):Calls aJ 130 #[I x_,.pointer (some ⟨MB,0,none⟩)] w (cA fun v w'=>v=.bool (dn.any (fun (z_:Int)=>decide (x_=z_)))∧Ext w w'):=by
 refine dH 7 Tryz.func130 J J J hM fun f0 ha H=>?_
 have H0:=eu H ah4
 have i0:f0 0=I x_:=ha 0 bm
 have H1:=H0.put (it:=ro MB #[sL Wu dn Wa] WO) J<|by rw[aH rfl,bS];exact ah'
 have i1:f0 1=pV MB 0:=ha 1 bm
 refine az<|ak (v:=.bool false) J J<|bz<|k<|lr H1 0 J qv J i1 J<|ai J i0<|k ?_
 have bT:=C7 (rM:=dn) (tQ:=x_) H1.mb (H1.rv 1 J) acq
 refine ca XX J (ec J<|ec J e0) bT ?_
 rintro _ w0 ⟨rfl,bY⟩
 have H2:=H1.ext bY
 refine ak (v:=.bool (dn.any<|fun (z_:Int)=>decide (x_=z_))) J J<|aq<|rt<|r1 J J ?_
 exact⟨amz Value.bool (show (dn.any<|fun (z_:Int)=>decide (x_=z_))=(dn.any<|fun (z_:Int)=>decide (x_=z_)) from rfl),H2.below⟩
theorem V6 (hM:eU M w) (hT:fW 0 w) (dG:cL M w aw av U) (gl:cL M w ay ax fo) (kv:aL cn) (nF:cL M w dB dA cr) (ua:aL o) (la:w.heap[eK]? =some (.cells #[.slice aC aD aB,sL aw U av,sL ay fo ax,I cn,sL dB cr dA] lV (0,0))∧¬M eK) (ho:hG U) (dC:U.length≤64) (eD:fo.length=U.length) (fK:∀x∈fo,x<((U.length:Nat):Int)) (ou:cn=((U.length:Nat):Int)) (pK:cr=cC U fo) (Ov:0≤o∧o<((U.length:Nat):Int)):Calls aJ 92 #[.pointer (some ⟨eK,0,none⟩),I o] w (cA fun v w'=>∃(ls:aA) (a0:OA) (c0:Nat),v=sL a0 ls c0∧Ext w w'∧bj M 3 w ls (sL a0 ls c0) w'∧ls.length≤300000):=by
 refine dH 58 Tryz.func92 J J J hM fun f0 ha H=>?_
 let J0:=iL aw U av
 have H0:=H.put (it:=J0) J<|by rw[bS];exact dG
 let J1:=iL ay fo ax
 have H1:=H0.put (it:=J1) J<|by rw[aH rfl,bS];exact gl
 let J2:=iL dB cr dA
 have H2:=H1.put (it:=J2) J<|by rw[aH rfl,aH rfl,bS];exact nF
 have iS:=bl dG
 have kM:=bl gl
 have A5:=bl nF
 let J3:=ro eK #[.slice aC aD aB,sL aw U av,sL ay fo ax,I cn,sL dB cr dA] lV
 have H3:=H2.put (it:=J3) J<|by rw[aH rfl,aH rfl,aH rfl,bS];exact la
 have i0:f0 0=pV eK 0:=ha 0 bm
 have i1:f0 1=I o:=ha 1 bm
 have kY:bI cn cr=true:=by rw[ou,pK];exact pB fo aj
 have lk_:=A8 ho dC Ov
 have WX:=aek (fo:=fo) (o:=o) dC
 have alL:(aY (gf U) (cF U o)++([o]:aA)).length≤65:=by rw[fN];simp only[iB,gj];omega
 refine az<|ak (v:=.slice none 0 0) J J<|aq<|sq<|ma [.r,.r,.r,.r,.r,.r,.r,.r,.r,.r,.r,.r,.s,.s,.s,.n,.e,.s,.s,.s] (fun _=>True) J aU (fun _ _=>trivial)<|yq J J<|kq (fun _ _=>mv J i0 e1)<|bQ<|kq (fun _ _=>nc J J e1)<|bQ<|kq (fun _ _=>fa HL J J e1)<|bQ<|kq (fun _ x_=>wc (H3.ext x_) 0 J ej J J au J e1)<|bQ<|kq (fun _ _=>mv J i0 e1)<|bQ<|kq (fun _ _=>nc J J e1)<|bQ<|kq (fun _ _=>fa uK J J e1)<|bQ<|kq (fun _ x_=>wc (H3.ext x_) 0 J bp J J au J e1)<|bQ<|kq (fun _ _=>mv J i1 e1)<|zq<|yu J (fun N v w'=>∃(o0:List ew) (o1:Int) (a0:OA) (c0:Nat) (a1:OA) (c1:Nat),v=.tuple #[.agg #[I ((U.length:Nat):Int),sL a0 (db U fo o) c0],sL a1 o0 c1,I o1,I 0]∧o0.length≤2000000000∧aL o1∧oC U.length o0∧RV (MN H3.gh N) w' (sL a0 (db U fo o) c0) (db U fo o)∧RV (MN H3.gh N) w' (sL a1 o0 c1) o0) J ⟨by rintro _ _ _ _ x_ ⟨o0,o1,a0,c0,a1,c1,e_,q0,q1,q2,ei,fB⟩;exact⟨o0,o1,a0,c0,a1,c1,e_,q0,q1,q2,ei.lift (Up.ext x_),fB.lift (Up.ext x_)⟩,by rintro _ _ _ _ _ k_ ⟨o0,o1,a0,c0,a1,c1,e_,q0,q1,q2,ei,fB⟩;exact⟨o0,o1,a0,c0,a1,c1,e_,q0,q1,q2,gZ ei k_,gZ fB k_⟩⟩ J (fun v_ _ x_ n_=>have dq:=Ho (U:=U) (fo:=fo) (mn:=cn) (mr:=cr) (o:=o) (aC:=aC) (aD:=aD) (aB:=aB) (w:=v_) (kK H3.mb x_ n_) (hT.ext (H3.below.trans x_)) (kj (H3.rv 3 J) x_ n_) (kj (H3.rv 2 J) x_ n_) kv (kj (H3.rv 1 J) x_ n_) ua (by exact ho) (by exact dC) (by exact eD) (by exact fK) (by exact ou) (by exact pK) aj;ca Qt rfl (ec J<|ec J<|ec J e0) dq (fun _ w1 ⟨o2,o3,a2,c2,a3,c3,e_,dy,ja,jW,q3,q4,q5⟩=>⟨_,J,dy,⟨o2,o3,a2,c2,a3,c3,e_,q3,q4,q5,ja,jW⟩⟩))<|lE J (fun N v w'=>∃(o4:List ew) (o5:Int) (a4:OA) (c4:Nat) (a5:OA) (c5:Nat),v=.tuple #[.agg #[I ((U.length:Nat):Int),sL a4 (db U fo o) c4],sL a5 o4 c5,I o5,I 0]∧o4.length≤2000000000∧aL o5∧oC U.length o4∧RV (MN H3.gh N) w' (sL a4 (db U fo o) c4) (db U fo o)∧RV (MN H3.gh N) w' (sL a5 o4 c5) o4) 0 J J ⟨by rintro _ _ _ _ x_ ⟨o4,o5,a4,c4,a5,c5,e_,q6,q7,q8,iH,kR⟩;exact⟨o4,o5,a4,c4,a5,c5,e_,q6,q7,q8,iH.lift (Up.ext x_),kR.lift (Up.ext x_)⟩,by rintro _ _ _ _ _ k_ ⟨o4,o5,a4,c4,a5,c5,e_,q6,q7,q8,iH,kR⟩;exact⟨o4,o5,a4,c4,a5,c5,e_,q6,q7,q8,gZ iH k_,gZ kR k_⟩⟩ J (fun _ _ _ _ _ h_=>let ⟨o6,o7,a6,c6,a7,c7,s0,q9,u0,xz,nN,oI⟩:=h_;mv rfl s0 ⟨_,J,Ext.refl _,⟨o6,o7,a6,c6,a7,c7,J,q9,u0,xz,nN,oI⟩⟩)<|lE J (fun N v w'=>∃(a8:OA) (c8:Nat),v=.agg #[I ((U.length:Nat):Int),sL a8 (db U fo o) c8]∧RV (MN H3.gh N) w' (sL a8 (db U fo o) c8) (db U fo o)) 0 J J Ed J (fun _ _ _ _ _ h_=>let ⟨aW,gX,jH,jF,nY,nW,s1,Cl,Ck,yp,nB,sh⟩:=h_;xt rfl s1 rfl ⟨_,J,Ext.refl _,⟨jH,jF,J,nB⟩⟩)<|lE J (fun N v w'=>∃(ky:List ew) (ka:OA) (j9:Nat),v=sL ka ky j9∧ky.length≤2000000000∧oC U.length ky∧RV (MN H3.gh N) w' (sL ka ky j9) ky) 1 J J ⟨by rintro _ _ _ _ x_ ⟨ky,ka,j9,e_,xy,xw,p9⟩;exact⟨ky,ka,j9,e_,xy,xw,p9.lift (Up.ext x_)⟩,by rintro _ _ _ _ _ k_ ⟨ky,ka,j9,e_,xy,xw,p9⟩;exact⟨ky,ka,j9,e_,xy,xw,gZ p9 k_⟩⟩ J (fun _ _ _ _ _ h_=>let ⟨K_,N5,lU,lS,TX,Tx,s2,D_,q22,KS,AQ,E1⟩:=h_;xt rfl s2 rfl ⟨_,J,Ext.refl _,⟨K_,TX,Tx,J,D_,KS,E1⟩⟩)<|lE J (fun _ v _=>∃(Ga:Int),v=I Ga∧aL Ga) 2 J J mE J (fun _ _ _ _ _ h_=>let ⟨o18,RU,a18,c18,a19,c19,s3,q27,RA,q29,aaL,aaK⟩:=h_;xt rfl s3 rfl ⟨_,J,Ext.refl _,⟨RU,J,RA⟩⟩)<|QV J (X:=I 0) 3 J J (fun _ _ _ _ _ h_=>let ⟨o22,W3,a22,c22,a23,c23,s4,q33,q34,q35,aaJ,aaI⟩:=h_;xt rfl s4 rfl e1)<|yn (z:=#[I 0,.slice none 0 0]) J J (fun _=>O3 bp)<|ye<|lE J (fun N v w'=>∃(mF:List ew) (a24:OA) (yV:Nat),v=sL a24 mF yV∧mF.length≤2000000000∧oC U.length mF∧RV (MN H3.gh N) w' (sL a24 mF yV) mF) 2 J J ⟨by rintro _ _ _ _ x_ ⟨mF,a24,yV,e_,Cj,Ci,xp⟩;exact⟨mF,a24,yV,e_,Cj,Ci,xp.lift (Up.ext x_)⟩,by rintro _ _ _ _ _ k_ ⟨mF,a24,yV,e_,Cj,Ci,xp⟩;exact⟨mF,a24,yV,e_,Cj,Ci,gZ xp k_⟩⟩ J (fun _ _ _ _ _ h_=>let ⟨K9,a25,Ez,s5,Rz,Ry,KM⟩:=h_;jy rfl s5 ⟨_,J,Ext.refl _,⟨K9,a25,Ez,J,Rz,Ry,KM⟩⟩)<|lE J (fun _ v _=>∃(sF:Int),v=I sF∧aL sF) 2 J J mE J (fun _ _ _ _ _ h_=>let ⟨tS,s6,Rx⟩:=h_;jy rfl s6 ⟨_,J,Ext.refl _,⟨tS,J,Rx⟩⟩)<|yq J J<|kq (fun _ _=>jy (v:=I 0) J J e1)<|zq<|yz ?_
 intro w2 f0 _ fe _ _ cK iK
 obtain⟨ba,s7,CQ,l9,BF⟩:=iK 2 _ _ rfl
 have pL:=OU (z:=#[I 0,.slice none 0 0]) (T:=26) CQ l9 BF<|OV
 let bc:=[J3,J2,J1,J0]
 have cB:HI M w w2 (box ba #[I 0,.slice none 0 0] 26::bc):=H3.DH fe pL<|N9 N8 Oa
 have s8:=(cK 0 J).trans i0
 have s9:=(cK 1 J).trans i1
 obtain⟨a26,G1,eC,KL⟩:=iK 5 _ _ rfl
 let J4:=iL a26 (db U fo o) G1
 have dx:=cB.put (it:=J4) J<|sf KL pL
 refine j8<|bw dx 1 J bp J J s7 eC J J J ?_
 let J5:=box ba #[I ((U.length:Nat):Int),sL a26 (db U fo o) G1] 26
 intro w3 (dI:HI M w w3 (J4::J5::bc))
 refine kz<|cV<|k<|al dI qv ?_
 intro bL w4 fA (cU:HI M w w4 (box bL #[.slice none 0 0] 27::J4::J5::bc))
 refine aq<|sq<|az<|ai J s8<|k<|nc J J<|aR HL J J<|k<|wc cU 3 J ej J J au J<|ai J s9<|k ?_
 have fP:=Co (U:=U) (o:=o) (aC:=aC) (aD:=aD) (aB:=aB) (ay:=ay) (fc:=fo.length) (ax:=ax) cU.mb (cU.rv 6 J) ua (by exact ho) aj
 refine ca Vz J (ec J<|ec J e0) fP ?_
 rintro _ w5 ⟨Ax,Au,rfl,iz,Uj⟩
 have d_:=cU.eS Uj
 refine ai J s9<|k<|bs (xs:=([o]:aA)) (cells:=#[I o]) (e:=3) d_ J (cz J eI) (fun _=>aU) ⟨[I o],[],J,⟨J,ua⟩,J⟩ J au ?_
 intro g0 w6 jh dD
 refine k<|me dD 1 J J J J J J (ib<|dD.at_ 0 J) cS aS J (by simp only[iB,gj];omega) J ?_
 let J6:=own w.heap.size 3 (.slice (some ⟨g0,0,none⟩) 1 1) ([o]:aA)
 intro a28 ru w7 (cY:HI M w w7 (J6::oL w 3 a28 (aY (gf U) (cF U o)++([o]:aA)) ru::box bL #[.slice none 0 0] 27::J4::J5::bc))
 refine k<|ef J J cS<|ai (v:=I 0) J J<|aq<|bk ?_
 have dW:=cY.rB Int 3
 let ck:=J4::box ba #[I ((U.length:Nat):Int),sL a26 (db U fo o) G1] 26::bc
 refine lp (fun m f w'=>∃(j_:Nat) (ir:aA) (oZ:OA) (oX:Nat),m=(aY (gf U) (cF U o)++([o]:aA)).length-j_∧f 5=pV ba 0∧f 9=pV bL 0∧f 36=sL a28 (aY (gf U) (cF U o)++([o]:aA)) ru∧f 37=I ((aY (gf U) (cF U o)++([o]:aA)).length:Int)∧f 38=I (j_:Int)∧HI M w w' (oL w 3 oZ ir oX::own w.heap.size 3 (.slice (some ⟨g0,0,none⟩) 1 1) ([o]:aA)::oL w 3 a28 (aY (gf U) (cF U o)++([o]:aA)) ru::box bL #[sL oZ ir oX] 27::ck)∧(j_≤(aY (gf U) (cF U o)++([o]:aA)).length)∧(ir.length≤4096*j_)) _ ⟨0,([]:aA),none,0,J,s7,J,J,J,(bN J),dW,aj,(by exact an6 _)⟩ ?_
 rintro _ f1 w8 ⟨j_,ir,oZ,oX,rfl,fj,fT,fS,gF,gW,dQ,pk,hs⟩
 refine az<|k<|lss J J gW gF<|aq<|sq<|cd (b:=decide ((j_:Int)<((aY (gf U) (cF U o)++([o]:aA)).length:Int))) J J (fun b0=>?_)<|fun b0=>?_
 ·
  have p0:=dT b0
  refine sk<|nx<|sq<|bk<|az<|k<|iq (dQ.at_ 2 J) J J fS gW aj cS aS ?_
  intro g1 x0 iC aI cD
  refine k<|mV cD aS J J ?_
  intro KK
  refine ak (v:=I x0) J J<|bz<|k<|cI dQ 5 J bp J fj au J<|ai (v:=I x0) J J<|k ?_
  have ff:=u2 (mn:=((U.length:Nat):Int)) (mr:=(db U fo o)) (o:=x0) dQ.mb (hT.ext dQ.below) aT (dQ.rv 4 J) KK<|by exact WX
  refine ca L3 J (ec J<|ec J e0) ff ?_
  rintro _ w9 ⟨j4,j2,rfl,ki,EZ⟩
  have cQ:=dQ.eS EZ
  refine k<|mf2 J (W9 fT mf0)<|k ?_
  let J7:=box bL #[sL oZ ir oX] 27
  have eh:HI M w w9 ([oL w 3 j4 (bP ((U.length:Nat):Int) (db U fo o) x0) j2]++[oL w 3 oZ ir oX,J6,oL w 3 a28 (aY (gf U) (cF U o)++([o]:aA)) ru,J7,J4,J5,J3,J2,J1,J0]):=cQ.bZ [0,1,2,3,4,5,6,7,8,9,10] au J
  have mc:=oU (dV:=j4) (dL:=j2) (xs:=(bP ((U.length:Nat):Int) (db U fo o) x0)) (qk:=130) (qq:=[pV bL 0]) (p:=(fun (x_:Int)=>(ir.any<|fun (z_:Int)=>decide (x_=z_)))) (w:=w) (w_:=w9) (r:=[oL w 3 oZ ir oX,own w.heap.size 3 (.slice (some ⟨g0,0,none⟩) 1 1) ([o]:aA),oL w 3 a28 (aY (gf U) (cF U o)++([o]:aA)) ru,J7,J4,box ba #[I ((U.length:Nat):Int),sL a26 (db U fo o) G1] 26,J3,J2,J1,J0]) (M:=M) ⟨ae6,fun w_ rl H_ x_ mW Eg=>Ts (dn:=ir) (M:=fun _=>False) (fun _ h_=>h_.elim) Eg ((H_.mu 1 J).lift (Up.less fun _ _ h_=>h_.elim)) ⟨H_.at_ 4 rfl,fun h_=>h_⟩⟩ eh
  refine ca GG J (ec J<|ec J e0) mc ?_
  rintro _ dP ⟨rfl,dO⟩
  have fg:HI M w dP (oL w 3 j4 (aY (fun (x_:Int)=>(ir.any (fun (z_:Int)=>decide (x_=z_)))) (bP ((U.length:Nat):Int) (db U fo o) x0)) j2::oL w 3 oZ ir oX::own w.heap.size 3 (.slice (some ⟨g0,0,none⟩) 1 1) ([o]:aA)::oL w 3 a28 (aY (gf U) (cF U o)++([o]:aA)) ru::J7::ck):=dO
  refine ak (v:=sL j4 (aY (fun (x_:Int)=>(ir.any<|fun (z_:Int)=>decide (x_=z_)))<|bP ((U.length:Nat):Int) (db U fo o) x0) j2) J J<|bz<|k<|cI fg 6 J bp J fj au J<|ai (v:=sL j4 (aY (fun (x_:Int)=>(ir.any<|fun (z_:Int)=>decide (x_=z_)))<|bP ((U.length:Nat):Int) (db U fo o) x0) j2) J J<|k ?_
  have fz:=fg.freeze 0 J
  have nV:=ym (mn:=((U.length:Nat):Int)) (mr:=(db U fo o)) (nd:=(aY (fun (x_:Int)=>(ir.any<|fun (z_:Int)=>decide (x_=z_)))<|bP ((U.length:Nat):Int) (db U fo o) x0)) fz.mb (hT.ext fz.below) aT (fz.rv 5 J) (fz.rv 0 J) (by exact WX)<|by exact amP (uT WX x0 _) au
  refine ca Qo J (ec J<|ec J e0) nV ?_
  rintro _ eB ⟨a31,I',rfl,mA,EY⟩
  have gS:=fz.eS EY
  refine ai (v:=.tuple #[sL a31 ((dE ((U.length:Nat):Int) (db U fo o)<|aY (fun (x_:Int)=>(ir.any<|fun (z_:Int)=>decide (x_=z_)))<|bP ((U.length:Nat):Int) (db U fo o) x0).1) I',I ((dE ((U.length:Nat):Int) (db U fo o)<|aY (fun (x_:Int)=>(ir.any<|fun (z_:Int)=>decide (x_=z_)))<|bP ((U.length:Nat):Int) (db U fo o) x0).2)]) J J<|k<|xt J J J<|k<|xt J J J<|ak (v:=sL a31 ((dE ((U.length:Nat):Int) (db U fo o)<|aY (fun (x_:Int)=>(ir.any<|fun (z_:Int)=>decide (x_=z_)))<|bP ((U.length:Nat):Int) (db U fo o) x0).1) I') J J<|z<|nx ?_
  have alu:=uT WX x0<|fun (x_:Int)=>(ir.any<|fun (z_:Int)=>decide (x_=z_))
  have alv:=Ko (n:=((U.length:Nat):Int)) (rs:=db U fo o) (nd:=aY (fun (x_:Int)=>(ir.any<|fun (z_:Int)=>decide (x_=z_))) (bP ((U.length:Nat):Int) (db U fo o) x0))
  refine rg<|bq gS 5 J qv J fT J<|ai (v:=sL a31 ((dE ((U.length:Nat):Int) (db U fo o)<|aY (fun (x_:Int)=>(ir.any<|fun (z_:Int)=>decide (x_=z_)))<|bP ((U.length:Nat):Int) (db U fo o) x0).1) I') J J<|k<|me gS 2 J J J J J J (ib<|gS.at_ 0 J) cS aS J aj J ?_
  intro a32 oW fE (iY:HI M w fE (oL w 3 a31 ((dE ((U.length:Nat):Int) (db U fo o) (aY (fun (x_:Int)=>(ir.any (fun (z_:Int)=>decide (x_=z_)))) (bP ((U.length:Nat):Int) (db U fo o) x0))).1) I'::iL j4 (aY (fun (x_:Int)=>(ir.any (fun (z_:Int)=>decide (x_=z_)))) (bP ((U.length:Nat):Int) (db U fo o) x0)) j2::oL w 3 a32 (ir++(dE ((U.length:Nat):Int) (db U fo o) (aY (fun (x_:Int)=>(ir.any (fun (z_:Int)=>decide (x_=z_)))) (bP ((U.length:Nat):Int) (db U fo o) x0))).1) oW::own w.heap.size 3 (.slice (some ⟨g0,0,none⟩) 1 1) ([o]:aA)::oL w 3 a28 (aY (gf U) (cF U o)++([o]:aA)) ru::J7::ck))
  refine k<|bw iY 5 J qv J J fT J J J J ?_
  intro iU (jz:HI M w iU (oL w 3 a31 ((dE ((U.length:Nat):Int) (db U fo o) (aY (fun (x_:Int)=>(ir.any (fun (z_:Int)=>decide (x_=z_)))) (bP ((U.length:Nat):Int) (db U fo o) x0))).1) I'::iL j4 (aY (fun (x_:Int)=>(ir.any (fun (z_:Int)=>decide (x_=z_)))) (bP ((U.length:Nat):Int) (db U fo o) x0)) j2::oL w 3 a32 (ir++(dE ((U.length:Nat):Int) (db U fo o) (aY (fun (x_:Int)=>(ir.any (fun (z_:Int)=>decide (x_=z_)))) (bP ((U.length:Nat):Int) (db U fo o) x0))).1) oW::own w.heap.size 3 (.slice (some ⟨g0,0,none⟩) 1 1) ([o]:aA)::oL w 3 a28 (aY (gf U) (cF U o)++([o]:aA)) ru::box bL #[sL a32 (ir++(dE ((U.length:Nat):Int) (db U fo o) (aY (fun (x_:Int)=>(ir.any (fun (z_:Int)=>decide (x_=z_)))) (bP ((U.length:Nat):Int) (db U fo o) x0))).1) oW] 27::ck))
  refine z<|aF<|nx<|rg<|k<|add J J gW J aT<|ai (v:=I ((j_:Int)+1)) J J<|z ?_
  have n5:HI M w iU (oL w 3 a32 (ir++(dE ((U.length:Nat):Int) (db U fo o) (aY (fun (x_:Int)=>(ir.any (fun (z_:Int)=>decide (x_=z_)))) (bP ((U.length:Nat):Int) (db U fo o) x0))).1) oW::own w.heap.size 3 (.slice (some ⟨g0,0,none⟩) 1 1) ([o]:aA)::oL w 3 a28 (aY (gf U) (cF U o)++([o]:aA)) ru::box bL #[sL a32 (ir++(dE ((U.length:Nat):Int) (db U fo o) (aY (fun (x_:Int)=>(ir.any (fun (z_:Int)=>decide (x_=z_)))) (bP ((U.length:Nat):Int) (db U fo o) x0))).1) oW] 27::ck):=jz.bZ [2,3,4,5,6,7,8,9,10,11] au J
  refine bG _ ?_ ⟨(j_+1),(ir++(dE ((U.length:Nat):Int) (db U fo o)<|aY (fun (x_:Int)=>(ir.any<|fun (z_:Int)=>decide (x_=z_)))<|bP ((U.length:Nat):Int) (db U fo o) x0).1),a32,oW,J,fj,fT,fS,gF,(bN J),n5,aj,(by rw[fN];omega)⟩
  omega
 refine ex<|aV<|bf<|bh<|cV<|bq dQ 3 J qv J fT J<|ak (v:=sL oZ ir oX) J J<|aq<|rt<|r1 J J ?_
 exact⟨ir,oZ,oX,J,dQ.below,(dQ.du 0 J),aj⟩
theorem C9 {MA:Nat} {WN:TypeId} {fr:Int} {WI:TypeId} (hM:eU M w) (aco:aL xx) (ah3:aL fr) (dG:cL M w aw av U) (gl:cL M w ay ax fo) (kv:aL cn) (nF:cL M w dB dA cr) (ah_:w.heap[MA]? =some (.cells #[I fr] WN (0,0))∧¬M MA) (ah6:w.heap[kx]? =some (.cells #[.pointer (some ⟨eK,0,none⟩)] WI (0,0))∧¬M kx) (la:w.heap[eK]? =some (.cells #[.slice aC aD aB,sL aw U av,sL ay fo ax,I cn,sL dB cr dA] lV (0,0))∧¬M eK) (kY:bI cn cr=true):Calls aJ 132 #[I xx,.pointer (some ⟨MA,0,none⟩),.pointer (some ⟨kx,0,none⟩)] w (cA fun v w'=>v=.bool (decide (0≤fr)&&(decide (xx=fr)||eL cn cr fr xx))∧Ext w w'):=by
 refine dH 21 Tryz.func132 J J J hM fun f0 ha H=>?_
 have H0:=eu H dG
 have H1:=eu H0 gl
 have H2:=eu H1 nF
 have i0:f0 0=I xx:=ha 0 bm
 have H3:=H2.put (it:=ro MA #[I fr] WN) J<|by rw[aH rfl,aH rfl,aH rfl,bS];exact ah_
 have i1:f0 1=pV MA 0:=ha 1 bm
 have H4:=H3.put (it:=ro eK #[.slice aC aD aB,sL aw U av,sL ay fo ax,I cn,sL dB cr dA] lV) J<|by rw[aH rfl,aH rfl,aH rfl,aH rfl,bS];exact la
 have H5:=H4.put (it:=ro kx #[pV eK 0] WI) J<|by rw[aH rfl,aH rfl,aH rfl,aH rfl,aH rfl,bS];exact ah6
 have i2:f0 2=pV kx 0:=ha 2 bm
 refine az<|ak (v:=.bool false) J J<|aq<|sq<|yT J aU<|kq (fun _ x_=>lr (H5.ext x_) 2 J aS J i1 J e1)<|kq (fun _ _=>geq J J J J e1)<|kq (fun _ _=>mv (v:=.bool (decide (0≤fr))) J J e1) ?_
 rcases bE (decide (0≤fr)) with b0|b0
 ·
  refine qy J J J b0<|kq (fun _ _=>mv J i0 e1)<|qy J J J b0<|kq (fun _ x_=>lr (H5.ext x_) 2 J aS J i1 J e1)<|qy J J J b0<|kq (fun _ _=>eql J J J J e1)<|qy J J J b0<|kq (fun _ _=>mv (v:=.bool (decide (xx=fr))) J J e1) ?_
  rcases bE (decide (xx=fr)) with b1|b1
  ·
   refine qn J J J b1<|qn J J J b1<|qn J J J b1<|qn J J J b1<|qn J J J b1<|qn J J J b1<|qn J J J b1<|qy J J J b0<|kq (fun _ _=>aN J J J J b1 J e1)<|kq (fun _ _=>aN J J J J b0 J e1)<|kq (fun _ _=>jy (v:=.bool true) J J e1)<|zq ?_
   intro w0 bY
   have H6:=H5.ext bY
   refine nx<|rt<|r1 J J ?_
   exact⟨amz Value.bool (by simp only[b0,b1,BL]),H6.below⟩
  refine qy J J J b1<|kq (fun _ x_=>lr (H5.ext x_) 0 J FV J i2 J e1)<|qy J J J b1<|kq (fun _ _=>nc J J e1)<|qy J J J b1<|kq (fun _ _=>fa uK J J e1)<|qy J J J b1<|kq (fun _ x_=>wc (H5.ext x_) 1 J bp J J au J e1)<|qy J J J b1<|kq (fun _ x_=>lr (H5.ext x_) 2 J aS J i1 J e1)<|qy J J J b1<|kq (fun _ _=>mv J i0 e1)<|qy J J J b1<|kq (v:=.bool (eL cn cr fr xx)) (fun v_ x_=>?_) ?_
  ·
   have cc:=uz (mn:=cn) (mr:=cr) (i:=fr) (j:=xx) (w:=v_) (H5.ext x_).mb kv ((H5.ext x_).rv 3 rfl) ah3 aco (by exact(bR kY).1) (by exact(bR kY).2.1)<|by exact(bR kY).2.2.1
   exact ca Fv J (ec J<|ec J<|ec J e0) cc fun _ _ h_=>e2 h_
  refine qy J J J b0<|kq (fun _ _=>cZ J J J J b1 J e1)<|kq (fun _ _=>aN J J J J b0 J e1)<|kq (fun _ _=>jy (v:=.bool (eL cn cr fr xx)) J J e1)<|zq ?_
  intro w0 bY
  have H6:=H5.ext bY
  refine nx<|rt<|r1 J J ?_
  exact⟨amz Value.bool (by simp only[b0,b1,BL]),H6.below⟩
 refine qn J J J b0<|qn J J J b0<|qn J J J b0<|qn J J J b0<|qu J J J<|qu J J J<|qu J J J<|qu J J J<|qu J J J<|qu J J J<|qu J J J<|qn J J J b0<|kq (fun _ _=>cZ J J J J b0 J e1)<|kq (fun _ _=>jy (v:=.bool false) J J e1)<|zq ?_
 intro w0 bY
 have H6:=H5.ext bY
 refine nx<|rt<|r1 J J ?_
 exact⟨amz Value.bool (by simp only[b0,BL]),H6.below⟩
theorem Mm {Mz:Nat} {WM:TypeId} {VF:Nat} {WA:List Value} {pp:Int→Bool} (hM:eU M w) (aco:aL xx) (acu:FP aJ VF WA M w [xx] pp) (ah9:w.heap[Mz]? =some (.cells #[.func (.func VF) #[] WA.toArray] WM (0,0))∧¬M Mz):Calls aJ 134 #[I xx,.pointer (some ⟨Mz,0,none⟩)] w (cA fun v w'=>v=.bool (!(pp xx))∧Ext w w'):=by
 refine dH 8 Tryz.func134 J J J hM fun f0 ha H=>?_
 have i0:f0 0=I xx:=ha 0 bm
 have H0:=H.put (it:=ro Mz #[.func (.func VF) #[] WA.toArray] WM) J<|by rw[bS];exact ah9
 have i1:f0 1=pV Mz 0:=ha 1 bm
 refine az<|ak (v:=.bool false) J J<|bz<|k<|lr H0 0 J Pd J i1 J<|ai J i0<|k<|cf acu.1 J J J (ec J e0) (acu.2 _ _ _ (by exact anS.2 rfl) H0.below<|(RV.int.2 ⟨J,aT⟩).lift H0.out) ?_
 rintro _ w0 ⟨rfl,bY⟩
 have H1:=H0.ext bY
 refine k<|kg J J<|ak (v:=.bool (!(pp xx))) J J<|aq<|rt<|r1 J J ?_
 exact⟨amz Value.bool (show (!(pp xx))=(!(pp xx)) from rfl),H1.below⟩
theorem No (hM:eU M w) (hT:fW 0 w) (dG:cL M w aw av U) (gl:cL M w ay ax fo) (kv:aL cn) (nF:cL M w dB dA cr) (ua:aL o) (la:w.heap[eK]? =some (.cells #[.slice aC aD aB,sL aw U av,sL ay fo ax,I cn,sL dB cr dA] lV (0,0))∧¬M eK) (ho:hG U) (dC:U.length≤64) (eD:fo.length=U.length) (fK:∀x∈fo,x<((U.length:Nat):Int)) (ou:cn=((U.length:Nat):Int)) (pK:cr=cC U fo) (Ov:0≤o∧o<((U.length:Nat):Int)):Calls aJ 93 #[.pointer (some ⟨eK,0,none⟩),I o] w (cA fun v w'=>∃(ls:aA) (a0:OA) (c0:Nat),v=sL a0 ls c0∧Ext w w'∧bj M 3 w ls (sL a0 ls c0) w'∧ls.length≤300000):=by
 refine dH 53 Tryz.func93 J J J hM fun f0 ha H=>?_
 let J0:=iL aw U av
 have H0:=H.put (it:=J0) J<|by rw[bS];exact dG
 let J1:=iL ay fo ax
 have H1:=H0.put (it:=J1) J<|by rw[aH rfl,bS];exact gl
 let J2:=iL dB cr dA
 have H2:=H1.put (it:=J2) J<|by rw[aH rfl,aH rfl,bS];exact nF
 let J3:=ro eK #[.slice aC aD aB,sL aw U av,sL ay fo ax,I cn,sL dB cr dA] lV
 have H3:=H2.put (it:=J3) J<|by rw[aH rfl,aH rfl,aH rfl,bS];exact la
 have i0:f0 0=pV eK 0:=ha 0 bm
 have i1:f0 1=I o:=ha 1 bm
 have kY:bI cn cr=true:=by rw[ou,pK];exact pB fo aj
 refine az<|k<|bx H3 J i0 ?_
 let bc:=[J3,J2,J1,J0]
 intro aZ w0 bY (H4:HI M w w0 (box aZ #[pV eK 0] 103::bc))
 let J4:=box aZ #[pV eK 0] 103
 refine ak (v:=.slice none 0 0) J J<|bz<|bq H4 0 J FV J J J<|k<|nc J J<|aR HL J J<|aR tG J J<|k<|lr H4 1 J qv J J J<|ai J i1<|k<|ia (H4.rv 3 J) J J J J aj cS aS ?_
 intro iE x0 aI cD
 refine k<|mV cD.w aS J J ?_
 intro cE
 refine k<|al H4 aS ?_
 intro ba w1 dy (H5:HI M w w1 (box ba #[I 0] 3::J4::bc))
 refine k<|bw H5 0 J aS J J J J J J J ?_
 let J5:=box ba #[I x0] 3
 let ck:=J5::J4::bc
 intro w2 (H6:HI M w w2 ck)
 refine bz<|k<|mf J<|k<|al H6 Pd ?_
 intro bL w3 fe (H7:HI M w w3 (box bL #[.nilFunc] 63::ck))
 refine k<|bw H7 0 J Pd J J J J J J J ?_
 let J6:=box bL #[.func (.func 132) #[] #[pV ba 0,pV aZ 0]] 63
 intro w4 (H8:HI M w w4 (J6::ck))
 refine bz<|bq H8 2 J FV J J J<|k<|nc J J<|aR uK J J<|k<|wc H8 3 J bp J J au J<|ai J i1<|k ?_
 have bT:=u2 (mn:=cn) (mr:=cr) (o:=o) H8.mb (hT.ext H8.below) kv (H8.rv 4 J) ua<|by exact kY
 refine ca L3 J (ec J<|ec J e0) bT ?_
 rintro _ w5 ⟨a0,c0,rfl,fA,ep⟩
 have H9:=H8.eS ep
 refine ak (v:=sL a0 (bP cn cr o) c0) J J<|aq<|sq<|ma [.f,.f,.f,.f,.r,.r,.r,.e,.e,.e,.e,.e,.e,.e] (fun w'=>HI M w w' [J4,J3]) J aU (fun _ x_=>(H9.bZ (l':=[J4,J3]) [3,4] au J).ext x_)<|yf J (fun _ i_=>lx i_ 0 J FV J J J e3)<|yf J (fun _ _=>nc J J e3)<|yf J (fun _ _=>fa uK J J e3)<|yf J (fun _ i_=>wc i_ 1 J bp J J au J e3)<|yq J J<|kq (fun _ _=>mv (v:=sL a0 (bP cn cr o) c0) J J e1)<|zq<|yu J (fun _ v w'=>∃(a1:OA) (c1:Nat),v=sL a1 (bP cn cr o) c1∧bj H9.gh 3 w5 (bP cn cr o) (.slice a1 (bP cn cr o).length c1) w') J (mN<|by rintro _ _ _ x_ ⟨a1,c1,e_,fB⟩;exact⟨a1,c1,e_,fB.Lr x_⟩) J (fun v_ _ x_ _=>have fP:=I9 (l:=(bP cn cr o)) (w:=v_) ((H9.ext x_).freeze 0 rfl).mb (((H9.ext x_).freeze 0 rfl).rv 0 rfl) (by have h_:=uU kY o;omega);ca XV rfl (ec J e0) fP (fun _ w7 ⟨a2,c2,e_,jh,ja⟩=>⟨_,J,jh,⟨a2,c2,e_,(bj.anyM<|bj.base ja x_)⟩⟩))<|yq J J<|kq (fun _ x_=>lx (H9.ext x_) 1 J Pd J J J e1)<|zq<|ye<|ye<|ye<|ye<|ye<|ye<|ye<|yz ?_
 intro w8 f0 _ ki _ _ cK iK
 obtain⟨a3,c3,s0,iH⟩:=iK 0 _ _ rfl
 have d_:=H9.eS<|bj.anyM iH
 have s1:=cK 2 J
 have s2:=cK 6 J
 have s3:=cK 7 J
 have s4:=cK 31 J
 have s5:=cK 34 J
 refine ke ?_
 let J7:=oL w 3 a0 (bP cn cr o) c0
 have dD:HI M w w8 ([oL w 3 a3 (bP cn cr o) c3]++[J7,J6,J5,J4,J3,J2,J1,J0]):=d_.bZ [0,1,2,3,4,5,6,7,8] au J
 have ff:=oU (dV:=a3) (dL:=c3) (xs:=(bP cn cr o)) (qk:=132) (qq:=[pV ba 0,pV aZ 0]) (p:=(fun (x_:Int)=>(decide (0≤x0)&&(decide (x_=x0)||eL cn cr x0 x_)))) (w:=w) (w_:=w8) (r:=[J7,J6,J5,J4,J3,J2,J1,J0]) (M:=M) ⟨XW,fun w_ rl H_ x_ mW Eg=>C9 (fr:=x0) (U:=U) (fo:=fo) (cn:=cn) (cr:=cr) (M:=fun _=>False) (fun _ h_=>h_.elim) Eg bo ((H_.rv 8 J).lift (Up.less fun _ _ h_=>h_.elim)) ((H_.rv 7 J).lift (Up.less fun _ _ h_=>h_.elim)) bo ((H_.rv 6 J).lift (Up.less fun _ _ h_=>h_.elim)) ⟨H_.at_ 3 rfl,fun h_=>h_⟩ ⟨H_.at_ 4 rfl,fun h_=>h_⟩ ⟨(H_.at_ 5 J).1,fun h_=>h_⟩ (by exact kY)⟩ dD
 refine ca GG J (ec s0<|ec s5 e0) ff ?_
 rintro _ w9 ⟨rfl,cY⟩
 have dW:HI M w w9 (oL w 3 a3 (aY (fun (x_:Int)=>(decide (0≤x0)&&(decide (x_=x0)||eL cn cr x0 x_))) (bP cn cr o)) c3::J7::J6::ck):=cY
 refine⟨dW.bZ [4,5] au rfl,?_⟩
 refine ke ?_
 have dQ:=dW.freeze 0 J
 have mc:=ym (mn:=cn) (mr:=cr) (nd:=(aY (fun (x_:Int)=>(decide (0≤x0)&&(decide (x_=x0)||eL cn cr x0 x_)))<|bP cn cr o)) dQ.mb (hT.ext dQ.below) kv (dQ.rv 6 J) (dQ.rv 0 J) (by exact kY)<|by exact amP (uT kY o _) au
 refine ca Qo J (ec s4<|ec J e0) mc ?_
 rintro _ dP ⟨a4,c4,rfl,mA,kR⟩
 have cQ:=dW.eS<|bj.anyM kR
 refine⟨cQ.bZ [5,6] au rfl,?_⟩
 refine ke<|mv (v:=.tuple #[sL a4 ((dE cn cr<|aY (fun (x_:Int)=>(decide (0≤x0)&&(decide (x_=x0)||eL cn cr x0 x_)))<|bP cn cr o).1) c4,I ((dE cn cr<|aY (fun (x_:Int)=>(decide (0≤x0)&&(decide (x_=x0)||eL cn cr x0 x_)))<|bP cn cr o).2)]) J J ?_
 refine⟨cQ.bZ [5,6] au rfl,?_⟩
 refine ke<|xt J J J ?_
 refine⟨cQ.bZ [5,6] au rfl,?_⟩
 refine ke<|xt J J J ?_
 refine⟨cQ.bZ [5,6] au rfl,?_⟩
 refine ke<|jy (v:=sL a4 ((dE cn cr<|aY (fun (x_:Int)=>(decide (0≤x0)&&(decide (x_=x0)||eL cn cr x0 x_)))<|bP cn cr o).1) c4) J J ?_
 refine⟨cQ.bZ [5,6] au rfl,?_⟩
 refine ke<|jy (v:=I ((dE cn cr<|aY (fun (x_:Int)=>(decide (0≤x0)&&(decide (x_=x0)||eL cn cr x0 x_)))<|bP cn cr o).2)) J J ?_
 refine⟨cQ.bZ [5,6] au rfl,?_⟩
 refine kz<|nx<|sq<|ma [.f,.f,.f,.f,.r,.r,.e,.e,.e,.e,.e,.e,.e] (fun w'=>HI M w w' [J4,J3]) J aU (fun _ x_=>(cQ.bZ (l':=[J4,J3]) [5,6] au J).ext x_)<|yf J (fun _ i_=>lx i_ 0 J FV J s1 J e3)<|yf J (fun _ _=>nc J J e3)<|yf J (fun _ _=>fa uK J J e3)<|yf J (fun _ i_=>wc i_ 1 J bp J J au J e3)<|yq J J<|kq (fun _ _=>mv J s3 e1)<|bQ<|kq (fun _ _=>mf2 J (W9 s2 mf0) e1)<|zq<|ye<|ye<|ye<|ye<|ye<|ye<|ye<|yz ?_
 intro eB f1 _ og _ _ fJ Ac
 have eh:=cQ.ext og
 have s6:=fJ 8 J
 have s7:=fJ 43 J
 have s8:=fJ 44 J
 have s9:=fJ 45 J
 refine ke ?_
 have dO:HI M w eB ([J7]++[oL w 3 a4 ((dE cn cr (aY (fun (x_:Int)=>(decide (0≤x0)&&(decide (x_=x0)||eL cn cr x0 x_))) (bP cn cr o))).1) c4,oL w 3 a3 (aY (fun (x_:Int)=>(decide (0≤x0)&&(decide (x_=x0)||eL cn cr x0 x_))) (bP cn cr o)) c3,J6,J5,J4,J3,J2,J1,J0]):=eh.bZ [2,0,1,3,4,5,6,7,8,9] au J
 have nV:=oU (dV:=a0) (dL:=c0) (xs:=(bP cn cr o)) (qk:=134) (qq:=[pV bL 0]) (p:=(fun (x_:Int)=>(!((fun (x_:Int)=>(decide (0≤x0)&&(decide (x_=x0)||eL cn cr x0 x_))) x_)))) (w:=w) (w_:=eB) (r:=[oL w 3 a4 ((dE cn cr<|aY (fun (x_:Int)=>(decide (0≤x0)&&(decide (x_=x0)||eL cn cr x0 x_)))<|bP cn cr o).1) c4,oL w 3 a3 (aY (fun (x_:Int)=>(decide (0≤x0)&&(decide (x_=x0)||eL cn cr x0 x_)))<|bP cn cr o) c3,J6,J5,J4,J3,J2,J1,J0]) (M:=M) ⟨ae5,fun w_ rl H_ x_ mW Eg=>Mm (pp:=(fun (x_:Int)=>(decide (0≤x0)&&(decide (x_=x0)||eL cn cr x0 x_)))) (M:=fun _=>False) (fun _ h_=>h_.elim) Eg ⟨XW,fun w_ v_ x_ mW e_ Gs=>by have H_:=H_.ext e_;obtain⟨_,⟨rfl,nN⟩,rfl⟩:=Gs;exact C9 (fr:=x0) (U:=U) (fo:=fo) (cn:=cn) (cr:=cr) (M:=fun _=>False) (fun _ h_=>h_.elim) nN bo ((H_.rv 9 J).lift (Up.less fun _ _ h_=>h_.elim)) ((H_.rv 8 J).lift (Up.less fun _ _ h_=>h_.elim)) bo ((H_.rv 7 J).lift (Up.less fun _ _ h_=>h_.elim)) ⟨H_.at_ 4 rfl,fun h_=>h_⟩ ⟨H_.at_ 5 rfl,fun h_=>h_⟩ ⟨(H_.at_ 6 J).1,fun h_=>h_⟩ (by exact kY)⟩ ⟨H_.at_ 3 rfl,fun h_=>h_⟩⟩ dO
 refine ca GG J (ec s8<|ec s9 e0) nV ?_
 rintro _ fE ⟨rfl,fg⟩
 have fz:HI M w fE (oL w 3 a0 (aY (fun (x_:Int)=>(!((fun (x_:Int)=>(decide (0≤x0)&&(decide (x_=x0)||eL cn cr x0 x_))) x_))) (bP cn cr o)) c0::oL w 3 a4 ((dE cn cr (aY (fun (x_:Int)=>(decide (0≤x0)&&(decide (x_=x0)||eL cn cr x0 x_))) (bP cn cr o))).1) c4::oL w 3 a3 (aY (fun (x_:Int)=>(decide (0≤x0)&&(decide (x_=x0)||eL cn cr x0 x_))) (bP cn cr o)) c3::J6::ck):=fg
 refine⟨fz.bZ [5,6] au rfl,?_⟩
 refine ke ?_
 have gS:=fz.freeze 0 J
 have As:=ym (mn:=cn) (mr:=cr) (nd:=(aY (fun (x_:Int)=>(!((fun (x_:Int)=>(decide (0≤x0)&&(decide (x_=x0)||eL cn cr x0 x_))) x_)))<|bP cn cr o)) gS.mb (hT.ext gS.below) kv (gS.rv 7 J) (gS.rv 0 J) (by exact kY)<|by exact amP (uT kY o _) au
 refine ca Qo J (ec s7<|ec J e0) As ?_
 rintro _ iU ⟨a5,c5,rfl,BY,oI⟩
 have iY:=fz.eS<|bj.anyM oI
 refine⟨iY.bZ [6,7] au rfl,?_⟩
 refine ke<|mv (v:=.tuple #[sL a5 ((dE cn cr<|aY (fun (x_:Int)=>(!((fun (x_:Int)=>(decide (0≤x0)&&(decide (x_=x0)||eL cn cr x0 x_))) x_)))<|bP cn cr o).1) c5,I ((dE cn cr<|aY (fun (x_:Int)=>(!((fun (x_:Int)=>(decide (0≤x0)&&(decide (x_=x0)||eL cn cr x0 x_))) x_)))<|bP cn cr o).2)]) J J ?_
 refine⟨iY.bZ [6,7] au rfl,?_⟩
 refine ke<|xt J J J ?_
 refine⟨iY.bZ [6,7] au rfl,?_⟩
 refine ke<|xt J J J ?_
 refine⟨iY.bZ [6,7] au rfl,?_⟩
 refine ke<|jy (v:=sL a5 ((dE cn cr<|aY (fun (x_:Int)=>(!((fun (x_:Int)=>(decide (0≤x0)&&(decide (x_=x0)||eL cn cr x0 x_))) x_)))<|bP cn cr o).1) c5) J J ?_
 refine⟨iY.bZ [6,7] au rfl,?_⟩
 refine ke<|jy (v:=I ((dE cn cr<|aY (fun (x_:Int)=>(!((fun (x_:Int)=>(decide (0≤x0)&&(decide (x_=x0)||eL cn cr x0 x_))) x_)))<|bP cn cr o).2)) J J ?_
 refine⟨iY.bZ [6,7] au rfl,?_⟩
 refine kz<|nx<|sq ?_
 have BQ:=Q6 kY o<|fun (x_:Int)=>(decide (0≤x0)&&(decide (x_=x0)||eL cn cr x0 x_))
 have jj:=Q6 kY o<|fun (x_:Int)=>(!((fun (x_:Int)=>(decide (0≤x0)&&(decide (x_=x0)||eL cn cr x0 x_))) x_))
 refine rg<|ai J s6<|ai (v:=sL a5 ((dE cn cr<|aY (fun (x_:Int)=>(!((fun (x_:Int)=>(decide (0≤x0)&&(decide (x_=x0)||eL cn cr x0 x_))) x_)))<|bP cn cr o).1) c5) J J<|k<|me iY 2 J J J J J J (ib<|iY.at_ 0 J) cS aS J aj J ?_
 intro a6 c6 jZ (jz:HI M w jZ (oL w 3 a5 ((dE cn cr (aY (fun (x_:Int)=>(!((fun (x_:Int)=>(decide (0≤x0)&&(decide (x_=x0)||eL cn cr x0 x_))) x_))) (bP cn cr o))).1) c5::oL w 3 a0 (aY (fun (x_:Int)=>(!((fun (x_:Int)=>(decide (0≤x0)&&(decide (x_=x0)||eL cn cr x0 x_))) x_))) (bP cn cr o)) c0::oL w 3 a6 ((dE cn cr (aY (fun (x_:Int)=>(decide (0≤x0)&&(decide (x_=x0)||eL cn cr x0 x_))) (bP cn cr o))).1++(dE cn cr (aY (fun (x_:Int)=>(!((fun (x_:Int)=>(decide (0≤x0)&&(decide (x_=x0)||eL cn cr x0 x_))) x_))) (bP cn cr o))).1) c6::oL w 3 a3 (aY (fun (x_:Int)=>(decide (0≤x0)&&(decide (x_=x0)||eL cn cr x0 x_))) (bP cn cr o)) c3::J6::ck))
 refine ak (v:=sL a6 ((dE cn cr<|aY (fun (x_:Int)=>(decide (0≤x0)&&(decide (x_=x0)||eL cn cr x0 x_)))<|bP cn cr o).1++(dE cn cr<|aY (fun (x_:Int)=>(!((fun (x_:Int)=>(decide (0≤x0)&&(decide (x_=x0)||eL cn cr x0 x_))) x_)))<|bP cn cr o).1) c6) J J<|aq<|rt<|r1 J J ?_
 exact⟨((dE cn cr<|aY (fun (x_:Int)=>(decide (0≤x0)&&(decide (x_=x0)||eL cn cr x0 x_)))<|bP cn cr o).1++(dE cn cr<|aY (fun (x_:Int)=>(!((fun (x_:Int)=>(decide (0≤x0)&&(decide (x_=x0)||eL cn cr x0 x_))) x_)))<|bP cn cr o).1),a6,c6,J,jz.below,(jz.du 2 J),(by rw[fN];omega)⟩
theorem V5 (hM:eU M w) (hT:fW 0 w) (dG:cL M w aw av U) (gl:cL M w ay ax fo) (kv:aL cn) (nF:cL M w dB dA cr) (ua:aL o) (mZ:aL lv) (la:w.heap[eK]? =some (.cells #[.slice aC aD aB,sL aw U av,sL ay fo ax,I cn,sL dB cr dA] lV (0,0))∧¬M eK) (ho:hG U) (dC:U.length≤64) (eD:fo.length=U.length) (fK:∀x∈fo,x<((U.length:Nat):Int)) (ou:cn=((U.length:Nat):Int)) (pK:cr=cC U fo) (Ov:0≤o∧o<((U.length:Nat):Int)):Calls aJ 57 #[.pointer (some ⟨eK,0,none⟩),I o,I lv] w (cA fun v w'=>∃(ls:aA) (a0:OA) (c0:Nat),v=sL a0 ls c0∧Ext w w'∧bj M 3 w ls (sL a0 ls c0) w'∧ls.length≤300000):=by
 refine dH 15 Tryz.func57 J J J hM fun f0 ha H=>?_
 have H0:=eu H dG
 have H1:=eu H0 gl
 have H2:=eu H1 nF
 have H3:=H2.put (it:=ro eK #[.slice aC aD aB,sL aw U av,sL ay fo ax,I cn,sL dB cr dA] lV) J<|by rw[aH rfl,aH rfl,aH rfl,bS];exact la
 have i0:f0 0=pV eK 0:=ha 0 bm
 have i1:f0 1=I o:=ha 1 bm
 have i2:f0 2=I lv:=ha 2 bm
 refine az<|ak (v:=.slice none 0 0) J J<|aq<|sq<|az<|ai J i2<|k<|eql J J J J<|z<|nx<|cd (b:=decide (lv=3)) J J (fun b0=>?_)<|fun b0=>?_
 ·
  refine az<|ai J i0<|ai J i1<|k ?_
  have bT:=V6 (U:=U) (fo:=fo) (cn:=cn) (cr:=cr) (o:=o) H3.mb (hT.ext H3.below) (H3.rv 3 J) (H3.rv 2 J) kv (H3.rv 1 J) ua (H3.at_ 0 J) (by exact ho) (by exact dC) (by exact eD) (by exact fK) (by exact ou) (by exact pK) aj
  refine ca aie J (ec J<|ec J e0) bT ?_
  rintro _ w0 ⟨o0,a0,c0,rfl,bY,cE,q0⟩
  have H4:=H3.eS cE
  refine ak (v:=sL a0 o0 c0) J J<|aq<|rt<|aK<|r1 J J ?_
  exact⟨o0,a0,c0,J,H4.below,(H4.du 0 J),bo⟩
 refine sk<|cV<|ai J i0<|ai J i1<|k ?_
 have bT:=No (U:=U) (fo:=fo) (cn:=cn) (cr:=cr) (o:=o) H3.mb (hT.ext H3.below) (H3.rv 3 J) (H3.rv 2 J) kv (H3.rv 1 J) ua (H3.at_ 0 J) (by exact ho) (by exact dC) (by exact eD) (by exact fK) (by exact ou) (by exact pK) aj
 refine ca aid J (ec J<|ec J e0) bT ?_
 rintro _ w0 ⟨o0,a0,c0,rfl,bY,cE,q0⟩
 have H4:=H3.eS cE
 refine ak (v:=sL a0 o0 c0) J J<|aq<|rt<|r1 J J ?_
 exact⟨o0,a0,c0,J,H4.below,(H4.du 0 J),bo⟩
theorem vK:ey aJ 30 5 true 88 (.agg #[.int .i64 0,.int .i64 0,.slice none 0 0,.slice none 0 0,.slice none 0 0]):=⟨aU,aU⟩
theorem aiq:cH aJ 54:=cN Tryz.func54
theorem aip:cH aJ 55:=cN Tryz.func55
theorem ac9:gv aJ 30 2 3:=js Tryz.underlying30
theorem S2:gv aJ 30 3 4:=js Tryz.underlying30
theorem aar:ey aJ 28 1 false 24 (.slice none 0 0):=⟨aU,aU⟩
theorem aio:cH aJ 57:=cN Tryz.func57
theorem ag6:aJ.underlying 28=some (.slice 27):=aU
theorem V1 (hM:eU M w) (hT:fW 0 w) (dG:cL M w aw av U) (gl:cL M w ay ax fo) (gk:aL mn) (gB:cL M w bF bD mr) (ho:hG U) (dC:U.length≤64) (eD:fo.length=U.length) (fK:∀x∈fo,x<((U.length:Nat):Int)) (BH:mn=((U.length:Nat):Int)) (BG:mr=cC U fo):Calls aJ 55 #[.agg #[.slice aC aD aB,sL aw U av,sL ay fo ax],.agg #[I mn,sL bF mr bD]] w (cA fun v w'=>∃(on:Int) (om:List (List bt)) (er:Int) (a0:OA) (c0:Nat),v=.tuple #[.agg #[I on,sL a0 om c0],I er]∧Ext w w'∧cL M w' a0 c0 om∧bI on om=true∧aL on∧aL er):=by
 refine dH 39 Tryz.func55 J J J hM fun f0 ha H=>?_
 let J0:=iL aw U av
 have H0:=H.put (it:=J0) J<|by rw[bS];exact dG
 let J1:=iL ay fo ax
 have H1:=H0.put (it:=J1) J<|by rw[aH rfl,bS];exact gl
 let J2:=iL bF mr bD
 have H2:=H1.put (it:=J2) J<|by rw[aH rfl,aH rfl,bS];exact gB
 have iS:=bl dG
 have kM:=bl gl
 have np:=bl gB
 have i0:f0 0=.agg #[.slice aC aD aB,sL aw U av,sL ay fo ax]:=ha 0 bm
 have i1:f0 1=.agg #[I mn,sL bF mr bD]:=ha 1 bm
 have b9:bI mn mr=true:=by rw[BH,BG];exact pB fo aj
 have E2:=oV b9
 refine az<|k<|bx H2 J i0 ?_
 let bc:=[J2,J1,J0]
 intro aZ w0 bY (H3:HI M w w0 (box aZ #[.slice aC aD aB,sL aw U av,sL ay fo ax] 47::bc))
 let J3:=box aZ #[.slice aC aD aB,sL aw U av,sL ay fo ax] 47
 refine k<|bx H3 J i1 ?_
 let ck:=J3::bc
 intro ba w1 dy (H4:HI M w w1 (box ba #[I mn,sL bF mr bD] 26::ck))
 let J4:=box ba #[I mn,sL bF mr bD] 26
 refine k<|al H4 bp ?_
 let dY:=J4::ck
 intro bL w2 fe (H5:HI M w w2 (box bL #[I 0,.slice none 0 0] 26::dY))
 let J5:=box bL #[I 0,.slice none 0 0] 26
 refine ak (v:=I 0) J J<|bz<|k<|cI H5 1 J bp J J au J<|k ?_
 have bT:=wK (mn:=mn) (mr:=mr) H5.mb gk (H5.rv 3 J)<|by exact b9
 refine ca Qn J (ec J e0) bT ?_
 rintro _ w3 ⟨a0,c0,rfl,fA,cE⟩
 have H6:=H5.eS cE
 refine k<|al H6 bp ?_
 let jk:=oL w 144 a0 (fk mn mr) c0::J5::dY
 intro fq w4 iz (H7:HI M w w4 (box fq #[I 0,.slice none 0 0] 26::jk))
 refine k<|bw H7 0 J bp J J J J J J J ?_
 intro w5 (H8:HI M w w5 (box fq #[I mn,sL a0 (fk mn mr) c0] 26::jk))
 refine aq<|sq<|az<|k<|cI H8 4 J ej J J au J<|k<|cI H8 3 J bp J J au J<|k ?_
 have dq:=uS (U:=U) (fo:=fo) (mn:=mn) (mr:=mr) (aC:=aC) (aD:=aD) (aB:=aB) H8.mb (hT.ext H8.below) (H8.rv 7 J) (H8.rv 6 J) gk (H8.rv 5 J) aj (by exact eD) (by exact fK)<|by exact b9
 refine ca Ql J (ec J<|ec J e0) dq ?_
 rintro _ w6 ⟨a1,c1,rfl,jh,ep⟩
 have H9:=H8.eS ep
 refine k<|ef J J eA<|ai (v:=I 0) J J<|aq<|bk ?_
 have dz:=H9.freeze 2 J
 let J6:=iL a0 (fk mn mr) c0
 have cB:=dz.put (it:=J6) J<|dz.rv 2 J
 let J7:=oL w 122 a1 (cP U fo mn mr) c1
 let fL:=J6::J5::dY
 refine lp (fun m f w'=>∃(q_:Nat) (fY:Int) (fI:List (List bt)) (a2:OA) (c2:Nat),m=(cP U fo mn mr).length-q_∧f 4=pV bL 0∧f 6=pV fq 0∧f 15=sL a1 (cP U fo mn mr) c1∧f 16=I ((cP U fo mn mr).length:Int)∧f 17=I (q_:Int)∧HI M w w' (iL a2 fI c2::J7::box fq #[I fY,sL a2 fI c2] 26::fL)∧(q_≤(cP U fo mn mr).length)∧(fY=mn∧fI=lT mn (fk mn mr) ((cP U fo mn mr).take q_))) _ ⟨0,mn,(fk mn mr),a0,c0,J,J,J,J,J,(bN J),cB,aj,(by exact⟨J,J⟩)⟩ ?_
 rintro _ f0 w7 ⟨q_,fY,fI,a2,c2,rfl,s0,s1,s2,s3,s4,dx,sI,oe⟩
 refine sq ?_
 have Oz:=qV (U:=U) (fo:=fo) b9;have Qf:=Oz.1
 have so:=Ya eD fK BH BG Oz
 refine rg<|k<|lss J J s4 s3<|aq<|sq<|cd (b:=decide ((q_:Int)<((cP U fo mn mr).length:Int))) J J (fun b0=>?_)<|fun b0=>?_
 ·
  have p0:=dT b0
  refine sk<|nx<|sq<|bk<|az<|k<|iq (dx.at_ 1 J) J J s2 s4 aj eA cR ?_
  intro g0 x0 iC aI cD
  refine k<|nr cD cR J J ?_
  intro v0 ei
  obtain⟨_,⟨_,_,rfl,⟨rfl,fB⟩,⟨_,_,rfl,⟨rfl,ja⟩,⟨rfl,jW⟩⟩⟩,rfl⟩:=ei
  refine k<|al dx cR ?_
  let lz:=iL a2 fI c2::J7::box fq #[I fY,sL a2 fI c2] 26::fL
  intro gO w8 ki (dI:HI M w w8 (box gO #[I 0,I 0,I 0] 122::lz))
  refine k<|bw dI 0 J cR J J J J J J J ?_
  intro w9 (cU:HI M w w9 (box gO #[I x0.1,I x0.2.1,I x0.2.2] 122::lz))
  refine aq<|rg<|k<|cI cU 3 J bp J s1 au J<|aR kQ J J<|bq cU 0 J aS J J J<|aR mL J J<|bq cU 0 J aS J J J<|k ?_
  have fP:=Fi (mn:=fY) (mr:=fI) (i:=x0.1) (j:=x0.2.1) cU.mb aT (cU.rv 1 J) fB ja<|by exact HU BH E2 so oe
  refine ca VA J (ec J<|ec J<|ec J e0) fP ?_
  rintro _ dP ⟨a3,c3,rfl,mA,iH⟩
  have d_:=cU.ext mA
  let J8:=iL a3 (gY fY fI x0.1 x0.2.1) c3
  have dD:=d_.put (it:=J8) J iH
  refine ai (v:=.tuple #[.agg #[I (ik fY x0.1 x0.2.1),sL a3 (gY fY fI x0.1 x0.2.1) c3],I (lB fY x0.1 x0.2.1)]) J J<|k<|xt J J J<|k<|xt J J J<|k<|bw dD 4 J bp J J s1 J J J J ?_
  let J9:=box fq #[I (ik fY x0.1 x0.2.1),sL a3 (gY fY fI x0.1 x0.2.1) c3] 26
  intro eB (cY:HI M w eB (J8::box gO #[I x0.1,I x0.2.1,I x0.2.2] 122::iL a2 fI c2::J7::J9::fL))
  refine z<|aF<|nx<|rg<|k<|add J J s4 J aT<|ai (v:=I ((q_:Int)+1)) J J<|z ?_
  have dW:=cY.put (it:=J8) J<|cY.rv 0 J
  have dQ:HI M w eB (J8::J7::J9::fL):=dW.bZ [0,4,5,6,7,8,9,10,11,12] au J
  refine bG _ ?_ ⟨(q_+1),(ik fY x0.1 x0.2.1),(gY fY fI x0.1 x0.2.1),a3,c3,J,s0,s1,s2,s3,(bN J),dQ,aj,(by exact Bt oe aI (Kw BH so aI))⟩
  omega
 refine ex<|aV<|bf<|bh<|nx<|sq<|az<|k<|cI dx 2 J bp J s1 au J<|k ?_
 have fP:=yH (mn:=fY) (mr:=fI) dx.mb aT (dx.rv 0 J)<|by exact HU BH E2 so oe
 refine ca Qm J (ec J e0) fP ?_
 rintro _ w8 ⟨rfl,ki⟩
 have dI:=dx.ext ki
 refine ai (v:=.tuple #[I (((cW fY fI).getD 0:Nat):Int),.bool ((cW fY fI).isSome)]) J J<|k<|xt J J J<|k<|xt J J J<|ak (v:=I (((cW fY fI).getD 0:Nat):Int)) J J<|ak (v:=.bool ((cW fY fI).isSome)) J J<|bz<|ai (v:=.bool ((cW fY fI).isSome)) J J<|z<|nx<|cd (b:=(cW fY fI).isSome) J J (fun b1=>?_)<|fun b1=>?_
 ·
  refine az<|k<|bd (v:=.agg #[I 0,.slice none 0 0]) J eI (fun _=>aU)<|k<|bw dI 4 J bp J J s0 J J J J ?_
  intro w9 (cU:HI M w w9 (iL a2 fI c2::J7::box fq #[I fY,sL a2 fI c2] 26::fL))
  refine ak (v:=I 7) J J<|aq<|rt<|aK<|iA cU 4 J bp J J J s0 J au ?_
  exact⟨0,([]:List (List bt)),7,none,0,J,cU.below,(eH _ _),(by exact Ro),(by exact Fh),(by unfold aL;omega)⟩
 refine sk<|cV<|k<|cI dI 2 J bp J s1 au J<|k<|bw dI 4 J bp J J s0 J J J J ?_
 intro w9 (cU:HI M w w9 (iL a2 fI c2::J7::box fq #[I fY,sL a2 fI c2] 26::J6::box bL #[I fY,sL a2 fI c2] 26::dY))
 refine ak (v:=I 0) J J<|aq<|rt<|iA cU 4 J bp J J J s0 J au ?_
 exact⟨fY,fI,0,a2,c2,J,cU.below,(cU.gm 0 J),(by exact HU BH E2 so oe),(by rw[oe.1];assumption),(by exact Fh)⟩
theorem QJ (mZ:aL lv) (hT:fW 0 w) (ho:hG U) (dC:U.length≤64) (eD:fo.length=U.length) (fK:∀x∈fo,x<((U.length:Nat):Int)) (LK:lv=1∨lv=2∨lv=3) (XA:je U fo lv=none) (H:HI M w w_ ([iL aw U av,iL ay fo ax]++r)):Calls aJ 54 #[.agg #[.slice aC aD aB,sL aw U av,sL ay fo ax],I lv] w_ (cA fun v w'=>∃(Yd:Nat) (a0:OA) (c0:Nat),v=.tuple #[pV Yd 0,I 0]∧HI M w w' ([box Yd #[.slice aC aD aB,sL aw U av,sL ay fo ax,I ((U.length:Nat):Int),.slice a0 (cC U fo).length c0] 107,iL a0 (cC U fo) c0,iL aw U av,iL ay fo ax]++r)):=by
 refine enter 25 Tryz.func54 J J J fun f0 ha=>?_
 have iS:=bl<|H.rv 0 J
 have kM:=bl<|H.rv 1 J
 have i0:f0 0=.agg #[.slice aC aD aB,sL aw U av,sL ay fo ax]:=ha 0 bm
 have i1:f0 1=I lv:=ha 1 bm
 refine az<|k<|bx H J i0 ?_
 let J1:=iL aw U av
 let J2:=iL ay fo ax
 intro aZ w0 bY (H0:HI M w w0 ([box aZ #[.slice aC aD aB,sL aw U av,sL ay fo ax] 47,J1,J2]++r))
 let J0:=box aZ #[.slice aC aD aB,sL aw U av,sL ay fo ax] 47
 refine ak (v:=.pointer none) J J<|ak (v:=I 0) J J<|aq<|sq<|az<|k<|cI H0 0 J ej J J au J<|ai J i1<|k ?_
 have bT:=Mw (U:=U) (fo:=fo) (lv:=lv) (aC:=aC) (aD:=aD) (aB:=aB) H0.mb (hT.ext H0.below) (H0.rv 1 J) (H0.rv 2 J) mZ (by exact ho) (by exact dC) (by exact eD) (by exact fK)<|by exact LK
 refine ca acU J (ec J<|ec J e0) bT ?_
 rintro _ w1 ⟨o0,o1,o2,o3,o4,o5,o6,rfl,dy,q0⟩
 have H1:=H0.ext dy
 refine ai (v:=.tuple #[.agg #[I o0,I o1,I o2,I o3,I o4,.slice none 0 0,I o5,I o6],I (fh U fo lv)]) J J<|k<|xt J J J<|k<|xt J J J<|k<|al H1 bW ?_
 intro ba w2 fe (H2:HI M w w2 ([box ba #[I 0,I 0,I 0,I 0,I 0,.slice none 0 0,I 0,I 0] 33,J0,J1,J2]++r))
 refine k<|bw H2 0 J bW J J J J J J J ?_
 let J3:=box ba #[I o0,I o1,I o2,I o3,I o4,.slice none 0 0,I o5,I o6] 33
 intro w3 (H3:HI M w w3 ([J3,J0,J1,J2]++r))
 refine ak (v:=I (fh U fo lv)) J J<|bz<|ai (v:=I (fh U fo lv)) J J<|aq<|bk<|az<|k<|eql J J J J<|ak (v:=.bool (decide ((fh U fo lv)=1))) J J<|z<|nx ?_
 have rH:(decide ((fh U fo lv)=1))=false:=(by rw[amN];unfold fh;rw[XA];decide)
 refine nU J J rH<|az<|k<|eql J J J J<|ak (v:=.bool (decide ((fh U fo lv)=0))) J J<|z<|nx ?_
 have Kk:(decide ((fh U fo lv)=0))=false:=(by rw[amN];unfold fh;rw[XA];decide)
 refine nU J J Kk<|sk<|aF<|nx<|sq<|ma [.r,.r,.r,.r,.e,.e,.s] (fun _=>True) J aU (fun _ _=>trivial)<|yq J J<|kq (fun _ x_=>cI (H3.ext x_) 1 J ej J J au J e1)<|bQ<|kq (fun _ x_=>cI (H3.ext x_) 1 J ej J J au J e1)<|zq<|yu J (fun _ v w'=>∃(a0:OA) (c0:Nat),v=.agg #[I (U.length:Int),sL a0 (cC U fo) c0]∧RV H3.gh w' (sL a0 (cC U fo) c0) (cC U fo)) J od J (fun v_ _ x_ _=>have fP:=Bo (U:=U) (fo:=fo) (aC:=aC) (aD:=aD) (aB:=aB) (w:=v_) (H3.ext x_).mb ((H3.ext x_).rv 2 rfl) ((H3.ext x_).rv 3 rfl) (by exact ho) aj (by exact eD) (by exact fK);ca Qp rfl (ec J e0) fP (fun _ w5 ⟨a1,c1,e_,iz,ep⟩=>⟨_,J,iz,⟨a1,c1,e_,ep⟩⟩))<|lE J (fun _ v w'=>∃(a2:OA) (c2:Nat),v=.agg #[.slice aC aD aB,sL aw U av,sL ay fo ax,I (U.length:Int),sL a2 (cC U fo) c2]∧RV H3.gh w' (sL a2 (cC U fo) c2) (cC U fo)) 0 J J od J (fun _ _ _ _ _ h_=>let ⟨a3,c3,s0,fB⟩:=h_;bd (v:=.agg #[.slice aC aD aB,sL aw U av,sL ay fo ax,I (U.length:Int),sL a3 (cC U fo) c3]) rfl (cz J<|cz s0 eI) (fun _=>aU) ⟨_,J,Ext.refl _,⟨a3,c3,J,fB⟩⟩)<|ye<|ye<|yq J J<|kq (fun _ _=>jy (v:=I 0) J J e1)<|zq<|yz ?_
 intro w6 f0 _ jh _ _ cK iK
 have cU:=H3.ext jh
 have s1:=cK 5 J
 obtain⟨a4,c4,s2,ja⟩:=iK 0 _ _ rfl
 let J4:=iL a4 (cC U fo) c4
 have d_:=cU.put (it:=J4) J ja
 refine j8<|bx d_ J s2 ?_
 intro bL w7 ki (cY:HI M w w7 ([box bL #[.slice aC aD aB,sL aw U av,sL ay fo ax,I (U.length:Int),sL a4 (cC U fo) c4] 107,J4,J3,J0,J1,J2]++r))
 let J5:=box bL #[.slice aC aD aB,sL aw U av,sL ay fo ax,I (U.length:Int),sL a4 (cC U fo) c4] 107
 refine j8<|jy (v:=pV bL 0) J J<|kz<|nx<|rt<|r2 J J J ?_
 try simp only[dh,cx]
 rw[s1]
 have dW:=HI.aN (l:=[J5,J4,J3,J0,J1,J2]) (l':=[J5,J4,J1,J2]) (t:=r) cY [0,1,4,5] au J J
 have e0:((U.length:Int):Int)=((U.length:Nat):Int):=rfl
 try rw[←e0]
 refine⟨bL,a4,c4,?_,?_⟩
 · first|rfl|simp only[e0]|(simp only[amA])
 · first|exact dW|simpa +zetaDelta only[e0,amA] using dW
theorem Tt (hM:eU M w) (hT:fW 0 w) (dG:cL M w aw av U) (gl:cL M w ay ax fo) (mZ:aL lv) (ho:hG U) (dC:U.length≤64) (eD:fo.length=U.length) (fK:∀x∈fo,x<((U.length:Nat):Int)) (LK:lv=1∨lv=2∨lv=3) (XA:je U fo lv=none):Calls aJ 30 #[.agg #[.slice aC aD aB,sL aw U av,sL ay fo ax],I lv] w (cA fun v w'=>∃(cn_:Int) (cm_:List (List bt)) (co_:aA) (cs_:List aA) (a0:OA) (c0:Nat) (a1:OA) (c1:Nat) (a2:OA) (c2:Nat),v=.tuple #[.agg #[I lv,I cn_,sL a0 cm_ c0,sL a1 co_ c1,sL a2 cs_ c2],I 0]∧Ext w w'∧cL M w' a0 c0 cm_∧cL M w' a1 c1 co_∧cL M w' a2 c2 cs_):=by
 refine dH 80 Tryz.func30 J J J hM fun f0 ha H=>?_
 let J0:=iL aw U av
 have H0:=H.put (it:=J0) J<|by rw[bS];exact dG
 let J1:=iL ay fo ax
 have H1:=H0.put (it:=J1) J<|by rw[aH rfl,bS];exact gl
 have iS:=bl dG
 have kM:=bl gl
 have i0:f0 0=.agg #[.slice aC aD aB,sL aw U av,sL ay fo ax]:=ha 0 bm
 have i1:f0 1=I lv:=ha 1 bm
 have kY:bI ((U.length:Nat):Int) (cC U fo)=true:=pB fo aj
 refine az<|k<|bx H1 J i0 ?_
 intro aZ w0 bY (H2:HI M w w0 [box aZ #[.slice aC aD aB,sL aw U av,sL ay fo ax] 47,J1,J0])
 let J2:=box aZ #[.slice aC aD aB,sL aw U av,sL ay fo ax] 47
 refine k<|al H2 vK ?_
 intro ba w1 dy (H3:HI M w w1 [box ba #[I 0,I 0,.slice none 0 0,.slice none 0 0,.slice none 0 0] 30,J2,J1,J0])
 let J3:=box ba #[I 0,I 0,.slice none 0 0,.slice none 0 0,.slice none 0 0] 30
 refine ak (v:=I 0) J J<|bz<|k<|cI H3 1 J ej J J au J<|ai J i1<|k ?_
 have H4:HI M w w1 ([J0,J1]++[J3,J2]):=H3.bZ [3,2,0,1] au J
 have bT:=QJ (aC:=aC) (aD:=aD) (aB:=aB) (aw:=aw) (av:=av) (U:=U) (ay:=ay) (ax:=ax) (fo:=fo) (lv:=lv) (w:=w) (w_:=w1) (r:=[J3,J2]) (M:=M) mZ hT (by exact ho) (by exact dC) (by exact eD) (by exact fK) (by exact LK) (by exact XA) H4
 refine ca aiq J (ec J<|ec J e0) bT ?_
 rintro _ w2 ⟨bL,a0,c0,rfl,H5⟩
 let J4:=box bL #[.slice aC aD aB,sL aw U av,sL ay fo ax,I ((U.length:Nat):Int),sL a0 (cC U fo) c0] 107
 let J5:=iL a0 (cC U fo) c0
 let bc:=[J4,J5,J0,J1,J3,J2]
 have H6:HI M w w2 bc:=H5
 refine ai (v:=.tuple #[pV bL 0,I 0]) J J<|k<|xt J J J<|k<|xt J J J<|ak (v:=pV bL 0) J J<|ak (v:=I 0) J J<|aq<|sq<|az<|ai (v:=I 0) J J<|k<|neq J J J J<|aq<|nU J J au<|sk<|cV<|ai J i1<|ai (v:=pV bL 0) J J<|k<|nc J J<|aR uK J J<|k<|cI H6 0 J bp J J au J<|k<|bd (v:=.agg #[I lv,I ((U.length:Nat):Int),sL a0 (cC U fo) c0,.slice none 0 0,.slice none 0 0]) J (cz J<|cz J eI) (fun _=>aU)<|k<|al H6 vK ?_
 intro fq w3 fe (H7:HI M w w3 (box fq #[I 0,I 0,.slice none 0 0,.slice none 0 0,.slice none 0 0] 30::bc))
 refine k<|bw H7 0 J vK J J J J J J J ?_
 let J6:=box fq #[I lv,I ((U.length:Nat):Int),sL a0 (cC U fo) c0,.slice none 0 0,.slice none 0 0] 30
 intro w4 (H8:HI M w w4 (J6::bc))
 refine aq<|sq<|az<|ai J i1<|k<|eql J J J J<|z<|nx<|cd (b:=decide (lv=2)) J J (fun b0=>?_)<|fun b0=>?_
 ·
  have p0:=dT b0
  refine sq<|ma [.r,.r,.r,.r,.r,.r,.r,.r,.s,.n,.e,.s] (fun _=>True) J aU (fun _ _=>trivial)<|yq J J<|kq (fun _ x_=>cI (H8.ext x_) 6 J ej J J au J e1)<|bQ<|kq (fun _ _=>mv (v:=pV bL 0) J J e1)<|bQ<|kq (fun _ _=>nc J J e1)<|bQ<|kq (fun _ _=>fa uK J J e1)<|bQ<|kq (fun _ x_=>cI (H8.ext x_) 1 J bp J J au J e1)<|zq<|yu J (fun N v w'=>∃(o0:Int) (o1:List (List bt)) (o2:Int) (a1:OA) (c1:Nat),v=.tuple #[.agg #[I o0,sL a1 o1 c1],I o2]∧bI o0 o1=true∧aL o0∧aL o2∧RV (MN H8.gh N) w' (sL a1 o1 c1) o1) J ⟨by rintro _ _ _ _ x_ ⟨o0,o1,o2,a1,c1,e_,q0,q1,q2,ep⟩;exact⟨o0,o1,o2,a1,c1,e_,q0,q1,q2,ep.lift (Up.ext x_)⟩,by rintro _ _ _ _ _ k_ ⟨o0,o1,o2,a1,c1,e_,q0,q1,q2,ep⟩;exact⟨o0,o1,o2,a1,c1,e_,q0,q1,q2,gZ ep k_⟩⟩ J (fun v_ _ x_ n_=>have fP:=V1 (U:=U) (fo:=fo) (mn:=((U.length:Nat):Int)) (mr:=(cC U fo)) (aC:=aC) (aD:=aD) (aB:=aB) (w:=v_) (kK H8.mb x_ n_) (hT.ext (H8.below.trans x_)) (kj (H8.rv 3 J) x_ n_) (kj (H8.rv 4 J) x_ n_) aT (kj (H8.rv 2 J) x_ n_) (by exact ho) (by exact dC) (by exact eD) (by exact fK) (by rfl) (by rfl);ca aip rfl (ec J<|ec J e0) fP (fun _ w6 ⟨o3,o4,o5,a2,c2,e_,iz,ei,q3,q4,q5⟩=>⟨_,J,iz,⟨o3,o4,o5,a2,c2,e_,q3,q4,q5,ei⟩⟩))<|lE J (fun N v w'=>∃(o6:Int) (o7:List (List bt)) (o8:Int) (a3:OA) (c3:Nat),v=.tuple #[.agg #[I o6,sL a3 o7 c3],I o8]∧bI o6 o7=true∧aL o6∧aL o8∧RV (MN H8.gh N) w' (sL a3 o7 c3) o7) 0 J J ⟨by rintro _ _ _ _ x_ ⟨o6,o7,o8,a3,c3,e_,q6,q7,q8,fB⟩;exact⟨o6,o7,o8,a3,c3,e_,q6,q7,q8,fB.lift (Up.ext x_)⟩,by rintro _ _ _ _ _ k_ ⟨o6,o7,o8,a3,c3,e_,q6,q7,q8,fB⟩;exact⟨o6,o7,o8,a3,c3,e_,q6,q7,q8,gZ fB k_⟩⟩ J (fun _ _ _ _ _ h_=>let ⟨o9,aW,gX,a4,c4,s0,q9,u0,xz,ja⟩:=h_;mv rfl s0 ⟨_,J,Ext.refl _,⟨o9,aW,gX,a4,c4,J,q9,u0,xz,ja⟩⟩)<|lE J (fun N v w'=>∃(ky:Int) (Cv:List (List bt)) (a5:OA) (c5:Nat),v=.agg #[I ky,sL a5 Cv c5]∧bI ky Cv=true∧aL ky∧RV (MN H8.gh N) w' (sL a5 Cv c5) Cv) 0 J J ⟨by rintro _ _ _ _ x_ ⟨ky,Cv,a5,c5,e_,D',uZ,jW⟩;exact⟨ky,Cv,a5,c5,e_,D',uZ,jW.lift (Up.ext x_)⟩,by rintro _ _ _ _ _ k_ ⟨ky,Cv,a5,c5,e_,D',uZ,jW⟩;exact⟨ky,Cv,a5,c5,e_,D',uZ,gZ jW k_⟩⟩ J (fun _ _ _ _ _ h_=>let ⟨N5,o16,Ga,a6,c6,s1,Cl,Ck,yp,iH⟩:=h_;xt rfl s1 rfl ⟨_,J,Ext.refl _,⟨N5,o16,a6,c6,J,Cl,Ck,iH⟩⟩)<|lE J (fun _ v _=>∃(o20:Int),v=I o20∧aL o20) 1 J J mE J (fun _ _ _ _ _ h_=>let ⟨o21,o22,W3,a8,c8,s2,D_,q22,KS,nN⟩:=h_;xt rfl s2 rfl ⟨_,J,Ext.refl _,⟨W3,J,KS⟩⟩)<|yn (z:=#[I 0,.slice none 0 0]) J J (fun _=>O3 bp)<|ye<|lE J (fun _ v _=>∃(mF:Int),v=I mF∧aL mF) 1 J J mE J (fun _ _ _ _ _ h_=>let ⟨K9,s3,q25⟩:=h_;jy rfl s3 ⟨_,J,Ext.refl _,⟨K9,J,q25⟩⟩)<|yz ?_
  intro w7 f0 _ jh _ _ cK iK
  obtain⟨Av,s4,CQ,l9,BF⟩:=iK 1 _ _ rfl
  have pL:=OU (z:=#[I 0,.slice none 0 0]) (T:=26) CQ l9 BF<|OV
  have dI:HI M w w7 (box Av #[I 0,.slice none 0 0] 26::J6::bc):=H8.DH jh pL<|N9 N8 Oa
  have s5:=cK 2 J
  have s6:=cK 4 J
  have s7:=cK 8 J
  obtain⟨sF,tS,a9,c9,s8,q26,q27,oI⟩:=iK 3 _ _ rfl
  let J7:=iL a9 tS c9
  have cU:=dI.put (it:=J7) J<|sf oI pL
  refine j8<|bw cU 1 J bp J J s4 s8 J J J ?_
  let J8:=box Av #[I sF,sL a9 tS c9] 26
  let ck:=J7::J8::J6::bc
  intro w8 (d_:HI M w w8 ck)
  refine kz<|cV<|aR fF J s5<|bq d_ 8 J iZ J J J<|k<|ef J J jv<|k<|mk (m:=U.length) (zx:=(0:Int)) d_ J J J J cS aS (fun _ _=>⟨J,by unfold aL;omega⟩) aj aj ?_
  intro g0 w9 ki (dD:HI M w w9 (own w.heap.size 3 (.slice (some ⟨g0,0,none⟩) U.length U.length) (List.replicate U.length (0:Int))::ck))
  refine ak (v:=sL (some ⟨g0,0,none⟩) U U.length) J J<|aq<|sq<|az<|ai (v:=sL (some ⟨g0,0,none⟩) U U.length) J J<|k<|ef J J cS<|ai (v:=I 0) J J<|aq<|bk ?_
  let dY:=[J5,J0,J1,J3,J2]
  refine lp (fun m f w'=>∃(j_:Nat) (nK:aA),m=U.length-j_∧f 4=pV ba 0∧f 8=pV fq 0∧f 9=pV Av 0∧f 11=sL (some ⟨g0,0,none⟩) U U.length∧f 46=I (U.length:Int)∧f 47=I (j_:Int)∧HI M w w' (own w.heap.size 3 (.slice (some ⟨g0,0,none⟩) U.length U.length) nK::J7::J8::box fq #[I lv,I ((U.length:Nat):Int),sL a0 (cC U fo) c0,.slice none 0 0,.slice none 0 0] 30::box bL #[.slice aC aD aB,sL aw U av,sL ay fo ax,I ((U.length:Nat):Int),sL a0 (cC U fo) c0] 107::dY)∧(j_≤U.length)∧(nK.length=U.length)) _ ⟨0,(List.replicate U.length 0),J,s6,s7,s4,J,J,(bN J),dD,aj,(by exact ot ..)⟩ ?_
  rintro _ f1 dP ⟨j_,nK,rfl,s9,eC,fj,fT,fS,gF,cY,pk,ahp⟩
  refine az<|k<|lss J J gF fS<|aq<|sq<|cd (b:=decide ((j_:Int)<(U.length:Int))) J J (fun b1=>?_)<|fun b1=>?_
  ·
   have p1:=dT b1
   refine sk<|nx<|sq<|bk<|az<|ai J gF<|ak (v:=I (j_:Int)) J J<|aq<|rg<|ai J fT<|ai (v:=I (j_:Int)) J J<|ai (v:=I (j_:Int)) J J<|k<|iq (cY.at_ 0 J) J J J J aj cS aS ?_
   intro g1 x0 iC aI cD
   refine k<|qf cY 0 J iC J aj aS J J J J (RV.int.2 ⟨J,aT⟩) ?_
   intro eB (dW:HI M w eB (own w.heap.size 3 (.slice (some ⟨g0,0,none⟩) U.length U.length) (nK.set ((j_:Int).toNat) (j_:Int))::ck))
   refine z<|aF<|nx<|rg<|k<|add J J gF J aT<|ai (v:=I ((j_:Int)+1)) J J<|z<|bG _ ?_ ⟨(j_+1),(nK.set ((j_:Int).toNat) (j_:Int)),J,s9,eC,fj,fT,fS,(bN J),dW,aj,(by rw[amA];exact ahp)⟩
   omega
  refine ex<|aV<|bf<|bh<|cV<|k<|cI cY 2 J bp J fj au J<|ai J fT<|k ?_
  have S':(U.length:Nat)=nK.length:=K1<|cY.at_ 0 J
  have dW:HI M w dP (oL w 3 (some ⟨g0,0,none⟩) nK U.length::ck):=by simpa +zetaDelta only[oL,sL,S'] using cY
  have dQ:=dW.freeze 0 J
  have ff:=ym (mn:=sF) (mr:=tS) (nd:=nK) dQ.mb (hT.ext dQ.below) bo (dQ.rv 1 J) (dQ.rv 0 J) bo aj
  refine ca Qo J (ec J<|ec (Eq.trans (b:=(.slice (some ⟨g0,0,none⟩) U.length U.length:Value)) rfl (amz (fun n_=>Value.slice (some ⟨g0,0,none⟩) n_ U.length) S')) e0) ff ?_
  rintro _ eB ⟨jH,jF,rfl,mA,rA⟩
  have cQ:=cY.eS<|bj.anyM rA
  refine ai (v:=.tuple #[sL jH ((dE sF tS nK).1) jF,I ((dE sF tS nK).2)]) J J<|k<|xt J J J<|k<|xt J J J<|aR ac9 J eC<|k<|bw cQ 4 J qv J J J J J J J ?_
  let J9:=own w.heap.size 3 (.slice (some ⟨g0,0,none⟩) U.length U.length) nK
  let dZ:=box fq #[I lv,I ((U.length:Nat):Int),sL a0 (cC U fo) c0,sL jH ((dE sF tS nK).1) jF,.slice none 0 0] 30
  intro fE (eh:HI M w fE (oL w 3 jH ((dE sF tS nK).1) jF::J9::J7::J8::dZ::bc))
  refine bz<|k<|cI eh 4 J vK J eC au J<|k<|bw eh 9 J vK J J s9 J J J J ?_
  intro iU (dO:HI M w iU [oL w 3 jH ((dE sF tS nK).1) jF,J9,J7,J8,dZ,J4,J5,J0,J1,box ba #[I lv,I ((U.length:Nat):Int),sL a0 (cC U fo) c0,sL jH ((dE sF tS nK).1) jF,.slice none 0 0] 30,J2])
  refine ak (v:=I 0) J J<|aq<|rt<|aK<|iA dO 9 J vK J J J s9 J au ?_
  have e2:(cC U fo:List (List bt))=(cC U fo):=rfl
  have e3:((dE sF tS nK).1:aA)=((dE sF tS nK).1):=rfl
  have bu:=ny (fun (gQ:List (List bt)) (mM:aA)=>(.tuple #[.agg #[I lv,I ((U.length:Nat):Int),.slice a0 gQ.length c0,.slice jH mM.length jF,.slice none ([]:List aA).length 0],I 0]:Value)) e2 e3
  exact⟨((U.length:Nat):Int),(cC U fo),((dE sF tS nK).1),([]:List aA),a0,c0,jH,jF,none,0,bu,dO.below,(amz (fun (x_:List (List bt))=>RV _ _ (.slice a0 x_.length c0) x_) e2).mp (dO.gm 6 J),(amz (fun (x_:aA)=>RV _ _ (.slice jH x_.length jF) x_) e3).mp (dO.mu 0 J),(eH _ _)⟩
 have p0:=dF b0
 refine sk<|nx<|sq<|az<|aR fF J J<|bq H8 6 J iZ J J J<|k<|ef J J jv<|ai (v:=I 0) J J<|aq<|bk ?_
 have H9:=H8.rB aA 27
 let jk:=[J5,J0,J1,J3,J2]
 refine lp (fun m f w'=>∃(j_:Nat) (v8:List aA) (a1:OA) (c1:Nat),m=U.length-j_∧f 1=I lv∧f 4=pV ba 0∧f 6=pV bL 0∧f 8=pV fq 0∧f 65=I (U.length:Int)∧f 66=I (j_:Int)∧HI M w w' (oL w 27 a1 v8 c1::box fq #[I lv,I ((U.length:Nat):Int),sL a0 (cC U fo) c0,.slice none 0 0,sL a1 v8 c1] 30::box bL #[.slice aC aD aB,sL aw U av,sL ay fo ax,I ((U.length:Nat):Int),sL a0 (cC U fo) c0] 107::jk)∧(j_≤U.length)∧(v8.length≤j_)) _ ⟨0,([]:List aA),none,0,J,i1,J,J,J,J,(bN J),H9,aj,(by exact amD _)⟩ ?_
 rintro _ f0 w5 ⟨j_,v8,a1,c1,rfl,s0,s1,s2,s3,s4,s5,dz,pk,HB⟩
 refine az<|k<|lss J J s5 s4<|aq<|sq<|cd (b:=decide ((j_:Int)<(U.length:Int))) J J (fun b1=>?_)<|fun b1=>?_
 ·
  have p1:=dT b1
  refine sk<|nx<|sq<|bk<|az<|ai J s5<|ak (v:=I (j_:Int)) J J<|z<|nx<|ma [.r,.r,.r,.r,.r,.r,.r,.e,.f,.e] (fun _=>True) J aU (fun _ _=>trivial)<|yq J J<|kq (fun _ _=>fa S2 J s3 e1)<|bQ<|kq (fun _ x_=>lx (dz.ext x_) 1 J aar J J J e1)<|bQ<|kq (fun _ _=>mv J s2 e1)<|bQ<|kq (fun _ _=>mv (v:=I (j_:Int)) J J e1)<|bQ<|kq (fun _ _=>mv J s0 e1)<|zq<|yu J (fun _ v w'=>∃(o0:aA) (a2:OA) (c2:Nat),v=sL a2 o0 c2∧o0.length≤300000∧RV (fun c_=>c_<w5.heap.size) w' (sL a2 o0 c2) o0) J (mN<|by rintro _ _ _ x_ ⟨o0,a2,c2,e_,q0,ep⟩;exact⟨o0,a2,c2,e_,q0,ep.lift (Up.ext x_)⟩) J (fun v_ _ x_ _=>have fP:=V5 (U:=U) (fo:=fo) (cn:=((U.length:Nat):Int)) (cr:=(cC U fo)) (o:=(j_:Int)) (lv:=lv) (w:=v_) (M:=fun _=>False) (fun _ h_=>h_.elim) (hT.ext (dz.ext x_).below) (((dz.ext x_).rv 4 rfl).lift (Up.less fun _ _ h_=>h_.elim)) (((dz.ext x_).rv 5 rfl).lift (Up.less fun _ _ h_=>h_.elim)) aT (((dz.ext x_).rv 3 rfl).lift (Up.less fun _ _ h_=>h_.elim)) aT mZ ⟨(dz.ext x_).at_ 2 rfl,fun h_=>h_⟩ (by exact ho) (by exact dC) (by exact eD) (by exact fK) (by rfl) (by rfl) aj;ca aio rfl (ec J<|ec J<|ec J e0) fP (fun _ w7 ⟨o1,a3,c3,e_,iz,ei,q1⟩=>⟨_,J,iz,⟨o1,a3,c3,e_,q1,(bj.rvN ei x_)⟩⟩))<|lE J (fun _ v w'=>∃(o2:aA) (a5:OA) (c5:Nat),v=sL a5 ([o2]:List aA) c5∧o2.length≤300000∧RV dz.gh w' (sL a5 ([o2]:List aA) c5) ([o2]:List aA)) 0 J J (mN<|by rintro _ _ _ x_ ⟨o2,a5,c5,e_,q2,jW⟩;exact⟨o2,a5,c5,e_,q2,jW.lift (Up.ext x_)⟩) J (fun v_ N_ u_ x_ n_ h_=>?_) ?_
  ·
   have cQ:=dz.ext x_
   obtain⟨o3,a6,c6,s6,q3,iH⟩:=h_
   have eh:=cQ.put (it:=iL a6 o3 c6) J<|KH iH dz
   refine bs (xs:=([o3]:List aA)) (cells:=#[sL a6 o3 c6]) (e:=27) eh J (cz s6 eI) (fun _=>aU) ⟨[sL a6 o3 c6],[],J,⟨_,J,RV.list.1 (eh.rv 0 J)⟩,J⟩ J au ?_
   intro g1 w9 ki (dO:HI M w w9 (own w.heap.size 27 (.slice (some ⟨g1,0,none⟩) 1 1) ([o3]:List aA)::iL a6 o3 c6::oL w 27 a1 v8 c1::box fq #[I lv,I ((U.length:Nat):Int),sL a0 (cC U fo) c0,.slice none 0 0,sL a1 v8 c1] 30::bc))
   have fg:=dO.freeze 0 J
   exact⟨_,J,ki,⟨o3,(some ⟨g1,0,none⟩),1,J,q3,(mJ J<|mJ J<|fg.rv 0 J)⟩⟩
  refine ye<|yf J (fun _ _=>fa S2 J s3 e3)<|ye<|yz ?_
  intro dP f1 _ mA _ _ cK iK
  have fz:=dz.ext mA
  have s7:=(cK 1 J).trans s0
  have s8:=(cK 4 J).trans s1
  have s9:=(cK 6 J).trans s2
  have eC:=(cK 8 J).trans s3
  have fj:=(cK 65 J).trans s4
  have fT:=(cK 66 J).trans s5
  have fS:=cK 70 J
  obtain⟨o4,a7,c7,gF,q4,kR⟩:=iK 0 _ _ rfl
  let eP:=iL a7 ([o4]:List aA) c7
  have gS:=fz.put (it:=eP) J kR
  have gW:=cK 77 J
  refine j8<|me gS 1 J J J J fS gF (gS.rv 0 J).src ag6 qv J (by simp only[iB,gj];omega) J ?_
  intro a8 c8 eB (iY:HI M w eB (eP::oL w 27 a8 (v8++([o4]:List aA)) c8::box fq #[I lv,I ((U.length:Nat):Int),sL a0 (cC U fo) c0,.slice none 0 0,sL a1 v8 c1] 30::bc))
  refine j8<|bw iY 2 J aar J J gW J J J J ?_
  let gp:=box fq #[I lv,I ((U.length:Nat):Int),sL a0 (cC U fo) c0,.slice none 0 0,sL a8 (v8++([o4]:List aA)) c8] 30
  let fL:=oL w 27 a8 (v8++([o4]:List aA)) c8::gp::bc
  intro fE (jz:HI M w fE (eP::fL))
  refine kz<|aF<|nx<|rg<|k<|add J J fT J aT<|ai (v:=I ((j_:Int)+1)) J J<|z ?_
  have n5:=jz.put (it:=J5) J<|jz.rv 4 J
  have jd:HI M w fE fL:=n5.bZ [2,3,4,0,6,7,8,9] au J
  refine bG _ ?_ ⟨(j_+1),(v8++([o4]:List aA)),a8,c8,J,s7,s8,s9,eC,fj,(bN J),jd,aj,(by rw[fN,iB,gj];omega)⟩
  omega
 refine ex<|aV<|bf<|bh<|cV<|k<|cI dz 1 J vK J s3 au J<|k<|bw dz 6 J vK J J s1 J J J J ?_
 intro w6 (cB:HI M w w6 [oL w 27 a1 v8 c1,box fq #[I lv,I ((U.length:Nat):Int),sL a0 (cC U fo) c0,.slice none 0 0,sL a1 v8 c1] 30,J4,J5,J0,J1,box ba #[I lv,I ((U.length:Nat):Int),sL a0 (cC U fo) c0,.slice none 0 0,sL a1 v8 c1] 30,J2])
 refine ak (v:=I 0) J J<|aq<|rt<|iA cB 6 J vK J J J s1 J au ?_
 have e2:(cC U fo:List (List bt))=(cC U fo):=rfl
 have bu:=iD (fun (gQ:List (List bt))=>(.tuple #[.agg #[I lv,I ((U.length:Nat):Int),.slice a0 gQ.length c0,.slice none ([]:aA).length 0,.slice a1 v8.length c1],I 0]:Value)) e2
 exact⟨((U.length:Nat):Int),(cC U fo),([]:aA),v8,a0,c0,none,0,a1,c1,bu,cB.below,(amz (fun (x_:List (List bt))=>RV _ _ (.slice a0 x_.length c0) x_) e2).mp (cB.gm 3 J),(eH _ _),(cB.mu 0 J)⟩
theorem Ex (mZ:aL lv):Calls aJ 21 #[I lv] w (cA fun v w'=>v=.bool (decide (0<(((dS lv).length:Nat):Int)))∧Ext w w'):=by
 refine dH 7 Tryz.func21 J J J pI fun f0 ha H=>?_
 have i0:f0 0=I lv:=ha 0 bm
 refine az<|ak (v:=.bool false) J J<|bz<|ai J i0<|k ?_
 have bT:=Jd (lv:=lv) (w:=w) H.mb mZ
 refine ca acS J (ec J e0) bT ?_
 rintro _ w0 ⟨a0,c0,rfl,bY,cE⟩
 have H0:=H.eS cE
 refine k<|ef J J cS<|k<|gtr J J J J<|ak (v:=.bool (decide (0<((dS lv).length:Int)))) J J<|aq<|rt<|r1 J J ?_
 exact⟨amz Value.bool (show (decide (0<((dS lv).length:Int)))=(decide (0<(((dS lv).length:Nat):Int))) from rfl),H0.below⟩
theorem JA:ey aJ 101 2 true 16 (.agg #[.int .i64 0,.int .i64 0]):=⟨aU,aU⟩
theorem aej:Jg aJ 101 [some (0,0),some (1,0)]:=⟨aU,aU,aU,aU⟩
theorem abg:Ig aJ 99:=U4 (by kernel_rfl:aJ.underlying 99=some (.map 101 3)) (zm aej) aS
theorem aec:aJ.underlying 134=some (.array 2 3):=aU
theorem afx:T6 aJ 134:=arF aec B2 aU aU aU
theorem W6:Ig aJ 132:=U4 (by kernel_rfl:aJ.underlying 132=some (.map 134 3)) (PV afx) aS
theorem ais:cH aJ 52:=cN Tryz.func52
theorem Mf (hM:eU M w) (dG:cL M w aw av U):Calls aJ 27 #[.agg #[.slice aC aD aB,sL aw U av,.slice ay fc ax]] w (cA fun v w'=>v=.tuple #[I ((da U).1),I ((da U).2.1),I ((da U).2.2)]∧Ext w w'):=by
 refine dH 46 Tryz.func27 J J J hM fun f0 ha H=>?_
 let J0:=iL aw U av
 have H0:=H.put (it:=J0) J<|by rw[bS];exact dG
 have iS:=bl dG
 have i0:f0 0=.agg #[.slice aC aD aB,sL aw U av,.slice ay fc ax]:=ha 0 bm
 refine az<|k<|bx H0 J i0 ?_
 intro aZ w0 bY (H1:HI M w w0 [box aZ #[.slice aC aD aB,sL aw U av,.slice ay fc ax] 47,J0])
 let J1:=box aZ #[.slice aC aD aB,sL aw U av,.slice ay fc ax] 47
 refine ak (v:=I 0) J J<|ak (v:=I 0) J J<|ak (v:=I 0) J J<|bz<|k<|mm H1 ?_
 intro dK w1 dy (H2:HI M w w1 [cj dK ([]:KV),J1,J0])
 refine ak (v:=.map (some dK)) J J<|aq<|sq<|az<|aR fF J J<|bq H2 1 J iZ J J J<|k<|ef J J jv<|ai (v:=I 0) J J<|aq<|bk<|lp (fun m f w'=>∃(j:Nat) (jX:KV),m=U.length-j∧f 5=.map (some dK)∧f 13=sL aw U av∧f 14=I (U.length:Int)∧f 15=I (j:Int)∧HI M w w' [cj dK jX,J1,J0]∧(j≤U.length)∧(∀k,k<j→nj U k=false)∧(tO U j jX)) _ ⟨0,([]:KV),J,J,J,J,(bN J),H2,aj,(by intro k hk;omega),(by exact GP _)⟩ ?_
 rintro _ f0 w2 ⟨j,jX,rfl,s0,s1,s2,s3,H3,hk,hs,hm⟩
 refine az<|k<|lss J J s3 s2<|aq<|sq<|cd (b:=decide ((j:Int)<(U.length:Int))) J J (fun b0=>?_)<|fun b0=>?_
 ·
  have p0:=dT b0
  refine sk<|nx<|sq<|bk<|az<|ai J s3<|k<|ia (H3.rv 2 J) J J s1 s3 aj jv jB ?_
  intro iE x0 aI cD
  refine k<|nr cD.w jB J J ?_
  intro v0 cE
  obtain⟨_,⟨_,_,rfl,⟨rfl,ep⟩,⟨_,_,rfl,⟨rfl,ei⟩,⟨_,_,rfl,rfl,⟨_,_,rfl,⟨rfl,fB⟩,⟨rfl,ja⟩⟩⟩⟩⟩,rfl⟩:=cE
  refine k<|al H3 jB ?_
  let bc:=[cj dK jX,J1,J0]
  intro ba w3 fe (H4:HI M w w3 (box ba #[I 0,I 0,.bool false,I 0,I 0] 95::bc))
  refine ak (v:=I (j:Int)) J J<|k<|bw H4 0 J jB J J J J J J J ?_
  let J2:=box ba #[I x0.1,I x0.2.1,.bool x0.2.2.1,I x0.2.2.2.1,I x0.2.2.2.2] 95
  intro w4 (H5:HI M w w4 (J2::bc))
  refine aq<|sq<|az<|aR vt J J<|bq H5 0 J oo J J J<|k<|kg J J<|z<|nx<|cd (b:=!x0.2.2.1) J J (fun b1=>?_)<|fun b1=>?_
  ·
   refine ex<|aV<|bh<|nx<|rg<|k<|add J J s3 J aT<|ai (v:=I ((j:Int)+1)) J J<|z ?_
   have H6:HI M w w4 bc:=H5.bZ [1,2,3] au J
   refine bG _ ?_ ⟨(j+1),jX,J,s0,s1,s2,(bN J),H6,aj,(by exact Bp hs aI (Mt<|by simpa using b1)),(by exact Er hm aI (by simpa using b1))⟩
   omega
  refine sk<|nx<|sq<|az<|aR rQ J J<|bq H5 0 J aS J J J<|k<|eql J J J J<|z<|nx<|cd (b:=decide (x0.2.2.2.2=0)) J J (fun b2=>?_)<|fun b2=>?_
  ·
   have p2:=dT b2
   refine az<|ai (v:=I (j:Int)) J J<|ai (v:=I (j:Int)) J J<|ak (v:=I (j:Int)) J J<|ak (v:=I (j:Int)) J J<|ak (v:=I 5) J J<|aq<|rt<|aK<|bU<|aK<|ee<|bU<|aK<|r3 J J J J ?_
   have e0:((j:Int):Int)=(da U).1:=by exact(amz (fun z_:Int×Int×Int=>z_.1)<|uN hs aI (by simpa using b1) p2).symm
   have e1:((j:Int):Int)=(da U).2.1:=by exact(amz (fun z_:Int×Int×Int=>z_.2.1)<|uN hs aI (by simpa using b1) p2).symm
   have e2:(5:Int)=(da U).2.2:=by exact(amz (fun z_:Int×Int×Int=>z_.2.2)<|uN hs aI (by simpa using b1) p2).symm
   have bu:=qX (fun (cq:Int) (dX:Int) (gQ:Int)=>(.tuple #[I cq,I dX,I gQ]:Value)) e0 e1 e2
   exact⟨bu,H5.below⟩
  have p2:=dF b2
  refine sk<|cV<|aR tD J J<|bq H5 0 J aS J J J<|aR rQ J J<|bq H5 0 J aS J J J<|k<|bd (v:=.agg #[I x0.2.2.2.1,I x0.2.2.2.2]) J (cz J<|cz J eI) (fun _=>aU)<|k<|al H5 JA ?_
  intro bL w5 fA (H6:HI M w w5 (box bL #[I 0,I 0] 101::J2::bc))
  refine k<|bw H6 0 J JA J J J J J J J ?_
  intro w6 (H7:HI M w w6 (box bL #[I x0.2.2.2.1,I x0.2.2.2.2] 101::J2::bc))
  refine aq<|sq<|az<|ai J s0<|k<|cI H7 0 J JA J J au J<|k<|W8 (k:=(x0.2.2.2.1,x0.2.2.2.2)) abg H7 2 J J J J J ?_
  intro jW
  refine ai (v:=.tuple #[I ((getM jX (x0.2.2.2.1,x0.2.2.2.2)).getD 0),.bool ((getM jX (x0.2.2.2.1,x0.2.2.2.2)).isSome)]) J J<|k<|xt J J J<|k<|xt J J J<|ak (v:=I ((getM jX (x0.2.2.2.1,x0.2.2.2.2)).getD 0)) J J<|ak (v:=.bool ((getM jX (x0.2.2.2.1,x0.2.2.2.2)).isSome)) J J<|bz<|ai (v:=.bool ((getM jX (x0.2.2.2.1,x0.2.2.2.2)).isSome)) J J<|z<|nx<|cd (b:=(getM jX (x0.2.2.2.1,x0.2.2.2.2)).isSome) J J (fun b3=>?_)<|fun b3=>?_
  ·
   refine az<|ai (v:=I ((getM jX (x0.2.2.2.1,x0.2.2.2.2)).getD 0)) J J<|ai (v:=I (j:Int)) J J<|ak (v:=I ((getM jX (x0.2.2.2.1,x0.2.2.2.2)).getD 0)) J J<|ak (v:=I (j:Int)) J J<|ak (v:=I 4) J J<|aq<|rt<|aK<|bU<|aK<|ee<|bU<|aK<|r3 J J J J ?_
   have e0:((getM jX (x0.2.2.2.1,x0.2.2.2.2)).getD 0:Int)=(da U).1:=by exact(AM hm aI b3).1.trans (amz (fun z_:Int×Int×Int=>z_.1)<|sR hs aI (by simpa using b1) p2 (AM hm aI b3).2).symm
   have e1:((j:Int):Int)=(da U).2.1:=by exact(amz (fun z_:Int×Int×Int=>z_.2.1)<|sR hs aI (by simpa using b1) p2 (AM hm aI b3).2).symm
   have e2:(4:Int)=(da U).2.2:=by exact(amz (fun z_:Int×Int×Int=>z_.2.2)<|sR hs aI (by simpa using b1) p2 (AM hm aI b3).2).symm
   have bu:=qX (fun (cq:Int) (dX:Int) (gQ:Int)=>(.tuple #[I cq,I dX,I gQ]:Value)) e0 e1 e2
   exact⟨bu,H7.below⟩
  refine sk<|nx<|rg<|ai J s0<|k<|cI H7 0 J JA J J au J<|ai (v:=I (j:Int)) J J<|k<|W4 (k:=(x0.2.2.2.1,x0.2.2.2.2)) abg H7 2 J J J J J J J aT ?_
  let J3:=cj dK (jn jX (x0.2.2.2.1,x0.2.2.2.2) (j:Int))
  intro w7 (H8:HI M w w7 [box bL #[I x0.2.2.2.1,I x0.2.2.2.2] 101,J2,J3,J1,J0])
  refine z<|aF<|nx<|rg<|k<|add J J s3 J aT<|ai (v:=I ((j:Int)+1)) J J<|z ?_
  have H9:HI M w w7 [J3,J1,J0]:=H8.bZ [2,3,4] au J
  refine bG _ ?_ ⟨(j+1),(jn jX (x0.2.2.2.1,x0.2.2.2.2) (j:Int)),J,s0,s1,s2,(bN J),H9,aj,(by exact Bp hs aI (Mu p2<|by rw[(NK hm aI (by simpa using b1) b3).2];omega)),(by exact GM hm aI (by simpa using b1) (NK hm aI (by simpa using b1) b3).1)⟩
  omega
 have p0:=dF b0
 refine ex<|aV<|bf<|bh<|cV<|ak (v:=I 0) J J<|ak (v:=I 0) J J<|ak (v:=I 0) J J<|aq<|rt<|r3 J J J J ?_
 have e0:(0:Int)=(da U).1:=by exact(amz (fun z_:Int×Int×Int=>z_.1)<|wZ hs aj).symm
 have e1:(0:Int)=(da U).2.1:=by exact(amz (fun z_:Int×Int×Int=>z_.2.1)<|wZ hs aj).symm
 have e2:(0:Int)=(da U).2.2:=by exact(amz (fun z_:Int×Int×Int=>z_.2.2)<|wZ hs aj).symm
 have bu:=qX (fun (cq:Int) (dX:Int) (gQ:Int)=>(.tuple #[I cq,I dX,I gQ]:Value)) e0 e1 e2
 exact⟨bu,H3.below⟩
theorem Nf (hM:eU M w) (dG:cL M w aw av U) (dC:U.length≤4096):Calls aJ 52 #[.agg #[.slice aC aD aB,sL aw U av,.slice ay fc ax]] w (cA fun v w'=>∃(a0:OA) (c0:Nat),v=.slice a0 (gM U).length c0∧Ext w w'∧bj M 3 w (gM U) (.slice a0 (gM U).length c0) w'):=by
 refine dH 76 Tryz.func52 J J J hM fun f0 ha H=>?_
 let J0:=iL aw U av
 have H0:=H.put (it:=J0) J<|by rw[bS];exact dG
 have iS:=bl dG
 have i0:f0 0=.agg #[.slice aC aD aB,sL aw U av,.slice ay fc ax]:=ha 0 bm
 refine az<|k<|bx H0 J i0 ?_
 intro aZ w0 bY (H1:HI M w w0 [box aZ #[.slice aC aD aB,sL aw U av,.slice ay fc ax] 47,J0])
 let J1:=box aZ #[.slice aC aD aB,sL aw U av,.slice ay fc ax] 47
 refine ak (v:=.slice none 0 0) J J<|bz<|k<|mm H1 ?_
 let bc:=[J1,J0]
 intro dK w1 dy (H2:HI M w w1 (cj dK ([]:KV)::bc))
 refine ak (v:=.map (some dK)) J J<|aq<|sq<|az<|aR fF J J<|bq H2 1 J iZ J J J<|k<|ef J J jv<|ai (v:=I 0) J J<|aq<|bk<|lp (fun m f w'=>∃(j:Nat) (jX:KV),m=U.length-j∧f 1=pV aZ 0∧f 3=.map (some dK)∧f 13=sL aw U av∧f 14=I (U.length:Int)∧f 15=I (j:Int)∧HI M w w' (cj dK jX::bc)∧(j≤U.length)∧(jX=uQ U j)) _ ⟨0,([]:KV),J,J,J,J,J,(bN J),H2,aj,(by rfl)⟩ ?_
 rintro _ f0 w2 ⟨j,jX,rfl,s0,s1,s2,s3,s4,H3,hk,hm⟩
 refine az<|k<|lss J J s4 s3<|aq<|sq<|cd (b:=decide ((j:Int)<(U.length:Int))) J J (fun b0=>?_)<|fun b0=>?_
 ·
  have p0:=dT b0
  refine sk<|nx<|sq<|bk<|az<|ai J s4<|k<|ia (H3.rv 2 J) J J s2 s4 aj jv jB ?_
  intro iE x0 aI cD
  refine k<|nr cD.w jB J J ?_
  intro v0 cE
  obtain⟨_,⟨_,_,rfl,⟨rfl,ep⟩,⟨_,_,rfl,⟨rfl,ei⟩,⟨_,_,rfl,rfl,⟨_,_,rfl,⟨rfl,fB⟩,⟨rfl,ja⟩⟩⟩⟩⟩,rfl⟩:=cE
  refine k<|al H3 jB ?_
  intro ba w3 fe (H4:HI M w w3 [box ba #[I 0,I 0,.bool false,I 0,I 0] 95,cj dK jX,J1,J0])
  refine ak (v:=I (j:Int)) J J<|k<|bw H4 0 J jB J J J J J J J ?_
  let J2:=box ba #[I x0.1,I x0.2.1,.bool x0.2.2.1,I x0.2.2.2.1,I x0.2.2.2.2] 95
  intro w4 (H5:HI M w w4 [J2,cj dK jX,J1,J0])
  refine bz<|aR vt J J<|bq H5 0 J oo J J J<|z<|nx<|cd (b:=x0.2.2.1) J J (fun b1=>?_)<|fun b1=>?_
  ·
   refine rg<|ai J s1<|aR tD J J<|bq H5 0 J aS J J J<|aR rQ J J<|bq H5 0 J aS J J J<|k<|bd (v:=.agg #[I x0.2.2.2.1,I x0.2.2.2.2]) J (cz J<|cz J eI) (fun _=>aU)<|ai (v:=I (j:Int)) J J<|k<|W4 (k:=(x0.2.2.2.1,x0.2.2.2.2)) W6 H5 1 J J J J J J J aT ?_
   let J3:=cj dK (jn jX (x0.2.2.2.1,x0.2.2.2.2) (j:Int))
   intro w5 (H6:HI M w w5 [J2,J3,J1,J0])
   refine z<|aF<|nx<|rg<|k<|add J J s4 J aT<|ai (v:=I ((j:Int)+1)) J J<|z ?_
   have H7:HI M w w5 (J3::bc):=H6.bZ [1,2,3] au J
   refine bG _ ?_ ⟨(j+1),(jn jX (x0.2.2.2.1,x0.2.2.2.2) (j:Int)),J,s0,s1,s2,s3,(bN J),H7,aj,(by rw[hm];first|exact zl aI b1|exact A7 aI b1)⟩
   omega
  refine sk<|aF<|nx<|rg<|k<|add J J s4 J aT<|ai (v:=I ((j:Int)+1)) J J<|z ?_
  have H6:HI M w w4 (cj dK jX::bc):=H5.bZ [1,2,3] au J
  refine bG _ ?_ ⟨(j+1),jX,J,s0,s1,s2,s3,(bN J),H6,aj,(by rw[hm];first|exact zl aI b1|exact A7 aI b1)⟩
  omega
 have p0:=dF b0
 refine ex<|aV<|bf<|bh<|cV<|aR fF J s0<|bq H3 1 J iZ J J J<|k<|ef J J jv<|k<|mk (m:=U.length) (zx:=(0:Int)) H3 J J J J cS aS (fun _ _=>⟨J,by unfold aL;omega⟩) aj aj ?_
 let J4:=cj dK jX
 let ck:=J4::bc
 intro g0 w3 fe (H4:HI M w w3 (own w.heap.size 3 (.slice (some ⟨g0,0,none⟩) U.length U.length) (List.replicate U.length (0:Int))::ck))
 refine ak (v:=sL (some ⟨g0,0,none⟩) U U.length) J J<|aq<|sq<|az<|aR fF J s0<|bq H4 2 J iZ J J J<|k<|ef J J jv<|ai (v:=I 0) J J<|aq<|bk<|lp (fun m f w'=>∃(q:Nat) (xs:aA),m=U.length-q∧f 3=.map (some dK)∧f 6=sL (some ⟨g0,0,none⟩) U U.length∧f 35=sL aw U av∧f 36=I (U.length:Int)∧f 37=I (q:Int)∧HI M w w' (own w.heap.size 3 (.slice (some ⟨g0,0,none⟩) U.length U.length) xs::ck)∧(q≤U.length)∧(xs.length=U.length)∧(xs=CW jX U q)) _ ⟨0,(List.replicate U.length (0:Int)),J,s1,J,J,J,(bN J),H4,aj,bm,(by exact SX _ _)⟩ ?_
 rintro _ f1 w4 ⟨q,xs,rfl,s5,s6,s7,s8,s9,H5,sI,hl,hs⟩
 refine az<|k<|lss J J s9 s8<|aq<|sq<|cd (b:=decide ((q:Int)<(U.length:Int))) J J (fun b1=>?_)<|fun b1=>?_
 ·
  have p1:=dT b1
  refine sk<|nx<|sq<|bk<|az<|ai J s9<|k<|ia (H5.rv 3 J) J J s7 s9 aj jv jB ?_
  intro iE x0 aI cD
  refine k<|nr cD.w jB J J ?_
  intro v0 cE
  obtain⟨_,⟨_,_,rfl,⟨rfl,ep⟩,⟨_,_,rfl,⟨rfl,ei⟩,⟨_,_,rfl,rfl,⟨_,_,rfl,⟨rfl,fB⟩,⟨rfl,ja⟩⟩⟩⟩⟩,rfl⟩:=cE
  refine k<|al H5 jB ?_
  let J5:=own w.heap.size 3 (.slice (some ⟨g0,0,none⟩) U.length U.length) xs
  intro ba w5 fA (H6:HI M w w5 (box ba #[I 0,I 0,.bool false,I 0,I 0] 95::J5::ck))
  refine ak (v:=I (q:Int)) J J<|k<|bw H6 0 J jB J J J J J J J ?_
  let J6:=box ba #[I x0.1,I x0.2.1,.bool x0.2.2.1,I x0.2.2.2.1,I x0.2.2.2.2] 95
  intro w6 (H7:HI M w w6 (J6::J5::ck))
  refine bz<|ai J s5<|aR tD J J<|bq H7 0 J aS J J J<|aR rQ J J<|bq H7 0 J aS J J J<|k<|bd (v:=.agg #[I x0.2.2.2.1,I x0.2.2.2.2]) J (cz J<|cz J eI) (fun _=>aU)<|k<|W8 (k:=(x0.2.2.2.1,x0.2.2.2.2)) W6 H7 2 J J J J J ?_
  intro jW
  refine ai (v:=.tuple #[I ((getM jX (x0.2.2.2.1,x0.2.2.2.2)).getD 0),.bool ((getM jX (x0.2.2.2.1,x0.2.2.2.2)).isSome)]) J J<|k<|xt J J J<|k<|xt J J J<|ak (v:=I ((getM jX (x0.2.2.2.1,x0.2.2.2.2)).getD 0)) J J<|ak (v:=.bool ((getM jX (x0.2.2.2.1,x0.2.2.2.2)).isSome)) J J<|aq<|bk<|az<|aR vt J J<|bq H7 0 J oo J J J<|ak (v:=.bool x0.2.2.1) J J<|z<|nx<|cd (b:=x0.2.2.1) J J (fun b2=>?_)<|fun b2=>?_
  ·
   refine rg<|ai J s6<|ai (v:=I (q:Int)) J J<|k<|iq (H7.at_ 1 J) J J J J aj cS aS ?_
   intro g1 x1 iC bV gG
   refine k<|qf H7 1 J iC J aj aS J J J J (RV.int.2 ⟨J,aT⟩) ?_
   let J7:=own w.heap.size 3 (.slice (some ⟨g0,0,none⟩) U.length U.length) (xs.set ((q:Int).toNat) (-3))
   intro w7 (H8:HI M w w7 (J6::J7::ck))
   refine z<|aF<|aF<|nx<|rg<|k<|add J J s9 J aT<|ai (v:=I ((q:Int)+1)) J J<|z ?_
   have H9:HI M w w7 (J7::ck):=H8.bZ [1,2,3,4] au J
   refine bG _ ?_ ⟨(q+1),(xs.set ((q:Int).toNat) (-3)),J,s5,s6,s7,s8,(bN J),H9,aj,(by simpa using hl),(by rw[hs];first|exact jT aI (JO b2)|exact jT aI (JR b2 p3)|exact jT aI (JP b2 p3 b4)|exact jT aI (JQ b2 p3 b4))⟩
   omega
  refine az<|aR rQ J J<|bq H7 0 J aS J J J<|k<|eql J J J J<|ak (v:=.bool (decide (x0.2.2.2.2=0))) J J<|z<|nx<|cd (b:=decide (x0.2.2.2.2=0)) J J (fun b3=>?_)<|fun b3=>?_
  ·
   have p3:=dT b3
   refine rg<|ai J s6<|ai (v:=I (q:Int)) J J<|k<|iq (H7.at_ 1 J) J J J J aj cS aS ?_
   intro g1 x1 iC bV gG
   refine k<|qf H7 1 J iC J aj aS J J J J (RV.int.2 ⟨J,aT⟩) ?_
   let J8:=own w.heap.size 3 (.slice (some ⟨g0,0,none⟩) U.length U.length) (xs.set ((q:Int).toNat) (-1))
   intro w7 (H8:HI M w w7 (J6::J8::ck))
   refine z<|aF<|aF<|nx<|rg<|k<|add J J s9 J aT<|ai (v:=I ((q:Int)+1)) J J<|z ?_
   have H9:HI M w w7 (J8::ck):=H8.bZ [1,2,3,4] au J
   refine bG _ ?_ ⟨(q+1),(xs.set ((q:Int).toNat) (-1)),J,s5,s6,s7,s8,(bN J),H9,aj,(by simpa using hl),(by rw[hs];first|exact jT aI (JO b2)|exact jT aI (JR b2 p3)|exact jT aI (JP b2 p3 b4)|exact jT aI (JQ b2 p3 b4))⟩
   omega
  have p3:=dF b3
  refine az<|ai (v:=.bool ((getM jX (x0.2.2.2.1,x0.2.2.2.2)).isSome)) J J<|ak (v:=.bool ((getM jX (x0.2.2.2.1,x0.2.2.2.2)).isSome)) J J<|z<|nx<|cd (b:=(getM jX (x0.2.2.2.1,x0.2.2.2.2)).isSome) J J (fun b4=>?_)<|fun b4=>?_
  ·
   refine rg<|ai J s6<|ai (v:=I (q:Int)) J J<|ai (v:=I ((getM jX (x0.2.2.2.1,x0.2.2.2.2)).getD 0)) J J<|k<|iq (H7.at_ 1 J) J J J J aj cS aS ?_
   intro g1 x1 iC bV gG
   refine k<|qf H7 1 J iC J aj aS J J J J (RV.int.2 ⟨J,aT⟩) ?_
   let J9:=own w.heap.size 3 (.slice (some ⟨g0,0,none⟩) U.length U.length) (xs.set ((q:Int).toNat) ((getM jX (x0.2.2.2.1,x0.2.2.2.2)).getD 0))
   intro w7 (H8:HI M w w7 (J6::J9::ck))
   refine z<|aF<|aF<|nx<|rg<|k<|add J J s9 J aT<|ai (v:=I ((q:Int)+1)) J J<|z ?_
   have H9:HI M w w7 (J9::ck):=H8.bZ [1,2,3,4] au J
   refine bG _ ?_ ⟨(q+1),(xs.set ((q:Int).toNat) ((getM jX (x0.2.2.2.1,x0.2.2.2.2)).getD 0)),J,s5,s6,s7,s8,(bN J),H9,aj,(by simpa using hl),(by rw[hs];first|exact jT aI (JO b2)|exact jT aI (JR b2 p3)|exact jT aI (JP b2 p3 b4)|exact jT aI (JQ b2 p3 b4))⟩
   omega
  refine rg<|ai J s6<|ai (v:=I (q:Int)) J J<|k<|iq (H7.at_ 1 J) J J J J aj cS aS ?_
  intro g1 x1 iC bV gG
  refine k<|qf H7 1 J iC J aj aS J J J J (RV.int.2 ⟨J,aT⟩) ?_
  let dZ:=own w.heap.size 3 (.slice (some ⟨g0,0,none⟩) U.length U.length) (xs.set ((q:Int).toNat) (-2))
  intro w7 (H8:HI M w w7 (J6::dZ::ck))
  refine z<|aF<|aF<|nx<|rg<|k<|add J J s9 J aT<|ai (v:=I ((q:Int)+1)) J J<|z ?_
  have H9:HI M w w7 (dZ::ck):=H8.bZ [1,2,3,4] au J
  refine bG _ ?_ ⟨(q+1),(xs.set ((q:Int).toNat) (-2)),J,s5,s6,s7,s8,(bN J),H9,aj,(by simpa using hl),(by rw[hs];first|exact jT aI (JO b2)|exact jT aI (JR b2 p3)|exact jT aI (JP b2 p3 b4)|exact jT aI (JQ b2 p3 b4))⟩
  omega
 have p1:=dF b1
 refine ex<|aV<|bf<|bh<|cV<|ai J s6<|ak (v:=sL (some ⟨g0,0,none⟩) U U.length) J J<|aq<|rt<|r1 J J ?_
 have e0:(xs:aA)=gM U:=by rw[hs,hm];unfold gM;rw[VI aj,show j=U.length from by omega]
 have l0:U.length=(gM U).length:=by rw[←e0];omega
 have bu:=iD (fun (va:Nat)=>(.slice (some ⟨g0,0,none⟩) va U.length:Value)) l0
 exact⟨(some ⟨g0,0,none⟩),U.length,bu,H5.below,(amz (fun (n_:Nat)=>bj _ _ _ (gM U) (.slice (some ⟨g0,0,none⟩) n_ U.length) _) l0).mp ((amz (fun (x_:aA)=>bj _ _ _ x_ (.slice (some ⟨g0,0,none⟩) U.length U.length) _) e0).mp (H5.du 0 J))⟩
theorem Ng (hM:eU M w) (Vt:cL M w aC aB fv) (dG:cL M w aw av U) (gl:cL M w ay ax fo) (dC:U.length≤4096):Calls aJ 28 #[.agg #[sL aC fv aB,sL aw U av,sL ay fo ax]] w (cA fun v w'=>∃(a0:OA) (c0:Nat) (a1:OA) (c1:Nat) (a2:OA) (c2:Nat),v=.agg #[sL a0 fv c0,sL a1 U c1,.slice a2 (gM U).length c2]∧Ext w w'∧cL M w' a0 c0 fv∧cL M w' a1 c1 U∧RV M w' (.slice a2 (gM U).length c2) (gM U)):=by
 refine dH 7 Tryz.func28 J J J hM fun f0 ha H=>?_
 let J0:=iL aC fv aB
 have H0:=H.put (it:=J0) J<|by rw[bS];exact Vt
 let J1:=iL aw U av
 have H1:=H0.put (it:=J1) J<|by rw[aH rfl,bS];exact dG
 let J2:=iL ay fo ax
 have H2:=H1.put (it:=J2) J<|by rw[aH rfl,aH rfl,bS];exact gl
 have i0:f0 0=.agg #[sL aC fv aB,sL aw U av,sL ay fo ax]:=ha 0 bm
 refine az<|k<|bx H2 J i0 ?_
 intro aZ w0 bY (H3:HI M w w0 [box aZ #[sL aC fv aB,sL aw U av,sL ay fo ax] 47,J2,J1,J0])
 refine k<|al H3 ej ?_
 intro ba w1 dy (H4:HI M w w1 [box ba #[.slice none 0 0,.slice none 0 0,.slice none 0 0] 47,box aZ #[sL aC fv aB,sL aw U av,sL ay fo ax] 47,J2,J1,J0])
 refine bz<|k<|cI H4 1 J ej J J au J<|k ?_
 have bT:=Nf (U:=U) (aC:=aC) (aD:=fv.length) (aB:=aB) (ay:=ay) (fc:=fo.length) (ax:=ax) H4.mb (H4.rv 3 J) bo
 refine ca ais J (ec J e0) bT ?_
 rintro _ w2 ⟨a0,c0,rfl,fe,cE⟩
 have H5:=H4.eS cE
 refine aR tG J J<|k<|bw H5 2 J qv J J J J J J J ?_
 let J3:=box aZ #[sL aC fv aB,sL aw U av,sL a0 (gM U) c0] 47
 intro w3 (H6:HI M w w3 [oL w 3 a0 (gM U) c0,box ba #[.slice none 0 0,.slice none 0 0,.slice none 0 0] 47,J3,J2,J1,J0])
 refine bz<|k<|cI H6 2 J ej J J au J<|k<|bw H6 1 J ej J J J J J J J ?_
 intro w4 (H7:HI M w w4 [oL w 3 a0 (gM U) c0,box ba #[sL aC fv aB,sL aw U av,sL a0 (gM U) c0] 47,J3,J2,J1,J0])
 refine aq<|rt<|pf H7 1 J ej J J J J au ?_
 exact⟨aC,aB,aw,av,a0,c0,J,H7.below,(H7.gm 5 J),(H7.gm 4 J),(H7.mu 0 J)⟩
theorem X1:cH aJ 114:=cN Tryz.func114
theorem aik:cH aJ 77:=cN Tryz.func77
theorem afb:cH aJ 113:=cN Tryz.func113
theorem aeW:cH aJ 146:=cN Tryz.func146
theorem afc:cH aJ 112:=cN Tryz.func112
theorem ain:cH aJ 74:=cN Tryz.func74
theorem ail:cH aJ 76:=cN Tryz.func76
theorem aim:cH aJ 75:=cN Tryz.func75
set_option maxRecDepth 100000 in
set_option maxHeartbeats 1600000 in
def Cz:Go.Shelf.Ren:=⟨fun|160=>114|232=>148|231=>147|227=>149|234=>151|233=>150|236=>153|235=>152|228=>172|271=>175|151=>174|197=>173|120=>188|152=>187|260=>186|137=>192|119=>193|224=>194|225=>195|217=>196|266=>197|n=>n,fun|9=>9|4=>4|3=>3|5=>5|117=>200|116=>199|0=>0|124=>203|21=>21|105=>220|46=>152|119=>244|139=>247|138=>246|n=>n,fun|3=>1|4=>2|n=>n⟩
theorem Ln:Go.Proofs.Lays.n160 aJ Cz:={
  mixed:=aU
  f119:=Tryz.func193.trans (amz some aU)
  f120:=Tryz.func188.trans (amz some aU)
  f137:=Tryz.func192.trans (amz some aU)
  f151:=Tryz.func174.trans (amz some aU)
  f152:=Tryz.func187.trans (amz some aU)
  f160:=Tryz.func114.trans (amz some aU)
  f197:=Tryz.func173.trans (amz some aU)
  f217:=Tryz.func196.trans (amz some aU)
  f224:=Tryz.func194.trans (amz some aU)
  f225:=Tryz.func195.trans (amz some aU)
  f227:=Tryz.func149.trans (amz some aU)
  f228:=Tryz.func172.trans (amz some aU)
  f231:=Tryz.func147.trans (amz some aU)
  f232:=Tryz.func148.trans (amz some aU)
  f233:=Tryz.func150.trans (amz some aU)
  f234:=Tryz.func151.trans (amz some aU)
  f235:=Tryz.func152.trans (amz some aU)
  f236:=Tryz.func153.trans (amz some aU)
  f260:=Tryz.func186.trans (amz some aU)
  f266:=Tryz.func197.trans (amz some aU)
  f271:=Tryz.func175.trans (amz some aU)
  t0:=Tryz.underlying0
  a0:=Tryz.isAgg0
  z0:=Tryz.sizeOf0
  v0:=Tryz.zeroValue0
  t3:=Tryz.underlying3
  a3:=Tryz.isAgg3
  z3:=Tryz.sizeOf3
  v3:=Tryz.zeroValue3
  t4:=Tryz.underlying4
  a4:=Tryz.isAgg4
  z4:=Tryz.sizeOf4
  v4:=Tryz.zeroValue4
  t5:=Tryz.underlying5
  a5:=Tryz.isAgg5
  z5:=Tryz.sizeOf5
  v5:=Tryz.zeroValue5
  t9:=Tryz.underlying9
  a9:=Tryz.isAgg9
  z9:=Tryz.sizeOf9
  v9:=Tryz.zeroValue9
  t21:=Tryz.underlying21
  a21:=Tryz.isAgg21
  z21:=Tryz.sizeOf21
  v21:=Tryz.zeroValue21
  t46:=Tryz.underlying152
  a46:=Tryz.isAgg152
  z46:=Tryz.sizeOf152
  v46:=Tryz.zeroValue152
  t105:=Tryz.underlying220
  a105:=Tryz.isAgg220
  z105:=Tryz.sizeOf220
  v105:=Tryz.zeroValue220
  t116:=Tryz.underlying199
  a116:=Tryz.isAgg199
  z116:=Tryz.sizeOf199
  t117:=Tryz.underlying200
  a117:=Tryz.isAgg200
  z117:=Tryz.sizeOf200
  v117:=Tryz.zeroValue200
  t119:=Tryz.underlying244
  a119:=Tryz.isAgg244
  z119:=Tryz.sizeOf244
  t124:=Tryz.underlying203
  a124:=Tryz.isAgg203
  z124:=Tryz.sizeOf203
  v124:=Tryz.zeroValue203
  t138:=Tryz.underlying246
  a138:=Tryz.isAgg246
  z138:=Tryz.sizeOf246
  v138:=Tryz.zeroValue246
  t139:=Tryz.underlying247
  a139:=Tryz.isAgg247
  z139:=Tryz.sizeOf247
  v139:=Tryz.zeroValue247
  g3:=aU
  g4:=by kernel_rfl}
theorem B7 (la:s.size≤maxLen) (ah5:cs.size≤maxLen) (Fp:QU cs):Calls aJ 114 #[.string s,.string cs] w (cA fun v w'=>v=.string (trimB s cs)∧Ext w w'):=by
  have LZ:(aJ.info? (Cz.t 116)).map (fun i=>(i.zero,i.size))=some (some (.agg (Array.replicate 256 (.bool false))),256):=aU
  by_cases h0:s.size=0
  · refine(Go.Proofs.Any.strings_Trim_empty Ln s cs w<|.inl h0).mono ?_
    rintro e w' ⟨rfl,rfl⟩
    unfold cA
    refine⟨_,J,?_,Ext.refl _⟩
    have hs:s.data.toList=[]:=by rw[←anC,ang];exact h0
    unfold trimB
    rw[hs]
    refine amz Value.string ?_
    cases s with|mk a=>exact amz ByteArray.mk (aoj h0)
  · refine(Go.Proofs.Any.strings_Trim_set Ln (zero_of_info LZ).1 (zero_of_info LZ).2 s cs w Fp.two aj la Fp.low Fp.asc).mono ?_
    rintro e w' ⟨rfl,q,rfl⟩
    unfold cA
    exact⟨_,J,J,((Ext.alloc w _).trans (Ext.alloc _ _)).trans (S8 _ q)⟩
set_option maxRecDepth 100000 in
set_option maxHeartbeats 1600000 in
def xF:Go.Shelf.Ren:=⟨fun|161=>144|231=>147|227=>149|233=>150|235=>152|228=>172|197=>173|151=>174|260=>186|152=>187|137=>192|119=>193|224=>194|225=>195|217=>196|266=>197|n=>n,fun|9=>9|4=>4|3=>3|5=>5|117=>200|116=>199|0=>0|124=>203|105=>220|21=>21|119=>244|46=>152|139=>247|138=>246|n=>n,fun|3=>1|4=>2|n=>n⟩
theorem CA:Go.Proofs.Lays.n161 aJ xF:={
  mixed:=aU
  f119:=Tryz.func193.trans (amz some aU)
  f137:=Tryz.func192.trans (amz some aU)
  f151:=Tryz.func174.trans (amz some aU)
  f152:=Tryz.func187.trans (amz some aU)
  f161:=Tryz.func144.trans (amz some aU)
  f197:=Tryz.func173.trans (amz some aU)
  f217:=Tryz.func196.trans (amz some aU)
  f224:=Tryz.func194.trans (amz some aU)
  f225:=Tryz.func195.trans (amz some aU)
  f227:=Tryz.func149.trans (amz some aU)
  f228:=Tryz.func172.trans (amz some aU)
  f231:=Tryz.func147.trans (amz some aU)
  f233:=Tryz.func150.trans (amz some aU)
  f235:=Tryz.func152.trans (amz some aU)
  f260:=Tryz.func186.trans (amz some aU)
  f266:=Tryz.func197.trans (amz some aU)
  t0:=Tryz.underlying0
  a0:=Tryz.isAgg0
  z0:=Tryz.sizeOf0
  v0:=Tryz.zeroValue0
  t3:=Tryz.underlying3
  a3:=Tryz.isAgg3
  z3:=Tryz.sizeOf3
  v3:=Tryz.zeroValue3
  t4:=Tryz.underlying4
  a4:=Tryz.isAgg4
  z4:=Tryz.sizeOf4
  v4:=Tryz.zeroValue4
  t5:=Tryz.underlying5
  a5:=Tryz.isAgg5
  z5:=Tryz.sizeOf5
  v5:=Tryz.zeroValue5
  t9:=Tryz.underlying9
  a9:=Tryz.isAgg9
  z9:=Tryz.sizeOf9
  v9:=Tryz.zeroValue9
  t21:=Tryz.underlying21
  a21:=Tryz.isAgg21
  z21:=Tryz.sizeOf21
  v21:=Tryz.zeroValue21
  t46:=Tryz.underlying152
  a46:=Tryz.isAgg152
  z46:=Tryz.sizeOf152
  v46:=Tryz.zeroValue152
  t105:=Tryz.underlying220
  a105:=Tryz.isAgg220
  z105:=Tryz.sizeOf220
  v105:=Tryz.zeroValue220
  t116:=Tryz.underlying199
  a116:=Tryz.isAgg199
  z116:=Tryz.sizeOf199
  t117:=Tryz.underlying200
  a117:=Tryz.isAgg200
  z117:=Tryz.sizeOf200
  v117:=Tryz.zeroValue200
  t119:=Tryz.underlying244
  a119:=Tryz.isAgg244
  z119:=Tryz.sizeOf244
  t124:=Tryz.underlying203
  a124:=Tryz.isAgg203
  z124:=Tryz.sizeOf203
  v124:=Tryz.zeroValue203
  t138:=Tryz.underlying246
  a138:=Tryz.isAgg246
  z138:=Tryz.sizeOf246
  v138:=Tryz.zeroValue246
  t139:=Tryz.underlying247
  a139:=Tryz.isAgg247
  z139:=Tryz.sizeOf247
  v139:=Tryz.zeroValue247
  g3:=aU
  g4:=by kernel_rfl}
theorem ET (la:s.size≤maxLen) (ah5:cs.size≤maxLen) (Fp:QU cs):Calls aJ 144 #[.string s,.string cs] w (cA fun v w'=>v=.string (B5 s cs)∧Ext w w'):=by
  have LZ:(aJ.info? (xF.t 116)).map (fun i=>(i.zero,i.size))=some (some (.agg (Array.replicate 256 (.bool false))),256):=aU
  by_cases h0:s.size=0
  · refine(Go.Proofs.Any.strings_TrimLeft_empty CA s cs w<|.inl h0).mono ?_
    rintro e w' ⟨rfl,rfl⟩
    unfold cA
    refine⟨_,J,?_,Ext.refl _⟩
    have hs:s.data.toList=[]:=by rw[←anC,ang];exact h0
    unfold B5
    rw[hs]
    refine amz Value.string ?_
    cases s with|mk a=>exact amz ByteArray.mk (aoj h0)
  · refine(Go.Proofs.Any.strings_TrimLeft_set CA (zero_of_info LZ).1 (zero_of_info LZ).2 s cs w Fp.two aj Fp.low Fp.asc).mono ?_
    rintro e w' ⟨rfl,rfl⟩
    unfold cA
    exact⟨_,J,J,(Ext.alloc w _).trans (Ext.alloc _ _)⟩
theorem Qc (la:s.size≤maxLen):Calls aJ 77 #[.string s] w (cA fun v w'=>v=.bool (kJ s)∧Ext w w'):=by
 refine dH 15 Tryz.func77 J J J pI fun f0 ha H=>?_
 have i0:f0 0=.string s:=ha 0 bm
 refine az<|ak (v:=.bool false) J J<|bz<|ai J i0<|k<|neS J J J J<|ai (v:=.bool (!decide (s=⟨#[]⟩))) J J ?_
 rcases bE (!decide (s=⟨#[]⟩)) with b0|b0
 ·
  have p0:=dF<|fX b0
  refine aQ J J J b0<|mv J i0<|aQ J J J b0<|tq J J lq<|aQ J J J b0<|leq J J J J<|k<|aN J J J J b0 J<|ai (v:=.bool (decide ((s.size:Int)≤8))) J J ?_
  rcases bE (decide ((s.size:Int)≤8)) with b1|b1
  ·
   refine aQ J J J b1<|mv J i0<|aQ J J J b1 ?_
   have bT:=B7 (s:=s) (cs:=⟨#[97,98,99,100,101,102,103,104,105,106,107,108,109,110,111,112,113,114,115,116,117,118,119,120,121,122]⟩) (w:=w) bo au<|by exact Nq
   refine ca X1 J (ec J<|ec J e0) bT ?_
   rintro _ w0 ⟨rfl,bY⟩
   have H0:=H.ext bY
   refine aQ J J J b1<|X7 J J J J<|k<|aN J J J J b1 J<|ak (v:=.bool (decide (trimB s ⟨#[97,98,99,100,101,102,103,104,105,106,107,108,109,110,111,112,113,114,115,116,117,118,119,120,121,122]⟩=⟨#[]⟩))) J J<|aq<|rt<|r1 J J ?_
   exact⟨amz Value.bool (by rw[Fb];simp only[(fX b0),b1,BL]),H0.below⟩
  refine aX J J J b1<|aX J J J b1<|aX J J J b1<|k<|cZ J J J J b1 J<|ak (v:=.bool false) J J<|aq<|rt<|r1 J J ?_
  exact⟨amz Value.bool (by rw[Fb];simp only[(fX b0),b1,BL]),H.below⟩
 have p0:=dT<|fl b0
 refine aX J J J b0<|aX J J J b0<|aX J J J b0<|k<|cZ J J J J b0 J<|ai (v:=.bool false) J J<|aX J J J J<|aX J J J J<|aX J J J J<|k<|cZ J J J J J J<|ak (v:=.bool false) J J<|aq<|rt<|r1 J J ?_
 exact⟨amz Value.bool (by rw[Fb];simp only[(fl b0),BL]),H.below⟩
theorem Nj {ow:Bool} {ov:bA} {on:Int} (alU:ov.size≤maxLen) (alV:aL on):Calls aJ 76 #[.agg #[.bool ow,.string ov,I on]] w (cA fun v w'=>v=.bool (!(kJ ov))∧Ext w w'):=by
 refine dH 7 Tryz.func76 J J J pI fun f0 ha H=>?_
 have i0:f0 0=.agg #[.bool ow,.string ov,I on]:=ha 0 bm
 refine az<|k<|bx H J i0 ?_
 intro aZ w0 bY (H0:HI (fun _=>False) w w0 [box aZ #[.bool ow,.string ov,I on] 43])
 refine ak (v:=.bool false) J J<|bz<|aR nS J J<|bq H0 0 J oG J J J<|k ?_
 have bT:=Qc (s:=ov) (w:=w0) bo
 refine ca aik J (ec J e0) bT ?_
 rintro _ w1 ⟨rfl,dy⟩
 have H1:=H0.ext dy
 refine k<|kg J J<|ak (v:=.bool (!(kJ ov))) J J<|aq<|rt<|r1 J J ?_
 exact⟨amz Value.bool (show (!(kJ ov))=(!(kJ ov)) from rfl),H1.below⟩
theorem Lu {r:List (Bool×bA×Int)} {p:(Bool×bA×Int)→Bool} (hM:eU M w) (pM:cL M w jL jY r) (Am:FP aJ qk qq M w r p):Calls aJ 113 #[sL jL r jY,.func (.func qk) #[] qq.toArray] w (cA fun v w'=>v=I (eO p r)∧Ext w w'):=by
 refine dH 19 Tryz.func113 J J J hM fun f0 ha H=>?_
 have H0:=eu H pM
 have U6:=bl pM
 have i0:f0 0=sL jL r jY:=ha 0 bm
 have i1:f0 1=.func (.func qk) #[] qq.toArray:=ha 1 bm
 refine az<|ak (v:=I 0) J J<|aq<|sq<|az<|ai J i0<|k<|ef J J lI<|ai (v:=I 0) J J<|aq<|bk<|lp (fun m f w'=>∃(j:Nat),m=r.length-j∧f 0=sL jL r jY∧f 1=.func (.func qk) #[] qq.toArray∧f 7=I (r.length:Int)∧f 8=I (j:Int)∧HI M w w' [iL jL r jY]∧(j≤r.length)∧((r.take j).any p=false)) _ ⟨0,J,i0,i1,J,(bN J),H0,aj,bm⟩ ?_
 rintro _ f0 w0 ⟨j,rfl,s0,s1,s2,s3,H1,hk,hs⟩
 refine az<|k<|lss J J s3 s2<|aq<|sq<|cd (b:=decide ((j:Int)<(r.length:Int))) J J (fun b0=>?_)<|fun b0=>?_
 ·
  have p0:=dT b0
  refine sk<|nx<|sq<|bk<|az<|ai J s3<|ak (v:=I (j:Int)) J J<|bz<|ai J s1<|ai J s0<|ai (v:=I (j:Int)) J J<|k<|ia (H1.rv 0 J) J J J J aj lI fZ ?_
  intro iE x0 aI cD
  refine k<|nr cD.w fZ J J ?_
  intro v0 cE
  obtain⟨_,⟨_,_,rfl,rfl,⟨_,_,rfl,⟨rfl,ep⟩,⟨rfl,ei⟩⟩⟩,rfl⟩:=cE
  refine k<|cf Am.1 J J J (ec J e0) (Am.2 _ _ _ (by exact dN ‹_›) H1.below<|RV.lift (v:=.agg #[.bool x0.1,.string x0.2.1,I x0.2.2]) (x:=((x0.1,x0.2.1,x0.2.2):(Bool×bA×Int))) ⟨_,⟨_,_,J,J,⟨_,_,J,⟨J,aj⟩,⟨J,(show aL (x0.2.2) from aT)⟩⟩⟩,J⟩ H1.out) ?_
  rintro _ w1 ⟨rfl,bY⟩
  have H2:=H1.ext bY
  refine z<|nx<|cd (b:=p (x0.1,x0.2.1,x0.2.2)) J J (fun b1=>?_)<|fun b1=>?_
  ·
   refine az<|ai (v:=I (j:Int)) J J<|ak (v:=I (j:Int)) J J<|aq<|rt<|bU<|aK<|ee<|bU<|aK<|r1 J J ?_
   exact⟨amz (Value.int .i64) (by exact uA aI hs b1),H2.below⟩
  refine sk<|aF<|nx<|rg<|k<|add J J s3 J aT<|ai (v:=I ((j:Int)+1)) J J<|z<|bG _ ?_ ⟨(j+1),J,s0,s1,s2,(bN J),H2,aj,(by exact pD aI hs b1)⟩
  omega
 have p0:=dF b0
 refine ex<|aV<|bf<|bh<|cV<|ak (v:=I (-1)) J J<|aq<|rt<|r1 J J ?_
 exact⟨amz (Value.int .i64) (by exact vg hs aj),H1.below⟩
theorem GX {r:List (Bool×bA×Int)} {p:(Bool×bA×Int)→Bool} (hM:eU M w) (pM:cL M w jL jY r) (Am:FP aJ qk qq M w r p):Calls aJ 75 #[sL jL r jY,.func (.func qk) #[] qq.toArray] w (cA fun v w'=>v=.bool (r.any p)∧Ext w w'):=by
 refine dH 9 Tryz.func75 J J J hM fun f0 ha H=>?_
 have H0:=eu H pM
 have i0:f0 0=sL jL r jY:=ha 0 bm
 have i1:f0 1=.func (.func qk) #[] qq.toArray:=ha 1 bm
 refine az<|ak (v:=.bool false) J J<|bz<|ai J i0<|ai J i1<|k ?_
 have bT:=Lu (r:=r) (p:=p) H0.mb (H0.rv 0 J)<|Am.sub H0.below T0
 refine ca afb J (ec J<|ec J e0) bT ?_
 rintro _ w0 ⟨rfl,bY⟩
 have H1:=H0.ext bY
 refine k<|geq J J J J<|ak (v:=.bool (decide (0≤(eO p r)))) J J<|aq<|rt<|r1 J J ?_
 exact⟨amz Value.bool (by exact uB),H1.below⟩
set_option maxRecDepth 100000 in
set_option maxHeartbeats 1600000 in
def Lo:Go.Shelf.Ren:=⟨fun|4=>146|n=>n,fun|22=>40|25=>43|3=>3|4=>4|9=>9|20=>20|0=>0|n=>n,fun|n=>n⟩
theorem Lp:Go.Proofs.Lays8.n4 aJ Lo:={
  mixed:=aU
  f4:=⟨Tryz.f146.name,by decide,Tryz.func146.trans (amz some aU)⟩
  t0:=Tryz.underlying0
  a0:=Tryz.isAgg0
  z0:=Tryz.sizeOf0
  v0:=Tryz.zeroValue0
  t3:=Tryz.underlying3
  a3:=Tryz.isAgg3
  z3:=Tryz.sizeOf3
  v3:=Tryz.zeroValue3
  t4:=Tryz.underlying4
  a4:=Tryz.isAgg4
  z4:=Tryz.sizeOf4
  v4:=Tryz.zeroValue4
  t9:=Tryz.underlying9
  a9:=Tryz.isAgg9
  z9:=Tryz.sizeOf9
  v9:=Tryz.zeroValue9
  t20:=Tryz.underlying20
  a20:=Tryz.isAgg20
  z20:=Tryz.sizeOf20
  v20:=Tryz.zeroValue20
  t22:=Tryz.underlying40
  a22:=Tryz.isAgg40
  z22:=Tryz.sizeOf40
  v22:=Tryz.zeroValue40}
theorem Zz {Wr:OA} {UX V8:Nat} {Kr:Int} (hM:eU M w) (alh:aL Kr) (BC:Wr=none∧UX=0∧V8=0) (alz:0≤Kr∧Kr≤1048576):Calls aJ 146 #[.slice Wr UX V8,I Kr] w (cA fun v w'=>∃(a0:OA) (c0:Nat),v=.slice a0 ([]:List (Bool×bA×Int)).length c0∧Ext w w'∧bj M 43 w ([]:List (Bool×bA×Int)) (.slice a0 ([]:List (Bool×bA×Int)).length c0) w'):=by
  obtain⟨rfl,rfl,rfl⟩:=BC
  obtain⟨m,rfl⟩:∃m:Nat,Kr=((m:Nat):Int):=⟨Kr.toNat,by omega⟩
  by_cases h0:m=0
  · subst h0
    refine(Go.Proofs.Any8.slices_Grow_room Lp none 0 0 0 w aj aj aj aj).mono ?_
    rintro e w' ⟨rfl,rfl⟩
    unfold cA
    exact⟨_,J,none,0,J,Ext.refl _,fU (Ext.refl _)⟩
  · have tZ:(aJ.info? 43).map (fun i=>(i.size,i.bytes,i.zero))=some (3,32,some (.agg #[.bool false,.string ⟨#[]⟩,.int .i64 0])):=aU
    obtain⟨i0,Ox,sK⟩:=am2.1 tZ
    simp only[anm] at sK
    obtain⟨e1,e2,e3⟩:=sK
    refine(Go.Proofs.Any8.slices_Grow_grow Lp i0 (.agg #[.bool false,.string ⟨#[]⟩,.int .i64 0]) Ox e3 aj none 0 0 m [] w aj aj (by rw[e2];omega) aj bm (fun _=>rfl)<|fun a h=>by cases h).mono ?_
    rintro e w' ⟨rfl,rfl⟩
    unfold cA
    exact⟨_,J,_,_,J,(Ext.drew w).trans (Ext.alloc _ _),SM (z:=.agg #[.bool false,.string ⟨#[]⟩,.int .i64 0]) rfl aj⟩
theorem Tm (hM:eU M w) (rr:cL M w ju jt h) (tB:h.flatten.length≤1048576):Calls aJ 112 #[sL ju h jt] w (cA fun v w'=>∃(a0:OA) (c0:Nat),v=.slice a0 h.flatten.length c0∧Ext w w'∧bj M 43 w h.flatten (.slice a0 h.flatten.length c0) w'):=by
 refine dH 36 Tryz.func112 J J J hM fun f0 ha H=>?_
 have H0:=eu H rr
 have PO:=bl rr
 have i0:f0 0=sL ju h jt:=ha 0 bm
 refine az<|ak (v:=.slice none 0 0) J J<|bz<|ak (v:=I 0) J J<|aq<|sq<|az<|ai J i0<|k<|ef J J vJ<|ai (v:=I 0) J J<|aq<|bk<|lp (fun m f w'=>∃(j_:Nat),m=h.length-j_∧f 0=sL ju h jt∧f 3=I ((((h.take j_).flatten).length:Nat):Int)∧f 9=sL ju h jt∧f 10=I (h.length:Int)∧f 11=I (j_:Int)∧HI M w w' [iL ju h jt]∧(j_≤h.length)) _ ⟨0,J,i0,(bN J),J,J,(bN J),H0,aj⟩ ?_
 rintro _ f0 w0 ⟨j_,rfl,s0,s1,s2,s3,s4,H1,pk⟩
 refine az<|k<|lss J J s4 s3<|aq<|sq<|cd (b:=decide ((j_:Int)<(h.length:Int))) J J (fun b0=>?_)<|fun b0=>?_
 ·
  have p0:=dT b0
  refine sk<|nx<|sq<|bk<|az<|k<|ia (H1.rv 0 J) J J s2 s4 aj vJ uj ?_
  intro iE x0 aI cD
  refine k<|wg cD.w uj J J ?_
  intro a0 c0 cE
  have BB:=bl cE
  have H2:=eu H1 cE
  refine ak (v:=sL a0 x0 c0) J J<|bz<|ai J s1<|ai (v:=sL a0 x0 c0) J J<|k<|ef J J lI<|k<|add J J J J (by have h_:=uJ aI;unfold aL at *;omega)<|ak (v:=I (((((h.take j_).flatten).length:Nat):Int)+(x0.length:Int))) J J<|bz<|ai (v:=I (((((h.take j_).flatten).length:Nat):Int)+(x0.length:Int))) J J<|k<|lss J J J J<|z<|nx ?_
  have rH:(decide ((((((h.take j_).flatten).length:Nat):Int)+(x0.length:Int))<0))=false:=(by rw[amN];omega)
  refine nU J J rH<|sk<|aF<|nx<|rg<|k<|add J J s4 J (by have h_:=uJ aI;unfold aL at *;omega)<|ai (v:=I ((j_:Int)+1)) J J<|z ?_
  have H3:HI M w w0 [iL ju h jt]:=H2.bZ [1] au J
  refine bG _ ?_ ⟨(j_+1),J,s0,(R_ J<|by rw[vq aI,fN];omega),s2,s3,(bN J),H3,aj⟩
  omega
 have p0:=dF b0
 refine ex<|aV<|bf<|bh<|cV<|ai J s1<|k ?_
 have bT:=Zz (Kr:=((((h.take j_).flatten).length:Nat):Int)) (Wr:=none) (UX:=0) (V8:=0) H1.mb (by have h_:=S0 h j_;unfold aL at *;omega) (by exact⟨J,J,J⟩)<|by rw[mO aj] at *;omega
 refine ca aeW J (ec J<|ec J e0) bT ?_
 rintro _ w1 ⟨a0,c0,rfl,bY,cE⟩
 have H2:=H1.eS cE
 refine ak (v:=sL a0 ([]:List (Bool×bA×Int)) c0) J J<|aq<|sq<|az<|ai J s0<|k<|ef J J vJ<|ai (v:=I 0) J J<|aq<|bk<|lp (fun m f w'=>∃(i_:Nat) (nK:List (Bool×bA×Int)) (a1:OA) (c1:Nat),m=h.length-i_∧f 6=sL a1 nK c1∧f 25=sL ju h jt∧f 26=I (h.length:Int)∧f 27=I (i_:Int)∧HI M w w' [oL w 43 a1 nK c1,iL ju h jt]∧(i_≤h.length)∧(nK=(h.take i_).flatten)) _ ⟨0,([]:List (Bool×bA×Int)),a0,c0,J,J,J,J,(bN J),H2,aj,(by rfl)⟩ ?_
 rintro _ f1 w2 ⟨i_,nK,a1,c1,rfl,s5,s6,s7,s8,H3,pk,hs⟩
 refine az<|k<|lss J J s8 s7<|aq<|sq<|cd (b:=decide ((i_:Int)<(h.length:Int))) J J (fun b1=>?_)<|fun b1=>?_
 ·
  have p1:=dT b1
  refine sk<|nx<|sq<|bk<|az<|k<|ia (H3.rv 1 J) J J s6 s8 aj vJ uj ?_
  intro iE x0 aI cD
  refine k<|wg cD.w uj J J ?_
  intro a2 c2 ep
  have BB:=bl ep
  have H4:=eu H3 ep
  refine ak (v:=sL a2 x0 c2) J J<|aq<|rg<|ai J s5<|ai (v:=sL a2 x0 c2) J J<|k<|me H4 1 J J J J J J (H4.rv 0 J).src lI fZ J (by have h_:=uJ aI;rw[hs];omega) J ?_
  intro a3 c3 w3 (H5:HI M w w3 [iL a2 x0 c2,oL w 43 a3 (nK++x0) c3,iL ju h jt])
  refine ak (v:=sL a3 (nK++x0) c3) J J<|z<|aF<|nx<|rg<|k<|add J J s8 J (by have h_:=uJ aI;unfold aL at *;omega)<|ai (v:=I ((i_:Int)+1)) J J<|z ?_
  have H6:HI M w w3 [oL w 43 a3 (nK++x0) c3,iL ju h jt]:=H5.bZ [1,2] au J
  refine bG _ ?_ ⟨(i_+1),(nK++x0),a3,c3,J,J,s6,s7,(bN J),H6,aj,(by rw[hs,vq aI])⟩
  omega
 have p1:=dF b1
 refine ex<|aV<|bf<|bh<|cV<|ai J s5<|ak (v:=sL a1 nK c1) J J<|aq<|rt<|r1 J J ?_
 have e0:(nK:List (Bool×bA×Int))=h.flatten:=by rw[hs,mO aj]
 have bu:=iD (fun (cq:List (Bool×bA×Int))=>(.slice a1 cq.length c1:Value)) e0
 exact⟨a1,c1,bu,H3.below,(amz (fun (x_:List (Bool×bA×Int))=>bj _ _ _ x_ (.slice a1 x_.length c1) _) e0).mp (H3.du 0 J)⟩
theorem Su (hM:eU M w) (rr:cL M w ju jt h) (tB:h.flatten.length≤1048576):Calls aJ 74 #[sL ju h jt] w (cA fun v w'=>∃(a0:OA) (c0:Nat),v=.slice a0 h.flatten.length c0∧Ext w w'∧bj M 43 w h.flatten (.slice a0 h.flatten.length c0) w'):=by
 refine dH 5 Tryz.func74 J J J hM fun f0 ha H=>?_
 have H0:=eu H rr
 have i0:f0 0=sL ju h jt:=ha 0 bm
 refine az<|ak (v:=.slice none 0 0) J J<|bz<|ai J i0<|k ?_
 have bT:=Tm (h:=h) H0.mb (H0.rv 0 J)<|by exact tB
 refine ca afc J (ec J e0) bT ?_
 rintro _ w0 ⟨a0,c0,rfl,bY,cE⟩
 have H1:=H0.eS cE
 refine ak (v:=sL a0 h.flatten c0) J J<|aq<|rt<|r1 J J ?_
 exact⟨a0,c0,J,H1.below,(H1.du 0 J)⟩
theorem Qd (hM:eU M w) (rr:cL M w ju jt h) (tB:h.flatten.length≤1048576):Calls aJ 51 #[sL ju h jt] w (cA fun v w'=>v=.bool (iN h)∧Ext w w'):=by
 refine dH 14 Tryz.func51 J J J hM fun f0 ha H=>?_
 have H0:=eu H rr
 have i0:f0 0=sL ju h jt:=ha 0 bm
 refine az<|ak (v:=.bool false) J J<|bz<|ai J i0<|k ?_
 have bT:=Su (h:=h) H0.mb (H0.rv 0 J)<|by exact tB
 refine ca ain J (ec J e0) bT ?_
 rintro _ w0 ⟨a0,c0,rfl,bY,cE⟩
 have H1:=H0.eS cE
 refine ak (v:=sL a0 h.flatten c0) J J<|bz<|ai (v:=sL a0 h.flatten c0) J J<|k<|ef J J lI<|k<|leq J J J J<|ai (v:=.bool (decide ((h.flatten.length:Int)≤4096))) J J ?_
 rcases bE (decide ((h.flatten.length:Int)≤4096)) with b0|b0
 ·
  refine aQ J J J b0<|mv (v:=sL a0 h.flatten c0) J J<|aQ J J J b0 ?_
  have H2:=H1.freeze 0 J
  have dq:=GX (r:=h.flatten) (p:=(fun (x_:(Bool×bA×Int))=>(!(kJ x_.2.1)))) H2.mb (H2.rv 0 J) ⟨ail,fun w_ v_ x_ mW e_ Gs=>by have H_:=H2.ext e_;obtain⟨_,⟨_,_,rfl,rfl,⟨_,_,rfl,⟨rfl,ep⟩,⟨rfl,ei⟩⟩⟩,rfl⟩:=Gs;exact Nj ep ei⟩
  refine ca aim J (ec J<|ec J e0) dq ?_
  rintro _ w1 ⟨rfl,dy⟩
  have H3:=H1.ext dy
  refine aQ J J J b0<|kg J J<|k<|aN J J J J b0 J<|ak (v:=.bool (!(h.flatten.any<|fun (x_:(Bool×bA×Int))=>(!(kJ x_.2.1))))) J J<|aq<|rt<|r1 J J ?_
  exact⟨amz Value.bool (by rw[D7];simp only[b0,BL]),H3.below⟩
 refine aX J J J b0<|aX J J J b0<|aX J J J b0<|k<|cZ J J J J b0 J<|ak (v:=.bool false) J J<|aq<|rt<|r1 J J ?_
 exact⟨amz Value.bool (by rw[D7];simp only[b0,BL]),H1.below⟩
theorem ait:cH aJ 51:=cN Tryz.func51
theorem abh:QP aJ 98:=W_ (by kernel_rfl:aJ.underlying 98=some (.map 9 3)) (Vb lq) aS rfl
theorem R9 (hM:eU M w) (rr:cL M w ju jt h) (tB:h.flatten.length≤1048576):Calls aJ 26 #[sL ju h jt] w (cA fun v w'=>∃(a0:OA) (c0:Nat) (a1:OA) (c1:Nat) (a2:OA) (c2:Nat),v=.tuple #[.agg #[.slice a0 (l7 h).length c0,.slice a1 (cX h).length c1,.slice a2 ([]:aA).length c2],I (ly h)]∧Ext w w'∧RV M w' (.slice a0 (l7 h).length c0) (l7 h)∧RV M w' (.slice a1 (cX h).length c1) (cX h)∧RV M w' (.slice a2 ([]:aA).length c2) ([]:aA)):=by
 refine dH 70 Tryz.func26 J J J hM fun f0 ha H=>?_
 let J0:=iL ju h jt
 have H0:=H.put (it:=J0) J<|by rw[bS];exact rr
 have PO:=bl rr
 have i0:f0 0=sL ju h jt:=ha 0 bm
 refine az<|k<|al H0 ej ?_
 intro aZ w0 bY (H1:HI M w w0 [box aZ #[.slice none 0 0,.slice none 0 0,.slice none 0 0] 47,J0])
 let J1:=box aZ #[.slice none 0 0,.slice none 0 0,.slice none 0 0] 47
 refine ak (v:=I 0) J J<|aq<|sq<|az<|ai J i0<|k ?_
 have bT:=Qd (h:=h) H1.mb (H1.rv 1 J)<|by exact tB
 refine ca ait J (ec J e0) bT ?_
 rintro _ w1 ⟨rfl,dy⟩
 have H2:=H1.ext dy
 refine k<|kg J J<|z<|nx<|cd (b:=!(iN h)) J J (fun b0=>?_)<|fun b0=>?_
 ·
  refine sq ?_
  have hq:iN h=false:=by simpa using b0
  refine rg<|k<|bd (v:=.agg #[.slice none 0 0,.slice none 0 0,.slice none 0 0]) J eI (fun _=>aU)<|k<|bw H2 0 J ej J J J J J J J ?_
  intro w2 (H3:HI M w w2 [J1,J0])
  refine ak (v:=I 1) J J<|aq<|rt<|aK<|iA H3 0 J ej J J J J J au ?_
  have e0:([]:List bA)=l7 h:=by exact(xC hq).1.symm
  have e1:([]:List aO)=cX h:=by exact(xC hq).2.1.symm
  have e3:(1:Int)=ly h:=by exact(xC hq).2.2.symm
  have bu:=qX (fun (cq:List bA) (dX:List aO) (mM:Int)=>(.tuple #[.agg #[.slice none cq.length 0,.slice none dX.length 0,.slice none ([]:aA).length 0],I mM]:Value)) e0 e1 e3
  exact⟨none,0,none,0,none,0,bu,H3.below,(amz (fun (x_:List bA)=>RV _ _ (.slice none x_.length 0) x_) e0).mp (eH _ _),(amz (fun (x_:List aO)=>RV _ _ (.slice none x_.length 0) x_) e1).mp (eH _ _),(eH _ _)⟩
 refine sk<|nx<|sq ?_
 have hq:iN h=true:=by simpa using b0
 refine rg<|k<|al H2 ej ?_
 let bc:=[J1,J0]
 intro ba w2 fe (H3:HI M w w2 (box ba #[.slice none 0 0,.slice none 0 0,.slice none 0 0] 47::bc))
 refine bz<|k<|mmS H3 ?_
 intro dK w3 fA (H4:HI M w w3 [tp dK ([]:List (bA×Int)),box ba #[.slice none 0 0,.slice none 0 0,.slice none 0 0] 47,J1,J0])
 refine ak (v:=.map (some dK)) J J<|aq<|sq<|az<|ai J i0<|k<|ef J J vJ<|ai (v:=I 0) J J<|aq<|bk ?_
 have H5:=H4.rB bA 9
 have H6:=H5.rB aO 95
 refine lp (fun m f w'=>∃(i:Nat) (vs:List bA) (aE:List aO) (jX:List (bA×Int)) (a0:OA) (c0:Nat) (a1:OA) (c1:Nat),m=h.length-i∧f 2=pV aZ 0∧f 4=pV ba 0∧f 5=.map (some dK)∧f 17=sL ju h jt∧f 18=I (h.length:Int)∧f 19=I (i:Int)∧HI M w w' [oL w 95 a1 aE c1,oL w 9 a0 vs c0,tp dK jX,box ba #[sL a0 vs c0,sL a1 aE c1,.slice none 0 0] 47,J1,J0]∧(i≤h.length)∧(vs=(iy h i).1)∧(aE=(iy h i).2)∧(Bw vs jX)) _ ⟨0,([]:List bA),([]:List aO),([]:List (bA×Int)),none,0,none,0,J,J,J,J,J,J,(bN J),H6,aj,(by rfl),(by rfl),(by exact U1)⟩ ?_
 rintro _ f0 w4 ⟨i,vs,aE,jX,a0,c0,a1,c1,rfl,s0,s1,s2,s3,s4,s5,H7,Xy,h1,h2,hm⟩
 refine az<|k<|lss J J s5 s4<|aq<|sq<|cd (b:=decide ((i:Int)<(h.length:Int))) J J (fun b1=>?_)<|fun b1=>?_
 ·
  have p1:=dT b1
  refine sk<|nx<|sq<|bk<|az<|ai J s5<|k<|ia (H7.rv 5 J) J J s3 s5 aj vJ uj ?_
  intro iE x0 aI cD
  refine k<|wg cD.w uj J J ?_
  intro a2 c2 cE
  have BB:=bl cE
  let J2:=iL a2 x0 c2
  have H8:=H7.put (it:=J2) J cE
  refine ak (v:=I (i:Int)) J J<|ak (v:=sL a2 x0 c2) J J<|bz<|ai (v:=sL a2 x0 c2) J J<|k<|ef J J lI<|ai (v:=I 0) J J<|aq<|bk<|lp (fun m f w'=>∃(q:Nat) (lH:List bA) (qb:List aO) (kL:List (bA×Int)) (a3:OA) (c3:Nat) (a4:OA) (c4:Nat),m=(h.getD i []).length-q∧f 2=pV aZ 0∧f 4=pV ba 0∧f 5=.map (some dK)∧f 6=I (i:Int)∧f 17=sL ju h jt∧f 18=I (h.length:Int)∧f 19=I (i:Int)∧f 24=sL a2 x0 c2∧f 25=I (x0.length:Int)∧f 26=I (q:Int)∧HI M w w' [J2,oL w 95 a4 qb c4,oL w 9 a3 lH c3,tp dK kL,box ba #[sL a3 lH c3,sL a4 qb c4,.slice none 0 0] 47,J1,J0]∧(q≤(h.getD i []).length)∧(lH=(jI i (iy h i) (h.getD i []) q).1)∧(qb=(jI i (iy h i) (h.getD i []) q).2)∧(Bw lH kL)) _ ⟨0,vs,aE,jX,a0,c0,a1,c1,J,s0,s1,s2,J,s3,s4,s5,J,J,(bN J),H8,aj,(by exact h1),(by exact h2),(by exact hm)⟩ ?_
  rintro _ f1 w5 ⟨q,lH,qb,kL,a3,c3,a4,c4,rfl,s6,s7,s8,s9,eC,fj,fT,fS,gF,gW,H9,hk,h1,h2,hm⟩
  refine az<|k<|lss J J gW gF<|aq<|sq<|cd (b:=decide ((q:Int)<(x0.length:Int))) J J (fun b2=>?_)<|fun b2=>?_
  ·
   have p2:=dT b2
   refine sk<|nx<|sq<|bk<|az<|ai J gW<|k<|ia (H9.rv 0 J) J J fS gW aj lI fZ ?_
   intro rb x1 bV gG
   refine k<|nr gG.w fZ J J ?_
   intro v0 ep
   obtain⟨_,⟨_,_,rfl,rfl,⟨_,_,rfl,⟨rfl,ei⟩,⟨rfl,fB⟩⟩⟩,rfl⟩:=ep
   refine k<|al H9 fZ ?_
   let J3:=oL w 95 a4 qb c4
   let J4:=oL w 9 a3 lH c3
   let J5:=box ba #[sL a3 lH c3,sL a4 qb c4,.slice none 0 0] 47
   let ck:=J4::tp dK kL::J5::bc
   intro bL w6 iz (dz:HI M w w6 (box bL #[.bool false,.string ⟨#[]⟩,I 0] 43::J2::J3::ck))
   refine ak (v:=I (q:Int)) J J<|k<|bw dz 0 J fZ J J J J J J J ?_
   let J6:=box bL #[.bool x1.1,.string x1.2.1,I x1.2.2] 43
   intro w7 (cB:HI M w w7 (J6::J2::J3::ck))
   refine bz<|ai J s8<|aR nS J J<|bq cB 0 J oG J J J<|k<|ahi (k:=x1.2.1) abh cB 4 J J J J J ?_
   intro ja
   refine ai (v:=.tuple #[I ((fO kL x1.2.1).getD 0),.bool ((fO kL x1.2.1).isSome)]) J J<|k<|xt J J J<|k<|xt J J J<|ak (v:=I ((fO kL x1.2.1).getD 0)) J J<|ak (v:=.bool ((fO kL x1.2.1).isSome)) J J<|aq<|sq<|az<|ai (v:=.bool ((fO kL x1.2.1).isSome)) J J<|k<|kg J J<|z<|nx<|cd (b:=!((fO kL x1.2.1).isSome)) J J (fun b3=>?_)<|fun b3=>?_
   ·
    refine az<|aR vu J s7<|bq cB 5 J B3 J J J<|k<|ef J J Hi<|ak (v:=I (lH.length:Int)) J J<|bz<|ai J s8<|aR nS J J<|bq cB 0 J oG J J J<|ai (v:=I (lH.length:Int)) J J<|k<|ahg (k:=x1.2.1) (v:=(lH.length:Int)) abh cB 4 J J J J J J J (by have h3:=pW (k:=q) aI aj;rw[←fw aI,←h1,←h2] at h3;unfold aL;omega) ?_
    let dY:=tp dK (lJ kL x1.2.1 (lH.length:Int))::J5::bc
    intro w8 (dx:HI M w w8 (J6::J2::J3::J4::dY))
    refine aq<|rg<|aR vu J s7<|bq dx 5 J B3 J J J<|aR nS J J<|bq dx 0 J oG J J J<|k<|bs (xs:=([x1.2.1]:List bA)) (cells:=#[.string x1.2.1]) (e:=9) dx J (cz J eI) (fun _=>aU) ⟨[.string x1.2.1],[],J,⟨J,bo⟩,J⟩ J au ?_
    intro g0 w9 jh dI
    refine k<|me dI 4 J J J J J J (ib<|dI.at_ 0 J) Hi oG J (by have h_:=pW (k:=q) aI aj;rw[←fw aI,←h1,←h2] at h_;simp only[iB,gj];omega) J ?_
    let J7:=own w.heap.size 9 (.slice (some ⟨g0,0,none⟩) 1 1) ([x1.2.1]:List bA)
    intro a5 c5 dP (cU:HI M w dP (J7::J6::J2::J3::oL w 9 a5 (lH++([x1.2.1]:List bA)) c5::dY))
    let J8:=oL w 9 a5 (lH++([x1.2.1]:List bA)) c5
    refine aR vu J s7<|k<|bw cU 6 J B3 J J J J J J J ?_
    let J9:=box ba #[sL a5 (lH++([x1.2.1]:List bA)) c5,sL a4 qb c4,.slice none 0 0] 47
    let jk:=J8::tp dK (lJ kL x1.2.1 (lH.length:Int))::J9::bc
    intro eB (d_:HI M w eB (J7::J6::J2::J3::jk))
    refine aq<|rg<|aR fF J s7<|bq d_ 6 J iZ J J J<|ai J s9<|ai (v:=I (q:Int)) J J<|aR l_ J J<|bq d_ 1 J oo J J J<|ai (v:=I (lH.length:Int)) J J<|aR oS J J<|bq d_ 1 J aS J J J<|k<|bd (v:=.agg #[I (i:Int),I (q:Int),.bool x1.1,I (lH.length:Int),I x1.2.2]) J (cz J<|cz J<|cz J<|cz J<|cz J eI) (fun _=>aU)<|k<|bs (xs:=([((i:Int),(q:Int),x1.1,(lH.length:Int),x1.2.2)]:List aO)) (cells:=#[I (i:Int),I (q:Int),.bool x1.1,I (lH.length:Int),I x1.2.2]) (e:=95) d_ J (cz J eI) (fun _=>aU) ⟨[I (i:Int),I (q:Int),.bool x1.1,I (lH.length:Int),I x1.2.2],[],J,⟨_,_,J,⟨J,(show aL ((i:Int)) from aT)⟩,⟨_,_,J,⟨J,(show aL ((q:Int)) from aT)⟩,⟨_,_,J,J,⟨_,_,J,⟨J,(show aL ((lH.length:Int)) from(by have h3:=pW (k:=q) aI aj;rw[←fw aI,←h1,←h2] at h3;unfold aL;omega))⟩,⟨J,(show aL (x1.2.2) from bo)⟩⟩⟩⟩⟩,J⟩ J au ?_
    intro g1 fE ki dD
    refine k<|me dD 4 J J J J J J (ib<|dD.at_ 0 J) jv jB J (by have h_:=pW (k:=q) aI aj;rw[←fw aI,←h1,←h2] at h_;simp only[iB,gj];omega) J ?_
    let dZ:=own w.heap.size 95 (.slice (some ⟨g1,0,none⟩) 1 1) ([((i:Int),(q:Int),x1.1,(lH.length:Int),x1.2.2)]:List aO)
    intro a6 c6 iU (cY:HI M w iU (dZ::J7::J6::J2::oL w 95 a6 (qb++([((i:Int),(q:Int),x1.1,(lH.length:Int),x1.2.2)]:List aO)) c6::jk))
    let eP:=oL w 95 a6 (qb++([((i:Int),(q:Int),x1.1,(lH.length:Int),x1.2.2)]:List aO)) c6
    refine aR fF J s7<|k<|bw cY 7 J iZ J J J J J J J ?_
    let gp:=box ba #[sL a5 (lH++([x1.2.1]:List bA)) c5,sL a6 (qb++([((i:Int),(q:Int),x1.1,(lH.length:Int),x1.2.2)]:List aO)) c6,.slice none 0 0] 47
    let fL:=J2::eP::J8::tp dK (lJ kL x1.2.1 (lH.length:Int))::gp::bc
    intro jZ (dW:HI M w jZ (dZ::J7::J6::fL))
    refine z<|aF<|nx<|rg<|k<|add J J gW J aT<|ai (v:=I ((q:Int)+1)) J J<|z ?_
    have dQ:HI M w jZ fL:=dW.bZ [3,4,5,6,7,8,9] au J
    refine bG _ ?_ ⟨(q+1),(lH++([x1.2.1]:List bA)),(qb++([((i:Int),(q:Int),x1.1,(lH.length:Int),x1.2.2)]:List aO)),(lJ kL x1.2.1 (lH.length:Int)),a5,c5,a6,c6,J,s6,s7,s8,s9,eC,fj,fT,fS,gF,(bN J),dQ,(by rw[fw aI] at *;omega),(by exact(Om h1 h2 hm aI bV<|fX b3).1),(by exact(Om h1 h2 hm aI bV<|fX b3).2),(by exact U0 hm (fX b3))⟩
    rw[fw aI] at *;omega
   refine sk<|nx<|rg<|aR fF J s7<|bq cB 5 J iZ J J J<|ai J s9<|ai (v:=I (q:Int)) J J<|aR l_ J J<|bq cB 0 J oo J J J<|ai (v:=I ((fO kL x1.2.1).getD 0)) J J<|aR oS J J<|bq cB 0 J aS J J J<|k<|bd (v:=.agg #[I (i:Int),I (q:Int),.bool x1.1,I ((fO kL x1.2.1).getD 0),I x1.2.2]) J (cz J<|cz J<|cz J<|cz J<|cz J eI) (fun _=>aU)<|k<|bs (xs:=([((i:Int),(q:Int),x1.1,(fO kL x1.2.1).getD 0,x1.2.2)]:List aO)) (cells:=#[I (i:Int),I (q:Int),.bool x1.1,I ((fO kL x1.2.1).getD 0),I x1.2.2]) (e:=95) cB J (cz J eI) (fun _=>aU) ⟨[I (i:Int),I (q:Int),.bool x1.1,I ((fO kL x1.2.1).getD 0),I x1.2.2],[],J,⟨_,_,J,⟨J,(show aL ((i:Int)) from aT)⟩,⟨_,_,J,⟨J,(show aL ((q:Int)) from aT)⟩,⟨_,_,J,J,⟨_,_,J,⟨J,(show aL ((fO kL x1.2.1).getD 0) from bo)⟩,⟨J,(show aL (x1.2.2) from bo)⟩⟩⟩⟩⟩,J⟩ J au ?_
   intro g0 w8 jh dx
   refine k<|me dx 3 J J J J J J (ib<|dx.at_ 0 J) jv jB J (by have h_:=pW (k:=q) aI aj;rw[←fw aI,←h1,←h2] at h_;simp only[iB,gj];omega) J ?_
   let fQ:=own w.heap.size 95 (.slice (some ⟨g0,0,none⟩) 1 1) ([((i:Int),(q:Int),x1.1,(fO kL x1.2.1).getD 0,x1.2.2)]:List aO)
   intro a5 c5 w9 (dI:HI M w w9 (fQ::J6::J2::oL w 95 a5 (qb++([((i:Int),(q:Int),x1.1,(fO kL x1.2.1).getD 0,x1.2.2)]:List aO)) c5::ck))
   let iF:=oL w 95 a5 (qb++([((i:Int),(q:Int),x1.1,(fO kL x1.2.1).getD 0,x1.2.2)]:List aO)) c5
   refine aR fF J s7<|k<|bw dI 6 J iZ J J J J J J J ?_
   let pc:=box ba #[sL a3 lH c3,sL a5 (qb++([((i:Int),(q:Int),x1.1,(fO kL x1.2.1).getD 0,x1.2.2)]:List aO)) c5,.slice none 0 0] 47
   let lz:=J2::iF::J4::tp dK kL::pc::bc
   intro dP (cU:HI M w dP (fQ::J6::lz))
   refine z<|aF<|nx<|rg<|k<|add J J gW J aT<|ai (v:=I ((q:Int)+1)) J J<|z ?_
   have d_:HI M w dP lz:=cU.bZ [2,3,4,5,6,7,8] au J
   refine bG _ ?_ ⟨(q+1),lH,(qb++([((i:Int),(q:Int),x1.1,(fO kL x1.2.1).getD 0,x1.2.2)]:List aO)),kL,a3,c3,a5,c5,J,s6,s7,s8,s9,eC,fj,fT,fS,gF,(bN J),d_,(by rw[fw aI] at *;omega),(by exact(Ol h1 h2 hm aI bV<|fl b3).1),(by exact(Ol h1 h2 hm aI bV<|fl b3).2),(by exact hm)⟩
   rw[fw aI] at *;omega
  have p2:=dF b2
  refine ex<|aV<|bf<|bh<|aF<|nx<|rg<|k<|add J J fT J aT<|ai (v:=I ((i:Int)+1)) J J<|z ?_
  have dz:HI M w w5 [oL w 95 a4 qb c4,oL w 9 a3 lH c3,tp dK kL,box ba #[sL a3 lH c3,sL a4 qb c4,.slice none 0 0] 47,J1,J0]:=H9.bZ [1,2,3,4,5,6] au J
  refine bG _ ?_ ⟨(i+1),lH,qb,kL,a3,c3,a4,c4,J,s6,s7,s8,eC,fj,(bN J),dz,aj,(by rw[h1,Br aj (by rw[fw aI];omega)]),(by rw[h2,Br aj (by rw[fw aI];omega)]),(by exact hm)⟩
  omega
 have p1:=dF b1
 refine ex<|aV<|bf<|bh<|cV<|k<|cI H7 3 J ej J s1 au J<|k<|bw H7 4 J ej J J s0 J J J J ?_
 intro w5 (H8:HI M w w5 [oL w 95 a1 aE c1,oL w 9 a0 vs c0,tp dK jX,box ba #[sL a0 vs c0,sL a1 aE c1,.slice none 0 0] 47,box aZ #[sL a0 vs c0,sL a1 aE c1,.slice none 0 0] 47,J0])
 refine ak (v:=I 0) J J<|aq<|rt<|iA H8 4 J ej J J J s0 J au ?_
 have e0:(vs:List bA)=l7 h:=by rw[(r5 hq).1,h1];unfold DU;rw[show i=h.length from by omega]
 have e1:(aE:List aO)=cX h:=by rw[(r5 hq).2.1,h2];unfold wN;rw[show i=h.length from by omega]
 have e3:(0:Int)=ly h:=by exact(r5 hq).2.2.symm
 have bu:=qX (fun (cq:List bA) (dX:List aO) (mM:Int)=>(.tuple #[.agg #[.slice a0 cq.length c0,.slice a1 dX.length c1,.slice none ([]:aA).length 0],I mM]:Value)) e0 e1 e3
 exact⟨a0,c0,a1,c1,none,0,bu,H8.below,(amz (fun (x_:List bA)=>RV _ _ (.slice a0 x_.length c0) x_) e0).mp (H8.mu 1 J),(amz (fun (x_:List aO)=>RV _ _ (.slice a1 x_.length c1) x_) e1).mp (H8.mu 0 J),(eH _ _)⟩
theorem ml:ey aJ 35 19 true 216 (.agg #[.int .i64 0,.int .i64 0,.int .i64 0,.int .i64 0,.int .i64 0,.bool false,.int .i64 0,.int .i64 0,.slice none 0 0,.slice none 0 0,.slice none 0 0,.int .i64 0,.int .i64 0,.int .i64 0,.int .i64 0,.int .i64 0,.slice none 0 0,.int .i64 0,.int .i64 0]):=⟨aU,aU⟩
theorem aiI:cH aJ 26:=cN Tryz.func26
theorem acT:cH aJ 21:=cN Tryz.func21
theorem aiH:cH aJ 27:=cN Tryz.func27
theorem aiG:cH aJ 28:=cN Tryz.func28
theorem aiF:cH aJ 29:=cN Tryz.func29
theorem aiE:cH aJ 30:=cN Tryz.func30
theorem Jw (hM:eU M w) (hT:fW 0 w) (rr:cL M w ju jt h) (mZ:aL lv) (tB:h.flatten.length≤1048576) (ak_:h.flatten.length≤64):Calls aJ 15 #[sL ju h jt,I lv] w (cA fun v w'=>∃(lc_:Int) (nc_:Int) (Rt:List (List bt)) (TW:aA) (Ru:List aA) (iW:List cT) (fw_:Int) (nw_:Int) (a0:OA) (c0:Nat) (a1:OA) (c1:Nat) (a2:OA) (c2:Nat) (a3:OA) (c3:Nat),v=.agg #[I (qN h lv),I 0,I ((ph h lv).1),I ((ph h lv).2),I (wi h lv),.bool (wj h lv),I lc_,I nc_,sL a0 Rt c0,sL a1 TW c1,sL a2 Ru c2,I ((jx h lv).1),I ((jx h lv).2.1),I ((jx h lv).2.2.1),I ((jx h lv).2.2.2.1),I ((jx h lv).2.2.2.2),sL a3 iW c3,I fw_,I nw_]∧Ext w w'∧cL M w' a0 c0 Rt∧cL M w' a1 c1 TW∧cL M w' a2 c2 Ru∧cL M w' a3 c3 iW):=by
 refine dH 64 Tryz.func15 J J J hM fun f0 ha H=>?_
 let J0:=iL ju h jt
 have H0:=H.put (it:=J0) J<|by rw[bS];exact rr
 have i0:f0 0=sL ju h jt:=ha 0 bm
 have i1:f0 1=I lv:=ha 1 bm
 have alF:=N4 h
 refine az<|k<|al H0 ml ?_
 intro aZ w0 bY (H1:HI M w w0 [box aZ #[I 0,I 0,I 0,I 0,I 0,.bool false,I 0,I 0,.slice none 0 0,.slice none 0 0,.slice none 0 0,I 0,I 0,I 0,I 0,I 0,.slice none 0 0,I 0,I 0] 35,J0])
 let J1:=box aZ #[I 0,I 0,I 0,I 0,I 0,.bool false,I 0,I 0,.slice none 0 0,.slice none 0 0,.slice none 0 0,I 0,I 0,I 0,I 0,I 0,.slice none 0 0,I 0,I 0] 35
 refine bz<|ai J i0<|k ?_
 have bT:=R9 (h:=h) H1.mb (H1.rv 1 J)<|by exact tB
 refine ca aiI J (ec J e0) bT ?_
 rintro _ w1 ⟨a0,c0,a1,c1,a2,c2,rfl,dy,cE,ep,ei⟩
 have H2:=H1.ext dy
 let J2:=iL a0 (l7 h) c0
 have H3:=H2.put (it:=J2) J cE
 let J3:=iL a1 (cX h) c1
 have H4:=H3.put (it:=J3) J<|by rw[aH J];exact ep
 let J4:=iL a2 ([]:aA) c2
 have H5:=H4.put (it:=J4) J<|by rw[aH rfl,aH rfl];exact ei
 refine ai (v:=.tuple #[.agg #[sL a0 (l7 h) c0,sL a1 (cX h) c1,sL a2 ([]:aA) c2],I (ly h)]) J J<|k<|xt J J J<|k<|xt J J J<|k<|al H5 ej ?_
 let bc:=[J4,J3,J2,J1,J0]
 intro ba w2 fe (H6:HI M w w2 (box ba #[.slice none 0 0,.slice none 0 0,.slice none 0 0] 47::bc))
 refine k<|bw H6 0 J ej J J J J J J J ?_
 let J5:=box ba #[sL a0 (l7 h) c0,sL a1 (cX h) c1,sL a2 ([]:aA) c2] 47
 intro w3 (H7:HI M w w3 (J5::bc))
 refine ak (v:=I (ly h)) J J<|aq<|sq<|sq ?_
 have alJ:decide (0<(((dS lv).length:Nat):Int))=qH lv:=rfl
 refine rg<|ai (v:=I (ly h)) J J<|k<|neq J J J J<|ai (v:=.bool (!decide ((ly h)=0))) J J ?_
 rcases bE (!decide ((ly h)=0)) with b0|b0
 ·
  have p0:=dF<|fX b0
  refine aX J J J b0<|aX J J J b0<|aX J J J b0<|k<|aN J J J J b0 J<|aq<|oA J J J<|sq ?_
  obtain⟨qQ,nE⟩:=Sh (h:=h) (lv:=lv) (by exact .inl (fX ‹(!decide (ly h=0))=true›))
  obtain⟨tz,rF,gP⟩:=P6 qQ au
  refine rg<|k<|bd (v:=.agg #[I 1,I 0,I 0,I 0,I 0,.bool false,I 0,I 0,.slice none 0 0,.slice none 0 0,.slice none 0 0,I 0,I 0,I 0,I 0,I 0,.slice none 0 0,I 0,I 0]) J (cz J eI) (fun _=>aU)<|k<|bw H7 4 J ml J J J J J J J ?_
  intro w4 (H8:HI M w w4 [J5,J4,J3,J2,box aZ #[I 1,I 0,I 0,I 0,I 0,.bool false,I 0,I 0,.slice none 0 0,.slice none 0 0,.slice none 0 0,I 0,I 0,I 0,I 0,I 0,.slice none 0 0,I 0,I 0] 35,J0])
  refine aq<|rt<|aK<|pf H8 4 J ml J J J J au ?_
  have e0:(1:Int)=qN h lv:=by rw[qQ]
  have e2:(0:Int)=(ph h lv).1:=by rw[nE]
  have e3:(0:Int)=(ph h lv).2:=by rw[nE]
  have e4:(0:Int)=wi h lv:=by rw[tz]
  have e5:(false:Bool)=wj h lv:=by exact rF.symm
  have rV:(0:Int)=(jx h lv).1:=by rw[gP]
  have sP:(0:Int)=(jx h lv).2.1:=by rw[gP]
  have rU:(0:Int)=(jx h lv).2.2.1:=by rw[gP]
  have tI:(0:Int)=(jx h lv).2.2.2.1:=by rw[gP]
  have tH:(0:Int)=(jx h lv).2.2.2.2:=by rw[gP]
  have bu:=Mk (fun (cq:Int) (gQ:Int) (mM:Int) (xc:Int) (xb:Bool) (se:Int) (sd:Int) (sc:Int) (r9:Int) (r8:Int)=>(.agg #[I cq,I 0,I gQ,I mM,I xc,.bool xb,I 0,I 0,.slice none ([]:List (List bt)).length 0,.slice none ([]:aA).length 0,.slice none ([]:List aA).length 0,I se,I sd,I sc,I r9,I r8,.slice none ([]:List cT).length 0,I 0,I 0]:Value)) e0 e2 e3 e4 e5 rV sP rU tI tH
  exact⟨0,0,([]:List (List bt)),([]:aA),([]:List aA),([]:List cT),0,0,none,0,none,0,none,0,none,0,bu,H8.below,(eH _ _),(eH _ _),(eH _ _),(eH _ _)⟩
 have p0:=dT<|fl b0
 refine aQ J J J b0<|mv J i1<|aQ J J J b0 ?_
 have dq:=Ex (lv:=lv) (w:=w3) mZ
 refine ca acT J (ec J e0) dq ?_
 rintro _ w4 ⟨rfl,fA⟩
 have H8:=H7.ext fA
 refine aQ J J J b0<|kg J J<|k<|cZ J J J J b0 J<|z<|nx<|cd (b:=!(decide (0<(((dS lv).length:Nat):Int)))) J J (fun b1=>?_)<|fun b1=>?_
 ·
  have p1:=dF<|fX b1
  refine sq ?_
  obtain⟨qQ,nE⟩:=Sh (h:=h) (lv:=lv) (by exact .inr (fX ‹(!decide (0<(((dS lv).length:Nat):Int)))=true›))
  obtain⟨tz,rF,gP⟩:=P6 qQ au
  refine rg<|k<|bd (v:=.agg #[I 1,I 0,I 0,I 0,I 0,.bool false,I 0,I 0,.slice none 0 0,.slice none 0 0,.slice none 0 0,I 0,I 0,I 0,I 0,I 0,.slice none 0 0,I 0,I 0]) J (cz J eI) (fun _=>aU)<|k<|bw H8 4 J ml J J J J J J J ?_
  intro w5 (H9:HI M w w5 [J5,J4,J3,J2,box aZ #[I 1,I 0,I 0,I 0,I 0,.bool false,I 0,I 0,.slice none 0 0,.slice none 0 0,.slice none 0 0,I 0,I 0,I 0,I 0,I 0,.slice none 0 0,I 0,I 0] 35,J0])
  refine aq<|rt<|aK<|pf H9 4 J ml J J J J au ?_
  have e0:(1:Int)=qN h lv:=by rw[qQ]
  have e2:(0:Int)=(ph h lv).1:=by rw[nE]
  have e3:(0:Int)=(ph h lv).2:=by rw[nE]
  have e4:(0:Int)=wi h lv:=by rw[tz]
  have e5:(false:Bool)=wj h lv:=by exact rF.symm
  have rV:(0:Int)=(jx h lv).1:=by rw[gP]
  have sP:(0:Int)=(jx h lv).2.1:=by rw[gP]
  have rU:(0:Int)=(jx h lv).2.2.1:=by rw[gP]
  have tI:(0:Int)=(jx h lv).2.2.2.1:=by rw[gP]
  have tH:(0:Int)=(jx h lv).2.2.2.2:=by rw[gP]
  have bu:=Mk (fun (cq:Int) (gQ:Int) (mM:Int) (xc:Int) (xb:Bool) (se:Int) (sd:Int) (sc:Int) (r9:Int) (r8:Int)=>(.agg #[I cq,I 0,I gQ,I mM,I xc,.bool xb,I 0,I 0,.slice none ([]:List (List bt)).length 0,.slice none ([]:aA).length 0,.slice none ([]:List aA).length 0,I se,I sd,I sc,I r9,I r8,.slice none ([]:List cT).length 0,I 0,I 0]:Value)) e0 e2 e3 e4 e5 rV sP rU tI tH
  exact⟨0,0,([]:List (List bt)),([]:aA),([]:List aA),([]:List cT),0,0,none,0,none,0,none,0,none,0,bu,H9.below,(eH _ _),(eH _ _),(eH _ _),(eH _ _)⟩
 have p1:=dT<|fl b1
 refine sk<|nx<|sq<|az<|k<|cI H8 0 J ej J J au J<|k ?_
 have fP:=Mf (U:=(cX h)) (aC:=a0) (aD:=(l7 h).length) (aB:=c0) (ay:=a2) (fc:=([]:aA).length) (ax:=c2) H8.mb<|H8.rv 2 J
 refine ca aiH J (ec J e0) fP ?_
 rintro _ w5 ⟨rfl,iz⟩
 have H9:=H8.ext iz
 refine ai (v:=.tuple #[I ((da<|cX h).1),I ((da<|cX h).2.1),I ((da<|cX h).2.2)]) J J<|k<|xt J J J<|k<|xt J J J<|k<|xt J J J<|ak (v:=I ((da<|cX h).1)) J J<|ak (v:=I ((da<|cX h).2.1)) J J<|ak (v:=I ((da<|cX h).2.2)) J J<|bz<|ai (v:=I ((da<|cX h).2.2)) J J<|k<|neq J J J J<|z<|nx<|cd (b:=!decide (((da<|cX h).2.2)=0)) J J (fun b2=>?_)<|fun b2=>?_
 ·
  have p2:=dF<|fX b2
  refine sq ?_
  have Vm:ly h=0:=dT<|fl ‹(!decide (ly h=0))=false›
  have LJ:qH lv=true:=fl ‹(!decide (0<(((dS lv).length:Nat):Int)))=false›
  obtain⟨qQ,nE⟩:=LD Vm LJ
  obtain⟨tz,rF,gP⟩:=P6 qQ (dF (fX ‹(!decide ((da (cX h)).2.2=0))=true›))
  refine rg<|ai (v:=I ((da<|cX h).2.2)) J J<|ai (v:=I ((da<|cX h).1)) J J<|ai (v:=I ((da<|cX h).2.1)) J J<|k<|bd (v:=.agg #[I ((da<|cX h).2.2),I 0,I ((da<|cX h).1),I ((da<|cX h).2.1),I 0,.bool false,I 0,I 0,.slice none 0 0,.slice none 0 0,.slice none 0 0,I 0,I 0,I 0,I 0,I 0,.slice none 0 0,I 0,I 0]) J (cz J<|cz J<|cz J eI) (fun _=>aU)<|k<|bw H9 4 J ml J J J J J J J ?_
  intro w6 (dz:HI M w w6 [J5,J4,J3,J2,box aZ #[I ((da (cX h)).2.2),I 0,I ((da (cX h)).1),I ((da (cX h)).2.1),I 0,.bool false,I 0,I 0,.slice none 0 0,.slice none 0 0,.slice none 0 0,I 0,I 0,I 0,I 0,I 0,.slice none 0 0,I 0,I 0] 35,J0])
  refine aq<|rt<|aK<|pf dz 4 J ml J J J J au ?_
  have e0:((da (cX h)).2.2:Int)=qN h lv:=by rw[qQ]
  have e2:((da (cX h)).1:Int)=(ph h lv).1:=by rw[nE]
  have e3:((da (cX h)).2.1:Int)=(ph h lv).2:=by rw[nE]
  have e4:(0:Int)=wi h lv:=by rw[tz]
  have e5:(false:Bool)=wj h lv:=by exact rF.symm
  have rV:(0:Int)=(jx h lv).1:=by rw[gP]
  have sP:(0:Int)=(jx h lv).2.1:=by rw[gP]
  have rU:(0:Int)=(jx h lv).2.2.1:=by rw[gP]
  have tI:(0:Int)=(jx h lv).2.2.2.1:=by rw[gP]
  have tH:(0:Int)=(jx h lv).2.2.2.2:=by rw[gP]
  have bu:=Mk (fun (cq:Int) (gQ:Int) (mM:Int) (xc:Int) (xb:Bool) (se:Int) (sd:Int) (sc:Int) (r9:Int) (r8:Int)=>(.agg #[I cq,I 0,I gQ,I mM,I xc,.bool xb,I 0,I 0,.slice none ([]:List (List bt)).length 0,.slice none ([]:aA).length 0,.slice none ([]:List aA).length 0,I se,I sd,I sc,I r9,I r8,.slice none ([]:List cT).length 0,I 0,I 0]:Value)) e0 e2 e3 e4 e5 rV sP rU tI tH
  exact⟨0,0,([]:List (List bt)),([]:aA),([]:List aA),([]:List cT),0,0,none,0,none,0,none,0,none,0,bu,dz.below,(eH _ _),(eH _ _),(eH _ _),(eH _ _)⟩
 have p2:=dT<|fl b2
 refine sk<|nx<|sq ?_
 have Vm:ly h=0:=dT<|fl ‹(!decide (ly h=0))=false›
 have LJ:qH lv=true:=fl ‹(!decide (0<(((dS lv).length:Nat):Int)))=false›
 have Vs:(da (cX h)).2.2=0:=dT<|fl ‹(!decide ((da<|cX h).2.2=0))=false›
 obtain⟨qQ,nE,tz,rF,gP⟩:=P5 Vm LJ Vs
 have Vp:=SR<|cX h
 refine rg<|k<|cI H9 0 J ej J J au J<|k ?_
 have ff:=Ng (fv:=(l7 h)) (U:=(cX h)) (fo:=([]:aA)) H9.mb (H9.rv 3 J) (H9.rv 2 J) (H9.rv 1 J) aj
 refine ca aiG J (ec J e0) ff ?_
 rintro _ w6 ⟨a3,c3,a4,c4,a5,c5,rfl,jh,fB,ja,jW⟩
 have dz:=H9.ext jh
 let J6:=iL a3 (l7 h) c3
 have cB:=dz.put (it:=J6) J fB
 let J7:=iL a4 (cX h) c4
 have dx:=cB.put (it:=J7) J<|by rw[aH J];exact ja
 let J8:=iL a5 (gM (cX h)) c5
 have dI:=dx.put (it:=J8) J<|by rw[aH rfl,aH rfl];exact jW
 refine k<|bw dI 3 J ej J J J J J J J ?_
 let J9:=box ba #[sL a3 (l7 h) c3,sL a4 (cX h) c4,sL a5 (gM (cX h)) c5] 47
 let ck:=J8::J7::J6::J9::bc
 intro w7 (cU:HI M w w7 ck)
 refine aq<|sq<|az<|k<|cI cU 3 J ej J J au J<|ai J i1<|k ?_
 have mc:=PE (U:=(cX h)) (fo:=(gM<|cX h)) (lv:=lv) (aC:=a3) (aD:=(l7 h).length) (aB:=c3) cU.mb (hT.ext cU.below) (cU.rv 1 J) (cU.rv 0 J) mZ (by exact N3 h) aj (by exact Vp) (by exact L5 Vs)<|by exact PN LJ
 refine ca aiF J (ec J<|ec J e0) mc ?_
 rintro _ w8 ⟨o0,o1,o2,o3,o4,o5,o6,o7,a6,c6,rfl,ki,iH,q0⟩
 have d_:=cU.ext ki
 let dZ:=iL a6 o5 c6
 have dD:=d_.put (it:=dZ) J iH
 refine ai (v:=.tuple #[.agg #[I o0,I o1,I o2,I o3,I o4,sL a6 o5 c6,I o6,I o7],I (fh (cX h) (gM<|cX h) lv)]) J J<|k<|xt J J J<|k<|xt J J J<|k<|al dD bW ?_
 intro bL w9 mA (cY:HI M w w9 (box bL #[I 0,I 0,I 0,I 0,I 0,.slice none 0 0,I 0,I 0] 33::dZ::ck))
 refine k<|bw cY 0 J bW J J J J J J J ?_
 let eP:=box bL #[I o0,I o1,I o2,I o3,I o4,sL a6 o5 c6,I o6,I o7] 33
 intro dP (dW:HI M w dP (eP::dZ::ck))
 refine ak (v:=I (fh (cX h) (gM<|cX h) lv)) J J<|bz<|ai (v:=I (fh (cX h) (gM<|cX h) lv)) J J<|k<|eql J J J J<|z<|nx<|cd (b:=decide ((fh (cX h) (gM<|cX h) lv)=0)) J J (fun b3=>?_)<|fun b3=>?_
 ·
  refine sq ?_
  rw[amC (dT ‹decide (fh (cX h) (gM (cX h)) lv=0)=true›)] at rF;rw[aai q0 (dT ‹decide (fh (cX h) (gM (cX h)) lv=0)=true›)] at gP
  refine rg<|ai J i1<|k<|cI dW 0 J bW J J au J<|k<|bd (v:=.agg #[I 0,I 0,I 0,I 0,I lv,.bool false,I 0,I 0,.slice none 0 0,.slice none 0 0,.slice none 0 0,I o0,I o1,I o2,I o3,I o4,sL a6 o5 c6,I o6,I o7]) J (cz J<|cz J eI) (fun _=>aU)<|k<|bw dW 9 J ml J J J J J J J ?_
  intro eB (dQ:HI M w eB [eP,dZ,J8,J7,J6,J9,J4,J3,J2,box aZ #[I 0,I 0,I 0,I 0,I lv,.bool false,I 0,I 0,.slice none 0 0,.slice none 0 0,.slice none 0 0,I o0,I o1,I o2,I o3,I o4,sL a6 o5 c6,I o6,I o7] 35,J0])
  refine aq<|rt<|aK<|pf dQ 9 J ml J J J J au ?_
  have e0:(0:Int)=qN h lv:=by rw[qQ]
  have e2:(0:Int)=(ph h lv).1:=by rw[nE]
  have e3:(0:Int)=(ph h lv).2:=by rw[nE]
  have e4:(lv:Int)=wi h lv:=by rw[tz]
  have e5:(false:Bool)=wj h lv:=by exact rF.symm
  have rV:(o0:Int)=(jx h lv).1:=by rw[gP]
  have sP:(o1:Int)=(jx h lv).2.1:=by rw[gP]
  have rU:(o2:Int)=(jx h lv).2.2.1:=by rw[gP]
  have tI:(o3:Int)=(jx h lv).2.2.2.1:=by rw[gP]
  have tH:(o4:Int)=(jx h lv).2.2.2.2:=by rw[gP]
  have bu:=Mk (fun (cq:Int) (gQ:Int) (mM:Int) (xc:Int) (xb:Bool) (se:Int) (sd:Int) (sc:Int) (r9:Int) (r8:Int)=>(.agg #[I cq,I 0,I gQ,I mM,I xc,.bool xb,I 0,I 0,.slice none ([]:List (List bt)).length 0,.slice none ([]:aA).length 0,.slice none ([]:List aA).length 0,I se,I sd,I sc,I r9,I r8,.slice a6 o5.length c6,I o6,I o7]:Value)) e0 e2 e3 e4 e5 rV sP rU tI tH
  exact⟨0,0,([]:List (List bt)),([]:aA),([]:List aA),o5,o6,o7,none,0,none,0,none,0,a6,c6,bu,dQ.below,(eH _ _),(eH _ _),(eH _ _),(dQ.gm 1 J)⟩
 refine sk<|nx<|sq ?_
 have Vr:=dF ‹decide (fh (cX h) (gM<|cX h) lv=0)=false›
 rw[amJ Vr] at rF;rw[aah Vr] at gP
 refine rg<|k<|cI dW 5 J ej J J au J<|ai J i1<|k ?_
 have nV:=Tt (U:=(cX h)) (fo:=(gM<|cX h)) (lv:=lv) (aC:=a3) (aD:=(l7 h).length) (aB:=c3) dW.mb (hT.ext dW.below) (dW.rv 3 J) (dW.rv 2 J) mZ (by exact N3 h) aj (by exact Vp) (by exact L5 Vs) (by exact PN LJ)<|by exact HQ Vr
 refine ca aiE J (ec J<|ec J e0) nV ?_
 rintro _ eB ⟨o8,o9,aW,gX,a7,c7,a8,c8,a9,c9,rfl,og,kR,nN,oI⟩
 have dQ:=dW.ext og
 have cQ:=eu dQ kR
 have eh:=eu cQ nN
 have dO:=eu eh oI
 refine ai (v:=.tuple #[.agg #[I lv,I o8,sL a7 o9 c7,sL a8 aW c8,sL a9 gX c9],I 0]) J J<|k<|xt J J J<|k<|xt J J J<|k<|al dO vK ?_
 let dY:=iL a9 gX c9::iL a8 aW c8::iL a7 o9 c7::eP::dZ::ck
 intro fq fE BY (fg:HI M w fE (box fq #[I 0,I 0,.slice none 0 0,.slice none 0 0,.slice none 0 0] 30::dY))
 refine k<|bw fg 0 J vK J J J J J J J ?_
 let gp:=box fq #[I lv,I o8,sL a7 o9 c7,sL a8 aW c8,sL a9 gX c9] 30
 intro iU (fz:HI M w iU (gp::dY))
 refine ak (v:=I 0) J J<|aq<|sq<|az<|ai (v:=I 0) J J<|k<|neq J J J J<|aq<|nU J J au<|sk<|cV<|ai J i1<|k<|cI fz 0 J vK J J au J<|k<|bd (v:=.agg #[I 0,I 0,I 0,I 0,I lv,.bool true,I lv,I o8,sL a7 o9 c7,sL a8 aW c8,sL a9 gX c9,I 0,I 0,I 0,I 0,I 0,.slice none 0 0,I 0,I 0]) J (cz J<|cz J<|cz J eI) (fun _=>aU)<|k<|bw fz 13 J ml J J J J J J J ?_
 intro jZ (gS:HI M w jZ [gp,iL a9 gX c9,iL a8 aW c8,iL a7 o9 c7,eP,dZ,J8,J7,J6,J9,J4,J3,J2,box aZ #[I 0,I 0,I 0,I 0,I lv,.bool true,I lv,I o8,sL a7 o9 c7,sL a8 aW c8,sL a9 gX c9,I 0,I 0,I 0,I 0,I 0,.slice none 0 0,I 0,I 0] 35,J0])
 refine aq<|rt<|pf gS 13 J ml J J J J au ?_
 have e0:(0:Int)=qN h lv:=by rw[qQ]
 have e2:(0:Int)=(ph h lv).1:=by rw[nE]
 have e3:(0:Int)=(ph h lv).2:=by rw[nE]
 have e4:(lv:Int)=wi h lv:=by rw[tz]
 have e5:(true:Bool)=wj h lv:=by exact rF.symm
 have rV:(0:Int)=(jx h lv).1:=by rw[gP]
 have sP:(0:Int)=(jx h lv).2.1:=by rw[gP]
 have rU:(0:Int)=(jx h lv).2.2.1:=by rw[gP]
 have tI:(0:Int)=(jx h lv).2.2.2.1:=by rw[gP]
 have tH:(0:Int)=(jx h lv).2.2.2.2:=by rw[gP]
 have bu:=Mk (fun (cq:Int) (gQ:Int) (mM:Int) (xc:Int) (xb:Bool) (se:Int) (sd:Int) (sc:Int) (r9:Int) (r8:Int)=>(.agg #[I cq,I 0,I gQ,I mM,I xc,.bool xb,I lv,I o8,.slice a7 o9.length c7,.slice a8 aW.length c8,.slice a9 gX.length c9,I se,I sd,I sc,I r9,I r8,.slice none ([]:List cT).length 0,I 0,I 0]:Value)) e0 e2 e3 e4 e5 rV sP rU tI tH
 exact⟨lv,o8,o9,aW,gX,([]:List cT),0,0,a7,c7,a8,c8,a9,c9,none,0,bu,gS.below,(gS.gm 3 J),(gS.gm 2 J),(gS.gm 1 J),(eH _ _)⟩
theorem XS:cH aJ 185:=cN Tryz.func185
theorem aeQ:cH aJ 170:=cN Tryz.func170
theorem aeP:cH aJ 171:=cN Tryz.func171
theorem aeZ:cH aJ 143:=cN Tryz.func143
theorem aeY:cH aJ 144:=cN Tryz.func144
theorem B9 (la:s.size≤maxLen) (Qi:p_.size≤maxLen):Calls aJ 185 #[.string s,.string p_] w (cA fun v w'=>v=.bool (jO s p_)∧Ext w w'):=by
 refine dH 18 Tryz.func185 J J J pI fun f0 ha H=>?_
 have i0:f0 0=.string s:=ha 0 bm
 have i1:f0 1=.string p_:=ha 1 bm
 refine az<|ak (v:=.bool false) J J<|bz<|ai J i0<|k<|tq J J lq<|ai J i1<|k<|tq J J lq<|k<|geq J J J J<|ai (v:=.bool (decide ((p_.size:Int)≤(s.size:Int)))) J J ?_
 rcases bE (decide ((p_.size:Int)≤(s.size:Int))) with b0|b0
 ·
  have p0:=dT b0
  refine aQ J J J b0<|mv J i0<|aQ J J J b0<|mv J i1<|aQ J J J b0<|tq J J lq<|aQ J J J b0<|ag' J J J J aj lq<|aQ J J J b0<|mv J i1<|aQ J J J b0<|X7 J J J J<|k<|aN J J J J b0 J<|ak (v:=.bool (decide (s.extract 0 (p_.size:Int).toNat=p_))) J J<|aq<|rt<|r1 J J ?_
  exact⟨amz Value.bool (by simp only[jO,b0,BL]),H.below⟩
 refine aX J J J b0<|aX J J J b0<|aX J J J b0<|aX J J J b0<|aX J J J b0<|aX J J J b0<|k<|cZ J J J J b0 J<|ak (v:=.bool false) J J<|aq<|rt<|r1 J J ?_
 exact⟨amz Value.bool (by simp only[jO,b0,BL]),H.below⟩
theorem Jq (la:s.size≤maxLen) (Qi:p_.size≤maxLen):Calls aJ 170 #[.string s,.string p_] w (cA fun v w'=>v=.string (eJ s p_)∧Ext w w'):=by
 refine dH 13 Tryz.func170 J J J pI fun f0 ha H=>?_
 have i0:f0 0=.string s:=ha 0 bm
 have i1:f0 1=.string p_:=ha 1 bm
 have CJ:jO s p_=true→(p_.size:Int)≤(s.size:Int):=by intro h_;unfold jO at h_;cases e_:decide ((p_.size:Int)≤(s.size:Int))<;>rw[e_] at h_;cases h_;exact am' e_
 refine az<|ak (v:=.string ⟨#[]⟩) J J<|aq<|sq<|az<|ai J i0<|ai J i1<|k ?_
 have bT:=B9 (s:=s) (p_:=p_) (w:=w) bo bo
 refine ca XS J (ec J<|ec J e0) bT ?_
 rintro _ w0 ⟨rfl,bY⟩
 have H0:=H.ext bY
 refine z<|nx<|cd (b:=jO s p_) J J (fun b0=>?_)<|fun b0=>?_
 ·
  refine az<|ai J i0<|ai J i1<|k<|tq J J lq<|k<|Uh J J J J (by have h_:=CJ bo;omega) lq<|ak (v:=.string (s.extract (p_.size:Int).toNat s.size)) J J<|aq<|rt<|aK<|r1 J J ?_
  exact⟨amz Value.string (by simp only[eJ,b0,BL]),H0.below⟩
 refine sk<|cV<|ai J i0<|ak (v:=.string s) J J<|aq<|rt<|r1 J J ?_
 exact⟨amz Value.string (by simp only[eJ,b0,BL]),H0.below⟩
theorem KB (la:s.size≤maxLen) (Qi:p_.size≤maxLen):Calls aJ 171 #[.string s,.string p_] w (cA fun v w'=>v=.tuple #[.string (eJ s p_),.bool (jO s p_)]∧Ext w w'):=by
 refine dH 15 Tryz.func171 J J J pI fun f0 ha H=>?_
 have i0:f0 0=.string s:=ha 0 bm
 have i1:f0 1=.string p_:=ha 1 bm
 have CJ:jO s p_=true→(p_.size:Int)≤(s.size:Int):=by intro h_;unfold jO at h_;cases e_:decide ((p_.size:Int)≤(s.size:Int))<;>rw[e_] at h_;cases h_;exact am' e_
 refine az<|ak (v:=.string ⟨#[]⟩) J J<|ak (v:=.bool false) J J<|aq<|sq<|az<|ai J i0<|ai J i1<|k ?_
 have bT:=B9 (s:=s) (p_:=p_) (w:=w) bo bo
 refine ca XS J (ec J<|ec J e0) bT ?_
 rintro _ w0 ⟨rfl,bY⟩
 have H0:=H.ext bY
 refine k<|kg J J<|z<|nx<|cd (b:=!(jO s p_)) J J (fun b0=>?_)<|fun b0=>?_
 ·
  refine az<|ai J i0<|ak (v:=.string s) J J<|ak (v:=.bool false) J J<|aq<|rt<|aK<|r2 J J J ?_
  have e0:(s:bA)=eJ s p_:=by simp only[eJ,(fX b0),BL]
  have e1:(false:Bool)=jO s p_:=by simp only[(fX b0),BL]
  have bu:=ny (fun (cq:bA) (dX:Bool)=>(.tuple #[.string cq,.bool dX]:Value)) e0 e1
  exact⟨bu,H0.below⟩
 refine sk<|cV<|ai J i0<|ai J i1<|k<|tq J J lq<|k<|Uh J J J J (by have h_:=CJ (by simpa using ‹(!jO s p_)=false›);omega) lq<|ak (v:=.string (s.extract (p_.size:Int).toNat s.size)) J J<|ak (v:=.bool true) J J<|aq<|rt<|r2 J J J ?_
 have e0:(s.extract (p_.size:Int).toNat s.size:bA)=eJ s p_:=by simp only[eJ,(fl b0),BL]
 have e1:(true:Bool)=jO s p_:=by simp only[(fl b0),BL]
 have bu:=ny (fun (cq:bA) (dX:Bool)=>(.tuple #[.string cq,.bool dX]:Value)) e0 e1
 exact⟨bu,H0.below⟩
theorem B6 (la:s.size≤maxLen) (Qi:p_.size≤maxLen):Calls aJ 143 #[.string s,.string p_] w (cA fun v w'=>v=.string (eJ s p_)∧Ext w w'):=by
 refine dH 8 Tryz.func143 J J J pI fun f0 ha H=>?_
 have i0:f0 0=.string s:=ha 0 bm
 have i1:f0 1=.string p_:=ha 1 bm
 refine az<|ak (v:=.string ⟨#[]⟩) J J<|bz<|ai J i0<|ai J i1<|k ?_
 have bT:=Jq (s:=s) (p_:=p_) (w:=w) bo bo
 refine ca aeQ J (ec J<|ec J e0) bT ?_
 rintro _ w0 ⟨rfl,bY⟩
 have H0:=H.ext bY
 refine ak (v:=.string (eJ s p_)) J J<|aq<|rt<|r1 J J ?_
 exact⟨J,H0.below⟩
theorem DZ (la:s.size≤maxLen) (Qi:p_.size≤maxLen):Calls aJ 145 #[.string s,.string p_] w (cA fun v w'=>v=.tuple #[.string (eJ s p_),.bool (jO s p_)]∧Ext w w'):=by
 refine dH 11 Tryz.func145 J J J pI fun f0 ha H=>?_
 have i0:f0 0=.string s:=ha 0 bm
 have i1:f0 1=.string p_:=ha 1 bm
 refine az<|ak (v:=.string ⟨#[]⟩) J J<|ak (v:=.bool false) J J<|bz<|ai J i0<|ai J i1<|k ?_
 have bT:=KB (s:=s) (p_:=p_) (w:=w) bo bo
 refine ca aeP J (ec J<|ec J e0) bT ?_
 rintro _ w0 ⟨rfl,bY⟩
 have H0:=H.ext bY
 refine k<|xt J J J<|k<|xt J J J<|ak (v:=.string (eJ s p_)) J J<|ak (v:=.bool (jO s p_)) J J<|aq<|rt<|r2 J J J ?_
 exact⟨J,H0.below⟩
theorem UQ (la:s.size≤maxLen) (lD:aL at_):Calls aJ 110 #[.string s,I at_] w (cA fun v w'=>v=I (ga s at_)∧Ext w w'):=by
 refine dH 26 Tryz.func110 J J J pI fun f0 ha H=>?_
 have i0:f0 0=.string s:=ha 0 bm
 have i1:f0 1=I at_:=ha 1 bm
 have Ba:maxLen=9223372036854775807:=rfl
 refine az<|ak (v:=I 0) J J<|aq<|sq<|az<|ai J i1<|k<|lss J J J J<|ai (v:=.bool (decide (at_<0))) J J ?_
 rcases bE (decide (at_<0)) with b0|b0
 ·
  refine aX J J J b0<|aX J J J b0<|aX J J J b0<|aX J J J b0<|k<|aN J J J J b0 J<|aq<|oA J J J<|az<|ak (v:=I 0) J J<|aq<|rt<|aK<|r1 J J ?_
  exact⟨amz (Value.int .i64) (by simp only[ga,b0,BL]),H.below⟩
 have p0:=dF b0
 refine aQ J J J b0<|mv J i1<|aQ J J J b0<|mv J i0<|aQ J J J b0<|tq J J lq<|aQ J J J b0<|geq J J J J<|k<|cZ J J J J b0 J<|z<|nx<|cd (b:=decide ((s.size:Int)≤at_)) J J (fun b1=>?_)<|fun b1=>?_
 ·
  refine az<|ak (v:=I 0) J J<|aq<|rt<|aK<|r1 J J ?_
  exact⟨amz (Value.int .i64) (by simp only[ga,b0,b1,BL]),H.below⟩
 have p1:=dF b1
 refine sk<|cV<|ai J i0<|ai J i1<|k<|Uh J J J J aj lq<|ak (v:=.string (s.extract at_.toNat s.size)) J J<|bz<|ai (v:=.string (s.extract at_.toNat s.size)) J J<|k ?_
 have bT:=B6 (s:=(s.extract at_.toNat s.size)) (p_:=⟨#[45]⟩) (w:=w) (by exact amP (C2 _ _ _) la) au
 refine ca aeZ J (ec J<|ec J e0) bT ?_
 rintro _ w0 ⟨rfl,bY⟩
 have H0:=H.ext bY
 refine ak (v:=.string (eJ (s.extract at_.toNat s.size) ⟨#[45]⟩)) J J<|bz<|ai (v:=.string (s.extract at_.toNat s.size)) J J<|k<|tq J J lq<|ai (v:=.string (eJ (s.extract at_.toNat s.size) ⟨#[45]⟩)) J J<|k ?_
 have dq:=ET (s:=(eJ (s.extract at_.toNat s.size) ⟨#[45]⟩)) (cs:=⟨#[48,49,50,51,52,53,54,55,56,57]⟩) (w:=w0) (by exact amP (re _ _) (amP (C2 _ _ _) la)) au<|by exact G5
 refine ca aeY J (ec J<|ec J e0) dq ?_
 rintro _ w1 ⟨rfl,dy⟩
 have H1:=H0.ext dy
 refine k<|tq J J lq<|k<|sub J J J J (by have BQ:=D4 (eJ (s.extract at_.toNat s.size) ⟨#[45]⟩) ⟨#[48,49,50,51,52,53,54,55,56,57]⟩;have jj:=re (s.extract at_.toNat s.size) ⟨#[45]⟩;have XQ:=C2 s at_.toNat s.size;unfold aL;omega)<|ak (v:=I (((s.extract at_.toNat s.size).size:Int)-((B5 (eJ (s.extract at_.toNat s.size) ⟨#[45]⟩) ⟨#[48,49,50,51,52,53,54,55,56,57]⟩).size:Int))) J J<|aq<|rt<|r1 J J ?_
 exact⟨amz (Value.int .i64) (by simp only[ga,b0,b1,BL]),H1.below⟩
theorem aeX:cH aJ 145:=cN Tryz.func145
theorem T':aJ.underlying 57=some (.slice 5):=aU
theorem Pb:aJ.underlying 151=some (.int .u64):=aU
theorem Y8 (la:s.size≤maxLen):Calls aJ 111 #[.string s] w (cA fun v w'=>v=.tuple #[I ((fM s).1),I ((fM s).2)]∧Ext w w'):=by
 refine dH 62 Tryz.func111 J J J pI fun f0 ha H=>?_
 have i0:f0 0=.string s:=ha 0 bm
 have Ba:maxLen=9223372036854775807:=rfl
 refine az<|ak (v:=I 0) J J<|ak (v:=I 0) J J<|bz<|ai J i0<|k ?_
 have bT:=DZ (s:=s) (p_:=⟨#[45]⟩) (w:=w) bo au
 refine ca aeX J (ec J<|ec J e0) bT ?_
 rintro _ w0 ⟨rfl,bY⟩
 have H0:=H.ext bY
 refine ai (v:=.tuple #[.string (eJ s ⟨#[45]⟩),.bool (jO s ⟨#[45]⟩)]) J J<|k<|xt J J J<|k<|xt J J J<|ak (v:=.string (eJ s ⟨#[45]⟩)) J J<|ak (v:=.bool (jO s ⟨#[45]⟩)) J J<|z<|nx<|cut (fun f w'=>f 4=.string (eJ s ⟨#[45]⟩)∧f 5=.bool (jO s ⟨#[45]⟩)∧HI (fun _=>False) w w' []∧(k0 s=false)) ?_ ?_
 ·
  refine az<|ai (v:=.string (eJ s ⟨#[45]⟩)) J J<|k<|X7 J J J J<|ai (v:=.bool (decide (eJ s ⟨#[45]⟩=⟨#[]⟩))) J J ?_
  rcases bE (decide (eJ s ⟨#[45]⟩=⟨#[]⟩)) with b0|b0
  ·
   refine aX J J J b0<|aX J J J b0<|aX J J J b0<|k<|aN J J J J b0 J<|ai (v:=.bool true) J J<|aX J J J J<|aX J J J J<|aX J J J J<|aX J J J J<|k<|gu J J J<|k<|gu J J J<|aX J J J J<|k<|aN J J J J J J<|aq<|oA J J J<|az<|ak (v:=I 0) J J<|ak (v:=I 2) J J<|aq<|rt<|HP ?_
   have vA:fM s=(0,2):=AZ<|by simp only[k0,b0,BL]
   refine r2 J J J ?_
   have e0:(0:Int)=(fM s).1:=by rw[vA]
   have e1:(2:Int)=(fM s).2:=by rw[vA]
   have bu:=ny (fun (cq:Int) (dX:Int)=>(.tuple #[I cq,I dX]:Value)) e0 e1
   exact⟨bu,H0.below⟩
  have p0:=dF b0
  refine aQ J J J b0<|mv (v:=.string (eJ s ⟨#[45]⟩)) J J<|aQ J J J b0 ?_
  have dq:=B7 (s:=(eJ s ⟨#[45]⟩)) (cs:=⟨#[48,49,50,51,52,53,54,55,56,57]⟩) (w:=w0) (by exact amP (re _ _) la) au<|by exact G5
  refine ca X1 J (ec J<|ec J e0) dq ?_
  rintro _ w2 ⟨rfl,dy⟩
  have H1:=H0.ext dy
  refine aQ J J J b0<|neS J J J J<|k<|cZ J J J J b0 J<|ai (v:=.bool (!decide (trimB (eJ s ⟨#[45]⟩) ⟨#[48,49,50,51,52,53,54,55,56,57]⟩=⟨#[]⟩))) J J ?_
  rcases bE (!decide (trimB (eJ s ⟨#[45]⟩) ⟨#[48,49,50,51,52,53,54,55,56,57]⟩=⟨#[]⟩)) with b1|b1
  ·
   have p1:=dF<|fX b1
   refine aX J J J b1<|aX J J J b1<|aX J J J b1<|aX J J J b1<|k<|gu J J J<|k<|gu J J J<|aX J J J b1<|k<|aN J J J J b1 J<|aq<|oA J J J<|az<|ak (v:=I 0) J J<|ak (v:=I 2) J J<|aq<|rt<|HP ?_
   have vA:fM s=(0,2):=AZ<|by simp only[k0,b0,(fX b1),BL]
   refine r2 J J J ?_
   have e0:(0:Int)=(fM s).1:=by rw[vA]
   have e1:(2:Int)=(fM s).2:=by rw[vA]
   have bu:=ny (fun (cq:Int) (dX:Int)=>(.tuple #[I cq,I dX]:Value)) e0 e1
   exact⟨bu,H1.below⟩
  have p1:=dT<|fl b1
  refine aQ J J J b1<|mv (v:=.string (eJ s ⟨#[45]⟩)) J J<|aQ J J J b1<|Xd J J J J (by exact⟨aof _,ZR p0⟩) lq<|aQ J J J b1<|eql J J J J<|aQ J J J b1<|mv (v:=.bool (decide ((nz (eJ s ⟨#[45]⟩) 0)=48))) J J ?_
  rcases bE (decide ((nz (eJ s ⟨#[45]⟩) 0)=48)) with b2|b2
  ·
   refine aQ J J J b2<|mv J i0<|aQ J J J b2<|neS J J J J<|aQ J J J b1<|aN J J J J b2 J<|k<|cZ J J J J b1 J<|z<|nx<|cd (b:=!decide (s=⟨#[48]⟩)) J J (fun b3=>?_)<|fun b3=>?_
   ·
    have p3:=dF<|fX b3
    refine az<|ak (v:=I 0) J J<|ak (v:=I 2) J J<|aq<|rt<|HP ?_
    have vA:fM s=(0,2):=AZ<|by simp only[k0,b0,(fl b1),b2,(fX b3),BL]
    refine r2 J J J ?_
    have e0:(0:Int)=(fM s).1:=by rw[vA]
    have e1:(2:Int)=(fM s).2:=by rw[vA]
    have bu:=ny (fun (cq:Int) (dX:Int)=>(.tuple #[I cq,I dX]:Value)) e0 e1
    exact⟨bu,H1.below⟩
   have p3:=dT<|fl b3
   refine sk<|Bj ⟨J,J,H1,(by simp only[k0,b0,(fl b1),b2,(fl b3),BL])⟩
  refine aX J J J b2<|aX J J J b2<|aQ J J J b1<|cZ J J J J b2 J<|k<|cZ J J J J b1 J<|aq<|nU J J J<|sk<|Bj ⟨J,J,H1,(by simp only[k0,b0,(fl b1),b2,BL])⟩
 ·
  rintro f0 w1 ⟨s0,s1,H3,CP⟩
  refine az<|ak (v:=ag (9223372036854775807#64)) J J<|z<|nx<|cut (fun f w'=>∃(m_:bt),f 4=.string (eJ s ⟨#[45]⟩)∧f 5=.bool (jO s ⟨#[45]⟩)∧f 6=ag m_∧HI (fun _=>False) w w' []∧(m_.toNat=ob s)) ?_ ?_
  ·
   refine az<|ai J s1<|z<|nx<|cd (b:=jO s ⟨#[45]⟩) J J (fun b3=>?_)<|fun b3=>?_
   ·
    refine rg<|ai (v:=ag (9223372036854775807#64)) J J<|k<|Ia (9223372036854775807#64) (1#64) J J J J<|ak (v:=ag ((9223372036854775807#64)+(1#64))) J J<|z<|Bj ⟨((9223372036854775807#64)+(1#64)),s0,s1,(Nx J<|by rfl),H3,(by unfold ob;rw[b3];rfl)⟩
   refine sk<|Bj ⟨(9223372036854775807#64),s0,s1,(Nx J<|by rfl),H3,(by unfold ob;rw[b3];rfl)⟩
  ·
   rintro f1 w3 ⟨m_,s2,s3,s4,H5,Vn⟩
   refine az<|ak (v:=ag (0#64)) J J<|aq<|sq<|az<|ai J s2<|k<|aiR H5 J J (by exact amP (re _ _) la) lq T' WG ?_
   intro a0 c0 w4 fe (H6:HI (fun _=>False) w w4 [iL a0 (pC (eJ s ⟨#[45]⟩)) c0])
   refine k<|ef J J T'<|ai (v:=I 0) J J<|aq<|bk<|lp (fun m f w'=>∃(j_:Nat) (yA:bt),m=(pC<|eJ s ⟨#[45]⟩).length-j_∧f 5=.bool (jO s ⟨#[45]⟩)∧f 6=ag m_∧f 7=ag yA∧f 36=sL a0 (pC<|eJ s ⟨#[45]⟩) c0∧f 37=I ((pC<|eJ s ⟨#[45]⟩).length:Int)∧f 38=I (j_:Int)∧HI (fun _=>False) w w' [iL a0 (pC<|eJ s ⟨#[45]⟩) c0]∧(j_≤(pC<|eJ s ⟨#[45]⟩).length)∧(mj m_.toNat (zv s).data.toList 0=mj m_.toNat ((zv s).data.toList.drop j_) yA.toNat)) _ ⟨0,(0#64),J,s3,s4,(Nx J<|by rfl),J,J,(bN J),H6,aj,(by rfl)⟩ ?_
   rintro _ f2 w5 ⟨j_,yA,rfl,s5,s6,s7,s8,s9,eC,H7,pk,hs⟩
   refine sq ?_
   have alH:=Y_ s
   have alR:(pC (eJ s ⟨#[45]⟩)).length≤s.size:=by rw[uO];exact re _ _
   refine rg<|k<|lss J J eC s9<|aq<|sq<|cd (b:=decide ((j_:Int)<((pC<|eJ s ⟨#[45]⟩).length:Int))) J J (fun b4=>?_)<|fun b4=>?_
   ·
    have p4:=dT b4
    refine sk<|nx<|sq<|bk<|az<|k<|ia (H7.rv 0 J) J J s8 eC aj T' WQ ?_
    intro iE x0 aI cD
    refine k<|ld8 cD.w WQ J J<|ak (v:=U8 x0) J J<|bz<|ai (v:=U8 x0) J J<|k<|ag_ J J J J (by have h_:=Tk (O1 CP) aI;omega)<|k<|OP J J WG Pb<|ak (v:=ag (BitVec.ofInt 64<|(x0.toNat:Int)-48)) J J<|aq<|sq<|sq ?_
    have hd_:=Tk (O1 CP) aI
    refine rg<|ai J s7<|ai J s6<|ai (v:=ag (BitVec.ofInt 64<|(x0.toNat:Int)-48)) J J<|k<|aax m_ (BitVec.ofInt 64<|(x0.toNat:Int)-48) J J J J<|k<|ahf (m_-(BitVec.ofInt 64<|(x0.toNat:Int)-48)) (10#64) au J J J J<|k<|XR yA ((m_-(BitVec.ofInt 64<|(x0.toNat:Int)-48))/(10#64)) J J J J<|z<|nx<|cd (b:=decide (((m_-(BitVec.ofInt 64<|(x0.toNat:Int)-48))/(10#64)).toNat<yA.toNat)) J J (fun b5=>?_)<|fun b5=>?_
    ·
     refine az<|ak (v:=I 0) J J<|ak (v:=I 3) J J<|aq<|rt<|aK<|bU<|aK<|ee<|bU<|aK ?_
     have vA:fM s=(0,3):=UU CP<|by rw[←Vn];exact Y7 hd_ aj (HX aI) hs bo
     refine r2 J J J ?_
     have e0:(0:Int)=(fM s).1:=by rw[vA]
     have e1:(3:Int)=(fM s).2:=by rw[vA]
     have bu:=ny (fun (cq:Int) (dX:Int)=>(.tuple #[I cq,I dX]:Value)) e0 e1
     exact⟨bu,H7.below⟩
    have p5:=dF b5
    refine sk<|nx<|rg<|ai J s7<|k<|Fc (10#64) yA J J J J<|ai (v:=ag (BitVec.ofInt 64<|(x0.toNat:Int)-48)) J J<|k<|Ia ((10#64)*yA) (BitVec.ofInt 64<|(x0.toNat:Int)-48) J J J J<|ak (v:=ag (((10#64)*yA)+(BitVec.ofInt 64<|(x0.toNat:Int)-48))) J J<|z<|aF<|nx<|rg<|k<|add J J eC J aT<|ai (v:=I ((j_:Int)+1)) J J<|z<|bG _ ?_ ⟨(j_+1),(((10#64)*yA)+(BitVec.ofInt 64<|(x0.toNat:Int)-48)),J,s5,s6,(Nx J<|by rfl),s8,s9,(bN J),H7,aj,(by exact UP hd_ aj (HX aI) hs bo)⟩
    omega
   have p4:=dF b4
   refine ex<|aV<|bf<|bh<|nx<|sq<|az<|ai J s5<|z<|nx<|cd (b:=jO s ⟨#[45]⟩) J J (fun b5=>?_)<|fun b5=>?_
   ·
    refine az<|ai J s7<|k<|aa_ yA J J<|k<|cvT J J Pb B2<|ak (v:=I ((-yA).toInt)) J J<|ak (v:=I 0) J J<|aq<|rt<|aK ?_
    have vA:=US CP bo<|by rw[←Vn];exact N6 hs (by have h_:=uO (eJ s ⟨#[45]⟩);rw[ang];show (eJ s ⟨#[45]⟩).size≤_;omega)
    refine r2 J J J ?_
    have e0:((-yA).toInt:Int)=(fM s).1:=by rw[vA]
    have e1:(0:Int)=(fM s).2:=by rw[vA]
    have bu:=ny (fun (cq:Int) (dX:Int)=>(.tuple #[I cq,I dX]:Value)) e0 e1
    exact⟨bu,H7.below⟩
   refine sk<|cV<|ai J s7<|k<|cvT J J Pb B2<|ak (v:=I yA.toInt) J J<|ak (v:=I 0) J J<|aq<|rt ?_
   have vA:=UR CP bo<|by rw[←Vn];exact N6 hs (by have h_:=uO (eJ s ⟨#[45]⟩);rw[ang];show (eJ s ⟨#[45]⟩).size≤_;omega)
   refine r2 J J J ?_
   have e0:(yA.toInt:Int)=(fM s).1:=by rw[vA]
   have e1:(0:Int)=(fM s).2:=by rw[vA]
   have bu:=ny (fun (cq:Int) (dX:Int)=>(.tuple #[I cq,I dX]:Value)) e0 e1
   exact⟨bu,H7.below⟩
end Go.Proofs.YtgjakhpjmapelaaGreatDoor
