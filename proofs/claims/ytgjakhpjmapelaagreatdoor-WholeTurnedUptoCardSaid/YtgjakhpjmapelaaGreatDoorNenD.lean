/- PRINTED by my own tool (wip/tool/gen.py): contracts of Go functions of this seat, each with its proof. -/
import Derived.Test.YtgjakhpjmapelaaGreatDoorVwnB
import Derived.Test.YtgjakhpjmapelaaGreatDoorVwnC
import Derived.Test.YtgjakhpjmapelaaGreatDoorNenC
import Derived.Test.YtgjakhpjmapelaaGreatDoorNenB
import Derived.Test.YtgjakhpjmapelaaGreatDoorNenA
import Derived.Test.YtgjakhpjmapelaaGreatDoorVwnD
import Derived.Test.YtgjakhpjmapelaaGreatDoorVwnA
set_option linter.unusedVariables false
set_option linter.unusedSimpArgs false
namespace Go.Proofs.YtgjakhpjmapelaaGreatDoor
open Go.Ew Go.RowKit
set_option maxRecDepth 100000
set_option maxHeartbeats 1600000
attribute [local irreducible] WL WC SO PW PX PZ WE Code.wp wpList si cm
attribute [local irreducible] ko xJ jz fk ei AE Dq Ll words eh cY jK fF vJ
variable {M:bY} {w w_:aG}
variable {aC aw ay wq wo bC dw jN gb:OA} {aD aB av ax wm wj bB eH dv kD eZ jZ qv ga:Nat} {U:List aN} {fo:aA} {kd fB lv x_ mn cn o xx at_:Int} {a b:List bp} {mr cr:List (List bp)} {me:TypeId} {r:List Go.Ew.Item} {fv:List bh} {s cs p_:bh} {qA:List Value} {h:List (List (Bool×bh×Int))}
theorem xS:gR aI 33 0 0:=jT Tryz.underlying33
theorem ajD:cx aI 78:=cF Tryz.func78
theorem xR:gR aI 33 6 6:=jT Tryz.underlying33
theorem vu:gR aI 33 5 5:=jT Tryz.underlying33
theorem aeE:gR aI 33 7 7:=jT Tryz.underlying33
theorem ajC:cx aI 80:=cF Tryz.func80
theorem aem:cx aI 83:=cF Tryz.func83
theorem aeu:cx aI 16:=cF Tryz.func16
theorem ajL:cx aI 53:=cF Tryz.func53
theorem VD {jV:Int} {lM:Int} {gz:Int} {HT:OA} {GV HN:Nat} {TT:Value} {R_:Value} (hM:eJ M w) (hT:fS 0 w) (dC:cA M w aw av U) (fZ:cA M w ay ax fo) (lT:aK kd) (Hk:aK fB) (Bu:aK jV) (YI:aK lM) (yT:aK gz) (ho:ik U) (dy:U.length≤64) (eB:fo.length=U.length) (fL:∀x∈fo,x<((U.length:Nat):Int)) (acY:kd=6∨kd=7→0≤gz∧gz<((U.length:Nat):Int)):Calls aI 53 #[.agg #[.slice aC aD aB,sL aw U av,sL ay fo ax],.agg #[I kd,I fB,I jV,I lM,I gz,.slice HT GV HN,TT,R_]] w (cm fun v w'=>∃(iA:List cN) (f_:Int) (s_:Int) (a0:OA) (c0:Nat),v=.tuple #[.agg #[I kd,I fB,I jV,I lM,I gz,sL a0 iA c0,I f_,I s_],I 0]∧Ext w w'∧cA M w' a0 c0 iA):=by
 refine dx 113 Tryz.func53 J J J hM fun f0 ha H=>?_
 let J0:=iL aw U av
 have H0:=H.put (it:=J0) J<|by rw[bP];exact dC
 let J1:=iL ay fo ax
 have H1:=H0.put (it:=J1) J<|by rw[aH rfl,bP];exact fZ
 have ja:=bg dC
 have kR:=bg fZ
 have i0:f0 0=.agg #[.slice aC aD aB,sL aw U av,sL ay fo ax]:=ha 0 bj
 have i1:f0 1=.agg #[I kd,I fB,I jV,I lM,I gz,.slice HT GV HN,TT,R_]:=ha 1 bj
 have A6:=MY fo<|show U.length≤4096 by omega
 have Qp:=pD fo<|show U.length≤4096 by omega
 refine az<|k<|bx H1 J i0 ?_
 intro aW w0 bW (H2:HI M w w0 [box aW #[.slice aC aD aB,sL aw U av,sL ay fo ax] 47,J1,J0])
 let J2:=box aW #[.slice aC aD aB,sL aw U av,sL ay fo ax] 47
 refine k<|bx H2 J i1 ?_
 intro ba w1 df (H3:HI M w w1 [box ba #[I kd,I fB,I jV,I lM,I gz,.slice HT GV HN,TT,R_] 33,J2,J1,J0])
 let J3:=box ba #[I kd,I fB,I jV,I lM,I gz,.slice HT GV HN,TT,R_] 33
 refine k<|al H3 bT ?_
 intro bI w2 eS (H4:HI M w w2 [box bI #[I 0,I 0,I 0,I 0,I 0,.slice none 0 0,I 0,I 0] 33,J3,J2,J1,J0])
 let J4:=box bI #[I 0,I 0,I 0,I 0,I 0,.slice none 0 0,I 0,I 0] 33
 refine ak (v:=I 0) J J<|bw<|aQ xS J J<|bo H4 1 J aU J J J<|aQ rS J J<|bo H4 1 J aU J J J<|aQ pN J J<|bo H4 1 J aU J J J<|aQ Hy J J<|bo H4 1 J aU J J J<|aQ oT J J<|bo H4 1 J aU J J J<|k<|bd (v:=.agg #[I kd,I fB,I jV,I lM,I gz,.slice none 0 0,I (-1),I (-1)]) J (ck J<|ck J<|ck J<|ck J<|ck J<|ck J<|ck J ew) (fun _=>aS)<|k<|al H4 bT ?_
 intro fm w3 fH (H5:HI M w w3 [box fm #[I 0,I 0,I 0,I 0,I 0,.slice none 0 0,I 0,I 0] 33,J4,J3,J2,J1,J0])
 refine k<|bu H5 0 J bT J J J J J J J ?_
 let J5:=box fm #[I kd,I fB,I jV,I lM,I gz,.slice none 0 0,I (-1),I (-1)] 33
 intro w4 (H6:HI M w w4 [J5,J4,J3,J2,J1,J0])
 refine aq<|sq<|my [.r,.r,.r,.e,.e] (fun _=>True) J aS (fun _ _=>trivial)<|yq J J<|kq (fun _ x_=>cB (H6.ext x_) 3 J dQ J J au J e1)<|bO<|kq (fun _ x_=>cB (H6.ext x_) 3 J dQ J J au J e1)<|zq<|yu J (fun _ v w'=>∃(a0:OA) (c0:Nat),v=.agg #[I (U.length:Int),sL a0 (ky U fo) c0]∧RV H6.fg w' (sL a0 (ky U fo) c0) (ky U fo)) J oq J (fun v_ _ x_ _=>have cU:=EX (U:=U) (fo:=fo) (aC:=aC) (aD:=aD) (aB:=aB) (w:=v_) (H6.ext x_).mb ((H6.ext x_).rv 5 rfl) ((H6.ext x_).rv 4 rfl) (by exact ho) aj (by exact eB) (by exact fL);ca aep rfl (ec J e0) cU (fun _ w6 ⟨a1,c1,e_,jr,ee⟩=>⟨_,J,jr,⟨a1,c1,e_,ee⟩⟩))<|ye<|ye<|yz ?_
 intro w7 f0 _ kr _ _ cC iT
 have dm:=H6.ext kr
 have s0:=cC 2 J
 have s1:=cC 3 J
 have s2:=cC 4 J
 have s3:=cC 6 J
 have s4:=cC 21 J
 obtain⟨a2,c2,s5,eb⟩:=iT 0 _ _ rfl
 let J6:=iL a2 (ky U fo) c2
 have cL:=dm.put (it:=J6) J eb
 refine kc ?_
 have cH:HI M w w7 ([J0,J1,J6]++[J5,J4,J3,J2]):=cL.bV [6,5,0,1,2,3,4] au J
 have fU:=N0 (aC:=aC) (aD:=aD) (aB:=aB) (aw:=aw) (av:=av) (U:=U) (ay:=ay) (ax:=ax) (fo:=fo) (mn:=(U.length:Int)) (bC:=a2) (bB:=c2) (mr:=(ky U fo)) (w:=w) (w_:=w7) (r:=[J5,J4,J3,J2]) (M:=M) aR cH
 refine ca ajD J (ec s4<|ec s5 e0) fU ?_
 rintro _ w8 ⟨gO,a3,c3,dK,fR,rfl,dV⟩
 let J7:=box gO #[.slice aC aD aB,sL aw U av,sL ay fo ax,sL a3 ([]:List cN) c3,.map (some dK),I (U.length:Int),sL a2 (ky U fo) c2,.map (some fR)] 142
 let J8:=oL w 175 a3 ([]:List cN) c3
 let J9:=cb dK ([]:KV)
 let bc:=[J8,J9,bU fR ([]:List ((Int×Int)×Bool)),J0,J1,J6,J5,J4,J3,J2]
 have dA:HI M w w8 (J7::bc):=dV
 refine kc<|jM (v:=pV gO 0) J J<|kz<|nx<|sq<|az<|aQ xS J s1<|bo dA 9 J aU J J J<|aq<|bk<|az<|k<|eql J J J J<|ak (v:=.bool (decide (kd=2))) J J<|z<|nx<|cd (b:=decide (kd=2)) J J (fun b0=>?_)<|fun b0=>?_
 ·
  refine rg<|ai (v:=pV gO 0) J J<|aQ oT J s1<|bo dA 9 J aU J J J<|aQ oT J s1<|bo dA 9 J aU J J J<|k ?_
  have cT:HI M w w8 ([J7,J0,J1,J8,J9,J6,bU fR ([]:List ((Int×Int)×Bool))]++[J5,J4,J3,J2]):=dA.bV [0,4,5,1,2,6,3,7,8,9,10] au J
  have fb:=mL (cZ:=gO) (aC:=aC) (aD:=aD) (aB:=aB) (aw:=aw) (av:=av) (U:=U) (ay:=ay) (ax:=ax) (fo:=fo) (eD:=a3) (eC:=c3) (sp:=([]:List cN)) (bA:=dK) (mp:=([]:KV)) (pn:=(U.length:Int)) (de:=a2) (db:=c2) (pr:=(ky U fo)) (bK:=fR) (mq:=([]:List ((Int×Int)×Bool))) (f_:=gz) (t_:=gz) (w:=w) (w_:=w8) (r:=[J5,J4,J3,J2]) (M:=M) aR yT yT hT (by simp only[gA];omega) aj (by exact eB) (by exact dy) (by exact A6) cT
  refine ca zD J (ec J<|ec J<|ec J e0) fb ?_
  rintro _ w9 ⟨o0,o1,o2,a4,c4,rfl,dX,q0,q1⟩
  let dZ:=box gO #[.slice aC aD aB,sL aw U av,sL ay fo ax,sL a4 o1 c4,.map (some dK),I (U.length:Int),sL a2 (ky U fo) c2,.map (some fR)] 142
  have dI:HI M w w9 [dZ,J0,J1,oL w 175 a4 o1 c4,cb dK o2,J6,bU fR ([]:List ((Int×Int)×Bool)),J5,J4,J3,J2]:=dX
  refine aQ xR J s3<|k<|bu dI 7 J aU J J J J J J J ?_
  intro dP (cG:HI M w dP [dZ,J0,J1,oL w 175 a4 o1 c4,cb dK o2,J6,bU fR ([]:List ((Int×Int)×Bool)),box fm #[I kd,I fB,I jV,I lM,I gz,.slice none 0 0,I o0,I (-1)] 33,J4,J3,J2])
  refine z<|aF<|cO<|ai (v:=pV gO 0) J J<|k<|nc J J<|aQ l7 J J<|bo cG 0 J nI J J J<|aQ vu J s3<|k<|bu cG 7 J nI J J J J J J J ?_
  let eL:=box fm #[I kd,I fB,I jV,I lM,I gz,sL a4 o1 c4,I o0,I (-1)] 33
  intro ey (d_:HI M w ey [dZ,J0,J1,oL w 175 a4 o1 c4,cb dK o2,J6,bU fR ([]:List ((Int×Int)×Bool)),eL,J4,J3,J2])
  refine bw<|k<|cB d_ 7 J bT J s3 au J<|k<|bu d_ 8 J bT J J s2 J J J J ?_
  intro fq (dD:HI M w fq [dZ,J0,J1,oL w 175 a4 o1 c4,cb dK o2,J6,bU fR ([]:List ((Int×Int)×Bool)),eL,box bI #[I kd,I fB,I jV,I lM,I gz,sL a4 o1 c4,I o0,I (-1)] 33,J3,J2])
  refine ak (v:=I 0) J J<|aq<|rt<|iy dD 8 J bT J J J s2 J au ?_
  exact⟨o1,o0,(-1),a4,c4,J,dD.below,(dD.mD 3 J)⟩
 have p0:=dF b0
 refine az<|k<|eql J J J J<|ak (v:=.bool (decide (kd=3))) J J<|z<|nx<|cd (b:=decide (kd=3)) J J (fun b1=>?_)<|fun b1=>?_
 ·
  refine rg<|ai (v:=pV gO 0) J J<|aQ pN J s1<|bo dA 9 J aU J J J<|aQ rS J s1<|bo dA 9 J aU J J J<|k ?_
  have cT:HI M w w8 ([J7,J0,J1,J8,J9,J6,bU fR ([]:List ((Int×Int)×Bool))]++[J5,J4,J3,J2]):=dA.bV [0,4,5,1,2,6,3,7,8,9,10] au J
  have fb:=mL (cZ:=gO) (aC:=aC) (aD:=aD) (aB:=aB) (aw:=aw) (av:=av) (U:=U) (ay:=ay) (ax:=ax) (fo:=fo) (eD:=a3) (eC:=c3) (sp:=([]:List cN)) (bA:=dK) (mp:=([]:KV)) (pn:=(U.length:Int)) (de:=a2) (db:=c2) (pr:=(ky U fo)) (bK:=fR) (mq:=([]:List ((Int×Int)×Bool))) (f_:=jV) (t_:=fB) (w:=w) (w_:=w8) (r:=[J5,J4,J3,J2]) (M:=M) aR Bu Hk hT (by simp only[gA];omega) aj (by exact eB) (by exact dy) (by exact A6) cT
  refine ca zD J (ec J<|ec J<|ec J e0) fb ?_
  rintro _ w9 ⟨o0,o1,o2,a4,c4,rfl,dX,q0,q1⟩
  let gf:=box gO #[.slice aC aD aB,sL aw U av,sL ay fo ax,sL a4 o1 c4,.map (some dK),I (U.length:Int),sL a2 (ky U fo) c2,.map (some fR)] 142
  have dI:HI M w w9 [gf,J0,J1,oL w 175 a4 o1 c4,cb dK o2,J6,bU fR ([]:List ((Int×Int)×Bool)),J5,J4,J3,J2]:=dX
  refine aQ xR J s3<|k<|bu dI 7 J aU J J J J J J J ?_
  intro dP (cG:HI M w dP [gf,J0,J1,oL w 175 a4 o1 c4,cb dK o2,J6,bU fR ([]:List ((Int×Int)×Bool)),box fm #[I kd,I fB,I jV,I lM,I gz,.slice none 0 0,I o0,I (-1)] 33,J4,J3,J2])
  refine z<|aF<|cO<|ai (v:=pV gO 0) J J<|k<|nc J J<|aQ l7 J J<|bo cG 0 J nI J J J<|aQ vu J s3<|k<|bu cG 7 J nI J J J J J J J ?_
  let fN:=box fm #[I kd,I fB,I jV,I lM,I gz,sL a4 o1 c4,I o0,I (-1)] 33
  intro ey (d_:HI M w ey [gf,J0,J1,oL w 175 a4 o1 c4,cb dK o2,J6,bU fR ([]:List ((Int×Int)×Bool)),fN,J4,J3,J2])
  refine bw<|k<|cB d_ 7 J bT J s3 au J<|k<|bu d_ 8 J bT J J s2 J J J J ?_
  intro fq (dD:HI M w fq [gf,J0,J1,oL w 175 a4 o1 c4,cb dK o2,J6,bU fR ([]:List ((Int×Int)×Bool)),fN,box bI #[I kd,I fB,I jV,I lM,I gz,sL a4 o1 c4,I o0,I (-1)] 33,J3,J2])
  refine ak (v:=I 0) J J<|aq<|rt<|iy dD 8 J bT J J J s2 J au ?_
  exact⟨o1,o0,(-1),a4,c4,J,dD.below,(dD.mD 3 J)⟩
 have p1:=dF b1
 refine az<|k<|eql J J J J<|ak (v:=.bool (decide (kd=4))) J J<|z<|nx<|cd (b:=decide (kd=4)) J J (fun b2=>?_)<|fun b2=>?_
 ·
  refine my [.r,.r,.r,.r,.r,.e,.s,.f,.f,.f,.f,.e,.f,.e,.f,.e] (fun w'=>HI M w w' [J3]) J aS (fun _ x_=>(dA.bV (l':=[J3]) [9] au J).ext x_)<|yq J J<|kq (fun _ _=>mv (v:=pV gO 0) J J e1)<|bO<|kq (fun _ _=>fa pN J s1 e1)<|bO<|kq (fun _ x_=>lx (dA.ext x_) 9 J aU J J J e1)<|bO<|kq (fun _ _=>fa Hy J s1 e1)<|bO<|kq (fun _ x_=>lx (dA.ext x_) 9 J aU J J J e1)<|zq<|ye<|yq J J<|kq (fun _ _=>mv (v:=pV gO 0) J J e1)<|zq<|yf J (fun _ _=>fa Hy J s1 e3)<|yf J (fun _ i_=>lx i_ 0 J aU J J J e3)<|yf J (fun _ _=>fa rS J s1 e3)<|yf J (fun _ i_=>lx i_ 0 J aU J J J e3)<|ye<|yf J (fun _ _=>fa xR J s3 e3)<|ye<|yf J (fun _ _=>fa aeE J s3 e3)<|ye<|yz ?_
  intro w9 f1 _ lX _ _ fK Ao
  have cT:=dA.ext lX
  have s6:=(fK 4 J).trans s2
  have s7:=(fK 6 J).trans s3
  have s8:=fK 7 J
  have s9:=fK 47 J
  have ej:=fK 49 J
  have eX:=fK 51 J
  have fA:=fK 53 J
  have fD:=fK 55 J
  have gi:=fK 57 J
  have gS:=fK 59 J
  have kb:=fK 60 J
  refine ke ?_
  let bX:=[J6,bU fR ([]:List ((Int×Int)×Bool))]
  have dX:HI M w w9 ((J7::J0::J1::J8::J9::bX)++[J5,J4,J3,J2]):=cT.bV [0,4,5,1,2,6,3,7,8,9,10] au J
  have fb:=mL (cZ:=gO) (aC:=aC) (aD:=aD) (aB:=aB) (aw:=aw) (av:=av) (U:=U) (ay:=ay) (ax:=ax) (fo:=fo) (eD:=a3) (eC:=c3) (sp:=([]:List cN)) (bA:=dK) (mp:=([]:KV)) (pn:=(U.length:Int)) (de:=a2) (db:=c2) (pr:=(ky U fo)) (bK:=fR) (mq:=([]:List ((Int×Int)×Bool))) (f_:=jV) (t_:=lM) (w:=w) (w_:=w9) (r:=[J5,J4,J3,J2]) (M:=M) aR Bu YI hT (by simp only[gA];omega) aj (by exact eB) (by exact dy) (by exact A6) dX
  refine ca zD J (ec s9<|ec ej<|ec eX e0) fb ?_
  rintro _ dP ⟨o0,o1,o2,a4,c4,rfl,dI,q0,q1⟩
  let iH:=box gO #[.slice aC aD aB,sL aw U av,sL ay fo ax,sL a4 o1 c4,.map (some dK),I (U.length:Int),sL a2 (ky U fo) c2,.map (some fR)] 142
  let dM:=[J6,bU fR ([]:List ((Int×Int)×Bool)),J5,J4,J3,J2]
  have cG:HI M w dP (iH::J0::J1::oL w 175 a4 o1 c4::cb dK o2::dM):=dI
  refine⟨cG.bV [9] au rfl,?_⟩
  refine ke ?_
  have d_:HI M w dP ((iH::J0::J1::oL w 175 a4 o1 c4::cb dK o2::bX)++[J5,J4,J3,J2]):=cG.bV [0,1,2,3,4,5,6,7,8,9,10] au J
  have nr:=mL (cZ:=gO) (aC:=aC) (aD:=aD) (aB:=aB) (aw:=aw) (av:=av) (U:=U) (ay:=ay) (ax:=ax) (fo:=fo) (eD:=a4) (eC:=c4) (sp:=o1) (bA:=dK) (mp:=o2) (pn:=(U.length:Int)) (de:=a2) (db:=c2) (pr:=(ky U fo)) (bK:=fR) (mq:=([]:List ((Int×Int)×Bool))) (f_:=lM) (t_:=fB) (w:=w) (w_:=dP) (r:=[J5,J4,J3,J2]) (M:=M) aR YI Hk hT (by simp only[gA] at *;omega) aj (by exact eB) (by exact dy) (by exact A6) d_
  refine ca zD J (ec fA<|ec fD<|ec gi e0) nr ?_
  rintro _ ey ⟨o3,o4,o5,a5,c5,rfl,dD,q2,q3⟩
  let pc:=box gO #[.slice aC aD aB,sL aw U av,sL ay fo ax,sL a5 o4 c5,.map (some dK),I (U.length:Int),sL a2 (ky U fo) c2,.map (some fR)] 142
  let mA:=oL w 175 a5 o4 c5
  have eR:HI M w ey (pc::J0::J1::mA::cb dK o5::dM):=dD
  refine⟨eR.bV [9] au rfl,?_⟩
  refine ke<|bu eR 7 J aU J J gS J J J J ?_
  intro fq (eW:HI M w fq [pc,J0,J1,mA,cb dK o5,J6,bU fR ([]:List ((Int×Int)×Bool)),box fm #[I kd,I fB,I jV,I lM,I gz,.slice none 0 0,I o0,I (-1)] 33,J4,J3,J2])
  refine⟨eW.bV [9] au rfl,?_⟩
  refine ke<|bu eW 7 J aU J J kb J J J J ?_
  intro iQ (gW:HI M w iQ [pc,J0,J1,mA,cb dK o5,J6,bU fR ([]:List ((Int×Int)×Bool)),box fm #[I kd,I fB,I jV,I lM,I gz,.slice none 0 0,I o0,I o3] 33,J4,J3,J2])
  refine⟨gW.bV [9] au rfl,?_⟩
  refine kz<|aF<|cO<|ai J s8<|k<|nc J J<|aQ l7 J J<|bo gW 0 J nI J J J<|aQ vu J s7<|k<|bu gW 7 J nI J J J J J J J ?_
  let tM:=box fm #[I kd,I fB,I jV,I lM,I gz,sL a5 o4 c5,I o0,I o3] 33
  intro j1 (jf:HI M w j1 [pc,J0,J1,mA,cb dK o5,J6,bU fR ([]:List ((Int×Int)×Bool)),tM,J4,J3,J2])
  refine bw<|k<|cB jf 7 J bT J s7 au J<|k<|bu jf 8 J bT J J s6 J J J J ?_
  intro rm (jC:HI M w rm [pc,J0,J1,mA,cb dK o5,J6,bU fR ([]:List ((Int×Int)×Bool)),tM,box bI #[I kd,I fB,I jV,I lM,I gz,sL a5 o4 c5,I o0,I o3] 33,J3,J2])
  refine ak (v:=I 0) J J<|aq<|rt<|iy jC 8 J bT J J J s6 J au ?_
  exact⟨o4,o0,o3,a5,c5,J,jC.below,(jC.mD 3 J)⟩
 have p2:=dF b2
 refine az<|k<|eql J J J J<|ak (v:=.bool (decide (kd=5))) J J<|z<|nx<|cd (b:=decide (kd=5)) J J (fun b3=>?_)<|fun b3=>?_
 ·
  refine az<|ai (v:=pV gO 0) J J<|k ?_
  have cT:HI M w w8 ([J7,J0,J1,J8,J9,J6,bU fR ([]:List ((Int×Int)×Bool))]++[J5,J4,J3,J2]):=dA.bV [0,4,5,1,2,6,3,7,8,9,10] au J
  have fb:=GG (cZ:=gO) (aC:=aC) (aD:=aD) (aB:=aB) (aw:=aw) (av:=av) (U:=U) (ay:=ay) (ax:=ax) (fo:=fo) (eD:=a3) (eC:=c3) (sp:=([]:List cN)) (bA:=dK) (mp:=([]:KV)) (pn:=(U.length:Int)) (de:=a2) (db:=c2) (pr:=(ky U fo)) (bK:=fR) (mq:=([]:List ((Int×Int)×Bool))) (w:=w) (w_:=w8) (r:=[J5,J4,J3,J2]) (M:=M) aR hT (by exact ho) (by exact dy) (by exact eB) (by exact fL) aj (by exact A6) (by simp only[gA];omega) cT
  refine ca ajC J (ec J e0) fb ?_
  rintro _ w9 ⟨o0,o1,o2,a4,c4,a5,c5,rfl,dX,q0,q1⟩
  let jO:=box gO #[.slice aC aD aB,sL aw U av,sL ay fo ax,sL a4 o0 c4,.map (some dK),I (U.length:Int),sL a5 o2 c5,.map (some fR)] 142
  let iO:=[iL a5 o2 c5,bU fR ([]:List ((Int×Int)×Bool)),J5,J4,J3,J2]
  have dI:HI M w w9 (jO::J0::J1::oL w 175 a4 o0 c4::cb dK o1::iO):=dX
  refine aq<|rg<|ai (v:=pV gO 0) J J<|aQ oT J s1<|bo dI 9 J aU J J J<|aQ oT J s1<|bo dI 9 J aU J J J<|k ?_
  have cG:HI M w w9 ([jO,J0,J1,oL w 175 a4 o0 c4,cb dK o1,iL a5 o2 c5,bU fR ([]:List ((Int×Int)×Bool))]++[J5,J4,J3,J2]):=dI.bV [0,1,2,3,4,5,6,7,8,9,10] au J
  have nr:=mL (cZ:=gO) (aC:=aC) (aD:=aD) (aB:=aB) (aw:=aw) (av:=av) (U:=U) (ay:=ay) (ax:=ax) (fo:=fo) (eD:=a4) (eC:=c4) (sp:=o0) (bA:=dK) (mp:=o1) (pn:=(U.length:Int)) (de:=a5) (db:=c5) (pr:=o2) (bK:=fR) (mq:=([]:List ((Int×Int)×Bool))) (f_:=gz) (t_:=gz) (w:=w) (w_:=w9) (r:=[J5,J4,J3,J2]) (M:=M) aR yT yT hT (by simp only[gA] at *;omega) aj (by exact eB) (by exact dy) bt cG
  refine ca zD J (ec J<|ec J<|ec J e0) nr ?_
  rintro _ dP ⟨o3,o4,o5,a6,c6,rfl,d_,q2,q3⟩
  let pb:=box gO #[.slice aC aD aB,sL aw U av,sL ay fo ax,sL a6 o4 c6,.map (some dK),I (U.length:Int),sL a5 o2 c5,.map (some fR)] 142
  have dD:HI M w dP (pb::J0::J1::oL w 175 a6 o4 c6::cb dK o5::iO):=d_
  refine aQ xR J s3<|k<|bu dD 7 J aU J J J J J J J ?_
  intro ey (eR:HI M w ey [pb,J0,J1,oL w 175 a6 o4 c6,cb dK o5,iL a5 o2 c5,bU fR ([]:List ((Int×Int)×Bool)),box fm #[I kd,I fB,I jV,I lM,I gz,.slice none 0 0,I o3,I (-1)] 33,J4,J3,J2])
  refine z<|aF<|cO<|ai (v:=pV gO 0) J J<|k<|nc J J<|aQ l7 J J<|bo eR 0 J nI J J J<|aQ vu J s3<|k<|bu eR 7 J nI J J J J J J J ?_
  let qx:=box fm #[I kd,I fB,I jV,I lM,I gz,sL a6 o4 c6,I o3,I (-1)] 33
  intro fq (eW:HI M w fq [pb,J0,J1,oL w 175 a6 o4 c6,cb dK o5,iL a5 o2 c5,bU fR ([]:List ((Int×Int)×Bool)),qx,J4,J3,J2])
  refine bw<|k<|cB eW 7 J bT J s3 au J<|k<|bu eW 8 J bT J J s2 J J J J ?_
  intro iQ (gW:HI M w iQ [pb,J0,J1,oL w 175 a6 o4 c6,cb dK o5,iL a5 o2 c5,bU fR ([]:List ((Int×Int)×Bool)),qx,box bI #[I kd,I fB,I jV,I lM,I gz,sL a6 o4 c6,I o3,I (-1)] 33,J3,J2])
  refine ak (v:=I 0) J J<|aq<|rt<|iy gW 8 J bT J J J s2 J au ?_
  exact⟨o4,o3,(-1),a6,c6,J,gW.below,(gW.mD 3 J)⟩
 have p3:=dF b3
 refine sq<|az<|k<|eql J J J J<|ak (v:=.bool (decide (kd=6))) J J<|z<|nx<|cd (b:=decide (kd=6)) J J (fun b4=>?_)<|fun b4=>?_
 ·
  have p4:=dT b4
  refine sk<|nx<|oW J J b4<|az<|k<|cB dA 10 J dQ J s0 au J<|k ?_
  have fb:=BD (U:=U) (fo:=fo) (aC:=aC) (aD:=aD) (aB:=aB) dA.mb (dA.rv 4 J) (dA.rv 5 J) (by exact ho) aj (by exact eB)<|by exact fL
  refine ca Rf J (ec J e0) fb ?_
  rintro _ w9 ⟨a4,c4,rfl,lX,fh⟩
  have cT:=dA.ext lX
  let ob:=iL a4 (ct U fo) c4
  have dX:=cT.put (it:=ob) J fh
  refine k<|al dX bm ?_
  intro AJ dP nS (dI:HI M w dP (box AJ #[I 0,.slice none 0 0] 26::ob::J7::bc))
  refine k<|bu dI 0 J bm J J J J J J J ?_
  let pa:=box AJ #[I (U.length:Int),sL a4 (ct U fo) c4] 26
  intro ey (cG:HI M w ey (pa::ob::J7::bc))
  refine aq<|sq<|my [.r,.r,.r,.r,.r,.r,.r,.r,.r,.r,.r,.r,.e] (fun _=>True) J aS (fun _ _=>trivial)<|yq J J<|kq (fun _ _=>mv (v:=pV gO 0) J J e1)<|bO<|kq (fun _ _=>mv (v:=pV gO 0) J J e1)<|bO<|kq (fun _ _=>nc J J e1)<|bO<|kq (fun _ _=>fa rj J J e1)<|bO<|kq (fun _ x_=>cB (cG.ext x_) 2 J bm J J au J e1)<|bO<|kq (fun _ x_=>cB (cG.ext x_) 0 J bm J J au J e1)<|bO<|kq (fun _ _=>fa oT J s1 e1)<|bO<|kq (fun _ x_=>lx (cG.ext x_) 11 J aU J J J e1)<|zq<|yu J (fun _ v w'=>∃(a5:OA) (c5:Nat),v=sL a5 (bN (U.length:Int) (ct U fo) gz) c5∧RV cG.fg w' (sL a5 (bN (U.length:Int) (ct U fo) gz) c5) (bN (U.length:Int) (ct U fo) gz)) J oq J (fun v_ _ x_ _=>have n5:=u0 (mn:=(U.length:Int)) (mr:=(ct U fo)) (o:=gz) (w:=v_) (cG.ext x_).mb (hT.ext (cG.ext x_).below) aR ((cG.ext x_).rv 1 rfl) yT (by exact Qp);ca MM rfl (ec J<|ec J e0) n5 (fun _ iQ ⟨a6,c6,e_,Fe,iU⟩=>⟨_,J,Fe,⟨a6,c6,e_,(bl.rv iU (cG.ext x_).mb)⟩⟩))<|lJ J (fun _ v w'=>∃(a8:OA) (c8:Nat),v=.agg #[I (U.length:Int),sL a8 (gl (U.length:Int) (ky U fo)<|bN (U.length:Int) (ct U fo) gz) c8]∧RV cG.fg w' (sL a8 (gl (U.length:Int) (ky U fo)<|bN (U.length:Int) (ct U fo) gz) c8) (gl (U.length:Int) (ky U fo)<|bN (U.length:Int) (ct U fo) gz)) 0 J J oq J (fun v_ _ _ x_ _ h_=>let ⟨a9,c9,s6,qb⟩:=h_;have jm:=(cG.ext x_).put (it:=iL a9 (bN (U.length:Int) (ct U fo) gz) c9) rfl qb;have Dv:=zt (mn:=(U.length:Int)) (mr:=(ky U fo)) (l:=(bN (U.length:Int) (ct U fo) gz)) jm.mb aR (jm.rv 9 J) (jm.rv 0 J) (by exact A6) (by have h_:=uT Qp gz;omega);ca WJ rfl (ec J<|ec s6 e0) Dv (fun _ rm ⟨jv,ju,e_,P6,oH⟩=>⟨_,J,P6,⟨jv,ju,e_,(l4 J<|bl.rv oH jm.mb)⟩⟩))<|yq J J<|kq (fun _ _=>nc J J e1)<|bO<|kq (fun _ _=>fa rj J J e1)<|zq<|ye<|yz ?_
  intro zS f1 _ K4 _ _ fK Ao
  have pq:=cG.ext K4
  have s7:=(fK 3 J).trans s1
  have s8:=(fK 4 J).trans s2
  have s9:=(fK 6 J).trans s3
  have ej:=fK 7 J
  have eX:=fK 8 J
  obtain⟨mU,mT,fA,sf⟩:=Ao 0 _ _ rfl
  let vG:=iL mU (gl (U.length:Int) (ky U fo) (bN (U.length:Int) (ct U fo) gz)) mT
  have kU:=pq.put (it:=vG) J sf
  have fD:=fK 88 J
  refine kc<|bu kU 3 J bm J J fD fA J J J ?_
  let ug:=box gO #[.slice aC aD aB,sL aw U av,sL ay fo ax,sL a3 ([]:List cN) c3,.map (some dK),I (U.length:Int),sL mU (gl (U.length:Int) (ky U fo) (bN (U.length:Int) (ct U fo) gz)) mT,.map (some fR)] 142
  intro tQ (ra:HI M w tQ (vG::pa::ob::ug::bc))
  refine kz<|cO<|ai J ej<|k<|cB ra 1 J bm J eX au J<|aQ oT J s7<|bo ra 12 J aU J J J<|k ?_
  have lg:HI M w tQ ([ug,J0,J1,J8,J9,vG,bU fR ([]:List ((Int×Int)×Bool)),ob]++[pa,J6,J5,J4,J3,J2]):=ra.bV [3,7,8,4,5,0,6,2,1,9,10,11,12,13] au J
  have Uy:=Jk (cZ:=gO) (aC:=aC) (aD:=aD) (aB:=aB) (aw:=aw) (av:=av) (U:=U) (ay:=ay) (ax:=ax) (fo:=fo) (eD:=a3) (eC:=c3) (sp:=([]:List cN)) (bA:=dK) (mp:=([]:KV)) (pn:=(U.length:Int)) (de:=mU) (db:=mT) (pr:=(gl (U.length:Int) (ky U fo)<|bN (U.length:Int) (ct U fo) gz)) (bK:=fR) (mq:=([]:List ((Int×Int)×Bool))) (mn:=(U.length:Int)) (bC:=a4) (bB:=c4) (mr:=(ct U fo)) (o:=gz) (w:=w) (w_:=tQ) (r:=[pa,J6,J5,J4,J3,J2]) (M:=M) aR aR yT hT (by exact ho) (by exact dy) (by exact eB) (by exact fL) aj (by rfl) (by exact acY aj) aj (by exact Ce A6 _) (by simp only[gA];omega) lg
  refine ca aem J (ec J<|ec J<|ec J e0) Uy ?_
  rintro _ tP ⟨o0,o1,o2,a12,qY,kh,kg,rfl,AP,q0,q1⟩
  let Ca:=box gO #[.slice aC aD aB,sL aw U av,sL ay fo ax,sL a12 o0 qY,.map (some dK),I (U.length:Int),sL kh o2 kg,.map (some fR)] 142
  let uf:=iL kh o2 kg
  let fj:=[uf,bU fR ([]:List ((Int×Int)×Bool)),ob,pa,J6,J5,J4,J3,J2]
  have ki:HI M w tP (Ca::J0::J1::oL w 175 a12 o0 qY::cb dK o1::fj):=AP
  refine bw<|aQ rS J s7<|bo ki 12 J aU J J J<|ak (v:=I fB) J J<|aq<|sq<|az<|aQ xS J s7<|bo ki 12 J aU J J J<|k<|eql J J J J<|z<|nx<|cd (b:=decide (kd=7)) J J (fun b5=>?_)<|fun b5=>?_
  ·
   have p5:=dT b5
   refine rg<|aQ pN J s7<|bo ki 12 J aU J J J<|ak (v:=I jV) J J<|aq<|rg<|ai J ej<|aQ pN J s7<|bo ki 12 J aU J J J<|ai (v:=I jV) J J<|k ?_
   have uh:HI M w tP ([Ca,J0,J1,oL w 175 a12 o0 qY,cb dK o1,uf,bU fR ([]:List ((Int×Int)×Bool))]++[ob,pa,J6,J5,J4,J3,J2]):=ki.bV [0,1,2,3,4,5,6,7,8,9,10,11,12,13] au J
   have Ux:=mL (cZ:=gO) (aC:=aC) (aD:=aD) (aB:=aB) (aw:=aw) (av:=av) (U:=U) (ay:=ay) (ax:=ax) (fo:=fo) (eD:=a12) (eC:=qY) (sp:=o0) (bA:=dK) (mp:=o1) (pn:=(U.length:Int)) (de:=kh) (db:=kg) (pr:=o2) (bK:=fR) (mq:=([]:List ((Int×Int)×Bool))) (f_:=jV) (t_:=jV) (w:=w) (w_:=tP) (r:=[ob,pa,J6,J5,J4,J3,J2]) (M:=M) aR Bu Bu hT aj aj (by exact eB) (by exact dy) bt uh
   refine ca zD J (ec J<|ec J<|ec J e0) Ux ?_
   rintro _ vV ⟨o3,o4,o5,mc,l9,rfl,mB,q2,q3⟩
   let zi:=box gO #[.slice aC aD aB,sL aw U av,sL ay fo ax,sL mc o4 l9,.map (some dK),I (U.length:Int),sL kh o2 kg,.map (some fR)] 142
   have wu:HI M w vV (zi::J0::J1::oL w 175 mc o4 l9::cb dK o5::fj):=mB
   refine aQ xR J s9<|k<|bu wu 10 J aU J J J J J J J ?_
   intro wY (rz:HI M w wY [zi,J0,J1,oL w 175 mc o4 l9,cb dK o5,uf,bU fR ([]:List ((Int×Int)×Bool)),ob,pa,J6,box fm #[I kd,I fB,I jV,I lM,I gz,.slice none 0 0,I o3,I (-1)] 33,J4,J3,J2])
   refine z<|aF<|cO<|ai J ej<|k<|nc J J<|aQ l7 J J<|bo rz 0 J nI J J J<|aQ vu J s9<|k<|bu rz 10 J nI J J J J J J J ?_
   let vF:=box fm #[I kd,I fB,I jV,I lM,I gz,sL mc o4 l9,I o3,I (-1)] 33
   intro I5 (zj:HI M w I5 [zi,J0,J1,oL w 175 mc o4 l9,cb dK o5,uf,bU fR ([]:List ((Int×Int)×Bool)),ob,pa,J6,vF,J4,J3,J2])
   refine bw<|k<|cB zj 10 J bT J s9 au J<|k<|bu zj 11 J bT J J s8 J J J J ?_
   intro Eh (qz:HI M w Eh [zi,J0,J1,oL w 175 mc o4 l9,cb dK o5,uf,bU fR ([]:List ((Int×Int)×Bool)),ob,pa,J6,vF,box bI #[I kd,I fB,I jV,I lM,I gz,sL mc o4 l9,I o3,I (-1)] 33,J3,J2])
   refine ak (v:=I 0) J J<|aq<|rt<|iy qz 11 J bT J J J s8 J au ?_
   exact⟨o4,o3,(-1),mc,l9,J,qz.below,(qz.mD 3 J)⟩
  refine sk<|nx<|rg<|ai J ej<|aQ pN J s7<|bo ki 12 J aU J J J<|ai (v:=I fB) J J<|k ?_
  have uh:HI M w tP ([Ca,J0,J1,oL w 175 a12 o0 qY,cb dK o1,uf,bU fR ([]:List ((Int×Int)×Bool))]++[ob,pa,J6,J5,J4,J3,J2]):=ki.bV [0,1,2,3,4,5,6,7,8,9,10,11,12,13] au J
  have Ux:=mL (cZ:=gO) (aC:=aC) (aD:=aD) (aB:=aB) (aw:=aw) (av:=av) (U:=U) (ay:=ay) (ax:=ax) (fo:=fo) (eD:=a12) (eC:=qY) (sp:=o0) (bA:=dK) (mp:=o1) (pn:=(U.length:Int)) (de:=kh) (db:=kg) (pr:=o2) (bK:=fR) (mq:=([]:List ((Int×Int)×Bool))) (f_:=jV) (t_:=fB) (w:=w) (w_:=tP) (r:=[ob,pa,J6,J5,J4,J3,J2]) (M:=M) aR Bu Hk hT (by simp only[gA] at *;omega) aj (by exact eB) (by exact dy) bt uh
  refine ca zD J (ec J<|ec J<|ec J e0) Ux ?_
  rintro _ vV ⟨o3,o4,o5,mc,l9,rfl,mB,q2,q3⟩
  let yh:=box gO #[.slice aC aD aB,sL aw U av,sL ay fo ax,sL mc o4 l9,.map (some dK),I (U.length:Int),sL kh o2 kg,.map (some fR)] 142
  let yg:=oL w 175 mc o4 l9
  have wu:HI M w vV (yh::J0::J1::yg::cb dK o5::fj):=mB
  refine aQ xR J s9<|k<|bu wu 10 J aU J J J J J J J ?_
  intro wY (rz:HI M w wY [yh,J0,J1,yg,cb dK o5,uf,bU fR ([]:List ((Int×Int)×Bool)),ob,pa,J6,box fm #[I kd,I fB,I jV,I lM,I gz,.slice none 0 0,I o3,I (-1)] 33,J4,J3,J2])
  refine z<|aF<|cO<|ai J ej<|k<|nc J J<|aQ l7 J J<|bo rz 0 J nI J J J<|aQ vu J s9<|k<|bu rz 10 J nI J J J J J J J ?_
  let E_:=box fm #[I kd,I fB,I jV,I lM,I gz,sL mc o4 l9,I o3,I (-1)] 33
  intro I5 (zj:HI M w I5 [yh,J0,J1,yg,cb dK o5,uf,bU fR ([]:List ((Int×Int)×Bool)),ob,pa,J6,E_,J4,J3,J2])
  refine bw<|k<|cB zj 10 J bT J s9 au J<|k<|bu zj 11 J bT J J s8 J J J J ?_
  intro Eh (qz:HI M w Eh [yh,J0,J1,yg,cb dK o5,uf,bU fR ([]:List ((Int×Int)×Bool)),ob,pa,J6,E_,box bI #[I kd,I fB,I jV,I lM,I gz,sL mc o4 l9,I o3,I (-1)] 33,J3,J2])
  refine ak (v:=I 0) J J<|aq<|rt<|iy qz 11 J bT J J J s8 J au ?_
  exact⟨o4,o3,(-1),mc,l9,J,qz.below,(qz.mD 3 J)⟩
 have p4:=dF b4
 refine rg<|k<|eql J J J J<|ak (v:=.bool (decide (kd=7))) J J<|z<|nx<|cd (b:=decide (kd=7)) J J (fun b5=>?_)<|fun b5=>?_
 ·
  have p5:=dT b5
  refine az<|k<|cB dA 10 J dQ J s0 au J<|k ?_
  have fb:=BD (U:=U) (fo:=fo) (aC:=aC) (aD:=aD) (aB:=aB) dA.mb (dA.rv 4 J) (dA.rv 5 J) (by exact ho) aj (by exact eB)<|by exact fL
  refine ca Rf J (ec J e0) fb ?_
  rintro _ w9 ⟨a4,c4,rfl,lX,fh⟩
  have cT:=dA.ext lX
  let tL:=iL a4 (ct U fo) c4
  have dX:=cT.put (it:=tL) J fh
  refine k<|al dX bm ?_
  intro AJ dP nS (dI:HI M w dP (box AJ #[I 0,.slice none 0 0] 26::tL::J7::bc))
  refine k<|bu dI 0 J bm J J J J J J J ?_
  let rV:=box AJ #[I (U.length:Int),sL a4 (ct U fo) c4] 26
  intro ey (cG:HI M w ey (rV::tL::J7::bc))
  refine aq<|sq<|my [.r,.r,.r,.r,.r,.r,.r,.r,.r,.r,.r,.r,.e] (fun _=>True) J aS (fun _ _=>trivial)<|yq J J<|kq (fun _ _=>mv (v:=pV gO 0) J J e1)<|bO<|kq (fun _ _=>mv (v:=pV gO 0) J J e1)<|bO<|kq (fun _ _=>nc J J e1)<|bO<|kq (fun _ _=>fa rj J J e1)<|bO<|kq (fun _ x_=>cB (cG.ext x_) 2 J bm J J au J e1)<|bO<|kq (fun _ x_=>cB (cG.ext x_) 0 J bm J J au J e1)<|bO<|kq (fun _ _=>fa oT J s1 e1)<|bO<|kq (fun _ x_=>lx (cG.ext x_) 11 J aU J J J e1)<|zq<|yu J (fun _ v w'=>∃(a5:OA) (c5:Nat),v=sL a5 (bN (U.length:Int) (ct U fo) gz) c5∧RV cG.fg w' (sL a5 (bN (U.length:Int) (ct U fo) gz) c5) (bN (U.length:Int) (ct U fo) gz)) J oq J (fun v_ _ x_ _=>have n5:=u0 (mn:=(U.length:Int)) (mr:=(ct U fo)) (o:=gz) (w:=v_) (cG.ext x_).mb (hT.ext (cG.ext x_).below) aR ((cG.ext x_).rv 1 rfl) yT (by exact Qp);ca MM rfl (ec J<|ec J e0) n5 (fun _ iQ ⟨a6,c6,e_,Fe,iU⟩=>⟨_,J,Fe,⟨a6,c6,e_,(bl.rv iU (cG.ext x_).mb)⟩⟩))<|lJ J (fun _ v w'=>∃(a8:OA) (c8:Nat),v=.agg #[I (U.length:Int),sL a8 (gl (U.length:Int) (ky U fo)<|bN (U.length:Int) (ct U fo) gz) c8]∧RV cG.fg w' (sL a8 (gl (U.length:Int) (ky U fo)<|bN (U.length:Int) (ct U fo) gz) c8) (gl (U.length:Int) (ky U fo)<|bN (U.length:Int) (ct U fo) gz)) 0 J J oq J (fun v_ _ _ x_ _ h_=>let ⟨a9,c9,s6,qb⟩:=h_;have jm:=(cG.ext x_).put (it:=iL a9 (bN (U.length:Int) (ct U fo) gz) c9) rfl qb;have Dv:=zt (mn:=(U.length:Int)) (mr:=(ky U fo)) (l:=(bN (U.length:Int) (ct U fo) gz)) jm.mb aR (jm.rv 9 J) (jm.rv 0 J) (by exact A6) (by have h_:=uT Qp gz;omega);ca WJ rfl (ec J<|ec s6 e0) Dv (fun _ rm ⟨jv,ju,e_,P6,oH⟩=>⟨_,J,P6,⟨jv,ju,e_,(l4 J<|bl.rv oH jm.mb)⟩⟩))<|yq J J<|kq (fun _ _=>nc J J e1)<|bO<|kq (fun _ _=>fa rj J J e1)<|zq<|ye<|yz ?_
  intro zS f1 _ K4 _ _ fK Ao
  have pq:=cG.ext K4
  have s7:=(fK 3 J).trans s1
  have s8:=(fK 4 J).trans s2
  have s9:=(fK 6 J).trans s3
  have ej:=fK 7 J
  have eX:=fK 8 J
  obtain⟨mU,mT,fA,sf⟩:=Ao 0 _ _ rfl
  let vE:=iL mU (gl (U.length:Int) (ky U fo) (bN (U.length:Int) (ct U fo) gz)) mT
  have kU:=pq.put (it:=vE) J sf
  have fD:=fK 88 J
  refine kc<|bu kU 3 J bm J J fD fA J J J ?_
  let pS:=box gO #[.slice aC aD aB,sL aw U av,sL ay fo ax,sL a3 ([]:List cN) c3,.map (some dK),I (U.length:Int),sL mU (gl (U.length:Int) (ky U fo) (bN (U.length:Int) (ct U fo) gz)) mT,.map (some fR)] 142
  intro tQ (ra:HI M w tQ (vE::rV::tL::pS::bc))
  refine kz<|cO<|ai J ej<|k<|cB ra 1 J bm J eX au J<|aQ oT J s7<|bo ra 12 J aU J J J<|k ?_
  have lg:HI M w tQ ([pS,J0,J1,J8,J9,vE,bU fR ([]:List ((Int×Int)×Bool)),tL]++[rV,J6,J5,J4,J3,J2]):=ra.bV [3,7,8,4,5,0,6,2,1,9,10,11,12,13] au J
  have Uy:=Jk (cZ:=gO) (aC:=aC) (aD:=aD) (aB:=aB) (aw:=aw) (av:=av) (U:=U) (ay:=ay) (ax:=ax) (fo:=fo) (eD:=a3) (eC:=c3) (sp:=([]:List cN)) (bA:=dK) (mp:=([]:KV)) (pn:=(U.length:Int)) (de:=mU) (db:=mT) (pr:=(gl (U.length:Int) (ky U fo)<|bN (U.length:Int) (ct U fo) gz)) (bK:=fR) (mq:=([]:List ((Int×Int)×Bool))) (mn:=(U.length:Int)) (bC:=a4) (bB:=c4) (mr:=(ct U fo)) (o:=gz) (w:=w) (w_:=tQ) (r:=[rV,J6,J5,J4,J3,J2]) (M:=M) aR aR yT hT (by exact ho) (by exact dy) (by exact eB) (by exact fL) aj (by rfl) (by exact acY aj) aj (by exact Ce A6 _) (by simp only[gA];omega) lg
  refine ca aem J (ec J<|ec J<|ec J e0) Uy ?_
  rintro _ tP ⟨o0,o1,o2,a12,qY,kh,kg,rfl,AP,q0,q1⟩
  let DO:=box gO #[.slice aC aD aB,sL aw U av,sL ay fo ax,sL a12 o0 qY,.map (some dK),I (U.length:Int),sL kh o2 kg,.map (some fR)] 142
  let zh:=iL kh o2 kg
  let lF:=[zh,bU fR ([]:List ((Int×Int)×Bool)),tL,rV,J6,J5,J4,J3,J2]
  have ki:HI M w tP (DO::J0::J1::oL w 175 a12 o0 qY::cb dK o1::lF):=AP
  refine bw<|aQ rS J s7<|bo ki 12 J aU J J J<|ak (v:=I fB) J J<|aq<|sq<|az<|aQ xS J s7<|bo ki 12 J aU J J J<|k<|eql J J J J<|aq<|oW J J b5<|rg<|aQ pN J s7<|bo ki 12 J aU J J J<|ak (v:=I jV) J J<|aq<|rg<|ai J ej<|aQ pN J s7<|bo ki 12 J aU J J J<|ai (v:=I jV) J J<|k ?_
  have uh:HI M w tP ([DO,J0,J1,oL w 175 a12 o0 qY,cb dK o1,zh,bU fR ([]:List ((Int×Int)×Bool))]++[tL,rV,J6,J5,J4,J3,J2]):=ki.bV [0,1,2,3,4,5,6,7,8,9,10,11,12,13] au J
  have Ux:=mL (cZ:=gO) (aC:=aC) (aD:=aD) (aB:=aB) (aw:=aw) (av:=av) (U:=U) (ay:=ay) (ax:=ax) (fo:=fo) (eD:=a12) (eC:=qY) (sp:=o0) (bA:=dK) (mp:=o1) (pn:=(U.length:Int)) (de:=kh) (db:=kg) (pr:=o2) (bK:=fR) (mq:=([]:List ((Int×Int)×Bool))) (f_:=jV) (t_:=jV) (w:=w) (w_:=tP) (r:=[tL,rV,J6,J5,J4,J3,J2]) (M:=M) aR Bu Bu hT (by simp only[gA] at *;omega) aj (by exact eB) (by exact dy) bt uh
  refine ca zD J (ec J<|ec J<|ec J e0) Ux ?_
  rintro _ vV ⟨o3,o4,o5,mc,l9,rfl,mB,q2,q3⟩
  let yd:=box gO #[.slice aC aD aB,sL aw U av,sL ay fo ax,sL mc o4 l9,.map (some dK),I (U.length:Int),sL kh o2 kg,.map (some fR)] 142
  let DN:=oL w 175 mc o4 l9
  have wu:HI M w vV (yd::J0::J1::DN::cb dK o5::lF):=mB
  refine aQ xR J s9<|k<|bu wu 10 J aU J J J J J J J ?_
  intro wY (rz:HI M w wY [yd,J0,J1,DN,cb dK o5,zh,bU fR ([]:List ((Int×Int)×Bool)),tL,rV,J6,box fm #[I kd,I fB,I jV,I lM,I gz,.slice none 0 0,I o3,I (-1)] 33,J4,J3,J2])
  refine z<|aF<|cO<|ai J ej<|k<|nc J J<|aQ l7 J J<|bo rz 0 J nI J J J<|aQ vu J s9<|k<|bu rz 10 J nI J J J J J J J ?_
  let DM:=box fm #[I kd,I fB,I jV,I lM,I gz,sL mc o4 l9,I o3,I (-1)] 33
  intro I5 (zj:HI M w I5 [yd,J0,J1,DN,cb dK o5,zh,bU fR ([]:List ((Int×Int)×Bool)),tL,rV,J6,DM,J4,J3,J2])
  refine bw<|k<|cB zj 10 J bT J s9 au J<|k<|bu zj 11 J bT J J s8 J J J J ?_
  intro Eh (qz:HI M w Eh [yd,J0,J1,DN,cb dK o5,zh,bU fR ([]:List ((Int×Int)×Bool)),tL,rV,J6,DM,box bI #[I kd,I fB,I jV,I lM,I gz,sL mc o4 l9,I o3,I (-1)] 33,J3,J2])
  refine ak (v:=I 0) J J<|aq<|rt<|iy qz 11 J bT J J J s8 J au ?_
  exact⟨o4,o3,(-1),mc,l9,J,qz.below,(qz.mD 3 J)⟩
 refine sk<|aF<|cO<|ai (v:=pV gO 0) J J<|k<|nc J J<|aQ l7 J J<|bo dA 0 J nI J J J<|aQ vu J s3<|k<|bu dA 7 J nI J J J J J J J ?_
 let DL:=box fm #[I kd,I fB,I jV,I lM,I gz,sL a3 ([]:List cN) c3,I (-1),I (-1)] 33
 intro w9 (cT:HI M w w9 [J7,J8,J9,bU fR ([]:List ((Int×Int)×Bool)),J0,J1,J6,DL,J4,J3,J2])
 refine bw<|k<|cB cT 7 J bT J s3 au J<|k<|bu cT 8 J bT J J s2 J J J J ?_
 intro dP (dX:HI M w dP [J7,J8,J9,bU fR ([]:List ((Int×Int)×Bool)),J0,J1,J6,DL,box bI #[I kd,I fB,I jV,I lM,I gz,sL a3 ([]:List cN) c3,I (-1),I (-1)] 33,J3,J2])
 refine ak (v:=I 0) J J<|aq<|rt<|iy dX 8 J bT J J J s2 J au ?_
 exact⟨([]:List cN),(-1),(-1),a3,c3,J,dX.below,(dX.mD 1 J)⟩
theorem QB (hM:eJ M w) (hT:fS 0 w) (dC:cA M w aw av U) (fZ:cA M w ay ax fo) (pz:aK lv) (ho:ik U) (dy:U.length≤64) (eB:fo.length=U.length) (fL:∀x∈fo,x<((U.length:Nat):Int)) (Mt:lv=1∨lv=2∨lv=3):Calls aI 29 #[.agg #[.slice aC aD aB,sL aw U av,sL ay fo ax],I lv] w (cm fun v w'=>∃(k_:Int) (r_:Int) (a_:Int) (b_:Int) (o_:Int) (iA:List cN) (f_:Int) (s_:Int) (a0:OA) (c0:Nat),v=.tuple #[.agg #[I k_,I r_,I a_,I b_,I o_,sL a0 iA c0,I f_,I s_],I (fc U fo lv)]∧Ext w w'∧cA M w' a0 c0 iA∧qw (gL U fo lv) k_ r_ a_ b_ o_):=by
 refine dx 23 Tryz.func29 J J J hM fun f0 ha H=>?_
 let J0:=iL aw U av
 have H0:=H.put (it:=J0) J<|by rw[bP];exact dC
 let J1:=iL ay fo ax
 have H1:=H0.put (it:=J1) J<|by rw[aH rfl,bP];exact fZ
 have i0:f0 0=.agg #[.slice aC aD aB,sL aw U av,sL ay fo ax]:=ha 0 bj
 have i1:f0 1=I lv:=ha 1 bj
 refine az<|k<|bx H1 J i0 ?_
 intro aW w0 bW (H2:HI M w w0 [box aW #[.slice aC aD aB,sL aw U av,sL ay fo ax] 47,J1,J0])
 let J2:=box aW #[.slice aC aD aB,sL aw U av,sL ay fo ax] 47
 refine k<|al H2 bT ?_
 intro ba w1 df (H3:HI M w w1 [box ba #[I 0,I 0,I 0,I 0,I 0,.slice none 0 0,I 0,I 0] 33,J2,J1,J0])
 let J3:=box ba #[I 0,I 0,I 0,I 0,I 0,.slice none 0 0,I 0,I 0] 33
 refine ak (v:=I 0) J J<|bw<|k<|cB H3 1 J dQ J J au J<|ai J i1<|k ?_
 have bR:=Nk (U:=U) (fo:=fo) (lv:=lv) (aC:=aC) (aD:=aD) (aB:=aB) H3.mb (hT.ext H3.below) (H3.rv 3 J) (H3.rv 2 J) pz (by exact ho) (by exact dy) (by exact eB) (by exact fL)<|by exact Mt
 refine ca aeu J (ec J<|ec J e0) bR ?_
 rintro _ w2 ⟨o0,o1,o2,o3,o4,o5,o6,rfl,eS,q0⟩
 have H4:=H3.ext eS
 refine ai (v:=.tuple #[.agg #[I o0,I o1,I o2,I o3,I o4,.slice none 0 0,I o5,I o6],I (fc U fo lv)]) J J<|k<|xt J J J<|k<|xt J J J<|k<|al H4 bT ?_
 intro bI w3 fH (H5:HI M w w3 [box bI #[I 0,I 0,I 0,I 0,I 0,.slice none 0 0,I 0,I 0] 33,J3,J2,J1,J0])
 refine k<|bu H5 0 J bT J J J J J J J ?_
 let J4:=box bI #[I o0,I o1,I o2,I o3,I o4,.slice none 0 0,I o5,I o6] 33
 intro w4 (H6:HI M w w4 [J4,J3,J2,J1,J0])
 refine ak (v:=I (fc U fo lv)) J J<|aq<|sq<|az<|ai (v:=I (fc U fo lv)) J J<|k<|neq J J J J<|z<|nx<|cd (b:=!decide ((fc U fo lv)=0)) J J (fun b0=>?_)<|fun b0=>?_
 ·
  have p0:=dF<|fX b0
  refine az<|k<|bd (v:=.agg #[I 0,I 0,I 0,I 0,I 0,.slice none 0 0,I 0,I 0]) J ew (fun _=>aS)<|ai (v:=I (fc U fo lv)) J J<|k<|bu H6 1 J bT J J J J J J J ?_
  intro w5 (H7:HI M w w5 [J4,J3,J2,J1,J0])
  refine ak (v:=I (fc U fo lv)) J J<|aq<|rt<|aL<|iy H7 1 J bT J J J J J au ?_
  exact⟨0,0,0,0,0,([]:List cN),0,0,none,0,J,H7.below,(eo _ _),(by exact ui (IM<|dF<|fX ‹(!decide (fc U fo lv=0))=true›) On)⟩
 have p0:=dT<|fw b0
 refine sk<|cO<|k<|cB H6 2 J dQ J J au J<|k<|cB H6 0 J bT J J au J<|k ?_
 have cU:=VD (U:=U) (fo:=fo) (kd:=o0) (fB:=o1) (jV:=o2) (lM:=o3) (gz:=o4) (aC:=aC) (aD:=aD) (aB:=aB) (HT:=none) (GV:=0) (HN:=0) (TT:=(I o5)) (R_:=(I o6)) H6.mb (hT.ext H6.below) (H6.rv 4 J) (H6.rv 3 J) (by exact q0.1.k) (by exact q0.1.r) (by exact q0.1.a) (by exact q0.1.b) (by exact q0.1.o) (by exact ho) (by exact dy) (by exact eB) (by exact fL)<|by exact aaO q0 (dT<|fw ‹(!decide (fc U fo lv=0))=false›)
 refine ca ajL J (ec J<|ec J e0) cU ?_
 rintro _ w5 ⟨o7,o8,o9,a0,c0,rfl,jg,cu⟩
 have H7:=H6.ext jg
 have H8:=dR H7 cu
 refine k<|xt J J J<|k<|xt J J J<|k<|bu H8 2 J bT J J J J J J J ?_
 intro w6 (H9:HI M w w6 [iL a0 o7 c0,J4,box ba #[I o0,I o1,I o2,I o3,I o4,sL a0 o7 c0,I o8,I o9] 33,J2,J1,J0])
 refine ak (v:=I 0) J J<|aq<|rt<|iy H9 2 J bT J J J J J au ?_
 have e8:(0:Int)=fc U fo lv:=by exact(dT<|fw ‹(!decide (fc U fo lv=0))=false›).symm
 have bq:=iF (fun (lK:Int)=>(.tuple #[.agg #[I o0,I o1,I o2,I o3,I o4,.slice a0 o7.length c0,I o8,I o9],I lK]:Value)) e8
 exact⟨o0,o1,o2,o3,o4,o7,o8,o9,a0,c0,bq,H9.below,(H9.fl 0 J),(by exact q0)⟩
theorem ajA:cx aI 91:=cF Tryz.func91
theorem ajB:cx aI 90:=cF Tryz.func90
theorem Qe (hM:eJ M w) (TK:cA M w wq wm a) (Dc:cA M w wo wj b) (tY:a.length≤b.length) (ai7:a.length≤1000000000):Calls aI 91 #[sL wq a wm,sL wo b wj] w (cm fun v w'=>v=.bool (oO a b)∧Ext w w'):=by
 refine dx 22 Tryz.func91 J J J hM fun f0 ha H=>?_
 have H0:=dR H TK
 have H1:=dR H0 Dc
 have aiI:=bg TK
 have aiH:=bg Dc
 have i0:f0 0=sL wq a wm:=ha 0 bj
 have i1:f0 1=sL wo b wj:=ha 1 bj
 refine az<|ak (v:=.bool false) J J<|aq<|sq<|az<|ai J i0<|k<|dL J J ir<|ai (v:=I 0) J J<|aq<|bk<|lp (fun m f w'=>∃(j_:Nat),m=a.length-j_∧f 1=sL wo b wj∧f 7=sL wq a wm∧f 8=I (a.length:Int)∧f 9=I (j_:Int)∧HI M w w' [iL wo b wj,iL wq a wm]∧(j_≤a.length)∧(∀q,q<j_→KE a b q=false)) _ ⟨0,J,i1,J,J,(bH J),H1,aj,(by intro q h;omega)⟩ ?_
 rintro _ f0 w0 ⟨j_,rfl,s0,s1,s2,s3,H2,pj,hs⟩
 refine az<|k<|lss J J s3 s2<|aq<|sq<|cd (b:=decide ((j_:Int)<(a.length:Int))) J J (fun b0=>?_)<|fun b0=>?_
 ·
  have p0:=dT b0
  refine sk<|nx<|sq<|bk<|az<|ai J s3<|k<|ia (H2.rv 1 J) J J s1 s3 aj ir ft ?_
  intro iG x0 aM cw
  refine k<|yK cw.w ft J J<|ak (v:=I (j_:Int)) J J<|ak (v:=ag x0) J J<|bw<|ai (v:=ag x0) J J<|ai J s0<|ai (v:=I (j_:Int)) J J<|k<|ia (H2.rv 0 J) J J J J aj ir ft ?_
  intro ry x1 cQ gN
  refine k<|yK gN.w ft J J<|k<|DA x0 x1 J J J J<|k<|neU (x0 &&& x1) (0#64) J J J J<|z<|nx<|cd (b:=!decide ((x0 &&& x1)=(0#64))) J J (fun b1=>?_)<|fun b1=>?_
  ·
   have p1:=dF<|fX b1
   refine az<|ak (v:=.bool true) J J<|aq<|rt<|bS<|aL<|dY<|bS<|aL<|r1 J J ?_
   exact⟨an0 Value.bool (by exact ae9 (j:=j_) aj (by simp only[KE,jy aM,jy cQ,b0,(fX b1),BL])),H2.below⟩
  have p1:=dT<|fw b1
  refine sk<|aF<|nx<|rg<|k<|add J J s3 J aR<|ai (v:=I ((j_:Int)+1)) J J<|z<|bF _ ?_ ⟨(j_+1),J,s0,s1,s2,(bH J),H2,aj,(by exact su hs (by simp only[KE,jy aM,jy cQ,b0,(fw b1),BL]))⟩
  omega
 have p0:=dF b0
 refine ex<|aT<|aY<|bf<|cO<|ak (v:=.bool false) J J<|aq<|rt<|r1 J J ?_
 exact⟨an0 Value.bool (by exact abd hs aj),H2.below⟩
theorem Qf {Nn:Nat} {XQ:TypeId} {Nl:Nat} {XP:TypeId} {XC:OA} {Xj:Nat} {lf:List bp} (hM:eJ M w) (adS:aK x_) (fY:aK mn) (gr:cA M w bC bB mr) (ajh:cA M w XC Xj lf) (ajr:w.heap[Nn]? =some (.cells #[I mn,sL bC mr bB] XQ (0,0))∧¬M Nn) (ajq:w.heap[Nl]? =some (.cells #[sL XC lf Xj] XP (0,0))∧¬M Nl) (bZ:bJ mn mr=true) (tv:0≤x_∧x_<mn) (ai6:lf.length=words mn):Calls aI 90 #[I x_,.pointer (some ⟨Nn,0,none⟩),.pointer (some ⟨Nl,0,none⟩)] w (cm fun v w'=>v=.bool (!(oO (mr.getD x_.toNat []) lf))∧Ext w w'):=by
 refine dx 13 Tryz.func90 J J J hM fun f0 ha H=>?_
 have H0:=dR H gr
 have H1:=dR H0 ajh
 have i0:f0 0=I x_:=ha 0 bj
 have H2:=H1.put (it:=ro Nn #[I mn,sL bC mr bB] XQ) J<|by rw[aH rfl,aH rfl,bP];exact ajr
 have i1:f0 1=pV Nn 0:=ha 1 bj
 have H3:=H2.put (it:=ro Nl #[sL XC lf Xj] XP) J<|by rw[aH rfl,aH rfl,aH rfl,bP];exact ajq
 have i2:f0 2=pV Nl 0:=ha 2 bj
 have amC:=(bQ bZ).1
 refine az<|ak (v:=.bool false) J J<|aq<|sq<|B9 J aS<|kq (fun _ _=>fa iB J i1 e1)<|kq (fun _ x_=>lr (H3.ext x_) 1 J lh J J J e1)<|kq (fun _ _=>mv J i0 e1)<|ux (H3.rv 3 J) J J J J aj iq dp ?_
 intro iG x0 aM cw
 refine GD cw.w dp J J ?_
 intro a0 c0 cu
 have H4:=dR H3 cu
 refine kq (fun _ x_=>lr (H4.ext x_) 1 J dp J i2 J e1)<|kq (v:=.bool (oO x0 lf)) (fun v_ x_=>?_) ?_
 ·
  have cc:=Qe (a:=x0) (b:=lf) (w:=v_) (H4.ext x_).mb ((H4.ext x_).rv 0 rfl) ((H4.ext x_).rv 3 rfl) (by rw[ai6,nP bZ aM];exact an3 _)<|by exact(bQ bZ).2.1 _ (dz aM)
  exact ca ajA J (ec J<|ec J e0) cc fun _ _ h_=>e2 h_
 refine kq (fun _ _=>j4 J J e1)<|kq (fun _ _=>jM (v:=.bool (!(oO x0 lf))) J J e1)<|zq ?_
 intro w0 bW
 have H5:=H4.ext bW
 refine nx<|rt<|r1 J J ?_
 exact⟨an0 Value.bool (by rw[show mr.getD x_.toNat []=x0 from by rw[il,aM];rfl]),H5.below⟩
theorem yj {Gq:OA} {Gh:Nat} {nd:aA} (hM:eJ M w) (hT:fS 0 w) (fY:aK mn) (gr:cA M w bC bB mr) (adW:cA M w Gq Gh nd) (bZ:bJ mn mr=true) (am5:nd.length≤8192):Calls aI 56 #[.agg #[I mn,sL bC mr bB],sL Gq nd Gh] w (cm fun v w'=>∃(a0:OA) (c0:Nat),v=.tuple #[.slice a0 ((dB mn mr nd).1).length c0,I ((dB mn mr nd).2)]∧Ext w w'∧bl M 3 w ((dB mn mr nd).1) (.slice a0 ((dB mn mr nd).1).length c0) w'):=by
 refine dx 76 Tryz.func56 J J J hM fun f0 ha H=>?_
 let J0:=iL bC mr bB
 have H0:=H.put (it:=J0) J<|by rw[bP];exact gr
 let J1:=iL Gq nd Gh
 have H1:=H0.put (it:=J1) J<|by rw[aH rfl,bP];exact adW
 have nw:=bg gr
 have amu:=bg adW
 have i0:f0 0=.agg #[I mn,sL bC mr bB]:=ha 0 bj
 have i1:f0 1=sL Gq nd Gh:=ha 1 bj
 have JR:=(bQ bZ).2.2.1
 have hw_:words mn≤64:=by have h_:=(bQ bZ).2.2.1;unfold words;omega
 have aiB:=Gw bZ
 refine az<|k<|bx H1 J i0 ?_
 intro aW w0 bW (H2:HI M w w0 [box aW #[I mn,sL bC mr bB] 26,J1,J0])
 let J2:=box aW #[I mn,sL bC mr bB] 26
 refine ak (v:=.slice none 0 0) J J<|ak (v:=I 0) J J<|bw<|aQ kx J J<|bo H2 0 J aU J J J<|k ?_
 have bR:=DY (n:=mn) H2.mb fY aj
 refine ca Q' J (ec J e0) bR ?_
 rintro _ w1 ⟨a0,c0,rfl,df,cu⟩
 have H3:=H2.eP cu
 refine k<|al H3 dp ?_
 let bc:=[J2,J1,J0]
 intro ba w2 eS (H4:HI M w w2 (box ba #[.slice none 0 0] 144::oL w 151 a0 (eh mn) c0::bc))
 refine k<|bu H4 0 J dp J J J J J J J ?_
 intro w3 (H5:HI M w w3 (box ba #[sL a0 (eh mn) c0] 144::oL w 151 a0 (eh mn) c0::bc))
 refine aq<|sq<|az<|ai J i1<|k<|dL J J cM<|ai (v:=I 0) J J<|aq<|bk<|lp (fun m f w'=>∃(j_:Nat) (u9:List bp) (a1:OA) (c1:Nat),m=nd.length-j_∧f 1=sL Gq nd Gh∧f 2=pV aW 0∧f 6=pV ba 0∧f 16=sL Gq nd Gh∧f 17=I (nd.length:Int)∧f 18=I (j_:Int)∧HI M w w' (box ba #[sL a1 u9 c1] 144::oL w 151 a1 u9 c1::bc)∧(j_≤nd.length)∧(BP mn u9)∧(rh mn nd (eh mn)=rh mn (nd.drop j_) u9)) _ ⟨0,(eh mn),a0,c0,J,i1,J,J,J,J,(bH J),H5,aj,(by exact aar),(by rw[aqG])⟩ ?_
 rintro _ f0 w4 ⟨j_,u9,a1,c1,rfl,s0,s1,s2,s3,s4,s5,H6,pj,hs,hb⟩
 refine az<|k<|lss J J s5 s4<|aq<|sq<|cd (b:=decide ((j_:Int)<(nd.length:Int))) J J (fun b0=>?_)<|fun b0=>?_
 ·
  have p0:=dT b0
  refine sk<|nx<|sq<|bk<|sq ?_
  have Iz:=hs.1
  refine rg<|k<|ia (H6.rv 3 J) J J s3 s5 aj cM aU ?_
  intro iG x0 aM cw
  refine k<|mP cw.w aU J J ?_
  intro ee
  refine ak (v:=I x0) J J<|aq<|sq<|az<|ai (v:=I x0) J J<|k<|lss J J J J<|ai (v:=.bool (decide (x0<0))) J J ?_
  rcases bE (decide (x0<0)) with b1|b1
  ·
   have p1:=dT b1
   refine aX J J J b1<|aX J J J b1<|aX J J J b1<|aX J J J b1<|k<|aP J J J J b1 J<|ai (v:=.bool true) J J<|aX J J J J<|aX J J J J<|aX J J J J<|k<|aP J J J J J J<|aq<|oW J J J<|az<|ak (v:=.slice none 0 0) J J<|ak (v:=I 1) J J<|aq<|rt<|aL<|bS<|aL<|dY<|bS<|aL ?_
   have yY:=Li (rs:=mr) hb aM<|.inl aj
   refine r2 J J J ?_
   have e0:([]:aA)=(dB mn mr nd).1:=by rw[yY]
   have e1:(1:Int)=(dB mn mr nd).2:=by rw[yY]
   have bq:=nG (fun (b9:aA) (dO:Int)=>(.tuple #[.slice none b9.length 0,I dO]:Value)) e0 e1
   exact⟨none,0,bq,H6.below,(an0 (fun (x_:aA)=>bl _ _ _ x_ (.slice none x_.length 0) _) e0).mp (fQ H6.below)⟩
  have p1:=dF b1
  refine aZ J J J b1<|mv (v:=I x0) J J<|aZ J J J b1<|fa kx J s1<|aZ J J J b1<|lx H6 2 J aU J J J<|aZ J J J b1<|geq J J J J<|k<|dG J J J J b1 J<|ai (v:=.bool (decide (mn≤x0))) J J ?_
  rcases bE (decide (mn≤x0)) with b2|b2
  ·
   have p2:=dT b2
   refine aX J J J b2<|aX J J J b2<|aX J J J b2<|k<|aP J J J J b2 J<|aq<|oW J J J<|az<|ak (v:=.slice none 0 0) J J<|ak (v:=I 1) J J<|aq<|rt<|aL<|bS<|aL<|dY<|bS<|aL ?_
   have yY:=Li (rs:=mr) hb aM<|.inr (.inl aj)
   refine r2 J J J ?_
   have e0:([]:aA)=(dB mn mr nd).1:=by rw[yY]
   have e1:(1:Int)=(dB mn mr nd).2:=by rw[yY]
   have bq:=nG (fun (b9:aA) (dO:Int)=>(.tuple #[.slice none b9.length 0,I dO]:Value)) e0 e1
   exact⟨none,0,bq,H6.below,(an0 (fun (x_:aA)=>bl _ _ _ x_ (.slice none x_.length 0) _) e0).mp (fQ H6.below)⟩
  have p2:=dF b2
  refine aZ J J J b2<|lx H6 0 J dp J s2 J<|aZ J J J b2<|mv (v:=I x0) J J<|aZ J J J b2 ?_
  have H7:=H6.freeze 1 J
  have cU:=z1 (r:=u9) (i:=x0) H7.mb (H7.rv 1 J) ee
  refine ca ML J (ec J<|ec J e0) cU ?_
  rintro _ w5 ⟨rfl,fH⟩
  have H8:=H6.ext fH
  refine k<|dG J J J J b2 J<|z<|nx<|cd (b:=fk u9 x0) J J (fun b3=>?_)<|fun b3=>?_
  ·
   refine az<|ak (v:=.slice none 0 0) J J<|ak (v:=I 1) J J<|aq<|rt<|aL<|bS<|aL<|dY<|bS<|aL ?_
   have yY:=Li (rs:=mr) hb aM<|.inr (.inr bt)
   refine r2 J J J ?_
   have e0:([]:aA)=(dB mn mr nd).1:=by rw[yY]
   have e1:(1:Int)=(dB mn mr nd).2:=by rw[yY]
   have bq:=nG (fun (b9:aA) (dO:Int)=>(.tuple #[.slice none b9.length 0,I dO]:Value)) e0 e1
   exact⟨none,0,bq,H8.below,(an0 (fun (x_:aA)=>bl _ _ _ x_ (.slice none x_.length 0) _) e0).mp (fQ H8.below)⟩
  refine sk<|nx<|rg<|bo H8 0 J dp J s2 J<|ai (v:=I x0) J J<|k ?_
  have H9:=H8.freeze 1 J
  have fU:=uu (r:=u9) (i:=x0) H9.mb (H9.rv 1 J) ee aj
  refine ca F1 J (ec J<|ec J e0) fU ?_
  rintro _ w6 ⟨a2,c2,rfl,jg,eb⟩
  have dE:=H9.eP eb
  refine k<|bu dE 1 J dp J J s2 J J J J ?_
  intro w7 (cV:HI M w w7 (oL w 151 a2 (ei u9 x0) c2::box ba #[sL a2 (ei u9 x0) c2] 144::iL a1 u9 c1::bc))
  refine z<|aF<|nx<|rg<|k<|add J J s5 J aR<|ai (v:=I ((j_:Int)+1)) J J<|z ?_
  have dm:HI M w w7 (box ba #[sL a2 (ei u9 x0) c2] 144::oL w 151 a2 (ei u9 x0) c2::bc):=cV.bV [1,0,3,4,5] au J
  refine bF _ ?_ ⟨(j_+1),(ei u9 x0),a2,c2,J,s0,s1,s2,s3,s4,(bH J),dm,aj,(by exact aaq hs aj aj),(by exact ZT hb aM aj aj bt)⟩
  omega
 have p0:=dF b0
 refine ex<|aT<|aY<|bf<|nx<|sq ?_
 have Iz:=hs.1
 refine rg<|k<|cB H6 2 J bm J s1 au J<|k ?_
 have cU:=FK (mn:=mn) (mr:=mr) H6.mb (hT.ext H6.below) fY (H6.rv 4 J)<|by exact bZ
 refine ca WI J (ec J e0) cU ?_
 rintro _ w5 ⟨a2,c2,rfl,fH,ee⟩
 have H7:=H6.eP ee
 refine k<|al H7 bm ?_
 let J3:=oL w 144 a2 (gJ mn mr) c2
 let J4:=box ba #[sL a1 u9 c1] 144
 let bX:=J3::J4::oL w 151 a1 u9 c1::bc
 intro bI w6 jg (H8:HI M w w6 (box bI #[I 0,.slice none 0 0] 26::bX))
 refine k<|bu H8 0 J bm J J J J J J J ?_
 let J5:=box bI #[I mn,sL a2 (gJ mn mr) c2] 26
 intro w7 (H9:HI M w w7 (J5::bX))
 refine bw<|ai J s0<|k<|dL J J cM<|k<|mk0 (α:=Int) (m:=nd.length) H9 J J J J cM aU aj aj ?_
 intro g0 w8 jr (dE:HI M w w8 (own w.heap.size 3 (.slice (some ⟨g0,0,none⟩) 0 nd.length) ([]:aA)::J5::bX))
 refine ak (v:=.slice (some ⟨g0,0,none⟩) 0 nd.length) J J<|aq<|sq<|bk<|lp (fun m f w'=>∃(vX:aA) (jB:List bp) (a3:OA) (c3:Nat) (a4:OA) (c4:Nat),m=nd.length-vX.length∧f 1=sL Gq nd Gh∧f 6=pV ba 0∧f 9=pV bI 0∧f 10=sL a3 vX c3∧HI M w w' [oL w 3 a3 vX c3,J5,J3,box ba #[sL a4 jB c4] 144,oL w 151 a4 jB c4,J2,J1,J0]∧(vX.length≤nd.length)∧(BP mn jB)∧(dB mn mr nd=AW (gJ mn mr) (nd.length-vX.length) jB vX)) _ ⟨([]:aA),u9,(some ⟨g0,0,none⟩),nd.length,a1,c1,J,s0,s2,J,J,dE,bj,(by exact hs),(by exact Vl hb aj)⟩ ?_
 rintro _ f1 w9 ⟨vX,jB,a3,c3,a4,c4,rfl,s6,s7,s8,s9,cV,ai_,gM,ht⟩
 refine sq<|az<|ai J s9<|k<|dL J J cM<|ai J s6<|k<|dL J J cM<|k<|lss J J J J<|z<|nx<|cd (b:=decide ((vX.length:Int)<(nd.length:Int))) J J (fun b1=>?_)<|fun b1=>?_
 ·
  have p1:=dT b1
  refine sk<|nx<|bk<|sq ?_
  have Iz:=gM.1
  refine rg<|bo cV 3 J dp J s7 J<|k ?_
  have dm:=cV.freeze 4 J
  have fU:=uv (r:=jB) dm.mb (hT.ext dm.below) (dm.rv 4 J) aj
  refine ca IE J (ec J e0) fU ?_
  rintro _ dP ⟨a5,c5,rfl,kr,eb⟩
  have cL:=cV.eP<|bl.anyM eb
  refine k<|mf2 J (X_ s8<|X_ s7 mf0)<|k ?_
  have cH:=cL.freeze 0 J
  have fb:=vQ (r:=(cY jB)) (p:=(fun (x_:Int)=>(!(oO ((gJ mn mr).getD x_.toNat []) jB)))) cH.mb (cH.rv 0 J) ⟨ajB,fun w_ v_ x_ tv e_ Ha=>by have H_:=cH.ext e_;obtain⟨_,⟨rfl,fh⟩,rfl⟩:=Ha;exact Qf (mn:=mn) (mr:=(gJ mn mr)) (lf:=jB) (M:=fun _=>False) (fun _ h_=>h_.elim) fh bt ((H_.mD 3 J).lift (Up.less fun _ _ h_=>h_.elim)) ((H_.mD 5 J).lift (Up.less fun _ _ h_=>h_.elim)) ⟨H_.at_ 2 rfl,fun h_=>h_⟩ ⟨H_.at_ 4 rfl,fun h_=>h_⟩ (by exact aiB) (by exact gM.2 _ tv) (by exact gM.1)⟩
  refine ca WH J (ec J<|ec J e0) fb ?_
  rintro _ ey ⟨rfl,lX⟩
  have dV:=cL.ext lX
  refine ak (v:=I (eF (fun (x_:Int)=>(!(oO ((gJ mn mr).getD x_.toNat []) jB)))<|cY jB)) J J<|aq<|sq<|sq ?_
  have anc:=aaB (p:=(fun (x_:Int)=>(!(oO ((gJ mn mr).getD x_.toNat []) jB)))) (r:=cY jB)
  have ai4:=fun (q_:Nat) (x_:Int) (h_:(cY jB)[q_]? =some x_)=>acE gM h_
  refine rg<|ai (v:=I (eF (fun (x_:Int)=>(!(oO ((gJ mn mr).getD x_.toNat []) jB)))<|cY jB)) J J<|k<|lss J J J J<|z<|nx<|cd (b:=decide ((eF (fun (x_:Int)=>(!(oO ((gJ mn mr).getD x_.toNat []) jB)))<|cY jB)<0)) J J (fun b2=>?_)<|fun b2=>?_
  ·
   have p2:=dT b2
   refine az<|ak (v:=.slice none 0 0) J J<|ak (v:=I 7) J J<|aq<|rt<|aL<|bS<|dY<|bS<|aL ?_
   have yY:=afD ht aj<|show eF (fun (x_:Int)=>(!(oO ((gJ mn mr).getD x_.toNat []) jB))) (cY jB)<0 from by omega
   refine r2 J J J ?_
   have e0:([]:aA)=(dB mn mr nd).1:=by rw[yY]
   have e1:(7:Int)=(dB mn mr nd).2:=by rw[yY]
   have bq:=nG (fun (b9:aA) (dO:Int)=>(.tuple #[.slice none b9.length 0,I dO]:Value)) e0 e1
   exact⟨none,0,bq,dV.below,(an0 (fun (x_:aA)=>bl _ _ _ x_ (.slice none x_.length 0) _) e0).mp (fQ dV.below)⟩
  have p2:=dF b2
  refine sk<|cO<|bo dV 4 J dp J s7 J<|k ?_
  have dA:=dV.freeze 5 J
  have nr:=uv (r:=jB) dA.mb (hT.ext dA.below) (dA.rv 5 J) aj
  refine ca IE J (ec J e0) nr ?_
  rintro _ fq ⟨a6,c6,rfl,nS,jd⟩
  have cT:=dV.eP<|bl.anyM jd
  refine ai (v:=I (eF (fun (x_:Int)=>(!(oO ((gJ mn mr).getD x_.toNat []) jB)))<|cY jB)) J J<|k<|iz (cT.at_ 0 J) J J J J aj cM aU ?_
  intro g1 x0 iE aM cw
  refine k<|mP cw aU J J ?_
  intro jX
  refine ak (v:=I x0) J J<|aq<|sq ?_
  obtain⟨aiN,aiM⟩:=ai4 _ _ aM
  have amS:=We gM aiN aiM
  refine rg<|bo cT 5 J dp J s7 J<|ai (v:=I x0) J J<|k<|Lt J J J J<|k<|iz (cT.at_ 6 J) J J J J aj ir ft ?_
  intro g2 x1 kT cQ gN
  refine k<|yK gN ft J J<|ai (v:=I x0) J J<|k<|KU J J J J<|k<|PE J J zU DV<|k<|abJ (1#64) ((BitVec.ofInt 64<|x0%64).toNat:Int) aj J J J J<|k<|abc x1 ((1#64) <<< ((BitVec.ofInt 64<|x0%64).toNat:Int).toNat) J J J J<|k<|iz (cT.at_ 6 J) J J J J aj ir ft ?_
  intro g3 x2 BT gZ kf
  refine k<|qj cT 6 J BT J aj ft J J J J (RV.bv.2 J) ?_
  let J6:=box ba #[sL a4 jB c4] 144
  let J7:=own w.heap.size 151 (.slice a4 jB.length c4) (jB.set ((x0/64).toNat) (x1 &&& ~~~((1#64) <<< ((BitVec.ofInt 64 (x0%64)).toNat:Int).toNat)))
  intro iQ (dX:HI M w iQ [oL w 3 a6 (cY jB) c6,oL w 3 a5 (cY jB) c5,oL w 3 a3 vX c3,J5,J3,J6,J7,J2,J1,J0])
  refine aq<|rg<|ai J s9<|ai (v:=I x0) J J<|k<|bs (xs:=([x0]:aA)) (cells:=#[I x0]) (e:=3) dX J (ck J ew) (fun _=>aS) ⟨[I x0],[],J,⟨J,(show aK (x0) from bt)⟩,J⟩ J au ?_
  intro g4 j1 zP dI
  refine k<|lV dI 3 J J J J J J (gX<|dI.at_ 0 J) cM aU J (by simp;omega) J ?_
  intro a7 c7 rm (cG:HI M w rm [own w.heap.size 3 (.slice (some ⟨g4,0,none⟩) 1 1) ([x0]:aA),oL w 3 a6 (cY jB) c6,oL w 3 a5 (cY jB) c5,oL w 3 a7 (vX++([x0]:aA)) c7,J5,J3,J6,J7,J2,J1,J0])
  refine ak (v:=sL a7 (vX++([x0]:aA)) c7) J J<|z<|aF ?_
  have d_:HI M w rm [oL w 3 a7 (vX++([x0]:aA)) c7,J5,J3,J6,J7,J2,J1,J0]:=cG.bV [3,4,5,6,7,8,9,10] au J
  have dD:HI M w rm [oL w 3 a7 (vX++([x0]:aA)) c7,J5,J3,box ba #[sL a4 (jB.set ((x0/64).toNat) (x1 &&& ~~~((1#64) <<< ((BitVec.ofInt 64 (x0%64)).toNat:Int).toNat))) c4] 144,own w.heap.size 151 (.slice a4 (jB.set ((x0/64).toNat) (x1 &&& ~~~((1#64) <<< ((BitVec.ofInt 64 (x0%64)).toNat:Int).toNat))).length c4) (jB.set ((x0/64).toNat) (x1 &&& ~~~((1#64) <<< ((BitVec.ofInt 64 (x0%64)).toNat:Int).toNat))),J2,J1,J0]:=by simpa +zetaDelta only[sL,an1] using d_
  refine bF _ ?_ ⟨(vX++([x0]:aA)),(jB.set ((x0/64).toNat) (x1 &&& ~~~((1#64) <<< ((BitVec.ofInt 64<|x0%64).toNat:Int).toNat))),a7,c7,a4,c4,J,s6,s7,s8,J,dD,(by rw[fJ,iS,gA];omega),(by exact aas gM ‹_›),(by exact ZS ht aj (show ¬eF (fun (x_:Int)=>(!(oO ((gJ mn mr).getD x_.toNat []) jB))) (cY jB)<0 from by omega) aM ‹_›)⟩
  rw[fJ,iS,gA];omega
 have p1:=dF b1
 refine ex<|aT<|aY<|bf<|cO<|ai J s9<|ak (v:=sL a3 vX c3) J J<|ak (v:=I 0) J J<|aq<|rt ?_
 have yY:=abz ht aj
 refine r2 J J J ?_
 have e0:(vX:aA)=(dB mn mr nd).1:=by rw[yY]
 have e1:(0:Int)=(dB mn mr nd).2:=by rw[yY]
 have bq:=nG (fun (b9:aA) (dO:Int)=>(.tuple #[.slice a3 b9.length c3,I dO]:Value)) e0 e1
 exact⟨a3,c3,bq,cV.below,(an0 (fun (x_:aA)=>bl _ _ _ x_ (.slice a3 x_.length c3) _) e0).mp (cV.dt 0 J)⟩
theorem II:gR aI 107 0 0:=jT Tryz.underlying107
theorem uK:gR aI 107 1 3:=jT Tryz.underlying107
theorem agx:cx aI 130:=cF Tryz.func130
theorem Re:cx aI 56:=cF Tryz.func56
theorem Gv:ep aI 103 1 false 8 (.pointer none):=⟨aS,aS⟩
theorem Qa:ep aI 63 1 false 8 (.nilFunc):=⟨aS,aS⟩
theorem Y0:cx aI 132:=cF Tryz.func132
theorem agw:cx aI 134:=cF Tryz.func134
theorem ajz:cx aI 92:=cF Tryz.func92
theorem ajy:cx aI 93:=cF Tryz.func93
theorem Ut {Nq:Nat} {XT:TypeId} {XD:OA} {Xk:Nat} {dn:aA} (hM:eJ M w) (adS:aK x_) (ajn:cA M w XD Xk dn) (aju:w.heap[Nq]? =some (.cells #[sL XD dn Xk] XT (0,0))∧¬M Nq):Calls aI 130 #[I x_,.pointer (some ⟨Nq,0,none⟩)] w (cm fun v w'=>v=.bool (dn.any (fun (z_:Int)=>decide (x_=z_)))∧Ext w w'):=by
 refine dx 7 Tryz.func130 J J J hM fun f0 ha H=>?_
 have H0:=dR H ajn
 have i0:f0 0=I x_:=ha 0 bj
 have H1:=H0.put (it:=ro Nq #[sL XD dn Xk] XT) J<|by rw[aH rfl,bP];exact aju
 have i1:f0 1=pV Nq 0:=ha 1 bj
 refine az<|ak (v:=.bool false) J J<|bw<|k<|lr H1 0 J qD J i1 J<|ai J i0<|k ?_
 have bR:=Dr (rM:=dn) (tR:=x_) H1.mb (H1.rv 1 J) adS
 refine ca Y1 J (ec J<|ec J e0) bR ?_
 rintro _ w0 ⟨rfl,bW⟩
 have H2:=H1.ext bW
 refine ak (v:=.bool (dn.any<|fun (z_:Int)=>decide (x_=z_))) J J<|aq<|rt<|r1 J J ?_
 exact⟨an0 Value.bool (show (dn.any<|fun (z_:Int)=>decide (x_=z_))=(dn.any<|fun (z_:Int)=>decide (x_=z_)) from rfl),H2.below⟩
theorem Xg (hM:eJ M w) (hT:fS 0 w) (dC:cA M w aw av U) (fZ:cA M w ay ax fo) (kC:aK cn) (nM:cA M w dw dv cr) (ub:aK o) (ll:w.heap[eH]? =some (.cells #[.slice aC aD aB,sL aw U av,sL ay fo ax,I cn,sL dw cr dv] me (0,0))∧¬M eH) (ho:ik U) (dy:U.length≤64) (eB:fo.length=U.length) (fL:∀x∈fo,x<((U.length:Nat):Int)) (oA:cn=((U.length:Nat):Int)) (pJ:cr=ct U fo) (He:0≤o∧o<((U.length:Nat):Int)):Calls aI 92 #[.pointer (some ⟨eH,0,none⟩),I o] w (cm fun v w'=>∃(ls:aA) (a0:OA) (c0:Nat),v=sL a0 ls c0∧Ext w w'∧bl M 3 w ls (sL a0 ls c0) w'∧ls.length≤300000):=by
 refine dx 58 Tryz.func92 J J J hM fun f0 ha H=>?_
 let J0:=iL aw U av
 have H0:=H.put (it:=J0) J<|by rw[bP];exact dC
 let J1:=iL ay fo ax
 have H1:=H0.put (it:=J1) J<|by rw[aH rfl,bP];exact fZ
 let J2:=iL dw cr dv
 have H2:=H1.put (it:=J2) J<|by rw[aH rfl,aH rfl,bP];exact nM
 have ja:=bg dC
 have kR:=bg fZ
 have Bl:=bg nM
 let J3:=ro eH #[.slice aC aD aB,sL aw U av,sL ay fo ax,I cn,sL dw cr dv] me
 have H3:=H2.put (it:=J3) J<|by rw[aH rfl,aH rfl,aH rfl,bP];exact ll
 have i0:f0 0=pV eH 0:=ha 0 bj
 have i1:f0 1=I o:=ha 1 bj
 have lk:bJ cn cr=true:=by rw[oA,pJ];exact pD fo aj
 have lk_:=Bp ho dy He
 have XZ:=afJ (fo:=fo) (o:=o) dy
 have ana:(aV (fO U) (cz U o)++([o]:aA)).length≤65:=by rw[fJ];simp only[iS,gA];omega
 refine az<|ak (v:=.slice none 0 0) J J<|aq<|sq<|my [.r,.r,.r,.r,.r,.r,.r,.r,.r,.r,.r,.r,.s,.s,.s,.n,.e,.s,.s,.s] (fun _=>True) J aS (fun _ _=>trivial)<|yq J J<|kq (fun _ _=>mv J i0 e1)<|bO<|kq (fun _ _=>nc J J e1)<|bO<|kq (fun _ _=>fa II J J e1)<|bO<|kq (fun _ x_=>v7 (H3.ext x_) 0 J dQ J J au J e1)<|bO<|kq (fun _ _=>mv J i0 e1)<|bO<|kq (fun _ _=>nc J J e1)<|bO<|kq (fun _ _=>fa uK J J e1)<|bO<|kq (fun _ x_=>v7 (H3.ext x_) 0 J bm J J au J e1)<|bO<|kq (fun _ _=>mv J i1 e1)<|zq<|yu J (fun N v w'=>∃(o0:List eu) (o1:Int) (a0:OA) (c0:Nat) (a1:OA) (c1:Nat),v=.tuple #[.agg #[I ((U.length:Nat):Int),sL a0 (cX U fo o) c0],sL a1 o0 c1,I o1,I 0]∧o0.length≤2000000000∧aK o1∧oC U.length o0∧RV (MN H3.fg N) w' (sL a0 (cX U fo o) c0) (cX U fo o)∧RV (MN H3.fg N) w' (sL a1 o0 c1) o0) J ⟨by rintro _ _ _ _ x_ ⟨o0,o1,a0,c0,a1,c1,e_,q0,q1,q2,eb,fh⟩;exact⟨o0,o1,a0,c0,a1,c1,e_,q0,q1,q2,eb.lift (Up.ext x_),fh.lift (Up.ext x_)⟩,by rintro _ _ _ _ _ k_ ⟨o0,o1,a0,c0,a1,c1,e_,q0,q1,q2,eb,fh⟩;exact⟨o0,o1,a0,c0,a1,c1,e_,q0,q1,q2,ij eb k_,ij fh k_⟩⟩ J (fun v_ _ x_ n_=>have cU:=Io (U:=U) (fo:=fo) (mn:=cn) (mr:=cr) (o:=o) (aC:=aC) (aD:=aD) (aB:=aB) (w:=v_) (kO H3.mb x_ n_) (hT.ext (H3.below.trans x_)) (ku (H3.rv 3 J) x_ n_) (ku (H3.rv 2 J) x_ n_) kC (ku (H3.rv 1 J) x_ n_) ub (by exact ho) (by exact dy) (by exact eB) (by exact fL) (by exact oA) (by exact pJ) aj;ca Rj rfl (ec J<|ec J<|ec J e0) cU (fun _ w1 ⟨o2,o3,a2,c2,a3,c3,e_,df,jd,jX,q3,q4,q5⟩=>⟨_,J,df,⟨o2,o3,a2,c2,a3,c3,e_,q3,q4,q5,jd,jX⟩⟩))<|lJ J (fun N v w'=>∃(o4:List eu) (o5:Int) (a4:OA) (c4:Nat) (a5:OA) (c5:Nat),v=.tuple #[.agg #[I ((U.length:Nat):Int),sL a4 (cX U fo o) c4],sL a5 o4 c5,I o5,I 0]∧o4.length≤2000000000∧aK o5∧oC U.length o4∧RV (MN H3.fg N) w' (sL a4 (cX U fo o) c4) (cX U fo o)∧RV (MN H3.fg N) w' (sL a5 o4 c5) o4) 0 J J ⟨by rintro _ _ _ _ x_ ⟨o4,o5,a4,c4,a5,c5,e_,q6,q7,q8,iU,kW⟩;exact⟨o4,o5,a4,c4,a5,c5,e_,q6,q7,q8,iU.lift (Up.ext x_),kW.lift (Up.ext x_)⟩,by rintro _ _ _ _ _ k_ ⟨o4,o5,a4,c4,a5,c5,e_,q6,q7,q8,iU,kW⟩;exact⟨o4,o5,a4,c4,a5,c5,e_,q6,q7,q8,ij iU k_,ij kW k_⟩⟩ J (fun _ _ _ _ _ h_=>let ⟨o6,o7,a6,c6,a7,c7,s0,q9,uZ,xn,nV,pg⟩:=h_;mv rfl s0 ⟨_,J,Ext.refl _,⟨o6,o7,a6,c6,a7,c7,J,q9,uZ,xn,nV,pg⟩⟩)<|lJ J (fun N v w'=>∃(a8:OA) (c8:Nat),v=.agg #[I ((U.length:Nat):Int),sL a8 (cX U fo o) c8]∧RV (MN H3.fg N) w' (sL a8 (cX U fo o) c8) (cX U fo o)) 0 J J k0 J (fun _ _ _ _ _ h_=>let ⟨kN,fe,jv,ju,mU,mT,s1,CF,CE,yt,oH,sg⟩:=h_;xt rfl s1 rfl ⟨_,J,Ext.refl _,⟨jv,ju,J,oH⟩⟩)<|lJ J (fun N v w'=>∃(j3:List eu) (kh:OA) (kg:Nat),v=sL kh j3 kg∧j3.length≤2000000000∧oC U.length j3∧RV (MN H3.fg N) w' (sL kh j3 kg) j3) 1 J J ⟨by rintro _ _ _ _ x_ ⟨j3,kh,kg,e_,xm,xl,qa⟩;exact⟨j3,kh,kg,e_,xm,xl,qa.lift (Up.ext x_)⟩,by rintro _ _ _ _ _ k_ ⟨j3,kh,kg,e_,xm,xl,qa⟩;exact⟨j3,kh,kg,e_,xm,xl,ij qa k_⟩⟩ J (fun _ _ _ _ _ h_=>let ⟨GR,Jr,mc,l9,U1,Uz,s2,Eu,q22,LK,A5,Ft⟩:=h_;xt rfl s2 rfl ⟨_,J,Ext.refl _,⟨GR,U1,Uz,J,Eu,LK,Ft⟩⟩)<|lJ J (fun _ v _=>∃(GQ:Int),v=I GQ∧aK GQ) 2 J J mE J (fun _ _ _ _ _ h_=>let ⟨o18,SY,a18,c18,a19,c19,s3,q27,SC,q29,ab3,ab2⟩:=h_;xt rfl s3 rfl ⟨_,J,Ext.refl _,⟨SY,J,SC⟩⟩)<|RN J (X:=I 0) 3 J J (fun _ _ _ _ _ h_=>let ⟨o22,X4,a22,c22,a23,c23,s4,q33,q34,q35,ab1,ab0⟩:=h_;xt rfl s4 rfl e1)<|yn (z:=#[I 0,.slice none 0 0]) J J (fun _=>PY bm)<|ye<|lJ J (fun N v w'=>∃(mO:List eu) (a24:OA) (y_:Nat),v=sL a24 mO y_∧mO.length≤2000000000∧oC U.length mO∧RV (MN H3.fg N) w' (sL a24 mO y_) mO) 2 J J ⟨by rintro _ _ _ _ x_ ⟨mO,a24,y_,e_,CD,CC,xh⟩;exact⟨mO,a24,y_,e_,CD,CC,xh.lift (Up.ext x_)⟩,by rintro _ _ _ _ _ k_ ⟨mO,a24,y_,e_,CD,CC,xh⟩;exact⟨mO,a24,y_,e_,CD,CC,ij xh k_⟩⟩ J (fun _ _ _ _ _ h_=>let ⟨LW,a25,EY,s5,SB,SA,LF⟩:=h_;jM rfl s5 ⟨_,J,Ext.refl _,⟨LW,a25,EY,J,SB,SA,LF⟩⟩)<|lJ J (fun _ v _=>∃(sE:Int),v=I sE∧aK sE) 2 J J mE J (fun _ _ _ _ _ h_=>let ⟨tT,s6,Sz⟩:=h_;jM rfl s6 ⟨_,J,Ext.refl _,⟨tT,J,Sz⟩⟩)<|yq J J<|kq (fun _ _=>jM (v:=I 0) J J e1)<|zq<|yz ?_
 intro w2 f0 _ eS _ _ cC iT
 obtain⟨ba,s7,C',sN,BW⟩:=iT 2 _ _ rfl
 have pK:=PJ (z:=#[I 0,.slice none 0 0]) (T:=26) C' sN BW<|PK
 let bc:=[J3,J2,J1,J0]
 have cV:HI M w w2 (box ba #[I 0,.slice none 0 0] 26::bc):=H3.D4 eS pK<|O2 O1 O3
 have s8:=(cC 0 J).trans i0
 have s9:=(cC 1 J).trans i1
 obtain⟨a26,HO,ej,LD⟩:=iT 5 _ _ rfl
 let J4:=iL a26 (cX U fo o) HO
 have dm:=cV.put (it:=J4) J<|se LD pK
 refine kc<|bu dm 1 J bm J J s7 ej J J J ?_
 let J5:=box ba #[I ((U.length:Nat):Int),sL a26 (cX U fo o) HO] 26
 intro w3 (cL:HI M w w3 (J4::J5::bc))
 refine kz<|cO<|k<|al cL qD ?_
 intro bI w4 fH (cH:HI M w w4 (box bI #[.slice none 0 0] 27::J4::J5::bc))
 refine aq<|sq<|az<|ai J s8<|k<|nc J J<|aQ II J J<|k<|v7 cH 3 J dQ J J au J<|ai J s9<|k ?_
 have fU:=CI (U:=U) (o:=o) (aC:=aC) (aD:=aD) (aB:=aB) (ay:=ay) (eZ:=fo.length) (ax:=ax) cH.mb (cH.rv 6 J) ub (by exact ho) aj
 refine ca WM J (ec J<|ec J e0) fU ?_
 rintro _ w5 ⟨AL,AH,rfl,jg,Vt⟩
 have dV:=cH.eP Vt
 refine ai J s9<|k<|bs (xs:=([o]:aA)) (cells:=#[I o]) (e:=3) dV J (ck J ew) (fun _=>aS) ⟨[I o],[],J,⟨J,ub⟩,J⟩ J au ?_
 intro g0 w6 jr dA
 refine k<|lV dA 1 J J J J J J (gX<|dA.at_ 0 J) cM aU J (by simp only[iS,gA];omega) J ?_
 let J6:=own w.heap.size 3 (.slice (some ⟨g0,0,none⟩) 1 1) ([o]:aA)
 intro a28 ru w7 (cT:HI M w w7 (J6::oL w 3 a28 (aV (fO U) (cz U o)++([o]:aA)) ru::box bI #[.slice none 0 0] 27::J4::J5::bc))
 refine k<|dL J J cM<|ai (v:=I 0) J J<|aq<|bk ?_
 have dX:=cT.qf Int 3
 let bX:=J4::box ba #[I ((U.length:Nat):Int),sL a26 (cX U fo o) HO] 26::bc
 refine lp (fun m f w'=>∃(j_:Nat) (iA:aA) (oZ:OA) (oY:Nat),m=(aV (fO U) (cz U o)++([o]:aA)).length-j_∧f 5=pV ba 0∧f 9=pV bI 0∧f 36=sL a28 (aV (fO U) (cz U o)++([o]:aA)) ru∧f 37=I ((aV (fO U) (cz U o)++([o]:aA)).length:Int)∧f 38=I (j_:Int)∧HI M w w' (oL w 3 oZ iA oY::own w.heap.size 3 (.slice (some ⟨g0,0,none⟩) 1 1) ([o]:aA)::oL w 3 a28 (aV (fO U) (cz U o)++([o]:aA)) ru::box bI #[sL oZ iA oY] 27::bX)∧(j_≤(aV (fO U) (cz U o)++([o]:aA)).length)∧(iA.length≤4096*j_)) _ ⟨0,([]:aA),none,0,J,s7,J,J,J,(bH J),dX,aj,(by exact apn _)⟩ ?_
 rintro _ f1 w8 ⟨j_,iA,oZ,oY,rfl,eX,fA,fD,gi,gS,dI,pj,hs⟩
 refine az<|k<|lss J J gS gi<|aq<|sq<|cd (b:=decide ((j_:Int)<((aV (fO U) (cz U o)++([o]:aA)).length:Int))) J J (fun b0=>?_)<|fun b0=>?_
 ·
  have p0:=dT b0
  refine sk<|nx<|sq<|bk<|az<|k<|iz (dI.at_ 2 J) J J fD gS aj cM aU ?_
  intro g1 x0 iE aM cw
  refine k<|mP cw aU J J ?_
  intro LC
  refine ak (v:=I x0) J J<|bw<|k<|cB dI 5 J bm J eX au J<|ai (v:=I x0) J J<|k ?_
  have fb:=u0 (mn:=((U.length:Nat):Int)) (mr:=(cX U fo o)) (o:=x0) dI.mb (hT.ext dI.below) aR (dI.rv 4 J) LC<|by exact XZ
  refine ca MM J (ec J<|ec J e0) fb ?_
  rintro _ w9 ⟨j8,j6,rfl,kr,Fs⟩
  have cG:=dI.eP Fs
  refine k<|mf2 J (X_ fA mf0)<|k ?_
  let J7:=box bI #[sL oZ iA oY] 27
  have d_:HI M w w9 ([oL w 3 j8 (bN ((U.length:Nat):Int) (cX U fo o) x0) j6]++[oL w 3 oZ iA oY,J6,oL w 3 a28 (aV (fO U) (cz U o)++([o]:aA)) ru,J7,J4,J5,J3,J2,J1,J0]):=cG.bV [0,1,2,3,4,5,6,7,8,9,10] au J
  have nr:=oU (dU:=j8) (dN:=j6) (xs:=(bN ((U.length:Nat):Int) (cX U fo o) x0)) (qv:=130) (qA:=[pV bI 0]) (p:=(fun (x_:Int)=>(iA.any<|fun (z_:Int)=>decide (x_=z_)))) (w:=w) (w_:=w9) (r:=[oL w 3 oZ iA oY,own w.heap.size 3 (.slice (some ⟨g0,0,none⟩) 1 1) ([o]:aA),oL w 3 a28 (aV (fO U) (cz U o)++([o]:aA)) ru,J7,J4,box ba #[I ((U.length:Nat):Int),sL a26 (cX U fo o) HO] 26,J3,J2,J1,J0]) (M:=M) ⟨agx,fun w_ jq H_ x_ tv EC=>Ut (dn:=iA) (M:=fun _=>False) (fun _ h_=>h_.elim) EC ((H_.mD 1 J).lift (Up.less fun _ _ h_=>h_.elim)) ⟨H_.at_ 4 rfl,fun h_=>h_⟩⟩ d_
  refine ca Ho J (ec J<|ec J e0) nr ?_
  rintro _ dP ⟨rfl,dD⟩
  have eR:HI M w dP (oL w 3 j8 (aV (fun (x_:Int)=>(iA.any (fun (z_:Int)=>decide (x_=z_)))) (bN ((U.length:Nat):Int) (cX U fo o) x0)) j6::oL w 3 oZ iA oY::own w.heap.size 3 (.slice (some ⟨g0,0,none⟩) 1 1) ([o]:aA)::oL w 3 a28 (aV (fO U) (cz U o)++([o]:aA)) ru::J7::bX):=dD
  refine ak (v:=sL j8 (aV (fun (x_:Int)=>(iA.any<|fun (z_:Int)=>decide (x_=z_)))<|bN ((U.length:Nat):Int) (cX U fo o) x0) j6) J J<|bw<|k<|cB eR 6 J bm J eX au J<|ai (v:=sL j8 (aV (fun (x_:Int)=>(iA.any<|fun (z_:Int)=>decide (x_=z_)))<|bN ((U.length:Nat):Int) (cX U fo o) x0) j6) J J<|k ?_
  have eW:=eR.freeze 0 J
  have n5:=yj (mn:=((U.length:Nat):Int)) (mr:=(cX U fo o)) (nd:=(aV (fun (x_:Int)=>(iA.any<|fun (z_:Int)=>decide (x_=z_)))<|bN ((U.length:Nat):Int) (cX U fo o) x0)) eW.mb (hT.ext eW.below) aR (eW.rv 5 J) (eW.rv 0 J) (by exact XZ)<|by exact Nat.le_trans (uS XZ x0 _) au
  refine ca Re J (ec J<|ec J e0) n5 ?_
  rintro _ ey ⟨a31,J_,rfl,lX,Fq⟩
  have gW:=eW.eP Fq
  refine ai (v:=.tuple #[sL a31 ((dB ((U.length:Nat):Int) (cX U fo o)<|aV (fun (x_:Int)=>(iA.any<|fun (z_:Int)=>decide (x_=z_)))<|bN ((U.length:Nat):Int) (cX U fo o) x0).1) J_,I ((dB ((U.length:Nat):Int) (cX U fo o)<|aV (fun (x_:Int)=>(iA.any<|fun (z_:Int)=>decide (x_=z_)))<|bN ((U.length:Nat):Int) (cX U fo o) x0).2)]) J J<|k<|xt J J J<|k<|xt J J J<|ak (v:=sL a31 ((dB ((U.length:Nat):Int) (cX U fo o)<|aV (fun (x_:Int)=>(iA.any<|fun (z_:Int)=>decide (x_=z_)))<|bN ((U.length:Nat):Int) (cX U fo o) x0).1) J_) J J<|z<|nx ?_
  have amT:=uS XZ x0<|fun (x_:Int)=>(iA.any<|fun (z_:Int)=>decide (x_=z_))
  have amU:=Lh (n:=((U.length:Nat):Int)) (rs:=cX U fo o) (nd:=aV (fun (x_:Int)=>(iA.any<|fun (z_:Int)=>decide (x_=z_))) (bN ((U.length:Nat):Int) (cX U fo o) x0))
  refine rg<|bo gW 5 J qD J fA J<|ai (v:=sL a31 ((dB ((U.length:Nat):Int) (cX U fo o)<|aV (fun (x_:Int)=>(iA.any<|fun (z_:Int)=>decide (x_=z_)))<|bN ((U.length:Nat):Int) (cX U fo o) x0).1) J_) J J<|k<|lV gW 2 J J J J J J (gX<|gW.at_ 0 J) cM aU J aj J ?_
  intro a32 oX fq (jf:HI M w fq (oL w 3 a31 ((dB ((U.length:Nat):Int) (cX U fo o) (aV (fun (x_:Int)=>(iA.any (fun (z_:Int)=>decide (x_=z_)))) (bN ((U.length:Nat):Int) (cX U fo o) x0))).1) J_::iL j8 (aV (fun (x_:Int)=>(iA.any (fun (z_:Int)=>decide (x_=z_)))) (bN ((U.length:Nat):Int) (cX U fo o) x0)) j6::oL w 3 a32 (iA++(dB ((U.length:Nat):Int) (cX U fo o) (aV (fun (x_:Int)=>(iA.any (fun (z_:Int)=>decide (x_=z_)))) (bN ((U.length:Nat):Int) (cX U fo o) x0))).1) oX::own w.heap.size 3 (.slice (some ⟨g0,0,none⟩) 1 1) ([o]:aA)::oL w 3 a28 (aV (fO U) (cz U o)++([o]:aA)) ru::J7::bX))
  refine k<|bu jf 5 J qD J J fA J J J J ?_
  intro iQ (jC:HI M w iQ (oL w 3 a31 ((dB ((U.length:Nat):Int) (cX U fo o) (aV (fun (x_:Int)=>(iA.any (fun (z_:Int)=>decide (x_=z_)))) (bN ((U.length:Nat):Int) (cX U fo o) x0))).1) J_::iL j8 (aV (fun (x_:Int)=>(iA.any (fun (z_:Int)=>decide (x_=z_)))) (bN ((U.length:Nat):Int) (cX U fo o) x0)) j6::oL w 3 a32 (iA++(dB ((U.length:Nat):Int) (cX U fo o) (aV (fun (x_:Int)=>(iA.any (fun (z_:Int)=>decide (x_=z_)))) (bN ((U.length:Nat):Int) (cX U fo o) x0))).1) oX::own w.heap.size 3 (.slice (some ⟨g0,0,none⟩) 1 1) ([o]:aA)::oL w 3 a28 (aV (fO U) (cz U o)++([o]:aA)) ru::box bI #[sL a32 (iA++(dB ((U.length:Nat):Int) (cX U fo o) (aV (fun (x_:Int)=>(iA.any (fun (z_:Int)=>decide (x_=z_)))) (bN ((U.length:Nat):Int) (cX U fo o) x0))).1) oX] 27::bX))
  refine z<|aF<|nx<|rg<|k<|add J J gS J aR<|ai (v:=I ((j_:Int)+1)) J J<|z ?_
  have nu:HI M w iQ (oL w 3 a32 (iA++(dB ((U.length:Nat):Int) (cX U fo o) (aV (fun (x_:Int)=>(iA.any (fun (z_:Int)=>decide (x_=z_)))) (bN ((U.length:Nat):Int) (cX U fo o) x0))).1) oX::own w.heap.size 3 (.slice (some ⟨g0,0,none⟩) 1 1) ([o]:aA)::oL w 3 a28 (aV (fO U) (cz U o)++([o]:aA)) ru::box bI #[sL a32 (iA++(dB ((U.length:Nat):Int) (cX U fo o) (aV (fun (x_:Int)=>(iA.any (fun (z_:Int)=>decide (x_=z_)))) (bN ((U.length:Nat):Int) (cX U fo o) x0))).1) oX] 27::bX):=jC.bV [2,3,4,5,6,7,8,9,10,11] au J
  refine bF _ ?_ ⟨(j_+1),(iA++(dB ((U.length:Nat):Int) (cX U fo o)<|aV (fun (x_:Int)=>(iA.any<|fun (z_:Int)=>decide (x_=z_)))<|bN ((U.length:Nat):Int) (cX U fo o) x0).1),a32,oX,J,eX,fA,fD,gi,(bH J),nu,aj,(by rw[fJ];omega)⟩
  omega
 refine ex<|aT<|aY<|bf<|cO<|bo dI 3 J qD J fA J<|ak (v:=sL oZ iA oY) J J<|aq<|rt<|r1 J J ?_
 exact⟨iA,oZ,oY,J,dI.below,(dI.dt 0 J),aj⟩
theorem Du {Np:Nat} {XS:TypeId} {fr:Int} {XO:TypeId} (hM:eJ M w) (adQ:aK xx) (ajm:aK fr) (dC:cA M w aw av U) (fZ:cA M w ay ax fo) (kC:aK cn) (nM:cA M w dw dv cr) (ajt:w.heap[Np]? =some (.cells #[I fr] XS (0,0))∧¬M Np) (ajp:w.heap[kD]? =some (.cells #[.pointer (some ⟨eH,0,none⟩)] XO (0,0))∧¬M kD) (ll:w.heap[eH]? =some (.cells #[.slice aC aD aB,sL aw U av,sL ay fo ax,I cn,sL dw cr dv] me (0,0))∧¬M eH) (lk:bJ cn cr=true):Calls aI 132 #[I xx,.pointer (some ⟨Np,0,none⟩),.pointer (some ⟨kD,0,none⟩)] w (cm fun v w'=>v=.bool (decide (0≤fr)&&(decide (xx=fr)||eI cn cr fr xx))∧Ext w w'):=by
 refine dx 21 Tryz.func132 J J J hM fun f0 ha H=>?_
 have H0:=dR H dC
 have H1:=dR H0 fZ
 have H2:=dR H1 nM
 have i0:f0 0=I xx:=ha 0 bj
 have H3:=H2.put (it:=ro Np #[I fr] XS) J<|by rw[aH rfl,aH rfl,aH rfl,bP];exact ajt
 have i1:f0 1=pV Np 0:=ha 1 bj
 have H4:=H3.put (it:=ro eH #[.slice aC aD aB,sL aw U av,sL ay fo ax,I cn,sL dw cr dv] me) J<|by rw[aH rfl,aH rfl,aH rfl,aH rfl,bP];exact ll
 have H5:=H4.put (it:=ro kD #[pV eH 0] XO) J<|by rw[aH rfl,aH rfl,aH rfl,aH rfl,aH rfl,bP];exact ajp
 have i2:f0 2=pV kD 0:=ha 2 bj
 refine az<|ak (v:=.bool false) J J<|aq<|sq<|B9 J aS<|kq (fun _ x_=>lr (H5.ext x_) 2 J aU J i1 J e1)<|kq (fun _ _=>geq J J J J e1)<|kq (fun _ _=>mv (v:=.bool (decide (0≤fr))) J J e1) ?_
 rcases bE (decide (0≤fr)) with b0|b0
 ·
  refine qy J J J b0<|kq (fun _ _=>mv J i0 e1)<|qy J J J b0<|kq (fun _ x_=>lr (H5.ext x_) 2 J aU J i1 J e1)<|qy J J J b0<|kq (fun _ _=>eql J J J J e1)<|qy J J J b0<|kq (fun _ _=>mv (v:=.bool (decide (xx=fr))) J J e1) ?_
  rcases bE (decide (xx=fr)) with b1|b1
  ·
   refine qn J J J b1<|qn J J J b1<|qn J J J b1<|qn J J J b1<|qn J J J b1<|qn J J J b1<|qn J J J b1<|qy J J J b0<|kq (fun _ _=>aP J J J J b1 J e1)<|kq (fun _ _=>aP J J J J b0 J e1)<|kq (fun _ _=>jM (v:=.bool true) J J e1)<|zq ?_
   intro w0 bW
   have H6:=H5.ext bW
   refine nx<|rt<|r1 J J ?_
   exact⟨an0 Value.bool (by simp only[b0,b1,BL]),H6.below⟩
  refine qy J J J b1<|kq (fun _ x_=>lr (H5.ext x_) 0 J Gv J i2 J e1)<|qy J J J b1<|kq (fun _ _=>nc J J e1)<|qy J J J b1<|kq (fun _ _=>fa uK J J e1)<|qy J J J b1<|kq (fun _ x_=>v7 (H5.ext x_) 1 J bm J J au J e1)<|qy J J J b1<|kq (fun _ x_=>lr (H5.ext x_) 2 J aU J i1 J e1)<|qy J J J b1<|kq (fun _ _=>mv J i0 e1)<|qy J J J b1<|kq (v:=.bool (eI cn cr fr xx)) (fun v_ x_=>?_) ?_
  ·
   have cc:=uz (mn:=cn) (mr:=cr) (i:=fr) (j:=xx) (w:=v_) (H5.ext x_).mb kC ((H5.ext x_).rv 3 rfl) ajm adQ (by exact(bQ lk).1) (by exact(bQ lk).2.1)<|by exact(bQ lk).2.2.1
   exact ca F4 J (ec J<|ec J<|ec J e0) cc fun _ _ h_=>e2 h_
  refine qy J J J b0<|kq (fun _ _=>dG J J J J b1 J e1)<|kq (fun _ _=>aP J J J J b0 J e1)<|kq (fun _ _=>jM (v:=.bool (eI cn cr fr xx)) J J e1)<|zq ?_
  intro w0 bW
  have H6:=H5.ext bW
  refine nx<|rt<|r1 J J ?_
  exact⟨an0 Value.bool (by simp only[b0,b1,BL]),H6.below⟩
 refine qn J J J b0<|qn J J J b0<|qn J J J b0<|qn J J J b0<|qu J J J<|qu J J J<|qu J J J<|qu J J J<|qu J J J<|qu J J J<|qu J J J<|qn J J J b0<|kq (fun _ _=>dG J J J J b0 J e1)<|kq (fun _ _=>jM (v:=.bool false) J J e1)<|zq ?_
 intro w0 bW
 have H6:=H5.ext bW
 refine nx<|rt<|r1 J J ?_
 exact⟨an0 Value.bool (by simp only[b0,BL]),H6.below⟩
theorem M_ {No:Nat} {XR:TypeId} {WU:Nat} {XJ:List Value} {pp:Int→Bool} (hM:eJ M w) (adQ:aK xx) (adV:FP aI WU XJ M w [xx] pp) (ajs:w.heap[No]? =some (.cells #[.func (.func WU) #[] XJ.toArray] XR (0,0))∧¬M No):Calls aI 134 #[I xx,.pointer (some ⟨No,0,none⟩)] w (cm fun v w'=>v=.bool (!(pp xx))∧Ext w w'):=by
 refine dx 8 Tryz.func134 J J J hM fun f0 ha H=>?_
 have i0:f0 0=I xx:=ha 0 bj
 have H0:=H.put (it:=ro No #[.func (.func WU) #[] XJ.toArray] XR) J<|by rw[bP];exact ajs
 have i1:f0 1=pV No 0:=ha 1 bj
 refine az<|ak (v:=.bool false) J J<|bw<|k<|lr H0 0 J Qa J i1 J<|ai J i0<|k<|cf adV.1 J J J (ec J e0) (adV.2 _ _ _ (by exact apj.2 rfl) H0.below<|(RV.int.2 ⟨J,aR⟩).lift H0.out) ?_
 rintro _ w0 ⟨rfl,bW⟩
 have H1:=H0.ext bW
 refine k<|j4 J J<|ak (v:=.bool (!(pp xx))) J J<|aq<|rt<|r1 J J ?_
 exact⟨an0 Value.bool (show (!(pp xx))=(!(pp xx)) from rfl),H1.below⟩
theorem Of (hM:eJ M w) (hT:fS 0 w) (dC:cA M w aw av U) (fZ:cA M w ay ax fo) (kC:aK cn) (nM:cA M w dw dv cr) (ub:aK o) (ll:w.heap[eH]? =some (.cells #[.slice aC aD aB,sL aw U av,sL ay fo ax,I cn,sL dw cr dv] me (0,0))∧¬M eH) (ho:ik U) (dy:U.length≤64) (eB:fo.length=U.length) (fL:∀x∈fo,x<((U.length:Nat):Int)) (oA:cn=((U.length:Nat):Int)) (pJ:cr=ct U fo) (He:0≤o∧o<((U.length:Nat):Int)):Calls aI 93 #[.pointer (some ⟨eH,0,none⟩),I o] w (cm fun v w'=>∃(ls:aA) (a0:OA) (c0:Nat),v=sL a0 ls c0∧Ext w w'∧bl M 3 w ls (sL a0 ls c0) w'∧ls.length≤300000):=by
 refine dx 53 Tryz.func93 J J J hM fun f0 ha H=>?_
 let J0:=iL aw U av
 have H0:=H.put (it:=J0) J<|by rw[bP];exact dC
 let J1:=iL ay fo ax
 have H1:=H0.put (it:=J1) J<|by rw[aH rfl,bP];exact fZ
 let J2:=iL dw cr dv
 have H2:=H1.put (it:=J2) J<|by rw[aH rfl,aH rfl,bP];exact nM
 let J3:=ro eH #[.slice aC aD aB,sL aw U av,sL ay fo ax,I cn,sL dw cr dv] me
 have H3:=H2.put (it:=J3) J<|by rw[aH rfl,aH rfl,aH rfl,bP];exact ll
 have i0:f0 0=pV eH 0:=ha 0 bj
 have i1:f0 1=I o:=ha 1 bj
 have lk:bJ cn cr=true:=by rw[oA,pJ];exact pD fo aj
 refine az<|k<|bx H3 J i0 ?_
 let bc:=[J3,J2,J1,J0]
 intro aW w0 bW (H4:HI M w w0 (box aW #[pV eH 0] 103::bc))
 let J4:=box aW #[pV eH 0] 103
 refine ak (v:=.slice none 0 0) J J<|bw<|bo H4 0 J Gv J J J<|k<|nc J J<|aQ II J J<|aQ tF J J<|k<|lr H4 1 J qD J J J<|ai J i1<|k<|ia (H4.rv 3 J) J J J J aj cM aU ?_
 intro iG x0 aM cw
 refine k<|mP cw.w aU J J ?_
 intro cu
 refine k<|al H4 aU ?_
 intro ba w1 df (H5:HI M w w1 (box ba #[I 0] 3::J4::bc))
 refine k<|bu H5 0 J aU J J J J J J J ?_
 let J5:=box ba #[I x0] 3
 let bX:=J5::J4::bc
 intro w2 (H6:HI M w w2 bX)
 refine bw<|k<|mf J<|k<|al H6 Qa ?_
 intro bI w3 eS (H7:HI M w w3 (box bI #[.nilFunc] 63::bX))
 refine k<|bu H7 0 J Qa J J J J J J J ?_
 let J6:=box bI #[.func (.func 132) #[] #[pV ba 0,pV aW 0]] 63
 intro w4 (H8:HI M w w4 (J6::bX))
 refine bw<|bo H8 2 J Gv J J J<|k<|nc J J<|aQ uK J J<|k<|v7 H8 3 J bm J J au J<|ai J i1<|k ?_
 have bR:=u0 (mn:=cn) (mr:=cr) (o:=o) H8.mb (hT.ext H8.below) kC (H8.rv 4 J) ub<|by exact lk
 refine ca MM J (ec J<|ec J e0) bR ?_
 rintro _ w5 ⟨a0,c0,rfl,fH,ee⟩
 have H9:=H8.eP ee
 refine ak (v:=sL a0 (bN cn cr o) c0) J J<|aq<|sq<|my [.f,.f,.f,.f,.r,.r,.r,.e,.e,.e,.e,.e,.e,.e] (fun w'=>HI M w w' [J4,J3]) J aS (fun _ x_=>(H9.bV (l':=[J4,J3]) [3,4] au J).ext x_)<|yf J (fun _ i_=>lx i_ 0 J Gv J J J e3)<|yf J (fun _ _=>nc J J e3)<|yf J (fun _ _=>fa uK J J e3)<|yf J (fun _ i_=>v7 i_ 1 J bm J J au J e3)<|yq J J<|kq (fun _ _=>mv (v:=sL a0 (bN cn cr o) c0) J J e1)<|zq<|yu J (fun _ v w'=>∃(a1:OA) (c1:Nat),v=sL a1 (bN cn cr o) c1∧bl H9.fg 3 w5 (bN cn cr o) (.slice a1 (bN cn cr o).length c1) w') J (mN<|by rintro _ _ _ x_ ⟨a1,c1,e_,fh⟩;exact⟨a1,c1,e_,fh.Md x_⟩) J (fun v_ _ x_ _=>have fU:=JZ (l:=(bN cn cr o)) (w:=v_) ((H9.ext x_).freeze 0 rfl).mb (((H9.ext x_).freeze 0 rfl).rv 0 rfl) (by have h_:=uT lk o;omega);ca YZ rfl (ec J e0) fU (fun _ w7 ⟨a2,c2,e_,jr,jd⟩=>⟨_,J,jr,⟨a2,c2,e_,(bl.anyM<|bl.base jd x_)⟩⟩))<|yq J J<|kq (fun _ x_=>lx (H9.ext x_) 1 J Qa J J J e1)<|zq<|ye<|ye<|ye<|ye<|ye<|ye<|ye<|yz ?_
 intro w8 f0 _ kr _ _ cC iT
 obtain⟨a3,c3,s0,iU⟩:=iT 0 _ _ rfl
 have dV:=H9.eP<|bl.anyM iU
 have s1:=cC 2 J
 have s2:=cC 6 J
 have s3:=cC 7 J
 have s4:=cC 31 J
 have s5:=cC 34 J
 refine ke ?_
 let J7:=oL w 3 a0 (bN cn cr o) c0
 have dA:HI M w w8 ([oL w 3 a3 (bN cn cr o) c3]++[J7,J6,J5,J4,J3,J2,J1,J0]):=dV.bV [0,1,2,3,4,5,6,7,8] au J
 have fb:=oU (dU:=a3) (dN:=c3) (xs:=(bN cn cr o)) (qv:=132) (qA:=[pV ba 0,pV aW 0]) (p:=(fun (x_:Int)=>(decide (0≤x0)&&(decide (x_=x0)||eI cn cr x0 x_)))) (w:=w) (w_:=w8) (r:=[J7,J6,J5,J4,J3,J2,J1,J0]) (M:=M) ⟨Y0,fun w_ jq H_ x_ tv EC=>Du (fr:=x0) (U:=U) (fo:=fo) (cn:=cn) (cr:=cr) (M:=fun _=>False) (fun _ h_=>h_.elim) EC bt ((H_.rv 8 J).lift (Up.less fun _ _ h_=>h_.elim)) ((H_.rv 7 J).lift (Up.less fun _ _ h_=>h_.elim)) bt ((H_.rv 6 J).lift (Up.less fun _ _ h_=>h_.elim)) ⟨H_.at_ 3 rfl,fun h_=>h_⟩ ⟨H_.at_ 4 rfl,fun h_=>h_⟩ ⟨(H_.at_ 5 J).1,fun h_=>h_⟩ (by exact lk)⟩ dA
 refine ca Ho J (ec s0<|ec s5 e0) fb ?_
 rintro _ w9 ⟨rfl,cT⟩
 have dX:HI M w w9 (oL w 3 a3 (aV (fun (x_:Int)=>(decide (0≤x0)&&(decide (x_=x0)||eI cn cr x0 x_))) (bN cn cr o)) c3::J7::J6::bX):=cT
 refine⟨dX.bV [4,5] au rfl,?_⟩
 refine ke ?_
 have dI:=dX.freeze 0 J
 have nr:=yj (mn:=cn) (mr:=cr) (nd:=(aV (fun (x_:Int)=>(decide (0≤x0)&&(decide (x_=x0)||eI cn cr x0 x_)))<|bN cn cr o)) dI.mb (hT.ext dI.below) kC (dI.rv 6 J) (dI.rv 0 J) (by exact lk)<|by exact Nat.le_trans (uS lk o _) au
 refine ca Re J (ec s4<|ec J e0) nr ?_
 rintro _ dP ⟨a4,c4,rfl,lX,kW⟩
 have cG:=dX.eP<|bl.anyM kW
 refine⟨cG.bV [5,6] au rfl,?_⟩
 refine ke<|mv (v:=.tuple #[sL a4 ((dB cn cr<|aV (fun (x_:Int)=>(decide (0≤x0)&&(decide (x_=x0)||eI cn cr x0 x_)))<|bN cn cr o).1) c4,I ((dB cn cr<|aV (fun (x_:Int)=>(decide (0≤x0)&&(decide (x_=x0)||eI cn cr x0 x_)))<|bN cn cr o).2)]) J J ?_
 refine⟨cG.bV [5,6] au rfl,?_⟩
 refine ke<|xt J J J ?_
 refine⟨cG.bV [5,6] au rfl,?_⟩
 refine ke<|xt J J J ?_
 refine⟨cG.bV [5,6] au rfl,?_⟩
 refine ke<|jM (v:=sL a4 ((dB cn cr<|aV (fun (x_:Int)=>(decide (0≤x0)&&(decide (x_=x0)||eI cn cr x0 x_)))<|bN cn cr o).1) c4) J J ?_
 refine⟨cG.bV [5,6] au rfl,?_⟩
 refine ke<|jM (v:=I ((dB cn cr<|aV (fun (x_:Int)=>(decide (0≤x0)&&(decide (x_=x0)||eI cn cr x0 x_)))<|bN cn cr o).2)) J J ?_
 refine⟨cG.bV [5,6] au rfl,?_⟩
 refine kz<|nx<|sq<|my [.f,.f,.f,.f,.r,.r,.e,.e,.e,.e,.e,.e,.e] (fun w'=>HI M w w' [J4,J3]) J aS (fun _ x_=>(cG.bV (l':=[J4,J3]) [5,6] au J).ext x_)<|yf J (fun _ i_=>lx i_ 0 J Gv J s1 J e3)<|yf J (fun _ _=>nc J J e3)<|yf J (fun _ _=>fa uK J J e3)<|yf J (fun _ i_=>v7 i_ 1 J bm J J au J e3)<|yq J J<|kq (fun _ _=>mv J s3 e1)<|bO<|kq (fun _ _=>mf2 J (X_ s2 mf0) e1)<|zq<|ye<|ye<|ye<|ye<|ye<|ye<|ye<|yz ?_
 intro ey f1 _ nS _ _ fK Ao
 have d_:=cG.ext nS
 have s6:=fK 8 J
 have s7:=fK 43 J
 have s8:=fK 44 J
 have s9:=fK 45 J
 refine ke ?_
 have dD:HI M w ey ([J7]++[oL w 3 a4 ((dB cn cr (aV (fun (x_:Int)=>(decide (0≤x0)&&(decide (x_=x0)||eI cn cr x0 x_))) (bN cn cr o))).1) c4,oL w 3 a3 (aV (fun (x_:Int)=>(decide (0≤x0)&&(decide (x_=x0)||eI cn cr x0 x_))) (bN cn cr o)) c3,J6,J5,J4,J3,J2,J1,J0]):=d_.bV [2,0,1,3,4,5,6,7,8,9] au J
 have n5:=oU (dU:=a0) (dN:=c0) (xs:=(bN cn cr o)) (qv:=134) (qA:=[pV bI 0]) (p:=(fun (x_:Int)=>(!((fun (x_:Int)=>(decide (0≤x0)&&(decide (x_=x0)||eI cn cr x0 x_))) x_)))) (w:=w) (w_:=ey) (r:=[oL w 3 a4 ((dB cn cr<|aV (fun (x_:Int)=>(decide (0≤x0)&&(decide (x_=x0)||eI cn cr x0 x_)))<|bN cn cr o).1) c4,oL w 3 a3 (aV (fun (x_:Int)=>(decide (0≤x0)&&(decide (x_=x0)||eI cn cr x0 x_)))<|bN cn cr o) c3,J6,J5,J4,J3,J2,J1,J0]) (M:=M) ⟨agw,fun w_ jq H_ x_ tv EC=>M_ (pp:=(fun (x_:Int)=>(decide (0≤x0)&&(decide (x_=x0)||eI cn cr x0 x_)))) (M:=fun _=>False) (fun _ h_=>h_.elim) EC ⟨Y0,fun w_ v_ x_ tv e_ Ha=>by have H_:=H_.ext e_;obtain⟨_,⟨rfl,nV⟩,rfl⟩:=Ha;exact Du (fr:=x0) (U:=U) (fo:=fo) (cn:=cn) (cr:=cr) (M:=fun _=>False) (fun _ h_=>h_.elim) nV bt ((H_.rv 9 J).lift (Up.less fun _ _ h_=>h_.elim)) ((H_.rv 8 J).lift (Up.less fun _ _ h_=>h_.elim)) bt ((H_.rv 7 J).lift (Up.less fun _ _ h_=>h_.elim)) ⟨H_.at_ 4 rfl,fun h_=>h_⟩ ⟨H_.at_ 5 rfl,fun h_=>h_⟩ ⟨(H_.at_ 6 J).1,fun h_=>h_⟩ (by exact lk)⟩ ⟨H_.at_ 3 rfl,fun h_=>h_⟩⟩ dD
 refine ca Ho J (ec s8<|ec s9 e0) n5 ?_
 rintro _ fq ⟨rfl,eR⟩
 have eW:HI M w fq (oL w 3 a0 (aV (fun (x_:Int)=>(!((fun (x_:Int)=>(decide (0≤x0)&&(decide (x_=x0)||eI cn cr x0 x_))) x_))) (bN cn cr o)) c0::oL w 3 a4 ((dB cn cr (aV (fun (x_:Int)=>(decide (0≤x0)&&(decide (x_=x0)||eI cn cr x0 x_))) (bN cn cr o))).1) c4::oL w 3 a3 (aV (fun (x_:Int)=>(decide (0≤x0)&&(decide (x_=x0)||eI cn cr x0 x_))) (bN cn cr o)) c3::J6::bX):=eR
 refine⟨eW.bV [5,6] au rfl,?_⟩
 refine ke ?_
 have gW:=eW.freeze 0 J
 have AG:=yj (mn:=cn) (mr:=cr) (nd:=(aV (fun (x_:Int)=>(!((fun (x_:Int)=>(decide (0≤x0)&&(decide (x_=x0)||eI cn cr x0 x_))) x_)))<|bN cn cr o)) gW.mb (hT.ext gW.below) kC (gW.rv 7 J) (gW.rv 0 J) (by exact lk)<|by exact Nat.le_trans (uS lk o _) au
 refine ca Re J (ec s7<|ec J e0) AG ?_
 rintro _ iQ ⟨a5,c5,rfl,zP,pg⟩
 have jf:=eW.eP<|bl.anyM pg
 refine⟨jf.bV [6,7] au rfl,?_⟩
 refine ke<|mv (v:=.tuple #[sL a5 ((dB cn cr<|aV (fun (x_:Int)=>(!((fun (x_:Int)=>(decide (0≤x0)&&(decide (x_=x0)||eI cn cr x0 x_))) x_)))<|bN cn cr o).1) c5,I ((dB cn cr<|aV (fun (x_:Int)=>(!((fun (x_:Int)=>(decide (0≤x0)&&(decide (x_=x0)||eI cn cr x0 x_))) x_)))<|bN cn cr o).2)]) J J ?_
 refine⟨jf.bV [6,7] au rfl,?_⟩
 refine ke<|xt J J J ?_
 refine⟨jf.bV [6,7] au rfl,?_⟩
 refine ke<|xt J J J ?_
 refine⟨jf.bV [6,7] au rfl,?_⟩
 refine ke<|jM (v:=sL a5 ((dB cn cr<|aV (fun (x_:Int)=>(!((fun (x_:Int)=>(decide (0≤x0)&&(decide (x_=x0)||eI cn cr x0 x_))) x_)))<|bN cn cr o).1) c5) J J ?_
 refine⟨jf.bV [6,7] au rfl,?_⟩
 refine ke<|jM (v:=I ((dB cn cr<|aV (fun (x_:Int)=>(!((fun (x_:Int)=>(decide (0≤x0)&&(decide (x_=x0)||eI cn cr x0 x_))) x_)))<|bN cn cr o).2)) J J ?_
 refine⟨jf.bV [6,7] au rfl,?_⟩
 refine kz<|nx<|sq ?_
 have h1_:=R2 lk o<|fun (x_:Int)=>(decide (0≤x0)&&(decide (x_=x0)||eI cn cr x0 x_))
 have lE:=R2 lk o<|fun (x_:Int)=>(!((fun (x_:Int)=>(decide (0≤x0)&&(decide (x_=x0)||eI cn cr x0 x_))) x_))
 refine rg<|ai J s6<|ai (v:=sL a5 ((dB cn cr<|aV (fun (x_:Int)=>(!((fun (x_:Int)=>(decide (0≤x0)&&(decide (x_=x0)||eI cn cr x0 x_))) x_)))<|bN cn cr o).1) c5) J J<|k<|lV jf 2 J J J J J J (gX<|jf.at_ 0 J) cM aU J aj J ?_
 intro a6 c6 j1 (jC:HI M w j1 (oL w 3 a5 ((dB cn cr (aV (fun (x_:Int)=>(!((fun (x_:Int)=>(decide (0≤x0)&&(decide (x_=x0)||eI cn cr x0 x_))) x_))) (bN cn cr o))).1) c5::oL w 3 a0 (aV (fun (x_:Int)=>(!((fun (x_:Int)=>(decide (0≤x0)&&(decide (x_=x0)||eI cn cr x0 x_))) x_))) (bN cn cr o)) c0::oL w 3 a6 ((dB cn cr (aV (fun (x_:Int)=>(decide (0≤x0)&&(decide (x_=x0)||eI cn cr x0 x_))) (bN cn cr o))).1++(dB cn cr (aV (fun (x_:Int)=>(!((fun (x_:Int)=>(decide (0≤x0)&&(decide (x_=x0)||eI cn cr x0 x_))) x_))) (bN cn cr o))).1) c6::oL w 3 a3 (aV (fun (x_:Int)=>(decide (0≤x0)&&(decide (x_=x0)||eI cn cr x0 x_))) (bN cn cr o)) c3::J6::bX))
 refine ak (v:=sL a6 ((dB cn cr<|aV (fun (x_:Int)=>(decide (0≤x0)&&(decide (x_=x0)||eI cn cr x0 x_)))<|bN cn cr o).1++(dB cn cr<|aV (fun (x_:Int)=>(!((fun (x_:Int)=>(decide (0≤x0)&&(decide (x_=x0)||eI cn cr x0 x_))) x_)))<|bN cn cr o).1) c6) J J<|aq<|rt<|r1 J J ?_
 exact⟨((dB cn cr<|aV (fun (x_:Int)=>(decide (0≤x0)&&(decide (x_=x0)||eI cn cr x0 x_)))<|bN cn cr o).1++(dB cn cr<|aV (fun (x_:Int)=>(!((fun (x_:Int)=>(decide (0≤x0)&&(decide (x_=x0)||eI cn cr x0 x_))) x_)))<|bN cn cr o).1),a6,c6,J,jC.below,(jC.dt 2 J),(by rw[fJ];omega)⟩
theorem Xf (hM:eJ M w) (hT:fS 0 w) (dC:cA M w aw av U) (fZ:cA M w ay ax fo) (kC:aK cn) (nM:cA M w dw dv cr) (ub:aK o) (pz:aK lv) (ll:w.heap[eH]? =some (.cells #[.slice aC aD aB,sL aw U av,sL ay fo ax,I cn,sL dw cr dv] me (0,0))∧¬M eH) (ho:ik U) (dy:U.length≤64) (eB:fo.length=U.length) (fL:∀x∈fo,x<((U.length:Nat):Int)) (oA:cn=((U.length:Nat):Int)) (pJ:cr=ct U fo) (He:0≤o∧o<((U.length:Nat):Int)):Calls aI 57 #[.pointer (some ⟨eH,0,none⟩),I o,I lv] w (cm fun v w'=>∃(ls:aA) (a0:OA) (c0:Nat),v=sL a0 ls c0∧Ext w w'∧bl M 3 w ls (sL a0 ls c0) w'∧ls.length≤300000):=by
 refine dx 15 Tryz.func57 J J J hM fun f0 ha H=>?_
 have H0:=dR H dC
 have H1:=dR H0 fZ
 have H2:=dR H1 nM
 have H3:=H2.put (it:=ro eH #[.slice aC aD aB,sL aw U av,sL ay fo ax,I cn,sL dw cr dv] me) J<|by rw[aH rfl,aH rfl,aH rfl,bP];exact ll
 have i0:f0 0=pV eH 0:=ha 0 bj
 have i1:f0 1=I o:=ha 1 bj
 have i2:f0 2=I lv:=ha 2 bj
 refine az<|ak (v:=.slice none 0 0) J J<|aq<|sq<|az<|ai J i2<|k<|eql J J J J<|z<|nx<|cd (b:=decide (lv=3)) J J (fun b0=>?_)<|fun b0=>?_
 ·
  refine az<|ai J i0<|ai J i1<|k ?_
  have bR:=Xg (U:=U) (fo:=fo) (cn:=cn) (cr:=cr) (o:=o) H3.mb (hT.ext H3.below) (H3.rv 3 J) (H3.rv 2 J) kC (H3.rv 1 J) ub (H3.at_ 0 J) (by exact ho) (by exact dy) (by exact eB) (by exact fL) (by exact oA) (by exact pJ) aj
  refine ca ajz J (ec J<|ec J e0) bR ?_
  rintro _ w0 ⟨o0,a0,c0,rfl,bW,cu,q0⟩
  have H4:=H3.eP cu
  refine ak (v:=sL a0 o0 c0) J J<|aq<|rt<|aL<|r1 J J ?_
  exact⟨o0,a0,c0,J,H4.below,(H4.dt 0 J),bt⟩
 refine sk<|cO<|ai J i0<|ai J i1<|k ?_
 have bR:=Of (U:=U) (fo:=fo) (cn:=cn) (cr:=cr) (o:=o) H3.mb (hT.ext H3.below) (H3.rv 3 J) (H3.rv 2 J) kC (H3.rv 1 J) ub (H3.at_ 0 J) (by exact ho) (by exact dy) (by exact eB) (by exact fL) (by exact oA) (by exact pJ) aj
 refine ca ajy J (ec J<|ec J e0) bR ?_
 rintro _ w0 ⟨o0,a0,c0,rfl,bW,cu,q0⟩
 have H4:=H3.eP cu
 refine ak (v:=sL a0 o0 c0) J J<|aq<|rt<|r1 J J ?_
 exact⟨o0,a0,c0,J,H4.below,(H4.dt 0 J),bt⟩
theorem vI:ep aI 30 5 true 88 (.agg #[.int .i64 0,.int .i64 0,.slice none 0 0,.slice none 0 0,.slice none 0 0]):=⟨aS,aS⟩
theorem ajK:cx aI 54:=cF Tryz.func54
theorem ajJ:cx aI 55:=cF Tryz.func55
theorem aeF:gR aI 30 2 3:=jT Tryz.underlying30
theorem T4:gR aI 30 3 4:=jT Tryz.underlying30
theorem abv:ep aI 28 1 false 24 (.slice none 0 0):=⟨aS,aS⟩
theorem ajI:cx aI 57:=cF Tryz.func57
theorem ais:aI.underlying 28=some (.slice 27):=aS
theorem Xc (hM:eJ M w) (hT:fS 0 w) (dC:cA M w aw av U) (fZ:cA M w ay ax fo) (fY:aK mn) (gr:cA M w bC bB mr) (ho:ik U) (dy:U.length≤64) (eB:fo.length=U.length) (fL:∀x∈fo,x<((U.length:Nat):Int)) (BY:mn=((U.length:Nat):Int)) (BX:mr=ct U fo):Calls aI 55 #[.agg #[.slice aC aD aB,sL aw U av,sL ay fo ax],.agg #[I mn,sL bC mr bB]] w (cm fun v w'=>∃(on:Int) (om:List (List bp)) (er:Int) (a0:OA) (c0:Nat),v=.tuple #[.agg #[I on,sL a0 om c0],I er]∧Ext w w'∧cA M w' a0 c0 om∧bJ on om=true∧aK on∧aK er):=by
 refine dx 39 Tryz.func55 J J J hM fun f0 ha H=>?_
 let J0:=iL aw U av
 have H0:=H.put (it:=J0) J<|by rw[bP];exact dC
 let J1:=iL ay fo ax
 have H1:=H0.put (it:=J1) J<|by rw[aH rfl,bP];exact fZ
 let J2:=iL bC mr bB
 have H2:=H1.put (it:=J2) J<|by rw[aH rfl,aH rfl,bP];exact gr
 have ja:=bg dC
 have kR:=bg fZ
 have nw:=bg gr
 have i0:f0 0=.agg #[.slice aC aD aB,sL aw U av,sL ay fo ax]:=ha 0 bj
 have i1:f0 1=.agg #[I mn,sL bC mr bB]:=ha 1 bj
 have bZ:bJ mn mr=true:=by rw[BY,BX];exact pD fo aj
 have Fu:=oV bZ
 refine az<|k<|bx H2 J i0 ?_
 let bc:=[J2,J1,J0]
 intro aW w0 bW (H3:HI M w w0 (box aW #[.slice aC aD aB,sL aw U av,sL ay fo ax] 47::bc))
 let J3:=box aW #[.slice aC aD aB,sL aw U av,sL ay fo ax] 47
 refine k<|bx H3 J i1 ?_
 let bX:=J3::bc
 intro ba w1 df (H4:HI M w w1 (box ba #[I mn,sL bC mr bB] 26::bX))
 let J4:=box ba #[I mn,sL bC mr bB] 26
 refine k<|al H4 bm ?_
 let dM:=J4::bX
 intro bI w2 eS (H5:HI M w w2 (box bI #[I 0,.slice none 0 0] 26::dM))
 let J5:=box bI #[I 0,.slice none 0 0] 26
 refine ak (v:=I 0) J J<|bw<|k<|cB H5 1 J bm J J au J<|k ?_
 have bR:=wD (mn:=mn) (mr:=mr) H5.mb fY (H5.rv 3 J)<|by exact bZ
 refine ca Rc J (ec J e0) bR ?_
 rintro _ w3 ⟨a0,c0,rfl,fH,cu⟩
 have H6:=H5.eP cu
 refine k<|al H6 bm ?_
 let iO:=oL w 144 a0 (ff mn mr) c0::J5::dM
 intro fm w4 jg (H7:HI M w w4 (box fm #[I 0,.slice none 0 0] 26::iO))
 refine k<|bu H7 0 J bm J J J J J J J ?_
 intro w5 (H8:HI M w w5 (box fm #[I mn,sL a0 (ff mn mr) c0] 26::iO))
 refine aq<|sq<|az<|k<|cB H8 4 J dQ J J au J<|k<|cB H8 3 J bm J J au J<|k ?_
 have cU:=uR (U:=U) (fo:=fo) (mn:=mn) (mr:=mr) (aC:=aC) (aD:=aD) (aB:=aB) H8.mb (hT.ext H8.below) (H8.rv 7 J) (H8.rv 6 J) fY (H8.rv 5 J) aj (by exact eB) (by exact fL)<|by exact bZ
 refine ca Ra J (ec J<|ec J e0) cU ?_
 rintro _ w6 ⟨a1,c1,rfl,jr,ee⟩
 have H9:=H8.eP ee
 refine k<|dL J J eA<|ai (v:=I 0) J J<|aq<|bk ?_
 have dE:=H9.freeze 2 J
 let J6:=iL a0 (ff mn mr) c0
 have cV:=dE.put (it:=J6) J<|dE.rv 2 J
 let J7:=oL w 122 a1 (cJ U fo mn mr) c1
 let fj:=J6::J5::dM
 refine lp (fun m f w'=>∃(q_:Nat) (fT:Int) (fI:List (List bp)) (a2:OA) (c2:Nat),m=(cJ U fo mn mr).length-q_∧f 4=pV bI 0∧f 6=pV fm 0∧f 15=sL a1 (cJ U fo mn mr) c1∧f 16=I ((cJ U fo mn mr).length:Int)∧f 17=I (q_:Int)∧HI M w w' (iL a2 fI c2::J7::box fm #[I fT,sL a2 fI c2] 26::fj)∧(q_≤(cJ U fo mn mr).length)∧(fT=mn∧fI=l_ mn (ff mn mr) ((cJ U fo mn mr).take q_))) _ ⟨0,mn,(ff mn mr),a0,c0,J,J,J,J,J,(bH J),cV,aj,(by exact⟨J,J⟩)⟩ ?_
 rintro _ f0 w7 ⟨q_,fT,fI,a2,c2,rfl,s0,s1,s2,s3,s4,dm,sI,ot⟩
 refine sq ?_
 have Pl:=qW (U:=U) (fo:=fo) bZ;have Q6:=Pl.1
 have so:=Zf eB fL BY BX Pl
 refine rg<|k<|lss J J s4 s3<|aq<|sq<|cd (b:=decide ((q_:Int)<((cJ U fo mn mr).length:Int))) J J (fun b0=>?_)<|fun b0=>?_
 ·
  have p0:=dT b0
  refine sk<|nx<|sq<|bk<|az<|k<|iz (dm.at_ 1 J) J J s2 s4 aj eA cK ?_
  intro g0 x0 iE aM cw
  refine k<|nz cw cK J J ?_
  intro v0 eb
  obtain⟨_,⟨_,_,rfl,⟨rfl,fh⟩,⟨_,_,rfl,⟨rfl,jd⟩,⟨rfl,jX⟩⟩⟩,rfl⟩:=eb
  refine k<|al dm cK ?_
  let lF:=iL a2 fI c2::J7::box fm #[I fT,sL a2 fI c2] 26::fj
  intro gO w8 kr (cL:HI M w w8 (box gO #[I 0,I 0,I 0] 122::lF))
  refine k<|bu cL 0 J cK J J J J J J J ?_
  intro w9 (cH:HI M w w9 (box gO #[I x0.1,I x0.2.1,I x0.2.2] 122::lF))
  refine aq<|rg<|k<|cB cH 3 J bm J s1 au J<|aQ kV J J<|bo cH 0 J aU J J J<|aQ mW J J<|bo cH 0 J aU J J J<|k ?_
  have fU:=FO (mn:=fT) (mr:=fI) (i:=x0.1) (j:=x0.2.1) cH.mb aR (cH.rv 1 J) fh jd<|by exact IS BY Fu so ot
  refine ca WN J (ec J<|ec J<|ec J e0) fU ?_
  rintro _ dP ⟨a3,c3,rfl,lX,iU⟩
  have dV:=cH.ext lX
  let J8:=iL a3 (ie fT fI x0.1 x0.2.1) c3
  have dA:=dV.put (it:=J8) J iU
  refine ai (v:=.tuple #[.agg #[I (iu fT x0.1 x0.2.1),sL a3 (ie fT fI x0.1 x0.2.1) c3],I (lG fT x0.1 x0.2.1)]) J J<|k<|xt J J J<|k<|xt J J J<|k<|bu dA 4 J bm J J s1 J J J J ?_
  let J9:=box fm #[I (iu fT x0.1 x0.2.1),sL a3 (ie fT fI x0.1 x0.2.1) c3] 26
  intro ey (cT:HI M w ey (J8::box gO #[I x0.1,I x0.2.1,I x0.2.2] 122::iL a2 fI c2::J7::J9::fj))
  refine z<|aF<|nx<|rg<|k<|add J J s4 J aR<|ai (v:=I ((q_:Int)+1)) J J<|z ?_
  have dX:=cT.put (it:=J8) J<|cT.rv 0 J
  have dI:HI M w ey (J8::J7::J9::fj):=dX.bV [0,4,5,6,7,8,9,10,11,12] au J
  refine bF _ ?_ ⟨(q_+1),(iu fT x0.1 x0.2.1),(ie fT fI x0.1 x0.2.1),a3,c3,J,s0,s1,s2,s3,(bH J),dI,aj,(by exact BJ ot aM (Ln BY so aM))⟩
  omega
 refine ex<|aT<|aY<|bf<|nx<|sq<|az<|k<|cB dm 2 J bm J s1 au J<|k ?_
 have fU:=yN (mn:=fT) (mr:=fI) dm.mb aR (dm.rv 0 J)<|by exact IS BY Fu so ot
 refine ca Rb J (ec J e0) fU ?_
 rintro _ w8 ⟨rfl,kr⟩
 have cL:=dm.ext kr
 refine ai (v:=.tuple #[I (((cP fT fI).getD 0:Nat):Int),.bool ((cP fT fI).isSome)]) J J<|k<|xt J J J<|k<|xt J J J<|ak (v:=I (((cP fT fI).getD 0:Nat):Int)) J J<|ak (v:=.bool ((cP fT fI).isSome)) J J<|bw<|ai (v:=.bool ((cP fT fI).isSome)) J J<|z<|nx<|cd (b:=(cP fT fI).isSome) J J (fun b1=>?_)<|fun b1=>?_
 ·
  refine az<|k<|bd (v:=.agg #[I 0,.slice none 0 0]) J ew (fun _=>aS)<|k<|bu cL 4 J bm J J s0 J J J J ?_
  intro w9 (cH:HI M w w9 (iL a2 fI c2::J7::box fm #[I fT,sL a2 fI c2] 26::fj))
  refine ak (v:=I 7) J J<|aq<|rt<|aL<|iy cH 4 J bm J J J s0 J au ?_
  exact⟨0,([]:List (List bp)),7,none,0,J,cH.below,(eo _ _),(by exact Sp),(by exact FN),(by unfold aK;omega)⟩
 refine sk<|cO<|k<|cB cL 2 J bm J s1 au J<|k<|bu cL 4 J bm J J s0 J J J J ?_
 intro w9 (cH:HI M w w9 (iL a2 fI c2::J7::box fm #[I fT,sL a2 fI c2] 26::J6::box bI #[I fT,sL a2 fI c2] 26::dM))
 refine ak (v:=I 0) J J<|aq<|rt<|iy cH 4 J bm J J J s0 J au ?_
 exact⟨fT,fI,0,a2,c2,J,cH.below,(cH.fl 0 J),(by exact IS BY Fu so ot),(by rw[ot.1];assumption),(by exact FN)⟩
theorem Rz (pz:aK lv) (hT:fS 0 w) (ho:ik U) (dy:U.length≤64) (eB:fo.length=U.length) (fL:∀x∈fo,x<((U.length:Nat):Int)) (Mt:lv=1∨lv=2∨lv=3) (YC:gL U fo lv=none) (H:HI M w w_ ([iL aw U av,iL ay fo ax]++r)):Calls aI 54 #[.agg #[.slice aC aD aB,sL aw U av,sL ay fo ax],I lv] w_ (cm fun v w'=>∃(Zi:Nat) (a0:OA) (c0:Nat),v=.tuple #[pV Zi 0,I 0]∧HI M w w' ([box Zi #[.slice aC aD aB,sL aw U av,sL ay fo ax,I ((U.length:Nat):Int),.slice a0 (ct U fo).length c0] 107,iL a0 (ct U fo) c0,iL aw U av,iL ay fo ax]++r)):=by
 refine enter 25 Tryz.func54 J J J fun f0 ha=>?_
 have ja:=bg<|H.rv 0 J
 have kR:=bg<|H.rv 1 J
 have i0:f0 0=.agg #[.slice aC aD aB,sL aw U av,sL ay fo ax]:=ha 0 bj
 have i1:f0 1=I lv:=ha 1 bj
 refine az<|k<|bx H J i0 ?_
 let J1:=iL aw U av
 let J2:=iL ay fo ax
 intro aW w0 bW (H0:HI M w w0 ([box aW #[.slice aC aD aB,sL aw U av,sL ay fo ax] 47,J1,J2]++r))
 let J0:=box aW #[.slice aC aD aB,sL aw U av,sL ay fo ax] 47
 refine ak (v:=.pointer none) J J<|ak (v:=I 0) J J<|aq<|sq<|az<|k<|cB H0 0 J dQ J J au J<|ai J i1<|k ?_
 have bR:=Nk (U:=U) (fo:=fo) (lv:=lv) (aC:=aC) (aD:=aD) (aB:=aB) H0.mb (hT.ext H0.below) (H0.rv 1 J) (H0.rv 2 J) pz (by exact ho) (by exact dy) (by exact eB) (by exact fL)<|by exact Mt
 refine ca aeu J (ec J<|ec J e0) bR ?_
 rintro _ w1 ⟨o0,o1,o2,o3,o4,o5,o6,rfl,df,q0⟩
 have H1:=H0.ext df
 refine ai (v:=.tuple #[.agg #[I o0,I o1,I o2,I o3,I o4,.slice none 0 0,I o5,I o6],I (fc U fo lv)]) J J<|k<|xt J J J<|k<|xt J J J<|k<|al H1 bT ?_
 intro ba w2 eS (H2:HI M w w2 ([box ba #[I 0,I 0,I 0,I 0,I 0,.slice none 0 0,I 0,I 0] 33,J0,J1,J2]++r))
 refine k<|bu H2 0 J bT J J J J J J J ?_
 let J3:=box ba #[I o0,I o1,I o2,I o3,I o4,.slice none 0 0,I o5,I o6] 33
 intro w3 (H3:HI M w w3 ([J3,J0,J1,J2]++r))
 refine ak (v:=I (fc U fo lv)) J J<|bw<|ai (v:=I (fc U fo lv)) J J<|aq<|bk<|az<|k<|eql J J J J<|ak (v:=.bool (decide ((fc U fo lv)=1))) J J<|z<|nx ?_
 have BQ:(decide ((fc U fo lv)=1))=false:=(by rw[aob];unfold fc;rw[YC];decide)
 refine pk J J BQ<|az<|k<|eql J J J J<|ak (v:=.bool (decide ((fc U fo lv)=0))) J J<|z<|nx ?_
 have Le:(decide ((fc U fo lv)=0))=false:=(by rw[aob];unfold fc;rw[YC];decide)
 refine pk J J Le<|sk<|aF<|nx<|sq<|my [.r,.r,.r,.r,.e,.e,.s] (fun _=>True) J aS (fun _ _=>trivial)<|yq J J<|kq (fun _ x_=>cB (H3.ext x_) 1 J dQ J J au J e1)<|bO<|kq (fun _ x_=>cB (H3.ext x_) 1 J dQ J J au J e1)<|zq<|yu J (fun _ v w'=>∃(a0:OA) (c0:Nat),v=.agg #[I (U.length:Int),sL a0 (ct U fo) c0]∧RV H3.fg w' (sL a0 (ct U fo) c0) (ct U fo)) J oq J (fun v_ _ x_ _=>have fU:=BD (U:=U) (fo:=fo) (aC:=aC) (aD:=aD) (aB:=aB) (w:=v_) (H3.ext x_).mb ((H3.ext x_).rv 2 rfl) ((H3.ext x_).rv 3 rfl) (by exact ho) aj (by exact eB) (by exact fL);ca Rf rfl (ec J e0) fU (fun _ w5 ⟨a1,c1,e_,jg,ee⟩=>⟨_,J,jg,⟨a1,c1,e_,ee⟩⟩))<|lJ J (fun _ v w'=>∃(a2:OA) (c2:Nat),v=.agg #[.slice aC aD aB,sL aw U av,sL ay fo ax,I (U.length:Int),sL a2 (ct U fo) c2]∧RV H3.fg w' (sL a2 (ct U fo) c2) (ct U fo)) 0 J J oq J (fun _ _ _ _ _ h_=>let ⟨a3,c3,s0,fh⟩:=h_;bd (v:=.agg #[.slice aC aD aB,sL aw U av,sL ay fo ax,I (U.length:Int),sL a3 (ct U fo) c3]) rfl (ck J<|ck s0 ew) (fun _=>aS) ⟨_,J,Ext.refl _,⟨a3,c3,J,fh⟩⟩)<|ye<|ye<|yq J J<|kq (fun _ _=>jM (v:=I 0) J J e1)<|zq<|yz ?_
 intro w6 f0 _ jr _ _ cC iT
 have cH:=H3.ext jr
 have s1:=cC 5 J
 obtain⟨a4,c4,s2,jd⟩:=iT 0 _ _ rfl
 let J4:=iL a4 (ct U fo) c4
 have dV:=cH.put (it:=J4) J jd
 refine kc<|bx dV J s2 ?_
 intro bI w7 kr (cT:HI M w w7 ([box bI #[.slice aC aD aB,sL aw U av,sL ay fo ax,I (U.length:Int),sL a4 (ct U fo) c4] 107,J4,J3,J0,J1,J2]++r))
 let J5:=box bI #[.slice aC aD aB,sL aw U av,sL ay fo ax,I (U.length:Int),sL a4 (ct U fo) c4] 107
 refine kc<|jM (v:=pV bI 0) J J<|kz<|nx<|rt<|r2 J J J ?_
 try simp only[cW,cg]
 rw[s1]
 have dX:=HI.aP (l:=[J5,J4,J3,J0,J1,J2]) (l':=[J5,J4,J1,J2]) (t:=r) cT [0,1,4,5] au J J
 have e0:((U.length:Int):Int)=((U.length:Nat):Int):=rfl
 try rw[←e0]
 refine⟨bI,a4,c4,?_,?_⟩
 · first|rfl|simp only[e0]|(simp only[an1])
 · first|exact dX|simpa +zetaDelta only[e0,an1] using dX
theorem Uu (hM:eJ M w) (hT:fS 0 w) (dC:cA M w aw av U) (fZ:cA M w ay ax fo) (pz:aK lv) (ho:ik U) (dy:U.length≤64) (eB:fo.length=U.length) (fL:∀x∈fo,x<((U.length:Nat):Int)) (Mt:lv=1∨lv=2∨lv=3) (YC:gL U fo lv=none):Calls aI 30 #[.agg #[.slice aC aD aB,sL aw U av,sL ay fo ax],I lv] w (cm fun v w'=>∃(cn_:Int) (cm_:List (List bp)) (co_:aA) (cs_:List aA) (a0:OA) (c0:Nat) (a1:OA) (c1:Nat) (a2:OA) (c2:Nat),v=.tuple #[.agg #[I lv,I cn_,sL a0 cm_ c0,sL a1 co_ c1,sL a2 cs_ c2],I 0]∧Ext w w'∧cA M w' a0 c0 cm_∧cA M w' a1 c1 co_∧cA M w' a2 c2 cs_):=by
 refine dx 80 Tryz.func30 J J J hM fun f0 ha H=>?_
 let J0:=iL aw U av
 have H0:=H.put (it:=J0) J<|by rw[bP];exact dC
 let J1:=iL ay fo ax
 have H1:=H0.put (it:=J1) J<|by rw[aH rfl,bP];exact fZ
 have ja:=bg dC
 have kR:=bg fZ
 have i0:f0 0=.agg #[.slice aC aD aB,sL aw U av,sL ay fo ax]:=ha 0 bj
 have i1:f0 1=I lv:=ha 1 bj
 have lk:bJ ((U.length:Nat):Int) (ct U fo)=true:=pD fo aj
 refine az<|k<|bx H1 J i0 ?_
 intro aW w0 bW (H2:HI M w w0 [box aW #[.slice aC aD aB,sL aw U av,sL ay fo ax] 47,J1,J0])
 let J2:=box aW #[.slice aC aD aB,sL aw U av,sL ay fo ax] 47
 refine k<|al H2 vI ?_
 intro ba w1 df (H3:HI M w w1 [box ba #[I 0,I 0,.slice none 0 0,.slice none 0 0,.slice none 0 0] 30,J2,J1,J0])
 let J3:=box ba #[I 0,I 0,.slice none 0 0,.slice none 0 0,.slice none 0 0] 30
 refine ak (v:=I 0) J J<|bw<|k<|cB H3 1 J dQ J J au J<|ai J i1<|k ?_
 have H4:HI M w w1 ([J0,J1]++[J3,J2]):=H3.bV [3,2,0,1] au J
 have bR:=Rz (aC:=aC) (aD:=aD) (aB:=aB) (aw:=aw) (av:=av) (U:=U) (ay:=ay) (ax:=ax) (fo:=fo) (lv:=lv) (w:=w) (w_:=w1) (r:=[J3,J2]) (M:=M) pz hT (by exact ho) (by exact dy) (by exact eB) (by exact fL) (by exact Mt) (by exact YC) H4
 refine ca ajK J (ec J<|ec J e0) bR ?_
 rintro _ w2 ⟨bI,a0,c0,rfl,H5⟩
 let J4:=box bI #[.slice aC aD aB,sL aw U av,sL ay fo ax,I ((U.length:Nat):Int),sL a0 (ct U fo) c0] 107
 let J5:=iL a0 (ct U fo) c0
 let bc:=[J4,J5,J0,J1,J3,J2]
 have H6:HI M w w2 bc:=H5
 refine ai (v:=.tuple #[pV bI 0,I 0]) J J<|k<|xt J J J<|k<|xt J J J<|ak (v:=pV bI 0) J J<|ak (v:=I 0) J J<|aq<|sq<|az<|ai (v:=I 0) J J<|k<|neq J J J J<|aq<|pk J J au<|sk<|cO<|ai J i1<|ai (v:=pV bI 0) J J<|k<|nc J J<|aQ uK J J<|k<|cB H6 0 J bm J J au J<|k<|bd (v:=.agg #[I lv,I ((U.length:Nat):Int),sL a0 (ct U fo) c0,.slice none 0 0,.slice none 0 0]) J (ck J<|ck J ew) (fun _=>aS)<|k<|al H6 vI ?_
 intro fm w3 eS (H7:HI M w w3 (box fm #[I 0,I 0,.slice none 0 0,.slice none 0 0,.slice none 0 0] 30::bc))
 refine k<|bu H7 0 J vI J J J J J J J ?_
 let J6:=box fm #[I lv,I ((U.length:Nat):Int),sL a0 (ct U fo) c0,.slice none 0 0,.slice none 0 0] 30
 intro w4 (H8:HI M w w4 (J6::bc))
 refine aq<|sq<|az<|ai J i1<|k<|eql J J J J<|z<|nx<|cd (b:=decide (lv=2)) J J (fun b0=>?_)<|fun b0=>?_
 ·
  have p0:=dT b0
  refine sq<|my [.r,.r,.r,.r,.r,.r,.r,.r,.s,.n,.e,.s] (fun _=>True) J aS (fun _ _=>trivial)<|yq J J<|kq (fun _ x_=>cB (H8.ext x_) 6 J dQ J J au J e1)<|bO<|kq (fun _ _=>mv (v:=pV bI 0) J J e1)<|bO<|kq (fun _ _=>nc J J e1)<|bO<|kq (fun _ _=>fa uK J J e1)<|bO<|kq (fun _ x_=>cB (H8.ext x_) 1 J bm J J au J e1)<|zq<|yu J (fun N v w'=>∃(o0:Int) (o1:List (List bp)) (o2:Int) (a1:OA) (c1:Nat),v=.tuple #[.agg #[I o0,sL a1 o1 c1],I o2]∧bJ o0 o1=true∧aK o0∧aK o2∧RV (MN H8.fg N) w' (sL a1 o1 c1) o1) J ⟨by rintro _ _ _ _ x_ ⟨o0,o1,o2,a1,c1,e_,q0,q1,q2,ee⟩;exact⟨o0,o1,o2,a1,c1,e_,q0,q1,q2,ee.lift (Up.ext x_)⟩,by rintro _ _ _ _ _ k_ ⟨o0,o1,o2,a1,c1,e_,q0,q1,q2,ee⟩;exact⟨o0,o1,o2,a1,c1,e_,q0,q1,q2,ij ee k_⟩⟩ J (fun v_ _ x_ n_=>have fU:=Xc (U:=U) (fo:=fo) (mn:=((U.length:Nat):Int)) (mr:=(ct U fo)) (aC:=aC) (aD:=aD) (aB:=aB) (w:=v_) (kO H8.mb x_ n_) (hT.ext (H8.below.trans x_)) (ku (H8.rv 3 J) x_ n_) (ku (H8.rv 4 J) x_ n_) aR (ku (H8.rv 2 J) x_ n_) (by exact ho) (by exact dy) (by exact eB) (by exact fL) (by rfl) (by rfl);ca ajJ rfl (ec J<|ec J e0) fU (fun _ w6 ⟨o3,o4,o5,a2,c2,e_,jg,eb,q3,q4,q5⟩=>⟨_,J,jg,⟨o3,o4,o5,a2,c2,e_,q3,q4,q5,eb⟩⟩))<|lJ J (fun N v w'=>∃(o6:Int) (o7:List (List bp)) (o8:Int) (a3:OA) (c3:Nat),v=.tuple #[.agg #[I o6,sL a3 o7 c3],I o8]∧bJ o6 o7=true∧aK o6∧aK o8∧RV (MN H8.fg N) w' (sL a3 o7 c3) o7) 0 J J ⟨by rintro _ _ _ _ x_ ⟨o6,o7,o8,a3,c3,e_,q6,q7,q8,fh⟩;exact⟨o6,o7,o8,a3,c3,e_,q6,q7,q8,fh.lift (Up.ext x_)⟩,by rintro _ _ _ _ _ k_ ⟨o6,o7,o8,a3,c3,e_,q6,q7,q8,fh⟩;exact⟨o6,o7,o8,a3,c3,e_,q6,q7,q8,ij fh k_⟩⟩ J (fun _ _ _ _ _ h_=>let ⟨o9,kN,fe,a4,c4,s0,q9,uZ,xn,jd⟩:=h_;mv rfl s0 ⟨_,J,Ext.refl _,⟨o9,kN,fe,a4,c4,J,q9,uZ,xn,jd⟩⟩)<|lJ J (fun N v w'=>∃(j3:Int) (yC:List (List bp)) (a5:OA) (c5:Nat),v=.agg #[I j3,sL a5 yC c5]∧bJ j3 yC=true∧aK j3∧RV (MN H8.fg N) w' (sL a5 yC c5) yC) 0 J J ⟨by rintro _ _ _ _ x_ ⟨j3,yC,a5,c5,e_,Ev,uY,jX⟩;exact⟨j3,yC,a5,c5,e_,Ev,uY,jX.lift (Up.ext x_)⟩,by rintro _ _ _ _ _ k_ ⟨j3,yC,a5,c5,e_,Ev,uY,jX⟩;exact⟨j3,yC,a5,c5,e_,Ev,uY,ij jX k_⟩⟩ J (fun _ _ _ _ _ h_=>let ⟨Jr,o16,GQ,a6,c6,s1,CF,CE,yt,iU⟩:=h_;xt rfl s1 rfl ⟨_,J,Ext.refl _,⟨Jr,o16,a6,c6,J,CF,CE,iU⟩⟩)<|lJ J (fun _ v _=>∃(o20:Int),v=I o20∧aK o20) 1 J J mE J (fun _ _ _ _ _ h_=>let ⟨o21,o22,X4,a8,c8,s2,Eu,q22,LK,nV⟩:=h_;xt rfl s2 rfl ⟨_,J,Ext.refl _,⟨X4,J,LK⟩⟩)<|yn (z:=#[I 0,.slice none 0 0]) J J (fun _=>PY bm)<|ye<|lJ J (fun _ v _=>∃(mO:Int),v=I mO∧aK mO) 1 J J mE J (fun _ _ _ _ _ h_=>let ⟨LW,s3,q25⟩:=h_;jM rfl s3 ⟨_,J,Ext.refl _,⟨LW,J,q25⟩⟩)<|yz ?_
  intro w7 f0 _ jr _ _ cC iT
  obtain⟨AJ,s4,C',sN,BW⟩:=iT 1 _ _ rfl
  have pK:=PJ (z:=#[I 0,.slice none 0 0]) (T:=26) C' sN BW<|PK
  have cL:HI M w w7 (box AJ #[I 0,.slice none 0 0] 26::J6::bc):=H8.D4 jr pK<|O2 O1 O3
  have s5:=cC 2 J
  have s6:=cC 4 J
  have s7:=cC 8 J
  obtain⟨sE,tT,a9,c9,s8,q26,q27,pg⟩:=iT 3 _ _ rfl
  let J7:=iL a9 tT c9
  have cH:=cL.put (it:=J7) J<|se pg pK
  refine kc<|bu cH 1 J bm J J s4 s8 J J J ?_
  let J8:=box AJ #[I sE,sL a9 tT c9] 26
  let bX:=J7::J8::J6::bc
  intro w8 (dV:HI M w w8 bX)
  refine kz<|cO<|aQ fE J s5<|bo dV 8 J jh J J J<|k<|dL J J jA<|k<|mk (m:=U.length) (zx:=(0:Int)) dV J J J J cM aU (fun _ _=>⟨J,by unfold aK;omega⟩) aj aj ?_
  intro g0 w9 kr (dA:HI M w w9 (own w.heap.size 3 (.slice (some ⟨g0,0,none⟩) U.length U.length) (List.replicate U.length (0:Int))::bX))
  refine ak (v:=sL (some ⟨g0,0,none⟩) U U.length) J J<|aq<|sq<|az<|ai (v:=sL (some ⟨g0,0,none⟩) U U.length) J J<|k<|dL J J cM<|ai (v:=I 0) J J<|aq<|bk ?_
  let dM:=[J5,J0,J1,J3,J2]
  refine lp (fun m f w'=>∃(j_:Nat) (nT:aA),m=U.length-j_∧f 4=pV ba 0∧f 8=pV fm 0∧f 9=pV AJ 0∧f 11=sL (some ⟨g0,0,none⟩) U U.length∧f 46=I (U.length:Int)∧f 47=I (j_:Int)∧HI M w w' (own w.heap.size 3 (.slice (some ⟨g0,0,none⟩) U.length U.length) nT::J7::J8::box fm #[I lv,I ((U.length:Nat):Int),sL a0 (ct U fo) c0,.slice none 0 0,.slice none 0 0] 30::box bI #[.slice aC aD aB,sL aw U av,sL ay fo ax,I ((U.length:Nat):Int),sL a0 (ct U fo) c0] 107::dM)∧(j_≤U.length)∧(nT.length=U.length)) _ ⟨0,(List.replicate U.length 0),J,s6,s7,s4,J,J,(bH J),dA,aj,(by exact oz ..)⟩ ?_
  rintro _ f1 dP ⟨j_,nT,rfl,s9,ej,eX,fA,fD,gi,cT,pj,acX⟩
  refine az<|k<|lss J J gi fD<|aq<|sq<|cd (b:=decide ((j_:Int)<(U.length:Int))) J J (fun b1=>?_)<|fun b1=>?_
  ·
   have p1:=dT b1
   refine sk<|nx<|sq<|bk<|az<|ai J gi<|ak (v:=I (j_:Int)) J J<|aq<|rg<|ai J fA<|ai (v:=I (j_:Int)) J J<|ai (v:=I (j_:Int)) J J<|k<|iz (cT.at_ 0 J) J J J J aj cM aU ?_
   intro g1 x0 iE aM cw
   refine k<|qj cT 0 J iE J aj aU J J J J (RV.int.2 ⟨J,aR⟩) ?_
   intro ey (dX:HI M w ey (own w.heap.size 3 (.slice (some ⟨g0,0,none⟩) U.length U.length) (nT.set ((j_:Int).toNat) (j_:Int))::bX))
   refine z<|aF<|nx<|rg<|k<|add J J gi J aR<|ai (v:=I ((j_:Int)+1)) J J<|z<|bF _ ?_ ⟨(j_+1),(nT.set ((j_:Int).toNat) (j_:Int)),J,s9,ej,eX,fA,fD,(bH J),dX,aj,(by rw[an1];exact acX)⟩
   omega
  refine ex<|aT<|aY<|bf<|cO<|k<|cB cT 2 J bm J eX au J<|ai J fA<|k ?_
  have Ub:(U.length:Nat)=nT.length:=LP<|cT.at_ 0 J
  have dX:HI M w dP (oL w 3 (some ⟨g0,0,none⟩) nT U.length::bX):=by simpa +zetaDelta only[oL,sL,Ub] using cT
  have dI:=dX.freeze 0 J
  have fb:=yj (mn:=sE) (mr:=tT) (nd:=nT) dI.mb (hT.ext dI.below) bt (dI.rv 1 J) (dI.rv 0 J) bt aj
  refine ca Re J (ec J<|ec (Eq.trans (b:=(.slice (some ⟨g0,0,none⟩) U.length U.length:Value)) rfl (an0 (fun n_=>Value.slice (some ⟨g0,0,none⟩) n_ U.length) Ub)) e0) fb ?_
  rintro _ ey ⟨jv,ju,rfl,lX,qd⟩
  have cG:=cT.eP<|bl.anyM qd
  refine ai (v:=.tuple #[sL jv ((dB sE tT nT).1) ju,I ((dB sE tT nT).2)]) J J<|k<|xt J J J<|k<|xt J J J<|aQ aeF J ej<|k<|bu cG 4 J qD J J J J J J J ?_
  let J9:=own w.heap.size 3 (.slice (some ⟨g0,0,none⟩) U.length U.length) nT
  let dZ:=box fm #[I lv,I ((U.length:Nat):Int),sL a0 (ct U fo) c0,sL jv ((dB sE tT nT).1) ju,.slice none 0 0] 30
  intro fq (d_:HI M w fq (oL w 3 jv ((dB sE tT nT).1) ju::J9::J7::J8::dZ::bc))
  refine bw<|k<|cB d_ 4 J vI J ej au J<|k<|bu d_ 9 J vI J J s9 J J J J ?_
  intro iQ (dD:HI M w iQ [oL w 3 jv ((dB sE tT nT).1) ju,J9,J7,J8,dZ,J4,J5,J0,J1,box ba #[I lv,I ((U.length:Nat):Int),sL a0 (ct U fo) c0,sL jv ((dB sE tT nT).1) ju,.slice none 0 0] 30,J2])
  refine ak (v:=I 0) J J<|aq<|rt<|aL<|iy dD 9 J vI J J J s9 J au ?_
  have e2:(ct U fo:List (List bp))=(ct U fo):=rfl
  have e3:((dB sE tT nT).1:aA)=((dB sE tT nT).1):=rfl
  have bq:=nG (fun (gF:List (List bp)) (lL:aA)=>(.tuple #[.agg #[I lv,I ((U.length:Nat):Int),.slice a0 gF.length c0,.slice jv lL.length ju,.slice none ([]:List aA).length 0],I 0]:Value)) e2 e3
  exact⟨((U.length:Nat):Int),(ct U fo),((dB sE tT nT).1),([]:List aA),a0,c0,jv,ju,none,0,bq,dD.below,(an0 (fun (x_:List (List bp))=>RV _ _ (.slice a0 x_.length c0) x_) e2).mp (dD.fl 6 J),(an0 (fun (x_:aA)=>RV _ _ (.slice jv x_.length ju) x_) e3).mp (dD.mD 0 J),(eo _ _)⟩
 have p0:=dF b0
 refine sk<|nx<|sq<|az<|aQ fE J J<|bo H8 6 J jh J J J<|k<|dL J J jA<|ai (v:=I 0) J J<|aq<|bk ?_
 have H9:=H8.qf aA 27
 let iO:=[J5,J0,J1,J3,J2]
 refine lp (fun m f w'=>∃(j_:Nat) (vW:List aA) (a1:OA) (c1:Nat),m=U.length-j_∧f 1=I lv∧f 4=pV ba 0∧f 6=pV bI 0∧f 8=pV fm 0∧f 65=I (U.length:Int)∧f 66=I (j_:Int)∧HI M w w' (oL w 27 a1 vW c1::box fm #[I lv,I ((U.length:Nat):Int),sL a0 (ct U fo) c0,.slice none 0 0,sL a1 vW c1] 30::box bI #[.slice aC aD aB,sL aw U av,sL ay fo ax,I ((U.length:Nat):Int),sL a0 (ct U fo) c0] 107::iO)∧(j_≤U.length)∧(vW.length≤j_)) _ ⟨0,([]:List aA),none,0,J,i1,J,J,J,J,(bH J),H9,aj,(by exact an3 _)⟩ ?_
 rintro _ f0 w5 ⟨j_,vW,a1,c1,rfl,s0,s1,s2,s3,s4,s5,dE,pj,Iz⟩
 refine az<|k<|lss J J s5 s4<|aq<|sq<|cd (b:=decide ((j_:Int)<(U.length:Int))) J J (fun b1=>?_)<|fun b1=>?_
 ·
  have p1:=dT b1
  refine sk<|nx<|sq<|bk<|az<|ai J s5<|ak (v:=I (j_:Int)) J J<|z<|nx<|my [.r,.r,.r,.r,.r,.r,.r,.e,.f,.e] (fun _=>True) J aS (fun _ _=>trivial)<|yq J J<|kq (fun _ _=>fa T4 J s3 e1)<|bO<|kq (fun _ x_=>lx (dE.ext x_) 1 J abv J J J e1)<|bO<|kq (fun _ _=>mv J s2 e1)<|bO<|kq (fun _ _=>mv (v:=I (j_:Int)) J J e1)<|bO<|kq (fun _ _=>mv J s0 e1)<|zq<|yu J (fun _ v w'=>∃(o0:aA) (a2:OA) (c2:Nat),v=sL a2 o0 c2∧o0.length≤300000∧RV (fun c_=>c_<w5.heap.size) w' (sL a2 o0 c2) o0) J (mN<|by rintro _ _ _ x_ ⟨o0,a2,c2,e_,q0,ee⟩;exact⟨o0,a2,c2,e_,q0,ee.lift (Up.ext x_)⟩) J (fun v_ _ x_ _=>have fU:=Xf (U:=U) (fo:=fo) (cn:=((U.length:Nat):Int)) (cr:=(ct U fo)) (o:=(j_:Int)) (lv:=lv) (w:=v_) (M:=fun _=>False) (fun _ h_=>h_.elim) (hT.ext (dE.ext x_).below) (((dE.ext x_).rv 4 rfl).lift (Up.less fun _ _ h_=>h_.elim)) (((dE.ext x_).rv 5 rfl).lift (Up.less fun _ _ h_=>h_.elim)) aR (((dE.ext x_).rv 3 rfl).lift (Up.less fun _ _ h_=>h_.elim)) aR pz ⟨(dE.ext x_).at_ 2 rfl,fun h_=>h_⟩ (by exact ho) (by exact dy) (by exact eB) (by exact fL) (by rfl) (by rfl) aj;ca ajI rfl (ec J<|ec J<|ec J e0) fU (fun _ w7 ⟨o1,a3,c3,e_,jg,eb,q1⟩=>⟨_,J,jg,⟨o1,a3,c3,e_,q1,(bl.rvN eb x_)⟩⟩))<|lJ J (fun _ v w'=>∃(o2:aA) (a5:OA) (c5:Nat),v=sL a5 ([o2]:List aA) c5∧o2.length≤300000∧RV dE.fg w' (sL a5 ([o2]:List aA) c5) ([o2]:List aA)) 0 J J (mN<|by rintro _ _ _ x_ ⟨o2,a5,c5,e_,q2,jX⟩;exact⟨o2,a5,c5,e_,q2,jX.lift (Up.ext x_)⟩) J (fun v_ N_ u_ x_ n_ h_=>?_) ?_
  ·
   have cG:=dE.ext x_
   obtain⟨o3,a6,c6,s6,q3,iU⟩:=h_
   have d_:=cG.put (it:=iL a6 o3 c6) J<|Lz iU dE
   refine bs (xs:=([o3]:List aA)) (cells:=#[sL a6 o3 c6]) (e:=27) d_ J (ck s6 ew) (fun _=>aS) ⟨[sL a6 o3 c6],[],J,⟨_,J,RV.list.1 (d_.rv 0 J)⟩,J⟩ J au ?_
   intro g1 w9 kr (dD:HI M w w9 (own w.heap.size 27 (.slice (some ⟨g1,0,none⟩) 1 1) ([o3]:List aA)::iL a6 o3 c6::oL w 27 a1 vW c1::box fm #[I lv,I ((U.length:Nat):Int),sL a0 (ct U fo) c0,.slice none 0 0,sL a1 vW c1] 30::bc))
   have eR:=dD.freeze 0 J
   exact⟨_,J,kr,⟨o3,(some ⟨g1,0,none⟩),1,J,q3,(l4 J<|l4 J<|eR.rv 0 J)⟩⟩
  refine ye<|yf J (fun _ _=>fa T4 J s3 e3)<|ye<|yz ?_
  intro dP f1 _ lX _ _ cC iT
  have eW:=dE.ext lX
  have s7:=(cC 1 J).trans s0
  have s8:=(cC 4 J).trans s1
  have s9:=(cC 6 J).trans s2
  have ej:=(cC 8 J).trans s3
  have eX:=(cC 65 J).trans s4
  have fA:=(cC 66 J).trans s5
  have fD:=cC 70 J
  obtain⟨o4,a7,c7,gi,q4,kW⟩:=iT 0 _ _ rfl
  let eL:=iL a7 ([o4]:List aA) c7
  have gW:=eW.put (it:=eL) J kW
  have gS:=cC 77 J
  refine kc<|lV gW 1 J J J J fD gi (gW.rv 0 J).src ais qD J (by simp only[iS,gA];omega) J ?_
  intro a8 c8 ey (jf:HI M w ey (eL::oL w 27 a8 (vW++([o4]:List aA)) c8::box fm #[I lv,I ((U.length:Nat):Int),sL a0 (ct U fo) c0,.slice none 0 0,sL a1 vW c1] 30::bc))
  refine kc<|bu jf 2 J abv J J gS J J J J ?_
  let gf:=box fm #[I lv,I ((U.length:Nat):Int),sL a0 (ct U fo) c0,.slice none 0 0,sL a8 (vW++([o4]:List aA)) c8] 30
  let fj:=oL w 27 a8 (vW++([o4]:List aA)) c8::gf::bc
  intro fq (jC:HI M w fq (eL::fj))
  refine kz<|aF<|nx<|rg<|k<|add J J fA J aR<|ai (v:=I ((j_:Int)+1)) J J<|z ?_
  have nu:=jC.put (it:=J5) J<|jC.rv 4 J
  have jm:HI M w fq fj:=nu.bV [2,3,4,0,6,7,8,9] au J
  refine bF _ ?_ ⟨(j_+1),(vW++([o4]:List aA)),a8,c8,J,s7,s8,s9,ej,eX,(bH J),jm,aj,(by rw[fJ,iS,gA];omega)⟩
  omega
 refine ex<|aT<|aY<|bf<|cO<|k<|cB dE 1 J vI J s3 au J<|k<|bu dE 6 J vI J J s1 J J J J ?_
 intro w6 (cV:HI M w w6 [oL w 27 a1 vW c1,box fm #[I lv,I ((U.length:Nat):Int),sL a0 (ct U fo) c0,.slice none 0 0,sL a1 vW c1] 30,J4,J5,J0,J1,box ba #[I lv,I ((U.length:Nat):Int),sL a0 (ct U fo) c0,.slice none 0 0,sL a1 vW c1] 30,J2])
 refine ak (v:=I 0) J J<|aq<|rt<|iy cV 6 J vI J J J s1 J au ?_
 have e2:(ct U fo:List (List bp))=(ct U fo):=rfl
 have bq:=iF (fun (gF:List (List bp))=>(.tuple #[.agg #[I lv,I ((U.length:Nat):Int),.slice a0 gF.length c0,.slice none ([]:aA).length 0,.slice a1 vW.length c1],I 0]:Value)) e2
 exact⟨((U.length:Nat):Int),(ct U fo),([]:aA),vW,a0,c0,none,0,a1,c1,bq,cV.below,(an0 (fun (x_:List (List bp))=>RV _ _ (.slice a0 x_.length c0) x_) e2).mp (cV.fl 3 J),(eo _ _),(cV.mD 0 J)⟩
theorem EV (pz:aK lv):Calls aI 21 #[I lv] w (cm fun v w'=>v=.bool (decide (0<(((dS lv).length:Nat):Int)))∧Ext w w'):=by
 refine dx 7 Tryz.func21 J J J qk fun f0 ha H=>?_
 have i0:f0 0=I lv:=ha 0 bj
 refine az<|ak (v:=.bool false) J J<|bw<|ai J i0<|k ?_
 have bR:=Kc (lv:=lv) (w:=w) H.mb pz
 refine ca aes J (ec J e0) bR ?_
 rintro _ w0 ⟨a0,c0,rfl,bW,cu⟩
 have H0:=H.eP cu
 refine k<|dL J J cM<|k<|gtr J J J J<|ak (v:=.bool (decide (0<((dS lv).length:Int)))) J J<|aq<|rt<|r1 J J ?_
 exact⟨an0 Value.bool (show (decide (0<((dS lv).length:Int)))=(decide (0<(((dS lv).length:Nat):Int))) from rfl),H0.below⟩
theorem KA:ep aI 101 2 true 16 (.agg #[.int .i64 0,.int .i64 0]):=⟨aS,aS⟩
theorem afI:P1 aI 101 [some (0,0),some (1,0)]:=⟨aS,aS,aS,aS⟩
theorem acy:I1 aI 99:=Wc (by kernel_rfl:aI.underlying 99=some (.map 101 3)) (zr afI) aU
theorem afA:aI.underlying 134=some (.array 2 3):=aS
theorem ag2:Va aI 134:=arF afA zU aS aS aS
theorem X7:I1 aI 132:=Wc (by kernel_rfl:aI.underlying 132=some (.map 134 3)) (QP ag2) aU
theorem ajM:cx aI 52:=cF Tryz.func52
theorem M4 (hM:eJ M w) (dC:cA M w aw av U):Calls aI 27 #[.agg #[.slice aC aD aB,sL aw U av,.slice ay eZ ax]] w (cm fun v w'=>v=.tuple #[I ((da U).1),I ((da U).2.1),I ((da U).2.2)]∧Ext w w'):=by
 refine dx 46 Tryz.func27 J J J hM fun f0 ha H=>?_
 let J0:=iL aw U av
 have H0:=H.put (it:=J0) J<|by rw[bP];exact dC
 have ja:=bg dC
 have i0:f0 0=.agg #[.slice aC aD aB,sL aw U av,.slice ay eZ ax]:=ha 0 bj
 refine az<|k<|bx H0 J i0 ?_
 intro aW w0 bW (H1:HI M w w0 [box aW #[.slice aC aD aB,sL aw U av,.slice ay eZ ax] 47,J0])
 let J1:=box aW #[.slice aC aD aB,sL aw U av,.slice ay eZ ax] 47
 refine ak (v:=I 0) J J<|ak (v:=I 0) J J<|ak (v:=I 0) J J<|bw<|k<|mm H1 ?_
 intro dK w1 df (H2:HI M w w1 [cb dK ([]:KV),J1,J0])
 refine ak (v:=.map (some dK)) J J<|aq<|sq<|az<|aQ fE J J<|bo H2 1 J jh J J J<|k<|dL J J jA<|ai (v:=I 0) J J<|aq<|bk<|lp (fun m f w'=>∃(j:Nat) (jY:KV),m=U.length-j∧f 5=.map (some dK)∧f 13=sL aw U av∧f 14=I (U.length:Int)∧f 15=I (j:Int)∧HI M w w' [cb dK jY,J1,J0]∧(j≤U.length)∧(∀k,k<j→nN U k=false)∧(tO U j jY)) _ ⟨0,([]:KV),J,J,J,J,(bH J),H2,aj,(by intro k hk;omega),(by exact HA _)⟩ ?_
 rintro _ f0 w2 ⟨j,jY,rfl,s0,s1,s2,s3,H3,hk,hs,hm⟩
 refine az<|k<|lss J J s3 s2<|aq<|sq<|cd (b:=decide ((j:Int)<(U.length:Int))) J J (fun b0=>?_)<|fun b0=>?_
 ·
  have p0:=dT b0
  refine sk<|nx<|sq<|bk<|az<|ai J s3<|k<|ia (H3.rv 2 J) J J s1 s3 aj jA jE ?_
  intro iG x0 aM cw
  refine k<|nz cw.w jE J J ?_
  intro v0 cu
  obtain⟨_,⟨_,_,rfl,⟨rfl,ee⟩,⟨_,_,rfl,⟨rfl,eb⟩,⟨_,_,rfl,rfl,⟨_,_,rfl,⟨rfl,fh⟩,⟨rfl,jd⟩⟩⟩⟩⟩,rfl⟩:=cu
  refine k<|al H3 jE ?_
  let bc:=[cb dK jY,J1,J0]
  intro ba w3 eS (H4:HI M w w3 (box ba #[I 0,I 0,.bool false,I 0,I 0] 95::bc))
  refine ak (v:=I (j:Int)) J J<|k<|bu H4 0 J jE J J J J J J J ?_
  let J2:=box ba #[I x0.1,I x0.2.1,.bool x0.2.2.1,I x0.2.2.2.1,I x0.2.2.2.2] 95
  intro w4 (H5:HI M w w4 (J2::bc))
  refine aq<|sq<|az<|aQ vq J J<|bo H5 0 J pe J J J<|k<|j4 J J<|z<|nx<|cd (b:=!x0.2.2.1) J J (fun b1=>?_)<|fun b1=>?_
  ·
   refine ex<|aT<|bf<|nx<|rg<|k<|add J J s3 J aR<|ai (v:=I ((j:Int)+1)) J J<|z ?_
   have H6:HI M w w4 bc:=H5.bV [1,2,3] au J
   refine bF _ ?_ ⟨(j+1),jY,J,s0,s1,s2,(bH J),H6,aj,(by exact BE hs aM (Nh<|by simpa using b1)),(by exact EO hm aM (by simpa using b1))⟩
   omega
  refine sk<|nx<|sq<|az<|aQ rQ J J<|bo H5 0 J aU J J J<|k<|eql J J J J<|z<|nx<|cd (b:=decide (x0.2.2.2.2=0)) J J (fun b2=>?_)<|fun b2=>?_
  ·
   have p2:=dT b2
   refine az<|ai (v:=I (j:Int)) J J<|ai (v:=I (j:Int)) J J<|ak (v:=I (j:Int)) J J<|ak (v:=I (j:Int)) J J<|ak (v:=I 5) J J<|aq<|rt<|aL<|bS<|aL<|dY<|bS<|aL<|r3 J J J J ?_
   have e0:((j:Int):Int)=(da U).1:=by exact(an0 (fun z_:Int×Int×Int=>z_.1)<|uM hs aM (by simpa using b1) p2).symm
   have e1:((j:Int):Int)=(da U).2.1:=by exact(an0 (fun z_:Int×Int×Int=>z_.2.1)<|uM hs aM (by simpa using b1) p2).symm
   have e2:(5:Int)=(da U).2.2:=by exact(an0 (fun z_:Int×Int×Int=>z_.2.2)<|uM hs aM (by simpa using b1) p2).symm
   have bq:=qX (fun (b9:Int) (dO:Int) (gF:Int)=>(.tuple #[I b9,I dO,I gF]:Value)) e0 e1 e2
   exact⟨bq,H5.below⟩
  have p2:=dF b2
  refine sk<|cO<|aQ tC J J<|bo H5 0 J aU J J J<|aQ rQ J J<|bo H5 0 J aU J J J<|k<|bd (v:=.agg #[I x0.2.2.2.1,I x0.2.2.2.2]) J (ck J<|ck J ew) (fun _=>aS)<|k<|al H5 KA ?_
  intro bI w5 fH (H6:HI M w w5 (box bI #[I 0,I 0] 101::J2::bc))
  refine k<|bu H6 0 J KA J J J J J J J ?_
  intro w6 (H7:HI M w w6 (box bI #[I x0.2.2.2.1,I x0.2.2.2.2] 101::J2::bc))
  refine aq<|sq<|az<|ai J s0<|k<|cB H7 0 J KA J J au J<|k<|X9 (k:=(x0.2.2.2.1,x0.2.2.2.2)) acy H7 2 J J J J J ?_
  intro jX
  refine ai (v:=.tuple #[I ((getM jY (x0.2.2.2.1,x0.2.2.2.2)).getD 0),.bool ((getM jY (x0.2.2.2.1,x0.2.2.2.2)).isSome)]) J J<|k<|xt J J J<|k<|xt J J J<|ak (v:=I ((getM jY (x0.2.2.2.1,x0.2.2.2.2)).getD 0)) J J<|ak (v:=.bool ((getM jY (x0.2.2.2.1,x0.2.2.2.2)).isSome)) J J<|bw<|ai (v:=.bool ((getM jY (x0.2.2.2.1,x0.2.2.2.2)).isSome)) J J<|z<|nx<|cd (b:=(getM jY (x0.2.2.2.1,x0.2.2.2.2)).isSome) J J (fun b3=>?_)<|fun b3=>?_
  ·
   refine az<|ai (v:=I ((getM jY (x0.2.2.2.1,x0.2.2.2.2)).getD 0)) J J<|ai (v:=I (j:Int)) J J<|ak (v:=I ((getM jY (x0.2.2.2.1,x0.2.2.2.2)).getD 0)) J J<|ak (v:=I (j:Int)) J J<|ak (v:=I 4) J J<|aq<|rt<|aL<|bS<|aL<|dY<|bS<|aL<|r3 J J J J ?_
   have e0:((getM jY (x0.2.2.2.1,x0.2.2.2.2)).getD 0:Int)=(da U).1:=by exact(A1 hm aM b3).1.trans (an0 (fun z_:Int×Int×Int=>z_.1)<|sR hs aM (by simpa using b1) p2 (A1 hm aM b3).2).symm
   have e1:((j:Int):Int)=(da U).2.1:=by exact(an0 (fun z_:Int×Int×Int=>z_.2.1)<|sR hs aM (by simpa using b1) p2 (A1 hm aM b3).2).symm
   have e2:(4:Int)=(da U).2.2:=by exact(an0 (fun z_:Int×Int×Int=>z_.2.2)<|sR hs aM (by simpa using b1) p2 (A1 hm aM b3).2).symm
   have bq:=qX (fun (b9:Int) (dO:Int) (gF:Int)=>(.tuple #[I b9,I dO,I gF]:Value)) e0 e1 e2
   exact⟨bq,H7.below⟩
  refine sk<|nx<|rg<|ai J s0<|k<|cB H7 0 J KA J J au J<|ai (v:=I (j:Int)) J J<|k<|X5 (k:=(x0.2.2.2.1,x0.2.2.2.2)) acy H7 2 J J J J J J J aR ?_
  let J3:=cb dK (jx jY (x0.2.2.2.1,x0.2.2.2.2) (j:Int))
  intro w7 (H8:HI M w w7 [box bI #[I x0.2.2.2.1,I x0.2.2.2.2] 101,J2,J3,J1,J0])
  refine z<|aF<|nx<|rg<|k<|add J J s3 J aR<|ai (v:=I ((j:Int)+1)) J J<|z ?_
  have H9:HI M w w7 [J3,J1,J0]:=H8.bV [2,3,4] au J
  refine bF _ ?_ ⟨(j+1),(jx jY (x0.2.2.2.1,x0.2.2.2.2) (j:Int)),J,s0,s1,s2,(bH J),H9,aj,(by exact BE hs aM (Ni p2<|by rw[(OE hm aM (by simpa using b1) b3).2];omega)),(by exact Hz hm aM (by simpa using b1) (OE hm aM (by simpa using b1) b3).1)⟩
  omega
 have p0:=dF b0
 refine ex<|aT<|aY<|bf<|cO<|ak (v:=I 0) J J<|ak (v:=I 0) J J<|ak (v:=I 0) J J<|aq<|rt<|r3 J J J J ?_
 have e0:(0:Int)=(da U).1:=by exact(an0 (fun z_:Int×Int×Int=>z_.1)<|uN hs aj).symm
 have e1:(0:Int)=(da U).2.1:=by exact(an0 (fun z_:Int×Int×Int=>z_.2.1)<|uN hs aj).symm
 have e2:(0:Int)=(da U).2.2:=by exact(an0 (fun z_:Int×Int×Int=>z_.2.2)<|uN hs aj).symm
 have bq:=qX (fun (b9:Int) (dO:Int) (gF:Int)=>(.tuple #[I b9,I dO,I gF]:Value)) e0 e1 e2
 exact⟨bq,H3.below⟩
theorem N3 (hM:eJ M w) (dC:cA M w aw av U) (dy:U.length≤4096):Calls aI 52 #[.agg #[.slice aC aD aB,sL aw U av,.slice ay eZ ax]] w (cm fun v w'=>∃(a0:OA) (c0:Nat),v=.slice a0 (gK U).length c0∧Ext w w'∧bl M 3 w (gK U) (.slice a0 (gK U).length c0) w'):=by
 refine dx 76 Tryz.func52 J J J hM fun f0 ha H=>?_
 let J0:=iL aw U av
 have H0:=H.put (it:=J0) J<|by rw[bP];exact dC
 have ja:=bg dC
 have i0:f0 0=.agg #[.slice aC aD aB,sL aw U av,.slice ay eZ ax]:=ha 0 bj
 refine az<|k<|bx H0 J i0 ?_
 intro aW w0 bW (H1:HI M w w0 [box aW #[.slice aC aD aB,sL aw U av,.slice ay eZ ax] 47,J0])
 let J1:=box aW #[.slice aC aD aB,sL aw U av,.slice ay eZ ax] 47
 refine ak (v:=.slice none 0 0) J J<|bw<|k<|mm H1 ?_
 let bc:=[J1,J0]
 intro dK w1 df (H2:HI M w w1 (cb dK ([]:KV)::bc))
 refine ak (v:=.map (some dK)) J J<|aq<|sq<|az<|aQ fE J J<|bo H2 1 J jh J J J<|k<|dL J J jA<|ai (v:=I 0) J J<|aq<|bk<|lp (fun m f w'=>∃(j:Nat) (jY:KV),m=U.length-j∧f 1=pV aW 0∧f 3=.map (some dK)∧f 13=sL aw U av∧f 14=I (U.length:Int)∧f 15=I (j:Int)∧HI M w w' (cb dK jY::bc)∧(j≤U.length)∧(jY=uQ U j)) _ ⟨0,([]:KV),J,J,J,J,J,(bH J),H2,aj,(by rfl)⟩ ?_
 rintro _ f0 w2 ⟨j,jY,rfl,s0,s1,s2,s3,s4,H3,hk,hm⟩
 refine az<|k<|lss J J s4 s3<|aq<|sq<|cd (b:=decide ((j:Int)<(U.length:Int))) J J (fun b0=>?_)<|fun b0=>?_
 ·
  have p0:=dT b0
  refine sk<|nx<|sq<|bk<|az<|ai J s4<|k<|ia (H3.rv 2 J) J J s2 s4 aj jA jE ?_
  intro iG x0 aM cw
  refine k<|nz cw.w jE J J ?_
  intro v0 cu
  obtain⟨_,⟨_,_,rfl,⟨rfl,ee⟩,⟨_,_,rfl,⟨rfl,eb⟩,⟨_,_,rfl,rfl,⟨_,_,rfl,⟨rfl,fh⟩,⟨rfl,jd⟩⟩⟩⟩⟩,rfl⟩:=cu
  refine k<|al H3 jE ?_
  intro ba w3 eS (H4:HI M w w3 [box ba #[I 0,I 0,.bool false,I 0,I 0] 95,cb dK jY,J1,J0])
  refine ak (v:=I (j:Int)) J J<|k<|bu H4 0 J jE J J J J J J J ?_
  let J2:=box ba #[I x0.1,I x0.2.1,.bool x0.2.2.1,I x0.2.2.2.1,I x0.2.2.2.2] 95
  intro w4 (H5:HI M w w4 [J2,cb dK jY,J1,J0])
  refine bw<|aQ vq J J<|bo H5 0 J pe J J J<|z<|nx<|cd (b:=x0.2.2.1) J J (fun b1=>?_)<|fun b1=>?_
  ·
   refine rg<|ai J s1<|aQ tC J J<|bo H5 0 J aU J J J<|aQ rQ J J<|bo H5 0 J aU J J J<|k<|bd (v:=.agg #[I x0.2.2.2.1,I x0.2.2.2.2]) J (ck J<|ck J ew) (fun _=>aS)<|ai (v:=I (j:Int)) J J<|k<|X5 (k:=(x0.2.2.2.1,x0.2.2.2.2)) X7 H5 1 J J J J J J J aR ?_
   let J3:=cb dK (jx jY (x0.2.2.2.1,x0.2.2.2.2) (j:Int))
   intro w5 (H6:HI M w w5 [J2,J3,J1,J0])
   refine z<|aF<|nx<|rg<|k<|add J J s4 J aR<|ai (v:=I ((j:Int)+1)) J J<|z ?_
   have H7:HI M w w5 (J3::bc):=H6.bV [1,2,3] au J
   refine bF _ ?_ ⟨(j+1),(jx jY (x0.2.2.2.1,x0.2.2.2.2) (j:Int)),J,s0,s1,s2,s3,(bH J),H7,aj,(by rw[hm];first|exact zp aM b1|exact Bn aM b1)⟩
   omega
  refine sk<|aF<|nx<|rg<|k<|add J J s4 J aR<|ai (v:=I ((j:Int)+1)) J J<|z ?_
  have H6:HI M w w4 (cb dK jY::bc):=H5.bV [1,2,3] au J
  refine bF _ ?_ ⟨(j+1),jY,J,s0,s1,s2,s3,(bH J),H6,aj,(by rw[hm];first|exact zp aM b1|exact Bn aM b1)⟩
  omega
 have p0:=dF b0
 refine ex<|aT<|aY<|bf<|cO<|aQ fE J s0<|bo H3 1 J jh J J J<|k<|dL J J jA<|k<|mk (m:=U.length) (zx:=(0:Int)) H3 J J J J cM aU (fun _ _=>⟨J,by unfold aK;omega⟩) aj aj ?_
 let J4:=cb dK jY
 let bX:=J4::bc
 intro g0 w3 eS (H4:HI M w w3 (own w.heap.size 3 (.slice (some ⟨g0,0,none⟩) U.length U.length) (List.replicate U.length (0:Int))::bX))
 refine ak (v:=sL (some ⟨g0,0,none⟩) U U.length) J J<|aq<|sq<|az<|aQ fE J s0<|bo H4 2 J jh J J J<|k<|dL J J jA<|ai (v:=I 0) J J<|aq<|bk<|lp (fun m f w'=>∃(q:Nat) (xs:aA),m=U.length-q∧f 3=.map (some dK)∧f 6=sL (some ⟨g0,0,none⟩) U U.length∧f 35=sL aw U av∧f 36=I (U.length:Int)∧f 37=I (q:Int)∧HI M w w' (own w.heap.size 3 (.slice (some ⟨g0,0,none⟩) U.length U.length) xs::bX)∧(q≤U.length)∧(xs.length=U.length)∧(xs=Dg jY U q)) _ ⟨0,(List.replicate U.length (0:Int)),J,s1,J,J,J,(bH J),H4,aj,bj,(by exact TY _ _)⟩ ?_
 rintro _ f1 w4 ⟨q,xs,rfl,s5,s6,s7,s8,s9,H5,sI,hl,hs⟩
 refine az<|k<|lss J J s9 s8<|aq<|sq<|cd (b:=decide ((q:Int)<(U.length:Int))) J J (fun b1=>?_)<|fun b1=>?_
 ·
  have p1:=dT b1
  refine sk<|nx<|sq<|bk<|az<|ai J s9<|k<|ia (H5.rv 3 J) J J s7 s9 aj jA jE ?_
  intro iG x0 aM cw
  refine k<|nz cw.w jE J J ?_
  intro v0 cu
  obtain⟨_,⟨_,_,rfl,⟨rfl,ee⟩,⟨_,_,rfl,⟨rfl,eb⟩,⟨_,_,rfl,rfl,⟨_,_,rfl,⟨rfl,fh⟩,⟨rfl,jd⟩⟩⟩⟩⟩,rfl⟩:=cu
  refine k<|al H5 jE ?_
  let J5:=own w.heap.size 3 (.slice (some ⟨g0,0,none⟩) U.length U.length) xs
  intro ba w5 fH (H6:HI M w w5 (box ba #[I 0,I 0,.bool false,I 0,I 0] 95::J5::bX))
  refine ak (v:=I (q:Int)) J J<|k<|bu H6 0 J jE J J J J J J J ?_
  let J6:=box ba #[I x0.1,I x0.2.1,.bool x0.2.2.1,I x0.2.2.2.1,I x0.2.2.2.2] 95
  intro w6 (H7:HI M w w6 (J6::J5::bX))
  refine bw<|ai J s5<|aQ tC J J<|bo H7 0 J aU J J J<|aQ rQ J J<|bo H7 0 J aU J J J<|k<|bd (v:=.agg #[I x0.2.2.2.1,I x0.2.2.2.2]) J (ck J<|ck J ew) (fun _=>aS)<|k<|X9 (k:=(x0.2.2.2.1,x0.2.2.2.2)) X7 H7 2 J J J J J ?_
  intro jX
  refine ai (v:=.tuple #[I ((getM jY (x0.2.2.2.1,x0.2.2.2.2)).getD 0),.bool ((getM jY (x0.2.2.2.1,x0.2.2.2.2)).isSome)]) J J<|k<|xt J J J<|k<|xt J J J<|ak (v:=I ((getM jY (x0.2.2.2.1,x0.2.2.2.2)).getD 0)) J J<|ak (v:=.bool ((getM jY (x0.2.2.2.1,x0.2.2.2.2)).isSome)) J J<|aq<|bk<|az<|aQ vq J J<|bo H7 0 J pe J J J<|ak (v:=.bool x0.2.2.1) J J<|z<|nx<|cd (b:=x0.2.2.1) J J (fun b2=>?_)<|fun b2=>?_
  ·
   refine rg<|ai J s6<|ai (v:=I (q:Int)) J J<|k<|iz (H7.at_ 1 J) J J J J aj cM aU ?_
   intro g1 x1 iE cQ gN
   refine k<|qj H7 1 J iE J aj aU J J J J (RV.int.2 ⟨J,aR⟩) ?_
   let J7:=own w.heap.size 3 (.slice (some ⟨g0,0,none⟩) U.length U.length) (xs.set ((q:Int).toNat) (-3))
   intro w7 (H8:HI M w w7 (J6::J7::bX))
   refine z<|aF<|aF<|nx<|rg<|k<|add J J s9 J aR<|ai (v:=I ((q:Int)+1)) J J<|z ?_
   have H9:HI M w w7 (J7::bX):=H8.bV [1,2,3,4] au J
   refine bF _ ?_ ⟨(q+1),(xs.set ((q:Int).toNat) (-3)),J,s5,s6,s7,s8,(bH J),H9,aj,(by simpa using hl),(by rw[hs];first|exact jU aM (KO b2)|exact jU aM (KR b2 p3)|exact jU aM (KP b2 p3 b4)|exact jU aM (KQ b2 p3 b4))⟩
   omega
  refine az<|aQ rQ J J<|bo H7 0 J aU J J J<|k<|eql J J J J<|ak (v:=.bool (decide (x0.2.2.2.2=0))) J J<|z<|nx<|cd (b:=decide (x0.2.2.2.2=0)) J J (fun b3=>?_)<|fun b3=>?_
  ·
   have p3:=dT b3
   refine rg<|ai J s6<|ai (v:=I (q:Int)) J J<|k<|iz (H7.at_ 1 J) J J J J aj cM aU ?_
   intro g1 x1 iE cQ gN
   refine k<|qj H7 1 J iE J aj aU J J J J (RV.int.2 ⟨J,aR⟩) ?_
   let J8:=own w.heap.size 3 (.slice (some ⟨g0,0,none⟩) U.length U.length) (xs.set ((q:Int).toNat) (-1))
   intro w7 (H8:HI M w w7 (J6::J8::bX))
   refine z<|aF<|aF<|nx<|rg<|k<|add J J s9 J aR<|ai (v:=I ((q:Int)+1)) J J<|z ?_
   have H9:HI M w w7 (J8::bX):=H8.bV [1,2,3,4] au J
   refine bF _ ?_ ⟨(q+1),(xs.set ((q:Int).toNat) (-1)),J,s5,s6,s7,s8,(bH J),H9,aj,(by simpa using hl),(by rw[hs];first|exact jU aM (KO b2)|exact jU aM (KR b2 p3)|exact jU aM (KP b2 p3 b4)|exact jU aM (KQ b2 p3 b4))⟩
   omega
  have p3:=dF b3
  refine az<|ai (v:=.bool ((getM jY (x0.2.2.2.1,x0.2.2.2.2)).isSome)) J J<|ak (v:=.bool ((getM jY (x0.2.2.2.1,x0.2.2.2.2)).isSome)) J J<|z<|nx<|cd (b:=(getM jY (x0.2.2.2.1,x0.2.2.2.2)).isSome) J J (fun b4=>?_)<|fun b4=>?_
  ·
   refine rg<|ai J s6<|ai (v:=I (q:Int)) J J<|ai (v:=I ((getM jY (x0.2.2.2.1,x0.2.2.2.2)).getD 0)) J J<|k<|iz (H7.at_ 1 J) J J J J aj cM aU ?_
   intro g1 x1 iE cQ gN
   refine k<|qj H7 1 J iE J aj aU J J J J (RV.int.2 ⟨J,aR⟩) ?_
   let J9:=own w.heap.size 3 (.slice (some ⟨g0,0,none⟩) U.length U.length) (xs.set ((q:Int).toNat) ((getM jY (x0.2.2.2.1,x0.2.2.2.2)).getD 0))
   intro w7 (H8:HI M w w7 (J6::J9::bX))
   refine z<|aF<|aF<|nx<|rg<|k<|add J J s9 J aR<|ai (v:=I ((q:Int)+1)) J J<|z ?_
   have H9:HI M w w7 (J9::bX):=H8.bV [1,2,3,4] au J
   refine bF _ ?_ ⟨(q+1),(xs.set ((q:Int).toNat) ((getM jY (x0.2.2.2.1,x0.2.2.2.2)).getD 0)),J,s5,s6,s7,s8,(bH J),H9,aj,(by simpa using hl),(by rw[hs];first|exact jU aM (KO b2)|exact jU aM (KR b2 p3)|exact jU aM (KP b2 p3 b4)|exact jU aM (KQ b2 p3 b4))⟩
   omega
  refine rg<|ai J s6<|ai (v:=I (q:Int)) J J<|k<|iz (H7.at_ 1 J) J J J J aj cM aU ?_
  intro g1 x1 iE cQ gN
  refine k<|qj H7 1 J iE J aj aU J J J J (RV.int.2 ⟨J,aR⟩) ?_
  let dZ:=own w.heap.size 3 (.slice (some ⟨g0,0,none⟩) U.length U.length) (xs.set ((q:Int).toNat) (-2))
  intro w7 (H8:HI M w w7 (J6::dZ::bX))
  refine z<|aF<|aF<|nx<|rg<|k<|add J J s9 J aR<|ai (v:=I ((q:Int)+1)) J J<|z ?_
  have H9:HI M w w7 (dZ::bX):=H8.bV [1,2,3,4] au J
  refine bF _ ?_ ⟨(q+1),(xs.set ((q:Int).toNat) (-2)),J,s5,s6,s7,s8,(bH J),H9,aj,(by simpa using hl),(by rw[hs];first|exact jU aM (KO b2)|exact jU aM (KR b2 p3)|exact jU aM (KP b2 p3 b4)|exact jU aM (KQ b2 p3 b4))⟩
  omega
 have p1:=dF b1
 refine ex<|aT<|aY<|bf<|cO<|ai J s6<|ak (v:=sL (some ⟨g0,0,none⟩) U U.length) J J<|aq<|rt<|r1 J J ?_
 have e0:(xs:aA)=gK U:=by rw[hs,hm];unfold gK;rw[WW aj,show j=U.length from by omega]
 have l0:U.length=(gK U).length:=by rw[←e0];omega
 have bq:=iF (fun (u6:Nat)=>(.slice (some ⟨g0,0,none⟩) u6 U.length:Value)) l0
 exact⟨(some ⟨g0,0,none⟩),U.length,bq,H5.below,(an0 (fun (n_:Nat)=>bl _ _ _ (gK U) (.slice (some ⟨g0,0,none⟩) n_ U.length) _) l0).mp ((an0 (fun (x_:aA)=>bl _ _ _ x_ (.slice (some ⟨g0,0,none⟩) U.length U.length) _) e0).mp (H5.dt 0 J))⟩
theorem N4 (hM:eJ M w) (WD:cA M w aC aB fv) (dC:cA M w aw av U) (fZ:cA M w ay ax fo) (dy:U.length≤4096):Calls aI 28 #[.agg #[sL aC fv aB,sL aw U av,sL ay fo ax]] w (cm fun v w'=>∃(a0:OA) (c0:Nat) (a1:OA) (c1:Nat) (a2:OA) (c2:Nat),v=.agg #[sL a0 fv c0,sL a1 U c1,.slice a2 (gK U).length c2]∧Ext w w'∧cA M w' a0 c0 fv∧cA M w' a1 c1 U∧RV M w' (.slice a2 (gK U).length c2) (gK U)):=by
 refine dx 7 Tryz.func28 J J J hM fun f0 ha H=>?_
 let J0:=iL aC fv aB
 have H0:=H.put (it:=J0) J<|by rw[bP];exact WD
 let J1:=iL aw U av
 have H1:=H0.put (it:=J1) J<|by rw[aH rfl,bP];exact dC
 let J2:=iL ay fo ax
 have H2:=H1.put (it:=J2) J<|by rw[aH rfl,aH rfl,bP];exact fZ
 have i0:f0 0=.agg #[sL aC fv aB,sL aw U av,sL ay fo ax]:=ha 0 bj
 refine az<|k<|bx H2 J i0 ?_
 intro aW w0 bW (H3:HI M w w0 [box aW #[sL aC fv aB,sL aw U av,sL ay fo ax] 47,J2,J1,J0])
 refine k<|al H3 dQ ?_
 intro ba w1 df (H4:HI M w w1 [box ba #[.slice none 0 0,.slice none 0 0,.slice none 0 0] 47,box aW #[sL aC fv aB,sL aw U av,sL ay fo ax] 47,J2,J1,J0])
 refine bw<|k<|cB H4 1 J dQ J J au J<|k ?_
 have bR:=N3 (U:=U) (aC:=aC) (aD:=fv.length) (aB:=aB) (ay:=ay) (eZ:=fo.length) (ax:=ax) H4.mb (H4.rv 3 J) bt
 refine ca ajM J (ec J e0) bR ?_
 rintro _ w2 ⟨a0,c0,rfl,eS,cu⟩
 have H5:=H4.eP cu
 refine aQ tF J J<|k<|bu H5 2 J qD J J J J J J J ?_
 let J3:=box aW #[sL aC fv aB,sL aw U av,sL a0 (gK U) c0] 47
 intro w3 (H6:HI M w w3 [oL w 3 a0 (gK U) c0,box ba #[.slice none 0 0,.slice none 0 0,.slice none 0 0] 47,J3,J2,J1,J0])
 refine bw<|k<|cB H6 2 J dQ J J au J<|k<|bu H6 1 J dQ J J J J J J J ?_
 intro w4 (H7:HI M w w4 [oL w 3 a0 (gK U) c0,box ba #[sL aC fv aB,sL aw U av,sL a0 (gK U) c0] 47,J3,J2,J1,J0])
 refine aq<|rt<|ph H7 1 J dQ J J J J au ?_
 exact⟨aC,aB,aw,av,a0,c0,J,H7.below,(H7.fl 5 J),(H7.fl 4 J),(H7.mD 0 J)⟩
theorem Y5:cx aI 114:=cF Tryz.func114
theorem ajE:cx aI 77:=cF Tryz.func77
theorem agE:cx aI 113:=cF Tryz.func113
theorem agn:cx aI 146:=cF Tryz.func146
theorem agF:cx aI 112:=cF Tryz.func112
theorem ajH:cx aI 74:=cF Tryz.func74
theorem ajF:cx aI 76:=cF Tryz.func76
theorem ajG:cx aI 75:=cF Tryz.func75
set_option maxRecDepth 100000 in
set_option maxHeartbeats 1600000 in
def CV:Go.Shelf.Ren:=⟨fun|160=>114|232=>148|231=>147|227=>149|234=>151|233=>150|236=>153|235=>152|228=>172|271=>175|151=>174|197=>173|120=>188|152=>187|260=>186|137=>192|119=>193|224=>194|225=>195|217=>196|266=>197|n=>n,fun|9=>9|4=>4|3=>3|5=>5|117=>200|116=>199|0=>0|124=>203|21=>21|105=>220|46=>152|119=>244|139=>247|138=>246|n=>n,fun|3=>1|4=>2|n=>n⟩
theorem L_:Go.Proofs.Lays.n160 aI CV:={
  mixed:=aS
  f119:=Tryz.func193.trans (an0 some aS)
  f120:=Tryz.func188.trans (an0 some aS)
  f137:=Tryz.func192.trans (an0 some aS)
  f151:=Tryz.func174.trans (an0 some aS)
  f152:=Tryz.func187.trans (an0 some aS)
  f160:=Tryz.func114.trans (an0 some aS)
  f197:=Tryz.func173.trans (an0 some aS)
  f217:=Tryz.func196.trans (an0 some aS)
  f224:=Tryz.func194.trans (an0 some aS)
  f225:=Tryz.func195.trans (an0 some aS)
  f227:=Tryz.func149.trans (an0 some aS)
  f228:=Tryz.func172.trans (an0 some aS)
  f231:=Tryz.func147.trans (an0 some aS)
  f232:=Tryz.func148.trans (an0 some aS)
  f233:=Tryz.func150.trans (an0 some aS)
  f234:=Tryz.func151.trans (an0 some aS)
  f235:=Tryz.func152.trans (an0 some aS)
  f236:=Tryz.func153.trans (an0 some aS)
  f260:=Tryz.func186.trans (an0 some aS)
  f266:=Tryz.func197.trans (an0 some aS)
  f271:=Tryz.func175.trans (an0 some aS)
  t0:=Tryz.underlying0
  a0:=Tryz.isAgg0
  z0:=Tryz.sizeOf0
  v0:=Tryz.zeroValue0
  t3:=Tryz.underlying3
  a3:=Tryz.isAgg3
  z3:=Tryz.sizeOf3
  v3:=Tryz.zeroValue3
  t4:=Tryz.underlying4
  a4:=Tryz.isAgg4
  z4:=Tryz.sizeOf4
  v4:=Tryz.zeroValue4
  t5:=Tryz.underlying5
  a5:=Tryz.isAgg5
  z5:=Tryz.sizeOf5
  v5:=Tryz.zeroValue5
  t9:=Tryz.underlying9
  a9:=Tryz.isAgg9
  z9:=Tryz.sizeOf9
  v9:=Tryz.zeroValue9
  t21:=Tryz.underlying21
  a21:=Tryz.isAgg21
  z21:=Tryz.sizeOf21
  v21:=Tryz.zeroValue21
  t46:=Tryz.underlying152
  a46:=Tryz.isAgg152
  z46:=Tryz.sizeOf152
  v46:=Tryz.zeroValue152
  t105:=Tryz.underlying220
  a105:=Tryz.isAgg220
  z105:=Tryz.sizeOf220
  v105:=Tryz.zeroValue220
  t116:=Tryz.underlying199
  a116:=Tryz.isAgg199
  z116:=Tryz.sizeOf199
  t117:=Tryz.underlying200
  a117:=Tryz.isAgg200
  z117:=Tryz.sizeOf200
  v117:=Tryz.zeroValue200
  t119:=Tryz.underlying244
  a119:=Tryz.isAgg244
  z119:=Tryz.sizeOf244
  t124:=Tryz.underlying203
  a124:=Tryz.isAgg203
  z124:=Tryz.sizeOf203
  v124:=Tryz.zeroValue203
  t138:=Tryz.underlying246
  a138:=Tryz.isAgg246
  z138:=Tryz.sizeOf246
  v138:=Tryz.zeroValue246
  t139:=Tryz.underlying247
  a139:=Tryz.isAgg247
  z139:=Tryz.sizeOf247
  v139:=Tryz.zeroValue247
  g3:=aS
  g4:=by kernel_rfl}
theorem Cn (ll:s.size≤maxLen) (ajo:cs.size≤maxLen) (FZ:RM cs):Calls aI 114 #[.string s,.string cs] w (cm fun v w'=>v=.string (trimB s cs)∧Ext w w'):=by
  have MJ:(aI.info? (CV.t 116)).map (fun i=>(i.zero,i.size))=some (some (.agg (Array.replicate 256 (.bool false))),256):=aS
  by_cases h0:s.size=0
  · refine(Go.Proofs.Any.strings_Trim_empty L_ s cs w<|.inl h0).mono ?_
    rintro e w' ⟨rfl,rfl⟩
    unfold cm
    refine⟨_,J,?_,Ext.refl _⟩
    have hs:s.data.toList=[]:=by rw[←ao5,aoM];exact h0
    unfold trimB
    rw[hs]
    refine an0 Value.string ?_
    cases s with|mk a=>exact an0 ByteArray.mk (apK h0)
  · refine(Go.Proofs.Any.strings_Trim_set L_ (zero_of_info MJ).1 (zero_of_info MJ).2 s cs w FZ.two aj ll FZ.low FZ.asc).mono ?_
    rintro e w' ⟨rfl,q,rfl⟩
    unfold cm
    exact⟨_,J,J,((Ext.alloc w _).trans (Ext.alloc _ _)).trans (T_ _ q)⟩
set_option maxRecDepth 100000 in
set_option maxHeartbeats 1600000 in
def xA:Go.Shelf.Ren:=⟨fun|161=>144|231=>147|227=>149|233=>150|235=>152|228=>172|197=>173|151=>174|260=>186|152=>187|137=>192|119=>193|224=>194|225=>195|217=>196|266=>197|n=>n,fun|9=>9|4=>4|3=>3|5=>5|117=>200|116=>199|0=>0|124=>203|105=>220|21=>21|119=>244|46=>152|139=>247|138=>246|n=>n,fun|3=>1|4=>2|n=>n⟩
theorem CW:Go.Proofs.Lays.n161 aI xA:={
  mixed:=aS
  f119:=Tryz.func193.trans (an0 some aS)
  f137:=Tryz.func192.trans (an0 some aS)
  f151:=Tryz.func174.trans (an0 some aS)
  f152:=Tryz.func187.trans (an0 some aS)
  f161:=Tryz.func144.trans (an0 some aS)
  f197:=Tryz.func173.trans (an0 some aS)
  f217:=Tryz.func196.trans (an0 some aS)
  f224:=Tryz.func194.trans (an0 some aS)
  f225:=Tryz.func195.trans (an0 some aS)
  f227:=Tryz.func149.trans (an0 some aS)
  f228:=Tryz.func172.trans (an0 some aS)
  f231:=Tryz.func147.trans (an0 some aS)
  f233:=Tryz.func150.trans (an0 some aS)
  f235:=Tryz.func152.trans (an0 some aS)
  f260:=Tryz.func186.trans (an0 some aS)
  f266:=Tryz.func197.trans (an0 some aS)
  t0:=Tryz.underlying0
  a0:=Tryz.isAgg0
  z0:=Tryz.sizeOf0
  v0:=Tryz.zeroValue0
  t3:=Tryz.underlying3
  a3:=Tryz.isAgg3
  z3:=Tryz.sizeOf3
  v3:=Tryz.zeroValue3
  t4:=Tryz.underlying4
  a4:=Tryz.isAgg4
  z4:=Tryz.sizeOf4
  v4:=Tryz.zeroValue4
  t5:=Tryz.underlying5
  a5:=Tryz.isAgg5
  z5:=Tryz.sizeOf5
  v5:=Tryz.zeroValue5
  t9:=Tryz.underlying9
  a9:=Tryz.isAgg9
  z9:=Tryz.sizeOf9
  v9:=Tryz.zeroValue9
  t21:=Tryz.underlying21
  a21:=Tryz.isAgg21
  z21:=Tryz.sizeOf21
  v21:=Tryz.zeroValue21
  t46:=Tryz.underlying152
  a46:=Tryz.isAgg152
  z46:=Tryz.sizeOf152
  v46:=Tryz.zeroValue152
  t105:=Tryz.underlying220
  a105:=Tryz.isAgg220
  z105:=Tryz.sizeOf220
  v105:=Tryz.zeroValue220
  t116:=Tryz.underlying199
  a116:=Tryz.isAgg199
  z116:=Tryz.sizeOf199
  t117:=Tryz.underlying200
  a117:=Tryz.isAgg200
  z117:=Tryz.sizeOf200
  v117:=Tryz.zeroValue200
  t119:=Tryz.underlying244
  a119:=Tryz.isAgg244
  z119:=Tryz.sizeOf244
  t124:=Tryz.underlying203
  a124:=Tryz.isAgg203
  z124:=Tryz.sizeOf203
  v124:=Tryz.zeroValue203
  t138:=Tryz.underlying246
  a138:=Tryz.isAgg246
  z138:=Tryz.sizeOf246
  v138:=Tryz.zeroValue246
  t139:=Tryz.underlying247
  a139:=Tryz.isAgg247
  z139:=Tryz.sizeOf247
  v139:=Tryz.zeroValue247
  g3:=aS
  g4:=by kernel_rfl}
theorem Fk (ll:s.size≤maxLen) (ajo:cs.size≤maxLen) (FZ:RM cs):Calls aI 144 #[.string s,.string cs] w (cm fun v w'=>v=.string (Ck s cs)∧Ext w w'):=by
  have MJ:(aI.info? (xA.t 116)).map (fun i=>(i.zero,i.size))=some (some (.agg (Array.replicate 256 (.bool false))),256):=aS
  by_cases h0:s.size=0
  · refine(Go.Proofs.Any.strings_TrimLeft_empty CW s cs w<|.inl h0).mono ?_
    rintro e w' ⟨rfl,rfl⟩
    unfold cm
    refine⟨_,J,?_,Ext.refl _⟩
    have hs:s.data.toList=[]:=by rw[←ao5,aoM];exact h0
    unfold Ck
    rw[hs]
    refine an0 Value.string ?_
    cases s with|mk a=>exact an0 ByteArray.mk (apK h0)
  · refine(Go.Proofs.Any.strings_TrimLeft_set CW (zero_of_info MJ).1 (zero_of_info MJ).2 s cs w FZ.two aj FZ.low FZ.asc).mono ?_
    rintro e w' ⟨rfl,rfl⟩
    unfold cm
    exact⟨_,J,J,(Ext.alloc w _).trans (Ext.alloc _ _)⟩
theorem Q3 (ll:s.size≤maxLen):Calls aI 77 #[.string s] w (cm fun v w'=>v=.bool (gT s)∧Ext w w'):=by
 refine dx 15 Tryz.func77 J J J qk fun f0 ha H=>?_
 have i0:f0 0=.string s:=ha 0 bj
 refine az<|ak (v:=.bool false) J J<|bw<|ai J i0<|k<|neS J J J J<|ai (v:=.bool (!decide (s=⟨#[]⟩))) J J ?_
 rcases bE (!decide (s=⟨#[]⟩)) with b0|b0
 ·
  have p0:=dF<|fX b0
  refine aZ J J J b0<|mv J i0<|aZ J J J b0<|vZ J J lY<|aZ J J J b0<|leq J J J J<|k<|aP J J J J b0 J<|ai (v:=.bool (decide ((s.size:Int)≤8))) J J ?_
  rcases bE (decide ((s.size:Int)≤8)) with b1|b1
  ·
   refine aZ J J J b1<|mv J i0<|aZ J J J b1 ?_
   have bR:=Cn (s:=s) (cs:=⟨#[97,98,99,100,101,102,103,104,105,106,107,108,109,110,111,112,113,114,115,116,117,118,119,120,121,122]⟩) (w:=w) bt au<|by exact Oh
   refine ca Y5 J (ec J<|ec J e0) bR ?_
   rintro _ w0 ⟨rfl,bW⟩
   have H0:=H.ext bW
   refine aZ J J J b1<|Y' J J J J<|k<|aP J J J J b1 J<|ak (v:=.bool (decide (trimB s ⟨#[97,98,99,100,101,102,103,104,105,106,107,108,109,110,111,112,113,114,115,116,117,118,119,120,121,122]⟩=⟨#[]⟩))) J J<|aq<|rt<|r1 J J ?_
   exact⟨an0 Value.bool (by rw[FH];simp only[(fX b0),b1,BL]),H0.below⟩
  refine aX J J J b1<|aX J J J b1<|aX J J J b1<|k<|dG J J J J b1 J<|ak (v:=.bool false) J J<|aq<|rt<|r1 J J ?_
  exact⟨an0 Value.bool (by rw[FH];simp only[(fX b0),b1,BL]),H.below⟩
 have p0:=dT<|fw b0
 refine aX J J J b0<|aX J J J b0<|aX J J J b0<|k<|dG J J J J b0 J<|ai (v:=.bool false) J J<|aX J J J J<|aX J J J J<|aX J J J J<|k<|dG J J J J J J<|ak (v:=.bool false) J J<|aq<|rt<|r1 J J ?_
 exact⟨an0 Value.bool (by rw[FH];simp only[(fw b0),BL]),H.below⟩
theorem N9 {ow:Bool} {ov:bh} {on:Int} (anj:ov.size≤maxLen) (ank:aK on):Calls aI 76 #[.agg #[.bool ow,.string ov,I on]] w (cm fun v w'=>v=.bool (!(gT ov))∧Ext w w'):=by
 refine dx 7 Tryz.func76 J J J qk fun f0 ha H=>?_
 have i0:f0 0=.agg #[.bool ow,.string ov,I on]:=ha 0 bj
 refine az<|k<|bx H J i0 ?_
 intro aW w0 bW (H0:HI (fun _=>False) w w0 [box aW #[.bool ow,.string ov,I on] 43])
 refine ak (v:=.bool false) J J<|bw<|aQ mx J J<|bo H0 0 J nU J J J<|k ?_
 have bR:=Q3 (s:=ov) (w:=w0) bt
 refine ca ajE J (ec J e0) bR ?_
 rintro _ w1 ⟨rfl,df⟩
 have H1:=H0.ext df
 refine k<|j4 J J<|ak (v:=.bool (!(gT ov))) J J<|aq<|rt<|r1 J J ?_
 exact⟨an0 Value.bool (show (!(gT ov))=(!(gT ov)) from rfl),H1.below⟩
theorem Mg {r:List (Bool×bh×Int)} {p:(Bool×bh×Int)→Bool} (hM:eJ M w) (pL:cA M w jN jZ r) (Az:FP aI qv qA M w r p):Calls aI 113 #[sL jN r jZ,.func (.func qv) #[] qA.toArray] w (cm fun v w'=>v=I (eF p r)∧Ext w w'):=by
 refine dx 19 Tryz.func113 J J J hM fun f0 ha H=>?_
 have H0:=dR H pL
 have Wf:=bg pL
 have i0:f0 0=sL jN r jZ:=ha 0 bj
 have i1:f0 1=.func (.func qv) #[] qA.toArray:=ha 1 bj
 refine az<|ak (v:=I 0) J J<|aq<|sq<|az<|ai J i0<|k<|dL J J mY<|ai (v:=I 0) J J<|aq<|bk<|lp (fun m f w'=>∃(j:Nat),m=r.length-j∧f 0=sL jN r jZ∧f 1=.func (.func qv) #[] qA.toArray∧f 7=I (r.length:Int)∧f 8=I (j:Int)∧HI M w w' [iL jN r jZ]∧(j≤r.length)∧((r.take j).any p=false)) _ ⟨0,J,i0,i1,J,(bH J),H0,aj,bj⟩ ?_
 rintro _ f0 w0 ⟨j,rfl,s0,s1,s2,s3,H1,hk,hs⟩
 refine az<|k<|lss J J s3 s2<|aq<|sq<|cd (b:=decide ((j:Int)<(r.length:Int))) J J (fun b0=>?_)<|fun b0=>?_
 ·
  have p0:=dT b0
  refine sk<|nx<|sq<|bk<|az<|ai J s3<|ak (v:=I (j:Int)) J J<|bw<|ai J s1<|ai J s0<|ai (v:=I (j:Int)) J J<|k<|ia (H1.rv 0 J) J J J J aj mY ig ?_
  intro iG x0 aM cw
  refine k<|nz cw.w ig J J ?_
  intro v0 cu
  obtain⟨_,⟨_,_,rfl,rfl,⟨_,_,rfl,⟨rfl,ee⟩,⟨rfl,eb⟩⟩⟩,rfl⟩:=cu
  refine k<|cf Az.1 J J J (ec J e0) (Az.2 _ _ _ (by exact dz ‹_›) H1.below<|RV.lift (v:=.agg #[.bool x0.1,.string x0.2.1,I x0.2.2]) (x:=((x0.1,x0.2.1,x0.2.2):(Bool×bh×Int))) ⟨_,⟨_,_,J,J,⟨_,_,J,⟨J,aj⟩,⟨J,(show aK (x0.2.2) from aR)⟩⟩⟩,J⟩ H1.out) ?_
  rintro _ w1 ⟨rfl,bW⟩
  have H2:=H1.ext bW
  refine z<|nx<|cd (b:=p (x0.1,x0.2.1,x0.2.2)) J J (fun b1=>?_)<|fun b1=>?_
  ·
   refine az<|ai (v:=I (j:Int)) J J<|ak (v:=I (j:Int)) J J<|aq<|rt<|bS<|aL<|dY<|bS<|aL<|r1 J J ?_
   exact⟨an0 (Value.int .i64) (by exact uA aM hs b1),H2.below⟩
  refine sk<|aF<|nx<|rg<|k<|add J J s3 J aR<|ai (v:=I ((j:Int)+1)) J J<|z<|bF _ ?_ ⟨(j+1),J,s0,s1,s2,(bH J),H2,aj,(by exact pE aM hs b1)⟩
  omega
 have p0:=dF b0
 refine ex<|aT<|aY<|bf<|cO<|ak (v:=I (-1)) J J<|aq<|rt<|r1 J J ?_
 exact⟨an0 (Value.int .i64) (by exact ve hs aj),H1.below⟩
theorem HJ {r:List (Bool×bh×Int)} {p:(Bool×bh×Int)→Bool} (hM:eJ M w) (pL:cA M w jN jZ r) (Az:FP aI qv qA M w r p):Calls aI 75 #[sL jN r jZ,.func (.func qv) #[] qA.toArray] w (cm fun v w'=>v=.bool (r.any p)∧Ext w w'):=by
 refine dx 9 Tryz.func75 J J J hM fun f0 ha H=>?_
 have H0:=dR H pL
 have i0:f0 0=sL jN r jZ:=ha 0 bj
 have i1:f0 1=.func (.func qv) #[] qA.toArray:=ha 1 bj
 refine az<|ak (v:=.bool false) J J<|bw<|ai J i0<|ai J i1<|k ?_
 have bR:=Mg (r:=r) (p:=p) H0.mb (H0.rv 0 J)<|Az.sub H0.below U5
 refine ca agE J (ec J<|ec J e0) bR ?_
 rintro _ w0 ⟨rfl,bW⟩
 have H1:=H0.ext bW
 refine k<|geq J J J J<|ak (v:=.bool (decide (0≤(eF p r)))) J J<|aq<|rt<|r1 J J ?_
 exact⟨an0 Value.bool (by exact uB),H1.below⟩
set_option maxRecDepth 100000 in
set_option maxHeartbeats 1600000 in
def Ma:Go.Shelf.Ren:=⟨fun|4=>146|n=>n,fun|22=>40|25=>43|3=>3|4=>4|9=>9|20=>20|0=>0|n=>n,fun|n=>n⟩
theorem Mb:Go.Proofs.Lays8.n4 aI Ma:={
  mixed:=aS
  f4:=⟨Tryz.f146.name,by decide,Tryz.func146.trans (an0 some aS)⟩
  t0:=Tryz.underlying0
  a0:=Tryz.isAgg0
  z0:=Tryz.sizeOf0
  v0:=Tryz.zeroValue0
  t3:=Tryz.underlying3
  a3:=Tryz.isAgg3
  z3:=Tryz.sizeOf3
  v3:=Tryz.zeroValue3
  t4:=Tryz.underlying4
  a4:=Tryz.isAgg4
  z4:=Tryz.sizeOf4
  v4:=Tryz.zeroValue4
  t9:=Tryz.underlying9
  a9:=Tryz.isAgg9
  z9:=Tryz.sizeOf9
  v9:=Tryz.zeroValue9
  t20:=Tryz.underlying20
  a20:=Tryz.isAgg20
  z20:=Tryz.sizeOf20
  v20:=Tryz.zeroValue20
  t22:=Tryz.underlying40
  a22:=Tryz.isAgg40
  z22:=Tryz.sizeOf40
  v22:=Tryz.zeroValue40}
theorem aaH {XB:OA} {V6 Xi:Nat} {Lk:Int} (hM:eJ M w) (amJ:aK Lk) (BS:XB=none∧V6=0∧Xi=0) (amY:0≤Lk∧Lk≤1048576):Calls aI 146 #[.slice XB V6 Xi,I Lk] w (cm fun v w'=>∃(a0:OA) (c0:Nat),v=.slice a0 ([]:List (Bool×bh×Int)).length c0∧Ext w w'∧bl M 43 w ([]:List (Bool×bh×Int)) (.slice a0 ([]:List (Bool×bh×Int)).length c0) w'):=by
  obtain⟨rfl,rfl,rfl⟩:=BS
  obtain⟨m,rfl⟩:∃m:Nat,Lk=((m:Nat):Int):=⟨Lk.toNat,by omega⟩
  by_cases h0:m=0
  · subst h0
    refine(Go.Proofs.Any8.slices_Grow_room Mb none 0 0 0 w aj aj aj aj).mono ?_
    rintro e w' ⟨rfl,rfl⟩
    unfold cm
    exact⟨_,J,none,0,J,Ext.refl _,fQ (Ext.refl _)⟩
  · have t':(aI.info? 43).map (fun i=>(i.size,i.bytes,i.zero))=some (3,32,some (.agg #[.bool false,.string ⟨#[]⟩,.int .i64 0])):=aS
    obtain⟨i0,JM,sK⟩:=aop.1 t'
    simp only[aoI] at sK
    obtain⟨e1,e2,e3⟩:=sK
    refine(Go.Proofs.Any8.slices_Grow_grow Mb i0 (.agg #[.bool false,.string ⟨#[]⟩,.int .i64 0]) JM e3 aj none 0 0 m [] w aj aj (by rw[e2];omega) aj bj (fun _=>rfl)<|fun a h=>by cases h).mono ?_
    rintro e w' ⟨rfl,rfl⟩
    unfold cm
    exact⟨_,J,_,_,J,(Ext.drew w).trans (Ext.alloc _ _),TQ (z:=.agg #[.bool false,.string ⟨#[]⟩,.int .i64 0]) rfl aj⟩
theorem Um (hM:eJ M w) (l6:cA M w gb ga h) (mF:h.flatten.length≤1048576):Calls aI 112 #[sL gb h ga] w (cm fun v w'=>∃(a0:OA) (c0:Nat),v=.slice a0 h.flatten.length c0∧Ext w w'∧bl M 43 w h.flatten (.slice a0 h.flatten.length c0) w'):=by
 refine dx 36 Tryz.func112 J J J hM fun f0 ha H=>?_
 have H0:=dR H l6
 have Iw:=bg l6
 have i0:f0 0=sL gb h ga:=ha 0 bj
 refine az<|ak (v:=.slice none 0 0) J J<|bw<|ak (v:=I 0) J J<|aq<|sq<|az<|ai J i0<|k<|dL J J od<|ai (v:=I 0) J J<|aq<|bk<|lp (fun m f w'=>∃(j_:Nat),m=h.length-j_∧f 0=sL gb h ga∧f 3=I ((((h.take j_).flatten).length:Nat):Int)∧f 9=sL gb h ga∧f 10=I (h.length:Int)∧f 11=I (j_:Int)∧HI M w w' [iL gb h ga]∧(j_≤h.length)) _ ⟨0,J,i0,(bH J),J,J,(bH J),H0,aj⟩ ?_
 rintro _ f0 w0 ⟨j_,rfl,s0,s1,s2,s3,s4,H1,pj⟩
 refine az<|k<|lss J J s4 s3<|aq<|sq<|cd (b:=decide ((j_:Int)<(h.length:Int))) J J (fun b0=>?_)<|fun b0=>?_
 ·
  have p0:=dT b0
  refine sk<|nx<|sq<|bk<|az<|k<|ia (H1.rv 0 J) J J s2 s4 aj od rA ?_
  intro iG x0 aM cw
  refine k<|va cw.w rA J J ?_
  intro a0 c0 cu
  have Al:=bg cu
  have H2:=dR H1 cu
  refine ak (v:=sL a0 x0 c0) J J<|bw<|ai J s1<|ai (v:=sL a0 x0 c0) J J<|k<|dL J J mY<|k<|add J J J J (by have h_:=uJ aM;unfold aK at *;omega)<|ak (v:=I (((((h.take j_).flatten).length:Nat):Int)+(x0.length:Int))) J J<|bw<|ai (v:=I (((((h.take j_).flatten).length:Nat):Int)+(x0.length:Int))) J J<|k<|lss J J J J<|z<|nx ?_
  have BQ:(decide ((((((h.take j_).flatten).length:Nat):Int)+(x0.length:Int))<0))=false:=(by rw[aob];omega)
  refine pk J J BQ<|sk<|aF<|nx<|rg<|k<|add J J s4 J (by have h_:=uJ aM;unfold aK at *;omega)<|ai (v:=I ((j_:Int)+1)) J J<|z ?_
  have H3:HI M w w0 [iL gb h ga]:=H2.bV [1] au J
  refine bF _ ?_ ⟨(j_+1),J,s0,(ieq J<|by rw[vo aM,fJ];omega),s2,s3,(bH J),H3,aj⟩
  omega
 have p0:=dF b0
 refine ex<|aT<|aY<|bf<|cO<|ai J s1<|k ?_
 have bR:=aaH (Lk:=((((h.take j_).flatten).length:Nat):Int)) (XB:=none) (V6:=0) (Xi:=0) H1.mb (by have h_:=T1 h j_;unfold aK at *;omega) (by exact⟨J,J,J⟩)<|by rw[mg aj] at *;omega
 refine ca agn J (ec J<|ec J e0) bR ?_
 rintro _ w1 ⟨a0,c0,rfl,bW,cu⟩
 have H2:=H1.eP cu
 refine ak (v:=sL a0 ([]:List (Bool×bh×Int)) c0) J J<|aq<|sq<|az<|ai J s0<|k<|dL J J od<|ai (v:=I 0) J J<|aq<|bk<|lp (fun m f w'=>∃(i_:Nat) (nT:List (Bool×bh×Int)) (a1:OA) (c1:Nat),m=h.length-i_∧f 6=sL a1 nT c1∧f 25=sL gb h ga∧f 26=I (h.length:Int)∧f 27=I (i_:Int)∧HI M w w' [oL w 43 a1 nT c1,iL gb h ga]∧(i_≤h.length)∧(nT=(h.take i_).flatten)) _ ⟨0,([]:List (Bool×bh×Int)),a0,c0,J,J,J,J,(bH J),H2,aj,(by rfl)⟩ ?_
 rintro _ f1 w2 ⟨i_,nT,a1,c1,rfl,s5,s6,s7,s8,H3,pj,hs⟩
 refine az<|k<|lss J J s8 s7<|aq<|sq<|cd (b:=decide ((i_:Int)<(h.length:Int))) J J (fun b1=>?_)<|fun b1=>?_
 ·
  have p1:=dT b1
  refine sk<|nx<|sq<|bk<|az<|k<|ia (H3.rv 1 J) J J s6 s8 aj od rA ?_
  intro iG x0 aM cw
  refine k<|va cw.w rA J J ?_
  intro a2 c2 ee
  have Al:=bg ee
  have H4:=dR H3 ee
  refine ak (v:=sL a2 x0 c2) J J<|aq<|rg<|ai J s5<|ai (v:=sL a2 x0 c2) J J<|k<|lV H4 1 J J J J J J (H4.rv 0 J).src mY ig J (by have h_:=uJ aM;rw[hs];omega) J ?_
  intro a3 c3 w3 (H5:HI M w w3 [iL a2 x0 c2,oL w 43 a3 (nT++x0) c3,iL gb h ga])
  refine ak (v:=sL a3 (nT++x0) c3) J J<|z<|aF<|nx<|rg<|k<|add J J s8 J (by have h_:=uJ aM;unfold aK at *;omega)<|ai (v:=I ((i_:Int)+1)) J J<|z ?_
  have H6:HI M w w3 [oL w 43 a3 (nT++x0) c3,iL gb h ga]:=H5.bV [1,2] au J
  refine bF _ ?_ ⟨(i_+1),(nT++x0),a3,c3,J,J,s6,s7,(bH J),H6,aj,(by rw[hs,vo aM])⟩
  omega
 have p1:=dF b1
 refine ex<|aT<|aY<|bf<|cO<|ai J s5<|ak (v:=sL a1 nT c1) J J<|aq<|rt<|r1 J J ?_
 have e0:(nT:List (Bool×bh×Int))=h.flatten:=by rw[hs,mg aj]
 have bq:=iF (fun (b9:List (Bool×bh×Int))=>(.slice a1 b9.length c1:Value)) e0
 exact⟨a1,c1,bq,H3.below,(an0 (fun (x_:List (Bool×bh×Int))=>bl _ _ _ x_ (.slice a1 x_.length c1) _) e0).mp (H3.dt 0 J)⟩
theorem Tv (hM:eJ M w) (l6:cA M w gb ga h) (mF:h.flatten.length≤1048576):Calls aI 74 #[sL gb h ga] w (cm fun v w'=>∃(a0:OA) (c0:Nat),v=.slice a0 h.flatten.length c0∧Ext w w'∧bl M 43 w h.flatten (.slice a0 h.flatten.length c0) w'):=by
 refine dx 5 Tryz.func74 J J J hM fun f0 ha H=>?_
 have H0:=dR H l6
 have i0:f0 0=sL gb h ga:=ha 0 bj
 refine az<|ak (v:=.slice none 0 0) J J<|bw<|ai J i0<|k ?_
 have bR:=Um (h:=h) H0.mb (H0.rv 0 J)<|by exact mF
 refine ca agF J (ec J e0) bR ?_
 rintro _ w0 ⟨a0,c0,rfl,bW,cu⟩
 have H1:=H0.eP cu
 refine ak (v:=sL a0 h.flatten c0) J J<|aq<|rt<|r1 J J ?_
 exact⟨a0,c0,J,H1.below,(H1.dt 0 J)⟩
theorem Q4 (hM:eJ M w) (l6:cA M w gb ga h) (mF:h.flatten.length≤1048576):Calls aI 51 #[sL gb h ga] w (cm fun v w'=>v=.bool (iM h)∧Ext w w'):=by
 refine dx 14 Tryz.func51 J J J hM fun f0 ha H=>?_
 have H0:=dR H l6
 have i0:f0 0=sL gb h ga:=ha 0 bj
 refine az<|ak (v:=.bool false) J J<|bw<|ai J i0<|k ?_
 have bR:=Tv (h:=h) H0.mb (H0.rv 0 J)<|by exact mF
 refine ca ajH J (ec J e0) bR ?_
 rintro _ w0 ⟨a0,c0,rfl,bW,cu⟩
 have H1:=H0.eP cu
 refine ak (v:=sL a0 h.flatten c0) J J<|bw<|ai (v:=sL a0 h.flatten c0) J J<|k<|dL J J mY<|k<|leq J J J J<|ai (v:=.bool (decide ((h.flatten.length:Int)≤4096))) J J ?_
 rcases bE (decide ((h.flatten.length:Int)≤4096)) with b0|b0
 ·
  refine aZ J J J b0<|mv (v:=sL a0 h.flatten c0) J J<|aZ J J J b0 ?_
  have H2:=H1.freeze 0 J
  have cU:=HJ (r:=h.flatten) (p:=(fun (x_:(Bool×bh×Int))=>(!(gT x_.2.1)))) H2.mb (H2.rv 0 J) ⟨ajF,fun w_ v_ x_ tv e_ Ha=>by have H_:=H2.ext e_;obtain⟨_,⟨_,_,rfl,rfl,⟨_,_,rfl,⟨rfl,ee⟩,⟨rfl,eb⟩⟩⟩,rfl⟩:=Ha;exact N9 ee eb⟩
  refine ca ajG J (ec J<|ec J e0) cU ?_
  rintro _ w1 ⟨rfl,df⟩
  have H3:=H1.ext df
  refine aZ J J J b0<|j4 J J<|k<|aP J J J J b0 J<|ak (v:=.bool (!(h.flatten.any<|fun (x_:(Bool×bh×Int))=>(!(gT x_.2.1))))) J J<|aq<|rt<|r1 J J ?_
  exact⟨an0 Value.bool (by rw[Er];simp only[b0,BL]),H3.below⟩
 refine aX J J J b0<|aX J J J b0<|aX J J J b0<|k<|dG J J J J b0 J<|ak (v:=.bool false) J J<|aq<|rt<|r1 J J ?_
 exact⟨an0 Value.bool (by rw[Er];simp only[b0,BL]),H1.below⟩
theorem ajN:cx aI 51:=cF Tryz.func51
theorem acz:RG aI 98:=X' (by kernel_rfl:aI.underlying 98=some (.map 9 3)) (Wj lY) aU rfl
theorem Ta (hM:eJ M w) (l6:cA M w gb ga h) (mF:h.flatten.length≤1048576):Calls aI 26 #[sL gb h ga] w (cm fun v w'=>∃(a0:OA) (c0:Nat) (a1:OA) (c1:Nat) (a2:OA) (c2:Nat),v=.tuple #[.agg #[.slice a0 (mu h).length c0,.slice a1 (cS h).length c1,.slice a2 ([]:aA).length c2],I (lD h)]∧Ext w w'∧RV M w' (.slice a0 (mu h).length c0) (mu h)∧RV M w' (.slice a1 (cS h).length c1) (cS h)∧RV M w' (.slice a2 ([]:aA).length c2) ([]:aA)):=by
 refine dx 70 Tryz.func26 J J J hM fun f0 ha H=>?_
 let J0:=iL gb h ga
 have H0:=H.put (it:=J0) J<|by rw[bP];exact l6
 have Iw:=bg l6
 have i0:f0 0=sL gb h ga:=ha 0 bj
 refine az<|k<|al H0 dQ ?_
 intro aW w0 bW (H1:HI M w w0 [box aW #[.slice none 0 0,.slice none 0 0,.slice none 0 0] 47,J0])
 let J1:=box aW #[.slice none 0 0,.slice none 0 0,.slice none 0 0] 47
 refine ak (v:=I 0) J J<|aq<|sq<|az<|ai J i0<|k ?_
 have bR:=Q4 (h:=h) H1.mb (H1.rv 1 J)<|by exact mF
 refine ca ajN J (ec J e0) bR ?_
 rintro _ w1 ⟨rfl,df⟩
 have H2:=H1.ext df
 refine k<|j4 J J<|z<|nx<|cd (b:=!(iM h)) J J (fun b0=>?_)<|fun b0=>?_
 ·
  refine sq ?_
  have hq:iM h=false:=by simpa using b0
  refine rg<|k<|bd (v:=.agg #[.slice none 0 0,.slice none 0 0,.slice none 0 0]) J ew (fun _=>aS)<|k<|bu H2 0 J dQ J J J J J J J ?_
  intro w2 (H3:HI M w w2 [J1,J0])
  refine ak (v:=I 1) J J<|aq<|rt<|aL<|iy H3 0 J dQ J J J J J au ?_
  have e0:([]:List bh)=mu h:=by exact(xr hq).1.symm
  have e1:([]:List aN)=cS h:=by exact(xr hq).2.1.symm
  have e3:(1:Int)=lD h:=by exact(xr hq).2.2.symm
  have bq:=qX (fun (b9:List bh) (dO:List aN) (lL:Int)=>(.tuple #[.agg #[.slice none b9.length 0,.slice none dO.length 0,.slice none ([]:aA).length 0],I lL]:Value)) e0 e1 e3
  exact⟨none,0,none,0,none,0,bq,H3.below,(an0 (fun (x_:List bh)=>RV _ _ (.slice none x_.length 0) x_) e0).mp (eo _ _),(an0 (fun (x_:List aN)=>RV _ _ (.slice none x_.length 0) x_) e1).mp (eo _ _),(eo _ _)⟩
 refine sk<|nx<|sq ?_
 have hq:iM h=true:=by simpa using b0
 refine rg<|k<|al H2 dQ ?_
 let bc:=[J1,J0]
 intro ba w2 eS (H3:HI M w w2 (box ba #[.slice none 0 0,.slice none 0 0,.slice none 0 0] 47::bc))
 refine bw<|k<|mmS H3 ?_
 intro dK w3 fH (H4:HI M w w3 [tn dK ([]:List (bh×Int)),box ba #[.slice none 0 0,.slice none 0 0,.slice none 0 0] 47,J1,J0])
 refine ak (v:=.map (some dK)) J J<|aq<|sq<|az<|ai J i0<|k<|dL J J od<|ai (v:=I 0) J J<|aq<|bk ?_
 have H5:=H4.qf bh 9
 have H6:=H5.qf aN 95
 refine lp (fun m f w'=>∃(i:Nat) (vs:List bh) (aE:List aN) (jY:List (bh×Int)) (a0:OA) (c0:Nat) (a1:OA) (c1:Nat),m=h.length-i∧f 2=pV aW 0∧f 4=pV ba 0∧f 5=.map (some dK)∧f 17=sL gb h ga∧f 18=I (h.length:Int)∧f 19=I (i:Int)∧HI M w w' [oL w 95 a1 aE c1,oL w 9 a0 vs c0,tn dK jY,box ba #[sL a0 vs c0,sL a1 aE c1,.slice none 0 0] 47,J1,J0]∧(i≤h.length)∧(vs=(iD h i).1)∧(aE=(iD h i).2)∧(BO vs jY)) _ ⟨0,([]:List bh),([]:List aN),([]:List (bh×Int)),none,0,none,0,J,J,J,J,J,J,(bH J),H6,aj,(by rfl),(by rfl),(by exact Wa)⟩ ?_
 rintro _ f0 w4 ⟨i,vs,aE,jY,a0,c0,a1,c1,rfl,s0,s1,s2,s3,s4,s5,H7,YA,h1,h2,hm⟩
 refine az<|k<|lss J J s5 s4<|aq<|sq<|cd (b:=decide ((i:Int)<(h.length:Int))) J J (fun b1=>?_)<|fun b1=>?_
 ·
  have p1:=dT b1
  refine sk<|nx<|sq<|bk<|az<|ai J s5<|k<|ia (H7.rv 5 J) J J s3 s5 aj od rA ?_
  intro iG x0 aM cw
  refine k<|va cw.w rA J J ?_
  intro a2 c2 cu
  have Al:=bg cu
  let J2:=iL a2 x0 c2
  have H8:=H7.put (it:=J2) J cu
  refine ak (v:=I (i:Int)) J J<|ak (v:=sL a2 x0 c2) J J<|bw<|ai (v:=sL a2 x0 c2) J J<|k<|dL J J mY<|ai (v:=I 0) J J<|aq<|bk<|lp (fun m f w'=>∃(q:Nat) (lB:List bh) (qg:List aN) (kP:List (bh×Int)) (a3:OA) (c3:Nat) (a4:OA) (c4:Nat),m=(h.getD i []).length-q∧f 2=pV aW 0∧f 4=pV ba 0∧f 5=.map (some dK)∧f 6=I (i:Int)∧f 17=sL gb h ga∧f 18=I (h.length:Int)∧f 19=I (i:Int)∧f 24=sL a2 x0 c2∧f 25=I (x0.length:Int)∧f 26=I (q:Int)∧HI M w w' [J2,oL w 95 a4 qg c4,oL w 9 a3 lB c3,tn dK kP,box ba #[sL a3 lB c3,sL a4 qg c4,.slice none 0 0] 47,J1,J0]∧(q≤(h.getD i []).length)∧(lB=(jJ i (iD h i) (h.getD i []) q).1)∧(qg=(jJ i (iD h i) (h.getD i []) q).2)∧(BO lB kP)) _ ⟨0,vs,aE,jY,a0,c0,a1,c1,J,s0,s1,s2,J,s3,s4,s5,J,J,(bH J),H8,aj,(by exact h1),(by exact h2),(by exact hm)⟩ ?_
  rintro _ f1 w5 ⟨q,lB,qg,kP,a3,c3,a4,c4,rfl,s6,s7,s8,s9,ej,eX,fA,fD,gi,gS,H9,hk,h1,h2,hm⟩
  refine az<|k<|lss J J gS gi<|aq<|sq<|cd (b:=decide ((q:Int)<(x0.length:Int))) J J (fun b2=>?_)<|fun b2=>?_
  ·
   have p2:=dT b2
   refine sk<|nx<|sq<|bk<|az<|ai J gS<|k<|ia (H9.rv 0 J) J J fD gS aj mY ig ?_
   intro ry x1 cQ gN
   refine k<|nz gN.w ig J J ?_
   intro v0 ee
   obtain⟨_,⟨_,_,rfl,rfl,⟨_,_,rfl,⟨rfl,eb⟩,⟨rfl,fh⟩⟩⟩,rfl⟩:=ee
   refine k<|al H9 ig ?_
   let J3:=oL w 95 a4 qg c4
   let J4:=oL w 9 a3 lB c3
   let J5:=box ba #[sL a3 lB c3,sL a4 qg c4,.slice none 0 0] 47
   let bX:=J4::tn dK kP::J5::bc
   intro bI w6 jg (dE:HI M w w6 (box bI #[.bool false,.string ⟨#[]⟩,I 0] 43::J2::J3::bX))
   refine ak (v:=I (q:Int)) J J<|k<|bu dE 0 J ig J J J J J J J ?_
   let J6:=box bI #[.bool x1.1,.string x1.2.1,I x1.2.2] 43
   intro w7 (cV:HI M w w7 (J6::J2::J3::bX))
   refine bw<|ai J s8<|aQ mx J J<|bo cV 0 J nU J J J<|k<|aiF (k:=x1.2.1) acz cV 4 J J J J J ?_
   intro jd
   refine ai (v:=.tuple #[I ((fM kP x1.2.1).getD 0),.bool ((fM kP x1.2.1).isSome)]) J J<|k<|xt J J J<|k<|xt J J J<|ak (v:=I ((fM kP x1.2.1).getD 0)) J J<|ak (v:=.bool ((fM kP x1.2.1).isSome)) J J<|aq<|sq<|az<|ai (v:=.bool ((fM kP x1.2.1).isSome)) J J<|k<|j4 J J<|z<|nx<|cd (b:=!((fM kP x1.2.1).isSome)) J J (fun b3=>?_)<|fun b3=>?_
   ·
    refine az<|aQ vt J s7<|bo cV 5 J Ch J J J<|k<|dL J J Ig<|ak (v:=I (lB.length:Int)) J J<|bw<|ai J s8<|aQ mx J J<|bo cV 0 J nU J J J<|ai (v:=I (lB.length:Int)) J J<|k<|aiD (k:=x1.2.1) (v:=(lB.length:Int)) acz cV 4 J J J J J J J (by have h3:=pX (k:=q) aM aj;rw[←fy aM,←h1,←h2] at h3;unfold aK;omega) ?_
    let dM:=tn dK (lO kP x1.2.1 (lB.length:Int))::J5::bc
    intro w8 (dm:HI M w w8 (J6::J2::J3::J4::dM))
    refine aq<|rg<|aQ vt J s7<|bo dm 5 J Ch J J J<|aQ mx J J<|bo dm 0 J nU J J J<|k<|bs (xs:=([x1.2.1]:List bh)) (cells:=#[.string x1.2.1]) (e:=9) dm J (ck J ew) (fun _=>aS) ⟨[.string x1.2.1],[],J,⟨J,bt⟩,J⟩ J au ?_
    intro g0 w9 jr cL
    refine k<|lV cL 4 J J J J J J (gX<|cL.at_ 0 J) Ig nU J (by have h_:=pX (k:=q) aM aj;rw[←fy aM,←h1,←h2] at h_;simp only[iS,gA];omega) J ?_
    let J7:=own w.heap.size 9 (.slice (some ⟨g0,0,none⟩) 1 1) ([x1.2.1]:List bh)
    intro a5 c5 dP (cH:HI M w dP (J7::J6::J2::J3::oL w 9 a5 (lB++([x1.2.1]:List bh)) c5::dM))
    let J8:=oL w 9 a5 (lB++([x1.2.1]:List bh)) c5
    refine aQ vt J s7<|k<|bu cH 6 J Ch J J J J J J J ?_
    let J9:=box ba #[sL a5 (lB++([x1.2.1]:List bh)) c5,sL a4 qg c4,.slice none 0 0] 47
    let iO:=J8::tn dK (lO kP x1.2.1 (lB.length:Int))::J9::bc
    intro ey (dV:HI M w ey (J7::J6::J2::J3::iO))
    refine aq<|rg<|aQ fE J s7<|bo dV 6 J jh J J J<|ai J s9<|ai (v:=I (q:Int)) J J<|aQ oS J J<|bo dV 1 J pe J J J<|ai (v:=I (lB.length:Int)) J J<|aQ pM J J<|bo dV 1 J aU J J J<|k<|bd (v:=.agg #[I (i:Int),I (q:Int),.bool x1.1,I (lB.length:Int),I x1.2.2]) J (ck J<|ck J<|ck J<|ck J<|ck J ew) (fun _=>aS)<|k<|bs (xs:=([((i:Int),(q:Int),x1.1,(lB.length:Int),x1.2.2)]:List aN)) (cells:=#[I (i:Int),I (q:Int),.bool x1.1,I (lB.length:Int),I x1.2.2]) (e:=95) dV J (ck J ew) (fun _=>aS) ⟨[I (i:Int),I (q:Int),.bool x1.1,I (lB.length:Int),I x1.2.2],[],J,⟨_,_,J,⟨J,(show aK ((i:Int)) from aR)⟩,⟨_,_,J,⟨J,(show aK ((q:Int)) from aR)⟩,⟨_,_,J,J,⟨_,_,J,⟨J,(show aK ((lB.length:Int)) from(by have h3:=pX (k:=q) aM aj;rw[←fy aM,←h1,←h2] at h3;unfold aK;omega))⟩,⟨J,(show aK (x1.2.2) from bt)⟩⟩⟩⟩⟩,J⟩ J au ?_
    intro g1 fq kr dA
    refine k<|lV dA 4 J J J J J J (gX<|dA.at_ 0 J) jA jE J (by have h_:=pX (k:=q) aM aj;rw[←fy aM,←h1,←h2] at h_;simp only[iS,gA];omega) J ?_
    let dZ:=own w.heap.size 95 (.slice (some ⟨g1,0,none⟩) 1 1) ([((i:Int),(q:Int),x1.1,(lB.length:Int),x1.2.2)]:List aN)
    intro a6 c6 iQ (cT:HI M w iQ (dZ::J7::J6::J2::oL w 95 a6 (qg++([((i:Int),(q:Int),x1.1,(lB.length:Int),x1.2.2)]:List aN)) c6::iO))
    let eL:=oL w 95 a6 (qg++([((i:Int),(q:Int),x1.1,(lB.length:Int),x1.2.2)]:List aN)) c6
    refine aQ fE J s7<|k<|bu cT 7 J jh J J J J J J J ?_
    let gf:=box ba #[sL a5 (lB++([x1.2.1]:List bh)) c5,sL a6 (qg++([((i:Int),(q:Int),x1.1,(lB.length:Int),x1.2.2)]:List aN)) c6,.slice none 0 0] 47
    let fj:=J2::eL::J8::tn dK (lO kP x1.2.1 (lB.length:Int))::gf::bc
    intro j1 (dX:HI M w j1 (dZ::J7::J6::fj))
    refine z<|aF<|nx<|rg<|k<|add J J gS J aR<|ai (v:=I ((q:Int)+1)) J J<|z ?_
    have dI:HI M w j1 fj:=dX.bV [3,4,5,6,7,8,9] au J
    refine bF _ ?_ ⟨(q+1),(lB++([x1.2.1]:List bh)),(qg++([((i:Int),(q:Int),x1.1,(lB.length:Int),x1.2.2)]:List aN)),(lO kP x1.2.1 (lB.length:Int)),a5,c5,a6,c6,J,s6,s7,s8,s9,ej,eX,fA,fD,gi,(bH J),dI,(by rw[fy aM] at *;omega),(by exact(Pb h1 h2 hm aM cQ<|fX b3).1),(by exact(Pb h1 h2 hm aM cQ<|fX b3).2),(by exact V9 hm (fX b3))⟩
    rw[fy aM] at *;omega
   refine sk<|nx<|rg<|aQ fE J s7<|bo cV 5 J jh J J J<|ai J s9<|ai (v:=I (q:Int)) J J<|aQ oS J J<|bo cV 0 J pe J J J<|ai (v:=I ((fM kP x1.2.1).getD 0)) J J<|aQ pM J J<|bo cV 0 J aU J J J<|k<|bd (v:=.agg #[I (i:Int),I (q:Int),.bool x1.1,I ((fM kP x1.2.1).getD 0),I x1.2.2]) J (ck J<|ck J<|ck J<|ck J<|ck J ew) (fun _=>aS)<|k<|bs (xs:=([((i:Int),(q:Int),x1.1,(fM kP x1.2.1).getD 0,x1.2.2)]:List aN)) (cells:=#[I (i:Int),I (q:Int),.bool x1.1,I ((fM kP x1.2.1).getD 0),I x1.2.2]) (e:=95) cV J (ck J ew) (fun _=>aS) ⟨[I (i:Int),I (q:Int),.bool x1.1,I ((fM kP x1.2.1).getD 0),I x1.2.2],[],J,⟨_,_,J,⟨J,(show aK ((i:Int)) from aR)⟩,⟨_,_,J,⟨J,(show aK ((q:Int)) from aR)⟩,⟨_,_,J,J,⟨_,_,J,⟨J,(show aK ((fM kP x1.2.1).getD 0) from bt)⟩,⟨J,(show aK (x1.2.2) from bt)⟩⟩⟩⟩⟩,J⟩ J au ?_
   intro g0 w8 jr dm
   refine k<|lV dm 3 J J J J J J (gX<|dm.at_ 0 J) jA jE J (by have h_:=pX (k:=q) aM aj;rw[←fy aM,←h1,←h2] at h_;simp only[iS,gA];omega) J ?_
   let fN:=own w.heap.size 95 (.slice (some ⟨g0,0,none⟩) 1 1) ([((i:Int),(q:Int),x1.1,(fM kP x1.2.1).getD 0,x1.2.2)]:List aN)
   intro a5 c5 w9 (cL:HI M w w9 (fN::J6::J2::oL w 95 a5 (qg++([((i:Int),(q:Int),x1.1,(fM kP x1.2.1).getD 0,x1.2.2)]:List aN)) c5::bX))
   let iH:=oL w 95 a5 (qg++([((i:Int),(q:Int),x1.1,(fM kP x1.2.1).getD 0,x1.2.2)]:List aN)) c5
   refine aQ fE J s7<|k<|bu cL 6 J jh J J J J J J J ?_
   let pc:=box ba #[sL a3 lB c3,sL a5 (qg++([((i:Int),(q:Int),x1.1,(fM kP x1.2.1).getD 0,x1.2.2)]:List aN)) c5,.slice none 0 0] 47
   let lF:=J2::iH::J4::tn dK kP::pc::bc
   intro dP (cH:HI M w dP (fN::J6::lF))
   refine z<|aF<|nx<|rg<|k<|add J J gS J aR<|ai (v:=I ((q:Int)+1)) J J<|z ?_
   have dV:HI M w dP lF:=cH.bV [2,3,4,5,6,7,8] au J
   refine bF _ ?_ ⟨(q+1),lB,(qg++([((i:Int),(q:Int),x1.1,(fM kP x1.2.1).getD 0,x1.2.2)]:List aN)),kP,a3,c3,a5,c5,J,s6,s7,s8,s9,ej,eX,fA,fD,gi,(bH J),dV,(by rw[fy aM] at *;omega),(by exact(Pa h1 h2 hm aM cQ<|fw b3).1),(by exact(Pa h1 h2 hm aM cQ<|fw b3).2),(by exact hm)⟩
   rw[fy aM] at *;omega
  have p2:=dF b2
  refine ex<|aT<|aY<|bf<|aF<|nx<|rg<|k<|add J J fA J aR<|ai (v:=I ((i:Int)+1)) J J<|z ?_
  have dE:HI M w w5 [oL w 95 a4 qg c4,oL w 9 a3 lB c3,tn dK kP,box ba #[sL a3 lB c3,sL a4 qg c4,.slice none 0 0] 47,J1,J0]:=H9.bV [1,2,3,4,5,6] au J
  refine bF _ ?_ ⟨(i+1),lB,qg,kP,a3,c3,a4,c4,J,s6,s7,s8,ej,eX,(bH J),dE,aj,(by rw[h1,BH aj (by rw[fy aM];omega)]),(by rw[h2,BH aj (by rw[fy aM];omega)]),(by exact hm)⟩
  omega
 have p1:=dF b1
 refine ex<|aT<|aY<|bf<|cO<|k<|cB H7 3 J dQ J s1 au J<|k<|bu H7 4 J dQ J J s0 J J J J ?_
 intro w5 (H8:HI M w w5 [oL w 95 a1 aE c1,oL w 9 a0 vs c0,tn dK jY,box ba #[sL a0 vs c0,sL a1 aE c1,.slice none 0 0] 47,box aW #[sL a0 vs c0,sL a1 aE c1,.slice none 0 0] 47,J0])
 refine ak (v:=I 0) J J<|aq<|rt<|iy H8 4 J dQ J J J s0 J au ?_
 have e0:(vs:List bh)=mu h:=by rw[(rX hq).1,h1];unfold yW;rw[show i=h.length from by omega]
 have e1:(aE:List aN)=cS h:=by rw[(rX hq).2.1,h2];unfold gq;rw[show i=h.length from by omega]
 have e3:(0:Int)=lD h:=by exact(rX hq).2.2.symm
 have bq:=qX (fun (b9:List bh) (dO:List aN) (lL:Int)=>(.tuple #[.agg #[.slice a0 b9.length c0,.slice a1 dO.length c1,.slice none ([]:aA).length 0],I lL]:Value)) e0 e1 e3
 exact⟨a0,c0,a1,c1,none,0,bq,H8.below,(an0 (fun (x_:List bh)=>RV _ _ (.slice a0 x_.length c0) x_) e0).mp (H8.mD 1 J),(an0 (fun (x_:List aN)=>RV _ _ (.slice a1 x_.length c1) x_) e1).mp (H8.mD 0 J),(eo _ _)⟩
theorem lN:ep aI 35 19 true 216 (.agg #[.int .i64 0,.int .i64 0,.int .i64 0,.int .i64 0,.int .i64 0,.bool false,.int .i64 0,.int .i64 0,.slice none 0 0,.slice none 0 0,.slice none 0 0,.int .i64 0,.int .i64 0,.int .i64 0,.int .i64 0,.int .i64 0,.slice none 0 0,.int .i64 0,.int .i64 0]):=⟨aS,aS⟩
theorem aj3:cx aI 26:=cF Tryz.func26
theorem aet:cx aI 21:=cF Tryz.func21
theorem aj2:cx aI 27:=cF Tryz.func27
theorem aj1:cx aI 28:=cF Tryz.func28
theorem aj0:cx aI 29:=cF Tryz.func29
theorem ajZ:cx aI 30:=cF Tryz.func30
theorem vT (hM:eJ M w) (hT:fS 0 w) (l6:cA M w gb ga h) (pz:aK lv) (mF:h.flatten.length≤1048576) (amA:h.flatten.length≤64):Calls aI 15 #[sL gb h ga,I lv] w (cm fun v w'=>∃(lc_:Int) (nc_:Int) (Sv:List (List bp)) (U0:aA) (Sw:List aA) (jc:List cN) (fw_:Int) (nw_:Int) (a0:OA) (c0:Nat) (a1:OA) (c1:Nat) (a2:OA) (c2:Nat) (a3:OA) (c3:Nat),v=.agg #[I (nY h lv),I 0,I ((nB h lv).1),I ((nB h lv).2),I (tV h lv),.bool (rp h lv),I lc_,I nc_,sL a0 Sv c0,sL a1 U0 c1,sL a2 Sw c2,I ((hG h lv).1),I ((hG h lv).2.1),I ((hG h lv).2.2.1),I ((hG h lv).2.2.2.1),I ((hG h lv).2.2.2.2),sL a3 jc c3,I fw_,I nw_]∧Ext w w'∧cA M w' a0 c0 Sv∧cA M w' a1 c1 U0∧cA M w' a2 c2 Sw∧cA M w' a3 c3 jc):=by
 refine dx 64 Tryz.func15 J J J hM fun f0 ha H=>?_
 let J0:=iL gb h ga
 have H0:=H.put (it:=J0) J<|by rw[bP];exact l6
 have i0:f0 0=sL gb h ga:=ha 0 bj
 have i1:f0 1=I lv:=ha 1 bj
 have am4:=OY h
 refine az<|k<|al H0 lN ?_
 intro aW w0 bW (H1:HI M w w0 [box aW #[I 0,I 0,I 0,I 0,I 0,.bool false,I 0,I 0,.slice none 0 0,.slice none 0 0,.slice none 0 0,I 0,I 0,I 0,I 0,I 0,.slice none 0 0,I 0,I 0] 35,J0])
 let J1:=box aW #[I 0,I 0,I 0,I 0,I 0,.bool false,I 0,I 0,.slice none 0 0,.slice none 0 0,.slice none 0 0,I 0,I 0,I 0,I 0,I 0,.slice none 0 0,I 0,I 0] 35
 refine bw<|ai J i0<|k ?_
 have bR:=Ta (h:=h) H1.mb (H1.rv 1 J)<|by exact mF
 refine ca aj3 J (ec J e0) bR ?_
 rintro _ w1 ⟨a0,c0,a1,c1,a2,c2,rfl,df,cu,ee,eb⟩
 have H2:=H1.ext df
 let J2:=iL a0 (mu h) c0
 have H3:=H2.put (it:=J2) J cu
 let J3:=iL a1 (cS h) c1
 have H4:=H3.put (it:=J3) J<|by rw[aH J];exact ee
 let J4:=iL a2 ([]:aA) c2
 have H5:=H4.put (it:=J4) J<|by rw[aH rfl,aH rfl];exact eb
 refine ai (v:=.tuple #[.agg #[sL a0 (mu h) c0,sL a1 (cS h) c1,sL a2 ([]:aA) c2],I (lD h)]) J J<|k<|xt J J J<|k<|xt J J J<|k<|al H5 dQ ?_
 let bc:=[J4,J3,J2,J1,J0]
 intro ba w2 eS (H6:HI M w w2 (box ba #[.slice none 0 0,.slice none 0 0,.slice none 0 0] 47::bc))
 refine k<|bu H6 0 J dQ J J J J J J J ?_
 let J5:=box ba #[sL a0 (mu h) c0,sL a1 (cS h) c1,sL a2 ([]:aA) c2] 47
 intro w3 (H7:HI M w w3 (J5::bc))
 refine ak (v:=I (lD h)) J J<|aq<|sq<|sq ?_
 have am_:decide (0<(((dS lv).length:Nat):Int))=sG lv:=rfl
 refine rg<|ai (v:=I (lD h)) J J<|k<|neq J J J J<|ai (v:=.bool (!decide ((lD h)=0))) J J ?_
 rcases bE (!decide ((lD h)=0)) with b0|b0
 ·
  have p0:=dF<|fX b0
  refine aX J J J b0<|aX J J J b0<|aX J J J b0<|k<|aP J J J J b0 J<|aq<|oW J J J<|sq ?_
  obtain⟨qR,nL⟩:=Th (h:=h) (lv:=lv) (by exact .inl (fX ‹(!decide (lD h=0))=true›))
  obtain⟨tA,rH,gQ⟩:=QX qR au
  refine rg<|k<|bd (v:=.agg #[I 1,I 0,I 0,I 0,I 0,.bool false,I 0,I 0,.slice none 0 0,.slice none 0 0,.slice none 0 0,I 0,I 0,I 0,I 0,I 0,.slice none 0 0,I 0,I 0]) J (ck J ew) (fun _=>aS)<|k<|bu H7 4 J lN J J J J J J J ?_
  intro w4 (H8:HI M w w4 [J5,J4,J3,J2,box aW #[I 1,I 0,I 0,I 0,I 0,.bool false,I 0,I 0,.slice none 0 0,.slice none 0 0,.slice none 0 0,I 0,I 0,I 0,I 0,I 0,.slice none 0 0,I 0,I 0] 35,J0])
  refine aq<|rt<|aL<|ph H8 4 J lN J J J J au ?_
  have e0:(1:Int)=nY h lv:=by rw[qR]
  have e2:(0:Int)=(nB h lv).1:=by rw[nL]
  have e3:(0:Int)=(nB h lv).2:=by rw[nL]
  have e4:(0:Int)=tV h lv:=by rw[tA]
  have e5:(false:Bool)=rp h lv:=by exact rH.symm
  have rU:(0:Int)=(hG h lv).1:=by rw[gQ]
  have sQ:(0:Int)=(hG h lv).2.1:=by rw[gQ]
  have rT:(0:Int)=(hG h lv).2.2.1:=by rw[gQ]
  have tH:(0:Int)=(hG h lv).2.2.2.1:=by rw[gQ]
  have tG:(0:Int)=(hG h lv).2.2.2.2:=by rw[gQ]
  have bq:=M8 (fun (b9:Int) (gF:Int) (lL:Int) (wU:Int) (wT:Bool) (sc:Int) (r9:Int) (r8:Int) (r7:Int) (r6:Int)=>(.agg #[I b9,I 0,I gF,I lL,I wU,.bool wT,I 0,I 0,.slice none ([]:List (List bp)).length 0,.slice none ([]:aA).length 0,.slice none ([]:List aA).length 0,I sc,I r9,I r8,I r7,I r6,.slice none ([]:List cN).length 0,I 0,I 0]:Value)) e0 e2 e3 e4 e5 rU sQ rT tH tG
  exact⟨0,0,([]:List (List bp)),([]:aA),([]:List aA),([]:List cN),0,0,none,0,none,0,none,0,none,0,bq,H8.below,(eo _ _),(eo _ _),(eo _ _),(eo _ _)⟩
 have p0:=dT<|fw b0
 refine aZ J J J b0<|mv J i1<|aZ J J J b0 ?_
 have cU:=EV (lv:=lv) (w:=w3) pz
 refine ca aet J (ec J e0) cU ?_
 rintro _ w4 ⟨rfl,fH⟩
 have H8:=H7.ext fH
 refine aZ J J J b0<|j4 J J<|k<|dG J J J J b0 J<|z<|nx<|cd (b:=!(decide (0<(((dS lv).length:Nat):Int)))) J J (fun b1=>?_)<|fun b1=>?_
 ·
  have p1:=dF<|fX b1
  refine sq ?_
  obtain⟨qR,nL⟩:=Th (h:=h) (lv:=lv) (by exact .inr (fX ‹(!decide (0<(((dS lv).length:Nat):Int)))=true›))
  obtain⟨tA,rH,gQ⟩:=QX qR au
  refine rg<|k<|bd (v:=.agg #[I 1,I 0,I 0,I 0,I 0,.bool false,I 0,I 0,.slice none 0 0,.slice none 0 0,.slice none 0 0,I 0,I 0,I 0,I 0,I 0,.slice none 0 0,I 0,I 0]) J (ck J ew) (fun _=>aS)<|k<|bu H8 4 J lN J J J J J J J ?_
  intro w5 (H9:HI M w w5 [J5,J4,J3,J2,box aW #[I 1,I 0,I 0,I 0,I 0,.bool false,I 0,I 0,.slice none 0 0,.slice none 0 0,.slice none 0 0,I 0,I 0,I 0,I 0,I 0,.slice none 0 0,I 0,I 0] 35,J0])
  refine aq<|rt<|aL<|ph H9 4 J lN J J J J au ?_
  have e0:(1:Int)=nY h lv:=by rw[qR]
  have e2:(0:Int)=(nB h lv).1:=by rw[nL]
  have e3:(0:Int)=(nB h lv).2:=by rw[nL]
  have e4:(0:Int)=tV h lv:=by rw[tA]
  have e5:(false:Bool)=rp h lv:=by exact rH.symm
  have rU:(0:Int)=(hG h lv).1:=by rw[gQ]
  have sQ:(0:Int)=(hG h lv).2.1:=by rw[gQ]
  have rT:(0:Int)=(hG h lv).2.2.1:=by rw[gQ]
  have tH:(0:Int)=(hG h lv).2.2.2.1:=by rw[gQ]
  have tG:(0:Int)=(hG h lv).2.2.2.2:=by rw[gQ]
  have bq:=M8 (fun (b9:Int) (gF:Int) (lL:Int) (wU:Int) (wT:Bool) (sc:Int) (r9:Int) (r8:Int) (r7:Int) (r6:Int)=>(.agg #[I b9,I 0,I gF,I lL,I wU,.bool wT,I 0,I 0,.slice none ([]:List (List bp)).length 0,.slice none ([]:aA).length 0,.slice none ([]:List aA).length 0,I sc,I r9,I r8,I r7,I r6,.slice none ([]:List cN).length 0,I 0,I 0]:Value)) e0 e2 e3 e4 e5 rU sQ rT tH tG
  exact⟨0,0,([]:List (List bp)),([]:aA),([]:List aA),([]:List cN),0,0,none,0,none,0,none,0,none,0,bq,H9.below,(eo _ _),(eo _ _),(eo _ _),(eo _ _)⟩
 have p1:=dT<|fw b1
 refine sk<|nx<|sq<|az<|k<|cB H8 0 J dQ J J au J<|k ?_
 have fU:=M4 (U:=(cS h)) (aC:=a0) (aD:=(mu h).length) (aB:=c0) (ay:=a2) (eZ:=([]:aA).length) (ax:=c2) H8.mb<|H8.rv 2 J
 refine ca aj2 J (ec J e0) fU ?_
 rintro _ w5 ⟨rfl,jg⟩
 have H9:=H8.ext jg
 refine ai (v:=.tuple #[I ((da<|cS h).1),I ((da<|cS h).2.1),I ((da<|cS h).2.2)]) J J<|k<|xt J J J<|k<|xt J J J<|k<|xt J J J<|ak (v:=I ((da<|cS h).1)) J J<|ak (v:=I ((da<|cS h).2.1)) J J<|ak (v:=I ((da<|cS h).2.2)) J J<|bw<|ai (v:=I ((da<|cS h).2.2)) J J<|k<|neq J J J J<|z<|nx<|cd (b:=!decide (((da<|cS h).2.2)=0)) J J (fun b2=>?_)<|fun b2=>?_
 ·
  have p2:=dF<|fX b2
  refine sq ?_
  have Wv:lD h=0:=dT<|fw ‹(!decide (lD h=0))=false›
  have FX:sG lv=true:=fw ‹(!decide (0<(((dS lv).length:Nat):Int)))=false›
  obtain⟨qR,nL⟩:=ac6 Wv FX
  obtain⟨tA,rH,gQ⟩:=QX qR (dF (fX ‹(!decide ((da (cS h)).2.2=0))=true›))
  refine rg<|ai (v:=I ((da<|cS h).2.2)) J J<|ai (v:=I ((da<|cS h).1)) J J<|ai (v:=I ((da<|cS h).2.1)) J J<|k<|bd (v:=.agg #[I ((da<|cS h).2.2),I 0,I ((da<|cS h).1),I ((da<|cS h).2.1),I 0,.bool false,I 0,I 0,.slice none 0 0,.slice none 0 0,.slice none 0 0,I 0,I 0,I 0,I 0,I 0,.slice none 0 0,I 0,I 0]) J (ck J<|ck J<|ck J ew) (fun _=>aS)<|k<|bu H9 4 J lN J J J J J J J ?_
  intro w6 (dE:HI M w w6 [J5,J4,J3,J2,box aW #[I ((da (cS h)).2.2),I 0,I ((da (cS h)).1),I ((da (cS h)).2.1),I 0,.bool false,I 0,I 0,.slice none 0 0,.slice none 0 0,.slice none 0 0,I 0,I 0,I 0,I 0,I 0,.slice none 0 0,I 0,I 0] 35,J0])
  refine aq<|rt<|aL<|ph dE 4 J lN J J J J au ?_
  have e0:((da (cS h)).2.2:Int)=nY h lv:=by rw[qR]
  have e2:((da (cS h)).1:Int)=(nB h lv).1:=by rw[nL]
  have e3:((da (cS h)).2.1:Int)=(nB h lv).2:=by rw[nL]
  have e4:(0:Int)=tV h lv:=by rw[tA]
  have e5:(false:Bool)=rp h lv:=by exact rH.symm
  have rU:(0:Int)=(hG h lv).1:=by rw[gQ]
  have sQ:(0:Int)=(hG h lv).2.1:=by rw[gQ]
  have rT:(0:Int)=(hG h lv).2.2.1:=by rw[gQ]
  have tH:(0:Int)=(hG h lv).2.2.2.1:=by rw[gQ]
  have tG:(0:Int)=(hG h lv).2.2.2.2:=by rw[gQ]
  have bq:=M8 (fun (b9:Int) (gF:Int) (lL:Int) (wU:Int) (wT:Bool) (sc:Int) (r9:Int) (r8:Int) (r7:Int) (r6:Int)=>(.agg #[I b9,I 0,I gF,I lL,I wU,.bool wT,I 0,I 0,.slice none ([]:List (List bp)).length 0,.slice none ([]:aA).length 0,.slice none ([]:List aA).length 0,I sc,I r9,I r8,I r7,I r6,.slice none ([]:List cN).length 0,I 0,I 0]:Value)) e0 e2 e3 e4 e5 rU sQ rT tH tG
  exact⟨0,0,([]:List (List bp)),([]:aA),([]:List aA),([]:List cN),0,0,none,0,none,0,none,0,none,0,bq,dE.below,(eo _ _),(eo _ _),(eo _ _),(eo _ _)⟩
 have p2:=dT<|fw b2
 refine sk<|nx<|sq ?_
 have Wv:lD h=0:=dT<|fw ‹(!decide (lD h=0))=false›
 have FX:sG lv=true:=fw ‹(!decide (0<(((dS lv).length:Nat):Int)))=false›
 have WB:(da (cS h)).2.2=0:=dT<|fw ‹(!decide ((da<|cS h).2.2=0))=false›
 obtain⟨qR,nL,tA,rH,gQ⟩:=Yp Wv FX WB
 have Mx:=TU<|cS h
 refine rg<|k<|cB H9 0 J dQ J J au J<|k ?_
 have fb:=N4 (fv:=(mu h)) (U:=(cS h)) (fo:=([]:aA)) H9.mb (H9.rv 3 J) (H9.rv 2 J) (H9.rv 1 J) aj
 refine ca aj1 J (ec J e0) fb ?_
 rintro _ w6 ⟨a3,c3,a4,c4,a5,c5,rfl,jr,fh,jd,jX⟩
 have dE:=H9.ext jr
 let J6:=iL a3 (mu h) c3
 have cV:=dE.put (it:=J6) J fh
 let J7:=iL a4 (cS h) c4
 have dm:=cV.put (it:=J7) J<|by rw[aH J];exact jd
 let J8:=iL a5 (gK (cS h)) c5
 have cL:=dm.put (it:=J8) J<|by rw[aH rfl,aH rfl];exact jX
 refine k<|bu cL 3 J dQ J J J J J J J ?_
 let J9:=box ba #[sL a3 (mu h) c3,sL a4 (cS h) c4,sL a5 (gK (cS h)) c5] 47
 let bX:=J8::J7::J6::J9::bc
 intro w7 (cH:HI M w w7 bX)
 refine aq<|sq<|az<|k<|cB cH 3 J dQ J J au J<|ai J i1<|k ?_
 have nr:=QB (U:=(cS h)) (fo:=(gK<|cS h)) (lv:=lv) (aC:=a3) (aD:=(mu h).length) (aB:=c3) cH.mb (hT.ext cH.below) (cH.rv 1 J) (cH.rv 0 J) pz (by exact OX h) aj (by exact Mx) (by exact MP WB)<|by exact Ya FX
 refine ca aj0 J (ec J<|ec J e0) nr ?_
 rintro _ w8 ⟨o0,o1,o2,o3,o4,o5,o6,o7,a6,c6,rfl,kr,iU,q0⟩
 have dV:=cH.ext kr
 let dZ:=iL a6 o5 c6
 have dA:=dV.put (it:=dZ) J iU
 refine ai (v:=.tuple #[.agg #[I o0,I o1,I o2,I o3,I o4,sL a6 o5 c6,I o6,I o7],I (fc (cS h) (gK<|cS h) lv)]) J J<|k<|xt J J J<|k<|xt J J J<|k<|al dA bT ?_
 intro bI w9 lX (cT:HI M w w9 (box bI #[I 0,I 0,I 0,I 0,I 0,.slice none 0 0,I 0,I 0] 33::dZ::bX))
 refine k<|bu cT 0 J bT J J J J J J J ?_
 let eL:=box bI #[I o0,I o1,I o2,I o3,I o4,sL a6 o5 c6,I o6,I o7] 33
 intro dP (dX:HI M w dP (eL::dZ::bX))
 refine ak (v:=I (fc (cS h) (gK<|cS h) lv)) J J<|bw<|ai (v:=I (fc (cS h) (gK<|cS h) lv)) J J<|k<|eql J J J J<|z<|nx<|cd (b:=decide ((fc (cS h) (gK<|cS h) lv)=0)) J J (fun b3=>?_)<|fun b3=>?_
 ·
  refine sq ?_
  rw[an6 (dT ‹decide (fc (cS h) (gK (cS h)) lv=0)=true›)] at rH;rw[abn q0 (dT ‹decide (fc (cS h) (gK (cS h)) lv=0)=true›)] at gQ
  refine rg<|ai J i1<|k<|cB dX 0 J bT J J au J<|k<|bd (v:=.agg #[I 0,I 0,I 0,I 0,I lv,.bool false,I 0,I 0,.slice none 0 0,.slice none 0 0,.slice none 0 0,I o0,I o1,I o2,I o3,I o4,sL a6 o5 c6,I o6,I o7]) J (ck J<|ck J ew) (fun _=>aS)<|k<|bu dX 9 J lN J J J J J J J ?_
  intro ey (dI:HI M w ey [eL,dZ,J8,J7,J6,J9,J4,J3,J2,box aW #[I 0,I 0,I 0,I 0,I lv,.bool false,I 0,I 0,.slice none 0 0,.slice none 0 0,.slice none 0 0,I o0,I o1,I o2,I o3,I o4,sL a6 o5 c6,I o6,I o7] 35,J0])
  refine aq<|rt<|aL<|ph dI 9 J lN J J J J au ?_
  have e0:(0:Int)=nY h lv:=by rw[qR]
  have e2:(0:Int)=(nB h lv).1:=by rw[nL]
  have e3:(0:Int)=(nB h lv).2:=by rw[nL]
  have e4:(lv:Int)=tV h lv:=by rw[tA]
  have e5:(false:Bool)=rp h lv:=by exact rH.symm
  have rU:(o0:Int)=(hG h lv).1:=by rw[gQ]
  have sQ:(o1:Int)=(hG h lv).2.1:=by rw[gQ]
  have rT:(o2:Int)=(hG h lv).2.2.1:=by rw[gQ]
  have tH:(o3:Int)=(hG h lv).2.2.2.1:=by rw[gQ]
  have tG:(o4:Int)=(hG h lv).2.2.2.2:=by rw[gQ]
  have bq:=M8 (fun (b9:Int) (gF:Int) (lL:Int) (wU:Int) (wT:Bool) (sc:Int) (r9:Int) (r8:Int) (r7:Int) (r6:Int)=>(.agg #[I b9,I 0,I gF,I lL,I wU,.bool wT,I 0,I 0,.slice none ([]:List (List bp)).length 0,.slice none ([]:aA).length 0,.slice none ([]:List aA).length 0,I sc,I r9,I r8,I r7,I r6,.slice a6 o5.length c6,I o6,I o7]:Value)) e0 e2 e3 e4 e5 rU sQ rT tH tG
  exact⟨0,0,([]:List (List bp)),([]:aA),([]:List aA),o5,o6,o7,none,0,none,0,none,0,a6,c6,bq,dI.below,(eo _ _),(eo _ _),(eo _ _),(dI.fl 1 J)⟩
 refine sk<|nx<|sq ?_
 have WA:=dF ‹decide (fc (cS h) (gK<|cS h) lv=0)=false›
 rw[an' WA] at rH;rw[abl WA] at gQ
 refine rg<|k<|cB dX 5 J dQ J J au J<|ai J i1<|k ?_
 have n5:=Uu (U:=(cS h)) (fo:=(gK<|cS h)) (lv:=lv) (aC:=a3) (aD:=(mu h).length) (aB:=c3) dX.mb (hT.ext dX.below) (dX.rv 3 J) (dX.rv 2 J) pz (by exact OX h) aj (by exact Mx) (by exact MP WB) (by exact Ya FX)<|by exact IM WA
 refine ca ajZ J (ec J<|ec J e0) n5 ?_
 rintro _ ey ⟨o8,o9,kN,fe,a7,c7,a8,c8,a9,c9,rfl,nS,kW,nV,pg⟩
 have dI:=dX.ext nS
 have cG:=dR dI kW
 have d_:=dR cG nV
 have dD:=dR d_ pg
 refine ai (v:=.tuple #[.agg #[I lv,I o8,sL a7 o9 c7,sL a8 kN c8,sL a9 fe c9],I 0]) J J<|k<|xt J J J<|k<|xt J J J<|k<|al dD vI ?_
 let dM:=iL a9 fe c9::iL a8 kN c8::iL a7 o9 c7::eL::dZ::bX
 intro fm fq zP (eR:HI M w fq (box fm #[I 0,I 0,.slice none 0 0,.slice none 0 0,.slice none 0 0] 30::dM))
 refine k<|bu eR 0 J vI J J J J J J J ?_
 let gf:=box fm #[I lv,I o8,sL a7 o9 c7,sL a8 kN c8,sL a9 fe c9] 30
 intro iQ (eW:HI M w iQ (gf::dM))
 refine ak (v:=I 0) J J<|aq<|sq<|az<|ai (v:=I 0) J J<|k<|neq J J J J<|aq<|pk J J au<|sk<|cO<|ai J i1<|k<|cB eW 0 J vI J J au J<|k<|bd (v:=.agg #[I 0,I 0,I 0,I 0,I lv,.bool true,I lv,I o8,sL a7 o9 c7,sL a8 kN c8,sL a9 fe c9,I 0,I 0,I 0,I 0,I 0,.slice none 0 0,I 0,I 0]) J (ck J<|ck J<|ck J ew) (fun _=>aS)<|k<|bu eW 13 J lN J J J J J J J ?_
 intro j1 (gW:HI M w j1 [gf,iL a9 fe c9,iL a8 kN c8,iL a7 o9 c7,eL,dZ,J8,J7,J6,J9,J4,J3,J2,box aW #[I 0,I 0,I 0,I 0,I lv,.bool true,I lv,I o8,sL a7 o9 c7,sL a8 kN c8,sL a9 fe c9,I 0,I 0,I 0,I 0,I 0,.slice none 0 0,I 0,I 0] 35,J0])
 refine aq<|rt<|ph gW 13 J lN J J J J au ?_
 have e0:(0:Int)=nY h lv:=by rw[qR]
 have e2:(0:Int)=(nB h lv).1:=by rw[nL]
 have e3:(0:Int)=(nB h lv).2:=by rw[nL]
 have e4:(lv:Int)=tV h lv:=by rw[tA]
 have e5:(true:Bool)=rp h lv:=by exact rH.symm
 have rU:(0:Int)=(hG h lv).1:=by rw[gQ]
 have sQ:(0:Int)=(hG h lv).2.1:=by rw[gQ]
 have rT:(0:Int)=(hG h lv).2.2.1:=by rw[gQ]
 have tH:(0:Int)=(hG h lv).2.2.2.1:=by rw[gQ]
 have tG:(0:Int)=(hG h lv).2.2.2.2:=by rw[gQ]
 have bq:=M8 (fun (b9:Int) (gF:Int) (lL:Int) (wU:Int) (wT:Bool) (sc:Int) (r9:Int) (r8:Int) (r7:Int) (r6:Int)=>(.agg #[I b9,I 0,I gF,I lL,I wU,.bool wT,I lv,I o8,.slice a7 o9.length c7,.slice a8 kN.length c8,.slice a9 fe.length c9,I sc,I r9,I r8,I r7,I r6,.slice none ([]:List cN).length 0,I 0,I 0]:Value)) e0 e2 e3 e4 e5 rU sQ rT tH tG
 exact⟨lv,o8,o9,kN,fe,([]:List cN),0,0,a7,c7,a8,c8,a9,c9,none,0,bq,gW.below,(gW.fl 3 J),(gW.fl 2 J),(gW.fl 1 J),(eo _ _)⟩
theorem YW:cx aI 185:=cF Tryz.func185
theorem agh:cx aI 170:=cF Tryz.func170
theorem agf:cx aI 171:=cF Tryz.func171
theorem agq:cx aI 143:=cF Tryz.func143
theorem agp:cx aI 144:=cF Tryz.func144
theorem Cp (ll:s.size≤maxLen) (Q9:p_.size≤maxLen):Calls aI 185 #[.string s,.string p_] w (cm fun v w'=>v=.bool (jP s p_)∧Ext w w'):=by
 refine dx 18 Tryz.func185 J J J qk fun f0 ha H=>?_
 have i0:f0 0=.string s:=ha 0 bj
 have i1:f0 1=.string p_:=ha 1 bj
 refine az<|ak (v:=.bool false) J J<|bw<|ai J i0<|k<|vZ J J lY<|ai J i1<|k<|vZ J J lY<|k<|geq J J J J<|ai (v:=.bool (decide ((p_.size:Int)≤(s.size:Int)))) J J ?_
 rcases bE (decide ((p_.size:Int)≤(s.size:Int))) with b0|b0
 ·
  have p0:=dT b0
  refine aZ J J J b0<|mv J i0<|aZ J J J b0<|mv J i1<|aZ J J J b0<|vZ J J lY<|aZ J J J b0<|aiw J J J J aj lY<|aZ J J J b0<|mv J i1<|aZ J J J b0<|Y' J J J J<|k<|aP J J J J b0 J<|ak (v:=.bool (decide (s.extract 0 (p_.size:Int).toNat=p_))) J J<|aq<|rt<|r1 J J ?_
  exact⟨an0 Value.bool (by simp only[jP,b0,BL]),H.below⟩
 refine aX J J J b0<|aX J J J b0<|aX J J J b0<|aX J J J b0<|aX J J J b0<|aX J J J b0<|k<|dG J J J J b0 J<|ak (v:=.bool false) J J<|aq<|rt<|r1 J J ?_
 exact⟨an0 Value.bool (by simp only[jP,b0,BL]),H.below⟩
theorem Ko (ll:s.size≤maxLen) (Q9:p_.size≤maxLen):Calls aI 170 #[.string s,.string p_] w (cm fun v w'=>v=.string (eG s p_)∧Ext w w'):=by
 refine dx 13 Tryz.func170 J J J qk fun f0 ha H=>?_
 have i0:f0 0=.string s:=ha 0 bj
 have i1:f0 1=.string p_:=ha 1 bj
 have C4:jP s p_=true→(p_.size:Int)≤(s.size:Int):=by intro h_;unfold jP at h_;cases e_:decide ((p_.size:Int)≤(s.size:Int))<;>rw[e_] at h_;cases h_;exact aoN e_
 refine az<|ak (v:=.string ⟨#[]⟩) J J<|aq<|sq<|az<|ai J i0<|ai J i1<|k ?_
 have bR:=Cp (s:=s) (p_:=p_) (w:=w) bt bt
 refine ca YW J (ec J<|ec J e0) bR ?_
 rintro _ w0 ⟨rfl,bW⟩
 have H0:=H.ext bW
 refine z<|nx<|cd (b:=jP s p_) J J (fun b0=>?_)<|fun b0=>?_
 ·
  refine az<|ai J i0<|ai J i1<|k<|vZ J J lY<|k<|Vr J J J J (by have h_:=C4 bt;omega) lY<|ak (v:=.string (s.extract (p_.size:Int).toNat s.size)) J J<|aq<|rt<|aL<|r1 J J ?_
  exact⟨an0 Value.string (by simp only[eG,b0,BL]),H0.below⟩
 refine sk<|cO<|ai J i0<|ak (v:=.string s) J J<|aq<|rt<|r1 J J ?_
 exact⟨an0 Value.string (by simp only[eG,b0,BL]),H0.below⟩
theorem Ls (ll:s.size≤maxLen) (Q9:p_.size≤maxLen):Calls aI 171 #[.string s,.string p_] w (cm fun v w'=>v=.tuple #[.string (eG s p_),.bool (jP s p_)]∧Ext w w'):=by
 refine dx 15 Tryz.func171 J J J qk fun f0 ha H=>?_
 have i0:f0 0=.string s:=ha 0 bj
 have i1:f0 1=.string p_:=ha 1 bj
 have C4:jP s p_=true→(p_.size:Int)≤(s.size:Int):=by intro h_;unfold jP at h_;cases e_:decide ((p_.size:Int)≤(s.size:Int))<;>rw[e_] at h_;cases h_;exact aoN e_
 refine az<|ak (v:=.string ⟨#[]⟩) J J<|ak (v:=.bool false) J J<|aq<|sq<|az<|ai J i0<|ai J i1<|k ?_
 have bR:=Cp (s:=s) (p_:=p_) (w:=w) bt bt
 refine ca YW J (ec J<|ec J e0) bR ?_
 rintro _ w0 ⟨rfl,bW⟩
 have H0:=H.ext bW
 refine k<|j4 J J<|z<|nx<|cd (b:=!(jP s p_)) J J (fun b0=>?_)<|fun b0=>?_
 ·
  refine az<|ai J i0<|ak (v:=.string s) J J<|ak (v:=.bool false) J J<|aq<|rt<|aL<|r2 J J J ?_
  have e0:(s:bh)=eG s p_:=by simp only[eG,(fX b0),BL]
  have e1:(false:Bool)=jP s p_:=by simp only[(fX b0),BL]
  have bq:=nG (fun (b9:bh) (dO:Bool)=>(.tuple #[.string b9,.bool dO]:Value)) e0 e1
  exact⟨bq,H0.below⟩
 refine sk<|cO<|ai J i0<|ai J i1<|k<|vZ J J lY<|k<|Vr J J J J (by have h_:=C4 (by simpa using ‹(!jP s p_)=false›);omega) lY<|ak (v:=.string (s.extract (p_.size:Int).toNat s.size)) J J<|ak (v:=.bool true) J J<|aq<|rt<|r2 J J J ?_
 have e0:(s.extract (p_.size:Int).toNat s.size:bh)=eG s p_:=by simp only[eG,(fw b0),BL]
 have e1:(true:Bool)=jP s p_:=by simp only[(fw b0),BL]
 have bq:=nG (fun (b9:bh) (dO:Bool)=>(.tuple #[.string b9,.bool dO]:Value)) e0 e1
 exact⟨bq,H0.below⟩
theorem Cm (ll:s.size≤maxLen) (Q9:p_.size≤maxLen):Calls aI 143 #[.string s,.string p_] w (cm fun v w'=>v=.string (eG s p_)∧Ext w w'):=by
 refine dx 8 Tryz.func143 J J J qk fun f0 ha H=>?_
 have i0:f0 0=.string s:=ha 0 bj
 have i1:f0 1=.string p_:=ha 1 bj
 refine az<|ak (v:=.string ⟨#[]⟩) J J<|bw<|ai J i0<|ai J i1<|k ?_
 have bR:=Ko (s:=s) (p_:=p_) (w:=w) bt bt
 refine ca agh J (ec J<|ec J e0) bR ?_
 rintro _ w0 ⟨rfl,bW⟩
 have H0:=H.ext bW
 refine ak (v:=.string (eG s p_)) J J<|aq<|rt<|r1 J J ?_
 exact⟨J,H0.below⟩
theorem Ee (ll:s.size≤maxLen) (Q9:p_.size≤maxLen):Calls aI 145 #[.string s,.string p_] w (cm fun v w'=>v=.tuple #[.string (eG s p_),.bool (jP s p_)]∧Ext w w'):=by
 refine dx 11 Tryz.func145 J J J qk fun f0 ha H=>?_
 have i0:f0 0=.string s:=ha 0 bj
 have i1:f0 1=.string p_:=ha 1 bj
 refine az<|ak (v:=.string ⟨#[]⟩) J J<|ak (v:=.bool false) J J<|bw<|ai J i0<|ai J i1<|k ?_
 have bR:=Ls (s:=s) (p_:=p_) (w:=w) bt bt
 refine ca agf J (ec J<|ec J e0) bR ?_
 rintro _ w0 ⟨rfl,bW⟩
 have H0:=H.ext bW
 refine k<|xt J J J<|k<|xt J J J<|ak (v:=.string (eG s p_)) J J<|ak (v:=.bool (jP s p_)) J J<|aq<|rt<|r2 J J J ?_
 exact⟨J,H0.below⟩
theorem VZ (ll:s.size≤maxLen) (lI:aK at_):Calls aI 110 #[.string s,I at_] w (cm fun v w'=>v=I (gC s at_)∧Ext w w'):=by
 refine dx 26 Tryz.func110 J J J qk fun f0 ha H=>?_
 have i0:f0 0=.string s:=ha 0 bj
 have i1:f0 1=I at_:=ha 1 bj
 have zw:maxLen=9223372036854775807:=rfl
 refine az<|ak (v:=I 0) J J<|aq<|sq<|az<|ai J i1<|k<|lss J J J J<|ai (v:=.bool (decide (at_<0))) J J ?_
 rcases bE (decide (at_<0)) with b0|b0
 ·
  refine aX J J J b0<|aX J J J b0<|aX J J J b0<|aX J J J b0<|k<|aP J J J J b0 J<|aq<|oW J J J<|az<|ak (v:=I 0) J J<|aq<|rt<|aL<|r1 J J ?_
  exact⟨an0 (Value.int .i64) (by simp only[gC,b0,BL]),H.below⟩
 have p0:=dF b0
 refine aZ J J J b0<|mv J i1<|aZ J J J b0<|mv J i0<|aZ J J J b0<|vZ J J lY<|aZ J J J b0<|geq J J J J<|k<|dG J J J J b0 J<|z<|nx<|cd (b:=decide ((s.size:Int)≤at_)) J J (fun b1=>?_)<|fun b1=>?_
 ·
  refine az<|ak (v:=I 0) J J<|aq<|rt<|aL<|r1 J J ?_
  exact⟨an0 (Value.int .i64) (by simp only[gC,b0,b1,BL]),H.below⟩
 have p1:=dF b1
 refine sk<|cO<|ai J i0<|ai J i1<|k<|Vr J J J J aj lY<|ak (v:=.string (s.extract at_.toNat s.size)) J J<|bw<|ai (v:=.string (s.extract at_.toNat s.size)) J J<|k ?_
 have bR:=Cm (s:=(s.extract at_.toNat s.size)) (p_:=⟨#[45]⟩) (w:=w) (by exact Nat.le_trans (Dk _ _ _) ll) au
 refine ca agq J (ec J<|ec J e0) bR ?_
 rintro _ w0 ⟨rfl,bW⟩
 have H0:=H.ext bW
 refine ak (v:=.string (eG (s.extract at_.toNat s.size) ⟨#[45]⟩)) J J<|bw<|ai (v:=.string (s.extract at_.toNat s.size)) J J<|k<|vZ J J lY<|ai (v:=.string (eG (s.extract at_.toNat s.size) ⟨#[45]⟩)) J J<|k ?_
 have cU:=Fk (s:=(eG (s.extract at_.toNat s.size) ⟨#[45]⟩)) (cs:=⟨#[48,49,50,51,52,53,54,55,56,57]⟩) (w:=w0) (by exact Nat.le_trans (re _ _) (Nat.le_trans (Dk _ _ _) ll)) au<|by exact HR
 refine ca agp J (ec J<|ec J e0) cU ?_
 rintro _ w1 ⟨rfl,df⟩
 have H1:=H0.ext df
 refine k<|vZ J J lY<|k<|sub J J J J (by have h1_:=Em (eG (s.extract at_.toNat s.size) ⟨#[45]⟩) ⟨#[48,49,50,51,52,53,54,55,56,57]⟩;have lE:=re (s.extract at_.toNat s.size) ⟨#[45]⟩;have h3_:=Dk s at_.toNat s.size;unfold aK;omega)<|ak (v:=I (((s.extract at_.toNat s.size).size:Int)-((Ck (eG (s.extract at_.toNat s.size) ⟨#[45]⟩) ⟨#[48,49,50,51,52,53,54,55,56,57]⟩).size:Int))) J J<|aq<|rt<|r1 J J ?_
 exact⟨an0 (Value.int .i64) (by simp only[gC,b0,b1,BL]),H1.below⟩
theorem ago:cx aI 145:=cF Tryz.func145
theorem Cg:aI.underlying 57=some (.slice 5):=aS
theorem P_:aI.underlying 151=some (.int .u64):=aS
theorem aaj (ll:s.size≤maxLen):Calls aI 111 #[.string s] w (cm fun v w'=>v=.tuple #[I ((gj s).1),I ((gj s).2)]∧Ext w w'):=by
 refine dx 62 Tryz.func111 J J J qk fun f0 ha H=>?_
 have i0:f0 0=.string s:=ha 0 bj
 have zw:maxLen=9223372036854775807:=rfl
 refine az<|ak (v:=I 0) J J<|ak (v:=I 0) J J<|bw<|ai J i0<|k ?_
 have bR:=Ee (s:=s) (p_:=⟨#[45]⟩) (w:=w) bt au
 refine ca ago J (ec J<|ec J e0) bR ?_
 rintro _ w0 ⟨rfl,bW⟩
 have H0:=H.ext bW
 refine ai (v:=.tuple #[.string (eG s ⟨#[45]⟩),.bool (jP s ⟨#[45]⟩)]) J J<|k<|xt J J J<|k<|xt J J J<|ak (v:=.string (eG s ⟨#[45]⟩)) J J<|ak (v:=.bool (jP s ⟨#[45]⟩)) J J<|z<|nx<|cut (fun f w'=>f 4=.string (eG s ⟨#[45]⟩)∧f 5=.bool (jP s ⟨#[45]⟩)∧HI (fun _=>False) w w' []∧(lR s=false)) ?_ ?_
 ·
  refine az<|ai (v:=.string (eG s ⟨#[45]⟩)) J J<|k<|Y' J J J J<|ai (v:=.bool (decide (eG s ⟨#[45]⟩=⟨#[]⟩))) J J ?_
  rcases bE (decide (eG s ⟨#[45]⟩=⟨#[]⟩)) with b0|b0
  ·
   refine aX J J J b0<|aX J J J b0<|aX J J J b0<|k<|aP J J J J b0 J<|ai (v:=.bool true) J J<|aX J J J J<|aX J J J J<|aX J J J J<|aX J J J J<|k<|gu J J J<|k<|gu J J J<|aX J J J J<|k<|aP J J J J J J<|aq<|oW J J J<|az<|ak (v:=I 0) J J<|ak (v:=I 2) J J<|aq<|rt<|IL ?_
   have vy:gj s=(0,2):=FE<|by simp only[lR,b0,BL]
   refine r2 J J J ?_
   have e0:(0:Int)=(gj s).1:=by rw[vy]
   have e1:(2:Int)=(gj s).2:=by rw[vy]
   have bq:=nG (fun (b9:Int) (dO:Int)=>(.tuple #[I b9,I dO]:Value)) e0 e1
   exact⟨bq,H0.below⟩
  have p0:=dF b0
  refine aZ J J J b0<|mv (v:=.string (eG s ⟨#[45]⟩)) J J<|aZ J J J b0 ?_
  have cU:=Cn (s:=(eG s ⟨#[45]⟩)) (cs:=⟨#[48,49,50,51,52,53,54,55,56,57]⟩) (w:=w0) (by exact Nat.le_trans (re _ _) ll) au<|by exact HR
  refine ca Y5 J (ec J<|ec J e0) cU ?_
  rintro _ w2 ⟨rfl,df⟩
  have H1:=H0.ext df
  refine aZ J J J b0<|neS J J J J<|k<|dG J J J J b0 J<|ai (v:=.bool (!decide (trimB (eG s ⟨#[45]⟩) ⟨#[48,49,50,51,52,53,54,55,56,57]⟩=⟨#[]⟩))) J J ?_
  rcases bE (!decide (trimB (eG s ⟨#[45]⟩) ⟨#[48,49,50,51,52,53,54,55,56,57]⟩=⟨#[]⟩)) with b1|b1
  ·
   have p1:=dF<|fX b1
   refine aX J J J b1<|aX J J J b1<|aX J J J b1<|aX J J J b1<|k<|gu J J J<|k<|gu J J J<|aX J J J b1<|k<|aP J J J J b1 J<|aq<|oW J J J<|az<|ak (v:=I 0) J J<|ak (v:=I 2) J J<|aq<|rt<|IL ?_
   have vy:gj s=(0,2):=FE<|by simp only[lR,b0,(fX b1),BL]
   refine r2 J J J ?_
   have e0:(0:Int)=(gj s).1:=by rw[vy]
   have e1:(2:Int)=(gj s).2:=by rw[vy]
   have bq:=nG (fun (b9:Int) (dO:Int)=>(.tuple #[I b9,I dO]:Value)) e0 e1
   exact⟨bq,H1.below⟩
  have p1:=dT<|fw b1
  refine aZ J J J b1<|mv (v:=.string (eG s ⟨#[45]⟩)) J J<|aZ J J J b1<|Ye J J J J (by exact⟨ari _,aaY p0⟩) lY<|aZ J J J b1<|eql J J J J<|aZ J J J b1<|mv (v:=.bool (decide ((sT (eG s ⟨#[45]⟩) 0)=48))) J J ?_
  rcases bE (decide ((sT (eG s ⟨#[45]⟩) 0)=48)) with b2|b2
  ·
   refine aZ J J J b2<|mv J i0<|aZ J J J b2<|neS J J J J<|aZ J J J b1<|aP J J J J b2 J<|k<|dG J J J J b1 J<|z<|nx<|cd (b:=!decide (s=⟨#[48]⟩)) J J (fun b3=>?_)<|fun b3=>?_
   ·
    have p3:=dF<|fX b3
    refine az<|ak (v:=I 0) J J<|ak (v:=I 2) J J<|aq<|rt<|IL ?_
    have vy:gj s=(0,2):=FE<|by simp only[lR,b0,(fw b1),b2,(fX b3),BL]
    refine r2 J J J ?_
    have e0:(0:Int)=(gj s).1:=by rw[vy]
    have e1:(2:Int)=(gj s).2:=by rw[vy]
    have bq:=nG (fun (b9:Int) (dO:Int)=>(.tuple #[I b9,I dO]:Value)) e0 e1
    exact⟨bq,H1.below⟩
   have p3:=dT<|fw b3
   refine sk<|BA ⟨J,J,H1,(by simp only[lR,b0,(fw b1),b2,(fw b3),BL])⟩
  refine aX J J J b2<|aX J J J b2<|aZ J J J b1<|dG J J J J b2 J<|k<|dG J J J J b1 J<|aq<|pk J J J<|sk<|BA ⟨J,J,H1,(by simp only[lR,b0,(fw b1),b2,BL])⟩
 ·
  rintro f0 w1 ⟨s0,s1,H3,C_⟩
  refine az<|ak (v:=ag (9223372036854775807#64)) J J<|z<|nx<|cut (fun f w'=>∃(m_:bp),f 4=.string (eG s ⟨#[45]⟩)∧f 5=.bool (jP s ⟨#[45]⟩)∧f 6=ag m_∧HI (fun _=>False) w w' []∧(m_.toNat=oM s)) ?_ ?_
  ·
   refine az<|ai J s1<|z<|nx<|cd (b:=jP s ⟨#[45]⟩) J J (fun b3=>?_)<|fun b3=>?_
   ·
    refine rg<|ai (v:=ag (9223372036854775807#64)) J J<|k<|IY (9223372036854775807#64) (1#64) J J J J<|ak (v:=ag ((9223372036854775807#64)+(1#64))) J J<|z<|BA ⟨((9223372036854775807#64)+(1#64)),s0,s1,(Ot J<|by rfl),H3,(by unfold oM;rw[b3];rfl)⟩
   refine sk<|BA ⟨(9223372036854775807#64),s0,s1,(Ot J<|by rfl),H3,(by unfold oM;rw[b3];rfl)⟩
  ·
   rintro f1 w3 ⟨m_,s2,s3,s4,H5,Wx⟩
   refine az<|ak (v:=ag (0#64)) J J<|aq<|sq<|az<|ai J s2<|k<|akd H5 J J (by exact Nat.le_trans (re _ _) ll) lY Cg Ei ?_
   intro a0 c0 w4 eS (H6:HI (fun _=>False) w w4 [iL a0 (gU (eG s ⟨#[45]⟩)) c0])
   refine k<|dL J J Cg<|ai (v:=I 0) J J<|aq<|bk<|lp (fun m f w'=>∃(j_:Nat) (yE:bp),m=(gU<|eG s ⟨#[45]⟩).length-j_∧f 5=.bool (jP s ⟨#[45]⟩)∧f 6=ag m_∧f 7=ag yE∧f 36=sL a0 (gU<|eG s ⟨#[45]⟩) c0∧f 37=I ((gU<|eG s ⟨#[45]⟩).length:Int)∧f 38=I (j_:Int)∧HI (fun _=>False) w w' [iL a0 (gU<|eG s ⟨#[45]⟩) c0]∧(j_≤(gU<|eG s ⟨#[45]⟩).length)∧(mX m_.toNat (BB s).data.toList 0=mX m_.toNat ((BB s).data.toList.drop j_) yE.toNat)) _ ⟨0,(0#64),J,s3,s4,(Ot J<|by rfl),J,J,(bH J),H6,aj,(by rfl)⟩ ?_
   rintro _ f2 w5 ⟨j_,yE,rfl,s5,s6,s7,s8,s9,ej,H7,pj,hs⟩
   refine sq ?_
   have am7:=aak s
   have ajf:(gU (eG s ⟨#[45]⟩)).length≤s.size:=by rw[ns];exact re _ _
   refine rg<|k<|lss J J ej s9<|aq<|sq<|cd (b:=decide ((j_:Int)<((gU<|eG s ⟨#[45]⟩).length:Int))) J J (fun b4=>?_)<|fun b4=>?_
   ·
    have p4:=dT b4
    refine sk<|nx<|sq<|bk<|az<|k<|ia (H7.rv 0 J) J J s8 ej aj Cg I6 ?_
    intro iG x0 aM cw
    refine k<|ld8 cw.w I6 J J<|ak (v:=U8 x0) J J<|bw<|ai (v:=U8 x0) J J<|k<|abD J J J J (by have h_:=Uk (PU C_) aM;omega)<|k<|PE J J Ei P_<|ak (v:=ag (BitVec.ofInt 64<|(x0.toNat:Int)-48)) J J<|aq<|sq<|sq ?_
    have hd_:=Uk (PU C_) aM
    refine rg<|ai J s7<|ai J s6<|ai (v:=ag (BitVec.ofInt 64<|(x0.toNat:Int)-48)) J J<|k<|abC m_ (BitVec.ofInt 64<|(x0.toNat:Int)-48) J J J J<|k<|aiC (m_-(BitVec.ofInt 64<|(x0.toNat:Int)-48)) (10#64) au J J J J<|k<|YV yE ((m_-(BitVec.ofInt 64<|(x0.toNat:Int)-48))/(10#64)) J J J J<|z<|nx<|cd (b:=decide (((m_-(BitVec.ofInt 64<|(x0.toNat:Int)-48))/(10#64)).toNat<yE.toNat)) J J (fun b5=>?_)<|fun b5=>?_
    ·
     refine az<|ak (v:=I 0) J J<|ak (v:=I 3) J J<|aq<|rt<|aL<|bS<|aL<|dY<|bS<|aL ?_
     have vy:gj s=(0,3):=V4 C_<|by rw[←Wx];exact aai hd_ aj (IV aM) hs bt
     refine r2 J J J ?_
     have e0:(0:Int)=(gj s).1:=by rw[vy]
     have e1:(3:Int)=(gj s).2:=by rw[vy]
     have bq:=nG (fun (b9:Int) (dO:Int)=>(.tuple #[I b9,I dO]:Value)) e0 e1
     exact⟨bq,H7.below⟩
    have p5:=dF b5
    refine sk<|nx<|rg<|ai J s7<|k<|FJ (10#64) yE J J J J<|ai (v:=ag (BitVec.ofInt 64<|(x0.toNat:Int)-48)) J J<|k<|IY ((10#64)*yE) (BitVec.ofInt 64<|(x0.toNat:Int)-48) J J J J<|ak (v:=ag (((10#64)*yE)+(BitVec.ofInt 64<|(x0.toNat:Int)-48))) J J<|z<|aF<|nx<|rg<|k<|add J J ej J aR<|ai (v:=I ((j_:Int)+1)) J J<|z<|bF _ ?_ ⟨(j_+1),(((10#64)*yE)+(BitVec.ofInt 64<|(x0.toNat:Int)-48)),J,s5,s6,(Ot J<|by rfl),s8,s9,(bH J),H7,aj,(by exact VY hd_ aj (IV aM) hs bt)⟩
    omega
   have p4:=dF b4
   refine ex<|aT<|aY<|bf<|nx<|sq<|az<|ai J s5<|z<|nx<|cd (b:=jP s ⟨#[45]⟩) J J (fun b5=>?_)<|fun b5=>?_
   ·
    refine az<|ai J s7<|k<|acp yE J J<|k<|cvT J J P_ zU<|ak (v:=I ((-yE).toInt)) J J<|ak (v:=I 0) J J<|aq<|rt<|aL ?_
    have vy:=V3 C_ bt<|by rw[←Wx];exact OZ hs (by have h_:=ns (eG s ⟨#[45]⟩);rw[aoM];show (eG s ⟨#[45]⟩).size≤_;omega)
    refine r2 J J J ?_
    have e0:((-yE).toInt:Int)=(gj s).1:=by rw[vy]
    have e1:(0:Int)=(gj s).2:=by rw[vy]
    have bq:=nG (fun (b9:Int) (dO:Int)=>(.tuple #[I b9,I dO]:Value)) e0 e1
    exact⟨bq,H7.below⟩
   refine sk<|cO<|ai J s7<|k<|cvT J J P_ zU<|ak (v:=I yE.toInt) J J<|ak (v:=I 0) J J<|aq<|rt ?_
   have vy:=V1 C_ bt<|by rw[←Wx];exact OZ hs (by have h_:=ns (eG s ⟨#[45]⟩);rw[aoM];show (eG s ⟨#[45]⟩).size≤_;omega)
   refine r2 J J J ?_
   have e0:(yE.toInt:Int)=(gj s).1:=by rw[vy]
   have e1:(0:Int)=(gj s).2:=by rw[vy]
   have bq:=nG (fun (b9:Int) (dO:Int)=>(.tuple #[I b9,I dO]:Value)) e0 e1
   exact⟨bq,H7.below⟩
end Go.Proofs.YtgjakhpjmapelaaGreatDoor
