/- PRINTED by my own tool (wip/tool/gen.py): contracts of Go functions of this seat, each with its proof. -/
import Derived.Test.YtgjakhpjmapelaaGreatDoorQwnB
import Derived.Test.YtgjakhpjmapelaaGreatDoorQwnC
import Derived.Test.YtgjakhpjmapelaaGreatDoorIenC
import Derived.Test.YtgjakhpjmapelaaGreatDoorIenB
import Derived.Test.YtgjakhpjmapelaaGreatDoorIenA
import Derived.Test.YtgjakhpjmapelaaGreatDoorQwnD
import Derived.Test.YtgjakhpjmapelaaGreatDoorQwnA
set_option linter.unusedVariables false
set_option linter.unusedSimpArgs false
namespace Go.Proofs.YtgjakhpjmapelaaGreatDoor
open Go.Ew Go.RowKit
set_option maxRecDepth 100000
set_option maxHeartbeats 1600000
attribute [local irreducible] WL WC SO PW PX PZ WE Code.wp wpList sM ck
attribute [local irreducible] ku yA jH fy eo A3 D4 LQ words ej cZ jT fJ wy
variable {M:cg} {w w_:aJ}
variable {aC aA ay xe xc bG dE jW gZ:OA} {aF aB az ax xb xa bF eL dD kE dY j8 qN gY:Nat} {I:List aO} {U:aE} {kd fG lv x_ mn cn o xx at_:Int} {a b:List bw} {mr cr:List (List bw)} {l9:TypeId} {r:List Go.Ew.Item} {fv:List aY} {s cs p_:aY} {qQ:List Value} {h:List (List (Bool×aY×Int))}
theorem DZ:gV aM 33 0 0:=j1 Tryz.underlying33
theorem aks:cD aM 78:=cE Tryz.func78
theorem yH:gV aM 33 6 6:=j1 Tryz.underlying33
theorem vZ:gV aM 33 5 5:=j1 Tryz.underlying33
theorem afd:gV aM 33 7 7:=j1 Tryz.underlying33
theorem akr:cD aM 80:=cE Tryz.func80
theorem aeV:cD aM 83:=cE Tryz.func83
theorem ae3:cD aM 16:=cE Tryz.func16
theorem akB:cD aM 53:=cE Tryz.func53
theorem Wi {j6:Int} {lS:Int} {gB:Int} {Is:OA} {Hd Ii:Nat} {Uz:Value} {SQ:Value} (hM:eC M w) (hT:fY 0 w) (cW:cz M w aA az I) (fC:cz M w ay ax U) (lY:aK kd) (HD:aK fG) (BZ:aK j6) (Zh:aK lS) (zu:aK gB) (ho:ij I) (dG:I.length≤64) (ey:U.length=I.length) (fP:∀x∈U,x<((I.length:Nat):Int)) (adD:kd=6∨kd=7→0≤gB∧gB<((I.length:Nat):Int)):Calls aM 53 #[.agg #[.slice aC aF aB,R aA I az,R ay U ax],.agg #[C kd,C fG,C j6,C lS,C gB,.slice Is Hd Ii,Uz,SQ]] w (ck fun v w'=>∃(iG:List cP) (f_:Int) (s_:Int) (a0:OA) (c0:Nat),v=.tuple #[.agg #[C kd,C fG,C j6,C lS,C gB,R a0 iG c0,C f_,C s_],C 0]∧Ext w w'∧cz M w' a0 c0 iG):=by
 refine dv 113 Tryz.func53 J J J hM fun f0 ha H=>?_
 let J0:=iL aA I az
 have H0:=H.put (it:=J0) J<|by rw[bQ];exact cW
 let J1:=iL ay U ax
 have H1:=H0.put (it:=J1) J<|by rw[aG rfl,bQ];exact fC
 have iE:=bg cW
 have kh:=bg fC
 have i0:f0 0=.agg #[.slice aC aF aB,R aA I az,R ay U ax]:=ha 0 bm
 have i1:f0 1=.agg #[C kd,C fG,C j6,C lS,C gB,.slice Is Hd Ii,Uz,SQ]:=ha 1 bm
 have Bs:=Nz U<|show I.length≤4096 by omega
 have QT:=pS U<|show I.length≤4096 by omega
 refine aD<|k<|bx H1 J i0 ?_
 intro aX w0 bY (H2:HI M w w0 [box aX #[.slice aC aF aB,R aA I az,R ay U ax] 47,J1,J0])
 let J2:=box aX #[.slice aC aF aB,R aA I az,R ay U ax] 47
 refine k<|bx H2 J i1 ?_
 intro bj w1 cS (H3:HI M w w1 [box bj #[C kd,C fG,C j6,C lS,C gB,.slice Is Hd Ii,Uz,SQ] 33,J2,J1,J0])
 let J3:=box bj #[C kd,C fG,C j6,C lS,C gB,.slice Is Hd Ii,Uz,SQ] 33
 refine k<|al H3 bV ?_
 intro bK w2 fm (H4:HI M w w2 [box bK #[C 0,C 0,C 0,C 0,C 0,.slice none 0 0,C 0,C 0] 33,J3,J2,J1,J0])
 let J4:=box bK #[C 0,C 0,C 0,C 0,C 0,.slice none 0 0,C 0,C 0] 33
 refine au (v:=C 0) J J<|bz<|aU DZ J J<|bq H4 1 J aT J J J<|aU so J J<|bq H4 1 J aT J J J<|aU qg J J<|bq H4 1 J aT J J J<|aU HQ J J<|bq H4 1 J aT J J J<|aU pg J J<|bq H4 1 J aT J J J<|k<|bd (v:=.agg #[C kd,C fG,C j6,C lS,C gB,.slice none 0 0,C (-1),C (-1)]) J (ct J<|ct J<|ct J<|ct J<|ct J<|ct J<|ct J eA) (fun _=>aV)<|k<|al H4 bV ?_
 intro fj w3 fg (H5:HI M w w3 [box fj #[C 0,C 0,C 0,C 0,C 0,.slice none 0 0,C 0,C 0] 33,J4,J3,J2,J1,J0])
 refine k<|bA H5 0 J bV J J J J J J J ?_
 let J5:=box fj #[C kd,C fG,C j6,C lS,C gB,.slice none 0 0,C (-1),C (-1)] 33
 intro w4 (H6:HI M w w4 [J5,J4,J3,J2,J1,J0])
 refine av<|sq<|mw [.r,.r,.r,.e,.e] (fun _=>True) J aV (fun _ _=>trivial)<|yq J J<|kq (fun _ x_=>cC (H6.ext x_) 3 J dt J J aw J e1)<|bS<|kq (fun _ x_=>cC (H6.ext x_) 3 J dt J J aw J e1)<|zq<|yu J (fun _ v w'=>∃(a0:OA) (c0:Nat),v=.agg #[C (I.length:Int),R a0 (kA I U) c0]∧RV H6.eI w' (R a0 (kA I U) c0) (kA I U)) J oA J (fun v_ _ x_ _=>have df:=Fm (I:=I) (U:=U) (aC:=aC) (aF:=aF) (aB:=aB) (w:=v_) (H6.ext x_).mb ((H6.ext x_).rv 5 rfl) ((H6.ext x_).rv 4 rfl) (by exact ho) aq (by exact ey) (by exact fP);ca aeY rfl (ec J e0) df (fun _ w6 ⟨a1,c1,e_,je,dN⟩=>⟨_,J,je,⟨a1,c1,e_,dN⟩⟩))<|ye<|ye<|yz ?_
 intro w7 f0 _ jE _ _ cG jc
 have db:=H6.ext jE
 have s0:=cG 2 J
 have s1:=cG 3 J
 have s2:=cG 4 J
 have s3:=cG 6 J
 have s4:=cG 21 J
 obtain⟨a2,c2,s5,dH⟩:=jc 0 _ _ rfl
 let J6:=iL a2 (kA I U) c2
 have dq:=db.put (it:=J6) J dH
 refine km ?_
 have cM:HI M w w7 ([J0,J1,J6]++[J5,J4,J3,J2]):=dq.bX [6,5,0,1,2,3,4] aw J
 have fF:=OE (aC:=aC) (aF:=aF) (aB:=aB) (aA:=aA) (az:=az) (I:=I) (ay:=ay) (ax:=ax) (U:=U) (mn:=(I.length:Int)) (bG:=a2) (bF:=c2) (mr:=(kA I U)) (w:=w) (w_:=w7) (r:=[J5,J4,J3,J2]) (M:=M) aS cM
 refine ca aks J (ec s4<|ec s5 e0) fF ?_
 rintro _ w8 ⟨gT,a3,c3,dQ,fW,rfl,dR⟩
 let J7:=box gT #[.slice aC aF aB,R aA I az,R ay U ax,R a3 ([]:List cP) c3,.map (some dQ),C (I.length:Int),R a2 (kA I U) c2,.map (some fW)] 142
 let J8:=oL w 175 a3 ([]:List cP) c3
 let J9:=cj dQ ([]:KV)
 let bf:=[J8,J9,bW fW ([]:List ((Int×Int)×Bool)),J0,J1,J6,J5,J4,J3,J2]
 have dI:HI M w w8 (J7::bf):=dR
 refine km<|jV (v:=pV gT 0) J J<|kz<|nx<|sq<|aD<|aU DZ J s1<|bq dI 9 J aT J J J<|av<|bk<|aD<|k<|eql J J J J<|au (v:=.bool (decide (kd=2))) J J<|z<|nx<|cd (b:=decide (kd=2)) J J (fun b0=>?_)<|fun b0=>?_
 ·
  refine rg<|ak (v:=pV gT 0) J J<|aU pg J s1<|bq dI 9 J aT J J J<|aU pg J s1<|bq dI 9 J aT J J J<|k ?_
  have cR:HI M w w8 ([J7,J0,J1,J8,J9,J6,bW fW ([]:List ((Int×Int)×Bool))]++[J5,J4,J3,J2]):=dI.bX [0,4,5,1,2,6,3,7,8,9,10] aw J
  have fc:=mM (da:=gT) (aC:=aC) (aF:=aF) (aB:=aB) (aA:=aA) (az:=az) (I:=I) (ay:=ay) (ax:=ax) (U:=U) (eF:=a3) (eE:=c3) (sp:=([]:List cP)) (bD:=dQ) (mp:=([]:KV)) (pn:=(I.length:Int)) (dm:=a2) (dh:=c2) (pr:=(kA I U)) (bN:=fW) (mq:=([]:List ((Int×Int)×Bool))) (f_:=gB) (t_:=gB) (w:=w) (w_:=w8) (r:=[J5,J4,J3,J2]) (M:=M) aS zu zu hT (by simp only[gC];omega) aq (by exact ey) (by exact dG) (by exact Bs) cR
  refine ca Ac J (ec J<|ec J<|ec J e0) fc ?_
  rintro _ w9 ⟨o0,o1,o2,a4,c4,rfl,dX,q0,q1⟩
  let d_:=box gT #[.slice aC aF aB,R aA I az,R ay U ax,R a4 o1 c4,.map (some dQ),C (I.length:Int),R a2 (kA I U) c2,.map (some fW)] 142
  have dV:HI M w w9 [d_,J0,J1,oL w 175 a4 o1 c4,cj dQ o2,J6,bW fW ([]:List ((Int×Int)×Bool)),J5,J4,J3,J2]:=dX
  refine aU yH J s3<|k<|bA dV 7 J aT J J J J J J J ?_
  intro dL (cJ:HI M w dL [d_,J0,J1,oL w 175 a4 o1 c4,cj dQ o2,J6,bW fW ([]:List ((Int×Int)×Bool)),box fj #[C kd,C fG,C j6,C lS,C gB,.slice none 0 0,C o0,C (-1)] 33,J4,J3,J2])
  refine z<|aH<|cQ<|ak (v:=pV gT 0) J J<|k<|nc J J<|aU l5 J J<|bq cJ 0 J nQ J J J<|aU vZ J s3<|k<|bA cJ 7 J nQ J J J J J J J ?_
  let eJ:=box fj #[C kd,C fG,C j6,C lS,C gB,R a4 o1 c4,C o0,C (-1)] 33
  intro ew (ef:HI M w ew [d_,J0,J1,oL w 175 a4 o1 c4,cj dQ o2,J6,bW fW ([]:List ((Int×Int)×Bool)),eJ,J4,J3,J2])
  refine bz<|k<|cC ef 7 J bV J s3 aw J<|k<|bA ef 8 J bV J J s2 J J J J ?_
  intro fq (dA:HI M w fq [d_,J0,J1,oL w 175 a4 o1 c4,cj dQ o2,J6,bW fW ([]:List ((Int×Int)×Bool)),eJ,box bK #[C kd,C fG,C j6,C lS,C gB,R a4 o1 c4,C o0,C (-1)] 33,J3,J2])
  refine au (v:=C 0) J J<|av<|rt<|iB dA 8 J bV J J J s2 J aw ?_
  exact⟨o1,o0,(-1),a4,c4,J,dA.below,(dA.mD 3 J)⟩
 have p0:=dF b0
 refine aD<|k<|eql J J J J<|au (v:=.bool (decide (kd=3))) J J<|z<|nx<|cd (b:=decide (kd=3)) J J (fun b1=>?_)<|fun b1=>?_
 ·
  refine rg<|ak (v:=pV gT 0) J J<|aU qg J s1<|bq dI 9 J aT J J J<|aU so J s1<|bq dI 9 J aT J J J<|k ?_
  have cR:HI M w w8 ([J7,J0,J1,J8,J9,J6,bW fW ([]:List ((Int×Int)×Bool))]++[J5,J4,J3,J2]):=dI.bX [0,4,5,1,2,6,3,7,8,9,10] aw J
  have fc:=mM (da:=gT) (aC:=aC) (aF:=aF) (aB:=aB) (aA:=aA) (az:=az) (I:=I) (ay:=ay) (ax:=ax) (U:=U) (eF:=a3) (eE:=c3) (sp:=([]:List cP)) (bD:=dQ) (mp:=([]:KV)) (pn:=(I.length:Int)) (dm:=a2) (dh:=c2) (pr:=(kA I U)) (bN:=fW) (mq:=([]:List ((Int×Int)×Bool))) (f_:=j6) (t_:=fG) (w:=w) (w_:=w8) (r:=[J5,J4,J3,J2]) (M:=M) aS BZ HD hT (by simp only[gC];omega) aq (by exact ey) (by exact dG) (by exact Bs) cR
  refine ca Ac J (ec J<|ec J<|ec J e0) fc ?_
  rintro _ w9 ⟨o0,o1,o2,a4,c4,rfl,dX,q0,q1⟩
  let fZ:=box gT #[.slice aC aF aB,R aA I az,R ay U ax,R a4 o1 c4,.map (some dQ),C (I.length:Int),R a2 (kA I U) c2,.map (some fW)] 142
  have dV:HI M w w9 [fZ,J0,J1,oL w 175 a4 o1 c4,cj dQ o2,J6,bW fW ([]:List ((Int×Int)×Bool)),J5,J4,J3,J2]:=dX
  refine aU yH J s3<|k<|bA dV 7 J aT J J J J J J J ?_
  intro dL (cJ:HI M w dL [fZ,J0,J1,oL w 175 a4 o1 c4,cj dQ o2,J6,bW fW ([]:List ((Int×Int)×Bool)),box fj #[C kd,C fG,C j6,C lS,C gB,.slice none 0 0,C o0,C (-1)] 33,J4,J3,J2])
  refine z<|aH<|cQ<|ak (v:=pV gT 0) J J<|k<|nc J J<|aU l5 J J<|bq cJ 0 J nQ J J J<|aU vZ J s3<|k<|bA cJ 7 J nQ J J J J J J J ?_
  let fI:=box fj #[C kd,C fG,C j6,C lS,C gB,R a4 o1 c4,C o0,C (-1)] 33
  intro ew (ef:HI M w ew [fZ,J0,J1,oL w 175 a4 o1 c4,cj dQ o2,J6,bW fW ([]:List ((Int×Int)×Bool)),fI,J4,J3,J2])
  refine bz<|k<|cC ef 7 J bV J s3 aw J<|k<|bA ef 8 J bV J J s2 J J J J ?_
  intro fq (dA:HI M w fq [fZ,J0,J1,oL w 175 a4 o1 c4,cj dQ o2,J6,bW fW ([]:List ((Int×Int)×Bool)),fI,box bK #[C kd,C fG,C j6,C lS,C gB,R a4 o1 c4,C o0,C (-1)] 33,J3,J2])
  refine au (v:=C 0) J J<|av<|rt<|iB dA 8 J bV J J J s2 J aw ?_
  exact⟨o1,o0,(-1),a4,c4,J,dA.below,(dA.mD 3 J)⟩
 have p1:=dF b1
 refine aD<|k<|eql J J J J<|au (v:=.bool (decide (kd=4))) J J<|z<|nx<|cd (b:=decide (kd=4)) J J (fun b2=>?_)<|fun b2=>?_
 ·
  refine mw [.r,.r,.r,.r,.r,.e,.s,.f,.f,.f,.f,.e,.f,.e,.f,.e] (fun w'=>HI M w w' [J3]) J aV (fun _ x_=>(dI.bX (l':=[J3]) [9] aw J).ext x_)<|yq J J<|kq (fun _ _=>mv (v:=pV gT 0) J J e1)<|bS<|kq (fun _ _=>fa qg J s1 e1)<|bS<|kq (fun _ x_=>lx (dI.ext x_) 9 J aT J J J e1)<|bS<|kq (fun _ _=>fa HQ J s1 e1)<|bS<|kq (fun _ x_=>lx (dI.ext x_) 9 J aT J J J e1)<|zq<|ye<|yq J J<|kq (fun _ _=>mv (v:=pV gT 0) J J e1)<|zq<|yf J (fun _ _=>fa HQ J s1 e3)<|yf J (fun _ i_=>lx i_ 0 J aT J J J e3)<|yf J (fun _ _=>fa so J s1 e3)<|yf J (fun _ i_=>lx i_ 0 J aT J J J e3)<|ye<|yf J (fun _ _=>fa yH J s3 e3)<|ye<|yf J (fun _ _=>fa afd J s3 e3)<|ye<|yz ?_
  intro w9 f1 _ lk _ _ fO AN
  have cR:=dI.ext lk
  have s6:=(fO 4 J).trans s2
  have s7:=(fO 6 J).trans s3
  have s8:=fO 7 J
  have s9:=fO 47 J
  have ei:=fO 49 J
  have eR:=fO 51 J
  have fM:=fO 53 J
  have fL:=fO 55 J
  have gv:=fO 57 J
  have gH:=fO 59 J
  have jZ:=fO 60 J
  refine ke ?_
  let bZ:=[J6,bW fW ([]:List ((Int×Int)×Bool))]
  have dX:HI M w w9 ((J7::J0::J1::J8::J9::bZ)++[J5,J4,J3,J2]):=cR.bX [0,4,5,1,2,6,3,7,8,9,10] aw J
  have fc:=mM (da:=gT) (aC:=aC) (aF:=aF) (aB:=aB) (aA:=aA) (az:=az) (I:=I) (ay:=ay) (ax:=ax) (U:=U) (eF:=a3) (eE:=c3) (sp:=([]:List cP)) (bD:=dQ) (mp:=([]:KV)) (pn:=(I.length:Int)) (dm:=a2) (dh:=c2) (pr:=(kA I U)) (bN:=fW) (mq:=([]:List ((Int×Int)×Bool))) (f_:=j6) (t_:=lS) (w:=w) (w_:=w9) (r:=[J5,J4,J3,J2]) (M:=M) aS BZ Zh hT (by simp only[gC];omega) aq (by exact ey) (by exact dG) (by exact Bs) dX
  refine ca Ac J (ec s9<|ec ei<|ec eR e0) fc ?_
  rintro _ dL ⟨o0,o1,o2,a4,c4,rfl,dV,q0,q1⟩
  let iz:=box gT #[.slice aC aF aB,R aA I az,R ay U ax,R a4 o1 c4,.map (some dQ),C (I.length:Int),R a2 (kA I U) c2,.map (some fW)] 142
  let eh:=[J6,bW fW ([]:List ((Int×Int)×Bool)),J5,J4,J3,J2]
  have cJ:HI M w dL (iz::J0::J1::oL w 175 a4 o1 c4::cj dQ o2::eh):=dV
  refine⟨cJ.bX [9] aw rfl,?_⟩
  refine ke ?_
  have ef:HI M w dL ((iz::J0::J1::oL w 175 a4 o1 c4::cj dQ o2::bZ)++[J5,J4,J3,J2]):=cJ.bX [0,1,2,3,4,5,6,7,8,9,10] aw J
  have my:=mM (da:=gT) (aC:=aC) (aF:=aF) (aB:=aB) (aA:=aA) (az:=az) (I:=I) (ay:=ay) (ax:=ax) (U:=U) (eF:=a4) (eE:=c4) (sp:=o1) (bD:=dQ) (mp:=o2) (pn:=(I.length:Int)) (dm:=a2) (dh:=c2) (pr:=(kA I U)) (bN:=fW) (mq:=([]:List ((Int×Int)×Bool))) (f_:=lS) (t_:=fG) (w:=w) (w_:=dL) (r:=[J5,J4,J3,J2]) (M:=M) aS Zh HD hT (by simp only[gC] at *;omega) aq (by exact ey) (by exact dG) (by exact Bs) ef
  refine ca Ac J (ec fM<|ec fL<|ec gv e0) my ?_
  rintro _ ew ⟨o3,o4,o5,a5,c5,rfl,dA,q2,q3⟩
  let nP:=box gT #[.slice aC aF aB,R aA I az,R ay U ax,R a5 o4 c5,.map (some dQ),C (I.length:Int),R a2 (kA I U) c2,.map (some fW)] 142
  let lK:=oL w 175 a5 o4 c5
  have fe:HI M w ew (nP::J0::J1::lK::cj dQ o5::eh):=dA
  refine⟨fe.bX [9] aw rfl,?_⟩
  refine ke<|bA fe 7 J aT J J gH J J J J ?_
  intro fq (fw:HI M w fq [nP,J0,J1,lK,cj dQ o5,J6,bW fW ([]:List ((Int×Int)×Bool)),box fj #[C kd,C fG,C j6,C lS,C gB,.slice none 0 0,C o0,C (-1)] 33,J4,J3,J2])
  refine⟨fw.bX [9] aw rfl,?_⟩
  refine ke<|bA fw 7 J aT J J jZ J J J J ?_
  intro iF (gl:HI M w iF [nP,J0,J1,lK,cj dQ o5,J6,bW fW ([]:List ((Int×Int)×Bool)),box fj #[C kd,C fG,C j6,C lS,C gB,.slice none 0 0,C o0,C o3] 33,J4,J3,J2])
  refine⟨gl.bX [9] aw rfl,?_⟩
  refine kz<|aH<|cQ<|ak J s8<|k<|nc J J<|aU l5 J J<|bq gl 0 J nQ J J J<|aU vZ J s7<|k<|bA gl 7 J nQ J J J J J J J ?_
  let rU:=box fj #[C kd,C fG,C j6,C lS,C gB,R a5 o4 c5,C o0,C o3] 33
  intro jF (iR:HI M w jF [nP,J0,J1,lK,cj dQ o5,J6,bW fW ([]:List ((Int×Int)×Bool)),rU,J4,J3,J2])
  refine bz<|k<|cC iR 7 J bV J s7 aw J<|k<|bA iR 8 J bV J J s6 J J J J ?_
  intro oU (iQ:HI M w oU [nP,J0,J1,lK,cj dQ o5,J6,bW fW ([]:List ((Int×Int)×Bool)),rU,box bK #[C kd,C fG,C j6,C lS,C gB,R a5 o4 c5,C o0,C o3] 33,J3,J2])
  refine au (v:=C 0) J J<|av<|rt<|iB iQ 8 J bV J J J s6 J aw ?_
  exact⟨o4,o0,o3,a5,c5,J,iQ.below,(iQ.mD 3 J)⟩
 have p2:=dF b2
 refine aD<|k<|eql J J J J<|au (v:=.bool (decide (kd=5))) J J<|z<|nx<|cd (b:=decide (kd=5)) J J (fun b3=>?_)<|fun b3=>?_
 ·
  refine aD<|ak (v:=pV gT 0) J J<|k ?_
  have cR:HI M w w8 ([J7,J0,J1,J8,J9,J6,bW fW ([]:List ((Int×Int)×Bool))]++[J5,J4,J3,J2]):=dI.bX [0,4,5,1,2,6,3,7,8,9,10] aw J
  have fc:=G7 (da:=gT) (aC:=aC) (aF:=aF) (aB:=aB) (aA:=aA) (az:=az) (I:=I) (ay:=ay) (ax:=ax) (U:=U) (eF:=a3) (eE:=c3) (sp:=([]:List cP)) (bD:=dQ) (mp:=([]:KV)) (pn:=(I.length:Int)) (dm:=a2) (dh:=c2) (pr:=(kA I U)) (bN:=fW) (mq:=([]:List ((Int×Int)×Bool))) (w:=w) (w_:=w8) (r:=[J5,J4,J3,J2]) (M:=M) aS hT (by exact ho) (by exact dG) (by exact ey) (by exact fP) aq (by exact Bs) (by simp only[gC];omega) cR
  refine ca akr J (ec J e0) fc ?_
  rintro _ w9 ⟨o0,o1,o2,a4,c4,a5,c5,rfl,dX,q0,q1⟩
  let jI:=box gT #[.slice aC aF aB,R aA I az,R ay U ax,R a4 o0 c4,.map (some dQ),C (I.length:Int),R a5 o2 c5,.map (some fW)] 142
  let jz:=[iL a5 o2 c5,bW fW ([]:List ((Int×Int)×Bool)),J5,J4,J3,J2]
  have dV:HI M w w9 (jI::J0::J1::oL w 175 a4 o0 c4::cj dQ o1::jz):=dX
  refine av<|rg<|ak (v:=pV gT 0) J J<|aU pg J s1<|bq dV 9 J aT J J J<|aU pg J s1<|bq dV 9 J aT J J J<|k ?_
  have cJ:HI M w w9 ([jI,J0,J1,oL w 175 a4 o0 c4,cj dQ o1,iL a5 o2 c5,bW fW ([]:List ((Int×Int)×Bool))]++[J5,J4,J3,J2]):=dV.bX [0,1,2,3,4,5,6,7,8,9,10] aw J
  have my:=mM (da:=gT) (aC:=aC) (aF:=aF) (aB:=aB) (aA:=aA) (az:=az) (I:=I) (ay:=ay) (ax:=ax) (U:=U) (eF:=a4) (eE:=c4) (sp:=o0) (bD:=dQ) (mp:=o1) (pn:=(I.length:Int)) (dm:=a5) (dh:=c5) (pr:=o2) (bN:=fW) (mq:=([]:List ((Int×Int)×Bool))) (f_:=gB) (t_:=gB) (w:=w) (w_:=w9) (r:=[J5,J4,J3,J2]) (M:=M) aS zu zu hT (by simp only[gC] at *;omega) aq (by exact ey) (by exact dG) bu cJ
  refine ca Ac J (ec J<|ec J<|ec J e0) my ?_
  rintro _ dL ⟨o3,o4,o5,a6,c6,rfl,ef,q2,q3⟩
  let ot:=box gT #[.slice aC aF aB,R aA I az,R ay U ax,R a6 o4 c6,.map (some dQ),C (I.length:Int),R a5 o2 c5,.map (some fW)] 142
  have dA:HI M w dL (ot::J0::J1::oL w 175 a6 o4 c6::cj dQ o5::jz):=ef
  refine aU yH J s3<|k<|bA dA 7 J aT J J J J J J J ?_
  intro ew (fe:HI M w ew [ot,J0,J1,oL w 175 a6 o4 c6,cj dQ o5,iL a5 o2 c5,bW fW ([]:List ((Int×Int)×Bool)),box fj #[C kd,C fG,C j6,C lS,C gB,.slice none 0 0,C o3,C (-1)] 33,J4,J3,J2])
  refine z<|aH<|cQ<|ak (v:=pV gT 0) J J<|k<|nc J J<|aU l5 J J<|bq fe 0 J nQ J J J<|aU vZ J s3<|k<|bA fe 7 J nQ J J J J J J J ?_
  let pw:=box fj #[C kd,C fG,C j6,C lS,C gB,R a6 o4 c6,C o3,C (-1)] 33
  intro fq (fw:HI M w fq [ot,J0,J1,oL w 175 a6 o4 c6,cj dQ o5,iL a5 o2 c5,bW fW ([]:List ((Int×Int)×Bool)),pw,J4,J3,J2])
  refine bz<|k<|cC fw 7 J bV J s3 aw J<|k<|bA fw 8 J bV J J s2 J J J J ?_
  intro iF (gl:HI M w iF [ot,J0,J1,oL w 175 a6 o4 c6,cj dQ o5,iL a5 o2 c5,bW fW ([]:List ((Int×Int)×Bool)),pw,box bK #[C kd,C fG,C j6,C lS,C gB,R a6 o4 c6,C o3,C (-1)] 33,J3,J2])
  refine au (v:=C 0) J J<|av<|rt<|iB gl 8 J bV J J J s2 J aw ?_
  exact⟨o4,o3,(-1),a6,c6,J,gl.below,(gl.mD 3 J)⟩
 have p3:=dF b3
 refine sq<|aD<|k<|eql J J J J<|au (v:=.bool (decide (kd=6))) J J<|z<|nx<|cd (b:=decide (kd=6)) J J (fun b4=>?_)<|fun b4=>?_
 ·
  have p4:=dT b4
  refine sk<|nx<|pk J J b4<|aD<|k<|cC dI 10 J dt J s0 aw J<|k ?_
  have fc:=B8 (I:=I) (U:=U) (aC:=aC) (aF:=aF) (aB:=aB) dI.mb (dI.rv 4 J) (dI.rv 5 J) (by exact ho) aq (by exact ey)<|by exact fP
  refine ca RO J (ec J e0) fc ?_
  rintro _ w9 ⟨a4,c4,rfl,lk,ft⟩
  have cR:=dI.ext lk
  let mX:=iL a4 (cA I U) c4
  have dX:=cR.put (it:=mX) J ft
  refine k<|al dX bp ?_
  intro A7 dL lj (dV:HI M w dL (box A7 #[C 0,.slice none 0 0] 26::mX::J7::bf))
  refine k<|bA dV 0 J bp J J J J J J J ?_
  let nE:=box A7 #[C (I.length:Int),R a4 (cA I U) c4] 26
  intro ew (cJ:HI M w ew (nE::mX::J7::bf))
  refine av<|sq<|mw [.r,.r,.r,.r,.r,.r,.r,.r,.r,.r,.r,.r,.e] (fun _=>True) J aV (fun _ _=>trivial)<|yq J J<|kq (fun _ _=>mv (v:=pV gT 0) J J e1)<|bS<|kq (fun _ _=>mv (v:=pV gT 0) J J e1)<|bS<|kq (fun _ _=>nc J J e1)<|bS<|kq (fun _ _=>fa rI J J e1)<|bS<|kq (fun _ x_=>cC (cJ.ext x_) 2 J bp J J aw J e1)<|bS<|kq (fun _ x_=>cC (cJ.ext x_) 0 J bp J J aw J e1)<|bS<|kq (fun _ _=>fa pg J s1 e1)<|bS<|kq (fun _ x_=>lx (cJ.ext x_) 11 J aT J J J e1)<|zq<|yu J (fun _ v w'=>∃(a5:OA) (c5:Nat),v=R a5 (bR (I.length:Int) (cA I U) gB) c5∧RV cJ.eI w' (R a5 (bR (I.length:Int) (cA I U) gB) c5) (bR (I.length:Int) (cA I U) gB)) J oA J (fun v_ _ x_ _=>have mx:=vy (mn:=(I.length:Int)) (mr:=(cA I U)) (o:=gB) (w:=v_) (cJ.ext x_).mb (hT.ext (cJ.ext x_).below) aS ((cJ.ext x_).rv 1 rfl) zu (by exact QT);ca Np rfl (ec J<|ec J e0) mx (fun _ iF ⟨a6,c6,e_,xK,i'⟩=>⟨_,J,xK,⟨a6,c6,e_,(bo.rv i' (cJ.ext x_).mb)⟩⟩))<|lP J (fun _ v w'=>∃(a8:OA) (c8:Nat),v=.agg #[C (I.length:Int),R a8 (gr (I.length:Int) (kA I U)<|bR (I.length:Int) (cA I U) gB) c8]∧RV cJ.eI w' (R a8 (gr (I.length:Int) (kA I U)<|bR (I.length:Int) (cA I U) gB) c8) (gr (I.length:Int) (kA I U)<|bR (I.length:Int) (cA I U) gB)) 0 J J oA J (fun v_ _ _ x_ _ h_=>let ⟨a9,c9,s6,nR⟩:=h_;have iA:=(cJ.ext x_).put (it:=iL a9 (bR (I.length:Int) (cA I U) gB) c9) rfl nR;have A5:=zZ (mn:=(I.length:Int)) (mr:=(kA I U)) (l:=(bR (I.length:Int) (cA I U) gB)) iA.mb aS (iA.rv 9 J) (iA.rv 0 J) (by exact Bs) (by have h_:=vj QT gB;omega);ca Xl rfl (ec J<|ec s6 e0) A5 (fun _ oU ⟨jy,jx,e_,CH,mA⟩=>⟨_,J,CH,⟨jy,jx,e_,(mY J<|bo.rv mA iA.mb)⟩⟩))<|yq J J<|kq (fun _ _=>nc J J e1)<|bS<|kq (fun _ _=>fa rI J J e1)<|zq<|ye<|yz ?_
  intro wJ f1 _ Bc _ _ fO AN
  have oO:=cJ.ext Bc
  have s7:=(fO 3 J).trans s1
  have s8:=(fO 4 J).trans s2
  have s9:=(fO 6 J).trans s3
  have ei:=fO 7 J
  have eR:=fO 8 J
  obtain⟨mW,mU,fM,qx⟩:=AN 0 _ _ rfl
  let tB:=iL mW (gr (I.length:Int) (kA I U) (bR (I.length:Int) (cA I U) gB)) mU
  have j9:=oO.put (it:=tB) J qx
  have fL:=fO 88 J
  refine km<|bA j9 3 J bp J J fL fM J J J ?_
  let uG:=box gT #[.slice aC aF aB,R aA I az,R ay U ax,R a3 ([]:List cP) c3,.map (some dQ),C (I.length:Int),R mW (gr (I.length:Int) (kA I U) (bR (I.length:Int) (cA I U) gB)) mU,.map (some fW)] 142
  intro r8 (pE:HI M w r8 (tB::nE::mX::uG::bf))
  refine kz<|cQ<|ak J ei<|k<|cC pE 1 J bp J eR aw J<|aU pg J s7<|bq pE 12 J aT J J J<|k ?_
  have lL:HI M w r8 ([uG,J0,J1,J8,J9,tB,bW fW ([]:List ((Int×Int)×Bool)),mX]++[nE,J6,J5,J4,J3,J2]):=pE.bX [3,7,8,4,5,0,6,2,1,9,10,11,12,13] aw J
  have Ih:=JE (da:=gT) (aC:=aC) (aF:=aF) (aB:=aB) (aA:=aA) (az:=az) (I:=I) (ay:=ay) (ax:=ax) (U:=U) (eF:=a3) (eE:=c3) (sp:=([]:List cP)) (bD:=dQ) (mp:=([]:KV)) (pn:=(I.length:Int)) (dm:=mW) (dh:=mU) (pr:=(gr (I.length:Int) (kA I U)<|bR (I.length:Int) (cA I U) gB)) (bN:=fW) (mq:=([]:List ((Int×Int)×Bool))) (mn:=(I.length:Int)) (bG:=a4) (bF:=c4) (mr:=(cA I U)) (o:=gB) (w:=w) (w_:=r8) (r:=[nE,J6,J5,J4,J3,J2]) (M:=M) aS aS zu hT (by exact ho) (by exact dG) (by exact ey) (by exact fP) aq (by rfl) (by exact adD aq) aq (by exact CJ Bs _) (by simp only[gC];omega) lL
  refine ca aeV J (ec J<|ec J<|ec J e0) Ih ?_
  rintro _ tD ⟨o0,o1,o2,a12,pD,j3,j2,rfl,Ek,q0,q1⟩
  let CB:=box gT #[.slice aC aF aB,R aA I az,R ay U ax,R a12 o0 pD,.map (some dQ),C (I.length:Int),R j3 o2 j2,.map (some fW)] 142
  let uF:=iL j3 o2 j2
  let fQ:=[uF,bW fW ([]:List ((Int×Int)×Bool)),mX,nE,J6,J5,J4,J3,J2]
  have kJ:HI M w tD (CB::J0::J1::oL w 175 a12 o0 pD::cj dQ o1::fQ):=Ek
  refine bz<|aU so J s7<|bq kJ 12 J aT J J J<|au (v:=C fG) J J<|av<|sq<|aD<|aU DZ J s7<|bq kJ 12 J aT J J J<|k<|eql J J J J<|z<|nx<|cd (b:=decide (kd=7)) J J (fun b5=>?_)<|fun b5=>?_
  ·
   have p5:=dT b5
   refine rg<|aU qg J s7<|bq kJ 12 J aT J J J<|au (v:=C j6) J J<|av<|rg<|ak J ei<|aU qg J s7<|bq kJ 12 J aT J J J<|ak (v:=C j6) J J<|k ?_
   have wm:HI M w tD ([CB,J0,J1,oL w 175 a12 o0 pD,cj dQ o1,uF,bW fW ([]:List ((Int×Int)×Bool))]++[mX,nE,J6,J5,J4,J3,J2]):=kJ.bX [0,1,2,3,4,5,6,7,8,9,10,11,12,13] aw J
   have NL:=mM (da:=gT) (aC:=aC) (aF:=aF) (aB:=aB) (aA:=aA) (az:=az) (I:=I) (ay:=ay) (ax:=ax) (U:=U) (eF:=a12) (eE:=pD) (sp:=o0) (bD:=dQ) (mp:=o1) (pn:=(I.length:Int)) (dm:=j3) (dh:=j2) (pr:=o2) (bN:=fW) (mq:=([]:List ((Int×Int)×Bool))) (f_:=j6) (t_:=j6) (w:=w) (w_:=tD) (r:=[mX,nE,J6,J5,J4,J3,J2]) (M:=M) aS BZ BZ hT aq aq (by exact ey) (by exact dG) bu wm
   refine ca Ac J (ec J<|ec J<|ec J e0) NL ?_
   rintro _ wI ⟨o3,o4,o5,lz,ly,rfl,nF,q2,q3⟩
   let zQ:=box gT #[.slice aC aF aB,R aA I az,R ay U ax,R lz o4 ly,.map (some dQ),C (I.length:Int),R j3 o2 j2,.map (some fW)] 142
   have xg:HI M w wI (zQ::J0::J1::oL w 175 lz o4 ly::cj dQ o5::fQ):=nF
   refine aU yH J s9<|k<|bA xg 10 J aT J J J J J J J ?_
   intro vk (qP:HI M w vk [zQ,J0,J1,oL w 175 lz o4 ly,cj dQ o5,uF,bW fW ([]:List ((Int×Int)×Bool)),mX,nE,J6,box fj #[C kd,C fG,C j6,C lS,C gB,.slice none 0 0,C o3,C (-1)] 33,J4,J3,J2])
   refine z<|aH<|cQ<|ak J ei<|k<|nc J J<|aU l5 J J<|bq qP 0 J nQ J J J<|aU vZ J s9<|k<|bA qP 10 J nQ J J J J J J J ?_
   let wj:=box fj #[C kd,C fG,C j6,C lS,C gB,R lz o4 ly,C o3,C (-1)] 33
   intro CM (xf:HI M w CM [zQ,J0,J1,oL w 175 lz o4 ly,cj dQ o5,uF,bW fW ([]:List ((Int×Int)×Bool)),mX,nE,J6,wj,J4,J3,J2])
   refine bz<|k<|cC xf 10 J bV J s9 aw J<|k<|bA xf 11 J bV J J s8 J J J J ?_
   intro CL (oN:HI M w CL [zQ,J0,J1,oL w 175 lz o4 ly,cj dQ o5,uF,bW fW ([]:List ((Int×Int)×Bool)),mX,nE,J6,wj,box bK #[C kd,C fG,C j6,C lS,C gB,R lz o4 ly,C o3,C (-1)] 33,J3,J2])
   refine au (v:=C 0) J J<|av<|rt<|iB oN 11 J bV J J J s8 J aw ?_
   exact⟨o4,o3,(-1),lz,ly,J,oN.below,(oN.mD 3 J)⟩
  refine sk<|nx<|rg<|ak J ei<|aU qg J s7<|bq kJ 12 J aT J J J<|ak (v:=C fG) J J<|k ?_
  have wm:HI M w tD ([CB,J0,J1,oL w 175 a12 o0 pD,cj dQ o1,uF,bW fW ([]:List ((Int×Int)×Bool))]++[mX,nE,J6,J5,J4,J3,J2]):=kJ.bX [0,1,2,3,4,5,6,7,8,9,10,11,12,13] aw J
  have NL:=mM (da:=gT) (aC:=aC) (aF:=aF) (aB:=aB) (aA:=aA) (az:=az) (I:=I) (ay:=ay) (ax:=ax) (U:=U) (eF:=a12) (eE:=pD) (sp:=o0) (bD:=dQ) (mp:=o1) (pn:=(I.length:Int)) (dm:=j3) (dh:=j2) (pr:=o2) (bN:=fW) (mq:=([]:List ((Int×Int)×Bool))) (f_:=j6) (t_:=fG) (w:=w) (w_:=tD) (r:=[mX,nE,J6,J5,J4,J3,J2]) (M:=M) aS BZ HD hT (by simp only[gC] at *;omega) aq (by exact ey) (by exact dG) bu wm
  refine ca Ac J (ec J<|ec J<|ec J e0) NL ?_
  rintro _ wI ⟨o3,o4,o5,lz,ly,rfl,nF,q2,q3⟩
  let yT:=box gT #[.slice aC aF aB,R aA I az,R ay U ax,R lz o4 ly,.map (some dQ),C (I.length:Int),R j3 o2 j2,.map (some fW)] 142
  let yS:=oL w 175 lz o4 ly
  have xg:HI M w wI (yT::J0::J1::yS::cj dQ o5::fQ):=nF
  refine aU yH J s9<|k<|bA xg 10 J aT J J J J J J J ?_
  intro vk (qP:HI M w vk [yT,J0,J1,yS,cj dQ o5,uF,bW fW ([]:List ((Int×Int)×Bool)),mX,nE,J6,box fj #[C kd,C fG,C j6,C lS,C gB,.slice none 0 0,C o3,C (-1)] 33,J4,J3,J2])
  refine z<|aH<|cQ<|ak J ei<|k<|nc J J<|aU l5 J J<|bq qP 0 J nQ J J J<|aU vZ J s9<|k<|bA qP 10 J nQ J J J J J J J ?_
  let FA:=box fj #[C kd,C fG,C j6,C lS,C gB,R lz o4 ly,C o3,C (-1)] 33
  intro CM (xf:HI M w CM [yT,J0,J1,yS,cj dQ o5,uF,bW fW ([]:List ((Int×Int)×Bool)),mX,nE,J6,FA,J4,J3,J2])
  refine bz<|k<|cC xf 10 J bV J s9 aw J<|k<|bA xf 11 J bV J J s8 J J J J ?_
  intro CL (oN:HI M w CL [yT,J0,J1,yS,cj dQ o5,uF,bW fW ([]:List ((Int×Int)×Bool)),mX,nE,J6,FA,box bK #[C kd,C fG,C j6,C lS,C gB,R lz o4 ly,C o3,C (-1)] 33,J3,J2])
  refine au (v:=C 0) J J<|av<|rt<|iB oN 11 J bV J J J s8 J aw ?_
  exact⟨o4,o3,(-1),lz,ly,J,oN.below,(oN.mD 3 J)⟩
 have p4:=dF b4
 refine rg<|k<|eql J J J J<|au (v:=.bool (decide (kd=7))) J J<|z<|nx<|cd (b:=decide (kd=7)) J J (fun b5=>?_)<|fun b5=>?_
 ·
  have p5:=dT b5
  refine aD<|k<|cC dI 10 J dt J s0 aw J<|k ?_
  have fc:=B8 (I:=I) (U:=U) (aC:=aC) (aF:=aF) (aB:=aB) dI.mb (dI.rv 4 J) (dI.rv 5 J) (by exact ho) aq (by exact ey)<|by exact fP
  refine ca RO J (ec J e0) fc ?_
  rintro _ w9 ⟨a4,c4,rfl,lk,ft⟩
  have cR:=dI.ext lk
  let ug:=iL a4 (cA I U) c4
  have dX:=cR.put (it:=ug) J ft
  refine k<|al dX bp ?_
  intro A7 dL lj (dV:HI M w dL (box A7 #[C 0,.slice none 0 0] 26::ug::J7::bf))
  refine k<|bA dV 0 J bp J J J J J J J ?_
  let sx:=box A7 #[C (I.length:Int),R a4 (cA I U) c4] 26
  intro ew (cJ:HI M w ew (sx::ug::J7::bf))
  refine av<|sq<|mw [.r,.r,.r,.r,.r,.r,.r,.r,.r,.r,.r,.r,.e] (fun _=>True) J aV (fun _ _=>trivial)<|yq J J<|kq (fun _ _=>mv (v:=pV gT 0) J J e1)<|bS<|kq (fun _ _=>mv (v:=pV gT 0) J J e1)<|bS<|kq (fun _ _=>nc J J e1)<|bS<|kq (fun _ _=>fa rI J J e1)<|bS<|kq (fun _ x_=>cC (cJ.ext x_) 2 J bp J J aw J e1)<|bS<|kq (fun _ x_=>cC (cJ.ext x_) 0 J bp J J aw J e1)<|bS<|kq (fun _ _=>fa pg J s1 e1)<|bS<|kq (fun _ x_=>lx (cJ.ext x_) 11 J aT J J J e1)<|zq<|yu J (fun _ v w'=>∃(a5:OA) (c5:Nat),v=R a5 (bR (I.length:Int) (cA I U) gB) c5∧RV cJ.eI w' (R a5 (bR (I.length:Int) (cA I U) gB) c5) (bR (I.length:Int) (cA I U) gB)) J oA J (fun v_ _ x_ _=>have mx:=vy (mn:=(I.length:Int)) (mr:=(cA I U)) (o:=gB) (w:=v_) (cJ.ext x_).mb (hT.ext (cJ.ext x_).below) aS ((cJ.ext x_).rv 1 rfl) zu (by exact QT);ca Np rfl (ec J<|ec J e0) mx (fun _ iF ⟨a6,c6,e_,xK,i'⟩=>⟨_,J,xK,⟨a6,c6,e_,(bo.rv i' (cJ.ext x_).mb)⟩⟩))<|lP J (fun _ v w'=>∃(a8:OA) (c8:Nat),v=.agg #[C (I.length:Int),R a8 (gr (I.length:Int) (kA I U)<|bR (I.length:Int) (cA I U) gB) c8]∧RV cJ.eI w' (R a8 (gr (I.length:Int) (kA I U)<|bR (I.length:Int) (cA I U) gB) c8) (gr (I.length:Int) (kA I U)<|bR (I.length:Int) (cA I U) gB)) 0 J J oA J (fun v_ _ _ x_ _ h_=>let ⟨a9,c9,s6,nR⟩:=h_;have iA:=(cJ.ext x_).put (it:=iL a9 (bR (I.length:Int) (cA I U) gB) c9) rfl nR;have A5:=zZ (mn:=(I.length:Int)) (mr:=(kA I U)) (l:=(bR (I.length:Int) (cA I U) gB)) iA.mb aS (iA.rv 9 J) (iA.rv 0 J) (by exact Bs) (by have h_:=vj QT gB;omega);ca Xl rfl (ec J<|ec s6 e0) A5 (fun _ oU ⟨jy,jx,e_,CH,mA⟩=>⟨_,J,CH,⟨jy,jx,e_,(mY J<|bo.rv mA iA.mb)⟩⟩))<|yq J J<|kq (fun _ _=>nc J J e1)<|bS<|kq (fun _ _=>fa rI J J e1)<|zq<|ye<|yz ?_
  intro wJ f1 _ Bc _ _ fO AN
  have oO:=cJ.ext Bc
  have s7:=(fO 3 J).trans s1
  have s8:=(fO 4 J).trans s2
  have s9:=(fO 6 J).trans s3
  have ei:=fO 7 J
  have eR:=fO 8 J
  obtain⟨mW,mU,fM,qx⟩:=AN 0 _ _ rfl
  let wi:=iL mW (gr (I.length:Int) (kA I U) (bR (I.length:Int) (cA I U) gB)) mU
  have j9:=oO.put (it:=wi) J qx
  have fL:=fO 88 J
  refine km<|bA j9 3 J bp J J fL fM J J J ?_
  let qj:=box gT #[.slice aC aF aB,R aA I az,R ay U ax,R a3 ([]:List cP) c3,.map (some dQ),C (I.length:Int),R mW (gr (I.length:Int) (kA I U) (bR (I.length:Int) (cA I U) gB)) mU,.map (some fW)] 142
  intro r8 (pE:HI M w r8 (wi::sx::ug::qj::bf))
  refine kz<|cQ<|ak J ei<|k<|cC pE 1 J bp J eR aw J<|aU pg J s7<|bq pE 12 J aT J J J<|k ?_
  have lL:HI M w r8 ([qj,J0,J1,J8,J9,wi,bW fW ([]:List ((Int×Int)×Bool)),ug]++[sx,J6,J5,J4,J3,J2]):=pE.bX [3,7,8,4,5,0,6,2,1,9,10,11,12,13] aw J
  have Ih:=JE (da:=gT) (aC:=aC) (aF:=aF) (aB:=aB) (aA:=aA) (az:=az) (I:=I) (ay:=ay) (ax:=ax) (U:=U) (eF:=a3) (eE:=c3) (sp:=([]:List cP)) (bD:=dQ) (mp:=([]:KV)) (pn:=(I.length:Int)) (dm:=mW) (dh:=mU) (pr:=(gr (I.length:Int) (kA I U)<|bR (I.length:Int) (cA I U) gB)) (bN:=fW) (mq:=([]:List ((Int×Int)×Bool))) (mn:=(I.length:Int)) (bG:=a4) (bF:=c4) (mr:=(cA I U)) (o:=gB) (w:=w) (w_:=r8) (r:=[sx,J6,J5,J4,J3,J2]) (M:=M) aS aS zu hT (by exact ho) (by exact dG) (by exact ey) (by exact fP) aq (by rfl) (by exact adD aq) aq (by exact CJ Bs _) (by simp only[gC];omega) lL
  refine ca aeV J (ec J<|ec J<|ec J e0) Ih ?_
  rintro _ tD ⟨o0,o1,o2,a12,pD,j3,j2,rfl,Ek,q0,q1⟩
  let Ej:=box gT #[.slice aC aF aB,R aA I az,R ay U ax,R a12 o0 pD,.map (some dQ),C (I.length:Int),R j3 o2 j2,.map (some fW)] 142
  let zP:=iL j3 o2 j2
  let lJ:=[zP,bW fW ([]:List ((Int×Int)×Bool)),ug,sx,J6,J5,J4,J3,J2]
  have kJ:HI M w tD (Ej::J0::J1::oL w 175 a12 o0 pD::cj dQ o1::lJ):=Ek
  refine bz<|aU so J s7<|bq kJ 12 J aT J J J<|au (v:=C fG) J J<|av<|sq<|aD<|aU DZ J s7<|bq kJ 12 J aT J J J<|k<|eql J J J J<|av<|pk J J b5<|rg<|aU qg J s7<|bq kJ 12 J aT J J J<|au (v:=C j6) J J<|av<|rg<|ak J ei<|aU qg J s7<|bq kJ 12 J aT J J J<|ak (v:=C j6) J J<|k ?_
  have wm:HI M w tD ([Ej,J0,J1,oL w 175 a12 o0 pD,cj dQ o1,zP,bW fW ([]:List ((Int×Int)×Bool))]++[ug,sx,J6,J5,J4,J3,J2]):=kJ.bX [0,1,2,3,4,5,6,7,8,9,10,11,12,13] aw J
  have NL:=mM (da:=gT) (aC:=aC) (aF:=aF) (aB:=aB) (aA:=aA) (az:=az) (I:=I) (ay:=ay) (ax:=ax) (U:=U) (eF:=a12) (eE:=pD) (sp:=o0) (bD:=dQ) (mp:=o1) (pn:=(I.length:Int)) (dm:=j3) (dh:=j2) (pr:=o2) (bN:=fW) (mq:=([]:List ((Int×Int)×Bool))) (f_:=j6) (t_:=j6) (w:=w) (w_:=tD) (r:=[ug,sx,J6,J5,J4,J3,J2]) (M:=M) aS BZ BZ hT (by simp only[gC] at *;omega) aq (by exact ey) (by exact dG) bu wm
  refine ca Ac J (ec J<|ec J<|ec J e0) NL ?_
  rintro _ wI ⟨o3,o4,o5,lz,ly,rfl,nF,q2,q3⟩
  let yR:=box gT #[.slice aC aF aB,R aA I az,R ay U ax,R lz o4 ly,.map (some dQ),C (I.length:Int),R j3 o2 j2,.map (some fW)] 142
  let Ei:=oL w 175 lz o4 ly
  have xg:HI M w wI (yR::J0::J1::Ei::cj dQ o5::lJ):=nF
  refine aU yH J s9<|k<|bA xg 10 J aT J J J J J J J ?_
  intro vk (qP:HI M w vk [yR,J0,J1,Ei,cj dQ o5,zP,bW fW ([]:List ((Int×Int)×Bool)),ug,sx,J6,box fj #[C kd,C fG,C j6,C lS,C gB,.slice none 0 0,C o3,C (-1)] 33,J4,J3,J2])
  refine z<|aH<|cQ<|ak J ei<|k<|nc J J<|aU l5 J J<|bq qP 0 J nQ J J J<|aU vZ J s9<|k<|bA qP 10 J nQ J J J J J J J ?_
  let Eh:=box fj #[C kd,C fG,C j6,C lS,C gB,R lz o4 ly,C o3,C (-1)] 33
  intro CM (xf:HI M w CM [yR,J0,J1,Ei,cj dQ o5,zP,bW fW ([]:List ((Int×Int)×Bool)),ug,sx,J6,Eh,J4,J3,J2])
  refine bz<|k<|cC xf 10 J bV J s9 aw J<|k<|bA xf 11 J bV J J s8 J J J J ?_
  intro CL (oN:HI M w CL [yR,J0,J1,Ei,cj dQ o5,zP,bW fW ([]:List ((Int×Int)×Bool)),ug,sx,J6,Eh,box bK #[C kd,C fG,C j6,C lS,C gB,R lz o4 ly,C o3,C (-1)] 33,J3,J2])
  refine au (v:=C 0) J J<|av<|rt<|iB oN 11 J bV J J J s8 J aw ?_
  exact⟨o4,o3,(-1),lz,ly,J,oN.below,(oN.mD 3 J)⟩
 refine sk<|aH<|cQ<|ak (v:=pV gT 0) J J<|k<|nc J J<|aU l5 J J<|bq dI 0 J nQ J J J<|aU vZ J s3<|k<|bA dI 7 J nQ J J J J J J J ?_
 let Eg:=box fj #[C kd,C fG,C j6,C lS,C gB,R a3 ([]:List cP) c3,C (-1),C (-1)] 33
 intro w9 (cR:HI M w w9 [J7,J8,J9,bW fW ([]:List ((Int×Int)×Bool)),J0,J1,J6,Eg,J4,J3,J2])
 refine bz<|k<|cC cR 7 J bV J s3 aw J<|k<|bA cR 8 J bV J J s2 J J J J ?_
 intro dL (dX:HI M w dL [J7,J8,J9,bW fW ([]:List ((Int×Int)×Bool)),J0,J1,J6,Eg,box bK #[C kd,C fG,C j6,C lS,C gB,R a3 ([]:List cP) c3,C (-1),C (-1)] 33,J3,J2])
 refine au (v:=C 0) J J<|av<|rt<|iB dX 8 J bV J J J s2 J aw ?_
 exact⟨([]:List cP),(-1),(-1),a3,c3,J,dX.below,(dX.mD 1 J)⟩
theorem Q6 (hM:eC M w) (hT:fY 0 w) (cW:cz M w aA az I) (fC:cz M w ay ax U) (pO:aK lv) (ho:ij I) (dG:I.length≤64) (ey:U.length=I.length) (fP:∀x∈U,x<((I.length:Nat):Int)) (HA:lv=1∨lv=2∨lv=3):Calls aM 29 #[.agg #[.slice aC aF aB,R aA I az,R ay U ax],C lv] w (ck fun v w'=>∃(k_:Int) (r_:Int) (a_:Int) (b_:Int) (o_:Int) (iG:List cP) (f_:Int) (s_:Int) (a0:OA) (c0:Nat),v=.tuple #[.agg #[C k_,C r_,C a_,C b_,C o_,R a0 iG c0,C f_,C s_],C (fh I U lv)]∧Ext w w'∧cz M w' a0 c0 iG∧qO (iU I U lv) k_ r_ a_ b_ o_):=by
 refine dv 23 Tryz.func29 J J J hM fun f0 ha H=>?_
 let J0:=iL aA I az
 have H0:=H.put (it:=J0) J<|by rw[bQ];exact cW
 let J1:=iL ay U ax
 have H1:=H0.put (it:=J1) J<|by rw[aG rfl,bQ];exact fC
 have i0:f0 0=.agg #[.slice aC aF aB,R aA I az,R ay U ax]:=ha 0 bm
 have i1:f0 1=C lv:=ha 1 bm
 refine aD<|k<|bx H1 J i0 ?_
 intro aX w0 bY (H2:HI M w w0 [box aX #[.slice aC aF aB,R aA I az,R ay U ax] 47,J1,J0])
 let J2:=box aX #[.slice aC aF aB,R aA I az,R ay U ax] 47
 refine k<|al H2 bV ?_
 intro bj w1 cS (H3:HI M w w1 [box bj #[C 0,C 0,C 0,C 0,C 0,.slice none 0 0,C 0,C 0] 33,J2,J1,J0])
 let J3:=box bj #[C 0,C 0,C 0,C 0,C 0,.slice none 0 0,C 0,C 0] 33
 refine au (v:=C 0) J J<|bz<|k<|cC H3 1 J dt J J aw J<|ak J i1<|k ?_
 have bT:=NU (I:=I) (U:=U) (lv:=lv) (aC:=aC) (aF:=aF) (aB:=aB) H3.mb (hT.ext H3.below) (H3.rv 3 J) (H3.rv 2 J) pO (by exact ho) (by exact dG) (by exact ey) (by exact fP)<|by exact HA
 refine ca ae3 J (ec J<|ec J e0) bT ?_
 rintro _ w2 ⟨o0,o1,o2,o3,o4,o5,o6,rfl,fm,q0⟩
 have H4:=H3.ext fm
 refine ak (v:=.tuple #[.agg #[C o0,C o1,C o2,C o3,C o4,.slice none 0 0,C o5,C o6],C (fh I U lv)]) J J<|k<|xt J J J<|k<|xt J J J<|k<|al H4 bV ?_
 intro bK w3 fg (H5:HI M w w3 [box bK #[C 0,C 0,C 0,C 0,C 0,.slice none 0 0,C 0,C 0] 33,J3,J2,J1,J0])
 refine k<|bA H5 0 J bV J J J J J J J ?_
 let J4:=box bK #[C o0,C o1,C o2,C o3,C o4,.slice none 0 0,C o5,C o6] 33
 intro w4 (H6:HI M w w4 [J4,J3,J2,J1,J0])
 refine au (v:=C (fh I U lv)) J J<|av<|sq<|aD<|ak (v:=C (fh I U lv)) J J<|k<|neq J J J J<|z<|nx<|cd (b:=!decide ((fh I U lv)=0)) J J (fun b0=>?_)<|fun b0=>?_
 ·
  have p0:=dF<|gf b0
  refine aD<|k<|bd (v:=.agg #[C 0,C 0,C 0,C 0,C 0,.slice none 0 0,C 0,C 0]) J eA (fun _=>aV)<|ak (v:=C (fh I U lv)) J J<|k<|bA H6 1 J bV J J J J J J J ?_
  intro w5 (H7:HI M w w5 [J4,J3,J2,J1,J0])
  refine au (v:=C (fh I U lv)) J J<|av<|rt<|aL<|iB H7 1 J bV J J J J J aw ?_
  exact⟨0,0,0,0,0,([]:List cP),0,0,none,0,J,H7.below,(ep _ _),(by exact uH (I_<|dF<|gf ‹(!decide (fh I U lv=0))=true›) OZ)⟩
 have p0:=dT<|fu b0
 refine sk<|cQ<|k<|cC H6 2 J dt J J aw J<|k<|cC H6 0 J bV J J aw J<|k ?_
 have df:=Wi (I:=I) (U:=U) (kd:=o0) (fG:=o1) (j6:=o2) (lS:=o3) (gB:=o4) (aC:=aC) (aF:=aF) (aB:=aB) (Is:=none) (Hd:=0) (Ii:=0) (Uz:=(C o5)) (SQ:=(C o6)) H6.mb (hT.ext H6.below) (H6.rv 4 J) (H6.rv 3 J) (by exact q0.1.k) (by exact q0.1.r) (by exact q0.1.a) (by exact q0.1.b) (by exact q0.1.o) (by exact ho) (by exact dG) (by exact ey) (by exact fP)<|by exact abn q0 (dT<|fu ‹(!decide (fh I U lv=0))=false›)
 refine ca akB J (ec J<|ec J e0) df ?_
 rintro _ w5 ⟨o7,o8,o9,a0,c0,rfl,jl,cm⟩
 have H7:=H6.ext jl
 have H8:=dU H7 cm
 refine k<|xt J J J<|k<|xt J J J<|k<|bA H8 2 J bV J J J J J J J ?_
 intro w6 (H9:HI M w w6 [iL a0 o7 c0,J4,box bj #[C o0,C o1,C o2,C o3,C o4,R a0 o7 c0,C o8,C o9] 33,J2,J1,J0])
 refine au (v:=C 0) J J<|av<|rt<|iB H9 2 J bV J J J J J aw ?_
 have e8:(0:Int)=fh I U lv:=by exact(dT<|fu ‹(!decide (fh I U lv=0))=false›).symm
 have bt:=iD (fun (lQ:Int)=>(.tuple #[.agg #[C o0,C o1,C o2,C o3,C o4,.slice a0 o7.length c0,C o8,C o9],C lQ]:Value)) e8
 exact⟨o0,o1,o2,o3,o4,o7,o8,o9,a0,c0,bt,H9.below,(H9.fz 0 J),(by exact q0)⟩
theorem akp:cD aM 91:=cE Tryz.func91
theorem akq:cD aM 90:=cE Tryz.func90
theorem QI (hM:eC M w) (Uq:cz M w xe xb a) (DQ:cz M w xc xa b) (uv:a.length≤b.length) (ajQ:a.length≤1000000000):Calls aM 91 #[R xe a xb,R xc b xa] w (ck fun v w'=>v=.bool (pd a b)∧Ext w w'):=by
 refine dv 22 Tryz.func91 J J J hM fun f0 ha H=>?_
 have H0:=dU H Uq
 have H1:=dU H0 DQ
 have ajr:=bg Uq
 have ajq:=bg DQ
 have i0:f0 0=R xe a xb:=ha 0 bm
 have i1:f0 1=R xc b xa:=ha 1 bm
 refine aD<|au (v:=.bool false) J J<|av<|sq<|aD<|ak J i0<|k<|dP J J iq<|ak (v:=C 0) J J<|av<|bk<|lp (fun m f w'=>∃(j_:Nat),m=a.length-j_∧f 1=R xc b xa∧f 7=R xe a xb∧f 8=C (a.length:Int)∧f 9=C (j_:Int)∧HI M w w' [iL xc b xa,iL xe a xb]∧(j_≤a.length)∧(∀q,q<j_→Lb a b q=false)) _ ⟨0,J,i1,J,J,(bH J),H1,aq,(by intro q h;omega)⟩ ?_
 rintro _ f0 w0 ⟨j_,rfl,s0,s1,s2,s3,H2,kb,hs⟩
 refine aD<|k<|lss J J s3 s2<|av<|sq<|cd (b:=decide ((j_:Int)<(a.length:Int))) J J (fun b0=>?_)<|fun b0=>?_
 ·
  have p0:=dT b0
  refine sk<|nx<|sq<|bk<|aD<|ak J s3<|k<|ia (H2.rv 1 J) J J s1 s3 aq iq fA ?_
  intro iy x0 aN cB
  refine k<|zi cB.w fA J J<|au (v:=C (j_:Int)) J J<|au (v:=aj x0) J J<|bz<|ak (v:=aj x0) J J<|ak J s0<|ak (v:=C (j_:Int)) J J<|k<|ia (H2.rv 0 J) J J J J aq iq fA ?_
  intro mV x1 cO gx
  refine k<|zi gx.w fA J J<|k<|D' x0 x1 J J J J<|k<|neU (x0 &&& x1) (0#64) J J J J<|z<|nx<|cd (b:=!decide ((x0 &&& x1)=(0#64))) J J (fun b1=>?_)<|fun b1=>?_
  ·
   have p1:=dF<|gf b1
   refine aD<|au (v:=.bool true) J J<|av<|rt<|bI<|aL<|du<|bI<|aL<|r1 J J ?_
   exact⟨apj Value.bool (by exact afI (j:=j_) aq (by simp only[Lb,jC aN,jC cO,b0,(gf b1),BL])),H2.below⟩
  have p1:=dT<|fu b1
  refine sk<|aH<|nx<|rg<|k<|add J J s3 J aS<|ak (v:=C ((j_:Int)+1)) J J<|z<|bB _ ?_ ⟨(j_+1),J,s0,s1,s2,(bH J),H2,aq,(by exact sR hs (by simp only[Lb,jC aN,jC cO,b0,(fu b1),BL]))⟩
  omega
 have p0:=dF b0
 refine ex<|aW<|ba<|bh<|cQ<|au (v:=.bool false) J J<|av<|rt<|r1 J J ?_
 exact⟨apj Value.bool (by exact abR hs aq),H2.below⟩
theorem QJ {NW:Nat} {Yp:TypeId} {NV:Nat} {Yo:TypeId} {Ya:OA} {XS:Nat} {lf:List bw} (hM:eC M w) (aeB:aK x_) (gk:aK mn) (gz:cz M w bG bF mr) (aj7:cz M w Ya XS lf) (ake:w.heap[NW]? =some (.cells #[C mn,R bG mr bF] Yp (0,0))∧¬M NW) (akd:w.heap[NV]? =some (.cells #[R Ya lf XS] Yo (0,0))∧¬M NV) (b9:bL mn mr=true) (pY:0≤x_∧x_<mn) (ajP:lf.length=words mn):Calls aM 90 #[C x_,.pointer (some ⟨NW,0,none⟩),.pointer (some ⟨NV,0,none⟩)] w (ck fun v w'=>v=.bool (!(pd (mr.getD x_.toNat []) lf))∧Ext w w'):=by
 refine dv 13 Tryz.func90 J J J hM fun f0 ha H=>?_
 have H0:=dU H gz
 have H1:=dU H0 aj7
 have i0:f0 0=C x_:=ha 0 bm
 have H2:=H1.put (it:=ro NW #[C mn,R bG mr bF] Yp) J<|by rw[aG rfl,aG rfl,bQ];exact ake
 have i1:f0 1=pV NW 0:=ha 1 bm
 have H3:=H2.put (it:=ro NV #[R Ya lf XS] Yo) J<|by rw[aG rfl,aG rfl,aG rfl,bQ];exact akd
 have i2:f0 2=pV NV 0:=ha 2 bm
 have anD:=(bU b9).1
 refine aD<|au (v:=.bool false) J J<|av<|sq<|A2 J aV<|kq (fun _ _=>fa iJ J i1 e1)<|kq (fun _ x_=>lr (H3.ext x_) 1 J lg J J J e1)<|kq (fun _ _=>mv J i0 e1)<|qz (H3.rv 3 J) J J J J aq im dw ?_
 intro iy x0 aN cB
 refine G5 cB.w dw J J ?_
 intro a0 c0 cm
 have H4:=dU H3 cm
 refine kq (fun _ x_=>lr (H4.ext x_) 1 J dw J i2 J e1)<|kq (v:=.bool (pd x0 lf)) (fun v_ x_=>?_) ?_
 ·
  have cc:=QI (a:=x0) (b:=lf) (w:=v_) (H4.ext x_).mb ((H4.ext x_).rv 0 rfl) ((H4.ext x_).rv 3 rfl) (by rw[ajP,nY b9 aN];exact apn _)<|by exact(bU b9).2.1 _ (dO aN)
  exact ca akp J (ec J<|ec J e0) cc fun _ _ h_=>e2 h_
 refine kq (fun _ _=>jr J J e1)<|kq (fun _ _=>jV (v:=.bool (!(pd x0 lf))) J J e1)<|zq ?_
 intro w0 bY
 have H5:=H4.ext bY
 refine nx<|rt<|r1 J J ?_
 exact⟨apj Value.bool (by rw[show mr.getD x_.toNat []=x0 from by rw[gX,aN];rfl]),H5.below⟩
theorem yV {GU:OA} {GJ:Nat} {nd:aE} (hM:eC M w) (hT:fY 0 w) (gk:aK mn) (gz:cz M w bG bF mr) (aeF:cz M w GU GJ nd) (b9:bL mn mr=true) (an':nd.length≤8192):Calls aM 56 #[.agg #[C mn,R bG mr bF],R GU nd GJ] w (ck fun v w'=>∃(a0:OA) (c0:Nat),v=.tuple #[.slice a0 ((dJ mn mr nd).1).length c0,C ((dJ mn mr nd).2)]∧Ext w w'∧bo M 3 w ((dJ mn mr nd).1) (.slice a0 ((dJ mn mr nd).1).length c0) w'):=by
 refine dv 76 Tryz.func56 J J J hM fun f0 ha H=>?_
 let J0:=iL bG mr bF
 have H0:=H.put (it:=J0) J<|by rw[bQ];exact gz
 let J1:=iL GU nd GJ
 have H1:=H0.put (it:=J1) J<|by rw[aG rfl,bQ];exact aeF
 have nG:=bg gz
 have anu:=bg aeF
 have i0:f0 0=.agg #[C mn,R bG mr bF]:=ha 0 bm
 have i1:f0 1=R GU nd GJ:=ha 1 bm
 have Km:=(bU b9).2.2.1
 have hw_:words mn≤64:=by have h_:=(bU b9).2.2.1;unfold words;omega
 have ajk:=G0 b9
 refine aD<|k<|bx H1 J i0 ?_
 intro aX w0 bY (H2:HI M w w0 [box aX #[C mn,R bG mr bF] 26,J1,J0])
 let J2:=box aX #[C mn,R bG mr bF] 26
 refine au (v:=.slice none 0 0) J J<|au (v:=C 0) J J<|bz<|aU ky J J<|bq H2 0 J aT J J J<|k ?_
 have bT:=Et (n:=mn) H2.mb gk aq
 refine ca RI J (ec J e0) bT ?_
 rintro _ w1 ⟨a0,c0,rfl,cS,cm⟩
 have H3:=H2.eU cm
 refine k<|al H3 dw ?_
 let bf:=[J2,J1,J0]
 intro bj w2 fm (H4:HI M w w2 (box bj #[.slice none 0 0] 144::oL w 151 a0 (ej mn) c0::bf))
 refine k<|bA H4 0 J dw J J J J J J J ?_
 intro w3 (H5:HI M w w3 (box bj #[R a0 (ej mn) c0] 144::oL w 151 a0 (ej mn) c0::bf))
 refine av<|sq<|aD<|ak J i1<|k<|dP J J cw<|ak (v:=C 0) J J<|av<|bk<|lp (fun m f w'=>∃(j_:Nat) (vG:List bw) (a1:OA) (c1:Nat),m=nd.length-j_∧f 1=R GU nd GJ∧f 2=pV aX 0∧f 6=pV bj 0∧f 16=R GU nd GJ∧f 17=C (nd.length:Int)∧f 18=C (j_:Int)∧HI M w w' (box bj #[R a1 vG c1] 144::oL w 151 a1 vG c1::bf)∧(j_≤nd.length)∧(Ch mn vG)∧(rG mn nd (ej mn)=rG mn (nd.drop j_) vG)) _ ⟨0,(ej mn),a0,c0,J,i1,J,J,J,J,(bH J),H5,aq,(by exact aaX),(by rw[arY])⟩ ?_
 rintro _ f0 w4 ⟨j_,vG,a1,c1,rfl,s0,s1,s2,s3,s4,s5,H6,kb,hs,hb⟩
 refine aD<|k<|lss J J s5 s4<|av<|sq<|cd (b:=decide ((j_:Int)<(nd.length:Int))) J J (fun b0=>?_)<|fun b0=>?_
 ·
  have p0:=dT b0
  refine sk<|nx<|sq<|bk<|sq ?_
  have IY:=hs.1
  refine rg<|k<|ia (H6.rv 3 J) J J s3 s5 aq cw aT ?_
  intro iy x0 aN cB
  refine k<|kF cB.w aT J J ?_
  intro dN
  refine au (v:=C x0) J J<|av<|sq<|aD<|ak (v:=C x0) J J<|k<|lss J J J J<|ak (v:=.bool (decide (x0<0))) J J ?_
  rcases bE (decide (x0<0)) with b1|b1
  ·
   have p1:=dT b1
   refine aZ J J J b1<|aZ J J J b1<|aZ J J J b1<|aZ J J J b1<|k<|aQ J J J J b1 J<|ak (v:=.bool true) J J<|aZ J J J J<|aZ J J J J<|aZ J J J J<|k<|aQ J J J J J J<|av<|pk J J J<|aD<|au (v:=.slice none 0 0) J J<|au (v:=C 1) J J<|av<|rt<|aL<|bI<|aL<|du<|bI<|aL ?_
   have zD:=LM (rs:=mr) hb aN<|.inl aq
   refine r2 J J J ?_
   have e0:([]:aE)=(dJ mn mr nd).1:=by rw[zD]
   have e1:(1:Int)=(dJ mn mr nd).2:=by rw[zD]
   have bt:=nN (fun (cb:aE) (dK:Int)=>(.tuple #[.slice none cb.length 0,C dK]:Value)) e0 e1
   exact⟨none,0,bt,H6.below,(apj (fun (x_:aE)=>bo _ _ _ x_ (.slice none x_.length 0) _) e0).mp (fV H6.below)⟩
  have p1:=dF b1
  refine bl J J J b1<|mv (v:=C x0) J J<|bl J J J b1<|fa ky J s1<|bl J J J b1<|lx H6 2 J aT J J J<|bl J J J b1<|geq J J J J<|k<|cU J J J J b1 J<|ak (v:=.bool (decide (mn≤x0))) J J ?_
  rcases bE (decide (mn≤x0)) with b2|b2
  ·
   have p2:=dT b2
   refine aZ J J J b2<|aZ J J J b2<|aZ J J J b2<|k<|aQ J J J J b2 J<|av<|pk J J J<|aD<|au (v:=.slice none 0 0) J J<|au (v:=C 1) J J<|av<|rt<|aL<|bI<|aL<|du<|bI<|aL ?_
   have zD:=LM (rs:=mr) hb aN<|.inr (.inl aq)
   refine r2 J J J ?_
   have e0:([]:aE)=(dJ mn mr nd).1:=by rw[zD]
   have e1:(1:Int)=(dJ mn mr nd).2:=by rw[zD]
   have bt:=nN (fun (cb:aE) (dK:Int)=>(.tuple #[.slice none cb.length 0,C dK]:Value)) e0 e1
   exact⟨none,0,bt,H6.below,(apj (fun (x_:aE)=>bo _ _ _ x_ (.slice none x_.length 0) _) e0).mp (fV H6.below)⟩
  have p2:=dF b2
  refine bl J J J b2<|lx H6 0 J dw J s2 J<|bl J J J b2<|mv (v:=C x0) J J<|bl J J J b2 ?_
  have H7:=H6.freeze 1 J
  have df:=Aw (r:=vG) (i:=x0) H7.mb (H7.rv 1 J) dN
  refine ca No J (ec J<|ec J e0) df ?_
  rintro _ w5 ⟨rfl,fg⟩
  have H8:=H6.ext fg
  refine k<|cU J J J J b2 J<|z<|nx<|cd (b:=fy vG x0) J J (fun b3=>?_)<|fun b3=>?_
  ·
   refine aD<|au (v:=.slice none 0 0) J J<|au (v:=C 1) J J<|av<|rt<|aL<|bI<|aL<|du<|bI<|aL ?_
   have zD:=LM (rs:=mr) hb aN<|.inr (.inr bu)
   refine r2 J J J ?_
   have e0:([]:aE)=(dJ mn mr nd).1:=by rw[zD]
   have e1:(1:Int)=(dJ mn mr nd).2:=by rw[zD]
   have bt:=nN (fun (cb:aE) (dK:Int)=>(.tuple #[.slice none cb.length 0,C dK]:Value)) e0 e1
   exact⟨none,0,bt,H8.below,(apj (fun (x_:aE)=>bo _ _ _ x_ (.slice none x_.length 0) _) e0).mp (fV H8.below)⟩
  refine sk<|nx<|rg<|bq H8 0 J dw J s2 J<|ak (v:=C x0) J J<|k ?_
  have H9:=H8.freeze 1 J
  have fF:=uO (r:=vG) (i:=x0) H9.mb (H9.rv 1 J) dN aq
  refine ca Gs J (ec J<|ec J e0) fF ?_
  rintro _ w6 ⟨a2,c2,rfl,jl,dH⟩
  have dB:=H9.eU dH
  refine k<|bA dB 1 J dw J J s2 J J J J ?_
  intro w7 (cT:HI M w w7 (oL w 151 a2 (eo vG x0) c2::box bj #[R a2 (eo vG x0) c2] 144::iL a1 vG c1::bf))
  refine z<|aH<|nx<|rg<|k<|add J J s5 J aS<|ak (v:=C ((j_:Int)+1)) J J<|z ?_
  have db:HI M w w7 (box bj #[R a2 (eo vG x0) c2] 144::oL w 151 a2 (eo vG x0) c2::bf):=cT.bX [1,0,3,4,5] aw J
  refine bB _ ?_ ⟨(j_+1),(eo vG x0),a2,c2,J,s0,s1,s2,s3,s4,(bH J),db,aq,(by exact aaW hs aq aq),(by exact aam hb aN aq aq bu)⟩
  omega
 have p0:=dF b0
 refine ex<|aW<|ba<|bh<|nx<|sq ?_
 have IY:=hs.1
 refine rg<|k<|cC H6 2 J bp J s1 aw J<|k ?_
 have df:=F4 (mn:=mn) (mr:=mr) H6.mb (hT.ext H6.below) gk (H6.rv 4 J)<|by exact b9
 refine ca Xk J (ec J e0) df ?_
 rintro _ w5 ⟨a2,c2,rfl,fg,dN⟩
 have H7:=H6.eU dN
 refine k<|al H7 bp ?_
 let J3:=oL w 144 a2 (gP mn mr) c2
 let J4:=box bj #[R a1 vG c1] 144
 let bZ:=J3::J4::oL w 151 a1 vG c1::bf
 intro bK w6 jl (H8:HI M w w6 (box bK #[C 0,.slice none 0 0] 26::bZ))
 refine k<|bA H8 0 J bp J J J J J J J ?_
 let J5:=box bK #[C mn,R a2 (gP mn mr) c2] 26
 intro w7 (H9:HI M w w7 (J5::bZ))
 refine bz<|ak J s0<|k<|dP J J cw<|k<|mk0 (α:=Int) (m:=nd.length) H9 J J J J cw aT aq aq ?_
 intro g0 w8 je (dB:HI M w w8 (own w.heap.size 3 (.slice (some ⟨g0,0,none⟩) 0 nd.length) ([]:aE)::J5::bZ))
 refine au (v:=.slice (some ⟨g0,0,none⟩) 0 nd.length) J J<|av<|sq<|bk<|lp (fun m f w'=>∃(wL:aE) (jJ:List bw) (a3:OA) (c3:Nat) (a4:OA) (c4:Nat),m=nd.length-wL.length∧f 1=R GU nd GJ∧f 6=pV bj 0∧f 9=pV bK 0∧f 10=R a3 wL c3∧HI M w w' [oL w 3 a3 wL c3,J5,J3,box bj #[R a4 jJ c4] 144,oL w 151 a4 jJ c4,J2,J1,J0]∧(wL.length≤nd.length)∧(Ch mn jJ)∧(dJ mn mr nd=Bh (gP mn mr) (nd.length-wL.length) jJ wL)) _ ⟨([]:aE),vG,(some ⟨g0,0,none⟩),nd.length,a1,c1,J,s0,s2,J,J,dB,bm,(by exact hs),(by exact VY hb aq)⟩ ?_
 rintro _ f1 w9 ⟨wL,jJ,a3,c3,a4,c4,rfl,s6,s7,s8,s9,cT,ajT,gS,ht⟩
 refine sq<|aD<|ak J s9<|k<|dP J J cw<|ak J s6<|k<|dP J J cw<|k<|lss J J J J<|z<|nx<|cd (b:=decide ((wL.length:Int)<(nd.length:Int))) J J (fun b1=>?_)<|fun b1=>?_
 ·
  have p1:=dT b1
  refine sk<|nx<|bk<|sq ?_
  have IY:=gS.1
  refine rg<|bq cT 3 J dw J s7 J<|k ?_
  have db:=cT.freeze 4 J
  have fF:=uP (r:=jJ) db.mb (hT.ext db.below) (db.rv 4 J) aq
  refine ca I1 J (ec J e0) fF ?_
  rintro _ dL ⟨a5,c5,rfl,jE,dH⟩
  have dq:=cT.eU<|bo.anyM dH
  refine k<|mf2 J (YK s8<|YK s7 mf0)<|k ?_
  have cM:=dq.freeze 0 J
  have fc:=wD (r:=(cZ jJ)) (p:=(fun (x_:Int)=>(!(pd ((gP mn mr).getD x_.toNat []) jJ)))) cM.mb (cM.rv 0 J) ⟨akq,fun w_ v_ x_ pY e_ Hv=>by have H_:=cM.ext e_;obtain⟨_,⟨rfl,ft⟩,rfl⟩:=Hv;exact QJ (mn:=mn) (mr:=(gP mn mr)) (lf:=jJ) (M:=fun _=>False) (fun _ h_=>h_.elim) ft bu ((H_.mD 3 J).lift (Up.less fun _ _ h_=>h_.elim)) ((H_.mD 5 J).lift (Up.less fun _ _ h_=>h_.elim)) ⟨H_.at_ 2 rfl,fun h_=>h_⟩ ⟨H_.at_ 4 rfl,fun h_=>h_⟩ (by exact ajk) (by exact gS.2 _ pY) (by exact gS.1)⟩
  refine ca Xj J (ec J<|ec J e0) fc ?_
  rintro _ ew ⟨rfl,lk⟩
  have dR:=dq.ext lk
  refine au (v:=C (eM (fun (x_:Int)=>(!(pd ((gP mn mr).getD x_.toNat []) jJ)))<|cZ jJ)) J J<|av<|sq<|sq ?_
  have aoh:=aa8 (p:=(fun (x_:Int)=>(!(pd ((gP mn mr).getD x_.toNat []) jJ)))) (r:=cZ jJ)
  have ajN:=fun (q_:Nat) (x_:Int) (h_:(cZ jJ)[q_]? =some x_)=>adl gS h_
  refine rg<|ak (v:=C (eM (fun (x_:Int)=>(!(pd ((gP mn mr).getD x_.toNat []) jJ)))<|cZ jJ)) J J<|k<|lss J J J J<|z<|nx<|cd (b:=decide ((eM (fun (x_:Int)=>(!(pd ((gP mn mr).getD x_.toNat []) jJ)))<|cZ jJ)<0)) J J (fun b2=>?_)<|fun b2=>?_
  ·
   have p2:=dT b2
   refine aD<|au (v:=.slice none 0 0) J J<|au (v:=C 7) J J<|av<|rt<|aL<|bI<|du<|bI<|aL ?_
   have zD:=agf ht aq<|show eM (fun (x_:Int)=>(!(pd ((gP mn mr).getD x_.toNat []) jJ))) (cZ jJ)<0 from by omega
   refine r2 J J J ?_
   have e0:([]:aE)=(dJ mn mr nd).1:=by rw[zD]
   have e1:(7:Int)=(dJ mn mr nd).2:=by rw[zD]
   have bt:=nN (fun (cb:aE) (dK:Int)=>(.tuple #[.slice none cb.length 0,C dK]:Value)) e0 e1
   exact⟨none,0,bt,dR.below,(apj (fun (x_:aE)=>bo _ _ _ x_ (.slice none x_.length 0) _) e0).mp (fV dR.below)⟩
  have p2:=dF b2
  refine sk<|cQ<|bq dR 4 J dw J s7 J<|k ?_
  have dI:=dR.freeze 5 J
  have my:=uP (r:=jJ) dI.mb (hT.ext dI.below) (dI.rv 5 J) aq
  refine ca I1 J (ec J e0) my ?_
  rintro _ fq ⟨a6,c6,rfl,lj,iO⟩
  have cR:=dR.eU<|bo.anyM iO
  refine ak (v:=C (eM (fun (x_:Int)=>(!(pd ((gP mn mr).getD x_.toNat []) jJ)))<|cZ jJ)) J J<|k<|iC (cR.at_ 0 J) J J J J aq cw aT ?_
  intro g1 x0 iP aN cB
  refine k<|kF cB aT J J ?_
  intro jK
  refine au (v:=C x0) J J<|av<|sq ?_
  obtain⟨ajx,ajw⟩:=ajN _ _ aN
  have anY:=WU gS ajx ajw
  refine rg<|bq cR 5 J dw J s7 J<|ak (v:=C x0) J J<|k<|LZ J J J J<|k<|iC (cR.at_ 6 J) J J J J aq iq fA ?_
  intro g2 x1 kT cO gx
  refine k<|zi gx fA J J<|ak (v:=C x0) J J<|k<|Ls J J J J<|k<|Qe J J CN Ep<|k<|aco (1#64) ((BitVec.ofInt 64<|x0%64).toNat:Int) aq J J J J<|k<|abQ x1 ((1#64) <<< ((BitVec.ofInt 64<|x0%64).toNat:Int).toNat) J J J J<|k<|iC (cR.at_ 6 J) J J J J aq iq fA ?_
  intro g3 x2 Cn iY jw
  refine k<|qE cR 6 J Cn J aq fA J J J J (RV.bv.2 J) ?_
  let J6:=box bj #[R a4 jJ c4] 144
  let J7:=own w.heap.size 151 (.slice a4 jJ.length c4) (jJ.set ((x0/64).toNat) (x1 &&& ~~~((1#64) <<< ((BitVec.ofInt 64 (x0%64)).toNat:Int).toNat)))
  intro iF (dX:HI M w iF [oL w 3 a6 (cZ jJ) c6,oL w 3 a5 (cZ jJ) c5,oL w 3 a3 wL c3,J5,J3,J6,J7,J2,J1,J0])
  refine av<|rg<|ak J s9<|ak (v:=C x0) J J<|k<|bs (xs:=([x0]:aE)) (cells:=#[C x0]) (e:=3) dX J (ct J eA) (fun _=>aV) ⟨[C x0],[],J,⟨J,(show aK (x0) from bu)⟩,J⟩ J aw ?_
  intro g4 jF sT dV
  refine k<|l7 dV 3 J J J J J J (hG<|dV.at_ 0 J) cw aT J (by simp;omega) J ?_
  intro a7 c7 oU (cJ:HI M w oU [own w.heap.size 3 (.slice (some ⟨g4,0,none⟩) 1 1) ([x0]:aE),oL w 3 a6 (cZ jJ) c6,oL w 3 a5 (cZ jJ) c5,oL w 3 a7 (wL++([x0]:aE)) c7,J5,J3,J6,J7,J2,J1,J0])
  refine au (v:=R a7 (wL++([x0]:aE)) c7) J J<|z<|aH ?_
  have ef:HI M w oU [oL w 3 a7 (wL++([x0]:aE)) c7,J5,J3,J6,J7,J2,J1,J0]:=cJ.bX [3,4,5,6,7,8,9,10] aw J
  have dA:HI M w oU [oL w 3 a7 (wL++([x0]:aE)) c7,J5,J3,box bj #[R a4 (jJ.set ((x0/64).toNat) (x1 &&& ~~~((1#64) <<< ((BitVec.ofInt 64 (x0%64)).toNat:Int).toNat))) c4] 144,own w.heap.size 151 (.slice a4 (jJ.set ((x0/64).toNat) (x1 &&& ~~~((1#64) <<< ((BitVec.ofInt 64 (x0%64)).toNat:Int).toNat))).length c4) (jJ.set ((x0/64).toNat) (x1 &&& ~~~((1#64) <<< ((BitVec.ofInt 64 (x0%64)).toNat:Int).toNat))),J2,J1,J0]:=by simpa +zetaDelta only[R,apk] using ef
  refine bB _ ?_ ⟨(wL++([x0]:aE)),(jJ.set ((x0/64).toNat) (x1 &&& ~~~((1#64) <<< ((BitVec.ofInt 64<|x0%64).toNat:Int).toNat))),a7,c7,a4,c4,J,s6,s7,s8,J,dA,(by rw[gj,jb,gC];omega),(by exact aaY gS ‹_›),(by exact aal ht aq (show ¬eM (fun (x_:Int)=>(!(pd ((gP mn mr).getD x_.toNat []) jJ))) (cZ jJ)<0 from by omega) aN ‹_›)⟩
  rw[gj,jb,gC];omega
 have p1:=dF b1
 refine ex<|aW<|ba<|bh<|cQ<|ak J s9<|au (v:=R a3 wL c3) J J<|au (v:=C 0) J J<|av<|rt ?_
 have zD:=ace ht aq
 refine r2 J J J ?_
 have e0:(wL:aE)=(dJ mn mr nd).1:=by rw[zD]
 have e1:(0:Int)=(dJ mn mr nd).2:=by rw[zD]
 have bt:=nN (fun (cb:aE) (dK:Int)=>(.tuple #[.slice a3 cb.length c3,C dK]:Value)) e0 e1
 exact⟨a3,c3,bt,cT.below,(apj (fun (x_:aE)=>bo _ _ _ x_ (.slice a3 x_.length c3) _) e0).mp (cT.dx 0 J)⟩
theorem I5:gV aM 107 0 0:=j1 Tryz.underlying107
theorem u4:gV aM 107 1 3:=j1 Tryz.underlying107
theorem ag_:cD aM 130:=cE Tryz.func130
theorem RN:cD aM 56:=cE Tryz.func56
theorem GZ:ez aM 103 1 false 8 (.pointer none):=⟨aV,aV⟩
theorem QG:ez aM 63 1 false 8 (.nilFunc):=⟨aV,aV⟩
theorem Zx:cD aM 132:=cE Tryz.func132
theorem ag9:cD aM 134:=cE Tryz.func134
theorem ako:cD aM 92:=cE Tryz.func92
theorem akn:cD aM 93:=cE Tryz.func93
theorem Vd {NZ:Nat} {Ys:TypeId} {Yb:OA} {XT:Nat} {dn:aE} (hM:eC M w) (aeB:aK x_) (aka:cz M w Yb XT dn) (akh:w.heap[NZ]? =some (.cells #[R Yb dn XT] Ys (0,0))∧¬M NZ):Calls aM 130 #[C x_,.pointer (some ⟨NZ,0,none⟩)] w (ck fun v w'=>v=.bool (dn.any (fun (z_:Int)=>decide (x_=z_)))∧Ext w w'):=by
 refine dv 7 Tryz.func130 J J J hM fun f0 ha H=>?_
 have H0:=dU H aka
 have i0:f0 0=C x_:=ha 0 bm
 have H1:=H0.put (it:=ro NZ #[R Yb dn XT] Ys) J<|by rw[aG rfl,bQ];exact akh
 have i1:f0 1=pV NZ 0:=ha 1 bm
 refine aD<|au (v:=.bool false) J J<|bz<|k<|lr H1 0 J qv J i1 J<|ak J i0<|k ?_
 have bT:=D5 (se:=dn) (ui:=x_) H1.mb (H1.rv 1 J) aeB
 refine ca Zy J (ec J<|ec J e0) bT ?_
 rintro _ w0 ⟨rfl,bY⟩
 have H2:=H1.ext bY
 refine au (v:=.bool (dn.any<|fun (z_:Int)=>decide (x_=z_))) J J<|av<|rt<|r1 J J ?_
 exact⟨apj Value.bool (show (dn.any<|fun (z_:Int)=>decide (x_=z_))=(dn.any<|fun (z_:Int)=>decide (x_=z_)) from rfl),H2.below⟩
theorem XP (hM:eC M w) (hT:fY 0 w) (cW:cz M w aA az I) (fC:cz M w ay ax U) (kD:aK cn) (nV:cz M w dE dD cr) (uz:aK o) (lu:w.heap[eL]? =some (.cells #[.slice aC aF aB,R aA I az,R ay U ax,C cn,R dE cr dD] l9 (0,0))∧¬M eL) (ho:ij I) (dG:I.length≤64) (ey:U.length=I.length) (fP:∀x∈U,x<((I.length:Nat):Int)) (oK:cn=((I.length:Nat):Int)) (qa:cr=cA I U) (ur:0≤o∧o<((I.length:Nat):Int)):Calls aM 92 #[.pointer (some ⟨eL,0,none⟩),C o] w (ck fun v w'=>∃(ls:aE) (a0:OA) (c0:Nat),v=R a0 ls c0∧Ext w w'∧bo M 3 w ls (R a0 ls c0) w'∧ls.length≤300000):=by
 refine dv 58 Tryz.func92 J J J hM fun f0 ha H=>?_
 let J0:=iL aA I az
 have H0:=H.put (it:=J0) J<|by rw[bQ];exact cW
 let J1:=iL ay U ax
 have H1:=H0.put (it:=J1) J<|by rw[aG rfl,bQ];exact fC
 let J2:=iL dE cr dD
 have H2:=H1.put (it:=J2) J<|by rw[aG rfl,aG rfl,bQ];exact nV
 have iE:=bg cW
 have kh:=bg fC
 have BJ:=bg nV
 let J3:=ro eL #[.slice aC aF aB,R aA I az,R ay U ax,C cn,R dE cr dD] l9
 have H3:=H2.put (it:=J3) J<|by rw[aG rfl,aG rfl,aG rfl,bQ];exact lu
 have i0:f0 0=pV eL 0:=ha 0 bm
 have i1:f0 1=C o:=ha 1 bm
 have lq:bL cn cr=true:=by rw[oK,qa];exact pS U aq
 have lk_:=BO ho dG ur
 have Yz:=agm (U:=U) (o:=o) dG
 have aof:(bc (fk I) (cF I o)++([o]:aE)).length≤65:=by rw[gj];simp only[jb,gC];omega
 refine aD<|au (v:=.slice none 0 0) J J<|av<|sq<|mw [.r,.r,.r,.r,.r,.r,.r,.r,.r,.r,.r,.r,.s,.s,.s,.n,.e,.s,.s,.s] (fun _=>True) J aV (fun _ _=>trivial)<|yq J J<|kq (fun _ _=>mv J i0 e1)<|bS<|kq (fun _ _=>nc J J e1)<|bS<|kq (fun _ _=>fa I5 J J e1)<|bS<|kq (fun _ x_=>wS (H3.ext x_) 0 J dt J J aw J e1)<|bS<|kq (fun _ _=>mv J i0 e1)<|bS<|kq (fun _ _=>nc J J e1)<|bS<|kq (fun _ _=>fa u4 J J e1)<|bS<|kq (fun _ x_=>wS (H3.ext x_) 0 J bp J J aw J e1)<|bS<|kq (fun _ _=>mv J i1 e1)<|zq<|yu J (fun N v w'=>∃(o0:List eu) (o1:Int) (a0:OA) (c0:Nat) (a1:OA) (c1:Nat),v=.tuple #[.agg #[C ((I.length:Nat):Int),R a0 (cY I U o) c0],R a1 o0 c1,C o1,C 0]∧o0.length≤2000000000∧aK o1∧oP I.length o0∧RV (MN H3.eI N) w' (R a0 (cY I U o) c0) (cY I U o)∧RV (MN H3.eI N) w' (R a1 o0 c1) o0) J ⟨by rintro _ _ _ _ x_ ⟨o0,o1,a0,c0,a1,c1,e_,q0,q1,q2,dH,ft⟩;exact⟨o0,o1,a0,c0,a1,c1,e_,q0,q1,q2,dH.lift (Up.ext x_),ft.lift (Up.ext x_)⟩,by rintro _ _ _ _ _ k_ ⟨o0,o1,a0,c0,a1,c1,e_,q0,q1,q2,dH,ft⟩;exact⟨o0,o1,a0,c0,a1,c1,e_,q0,q1,q2,ig dH k_,ig ft k_⟩⟩ J (fun v_ _ x_ n_=>have df:=IL (I:=I) (U:=U) (mn:=cn) (mr:=cr) (o:=o) (aC:=aC) (aF:=aF) (aB:=aB) (w:=v_) (kR H3.mb x_ n_) (hT.ext (H3.below.trans x_)) (kv (H3.rv 3 J) x_ n_) (kv (H3.rv 2 J) x_ n_) kD (kv (H3.rv 1 J) x_ n_) uz (by exact ho) (by exact dG) (by exact ey) (by exact fP) (by exact oK) (by exact qa) aq;ca RU rfl (ec J<|ec J<|ec J e0) df (fun _ w1 ⟨o2,o3,a2,c2,a3,c3,e_,cS,iO,jK,q3,q4,q5⟩=>⟨_,J,cS,⟨o2,o3,a2,c2,a3,c3,e_,q3,q4,q5,iO,jK⟩⟩))<|lP J (fun N v w'=>∃(o4:List eu) (o5:Int) (a4:OA) (c4:Nat) (a5:OA) (c5:Nat),v=.tuple #[.agg #[C ((I.length:Nat):Int),R a4 (cY I U o) c4],R a5 o4 c5,C o5,C 0]∧o4.length≤2000000000∧aK o5∧oP I.length o4∧RV (MN H3.eI N) w' (R a4 (cY I U o) c4) (cY I U o)∧RV (MN H3.eI N) w' (R a5 o4 c5) o4) 0 J J ⟨by rintro _ _ _ _ x_ ⟨o4,o5,a4,c4,a5,c5,e_,q6,q7,q8,i',kN⟩;exact⟨o4,o5,a4,c4,a5,c5,e_,q6,q7,q8,i'.lift (Up.ext x_),kN.lift (Up.ext x_)⟩,by rintro _ _ _ _ _ k_ ⟨o4,o5,a4,c4,a5,c5,e_,q6,q7,q8,i',kN⟩;exact⟨o4,o5,a4,c4,a5,c5,e_,q6,q7,q8,ig i' k_,ig kN k_⟩⟩ J (fun _ _ _ _ _ h_=>let ⟨o6,o7,a6,c6,a7,c7,s0,q9,vw,yc,nj,n9⟩:=h_;mv rfl s0 ⟨_,J,Ext.refl _,⟨o6,o7,a6,c6,a7,c7,J,q9,vw,yc,nj,n9⟩⟩)<|lP J (fun N v w'=>∃(a8:OA) (c8:Nat),v=.agg #[C ((I.length:Nat):Int),R a8 (cY I U o) c8]∧RV (MN H3.eI N) w' (R a8 (cY I U o) c8) (cY I U o)) 0 J J kZ J (fun _ _ _ _ _ h_=>let ⟨kQ,fS,jy,jx,mW,mU,s1,C7,C6,yY,mA,pI⟩:=h_;xt rfl s1 rfl ⟨_,J,Ext.refl _,⟨jy,jx,J,mA⟩⟩)<|lP J (fun N v w'=>∃(ka:List eu) (j3:OA) (j2:Nat),v=R j3 ka j2∧ka.length≤2000000000∧oP I.length ka∧RV (MN H3.eI N) w' (R j3 ka j2) ka) 1 J J ⟨by rintro _ _ _ _ x_ ⟨ka,j3,j2,e_,yb,ya,qw⟩;exact⟨ka,j3,j2,e_,yb,ya,qw.lift (Up.ext x_)⟩,by rintro _ _ _ _ _ k_ ⟨ka,j3,j2,e_,yb,ya,qw⟩;exact⟨ka,j3,j2,e_,yb,ya,ig qw k_⟩⟩ J (fun _ _ _ _ _ h_=>let ⟨Hb,JO,lz,ly,KF,Kz,s2,EY,q22,Mg,Br,FO⟩:=h_;xt rfl s2 rfl ⟨_,J,Ext.refl _,⟨Hb,KF,Kz,J,EY,Mg,FO⟩⟩)<|lP J (fun _ v _=>∃(Dh:Int),v=C Dh∧aK Dh) 2 J J mE J (fun _ _ _ _ _ h_=>let ⟨TG,JN,a18,c18,a19,c19,s3,q27,Ti,q29,acJ,acI⟩:=h_;xt rfl s3 rfl ⟨_,J,Ext.refl _,⟨JN,J,Ti⟩⟩)<|Sn J (X:=C 0) 3 J J (fun _ _ _ _ _ h_=>let ⟨TE,Px,a22,c22,a23,c23,s4,q33,q34,q35,acH,acG⟩:=h_;xt rfl s4 rfl e1)<|yn (z:=#[C 0,.slice none 0 0]) J J (fun _=>Qt bp)<|ye<|lP J (fun N v w'=>∃(mP:List eu) (a24:OA) (zF:Nat),v=R a24 mP zF∧mP.length≤2000000000∧oP I.length mP∧RV (MN H3.eI N) w' (R a24 mP zF) mP) 2 J J ⟨by rintro _ _ _ _ x_ ⟨mP,a24,zF,e_,C5,C4,xY⟩;exact⟨mP,a24,zF,e_,C5,C4,xY.lift (Up.ext x_)⟩,by rintro _ _ _ _ _ k_ ⟨mP,a24,zF,e_,C5,C4,xY⟩;exact⟨mP,a24,zF,e_,C5,C4,ig xY k_⟩⟩ J (fun _ _ _ _ _ h_=>let ⟨Mu,a25,Fo,s5,Th,Tg,Md⟩:=h_;jV rfl s5 ⟨_,J,Ext.refl _,⟨Mu,a25,Fo,J,Th,Tg,Md⟩⟩)<|lP J (fun _ v _=>∃(sZ:Int),v=C sZ∧aK sZ) 2 J J mE J (fun _ _ _ _ _ h_=>let ⟨um,s6,Tf⟩:=h_;jV rfl s6 ⟨_,J,Ext.refl _,⟨um,J,Tf⟩⟩)<|yq J J<|kq (fun _ _=>jV (v:=C 0) J J e1)<|zq<|yz ?_
 intro w2 f0 _ fm _ _ cG jc
 obtain⟨bj,s7,DN,tm,Co⟩:=jc 2 _ _ rfl
 have qb:=Qj (z:=#[C 0,.slice none 0 0]) (T:=26) DN tm Co<|Qk
 let bf:=[J3,J2,J1,J0]
 have cT:HI M w w2 (box bj #[C 0,.slice none 0 0] 26::bf):=H3.Ez fm qb<|PB PA PC
 have s8:=(cG 0 J).trans i0
 have s9:=(cG 1 J).trans i1
 obtain⟨a26,Ij,ei,Mc⟩:=jc 5 _ _ rfl
 let J4:=iL a26 (cY I U o) Ij
 have db:=cT.put (it:=J4) J<|sJ Mc qb
 refine km<|bA db 1 J bp J J s7 ei J J J ?_
 let J5:=box bj #[C ((I.length:Nat):Int),R a26 (cY I U o) Ij] 26
 intro w3 (dq:HI M w w3 (J4::J5::bf))
 refine kz<|cQ<|k<|al dq qv ?_
 intro bK w4 fg (cM:HI M w w4 (box bK #[.slice none 0 0] 27::J4::J5::bf))
 refine av<|sq<|aD<|ak J s8<|k<|nc J J<|aU I5 J J<|k<|wS cM 3 J dt J J aw J<|ak J s9<|k ?_
 have fF:=C_ (I:=I) (o:=o) (aC:=aC) (aF:=aF) (aB:=aB) (ay:=ay) (dY:=U.length) (ax:=ax) cM.mb (cM.rv 6 J) uz (by exact ho) aq
 refine ca Xn J (ec J<|ec J e0) fF ?_
 rintro _ w5 ⟨A9,A6,rfl,jl,V8⟩
 have dR:=cM.eU V8
 refine ak J s9<|k<|bs (xs:=([o]:aE)) (cells:=#[C o]) (e:=3) dR J (ct J eA) (fun _=>aV) ⟨[C o],[],J,⟨J,uz⟩,J⟩ J aw ?_
 intro g0 w6 je dI
 refine k<|l7 dI 1 J J J J J J (hG<|dI.at_ 0 J) cw aT J (by simp only[jb,gC];omega) J ?_
 let J6:=own w.heap.size 3 (.slice (some ⟨g0,0,none⟩) 1 1) ([o]:aE)
 intro a28 rT w7 (cR:HI M w w7 (J6::oL w 3 a28 (bc (fk I) (cF I o)++([o]:aE)) rT::box bK #[.slice none 0 0] 27::J4::J5::bf))
 refine k<|dP J J cw<|ak (v:=C 0) J J<|av<|bk ?_
 have dX:=cR.qZ Int 3
 let bZ:=J4::box bj #[C ((I.length:Nat):Int),R a26 (cY I U o) Ij] 26::bf
 refine lp (fun m f w'=>∃(j_:Nat) (iG:aE) (pv:OA) (pq:Nat),m=(bc (fk I) (cF I o)++([o]:aE)).length-j_∧f 5=pV bj 0∧f 9=pV bK 0∧f 36=R a28 (bc (fk I) (cF I o)++([o]:aE)) rT∧f 37=C ((bc (fk I) (cF I o)++([o]:aE)).length:Int)∧f 38=C (j_:Int)∧HI M w w' (oL w 3 pv iG pq::own w.heap.size 3 (.slice (some ⟨g0,0,none⟩) 1 1) ([o]:aE)::oL w 3 a28 (bc (fk I) (cF I o)++([o]:aE)) rT::box bK #[R pv iG pq] 27::bZ)∧(j_≤(bc (fk I) (cF I o)++([o]:aE)).length)∧(iG.length≤4096*j_)) _ ⟨0,([]:aE),none,0,J,s7,J,J,J,(bH J),dX,aq,(by exact aqH _)⟩ ?_
 rintro _ f1 w8 ⟨j_,iG,pv,pq,rfl,eR,fM,fL,gv,gH,dV,kb,hs⟩
 refine aD<|k<|lss J J gH gv<|av<|sq<|cd (b:=decide ((j_:Int)<((bc (fk I) (cF I o)++([o]:aE)).length:Int))) J J (fun b0=>?_)<|fun b0=>?_
 ·
  have p0:=dT b0
  refine sk<|nx<|sq<|bk<|aD<|k<|iC (dV.at_ 2 J) J J fL gH aq cw aT ?_
  intro g1 x0 iP aN cB
  refine k<|kF cB aT J J ?_
  intro Mb
  refine au (v:=C x0) J J<|bz<|k<|cC dV 5 J bp J eR aw J<|ak (v:=C x0) J J<|k ?_
  have fc:=vy (mn:=((I.length:Nat):Int)) (mr:=(cY I U o)) (o:=x0) dV.mb (hT.ext dV.below) aS (dV.rv 4 J) Mb<|by exact Yz
  refine ca Np J (ec J<|ec J e0) fc ?_
  rintro _ w9 ⟨kf,kc,rfl,jE,FN⟩
  have cJ:=dV.eU FN
  refine k<|mf2 J (YK fM mf0)<|k ?_
  let J7:=box bK #[R pv iG pq] 27
  have ef:HI M w w9 ([oL w 3 kf (bR ((I.length:Nat):Int) (cY I U o) x0) kc]++[oL w 3 pv iG pq,J6,oL w 3 a28 (bc (fk I) (cF I o)++([o]:aE)) rT,J7,J4,J5,J3,J2,J1,J0]):=cJ.bX [0,1,2,3,4,5,6,7,8,9,10] aw J
  have my:=ph (ee:=kf) (dW:=kc) (xs:=(bR ((I.length:Nat):Int) (cY I U o) x0)) (qN:=130) (qQ:=[pV bK 0]) (p:=(fun (x_:Int)=>(iG.any<|fun (z_:Int)=>decide (x_=z_)))) (w:=w) (w_:=w9) (r:=[oL w 3 pv iG pq,own w.heap.size 3 (.slice (some ⟨g0,0,none⟩) 1 1) ([o]:aE),oL w 3 a28 (bc (fk I) (cF I o)++([o]:aE)) rT,J7,J4,box bj #[C ((I.length:Nat):Int),R a26 (cY I U o) Ij] 26,J3,J2,J1,J0]) (M:=M) ⟨ag_,fun w_ rK H_ x_ pY E7=>Vd (dn:=iG) (M:=fun _=>False) (fun _ h_=>h_.elim) E7 ((H_.mD 1 J).lift (Up.less fun _ _ h_=>h_.elim)) ⟨H_.at_ 4 rfl,fun h_=>h_⟩⟩ ef
  refine ca HH J (ec J<|ec J e0) my ?_
  rintro _ dL ⟨rfl,dA⟩
  have fe:HI M w dL (oL w 3 kf (bc (fun (x_:Int)=>(iG.any (fun (z_:Int)=>decide (x_=z_)))) (bR ((I.length:Nat):Int) (cY I U o) x0)) kc::oL w 3 pv iG pq::own w.heap.size 3 (.slice (some ⟨g0,0,none⟩) 1 1) ([o]:aE)::oL w 3 a28 (bc (fk I) (cF I o)++([o]:aE)) rT::J7::bZ):=dA
  refine au (v:=R kf (bc (fun (x_:Int)=>(iG.any<|fun (z_:Int)=>decide (x_=z_)))<|bR ((I.length:Nat):Int) (cY I U o) x0) kc) J J<|bz<|k<|cC fe 6 J bp J eR aw J<|ak (v:=R kf (bc (fun (x_:Int)=>(iG.any<|fun (z_:Int)=>decide (x_=z_)))<|bR ((I.length:Nat):Int) (cY I U o) x0) kc) J J<|k ?_
  have fw:=fe.freeze 0 J
  have mx:=yV (mn:=((I.length:Nat):Int)) (mr:=(cY I U o)) (nd:=(bc (fun (x_:Int)=>(iG.any<|fun (z_:Int)=>decide (x_=z_)))<|bR ((I.length:Nat):Int) (cY I U o) x0)) fw.mb (hT.ext fw.below) aS (fw.rv 5 J) (fw.rv 0 J) (by exact Yz)<|by exact Nat.le_trans (vi Yz x0 _) aw
  refine ca RN J (ec J<|ec J e0) mx ?_
  rintro _ ew ⟨a31,Kx,rfl,lk,FM⟩
  have gl:=fw.eU FM
  refine ak (v:=.tuple #[R a31 ((dJ ((I.length:Nat):Int) (cY I U o)<|bc (fun (x_:Int)=>(iG.any<|fun (z_:Int)=>decide (x_=z_)))<|bR ((I.length:Nat):Int) (cY I U o) x0).1) Kx,C ((dJ ((I.length:Nat):Int) (cY I U o)<|bc (fun (x_:Int)=>(iG.any<|fun (z_:Int)=>decide (x_=z_)))<|bR ((I.length:Nat):Int) (cY I U o) x0).2)]) J J<|k<|xt J J J<|k<|xt J J J<|au (v:=R a31 ((dJ ((I.length:Nat):Int) (cY I U o)<|bc (fun (x_:Int)=>(iG.any<|fun (z_:Int)=>decide (x_=z_)))<|bR ((I.length:Nat):Int) (cY I U o) x0).1) Kx) J J<|z<|nx ?_
  have anZ:=vi Yz x0<|fun (x_:Int)=>(iG.any<|fun (z_:Int)=>decide (x_=z_))
  have an0:=LL (n:=((I.length:Nat):Int)) (rs:=cY I U o) (nd:=bc (fun (x_:Int)=>(iG.any<|fun (z_:Int)=>decide (x_=z_))) (bR ((I.length:Nat):Int) (cY I U o) x0))
  refine rg<|bq gl 5 J qv J fM J<|ak (v:=R a31 ((dJ ((I.length:Nat):Int) (cY I U o)<|bc (fun (x_:Int)=>(iG.any<|fun (z_:Int)=>decide (x_=z_)))<|bR ((I.length:Nat):Int) (cY I U o) x0).1) Kx) J J<|k<|l7 gl 2 J J J J J J (hG<|gl.at_ 0 J) cw aT J aq J ?_
  intro a32 po fq (iR:HI M w fq (oL w 3 a31 ((dJ ((I.length:Nat):Int) (cY I U o) (bc (fun (x_:Int)=>(iG.any (fun (z_:Int)=>decide (x_=z_)))) (bR ((I.length:Nat):Int) (cY I U o) x0))).1) Kx::iL kf (bc (fun (x_:Int)=>(iG.any (fun (z_:Int)=>decide (x_=z_)))) (bR ((I.length:Nat):Int) (cY I U o) x0)) kc::oL w 3 a32 (iG++(dJ ((I.length:Nat):Int) (cY I U o) (bc (fun (x_:Int)=>(iG.any (fun (z_:Int)=>decide (x_=z_)))) (bR ((I.length:Nat):Int) (cY I U o) x0))).1) po::own w.heap.size 3 (.slice (some ⟨g0,0,none⟩) 1 1) ([o]:aE)::oL w 3 a28 (bc (fk I) (cF I o)++([o]:aE)) rT::J7::bZ))
  refine k<|bA iR 5 J qv J J fM J J J J ?_
  intro iF (iQ:HI M w iF (oL w 3 a31 ((dJ ((I.length:Nat):Int) (cY I U o) (bc (fun (x_:Int)=>(iG.any (fun (z_:Int)=>decide (x_=z_)))) (bR ((I.length:Nat):Int) (cY I U o) x0))).1) Kx::iL kf (bc (fun (x_:Int)=>(iG.any (fun (z_:Int)=>decide (x_=z_)))) (bR ((I.length:Nat):Int) (cY I U o) x0)) kc::oL w 3 a32 (iG++(dJ ((I.length:Nat):Int) (cY I U o) (bc (fun (x_:Int)=>(iG.any (fun (z_:Int)=>decide (x_=z_)))) (bR ((I.length:Nat):Int) (cY I U o) x0))).1) po::own w.heap.size 3 (.slice (some ⟨g0,0,none⟩) 1 1) ([o]:aE)::oL w 3 a28 (bc (fk I) (cF I o)++([o]:aE)) rT::box bK #[R a32 (iG++(dJ ((I.length:Nat):Int) (cY I U o) (bc (fun (x_:Int)=>(iG.any (fun (z_:Int)=>decide (x_=z_)))) (bR ((I.length:Nat):Int) (cY I U o) x0))).1) po] 27::bZ))
  refine z<|aH<|nx<|rg<|k<|add J J gH J aS<|ak (v:=C ((j_:Int)+1)) J J<|z ?_
  have mz:HI M w iF (oL w 3 a32 (iG++(dJ ((I.length:Nat):Int) (cY I U o) (bc (fun (x_:Int)=>(iG.any (fun (z_:Int)=>decide (x_=z_)))) (bR ((I.length:Nat):Int) (cY I U o) x0))).1) po::own w.heap.size 3 (.slice (some ⟨g0,0,none⟩) 1 1) ([o]:aE)::oL w 3 a28 (bc (fk I) (cF I o)++([o]:aE)) rT::box bK #[R a32 (iG++(dJ ((I.length:Nat):Int) (cY I U o) (bc (fun (x_:Int)=>(iG.any (fun (z_:Int)=>decide (x_=z_)))) (bR ((I.length:Nat):Int) (cY I U o) x0))).1) po] 27::bZ):=iQ.bX [2,3,4,5,6,7,8,9,10,11] aw J
  refine bB _ ?_ ⟨(j_+1),(iG++(dJ ((I.length:Nat):Int) (cY I U o)<|bc (fun (x_:Int)=>(iG.any<|fun (z_:Int)=>decide (x_=z_)))<|bR ((I.length:Nat):Int) (cY I U o) x0).1),a32,po,J,eR,fM,fL,gv,(bH J),mz,aq,(by rw[gj];omega)⟩
  omega
 refine ex<|aW<|ba<|bh<|cQ<|bq dV 3 J qv J fM J<|au (v:=R pv iG pq) J J<|av<|rt<|r1 J J ?_
 exact⟨iG,pv,pq,J,dV.below,(dV.dx 0 J),aq⟩
theorem D7 {NY:Nat} {Yr:TypeId} {fr:Int} {Yn:TypeId} (hM:eC M w) (aez:aK xx) (aj':aK fr) (cW:cz M w aA az I) (fC:cz M w ay ax U) (kD:aK cn) (nV:cz M w dE dD cr) (akg:w.heap[NY]? =some (.cells #[C fr] Yr (0,0))∧¬M NY) (akc:w.heap[kE]? =some (.cells #[.pointer (some ⟨eL,0,none⟩)] Yn (0,0))∧¬M kE) (lu:w.heap[eL]? =some (.cells #[.slice aC aF aB,R aA I az,R ay U ax,C cn,R dE cr dD] l9 (0,0))∧¬M eL) (lq:bL cn cr=true):Calls aM 132 #[C xx,.pointer (some ⟨NY,0,none⟩),.pointer (some ⟨kE,0,none⟩)] w (ck fun v w'=>v=.bool (decide (0≤fr)&&(decide (xx=fr)||eO cn cr fr xx))∧Ext w w'):=by
 refine dv 21 Tryz.func132 J J J hM fun f0 ha H=>?_
 have H0:=dU H cW
 have H1:=dU H0 fC
 have H2:=dU H1 nV
 have i0:f0 0=C xx:=ha 0 bm
 have H3:=H2.put (it:=ro NY #[C fr] Yr) J<|by rw[aG rfl,aG rfl,aG rfl,bQ];exact akg
 have i1:f0 1=pV NY 0:=ha 1 bm
 have H4:=H3.put (it:=ro eL #[.slice aC aF aB,R aA I az,R ay U ax,C cn,R dE cr dD] l9) J<|by rw[aG rfl,aG rfl,aG rfl,aG rfl,bQ];exact lu
 have H5:=H4.put (it:=ro kE #[pV eL 0] Yn) J<|by rw[aG rfl,aG rfl,aG rfl,aG rfl,aG rfl,bQ];exact akc
 have i2:f0 2=pV kE 0:=ha 2 bm
 refine aD<|au (v:=.bool false) J J<|av<|sq<|A2 J aV<|kq (fun _ x_=>lr (H5.ext x_) 2 J aT J i1 J e1)<|kq (fun _ _=>geq J J J J e1)<|kq (fun _ _=>mv (v:=.bool (decide (0≤fr))) J J e1) ?_
 rcases bE (decide (0≤fr)) with b0|b0
 ·
  refine qy J J J b0<|kq (fun _ _=>mv J i0 e1)<|qy J J J b0<|kq (fun _ x_=>lr (H5.ext x_) 2 J aT J i1 J e1)<|qy J J J b0<|kq (fun _ _=>eql J J J J e1)<|qy J J J b0<|kq (fun _ _=>mv (v:=.bool (decide (xx=fr))) J J e1) ?_
  rcases bE (decide (xx=fr)) with b1|b1
  ·
   refine qn J J J b1<|qn J J J b1<|qn J J J b1<|qn J J J b1<|qn J J J b1<|qn J J J b1<|qn J J J b1<|qy J J J b0<|kq (fun _ _=>aQ J J J J b1 J e1)<|kq (fun _ _=>aQ J J J J b0 J e1)<|kq (fun _ _=>jV (v:=.bool true) J J e1)<|zq ?_
   intro w0 bY
   have H6:=H5.ext bY
   refine nx<|rt<|r1 J J ?_
   exact⟨apj Value.bool (by simp only[b0,b1,BL]),H6.below⟩
  refine qy J J J b1<|kq (fun _ x_=>lr (H5.ext x_) 0 J GZ J i2 J e1)<|qy J J J b1<|kq (fun _ _=>nc J J e1)<|qy J J J b1<|kq (fun _ _=>fa u4 J J e1)<|qy J J J b1<|kq (fun _ x_=>wS (H5.ext x_) 1 J bp J J aw J e1)<|qy J J J b1<|kq (fun _ x_=>lr (H5.ext x_) 2 J aT J i1 J e1)<|qy J J J b1<|kq (fun _ _=>mv J i0 e1)<|qy J J J b1<|kq (v:=.bool (eO cn cr fr xx)) (fun v_ x_=>?_) ?_
  ·
   have cc:=uS (mn:=cn) (mr:=cr) (i:=fr) (j:=xx) (w:=v_) (H5.ext x_).mb kD ((H5.ext x_).rv 3 rfl) aj' aez (by exact(bU lq).1) (by exact(bU lq).2.1)<|by exact(bU lq).2.2.1
   exact ca Gv J (ec J<|ec J<|ec J e0) cc fun _ _ h_=>e2 h_
  refine qy J J J b0<|kq (fun _ _=>cU J J J J b1 J e1)<|kq (fun _ _=>aQ J J J J b0 J e1)<|kq (fun _ _=>jV (v:=.bool (eO cn cr fr xx)) J J e1)<|zq ?_
  intro w0 bY
  have H6:=H5.ext bY
  refine nx<|rt<|r1 J J ?_
  exact⟨apj Value.bool (by simp only[b0,b1,BL]),H6.below⟩
 refine qn J J J b0<|qn J J J b0<|qn J J J b0<|qn J J J b0<|qu J J J<|qu J J J<|qu J J J<|qu J J J<|qu J J J<|qu J J J<|qu J J J<|qn J J J b0<|kq (fun _ _=>cU J J J J b0 J e1)<|kq (fun _ _=>jV (v:=.bool false) J J e1)<|zq ?_
 intro w0 bY
 have H6:=H5.ext bY
 refine nx<|rt<|r1 J J ?_
 exact⟨apj Value.bool (by simp only[b0,BL]),H6.below⟩
theorem NK {NX:Nat} {Yq:TypeId} {Xt:Nat} {Yi:List Value} {pp:Int→Bool} (hM:eC M w) (aez:aK xx) (aeE:FP aM Xt Yi M w [xx] pp) (akf:w.heap[NX]? =some (.cells #[.func (.func Xt) #[] Yi.toArray] Yq (0,0))∧¬M NX):Calls aM 134 #[C xx,.pointer (some ⟨NX,0,none⟩)] w (ck fun v w'=>v=.bool (!(pp xx))∧Ext w w'):=by
 refine dv 8 Tryz.func134 J J J hM fun f0 ha H=>?_
 have i0:f0 0=C xx:=ha 0 bm
 have H0:=H.put (it:=ro NX #[.func (.func Xt) #[] Yi.toArray] Yq) J<|by rw[bQ];exact akf
 have i1:f0 1=pV NX 0:=ha 1 bm
 refine aD<|au (v:=.bool false) J J<|bz<|k<|lr H0 0 J QG J i1 J<|ak J i0<|k<|cf aeE.1 J J J (ec J e0) (aeE.2 _ _ _ (by exact aqD.2 rfl) H0.below<|(RV.int.2 ⟨J,aS⟩).lift H0.out) ?_
 rintro _ w0 ⟨rfl,bY⟩
 have H1:=H0.ext bY
 refine k<|jr J J<|au (v:=.bool (!(pp xx))) J J<|av<|rt<|r1 J J ?_
 exact⟨apj Value.bool (show (!(pp xx))=(!(pp xx)) from rfl),H1.below⟩
theorem OS (hM:eC M w) (hT:fY 0 w) (cW:cz M w aA az I) (fC:cz M w ay ax U) (kD:aK cn) (nV:cz M w dE dD cr) (uz:aK o) (lu:w.heap[eL]? =some (.cells #[.slice aC aF aB,R aA I az,R ay U ax,C cn,R dE cr dD] l9 (0,0))∧¬M eL) (ho:ij I) (dG:I.length≤64) (ey:U.length=I.length) (fP:∀x∈U,x<((I.length:Nat):Int)) (oK:cn=((I.length:Nat):Int)) (qa:cr=cA I U) (ur:0≤o∧o<((I.length:Nat):Int)):Calls aM 93 #[.pointer (some ⟨eL,0,none⟩),C o] w (ck fun v w'=>∃(ls:aE) (a0:OA) (c0:Nat),v=R a0 ls c0∧Ext w w'∧bo M 3 w ls (R a0 ls c0) w'∧ls.length≤300000):=by
 refine dv 53 Tryz.func93 J J J hM fun f0 ha H=>?_
 let J0:=iL aA I az
 have H0:=H.put (it:=J0) J<|by rw[bQ];exact cW
 let J1:=iL ay U ax
 have H1:=H0.put (it:=J1) J<|by rw[aG rfl,bQ];exact fC
 let J2:=iL dE cr dD
 have H2:=H1.put (it:=J2) J<|by rw[aG rfl,aG rfl,bQ];exact nV
 let J3:=ro eL #[.slice aC aF aB,R aA I az,R ay U ax,C cn,R dE cr dD] l9
 have H3:=H2.put (it:=J3) J<|by rw[aG rfl,aG rfl,aG rfl,bQ];exact lu
 have i0:f0 0=pV eL 0:=ha 0 bm
 have i1:f0 1=C o:=ha 1 bm
 have lq:bL cn cr=true:=by rw[oK,qa];exact pS U aq
 refine aD<|k<|bx H3 J i0 ?_
 let bf:=[J3,J2,J1,J0]
 intro aX w0 bY (H4:HI M w w0 (box aX #[pV eL 0] 103::bf))
 let J4:=box aX #[pV eL 0] 103
 refine au (v:=.slice none 0 0) J J<|bz<|bq H4 0 J GZ J J J<|k<|nc J J<|aU I5 J J<|aU sm J J<|k<|lr H4 1 J qv J J J<|ak J i1<|k<|ia (H4.rv 3 J) J J J J aq cw aT ?_
 intro iy x0 aN cB
 refine k<|kF cB.w aT J J ?_
 intro cm
 refine k<|al H4 aT ?_
 intro bj w1 cS (H5:HI M w w1 (box bj #[C 0] 3::J4::bf))
 refine k<|bA H5 0 J aT J J J J J J J ?_
 let J5:=box bj #[C x0] 3
 let bZ:=J5::J4::bf
 intro w2 (H6:HI M w w2 bZ)
 refine bz<|k<|mf J<|k<|al H6 QG ?_
 intro bK w3 fm (H7:HI M w w3 (box bK #[.nilFunc] 63::bZ))
 refine k<|bA H7 0 J QG J J J J J J J ?_
 let J6:=box bK #[.func (.func 132) #[] #[pV bj 0,pV aX 0]] 63
 intro w4 (H8:HI M w w4 (J6::bZ))
 refine bz<|bq H8 2 J GZ J J J<|k<|nc J J<|aU u4 J J<|k<|wS H8 3 J bp J J aw J<|ak J i1<|k ?_
 have bT:=vy (mn:=cn) (mr:=cr) (o:=o) H8.mb (hT.ext H8.below) kD (H8.rv 4 J) uz<|by exact lq
 refine ca Np J (ec J<|ec J e0) bT ?_
 rintro _ w5 ⟨a0,c0,rfl,fg,dN⟩
 have H9:=H8.eU dN
 refine au (v:=R a0 (bR cn cr o) c0) J J<|av<|sq<|mw [.f,.f,.f,.f,.r,.r,.r,.e,.e,.e,.e,.e,.e,.e] (fun w'=>HI M w w' [J4,J3]) J aV (fun _ x_=>(H9.bX (l':=[J4,J3]) [3,4] aw J).ext x_)<|yf J (fun _ i_=>lx i_ 0 J GZ J J J e3)<|yf J (fun _ _=>nc J J e3)<|yf J (fun _ _=>fa u4 J J e3)<|yf J (fun _ i_=>wS i_ 1 J bp J J aw J e3)<|yq J J<|kq (fun _ _=>mv (v:=R a0 (bR cn cr o) c0) J J e1)<|zq<|yu J (fun _ v w'=>∃(a1:OA) (c1:Nat),v=R a1 (bR cn cr o) c1∧bo H9.eI 3 w5 (bR cn cr o) (.slice a1 (bR cn cr o).length c1) w') J (mN<|by rintro _ _ _ x_ ⟨a1,c1,e_,ft⟩;exact⟨a1,c1,e_,ft.MP x_⟩) J (fun v_ _ x_ _=>have fF:=Kv (l:=(bR cn cr o)) (w:=v_) ((H9.ext x_).freeze 0 rfl).mb (((H9.ext x_).freeze 0 rfl).rv 0 rfl) (by have h_:=vj lq o;omega);ca Zw rfl (ec J e0) fF (fun _ w7 ⟨a2,c2,e_,je,iO⟩=>⟨_,J,je,⟨a2,c2,e_,(bo.anyM<|bo.base iO x_)⟩⟩))<|yq J J<|kq (fun _ x_=>lx (H9.ext x_) 1 J QG J J J e1)<|zq<|ye<|ye<|ye<|ye<|ye<|ye<|ye<|yz ?_
 intro w8 f0 _ jE _ _ cG jc
 obtain⟨a3,c3,s0,i'⟩:=jc 0 _ _ rfl
 have dR:=H9.eU<|bo.anyM i'
 have s1:=cG 2 J
 have s2:=cG 6 J
 have s3:=cG 7 J
 have s4:=cG 31 J
 have s5:=cG 34 J
 refine ke ?_
 let J7:=oL w 3 a0 (bR cn cr o) c0
 have dI:HI M w w8 ([oL w 3 a3 (bR cn cr o) c3]++[J7,J6,J5,J4,J3,J2,J1,J0]):=dR.bX [0,1,2,3,4,5,6,7,8] aw J
 have fc:=ph (ee:=a3) (dW:=c3) (xs:=(bR cn cr o)) (qN:=132) (qQ:=[pV bj 0,pV aX 0]) (p:=(fun (x_:Int)=>(decide (0≤x0)&&(decide (x_=x0)||eO cn cr x0 x_)))) (w:=w) (w_:=w8) (r:=[J7,J6,J5,J4,J3,J2,J1,J0]) (M:=M) ⟨Zx,fun w_ rK H_ x_ pY E7=>D7 (fr:=x0) (I:=I) (U:=U) (cn:=cn) (cr:=cr) (M:=fun _=>False) (fun _ h_=>h_.elim) E7 bu ((H_.rv 8 J).lift (Up.less fun _ _ h_=>h_.elim)) ((H_.rv 7 J).lift (Up.less fun _ _ h_=>h_.elim)) bu ((H_.rv 6 J).lift (Up.less fun _ _ h_=>h_.elim)) ⟨H_.at_ 3 rfl,fun h_=>h_⟩ ⟨H_.at_ 4 rfl,fun h_=>h_⟩ ⟨(H_.at_ 5 J).1,fun h_=>h_⟩ (by exact lq)⟩ dI
 refine ca HH J (ec s0<|ec s5 e0) fc ?_
 rintro _ w9 ⟨rfl,cR⟩
 have dX:HI M w w9 (oL w 3 a3 (bc (fun (x_:Int)=>(decide (0≤x0)&&(decide (x_=x0)||eO cn cr x0 x_))) (bR cn cr o)) c3::J7::J6::bZ):=cR
 refine⟨dX.bX [4,5] aw rfl,?_⟩
 refine ke ?_
 have dV:=dX.freeze 0 J
 have my:=yV (mn:=cn) (mr:=cr) (nd:=(bc (fun (x_:Int)=>(decide (0≤x0)&&(decide (x_=x0)||eO cn cr x0 x_)))<|bR cn cr o)) dV.mb (hT.ext dV.below) kD (dV.rv 6 J) (dV.rv 0 J) (by exact lq)<|by exact Nat.le_trans (vi lq o _) aw
 refine ca RN J (ec s4<|ec J e0) my ?_
 rintro _ dL ⟨a4,c4,rfl,lk,kN⟩
 have cJ:=dX.eU<|bo.anyM kN
 refine⟨cJ.bX [5,6] aw rfl,?_⟩
 refine ke<|mv (v:=.tuple #[R a4 ((dJ cn cr<|bc (fun (x_:Int)=>(decide (0≤x0)&&(decide (x_=x0)||eO cn cr x0 x_)))<|bR cn cr o).1) c4,C ((dJ cn cr<|bc (fun (x_:Int)=>(decide (0≤x0)&&(decide (x_=x0)||eO cn cr x0 x_)))<|bR cn cr o).2)]) J J ?_
 refine⟨cJ.bX [5,6] aw rfl,?_⟩
 refine ke<|xt J J J ?_
 refine⟨cJ.bX [5,6] aw rfl,?_⟩
 refine ke<|xt J J J ?_
 refine⟨cJ.bX [5,6] aw rfl,?_⟩
 refine ke<|jV (v:=R a4 ((dJ cn cr<|bc (fun (x_:Int)=>(decide (0≤x0)&&(decide (x_=x0)||eO cn cr x0 x_)))<|bR cn cr o).1) c4) J J ?_
 refine⟨cJ.bX [5,6] aw rfl,?_⟩
 refine ke<|jV (v:=C ((dJ cn cr<|bc (fun (x_:Int)=>(decide (0≤x0)&&(decide (x_=x0)||eO cn cr x0 x_)))<|bR cn cr o).2)) J J ?_
 refine⟨cJ.bX [5,6] aw rfl,?_⟩
 refine kz<|nx<|sq<|mw [.f,.f,.f,.f,.r,.r,.e,.e,.e,.e,.e,.e,.e] (fun w'=>HI M w w' [J4,J3]) J aV (fun _ x_=>(cJ.bX (l':=[J4,J3]) [5,6] aw J).ext x_)<|yf J (fun _ i_=>lx i_ 0 J GZ J s1 J e3)<|yf J (fun _ _=>nc J J e3)<|yf J (fun _ _=>fa u4 J J e3)<|yf J (fun _ i_=>wS i_ 1 J bp J J aw J e3)<|yq J J<|kq (fun _ _=>mv J s3 e1)<|bS<|kq (fun _ _=>mf2 J (YK s2 mf0) e1)<|zq<|ye<|ye<|ye<|ye<|ye<|ye<|ye<|yz ?_
 intro ew f1 _ lj _ _ fO AN
 have ef:=cJ.ext lj
 have s6:=fO 8 J
 have s7:=fO 43 J
 have s8:=fO 44 J
 have s9:=fO 45 J
 refine ke ?_
 have dA:HI M w ew ([J7]++[oL w 3 a4 ((dJ cn cr (bc (fun (x_:Int)=>(decide (0≤x0)&&(decide (x_=x0)||eO cn cr x0 x_))) (bR cn cr o))).1) c4,oL w 3 a3 (bc (fun (x_:Int)=>(decide (0≤x0)&&(decide (x_=x0)||eO cn cr x0 x_))) (bR cn cr o)) c3,J6,J5,J4,J3,J2,J1,J0]):=ef.bX [2,0,1,3,4,5,6,7,8,9] aw J
 have mx:=ph (ee:=a0) (dW:=c0) (xs:=(bR cn cr o)) (qN:=134) (qQ:=[pV bK 0]) (p:=(fun (x_:Int)=>(!((fun (x_:Int)=>(decide (0≤x0)&&(decide (x_=x0)||eO cn cr x0 x_))) x_)))) (w:=w) (w_:=ew) (r:=[oL w 3 a4 ((dJ cn cr<|bc (fun (x_:Int)=>(decide (0≤x0)&&(decide (x_=x0)||eO cn cr x0 x_)))<|bR cn cr o).1) c4,oL w 3 a3 (bc (fun (x_:Int)=>(decide (0≤x0)&&(decide (x_=x0)||eO cn cr x0 x_)))<|bR cn cr o) c3,J6,J5,J4,J3,J2,J1,J0]) (M:=M) ⟨ag9,fun w_ rK H_ x_ pY E7=>NK (pp:=(fun (x_:Int)=>(decide (0≤x0)&&(decide (x_=x0)||eO cn cr x0 x_)))) (M:=fun _=>False) (fun _ h_=>h_.elim) E7 ⟨Zx,fun w_ v_ x_ pY e_ Hv=>by have H_:=H_.ext e_;obtain⟨_,⟨rfl,nj⟩,rfl⟩:=Hv;exact D7 (fr:=x0) (I:=I) (U:=U) (cn:=cn) (cr:=cr) (M:=fun _=>False) (fun _ h_=>h_.elim) nj bu ((H_.rv 9 J).lift (Up.less fun _ _ h_=>h_.elim)) ((H_.rv 8 J).lift (Up.less fun _ _ h_=>h_.elim)) bu ((H_.rv 7 J).lift (Up.less fun _ _ h_=>h_.elim)) ⟨H_.at_ 4 rfl,fun h_=>h_⟩ ⟨H_.at_ 5 rfl,fun h_=>h_⟩ ⟨(H_.at_ 6 J).1,fun h_=>h_⟩ (by exact lq)⟩ ⟨H_.at_ 3 rfl,fun h_=>h_⟩⟩ dA
 refine ca HH J (ec s8<|ec s9 e0) mx ?_
 rintro _ fq ⟨rfl,fe⟩
 have fw:HI M w fq (oL w 3 a0 (bc (fun (x_:Int)=>(!((fun (x_:Int)=>(decide (0≤x0)&&(decide (x_=x0)||eO cn cr x0 x_))) x_))) (bR cn cr o)) c0::oL w 3 a4 ((dJ cn cr (bc (fun (x_:Int)=>(decide (0≤x0)&&(decide (x_=x0)||eO cn cr x0 x_))) (bR cn cr o))).1) c4::oL w 3 a3 (bc (fun (x_:Int)=>(decide (0≤x0)&&(decide (x_=x0)||eO cn cr x0 x_))) (bR cn cr o)) c3::J6::bZ):=fe
 refine⟨fw.bX [5,6] aw rfl,?_⟩
 refine ke ?_
 have gl:=fw.freeze 0 J
 have yL:=yV (mn:=cn) (mr:=cr) (nd:=(bc (fun (x_:Int)=>(!((fun (x_:Int)=>(decide (0≤x0)&&(decide (x_=x0)||eO cn cr x0 x_))) x_)))<|bR cn cr o)) gl.mb (hT.ext gl.below) kD (gl.rv 7 J) (gl.rv 0 J) (by exact lq)<|by exact Nat.le_trans (vi lq o _) aw
 refine ca RN J (ec s7<|ec J e0) yL ?_
 rintro _ iF ⟨a5,c5,rfl,sT,n9⟩
 have iR:=fw.eU<|bo.anyM n9
 refine⟨iR.bX [6,7] aw rfl,?_⟩
 refine ke<|mv (v:=.tuple #[R a5 ((dJ cn cr<|bc (fun (x_:Int)=>(!((fun (x_:Int)=>(decide (0≤x0)&&(decide (x_=x0)||eO cn cr x0 x_))) x_)))<|bR cn cr o).1) c5,C ((dJ cn cr<|bc (fun (x_:Int)=>(!((fun (x_:Int)=>(decide (0≤x0)&&(decide (x_=x0)||eO cn cr x0 x_))) x_)))<|bR cn cr o).2)]) J J ?_
 refine⟨iR.bX [6,7] aw rfl,?_⟩
 refine ke<|xt J J J ?_
 refine⟨iR.bX [6,7] aw rfl,?_⟩
 refine ke<|xt J J J ?_
 refine⟨iR.bX [6,7] aw rfl,?_⟩
 refine ke<|jV (v:=R a5 ((dJ cn cr<|bc (fun (x_:Int)=>(!((fun (x_:Int)=>(decide (0≤x0)&&(decide (x_=x0)||eO cn cr x0 x_))) x_)))<|bR cn cr o).1) c5) J J ?_
 refine⟨iR.bX [6,7] aw rfl,?_⟩
 refine ke<|jV (v:=C ((dJ cn cr<|bc (fun (x_:Int)=>(!((fun (x_:Int)=>(decide (0≤x0)&&(decide (x_=x0)||eO cn cr x0 x_))) x_)))<|bR cn cr o).2)) J J ?_
 refine⟨iR.bX [6,7] aw rfl,?_⟩
 refine kz<|nx<|sq ?_
 have h1_:=SG lq o<|fun (x_:Int)=>(decide (0≤x0)&&(decide (x_=x0)||eO cn cr x0 x_))
 have lI:=SG lq o<|fun (x_:Int)=>(!((fun (x_:Int)=>(decide (0≤x0)&&(decide (x_=x0)||eO cn cr x0 x_))) x_))
 refine rg<|ak J s6<|ak (v:=R a5 ((dJ cn cr<|bc (fun (x_:Int)=>(!((fun (x_:Int)=>(decide (0≤x0)&&(decide (x_=x0)||eO cn cr x0 x_))) x_)))<|bR cn cr o).1) c5) J J<|k<|l7 iR 2 J J J J J J (hG<|iR.at_ 0 J) cw aT J aq J ?_
 intro a6 c6 jF (iQ:HI M w jF (oL w 3 a5 ((dJ cn cr (bc (fun (x_:Int)=>(!((fun (x_:Int)=>(decide (0≤x0)&&(decide (x_=x0)||eO cn cr x0 x_))) x_))) (bR cn cr o))).1) c5::oL w 3 a0 (bc (fun (x_:Int)=>(!((fun (x_:Int)=>(decide (0≤x0)&&(decide (x_=x0)||eO cn cr x0 x_))) x_))) (bR cn cr o)) c0::oL w 3 a6 ((dJ cn cr (bc (fun (x_:Int)=>(decide (0≤x0)&&(decide (x_=x0)||eO cn cr x0 x_))) (bR cn cr o))).1++(dJ cn cr (bc (fun (x_:Int)=>(!((fun (x_:Int)=>(decide (0≤x0)&&(decide (x_=x0)||eO cn cr x0 x_))) x_))) (bR cn cr o))).1) c6::oL w 3 a3 (bc (fun (x_:Int)=>(decide (0≤x0)&&(decide (x_=x0)||eO cn cr x0 x_))) (bR cn cr o)) c3::J6::bZ))
 refine au (v:=R a6 ((dJ cn cr<|bc (fun (x_:Int)=>(decide (0≤x0)&&(decide (x_=x0)||eO cn cr x0 x_)))<|bR cn cr o).1++(dJ cn cr<|bc (fun (x_:Int)=>(!((fun (x_:Int)=>(decide (0≤x0)&&(decide (x_=x0)||eO cn cr x0 x_))) x_)))<|bR cn cr o).1) c6) J J<|av<|rt<|r1 J J ?_
 exact⟨((dJ cn cr<|bc (fun (x_:Int)=>(decide (0≤x0)&&(decide (x_=x0)||eO cn cr x0 x_)))<|bR cn cr o).1++(dJ cn cr<|bc (fun (x_:Int)=>(!((fun (x_:Int)=>(decide (0≤x0)&&(decide (x_=x0)||eO cn cr x0 x_))) x_)))<|bR cn cr o).1),a6,c6,J,iQ.below,(iQ.dx 2 J),(by rw[gj];omega)⟩
theorem XO (hM:eC M w) (hT:fY 0 w) (cW:cz M w aA az I) (fC:cz M w ay ax U) (kD:aK cn) (nV:cz M w dE dD cr) (uz:aK o) (pO:aK lv) (lu:w.heap[eL]? =some (.cells #[.slice aC aF aB,R aA I az,R ay U ax,C cn,R dE cr dD] l9 (0,0))∧¬M eL) (ho:ij I) (dG:I.length≤64) (ey:U.length=I.length) (fP:∀x∈U,x<((I.length:Nat):Int)) (oK:cn=((I.length:Nat):Int)) (qa:cr=cA I U) (ur:0≤o∧o<((I.length:Nat):Int)):Calls aM 57 #[.pointer (some ⟨eL,0,none⟩),C o,C lv] w (ck fun v w'=>∃(ls:aE) (a0:OA) (c0:Nat),v=R a0 ls c0∧Ext w w'∧bo M 3 w ls (R a0 ls c0) w'∧ls.length≤300000):=by
 refine dv 15 Tryz.func57 J J J hM fun f0 ha H=>?_
 have H0:=dU H cW
 have H1:=dU H0 fC
 have H2:=dU H1 nV
 have H3:=H2.put (it:=ro eL #[.slice aC aF aB,R aA I az,R ay U ax,C cn,R dE cr dD] l9) J<|by rw[aG rfl,aG rfl,aG rfl,bQ];exact lu
 have i0:f0 0=pV eL 0:=ha 0 bm
 have i1:f0 1=C o:=ha 1 bm
 have i2:f0 2=C lv:=ha 2 bm
 refine aD<|au (v:=.slice none 0 0) J J<|av<|sq<|aD<|ak J i2<|k<|eql J J J J<|z<|nx<|cd (b:=decide (lv=3)) J J (fun b0=>?_)<|fun b0=>?_
 ·
  refine aD<|ak J i0<|ak J i1<|k ?_
  have bT:=XP (I:=I) (U:=U) (cn:=cn) (cr:=cr) (o:=o) H3.mb (hT.ext H3.below) (H3.rv 3 J) (H3.rv 2 J) kD (H3.rv 1 J) uz (H3.at_ 0 J) (by exact ho) (by exact dG) (by exact ey) (by exact fP) (by exact oK) (by exact qa) aq
  refine ca ako J (ec J<|ec J e0) bT ?_
  rintro _ w0 ⟨o0,a0,c0,rfl,bY,cm,q0⟩
  have H4:=H3.eU cm
  refine au (v:=R a0 o0 c0) J J<|av<|rt<|aL<|r1 J J ?_
  exact⟨o0,a0,c0,J,H4.below,(H4.dx 0 J),bu⟩
 refine sk<|cQ<|ak J i0<|ak J i1<|k ?_
 have bT:=OS (I:=I) (U:=U) (cn:=cn) (cr:=cr) (o:=o) H3.mb (hT.ext H3.below) (H3.rv 3 J) (H3.rv 2 J) kD (H3.rv 1 J) uz (H3.at_ 0 J) (by exact ho) (by exact dG) (by exact ey) (by exact fP) (by exact oK) (by exact qa) aq
 refine ca akn J (ec J<|ec J e0) bT ?_
 rintro _ w0 ⟨o0,a0,c0,rfl,bY,cm,q0⟩
 have H4:=H3.eU cm
 refine au (v:=R a0 o0 c0) J J<|av<|rt<|r1 J J ?_
 exact⟨o0,a0,c0,J,H4.below,(H4.dx 0 J),bu⟩
theorem wu:ez aM 30 5 true 88 (.agg #[.int .i64 0,.int .i64 0,.slice none 0 0,.slice none 0 0,.slice none 0 0]):=⟨aV,aV⟩
theorem akA:cD aM 54:=cE Tryz.func54
theorem akz:cD aM 55:=cE Tryz.func55
theorem afe:gV aM 30 2 3:=j1 Tryz.underlying30
theorem UJ:gV aM 30 3 4:=j1 Tryz.underlying30
theorem ab':ez aM 28 1 false 24 (.slice none 0 0):=⟨aV,aV⟩
theorem aky:cD aM 57:=cE Tryz.func57
theorem aja:aM.underlying 28=some (.slice 27):=aV
theorem XM (hM:eC M w) (hT:fY 0 w) (cW:cz M w aA az I) (fC:cz M w ay ax U) (gk:aK mn) (gz:cz M w bG bF mr) (ho:ij I) (dG:I.length≤64) (ey:U.length=I.length) (fP:∀x∈U,x<((I.length:Nat):Int)) (Cq:mn=((I.length:Nat):Int)) (Cp:mr=cA I U):Calls aM 55 #[.agg #[.slice aC aF aB,R aA I az,R ay U ax],.agg #[C mn,R bG mr bF]] w (ck fun v w'=>∃(on:Int) (om:List (List bw)) (er:Int) (a0:OA) (c0:Nat),v=.tuple #[.agg #[C on,R a0 om c0],C er]∧Ext w w'∧cz M w' a0 c0 om∧bL on om=true∧aK on∧aK er):=by
 refine dv 39 Tryz.func55 J J J hM fun f0 ha H=>?_
 let J0:=iL aA I az
 have H0:=H.put (it:=J0) J<|by rw[bQ];exact cW
 let J1:=iL ay U ax
 have H1:=H0.put (it:=J1) J<|by rw[aG rfl,bQ];exact fC
 let J2:=iL bG mr bF
 have H2:=H1.put (it:=J2) J<|by rw[aG rfl,aG rfl,bQ];exact gz
 have iE:=bg cW
 have kh:=bg fC
 have nG:=bg gz
 have i0:f0 0=.agg #[.slice aC aF aB,R aA I az,R ay U ax]:=ha 0 bm
 have i1:f0 1=.agg #[C mn,R bG mr bF]:=ha 1 bm
 have b9:bL mn mr=true:=by rw[Cq,Cp];exact pS U aq
 have FQ:=pj b9
 refine aD<|k<|bx H2 J i0 ?_
 let bf:=[J2,J1,J0]
 intro aX w0 bY (H3:HI M w w0 (box aX #[.slice aC aF aB,R aA I az,R ay U ax] 47::bf))
 let J3:=box aX #[.slice aC aF aB,R aA I az,R ay U ax] 47
 refine k<|bx H3 J i1 ?_
 let bZ:=J3::bf
 intro bj w1 cS (H4:HI M w w1 (box bj #[C mn,R bG mr bF] 26::bZ))
 let J4:=box bj #[C mn,R bG mr bF] 26
 refine k<|al H4 bp ?_
 let eh:=J4::bZ
 intro bK w2 fm (H5:HI M w w2 (box bK #[C 0,.slice none 0 0] 26::eh))
 let J5:=box bK #[C 0,.slice none 0 0] 26
 refine au (v:=C 0) J J<|bz<|k<|cC H5 1 J bp J J aw J<|k ?_
 have bT:=xr (mn:=mn) (mr:=mr) H5.mb gk (H5.rv 3 J)<|by exact b9
 refine ca RM J (ec J e0) bT ?_
 rintro _ w3 ⟨a0,c0,rfl,fg,cm⟩
 have H6:=H5.eU cm
 refine k<|al H6 bp ?_
 let jz:=oL w 144 a0 (fl mn mr) c0::J5::eh
 intro fj w4 jl (H7:HI M w w4 (box fj #[C 0,.slice none 0 0] 26::jz))
 refine k<|bA H7 0 J bp J J J J J J J ?_
 intro w5 (H8:HI M w w5 (box fj #[C mn,R a0 (fl mn mr) c0] 26::jz))
 refine av<|sq<|aD<|k<|cC H8 4 J dt J J aw J<|k<|cC H8 3 J bp J J aw J<|k ?_
 have df:=vh (I:=I) (U:=U) (mn:=mn) (mr:=mr) (aC:=aC) (aF:=aF) (aB:=aB) H8.mb (hT.ext H8.below) (H8.rv 7 J) (H8.rv 6 J) gk (H8.rv 5 J) aq (by exact ey) (by exact fP)<|by exact b9
 refine ca RJ J (ec J<|ec J e0) df ?_
 rintro _ w6 ⟨a1,c1,rfl,je,dN⟩
 have H9:=H8.eU dN
 refine k<|dP J J eD<|ak (v:=C 0) J J<|av<|bk ?_
 have dB:=H9.freeze 2 J
 let J6:=iL a0 (fl mn mr) c0
 have cT:=dB.put (it:=J6) J<|dB.rv 2 J
 let J7:=oL w 122 a1 (cL I U mn mr) c1
 let fQ:=J6::J5::eh
 refine lp (fun m f w'=>∃(q_:Nat) (ga:Int) (fN:List (List bw)) (a2:OA) (c2:Nat),m=(cL I U mn mr).length-q_∧f 4=pV bK 0∧f 6=pV fj 0∧f 15=R a1 (cL I U mn mr) c1∧f 16=C ((cL I U mn mr).length:Int)∧f 17=C (q_:Int)∧HI M w w' (iL a2 fN c2::J7::box fj #[C ga,R a2 fN c2] 26::fQ)∧(q_≤(cL I U mn mr).length)∧(ga=mn∧fN=l8 mn (fl mn mr) ((cL I U mn mr).take q_))) _ ⟨0,mn,(fl mn mr),a0,c0,J,J,J,J,J,(bH J),cT,aq,(by exact⟨J,J⟩)⟩ ?_
 rintro _ f0 w7 ⟨q_,ga,fN,a2,c2,rfl,s0,s1,s2,s3,s4,db,tg,oC⟩
 refine sq ?_
 have P0:=rB (I:=I) (U:=U) b9;have RC:=P0.1
 have sP:=ZO ey fP Cq Cp P0
 refine rg<|k<|lss J J s4 s3<|av<|sq<|cd (b:=decide ((q_:Int)<((cL I U mn mr).length:Int))) J J (fun b0=>?_)<|fun b0=>?_
 ·
  have p0:=dT b0
  refine sk<|nx<|sq<|bk<|aD<|k<|iC (db.at_ 1 J) J J s2 s4 aq eD cN ?_
  intro g0 x0 iP aN cB
  refine k<|nI cB cN J J ?_
  intro v0 dH
  obtain⟨_,⟨_,_,rfl,⟨rfl,ft⟩,⟨_,_,rfl,⟨rfl,iO⟩,⟨rfl,jK⟩⟩⟩,rfl⟩:=dH
  refine k<|al db cN ?_
  let lJ:=iL a2 fN c2::J7::box fj #[C ga,R a2 fN c2] 26::fQ
  intro gT w8 jE (dq:HI M w w8 (box gT #[C 0,C 0,C 0] 122::lJ))
  refine k<|bA dq 0 J cN J J J J J J J ?_
  intro w9 (cM:HI M w w9 (box gT #[C x0.1,C x0.2.1,C x0.2.2] 122::lJ))
  refine av<|rg<|k<|cC cM 3 J bp J s1 aw J<|aU kV J J<|bq cM 0 J aT J J J<|aU nf J J<|bq cM 0 J aT J J J<|k ?_
  have fF:=F' (mn:=ga) (mr:=fN) (i:=x0.1) (j:=x0.2.1) cM.mb aS (cM.rv 1 J) ft iO<|by exact Jc Cq FQ sP oC
  refine ca Xo J (ec J<|ec J<|ec J e0) fF ?_
  rintro _ dL ⟨a3,c3,rfl,lk,i'⟩
  have dR:=cM.ext lk
  let J8:=iL a3 (ie ga fN x0.1 x0.2.1) c3
  have dI:=dR.put (it:=J8) J i'
  refine ak (v:=.tuple #[.agg #[C (iu ga x0.1 x0.2.1),R a3 (ie ga fN x0.1 x0.2.1) c3],C (lM ga x0.1 x0.2.1)]) J J<|k<|xt J J J<|k<|xt J J J<|k<|bA dI 4 J bp J J s1 J J J J ?_
  let J9:=box fj #[C (iu ga x0.1 x0.2.1),R a3 (ie ga fN x0.1 x0.2.1) c3] 26
  intro ew (cR:HI M w ew (J8::box gT #[C x0.1,C x0.2.1,C x0.2.2] 122::iL a2 fN c2::J7::J9::fQ))
  refine z<|aH<|nx<|rg<|k<|add J J s4 J aS<|ak (v:=C ((q_:Int)+1)) J J<|z ?_
  have dX:=cR.put (it:=J8) J<|cR.rv 0 J
  have dV:HI M w ew (J8::J7::J9::fQ):=dX.bX [0,4,5,6,7,8,9,10,11,12] aw J
  refine bB _ ?_ ⟨(q_+1),(iu ga x0.1 x0.2.1),(ie ga fN x0.1 x0.2.1),a3,c3,J,s0,s1,s2,s3,(bH J),dV,aq,(by exact Cd oC aN (LS Cq sP aN))⟩
  omega
 refine ex<|aW<|ba<|bh<|nx<|sq<|aD<|k<|cC db 2 J bp J s1 aw J<|k ?_
 have fF:=zm (mn:=ga) (mr:=fN) db.mb aS (db.rv 0 J)<|by exact Jc Cq FQ sP oC
 refine ca RL J (ec J e0) fF ?_
 rintro _ w8 ⟨rfl,jE⟩
 have dq:=db.ext jE
 refine ak (v:=.tuple #[C (((cV ga fN).getD 0:Nat):Int),.bool ((cV ga fN).isSome)]) J J<|k<|xt J J J<|k<|xt J J J<|au (v:=C (((cV ga fN).getD 0:Nat):Int)) J J<|au (v:=.bool ((cV ga fN).isSome)) J J<|bz<|ak (v:=.bool ((cV ga fN).isSome)) J J<|z<|nx<|cd (b:=(cV ga fN).isSome) J J (fun b1=>?_)<|fun b1=>?_
 ·
  refine aD<|k<|bd (v:=.agg #[C 0,.slice none 0 0]) J eA (fun _=>aV)<|k<|bA dq 4 J bp J J s0 J J J J ?_
  intro w9 (cM:HI M w w9 (iL a2 fN c2::J7::box fj #[C ga,R a2 fN c2] 26::fQ))
  refine au (v:=C 7) J J<|av<|rt<|aL<|iB cM 4 J bp J J J s0 J aw ?_
  exact⟨0,([]:List (List bw)),7,none,0,J,cM.below,(ep _ _),(by exact S7),(by exact F_),(by unfold aK;omega)⟩
 refine sk<|cQ<|k<|cC dq 2 J bp J s1 aw J<|k<|bA dq 4 J bp J J s0 J J J J ?_
 intro w9 (cM:HI M w w9 (iL a2 fN c2::J7::box fj #[C ga,R a2 fN c2] 26::J6::box bK #[C ga,R a2 fN c2] 26::eh))
 refine au (v:=C 0) J J<|av<|rt<|iB cM 4 J bp J J J s0 J aw ?_
 exact⟨ga,fN,0,a2,c2,J,cM.below,(cM.fz 0 J),(by exact Jc Cq FQ sP oC),(by rw[oC.1];assumption),(by exact F_)⟩
theorem R' (pO:aK lv) (hT:fY 0 w) (ho:ij I) (dG:I.length≤64) (ey:U.length=I.length) (fP:∀x∈U,x<((I.length:Nat):Int)) (HA:lv=1∨lv=2∨lv=3) (Zc:iU I U lv=none) (H:HI M w w_ ([iL aA I az,iL ay U ax]++r)):Calls aM 54 #[.agg #[.slice aC aF aB,R aA I az,R ay U ax],C lv] w_ (ck fun v w'=>∃(ZR:Nat) (a0:OA) (c0:Nat),v=.tuple #[pV ZR 0,C 0]∧HI M w w' ([box ZR #[.slice aC aF aB,R aA I az,R ay U ax,C ((I.length:Nat):Int),.slice a0 (cA I U).length c0] 107,iL a0 (cA I U) c0,iL aA I az,iL ay U ax]++r)):=by
 refine enter 25 Tryz.func54 J J J fun f0 ha=>?_
 have iE:=bg<|H.rv 0 J
 have kh:=bg<|H.rv 1 J
 have i0:f0 0=.agg #[.slice aC aF aB,R aA I az,R ay U ax]:=ha 0 bm
 have i1:f0 1=C lv:=ha 1 bm
 refine aD<|k<|bx H J i0 ?_
 let J1:=iL aA I az
 let J2:=iL ay U ax
 intro aX w0 bY (H0:HI M w w0 ([box aX #[.slice aC aF aB,R aA I az,R ay U ax] 47,J1,J2]++r))
 let J0:=box aX #[.slice aC aF aB,R aA I az,R ay U ax] 47
 refine au (v:=.pointer none) J J<|au (v:=C 0) J J<|av<|sq<|aD<|k<|cC H0 0 J dt J J aw J<|ak J i1<|k ?_
 have bT:=NU (I:=I) (U:=U) (lv:=lv) (aC:=aC) (aF:=aF) (aB:=aB) H0.mb (hT.ext H0.below) (H0.rv 1 J) (H0.rv 2 J) pO (by exact ho) (by exact dG) (by exact ey) (by exact fP)<|by exact HA
 refine ca ae3 J (ec J<|ec J e0) bT ?_
 rintro _ w1 ⟨o0,o1,o2,o3,o4,o5,o6,rfl,cS,q0⟩
 have H1:=H0.ext cS
 refine ak (v:=.tuple #[.agg #[C o0,C o1,C o2,C o3,C o4,.slice none 0 0,C o5,C o6],C (fh I U lv)]) J J<|k<|xt J J J<|k<|xt J J J<|k<|al H1 bV ?_
 intro bj w2 fm (H2:HI M w w2 ([box bj #[C 0,C 0,C 0,C 0,C 0,.slice none 0 0,C 0,C 0] 33,J0,J1,J2]++r))
 refine k<|bA H2 0 J bV J J J J J J J ?_
 let J3:=box bj #[C o0,C o1,C o2,C o3,C o4,.slice none 0 0,C o5,C o6] 33
 intro w3 (H3:HI M w w3 ([J3,J0,J1,J2]++r))
 refine au (v:=C (fh I U lv)) J J<|bz<|ak (v:=C (fh I U lv)) J J<|av<|bk<|aD<|k<|eql J J J J<|au (v:=.bool (decide ((fh I U lv)=1))) J J<|z<|nx ?_
 have Cj:(decide ((fh I U lv)=1))=false:=(by rw[apA];unfold fh;rw[Zc];decide)
 refine nB J J Cj<|aD<|k<|eql J J J J<|au (v:=.bool (decide ((fh I U lv)=0))) J J<|z<|nx ?_
 have LI:(decide ((fh I U lv)=0))=false:=(by rw[apA];unfold fh;rw[Zc];decide)
 refine nB J J LI<|sk<|aH<|nx<|sq<|mw [.r,.r,.r,.r,.e,.e,.s] (fun _=>True) J aV (fun _ _=>trivial)<|yq J J<|kq (fun _ x_=>cC (H3.ext x_) 1 J dt J J aw J e1)<|bS<|kq (fun _ x_=>cC (H3.ext x_) 1 J dt J J aw J e1)<|zq<|yu J (fun _ v w'=>∃(a0:OA) (c0:Nat),v=.agg #[C (I.length:Int),R a0 (cA I U) c0]∧RV H3.eI w' (R a0 (cA I U) c0) (cA I U)) J oA J (fun v_ _ x_ _=>have fF:=B8 (I:=I) (U:=U) (aC:=aC) (aF:=aF) (aB:=aB) (w:=v_) (H3.ext x_).mb ((H3.ext x_).rv 2 rfl) ((H3.ext x_).rv 3 rfl) (by exact ho) aq (by exact ey) (by exact fP);ca RO rfl (ec J e0) fF (fun _ w5 ⟨a1,c1,e_,jl,dN⟩=>⟨_,J,jl,⟨a1,c1,e_,dN⟩⟩))<|lP J (fun _ v w'=>∃(a2:OA) (c2:Nat),v=.agg #[.slice aC aF aB,R aA I az,R ay U ax,C (I.length:Int),R a2 (cA I U) c2]∧RV H3.eI w' (R a2 (cA I U) c2) (cA I U)) 0 J J oA J (fun _ _ _ _ _ h_=>let ⟨a3,c3,s0,ft⟩:=h_;bd (v:=.agg #[.slice aC aF aB,R aA I az,R ay U ax,C (I.length:Int),R a3 (cA I U) c3]) rfl (ct J<|ct s0 eA) (fun _=>aV) ⟨_,J,Ext.refl _,⟨a3,c3,J,ft⟩⟩)<|ye<|ye<|yq J J<|kq (fun _ _=>jV (v:=C 0) J J e1)<|zq<|yz ?_
 intro w6 f0 _ je _ _ cG jc
 have cM:=H3.ext je
 have s1:=cG 5 J
 obtain⟨a4,c4,s2,iO⟩:=jc 0 _ _ rfl
 let J4:=iL a4 (cA I U) c4
 have dR:=cM.put (it:=J4) J iO
 refine km<|bx dR J s2 ?_
 intro bK w7 jE (cR:HI M w w7 ([box bK #[.slice aC aF aB,R aA I az,R ay U ax,C (I.length:Int),R a4 (cA I U) c4] 107,J4,J3,J0,J1,J2]++r))
 let J5:=box bK #[.slice aC aF aB,R aA I az,R ay U ax,C (I.length:Int),R a4 (cA I U) c4] 107
 refine km<|jV (v:=pV bK 0) J J<|kz<|nx<|rt<|r2 J J J ?_
 try simp only[de,cq]
 rw[s1]
 have dX:=HI.aQ (l:=[J5,J4,J3,J0,J1,J2]) (l':=[J5,J4,J1,J2]) (t:=r) cR [0,1,4,5] aw J J
 have e0:((I.length:Int):Int)=((I.length:Nat):Int):=rfl
 try rw[←e0]
 refine⟨bK,a4,c4,?_,?_⟩
 · first|rfl|simp only[e0]|(simp only[apk])
 · first|exact dX|simpa +zetaDelta only[e0,apk] using dX
theorem Ve (hM:eC M w) (hT:fY 0 w) (cW:cz M w aA az I) (fC:cz M w ay ax U) (pO:aK lv) (ho:ij I) (dG:I.length≤64) (ey:U.length=I.length) (fP:∀x∈U,x<((I.length:Nat):Int)) (HA:lv=1∨lv=2∨lv=3) (Zc:iU I U lv=none):Calls aM 30 #[.agg #[.slice aC aF aB,R aA I az,R ay U ax],C lv] w (ck fun v w'=>∃(cn_:Int) (cm_:List (List bw)) (co_:aE) (cs_:List aE) (a0:OA) (c0:Nat) (a1:OA) (c1:Nat) (a2:OA) (c2:Nat),v=.tuple #[.agg #[C lv,C cn_,R a0 cm_ c0,R a1 co_ c1,R a2 cs_ c2],C 0]∧Ext w w'∧cz M w' a0 c0 cm_∧cz M w' a1 c1 co_∧cz M w' a2 c2 cs_):=by
 refine dv 80 Tryz.func30 J J J hM fun f0 ha H=>?_
 let J0:=iL aA I az
 have H0:=H.put (it:=J0) J<|by rw[bQ];exact cW
 let J1:=iL ay U ax
 have H1:=H0.put (it:=J1) J<|by rw[aG rfl,bQ];exact fC
 have iE:=bg cW
 have kh:=bg fC
 have i0:f0 0=.agg #[.slice aC aF aB,R aA I az,R ay U ax]:=ha 0 bm
 have i1:f0 1=C lv:=ha 1 bm
 have lq:bL ((I.length:Nat):Int) (cA I U)=true:=pS U aq
 refine aD<|k<|bx H1 J i0 ?_
 intro aX w0 bY (H2:HI M w w0 [box aX #[.slice aC aF aB,R aA I az,R ay U ax] 47,J1,J0])
 let J2:=box aX #[.slice aC aF aB,R aA I az,R ay U ax] 47
 refine k<|al H2 wu ?_
 intro bj w1 cS (H3:HI M w w1 [box bj #[C 0,C 0,.slice none 0 0,.slice none 0 0,.slice none 0 0] 30,J2,J1,J0])
 let J3:=box bj #[C 0,C 0,.slice none 0 0,.slice none 0 0,.slice none 0 0] 30
 refine au (v:=C 0) J J<|bz<|k<|cC H3 1 J dt J J aw J<|ak J i1<|k ?_
 have H4:HI M w w1 ([J0,J1]++[J3,J2]):=H3.bX [3,2,0,1] aw J
 have bT:=R' (aC:=aC) (aF:=aF) (aB:=aB) (aA:=aA) (az:=az) (I:=I) (ay:=ay) (ax:=ax) (U:=U) (lv:=lv) (w:=w) (w_:=w1) (r:=[J3,J2]) (M:=M) pO hT (by exact ho) (by exact dG) (by exact ey) (by exact fP) (by exact HA) (by exact Zc) H4
 refine ca akA J (ec J<|ec J e0) bT ?_
 rintro _ w2 ⟨bK,a0,c0,rfl,H5⟩
 let J4:=box bK #[.slice aC aF aB,R aA I az,R ay U ax,C ((I.length:Nat):Int),R a0 (cA I U) c0] 107
 let J5:=iL a0 (cA I U) c0
 let bf:=[J4,J5,J0,J1,J3,J2]
 have H6:HI M w w2 bf:=H5
 refine ak (v:=.tuple #[pV bK 0,C 0]) J J<|k<|xt J J J<|k<|xt J J J<|au (v:=pV bK 0) J J<|au (v:=C 0) J J<|av<|sq<|aD<|ak (v:=C 0) J J<|k<|neq J J J J<|av<|nB J J aw<|sk<|cQ<|ak J i1<|ak (v:=pV bK 0) J J<|k<|nc J J<|aU u4 J J<|k<|cC H6 0 J bp J J aw J<|k<|bd (v:=.agg #[C lv,C ((I.length:Nat):Int),R a0 (cA I U) c0,.slice none 0 0,.slice none 0 0]) J (ct J<|ct J eA) (fun _=>aV)<|k<|al H6 wu ?_
 intro fj w3 fm (H7:HI M w w3 (box fj #[C 0,C 0,.slice none 0 0,.slice none 0 0,.slice none 0 0] 30::bf))
 refine k<|bA H7 0 J wu J J J J J J J ?_
 let J6:=box fj #[C lv,C ((I.length:Nat):Int),R a0 (cA I U) c0,.slice none 0 0,.slice none 0 0] 30
 intro w4 (H8:HI M w w4 (J6::bf))
 refine av<|sq<|aD<|ak J i1<|k<|eql J J J J<|z<|nx<|cd (b:=decide (lv=2)) J J (fun b0=>?_)<|fun b0=>?_
 ·
  have p0:=dT b0
  refine sq<|mw [.r,.r,.r,.r,.r,.r,.r,.r,.s,.n,.e,.s] (fun _=>True) J aV (fun _ _=>trivial)<|yq J J<|kq (fun _ x_=>cC (H8.ext x_) 6 J dt J J aw J e1)<|bS<|kq (fun _ _=>mv (v:=pV bK 0) J J e1)<|bS<|kq (fun _ _=>nc J J e1)<|bS<|kq (fun _ _=>fa u4 J J e1)<|bS<|kq (fun _ x_=>cC (H8.ext x_) 1 J bp J J aw J e1)<|zq<|yu J (fun N v w'=>∃(o0:Int) (o1:List (List bw)) (o2:Int) (a1:OA) (c1:Nat),v=.tuple #[.agg #[C o0,R a1 o1 c1],C o2]∧bL o0 o1=true∧aK o0∧aK o2∧RV (MN H8.eI N) w' (R a1 o1 c1) o1) J ⟨by rintro _ _ _ _ x_ ⟨o0,o1,o2,a1,c1,e_,q0,q1,q2,dN⟩;exact⟨o0,o1,o2,a1,c1,e_,q0,q1,q2,dN.lift (Up.ext x_)⟩,by rintro _ _ _ _ _ k_ ⟨o0,o1,o2,a1,c1,e_,q0,q1,q2,dN⟩;exact⟨o0,o1,o2,a1,c1,e_,q0,q1,q2,ig dN k_⟩⟩ J (fun v_ _ x_ n_=>have fF:=XM (I:=I) (U:=U) (mn:=((I.length:Nat):Int)) (mr:=(cA I U)) (aC:=aC) (aF:=aF) (aB:=aB) (w:=v_) (kR H8.mb x_ n_) (hT.ext (H8.below.trans x_)) (kv (H8.rv 3 J) x_ n_) (kv (H8.rv 4 J) x_ n_) aS (kv (H8.rv 2 J) x_ n_) (by exact ho) (by exact dG) (by exact ey) (by exact fP) (by rfl) (by rfl);ca akz rfl (ec J<|ec J e0) fF (fun _ w6 ⟨o3,o4,o5,a2,c2,e_,jl,dH,q3,q4,q5⟩=>⟨_,J,jl,⟨o3,o4,o5,a2,c2,e_,q3,q4,q5,dH⟩⟩))<|lP J (fun N v w'=>∃(o6:Int) (o7:List (List bw)) (o8:Int) (a3:OA) (c3:Nat),v=.tuple #[.agg #[C o6,R a3 o7 c3],C o8]∧bL o6 o7=true∧aK o6∧aK o8∧RV (MN H8.eI N) w' (R a3 o7 c3) o7) 0 J J ⟨by rintro _ _ _ _ x_ ⟨o6,o7,o8,a3,c3,e_,q6,q7,q8,ft⟩;exact⟨o6,o7,o8,a3,c3,e_,q6,q7,q8,ft.lift (Up.ext x_)⟩,by rintro _ _ _ _ _ k_ ⟨o6,o7,o8,a3,c3,e_,q6,q7,q8,ft⟩;exact⟨o6,o7,o8,a3,c3,e_,q6,q7,q8,ig ft k_⟩⟩ J (fun _ _ _ _ _ h_=>let ⟨o9,kQ,fS,a4,c4,s0,q9,vw,yc,iO⟩:=h_;mv rfl s0 ⟨_,J,Ext.refl _,⟨o9,kQ,fS,a4,c4,J,q9,vw,yc,iO⟩⟩)<|lP J (fun N v w'=>∃(ka:Int) (zb:List (List bw)) (a5:OA) (c5:Nat),v=.agg #[C ka,R a5 zb c5]∧bL ka zb=true∧aK ka∧RV (MN H8.eI N) w' (R a5 zb c5) zb) 0 J J ⟨by rintro _ _ _ _ x_ ⟨ka,zb,a5,c5,e_,EZ,vv,jK⟩;exact⟨ka,zb,a5,c5,e_,EZ,vv,jK.lift (Up.ext x_)⟩,by rintro _ _ _ _ _ k_ ⟨ka,zb,a5,c5,e_,EZ,vv,jK⟩;exact⟨ka,zb,a5,c5,e_,EZ,vv,ig jK k_⟩⟩ J (fun _ _ _ _ _ h_=>let ⟨JO,o16,Dh,a6,c6,s1,C7,C6,yY,i'⟩:=h_;xt rfl s1 rfl ⟨_,J,Ext.refl _,⟨JO,o16,a6,c6,J,C7,C6,i'⟩⟩)<|lP J (fun _ v _=>∃(TF:Int),v=C TF∧aK TF) 1 J J mE J (fun _ _ _ _ _ h_=>let ⟨o21,TE,Px,a8,c8,s2,EY,q22,Mg,nj⟩:=h_;xt rfl s2 rfl ⟨_,J,Ext.refl _,⟨Px,J,Mg⟩⟩)<|yn (z:=#[C 0,.slice none 0 0]) J J (fun _=>Qt bp)<|ye<|lP J (fun _ v _=>∃(mP:Int),v=C mP∧aK mP) 1 J J mE J (fun _ _ _ _ _ h_=>let ⟨Mu,s3,q25⟩:=h_;jV rfl s3 ⟨_,J,Ext.refl _,⟨Mu,J,q25⟩⟩)<|yz ?_
  intro w7 f0 _ je _ _ cG jc
  obtain⟨A7,s4,DN,tm,Co⟩:=jc 1 _ _ rfl
  have qb:=Qj (z:=#[C 0,.slice none 0 0]) (T:=26) DN tm Co<|Qk
  have dq:HI M w w7 (box A7 #[C 0,.slice none 0 0] 26::J6::bf):=H8.Ez je qb<|PB PA PC
  have s5:=cG 2 J
  have s6:=cG 4 J
  have s7:=cG 8 J
  obtain⟨sZ,um,a9,c9,s8,q26,q27,n9⟩:=jc 3 _ _ rfl
  let J7:=iL a9 um c9
  have cM:=dq.put (it:=J7) J<|sJ n9 qb
  refine km<|bA cM 1 J bp J J s4 s8 J J J ?_
  let J8:=box A7 #[C sZ,R a9 um c9] 26
  let bZ:=J7::J8::J6::bf
  intro w8 (dR:HI M w w8 bZ)
  refine kz<|cQ<|aU eX J s5<|bq dR 8 J ir J J J<|k<|dP J J iK<|k<|mk (m:=I.length) (zx:=(0:Int)) dR J J J J cw aT (fun _ _=>⟨J,by unfold aK;omega⟩) aq aq ?_
  intro g0 w9 jE (dI:HI M w w9 (own w.heap.size 3 (.slice (some ⟨g0,0,none⟩) I.length I.length) (List.replicate I.length (0:Int))::bZ))
  refine au (v:=R (some ⟨g0,0,none⟩) I I.length) J J<|av<|sq<|aD<|ak (v:=R (some ⟨g0,0,none⟩) I I.length) J J<|k<|dP J J cw<|ak (v:=C 0) J J<|av<|bk ?_
  let eh:=[J5,J0,J1,J3,J2]
  refine lp (fun m f w'=>∃(j_:Nat) (iW:aE),m=I.length-j_∧f 4=pV bj 0∧f 8=pV fj 0∧f 9=pV A7 0∧f 11=R (some ⟨g0,0,none⟩) I I.length∧f 46=C (I.length:Int)∧f 47=C (j_:Int)∧HI M w w' (own w.heap.size 3 (.slice (some ⟨g0,0,none⟩) I.length I.length) iW::J7::J8::box fj #[C lv,C ((I.length:Nat):Int),R a0 (cA I U) c0,.slice none 0 0,.slice none 0 0] 30::box bK #[.slice aC aF aB,R aA I az,R ay U ax,C ((I.length:Nat):Int),R a0 (cA I U) c0] 107::eh)∧(j_≤I.length)∧(iW.length=I.length)) _ ⟨0,(List.replicate I.length 0),J,s6,s7,s4,J,J,(bH J),dI,aq,(by exact oI ..)⟩ ?_
  rintro _ f1 dL ⟨j_,iW,rfl,s9,ei,eR,fM,fL,gv,cR,kb,ajv⟩
  refine aD<|k<|lss J J gv fL<|av<|sq<|cd (b:=decide ((j_:Int)<(I.length:Int))) J J (fun b1=>?_)<|fun b1=>?_
  ·
   have p1:=dT b1
   refine sk<|nx<|sq<|bk<|aD<|ak J gv<|au (v:=C (j_:Int)) J J<|av<|rg<|ak J fM<|ak (v:=C (j_:Int)) J J<|ak (v:=C (j_:Int)) J J<|k<|iC (cR.at_ 0 J) J J J J aq cw aT ?_
   intro g1 x0 iP aN cB
   refine k<|qE cR 0 J iP J aq aT J J J J (RV.int.2 ⟨J,aS⟩) ?_
   intro ew (dX:HI M w ew (own w.heap.size 3 (.slice (some ⟨g0,0,none⟩) I.length I.length) (iW.set ((j_:Int).toNat) (j_:Int))::bZ))
   refine z<|aH<|nx<|rg<|k<|add J J gv J aS<|ak (v:=C ((j_:Int)+1)) J J<|z<|bB _ ?_ ⟨(j_+1),(iW.set ((j_:Int).toNat) (j_:Int)),J,s9,ei,eR,fM,fL,(bH J),dX,aq,(by rw[apk];exact ajv)⟩
   omega
  refine ex<|aW<|ba<|bh<|cQ<|k<|cC cR 2 J bp J eR aw J<|ak J fM<|k ?_
  have UU:(I.length:Nat)=iW.length:=Mm<|cR.at_ 0 J
  have dX:HI M w dL (oL w 3 (some ⟨g0,0,none⟩) iW I.length::bZ):=by simpa +zetaDelta only[oL,R,UU] using cR
  have dV:=dX.freeze 0 J
  have fc:=yV (mn:=sZ) (mr:=um) (nd:=iW) dV.mb (hT.ext dV.below) bu (dV.rv 1 J) (dV.rv 0 J) bu aq
  refine ca RN J (ec J<|ec (Eq.trans (b:=(.slice (some ⟨g0,0,none⟩) I.length I.length:Value)) rfl (apj (fun n_=>Value.slice (some ⟨g0,0,none⟩) n_ I.length) UU)) e0) fc ?_
  rintro _ ew ⟨jy,jx,rfl,lk,qT⟩
  have cJ:=cR.eU<|bo.anyM qT
  refine ak (v:=.tuple #[R jy ((dJ sZ um iW).1) jx,C ((dJ sZ um iW).2)]) J J<|k<|xt J J J<|k<|xt J J J<|aU afe J ei<|k<|bA cJ 4 J qv J J J J J J J ?_
  let J9:=own w.heap.size 3 (.slice (some ⟨g0,0,none⟩) I.length I.length) iW
  let d_:=box fj #[C lv,C ((I.length:Nat):Int),R a0 (cA I U) c0,R jy ((dJ sZ um iW).1) jx,.slice none 0 0] 30
  intro fq (ef:HI M w fq (oL w 3 jy ((dJ sZ um iW).1) jx::J9::J7::J8::d_::bf))
  refine bz<|k<|cC ef 4 J wu J ei aw J<|k<|bA ef 9 J wu J J s9 J J J J ?_
  intro iF (dA:HI M w iF [oL w 3 jy ((dJ sZ um iW).1) jx,J9,J7,J8,d_,J4,J5,J0,J1,box bj #[C lv,C ((I.length:Nat):Int),R a0 (cA I U) c0,R jy ((dJ sZ um iW).1) jx,.slice none 0 0] 30,J2])
  refine au (v:=C 0) J J<|av<|rt<|aL<|iB dA 9 J wu J J J s9 J aw ?_
  have e2:(cA I U:List (List bw))=(cA I U):=rfl
  have e3:((dJ sZ um iW).1:aE)=((dJ sZ um iW).1):=rfl
  have bt:=nN (fun (gF:List (List bw)) (lR:aE)=>(.tuple #[.agg #[C lv,C ((I.length:Nat):Int),.slice a0 gF.length c0,.slice jy lR.length jx,.slice none ([]:List aE).length 0],C 0]:Value)) e2 e3
  exact⟨((I.length:Nat):Int),(cA I U),((dJ sZ um iW).1),([]:List aE),a0,c0,jy,jx,none,0,bt,dA.below,(apj (fun (x_:List (List bw))=>RV _ _ (.slice a0 x_.length c0) x_) e2).mp (dA.fz 6 J),(apj (fun (x_:aE)=>RV _ _ (.slice jy x_.length jx) x_) e3).mp (dA.mD 0 J),(ep _ _)⟩
 have p0:=dF b0
 refine sk<|nx<|sq<|aD<|aU eX J J<|bq H8 6 J ir J J J<|k<|dP J J iK<|ak (v:=C 0) J J<|av<|bk ?_
 have H9:=H8.qZ aE 27
 let jz:=[J5,J0,J1,J3,J2]
 refine lp (fun m f w'=>∃(j_:Nat) (wK:List aE) (a1:OA) (c1:Nat),m=I.length-j_∧f 1=C lv∧f 4=pV bj 0∧f 6=pV bK 0∧f 8=pV fj 0∧f 65=C (I.length:Int)∧f 66=C (j_:Int)∧HI M w w' (oL w 27 a1 wK c1::box fj #[C lv,C ((I.length:Nat):Int),R a0 (cA I U) c0,.slice none 0 0,R a1 wK c1] 30::box bK #[.slice aC aF aB,R aA I az,R ay U ax,C ((I.length:Nat):Int),R a0 (cA I U) c0] 107::jz)∧(j_≤I.length)∧(wK.length≤j_)) _ ⟨0,([]:List aE),none,0,J,i1,J,J,J,J,(bH J),H9,aq,(by exact apn _)⟩ ?_
 rintro _ f0 w5 ⟨j_,wK,a1,c1,rfl,s0,s1,s2,s3,s4,s5,dB,kb,IY⟩
 refine aD<|k<|lss J J s5 s4<|av<|sq<|cd (b:=decide ((j_:Int)<(I.length:Int))) J J (fun b1=>?_)<|fun b1=>?_
 ·
  have p1:=dT b1
  refine sk<|nx<|sq<|bk<|aD<|ak J s5<|au (v:=C (j_:Int)) J J<|z<|nx<|mw [.r,.r,.r,.r,.r,.r,.r,.e,.f,.e] (fun _=>True) J aV (fun _ _=>trivial)<|yq J J<|kq (fun _ _=>fa UJ J s3 e1)<|bS<|kq (fun _ x_=>lx (dB.ext x_) 1 J ab' J J J e1)<|bS<|kq (fun _ _=>mv J s2 e1)<|bS<|kq (fun _ _=>mv (v:=C (j_:Int)) J J e1)<|bS<|kq (fun _ _=>mv J s0 e1)<|zq<|yu J (fun _ v w'=>∃(o0:aE) (a2:OA) (c2:Nat),v=R a2 o0 c2∧o0.length≤300000∧RV (fun c_=>c_<w5.heap.size) w' (R a2 o0 c2) o0) J (mN<|by rintro _ _ _ x_ ⟨o0,a2,c2,e_,q0,dN⟩;exact⟨o0,a2,c2,e_,q0,dN.lift (Up.ext x_)⟩) J (fun v_ _ x_ _=>have fF:=XO (I:=I) (U:=U) (cn:=((I.length:Nat):Int)) (cr:=(cA I U)) (o:=(j_:Int)) (lv:=lv) (w:=v_) (M:=fun _=>False) (fun _ h_=>h_.elim) (hT.ext (dB.ext x_).below) (((dB.ext x_).rv 4 rfl).lift (Up.less fun _ _ h_=>h_.elim)) (((dB.ext x_).rv 5 rfl).lift (Up.less fun _ _ h_=>h_.elim)) aS (((dB.ext x_).rv 3 rfl).lift (Up.less fun _ _ h_=>h_.elim)) aS pO ⟨(dB.ext x_).at_ 2 rfl,fun h_=>h_⟩ (by exact ho) (by exact dG) (by exact ey) (by exact fP) (by rfl) (by rfl) aq;ca aky rfl (ec J<|ec J<|ec J e0) fF (fun _ w7 ⟨o1,a3,c3,e_,jl,dH,q1⟩=>⟨_,J,jl,⟨o1,a3,c3,e_,q1,(bo.rvN dH x_)⟩⟩))<|lP J (fun _ v w'=>∃(o2:aE) (a5:OA) (c5:Nat),v=R a5 ([o2]:List aE) c5∧o2.length≤300000∧RV dB.eI w' (R a5 ([o2]:List aE) c5) ([o2]:List aE)) 0 J J (mN<|by rintro _ _ _ x_ ⟨o2,a5,c5,e_,q2,jK⟩;exact⟨o2,a5,c5,e_,q2,jK.lift (Up.ext x_)⟩) J (fun v_ N_ u_ x_ n_ h_=>?_) ?_
  ·
   have cJ:=dB.ext x_
   obtain⟨o3,a6,c6,s6,q3,i'⟩:=h_
   have ef:=cJ.put (it:=iL a6 o3 c6) J<|L9 i' dB
   refine bs (xs:=([o3]:List aE)) (cells:=#[R a6 o3 c6]) (e:=27) ef J (ct s6 eA) (fun _=>aV) ⟨[R a6 o3 c6],[],J,⟨_,J,RV.list.1 (ef.rv 0 J)⟩,J⟩ J aw ?_
   intro g1 w9 jE (dA:HI M w w9 (own w.heap.size 27 (.slice (some ⟨g1,0,none⟩) 1 1) ([o3]:List aE)::iL a6 o3 c6::oL w 27 a1 wK c1::box fj #[C lv,C ((I.length:Nat):Int),R a0 (cA I U) c0,.slice none 0 0,R a1 wK c1] 30::bf))
   have fe:=dA.freeze 0 J
   exact⟨_,J,jE,⟨o3,(some ⟨g1,0,none⟩),1,J,q3,(mY J<|mY J<|fe.rv 0 J)⟩⟩
  refine ye<|yf J (fun _ _=>fa UJ J s3 e3)<|ye<|yz ?_
  intro dL f1 _ lk _ _ cG jc
  have fw:=dB.ext lk
  have s7:=(cG 1 J).trans s0
  have s8:=(cG 4 J).trans s1
  have s9:=(cG 6 J).trans s2
  have ei:=(cG 8 J).trans s3
  have eR:=(cG 65 J).trans s4
  have fM:=(cG 66 J).trans s5
  have fL:=cG 70 J
  obtain⟨o4,a7,c7,gv,q4,kN⟩:=jc 0 _ _ rfl
  let eJ:=iL a7 ([o4]:List aE) c7
  have gl:=fw.put (it:=eJ) J kN
  have gH:=cG 77 J
  refine km<|l7 gl 1 J J J J fL gv (gl.rv 0 J).src aja qv J (by simp only[jb,gC];omega) J ?_
  intro a8 c8 ew (iR:HI M w ew (eJ::oL w 27 a8 (wK++([o4]:List aE)) c8::box fj #[C lv,C ((I.length:Nat):Int),R a0 (cA I U) c0,.slice none 0 0,R a1 wK c1] 30::bf))
  refine km<|bA iR 2 J ab' J J gH J J J J ?_
  let fZ:=box fj #[C lv,C ((I.length:Nat):Int),R a0 (cA I U) c0,.slice none 0 0,R a8 (wK++([o4]:List aE)) c8] 30
  let fQ:=oL w 27 a8 (wK++([o4]:List aE)) c8::fZ::bf
  intro fq (iQ:HI M w fq (eJ::fQ))
  refine kz<|aH<|nx<|rg<|k<|add J J fM J aS<|ak (v:=C ((j_:Int)+1)) J J<|z ?_
  have mz:=iQ.put (it:=J5) J<|iQ.rv 4 J
  have iA:HI M w fq fQ:=mz.bX [2,3,4,0,6,7,8,9] aw J
  refine bB _ ?_ ⟨(j_+1),(wK++([o4]:List aE)),a8,c8,J,s7,s8,s9,ei,eR,(bH J),iA,aq,(by rw[gj,jb,gC];omega)⟩
  omega
 refine ex<|aW<|ba<|bh<|cQ<|k<|cC dB 1 J wu J s3 aw J<|k<|bA dB 6 J wu J J s1 J J J J ?_
 intro w6 (cT:HI M w w6 [oL w 27 a1 wK c1,box fj #[C lv,C ((I.length:Nat):Int),R a0 (cA I U) c0,.slice none 0 0,R a1 wK c1] 30,J4,J5,J0,J1,box bj #[C lv,C ((I.length:Nat):Int),R a0 (cA I U) c0,.slice none 0 0,R a1 wK c1] 30,J2])
 refine au (v:=C 0) J J<|av<|rt<|iB cT 6 J wu J J J s1 J aw ?_
 have e2:(cA I U:List (List bw))=(cA I U):=rfl
 have bt:=iD (fun (gF:List (List bw))=>(.tuple #[.agg #[C lv,C ((I.length:Nat):Int),.slice a0 gF.length c0,.slice none ([]:aE).length 0,.slice a1 wK.length c1],C 0]:Value)) e2
 exact⟨((I.length:Nat):Int),(cA I U),([]:aE),wK,a0,c0,none,0,a1,c1,bt,cT.below,(apj (fun (x_:List (List bw))=>RV _ _ (.slice a0 x_.length c0) x_) e2).mp (cT.fz 3 J),(ep _ _),(cT.mD 0 J)⟩
theorem Fl (pO:aK lv):Calls aM 21 #[C lv] w (ck fun v w'=>v=.bool (decide (0<(((eb lv).length:Nat):Int)))∧Ext w w'):=by
 refine dv 7 Tryz.func21 J J J qF fun f0 ha H=>?_
 have i0:f0 0=C lv:=ha 0 bm
 refine aD<|au (v:=.bool false) J J<|bz<|ak J i0<|k ?_
 have bT:=KC (lv:=lv) (w:=w) H.mb pO
 refine ca ae1 J (ec J e0) bT ?_
 rintro _ w0 ⟨a0,c0,rfl,bY,cm⟩
 have H0:=H.eU cm
 refine k<|dP J J cw<|k<|gtr J J J J<|au (v:=.bool (decide (0<((eb lv).length:Int)))) J J<|av<|rt<|r1 J J ?_
 exact⟨apj Value.bool (show (decide (0<((eb lv).length:Int)))=(decide (0<(((eb lv).length:Nat):Int))) from rfl),H0.below⟩
theorem K8:ez aM 101 2 true 16 (.agg #[.int .i64 0,.int .i64 0]):=⟨aV,aV⟩
theorem agl:Qv aM 101 [some (0,0),some (1,0)]:=⟨aV,aV,aV,aV⟩
theorem adf:Jl aM 99:=WT (by kernel_rfl:aM.underlying 99=some (.map 101 3)) (zY agl) aT
theorem agc:aM.underlying 134=some (.array 2 3):=aV
theorem ahC:VN aM 134:=arF agc CN aV aV aV
theorem YH:Jl aM 132:=WT (by kernel_rfl:aM.underlying 132=some (.map 134 3)) (Rm ahC) aT
theorem akC:cD aM 52:=cE Tryz.func52
theorem NB (hM:eC M w) (cW:cz M w aA az I):Calls aM 27 #[.agg #[.slice aC aF aB,R aA I az,.slice ay dY ax]] w (ck fun v w'=>v=.tuple #[C ((dC I).1),C ((dC I).2.1),C ((dC I).2.2)]∧Ext w w'):=by
 refine dv 46 Tryz.func27 J J J hM fun f0 ha H=>?_
 let J0:=iL aA I az
 have H0:=H.put (it:=J0) J<|by rw[bQ];exact cW
 have iE:=bg cW
 have i0:f0 0=.agg #[.slice aC aF aB,R aA I az,.slice ay dY ax]:=ha 0 bm
 refine aD<|k<|bx H0 J i0 ?_
 intro aX w0 bY (H1:HI M w w0 [box aX #[.slice aC aF aB,R aA I az,.slice ay dY ax] 47,J0])
 let J1:=box aX #[.slice aC aF aB,R aA I az,.slice ay dY ax] 47
 refine au (v:=C 0) J J<|au (v:=C 0) J J<|au (v:=C 0) J J<|bz<|k<|mm H1 ?_
 intro dQ w1 cS (H2:HI M w w1 [cj dQ ([]:KV),J1,J0])
 refine au (v:=.map (some dQ)) J J<|av<|sq<|aD<|aU eX J J<|bq H2 1 J ir J J J<|k<|dP J J iK<|ak (v:=C 0) J J<|av<|bk<|lp (fun m f w'=>∃(j:Nat) (j7:KV),m=I.length-j∧f 5=.map (some dQ)∧f 13=R aA I az∧f 14=C (I.length:Int)∧f 15=C (j:Int)∧HI M w w' [cj dQ j7,J1,J0]∧(j≤I.length)∧(∀k,k<j→oE I k=false)∧(uh I j j7)) _ ⟨0,([]:KV),J,J,J,J,(bH J),H2,aq,(by intro k hk;omega),(by exact HS _)⟩ ?_
 rintro _ f0 w2 ⟨j,j7,rfl,s0,s1,s2,s3,H3,hk,hs,hm⟩
 refine aD<|k<|lss J J s3 s2<|av<|sq<|cd (b:=decide ((j:Int)<(I.length:Int))) J J (fun b0=>?_)<|fun b0=>?_
 ·
  have p0:=dT b0
  refine sk<|nx<|sq<|bk<|aD<|ak J s3<|k<|ia (H3.rv 2 J) J J s1 s3 aq iK jd ?_
  intro iy x0 aN cB
  refine k<|nI cB.w jd J J ?_
  intro v0 cm
  obtain⟨_,⟨_,_,rfl,⟨rfl,dN⟩,⟨_,_,rfl,⟨rfl,dH⟩,⟨_,_,rfl,rfl,⟨_,_,rfl,⟨rfl,ft⟩,⟨rfl,iO⟩⟩⟩⟩⟩,rfl⟩:=cm
  refine k<|al H3 jd ?_
  let bf:=[cj dQ j7,J1,J0]
  intro bj w3 fm (H4:HI M w w3 (box bj #[C 0,C 0,.bool false,C 0,C 0] 95::bf))
  refine au (v:=C (j:Int)) J J<|k<|bA H4 0 J jd J J J J J J J ?_
  let J2:=box bj #[C x0.1,C x0.2.1,.bool x0.2.2.1,C x0.2.2.2.1,C x0.2.2.2.2] 95
  intro w4 (H5:HI M w w4 (J2::bf))
  refine av<|sq<|aD<|aU rz J J<|bq H5 0 J n5 J J J<|k<|jr J J<|z<|nx<|cd (b:=!x0.2.2.1) J J (fun b1=>?_)<|fun b1=>?_
  ·
   refine ex<|aW<|bh<|nx<|rg<|k<|add J J s3 J aS<|ak (v:=C ((j:Int)+1)) J J<|z ?_
   have H6:HI M w w4 bf:=H5.bX [1,2,3] aw J
   refine bB _ ?_ ⟨(j+1),j7,J,s0,s1,s2,(bH J),H6,aq,(by exact B9 hs aN (NR<|by simpa using b1)),(by exact Ff hm aN (by simpa using b1))⟩
   omega
  refine sk<|nx<|sq<|aD<|aU sj J J<|bq H5 0 J aT J J J<|k<|eql J J J J<|z<|nx<|cd (b:=decide (x0.2.2.2.2=0)) J J (fun b2=>?_)<|fun b2=>?_
  ·
   have p2:=dT b2
   refine aD<|ak (v:=C (j:Int)) J J<|ak (v:=C (j:Int)) J J<|au (v:=C (j:Int)) J J<|au (v:=C (j:Int)) J J<|au (v:=C 5) J J<|av<|rt<|aL<|bI<|aL<|du<|bI<|aL<|r3 J J J J ?_
   have e0:((j:Int):Int)=(dC I).1:=by exact(apj (fun z_:Int×Int×Int=>z_.1)<|u6 hs aN (by simpa using b1) p2).symm
   have e1:((j:Int):Int)=(dC I).2.1:=by exact(apj (fun z_:Int×Int×Int=>z_.2.1)<|u6 hs aN (by simpa using b1) p2).symm
   have e2:(5:Int)=(dC I).2.2:=by exact(apj (fun z_:Int×Int×Int=>z_.2.2)<|u6 hs aN (by simpa using b1) p2).symm
   have bt:=rD (fun (cb:Int) (dK:Int) (gF:Int)=>(.tuple #[C cb,C dK,C gF]:Value)) e0 e1 e2
   exact⟨bt,H5.below⟩
  have p2:=dF b2
  refine sk<|cQ<|aU ry J J<|bq H5 0 J aT J J J<|aU sj J J<|bq H5 0 J aT J J J<|k<|bd (v:=.agg #[C x0.2.2.2.1,C x0.2.2.2.2]) J (ct J<|ct J eA) (fun _=>aV)<|k<|al H5 K8 ?_
  intro bK w5 fg (H6:HI M w w5 (box bK #[C 0,C 0] 101::J2::bf))
  refine k<|bA H6 0 J K8 J J J J J J J ?_
  intro w6 (H7:HI M w w6 (box bK #[C x0.2.2.2.1,C x0.2.2.2.2] 101::J2::bf))
  refine av<|sq<|aD<|ak J s0<|k<|cC H7 0 J K8 J J aw J<|k<|YJ (k:=(x0.2.2.2.1,x0.2.2.2.2)) adf H7 2 J J J J J ?_
  intro jK
  refine ak (v:=.tuple #[C ((getM j7 (x0.2.2.2.1,x0.2.2.2.2)).getD 0),.bool ((getM j7 (x0.2.2.2.1,x0.2.2.2.2)).isSome)]) J J<|k<|xt J J J<|k<|xt J J J<|au (v:=C ((getM j7 (x0.2.2.2.1,x0.2.2.2.2)).getD 0)) J J<|au (v:=.bool ((getM j7 (x0.2.2.2.1,x0.2.2.2.2)).isSome)) J J<|bz<|ak (v:=.bool ((getM j7 (x0.2.2.2.1,x0.2.2.2.2)).isSome)) J J<|z<|nx<|cd (b:=(getM j7 (x0.2.2.2.1,x0.2.2.2.2)).isSome) J J (fun b3=>?_)<|fun b3=>?_
  ·
   refine aD<|ak (v:=C ((getM j7 (x0.2.2.2.1,x0.2.2.2.2)).getD 0)) J J<|ak (v:=C (j:Int)) J J<|au (v:=C ((getM j7 (x0.2.2.2.1,x0.2.2.2.2)).getD 0)) J J<|au (v:=C (j:Int)) J J<|au (v:=C 4) J J<|av<|rt<|aL<|bI<|aL<|du<|bI<|aL<|r3 J J J J ?_
   have e0:((getM j7 (x0.2.2.2.1,x0.2.2.2.2)).getD 0:Int)=(dC I).1:=by exact(Bn hm aN b3).1.trans (apj (fun z_:Int×Int×Int=>z_.1)<|tq hs aN (by simpa using b1) p2 (Bn hm aN b3).2).symm
   have e1:((j:Int):Int)=(dC I).2.1:=by exact(apj (fun z_:Int×Int×Int=>z_.2.1)<|tq hs aN (by simpa using b1) p2 (Bn hm aN b3).2).symm
   have e2:(4:Int)=(dC I).2.2:=by exact(apj (fun z_:Int×Int×Int=>z_.2.2)<|tq hs aN (by simpa using b1) p2 (Bn hm aN b3).2).symm
   have bt:=rD (fun (cb:Int) (dK:Int) (gF:Int)=>(.tuple #[C cb,C dK,C gF]:Value)) e0 e1 e2
   exact⟨bt,H7.below⟩
  refine sk<|nx<|rg<|ak J s0<|k<|cC H7 0 J K8 J J aw J<|ak (v:=C (j:Int)) J J<|k<|YF (k:=(x0.2.2.2.1,x0.2.2.2.2)) adf H7 2 J J J J J J J aS ?_
  let J3:=cj dQ (jB j7 (x0.2.2.2.1,x0.2.2.2.2) (j:Int))
  intro w7 (H8:HI M w w7 [box bK #[C x0.2.2.2.1,C x0.2.2.2.2] 101,J2,J3,J1,J0])
  refine z<|aH<|nx<|rg<|k<|add J J s3 J aS<|ak (v:=C ((j:Int)+1)) J J<|z ?_
  have H9:HI M w w7 [J3,J1,J0]:=H8.bX [2,3,4] aw J
  refine bB _ ?_ ⟨(j+1),(jB j7 (x0.2.2.2.1,x0.2.2.2.2) (j:Int)),J,s0,s1,s2,(bH J),H9,aq,(by exact B9 hs aN (NS p2<|by rw[(Pb hm aN (by simpa using b1) b3).2];omega)),(by exact HR hm aN (by simpa using b1) (Pb hm aN (by simpa using b1) b3).1)⟩
  omega
 have p0:=dF b0
 refine ex<|aW<|ba<|bh<|cQ<|au (v:=C 0) J J<|au (v:=C 0) J J<|au (v:=C 0) J J<|av<|rt<|r3 J J J J ?_
 have e0:(0:Int)=(dC I).1:=by exact(apj (fun z_:Int×Int×Int=>z_.1)<|xI hs aq).symm
 have e1:(0:Int)=(dC I).2.1:=by exact(apj (fun z_:Int×Int×Int=>z_.2.1)<|xI hs aq).symm
 have e2:(0:Int)=(dC I).2.2:=by exact(apj (fun z_:Int×Int×Int=>z_.2.2)<|xI hs aq).symm
 have bt:=rD (fun (cb:Int) (dK:Int) (gF:Int)=>(.tuple #[C cb,C dK,C gF]:Value)) e0 e1 e2
 exact⟨bt,H3.below⟩
theorem OH (hM:eC M w) (cW:cz M w aA az I) (dG:I.length≤4096):Calls aM 52 #[.agg #[.slice aC aF aB,R aA I az,.slice ay dY ax]] w (ck fun v w'=>∃(a0:OA) (c0:Nat),v=.slice a0 (gQ I).length c0∧Ext w w'∧bo M 3 w (gQ I) (.slice a0 (gQ I).length c0) w'):=by
 refine dv 76 Tryz.func52 J J J hM fun f0 ha H=>?_
 let J0:=iL aA I az
 have H0:=H.put (it:=J0) J<|by rw[bQ];exact cW
 have iE:=bg cW
 have i0:f0 0=.agg #[.slice aC aF aB,R aA I az,.slice ay dY ax]:=ha 0 bm
 refine aD<|k<|bx H0 J i0 ?_
 intro aX w0 bY (H1:HI M w w0 [box aX #[.slice aC aF aB,R aA I az,.slice ay dY ax] 47,J0])
 let J1:=box aX #[.slice aC aF aB,R aA I az,.slice ay dY ax] 47
 refine au (v:=.slice none 0 0) J J<|bz<|k<|mm H1 ?_
 let bf:=[J1,J0]
 intro dQ w1 cS (H2:HI M w w1 (cj dQ ([]:KV)::bf))
 refine au (v:=.map (some dQ)) J J<|av<|sq<|aD<|aU eX J J<|bq H2 1 J ir J J J<|k<|dP J J iK<|ak (v:=C 0) J J<|av<|bk<|lp (fun m f w'=>∃(j:Nat) (j7:KV),m=I.length-j∧f 1=pV aX 0∧f 3=.map (some dQ)∧f 13=R aA I az∧f 14=C (I.length:Int)∧f 15=C (j:Int)∧HI M w w' (cj dQ j7::bf)∧(j≤I.length)∧(j7=vc I j)) _ ⟨0,([]:KV),J,J,J,J,J,(bH J),H2,aq,(by rfl)⟩ ?_
 rintro _ f0 w2 ⟨j,j7,rfl,s0,s1,s2,s3,s4,H3,hk,hm⟩
 refine aD<|k<|lss J J s4 s3<|av<|sq<|cd (b:=decide ((j:Int)<(I.length:Int))) J J (fun b0=>?_)<|fun b0=>?_
 ·
  have p0:=dT b0
  refine sk<|nx<|sq<|bk<|aD<|ak J s4<|k<|ia (H3.rv 2 J) J J s2 s4 aq iK jd ?_
  intro iy x0 aN cB
  refine k<|nI cB.w jd J J ?_
  intro v0 cm
  obtain⟨_,⟨_,_,rfl,⟨rfl,dN⟩,⟨_,_,rfl,⟨rfl,dH⟩,⟨_,_,rfl,rfl,⟨_,_,rfl,⟨rfl,ft⟩,⟨rfl,iO⟩⟩⟩⟩⟩,rfl⟩:=cm
  refine k<|al H3 jd ?_
  intro bj w3 fm (H4:HI M w w3 [box bj #[C 0,C 0,.bool false,C 0,C 0] 95,cj dQ j7,J1,J0])
  refine au (v:=C (j:Int)) J J<|k<|bA H4 0 J jd J J J J J J J ?_
  let J2:=box bj #[C x0.1,C x0.2.1,.bool x0.2.2.1,C x0.2.2.2.1,C x0.2.2.2.2] 95
  intro w4 (H5:HI M w w4 [J2,cj dQ j7,J1,J0])
  refine bz<|aU rz J J<|bq H5 0 J n5 J J J<|z<|nx<|cd (b:=x0.2.2.1) J J (fun b1=>?_)<|fun b1=>?_
  ·
   refine rg<|ak J s1<|aU ry J J<|bq H5 0 J aT J J J<|aU sj J J<|bq H5 0 J aT J J J<|k<|bd (v:=.agg #[C x0.2.2.2.1,C x0.2.2.2.2]) J (ct J<|ct J eA) (fun _=>aV)<|ak (v:=C (j:Int)) J J<|k<|YF (k:=(x0.2.2.2.1,x0.2.2.2.2)) YH H5 1 J J J J J J J aS ?_
   let J3:=cj dQ (jB j7 (x0.2.2.2.1,x0.2.2.2.2) (j:Int))
   intro w5 (H6:HI M w w5 [J2,J3,J1,J0])
   refine z<|aH<|nx<|rg<|k<|add J J s4 J aS<|ak (v:=C ((j:Int)+1)) J J<|z ?_
   have H7:HI M w w5 (J3::bf):=H6.bX [1,2,3] aw J
   refine bB _ ?_ ⟨(j+1),(jB j7 (x0.2.2.2.1,x0.2.2.2.2) (j:Int)),J,s0,s1,s2,s3,(bH J),H7,aq,(by rw[hm];first|exact zW aN b1|exact BM aN b1)⟩
   omega
  refine sk<|aH<|nx<|rg<|k<|add J J s4 J aS<|ak (v:=C ((j:Int)+1)) J J<|z ?_
  have H6:HI M w w4 (cj dQ j7::bf):=H5.bX [1,2,3] aw J
  refine bB _ ?_ ⟨(j+1),j7,J,s0,s1,s2,s3,(bH J),H6,aq,(by rw[hm];first|exact zW aN b1|exact BM aN b1)⟩
  omega
 have p0:=dF b0
 refine ex<|aW<|ba<|bh<|cQ<|aU eX J s0<|bq H3 1 J ir J J J<|k<|dP J J iK<|k<|mk (m:=I.length) (zx:=(0:Int)) H3 J J J J cw aT (fun _ _=>⟨J,by unfold aK;omega⟩) aq aq ?_
 let J4:=cj dQ j7
 let bZ:=J4::bf
 intro g0 w3 fm (H4:HI M w w3 (own w.heap.size 3 (.slice (some ⟨g0,0,none⟩) I.length I.length) (List.replicate I.length (0:Int))::bZ))
 refine au (v:=R (some ⟨g0,0,none⟩) I I.length) J J<|av<|sq<|aD<|aU eX J s0<|bq H4 2 J ir J J J<|k<|dP J J iK<|ak (v:=C 0) J J<|av<|bk<|lp (fun m f w'=>∃(q:Nat) (xs:aE),m=I.length-q∧f 3=.map (some dQ)∧f 6=R (some ⟨g0,0,none⟩) I I.length∧f 35=R aA I az∧f 36=C (I.length:Int)∧f 37=C (q:Int)∧HI M w w' (own w.heap.size 3 (.slice (some ⟨g0,0,none⟩) I.length I.length) xs::bZ)∧(q≤I.length)∧(xs.length=I.length)∧(xs=DU j7 I q)) _ ⟨0,(List.replicate I.length (0:Int)),J,s1,J,J,J,(bH J),H4,aq,bm,(by exact UD _ _)⟩ ?_
 rintro _ f1 w4 ⟨q,xs,rfl,s5,s6,s7,s8,s9,H5,tg,hl,hs⟩
 refine aD<|k<|lss J J s9 s8<|av<|sq<|cd (b:=decide ((q:Int)<(I.length:Int))) J J (fun b1=>?_)<|fun b1=>?_
 ·
  have p1:=dT b1
  refine sk<|nx<|sq<|bk<|aD<|ak J s9<|k<|ia (H5.rv 3 J) J J s7 s9 aq iK jd ?_
  intro iy x0 aN cB
  refine k<|nI cB.w jd J J ?_
  intro v0 cm
  obtain⟨_,⟨_,_,rfl,⟨rfl,dN⟩,⟨_,_,rfl,⟨rfl,dH⟩,⟨_,_,rfl,rfl,⟨_,_,rfl,⟨rfl,ft⟩,⟨rfl,iO⟩⟩⟩⟩⟩,rfl⟩:=cm
  refine k<|al H5 jd ?_
  let J5:=own w.heap.size 3 (.slice (some ⟨g0,0,none⟩) I.length I.length) xs
  intro bj w5 fg (H6:HI M w w5 (box bj #[C 0,C 0,.bool false,C 0,C 0] 95::J5::bZ))
  refine au (v:=C (q:Int)) J J<|k<|bA H6 0 J jd J J J J J J J ?_
  let J6:=box bj #[C x0.1,C x0.2.1,.bool x0.2.2.1,C x0.2.2.2.1,C x0.2.2.2.2] 95
  intro w6 (H7:HI M w w6 (J6::J5::bZ))
  refine bz<|ak J s5<|aU ry J J<|bq H7 0 J aT J J J<|aU sj J J<|bq H7 0 J aT J J J<|k<|bd (v:=.agg #[C x0.2.2.2.1,C x0.2.2.2.2]) J (ct J<|ct J eA) (fun _=>aV)<|k<|YJ (k:=(x0.2.2.2.1,x0.2.2.2.2)) YH H7 2 J J J J J ?_
  intro jK
  refine ak (v:=.tuple #[C ((getM j7 (x0.2.2.2.1,x0.2.2.2.2)).getD 0),.bool ((getM j7 (x0.2.2.2.1,x0.2.2.2.2)).isSome)]) J J<|k<|xt J J J<|k<|xt J J J<|au (v:=C ((getM j7 (x0.2.2.2.1,x0.2.2.2.2)).getD 0)) J J<|au (v:=.bool ((getM j7 (x0.2.2.2.1,x0.2.2.2.2)).isSome)) J J<|av<|bk<|aD<|aU rz J J<|bq H7 0 J n5 J J J<|au (v:=.bool x0.2.2.1) J J<|z<|nx<|cd (b:=x0.2.2.1) J J (fun b2=>?_)<|fun b2=>?_
  ·
   refine rg<|ak J s6<|ak (v:=C (q:Int)) J J<|k<|iC (H7.at_ 1 J) J J J J aq cw aT ?_
   intro g1 x1 iP cO gx
   refine k<|qE H7 1 J iP J aq aT J J J J (RV.int.2 ⟨J,aS⟩) ?_
   let J7:=own w.heap.size 3 (.slice (some ⟨g0,0,none⟩) I.length I.length) (xs.set ((q:Int).toNat) (-3))
   intro w7 (H8:HI M w w7 (J6::J7::bZ))
   refine z<|aH<|aH<|nx<|rg<|k<|add J J s9 J aS<|ak (v:=C ((q:Int)+1)) J J<|z ?_
   have H9:HI M w w7 (J7::bZ):=H8.bX [1,2,3,4] aw J
   refine bB _ ?_ ⟨(q+1),(xs.set ((q:Int).toNat) (-3)),J,s5,s6,s7,s8,(bH J),H9,aq,(by simpa using hl),(by rw[hs];first|exact j5 aN (Lm b2)|exact j5 aN (Lp b2 p3)|exact j5 aN (Ln b2 p3 b4)|exact j5 aN (Lo b2 p3 b4))⟩
   omega
  refine aD<|aU sj J J<|bq H7 0 J aT J J J<|k<|eql J J J J<|au (v:=.bool (decide (x0.2.2.2.2=0))) J J<|z<|nx<|cd (b:=decide (x0.2.2.2.2=0)) J J (fun b3=>?_)<|fun b3=>?_
  ·
   have p3:=dT b3
   refine rg<|ak J s6<|ak (v:=C (q:Int)) J J<|k<|iC (H7.at_ 1 J) J J J J aq cw aT ?_
   intro g1 x1 iP cO gx
   refine k<|qE H7 1 J iP J aq aT J J J J (RV.int.2 ⟨J,aS⟩) ?_
   let J8:=own w.heap.size 3 (.slice (some ⟨g0,0,none⟩) I.length I.length) (xs.set ((q:Int).toNat) (-1))
   intro w7 (H8:HI M w w7 (J6::J8::bZ))
   refine z<|aH<|aH<|nx<|rg<|k<|add J J s9 J aS<|ak (v:=C ((q:Int)+1)) J J<|z ?_
   have H9:HI M w w7 (J8::bZ):=H8.bX [1,2,3,4] aw J
   refine bB _ ?_ ⟨(q+1),(xs.set ((q:Int).toNat) (-1)),J,s5,s6,s7,s8,(bH J),H9,aq,(by simpa using hl),(by rw[hs];first|exact j5 aN (Lm b2)|exact j5 aN (Lp b2 p3)|exact j5 aN (Ln b2 p3 b4)|exact j5 aN (Lo b2 p3 b4))⟩
   omega
  have p3:=dF b3
  refine aD<|ak (v:=.bool ((getM j7 (x0.2.2.2.1,x0.2.2.2.2)).isSome)) J J<|au (v:=.bool ((getM j7 (x0.2.2.2.1,x0.2.2.2.2)).isSome)) J J<|z<|nx<|cd (b:=(getM j7 (x0.2.2.2.1,x0.2.2.2.2)).isSome) J J (fun b4=>?_)<|fun b4=>?_
  ·
   refine rg<|ak J s6<|ak (v:=C (q:Int)) J J<|ak (v:=C ((getM j7 (x0.2.2.2.1,x0.2.2.2.2)).getD 0)) J J<|k<|iC (H7.at_ 1 J) J J J J aq cw aT ?_
   intro g1 x1 iP cO gx
   refine k<|qE H7 1 J iP J aq aT J J J J (RV.int.2 ⟨J,aS⟩) ?_
   let J9:=own w.heap.size 3 (.slice (some ⟨g0,0,none⟩) I.length I.length) (xs.set ((q:Int).toNat) ((getM j7 (x0.2.2.2.1,x0.2.2.2.2)).getD 0))
   intro w7 (H8:HI M w w7 (J6::J9::bZ))
   refine z<|aH<|aH<|nx<|rg<|k<|add J J s9 J aS<|ak (v:=C ((q:Int)+1)) J J<|z ?_
   have H9:HI M w w7 (J9::bZ):=H8.bX [1,2,3,4] aw J
   refine bB _ ?_ ⟨(q+1),(xs.set ((q:Int).toNat) ((getM j7 (x0.2.2.2.1,x0.2.2.2.2)).getD 0)),J,s5,s6,s7,s8,(bH J),H9,aq,(by simpa using hl),(by rw[hs];first|exact j5 aN (Lm b2)|exact j5 aN (Lp b2 p3)|exact j5 aN (Ln b2 p3 b4)|exact j5 aN (Lo b2 p3 b4))⟩
   omega
  refine rg<|ak J s6<|ak (v:=C (q:Int)) J J<|k<|iC (H7.at_ 1 J) J J J J aq cw aT ?_
  intro g1 x1 iP cO gx
  refine k<|qE H7 1 J iP J aq aT J J J J (RV.int.2 ⟨J,aS⟩) ?_
  let d_:=own w.heap.size 3 (.slice (some ⟨g0,0,none⟩) I.length I.length) (xs.set ((q:Int).toNat) (-2))
  intro w7 (H8:HI M w w7 (J6::d_::bZ))
  refine z<|aH<|aH<|nx<|rg<|k<|add J J s9 J aS<|ak (v:=C ((q:Int)+1)) J J<|z ?_
  have H9:HI M w w7 (d_::bZ):=H8.bX [1,2,3,4] aw J
  refine bB _ ?_ ⟨(q+1),(xs.set ((q:Int).toNat) (-2)),J,s5,s6,s7,s8,(bH J),H9,aq,(by simpa using hl),(by rw[hs];first|exact j5 aN (Lm b2)|exact j5 aN (Lp b2 p3)|exact j5 aN (Ln b2 p3 b4)|exact j5 aN (Lo b2 p3 b4))⟩
  omega
 have p1:=dF b1
 refine ex<|aW<|ba<|bh<|cQ<|ak J s6<|au (v:=R (some ⟨g0,0,none⟩) I I.length) J J<|av<|rt<|r1 J J ?_
 have e0:(xs:aE)=gQ I:=by rw[hs,hm];unfold gQ;rw[Xv aq,show j=I.length from by omega]
 have l0:I.length=(gQ I).length:=by rw[←e0];omega
 have bt:=iD (fun (vE:Nat)=>(.slice (some ⟨g0,0,none⟩) vE I.length:Value)) l0
 exact⟨(some ⟨g0,0,none⟩),I.length,bt,H5.below,(apj (fun (n_:Nat)=>bo _ _ _ (gQ I) (.slice (some ⟨g0,0,none⟩) n_ I.length) _) l0).mp ((apj (fun (x_:aE)=>bo _ _ _ x_ (.slice (some ⟨g0,0,none⟩) I.length I.length) _) e0).mp (H5.dx 0 J))⟩
theorem OI (hM:eC M w) (Xh:cz M w aC aB fv) (cW:cz M w aA az I) (fC:cz M w ay ax U) (dG:I.length≤4096):Calls aM 28 #[.agg #[R aC fv aB,R aA I az,R ay U ax]] w (ck fun v w'=>∃(a0:OA) (c0:Nat) (a1:OA) (c1:Nat) (a2:OA) (c2:Nat),v=.agg #[R a0 fv c0,R a1 I c1,.slice a2 (gQ I).length c2]∧Ext w w'∧cz M w' a0 c0 fv∧cz M w' a1 c1 I∧RV M w' (.slice a2 (gQ I).length c2) (gQ I)):=by
 refine dv 7 Tryz.func28 J J J hM fun f0 ha H=>?_
 let J0:=iL aC fv aB
 have H0:=H.put (it:=J0) J<|by rw[bQ];exact Xh
 let J1:=iL aA I az
 have H1:=H0.put (it:=J1) J<|by rw[aG rfl,bQ];exact cW
 let J2:=iL ay U ax
 have H2:=H1.put (it:=J2) J<|by rw[aG rfl,aG rfl,bQ];exact fC
 have i0:f0 0=.agg #[R aC fv aB,R aA I az,R ay U ax]:=ha 0 bm
 refine aD<|k<|bx H2 J i0 ?_
 intro aX w0 bY (H3:HI M w w0 [box aX #[R aC fv aB,R aA I az,R ay U ax] 47,J2,J1,J0])
 refine k<|al H3 dt ?_
 intro bj w1 cS (H4:HI M w w1 [box bj #[.slice none 0 0,.slice none 0 0,.slice none 0 0] 47,box aX #[R aC fv aB,R aA I az,R ay U ax] 47,J2,J1,J0])
 refine bz<|k<|cC H4 1 J dt J J aw J<|k ?_
 have bT:=OH (I:=I) (aC:=aC) (aF:=fv.length) (aB:=aB) (ay:=ay) (dY:=U.length) (ax:=ax) H4.mb (H4.rv 3 J) bu
 refine ca akC J (ec J e0) bT ?_
 rintro _ w2 ⟨a0,c0,rfl,fm,cm⟩
 have H5:=H4.eU cm
 refine aU sm J J<|k<|bA H5 2 J qv J J J J J J J ?_
 let J3:=box aX #[R aC fv aB,R aA I az,R a0 (gQ I) c0] 47
 intro w3 (H6:HI M w w3 [oL w 3 a0 (gQ I) c0,box bj #[.slice none 0 0,.slice none 0 0,.slice none 0 0] 47,J3,J2,J1,J0])
 refine bz<|k<|cC H6 2 J dt J J aw J<|k<|bA H6 1 J dt J J J J J J J ?_
 intro w4 (H7:HI M w w4 [oL w 3 a0 (gQ I) c0,box bj #[R aC fv aB,R aA I az,R a0 (gQ I) c0] 47,J3,J2,J1,J0])
 refine av<|rt<|py H7 1 J dt J J J J aw ?_
 exact⟨aC,aB,aA,az,a0,c0,J,H7.below,(H7.fz 5 J),(H7.fz 4 J),(H7.mD 0 J)⟩
theorem ZC:cD aM 114:=cE Tryz.func114
theorem akt:cD aM 77:=cE Tryz.func77
theorem ahf:cD aM 113:=cE Tryz.func113
theorem ag0:cD aM 146:=cE Tryz.func146
theorem ahg:cD aM 112:=cE Tryz.func112
theorem akw:cD aM 74:=cE Tryz.func74
theorem aku:cD aM 76:=cE Tryz.func76
theorem akv:cD aM 75:=cE Tryz.func75
set_option maxRecDepth 100000 in
set_option maxHeartbeats 1600000 in
def Dl:Go.Shelf.Ren:=⟨fun|160=>114|232=>148|231=>147|227=>149|234=>151|233=>150|236=>153|235=>152|228=>172|271=>175|151=>174|197=>173|120=>188|152=>187|260=>186|137=>192|119=>193|224=>194|225=>195|217=>196|266=>197|n=>n,fun|9=>9|4=>4|3=>3|5=>5|117=>200|116=>199|0=>0|124=>203|21=>21|105=>220|46=>152|119=>244|139=>247|138=>246|n=>n,fun|3=>1|4=>2|n=>n⟩
theorem MJ:Go.Proofs.Lays.n160 aM Dl:={
  mixed:=aV
  f119:=Tryz.func193.trans (apj some aV)
  f120:=Tryz.func188.trans (apj some aV)
  f137:=Tryz.func192.trans (apj some aV)
  f151:=Tryz.func174.trans (apj some aV)
  f152:=Tryz.func187.trans (apj some aV)
  f160:=Tryz.func114.trans (apj some aV)
  f197:=Tryz.func173.trans (apj some aV)
  f217:=Tryz.func196.trans (apj some aV)
  f224:=Tryz.func194.trans (apj some aV)
  f225:=Tryz.func195.trans (apj some aV)
  f227:=Tryz.func149.trans (apj some aV)
  f228:=Tryz.func172.trans (apj some aV)
  f231:=Tryz.func147.trans (apj some aV)
  f232:=Tryz.func148.trans (apj some aV)
  f233:=Tryz.func150.trans (apj some aV)
  f234:=Tryz.func151.trans (apj some aV)
  f235:=Tryz.func152.trans (apj some aV)
  f236:=Tryz.func153.trans (apj some aV)
  f260:=Tryz.func186.trans (apj some aV)
  f266:=Tryz.func197.trans (apj some aV)
  f271:=Tryz.func175.trans (apj some aV)
  t0:=Tryz.underlying0
  a0:=Tryz.isAgg0
  z0:=Tryz.sizeOf0
  v0:=Tryz.zeroValue0
  t3:=Tryz.underlying3
  a3:=Tryz.isAgg3
  z3:=Tryz.sizeOf3
  v3:=Tryz.zeroValue3
  t4:=Tryz.underlying4
  a4:=Tryz.isAgg4
  z4:=Tryz.sizeOf4
  v4:=Tryz.zeroValue4
  t5:=Tryz.underlying5
  a5:=Tryz.isAgg5
  z5:=Tryz.sizeOf5
  v5:=Tryz.zeroValue5
  t9:=Tryz.underlying9
  a9:=Tryz.isAgg9
  z9:=Tryz.sizeOf9
  v9:=Tryz.zeroValue9
  t21:=Tryz.underlying21
  a21:=Tryz.isAgg21
  z21:=Tryz.sizeOf21
  v21:=Tryz.zeroValue21
  t46:=Tryz.underlying152
  a46:=Tryz.isAgg152
  z46:=Tryz.sizeOf152
  v46:=Tryz.zeroValue152
  t105:=Tryz.underlying220
  a105:=Tryz.isAgg220
  z105:=Tryz.sizeOf220
  v105:=Tryz.zeroValue220
  t116:=Tryz.underlying199
  a116:=Tryz.isAgg199
  z116:=Tryz.sizeOf199
  t117:=Tryz.underlying200
  a117:=Tryz.isAgg200
  z117:=Tryz.sizeOf200
  v117:=Tryz.zeroValue200
  t119:=Tryz.underlying244
  a119:=Tryz.isAgg244
  z119:=Tryz.sizeOf244
  t124:=Tryz.underlying203
  a124:=Tryz.isAgg203
  z124:=Tryz.sizeOf203
  v124:=Tryz.zeroValue203
  t138:=Tryz.underlying246
  a138:=Tryz.isAgg246
  z138:=Tryz.sizeOf246
  v138:=Tryz.zeroValue246
  t139:=Tryz.underlying247
  a139:=Tryz.isAgg247
  z139:=Tryz.sizeOf247
  v139:=Tryz.zeroValue247
  g3:=aV
  g4:=by kernel_rfl}
theorem CS (lu:s.size≤maxLen) (akb:cs.size≤maxLen) (Gp:Sm cs):Calls aM 114 #[.string s,.string cs] w (ck fun v w'=>v=.string (trimB s cs)∧Ext w w'):=by
  have Nl:(aM.info? (Dl.t 116)).map (fun i=>(i.zero,i.size))=some (some (.agg (Array.replicate 256 (.bool false))),256):=aV
  by_cases h0:s.size=0
  · refine(Go.Proofs.Any.strings_Trim_empty MJ s cs w<|.inl h0).mono ?_
    rintro e w' ⟨rfl,rfl⟩
    unfold ck
    refine⟨_,J,?_,Ext.refl _⟩
    have hs:s.data.toList=[]:=by rw[←aqp,ap9];exact h0
    unfold trimB
    rw[hs]
    refine apj Value.string ?_
    cases s with|mk a=>exact apj ByteArray.mk (aq6 h0)
  · refine(Go.Proofs.Any.strings_Trim_set MJ (zero_of_info Nl).1 (zero_of_info Nl).2 s cs w Gp.two aq lu Gp.low Gp.asc).mono ?_
    rintro e w' ⟨rfl,q,rfl⟩
    unfold ck
    exact⟨_,J,J,((Ext.alloc w _).trans (Ext.alloc _ _)).trans (UQ _ q)⟩
set_option maxRecDepth 100000 in
set_option maxHeartbeats 1600000 in
def yk:Go.Shelf.Ren:=⟨fun|161=>144|231=>147|227=>149|233=>150|235=>152|228=>172|197=>173|151=>174|260=>186|152=>187|137=>192|119=>193|224=>194|225=>195|217=>196|266=>197|n=>n,fun|9=>9|4=>4|3=>3|5=>5|117=>200|116=>199|0=>0|124=>203|105=>220|21=>21|119=>244|46=>152|139=>247|138=>246|n=>n,fun|3=>1|4=>2|n=>n⟩
theorem Dm:Go.Proofs.Lays.n161 aM yk:={
  mixed:=aV
  f119:=Tryz.func193.trans (apj some aV)
  f137:=Tryz.func192.trans (apj some aV)
  f151:=Tryz.func174.trans (apj some aV)
  f152:=Tryz.func187.trans (apj some aV)
  f161:=Tryz.func144.trans (apj some aV)
  f197:=Tryz.func173.trans (apj some aV)
  f217:=Tryz.func196.trans (apj some aV)
  f224:=Tryz.func194.trans (apj some aV)
  f225:=Tryz.func195.trans (apj some aV)
  f227:=Tryz.func149.trans (apj some aV)
  f228:=Tryz.func172.trans (apj some aV)
  f231:=Tryz.func147.trans (apj some aV)
  f233:=Tryz.func150.trans (apj some aV)
  f235:=Tryz.func152.trans (apj some aV)
  f260:=Tryz.func186.trans (apj some aV)
  f266:=Tryz.func197.trans (apj some aV)
  t0:=Tryz.underlying0
  a0:=Tryz.isAgg0
  z0:=Tryz.sizeOf0
  v0:=Tryz.zeroValue0
  t3:=Tryz.underlying3
  a3:=Tryz.isAgg3
  z3:=Tryz.sizeOf3
  v3:=Tryz.zeroValue3
  t4:=Tryz.underlying4
  a4:=Tryz.isAgg4
  z4:=Tryz.sizeOf4
  v4:=Tryz.zeroValue4
  t5:=Tryz.underlying5
  a5:=Tryz.isAgg5
  z5:=Tryz.sizeOf5
  v5:=Tryz.zeroValue5
  t9:=Tryz.underlying9
  a9:=Tryz.isAgg9
  z9:=Tryz.sizeOf9
  v9:=Tryz.zeroValue9
  t21:=Tryz.underlying21
  a21:=Tryz.isAgg21
  z21:=Tryz.sizeOf21
  v21:=Tryz.zeroValue21
  t46:=Tryz.underlying152
  a46:=Tryz.isAgg152
  z46:=Tryz.sizeOf152
  v46:=Tryz.zeroValue152
  t105:=Tryz.underlying220
  a105:=Tryz.isAgg220
  z105:=Tryz.sizeOf220
  v105:=Tryz.zeroValue220
  t116:=Tryz.underlying199
  a116:=Tryz.isAgg199
  z116:=Tryz.sizeOf199
  t117:=Tryz.underlying200
  a117:=Tryz.isAgg200
  z117:=Tryz.sizeOf200
  v117:=Tryz.zeroValue200
  t119:=Tryz.underlying244
  a119:=Tryz.isAgg244
  z119:=Tryz.sizeOf244
  t124:=Tryz.underlying203
  a124:=Tryz.isAgg203
  z124:=Tryz.sizeOf203
  v124:=Tryz.zeroValue203
  t138:=Tryz.underlying246
  a138:=Tryz.isAgg246
  z138:=Tryz.sizeOf246
  v138:=Tryz.zeroValue246
  t139:=Tryz.underlying247
  a139:=Tryz.isAgg247
  z139:=Tryz.sizeOf247
  v139:=Tryz.zeroValue247
  g3:=aV
  g4:=by kernel_rfl}
theorem FH (lu:s.size≤maxLen) (akb:cs.size≤maxLen) (Gp:Sm cs):Calls aM 144 #[.string s,.string cs] w (ck fun v w'=>v=.string (CQ s cs)∧Ext w w'):=by
  have Nl:(aM.info? (yk.t 116)).map (fun i=>(i.zero,i.size))=some (some (.agg (Array.replicate 256 (.bool false))),256):=aV
  by_cases h0:s.size=0
  · refine(Go.Proofs.Any.strings_TrimLeft_empty Dm s cs w<|.inl h0).mono ?_
    rintro e w' ⟨rfl,rfl⟩
    unfold ck
    refine⟨_,J,?_,Ext.refl _⟩
    have hs:s.data.toList=[]:=by rw[←aqp,ap9];exact h0
    unfold CQ
    rw[hs]
    refine apj Value.string ?_
    cases s with|mk a=>exact apj ByteArray.mk (aq6 h0)
  · refine(Go.Proofs.Any.strings_TrimLeft_set Dm (zero_of_info Nl).1 (zero_of_info Nl).2 s cs w Gp.two aq Gp.low Gp.asc).mono ?_
    rintro e w' ⟨rfl,rfl⟩
    unfold ck
    exact⟨_,J,J,(Ext.alloc w _).trans (Ext.alloc _ _)⟩
theorem Rz (lu:s.size≤maxLen):Calls aM 77 #[.string s] w (ck fun v w'=>v=.bool (mF s)∧Ext w w'):=by
 refine dv 15 Tryz.func77 J J J qF fun f0 ha H=>?_
 have i0:f0 0=.string s:=ha 0 bm
 refine aD<|au (v:=.bool false) J J<|bz<|ak J i0<|k<|neS J J J J<|ak (v:=.bool (!decide (s=⟨#[]⟩))) J J ?_
 rcases bE (!decide (s=⟨#[]⟩)) with b0|b0
 ·
  have p0:=dF<|gf b0
  refine bl J J J b0<|mv J i0<|bl J J J b0<|wQ J J mL<|bl J J J b0<|leq J J J J<|k<|aQ J J J J b0 J<|ak (v:=.bool (decide ((s.size:Int)≤8))) J J ?_
  rcases bE (decide ((s.size:Int)≤8)) with b1|b1
  ·
   refine bl J J J b1<|mv J i0<|bl J J J b1 ?_
   have bT:=CS (s:=s) (cs:=⟨#[97,98,99,100,101,102,103,104,105,106,107,108,109,110,111,112,113,114,115,116,117,118,119,120,121,122]⟩) (w:=w) bu aw<|by exact OU
   refine ca ZC J (ec J<|ec J e0) bT ?_
   rintro _ w0 ⟨rfl,bY⟩
   have H0:=H.ext bY
   refine bl J J J b1<|ZI J J J J<|k<|aQ J J J J b1 J<|au (v:=.bool (decide (trimB s ⟨#[97,98,99,100,101,102,103,104,105,106,107,108,109,110,111,112,113,114,115,116,117,118,119,120,121,122]⟩=⟨#[]⟩))) J J<|av<|rt<|r1 J J ?_
   exact⟨apj Value.bool (by rw[F2];simp only[(gf b0),b1,BL]),H0.below⟩
  refine aZ J J J b1<|aZ J J J b1<|aZ J J J b1<|k<|cU J J J J b1 J<|au (v:=.bool false) J J<|av<|rt<|r1 J J ?_
  exact⟨apj Value.bool (by rw[F2];simp only[(gf b0),b1,BL]),H.below⟩
 have p0:=dT<|fu b0
 refine aZ J J J b0<|aZ J J J b0<|aZ J J J b0<|k<|cU J J J J b0 J<|ak (v:=.bool false) J J<|aZ J J J J<|aZ J J J J<|aZ J J J J<|k<|cU J J J J J J<|au (v:=.bool false) J J<|av<|rt<|r1 J J ?_
 exact⟨apj Value.bool (by rw[F2];simp only[(fu b0),BL]),H.below⟩
theorem ON {ow:Bool} {ov:aY} {on:Int} (aou:ov.size≤maxLen) (aov:aK on):Calls aM 76 #[.agg #[.bool ow,.string ov,C on]] w (ck fun v w'=>v=.bool (!(mF ov))∧Ext w w'):=by
 refine dv 7 Tryz.func76 J J J qF fun f0 ha H=>?_
 have i0:f0 0=.agg #[.bool ow,.string ov,C on]:=ha 0 bm
 refine aD<|k<|bx H J i0 ?_
 intro aX w0 bY (H0:HI (fun _=>False) w w0 [box aX #[.bool ow,.string ov,C on] 43])
 refine au (v:=.bool false) J J<|bz<|aU ny J J<|bq H0 0 J oG J J J<|k ?_
 have bT:=Rz (s:=ov) (w:=w0) bu
 refine ca akt J (ec J e0) bT ?_
 rintro _ w1 ⟨rfl,cS⟩
 have H1:=H0.ext cS
 refine k<|jr J J<|au (v:=.bool (!(mF ov))) J J<|av<|rt<|r1 J J ?_
 exact⟨apj Value.bool (show (!(mF ov))=(!(mF ov)) from rfl),H1.below⟩
theorem MT {r:List (Bool×aY×Int)} {p:(Bool×aY×Int)→Bool} (hM:eC M w) (qd:cz M w jW j8 r) (AX:FP aM qN qQ M w r p):Calls aM 113 #[R jW r j8,.func (.func qN) #[] qQ.toArray] w (ck fun v w'=>v=C (eM p r)∧Ext w w'):=by
 refine dv 19 Tryz.func113 J J J hM fun f0 ha H=>?_
 have H0:=dU H qd
 have WV:=bg qd
 have i0:f0 0=R jW r j8:=ha 0 bm
 have i1:f0 1=.func (.func qN) #[] qQ.toArray:=ha 1 bm
 refine aD<|au (v:=C 0) J J<|av<|sq<|aD<|ak J i0<|k<|dP J J oV<|ak (v:=C 0) J J<|av<|bk<|lp (fun m f w'=>∃(j:Nat),m=r.length-j∧f 0=R jW r j8∧f 1=.func (.func qN) #[] qQ.toArray∧f 7=C (r.length:Int)∧f 8=C (j:Int)∧HI M w w' [iL jW r j8]∧(j≤r.length)∧((r.take j).any p=false)) _ ⟨0,J,i0,i1,J,(bH J),H0,aq,bm⟩ ?_
 rintro _ f0 w0 ⟨j,rfl,s0,s1,s2,s3,H1,hk,hs⟩
 refine aD<|k<|lss J J s3 s2<|av<|sq<|cd (b:=decide ((j:Int)<(r.length:Int))) J J (fun b0=>?_)<|fun b0=>?_
 ·
  have p0:=dT b0
  refine sk<|nx<|sq<|bk<|aD<|ak J s3<|au (v:=C (j:Int)) J J<|bz<|ak J s1<|ak J s0<|ak (v:=C (j:Int)) J J<|k<|ia (H1.rv 0 J) J J J J aq oV iX ?_
  intro iy x0 aN cB
  refine k<|nI cB.w iX J J ?_
  intro v0 cm
  obtain⟨_,⟨_,_,rfl,rfl,⟨_,_,rfl,⟨rfl,dN⟩,⟨rfl,dH⟩⟩⟩,rfl⟩:=cm
  refine k<|cf AX.1 J J J (ec J e0) (AX.2 _ _ _ (by exact dO ‹_›) H1.below<|RV.lift (v:=.agg #[.bool x0.1,.string x0.2.1,C x0.2.2]) (x:=((x0.1,x0.2.1,x0.2.2):(Bool×aY×Int))) ⟨_,⟨_,_,J,J,⟨_,_,J,⟨J,aq⟩,⟨J,(show aK (x0.2.2) from aS)⟩⟩⟩,J⟩ H1.out) ?_
  rintro _ w1 ⟨rfl,bY⟩
  have H2:=H1.ext bY
  refine z<|nx<|cd (b:=p (x0.1,x0.2.1,x0.2.2)) J J (fun b1=>?_)<|fun b1=>?_
  ·
   refine aD<|ak (v:=C (j:Int)) J J<|au (v:=C (j:Int)) J J<|av<|rt<|bI<|aL<|du<|bI<|aL<|r1 J J ?_
   exact⟨apj (Value.int .i64) (by exact uT aN hs b1),H2.below⟩
  refine sk<|aH<|nx<|rg<|k<|add J J s3 J aS<|ak (v:=C ((j:Int)+1)) J J<|z<|bB _ ?_ ⟨(j+1),J,s0,s1,s2,(bH J),H2,aq,(by exact oF aN hs b1)⟩
  omega
 have p0:=dF b0
 refine ex<|aW<|ba<|bh<|cQ<|au (v:=C (-1)) J J<|av<|rt<|r1 J J ?_
 exact⟨apj (Value.int .i64) (by exact vI hs aq),H1.below⟩
theorem Ib {r:List (Bool×aY×Int)} {p:(Bool×aY×Int)→Bool} (hM:eC M w) (qd:cz M w jW j8 r) (AX:FP aM qN qQ M w r p):Calls aM 75 #[R jW r j8,.func (.func qN) #[] qQ.toArray] w (ck fun v w'=>v=.bool (r.any p)∧Ext w w'):=by
 refine dv 9 Tryz.func75 J J J hM fun f0 ha H=>?_
 have H0:=dU H qd
 have i0:f0 0=R jW r j8:=ha 0 bm
 have i1:f0 1=.func (.func qN) #[] qQ.toArray:=ha 1 bm
 refine aD<|au (v:=.bool false) J J<|bz<|ak J i0<|ak J i1<|k ?_
 have bT:=MT (r:=r) (p:=p) H0.mb (H0.rv 0 J)<|AX.sub H0.below VF
 refine ca ahf J (ec J<|ec J e0) bT ?_
 rintro _ w0 ⟨rfl,bY⟩
 have H1:=H0.ext bY
 refine k<|geq J J J J<|au (v:=.bool (decide (0≤(eM p r)))) J J<|av<|rt<|r1 J J ?_
 exact⟨apj Value.bool (by exact uU),H1.below⟩
set_option maxRecDepth 100000 in
set_option maxHeartbeats 1600000 in
def MK:Go.Shelf.Ren:=⟨fun|4=>146|n=>n,fun|22=>40|25=>43|3=>3|4=>4|9=>9|20=>20|0=>0|n=>n,fun|n=>n⟩
theorem ML:Go.Proofs.Lays8.n4 aM MK:={
  mixed:=aV
  f4:=⟨Tryz.f146.name,by decide,Tryz.func146.trans (apj some aV)⟩
  t0:=Tryz.underlying0
  a0:=Tryz.isAgg0
  z0:=Tryz.sizeOf0
  v0:=Tryz.zeroValue0
  t3:=Tryz.underlying3
  a3:=Tryz.isAgg3
  z3:=Tryz.sizeOf3
  v3:=Tryz.zeroValue3
  t4:=Tryz.underlying4
  a4:=Tryz.isAgg4
  z4:=Tryz.sizeOf4
  v4:=Tryz.zeroValue4
  t9:=Tryz.underlying9
  a9:=Tryz.isAgg9
  z9:=Tryz.sizeOf9
  v9:=Tryz.zeroValue9
  t20:=Tryz.underlying20
  a20:=Tryz.isAgg20
  z20:=Tryz.sizeOf20
  v20:=Tryz.zeroValue20
  t22:=Tryz.underlying40
  a22:=Tryz.isAgg40
  z22:=Tryz.sizeOf40
  v22:=Tryz.zeroValue40}
theorem abd {X':OA} {WM XR:Nat} {LP:Int} (hM:eC M w) (anK:aK LP) (Cm:X'=none∧WM=0∧XR=0) (an4:0≤LP∧LP≤1048576):Calls aM 146 #[.slice X' WM XR,C LP] w (ck fun v w'=>∃(a0:OA) (c0:Nat),v=.slice a0 ([]:List (Bool×aY×Int)).length c0∧Ext w w'∧bo M 43 w ([]:List (Bool×aY×Int)) (.slice a0 ([]:List (Bool×aY×Int)).length c0) w'):=by
  obtain⟨rfl,rfl,rfl⟩:=Cm
  obtain⟨m,rfl⟩:∃m:Nat,LP=((m:Nat):Int):=⟨LP.toNat,by omega⟩
  by_cases h0:m=0
  · subst h0
    refine(Go.Proofs.Any8.slices_Grow_room ML none 0 0 0 w aq aq aq aq).mono ?_
    rintro e w' ⟨rfl,rfl⟩
    unfold ck
    exact⟨_,J,none,0,J,Ext.refl _,fV (Ext.refl _)⟩
  · have ux:(aM.info? 43).map (fun i=>(i.size,i.bytes,i.zero))=some (3,32,some (.agg #[.bool false,.string ⟨#[]⟩,.int .i64 0])):=aV
    obtain⟨i0,Kg,tk⟩:=apN.1 ux
    simp only[ap8] at tk
    obtain⟨e1,e2,e3⟩:=tk
    refine(Go.Proofs.Any8.slices_Grow_grow ML i0 (.agg #[.bool false,.string ⟨#[]⟩,.int .i64 0]) Kg e3 aq none 0 0 m [] w aq aq (by rw[e2];omega) aq bm (fun _=>rfl)<|fun a h=>by cases h).mono ?_
    rintro e w' ⟨rfl,rfl⟩
    unfold ck
    exact⟨_,J,_,_,J,(Ext.drew w).trans (Ext.alloc _ _),Uw (z:=.agg #[.bool false,.string ⟨#[]⟩,.int .i64 0]) rfl aq⟩
theorem U7 (hM:eC M w) (oe:cz M w gZ gY h) (oD:h.flatten.length≤1048576):Calls aM 112 #[R gZ h gY] w (ck fun v w'=>∃(a0:OA) (c0:Nat),v=.slice a0 h.flatten.length c0∧Ext w w'∧bo M 43 w h.flatten (.slice a0 h.flatten.length c0) w'):=by
 refine dv 36 Tryz.func112 J J J hM fun f0 ha H=>?_
 have H0:=dU H oe
 have MH:=bg oe
 have i0:f0 0=R gZ h gY:=ha 0 bm
 refine aD<|au (v:=.slice none 0 0) J J<|bz<|au (v:=C 0) J J<|av<|sq<|aD<|ak J i0<|k<|dP J J uI<|ak (v:=C 0) J J<|av<|bk<|lp (fun m f w'=>∃(j_:Nat),m=h.length-j_∧f 0=R gZ h gY∧f 3=C ((((h.take j_).flatten).length:Nat):Int)∧f 9=R gZ h gY∧f 10=C (h.length:Int)∧f 11=C (j_:Int)∧HI M w w' [iL gZ h gY]∧(j_≤h.length)) _ ⟨0,J,i0,(bH J),J,J,(bH J),H0,aq⟩ ?_
 rintro _ f0 w0 ⟨j_,rfl,s0,s1,s2,s3,s4,H1,kb⟩
 refine aD<|k<|lss J J s4 s3<|av<|sq<|cd (b:=decide ((j_:Int)<(h.length:Int))) J J (fun b0=>?_)<|fun b0=>?_
 ·
  have p0:=dT b0
  refine sk<|nx<|sq<|bk<|aD<|k<|ia (H1.rv 0 J) J J s2 s4 aq uI uJ ?_
  intro iy x0 aN cB
  refine k<|wT cB.w uJ J J ?_
  intro a0 c0 cm
  have Cl:=bg cm
  have H2:=dU H1 cm
  refine au (v:=R a0 x0 c0) J J<|bz<|ak J s1<|ak (v:=R a0 x0 c0) J J<|k<|dP J J oV<|k<|add J J J J (by have h_:=u3 aN;unfold aK at *;omega)<|au (v:=C (((((h.take j_).flatten).length:Nat):Int)+(x0.length:Int))) J J<|bz<|ak (v:=C (((((h.take j_).flatten).length:Nat):Int)+(x0.length:Int))) J J<|k<|lss J J J J<|z<|nx ?_
  have Cj:(decide ((((((h.take j_).flatten).length:Nat):Int)+(x0.length:Int))<0))=false:=(by rw[apA];omega)
  refine nB J J Cj<|sk<|aH<|nx<|rg<|k<|add J J s4 J (by have h_:=u3 aN;unfold aK at *;omega)<|ak (v:=C ((j_:Int)+1)) J J<|z ?_
  have H3:HI M w w0 [iL gZ h gY]:=H2.bX [1] aw J
  refine bB _ ?_ ⟨(j_+1),J,s0,(ieq J<|by rw[vX aN,gj];omega),s2,s3,(bH J),H3,aq⟩
  omega
 have p0:=dF b0
 refine ex<|aW<|ba<|bh<|cQ<|ak J s1<|k ?_
 have bT:=abd (LP:=((((h.take j_).flatten).length:Nat):Int)) (X':=none) (WM:=0) (XR:=0) H1.mb (by have h_:=UG h j_;unfold aK at *;omega) (by exact⟨J,J,J⟩)<|by rw[l_ aq] at *;omega
 refine ca ag0 J (ec J<|ec J e0) bT ?_
 rintro _ w1 ⟨a0,c0,rfl,bY,cm⟩
 have H2:=H1.eU cm
 refine au (v:=R a0 ([]:List (Bool×aY×Int)) c0) J J<|av<|sq<|aD<|ak J s0<|k<|dP J J uI<|ak (v:=C 0) J J<|av<|bk<|lp (fun m f w'=>∃(i_:Nat) (iW:List (Bool×aY×Int)) (a1:OA) (c1:Nat),m=h.length-i_∧f 6=R a1 iW c1∧f 25=R gZ h gY∧f 26=C (h.length:Int)∧f 27=C (i_:Int)∧HI M w w' [oL w 43 a1 iW c1,iL gZ h gY]∧(i_≤h.length)∧(iW=(h.take i_).flatten)) _ ⟨0,([]:List (Bool×aY×Int)),a0,c0,J,J,J,J,(bH J),H2,aq,(by rfl)⟩ ?_
 rintro _ f1 w2 ⟨i_,iW,a1,c1,rfl,s5,s6,s7,s8,H3,kb,hs⟩
 refine aD<|k<|lss J J s8 s7<|av<|sq<|cd (b:=decide ((i_:Int)<(h.length:Int))) J J (fun b1=>?_)<|fun b1=>?_
 ·
  have p1:=dT b1
  refine sk<|nx<|sq<|bk<|aD<|k<|ia (H3.rv 1 J) J J s6 s8 aq uI uJ ?_
  intro iy x0 aN cB
  refine k<|wT cB.w uJ J J ?_
  intro a2 c2 dN
  have Cl:=bg dN
  have H4:=dU H3 dN
  refine au (v:=R a2 x0 c2) J J<|av<|rg<|ak J s5<|ak (v:=R a2 x0 c2) J J<|k<|l7 H4 1 J J J J J J (H4.rv 0 J).src oV iX J (by have h_:=u3 aN;rw[hs];omega) J ?_
  intro a3 c3 w3 (H5:HI M w w3 [iL a2 x0 c2,oL w 43 a3 (iW++x0) c3,iL gZ h gY])
  refine au (v:=R a3 (iW++x0) c3) J J<|z<|aH<|nx<|rg<|k<|add J J s8 J (by have h_:=u3 aN;unfold aK at *;omega)<|ak (v:=C ((i_:Int)+1)) J J<|z ?_
  have H6:HI M w w3 [oL w 43 a3 (iW++x0) c3,iL gZ h gY]:=H5.bX [1,2] aw J
  refine bB _ ?_ ⟨(i_+1),(iW++x0),a3,c3,J,J,s6,s7,(bH J),H6,aq,(by rw[hs,vX aN])⟩
  omega
 have p1:=dF b1
 refine ex<|aW<|ba<|bh<|cQ<|ak J s5<|au (v:=R a1 iW c1) J J<|av<|rt<|r1 J J ?_
 have e0:(iW:List (Bool×aY×Int))=h.flatten:=by rw[hs,l_ aq]
 have bt:=iD (fun (cb:List (Bool×aY×Int))=>(.slice a1 cb.length c1:Value)) e0
 exact⟨a1,c1,bt,H3.below,(apj (fun (x_:List (Bool×aY×Int))=>bo _ _ _ x_ (.slice a1 x_.length c1) _) e0).mp (H3.dx 0 J)⟩
theorem Ue (hM:eC M w) (oe:cz M w gZ gY h) (oD:h.flatten.length≤1048576):Calls aM 74 #[R gZ h gY] w (ck fun v w'=>∃(a0:OA) (c0:Nat),v=.slice a0 h.flatten.length c0∧Ext w w'∧bo M 43 w h.flatten (.slice a0 h.flatten.length c0) w'):=by
 refine dv 5 Tryz.func74 J J J hM fun f0 ha H=>?_
 have H0:=dU H oe
 have i0:f0 0=R gZ h gY:=ha 0 bm
 refine aD<|au (v:=.slice none 0 0) J J<|bz<|ak J i0<|k ?_
 have bT:=U7 (h:=h) H0.mb (H0.rv 0 J)<|by exact oD
 refine ca ahg J (ec J e0) bT ?_
 rintro _ w0 ⟨a0,c0,rfl,bY,cm⟩
 have H1:=H0.eU cm
 refine au (v:=R a0 h.flatten c0) J J<|av<|rt<|r1 J J ?_
 exact⟨a0,c0,J,H1.below,(H1.dx 0 J)⟩
theorem RA (hM:eC M w) (oe:cz M w gZ gY h) (oD:h.flatten.length≤1048576):Calls aM 51 #[R gZ h gY] w (ck fun v w'=>v=.bool (jG h)∧Ext w w'):=by
 refine dv 14 Tryz.func51 J J J hM fun f0 ha H=>?_
 have H0:=dU H oe
 have i0:f0 0=R gZ h gY:=ha 0 bm
 refine aD<|au (v:=.bool false) J J<|bz<|ak J i0<|k ?_
 have bT:=Ue (h:=h) H0.mb (H0.rv 0 J)<|by exact oD
 refine ca akw J (ec J e0) bT ?_
 rintro _ w0 ⟨a0,c0,rfl,bY,cm⟩
 have H1:=H0.eU cm
 refine au (v:=R a0 h.flatten c0) J J<|bz<|ak (v:=R a0 h.flatten c0) J J<|k<|dP J J oV<|k<|leq J J J J<|ak (v:=.bool (decide ((h.flatten.length:Int)≤4096))) J J ?_
 rcases bE (decide ((h.flatten.length:Int)≤4096)) with b0|b0
 ·
  refine bl J J J b0<|mv (v:=R a0 h.flatten c0) J J<|bl J J J b0 ?_
  have H2:=H1.freeze 0 J
  have df:=Ib (r:=h.flatten) (p:=(fun (x_:(Bool×aY×Int))=>(!(mF x_.2.1)))) H2.mb (H2.rv 0 J) ⟨aku,fun w_ v_ x_ pY e_ Hv=>by have H_:=H2.ext e_;obtain⟨_,⟨_,_,rfl,rfl,⟨_,_,rfl,⟨rfl,dN⟩,⟨rfl,dH⟩⟩⟩,rfl⟩:=Hv;exact ON dN dH⟩
  refine ca akv J (ec J<|ec J e0) df ?_
  rintro _ w1 ⟨rfl,cS⟩
  have H3:=H1.ext cS
  refine bl J J J b0<|jr J J<|k<|aQ J J J J b0 J<|au (v:=.bool (!(h.flatten.any<|fun (x_:(Bool×aY×Int))=>(!(mF x_.2.1))))) J J<|av<|rt<|r1 J J ?_
  exact⟨apj Value.bool (by rw[EV];simp only[b0,BL]),H3.below⟩
 refine aZ J J J b0<|aZ J J J b0<|aZ J J J b0<|k<|cU J J J J b0 J<|au (v:=.bool false) J J<|av<|rt<|r1 J J ?_
 exact⟨apj Value.bool (by rw[EV];simp only[b0,BL]),H1.below⟩
theorem akD:cD aM 51:=cE Tryz.func51
theorem adg:Sh aM 98:=YL (by kernel_rfl:aM.underlying 98=some (.map 9 3)) (W0 mL) aT rfl
theorem TY (hM:eC M w) (oe:cz M w gZ gY h) (oD:h.flatten.length≤1048576):Calls aM 26 #[R gZ h gY] w (ck fun v w'=>∃(a0:OA) (c0:Nat) (a1:OA) (c1:Nat) (a2:OA) (c2:Nat),v=.tuple #[.agg #[.slice a0 (mo h).length c0,.slice a1 (cX h).length c1,.slice a2 ([]:aE).length c2],C (lG h)]∧Ext w w'∧RV M w' (.slice a0 (mo h).length c0) (mo h)∧RV M w' (.slice a1 (cX h).length c1) (cX h)∧RV M w' (.slice a2 ([]:aE).length c2) ([]:aE)):=by
 refine dv 70 Tryz.func26 J J J hM fun f0 ha H=>?_
 let J0:=iL gZ h gY
 have H0:=H.put (it:=J0) J<|by rw[bQ];exact oe
 have MH:=bg oe
 have i0:f0 0=R gZ h gY:=ha 0 bm
 refine aD<|k<|al H0 dt ?_
 intro aX w0 bY (H1:HI M w w0 [box aX #[.slice none 0 0,.slice none 0 0,.slice none 0 0] 47,J0])
 let J1:=box aX #[.slice none 0 0,.slice none 0 0,.slice none 0 0] 47
 refine au (v:=C 0) J J<|av<|sq<|aD<|ak J i0<|k ?_
 have bT:=RA (h:=h) H1.mb (H1.rv 1 J)<|by exact oD
 refine ca akD J (ec J e0) bT ?_
 rintro _ w1 ⟨rfl,cS⟩
 have H2:=H1.ext cS
 refine k<|jr J J<|z<|nx<|cd (b:=!(jG h)) J J (fun b0=>?_)<|fun b0=>?_
 ·
  refine sq ?_
  have hq:jG h=false:=by simpa using b0
  refine rg<|k<|bd (v:=.agg #[.slice none 0 0,.slice none 0 0,.slice none 0 0]) J eA (fun _=>aV)<|k<|bA H2 0 J dt J J J J J J J ?_
  intro w2 (H3:HI M w w2 [J1,J0])
  refine au (v:=C 1) J J<|av<|rt<|aL<|iB H3 0 J dt J J J J J aw ?_
  have e0:([]:List aY)=mo h:=by exact(yh hq).1.symm
  have e1:([]:List aO)=cX h:=by exact(yh hq).2.1.symm
  have e3:(1:Int)=lG h:=by exact(yh hq).2.2.symm
  have bt:=rD (fun (cb:List aY) (dK:List aO) (lR:Int)=>(.tuple #[.agg #[.slice none cb.length 0,.slice none dK.length 0,.slice none ([]:aE).length 0],C lR]:Value)) e0 e1 e3
  exact⟨none,0,none,0,none,0,bt,H3.below,(apj (fun (x_:List aY)=>RV _ _ (.slice none x_.length 0) x_) e0).mp (ep _ _),(apj (fun (x_:List aO)=>RV _ _ (.slice none x_.length 0) x_) e1).mp (ep _ _),(ep _ _)⟩
 refine sk<|nx<|sq ?_
 have hq:jG h=true:=by simpa using b0
 refine rg<|k<|al H2 dt ?_
 let bf:=[J1,J0]
 intro bj w2 fm (H3:HI M w w2 (box bj #[.slice none 0 0,.slice none 0 0,.slice none 0 0] 47::bf))
 refine bz<|k<|mmS H3 ?_
 intro dQ w3 fg (H4:HI M w w3 [tS dQ ([]:List (aY×Int)),box bj #[.slice none 0 0,.slice none 0 0,.slice none 0 0] 47,J1,J0])
 refine au (v:=.map (some dQ)) J J<|av<|sq<|aD<|ak J i0<|k<|dP J J uI<|ak (v:=C 0) J J<|av<|bk ?_
 have H5:=H4.qZ aY 9
 have H6:=H5.qZ aO 95
 refine lp (fun m f w'=>∃(i:Nat) (vs:List aY) (aI:List aO) (j7:List (aY×Int)) (a0:OA) (c0:Nat) (a1:OA) (c1:Nat),m=h.length-i∧f 2=pV aX 0∧f 4=pV bj 0∧f 5=.map (some dQ)∧f 17=R gZ h gY∧f 18=C (h.length:Int)∧f 19=C (i:Int)∧HI M w w' [oL w 95 a1 aI c1,oL w 9 a0 vs c0,tS dQ j7,box bj #[R a0 vs c0,R a1 aI c1,.slice none 0 0] 47,J1,J0]∧(i≤h.length)∧(vs=(iN h i).1)∧(aI=(iN h i).2)∧(Cg vs j7)) _ ⟨0,([]:List aY),([]:List aO),([]:List (aY×Int)),none,0,none,0,J,J,J,J,J,J,(bH J),H6,aq,(by rfl),(by rfl),(by exact WR)⟩ ?_
 rintro _ f0 w4 ⟨i,vs,aI,j7,a0,c0,a1,c1,rfl,s0,s1,s2,s3,s4,s5,H7,Za,h1,h2,hm⟩
 refine aD<|k<|lss J J s5 s4<|av<|sq<|cd (b:=decide ((i:Int)<(h.length:Int))) J J (fun b1=>?_)<|fun b1=>?_
 ·
  have p1:=dT b1
  refine sk<|nx<|sq<|bk<|aD<|ak J s5<|k<|ia (H7.rv 5 J) J J s3 s5 aq uI uJ ?_
  intro iy x0 aN cB
  refine k<|wT cB.w uJ J J ?_
  intro a2 c2 cm
  have Cl:=bg cm
  let J2:=iL a2 x0 c2
  have H8:=H7.put (it:=J2) J cm
  refine au (v:=C (i:Int)) J J<|au (v:=R a2 x0 c2) J J<|bz<|ak (v:=R a2 x0 c2) J J<|k<|dP J J oV<|ak (v:=C 0) J J<|av<|bk<|lp (fun m f w'=>∃(q:Nat) (lT:List aY) (qB:List aO) (kS:List (aY×Int)) (a3:OA) (c3:Nat) (a4:OA) (c4:Nat),m=(h.getD i []).length-q∧f 2=pV aX 0∧f 4=pV bj 0∧f 5=.map (some dQ)∧f 6=C (i:Int)∧f 17=R gZ h gY∧f 18=C (h.length:Int)∧f 19=C (i:Int)∧f 24=R a2 x0 c2∧f 25=C (x0.length:Int)∧f 26=C (q:Int)∧HI M w w' [J2,oL w 95 a4 qB c4,oL w 9 a3 lT c3,tS dQ kS,box bj #[R a3 lT c3,R a4 qB c4,.slice none 0 0] 47,J1,J0]∧(q≤(h.getD i []).length)∧(lT=(jS i (iN h i) (h.getD i []) q).1)∧(qB=(jS i (iN h i) (h.getD i []) q).2)∧(Cg lT kS)) _ ⟨0,vs,aI,j7,a0,c0,a1,c1,J,s0,s1,s2,J,s3,s4,s5,J,J,(bH J),H8,aq,(by exact h1),(by exact h2),(by exact hm)⟩ ?_
  rintro _ f1 w5 ⟨q,lT,qB,kS,a3,c3,a4,c4,rfl,s6,s7,s8,s9,ei,eR,fM,fL,gv,gH,H9,hk,h1,h2,hm⟩
  refine aD<|k<|lss J J gH gv<|av<|sq<|cd (b:=decide ((q:Int)<(x0.length:Int))) J J (fun b2=>?_)<|fun b2=>?_
  ·
   have p2:=dT b2
   refine sk<|nx<|sq<|bk<|aD<|ak J gH<|k<|ia (H9.rv 0 J) J J fL gH aq oV iX ?_
   intro mV x1 cO gx
   refine k<|nI gx.w iX J J ?_
   intro v0 dN
   obtain⟨_,⟨_,_,rfl,rfl,⟨_,_,rfl,⟨rfl,dH⟩,⟨rfl,ft⟩⟩⟩,rfl⟩:=dN
   refine k<|al H9 iX ?_
   let J3:=oL w 95 a4 qB c4
   let J4:=oL w 9 a3 lT c3
   let J5:=box bj #[R a3 lT c3,R a4 qB c4,.slice none 0 0] 47
   let bZ:=J4::tS dQ kS::J5::bf
   intro bK w6 jl (dB:HI M w w6 (box bK #[.bool false,.string ⟨#[]⟩,C 0] 43::J2::J3::bZ))
   refine au (v:=C (q:Int)) J J<|k<|bA dB 0 J iX J J J J J J J ?_
   let J6:=box bK #[.bool x1.1,.string x1.2.1,C x1.2.2] 43
   intro w7 (cT:HI M w w7 (J6::J2::J3::bZ))
   refine bz<|ak J s8<|aU ny J J<|bq cT 0 J oG J J J<|k<|ajo (k:=x1.2.1) adg cT 4 J J J J J ?_
   intro iO
   refine ak (v:=.tuple #[C ((fT kS x1.2.1).getD 0),.bool ((fT kS x1.2.1).isSome)]) J J<|k<|xt J J J<|k<|xt J J J<|au (v:=C ((fT kS x1.2.1).getD 0)) J J<|au (v:=.bool ((fT kS x1.2.1).isSome)) J J<|av<|sq<|aD<|ak (v:=.bool ((fT kS x1.2.1).isSome)) J J<|k<|jr J J<|z<|nx<|cd (b:=!((fT kS x1.2.1).isSome)) J J (fun b3=>?_)<|fun b3=>?_
   ·
    refine aD<|aU vY J s7<|bq cT 5 J CO J J J<|k<|dP J J IF<|au (v:=C (lT.length:Int)) J J<|bz<|ak J s8<|aU ny J J<|bq cT 0 J oG J J J<|ak (v:=C (lT.length:Int)) J J<|k<|ajm (k:=x1.2.1) (v:=(lT.length:Int)) adg cT 4 J J J J J J J (by have h3:=qo (k:=q) aN aq;rw[←fD aN,←h1,←h2] at h3;unfold aK;omega) ?_
    let eh:=tS dQ (lV kS x1.2.1 (lT.length:Int))::J5::bf
    intro w8 (db:HI M w w8 (J6::J2::J3::J4::eh))
    refine av<|rg<|aU vY J s7<|bq db 5 J CO J J J<|aU ny J J<|bq db 0 J oG J J J<|k<|bs (xs:=([x1.2.1]:List aY)) (cells:=#[.string x1.2.1]) (e:=9) db J (ct J eA) (fun _=>aV) ⟨[.string x1.2.1],[],J,⟨J,bu⟩,J⟩ J aw ?_
    intro g0 w9 je dq
    refine k<|l7 dq 4 J J J J J J (hG<|dq.at_ 0 J) IF oG J (by have h_:=qo (k:=q) aN aq;rw[←fD aN,←h1,←h2] at h_;simp only[jb,gC];omega) J ?_
    let J7:=own w.heap.size 9 (.slice (some ⟨g0,0,none⟩) 1 1) ([x1.2.1]:List aY)
    intro a5 c5 dL (cM:HI M w dL (J7::J6::J2::J3::oL w 9 a5 (lT++([x1.2.1]:List aY)) c5::eh))
    let J8:=oL w 9 a5 (lT++([x1.2.1]:List aY)) c5
    refine aU vY J s7<|k<|bA cM 6 J CO J J J J J J J ?_
    let J9:=box bj #[R a5 (lT++([x1.2.1]:List aY)) c5,R a4 qB c4,.slice none 0 0] 47
    let jz:=J8::tS dQ (lV kS x1.2.1 (lT.length:Int))::J9::bf
    intro ew (dR:HI M w ew (J7::J6::J2::J3::jz))
    refine av<|rg<|aU eX J s7<|bq dR 6 J ir J J J<|ak J s9<|ak (v:=C (q:Int)) J J<|aU qf J J<|bq dR 1 J n5 J J J<|ak (v:=C (lT.length:Int)) J J<|aU rA J J<|bq dR 1 J aT J J J<|k<|bd (v:=.agg #[C (i:Int),C (q:Int),.bool x1.1,C (lT.length:Int),C x1.2.2]) J (ct J<|ct J<|ct J<|ct J<|ct J eA) (fun _=>aV)<|k<|bs (xs:=([((i:Int),(q:Int),x1.1,(lT.length:Int),x1.2.2)]:List aO)) (cells:=#[C (i:Int),C (q:Int),.bool x1.1,C (lT.length:Int),C x1.2.2]) (e:=95) dR J (ct J eA) (fun _=>aV) ⟨[C (i:Int),C (q:Int),.bool x1.1,C (lT.length:Int),C x1.2.2],[],J,⟨_,_,J,⟨J,(show aK ((i:Int)) from aS)⟩,⟨_,_,J,⟨J,(show aK ((q:Int)) from aS)⟩,⟨_,_,J,J,⟨_,_,J,⟨J,(show aK ((lT.length:Int)) from(by have h3:=qo (k:=q) aN aq;rw[←fD aN,←h1,←h2] at h3;unfold aK;omega))⟩,⟨J,(show aK (x1.2.2) from bu)⟩⟩⟩⟩⟩,J⟩ J aw ?_
    intro g1 fq jE dI
    refine k<|l7 dI 4 J J J J J J (hG<|dI.at_ 0 J) iK jd J (by have h_:=qo (k:=q) aN aq;rw[←fD aN,←h1,←h2] at h_;simp only[jb,gC];omega) J ?_
    let d_:=own w.heap.size 95 (.slice (some ⟨g1,0,none⟩) 1 1) ([((i:Int),(q:Int),x1.1,(lT.length:Int),x1.2.2)]:List aO)
    intro a6 c6 iF (cR:HI M w iF (d_::J7::J6::J2::oL w 95 a6 (qB++([((i:Int),(q:Int),x1.1,(lT.length:Int),x1.2.2)]:List aO)) c6::jz))
    let eJ:=oL w 95 a6 (qB++([((i:Int),(q:Int),x1.1,(lT.length:Int),x1.2.2)]:List aO)) c6
    refine aU eX J s7<|k<|bA cR 7 J ir J J J J J J J ?_
    let fZ:=box bj #[R a5 (lT++([x1.2.1]:List aY)) c5,R a6 (qB++([((i:Int),(q:Int),x1.1,(lT.length:Int),x1.2.2)]:List aO)) c6,.slice none 0 0] 47
    let fQ:=J2::eJ::J8::tS dQ (lV kS x1.2.1 (lT.length:Int))::fZ::bf
    intro jF (dX:HI M w jF (d_::J7::J6::fQ))
    refine z<|aH<|nx<|rg<|k<|add J J gH J aS<|ak (v:=C ((q:Int)+1)) J J<|z ?_
    have dV:HI M w jF fQ:=dX.bX [3,4,5,6,7,8,9] aw J
    refine bB _ ?_ ⟨(q+1),(lT++([x1.2.1]:List aY)),(qB++([((i:Int),(q:Int),x1.1,(lT.length:Int),x1.2.2)]:List aO)),(lV kS x1.2.1 (lT.length:Int)),a5,c5,a6,c6,J,s6,s7,s8,s9,ei,eR,fM,fL,gv,(bH J),dV,(by rw[fD aN] at *;omega),(by exact(PN h1 h2 hm aN cO<|gf b3).1),(by exact(PN h1 h2 hm aN cO<|gf b3).2),(by exact WQ hm (gf b3))⟩
    rw[fD aN] at *;omega
   refine sk<|nx<|rg<|aU eX J s7<|bq cT 5 J ir J J J<|ak J s9<|ak (v:=C (q:Int)) J J<|aU qf J J<|bq cT 0 J n5 J J J<|ak (v:=C ((fT kS x1.2.1).getD 0)) J J<|aU rA J J<|bq cT 0 J aT J J J<|k<|bd (v:=.agg #[C (i:Int),C (q:Int),.bool x1.1,C ((fT kS x1.2.1).getD 0),C x1.2.2]) J (ct J<|ct J<|ct J<|ct J<|ct J eA) (fun _=>aV)<|k<|bs (xs:=([((i:Int),(q:Int),x1.1,(fT kS x1.2.1).getD 0,x1.2.2)]:List aO)) (cells:=#[C (i:Int),C (q:Int),.bool x1.1,C ((fT kS x1.2.1).getD 0),C x1.2.2]) (e:=95) cT J (ct J eA) (fun _=>aV) ⟨[C (i:Int),C (q:Int),.bool x1.1,C ((fT kS x1.2.1).getD 0),C x1.2.2],[],J,⟨_,_,J,⟨J,(show aK ((i:Int)) from aS)⟩,⟨_,_,J,⟨J,(show aK ((q:Int)) from aS)⟩,⟨_,_,J,J,⟨_,_,J,⟨J,(show aK ((fT kS x1.2.1).getD 0) from bu)⟩,⟨J,(show aK (x1.2.2) from bu)⟩⟩⟩⟩⟩,J⟩ J aw ?_
   intro g0 w8 je db
   refine k<|l7 db 3 J J J J J J (hG<|db.at_ 0 J) iK jd J (by have h_:=qo (k:=q) aN aq;rw[←fD aN,←h1,←h2] at h_;simp only[jb,gC];omega) J ?_
   let fI:=own w.heap.size 95 (.slice (some ⟨g0,0,none⟩) 1 1) ([((i:Int),(q:Int),x1.1,(fT kS x1.2.1).getD 0,x1.2.2)]:List aO)
   intro a5 c5 w9 (dq:HI M w w9 (fI::J6::J2::oL w 95 a5 (qB++([((i:Int),(q:Int),x1.1,(fT kS x1.2.1).getD 0,x1.2.2)]:List aO)) c5::bZ))
   let iz:=oL w 95 a5 (qB++([((i:Int),(q:Int),x1.1,(fT kS x1.2.1).getD 0,x1.2.2)]:List aO)) c5
   refine aU eX J s7<|k<|bA dq 6 J ir J J J J J J J ?_
   let nP:=box bj #[R a3 lT c3,R a5 (qB++([((i:Int),(q:Int),x1.1,(fT kS x1.2.1).getD 0,x1.2.2)]:List aO)) c5,.slice none 0 0] 47
   let lJ:=J2::iz::J4::tS dQ kS::nP::bf
   intro dL (cM:HI M w dL (fI::J6::lJ))
   refine z<|aH<|nx<|rg<|k<|add J J gH J aS<|ak (v:=C ((q:Int)+1)) J J<|z ?_
   have dR:HI M w dL lJ:=cM.bX [2,3,4,5,6,7,8] aw J
   refine bB _ ?_ ⟨(q+1),lT,(qB++([((i:Int),(q:Int),x1.1,(fT kS x1.2.1).getD 0,x1.2.2)]:List aO)),kS,a3,c3,a5,c5,J,s6,s7,s8,s9,ei,eR,fM,fL,gv,(bH J),dR,(by rw[fD aN] at *;omega),(by exact(PM h1 h2 hm aN cO<|fu b3).1),(by exact(PM h1 h2 hm aN cO<|fu b3).2),(by exact hm)⟩
   rw[fD aN] at *;omega
  have p2:=dF b2
  refine ex<|aW<|ba<|bh<|aH<|nx<|rg<|k<|add J J fM J aS<|ak (v:=C ((i:Int)+1)) J J<|z ?_
  have dB:HI M w w5 [oL w 95 a4 qB c4,oL w 9 a3 lT c3,tS dQ kS,box bj #[R a3 lT c3,R a4 qB c4,.slice none 0 0] 47,J1,J0]:=H9.bX [1,2,3,4,5,6] aw J
  refine bB _ ?_ ⟨(i+1),lT,qB,kS,a3,c3,a4,c4,J,s6,s7,s8,ei,eR,(bH J),dB,aq,(by rw[h1,Cb aq (by rw[fD aN];omega)]),(by rw[h2,Cb aq (by rw[fD aN];omega)]),(by exact hm)⟩
  omega
 have p1:=dF b1
 refine ex<|aW<|ba<|bh<|cQ<|k<|cC H7 3 J dt J s1 aw J<|k<|bA H7 4 J dt J J s0 J J J J ?_
 intro w5 (H8:HI M w w5 [oL w 95 a1 aI c1,oL w 9 a0 vs c0,tS dQ j7,box bj #[R a0 vs c0,R a1 aI c1,.slice none 0 0] 47,box aX #[R a0 vs c0,R a1 aI c1,.slice none 0 0] 47,J0])
 refine au (v:=C 0) J J<|av<|rt<|iB H8 4 J dt J J J s0 J aw ?_
 have e0:(vs:List aY)=mo h:=by rw[(tP hq).1,h1];unfold zA;rw[show i=h.length from by omega]
 have e1:(aI:List aO)=cX h:=by rw[(tP hq).2.1,h2];unfold eY;rw[show i=h.length from by omega]
 have e3:(0:Int)=lG h:=by exact(tP hq).2.2.symm
 have bt:=rD (fun (cb:List aY) (dK:List aO) (lR:Int)=>(.tuple #[.agg #[.slice a0 cb.length c0,.slice a1 dK.length c1,.slice none ([]:aE).length 0],C lR]:Value)) e0 e1 e3
 exact⟨a0,c0,a1,c1,none,0,bt,H8.below,(apj (fun (x_:List aY)=>RV _ _ (.slice a0 x_.length c0) x_) e0).mp (H8.mD 1 J),(apj (fun (x_:List aO)=>RV _ _ (.slice a1 x_.length c1) x_) e1).mp (H8.mD 0 J),(ep _ _)⟩
theorem lb:ez aM 35 19 true 216 (.agg #[.int .i64 0,.int .i64 0,.int .i64 0,.int .i64 0,.int .i64 0,.bool false,.int .i64 0,.int .i64 0,.slice none 0 0,.slice none 0 0,.slice none 0 0,.int .i64 0,.int .i64 0,.int .i64 0,.int .i64 0,.int .i64 0,.slice none 0 0,.int .i64 0,.int .i64 0]):=⟨aV,aV⟩
theorem akU:cD aM 26:=cE Tryz.func26
theorem ae2:cD aM 21:=cE Tryz.func21
theorem akT:cD aM 27:=cE Tryz.func27
theorem akS:cD aM 28:=cE Tryz.func28
theorem akR:cD aM 29:=cE Tryz.func29
theorem akQ:cD aM 30:=cE Tryz.func30
theorem sC (hM:eC M w) (hT:fY 0 w) (oe:cz M w gZ gY h) (pO:aK lv) (oD:h.flatten.length≤1048576) (anB:h.flatten.length≤64):Calls aM 15 #[R gZ h gY,C lv] w (ck fun v w'=>∃(lc_:Int) (nc_:Int) (Tb:List (List bw)) (VC:aE) (Tc:List aE) (jm:List cP) (fw_:Int) (nw_:Int) (a0:OA) (c0:Nat) (a1:OA) (c1:Nat) (a2:OA) (c2:Nat) (a3:OA) (c3:Nat),v=.agg #[C (pz h lv),C 0,C ((mQ h lv).1),C ((mQ h lv).2),C (tU h lv),.bool (pA h lv),C lc_,C nc_,R a0 Tb c0,R a1 VC c1,R a2 Tc c2,C ((gW h lv).1),C ((gW h lv).2.1),C ((gW h lv).2.2.1),C ((gW h lv).2.2.2.1),C ((gW h lv).2.2.2.2),R a3 jm c3,C fw_,C nw_]∧Ext w w'∧cz M w' a0 c0 Tb∧cz M w' a1 c1 VC∧cz M w' a2 c2 Tc∧cz M w' a3 c3 jm):=by
 refine dv 64 Tryz.func15 J J J hM fun f0 ha H=>?_
 let J0:=iL gZ h gY
 have H0:=H.put (it:=J0) J<|by rw[bQ];exact oe
 have i0:f0 0=R gZ h gY:=ha 0 bm
 have i1:f0 1=C lv:=ha 1 bm
 have an_:=Pw h
 refine aD<|k<|al H0 lb ?_
 intro aX w0 bY (H1:HI M w w0 [box aX #[C 0,C 0,C 0,C 0,C 0,.bool false,C 0,C 0,.slice none 0 0,.slice none 0 0,.slice none 0 0,C 0,C 0,C 0,C 0,C 0,.slice none 0 0,C 0,C 0] 35,J0])
 let J1:=box aX #[C 0,C 0,C 0,C 0,C 0,.bool false,C 0,C 0,.slice none 0 0,.slice none 0 0,.slice none 0 0,C 0,C 0,C 0,C 0,C 0,.slice none 0 0,C 0,C 0] 35
 refine bz<|ak J i0<|k ?_
 have bT:=TY (h:=h) H1.mb (H1.rv 1 J)<|by exact oD
 refine ca akU J (ec J e0) bT ?_
 rintro _ w1 ⟨a0,c0,a1,c1,a2,c2,rfl,cS,cm,dN,dH⟩
 have H2:=H1.ext cS
 let J2:=iL a0 (mo h) c0
 have H3:=H2.put (it:=J2) J cm
 let J3:=iL a1 (cX h) c1
 have H4:=H3.put (it:=J3) J<|by rw[aG J];exact dN
 let J4:=iL a2 ([]:aE) c2
 have H5:=H4.put (it:=J4) J<|by rw[aG rfl,aG rfl];exact dH
 refine ak (v:=.tuple #[.agg #[R a0 (mo h) c0,R a1 (cX h) c1,R a2 ([]:aE) c2],C (lG h)]) J J<|k<|xt J J J<|k<|xt J J J<|k<|al H5 dt ?_
 let bf:=[J4,J3,J2,J1,J0]
 intro bj w2 fm (H6:HI M w w2 (box bj #[.slice none 0 0,.slice none 0 0,.slice none 0 0] 47::bf))
 refine k<|bA H6 0 J dt J J J J J J J ?_
 let J5:=box bj #[R a0 (mo h) c0,R a1 (cX h) c1,R a2 ([]:aE) c2] 47
 intro w3 (H7:HI M w w3 (J5::bf))
 refine au (v:=C (lG h)) J J<|av<|sq<|sq ?_
 have aod:decide (0<(((eb lv).length:Nat):Int))=tc lv:=rfl
 refine rg<|ak (v:=C (lG h)) J J<|k<|neq J J J J<|ak (v:=.bool (!decide ((lG h)=0))) J J ?_
 rcases bE (!decide ((lG h)=0)) with b0|b0
 ·
  have p0:=dF<|gf b0
  refine aZ J J J b0<|aZ J J J b0<|aZ J J J b0<|k<|aQ J J J J b0 J<|av<|pk J J J<|sq ?_
  obtain⟨rm,nU⟩:=T6 (h:=h) (lv:=lv) (by exact .inl (gf ‹(!decide (lG h=0))=true›))
  obtain⟨tY,r7,gU⟩:=Rt rm aw
  refine rg<|k<|bd (v:=.agg #[C 1,C 0,C 0,C 0,C 0,.bool false,C 0,C 0,.slice none 0 0,.slice none 0 0,.slice none 0 0,C 0,C 0,C 0,C 0,C 0,.slice none 0 0,C 0,C 0]) J (ct J eA) (fun _=>aV)<|k<|bA H7 4 J lb J J J J J J J ?_
  intro w4 (H8:HI M w w4 [J5,J4,J3,J2,box aX #[C 1,C 0,C 0,C 0,C 0,.bool false,C 0,C 0,.slice none 0 0,.slice none 0 0,.slice none 0 0,C 0,C 0,C 0,C 0,C 0,.slice none 0 0,C 0,C 0] 35,J0])
  refine av<|rt<|aL<|py H8 4 J lb J J J J aw ?_
  have e0:(1:Int)=pz h lv:=by rw[rm]
  have e2:(0:Int)=(mQ h lv).1:=by rw[nU]
  have e3:(0:Int)=(mQ h lv).2:=by rw[nU]
  have e4:(0:Int)=tU h lv:=by rw[tY]
  have e5:(false:Bool)=pA h lv:=by exact r7.symm
  have su:(0:Int)=(gW h lv).1:=by rw[gU]
  have tp:(0:Int)=(gW h lv).2.1:=by rw[gU]
  have sr:(0:Int)=(gW h lv).2.2.1:=by rw[gU]
  have uc:(0:Int)=(gW h lv).2.2.2.1:=by rw[gU]
  have ub:(0:Int)=(gW h lv).2.2.2.2:=by rw[gU]
  have bt:=NI (fun (cb:Int) (gF:Int) (lR:Int) (xM:Int) (xL:Bool) (sI:Int) (sH:Int) (sG:Int) (sF:Int) (sE:Int)=>(.agg #[C cb,C 0,C gF,C lR,C xM,.bool xL,C 0,C 0,.slice none ([]:List (List bw)).length 0,.slice none ([]:aE).length 0,.slice none ([]:List aE).length 0,C sI,C sH,C sG,C sF,C sE,.slice none ([]:List cP).length 0,C 0,C 0]:Value)) e0 e2 e3 e4 e5 su tp sr uc ub
  exact⟨0,0,([]:List (List bw)),([]:aE),([]:List aE),([]:List cP),0,0,none,0,none,0,none,0,none,0,bt,H8.below,(ep _ _),(ep _ _),(ep _ _),(ep _ _)⟩
 have p0:=dT<|fu b0
 refine bl J J J b0<|mv J i1<|bl J J J b0 ?_
 have df:=Fl (lv:=lv) (w:=w3) pO
 refine ca ae2 J (ec J e0) df ?_
 rintro _ w4 ⟨rfl,fg⟩
 have H8:=H7.ext fg
 refine bl J J J b0<|jr J J<|k<|cU J J J J b0 J<|z<|nx<|cd (b:=!(decide (0<(((eb lv).length:Nat):Int)))) J J (fun b1=>?_)<|fun b1=>?_
 ·
  have p1:=dF<|gf b1
  refine sq ?_
  obtain⟨rm,nU⟩:=T6 (h:=h) (lv:=lv) (by exact .inr (gf ‹(!decide (0<(((eb lv).length:Nat):Int)))=true›))
  obtain⟨tY,r7,gU⟩:=Rt rm aw
  refine rg<|k<|bd (v:=.agg #[C 1,C 0,C 0,C 0,C 0,.bool false,C 0,C 0,.slice none 0 0,.slice none 0 0,.slice none 0 0,C 0,C 0,C 0,C 0,C 0,.slice none 0 0,C 0,C 0]) J (ct J eA) (fun _=>aV)<|k<|bA H8 4 J lb J J J J J J J ?_
  intro w5 (H9:HI M w w5 [J5,J4,J3,J2,box aX #[C 1,C 0,C 0,C 0,C 0,.bool false,C 0,C 0,.slice none 0 0,.slice none 0 0,.slice none 0 0,C 0,C 0,C 0,C 0,C 0,.slice none 0 0,C 0,C 0] 35,J0])
  refine av<|rt<|aL<|py H9 4 J lb J J J J aw ?_
  have e0:(1:Int)=pz h lv:=by rw[rm]
  have e2:(0:Int)=(mQ h lv).1:=by rw[nU]
  have e3:(0:Int)=(mQ h lv).2:=by rw[nU]
  have e4:(0:Int)=tU h lv:=by rw[tY]
  have e5:(false:Bool)=pA h lv:=by exact r7.symm
  have su:(0:Int)=(gW h lv).1:=by rw[gU]
  have tp:(0:Int)=(gW h lv).2.1:=by rw[gU]
  have sr:(0:Int)=(gW h lv).2.2.1:=by rw[gU]
  have uc:(0:Int)=(gW h lv).2.2.2.1:=by rw[gU]
  have ub:(0:Int)=(gW h lv).2.2.2.2:=by rw[gU]
  have bt:=NI (fun (cb:Int) (gF:Int) (lR:Int) (xM:Int) (xL:Bool) (sI:Int) (sH:Int) (sG:Int) (sF:Int) (sE:Int)=>(.agg #[C cb,C 0,C gF,C lR,C xM,.bool xL,C 0,C 0,.slice none ([]:List (List bw)).length 0,.slice none ([]:aE).length 0,.slice none ([]:List aE).length 0,C sI,C sH,C sG,C sF,C sE,.slice none ([]:List cP).length 0,C 0,C 0]:Value)) e0 e2 e3 e4 e5 su tp sr uc ub
  exact⟨0,0,([]:List (List bw)),([]:aE),([]:List aE),([]:List cP),0,0,none,0,none,0,none,0,none,0,bt,H9.below,(ep _ _),(ep _ _),(ep _ _),(ep _ _)⟩
 have p1:=dT<|fu b1
 refine sk<|nx<|sq<|aD<|k<|cC H8 0 J dt J J aw J<|k ?_
 have fF:=NB (I:=(cX h)) (aC:=a0) (aF:=(mo h).length) (aB:=c0) (ay:=a2) (dY:=([]:aE).length) (ax:=c2) H8.mb<|H8.rv 2 J
 refine ca akT J (ec J e0) fF ?_
 rintro _ w5 ⟨rfl,jl⟩
 have H9:=H8.ext jl
 refine ak (v:=.tuple #[C ((dC<|cX h).1),C ((dC<|cX h).2.1),C ((dC<|cX h).2.2)]) J J<|k<|xt J J J<|k<|xt J J J<|k<|xt J J J<|au (v:=C ((dC<|cX h).1)) J J<|au (v:=C ((dC<|cX h).2.1)) J J<|au (v:=C ((dC<|cX h).2.2)) J J<|bz<|ak (v:=C ((dC<|cX h).2.2)) J J<|k<|neq J J J J<|z<|nx<|cd (b:=!decide (((dC<|cX h).2.2)=0)) J J (fun b2=>?_)<|fun b2=>?_
 ·
  have p2:=dF<|gf b2
  refine sq ?_
  have W_:lG h=0:=dT<|fu ‹(!decide (lG h=0))=false›
  have M7:tc lv=true:=fu ‹(!decide (0<(((eb lv).length:Nat):Int)))=false›
  obtain⟨rm,nU⟩:=adL W_ M7
  obtain⟨tY,r7,gU⟩:=Rt rm (dF (gf ‹(!decide ((dC (cX h)).2.2=0))=true›))
  refine rg<|ak (v:=C ((dC<|cX h).2.2)) J J<|ak (v:=C ((dC<|cX h).1)) J J<|ak (v:=C ((dC<|cX h).2.1)) J J<|k<|bd (v:=.agg #[C ((dC<|cX h).2.2),C 0,C ((dC<|cX h).1),C ((dC<|cX h).2.1),C 0,.bool false,C 0,C 0,.slice none 0 0,.slice none 0 0,.slice none 0 0,C 0,C 0,C 0,C 0,C 0,.slice none 0 0,C 0,C 0]) J (ct J<|ct J<|ct J eA) (fun _=>aV)<|k<|bA H9 4 J lb J J J J J J J ?_
  intro w6 (dB:HI M w w6 [J5,J4,J3,J2,box aX #[C ((dC (cX h)).2.2),C 0,C ((dC (cX h)).1),C ((dC (cX h)).2.1),C 0,.bool false,C 0,C 0,.slice none 0 0,.slice none 0 0,.slice none 0 0,C 0,C 0,C 0,C 0,C 0,.slice none 0 0,C 0,C 0] 35,J0])
  refine av<|rt<|aL<|py dB 4 J lb J J J J aw ?_
  have e0:((dC (cX h)).2.2:Int)=pz h lv:=by rw[rm]
  have e2:((dC (cX h)).1:Int)=(mQ h lv).1:=by rw[nU]
  have e3:((dC (cX h)).2.1:Int)=(mQ h lv).2:=by rw[nU]
  have e4:(0:Int)=tU h lv:=by rw[tY]
  have e5:(false:Bool)=pA h lv:=by exact r7.symm
  have su:(0:Int)=(gW h lv).1:=by rw[gU]
  have tp:(0:Int)=(gW h lv).2.1:=by rw[gU]
  have sr:(0:Int)=(gW h lv).2.2.1:=by rw[gU]
  have uc:(0:Int)=(gW h lv).2.2.2.1:=by rw[gU]
  have ub:(0:Int)=(gW h lv).2.2.2.2:=by rw[gU]
  have bt:=NI (fun (cb:Int) (gF:Int) (lR:Int) (xM:Int) (xL:Bool) (sI:Int) (sH:Int) (sG:Int) (sF:Int) (sE:Int)=>(.agg #[C cb,C 0,C gF,C lR,C xM,.bool xL,C 0,C 0,.slice none ([]:List (List bw)).length 0,.slice none ([]:aE).length 0,.slice none ([]:List aE).length 0,C sI,C sH,C sG,C sF,C sE,.slice none ([]:List cP).length 0,C 0,C 0]:Value)) e0 e2 e3 e4 e5 su tp sr uc ub
  exact⟨0,0,([]:List (List bw)),([]:aE),([]:List aE),([]:List cP),0,0,none,0,none,0,none,0,none,0,bt,dB.below,(ep _ _),(ep _ _),(ep _ _),(ep _ _)⟩
 have p2:=dT<|fu b2
 refine sk<|nx<|sq ?_
 have W_:lG h=0:=dT<|fu ‹(!decide (lG h=0))=false›
 have M7:tc lv=true:=fu ‹(!decide (0<(((eb lv).length:Nat):Int)))=false›
 have Xg:(dC (cX h)).2.2=0:=dT<|fu ‹(!decide ((dC<|cX h).2.2=0))=false›
 obtain⟨rm,nU,tY,r7,gU⟩:=Y1 W_ M7 Xg
 have DI:=UA<|cX h
 refine rg<|k<|cC H9 0 J dt J J aw J<|k ?_
 have fc:=OI (fv:=(mo h)) (I:=(cX h)) (U:=([]:aE)) H9.mb (H9.rv 3 J) (H9.rv 2 J) (H9.rv 1 J) aq
 refine ca akS J (ec J e0) fc ?_
 rintro _ w6 ⟨a3,c3,a4,c4,a5,c5,rfl,je,ft,iO,jK⟩
 have dB:=H9.ext je
 let J6:=iL a3 (mo h) c3
 have cT:=dB.put (it:=J6) J ft
 let J7:=iL a4 (cX h) c4
 have db:=cT.put (it:=J7) J<|by rw[aG J];exact iO
 let J8:=iL a5 (gQ (cX h)) c5
 have dq:=db.put (it:=J8) J<|by rw[aG rfl,aG rfl];exact jK
 refine k<|bA dq 3 J dt J J J J J J J ?_
 let J9:=box bj #[R a3 (mo h) c3,R a4 (cX h) c4,R a5 (gQ (cX h)) c5] 47
 let bZ:=J8::J7::J6::J9::bf
 intro w7 (cM:HI M w w7 bZ)
 refine av<|sq<|aD<|k<|cC cM 3 J dt J J aw J<|ak J i1<|k ?_
 have my:=Q6 (I:=(cX h)) (U:=(gQ<|cX h)) (lv:=lv) (aC:=a3) (aF:=(mo h).length) (aB:=c3) cM.mb (hT.ext cM.below) (cM.rv 1 J) (cM.rv 0 J) pO (by exact Pv h) aq (by exact DI) (by exact Ns Xg)<|by exact YM M7
 refine ca akR J (ec J<|ec J e0) my ?_
 rintro _ w8 ⟨o0,o1,o2,o3,o4,o5,o6,o7,a6,c6,rfl,jE,i',q0⟩
 have dR:=cM.ext jE
 let d_:=iL a6 o5 c6
 have dI:=dR.put (it:=d_) J i'
 refine ak (v:=.tuple #[.agg #[C o0,C o1,C o2,C o3,C o4,R a6 o5 c6,C o6,C o7],C (fh (cX h) (gQ<|cX h) lv)]) J J<|k<|xt J J J<|k<|xt J J J<|k<|al dI bV ?_
 intro bK w9 lk (cR:HI M w w9 (box bK #[C 0,C 0,C 0,C 0,C 0,.slice none 0 0,C 0,C 0] 33::d_::bZ))
 refine k<|bA cR 0 J bV J J J J J J J ?_
 let eJ:=box bK #[C o0,C o1,C o2,C o3,C o4,R a6 o5 c6,C o6,C o7] 33
 intro dL (dX:HI M w dL (eJ::d_::bZ))
 refine au (v:=C (fh (cX h) (gQ<|cX h) lv)) J J<|bz<|ak (v:=C (fh (cX h) (gQ<|cX h) lv)) J J<|k<|eql J J J J<|z<|nx<|cd (b:=decide ((fh (cX h) (gQ<|cX h) lv)=0)) J J (fun b3=>?_)<|fun b3=>?_
 ·
  refine sq ?_
  rw[apt (dT ‹decide (fh (cX h) (gQ (cX h)) lv=0)=true›)] at r7;rw[ab4 q0 (dT ‹decide (fh (cX h) (gQ (cX h)) lv=0)=true›)] at gU
  refine rg<|ak J i1<|k<|cC dX 0 J bV J J aw J<|k<|bd (v:=.agg #[C 0,C 0,C 0,C 0,C lv,.bool false,C 0,C 0,.slice none 0 0,.slice none 0 0,.slice none 0 0,C o0,C o1,C o2,C o3,C o4,R a6 o5 c6,C o6,C o7]) J (ct J<|ct J eA) (fun _=>aV)<|k<|bA dX 9 J lb J J J J J J J ?_
  intro ew (dV:HI M w ew [eJ,d_,J8,J7,J6,J9,J4,J3,J2,box aX #[C 0,C 0,C 0,C 0,C lv,.bool false,C 0,C 0,.slice none 0 0,.slice none 0 0,.slice none 0 0,C o0,C o1,C o2,C o3,C o4,R a6 o5 c6,C o6,C o7] 35,J0])
  refine av<|rt<|aL<|py dV 9 J lb J J J J aw ?_
  have e0:(0:Int)=pz h lv:=by rw[rm]
  have e2:(0:Int)=(mQ h lv).1:=by rw[nU]
  have e3:(0:Int)=(mQ h lv).2:=by rw[nU]
  have e4:(lv:Int)=tU h lv:=by rw[tY]
  have e5:(false:Bool)=pA h lv:=by exact r7.symm
  have su:(o0:Int)=(gW h lv).1:=by rw[gU]
  have tp:(o1:Int)=(gW h lv).2.1:=by rw[gU]
  have sr:(o2:Int)=(gW h lv).2.2.1:=by rw[gU]
  have uc:(o3:Int)=(gW h lv).2.2.2.1:=by rw[gU]
  have ub:(o4:Int)=(gW h lv).2.2.2.2:=by rw[gU]
  have bt:=NI (fun (cb:Int) (gF:Int) (lR:Int) (xM:Int) (xL:Bool) (sI:Int) (sH:Int) (sG:Int) (sF:Int) (sE:Int)=>(.agg #[C cb,C 0,C gF,C lR,C xM,.bool xL,C 0,C 0,.slice none ([]:List (List bw)).length 0,.slice none ([]:aE).length 0,.slice none ([]:List aE).length 0,C sI,C sH,C sG,C sF,C sE,.slice a6 o5.length c6,C o6,C o7]:Value)) e0 e2 e3 e4 e5 su tp sr uc ub
  exact⟨0,0,([]:List (List bw)),([]:aE),([]:List aE),o5,o6,o7,none,0,none,0,none,0,a6,c6,bt,dV.below,(ep _ _),(ep _ _),(ep _ _),(dV.fz 1 J)⟩
 refine sk<|nx<|sq ?_
 have Xf:=dF ‹decide (fh (cX h) (gQ<|cX h) lv=0)=false›
 rw[apv Xf] at r7;rw[ab2 Xf] at gU
 refine rg<|k<|cC dX 5 J dt J J aw J<|ak J i1<|k ?_
 have mx:=Ve (I:=(cX h)) (U:=(gQ<|cX h)) (lv:=lv) (aC:=a3) (aF:=(mo h).length) (aB:=c3) dX.mb (hT.ext dX.below) (dX.rv 3 J) (dX.rv 2 J) pO (by exact Pv h) aq (by exact DI) (by exact Ns Xg) (by exact YM M7)<|by exact I_ Xf
 refine ca akQ J (ec J<|ec J e0) mx ?_
 rintro _ ew ⟨o8,o9,kQ,fS,a7,c7,a8,c8,a9,c9,rfl,lj,kN,nj,n9⟩
 have dV:=dX.ext lj
 have cJ:=dU dV kN
 have ef:=dU cJ nj
 have dA:=dU ef n9
 refine ak (v:=.tuple #[.agg #[C lv,C o8,R a7 o9 c7,R a8 kQ c8,R a9 fS c9],C 0]) J J<|k<|xt J J J<|k<|xt J J J<|k<|al dA wu ?_
 let eh:=iL a9 fS c9::iL a8 kQ c8::iL a7 o9 c7::eJ::d_::bZ
 intro fj fq sT (fe:HI M w fq (box fj #[C 0,C 0,.slice none 0 0,.slice none 0 0,.slice none 0 0] 30::eh))
 refine k<|bA fe 0 J wu J J J J J J J ?_
 let fZ:=box fj #[C lv,C o8,R a7 o9 c7,R a8 kQ c8,R a9 fS c9] 30
 intro iF (fw:HI M w iF (fZ::eh))
 refine au (v:=C 0) J J<|av<|sq<|aD<|ak (v:=C 0) J J<|k<|neq J J J J<|av<|nB J J aw<|sk<|cQ<|ak J i1<|k<|cC fw 0 J wu J J aw J<|k<|bd (v:=.agg #[C 0,C 0,C 0,C 0,C lv,.bool true,C lv,C o8,R a7 o9 c7,R a8 kQ c8,R a9 fS c9,C 0,C 0,C 0,C 0,C 0,.slice none 0 0,C 0,C 0]) J (ct J<|ct J<|ct J eA) (fun _=>aV)<|k<|bA fw 13 J lb J J J J J J J ?_
 intro jF (gl:HI M w jF [fZ,iL a9 fS c9,iL a8 kQ c8,iL a7 o9 c7,eJ,d_,J8,J7,J6,J9,J4,J3,J2,box aX #[C 0,C 0,C 0,C 0,C lv,.bool true,C lv,C o8,R a7 o9 c7,R a8 kQ c8,R a9 fS c9,C 0,C 0,C 0,C 0,C 0,.slice none 0 0,C 0,C 0] 35,J0])
 refine av<|rt<|py gl 13 J lb J J J J aw ?_
 have e0:(0:Int)=pz h lv:=by rw[rm]
 have e2:(0:Int)=(mQ h lv).1:=by rw[nU]
 have e3:(0:Int)=(mQ h lv).2:=by rw[nU]
 have e4:(lv:Int)=tU h lv:=by rw[tY]
 have e5:(true:Bool)=pA h lv:=by exact r7.symm
 have su:(0:Int)=(gW h lv).1:=by rw[gU]
 have tp:(0:Int)=(gW h lv).2.1:=by rw[gU]
 have sr:(0:Int)=(gW h lv).2.2.1:=by rw[gU]
 have uc:(0:Int)=(gW h lv).2.2.2.1:=by rw[gU]
 have ub:(0:Int)=(gW h lv).2.2.2.2:=by rw[gU]
 have bt:=NI (fun (cb:Int) (gF:Int) (lR:Int) (xM:Int) (xL:Bool) (sI:Int) (sH:Int) (sG:Int) (sF:Int) (sE:Int)=>(.agg #[C cb,C 0,C gF,C lR,C xM,.bool xL,C lv,C o8,.slice a7 o9.length c7,.slice a8 kQ.length c8,.slice a9 fS.length c9,C sI,C sH,C sG,C sF,C sE,.slice none ([]:List cP).length 0,C 0,C 0]:Value)) e0 e2 e3 e4 e5 su tp sr uc ub
 exact⟨lv,o8,o9,kQ,fS,([]:List cP),0,0,a7,c7,a8,c8,a9,c9,none,0,bt,gl.below,(gl.fz 3 J),(gl.fz 2 J),(gl.fz 1 J),(ep _ _)⟩
theorem Zt:cD aM 185:=cE Tryz.func185
theorem agU:cD aM 170:=cE Tryz.func170
theorem agT:cD aM 171:=cE Tryz.func171
theorem ag3:cD aM 143:=cE Tryz.func143
theorem ag2:cD aM 144:=cE Tryz.func144
theorem CU (lu:s.size≤maxLen) (RF:p_.size≤maxLen):Calls aM 185 #[.string s,.string p_] w (ck fun v w'=>v=.bool (jX s p_)∧Ext w w'):=by
 refine dv 18 Tryz.func185 J J J qF fun f0 ha H=>?_
 have i0:f0 0=.string s:=ha 0 bm
 have i1:f0 1=.string p_:=ha 1 bm
 refine aD<|au (v:=.bool false) J J<|bz<|ak J i0<|k<|wQ J J mL<|ak J i1<|k<|wQ J J mL<|k<|geq J J J J<|ak (v:=.bool (decide ((p_.size:Int)≤(s.size:Int)))) J J ?_
 rcases bE (decide ((p_.size:Int)≤(s.size:Int))) with b0|b0
 ·
  have p0:=dT b0
  refine bl J J J b0<|mv J i0<|bl J J J b0<|mv J i1<|bl J J J b0<|wQ J J mL<|bl J J J b0<|ajf J J J J aq mL<|bl J J J b0<|mv J i1<|bl J J J b0<|ZI J J J J<|k<|aQ J J J J b0 J<|au (v:=.bool (decide (s.extract 0 (p_.size:Int).toNat=p_))) J J<|av<|rt<|r1 J J ?_
  exact⟨apj Value.bool (by simp only[jX,b0,BL]),H.below⟩
 refine aZ J J J b0<|aZ J J J b0<|aZ J J J b0<|aZ J J J b0<|aZ J J J b0<|aZ J J J b0<|k<|cU J J J J b0 J<|au (v:=.bool false) J J<|av<|rt<|r1 J J ?_
 exact⟨apj Value.bool (by simp only[jX,b0,BL]),H.below⟩
theorem KP (lu:s.size≤maxLen) (RF:p_.size≤maxLen):Calls aM 170 #[.string s,.string p_] w (ck fun v w'=>v=.string (eK s p_)∧Ext w w'):=by
 refine dv 13 Tryz.func170 J J J qF fun f0 ha H=>?_
 have i0:f0 0=.string s:=ha 0 bm
 have i1:f0 1=.string p_:=ha 1 bm
 have DC:jX s p_=true→(p_.size:Int)≤(s.size:Int):=by intro h_;unfold jX at h_;cases e_:decide ((p_.size:Int)≤(s.size:Int))<;>rw[e_] at h_;cases h_;exact ap5 e_
 refine aD<|au (v:=.string ⟨#[]⟩) J J<|av<|sq<|aD<|ak J i0<|ak J i1<|k ?_
 have bT:=CU (s:=s) (p_:=p_) (w:=w) bu bu
 refine ca Zt J (ec J<|ec J e0) bT ?_
 rintro _ w0 ⟨rfl,bY⟩
 have H0:=H.ext bY
 refine z<|nx<|cd (b:=jX s p_) J J (fun b0=>?_)<|fun b0=>?_
 ·
  refine aD<|ak J i0<|ak J i1<|k<|wQ J J mL<|k<|V6 J J J J (by have h_:=DC bu;omega) mL<|au (v:=.string (s.extract (p_.size:Int).toNat s.size)) J J<|av<|rt<|aL<|r1 J J ?_
  exact⟨apj Value.string (by simp only[eK,b0,BL]),H0.below⟩
 refine sk<|cQ<|ak J i0<|au (v:=.string s) J J<|av<|rt<|r1 J J ?_
 exact⟨apj Value.string (by simp only[eK,b0,BL]),H0.below⟩
theorem LY (lu:s.size≤maxLen) (RF:p_.size≤maxLen):Calls aM 171 #[.string s,.string p_] w (ck fun v w'=>v=.tuple #[.string (eK s p_),.bool (jX s p_)]∧Ext w w'):=by
 refine dv 15 Tryz.func171 J J J qF fun f0 ha H=>?_
 have i0:f0 0=.string s:=ha 0 bm
 have i1:f0 1=.string p_:=ha 1 bm
 have DC:jX s p_=true→(p_.size:Int)≤(s.size:Int):=by intro h_;unfold jX at h_;cases e_:decide ((p_.size:Int)≤(s.size:Int))<;>rw[e_] at h_;cases h_;exact ap5 e_
 refine aD<|au (v:=.string ⟨#[]⟩) J J<|au (v:=.bool false) J J<|av<|sq<|aD<|ak J i0<|ak J i1<|k ?_
 have bT:=CU (s:=s) (p_:=p_) (w:=w) bu bu
 refine ca Zt J (ec J<|ec J e0) bT ?_
 rintro _ w0 ⟨rfl,bY⟩
 have H0:=H.ext bY
 refine k<|jr J J<|z<|nx<|cd (b:=!(jX s p_)) J J (fun b0=>?_)<|fun b0=>?_
 ·
  refine aD<|ak J i0<|au (v:=.string s) J J<|au (v:=.bool false) J J<|av<|rt<|aL<|r2 J J J ?_
  have e0:(s:aY)=eK s p_:=by simp only[eK,(gf b0),BL]
  have e1:(false:Bool)=jX s p_:=by simp only[(gf b0),BL]
  have bt:=nN (fun (cb:aY) (dK:Bool)=>(.tuple #[.string cb,.bool dK]:Value)) e0 e1
  exact⟨bt,H0.below⟩
 refine sk<|cQ<|ak J i0<|ak J i1<|k<|wQ J J mL<|k<|V6 J J J J (by have h_:=DC (by simpa using ‹(!jX s p_)=false›);omega) mL<|au (v:=.string (s.extract (p_.size:Int).toNat s.size)) J J<|au (v:=.bool true) J J<|av<|rt<|r2 J J J ?_
 have e0:(s.extract (p_.size:Int).toNat s.size:aY)=eK s p_:=by simp only[eK,(fu b0),BL]
 have e1:(true:Bool)=jX s p_:=by simp only[(fu b0),BL]
 have bt:=nN (fun (cb:aY) (dK:Bool)=>(.tuple #[.string cb,.bool dK]:Value)) e0 e1
 exact⟨bt,H0.below⟩
theorem CR (lu:s.size≤maxLen) (RF:p_.size≤maxLen):Calls aM 143 #[.string s,.string p_] w (ck fun v w'=>v=.string (eK s p_)∧Ext w w'):=by
 refine dv 8 Tryz.func143 J J J qF fun f0 ha H=>?_
 have i0:f0 0=.string s:=ha 0 bm
 have i1:f0 1=.string p_:=ha 1 bm
 refine aD<|au (v:=.string ⟨#[]⟩) J J<|bz<|ak J i0<|ak J i1<|k ?_
 have bT:=KP (s:=s) (p_:=p_) (w:=w) bu bu
 refine ca agU J (ec J<|ec J e0) bT ?_
 rintro _ w0 ⟨rfl,bY⟩
 have H0:=H.ext bY
 refine au (v:=.string (eK s p_)) J J<|av<|rt<|r1 J J ?_
 exact⟨J,H0.below⟩
theorem EL (lu:s.size≤maxLen) (RF:p_.size≤maxLen):Calls aM 145 #[.string s,.string p_] w (ck fun v w'=>v=.tuple #[.string (eK s p_),.bool (jX s p_)]∧Ext w w'):=by
 refine dv 11 Tryz.func145 J J J qF fun f0 ha H=>?_
 have i0:f0 0=.string s:=ha 0 bm
 have i1:f0 1=.string p_:=ha 1 bm
 refine aD<|au (v:=.string ⟨#[]⟩) J J<|au (v:=.bool false) J J<|bz<|ak J i0<|ak J i1<|k ?_
 have bT:=LY (s:=s) (p_:=p_) (w:=w) bu bu
 refine ca agT J (ec J<|ec J e0) bT ?_
 rintro _ w0 ⟨rfl,bY⟩
 have H0:=H.ext bY
 refine k<|xt J J J<|k<|xt J J J<|au (v:=.string (eK s p_)) J J<|au (v:=.bool (jX s p_)) J J<|av<|rt<|r2 J J J ?_
 exact⟨J,H0.below⟩
theorem WH (lu:s.size≤maxLen) (lO:aK at_):Calls aM 110 #[.string s,C at_] w (ck fun v w'=>v=C (gD s at_)∧Ext w w'):=by
 refine dv 26 Tryz.func110 J J J qF fun f0 ha H=>?_
 have i0:f0 0=.string s:=ha 0 bm
 have i1:f0 1=C at_:=ha 1 bm
 have BX:maxLen=9223372036854775807:=rfl
 refine aD<|au (v:=C 0) J J<|av<|sq<|aD<|ak J i1<|k<|lss J J J J<|ak (v:=.bool (decide (at_<0))) J J ?_
 rcases bE (decide (at_<0)) with b0|b0
 ·
  refine aZ J J J b0<|aZ J J J b0<|aZ J J J b0<|aZ J J J b0<|k<|aQ J J J J b0 J<|av<|pk J J J<|aD<|au (v:=C 0) J J<|av<|rt<|aL<|r1 J J ?_
  exact⟨apj (Value.int .i64) (by simp only[gD,b0,BL]),H.below⟩
 have p0:=dF b0
 refine bl J J J b0<|mv J i1<|bl J J J b0<|mv J i0<|bl J J J b0<|wQ J J mL<|bl J J J b0<|geq J J J J<|k<|cU J J J J b0 J<|z<|nx<|cd (b:=decide ((s.size:Int)≤at_)) J J (fun b1=>?_)<|fun b1=>?_
 ·
  refine aD<|au (v:=C 0) J J<|av<|rt<|aL<|r1 J J ?_
  exact⟨apj (Value.int .i64) (by simp only[gD,b0,b1,BL]),H.below⟩
 have p1:=dF b1
 refine sk<|cQ<|ak J i0<|ak J i1<|k<|V6 J J J J aq mL<|au (v:=.string (s.extract at_.toNat s.size)) J J<|bz<|ak (v:=.string (s.extract at_.toNat s.size)) J J<|k ?_
 have bT:=CR (s:=(s.extract at_.toNat s.size)) (p_:=⟨#[45]⟩) (w:=w) (by exact Nat.le_trans (D0 _ _ _) lu) aw
 refine ca ag3 J (ec J<|ec J e0) bT ?_
 rintro _ w0 ⟨rfl,bY⟩
 have H0:=H.ext bY
 refine au (v:=.string (eK (s.extract at_.toNat s.size) ⟨#[45]⟩)) J J<|bz<|ak (v:=.string (s.extract at_.toNat s.size)) J J<|k<|wQ J J mL<|ak (v:=.string (eK (s.extract at_.toNat s.size) ⟨#[45]⟩)) J J<|k ?_
 have df:=FH (s:=(eK (s.extract at_.toNat s.size) ⟨#[45]⟩)) (cs:=⟨#[48,49,50,51,52,53,54,55,56,57]⟩) (w:=w0) (by exact Nat.le_trans (rF _ _) (Nat.le_trans (D0 _ _ _) lu)) aw<|by exact Io
 refine ca ag2 J (ec J<|ec J e0) df ?_
 rintro _ w1 ⟨rfl,cS⟩
 have H1:=H0.ext cS
 refine k<|wQ J J mL<|k<|sub J J J J (by have h1_:=ES (eK (s.extract at_.toNat s.size) ⟨#[45]⟩) ⟨#[48,49,50,51,52,53,54,55,56,57]⟩;have lI:=rF (s.extract at_.toNat s.size) ⟨#[45]⟩;have h3_:=D0 s at_.toNat s.size;unfold aK;omega)<|au (v:=C (((s.extract at_.toNat s.size).size:Int)-((CQ (eK (s.extract at_.toNat s.size) ⟨#[45]⟩) ⟨#[48,49,50,51,52,53,54,55,56,57]⟩).size:Int))) J J<|av<|rt<|r1 J J ?_
 exact⟨apj (Value.int .i64) (by simp only[gD,b0,b1,BL]),H1.below⟩
theorem ag1:cD aM 145:=cE Tryz.func145
theorem VV:aM.underlying 57=some (.slice 5):=aV
theorem QE:aM.underlying 151=some (.int .u64):=aV
theorem aaP (lu:s.size≤maxLen):Calls aM 111 #[.string s] w (ck fun v w'=>v=.tuple #[C ((gp s).1),C ((gp s).2)]∧Ext w w'):=by
 refine dv 62 Tryz.func111 J J J qF fun f0 ha H=>?_
 have i0:f0 0=.string s:=ha 0 bm
 have BX:maxLen=9223372036854775807:=rfl
 refine aD<|au (v:=C 0) J J<|au (v:=C 0) J J<|bz<|ak J i0<|k ?_
 have bT:=EL (s:=s) (p_:=⟨#[45]⟩) (w:=w) bu aw
 refine ca ag1 J (ec J<|ec J e0) bT ?_
 rintro _ w0 ⟨rfl,bY⟩
 have H0:=H.ext bY
 refine ak (v:=.tuple #[.string (eK s ⟨#[45]⟩),.bool (jX s ⟨#[45]⟩)]) J J<|k<|xt J J J<|k<|xt J J J<|au (v:=.string (eK s ⟨#[45]⟩)) J J<|au (v:=.bool (jX s ⟨#[45]⟩)) J J<|z<|nx<|cut (fun f w'=>f 4=.string (eK s ⟨#[45]⟩)∧f 5=.bool (jX s ⟨#[45]⟩)∧HI (fun _=>False) w w' []∧(lW s=false)) ?_ ?_
 ·
  refine aD<|ak (v:=.string (eK s ⟨#[45]⟩)) J J<|k<|ZI J J J J<|ak (v:=.bool (decide (eK s ⟨#[45]⟩=⟨#[]⟩))) J J ?_
  rcases bE (decide (eK s ⟨#[45]⟩=⟨#[]⟩)) with b0|b0
  ·
   refine aZ J J J b0<|aZ J J J b0<|aZ J J J b0<|k<|aQ J J J J b0 J<|ak (v:=.bool true) J J<|aZ J J J J<|aZ J J J J<|aZ J J J J<|aZ J J J J<|k<|gu J J J<|k<|gu J J J<|aZ J J J J<|k<|aQ J J J J J J<|av<|pk J J J<|aD<|au (v:=C 0) J J<|au (v:=C 2) J J<|av<|rt<|I9 ?_
   have wa:gp s=(0,2):=FZ<|by simp only[lW,b0,BL]
   refine r2 J J J ?_
   have e0:(0:Int)=(gp s).1:=by rw[wa]
   have e1:(2:Int)=(gp s).2:=by rw[wa]
   have bt:=nN (fun (cb:Int) (dK:Int)=>(.tuple #[C cb,C dK]:Value)) e0 e1
   exact⟨bt,H0.below⟩
  have p0:=dF b0
  refine bl J J J b0<|mv (v:=.string (eK s ⟨#[45]⟩)) J J<|bl J J J b0 ?_
  have df:=CS (s:=(eK s ⟨#[45]⟩)) (cs:=⟨#[48,49,50,51,52,53,54,55,56,57]⟩) (w:=w0) (by exact Nat.le_trans (rF _ _) lu) aw<|by exact Io
  refine ca ZC J (ec J<|ec J e0) df ?_
  rintro _ w2 ⟨rfl,cS⟩
  have H1:=H0.ext cS
  refine bl J J J b0<|neS J J J J<|k<|cU J J J J b0 J<|ak (v:=.bool (!decide (trimB (eK s ⟨#[45]⟩) ⟨#[48,49,50,51,52,53,54,55,56,57]⟩=⟨#[]⟩))) J J ?_
  rcases bE (!decide (trimB (eK s ⟨#[45]⟩) ⟨#[48,49,50,51,52,53,54,55,56,57]⟩=⟨#[]⟩)) with b1|b1
  ·
   have p1:=dF<|gf b1
   refine aZ J J J b1<|aZ J J J b1<|aZ J J J b1<|aZ J J J b1<|k<|gu J J J<|k<|gu J J J<|aZ J J J b1<|k<|aQ J J J J b1 J<|av<|pk J J J<|aD<|au (v:=C 0) J J<|au (v:=C 2) J J<|av<|rt<|I9 ?_
   have wa:gp s=(0,2):=FZ<|by simp only[lW,b0,(gf b1),BL]
   refine r2 J J J ?_
   have e0:(0:Int)=(gp s).1:=by rw[wa]
   have e1:(2:Int)=(gp s).2:=by rw[wa]
   have bt:=nN (fun (cb:Int) (dK:Int)=>(.tuple #[C cb,C dK]:Value)) e0 e1
   exact⟨bt,H1.below⟩
  have p1:=dT<|fu b1
  refine bl J J J b1<|mv (v:=.string (eK s ⟨#[45]⟩)) J J<|bl J J J b1<|YP J J J J (by exact⟨asD _,aby p0⟩) mL<|bl J J J b1<|eql J J J J<|bl J J J b1<|mv (v:=.bool (decide ((tv (eK s ⟨#[45]⟩) 0)=48))) J J ?_
  rcases bE (decide ((tv (eK s ⟨#[45]⟩) 0)=48)) with b2|b2
  ·
   refine bl J J J b2<|mv J i0<|bl J J J b2<|neS J J J J<|bl J J J b1<|aQ J J J J b2 J<|k<|cU J J J J b1 J<|z<|nx<|cd (b:=!decide (s=⟨#[48]⟩)) J J (fun b3=>?_)<|fun b3=>?_
   ·
    have p3:=dF<|gf b3
    refine aD<|au (v:=C 0) J J<|au (v:=C 2) J J<|av<|rt<|I9 ?_
    have wa:gp s=(0,2):=FZ<|by simp only[lW,b0,(fu b1),b2,(gf b3),BL]
    refine r2 J J J ?_
    have e0:(0:Int)=(gp s).1:=by rw[wa]
    have e1:(2:Int)=(gp s).2:=by rw[wa]
    have bt:=nN (fun (cb:Int) (dK:Int)=>(.tuple #[C cb,C dK]:Value)) e0 e1
    exact⟨bt,H1.below⟩
   have p3:=dT<|fu b3
   refine sk<|B5 ⟨J,J,H1,(by simp only[lW,b0,(fu b1),b2,(fu b3),BL])⟩
  refine aZ J J J b2<|aZ J J J b2<|bl J J J b1<|cU J J J J b2 J<|k<|cU J J J J b1 J<|av<|nB J J J<|sk<|B5 ⟨J,J,H1,(by simp only[lW,b0,(fu b1),b2,BL])⟩
 ·
  rintro f0 w1 ⟨s0,s1,H3,DM⟩
  refine aD<|au (v:=aj (9223372036854775807#64)) J J<|z<|nx<|cut (fun f w'=>∃(m_:bw),f 4=.string (eK s ⟨#[45]⟩)∧f 5=.bool (jX s ⟨#[45]⟩)∧f 6=aj m_∧HI (fun _=>False) w w' []∧(m_.toNat=pb s)) ?_ ?_
  ·
   refine aD<|ak J s1<|z<|nx<|cd (b:=jX s ⟨#[45]⟩) J J (fun b3=>?_)<|fun b3=>?_
   ·
    refine rg<|ak (v:=aj (9223372036854775807#64)) J J<|k<|Ji (9223372036854775807#64) (1#64) J J J J<|au (v:=aj ((9223372036854775807#64)+(1#64))) J J<|z<|B5 ⟨((9223372036854775807#64)+(1#64)),s0,s1,(O3 J<|by rfl),H3,(by unfold pb;rw[b3];rfl)⟩
   refine sk<|B5 ⟨(9223372036854775807#64),s0,s1,(O3 J<|by rfl),H3,(by unfold pb;rw[b3];rfl)⟩
  ·
   rintro f1 w3 ⟨m_,s2,s3,s4,H5,Xa⟩
   refine aD<|au (v:=aj (0#64)) J J<|av<|sq<|aD<|ak J s2<|k<|ak6 H5 J J (by exact Nat.le_trans (rF _ _) lu) mL VV Yl ?_
   intro a0 c0 w4 fm (H6:HI (fun _=>False) w w4 [iL a0 (pT (eK s ⟨#[45]⟩)) c0])
   refine k<|dP J J VV<|ak (v:=C 0) J J<|av<|bk<|lp (fun m f w'=>∃(j_:Nat) (zc:bw),m=(pT<|eK s ⟨#[45]⟩).length-j_∧f 5=.bool (jX s ⟨#[45]⟩)∧f 6=aj m_∧f 7=aj zc∧f 36=R a0 (pT<|eK s ⟨#[45]⟩) c0∧f 37=C ((pT<|eK s ⟨#[45]⟩).length:Int)∧f 38=C (j_:Int)∧HI (fun _=>False) w w' [iL a0 (pT<|eK s ⟨#[45]⟩) c0]∧(j_≤(pT<|eK s ⟨#[45]⟩).length)∧(ng m_.toNat (B6 s).data.toList 0=ng m_.toNat ((B6 s).data.toList.drop j_) zc.toNat)) _ ⟨0,(0#64),J,s3,s4,(O3 J<|by rfl),J,J,(bH J),H6,aq,(by rfl)⟩ ?_
   rintro _ f2 w5 ⟨j_,zc,rfl,s5,s6,s7,s8,s9,ei,H7,kb,hs⟩
   refine sq ?_
   have aob:=aaQ s
   have Nh:(pT (eK s ⟨#[45]⟩)).length≤s.size:=by rw[u7];exact rF _ _
   refine rg<|k<|lss J J ei s9<|av<|sq<|cd (b:=decide ((j_:Int)<((pT<|eK s ⟨#[45]⟩).length:Int))) J J (fun b4=>?_)<|fun b4=>?_
   ·
    have p4:=dT b4
    refine sk<|nx<|sq<|bk<|aD<|k<|ia (H7.rv 0 J) J J s8 ei aq VV Yt ?_
    intro iy x0 aN cB
    refine k<|ld8 cB.w Yt J J<|au (v:=U8 x0) J J<|bz<|ak (v:=U8 x0) J J<|k<|aje J J J J (by have h_:=U5 (Qr DM) aN;omega)<|k<|Qe J J Yl QE<|au (v:=aj (BitVec.ofInt 64<|(x0.toNat:Int)-48)) J J<|av<|sq<|sq ?_
    have hd_:=U5 (Qr DM) aN
    refine rg<|ak J s7<|ak J s6<|ak (v:=aj (BitVec.ofInt 64<|(x0.toNat:Int)-48)) J J<|k<|ach m_ (BitVec.ofInt 64<|(x0.toNat:Int)-48) J J J J<|k<|ajl (m_-(BitVec.ofInt 64<|(x0.toNat:Int)-48)) (10#64) aw J J J J<|k<|Zs zc ((m_-(BitVec.ofInt 64<|(x0.toNat:Int)-48))/(10#64)) J J J J<|z<|nx<|cd (b:=decide (((m_-(BitVec.ofInt 64<|(x0.toNat:Int)-48))/(10#64)).toNat<zc.toNat)) J J (fun b5=>?_)<|fun b5=>?_
    ·
     refine aD<|au (v:=C 0) J J<|au (v:=C 3) J J<|av<|rt<|aL<|bI<|aL<|du<|bI<|aL ?_
     have wa:gp s=(0,3):=WK DM<|by rw[←Xa];exact aaO hd_ aq (Jf aN) hs bu
     refine r2 J J J ?_
     have e0:(0:Int)=(gp s).1:=by rw[wa]
     have e1:(3:Int)=(gp s).2:=by rw[wa]
     have bt:=nN (fun (cb:Int) (dK:Int)=>(.tuple #[C cb,C dK]:Value)) e0 e1
     exact⟨bt,H7.below⟩
    have p5:=dF b5
    refine sk<|nx<|rg<|ak J s7<|k<|F3 (10#64) zc J J J J<|ak (v:=aj (BitVec.ofInt 64<|(x0.toNat:Int)-48)) J J<|k<|Ji ((10#64)*zc) (BitVec.ofInt 64<|(x0.toNat:Int)-48) J J J J<|au (v:=aj (((10#64)*zc)+(BitVec.ofInt 64<|(x0.toNat:Int)-48))) J J<|z<|aH<|nx<|rg<|k<|add J J ei J aS<|ak (v:=C ((j_:Int)+1)) J J<|z<|bB _ ?_ ⟨(j_+1),(((10#64)*zc)+(BitVec.ofInt 64<|(x0.toNat:Int)-48)),J,s5,s6,(O3 J<|by rfl),s8,s9,(bH J),H7,aq,(by exact WG hd_ aq (Jf aN) hs bu)⟩
    omega
   have p4:=dF b4
   refine ex<|aW<|ba<|bh<|nx<|sq<|aD<|ak J s5<|z<|nx<|cd (b:=jX s ⟨#[45]⟩) J J (fun b5=>?_)<|fun b5=>?_
   ·
    refine aD<|ak J s7<|k<|ac6 zc J J<|k<|cvT J J QE CN<|au (v:=C ((-zc).toInt)) J J<|au (v:=C 0) J J<|av<|rt<|aL ?_
    have wa:=WJ DM bu<|by rw[←Xa];exact Py hs (by have h_:=u7 (eK s ⟨#[45]⟩);rw[ap9];show (eK s ⟨#[45]⟩).size≤_;omega)
    refine r2 J J J ?_
    have e0:((-zc).toInt:Int)=(gp s).1:=by rw[wa]
    have e1:(0:Int)=(gp s).2:=by rw[wa]
    have bt:=nN (fun (cb:Int) (dK:Int)=>(.tuple #[C cb,C dK]:Value)) e0 e1
    exact⟨bt,H7.below⟩
   refine sk<|cQ<|ak J s7<|k<|cvT J J QE CN<|au (v:=C zc.toInt) J J<|au (v:=C 0) J J<|av<|rt ?_
   have wa:=WI DM bu<|by rw[←Xa];exact Py hs (by have h_:=u7 (eK s ⟨#[45]⟩);rw[ap9];show (eK s ⟨#[45]⟩).size≤_;omega)
   refine r2 J J J ?_
   have e0:(zc.toInt:Int)=(gp s).1:=by rw[wa]
   have e1:(0:Int)=(gp s).2:=by rw[wa]
   have bt:=nN (fun (cb:Int) (dK:Int)=>(.tuple #[C cb,C dK]:Value)) e0 e1
   exact⟨bt,H7.below⟩
end Go.Proofs.YtgjakhpjmapelaaGreatDoor
