/- PRINTED by my own tool (wip/tool/gen.py): contracts of Go functions of this seat, each with its proof. -/
import Derived.Test.YtgjakhpjmapelaaGreatDoorPwnB
import Derived.Test.YtgjakhpjmapelaaGreatDoorPwnC
import Derived.Test.YtgjakhpjmapelaaGreatDoorHenC
import Derived.Test.YtgjakhpjmapelaaGreatDoorHenB
import Derived.Test.YtgjakhpjmapelaaGreatDoorHenA
import Derived.Test.YtgjakhpjmapelaaGreatDoorPwnD
import Derived.Test.YtgjakhpjmapelaaGreatDoorPwnA
set_option linter.unusedVariables false
set_option linter.unusedSimpArgs false
namespace Go.Proofs.YtgjakhpjmapelaaGreatDoor
open Go.Ew Go.RowKit
set_option maxRecDepth 100000
set_option maxHeartbeats 1600000
attribute [local irreducible] WL WC SO PW PX PZ WE Code.wp wpList rY cg
attribute [local irreducible] ka xy jr fg eb Ak C8 KP words d_ cV jE fC vC
variable {M:Nat→Prop} {w w_:World}
variable {aE ay aA wa v8 bA dq jH gk:OA} {aF aD ax az v7 vZ bz eE dp kn eU jV qf gj:Nat} {I:List aI} {U:List Int} {kd fw lv x_ mn cn o xx at_:Int} {a b:List bY} {mr cr:List (List bY)} {l4:TypeId} {r:List Go.Ew.Item} {fv:List ByteArray} {s cs p_:ByteArray} {qj:List Value} {h:List (List (Bool×ByteArray×Int))}
theorem xI:gO aK 33 0 0:=⟨_,_,Tryz.underlying33,rfl,rfl,aC⟩
theorem aiR:cu aK 78:=⟨_,_,Tryz.func78,rfl,aC⟩
theorem xH:gO aK 33 6 6:=⟨_,_,Tryz.underlying33,rfl,rfl,aC⟩
theorem va:gO aK 33 5 5:=⟨_,_,Tryz.underlying33,rfl,rfl,aC⟩
theorem adK:gO aK 33 7 7:=⟨_,_,Tryz.underlying33,rfl,rfl,aC⟩
theorem aiQ:cu aK 80:=⟨_,_,Tryz.func80,rfl,aC⟩
theorem ads:cu aK 83:=⟨_,_,Tryz.func83,rfl,aC⟩
theorem adA:cu aK 16:=⟨_,_,Tryz.func16,rfl,aC⟩
theorem aiZ:cu aK 53:=⟨_,_,Tryz.func53,rfl,aC⟩
theorem Vb {jR:Int} {lI:Int} {gq:Int} {Hf:OA} {Gf G_:Nat} {Ts:Value} {RG:Value} (hM:eG M w) (hT:fP 0 w) (dy:cA M w ay ax I) (fZ:cA M w aA az U) (lQ:aM kd) (GD:aM fw) (Bd:aM jR) (Yj:aM lI) (yE:aM gq) (ho:gX I) (du:I.length≤64) (eu:U.length=I.length) (fG:∀x∈U,x<((I.length:Nat):Int)) (acf:kd=6∨kd=7→0≤gq∧gq<((I.length:Nat):Int)):Calls aK 53 #[.agg #[.slice aE aF aD,R ay I ax,R aA U az],.agg #[C kd,C fw,C jR,C lI,C gq,.slice Hf Gf G_,Ts,RG]] w (cg fun v w'=>∃(iu:List cL) (f_:Int) (s_:Int) (a0:OA) (c0:Nat),v=.tuple #[.agg #[C kd,C fw,C jR,C lI,C gq,R a0 iu c0,C f_,C s_],C 0]∧Ext w w'∧cA M w' a0 c0 iu):=by
 refine dm 113 Tryz.func53 J J J hM fun f0 ha H=>?_
 let J0:=iL ay I ax
 have H0:=H.put (it:=J0) J<|by rw[bN];exact dy
 let J1:=iL aA U az
 have H1:=H0.put (it:=J1) J<|by rw[aG rfl,bN];exact fZ
 have iU:=bf dy
 have kE:=bf fZ
 have i0:f0 0=.agg #[.slice aE aF aD,R ay I ax,R aA U az]:=ha 0 bh
 have i1:f0 1=.agg #[C kd,C fw,C jR,C lI,C gq,.slice Hf Gf G_,Ts,RG]:=ha 1 bh
 have AP:=Ms U<|show I.length≤4096 by omega
 have PO:=pj U<|show I.length≤4096 by omega
 refine aB<|k<|bx H1 J i0 ?_
 intro aX w0 bT (H2:HI M w w0 [box aX #[.slice aE aF aD,R ay I ax,R aA U az] 47,J1,J0])
 let J2:=box aX #[.slice aE aF aD,R ay I ax,R aA U az] 47
 refine k<|bx H2 J i1 ?_
 intro aZ w1 da (H3:HI M w w1 [box aZ #[C kd,C fw,C jR,C lI,C gq,.slice Hf Gf G_,Ts,RG] 33,J2,J1,J0])
 let J3:=box aZ #[C kd,C fw,C jR,C lI,C gq,.slice Hf Gf G_,Ts,RG] 33
 refine k<|al H3 bR ?_
 intro bD w2 eR (H4:HI M w w2 [box bD #[C 0,C 0,C 0,C 0,C 0,.slice none 0 0,C 0,C 0] 33,J3,J2,J1,J0])
 let J4:=box bD #[C 0,C 0,C 0,C 0,C 0,.slice none 0 0,C 0,C 0] 33
 refine au (v:=C 0) J J<|bp<|aS xI J J<|bl H4 1 J aV J J J<|aS pG J J<|bl H4 1 J aV J J J<|aS nQ J J<|bl H4 1 J aV J J J<|aS Ah J J<|bl H4 1 J aV J J J<|aS ng J J<|bl H4 1 J aV J J J<|k<|bd (v:=.agg #[C kd,C fw,C jR,C lI,C gq,.slice none 0 0,C (-1),C (-1)]) J (cj J<|cj J<|cj J<|cj J<|cj J<|cj J<|cj J eh) (fun _=>aC)<|k<|al H4 bR ?_
 intro fe w3 fH (H5:HI M w w3 [box fe #[C 0,C 0,C 0,C 0,C 0,.slice none 0 0,C 0,C 0] 33,J4,J3,J2,J1,J0])
 refine k<|bt H5 0 J bR J J J J J J J ?_
 let J5:=box fe #[C kd,C fw,C jR,C lI,C gq,.slice none 0 0,C (-1),C (-1)] 33
 intro w4 (H6:HI M w w4 [J5,J4,J3,J2,J1,J0])
 refine av<|sq<|mg [.r,.r,.r,.e,.e] (fun _=>True) J aC (fun _ _=>trivial)<|yq J J<|kq (fun _ x_=>cz (H6.ext x_) 3 J dN J J aw J e1)<|bM<|kq (fun _ x_=>cz (H6.ext x_) 3 J dN J J aw J e1)<|zq<|yu J (fun _ v w'=>∃(a0:OA) (c0:Nat),v=.agg #[C (I.length:Int),R a0 (ki I U) c0]∧RV H6.fV w' (R a0 (ki I U) c0) (ki I U)) J jk J (fun v_ _ x_ _=>have cS:=EB (I:=I) (U:=U) (aE:=aE) (aF:=aF) (aD:=aD) (w:=v_) (H6.ext x_).mb ((H6.ext x_).rv 5 rfl) ((H6.ext x_).rv 4 rfl) (by exact ho) aq (by exact eu) (by exact fG);ca adv rfl (ec J e0) cS (fun _ w6 ⟨a1,c1,e_,ji,dZ⟩=>⟨_,J,ji,⟨a1,c1,e_,dZ⟩⟩))<|ye<|ye<|yz ?_
 intro w7 f0 _ kb _ _ cB iN
 have dw:=H6.ext kb
 have s0:=cB 2 J
 have s1:=cB 3 J
 have s2:=cB 4 J
 have s3:=cB 6 J
 have s4:=cB 21 J
 obtain⟨a2,c2,s5,dY⟩:=iN 0 _ _ rfl
 let J6:=iL a2 (ki I U) c2
 have dz:=dw.put (it:=J6) J dY
 refine j5 ?_
 have cM:HI M w w7 ([J0,J1,J6]++[J5,J4,J3,J2]):=dz.bU [6,5,0,1,2,3,4] aw rfl
 have fS:=Nv (aE:=aE) (aF:=aF) (aD:=aD) (ay:=ay) (ax:=ax) (I:=I) (aA:=aA) (az:=az) (U:=U) (mn:=(I.length:Int)) (bA:=a2) (bz:=c2) (mr:=(ki I U)) (w:=w) (w_:=w7) (r:=[J5,J4,J3,J2]) (M:=M) aT cM
 refine ca aiR J (ec s4<|ec s5 e0) fS ?_
 rintro _ w8 ⟨gM,a3,c3,dD,fO,rfl,dW⟩
 let J7:=box gM #[.slice aE aF aD,R ay I ax,R aA U az,R a3 ([]:List cL) c3,.map (some dD),C (I.length:Int),R a2 (ki I U) c2,.map (some fO)] 142
 let J8:=oL w 175 a3 ([]:List cL) c3
 let J9:=bX dD ([]:KV)
 let ba:=[J8,J9,bS fO ([]:List ((Int×Int)×Bool)),J0,J1,J6,J5,J4,J3,J2]
 have dt:HI M w w8 (J7::ba):=dW
 refine j5<|jG (v:=pV gM 0) J J<|kz<|nx<|sq<|aB<|aS xI J s1<|bl dt 9 J aV J J J<|av<|bk<|aB<|k<|eql J J J J<|au (v:=.bool (decide (kd=2))) J J<|z<|nx<|cd (b:=decide (kd=2)) J J (fun b0=>?_)<|fun b0=>?_
 ·
  refine rg<|ak (v:=pV gM 0) J J<|aS ng J s1<|bl dt 9 J aV J J J<|aS ng J s1<|bl dt 9 J aV J J J<|k ?_
  have cR:HI M w w8 ([J7,J0,J1,J8,J9,J6,bS fO ([]:List ((Int×Int)×Bool))]++[J5,J4,J3,J2]):=dt.bU [0,4,5,1,2,6,3,7,8,9,10] aw rfl
  have eX:=mD (cW:=gM) (aE:=aE) (aF:=aF) (aD:=aD) (ay:=ay) (ax:=ax) (I:=I) (aA:=aA) (az:=az) (U:=U) (ey:=a3) (ew:=c3) (sp:=([]:List cL)) (bw:=dD) (mp:=([]:KV)) (pn:=(I.length:Int)) (cZ:=a2) (cY:=c2) (pr:=(ki I U)) (bH:=fO) (mq:=([]:List ((Int×Int)×Bool))) (f_:=gq) (t_:=gq) (w:=w) (w_:=w8) (r:=[J5,J4,J3,J2]) (M:=M) aT yE yE hT (by simp only[gr];omega) aq (by exact eu) (by exact du) (by exact AP) cR
  refine ca zi J (ec J<|ec J<|ec J e0) eX ?_
  rintro _ w9 ⟨o0,o1,o2,a4,c4,rfl,dM,q0,q1⟩
  let dO:=box gM #[.slice aE aF aD,R ay I ax,R aA U az,R a4 o1 c4,.map (some dD),C (I.length:Int),R a2 (ki I U) c2,.map (some fO)] 142
  have dI:HI M w w9 [dO,J0,J1,oL w 175 a4 o1 c4,bX dD o2,J6,bS fO ([]:List ((Int×Int)×Bool)),J5,J4,J3,J2]:=dM
  refine aS xH J s3<|k<|bt dI 7 J aV J J J J J J J ?_
  intro dL (cF:HI M w dL [dO,J0,J1,oL w 175 a4 o1 c4,bX dD o2,J6,bS fO ([]:List ((Int×Int)×Bool)),box fe #[C kd,C fw,C jR,C lI,C gq,.slice none 0 0,C o0,C (-1)] 33,J4,J3,J2])
  refine z<|aJ<|cO<|ak (v:=pV gM 0) J J<|k<|nc J J<|aS lV J J<|bl cF 0 J nB J J J<|aS va J s3<|k<|bt cF 7 J nB J J J J J J J ?_
  let eC:=box fe #[C kd,C fw,C jR,C lI,C gq,R a4 o1 c4,C o0,C (-1)] 33
  intro ef (dV:HI M w ef [dO,J0,J1,oL w 175 a4 o1 c4,bX dD o2,J6,bS fO ([]:List ((Int×Int)×Bool)),eC,J4,J3,J2])
  refine bp<|k<|cz dV 7 J bR J s3 aw J<|k<|bt dV 8 J bR J J s2 J J J J ?_
  intro fh (dG:HI M w fh [dO,J0,J1,oL w 175 a4 o1 c4,bX dD o2,J6,bS fO ([]:List ((Int×Int)×Bool)),eC,box bD #[C kd,C fw,C jR,C lI,C gq,R a4 o1 c4,C o0,C (-1)] 33,J3,J2])
  refine au (v:=C 0) J J<|av<|rt<|im dG 8 J bR J J J s2 J aw ?_
  exact⟨o1,o0,(-1),a4,c4,J,dG.below,(dG.mw 3 J)⟩
 have p0:=dF b0
 refine aB<|k<|eql J J J J<|au (v:=.bool (decide (kd=3))) J J<|z<|nx<|cd (b:=decide (kd=3)) J J (fun b1=>?_)<|fun b1=>?_
 ·
  refine rg<|ak (v:=pV gM 0) J J<|aS nQ J s1<|bl dt 9 J aV J J J<|aS pG J s1<|bl dt 9 J aV J J J<|k ?_
  have cR:HI M w w8 ([J7,J0,J1,J8,J9,J6,bS fO ([]:List ((Int×Int)×Bool))]++[J5,J4,J3,J2]):=dt.bU [0,4,5,1,2,6,3,7,8,9,10] aw rfl
  have eX:=mD (cW:=gM) (aE:=aE) (aF:=aF) (aD:=aD) (ay:=ay) (ax:=ax) (I:=I) (aA:=aA) (az:=az) (U:=U) (ey:=a3) (ew:=c3) (sp:=([]:List cL)) (bw:=dD) (mp:=([]:KV)) (pn:=(I.length:Int)) (cZ:=a2) (cY:=c2) (pr:=(ki I U)) (bH:=fO) (mq:=([]:List ((Int×Int)×Bool))) (f_:=jR) (t_:=fw) (w:=w) (w_:=w8) (r:=[J5,J4,J3,J2]) (M:=M) aT Bd GD hT (by simp only[gr];omega) aq (by exact eu) (by exact du) (by exact AP) cR
  refine ca zi J (ec J<|ec J<|ec J e0) eX ?_
  rintro _ w9 ⟨o0,o1,o2,a4,c4,rfl,dM,q0,q1⟩
  let fQ:=box gM #[.slice aE aF aD,R ay I ax,R aA U az,R a4 o1 c4,.map (some dD),C (I.length:Int),R a2 (ki I U) c2,.map (some fO)] 142
  have dI:HI M w w9 [fQ,J0,J1,oL w 175 a4 o1 c4,bX dD o2,J6,bS fO ([]:List ((Int×Int)×Bool)),J5,J4,J3,J2]:=dM
  refine aS xH J s3<|k<|bt dI 7 J aV J J J J J J J ?_
  intro dL (cF:HI M w dL [fQ,J0,J1,oL w 175 a4 o1 c4,bX dD o2,J6,bS fO ([]:List ((Int×Int)×Bool)),box fe #[C kd,C fw,C jR,C lI,C gq,.slice none 0 0,C o0,C (-1)] 33,J4,J3,J2])
  refine z<|aJ<|cO<|ak (v:=pV gM 0) J J<|k<|nc J J<|aS lV J J<|bl cF 0 J nB J J J<|aS va J s3<|k<|bt cF 7 J nB J J J J J J J ?_
  let fz:=box fe #[C kd,C fw,C jR,C lI,C gq,R a4 o1 c4,C o0,C (-1)] 33
  intro ef (dV:HI M w ef [fQ,J0,J1,oL w 175 a4 o1 c4,bX dD o2,J6,bS fO ([]:List ((Int×Int)×Bool)),fz,J4,J3,J2])
  refine bp<|k<|cz dV 7 J bR J s3 aw J<|k<|bt dV 8 J bR J J s2 J J J J ?_
  intro fh (dG:HI M w fh [fQ,J0,J1,oL w 175 a4 o1 c4,bX dD o2,J6,bS fO ([]:List ((Int×Int)×Bool)),fz,box bD #[C kd,C fw,C jR,C lI,C gq,R a4 o1 c4,C o0,C (-1)] 33,J3,J2])
  refine au (v:=C 0) J J<|av<|rt<|im dG 8 J bR J J J s2 J aw ?_
  exact⟨o1,o0,(-1),a4,c4,J,dG.below,(dG.mw 3 J)⟩
 have p1:=dF b1
 refine aB<|k<|eql J J J J<|au (v:=.bool (decide (kd=4))) J J<|z<|nx<|cd (b:=decide (kd=4)) J J (fun b2=>?_)<|fun b2=>?_
 ·
  refine mg [.r,.r,.r,.r,.r,.e,.s,.f,.f,.f,.f,.e,.f,.e,.f,.e] (fun w'=>HI M w w' [J3]) J aC (fun _ x_=>(dt.bU (l':=[J3]) [9] aw J).ext x_)<|yq J J<|kq (fun _ _=>mv (v:=pV gM 0) J J e1)<|bM<|kq (fun _ _=>fa nQ J s1 e1)<|bM<|kq (fun _ x_=>lx (dt.ext x_) 9 J aV J J J e1)<|bM<|kq (fun _ _=>fa Ah J s1 e1)<|bM<|kq (fun _ x_=>lx (dt.ext x_) 9 J aV J J J e1)<|zq<|ye<|yq J J<|kq (fun _ _=>mv (v:=pV gM 0) J J e1)<|zq<|yf J (fun _ _=>fa Ah J s1 e3)<|yf J (fun _ i_=>lx i_ 0 J aV J J J e3)<|yf J (fun _ _=>fa pG J s1 e3)<|yf J (fun _ i_=>lx i_ 0 J aV J J J e3)<|ye<|yf J (fun _ _=>fa xH J s3 e3)<|ye<|yf J (fun _ _=>fa adK J s3 e3)<|ye<|yz ?_
  intro w9 f1 _ ma _ _ fF zY
  have cR:=dt.ext ma
  have s6:=(fF 4 J).trans s2
  have s7:=(fF 6 J).trans s3
  have s8:=fF 7 J
  have s9:=fF 47 J
  have eo:=fF 49 J
  have fb:=fF 51 J
  have fM:=fF 53 J
  have fL:=fF 55 J
  have gB:=fF 57 J
  have gT:=fF 59 J
  have ky:=fF 60 J
  refine ke ?_
  let bZ:=[J6,bS fO ([]:List ((Int×Int)×Bool))]
  have dM:HI M w w9 ((J7::J0::J1::J8::J9::bZ)++[J5,J4,J3,J2]):=cR.bU [0,4,5,1,2,6,3,7,8,9,10] aw rfl
  have eX:=mD (cW:=gM) (aE:=aE) (aF:=aF) (aD:=aD) (ay:=ay) (ax:=ax) (I:=I) (aA:=aA) (az:=az) (U:=U) (ey:=a3) (ew:=c3) (sp:=([]:List cL)) (bw:=dD) (mp:=([]:KV)) (pn:=(I.length:Int)) (cZ:=a2) (cY:=c2) (pr:=(ki I U)) (bH:=fO) (mq:=([]:List ((Int×Int)×Bool))) (f_:=jR) (t_:=lI) (w:=w) (w_:=w9) (r:=[J5,J4,J3,J2]) (M:=M) aT Bd Yj hT (by simp only[gr];omega) aq (by exact eu) (by exact du) (by exact AP) dM
  refine ca zi J (ec s9<|ec eo<|ec fb e0) eX ?_
  rintro _ dL ⟨o0,o1,o2,a4,c4,rfl,dI,q0,q1⟩
  let il:=box gM #[.slice aE aF aD,R ay I ax,R aA U az,R a4 o1 c4,.map (some dD),C (I.length:Int),R a2 (ki I U) c2,.map (some fO)] 142
  let dE:=[J6,bS fO ([]:List ((Int×Int)×Bool)),J5,J4,J3,J2]
  have cF:HI M w dL (il::J0::J1::oL w 175 a4 o1 c4::bX dD o2::dE):=dI
  refine⟨cF.bU [9] aw rfl,?_⟩
  refine ke ?_
  have dV:HI M w dL ((il::J0::J1::oL w 175 a4 o1 c4::bX dD o2::bZ)++[J5,J4,J3,J2]):=cF.bU [0,1,2,3,4,5,6,7,8,9,10] aw rfl
  have kI:=mD (cW:=gM) (aE:=aE) (aF:=aF) (aD:=aD) (ay:=ay) (ax:=ax) (I:=I) (aA:=aA) (az:=az) (U:=U) (ey:=a4) (ew:=c4) (sp:=o1) (bw:=dD) (mp:=o2) (pn:=(I.length:Int)) (cZ:=a2) (cY:=c2) (pr:=(ki I U)) (bH:=fO) (mq:=([]:List ((Int×Int)×Bool))) (f_:=lI) (t_:=fw) (w:=w) (w_:=dL) (r:=[J5,J4,J3,J2]) (M:=M) aT Yj GD hT (by simp only[gr] at *;omega) aq (by exact eu) (by exact du) (by exact AP) dV
  refine ca zi J (ec fM<|ec fL<|ec gB e0) kI ?_
  rintro _ ef ⟨o3,o4,o5,a5,c5,rfl,dG,q2,q3⟩
  let nX:=box gM #[.slice aE aF aD,R ay I ax,R aA U az,R a5 o4 c5,.map (some dD),C (I.length:Int),R a2 (ki I U) c2,.map (some fO)] 142
  let lB:=oL w 175 a5 o4 c5
  have eS:HI M w ef (nX::J0::J1::lB::bX dD o5::dE):=dG
  refine⟨eS.bU [9] aw rfl,?_⟩
  refine ke<|bt eS 7 J aV J J gT J J J J ?_
  intro fh (ff:HI M w fh [nX,J0,J1,lB,bX dD o5,J6,bS fO ([]:List ((Int×Int)×Bool)),box fe #[C kd,C fw,C jR,C lI,C gq,.slice none 0 0,C o0,C (-1)] 33,J4,J3,J2])
  refine⟨ff.bU [9] aw rfl,?_⟩
  refine ke<|bt ff 7 J aV J J ky J J J J ?_
  intro iz (ga:HI M w iz [nX,J0,J1,lB,bX dD o5,J6,bS fO ([]:List ((Int×Int)×Bool)),box fe #[C kd,C fw,C jR,C lI,C gq,.slice none 0 0,C o0,C o3] 33,J4,J3,J2])
  refine⟨ga.bU [9] aw rfl,?_⟩
  refine kz<|aJ<|cO<|ak J s8<|k<|nc J J<|aS lV J J<|bl ga 0 J nB J J J<|aS va J s7<|k<|bt ga 7 J nB J J J J J J J ?_
  let qQ:=box fe #[C kd,C fw,C jR,C lI,C gq,R a5 o4 c5,C o0,C o3] 33
  intro jw (iI:HI M w jw [nX,J0,J1,lB,bX dD o5,J6,bS fO ([]:List ((Int×Int)×Bool)),qQ,J4,J3,J2])
  refine bp<|k<|cz iI 7 J bR J s7 aw J<|k<|bt iI 8 J bR J J s6 J J J J ?_
  intro pZ (iE:HI M w pZ [nX,J0,J1,lB,bX dD o5,J6,bS fO ([]:List ((Int×Int)×Bool)),qQ,box bD #[C kd,C fw,C jR,C lI,C gq,R a5 o4 c5,C o0,C o3] 33,J3,J2])
  refine au (v:=C 0) J J<|av<|rt<|im iE 8 J bR J J J s6 J aw ?_
  exact⟨o4,o0,o3,a5,c5,J,iE.below,(iE.mw 3 J)⟩
 have p2:=dF b2
 refine aB<|k<|eql J J J J<|au (v:=.bool (decide (kd=5))) J J<|z<|nx<|cd (b:=decide (kd=5)) J J (fun b3=>?_)<|fun b3=>?_
 ·
  refine aB<|ak (v:=pV gM 0) J J<|k ?_
  have cR:HI M w w8 ([J7,J0,J1,J8,J9,J6,bS fO ([]:List ((Int×Int)×Bool))]++[J5,J4,J3,J2]):=dt.bU [0,4,5,1,2,6,3,7,8,9,10] aw rfl
  have eX:=F7 (cW:=gM) (aE:=aE) (aF:=aF) (aD:=aD) (ay:=ay) (ax:=ax) (I:=I) (aA:=aA) (az:=az) (U:=U) (ey:=a3) (ew:=c3) (sp:=([]:List cL)) (bw:=dD) (mp:=([]:KV)) (pn:=(I.length:Int)) (cZ:=a2) (cY:=c2) (pr:=(ki I U)) (bH:=fO) (mq:=([]:List ((Int×Int)×Bool))) (w:=w) (w_:=w8) (r:=[J5,J4,J3,J2]) (M:=M) aT hT (by exact ho) (by exact du) (by exact eu) (by exact fG) aq (by exact AP) (by simp only[gr];omega) cR
  refine ca aiQ J (ec J e0) eX ?_
  rintro _ w9 ⟨o0,o1,o2,a4,c4,a5,c5,rfl,dM,q0,q1⟩
  let jv:=box gM #[.slice aE aF aD,R ay I ax,R aA U az,R a4 o0 c4,.map (some dD),C (I.length:Int),R a5 o2 c5,.map (some fO)] 142
  let iO:=[iL a5 o2 c5,bS fO ([]:List ((Int×Int)×Bool)),J5,J4,J3,J2]
  have dI:HI M w w9 (jv::J0::J1::oL w 175 a4 o0 c4::bX dD o1::iO):=dM
  refine av<|rg<|ak (v:=pV gM 0) J J<|aS ng J s1<|bl dI 9 J aV J J J<|aS ng J s1<|bl dI 9 J aV J J J<|k ?_
  have cF:HI M w w9 ([jv,J0,J1,oL w 175 a4 o0 c4,bX dD o1,iL a5 o2 c5,bS fO ([]:List ((Int×Int)×Bool))]++[J5,J4,J3,J2]):=dI.bU [0,1,2,3,4,5,6,7,8,9,10] aw rfl
  have kI:=mD (cW:=gM) (aE:=aE) (aF:=aF) (aD:=aD) (ay:=ay) (ax:=ax) (I:=I) (aA:=aA) (az:=az) (U:=U) (ey:=a4) (ew:=c4) (sp:=o0) (bw:=dD) (mp:=o1) (pn:=(I.length:Int)) (cZ:=a5) (cY:=c5) (pr:=o2) (bH:=fO) (mq:=([]:List ((Int×Int)×Bool))) (f_:=gq) (t_:=gq) (w:=w) (w_:=w9) (r:=[J5,J4,J3,J2]) (M:=M) aT yE yE hT (by simp only[gr] at *;omega) aq (by exact eu) (by exact du) bq cF
  refine ca zi J (ec J<|ec J<|ec J e0) kI ?_
  rintro _ dL ⟨o3,o4,o5,a6,c6,rfl,dV,q2,q3⟩
  let oW:=box gM #[.slice aE aF aD,R ay I ax,R aA U az,R a6 o4 c6,.map (some dD),C (I.length:Int),R a5 o2 c5,.map (some fO)] 142
  have dG:HI M w dL (oW::J0::J1::oL w 175 a6 o4 c6::bX dD o5::iO):=dV
  refine aS xH J s3<|k<|bt dG 7 J aV J J J J J J J ?_
  intro ef (eS:HI M w ef [oW,J0,J1,oL w 175 a6 o4 c6,bX dD o5,iL a5 o2 c5,bS fO ([]:List ((Int×Int)×Bool)),box fe #[C kd,C fw,C jR,C lI,C gq,.slice none 0 0,C o3,C (-1)] 33,J4,J3,J2])
  refine z<|aJ<|cO<|ak (v:=pV gM 0) J J<|k<|nc J J<|aS lV J J<|bl eS 0 J nB J J J<|aS va J s3<|k<|bt eS 7 J nB J J J J J J J ?_
  let qh:=box fe #[C kd,C fw,C jR,C lI,C gq,R a6 o4 c6,C o3,C (-1)] 33
  intro fh (ff:HI M w fh [oW,J0,J1,oL w 175 a6 o4 c6,bX dD o5,iL a5 o2 c5,bS fO ([]:List ((Int×Int)×Bool)),qh,J4,J3,J2])
  refine bp<|k<|cz ff 7 J bR J s3 aw J<|k<|bt ff 8 J bR J J s2 J J J J ?_
  intro iz (ga:HI M w iz [oW,J0,J1,oL w 175 a6 o4 c6,bX dD o5,iL a5 o2 c5,bS fO ([]:List ((Int×Int)×Bool)),qh,box bD #[C kd,C fw,C jR,C lI,C gq,R a6 o4 c6,C o3,C (-1)] 33,J3,J2])
  refine au (v:=C 0) J J<|av<|rt<|im ga 8 J bR J J J s2 J aw ?_
  exact⟨o4,o3,(-1),a6,c6,J,ga.below,(ga.mw 3 J)⟩
 have p3:=dF b3
 refine sq<|aB<|k<|eql J J J J<|au (v:=.bool (decide (kd=6))) J J<|z<|nx<|cd (b:=decide (kd=6)) J J (fun b4=>?_)<|fun b4=>?_
 ·
  have p4:=dT b4
  refine sk<|nx<|nS J J b4<|aB<|k<|cz dt 10 J dN J s0 aw J<|k ?_
  have eX:=Bo (I:=I) (U:=U) (aE:=aE) (aF:=aF) (aD:=aD) dt.mb (dt.rv 4 J) (dt.rv 5 J) (by exact ho) aq (by exact eu)<|by exact fG
  refine ca QL J (ec J e0) eX ?_
  rintro _ w9 ⟨a4,c4,rfl,ma,fu⟩
  have cR:=dt.ext ma
  let nW:=iL a4 (cp I U) c4
  have dM:=cR.put (it:=nW) J fu
  refine k<|al dM bm ?_
  intro Ap dL nr (dI:HI M w dL (box Ap #[C 0,.slice none 0 0] 26::nW::J7::ba))
  refine k<|bt dI 0 J bm J J J J J J J ?_
  let oV:=box Ap #[C (I.length:Int),R a4 (cp I U) c4] 26
  intro ef (cF:HI M w ef (oV::nW::J7::ba))
  refine av<|sq<|mg [.r,.r,.r,.r,.r,.r,.r,.r,.r,.r,.r,.r,.e] (fun _=>True) J aC (fun _ _=>trivial)<|yq J J<|kq (fun _ _=>mv (v:=pV gM 0) J J e1)<|bM<|kq (fun _ _=>mv (v:=pV gM 0) J J e1)<|bM<|kq (fun _ _=>nc J J e1)<|bM<|kq (fun _ _=>fa qV J J e1)<|bM<|kq (fun _ x_=>cz (cF.ext x_) 2 J bm J J aw J e1)<|bM<|kq (fun _ x_=>cz (cF.ext x_) 0 J bm J J aw J e1)<|bM<|kq (fun _ _=>fa ng J s1 e1)<|bM<|kq (fun _ x_=>lx (cF.ext x_) 11 J aV J J J e1)<|zq<|yu J (fun _ v w'=>∃(a5:OA) (c5:Nat),v=R a5 (bL (I.length:Int) (cp I U) gq) c5∧RV cF.fV w' (R a5 (bL (I.length:Int) (cp I U) gq) c5) (bL (I.length:Int) (cp I U) gq)) J jk J (fun v_ _ x_ _=>have nk:=uM (mn:=(I.length:Int)) (mr:=(cp I U)) (o:=gq) (w:=v_) (cF.ext x_).mb (hT.ext (cF.ext x_).below) aT ((cF.ext x_).rv 1 rfl) yE (by exact PO);ca Mi rfl (ec J<|ec J e0) nk (fun _ iz ⟨a6,c6,e_,Az,jd⟩=>⟨_,J,Az,⟨a6,c6,e_,(bj.rv jd (cF.ext x_).mb)⟩⟩))<|lF J (fun _ v w'=>∃(a8:OA) (c8:Nat),v=.agg #[C (I.length:Int),R a8 (gi (I.length:Int) (ki I U)<|bL (I.length:Int) (cp I U) gq) c8]∧RV cF.fV w' (R a8 (gi (I.length:Int) (ki I U)<|bL (I.length:Int) (cp I U) gq) c8) (gi (I.length:Int) (ki I U)<|bL (I.length:Int) (cp I U) gq)) 0 J J jk J (fun v_ _ _ x_ _ h_=>let ⟨a9,c9,s6,nZ⟩:=h_;have iD:=(cF.ext x_).put (it:=iL a9 (bL (I.length:Int) (cp I U) gq) c9) rfl nZ;have Da:=zb (mn:=(I.length:Int)) (mr:=(ki I U)) (l:=(bL (I.length:Int) (cp I U) gq)) iD.mb aT (iD.rv 9 J) (iD.rv 0 J) (by exact AP) (by have h_:=uD PO gq;omega);ca Wb rfl (ec J<|ec s6 e0) Da (fun _ pZ ⟨i',iZ,e_,Hn,mR⟩=>⟨_,J,Hn,⟨i',iZ,e_,(mK J<|bj.rv mR iD.mb)⟩⟩))<|yq J J<|kq (fun _ _=>nc J J e1)<|bM<|kq (fun _ _=>fa qV J J e1)<|zq<|ye<|yz ?_
  intro uF f1 _ Kw _ _ fF zY
  have oq:=cF.ext Kw
  have s7:=(fF 3 J).trans s1
  have s8:=(fF 4 J).trans s2
  have s9:=(fF 6 J).trans s3
  have eo:=fF 7 J
  have fb:=fF 8 J
  obtain⟨l3,lX,fM,qp⟩:=zY 0 _ _ rfl
  let vv:=iL l3 (gi (I.length:Int) (ki I U) (bL (I.length:Int) (cp I U) gq)) lX
  have j7:=oq.put (it:=vv) J qp
  have fL:=fF 88 J
  refine j5<|bt j7 3 J bm J J fL fM J J J ?_
  let tS:=box gM #[.slice aE aF aD,R ay I ax,R aA U az,R a3 ([]:List cL) c3,.map (some dD),C (I.length:Int),R l3 (gi (I.length:Int) (ki I U) (bL (I.length:Int) (cp I U) gq)) lX,.map (some fO)] 142
  intro sM (qR:HI M w sM (vv::oV::nW::tS::ba))
  refine kz<|cO<|ak J eo<|k<|cz qR 1 J bm J fb aw J<|aS ng J s7<|bl qR 12 J aV J J J<|k ?_
  have kl:HI M w sM ([tS,J0,J1,J8,J9,vv,bS fO ([]:List ((Int×Int)×Bool)),nW]++[oV,J6,J5,J4,J3,J2]):=qR.bU [3,7,8,4,5,0,6,2,1,9,10,11,12,13] aw rfl
  have T_:=IN (cW:=gM) (aE:=aE) (aF:=aF) (aD:=aD) (ay:=ay) (ax:=ax) (I:=I) (aA:=aA) (az:=az) (U:=U) (ey:=a3) (ew:=c3) (sp:=([]:List cL)) (bw:=dD) (mp:=([]:KV)) (pn:=(I.length:Int)) (cZ:=l3) (cY:=lX) (pr:=(gi (I.length:Int) (ki I U)<|bL (I.length:Int) (cp I U) gq)) (bH:=fO) (mq:=([]:List ((Int×Int)×Bool))) (mn:=(I.length:Int)) (bA:=a4) (bz:=c4) (mr:=(cp I U)) (o:=gq) (w:=w) (w_:=sM) (r:=[oV,J6,J5,J4,J3,J2]) (M:=M) aT aT yE hT (by exact ho) (by exact du) (by exact eu) (by exact fG) aq (by rfl) (by exact acf aq) aq (by exact B0 AP _) (by simp only[gr];omega) kl
  refine ca ads J (ec J<|ec J<|ec J e0) T_ ?_
  rintro _ sK ⟨o0,o1,o2,a12,nT,jP,jO,rfl,Ax,q0,q1⟩
  let BV:=box gM #[.slice aE aF aD,R ay I ax,R aA U az,R a12 o0 nT,.map (some dD),C (I.length:Int),R jP o2 jO,.map (some fO)] 142
  let tR:=iL jP o2 jO
  let fk:=[tR,bS fO ([]:List ((Int×Int)×Bool)),nW,oV,J6,J5,J4,J3,J2]
  have j6:HI M w sK (BV::J0::J1::oL w 175 a12 o0 nT::bX dD o1::fk):=Ax
  refine bp<|aS pG J s7<|bl j6 12 J aV J J J<|au (v:=C fw) J J<|av<|sq<|aB<|aS xI J s7<|bl j6 12 J aV J J J<|k<|eql J J J J<|z<|nx<|cd (b:=decide (kd=7)) J J (fun b5=>?_)<|fun b5=>?_
  ·
   have p5:=dT b5
   refine rg<|aS nQ J s7<|bl j6 12 J aV J J J<|au (v:=C jR) J J<|av<|rg<|ak J eo<|aS nQ J s7<|bl j6 12 J aV J J J<|ak (v:=C jR) J J<|k ?_
   have vy:HI M w sK ([BV,J0,J1,oL w 175 a12 o0 nT,bX dD o1,tR,bS fO ([]:List ((Int×Int)×Bool))]++[nW,oV,J6,J5,J4,J3,J2]):=j6.bU [0,1,2,3,4,5,6,7,8,9,10,11,12,13] aw rfl
   have T9:=mD (cW:=gM) (aE:=aE) (aF:=aF) (aD:=aD) (ay:=ay) (ax:=ax) (I:=I) (aA:=aA) (az:=az) (U:=U) (ey:=a12) (ew:=nT) (sp:=o0) (bw:=dD) (mp:=o1) (pn:=(I.length:Int)) (cZ:=jP) (cY:=jO) (pr:=o2) (bH:=fO) (mq:=([]:List ((Int×Int)×Bool))) (f_:=jR) (t_:=jR) (w:=w) (w_:=sK) (r:=[nW,oV,J6,J5,J4,J3,J2]) (M:=M) aT Bd Bd hT aq aq (by exact eu) (by exact du) bq vy
   refine ca zi J (ec J<|ec J<|ec J e0) T9 ?_
   rintro _ uE ⟨o3,o4,o5,la,k0,rfl,mi,q2,q3⟩
   let yW:=box gM #[.slice aE aF aD,R ay I ax,R aA U az,R la o4 k0,.map (some dD),C (I.length:Int),R jP o2 jO,.map (some fO)] 142
   have wb:HI M w uE (yW::J0::J1::oL w 175 la o4 k0::bX dD o5::fk):=mi
   refine aS xH J s9<|k<|bt wb 10 J aV J J J J J J J ?_
   intro xW (qi:HI M w xW [yW,J0,J1,oL w 175 la o4 k0,bX dD o5,tR,bS fO ([]:List ((Int×Int)×Bool)),nW,oV,J6,box fe #[C kd,C fw,C jR,C lI,C gq,.slice none 0 0,C o3,C (-1)] 33,J4,J3,J2])
   refine z<|aJ<|cO<|ak J eo<|k<|nc J J<|aS lV J J<|bl qi 0 J nB J J J<|aS va J s9<|k<|bt qi 10 J nB J J J J J J J ?_
   let vu:=box fe #[C kd,C fw,C jR,C lI,C gq,R la o4 k0,C o3,C (-1)] 33
   intro KE (vw:HI M w KE [yW,J0,J1,oL w 175 la o4 k0,bX dD o5,tR,bS fO ([]:List ((Int×Int)×Bool)),nW,oV,J6,vu,J4,J3,J2])
   refine bp<|k<|cz vw 10 J bR J s9 aw J<|k<|bt vw 11 J bR J J s8 J J J J ?_
   intro FW (oo:HI M w FW [yW,J0,J1,oL w 175 la o4 k0,bX dD o5,tR,bS fO ([]:List ((Int×Int)×Bool)),nW,oV,J6,vu,box bD #[C kd,C fw,C jR,C lI,C gq,R la o4 k0,C o3,C (-1)] 33,J3,J2])
   refine au (v:=C 0) J J<|av<|rt<|im oo 11 J bR J J J s8 J aw ?_
   exact⟨o4,o3,(-1),la,k0,J,oo.below,(oo.mw 3 J)⟩
  refine sk<|nx<|rg<|ak J eo<|aS nQ J s7<|bl j6 12 J aV J J J<|ak (v:=C fw) J J<|k ?_
  have vy:HI M w sK ([BV,J0,J1,oL w 175 a12 o0 nT,bX dD o1,tR,bS fO ([]:List ((Int×Int)×Bool))]++[nW,oV,J6,J5,J4,J3,J2]):=j6.bU [0,1,2,3,4,5,6,7,8,9,10,11,12,13] aw rfl
  have T9:=mD (cW:=gM) (aE:=aE) (aF:=aF) (aD:=aD) (ay:=ay) (ax:=ax) (I:=I) (aA:=aA) (az:=az) (U:=U) (ey:=a12) (ew:=nT) (sp:=o0) (bw:=dD) (mp:=o1) (pn:=(I.length:Int)) (cZ:=jP) (cY:=jO) (pr:=o2) (bH:=fO) (mq:=([]:List ((Int×Int)×Bool))) (f_:=jR) (t_:=fw) (w:=w) (w_:=sK) (r:=[nW,oV,J6,J5,J4,J3,J2]) (M:=M) aT Bd GD hT (by simp only[gr] at *;omega) aq (by exact eu) (by exact du) bq vy
  refine ca zi J (ec J<|ec J<|ec J e0) T9 ?_
  rintro _ uE ⟨o3,o4,o5,la,k0,rfl,mi,q2,q3⟩
  let xU:=box gM #[.slice aE aF aD,R ay I ax,R aA U az,R la o4 k0,.map (some dD),C (I.length:Int),R jP o2 jO,.map (some fO)] 142
  let xT:=oL w 175 la o4 k0
  have wb:HI M w uE (xU::J0::J1::xT::bX dD o5::fk):=mi
  refine aS xH J s9<|k<|bt wb 10 J aV J J J J J J J ?_
  intro xW (qi:HI M w xW [xU,J0,J1,xT,bX dD o5,tR,bS fO ([]:List ((Int×Int)×Bool)),nW,oV,J6,box fe #[C kd,C fw,C jR,C lI,C gq,.slice none 0 0,C o3,C (-1)] 33,J4,J3,J2])
  refine z<|aJ<|cO<|ak J eo<|k<|nc J J<|aS lV J J<|bl qi 0 J nB J J J<|aS va J s9<|k<|bt qi 10 J nB J J J J J J J ?_
  let EM:=box fe #[C kd,C fw,C jR,C lI,C gq,R la o4 k0,C o3,C (-1)] 33
  intro KE (vw:HI M w KE [xU,J0,J1,xT,bX dD o5,tR,bS fO ([]:List ((Int×Int)×Bool)),nW,oV,J6,EM,J4,J3,J2])
  refine bp<|k<|cz vw 10 J bR J s9 aw J<|k<|bt vw 11 J bR J J s8 J J J J ?_
  intro FW (oo:HI M w FW [xU,J0,J1,xT,bX dD o5,tR,bS fO ([]:List ((Int×Int)×Bool)),nW,oV,J6,EM,box bD #[C kd,C fw,C jR,C lI,C gq,R la o4 k0,C o3,C (-1)] 33,J3,J2])
  refine au (v:=C 0) J J<|av<|rt<|im oo 11 J bR J J J s8 J aw ?_
  exact⟨o4,o3,(-1),la,k0,J,oo.below,(oo.mw 3 J)⟩
 have p4:=dF b4
 refine rg<|k<|eql J J J J<|au (v:=.bool (decide (kd=7))) J J<|z<|nx<|cd (b:=decide (kd=7)) J J (fun b5=>?_)<|fun b5=>?_
 ·
  have p5:=dT b5
  refine aB<|k<|cz dt 10 J dN J s0 aw J<|k ?_
  have eX:=Bo (I:=I) (U:=U) (aE:=aE) (aF:=aF) (aD:=aD) dt.mb (dt.rv 4 J) (dt.rv 5 J) (by exact ho) aq (by exact eu)<|by exact fG
  refine ca QL J (ec J e0) eX ?_
  rintro _ w9 ⟨a4,c4,rfl,ma,fu⟩
  have cR:=dt.ext ma
  let tB:=iL a4 (cp I U) c4
  have dM:=cR.put (it:=tB) J fu
  refine k<|al dM bm ?_
  intro Ap dL nr (dI:HI M w dL (box Ap #[C 0,.slice none 0 0] 26::tB::J7::ba))
  refine k<|bt dI 0 J bm J J J J J J J ?_
  let rK:=box Ap #[C (I.length:Int),R a4 (cp I U) c4] 26
  intro ef (cF:HI M w ef (rK::tB::J7::ba))
  refine av<|sq<|mg [.r,.r,.r,.r,.r,.r,.r,.r,.r,.r,.r,.r,.e] (fun _=>True) J aC (fun _ _=>trivial)<|yq J J<|kq (fun _ _=>mv (v:=pV gM 0) J J e1)<|bM<|kq (fun _ _=>mv (v:=pV gM 0) J J e1)<|bM<|kq (fun _ _=>nc J J e1)<|bM<|kq (fun _ _=>fa qV J J e1)<|bM<|kq (fun _ x_=>cz (cF.ext x_) 2 J bm J J aw J e1)<|bM<|kq (fun _ x_=>cz (cF.ext x_) 0 J bm J J aw J e1)<|bM<|kq (fun _ _=>fa ng J s1 e1)<|bM<|kq (fun _ x_=>lx (cF.ext x_) 11 J aV J J J e1)<|zq<|yu J (fun _ v w'=>∃(a5:OA) (c5:Nat),v=R a5 (bL (I.length:Int) (cp I U) gq) c5∧RV cF.fV w' (R a5 (bL (I.length:Int) (cp I U) gq) c5) (bL (I.length:Int) (cp I U) gq)) J jk J (fun v_ _ x_ _=>have nk:=uM (mn:=(I.length:Int)) (mr:=(cp I U)) (o:=gq) (w:=v_) (cF.ext x_).mb (hT.ext (cF.ext x_).below) aT ((cF.ext x_).rv 1 rfl) yE (by exact PO);ca Mi rfl (ec J<|ec J e0) nk (fun _ iz ⟨a6,c6,e_,Az,jd⟩=>⟨_,J,Az,⟨a6,c6,e_,(bj.rv jd (cF.ext x_).mb)⟩⟩))<|lF J (fun _ v w'=>∃(a8:OA) (c8:Nat),v=.agg #[C (I.length:Int),R a8 (gi (I.length:Int) (ki I U)<|bL (I.length:Int) (cp I U) gq) c8]∧RV cF.fV w' (R a8 (gi (I.length:Int) (ki I U)<|bL (I.length:Int) (cp I U) gq) c8) (gi (I.length:Int) (ki I U)<|bL (I.length:Int) (cp I U) gq)) 0 J J jk J (fun v_ _ _ x_ _ h_=>let ⟨a9,c9,s6,nZ⟩:=h_;have iD:=(cF.ext x_).put (it:=iL a9 (bL (I.length:Int) (cp I U) gq) c9) rfl nZ;have Da:=zb (mn:=(I.length:Int)) (mr:=(ki I U)) (l:=(bL (I.length:Int) (cp I U) gq)) iD.mb aT (iD.rv 9 J) (iD.rv 0 J) (by exact AP) (by have h_:=uD PO gq;omega);ca Wb rfl (ec J<|ec s6 e0) Da (fun _ pZ ⟨i',iZ,e_,Hn,mR⟩=>⟨_,J,Hn,⟨i',iZ,e_,(mK J<|bj.rv mR iD.mb)⟩⟩))<|yq J J<|kq (fun _ _=>nc J J e1)<|bM<|kq (fun _ _=>fa qV J J e1)<|zq<|ye<|yz ?_
  intro uF f1 _ Kw _ _ fF zY
  have oq:=cF.ext Kw
  have s7:=(fF 3 J).trans s1
  have s8:=(fF 4 J).trans s2
  have s9:=(fF 6 J).trans s3
  have eo:=fF 7 J
  have fb:=fF 8 J
  obtain⟨l3,lX,fM,qp⟩:=zY 0 _ _ rfl
  let vt:=iL l3 (gi (I.length:Int) (ki I U) (bL (I.length:Int) (cp I U) gq)) lX
  have j7:=oq.put (it:=vt) J qp
  have fL:=fF 88 J
  refine j5<|bt j7 3 J bm J J fL fM J J J ?_
  let pL:=box gM #[.slice aE aF aD,R ay I ax,R aA U az,R a3 ([]:List cL) c3,.map (some dD),C (I.length:Int),R l3 (gi (I.length:Int) (ki I U) (bL (I.length:Int) (cp I U) gq)) lX,.map (some fO)] 142
  intro sM (qR:HI M w sM (vt::rK::tB::pL::ba))
  refine kz<|cO<|ak J eo<|k<|cz qR 1 J bm J fb aw J<|aS ng J s7<|bl qR 12 J aV J J J<|k ?_
  have kl:HI M w sM ([pL,J0,J1,J8,J9,vt,bS fO ([]:List ((Int×Int)×Bool)),tB]++[rK,J6,J5,J4,J3,J2]):=qR.bU [3,7,8,4,5,0,6,2,1,9,10,11,12,13] aw rfl
  have T_:=IN (cW:=gM) (aE:=aE) (aF:=aF) (aD:=aD) (ay:=ay) (ax:=ax) (I:=I) (aA:=aA) (az:=az) (U:=U) (ey:=a3) (ew:=c3) (sp:=([]:List cL)) (bw:=dD) (mp:=([]:KV)) (pn:=(I.length:Int)) (cZ:=l3) (cY:=lX) (pr:=(gi (I.length:Int) (ki I U)<|bL (I.length:Int) (cp I U) gq)) (bH:=fO) (mq:=([]:List ((Int×Int)×Bool))) (mn:=(I.length:Int)) (bA:=a4) (bz:=c4) (mr:=(cp I U)) (o:=gq) (w:=w) (w_:=sM) (r:=[rK,J6,J5,J4,J3,J2]) (M:=M) aT aT yE hT (by exact ho) (by exact du) (by exact eu) (by exact fG) aq (by rfl) (by exact acf aq) aq (by exact B0 AP _) (by simp only[gr];omega) kl
  refine ca ads J (ec J<|ec J<|ec J e0) T_ ?_
  rintro _ sK ⟨o0,o1,o2,a12,nT,jP,jO,rfl,Ax,q0,q1⟩
  let Dt:=box gM #[.slice aE aF aD,R ay I ax,R aA U az,R a12 o0 nT,.map (some dD),C (I.length:Int),R jP o2 jO,.map (some fO)] 142
  let yV:=iL jP o2 jO
  let kJ:=[yV,bS fO ([]:List ((Int×Int)×Bool)),tB,rK,J6,J5,J4,J3,J2]
  have j6:HI M w sK (Dt::J0::J1::oL w 175 a12 o0 nT::bX dD o1::kJ):=Ax
  refine bp<|aS pG J s7<|bl j6 12 J aV J J J<|au (v:=C fw) J J<|av<|sq<|aB<|aS xI J s7<|bl j6 12 J aV J J J<|k<|eql J J J J<|av<|nS J J b5<|rg<|aS nQ J s7<|bl j6 12 J aV J J J<|au (v:=C jR) J J<|av<|rg<|ak J eo<|aS nQ J s7<|bl j6 12 J aV J J J<|ak (v:=C jR) J J<|k ?_
  have vy:HI M w sK ([Dt,J0,J1,oL w 175 a12 o0 nT,bX dD o1,yV,bS fO ([]:List ((Int×Int)×Bool))]++[tB,rK,J6,J5,J4,J3,J2]):=j6.bU [0,1,2,3,4,5,6,7,8,9,10,11,12,13] aw rfl
  have T9:=mD (cW:=gM) (aE:=aE) (aF:=aF) (aD:=aD) (ay:=ay) (ax:=ax) (I:=I) (aA:=aA) (az:=az) (U:=U) (ey:=a12) (ew:=nT) (sp:=o0) (bw:=dD) (mp:=o1) (pn:=(I.length:Int)) (cZ:=jP) (cY:=jO) (pr:=o2) (bH:=fO) (mq:=([]:List ((Int×Int)×Bool))) (f_:=jR) (t_:=jR) (w:=w) (w_:=sK) (r:=[tB,rK,J6,J5,J4,J3,J2]) (M:=M) aT Bd Bd hT (by simp only[gr] at *;omega) aq (by exact eu) (by exact du) bq vy
  refine ca zi J (ec J<|ec J<|ec J e0) T9 ?_
  rintro _ uE ⟨o3,o4,o5,la,k0,rfl,mi,q2,q3⟩
  let xS:=box gM #[.slice aE aF aD,R ay I ax,R aA U az,R la o4 k0,.map (some dD),C (I.length:Int),R jP o2 jO,.map (some fO)] 142
  let Dr:=oL w 175 la o4 k0
  have wb:HI M w uE (xS::J0::J1::Dr::bX dD o5::kJ):=mi
  refine aS xH J s9<|k<|bt wb 10 J aV J J J J J J J ?_
  intro xW (qi:HI M w xW [xS,J0,J1,Dr,bX dD o5,yV,bS fO ([]:List ((Int×Int)×Bool)),tB,rK,J6,box fe #[C kd,C fw,C jR,C lI,C gq,.slice none 0 0,C o3,C (-1)] 33,J4,J3,J2])
  refine z<|aJ<|cO<|ak J eo<|k<|nc J J<|aS lV J J<|bl qi 0 J nB J J J<|aS va J s9<|k<|bt qi 10 J nB J J J J J J J ?_
  let Dq:=box fe #[C kd,C fw,C jR,C lI,C gq,R la o4 k0,C o3,C (-1)] 33
  intro KE (vw:HI M w KE [xS,J0,J1,Dr,bX dD o5,yV,bS fO ([]:List ((Int×Int)×Bool)),tB,rK,J6,Dq,J4,J3,J2])
  refine bp<|k<|cz vw 10 J bR J s9 aw J<|k<|bt vw 11 J bR J J s8 J J J J ?_
  intro FW (oo:HI M w FW [xS,J0,J1,Dr,bX dD o5,yV,bS fO ([]:List ((Int×Int)×Bool)),tB,rK,J6,Dq,box bD #[C kd,C fw,C jR,C lI,C gq,R la o4 k0,C o3,C (-1)] 33,J3,J2])
  refine au (v:=C 0) J J<|av<|rt<|im oo 11 J bR J J J s8 J aw ?_
  exact⟨o4,o3,(-1),la,k0,J,oo.below,(oo.mw 3 J)⟩
 refine sk<|aJ<|cO<|ak (v:=pV gM 0) J J<|k<|nc J J<|aS lV J J<|bl dt 0 J nB J J J<|aS va J s3<|k<|bt dt 7 J nB J J J J J J J ?_
 let Dp:=box fe #[C kd,C fw,C jR,C lI,C gq,R a3 ([]:List cL) c3,C (-1),C (-1)] 33
 intro w9 (cR:HI M w w9 [J7,J8,J9,bS fO ([]:List ((Int×Int)×Bool)),J0,J1,J6,Dp,J4,J3,J2])
 refine bp<|k<|cz cR 7 J bR J s3 aw J<|k<|bt cR 8 J bR J J s2 J J J J ?_
 intro dL (dM:HI M w dL [J7,J8,J9,bS fO ([]:List ((Int×Int)×Bool)),J0,J1,J6,Dp,box bD #[C kd,C fw,C jR,C lI,C gq,R a3 ([]:List cL) c3,C (-1),C (-1)] 33,J3,J2])
 refine au (v:=C 0) J J<|av<|rt<|im dM 8 J bR J J J s2 J aw ?_
 exact⟨([]:List cL),(-1),(-1),a3,c3,J,dM.below,(dM.mw 1 J)⟩
theorem P6 (hM:eG M w) (hT:fP 0 w) (dy:cA M w ay ax I) (fZ:cA M w aA az U) (pe:aM lv) (ho:gX I) (du:I.length≤64) (eu:U.length=I.length) (fG:∀x∈U,x<((I.length:Nat):Int)) (L0:lv=1∨lv=2∨lv=3):Calls aK 29 #[.agg #[.slice aE aF aD,R ay I ax,R aA U az],C lv] w (cg fun v w'=>∃(k_:Int) (r_:Int) (a_:Int) (b_:Int) (o_:Int) (iu:List cL) (f_:Int) (s_:Int) (a0:OA) (c0:Nat),v=.tuple #[.agg #[C k_,C r_,C a_,C b_,C o_,R a0 iu c0,C f_,C s_],C (eZ I U lv)]∧Ext w w'∧cA M w' a0 c0 iu∧qg (ik I U lv) k_ r_ a_ b_ o_):=by
 refine dm 23 Tryz.func29 J J J hM fun f0 ha H=>?_
 let J0:=iL ay I ax
 have H0:=H.put (it:=J0) J<|by rw[bN];exact dy
 let J1:=iL aA U az
 have H1:=H0.put (it:=J1) J<|by rw[aG rfl,bN];exact fZ
 have i0:f0 0=.agg #[.slice aE aF aD,R ay I ax,R aA U az]:=ha 0 bh
 have i1:f0 1=C lv:=ha 1 bh
 refine aB<|k<|bx H1 J i0 ?_
 intro aX w0 bT (H2:HI M w w0 [box aX #[.slice aE aF aD,R ay I ax,R aA U az] 47,J1,J0])
 let J2:=box aX #[.slice aE aF aD,R ay I ax,R aA U az] 47
 refine k<|al H2 bR ?_
 intro aZ w1 da (H3:HI M w w1 [box aZ #[C 0,C 0,C 0,C 0,C 0,.slice none 0 0,C 0,C 0] 33,J2,J1,J0])
 let J3:=box aZ #[C 0,C 0,C 0,C 0,C 0,.slice none 0 0,C 0,C 0] 33
 refine au (v:=C 0) J J<|bp<|k<|cz H3 1 J dN J J aw J<|ak J i1<|k ?_
 have bP:=ML (I:=I) (U:=U) (lv:=lv) (aE:=aE) (aF:=aF) (aD:=aD) H3.mb (hT.ext H3.below) (H3.rv 3 J) (H3.rv 2 J) pe (by exact ho) (by exact du) (by exact eu) (by exact fG)<|by exact L0
 refine ca adA J (ec J<|ec J e0) bP ?_
 rintro _ w2 ⟨o0,o1,o2,o3,o4,o5,o6,rfl,eR,q0⟩
 have H4:=H3.ext eR
 refine ak (v:=.tuple #[.agg #[C o0,C o1,C o2,C o3,C o4,.slice none 0 0,C o5,C o6],C (eZ I U lv)]) J J<|k<|xt J J J<|k<|xt J J J<|k<|al H4 bR ?_
 intro bD w3 fH (H5:HI M w w3 [box bD #[C 0,C 0,C 0,C 0,C 0,.slice none 0 0,C 0,C 0] 33,J3,J2,J1,J0])
 refine k<|bt H5 0 J bR J J J J J J J ?_
 let J4:=box bD #[C o0,C o1,C o2,C o3,C o4,.slice none 0 0,C o5,C o6] 33
 intro w4 (H6:HI M w w4 [J4,J3,J2,J1,J0])
 refine au (v:=C (eZ I U lv)) J J<|av<|sq<|aB<|ak (v:=C (eZ I U lv)) J J<|k<|neq J J J J<|z<|nx<|cd (b:=!decide ((eZ I U lv)=0)) J J (fun b0=>?_)<|fun b0=>?_
 ·
  have p0:=dF<|fX b0
  refine aB<|k<|bd (v:=.agg #[C 0,C 0,C 0,C 0,C 0,.slice none 0 0,C 0,C 0]) J eh (fun _=>aC)<|ak (v:=C (eZ I U lv)) J J<|k<|bt H6 1 J bR J J J J J J J ?_
  intro w5 (H7:HI M w w5 [J4,J3,J2,J1,J0])
  refine au (v:=C (eZ I U lv)) J J<|av<|rt<|aL<|im H7 1 J bR J J J J J aw ?_
  exact⟨0,0,0,0,0,([]:List cL),0,0,none,0,J,H7.below,(ee _ _),(by exact tT (Ic<|dF<|fX ‹(!decide (eZ I U lv=0))=true›) NU)⟩
 have p0:=dT<|eY b0
 refine sk<|cO<|k<|cz H6 2 J dN J J aw J<|k<|cz H6 0 J bR J J aw J<|k ?_
 have cS:=Vb (I:=I) (U:=U) (kd:=o0) (fw:=o1) (jR:=o2) (lI:=o3) (gq:=o4) (aE:=aE) (aF:=aF) (aD:=aD) (Hf:=none) (Gf:=0) (G_:=0) (Ts:=(C o5)) (RG:=(C o6)) H6.mb (hT.ext H6.below) (H6.rv 4 J) (H6.rv 3 J) (by exact q0.1.k) (by exact q0.1.r) (by exact q0.1.a) (by exact q0.1.b) (by exact q0.1.o) (by exact ho) (by exact du) (by exact eu) (by exact fG)<|by exact aah q0 (dT<|eY ‹(!decide (eZ I U lv=0))=false›)
 refine ca aiZ J (ec J<|ec J e0) cS ?_
 rintro _ w5 ⟨o7,o8,o9,a0,c0,rfl,ja,cq⟩
 have H7:=H6.ext ja
 have H8:=dS H7 cq
 refine k<|xt J J J<|k<|xt J J J<|k<|bt H8 2 J bR J J J J J J J ?_
 intro w6 (H9:HI M w w6 [iL a0 o7 c0,J4,box aZ #[C o0,C o1,C o2,C o3,C o4,R a0 o7 c0,C o8,C o9] 33,J2,J1,J0])
 refine au (v:=C 0) J J<|av<|rt<|im H9 2 J bR J J J J J aw ?_
 have e8:(0:Int)=eZ I U lv:=by exact(dT (eY ‹(!decide (eZ I U lv=0))=false›)).symm
 have bo:=iB (fun (lG:Int)=>(.tuple #[.agg #[C o0,C o1,C o2,C o3,C o4,.slice a0 o7.length c0,C o8,C o9],C lG]:Value)) e8
 exact⟨o0,o1,o2,o3,o4,o7,o8,o9,a0,c0,bo,H9.below,(H9.fj 0 J),(by exact q0)⟩
theorem aiO:cu aK 91:=⟨_,_,Tryz.func91,rfl,aC⟩
theorem aiP:cu aK 90:=⟨_,_,Tryz.func90,rfl,aC⟩
theorem PE (hM:eG M w) (Th:cA M w wa v7 a) (CV:cA M w v8 vZ b) (tK:a.length≤b.length) (aik:a.length≤1000000000):Calls aK 91 #[R wa a v7,R v8 b vZ] w (cg fun v w'=>v=.bool (oJ a b)∧Ext w w'):=by
 refine dm 22 Tryz.func91 J J J hM fun f0 ha H=>?_
 have H0:=dS H Th
 have H1:=dS H0 CV
 have ahU:=bf Th
 have ahT:=bf CV
 have i0:f0 0=R wa a v7:=ha 0 bh
 have i1:f0 1=R v8 b vZ:=ha 1 bh
 refine aB<|au (v:=.bool false) J J<|av<|sq<|aB<|ak J i0<|k<|dP J J ic<|ak (v:=C 0) J J<|av<|bk<|lp (fun m f w'=>∃(j_:Nat),m=a.length-j_∧f 1=R v8 b vZ∧f 7=R wa a v7∧f 8=C (a.length:Int)∧f 9=C (j_:Int)∧HI M w w' [iL v8 b vZ,iL wa a v7]∧(j_≤a.length)∧(∀q,q<j_→JW a b q=false)) _ ⟨0,J,i1,J,J,(bJ J),H1,aq,(by intro q h;omega)⟩ ?_
 rintro _ f0 w0 ⟨j_,rfl,s0,s1,s2,s3,H2,pB,hs⟩
 refine aB<|k<|lss J J s3 s2<|av<|sq<|cd (b:=decide ((j_:Int)<(a.length:Int))) J J (fun b0=>?_)<|fun b0=>?_
 ·
  have p0:=dT b0
  refine sk<|nx<|sq<|bk<|aB<|ak J s3<|k<|ia (H2.rv 1 J) J J s1 s3 aq ic fl ?_
  intro iC x0 aP ct
  refine k<|yo ct.w fl J J<|au (v:=C (j_:Int)) J J<|au (v:=aj x0) J J<|bp<|ak (v:=aj x0) J J<|ak J s0<|ak (v:=C (j_:Int)) J J<|k<|ia (H2.rv 0 J) J J J J aq ic fl ?_
  intro rh x1 cP gL
  refine k<|yo gL.w fl J J<|k<|Df x0 x1 J J J J<|k<|neU (x0 &&& x1) (0#64) J J J J<|z<|nx<|cd (b:=!decide ((x0 &&& x1)=(0#64))) J J (fun b1=>?_)<|fun b1=>?_
  ·
   have p1:=dF<|fX b1
   refine aB<|au (v:=.bool true) J J<|av<|rt<|bQ<|aL<|dU<|bQ<|aL<|r1 J J ?_
   exact⟨ani Value.bool (by exact aem (j:=j_) aq (by simp only[JW,jo aP,jo cP,b0,(fX b1),BL])),H2.below⟩
  have p1:=dT<|eY b1
  refine sk<|aJ<|nx<|rg<|k<|add J J s3 J aT<|ak (v:=C ((j_:Int)+1)) J J<|z<|bB _ ?_ ⟨(j_+1),J,s0,s1,s2,(bJ J),H2,aq,(by exact r8 hs (by simp only[JW,jo aP,jo cP,b0,(eY b1),BL]))⟩
  omega
 have p0:=dF b0
 refine ex<|aW<|bc<|bg<|cO<|au (v:=.bool false) J J<|av<|rt<|r1 J J ?_
 exact⟨ani Value.bool (by exact aaJ hs aq),H2.below⟩
theorem PF {MO:Nat} {Xq:TypeId} {MM:Nat} {Xp:TypeId} {Xa:OA} {WS:Nat} {lf:List bY} (hM:eG M w) (ac6:aM x_) (fY:aM mn) (gl:cA M w bA bz mr) (aiv:cA M w Xa WS lf) (aiF:w.heap[MO]? =some (.cells #[C mn,R bA mr bz] Xq (0,0))∧¬M MO) (aiE:w.heap[MM]? =some (.cells #[R Xa lf WS] Xp (0,0))∧¬M MM) (bV:bF mn mr=true) (th:0≤x_∧x_<mn) (aij:lf.length=words mn):Calls aK 90 #[C x_,.pointer (some ⟨MO,0,none⟩),.pointer (some ⟨MM,0,none⟩)] w (cg fun v w'=>v=.bool (!(oJ (mr.getD x_.toNat []) lf))∧Ext w w'):=by
 refine dm 13 Tryz.func90 J J J hM fun f0 ha H=>?_
 have H0:=dS H gl
 have H1:=dS H0 aiv
 have i0:f0 0=C x_:=ha 0 bh
 have H2:=H1.put (it:=ro MO #[C mn,R bA mr bz] Xq) J<|by rw[aG rfl,aG rfl,bN];exact aiF
 have i1:f0 1=pV MO 0:=ha 1 bh
 have H3:=H2.put (it:=ro MM #[R Xa lf WS] Xp) J<|by rw[aG rfl,aG rfl,aG rfl,bN];exact aiE
 have i2:f0 2=pV MM 0:=ha 2 bh
 have alR:=(bO bV).1
 refine aB<|au (v:=.bool false) J J<|av<|sq<|BT J aC<|kq (fun _ _=>fa iw J i1 e1)<|kq (fun _ x_=>lr (H3.ext x_) 1 J kW J J J e1)<|kq (fun _ _=>mv J i0 e1)<|ub (H3.rv 3 J) J J J J aq ib de ?_
 intro iC x0 aP ct
 refine F5 ct.w de J J ?_
 intro a0 c0 cq
 have H4:=dS H3 cq
 refine kq (fun _ x_=>lr (H4.ext x_) 1 J de J i2 J e1)<|kq (v:=.bool (oJ x0 lf)) (fun v_ x_=>?_) ?_
 ·
  have cc:=PE (a:=x0) (b:=lf) (w:=v_) (H4.ext x_).mb ((H4.ext x_).rv 0 rfl) ((H4.ext x_).rv 3 rfl) (by rw[aij,nI bV aP];exact anl _)<|by exact(bO bV).2.1 _ (dB aP)
  exact ca aiO J (ec J<|ec J e0) cc fun _ _ h_=>e2 h_
 refine kq (fun _ _=>jI J J e1)<|kq (fun _ _=>jG (v:=.bool (!(oJ x0 lf))) J J e1)<|zq ?_
 intro w0 bT
 have H5:=H4.ext bT
 refine nx<|rt<|r1 J J ?_
 exact⟨ani Value.bool (by rw[show mr.getD x_.toNat []=x0 from by rw[gZ,aP];rfl]),H5.below⟩
theorem xX {FT:OA} {FJ:Nat} {nd:List Int} (hM:eG M w) (hT:fP 0 w) (fY:aM mn) (gl:cA M w bA bz mr) (ac':cA M w FT FJ nd) (bV:bF mn mr=true) (amm:nd.length≤8192):Calls aK 56 #[.agg #[C mn,R bA mr bz],R FT nd FJ] w (cg fun v w'=>∃(a0:OA) (c0:Nat),v=.tuple #[.slice a0 ((dx mn mr nd).1).length c0,C ((dx mn mr nd).2)]∧Ext w w'∧bj M 3 w ((dx mn mr nd).1) (.slice a0 ((dx mn mr nd).1).length c0) w'):=by
 refine dm 76 Tryz.func56 J J J hM fun f0 ha H=>?_
 let J0:=iL bA mr bz
 have H0:=H.put (it:=J0) J<|by rw[bN];exact gl
 let J1:=iL FT nd FJ
 have H1:=H0.put (it:=J1) J<|by rw[aG rfl,bN];exact ac'
 have np:=bf gl
 have alJ:=bf ac'
 have i0:f0 0=.agg #[C mn,R bA mr bz]:=ha 0 bh
 have i1:f0 1=R FT nd FJ:=ha 1 bh
 have Jl:=(bO bV).2.2.1
 have hw_:words mn≤64:=by have h_:=(bO bV).2.2.1;unfold words;omega
 have ahM:=FZ bV
 refine aB<|k<|bx H1 J i0 ?_
 intro aX w0 bT (H2:HI M w w0 [box aX #[C mn,R bA mr bz] 26,J1,J0])
 let J2:=box aX #[C mn,R bA mr bz] 26
 refine au (v:=.slice none 0 0) J J<|au (v:=C 0) J J<|bp<|aS kh J J<|bl H2 0 J aV J J J<|k ?_
 have bP:=DC (n:=mn) H2.mb fY aq
 refine ca QG J (ec J e0) bP ?_
 rintro _ w1 ⟨a0,c0,rfl,da,cq⟩
 have H3:=H2.eL cq
 refine k<|al H3 de ?_
 let ba:=[J2,J1,J0]
 intro aZ w2 eR (H4:HI M w w2 (box aZ #[.slice none 0 0] 144::oL w 151 a0 (d_ mn) c0::ba))
 refine k<|bt H4 0 J de J J J J J J J ?_
 intro w3 (H5:HI M w w3 (box aZ #[R a0 (d_ mn) c0] 144::oL w 151 a0 (d_ mn) c0::ba))
 refine av<|sq<|aB<|ak J i1<|k<|dP J J cK<|ak (v:=C 0) J J<|av<|bk<|lp (fun m f w'=>∃(j_:Nat) (uV:List bY) (a1:OA) (c1:Nat),m=nd.length-j_∧f 1=R FT nd FJ∧f 2=pV aX 0∧f 6=pV aZ 0∧f 16=R FT nd FJ∧f 17=C (nd.length:Int)∧f 18=C (j_:Int)∧HI M w w' (box aZ #[R a1 uV c1] 144::oL w 151 a1 uV c1::ba)∧(j_≤nd.length)∧(Bz mn uV)∧(qT mn nd (d_ mn)=qT mn (nd.drop j_) uV)) _ ⟨0,(d_ mn),a0,c0,J,i1,J,J,J,J,(bJ J),H5,aq,(by exact ZV),(by rw[apW])⟩ ?_
 rintro _ f0 w4 ⟨j_,uV,a1,c1,rfl,s0,s1,s2,s3,s4,s5,H6,pB,hs,hb⟩
 refine aB<|k<|lss J J s5 s4<|av<|sq<|cd (b:=decide ((j_:Int)<(nd.length:Int))) J J (fun b0=>?_)<|fun b0=>?_
 ·
  have p0:=dT b0
  refine sk<|nx<|sq<|bk<|sq ?_
  have HQ:=hs.1
  refine rg<|k<|ia (H6.rv 3 J) J J s3 s5 aq cK aV ?_
  intro iC x0 aP ct
  refine k<|mV ct.w aV J J ?_
  intro dZ
  refine au (v:=C x0) J J<|av<|sq<|aB<|ak (v:=C x0) J J<|k<|lss J J J J<|ak (v:=.bool (decide (x0<0))) J J ?_
  rcases bE (decide (x0<0)) with b1|b1
  ·
   have p1:=dT b1
   refine aO J J J b1<|aO J J J b1<|aO J J J b1<|aO J J J b1<|k<|aR J J J J b1 J<|ak (v:=.bool true) J J<|aO J J J J<|aO J J J J<|aO J J J J<|k<|aR J J J J J J<|av<|nS J J J<|aB<|au (v:=.slice none 0 0) J J<|au (v:=C 1) J J<|av<|rt<|aL<|bQ<|aL<|dU<|bQ<|aL ?_
   have yL:=KM (rs:=mr) hb aP<|.inl aq
   refine r2 J J J ?_
   have e0:([]:List Int)=(dx mn mr nd).1:=by rw[yL]
   have e1:(1:Int)=(dx mn mr nd).2:=by rw[yL]
   have bo:=nA (fun (bW:List Int) (dK:Int)=>(.tuple #[.slice none bW.length 0,C dK]:Value)) e0 e1
   exact⟨none,0,bo,H6.below,(ani (fun (x_:List Int)=>bj _ _ _ x_ (.slice none x_.length 0) _) e0).mp (fN H6.below)⟩
  have p1:=dF b1
  refine aU J J J b1<|mv (v:=C x0) J J<|aU J J J b1<|fa kh J s1<|aU J J J b1<|lx H6 2 J aV J J J<|aU J J J b1<|geq J J J J<|k<|cJ J J J J b1 J<|ak (v:=.bool (decide (mn≤x0))) J J ?_
  rcases bE (decide (mn≤x0)) with b2|b2
  ·
   have p2:=dT b2
   refine aO J J J b2<|aO J J J b2<|aO J J J b2<|k<|aR J J J J b2 J<|av<|nS J J J<|aB<|au (v:=.slice none 0 0) J J<|au (v:=C 1) J J<|av<|rt<|aL<|bQ<|aL<|dU<|bQ<|aL ?_
   have yL:=KM (rs:=mr) hb aP<|.inr (.inl aq)
   refine r2 J J J ?_
   have e0:([]:List Int)=(dx mn mr nd).1:=by rw[yL]
   have e1:(1:Int)=(dx mn mr nd).2:=by rw[yL]
   have bo:=nA (fun (bW:List Int) (dK:Int)=>(.tuple #[.slice none bW.length 0,C dK]:Value)) e0 e1
   exact⟨none,0,bo,H6.below,(ani (fun (x_:List Int)=>bj _ _ _ x_ (.slice none x_.length 0) _) e0).mp (fN H6.below)⟩
  have p2:=dF b2
  refine aU J J J b2<|lx H6 0 J de J s2 J<|aU J J J b2<|mv (v:=C x0) J J<|aU J J J b2 ?_
  have H7:=H6.freeze 1 J
  have cS:=zG (r:=uV) (i:=x0) H7.mb (H7.rv 1 J) dZ
  refine ca Mh J (ec J<|ec J e0) cS ?_
  rintro _ w5 ⟨rfl,fH⟩
  have H8:=H6.ext fH
  refine k<|cJ J J J J b2 J<|z<|nx<|cd (b:=fg uV x0) J J (fun b3=>?_)<|fun b3=>?_
  ·
   refine aB<|au (v:=.slice none 0 0) J J<|au (v:=C 1) J J<|av<|rt<|aL<|bQ<|aL<|dU<|bQ<|aL ?_
   have yL:=KM (rs:=mr) hb aP<|.inr (.inr bq)
   refine r2 J J J ?_
   have e0:([]:List Int)=(dx mn mr nd).1:=by rw[yL]
   have e1:(1:Int)=(dx mn mr nd).2:=by rw[yL]
   have bo:=nA (fun (bW:List Int) (dK:Int)=>(.tuple #[.slice none bW.length 0,C dK]:Value)) e0 e1
   exact⟨none,0,bo,H8.below,(ani (fun (x_:List Int)=>bj _ _ _ x_ (.slice none x_.length 0) _) e0).mp (fN H8.below)⟩
  refine sk<|nx<|rg<|bl H8 0 J de J s2 J<|ak (v:=C x0) J J<|k ?_
  have H9:=H8.freeze 1 J
  have fS:=tY (r:=uV) (i:=x0) H9.mb (H9.rv 1 J) dZ aq
  refine ca Ft J (ec J<|ec J e0) fS ?_
  rintro _ w6 ⟨a2,c2,rfl,ja,dY⟩
  have dH:=H9.eL dY
  refine k<|bt dH 1 J de J J s2 J J J J ?_
  intro w7 (db:HI M w w7 (oL w 151 a2 (eb uV x0) c2::box aZ #[R a2 (eb uV x0) c2] 144::iL a1 uV c1::ba))
  refine z<|aJ<|nx<|rg<|k<|add J J s5 J aT<|ak (v:=C ((j_:Int)+1)) J J<|z ?_
  have dw:HI M w w7 (box aZ #[R a2 (eb uV x0) c2] 144::oL w 151 a2 (eb uV x0) c2::ba):=db.bU [1,0,3,4,5] aw rfl
  refine bB _ ?_ ⟨(j_+1),(eb uV x0),a2,c2,J,s0,s1,s2,s3,s4,(bJ J),dw,aq,(by exact ZU hs aq aq),(by exact Zm hb aP aq aq bq)⟩
  omega
 have p0:=dF b0
 refine ex<|aW<|bc<|bg<|nx<|sq ?_
 have HQ:=hs.1
 refine rg<|k<|cz H6 2 J bm J s1 aw J<|k ?_
 have cS:=Fg (mn:=mn) (mr:=mr) H6.mb (hT.ext H6.below) fY (H6.rv 4 J)<|by exact bV
 refine ca Wa J (ec J e0) cS ?_
 rintro _ w5 ⟨a2,c2,rfl,fH,dZ⟩
 have H7:=H6.eL dZ
 refine k<|al H7 bm ?_
 let J3:=oL w 144 a2 (gI mn mr) c2
 let J4:=box aZ #[R a1 uV c1] 144
 let bZ:=J3::J4::oL w 151 a1 uV c1::ba
 intro bD w6 ja (H8:HI M w w6 (box bD #[C 0,.slice none 0 0] 26::bZ))
 refine k<|bt H8 0 J bm J J J J J J J ?_
 let J5:=box bD #[C mn,R a2 (gI mn mr) c2] 26
 intro w7 (H9:HI M w w7 (J5::bZ))
 refine bp<|ak J s0<|k<|dP J J cK<|k<|mk0 (α:=Int) (m:=nd.length) H9 J J J J cK aV aq aq ?_
 intro g0 w8 ji (dH:HI M w w8 (own w.heap.size 3 (.slice (some ⟨g0,0,none⟩) 0 nd.length) ([]:List Int)::J5::bZ))
 refine au (v:=.slice (some ⟨g0,0,none⟩) 0 nd.length) J J<|av<|sq<|bk<|lp (fun m f w'=>∃(vN:List Int) (jt:List bY) (a3:OA) (c3:Nat) (a4:OA) (c4:Nat),m=nd.length-vN.length∧f 1=R FT nd FJ∧f 6=pV aZ 0∧f 9=pV bD 0∧f 10=R a3 vN c3∧HI M w w' [oL w 3 a3 vN c3,J5,J3,box aZ #[R a4 jt c4] 144,oL w 151 a4 jt c4,J2,J1,J0]∧(vN.length≤nd.length)∧(Bz mn jt)∧(dx mn mr nd=AF (gI mn mr) (nd.length-vN.length) jt vN)) _ ⟨([]:List Int),uV,(some ⟨g0,0,none⟩),nd.length,a1,c1,J,s0,s2,J,J,dH,bh,(by exact hs),(by exact UQ hb aq)⟩ ?_
 rintro _ f1 w9 ⟨vN,jt,a3,c3,a4,c4,rfl,s6,s7,s8,s9,db,ain,gK,ht⟩
 refine sq<|aB<|ak J s9<|k<|dP J J cK<|ak J s6<|k<|dP J J cK<|k<|lss J J J J<|z<|nx<|cd (b:=decide ((vN.length:Int)<(nd.length:Int))) J J (fun b1=>?_)<|fun b1=>?_
 ·
  have p1:=dT b1
  refine sk<|nx<|bk<|sq ?_
  have HQ:=gK.1
  refine rg<|bl db 3 J de J s7 J<|k ?_
  have dw:=db.freeze 4 J
  have fS:=tZ (r:=jt) dw.mb (hT.ext dw.below) (dw.rv 4 J) aq
  refine ca HT J (ec J e0) fS ?_
  rintro _ dL ⟨a5,c5,rfl,kb,dY⟩
  have dz:=db.eL<|bj.anyM dY
  refine k<|mf2 J (XL s8<|XL s7 mf0)<|k ?_
  have cM:=dz.freeze 0 J
  have eX:=vH (r:=(cV jt)) (p:=(fun (x_:Int)=>(!(oJ ((gI mn mr).getD x_.toNat []) jt)))) cM.mb (cM.rv 0 J) ⟨aiP,fun w_ v_ x_ th e_ Gw=>by have H_:=cM.ext e_;obtain⟨_,⟨rfl,fu⟩,rfl⟩:=Gw;exact PF (mn:=mn) (mr:=(gI mn mr)) (lf:=jt) (M:=fun _=>False) (fun _ h_=>h_.elim) fu bq ((H_.mw 3 J).lift (Up.less fun _ _ h_=>h_.elim)) ((H_.mw 5 J).lift (Up.less fun _ _ h_=>h_.elim)) ⟨H_.at_ 2 rfl,fun h_=>h_⟩ ⟨H_.at_ 4 rfl,fun h_=>h_⟩ (by exact ahM) (by exact gK.2 _ th) (by exact gK.1)⟩
  refine ca V9 J (ec J<|ec J e0) eX ?_
  rintro _ ef ⟨rfl,ma⟩
  have dW:=dz.ext ma
  refine au (v:=C (eA (fun (x_:Int)=>(!(oJ ((gI mn mr).getD x_.toNat []) jt)))<|cV jt)) J J<|av<|sq<|sq ?_
  have amw:=Z6 (p:=(fun (x_:Int)=>(!(oJ ((gI mn mr).getD x_.toNat []) jt)))) (r:=cV jt)
  have aih:=fun (q_:Nat) (x_:Int) (h_:(cV jt)[q_]? =some x_)=>abW gK h_
  refine rg<|ak (v:=C (eA (fun (x_:Int)=>(!(oJ ((gI mn mr).getD x_.toNat []) jt)))<|cV jt)) J J<|k<|lss J J J J<|z<|nx<|cd (b:=decide ((eA (fun (x_:Int)=>(!(oJ ((gI mn mr).getD x_.toNat []) jt)))<|cV jt)<0)) J J (fun b2=>?_)<|fun b2=>?_
  ·
   have p2:=dT b2
   refine aB<|au (v:=.slice none 0 0) J J<|au (v:=C 7) J J<|av<|rt<|aL<|bQ<|dU<|bQ<|aL ?_
   have yL:=aeT ht aq<|show eA (fun (x_:Int)=>(!(oJ ((gI mn mr).getD x_.toNat []) jt))) (cV jt)<0 from by omega
   refine r2 J J J ?_
   have e0:([]:List Int)=(dx mn mr nd).1:=by rw[yL]
   have e1:(7:Int)=(dx mn mr nd).2:=by rw[yL]
   have bo:=nA (fun (bW:List Int) (dK:Int)=>(.tuple #[.slice none bW.length 0,C dK]:Value)) e0 e1
   exact⟨none,0,bo,dW.below,(ani (fun (x_:List Int)=>bj _ _ _ x_ (.slice none x_.length 0) _) e0).mp (fN dW.below)⟩
  have p2:=dF b2
  refine sk<|cO<|bl dW 4 J de J s7 J<|k ?_
  have dt:=dW.freeze 5 J
  have kI:=tZ (r:=jt) dt.mb (hT.ext dt.below) (dt.rv 5 J) aq
  refine ca HT J (ec J e0) kI ?_
  rintro _ fh ⟨a6,c6,rfl,nr,je⟩
  have cR:=dW.eL<|bj.anyM je
  refine ak (v:=C (eA (fun (x_:Int)=>(!(oJ ((gI mn mr).getD x_.toNat []) jt)))<|cV jt)) J J<|k<|ij (cR.at_ 0 J) J J J J aq cK aV ?_
  intro g1 x0 iq aP ct
  refine k<|mV ct aV J J ?_
  intro jT
  refine au (v:=C x0) J J<|av<|sq ?_
  obtain⟨ah0,ahZ⟩:=aih _ _ aP
  have al':=VJ gK ah0 ahZ
  refine rg<|bl cR 5 J de J s7 J<|ak (v:=C x0) J J<|k<|K3 J J J J<|k<|ij (cR.at_ 6 J) J J J J aq ic fl ?_
  intro g2 x1 kG cP gL
  refine k<|yo gL fl J J<|ak (v:=C x0) J J<|k<|Km J J J J<|k<|Pb J J zB Dz<|k<|abd (1#64) ((BitVec.ofInt 64<|x0%64).toNat:Int) aq J J J J<|k<|aaI x1 ((1#64) <<< ((BitVec.ofInt 64<|x0%64).toNat:Int).toNat) J J J J<|k<|ij (cR.at_ 6 J) J J J J aq ic fl ?_
  intro g3 x2 BF iA kR
  refine k<|pt cR 6 J BF J aq fl J J J J (RV.bv.2 J) ?_
  let J6:=box aZ #[R a4 jt c4] 144
  let J7:=own w.heap.size 151 (.slice a4 jt.length c4) (jt.set ((x0/64).toNat) (x1 &&& ~~~((1#64) <<< ((BitVec.ofInt 64 (x0%64)).toNat:Int).toNat)))
  intro iz (dM:HI M w iz [oL w 3 a6 (cV jt) c6,oL w 3 a5 (cV jt) c5,oL w 3 a3 vN c3,J5,J3,J6,J7,J2,J1,J0])
  refine av<|rg<|ak J s9<|ak (v:=C x0) J J<|k<|bs (xs:=([x0]:List Int)) (cells:=#[C x0]) (e:=3) dM J (cj J eh) (fun _=>aC) ⟨[C x0],[],J,⟨J,(show aM (x0) from bq)⟩,J⟩ J aw ?_
  intro g4 jw tD dI
  refine k<|lA dI 3 J J J J J J (gP<|dI.at_ 0 J) cK aV J (by simp;omega) J ?_
  intro a7 c7 pZ (cF:HI M w pZ [own w.heap.size 3 (.slice (some ⟨g4,0,none⟩) 1 1) ([x0]:List Int),oL w 3 a6 (cV jt) c6,oL w 3 a5 (cV jt) c5,oL w 3 a7 (vN++([x0]:List Int)) c7,J5,J3,J6,J7,J2,J1,J0])
  refine au (v:=R a7 (vN++([x0]:List Int)) c7) J J<|z<|aJ ?_
  have dV:HI M w pZ [oL w 3 a7 (vN++([x0]:List Int)) c7,J5,J3,J6,J7,J2,J1,J0]:=cF.bU [3,4,5,6,7,8,9,10] aw rfl
  have dG:HI M w pZ [oL w 3 a7 (vN++([x0]:List Int)) c7,J5,J3,box aZ #[R a4 (jt.set ((x0/64).toNat) (x1 &&& ~~~((1#64) <<< ((BitVec.ofInt 64 (x0%64)).toNat:Int).toNat))) c4] 144,own w.heap.size 151 (.slice a4 (jt.set ((x0/64).toNat) (x1 &&& ~~~((1#64) <<< ((BitVec.ofInt 64 (x0%64)).toNat:Int).toNat))).length c4) (jt.set ((x0/64).toNat) (x1 &&& ~~~((1#64) <<< ((BitVec.ofInt 64 (x0%64)).toNat:Int).toNat))),J2,J1,J0]:=by simpa +zetaDelta only[R,anj] using dV
  refine bB _ ?_ ⟨(vN++([x0]:List Int)),(jt.set ((x0/64).toNat) (x1 &&& ~~~((1#64) <<< ((BitVec.ofInt 64<|x0%64).toNat:Int).toNat))),a7,c7,a4,c4,J,s6,s7,s8,J,dG,(by rw[fA,iM,gr];omega),(by exact ZW gK ‹_›),(by exact Zl ht aq (show ¬eA (fun (x_:Int)=>(!(oJ ((gI mn mr).getD x_.toNat []) jt))) (cV jt)<0 from by omega) aP ‹_›)⟩
  rw[fA,iM,gr];omega
 have p1:=dF b1
 refine ex<|aW<|bc<|bg<|cO<|ak J s9<|au (v:=R a3 vN c3) J J<|au (v:=C 0) J J<|av<|rt ?_
 have yL:=aa6 ht aq
 refine r2 J J J ?_
 have e0:(vN:List Int)=(dx mn mr nd).1:=by rw[yL]
 have e1:(0:Int)=(dx mn mr nd).2:=by rw[yL]
 have bo:=nA (fun (bW:List Int) (dK:Int)=>(.tuple #[.slice a3 bW.length c3,C dK]:Value)) e0 e1
 exact⟨a3,c3,bo,db.below,(ani (fun (x_:List Int)=>bj _ _ _ x_ (.slice a3 x_.length c3) _) e0).mp (db.df 0 J)⟩
theorem HX:gO aK 107 0 0:=⟨_,_,Tryz.underlying107,rfl,rfl,aC⟩
theorem ur:gO aK 107 1 3:=⟨_,_,Tryz.underlying107,rfl,rfl,aC⟩
theorem afM:cu aK 130:=⟨_,_,Tryz.func130,rfl,aC⟩
theorem QK:cu aK 56:=⟨_,_,Tryz.func56,rfl,aC⟩
theorem FY:ei aK 103 1 false 8 (.pointer none):=⟨aC,aC⟩
theorem PC:ei aK 63 1 false 8 (.nilFunc):=⟨aC,aC⟩
theorem Yz:cu aK 132:=⟨_,_,Tryz.func132,rfl,aC⟩
theorem afL:cu aK 134:=⟨_,_,Tryz.func134,rfl,aC⟩
theorem aiN:cu aK 92:=⟨_,_,Tryz.func92,rfl,aC⟩
theorem aiM:cu aK 93:=⟨_,_,Tryz.func93,rfl,aC⟩
theorem T5 {MR:Nat} {Xt:TypeId} {Xb:OA} {WT:Nat} {dn:List Int} (hM:eG M w) (ac6:aM x_) (aiB:cA M w Xb WT dn) (aiI:w.heap[MR]? =some (.cells #[R Xb dn WT] Xt (0,0))∧¬M MR):Calls aK 130 #[C x_,.pointer (some ⟨MR,0,none⟩)] w (cg fun v w'=>v=.bool (dn.any (fun (z_:Int)=>decide (x_=z_)))∧Ext w w'):=by
 refine dm 7 Tryz.func130 J J J hM fun f0 ha H=>?_
 have H0:=dS H aiB
 have i0:f0 0=C x_:=ha 0 bh
 have H1:=H0.put (it:=ro MR #[R Xb dn WT] Xt) J<|by rw[aG rfl,bN];exact aiI
 have i1:f0 1=pV MR 0:=ha 1 bh
 refine aB<|au (v:=.bool false) J J<|bp<|k<|lr H1 0 J qm J i1 J<|ak J i0<|k ?_
 have bP:=C9 (rA:=dn) (tE:=x_) H1.mb (H1.rv 1 J) ac6
 refine ca YA J (ec J<|ec J e0) bP ?_
 rintro _ w0 ⟨rfl,bT⟩
 have H2:=H1.ext bT
 refine au (v:=.bool (dn.any<|fun (z_:Int)=>decide (x_=z_))) J J<|av<|rt<|r1 J J ?_
 exact⟨ani Value.bool (show (dn.any<|fun (z_:Int)=>decide (x_=z_))=(dn.any<|fun (z_:Int)=>decide (x_=z_)) from rfl),H2.below⟩
theorem WO (hM:eG M w) (hT:fP 0 w) (dy:cA M w ay ax I) (fZ:cA M w aA az U) (km:aM cn) (nF:cA M w dq dp cr) (tO:aM o) (kZ:w.heap[eE]? =some (.cells #[.slice aE aF aD,R ay I ax,R aA U az,C cn,R dq cr dp] l4 (0,0))∧¬M eE) (ho:gX I) (du:I.length≤64) (eu:U.length=I.length) (fG:∀x∈U,x<((I.length:Nat):Int)) (oe:cn=((I.length:Nat):Int)) (pC:cr=cp I U) (nP:0≤o∧o<((I.length:Nat):Int)):Calls aK 92 #[.pointer (some ⟨eE,0,none⟩),C o] w (cg fun v w'=>∃(ls:List Int) (a0:OA) (c0:Nat),v=R a0 ls c0∧Ext w w'∧bj M 3 w ls (R a0 ls c0) w'∧ls.length≤300000):=by
 refine dm 58 Tryz.func92 J J J hM fun f0 ha H=>?_
 let J0:=iL ay I ax
 have H0:=H.put (it:=J0) J<|by rw[bN];exact dy
 let J1:=iL aA U az
 have H1:=H0.put (it:=J1) J<|by rw[aG rfl,bN];exact fZ
 let J2:=iL dq cr dp
 have H2:=H1.put (it:=J2) J<|by rw[aG rfl,aG rfl,bN];exact nF
 have iU:=bf dy
 have kE:=bf fZ
 have A5:=bf nF
 let J3:=ro eE #[.slice aE aF aD,R ay I ax,R aA U az,C cn,R dq cr dp] l4
 have H3:=H2.put (it:=J3) J<|by rw[aG rfl,aG rfl,aG rfl,bN];exact kZ
 have i0:f0 0=pV eE 0:=ha 0 bh
 have i1:f0 1=C o:=ha 1 bh
 have kY:bF cn cr=true:=by rw[oe,pC];exact pj U aq
 have lk_:=A8 ho du nP
 have XB:=aeZ (U:=U) (o:=o) du
 have amu:(aY (fJ I) (cw I o)++([o]:List Int)).length≤65:=by rw[fA];simp only[iM,gr];omega
 refine aB<|au (v:=.slice none 0 0) J J<|av<|sq<|mg [.r,.r,.r,.r,.r,.r,.r,.r,.r,.r,.r,.r,.s,.s,.s,.n,.e,.s,.s,.s] (fun _=>True) J aC (fun _ _=>trivial)<|yq J J<|kq (fun _ _=>mv J i0 e1)<|bM<|kq (fun _ _=>nc J J e1)<|bM<|kq (fun _ _=>fa HX J J e1)<|bM<|kq (fun _ x_=>vS (H3.ext x_) 0 J dN J J aw J e1)<|bM<|kq (fun _ _=>mv J i0 e1)<|bM<|kq (fun _ _=>nc J J e1)<|bM<|kq (fun _ _=>fa ur J J e1)<|bM<|kq (fun _ x_=>vS (H3.ext x_) 0 J bm J J aw J e1)<|bM<|kq (fun _ _=>mv J i1 e1)<|zq<|yu J (fun N v w'=>∃(o0:List dX) (o1:Int) (a0:OA) (c0:Nat) (a1:OA) (c1:Nat),v=.tuple #[.agg #[C ((I.length:Nat):Int),R a0 (cU I U o) c0],R a1 o0 c1,C o1,C 0]∧o0.length≤2000000000∧aM o1∧ot I.length o0∧RV (MN H3.fV N) w' (R a0 (cU I U o) c0) (cU I U o)∧RV (MN H3.fV N) w' (R a1 o0 c1) o0) J ⟨by rintro _ _ _ _ x_ ⟨o0,o1,a0,c0,a1,c1,e_,q0,q1,q2,dY,fu⟩;exact⟨o0,o1,a0,c0,a1,c1,e_,q0,q1,q2,dY.lift (Up.ext x_),fu.lift (Up.ext x_)⟩,by rintro _ _ _ _ _ k_ ⟨o0,o1,a0,c0,a1,c1,e_,q0,q1,q2,dY,fu⟩;exact⟨o0,o1,a0,c0,a1,c1,e_,q0,q1,q2,gV dY k_,gV fu k_⟩⟩ J (fun v_ _ x_ n_=>have cS:=HB (I:=I) (U:=U) (mn:=cn) (mr:=cr) (o:=o) (aE:=aE) (aF:=aF) (aD:=aD) (w:=v_) (kC H3.mb x_ n_) (hT.ext (H3.below.trans x_)) (kc (H3.rv 3 J) x_ n_) (kc (H3.rv 2 J) x_ n_) km (kc (H3.rv 1 J) x_ n_) tO (by exact ho) (by exact du) (by exact eu) (by exact fG) (by exact oe) (by exact pC) aq;ca QQ rfl (ec J<|ec J<|ec J e0) cS (fun _ w1 ⟨o2,o3,a2,c2,a3,c3,e_,da,je,jT,q3,q4,q5⟩=>⟨_,J,da,⟨o2,o3,a2,c2,a3,c3,e_,q3,q4,q5,je,jT⟩⟩))<|lF J (fun N v w'=>∃(o4:List dX) (o5:Int) (a4:OA) (c4:Nat) (a5:OA) (c5:Nat),v=.tuple #[.agg #[C ((I.length:Nat):Int),R a4 (cU I U o) c4],R a5 o4 c5,C o5,C 0]∧o4.length≤2000000000∧aM o5∧ot I.length o4∧RV (MN H3.fV N) w' (R a4 (cU I U o) c4) (cU I U o)∧RV (MN H3.fV N) w' (R a5 o4 c5) o4) 0 J J ⟨by rintro _ _ _ _ x_ ⟨o4,o5,a4,c4,a5,c5,e_,q6,q7,q8,jd,lq⟩;exact⟨o4,o5,a4,c4,a5,c5,e_,q6,q7,q8,jd.lift (Up.ext x_),lq.lift (Up.ext x_)⟩,by rintro _ _ _ _ _ k_ ⟨o4,o5,a4,c4,a5,c5,e_,q6,q7,q8,jd,lq⟩;exact⟨o4,o5,a4,c4,a5,c5,e_,q6,q7,q8,gV jd k_,gV lq k_⟩⟩ J (fun _ _ _ _ _ h_=>let ⟨o6,o7,a6,c6,a7,c7,s0,q9,uL,xa,oC,pw⟩:=h_;mv rfl s0 ⟨_,J,Ext.refl _,⟨o6,o7,a6,c6,a7,c7,J,q9,uL,xa,oC,pw⟩⟩)<|lF J (fun N v w'=>∃(a8:OA) (c8:Nat),v=.agg #[C ((I.length:Nat):Int),R a8 (cU I U o) c8]∧RV (MN H3.fV N) w' (R a8 (cU I U o) c8) (cU I U o)) 0 J J kO J (fun _ _ _ _ _ h_=>let ⟨kf,eO,i',iZ,l3,lX,s1,Cl,Ck,ya,mR,pT⟩:=h_;xt rfl s1 rfl ⟨_,J,Ext.refl _,⟨i',iZ,J,mR⟩⟩)<|lF J (fun N v w'=>∃(jM:List dX) (jP:OA) (jO:Nat),v=R jP jM jO∧jM.length≤2000000000∧ot I.length jM∧RV (MN H3.fV N) w' (R jP jM jO) jM) 1 J J ⟨by rintro _ _ _ _ x_ ⟨jM,jP,jO,e_,wZ,wY,oD⟩;exact⟨jM,jP,jO,e_,wZ,wY,oD.lift (Up.ext x_)⟩,by rintro _ _ _ _ _ k_ ⟨jM,jP,jO,e_,wZ,wY,oD⟩;exact⟨jM,jP,jO,e_,wZ,wY,gV oD k_⟩⟩ J (fun _ _ _ _ _ h_=>let ⟨Cy,Ee,la,k0,tz,tw,s2,D',q22,Lg,wW,AO⟩:=h_;xt rfl s2 rfl ⟨_,J,Ext.refl _,⟨Cy,tz,tw,J,D',Lg,AO⟩⟩)<|lF J (fun _ v _=>∃(Cx:Int),v=C Cx∧aM Cx) 2 J J mE J (fun _ _ _ _ _ h_=>let ⟨Su,IX,YX,YR,Uy,T',s3,q27,R',q29,abk,abj⟩:=h_;xt rfl s3 rfl ⟨_,J,Ext.refl _,⟨IX,J,R'⟩⟩)<|Rj J (X:=C 0) 3 J J (fun _ _ _ _ _ h_=>let ⟨Ss,Oq,a22,c22,a23,c23,s4,q33,q34,q35,abi,abh⟩:=h_;xt rfl s4 rfl e1)<|yn (z:=#[C 0,.slice none 0 0]) J J (fun _=>Pr bm)<|ye<|lF J (fun N v w'=>∃(mG:List dX) (a24:OA) (yN:Nat),v=R a24 mG yN∧mG.length≤2000000000∧ot I.length mG∧RV (MN H3.fV N) w' (R a24 mG yN) mG) 2 J J ⟨by rintro _ _ _ _ x_ ⟨mG,a24,yN,e_,Cj,Ci,wV⟩;exact⟨mG,a24,yN,e_,Cj,Ci,wV.lift (Up.ext x_)⟩,by rintro _ _ _ _ _ k_ ⟨mG,a24,yN,e_,Cj,Ci,wV⟩;exact⟨mG,a24,yN,e_,Cj,Ci,gV wV k_⟩⟩ J (fun _ _ _ _ _ h_=>let ⟨Lq,a25,EC,s5,R_,R9,Lc⟩:=h_;jG rfl s5 ⟨_,J,Ext.refl _,⟨Lq,a25,EC,J,R_,R9,Lc⟩⟩)<|lF J (fun _ v _=>∃(si:Int),v=C si∧aM si) 2 J J mE J (fun _ _ _ _ _ h_=>let ⟨tF,s6,R8⟩:=h_;jG rfl s6 ⟨_,J,Ext.refl _,⟨tF,J,R8⟩⟩)<|yq J J<|kq (fun _ _=>jG (v:=C 0) J J e1)<|zq<|yz ?_
 intro w2 f0 _ eR _ _ cB iN
 obtain⟨aZ,s7,CS,sy,BH⟩:=iN 2 _ _ rfl
 have pD:=Pg (z:=#[C 0,.slice none 0 0]) (T:=26) CS sy BH<|Ph
 let ba:=[J3,J2,J1,J0]
 have db:HI M w w2 (box aZ #[C 0,.slice none 0 0] 26::ba):=H3.DK eR pD (Ow Ov Ox)
 have s8:=(cB 0 J).trans i0
 have s9:=(cB 1 J).trans i1
 obtain⟨a26,G',eo,Lb⟩:=iN 5 _ _ rfl
 let J4:=iL a26 (cU I U o) G'
 have dw:=db.put (it:=J4) J<|rW Lb pD
 refine j5<|bt dw 1 J bm J J s7 eo J J J ?_
 let J5:=box aZ #[C ((I.length:Nat):Int),R a26 (cU I U o) G'] 26
 intro w3 (dz:HI M w w3 (J4::J5::ba))
 refine kz<|cO<|k<|al dz qm ?_
 intro bD w4 fH (cM:HI M w w4 (box bD #[.slice none 0 0] 27::J4::J5::ba))
 refine av<|sq<|aB<|ak J s8<|k<|nc J J<|aS HX J J<|k<|vS cM 3 J dN J J aw J<|ak J s9<|k ?_
 have fS:=Co (I:=I) (o:=o) (aE:=aE) (aF:=aF) (aD:=aD) (aA:=aA) (eU:=U.length) (az:=az) cM.mb (cM.rv 6 J) tO (by exact ho) aq
 refine ca Wd J (ec J<|ec J e0) fS ?_
 rintro _ w5 ⟨Ar,An,rfl,ja,U0⟩
 have dW:=cM.eL U0
 refine ak J s9<|k<|bs (xs:=([o]:List Int)) (cells:=#[C o]) (e:=3) dW J (cj J eh) (fun _=>aC) ⟨[C o],[],J,⟨J,tO⟩,J⟩ J aw ?_
 intro g0 w6 ji dt
 refine k<|lA dt 1 J J J J J J (gP<|dt.at_ 0 J) cK aV J (by simp only[iM,gr];omega) J ?_
 let J6:=own w.heap.size 3 (.slice (some ⟨g0,0,none⟩) 1 1) ([o]:List Int)
 intro a28 re w7 (cR:HI M w w7 (J6::oL w 3 a28 (aY (fJ I) (cw I o)++([o]:List Int)) re::box bD #[.slice none 0 0] 27::J4::J5::ba))
 refine k<|dP J J cK<|ak (v:=C 0) J J<|av<|bk ?_
 have dM:=cR.rl Int 3
 let bZ:=J4::box aZ #[C ((I.length:Nat):Int),R a26 (cU I U o) G'] 26::ba
 refine lp (fun m f w'=>∃(j_:Nat) (iu:List Int) (oU:OA) (oS:Nat),m=(aY (fJ I) (cw I o)++([o]:List Int)).length-j_∧f 5=pV aZ 0∧f 9=pV bD 0∧f 36=R a28 (aY (fJ I) (cw I o)++([o]:List Int)) re∧f 37=C ((aY (fJ I) (cw I o)++([o]:List Int)).length:Int)∧f 38=C (j_:Int)∧HI M w w' (oL w 3 oU iu oS::own w.heap.size 3 (.slice (some ⟨g0,0,none⟩) 1 1) ([o]:List Int)::oL w 3 a28 (aY (fJ I) (cw I o)++([o]:List Int)) re::box bD #[R oU iu oS] 27::bZ)∧(j_≤(aY (fJ I) (cw I o)++([o]:List Int)).length)∧(iu.length≤4096*j_)) _ ⟨0,([]:List Int),none,0,J,s7,J,J,J,(bJ J),dM,aq,(by exact aoD _)⟩ ?_
 rintro _ f1 w8 ⟨j_,iu,oU,oS,rfl,fb,fM,fL,gB,gT,dI,pB,hs⟩
 refine aB<|k<|lss J J gT gB<|av<|sq<|cd (b:=decide ((j_:Int)<((aY (fJ I) (cw I o)++([o]:List Int)).length:Int))) J J (fun b0=>?_)<|fun b0=>?_
 ·
  have p0:=dT b0
  refine sk<|nx<|sq<|bk<|aB<|k<|ij (dI.at_ 2 J) J J fL gT aq cK aV ?_
  intro g1 x0 iq aP ct
  refine k<|mV ct aV J J ?_
  intro La
  refine au (v:=C x0) J J<|bp<|k<|cz dI 5 J bm J fb aw J<|ak (v:=C x0) J J<|k ?_
  have eX:=uM (mn:=((I.length:Nat):Int)) (mr:=(cU I U o)) (o:=x0) dI.mb (hT.ext dI.below) aT (dI.rv 4 J) La<|by exact XB
  refine ca Mi J (ec J<|ec J e0) eX ?_
  rintro _ w9 ⟨j1,jZ,rfl,kb,E2⟩
  have cF:=dI.eL E2
  refine k<|mf2 J (XL fM mf0)<|k ?_
  let J7:=box bD #[R oU iu oS] 27
  have dV:HI M w w9 ([oL w 3 j1 (bL ((I.length:Nat):Int) (cU I U o) x0) jZ]++[oL w 3 oU iu oS,J6,oL w 3 a28 (aY (fJ I) (cw I o)++([o]:List Int)) re,J7,J4,J5,J3,J2,J1,J0]):=cF.bU [0,1,2,3,4,5,6,7,8,9,10] aw rfl
  have kI:=oO (dR:=j1) (dJ:=jZ) (xs:=(bL ((I.length:Nat):Int) (cU I U o) x0)) (qf:=130) (qj:=[pV bD 0]) (p:=(fun (x_:Int)=>(iu.any<|fun (z_:Int)=>decide (x_=z_)))) (w:=w) (w_:=w9) (r:=[oL w 3 oU iu oS,own w.heap.size 3 (.slice (some ⟨g0,0,none⟩) 1 1) ([o]:List Int),oL w 3 a28 (aY (fJ I) (cw I o)++([o]:List Int)) re,J7,J4,box aZ #[C ((I.length:Nat):Int),R a26 (cU I U o) G'] 26,J3,J2,J1,J0]) (M:=M) ⟨afM,fun w_ qX H_ x_ th Eh=>T5 (dn:=iu) (M:=fun _=>False) (fun _ h_=>h_.elim) Eh ((H_.mw 1 J).lift (Up.less fun _ _ h_=>h_.elim)) ⟨H_.at_ 4 rfl,fun h_=>h_⟩⟩ dV
  refine ca GI J (ec J<|ec J e0) kI ?_
  rintro _ dL ⟨rfl,dG⟩
  have eS:HI M w dL (oL w 3 j1 (aY (fun (x_:Int)=>(iu.any (fun (z_:Int)=>decide (x_=z_)))) (bL ((I.length:Nat):Int) (cU I U o) x0)) jZ::oL w 3 oU iu oS::own w.heap.size 3 (.slice (some ⟨g0,0,none⟩) 1 1) ([o]:List Int)::oL w 3 a28 (aY (fJ I) (cw I o)++([o]:List Int)) re::J7::bZ):=dG
  refine au (v:=R j1 (aY (fun (x_:Int)=>(iu.any<|fun (z_:Int)=>decide (x_=z_)))<|bL ((I.length:Nat):Int) (cU I U o) x0) jZ) J J<|bp<|k<|cz eS 6 J bm J fb aw J<|ak (v:=R j1 (aY (fun (x_:Int)=>(iu.any<|fun (z_:Int)=>decide (x_=z_)))<|bL ((I.length:Nat):Int) (cU I U o) x0) jZ) J J<|k ?_
  have ff:=eS.freeze 0 J
  have nk:=xX (mn:=((I.length:Nat):Int)) (mr:=(cU I U o)) (nd:=(aY (fun (x_:Int)=>(iu.any<|fun (z_:Int)=>decide (x_=z_)))<|bL ((I.length:Nat):Int) (cU I U o) x0)) ff.mb (hT.ext ff.below) aT (ff.rv 5 J) (ff.rv 0 J) (by exact XB)<|by exact Nat.le_trans (uC XB x0 _) aw
  refine ca QK J (ec J<|ec J e0) nk ?_
  rintro _ ef ⟨a31,Jv,rfl,ma,E1⟩
  have ga:=ff.eL E1
  refine ak (v:=.tuple #[R a31 ((dx ((I.length:Nat):Int) (cU I U o)<|aY (fun (x_:Int)=>(iu.any<|fun (z_:Int)=>decide (x_=z_)))<|bL ((I.length:Nat):Int) (cU I U o) x0).1) Jv,C ((dx ((I.length:Nat):Int) (cU I U o)<|aY (fun (x_:Int)=>(iu.any<|fun (z_:Int)=>decide (x_=z_)))<|bL ((I.length:Nat):Int) (cU I U o) x0).2)]) J J<|k<|xt J J J<|k<|xt J J J<|au (v:=R a31 ((dx ((I.length:Nat):Int) (cU I U o)<|aY (fun (x_:Int)=>(iu.any<|fun (z_:Int)=>decide (x_=z_)))<|bL ((I.length:Nat):Int) (cU I U o) x0).1) Jv) J J<|z<|nx ?_
  have ama:=uC XB x0<|fun (x_:Int)=>(iu.any<|fun (z_:Int)=>decide (x_=z_))
  have amb:=KL (n:=((I.length:Nat):Int)) (rs:=cU I U o) (nd:=aY (fun (x_:Int)=>(iu.any<|fun (z_:Int)=>decide (x_=z_))) (bL ((I.length:Nat):Int) (cU I U o) x0))
  refine rg<|bl ga 5 J qm J fM J<|ak (v:=R a31 ((dx ((I.length:Nat):Int) (cU I U o)<|aY (fun (x_:Int)=>(iu.any<|fun (z_:Int)=>decide (x_=z_)))<|bL ((I.length:Nat):Int) (cU I U o) x0).1) Jv) J J<|k<|lA ga 2 J J J J J J (gP<|ga.at_ 0 J) cK aV J aq J ?_
  intro a32 oR fh (iI:HI M w fh (oL w 3 a31 ((dx ((I.length:Nat):Int) (cU I U o) (aY (fun (x_:Int)=>(iu.any (fun (z_:Int)=>decide (x_=z_)))) (bL ((I.length:Nat):Int) (cU I U o) x0))).1) Jv::iL j1 (aY (fun (x_:Int)=>(iu.any (fun (z_:Int)=>decide (x_=z_)))) (bL ((I.length:Nat):Int) (cU I U o) x0)) jZ::oL w 3 a32 (iu++(dx ((I.length:Nat):Int) (cU I U o) (aY (fun (x_:Int)=>(iu.any (fun (z_:Int)=>decide (x_=z_)))) (bL ((I.length:Nat):Int) (cU I U o) x0))).1) oR::own w.heap.size 3 (.slice (some ⟨g0,0,none⟩) 1 1) ([o]:List Int)::oL w 3 a28 (aY (fJ I) (cw I o)++([o]:List Int)) re::J7::bZ))
  refine k<|bt iI 5 J qm J J fM J J J J ?_
  intro iz (iE:HI M w iz (oL w 3 a31 ((dx ((I.length:Nat):Int) (cU I U o) (aY (fun (x_:Int)=>(iu.any (fun (z_:Int)=>decide (x_=z_)))) (bL ((I.length:Nat):Int) (cU I U o) x0))).1) Jv::iL j1 (aY (fun (x_:Int)=>(iu.any (fun (z_:Int)=>decide (x_=z_)))) (bL ((I.length:Nat):Int) (cU I U o) x0)) jZ::oL w 3 a32 (iu++(dx ((I.length:Nat):Int) (cU I U o) (aY (fun (x_:Int)=>(iu.any (fun (z_:Int)=>decide (x_=z_)))) (bL ((I.length:Nat):Int) (cU I U o) x0))).1) oR::own w.heap.size 3 (.slice (some ⟨g0,0,none⟩) 1 1) ([o]:List Int)::oL w 3 a28 (aY (fJ I) (cw I o)++([o]:List Int)) re::box bD #[R a32 (iu++(dx ((I.length:Nat):Int) (cU I U o) (aY (fun (x_:Int)=>(iu.any (fun (z_:Int)=>decide (x_=z_)))) (bL ((I.length:Nat):Int) (cU I U o) x0))).1) oR] 27::bZ))
  refine z<|aJ<|nx<|rg<|k<|add J J gT J aT<|ak (v:=C ((j_:Int)+1)) J J<|z ?_
  have kU:HI M w iz (oL w 3 a32 (iu++(dx ((I.length:Nat):Int) (cU I U o) (aY (fun (x_:Int)=>(iu.any (fun (z_:Int)=>decide (x_=z_)))) (bL ((I.length:Nat):Int) (cU I U o) x0))).1) oR::own w.heap.size 3 (.slice (some ⟨g0,0,none⟩) 1 1) ([o]:List Int)::oL w 3 a28 (aY (fJ I) (cw I o)++([o]:List Int)) re::box bD #[R a32 (iu++(dx ((I.length:Nat):Int) (cU I U o) (aY (fun (x_:Int)=>(iu.any (fun (z_:Int)=>decide (x_=z_)))) (bL ((I.length:Nat):Int) (cU I U o) x0))).1) oR] 27::bZ):=iE.bU [2,3,4,5,6,7,8,9,10,11] aw rfl
  refine bB _ ?_ ⟨(j_+1),(iu++(dx ((I.length:Nat):Int) (cU I U o)<|aY (fun (x_:Int)=>(iu.any<|fun (z_:Int)=>decide (x_=z_)))<|bL ((I.length:Nat):Int) (cU I U o) x0).1),a32,oR,J,fb,fM,fL,gB,(bJ J),kU,aq,(by rw[fA];omega)⟩
  omega
 refine ex<|aW<|bc<|bg<|cO<|bl dI 3 J qm J fM J<|au (v:=R oU iu oS) J J<|av<|rt<|r1 J J ?_
 exact⟨iu,oU,oS,J,dI.below,(dI.df 0 J),aq⟩
theorem C' {MQ:Nat} {Xs:TypeId} {fr:Int} {Xo:TypeId} (hM:eG M w) (ac4:aM xx) (aiA:aM fr) (dy:cA M w ay ax I) (fZ:cA M w aA az U) (km:aM cn) (nF:cA M w dq dp cr) (aiH:w.heap[MQ]? =some (.cells #[C fr] Xs (0,0))∧¬M MQ) (aiD:w.heap[kn]? =some (.cells #[.pointer (some ⟨eE,0,none⟩)] Xo (0,0))∧¬M kn) (kZ:w.heap[eE]? =some (.cells #[.slice aE aF aD,R ay I ax,R aA U az,C cn,R dq cr dp] l4 (0,0))∧¬M eE) (kY:bF cn cr=true):Calls aK 132 #[C xx,.pointer (some ⟨MQ,0,none⟩),.pointer (some ⟨kn,0,none⟩)] w (cg fun v w'=>v=.bool (decide (0≤fr)&&(decide (xx=fr)||eF cn cr fr xx))∧Ext w w'):=by
 refine dm 21 Tryz.func132 J J J hM fun f0 ha H=>?_
 have H0:=dS H dy
 have H1:=dS H0 fZ
 have H2:=dS H1 nF
 have i0:f0 0=C xx:=ha 0 bh
 have H3:=H2.put (it:=ro MQ #[C fr] Xs) J<|by rw[aG rfl,aG rfl,aG rfl,bN];exact aiH
 have i1:f0 1=pV MQ 0:=ha 1 bh
 have H4:=H3.put (it:=ro eE #[.slice aE aF aD,R ay I ax,R aA U az,C cn,R dq cr dp] l4) J<|by rw[aG rfl,aG rfl,aG rfl,aG rfl,bN];exact kZ
 have H5:=H4.put (it:=ro kn #[pV eE 0] Xo) J<|by rw[aG rfl,aG rfl,aG rfl,aG rfl,aG rfl,bN];exact aiD
 have i2:f0 2=pV kn 0:=ha 2 bh
 refine aB<|au (v:=.bool false) J J<|av<|sq<|BT J aC<|kq (fun _ x_=>lr (H5.ext x_) 2 J aV J i1 J e1)<|kq (fun _ _=>geq J J J J e1)<|kq (fun _ _=>mv (v:=.bool (decide (0≤fr))) J J e1) ?_
 rcases bE (decide (0≤fr)) with b0|b0
 ·
  refine qy J J J b0<|kq (fun _ _=>mv J i0 e1)<|qy J J J b0<|kq (fun _ x_=>lr (H5.ext x_) 2 J aV J i1 J e1)<|qy J J J b0<|kq (fun _ _=>eql J J J J e1)<|qy J J J b0<|kq (fun _ _=>mv (v:=.bool (decide (xx=fr))) J J e1) ?_
  rcases bE (decide (xx=fr)) with b1|b1
  ·
   refine qn J J J b1<|qn J J J b1<|qn J J J b1<|qn J J J b1<|qn J J J b1<|qn J J J b1<|qn J J J b1<|qy J J J b0<|kq (fun _ _=>aR J J J J b1 J e1)<|kq (fun _ _=>aR J J J J b0 J e1)<|kq (fun _ _=>jG (v:=.bool true) J J e1)<|zq ?_
   intro w0 bT
   have H6:=H5.ext bT
   refine nx<|rt<|r1 J J ?_
   exact⟨ani Value.bool (by simp only[b0,b1,BL]),H6.below⟩
  refine qy J J J b1<|kq (fun _ x_=>lr (H5.ext x_) 0 J FY J i2 J e1)<|qy J J J b1<|kq (fun _ _=>nc J J e1)<|qy J J J b1<|kq (fun _ _=>fa ur J J e1)<|qy J J J b1<|kq (fun _ x_=>vS (H5.ext x_) 1 J bm J J aw J e1)<|qy J J J b1<|kq (fun _ x_=>lr (H5.ext x_) 2 J aV J i1 J e1)<|qy J J J b1<|kq (fun _ _=>mv J i0 e1)<|qy J J J b1<|kq (v:=.bool (eF cn cr fr xx)) (fun v_ x_=>?_) ?_
  ·
   have cc:=ud (mn:=cn) (mr:=cr) (i:=fr) (j:=xx) (w:=v_) (H5.ext x_).mb km ((H5.ext x_).rv 3 rfl) aiA ac4 (by exact(bO kY).1) (by exact(bO kY).2.1)<|by exact(bO kY).2.2.1
   exact ca Fw J (ec J<|ec J<|ec J e0) cc fun _ _ h_=>e2 h_
  refine qy J J J b0<|kq (fun _ _=>cJ J J J J b1 J e1)<|kq (fun _ _=>aR J J J J b0 J e1)<|kq (fun _ _=>jG (v:=.bool (eF cn cr fr xx)) J J e1)<|zq ?_
  intro w0 bT
  have H6:=H5.ext bT
  refine nx<|rt<|r1 J J ?_
  exact⟨ani Value.bool (by simp only[b0,b1,BL]),H6.below⟩
 refine qn J J J b0<|qn J J J b0<|qn J J J b0<|qn J J J b0<|qu J J J<|qu J J J<|qu J J J<|qu J J J<|qu J J J<|qu J J J<|qu J J J<|qn J J J b0<|kq (fun _ _=>cJ J J J J b0 J e1)<|kq (fun _ _=>jG (v:=.bool false) J J e1)<|zq ?_
 intro w0 bT
 have H6:=H5.ext bT
 refine nx<|rt<|r1 J J ?_
 exact⟨ani Value.bool (by simp only[b0,BL]),H6.below⟩
theorem MC {MP:Nat} {Xr:TypeId} {Wj:Nat} {Xh:List Value} {pp:Int→Bool} (hM:eG M w) (ac4:aM xx) (ac9:FP aK Wj Xh M w [xx] pp) (aiG:w.heap[MP]? =some (.cells #[.func (.func Wj) #[] Xh.toArray] Xr (0,0))∧¬M MP):Calls aK 134 #[C xx,.pointer (some ⟨MP,0,none⟩)] w (cg fun v w'=>v=.bool (!(pp xx))∧Ext w w'):=by
 refine dm 8 Tryz.func134 J J J hM fun f0 ha H=>?_
 have i0:f0 0=C xx:=ha 0 bh
 have H0:=H.put (it:=ro MP #[.func (.func Wj) #[] Xh.toArray] Xr) J<|by rw[bN];exact aiG
 have i1:f0 1=pV MP 0:=ha 1 bh
 refine aB<|au (v:=.bool false) J J<|bp<|k<|lr H0 0 J PC J i1 J<|ak J i0<|k<|cf ac9.1 J J J (ec J e0) (ac9.2 _ _ _ (by exact aoz.2 rfl) H0.below<|(RV.int.2 ⟨J,aT⟩).lift H0.out) ?_
 rintro _ w0 ⟨rfl,bT⟩
 have H1:=H0.ext bT
 refine k<|jI J J<|au (v:=.bool (!(pp xx))) J J<|av<|rt<|r1 J J ?_
 exact⟨ani Value.bool (show (!(pp xx))=(!(pp xx)) from rfl),H1.below⟩
theorem NM (hM:eG M w) (hT:fP 0 w) (dy:cA M w ay ax I) (fZ:cA M w aA az U) (km:aM cn) (nF:cA M w dq dp cr) (tO:aM o) (kZ:w.heap[eE]? =some (.cells #[.slice aE aF aD,R ay I ax,R aA U az,C cn,R dq cr dp] l4 (0,0))∧¬M eE) (ho:gX I) (du:I.length≤64) (eu:U.length=I.length) (fG:∀x∈U,x<((I.length:Nat):Int)) (oe:cn=((I.length:Nat):Int)) (pC:cr=cp I U) (nP:0≤o∧o<((I.length:Nat):Int)):Calls aK 93 #[.pointer (some ⟨eE,0,none⟩),C o] w (cg fun v w'=>∃(ls:List Int) (a0:OA) (c0:Nat),v=R a0 ls c0∧Ext w w'∧bj M 3 w ls (R a0 ls c0) w'∧ls.length≤300000):=by
 refine dm 53 Tryz.func93 J J J hM fun f0 ha H=>?_
 let J0:=iL ay I ax
 have H0:=H.put (it:=J0) J<|by rw[bN];exact dy
 let J1:=iL aA U az
 have H1:=H0.put (it:=J1) J<|by rw[aG rfl,bN];exact fZ
 let J2:=iL dq cr dp
 have H2:=H1.put (it:=J2) J<|by rw[aG rfl,aG rfl,bN];exact nF
 let J3:=ro eE #[.slice aE aF aD,R ay I ax,R aA U az,C cn,R dq cr dp] l4
 have H3:=H2.put (it:=J3) J<|by rw[aG rfl,aG rfl,aG rfl,bN];exact kZ
 have i0:f0 0=pV eE 0:=ha 0 bh
 have i1:f0 1=C o:=ha 1 bh
 have kY:bF cn cr=true:=by rw[oe,pC];exact pj U aq
 refine aB<|k<|bx H3 J i0 ?_
 let ba:=[J3,J2,J1,J0]
 intro aX w0 bT (H4:HI M w w0 (box aX #[pV eE 0] 103::ba))
 let J4:=box aX #[pV eE 0] 103
 refine au (v:=.slice none 0 0) J J<|bp<|bl H4 0 J FY J J J<|k<|nc J J<|aS HX J J<|aS tq J J<|k<|lr H4 1 J qm J J J<|ak J i1<|k<|ia (H4.rv 3 J) J J J J aq cK aV ?_
 intro iC x0 aP ct
 refine k<|mV ct.w aV J J ?_
 intro cq
 refine k<|al H4 aV ?_
 intro aZ w1 da (H5:HI M w w1 (box aZ #[C 0] 3::J4::ba))
 refine k<|bt H5 0 J aV J J J J J J J ?_
 let J5:=box aZ #[C x0] 3
 let bZ:=J5::J4::ba
 intro w2 (H6:HI M w w2 bZ)
 refine bp<|k<|mf J<|k<|al H6 PC ?_
 intro bD w3 eR (H7:HI M w w3 (box bD #[.nilFunc] 63::bZ))
 refine k<|bt H7 0 J PC J J J J J J J ?_
 let J6:=box bD #[.func (.func 132) #[] #[pV aZ 0,pV aX 0]] 63
 intro w4 (H8:HI M w w4 (J6::bZ))
 refine bp<|bl H8 2 J FY J J J<|k<|nc J J<|aS ur J J<|k<|vS H8 3 J bm J J aw J<|ak J i1<|k ?_
 have bP:=uM (mn:=cn) (mr:=cr) (o:=o) H8.mb (hT.ext H8.below) km (H8.rv 4 J) tO<|by exact kY
 refine ca Mi J (ec J<|ec J e0) bP ?_
 rintro _ w5 ⟨a0,c0,rfl,fH,dZ⟩
 have H9:=H8.eL dZ
 refine au (v:=R a0 (bL cn cr o) c0) J J<|av<|sq<|mg [.f,.f,.f,.f,.r,.r,.r,.e,.e,.e,.e,.e,.e,.e] (fun w'=>HI M w w' [J4,J3]) J aC (fun _ x_=>(H9.bU (l':=[J4,J3]) [3,4] aw J).ext x_)<|yf J (fun _ i_=>lx i_ 0 J FY J J J e3)<|yf J (fun _ _=>nc J J e3)<|yf J (fun _ _=>fa ur J J e3)<|yf J (fun _ i_=>vS i_ 1 J bm J J aw J e3)<|yq J J<|kq (fun _ _=>mv (v:=R a0 (bL cn cr o) c0) J J e1)<|zq<|yu J (fun _ v w'=>∃(a1:OA) (c1:Nat),v=R a1 (bL cn cr o) c1∧bj H9.fV 3 w5 (bL cn cr o) (.slice a1 (bL cn cr o).length c1) w') J (mN<|by rintro _ _ _ x_ ⟨a1,c1,e_,fu⟩;exact⟨a1,c1,e_,fu.LJ x_⟩) J (fun v_ _ x_ _=>have fS:=Ju (l:=(bL cn cr o)) (w:=v_) ((H9.ext x_).freeze 0 rfl).mb (((H9.ext x_).freeze 0 rfl).rv 0 rfl) (by have h_:=uD kY o;omega);ca Yy rfl (ec J e0) fS (fun _ w7 ⟨a2,c2,e_,ji,je⟩=>⟨_,J,ji,⟨a2,c2,e_,(bj.anyM<|bj.base je x_)⟩⟩))<|yq J J<|kq (fun _ x_=>lx (H9.ext x_) 1 J PC J J J e1)<|zq<|ye<|ye<|ye<|ye<|ye<|ye<|ye<|yz ?_
 intro w8 f0 _ kb _ _ cB iN
 obtain⟨a3,c3,s0,jd⟩:=iN 0 _ _ rfl
 have dW:=H9.eL<|bj.anyM jd
 have s1:=cB 2 J
 have s2:=cB 6 J
 have s3:=cB 7 J
 have s4:=cB 31 J
 have s5:=cB 34 J
 refine ke ?_
 let J7:=oL w 3 a0 (bL cn cr o) c0
 have dt:HI M w w8 ([oL w 3 a3 (bL cn cr o) c3]++[J7,J6,J5,J4,J3,J2,J1,J0]):=dW.bU [0,1,2,3,4,5,6,7,8] aw rfl
 have eX:=oO (dR:=a3) (dJ:=c3) (xs:=(bL cn cr o)) (qf:=132) (qj:=[pV aZ 0,pV aX 0]) (p:=(fun (x_:Int)=>(decide (0≤x0)&&(decide (x_=x0)||eF cn cr x0 x_)))) (w:=w) (w_:=w8) (r:=[J7,J6,J5,J4,J3,J2,J1,J0]) (M:=M) ⟨Yz,fun w_ qX H_ x_ th Eh=>C' (fr:=x0) (I:=I) (U:=U) (cn:=cn) (cr:=cr) (M:=fun _=>False) (fun _ h_=>h_.elim) Eh bq ((H_.rv 8 J).lift (Up.less fun _ _ h_=>h_.elim)) ((H_.rv 7 J).lift (Up.less fun _ _ h_=>h_.elim)) bq ((H_.rv 6 J).lift (Up.less fun _ _ h_=>h_.elim)) ⟨H_.at_ 3 rfl,fun h_=>h_⟩ ⟨H_.at_ 4 rfl,fun h_=>h_⟩ ⟨(H_.at_ 5 J).1,fun h_=>h_⟩ (by exact kY)⟩ dt
 refine ca GI J (ec s0<|ec s5 e0) eX ?_
 rintro _ w9 ⟨rfl,cR⟩
 have dM:HI M w w9 (oL w 3 a3 (aY (fun (x_:Int)=>(decide (0≤x0)&&(decide (x_=x0)||eF cn cr x0 x_))) (bL cn cr o)) c3::J7::J6::bZ):=cR
 refine⟨dM.bU [4,5] aw rfl,?_⟩
 refine ke ?_
 have dI:=dM.freeze 0 J
 have kI:=xX (mn:=cn) (mr:=cr) (nd:=(aY (fun (x_:Int)=>(decide (0≤x0)&&(decide (x_=x0)||eF cn cr x0 x_)))<|bL cn cr o)) dI.mb (hT.ext dI.below) km (dI.rv 6 J) (dI.rv 0 J) (by exact kY)<|by exact Nat.le_trans (uC kY o _) aw
 refine ca QK J (ec s4<|ec J e0) kI ?_
 rintro _ dL ⟨a4,c4,rfl,ma,lq⟩
 have cF:=dM.eL<|bj.anyM lq
 refine⟨cF.bU [5,6] aw rfl,?_⟩
 refine ke<|mv (v:=.tuple #[R a4 ((dx cn cr<|aY (fun (x_:Int)=>(decide (0≤x0)&&(decide (x_=x0)||eF cn cr x0 x_)))<|bL cn cr o).1) c4,C ((dx cn cr<|aY (fun (x_:Int)=>(decide (0≤x0)&&(decide (x_=x0)||eF cn cr x0 x_)))<|bL cn cr o).2)]) J J ?_
 refine⟨cF.bU [5,6] aw rfl,?_⟩
 refine ke<|xt J J J ?_
 refine⟨cF.bU [5,6] aw rfl,?_⟩
 refine ke<|xt J J J ?_
 refine⟨cF.bU [5,6] aw rfl,?_⟩
 refine ke<|jG (v:=R a4 ((dx cn cr<|aY (fun (x_:Int)=>(decide (0≤x0)&&(decide (x_=x0)||eF cn cr x0 x_)))<|bL cn cr o).1) c4) J J ?_
 refine⟨cF.bU [5,6] aw rfl,?_⟩
 refine ke<|jG (v:=C ((dx cn cr<|aY (fun (x_:Int)=>(decide (0≤x0)&&(decide (x_=x0)||eF cn cr x0 x_)))<|bL cn cr o).2)) J J ?_
 refine⟨cF.bU [5,6] aw rfl,?_⟩
 refine kz<|nx<|sq<|mg [.f,.f,.f,.f,.r,.r,.e,.e,.e,.e,.e,.e,.e] (fun w'=>HI M w w' [J4,J3]) J aC (fun _ x_=>(cF.bU (l':=[J4,J3]) [5,6] aw J).ext x_)<|yf J (fun _ i_=>lx i_ 0 J FY J s1 J e3)<|yf J (fun _ _=>nc J J e3)<|yf J (fun _ _=>fa ur J J e3)<|yf J (fun _ i_=>vS i_ 1 J bm J J aw J e3)<|yq J J<|kq (fun _ _=>mv J s3 e1)<|bM<|kq (fun _ _=>mf2 J (XL s2 mf0) e1)<|zq<|ye<|ye<|ye<|ye<|ye<|ye<|ye<|yz ?_
 intro ef f1 _ nr _ _ fF zY
 have dV:=cF.ext nr
 have s6:=fF 8 J
 have s7:=fF 43 J
 have s8:=fF 44 J
 have s9:=fF 45 J
 refine ke ?_
 have dG:HI M w ef ([J7]++[oL w 3 a4 ((dx cn cr (aY (fun (x_:Int)=>(decide (0≤x0)&&(decide (x_=x0)||eF cn cr x0 x_))) (bL cn cr o))).1) c4,oL w 3 a3 (aY (fun (x_:Int)=>(decide (0≤x0)&&(decide (x_=x0)||eF cn cr x0 x_))) (bL cn cr o)) c3,J6,J5,J4,J3,J2,J1,J0]):=dV.bU [2,0,1,3,4,5,6,7,8,9] aw rfl
 have nk:=oO (dR:=a0) (dJ:=c0) (xs:=(bL cn cr o)) (qf:=134) (qj:=[pV bD 0]) (p:=(fun (x_:Int)=>(!((fun (x_:Int)=>(decide (0≤x0)&&(decide (x_=x0)||eF cn cr x0 x_))) x_)))) (w:=w) (w_:=ef) (r:=[oL w 3 a4 ((dx cn cr<|aY (fun (x_:Int)=>(decide (0≤x0)&&(decide (x_=x0)||eF cn cr x0 x_)))<|bL cn cr o).1) c4,oL w 3 a3 (aY (fun (x_:Int)=>(decide (0≤x0)&&(decide (x_=x0)||eF cn cr x0 x_)))<|bL cn cr o) c3,J6,J5,J4,J3,J2,J1,J0]) (M:=M) ⟨afL,fun w_ qX H_ x_ th Eh=>MC (pp:=(fun (x_:Int)=>(decide (0≤x0)&&(decide (x_=x0)||eF cn cr x0 x_)))) (M:=fun _=>False) (fun _ h_=>h_.elim) Eh ⟨Yz,fun w_ v_ x_ th e_ Gw=>by have H_:=H_.ext e_;obtain⟨_,⟨rfl,oC⟩,rfl⟩:=Gw;exact C' (fr:=x0) (I:=I) (U:=U) (cn:=cn) (cr:=cr) (M:=fun _=>False) (fun _ h_=>h_.elim) oC bq ((H_.rv 9 J).lift (Up.less fun _ _ h_=>h_.elim)) ((H_.rv 8 J).lift (Up.less fun _ _ h_=>h_.elim)) bq ((H_.rv 7 J).lift (Up.less fun _ _ h_=>h_.elim)) ⟨H_.at_ 4 rfl,fun h_=>h_⟩ ⟨H_.at_ 5 rfl,fun h_=>h_⟩ ⟨(H_.at_ 6 J).1,fun h_=>h_⟩ (by exact kY)⟩ ⟨H_.at_ 3 rfl,fun h_=>h_⟩⟩ dG
 refine ca GI J (ec s8<|ec s9 e0) nk ?_
 rintro _ fh ⟨rfl,eS⟩
 have ff:HI M w fh (oL w 3 a0 (aY (fun (x_:Int)=>(!((fun (x_:Int)=>(decide (0≤x0)&&(decide (x_=x0)||eF cn cr x0 x_))) x_))) (bL cn cr o)) c0::oL w 3 a4 ((dx cn cr (aY (fun (x_:Int)=>(decide (0≤x0)&&(decide (x_=x0)||eF cn cr x0 x_))) (bL cn cr o))).1) c4::oL w 3 a3 (aY (fun (x_:Int)=>(decide (0≤x0)&&(decide (x_=x0)||eF cn cr x0 x_))) (bL cn cr o)) c3::J6::bZ):=eS
 refine⟨ff.bU [5,6] aw rfl,?_⟩
 refine ke ?_
 have ga:=ff.freeze 0 J
 have Am:=xX (mn:=cn) (mr:=cr) (nd:=(aY (fun (x_:Int)=>(!((fun (x_:Int)=>(decide (0≤x0)&&(decide (x_=x0)||eF cn cr x0 x_))) x_)))<|bL cn cr o)) ga.mb (hT.ext ga.below) km (ga.rv 7 J) (ga.rv 0 J) (by exact kY)<|by exact Nat.le_trans (uC kY o _) aw
 refine ca QK J (ec s7<|ec J e0) Am ?_
 rintro _ iz ⟨a5,c5,rfl,tD,pw⟩
 have iI:=ff.eL<|bj.anyM pw
 refine⟨iI.bU [6,7] aw rfl,?_⟩
 refine ke<|mv (v:=.tuple #[R a5 ((dx cn cr<|aY (fun (x_:Int)=>(!((fun (x_:Int)=>(decide (0≤x0)&&(decide (x_=x0)||eF cn cr x0 x_))) x_)))<|bL cn cr o).1) c5,C ((dx cn cr<|aY (fun (x_:Int)=>(!((fun (x_:Int)=>(decide (0≤x0)&&(decide (x_=x0)||eF cn cr x0 x_))) x_)))<|bL cn cr o).2)]) J J ?_
 refine⟨iI.bU [6,7] aw rfl,?_⟩
 refine ke<|xt J J J ?_
 refine⟨iI.bU [6,7] aw rfl,?_⟩
 refine ke<|xt J J J ?_
 refine⟨iI.bU [6,7] aw rfl,?_⟩
 refine ke<|jG (v:=R a5 ((dx cn cr<|aY (fun (x_:Int)=>(!((fun (x_:Int)=>(decide (0≤x0)&&(decide (x_=x0)||eF cn cr x0 x_))) x_)))<|bL cn cr o).1) c5) J J ?_
 refine⟨iI.bU [6,7] aw rfl,?_⟩
 refine ke<|jG (v:=C ((dx cn cr<|aY (fun (x_:Int)=>(!((fun (x_:Int)=>(decide (0≤x0)&&(decide (x_=x0)||eF cn cr x0 x_))) x_)))<|bL cn cr o).2)) J J ?_
 refine⟨iI.bU [6,7] aw rfl,?_⟩
 refine kz<|nx<|sq ?_
 have h1_:=Ry kY o<|fun (x_:Int)=>(decide (0≤x0)&&(decide (x_=x0)||eF cn cr x0 x_))
 have lz:=Ry kY o<|fun (x_:Int)=>(!((fun (x_:Int)=>(decide (0≤x0)&&(decide (x_=x0)||eF cn cr x0 x_))) x_))
 refine rg<|ak J s6<|ak (v:=R a5 ((dx cn cr<|aY (fun (x_:Int)=>(!((fun (x_:Int)=>(decide (0≤x0)&&(decide (x_=x0)||eF cn cr x0 x_))) x_)))<|bL cn cr o).1) c5) J J<|k<|lA iI 2 J J J J J J (gP<|iI.at_ 0 J) cK aV J aq J ?_
 intro a6 c6 jw (iE:HI M w jw (oL w 3 a5 ((dx cn cr (aY (fun (x_:Int)=>(!((fun (x_:Int)=>(decide (0≤x0)&&(decide (x_=x0)||eF cn cr x0 x_))) x_))) (bL cn cr o))).1) c5::oL w 3 a0 (aY (fun (x_:Int)=>(!((fun (x_:Int)=>(decide (0≤x0)&&(decide (x_=x0)||eF cn cr x0 x_))) x_))) (bL cn cr o)) c0::oL w 3 a6 ((dx cn cr (aY (fun (x_:Int)=>(decide (0≤x0)&&(decide (x_=x0)||eF cn cr x0 x_))) (bL cn cr o))).1++(dx cn cr (aY (fun (x_:Int)=>(!((fun (x_:Int)=>(decide (0≤x0)&&(decide (x_=x0)||eF cn cr x0 x_))) x_))) (bL cn cr o))).1) c6::oL w 3 a3 (aY (fun (x_:Int)=>(decide (0≤x0)&&(decide (x_=x0)||eF cn cr x0 x_))) (bL cn cr o)) c3::J6::bZ))
 refine au (v:=R a6 ((dx cn cr<|aY (fun (x_:Int)=>(decide (0≤x0)&&(decide (x_=x0)||eF cn cr x0 x_)))<|bL cn cr o).1++(dx cn cr<|aY (fun (x_:Int)=>(!((fun (x_:Int)=>(decide (0≤x0)&&(decide (x_=x0)||eF cn cr x0 x_))) x_)))<|bL cn cr o).1) c6) J J<|av<|rt<|r1 J J ?_
 exact⟨((dx cn cr<|aY (fun (x_:Int)=>(decide (0≤x0)&&(decide (x_=x0)||eF cn cr x0 x_)))<|bL cn cr o).1++(dx cn cr<|aY (fun (x_:Int)=>(!((fun (x_:Int)=>(decide (0≤x0)&&(decide (x_=x0)||eF cn cr x0 x_))) x_)))<|bL cn cr o).1),a6,c6,J,iE.below,(iE.df 2 J),(by rw[fA];omega)⟩
theorem WN (hM:eG M w) (hT:fP 0 w) (dy:cA M w ay ax I) (fZ:cA M w aA az U) (km:aM cn) (nF:cA M w dq dp cr) (tO:aM o) (pe:aM lv) (kZ:w.heap[eE]? =some (.cells #[.slice aE aF aD,R ay I ax,R aA U az,C cn,R dq cr dp] l4 (0,0))∧¬M eE) (ho:gX I) (du:I.length≤64) (eu:U.length=I.length) (fG:∀x∈U,x<((I.length:Nat):Int)) (oe:cn=((I.length:Nat):Int)) (pC:cr=cp I U) (nP:0≤o∧o<((I.length:Nat):Int)):Calls aK 57 #[.pointer (some ⟨eE,0,none⟩),C o,C lv] w (cg fun v w'=>∃(ls:List Int) (a0:OA) (c0:Nat),v=R a0 ls c0∧Ext w w'∧bj M 3 w ls (R a0 ls c0) w'∧ls.length≤300000):=by
 refine dm 15 Tryz.func57 J J J hM fun f0 ha H=>?_
 have H0:=dS H dy
 have H1:=dS H0 fZ
 have H2:=dS H1 nF
 have H3:=H2.put (it:=ro eE #[.slice aE aF aD,R ay I ax,R aA U az,C cn,R dq cr dp] l4) J<|by rw[aG rfl,aG rfl,aG rfl,bN];exact kZ
 have i0:f0 0=pV eE 0:=ha 0 bh
 have i1:f0 1=C o:=ha 1 bh
 have i2:f0 2=C lv:=ha 2 bh
 refine aB<|au (v:=.slice none 0 0) J J<|av<|sq<|aB<|ak J i2<|k<|eql J J J J<|z<|nx<|cd (b:=decide (lv=3)) J J (fun b0=>?_)<|fun b0=>?_
 ·
  refine aB<|ak J i0<|ak J i1<|k ?_
  have bP:=WO (I:=I) (U:=U) (cn:=cn) (cr:=cr) (o:=o) H3.mb (hT.ext H3.below) (H3.rv 3 J) (H3.rv 2 J) km (H3.rv 1 J) tO (H3.at_ 0 J) (by exact ho) (by exact du) (by exact eu) (by exact fG) (by exact oe) (by exact pC) aq
  refine ca aiN J (ec J<|ec J e0) bP ?_
  rintro _ w0 ⟨o0,a0,c0,rfl,bT,cq,q0⟩
  have H4:=H3.eL cq
  refine au (v:=R a0 o0 c0) J J<|av<|rt<|aL<|r1 J J ?_
  exact⟨o0,a0,c0,J,H4.below,(H4.df 0 J),bq⟩
 refine sk<|cO<|ak J i0<|ak J i1<|k ?_
 have bP:=NM (I:=I) (U:=U) (cn:=cn) (cr:=cr) (o:=o) H3.mb (hT.ext H3.below) (H3.rv 3 J) (H3.rv 2 J) km (H3.rv 1 J) tO (H3.at_ 0 J) (by exact ho) (by exact du) (by exact eu) (by exact fG) (by exact oe) (by exact pC) aq
 refine ca aiM J (ec J<|ec J e0) bP ?_
 rintro _ w0 ⟨o0,a0,c0,rfl,bT,cq,q0⟩
 have H4:=H3.eL cq
 refine au (v:=R a0 o0 c0) J J<|av<|rt<|r1 J J ?_
 exact⟨o0,a0,c0,J,H4.below,(H4.df 0 J),bq⟩
theorem vA:ei aK 30 5 true 88 (.agg #[.int .i64 0,.int .i64 0,.slice none 0 0,.slice none 0 0,.slice none 0 0]):=⟨aC,aC⟩
theorem aiY:cu aK 54:=⟨_,_,Tryz.func54,rfl,aC⟩
theorem aiX:cu aK 55:=⟨_,_,Tryz.func55,rfl,aC⟩
theorem adL:gO aK 30 2 3:=⟨_,_,Tryz.underlying30,rfl,rfl,aC⟩
theorem TE:gO aK 30 3 4:=⟨_,_,Tryz.underlying30,rfl,rfl,aC⟩
theorem aa2:ei aK 28 1 false 24 (.slice none 0 0):=⟨aC,aC⟩
theorem aiW:cu aK 57:=⟨_,_,Tryz.func57,rfl,aC⟩
theorem ahC:aK.underlying 28=some (.slice 27):=aC
theorem WJ (hM:eG M w) (hT:fP 0 w) (dy:cA M w ay ax I) (fZ:cA M w aA az U) (fY:aM mn) (gl:cA M w bA bz mr) (ho:gX I) (du:I.length≤64) (eu:U.length=I.length) (fG:∀x∈U,x<((I.length:Nat):Int)) (BJ:mn=((I.length:Nat):Int)) (BI:mr=cp I U):Calls aK 55 #[.agg #[.slice aE aF aD,R ay I ax,R aA U az],.agg #[C mn,R bA mr bz]] w (cg fun v w'=>∃(on:Int) (om:List (List bY)) (er:Int) (a0:OA) (c0:Nat),v=.tuple #[.agg #[C on,R a0 om c0],C er]∧Ext w w'∧cA M w' a0 c0 om∧bF on om=true∧aM on∧aM er):=by
 refine dm 39 Tryz.func55 J J J hM fun f0 ha H=>?_
 let J0:=iL ay I ax
 have H0:=H.put (it:=J0) J<|by rw[bN];exact dy
 let J1:=iL aA U az
 have H1:=H0.put (it:=J1) J<|by rw[aG rfl,bN];exact fZ
 let J2:=iL bA mr bz
 have H2:=H1.put (it:=J2) J<|by rw[aG rfl,aG rfl,bN];exact gl
 have iU:=bf dy
 have kE:=bf fZ
 have np:=bf gl
 have i0:f0 0=.agg #[.slice aE aF aD,R ay I ax,R aA U az]:=ha 0 bh
 have i1:f0 1=.agg #[C mn,R bA mr bz]:=ha 1 bh
 have bV:bF mn mr=true:=by rw[BJ,BI];exact pj U aq
 have E3:=oP bV
 refine aB<|k<|bx H2 J i0 ?_
 let ba:=[J2,J1,J0]
 intro aX w0 bT (H3:HI M w w0 (box aX #[.slice aE aF aD,R ay I ax,R aA U az] 47::ba))
 let J3:=box aX #[.slice aE aF aD,R ay I ax,R aA U az] 47
 refine k<|bx H3 J i1 ?_
 let bZ:=J3::ba
 intro aZ w1 da (H4:HI M w w1 (box aZ #[C mn,R bA mr bz] 26::bZ))
 let J4:=box aZ #[C mn,R bA mr bz] 26
 refine k<|al H4 bm ?_
 let dE:=J4::bZ
 intro bD w2 eR (H5:HI M w w2 (box bD #[C 0,.slice none 0 0] 26::dE))
 let J5:=box bD #[C 0,.slice none 0 0] 26
 refine au (v:=C 0) J J<|bp<|k<|cz H5 1 J bm J J aw J<|k ?_
 have bP:=wo (mn:=mn) (mr:=mr) H5.mb fY (H5.rv 3 J)<|by exact bV
 refine ca QJ J (ec J e0) bP ?_
 rintro _ w3 ⟨a0,c0,rfl,fH,cq⟩
 have H6:=H5.eL cq
 refine k<|al H6 bm ?_
 let iO:=oL w 144 a0 (fc mn mr) c0::J5::dE
 intro fe w4 ja (H7:HI M w w4 (box fe #[C 0,.slice none 0 0] 26::iO))
 refine k<|bt H7 0 J bm J J J J J J J ?_
 intro w5 (H8:HI M w w5 (box fe #[C mn,R a0 (fc mn mr) c0] 26::iO))
 refine av<|sq<|aB<|k<|cz H8 4 J dN J J aw J<|k<|cz H8 3 J bm J J aw J<|k ?_
 have cS:=uB (I:=I) (U:=U) (mn:=mn) (mr:=mr) (aE:=aE) (aF:=aF) (aD:=aD) H8.mb (hT.ext H8.below) (H8.rv 7 J) (H8.rv 6 J) fY (H8.rv 5 J) aq (by exact eu) (by exact fG)<|by exact bV
 refine ca QH J (ec J<|ec J e0) cS ?_
 rintro _ w6 ⟨a1,c1,rfl,ji,dZ⟩
 have H9:=H8.eL dZ
 refine k<|dP J J ej<|ak (v:=C 0) J J<|av<|bk ?_
 have dH:=H9.freeze 2 J
 let J6:=iL a0 (fc mn mr) c0
 have db:=dH.put (it:=J6) J<|dH.rv 2 J
 let J7:=oL w 122 a1 (cH I U mn mr) c1
 let fk:=J6::J5::dE
 refine lp (fun m f w'=>∃(q_:Nat) (fR:Int) (fE:List (List bY)) (a2:OA) (c2:Nat),m=(cH I U mn mr).length-q_∧f 4=pV bD 0∧f 6=pV fe 0∧f 15=R a1 (cH I U mn mr) c1∧f 16=C ((cH I U mn mr).length:Int)∧f 17=C (q_:Int)∧HI M w w' (iL a2 fE c2::J7::box fe #[C fR,R a2 fE c2] 26::fk)∧(q_≤(cH I U mn mr).length)∧(fR=mn∧fE=lZ mn (fc mn mr) ((cH I U mn mr).take q_))) _ ⟨0,mn,(fc mn mr),a0,c0,J,J,J,J,J,(bJ J),db,aq,(by exact⟨J,J⟩)⟩ ?_
 rintro _ f0 w7 ⟨q_,fR,fE,a2,c2,rfl,s0,s1,s2,s3,s4,dw,so,n9⟩
 refine sq ?_
 have OR:=qM (I:=I) (U:=U) bV;have QB:=OR.1
 have r6:=YQ eu fG BJ BI OR
 refine rg<|k<|lss J J s4 s3<|av<|sq<|cd (b:=decide ((q_:Int)<((cH I U mn mr).length:Int))) J J (fun b0=>?_)<|fun b0=>?_
 ·
  have p0:=dT b0
  refine sk<|nx<|sq<|bk<|aB<|k<|ij (dw.at_ 1 J) J J s2 s4 aq ej cI ?_
  intro g0 x0 iq aP ct
  refine k<|nt ct cI J J ?_
  intro v0 dY
  obtain⟨_,⟨_,_,rfl,⟨rfl,fu⟩,⟨_,_,rfl,⟨rfl,je⟩,⟨rfl,jT⟩⟩⟩,rfl⟩:=dY
  refine k<|al dw cI ?_
  let kJ:=iL a2 fE c2::J7::box fe #[C fR,R a2 fE c2] 26::fk
  intro gM w8 kb (dz:HI M w w8 (box gM #[C 0,C 0,C 0] 122::kJ))
  refine k<|bt dz 0 J cI J J J J J J J ?_
  intro w9 (cM:HI M w w9 (box gM #[C x0.1,C x0.2.1,C x0.2.2] 122::kJ))
  refine av<|rg<|k<|cz cM 3 J bm J s1 aw J<|aS kK J J<|bl cM 0 J aV J J J<|aS mM J J<|bl cM 0 J aV J J J<|k ?_
  have fS:=Fj (mn:=fR) (mr:=fE) (i:=x0.1) (j:=x0.2.1) cM.mb aT (cM.rv 1 J) fu je<|by exact Ii BJ E3 r6 n9
  refine ca We J (ec J<|ec J<|ec J e0) fS ?_
  rintro _ dL ⟨a3,c3,rfl,ma,jd⟩
  have dW:=cM.ext ma
  let J8:=iL a3 (gU fR fE x0.1 x0.2.1) c3
  have dt:=dW.put (it:=J8) J jd
  refine ak (v:=.tuple #[.agg #[C (ie fR x0.1 x0.2.1),R a3 (gU fR fE x0.1 x0.2.1) c3],C (lC fR x0.1 x0.2.1)]) J J<|k<|xt J J J<|k<|xt J J J<|k<|bt dt 4 J bm J J s1 J J J J ?_
  let J9:=box fe #[C (ie fR x0.1 x0.2.1),R a3 (gU fR fE x0.1 x0.2.1) c3] 26
  intro ef (cR:HI M w ef (J8::box gM #[C x0.1,C x0.2.1,C x0.2.2] 122::iL a2 fE c2::J7::J9::fk))
  refine z<|aJ<|nx<|rg<|k<|add J J s4 J aT<|ak (v:=C ((q_:Int)+1)) J J<|z ?_
  have dM:=cR.put (it:=J8) J<|cR.rv 0 J
  have dI:HI M w ef (J8::J7::J9::fk):=dM.bU [0,4,5,6,7,8,9,10,11,12] aw rfl
  refine bB _ ?_ ⟨(q_+1),(ie fR x0.1 x0.2.1),(gU fR fE x0.1 x0.2.1),a3,c3,J,s0,s1,s2,s3,(bJ J),dI,aq,(by exact Bu n9 aP (KR BJ r6 aP))⟩
  omega
 refine ex<|aW<|bc<|bg<|nx<|sq<|aB<|k<|cz dw 2 J bm J s1 aw J<|k ?_
 have fS:=yw (mn:=fR) (mr:=fE) dw.mb aT (dw.rv 0 J)<|by exact Ii BJ E3 r6 n9
 refine ca QI J (ec J e0) fS ?_
 rintro _ w8 ⟨rfl,kb⟩
 have dz:=dw.ext kb
 refine ak (v:=.tuple #[C (((cQ fR fE).getD 0:Nat):Int),.bool ((cQ fR fE).isSome)]) J J<|k<|xt J J J<|k<|xt J J J<|au (v:=C (((cQ fR fE).getD 0:Nat):Int)) J J<|au (v:=.bool ((cQ fR fE).isSome)) J J<|bp<|ak (v:=.bool ((cQ fR fE).isSome)) J J<|z<|nx<|cd (b:=(cQ fR fE).isSome) J J (fun b1=>?_)<|fun b1=>?_
 ·
  refine aB<|k<|bd (v:=.agg #[C 0,.slice none 0 0]) J eh (fun _=>aC)<|k<|bt dz 4 J bm J J s0 J J J J ?_
  intro w9 (cM:HI M w w9 (iL a2 fE c2::J7::box fe #[C fR,R a2 fE c2] 26::fk))
  refine au (v:=C 7) J J<|av<|rt<|aL<|im cM 4 J bm J J J s0 J aw ?_
  exact⟨0,([]:List (List bY)),7,none,0,J,cM.below,(ee _ _),(by exact RY),(by exact Fi),(by unfold aM;omega)⟩
 refine sk<|cO<|k<|cz dz 2 J bm J s1 aw J<|k<|bt dz 4 J bm J J s0 J J J J ?_
 intro w9 (cM:HI M w w9 (iL a2 fE c2::J7::box fe #[C fR,R a2 fE c2] 26::J6::box bD #[C fR,R a2 fE c2] 26::dE))
 refine au (v:=C 0) J J<|av<|rt<|im cM 4 J bm J J J s0 J aw ?_
 exact⟨fR,fE,0,a2,c2,J,cM.below,(cM.fj 0 J),(by exact Ii BJ E3 r6 n9),(by rw[n9.1];assumption),(by exact Fi)⟩
theorem Q7 (pe:aM lv) (hT:fP 0 w) (ho:gX I) (du:I.length≤64) (eu:U.length=I.length) (fG:∀x∈U,x<((I.length:Nat):Int)) (L0:lv=1∨lv=2∨lv=3) (Yc:ik I U lv=none) (H:HI M w w_ ([iL ay I ax,iL aA U az]++r)):Calls aK 54 #[.agg #[.slice aE aF aD,R ay I ax,R aA U az],C lv] w_ (cg fun v w'=>∃(YU:Nat) (a0:OA) (c0:Nat),v=.tuple #[pV YU 0,C 0]∧HI M w w' ([box YU #[.slice aE aF aD,R ay I ax,R aA U az,C ((I.length:Nat):Int),.slice a0 (cp I U).length c0] 107,iL a0 (cp I U) c0,iL ay I ax,iL aA U az]++r)):=by
 refine enter 25 Tryz.func54 J J J fun f0 ha=>?_
 have iU:=bf<|H.rv 0 J
 have kE:=bf<|H.rv 1 J
 have i0:f0 0=.agg #[.slice aE aF aD,R ay I ax,R aA U az]:=ha 0 bh
 have i1:f0 1=C lv:=ha 1 bh
 refine aB<|k<|bx H J i0 ?_
 let J1:=iL ay I ax
 let J2:=iL aA U az
 intro aX w0 bT (H0:HI M w w0 ([box aX #[.slice aE aF aD,R ay I ax,R aA U az] 47,J1,J2]++r))
 let J0:=box aX #[.slice aE aF aD,R ay I ax,R aA U az] 47
 refine au (v:=.pointer none) J J<|au (v:=C 0) J J<|av<|sq<|aB<|k<|cz H0 0 J dN J J aw J<|ak J i1<|k ?_
 have bP:=ML (I:=I) (U:=U) (lv:=lv) (aE:=aE) (aF:=aF) (aD:=aD) H0.mb (hT.ext H0.below) (H0.rv 1 J) (H0.rv 2 J) pe (by exact ho) (by exact du) (by exact eu) (by exact fG)<|by exact L0
 refine ca adA J (ec J<|ec J e0) bP ?_
 rintro _ w1 ⟨o0,o1,o2,o3,o4,o5,o6,rfl,da,q0⟩
 have H1:=H0.ext da
 refine ak (v:=.tuple #[.agg #[C o0,C o1,C o2,C o3,C o4,.slice none 0 0,C o5,C o6],C (eZ I U lv)]) J J<|k<|xt J J J<|k<|xt J J J<|k<|al H1 bR ?_
 intro aZ w2 eR (H2:HI M w w2 ([box aZ #[C 0,C 0,C 0,C 0,C 0,.slice none 0 0,C 0,C 0] 33,J0,J1,J2]++r))
 refine k<|bt H2 0 J bR J J J J J J J ?_
 let J3:=box aZ #[C o0,C o1,C o2,C o3,C o4,.slice none 0 0,C o5,C o6] 33
 intro w3 (H3:HI M w w3 ([J3,J0,J1,J2]++r))
 refine au (v:=C (eZ I U lv)) J J<|bp<|ak (v:=C (eZ I U lv)) J J<|av<|bk<|aB<|k<|eql J J J J<|au (v:=.bool (decide ((eZ I U lv)=1))) J J<|z<|nx ?_
 have BA:(decide ((eZ I U lv)=1))=false:=(by rw[anw];unfold eZ;rw[Yc];decide)
 refine oQ J J BA<|aB<|k<|eql J J J J<|au (v:=.bool (decide ((eZ I U lv)=0))) J J<|z<|nx ?_
 have KI:(decide ((eZ I U lv)=0))=false:=(by rw[anw];unfold eZ;rw[Yc];decide)
 refine oQ J J KI<|sk<|aJ<|nx<|sq<|mg [.r,.r,.r,.r,.e,.e,.s] (fun _=>True) J aC (fun _ _=>trivial)<|yq J J<|kq (fun _ x_=>cz (H3.ext x_) 1 J dN J J aw J e1)<|bM<|kq (fun _ x_=>cz (H3.ext x_) 1 J dN J J aw J e1)<|zq<|yu J (fun _ v w'=>∃(a0:OA) (c0:Nat),v=.agg #[C (I.length:Int),R a0 (cp I U) c0]∧RV H3.fV w' (R a0 (cp I U) c0) (cp I U)) J jk J (fun v_ _ x_ _=>have fS:=Bo (I:=I) (U:=U) (aE:=aE) (aF:=aF) (aD:=aD) (w:=v_) (H3.ext x_).mb ((H3.ext x_).rv 2 rfl) ((H3.ext x_).rv 3 rfl) (by exact ho) aq (by exact eu) (by exact fG);ca QL rfl (ec J e0) fS (fun _ w5 ⟨a1,c1,e_,ja,dZ⟩=>⟨_,J,ja,⟨a1,c1,e_,dZ⟩⟩))<|lF J (fun _ v w'=>∃(a2:OA) (c2:Nat),v=.agg #[.slice aE aF aD,R ay I ax,R aA U az,C (I.length:Int),R a2 (cp I U) c2]∧RV H3.fV w' (R a2 (cp I U) c2) (cp I U)) 0 J J jk J (fun _ _ _ _ _ h_=>let ⟨a3,c3,s0,fu⟩:=h_;bd (v:=.agg #[.slice aE aF aD,R ay I ax,R aA U az,C (I.length:Int),R a3 (cp I U) c3]) rfl (cj J<|cj s0 eh) (fun _=>aC) ⟨_,J,Ext.refl _,⟨a3,c3,J,fu⟩⟩)<|ye<|ye<|yq J J<|kq (fun _ _=>jG (v:=C 0) J J e1)<|zq<|yz ?_
 intro w6 f0 _ ji _ _ cB iN
 have cM:=H3.ext ji
 have s1:=cB 5 J
 obtain⟨a4,c4,s2,je⟩:=iN 0 _ _ rfl
 let J4:=iL a4 (cp I U) c4
 have dW:=cM.put (it:=J4) J je
 refine j5<|bx dW J s2 ?_
 intro bD w7 kb (cR:HI M w w7 ([box bD #[.slice aE aF aD,R ay I ax,R aA U az,C (I.length:Int),R a4 (cp I U) c4] 107,J4,J3,J0,J1,J2]++r))
 let J5:=box bD #[.slice aE aF aD,R ay I ax,R aA U az,C (I.length:Int),R a4 (cp I U) c4] 107
 refine j5<|jG (v:=pV bD 0) J J<|kz<|nx<|rt<|r2 J J J ?_
 try simp only[cX,cb]
 rw[s1]
 have dM:=HI.aR (l:=[J5,J4,J3,J0,J1,J2]) (l':=[J5,J4,J1,J2]) (t:=r) cR [0,1,4,5] aw J J
 have e0:((I.length:Int):Int)=((I.length:Nat):Int):=rfl
 try rw[←e0]
 refine⟨bD,a4,c4,?_,?_⟩
 · first|rfl|simp only[e0]|(simp only[anj])
 · first|exact dM|simpa +zetaDelta only[e0,anj] using dM
theorem T6 (hM:eG M w) (hT:fP 0 w) (dy:cA M w ay ax I) (fZ:cA M w aA az U) (pe:aM lv) (ho:gX I) (du:I.length≤64) (eu:U.length=I.length) (fG:∀x∈U,x<((I.length:Nat):Int)) (L0:lv=1∨lv=2∨lv=3) (Yc:ik I U lv=none):Calls aK 30 #[.agg #[.slice aE aF aD,R ay I ax,R aA U az],C lv] w (cg fun v w'=>∃(cn_:Int) (cm_:List (List bY)) (co_:List Int) (cs_:List (List Int)) (a0:OA) (c0:Nat) (a1:OA) (c1:Nat) (a2:OA) (c2:Nat),v=.tuple #[.agg #[C lv,C cn_,R a0 cm_ c0,R a1 co_ c1,R a2 cs_ c2],C 0]∧Ext w w'∧cA M w' a0 c0 cm_∧cA M w' a1 c1 co_∧cA M w' a2 c2 cs_):=by
 refine dm 80 Tryz.func30 J J J hM fun f0 ha H=>?_
 let J0:=iL ay I ax
 have H0:=H.put (it:=J0) J<|by rw[bN];exact dy
 let J1:=iL aA U az
 have H1:=H0.put (it:=J1) J<|by rw[aG rfl,bN];exact fZ
 have iU:=bf dy
 have kE:=bf fZ
 have i0:f0 0=.agg #[.slice aE aF aD,R ay I ax,R aA U az]:=ha 0 bh
 have i1:f0 1=C lv:=ha 1 bh
 have kY:bF ((I.length:Nat):Int) (cp I U)=true:=pj U aq
 refine aB<|k<|bx H1 J i0 ?_
 intro aX w0 bT (H2:HI M w w0 [box aX #[.slice aE aF aD,R ay I ax,R aA U az] 47,J1,J0])
 let J2:=box aX #[.slice aE aF aD,R ay I ax,R aA U az] 47
 refine k<|al H2 vA ?_
 intro aZ w1 da (H3:HI M w w1 [box aZ #[C 0,C 0,.slice none 0 0,.slice none 0 0,.slice none 0 0] 30,J2,J1,J0])
 let J3:=box aZ #[C 0,C 0,.slice none 0 0,.slice none 0 0,.slice none 0 0] 30
 refine au (v:=C 0) J J<|bp<|k<|cz H3 1 J dN J J aw J<|ak J i1<|k ?_
 have H4:HI M w w1 ([J0,J1]++[J3,J2]):=H3.bU [3,2,0,1] aw rfl
 have bP:=Q7 (aE:=aE) (aF:=aF) (aD:=aD) (ay:=ay) (ax:=ax) (I:=I) (aA:=aA) (az:=az) (U:=U) (lv:=lv) (w:=w) (w_:=w1) (r:=[J3,J2]) (M:=M) pe hT (by exact ho) (by exact du) (by exact eu) (by exact fG) (by exact L0) (by exact Yc) H4
 refine ca aiY J (ec J<|ec J e0) bP ?_
 rintro _ w2 ⟨bD,a0,c0,rfl,H5⟩
 let J4:=box bD #[.slice aE aF aD,R ay I ax,R aA U az,C ((I.length:Nat):Int),R a0 (cp I U) c0] 107
 let J5:=iL a0 (cp I U) c0
 let ba:=[J4,J5,J0,J1,J3,J2]
 have H6:HI M w w2 ba:=H5
 refine ak (v:=.tuple #[pV bD 0,C 0]) J J<|k<|xt J J J<|k<|xt J J J<|au (v:=pV bD 0) J J<|au (v:=C 0) J J<|av<|sq<|aB<|ak (v:=C 0) J J<|k<|neq J J J J<|av<|oQ J J aw<|sk<|cO<|ak J i1<|ak (v:=pV bD 0) J J<|k<|nc J J<|aS ur J J<|k<|cz H6 0 J bm J J aw J<|k<|bd (v:=.agg #[C lv,C ((I.length:Nat):Int),R a0 (cp I U) c0,.slice none 0 0,.slice none 0 0]) J (cj J<|cj J eh) (fun _=>aC)<|k<|al H6 vA ?_
 intro fe w3 eR (H7:HI M w w3 (box fe #[C 0,C 0,.slice none 0 0,.slice none 0 0,.slice none 0 0] 30::ba))
 refine k<|bt H7 0 J vA J J J J J J J ?_
 let J6:=box fe #[C lv,C ((I.length:Nat):Int),R a0 (cp I U) c0,.slice none 0 0,.slice none 0 0] 30
 intro w4 (H8:HI M w w4 (J6::ba))
 refine av<|sq<|aB<|ak J i1<|k<|eql J J J J<|z<|nx<|cd (b:=decide (lv=2)) J J (fun b0=>?_)<|fun b0=>?_
 ·
  have p0:=dT b0
  refine sq<|mg [.r,.r,.r,.r,.r,.r,.r,.r,.s,.n,.e,.s] (fun _=>True) J aC (fun _ _=>trivial)<|yq J J<|kq (fun _ x_=>cz (H8.ext x_) 6 J dN J J aw J e1)<|bM<|kq (fun _ _=>mv (v:=pV bD 0) J J e1)<|bM<|kq (fun _ _=>nc J J e1)<|bM<|kq (fun _ _=>fa ur J J e1)<|bM<|kq (fun _ x_=>cz (H8.ext x_) 1 J bm J J aw J e1)<|zq<|yu J (fun N v w'=>∃(o0:Int) (o1:List (List bY)) (o2:Int) (a1:OA) (c1:Nat),v=.tuple #[.agg #[C o0,R a1 o1 c1],C o2]∧bF o0 o1=true∧aM o0∧aM o2∧RV (MN H8.fV N) w' (R a1 o1 c1) o1) J ⟨by rintro _ _ _ _ x_ ⟨o0,o1,o2,a1,c1,e_,q0,q1,q2,dZ⟩;exact⟨o0,o1,o2,a1,c1,e_,q0,q1,q2,dZ.lift (Up.ext x_)⟩,by rintro _ _ _ _ _ k_ ⟨o0,o1,o2,a1,c1,e_,q0,q1,q2,dZ⟩;exact⟨o0,o1,o2,a1,c1,e_,q0,q1,q2,gV dZ k_⟩⟩ J (fun v_ _ x_ n_=>have fS:=WJ (I:=I) (U:=U) (mn:=((I.length:Nat):Int)) (mr:=(cp I U)) (aE:=aE) (aF:=aF) (aD:=aD) (w:=v_) (kC H8.mb x_ n_) (hT.ext (H8.below.trans x_)) (kc (H8.rv 3 J) x_ n_) (kc (H8.rv 4 J) x_ n_) aT (kc (H8.rv 2 J) x_ n_) (by exact ho) (by exact du) (by exact eu) (by exact fG) (by rfl) (by rfl);ca aiX rfl (ec J<|ec J e0) fS (fun _ w6 ⟨o3,o4,o5,a2,c2,e_,ja,dY,q3,q4,q5⟩=>⟨_,J,ja,⟨o3,o4,o5,a2,c2,e_,q3,q4,q5,dY⟩⟩))<|lF J (fun N v w'=>∃(o6:Int) (o7:List (List bY)) (o8:Int) (a3:OA) (c3:Nat),v=.tuple #[.agg #[C o6,R a3 o7 c3],C o8]∧bF o6 o7=true∧aM o6∧aM o8∧RV (MN H8.fV N) w' (R a3 o7 c3) o7) 0 J J ⟨by rintro _ _ _ _ x_ ⟨o6,o7,o8,a3,c3,e_,q6,q7,q8,fu⟩;exact⟨o6,o7,o8,a3,c3,e_,q6,q7,q8,fu.lift (Up.ext x_)⟩,by rintro _ _ _ _ _ k_ ⟨o6,o7,o8,a3,c3,e_,q6,q7,q8,fu⟩;exact⟨o6,o7,o8,a3,c3,e_,q6,q7,q8,gV fu k_⟩⟩ J (fun _ _ _ _ _ h_=>let ⟨o9,kf,eO,a4,c4,s0,q9,uL,xa,je⟩:=h_;mv rfl s0 ⟨_,J,Ext.refl _,⟨o9,kf,eO,a4,c4,J,q9,uL,xa,je⟩⟩)<|lF J (fun N v w'=>∃(jM:Int) (uQ:List (List bY)) (a5:OA) (c5:Nat),v=.agg #[C jM,R a5 uQ c5]∧bF jM uQ=true∧aM jM∧RV (MN H8.fV N) w' (R a5 uQ c5) uQ) 0 J J ⟨by rintro _ _ _ _ x_ ⟨jM,uQ,a5,c5,e_,Ea,uK,jT⟩;exact⟨jM,uQ,a5,c5,e_,Ea,uK,jT.lift (Up.ext x_)⟩,by rintro _ _ _ _ _ k_ ⟨jM,uQ,a5,c5,e_,Ea,uK,jT⟩;exact⟨jM,uQ,a5,c5,e_,Ea,uK,gV jT k_⟩⟩ J (fun _ _ _ _ _ h_=>let ⟨Ee,o16,Cx,a6,c6,s1,Cl,Ck,ya,jd⟩:=h_;xt rfl s1 rfl ⟨_,J,Ext.refl _,⟨Ee,o16,a6,c6,J,Cl,Ck,jd⟩⟩)<|lF J (fun _ v _=>∃(St:Int),v=C St∧aM St) 1 J J mE J (fun _ _ _ _ _ h_=>let ⟨o21,Ss,Oq,a8,c8,s2,D',q22,Lg,oC⟩:=h_;xt rfl s2 rfl ⟨_,J,Ext.refl _,⟨Oq,J,Lg⟩⟩)<|yn (z:=#[C 0,.slice none 0 0]) J J (fun _=>Pr bm)<|ye<|lF J (fun _ v _=>∃(mG:Int),v=C mG∧aM mG) 1 J J mE J (fun _ _ _ _ _ h_=>let ⟨Lq,s3,q25⟩:=h_;jG rfl s3 ⟨_,J,Ext.refl _,⟨Lq,J,q25⟩⟩)<|yz ?_
  intro w7 f0 _ ji _ _ cB iN
  obtain⟨Ap,s4,CS,sy,BH⟩:=iN 1 _ _ rfl
  have pD:=Pg (z:=#[C 0,.slice none 0 0]) (T:=26) CS sy BH<|Ph
  have dz:HI M w w7 (box Ap #[C 0,.slice none 0 0] 26::J6::ba):=H8.DK ji pD (Ow Ov Ox)
  have s5:=cB 2 J
  have s6:=cB 4 J
  have s7:=cB 8 J
  obtain⟨si,tF,a9,c9,s8,q26,q27,pw⟩:=iN 3 _ _ rfl
  let J7:=iL a9 tF c9
  have cM:=dz.put (it:=J7) J<|rW pw pD
  refine j5<|bt cM 1 J bm J J s4 s8 J J J ?_
  let J8:=box Ap #[C si,R a9 tF c9] 26
  let bZ:=J7::J8::J6::ba
  intro w8 (dW:HI M w w8 bZ)
  refine kz<|cO<|aS fB J s5<|bl dW 8 J jb J J J<|k<|dP J J js<|k<|mk (m:=I.length) (zx:=(0:Int)) dW J J J J cK aV (fun _ _=>⟨J,by unfold aM;omega⟩) aq aq ?_
  intro g0 w9 kb (dt:HI M w w9 (own w.heap.size 3 (.slice (some ⟨g0,0,none⟩) I.length I.length) (List.replicate I.length (0:Int))::bZ))
  refine au (v:=R (some ⟨g0,0,none⟩) I I.length) J J<|av<|sq<|aB<|ak (v:=R (some ⟨g0,0,none⟩) I I.length) J J<|k<|dP J J cK<|ak (v:=C 0) J J<|av<|bk ?_
  let dE:=[J5,J0,J1,J3,J2]
  refine lp (fun m f w'=>∃(j_:Nat) (nL:List Int),m=I.length-j_∧f 4=pV aZ 0∧f 8=pV fe 0∧f 9=pV Ap 0∧f 11=R (some ⟨g0,0,none⟩) I I.length∧f 46=C (I.length:Int)∧f 47=C (j_:Int)∧HI M w w' (own w.heap.size 3 (.slice (some ⟨g0,0,none⟩) I.length I.length) nL::J7::J8::box fe #[C lv,C ((I.length:Nat):Int),R a0 (cp I U) c0,.slice none 0 0,.slice none 0 0] 30::box bD #[.slice aE aF aD,R ay I ax,R aA U az,C ((I.length:Nat):Int),R a0 (cp I U) c0] 107::dE)∧(j_≤I.length)∧(nL.length=I.length)) _ ⟨0,(List.replicate I.length 0),J,s6,s7,s4,J,J,(bJ J),dt,aq,(by exact od ..)⟩ ?_
  rintro _ f1 dL ⟨j_,nL,rfl,s9,eo,fb,fM,fL,gB,cR,pB,ahY⟩
  refine aB<|k<|lss J J gB fL<|av<|sq<|cd (b:=decide ((j_:Int)<(I.length:Int))) J J (fun b1=>?_)<|fun b1=>?_
  ·
   have p1:=dT b1
   refine sk<|nx<|sq<|bk<|aB<|ak J gB<|au (v:=C (j_:Int)) J J<|av<|rg<|ak J fM<|ak (v:=C (j_:Int)) J J<|ak (v:=C (j_:Int)) J J<|k<|ij (cR.at_ 0 J) J J J J aq cK aV ?_
   intro g1 x0 iq aP ct
   refine k<|pt cR 0 J iq J aq aV J J J J (RV.int.2 ⟨J,aT⟩) ?_
   intro ef (dM:HI M w ef (own w.heap.size 3 (.slice (some ⟨g0,0,none⟩) I.length I.length) (nL.set ((j_:Int).toNat) (j_:Int))::bZ))
   refine z<|aJ<|nx<|rg<|k<|add J J gB J aT<|ak (v:=C ((j_:Int)+1)) J J<|z<|bB _ ?_ ⟨(j_+1),(nL.set ((j_:Int).toNat) (j_:Int)),J,s9,eo,fb,fM,fL,(bJ J),dM,aq,(by rw[anj];exact ahY)⟩
   omega
  refine ex<|aW<|bc<|bg<|cO<|k<|cz cR 2 J bm J fb aw J<|ak J fM<|k ?_
  have Jq:(I.length:Nat)=nL.length:=E9 (cR.at_ 0 rfl)
  have dM:HI M w dL (oL w 3 (some ⟨g0,0,none⟩) nL I.length::bZ):=by simpa +zetaDelta only[oL,R,Jq] using cR
  have dI:=dM.freeze 0 J
  have eX:=xX (mn:=si) (mr:=tF) (nd:=nL) dI.mb (hT.ext dI.below) bq (dI.rv 1 J) (dI.rv 0 J) bq aq
  refine ca QK J (ec J<|ec (Eq.trans (b:=(.slice (some ⟨g0,0,none⟩) I.length I.length:Value)) rfl (ani (fun n_=>Value.slice (some ⟨g0,0,none⟩) n_ I.length) Jq)) e0) eX ?_
  rintro _ ef ⟨i',iZ,rfl,ma,rk⟩
  have cF:=cR.eL<|bj.anyM rk
  refine ak (v:=.tuple #[R i' ((dx si tF nL).1) iZ,C ((dx si tF nL).2)]) J J<|k<|xt J J J<|k<|xt J J J<|aS adL J eo<|k<|bt cF 4 J qm J J J J J J J ?_
  let J9:=own w.heap.size 3 (.slice (some ⟨g0,0,none⟩) I.length I.length) nL
  let dO:=box fe #[C lv,C ((I.length:Nat):Int),R a0 (cp I U) c0,R i' ((dx si tF nL).1) iZ,.slice none 0 0] 30
  intro fh (dV:HI M w fh (oL w 3 i' ((dx si tF nL).1) iZ::J9::J7::J8::dO::ba))
  refine bp<|k<|cz dV 4 J vA J eo aw J<|k<|bt dV 9 J vA J J s9 J J J J ?_
  intro iz (dG:HI M w iz [oL w 3 i' ((dx si tF nL).1) iZ,J9,J7,J8,dO,J4,J5,J0,J1,box aZ #[C lv,C ((I.length:Nat):Int),R a0 (cp I U) c0,R i' ((dx si tF nL).1) iZ,.slice none 0 0] 30,J2])
  refine au (v:=C 0) J J<|av<|rt<|aL<|im dG 9 J vA J J J s9 J aw ?_
  have e2:(cp I U:List (List bY))=(cp I U):=rfl
  have e3:((dx si tF nL).1:List Int)=((dx si tF nL).1):=rfl
  have bo:=nA (fun (gA:List (List bY)) (lH:List Int)=>(.tuple #[.agg #[C lv,C ((I.length:Nat):Int),.slice a0 gA.length c0,.slice i' lH.length iZ,.slice none ([]:List (List Int)).length 0],C 0]:Value)) e2 e3
  exact⟨((I.length:Nat):Int),(cp I U),((dx si tF nL).1),([]:List (List Int)),a0,c0,i',iZ,none,0,bo,dG.below,(ani (fun (x_:List (List bY))=>RV _ _ (.slice a0 x_.length c0) x_) e2).mp (dG.fj 6 J),(ani (fun (x_:List Int)=>RV _ _ (.slice i' x_.length iZ) x_) e3).mp (dG.mw 0 J),(ee _ _)⟩
 have p0:=dF b0
 refine sk<|nx<|sq<|aB<|aS fB J J<|bl H8 6 J jb J J J<|k<|dP J J js<|ak (v:=C 0) J J<|av<|bk ?_
 have H9:=H8.rl (List Int) 27
 let iO:=[J5,J0,J1,J3,J2]
 refine lp (fun m f w'=>∃(j_:Nat) (vM:List (List Int)) (a1:OA) (c1:Nat),m=I.length-j_∧f 1=C lv∧f 4=pV aZ 0∧f 6=pV bD 0∧f 8=pV fe 0∧f 65=C (I.length:Int)∧f 66=C (j_:Int)∧HI M w w' (oL w 27 a1 vM c1::box fe #[C lv,C ((I.length:Nat):Int),R a0 (cp I U) c0,.slice none 0 0,R a1 vM c1] 30::box bD #[.slice aE aF aD,R ay I ax,R aA U az,C ((I.length:Nat):Int),R a0 (cp I U) c0] 107::iO)∧(j_≤I.length)∧(vM.length≤j_)) _ ⟨0,([]:List (List Int)),none,0,J,i1,J,J,J,J,(bJ J),H9,aq,(by exact anl _)⟩ ?_
 rintro _ f0 w5 ⟨j_,vM,a1,c1,rfl,s0,s1,s2,s3,s4,s5,dH,pB,HQ⟩
 refine aB<|k<|lss J J s5 s4<|av<|sq<|cd (b:=decide ((j_:Int)<(I.length:Int))) J J (fun b1=>?_)<|fun b1=>?_
 ·
  have p1:=dT b1
  refine sk<|nx<|sq<|bk<|aB<|ak J s5<|au (v:=C (j_:Int)) J J<|z<|nx<|mg [.r,.r,.r,.r,.r,.r,.r,.e,.f,.e] (fun _=>True) J aC (fun _ _=>trivial)<|yq J J<|kq (fun _ _=>fa TE J s3 e1)<|bM<|kq (fun _ x_=>lx (dH.ext x_) 1 J aa2 J J J e1)<|bM<|kq (fun _ _=>mv J s2 e1)<|bM<|kq (fun _ _=>mv (v:=C (j_:Int)) J J e1)<|bM<|kq (fun _ _=>mv J s0 e1)<|zq<|yu J (fun _ v w'=>∃(o0:List Int) (a2:OA) (c2:Nat),v=R a2 o0 c2∧o0.length≤300000∧RV (fun c_=>c_<w5.heap.size) w' (R a2 o0 c2) o0) J (mN<|by rintro _ _ _ x_ ⟨o0,a2,c2,e_,q0,dZ⟩;exact⟨o0,a2,c2,e_,q0,dZ.lift (Up.ext x_)⟩) J (fun v_ _ x_ _=>have fS:=WN (I:=I) (U:=U) (cn:=((I.length:Nat):Int)) (cr:=(cp I U)) (o:=(j_:Int)) (lv:=lv) (w:=v_) (M:=fun _=>False) (fun _ h_=>h_.elim) (hT.ext (dH.ext x_).below) (((dH.ext x_).rv 4 rfl).lift (Up.less fun _ _ h_=>h_.elim)) (((dH.ext x_).rv 5 rfl).lift (Up.less fun _ _ h_=>h_.elim)) aT (((dH.ext x_).rv 3 rfl).lift (Up.less fun _ _ h_=>h_.elim)) aT pe ⟨(dH.ext x_).at_ 2 rfl,fun h_=>h_⟩ (by exact ho) (by exact du) (by exact eu) (by exact fG) (by rfl) (by rfl) aq;ca aiW rfl (ec J<|ec J<|ec J e0) fS (fun _ w7 ⟨o1,a3,c3,e_,ja,dY,q1⟩=>⟨_,J,ja,⟨o1,a3,c3,e_,q1,(bj.rvN dY x_)⟩⟩))<|lF J (fun _ v w'=>∃(o2:List Int) (a5:OA) (c5:Nat),v=R a5 ([o2]:List (List Int)) c5∧o2.length≤300000∧RV dH.fV w' (R a5 ([o2]:List (List Int)) c5) ([o2]:List (List Int))) 0 J J (mN<|by rintro _ _ _ x_ ⟨o2,a5,c5,e_,q2,jT⟩;exact⟨o2,a5,c5,e_,q2,jT.lift (Up.ext x_)⟩) J (fun v_ N_ u_ x_ n_ h_=>?_) ?_
  ·
   have cF:=dH.ext x_
   obtain⟨o3,a6,c6,s6,q3,jd⟩:=h_
   have dV:=cF.put (it:=iL a6 o3 c6) J<|K8 jd dH
   refine bs (xs:=([o3]:List (List Int))) (cells:=#[R a6 o3 c6]) (e:=27) dV J (cj s6 eh) (fun _=>aC) ⟨[R a6 o3 c6],[],J,⟨_,J,RV.list.1 (dV.rv 0 J)⟩,J⟩ J aw ?_
   intro g1 w9 kb (dG:HI M w w9 (own w.heap.size 27 (.slice (some ⟨g1,0,none⟩) 1 1) ([o3]:List (List Int))::iL a6 o3 c6::oL w 27 a1 vM c1::box fe #[C lv,C ((I.length:Nat):Int),R a0 (cp I U) c0,.slice none 0 0,R a1 vM c1] 30::ba))
   have eS:=dG.freeze 0 J
   exact⟨_,J,kb,⟨o3,(some ⟨g1,0,none⟩),1,J,q3,(mK J<|mK J<|eS.rv 0 J)⟩⟩
  refine ye<|yf J (fun _ _=>fa TE J s3 e3)<|ye<|yz ?_
  intro dL f1 _ ma _ _ cB iN
  have ff:=dH.ext ma
  have s7:=(cB 1 J).trans s0
  have s8:=(cB 4 J).trans s1
  have s9:=(cB 6 J).trans s2
  have eo:=(cB 8 J).trans s3
  have fb:=(cB 65 J).trans s4
  have fM:=(cB 66 J).trans s5
  have fL:=cB 70 J
  obtain⟨o4,a7,c7,gB,q4,lq⟩:=iN 0 _ _ rfl
  let eC:=iL a7 ([o4]:List (List Int)) c7
  have ga:=ff.put (it:=eC) J lq
  have gT:=cB 77 J
  refine j5<|lA ga 1 J J J J fL gB (ga.rv 0 J).src ahC qm J (by simp only[iM,gr];omega) J ?_
  intro a8 c8 ef (iI:HI M w ef (eC::oL w 27 a8 (vM++([o4]:List (List Int))) c8::box fe #[C lv,C ((I.length:Nat):Int),R a0 (cp I U) c0,.slice none 0 0,R a1 vM c1] 30::ba))
  refine j5<|bt iI 2 J aa2 J J gT J J J J ?_
  let fQ:=box fe #[C lv,C ((I.length:Nat):Int),R a0 (cp I U) c0,.slice none 0 0,R a8 (vM++([o4]:List (List Int))) c8] 30
  let fk:=oL w 27 a8 (vM++([o4]:List (List Int))) c8::fQ::ba
  intro fh (iE:HI M w fh (eC::fk))
  refine kz<|aJ<|nx<|rg<|k<|add J J fM J aT<|ak (v:=C ((j_:Int)+1)) J J<|z ?_
  have kU:=iE.put (it:=J5) J<|iE.rv 4 J
  have iD:HI M w fh fk:=kU.bU [2,3,4,0,6,7,8,9] aw rfl
  refine bB _ ?_ ⟨(j_+1),(vM++([o4]:List (List Int))),a8,c8,J,s7,s8,s9,eo,fb,(bJ J),iD,aq,(by rw[fA,iM,gr];omega)⟩
  omega
 refine ex<|aW<|bc<|bg<|cO<|k<|cz dH 1 J vA J s3 aw J<|k<|bt dH 6 J vA J J s1 J J J J ?_
 intro w6 (db:HI M w w6 [oL w 27 a1 vM c1,box fe #[C lv,C ((I.length:Nat):Int),R a0 (cp I U) c0,.slice none 0 0,R a1 vM c1] 30,J4,J5,J0,J1,box aZ #[C lv,C ((I.length:Nat):Int),R a0 (cp I U) c0,.slice none 0 0,R a1 vM c1] 30,J2])
 refine au (v:=C 0) J J<|av<|rt<|im db 6 J vA J J J s1 J aw ?_
 have e2:(cp I U:List (List bY))=(cp I U):=rfl
 have bo:=iB (fun (gA:List (List bY))=>(.tuple #[.agg #[C lv,C ((I.length:Nat):Int),.slice a0 gA.length c0,.slice none ([]:List Int).length 0,.slice a1 vM.length c1],C 0]:Value)) e2
 exact⟨((I.length:Nat):Int),(cp I U),([]:List Int),vM,a0,c0,none,0,a1,c1,bo,db.below,(ani (fun (x_:List (List bY))=>RV _ _ (.slice a0 x_.length c0) x_) e2).mp (db.fj 3 J),(ee _ _),(db.mw 0 J)⟩
theorem Ez (pe:aM lv):Calls aK 21 #[C lv] w (cg fun v w'=>v=.bool (decide (0<(((dQ lv).length:Nat):Int)))∧Ext w w'):=by
 refine dm 7 Tryz.func21 J J J py fun f0 ha H=>?_
 have i0:f0 0=C lv:=ha 0 bh
 refine aB<|au (v:=.bool false) J J<|bp<|ak J i0<|k ?_
 have bP:=Jy (lv:=lv) (w:=w) H.mb pe
 refine ca ady J (ec J e0) bP ?_
 rintro _ w0 ⟨a0,c0,rfl,bT,cq⟩
 have H0:=H.eL cq
 refine k<|dP J J cK<|k<|gtr J J J J<|au (v:=.bool (decide (0<((dQ lv).length:Int)))) J J<|av<|rt<|r1 J J ?_
 exact⟨ani Value.bool (show (decide (0<((dQ lv).length:Int)))=(decide (0<(((dQ lv).length:Nat):Int))) from rfl),H0.below⟩
theorem P1 {Ix:Int} {Iw:Int} {Iz:Int} {Iy:Int} {Kx:Int} {He:OA} {Ge G9:Nat} {Rl:Int} {Rk:Int} {Kt:Int} {Kr:Int} {Kv:Int} {Ku:Int} {NQ:Int} {Ko:OA} {JU Kj:Nat} {Xk:Int} {Xj:Int}:Calls aK 17 #[.agg #[C Ix,C Iw,C Iz,C Iy,C Kx,.slice He Ge G9,C Rl,C Rk],.agg #[C Kt,C Kr,C Kv,C Ku,C NQ,.slice Ko JU Kj,C Xk,C Xj]] w (cg fun v w'=>v=.bool (decide (Ix=Kt)&&(decide (Iw=Kr)&&(decide (Iz=Kv)&&(decide (Iy=Ku)&&decide (Kx=NQ)))))∧Ext w w'):=by
 refine dm 38 Tryz.func17 J J J py fun f0 ha H=>?_
 have i0:f0 0=.agg #[C Ix,C Iw,C Iz,C Iy,C Kx,.slice He Ge G9,C Rl,C Rk]:=ha 0 bh
 have i1:f0 1=.agg #[C Kt,C Kr,C Kv,C Ku,C NQ,.slice Ko JU Kj,C Xk,C Xj]:=ha 1 bh
 refine aB<|k<|bx H J i0 ?_
 intro aX w0 bT (H0:HI (fun _=>False) w w0 [box aX #[C Ix,C Iw,C Iz,C Iy,C Kx,.slice He Ge G9,C Rl,C Rk] 33])
 refine k<|bx H0 J i1 ?_
 intro aZ w1 da (H1:HI (fun _=>False) w w1 [box aZ #[C Kt,C Kr,C Kv,C Ku,C NQ,.slice Ko JU Kj,C Xk,C Xj] 33,box aX #[C Ix,C Iw,C Iz,C Iy,C Kx,.slice He Ge G9,C Rl,C Rk] 33])
 refine au (v:=.bool false) J J<|bp<|aS xI J J<|bl H1 1 J aV J J J<|aS xI J J<|bl H1 0 J aV J J J<|k<|eql J J J J<|ak (v:=.bool (decide (Ix=Kt))) J J ?_
 rcases bE (decide (Ix=Kt)) with b0|b0
 ·
  refine aU J J J b0<|fa pG J J<|aU J J J b0<|lx H1 1 J aV J J J<|aU J J J b0<|fa pG J J<|aU J J J b0<|lx H1 0 J aV J J J<|aU J J J b0<|eql J J J J<|k<|aR J J J J b0 J<|ak (v:=.bool (decide (Iw=Kr))) J J ?_
  rcases bE (decide (Iw=Kr)) with b1|b1
  ·
   refine aU J J J b1<|fa nQ J J<|aU J J J b1<|lx H1 1 J aV J J J<|aU J J J b1<|fa nQ J J<|aU J J J b1<|lx H1 0 J aV J J J<|aU J J J b1<|eql J J J J<|k<|aR J J J J b1 J<|ak (v:=.bool (decide (Iz=Kv))) J J ?_
   rcases bE (decide (Iz=Kv)) with b2|b2
   ·
    refine aU J J J b2<|fa Ah J J<|aU J J J b2<|lx H1 1 J aV J J J<|aU J J J b2<|fa Ah J J<|aU J J J b2<|lx H1 0 J aV J J J<|aU J J J b2<|eql J J J J<|k<|aR J J J J b2 J<|ak (v:=.bool (decide (Iy=Ku))) J J ?_
    rcases bE (decide (Iy=Ku)) with b3|b3
    ·
     refine aU J J J b3<|fa ng J J<|aU J J J b3<|lx H1 1 J aV J J J<|aU J J J b3<|fa ng J J<|aU J J J b3<|lx H1 0 J aV J J J<|aU J J J b3<|eql J J J J<|k<|aR J J J J b3 J<|au (v:=.bool (decide (Kx=NQ))) J J<|av<|rt<|r1 J J ?_
     exact⟨ani Value.bool (by simp only[b0,b1,b2,b3,BL]),H1.below⟩
    refine aO J J J b3<|aO J J J b3<|aO J J J b3<|aO J J J b3<|aO J J J b3<|k<|cJ J J J J b3 J<|au (v:=.bool false) J J<|av<|rt<|r1 J J ?_
    exact⟨ani Value.bool (by simp only[b0,b1,b2,b3,BL]),H1.below⟩
   refine aO J J J b2<|aO J J J b2<|aO J J J b2<|aO J J J b2<|aO J J J b2<|k<|cJ J J J J b2 J<|ak (v:=.bool false) J J<|aO J J J J<|aO J J J J<|aO J J J J<|aO J J J J<|aO J J J J<|k<|cJ J J J J J J<|au (v:=.bool false) J J<|av<|rt<|r1 J J ?_
   exact⟨ani Value.bool (by simp only[b0,b1,b2,BL]),H1.below⟩
  refine aO J J J b1<|aO J J J b1<|aO J J J b1<|aO J J J b1<|aO J J J b1<|k<|cJ J J J J b1 J<|ak (v:=.bool false) J J<|aO J J J J<|aO J J J J<|aO J J J J<|aO J J J J<|aO J J J J<|k<|cJ J J J J J J<|ak (v:=.bool false) J J<|aO J J J J<|aO J J J J<|aO J J J J<|aO J J J J<|aO J J J J<|k<|cJ J J J J J J<|au (v:=.bool false) J J<|av<|rt<|r1 J J ?_
  exact⟨ani Value.bool (by simp only[b0,b1,BL]),H1.below⟩
 refine aO J J J b0<|aO J J J b0<|aO J J J b0<|aO J J J b0<|aO J J J b0<|k<|cJ J J J J b0 J<|ak (v:=.bool false) J J<|aO J J J J<|aO J J J J<|aO J J J J<|aO J J J J<|aO J J J J<|k<|cJ J J J J J J<|ak (v:=.bool false) J J<|aO J J J J<|aO J J J J<|aO J J J J<|aO J J J J<|aO J J J J<|k<|cJ J J J J J J<|ak (v:=.bool false) J J<|aO J J J J<|aO J J J J<|aO J J J J<|aO J J J J<|aO J J J J<|k<|cJ J J J J J J<|au (v:=.bool false) J J<|av<|rt<|r1 J J ?_
 exact⟨ani Value.bool (by simp only[b0,BL]),H1.below⟩
theorem JR:ei aK 101 2 true 16 (.agg #[.int .i64 0,.int .i64 0]):=⟨aC,aC⟩
theorem aeY:Pt aK 101 [some (0,0),some (1,0)]:=⟨aC,aC,aC,aC⟩
theorem abQ:Is aK 99:=VH (by kernel_rfl:aK.underlying 99=some (.map 101 3)) (za aeY) aV
theorem aeQ:aK.underlying 134=some (.array 2 3):=aC
theorem age:UG aK 134:=arF aeQ zB aC aC aC
theorem XI:Is aK 132:=VH (by kernel_rfl:aK.underlying 132=some (.map 134 3)) (Qi age) aV
theorem ai0:cu aK 52:=⟨_,_,Tryz.func52,rfl,aC⟩
theorem Mw (hM:eG M w) (dy:cA M w ay ax I):Calls aK 27 #[.agg #[.slice aE aF aD,R ay I ax,.slice aA eU az]] w (cg fun v w'=>v=.tuple #[C ((cT I).1),C ((cT I).2.1),C ((cT I).2.2)]∧Ext w w'):=by
 refine dm 46 Tryz.func27 J J J hM fun f0 ha H=>?_
 let J0:=iL ay I ax
 have H0:=H.put (it:=J0) J<|by rw[bN];exact dy
 have iU:=bf dy
 have i0:f0 0=.agg #[.slice aE aF aD,R ay I ax,.slice aA eU az]:=ha 0 bh
 refine aB<|k<|bx H0 J i0 ?_
 intro aX w0 bT (H1:HI M w w0 [box aX #[.slice aE aF aD,R ay I ax,.slice aA eU az] 47,J0])
 let J1:=box aX #[.slice aE aF aD,R ay I ax,.slice aA eU az] 47
 refine au (v:=C 0) J J<|au (v:=C 0) J J<|au (v:=C 0) J J<|bp<|k<|mm H1 ?_
 intro dD w1 da (H2:HI M w w1 [bX dD ([]:KV),J1,J0])
 refine au (v:=.map (some dD)) J J<|av<|sq<|aB<|aS fB J J<|bl H2 1 J jb J J J<|k<|dP J J js<|ak (v:=C 0) J J<|av<|bk<|lp (fun m f w'=>∃(j:Nat) (jU:KV),m=I.length-j∧f 5=.map (some dD)∧f 13=R ay I ax∧f 14=C (I.length:Int)∧f 15=C (j:Int)∧HI M w w' [bX dD jU,J1,J0]∧(j≤I.length)∧(∀k,k<j→nG I k=false)∧(tC I j jU)) _ ⟨0,([]:KV),J,J,J,J,(bJ J),H2,aq,(by intro k hk;omega),(by exact GW _)⟩ ?_
 rintro _ f0 w2 ⟨j,jU,rfl,s0,s1,s2,s3,H3,hk,hs,hm⟩
 refine aB<|k<|lss J J s3 s2<|av<|sq<|cd (b:=decide ((j:Int)<(I.length:Int))) J J (fun b0=>?_)<|fun b0=>?_
 ·
  have p0:=dT b0
  refine sk<|nx<|sq<|bk<|aB<|ak J s3<|k<|ia (H3.rv 2 J) J J s1 s3 aq js jy ?_
  intro iC x0 aP ct
  refine k<|nt ct.w jy J J ?_
  intro v0 cq
  obtain⟨_,⟨_,_,rfl,⟨rfl,dZ⟩,⟨_,_,rfl,⟨rfl,dY⟩,⟨_,_,rfl,rfl,⟨_,_,rfl,⟨rfl,fu⟩,⟨rfl,je⟩⟩⟩⟩⟩,rfl⟩:=cq
  refine k<|al H3 jy ?_
  let ba:=[bX dD jU,J1,J0]
  intro aZ w3 eR (H4:HI M w w3 (box aZ #[C 0,C 0,.bool false,C 0,C 0] 95::ba))
  refine au (v:=C (j:Int)) J J<|k<|bt H4 0 J jy J J J J J J J ?_
  let J2:=box aZ #[C x0.1,C x0.2.1,.bool x0.2.2.1,C x0.2.2.2.1,C x0.2.2.2.2] 95
  intro w4 (H5:HI M w w4 (J2::ba))
  refine av<|sq<|aB<|aS u7 J J<|bl H5 0 J ob J J J<|k<|jI J J<|z<|nx<|cd (b:=!x0.2.2.1) J J (fun b1=>?_)<|fun b1=>?_
  ·
   refine ex<|aW<|bg<|nx<|rg<|k<|add J J s3 J aT<|ak (v:=C ((j:Int)+1)) J J<|z ?_
   have H6:HI M w w4 ba:=H5.bU [1,2,3] aw rfl
   refine bB _ ?_ ⟨(j+1),jU,J,s0,s1,s2,(bJ J),H6,aq,(by exact Bp hs aP (MI<|by simpa using b1)),(by exact Es hm aP (by simpa using b1))⟩
   omega
  refine sk<|nx<|sq<|aB<|aS rF J J<|bl H5 0 J aV J J J<|k<|eql J J J J<|z<|nx<|cd (b:=decide (x0.2.2.2.2=0)) J J (fun b2=>?_)<|fun b2=>?_
  ·
   have p2:=dT b2
   refine aB<|ak (v:=C (j:Int)) J J<|ak (v:=C (j:Int)) J J<|au (v:=C (j:Int)) J J<|au (v:=C (j:Int)) J J<|au (v:=C 5) J J<|av<|rt<|aL<|bQ<|aL<|dU<|bQ<|aL<|r3 J J J J ?_
   have e0:((j:Int):Int)=(cT I).1:=by exact(ani (fun z_:Int×Int×Int=>z_.1) (uv hs aP (by simpa using b1) p2)).symm
   have e1:((j:Int):Int)=(cT I).2.1:=by exact(ani (fun z_:Int×Int×Int=>z_.2.1) (uv hs aP (by simpa using b1) p2)).symm
   have e2:(5:Int)=(cT I).2.2:=by exact(ani (fun z_:Int×Int×Int=>z_.2.2) (uv hs aP (by simpa using b1) p2)).symm
   have bo:=qN (fun (bW:Int) (dK:Int) (gA:Int)=>(.tuple #[C bW,C dK,C gA]:Value)) e0 e1 e2
   exact⟨bo,H5.below⟩
  have p2:=dF b2
  refine sk<|cO<|aS tm J J<|bl H5 0 J aV J J J<|aS rF J J<|bl H5 0 J aV J J J<|k<|bd (v:=.agg #[C x0.2.2.2.1,C x0.2.2.2.2]) J (cj J<|cj J eh) (fun _=>aC)<|k<|al H5 JR ?_
  intro bD w5 fH (H6:HI M w w5 (box bD #[C 0,C 0] 101::J2::ba))
  refine k<|bt H6 0 J JR J J J J J J J ?_
  intro w6 (H7:HI M w w6 (box bD #[C x0.2.2.2.1,C x0.2.2.2.2] 101::J2::ba))
  refine av<|sq<|aB<|ak J s0<|k<|cz H7 0 J JR J J aw J<|k<|XK (k:=(x0.2.2.2.1,x0.2.2.2.2)) abQ H7 2 J J J J J ?_
  intro jT
  refine ak (v:=.tuple #[C ((getM jU (x0.2.2.2.1,x0.2.2.2.2)).getD 0),.bool ((getM jU (x0.2.2.2.1,x0.2.2.2.2)).isSome)]) J J<|k<|xt J J J<|k<|xt J J J<|au (v:=C ((getM jU (x0.2.2.2.1,x0.2.2.2.2)).getD 0)) J J<|au (v:=.bool ((getM jU (x0.2.2.2.1,x0.2.2.2.2)).isSome)) J J<|bp<|ak (v:=.bool ((getM jU (x0.2.2.2.1,x0.2.2.2.2)).isSome)) J J<|z<|nx<|cd (b:=(getM jU (x0.2.2.2.1,x0.2.2.2.2)).isSome) J J (fun b3=>?_)<|fun b3=>?_
  ·
   refine aB<|ak (v:=C ((getM jU (x0.2.2.2.1,x0.2.2.2.2)).getD 0)) J J<|ak (v:=C (j:Int)) J J<|au (v:=C ((getM jU (x0.2.2.2.1,x0.2.2.2.2)).getD 0)) J J<|au (v:=C (j:Int)) J J<|au (v:=C 4) J J<|av<|rt<|aL<|bQ<|aL<|dU<|bQ<|aL<|r3 J J J J ?_
   have e0:((getM jU (x0.2.2.2.1,x0.2.2.2.2)).getD 0:Int)=(cT I).1:=by exact(AK hm aP b3).1.trans (ani (fun z_:Int×Int×Int=>z_.1) (sC hs aP (by simpa using b1) p2 (AK hm aP b3).2)).symm
   have e1:((j:Int):Int)=(cT I).2.1:=by exact(ani (fun z_:Int×Int×Int=>z_.2.1) (sC hs aP (by simpa using b1) p2 (AK hm aP b3).2)).symm
   have e2:(4:Int)=(cT I).2.2:=by exact(ani (fun z_:Int×Int×Int=>z_.2.2) (sC hs aP (by simpa using b1) p2 (AK hm aP b3).2)).symm
   have bo:=qN (fun (bW:Int) (dK:Int) (gA:Int)=>(.tuple #[C bW,C dK,C gA]:Value)) e0 e1 e2
   exact⟨bo,H7.below⟩
  refine sk<|nx<|rg<|ak J s0<|k<|cz H7 0 J JR J J aw J<|ak (v:=C (j:Int)) J J<|k<|XG (k:=(x0.2.2.2.1,x0.2.2.2.2)) abQ H7 2 J J J J J J J aT ?_
  let J3:=bX dD (jn jU (x0.2.2.2.1,x0.2.2.2.2) (j:Int))
  intro w7 (H8:HI M w w7 [box bD #[C x0.2.2.2.1,C x0.2.2.2.2] 101,J2,J3,J1,J0])
  refine z<|aJ<|nx<|rg<|k<|add J J s3 J aT<|ak (v:=C ((j:Int)+1)) J J<|z ?_
  have H9:HI M w w7 [J3,J1,J0]:=H8.bU [2,3,4] aw rfl
  refine bB _ ?_ ⟨(j+1),(jn jU (x0.2.2.2.1,x0.2.2.2.2) (j:Int)),J,s0,s1,s2,(bJ J),H9,aq,(by exact Bp hs aP (MJ p2<|by rw[(N5 hm aP (by simpa using b1) b3).2];omega)),(by exact GV hm aP (by simpa using b1) (N5 hm aP (by simpa using b1) b3).1)⟩
  omega
 have p0:=dF b0
 refine ex<|aW<|bc<|bg<|cO<|au (v:=C 0) J J<|au (v:=C 0) J J<|au (v:=C 0) J J<|av<|rt<|r3 J J J J ?_
 have e0:(0:Int)=(cT I).1:=by exact(ani (fun z_:Int×Int×Int=>z_.1) (uw hs aq)).symm
 have e1:(0:Int)=(cT I).2.1:=by exact(ani (fun z_:Int×Int×Int=>z_.2.1) (uw hs aq)).symm
 have e2:(0:Int)=(cT I).2.2:=by exact(ani (fun z_:Int×Int×Int=>z_.2.2) (uw hs aq)).symm
 have bo:=qN (fun (bW:Int) (dK:Int) (gA:Int)=>(.tuple #[C bW,C dK,C gA]:Value)) e0 e1 e2
 exact⟨bo,H3.below⟩
theorem Ny (hM:eG M w) (dy:cA M w ay ax I) (du:I.length≤4096):Calls aK 52 #[.agg #[.slice aE aF aD,R ay I ax,.slice aA eU az]] w (cg fun v w'=>∃(a0:OA) (c0:Nat),v=.slice a0 (gJ I).length c0∧Ext w w'∧bj M 3 w (gJ I) (.slice a0 (gJ I).length c0) w'):=by
 refine dm 76 Tryz.func52 J J J hM fun f0 ha H=>?_
 let J0:=iL ay I ax
 have H0:=H.put (it:=J0) J<|by rw[bN];exact dy
 have iU:=bf dy
 have i0:f0 0=.agg #[.slice aE aF aD,R ay I ax,.slice aA eU az]:=ha 0 bh
 refine aB<|k<|bx H0 J i0 ?_
 intro aX w0 bT (H1:HI M w w0 [box aX #[.slice aE aF aD,R ay I ax,.slice aA eU az] 47,J0])
 let J1:=box aX #[.slice aE aF aD,R ay I ax,.slice aA eU az] 47
 refine au (v:=.slice none 0 0) J J<|bp<|k<|mm H1 ?_
 let ba:=[J1,J0]
 intro dD w1 da (H2:HI M w w1 (bX dD ([]:KV)::ba))
 refine au (v:=.map (some dD)) J J<|av<|sq<|aB<|aS fB J J<|bl H2 1 J jb J J J<|k<|dP J J js<|ak (v:=C 0) J J<|av<|bk<|lp (fun m f w'=>∃(j:Nat) (jU:KV),m=I.length-j∧f 1=pV aX 0∧f 3=.map (some dD)∧f 13=R ay I ax∧f 14=C (I.length:Int)∧f 15=C (j:Int)∧HI M w w' (bX dD jU::ba)∧(j≤I.length)∧(jU=uz I j)) _ ⟨0,([]:KV),J,J,J,J,J,(bJ J),H2,aq,(by rfl)⟩ ?_
 rintro _ f0 w2 ⟨j,jU,rfl,s0,s1,s2,s3,s4,H3,hk,hm⟩
 refine aB<|k<|lss J J s4 s3<|av<|sq<|cd (b:=decide ((j:Int)<(I.length:Int))) J J (fun b0=>?_)<|fun b0=>?_
 ·
  have p0:=dT b0
  refine sk<|nx<|sq<|bk<|aB<|ak J s4<|k<|ia (H3.rv 2 J) J J s2 s4 aq js jy ?_
  intro iC x0 aP ct
  refine k<|nt ct.w jy J J ?_
  intro v0 cq
  obtain⟨_,⟨_,_,rfl,⟨rfl,dZ⟩,⟨_,_,rfl,⟨rfl,dY⟩,⟨_,_,rfl,rfl,⟨_,_,rfl,⟨rfl,fu⟩,⟨rfl,je⟩⟩⟩⟩⟩,rfl⟩:=cq
  refine k<|al H3 jy ?_
  intro aZ w3 eR (H4:HI M w w3 [box aZ #[C 0,C 0,.bool false,C 0,C 0] 95,bX dD jU,J1,J0])
  refine au (v:=C (j:Int)) J J<|k<|bt H4 0 J jy J J J J J J J ?_
  let J2:=box aZ #[C x0.1,C x0.2.1,.bool x0.2.2.1,C x0.2.2.2.1,C x0.2.2.2.2] 95
  intro w4 (H5:HI M w w4 [J2,bX dD jU,J1,J0])
  refine bp<|aS u7 J J<|bl H5 0 J ob J J J<|z<|nx<|cd (b:=x0.2.2.1) J J (fun b1=>?_)<|fun b1=>?_
  ·
   refine rg<|ak J s1<|aS tm J J<|bl H5 0 J aV J J J<|aS rF J J<|bl H5 0 J aV J J J<|k<|bd (v:=.agg #[C x0.2.2.2.1,C x0.2.2.2.2]) J (cj J<|cj J eh) (fun _=>aC)<|ak (v:=C (j:Int)) J J<|k<|XG (k:=(x0.2.2.2.1,x0.2.2.2.2)) XI H5 1 J J J J J J J aT ?_
   let J3:=bX dD (jn jU (x0.2.2.2.1,x0.2.2.2.2) (j:Int))
   intro w5 (H6:HI M w w5 [J2,J3,J1,J0])
   refine z<|aJ<|nx<|rg<|k<|add J J s4 J aT<|ak (v:=C ((j:Int)+1)) J J<|z ?_
   have H7:HI M w w5 (J3::ba):=H6.bU [1,2,3] aw rfl
   refine bB _ ?_ ⟨(j+1),(jn jU (x0.2.2.2.1,x0.2.2.2.2) (j:Int)),J,s0,s1,s2,s3,(bJ J),H7,aq,(by rw[hm];first|exact y' aP b1|exact A7 aP b1)⟩
   omega
  refine sk<|aJ<|nx<|rg<|k<|add J J s4 J aT<|ak (v:=C ((j:Int)+1)) J J<|z ?_
  have H6:HI M w w4 (bX dD jU::ba):=H5.bU [1,2,3] aw rfl
  refine bB _ ?_ ⟨(j+1),jU,J,s0,s1,s2,s3,(bJ J),H6,aq,(by rw[hm];first|exact y' aP b1|exact A7 aP b1)⟩
  omega
 have p0:=dF b0
 refine ex<|aW<|bc<|bg<|cO<|aS fB J s0<|bl H3 1 J jb J J J<|k<|dP J J js<|k<|mk (m:=I.length) (zx:=(0:Int)) H3 J J J J cK aV (fun _ _=>⟨J,by unfold aM;omega⟩) aq aq ?_
 let J4:=bX dD jU
 let bZ:=J4::ba
 intro g0 w3 eR (H4:HI M w w3 (own w.heap.size 3 (.slice (some ⟨g0,0,none⟩) I.length I.length) (List.replicate I.length (0:Int))::bZ))
 refine au (v:=R (some ⟨g0,0,none⟩) I I.length) J J<|av<|sq<|aB<|aS fB J s0<|bl H4 2 J jb J J J<|k<|dP J J js<|ak (v:=C 0) J J<|av<|bk<|lp (fun m f w'=>∃(q:Nat) (xs:List Int),m=I.length-q∧f 3=.map (some dD)∧f 6=R (some ⟨g0,0,none⟩) I I.length∧f 35=R ay I ax∧f 36=C (I.length:Int)∧f 37=C (q:Int)∧HI M w w' (own w.heap.size 3 (.slice (some ⟨g0,0,none⟩) I.length I.length) xs::bZ)∧(q≤I.length)∧(xs.length=I.length)∧(xs=CZ jU I q)) _ ⟨0,(List.replicate I.length (0:Int)),J,s1,J,J,J,(bJ J),H4,aq,bh,(by exact Tx _ _)⟩ ?_
 rintro _ f1 w4 ⟨q,xs,rfl,s5,s6,s7,s8,s9,H5,so,hl,hs⟩
 refine aB<|k<|lss J J s9 s8<|av<|sq<|cd (b:=decide ((q:Int)<(I.length:Int))) J J (fun b1=>?_)<|fun b1=>?_
 ·
  have p1:=dT b1
  refine sk<|nx<|sq<|bk<|aB<|ak J s9<|k<|ia (H5.rv 3 J) J J s7 s9 aq js jy ?_
  intro iC x0 aP ct
  refine k<|nt ct.w jy J J ?_
  intro v0 cq
  obtain⟨_,⟨_,_,rfl,⟨rfl,dZ⟩,⟨_,_,rfl,⟨rfl,dY⟩,⟨_,_,rfl,rfl,⟨_,_,rfl,⟨rfl,fu⟩,⟨rfl,je⟩⟩⟩⟩⟩,rfl⟩:=cq
  refine k<|al H5 jy ?_
  let J5:=own w.heap.size 3 (.slice (some ⟨g0,0,none⟩) I.length I.length) xs
  intro aZ w5 fH (H6:HI M w w5 (box aZ #[C 0,C 0,.bool false,C 0,C 0] 95::J5::bZ))
  refine au (v:=C (q:Int)) J J<|k<|bt H6 0 J jy J J J J J J J ?_
  let J6:=box aZ #[C x0.1,C x0.2.1,.bool x0.2.2.1,C x0.2.2.2.1,C x0.2.2.2.2] 95
  intro w6 (H7:HI M w w6 (J6::J5::bZ))
  refine bp<|ak J s5<|aS tm J J<|bl H7 0 J aV J J J<|aS rF J J<|bl H7 0 J aV J J J<|k<|bd (v:=.agg #[C x0.2.2.2.1,C x0.2.2.2.2]) J (cj J<|cj J eh) (fun _=>aC)<|k<|XK (k:=(x0.2.2.2.1,x0.2.2.2.2)) XI H7 2 J J J J J ?_
  intro jT
  refine ak (v:=.tuple #[C ((getM jU (x0.2.2.2.1,x0.2.2.2.2)).getD 0),.bool ((getM jU (x0.2.2.2.1,x0.2.2.2.2)).isSome)]) J J<|k<|xt J J J<|k<|xt J J J<|au (v:=C ((getM jU (x0.2.2.2.1,x0.2.2.2.2)).getD 0)) J J<|au (v:=.bool ((getM jU (x0.2.2.2.1,x0.2.2.2.2)).isSome)) J J<|av<|bk<|aB<|aS u7 J J<|bl H7 0 J ob J J J<|au (v:=.bool x0.2.2.1) J J<|z<|nx<|cd (b:=x0.2.2.1) J J (fun b2=>?_)<|fun b2=>?_
  ·
   refine rg<|ak J s6<|ak (v:=C (q:Int)) J J<|k<|ij (H7.at_ 1 J) J J J J aq cK aV ?_
   intro g1 x1 iq cP gL
   refine k<|pt H7 1 J iq J aq aV J J J J (RV.int.2 ⟨J,aT⟩) ?_
   let J7:=own w.heap.size 3 (.slice (some ⟨g0,0,none⟩) I.length I.length) (xs.set ((q:Int).toNat) (-3))
   intro w7 (H8:HI M w w7 (J6::J7::bZ))
   refine z<|aJ<|aJ<|nx<|rg<|k<|add J J s9 J aT<|ak (v:=C ((q:Int)+1)) J J<|z ?_
   have H9:HI M w w7 (J7::bZ):=H8.bU [1,2,3,4] aw rfl
   refine bB _ ?_ ⟨(q+1),(xs.set ((q:Int).toNat) (-3)),J,s5,s6,s7,s8,(bJ J),H9,aq,(by simpa using hl),(by rw[hs];first|exact jQ aP (Kf b2)|exact jQ aP (Ki b2 p3)|exact jQ aP (Kg b2 p3 b4)|exact jQ aP (Kh b2 p3 b4))⟩
   omega
  refine aB<|aS rF J J<|bl H7 0 J aV J J J<|k<|eql J J J J<|au (v:=.bool (decide (x0.2.2.2.2=0))) J J<|z<|nx<|cd (b:=decide (x0.2.2.2.2=0)) J J (fun b3=>?_)<|fun b3=>?_
  ·
   have p3:=dT b3
   refine rg<|ak J s6<|ak (v:=C (q:Int)) J J<|k<|ij (H7.at_ 1 J) J J J J aq cK aV ?_
   intro g1 x1 iq cP gL
   refine k<|pt H7 1 J iq J aq aV J J J J (RV.int.2 ⟨J,aT⟩) ?_
   let J8:=own w.heap.size 3 (.slice (some ⟨g0,0,none⟩) I.length I.length) (xs.set ((q:Int).toNat) (-1))
   intro w7 (H8:HI M w w7 (J6::J8::bZ))
   refine z<|aJ<|aJ<|nx<|rg<|k<|add J J s9 J aT<|ak (v:=C ((q:Int)+1)) J J<|z ?_
   have H9:HI M w w7 (J8::bZ):=H8.bU [1,2,3,4] aw rfl
   refine bB _ ?_ ⟨(q+1),(xs.set ((q:Int).toNat) (-1)),J,s5,s6,s7,s8,(bJ J),H9,aq,(by simpa using hl),(by rw[hs];first|exact jQ aP (Kf b2)|exact jQ aP (Ki b2 p3)|exact jQ aP (Kg b2 p3 b4)|exact jQ aP (Kh b2 p3 b4))⟩
   omega
  have p3:=dF b3
  refine aB<|ak (v:=.bool ((getM jU (x0.2.2.2.1,x0.2.2.2.2)).isSome)) J J<|au (v:=.bool ((getM jU (x0.2.2.2.1,x0.2.2.2.2)).isSome)) J J<|z<|nx<|cd (b:=(getM jU (x0.2.2.2.1,x0.2.2.2.2)).isSome) J J (fun b4=>?_)<|fun b4=>?_
  ·
   refine rg<|ak J s6<|ak (v:=C (q:Int)) J J<|ak (v:=C ((getM jU (x0.2.2.2.1,x0.2.2.2.2)).getD 0)) J J<|k<|ij (H7.at_ 1 J) J J J J aq cK aV ?_
   intro g1 x1 iq cP gL
   refine k<|pt H7 1 J iq J aq aV J J J J (RV.int.2 ⟨J,aT⟩) ?_
   let J9:=own w.heap.size 3 (.slice (some ⟨g0,0,none⟩) I.length I.length) (xs.set ((q:Int).toNat) ((getM jU (x0.2.2.2.1,x0.2.2.2.2)).getD 0))
   intro w7 (H8:HI M w w7 (J6::J9::bZ))
   refine z<|aJ<|aJ<|nx<|rg<|k<|add J J s9 J aT<|ak (v:=C ((q:Int)+1)) J J<|z ?_
   have H9:HI M w w7 (J9::bZ):=H8.bU [1,2,3,4] aw rfl
   refine bB _ ?_ ⟨(q+1),(xs.set ((q:Int).toNat) ((getM jU (x0.2.2.2.1,x0.2.2.2.2)).getD 0)),J,s5,s6,s7,s8,(bJ J),H9,aq,(by simpa using hl),(by rw[hs];first|exact jQ aP (Kf b2)|exact jQ aP (Ki b2 p3)|exact jQ aP (Kg b2 p3 b4)|exact jQ aP (Kh b2 p3 b4))⟩
   omega
  refine rg<|ak J s6<|ak (v:=C (q:Int)) J J<|k<|ij (H7.at_ 1 J) J J J J aq cK aV ?_
  intro g1 x1 iq cP gL
  refine k<|pt H7 1 J iq J aq aV J J J J (RV.int.2 ⟨J,aT⟩) ?_
  let dO:=own w.heap.size 3 (.slice (some ⟨g0,0,none⟩) I.length I.length) (xs.set ((q:Int).toNat) (-2))
  intro w7 (H8:HI M w w7 (J6::dO::bZ))
  refine z<|aJ<|aJ<|nx<|rg<|k<|add J J s9 J aT<|ak (v:=C ((q:Int)+1)) J J<|z ?_
  have H9:HI M w w7 (dO::bZ):=H8.bU [1,2,3,4] aw rfl
  refine bB _ ?_ ⟨(q+1),(xs.set ((q:Int).toNat) (-2)),J,s5,s6,s7,s8,(bJ J),H9,aq,(by simpa using hl),(by rw[hs];first|exact jQ aP (Kf b2)|exact jQ aP (Ki b2 p3)|exact jQ aP (Kg b2 p3 b4)|exact jQ aP (Kh b2 p3 b4))⟩
  omega
 have p1:=dF b1
 refine ex<|aW<|bc<|bg<|cO<|ak J s6<|au (v:=R (some ⟨g0,0,none⟩) I I.length) J J<|av<|rt<|r1 J J ?_
 have e0:(xs:List Int)=gJ I:=by rw[hs,hm];unfold gJ;rw[Wl aq,show j=I.length from by omega]
 have l0:I.length=(gJ I).length:=by rw[←e0];omega
 have bo:=iB (fun (uT:Nat)=>(.slice (some ⟨g0,0,none⟩) uT I.length:Value)) l0
 exact⟨(some ⟨g0,0,none⟩),I.length,bo,H5.below,(ani (fun (n_:Nat)=>bj _ _ _ (gJ I) (.slice (some ⟨g0,0,none⟩) n_ I.length) _) l0).mp ((ani (fun (x_:List Int)=>bj _ _ _ x_ (.slice (some ⟨g0,0,none⟩) I.length I.length) _) e0).mp (H5.df 0 J))⟩
theorem Nz (hM:eG M w) (V7:cA M w aE aD fv) (dy:cA M w ay ax I) (fZ:cA M w aA az U) (du:I.length≤4096):Calls aK 28 #[.agg #[R aE fv aD,R ay I ax,R aA U az]] w (cg fun v w'=>∃(a0:OA) (c0:Nat) (a1:OA) (c1:Nat) (a2:OA) (c2:Nat),v=.agg #[R a0 fv c0,R a1 I c1,.slice a2 (gJ I).length c2]∧Ext w w'∧cA M w' a0 c0 fv∧cA M w' a1 c1 I∧RV M w' (.slice a2 (gJ I).length c2) (gJ I)):=by
 refine dm 7 Tryz.func28 J J J hM fun f0 ha H=>?_
 let J0:=iL aE fv aD
 have H0:=H.put (it:=J0) J<|by rw[bN];exact V7
 let J1:=iL ay I ax
 have H1:=H0.put (it:=J1) J<|by rw[aG rfl,bN];exact dy
 let J2:=iL aA U az
 have H2:=H1.put (it:=J2) J<|by rw[aG rfl,aG rfl,bN];exact fZ
 have i0:f0 0=.agg #[R aE fv aD,R ay I ax,R aA U az]:=ha 0 bh
 refine aB<|k<|bx H2 J i0 ?_
 intro aX w0 bT (H3:HI M w w0 [box aX #[R aE fv aD,R ay I ax,R aA U az] 47,J2,J1,J0])
 refine k<|al H3 dN ?_
 intro aZ w1 da (H4:HI M w w1 [box aZ #[.slice none 0 0,.slice none 0 0,.slice none 0 0] 47,box aX #[R aE fv aD,R ay I ax,R aA U az] 47,J2,J1,J0])
 refine bp<|k<|cz H4 1 J dN J J aw J<|k ?_
 have bP:=Ny (I:=I) (aE:=aE) (aF:=fv.length) (aD:=aD) (aA:=aA) (eU:=U.length) (az:=az) H4.mb (H4.rv 3 J) bq
 refine ca ai0 J (ec J e0) bP ?_
 rintro _ w2 ⟨a0,c0,rfl,eR,cq⟩
 have H5:=H4.eL cq
 refine aS tq J J<|k<|bt H5 2 J qm J J J J J J J ?_
 let J3:=box aX #[R aE fv aD,R ay I ax,R a0 (gJ I) c0] 47
 intro w3 (H6:HI M w w3 [oL w 3 a0 (gJ I) c0,box aZ #[.slice none 0 0,.slice none 0 0,.slice none 0 0] 47,J3,J2,J1,J0])
 refine bp<|k<|cz H6 2 J dN J J aw J<|k<|bt H6 1 J dN J J J J J J J ?_
 intro w4 (H7:HI M w w4 [oL w 3 a0 (gJ I) c0,box aZ #[R aE fv aD,R ay I ax,R a0 (gJ I) c0] 47,J3,J2,J1,J0])
 refine av<|rt<|oY H7 1 J dN J J J J aw ?_
 exact⟨aE,aD,ay,ax,a0,c0,J,H7.below,(H7.fj 5 J),(H7.fj 4 J),(H7.mw 0 J)⟩
theorem YE:cu aK 114:=⟨_,_,Tryz.func114,rfl,aC⟩
theorem aiS:cu aK 77:=⟨_,_,Tryz.func77,rfl,aC⟩
theorem afT:cu aK 113:=⟨_,_,Tryz.func113,rfl,aC⟩
theorem afC:cu aK 146:=⟨_,_,Tryz.func146,rfl,aC⟩
theorem afU:cu aK 112:=⟨_,_,Tryz.func112,rfl,aC⟩
theorem aiV:cu aK 74:=⟨_,_,Tryz.func74,rfl,aC⟩
theorem aiT:cu aK 76:=⟨_,_,Tryz.func76,rfl,aC⟩
theorem aiU:cu aK 75:=⟨_,_,Tryz.func75,rfl,aC⟩
set_option maxRecDepth 100000 in
set_option maxHeartbeats 1600000 in
def CC:Go.Shelf.Ren:=⟨fun|160=>114|232=>148|231=>147|227=>149|234=>151|233=>150|236=>153|235=>152|228=>172|271=>175|151=>174|197=>173|120=>188|152=>187|260=>186|137=>192|119=>193|224=>194|225=>195|217=>196|266=>197|n=>n,fun|9=>9|4=>4|3=>3|5=>5|117=>200|116=>199|0=>0|124=>203|21=>21|105=>220|46=>152|119=>244|139=>247|138=>246|n=>n,fun|3=>1|4=>2|n=>n⟩
theorem LD:Go.Proofs.Lays.n160 aK CC:={
  mixed:=aC
  f119:=Tryz.func193.trans (ani some aC)
  f120:=Tryz.func188.trans (ani some aC)
  f137:=Tryz.func192.trans (ani some aC)
  f151:=Tryz.func174.trans (ani some aC)
  f152:=Tryz.func187.trans (ani some aC)
  f160:=Tryz.func114.trans (ani some aC)
  f197:=Tryz.func173.trans (ani some aC)
  f217:=Tryz.func196.trans (ani some aC)
  f224:=Tryz.func194.trans (ani some aC)
  f225:=Tryz.func195.trans (ani some aC)
  f227:=Tryz.func149.trans (ani some aC)
  f228:=Tryz.func172.trans (ani some aC)
  f231:=Tryz.func147.trans (ani some aC)
  f232:=Tryz.func148.trans (ani some aC)
  f233:=Tryz.func150.trans (ani some aC)
  f234:=Tryz.func151.trans (ani some aC)
  f235:=Tryz.func152.trans (ani some aC)
  f236:=Tryz.func153.trans (ani some aC)
  f260:=Tryz.func186.trans (ani some aC)
  f266:=Tryz.func197.trans (ani some aC)
  f271:=Tryz.func175.trans (ani some aC)
  t0:=Tryz.underlying0
  a0:=Tryz.isAgg0
  z0:=Tryz.sizeOf0
  v0:=Tryz.zeroValue0
  t3:=Tryz.underlying3
  a3:=Tryz.isAgg3
  z3:=Tryz.sizeOf3
  v3:=Tryz.zeroValue3
  t4:=Tryz.underlying4
  a4:=Tryz.isAgg4
  z4:=Tryz.sizeOf4
  v4:=Tryz.zeroValue4
  t5:=Tryz.underlying5
  a5:=Tryz.isAgg5
  z5:=Tryz.sizeOf5
  v5:=Tryz.zeroValue5
  t9:=Tryz.underlying9
  a9:=Tryz.isAgg9
  z9:=Tryz.sizeOf9
  v9:=Tryz.zeroValue9
  t21:=Tryz.underlying21
  a21:=Tryz.isAgg21
  z21:=Tryz.sizeOf21
  v21:=Tryz.zeroValue21
  t46:=Tryz.underlying152
  a46:=Tryz.isAgg152
  z46:=Tryz.sizeOf152
  v46:=Tryz.zeroValue152
  t105:=Tryz.underlying220
  a105:=Tryz.isAgg220
  z105:=Tryz.sizeOf220
  v105:=Tryz.zeroValue220
  t116:=Tryz.underlying199
  a116:=Tryz.isAgg199
  z116:=Tryz.sizeOf199
  t117:=Tryz.underlying200
  a117:=Tryz.isAgg200
  z117:=Tryz.sizeOf200
  v117:=Tryz.zeroValue200
  t119:=Tryz.underlying244
  a119:=Tryz.isAgg244
  z119:=Tryz.sizeOf244
  t124:=Tryz.underlying203
  a124:=Tryz.isAgg203
  z124:=Tryz.sizeOf203
  v124:=Tryz.zeroValue203
  t138:=Tryz.underlying246
  a138:=Tryz.isAgg246
  z138:=Tryz.sizeOf246
  v138:=Tryz.zeroValue246
  t139:=Tryz.underlying247
  a139:=Tryz.isAgg247
  z139:=Tryz.sizeOf247
  v139:=Tryz.zeroValue247
  g3:=aC
  g4:=by kernel_rfl}
theorem B6 (kZ:s.size≤maxLen) (aiC:cs.size≤maxLen) (Fq:Ri cs):Calls aK 114 #[.string s,.string cs] w (cg fun v w'=>v=.string (trimB s cs)∧Ext w w'):=by
  have Mf:(aK.info? (CC.t 116)).map (fun i=>(i.zero,i.size))=some (some (.agg (Array.replicate 256 (.bool false))),256):=aC
  by_cases h0:s.size=0
  · refine(Go.Proofs.Any.strings_Trim_empty LD s cs w<|.inl h0).mono ?_
    rintro e w' ⟨rfl,rfl⟩
    unfold cg
    refine⟨_,J,?_,Ext.refl _⟩
    have hs:s.data.toList=[]:=by rw[←aok,an4];exact h0
    unfold trimB
    rw[hs]
    refine ani Value.string ?_
    cases s with|mk a=>exact ani ByteArray.mk (ao3 h0)
  · refine(Go.Proofs.Any.strings_Trim_set LD (zero_of_info Mf).1 (zero_of_info Mf).2 s cs w Fq.two aq kZ Fq.low Fq.asc).mono ?_
    rintro e w' ⟨rfl,q,rfl⟩
    unfold cg
    exact⟨_,J,J,((Ext.alloc w _).trans (Ext.alloc _ _)).trans (TK _ q)⟩
set_option maxRecDepth 100000 in
set_option maxHeartbeats 1600000 in
def xi:Go.Shelf.Ren:=⟨fun|161=>144|231=>147|227=>149|233=>150|235=>152|228=>172|197=>173|151=>174|260=>186|152=>187|137=>192|119=>193|224=>194|225=>195|217=>196|266=>197|n=>n,fun|9=>9|4=>4|3=>3|5=>5|117=>200|116=>199|0=>0|124=>203|105=>220|21=>21|119=>244|46=>152|139=>247|138=>246|n=>n,fun|3=>1|4=>2|n=>n⟩
theorem CD:Go.Proofs.Lays.n161 aK xi:={
  mixed:=aC
  f119:=Tryz.func193.trans (ani some aC)
  f137:=Tryz.func192.trans (ani some aC)
  f151:=Tryz.func174.trans (ani some aC)
  f152:=Tryz.func187.trans (ani some aC)
  f161:=Tryz.func144.trans (ani some aC)
  f197:=Tryz.func173.trans (ani some aC)
  f217:=Tryz.func196.trans (ani some aC)
  f224:=Tryz.func194.trans (ani some aC)
  f225:=Tryz.func195.trans (ani some aC)
  f227:=Tryz.func149.trans (ani some aC)
  f228:=Tryz.func172.trans (ani some aC)
  f231:=Tryz.func147.trans (ani some aC)
  f233:=Tryz.func150.trans (ani some aC)
  f235:=Tryz.func152.trans (ani some aC)
  f260:=Tryz.func186.trans (ani some aC)
  f266:=Tryz.func197.trans (ani some aC)
  t0:=Tryz.underlying0
  a0:=Tryz.isAgg0
  z0:=Tryz.sizeOf0
  v0:=Tryz.zeroValue0
  t3:=Tryz.underlying3
  a3:=Tryz.isAgg3
  z3:=Tryz.sizeOf3
  v3:=Tryz.zeroValue3
  t4:=Tryz.underlying4
  a4:=Tryz.isAgg4
  z4:=Tryz.sizeOf4
  v4:=Tryz.zeroValue4
  t5:=Tryz.underlying5
  a5:=Tryz.isAgg5
  z5:=Tryz.sizeOf5
  v5:=Tryz.zeroValue5
  t9:=Tryz.underlying9
  a9:=Tryz.isAgg9
  z9:=Tryz.sizeOf9
  v9:=Tryz.zeroValue9
  t21:=Tryz.underlying21
  a21:=Tryz.isAgg21
  z21:=Tryz.sizeOf21
  v21:=Tryz.zeroValue21
  t46:=Tryz.underlying152
  a46:=Tryz.isAgg152
  z46:=Tryz.sizeOf152
  v46:=Tryz.zeroValue152
  t105:=Tryz.underlying220
  a105:=Tryz.isAgg220
  z105:=Tryz.sizeOf220
  v105:=Tryz.zeroValue220
  t116:=Tryz.underlying199
  a116:=Tryz.isAgg199
  z116:=Tryz.sizeOf199
  t117:=Tryz.underlying200
  a117:=Tryz.isAgg200
  z117:=Tryz.sizeOf200
  v117:=Tryz.zeroValue200
  t119:=Tryz.underlying244
  a119:=Tryz.isAgg244
  z119:=Tryz.sizeOf244
  t124:=Tryz.underlying203
  a124:=Tryz.isAgg203
  z124:=Tryz.sizeOf203
  v124:=Tryz.zeroValue203
  t138:=Tryz.underlying246
  a138:=Tryz.isAgg246
  z138:=Tryz.sizeOf246
  v138:=Tryz.zeroValue246
  t139:=Tryz.underlying247
  a139:=Tryz.isAgg247
  z139:=Tryz.sizeOf247
  v139:=Tryz.zeroValue247
  g3:=aC
  g4:=by kernel_rfl}
theorem EV (kZ:s.size≤maxLen) (aiC:cs.size≤maxLen) (Fq:Ri cs):Calls aK 144 #[.string s,.string cs] w (cg fun v w'=>v=.string (B4 s cs)∧Ext w w'):=by
  have Mf:(aK.info? (xi.t 116)).map (fun i=>(i.zero,i.size))=some (some (.agg (Array.replicate 256 (.bool false))),256):=aC
  by_cases h0:s.size=0
  · refine(Go.Proofs.Any.strings_TrimLeft_empty CD s cs w<|.inl h0).mono ?_
    rintro e w' ⟨rfl,rfl⟩
    unfold cg
    refine⟨_,J,?_,Ext.refl _⟩
    have hs:s.data.toList=[]:=by rw[←aok,an4];exact h0
    unfold B4
    rw[hs]
    refine ani Value.string ?_
    cases s with|mk a=>exact ani ByteArray.mk (ao3 h0)
  · refine(Go.Proofs.Any.strings_TrimLeft_set CD (zero_of_info Mf).1 (zero_of_info Mf).2 s cs w Fq.two aq Fq.low Fq.asc).mono ?_
    rintro e w' ⟨rfl,rfl⟩
    unfold cg
    exact⟨_,J,J,(Ext.alloc w _).trans (Ext.alloc _ _)⟩
theorem Qy (kZ:s.size≤maxLen):Calls aK 77 #[.string s] w (cg fun v w'=>v=.bool (lS s)∧Ext w w'):=by
 refine dm 15 Tryz.func77 J J J py fun f0 ha H=>?_
 have i0:f0 0=.string s:=ha 0 bh
 refine aB<|au (v:=.bool false) J J<|bp<|ak J i0<|k<|neS J J J J<|ak (v:=.bool (!decide (s=⟨#[]⟩))) J J ?_
 rcases bE (!decide (s=⟨#[]⟩)) with b0|b0
 ·
  have p0:=dF<|fX b0
  refine aU J J J b0<|mv J i0<|aU J J J b0<|vR J J mC<|aU J J J b0<|leq J J J J<|k<|aR J J J J b0 J<|ak (v:=.bool (decide ((s.size:Int)≤8))) J J ?_
  rcases bE (decide ((s.size:Int)≤8)) with b1|b1
  ·
   refine aU J J J b1<|mv J i0<|aU J J J b1 ?_
   have bP:=B6 (s:=s) (cs:=⟨#[97,98,99,100,101,102,103,104,105,106,107,108,109,110,111,112,113,114,115,116,117,118,119,120,121,122]⟩) (w:=w) bq aw<|by exact NO
   refine ca YE J (ec J<|ec J e0) bP ?_
   rintro _ w0 ⟨rfl,bT⟩
   have H0:=H.ext bT
   refine aU J J J b1<|YK J J J J<|k<|aR J J J J b1 J<|au (v:=.bool (decide (trimB s ⟨#[97,98,99,100,101,102,103,104,105,106,107,108,109,110,111,112,113,114,115,116,117,118,119,120,121,122]⟩=⟨#[]⟩))) J J<|av<|rt<|r1 J J ?_
   exact⟨ani Value.bool (by rw[Fe];simp only[(fX b0),b1,BL]),H0.below⟩
  refine aO J J J b1<|aO J J J b1<|aO J J J b1<|k<|cJ J J J J b1 J<|au (v:=.bool false) J J<|av<|rt<|r1 J J ?_
  exact⟨ani Value.bool (by rw[Fe];simp only[(fX b0),b1,BL]),H.below⟩
 have p0:=dT<|eY b0
 refine aO J J J b0<|aO J J J b0<|aO J J J b0<|k<|cJ J J J J b0 J<|ak (v:=.bool false) J J<|aO J J J J<|aO J J J J<|aO J J J J<|k<|cJ J J J J J J<|au (v:=.bool false) J J<|av<|rt<|r1 J J ?_
 exact⟨ani Value.bool (by rw[Fe];simp only[(eY b0),BL]),H.below⟩
theorem NG {ow:Bool} {ov:ByteArray} {on:Int} (amD:ov.size≤maxLen) (amE:aM on):Calls aK 76 #[.agg #[.bool ow,.string ov,C on]] w (cg fun v w'=>v=.bool (!(lS ov))∧Ext w w'):=by
 refine dm 7 Tryz.func76 J J J py fun f0 ha H=>?_
 have i0:f0 0=.agg #[.bool ow,.string ov,C on]:=ha 0 bh
 refine aB<|k<|bx H J i0 ?_
 intro aX w0 bT (H0:HI (fun _=>False) w w0 [box aX #[.bool ow,.string ov,C on] 43])
 refine au (v:=.bool false) J J<|bp<|aS nf J J<|bl H0 0 J oa J J J<|k ?_
 have bP:=Qy (s:=ov) (w:=w0) bq
 refine ca aiS J (ec J e0) bP ?_
 rintro _ w1 ⟨rfl,da⟩
 have H1:=H0.ext da
 refine k<|jI J J<|au (v:=.bool (!(lS ov))) J J<|av<|rt<|r1 J J ?_
 exact⟨ani Value.bool (show (!(lS ov))=(!(lS ov)) from rfl),H1.below⟩
theorem LM {r:List (Bool×ByteArray×Int)} {p:(Bool×ByteArray×Int)→Bool} (hM:eG M w) (pE:cA M w jH jV r) (Ae:FP aK qf qj M w r p):Calls aK 113 #[R jH r jV,.func (.func qf) #[] qj.toArray] w (cg fun v w'=>v=C (eA p r)∧Ext w w'):=by
 refine dm 19 Tryz.func113 J J J hM fun f0 ha H=>?_
 have H0:=dS H pE
 have VK:=bf pE
 have i0:f0 0=R jH r jV:=ha 0 bh
 have i1:f0 1=.func (.func qf) #[] qj.toArray:=ha 1 bh
 refine aB<|au (v:=C 0) J J<|av<|sq<|aB<|ak J i0<|k<|dP J J nY<|ak (v:=C 0) J J<|av<|bk<|lp (fun m f w'=>∃(j:Nat),m=r.length-j∧f 0=R jH r jV∧f 1=.func (.func qf) #[] qj.toArray∧f 7=C (r.length:Int)∧f 8=C (j:Int)∧HI M w w' [iL jH r jV]∧(j≤r.length)∧((r.take j).any p=false)) _ ⟨0,J,i0,i1,J,(bJ J),H0,aq,bh⟩ ?_
 rintro _ f0 w0 ⟨j,rfl,s0,s1,s2,s3,H1,hk,hs⟩
 refine aB<|k<|lss J J s3 s2<|av<|sq<|cd (b:=decide ((j:Int)<(r.length:Int))) J J (fun b0=>?_)<|fun b0=>?_
 ·
  have p0:=dT b0
  refine sk<|nx<|sq<|bk<|aB<|ak J s3<|au (v:=C (j:Int)) J J<|bp<|ak J s1<|ak J s0<|ak (v:=C (j:Int)) J J<|k<|ia (H1.rv 0 J) J J J J aq nY ir ?_
  intro iC x0 aP ct
  refine k<|nt ct.w ir J J ?_
  intro v0 cq
  obtain⟨_,⟨_,_,rfl,rfl,⟨_,_,rfl,⟨rfl,dZ⟩,⟨rfl,dY⟩⟩⟩,rfl⟩:=cq
  refine k<|cf Ae.1 J J J (ec J e0) (Ae.2 _ _ _ (by exact dB ‹_›) H1.below<|RV.lift (v:=.agg #[.bool x0.1,.string x0.2.1,C x0.2.2]) (x:=((x0.1,x0.2.1,x0.2.2):(Bool×ByteArray×Int))) ⟨_,⟨_,_,J,J,⟨_,_,J,⟨J,aq⟩,⟨J,(show aM (x0.2.2) from aT)⟩⟩⟩,J⟩ H1.out) ?_
  rintro _ w1 ⟨rfl,bT⟩
  have H2:=H1.ext bT
  refine z<|nx<|cd (b:=p (x0.1,x0.2.1,x0.2.2)) J J (fun b1=>?_)<|fun b1=>?_
  ·
   refine aB<|ak (v:=C (j:Int)) J J<|au (v:=C (j:Int)) J J<|av<|rt<|bQ<|aL<|dU<|bQ<|aL<|r1 J J ?_
   exact⟨ani (Value.int .i64) (by exact ue aP hs b1),H2.below⟩
  refine sk<|aJ<|nx<|rg<|k<|add J J s3 J aT<|ak (v:=C ((j:Int)+1)) J J<|z<|bB _ ?_ ⟨(j+1),J,s0,s1,s2,(bJ J),H2,aq,(by exact po aP hs b1)⟩
  omega
 have p0:=dF b0
 refine ex<|aW<|bc<|bg<|cO<|au (v:=C (-1)) J J<|av<|rt<|r1 J J ?_
 exact⟨ani (Value.int .i64) (by exact uX hs aq),H1.below⟩
theorem G5 {r:List (Bool×ByteArray×Int)} {p:(Bool×ByteArray×Int)→Bool} (hM:eG M w) (pE:cA M w jH jV r) (Ae:FP aK qf qj M w r p):Calls aK 75 #[R jH r jV,.func (.func qf) #[] qj.toArray] w (cg fun v w'=>v=.bool (r.any p)∧Ext w w'):=by
 refine dm 9 Tryz.func75 J J J hM fun f0 ha H=>?_
 have H0:=dS H pE
 have i0:f0 0=R jH r jV:=ha 0 bh
 have i1:f0 1=.func (.func qf) #[] qj.toArray:=ha 1 bh
 refine aB<|au (v:=.bool false) J J<|bp<|ak J i0<|ak J i1<|k ?_
 have bP:=LM (r:=r) (p:=p) H0.mb (H0.rv 0 J)<|Ae.sub H0.below UB
 refine ca afT J (ec J<|ec J e0) bP ?_
 rintro _ w0 ⟨rfl,bT⟩
 have H1:=H0.ext bT
 refine k<|geq J J J J<|au (v:=.bool (decide (0≤(eA p r)))) J J<|av<|rt<|r1 J J ?_
 exact⟨ani Value.bool (by exact uf),H1.below⟩
set_option maxRecDepth 100000 in
set_option maxHeartbeats 1600000 in
def LF:Go.Shelf.Ren:=⟨fun|4=>146|n=>n,fun|22=>40|25=>43|3=>3|4=>4|9=>9|20=>20|0=>0|n=>n,fun|n=>n⟩
theorem LG:Go.Proofs.Lays8.n4 aK LF:={
  mixed:=aC
  f4:=⟨Tryz.f146.name,by decide,Tryz.func146.trans (ani some aC)⟩
  t0:=Tryz.underlying0
  a0:=Tryz.isAgg0
  z0:=Tryz.sizeOf0
  v0:=Tryz.zeroValue0
  t3:=Tryz.underlying3
  a3:=Tryz.isAgg3
  z3:=Tryz.sizeOf3
  v3:=Tryz.zeroValue3
  t4:=Tryz.underlying4
  a4:=Tryz.isAgg4
  z4:=Tryz.sizeOf4
  v4:=Tryz.zeroValue4
  t9:=Tryz.underlying9
  a9:=Tryz.isAgg9
  z9:=Tryz.sizeOf9
  v9:=Tryz.zeroValue9
  t20:=Tryz.underlying20
  a20:=Tryz.isAgg20
  z20:=Tryz.sizeOf20
  v20:=Tryz.zeroValue20
  t22:=Tryz.underlying40
  a22:=Tryz.isAgg40
  z22:=Tryz.sizeOf40
  v22:=Tryz.zeroValue40}
theorem aaa {W_:OA} {VB WR:Nat} {KO:Int} (hM:eG M w) (alY:aM KO) (BE:W_=none∧VB=0∧WR=0) (amf:0≤KO∧KO≤1048576):Calls aK 146 #[.slice W_ VB WR,C KO] w (cg fun v w'=>∃(a0:OA) (c0:Nat),v=.slice a0 ([]:List (Bool×ByteArray×Int)).length c0∧Ext w w'∧bj M 43 w ([]:List (Bool×ByteArray×Int)) (.slice a0 ([]:List (Bool×ByteArray×Int)).length c0) w'):=by
  obtain⟨rfl,rfl,rfl⟩:=BE
  obtain⟨m,rfl⟩:∃m:Nat,KO=((m:Nat):Int):=⟨KO.toNat,by omega⟩
  by_cases h0:m=0
  · subst h0
    refine(Go.Proofs.Any8.slices_Grow_room LG none 0 0 0 w aq aq aq aq).mono ?_
    rintro e w' ⟨rfl,rfl⟩
    unfold cg
    exact⟨_,J,none,0,J,Ext.refl _,fN (Ext.refl _)⟩
  · have tM:(aK.info? 43).map (fun i=>(i.size,i.bytes,i.zero))=some (3,32,some (.agg #[.bool false,.string ⟨#[]⟩,.int .i64 0])):=aC
    obtain⟨i0,Jg,su⟩:=anL.1 tM
    simp only[an1] at su
    obtain⟨e1,e2,e3⟩:=su
    refine(Go.Proofs.Any8.slices_Grow_grow LG i0 (.agg #[.bool false,.string ⟨#[]⟩,.int .i64 0]) Jg e3 aq none 0 0 m [] w aq aq (by rw[e2];omega) aq bh (fun _=>rfl)<|fun a h=>by cases h).mono ?_
    rintro e w' ⟨rfl,rfl⟩
    unfold cg
    exact⟨_,J,_,_,J,(Ext.drew w).trans (Ext.alloc _ _),To (z:=.agg #[.bool false,.string ⟨#[]⟩,.int .i64 0]) rfl aq⟩
theorem TY (hM:eG M w) (lU:cA M w gk gj h) (lP:h.flatten.length≤1048576):Calls aK 112 #[R gk h gj] w (cg fun v w'=>∃(a0:OA) (c0:Nat),v=.slice a0 h.flatten.length c0∧Ext w w'∧bj M 43 w h.flatten (.slice a0 h.flatten.length c0) w'):=by
 refine dm 36 Tryz.func112 J J J hM fun f0 ha H=>?_
 have H0:=dS H lU
 have HM:=bf lU
 have i0:f0 0=R gk h gj:=ha 0 bh
 refine aB<|au (v:=.slice none 0 0) J J<|bp<|au (v:=C 0) J J<|av<|sq<|aB<|ak J i0<|k<|dP J J ml<|ak (v:=C 0) J J<|av<|bk<|lp (fun m f w'=>∃(j_:Nat),m=h.length-j_∧f 0=R gk h gj∧f 3=C ((((h.take j_).flatten).length:Nat):Int)∧f 9=R gk h gj∧f 10=C (h.length:Int)∧f 11=C (j_:Int)∧HI M w w' [iL gk h gj]∧(j_≤h.length)) _ ⟨0,J,i0,(bJ J),J,J,(bJ J),H0,aq⟩ ?_
 rintro _ f0 w0 ⟨j_,rfl,s0,s1,s2,s3,s4,H1,pB⟩
 refine aB<|k<|lss J J s4 s3<|av<|sq<|cd (b:=decide ((j_:Int)<(h.length:Int))) J J (fun b0=>?_)<|fun b0=>?_
 ·
  have p0:=dT b0
  refine sk<|nx<|sq<|bk<|aB<|k<|ia (H1.rv 0 J) J J s2 s4 aq ml mo ?_
  intro iC x0 aP ct
  refine k<|te ct.w mo J J ?_
  intro a0 c0 cq
  have zV:=bf cq
  have H2:=dS H1 cq
  refine au (v:=R a0 x0 c0) J J<|bp<|ak J s1<|ak (v:=R a0 x0 c0) J J<|k<|dP J J nY<|k<|add J J J J (by have h_:=uq aP;unfold aM at *;omega)<|au (v:=C (((((h.take j_).flatten).length:Nat):Int)+(x0.length:Int))) J J<|bp<|ak (v:=C (((((h.take j_).flatten).length:Nat):Int)+(x0.length:Int))) J J<|k<|lss J J J J<|z<|nx ?_
  have BA:(decide ((((((h.take j_).flatten).length:Nat):Int)+(x0.length:Int))<0))=false:=(by rw[anw];omega)
  refine oQ J J BA<|sk<|aJ<|nx<|rg<|k<|add J J s4 J (by have h_:=uq aP;unfold aM at *;omega)<|ak (v:=C ((j_:Int)+1)) J J<|z ?_
  have H3:HI M w w0 [iL gk h gj]:=H2.bU [1] aw rfl
  refine bB _ ?_ ⟨(j_+1),J,s0,(ieq J<|by rw[u6 aP,fA];omega),s2,s3,(bJ J),H3,aq⟩
  omega
 have p0:=dF b0
 refine ex<|aW<|bc<|bg<|cO<|ak J s1<|k ?_
 have bP:=aaa (KO:=((((h.take j_).flatten).length:Nat):Int)) (W_:=none) (VB:=0) (WR:=0) H1.mb (by have h_:=TB h j_;unfold aM at *;omega) (by exact⟨J,J,J⟩)<|by rw[l5 aq] at *;omega
 refine ca afC J (ec J<|ec J e0) bP ?_
 rintro _ w1 ⟨a0,c0,rfl,bT,cq⟩
 have H2:=H1.eL cq
 refine au (v:=R a0 ([]:List (Bool×ByteArray×Int)) c0) J J<|av<|sq<|aB<|ak J s0<|k<|dP J J ml<|ak (v:=C 0) J J<|av<|bk<|lp (fun m f w'=>∃(i_:Nat) (nL:List (Bool×ByteArray×Int)) (a1:OA) (c1:Nat),m=h.length-i_∧f 6=R a1 nL c1∧f 25=R gk h gj∧f 26=C (h.length:Int)∧f 27=C (i_:Int)∧HI M w w' [oL w 43 a1 nL c1,iL gk h gj]∧(i_≤h.length)∧(nL=(h.take i_).flatten)) _ ⟨0,([]:List (Bool×ByteArray×Int)),a0,c0,J,J,J,J,(bJ J),H2,aq,(by rfl)⟩ ?_
 rintro _ f1 w2 ⟨i_,nL,a1,c1,rfl,s5,s6,s7,s8,H3,pB,hs⟩
 refine aB<|k<|lss J J s8 s7<|av<|sq<|cd (b:=decide ((i_:Int)<(h.length:Int))) J J (fun b1=>?_)<|fun b1=>?_
 ·
  have p1:=dT b1
  refine sk<|nx<|sq<|bk<|aB<|k<|ia (H3.rv 1 J) J J s6 s8 aq ml mo ?_
  intro iC x0 aP ct
  refine k<|te ct.w mo J J ?_
  intro a2 c2 dZ
  have zV:=bf dZ
  have H4:=dS H3 dZ
  refine au (v:=R a2 x0 c2) J J<|av<|rg<|ak J s5<|ak (v:=R a2 x0 c2) J J<|k<|lA H4 1 J J J J J J (H4.rv 0 J).src nY ir J (by have h_:=uq aP;rw[hs];omega) J ?_
  intro a3 c3 w3 (H5:HI M w w3 [iL a2 x0 c2,oL w 43 a3 (nL++x0) c3,iL gk h gj])
  refine au (v:=R a3 (nL++x0) c3) J J<|z<|aJ<|nx<|rg<|k<|add J J s8 J (by have h_:=uq aP;unfold aM at *;omega)<|ak (v:=C ((i_:Int)+1)) J J<|z ?_
  have H6:HI M w w3 [oL w 43 a3 (nL++x0) c3,iL gk h gj]:=H5.bU [1,2] aw rfl
  refine bB _ ?_ ⟨(i_+1),(nL++x0),a3,c3,J,J,s6,s7,(bJ J),H6,aq,(by rw[hs,u6 aP])⟩
  omega
 have p1:=dF b1
 refine ex<|aW<|bc<|bg<|cO<|ak J s5<|au (v:=R a1 nL c1) J J<|av<|rt<|r1 J J ?_
 have e0:(nL:List (Bool×ByteArray×Int))=h.flatten:=by rw[hs,l5 aq]
 have bo:=iB (fun (bW:List (Bool×ByteArray×Int))=>(.slice a1 bW.length c1:Value)) e0
 exact⟨a1,c1,bo,H3.below,(ani (fun (x_:List (Bool×ByteArray×Int))=>bj _ _ _ x_ (.slice a1 x_.length c1) _) e0).mp (H3.df 0 J)⟩
theorem S8 (hM:eG M w) (lU:cA M w gk gj h) (lP:h.flatten.length≤1048576):Calls aK 74 #[R gk h gj] w (cg fun v w'=>∃(a0:OA) (c0:Nat),v=.slice a0 h.flatten.length c0∧Ext w w'∧bj M 43 w h.flatten (.slice a0 h.flatten.length c0) w'):=by
 refine dm 5 Tryz.func74 J J J hM fun f0 ha H=>?_
 have H0:=dS H lU
 have i0:f0 0=R gk h gj:=ha 0 bh
 refine aB<|au (v:=.slice none 0 0) J J<|bp<|ak J i0<|k ?_
 have bP:=TY (h:=h) H0.mb (H0.rv 0 J)<|by exact lP
 refine ca afU J (ec J e0) bP ?_
 rintro _ w0 ⟨a0,c0,rfl,bT,cq⟩
 have H1:=H0.eL cq
 refine au (v:=R a0 h.flatten c0) J J<|av<|rt<|r1 J J ?_
 exact⟨a0,c0,J,H1.below,(H1.df 0 J)⟩
theorem Qz (hM:eG M w) (lU:cA M w gk gj h) (lP:h.flatten.length≤1048576):Calls aK 51 #[R gk h gj] w (cg fun v w'=>v=.bool (gC h)∧Ext w w'):=by
 refine dm 14 Tryz.func51 J J J hM fun f0 ha H=>?_
 have H0:=dS H lU
 have i0:f0 0=R gk h gj:=ha 0 bh
 refine aB<|au (v:=.bool false) J J<|bp<|ak J i0<|k ?_
 have bP:=S8 (h:=h) H0.mb (H0.rv 0 J)<|by exact lP
 refine ca aiV J (ec J e0) bP ?_
 rintro _ w0 ⟨a0,c0,rfl,bT,cq⟩
 have H1:=H0.eL cq
 refine au (v:=R a0 h.flatten c0) J J<|bp<|ak (v:=R a0 h.flatten c0) J J<|k<|dP J J nY<|k<|leq J J J J<|ak (v:=.bool (decide ((h.flatten.length:Int)≤4096))) J J ?_
 rcases bE (decide ((h.flatten.length:Int)≤4096)) with b0|b0
 ·
  refine aU J J J b0<|mv (v:=R a0 h.flatten c0) J J<|aU J J J b0 ?_
  have H2:=H1.freeze 0 J
  have cS:=G5 (r:=h.flatten) (p:=(fun (x_:(Bool×ByteArray×Int))=>(!(lS x_.2.1)))) H2.mb (H2.rv 0 J) ⟨aiT,fun w_ v_ x_ th e_ Gw=>by have H_:=H2.ext e_;obtain⟨_,⟨_,_,rfl,rfl,⟨_,_,rfl,⟨rfl,dZ⟩,⟨rfl,dY⟩⟩⟩,rfl⟩:=Gw;exact NG dZ dY⟩
  refine ca aiU J (ec J<|ec J e0) cS ?_
  rintro _ w1 ⟨rfl,da⟩
  have H3:=H1.ext da
  refine aU J J J b0<|jI J J<|k<|aR J J J J b0 J<|au (v:=.bool (!(h.flatten.any<|fun (x_:(Bool×ByteArray×Int))=>(!(lS x_.2.1))))) J J<|av<|rt<|r1 J J ?_
  exact⟨ani Value.bool (by rw[D8];simp only[b0,BL]),H3.below⟩
 refine aO J J J b0<|aO J J J b0<|aO J J J b0<|k<|cJ J J J J b0 J<|au (v:=.bool false) J J<|av<|rt<|r1 J J ?_
 exact⟨ani Value.bool (by rw[D8];simp only[b0,BL]),H1.below⟩
theorem ai1:cu aK 51:=⟨_,_,Tryz.func51,rfl,aC⟩
theorem abR:Rc aK 98:=XM (by kernel_rfl:aK.underlying 98=some (.map 9 3)) (VO mC) aV rfl
theorem SI (hM:eG M w) (lU:cA M w gk gj h) (lP:h.flatten.length≤1048576):Calls aK 26 #[R gk h gj] w (cg fun v w'=>∃(a0:OA) (c0:Nat) (a1:OA) (c1:Nat) (a2:OA) (c2:Nat),v=.tuple #[.agg #[.slice a0 (mc h).length c0,.slice a1 (cN h).length c1,.slice a2 ([]:List Int).length c2],C (lu h)]∧Ext w w'∧RV M w' (.slice a0 (mc h).length c0) (mc h)∧RV M w' (.slice a1 (cN h).length c1) (cN h)∧RV M w' (.slice a2 ([]:List Int).length c2) ([]:List Int)):=by
 refine dm 70 Tryz.func26 J J J hM fun f0 ha H=>?_
 let J0:=iL gk h gj
 have H0:=H.put (it:=J0) J<|by rw[bN];exact lU
 have HM:=bf lU
 have i0:f0 0=R gk h gj:=ha 0 bh
 refine aB<|k<|al H0 dN ?_
 intro aX w0 bT (H1:HI M w w0 [box aX #[.slice none 0 0,.slice none 0 0,.slice none 0 0] 47,J0])
 let J1:=box aX #[.slice none 0 0,.slice none 0 0,.slice none 0 0] 47
 refine au (v:=C 0) J J<|av<|sq<|aB<|ak J i0<|k ?_
 have bP:=Qz (h:=h) H1.mb (H1.rv 1 J)<|by exact lP
 refine ca ai1 J (ec J e0) bP ?_
 rintro _ w1 ⟨rfl,da⟩
 have H2:=H1.ext da
 refine k<|jI J J<|z<|nx<|cd (b:=!(gC h)) J J (fun b0=>?_)<|fun b0=>?_
 ·
  refine sq ?_
  have hq:gC h=false:=by simpa using b0
  refine rg<|k<|bd (v:=.agg #[.slice none 0 0,.slice none 0 0,.slice none 0 0]) J eh (fun _=>aC)<|k<|bt H2 0 J dN J J J J J J J ?_
  intro w2 (H3:HI M w w2 [J1,J0])
  refine au (v:=C 1) J J<|av<|rt<|aL<|im H3 0 J dN J J J J J aw ?_
  have e0:([]:List ByteArray)=mc h:=by exact(xe hq).1.symm
  have e1:([]:List aI)=cN h:=by exact(xe hq).2.1.symm
  have e3:(1:Int)=lu h:=by exact(xe hq).2.2.symm
  have bo:=qN (fun (bW:List ByteArray) (dK:List aI) (lH:Int)=>(.tuple #[.agg #[.slice none bW.length 0,.slice none dK.length 0,.slice none ([]:List Int).length 0],C lH]:Value)) e0 e1 e3
  exact⟨none,0,none,0,none,0,bo,H3.below,(ani (fun (x_:List ByteArray)=>RV _ _ (.slice none x_.length 0) x_) e0).mp (ee _ _),(ani (fun (x_:List aI)=>RV _ _ (.slice none x_.length 0) x_) e1).mp (ee _ _),(ee _ _)⟩
 refine sk<|nx<|sq ?_
 have hq:gC h=true:=by simpa using b0
 refine rg<|k<|al H2 dN ?_
 let ba:=[J1,J0]
 intro aZ w2 eR (H3:HI M w w2 (box aZ #[.slice none 0 0,.slice none 0 0,.slice none 0 0] 47::ba))
 refine bp<|k<|mmS H3 ?_
 intro dD w3 fH (H4:HI M w w3 [tc dD ([]:List (ByteArray×Int)),box aZ #[.slice none 0 0,.slice none 0 0,.slice none 0 0] 47,J1,J0])
 refine au (v:=.map (some dD)) J J<|av<|sq<|aB<|ak J i0<|k<|dP J J ml<|ak (v:=C 0) J J<|av<|bk ?_
 have H5:=H4.rl ByteArray 9
 have H6:=H5.rl aI 95
 refine lp (fun m f w'=>∃(i:Nat) (vs:List ByteArray) (aH:List aI) (jU:List (ByteArray×Int)) (a0:OA) (c0:Nat) (a1:OA) (c1:Nat),m=h.length-i∧f 2=pV aX 0∧f 4=pV aZ 0∧f 5=.map (some dD)∧f 17=R gk h gj∧f 18=C (h.length:Int)∧f 19=C (i:Int)∧HI M w w' [oL w 95 a1 aH c1,oL w 9 a0 vs c0,tc dD jU,box aZ #[R a0 vs c0,R a1 aH c1,.slice none 0 0] 47,J1,J0]∧(i≤h.length)∧(vs=(gW h i).1)∧(aH=(gW h i).2)∧(By vs jU)) _ ⟨0,([]:List ByteArray),([]:List aI),([]:List (ByteArray×Int)),none,0,none,0,J,J,J,J,J,J,(bJ J),H6,aq,(by rfl),(by rfl),(by exact VF)⟩ ?_
 rintro _ f0 w4 ⟨i,vs,aH,jU,a0,c0,a1,c1,rfl,s0,s1,s2,s3,s4,s5,H7,Ya,h1,h2,hm⟩
 refine aB<|k<|lss J J s5 s4<|av<|sq<|cd (b:=decide ((i:Int)<(h.length:Int))) J J (fun b1=>?_)<|fun b1=>?_
 ·
  have p1:=dT b1
  refine sk<|nx<|sq<|bk<|aB<|ak J s5<|k<|ia (H7.rv 5 J) J J s3 s5 aq ml mo ?_
  intro iC x0 aP ct
  refine k<|te ct.w mo J J ?_
  intro a2 c2 cq
  have zV:=bf cq
  let J2:=iL a2 x0 c2
  have H8:=H7.put (it:=J2) J cq
  refine au (v:=C (i:Int)) J J<|au (v:=R a2 x0 c2) J J<|bp<|ak (v:=R a2 x0 c2) J J<|k<|dP J J nY<|ak (v:=C 0) J J<|av<|bk<|lp (fun m f w'=>∃(q:Nat) (ll:List ByteArray) (pW:List aI) (kD:List (ByteArray×Int)) (a3:OA) (c3:Nat) (a4:OA) (c4:Nat),m=(h.getD i []).length-q∧f 2=pV aX 0∧f 4=pV aZ 0∧f 5=.map (some dD)∧f 6=C (i:Int)∧f 17=R gk h gj∧f 18=C (h.length:Int)∧f 19=C (i:Int)∧f 24=R a2 x0 c2∧f 25=C (x0.length:Int)∧f 26=C (q:Int)∧HI M w w' [J2,oL w 95 a4 pW c4,oL w 9 a3 ll c3,tc dD kD,box aZ #[R a3 ll c3,R a4 pW c4,.slice none 0 0] 47,J1,J0]∧(q≤(h.getD i []).length)∧(ll=(jD i (gW h i) (h.getD i []) q).1)∧(pW=(jD i (gW h i) (h.getD i []) q).2)∧(By ll kD)) _ ⟨0,vs,aH,jU,a0,c0,a1,c1,J,s0,s1,s2,J,s3,s4,s5,J,J,(bJ J),H8,aq,(by exact h1),(by exact h2),(by exact hm)⟩ ?_
  rintro _ f1 w5 ⟨q,ll,pW,kD,a3,c3,a4,c4,rfl,s6,s7,s8,s9,eo,fb,fM,fL,gB,gT,H9,hk,h1,h2,hm⟩
  refine aB<|k<|lss J J gT gB<|av<|sq<|cd (b:=decide ((q:Int)<(x0.length:Int))) J J (fun b2=>?_)<|fun b2=>?_
  ·
   have p2:=dT b2
   refine sk<|nx<|sq<|bk<|aB<|ak J gT<|k<|ia (H9.rv 0 J) J J fL gT aq nY ir ?_
   intro rh x1 cP gL
   refine k<|nt gL.w ir J J ?_
   intro v0 dZ
   obtain⟨_,⟨_,_,rfl,rfl,⟨_,_,rfl,⟨rfl,dY⟩,⟨rfl,fu⟩⟩⟩,rfl⟩:=dZ
   refine k<|al H9 ir ?_
   let J3:=oL w 95 a4 pW c4
   let J4:=oL w 9 a3 ll c3
   let J5:=box aZ #[R a3 ll c3,R a4 pW c4,.slice none 0 0] 47
   let bZ:=J4::tc dD kD::J5::ba
   intro bD w6 ja (dH:HI M w w6 (box bD #[.bool false,.string ⟨#[]⟩,C 0] 43::J2::J3::bZ))
   refine au (v:=C (q:Int)) J J<|k<|bt dH 0 J ir J J J J J J J ?_
   let J6:=box bD #[.bool x1.1,.string x1.2.1,C x1.2.2] 43
   intro w7 (db:HI M w w7 (J6::J2::J3::bZ))
   refine bp<|ak J s8<|aS nf J J<|bl db 0 J oa J J J<|k<|ahR (k:=x1.2.1) abR db 4 J J J J J ?_
   intro je
   refine ak (v:=.tuple #[C ((fI kD x1.2.1).getD 0),.bool ((fI kD x1.2.1).isSome)]) J J<|k<|xt J J J<|k<|xt J J J<|au (v:=C ((fI kD x1.2.1).getD 0)) J J<|au (v:=.bool ((fI kD x1.2.1).isSome)) J J<|av<|sq<|aB<|ak (v:=.bool ((fI kD x1.2.1).isSome)) J J<|k<|jI J J<|z<|nx<|cd (b:=!((fI kD x1.2.1).isSome)) J J (fun b3=>?_)<|fun b3=>?_
   ·
    refine aB<|aS u9 J s7<|bl db 5 J B2 J J J<|k<|dP J J Ht<|au (v:=C (ll.length:Int)) J J<|bp<|ak J s8<|aS nf J J<|bl db 0 J oa J J J<|ak (v:=C (ll.length:Int)) J J<|k<|ahP (k:=x1.2.1) (v:=(ll.length:Int)) abR db 4 J J J J J J J (by have h3:=pP (k:=q) aP aq;rw[←fq aP,←h1,←h2] at h3;unfold aM;omega) ?_
    let dE:=tc dD (lJ kD x1.2.1 (ll.length:Int))::J5::ba
    intro w8 (dw:HI M w w8 (J6::J2::J3::J4::dE))
    refine av<|rg<|aS u9 J s7<|bl dw 5 J B2 J J J<|aS nf J J<|bl dw 0 J oa J J J<|k<|bs (xs:=([x1.2.1]:List ByteArray)) (cells:=#[.string x1.2.1]) (e:=9) dw J (cj J eh) (fun _=>aC) ⟨[.string x1.2.1],[],J,⟨J,bq⟩,J⟩ J aw ?_
    intro g0 w9 ji dz
    refine k<|lA dz 4 J J J J J J (gP<|dz.at_ 0 J) Ht oa J (by have h_:=pP (k:=q) aP aq;rw[←fq aP,←h1,←h2] at h_;simp only[iM,gr];omega) J ?_
    let J7:=own w.heap.size 9 (.slice (some ⟨g0,0,none⟩) 1 1) ([x1.2.1]:List ByteArray)
    intro a5 c5 dL (cM:HI M w dL (J7::J6::J2::J3::oL w 9 a5 (ll++([x1.2.1]:List ByteArray)) c5::dE))
    let J8:=oL w 9 a5 (ll++([x1.2.1]:List ByteArray)) c5
    refine aS u9 J s7<|k<|bt cM 6 J B2 J J J J J J J ?_
    let J9:=box aZ #[R a5 (ll++([x1.2.1]:List ByteArray)) c5,R a4 pW c4,.slice none 0 0] 47
    let iO:=J8::tc dD (lJ kD x1.2.1 (ll.length:Int))::J9::ba
    intro ef (dW:HI M w ef (J7::J6::J2::J3::iO))
    refine av<|rg<|aS fB J s7<|bl dW 6 J jb J J J<|ak J s9<|ak (v:=C (q:Int)) J J<|aS oN J J<|bl dW 1 J ob J J J<|ak (v:=C (ll.length:Int)) J J<|aS qK J J<|bl dW 1 J aV J J J<|k<|bd (v:=.agg #[C (i:Int),C (q:Int),.bool x1.1,C (ll.length:Int),C x1.2.2]) J (cj J<|cj J<|cj J<|cj J<|cj J eh) (fun _=>aC)<|k<|bs (xs:=([((i:Int),(q:Int),x1.1,(ll.length:Int),x1.2.2)]:List aI)) (cells:=#[C (i:Int),C (q:Int),.bool x1.1,C (ll.length:Int),C x1.2.2]) (e:=95) dW J (cj J eh) (fun _=>aC) ⟨[C (i:Int),C (q:Int),.bool x1.1,C (ll.length:Int),C x1.2.2],[],J,⟨_,_,J,⟨J,(show aM ((i:Int)) from aT)⟩,⟨_,_,J,⟨J,(show aM ((q:Int)) from aT)⟩,⟨_,_,J,J,⟨_,_,J,⟨J,(show aM ((ll.length:Int)) from(by have h3:=pP (k:=q) aP aq;rw[←fq aP,←h1,←h2] at h3;unfold aM;omega))⟩,⟨J,(show aM (x1.2.2) from bq)⟩⟩⟩⟩⟩,J⟩ J aw ?_
    intro g1 fh kb dt
    refine k<|lA dt 4 J J J J J J (gP<|dt.at_ 0 J) js jy J (by have h_:=pP (k:=q) aP aq;rw[←fq aP,←h1,←h2] at h_;simp only[iM,gr];omega) J ?_
    let dO:=own w.heap.size 95 (.slice (some ⟨g1,0,none⟩) 1 1) ([((i:Int),(q:Int),x1.1,(ll.length:Int),x1.2.2)]:List aI)
    intro a6 c6 iz (cR:HI M w iz (dO::J7::J6::J2::oL w 95 a6 (pW++([((i:Int),(q:Int),x1.1,(ll.length:Int),x1.2.2)]:List aI)) c6::iO))
    let eC:=oL w 95 a6 (pW++([((i:Int),(q:Int),x1.1,(ll.length:Int),x1.2.2)]:List aI)) c6
    refine aS fB J s7<|k<|bt cR 7 J jb J J J J J J J ?_
    let fQ:=box aZ #[R a5 (ll++([x1.2.1]:List ByteArray)) c5,R a6 (pW++([((i:Int),(q:Int),x1.1,(ll.length:Int),x1.2.2)]:List aI)) c6,.slice none 0 0] 47
    let fk:=J2::eC::J8::tc dD (lJ kD x1.2.1 (ll.length:Int))::fQ::ba
    intro jw (dM:HI M w jw (dO::J7::J6::fk))
    refine z<|aJ<|nx<|rg<|k<|add J J gT J aT<|ak (v:=C ((q:Int)+1)) J J<|z ?_
    have dI:HI M w jw fk:=dM.bU [3,4,5,6,7,8,9] aw rfl
    refine bB _ ?_ ⟨(q+1),(ll++([x1.2.1]:List ByteArray)),(pW++([((i:Int),(q:Int),x1.1,(ll.length:Int),x1.2.2)]:List aI)),(lJ kD x1.2.1 (ll.length:Int)),a5,c5,a6,c6,J,s6,s7,s8,s9,eo,fb,fM,fL,gB,(bJ J),dI,(by rw[fq aP] at *;omega),(by exact(OI h1 h2 hm aP cP<|fX b3).1),(by exact(OI h1 h2 hm aP cP<|fX b3).2),(by exact VE hm (fX b3))⟩
    rw[fq aP] at *;omega
   refine sk<|nx<|rg<|aS fB J s7<|bl db 5 J jb J J J<|ak J s9<|ak (v:=C (q:Int)) J J<|aS oN J J<|bl db 0 J ob J J J<|ak (v:=C ((fI kD x1.2.1).getD 0)) J J<|aS qK J J<|bl db 0 J aV J J J<|k<|bd (v:=.agg #[C (i:Int),C (q:Int),.bool x1.1,C ((fI kD x1.2.1).getD 0),C x1.2.2]) J (cj J<|cj J<|cj J<|cj J<|cj J eh) (fun _=>aC)<|k<|bs (xs:=([((i:Int),(q:Int),x1.1,(fI kD x1.2.1).getD 0,x1.2.2)]:List aI)) (cells:=#[C (i:Int),C (q:Int),.bool x1.1,C ((fI kD x1.2.1).getD 0),C x1.2.2]) (e:=95) db J (cj J eh) (fun _=>aC) ⟨[C (i:Int),C (q:Int),.bool x1.1,C ((fI kD x1.2.1).getD 0),C x1.2.2],[],J,⟨_,_,J,⟨J,(show aM ((i:Int)) from aT)⟩,⟨_,_,J,⟨J,(show aM ((q:Int)) from aT)⟩,⟨_,_,J,J,⟨_,_,J,⟨J,(show aM ((fI kD x1.2.1).getD 0) from bq)⟩,⟨J,(show aM (x1.2.2) from bq)⟩⟩⟩⟩⟩,J⟩ J aw ?_
   intro g0 w8 ji dw
   refine k<|lA dw 3 J J J J J J (gP<|dw.at_ 0 J) js jy J (by have h_:=pP (k:=q) aP aq;rw[←fq aP,←h1,←h2] at h_;simp only[iM,gr];omega) J ?_
   let fz:=own w.heap.size 95 (.slice (some ⟨g0,0,none⟩) 1 1) ([((i:Int),(q:Int),x1.1,(fI kD x1.2.1).getD 0,x1.2.2)]:List aI)
   intro a5 c5 w9 (dz:HI M w w9 (fz::J6::J2::oL w 95 a5 (pW++([((i:Int),(q:Int),x1.1,(fI kD x1.2.1).getD 0,x1.2.2)]:List aI)) c5::bZ))
   let il:=oL w 95 a5 (pW++([((i:Int),(q:Int),x1.1,(fI kD x1.2.1).getD 0,x1.2.2)]:List aI)) c5
   refine aS fB J s7<|k<|bt dz 6 J jb J J J J J J J ?_
   let nX:=box aZ #[R a3 ll c3,R a5 (pW++([((i:Int),(q:Int),x1.1,(fI kD x1.2.1).getD 0,x1.2.2)]:List aI)) c5,.slice none 0 0] 47
   let kJ:=J2::il::J4::tc dD kD::nX::ba
   intro dL (cM:HI M w dL (fz::J6::kJ))
   refine z<|aJ<|nx<|rg<|k<|add J J gT J aT<|ak (v:=C ((q:Int)+1)) J J<|z ?_
   have dW:HI M w dL kJ:=cM.bU [2,3,4,5,6,7,8] aw rfl
   refine bB _ ?_ ⟨(q+1),ll,(pW++([((i:Int),(q:Int),x1.1,(fI kD x1.2.1).getD 0,x1.2.2)]:List aI)),kD,a3,c3,a5,c5,J,s6,s7,s8,s9,eo,fb,fM,fL,gB,(bJ J),dW,(by rw[fq aP] at *;omega),(by exact(OH h1 h2 hm aP cP<|eY b3).1),(by exact(OH h1 h2 hm aP cP<|eY b3).2),(by exact hm)⟩
   rw[fq aP] at *;omega
  have p2:=dF b2
  refine ex<|aW<|bc<|bg<|aJ<|nx<|rg<|k<|add J J fM J aT<|ak (v:=C ((i:Int)+1)) J J<|z ?_
  have dH:HI M w w5 [oL w 95 a4 pW c4,oL w 9 a3 ll c3,tc dD kD,box aZ #[R a3 ll c3,R a4 pW c4,.slice none 0 0] 47,J1,J0]:=H9.bU [1,2,3,4,5,6] aw rfl
  refine bB _ ?_ ⟨(i+1),ll,pW,kD,a3,c3,a4,c4,J,s6,s7,s8,eo,fb,(bJ J),dH,aq,(by rw[h1,Bs aq (by rw[fq aP];omega)]),(by rw[h2,Bs aq (by rw[fq aP];omega)]),(by exact hm)⟩
  omega
 have p1:=dF b1
 refine ex<|aW<|bc<|bg<|cO<|k<|cz H7 3 J dN J s1 aw J<|k<|bt H7 4 J dN J J s0 J J J J ?_
 intro w5 (H8:HI M w w5 [oL w 95 a1 aH c1,oL w 9 a0 vs c0,tc dD jU,box aZ #[R a0 vs c0,R a1 aH c1,.slice none 0 0] 47,box aX #[R a0 vs c0,R a1 aH c1,.slice none 0 0] 47,J0])
 refine au (v:=C 0) J J<|av<|rt<|im H8 4 J dN J J J s0 J aw ?_
 have e0:(vs:List ByteArray)=mc h:=by rw[(rM hq).1,h1];unfold yJ;rw[show i=h.length from by omega]
 have e1:(aH:List aI)=cN h:=by rw[(rM hq).2.1,h2];unfold fT;rw[show i=h.length from by omega]
 have e3:(0:Int)=lu h:=by exact(rM hq).2.2.symm
 have bo:=qN (fun (bW:List ByteArray) (dK:List aI) (lH:Int)=>(.tuple #[.agg #[.slice a0 bW.length c0,.slice a1 dK.length c1,.slice none ([]:List Int).length 0],C lH]:Value)) e0 e1 e3
 exact⟨a0,c0,a1,c1,none,0,bo,H8.below,(ani (fun (x_:List ByteArray)=>RV _ _ (.slice a0 x_.length c0) x_) e0).mp (H8.mw 1 J),(ani (fun (x_:List aI)=>RV _ _ (.slice a1 x_.length c1) x_) e1).mp (H8.mw 0 J),(ee _ _)⟩
theorem kV:ei aK 35 19 true 216 (.agg #[.int .i64 0,.int .i64 0,.int .i64 0,.int .i64 0,.int .i64 0,.bool false,.int .i64 0,.int .i64 0,.slice none 0 0,.slice none 0 0,.slice none 0 0,.int .i64 0,.int .i64 0,.int .i64 0,.int .i64 0,.int .i64 0,.slice none 0 0,.int .i64 0,.int .i64 0]):=⟨aC,aC⟩
theorem ajf:cu aK 26:=⟨_,_,Tryz.func26,rfl,aC⟩
theorem adz:cu aK 21:=⟨_,_,Tryz.func21,rfl,aC⟩
theorem aje:cu aK 27:=⟨_,_,Tryz.func27,rfl,aC⟩
theorem ajd:cu aK 28:=⟨_,_,Tryz.func28,rfl,aC⟩
theorem ajc:cu aK 29:=⟨_,_,Tryz.func29,rfl,aC⟩
theorem ajb:cu aK 30:=⟨_,_,Tryz.func30,rfl,aC⟩
theorem rP (hM:eG M w) (hT:fP 0 w) (lU:cA M w gk gj h) (pe:aM lv) (lP:h.flatten.length≤1048576) (alP:h.flatten.length≤64):Calls aK 15 #[R gk h gj,C lv] w (cg fun v w'=>∃(lc_:Int) (nc_:Int) (R4:List (List bY)) (Ux:List Int) (R5:List (List Int)) (iX:List cL) (fw_:Int) (nw_:Int) (a0:OA) (c0:Nat) (a1:OA) (c1:Nat) (a2:OA) (c2:Nat) (a3:OA) (c3:Nat),v=.agg #[C (lN h lv),C 0,C ((ly h lv).1),C ((ly h lv).2),C (rB h lv),.bool (kP h lv),C lc_,C nc_,R a0 R4 c0,R a1 Ux c1,R a2 R5 c2,C ((eW h lv).1),C ((eW h lv).2.1),C ((eW h lv).2.2.1),C ((eW h lv).2.2.2.1),C ((eW h lv).2.2.2.2),R a3 iX c3,C fw_,C nw_]∧Ext w w'∧cA M w' a0 c0 R4∧cA M w' a1 c1 Ux∧cA M w' a2 c2 R5∧cA M w' a3 c3 iX):=by
 refine dm 64 Tryz.func15 J J J hM fun f0 ha H=>?_
 let J0:=iL gk h gj
 have H0:=H.put (it:=J0) J<|by rw[bN];exact lU
 have i0:f0 0=R gk h gj:=ha 0 bh
 have i1:f0 1=C lv:=ha 1 bh
 have aml:=Oo h
 refine aB<|k<|al H0 kV ?_
 intro aX w0 bT (H1:HI M w w0 [box aX #[C 0,C 0,C 0,C 0,C 0,.bool false,C 0,C 0,.slice none 0 0,.slice none 0 0,.slice none 0 0,C 0,C 0,C 0,C 0,C 0,.slice none 0 0,C 0,C 0] 35,J0])
 let J1:=box aX #[C 0,C 0,C 0,C 0,C 0,.bool false,C 0,C 0,.slice none 0 0,.slice none 0 0,.slice none 0 0,C 0,C 0,C 0,C 0,C 0,.slice none 0 0,C 0,C 0] 35
 refine bp<|ak J i0<|k ?_
 have bP:=SI (h:=h) H1.mb (H1.rv 1 J)<|by exact lP
 refine ca ajf J (ec J e0) bP ?_
 rintro _ w1 ⟨a0,c0,a1,c1,a2,c2,rfl,da,cq,dZ,dY⟩
 have H2:=H1.ext da
 let J2:=iL a0 (mc h) c0
 have H3:=H2.put (it:=J2) J cq
 let J3:=iL a1 (cN h) c1
 have H4:=H3.put (it:=J3) J<|by rw[aG J];exact dZ
 let J4:=iL a2 ([]:List Int) c2
 have H5:=H4.put (it:=J4) J<|by rw[aG rfl,aG rfl];exact dY
 refine ak (v:=.tuple #[.agg #[R a0 (mc h) c0,R a1 (cN h) c1,R a2 ([]:List Int) c2],C (lu h)]) J J<|k<|xt J J J<|k<|xt J J J<|k<|al H5 dN ?_
 let ba:=[J4,J3,J2,J1,J0]
 intro aZ w2 eR (H6:HI M w w2 (box aZ #[.slice none 0 0,.slice none 0 0,.slice none 0 0] 47::ba))
 refine k<|bt H6 0 J dN J J J J J J J ?_
 let J5:=box aZ #[R a0 (mc h) c0,R a1 (cN h) c1,R a2 ([]:List Int) c2] 47
 intro w3 (H7:HI M w w3 (J5::ba))
 refine au (v:=C (lu h)) J J<|av<|sq<|sq ?_
 have ams:decide (0<(((dQ lv).length:Nat):Int))=sl lv:=rfl
 refine rg<|ak (v:=C (lu h)) J J<|k<|neq J J J J<|ak (v:=.bool (!decide ((lu h)=0))) J J ?_
 rcases bE (!decide ((lu h)=0)) with b0|b0
 ·
  have p0:=dF<|fX b0
  refine aO J J J b0<|aO J J J b0<|aO J J J b0<|k<|aR J J J J b0 J<|av<|nS J J J<|sq ?_
  obtain⟨qF,nE⟩:=SS (h:=h) (lv:=lv) (by exact .inl (fX ‹(!decide (lu h=0))=true›))
  obtain⟨tk,rq,gN⟩:=Qq qF aw
  refine rg<|k<|bd (v:=.agg #[C 1,C 0,C 0,C 0,C 0,.bool false,C 0,C 0,.slice none 0 0,.slice none 0 0,.slice none 0 0,C 0,C 0,C 0,C 0,C 0,.slice none 0 0,C 0,C 0]) J (cj J eh) (fun _=>aC)<|k<|bt H7 4 J kV J J J J J J J ?_
  intro w4 (H8:HI M w w4 [J5,J4,J3,J2,box aX #[C 1,C 0,C 0,C 0,C 0,.bool false,C 0,C 0,.slice none 0 0,.slice none 0 0,.slice none 0 0,C 0,C 0,C 0,C 0,C 0,.slice none 0 0,C 0,C 0] 35,J0])
  refine av<|rt<|aL<|oY H8 4 J kV J J J J aw ?_
  have e0:(1:Int)=lN h lv:=by rw[qF]
  have e2:(0:Int)=(ly h lv).1:=by rw[nE]
  have e3:(0:Int)=(ly h lv).2:=by rw[nE]
  have e4:(0:Int)=rB h lv:=by rw[tk]
  have e5:(false:Bool)=kP h lv:=by exact rq.symm
  have rI:(0:Int)=(eW h lv).1:=by rw[gN]
  have sB:(0:Int)=(eW h lv).2.1:=by rw[gN]
  have rH:(0:Int)=(eW h lv).2.2.1:=by rw[gN]
  have tv:(0:Int)=(eW h lv).2.2.2.1:=by rw[gN]
  have tu:(0:Int)=(eW h lv).2.2.2.2:=by rw[gN]
  have bo:=MA (fun (bW:Int) (gA:Int) (lH:Int) (wJ:Int) (wI:Bool) (rV:Int) (rU:Int) (rT:Int) (rS:Int) (rR:Int)=>(.agg #[C bW,C 0,C gA,C lH,C wJ,.bool wI,C 0,C 0,.slice none ([]:List (List bY)).length 0,.slice none ([]:List Int).length 0,.slice none ([]:List (List Int)).length 0,C rV,C rU,C rT,C rS,C rR,.slice none ([]:List cL).length 0,C 0,C 0]:Value)) e0 e2 e3 e4 e5 rI sB rH tv tu
  exact⟨0,0,([]:List (List bY)),([]:List Int),([]:List (List Int)),([]:List cL),0,0,none,0,none,0,none,0,none,0,bo,H8.below,(ee _ _),(ee _ _),(ee _ _),(ee _ _)⟩
 have p0:=dT<|eY b0
 refine aU J J J b0<|mv J i1<|aU J J J b0 ?_
 have cS:=Ez (lv:=lv) (w:=w3) pe
 refine ca adz J (ec J e0) cS ?_
 rintro _ w4 ⟨rfl,fH⟩
 have H8:=H7.ext fH
 refine aU J J J b0<|jI J J<|k<|cJ J J J J b0 J<|z<|nx<|cd (b:=!(decide (0<(((dQ lv).length:Nat):Int)))) J J (fun b1=>?_)<|fun b1=>?_
 ·
  have p1:=dF<|fX b1
  refine sq ?_
  obtain⟨qF,nE⟩:=SS (h:=h) (lv:=lv) (by exact .inr (fX ‹(!decide (0<(((dQ lv).length:Nat):Int)))=true›))
  obtain⟨tk,rq,gN⟩:=Qq qF aw
  refine rg<|k<|bd (v:=.agg #[C 1,C 0,C 0,C 0,C 0,.bool false,C 0,C 0,.slice none 0 0,.slice none 0 0,.slice none 0 0,C 0,C 0,C 0,C 0,C 0,.slice none 0 0,C 0,C 0]) J (cj J eh) (fun _=>aC)<|k<|bt H8 4 J kV J J J J J J J ?_
  intro w5 (H9:HI M w w5 [J5,J4,J3,J2,box aX #[C 1,C 0,C 0,C 0,C 0,.bool false,C 0,C 0,.slice none 0 0,.slice none 0 0,.slice none 0 0,C 0,C 0,C 0,C 0,C 0,.slice none 0 0,C 0,C 0] 35,J0])
  refine av<|rt<|aL<|oY H9 4 J kV J J J J aw ?_
  have e0:(1:Int)=lN h lv:=by rw[qF]
  have e2:(0:Int)=(ly h lv).1:=by rw[nE]
  have e3:(0:Int)=(ly h lv).2:=by rw[nE]
  have e4:(0:Int)=rB h lv:=by rw[tk]
  have e5:(false:Bool)=kP h lv:=by exact rq.symm
  have rI:(0:Int)=(eW h lv).1:=by rw[gN]
  have sB:(0:Int)=(eW h lv).2.1:=by rw[gN]
  have rH:(0:Int)=(eW h lv).2.2.1:=by rw[gN]
  have tv:(0:Int)=(eW h lv).2.2.2.1:=by rw[gN]
  have tu:(0:Int)=(eW h lv).2.2.2.2:=by rw[gN]
  have bo:=MA (fun (bW:Int) (gA:Int) (lH:Int) (wJ:Int) (wI:Bool) (rV:Int) (rU:Int) (rT:Int) (rS:Int) (rR:Int)=>(.agg #[C bW,C 0,C gA,C lH,C wJ,.bool wI,C 0,C 0,.slice none ([]:List (List bY)).length 0,.slice none ([]:List Int).length 0,.slice none ([]:List (List Int)).length 0,C rV,C rU,C rT,C rS,C rR,.slice none ([]:List cL).length 0,C 0,C 0]:Value)) e0 e2 e3 e4 e5 rI sB rH tv tu
  exact⟨0,0,([]:List (List bY)),([]:List Int),([]:List (List Int)),([]:List cL),0,0,none,0,none,0,none,0,none,0,bo,H9.below,(ee _ _),(ee _ _),(ee _ _),(ee _ _)⟩
 have p1:=dT<|eY b1
 refine sk<|nx<|sq<|aB<|k<|cz H8 0 J dN J J aw J<|k ?_
 have fS:=Mw (I:=(cN h)) (aE:=a0) (aF:=(mc h).length) (aD:=c0) (aA:=a2) (eU:=([]:List Int).length) (az:=c2) H8.mb<|H8.rv 2 J
 refine ca aje J (ec J e0) fS ?_
 rintro _ w5 ⟨rfl,ja⟩
 have H9:=H8.ext ja
 refine ak (v:=.tuple #[C ((cT<|cN h).1),C ((cT<|cN h).2.1),C ((cT<|cN h).2.2)]) J J<|k<|xt J J J<|k<|xt J J J<|k<|xt J J J<|au (v:=C ((cT<|cN h).1)) J J<|au (v:=C ((cT<|cN h).2.1)) J J<|au (v:=C ((cT<|cN h).2.2)) J J<|bp<|ak (v:=C ((cT<|cN h).2.2)) J J<|k<|neq J J J J<|z<|nx<|cd (b:=!decide (((cT<|cN h).2.2)=0)) J J (fun b2=>?_)<|fun b2=>?_
 ·
  have p2:=dF<|fX b2
  refine sq ?_
  have VZ:lu h=0:=dT (eY ‹(!decide (lu h=0))=false›)
  have LZ:sl lv=true:=eY ‹(!decide (0<(((dQ lv).length:Nat):Int)))=false›
  obtain⟨qF,nE⟩:=aco VZ LZ
  obtain⟨tk,rq,gN⟩:=Qq qF (dF (fX ‹(!decide ((cT (cN h)).2.2=0))=true›))
  refine rg<|ak (v:=C ((cT<|cN h).2.2)) J J<|ak (v:=C ((cT<|cN h).1)) J J<|ak (v:=C ((cT<|cN h).2.1)) J J<|k<|bd (v:=.agg #[C ((cT<|cN h).2.2),C 0,C ((cT<|cN h).1),C ((cT<|cN h).2.1),C 0,.bool false,C 0,C 0,.slice none 0 0,.slice none 0 0,.slice none 0 0,C 0,C 0,C 0,C 0,C 0,.slice none 0 0,C 0,C 0]) J (cj J<|cj J<|cj J eh) (fun _=>aC)<|k<|bt H9 4 J kV J J J J J J J ?_
  intro w6 (dH:HI M w w6 [J5,J4,J3,J2,box aX #[C ((cT (cN h)).2.2),C 0,C ((cT (cN h)).1),C ((cT (cN h)).2.1),C 0,.bool false,C 0,C 0,.slice none 0 0,.slice none 0 0,.slice none 0 0,C 0,C 0,C 0,C 0,C 0,.slice none 0 0,C 0,C 0] 35,J0])
  refine av<|rt<|aL<|oY dH 4 J kV J J J J aw ?_
  have e0:((cT (cN h)).2.2:Int)=lN h lv:=by rw[qF]
  have e2:((cT (cN h)).1:Int)=(ly h lv).1:=by rw[nE]
  have e3:((cT (cN h)).2.1:Int)=(ly h lv).2:=by rw[nE]
  have e4:(0:Int)=rB h lv:=by rw[tk]
  have e5:(false:Bool)=kP h lv:=by exact rq.symm
  have rI:(0:Int)=(eW h lv).1:=by rw[gN]
  have sB:(0:Int)=(eW h lv).2.1:=by rw[gN]
  have rH:(0:Int)=(eW h lv).2.2.1:=by rw[gN]
  have tv:(0:Int)=(eW h lv).2.2.2.1:=by rw[gN]
  have tu:(0:Int)=(eW h lv).2.2.2.2:=by rw[gN]
  have bo:=MA (fun (bW:Int) (gA:Int) (lH:Int) (wJ:Int) (wI:Bool) (rV:Int) (rU:Int) (rT:Int) (rS:Int) (rR:Int)=>(.agg #[C bW,C 0,C gA,C lH,C wJ,.bool wI,C 0,C 0,.slice none ([]:List (List bY)).length 0,.slice none ([]:List Int).length 0,.slice none ([]:List (List Int)).length 0,C rV,C rU,C rT,C rS,C rR,.slice none ([]:List cL).length 0,C 0,C 0]:Value)) e0 e2 e3 e4 e5 rI sB rH tv tu
  exact⟨0,0,([]:List (List bY)),([]:List Int),([]:List (List Int)),([]:List cL),0,0,none,0,none,0,none,0,none,0,bo,dH.below,(ee _ _),(ee _ _),(ee _ _),(ee _ _)⟩
 have p2:=dT<|eY b2
 refine sk<|nx<|sq ?_
 have VZ:lu h=0:=dT (eY ‹(!decide (lu h=0))=false›)
 have LZ:sl lv=true:=eY ‹(!decide (0<(((dQ lv).length:Nat):Int)))=false›
 have V6:(cT (cN h)).2.2=0:=dT (eY ‹(!decide ((cT (cN h)).2.2=0))=false›)
 obtain⟨qF,nE,tk,rq,gN⟩:=X1 VZ LZ V6
 have L5:=Tt<|cN h
 refine rg<|k<|cz H9 0 J dN J J aw J<|k ?_
 have eX:=Nz (fv:=(mc h)) (I:=(cN h)) (U:=([]:List Int)) H9.mb (H9.rv 3 J) (H9.rv 2 J) (H9.rv 1 J) aq
 refine ca ajd J (ec J e0) eX ?_
 rintro _ w6 ⟨a3,c3,a4,c4,a5,c5,rfl,ji,fu,je,jT⟩
 have dH:=H9.ext ji
 let J6:=iL a3 (mc h) c3
 have db:=dH.put (it:=J6) J fu
 let J7:=iL a4 (cN h) c4
 have dw:=db.put (it:=J7) J<|by rw[aG J];exact je
 let J8:=iL a5 (gJ (cN h)) c5
 have dz:=dw.put (it:=J8) J<|by rw[aG rfl,aG rfl];exact jT
 refine k<|bt dz 3 J dN J J J J J J J ?_
 let J9:=box aZ #[R a3 (mc h) c3,R a4 (cN h) c4,R a5 (gJ (cN h)) c5] 47
 let bZ:=J8::J7::J6::J9::ba
 intro w7 (cM:HI M w w7 bZ)
 refine av<|sq<|aB<|k<|cz cM 3 J dN J J aw J<|ak J i1<|k ?_
 have kI:=P6 (I:=(cN h)) (U:=(gJ<|cN h)) (lv:=lv) (aE:=a3) (aF:=(mc h).length) (aD:=c3) cM.mb (hT.ext cM.below) (cM.rv 1 J) (cM.rv 0 J) pe (by exact On h) aq (by exact L5) (by exact Mk V6)<|by exact XN LZ
 refine ca ajc J (ec J<|ec J e0) kI ?_
 rintro _ w8 ⟨o0,o1,o2,o3,o4,o5,o6,o7,a6,c6,rfl,kb,jd,q0⟩
 have dW:=cM.ext kb
 let dO:=iL a6 o5 c6
 have dt:=dW.put (it:=dO) J jd
 refine ak (v:=.tuple #[.agg #[C o0,C o1,C o2,C o3,C o4,R a6 o5 c6,C o6,C o7],C (eZ (cN h) (gJ<|cN h) lv)]) J J<|k<|xt J J J<|k<|xt J J J<|k<|al dt bR ?_
 intro bD w9 ma (cR:HI M w w9 (box bD #[C 0,C 0,C 0,C 0,C 0,.slice none 0 0,C 0,C 0] 33::dO::bZ))
 refine k<|bt cR 0 J bR J J J J J J J ?_
 let eC:=box bD #[C o0,C o1,C o2,C o3,C o4,R a6 o5 c6,C o6,C o7] 33
 intro dL (dM:HI M w dL (eC::dO::bZ))
 refine au (v:=C (eZ (cN h) (gJ<|cN h) lv)) J J<|bp<|ak (v:=C (eZ (cN h) (gJ<|cN h) lv)) J J<|k<|eql J J J J<|z<|nx<|cd (b:=decide ((eZ (cN h) (gJ<|cN h) lv)=0)) J J (fun b3=>?_)<|fun b3=>?_
 ·
  refine sq ?_
  rw[anq (dT ‹decide (eZ (cN h) (gJ (cN h)) lv=0)=true›)] at rq;rw[aaT q0 (dT ‹decide (eZ (cN h) (gJ (cN h)) lv=0)=true›)] at gN
  refine rg<|ak J i1<|k<|cz dM 0 J bR J J aw J<|k<|bd (v:=.agg #[C 0,C 0,C 0,C 0,C lv,.bool false,C 0,C 0,.slice none 0 0,.slice none 0 0,.slice none 0 0,C o0,C o1,C o2,C o3,C o4,R a6 o5 c6,C o6,C o7]) J (cj J<|cj J eh) (fun _=>aC)<|k<|bt dM 9 J kV J J J J J J J ?_
  intro ef (dI:HI M w ef [eC,dO,J8,J7,J6,J9,J4,J3,J2,box aX #[C 0,C 0,C 0,C 0,C lv,.bool false,C 0,C 0,.slice none 0 0,.slice none 0 0,.slice none 0 0,C o0,C o1,C o2,C o3,C o4,R a6 o5 c6,C o6,C o7] 35,J0])
  refine av<|rt<|aL<|oY dI 9 J kV J J J J aw ?_
  have e0:(0:Int)=lN h lv:=by rw[qF]
  have e2:(0:Int)=(ly h lv).1:=by rw[nE]
  have e3:(0:Int)=(ly h lv).2:=by rw[nE]
  have e4:(lv:Int)=rB h lv:=by rw[tk]
  have e5:(false:Bool)=kP h lv:=by exact rq.symm
  have rI:(o0:Int)=(eW h lv).1:=by rw[gN]
  have sB:(o1:Int)=(eW h lv).2.1:=by rw[gN]
  have rH:(o2:Int)=(eW h lv).2.2.1:=by rw[gN]
  have tv:(o3:Int)=(eW h lv).2.2.2.1:=by rw[gN]
  have tu:(o4:Int)=(eW h lv).2.2.2.2:=by rw[gN]
  have bo:=MA (fun (bW:Int) (gA:Int) (lH:Int) (wJ:Int) (wI:Bool) (rV:Int) (rU:Int) (rT:Int) (rS:Int) (rR:Int)=>(.agg #[C bW,C 0,C gA,C lH,C wJ,.bool wI,C 0,C 0,.slice none ([]:List (List bY)).length 0,.slice none ([]:List Int).length 0,.slice none ([]:List (List Int)).length 0,C rV,C rU,C rT,C rS,C rR,.slice a6 o5.length c6,C o6,C o7]:Value)) e0 e2 e3 e4 e5 rI sB rH tv tu
  exact⟨0,0,([]:List (List bY)),([]:List Int),([]:List (List Int)),o5,o6,o7,none,0,none,0,none,0,a6,c6,bo,dI.below,(ee _ _),(ee _ _),(ee _ _),(dI.fj 1 J)⟩
 refine sk<|nx<|sq ?_
 have V5:=dF ‹decide (eZ (cN h) (gJ<|cN h) lv=0)=false›
 rw[ans V5] at rq;rw[aaR V5] at gN
 refine rg<|k<|cz dM 5 J dN J J aw J<|ak J i1<|k ?_
 have nk:=T6 (I:=(cN h)) (U:=(gJ<|cN h)) (lv:=lv) (aE:=a3) (aF:=(mc h).length) (aD:=c3) dM.mb (hT.ext dM.below) (dM.rv 3 J) (dM.rv 2 J) pe (by exact On h) aq (by exact L5) (by exact Mk V6) (by exact XN LZ)<|by exact Ic V5
 refine ca ajb J (ec J<|ec J e0) nk ?_
 rintro _ ef ⟨o8,o9,kf,eO,a7,c7,a8,c8,a9,c9,rfl,nr,lq,oC,pw⟩
 have dI:=dM.ext nr
 have cF:=dS dI lq
 have dV:=dS cF oC
 have dG:=dS dV pw
 refine ak (v:=.tuple #[.agg #[C lv,C o8,R a7 o9 c7,R a8 kf c8,R a9 eO c9],C 0]) J J<|k<|xt J J J<|k<|xt J J J<|k<|al dG vA ?_
 let dE:=iL a9 eO c9::iL a8 kf c8::iL a7 o9 c7::eC::dO::bZ
 intro fe fh tD (eS:HI M w fh (box fe #[C 0,C 0,.slice none 0 0,.slice none 0 0,.slice none 0 0] 30::dE))
 refine k<|bt eS 0 J vA J J J J J J J ?_
 let fQ:=box fe #[C lv,C o8,R a7 o9 c7,R a8 kf c8,R a9 eO c9] 30
 intro iz (ff:HI M w iz (fQ::dE))
 refine au (v:=C 0) J J<|av<|sq<|aB<|ak (v:=C 0) J J<|k<|neq J J J J<|av<|oQ J J aw<|sk<|cO<|ak J i1<|k<|cz ff 0 J vA J J aw J<|k<|bd (v:=.agg #[C 0,C 0,C 0,C 0,C lv,.bool true,C lv,C o8,R a7 o9 c7,R a8 kf c8,R a9 eO c9,C 0,C 0,C 0,C 0,C 0,.slice none 0 0,C 0,C 0]) J (cj J<|cj J<|cj J eh) (fun _=>aC)<|k<|bt ff 13 J kV J J J J J J J ?_
 intro jw (ga:HI M w jw [fQ,iL a9 eO c9,iL a8 kf c8,iL a7 o9 c7,eC,dO,J8,J7,J6,J9,J4,J3,J2,box aX #[C 0,C 0,C 0,C 0,C lv,.bool true,C lv,C o8,R a7 o9 c7,R a8 kf c8,R a9 eO c9,C 0,C 0,C 0,C 0,C 0,.slice none 0 0,C 0,C 0] 35,J0])
 refine av<|rt<|oY ga 13 J kV J J J J aw ?_
 have e0:(0:Int)=lN h lv:=by rw[qF]
 have e2:(0:Int)=(ly h lv).1:=by rw[nE]
 have e3:(0:Int)=(ly h lv).2:=by rw[nE]
 have e4:(lv:Int)=rB h lv:=by rw[tk]
 have e5:(true:Bool)=kP h lv:=by exact rq.symm
 have rI:(0:Int)=(eW h lv).1:=by rw[gN]
 have sB:(0:Int)=(eW h lv).2.1:=by rw[gN]
 have rH:(0:Int)=(eW h lv).2.2.1:=by rw[gN]
 have tv:(0:Int)=(eW h lv).2.2.2.1:=by rw[gN]
 have tu:(0:Int)=(eW h lv).2.2.2.2:=by rw[gN]
 have bo:=MA (fun (bW:Int) (gA:Int) (lH:Int) (wJ:Int) (wI:Bool) (rV:Int) (rU:Int) (rT:Int) (rS:Int) (rR:Int)=>(.agg #[C bW,C 0,C gA,C lH,C wJ,.bool wI,C lv,C o8,.slice a7 o9.length c7,.slice a8 kf.length c8,.slice a9 eO.length c9,C rV,C rU,C rT,C rS,C rR,.slice none ([]:List cL).length 0,C 0,C 0]:Value)) e0 e2 e3 e4 e5 rI sB rH tv tu
 exact⟨lv,o8,o9,kf,eO,([]:List cL),0,0,a7,c7,a8,c8,a9,c9,none,0,bo,ga.below,(ga.fj 3 J),(ga.fj 2 J),(ga.fj 1 J),(ee _ _)⟩
theorem Yv:cu aK 185:=⟨_,_,Tryz.func185,rfl,aC⟩
theorem afw:cu aK 170:=⟨_,_,Tryz.func170,rfl,aC⟩
theorem afv:cu aK 171:=⟨_,_,Tryz.func171,rfl,aC⟩
theorem afF:cu aK 143:=⟨_,_,Tryz.func143,rfl,aC⟩
theorem afE:cu aK 144:=⟨_,_,Tryz.func144,rfl,aC⟩
theorem B8 (kZ:s.size≤maxLen) (QE:p_.size≤maxLen):Calls aK 185 #[.string s,.string p_] w (cg fun v w'=>v=.bool (jJ s p_)∧Ext w w'):=by
 refine dm 18 Tryz.func185 J J J py fun f0 ha H=>?_
 have i0:f0 0=.string s:=ha 0 bh
 have i1:f0 1=.string p_:=ha 1 bh
 refine aB<|au (v:=.bool false) J J<|bp<|ak J i0<|k<|vR J J mC<|ak J i1<|k<|vR J J mC<|k<|geq J J J J<|ak (v:=.bool (decide ((p_.size:Int)≤(s.size:Int)))) J J ?_
 rcases bE (decide ((p_.size:Int)≤(s.size:Int))) with b0|b0
 ·
  have p0:=dT b0
  refine aU J J J b0<|mv J i0<|aU J J J b0<|mv J i1<|aU J J J b0<|vR J J mC<|aU J J J b0<|ahH J J J J aq mC<|aU J J J b0<|mv J i1<|aU J J J b0<|YK J J J J<|k<|aR J J J J b0 J<|au (v:=.bool (decide (s.extract 0 (p_.size:Int).toNat=p_))) J J<|av<|rt<|r1 J J ?_
  exact⟨ani Value.bool (by simp only[jJ,b0,BL]),H.below⟩
 refine aO J J J b0<|aO J J J b0<|aO J J J b0<|aO J J J b0<|aO J J J b0<|aO J J J b0<|k<|cJ J J J J b0 J<|au (v:=.bool false) J J<|av<|rt<|r1 J J ?_
 exact⟨ani Value.bool (by simp only[jJ,b0,BL]),H.below⟩
theorem JI (kZ:s.size≤maxLen) (QE:p_.size≤maxLen):Calls aK 170 #[.string s,.string p_] w (cg fun v w'=>v=.string (eD s p_)∧Ext w w'):=by
 refine dm 13 Tryz.func170 J J J py fun f0 ha H=>?_
 have i0:f0 0=.string s:=ha 0 bh
 have i1:f0 1=.string p_:=ha 1 bh
 have CL:jJ s p_=true→(p_.size:Int)≤(s.size:Int):=by intro h_;unfold jJ at h_;cases e_:decide ((p_.size:Int)≤(s.size:Int))<;>rw[e_] at h_;cases h_;exact an7 e_
 refine aB<|au (v:=.string ⟨#[]⟩) J J<|av<|sq<|aB<|ak J i0<|ak J i1<|k ?_
 have bP:=B8 (s:=s) (p_:=p_) (w:=w) bq bq
 refine ca Yv J (ec J<|ec J e0) bP ?_
 rintro _ w0 ⟨rfl,bT⟩
 have H0:=H.ext bT
 refine z<|nx<|cd (b:=jJ s p_) J J (fun b0=>?_)<|fun b0=>?_
 ·
  refine aB<|ak J i0<|ak J i1<|k<|vR J J mC<|k<|UY J J J J (by have h_:=CL bq;omega) mC<|au (v:=.string (s.extract (p_.size:Int).toNat s.size)) J J<|av<|rt<|aL<|r1 J J ?_
  exact⟨ani Value.string (by simp only[eD,b0,BL]),H0.below⟩
 refine sk<|cO<|ak J i0<|au (v:=.string s) J J<|av<|rt<|r1 J J ?_
 exact⟨ani Value.string (by simp only[eD,b0,BL]),H0.below⟩
theorem KY (kZ:s.size≤maxLen) (QE:p_.size≤maxLen):Calls aK 171 #[.string s,.string p_] w (cg fun v w'=>v=.tuple #[.string (eD s p_),.bool (jJ s p_)]∧Ext w w'):=by
 refine dm 15 Tryz.func171 J J J py fun f0 ha H=>?_
 have i0:f0 0=.string s:=ha 0 bh
 have i1:f0 1=.string p_:=ha 1 bh
 have CL:jJ s p_=true→(p_.size:Int)≤(s.size:Int):=by intro h_;unfold jJ at h_;cases e_:decide ((p_.size:Int)≤(s.size:Int))<;>rw[e_] at h_;cases h_;exact an7 e_
 refine aB<|au (v:=.string ⟨#[]⟩) J J<|au (v:=.bool false) J J<|av<|sq<|aB<|ak J i0<|ak J i1<|k ?_
 have bP:=B8 (s:=s) (p_:=p_) (w:=w) bq bq
 refine ca Yv J (ec J<|ec J e0) bP ?_
 rintro _ w0 ⟨rfl,bT⟩
 have H0:=H.ext bT
 refine k<|jI J J<|z<|nx<|cd (b:=!(jJ s p_)) J J (fun b0=>?_)<|fun b0=>?_
 ·
  refine aB<|ak J i0<|au (v:=.string s) J J<|au (v:=.bool false) J J<|av<|rt<|aL<|r2 J J J ?_
  have e0:(s:ByteArray)=eD s p_:=by simp only[eD,(fX b0),BL]
  have e1:(false:Bool)=jJ s p_:=by simp only[(fX b0),BL]
  have bo:=nA (fun (bW:ByteArray) (dK:Bool)=>(.tuple #[.string bW,.bool dK]:Value)) e0 e1
  exact⟨bo,H0.below⟩
 refine sk<|cO<|ak J i0<|ak J i1<|k<|vR J J mC<|k<|UY J J J J (by have h_:=CL (by simpa using ‹(!jJ s p_)=false›);omega) mC<|au (v:=.string (s.extract (p_.size:Int).toNat s.size)) J J<|au (v:=.bool true) J J<|av<|rt<|r2 J J J ?_
 have e0:(s.extract (p_.size:Int).toNat s.size:ByteArray)=eD s p_:=by simp only[eD,(eY b0),BL]
 have e1:(true:Bool)=jJ s p_:=by simp only[(eY b0),BL]
 have bo:=nA (fun (bW:ByteArray) (dK:Bool)=>(.tuple #[.string bW,.bool dK]:Value)) e0 e1
 exact⟨bo,H0.below⟩
theorem B5 (kZ:s.size≤maxLen) (QE:p_.size≤maxLen):Calls aK 143 #[.string s,.string p_] w (cg fun v w'=>v=.string (eD s p_)∧Ext w w'):=by
 refine dm 8 Tryz.func143 J J J py fun f0 ha H=>?_
 have i0:f0 0=.string s:=ha 0 bh
 have i1:f0 1=.string p_:=ha 1 bh
 refine aB<|au (v:=.string ⟨#[]⟩) J J<|bp<|ak J i0<|ak J i1<|k ?_
 have bP:=JI (s:=s) (p_:=p_) (w:=w) bq bq
 refine ca afw J (ec J<|ec J e0) bP ?_
 rintro _ w0 ⟨rfl,bT⟩
 have H0:=H.ext bT
 refine au (v:=.string (eD s p_)) J J<|av<|rt<|r1 J J ?_
 exact⟨J,H0.below⟩
theorem DZ (kZ:s.size≤maxLen) (QE:p_.size≤maxLen):Calls aK 145 #[.string s,.string p_] w (cg fun v w'=>v=.tuple #[.string (eD s p_),.bool (jJ s p_)]∧Ext w w'):=by
 refine dm 11 Tryz.func145 J J J py fun f0 ha H=>?_
 have i0:f0 0=.string s:=ha 0 bh
 have i1:f0 1=.string p_:=ha 1 bh
 refine aB<|au (v:=.string ⟨#[]⟩) J J<|au (v:=.bool false) J J<|bp<|ak J i0<|ak J i1<|k ?_
 have bP:=KY (s:=s) (p_:=p_) (w:=w) bq bq
 refine ca afv J (ec J<|ec J e0) bP ?_
 rintro _ w0 ⟨rfl,bT⟩
 have H0:=H.ext bT
 refine k<|xt J J J<|k<|xt J J J<|au (v:=.string (eD s p_)) J J<|au (v:=.bool (jJ s p_)) J J<|av<|rt<|r2 J J J ?_
 exact⟨J,H0.below⟩
theorem Vx (kZ:s.size≤maxLen) (lE:aM at_):Calls aK 110 #[.string s,C at_] w (cg fun v w'=>v=C (gv s at_)∧Ext w w'):=by
 refine dm 26 Tryz.func110 J J J py fun f0 ha H=>?_
 have i0:f0 0=.string s:=ha 0 bh
 have i1:f0 1=C at_:=ha 1 bh
 have Ba:maxLen=9223372036854775807:=rfl
 refine aB<|au (v:=C 0) J J<|av<|sq<|aB<|ak J i1<|k<|lss J J J J<|ak (v:=.bool (decide (at_<0))) J J ?_
 rcases bE (decide (at_<0)) with b0|b0
 ·
  refine aO J J J b0<|aO J J J b0<|aO J J J b0<|aO J J J b0<|k<|aR J J J J b0 J<|av<|nS J J J<|aB<|au (v:=C 0) J J<|av<|rt<|aL<|r1 J J ?_
  exact⟨ani (Value.int .i64) (by simp only[gv,b0,BL]),H.below⟩
 have p0:=dF b0
 refine aU J J J b0<|mv J i1<|aU J J J b0<|mv J i0<|aU J J J b0<|vR J J mC<|aU J J J b0<|geq J J J J<|k<|cJ J J J J b0 J<|z<|nx<|cd (b:=decide ((s.size:Int)≤at_)) J J (fun b1=>?_)<|fun b1=>?_
 ·
  refine aB<|au (v:=C 0) J J<|av<|rt<|aL<|r1 J J ?_
  exact⟨ani (Value.int .i64) (by simp only[gv,b0,b1,BL]),H.below⟩
 have p1:=dF b1
 refine sk<|cO<|ak J i0<|ak J i1<|k<|UY J J J J aq mC<|au (v:=.string (s.extract at_.toNat s.size)) J J<|bp<|ak (v:=.string (s.extract at_.toNat s.size)) J J<|k ?_
 have bP:=B5 (s:=(s.extract at_.toNat s.size)) (p_:=⟨#[45]⟩) (w:=w) (by exact Nat.le_trans (C4 _ _ _) kZ) aw
 refine ca afF J (ec J<|ec J e0) bP ?_
 rintro _ w0 ⟨rfl,bT⟩
 have H0:=H.ext bT
 refine au (v:=.string (eD (s.extract at_.toNat s.size) ⟨#[45]⟩)) J J<|bp<|ak (v:=.string (s.extract at_.toNat s.size)) J J<|k<|vR J J mC<|ak (v:=.string (eD (s.extract at_.toNat s.size) ⟨#[45]⟩)) J J<|k ?_
 have cS:=EV (s:=(eD (s.extract at_.toNat s.size) ⟨#[45]⟩)) (cs:=⟨#[48,49,50,51,52,53,54,55,56,57]⟩) (w:=w0) (by exact Nat.le_trans (qS _ _) (Nat.le_trans (C4 _ _ _) kZ)) aw<|by exact Hc
 refine ca afE J (ec J<|ec J e0) cS ?_
 rintro _ w1 ⟨rfl,da⟩
 have H1:=H0.ext da
 refine k<|vR J J mC<|k<|sub J J J J (by have h1_:=D5 (eD (s.extract at_.toNat s.size) ⟨#[45]⟩) ⟨#[48,49,50,51,52,53,54,55,56,57]⟩;have lz:=qS (s.extract at_.toNat s.size) ⟨#[45]⟩;have h3_:=C4 s at_.toNat s.size;unfold aM;omega)<|au (v:=C (((s.extract at_.toNat s.size).size:Int)-((B4 (eD (s.extract at_.toNat s.size) ⟨#[45]⟩) ⟨#[48,49,50,51,52,53,54,55,56,57]⟩).size:Int))) J J<|av<|rt<|r1 J J ?_
 exact⟨ani (Value.int .i64) (by simp only[gv,b0,b1,BL]),H1.below⟩
end Go.Proofs.YtgjakhpjmapelaaGreatDoor
