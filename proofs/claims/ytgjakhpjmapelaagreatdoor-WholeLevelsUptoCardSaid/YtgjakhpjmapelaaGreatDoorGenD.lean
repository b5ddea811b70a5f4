/- PRINTED by my own tool (wip/tool/gen.py): contracts of Go functions of this seat, each with its proof. -/
import Derived.Test.YtgjakhpjmapelaaGreatDoorOwnB
import Derived.Test.YtgjakhpjmapelaaGreatDoorOwnC
import Derived.Test.YtgjakhpjmapelaaGreatDoorGenC
import Derived.Test.YtgjakhpjmapelaaGreatDoorGenB
import Derived.Test.YtgjakhpjmapelaaGreatDoorGenA
import Derived.Test.YtgjakhpjmapelaaGreatDoorOwnA
set_option linter.unusedVariables false
set_option linter.unusedSimpArgs false
namespace Go.Proofs.YtgjakhpjmapelaaGreatDoor
open Go.Ew Go.RowKit
set_option maxRecDepth 100000
set_option maxHeartbeats 1600000
attribute [local irreducible] WL WC SO PW PX PZ WE Code.wp wpList rT cb
attribute [local irreducible] j2 xc jj fe dY z8 CS Ky words dX cR jz fz ve
variable {M:Nat→Prop} {w w_:World}
variable {aD ay aA vM vL bA dm jC gq:OA} {aF aC ax az vJ vI bz eB dh kc eS jQ pY gp:Nat} {I:List aH} {U:List Int} {kd ft lv x_ mn cn o xx at_:Int} {a b:List bX} {mr cr:List (List bX)} {lU:TypeId} {r:List Go.Ew.Item} {fv:List ByteArray} {s cs p_:ByteArray} {qb:List Value} {h:List (List (Bool×ByteArray×Int))}
theorem xo:gM aJ 33 0 0:=⟨_,_,Tryz.underlying33,rfl,rfl,aM⟩
theorem ahZ:ct aJ 78:=⟨_,_,Tryz.func78,rfl,aM⟩
theorem xn:gM aJ 33 6 6:=⟨_,_,Tryz.underlying33,rfl,rfl,aM⟩
theorem uW:gM aJ 33 5 5:=⟨_,_,Tryz.underlying33,rfl,rfl,aM⟩
theorem acP:gM aJ 33 7 7:=⟨_,_,Tryz.underlying33,rfl,rfl,aM⟩
theorem ahY:ct aJ 80:=⟨_,_,Tryz.func80,rfl,aM⟩
theorem acx:ct aJ 83:=⟨_,_,Tryz.func83,rfl,aM⟩
theorem L1:ct aJ 16:=⟨_,_,Tryz.func16,rfl,aM⟩
theorem ah7:ct aJ 53:=⟨_,_,Tryz.func53,rfl,aM⟩
theorem Ux {jN:Int} {lz:Int} {gl:Int} {Ha:OA} {Ge G3:Nat} {SU:Value} {Ra:Value} (hM:eD M w) (hT:fQ 0 w) (cL:cw M w ay ax I) (eZ:cw M w aA az U) (lF:aK kd) (GB:aK ft) (A1:aK jN) (XB:aK lz) (ym:aK gl) (ho:gL I) (dp:I.length≤64) (eo:U.length=I.length) (fE:∀x∈U,x<((I.length:Nat):Int)) (abj:kd=6∨kd=7→0≤gl∧gl<((I.length:Nat):Int)):Calls aJ 53 #[.agg #[.slice aD aF aC,R ay I ax,R aA U az],.agg #[C kd,C ft,C jN,C lz,C gl,.slice Ha Ge G3,SU,Ra]] w (cb fun v w'=>∃(ig:List cH) (f_:Int) (s_:Int) (a0:OA) (c0:Nat),v=.tuple #[.agg #[C kd,C ft,C jN,C lz,C gl,R a0 ig c0,C f_,C s_],C 0]∧Ext w w'∧cw M w' a0 c0 ig):=by
 refine df 113 Tryz.func53 J J J hM fun f0 ha H=>?_
 let J0:=iL ay I ax
 have H0:=H.put (it:=J0) J<|by rw[bN];exact cL
 let J1:=iL aA U az
 have H1:=H0.put (it:=J1) J<|by rw[aE rfl,bN];exact eZ
 have fM:=aP cL
 have iA:=aP eZ
 have i0:f0 0=.agg #[.slice aD aF aC,R ay I ax,R aA U az]:=ha 0 bh
 have i1:f0 1=.agg #[C kd,C ft,C jN,C lz,C gl,.slice Ha Ge G3,SU,Ra]:=ha 1 bh
 have AA:=L_ U<|show I.length≤4096 by omega
 have Pk:=pc U<|show I.length≤4096 by omega
 refine aB<|k<|bx H1 J i0 ?_
 intro aY w0 bS (H2:HI M w w0 [box aY #[.slice aD aF aC,R ay I ax,R aA U az] 47,J1,J0])
 let J2:=box aY #[.slice aD aF aC,R ay I ax,R aA U az] 47
 refine k<|bx H2 J i1 ?_
 intro ba w1 cY (H3:HI M w w1 [box ba #[C kd,C ft,C jN,C lz,C gl,.slice Ha Ge G3,SU,Ra] 33,J2,J1,J0])
 let J3:=box ba #[C kd,C ft,C jN,C lz,C gl,.slice Ha Ge G3,SU,Ra] 33
 refine k<|al H3 bM ?_
 intro bD w2 eT (H4:HI M w w2 [box bD #[C 0,C 0,C 0,C 0,C 0,.slice none 0 0,C 0,C 0] 33,J3,J2,J1,J0])
 let J4:=box bD #[C 0,C 0,C 0,C 0,C 0,.slice none 0 0,C 0,C 0] 33
 refine au (v:=C 0) J J<|bt<|aU xo J J<|bl H4 1 J aW J J J<|aU pA J J<|bl H4 1 J aW J J J<|aU nM J J<|bl H4 1 J aW J J J<|aU zZ J J<|bl H4 1 J aW J J J<|aU mX J J<|bl H4 1 J aW J J J<|k<|bd (v:=.agg #[C kd,C ft,C jN,C lz,C gl,.slice none 0 0,C (-1),C (-1)]) J (cj J<|cj J<|cj J<|cj J<|cj J<|cj J<|cj J ey) (fun _=>aM)<|k<|al H4 bM ?_
 intro eX w3 fB (H5:HI M w w3 [box eX #[C 0,C 0,C 0,C 0,C 0,.slice none 0 0,C 0,C 0] 33,J4,J3,J2,J1,J0])
 refine k<|bp H5 0 J bM J J J J J J J ?_
 let J5:=box eX #[C kd,C ft,C jN,C lz,C gl,.slice none 0 0,C (-1),C (-1)] 33
 intro w4 (H6:HI M w w4 [J5,J4,J3,J2,J1,J0])
 refine av<|sq ?_
 refine l8 [.r,.r,.r,.e,.e] (fun _=>True) J (by kernel_rfl) (fun _ _=>trivial) ?_
 refine yq J J<|kq (fun _ x_=>cq (H6.ext x_) 3 rfl dx rfl rfl aw rfl e1)<|zq<|yq J J<|kq (fun _ x_=>cq (H6.ext x_) 3 rfl dx rfl rfl aw rfl e1)<|zq ?_
 refine yu J (fun _ v w'=>∃(a0:OA) (c0:Nat),v=.agg #[C (I.length:Int),R a0 (j7 I U) c0]∧RV H6.fW w' (R a0 (j7 I U) c0) (j7 I U)) J jd J (fun v_ _ x_ _=>have cV:=Ei (I:=I) (U:=U) (aD:=aD) (aF:=aF) (aC:=aC) (w:=v_) (H6.ext x_).mb ((H6.ext x_).rv 5 rfl) ((H6.ext x_).rv 4 rfl) (by exact ho) aq (by exact eo) (by exact fE);ca acA rfl (ec J e0) cV (fun _ w6 ⟨a1,c1,e_,jb,dM⟩=>⟨_,J,jb,⟨a1,c1,e_,dM⟩⟩)) ?_
 refine ye<|ye<|yz ?_
 intro w7 f0 _ kf _ _ cz iC
 have dt:=H6.ext kf
 have s0:=cz 2 J
 have s1:=cz 3 J
 have s2:=cz 4 J
 have s3:=cz 6 J
 have s4:=cz 21 J
 obtain⟨a2,c2,s5,dV⟩:=iC 0 _ _ rfl
 let J6:=iL a2 (j7 I U) c2
 have dw:=dt.put (it:=J6) J dV
 refine jZ ?_
 have cJ:HI M w w7 ([J0,J1,J6]++[J5,J4,J3,J2]):=dw.bT [6,5,0,1,2,3,4] aw rfl
 have fT:=M7 (aD:=aD) (aF:=aF) (aC:=aC) (ay:=ay) (ax:=ax) (I:=I) (aA:=aA) (az:=az) (U:=U) (mn:=(I.length:Int)) (bA:=a2) (bz:=c2) (mr:=(j7 I U)) (w:=w) (w_:=w7) (r:=[J5,J4,J3,J2]) (M:=M) aV cJ
 refine ca ahZ J (ec s4<|ec s5 e0) fT ?_
 rintro _ w8 ⟨fP,a3,c3,dA,fO,rfl,dS⟩
 let J7:=box fP #[.slice aD aF aC,R ay I ax,R aA U az,R a3 ([]:List cH) c3,.map (some dA),C (I.length:Int),R a2 (j7 I U) c2,.map (some fO)] 142
 let J8:=oL w 175 a3 ([]:List cH) c3
 let J9:=bW dA ([]:KV)
 let bc:=[J8,J9,bR fO ([]:List ((Int×Int)×Bool)),J0,J1,J6,J5,J4,J3,J2]
 have de:HI M w w8 (J7::bc):=dS
 refine jZ<|jB (v:=pV fP 0) J J<|kz<|nx<|sq<|aB<|aU xo J s1<|bl de 9 J aW J J J<|av<|bk<|aB<|k<|eql J J J J<|au (v:=.bool (decide (kd=2))) J J<|z<|nx ?_
 refine cd (b:=decide (kd=2)) J J (fun b0=>?_)<|fun b0=>?_
 ·
  have p0:=dT b0
  refine rg<|ak (v:=pV fP 0) J J<|aU mX J s1<|bl de 9 J aW J J J<|aU mX J s1<|bl de 9 J aW J J J<|k ?_
  have cO:HI M w w8 ([J7,J0,J1,J8,J9,J6,bR fO ([]:List ((Int×Int)×Bool))]++[J5,J4,J3,J2]):=de.bT [0,4,5,1,2,6,3,7,8,9,10] aw rfl
  have eU:=mw (cS:=fP) (aD:=aD) (aF:=aF) (aC:=aC) (ay:=ay) (ax:=ax) (I:=I) (aA:=aA) (az:=az) (U:=U) (eu:=a3) (ep:=c3) (sp:=([]:List cH)) (bw:=dA) (mp:=([]:KV)) (pn:=(I.length:Int)) (cX:=a2) (cW:=c2) (pr:=(j7 I U)) (bH:=fO) (mq:=([]:List ((Int×Int)×Bool))) (f_:=gl) (t_:=gl) (w:=w) (w_:=w8) (r:=[J5,J4,J3,J2]) (M:=M) aV ym ym hT (by simp only[gm];omega) aq (by exact eo) (by exact dp) (by exact AA) cO
  refine ca yX J (ec J<|ec J<|ec J e0) eU ?_
  rintro _ w9 ⟨o0,o1,o2,a4,c4,rfl,dP,q0,q1⟩
  let dK:=box fP #[.slice aD aF aC,R ay I ax,R aA U az,R a4 o1 c4,.map (some dA),C (I.length:Int),R a2 (j7 I U) c2,.map (some fO)] 142
  have dG:HI M w w9 [dK,J0,J1,oL w 175 a4 o1 c4,bW dA o2,J6,bR fO ([]:List ((Int×Int)×Bool)),J5,J4,J3,J2]:=dP
  refine aU xn J s3<|k<|bp dG 7 J aW J J J J J J J ?_
  intro dD (cC:HI M w dD [dK,J0,J1,oL w 175 a4 o1 c4,bW dA o2,J6,bR fO ([]:List ((Int×Int)×Bool)),box eX #[C kd,C ft,C jN,C lz,C gl,.slice none 0 0,C o0,C (-1)] 33,J4,J3,J2])
  refine z<|aI<|cI<|ak (v:=pV fP 0) J J<|k<|nc J J<|aU lR J J<|bl cC 0 J nu J J J<|aU uW J s3<|k<|bp cC 7 J nu J J J J J J J ?_
  let ez:=box eX #[C kd,C ft,C jN,C lz,C gl,R a4 o1 c4,C o0,C (-1)] 33
  intro eb (dR:HI M w eb [dK,J0,J1,oL w 175 a4 o1 c4,bW dA o2,J6,bR fO ([]:List ((Int×Int)×Bool)),ez,J4,J3,J2])
  refine bt<|k<|cq dR 7 J bM J s3 aw J<|k<|bp dR 8 J bM J J s2 J J J J ?_
  intro ff (dB:HI M w ff [dK,J0,J1,oL w 175 a4 o1 c4,bW dA o2,J6,bR fO ([]:List ((Int×Int)×Bool)),ez,box bD #[C kd,C ft,C jN,C lz,C gl,R a4 o1 c4,C o0,C (-1)] 33,J3,J2])
  refine au (v:=C 0) J J<|av<|rt<|ib dB 8 J bM J J J s2 J aw ?_
  exact⟨o1,o0,(-1),a4,c4,J,dB.below,(dB.me 3 J)⟩
 have p0:=dF b0
 refine aB<|k<|eql J J J J<|au (v:=.bool (decide (kd=3))) J J<|z<|nx ?_
 refine cd (b:=decide (kd=3)) J J (fun b1=>?_)<|fun b1=>?_
 ·
  have p1:=dT b1
  refine rg<|ak (v:=pV fP 0) J J<|aU nM J s1<|bl de 9 J aW J J J<|aU pA J s1<|bl de 9 J aW J J J<|k ?_
  have cO:HI M w w8 ([J7,J0,J1,J8,J9,J6,bR fO ([]:List ((Int×Int)×Bool))]++[J5,J4,J3,J2]):=de.bT [0,4,5,1,2,6,3,7,8,9,10] aw rfl
  have eU:=mw (cS:=fP) (aD:=aD) (aF:=aF) (aC:=aC) (ay:=ay) (ax:=ax) (I:=I) (aA:=aA) (az:=az) (U:=U) (eu:=a3) (ep:=c3) (sp:=([]:List cH)) (bw:=dA) (mp:=([]:KV)) (pn:=(I.length:Int)) (cX:=a2) (cW:=c2) (pr:=(j7 I U)) (bH:=fO) (mq:=([]:List ((Int×Int)×Bool))) (f_:=jN) (t_:=ft) (w:=w) (w_:=w8) (r:=[J5,J4,J3,J2]) (M:=M) aV A1 GB hT (by simp only[gm];omega) aq (by exact eo) (by exact dp) (by exact AA) cO
  refine ca yX J (ec J<|ec J<|ec J e0) eU ?_
  rintro _ w9 ⟨o0,o1,o2,a4,c4,rfl,dP,q0,q1⟩
  let fR:=box fP #[.slice aD aF aC,R ay I ax,R aA U az,R a4 o1 c4,.map (some dA),C (I.length:Int),R a2 (j7 I U) c2,.map (some fO)] 142
  have dG:HI M w w9 [fR,J0,J1,oL w 175 a4 o1 c4,bW dA o2,J6,bR fO ([]:List ((Int×Int)×Bool)),J5,J4,J3,J2]:=dP
  refine aU xn J s3<|k<|bp dG 7 J aW J J J J J J J ?_
  intro dD (cC:HI M w dD [fR,J0,J1,oL w 175 a4 o1 c4,bW dA o2,J6,bR fO ([]:List ((Int×Int)×Bool)),box eX #[C kd,C ft,C jN,C lz,C gl,.slice none 0 0,C o0,C (-1)] 33,J4,J3,J2])
  refine z<|aI<|cI<|ak (v:=pV fP 0) J J<|k<|nc J J<|aU lR J J<|bl cC 0 J nu J J J<|aU uW J s3<|k<|bp cC 7 J nu J J J J J J J ?_
  let fw:=box eX #[C kd,C ft,C jN,C lz,C gl,R a4 o1 c4,C o0,C (-1)] 33
  intro eb (dR:HI M w eb [fR,J0,J1,oL w 175 a4 o1 c4,bW dA o2,J6,bR fO ([]:List ((Int×Int)×Bool)),fw,J4,J3,J2])
  refine bt<|k<|cq dR 7 J bM J s3 aw J<|k<|bp dR 8 J bM J J s2 J J J J ?_
  intro ff (dB:HI M w ff [fR,J0,J1,oL w 175 a4 o1 c4,bW dA o2,J6,bR fO ([]:List ((Int×Int)×Bool)),fw,box bD #[C kd,C ft,C jN,C lz,C gl,R a4 o1 c4,C o0,C (-1)] 33,J3,J2])
  refine au (v:=C 0) J J<|av<|rt<|ib dB 8 J bM J J J s2 J aw ?_
  exact⟨o1,o0,(-1),a4,c4,J,dB.below,(dB.me 3 J)⟩
 have p1:=dF b1
 refine aB<|k<|eql J J J J<|au (v:=.bool (decide (kd=4))) J J<|z<|nx ?_
 refine cd (b:=decide (kd=4)) J J (fun b2=>?_)<|fun b2=>?_
 ·
  have p2:=dT b2
  refine l8 [.r,.r,.r,.r,.r,.e,.s,.f,.f,.f,.f,.e,.f,.e,.f,.e] (fun w'=>HI M w w' [J3]) J (by kernel_rfl) (fun _ x_=>(de.bT (l':=[J3]) [9] aw J).ext x_) ?_
  refine yq J J<|kq (fun _ _=>mv (v:=pV fP 0) rfl rfl e1)<|zq<|yq J J<|kq (fun _ _=>fa nM rfl s1 e1)<|zq<|yq J J<|kq (fun _ x_=>lx (de.ext x_) 9 rfl aW rfl rfl rfl e1)<|zq<|yq J J<|kq (fun _ _=>fa zZ rfl s1 e1)<|zq<|yq J J<|kq (fun _ x_=>lx (de.ext x_) 9 rfl aW rfl rfl rfl e1)<|zq<|ye<|yq J J<|kq (fun _ _=>mv (v:=pV fP 0) rfl rfl e1)<|zq<|yf J (fun _ _=>fa zZ rfl s1 e3)<|yf J (fun _ i_=>lx i_ 0 rfl aW rfl rfl rfl e3)<|yf J (fun _ _=>fa pA rfl s1 e3)<|yf J (fun _ i_=>lx i_ 0 rfl aW rfl rfl rfl e3)<|ye<|yf J (fun _ _=>fa xn rfl s3 e3)<|ye<|yf J (fun _ _=>fa acP rfl s3 e3)<|ye<|yz ?_
  intro w9 f1 _ l4 _ _ fD zL
  have cO:=de.ext l4
  have s6:=(fD 4 J).trans s2
  have s7:=(fD 6 J).trans s3
  have s8:=fD 7 J
  have s9:=fD 47 J
  have ej:=fD 49 J
  have eY:=fD 51 J
  have fK:=fD 53 J
  have fJ:=fD 55 J
  have gx:=fD 57 J
  have gP:=fD 59 J
  have kr:=fD 60 J
  refine ke ?_
  let bY:=[J6,bR fO ([]:List ((Int×Int)×Bool))]
  have dP:HI M w w9 ((J7::J0::J1::J8::J9::bY)++[J5,J4,J3,J2]):=cO.bT [0,4,5,1,2,6,3,7,8,9,10] aw rfl
  have eU:=mw (cS:=fP) (aD:=aD) (aF:=aF) (aC:=aC) (ay:=ay) (ax:=ax) (I:=I) (aA:=aA) (az:=az) (U:=U) (eu:=a3) (ep:=c3) (sp:=([]:List cH)) (bw:=dA) (mp:=([]:KV)) (pn:=(I.length:Int)) (cX:=a2) (cW:=c2) (pr:=(j7 I U)) (bH:=fO) (mq:=([]:List ((Int×Int)×Bool))) (f_:=jN) (t_:=lz) (w:=w) (w_:=w9) (r:=[J5,J4,J3,J2]) (M:=M) aV A1 XB hT (by simp only[gm];omega) aq (by exact eo) (by exact dp) (by exact AA) dP
  refine ca yX J (ec s9<|ec ej<|ec eY e0) eU ?_
  rintro _ dD ⟨o0,o1,o2,a4,c4,rfl,dG,q0,q1⟩
  let hG:=box fP #[.slice aD aF aC,R ay I ax,R aA U az,R a4 o1 c4,.map (some dA),C (I.length:Int),R a2 (j7 I U) c2,.map (some fO)] 142
  let dE:=[J6,bR fO ([]:List ((Int×Int)×Bool)),J5,J4,J3,J2]
  have cC:HI M w dD (hG::J0::J1::oL w 175 a4 o1 c4::bW dA o2::dE):=dG
  refine⟨cC.bT [9] aw rfl,?_⟩
  refine ke ?_
  have dR:HI M w dD ((hG::J0::J1::oL w 175 a4 o1 c4::bW dA o2::bY)++[J5,J4,J3,J2]):=cC.bT [0,1,2,3,4,5,6,7,8,9,10] aw rfl
  have kR:=mw (cS:=fP) (aD:=aD) (aF:=aF) (aC:=aC) (ay:=ay) (ax:=ax) (I:=I) (aA:=aA) (az:=az) (U:=U) (eu:=a4) (ep:=c4) (sp:=o1) (bw:=dA) (mp:=o2) (pn:=(I.length:Int)) (cX:=a2) (cW:=c2) (pr:=(j7 I U)) (bH:=fO) (mq:=([]:List ((Int×Int)×Bool))) (f_:=lz) (t_:=ft) (w:=w) (w_:=dD) (r:=[J5,J4,J3,J2]) (M:=M) aV XB GB hT (by simp only[gm] at *;omega) aq (by exact eo) (by exact dp) (by exact AA) dR
  refine ca yX J (ec fK<|ec fJ<|ec gx e0) kR ?_
  rintro _ eb ⟨o3,o4,o5,a5,c5,rfl,dB,q2,q3⟩
  let nt:=box fP #[.slice aD aF aC,R ay I ax,R aA U az,R a5 o4 c5,.map (some dA),C (I.length:Int),R a2 (j7 I U) c2,.map (some fO)] 142
  let lh:=oL w 175 a5 o4 c5
  have eO:HI M w eb (nt::J0::J1::lh::bW dA o5::dE):=dB
  refine⟨eO.bT [9] aw rfl,?_⟩
  refine ke<|bp eO 7 J aW J J gP J J J J ?_
  intro ff (fc:HI M w ff [nt,J0,J1,lh,bW dA o5,J6,bR fO ([]:List ((Int×Int)×Bool)),box eX #[C kd,C ft,C jN,C lz,C gl,.slice none 0 0,C o0,C (-1)] 33,J4,J3,J2])
  refine⟨fc.bT [9] aw rfl,?_⟩
  refine ke<|bp fc 7 J aW J J kr J J J J ?_
  intro hQ (gI:HI M w hQ [nt,J0,J1,lh,bW dA o5,J6,bR fO ([]:List ((Int×Int)×Bool)),box eX #[C kd,C ft,C jN,C lz,C gl,.slice none 0 0,C o0,C o3] 33,J4,J3,J2])
  refine⟨gI.bT [9] aw rfl,?_⟩
  refine kz<|aI<|cI<|ak J s8<|k<|nc J J<|aU lR J J<|bl gI 0 J nu J J J<|aU uW J s7<|k<|bp gI 7 J nu J J J J J J J ?_
  let qY:=box eX #[C kd,C ft,C jN,C lz,C gl,R a5 o4 c5,C o0,C o3] 33
  intro iO (iD:HI M w iO [nt,J0,J1,lh,bW dA o5,J6,bR fO ([]:List ((Int×Int)×Bool)),qY,J4,J3,J2])
  refine bt<|k<|cq iD 7 J bM J s7 aw J<|k<|bp iD 8 J bM J J s6 J J J J ?_
  intro oM (ga:HI M w oM [nt,J0,J1,lh,bW dA o5,J6,bR fO ([]:List ((Int×Int)×Bool)),qY,box bD #[C kd,C ft,C jN,C lz,C gl,R a5 o4 c5,C o0,C o3] 33,J3,J2])
  refine au (v:=C 0) J J<|av<|rt<|ib ga 8 J bM J J J s6 J aw ?_
  exact⟨o4,o0,o3,a5,c5,J,ga.below,(ga.me 3 J)⟩
 have p2:=dF b2
 refine aB<|k<|eql J J J J<|au (v:=.bool (decide (kd=5))) J J<|z<|nx ?_
 refine cd (b:=decide (kd=5)) J J (fun b3=>?_)<|fun b3=>?_
 ·
  have p3:=dT b3
  refine aB<|ak (v:=pV fP 0) J J<|k ?_
  have cO:HI M w w8 ([J7,J0,J1,J8,J9,J6,bR fO ([]:List ((Int×Int)×Bool))]++[J5,J4,J3,J2]):=de.bT [0,4,5,1,2,6,3,7,8,9,10] aw rfl
  have eU:=F6 (cS:=fP) (aD:=aD) (aF:=aF) (aC:=aC) (ay:=ay) (ax:=ax) (I:=I) (aA:=aA) (az:=az) (U:=U) (eu:=a3) (ep:=c3) (sp:=([]:List cH)) (bw:=dA) (mp:=([]:KV)) (pn:=(I.length:Int)) (cX:=a2) (cW:=c2) (pr:=(j7 I U)) (bH:=fO) (mq:=([]:List ((Int×Int)×Bool))) (w:=w) (w_:=w8) (r:=[J5,J4,J3,J2]) (M:=M) aV hT (by exact ho) (by exact dp) (by exact eo) (by exact fE) aq (by exact AA) (by simp only[gm];omega) cO
  refine ca ahY J (ec J e0) eU ?_
  rintro _ w9 ⟨o0,o1,o2,a4,c4,a5,c5,rfl,dP,q0,q1⟩
  let jm:=box fP #[.slice aD aF aC,R ay I ax,R aA U az,R a4 o0 c4,.map (some dA),C (I.length:Int),R a5 o2 c5,.map (some fO)] 142
  let iH:=[iL a5 o2 c5,bR fO ([]:List ((Int×Int)×Bool)),J5,J4,J3,J2]
  have dG:HI M w w9 (jm::J0::J1::oL w 175 a4 o0 c4::bW dA o1::iH):=dP
  refine av<|rg<|ak (v:=pV fP 0) J J<|aU mX J s1<|bl dG 9 J aW J J J<|aU mX J s1<|bl dG 9 J aW J J J<|k ?_
  have cC:HI M w w9 ([jm,J0,J1,oL w 175 a4 o0 c4,bW dA o1,iL a5 o2 c5,bR fO ([]:List ((Int×Int)×Bool))]++[J5,J4,J3,J2]):=dG.bT [0,1,2,3,4,5,6,7,8,9,10] aw rfl
  have kR:=mw (cS:=fP) (aD:=aD) (aF:=aF) (aC:=aC) (ay:=ay) (ax:=ax) (I:=I) (aA:=aA) (az:=az) (U:=U) (eu:=a4) (ep:=c4) (sp:=o0) (bw:=dA) (mp:=o1) (pn:=(I.length:Int)) (cX:=a5) (cW:=c5) (pr:=o2) (bH:=fO) (mq:=([]:List ((Int×Int)×Bool))) (f_:=gl) (t_:=gl) (w:=w) (w_:=w9) (r:=[J5,J4,J3,J2]) (M:=M) aV ym ym hT (by simp only[gm] at *;omega) aq (by exact eo) (by exact dp) bq cC
  refine ca yX J (ec J<|ec J<|ec J e0) kR ?_
  rintro _ dD ⟨o3,o4,o5,a6,c6,rfl,dR,q2,q3⟩
  let ns:=box fP #[.slice aD aF aC,R ay I ax,R aA U az,R a6 o4 c6,.map (some dA),C (I.length:Int),R a5 o2 c5,.map (some fO)] 142
  have dB:HI M w dD (ns::J0::J1::oL w 175 a6 o4 c6::bW dA o5::iH):=dR
  refine aU xn J s3<|k<|bp dB 7 J aW J J J J J J J ?_
  intro eb (eO:HI M w eb [ns,J0,J1,oL w 175 a6 o4 c6,bW dA o5,iL a5 o2 c5,bR fO ([]:List ((Int×Int)×Bool)),box eX #[C kd,C ft,C jN,C lz,C gl,.slice none 0 0,C o3,C (-1)] 33,J4,J3,J2])
  refine z<|aI<|cI<|ak (v:=pV fP 0) J J<|k<|nc J J<|aU lR J J<|bl eO 0 J nu J J J<|aU uW J s3<|k<|bp eO 7 J nu J J J J J J J ?_
  let oS:=box eX #[C kd,C ft,C jN,C lz,C gl,R a6 o4 c6,C o3,C (-1)] 33
  intro ff (fc:HI M w ff [ns,J0,J1,oL w 175 a6 o4 c6,bW dA o5,iL a5 o2 c5,bR fO ([]:List ((Int×Int)×Bool)),oS,J4,J3,J2])
  refine bt<|k<|cq fc 7 J bM J s3 aw J<|k<|bp fc 8 J bM J J s2 J J J J ?_
  intro hQ (gI:HI M w hQ [ns,J0,J1,oL w 175 a6 o4 c6,bW dA o5,iL a5 o2 c5,bR fO ([]:List ((Int×Int)×Bool)),oS,box bD #[C kd,C ft,C jN,C lz,C gl,R a6 o4 c6,C o3,C (-1)] 33,J3,J2])
  refine au (v:=C 0) J J<|av<|rt<|ib gI 8 J bM J J J s2 J aw ?_
  exact⟨o4,o3,(-1),a6,c6,J,gI.below,(gI.me 3 J)⟩
 have p3:=dF b3
 refine sq<|aB<|k<|eql J J J J<|au (v:=.bool (decide (kd=6))) J J<|z<|nx ?_
 refine cd (b:=decide (kd=6)) J J (fun b4=>?_)<|fun b4=>?_
 ·
  have p4:=dT b4
  refine sk<|nx<|oP J J b4<|aB<|k<|cq de 10 J dx J s0 aw J<|k ?_
  have eU:=A' (I:=I) (U:=U) (aD:=aD) (aF:=aF) (aC:=aC) de.mb (de.rv 4 J) (de.rv 5 J) (by exact ho) aq (by exact eo)<|by exact fE
  refine ca Qg J (ec J e0) eU ?_
  rintro _ w9 ⟨a4,c4,rfl,l4,fq⟩
  have cO:=de.ext l4
  let nf:=iL a4 (cp I U) c4
  have dP:=cO.put (it:=nf) J fq
  refine k<|al dP bm ?_
  intro Ad dD lM (dG:HI M w dD (box Ad #[C 0,.slice none 0 0] 26::nf::J7::bc))
  refine k<|bp dG 0 J bm J J J J J J J ?_
  let lK:=box Ad #[C (I.length:Int),R a4 (cp I U) c4] 26
  intro eb (cC:HI M w eb (lK::nf::J7::bc))
  refine av<|sq ?_
  refine l8 [.r,.r,.r,.r,.r,.r,.r,.r,.r,.r,.r,.r,.e] (fun _=>True) J (by kernel_rfl) (fun _ _=>trivial) ?_
  refine yq J J<|kq (fun _ _=>mv (v:=pV fP 0) rfl rfl e1)<|zq<|yq J J<|kq (fun _ _=>mv (v:=pV fP 0) rfl rfl e1)<|zq<|yq J J<|kq (fun _ _=>nc rfl rfl e1)<|zq<|yq J J<|kq (fun _ _=>fa qQ rfl rfl e1)<|zq<|yq J J<|kq (fun _ x_=>cq (cC.ext x_) 2 rfl bm rfl rfl aw rfl e1)<|zq<|yq J J<|kq (fun _ x_=>cq (cC.ext x_) 0 rfl bm rfl rfl aw rfl e1)<|zq<|yq J J<|kq (fun _ _=>fa mX rfl s1 e1)<|zq<|yq J J<|kq (fun _ x_=>lx (cC.ext x_) 11 rfl aW rfl rfl rfl e1)<|zq ?_
  refine yu J (fun _ v w'=>∃(a5:OA) (c5:Nat),v=R a5 (bL (I.length:Int) (cp I U) gl) c5∧RV cC.fW w' (R a5 (bL (I.length:Int) (cp I U) gl) c5) (bL (I.length:Int) (cp I U) gl)) J jd J (fun v_ _ x_ _=>have lI:=uy (mn:=(I.length:Int)) (mr:=(cp I U)) (o:=gl) (w:=v_) (cC.ext x_).mb (hT.ext (cC.ext x_).below) aV ((cC.ext x_).rv 1 rfl) ym (by exact Pk);ca LZ rfl (ec J<|ec J e0) lI (fun _ hQ ⟨a6,c6,e_,tI,iT⟩=>⟨_,J,tI,⟨a6,c6,e_,(bj.rv iT (cC.ext x_).mb)⟩⟩)) ?_
  refine lq J (fun _ v w'=>∃(a8:OA) (c8:Nat),v=.agg #[C (I.length:Int),R a8 (gj (I.length:Int) (j7 I U)<|bL (I.length:Int) (cp I U) gl) c8]∧RV cC.fW w' (R a8 (gj (I.length:Int) (j7 I U)<|bL (I.length:Int) (cp I U) gl) c8) (gj (I.length:Int) (j7 I U)<|bL (I.length:Int) (cp I U) gl)) 0 J J jd J (fun v_ _ _ x_ _ h_=>let ⟨a9,c9,s6,og⟩:=h_;have il:=(cC.ext x_).put (it:=iL a9 (bL (I.length:Int) (cp I U) gl) c9) rfl og;have Ab:=yQ (mn:=(I.length:Int)) (mr:=(j7 I U)) (l:=(bL (I.length:Int) (cp I U) gl)) il.mb aV (il.rv 9 J) (il.rv 0 J) (by exact AA) (by have h_:=um Pk gl;omega);ca Vv rfl (ec J<|ec s6 e0) Ab (fun _ oM ⟨iZ,iY,e_,Hi,nw⟩=>⟨_,J,Hi,⟨iZ,iY,e_,(mG J<|bj.rv nw il.mb)⟩⟩)) ?_
  refine yq J J<|kq (fun _ _=>nc rfl rfl e1)<|zq<|yq J J<|kq (fun _ _=>fa qQ rfl rfl e1)<|zq<|ye<|yz ?_
  intro wz f1 _ Kg _ _ fD zL
  have nZ:=cC.ext Kg
  have s7:=(fD 3 J).trans s1
  have s8:=(fD 4 J).trans s2
  have s9:=(fD 6 J).trans s3
  have ej:=fD 7 J
  have eY:=fD 8 J
  obtain⟨mF,mD,fK,qg⟩:=zL 0 _ _ rfl
  let u7:=iL mF (gj (I.length:Int) (j7 I U) (bL (I.length:Int) (cp I U) gl)) mD
  have j9:=nZ.put (it:=u7) J qg
  have fJ:=fD 88 J
  refine jZ<|bp j9 3 J bm J J fJ fK J J J ?_
  let tH:=box fP #[.slice aD aF aC,R ay I ax,R aA U az,R a3 ([]:List cH) c3,.map (some dA),C (I.length:Int),R mF (gj (I.length:Int) (j7 I U) (bL (I.length:Int) (cp I U) gl)) mD,.map (some fO)] 142
  intro sD (rF:HI M w sD (u7::lK::nf::tH::bc))
  refine kz<|cI<|ak J ej<|k<|cq rF 1 J bm J eY aw J<|aU mX J s7<|bl rF 12 J aW J J J<|k ?_
  have lj:HI M w sD ([tH,J0,J1,J8,J9,u7,bR fO ([]:List ((Int×Int)×Bool)),nf]++[lK,J6,J5,J4,J3,J2]):=rF.bT [3,7,8,4,5,0,6,2,1,9,10,11,12,13] aw rfl
  have TA:=IC (cS:=fP) (aD:=aD) (aF:=aF) (aC:=aC) (ay:=ay) (ax:=ax) (I:=I) (aA:=aA) (az:=az) (U:=U) (eu:=a3) (ep:=c3) (sp:=([]:List cH)) (bw:=dA) (mp:=([]:KV)) (pn:=(I.length:Int)) (cX:=mF) (cW:=mD) (pr:=(gj (I.length:Int) (j7 I U)<|bL (I.length:Int) (cp I U) gl)) (bH:=fO) (mq:=([]:List ((Int×Int)×Bool))) (mn:=(I.length:Int)) (bA:=a4) (bz:=c4) (mr:=(cp I U)) (o:=gl) (w:=w) (w_:=sD) (r:=[lK,J6,J5,J4,J3,J2]) (M:=M) aV aV ym hT (by exact ho) (by exact dp) (by exact eo) (by exact fE) aq (by rfl) (by exact abj aq) aq (by exact BJ AA _) (by simp only[gm];omega) lj
  refine ca acx J (ec J<|ec J<|ec J e0) TA ?_
  rintro _ uo ⟨o0,o1,o2,a12,oQ,jK,jJ,rfl,C',q0,q1⟩
  let BF:=box fP #[.slice aD aF aC,R ay I ax,R aA U az,R a12 o0 oQ,.map (some dA),C (I.length:Int),R jK o2 jJ,.map (some fO)] 142
  let tG:=iL jK o2 jJ
  let eW:=[tG,bR fO ([]:List ((Int×Int)×Bool)),nf,lK,J6,J5,J4,J3,J2]
  have kl:HI M w uo (BF::J0::J1::oL w 175 a12 o0 oQ::bW dA o1::eW):=C'
  refine bt<|aU pA J s7<|bl kl 12 J aW J J J<|au (v:=C ft) J J<|av<|sq<|aB<|aU xo J s7<|bl kl 12 J aW J J J<|k<|eql J J J J<|z<|nx ?_
  refine cd (b:=decide (kd=7)) J J (fun b5=>?_)<|fun b5=>?_
  ·
   have p5:=dT b5
   refine rg<|aU nM J s7<|bl kl 12 J aW J J J<|au (v:=C jN) J J<|av<|rg<|ak J ej<|aU nM J s7<|bl kl 12 J aW J J J<|ak (v:=C jN) J J<|k ?_
   have xH:HI M w uo ([BF,J0,J1,oL w 175 a12 o0 oQ,bW dA o1,tG,bR fO ([]:List ((Int×Int)×Bool))]++[nf,lK,J6,J5,J4,J3,J2]):=kl.bT [0,1,2,3,4,5,6,7,8,9,10,11,12,13] aw rfl
   have Tz:=mw (cS:=fP) (aD:=aD) (aF:=aF) (aC:=aC) (ay:=ay) (ax:=ax) (I:=I) (aA:=aA) (az:=az) (U:=U) (eu:=a12) (ep:=oQ) (sp:=o0) (bw:=dA) (mp:=o1) (pn:=(I.length:Int)) (cX:=jK) (cW:=jJ) (pr:=o2) (bH:=fO) (mq:=([]:List ((Int×Int)×Bool))) (f_:=jN) (t_:=jN) (w:=w) (w_:=uo) (r:=[nf,lK,J6,J5,J4,J3,J2]) (M:=M) aV A1 A1 hT aq aq (by exact eo) (by exact dp) bq xH
   refine ca yX J (ec J<|ec J<|ec J e0) Tz ?_
   rintro _ xK ⟨o3,o4,o5,kL,kJ,rfl,ng,q2,q3⟩
   let yH:=box fP #[.slice aD aF aC,R ay I ax,R aA U az,R kL o4 kJ,.map (some dA),C (I.length:Int),R jK o2 jJ,.map (some fO)] 142
   have yJ:HI M w xK (yH::J0::J1::oL w 175 kL o4 kJ::bW dA o5::eW):=ng
   refine aU xn J s9<|k<|bp yJ 10 J aW J J J J J J J ?_
   intro zj (qZ:HI M w zj [yH,J0,J1,oL w 175 kL o4 kJ,bW dA o5,tG,bR fO ([]:List ((Int×Int)×Bool)),nf,lK,J6,box eX #[C kd,C ft,C jN,C lz,C gl,.slice none 0 0,C o3,C (-1)] 33,J4,J3,J2])
   refine z<|aI<|cI<|ak J ej<|k<|nc J J<|aU lR J J<|bl qZ 0 J nu J J J<|aU uW J s9<|k<|bp qZ 10 J nu J J J J J J J ?_
   let u6:=box eX #[C kd,C ft,C jN,C lz,C gl,R kL o4 kJ,C o3,C (-1)] 33
   intro Kl (yI:HI M w Kl [yH,J0,J1,oL w 175 kL o4 kJ,bW dA o5,tG,bR fO ([]:List ((Int×Int)×Bool)),nf,lK,J6,u6,J4,J3,J2])
   refine bt<|k<|cq yI 10 J bM J s9 aw J<|k<|bp yI 11 J bM J J s8 J J J J ?_
   intro FT (qa:HI M w FT [yH,J0,J1,oL w 175 kL o4 kJ,bW dA o5,tG,bR fO ([]:List ((Int×Int)×Bool)),nf,lK,J6,u6,box bD #[C kd,C ft,C jN,C lz,C gl,R kL o4 kJ,C o3,C (-1)] 33,J3,J2])
   refine au (v:=C 0) J J<|av<|rt<|ib qa 11 J bM J J J s8 J aw ?_
   exact⟨o4,o3,(-1),kL,kJ,J,qa.below,(qa.me 3 J)⟩
  have p5:=dF b5
  refine sk<|nx<|rg<|ak J ej<|aU nM J s7<|bl kl 12 J aW J J J<|ak (v:=C ft) J J<|k ?_
  have xH:HI M w uo ([BF,J0,J1,oL w 175 a12 o0 oQ,bW dA o1,tG,bR fO ([]:List ((Int×Int)×Bool))]++[nf,lK,J6,J5,J4,J3,J2]):=kl.bT [0,1,2,3,4,5,6,7,8,9,10,11,12,13] aw rfl
  have Tz:=mw (cS:=fP) (aD:=aD) (aF:=aF) (aC:=aC) (ay:=ay) (ax:=ax) (I:=I) (aA:=aA) (az:=az) (U:=U) (eu:=a12) (ep:=oQ) (sp:=o0) (bw:=dA) (mp:=o1) (pn:=(I.length:Int)) (cX:=jK) (cW:=jJ) (pr:=o2) (bH:=fO) (mq:=([]:List ((Int×Int)×Bool))) (f_:=jN) (t_:=ft) (w:=w) (w_:=uo) (r:=[nf,lK,J6,J5,J4,J3,J2]) (M:=M) aV A1 GB hT (by simp only[gm] at *;omega) aq (by exact eo) (by exact dp) bq xH
  refine ca yX J (ec J<|ec J<|ec J e0) Tz ?_
  rintro _ xK ⟨o3,o4,o5,kL,kJ,rfl,ng,q2,q3⟩
  let xG:=box fP #[.slice aD aF aC,R ay I ax,R aA U az,R kL o4 kJ,.map (some dA),C (I.length:Int),R jK o2 jJ,.map (some fO)] 142
  let xF:=oL w 175 kL o4 kJ
  have yJ:HI M w xK (xG::J0::J1::xF::bW dA o5::eW):=ng
  refine aU xn J s9<|k<|bp yJ 10 J aW J J J J J J J ?_
  intro zj (qZ:HI M w zj [xG,J0,J1,xF,bW dA o5,tG,bR fO ([]:List ((Int×Int)×Bool)),nf,lK,J6,box eX #[C kd,C ft,C jN,C lz,C gl,.slice none 0 0,C o3,C (-1)] 33,J4,J3,J2])
  refine z<|aI<|cI<|ak J ej<|k<|nc J J<|aU lR J J<|bl qZ 0 J nu J J J<|aU uW J s9<|k<|bp qZ 10 J nu J J J J J J J ?_
  let Eu:=box eX #[C kd,C ft,C jN,C lz,C gl,R kL o4 kJ,C o3,C (-1)] 33
  intro Kl (yI:HI M w Kl [xG,J0,J1,xF,bW dA o5,tG,bR fO ([]:List ((Int×Int)×Bool)),nf,lK,J6,Eu,J4,J3,J2])
  refine bt<|k<|cq yI 10 J bM J s9 aw J<|k<|bp yI 11 J bM J J s8 J J J J ?_
  intro FT (qa:HI M w FT [xG,J0,J1,xF,bW dA o5,tG,bR fO ([]:List ((Int×Int)×Bool)),nf,lK,J6,Eu,box bD #[C kd,C ft,C jN,C lz,C gl,R kL o4 kJ,C o3,C (-1)] 33,J3,J2])
  refine au (v:=C 0) J J<|av<|rt<|ib qa 11 J bM J J J s8 J aw ?_
  exact⟨o4,o3,(-1),kL,kJ,J,qa.below,(qa.me 3 J)⟩
 have p4:=dF b4
 refine rg<|k<|eql J J J J<|au (v:=.bool (decide (kd=7))) J J<|z<|nx ?_
 refine cd (b:=decide (kd=7)) J J (fun b5=>?_)<|fun b5=>?_
 ·
  have p5:=dT b5
  refine aB<|k<|cq de 10 J dx J s0 aw J<|k ?_
  have eU:=A' (I:=I) (U:=U) (aD:=aD) (aF:=aF) (aC:=aC) de.mb (de.rv 4 J) (de.rv 5 J) (by exact ho) aq (by exact eo)<|by exact fE
  refine ca Qg J (ec J e0) eU ?_
  rintro _ w9 ⟨a4,c4,rfl,l4,fq⟩
  have cO:=de.ext l4
  let tl:=iL a4 (cp I U) c4
  have dP:=cO.put (it:=tl) J fq
  refine k<|al dP bm ?_
  intro Ad dD lM (dG:HI M w dD (box Ad #[C 0,.slice none 0 0] 26::tl::J7::bc))
  refine k<|bp dG 0 J bm J J J J J J J ?_
  let rE:=box Ad #[C (I.length:Int),R a4 (cp I U) c4] 26
  intro eb (cC:HI M w eb (rE::tl::J7::bc))
  refine av<|sq ?_
  refine l8 [.r,.r,.r,.r,.r,.r,.r,.r,.r,.r,.r,.r,.e] (fun _=>True) J (by kernel_rfl) (fun _ _=>trivial) ?_
  refine yq J J<|kq (fun _ _=>mv (v:=pV fP 0) rfl rfl e1)<|zq<|yq J J<|kq (fun _ _=>mv (v:=pV fP 0) rfl rfl e1)<|zq<|yq J J<|kq (fun _ _=>nc rfl rfl e1)<|zq<|yq J J<|kq (fun _ _=>fa qQ rfl rfl e1)<|zq<|yq J J<|kq (fun _ x_=>cq (cC.ext x_) 2 rfl bm rfl rfl aw rfl e1)<|zq<|yq J J<|kq (fun _ x_=>cq (cC.ext x_) 0 rfl bm rfl rfl aw rfl e1)<|zq<|yq J J<|kq (fun _ _=>fa mX rfl s1 e1)<|zq<|yq J J<|kq (fun _ x_=>lx (cC.ext x_) 11 rfl aW rfl rfl rfl e1)<|zq ?_
  refine yu J (fun _ v w'=>∃(a5:OA) (c5:Nat),v=R a5 (bL (I.length:Int) (cp I U) gl) c5∧RV cC.fW w' (R a5 (bL (I.length:Int) (cp I U) gl) c5) (bL (I.length:Int) (cp I U) gl)) J jd J (fun v_ _ x_ _=>have lI:=uy (mn:=(I.length:Int)) (mr:=(cp I U)) (o:=gl) (w:=v_) (cC.ext x_).mb (hT.ext (cC.ext x_).below) aV ((cC.ext x_).rv 1 rfl) ym (by exact Pk);ca LZ rfl (ec J<|ec J e0) lI (fun _ hQ ⟨a6,c6,e_,tI,iT⟩=>⟨_,J,tI,⟨a6,c6,e_,(bj.rv iT (cC.ext x_).mb)⟩⟩)) ?_
  refine lq J (fun _ v w'=>∃(a8:OA) (c8:Nat),v=.agg #[C (I.length:Int),R a8 (gj (I.length:Int) (j7 I U)<|bL (I.length:Int) (cp I U) gl) c8]∧RV cC.fW w' (R a8 (gj (I.length:Int) (j7 I U)<|bL (I.length:Int) (cp I U) gl) c8) (gj (I.length:Int) (j7 I U)<|bL (I.length:Int) (cp I U) gl)) 0 J J jd J (fun v_ _ _ x_ _ h_=>let ⟨a9,c9,s6,og⟩:=h_;have il:=(cC.ext x_).put (it:=iL a9 (bL (I.length:Int) (cp I U) gl) c9) rfl og;have Ab:=yQ (mn:=(I.length:Int)) (mr:=(j7 I U)) (l:=(bL (I.length:Int) (cp I U) gl)) il.mb aV (il.rv 9 J) (il.rv 0 J) (by exact AA) (by have h_:=um Pk gl;omega);ca Vv rfl (ec J<|ec s6 e0) Ab (fun _ oM ⟨iZ,iY,e_,Hi,nw⟩=>⟨_,J,Hi,⟨iZ,iY,e_,(mG J<|bj.rv nw il.mb)⟩⟩)) ?_
  refine yq J J<|kq (fun _ _=>nc rfl rfl e1)<|zq<|yq J J<|kq (fun _ _=>fa qQ rfl rfl e1)<|zq<|ye<|yz ?_
  intro wz f1 _ Kg _ _ fD zL
  have nZ:=cC.ext Kg
  have s7:=(fD 3 J).trans s1
  have s8:=(fD 4 J).trans s2
  have s9:=(fD 6 J).trans s3
  have ej:=fD 7 J
  have eY:=fD 8 J
  obtain⟨mF,mD,fK,qg⟩:=zL 0 _ _ rfl
  let u5:=iL mF (gj (I.length:Int) (j7 I U) (bL (I.length:Int) (cp I U) gl)) mD
  have j9:=nZ.put (it:=u5) J qg
  have fJ:=fD 88 J
  refine jZ<|bp j9 3 J bm J J fJ fK J J J ?_
  let pD:=box fP #[.slice aD aF aC,R ay I ax,R aA U az,R a3 ([]:List cH) c3,.map (some dA),C (I.length:Int),R mF (gj (I.length:Int) (j7 I U) (bL (I.length:Int) (cp I U) gl)) mD,.map (some fO)] 142
  intro sD (rF:HI M w sD (u5::rE::tl::pD::bc))
  refine kz<|cI<|ak J ej<|k<|cq rF 1 J bm J eY aw J<|aU mX J s7<|bl rF 12 J aW J J J<|k ?_
  have lj:HI M w sD ([pD,J0,J1,J8,J9,u5,bR fO ([]:List ((Int×Int)×Bool)),tl]++[rE,J6,J5,J4,J3,J2]):=rF.bT [3,7,8,4,5,0,6,2,1,9,10,11,12,13] aw rfl
  have TA:=IC (cS:=fP) (aD:=aD) (aF:=aF) (aC:=aC) (ay:=ay) (ax:=ax) (I:=I) (aA:=aA) (az:=az) (U:=U) (eu:=a3) (ep:=c3) (sp:=([]:List cH)) (bw:=dA) (mp:=([]:KV)) (pn:=(I.length:Int)) (cX:=mF) (cW:=mD) (pr:=(gj (I.length:Int) (j7 I U)<|bL (I.length:Int) (cp I U) gl)) (bH:=fO) (mq:=([]:List ((Int×Int)×Bool))) (mn:=(I.length:Int)) (bA:=a4) (bz:=c4) (mr:=(cp I U)) (o:=gl) (w:=w) (w_:=sD) (r:=[rE,J6,J5,J4,J3,J2]) (M:=M) aV aV ym hT (by exact ho) (by exact dp) (by exact eo) (by exact fE) aq (by rfl) (by exact abj aq) aq (by exact BJ AA _) (by simp only[gm];omega) lj
  refine ca acx J (ec J<|ec J<|ec J e0) TA ?_
  rintro _ uo ⟨o0,o1,o2,a12,oQ,jK,jJ,rfl,C',q0,q1⟩
  let C_:=box fP #[.slice aD aF aC,R ay I ax,R aA U az,R a12 o0 oQ,.map (some dA),C (I.length:Int),R jK o2 jJ,.map (some fO)] 142
  let yG:=iL jK o2 jJ
  let lg:=[yG,bR fO ([]:List ((Int×Int)×Bool)),tl,rE,J6,J5,J4,J3,J2]
  have kl:HI M w uo (C_::J0::J1::oL w 175 a12 o0 oQ::bW dA o1::lg):=C'
  refine bt<|aU pA J s7<|bl kl 12 J aW J J J<|au (v:=C ft) J J<|av<|sq<|aB<|aU xo J s7<|bl kl 12 J aW J J J<|k<|eql J J J J<|av<|oP J J b5<|rg<|aU nM J s7<|bl kl 12 J aW J J J<|au (v:=C jN) J J<|av<|rg<|ak J ej<|aU nM J s7<|bl kl 12 J aW J J J<|ak (v:=C jN) J J<|k ?_
  have xH:HI M w uo ([C_,J0,J1,oL w 175 a12 o0 oQ,bW dA o1,yG,bR fO ([]:List ((Int×Int)×Bool))]++[tl,rE,J6,J5,J4,J3,J2]):=kl.bT [0,1,2,3,4,5,6,7,8,9,10,11,12,13] aw rfl
  have Tz:=mw (cS:=fP) (aD:=aD) (aF:=aF) (aC:=aC) (ay:=ay) (ax:=ax) (I:=I) (aA:=aA) (az:=az) (U:=U) (eu:=a12) (ep:=oQ) (sp:=o0) (bw:=dA) (mp:=o1) (pn:=(I.length:Int)) (cX:=jK) (cW:=jJ) (pr:=o2) (bH:=fO) (mq:=([]:List ((Int×Int)×Bool))) (f_:=jN) (t_:=jN) (w:=w) (w_:=uo) (r:=[tl,rE,J6,J5,J4,J3,J2]) (M:=M) aV A1 A1 hT (by simp only[gm] at *;omega) aq (by exact eo) (by exact dp) bq xH
  refine ca yX J (ec J<|ec J<|ec J e0) Tz ?_
  rintro _ xK ⟨o3,o4,o5,kL,kJ,rfl,ng,q2,q3⟩
  let xE:=box fP #[.slice aD aF aC,R ay I ax,R aA U az,R kL o4 kJ,.map (some dA),C (I.length:Int),R jK o2 jJ,.map (some fO)] 142
  let C9:=oL w 175 kL o4 kJ
  have yJ:HI M w xK (xE::J0::J1::C9::bW dA o5::lg):=ng
  refine aU xn J s9<|k<|bp yJ 10 J aW J J J J J J J ?_
  intro zj (qZ:HI M w zj [xE,J0,J1,C9,bW dA o5,yG,bR fO ([]:List ((Int×Int)×Bool)),tl,rE,J6,box eX #[C kd,C ft,C jN,C lz,C gl,.slice none 0 0,C o3,C (-1)] 33,J4,J3,J2])
  refine z<|aI<|cI<|ak J ej<|k<|nc J J<|aU lR J J<|bl qZ 0 J nu J J J<|aU uW J s9<|k<|bp qZ 10 J nu J J J J J J J ?_
  let C8:=box eX #[C kd,C ft,C jN,C lz,C gl,R kL o4 kJ,C o3,C (-1)] 33
  intro Kl (yI:HI M w Kl [xE,J0,J1,C9,bW dA o5,yG,bR fO ([]:List ((Int×Int)×Bool)),tl,rE,J6,C8,J4,J3,J2])
  refine bt<|k<|cq yI 10 J bM J s9 aw J<|k<|bp yI 11 J bM J J s8 J J J J ?_
  intro FT (qa:HI M w FT [xE,J0,J1,C9,bW dA o5,yG,bR fO ([]:List ((Int×Int)×Bool)),tl,rE,J6,C8,box bD #[C kd,C ft,C jN,C lz,C gl,R kL o4 kJ,C o3,C (-1)] 33,J3,J2])
  refine au (v:=C 0) J J<|av<|rt<|ib qa 11 J bM J J J s8 J aw ?_
  exact⟨o4,o3,(-1),kL,kJ,J,qa.below,(qa.me 3 J)⟩
 have p5:=dF b5
 refine sk<|aI<|cI<|ak (v:=pV fP 0) J J<|k<|nc J J<|aU lR J J<|bl de 0 J nu J J J<|aU uW J s3<|k<|bp de 7 J nu J J J J J J J ?_
 let C7:=box eX #[C kd,C ft,C jN,C lz,C gl,R a3 ([]:List cH) c3,C (-1),C (-1)] 33
 intro w9 (cO:HI M w w9 [J7,J8,J9,bR fO ([]:List ((Int×Int)×Bool)),J0,J1,J6,C7,J4,J3,J2])
 refine bt<|k<|cq cO 7 J bM J s3 aw J<|k<|bp cO 8 J bM J J s2 J J J J ?_
 intro dD (dP:HI M w dD [J7,J8,J9,bR fO ([]:List ((Int×Int)×Bool)),J0,J1,J6,C7,box bD #[C kd,C ft,C jN,C lz,C gl,R a3 ([]:List cH) c3,C (-1),C (-1)] 33,J3,J2])
 refine au (v:=C 0) J J<|av<|rt<|ib dP 8 J bM J J J s2 J aw ?_
 exact⟨([]:List cH),(-1),(-1),a3,c3,J,dP.below,(dP.me 1 J)⟩
theorem Pw (hM:eD M w) (hT:fQ 0 w) (cL:cw M w ay ax I) (eZ:cw M w aA az U) (oY:aK lv) (ho:gL I) (dp:I.length≤64) (eo:U.length=I.length) (fE:∀x∈U,x<((I.length:Nat):Int)) (LF:lv=1∨lv=2∨lv=3):Calls aJ 29 #[.agg #[.slice aD aF aC,R ay I ax,R aA U az],C lv] w (cb fun v w'=>∃(k_:Int) (r_:Int) (a_:Int) (b_:Int) (o_:Int) (ig:List cH) (f_:Int) (s_:Int) (a0:OA) (c0:Nat),v=.tuple #[.agg #[C k_,C r_,C a_,C b_,C o_,R a0 ig c0,C f_,C s_],C (dL I U lv)]∧Ext w w'∧cw M w' a0 c0 ig∧p9 (fN I U lv) k_ r_ a_ b_ o_):=by
 refine df 23 Tryz.func29 J J J hM fun f0 ha H=>?_
 let J0:=iL ay I ax
 have H0:=H.put (it:=J0) J<|by rw[bN];exact cL
 let J1:=iL aA U az
 have H1:=H0.put (it:=J1) J<|by rw[aE rfl,bN];exact eZ
 have fM:=aP cL
 have iA:=aP eZ
 have i0:f0 0=.agg #[.slice aD aF aC,R ay I ax,R aA U az]:=ha 0 bh
 have i1:f0 1=C lv:=ha 1 bh
 refine aB<|k<|bx H1 J i0 ?_
 intro aY w0 bS (H2:HI M w w0 [box aY #[.slice aD aF aC,R ay I ax,R aA U az] 47,J1,J0])
 let J2:=box aY #[.slice aD aF aC,R ay I ax,R aA U az] 47
 refine k<|al H2 bM ?_
 intro ba w1 cY (H3:HI M w w1 [box ba #[C 0,C 0,C 0,C 0,C 0,.slice none 0 0,C 0,C 0] 33,J2,J1,J0])
 let J3:=box ba #[C 0,C 0,C 0,C 0,C 0,.slice none 0 0,C 0,C 0] 33
 refine au (v:=C 0) J J<|bt<|k<|cq H3 1 J dx J J aw J<|ak J i1<|k ?_
 have bP:=xA (I:=I) (U:=U) (lv:=lv) (aD:=aD) (aF:=aF) (aC:=aC) H3.mb (hT.ext H3.below) (H3.rv 3 J) (H3.rv 2 J) oY (by exact ho) (by exact dp) (by exact eo) (by exact fE)<|by exact LF
 refine ca L1 J (ec J<|ec J e0) bP ?_
 rintro _ w2 ⟨o0,o1,o2,o3,o4,o5,o6,rfl,eT,q0⟩
 have H4:=H3.ext eT
 refine ak (v:=.tuple #[.agg #[C o0,C o1,C o2,C o3,C o4,.slice none 0 0,C o5,C o6],C (dL I U lv)]) J J<|k<|xt J J J<|k<|xt J J J<|k<|al H4 bM ?_
 intro bD w3 fB (H5:HI M w w3 [box bD #[C 0,C 0,C 0,C 0,C 0,.slice none 0 0,C 0,C 0] 33,J3,J2,J1,J0])
 refine k<|bp H5 0 J bM J J J J J J J ?_
 let J4:=box bD #[C o0,C o1,C o2,C o3,C o4,.slice none 0 0,C o5,C o6] 33
 intro w4 (H6:HI M w w4 [J4,J3,J2,J1,J0])
 refine au (v:=C (dL I U lv)) J J<|av<|sq<|aB<|ak (v:=C (dL I U lv)) J J<|k<|neq J J J J<|z<|nx ?_
 refine cd (b:=!decide ((dL I U lv)=0)) J J (fun b0=>?_)<|fun b0=>?_
 ·
  have p0:=dF<|fY b0
  refine aB<|k<|bd (v:=.agg #[C 0,C 0,C 0,C 0,C 0,.slice none 0 0,C 0,C 0]) J ey (fun _=>aM)<|ak (v:=C (dL I U lv)) J J<|k<|bp H6 1 J bM J J J J J J J ?_
  intro w5 (H7:HI M w w5 [J4,J3,J2,J1,J0])
  refine au (v:=C (dL I U lv)) J J<|av<|rt<|aL<|ib H7 1 J bM J J J J J aw ?_
  exact⟨0,0,0,0,0,([]:List cH),0,0,none,0,J,H7.below,(d_ _ _),(by exact tJ (HT<|dF<|fY ‹(!decide (dL I U lv=0))=true›) Nw)⟩
 have p0:=dT<|fk b0
 refine sk<|cI<|k<|cq H6 2 J dx J J aw J<|k<|cq H6 0 J bM J J aw J<|k ?_
 have cV:=Ux (I:=I) (U:=U) (kd:=o0) (ft:=o1) (jN:=o2) (lz:=o3) (gl:=o4) (aD:=aD) (aF:=aF) (aC:=aC) (Ha:=none) (Ge:=0) (G3:=0) (SU:=(C o5)) (Ra:=(C o6)) H6.mb (hT.ext H6.below) (H6.rv 4 J) (H6.rv 3 J) (by exact q0.1.k) (by exact q0.1.r) (by exact q0.1.a) (by exact q0.1.b) (by exact q0.1.o) (by exact ho) (by exact dp) (by exact eo) (by exact fE)<|by exact Zt q0 (dT<|fk ‹(!decide (dL I U lv=0))=false›)
 refine ca ah7 J (ec J<|ec J e0) cV ?_
 rintro _ w5 ⟨o7,o8,o9,a0,c0,rfl,iN,cm⟩
 have H7:=H6.ext iN
 have H8:=ee H7 cm
 refine k<|xt J J J<|k<|xt J J J<|k<|bp H8 2 J bM J J J J J J J ?_
 intro w6 (H9:HI M w w6 [iL a0 o7 c0,J4,box ba #[C o0,C o1,C o2,C o3,C o4,R a0 o7 c0,C o8,C o9] 33,J2,J1,J0])
 refine au (v:=C 0) J J<|av<|rt<|ib H9 2 J bM J J J J J aw ?_
 have e8:(0:Int)=dL I U lv:=by exact(dT (fk ‹(!decide (dL I U lv=0))=false›)).symm
 have bo:=iq (fun (lu:Int)=>(.tuple #[.agg #[C o0,C o1,C o2,C o3,C o4,.slice a0 o7.length c0,C o8,C o9],C lu]:Value)) e8
 exact⟨o0,o1,o2,o3,o4,o7,o8,o9,a0,c0,bo,H9.below,(H9.fg 0 J),(by exact q0)⟩
theorem ahW:ct aJ 91:=⟨_,_,Tryz.func91,rfl,aM⟩
theorem ahX:ct aJ 90:=⟨_,_,Tryz.func90,rfl,aM⟩
theorem O9 (hM:eD M w) (SI:cw M w vM vJ a) (CF:cw M w vL vI b) (tw:a.length≤b.length) (ahu:a.length≤1000000000):Calls aJ 91 #[R vM a vJ,R vL b vI] w (cb fun v w'=>v=.bool (oB a b)∧Ext w w'):=by
 refine df 22 Tryz.func91 J J J hM fun f0 ha H=>?_
 have H0:=ee H SI
 have H1:=ee H0 CF
 have ag5:=aP SI
 have ag4:=aP CF
 have i0:f0 0=R vM a vJ:=ha 0 bh
 have i1:f0 1=R vL b vI:=ha 1 bh
 refine aB<|au (v:=.bool false) J J<|av<|sq<|aB<|ak J i0<|k<|dW J J gW<|ak (v:=C 0) J J<|av<|bk ?_
 refine lp (fun m f w'=>∃(j_:Nat),m=a.length-j_∧f 1=R vL b vI∧f 7=R vM a vJ∧f 8=C (a.length:Int)∧f 9=C (j_:Int)∧HI M w w' [iL vL b vI,iL vM a vJ]∧(j_≤a.length)∧(∀q,q<j_→JK a b q=false)) _ ⟨0,J,i1,J,J,(bJ J),H1,aq,(by intro q h;omega)⟩ ?_
 rintro _ f0 w0 ⟨j_,rfl,s0,s1,s2,s3,H2,pt,hs⟩
 refine aB<|k<|lss J J s3 s2<|av<|sq ?_
 refine cd (b:=decide ((j_:Int)<(a.length:Int))) J J (fun b0=>?_)<|fun b0=>?_
 ·
  have p0:=dT b0
  refine sk<|nx<|sq<|bk<|aB<|ak J s3<|k<|ia (H2.rv 1 J) J J s1 s3 aq gW fh ?_
  intro iw x0 aQ cu
  refine k<|yb cu.w fh J J<|au (v:=C (j_:Int)) J J<|au (v:=aj x0) J J<|bt<|ak (v:=aj x0) J J<|ak J s0<|ak (v:=C (j_:Int)) J J<|k<|ia (H2.rv 0 J) J J J J aq gW fh ?_
  intro rD x1 cP gK
  refine k<|yb gK.w fh J J<|k<|CZ x0 x1 J J J J<|k<|neU (x0 &&& x1) (0#64) J J J J<|z<|nx ?_
  refine cd (b:=!decide ((x0 &&& x1)=(0#64))) J J (fun b1=>?_)<|fun b1=>?_
  ·
   have p1:=dF<|fY b1
   refine aB<|au (v:=.bool true) J J<|av<|rt<|bQ<|aL<|dQ<|bQ<|aL<|r1 J J ?_
   exact⟨amh Value.bool (by exact adm (j:=j_) aq (by simp only[JK,jh aQ,jh cP,b0,(fY b1),BL])),H2.below⟩
  have p1:=dT<|fk b1
  refine sk<|aI<|nx<|rg<|k<|add J J s3 J aV<|ak (v:=C ((j_:Int)+1)) J J<|z ?_
  refine bB _ ?_ ⟨(j_+1),J,s0,s1,s2,(bJ J),H2,aq,(by exact rY hs (by simp only[JK,jh aQ,jh cP,b0,(fk b1),BL]))⟩
  omega
 have p0:=dF b0
 refine ex<|aX<|bf<|bg<|cI<|au (v:=.bool false) J J<|av<|rt<|r1 J J ?_
 exact⟨amh Value.bool (by exact ZV hs aq),H2.below⟩
theorem O_ {Ms:Nat} {WG:TypeId} {Mr:Nat} {WD:TypeId} {Wn:OA} {V4:Nat} {lf:List bX} (hM:eD M w) (ab8:aK x_) (fZ:aK mn) (fG:cw M w bA bz mr) (acd:cw M w Wn V4 lf) (ahM:w.heap[Ms]? =some (.cells #[C mn,R bA mr bz] WG (0,0))∧¬M Ms) (ahL:w.heap[Mr]? =some (.cells #[R Wn lf V4] WD (0,0))∧¬M Mr) (bU:bF mn mr=true) (sV:0≤x_∧x_<mn) (aht:lf.length=words mn):Calls aJ 90 #[C x_,.pointer (some ⟨Ms,0,none⟩),.pointer (some ⟨Mr,0,none⟩)] w (cb fun v w'=>v=.bool (!(oB (mr.getD x_.toNat []) lf))∧Ext w w'):=by
 refine df 13 Tryz.func90 J J J hM fun f0 ha H=>?_
 have H0:=ee H fG
 have H1:=ee H0 acd
 have kA:=aP fG
 have akN:=aP acd
 have i0:f0 0=C x_:=ha 0 bh
 have H2:=H1.put (it:=ro Ms #[C mn,R bA mr bz] WG) J<|by rw[aE rfl,aE rfl,bN];exact ahM
 have i1:f0 1=pV Ms 0:=ha 1 bh
 have H3:=H2.put (it:=ro Mr #[R Wn lf V4] WD) J<|by rw[aE rfl,aE rfl,aE rfl,bN];exact ahL
 have i2:f0 2=pV Mr 0:=ha 2 bh
 have akW:=(bO bU).1
 refine aB<|au (v:=.bool false) J J<|av<|sq ?_
 refine BD J (by kernel_rfl) ?_
 refine kq (fun _ _=>fa ik rfl i1 e1)<|kq (fun _ x_=>lr (H3.ext x_) 1 rfl kO rfl rfl rfl e1)<|kq (fun _ _=>mv rfl i0 e1)<|tS (H3.rv 3 J) J J J J aq gV cZ ?_
 intro iw x0 aQ cu
 refine F4 cu.w cZ J J ?_
 intro a0 c0 cm
 have uH:=aP cm
 have H4:=ee H3 cm
 refine kq (fun _ x_=>lr (H4.ext x_) 1 rfl cZ rfl i2 rfl e1) ?_
 refine kq (v:=.bool (oB x0 lf)) (fun v_ x_=>?_) ?_
 ·
  have cc:=O9 (a:=x0) (b:=lf) (w:=v_) (H4.ext x_).mb ((H4.ext x_).rv 0 rfl) ((H4.ext x_).rv 3 rfl) (by rw[aht,nC bU aQ];exact amk _)<|by exact(bO bU).2.1 _ (dJ aQ)
  exact ca ahW J (ec J<|ec J e0) cc fun _ _ h_=>e2 h_
 refine kq (fun _ _=>jE rfl rfl e1)<|kq (fun _ _=>jB (v:=.bool (!(oB x0 lf))) rfl rfl e1)<|zq ?_
 intro w0 bS
 have H5:=H4.ext bS
 refine nx<|rt<|r1 J J ?_
 exact⟨amh Value.bool (by rw[show mr.getD x_.toNat []=x0 from by rw[gZ,aQ];rfl]),H5.below⟩
theorem xL {FJ:OA} {FA:Nat} {nd:List Int} (hM:eD M w) (hT:fQ 0 w) (fZ:aK mn) (fG:cw M w bA bz mr) (aca:cw M w FJ FA nd) (bU:bF mn mr=true) (alq:nd.length≤8192):Calls aJ 56 #[.agg #[C mn,R bA mr bz],R FJ nd FA] w (cb fun v w'=>∃(a0:OA) (c0:Nat),v=.tuple #[.slice a0 ((du mn mr nd).1).length c0,C ((du mn mr nd).2)]∧Ext w w'∧bj M 3 w ((du mn mr nd).1) (.slice a0 ((du mn mr nd).1).length c0) w'):=by
 refine df 76 Tryz.func56 J J J hM fun f0 ha H=>?_
 let J0:=iL bA mr bz
 have H0:=H.put (it:=J0) J<|by rw[bN];exact fG
 let J1:=iL FJ nd FA
 have H1:=H0.put (it:=J1) J<|by rw[aE rfl,bN];exact aca
 have kA:=aP fG
 have akM:=aP aca
 have i0:f0 0=.agg #[C mn,R bA mr bz]:=ha 0 bh
 have i1:f0 1=R FJ nd FA:=ha 1 bh
 have I_:=(bO bU).2.2.1
 have hw_:words mn≤64:=by have h_:=(bO bU).2.2.1;unfold words;omega
 have agY:=FW bU
 refine aB<|k<|bx H1 J i0 ?_
 intro aY w0 bS (H2:HI M w w0 [box aY #[C mn,R bA mr bz] 26,J1,J0])
 let J2:=box aY #[C mn,R bA mr bz] 26
 refine au (v:=.slice none 0 0) J J<|au (v:=C 0) J J<|bt<|aU j6 J J<|bl H2 0 J aW J J J<|k ?_
 have bP:=Di (n:=mn) H2.mb fZ aq
 refine ca Qb J (ec J e0) bP ?_
 rintro _ w1 ⟨a0,c0,rfl,cY,cm⟩
 have H3:=H2.eI cm
 refine k<|al H3 cZ ?_
 let bc:=[J2,J1,J0]
 intro ba w2 eT (H4:HI M w w2 (box ba #[.slice none 0 0] 144::oL w 151 a0 (dX mn) c0::bc))
 refine k<|bp H4 0 J cZ J J J J J J J ?_
 intro w3 (H5:HI M w w3 (box ba #[R a0 (dX mn) c0] 144::oL w 151 a0 (dX mn) c0::bc))
 refine av<|sq<|aB<|ak J i1<|k<|dW J J cG<|ak (v:=C 0) J J<|av<|bk ?_
 refine lp (fun m f w'=>∃(j_:Nat) (uI:List bX) (a1:OA) (c1:Nat),m=nd.length-j_∧f 1=R FJ nd FA∧f 2=pV aY 0∧f 6=pV ba 0∧f 16=R FJ nd FA∧f 17=C (nd.length:Int)∧f 18=C (j_:Int)∧HI M w w' (box ba #[R a1 uI c1] 144::oL w 151 a1 uI c1::bc)∧(j_≤nd.length)∧(Bh mn uI)∧(qN mn nd (dX mn)=qN mn (nd.drop j_) uI)) _ ⟨0,(dX mn),a0,c0,J,i1,J,J,J,J,(bJ J),H5,aq,(by exact Y8),(by rw[aoO])⟩ ?_
 rintro _ f0 w4 ⟨j_,uI,a1,c1,rfl,s0,s1,s2,s3,s4,s5,H6,pt,hs,hb⟩
 refine aB<|k<|lss J J s5 s4<|av<|sq ?_
 refine cd (b:=decide ((j_:Int)<(nd.length:Int))) J J (fun b0=>?_)<|fun b0=>?_
 ·
  have p0:=dT b0
  refine sk<|nx<|sq<|bk<|sq ?_
  have HG:=hs.1
  refine rg<|k<|ia (H6.rv 3 J) J J s3 s5 aq cG aW ?_
  intro iw x0 aQ cu
  refine k<|mQ cu.w aW J J ?_
  intro dM
  refine au (v:=C x0) J J<|av<|sq<|aB<|ak (v:=C x0) J J<|k<|lss J J J J<|ak (v:=.bool (decide (x0<0))) J J ?_
  rcases bE (decide (x0<0)) with b1|b1
  ·
   have p1:=dT b1
   refine aN J J J b1<|aN J J J b1<|aN J J J b1<|aN J J J b1<|k<|aR J J J J b1 J<|ak (v:=.bool true) J J<|aN J J J J<|aN J J J J<|aN J J J J<|k<|aR J J J J J J<|av<|oP J J J<|aB<|au (v:=.slice none 0 0) J J<|au (v:=C 1) J J<|av<|rt<|aL<|bQ<|aL<|dQ<|bQ<|aL ?_
   have yw:=Kv (rs:=mr) hb aQ<|.inl aq
   refine r2 J J J ?_
   have e0:([]:List Int)=(du mn mr nd).1:=by rw[yw]
   have e1:(1:Int)=(du mn mr nd).2:=by rw[yw]
   have bo:=nr (fun (bV:List Int) (dI:Int)=>(.tuple #[.slice none bV.length 0,C dI]:Value)) e0 e1
   exact⟨none,0,bo,H6.below,(amh (fun (x_:List Int)=>bj _ _ _ x_ (.slice none x_.length 0) _) e0).mp (fL H6.below)⟩
  have p1:=dF b1
  refine aT J J J b1<|mv (v:=C x0) J J<|aT J J J b1<|fa j6 J s1<|aT J J J b1<|lx H6 2 J aW J J J<|aT J J J b1<|geq J J J J<|k<|cK J J J J b1 J<|ak (v:=.bool (decide (mn≤x0))) J J ?_
  rcases bE (decide (mn≤x0)) with b2|b2
  ·
   have p2:=dT b2
   refine aN J J J b2<|aN J J J b2<|aN J J J b2<|k<|aR J J J J b2 J<|av<|oP J J J<|aB<|au (v:=.slice none 0 0) J J<|au (v:=C 1) J J<|av<|rt<|aL<|bQ<|aL<|dQ<|bQ<|aL ?_
   have yw:=Kv (rs:=mr) hb aQ<|.inr (.inl aq)
   refine r2 J J J ?_
   have e0:([]:List Int)=(du mn mr nd).1:=by rw[yw]
   have e1:(1:Int)=(du mn mr nd).2:=by rw[yw]
   have bo:=nr (fun (bV:List Int) (dI:Int)=>(.tuple #[.slice none bV.length 0,C dI]:Value)) e0 e1
   exact⟨none,0,bo,H6.below,(amh (fun (x_:List Int)=>bj _ _ _ x_ (.slice none x_.length 0) _) e0).mp (fL H6.below)⟩
  have p2:=dF b2
  refine aT J J J b2<|lx H6 0 J cZ J s2 J<|aT J J J b2<|mv (v:=C x0) J J<|aT J J J b2 ?_
  have H7:=H6.freeze 1 J
  have cV:=zr (r:=uI) (i:=x0) H7.mb (H7.rv 1 J) dM
  refine ca LY J (ec J<|ec J e0) cV ?_
  rintro _ w5 ⟨rfl,fB⟩
  have H8:=H6.ext fB
  refine k<|cK J J J J b2 J<|z<|nx ?_
  refine cd (b:=fe uI x0) J J (fun b3=>?_)<|fun b3=>?_
  ·
   refine aB<|au (v:=.slice none 0 0) J J<|au (v:=C 1) J J<|av<|rt<|aL<|bQ<|aL<|dQ<|bQ<|aL ?_
   have yw:=Kv (rs:=mr) hb aQ<|.inr (.inr bq)
   refine r2 J J J ?_
   have e0:([]:List Int)=(du mn mr nd).1:=by rw[yw]
   have e1:(1:Int)=(du mn mr nd).2:=by rw[yw]
   have bo:=nr (fun (bV:List Int) (dI:Int)=>(.tuple #[.slice none bV.length 0,C dI]:Value)) e0 e1
   exact⟨none,0,bo,H8.below,(amh (fun (x_:List Int)=>bj _ _ _ x_ (.slice none x_.length 0) _) e0).mp (fL H8.below)⟩
  refine sk<|nx<|rg<|bl H8 0 J cZ J s2 J<|ak (v:=C x0) J J<|k ?_
  have H9:=H8.freeze 1 J
  have fT:=tP (r:=uI) (i:=x0) H9.mb (H9.rv 1 J) dM aq
  refine ca Fh J (ec J<|ec J e0) fT ?_
  rintro _ w6 ⟨a2,c2,rfl,iN,dV⟩
  have dC:=H9.eI dV
  refine k<|bp dC 1 J cZ J J s2 J J J J ?_
  intro w7 (cT:HI M w w7 (oL w 151 a2 (dY uI x0) c2::box ba #[R a2 (dY uI x0) c2] 144::iL a1 uI c1::bc))
  refine z<|aI<|nx<|rg<|k<|add J J s5 J aV<|ak (v:=C ((j_:Int)+1)) J J<|z ?_
  have dt:HI M w w7 (box ba #[R a2 (dY uI x0) c2] 144::oL w 151 a2 (dY uI x0) c2::bc):=cT.bT [1,0,3,4,5] aw rfl
  refine bB _ ?_ ⟨(j_+1),(dY uI x0),a2,c2,J,s0,s1,s2,s3,s4,(bJ J),dt,aq,(by exact Y7 hs aq aq),(by exact YA hb aQ aq aq bq)⟩
  omega
 have p0:=dF b0
 refine ex<|aX<|bf<|bg<|nx<|sq ?_
 have HG:=hs.1
 refine rg<|k<|cq H6 2 J bm J s1 aw J<|k ?_
 have cV:=E6 (mn:=mn) (mr:=mr) H6.mb (hT.ext H6.below) fZ (H6.rv 4 J)<|by exact bU
 refine ca Vu J (ec J e0) cV ?_
 rintro _ w5 ⟨a2,c2,rfl,fB,dM⟩
 have H7:=H6.eI dM
 refine k<|al H7 bm ?_
 let J3:=oL w 144 a2 (gF mn mr) c2
 let J4:=box ba #[R a1 uI c1] 144
 let bY:=J3::J4::oL w 151 a1 uI c1::bc
 intro bD w6 iN (H8:HI M w w6 (box bD #[C 0,.slice none 0 0] 26::bY))
 refine k<|bp H8 0 J bm J J J J J J J ?_
 let J5:=box bD #[C mn,R a2 (gF mn mr) c2] 26
 intro w7 (H9:HI M w w7 (J5::bY))
 refine bt<|ak J s0<|k<|dW J J cG<|k<|mk0 (α:=Int) (m:=nd.length) H9 J J J J cG aW aq aq ?_
 intro g0 w8 jb (dC:HI M w w8 (own w.heap.size 3 (.slice (some ⟨g0,0,none⟩) 0 nd.length) ([]:List Int)::J5::bY))
 refine au (v:=.slice (some ⟨g0,0,none⟩) 0 nd.length) J J<|av<|sq<|bk ?_
 refine lp (fun m f w'=>∃(vu:List Int) (jo:List bX) (a3:OA) (c3:Nat) (a4:OA) (c4:Nat),m=nd.length-vu.length∧f 1=R FJ nd FA∧f 6=pV ba 0∧f 9=pV bD 0∧f 10=R a3 vu c3∧HI M w w' [oL w 3 a3 vu c3,J5,J3,box ba #[R a4 jo c4] 144,oL w 151 a4 jo c4,J2,J1,J0]∧(vu.length≤nd.length)∧(Bh mn jo)∧(du mn mr nd=Ap (gF mn mr) (nd.length-vu.length) jo vu)) _ ⟨([]:List Int),uI,(some ⟨g0,0,none⟩),nd.length,a1,c1,J,s0,s2,J,J,dC,bh,(by exact hs),(by exact Ue hb aq)⟩ ?_
 rintro _ f1 w9 ⟨vu,jo,a3,c3,a4,c4,rfl,s6,s7,s8,s9,cT,ahx,gH,ht⟩
 refine sq<|aB<|ak J s9<|k<|dW J J cG<|ak J s6<|k<|dW J J cG<|k<|lss J J J J<|z<|nx ?_
 refine cd (b:=decide ((vu.length:Int)<(nd.length:Int))) J J (fun b1=>?_)<|fun b1=>?_
 ·
  have p1:=dT b1
  refine sk<|nx<|bk<|sq ?_
  have HG:=gH.1
  refine rg<|bl cT 3 J cZ J s7 J<|k ?_
  have dt:=cT.freeze 4 J
  have fT:=tQ (r:=jo) dt.mb (hT.ext dt.below) (dt.rv 4 J) aq
  refine ca HL J (ec J e0) fT ?_
  rintro _ dD ⟨a5,c5,rfl,kf,dV⟩
  have dw:=cT.eI<|bj.anyM dV
  refine k<|mf2 J (W4 s8<|W4 s7 mf0)<|k ?_
  have cJ:=dw.freeze 0 J
  have eU:=vk (r:=(cR jo)) (p:=(fun (x_:Int)=>(!(oB ((gF mn mr).getD x_.toNat []) jo)))) cJ.mb (cJ.rv 0 J) ⟨ahX,fun w_ v_ x_ sV e_ Gu=>by have H_:=cJ.ext e_;obtain⟨_,⟨rfl,fq⟩,rfl⟩:=Gu;exact O_ (mn:=mn) (mr:=(gF mn mr)) (lf:=jo) (M:=fun _=>False) (fun _ h_=>h_.elim) fq bq ((H_.me 3 J).lift (Up.less fun _ _ h_=>h_.elim)) ((H_.me 5 J).lift (Up.less fun _ _ h_=>h_.elim)) ⟨H_.at_ 2 rfl,fun h_=>h_⟩ ⟨H_.at_ 4 rfl,fun h_=>h_⟩ (by exact agY) (by exact gH.2 _ sV) (by exact gH.1)⟩
  refine ca Vt J (ec J<|ec J e0) eU ?_
  rintro _ eb ⟨rfl,l4⟩
  have dS:=dw.ext l4
  refine au (v:=C (eF (fun (x_:Int)=>(!(oB ((gF mn mr).getD x_.toNat []) jo)))<|cR jo)) J J<|av<|sq<|sq ?_
  have alz:=Zg (p:=(fun (x_:Int)=>(!(oB ((gF mn mr).getD x_.toNat []) jo)))) (r:=cR jo)
  have ahr:=fun (q_:Nat) (x_:Int) (h_:(cR jo)[q_]? =some x_)=>aa3 gH h_
  refine rg<|ak (v:=C (eF (fun (x_:Int)=>(!(oB ((gF mn mr).getD x_.toNat []) jo)))<|cR jo)) J J<|k<|lss J J J J<|z<|nx ?_
  refine cd (b:=decide ((eF (fun (x_:Int)=>(!(oB ((gF mn mr).getD x_.toNat []) jo)))<|cR jo)<0)) J J (fun b2=>?_)<|fun b2=>?_
  ·
   have p2:=dT b2
   refine aB<|au (v:=.slice none 0 0) J J<|au (v:=C 7) J J<|av<|rt<|aL<|bQ<|dQ<|bQ<|aL ?_
   have yw:=adU ht aq<|show eF (fun (x_:Int)=>(!(oB ((gF mn mr).getD x_.toNat []) jo))) (cR jo)<0 from by omega
   refine r2 J J J ?_
   have e0:([]:List Int)=(du mn mr nd).1:=by rw[yw]
   have e1:(7:Int)=(du mn mr nd).2:=by rw[yw]
   have bo:=nr (fun (bV:List Int) (dI:Int)=>(.tuple #[.slice none bV.length 0,C dI]:Value)) e0 e1
   exact⟨none,0,bo,dS.below,(amh (fun (x_:List Int)=>bj _ _ _ x_ (.slice none x_.length 0) _) e0).mp (fL dS.below)⟩
  have p2:=dF b2
  refine sk<|cI<|bl dS 4 J cZ J s7 J<|k ?_
  have de:=dS.freeze 5 J
  have kR:=tQ (r:=jo) de.mb (hT.ext de.below) (de.rv 5 J) aq
  refine ca HL J (ec J e0) kR ?_
  rintro _ ff ⟨a6,c6,rfl,lM,iU⟩
  have cO:=dS.eI<|bj.anyM iU
  refine ak (v:=C (eF (fun (x_:Int)=>(!(oB ((gF mn mr).getD x_.toNat []) jo)))<|cR jo)) J J<|k<|ic (cO.at_ 0 J) J J J J aq cG aW ?_
  intro g1 x0 im aQ cu
  refine k<|mQ cu aW J J ?_
  intro jO
  refine au (v:=C x0) J J<|av<|sq ?_
  obtain⟨ag',ag_⟩:=ahr _ _ aQ
  have alc:=U9 gH ag' ag_
  refine rg<|bl cO 5 J cZ J s7 J<|ak (v:=C x0) J J<|k<|KG J J J J<|k<|ic (cO.at_ 6 J) J J J J aq gW fh ?_
  intro g2 x1 kB cP gK
  refine k<|yb gK fh J J<|ak (v:=C x0) J J<|k<|Kc J J J J<|k<|OI J J BM Df<|k<|aao (1#64) ((BitVec.ofInt 64<|x0%64).toNat:Int) aq J J J J<|k<|ZU x1 ((1#64) <<< ((BitVec.ofInt 64<|x0%64).toNat:Int).toNat) J J J J<|k<|ic (cO.at_ 6 J) J J J J aq gW fh ?_
  intro g3 x2 Bp iW la
  refine k<|pR cO 6 J Bp J aq fh J J J J (RV.bv.2 J) ?_
  let J6:=box ba #[R a4 jo c4] 144
  let J7:=own w.heap.size 151 (.slice a4 jo.length c4) (jo.set ((x0/64).toNat) (x1 &&& ~~~((1#64) <<< ((BitVec.ofInt 64 (x0%64)).toNat:Int).toNat)))
  intro hQ (dP:HI M w hQ [oL w 3 a6 (cR jo) c6,oL w 3 a5 (cR jo) c5,oL w 3 a3 vu c3,J5,J3,J6,J7,J2,J1,J0])
  refine av<|rg<|ak J s9<|ak (v:=C x0) J J<|k<|bs (xs:=([x0]:List Int)) (cells:=#[C x0]) (e:=3) dP J (cj J ey) (fun _=>aM) ⟨[C x0],[],J,⟨J,(show aK (x0) from bq)⟩,J⟩ J aw ?_
  intro g4 iO xJ dG
  refine k<|l9 dG 3 J J J J J J (gT<|dG.at_ 0 J) cG aW J (by simp;omega) J ?_
  intro a7 c7 oM (cC:HI M w oM [own w.heap.size 3 (.slice (some ⟨g4,0,none⟩) 1 1) ([x0]:List Int),oL w 3 a6 (cR jo) c6,oL w 3 a5 (cR jo) c5,oL w 3 a7 (vu++([x0]:List Int)) c7,J5,J3,J6,J7,J2,J1,J0])
  refine au (v:=R a7 (vu++([x0]:List Int)) c7) J J<|z<|aI ?_
  have dR:HI M w oM [oL w 3 a7 (vu++([x0]:List Int)) c7,J5,J3,J6,J7,J2,J1,J0]:=cC.bT [3,4,5,6,7,8,9,10] aw rfl
  have dB:HI M w oM [oL w 3 a7 (vu++([x0]:List Int)) c7,J5,J3,box ba #[R a4 (jo.set ((x0/64).toNat) (x1 &&& ~~~((1#64) <<< ((BitVec.ofInt 64 (x0%64)).toNat:Int).toNat))) c4] 144,own w.heap.size 151 (.slice a4 (jo.set ((x0/64).toNat) (x1 &&& ~~~((1#64) <<< ((BitVec.ofInt 64 (x0%64)).toNat:Int).toNat))).length c4) (jo.set ((x0/64).toNat) (x1 &&& ~~~((1#64) <<< ((BitVec.ofInt 64 (x0%64)).toNat:Int).toNat))),J2,J1,J0]:=by simpa +zetaDelta only[R,ami] using dR
  refine bB _ ?_ ⟨(vu++([x0]:List Int)),(jo.set ((x0/64).toNat) (x1 &&& ~~~((1#64) <<< ((BitVec.ofInt 64<|x0%64).toNat:Int).toNat))),a7,c7,a4,c4,J,s6,s7,s8,J,dB,(by rw[gf,iB,gm];omega),(by exact Y9 gH ‹_›),(by exact Yz ht aq (show ¬eF (fun (x_:Int)=>(!(oB ((gF mn mr).getD x_.toNat []) jo))) (cR jo)<0 from by omega) aQ ‹_›)⟩
  rw[gf,iB,gm];omega
 have p1:=dF b1
 refine ex<|aX<|bf<|bg<|cI<|ak J s9<|au (v:=R a3 vu c3) J J<|au (v:=C 0) J J<|av<|rt ?_
 have yw:=aaf ht aq
 refine r2 J J J ?_
 have e0:(vu:List Int)=(du mn mr nd).1:=by rw[yw]
 have e1:(0:Int)=(du mn mr nd).2:=by rw[yw]
 have bo:=nr (fun (bV:List Int) (dI:Int)=>(.tuple #[.slice a3 bV.length c3,C dI]:Value)) e0 e1
 exact⟨a3,c3,bo,cT.below,(amh (fun (x_:List Int)=>bj _ _ _ x_ (.slice a3 x_.length c3) _) e0).mp (cT.da 0 J)⟩
theorem HP:gM aJ 107 0 0:=⟨_,_,Tryz.underlying107,rfl,rfl,aM⟩
theorem ud:gM aJ 107 1 3:=⟨_,_,Tryz.underlying107,rfl,rfl,aM⟩
theorem aeT:ct aJ 130:=⟨_,_,Tryz.func130,rfl,aM⟩
theorem Qf:ct aJ 56:=⟨_,_,Tryz.func56,rfl,aM⟩
theorem FV:eh aJ 103 1 false 8 (.pointer none):=⟨aM,aM⟩
theorem O7:eh aJ 63 1 false 8 (.nilFunc):=⟨aM,aM⟩
theorem XR:ct aJ 132:=⟨_,_,Tryz.func132,rfl,aM⟩
theorem aeS:ct aJ 134:=⟨_,_,Tryz.func134,rfl,aM⟩
theorem ahV:ct aJ 92:=⟨_,_,Tryz.func92,rfl,aM⟩
theorem ahU:ct aJ 93:=⟨_,_,Tryz.func93,rfl,aM⟩
theorem Tv {Mv:Nat} {WJ:TypeId} {Wo:OA} {V5:Nat} {dn:List Int} (hM:eD M w) (ab8:aK x_) (acf:cw M w Wo V5 dn) (ahQ:w.heap[Mv]? =some (.cells #[R Wo dn V5] WJ (0,0))∧¬M Mv):Calls aJ 130 #[C x_,.pointer (some ⟨Mv,0,none⟩)] w (cb fun v w'=>v=.bool (dn.any (fun (z_:Int)=>decide (x_=z_)))∧Ext w w'):=by
 refine df 7 Tryz.func130 J J J hM fun f0 ha H=>?_
 have H0:=ee H acf
 have akP:=aP acf
 have i0:f0 0=C x_:=ha 0 bh
 have H1:=H0.put (it:=ro Mv #[R Wo dn V5] WJ) J<|by rw[aE rfl,bN];exact ahQ
 have i1:f0 1=pV Mv 0:=ha 1 bh
 refine aB<|au (v:=.bool false) J J<|bt<|k<|lr H1 0 J qe J i1 J<|ak J i0<|k ?_
 have bP:=CT (rr:=dn) (tn:=x_) H1.mb (H1.rv 1 J) ab8
 refine ca XS J (ec J<|ec J e0) bP ?_
 rintro _ w0 ⟨rfl,bS⟩
 have H2:=H1.ext bS
 refine au (v:=.bool (dn.any<|fun (z_:Int)=>decide (x_=z_))) J J<|av<|rt<|r1 J J ?_
 exact⟨amh Value.bool (show (dn.any<|fun (z_:Int)=>decide (x_=z_))=(dn.any<|fun (z_:Int)=>decide (x_=z_)) from rfl),H2.below⟩
theorem V1 (hM:eD M w) (hT:fQ 0 w) (cL:cw M w ay ax I) (eZ:cw M w aA az U) (kb:aK cn) (lG:cw M w dm dh cr) (tB:aK o) (kQ:w.heap[eB]? =some (.cells #[.slice aD aF aC,R ay I ax,R aA U az,C cn,R dm cr dh] lU (0,0))∧¬M eB) (ho:gL I) (dp:I.length≤64) (eo:U.length=I.length) (fE:∀x∈U,x<((I.length:Nat):Int)) (nY:cn=((I.length:Nat):Int)) (pw:cr=cp I U) (jk:0≤o∧o<((I.length:Nat):Int)):Calls aJ 92 #[.pointer (some ⟨eB,0,none⟩),C o] w (cb fun v w'=>∃(ls:List Int) (a0:OA) (c0:Nat),v=R a0 ls c0∧Ext w w'∧bj M 3 w ls (R a0 ls c0) w'∧ls.length≤300000):=by
 refine df 58 Tryz.func92 J J J hM fun f0 ha H=>?_
 let J0:=iL ay I ax
 have H0:=H.put (it:=J0) J<|by rw[bN];exact cL
 let J1:=iL aA U az
 have H1:=H0.put (it:=J1) J<|by rw[aE rfl,bN];exact eZ
 let J2:=iL dm cr dh
 have H2:=H1.put (it:=J2) J<|by rw[aE rfl,aE rfl,bN];exact lG
 have fM:=aP cL
 have iA:=aP eZ
 have sS:=aP lG
 let J3:=ro eB #[.slice aD aF aC,R ay I ax,R aA U az,C cn,R dm cr dh] lU
 have H3:=H2.put (it:=J3) J<|by rw[aE rfl,aE rfl,aE rfl,bN];exact kQ
 have i0:f0 0=pV eB 0:=ha 0 bh
 have i1:f0 1=C o:=ha 1 bh
 have kP:bF cn cr=true:=by rw[nY,pw];exact pc U aq
 have lk_:=AU ho dp jk
 have WT:=ad5 (U:=U) (o:=o) dp
 have alx:(aZ (fV I) (cx I o)++([o]:List Int)).length≤65:=by rw[gf];simp only[iB,gm];omega
 refine aB<|au (v:=.slice none 0 0) J J<|av<|sq ?_
 refine l8 [.r,.r,.r,.r,.r,.r,.r,.r,.r,.r,.r,.r,.s,.s,.s,.n,.e,.s,.s,.s] (fun _=>True) J (by kernel_rfl) (fun _ _=>trivial) ?_
 refine yq J J<|kq (fun _ _=>mv rfl i0 e1)<|zq<|yq J J<|kq (fun _ _=>nc rfl rfl e1)<|zq<|yq J J<|kq (fun _ _=>fa HP rfl rfl e1)<|zq<|yq J J<|kq (fun _ x_=>vA (H3.ext x_) 0 rfl dx rfl rfl aw rfl e1)<|zq<|yq J J<|kq (fun _ _=>mv rfl i0 e1)<|zq<|yq J J<|kq (fun _ _=>nc rfl rfl e1)<|zq<|yq J J<|kq (fun _ _=>fa ud rfl rfl e1)<|zq<|yq J J<|kq (fun _ x_=>vA (H3.ext x_) 0 rfl bm rfl rfl aw rfl e1)<|zq<|yq J J<|kq (fun _ _=>mv rfl i1 e1)<|zq ?_
 refine yu J (fun N v w'=>∃(o0:List dU) (o1:Int) (a0:OA) (c0:Nat) (a1:OA) (c1:Nat),v=.tuple #[.agg #[C ((I.length:Nat):Int),R a0 (cQ I U o) c0],R a1 o0 c1,C o1,C 0]∧o0.length≤2000000000∧aK o1∧n5 I.length o0∧RV (MN H3.fW N) w' (R a0 (cQ I U o) c0) (cQ I U o)∧RV (MN H3.fW N) w' (R a1 o0 c1) o0) J ⟨by rintro _ _ _ _ x_ ⟨o0,o1,a0,c0,a1,c1,e_,q0,q1,q2,dV,fq⟩;exact⟨o0,o1,a0,c0,a1,c1,e_,q0,q1,q2,dV.lift (Up.ext x_),fq.lift (Up.ext x_)⟩,by rintro _ _ _ _ _ k_ ⟨o0,o1,a0,c0,a1,c1,e_,q0,q1,q2,dV,fq⟩;exact⟨o0,o1,a0,c0,a1,c1,e_,q0,q1,q2,gR dV k_,gR fq k_⟩⟩ J (fun v_ _ x_ n_=>have cV:=Hs (I:=I) (U:=U) (mn:=cn) (mr:=cr) (o:=o) (aD:=aD) (aF:=aF) (aC:=aC) (w:=v_) (kx H3.mb x_ n_) (hT.ext (H3.below.trans x_)) (j3 (H3.rv 3 J) x_ n_) (j3 (H3.rv 2 J) x_ n_) kb (j3 (H3.rv 1 J) x_ n_) tB (by exact ho) (by exact dp) (by exact eo) (by exact fE) (by exact nY) (by exact pw) aq;ca Ql rfl (ec J<|ec J<|ec J e0) cV (fun _ w1 ⟨o2,o3,a2,c2,a3,c3,e_,cY,iU,jO,q3,q4,q5⟩=>⟨_,J,cY,⟨o2,o3,a2,c2,a3,c3,e_,q3,q4,q5,iU,jO⟩⟩)) ?_
 refine lq J (fun N v w'=>∃(o4:List dU) (o5:Int) (a4:OA) (c4:Nat) (a5:OA) (c5:Nat),v=.tuple #[.agg #[C ((I.length:Nat):Int),R a4 (cQ I U o) c4],R a5 o4 c5,C o5,C 0]∧o4.length≤2000000000∧aK o5∧n5 I.length o4∧RV (MN H3.fW N) w' (R a4 (cQ I U o) c4) (cQ I U o)∧RV (MN H3.fW N) w' (R a5 o4 c5) o4) 0 J J ⟨by rintro _ _ _ _ x_ ⟨o4,o5,a4,c4,a5,c5,e_,q6,q7,q8,iT,kZ⟩;exact⟨o4,o5,a4,c4,a5,c5,e_,q6,q7,q8,iT.lift (Up.ext x_),kZ.lift (Up.ext x_)⟩,by rintro _ _ _ _ _ k_ ⟨o4,o5,a4,c4,a5,c5,e_,q6,q7,q8,iT,kZ⟩;exact⟨o4,o5,a4,c4,a5,c5,e_,q6,q7,q8,gR iT k_,gR kZ k_⟩⟩ J (fun _ _ _ _ _ h_=>let ⟨o6,o7,a6,c6,a7,c7,s0,q9,ux,wK,oe,ph⟩:=h_;mv rfl s0 ⟨_,J,Ext.refl _,⟨o6,o7,a6,c6,a7,c7,J,q9,ux,wK,oe,ph⟩⟩) ?_
 refine lq J (fun N v w'=>∃(a8:OA) (c8:Nat),v=.agg #[C ((I.length:Nat):Int),R a8 (cQ I U o) c8]∧RV (MN H3.fW N) w' (R a8 (cQ I U o) c8) (cQ I U o)) 0 J J kI J (fun _ _ _ _ _ h_=>let ⟨kv,fF,iZ,iY,mF,mD,s1,B6,B5,xP,nw,qh⟩:=h_;xt rfl s1 rfl ⟨_,J,Ext.refl _,⟨iZ,iY,J,nw⟩⟩) ?_
 refine lq J (fun N v w'=>∃(jR:List dU) (jK:OA) (jJ:Nat),v=R jK jR jJ∧jR.length≤2000000000∧n5 I.length jR∧RV (MN H3.fW N) w' (R jK jR jJ) jR) 1 J J ⟨by rintro _ _ _ _ x_ ⟨jR,jK,jJ,e_,wJ,wI,pM⟩;exact⟨jR,jK,jJ,e_,wJ,wI,pM.lift (Up.ext x_)⟩,by rintro _ _ _ _ _ k_ ⟨jR,jK,jJ,e_,wJ,wI,pM⟩;exact⟨jR,jK,jJ,e_,wJ,wI,gR pM k_⟩⟩ J (fun _ _ _ _ _ h_=>let ⟨D0,Gb,kL,kJ,TZ,TB,s2,DV,q22,KT,Az,EM⟩:=h_;xt rfl s2 rfl ⟨_,J,Ext.refl _,⟨D0,TZ,TB,J,DV,KT,EM⟩⟩) ?_
 refine lq J (fun _ v _=>∃(Ch:Int),v=C Ch∧aK Ch) 2 J J mE J (fun _ _ _ _ _ h_=>let ⟨RY,IJ,a18,c18,a19,c19,s3,q27,RD,q29,aav,aau⟩:=h_;xt rfl s3 rfl ⟨_,J,Ext.refl _,⟨IJ,J,RD⟩⟩) ?_
 refine QP J (X:=C 0) 3 J J (fun _ _ _ _ _ h_=>let ⟨N0,K8,a22,c22,a23,c23,s4,q33,q34,q35,aat,aas⟩:=h_;xt rfl s4 rfl e1) ?_
 refine yn (z:=#[C 0,.slice none 0 0]) J J (fun _=>OW bm)<|ye ?_
 refine lq J (fun N v w'=>∃(j4:List dU) (a24:OA) (yy:Nat),v=R a24 j4 yy∧j4.length≤2000000000∧n5 I.length j4∧RV (MN H3.fW N) w' (R a24 j4 yy) j4) 2 J J ⟨by rintro _ _ _ _ x_ ⟨j4,a24,yy,e_,B4,B3,wG⟩;exact⟨j4,a24,yy,e_,B4,B3,wG.lift (Up.ext x_)⟩,by rintro _ _ _ _ _ k_ ⟨j4,a24,yy,e_,B4,B3,wG⟩;exact⟨j4,a24,yy,e_,B4,B3,gR wG k_⟩⟩ J (fun _ _ _ _ _ h_=>let ⟨vw,a25,Ej,s5,RC,RB,KP⟩:=h_;jB rfl s5 ⟨_,J,Ext.refl _,⟨vw,a25,Ej,J,RC,RB,KP⟩⟩) ?_
 refine lq J (fun _ v _=>∃(nJ:Int),v=C nJ∧aK nJ) 2 J J mE J (fun _ _ _ _ _ h_=>let ⟨ou,s6,RA⟩:=h_;jB rfl s6 ⟨_,J,Ext.refl _,⟨ou,J,RA⟩⟩) ?_
 refine yq J J<|kq (fun _ _=>jB (v:=C 0) rfl rfl e1)<|zq<|yz ?_
 intro w2 f0 _ eT _ _ cz iC
 obtain⟨ba,s7,CC,sj,Br⟩:=iC 2 _ _ rfl
 have px:=ON (z:=#[C 0,.slice none 0 0]) (T:=26) CC sj Br<|OO
 let bc:=[J3,J2,J1,J0]
 have cT:HI M w w2 (box ba #[C 0,.slice none 0 0] 26::bc):=H3.Dr eT px (N4 N3 N5)
 have s8:=(cz 0 J).trans i0
 have s9:=(cz 1 J).trans i1
 obtain⟨a26,G4,ej,KO⟩:=iC 5 _ _ rfl
 let J4:=iL a26 (cQ I U o) G4
 have dt:=cT.put (it:=J4) J<|rR KO px
 refine jZ<|bp dt 1 J bm J J s7 ej J J J ?_
 let J5:=box ba #[C ((I.length:Nat):Int),R a26 (cQ I U o) G4] 26
 intro w3 (dw:HI M w w3 (J4::J5::bc))
 refine kz<|cI<|k<|al dw qe ?_
 intro bD w4 fB (cJ:HI M w w4 (box bD #[.slice none 0 0] 27::J4::J5::bc))
 refine av<|sq<|aB<|ak J s8<|k<|nc J J<|aU HP J J<|k<|vA cJ 3 J dx J J aw J<|ak J s9<|k ?_
 have fT:=B9 (I:=I) (o:=o) (aD:=aD) (aF:=aF) (aC:=aC) (aA:=aA) (eS:=U.length) (az:=az) cJ.mb (cJ.rv 6 J) tB (by exact ho) aq
 refine ca Vx J (ec J<|ec J e0) fT ?_
 rintro _ w5 ⟨Af,Ac,rfl,iN,Um⟩
 have dS:=cJ.eI Um
 refine ak J s9<|k<|bs (xs:=([o]:List Int)) (cells:=#[C o]) (e:=3) dS J (cj J ey) (fun _=>aM) ⟨[C o],[],J,⟨J,tB⟩,J⟩ J aw ?_
 intro g0 w6 jb de
 refine k<|l9 de 1 J J J J J J (gT<|de.at_ 0 J) cG aW J (by simp only[iB,gm];omega) J ?_
 let J6:=own w.heap.size 3 (.slice (some ⟨g0,0,none⟩) 1 1) ([o]:List Int)
 intro a28 qX w7 (cO:HI M w w7 (J6::oL w 3 a28 (aZ (fV I) (cx I o)++([o]:List Int)) qX::box bD #[.slice none 0 0] 27::J4::J5::bc))
 refine k<|dW J J cG<|ak (v:=C 0) J J<|av<|bk ?_
 have dP:=cO.re Int 3
 let bY:=J4::box ba #[C ((I.length:Nat):Int),R a26 (cQ I U o) G4] 26::bc
 refine lp (fun m f w'=>∃(j_:Nat) (ig:List Int) (oJ:OA) (oI:Nat),m=(aZ (fV I) (cx I o)++([o]:List Int)).length-j_∧f 5=pV ba 0∧f 9=pV bD 0∧f 36=R a28 (aZ (fV I) (cx I o)++([o]:List Int)) qX∧f 37=C ((aZ (fV I) (cx I o)++([o]:List Int)).length:Int)∧f 38=C (j_:Int)∧HI M w w' (oL w 3 oJ ig oI::own w.heap.size 3 (.slice (some ⟨g0,0,none⟩) 1 1) ([o]:List Int)::oL w 3 a28 (aZ (fV I) (cx I o)++([o]:List Int)) qX::box bD #[R oJ ig oI] 27::bY)∧(j_≤(aZ (fV I) (cx I o)++([o]:List Int)).length)∧(ig.length≤4096*j_)) _ ⟨0,([]:List Int),none,0,J,s7,J,J,J,(bJ J),dP,aq,(by exact anB _)⟩ ?_
 rintro _ f1 w8 ⟨j_,ig,oJ,oI,rfl,eY,fK,fJ,gx,gP,dG,pt,hs⟩
 refine aB<|k<|lss J J gP gx<|av<|sq ?_
 refine cd (b:=decide ((j_:Int)<((aZ (fV I) (cx I o)++([o]:List Int)).length:Int))) J J (fun b0=>?_)<|fun b0=>?_
 ·
  have p0:=dT b0
  refine sk<|nx<|sq<|bk<|aB<|k<|ic (dG.at_ 2 J) J J fJ gP aq cG aW ?_
  intro g1 x0 im aQ cu
  refine k<|mQ cu aW J J ?_
  intro KN
  refine au (v:=C x0) J J<|bt<|k<|cq dG 5 J bm J eY aw J<|ak (v:=C x0) J J<|k ?_
  have eU:=uy (mn:=((I.length:Nat):Int)) (mr:=(cQ I U o)) (o:=x0) dG.mb (hT.ext dG.below) aV (dG.rv 4 J) KN<|by exact WT
  refine ca LZ J (ec J<|ec J e0) eU ?_
  rintro _ w9 ⟨jV,jT,rfl,kf,EL⟩
  have cC:=dG.eI EL
  refine k<|mf2 J (W4 fK mf0)<|k ?_
  let J7:=box bD #[R oJ ig oI] 27
  have dR:HI M w w9 ([oL w 3 jV (bL ((I.length:Nat):Int) (cQ I U o) x0) jT]++[oL w 3 oJ ig oI,J6,oL w 3 a28 (aZ (fV I) (cx I o)++([o]:List Int)) qX,J7,J4,J5,J3,J2,J1,J0]):=cC.bT [0,1,2,3,4,5,6,7,8,9,10] aw rfl
  have kR:=oF (dO:=jV) (dH:=jT) (xs:=(bL ((I.length:Nat):Int) (cQ I U o) x0)) (pY:=130) (qb:=[pV bD 0]) (p:=(fun (x_:Int)=>(ig.any<|fun (z_:Int)=>decide (x_=z_)))) (w:=w) (w_:=w9) (r:=[oL w 3 oJ ig oI,own w.heap.size 3 (.slice (some ⟨g0,0,none⟩) 1 1) ([o]:List Int),oL w 3 a28 (aZ (fV I) (cx I o)++([o]:List Int)) qX,J7,J4,box ba #[C ((I.length:Nat):Int),R a26 (cQ I U o) G4] 26,J3,J2,J1,J0]) (M:=M) ⟨aeT,fun w_ qS H_ x_ sV D3=>Tv (dn:=ig) (M:=fun _=>False) (fun _ h_=>h_.elim) D3 ((H_.me 1 J).lift (Up.less fun _ _ h_=>h_.elim)) ⟨H_.at_ 4 rfl,fun h_=>h_⟩⟩ dR
  refine ca GH J (ec J<|ec J e0) kR ?_
  rintro _ dD ⟨rfl,dB⟩
  have eO:HI M w dD (oL w 3 jV (aZ (fun (x_:Int)=>(ig.any (fun (z_:Int)=>decide (x_=z_)))) (bL ((I.length:Nat):Int) (cQ I U o) x0)) jT::oL w 3 oJ ig oI::own w.heap.size 3 (.slice (some ⟨g0,0,none⟩) 1 1) ([o]:List Int)::oL w 3 a28 (aZ (fV I) (cx I o)++([o]:List Int)) qX::J7::bY):=dB
  refine au (v:=R jV (aZ (fun (x_:Int)=>(ig.any<|fun (z_:Int)=>decide (x_=z_)))<|bL ((I.length:Nat):Int) (cQ I U o) x0) jT) J J<|bt<|k<|cq eO 6 J bm J eY aw J<|ak (v:=R jV (aZ (fun (x_:Int)=>(ig.any<|fun (z_:Int)=>decide (x_=z_)))<|bL ((I.length:Nat):Int) (cQ I U o) x0) jT) J J<|k ?_
  have fc:=eO.freeze 0 J
  have lI:=xL (mn:=((I.length:Nat):Int)) (mr:=(cQ I U o)) (nd:=(aZ (fun (x_:Int)=>(ig.any<|fun (z_:Int)=>decide (x_=z_)))<|bL ((I.length:Nat):Int) (cQ I U o) x0)) fc.mb (hT.ext fc.below) aV (fc.rv 5 J) (fc.rv 0 J) (by exact WT)<|by exact Nat.le_trans (uk WT x0 _) aw
  refine ca Qf J (ec J<|ec J e0) lI ?_
  rintro _ eb ⟨a31,Jh,rfl,l4,EK⟩
  have gI:=fc.eI EK
  refine ak (v:=.tuple #[R a31 ((du ((I.length:Nat):Int) (cQ I U o)<|aZ (fun (x_:Int)=>(ig.any<|fun (z_:Int)=>decide (x_=z_)))<|bL ((I.length:Nat):Int) (cQ I U o) x0).1) Jh,C ((du ((I.length:Nat):Int) (cQ I U o)<|aZ (fun (x_:Int)=>(ig.any<|fun (z_:Int)=>decide (x_=z_)))<|bL ((I.length:Nat):Int) (cQ I U o) x0).2)]) J J<|k<|xt J J J<|k<|xt J J J<|au (v:=R a31 ((du ((I.length:Nat):Int) (cQ I U o)<|aZ (fun (x_:Int)=>(ig.any<|fun (z_:Int)=>decide (x_=z_)))<|bL ((I.length:Nat):Int) (cQ I U o) x0).1) Jh) J J<|z<|nx ?_
  have ald:=uk WT x0<|fun (x_:Int)=>(ig.any<|fun (z_:Int)=>decide (x_=z_))
  have ale:=Ku (n:=((I.length:Nat):Int)) (rs:=cQ I U o) (nd:=aZ (fun (x_:Int)=>(ig.any<|fun (z_:Int)=>decide (x_=z_))) (bL ((I.length:Nat):Int) (cQ I U o) x0))
  refine rg<|bl gI 5 J qe J fK J<|ak (v:=R a31 ((du ((I.length:Nat):Int) (cQ I U o)<|aZ (fun (x_:Int)=>(ig.any<|fun (z_:Int)=>decide (x_=z_)))<|bL ((I.length:Nat):Int) (cQ I U o) x0).1) Jh) J J<|k<|l9 gI 2 J J J J J J (gT<|gI.at_ 0 J) cG aW J aq J ?_
  intro a32 oH ff (iD:HI M w ff (oL w 3 a31 ((du ((I.length:Nat):Int) (cQ I U o) (aZ (fun (x_:Int)=>(ig.any (fun (z_:Int)=>decide (x_=z_)))) (bL ((I.length:Nat):Int) (cQ I U o) x0))).1) Jh::iL jV (aZ (fun (x_:Int)=>(ig.any (fun (z_:Int)=>decide (x_=z_)))) (bL ((I.length:Nat):Int) (cQ I U o) x0)) jT::oL w 3 a32 (ig++(du ((I.length:Nat):Int) (cQ I U o) (aZ (fun (x_:Int)=>(ig.any (fun (z_:Int)=>decide (x_=z_)))) (bL ((I.length:Nat):Int) (cQ I U o) x0))).1) oH::own w.heap.size 3 (.slice (some ⟨g0,0,none⟩) 1 1) ([o]:List Int)::oL w 3 a28 (aZ (fV I) (cx I o)++([o]:List Int)) qX::J7::bY))
  refine k<|bp iD 5 J qe J J fK J J J J ?_
  intro hQ (ga:HI M w hQ (oL w 3 a31 ((du ((I.length:Nat):Int) (cQ I U o) (aZ (fun (x_:Int)=>(ig.any (fun (z_:Int)=>decide (x_=z_)))) (bL ((I.length:Nat):Int) (cQ I U o) x0))).1) Jh::iL jV (aZ (fun (x_:Int)=>(ig.any (fun (z_:Int)=>decide (x_=z_)))) (bL ((I.length:Nat):Int) (cQ I U o) x0)) jT::oL w 3 a32 (ig++(du ((I.length:Nat):Int) (cQ I U o) (aZ (fun (x_:Int)=>(ig.any (fun (z_:Int)=>decide (x_=z_)))) (bL ((I.length:Nat):Int) (cQ I U o) x0))).1) oH::own w.heap.size 3 (.slice (some ⟨g0,0,none⟩) 1 1) ([o]:List Int)::oL w 3 a28 (aZ (fV I) (cx I o)++([o]:List Int)) qX::box bD #[R a32 (ig++(du ((I.length:Nat):Int) (cQ I U o) (aZ (fun (x_:Int)=>(ig.any (fun (z_:Int)=>decide (x_=z_)))) (bL ((I.length:Nat):Int) (cQ I U o) x0))).1) oH] 27::bY))
  refine z<|aI<|nx<|rg<|k<|add J J gP J aV<|ak (v:=C ((j_:Int)+1)) J J<|z ?_
  have lL:HI M w hQ (oL w 3 a32 (ig++(du ((I.length:Nat):Int) (cQ I U o) (aZ (fun (x_:Int)=>(ig.any (fun (z_:Int)=>decide (x_=z_)))) (bL ((I.length:Nat):Int) (cQ I U o) x0))).1) oH::own w.heap.size 3 (.slice (some ⟨g0,0,none⟩) 1 1) ([o]:List Int)::oL w 3 a28 (aZ (fV I) (cx I o)++([o]:List Int)) qX::box bD #[R a32 (ig++(du ((I.length:Nat):Int) (cQ I U o) (aZ (fun (x_:Int)=>(ig.any (fun (z_:Int)=>decide (x_=z_)))) (bL ((I.length:Nat):Int) (cQ I U o) x0))).1) oH] 27::bY):=ga.bT [2,3,4,5,6,7,8,9,10,11] aw rfl
  refine bB _ ?_ ⟨(j_+1),(ig++(du ((I.length:Nat):Int) (cQ I U o)<|aZ (fun (x_:Int)=>(ig.any<|fun (z_:Int)=>decide (x_=z_)))<|bL ((I.length:Nat):Int) (cQ I U o) x0).1),a32,oH,J,eY,fK,fJ,gx,(bJ J),lL,aq,(by rw[gf];omega)⟩
  omega
 have p0:=dF b0
 refine ex<|aX<|bf<|bg<|cI<|bl dG 3 J qe J fK J<|au (v:=R oJ ig oI) J J<|av<|rt<|r1 J J ?_
 exact⟨ig,oJ,oI,J,dG.below,(dG.da 0 J),aq⟩
theorem CV {Mu:Nat} {WI:TypeId} {fr:Int} {WB:TypeId} (hM:eD M w) (ab6:aK xx) (ahI:aK fr) (cL:cw M w ay ax I) (eZ:cw M w aA az U) (kb:aK cn) (lG:cw M w dm dh cr) (ahP:w.heap[Mu]? =some (.cells #[C fr] WI (0,0))∧¬M Mu) (ahK:w.heap[kc]? =some (.cells #[.pointer (some ⟨eB,0,none⟩)] WB (0,0))∧¬M kc) (kQ:w.heap[eB]? =some (.cells #[.slice aD aF aC,R ay I ax,R aA U az,C cn,R dm cr dh] lU (0,0))∧¬M eB) (kP:bF cn cr=true):Calls aJ 132 #[C xx,.pointer (some ⟨Mu,0,none⟩),.pointer (some ⟨kc,0,none⟩)] w (cb fun v w'=>v=.bool (decide (0≤fr)&&(decide (xx=fr)||eC cn cr fr xx))∧Ext w w'):=by
 refine df 21 Tryz.func132 J J J hM fun f0 ha H=>?_
 have H0:=ee H cL
 have H1:=ee H0 eZ
 have H2:=ee H1 lG
 have fM:=aP cL
 have iA:=aP eZ
 have sS:=aP lG
 have i0:f0 0=C xx:=ha 0 bh
 have H3:=H2.put (it:=ro Mu #[C fr] WI) J<|by rw[aE rfl,aE rfl,aE rfl,bN];exact ahP
 have i1:f0 1=pV Mu 0:=ha 1 bh
 have H4:=H3.put (it:=ro eB #[.slice aD aF aC,R ay I ax,R aA U az,C cn,R dm cr dh] lU) J<|by rw[aE rfl,aE rfl,aE rfl,aE rfl,bN];exact kQ
 have H5:=H4.put (it:=ro kc #[pV eB 0] WB) J<|by rw[aE rfl,aE rfl,aE rfl,aE rfl,aE rfl,bN];exact ahK
 have i2:f0 2=pV kc 0:=ha 2 bh
 refine aB<|au (v:=.bool false) J J<|av<|sq ?_
 refine BD J (by kernel_rfl) ?_
 refine kq (fun _ x_=>lr (H5.ext x_) 2 rfl aW rfl i1 rfl e1)<|kq (fun _ _=>geq rfl rfl rfl rfl e1)<|kq (fun _ _=>mv (v:=.bool (decide (0≤fr))) rfl rfl e1) ?_
 rcases bE (decide (0≤fr)) with b0|b0
 ·
  have p0:=dT b0
  refine qy J J J b0<|kq (fun _ _=>mv rfl i0 e1)<|qy J J J b0<|kq (fun _ x_=>lr (H5.ext x_) 2 rfl aW rfl i1 rfl e1)<|qy J J J b0<|kq (fun _ _=>eql rfl rfl rfl rfl e1)<|qy J J J b0<|kq (fun _ _=>mv (v:=.bool (decide (xx=fr))) rfl rfl e1) ?_
  rcases bE (decide (xx=fr)) with b1|b1
  ·
   have p1:=dT b1
   refine qn J J J b1<|qn J J J b1<|qn J J J b1<|qn J J J b1<|qn J J J b1<|qn J J J b1<|qn J J J b1<|qy J J J b0<|kq (fun _ _=>aR rfl rfl rfl rfl b1 rfl e1)<|kq (fun _ _=>aR rfl rfl rfl rfl b0 rfl e1)<|kq (fun _ _=>jB (v:=.bool true) rfl rfl e1)<|zq ?_
   intro w0 bS
   have H6:=H5.ext bS
   refine nx<|rt<|r1 J J ?_
   exact⟨amh Value.bool (by simp only[b0,b1,BL]),H6.below⟩
  have p1:=dF b1
  refine qy J J J b1<|kq (fun _ x_=>lr (H5.ext x_) 0 rfl FV rfl i2 rfl e1)<|qy J J J b1<|kq (fun _ _=>nc rfl rfl e1)<|qy J J J b1<|kq (fun _ _=>fa ud rfl rfl e1)<|qy J J J b1<|kq (fun _ x_=>vA (H5.ext x_) 1 rfl bm rfl rfl aw rfl e1)<|qy J J J b1<|kq (fun _ x_=>lr (H5.ext x_) 2 rfl aW rfl i1 rfl e1)<|qy J J J b1<|kq (fun _ _=>mv rfl i0 e1)<|qy J J J b1 ?_
  refine kq (v:=.bool (eC cn cr fr xx)) (fun v_ x_=>?_) ?_
  ·
   have cc:=tU (mn:=cn) (mr:=cr) (i:=fr) (j:=xx) (w:=v_) (H5.ext x_).mb kb ((H5.ext x_).rv 3 rfl) ahI ab6 (by exact(bO kP).1) (by exact(bO kP).2.1)<|by exact(bO kP).2.2.1
   exact ca Fk J (ec J<|ec J<|ec J e0) cc fun _ _ h_=>e2 h_
  refine qy J J J b0<|kq (fun _ _=>cK rfl rfl rfl rfl b1 rfl e1)<|kq (fun _ _=>aR rfl rfl rfl rfl b0 rfl e1)<|kq (fun _ _=>jB (v:=.bool (eC cn cr fr xx)) rfl rfl e1)<|zq ?_
  intro w0 bS
  have H6:=H5.ext bS
  refine nx<|rt<|r1 J J ?_
  exact⟨amh Value.bool (by simp only[b0,b1,BL]),H6.below⟩
 have p0:=dF b0
 refine qn J J J b0<|qn J J J b0<|qn J J J b0<|qn J J J b0<|qu J J J<|qu J J J<|qu J J J<|qu J J J<|qu J J J<|qu J J J<|qu J J J<|qn J J J b0<|kq (fun _ _=>cK rfl rfl rfl rfl b0 rfl e1)<|kq (fun _ _=>jB (v:=.bool false) rfl rfl e1)<|zq ?_
 intro w0 bS
 have H6:=H5.ext bS
 refine nx<|rt<|r1 J J ?_
 exact⟨amh Value.bool (by simp only[b0,BL]),H6.below⟩
theorem Mi {Mt:Nat} {WH:TypeId} {VD:Nat} {Wv:List Value} {pp:Int→Bool} (hM:eD M w) (ab6:aK xx) (ab':FP aJ VD Wv M w [xx] pp) (ahO:w.heap[Mt]? =some (.cells #[.func (.func VD) #[] Wv.toArray] WH (0,0))∧¬M Mt):Calls aJ 134 #[C xx,.pointer (some ⟨Mt,0,none⟩)] w (cb fun v w'=>v=.bool (!(pp xx))∧Ext w w'):=by
 refine df 8 Tryz.func134 J J J hM fun f0 ha H=>?_
 have i0:f0 0=C xx:=ha 0 bh
 have H0:=H.put (it:=ro Mt #[.func (.func VD) #[] Wv.toArray] WH) J<|by rw[bN];exact ahO
 have i1:f0 1=pV Mt 0:=ha 1 bh
 refine aB<|au (v:=.bool false) J J<|bt<|k<|lr H0 0 J O7 J i1 J<|ak J i0<|k<|cf ab'.1 J J J (ec J e0) (ab'.2 _ _ _ (by exact anw.2 rfl) H0.below<|(RV.int.2 ⟨J,aV⟩).lift H0.out) ?_
 rintro _ w0 ⟨rfl,bS⟩
 have H1:=H0.ext bS
 refine k<|jE J J<|au (v:=.bool (!(pp xx))) J J<|av<|rt<|r1 J J ?_
 exact⟨amh Value.bool (show (!(pp xx))=(!(pp xx)) from rfl),H1.below⟩
theorem Nl (hM:eD M w) (hT:fQ 0 w) (cL:cw M w ay ax I) (eZ:cw M w aA az U) (kb:aK cn) (lG:cw M w dm dh cr) (tB:aK o) (kQ:w.heap[eB]? =some (.cells #[.slice aD aF aC,R ay I ax,R aA U az,C cn,R dm cr dh] lU (0,0))∧¬M eB) (ho:gL I) (dp:I.length≤64) (eo:U.length=I.length) (fE:∀x∈U,x<((I.length:Nat):Int)) (nY:cn=((I.length:Nat):Int)) (pw:cr=cp I U) (jk:0≤o∧o<((I.length:Nat):Int)):Calls aJ 93 #[.pointer (some ⟨eB,0,none⟩),C o] w (cb fun v w'=>∃(ls:List Int) (a0:OA) (c0:Nat),v=R a0 ls c0∧Ext w w'∧bj M 3 w ls (R a0 ls c0) w'∧ls.length≤300000):=by
 refine df 53 Tryz.func93 J J J hM fun f0 ha H=>?_
 let J0:=iL ay I ax
 have H0:=H.put (it:=J0) J<|by rw[bN];exact cL
 let J1:=iL aA U az
 have H1:=H0.put (it:=J1) J<|by rw[aE rfl,bN];exact eZ
 let J2:=iL dm cr dh
 have H2:=H1.put (it:=J2) J<|by rw[aE rfl,aE rfl,bN];exact lG
 have fM:=aP cL
 have iA:=aP eZ
 have sS:=aP lG
 let J3:=ro eB #[.slice aD aF aC,R ay I ax,R aA U az,C cn,R dm cr dh] lU
 have H3:=H2.put (it:=J3) J<|by rw[aE rfl,aE rfl,aE rfl,bN];exact kQ
 have i0:f0 0=pV eB 0:=ha 0 bh
 have i1:f0 1=C o:=ha 1 bh
 have kP:bF cn cr=true:=by rw[nY,pw];exact pc U aq
 refine aB<|k<|bx H3 J i0 ?_
 let bc:=[J3,J2,J1,J0]
 intro aY w0 bS (H4:HI M w w0 (box aY #[pV eB 0] 103::bc))
 let J4:=box aY #[pV eB 0] 103
 refine au (v:=.slice none 0 0) J J<|bt<|bl H4 0 J FV J J J<|k<|nc J J<|aU HP J J<|aU tg J J<|k<|lr H4 1 J qe J J J<|ak J i1<|k<|ia (H4.rv 3 J) J J J J aq cG aW ?_
 intro iw x0 aQ cu
 refine k<|mQ cu.w aW J J ?_
 intro cm
 refine k<|al H4 aW ?_
 intro ba w1 cY (H5:HI M w w1 (box ba #[C 0] 3::J4::bc))
 refine k<|bp H5 0 J aW J J J J J J J ?_
 let J5:=box ba #[C x0] 3
 let bY:=J5::J4::bc
 intro w2 (H6:HI M w w2 bY)
 refine bt<|k<|mf J<|k<|al H6 O7 ?_
 intro bD w3 eT (H7:HI M w w3 (box bD #[.nilFunc] 63::bY))
 refine k<|bp H7 0 J O7 J J J J J J J ?_
 let J6:=box bD #[.func (.func 132) #[] #[pV ba 0,pV aY 0]] 63
 intro w4 (H8:HI M w w4 (J6::bY))
 refine bt<|bl H8 2 J FV J J J<|k<|nc J J<|aU ud J J<|k<|vA H8 3 J bm J J aw J<|ak J i1<|k ?_
 have bP:=uy (mn:=cn) (mr:=cr) (o:=o) H8.mb (hT.ext H8.below) kb (H8.rv 4 J) tB<|by exact kP
 refine ca LZ J (ec J<|ec J e0) bP ?_
 rintro _ w5 ⟨a0,c0,rfl,fB,dM⟩
 have H9:=H8.eI dM
 refine au (v:=R a0 (bL cn cr o) c0) J J<|av<|sq ?_
 refine l8 [.f,.f,.f,.f,.r,.r,.r,.e,.e,.e,.e,.e,.e,.e] (fun w'=>HI M w w' [J4,J3]) J (by kernel_rfl) (fun _ x_=>(H9.bT (l':=[J4,J3]) [3,4] aw J).ext x_) ?_
 refine yf J (fun _ i_=>lx i_ 0 rfl FV rfl rfl rfl e3)<|yf J (fun _ _=>nc rfl rfl e3)<|yf J (fun _ _=>fa ud rfl rfl e3)<|yf J (fun _ i_=>vA i_ 1 rfl bm rfl rfl aw rfl e3)<|yq J J<|kq (fun _ _=>mv (v:=R a0 (bL cn cr o) c0) rfl rfl e1)<|zq ?_
 refine yu J (fun _ v w'=>∃(a1:OA) (c1:Nat),v=R a1 (bL cn cr o) c1∧bj H9.fW 3 w5 (bL cn cr o) (.slice a1 (bL cn cr o).length c1) w') J (mN<|by rintro _ _ _ x_ ⟨a1,c1,e_,fq⟩;exact⟨a1,c1,e_,fq.Lo x_⟩) J (fun v_ _ x_ _=>have fT:=Jf (l:=(bL cn cr o)) (w:=v_) ((H9.ext x_).freeze 0 rfl).mb (((H9.ext x_).freeze 0 rfl).rv 0 rfl) (by have h_:=um kP o;omega);ca XQ rfl (ec J e0) fT (fun _ w7 ⟨a2,c2,e_,jb,iU⟩=>⟨_,J,jb,⟨a2,c2,e_,(bj.anyM<|bj.base iU x_)⟩⟩)) ?_
 refine yq J J<|kq (fun _ x_=>lx (H9.ext x_) 1 rfl O7 rfl rfl rfl e1)<|zq<|ye<|ye<|ye<|ye<|ye<|ye<|ye<|yz ?_
 intro w8 f0 _ kf _ _ cz iC
 obtain⟨a3,c3,s0,iT⟩:=iC 0 _ _ rfl
 have dS:=H9.eI<|bj.anyM iT
 have s1:=cz 2 J
 have s2:=cz 6 J
 have s3:=cz 7 J
 have s4:=cz 31 J
 have s5:=cz 34 J
 refine ke ?_
 let J7:=oL w 3 a0 (bL cn cr o) c0
 have de:HI M w w8 ([oL w 3 a3 (bL cn cr o) c3]++[J7,J6,J5,J4,J3,J2,J1,J0]):=dS.bT [0,1,2,3,4,5,6,7,8] aw rfl
 have eU:=oF (dO:=a3) (dH:=c3) (xs:=(bL cn cr o)) (pY:=132) (qb:=[pV ba 0,pV aY 0]) (p:=(fun (x_:Int)=>(decide (0≤x0)&&(decide (x_=x0)||eC cn cr x0 x_)))) (w:=w) (w_:=w8) (r:=[J7,J6,J5,J4,J3,J2,J1,J0]) (M:=M) ⟨XR,fun w_ qS H_ x_ sV D3=>CV (fr:=x0) (I:=I) (U:=U) (cn:=cn) (cr:=cr) (M:=fun _=>False) (fun _ h_=>h_.elim) D3 bq ((H_.rv 8 J).lift (Up.less fun _ _ h_=>h_.elim)) ((H_.rv 7 J).lift (Up.less fun _ _ h_=>h_.elim)) bq ((H_.rv 6 J).lift (Up.less fun _ _ h_=>h_.elim)) ⟨H_.at_ 3 rfl,fun h_=>h_⟩ ⟨H_.at_ 4 rfl,fun h_=>h_⟩ ⟨(H_.at_ 5 J).1,fun h_=>h_⟩ (by exact kP)⟩ de
 refine ca GH J (ec s0<|ec s5 e0) eU ?_
 rintro _ w9 ⟨rfl,cO⟩
 have dP:HI M w w9 (oL w 3 a3 (aZ (fun (x_:Int)=>(decide (0≤x0)&&(decide (x_=x0)||eC cn cr x0 x_))) (bL cn cr o)) c3::J7::J6::bY):=cO
 refine⟨dP.bT [4,5] aw rfl,?_⟩
 refine ke ?_
 have dG:=dP.freeze 0 J
 have kR:=xL (mn:=cn) (mr:=cr) (nd:=(aZ (fun (x_:Int)=>(decide (0≤x0)&&(decide (x_=x0)||eC cn cr x0 x_)))<|bL cn cr o)) dG.mb (hT.ext dG.below) kb (dG.rv 6 J) (dG.rv 0 J) (by exact kP)<|by exact Nat.le_trans (uk kP o _) aw
 refine ca Qf J (ec s4<|ec J e0) kR ?_
 rintro _ dD ⟨a4,c4,rfl,l4,kZ⟩
 have cC:=dP.eI<|bj.anyM kZ
 refine⟨cC.bT [5,6] aw rfl,?_⟩
 refine ke<|mv (v:=.tuple #[R a4 ((du cn cr<|aZ (fun (x_:Int)=>(decide (0≤x0)&&(decide (x_=x0)||eC cn cr x0 x_)))<|bL cn cr o).1) c4,C ((du cn cr<|aZ (fun (x_:Int)=>(decide (0≤x0)&&(decide (x_=x0)||eC cn cr x0 x_)))<|bL cn cr o).2)]) J J ?_
 refine⟨cC.bT [5,6] aw rfl,?_⟩
 refine ke<|xt J J J ?_
 refine⟨cC.bT [5,6] aw rfl,?_⟩
 refine ke<|xt J J J ?_
 refine⟨cC.bT [5,6] aw rfl,?_⟩
 refine ke<|jB (v:=R a4 ((du cn cr<|aZ (fun (x_:Int)=>(decide (0≤x0)&&(decide (x_=x0)||eC cn cr x0 x_)))<|bL cn cr o).1) c4) J J ?_
 refine⟨cC.bT [5,6] aw rfl,?_⟩
 refine ke<|jB (v:=C ((du cn cr<|aZ (fun (x_:Int)=>(decide (0≤x0)&&(decide (x_=x0)||eC cn cr x0 x_)))<|bL cn cr o).2)) J J ?_
 refine⟨cC.bT [5,6] aw rfl,?_⟩
 refine kz<|nx<|sq ?_
 refine l8 [.f,.f,.f,.f,.r,.r,.e,.e,.e,.e,.e,.e,.e] (fun w'=>HI M w w' [J4,J3]) J (by kernel_rfl) (fun _ x_=>(cC.bT (l':=[J4,J3]) [5,6] aw J).ext x_) ?_
 refine yf J (fun _ i_=>lx i_ 0 rfl FV rfl s1 rfl e3)<|yf J (fun _ _=>nc rfl rfl e3)<|yf J (fun _ _=>fa ud rfl rfl e3)<|yf J (fun _ i_=>vA i_ 1 rfl bm rfl rfl aw rfl e3)<|yq J J<|kq (fun _ _=>mv rfl s3 e1)<|zq<|yq J J<|kq (fun _ _=>mf2 rfl (W4 s2 mf0) e1)<|zq<|ye<|ye<|ye<|ye<|ye<|ye<|ye<|yz ?_
 intro eb f1 _ lM _ _ fD zL
 have dR:=cC.ext lM
 have s6:=fD 8 J
 have s7:=fD 43 J
 have s8:=fD 44 J
 have s9:=fD 45 J
 refine ke ?_
 have dB:HI M w eb ([J7]++[oL w 3 a4 ((du cn cr (aZ (fun (x_:Int)=>(decide (0≤x0)&&(decide (x_=x0)||eC cn cr x0 x_))) (bL cn cr o))).1) c4,oL w 3 a3 (aZ (fun (x_:Int)=>(decide (0≤x0)&&(decide (x_=x0)||eC cn cr x0 x_))) (bL cn cr o)) c3,J6,J5,J4,J3,J2,J1,J0]):=dR.bT [2,0,1,3,4,5,6,7,8,9] aw rfl
 have lI:=oF (dO:=a0) (dH:=c0) (xs:=(bL cn cr o)) (pY:=134) (qb:=[pV bD 0]) (p:=(fun (x_:Int)=>(!((fun (x_:Int)=>(decide (0≤x0)&&(decide (x_=x0)||eC cn cr x0 x_))) x_)))) (w:=w) (w_:=eb) (r:=[oL w 3 a4 ((du cn cr<|aZ (fun (x_:Int)=>(decide (0≤x0)&&(decide (x_=x0)||eC cn cr x0 x_)))<|bL cn cr o).1) c4,oL w 3 a3 (aZ (fun (x_:Int)=>(decide (0≤x0)&&(decide (x_=x0)||eC cn cr x0 x_)))<|bL cn cr o) c3,J6,J5,J4,J3,J2,J1,J0]) (M:=M) ⟨aeS,fun w_ qS H_ x_ sV D3=>Mi (pp:=(fun (x_:Int)=>(decide (0≤x0)&&(decide (x_=x0)||eC cn cr x0 x_)))) (M:=fun _=>False) (fun _ h_=>h_.elim) D3 ⟨XR,fun w_ v_ x_ sV e_ Gu=>by have H_:=H_.ext e_;obtain⟨_,⟨rfl,oe⟩,rfl⟩:=Gu;exact CV (fr:=x0) (I:=I) (U:=U) (cn:=cn) (cr:=cr) (M:=fun _=>False) (fun _ h_=>h_.elim) oe bq ((H_.rv 9 J).lift (Up.less fun _ _ h_=>h_.elim)) ((H_.rv 8 J).lift (Up.less fun _ _ h_=>h_.elim)) bq ((H_.rv 7 J).lift (Up.less fun _ _ h_=>h_.elim)) ⟨H_.at_ 4 rfl,fun h_=>h_⟩ ⟨H_.at_ 5 rfl,fun h_=>h_⟩ ⟨(H_.at_ 6 J).1,fun h_=>h_⟩ (by exact kP)⟩ ⟨H_.at_ 3 rfl,fun h_=>h_⟩⟩ dB
 refine ca GH J (ec s8<|ec s9 e0) lI ?_
 rintro _ ff ⟨rfl,eO⟩
 have fc:HI M w ff (oL w 3 a0 (aZ (fun (x_:Int)=>(!((fun (x_:Int)=>(decide (0≤x0)&&(decide (x_=x0)||eC cn cr x0 x_))) x_))) (bL cn cr o)) c0::oL w 3 a4 ((du cn cr (aZ (fun (x_:Int)=>(decide (0≤x0)&&(decide (x_=x0)||eC cn cr x0 x_))) (bL cn cr o))).1) c4::oL w 3 a3 (aZ (fun (x_:Int)=>(decide (0≤x0)&&(decide (x_=x0)||eC cn cr x0 x_))) (bL cn cr o)) c3::J6::bY):=eO
 refine⟨fc.bT [5,6] aw rfl,?_⟩
 refine ke ?_
 have gI:=fc.freeze 0 J
 have xy:=xL (mn:=cn) (mr:=cr) (nd:=(aZ (fun (x_:Int)=>(!((fun (x_:Int)=>(decide (0≤x0)&&(decide (x_=x0)||eC cn cr x0 x_))) x_)))<|bL cn cr o)) gI.mb (hT.ext gI.below) kb (gI.rv 7 J) (gI.rv 0 J) (by exact kP)<|by exact Nat.le_trans (uk kP o _) aw
 refine ca Qf J (ec s7<|ec J e0) xy ?_
 rintro _ hQ ⟨a5,c5,rfl,xJ,ph⟩
 have iD:=fc.eI<|bj.anyM ph
 refine⟨iD.bT [6,7] aw rfl,?_⟩
 refine ke<|mv (v:=.tuple #[R a5 ((du cn cr<|aZ (fun (x_:Int)=>(!((fun (x_:Int)=>(decide (0≤x0)&&(decide (x_=x0)||eC cn cr x0 x_))) x_)))<|bL cn cr o).1) c5,C ((du cn cr<|aZ (fun (x_:Int)=>(!((fun (x_:Int)=>(decide (0≤x0)&&(decide (x_=x0)||eC cn cr x0 x_))) x_)))<|bL cn cr o).2)]) J J ?_
 refine⟨iD.bT [6,7] aw rfl,?_⟩
 refine ke<|xt J J J ?_
 refine⟨iD.bT [6,7] aw rfl,?_⟩
 refine ke<|xt J J J ?_
 refine⟨iD.bT [6,7] aw rfl,?_⟩
 refine ke<|jB (v:=R a5 ((du cn cr<|aZ (fun (x_:Int)=>(!((fun (x_:Int)=>(decide (0≤x0)&&(decide (x_=x0)||eC cn cr x0 x_))) x_)))<|bL cn cr o).1) c5) J J ?_
 refine⟨iD.bT [6,7] aw rfl,?_⟩
 refine ke<|jB (v:=C ((du cn cr<|aZ (fun (x_:Int)=>(!((fun (x_:Int)=>(decide (0≤x0)&&(decide (x_=x0)||eC cn cr x0 x_))) x_)))<|bL cn cr o).2)) J J ?_
 refine⟨iD.bT [6,7] aw rfl,?_⟩
 refine kz<|nx<|sq ?_
 have h1_:=Q4 kP o<|fun (x_:Int)=>(decide (0≤x0)&&(decide (x_=x0)||eC cn cr x0 x_))
 have lb:=Q4 kP o<|fun (x_:Int)=>(!((fun (x_:Int)=>(decide (0≤x0)&&(decide (x_=x0)||eC cn cr x0 x_))) x_))
 refine rg<|ak J s6<|ak (v:=R a5 ((du cn cr<|aZ (fun (x_:Int)=>(!((fun (x_:Int)=>(decide (0≤x0)&&(decide (x_=x0)||eC cn cr x0 x_))) x_)))<|bL cn cr o).1) c5) J J<|k<|l9 iD 2 J J J J J J (gT<|iD.at_ 0 J) cG aW J aq J ?_
 intro a6 c6 iO (ga:HI M w iO (oL w 3 a5 ((du cn cr (aZ (fun (x_:Int)=>(!((fun (x_:Int)=>(decide (0≤x0)&&(decide (x_=x0)||eC cn cr x0 x_))) x_))) (bL cn cr o))).1) c5::oL w 3 a0 (aZ (fun (x_:Int)=>(!((fun (x_:Int)=>(decide (0≤x0)&&(decide (x_=x0)||eC cn cr x0 x_))) x_))) (bL cn cr o)) c0::oL w 3 a6 ((du cn cr (aZ (fun (x_:Int)=>(decide (0≤x0)&&(decide (x_=x0)||eC cn cr x0 x_))) (bL cn cr o))).1++(du cn cr (aZ (fun (x_:Int)=>(!((fun (x_:Int)=>(decide (0≤x0)&&(decide (x_=x0)||eC cn cr x0 x_))) x_))) (bL cn cr o))).1) c6::oL w 3 a3 (aZ (fun (x_:Int)=>(decide (0≤x0)&&(decide (x_=x0)||eC cn cr x0 x_))) (bL cn cr o)) c3::J6::bY))
 refine au (v:=R a6 ((du cn cr<|aZ (fun (x_:Int)=>(decide (0≤x0)&&(decide (x_=x0)||eC cn cr x0 x_)))<|bL cn cr o).1++(du cn cr<|aZ (fun (x_:Int)=>(!((fun (x_:Int)=>(decide (0≤x0)&&(decide (x_=x0)||eC cn cr x0 x_))) x_)))<|bL cn cr o).1) c6) J J<|av<|rt<|r1 J J ?_
 exact⟨((du cn cr<|aZ (fun (x_:Int)=>(decide (0≤x0)&&(decide (x_=x0)||eC cn cr x0 x_)))<|bL cn cr o).1++(du cn cr<|aZ (fun (x_:Int)=>(!((fun (x_:Int)=>(decide (0≤x0)&&(decide (x_=x0)||eC cn cr x0 x_))) x_)))<|bL cn cr o).1),a6,c6,J,ga.below,(ga.da 2 J),(by rw[gf];omega)⟩
theorem VZ (hM:eD M w) (hT:fQ 0 w) (cL:cw M w ay ax I) (eZ:cw M w aA az U) (kb:aK cn) (lG:cw M w dm dh cr) (tB:aK o) (oY:aK lv) (kQ:w.heap[eB]? =some (.cells #[.slice aD aF aC,R ay I ax,R aA U az,C cn,R dm cr dh] lU (0,0))∧¬M eB) (ho:gL I) (dp:I.length≤64) (eo:U.length=I.length) (fE:∀x∈U,x<((I.length:Nat):Int)) (nY:cn=((I.length:Nat):Int)) (pw:cr=cp I U) (jk:0≤o∧o<((I.length:Nat):Int)):Calls aJ 57 #[.pointer (some ⟨eB,0,none⟩),C o,C lv] w (cb fun v w'=>∃(ls:List Int) (a0:OA) (c0:Nat),v=R a0 ls c0∧Ext w w'∧bj M 3 w ls (R a0 ls c0) w'∧ls.length≤300000):=by
 refine df 15 Tryz.func57 J J J hM fun f0 ha H=>?_
 have H0:=ee H cL
 have H1:=ee H0 eZ
 have H2:=ee H1 lG
 have fM:=aP cL
 have iA:=aP eZ
 have sS:=aP lG
 have H3:=H2.put (it:=ro eB #[.slice aD aF aC,R ay I ax,R aA U az,C cn,R dm cr dh] lU) J<|by rw[aE rfl,aE rfl,aE rfl,bN];exact kQ
 have i0:f0 0=pV eB 0:=ha 0 bh
 have i1:f0 1=C o:=ha 1 bh
 have i2:f0 2=C lv:=ha 2 bh
 refine aB<|au (v:=.slice none 0 0) J J<|av<|sq<|aB<|ak J i2<|k<|eql J J J J<|z<|nx ?_
 refine cd (b:=decide (lv=3)) J J (fun b0=>?_)<|fun b0=>?_
 ·
  have p0:=dT b0
  refine aB<|ak J i0<|ak J i1<|k ?_
  have bP:=V1 (I:=I) (U:=U) (cn:=cn) (cr:=cr) (o:=o) H3.mb (hT.ext H3.below) (H3.rv 3 J) (H3.rv 2 J) kb (H3.rv 1 J) tB (H3.at_ 0 J) (by exact ho) (by exact dp) (by exact eo) (by exact fE) (by exact nY) (by exact pw) aq
  refine ca ahV J (ec J<|ec J e0) bP ?_
  rintro _ w0 ⟨o0,a0,c0,rfl,bS,cm,q0⟩
  have H4:=H3.eI cm
  refine au (v:=R a0 o0 c0) J J<|av<|rt<|aL<|r1 J J ?_
  exact⟨o0,a0,c0,J,H4.below,(H4.da 0 J),bq⟩
 have p0:=dF b0
 refine sk<|cI<|ak J i0<|ak J i1<|k ?_
 have bP:=Nl (I:=I) (U:=U) (cn:=cn) (cr:=cr) (o:=o) H3.mb (hT.ext H3.below) (H3.rv 3 J) (H3.rv 2 J) kb (H3.rv 1 J) tB (H3.at_ 0 J) (by exact ho) (by exact dp) (by exact eo) (by exact fE) (by exact nY) (by exact pw) aq
 refine ca ahU J (ec J<|ec J e0) bP ?_
 rintro _ w0 ⟨o0,a0,c0,rfl,bS,cm,q0⟩
 have H4:=H3.eI cm
 refine au (v:=R a0 o0 c0) J J<|av<|rt<|r1 J J ?_
 exact⟨o0,a0,c0,J,H4.below,(H4.da 0 J),bq⟩
theorem va:eh aJ 30 5 true 88 (.agg #[.int .i64 0,.int .i64 0,.slice none 0 0,.slice none 0 0,.slice none 0 0]):=⟨aM,aM⟩
theorem ah6:ct aJ 54:=⟨_,_,Tryz.func54,rfl,aM⟩
theorem ah5:ct aJ 55:=⟨_,_,Tryz.func55,rfl,aM⟩
theorem acQ:gM aJ 30 2 3:=⟨_,_,Tryz.underlying30,rfl,rfl,aM⟩
theorem S7:gM aJ 30 3 4:=⟨_,_,Tryz.underlying30,rfl,rfl,aM⟩
theorem aab:eh aJ 28 1 false 24 (.slice none 0 0):=⟨aM,aM⟩
theorem ah4:ct aJ 57:=⟨_,_,Tryz.func57,rfl,aM⟩
theorem agO:aJ.underlying 28=some (.slice 27):=aM
theorem VW (hM:eD M w) (hT:fQ 0 w) (cL:cw M w ay ax I) (eZ:cw M w aA az U) (fZ:aK mn) (fG:cw M w bA bz mr) (ho:gL I) (dp:I.length≤64) (eo:U.length=I.length) (fE:∀x∈U,x<((I.length:Nat):Int)) (Bt:mn=((I.length:Nat):Int)) (Bs:mr=cp I U):Calls aJ 55 #[.agg #[.slice aD aF aC,R ay I ax,R aA U az],.agg #[C mn,R bA mr bz]] w (cb fun v w'=>∃(on:Int) (om:List (List bX)) (er:Int) (a0:OA) (c0:Nat),v=.tuple #[.agg #[C on,R a0 om c0],C er]∧Ext w w'∧cw M w' a0 c0 om∧bF on om=true∧aK on∧aK er):=by
 refine df 39 Tryz.func55 J J J hM fun f0 ha H=>?_
 let J0:=iL ay I ax
 have H0:=H.put (it:=J0) J<|by rw[bN];exact cL
 let J1:=iL aA U az
 have H1:=H0.put (it:=J1) J<|by rw[aE rfl,bN];exact eZ
 let J2:=iL bA mr bz
 have H2:=H1.put (it:=J2) J<|by rw[aE rfl,aE rfl,bN];exact fG
 have fM:=aP cL
 have iA:=aP eZ
 have kA:=aP fG
 have i0:f0 0=.agg #[.slice aD aF aC,R ay I ax,R aA U az]:=ha 0 bh
 have i1:f0 1=.agg #[C mn,R bA mr bz]:=ha 1 bh
 have bU:bF mn mr=true:=by rw[Bt,Bs];exact pc U aq
 have EO:=oG bU
 refine aB<|k<|bx H2 J i0 ?_
 let bc:=[J2,J1,J0]
 intro aY w0 bS (H3:HI M w w0 (box aY #[.slice aD aF aC,R ay I ax,R aA U az] 47::bc))
 let J3:=box aY #[.slice aD aF aC,R ay I ax,R aA U az] 47
 refine k<|bx H3 J i1 ?_
 let bY:=J3::bc
 intro ba w1 cY (H4:HI M w w1 (box ba #[C mn,R bA mr bz] 26::bY))
 let J4:=box ba #[C mn,R bA mr bz] 26
 refine k<|al H4 bm ?_
 let dE:=J4::bY
 intro bD w2 eT (H5:HI M w w2 (box bD #[C 0,.slice none 0 0] 26::dE))
 let J5:=box bD #[C 0,.slice none 0 0] 26
 refine au (v:=C 0) J J<|bt<|k<|cq H5 1 J bm J J aw J<|k ?_
 have bP:=vW (mn:=mn) (mr:=mr) H5.mb fZ (H5.rv 3 J)<|by exact bU
 refine ca Qe J (ec J e0) bP ?_
 rintro _ w3 ⟨a0,c0,rfl,fB,cm⟩
 have H6:=H5.eI cm
 refine k<|al H6 bm ?_
 let iH:=oL w 144 a0 (fb mn mr) c0::J5::dE
 intro eX w4 iN (H7:HI M w w4 (box eX #[C 0,.slice none 0 0] 26::iH))
 refine k<|bp H7 0 J bm J J J J J J J ?_
 intro w5 (H8:HI M w w5 (box eX #[C mn,R a0 (fb mn mr) c0] 26::iH))
 refine av<|sq<|aB<|k<|cq H8 4 J dx J J aw J<|k<|cq H8 3 J bm J J aw J<|k ?_
 have cV:=uj (I:=I) (U:=U) (mn:=mn) (mr:=mr) (aD:=aD) (aF:=aF) (aC:=aC) H8.mb (hT.ext H8.below) (H8.rv 7 J) (H8.rv 6 J) fZ (H8.rv 5 J) aq (by exact eo) (by exact fE)<|by exact bU
 refine ca Qc J (ec J<|ec J e0) cV ?_
 rintro _ w6 ⟨a1,c1,rfl,jb,dM⟩
 have H9:=H8.eI dM
 refine k<|dW J J ei<|ak (v:=C 0) J J<|av<|bk ?_
 have dC:=H9.freeze 2 J
 let J6:=iL a0 (fb mn mr) c0
 have cT:=dC.put (it:=J6) J<|dC.rv 2 J
 let J7:=oL w 122 a1 (cE I U mn mr) c1
 let eW:=J6::J5::dE
 refine lp (fun m f w'=>∃(q_:Nat) (fS:Int) (fC:List (List bX)) (a2:OA) (c2:Nat),m=(cE I U mn mr).length-q_∧f 4=pV bD 0∧f 6=pV eX 0∧f 15=R a1 (cE I U mn mr) c1∧f 16=C ((cE I U mn mr).length:Int)∧f 17=C (q_:Int)∧HI M w w' (iL a2 fC c2::J7::box eX #[C fS,R a2 fC c2] 26::eW)∧(q_≤(cE I U mn mr).length)∧(fS=mn∧fC=lT mn (fb mn mr) ((cE I U mn mr).take q_))) _ ⟨0,mn,(fb mn mr),a0,c0,J,J,J,J,J,(bJ J),cT,aq,(by exact⟨J,J⟩)⟩ ?_
 rintro _ f0 w7 ⟨q_,fS,fC,a2,c2,rfl,s0,s1,s2,s3,s4,dt,sf,nU⟩
 refine sq ?_
 have Oo:=qE (I:=I) (U:=U) bU;have P8:=Oo.1
 have rW:=X7 eo fE Bt Bs Oo
 refine rg<|k<|lss J J s4 s3<|av<|sq ?_
 refine cd (b:=decide ((q_:Int)<((cE I U mn mr).length:Int))) J J (fun b0=>?_)<|fun b0=>?_
 ·
  have p0:=dT b0
  refine sk<|nx<|sq<|bk<|aB<|k<|ic (dt.at_ 1 J) J J s2 s4 aq ei cF ?_
  intro g0 x0 im aQ cu
  refine k<|nj cu cF J J ?_
  intro v0 dV
  obtain⟨_,⟨_,_,rfl,⟨rfl,fq⟩,⟨_,_,rfl,⟨rfl,iU⟩,⟨rfl,jO⟩⟩⟩,rfl⟩:=dV
  refine k<|al dt cF ?_
  let lg:=iL a2 fC c2::J7::box eX #[C fS,R a2 fC c2] 26::eW
  intro fP w8 kf (dw:HI M w w8 (box fP #[C 0,C 0,C 0] 122::lg))
  refine k<|bp dw 0 J cF J J J J J J J ?_
  intro w9 (cJ:HI M w w9 (box fP #[C x0.1,C x0.2.1,C x0.2.2] 122::lg))
  refine av<|rg<|k<|cq cJ 3 J bm J s1 aw J<|aU kE J J<|bl cJ 0 J aW J J J<|aU mI J J<|bl cJ 0 J aW J J J<|k ?_
  have fT:=E_ (mn:=fS) (mr:=fC) (i:=x0.1) (j:=x0.2.1) cJ.mb aV (cJ.rv 1 J) fq iU<|by exact HX Bt EO rW nU
  refine ca Vy J (ec J<|ec J<|ec J e0) fT ?_
  rintro _ dD ⟨a3,c3,rfl,l4,iT⟩
  have dS:=cJ.ext l4
  let J8:=iL a3 (gQ fS fC x0.1 x0.2.1) c3
  have de:=dS.put (it:=J8) J iT
  refine ak (v:=.tuple #[.agg #[C (gX fS x0.1 x0.2.1),R a3 (gQ fS fC x0.1 x0.2.1) c3],C (lk fS x0.1 x0.2.1)]) J J<|k<|xt J J J<|k<|xt J J J<|k<|bp de 4 J bm J J s1 J J J J ?_
  let J9:=box eX #[C (gX fS x0.1 x0.2.1),R a3 (gQ fS fC x0.1 x0.2.1) c3] 26
  intro eb (cO:HI M w eb (J8::box fP #[C x0.1,C x0.2.1,C x0.2.2] 122::iL a2 fC c2::J7::J9::eW))
  refine z<|aI<|nx<|rg<|k<|add J J s4 J aV<|ak (v:=C ((q_:Int)+1)) J J<|z ?_
  have dP:=cO.put (it:=J8) J<|cO.rv 0 J
  have dG:HI M w eb (J8::J7::J9::eW):=dP.bT [0,4,5,6,7,8,9,10,11,12] aw rfl
  refine bB _ ?_ ⟨(q_+1),(gX fS x0.1 x0.2.1),(gQ fS fC x0.1 x0.2.1),a3,c3,J,s0,s1,s2,s3,(bJ J),dG,aq,(by exact Bd nU aQ (KA Bt rW aQ))⟩
  omega
 have p0:=dF b0
 refine ex<|aX<|bf<|bg<|nx<|sq<|aB<|k<|cq dt 2 J bm J s1 aw J<|k ?_
 have fT:=yd (mn:=fS) (mr:=fC) dt.mb aV (dt.rv 0 J)<|by exact HX Bt EO rW nU
 refine ca Qd J (ec J e0) fT ?_
 rintro _ w8 ⟨rfl,kf⟩
 have dw:=dt.ext kf
 refine ak (v:=.tuple #[C (((cM fS fC).getD 0:Nat):Int),.bool ((cM fS fC).isSome)]) J J<|k<|xt J J J<|k<|xt J J J<|au (v:=C (((cM fS fC).getD 0:Nat):Int)) J J<|au (v:=.bool ((cM fS fC).isSome)) J J<|bt<|ak (v:=.bool ((cM fS fC).isSome)) J J<|z<|nx ?_
 refine cd (b:=(cM fS fC).isSome) J J (fun b1=>?_)<|fun b1=>?_
 ·
  refine aB<|k<|bd (v:=.agg #[C 0,.slice none 0 0]) J ey (fun _=>aM)<|k<|bp dw 4 J bm J J s0 J J J J ?_
  intro w9 (cJ:HI M w w9 (iL a2 fC c2::J7::box eX #[C fS,R a2 fC c2] 26::eW))
  refine au (v:=C 7) J J<|av<|rt<|aL<|ib cJ 4 J bm J J J s0 J aw ?_
  exact⟨0,([]:List (List bX)),7,none,0,J,cJ.below,(d_ _ _),(by exact Rq),(by exact E9),(by unfold aK;omega)⟩
 refine sk<|cI<|k<|cq dw 2 J bm J s1 aw J<|k<|bp dw 4 J bm J J s0 J J J J ?_
 intro w9 (cJ:HI M w w9 (iL a2 fC c2::J7::box eX #[C fS,R a2 fC c2] 26::J6::box bD #[C fS,R a2 fC c2] 26::dE))
 refine au (v:=C 0) J J<|av<|rt<|ib cJ 4 J bm J J J s0 J aw ?_
 exact⟨fS,fC,0,a2,c2,J,cJ.below,(cJ.fg 0 J),(by exact HX Bt EO rW nU),(by rw[nU.1];assumption),(by exact E9)⟩
theorem QB (oY:aK lv) (hT:fQ 0 w) (ho:gL I) (dp:I.length≤64) (eo:U.length=I.length) (fE:∀x∈U,x<((I.length:Nat):Int)) (LF:lv=1∨lv=2∨lv=3) (Xv:fN I U lv=none) (H:HI M w w_ ([iL ay I ax,iL aA U az]++r)):Calls aJ 54 #[.agg #[.slice aD aF aC,R ay I ax,R aA U az],C lv] w_ (cb fun v w'=>∃(X_:Nat) (a0:OA) (c0:Nat),v=.tuple #[pV X_ 0,C 0]∧HI M w w' ([box X_ #[.slice aD aF aC,R ay I ax,R aA U az,C ((I.length:Nat):Int),.slice a0 (cp I U).length c0] 107,iL a0 (cp I U) c0,iL ay I ax,iL aA U az]++r)):=by
 refine enter 25 Tryz.func54 J J J fun f0 ha=>?_
 have fM:=aP<|H.rv 0 J
 have iA:=aP<|H.rv 1 J
 have i0:f0 0=.agg #[.slice aD aF aC,R ay I ax,R aA U az]:=ha 0 bh
 have i1:f0 1=C lv:=ha 1 bh
 refine aB<|k<|bx H J i0 ?_
 let J1:=iL ay I ax
 let J2:=iL aA U az
 intro aY w0 bS (H0:HI M w w0 ([box aY #[.slice aD aF aC,R ay I ax,R aA U az] 47,J1,J2]++r))
 let J0:=box aY #[.slice aD aF aC,R ay I ax,R aA U az] 47
 refine au (v:=.pointer none) J J<|au (v:=C 0) J J<|av<|sq<|aB<|k<|cq H0 0 J dx J J aw J<|ak J i1<|k ?_
 have bP:=xA (I:=I) (U:=U) (lv:=lv) (aD:=aD) (aF:=aF) (aC:=aC) H0.mb (hT.ext H0.below) (H0.rv 1 J) (H0.rv 2 J) oY (by exact ho) (by exact dp) (by exact eo) (by exact fE)<|by exact LF
 refine ca L1 J (ec J<|ec J e0) bP ?_
 rintro _ w1 ⟨o0,o1,o2,o3,o4,o5,o6,rfl,cY,q0⟩
 have H1:=H0.ext cY
 refine ak (v:=.tuple #[.agg #[C o0,C o1,C o2,C o3,C o4,.slice none 0 0,C o5,C o6],C (dL I U lv)]) J J<|k<|xt J J J<|k<|xt J J J<|k<|al H1 bM ?_
 intro ba w2 eT (H2:HI M w w2 ([box ba #[C 0,C 0,C 0,C 0,C 0,.slice none 0 0,C 0,C 0] 33,J0,J1,J2]++r))
 refine k<|bp H2 0 J bM J J J J J J J ?_
 let J3:=box ba #[C o0,C o1,C o2,C o3,C o4,.slice none 0 0,C o5,C o6] 33
 intro w3 (H3:HI M w w3 ([J3,J0,J1,J2]++r))
 refine au (v:=C (dL I U lv)) J J<|bt<|ak (v:=C (dL I U lv)) J J<|av<|bk<|aB<|k<|eql J J J J<|au (v:=.bool (decide ((dL I U lv)=1))) J J<|z<|nx ?_
 have Bi:(decide ((dL I U lv)=1))=false:=(by rw[amy];unfold dL;rw[Xv];decide)
 refine nP J J Bi<|aB<|k<|eql J J J J<|au (v:=.bool (decide ((dL I U lv)=0))) J J<|z<|nx ?_
 have Kq:(decide ((dL I U lv)=0))=false:=(by rw[amy];unfold dL;rw[Xv];decide)
 refine nP J J Kq<|sk<|aI<|nx<|sq ?_
 refine l8 [.r,.r,.r,.r,.e,.e,.s] (fun _=>True) J (by kernel_rfl) (fun _ _=>trivial) ?_
 refine yq J J<|kq (fun _ x_=>cq (H3.ext x_) 1 rfl dx rfl rfl aw rfl e1)<|zq<|yq J J<|kq (fun _ x_=>cq (H3.ext x_) 1 rfl dx rfl rfl aw rfl e1)<|zq ?_
 refine yu J (fun _ v w'=>∃(a0:OA) (c0:Nat),v=.agg #[C (I.length:Int),R a0 (cp I U) c0]∧RV H3.fW w' (R a0 (cp I U) c0) (cp I U)) J jd J (fun v_ _ x_ _=>have fT:=A' (I:=I) (U:=U) (aD:=aD) (aF:=aF) (aC:=aC) (w:=v_) (H3.ext x_).mb ((H3.ext x_).rv 2 rfl) ((H3.ext x_).rv 3 rfl) (by exact ho) aq (by exact eo) (by exact fE);ca Qg rfl (ec J e0) fT (fun _ w5 ⟨a1,c1,e_,iN,dM⟩=>⟨_,J,iN,⟨a1,c1,e_,dM⟩⟩)) ?_
 refine lq J (fun _ v w'=>∃(a2:OA) (c2:Nat),v=.agg #[.slice aD aF aC,R ay I ax,R aA U az,C (I.length:Int),R a2 (cp I U) c2]∧RV H3.fW w' (R a2 (cp I U) c2) (cp I U)) 0 J J jd J (fun _ _ _ _ _ h_=>let ⟨a3,c3,s0,fq⟩:=h_;bd (v:=.agg #[.slice aD aF aC,R ay I ax,R aA U az,C (I.length:Int),R a3 (cp I U) c3]) rfl (cj J<|cj s0 ey) (fun _=>aM) ⟨_,J,Ext.refl _,⟨a3,c3,J,fq⟩⟩) ?_
 refine ye<|ye<|yq J J<|kq (fun _ _=>jB (v:=C 0) rfl rfl e1)<|zq<|yz ?_
 intro w6 f0 _ jb _ _ cz iC
 have cJ:=H3.ext jb
 have s1:=cz 5 J
 obtain⟨a4,c4,s2,iU⟩:=iC 0 _ _ rfl
 let J4:=iL a4 (cp I U) c4
 have dS:=cJ.put (it:=J4) J iU
 refine jZ<|bx dS J s2 ?_
 intro bD w7 kf (cO:HI M w w7 ([box bD #[.slice aD aF aC,R ay I ax,R aA U az,C (I.length:Int),R a4 (cp I U) c4] 107,J4,J3,J0,J1,J2]++r))
 let J5:=box bD #[.slice aD aF aC,R ay I ax,R aA U az,C (I.length:Int),R a4 (cp I U) c4] 107
 refine jZ<|jB (v:=pV bD 0) J J<|kz<|nx<|rt<|r2 J J J ?_
 try simp only[cU,b9]
 rw[s1]
 have dP:=HI.aR (l:=[J5,J4,J3,J0,J1,J2]) (l':=[J5,J4,J1,J2]) (t:=r) cO [0,1,4,5] aw J J
 have e0:((I.length:Int):Int)=((I.length:Nat):Int):=rfl
 try rw[←e0]
 refine⟨bD,a4,c4,?_,?_⟩
 · first|rfl|simp only[e0]|(simp only[ami])
 · first|exact dP|simpa +zetaDelta only[e0,ami] using dP
theorem Tw (hM:eD M w) (hT:fQ 0 w) (cL:cw M w ay ax I) (eZ:cw M w aA az U) (oY:aK lv) (ho:gL I) (dp:I.length≤64) (eo:U.length=I.length) (fE:∀x∈U,x<((I.length:Nat):Int)) (LF:lv=1∨lv=2∨lv=3) (Xv:fN I U lv=none):Calls aJ 30 #[.agg #[.slice aD aF aC,R ay I ax,R aA U az],C lv] w (cb fun v w'=>∃(cn_:Int) (cm_:List (List bX)) (co_:List Int) (cs_:List (List Int)) (a0:OA) (c0:Nat) (a1:OA) (c1:Nat) (a2:OA) (c2:Nat),v=.tuple #[.agg #[C lv,C cn_,R a0 cm_ c0,R a1 co_ c1,R a2 cs_ c2],C 0]∧Ext w w'∧cw M w' a0 c0 cm_∧cw M w' a1 c1 co_∧cw M w' a2 c2 cs_):=by
 refine df 80 Tryz.func30 J J J hM fun f0 ha H=>?_
 let J0:=iL ay I ax
 have H0:=H.put (it:=J0) J<|by rw[bN];exact cL
 let J1:=iL aA U az
 have H1:=H0.put (it:=J1) J<|by rw[aE rfl,bN];exact eZ
 have fM:=aP cL
 have iA:=aP eZ
 have i0:f0 0=.agg #[.slice aD aF aC,R ay I ax,R aA U az]:=ha 0 bh
 have i1:f0 1=C lv:=ha 1 bh
 have kP:bF ((I.length:Nat):Int) (cp I U)=true:=pc U aq
 refine aB<|k<|bx H1 J i0 ?_
 intro aY w0 bS (H2:HI M w w0 [box aY #[.slice aD aF aC,R ay I ax,R aA U az] 47,J1,J0])
 let J2:=box aY #[.slice aD aF aC,R ay I ax,R aA U az] 47
 refine k<|al H2 va ?_
 intro ba w1 cY (H3:HI M w w1 [box ba #[C 0,C 0,.slice none 0 0,.slice none 0 0,.slice none 0 0] 30,J2,J1,J0])
 let J3:=box ba #[C 0,C 0,.slice none 0 0,.slice none 0 0,.slice none 0 0] 30
 refine au (v:=C 0) J J<|bt<|k<|cq H3 1 J dx J J aw J<|ak J i1<|k ?_
 have H4:HI M w w1 ([J0,J1]++[J3,J2]):=H3.bT [3,2,0,1] aw rfl
 have bP:=QB (aD:=aD) (aF:=aF) (aC:=aC) (ay:=ay) (ax:=ax) (I:=I) (aA:=aA) (az:=az) (U:=U) (lv:=lv) (w:=w) (w_:=w1) (r:=[J3,J2]) (M:=M) oY hT (by exact ho) (by exact dp) (by exact eo) (by exact fE) (by exact LF) (by exact Xv) H4
 refine ca ah6 J (ec J<|ec J e0) bP ?_
 rintro _ w2 ⟨bD,a0,c0,rfl,H5⟩
 let J4:=box bD #[.slice aD aF aC,R ay I ax,R aA U az,C ((I.length:Nat):Int),R a0 (cp I U) c0] 107
 let J5:=iL a0 (cp I U) c0
 let bc:=[J4,J5,J0,J1,J3,J2]
 have H6:HI M w w2 bc:=H5
 refine ak (v:=.tuple #[pV bD 0,C 0]) J J<|k<|xt J J J<|k<|xt J J J<|au (v:=pV bD 0) J J<|au (v:=C 0) J J<|av<|sq<|aB<|ak (v:=C 0) J J<|k<|neq J J J J<|av<|nP J J aw<|sk<|cI<|ak J i1<|ak (v:=pV bD 0) J J<|k<|nc J J<|aU ud J J<|k<|cq H6 0 J bm J J aw J<|k<|bd (v:=.agg #[C lv,C ((I.length:Nat):Int),R a0 (cp I U) c0,.slice none 0 0,.slice none 0 0]) J (cj J<|cj J ey) (fun _=>aM)<|k<|al H6 va ?_
 intro eX w3 eT (H7:HI M w w3 (box eX #[C 0,C 0,.slice none 0 0,.slice none 0 0,.slice none 0 0] 30::bc))
 refine k<|bp H7 0 J va J J J J J J J ?_
 let J6:=box eX #[C lv,C ((I.length:Nat):Int),R a0 (cp I U) c0,.slice none 0 0,.slice none 0 0] 30
 intro w4 (H8:HI M w w4 (J6::bc))
 refine av<|sq<|aB<|ak J i1<|k<|eql J J J J<|z<|nx ?_
 refine cd (b:=decide (lv=2)) J J (fun b0=>?_)<|fun b0=>?_
 ·
  have p0:=dT b0
  refine sq ?_
  refine l8 [.r,.r,.r,.r,.r,.r,.r,.r,.s,.n,.e,.s] (fun _=>True) J (by kernel_rfl) (fun _ _=>trivial) ?_
  refine yq J J<|kq (fun _ x_=>cq (H8.ext x_) 6 rfl dx rfl rfl aw rfl e1)<|zq<|yq J J<|kq (fun _ _=>mv (v:=pV bD 0) rfl rfl e1)<|zq<|yq J J<|kq (fun _ _=>nc rfl rfl e1)<|zq<|yq J J<|kq (fun _ _=>fa ud rfl rfl e1)<|zq<|yq J J<|kq (fun _ x_=>cq (H8.ext x_) 1 rfl bm rfl rfl aw rfl e1)<|zq ?_
  refine yu J (fun N v w'=>∃(o0:Int) (o1:List (List bX)) (o2:Int) (a1:OA) (c1:Nat),v=.tuple #[.agg #[C o0,R a1 o1 c1],C o2]∧bF o0 o1=true∧aK o0∧aK o2∧RV (MN H8.fW N) w' (R a1 o1 c1) o1) J ⟨by rintro _ _ _ _ x_ ⟨o0,o1,o2,a1,c1,e_,q0,q1,q2,dM⟩;exact⟨o0,o1,o2,a1,c1,e_,q0,q1,q2,dM.lift (Up.ext x_)⟩,by rintro _ _ _ _ _ k_ ⟨o0,o1,o2,a1,c1,e_,q0,q1,q2,dM⟩;exact⟨o0,o1,o2,a1,c1,e_,q0,q1,q2,gR dM k_⟩⟩ J (fun v_ _ x_ n_=>have fT:=VW (I:=I) (U:=U) (mn:=((I.length:Nat):Int)) (mr:=(cp I U)) (aD:=aD) (aF:=aF) (aC:=aC) (w:=v_) (kx H8.mb x_ n_) (hT.ext (H8.below.trans x_)) (j3 (H8.rv 3 J) x_ n_) (j3 (H8.rv 4 J) x_ n_) aV (j3 (H8.rv 2 J) x_ n_) (by exact ho) (by exact dp) (by exact eo) (by exact fE) (by rfl) (by rfl);ca ah5 rfl (ec J<|ec J e0) fT (fun _ w6 ⟨o3,o4,o5,a2,c2,e_,iN,dV,q3,q4,q5⟩=>⟨_,J,iN,⟨o3,o4,o5,a2,c2,e_,q3,q4,q5,dV⟩⟩)) ?_
  refine lq J (fun N v w'=>∃(o6:Int) (o7:List (List bX)) (o8:Int) (a3:OA) (c3:Nat),v=.tuple #[.agg #[C o6,R a3 o7 c3],C o8]∧bF o6 o7=true∧aK o6∧aK o8∧RV (MN H8.fW N) w' (R a3 o7 c3) o7) 0 J J ⟨by rintro _ _ _ _ x_ ⟨o6,o7,o8,a3,c3,e_,q6,q7,q8,fq⟩;exact⟨o6,o7,o8,a3,c3,e_,q6,q7,q8,fq.lift (Up.ext x_)⟩,by rintro _ _ _ _ _ k_ ⟨o6,o7,o8,a3,c3,e_,q6,q7,q8,fq⟩;exact⟨o6,o7,o8,a3,c3,e_,q6,q7,q8,gR fq k_⟩⟩ J (fun _ _ _ _ _ h_=>let ⟨o9,kv,fF,a4,c4,s0,q9,ux,wK,iU⟩:=h_;mv rfl s0 ⟨_,J,Ext.refl _,⟨o9,kv,fF,a4,c4,J,q9,ux,wK,iU⟩⟩) ?_
  refine lq J (fun N v w'=>∃(jR:Int) (wP:List (List bX)) (a5:OA) (c5:Nat),v=.agg #[C jR,R a5 wP c5]∧bF jR wP=true∧aK jR∧RV (MN H8.fW N) w' (R a5 wP c5) wP) 0 J J ⟨by rintro _ _ _ _ x_ ⟨jR,wP,a5,c5,e_,DW,uw,jO⟩;exact⟨jR,wP,a5,c5,e_,DW,uw,jO.lift (Up.ext x_)⟩,by rintro _ _ _ _ _ k_ ⟨jR,wP,a5,c5,e_,DW,uw,jO⟩;exact⟨jR,wP,a5,c5,e_,DW,uw,gR jO k_⟩⟩ J (fun _ _ _ _ _ h_=>let ⟨Gb,o16,Ch,a6,c6,s1,B6,B5,xP,iT⟩:=h_;xt rfl s1 rfl ⟨_,J,Ext.refl _,⟨Gb,o16,a6,c6,J,B6,B5,iT⟩⟩) ?_
  refine lq J (fun _ v _=>∃(RX:Int),v=C RX∧aK RX) 1 J J mE J (fun _ _ _ _ _ h_=>let ⟨WY,N0,K8,a8,c8,s2,DV,q22,KT,oe⟩:=h_;xt rfl s2 rfl ⟨_,J,Ext.refl _,⟨K8,J,KT⟩⟩) ?_
  refine yn (z:=#[C 0,.slice none 0 0]) J J (fun _=>OW bm)<|ye ?_
  refine lq J (fun _ v _=>∃(j4:Int),v=C j4∧aK j4) 1 J J mE J (fun _ _ _ _ _ h_=>let ⟨vw,s3,q25⟩:=h_;jB rfl s3 ⟨_,J,Ext.refl _,⟨vw,J,q25⟩⟩) ?_
  refine yz ?_
  intro w7 f0 _ jb _ _ cz iC
  obtain⟨Ad,s4,CC,sj,Br⟩:=iC 1 _ _ rfl
  have px:=ON (z:=#[C 0,.slice none 0 0]) (T:=26) CC sj Br<|OO
  have dw:HI M w w7 (box Ad #[C 0,.slice none 0 0] 26::J6::bc):=H8.Dr jb px (N4 N3 N5)
  have s5:=cz 2 J
  have s6:=cz 4 J
  have s7:=cz 8 J
  obtain⟨nJ,ou,a9,c9,s8,q26,q27,ph⟩:=iC 3 _ _ rfl
  let J7:=iL a9 ou c9
  have cJ:=dw.put (it:=J7) J<|rR ph px
  refine jZ<|bp cJ 1 J bm J J s4 s8 J J J ?_
  let J8:=box Ad #[C nJ,R a9 ou c9] 26
  let bY:=J7::J8::J6::bc
  intro w8 (dS:HI M w w8 bY)
  refine kz<|cI<|aU fy J s5<|bl dS 8 J iR J J J<|k<|dW J J jn<|k<|mk (m:=I.length) (zx:=(0:Int)) dS J J J J cG aW (fun _ _=>⟨J,by unfold aK;omega⟩) aq aq ?_
  intro g0 w9 kf (de:HI M w w9 (own w.heap.size 3 (.slice (some ⟨g0,0,none⟩) I.length I.length) (List.replicate I.length (0:Int))::bY))
  refine au (v:=R (some ⟨g0,0,none⟩) I I.length) J J<|av<|sq<|aB<|ak (v:=R (some ⟨g0,0,none⟩) I I.length) J J<|k<|dW J J cG<|ak (v:=C 0) J J<|av<|bk ?_
  let dE:=[J5,J0,J1,J3,J2]
  refine lp (fun m f w'=>∃(j_:Nat) (nF:List Int),m=I.length-j_∧f 4=pV ba 0∧f 8=pV eX 0∧f 9=pV Ad 0∧f 11=R (some ⟨g0,0,none⟩) I I.length∧f 46=C (I.length:Int)∧f 47=C (j_:Int)∧HI M w w' (own w.heap.size 3 (.slice (some ⟨g0,0,none⟩) I.length I.length) nF::J7::J8::box eX #[C lv,C ((I.length:Nat):Int),R a0 (cp I U) c0,.slice none 0 0,.slice none 0 0] 30::box bD #[.slice aD aF aC,R ay I ax,R aA U az,C ((I.length:Nat):Int),R a0 (cp I U) c0] 107::dE)∧(j_≤I.length)∧(nF.length=I.length)) _ ⟨0,(List.replicate I.length 0),J,s6,s7,s4,J,J,(bJ J),de,aq,(by exact nX ..)⟩ ?_
  rintro _ f1 dD ⟨j_,nF,rfl,s9,ej,eY,fK,fJ,gx,cO,pt,ag9⟩
  refine aB<|k<|lss J J gx fJ<|av<|sq ?_
  refine cd (b:=decide ((j_:Int)<(I.length:Int))) J J (fun b1=>?_)<|fun b1=>?_
  ·
   have p1:=dT b1
   refine sk<|nx<|sq<|bk<|aB<|ak J gx<|au (v:=C (j_:Int)) J J<|av<|rg<|ak J fK<|ak (v:=C (j_:Int)) J J<|ak (v:=C (j_:Int)) J J<|k<|ic (cO.at_ 0 J) J J J J aq cG aW ?_
   intro g1 x0 im aQ cu
   refine k<|pR cO 0 J im J aq aW J J J J (RV.int.2 ⟨J,aV⟩) ?_
   intro eb (dP:HI M w eb (own w.heap.size 3 (.slice (some ⟨g0,0,none⟩) I.length I.length) (nF.set ((j_:Int).toNat) (j_:Int))::bY))
   refine z<|aI<|nx<|rg<|k<|add J J gx J aV<|ak (v:=C ((j_:Int)+1)) J J<|z ?_
   refine bB _ ?_ ⟨(j_+1),(nF.set ((j_:Int).toNat) (j_:Int)),J,s9,ej,eY,fK,fJ,(bJ J),dP,aq,(by rw[ami];exact ag9)⟩
   omega
  have p1:=dF b1
  refine ex<|aX<|bf<|bg<|cI<|k<|cq cO 2 J bm J eY aw J<|ak J fK<|k ?_
  have Td:(I.length:Nat)=nF.length:=K1 (cO.at_ 0 rfl)
  have dP:HI M w dD (oL w 3 (some ⟨g0,0,none⟩) nF I.length::bY):=by simpa +zetaDelta only[oL,R,Td] using cO
  have dG:=dP.freeze 0 J
  have eU:=xL (mn:=nJ) (mr:=ou) (nd:=nF) dG.mb (hT.ext dG.below) bq (dG.rv 1 J) (dG.rv 0 J) bq aq
  refine ca Qf J (ec J<|ec (Eq.trans (b:=(.slice (some ⟨g0,0,none⟩) I.length I.length:Value)) rfl (amh (fun n_=>Value.slice (some ⟨g0,0,none⟩) n_ I.length) Td)) e0) eU ?_
  rintro _ eb ⟨iZ,iY,rfl,l4,rb⟩
  have cC:=cO.eI<|bj.anyM rb
  refine ak (v:=.tuple #[R iZ ((du nJ ou nF).1) iY,C ((du nJ ou nF).2)]) J J<|k<|xt J J J<|k<|xt J J J<|aU acQ J ej<|k<|bp cC 4 J qe J J J J J J J ?_
  let J9:=own w.heap.size 3 (.slice (some ⟨g0,0,none⟩) I.length I.length) nF
  let dK:=box eX #[C lv,C ((I.length:Nat):Int),R a0 (cp I U) c0,R iZ ((du nJ ou nF).1) iY,.slice none 0 0] 30
  intro ff (dR:HI M w ff (oL w 3 iZ ((du nJ ou nF).1) iY::J9::J7::J8::dK::bc))
  refine bt<|k<|cq dR 4 J va J ej aw J<|k<|bp dR 9 J va J J s9 J J J J ?_
  intro hQ (dB:HI M w hQ [oL w 3 iZ ((du nJ ou nF).1) iY,J9,J7,J8,dK,J4,J5,J0,J1,box ba #[C lv,C ((I.length:Nat):Int),R a0 (cp I U) c0,R iZ ((du nJ ou nF).1) iY,.slice none 0 0] 30,J2])
  refine au (v:=C 0) J J<|av<|rt<|aL<|ib dB 9 J va J J J s9 J aw ?_
  have e2:(cp I U:List (List bX))=(cp I U):=rfl
  have e3:((du nJ ou nF).1:List Int)=((du nJ ou nF).1):=rfl
  have bo:=nr (fun (gv:List (List bX)) (ly:List Int)=>(.tuple #[.agg #[C lv,C ((I.length:Nat):Int),.slice a0 gv.length c0,.slice iZ ly.length iY,.slice none ([]:List (List Int)).length 0],C 0]:Value)) e2 e3
  exact⟨((I.length:Nat):Int),(cp I U),((du nJ ou nF).1),([]:List (List Int)),a0,c0,iZ,iY,none,0,bo,dB.below,(amh (fun (x_:List (List bX))=>RV _ _ (.slice a0 x_.length c0) x_) e2).mp (dB.fg 6 J),(amh (fun (x_:List Int)=>RV _ _ (.slice iZ x_.length iY) x_) e3).mp (dB.me 0 J),(d_ _ _)⟩
 have p0:=dF b0
 refine sk<|nx<|sq<|aB<|aU fy J J<|bl H8 6 J iR J J J<|k<|dW J J jn<|ak (v:=C 0) J J<|av<|bk ?_
 have H9:=H8.re (List Int) 27
 let iH:=[J5,J0,J1,J3,J2]
 refine lp (fun m f w'=>∃(j_:Nat) (vt:List (List Int)) (a1:OA) (c1:Nat),m=I.length-j_∧f 1=C lv∧f 4=pV ba 0∧f 6=pV bD 0∧f 8=pV eX 0∧f 65=C (I.length:Int)∧f 66=C (j_:Int)∧HI M w w' (oL w 27 a1 vt c1::box eX #[C lv,C ((I.length:Nat):Int),R a0 (cp I U) c0,.slice none 0 0,R a1 vt c1] 30::box bD #[.slice aD aF aC,R ay I ax,R aA U az,C ((I.length:Nat):Int),R a0 (cp I U) c0] 107::iH)∧(j_≤I.length)∧(vt.length≤j_)) _ ⟨0,([]:List (List Int)),none,0,J,i1,J,J,J,J,(bJ J),H9,aq,(by exact amk _)⟩ ?_
 rintro _ f0 w5 ⟨j_,vt,a1,c1,rfl,s0,s1,s2,s3,s4,s5,dC,pt,HG⟩
 refine aB<|k<|lss J J s5 s4<|av<|sq ?_
 refine cd (b:=decide ((j_:Int)<(I.length:Int))) J J (fun b1=>?_)<|fun b1=>?_
 ·
  have p1:=dT b1
  refine sk<|nx<|sq<|bk<|aB<|ak J s5<|au (v:=C (j_:Int)) J J<|z<|nx ?_
  refine l8 [.r,.r,.r,.r,.r,.r,.r,.e,.f,.e] (fun _=>True) J (by kernel_rfl) (fun _ _=>trivial) ?_
  refine yq J J<|kq (fun _ _=>fa S7 rfl s3 e1)<|zq<|yq J J<|kq (fun _ x_=>lx (dC.ext x_) 1 rfl aab rfl rfl rfl e1)<|zq<|yq J J<|kq (fun _ _=>mv rfl s2 e1)<|zq<|yq J J<|kq (fun _ _=>mv (v:=C (j_:Int)) rfl rfl e1)<|zq<|yq J J<|kq (fun _ _=>mv rfl s0 e1)<|zq ?_
  refine yu J (fun _ v w'=>∃(o0:List Int) (a2:OA) (c2:Nat),v=R a2 o0 c2∧o0.length≤300000∧RV (fun c_=>c_<w5.heap.size) w' (R a2 o0 c2) o0) J (mN<|by rintro _ _ _ x_ ⟨o0,a2,c2,e_,q0,dM⟩;exact⟨o0,a2,c2,e_,q0,dM.lift (Up.ext x_)⟩) J (fun v_ _ x_ _=>have fT:=VZ (I:=I) (U:=U) (cn:=((I.length:Nat):Int)) (cr:=(cp I U)) (o:=(j_:Int)) (lv:=lv) (w:=v_) (M:=fun _=>False) (fun _ h_=>h_.elim) (hT.ext (dC.ext x_).below) (((dC.ext x_).rv 4 rfl).lift (Up.less fun _ _ h_=>h_.elim)) (((dC.ext x_).rv 5 rfl).lift (Up.less fun _ _ h_=>h_.elim)) aV (((dC.ext x_).rv 3 rfl).lift (Up.less fun _ _ h_=>h_.elim)) aV oY ⟨(dC.ext x_).at_ 2 rfl,fun h_=>h_⟩ (by exact ho) (by exact dp) (by exact eo) (by exact fE) (by rfl) (by rfl) aq;ca ah4 rfl (ec J<|ec J<|ec J e0) fT (fun _ w7 ⟨o1,a3,c3,e_,iN,dV,q1⟩=>⟨_,J,iN,⟨o1,a3,c3,e_,q1,(bj.rvN dV x_)⟩⟩)) ?_
  refine lq J (fun _ v w'=>∃(o2:List Int) (a5:OA) (c5:Nat),v=R a5 ([o2]:List (List Int)) c5∧o2.length≤300000∧RV dC.fW w' (R a5 ([o2]:List (List Int)) c5) ([o2]:List (List Int))) 0 J J (mN<|by rintro _ _ _ x_ ⟨o2,a5,c5,e_,q2,jO⟩;exact⟨o2,a5,c5,e_,q2,jO.lift (Up.ext x_)⟩) J (fun v_ N_ u_ x_ n_ h_=>?_) ?_
  ·
   have cC:=dC.ext x_
   obtain⟨o3,a6,c6,s6,q3,iT⟩:=h_
   have dR:=cC.put (it:=iL a6 o3 c6) J<|KK iT dC
   refine bs (xs:=([o3]:List (List Int))) (cells:=#[R a6 o3 c6]) (e:=27) dR J (cj s6 ey) (fun _=>aM) ⟨[R a6 o3 c6],[],J,⟨_,J,RV.list.1 (dR.rv 0 J)⟩,J⟩ J aw ?_
   intro g1 w9 kf (dB:HI M w w9 (own w.heap.size 27 (.slice (some ⟨g1,0,none⟩) 1 1) ([o3]:List (List Int))::iL a6 o3 c6::oL w 27 a1 vt c1::box eX #[C lv,C ((I.length:Nat):Int),R a0 (cp I U) c0,.slice none 0 0,R a1 vt c1] 30::bc))
   have eO:=dB.freeze 0 J
   exact⟨_,J,kf,⟨o3,(some ⟨g1,0,none⟩),1,J,q3,(mG J<|mG J<|eO.rv 0 J)⟩⟩
  refine ye<|yf J (fun _ _=>fa S7 rfl s3 e3)<|ye<|yz ?_
  intro dD f1 _ l4 _ _ cz iC
  have fc:=dC.ext l4
  have s7:=(cz 1 J).trans s0
  have s8:=(cz 4 J).trans s1
  have s9:=(cz 6 J).trans s2
  have ej:=(cz 8 J).trans s3
  have eY:=(cz 65 J).trans s4
  have fK:=(cz 66 J).trans s5
  have fJ:=cz 70 J
  obtain⟨o4,a7,c7,gx,q4,kZ⟩:=iC 0 _ _ rfl
  let ez:=iL a7 ([o4]:List (List Int)) c7
  have gI:=fc.put (it:=ez) J kZ
  have gP:=cz 77 J
  refine jZ<|l9 gI 1 J J J J fJ gx (gI.rv 0 J).src agO qe J (by simp only[iB,gm];omega) J ?_
  intro a8 c8 eb (iD:HI M w eb (ez::oL w 27 a8 (vt++([o4]:List (List Int))) c8::box eX #[C lv,C ((I.length:Nat):Int),R a0 (cp I U) c0,.slice none 0 0,R a1 vt c1] 30::bc))
  refine jZ<|bp iD 2 J aab J J gP J J J J ?_
  let fR:=box eX #[C lv,C ((I.length:Nat):Int),R a0 (cp I U) c0,.slice none 0 0,R a8 (vt++([o4]:List (List Int))) c8] 30
  let eW:=oL w 27 a8 (vt++([o4]:List (List Int))) c8::fR::bc
  intro ff (ga:HI M w ff (ez::eW))
  refine kz<|aI<|nx<|rg<|k<|add J J fK J aV<|ak (v:=C ((j_:Int)+1)) J J<|z ?_
  have lL:=ga.put (it:=J5) J<|ga.rv 4 J
  have il:HI M w ff eW:=lL.bT [2,3,4,0,6,7,8,9] aw rfl
  refine bB _ ?_ ⟨(j_+1),(vt++([o4]:List (List Int))),a8,c8,J,s7,s8,s9,ej,eY,(bJ J),il,aq,(by rw[gf,iB,gm];omega)⟩
  omega
 have p1:=dF b1
 refine ex<|aX<|bf<|bg<|cI<|k<|cq dC 1 J va J s3 aw J<|k<|bp dC 6 J va J J s1 J J J J ?_
 intro w6 (cT:HI M w w6 [oL w 27 a1 vt c1,box eX #[C lv,C ((I.length:Nat):Int),R a0 (cp I U) c0,.slice none 0 0,R a1 vt c1] 30,J4,J5,J0,J1,box ba #[C lv,C ((I.length:Nat):Int),R a0 (cp I U) c0,.slice none 0 0,R a1 vt c1] 30,J2])
 refine au (v:=C 0) J J<|av<|rt<|ib cT 6 J va J J J s1 J aw ?_
 have e2:(cp I U:List (List bX))=(cp I U):=rfl
 have bo:=iq (fun (gv:List (List bX))=>(.tuple #[.agg #[C lv,C ((I.length:Nat):Int),.slice a0 gv.length c0,.slice none ([]:List Int).length 0,.slice a1 vt.length c1],C 0]:Value)) e2
 exact⟨((I.length:Nat):Int),(cp I U),([]:List Int),vt,a0,c0,none,0,a1,c1,bo,cT.below,(amh (fun (x_:List (List bX))=>RV _ _ (.slice a0 x_.length c0) x_) e2).mp (cT.fg 3 J),(d_ _ _),(cT.me 0 J)⟩
theorem Eh (oY:aK lv):Calls aJ 21 #[C lv] w (cb fun v w'=>v=.bool (decide (0<(((dq lv).length:Nat):Int)))∧Ext w w'):=by
 refine df 7 Tryz.func21 J J J pk fun f0 ha H=>?_
 have i0:f0 0=C lv:=ha 0 bh
 refine aB<|au (v:=.bool false) J J<|bt<|ak J i0<|k ?_
 have bP:=Jl (lv:=lv) (w:=w) H.mb oY
 refine ca acD J (ec J e0) bP ?_
 rintro _ w0 ⟨a0,c0,rfl,bS,cm⟩
 have H0:=H.eI cm
 refine k<|dW J J cG<|k<|gtr J J J J<|au (v:=.bool (decide (0<((dq lv).length:Int)))) J J<|av<|rt<|r1 J J ?_
 exact⟨amh Value.bool (show (decide (0<((dq lv).length:Int)))=(decide (0<(((dq lv).length:Nat):Int))) from rfl),H0.below⟩
theorem F3 {FL:Int} {FK:Int} {FN:Int} {FM:Int} {Ir:Int} {DD:OA} {Dl DC:Nat} {Ns:Int} {Nr:Int} {Io:Int} {Im:Int} {Iq:Int} {Ip:Int} {Kf:Int} {G':OA} {Gd G2:Nat} {QQ:Int} {QO:Int}:Calls aJ 17 #[.agg #[C FL,C FK,C FN,C FM,C Ir,.slice DD Dl DC,C Ns,C Nr],.agg #[C Io,C Im,C Iq,C Ip,C Kf,.slice G' Gd G2,C QQ,C QO]] w (cb fun v w'=>v=.bool (decide (FL=Io)&&(decide (FK=Im)&&(decide (FN=Iq)&&(decide (FM=Ip)&&decide (Ir=Kf)))))∧Ext w w'):=by
 refine df 38 Tryz.func17 J J J pk fun f0 ha H=>?_
 have i0:f0 0=.agg #[C FL,C FK,C FN,C FM,C Ir,.slice DD Dl DC,C Ns,C Nr]:=ha 0 bh
 have i1:f0 1=.agg #[C Io,C Im,C Iq,C Ip,C Kf,.slice G' Gd G2,C QQ,C QO]:=ha 1 bh
 refine aB<|k<|bx H J i0 ?_
 intro aY w0 bS (H0:HI (fun _=>False) w w0 [box aY #[C FL,C FK,C FN,C FM,C Ir,.slice DD Dl DC,C Ns,C Nr] 33])
 refine k<|bx H0 J i1 ?_
 intro ba w1 cY (H1:HI (fun _=>False) w w1 [box ba #[C Io,C Im,C Iq,C Ip,C Kf,.slice G' Gd G2,C QQ,C QO] 33,box aY #[C FL,C FK,C FN,C FM,C Ir,.slice DD Dl DC,C Ns,C Nr] 33])
 refine au (v:=.bool false) J J<|bt<|aU xo J J<|bl H1 1 J aW J J J<|aU xo J J<|bl H1 0 J aW J J J<|k<|eql J J J J<|ak (v:=.bool (decide (FL=Io))) J J ?_
 rcases bE (decide (FL=Io)) with b0|b0
 ·
  have p0:=dT b0
  refine aT J J J b0<|fa pA J J<|aT J J J b0<|lx H1 1 J aW J J J<|aT J J J b0<|fa pA J J<|aT J J J b0<|lx H1 0 J aW J J J<|aT J J J b0<|eql J J J J<|k<|aR J J J J b0 J<|ak (v:=.bool (decide (FK=Im))) J J ?_
  rcases bE (decide (FK=Im)) with b1|b1
  ·
   have p1:=dT b1
   refine aT J J J b1<|fa nM J J<|aT J J J b1<|lx H1 1 J aW J J J<|aT J J J b1<|fa nM J J<|aT J J J b1<|lx H1 0 J aW J J J<|aT J J J b1<|eql J J J J<|k<|aR J J J J b1 J<|ak (v:=.bool (decide (FN=Iq))) J J ?_
   rcases bE (decide (FN=Iq)) with b2|b2
   ·
    have p2:=dT b2
    refine aT J J J b2<|fa zZ J J<|aT J J J b2<|lx H1 1 J aW J J J<|aT J J J b2<|fa zZ J J<|aT J J J b2<|lx H1 0 J aW J J J<|aT J J J b2<|eql J J J J<|k<|aR J J J J b2 J<|ak (v:=.bool (decide (FM=Ip))) J J ?_
    rcases bE (decide (FM=Ip)) with b3|b3
    ·
     have p3:=dT b3
     refine aT J J J b3<|fa mX J J<|aT J J J b3<|lx H1 1 J aW J J J<|aT J J J b3<|fa mX J J<|aT J J J b3<|lx H1 0 J aW J J J<|aT J J J b3<|eql J J J J<|k<|aR J J J J b3 J<|au (v:=.bool (decide (Ir=Kf))) J J<|av<|rt<|r1 J J ?_
     exact⟨amh Value.bool (by simp only[b0,b1,b2,b3,BL]),H1.below⟩
    have p3:=dF b3
    refine aN J J J b3<|aN J J J b3<|aN J J J b3<|aN J J J b3<|aN J J J b3<|k<|cK J J J J b3 J<|au (v:=.bool false) J J<|av<|rt<|r1 J J ?_
    exact⟨amh Value.bool (by simp only[b0,b1,b2,b3,BL]),H1.below⟩
   have p2:=dF b2
   refine aN J J J b2<|aN J J J b2<|aN J J J b2<|aN J J J b2<|aN J J J b2<|k<|cK J J J J b2 J<|ak (v:=.bool false) J J<|aN J J J J<|aN J J J J<|aN J J J J<|aN J J J J<|aN J J J J<|k<|cK J J J J J J<|au (v:=.bool false) J J<|av<|rt<|r1 J J ?_
   exact⟨amh Value.bool (by simp only[b0,b1,b2,BL]),H1.below⟩
  have p1:=dF b1
  refine aN J J J b1<|aN J J J b1<|aN J J J b1<|aN J J J b1<|aN J J J b1<|k<|cK J J J J b1 J<|ak (v:=.bool false) J J<|aN J J J J<|aN J J J J<|aN J J J J<|aN J J J J<|aN J J J J<|k<|cK J J J J J J<|ak (v:=.bool false) J J<|aN J J J J<|aN J J J J<|aN J J J J<|aN J J J J<|aN J J J J<|k<|cK J J J J J J<|au (v:=.bool false) J J<|av<|rt<|r1 J J ?_
  exact⟨amh Value.bool (by simp only[b0,b1,BL]),H1.below⟩
 have p0:=dF b0
 refine aN J J J b0<|aN J J J b0<|aN J J J b0<|aN J J J b0<|aN J J J b0<|k<|cK J J J J b0 J<|ak (v:=.bool false) J J<|aN J J J J<|aN J J J J<|aN J J J J<|aN J J J J<|aN J J J J<|k<|cK J J J J J J<|ak (v:=.bool false) J J<|aN J J J J<|aN J J J J<|aN J J J J<|aN J J J J<|aN J J J J<|k<|cK J J J J J J<|ak (v:=.bool false) J J<|aN J J J J<|aN J J J J<|aN J J J J<|aN J J J J<|aN J J J J<|k<|cK J J J J J J<|au (v:=.bool false) J J<|av<|rt<|r1 J J ?_
 exact⟨amh Value.bool (by simp only[b0,BL]),H1.below⟩
theorem JF:eh aJ 101 2 true 16 (.agg #[.int .i64 0,.int .i64 0]):=⟨aM,aM⟩
theorem adZ:OY aJ 101 [some (0,0),some (1,0)]:=⟨aM,aM,aM,aM⟩
theorem aaX:Ii aJ 99:=U7 (by kernel_rfl:aJ.underlying 99=some (.map 101 3)) (yP adZ) aW
theorem adR:aJ.underlying 134=some (.array 2 3):=aM
theorem afl:T8 aJ 134:=arF adR BM (by kernel_rfl) (by kernel_rfl) (by kernel_rfl)
theorem W1:Ii aJ 132:=U7 (by kernel_rfl:aJ.underlying 132=some (.map 134 3)) (PL afl) aW
theorem ah8:ct aJ 52:=⟨_,_,Tryz.func52,rfl,aM⟩
theorem Mc (hM:eD M w) (cL:cw M w ay ax I):Calls aJ 27 #[.agg #[.slice aD aF aC,R ay I ax,.slice aA eS az]] w (cb fun v w'=>v=.tuple #[C ((dz I).1),C ((dz I).2.1),C ((dz I).2.2)]∧Ext w w'):=by
 refine df 46 Tryz.func27 J J J hM fun f0 ha H=>?_
 let J0:=iL ay I ax
 have H0:=H.put (it:=J0) J<|by rw[bN];exact cL
 have fM:=aP cL
 have i0:f0 0=.agg #[.slice aD aF aC,R ay I ax,.slice aA eS az]:=ha 0 bh
 refine aB<|k<|bx H0 J i0 ?_
 intro aY w0 bS (H1:HI M w w0 [box aY #[.slice aD aF aC,R ay I ax,.slice aA eS az] 47,J0])
 let J1:=box aY #[.slice aD aF aC,R ay I ax,.slice aA eS az] 47
 refine au (v:=C 0) J J<|au (v:=C 0) J J<|au (v:=C 0) J J<|bt<|k<|mm H1 ?_
 intro dA w1 cY (H2:HI M w w1 [bW dA ([]:KV),J1,J0])
 refine au (v:=.map (some dA)) J J<|av<|sq<|aB<|aU fy J J<|bl H2 1 J iR J J J<|k<|dW J J jn<|ak (v:=C 0) J J<|av<|bk ?_
 refine lp (fun m f w'=>∃(j:Nat) (jP:KV),m=I.length-j∧f 5=.map (some dA)∧f 13=R ay I ax∧f 14=C (I.length:Int)∧f 15=C (j:Int)∧HI M w w' [bW dA jP,J1,J0]∧(j≤I.length)∧(∀k,k<j→nV I k=false)∧(tm I j jP)) _ ⟨0,([]:KV),J,J,J,J,(bJ J),H2,aq,(by intro k hk;omega),(by exact GP _)⟩ ?_
 rintro _ f0 w2 ⟨j,jP,rfl,s0,s1,s2,s3,H3,hk,hs,hm⟩
 refine aB<|k<|lss J J s3 s2<|av<|sq ?_
 refine cd (b:=decide ((j:Int)<(I.length:Int))) J J (fun b0=>?_)<|fun b0=>?_
 ·
  have p0:=dT b0
  refine sk<|nx<|sq<|bk<|aB<|ak J s3<|k<|ia (H3.rv 2 J) J J s1 s3 aq jn jr ?_
  intro iw x0 aQ cu
  refine k<|nj cu.w jr J J ?_
  intro v0 cm
  obtain⟨_,⟨_,_,rfl,⟨rfl,dM⟩,⟨_,_,rfl,⟨rfl,dV⟩,⟨_,_,rfl,rfl,⟨_,_,rfl,⟨rfl,fq⟩,⟨rfl,iU⟩⟩⟩⟩⟩,rfl⟩:=cm
  refine k<|al H3 jr ?_
  let bc:=[bW dA jP,J1,J0]
  intro ba w3 eT (H4:HI M w w3 (box ba #[C 0,C 0,.bool false,C 0,C 0] 95::bc))
  refine au (v:=C (j:Int)) J J<|k<|bp H4 0 J jr J J J J J J J ?_
  let J2:=box ba #[C x0.1,C x0.2.1,.bool x0.2.2.1,C x0.2.2.2.1,C x0.2.2.2.2] 95
  intro w4 (H5:HI M w w4 (J2::bc))
  refine av<|sq<|aB<|aU uU J J<|bl H5 0 J l5 J J J<|k<|jE J J<|z<|nx ?_
  refine cd (b:=!x0.2.2.1) J J (fun b1=>?_)<|fun b1=>?_
  ·
   refine ex<|aX<|bg<|nx<|rg<|k<|add J J s3 J aV<|ak (v:=C ((j:Int)+1)) J J<|z ?_
   have H6:HI M w w4 bc:=H5.bT [1,2,3] aw rfl
   refine bB _ ?_ ⟨(j+1),jP,J,s0,s1,s2,(bJ J),H6,aq,(by exact Ba hs aQ (Mo<|by simpa using b1)),(by exact Eb hm aQ (by simpa using b1))⟩
   omega
  refine sk<|nx<|sq<|aB<|aU rz J J<|bl H5 0 J aW J J J<|k<|eql J J J J<|z<|nx ?_
  refine cd (b:=decide (x0.2.2.2.2=0)) J J (fun b2=>?_)<|fun b2=>?_
  ·
   have p2:=dT b2
   refine aB<|ak (v:=C (j:Int)) J J<|ak (v:=C (j:Int)) J J<|au (v:=C (j:Int)) J J<|au (v:=C (j:Int)) J J<|au (v:=C 5) J J<|av<|rt<|aL<|bQ<|aL<|dQ<|bQ<|aL<|r3 J J J J ?_
   have e0:((j:Int):Int)=(dz I).1:=by exact(amh (fun z_:Int×Int×Int=>z_.1) (uf hs aQ (by simpa using b1) p2)).symm
   have e1:((j:Int):Int)=(dz I).2.1:=by exact(amh (fun z_:Int×Int×Int=>z_.2.1) (uf hs aQ (by simpa using b1) p2)).symm
   have e2:(5:Int)=(dz I).2.2:=by exact(amh (fun z_:Int×Int×Int=>z_.2.2) (uf hs aQ (by simpa using b1) p2)).symm
   have bo:=qH (fun (bV:Int) (dI:Int) (gv:Int)=>(.tuple #[C bV,C dI,C gv]:Value)) e0 e1 e2
   exact⟨bo,H5.below⟩
  have p2:=dF b2
  refine sk<|cI<|aU tc J J<|bl H5 0 J aW J J J<|aU rz J J<|bl H5 0 J aW J J J<|k<|bd (v:=.agg #[C x0.2.2.2.1,C x0.2.2.2.2]) J (cj J<|cj J ey) (fun _=>aM)<|k<|al H5 JF ?_
  intro bD w5 fB (H6:HI M w w5 (box bD #[C 0,C 0] 101::J2::bc))
  refine k<|bp H6 0 J JF J J J J J J J ?_
  intro w6 (H7:HI M w w6 (box bD #[C x0.2.2.2.1,C x0.2.2.2.2] 101::J2::bc))
  refine av<|sq<|aB<|ak J s0<|k<|cq H7 0 J JF J J aw J<|k<|W3 (k:=(x0.2.2.2.1,x0.2.2.2.2)) aaX H7 2 J J J J J ?_
  intro jO
  refine ak (v:=.tuple #[C ((getM jP (x0.2.2.2.1,x0.2.2.2.2)).getD 0),.bool ((getM jP (x0.2.2.2.1,x0.2.2.2.2)).isSome)]) J J<|k<|xt J J J<|k<|xt J J J<|au (v:=C ((getM jP (x0.2.2.2.1,x0.2.2.2.2)).getD 0)) J J<|au (v:=.bool ((getM jP (x0.2.2.2.1,x0.2.2.2.2)).isSome)) J J<|bt<|ak (v:=.bool ((getM jP (x0.2.2.2.1,x0.2.2.2.2)).isSome)) J J<|z<|nx ?_
  refine cd (b:=(getM jP (x0.2.2.2.1,x0.2.2.2.2)).isSome) J J (fun b3=>?_)<|fun b3=>?_
  ·
   refine aB<|ak (v:=C ((getM jP (x0.2.2.2.1,x0.2.2.2.2)).getD 0)) J J<|ak (v:=C (j:Int)) J J<|au (v:=C ((getM jP (x0.2.2.2.1,x0.2.2.2.2)).getD 0)) J J<|au (v:=C (j:Int)) J J<|au (v:=C 4) J J<|av<|rt<|aL<|bQ<|aL<|dQ<|bQ<|aL<|r3 J J J J ?_
   have e0:((getM jP (x0.2.2.2.1,x0.2.2.2.2)).getD 0:Int)=(dz I).1:=by exact(Av hm aQ b3).1.trans (amh (fun z_:Int×Int×Int=>z_.1) (so hs aQ (by simpa using b1) p2 (Av hm aQ b3).2)).symm
   have e1:((j:Int):Int)=(dz I).2.1:=by exact(amh (fun z_:Int×Int×Int=>z_.2.1) (so hs aQ (by simpa using b1) p2 (Av hm aQ b3).2)).symm
   have e2:(4:Int)=(dz I).2.2:=by exact(amh (fun z_:Int×Int×Int=>z_.2.2) (so hs aQ (by simpa using b1) p2 (Av hm aQ b3).2)).symm
   have bo:=qH (fun (bV:Int) (dI:Int) (gv:Int)=>(.tuple #[C bV,C dI,C gv]:Value)) e0 e1 e2
   exact⟨bo,H7.below⟩
  refine sk<|nx<|rg<|ak J s0<|k<|cq H7 0 J JF J J aw J<|ak (v:=C (j:Int)) J J<|k<|WZ (k:=(x0.2.2.2.1,x0.2.2.2.2)) aaX H7 2 J J J J J J J aV ?_
  let J3:=bW dA (jg jP (x0.2.2.2.1,x0.2.2.2.2) (j:Int))
  intro w7 (H8:HI M w w7 [box bD #[C x0.2.2.2.1,C x0.2.2.2.2] 101,J2,J3,J1,J0])
  refine z<|aI<|nx<|rg<|k<|add J J s3 J aV<|ak (v:=C ((j:Int)+1)) J J<|z ?_
  have H9:HI M w w7 [J3,J1,J0]:=H8.bT [2,3,4] aw rfl
  refine bB _ ?_ ⟨(j+1),(jg jP (x0.2.2.2.1,x0.2.2.2.2) (j:Int)),J,s0,s1,s2,(bJ J),H9,aq,(by exact Ba hs aQ (Mp p2<|by rw[(NJ hm aQ (by simpa using b1) b3).2];omega)),(by exact GM hm aQ (by simpa using b1) (NJ hm aQ (by simpa using b1) b3).1)⟩
  omega
 have p0:=dF b0
 refine ex<|aX<|bf<|bg<|cI<|au (v:=C 0) J J<|au (v:=C 0) J J<|au (v:=C 0) J J<|av<|rt<|r3 J J J J ?_
 have e0:(0:Int)=(dz I).1:=by exact(amh (fun z_:Int×Int×Int=>z_.1) (wj hs aq)).symm
 have e1:(0:Int)=(dz I).2.1:=by exact(amh (fun z_:Int×Int×Int=>z_.2.1) (wj hs aq)).symm
 have e2:(0:Int)=(dz I).2.2:=by exact(amh (fun z_:Int×Int×Int=>z_.2.2) (wj hs aq)).symm
 have bo:=qH (fun (bV:Int) (dI:Int) (gv:Int)=>(.tuple #[C bV,C dI,C gv]:Value)) e0 e1 e2
 exact⟨bo,H3.below⟩
theorem M_ (hM:eD M w) (cL:cw M w ay ax I) (dp:I.length≤4096):Calls aJ 52 #[.agg #[.slice aD aF aC,R ay I ax,.slice aA eS az]] w (cb fun v w'=>∃(a0:OA) (c0:Nat),v=.slice a0 (gG I).length c0∧Ext w w'∧bj M 3 w (gG I) (.slice a0 (gG I).length c0) w'):=by
 refine df 76 Tryz.func52 J J J hM fun f0 ha H=>?_
 let J0:=iL ay I ax
 have H0:=H.put (it:=J0) J<|by rw[bN];exact cL
 have fM:=aP cL
 have i0:f0 0=.agg #[.slice aD aF aC,R ay I ax,.slice aA eS az]:=ha 0 bh
 refine aB<|k<|bx H0 J i0 ?_
 intro aY w0 bS (H1:HI M w w0 [box aY #[.slice aD aF aC,R ay I ax,.slice aA eS az] 47,J0])
 let J1:=box aY #[.slice aD aF aC,R ay I ax,.slice aA eS az] 47
 refine au (v:=.slice none 0 0) J J<|bt<|k<|mm H1 ?_
 let bc:=[J1,J0]
 intro dA w1 cY (H2:HI M w w1 (bW dA ([]:KV)::bc))
 refine au (v:=.map (some dA)) J J<|av<|sq<|aB<|aU fy J J<|bl H2 1 J iR J J J<|k<|dW J J jn<|ak (v:=C 0) J J<|av<|bk ?_
 refine lp (fun m f w'=>∃(j:Nat) (jP:KV),m=I.length-j∧f 1=pV aY 0∧f 3=.map (some dA)∧f 13=R ay I ax∧f 14=C (I.length:Int)∧f 15=C (j:Int)∧HI M w w' (bW dA jP::bc)∧(j≤I.length)∧(jP=uh I j)) _ ⟨0,([]:KV),J,J,J,J,J,(bJ J),H2,aq,(by rfl)⟩ ?_
 rintro _ f0 w2 ⟨j,jP,rfl,s0,s1,s2,s3,s4,H3,hk,hm⟩
 refine aB<|k<|lss J J s4 s3<|av<|sq ?_
 refine cd (b:=decide ((j:Int)<(I.length:Int))) J J (fun b0=>?_)<|fun b0=>?_
 ·
  have p0:=dT b0
  refine sk<|nx<|sq<|bk<|aB<|ak J s4<|k<|ia (H3.rv 2 J) J J s2 s4 aq jn jr ?_
  intro iw x0 aQ cu
  refine k<|nj cu.w jr J J ?_
  intro v0 cm
  obtain⟨_,⟨_,_,rfl,⟨rfl,dM⟩,⟨_,_,rfl,⟨rfl,dV⟩,⟨_,_,rfl,rfl,⟨_,_,rfl,⟨rfl,fq⟩,⟨rfl,iU⟩⟩⟩⟩⟩,rfl⟩:=cm
  refine k<|al H3 jr ?_
  intro ba w3 eT (H4:HI M w w3 [box ba #[C 0,C 0,.bool false,C 0,C 0] 95,bW dA jP,J1,J0])
  refine au (v:=C (j:Int)) J J<|k<|bp H4 0 J jr J J J J J J J ?_
  let J2:=box ba #[C x0.1,C x0.2.1,.bool x0.2.2.1,C x0.2.2.2.1,C x0.2.2.2.2] 95
  intro w4 (H5:HI M w w4 [J2,bW dA jP,J1,J0])
  refine bt<|aU uU J J<|bl H5 0 J l5 J J J<|z<|nx ?_
  refine cd (b:=x0.2.2.1) J J (fun b1=>?_)<|fun b1=>?_
  ·
   refine rg<|ak J s1<|aU tc J J<|bl H5 0 J aW J J J<|aU rz J J<|bl H5 0 J aW J J J<|k<|bd (v:=.agg #[C x0.2.2.2.1,C x0.2.2.2.2]) J (cj J<|cj J ey) (fun _=>aM)<|ak (v:=C (j:Int)) J J<|k<|WZ (k:=(x0.2.2.2.1,x0.2.2.2.2)) W1 H5 1 J J J J J J J aV ?_
   let J3:=bW dA (jg jP (x0.2.2.2.1,x0.2.2.2.2) (j:Int))
   intro w5 (H6:HI M w w5 [J2,J3,J1,J0])
   refine z<|aI<|nx<|rg<|k<|add J J s4 J aV<|ak (v:=C ((j:Int)+1)) J J<|z ?_
   have H7:HI M w w5 (J3::bc):=H6.bT [1,2,3] aw rfl
   refine bB _ ?_ ⟨(j+1),(jg jP (x0.2.2.2.1,x0.2.2.2.2) (j:Int)),J,s0,s1,s2,s3,(bJ J),H7,aq,(by rw[hm];first|exact yO aQ b1|exact AT aQ b1)⟩
   omega
  refine sk<|aI<|nx<|rg<|k<|add J J s4 J aV<|ak (v:=C ((j:Int)+1)) J J<|z ?_
  have H6:HI M w w4 (bW dA jP::bc):=H5.bT [1,2,3] aw rfl
  refine bB _ ?_ ⟨(j+1),jP,J,s0,s1,s2,s3,(bJ J),H6,aq,(by rw[hm];first|exact yO aQ b1|exact AT aQ b1)⟩
  omega
 have p0:=dF b0
 refine ex<|aX<|bf<|bg<|cI<|aU fy J s0<|bl H3 1 J iR J J J<|k<|dW J J jn<|k<|mk (m:=I.length) (zx:=(0:Int)) H3 J J J J cG aW (fun _ _=>⟨J,by unfold aK;omega⟩) aq aq ?_
 let J4:=bW dA jP
 let bY:=J4::bc
 intro g0 w3 eT (H4:HI M w w3 (own w.heap.size 3 (.slice (some ⟨g0,0,none⟩) I.length I.length) (List.replicate I.length (0:Int))::bY))
 refine au (v:=R (some ⟨g0,0,none⟩) I I.length) J J<|av<|sq<|aB<|aU fy J s0<|bl H4 2 J iR J J J<|k<|dW J J jn<|ak (v:=C 0) J J<|av<|bk ?_
 refine lp (fun m f w'=>∃(q:Nat) (xs:List Int),m=I.length-q∧f 3=.map (some dA)∧f 6=R (some ⟨g0,0,none⟩) I I.length∧f 35=R ay I ax∧f 36=C (I.length:Int)∧f 37=C (q:Int)∧HI M w w' (own w.heap.size 3 (.slice (some ⟨g0,0,none⟩) I.length I.length) xs::bY)∧(q≤I.length)∧(xs.length=I.length)∧(xs=CI jP I q)) _ ⟨0,(List.replicate I.length (0:Int)),J,s1,J,J,J,(bJ J),H4,aq,bh,(by exact S1 _ _)⟩ ?_
 rintro _ f1 w4 ⟨q,xs,rfl,s5,s6,s7,s8,s9,H5,sf,hl,hs⟩
 refine aB<|k<|lss J J s9 s8<|av<|sq ?_
 refine cd (b:=decide ((q:Int)<(I.length:Int))) J J (fun b1=>?_)<|fun b1=>?_
 ·
  have p1:=dT b1
  refine sk<|nx<|sq<|bk<|aB<|ak J s9<|k<|ia (H5.rv 3 J) J J s7 s9 aq jn jr ?_
  intro iw x0 aQ cu
  refine k<|nj cu.w jr J J ?_
  intro v0 cm
  obtain⟨_,⟨_,_,rfl,⟨rfl,dM⟩,⟨_,_,rfl,⟨rfl,dV⟩,⟨_,_,rfl,rfl,⟨_,_,rfl,⟨rfl,fq⟩,⟨rfl,iU⟩⟩⟩⟩⟩,rfl⟩:=cm
  refine k<|al H5 jr ?_
  let J5:=own w.heap.size 3 (.slice (some ⟨g0,0,none⟩) I.length I.length) xs
  intro ba w5 fB (H6:HI M w w5 (box ba #[C 0,C 0,.bool false,C 0,C 0] 95::J5::bY))
  refine au (v:=C (q:Int)) J J<|k<|bp H6 0 J jr J J J J J J J ?_
  let J6:=box ba #[C x0.1,C x0.2.1,.bool x0.2.2.1,C x0.2.2.2.1,C x0.2.2.2.2] 95
  intro w6 (H7:HI M w w6 (J6::J5::bY))
  refine bt<|ak J s5<|aU tc J J<|bl H7 0 J aW J J J<|aU rz J J<|bl H7 0 J aW J J J<|k<|bd (v:=.agg #[C x0.2.2.2.1,C x0.2.2.2.2]) J (cj J<|cj J ey) (fun _=>aM)<|k<|W3 (k:=(x0.2.2.2.1,x0.2.2.2.2)) W1 H7 2 J J J J J ?_
  intro jO
  refine ak (v:=.tuple #[C ((getM jP (x0.2.2.2.1,x0.2.2.2.2)).getD 0),.bool ((getM jP (x0.2.2.2.1,x0.2.2.2.2)).isSome)]) J J<|k<|xt J J J<|k<|xt J J J<|au (v:=C ((getM jP (x0.2.2.2.1,x0.2.2.2.2)).getD 0)) J J<|au (v:=.bool ((getM jP (x0.2.2.2.1,x0.2.2.2.2)).isSome)) J J<|av<|bk<|aB<|aU uU J J<|bl H7 0 J l5 J J J<|au (v:=.bool x0.2.2.1) J J<|z<|nx ?_
  refine cd (b:=x0.2.2.1) J J (fun b2=>?_)<|fun b2=>?_
  ·
   refine rg<|ak J s6<|ak (v:=C (q:Int)) J J<|k<|ic (H7.at_ 1 J) J J J J aq cG aW ?_
   intro g1 x1 im cP gK
   refine k<|pR H7 1 J im J aq aW J J J J (RV.int.2 ⟨J,aV⟩) ?_
   let J7:=own w.heap.size 3 (.slice (some ⟨g0,0,none⟩) I.length I.length) (xs.set ((q:Int).toNat) (-3))
   intro w7 (H8:HI M w w7 (J6::J7::bY))
   refine z<|aI<|aI<|nx<|rg<|k<|add J J s9 J aV<|ak (v:=C ((q:Int)+1)) J J<|z ?_
   have H9:HI M w w7 (J7::bY):=H8.bT [1,2,3,4] aw rfl
   refine bB _ ?_ ⟨(q+1),(xs.set ((q:Int).toNat) (-3)),J,s5,s6,s7,s8,(bJ J),H9,aq,(by simpa using hl),(by rw[hs];first|exact jM aQ (JT b2)|exact jM aQ (JW b2 p3)|exact jM aQ (JU b2 p3 b4)|exact jM aQ (JV b2 p3 b4))⟩
   omega
  refine aB<|aU rz J J<|bl H7 0 J aW J J J<|k<|eql J J J J<|au (v:=.bool (decide (x0.2.2.2.2=0))) J J<|z<|nx ?_
  refine cd (b:=decide (x0.2.2.2.2=0)) J J (fun b3=>?_)<|fun b3=>?_
  ·
   have p3:=dT b3
   refine rg<|ak J s6<|ak (v:=C (q:Int)) J J<|k<|ic (H7.at_ 1 J) J J J J aq cG aW ?_
   intro g1 x1 im cP gK
   refine k<|pR H7 1 J im J aq aW J J J J (RV.int.2 ⟨J,aV⟩) ?_
   let J8:=own w.heap.size 3 (.slice (some ⟨g0,0,none⟩) I.length I.length) (xs.set ((q:Int).toNat) (-1))
   intro w7 (H8:HI M w w7 (J6::J8::bY))
   refine z<|aI<|aI<|nx<|rg<|k<|add J J s9 J aV<|ak (v:=C ((q:Int)+1)) J J<|z ?_
   have H9:HI M w w7 (J8::bY):=H8.bT [1,2,3,4] aw rfl
   refine bB _ ?_ ⟨(q+1),(xs.set ((q:Int).toNat) (-1)),J,s5,s6,s7,s8,(bJ J),H9,aq,(by simpa using hl),(by rw[hs];first|exact jM aQ (JT b2)|exact jM aQ (JW b2 p3)|exact jM aQ (JU b2 p3 b4)|exact jM aQ (JV b2 p3 b4))⟩
   omega
  have p3:=dF b3
  refine aB<|ak (v:=.bool ((getM jP (x0.2.2.2.1,x0.2.2.2.2)).isSome)) J J<|au (v:=.bool ((getM jP (x0.2.2.2.1,x0.2.2.2.2)).isSome)) J J<|z<|nx ?_
  refine cd (b:=(getM jP (x0.2.2.2.1,x0.2.2.2.2)).isSome) J J (fun b4=>?_)<|fun b4=>?_
  ·
   refine rg<|ak J s6<|ak (v:=C (q:Int)) J J<|ak (v:=C ((getM jP (x0.2.2.2.1,x0.2.2.2.2)).getD 0)) J J<|k<|ic (H7.at_ 1 J) J J J J aq cG aW ?_
   intro g1 x1 im cP gK
   refine k<|pR H7 1 J im J aq aW J J J J (RV.int.2 ⟨J,aV⟩) ?_
   let J9:=own w.heap.size 3 (.slice (some ⟨g0,0,none⟩) I.length I.length) (xs.set ((q:Int).toNat) ((getM jP (x0.2.2.2.1,x0.2.2.2.2)).getD 0))
   intro w7 (H8:HI M w w7 (J6::J9::bY))
   refine z<|aI<|aI<|nx<|rg<|k<|add J J s9 J aV<|ak (v:=C ((q:Int)+1)) J J<|z ?_
   have H9:HI M w w7 (J9::bY):=H8.bT [1,2,3,4] aw rfl
   refine bB _ ?_ ⟨(q+1),(xs.set ((q:Int).toNat) ((getM jP (x0.2.2.2.1,x0.2.2.2.2)).getD 0)),J,s5,s6,s7,s8,(bJ J),H9,aq,(by simpa using hl),(by rw[hs];first|exact jM aQ (JT b2)|exact jM aQ (JW b2 p3)|exact jM aQ (JU b2 p3 b4)|exact jM aQ (JV b2 p3 b4))⟩
   omega
  refine rg<|ak J s6<|ak (v:=C (q:Int)) J J<|k<|ic (H7.at_ 1 J) J J J J aq cG aW ?_
  intro g1 x1 im cP gK
  refine k<|pR H7 1 J im J aq aW J J J J (RV.int.2 ⟨J,aV⟩) ?_
  let dK:=own w.heap.size 3 (.slice (some ⟨g0,0,none⟩) I.length I.length) (xs.set ((q:Int).toNat) (-2))
  intro w7 (H8:HI M w w7 (J6::dK::bY))
  refine z<|aI<|aI<|nx<|rg<|k<|add J J s9 J aV<|ak (v:=C ((q:Int)+1)) J J<|z ?_
  have H9:HI M w w7 (dK::bY):=H8.bT [1,2,3,4] aw rfl
  refine bB _ ?_ ⟨(q+1),(xs.set ((q:Int).toNat) (-2)),J,s5,s6,s7,s8,(bJ J),H9,aq,(by simpa using hl),(by rw[hs];first|exact jM aQ (JT b2)|exact jM aQ (JW b2 p3)|exact jM aQ (JU b2 p3 b4)|exact jM aQ (JV b2 p3 b4))⟩
  omega
 have p1:=dF b1
 refine ex<|aX<|bf<|bg<|cI<|ak J s6<|au (v:=R (some ⟨g0,0,none⟩) I I.length) J J<|av<|rt<|r1 J J ?_
 have e0:(xs:List Int)=gG I:=by rw[hs,hm];unfold gG;rw[VF aq,show j=I.length from by omega]
 have l0:I.length=(gG I).length:=by rw[←e0];omega
 have bo:=iq (fun (uF:Nat)=>(.slice (some ⟨g0,0,none⟩) uF I.length:Value)) l0
 exact⟨(some ⟨g0,0,none⟩),I.length,bo,H5.below,(amh (fun (n_:Nat)=>bj _ _ _ (gG I) (.slice (some ⟨g0,0,none⟩) n_ I.length) _) l0).mp ((amh (fun (x_:List Int)=>bj _ _ _ x_ (.slice (some ⟨g0,0,none⟩) I.length I.length) _) e0).mp (H5.da 0 J))⟩
theorem Na (hM:eD M w) (LS:cw M w aD aC fv) (cL:cw M w ay ax I) (eZ:cw M w aA az U) (dp:I.length≤4096):Calls aJ 28 #[.agg #[R aD fv aC,R ay I ax,R aA U az]] w (cb fun v w'=>∃(a0:OA) (c0:Nat) (a1:OA) (c1:Nat) (a2:OA) (c2:Nat),v=.agg #[R a0 fv c0,R a1 I c1,.slice a2 (gG I).length c2]∧Ext w w'∧cw M w' a0 c0 fv∧cw M w' a1 c1 I∧RV M w' (.slice a2 (gG I).length c2) (gG I)):=by
 refine df 7 Tryz.func28 J J J hM fun f0 ha H=>?_
 let J0:=iL aD fv aC
 have H0:=H.put (it:=J0) J<|by rw[bN];exact LS
 let J1:=iL ay I ax
 have H1:=H0.put (it:=J1) J<|by rw[aE rfl,bN];exact cL
 let J2:=iL aA U az
 have H2:=H1.put (it:=J2) J<|by rw[aE rfl,aE rfl,bN];exact eZ
 have aeg:=aP LS
 have fM:=aP cL
 have iA:=aP eZ
 have i0:f0 0=.agg #[R aD fv aC,R ay I ax,R aA U az]:=ha 0 bh
 refine aB<|k<|bx H2 J i0 ?_
 intro aY w0 bS (H3:HI M w w0 [box aY #[R aD fv aC,R ay I ax,R aA U az] 47,J2,J1,J0])
 refine k<|al H3 dx ?_
 intro ba w1 cY (H4:HI M w w1 [box ba #[.slice none 0 0,.slice none 0 0,.slice none 0 0] 47,box aY #[R aD fv aC,R ay I ax,R aA U az] 47,J2,J1,J0])
 refine bt<|k<|cq H4 1 J dx J J aw J<|k ?_
 have bP:=M_ (I:=I) (aD:=aD) (aF:=fv.length) (aC:=aC) (aA:=aA) (eS:=U.length) (az:=az) H4.mb (H4.rv 3 J) bq
 refine ca ah8 J (ec J e0) bP ?_
 rintro _ w2 ⟨a0,c0,rfl,eT,cm⟩
 have H5:=H4.eI cm
 refine aU tg J J<|k<|bp H5 2 J qe J J J J J J J ?_
 let J3:=box aY #[R aD fv aC,R ay I ax,R a0 (gG I) c0] 47
 intro w3 (H6:HI M w w3 [oL w 3 a0 (gG I) c0,box ba #[.slice none 0 0,.slice none 0 0,.slice none 0 0] 47,J3,J2,J1,J0])
 refine bt<|k<|cq H6 2 J dx J J aw J<|k<|bp H6 1 J dx J J J J J J J ?_
 intro w4 (H7:HI M w w4 [oL w 3 a0 (gG I) c0,box ba #[R aD fv aC,R ay I ax,R a0 (gG I) c0] 47,J3,J2,J1,J0])
 refine av<|rt<|oN H7 1 J dx J J J J aw ?_
 exact⟨aD,aC,ay,ax,a0,c0,J,H7.below,(H7.fg 5 J),(H7.fg 4 J),(H7.me 0 J)⟩
theorem XW:ct aJ 114:=⟨_,_,Tryz.func114,rfl,aM⟩
theorem ah0:ct aJ 77:=⟨_,_,Tryz.func77,rfl,aM⟩
theorem ae0:ct aJ 113:=⟨_,_,Tryz.func113,rfl,aM⟩
theorem aeJ:ct aJ 146:=⟨_,_,Tryz.func146,rfl,aM⟩
theorem ae1:ct aJ 112:=⟨_,_,Tryz.func112,rfl,aM⟩
theorem ah3:ct aJ 74:=⟨_,_,Tryz.func74,rfl,aM⟩
theorem ah1:ct aJ 76:=⟨_,_,Tryz.func76,rfl,aM⟩
theorem ah2:ct aJ 75:=⟨_,_,Tryz.func75,rfl,aM⟩
set_option maxRecDepth 100000 in
set_option maxHeartbeats 1600000 in
def Cm:Go.Shelf.Ren:=⟨fun|160=>114|232=>148|231=>147|227=>149|234=>151|233=>150|236=>153|235=>152|228=>172|271=>175|151=>174|197=>173|120=>188|152=>187|260=>186|137=>192|119=>193|224=>194|225=>195|217=>196|266=>197|n=>n,fun|9=>9|4=>4|3=>3|5=>5|117=>200|116=>199|0=>0|124=>203|21=>21|105=>220|46=>152|119=>244|139=>247|138=>246|n=>n,fun|3=>1|4=>2|n=>n⟩
theorem Lk:Go.Proofs.Lays.n160 aJ Cm:={
  mixed:=aM
  f119:=Tryz.func193.trans (amh some (by kernel_rfl))
  f120:=Tryz.func188.trans (amh some (by kernel_rfl))
  f137:=Tryz.func192.trans (amh some (by kernel_rfl))
  f151:=Tryz.func174.trans (amh some (by kernel_rfl))
  f152:=Tryz.func187.trans (amh some (by kernel_rfl))
  f160:=Tryz.func114.trans (amh some (by kernel_rfl))
  f197:=Tryz.func173.trans (amh some (by kernel_rfl))
  f217:=Tryz.func196.trans (amh some (by kernel_rfl))
  f224:=Tryz.func194.trans (amh some (by kernel_rfl))
  f225:=Tryz.func195.trans (amh some (by kernel_rfl))
  f227:=Tryz.func149.trans (amh some (by kernel_rfl))
  f228:=Tryz.func172.trans (amh some (by kernel_rfl))
  f231:=Tryz.func147.trans (amh some (by kernel_rfl))
  f232:=Tryz.func148.trans (amh some (by kernel_rfl))
  f233:=Tryz.func150.trans (amh some (by kernel_rfl))
  f234:=Tryz.func151.trans (amh some (by kernel_rfl))
  f235:=Tryz.func152.trans (amh some (by kernel_rfl))
  f236:=Tryz.func153.trans (amh some (by kernel_rfl))
  f260:=Tryz.func186.trans (amh some (by kernel_rfl))
  f266:=Tryz.func197.trans (amh some (by kernel_rfl))
  f271:=Tryz.func175.trans (amh some (by kernel_rfl))
  t0:=Tryz.underlying0
  a0:=Tryz.isAgg0
  z0:=Tryz.sizeOf0
  v0:=Tryz.zeroValue0
  t3:=Tryz.underlying3
  a3:=Tryz.isAgg3
  z3:=Tryz.sizeOf3
  v3:=Tryz.zeroValue3
  t4:=Tryz.underlying4
  a4:=Tryz.isAgg4
  z4:=Tryz.sizeOf4
  v4:=Tryz.zeroValue4
  t5:=Tryz.underlying5
  a5:=Tryz.isAgg5
  z5:=Tryz.sizeOf5
  v5:=Tryz.zeroValue5
  t9:=Tryz.underlying9
  a9:=Tryz.isAgg9
  z9:=Tryz.sizeOf9
  v9:=Tryz.zeroValue9
  t21:=Tryz.underlying21
  a21:=Tryz.isAgg21
  z21:=Tryz.sizeOf21
  v21:=Tryz.zeroValue21
  t46:=Tryz.underlying152
  a46:=Tryz.isAgg152
  z46:=Tryz.sizeOf152
  v46:=Tryz.zeroValue152
  t105:=Tryz.underlying220
  a105:=Tryz.isAgg220
  z105:=Tryz.sizeOf220
  v105:=Tryz.zeroValue220
  t116:=Tryz.underlying199
  a116:=Tryz.isAgg199
  z116:=Tryz.sizeOf199
  t117:=Tryz.underlying200
  a117:=Tryz.isAgg200
  z117:=Tryz.sizeOf200
  v117:=Tryz.zeroValue200
  t119:=Tryz.underlying244
  a119:=Tryz.isAgg244
  z119:=Tryz.sizeOf244
  t124:=Tryz.underlying203
  a124:=Tryz.isAgg203
  z124:=Tryz.sizeOf203
  v124:=Tryz.zeroValue203
  t138:=Tryz.underlying246
  a138:=Tryz.isAgg246
  z138:=Tryz.sizeOf246
  v138:=Tryz.zeroValue246
  t139:=Tryz.underlying247
  a139:=Tryz.isAgg247
  z139:=Tryz.sizeOf247
  v139:=Tryz.zeroValue247
  g3:=aM
  g4:=by kernel_rfl}
theorem BR (kQ:s.size≤maxLen) (ahJ:cs.size≤maxLen) (Ff:QN cs):Calls aJ 114 #[.string s,.string cs] w (cb fun v w'=>v=.string (trimB s cs)∧Ext w w'):=by
  have LW:(aJ.info? (Cm.t 116)).map (fun i=>(i.zero,i.size))=some (some (.agg (Array.replicate 256 (.bool false))),256):=aM
  by_cases h0:s.size=0
  · refine(Go.Proofs.Any.strings_Trim_empty Lk s cs w<|.inl h0).mono ?_
    rintro e w' ⟨rfl,rfl⟩
    unfold cb
    refine⟨_,J,?_,Ext.refl _⟩
    have hs:s.data.toList=[]:=by rw[←ani,am1];exact h0
    unfold trimB
    rw[hs]
    refine amh Value.string ?_
    cases s with|mk a=>exact amh ByteArray.mk (an0 h0)
  · refine(Go.Proofs.Any.strings_Trim_set Lk (zero_of_info LW).1 (zero_of_info LW).2 s cs w Ff.two aq kQ Ff.low Ff.asc).mono ?_
    rintro e w' ⟨rfl,q,rfl⟩
    unfold cb
    exact⟨_,J,J,((Ext.alloc w _).trans (Ext.alloc _ _)).trans (Ta _ q)⟩
set_option maxRecDepth 100000 in
set_option maxHeartbeats 1600000 in
def wT:Go.Shelf.Ren:=⟨fun|161=>144|231=>147|227=>149|233=>150|235=>152|228=>172|197=>173|151=>174|260=>186|152=>187|137=>192|119=>193|224=>194|225=>195|217=>196|266=>197|n=>n,fun|9=>9|4=>4|3=>3|5=>5|117=>200|116=>199|0=>0|124=>203|105=>220|21=>21|119=>244|46=>152|139=>247|138=>246|n=>n,fun|3=>1|4=>2|n=>n⟩
theorem Cn:Go.Proofs.Lays.n161 aJ wT:={
  mixed:=aM
  f119:=Tryz.func193.trans (amh some (by kernel_rfl))
  f137:=Tryz.func192.trans (amh some (by kernel_rfl))
  f151:=Tryz.func174.trans (amh some (by kernel_rfl))
  f152:=Tryz.func187.trans (amh some (by kernel_rfl))
  f161:=Tryz.func144.trans (amh some (by kernel_rfl))
  f197:=Tryz.func173.trans (amh some (by kernel_rfl))
  f217:=Tryz.func196.trans (amh some (by kernel_rfl))
  f224:=Tryz.func194.trans (amh some (by kernel_rfl))
  f225:=Tryz.func195.trans (amh some (by kernel_rfl))
  f227:=Tryz.func149.trans (amh some (by kernel_rfl))
  f228:=Tryz.func172.trans (amh some (by kernel_rfl))
  f231:=Tryz.func147.trans (amh some (by kernel_rfl))
  f233:=Tryz.func150.trans (amh some (by kernel_rfl))
  f235:=Tryz.func152.trans (amh some (by kernel_rfl))
  f260:=Tryz.func186.trans (amh some (by kernel_rfl))
  f266:=Tryz.func197.trans (amh some (by kernel_rfl))
  t0:=Tryz.underlying0
  a0:=Tryz.isAgg0
  z0:=Tryz.sizeOf0
  v0:=Tryz.zeroValue0
  t3:=Tryz.underlying3
  a3:=Tryz.isAgg3
  z3:=Tryz.sizeOf3
  v3:=Tryz.zeroValue3
  t4:=Tryz.underlying4
  a4:=Tryz.isAgg4
  z4:=Tryz.sizeOf4
  v4:=Tryz.zeroValue4
  t5:=Tryz.underlying5
  a5:=Tryz.isAgg5
  z5:=Tryz.sizeOf5
  v5:=Tryz.zeroValue5
  t9:=Tryz.underlying9
  a9:=Tryz.isAgg9
  z9:=Tryz.sizeOf9
  v9:=Tryz.zeroValue9
  t21:=Tryz.underlying21
  a21:=Tryz.isAgg21
  z21:=Tryz.sizeOf21
  v21:=Tryz.zeroValue21
  t46:=Tryz.underlying152
  a46:=Tryz.isAgg152
  z46:=Tryz.sizeOf152
  v46:=Tryz.zeroValue152
  t105:=Tryz.underlying220
  a105:=Tryz.isAgg220
  z105:=Tryz.sizeOf220
  v105:=Tryz.zeroValue220
  t116:=Tryz.underlying199
  a116:=Tryz.isAgg199
  z116:=Tryz.sizeOf199
  t117:=Tryz.underlying200
  a117:=Tryz.isAgg200
  z117:=Tryz.sizeOf200
  v117:=Tryz.zeroValue200
  t119:=Tryz.underlying244
  a119:=Tryz.isAgg244
  z119:=Tryz.sizeOf244
  t124:=Tryz.underlying203
  a124:=Tryz.isAgg203
  z124:=Tryz.sizeOf203
  v124:=Tryz.zeroValue203
  t138:=Tryz.underlying246
  a138:=Tryz.isAgg246
  z138:=Tryz.sizeOf246
  v138:=Tryz.zeroValue246
  t139:=Tryz.underlying247
  a139:=Tryz.isAgg247
  z139:=Tryz.sizeOf247
  v139:=Tryz.zeroValue247
  g3:=aM
  g4:=by kernel_rfl}
theorem EF (kQ:s.size≤maxLen) (ahJ:cs.size≤maxLen) (Ff:QN cs):Calls aJ 144 #[.string s,.string cs] w (cb fun v w'=>v=.string (BP s cs)∧Ext w w'):=by
  have LW:(aJ.info? (wT.t 116)).map (fun i=>(i.zero,i.size))=some (some (.agg (Array.replicate 256 (.bool false))),256):=aM
  by_cases h0:s.size=0
  · refine(Go.Proofs.Any.strings_TrimLeft_empty Cn s cs w<|.inl h0).mono ?_
    rintro e w' ⟨rfl,rfl⟩
    unfold cb
    refine⟨_,J,?_,Ext.refl _⟩
    have hs:s.data.toList=[]:=by rw[←ani,am1];exact h0
    unfold BP
    rw[hs]
    refine amh Value.string ?_
    cases s with|mk a=>exact amh ByteArray.mk (an0 h0)
  · refine(Go.Proofs.Any.strings_TrimLeft_set Cn (zero_of_info LW).1 (zero_of_info LW).2 s cs w Ff.two aq Ff.low Ff.asc).mono ?_
    rintro e w' ⟨rfl,rfl⟩
    unfold cb
    exact⟨_,J,J,(Ext.alloc w _).trans (Ext.alloc _ _)⟩
theorem P5 (kQ:s.size≤maxLen):Calls aJ 77 #[.string s] w (cb fun v w'=>v=.bool (mg s)∧Ext w w'):=by
 refine df 15 Tryz.func77 J J J pk fun f0 ha H=>?_
 have i0:f0 0=.string s:=ha 0 bh
 refine aB<|au (v:=.bool false) J J<|bt<|ak J i0<|k<|neS J J J J<|ak (v:=.bool (!decide (s=⟨#[]⟩))) J J ?_
 rcases bE (!decide (s=⟨#[]⟩)) with b0|b0
 ·
  have p0:=dF<|fY b0
  refine aT J J J b0<|mv J i0<|aT J J J b0<|vz J J mu<|aT J J J b0<|leq J J J J<|k<|aR J J J J b0 J<|ak (v:=.bool (decide ((s.size:Int)≤8))) J J ?_
  rcases bE (decide ((s.size:Int)≤8)) with b1|b1
  ·
   have p1:=dT b1
   refine aT J J J b1<|mv J i0<|aT J J J b1 ?_
   have bP:=BR (s:=s) (cs:=⟨#[97,98,99,100,101,102,103,104,105,106,107,108,109,110,111,112,113,114,115,116,117,118,119,120,121,122]⟩) (w:=w) bq aw<|by exact No
   refine ca XW J (ec J<|ec J e0) bP ?_
   rintro _ w0 ⟨rfl,bS⟩
   have H0:=H.ext bS
   refine aT J J J b1<|X2 J J J J<|k<|aR J J J J b1 J<|au (v:=.bool (decide (trimB s ⟨#[97,98,99,100,101,102,103,104,105,106,107,108,109,110,111,112,113,114,115,116,117,118,119,120,121,122]⟩=⟨#[]⟩))) J J<|av<|rt<|r1 J J ?_
   exact⟨amh Value.bool (by rw[E4];simp only[(fY b0),b1,BL]),H0.below⟩
  have p1:=dF b1
  refine aN J J J b1<|aN J J J b1<|aN J J J b1<|k<|cK J J J J b1 J<|au (v:=.bool false) J J<|av<|rt<|r1 J J ?_
  exact⟨amh Value.bool (by rw[E4];simp only[(fY b0),b1,BL]),H.below⟩
 have p0:=dT<|fk b0
 refine aN J J J b0<|aN J J J b0<|aN J J J b0<|k<|cK J J J J b0 J<|ak (v:=.bool false) J J<|aN J J J J<|aN J J J J<|aN J J J J<|k<|cK J J J J J J<|au (v:=.bool false) J J<|av<|rt<|r1 J J ?_
 exact⟨amh Value.bool (by rw[E4];simp only[(fk b0),BL]),H.below⟩
theorem Nh {ow:Bool} {ov:ByteArray} {on:Int} (alF:ov.size≤maxLen) (alG:aK on):Calls aJ 76 #[.agg #[.bool ow,.string ov,C on]] w (cb fun v w'=>v=.bool (!(mg ov))∧Ext w w'):=by
 refine df 7 Tryz.func76 J J J pk fun f0 ha H=>?_
 have i0:f0 0=.agg #[.bool ow,.string ov,C on]:=ha 0 bh
 refine aB<|k<|bx H J i0 ?_
 intro aY w0 bS (H0:HI (fun _=>False) w w0 [box aY #[.bool ow,.string ov,C on] 43])
 refine au (v:=.bool false) J J<|bt<|aU mW J J<|bl H0 0 J nW J J J<|k ?_
 have bP:=P5 (s:=ov) (w:=w0) bq
 refine ca ah0 J (ec J e0) bP ?_
 rintro _ w1 ⟨rfl,cY⟩
 have H1:=H0.ext cY
 refine k<|jE J J<|au (v:=.bool (!(mg ov))) J J<|av<|rt<|r1 J J ?_
 exact⟨amh Value.bool (show (!(mg ov))=(!(mg ov)) from rfl),H1.below⟩
theorem Lr {r:List (Bool×ByteArray×Int)} {p:(Bool×ByteArray×Int)→Bool} (hM:eD M w) (mT:cw M w jC jQ r) (zW:FP aJ pY qb M w r p):Calls aJ 113 #[R jC r jQ,.func (.func pY) #[] qb.toArray] w (cb fun v w'=>v=C (eF p r)∧Ext w w'):=by
 refine df 19 Tryz.func113 J J J hM fun f0 ha H=>?_
 have H0:=ee H mT
 have AR:=aP mT
 have i0:f0 0=R jC r jQ:=ha 0 bh
 have i1:f0 1=.func (.func pY) #[] qb.toArray:=ha 1 bh
 refine aB<|au (v:=C 0) J J<|av<|sq<|aB<|ak J i0<|k<|dW J J pL<|ak (v:=C 0) J J<|av<|bk ?_
 refine lp (fun m f w'=>∃(j:Nat),m=r.length-j∧f 0=R jC r jQ∧f 1=.func (.func pY) #[] qb.toArray∧f 7=C (r.length:Int)∧f 8=C (j:Int)∧HI M w w' [iL jC r jQ]∧(j≤r.length)∧((r.take j).any p=false)) _ ⟨0,J,i0,i1,J,(bJ J),H0,aq,bh⟩ ?_
 rintro _ f0 w0 ⟨j,rfl,s0,s1,s2,s3,H1,hk,hs⟩
 refine aB<|k<|lss J J s3 s2<|av<|sq ?_
 refine cd (b:=decide ((j:Int)<(r.length:Int))) J J (fun b0=>?_)<|fun b0=>?_
 ·
  have p0:=dT b0
  refine sk<|nx<|sq<|bk<|aB<|ak J s3<|au (v:=C (j:Int)) J J<|bt<|ak J s1<|ak J s0<|ak (v:=C (j:Int)) J J<|k<|ia (H1.rv 0 J) J J J J aq pL iu ?_
  intro iw x0 aQ cu
  refine k<|nj cu.w iu J J ?_
  intro v0 cm
  obtain⟨_,⟨_,_,rfl,rfl,⟨_,_,rfl,⟨rfl,dM⟩,⟨rfl,dV⟩⟩⟩,rfl⟩:=cm
  refine k<|cf zW.1 J J J (ec J e0) (zW.2 _ _ _ (by exact dJ ‹_›) H1.below<|RV.lift (v:=.agg #[.bool x0.1,.string x0.2.1,C x0.2.2]) (x:=((x0.1,x0.2.1,x0.2.2):(Bool×ByteArray×Int))) ⟨_,⟨_,_,J,J,⟨_,_,J,⟨J,aq⟩,⟨J,(show aK (x0.2.2) from aV)⟩⟩⟩,J⟩ H1.out) ?_
  rintro _ w1 ⟨rfl,bS⟩
  have H2:=H1.ext bS
  refine z<|nx ?_
  refine cd (b:=p (x0.1,x0.2.1,x0.2.2)) J J (fun b1=>?_)<|fun b1=>?_
  ·
   refine aB<|ak (v:=C (j:Int)) J J<|au (v:=C (j:Int)) J J<|av<|rt<|bQ<|aL<|dQ<|bQ<|aL<|r1 J J ?_
   exact⟨amh (Value.int .i64) (by exact tW aQ hs b1),H2.below⟩
  refine sk<|aI<|nx<|rg<|k<|add J J s3 J aV<|ak (v:=C ((j:Int)+1)) J J<|z ?_
  refine bB _ ?_ ⟨(j+1),J,s0,s1,s2,(bJ J),H2,aq,(by exact pe aQ hs b1)⟩
  omega
 have p0:=dF b0
 refine ex<|aX<|bf<|bg<|cI<|au (v:=C (-1)) J J<|av<|rt<|r1 J J ?_
 exact⟨amh (Value.int .i64) (by exact uK hs aq),H1.below⟩
theorem GY {r:List (Bool×ByteArray×Int)} {p:(Bool×ByteArray×Int)→Bool} (hM:eD M w) (mT:cw M w jC jQ r) (zW:FP aJ pY qb M w r p):Calls aJ 75 #[R jC r jQ,.func (.func pY) #[] qb.toArray] w (cb fun v w'=>v=.bool (r.any p)∧Ext w w'):=by
 refine df 9 Tryz.func75 J J J hM fun f0 ha H=>?_
 have H0:=ee H mT
 have AR:=aP mT
 have i0:f0 0=R jC r jQ:=ha 0 bh
 have i1:f0 1=.func (.func pY) #[] qb.toArray:=ha 1 bh
 refine aB<|au (v:=.bool false) J J<|bt<|ak J i0<|ak J i1<|k ?_
 have bP:=Lr (r:=r) (p:=p) H0.mb (H0.rv 0 J)<|zW.sub H0.below T3
 refine ca ae0 J (ec J<|ec J e0) bP ?_
 rintro _ w0 ⟨rfl,bS⟩
 have H1:=H0.ext bS
 refine k<|geq J J J J<|au (v:=.bool (decide (0≤(eF p r)))) J J<|av<|rt<|r1 J J ?_
 exact⟨amh Value.bool (by exact wW),H1.below⟩
set_option maxRecDepth 100000 in
set_option maxHeartbeats 1600000 in
def Ll:Go.Shelf.Ren:=⟨fun|4=>146|n=>n,fun|22=>40|25=>43|3=>3|4=>4|9=>9|20=>20|0=>0|n=>n,fun|n=>n⟩
theorem Lm:Go.Proofs.Lays8.n4 aJ Ll:={
  mixed:=aM
  f4:=⟨Tryz.f146.name,by decide,Tryz.func146.trans (amh some (by kernel_rfl))⟩
  t0:=Tryz.underlying0
  a0:=Tryz.isAgg0
  z0:=Tryz.sizeOf0
  v0:=Tryz.zeroValue0
  t3:=Tryz.underlying3
  a3:=Tryz.isAgg3
  z3:=Tryz.sizeOf3
  v3:=Tryz.zeroValue3
  t4:=Tryz.underlying4
  a4:=Tryz.isAgg4
  z4:=Tryz.sizeOf4
  v4:=Tryz.zeroValue4
  t9:=Tryz.underlying9
  a9:=Tryz.isAgg9
  z9:=Tryz.sizeOf9
  v9:=Tryz.zeroValue9
  t20:=Tryz.underlying20
  a20:=Tryz.isAgg20
  z20:=Tryz.sizeOf20
  v20:=Tryz.zeroValue20
  t22:=Tryz.underlying40
  a22:=Tryz.isAgg40
  z22:=Tryz.sizeOf40
  v22:=Tryz.zeroValue40}
theorem Zm {Wm:OA} {U0 V3:Nat} {Kx:Int} (hM:eD M w) (ak3:aK Kx) (Bo:Wm=none∧U0=0∧V3=0) (ali:0≤Kx∧Kx≤1048576):Calls aJ 146 #[.slice Wm U0 V3,C Kx] w (cb fun v w'=>∃(a0:OA) (c0:Nat),v=.slice a0 ([]:List (Bool×ByteArray×Int)).length c0∧Ext w w'∧bj M 43 w ([]:List (Bool×ByteArray×Int)) (.slice a0 ([]:List (Bool×ByteArray×Int)).length c0) w'):=by
  obtain⟨rfl,rfl,rfl⟩:=Bo
  obtain⟨m,rfl⟩:∃m:Nat,Kx=((m:Nat):Int):=⟨Kx.toNat,by omega⟩
  by_cases h0:m=0
  · subst h0
    refine(Go.Proofs.Any8.slices_Grow_room Lm none 0 0 0 w aq aq aq aq).mono ?_
    rintro e w' ⟨rfl,rfl⟩
    unfold cb
    exact⟨_,J,none,0,J,Ext.refl _,fL (Ext.refl _)⟩
  · have tz:(aJ.info? 43).map (fun i=>(i.size,i.bytes,i.zero))=some (3,32,some (.agg #[.bool false,.string ⟨#[]⟩,.int .i64 0])):=aM
    obtain⟨i0,I5,sh⟩:=amI.1 tz
    simp only[am0] at sh
    obtain⟨e1,e2,e3⟩:=sh
    refine(Go.Proofs.Any8.slices_Grow_grow Lm i0 (.agg #[.bool false,.string ⟨#[]⟩,.int .i64 0]) I5 e3 aq none 0 0 m [] w aq aq (by rw[e2];omega) aq bh (fun _=>rfl)<|fun a h=>by cases h).mono ?_
    rintro e w' ⟨rfl,rfl⟩
    unfold cb
    exact⟨_,J,_,_,J,(Ext.drew w).trans (Ext.alloc _ _),SQ (z:=.agg #[.bool false,.string ⟨#[]⟩,.int .i64 0]) rfl aq⟩
theorem To (hM:eD M w) (kh:cw M w gq gp h) (lE:h.flatten.length≤1048576):Calls aJ 112 #[R gq h gp] w (cb fun v w'=>∃(a0:OA) (c0:Nat),v=.slice a0 h.flatten.length c0∧Ext w w'∧bj M 43 w h.flatten (.slice a0 h.flatten.length c0) w'):=by
 refine df 36 Tryz.func112 J J J hM fun f0 ha H=>?_
 have H0:=ee H kh
 have vi:=aP kh
 have i0:f0 0=R gq h gp:=ha 0 bh
 refine aB<|au (v:=.slice none 0 0) J J<|bt<|au (v:=C 0) J J<|av<|sq<|aB<|ak J i0<|k<|dW J J rP<|ak (v:=C 0) J J<|av<|bk ?_
 refine lp (fun m f w'=>∃(j_:Nat),m=h.length-j_∧f 0=R gq h gp∧f 3=C ((((h.take j_).flatten).length:Nat):Int)∧f 9=R gq h gp∧f 10=C (h.length:Int)∧f 11=C (j_:Int)∧HI M w w' [iL gq h gp]∧(j_≤h.length)) _ ⟨0,J,i0,(bJ J),J,J,(bJ J),H0,aq⟩ ?_
 rintro _ f0 w0 ⟨j_,rfl,s0,s1,s2,s3,s4,H1,pt⟩
 refine aB<|k<|lss J J s4 s3<|av<|sq ?_
 refine cd (b:=decide ((j_:Int)<(h.length:Int))) J J (fun b0=>?_)<|fun b0=>?_
 ·
  have p0:=dT b0
  refine sk<|nx<|sq<|bk<|aB<|k<|ia (H1.rv 0 J) J J s2 s4 aq rP tK ?_
  intro iw x0 aQ cu
  refine k<|vB cu.w tK J J ?_
  intro a0 c0 cm
  have uH:=aP cm
  have H2:=ee H1 cm
  refine au (v:=R a0 x0 c0) J J<|bt<|ak J s1<|ak (v:=R a0 x0 c0) J J<|k<|dW J J pL<|k<|add J J J J (by have h_:=uc aQ;unfold aK at *;omega)<|au (v:=C (((((h.take j_).flatten).length:Nat):Int)+(x0.length:Int))) J J<|bt<|ak (v:=C (((((h.take j_).flatten).length:Nat):Int)+(x0.length:Int))) J J<|k<|lss J J J J<|z<|nx ?_
  have Bi:(decide ((((((h.take j_).flatten).length:Nat):Int)+(x0.length:Int))<0))=false:=(by rw[amy];omega)
  refine nP J J Bi<|sk<|aI<|nx<|rg<|k<|add J J s4 J (by have h_:=uc aQ;unfold aK at *;omega)<|ak (v:=C ((j_:Int)+1)) J J<|z ?_
  have H3:HI M w w0 [iL gq h gp]:=H2.bT [1] aw rfl
  refine bB _ ?_ ⟨(j_+1),J,s0,(ieq J<|by rw[uT aQ,gf];omega),s2,s3,(bJ J),H3,aq⟩
  omega
 have p0:=dF b0
 refine ex<|aX<|bf<|bg<|cI<|ak J s1<|k ?_
 have bP:=Zm (Kx:=((((h.take j_).flatten).length:Nat):Int)) (Wm:=none) (U0:=0) (V3:=0) H1.mb (by have h_:=S4 h j_;unfold aK at *;omega) (by exact⟨J,J,J⟩)<|by rw[lV aq] at *;omega
 refine ca aeJ J (ec J<|ec J e0) bP ?_
 rintro _ w1 ⟨a0,c0,rfl,bS,cm⟩
 have H2:=H1.eI cm
 refine au (v:=R a0 ([]:List (Bool×ByteArray×Int)) c0) J J<|av<|sq<|aB<|ak J s0<|k<|dW J J rP<|ak (v:=C 0) J J<|av<|bk ?_
 refine lp (fun m f w'=>∃(i_:Nat) (nF:List (Bool×ByteArray×Int)) (a1:OA) (c1:Nat),m=h.length-i_∧f 6=R a1 nF c1∧f 25=R gq h gp∧f 26=C (h.length:Int)∧f 27=C (i_:Int)∧HI M w w' [oL w 43 a1 nF c1,iL gq h gp]∧(i_≤h.length)∧(nF=(h.take i_).flatten)) _ ⟨0,([]:List (Bool×ByteArray×Int)),a0,c0,J,J,J,J,(bJ J),H2,aq,(by rfl)⟩ ?_
 rintro _ f1 w2 ⟨i_,nF,a1,c1,rfl,s5,s6,s7,s8,H3,pt,hs⟩
 refine aB<|k<|lss J J s8 s7<|av<|sq ?_
 refine cd (b:=decide ((i_:Int)<(h.length:Int))) J J (fun b1=>?_)<|fun b1=>?_
 ·
  have p1:=dT b1
  refine sk<|nx<|sq<|bk<|aB<|k<|ia (H3.rv 1 J) J J s6 s8 aq rP tK ?_
  intro iw x0 aQ cu
  refine k<|vB cu.w tK J J ?_
  intro a2 c2 dM
  have uH:=aP dM
  have H4:=ee H3 dM
  refine au (v:=R a2 x0 c2) J J<|av<|rg<|ak J s5<|ak (v:=R a2 x0 c2) J J<|k<|l9 H4 1 J J J J J J (H4.rv 0 J).src pL iu J (by have h_:=uc aQ;rw[hs];omega) J ?_
  intro a3 c3 w3 (H5:HI M w w3 [iL a2 x0 c2,oL w 43 a3 (nF++x0) c3,iL gq h gp])
  refine au (v:=R a3 (nF++x0) c3) J J<|z<|aI<|nx<|rg<|k<|add J J s8 J (by have h_:=uc aQ;unfold aK at *;omega)<|ak (v:=C ((i_:Int)+1)) J J<|z ?_
  have H6:HI M w w3 [oL w 43 a3 (nF++x0) c3,iL gq h gp]:=H5.bT [1,2] aw rfl
  refine bB _ ?_ ⟨(i_+1),(nF++x0),a3,c3,J,J,s6,s7,(bJ J),H6,aq,(by rw[hs,uT aQ])⟩
  omega
 have p1:=dF b1
 refine ex<|aX<|bf<|bg<|cI<|ak J s5<|au (v:=R a1 nF c1) J J<|av<|rt<|r1 J J ?_
 have e0:(nF:List (Bool×ByteArray×Int))=h.flatten:=by rw[hs,lV aq]
 have bo:=iq (fun (bV:List (Bool×ByteArray×Int))=>(.slice a1 bV.length c1:Value)) e0
 exact⟨a1,c1,bo,H3.below,(amh (fun (x_:List (Bool×ByteArray×Int))=>bj _ _ _ x_ (.slice a1 x_.length c1) _) e0).mp (H3.da 0 J)⟩
theorem Sx (hM:eD M w) (kh:cw M w gq gp h) (lE:h.flatten.length≤1048576):Calls aJ 74 #[R gq h gp] w (cb fun v w'=>∃(a0:OA) (c0:Nat),v=.slice a0 h.flatten.length c0∧Ext w w'∧bj M 43 w h.flatten (.slice a0 h.flatten.length c0) w'):=by
 refine df 5 Tryz.func74 J J J hM fun f0 ha H=>?_
 have H0:=ee H kh
 have vi:=aP kh
 have i0:f0 0=R gq h gp:=ha 0 bh
 refine aB<|au (v:=.slice none 0 0) J J<|bt<|ak J i0<|k ?_
 have bP:=To (h:=h) H0.mb (H0.rv 0 J)<|by exact lE
 refine ca ae1 J (ec J e0) bP ?_
 rintro _ w0 ⟨a0,c0,rfl,bS,cm⟩
 have H1:=H0.eI cm
 refine au (v:=R a0 h.flatten c0) J J<|av<|rt<|r1 J J ?_
 exact⟨a0,c0,J,H1.below,(H1.da 0 J)⟩
theorem P6 (hM:eD M w) (kh:cw M w gq gp h) (lE:h.flatten.length≤1048576):Calls aJ 51 #[R gq h gp] w (cb fun v w'=>v=.bool (jt h)∧Ext w w'):=by
 refine df 14 Tryz.func51 J J J hM fun f0 ha H=>?_
 have H0:=ee H kh
 have vi:=aP kh
 have i0:f0 0=R gq h gp:=ha 0 bh
 refine aB<|au (v:=.bool false) J J<|bt<|ak J i0<|k ?_
 have bP:=Sx (h:=h) H0.mb (H0.rv 0 J)<|by exact lE
 refine ca ah3 J (ec J e0) bP ?_
 rintro _ w0 ⟨a0,c0,rfl,bS,cm⟩
 have H1:=H0.eI cm
 refine au (v:=R a0 h.flatten c0) J J<|bt<|ak (v:=R a0 h.flatten c0) J J<|k<|dW J J pL<|k<|leq J J J J<|ak (v:=.bool (decide ((h.flatten.length:Int)≤4096))) J J ?_
 rcases bE (decide ((h.flatten.length:Int)≤4096)) with b0|b0
 ·
  have p0:=dT b0
  refine aT J J J b0<|mv (v:=R a0 h.flatten c0) J J<|aT J J J b0 ?_
  have H2:=H1.freeze 0 J
  have cV:=GY (r:=h.flatten) (p:=(fun (x_:(Bool×ByteArray×Int))=>(!(mg x_.2.1)))) H2.mb (H2.rv 0 J) ⟨ah1,fun w_ v_ x_ sV e_ Gu=>by have H_:=H2.ext e_;obtain⟨_,⟨_,_,rfl,rfl,⟨_,_,rfl,⟨rfl,dM⟩,⟨rfl,dV⟩⟩⟩,rfl⟩:=Gu;exact Nh dM dV⟩
  refine ca ah2 J (ec J<|ec J e0) cV ?_
  rintro _ w1 ⟨rfl,cY⟩
  have H3:=H1.ext cY
  refine aT J J J b0<|jE J J<|k<|aR J J J J b0 J<|au (v:=.bool (!(h.flatten.any<|fun (x_:(Bool×ByteArray×Int))=>(!(mg x_.2.1))))) J J<|av<|rt<|r1 J J ?_
  exact⟨amh Value.bool (by rw[DR];simp only[b0,BL]),H3.below⟩
 have p0:=dF b0
 refine aN J J J b0<|aN J J J b0<|aN J J J b0<|k<|cK J J J J b0 J<|au (v:=.bool false) J J<|av<|rt<|r1 J J ?_
 exact⟨amh Value.bool (by rw[DR];simp only[b0,BL]),H1.below⟩
theorem ah9:ct aJ 51:=⟨_,_,Tryz.func51,rfl,aM⟩
theorem aaY:QI aJ 98:=W5 (by kernel_rfl:aJ.underlying 98=some (.map 9 3)) (Vc mu) aW rfl
theorem Sb (hM:eD M w) (kh:cw M w gq gp h) (lE:h.flatten.length≤1048576):Calls aJ 26 #[R gq h gp] w (cb fun v w'=>∃(a0:OA) (c0:Nat) (a1:OA) (c1:Nat) (a2:OA) (c2:Nat),v=.tuple #[.agg #[.slice a0 (l6 h).length c0,.slice a1 (cN h).length c1,.slice a2 ([]:List Int).length c2],C (k0 h)]∧Ext w w'∧RV M w' (.slice a0 (l6 h).length c0) (l6 h)∧RV M w' (.slice a1 (cN h).length c1) (cN h)∧RV M w' (.slice a2 ([]:List Int).length c2) ([]:List Int)):=by
 refine df 70 Tryz.func26 J J J hM fun f0 ha H=>?_
 let J0:=iL gq h gp
 have H0:=H.put (it:=J0) J<|by rw[bN];exact kh
 have vi:=aP kh
 have i0:f0 0=R gq h gp:=ha 0 bh
 refine aB<|k<|al H0 dx ?_
 intro aY w0 bS (H1:HI M w w0 [box aY #[.slice none 0 0,.slice none 0 0,.slice none 0 0] 47,J0])
 let J1:=box aY #[.slice none 0 0,.slice none 0 0,.slice none 0 0] 47
 refine au (v:=C 0) J J<|av<|sq<|aB<|ak J i0<|k ?_
 have bP:=P6 (h:=h) H1.mb (H1.rv 1 J)<|by exact lE
 refine ca ah9 J (ec J e0) bP ?_
 rintro _ w1 ⟨rfl,cY⟩
 have H2:=H1.ext cY
 refine k<|jE J J<|z<|nx ?_
 refine cd (b:=!(jt h)) J J (fun b0=>?_)<|fun b0=>?_
 ·
  refine sq ?_
  have hq:jt h=false:=by simpa using b0
  refine rg<|k<|bd (v:=.agg #[.slice none 0 0,.slice none 0 0,.slice none 0 0]) J ey (fun _=>aM)<|k<|bp H2 0 J dx J J J J J J J ?_
  intro w2 (H3:HI M w w2 [J1,J0])
  refine au (v:=C 1) J J<|av<|rt<|aL<|ib H3 0 J dx J J J J J aw ?_
  have e0:([]:List ByteArray)=l6 h:=by exact(wO hq).1.symm
  have e1:([]:List aH)=cN h:=by exact(wO hq).2.1.symm
  have e3:(1:Int)=k0 h:=by exact(wO hq).2.2.symm
  have bo:=qH (fun (bV:List ByteArray) (dI:List aH) (ly:Int)=>(.tuple #[.agg #[.slice none bV.length 0,.slice none dI.length 0,.slice none ([]:List Int).length 0],C ly]:Value)) e0 e1 e3
  exact⟨none,0,none,0,none,0,bo,H3.below,(amh (fun (x_:List ByteArray)=>RV _ _ (.slice none x_.length 0) x_) e0).mp (d_ _ _),(amh (fun (x_:List aH)=>RV _ _ (.slice none x_.length 0) x_) e1).mp (d_ _ _),(d_ _ _)⟩
 refine sk<|nx<|sq ?_
 have hq:jt h=true:=by simpa using b0
 refine rg<|k<|al H2 dx ?_
 let bc:=[J1,J0]
 intro ba w2 eT (H3:HI M w w2 (box ba #[.slice none 0 0,.slice none 0 0,.slice none 0 0] 47::bc))
 refine bt<|k<|mmS H3 ?_
 intro dA w3 fB (H4:HI M w w3 [sR dA ([]:List (ByteArray×Int)),box ba #[.slice none 0 0,.slice none 0 0,.slice none 0 0] 47,J1,J0])
 refine au (v:=.map (some dA)) J J<|av<|sq<|aB<|ak J i0<|k<|dW J J rP<|ak (v:=C 0) J J<|av<|bk ?_
 have H5:=H4.re ByteArray 9
 have H6:=H5.re aH 95
 refine lp (fun m f w'=>∃(i:Nat) (vs:List ByteArray) (aG:List aH) (jP:List (ByteArray×Int)) (a0:OA) (c0:Nat) (a1:OA) (c1:Nat),m=h.length-i∧f 2=pV aY 0∧f 4=pV ba 0∧f 5=.map (some dA)∧f 17=R gq h gp∧f 18=C (h.length:Int)∧f 19=C (i:Int)∧HI M w w' [oL w 95 a1 aG c1,oL w 9 a0 vs c0,sR dA jP,box ba #[R a0 vs c0,R a1 aG c1,.slice none 0 0] 47,J1,J0]∧(i≤h.length)∧(vs=(jy h i).1)∧(aG=(jy h i).2)∧(Bg vs jP)) _ ⟨0,([]:List ByteArray),([]:List aH),([]:List (ByteArray×Int)),none,0,none,0,J,J,J,J,J,J,(bJ J),H6,aq,(by rfl),(by rfl),(by exact U5)⟩ ?_
 rintro _ f0 w4 ⟨i,vs,aG,jP,a0,c0,a1,c1,rfl,s0,s1,s2,s3,s4,s5,H7,Xt,h1,h2,hm⟩
 refine aB<|k<|lss J J s5 s4<|av<|sq ?_
 refine cd (b:=decide ((i:Int)<(h.length:Int))) J J (fun b1=>?_)<|fun b1=>?_
 ·
  have p1:=dT b1
  refine sk<|nx<|sq<|bk<|aB<|ak J s5<|k<|ia (H7.rv 5 J) J J s3 s5 aq rP tK ?_
  intro iw x0 aQ cu
  refine k<|vB cu.w tK J J ?_
  intro a2 c2 cm
  have uH:=aP cm
  let J2:=iL a2 x0 c2
  have H8:=H7.put (it:=J2) J cm
  refine au (v:=C (i:Int)) J J<|au (v:=R a2 x0 c2) J J<|bt<|ak (v:=R a2 x0 c2) J J<|k<|dW J J pL<|ak (v:=C 0) J J<|av<|bk ?_
  refine lp (fun m f w'=>∃(q:Nat) (lA:List ByteArray) (pO:List aH) (ky:List (ByteArray×Int)) (a3:OA) (c3:Nat) (a4:OA) (c4:Nat),m=(h.getD i []).length-q∧f 2=pV aY 0∧f 4=pV ba 0∧f 5=.map (some dA)∧f 6=C (i:Int)∧f 17=R gq h gp∧f 18=C (h.length:Int)∧f 19=C (i:Int)∧f 24=R a2 x0 c2∧f 25=C (x0.length:Int)∧f 26=C (q:Int)∧HI M w w' [J2,oL w 95 a4 pO c4,oL w 9 a3 lA c3,sR dA ky,box ba #[R a3 lA c3,R a4 pO c4,.slice none 0 0] 47,J1,J0]∧(q≤(h.getD i []).length)∧(lA=(jG i (jy h i) (h.getD i []) q).1)∧(pO=(jG i (jy h i) (h.getD i []) q).2)∧(Bg lA ky)) _ ⟨0,vs,aG,jP,a0,c0,a1,c1,J,s0,s1,s2,J,s3,s4,s5,J,J,(bJ J),H8,aq,(by exact h1),(by exact h2),(by exact hm)⟩ ?_
  rintro _ f1 w5 ⟨q,lA,pO,ky,a3,c3,a4,c4,rfl,s6,s7,s8,s9,ej,eY,fK,fJ,gx,gP,H9,hk,h1,h2,hm⟩
  refine aB<|k<|lss J J gP gx<|av<|sq ?_
  refine cd (b:=decide ((q:Int)<(x0.length:Int))) J J (fun b2=>?_)<|fun b2=>?_
  ·
   have p2:=dT b2
   refine sk<|nx<|sq<|bk<|aB<|ak J gP<|k<|ia (H9.rv 0 J) J J fJ gP aq pL iu ?_
   intro rD x1 cP gK
   refine k<|nj gK.w iu J J ?_
   intro v0 dM
   obtain⟨_,⟨_,_,rfl,rfl,⟨_,_,rfl,⟨rfl,dV⟩,⟨rfl,fq⟩⟩⟩,rfl⟩:=dM
   refine k<|al H9 iu ?_
   let J3:=oL w 95 a4 pO c4
   let J4:=oL w 9 a3 lA c3
   let J5:=box ba #[R a3 lA c3,R a4 pO c4,.slice none 0 0] 47
   let bY:=J4::sR dA ky::J5::bc
   intro bD w6 iN (dC:HI M w w6 (box bD #[.bool false,.string ⟨#[]⟩,C 0] 43::J2::J3::bY))
   refine au (v:=C (q:Int)) J J<|k<|bp dC 0 J iu J J J J J J J ?_
   let J6:=box bD #[.bool x1.1,.string x1.2.1,C x1.2.2] 43
   intro w7 (cT:HI M w w7 (J6::J2::J3::bY))
   refine bt<|ak J s8<|aU mW J J<|bl cT 0 J nW J J J<|k<|ag2 (k:=x1.2.1) aaY cT 4 J J J J J ?_
   intro iU
   refine ak (v:=.tuple #[C ((fH ky x1.2.1).getD 0),.bool ((fH ky x1.2.1).isSome)]) J J<|k<|xt J J J<|k<|xt J J J<|au (v:=C ((fH ky x1.2.1).getD 0)) J J<|au (v:=.bool ((fH ky x1.2.1).isSome)) J J<|av<|sq<|aB<|ak (v:=.bool ((fH ky x1.2.1).isSome)) J J<|k<|jE J J<|z<|nx ?_
   refine cd (b:=!((fH ky x1.2.1).isSome)) J J (fun b3=>?_)<|fun b3=>?_
   ·
    refine aB<|aU uV J s7<|bl cT 5 J BN J J J<|k<|dW J J Hm<|au (v:=C (lA.length:Int)) J J<|bt<|ak J s8<|aU mW J J<|bl cT 0 J nW J J J<|ak (v:=C (lA.length:Int)) J J<|k<|ag0 (k:=x1.2.1) (v:=(lA.length:Int)) aaY cT 4 J J J J J J J (by have h3:=pH (k:=q) aQ aq;rw[←fl aQ,←h1,←h2] at h3;unfold aK;omega) ?_
    let dE:=sR dA (lB ky x1.2.1 (lA.length:Int))::J5::bc
    intro w8 (dt:HI M w w8 (J6::J2::J3::J4::dE))
    refine av<|rg<|aU uV J s7<|bl dt 5 J BN J J J<|aU mW J J<|bl dt 0 J nW J J J<|k<|bs (xs:=([x1.2.1]:List ByteArray)) (cells:=#[.string x1.2.1]) (e:=9) dt J (cj J ey) (fun _=>aM) ⟨[.string x1.2.1],[],J,⟨J,bq⟩,J⟩ J aw ?_
    intro g0 w9 jb dw
    refine k<|l9 dw 4 J J J J J J (gT<|dw.at_ 0 J) Hm nW J (by have h_:=pH (k:=q) aQ aq;rw[←fl aQ,←h1,←h2] at h_;simp only[iB,gm];omega) J ?_
    let J7:=own w.heap.size 9 (.slice (some ⟨g0,0,none⟩) 1 1) ([x1.2.1]:List ByteArray)
    intro a5 c5 dD (cJ:HI M w dD (J7::J6::J2::J3::oL w 9 a5 (lA++([x1.2.1]:List ByteArray)) c5::dE))
    let J8:=oL w 9 a5 (lA++([x1.2.1]:List ByteArray)) c5
    refine aU uV J s7<|k<|bp cJ 6 J BN J J J J J J J ?_
    let J9:=box ba #[R a5 (lA++([x1.2.1]:List ByteArray)) c5,R a4 pO c4,.slice none 0 0] 47
    let iH:=J8::sR dA (lB ky x1.2.1 (lA.length:Int))::J9::bc
    intro eb (dS:HI M w eb (J7::J6::J2::J3::iH))
    refine av<|rg<|aU fy J s7<|bl dS 6 J iR J J J<|ak J s9<|ak (v:=C (q:Int)) J J<|aU py J J<|bl dS 1 J l5 J J J<|ak (v:=C (lA.length:Int)) J J<|aU qD J J<|bl dS 1 J aW J J J<|k<|bd (v:=.agg #[C (i:Int),C (q:Int),.bool x1.1,C (lA.length:Int),C x1.2.2]) J (cj J<|cj J<|cj J<|cj J<|cj J ey) (fun _=>aM)<|k<|bs (xs:=([((i:Int),(q:Int),x1.1,(lA.length:Int),x1.2.2)]:List aH)) (cells:=#[C (i:Int),C (q:Int),.bool x1.1,C (lA.length:Int),C x1.2.2]) (e:=95) dS J (cj J ey) (fun _=>aM) ⟨[C (i:Int),C (q:Int),.bool x1.1,C (lA.length:Int),C x1.2.2],[],J,⟨_,_,J,⟨J,(show aK ((i:Int)) from aV)⟩,⟨_,_,J,⟨J,(show aK ((q:Int)) from aV)⟩,⟨_,_,J,J,⟨_,_,J,⟨J,(show aK ((lA.length:Int)) from(by have h3:=pH (k:=q) aQ aq;rw[←fl aQ,←h1,←h2] at h3;unfold aK;omega))⟩,⟨J,(show aK (x1.2.2) from bq)⟩⟩⟩⟩⟩,J⟩ J aw ?_
    intro g1 ff kf de
    refine k<|l9 de 4 J J J J J J (gT<|de.at_ 0 J) jn jr J (by have h_:=pH (k:=q) aQ aq;rw[←fl aQ,←h1,←h2] at h_;simp only[iB,gm];omega) J ?_
    let dK:=own w.heap.size 95 (.slice (some ⟨g1,0,none⟩) 1 1) ([((i:Int),(q:Int),x1.1,(lA.length:Int),x1.2.2)]:List aH)
    intro a6 c6 hQ (cO:HI M w hQ (dK::J7::J6::J2::oL w 95 a6 (pO++([((i:Int),(q:Int),x1.1,(lA.length:Int),x1.2.2)]:List aH)) c6::iH))
    let ez:=oL w 95 a6 (pO++([((i:Int),(q:Int),x1.1,(lA.length:Int),x1.2.2)]:List aH)) c6
    refine aU fy J s7<|k<|bp cO 7 J iR J J J J J J J ?_
    let fR:=box ba #[R a5 (lA++([x1.2.1]:List ByteArray)) c5,R a6 (pO++([((i:Int),(q:Int),x1.1,(lA.length:Int),x1.2.2)]:List aH)) c6,.slice none 0 0] 47
    let eW:=J2::ez::J8::sR dA (lB ky x1.2.1 (lA.length:Int))::fR::bc
    intro iO (dP:HI M w iO (dK::J7::J6::eW))
    refine z<|aI<|nx<|rg<|k<|add J J gP J aV<|ak (v:=C ((q:Int)+1)) J J<|z ?_
    have dG:HI M w iO eW:=dP.bT [3,4,5,6,7,8,9] aw rfl
    refine bB _ ?_ ⟨(q+1),(lA++([x1.2.1]:List ByteArray)),(pO++([((i:Int),(q:Int),x1.1,(lA.length:Int),x1.2.2)]:List aH)),(lB ky x1.2.1 (lA.length:Int)),a5,c5,a6,c6,J,s6,s7,s8,s9,ej,eY,fK,fJ,gx,(bJ J),dG,(by rw[fl aQ] at *;omega),(by exact(Of h1 h2 hm aQ cP<|fY b3).1),(by exact(Of h1 h2 hm aQ cP<|fY b3).2),(by exact U4 hm (fY b3))⟩
    rw[fl aQ] at *;omega
   refine sk<|nx<|rg<|aU fy J s7<|bl cT 5 J iR J J J<|ak J s9<|ak (v:=C (q:Int)) J J<|aU py J J<|bl cT 0 J l5 J J J<|ak (v:=C ((fH ky x1.2.1).getD 0)) J J<|aU qD J J<|bl cT 0 J aW J J J<|k<|bd (v:=.agg #[C (i:Int),C (q:Int),.bool x1.1,C ((fH ky x1.2.1).getD 0),C x1.2.2]) J (cj J<|cj J<|cj J<|cj J<|cj J ey) (fun _=>aM)<|k<|bs (xs:=([((i:Int),(q:Int),x1.1,(fH ky x1.2.1).getD 0,x1.2.2)]:List aH)) (cells:=#[C (i:Int),C (q:Int),.bool x1.1,C ((fH ky x1.2.1).getD 0),C x1.2.2]) (e:=95) cT J (cj J ey) (fun _=>aM) ⟨[C (i:Int),C (q:Int),.bool x1.1,C ((fH ky x1.2.1).getD 0),C x1.2.2],[],J,⟨_,_,J,⟨J,(show aK ((i:Int)) from aV)⟩,⟨_,_,J,⟨J,(show aK ((q:Int)) from aV)⟩,⟨_,_,J,J,⟨_,_,J,⟨J,(show aK ((fH ky x1.2.1).getD 0) from bq)⟩,⟨J,(show aK (x1.2.2) from bq)⟩⟩⟩⟩⟩,J⟩ J aw ?_
   intro g0 w8 jb dt
   refine k<|l9 dt 3 J J J J J J (gT<|dt.at_ 0 J) jn jr J (by have h_:=pH (k:=q) aQ aq;rw[←fl aQ,←h1,←h2] at h_;simp only[iB,gm];omega) J ?_
   let fw:=own w.heap.size 95 (.slice (some ⟨g0,0,none⟩) 1 1) ([((i:Int),(q:Int),x1.1,(fH ky x1.2.1).getD 0,x1.2.2)]:List aH)
   intro a5 c5 w9 (dw:HI M w w9 (fw::J6::J2::oL w 95 a5 (pO++([((i:Int),(q:Int),x1.1,(fH ky x1.2.1).getD 0,x1.2.2)]:List aH)) c5::bY))
   let hG:=oL w 95 a5 (pO++([((i:Int),(q:Int),x1.1,(fH ky x1.2.1).getD 0,x1.2.2)]:List aH)) c5
   refine aU fy J s7<|k<|bp dw 6 J iR J J J J J J J ?_
   let nt:=box ba #[R a3 lA c3,R a5 (pO++([((i:Int),(q:Int),x1.1,(fH ky x1.2.1).getD 0,x1.2.2)]:List aH)) c5,.slice none 0 0] 47
   let lg:=J2::hG::J4::sR dA ky::nt::bc
   intro dD (cJ:HI M w dD (fw::J6::lg))
   refine z<|aI<|nx<|rg<|k<|add J J gP J aV<|ak (v:=C ((q:Int)+1)) J J<|z ?_
   have dS:HI M w dD lg:=cJ.bT [2,3,4,5,6,7,8] aw rfl
   refine bB _ ?_ ⟨(q+1),lA,(pO++([((i:Int),(q:Int),x1.1,(fH ky x1.2.1).getD 0,x1.2.2)]:List aH)),ky,a3,c3,a5,c5,J,s6,s7,s8,s9,ej,eY,fK,fJ,gx,(bJ J),dS,(by rw[fl aQ] at *;omega),(by exact(Oe h1 h2 hm aQ cP<|fk b3).1),(by exact(Oe h1 h2 hm aQ cP<|fk b3).2),(by exact hm)⟩
   rw[fl aQ] at *;omega
  have p2:=dF b2
  refine ex<|aX<|bf<|bg<|aI<|nx<|rg<|k<|add J J fK J aV<|ak (v:=C ((i:Int)+1)) J J<|z ?_
  have dC:HI M w w5 [oL w 95 a4 pO c4,oL w 9 a3 lA c3,sR dA ky,box ba #[R a3 lA c3,R a4 pO c4,.slice none 0 0] 47,J1,J0]:=H9.bT [1,2,3,4,5,6] aw rfl
  refine bB _ ?_ ⟨(i+1),lA,pO,ky,a3,c3,a4,c4,J,s6,s7,s8,ej,eY,(bJ J),dC,aq,(by rw[h1,Bb aq (by rw[fl aQ];omega)]),(by rw[h2,Bb aq (by rw[fl aQ];omega)]),(by exact hm)⟩
  omega
 have p1:=dF b1
 refine ex<|aX<|bf<|bg<|cI<|k<|cq H7 3 J dx J s1 aw J<|k<|bp H7 4 J dx J J s0 J J J J ?_
 intro w5 (H8:HI M w w5 [oL w 95 a1 aG c1,oL w 9 a0 vs c0,sR dA jP,box ba #[R a0 vs c0,R a1 aG c1,.slice none 0 0] 47,box aY #[R a0 vs c0,R a1 aG c1,.slice none 0 0] 47,J0])
 refine au (v:=C 0) J J<|av<|rt<|ib H8 4 J dx J J J s0 J aw ?_
 have e0:(vs:List ByteArray)=l6 h:=by rw[(xU hq).1,h1];unfold J';rw[show i=h.length from by omega]
 have e1:(aG:List aH)=cN h:=by rw[(xU hq).2.1,h2];unfold Dz;rw[show i=h.length from by omega]
 have e3:(0:Int)=k0 h:=by exact(xU hq).2.2.symm
 have bo:=qH (fun (bV:List ByteArray) (dI:List aH) (ly:Int)=>(.tuple #[.agg #[.slice a0 bV.length c0,.slice a1 dI.length c1,.slice none ([]:List Int).length 0],C ly]:Value)) e0 e1 e3
 exact⟨a0,c0,a1,c1,none,0,bo,H8.below,(amh (fun (x_:List ByteArray)=>RV _ _ (.slice a0 x_.length c0) x_) e0).mp (H8.me 1 J),(amh (fun (x_:List aH)=>RV _ _ (.slice a1 x_.length c1) x_) e1).mp (H8.me 0 J),(d_ _ _)⟩
theorem kN:eh aJ 35 19 true 216 (.agg #[.int .i64 0,.int .i64 0,.int .i64 0,.int .i64 0,.int .i64 0,.bool false,.int .i64 0,.int .i64 0,.slice none 0 0,.slice none 0 0,.slice none 0 0,.int .i64 0,.int .i64 0,.int .i64 0,.int .i64 0,.int .i64 0,.slice none 0 0,.int .i64 0,.int .i64 0]):=⟨aM,aM⟩
theorem aio:ct aJ 26:=⟨_,_,Tryz.func26,rfl,aM⟩
theorem acE:ct aJ 21:=⟨_,_,Tryz.func21,rfl,aM⟩
theorem ain:ct aJ 27:=⟨_,_,Tryz.func27,rfl,aM⟩
theorem aim:ct aJ 28:=⟨_,_,Tryz.func28,rfl,aM⟩
theorem ail:ct aJ 29:=⟨_,_,Tryz.func29,rfl,aM⟩
theorem aik:ct aJ 30:=⟨_,_,Tryz.func30,rfl,aM⟩
theorem rI (hM:eD M w) (hT:fQ 0 w) (kh:cw M w gq gp h) (oY:aK lv) (lE:h.flatten.length≤1048576) (akU:h.flatten.length≤64):Calls aJ 15 #[R gq h gp,C lv] w (cb fun v w'=>∃(lc_:Int) (nc_:Int) (Rw:List (List bX)) (TY:List Int) (Rx:List (List Int)) (iP:List cH) (fw_:Int) (nw_:Int) (a0:OA) (c0:Nat) (a1:OA) (c1:Nat) (a2:OA) (c2:Nat) (a3:OA) (c3:Nat),v=.agg #[C (oO h lv),C 0,C ((mz h lv).1),C ((mz h lv).2),C (sW h lv),.bool (kC h lv),C lc_,C nc_,R a0 Rw c0,R a1 TY c1,R a2 Rx c2,C ((dN h lv).1),C ((dN h lv).2.1),C ((dN h lv).2.2.1),C ((dN h lv).2.2.2.1),C ((dN h lv).2.2.2.2),R a3 iP c3,C fw_,C nw_]∧Ext w w'∧cw M w' a0 c0 Rw∧cw M w' a1 c1 TY∧cw M w' a2 c2 Rx∧cw M w' a3 c3 iP):=by
 refine df 64 Tryz.func15 J J J hM fun f0 ha H=>?_
 let J0:=iL gq h gp
 have H0:=H.put (it:=J0) J<|by rw[bN];exact kh
 have vi:=aP kh
 have i0:f0 0=R gq h gp:=ha 0 bh
 have i1:f0 1=C lv:=ha 1 bh
 have alp:=HA h
 refine aB<|k<|al H0 kN ?_
 intro aY w0 bS (H1:HI M w w0 [box aY #[C 0,C 0,C 0,C 0,C 0,.bool false,C 0,C 0,.slice none 0 0,.slice none 0 0,.slice none 0 0,C 0,C 0,C 0,C 0,C 0,.slice none 0 0,C 0,C 0] 35,J0])
 let J1:=box aY #[C 0,C 0,C 0,C 0,C 0,.bool false,C 0,C 0,.slice none 0 0,.slice none 0 0,.slice none 0 0,C 0,C 0,C 0,C 0,C 0,.slice none 0 0,C 0,C 0] 35
 refine bt<|ak J i0<|k ?_
 have bP:=Sb (h:=h) H1.mb (H1.rv 1 J)<|by exact lE
 refine ca aio J (ec J e0) bP ?_
 rintro _ w1 ⟨a0,c0,a1,c1,a2,c2,rfl,cY,cm,dM,dV⟩
 have H2:=H1.ext cY
 let J2:=iL a0 (l6 h) c0
 have H3:=H2.put (it:=J2) J cm
 let J3:=iL a1 (cN h) c1
 have H4:=H3.put (it:=J3) J<|by rw[aE J];exact dM
 let J4:=iL a2 ([]:List Int) c2
 have H5:=H4.put (it:=J4) J<|by rw[aE rfl,aE rfl];exact dV
 refine ak (v:=.tuple #[.agg #[R a0 (l6 h) c0,R a1 (cN h) c1,R a2 ([]:List Int) c2],C (k0 h)]) J J<|k<|xt J J J<|k<|xt J J J<|k<|al H5 dx ?_
 let bc:=[J4,J3,J2,J1,J0]
 intro ba w2 eT (H6:HI M w w2 (box ba #[.slice none 0 0,.slice none 0 0,.slice none 0 0] 47::bc))
 refine k<|bp H6 0 J dx J J J J J J J ?_
 let J5:=box ba #[R a0 (l6 h) c0,R a1 (cN h) c1,R a2 ([]:List Int) c2] 47
 intro w3 (H7:HI M w w3 (J5::bc))
 refine au (v:=C (k0 h)) J J<|av<|sq<|sq ?_
 have alv:decide (0<(((dq lv).length:Nat):Int))=sd lv:=rfl
 refine rg<|ak (v:=C (k0 h)) J J<|k<|neq J J J J<|ak (v:=.bool (!decide ((k0 h)=0))) J J ?_
 rcases bE (!decide ((k0 h)=0)) with b0|b0
 ·
  have p0:=dF<|fY b0
  refine aN J J J b0<|aN J J J b0<|aN J J J b0<|k<|aR J J J J b0 J<|av<|oP J J J<|sq ?_
  obtain⟨qx,nA⟩:=Sk (h:=h) (lv:=lv) (by exact .inl (fY ‹(!decide (k0 h=0))=true›))
  obtain⟨sZ,rk,gJ⟩:=PU qx aw
  refine rg<|k<|bd (v:=.agg #[C 1,C 0,C 0,C 0,C 0,.bool false,C 0,C 0,.slice none 0 0,.slice none 0 0,.slice none 0 0,C 0,C 0,C 0,C 0,C 0,.slice none 0 0,C 0,C 0]) J (cj J ey) (fun _=>aM)<|k<|bp H7 4 J kN J J J J J J J ?_
  intro w4 (H8:HI M w w4 [J5,J4,J3,J2,box aY #[C 1,C 0,C 0,C 0,C 0,.bool false,C 0,C 0,.slice none 0 0,.slice none 0 0,.slice none 0 0,C 0,C 0,C 0,C 0,C 0,.slice none 0 0,C 0,C 0] 35,J0])
  refine av<|rt<|aL<|oN H8 4 J kN J J J J aw ?_
  have e0:(1:Int)=oO h lv:=by rw[qx]
  have e2:(0:Int)=(mz h lv).1:=by rw[nA]
  have e3:(0:Int)=(mz h lv).2:=by rw[nA]
  have e4:(0:Int)=sW h lv:=by rw[sZ]
  have e5:(false:Bool)=kC h lv:=by exact rk.symm
  have rC:(0:Int)=(dN h lv).1:=by rw[gJ]
  have sm:(0:Int)=(dN h lv).2.1:=by rw[gJ]
  have rB:(0:Int)=(dN h lv).2.2.1:=by rw[gJ]
  have ti:(0:Int)=(dN h lv).2.2.2.1:=by rw[gJ]
  have th:(0:Int)=(dN h lv).2.2.2.2:=by rw[gJ]
  have bo:=Mg (fun (bV:Int) (gv:Int) (ly:Int) (wq:Int) (wo:Bool) (rO:Int) (rN:Int) (rM:Int) (rL:Int) (rK:Int)=>(.agg #[C bV,C 0,C gv,C ly,C wq,.bool wo,C 0,C 0,.slice none ([]:List (List bX)).length 0,.slice none ([]:List Int).length 0,.slice none ([]:List (List Int)).length 0,C rO,C rN,C rM,C rL,C rK,.slice none ([]:List cH).length 0,C 0,C 0]:Value)) e0 e2 e3 e4 e5 rC sm rB ti th
  exact⟨0,0,([]:List (List bX)),([]:List Int),([]:List (List Int)),([]:List cH),0,0,none,0,none,0,none,0,none,0,bo,H8.below,(d_ _ _),(d_ _ _),(d_ _ _),(d_ _ _)⟩
 have p0:=dT<|fk b0
 refine aT J J J b0<|mv J i1<|aT J J J b0 ?_
 have cV:=Eh (lv:=lv) (w:=w3) oY
 refine ca acE J (ec J e0) cV ?_
 rintro _ w4 ⟨rfl,fB⟩
 have H8:=H7.ext fB
 refine aT J J J b0<|jE J J<|k<|cK J J J J b0 J<|z<|nx ?_
 refine cd (b:=!(decide (0<(((dq lv).length:Nat):Int)))) J J (fun b1=>?_)<|fun b1=>?_
 ·
  have p1:=dF<|fY b1
  refine sq ?_
  obtain⟨qx,nA⟩:=Sk (h:=h) (lv:=lv) (by exact .inr (fY ‹(!decide (0<(((dq lv).length:Nat):Int)))=true›))
  obtain⟨sZ,rk,gJ⟩:=PU qx aw
  refine rg<|k<|bd (v:=.agg #[C 1,C 0,C 0,C 0,C 0,.bool false,C 0,C 0,.slice none 0 0,.slice none 0 0,.slice none 0 0,C 0,C 0,C 0,C 0,C 0,.slice none 0 0,C 0,C 0]) J (cj J ey) (fun _=>aM)<|k<|bp H8 4 J kN J J J J J J J ?_
  intro w5 (H9:HI M w w5 [J5,J4,J3,J2,box aY #[C 1,C 0,C 0,C 0,C 0,.bool false,C 0,C 0,.slice none 0 0,.slice none 0 0,.slice none 0 0,C 0,C 0,C 0,C 0,C 0,.slice none 0 0,C 0,C 0] 35,J0])
  refine av<|rt<|aL<|oN H9 4 J kN J J J J aw ?_
  have e0:(1:Int)=oO h lv:=by rw[qx]
  have e2:(0:Int)=(mz h lv).1:=by rw[nA]
  have e3:(0:Int)=(mz h lv).2:=by rw[nA]
  have e4:(0:Int)=sW h lv:=by rw[sZ]
  have e5:(false:Bool)=kC h lv:=by exact rk.symm
  have rC:(0:Int)=(dN h lv).1:=by rw[gJ]
  have sm:(0:Int)=(dN h lv).2.1:=by rw[gJ]
  have rB:(0:Int)=(dN h lv).2.2.1:=by rw[gJ]
  have ti:(0:Int)=(dN h lv).2.2.2.1:=by rw[gJ]
  have th:(0:Int)=(dN h lv).2.2.2.2:=by rw[gJ]
  have bo:=Mg (fun (bV:Int) (gv:Int) (ly:Int) (wq:Int) (wo:Bool) (rO:Int) (rN:Int) (rM:Int) (rL:Int) (rK:Int)=>(.agg #[C bV,C 0,C gv,C ly,C wq,.bool wo,C 0,C 0,.slice none ([]:List (List bX)).length 0,.slice none ([]:List Int).length 0,.slice none ([]:List (List Int)).length 0,C rO,C rN,C rM,C rL,C rK,.slice none ([]:List cH).length 0,C 0,C 0]:Value)) e0 e2 e3 e4 e5 rC sm rB ti th
  exact⟨0,0,([]:List (List bX)),([]:List Int),([]:List (List Int)),([]:List cH),0,0,none,0,none,0,none,0,none,0,bo,H9.below,(d_ _ _),(d_ _ _),(d_ _ _),(d_ _ _)⟩
 have p1:=dT<|fk b1
 refine sk<|nx<|sq<|aB<|k<|cq H8 0 J dx J J aw J<|k ?_
 have fT:=Mc (I:=(cN h)) (aD:=a0) (aF:=(l6 h).length) (aC:=c0) (aA:=a2) (eS:=([]:List Int).length) (az:=c2) H8.mb<|H8.rv 2 J
 refine ca ain J (ec J e0) fT ?_
 rintro _ w5 ⟨rfl,iN⟩
 have H9:=H8.ext iN
 refine ak (v:=.tuple #[C ((dz<|cN h).1),C ((dz<|cN h).2.1),C ((dz<|cN h).2.2)]) J J<|k<|xt J J J<|k<|xt J J J<|k<|xt J J J<|au (v:=C ((dz<|cN h).1)) J J<|au (v:=C ((dz<|cN h).2.1)) J J<|au (v:=C ((dz<|cN h).2.2)) J J<|bt<|ak (v:=C ((dz<|cN h).2.2)) J J<|k<|neq J J J J<|z<|nx ?_
 refine cd (b:=!decide (((dz<|cN h).2.2)=0)) J J (fun b2=>?_)<|fun b2=>?_
 ·
  have p2:=dF<|fY b2
  refine sq ?_
  have Vm:k0 h=0:=dT (fk ‹(!decide (k0 h=0))=false›)
  have LD:sd lv=true:=fk ‹(!decide (0<(((dq lv).length:Nat):Int)))=false›
  obtain⟨qx,nA⟩:=abr Vm LD
  obtain⟨sZ,rk,gJ⟩:=PU qx (dF (fY ‹(!decide ((dz (cN h)).2.2=0))=true›))
  refine rg<|ak (v:=C ((dz<|cN h).2.2)) J J<|ak (v:=C ((dz<|cN h).1)) J J<|ak (v:=C ((dz<|cN h).2.1)) J J<|k<|bd (v:=.agg #[C ((dz<|cN h).2.2),C 0,C ((dz<|cN h).1),C ((dz<|cN h).2.1),C 0,.bool false,C 0,C 0,.slice none 0 0,.slice none 0 0,.slice none 0 0,C 0,C 0,C 0,C 0,C 0,.slice none 0 0,C 0,C 0]) J (cj J<|cj J<|cj J ey) (fun _=>aM)<|k<|bp H9 4 J kN J J J J J J J ?_
  intro w6 (dC:HI M w w6 [J5,J4,J3,J2,box aY #[C ((dz (cN h)).2.2),C 0,C ((dz (cN h)).1),C ((dz (cN h)).2.1),C 0,.bool false,C 0,C 0,.slice none 0 0,.slice none 0 0,.slice none 0 0,C 0,C 0,C 0,C 0,C 0,.slice none 0 0,C 0,C 0] 35,J0])
  refine av<|rt<|aL<|oN dC 4 J kN J J J J aw ?_
  have e0:((dz (cN h)).2.2:Int)=oO h lv:=by rw[qx]
  have e2:((dz (cN h)).1:Int)=(mz h lv).1:=by rw[nA]
  have e3:((dz (cN h)).2.1:Int)=(mz h lv).2:=by rw[nA]
  have e4:(0:Int)=sW h lv:=by rw[sZ]
  have e5:(false:Bool)=kC h lv:=by exact rk.symm
  have rC:(0:Int)=(dN h lv).1:=by rw[gJ]
  have sm:(0:Int)=(dN h lv).2.1:=by rw[gJ]
  have rB:(0:Int)=(dN h lv).2.2.1:=by rw[gJ]
  have ti:(0:Int)=(dN h lv).2.2.2.1:=by rw[gJ]
  have th:(0:Int)=(dN h lv).2.2.2.2:=by rw[gJ]
  have bo:=Mg (fun (bV:Int) (gv:Int) (ly:Int) (wq:Int) (wo:Bool) (rO:Int) (rN:Int) (rM:Int) (rL:Int) (rK:Int)=>(.agg #[C bV,C 0,C gv,C ly,C wq,.bool wo,C 0,C 0,.slice none ([]:List (List bX)).length 0,.slice none ([]:List Int).length 0,.slice none ([]:List (List Int)).length 0,C rO,C rN,C rM,C rL,C rK,.slice none ([]:List cH).length 0,C 0,C 0]:Value)) e0 e2 e3 e4 e5 rC sm rB ti th
  exact⟨0,0,([]:List (List bX)),([]:List Int),([]:List (List Int)),([]:List cH),0,0,none,0,none,0,none,0,none,0,bo,dC.below,(d_ _ _),(d_ _ _),(d_ _ _),(d_ _ _)⟩
 have p2:=dT<|fk b2
 refine sk<|nx<|sq ?_
 have Vm:k0 h=0:=dT (fk ‹(!decide (k0 h=0))=false›)
 have LD:sd lv=true:=fk ‹(!decide (0<(((dq lv).length:Nat):Int)))=false›
 have Vr:(dz (cN h)).2.2=0:=dT (fk ‹(!decide ((dz (cN h)).2.2=0))=false›)
 obtain⟨qx,nA,sZ,rk,gJ⟩:=Xi Vm LD Vr
 have LJ:=SY<|cN h
 refine rg<|k<|cq H9 0 J dx J J aw J<|k ?_
 have eU:=Na (fv:=(l6 h)) (I:=(cN h)) (U:=([]:List Int)) H9.mb (H9.rv 3 J) (H9.rv 2 J) (H9.rv 1 J) aq
 refine ca aim J (ec J e0) eU ?_
 rintro _ w6 ⟨a3,c3,a4,c4,a5,c5,rfl,jb,fq,iU,jO⟩
 have dC:=H9.ext jb
 let J6:=iL a3 (l6 h) c3
 have cT:=dC.put (it:=J6) J fq
 let J7:=iL a4 (cN h) c4
 have dt:=cT.put (it:=J7) J<|by rw[aE J];exact iU
 let J8:=iL a5 (gG (cN h)) c5
 have dw:=dt.put (it:=J8) J<|by rw[aE rfl,aE rfl];exact jO
 refine k<|bp dw 3 J dx J J J J J J J ?_
 let J9:=box ba #[R a3 (l6 h) c3,R a4 (cN h) c4,R a5 (gG (cN h)) c5] 47
 let bY:=J8::J7::J6::J9::bc
 intro w7 (cJ:HI M w w7 bY)
 refine av<|sq<|aB<|k<|cq cJ 3 J dx J J aw J<|ak J i1<|k ?_
 have kR:=Pw (I:=(cN h)) (U:=(gG<|cN h)) (lv:=lv) (aD:=a3) (aF:=(l6 h).length) (aC:=c3) cJ.mb (hT.ext cJ.below) (cJ.rv 1 J) (cJ.rv 0 J) oY (by exact Hz h) aq (by exact LJ) (by exact L4 Vr)<|by exact W6 LD
 refine ca ail J (ec J<|ec J e0) kR ?_
 rintro _ w8 ⟨o0,o1,o2,o3,o4,o5,o6,o7,a6,c6,rfl,kf,iT,q0⟩
 have dS:=cJ.ext kf
 let dK:=iL a6 o5 c6
 have de:=dS.put (it:=dK) J iT
 refine ak (v:=.tuple #[.agg #[C o0,C o1,C o2,C o3,C o4,R a6 o5 c6,C o6,C o7],C (dL (cN h) (gG<|cN h) lv)]) J J<|k<|xt J J J<|k<|xt J J J<|k<|al de bM ?_
 intro bD w9 l4 (cO:HI M w w9 (box bD #[C 0,C 0,C 0,C 0,C 0,.slice none 0 0,C 0,C 0] 33::dK::bY))
 refine k<|bp cO 0 J bM J J J J J J J ?_
 let ez:=box bD #[C o0,C o1,C o2,C o3,C o4,R a6 o5 c6,C o6,C o7] 33
 intro dD (dP:HI M w dD (ez::dK::bY))
 refine au (v:=C (dL (cN h) (gG<|cN h) lv)) J J<|bt<|ak (v:=C (dL (cN h) (gG<|cN h) lv)) J J<|k<|eql J J J J<|z<|nx ?_
 refine cd (b:=decide ((dL (cN h) (gG<|cN h) lv)=0)) J J (fun b3=>?_)<|fun b3=>?_
 ·
  have p3:=dT b3
  refine sq ?_
  rw[amp (dT ‹decide (dL (cN h) (gG (cN h)) lv=0)=true›)] at rk;rw[Z5 q0 (dT ‹decide (dL (cN h) (gG (cN h)) lv=0)=true›)] at gJ
  refine rg<|ak J i1<|k<|cq dP 0 J bM J J aw J<|k<|bd (v:=.agg #[C 0,C 0,C 0,C 0,C lv,.bool false,C 0,C 0,.slice none 0 0,.slice none 0 0,.slice none 0 0,C o0,C o1,C o2,C o3,C o4,R a6 o5 c6,C o6,C o7]) J (cj J<|cj J ey) (fun _=>aM)<|k<|bp dP 9 J kN J J J J J J J ?_
  intro eb (dG:HI M w eb [ez,dK,J8,J7,J6,J9,J4,J3,J2,box aY #[C 0,C 0,C 0,C 0,C lv,.bool false,C 0,C 0,.slice none 0 0,.slice none 0 0,.slice none 0 0,C o0,C o1,C o2,C o3,C o4,R a6 o5 c6,C o6,C o7] 35,J0])
  refine av<|rt<|aL<|oN dG 9 J kN J J J J aw ?_
  have e0:(0:Int)=oO h lv:=by rw[qx]
  have e2:(0:Int)=(mz h lv).1:=by rw[nA]
  have e3:(0:Int)=(mz h lv).2:=by rw[nA]
  have e4:(lv:Int)=sW h lv:=by rw[sZ]
  have e5:(false:Bool)=kC h lv:=by exact rk.symm
  have rC:(o0:Int)=(dN h lv).1:=by rw[gJ]
  have sm:(o1:Int)=(dN h lv).2.1:=by rw[gJ]
  have rB:(o2:Int)=(dN h lv).2.2.1:=by rw[gJ]
  have ti:(o3:Int)=(dN h lv).2.2.2.1:=by rw[gJ]
  have th:(o4:Int)=(dN h lv).2.2.2.2:=by rw[gJ]
  have bo:=Mg (fun (bV:Int) (gv:Int) (ly:Int) (wq:Int) (wo:Bool) (rO:Int) (rN:Int) (rM:Int) (rL:Int) (rK:Int)=>(.agg #[C bV,C 0,C gv,C ly,C wq,.bool wo,C 0,C 0,.slice none ([]:List (List bX)).length 0,.slice none ([]:List Int).length 0,.slice none ([]:List (List Int)).length 0,C rO,C rN,C rM,C rL,C rK,.slice a6 o5.length c6,C o6,C o7]:Value)) e0 e2 e3 e4 e5 rC sm rB ti th
  exact⟨0,0,([]:List (List bX)),([]:List Int),([]:List (List Int)),o5,o6,o7,none,0,none,0,none,0,a6,c6,bo,dG.below,(d_ _ _),(d_ _ _),(d_ _ _),(dG.fg 1 J)⟩
 have p3:=dF b3
 refine sk<|nx<|sq ?_
 have Vq:=dF ‹decide (dL (cN h) (gG<|cN h) lv=0)=false›
 rw[ams Vq] at rk;rw[Z3 Vq] at gJ
 refine rg<|k<|cq dP 5 J dx J J aw J<|ak J i1<|k ?_
 have lI:=Tw (I:=(cN h)) (U:=(gG<|cN h)) (lv:=lv) (aD:=a3) (aF:=(l6 h).length) (aC:=c3) dP.mb (hT.ext dP.below) (dP.rv 3 J) (dP.rv 2 J) oY (by exact Hz h) aq (by exact LJ) (by exact L4 Vr) (by exact W6 LD)<|by exact HT Vq
 refine ca aik J (ec J<|ec J e0) lI ?_
 rintro _ eb ⟨o8,o9,kv,fF,a7,c7,a8,c8,a9,c9,rfl,lM,kZ,oe,ph⟩
 have dG:=dP.ext lM
 have cC:=ee dG kZ
 have dR:=ee cC oe
 have dB:=ee dR ph
 refine ak (v:=.tuple #[.agg #[C lv,C o8,R a7 o9 c7,R a8 kv c8,R a9 fF c9],C 0]) J J<|k<|xt J J J<|k<|xt J J J<|k<|al dB va ?_
 let dE:=iL a9 fF c9::iL a8 kv c8::iL a7 o9 c7::ez::dK::bY
 intro eX ff xJ (eO:HI M w ff (box eX #[C 0,C 0,.slice none 0 0,.slice none 0 0,.slice none 0 0] 30::dE))
 refine k<|bp eO 0 J va J J J J J J J ?_
 let fR:=box eX #[C lv,C o8,R a7 o9 c7,R a8 kv c8,R a9 fF c9] 30
 intro hQ (fc:HI M w hQ (fR::dE))
 refine au (v:=C 0) J J<|av<|sq<|aB<|ak (v:=C 0) J J<|k<|neq J J J J<|av<|nP J J aw<|sk<|cI<|ak J i1<|k<|cq fc 0 J va J J aw J<|k<|bd (v:=.agg #[C 0,C 0,C 0,C 0,C lv,.bool true,C lv,C o8,R a7 o9 c7,R a8 kv c8,R a9 fF c9,C 0,C 0,C 0,C 0,C 0,.slice none 0 0,C 0,C 0]) J (cj J<|cj J<|cj J ey) (fun _=>aM)<|k<|bp fc 13 J kN J J J J J J J ?_
 intro iO (gI:HI M w iO [fR,iL a9 fF c9,iL a8 kv c8,iL a7 o9 c7,ez,dK,J8,J7,J6,J9,J4,J3,J2,box aY #[C 0,C 0,C 0,C 0,C lv,.bool true,C lv,C o8,R a7 o9 c7,R a8 kv c8,R a9 fF c9,C 0,C 0,C 0,C 0,C 0,.slice none 0 0,C 0,C 0] 35,J0])
 refine av<|rt<|oN gI 13 J kN J J J J aw ?_
 have e0:(0:Int)=oO h lv:=by rw[qx]
 have e2:(0:Int)=(mz h lv).1:=by rw[nA]
 have e3:(0:Int)=(mz h lv).2:=by rw[nA]
 have e4:(lv:Int)=sW h lv:=by rw[sZ]
 have e5:(true:Bool)=kC h lv:=by exact rk.symm
 have rC:(0:Int)=(dN h lv).1:=by rw[gJ]
 have sm:(0:Int)=(dN h lv).2.1:=by rw[gJ]
 have rB:(0:Int)=(dN h lv).2.2.1:=by rw[gJ]
 have ti:(0:Int)=(dN h lv).2.2.2.1:=by rw[gJ]
 have th:(0:Int)=(dN h lv).2.2.2.2:=by rw[gJ]
 have bo:=Mg (fun (bV:Int) (gv:Int) (ly:Int) (wq:Int) (wo:Bool) (rO:Int) (rN:Int) (rM:Int) (rL:Int) (rK:Int)=>(.agg #[C bV,C 0,C gv,C ly,C wq,.bool wo,C lv,C o8,.slice a7 o9.length c7,.slice a8 kv.length c8,.slice a9 fF.length c9,C rO,C rN,C rM,C rL,C rK,.slice none ([]:List cH).length 0,C 0,C 0]:Value)) e0 e2 e3 e4 e5 rC sm rB ti th
 exact⟨lv,o8,o9,kv,fF,([]:List cH),0,0,a7,c7,a8,c8,a9,c9,none,0,bo,gI.below,(gI.fg 3 J),(gI.fg 2 J),(gI.fg 1 J),(d_ _ _)⟩
theorem XN:ct aJ 185:=⟨_,_,Tryz.func185,rfl,aM⟩
theorem aeD:ct aJ 170:=⟨_,_,Tryz.func170,rfl,aM⟩
theorem aeC:ct aJ 171:=⟨_,_,Tryz.func171,rfl,aM⟩
theorem aeM:ct aJ 143:=⟨_,_,Tryz.func143,rfl,aM⟩
theorem aeL:ct aJ 144:=⟨_,_,Tryz.func144,rfl,aM⟩
theorem BT (kQ:s.size≤maxLen) (P':p_.size≤maxLen):Calls aJ 185 #[.string s,.string p_] w (cb fun v w'=>v=.bool (jF s p_)∧Ext w w'):=by
 refine df 18 Tryz.func185 J J J pk fun f0 ha H=>?_
 have i0:f0 0=.string s:=ha 0 bh
 have i1:f0 1=.string p_:=ha 1 bh
 refine aB<|au (v:=.bool false) J J<|bt<|ak J i0<|k<|vz J J mu<|ak J i1<|k<|vz J J mu<|k<|geq J J J J<|ak (v:=.bool (decide ((p_.size:Int)≤(s.size:Int)))) J J ?_
 rcases bE (decide ((p_.size:Int)≤(s.size:Int))) with b0|b0
 ·
  have p0:=dT b0
  refine aT J J J b0<|mv J i0<|aT J J J b0<|mv J i1<|aT J J J b0<|vz J J mu<|aT J J J b0<|agT J J J J aq mu<|aT J J J b0<|mv J i1<|aT J J J b0<|X2 J J J J<|k<|aR J J J J b0 J<|au (v:=.bool (decide (s.extract 0 (p_.size:Int).toNat=p_))) J J<|av<|rt<|r1 J J ?_
  exact⟨amh Value.bool (by simp only[jF,b0,BL]),H.below⟩
 have p0:=dF b0
 refine aN J J J b0<|aN J J J b0<|aN J J J b0<|aN J J J b0<|aN J J J b0<|aN J J J b0<|k<|cK J J J J b0 J<|au (v:=.bool false) J J<|av<|rt<|r1 J J ?_
 exact⟨amh Value.bool (by simp only[jF,b0,BL]),H.below⟩
theorem Jw (kQ:s.size≤maxLen) (P':p_.size≤maxLen):Calls aJ 170 #[.string s,.string p_] w (cb fun v w'=>v=.string (eA s p_)∧Ext w w'):=by
 refine df 13 Tryz.func170 J J J pk fun f0 ha H=>?_
 have i0:f0 0=.string s:=ha 0 bh
 have i1:f0 1=.string p_:=ha 1 bh
 have Cv:jF s p_=true→(p_.size:Int)≤(s.size:Int):=by intro h_;unfold jF at h_;cases e_:decide ((p_.size:Int)≤(s.size:Int))<;>rw[e_] at h_;cases h_;exact am3 e_
 refine aB<|au (v:=.string ⟨#[]⟩) J J<|av<|sq<|aB<|ak J i0<|ak J i1<|k ?_
 have bP:=BT (s:=s) (p_:=p_) (w:=w) bq bq
 refine ca XN J (ec J<|ec J e0) bP ?_
 rintro _ w0 ⟨rfl,bS⟩
 have H0:=H.ext bS
 refine z<|nx ?_
 refine cd (b:=jF s p_) J J (fun b0=>?_)<|fun b0=>?_
 ·
  refine aB<|ak J i0<|ak J i1<|k<|vz J J mu<|k<|Uk J J J J (by have h_:=Cv bq;omega) mu<|au (v:=.string (s.extract (p_.size:Int).toNat s.size)) J J<|av<|rt<|aL<|r1 J J ?_
  exact⟨amh Value.string (by simp only[eA,b0,BL]),H0.below⟩
 refine sk<|cI<|ak J i0<|au (v:=.string s) J J<|av<|rt<|r1 J J ?_
 exact⟨amh Value.string (by simp only[eA,b0,BL]),H0.below⟩
theorem KF (kQ:s.size≤maxLen) (P':p_.size≤maxLen):Calls aJ 171 #[.string s,.string p_] w (cb fun v w'=>v=.tuple #[.string (eA s p_),.bool (jF s p_)]∧Ext w w'):=by
 refine df 15 Tryz.func171 J J J pk fun f0 ha H=>?_
 have i0:f0 0=.string s:=ha 0 bh
 have i1:f0 1=.string p_:=ha 1 bh
 have Cv:jF s p_=true→(p_.size:Int)≤(s.size:Int):=by intro h_;unfold jF at h_;cases e_:decide ((p_.size:Int)≤(s.size:Int))<;>rw[e_] at h_;cases h_;exact am3 e_
 refine aB<|au (v:=.string ⟨#[]⟩) J J<|au (v:=.bool false) J J<|av<|sq<|aB<|ak J i0<|ak J i1<|k ?_
 have bP:=BT (s:=s) (p_:=p_) (w:=w) bq bq
 refine ca XN J (ec J<|ec J e0) bP ?_
 rintro _ w0 ⟨rfl,bS⟩
 have H0:=H.ext bS
 refine k<|jE J J<|z<|nx ?_
 refine cd (b:=!(jF s p_)) J J (fun b0=>?_)<|fun b0=>?_
 ·
  refine aB<|ak J i0<|au (v:=.string s) J J<|au (v:=.bool false) J J<|av<|rt<|aL<|r2 J J J ?_
  have e0:(s:ByteArray)=eA s p_:=by simp only[eA,(fY b0),BL]
  have e1:(false:Bool)=jF s p_:=by simp only[(fY b0),BL]
  have bo:=nr (fun (bV:ByteArray) (dI:Bool)=>(.tuple #[.string bV,.bool dI]:Value)) e0 e1
  exact⟨bo,H0.below⟩
 refine sk<|cI<|ak J i0<|ak J i1<|k<|vz J J mu<|k<|Uk J J J J (by have h_:=Cv (by simpa using ‹(!jF s p_)=false›);omega) mu<|au (v:=.string (s.extract (p_.size:Int).toNat s.size)) J J<|au (v:=.bool true) J J<|av<|rt<|r2 J J J ?_
 have e0:(s.extract (p_.size:Int).toNat s.size:ByteArray)=eA s p_:=by simp only[eA,(fk b0),BL]
 have e1:(true:Bool)=jF s p_:=by simp only[(fk b0),BL]
 have bo:=nr (fun (bV:ByteArray) (dI:Bool)=>(.tuple #[.string bV,.bool dI]:Value)) e0 e1
 exact⟨bo,H0.below⟩
theorem BQ (kQ:s.size≤maxLen) (P':p_.size≤maxLen):Calls aJ 143 #[.string s,.string p_] w (cb fun v w'=>v=.string (eA s p_)∧Ext w w'):=by
 refine df 8 Tryz.func143 J J J pk fun f0 ha H=>?_
 have i0:f0 0=.string s:=ha 0 bh
 have i1:f0 1=.string p_:=ha 1 bh
 refine aB<|au (v:=.string ⟨#[]⟩) J J<|bt<|ak J i0<|ak J i1<|k ?_
 have bP:=Jw (s:=s) (p_:=p_) (w:=w) bq bq
 refine ca aeD J (ec J<|ec J e0) bP ?_
 rintro _ w0 ⟨rfl,bS⟩
 have H0:=H.ext bS
 refine au (v:=.string (eA s p_)) J J<|av<|rt<|r1 J J ?_
 exact⟨J,H0.below⟩
theorem DH (kQ:s.size≤maxLen) (P':p_.size≤maxLen):Calls aJ 145 #[.string s,.string p_] w (cb fun v w'=>v=.tuple #[.string (eA s p_),.bool (jF s p_)]∧Ext w w'):=by
 refine df 11 Tryz.func145 J J J pk fun f0 ha H=>?_
 have i0:f0 0=.string s:=ha 0 bh
 have i1:f0 1=.string p_:=ha 1 bh
 refine aB<|au (v:=.string ⟨#[]⟩) J J<|au (v:=.bool false) J J<|bt<|ak J i0<|ak J i1<|k ?_
 have bP:=KF (s:=s) (p_:=p_) (w:=w) bq bq
 refine ca aeC J (ec J<|ec J e0) bP ?_
 rintro _ w0 ⟨rfl,bS⟩
 have H0:=H.ext bS
 refine k<|xt J J J<|k<|xt J J J<|au (v:=.string (eA s p_)) J J<|au (v:=.bool (jF s p_)) J J<|av<|rt<|r2 J J J ?_
 exact⟨J,H0.below⟩
theorem UU (kQ:s.size≤maxLen) (ln:aK at_):Calls aJ 110 #[.string s,C at_] w (cb fun v w'=>v=C (gr s at_)∧Ext w w'):=by
 refine df 26 Tryz.func110 J J J pk fun f0 ha H=>?_
 have i0:f0 0=.string s:=ha 0 bh
 have i1:f0 1=C at_:=ha 1 bh
 have AY:maxLen=9223372036854775807:=rfl
 refine aB<|au (v:=C 0) J J<|av<|sq<|aB<|ak J i1<|k<|lss J J J J<|ak (v:=.bool (decide (at_<0))) J J ?_
 rcases bE (decide (at_<0)) with b0|b0
 ·
  have p0:=dT b0
  refine aN J J J b0<|aN J J J b0<|aN J J J b0<|aN J J J b0<|k<|aR J J J J b0 J<|av<|oP J J J<|aB<|au (v:=C 0) J J<|av<|rt<|aL<|r1 J J ?_
  exact⟨amh (Value.int .i64) (by simp only[gr,b0,BL]),H.below⟩
 have p0:=dF b0
 refine aT J J J b0<|mv J i1<|aT J J J b0<|mv J i0<|aT J J J b0<|vz J J mu<|aT J J J b0<|geq J J J J<|k<|cK J J J J b0 J<|z<|nx ?_
 refine cd (b:=decide ((s.size:Int)≤at_)) J J (fun b1=>?_)<|fun b1=>?_
 ·
  have p1:=dT b1
  refine aB<|au (v:=C 0) J J<|av<|rt<|aL<|r1 J J ?_
  exact⟨amh (Value.int .i64) (by simp only[gr,b0,b1,BL]),H.below⟩
 have p1:=dF b1
 refine sk<|cI<|ak J i0<|ak J i1<|k<|Uk J J J J aq mu<|au (v:=.string (s.extract at_.toNat s.size)) J J<|bt<|ak (v:=.string (s.extract at_.toNat s.size)) J J<|k ?_
 have bP:=BQ (s:=(s.extract at_.toNat s.size)) (p_:=⟨#[45]⟩) (w:=w) (by exact Nat.le_trans (CO _ _ _) kQ) aw
 refine ca aeM J (ec J<|ec J e0) bP ?_
 rintro _ w0 ⟨rfl,bS⟩
 have H0:=H.ext bS
 refine au (v:=.string (eA (s.extract at_.toNat s.size) ⟨#[45]⟩)) J J<|bt<|ak (v:=.string (s.extract at_.toNat s.size)) J J<|k<|vz J J mu<|ak (v:=.string (eA (s.extract at_.toNat s.size) ⟨#[45]⟩)) J J<|k ?_
 have cV:=EF (s:=(eA (s.extract at_.toNat s.size) ⟨#[45]⟩)) (cs:=⟨#[48,49,50,51,52,53,54,55,56,57]⟩) (w:=w0) (by exact Nat.le_trans (qM _ _) (Nat.le_trans (CO _ _ _) kQ)) aw<|by exact G8
 refine ca aeL J (ec J<|ec J e0) cV ?_
 rintro _ w1 ⟨rfl,cY⟩
 have H1:=H0.ext cY
 refine k<|vz J J mu<|k<|sub J J J J (by have h1_:=DO (eA (s.extract at_.toNat s.size) ⟨#[45]⟩) ⟨#[48,49,50,51,52,53,54,55,56,57]⟩;have lb:=qM (s.extract at_.toNat s.size) ⟨#[45]⟩;have h3_:=CO s at_.toNat s.size;unfold aK;omega)<|au (v:=C (((s.extract at_.toNat s.size).size:Int)-((BP (eA (s.extract at_.toNat s.size) ⟨#[45]⟩) ⟨#[48,49,50,51,52,53,54,55,56,57]⟩).size:Int))) J J<|av<|rt<|r1 J J ?_
 exact⟨amh (Value.int .i64) (by simp only[gr,b0,b1,BL]),H1.below⟩
end Go.Proofs.YtgjakhpjmapelaaGreatDoor
