/- PRINTED by my own tool (wip/tool/gen.py): contracts of Go functions of this seat, each with its proof. -/
import Derived.Test.YtefcbihikknlkaaGreatDoorWwnB
import Derived.Test.YtefcbihikknlkaaGreatDoorWwnC
import Derived.Test.YtefcbihikknlkaaGreatDoorOenB
import Derived.Test.YtefcbihikknlkaaGreatDoorOenA
import Derived.Test.YtefcbihikknlkaaGreatDoorWwnA
import Derived.Test.YtefcbihikknlkaaGreatDoorWwnD
set_option linter.unusedVariables false
set_option linter.unusedSimpArgs false
namespace Go.Proofs.YtefcbihikknlkaaGreatDoor
open Go.Ew Go.RowKit
set_option maxRecDepth 100000
set_option maxHeartbeats 1600000
attribute [local irreducible] WL WC SO PW PX PZ WE Code.wp wpList qO cZ
attribute [local irreducible] eS oS iO fU ej y4 BC Is words dJ fH fZ fK uC
set_option maxRecDepth 1100000
variable {M:bT} {w w_:aI}
variable {aC av ax aU kr nS gN dO:OA} {aE aB au aw aT cH ko nR gT rk dN:Nat} {I:List aR} {fo gi:az} {mn kd lv lj n1 n2 j i:Int} {mr:List (List bG)} {h:List (List (Bool×fO×Int))} {rp:List Value} {l:List aA}
theorem ny:jt aX 25 3 3:=mu Tryz.underlying25
theorem Hp (hM:ei M w) (cX:cP M w av au I) (fM:cP M w ax aw fo) (fL:aN mn) (eO:cP M w aU aT mr) (ho:et I) (cT:I.length≤64) (eT:fo.length=I.length) (bV:cq mn mr=true) (Dk:mn=((I.length:Nat):Int)):Calls aX 34 #[.agg #[.slice aC aE aB,sL av I au,sL ax fo aw],.agg #[U mn,sL aU mr aT]] w (cZ fun v w'=>∃(k_:Int) (r_:Int) (a_:Int) (b_:Int) (o_:Int) (f_:Int) (s_:Int),v=.tuple #[.agg #[U k_,U r_,U a_,U b_,U o_,.slice none 0 0,U f_,U s_],.bool ((oT I fo mn mr 4).isSome)]∧Ext w w'∧oE (oT I fo mn mr 4) k_ r_ a_ b_ o_):=by
 refine dK 69 Tryz.func34 J J J hM fun f0 ha H=>?_
 let J0:=iL av I au
 have H0:=H.put (it:=J0) J<|by rw[dY];exact cX
 let J1:=iL ax fo aw
 have H1:=H0.put (it:=J1) J<|by rw[bp rfl,dY];exact fM
 let J2:=iL aU mr aT
 have H2:=H1.put (it:=J2) J<|by rw[bp rfl,bp rfl,dY];exact eO
 have iT:=bN cX
 have nn:=bN fM
 have lu:=bN eO
 have i0:f0 0=.agg #[.slice aC aE aB,sL av I au,sL ax fo aw]:=ha 0 bH
 have i1:f0 1=.agg #[U mn,sL aU mr aT]:=ha 1 bH
 refine aH<|k<|bx H2 J i0 ?_
 let bC:=[J2,J1,J0]
 intro aK w0 dt (H3:HI M w w0 (box aK #[.slice aC aE aB,sL av I au,sL ax fo aw] 32::bC))
 let J3:=box aK #[.slice aC aE aB,sL av I au,sL ax fo aw] 32
 refine k<|bx H3 J i1 ?_
 let dk:=J3::bC
 intro aW w1 cR (H4:HI M w w1 (box aW #[U mn,sL aU mr aT] 68::dk))
 let J4:=box aW #[U mn,sL aU mr aT] 68
 refine k<|al H4 cu ?_
 let dv:=J4::dk
 intro bj w2 d_ (H5:HI M w w2 (box bj #[U 0,U 0,U 0,U 0,U 0,.slice none 0 0,U 0,U 0] 25::dv))
 let J5:=box bj #[U 0,U 0,U 0,U 0,U 0,.slice none 0 0,U 0,U 0] 25
 refine aj (v:=.bool false) J J<|cU<|k ?_
 have cx:=qp (kd:=4) (w:=w2) aY
 refine ca FU J (ec J e0) cx ?_
 rintro _ w3 ⟨rfl,eG⟩
 have H6:=H5.ext eG
 refine k<|al H6 cu ?_
 let dD:=J5::dv
 intro dI w4 eI (H7:HI M w w4 (box dI #[U 0,U 0,U 0,U 0,U 0,.slice none 0 0,U 0,U 0] 25::dD))
 refine k<|cz H7 0 J cu J J J J J J J ?_
 let J6:=box dI #[U 4,U (-1),U (-1),U (-1),U (-1),.slice none 0 0,U (-1),U (-1)] 25
 intro w5 (H8:HI M w w5 (J6::dD))
 refine aG<|sq<|aH<|aj (v:=U 0) J J<|aG<|bk<|lp (fun m f w'=>∃(j_:Nat),m=fo.length-j_∧f 2=pV aK 0∧f 3=pV aW 0∧f 4=pV bj 0∧f 6=pV dI 0∧f 7=U (j_:Int)∧HI M w w' (J6::dD)∧(j_≤fo.length)∧(∀q,q<j_→tG I fo mn mr q=false)) _ ⟨0,J,J,J,J,J,(bJ J),H8,ai,(by intro q h;omega)⟩ ?_
 rintro _ f0 w6 ⟨j_,rfl,s0,s1,s2,s3,s4,H9,ra,hs⟩
 refine sq<|aH<|ak J s4<|bo kD J s0<|bR H9 3 J lA J J J<|k<|ep J J cY<|k<|lss J J J J<|z<|nx<|cd (b:=decide ((j_:Int)<(fo.length:Int))) J J (fun b0=>?_)<|fun b0=>?_
 ·
  have p0:=dT b0
  refine sk<|nx<|sq<|bk<|aH<|bo kD J s0<|bR H9 3 J lA J J J<|ak J s4<|k<|ia (H9.rv 5 J) J J J J ai cY aQ ?_
  intro fz x0 aq cN
  refine k<|kB cN.w aQ J J ?_
  intro cL
  refine aj (v:=U x0) J J<|aG<|sq<|aH<|ak (v:=U x0) J J<|k<|lss J J J J<|z<|nx<|cd (b:=decide (x0<0)) J J (fun b1=>?_)<|fun b1=>?_
  ·
   have p1:=dT b1
   refine ex<|bg<|bz<|nx<|rg<|ak J s4<|k<|add J J J J aY<|aj (v:=U ((j_:Int)+1)) J J<|z<|bD _ ?_ ⟨(j_+1),J,s0,s1,s2,s3,(bJ J),H9,ai,(by exact abK hs aq ‹_›)⟩
   omega
  have p1:=dF b1
  refine sk<|nx<|sq<|BB J bu<|xq J<|kq (fun _ x_=>cg (H9.ext x_) 3 J dn J s0 aJ J e1)<|zq<|xq J<|kq (fun _ x_=>cg (H9.ext x_) 2 J bh J s1 aJ J e1)<|zq<|xq J<|kq (fun _ _=>mv J s4 e1)<|zq<|xu (fun v w'=>∃(a0:OA) (c0:Nat),v=sL a0 (ee mn mr (j_:Int)) c0∧RV H9.nA w' (sL a0 (ee mn mr (j_:Int)) c0) (ee mn mr (j_:Int))) J (by rintro _ _ _ x_ ⟨a0,c0,e_,gh⟩;exact⟨a0,c0,e_,gh.lift (Up.ext x_)⟩) J (fun v_ x_=>have gS:=IH (mn:=mn) (mr:=mr) (o:=(j_:Int)) (w:=v_) (H9.ext x_).mb fL ((H9.ext x_).rv 4 rfl) aY (by exact bV);ca aaN rfl (ec J<|ec J e0) gS (fun _ w8 ⟨a1,c1,e_,iJ,fQ⟩=>⟨_,J,iJ,⟨a1,c1,e_,(bm.rv fQ (H9.ext x_).mb)⟩⟩))<|xq J<|kq (fun _ _=>fa dh J s0 e1)<|zq<|xq J<|kq (fun _ x_=>lx (H9.ext x_) 3 J eR J J J e1)<|zq<|xq J<|kq (fun _ _=>mv J s4 e1)<|zq<|xq J<|hG (H9.rv 6 J) J J J J ai fj gB ?_
  intro iG x1 cw eU
  refine zq<|xq J<|kq (fun _ _=>fa nv J J e1)<|zq<|xq J<|fV ((eU).s3).fst.w aQ J J ?_
  intro gl
  refine zq<|F8 (fun v w'=>∃(a3:OA) (c3:Nat),v=sL a3 (aV (fe I x1.2.2.2.1)<|ee mn mr (j_:Int)) c3∧RV H9.nA w' (sL a3 (aV (fe I x1.2.2.2.1)<|ee mn mr (j_:Int)) c3) (aV (fe I x1.2.2.2.1)<|ee mn mr (j_:Int))) 0 J J (by rintro _ _ _ x_ ⟨a3,c3,e_,ml⟩;exact⟨a3,c3,e_,ml.lift (Up.ext x_)⟩) J (fun v_ _ x_ h_=>let ⟨a4,c4,s5,kK⟩:=h_;have gz:=(H9.ext x_).put (it:=iL a4 (ee mn mr (j_:Int)) c4) rfl kK;have oo:=AJ (I:=I) (l:=(ee mn mr (j_:Int))) (vr:=x1.2.2.2.1) (aC:=aC) (aE:=aE) (aB:=aB) (ax:=ax) (cH:=fo.length) (aw:=aw) gz.mb (gz.rv 7 J) (gz.rv 0 J) gl (by have h_:=AL bV (j_:Int);omega);ca aaO rfl (ec J<|ec s5<|ec J e0) oo (fun _ jb ⟨a5,c5,e_,lh,lD⟩=>⟨_,J,lh,⟨a5,c5,e_,(gY J<|bm.rv lD gz.mb)⟩⟩))<|F8 (fun v w'=>∃(a6:OA) (c6:Nat),v=sL a6 (aV (fe I x1.2.2.2.1)<|ee mn mr (j_:Int)) c6∧RV H9.nA w' (sL a6 (aV (fe I x1.2.2.2.1)<|ee mn mr (j_:Int)) c6) (aV (fe I x1.2.2.2.1)<|ee mn mr (j_:Int))) 0 J J (by rintro _ _ _ x_ ⟨a6,c6,e_,pP⟩;exact⟨a6,c6,e_,pP.lift (Up.ext x_)⟩) J (fun _ _ _ h_=>let ⟨a7,c7,s6,qM⟩:=h_;gH rfl s6 ⟨_,J,Ext.refl _,⟨a7,c7,J,qM⟩⟩)<|zx ?_
  intro iK f1 jD cI ji
  have lT:=H9.ext jD
  have s7:=(cI 2 J).trans s0
  have s8:=(cI 3 J).trans s1
  have s9:=(cI 4 J).trans s2
  have ey:=(cI 6 J).trans s3
  have ew:=(cI 7 J).trans s4
  have eE:=cI 8 J
  obtain⟨a8,c8,fc,rz⟩:=ji 0 _ _ rfl
  let J7:=iL a8 (aV (fe I x1.2.2.2.1) (ee mn mr (j_:Int))) c8
  have pc:=lT.put (it:=J7) J rz
  refine nx<|sq ?_
  have FR:(iB I mn mr (j_:Int))=_:=zZ cw
  have la_:=O0 bV I (j_:Int)
  rw[FR] at la_
  refine rg<|aj (v:=U 0) J J<|aG<|bk<|lp (fun m f w'=>∃(q_:Nat),m=(aV (fe I x1.2.2.2.1)<|ee mn mr (j_:Int)).length-q_∧f 2=pV aK 0∧f 3=pV aW 0∧f 4=pV bj 0∧f 6=pV dI 0∧f 7=U (j_:Int)∧f 8=U x0∧f 9=sL a8 (aV (fe I x1.2.2.2.1)<|ee mn mr (j_:Int)) c8∧f 10=U (q_:Int)∧HI M w w' (J7::J6::dD)∧(q_≤(aV (fe I x1.2.2.2.1)<|ee mn mr (j_:Int)).length)∧(∀y∈(aV (fe I x1.2.2.2.1)<|ee mn mr (j_:Int)).take q_,(wI mn mr x0) y=false)) _ ⟨0,J,s7,s8,s9,ey,ew,eE,fc,(bJ J),pc,ai,bH⟩ ?_
  rintro _ f2 jf ⟨q_,rfl,fJ,fw,fX,gF,gL,gE,jg,kU,iE,jw,gM⟩
  refine sq<|aH<|ak J kU<|ak J jg<|k<|ep J J cY<|k<|lss J J J J<|z<|nx<|cd (b:=decide ((q_:Int)<((aV (fe I x1.2.2.2.1)<|ee mn mr (j_:Int)).length:Int))) J J (fun b2=>?_)<|fun b2=>?_
  ·
   have p2:=dT b2
   refine sk<|nx<|sq<|bk<|sq<|yY J bu<|kq (fun _ _=>mv J jg e1)<|kq (fun _ _=>mv J kU e1)<|hG (iE.rv 0 J) J J J J ai cY aQ ?_
   intro kX x2 dR gJ
   refine fV gJ.w aQ J J ?_
   intro tj
   refine kq (fun _ _=>mv J gE e1)<|kq (fun _ _=>neq J J J J e1)<|kq (fun _ _=>mv (v:=.bool (!decide (x2=x0))) J J e1) ?_
   rcases bE (!decide (x2=x0)) with b3|b3
   ·
    have p3:=dF<|fE b3
    refine qy J J J b3<|kq (fun _ x_=>cg (iE.ext x_) 3 J bh J fw aJ J e1)<|qy J J J b3<|kq (fun _ _=>mv J gE e1)<|qy J J J b3<|kq (fun _ _=>mv J jg e1)<|qy J J J b3<|kq (fun _ _=>mv J kU e1)<|qy J J J b3<|hG (iE.rv 0 J) J J J J ai cY aQ ?_
    intro jc x_ ki km
    obtain rfl:x2=x_:=alD (dR.symm.trans ki)
    refine qy J J J b3<|fV km.w aQ J J ?_
    intro SX
    refine qy J J J b3<|kq (v:=.bool (dG mn mr x0 x2)) (fun v_ x_=>?_) ?_
    ·
     have cc:=mm (mn:=mn) (mr:=mr) (i:=x0) (j:=x2) (w:=v_) (iE.ext x_).mb fL ((iE.ext x_).rv 5 rfl) cL SX (by exact(bQ bV).1) (by exact(bQ bV).2.1)<|by exact(bQ bV).2.2.1
     exact ca xS J (ec J<|ec J<|ec J e0) cc fun _ _ h_=>e2 h_
    refine kq (fun _ _=>ba J J J J b3 J e1)<|zq ?_
    intro ju gv
    have kY:=iE.ext gv
    refine nx<|cd (b:=dG mn mr x0 x2) J J (fun b4=>?_)<|fun b4=>?_
    ·
     refine sq ?_
     obtain⟨x3,gX⟩:∃x,(aV (fe I x1.2.2.2.1) (ee mn mr (j_:Int)))[(q_:Int).toNat]? =some x:=⟨_,dW ai⟩
     have sh:HI M w ju [J7,J5,J4,J3,J2,J1,J0,J6]:=kY.c_ [0,2,3,4,5,6,7,1] aJ J
     let J8:=box dI #[U 4,U (j_:Int),U (-1),U (-1),U (-1),.slice none 0 0,U (-1),U (-1)] 25
     let J9:=box dI #[U 4,U (j_:Int),U x0,U (-1),U (-1),.slice none 0 0,U (-1),U (-1)] 25
     let qI:=box dI #[U 4,U (j_:Int),U x0,U x3,U (-1),.slice none 0 0,U (-1),U (-1)] 25
     refine abx [none,none,none,none,none,none,none,some 9,none,some 11,none,none,some 7] [0,0,0,0,12,28,1,65,195,451,1023,2047] [fun _=>[],fun _=>[],fun _=>[],fun _=>[],fun v_=>[lq (vP v_) x3],fun _=>[],fun _=>[],fun v_=>[J8],fun _=>[],fun v_=>[J9],fun _=>[],fun v_=>[qI],fun _=>[J6]] [[],[],[],[],[],[4],[],[12],[],[7],[],[9]] [fun v_=>v_=U (j_:Int),fun v_=>v_=U x0∧aN (x0),fun v_=>v_=sL a8 (aV (fe I x1.2.2.2.1)<|ee mn mr (j_:Int)) c8,fun v_=>v_=U (q_:Int),fun v_=>∃(sK:Addr),v_=.pointer (some sK),fun v_=>v_=U x3∧aN (x3),fun v_=>v_=pV dI 1,fun _=>True,fun v_=>v_=pV dI 2,fun _=>True,fun v_=>v_=pV dI 3,fun _=>True] [J7,J5,J4,J3,J2,J1,J0] J bu J sh ?_ ?_
     ·
      refine⟨fun f3 lL V_ bW n9 Jp A5 BV=>?_,?_⟩
      ·
       have qJ:HI M w lL ((J7::dD)++bW):=(by have h_:HI M w lL ((J7::dD)++(bW)):=BV;exact h_)
       refine mv J ((n9 7 J).trans gL) ?_
       exact⟨_,J,J,qJ⟩
      refine⟨fun f4 jX V_ bW xm oW yC H35=>?_,?_⟩
      ·
       have BU:HI M w jX ((J7::dD)++bW):=(by have h_:HI M w jX ((J7::dD)++(bW)):=H35;exact h_)
       refine mv J ((xm 8 J).trans gE) ?_
       exact⟨_,J,⟨J,cL⟩,BU⟩
      refine⟨fun f5 kJ V_ bW gM rY j7 sZ=>?_,?_⟩
      ·
       have sP:HI M w kJ ((J7::dD)++bW):=(by have h_:HI M w kJ ((J7::dD)++(bW)):=sZ;exact h_)
       refine mv J ((gM 9 J).trans jg) ?_
       exact⟨_,J,J,sP⟩
      refine⟨fun f6 ow V_ bW GP lP A4 sO=>?_,?_⟩
      ·
       have sY:HI M w ow ((J7::dD)++bW):=(by have h_:HI M w ow ((J7::dD)++(bW)):=sO;exact h_)
       refine mv J ((GP 10 J).trans kU) ?_
       exact⟨_,J,J,sY⟩
      refine⟨fun f7 kv V_ bW vY jk A3 sN=>?_,?_⟩
      ·
       obtain⟨e0,q0⟩:=jk 2 _ rfl rfl rfl
       have e1:V_ 2=sL a8 (aV (fe I x1.2.2.2.1) (ee mn mr (j_:Int))) c8:=q0
       have oA:f7 60=sL a8 (aV (fe I x1.2.2.2.1) (ee mn mr (j_:Int))) c8:=e0.trans e1
       obtain⟨e2,q1⟩:=jk 3 _ rfl rfl rfl
       have e3:V_ 3=U (q_:Int):=q1
       have pw:f7 61=U (q_:Int):=e2.trans e3
       have sX:HI M w kv ((J7::dD)++bW):=(by have h_:HI M w kv ((J7::dD)++(bW)):=sN;exact h_)
       refine ia (sX.rv 0 J) J J oA pw ai cY aQ ?_
       intro kG x4 jT qe
       obtain rfl:x3=x4:=alD (gX.symm.trans jT)
       have wU:=sX.put (it:=lq kG x3) J qe
       have KY:HI M w kv ((lq kG x3::J7::dD)++bW):=wU
       have KW:=HI.ba (l:=(lq kG x3::J7::dD)) (l':=[J7,J5,J4,J3,J2,J1,J0,lq kG x3]) (t:=bW) KY [1,2,3,4,5,6,7,0] aJ J J
       exact⟨_,J,⟨kG,J⟩,KW⟩
      refine⟨fun f8 nU V_ bW ZG j8 A2 Sv=>?_,?_⟩
      ·
       obtain⟨e4,q2⟩:=j8 4 _ rfl rfl rfl
       obtain⟨uz,e5⟩:∃(uz:Addr),V_ 4=.pointer (some uz):=q2
       have x7:f8 62=.pointer (some uz):=e4.trans e5
       have M_:HI M w nU ([iL a8 (aV (fe I x1.2.2.2.1) (ee mn mr (j_:Int))) c8,box bj #[U 0,U 0,U 0,U 0,U 0,.slice none 0 0,U 0,U 0] 25,box aW #[U mn,sL aU mr aT] 68,box aK #[.slice aC aE aB,sL av I au,sL ax fo aw] 32,iL aU mr aT,iL ax fo aw,iL av I au,lq uz x3]++bW):=(by have h_:HI M w nU ([iL a8 (aV (fe I x1.2.2.2.1)<|ee mn mr (j_:Int)) c8,box bj #[U 0,U 0,U 0,U 0,U 0,.slice none 0 0,U 0,U 0] 25,box aW #[U mn,sL aU mr aT] 68,box aK #[.slice aC aE aB,sL av I au,sL ax fo aw] 32,iL aU mr aT,iL ax fo aw,iL av I au]++([lq (vP<|V_ 4) x3]++(bW))):=Sv;rw[e5] at h_;exact h_)
       refine kB (M_.wK 7 J).w aQ J x7 ?_
       intro E4
       exact⟨_,J,⟨J,E4⟩,(by have h_:=M_;rw[show (uz:Addr)=(vP<|V_ 4) from by rw[e5]<;>rfl] at h_;exact h_)⟩
      refine⟨fun f9 ov V_ bW Mi kj A1 St=>?_,?_⟩
      ·
       have H53:HI M w ov ((J7::dD)++bW):=(by have h_:HI M w ov ((J7::dD)++(bW)):=St;exact h_)
       refine fa jV J ((Mi 6 J).trans gF) ?_
       exact⟨_,J,J,H53⟩
      refine⟨fun f10 pL V_ bW ZF ll A0 Ss=>?_,?_⟩
      ·
       obtain⟨e6,q3⟩:=ll 0 _ rfl rfl rfl
       have e7:V_ 0=U (j_:Int):=q3
       have DR:f10 58=U (j_:Int):=e6.trans e7
       obtain⟨e8,q4⟩:=ll 6 _ rfl rfl rfl
       have e9:V_ 6=pV dI 1:=q4
       have Ck:f10 64=pV dI 1:=e8.trans e9
       have Hk:HI M w pL ([J7,J5,J4,J3,J2,J1,J0,J6]++bW):=(by have h_:HI M w pL ((J7::dD)++([J6]++(bW))):=Ss;exact h_)
       refine cz Hk 7 J aQ J J Ck DR J J J ?_
       intro nL (Sr:HI M w nL ([J7,J5,J4,J3,J2,J1,J0,J8]++bW))
       exact⟨undef,J,trivial,Sr⟩
      refine⟨fun f11 xX V_ bW Mh jj yB M8=>?_,?_⟩
      ·
       have Hj:HI M w xX ((J7::dD)++bW):=(by have h_:HI M w xX ((J7::dD)++(bW)):=M8;exact h_)
       refine fa jo J ((Mh 6 J).trans gF) ?_
       exact⟨_,J,J,Hj⟩
      refine⟨fun f12 DP V_ bW ZE mS Mk M7=>?_,?_⟩
      ·
       obtain⟨RN,q5⟩:=mS 1 _ rfl rfl rfl
       obtain⟨Ki,SS⟩:V_ 1=U x0∧aN (x0):=q5
       have IB:f12 59=U x0:=RN.trans Ki
       obtain⟨VY,q6⟩:=mS 8 _ rfl rfl rfl
       have RM:V_ 8=pV dI 2:=q6
       have PF:f12 65=pV dI 2:=VY.trans RM
       have Sq:HI M w DP ([J7,J5,J4,J3,J2,J1,J0,J8]++bW):=(by have h_:HI M w DP ((J7::dD)++([J8]++(bW))):=M7;exact h_)
       refine cz Sq 7 J aQ J J PF IB J J J ?_
       intro Ge (M6:HI M w Ge ([J7,J5,J4,J3,J2,J1,J0,J9]++bW))
       exact⟨undef,J,trivial,M6⟩
      refine⟨fun f13 Gc V_ bW TI iz zI H66=>?_,?_⟩
      ·
       have Sp:HI M w Gc ((J7::dD)++bW):=(by have h_:HI M w Gc ((J7::dD)++(bW)):=H66;exact h_)
       refine fa ny J ((TI 6 J).trans gF) ?_
       exact⟨_,J,J,Sp⟩
      refine⟨fun f14 Ij V_ bW ZH jI FN H69=>?_,?_⟩
      ·
       obtain⟨e14,q7⟩:=jI 5 _ rfl rfl rfl
       obtain⟨e15,SR⟩:V_ 5=U x3∧aN (x3):=q7
       have IA:f14 63=U x3:=e14.trans e15
       obtain⟨e16,q8⟩:=jI 10 _ rfl rfl rfl
       have e17:V_ 10=pV dI 3:=q8
       have PE:f14 66=pV dI 3:=e16.trans e17
       have Sn:HI M w Ij ([J7,J5,J4,J3,J2,J1,J0,J9]++bW):=(by have h_:HI M w Ij ((J7::dD)++([J9]++(bW))):=H69;exact h_)
       refine cz Sn 7 J aQ J J PE IA J J J ?_
       intro Au (Sm:HI M w Au ([J7,J5,J4,J3,J2,J1,J0,qI]++bW))
       exact⟨undef,J,trivial,Sm⟩
      exact trivial
     ·
      intro f15 Ii V_ AZ kg Sl
      obtain⟨e18,q9⟩:=kg 4 _ rfl rfl
      obtain⟨KJ,e19⟩:∃(KJ:Addr),V_ 4=.pointer (some KJ):=q9
      have s32:=(AZ 4 J).trans fX
      have s33:=(AZ 6 J).trans gF
      have M5:HI M w Ii [iL a8 (aV (fe I x1.2.2.2.1) (ee mn mr (j_:Int))) c8,box bj #[U 0,U 0,U 0,U 0,U 0,.slice none 0 0,U 0,U 0] 25,box aW #[U mn,sL aU mr aT] 68,box aK #[.slice aC aE aB,sL av I au,sL ax fo aw] 32,iL aU mr aT,iL ax fo aw,iL av I au,lq KJ x3,box dI #[U 4,U (j_:Int),U x0,U x3,U (-1),.slice none 0 0,U (-1),U (-1)] 25]:=(by have h_:HI M w Ii ([iL a8 (aV (fe I x1.2.2.2.1)<|ee mn mr (j_:Int)) c8,box bj #[U 0,U 0,U 0,U 0,U 0,.slice none 0 0,U 0,U 0] 25,box aW #[U mn,sL aU mr aT] 68,box aK #[.slice aC aE aB,sL av I au,sL ax fo aw] 32,iL aU mr aT,iL ax fo aw,iL av I au]++([]++([]++([]++([]++([lq (vP<|V_ 4) x3]++([]++([]++([]++([]++([box dI #[U 4,U (j_:Int),U x0,U x3,U (-1),.slice none 0 0,U (-1),U (-1)] 25]++([])))))))))))):=Sl;rw[e19] at h_;exact h_)
      refine dM<|k<|cg M5 8 J cu J s33 aJ J<|k<|cz M5 1 J cu J J s32 J J J J ?_
      intro Pj (Wl:HI M w Pj [J7,box bj #[U 4,U (j_:Int),U x0,U x3,U (-1),.slice none 0 0,U (-1),U (-1)] 25,J4,J3,J2,J1,J0,lq KJ x3,qI])
      refine aj (v:=.bool true) J J<|aG<|rt<|bM<|aS<|gb<|bM<|bM<|aS<|gb<|bM<|aS ?_
      obtain⟨qB,VE,ha_⟩:=abL hs ai aq ‹decide (x0<0)=false› (by rw[FR];exact gM) (by rw[FR];exact dR) (fE ‹(!decide (x2=x0))=true›) ‹_›
      refine iS Wl 1 J cu J J J s32 J aJ ?_
      have e8:(true:Bool)=(oT I fo mn mr 4).isSome:=by exact abH qB
      have bF:=fu (fun (ku:Bool)=>(.tuple #[.agg #[U 4,U (j_:Int),U x0,U x3,U (-1),.slice none 0 0,U (-1),U (-1)],.bool ku]:Value)) e8
      exact⟨4,(j_:Int),x0,x3,(-1),(-1),(-1),bF,Wl.below,(by rw[alD (gX.symm.trans dR)];exact adF (kd:=4) (by unfold aN;omega) qB VE ha_ ai cG (R_ bV<|by rw[FR];exact dR))⟩
    refine sk<|aF<|nx<|rg<|ak J kU<|k<|add J J J J aY<|aj (v:=U ((q_:Int)+1)) J J<|z<|bD _ ?_ ⟨(q_+1),J,fJ,fw,fX,gF,gL,gE,jg,(bJ J),kY,ai,(by exact L7 gM dR (by simp only[wI,b0,b1,b2,(fE b3),b4,BL]))⟩
    omega
   have p3:=dT<|fF b3
   refine qn J J J b3<|qn J J J b3<|qn J J J b3<|qn J J J b3<|qn J J J b3<|qn J J J b3<|qn J J J b3<|kq (fun _ _=>bc J J J J b3 J e1)<|zq ?_
   intro ju gv
   have kY:=iE.ext gv
   refine nx<|l7 J J J<|sk<|aF<|nx<|rg<|ak J kU<|k<|add J J J J aY<|aj (v:=U ((q_:Int)+1)) J J<|z<|bD _ ?_ ⟨(q_+1),J,fJ,fw,fX,gF,gL,gE,jg,(bJ J),kY,ai,(by exact L7 gM dR (by simp only[wI,b0,b1,b2,(fF b3),BL]))⟩
   omega
  have p2:=dF b2
  refine ex<|bg<|bt<|bz<|aF<|nx<|rg<|ak J gL<|k<|add J J J J aY<|aj (v:=U ((j_:Int)+1)) J J<|z ?_
  have kY:HI M w jf (J6::dD):=iE.c_ [1,2,3,4,5,6,7] aJ J
  refine bD _ ?_ ⟨(j_+1),J,fJ,fw,fX,gF,(bJ J),kY,ai,(by exact UB hs aq (by rw[FR];exact gM) (by rw[FR];omega))⟩
  omega
 have p0:=dF b0
 refine ex<|bg<|bt<|bz<|dM<|k<|cg H9 0 J cu J s3 aJ J<|k<|cz H9 1 J cu J J s2 J J J J ?_
 intro w7 (db:HI M w w7 (J6::box bj #[U 4,U (-1),U (-1),U (-1),U (-1),.slice none 0 0,U (-1),U (-1)] 25::dv))
 refine aj (v:=.bool false) J J<|aG<|rt ?_
 have qB:BJ I fo mn mr=none:=Du hs ai
 refine iS db 1 J cu J J J s2 J aJ ?_
 have e8:(false:Bool)=(oT I fo mn mr 4).isSome:=by rw[RX qB];rfl
 have bF:=fu (fun (ku:Bool)=>(.tuple #[.agg #[U 4,U (-1),U (-1),U (-1),U (-1),.slice none 0 0,U (-1),U (-1)],.bool ku]:Value)) e8
 exact⟨4,(-1),(-1),(-1),(-1),(-1),(-1),bF,db.below,(by exact ve (RX qB) (by refine⟨?_,?_,?_,?_,?_⟩<;>first|assumption|(unfold aN;omega)))⟩
theorem Cp (hM:ei M w) (cX:cP M w av au I) (fM:cP M w ax aw fo) (fL:aN mn) (eO:cP M w aU aT mr) (ho:et I) (cT:I.length≤64) (eT:fo.length=I.length) (bV:cq mn mr=true) (Dk:mn=((I.length:Nat):Int)):Calls aX 35 #[.agg #[.slice aC aE aB,sL av I au,sL ax fo aw],.agg #[U mn,sL aU mr aT]] w (cZ fun v w'=>∃(a0:OA) (c0:Nat),v=.slice a0 (bP I fo mn mr I.length).length c0∧Ext w w'∧bm M 79 w (bP I fo mn mr I.length) (.slice a0 (bP I fo mn mr I.length).length c0) w'):=by
 refine dK 89 Tryz.func35 J J J hM fun f0 ha H=>?_
 let J0:=iL av I au
 have H0:=H.put (it:=J0) J<|by rw[dY];exact cX
 let J1:=iL ax fo aw
 have H1:=H0.put (it:=J1) J<|by rw[bp rfl,dY];exact fM
 let J2:=iL aU mr aT
 have H2:=H1.put (it:=J2) J<|by rw[bp rfl,bp rfl,dY];exact eO
 have iT:=bN cX
 have nn:=bN fM
 have lu:=bN eO
 have i0:f0 0=.agg #[.slice aC aE aB,sL av I au,sL ax fo aw]:=ha 0 bH
 have i1:f0 1=.agg #[U mn,sL aU mr aT]:=ha 1 bH
 refine aH<|k<|bx H2 J i0 ?_
 let bC:=[J2,J1,J0]
 intro aK w0 dt (H3:HI M w w0 (box aK #[.slice aC aE aB,sL av I au,sL ax fo aw] 32::bC))
 let J3:=box aK #[.slice aC aE aB,sL av I au,sL ax fo aw] 32
 refine k<|bx H3 J i1 ?_
 intro aW w1 cR (H4:HI M w w1 (box aW #[U mn,sL aU mr aT] 68::J3::bC))
 let J4:=box aW #[U mn,sL aU mr aT] 68
 refine aj (v:=.slice none 0 0) J J<|cU<|aj (v:=.slice none 0 0) J J<|aG<|sq<|aH<|aj (v:=U 0) J J<|aG<|bk ?_
 have H5:=H4.ke (Int×Int×Int) 79
 let dk:=J4::J3::bC
 refine lp (fun m f w'=>∃(a_:Nat) (rF:List (Int×Int×Int)) (a0:OA) (c0:Nat),m=I.length-a_∧f 2=pV aK 0∧f 3=pV aW 0∧f 5=sL a0 rF c0∧f 6=U (a_:Int)∧HI M w w' (oL w 79 a0 rF c0::dk)∧(a_≤I.length)∧(rF=bP I fo mn mr a_)) _ ⟨0,([]:List (Int×Int×Int)),none,0,J,J,J,J,(bJ J),H5,ai,(by rfl)⟩ ?_
 rintro _ f0 w2 ⟨a_,rF,a0,c0,rfl,s0,s1,s2,s3,H6,ha_,Dg⟩
 refine sq<|aH<|ak J s3<|bo dh J s0<|bR H6 2 J eR J J J<|k<|ep J J fj<|k<|lss J J J J<|z<|nx<|cd (b:=decide ((a_:Int)<(I.length:Int))) J J (fun b0=>?_)<|fun b0=>?_
 ·
  have p0:=dT b0
  refine sk<|nx<|sq<|bk<|aH<|aj (v:=U 0) J J<|aG<|bk<|lp (fun m f w'=>∃(b_:Nat) (og:List (Int×Int×Int)) (a1:OA) (c1:Nat),m=I.length-b_∧f 2=pV aK 0∧f 3=pV aW 0∧f 5=sL a1 og c1∧f 6=U (a_:Int)∧f 7=U (b_:Int)∧HI M w w' (oL w 79 a1 og c1::dk)∧(b_≤I.length)∧(og=bP I fo mn mr a_++ry I fo mn mr a_ b_)) _ ⟨0,rF,a0,c0,J,s0,s1,s2,s3,(bJ J),H6,ai,(by rw[Dg];exact(amA _).symm)⟩ ?_
  rintro _ f1 w3 ⟨b_,og,a1,c1,rfl,s4,s5,s6,s7,s8,H7,VE,uI⟩
  refine sq<|aH<|ak J s8<|bo dh J s4<|bR H7 2 J eR J J J<|k<|ep J J fj<|k<|lss J J J J<|z<|nx<|cd (b:=decide ((b_:Int)<(I.length:Int))) J J (fun b1=>?_)<|fun b1=>?_
  ·
   have p1:=dT b1
   refine sk<|nx<|sq<|bk<|aH<|aj (v:=U 0) J J<|aG<|bk<|lp (fun m f w'=>∃(r_:Nat) (qS:List (Int×Int×Int)) (a2:OA) (c2:Nat),m=I.length-r_∧f 2=pV aK 0∧f 3=pV aW 0∧f 5=sL a2 qS c2∧f 6=U (a_:Int)∧f 7=U (b_:Int)∧f 8=U (r_:Int)∧HI M w w' (oL w 79 a2 qS c2::dk)∧(r_≤I.length)∧(qS=bP I fo mn mr a_++ry I fo mn mr a_ b_++mQ I fo mn mr a_ b_ r_)) _ ⟨0,og,a1,c1,J,s4,s5,s6,s7,s8,(bJ J),H7,ai,(by rw[uI];exact(amA _).symm)⟩ ?_
   rintro _ f2 w4 ⟨r_,qS,a2,c2,rfl,s9,ey,ew,eE,fc,fJ,H8,ZM,uH⟩
   refine sq<|aH<|ak J fJ<|bo dh J s9<|bR H8 2 J eR J J J<|k<|ep J J fj<|k<|lss J J J J<|z<|nx<|cd (b:=decide ((r_:Int)<(I.length:Int))) J J (fun b2=>?_)<|fun b2=>?_
   ·
    have p2:=dT b2
    refine sk<|nx<|sq<|bk<|cut (fun f w'=>∃(RY:Bool),f 2=pV aK 0∧f 3=pV aW 0∧f 5=sL a2 qS c2∧f 6=U (a_:Int)∧f 7=U (b_:Int)∧f 8=U (r_:Int)∧f 9=.bool RY∧HI M w w' (oL w 79 a2 qS c2::dk)∧(RY=tO I (a_:Int) (b_:Int))) ?_ ?_
    ·
     refine yY J bu<|kq (fun _ _=>fa dh J s9 e1)<|kq (fun _ x_=>lx (H8.ext x_) 2 J eR J J J e1)<|kq (fun _ _=>mv J eE e1)<|hG (H8.rv 5 J) J J J J ai fj gB ?_
     intro fz x0 aq cN
     refine kq (fun _ _=>fa oe J J e1)<|tL ((cN).s2).fst.w mC J J<|kq (fun _ _=>mv (v:=.bool x0.2.2.1) J J e1) ?_
     rcases bE (x0.2.2.1) with b3|b3
     ·
      refine qy J J J b3<|kq (fun _ _=>fa dh J s9 e1)<|qy J J J b3<|kq (fun _ x_=>lx (H8.ext x_) 2 J eR J J J e1)<|qy J J J b3<|kq (fun _ _=>mv J fc e1)<|qy J J J b3<|hG (H8.rv 5 J) J J J J ai fj gB ?_
      intro iG x1 cw eU
      refine qy J J J b3<|kq (fun _ _=>fa oe J J e1)<|qy J J J b3<|tL ((eU).s2).fst.w mC J J<|kq (fun _ _=>ba J J J J b3 J e1)<|kq (fun _ _=>mv (v:=.bool x1.2.2.1) J J e1) ?_
      rcases bE (x1.2.2.1) with b4|b4
      ·
       refine qy J J J b4<|kq (fun _ _=>fa dh J s9 e1)<|qy J J J b4<|kq (fun _ x_=>lx (H8.ext x_) 2 J eR J J J e1)<|qy J J J b4<|kq (fun _ _=>mv J eE e1)<|qy J J J b4<|hG (H8.rv 5 J) J J J J ai fj gB ?_
       intro kX x_ ki gJ
       obtain rfl:x0=x_:=alD (aq.symm.trans ki)
       refine qy J J J b4<|kq (fun _ _=>fa nv J J e1)<|qy J J J b4<|fV ((gJ).s3).fst.w aQ J J ?_
       intro cL
       refine qy J J J b4<|kq (fun _ _=>fa dh J s9 e1)<|qy J J J b4<|kq (fun _ x_=>lx (H8.ext x_) 2 J eR J J J e1)<|qy J J J b4<|kq (fun _ _=>mv J fc e1)<|qy J J J b4<|hG (H8.rv 5 J) J J J J ai fj gB ?_
       intro jc x_ ki km
       obtain rfl:x1=x_:=alD (cw.symm.trans ki)
       refine qy J J J b4<|kq (fun _ _=>fa nv J J e1)<|qy J J J b4<|fV ((km).s3).fst.w aQ J J ?_
       intro eQ
       refine qy J J J b4<|kq (fun _ _=>eql J J J J e1)<|kq (fun _ _=>ba J J J J b4 J e1)<|kq (fun _ _=>gH (v:=.bool (decide (x0.2.2.2.1=x1.2.2.2.1))) J J e1)<|zq ?_
       intro w6 d_
       have H9:=H8.ext d_
       refine mh ⟨(decide (x0.2.2.2.1=x1.2.2.2.1)),s9,ey,ew,eE,fc,fJ,J,H9,(by exact(by simp only[tO,cm,gU,aq,cw,b0,b1,b2,b3,b4,BL,amq,amv];done))⟩
      refine qn J J J b4<|qn J J J b4<|qn J J J b4<|qn J J J b4<|qn J J J b4<|qn J J J b4<|qn J J J b4<|qn J J J b4<|qn J J J b4<|qn J J J b4<|qn J J J b4<|qn J J J b4<|qn J J J b4<|kq (fun _ _=>bc J J J J b4 J e1)<|kq (fun _ _=>gH (v:=.bool false) J J e1)<|zq ?_
      intro w6 d_
      have H9:=H8.ext d_
      refine mh ⟨false,s9,ey,ew,eE,fc,fJ,J,H9,(by exact(by simp only[tO,cm,gU,aq,cw,b0,b1,b2,b3,b4,BL,amq,amv];done))⟩
     refine qn J J J b3<|qn J J J b3<|qn J J J b3<|qn J J J b3<|qn J J J b3<|qn J J J b3<|kq (fun _ _=>bc J J J J b3 J e1)<|kq (fun _ _=>mv (v:=.bool false) J J e1)<|qn J J J J<|qn J J J J<|qn J J J J<|qn J J J J<|qn J J J J<|qn J J J J<|qn J J J J<|qn J J J J<|qn J J J J<|qn J J J J<|qn J J J J<|qn J J J J<|qn J J J J<|kq (fun _ _=>bc J J J J J J e1)<|kq (fun _ _=>gH (v:=.bool false) J J e1)<|zq ?_
     intro w6 d_
     have H9:=H8.ext d_
     refine mh ⟨false,s9,ey,ew,eE,fc,fJ,J,H9,(by exact(by simp only[tO,cm,gU,aq,b0,b1,b2,b3,BL,amq,amv];done))⟩
    ·
     rintro f3 w5 ⟨RY,fw,fX,gF,gL,gE,jg,kU,da,JH⟩
     refine aH<|ak J gL<|ak J gE<|k<|neq J J J J<|ak (v:=.bool (!decide ((a_:Int)=(b_:Int)))) J J ?_
     rcases bE (!decide ((a_:Int)=(b_:Int))) with b4|b4
     ·
      have p4:=dF<|fE b4
      refine aM J J J b4<|mv J kU<|k<|ba J J J J b4 J<|ak (v:=.bool RY) J J ?_
      rcases bE (RY) with b5|b5
      ·
       refine aM J J J b5<|fa kD J fw<|aM J J J b5<|lx da 2 J lA J J J<|aM J J J b5<|mv J jg<|aM J J J b5<|ia (da.rv 4 J) J J J J ai cY aQ ?_
       intro iG x1 cw eU
       refine aM J J J b5<|kB eU.w aQ J J ?_
       intro cL
       refine aM J J J b5<|mv J gE<|aM J J J b5<|eql J J J J<|k<|ba J J J J b5 J<|ak (v:=.bool (decide (x1=(b_:Int)))) J J ?_
       rcases bE (decide (x1=(b_:Int))) with b6|b6
       ·
        have p6:=dT b6
        refine aM J J J b6<|cg da 1 J bh J fX aJ J<|aM J J J b6<|mv J gL<|aM J J J b6<|mv J jg<|aM J J J b6 ?_
        have cx:=mm (mn:=mn) (mr:=mr) (i:=(a_:Int)) (j:=(r_:Int)) da.mb fL (da.rv 3 J) aY aY (by exact(bQ bV).1) (by exact(bQ bV).2.1)<|by exact(bQ bV).2.2.1
        refine ca xS J (ec J<|ec J<|ec J e0) cx ?_
        rintro _ w7 ⟨rfl,eG⟩
        have eB:=da.ext eG
        refine k<|ba J J J J b6 J<|z<|nx<|cd (b:=dG mn mr (a_:Int) (r_:Int)) J J (fun b7=>?_)<|fun b7=>?_
        ·
         have A_:qS.length≤300000:=by rw[uH];exact G9 ai ai ai cT
         refine rg<|ak J gF<|ak J gL<|ak J gE<|ak J jg<|k<|bd (v:=.agg #[U (a_:Int),U (b_:Int),U (r_:Int)]) J (ct J<|ct J<|ct J eo) (fun _=>bu)<|k<|bs (xs:=([((a_:Int),(b_:Int),(r_:Int))]:List (Int×Int×Int))) (cells:=#[U (a_:Int),U (b_:Int),U (r_:Int)]) (e:=79) eB J (ct J eo) (fun _=>bu) ⟨[U (a_:Int),U (b_:Int),U (r_:Int)],[],J,⟨_,_,J,⟨J,(show aN ((a_:Int)) from aY)⟩,⟨_,_,J,⟨J,(show aN ((b_:Int)) from aY)⟩,⟨J,(show aN ((r_:Int)) from aY)⟩⟩⟩,J⟩ J aJ ?_
         intro g0 w8 eI dZ
         refine k<|kE dZ 1 J J J J J J (fD<|dZ.at_ 0 J) pM tg J (by simp;omega) J ?_
         intro a3 c3 w9 (cM:HI M w w9 (own w.heap.size 79 (.slice (some ⟨g0,0,none⟩) 1 1) ([((a_:Int),(b_:Int),(r_:Int))]:List (Int×Int×Int))::oL w 79 a3 (qS++([((a_:Int),(b_:Int),(r_:Int))]:List (Int×Int×Int))) c3::dk))
         refine aj (v:=sL a3 (qS++([((a_:Int),(b_:Int),(r_:Int))]:List (Int×Int×Int))) c3) J J<|z<|aF<|nx<|rg<|ak J jg<|k<|add J J J J aY<|aj (v:=U ((r_:Int)+1)) J J<|z ?_
         have fR:HI M w w9 (oL w 79 a3 (qS++([((a_:Int),(b_:Int),(r_:Int))]:List (Int×Int×Int))) c3::dk):=cM.c_ [1,2,3,4,5,6] aJ J
         refine bD _ ?_ ⟨(r_+1),(qS++([((a_:Int),(b_:Int),(r_:Int))]:List (Int×Int×Int))),a3,c3,J,fw,fX,J,gL,gE,(bJ J),fR,ai,(by exact agz uH (RD cw<|by rw[←JH];simp only[b0,b1,b2,(fE b4),b5,b6,b7,BL];done))⟩
         omega
        refine sk<|aF<|nx<|rg<|ak J jg<|k<|add J J J J aY<|aj (v:=U ((r_:Int)+1)) J J<|z<|bD _ ?_ ⟨(r_+1),qS,a2,c2,J,fw,fX,gF,gL,gE,(bJ J),eB,ai,(by exact OY uH (G5 cw<|by rw[←JH];simp only[b0,b1,b2,(fE b4),b5,b6,b7,BL];done))⟩
        omega
       have p6:=dF b6
       refine aD J J J b6<|aD J J J b6<|aD J J J b6<|aD J J J b6<|k<|bc J J J J b6 J<|aG<|l7 J J J<|sk<|aF<|nx<|rg<|ak J jg<|k<|add J J J J aY<|aj (v:=U ((r_:Int)+1)) J J<|z<|bD _ ?_ ⟨(r_+1),qS,a2,c2,J,fw,fX,gF,gL,gE,(bJ J),da,ai,(by exact OY uH (G5 cw<|by rw[←JH];simp only[b0,b1,b2,(fE b4),b5,b6,BL];done))⟩
       omega
      refine aD J J J b5<|aD J J J b5<|aD J J J b5<|aD J J J b5<|aD J J J b5<|aD J J J b5<|aD J J J b5<|k<|bc J J J J b5 J<|ak (v:=.bool false) J J<|aD J J J J<|aD J J J J<|aD J J J J<|aD J J J J<|k<|bc J J J J J J<|aG<|l7 J J J<|sk<|aF<|nx<|rg<|ak J jg<|k<|add J J J J aY<|aj (v:=U ((r_:Int)+1)) J J<|z<|bD _ ?_ ⟨(r_+1),qS,a2,c2,J,fw,fX,gF,gL,gE,(bJ J),da,ai,(by exact OY uH (G7<|by rw[←JH];simp only[b0,b1,b2,(fE b4),b5,BL];done))⟩
      omega
     have p4:=dT<|fF b4
     refine aD J J J b4<|k<|bc J J J J b4 J<|ak (v:=.bool false) J J<|aD J J J J<|aD J J J J<|aD J J J J<|aD J J J J<|aD J J J J<|aD J J J J<|aD J J J J<|k<|bc J J J J J J<|ak (v:=.bool false) J J<|aD J J J J<|aD J J J J<|aD J J J J<|aD J J J J<|k<|bc J J J J J J<|aG<|l7 J J J<|sk<|aF<|nx<|rg<|ak J jg<|k<|add J J J J aY<|aj (v:=U ((r_:Int)+1)) J J<|z<|bD _ ?_ ⟨(r_+1),qS,a2,c2,J,fw,fX,gF,gL,gE,(bJ J),da,ai,(by exact OY uH (G7<|by rw[←JH];simp only[b0,b1,b2,(fF b4),BL];done))⟩
     omega
   have p2:=dF b2
   refine ex<|bg<|bt<|bz<|aF<|nx<|rg<|ak J fc<|k<|add J J J J aY<|aj (v:=U ((b_:Int)+1)) J J<|z<|bD _ ?_ ⟨(b_+1),qS,a2,c2,J,s9,ey,ew,eE,(bJ J),H8,ai,(by rw[uH,alY,RE ai ai])⟩
   omega
  have p1:=dF b1
  refine ex<|bg<|bt<|bz<|aF<|nx<|rg<|ak J s7<|k<|add J J J J aY<|aj (v:=U ((a_:Int)+1)) J J<|z<|bD _ ?_ ⟨(a_+1),og,a1,c1,J,s4,s5,s6,(bJ J),H7,ai,(by rw[uI,RF ai ai])⟩
  omega
 have p0:=dF b0
 refine ex<|bg<|bt<|bz<|dM<|ak J s2<|aj (v:=sL a0 rF c0) J J<|aG<|rt<|r1 J J ?_
 have e0:(rF:List (Int×Int×Int))=bP I fo mn mr I.length:=by rw[Dg,show a_=I.length from by omega]
 have bF:=fu (fun (cK:List (Int×Int×Int))=>(.slice a0 cK.length c0:Value)) e0
 exact⟨a0,c0,bF,H6.below,(alB (fun (x_:List (Int×Int×Int))=>bm _ _ _ x_ (.slice a0 x_.length c0) _) e0).mp (H6.cB 0 J)⟩
theorem af_:dq aX 42:=dy Tryz.func42
theorem NH (hM:ei M w) (cX:cP M w av au I) (cT:I.length≤4096):Calls aX 42 #[.agg #[.slice aC aE aB,sL av I au,.slice ax cH aw]] w (cZ fun v w'=>∃(a0:OA) (c0:Nat),v=.slice a0 (iU I).length c0∧Ext w w'∧bm M 3 w (iU I) (.slice a0 (iU I).length c0) w'):=by
 refine dK 42 Tryz.func42 J J J hM fun f0 ha H=>?_
 have H0:=cj H cX
 have iT:=bN cX
 have i0:f0 0=.agg #[.slice aC aE aB,sL av I au,.slice ax cH aw]:=ha 0 bH
 refine aH<|k<|bx H0 J i0 ?_
 intro aK w0 dt (H1:HI M w w0 [box aK #[.slice aC aE aB,sL av I au,.slice ax cH aw] 32,iL av I au])
 refine aj (v:=.slice none 0 0) J J<|cU<|aj (v:=.slice none 0 0) J J<|aG<|sq<|aH<|aj (v:=U 0) J J<|aG<|bk ?_
 have H2:=H1.ke Int 3
 let bC:=[box aK #[.slice aC aE aB,sL av I au,.slice ax cH aw] 32,iL av I au]
 refine lp (fun m f w'=>∃(j:Nat) (xs:az) (a0:OA) (c0:Nat),m=I.length-j∧f 1=pV aK 0∧f 3=sL a0 xs c0∧f 4=U (j:Int)∧HI M w w' (oL w 3 a0 xs c0::bC)∧(j≤I.length)∧(xs=(I.take j).map (uU I))) _ ⟨0,([]:az),none,0,J,J,J,(bJ J),H2,ai,(by rfl)⟩ ?_
 rintro _ f0 w1 ⟨j,xs,a0,c0,rfl,s0,s1,s2,H3,hk,hs⟩
 refine sq<|aH<|ak J s2<|bo dh J s0<|bR H3 1 J eR J J J<|k<|ep J J fj<|k<|lss J J J J<|z<|nx<|cd (b:=decide ((j:Int)<(I.length:Int))) J J (fun b0=>?_)<|fun b0=>?_
 ·
  have p0:=dT b0
  refine sk<|nx<|sq<|bk<|aH<|bo dh J s0<|bR H3 1 J eR J J J<|ak J s2<|k<|ia (H3.rv 2 J) J J J J ai fj gB ?_
  intro fz x0 aq cN
  refine k<|vQ cN.w gB J J ?_
  intro v0 cL
  obtain⟨_,⟨_,_,rfl,⟨rfl,eQ⟩,⟨_,_,rfl,⟨rfl,gh⟩,⟨_,_,rfl,rfl,⟨_,_,rfl,⟨rfl,fQ⟩,⟨rfl,gG⟩⟩⟩⟩⟩,rfl⟩:=cL
  refine k<|al H3 gB ?_
  intro aW w2 cR (H4:HI M w w2 (box aW #[U 0,U 0,.bool false,U 0,U 0] 85::oL w 3 a0 xs c0::bC))
  refine k<|cz H4 0 J gB J J J J J J J ?_
  intro w3 (H5:HI M w w3 (box aW #[U x0.1,U x0.2.1,.bool x0.2.2.1,U x0.2.2.2.1,U x0.2.2.2.2] 85::oL w 3 a0 xs c0::bC))
  refine cU<|aj (v:=U (-2)) J J<|cU<|k<|cg H5 2 J dn J s0 aJ J<|bo nv J J<|bR H5 0 J aQ J J J<|bo Bu J J<|bR H5 0 J aQ J J J<|k ?_
  have cx:=Cr (I:=I) (vr:=x0.2.2.2.1) (val:=x0.2.2.2.2) (aC:=aC) (aE:=aE) (aB:=aB) (ax:=ax) (cH:=cH) (aw:=aw) H5.mb (H5.rv 3 J) fQ gG
  refine ca aaW J (ec J<|ec J<|ec J e0) cx ?_
  rintro _ w4 ⟨rfl,d_⟩
  have H6:=H5.ext d_
  refine ak (v:=.tuple #[U (max (g_ I x0.2.2.2.1 x0.2.2.2.2) 0),.bool (decide (0≤g_ I x0.2.2.2.1 x0.2.2.2.2))]) J J<|k<|xt J J J<|k<|xt J J J<|aj (v:=U (max (g_ I x0.2.2.2.1 x0.2.2.2.2) 0)) J J<|aj (v:=.bool (decide (0≤g_ I x0.2.2.2.1 x0.2.2.2.2))) J J<|aG<|sq<|aH<|bo oe J J<|bR H6 0 J mC J J J<|z<|nx<|cd (b:=x0.2.2.1) J J (fun b1=>?_)<|fun b1=>?_
  ·
   refine rg<|aj (v:=U (-3)) J J<|aG<|rg<|ak J s1<|ak (v:=U (-3)) J J<|k<|bs (xs:=([(-3)]:az)) (cells:=#[U (-3)]) (e:=3) H6 J (ct J eo) (fun _=>bu) ⟨[U (-3)],[],J,⟨J,(show aN ((-3)) from aY)⟩,J⟩ J aJ ?_
   intro g0 w5 eG H7
   refine k<|kE H7 2 J J J J J J (fD<|H7.at_ 0 J) cY aQ J (by rw[hs,aml,lY];simp only[jv,gW];omega) J ?_
   intro a1 c1 w6 (H8:HI M w w6 (own w.heap.size 3 (.slice (some ⟨g0,0,none⟩) 1 1) ([(-3)]:az)::box aW #[U x0.1,U x0.2.1,.bool x0.2.2.1,U x0.2.2.2.1,U x0.2.2.2.2] 85::oL w 3 a1 (xs++([(-3)]:az)) c1::bC))
   refine aj (v:=sL a1 (xs++([(-3)]:az)) c1) J J<|z<|aF<|nx<|rg<|ak J s2<|k<|add J J J J aY<|aj (v:=U ((j:Int)+1)) J J<|z ?_
   have H9:HI M w w6 (oL w 3 a1 (xs++([(-3)]:az)) c1::bC):=H8.c_ [2,3,4] aJ J
   refine bD _ ?_ ⟨(j+1),(xs++([(-3)]:az)),a1,c1,J,s0,J,(bJ J),H9,ai,(by rw[hs];first|exact ig aq (HJ b1)|exact ig aq (HM b1 p2)|exact ig aq (HK b1 p2 b3)|exact ig aq (HL b1 p2 b3))⟩
   omega
  refine aH<|bo Bu J J<|bR H6 0 J aQ J J J<|k<|eql J J J J<|z<|nx<|cd (b:=decide (x0.2.2.2.2=0)) J J (fun b2=>?_)<|fun b2=>?_
  ·
   have p2:=dT b2
   refine rg<|aj (v:=U (-1)) J J<|aG<|rg<|ak J s1<|ak (v:=U (-1)) J J<|k<|bs (xs:=([(-1)]:az)) (cells:=#[U (-1)]) (e:=3) H6 J (ct J eo) (fun _=>bu) ⟨[U (-1)],[],J,⟨J,(show aN ((-1)) from aY)⟩,J⟩ J aJ ?_
   intro g0 w5 eG H7
   refine k<|kE H7 2 J J J J J J (fD<|H7.at_ 0 J) cY aQ J (by rw[hs,aml,lY];simp only[jv,gW];omega) J ?_
   intro a1 c1 w6 (H8:HI M w w6 (own w.heap.size 3 (.slice (some ⟨g0,0,none⟩) 1 1) ([(-1)]:az)::box aW #[U x0.1,U x0.2.1,.bool x0.2.2.1,U x0.2.2.2.1,U x0.2.2.2.2] 85::oL w 3 a1 (xs++([(-1)]:az)) c1::bC))
   refine aj (v:=sL a1 (xs++([(-1)]:az)) c1) J J<|z<|aF<|nx<|rg<|ak J s2<|k<|add J J J J aY<|aj (v:=U ((j:Int)+1)) J J<|z ?_
   have H9:HI M w w6 (oL w 3 a1 (xs++([(-1)]:az)) c1::bC):=H8.c_ [2,3,4] aJ J
   refine bD _ ?_ ⟨(j+1),(xs++([(-1)]:az)),a1,c1,J,s0,J,(bJ J),H9,ai,(by rw[hs];first|exact ig aq (HJ b1)|exact ig aq (HM b1 p2)|exact ig aq (HK b1 p2 b3)|exact ig aq (HL b1 p2 b3))⟩
   omega
  have p2:=dF b2
  refine aH<|ak (v:=.bool (decide (0≤g_ I x0.2.2.2.1 x0.2.2.2.2))) J J<|z<|nx<|cd (b:=decide (0≤g_ I x0.2.2.2.1 x0.2.2.2.2)) J J (fun b3=>?_)<|fun b3=>?_
  ·
   have p3:=dT b3
   refine rg<|ak (v:=U (max (g_ I x0.2.2.2.1 x0.2.2.2.2) 0)) J J<|aj (v:=U (max (g_ I x0.2.2.2.1 x0.2.2.2.2) 0)) J J<|aG<|rg<|ak J s1<|ak (v:=U (max (g_ I x0.2.2.2.1 x0.2.2.2.2) 0)) J J<|k<|bs (xs:=([(max (g_ I x0.2.2.2.1 x0.2.2.2.2) 0)]:az)) (cells:=#[U (max (g_ I x0.2.2.2.1 x0.2.2.2.2) 0)]) (e:=3) H6 J (ct J eo) (fun _=>bu) ⟨[U (max (g_ I x0.2.2.2.1 x0.2.2.2.2) 0)],[],J,⟨J,(show aN ((max (g_ I x0.2.2.2.1 x0.2.2.2.2) 0)) from(by have h_:=u7 (p:=sD x0.2.2.2.1 x0.2.2.2.2) (r:=I);unfold g_;unfold aN;omega))⟩,J⟩ J aJ ?_
   intro g0 w5 eG H7
   refine k<|kE H7 2 J J J J J J (fD<|H7.at_ 0 J) cY aQ J (by rw[hs,aml,lY];simp only[jv,gW];omega) J ?_
   intro a1 c1 w6 (H8:HI M w w6 (own w.heap.size 3 (.slice (some ⟨g0,0,none⟩) 1 1) ([(max (g_ I x0.2.2.2.1 x0.2.2.2.2) 0)]:az)::box aW #[U x0.1,U x0.2.1,.bool x0.2.2.1,U x0.2.2.2.1,U x0.2.2.2.2] 85::oL w 3 a1 (xs++([(max (g_ I x0.2.2.2.1 x0.2.2.2.2) 0)]:az)) c1::bC))
   refine aj (v:=sL a1 (xs++([(max (g_ I x0.2.2.2.1 x0.2.2.2.2) 0)]:az)) c1) J J<|z<|aF<|nx<|rg<|ak J s2<|k<|add J J J J aY<|aj (v:=U ((j:Int)+1)) J J<|z ?_
   have H9:HI M w w6 (oL w 3 a1 (xs++([(max (g_ I x0.2.2.2.1 x0.2.2.2.2) 0)]:az)) c1::bC):=H8.c_ [2,3,4] aJ J
   refine bD _ ?_ ⟨(j+1),(xs++([(max (g_ I x0.2.2.2.1 x0.2.2.2.2) 0)]:az)),a1,c1,J,s0,J,(bJ J),H9,ai,(by rw[hs];first|exact ig aq (HJ b1)|exact ig aq (HM b1 p2)|exact ig aq (HK b1 p2 b3)|exact ig aq (HL b1 p2 b3))⟩
   omega
  have p3:=dF b3
  refine sk<|nx<|rg<|ak J s1<|ak (v:=U (-2)) J J<|k<|bs (xs:=([(-2)]:az)) (cells:=#[U (-2)]) (e:=3) H6 J (ct J eo) (fun _=>bu) ⟨[U (-2)],[],J,⟨J,(show aN ((-2)) from aY)⟩,J⟩ J aJ ?_
  intro g0 w5 eG H7
  refine k<|kE H7 2 J J J J J J (fD<|H7.at_ 0 J) cY aQ J (by rw[hs,aml,lY];simp only[jv,gW];omega) J ?_
  intro a1 c1 w6 (H8:HI M w w6 (own w.heap.size 3 (.slice (some ⟨g0,0,none⟩) 1 1) ([(-2)]:az)::box aW #[U x0.1,U x0.2.1,.bool x0.2.2.1,U x0.2.2.2.1,U x0.2.2.2.2] 85::oL w 3 a1 (xs++([(-2)]:az)) c1::bC))
  refine aj (v:=sL a1 (xs++([(-2)]:az)) c1) J J<|z<|aF<|nx<|rg<|ak J s2<|k<|add J J J J aY<|aj (v:=U ((j:Int)+1)) J J<|z ?_
  have H9:HI M w w6 (oL w 3 a1 (xs++([(-2)]:az)) c1::bC):=H8.c_ [2,3,4] aJ J
  refine bD _ ?_ ⟨(j+1),(xs++([(-2)]:az)),a1,c1,J,s0,J,(bJ J),H9,ai,(by rw[hs];first|exact ig aq (HJ b1)|exact ig aq (HM b1 p2)|exact ig aq (HK b1 p2 b3)|exact ig aq (HL b1 p2 b3))⟩
  omega
 have p0:=dF b0
 refine ex<|bg<|bt<|bz<|dM<|ak J s1<|aj (v:=sL a0 xs c0) J J<|aG<|rt<|r1 J J ?_
 have e0:(xs:az)=iU I:=by rw[hs];unfold iU;rw[k0 ai]
 have bF:=fu (fun (cK:az)=>(.slice a0 cK.length c0:Value)) e0
 exact⟨a0,c0,bF,H3.below,(alB (fun (x_:az)=>bm _ _ _ x_ (.slice a0 x_.length c0) _) e0).mp (H3.cB 0 J)⟩
theorem NI {fv:List fO} (hM:ei M w) (afJ:cP M w aC aB fv) (cX:cP M w av au I) (fM:cP M w ax aw fo) (cT:I.length≤4096):Calls aX 18 #[.agg #[sL aC fv aB,sL av I au,sL ax fo aw]] w (cZ fun v w'=>∃(a0:OA) (c0:Nat) (a1:OA) (c1:Nat) (a2:OA) (c2:Nat),v=.agg #[sL a0 fv c0,sL a1 I c1,.slice a2 (iU I).length c2]∧Ext w w'∧cP M w' a0 c0 fv∧cP M w' a1 c1 I∧RV M w' (.slice a2 (iU I).length c2) (iU I)):=by
 refine dK 10 Tryz.func18 J J J hM fun f0 ha H=>?_
 have H0:=cj H afJ
 have H1:=cj H0 cX
 have H2:=cj H1 fM
 have i0:f0 0=.agg #[sL aC fv aB,sL av I au,sL ax fo aw]:=ha 0 bH
 refine aH<|k<|bx H2 J i0 ?_
 let bC:=[iL ax fo aw,iL av I au,iL aC fv aB]
 intro aK w0 dt (H3:HI M w w0 (box aK #[sL aC fv aB,sL av I au,sL ax fo aw] 32::bC))
 refine k<|al H3 dn ?_
 let dk:=box aK #[sL aC fv aB,sL av I au,sL ax fo aw] 32::bC
 intro aW w1 cR (H4:HI M w w1 (box aW #[.slice none 0 0,.slice none 0 0,.slice none 0 0] 32::dk))
 refine aG<|sq<|dr 6 [eV (pV aK 0),eV (sL aC fv aB),eV (pV aK 1),eV (sL av I au),eV (.agg #[sL aC fv aB,sL av I au,sL ax fo aw]),fun v w'=>∃(a0:OA) (c0:Nat),v=sL a0 (iU I) c0∧RV (MS M [box aW #[.slice none 0 0,.slice none 0 0,.slice none 0 0] 32,box aK #[sL aC fv aB,sL av I au,sL ax fo aw] 32,iL ax fo aw,iL av I au,iL aC fv aB]) w' (sL a0 (iU I) c0) (iU I)] J bu ?_ ?_
 ·
  refine dc (fun _ _ kC _ _=>fa Bw J (kC 1 J)<|d0 J J)<|dc (fun _ _ _ eI oW=>lx (H4.ext eI) 1 J Ip J (oW 0 J J) J<|d0 J J)<|dc (fun _ _ l4 _ _=>fa dh J (l4 1 J)<|d0 J J)<|dc (fun _ _ _ iJ lP=>lx (H4.ext iJ) 1 J eR J (lP 2 J J) J<|d0 J J)<|dc (fun _ _ re je _=>cg (H4.ext je) 1 J dn J (re 1 J) aJ J<|d0 J J) ?_
  refine⟨fun _=>⟨fun f5 w8 ns lh j8=>?_,by rintro _ _ _ x_ ⟨a0,c0,e_,eQ⟩;exact⟨a0,c0,e_,eQ.lift (Up.ext x_)⟩⟩,?_⟩
  ·
   have eB:=H4.ext lh
   have s2:f5 7=.agg #[sL aC fv aB,sL av I au,sL ax fo aw]:=j8 4 J J
   have eF:=NH (I:=I) (aC:=aC) (aE:=fv.length) (aB:=aB) (ax:=ax) (cH:=fo.length) (aw:=aw) eB.mb (eB.rv 3 J) cG
   refine ca af_ J (ec s2 e0) eF ?_
   rintro _ w9 ⟨a1,c1,rfl,jD,gh⟩
   have fQ:=bm.rv gh eB.mb
   exact⟨_,J,jD,⟨a1,c1,J,fQ⟩⟩
  exact gp.rest J _
 ·
  intro f6 jb rb gv kj
  have fR:=H4.ext gv
  have s3:f6 2=pV aW 0:=rb 2 J
  have s4:=kj 1 J
  have s5:=kj 3 J
  obtain⟨a2,c2,s6,gG⟩:∃(a2:OA) (c2:Nat),f6 8=sL a2 (iU I) c2∧RV (MS M [box aW #[.slice none 0 0,.slice none 0 0,.slice none 0 0] 32,box aK #[sL aC fv aB,sL av I au,sL ax fo aw] 32,iL ax fo aw,iL av I au,iL aC fv aB]) jb (sL a2 (iU I) c2) (iU I):=kj 5 rfl
  have eY:=cj fR gG
  refine k<|bd (v:=.agg #[sL aC fv aB,sL av I au,sL a2 (iU I) c2]) J (ct s4<|ct s5<|ct s6 eo) (fun _=>bu)<|k<|cz eY 1 J dn J J s3 J J J J ?_
  intro iK (fg:HI M w iK (iL a2 (iU I) c2::box aW #[sL aC fv aB,sL av I au,sL a2 (iU I) c2] 32::dk))
  refine aG<|rt<|vI fg 1 J dn J J s3 J aJ ?_
  exact⟨aC,aB,av,au,a2,c2,J,fg.below,(fg.jn 5 J),(fg.jn 4 J),(fg.jn 0 J)⟩
theorem agn:dq aX 16:=dy Tryz.func16
theorem agm:dq aX 17:=dy Tryz.func17
theorem agl:dq aX 18:=dy Tryz.func18
theorem IJ (hM:ei M w) (r7:cP M w kr ko h) (wh:h.flatten.length≤4096):Calls aX 7 #[sL kr h ko] w (cZ fun v w'=>∃(a0:OA) (c0:Nat) (a1:OA) (c1:Nat) (a2:OA) (c2:Nat),v=.tuple #[.agg #[.slice a0 (kP h).length c0,.slice a1 (dX h).length c1,.slice a2 (ef h).length c2],.bool (lE h)]∧Ext w w'∧RV M w' (.slice a0 (kP h).length c0) (kP h)∧RV M w' (.slice a1 (dX h).length c1) (dX h)∧RV M w' (.slice a2 (ef h).length c2) (ef h)):=by
 refine dK 25 Tryz.func7 J J J hM fun f0 ha H=>?_
 have H0:=cj H r7
 have i0:f0 0=sL kr h ko:=ha 0 bH
 refine aH<|k<|al H0 dn ?_
 intro aK w0 dt (H1:HI M w w0 [box aK #[.slice none 0 0,.slice none 0 0,.slice none 0 0] 32,iL kr h ko])
 refine aj (v:=.bool false) J J<|cU<|ak J i0<|k ?_
 have cx:=Tb (h:=h) H1.mb (H1.rv 1 J) ai
 refine ca agn J (ec J e0) cx ?_
 rintro _ w1 ⟨a0,c0,a1,c1,a2,c2,rfl,cR,cL,eQ,gh⟩
 have H2:=H1.ext cR
 have H3:=cj H2 cL
 have H4:=cj H3 eQ
 have H5:=cj H4 gh
 refine ak (v:=.tuple #[.agg #[sL a0 (qY h) c0,sL a1 (j6 h) c1,sL a2 ([]:az) c2],U (tW h)]) J J<|k<|xt J J J<|k<|xt J J J<|k<|al H5 dn ?_
 let bC:=[iL a2 ([]:az) c2,iL a1 (j6 h) c1,iL a0 (qY h) c0,box aK #[.slice none 0 0,.slice none 0 0,.slice none 0 0] 32,iL kr h ko]
 intro aW w2 d_ (H6:HI M w w2 (box aW #[.slice none 0 0,.slice none 0 0,.slice none 0 0] 32::bC))
 refine k<|cz H6 0 J dn J J J J J J J ?_
 let dk:=box aW #[sL a0 (qY h) c0,sL a1 (j6 h) c1,sL a2 ([]:az) c2] 32::bC
 intro w3 (H7:HI M w w3 dk)
 refine aj (v:=U (tW h)) J J<|aG<|sq<|aH<|ak (v:=U (tW h)) J J<|k<|neq J J J J<|z<|nx<|cd (b:=!decide ((tW h)=0)) J J (fun b0=>?_)<|fun b0=>?_
 ·
  have p0:=dF<|fE b0
  refine sq ?_
  have hq:lE h=false:=Xm<|by simpa using ‹(!decide (tW h=0))=true›
  refine rg<|k<|bd (v:=.agg #[.slice none 0 0,.slice none 0 0,.slice none 0 0]) J eo (fun _=>bu)<|k<|cz H7 4 J dn J J J J J J J ?_
  intro w4 (H8:HI M w w4 dk)
  refine aj (v:=.bool false) J J<|aG<|rt<|aS<|iS H8 4 J dn J J J J J aJ ?_
  have e0:([]:List fO)=kP h:=by exact(ym hq).1.symm
  have e1:([]:List aR)=dX h:=by exact(ym hq).2.1.symm
  have e2:([]:az)=ef h:=by exact(ym hq).2.2.symm
  have e3:(false:Bool)=lE h:=by exact hq.symm
  have bF:=RR (fun (cK:List fO) (fI:List aR) (jE:az) (vt:Bool)=>(.tuple #[.agg #[.slice none cK.length 0,.slice none fI.length 0,.slice none jE.length 0],.bool vt]:Value)) e0 e1 e2 e3
  exact⟨none,0,none,0,none,0,bF,H8.below,(alB (fun (x_:List fO)=>RV _ _ (.slice none x_.length 0) x_) e0).mp (lC _ _),(alB (fun (x_:List aR)=>RV _ _ (.slice none x_.length 0) x_) e1).mp (lC _ _),(alB (fun (x_:az)=>RV _ _ (.slice none x_.length 0) x_) e2).mp (lC _ _)⟩
 have p0:=dT<|fF b0
 refine sk<|nx<|sq ?_
 have he_:tW h=0:=by simpa using ‹(!decide (tW h=0))=false›
 refine rg<|k<|cg H7 0 J dn J J aJ J<|k ?_
 have eF:=Lc (I:=(j6 h)) (aC:=a0) (aE:=(qY h).length) (aB:=c0) (ax:=a2) (cH:=([]:az).length) (aw:=c2) H7.mb<|H7.rv 2 J
 refine ca agm J (ec J e0) eF ?_
 rintro _ w4 ⟨rfl,eG⟩
 have H8:=H7.ext eG
 refine ak (v:=.tuple #[U ((kh<|j6 h).1),U ((kh<|j6 h).2.1),U ((kh<|j6 h).2.2)]) J J<|k<|xt J J J<|k<|xt J J J<|k<|xt J J J<|aj (v:=U ((kh<|j6 h).2.2)) J J<|aG<|sq<|aH<|ak (v:=U ((kh<|j6 h).2.2)) J J<|k<|neq J J J J<|z<|nx<|cd (b:=!decide (((kh<|j6 h).2.2)=0)) J J (fun b1=>?_)<|fun b1=>?_
 ·
  have p1:=dF<|fE b1
  refine sq ?_
  have hq:lE h=false:=Xl<|by simpa using ‹(!decide ((kh<|j6 h).2.2=0))=true›
  refine rg<|k<|bd (v:=.agg #[.slice none 0 0,.slice none 0 0,.slice none 0 0]) J eo (fun _=>bu)<|k<|cz H8 4 J dn J J J J J J J ?_
  intro w5 (H9:HI M w w5 dk)
  refine aj (v:=.bool false) J J<|aG<|rt<|aS<|iS H9 4 J dn J J J J J aJ ?_
  have e0:([]:List fO)=kP h:=by exact(ym hq).1.symm
  have e1:([]:List aR)=dX h:=by exact(ym hq).2.1.symm
  have e2:([]:az)=ef h:=by exact(ym hq).2.2.symm
  have e3:(false:Bool)=lE h:=by exact hq.symm
  have bF:=RR (fun (cK:List fO) (fI:List aR) (jE:az) (vt:Bool)=>(.tuple #[.agg #[.slice none cK.length 0,.slice none fI.length 0,.slice none jE.length 0],.bool vt]:Value)) e0 e1 e2 e3
  exact⟨none,0,none,0,none,0,bF,H9.below,(alB (fun (x_:List fO)=>RV _ _ (.slice none x_.length 0) x_) e0).mp (lC _ _),(alB (fun (x_:List aR)=>RV _ _ (.slice none x_.length 0) x_) e1).mp (lC _ _),(alB (fun (x_:az)=>RV _ _ (.slice none x_.length 0) x_) e2).mp (lC _ _)⟩
 have p1:=dT<|fF b1
 refine sk<|nx<|sq ?_
 have hq:lE h=true:=Y8 he_<|by simpa using ‹(!decide ((kh<|j6 h).2.2=0))=false›
 refine rg<|k<|cg H8 0 J dn J J aJ J<|k ?_
 have gS:=NI (fv:=(qY h)) (I:=(j6 h)) (fo:=([]:az)) H8.mb (H8.rv 3 J) (H8.rv 2 J) (H8.rv 1 J)<|by have h_:=LY h;omega
 refine ca agl J (ec J e0) gS ?_
 rintro _ w5 ⟨a3,c3,a4,c4,a5,c5,rfl,eI,fQ,gG,gl⟩
 have H9:=H8.ext eI
 have db:=cj H9 fQ
 have da:=cj db gG
 have eB:=cj da gl
 refine k<|cz eB 7 J dn J J J J J J J ?_
 intro w6 (dZ:HI M w w6 [iL a5 (iU (j6 h)) c5,iL a4 (j6 h) c4,iL a3 (qY h) c3,box aW #[sL a0 (qY h) c0,sL a1 (j6 h) c1,sL a2 ([]:az) c2] 32,iL a2 ([]:az) c2,iL a1 (j6 h) c1,iL a0 (qY h) c0,box aK #[sL a3 (qY h) c3,sL a4 (j6 h) c4,sL a5 (iU (j6 h)) c5] 32,iL kr h ko])
 refine aj (v:=.bool true) J J<|aG<|rt<|iS dZ 7 J dn J J J J J aJ ?_
 have e0:((qY h):List fO)=kP h:=by exact(yl hq).1.symm
 have e1:((j6 h):List aR)=dX h:=by exact(yl hq).2.1.symm
 have e2:(iU (j6 h):az)=ef h:=by exact(yl hq).2.2.symm
 have e3:(true:Bool)=lE h:=by exact hq.symm
 have bF:=RR (fun (cK:List fO) (fI:List aR) (jE:az) (vt:Bool)=>(.tuple #[.agg #[.slice a3 cK.length c3,.slice a4 fI.length c4,.slice a5 jE.length c5],.bool vt]:Value)) e0 e1 e2 e3
 exact⟨a3,c3,a4,c4,a5,c5,bF,dZ.below,(alB (fun (x_:List fO)=>RV _ _ (.slice a3 x_.length c3) x_) e0).mp (dZ.jn 2 J),(alB (fun (x_:List aR)=>RV _ _ (.slice a4 x_.length c4) x_) e1).mp (dZ.jn 1 J),(alB (fun (x_:az)=>RV _ _ (.slice a5 x_.length c5) x_) e2).mp (dZ.jn 0 J)⟩
theorem ade:dq aX 133:=dy Tryz.func133
theorem adb:dq aX 134:=dy Tryz.func134
theorem adf:dq aX 132:=dy Tryz.func132
theorem afP:dq aX 99:=dy Tryz.func99
theorem adA:dq aX 100:=dy Tryz.func100
theorem afQ:dq aX 98:=dy Tryz.func98
theorem adr:dq aX 115:=dy Tryz.func115
theorem ads:dq aX 114:=dy Tryz.func114
theorem aaQ:dq aX 65:=dy Tryz.func65
theorem Ux (hM:ei M w) (cX:cP M w av au I) (fM:cP M w ax aw fo) (cT:I.length≤4096) (eT:fo.length=I.length) (ln:∀x∈fo,x<((I.length:Nat):Int)):Calls aX 134 #[.agg #[.slice aC aE aB,sL av I au,sL ax fo aw]] w (cZ fun v w'=>∃(a0:OA) (c0:Nat),v=.agg #[U (I.length:Int),.slice a0 (gV I fo).length c0]∧Ext w w'∧bm M 115 w (gV I fo) (.slice a0 (gV I fo).length c0) w'):=by
 refine dK 37 Tryz.func134 J J J hM fun f0 ha H=>?_
 have H0:=cj H cX
 have H1:=cj H0 fM
 have iT:=bN cX
 have nn:=bN fM
 have i0:f0 0=.agg #[.slice aC aE aB,sL av I au,sL ax fo aw]:=ha 0 bH
 refine aH<|k<|bx H1 J i0 ?_
 let bC:=[iL ax fo aw,iL av I au]
 intro aK w0 dt (H2:HI M w w0 (box aK #[.slice aC aE aB,sL av I au,sL ax fo aw] 32::bC))
 refine k<|al H2 bh ?_
 let dk:=box aK #[.slice aC aE aB,sL av I au,sL ax fo aw] 32::bC
 intro aW w1 cR (H3:HI M w w1 (box aW #[U 0,.slice none 0 0] 68::dk))
 refine cU<|bo dh J J<|bR H3 1 J eR J J J<|k<|ep J J fj<|k ?_
 have cx:=L5 (n:=(I.length:Int)) H3.mb aY
 refine ca HF J (ec J e0) cx ?_
 rintro _ w2 ⟨a0,c0,rfl,d_,cL⟩
 have H4:=H3.ic cL
 refine ak (v:=.tuple #[.agg #[U (eK (I.length:Int)),sL a0 (bO (I.length:Int)) c0],U (ka (I.length:Int))]) J J<|k<|xt J J J<|k<|xt J J J<|k<|al H4 bh ?_
 let dv:=box aW #[U 0,.slice none 0 0] 68::dk
 intro bj w3 eG (H5:HI M w w3 (box bj #[U 0,.slice none 0 0] 68::oL w 115 a0 (bO (I.length:Int)) c0::dv))
 refine k<|cz H5 0 J bh J J J J J J J ?_
 intro w4 (H6:HI M w w4 (box bj #[U (eK (I.length:Int)),sL a0 (bO (I.length:Int)) c0] 68::oL w 115 a0 (bO (I.length:Int)) c0::dv))
 refine aj (v:=U (ka (I.length:Int))) J J<|aG<|sq<|sq ?_
 have Di:wY (I.length:Int)=true:=lN.2 ai
 obtain⟨en,er, -⟩:=kA Di
 refine rg<|bo kD J J<|bR H6 3 J lA J J J<|k<|ep J J cY<|ak (v:=U 0) J J<|aG<|bk<|lp (fun m f w'=>∃(j:Nat) (xs:List (List bG)),m=fo.length-j∧f 2=pV aW 0∧f 3=pV bj 0∧f 15=sL ax fo aw∧f 16=U (fo.length:Int)∧f 17=U (j:Int)∧HI M w w' (box bj #[U (eK (I.length:Int)),sL a0 (bO (I.length:Int)) c0] 68::own w.heap.size 115 (.slice a0 (bO (I.length:Int)).length c0) xs::dv)∧(j≤fo.length)∧(xs.length=I.length)∧(xs=qN I.length fo j)) _ ⟨0,(bO (I.length:Int)),J,J,J,J,J,(bJ J),H6,ai,(by rw[er,pj];simp),(by rw[er];exact LM _ _)⟩ ?_
 rintro _ f0 w5 ⟨j,xs,rfl,s0,s1,s2,s3,s4,H7,hk,hl,hs⟩
 refine aH<|k<|lss J J s4 s3<|aG<|sq<|cd (b:=decide ((j:Int)<(fo.length:Int))) J J (fun b0=>?_)<|fun b0=>?_
 ·
  have p0:=dT b0
  refine sk<|nx<|sq<|bk<|aH<|ak J s4<|k<|ia (H7.rv 4 J) J J s2 s4 ai cY aQ ?_
  intro fz x0 aq cN
  refine k<|kB cN.w aQ J J ?_
  intro eQ
  refine aj (v:=U (j:Int)) J J<|aj (v:=U x0) J J<|aG<|sq ?_
  have uO:=ln _<|eh aq
  refine rg<|ak (v:=U x0) J J<|k<|geq J J J J<|z<|nx<|cd (b:=decide (0≤x0)) J J (fun b1=>?_)<|fun b1=>?_
  ·
   have p1:=dT b1
   obtain⟨x1,cw⟩:∃x,xs[x0.toNat]? =some x:=⟨_,dW ai⟩
   refine dr 10 [eV (pV bj 1),eV (sL a0 (bO (I.length:Int)) c0),fun v w'=>v=U x0∧aN (x0),eV (pV bj 1),eV (sL a0 (bO (I.length:Int)) c0),fun v w'=>v=U x0∧aN (x0),fun v w'=>∃(g0:Nat),v=.pointer (some ⟨g0,x0.toNat*1,none⟩)∧(.slice a0 (bO (I.length:Int)).length c0:Value).ownBlock=some g0∧gq (MS M [box bj #[U (eK (I.length:Int)),sL a0 (bO (I.length:Int)) c0] 68,own w.heap.size 115 (.slice a0 (bO (I.length:Int)).length c0) xs,box aW #[U 0,.slice none 0 0] 68,box aK #[.slice aC aE aB,sL av I au,sL ax fo aw] 32,iL ax fo aw,iL av I au]) w' ⟨g0,x0.toNat*1,none⟩ x1,fun v w'=>∃(a1:OA) (c1:Nat),v=sL a1 x1 c1∧RV (MS M [box bj #[U (eK (I.length:Int)),sL a0 (bO (I.length:Int)) c0] 68,own w.heap.size 115 (.slice a0 (bO (I.length:Int)).length c0) xs,box aW #[U 0,.slice none 0 0] 68,box aK #[.slice aC aE aB,sL av I au,sL ax fo aw] 32,iL ax fo aw,iL av I au]) w' (sL a1 x1 c1) x1,eV (U (j:Int)),fun v w'=>∃(a2:OA) (c2:Nat),v=sL a2 (ej x1 (j:Int)) c2∧RV (MS M [box bj #[U (eK (I.length:Int)),sL a0 (bO (I.length:Int)) c0] 68,own w.heap.size 115 (.slice a0 (bO (I.length:Int)).length c0) xs,box aW #[U 0,.slice none 0 0] 68,box aK #[.slice aC aE aB,sL av I au,sL ax fo aw] 32,iL ax fo aw,iL av I au]) w' (sL a2 (ej x1 (j:Int)) c2) (ej x1 (j:Int))] J bu ?_ ?_
   ·
    refine dc (fun _ _ kC _ _=>fa iW J ((kC 3 J).trans s1)<|d0 J J)<|dc (fun _ _ _ iJ oW=>lx (H7.ext iJ) 0 J l8 J (oW 0 J J) J<|d0 J J)<|dc (fun _ _ l4 _ _=>mv J (l4 6 J) ⟨_,J,Ext.refl _,⟨J,eQ⟩⟩)<|dc (fun _ _ qC _ _=>fa iW J ((qC 3 J).trans s1)<|d0 J J)<|dc (fun _ _ _ jD jk=>lx (H7.ext jD) 0 J l8 J (jk 3 J J) J<|d0 J J)<|dc (fun _ _ ns _ _=>mv J (ns 6 J) ⟨_,J,Ext.refl _,⟨J,eQ⟩⟩) ?_
    refine⟨fun _=>⟨fun f7 ju rb j0 kj=>?_,by rintro _ _ _ x_ ⟨g0,e_,iC,eU⟩;exact⟨g0,e_,iC,eU.ext x_⟩⟩,?_⟩
    ·
     have fg:=H7.ext j0
     have s7:f7 28=sL a0 (bO (I.length:Int)) c0:=kj 4 J J
     obtain⟨s8,gl⟩:f7 29=U x0∧aN (x0):=kj 5 rfl rfl
     refine jh (fg.at_ 1 J) J J s7 s8 ai iY eJ ?_
     intro g1 x2 lZ dR gJ
     obtain rfl:x1=x2:=alD (cw.symm.trans dR)
     exact⟨_,J,Ext.refl _,⟨g1,J,lZ,gJ⟩⟩
    refine⟨fun _=>⟨fun f8 jK qa kb ll=>?_,by rintro _ _ _ x_ ⟨a1,c1,e_,gh⟩;exact⟨a1,c1,e_,gh.lift (Up.ext x_)⟩⟩,?_⟩
    ·
     obtain⟨g2,s9,uQ,km⟩:∃(g2:Nat),f8 30=.pointer (some ⟨g2,x0.toNat*1,none⟩)∧(.slice a0 (bO (I.length:Int)).length c0:Value).ownBlock=some g2∧gq (MS M [box bj #[U (eK (I.length:Int)),sL a0 (bO (I.length:Int)) c0] 68,own w.heap.size 115 (.slice a0 (bO (I.length:Int)).length c0) xs,box aW #[U 0,.slice none 0 0] 68,box aK #[.slice aC aE aB,sL av I au,sL ax fo aw] 32,iL ax fo aw,iL av I au]) jK ⟨g2,x0.toNat*1,none⟩ x1:=ll 6 rfl rfl
     refine vR km eJ J s9 ?_
     intro a3 c3 lk
     exact⟨_,J,Ext.refl _,⟨a3,c3,J,lk⟩⟩
    refine dc (fun _ _ oa _ _=>mv J (oa 5 J)<|d0 J J) ?_
    refine⟨fun _=>⟨fun f10 mB r6 qL mS=>?_,by rintro _ _ _ x_ ⟨a2,c2,e_,gG⟩;exact⟨a2,c2,e_,gG.lift (Up.ext x_)⟩⟩,?_⟩
    ·
     have kO:=H7.ext qL
     obtain⟨a4,c4,ey,lM⟩:∃(a4:OA) (c4:Nat),f10 31=sL a4 x1 c4∧RV (MS M [box bj #[U (eK (I.length:Int)),sL a0 (bO (I.length:Int)) c0] 68,own w.heap.size 115 (.slice a0 (bO (I.length:Int)).length c0) xs,box aW #[U 0,.slice none 0 0] 68,box aK #[.slice aC aE aB,sL av I au,sL ax fo aw] 32,iL ax fo aw,iL av I au]) mB (sL a4 x1 c4) x1:=mS 7 rfl rfl
     have lK:=cj kO lM
     have ew:f10 32=U (j:Int):=mS 8 J J
     have gS:=E5 (r:=x1) (i:=(j:Int)) lK.mb (lK.rv 0 J) aY<|by have RL:=cw;rw[hs] at RL;exact(E7 (n:=I.length) ai fo j).2 _ (eh RL)
     refine ca OK J (ec ey<|ec ew e0) gS ?_
     rintro _ lL ⟨a5,c5,rfl,po,ml⟩
     have kK:=bm.rv ml lK.mb
     exact⟨_,J,po,⟨a5,c5,J,(gY J kK)⟩⟩
    exact gp.rest J _
   ·
    intro f11 jX mg oG iz
    have iE:=H7.ext oG
    have eE:=(mg 2 J).trans s0
    have fc:=(mg 3 J).trans s1
    have fJ:=(mg 15 J).trans s2
    have fw:=(mg 16 J).trans s3
    have fX:=(mg 17 J).trans s4
    have gF:=iz 1 J
    obtain⟨gL,lD⟩:f11 26=U x0∧aN (x0):=iz 2 rfl
    obtain⟨a6,c6,gE,mZ⟩:∃(a6:OA) (c6:Nat),f11 33=sL a6 (ej x1 (j:Int)) c6∧RV (MS M [box bj #[U (eK (I.length:Int)),sL a0 (bO (I.length:Int)) c0] 68,own w.heap.size 115 (.slice a0 (bO (I.length:Int)).length c0) xs,box aW #[U 0,.slice none 0 0] 68,box aK #[.slice aC aE aB,sL av I au,sL ax fo aw] 32,iL ax fo aw,iL av I au]) jX (sL a6 (ej x1 (j:Int)) c6) (ej x1 (j:Int)):=iz 9 rfl
    have kY:=cj iE mZ
    refine k<|jh (kY.at_ 2 J) J J gF gL ai iY eJ ?_
    intro g3 x3 vX gX oD
    refine k<|rO kY 2 J vX J ai eJ J J J gE (kY.rv 0 J) ?_
    intro kJ (kt:HI M w kJ (iL a6 (ej x1 (j:Int)) c6::box bj #[U (eK (I.length:Int)),sL a0 (bO (I.length:Int)) c0] 68::own w.heap.size 115 (.slice a0 (bO (I.length:Int)).length c0) (xs.set x0.toNat (ej x1 (j:Int)))::dv))
    refine z<|aF<|nx<|rg<|k<|add J J fX J aY<|ak (v:=U ((j:Int)+1)) J J<|z ?_
    have lJ:HI M w kJ (box bj #[U (eK (I.length:Int)),sL a0 (bO (I.length:Int)) c0] 68::own w.heap.size 115 (.slice a0 (bO (I.length:Int)).length c0) (xs.set x0.toNat (ej x1 (j:Int)))::dv):=kt.c_ [1,2,3,4,5,6] aJ J
    refine bD _ ?_ ⟨(j+1),(xs.set x0.toNat (ej x1 (j:Int))),J,eE,fc,fJ,fw,(bJ J),lJ,ai,(by simpa using hl),(by exact Yw hs aq ai ai ai cw)⟩
    omega
  have p1:=dF b1
  refine sk<|aF<|nx<|rg<|k<|add J J s4 J aY<|ak (v:=U ((j:Int)+1)) J J<|z<|bD _ ?_ ⟨(j+1),xs,J,s0,s1,s2,s3,(bJ J),H7,ai,cG,(by rw[hs];exact DW aq ai)⟩
  omega
 have p0:=dF b0
 refine ex<|bg<|bt<|bz<|dM<|k<|cg H7 0 J bh J s1 aJ J<|k<|cz H7 2 J bh J J s0 J J J J ?_
 intro w6 (H8:HI M w w6 (box bj #[U (eK (I.length:Int)),sL a0 (bO (I.length:Int)) c0] 68::own w.heap.size 115 (.slice a0 (bO (I.length:Int)).length c0) xs::box aW #[U (eK (I.length:Int)),sL a0 (bO (I.length:Int)) c0] 68::dk))
 refine aG<|rt<|vI H8 2 J bh J J s0 J aJ ?_
 have e0:(eK (I.length:Int):Int)=(I.length:Int):=by rw[en]
 have e1:(xs:List (List bG))=gV I fo:=by rw[hs];exact PS eT ai
 have l1:(bO (I.length:Int)).length=(gV I fo).length:=by rw[er,pj,WR];simp
 have bF:=sd (fun (cK:Int) (yp:Nat)=>(.agg #[U cK,.slice a0 yp c0]:Value)) e0 l1
 exact⟨a0,c0,bF,H8.below,(alB (fun (n_:Nat)=>bm _ _ _ (gV I fo) (.slice a0 n_ c0) _) l1).mp ((alB (fun (x_:List (List bG))=>bm _ _ _ x_ (.slice a0 (bO (I.length:Int)).length c0) _) e1).mp (H8.cB 1 J))⟩
theorem S' (hM:ei M w) (cX:cP M w av au I) (fM:cP M w ax aw fo) (cT:I.length≤4096) (eT:fo.length=I.length) (ln:∀x∈fo,x<((I.length:Nat):Int)):Calls aX 100 #[.agg #[.slice aC aE aB,sL av I au,sL ax fo aw]] w (cZ fun v w'=>∃(a0:OA) (c0:Nat),v=.agg #[U (I.length:Int),.slice a0 (gV I fo).length c0]∧Ext w w'∧RV M w' (.slice a0 (gV I fo).length c0) (gV I fo)):=by
 refine dK 38 Tryz.func100 J J J hM fun f0 ha H=>?_
 have H0:=cj H cX
 have H1:=cj H0 fM
 have iT:=bN cX
 have nn:=bN fM
 have i0:f0 0=.agg #[.slice aC aE aB,sL av I au,sL ax fo aw]:=ha 0 bH
 refine aH<|k<|bx H1 J i0 ?_
 let bC:=[iL ax fo aw,iL av I au]
 intro aK w0 dt (H2:HI M w w0 (box aK #[.slice aC aE aB,sL av I au,sL ax fo aw] 32::bC))
 refine k<|al H2 bh ?_
 let dk:=box aK #[.slice aC aE aB,sL av I au,sL ax fo aw] 32::bC
 intro aW w1 cR (H3:HI M w w1 (box aW #[U 0,.slice none 0 0] 68::dk))
 refine cU<|bo dh J J<|bR H3 1 J eR J J J<|k<|ep J J fj<|k ?_
 have cx:=wX (n:=(I.length:Int)) H3.mb aY
 refine ca OG J (ec J e0) cx ?_
 rintro _ w2 ⟨a0,c0,rfl,d_,cL⟩
 have H4:=H3.ic cL
 refine ak (v:=.tuple #[.agg #[U (eK (I.length:Int)),sL a0 (bO (I.length:Int)) c0],U (ka (I.length:Int))]) J J<|k<|xt J J J<|k<|xt J J J<|k<|al H4 bh ?_
 let dv:=box aW #[U 0,.slice none 0 0] 68::dk
 intro bj w3 eG (H5:HI M w w3 (box bj #[U 0,.slice none 0 0] 68::oL w 115 a0 (bO (I.length:Int)) c0::dv))
 refine k<|cz H5 0 J bh J J J J J J J ?_
 intro w4 (H6:HI M w w4 (box bj #[U (eK (I.length:Int)),sL a0 (bO (I.length:Int)) c0] 68::oL w 115 a0 (bO (I.length:Int)) c0::dv))
 refine aj (v:=U (ka (I.length:Int))) J J<|aG<|sq<|sq ?_
 have Di:wY (I.length:Int)=true:=lN.2 ai
 obtain⟨en,er, -⟩:=kA Di
 refine rg<|aj (v:=U 0) J J<|aG<|bk ?_
 have H7:=H6.freeze 1 J
 have H8:=cj H7<|H7.rv 1 J
 let dD:=iL a0 (bO (I.length:Int)) c0::dv
 refine lp (fun m f w'=>∃(j:Nat) (n_:Int) (rs:List (List bG)) (a1:OA) (c1:Nat),m=fo.length-j∧f 1=pV aK 0∧f 2=pV aW 0∧f 3=pV bj 0∧f 5=U (j:Int)∧HI M w w' (iL a1 rs c1::box bj #[U n_,sL a1 rs c1] 68::dD)∧(j≤fo.length)∧(n_=(I.length:Int))∧(rs=qN I.length fo j)) _ ⟨0,(eK (I.length:Int)),(bO (I.length:Int)),a0,c0,J,J,J,J,(bJ J),H8,ai,(by exact en),(by rw[er];exact LM _ _)⟩ ?_
 rintro _ f0 w5 ⟨j,n_,rs,a1,c1,rfl,s0,s1,s2,s3,H9,hk,h1,h2⟩
 refine sq<|aH<|ak J s3<|bo kD J s0<|bR H9 4 J lA J J J<|k<|ep J J cY<|k<|lss J J J J<|z<|nx<|cd (b:=decide ((j:Int)<(fo.length:Int))) J J (fun b0=>?_)<|fun b0=>?_
 ·
  have p0:=dT b0
  refine sk<|nx<|sq<|bk<|aH<|bo kD J s0<|bR H9 4 J lA J J J<|ak J s3<|k<|ia (H9.rv 5 J) J J J J ai cY aQ ?_
  intro fz x0 aq cN
  refine k<|kB cN.w aQ J J ?_
  intro eQ
  refine k<|geq J J J J<|z<|nx<|cd (b:=decide (0≤x0)) J J (fun b1=>?_)<|fun b1=>?_
  ·
   have p1:=dT b1
   have uO:=ln _<|eh aq
   obtain⟨x1,cw⟩:∃x,fo[(j:Int).toNat]? =some x:=⟨_,dW ai⟩
   refine V2 9 [eV (.agg #[U n_,sL a1 rs c1]),eV (pV aK 2),eV (sL ax fo aw),eV (U (j:Int)),fun v w'=>∃(iG:Addr),v=.pointer (some iG)∧At (MS M [iL a1 rs c1,box bj #[U n_,sL a1 rs c1] 68,iL a0 (bO (I.length:Int)) c0,box aW #[U 0,.slice none 0 0] 68,box aK #[.slice aC aE aB,sL av I au,sL ax fo aw] 32,iL ax fo aw,iL av I au]) w' iG x1,fun v w'=>v=U x1∧aN (x1),eV (U (j:Int)),fun v w'=>∃(a2:OA) (c2:Nat),v=.tuple #[.agg #[U (dP n_ x1 (j:Int)),sL a2 (bL n_ rs x1 (j:Int)) c2],U (iH n_ x1 (j:Int))]∧RV (MS M [iL a1 rs c1,box bj #[U n_,sL a1 rs c1] 68,iL a0 (bO (I.length:Int)) c0,box aW #[U 0,.slice none 0 0] 68,box aK #[.slice aC aE aB,sL av I au,sL ax fo aw] 32,iL ax fo aw,iL av I au]) w' (sL a2 (bL n_ rs x1 (j:Int)) c2) (bL n_ rs x1 (j:Int)),fun v w'=>∃(a2:OA) (c2:Nat),v=.tuple #[.agg #[U (dP n_ x1 (j:Int)),sL a2 (bL n_ rs x1 (j:Int)) c2],U (iH n_ x1 (j:Int))]∧RV (MS M [iL a1 rs c1,box bj #[U n_,sL a1 rs c1] 68,iL a0 (bO (I.length:Int)) c0,box aW #[U 0,.slice none 0 0] 68,box aK #[.slice aC aE aB,sL av I au,sL ax fo aw] 32,iL ax fo aw,iL av I au]) w' (sL a2 (bL n_ rs x1 (j:Int)) c2) (bL n_ rs x1 (j:Int))] J bu ?_ ?_
   ·
    refine dc (fun _ _ kC ly _=>cg (H9.ext ly) 1 J bh J ((kC 3 J).trans s2) aJ J<|d0 J J)<|dc (fun _ _ rh _ _=>fa kD J ((rh 1 J).trans s0)<|d0 J J)<|dc (fun _ _ _ je rY=>lx (H9.ext je) 4 J lA J (rY 1 J J) J<|d0 J J)<|dc (fun _ _ qC _ _=>mv J ((qC 5 J).trans s3)<|d0 J J) ?_
    refine⟨fun _=>⟨fun f5 iK re jD jk=>?_,by rintro _ _ _ x_ ⟨iG,e_,eU⟩;exact⟨iG,e_,eU.lift (Up.ext x_)⟩⟩,?_⟩
    ·
     have eY:=H9.ext jD
     have s5:f5 29=sL ax fo aw:=jk 2 J J
     have s6:f5 30=U (j:Int):=jk 3 J J
     refine ia (eY.rv 5 J) J J s5 s6 ai cY aQ ?_
     intro kX x2 dR gJ
     obtain rfl:x1=x2:=alD (cw.symm.trans dR)
     exact⟨_,J,Ext.refl _,⟨kX,J,gJ⟩⟩
    refine dc (fun f6 jf ns gv j8=>?_) ?_
    ·
     have fg:=H9.ext gv
     obtain⟨jc,s7,km⟩:∃(jc:Addr),f6 31=.pointer (some jc)∧At (MS M [iL a1 rs c1,box bj #[U n_,sL a1 rs c1] 68,iL a0 (bO (I.length:Int)) c0,box aW #[U 0,.slice none 0 0] 68,box aK #[.slice aC aE aB,sL av I au,sL ax fo aw] 32,iL ax fo aw,iL av I au]) jf jc x1:=j8 4 rfl rfl
     have gz:=fg.put (it:=lq jc x1) J km
     refine kB (gz.wK 0 J).w aQ J s7 ?_
     intro gl
     exact⟨_,J,Ext.refl _,⟨J,gl⟩⟩
    refine dc (fun _ _ rb _ _=>mv J ((rb 5 J).trans s3)<|d0 J J) ?_
    refine⟨fun _=>⟨fun f8 jK qa kb ll=>?_,by rintro _ _ _ x_ ⟨a2,c2,e_,gG⟩;exact⟨a2,c2,e_,gG.lift (Up.ext x_)⟩⟩,?_⟩
    ·
     have gI:=H9.ext kb
     have s8:f8 27=.agg #[U n_,sL a1 rs c1]:=ll 0 J J
     obtain⟨s9,lk⟩:f8 32=U x1∧aN (x1):=ll 5 rfl rfl
     have ey:f8 33=U (j:Int):=ll 6 J J
     have gS:=pS (mn:=n_) (mr:=rs) (i:=x1) (j:=(j:Int)) gI.mb (by rw[h1];unfold aN;omega) (gI.rv 0 J) lk aY (by rw[h1,h2];exact(E7 ai _ _).1) (by rw[h2];exact(E7 ai _ _).2) ai
     refine ca Dq J (ec s8<|ec s9<|ec ey e0) gS ?_
     rintro _ lz ⟨a3,c3,rfl,kZ,lM⟩
     have ml:=bm.rv lM gI.mb
     exact⟨_,J,kZ,⟨a3,c3,J,ml⟩⟩
    refine⟨fun _=>⟨fun f9 mB oa qL jj=>?_,by rintro _ _ _ x_ ⟨a2,c2,e_,gG⟩;exact⟨a2,c2,e_,gG.lift (Up.ext x_)⟩⟩,?_⟩
    ·
     obtain⟨a4,c4,ew,kK⟩:∃(a4:OA) (c4:Nat),f9 34=.tuple #[.agg #[U (dP n_ x1 (j:Int)),sL a4 (bL n_ rs x1 (j:Int)) c4],U (iH n_ x1 (j:Int))]∧RV (MS M [iL a1 rs c1,box bj #[U n_,sL a1 rs c1] 68,iL a0 (bO (I.length:Int)) c0,box aW #[U 0,.slice none 0 0] 68,box aK #[.slice aC aE aB,sL av I au,sL ax fo aw] 32,iL ax fo aw,iL av I au]) mB (sL a4 (bL n_ rs x1 (j:Int)) c4) (bL n_ rs x1 (j:Int)):=jj 7 rfl rfl
     refine mv J ew ?_
     exact⟨_,J,Ext.refl _,⟨a4,c4,J,kK⟩⟩
    exact gp.rest J _
   ·
    intro f10 lL r6 po mS
    have iE:=H9.ext po
    have eE:=(r6 1 J).trans s0
    have fc:=(r6 2 J).trans s1
    have fJ:=(r6 3 J).trans s2
    have fw:=(r6 5 J).trans s3
    obtain⟨a5,c5,fX,lD⟩:∃(a5:OA) (c5:Nat),f10 26=.tuple #[.agg #[U (dP n_ x1 (j:Int)),sL a5 (bL n_ rs x1 (j:Int)) c5],U (iH n_ x1 (j:Int))]∧RV (MS M [iL a1 rs c1,box bj #[U n_,sL a1 rs c1] 68,iL a0 (bO (I.length:Int)) c0,box aW #[U 0,.slice none 0 0] 68,box aK #[.slice aC aE aB,sL av I au,sL ax fo aw] 32,iL ax fo aw,iL av I au]) lL (sL a5 (bL n_ rs x1 (j:Int)) c5) (bL n_ rs x1 (j:Int)):=mS 8 rfl
    have kY:=cj iE lD
    show TA _ _ _ _ 3 [true,true,true,true,true,true,true,true,true,false,false,false] _ _
    refine ta [9,10] bu J ⟨⟨_,J,?_⟩,⟨_,J,?_⟩,trivial⟩
    ·
     refine xt J fX J<|ta [10,11] bu J ⟨⟨_,J,?_⟩,⟨_,J,?_⟩,trivial⟩
     ·
      refine xt J fX J<|ta [11] bu J ⟨⟨_,J,?_⟩,trivial⟩
      ·
       refine cz kY 2 J bh J J fJ J J J J ?_
       intro jX (kt:HI M w jX (iL a5 (bL n_ rs x1 (j:Int)) c5::iL a1 rs c1::box bj #[U (dP n_ x1 (j:Int)),sL a5 (bL n_ rs x1 (j:Int)) c5] 68::dD))
       refine z6 bu<|aF<|nx<|rg<|ak J fw<|k<|add J J J J aY<|aj (v:=U ((j:Int)+1)) J J<|z ?_
       have lJ:=cj kt<|kt.rv 0 J
       have kH:HI M w jX (iL a5 (bL n_ rs x1 (j:Int)) c5::box bj #[U (dP n_ x1 (j:Int)),sL a5 (bL n_ rs x1 (j:Int)) c5] 68::dD):=lJ.c_ [0,3,4,5,6,7,8] aJ J
       refine bD _ ?_ ⟨(j+1),(dP n_ x1 (j:Int)),(bL n_ rs x1 (j:Int)),a5,c5,J,eE,fc,fJ,(bJ J),kH,ai,(by (try (have e_:=ay cw aq;subst e_));(try (have e_:=ay dR aq;subst e_));(try (have e_:=ay gX aq;subst e_));(try (have e_:=ay jT aq;subst e_));(try (have e_:=ay lF aq;subst e_));(try (have e_:=ay nq aq;subst e_));first|exact h1|(rw[h1];exact(pQ (xs:=rs) h2 aq ai ai ai).1)),(by (try (have e_:=ay cw aq;subst e_));(try (have e_:=ay dR aq;subst e_));(try (have e_:=ay gX aq;subst e_));(try (have e_:=ay jT aq;subst e_));(try (have e_:=ay lF aq;subst e_));(try (have e_:=ay nq aq;subst e_));first|(rw[h1];exact(pQ h2 aq ai ai ai).2)|(rw[h2];exact DW aq ai))⟩
       omega
     ·
      refine cz kY 2 J bh J J fJ J J J J ?_
      intro jX (kt:HI M w jX (iL a5 (bL n_ rs x1 (j:Int)) c5::iL a1 rs c1::box bj #[U (dP n_ x1 (j:Int)),sL a5 (bL n_ rs x1 (j:Int)) c5] 68::dD))
      refine ta [10] bu J ⟨⟨_,J,?_⟩,trivial⟩
      ·
       refine xt J fX J<|z6 bu<|aF<|nx<|rg<|ak J fw<|k<|add J J J J aY<|aj (v:=U ((j:Int)+1)) J J<|z ?_
       have lJ:=cj kt<|kt.rv 0 J
       have kH:HI M w jX (iL a5 (bL n_ rs x1 (j:Int)) c5::box bj #[U (dP n_ x1 (j:Int)),sL a5 (bL n_ rs x1 (j:Int)) c5] 68::dD):=lJ.c_ [0,3,4,5,6,7,8] aJ J
       refine bD _ ?_ ⟨(j+1),(dP n_ x1 (j:Int)),(bL n_ rs x1 (j:Int)),a5,c5,J,eE,fc,fJ,(bJ J),kH,ai,(by (try (have e_:=ay cw aq;subst e_));(try (have e_:=ay dR aq;subst e_));(try (have e_:=ay gX aq;subst e_));(try (have e_:=ay jT aq;subst e_));(try (have e_:=ay lF aq;subst e_));(try (have e_:=ay nq aq;subst e_));first|exact h1|(rw[h1];exact(pQ (xs:=rs) h2 aq ai ai ai).1)),(by (try (have e_:=ay cw aq;subst e_));(try (have e_:=ay dR aq;subst e_));(try (have e_:=ay gX aq;subst e_));(try (have e_:=ay jT aq;subst e_));(try (have e_:=ay lF aq;subst e_));(try (have e_:=ay nq aq;subst e_));first|(rw[h1];exact(pQ h2 aq ai ai ai).2)|(rw[h2];exact DW aq ai))⟩
       omega
    ·
     refine xt J fX J<|ta [9] bu J ⟨⟨_,J,?_⟩,trivial⟩
     ·
      refine xt J fX J<|ta [11] bu J ⟨⟨_,J,?_⟩,trivial⟩
      ·
       refine cz kY 2 J bh J J fJ J J J J ?_
       intro jX (kt:HI M w jX (iL a5 (bL n_ rs x1 (j:Int)) c5::iL a1 rs c1::box bj #[U (dP n_ x1 (j:Int)),sL a5 (bL n_ rs x1 (j:Int)) c5] 68::dD))
       refine z6 bu<|aF<|nx<|rg<|ak J fw<|k<|add J J J J aY<|aj (v:=U ((j:Int)+1)) J J<|z ?_
       have lJ:=cj kt<|kt.rv 0 J
       have kH:HI M w jX (iL a5 (bL n_ rs x1 (j:Int)) c5::box bj #[U (dP n_ x1 (j:Int)),sL a5 (bL n_ rs x1 (j:Int)) c5] 68::dD):=lJ.c_ [0,3,4,5,6,7,8] aJ J
       refine bD _ ?_ ⟨(j+1),(dP n_ x1 (j:Int)),(bL n_ rs x1 (j:Int)),a5,c5,J,eE,fc,fJ,(bJ J),kH,ai,(by (try (have e_:=ay cw aq;subst e_));(try (have e_:=ay dR aq;subst e_));(try (have e_:=ay gX aq;subst e_));(try (have e_:=ay jT aq;subst e_));(try (have e_:=ay lF aq;subst e_));(try (have e_:=ay nq aq;subst e_));first|exact h1|(rw[h1];exact(pQ (xs:=rs) h2 aq ai ai ai).1)),(by (try (have e_:=ay cw aq;subst e_));(try (have e_:=ay dR aq;subst e_));(try (have e_:=ay gX aq;subst e_));(try (have e_:=ay jT aq;subst e_));(try (have e_:=ay lF aq;subst e_));(try (have e_:=ay nq aq;subst e_));first|(rw[h1];exact(pQ h2 aq ai ai ai).2)|(rw[h2];exact DW aq ai))⟩
       omega
  have p1:=dF b1
  refine sk<|aF<|nx<|rg<|ak J s3<|k<|add J J J J aY<|aj (v:=U ((j:Int)+1)) J J<|z ?_
  have db:=cj H9<|H9.rv 0 J
  have da:HI M w w5 (iL a1 rs c1::box bj #[U n_,sL a1 rs c1] 68::dD):=db.c_ [0,2,3,4,5,6,7] aJ J
  refine bD _ ?_ ⟨(j+1),n_,rs,a1,c1,J,s0,s1,s2,(bJ J),da,ai,(by (try (have e_:=ay cw aq;subst e_));(try (have e_:=ay dR aq;subst e_));(try (have e_:=ay gX aq;subst e_));(try (have e_:=ay jT aq;subst e_));(try (have e_:=ay lF aq;subst e_));(try (have e_:=ay nq aq;subst e_));first|exact h1|(rw[h1];exact(pQ (xs:=rs) h2 aq ai ai ai).1)),(by (try (have e_:=ay cw aq;subst e_));(try (have e_:=ay dR aq;subst e_));(try (have e_:=ay gX aq;subst e_));(try (have e_:=ay jT aq;subst e_));(try (have e_:=ay lF aq;subst e_));(try (have e_:=ay nq aq;subst e_));first|(rw[h1];exact(pQ h2 aq ai ai ai).2)|(rw[h2];exact DW aq ai))⟩
  omega
 have p0:=dF b0
 refine ex<|bg<|bt<|bz<|dM<|k<|cg H9 1 J bh J s2 aJ J<|k<|cz H9 3 J bh J J s1 J J J J ?_
 intro w6 (db:HI M w w6 (iL a1 rs c1::box bj #[U n_,sL a1 rs c1] 68::iL a0 (bO (I.length:Int)) c0::box aW #[U n_,sL a1 rs c1] 68::dk))
 refine aG<|rt<|vI db 3 J bh J J s1 J aJ ?_
 have e0:(n_:Int)=(I.length:Int):=by exact h1
 have e1:(rs:List (List bG))=gV I fo:=by rw[h2];exact PS eT ai
 have bF:=sd (fun (cK:Int) (fI:List (List bG))=>(.agg #[U cK,.slice a1 fI.length c1]:Value)) e0 e1
 exact⟨a1,c1,bF,db.below,(alB (fun (x_:List (List bG))=>RV _ _ (.slice a1 x_.length c1) x_) e1).mp (db.jn 0 J)⟩
theorem Ls (hM:ei M w) (cX:cP M w av au I) (fM:cP M w ax aw fo) (ho:et I) (cT:I.length≤4096) (eT:fo.length=I.length) (ln:∀x∈fo,x<((I.length:Nat):Int)):Calls aX 115 #[.agg #[.slice aC aE aB,sL av I au,sL ax fo aw]] w (cZ fun v w'=>∃(a0:OA) (c0:Nat),v=.agg #[U (I.length:Int),.slice a0 (bl I fo).length c0]∧Ext w w'∧RV M w' (.slice a0 (bl I fo).length c0) (bl I fo)):=by
 refine dK 14 Tryz.func115 J J J hM fun f0 ha H=>?_
 have H0:=cj H cX
 have H1:=cj H0 fM
 have i0:f0 0=.agg #[.slice aC aE aB,sL av I au,sL ax fo aw]:=ha 0 bH
 refine aH<|k<|bx H1 J i0 ?_
 let bC:=[iL ax fo aw,iL av I au]
 intro aK w0 dt (H2:HI M w w0 (box aK #[.slice aC aE aB,sL av I au,sL ax fo aw] 32::bC))
 refine k<|al H2 bh ?_
 let dk:=box aK #[.slice aC aE aB,sL av I au,sL ax fo aw] 32::bC
 intro aW w1 cR (H3:HI M w w1 (box aW #[U 0,.slice none 0 0] 68::dk))
 refine aG<|sq<|VZ [.v,.v,.v,.v,.v,.v,.v,.v,.n,.s 8 6,.v] [fun (N:bT) (v:Value) (w':aI)=>v=.agg #[.slice aC aE aB,sL av I au,sL ax fo aw],fun (N:bT) (v:Value) (w':aI)=>∃(a0:OA) (c0:Nat),v=.agg #[U (I.length:Int),sL a0 (gP I) c0]∧RV (MN (MS M [box aW #[U 0,.slice none 0 0] 68,box aK #[.slice aC aE aB,sL av I au,sL ax fo aw] 32,iL ax fo aw,iL av I au]) N) w' (sL a0 (gP I) c0) (gP I),fun (N:bT) (v:Value) (w':aI)=>v=.agg #[.slice aC aE aB,sL av I au,sL ax fo aw],fun (N:bT) (v:Value) (w':aI)=>∃(a1:OA) (c1:Nat),v=.agg #[U (I.length:Int),sL a1 (gV I fo) c1]∧RV (MN (MS M [box aW #[U 0,.slice none 0 0] 68,box aK #[.slice aC aE aB,sL av I au,sL ax fo aw] 32,iL ax fo aw,iL av I au]) N) w' (sL a1 (gV I fo) c1) (gV I fo),fun (N:bT) (v:Value) (w':aI)=>∃(a2:OA) (c2:Nat),v=.tuple #[.agg #[U (j1 (I.length:Int) (I.length:Int)),sL a2 (ga (I.length:Int) (gP I) (I.length:Int)<|gV I fo) c2],U (nY (I.length:Int) (I.length:Int))]∧RV (MN (MS M [box aW #[U 0,.slice none 0 0] 68,box aK #[.slice aC aE aB,sL av I au,sL ax fo aw] 32,iL ax fo aw,iL av I au]) N) w' (sL a2 (ga (I.length:Int) (gP I) (I.length:Int)<|gV I fo) c2) (ga (I.length:Int) (gP I) (I.length:Int)<|gV I fo),fun (N:bT) (v:Value) (w':aI)=>∃(a2:OA) (c2:Nat),v=.tuple #[.agg #[U (j1 (I.length:Int) (I.length:Int)),sL a2 (ga (I.length:Int) (gP I) (I.length:Int)<|gV I fo) c2],U (nY (I.length:Int) (I.length:Int))]∧RV (MN (MS M [box aW #[U 0,.slice none 0 0] 68,box aK #[.slice aC aE aB,sL av I au,sL ax fo aw] 32,iL ax fo aw,iL av I au]) N) w' (sL a2 (ga (I.length:Int) (gP I) (I.length:Int)<|gV I fo) c2) (ga (I.length:Int) (gP I) (I.length:Int)<|gV I fo),fun (N:bT) (v:Value) (w':aI)=>∃(a2:OA) (c2:Nat),v=.agg #[U (j1 (I.length:Int) (I.length:Int)),sL a2 (ga (I.length:Int) (gP I) (I.length:Int)<|gV I fo) c2]∧RV (MN (MS M [box aW #[U 0,.slice none 0 0] 68,box aK #[.slice aC aE aB,sL av I au,sL ax fo aw] 32,iL ax fo aw,iL av I au]) N) w' (sL a2 (ga (I.length:Int) (gP I) (I.length:Int)<|gV I fo) c2) (ga (I.length:Int) (gP I) (I.length:Int)<|gV I fo),fun (N:bT) (v:Value) (w':aI)=>v=U (nY (I.length:Int) (I.length:Int)),fun _ _ _=>True,fun _ _ _=>True,fun (N:bT) (v:Value) (w':aI)=>v=U (nY (I.length:Int) (I.length:Int))] [(#[],0),(#[],0),(#[],0),(#[],0),(#[],0),(#[],0),(#[],0),(#[],0),(#[U 0,.slice none 0 0],68),(#[],0),(#[],0)] J bu ?_ ?_
 ·
  refine⟨⟨fun _ _ _ _ _ _ h=>h,J,fun f0 w6 N0 kC iJ hN0 Jp=>?_⟩,?_⟩
  ·
   refine cg (H3.ext iJ) 1 J dn J (kC 1 J) aJ J ?_
   exact⟨_,J,Ext.refl _,J⟩
  refine⟨⟨by rintro _ _ _ _ _ k_ ⟨a0,c0,e_,fQ⟩;exact⟨a0,c0,e_,la fQ k_⟩,J,fun f1 w7 N1 rh je G1 oW=>?_⟩,?_⟩
  ·
   have A5:=oW 0 J ⟨_,J,J⟩
   have s0:f1 6=.agg #[.slice aC aE aB,sL av I au,sL ax fo aw]:=A5
   have nB:=Nr (I:=I) (aC:=aC) (aE:=aE) (aB:=aB) (ax:=ax) (cH:=fo.length) (aw:=aw) (w:=w7) (gK H3.mb je G1) (j4 (H3.rv 3 J) je G1) (by exact ho)<|by exact cT
   refine ca ade J (ec s0 e0) nB ?_
   rintro _ w8 ⟨a3,c3,rfl,lh,lk⟩
   exact⟨_,J,lh,⟨a3,c3,J,(bm.rv lk<|gK H3.mb je G1)⟩⟩
  refine⟨⟨fun _ _ _ _ _ _ h=>h,J,fun f2 w9 N2 l4 jD hN2 rY=>?_⟩,?_⟩
  ·
   refine cg (H3.ext jD) 1 J dn J (l4 1 J) aJ J ?_
   exact⟨_,J,Ext.refl _,J⟩
  refine⟨⟨by rintro _ _ _ _ _ k_ ⟨a1,c1,e_,gG⟩;exact⟨a1,c1,e_,la gG k_⟩,J,fun f3 jb N3 qC gv CC lP=>?_⟩,?_⟩
  ·
   have yC:=lP 2 J ⟨_,J,J⟩
   have s1:f3 8=.agg #[.slice aC aE aB,sL av I au,sL ax fo aw]:=yC
   have oo:=Ux (I:=I) (fo:=fo) (aC:=aC) (aE:=aE) (aB:=aB) (w:=jb) (gK H3.mb gv CC) (j4 (H3.rv 3 J) gv CC) (j4 (H3.rv 2 J) gv CC) (by exact cT) (by exact eT)<|by exact ln
   refine ca adb J (ec s1 e0) oo ?_
   rintro _ iK ⟨a4,c4,rfl,j0,lM⟩
   exact⟨_,J,j0,⟨a4,c4,J,(bm.rv lM<|gK H3.mb gv CC)⟩⟩
  refine⟨⟨by rintro _ _ _ _ _ k_ ⟨a2,c2,e_,gl⟩;exact⟨a2,c2,e_,la gl k_⟩,J,fun f4 jf N4 re kb CB jk=>?_⟩,?_⟩
  ·
   have j7:=jk 1 J ⟨_,J,J⟩
   obtain⟨a0,c0,s2,fQ⟩:=j7
   have A4:=jk 3 J ⟨_,J,J⟩
   obtain⟨a1,c1,s3,gG⟩:=A4
   have wF:=Zg (an:=(I.length:Int)) (ar:=(gP I)) (bn:=(I.length:Int)) (br:=(gV I fo)) (w:=jf) (gK H3.mb kb CB) aY fQ aY gG (by exact(tZ ai _).1) (by exact(tZ ai _).2) ai (by exact(tZ ai _).1) (by exact(tZ ai _).2) ai
   refine ca adf J (ec s2<|ec s3 e0) wF ?_
   rintro _ ju ⟨a5,c5,rfl,kZ,ml⟩
   exact⟨_,J,kZ,⟨a5,c5,J,(bm.rv ml<|gK H3.mb kb CB)⟩⟩
  refine⟨⟨by rintro _ _ _ _ _ k_ ⟨a2,c2,e_,gl⟩;exact⟨a2,c2,e_,la gl k_⟩,J,fun f5 jK N5 ns qL hN5 j8=>?_⟩,?_⟩
  ·
   have A3:=j8 4 J ⟨_,J,J⟩
   obtain⟨a2,c2,s4,gl⟩:=A3
   refine mv J s4 ?_
   exact⟨_,J,Ext.refl _,⟨a2,c2,J,gl⟩⟩
  refine⟨⟨by rintro _ _ _ _ _ k_ ⟨a2,c2,e_,gl⟩;exact⟨a2,c2,e_,la gl k_⟩,J,fun f6 lz N6 rb po Rh kj=>?_⟩,?_⟩
  ·
   have A2:=kj 5 J ⟨_,J,J⟩
   obtain⟨a2,c2,s5,gl⟩:=A2
   refine xt J s5 J ?_
   exact⟨_,J,Ext.refl _,⟨a2,c2,J,gl⟩⟩
  refine⟨⟨fun _ _ _ _ _ _ h=>h,J,fun f7 mB N7 qa oG hN7 ll=>?_⟩,?_⟩
  ·
   have A1:=ll 5 J ⟨_,J,J⟩
   obtain⟨a2,c2,s6,gl⟩:=A1
   refine xt J s6 J ?_
   exact⟨_,J,Ext.refl _,J⟩
  refine⟨⟨fun _ _ _ _ _ _ h=>h,J,fun _ _ _=>trivial,fun f8 lL N8 oa tc hN8 jj=>?_⟩,?_⟩
  ·
   refine MU bh ?_
   exact⟨J,J⟩
  refine⟨⟨fun _ _ _ _ _ _ h=>h,J,J,J,⟨_,J,J⟩,⟨_,J,J⟩,by decide,trivial,by rintro _ _ _ ⟨a2,c2,e_,gl⟩;subst e_;rfl,fun f9 jX N_ dI Ut vq s7 qG oY iC=>?_⟩,?_⟩
  ·
   obtain⟨a2,c2,e_,gl⟩:=iC
   exact LI bh J J s7 J qG ((alB (fun v=>v.cells.size) e_).trans rfl) oY<|(alB (fun v=>v.cells.toList.all Value.oneCell') e_).trans rfl
  refine⟨⟨fun _ _ _ _ _ _ h=>h,J,fun f10 kJ N9 r6 qK hN9 mS=>?_⟩,?_⟩
  ·
   have A0:=mS 7 J ⟨_,J,J⟩
   have s8:f10 12=U (nY (I.length:Int) (I.length:Int)):=A0
   refine gH J s8 ?_
   exact⟨_,J,Ext.refl _,J⟩
  exact trivial
 ·
  intro f11 ow I0 mg vo iz JR yL
  have s9:f11 2=pV aW 0:=mg 2 J
  obtain⟨a6,c6,ey,kK⟩:=(iz 6 _ rfl rfl)
  obtain⟨ew,Cz, -,Ko,qE,cI⟩:=JR 8 aJ trivial
  have yB:Ko=#[U (j1 (I.length:Int) (I.length:Int)),sL a6 (ga (I.length:Int) (gP I) (I.length:Int) (gV I fo)) c6]:=(cI.2.1 9 6 J J).trans (alB Value.cells ey)
  rw[yB] at qE
  have TF:=Cz
  have H5:HI M w ow (box (I0 8) #[U (j1 (I.length:Int) (I.length:Int)),sL a6 (ga (I.length:Int) (gP I) (I.length:Int) (gV I fo)) c6] 68::box aW #[U 0,.slice none 0 0] 68::dk):=H3.lays vo [((I0 8),#[U (j1 (I.length:Int) (I.length:Int)),sL a6 (ga (I.length:Int) (gP I) (I.length:Int)<|gV I fo) c6],68)] (by intro q_ jw;simp only[alQ,amC,am3] at jw;rcases jw with rfl<;>first|exact⟨TF,qE⟩)<|by simp only[amD,aod,amr,alQ,amC,am3,ans,aoU,not_or,anP,anZ]<;>omega
  have H6:=H5.put (it:=iL a6 (ga (I.length:Int) (gP I) (I.length:Int)<|gV I fo) c6) J<|x8 [((I0 8),#[U (j1 (I.length:Int) (I.length:Int)),sL a6 (ga (I.length:Int) (gP I) (I.length:Int)<|gV I fo) c6],68)] kK<|by intro q_ jw;simp only[alQ,amC,am3] at jw;rcases jw with rfl<;>first|exact⟨8,by decide,rfl,trivial,rfl⟩
  refine dM<|k<|cg H6 1 J bh J ew aJ J<|k<|cz H6 2 J bh J J s9 J J J J ?_
  intro kv (H7:HI M w kv (iL a6 (ga (I.length:Int) (gP I) (I.length:Int) (gV I fo)) c6::box (I0 8) #[U (j1 (I.length:Int) (I.length:Int)),sL a6 (ga (I.length:Int) (gP I) (I.length:Int) (gV I fo)) c6] 68::box aW #[U (j1 (I.length:Int) (I.length:Int)),sL a6 (ga (I.length:Int) (gP I) (I.length:Int) (gV I fo)) c6] 68::dk))
  refine aG<|rt<|vI H7 2 J bh J J s9 J aJ ?_
  have e0:(j1 (I.length:Int) (I.length:Int):Int)=(I.length:Int):=by exact(HO I fo).1
  have e1:(ga (I.length:Int) (gP I) (I.length:Int) (gV I fo):List (List bG))=bl I fo:=by exact(HO I fo).2
  have bF:=sd (fun (cK:Int) (fI:List (List bG))=>(.agg #[U cK,.slice a6 fI.length c6]:Value)) e0 e1
  exact⟨a6,c6,bF,H7.below,(alB (fun (x_:List (List bG))=>RV _ _ (.slice a6 x_.length c6) x_) e1).mp (H7.jn 0 J)⟩
theorem Cq (hM:ei M w) (cX:cP M w av au I) (fM:cP M w ax aw fo) (ho:et I) (cT:I.length≤4096) (eT:fo.length=I.length) (ln:∀x∈fo,x<((I.length:Nat):Int)):Calls aX 65 #[.agg #[.slice aC aE aB,sL av I au,sL ax fo aw]] w (cZ fun v w'=>∃(a0:OA) (c0:Nat),v=.agg #[U (I.length:Int),.slice a0 (bl I fo).length c0]∧Ext w w'∧RV M w' (.slice a0 (bl I fo).length c0) (bl I fo)):=by
 refine dK 14 Tryz.func65 J J J hM fun f0 ha H=>?_
 have H0:=cj H cX
 have H1:=cj H0 fM
 have i0:f0 0=.agg #[.slice aC aE aB,sL av I au,sL ax fo aw]:=ha 0 bH
 refine aH<|k<|bx H1 J i0 ?_
 let bC:=[iL ax fo aw,iL av I au]
 intro aK w0 dt (H2:HI M w w0 (box aK #[.slice aC aE aB,sL av I au,sL ax fo aw] 32::bC))
 refine k<|al H2 bh ?_
 let dk:=box aK #[.slice aC aE aB,sL av I au,sL ax fo aw] 32::bC
 intro aW w1 cR (H3:HI M w w1 (box aW #[U 0,.slice none 0 0] 68::dk))
 refine aG<|sq<|VZ [.v,.v,.v,.v,.v,.v,.v,.v,.n,.s 8 6,.v] [fun (N:bT) (v:Value) (w':aI)=>v=.agg #[.slice aC aE aB,sL av I au,sL ax fo aw],fun (N:bT) (v:Value) (w':aI)=>∃(a0:OA) (c0:Nat),v=.agg #[U (I.length:Int),sL a0 (gP I) c0]∧RV (MN (MS M [box aW #[U 0,.slice none 0 0] 68,box aK #[.slice aC aE aB,sL av I au,sL ax fo aw] 32,iL ax fo aw,iL av I au]) N) w' (sL a0 (gP I) c0) (gP I),fun (N:bT) (v:Value) (w':aI)=>v=.agg #[.slice aC aE aB,sL av I au,sL ax fo aw],fun (N:bT) (v:Value) (w':aI)=>∃(a1:OA) (c1:Nat),v=.agg #[U (I.length:Int),sL a1 (gV I fo) c1]∧RV (MN (MS M [box aW #[U 0,.slice none 0 0] 68,box aK #[.slice aC aE aB,sL av I au,sL ax fo aw] 32,iL ax fo aw,iL av I au]) N) w' (sL a1 (gV I fo) c1) (gV I fo),fun (N:bT) (v:Value) (w':aI)=>∃(a2:OA) (c2:Nat),v=.tuple #[.agg #[U (j1 (I.length:Int) (I.length:Int)),sL a2 (ga (I.length:Int) (gP I) (I.length:Int)<|gV I fo) c2],U (nY (I.length:Int) (I.length:Int))]∧RV (MN (MS M [box aW #[U 0,.slice none 0 0] 68,box aK #[.slice aC aE aB,sL av I au,sL ax fo aw] 32,iL ax fo aw,iL av I au]) N) w' (sL a2 (ga (I.length:Int) (gP I) (I.length:Int)<|gV I fo) c2) (ga (I.length:Int) (gP I) (I.length:Int)<|gV I fo),fun (N:bT) (v:Value) (w':aI)=>∃(a2:OA) (c2:Nat),v=.tuple #[.agg #[U (j1 (I.length:Int) (I.length:Int)),sL a2 (ga (I.length:Int) (gP I) (I.length:Int)<|gV I fo) c2],U (nY (I.length:Int) (I.length:Int))]∧RV (MN (MS M [box aW #[U 0,.slice none 0 0] 68,box aK #[.slice aC aE aB,sL av I au,sL ax fo aw] 32,iL ax fo aw,iL av I au]) N) w' (sL a2 (ga (I.length:Int) (gP I) (I.length:Int)<|gV I fo) c2) (ga (I.length:Int) (gP I) (I.length:Int)<|gV I fo),fun (N:bT) (v:Value) (w':aI)=>∃(a2:OA) (c2:Nat),v=.agg #[U (j1 (I.length:Int) (I.length:Int)),sL a2 (ga (I.length:Int) (gP I) (I.length:Int)<|gV I fo) c2]∧RV (MN (MS M [box aW #[U 0,.slice none 0 0] 68,box aK #[.slice aC aE aB,sL av I au,sL ax fo aw] 32,iL ax fo aw,iL av I au]) N) w' (sL a2 (ga (I.length:Int) (gP I) (I.length:Int)<|gV I fo) c2) (ga (I.length:Int) (gP I) (I.length:Int)<|gV I fo),fun (N:bT) (v:Value) (w':aI)=>v=U (nY (I.length:Int) (I.length:Int)),fun _ _ _=>True,fun _ _ _=>True,fun (N:bT) (v:Value) (w':aI)=>v=U (nY (I.length:Int) (I.length:Int))] [(#[],0),(#[],0),(#[],0),(#[],0),(#[],0),(#[],0),(#[],0),(#[],0),(#[U 0,.slice none 0 0],68),(#[],0),(#[],0)] J bu ?_ ?_
 ·
  refine⟨⟨fun _ _ _ _ _ _ h=>h,J,fun f0 w6 N0 kC iJ hN0 Jp=>?_⟩,?_⟩
  ·
   refine cg (H3.ext iJ) 1 J dn J (kC 1 J) aJ J ?_
   exact⟨_,J,Ext.refl _,J⟩
  refine⟨⟨by rintro _ _ _ _ _ k_ ⟨a0,c0,e_,fQ⟩;exact⟨a0,c0,e_,la fQ k_⟩,J,fun f1 w7 N1 rh je G1 oW=>?_⟩,?_⟩
  ·
   have A5:=oW 0 J ⟨_,J,J⟩
   have s0:f1 6=.agg #[.slice aC aE aB,sL av I au,sL ax fo aw]:=A5
   have nB:=Ta (I:=I) (aC:=aC) (aE:=aE) (aB:=aB) (ax:=ax) (cH:=fo.length) (aw:=aw) (w:=w7) (gK H3.mb je G1) (j4 (H3.rv 3 J) je G1) (by exact ho)<|by exact cT
   refine ca afP J (ec s0 e0) nB ?_
   rintro _ w8 ⟨a3,c3,rfl,lh,lk⟩
   exact⟨_,J,lh,⟨a3,c3,J,lk⟩⟩
  refine⟨⟨fun _ _ _ _ _ _ h=>h,J,fun f2 w9 N2 l4 jD hN2 rY=>?_⟩,?_⟩
  ·
   refine cg (H3.ext jD) 1 J dn J (l4 1 J) aJ J ?_
   exact⟨_,J,Ext.refl _,J⟩
  refine⟨⟨by rintro _ _ _ _ _ k_ ⟨a1,c1,e_,gG⟩;exact⟨a1,c1,e_,la gG k_⟩,J,fun f3 jb N3 qC gv CC lP=>?_⟩,?_⟩
  ·
   have yC:=lP 2 J ⟨_,J,J⟩
   have s1:f3 8=.agg #[.slice aC aE aB,sL av I au,sL ax fo aw]:=yC
   have oo:=S' (I:=I) (fo:=fo) (aC:=aC) (aE:=aE) (aB:=aB) (w:=jb) (gK H3.mb gv CC) (j4 (H3.rv 3 J) gv CC) (j4 (H3.rv 2 J) gv CC) (by exact cT) (by exact eT)<|by exact ln
   refine ca adA J (ec s1 e0) oo ?_
   rintro _ iK ⟨a4,c4,rfl,j0,lM⟩
   exact⟨_,J,j0,⟨a4,c4,J,lM⟩⟩
  refine⟨⟨by rintro _ _ _ _ _ k_ ⟨a2,c2,e_,gl⟩;exact⟨a2,c2,e_,la gl k_⟩,J,fun f4 jf N4 re kb CB jk=>?_⟩,?_⟩
  ·
   have j7:=jk 1 J ⟨_,J,J⟩
   obtain⟨a0,c0,s2,fQ⟩:=j7
   have A4:=jk 3 J ⟨_,J,J⟩
   obtain⟨a1,c1,s3,gG⟩:=A4
   have wF:=Tc (an:=(I.length:Int)) (ar:=(gP I)) (bn:=(I.length:Int)) (br:=(gV I fo)) (w:=jf) (gK H3.mb kb CB) aY fQ aY gG (by exact(tZ ai _).1) (by exact(tZ ai _).2) ai (by exact(tZ ai _).1) (by exact(tZ ai _).2) ai
   refine ca afQ J (ec s2<|ec s3 e0) wF ?_
   rintro _ ju ⟨a5,c5,rfl,kZ,ml⟩
   exact⟨_,J,kZ,⟨a5,c5,J,(bm.rv ml<|gK H3.mb kb CB)⟩⟩
  refine⟨⟨by rintro _ _ _ _ _ k_ ⟨a2,c2,e_,gl⟩;exact⟨a2,c2,e_,la gl k_⟩,J,fun f5 jK N5 ns qL hN5 j8=>?_⟩,?_⟩
  ·
   have A3:=j8 4 J ⟨_,J,J⟩
   obtain⟨a2,c2,s4,gl⟩:=A3
   refine mv J s4 ?_
   exact⟨_,J,Ext.refl _,⟨a2,c2,J,gl⟩⟩
  refine⟨⟨by rintro _ _ _ _ _ k_ ⟨a2,c2,e_,gl⟩;exact⟨a2,c2,e_,la gl k_⟩,J,fun f6 lz N6 rb po Rh kj=>?_⟩,?_⟩
  ·
   have A2:=kj 5 J ⟨_,J,J⟩
   obtain⟨a2,c2,s5,gl⟩:=A2
   refine xt J s5 J ?_
   exact⟨_,J,Ext.refl _,⟨a2,c2,J,gl⟩⟩
  refine⟨⟨fun _ _ _ _ _ _ h=>h,J,fun f7 mB N7 qa oG hN7 ll=>?_⟩,?_⟩
  ·
   have A1:=ll 5 J ⟨_,J,J⟩
   obtain⟨a2,c2,s6,gl⟩:=A1
   refine xt J s6 J ?_
   exact⟨_,J,Ext.refl _,J⟩
  refine⟨⟨fun _ _ _ _ _ _ h=>h,J,fun _ _ _=>trivial,fun f8 lL N8 oa tc hN8 jj=>?_⟩,?_⟩
  ·
   refine MU bh ?_
   exact⟨J,J⟩
  refine⟨⟨fun _ _ _ _ _ _ h=>h,J,J,J,⟨_,J,J⟩,⟨_,J,J⟩,by decide,trivial,by rintro _ _ _ ⟨a2,c2,e_,gl⟩;subst e_;rfl,fun f9 jX N_ dI Ut vq s7 qG oY iC=>?_⟩,?_⟩
  ·
   obtain⟨a2,c2,e_,gl⟩:=iC
   exact LI bh J J s7 J qG ((alB (fun v=>v.cells.size) e_).trans rfl) oY<|(alB (fun v=>v.cells.toList.all Value.oneCell') e_).trans rfl
  refine⟨⟨fun _ _ _ _ _ _ h=>h,J,fun f10 kJ N9 r6 qK hN9 mS=>?_⟩,?_⟩
  ·
   have A0:=mS 7 J ⟨_,J,J⟩
   have s8:f10 12=U (nY (I.length:Int) (I.length:Int)):=A0
   refine gH J s8 ?_
   exact⟨_,J,Ext.refl _,J⟩
  exact trivial
 ·
  intro f11 ow I0 mg vo iz JR yL
  have s9:f11 2=pV aW 0:=mg 2 J
  obtain⟨a6,c6,ey,kK⟩:=(iz 6 _ rfl rfl)
  obtain⟨ew,Cz, -,Ko,qE,cI⟩:=JR 8 aJ trivial
  have yB:Ko=#[U (j1 (I.length:Int) (I.length:Int)),sL a6 (ga (I.length:Int) (gP I) (I.length:Int) (gV I fo)) c6]:=(cI.2.1 9 6 J J).trans (alB Value.cells ey)
  rw[yB] at qE
  have TF:=Cz
  have H5:HI M w ow (box (I0 8) #[U (j1 (I.length:Int) (I.length:Int)),sL a6 (ga (I.length:Int) (gP I) (I.length:Int) (gV I fo)) c6] 68::box aW #[U 0,.slice none 0 0] 68::dk):=H3.lays vo [((I0 8),#[U (j1 (I.length:Int) (I.length:Int)),sL a6 (ga (I.length:Int) (gP I) (I.length:Int)<|gV I fo) c6],68)] (by intro q_ jw;simp only[alQ,amC,am3] at jw;rcases jw with rfl<;>first|exact⟨TF,qE⟩)<|by simp only[amD,aod,amr,alQ,amC,am3,ans,aoU,not_or,anP,anZ]<;>omega
  have H6:=H5.put (it:=iL a6 (ga (I.length:Int) (gP I) (I.length:Int)<|gV I fo) c6) J<|x8 [((I0 8),#[U (j1 (I.length:Int) (I.length:Int)),sL a6 (ga (I.length:Int) (gP I) (I.length:Int)<|gV I fo) c6],68)] kK<|by intro q_ jw;simp only[alQ,amC,am3] at jw;rcases jw with rfl<;>first|exact⟨8,by decide,rfl,trivial,rfl⟩
  refine dM<|k<|cg H6 1 J bh J ew aJ J<|k<|cz H6 2 J bh J J s9 J J J J ?_
  intro kv (H7:HI M w kv (iL a6 (ga (I.length:Int) (gP I) (I.length:Int) (gV I fo)) c6::box (I0 8) #[U (j1 (I.length:Int) (I.length:Int)),sL a6 (ga (I.length:Int) (gP I) (I.length:Int) (gV I fo)) c6] 68::box aW #[U (j1 (I.length:Int) (I.length:Int)),sL a6 (ga (I.length:Int) (gP I) (I.length:Int) (gV I fo)) c6] 68::dk))
  refine aG<|rt<|vI H7 2 J bh J J s9 J aJ ?_
  have e0:(j1 (I.length:Int) (I.length:Int):Int)=(I.length:Int):=by exact(HO I fo).1
  have e1:(ga (I.length:Int) (gP I) (I.length:Int) (gV I fo):List (List bG))=bl I fo:=by exact(HO I fo).2
  have bF:=sd (fun (cK:Int) (fI:List (List bG))=>(.agg #[U cK,.slice a6 fI.length c6]:Value)) e0 e1
  exact⟨a6,c6,bF,H7.below,(alB (fun (x_:List (List bG))=>RV _ _ (.slice a6 x_.length c6) x_) e1).mp (H7.jn 0 J)⟩
theorem Uy (hM:ei M w) (cX:cP M w av au I) (fM:cP M w ax aw fo) (ho:et I) (cT:I.length≤4096) (eT:fo.length=I.length) (ln:∀x∈fo,x<((I.length:Nat):Int)):Calls aX 92 #[.agg #[.slice aC aE aB,sL av I au,sL ax fo aw]] w (cZ fun v w'=>∃(a0:OA) (c0:Nat),v=.agg #[U (I.length:Int),.slice a0 (bw I fo).length c0]∧Ext w w'∧RV M w' (.slice a0 (bw I fo).length c0) (bw I fo)):=by
 refine dK 6 Tryz.func92 J J J hM fun f0 ha H=>?_
 have H0:=cj H cX
 have H1:=cj H0 fM
 have i0:f0 0=.agg #[.slice aC aE aB,sL av I au,sL ax fo aw]:=ha 0 bH
 refine aH<|k<|bx H1 J i0 ?_
 let bC:=[iL ax fo aw,iL av I au]
 intro aK w0 dt (H2:HI M w w0 (box aK #[.slice aC aE aB,sL av I au,sL ax fo aw] 32::bC))
 refine k<|al H2 bh ?_
 let dk:=box aK #[.slice aC aE aB,sL av I au,sL ax fo aw] 32::bC
 intro aW w1 cR (H3:HI M w w1 (box aW #[U 0,.slice none 0 0] 68::dk))
 refine cU<|k<|cg H3 1 J dn J J aJ J<|k ?_
 have cx:=Ls (I:=I) (fo:=fo) (aC:=aC) (aE:=aE) (aB:=aB) H3.mb (H3.rv 3 J) (H3.rv 2 J) (by exact ho) (by exact cT) (by exact eT)<|by exact ln
 refine ca adr J (ec J e0) cx ?_
 rintro _ w2 ⟨a0,c0,rfl,d_,cL⟩
 have H4:=H3.ext d_
 have H5:=cj H4 cL
 refine k ?_
 have eF:=Ol (mn:=(I.length:Int)) (mr:=(bl I fo)) H5.mb aY (H5.rv 0 J)<|by exact tB fo cT
 refine ca ads J (ec J e0) eF ?_
 rintro _ w3 ⟨a1,c1,rfl,eG,eQ⟩
 have H6:=H5.ic eQ
 refine k<|cz H6 2 J bh J J J J J J J ?_
 intro w4 (H7:HI M w w4 (oL w 115 a1 (bU (I.length:Int) (bl I fo)) c1::iL a0 (bl I fo) c0::box aW #[U (I.length:Int),sL a1 (bU (I.length:Int) (bl I fo)) c1] 68::dk))
 refine aG<|rt<|vI H7 2 J bh J J J J aJ ?_
 have e1:(bU (I.length:Int) (bl I fo):List (List bG))=bw I fo:=by exact Kp I fo
 have bF:=fu (fun (fI:List (List bG))=>(.agg #[U (I.length:Int),.slice a1 fI.length c1]:Value)) e1
 exact⟨a1,c1,bF,H7.below,(alB (fun (x_:List (List bG))=>RV _ _ (.slice a1 x_.length c1) x_) e1).mp (H7.dV 0 J)⟩
theorem II (hM:ei M w) (cX:cP M w av au I) (fM:cP M w ax aw fo) (ho:et I) (cT:I.length≤4096) (eT:fo.length=I.length) (ln:∀x∈fo,x<((I.length:Nat):Int)):Calls aX 30 #[.agg #[.slice aC aE aB,sL av I au,sL ax fo aw]] w (cZ fun v w'=>∃(a0:OA) (c0:Nat),v=.agg #[U (I.length:Int),.slice a0 (bw I fo).length c0]∧Ext w w'∧RV M w' (.slice a0 (bw I fo).length c0) (bw I fo)):=by
 refine dK 6 Tryz.func30 J J J hM fun f0 ha H=>?_
 have H0:=cj H cX
 have H1:=cj H0 fM
 have i0:f0 0=.agg #[.slice aC aE aB,sL av I au,sL ax fo aw]:=ha 0 bH
 refine aH<|k<|bx H1 J i0 ?_
 let bC:=[iL ax fo aw,iL av I au]
 intro aK w0 dt (H2:HI M w w0 (box aK #[.slice aC aE aB,sL av I au,sL ax fo aw] 32::bC))
 refine k<|al H2 bh ?_
 let dk:=box aK #[.slice aC aE aB,sL av I au,sL ax fo aw] 32::bC
 intro aW w1 cR (H3:HI M w w1 (box aW #[U 0,.slice none 0 0] 68::dk))
 refine cU<|k<|cg H3 1 J dn J J aJ J<|k ?_
 have cx:=Cq (I:=I) (fo:=fo) (aC:=aC) (aE:=aE) (aB:=aB) H3.mb (H3.rv 3 J) (H3.rv 2 J) (by exact ho) (by exact cT) (by exact eT)<|by exact ln
 refine ca aaQ J (ec J e0) cx ?_
 rintro _ w2 ⟨a0,c0,rfl,d_,cL⟩
 have H4:=H3.ext d_
 have H5:=cj H4 cL
 refine k ?_
 have eF:=qV (mn:=(I.length:Int)) (mr:=(bl I fo)) H5.mb aY (H5.rv 0 J)<|by exact tB fo cT
 refine ca JU J (ec J e0) eF ?_
 rintro _ w3 ⟨a1,c1,rfl,eG,eQ⟩
 have H6:=H5.ext eG
 have H7:=cj H6 eQ
 refine k<|cz H7 2 J bh J J J J J J J ?_
 intro w4 (H8:HI M w w4 (iL a1 (bU (I.length:Int) (bl I fo)) c1::iL a0 (bl I fo) c0::box aW #[U (I.length:Int),sL a1 (bU (I.length:Int) (bl I fo)) c1] 68::dk))
 refine aG<|rt<|vI H8 2 J bh J J J J aJ ?_
 have e1:(bU (I.length:Int) (bl I fo):List (List bG))=bw I fo:=by exact Kp I fo
 have bF:=fu (fun (fI:List (List bG))=>(.agg #[U (I.length:Int),.slice a1 fI.length c1]:Value)) e1
 exact⟨a1,c1,bF,H8.below,(alB (fun (x_:List (List bG))=>RV _ _ (.slice a1 x_.length c1) x_) e1).mp (H8.jn 0 J)⟩
theorem aa0:dq aX 30:=dy Tryz.func30
theorem agd:dq aX 31:=dy Tryz.func31
theorem aaZ:dq aX 32:=dy Tryz.func32
theorem agc:dq aX 34:=dy Tryz.func34
theorem aaX:dq aX 35:=dy Tryz.func35
theorem agb:dq aX 38:=dy Tryz.func38
theorem Gt (hM:ei M w) (cX:cP M w av au I) (fM:cP M w ax aw fo) (jm:aN kd) (ho:et I) (cT:I.length≤64) (eT:fo.length=I.length) (ln:∀x∈fo,x<((I.length:Nat):Int)) (oC:nD I fo) (akz:1≤kd∧kd≤7):Calls aX 13 #[.agg #[.slice aC aE aB,sL av I au,sL ax fo aw],U kd] w (cZ fun v w'=>∃(k_:Int) (r_:Int) (a_:Int) (b_:Int) (o_:Int) (f_:Int) (s_:Int),v=.tuple #[.agg #[U k_,U r_,U a_,U b_,U o_,.slice none 0 0,U f_,U s_],.bool ((fT I fo kd).isSome)]∧Ext w w'∧oE (fT I fo kd) k_ r_ a_ b_ o_):=by
 refine dK 94 Tryz.func13 J J J hM fun f0 ha H=>?_
 let J0:=iL av I au
 have H0:=H.put (it:=J0) J<|by rw[dY];exact cX
 let J1:=iL ax fo aw
 have H1:=H0.put (it:=J1) J<|by rw[bp rfl,dY];exact fM
 have iT:=bN cX
 have nn:=bN fM
 have i0:f0 0=.agg #[.slice aC aE aB,sL av I au,sL ax fo aw]:=ha 0 bH
 have i1:f0 1=U kd:=ha 1 bH
 have Cl:cq ((I.length:Nat):Int) (bw I fo)=true:=zS fo ai
 refine aH<|k<|bx H1 J i0 ?_
 let bC:=[J1,J0]
 intro aK w0 dt (H2:HI M w w0 (box aK #[.slice aC aE aB,sL av I au,sL ax fo aw] 32::bC))
 let J2:=box aK #[.slice aC aE aB,sL av I au,sL ax fo aw] 32
 refine k<|al H2 cu ?_
 let dk:=J2::bC
 intro aW w1 cR (H3:HI M w w1 (box aW #[U 0,U 0,U 0,U 0,U 0,.slice none 0 0,U 0,U 0] 25::dk))
 let J3:=box aW #[U 0,U 0,U 0,U 0,U 0,.slice none 0 0,U 0,U 0] 25
 refine aj (v:=.bool false) J J<|cU<|k<|cg H3 1 J dn J J aJ J<|k ?_
 have cx:=II (I:=I) (fo:=fo) (aC:=aC) (aE:=aE) (aB:=aB) H3.mb (H3.rv 3 J) (H3.rv 2 J) (by exact ho) ai (by exact eT)<|by exact ln
 refine ca aa0 J (ec J e0) cx ?_
 rintro _ w2 ⟨a0,c0,rfl,d_,cL⟩
 have H4:=H3.ext d_
 let J4:=iL a0 (bw I fo) c0
 have H5:=H4.put (it:=J4) J cL
 refine k<|al H5 bh ?_
 let dv:=J4::J3::dk
 intro bj w3 eG (H6:HI M w w3 (box bj #[U 0,.slice none 0 0] 68::dv))
 refine k<|cz H6 0 J bh J J J J J J J ?_
 let J5:=box bj #[U (I.length:Int),sL a0 (bw I fo) c0] 68
 intro w4 (H7:HI M w w4 (J5::dv))
 refine cU<|aj (v:=.slice none 0 0) J J<|aG<|sq<|aH<|aj (v:=U 0) J J<|aG<|bk ?_
 have H8:=H7.ke Int 3
 let dD:=box bj #[U (I.length:Int),sL a0 (bw I fo) c0] 68::dv
 refine lp (fun m f w'=>∃(j_:Nat) (gi:az) (a1:OA) (c1:Nat),m=I.length-j_∧f 1=U kd∧f 2=pV aK 0∧f 4=pV aW 0∧f 6=pV bj 0∧f 7=sL a1 gi c1∧f 8=U (j_:Int)∧HI M w w' (oL w 3 a1 gi c1::dD)∧(j_≤I.length)∧(gi=jB (List.range j_))) _ ⟨0,([]:az),none,0,J,i1,J,J,J,J,(bJ J),H8,ai,(by rfl)⟩ ?_
 rintro _ f0 w5 ⟨j_,gi,a1,c1,rfl,s0,s1,s2,s3,s4,s5,H9,ra,hs⟩
 refine sq<|aH<|ak J s5<|bo dh J s1<|bR H9 4 J eR J J J<|k<|ep J J fj<|k<|lss J J J J<|z<|nx<|cd (b:=decide ((j_:Int)<(I.length:Int))) J J (fun b0=>?_)<|fun b0=>?_
 ·
  have p0:=dT b0
  refine sk<|nx<|sq<|bk<|rg<|ak J s4<|ak J s5<|k<|bs (xs:=([(j_:Int)]:az)) (cells:=#[U (j_:Int)]) (e:=3) H9 J (ct J eo) (fun _=>bu) ⟨[U (j_:Int)],[],J,⟨J,(show aN ((j_:Int)) from aY)⟩,J⟩ J aJ ?_
  intro g0 w6 eI db
  refine k<|kE db 1 J J J J J J (fD<|db.at_ 0 J) cY aQ J (by rw[hs,Tv];simp only[jv,gW];omega) J ?_
  intro a2 c2 w7 (da:HI M w w7 (own w.heap.size 3 (.slice (some ⟨g0,0,none⟩) 1 1) ([(j_:Int)]:az)::oL w 3 a2 (gi++([(j_:Int)]:az)) c2::J5::dv))
  refine aj (v:=sL a2 (gi++([(j_:Int)]:az)) c2) J J<|z<|aF<|nx<|rg<|ak J s5<|k<|add J J J J aY<|aj (v:=U ((j_:Int)+1)) J J<|z ?_
  have eB:HI M w w7 (oL w 3 a2 (gi++([(j_:Int)]:az)) c2::J5::dv):=da.c_ [1,2,3,4,5,6,7] aJ J
  refine bD _ ?_ ⟨(j_+1),(gi++([(j_:Int)]:az)),a2,c2,J,s0,s1,s2,s3,J,(bJ J),eB,ai,(by rw[hs];exact Qz)⟩
  omega
 have p0:=dF b0
 refine ex<|bg<|bt<|bz<|nx<|sq<|aH<|ak J s0<|aG<|bk<|aH<|k<|eql J J J J<|aj (v:=.bool (decide (kd=1))) J J<|z<|nx<|cd (b:=decide (kd=1)) J J (fun b1=>?_)<|fun b1=>?_
 ·
  refine aH<|k<|cg H9 4 J dn J s1 aJ J<|k ?_
  have eF:=Nz (I:=I) (fo:=fo) (aC:=aC) (aE:=aE) (aB:=aB) H9.mb (H9.rv 6 J)<|H9.rv 5 J
  refine ca agd J (ec J e0) eF ?_
  rintro _ w6 ⟨o0,o1,o2,o3,o4,o5,o6,rfl,eI,q0⟩
  have db:=H9.ext eI
  refine k<|xt J J J<|k<|xt J J J<|k<|cz db 3 J cu J J s2 J J J J ?_
  intro w7 (da:HI M w w7 [oL w 3 a1 gi c1,J5,J4,box aW #[U o0,U o1,U o2,U o3,U o4,.slice none 0 0,U o5,U o6] 25,J2,J1,J0])
  refine aj (v:=.bool ((l9 fo 1).isSome)) J J<|aG<|rt<|bM<|aS ?_
  have ug:fT I fo kd=l9 fo 1:=by rw[alT ‹decide (kd=1)=true›];exact YK
  refine iS da 3 J cu J J J s2 J aJ ?_
  have e8:((l9 fo 1).isSome:Bool)=(fT I fo kd).isSome:=by rw[ug]
  have bF:=fu (fun (ku:Bool)=>(.tuple #[.agg #[U o0,U o1,U o2,U o3,U o4,.slice none 0 0,U o5,U o6],.bool ku]:Value)) e8
  exact⟨o0,o1,o2,o3,o4,o5,o6,bF,da.below,(by rw[ug];assumption)⟩
 have p1:=dF b1
 refine aH<|k<|eql J J J J<|aj (v:=.bool (decide (kd=2))) J J<|z<|nx<|cd (b:=decide (kd=2)) J J (fun b2=>?_)<|fun b2=>?_
 ·
  refine aH<|ak J s0<|k<|cg H9 1 J bh J s3 aJ J<|k ?_
  have eF:=Cn (kd:=kd) (mn:=(I.length:Int)) (mr:=(bw I fo)) H9.mb jm aY (H9.rv 2 J)<|by exact Cl
  refine ca aaZ J (ec J<|ec J e0) eF ?_
  rintro _ w6 ⟨o0,o1,o2,o3,o4,o5,o6,rfl,eI,q0⟩
  have db:=H9.ext eI
  refine k<|xt J J J<|k<|xt J J J<|k<|cz db 3 J cu J J s2 J J J J ?_
  intro w7 (da:HI M w w7 [oL w 3 a1 gi c1,J5,J4,box aW #[U o0,U o1,U o2,U o3,U o4,.slice none 0 0,U o5,U o6] 25,J2,J1,J0])
  refine aj (v:=.bool ((m_ (I.length:Int) (bw I fo) kd).isSome)) J J<|aG<|rt<|bM<|aS ?_
  have ug:fT I fo kd=m_ ((I.length:Nat):Int) (bw I fo) kd:=by rw[alT ‹decide (kd=2)=true›];exact YJ
  refine iS da 3 J cu J J J s2 J aJ ?_
  have e8:((m_ (I.length:Int) (bw I fo) kd).isSome:Bool)=(fT I fo kd).isSome:=by rw[ug]
  have bF:=fu (fun (ku:Bool)=>(.tuple #[.agg #[U o0,U o1,U o2,U o3,U o4,.slice none 0 0,U o5,U o6],.bool ku]:Value)) e8
  exact⟨o0,o1,o2,o3,o4,o5,o6,bF,da.below,(by rw[ug];assumption)⟩
 have p2:=dF b2
 refine aH<|k<|eql J J J J<|aj (v:=.bool (decide (kd=3))) J J<|z<|nx<|cd (b:=decide (kd=3)) J J (fun b3=>?_)<|fun b3=>?_
 ·
  have p3:=dT b3
  refine aH<|k<|cg H9 4 J dn J s1 aJ J<|k<|cg H9 1 J bh J s3 aJ J<|ak J s0<|ak J s4<|k ?_
  have db:=H9.freeze 0 J
  have eF:=Co (I:=I) (fo:=fo) (mn:=(I.length:Int)) (mr:=(bw I fo)) (kd:=kd) (l:=gi) (aC:=aC) (aE:=aE) (aB:=aB) db.mb (db.rv 6 J) (db.rv 5 J) aY (db.rv 2 J) jm (db.rv 0 J) (by exact ho) (by exact cT) (by exact eT) (by exact Cl) (by rfl)<|by intro x_ h_;have wm:=Xq x_ (hs▸h_);omega
  refine ca aaY J (ec J<|ec J<|ec J<|ec J e0) eF ?_
  rintro _ w6 ⟨o0,o1,o2,o3,o4,o5,o6,rfl,eI,q0⟩
  have da:=H9.ext eI
  refine k<|xt J J J<|k<|xt J J J<|k<|cz da 3 J cu J J s2 J J J J ?_
  intro w7 (eB:HI M w w7 [oL w 3 a1 gi c1,J5,J4,box aW #[U o0,U o1,U o2,U o3,U o4,.slice none 0 0,U o5,U o6] 25,J2,J1,J0])
  refine aj (v:=.bool ((j2 I fo (I.length:Int) (bw I fo) kd gi).isSome)) J J<|aG<|rt<|bM<|aS ?_
  have ug:fT I fo kd=j2 I fo ((I.length:Nat):Int) (bw I fo) kd gi:=by rw[alT ‹decide (kd=3)=true›];exact(YI eT).trans (by rw[hs,show j_=I.length from by omega])
  refine iS eB 3 J cu J J J s2 J aJ ?_
  have e8:((j2 I fo (I.length:Int) (bw I fo) kd gi).isSome:Bool)=(fT I fo kd).isSome:=by rw[ug]
  have bF:=fu (fun (ku:Bool)=>(.tuple #[.agg #[U o0,U o1,U o2,U o3,U o4,.slice none 0 0,U o5,U o6],.bool ku]:Value)) e8
  exact⟨o0,o1,o2,o3,o4,o5,o6,bF,eB.below,(by rw[ug];assumption)⟩
 have p3:=dF b3
 refine aH<|k<|eql J J J J<|aj (v:=.bool (decide (kd=4))) J J<|z<|nx<|cd (b:=decide (kd=4)) J J (fun b4=>?_)<|fun b4=>?_
 ·
  refine aH<|k<|cg H9 4 J dn J s1 aJ J<|k<|cg H9 1 J bh J s3 aJ J<|k ?_
  have eF:=Hp (I:=I) (fo:=fo) (mn:=(I.length:Int)) (mr:=(bw I fo)) (aC:=aC) (aE:=aE) (aB:=aB) H9.mb (H9.rv 6 J) (H9.rv 5 J) aY (H9.rv 2 J) (by exact ho) (by exact cT) (by exact eT) (by exact Cl)<|by rfl
  refine ca agc J (ec J<|ec J e0) eF ?_
  rintro _ w6 ⟨o0,o1,o2,o3,o4,o5,o6,rfl,eI,q0⟩
  have db:=H9.ext eI
  refine k<|xt J J J<|k<|xt J J J<|k<|cz db 3 J cu J J s2 J J J J ?_
  intro w7 (da:HI M w w7 [oL w 3 a1 gi c1,J5,J4,box aW #[U o0,U o1,U o2,U o3,U o4,.slice none 0 0,U o5,U o6] 25,J2,J1,J0])
  refine aj (v:=.bool ((oT I fo (I.length:Int) (bw I fo) 4).isSome)) J J<|aG<|rt<|bM<|aS ?_
  have ug:fT I fo kd=oT I fo ((I.length:Nat):Int) (bw I fo) 4:=by rw[alT ‹decide (kd=4)=true›];exact YH
  refine iS da 3 J cu J J J s2 J aJ ?_
  have e8:((oT I fo (I.length:Int) (bw I fo) 4).isSome:Bool)=(fT I fo kd).isSome:=by rw[ug]
  have bF:=fu (fun (ku:Bool)=>(.tuple #[.agg #[U o0,U o1,U o2,U o3,U o4,.slice none 0 0,U o5,U o6],.bool ku]:Value)) e8
  exact⟨o0,o1,o2,o3,o4,o5,o6,bF,da.below,(by rw[ug];assumption)⟩
 have p4:=dF b4
 refine aH<|k<|eql J J J J<|aj (v:=.bool (decide (kd=5))) J J<|z<|nx<|cd (b:=decide (kd=5)) J J (fun b5=>?_)<|fun b5=>?_
 ·
  have p5:=dT b5
  refine aH<|k<|cg H9 1 J bh J s3 aJ J<|k<|al H9 bh ?_
  let J6:=oL w 3 a1 gi c1
  intro dI w6 eI (db:HI M w w6 (box dI #[U 0,.slice none 0 0] 68::J6::J5::dv))
  refine k<|cz db 0 J bh J J J J J J J ?_
  intro w7 (da:HI M w w7 (box dI #[U (I.length:Int),sL a0 (bw I fo) c0] 68::J6::J5::dv))
  refine cU<|k<|cg da 5 J dn J s1 aJ J<|k<|cg da 2 J bh J s3 aJ J<|k ?_
  have eF:=Cp (I:=I) (fo:=fo) (mn:=(I.length:Int)) (mr:=(bw I fo)) (aC:=aC) (aE:=aE) (aB:=aB) da.mb (da.rv 7 J) (da.rv 6 J) aY (da.rv 3 J) (by exact ho) (by exact cT) (by exact eT) (by exact Cl)<|by rfl
  refine ca aaX J (ec J<|ec J e0) eF ?_
  rintro _ w8 ⟨a2,c2,rfl,ly,eQ⟩
  have eB:=da.ic eQ
  refine aj (v:=sL a2 (bP I fo (I.length:Int) (bw I fo) I.length) c2) J J<|aG<|sq<|aH<|aj (v:=U 0) J J<|aG<|bk ?_
  have dZ:=eB.put (it:=J4) J<|eB.rv 4 J
  refine lp (fun m f w'=>∃(q_:Nat) (cp:Int) (fN:List (List bG)) (a3:OA) (c3:Nat),m=(bP I fo ((I.length:Nat):Int) (bw I fo) I.length).length-q_∧f 1=U kd∧f 4=pV aW 0∧f 9=pV dI 0∧f 10=sL a2 (bP I fo (I.length:Int) (bw I fo) I.length) c2∧f 11=U (q_:Int)∧HI M w w' (iL a3 fN c3::oL w 79 a2 (bP I fo (I.length:Int) (bw I fo) I.length) c2::box dI #[U cp,sL a3 fN c3] 68::J6::dD)∧(q_≤(bP I fo ((I.length:Nat):Int) (bw I fo) I.length).length)∧(cp=((I.length:Nat):Int)∧fN=dp ((I.length:Nat):Int) (bw I fo) ((bP I fo ((I.length:Nat):Int) (bw I fo) I.length).take q_))) _ ⟨0,((I.length:Nat):Int),(bw I fo),a0,c0,J,s0,s2,J,J,(bJ J),dZ,ai,(by exact⟨J,J⟩)⟩ ?_
  rintro _ f1 w9 ⟨q_,cp,fN,a3,c3,rfl,s6,s7,s8,s9,ey,cM,jw,nH⟩
  refine sq<|aH<|ak J ey<|ak J s9<|k<|ep J J pM<|k<|lss J J J J<|z<|nx<|cd (b:=decide ((q_:Int)<((bP I fo (I.length:Int) (bw I fo) I.length).length:Int))) J J (fun b6=>?_)<|fun b6=>?_
  ·
   have p6:=dT b6
   refine sk<|nx<|sq<|bk ?_
   have px:=sm ai J Cl tC nH
   have TY:(bP I fo ((I.length:Nat):Int) (bw I fo) I.length).length≤300000:=Ul cT
   refine EE [.r,.r,.r,.r,.r,.r,.r,.r,.r,.r,.r,.r,.r,.r,.s,.e] (fun _=>True) J bu (fun _ _=>trivial)<|yq J J<|kq (fun _ x_=>cg (cM.ext x_) 2 J bh J s8 aJ J e1)<|gC<|kq (fun _ _=>mv J s9 e1)<|gC<|kq (fun _ _=>mv J ey e1)<|gC<|su (cM.at_ 1 J) J J J J ai pM tg ?_
   intro fz x0 aq cN
   refine gC<|kq (fun _ _=>fa yU J J e1)<|gC<|fV (cN).fst aQ J J ?_
   intro gh
   refine gC<|kq (fun _ _=>mv J s9 e1)<|gC<|kq (fun _ _=>mv J ey e1)<|gC<|su (cM.at_ 1 J) J J J J ai pM tg ?_
   intro iG x_ ki eU
   obtain rfl:x0=x_:=alD (aq.symm.trans ki)
   refine gC<|kq (fun _ _=>fa Bv J J e1)<|gC<|fV ((eU).s1).fst aQ J J ?_
   intro fQ
   refine zq<|yu J (fun _ v w'=>∃(a4:OA) (c4:Nat),v=.tuple #[.agg #[U (dP cp x0.1 x0.2.1),sL a4 (bL cp fN x0.1 x0.2.1) c4],U (iH cp x0.1 x0.2.1)]∧RV cM.nA w' (sL a4 (bL cp fN x0.1 x0.2.1) c4) (bL cp fN x0.1 x0.2.1)) J xL J (fun v_ _ x_ _=>have nB:=pS (mn:=cp) (mr:=fN) (i:=x0.1) (j:=x0.2.1) (w:=v_) (cM.ext x_).mb aY ((cM.ext x_).rv 0 rfl) gh fQ (by exact(bQ px).1) (by exact(bQ px).2.1) (by exact(bQ px).2.2.1);ca Dq rfl (ec J<|ec J<|ec J e0) nB (fun _ iK ⟨a5,c5,e_,je,lk⟩=>⟨_,J,je,⟨a5,c5,e_,(bm.rv lk (cM.ext x_).mb)⟩⟩))<|z1 J (fun _ v w'=>∃(a6:OA) (c6:Nat),v=.tuple #[.agg #[U (dP cp x0.1 x0.2.1),sL a6 (bL cp fN x0.1 x0.2.1) c6],U (iH cp x0.1 x0.2.1)]∧RV cM.nA w' (sL a6 (bL cp fN x0.1 x0.2.1) c6) (bL cp fN x0.1 x0.2.1)) 0 J J xL J (fun _ _ _ _ _ h_=>let ⟨a7,c7,ew,kK⟩:=h_;mv rfl ew ⟨_,J,Ext.refl _,⟨a7,c7,J,kK⟩⟩)<|z1 J (fun _ v w'=>∃(a8:OA) (c8:Nat),v=.agg #[U (dP cp x0.1 x0.2.1),sL a8 (bL cp fN x0.1 x0.2.1) c8]∧RV cM.nA w' (sL a8 (bL cp fN x0.1 x0.2.1) c8) (bL cp fN x0.1 x0.2.1)) 0 J J xL J (fun _ _ _ _ _ h_=>let ⟨a9,c9,eE,mZ⟩:=h_;xt rfl eE rfl ⟨_,J,Ext.refl _,⟨a9,c9,J,mZ⟩⟩)<|O7 J (X:=U (iH cp x0.1 x0.2.1)) 1 J J (fun _ _ _ _ _ h_=>let ⟨pI,pF,fc,qM⟩:=h_;xt rfl fc rfl e1)<|ye<|yz ?_
   intro jf f2 _ lh _ _ cI ji
   have kY:=cM.ext lh
   have fJ:=(cI 1 J).trans s6
   have fw:=(cI 4 J).trans s7
   have fX:=(cI 9 J).trans s8
   have gF:=(cI 10 J).trans s9
   have gL:=(cI 11 J).trans ey
   obtain⟨a12,qH,gE,rz⟩:=ji 0 _ _ rfl
   let J7:=iL a12 (bL cp fN x0.1 x0.2.1) qH
   have kt:=kY.put (it:=J7) J rz
   refine vT<|cz kt 3 J bh J J fX gE J J J ?_
   let J8:=oL w 79 a2 (bP I fo (I.length:Int) (bw I fo) I.length) c2
   let J9:=box dI #[U (dP cp x0.1 x0.2.1),sL a12 (bL cp fN x0.1 x0.2.1) qH] 68
   intro ju (lJ:HI M w ju (J7::iL a3 fN c3::J8::J9::J6::J5::dv))
   refine kz<|aF<|nx<|rg<|ak J gL<|k<|add J J J J aY<|aj (v:=U ((q_:Int)+1)) J J<|z ?_
   have kH:=lJ.put (it:=J7) J<|lJ.rv 0 J
   have rn:HI M w ju (J7::J8::J9::J6::J5::dv):=kH.c_ [0,3,4,5,6,7,8,9,10,11] aJ J
   refine bD _ ?_ ⟨(q_+1),(dP cp x0.1 x0.2.1),(bL cp fN x0.1 x0.2.1),a12,qH,J,fJ,fw,fX,gF,(bJ J),rn,ai,(by exact CY nH aq (by exact tC _ (eh aq)))⟩
   omega
  have p6:=dF b6
  refine ex<|bg<|bt<|bz<|nx<|sq ?_
  have px:=sm ai J Cl tC nH
  have afE:bU cp fN=MM I fo:=by rw[nH.1,nH.2,alU ai];exact Uw eT oC rfl
  refine rg<|ak J s6<|k<|cg cM 2 J bh J s8 aJ J<|k ?_
  have gS:=qV (mn:=cp) (mr:=fN) cM.mb aY (cM.rv 0 J)<|by exact px
  refine ca JU J (ec J e0) gS ?_
  rintro _ jb ⟨a4,c4,rfl,iJ,gh⟩
  have fR:=cM.ext iJ
  have eY:=cj fR gh
  refine k ?_
  have nB:=Cn (kd:=kd) (mn:=cp) (mr:=(bU cp fN)) eY.mb jm aY (eY.rv 0 J)<|by exact sH px
  refine ca aaZ J (ec J<|ec J e0) nB ?_
  rintro _ iK ⟨o0,o1,o2,o3,o4,o5,o6,rfl,je,q0⟩
  have fg:=eY.ext je
  refine k<|xt J J J<|k<|xt J J J<|k<|cz fg 7 J cu J J s7 J J J J ?_
  intro jf (gz:HI M w jf [iL a4 (bU cp fN) c4,iL a3 fN c3,oL w 79 a2 (bP I fo (I.length:Int) (bw I fo) I.length) c2,box dI #[U cp,sL a3 fN c3] 68,J6,J5,J4,box aW #[U o0,U o1,U o2,U o3,U o4,.slice none 0 0,U o5,U o6] 25,J2,J1,J0])
  refine aj (v:=.bool ((m_ cp (bU cp fN) kd).isSome)) J J<|aG<|rt<|bM<|aS ?_
  have ug:fT I fo kd=m_ cp (bU cp fN) kd:=by rw[alT ‹decide (kd=5)=true›];exact YG.trans (by rw[afE,nH.1])
  refine iS gz 7 J cu J J J s7 J aJ ?_
  have e8:((m_ cp (bU cp fN) kd).isSome:Bool)=(fT I fo kd).isSome:=by rw[ug]
  have bF:=fu (fun (ku:Bool)=>(.tuple #[.agg #[U o0,U o1,U o2,U o3,U o4,.slice none 0 0,U o5,U o6],.bool ku]:Value)) e8
  exact⟨o0,o1,o2,o3,o4,o5,o6,bF,gz.below,(by rw[ug];assumption)⟩
 refine sk<|aF<|dM<|k<|cg H9 4 J dn J s1 aJ J<|k<|cg H9 1 J bh J s3 aJ J<|ak J s0<|k ?_
 have eF:=NA (I:=I) (fo:=fo) (mn:=(I.length:Int)) (mr:=(bw I fo)) (kd:=kd) (aC:=aC) (aE:=aE) (aB:=aB) H9.mb (H9.rv 6 J) (H9.rv 5 J) aY (H9.rv 2 J) jm (by exact ho) (by exact cT) (by exact eT) (by exact ln) (by rfl) (by rfl)<|by exact oC
 refine ca agb J (ec J<|ec J<|ec J e0) eF ?_
 rintro _ w6 ⟨o0,o1,o2,o3,o4,o5,o6,rfl,eI,q0⟩
 have db:=H9.ext eI
 refine k<|xt J J J<|k<|xt J J J<|k<|cz db 3 J cu J J s2 J J J J ?_
 intro w7 (da:HI M w w7 [oL w 3 a1 gi c1,J5,J4,box aW #[U o0,U o1,U o2,U o3,U o4,.slice none 0 0,U o5,U o6] 25,J2,J1,J0])
 refine aj (v:=.bool ((kR I fo kd).isSome)) J J<|aG<|rt ?_
 have ug:fT I fo kd=kR I fo kd:=W6<|by have VL:=al3 ‹decide (kd=1)=false›;have wm:=al3 ‹decide (kd=2)=false›;have VK:=al3 ‹decide (kd=3)=false›;have CE:=al3 ‹decide (kd=4)=false›;have h5_:=al3 ‹decide (kd=5)=false›;omega
 refine iS da 3 J cu J J J s2 J aJ ?_
 have e8:((kR I fo kd).isSome:Bool)=(fT I fo kd).isSome:=by rw[ug]
 have bF:=fu (fun (ku:Bool)=>(.tuple #[.agg #[U o0,U o1,U o2,U o3,U o4,.slice none 0 0,U o5,U o6],.bool ku]:Value)) e8
 exact⟨o0,o1,o2,o3,o4,o5,o6,bF,da.below,(by rw[ug];assumption)⟩
theorem um:jt aX 25 0 0:=mu Tryz.underlying25
theorem nw:jt aX 25 6 6:=mu Tryz.underlying25
theorem uk:jt aX 25 7 7:=mu Tryz.underlying25
theorem mY:aX.underlying 23=some (.slice 92):=bu
theorem iQ:fA aX 92 5 true 40 (.agg #[.int .i64 0,.int .i64 0,.int .i64 0,.int .i64 0,.int .i64 0]):=⟨bu,bu⟩
theorem rl:jt aX 92 1 1:=mu Tryz.underlying92
theorem oZ:jt aX 92 2 2:=mu Tryz.underlying92
theorem Bt:jt aX 92 0 0:=mu Tryz.underlying92
theorem yS:jt aX 92 3 3:=mu Tryz.underlying92
theorem uj:jt aX 92 4 4:=mu Tryz.underlying92
theorem pa:jt aX 25 5 5:=mu Tryz.underlying25
theorem oI:fA aX 23 1 false 24 (.slice none 0 0):=⟨bu,bu⟩
theorem Lb (hM:ei M w) (xR:aN lv):Calls aX 55 #[U lv] w (cZ fun v w'=>∃(a0:OA) (c0:Nat),v=.slice a0 (gR lv).length c0∧Ext w w'∧bm M 3 w (gR lv) (.slice a0 (gR lv).length c0) w'):=by
 refine dK 13 Tryz.func55 J J J hM fun f0 ha H=>?_
 have i0:f0 0=U lv:=ha 0 bH
 refine aH<|aj (v:=.slice none 0 0) J J<|aG<|sq<|aH<|ak J i0<|aG<|bk<|aH<|k<|eql J J J J<|aj (v:=.bool (decide (lv=1))) J J<|z<|nx<|cd (b:=decide (lv=1)) J J (fun b0=>?_)<|fun b0=>?_
 ·
  refine aH<|k<|bs (xs:=([1,2,3,4]:az)) (cells:=#[U 1,U 2,U 3,U 4]) (e:=3) H J (ct J<|ct J<|ct J<|ct J eo) (fun _=>bu) ⟨[U 1],[U 2,U 3,U 4],J,⟨J,(show aN (1) from aY)⟩,⟨[U 2],[U 3,U 4],J,⟨J,(show aN (2) from aY)⟩,⟨[U 3],[U 4],J,⟨J,(show aN (3) from aY)⟩,⟨[U 4],[],J,⟨J,(show aN (4) from aY)⟩,J⟩⟩⟩⟩ J aJ ?_
  intro g0 w0 dt H0
  refine aj (v:=.slice (some ⟨g0,0,none⟩) 4 4) J J<|aG<|rt<|bM<|aS<|r1 J J ?_
  have e0:(([1,2,3,4]:az):az)=gR lv:=by simp only[gR,b0,BL]
  have l0:4=(gR lv).length:=by rw[←e0];simp
  have bF:=fu (fun (kW:Nat)=>(.slice (some ⟨g0,0,none⟩) kW 4:Value)) l0
  exact⟨(some ⟨g0,0,none⟩),4,bF,H0.below,(alB (fun (n_:Nat)=>bm _ _ _ (gR lv) (.slice (some ⟨g0,0,none⟩) n_ 4) _) l0).mp ((alB (fun (x_:az)=>bm _ _ _ x_ (.slice (some ⟨g0,0,none⟩) 4 4) _) e0).mp (H0.cB 0 J))⟩
 refine aH<|k<|eql J J J J<|aj (v:=.bool (decide (lv=2))) J J<|z<|nx<|cd (b:=decide (lv=2)) J J (fun b1=>?_)<|fun b1=>?_
 ·
  refine aH<|k<|bs (xs:=([1,2,3,4,5]:az)) (cells:=#[U 1,U 2,U 3,U 4,U 5]) (e:=3) H J (ct J<|ct J<|ct J<|ct J<|ct J eo) (fun _=>bu) ⟨[U 1],[U 2,U 3,U 4,U 5],J,⟨J,(show aN (1) from aY)⟩,⟨[U 2],[U 3,U 4,U 5],J,⟨J,(show aN (2) from aY)⟩,⟨[U 3],[U 4,U 5],J,⟨J,(show aN (3) from aY)⟩,⟨[U 4],[U 5],J,⟨J,(show aN (4) from aY)⟩,⟨[U 5],[],J,⟨J,(show aN (5) from aY)⟩,J⟩⟩⟩⟩⟩ J aJ ?_
  intro g0 w0 dt H0
  refine aj (v:=.slice (some ⟨g0,0,none⟩) 5 5) J J<|aG<|rt<|bM<|aS<|r1 J J ?_
  have e0:(([1,2,3,4,5]:az):az)=gR lv:=by simp only[gR,b0,b1,BL]
  have l0:5=(gR lv).length:=by rw[←e0];simp
  have bF:=fu (fun (kW:Nat)=>(.slice (some ⟨g0,0,none⟩) kW 5:Value)) l0
  exact⟨(some ⟨g0,0,none⟩),5,bF,H0.below,(alB (fun (n_:Nat)=>bm _ _ _ (gR lv) (.slice (some ⟨g0,0,none⟩) n_ 5) _) l0).mp ((alB (fun (x_:az)=>bm _ _ _ x_ (.slice (some ⟨g0,0,none⟩) 5 5) _) e0).mp (H0.cB 0 J))⟩
 refine aH<|k<|eql J J J J<|aj (v:=.bool (decide (lv=3))) J J<|z<|nx<|cd (b:=decide (lv=3)) J J (fun b2=>?_)<|fun b2=>?_
 ·
  refine aH<|k<|bs (xs:=([1,2,3,4,6,7]:az)) (cells:=#[U 1,U 2,U 3,U 4,U 6,U 7]) (e:=3) H J (ct J<|ct J<|ct J<|ct J<|ct J<|ct J eo) (fun _=>bu) ⟨[U 1],[U 2,U 3,U 4,U 6,U 7],J,⟨J,(show aN (1) from aY)⟩,⟨[U 2],[U 3,U 4,U 6,U 7],J,⟨J,(show aN (2) from aY)⟩,⟨[U 3],[U 4,U 6,U 7],J,⟨J,(show aN (3) from aY)⟩,⟨[U 4],[U 6,U 7],J,⟨J,(show aN (4) from aY)⟩,⟨[U 6],[U 7],J,⟨J,(show aN (6) from aY)⟩,⟨[U 7],[],J,⟨J,(show aN (7) from aY)⟩,J⟩⟩⟩⟩⟩⟩ J aJ ?_
  intro g0 w0 dt H0
  refine aj (v:=.slice (some ⟨g0,0,none⟩) 6 6) J J<|aG<|rt<|bM<|aS<|r1 J J ?_
  have e0:(([1,2,3,4,6,7]:az):az)=gR lv:=by simp only[gR,b0,b1,b2,BL]
  have l0:6=(gR lv).length:=by rw[←e0];simp
  have bF:=fu (fun (kW:Nat)=>(.slice (some ⟨g0,0,none⟩) kW 6:Value)) l0
  exact⟨(some ⟨g0,0,none⟩),6,bF,H0.below,(alB (fun (n_:Nat)=>bm _ _ _ (gR lv) (.slice (some ⟨g0,0,none⟩) n_ 6) _) l0).mp ((alB (fun (x_:az)=>bm _ _ _ x_ (.slice (some ⟨g0,0,none⟩) 6 6) _) e0).mp (H0.cB 0 J))⟩
 refine sk<|aF<|dM<|aj (v:=.slice none 0 0) J J<|aG<|rt<|r1 J J ?_
 have e0:([]:az)=gR lv:=by simp only[gR,b0,b1,b2,BL]
 have bF:=fu (fun (cK:az)=>(.slice none cK.length 0:Value)) e0
 exact⟨none,0,bF,H.below,(alB (fun (x_:az)=>bm _ _ _ x_ (.slice none x_.length 0) _) e0).mp (gQ H.below)⟩
theorem af6:dq aX 55:=dy Tryz.func55
theorem aa3:dq aX 13:=dy Tryz.func13
theorem NC (hM:ei M w) (cX:cP M w av au I) (fM:cP M w ax aw fo) (xR:aN lv) (ho:et I) (cT:I.length≤64) (eT:fo.length=I.length) (ln:∀x∈fo,x<((I.length:Nat):Int)) (Z2:lv=1∨lv=2∨lv=3) (oC:nD I fo):Calls aX 28 #[.agg #[.slice aC aE aB,sL av I au,sL ax fo aw],U lv] w (cZ fun v w'=>∃(k_:Int) (r_:Int) (a_:Int) (b_:Int) (o_:Int) (f_:Int) (s_:Int),v=.tuple #[.agg #[U k_,U r_,U a_,U b_,U o_,.slice none 0 0,U f_,U s_],U (iX I fo lv)]∧Ext w w'∧oE (nz I fo lv) k_ r_ a_ b_ o_):=by
 refine dK 34 Tryz.func28 J J J hM fun f0 ha H=>?_
 let J0:=iL av I au
 have H0:=H.put (it:=J0) J<|by rw[dY];exact cX
 let J1:=iL ax fo aw
 have H1:=H0.put (it:=J1) J<|by rw[bp rfl,dY];exact fM
 have iT:=bN cX
 have nn:=bN fM
 have i0:f0 0=.agg #[.slice aC aE aB,sL av I au,sL ax fo aw]:=ha 0 bH
 have i1:f0 1=U lv:=ha 1 bH
 have xQ:gR lv=ez lv:=QN lv
 have afz:=QO (lv:=lv)
 rw[←xQ] at afz
 have Dl:1≤(gR lv).length:=by rw[xQ];exact List.length_pos_iff.2 (Tz Z2)
 refine aH<|k<|bx H1 J i0 ?_
 intro aK w0 dt (H2:HI M w w0 [box aK #[.slice aC aE aB,sL av I au,sL ax fo aw] 32,J1,J0])
 let J2:=box aK #[.slice aC aE aB,sL av I au,sL ax fo aw] 32
 refine k<|al H2 cu ?_
 let bC:=[J2,J1,J0]
 intro aW w1 cR (H3:HI M w w1 (box aW #[U 0,U 0,U 0,U 0,U 0,.slice none 0 0,U 0,U 0] 25::bC))
 let J3:=box aW #[U 0,U 0,U 0,U 0,U 0,.slice none 0 0,U 0,U 0] 25
 refine aj (v:=U 0) J J<|cU<|ak J i1<|k ?_
 have cx:=Lb (lv:=lv) H3.mb xR
 refine ca af6 J (ec J e0) cx ?_
 rintro _ w2 ⟨a0,c0,rfl,d_,cL⟩
 have H4:=H3.ic cL
 refine aj (v:=sL a0 (gR lv) c0) J J<|aG<|sq<|aH<|ak (v:=sL a0 (gR lv) c0) J J<|k<|ep J J cY<|k<|eql J J J J<|aG<|l7 J J (alH ai)<|sk<|nx<|sq<|aH<|aj (v:=U 0) J J<|aG<|bk ?_
 let J4:=oL w 3 a0 (gR lv) c0
 refine lp (fun m f w'=>∃(j_:Nat),m=(gR lv).length-j_∧f 2=pV aK 0∧f 4=pV aW 0∧f 6=sL a0 (gR lv) c0∧f 7=U (j_:Int)∧HI M w w' (J4::J3::bC)∧(j_≤(gR lv).length)∧(∀y∈(gR lv).take j_,fT I fo y=none)) _ ⟨0,J,J,J,J,(bJ J),H4,ai,(by intro y h;simp at h)⟩ ?_
 rintro _ f0 w3 ⟨j_,rfl,s0,s1,s2,s3,H5,ra,hs⟩
 refine sq<|aH<|ak J s3<|ak J s2<|k<|ep J J cY<|k<|lss J J J J<|z<|nx<|cd (b:=decide ((j_:Int)<((gR lv).length:Int))) J J (fun b0=>?_)<|fun b0=>?_
 ·
  have p0:=dT b0
  refine sk<|nx<|sq<|bk<|sq<|EE [.r,.r,.r,.r,.r,.r,.r,.r,.s,.n,.e,.s] (fun _=>True) J bu (fun _ _=>trivial)<|yq J J<|kq (fun _ x_=>cg (H5.ext x_) 2 J dn J s0 aJ J e1)<|gC<|kq (fun _ _=>mv J s2 e1)<|gC<|kq (fun _ _=>mv J s3 e1)<|gC<|su (H5.at_ 0 J) J J J J ai cY aQ ?_
  intro fz x0 aq cN
  refine gC<|fV cN aQ J J ?_
  intro eQ
  refine zq<|yu J (fun _ v _=>∃(o0:Int) (o1:Int) (o2:Int) (o3:Int) (o4:Int) (o5:Int) (o6:Int),v=.tuple #[.agg #[U o0,U o1,U o2,U o3,U o4,.slice none 0 0,U o5,U o6],.bool ((fT I fo x0).isSome)]∧oE (fT I fo x0) o0 o1 o2 o3 o4) J mE J (fun v_ _ x_ n_=>have gS:=Gt (I:=I) (fo:=fo) (kd:=x0) (aC:=aC) (aE:=aE) (aB:=aB) (w:=v_) (gK H5.mb x_ n_) (j4 (H5.rv 4 J) x_ n_) (j4 (H5.rv 3 J) x_ n_) eQ (by exact ho) (by exact cT) (by exact eT) (by exact ln) (by exact oC) (by have aka:=vS (lv:=lv) (by rw[←xQ];exact eh aq);omega);ca aa3 rfl (ec J<|ec J e0) gS (fun _ w5 ⟨o7,o8,o9,L2,lE,L1,L0,e_,eI,q1⟩=>⟨_,J,eI,⟨o7,o8,o9,L2,lE,L1,L0,e_,q1⟩⟩))<|z1 J (fun _ v _=>∃(IV:Int) (Va:Int) (Qr:Int) (Qq:Int) (Qp:Int) (U_:Int) (U9:Int),v=.tuple #[.agg #[U IV,U Va,U Qr,U Qq,U Qp,.slice none 0 0,U U_,U U9],.bool ((fT I fo x0).isSome)]∧oE (fT I fo x0) IV Va Qr Qq Qp) 0 J J mE J (fun _ _ _ _ _ h_=>let ⟨Y7,Y6,Y5,Y4,Y3,Y2,Y1,s4,q3⟩:=h_;mv rfl s4 ⟨_,J,Ext.refl _,⟨Y7,Y6,Y5,Y4,Y3,Y2,Y1,J,q3⟩⟩)<|z1 J (fun _ v _=>∃(U7:Int) (U6:Int) (Qo:Int) (Qn:Int) (Qm:Int) (U5:Int) (U4:Int),v=.agg #[U U7,U U6,U Qo,U Qn,U Qm,.slice none 0 0,U U5,U U4]∧oE (fT I fo x0) U7 U6 Qo Qn Qm) 0 J J mE J (fun _ _ _ _ _ h_=>let ⟨Y0,YZ,YY,YX,YW,YV,YU,s5,q5⟩:=h_;xt rfl s5 rfl ⟨_,J,Ext.refl _,⟨Y0,YZ,YY,YX,YW,YV,YU,J,q5⟩⟩)<|O7 J (X:=.bool ((fT I fo x0).isSome)) 1 J J (fun _ _ _ _ _ h_=>let ⟨o49,o50,o51,o52,o53,o54,o55,s6,q7⟩:=h_;xt rfl s6 rfl e1)<|yn (z:=#[U 0,U 0,U 0,U 0,U 0,.slice none 0 0,U 0,U 0]) J J (fun _=>alZ cu)<|ye<|yq J J<|kq (fun _ _=>gH (v:=.bool ((fT I fo x0).isSome)) J J e1)<|zq<|yz ?_
  intro w6 f1 _ ly _ _ cI ji
  obtain⟨dI,s7,qG,oY,Q1⟩:=ji 0 _ _ rfl
  have uf:=bz1 (z:=#[U 0,U 0,U 0,U 0,U 0,.slice none 0 0,U 0,U 0]) (T:=25) qG oY Q1<|bz0
  have H9:HI M w w6 (box dI #[U 0,U 0,U 0,U 0,U 0,.slice none 0 0,U 0,U 0] 25::J4::J3::bC):=H5.Of ly uf<|Zc Za Zd
  have s8:=(cI 2 J).trans s0
  have s9:=(cI 4 J).trans s1
  have ey:=(cI 6 J).trans s2
  have ew:=(cI 7 J).trans s3
  have eE:=cI 9 J
  obtain⟨Ql,Qk,Cv,Cu,Ct,Cs,LZ,fc,q8⟩:=ji 1 _ _ rfl
  refine vT<|cz H9 0 J cu J J s7 fc J J J ?_
  let J5:=box dI #[U Ql,U Qk,U Cv,U Cu,U Ct,.slice none 0 0,U Cs,U LZ] 25
  intro w7 (db:HI M w w7 (J5::J4::J3::bC))
  refine kz<|dM<|ak J eE<|z<|nx<|cd (b:=(fT I fo x0).isSome) J J (fun b1=>?_)<|fun b1=>?_
  ·
   refine aH<|k<|cg db 0 J cu J s7 aJ J<|k<|cz db 2 J cu J J s9 J J J J ?_
   intro w8 (da:HI M w w8 (J5::J4::box aW #[U Ql,U Qk,U Cv,U Cu,U Ct,.slice none 0 0,U Cs,U LZ] 25::bC))
   refine aj (v:=U 0) J J<|aG<|rt<|bM<|aS<|gb<|bM<|aS ?_
   have pz:=YE (xQ▸hs) (by rw[←xQ];exact aq) J ‹(fT I fo x0).isSome=true›
   refine iS da 2 J cu J J J s9 J aJ ?_
   have e8:(0:Int)=iX I fo lv:=by exact Uu pz ‹_›
   have bF:=fu (fun (ku:Int)=>(.tuple #[.agg #[U Ql,U Qk,U Cv,U Cu,U Ct,.slice none 0 0,U Cs,U LZ],U ku]:Value)) e8
   exact⟨Ql,Qk,Cv,Cu,Ct,Cs,LZ,bF,da.below,(by exact Yc pz cG)⟩
  refine sk<|aF<|nx<|rg<|ak J ew<|k<|add J J J J aY<|aj (v:=U ((j_:Int)+1)) J J<|z ?_
  have da:HI M w w7 (J4::J3::bC):=db.c_ [1,2,3,4,5] aJ J
  refine bD _ ?_ ⟨(j_+1),J,s8,s9,ey,(bJ J),da,ai,(by have h_:=acE (xQ▸hs) (by rw[←xQ];exact aq) rfl ‹(fT I fo x0).isSome=false›;rw[xQ];exact h_)⟩
  omega
 have p0:=dF b0
 refine ex<|bg<|bt<|bz<|dM<|k<|bd (v:=.agg #[U 0,U 0,U 0,U 0,U 0,.slice none 0 0,U 0,U 0]) J eo (fun _=>bu)<|k<|cz H5 1 J cu J J s1 J J J J ?_
 intro w4 (H6:HI M w w4 (J4::J3::bC))
 refine aj (v:=U 8) J J<|aG<|rt ?_
 have pz:=WY (I:=I) (fo:=fo) (xQ▸hs)<|by rw[←xQ];omega
 refine iS H6 1 J cu J J J s1 J aJ ?_
 have e8:(8:Int)=iX I fo lv:=by exact XX pz
 have bF:=fu (fun (ku:Int)=>(.tuple #[.agg #[U 0,U 0,U 0,U 0,U 0,.slice none 0 0,U 0,U 0],U ku]:Value)) e8
 exact⟨0,0,0,0,0,0,0,bF,H6.below,(by exact ve pz wi0)⟩
theorem af9:dq aX 43:=dy Tryz.func43
theorem Yi:aX.underlying 4=some (.bool):=bu
theorem adv:dq aX 109:=dy Tryz.func109
theorem adu:dq aX 110:=dy Tryz.func110
theorem QS (hM:ei M w) (va:cP M w nS nR gi) (VF:aN lj):Calls aX 43 #[sL nS gi nR,U lj] w (cZ fun v w'=>v=U (gx (fun (z_:Int)=>decide (lj=z_)) gi)∧Ext w w'):=by
 refine dK 19 Tryz.func43 J J J hM fun f0 ha H=>?_
 have H0:=cj H va
 have Zi:=bN va
 have i0:f0 0=sL nS gi nR:=ha 0 bH
 have i1:f0 1=U lj:=ha 1 bH
 refine aH<|aj (v:=U 0) J J<|aG<|sq<|aH<|ak J i0<|k<|ep J J cY<|ak (v:=U 0) J J<|aG<|bk<|lp (fun m f w'=>∃(j_:Nat),m=gi.length-j_∧f 0=sL nS gi nR∧f 1=U lj∧f 7=U (gi.length:Int)∧f 8=U (j_:Int)∧HI M w w' [iL nS gi nR]∧(j_≤gi.length)∧((gi.take j_).any (fun (z_:Int)=>decide (lj=z_))=false)) _ ⟨0,J,i0,i1,J,(bJ J),H0,ai,bH⟩ ?_
 rintro _ f0 w0 ⟨j_,rfl,s0,s1,s2,s3,H1,ra,hs⟩
 refine aH<|k<|lss J J s3 s2<|aG<|sq<|cd (b:=decide ((j_:Int)<(gi.length:Int))) J J (fun b0=>?_)<|fun b0=>?_
 ·
  have p0:=dT b0
  refine sk<|nx<|sq<|bk<|aH<|ak J s3<|aj (v:=U (j_:Int)) J J<|cU<|ak J s1<|ak J s0<|ak (v:=U (j_:Int)) J J<|k<|ia (H1.rv 0 J) J J J J ai cY aQ ?_
  intro fz x0 aq cN
  refine k<|kB cN.w aQ J J ?_
  intro cL
  refine k<|eql J J J J<|z<|nx<|cd (b:=decide (lj=x0)) J J (fun b1=>?_)<|fun b1=>?_
  ·
   refine aH<|ak (v:=U (j_:Int)) J J<|aj (v:=U (j_:Int)) J J<|aG<|rt<|bM<|aS<|gb<|bM<|aS<|r1 J J ?_
   exact⟨alB (Value.int .i64) (by exact pY (p:=(fun (z_:Int)=>decide (lj=z_))) aq hs b1),H1.below⟩
  have p1:=dF b1
  refine sk<|aF<|nx<|rg<|k<|add J J s3 J aY<|ak (v:=U ((j_:Int)+1)) J J<|z<|bD _ ?_ ⟨(j_+1),J,s0,s1,s2,(bJ J),H1,ai,(by exact kF aq hs b1)⟩
  omega
 have p0:=dF b0
 refine ex<|bg<|bt<|bz<|dM<|aj (v:=U (-1)) J J<|aG<|rt<|r1 J J ?_
 exact⟨alB (Value.int .i64) (by exact rW hs ai),H1.below⟩
theorem qg (hM:ei M w) (va:cP M w nS nR gi) (VF:aN lj):Calls aX 19 #[sL nS gi nR,U lj] w (cZ fun v w'=>v=.bool (gi.any (fun (z_:Int)=>decide (lj=z_)))∧Ext w w'):=by
 refine dK 9 Tryz.func19 J J J hM fun f0 ha H=>?_
 have H0:=cj H va
 have i0:f0 0=sL nS gi nR:=ha 0 bH
 have i1:f0 1=U lj:=ha 1 bH
 refine aH<|aj (v:=.bool false) J J<|cU<|ak J i0<|ak J i1<|k ?_
 have cx:=QS (gi:=gi) (lj:=lj) H0.mb (H0.rv 0 J) VF
 refine ca af9 J (ec J<|ec J e0) cx ?_
 rintro _ w0 ⟨rfl,dt⟩
 have H1:=H0.ext dt
 refine k<|geq J J J J<|aj (v:=.bool (decide (0≤(gx (fun (z_:Int)=>decide (lj=z_)) gi)))) J J<|aG<|rt<|r1 J J ?_
 exact⟨alB Value.bool (by exact rC),H1.below⟩
theorem Oi {gi:List Bool} {lj:Bool} (hM:ei M w) (va:cP M w nS nR gi):Calls aX 109 #[sL nS gi nR,.bool lj] w (cZ fun v w'=>v=U (gx (fun (z_:Bool)=>lj==z_) gi)∧Ext w w'):=by
 refine dK 19 Tryz.func109 J J J hM fun f0 ha H=>?_
 have H0:=cj H va
 have Zi:=bN va
 have i0:f0 0=sL nS gi nR:=ha 0 bH
 have i1:f0 1=.bool lj:=ha 1 bH
 refine aH<|aj (v:=U 0) J J<|aG<|sq<|aH<|ak J i0<|k<|ep J J xF<|ak (v:=U 0) J J<|aG<|bk<|lp (fun m f w'=>∃(j_:Nat),m=gi.length-j_∧f 0=sL nS gi nR∧f 1=.bool lj∧f 7=U (gi.length:Int)∧f 8=U (j_:Int)∧HI M w w' [iL nS gi nR]∧(j_≤gi.length)∧((gi.take j_).any (fun (z_:Bool)=>lj==z_)=false)) _ ⟨0,J,i0,i1,J,(bJ J),H0,ai,bH⟩ ?_
 rintro _ f0 w0 ⟨j_,rfl,s0,s1,s2,s3,H1,ra,hs⟩
 refine aH<|k<|lss J J s3 s2<|aG<|sq<|cd (b:=decide ((j_:Int)<(gi.length:Int))) J J (fun b0=>?_)<|fun b0=>?_
 ·
  have p0:=dT b0
  refine sk<|nx<|sq<|bk<|aH<|ak J s3<|aj (v:=U (j_:Int)) J J<|cU<|ak J s1<|ak J s0<|ak (v:=U (j_:Int)) J J<|k<|ia (H1.rv 0 J) J J J J ai xF mC ?_
  intro fz x0 aq cN
  refine k<|QK cN.w mC J J<|k<|eqB J J J J Yi<|z<|nx<|cd (b:=lj==x0) J J (fun b1=>?_)<|fun b1=>?_
  ·
   refine aH<|ak (v:=U (j_:Int)) J J<|aj (v:=U (j_:Int)) J J<|aG<|rt<|bM<|aS<|gb<|bM<|aS<|r1 J J ?_
   exact⟨alB (Value.int .i64) (by exact pY (p:=(fun (z_:Bool)=>lj==z_)) aq hs b1),H1.below⟩
  refine sk<|aF<|nx<|rg<|k<|add J J s3 J aY<|ak (v:=U ((j_:Int)+1)) J J<|z<|bD _ ?_ ⟨(j_+1),J,s0,s1,s2,(bJ J),H1,ai,(by exact kF aq hs b1)⟩
  omega
 have p0:=dF b0
 refine ex<|bg<|bt<|bz<|dM<|aj (v:=U (-1)) J J<|aG<|rt<|r1 J J ?_
 exact⟨alB (Value.int .i64) (by exact rW hs ai),H1.below⟩
theorem Hv {gi:List Bool} {lj:Bool} (hM:ei M w) (va:cP M w nS nR gi):Calls aX 85 #[sL nS gi nR,.bool lj] w (cZ fun v w'=>v=.bool (gi.any (fun (z_:Bool)=>lj==z_))∧Ext w w'):=by
 refine dK 9 Tryz.func85 J J J hM fun f0 ha H=>?_
 have H0:=cj H va
 have i0:f0 0=sL nS gi nR:=ha 0 bH
 have i1:f0 1=.bool lj:=ha 1 bH
 refine aH<|aj (v:=.bool false) J J<|cU<|ak J i0<|ak J i1<|k ?_
 have cx:=Oi (gi:=gi) (lj:=lj) H0.mb<|H0.rv 0 J
 refine ca adv J (ec J<|ec J e0) cx ?_
 rintro _ w0 ⟨rfl,dt⟩
 have H1:=H0.ext dt
 refine k<|geq J J J J<|aj (v:=.bool (decide (0≤(gx (fun (z_:Bool)=>lj==z_) gi)))) J J<|aG<|rt<|r1 J J ?_
 exact⟨alB Value.bool (by exact rC),H1.below⟩
theorem Fc {r:List aA} {p:aA→Bool} (hM:ei M w) (lR:cP M w gN gT r) (yP:FP aX rk rp M w r p):Calls aX 110 #[sL gN r gT,.func (.func rk) #[] rp.toArray] w (cZ fun v w'=>v=U (gx p r)∧Ext w w'):=by
 refine dK 19 Tryz.func110 J J J hM fun f0 ha H=>?_
 have H0:=cj H lR
 have zF:=bN lR
 have i0:f0 0=sL gN r gT:=ha 0 bH
 have i1:f0 1=.func (.func rk) #[] rp.toArray:=ha 1 bH
 refine aH<|aj (v:=U 0) J J<|aG<|sq<|aH<|ak J i0<|k<|ep J J mY<|ak (v:=U 0) J J<|aG<|bk<|lp (fun m f w'=>∃(j:Nat),m=r.length-j∧f 0=sL gN r gT∧f 1=.func (.func rk) #[] rp.toArray∧f 7=U (r.length:Int)∧f 8=U (j:Int)∧HI M w w' [iL gN r gT]∧(j≤r.length)∧((r.take j).any p=false)) _ ⟨0,J,i0,i1,J,(bJ J),H0,ai,bH⟩ ?_
 rintro _ f0 w0 ⟨j,rfl,s0,s1,s2,s3,H1,hk,hs⟩
 refine aH<|k<|lss J J s3 s2<|aG<|sq<|cd (b:=decide ((j:Int)<(r.length:Int))) J J (fun b0=>?_)<|fun b0=>?_
 ·
  have p0:=dT b0
  refine sk<|nx<|sq<|bk<|aH<|ak J s3<|aj (v:=U (j:Int)) J J<|cU<|ak J s1<|ak J s0<|ak (v:=U (j:Int)) J J<|k<|ia (H1.rv 0 J) J J J J ai mY iQ ?_
  intro fz x0 aq cN
  refine k<|vQ cN.w iQ J J ?_
  intro v0 cL
  obtain⟨_,⟨_,_,rfl,⟨rfl,eQ⟩,⟨_,_,rfl,⟨rfl,gh⟩,⟨_,_,rfl,⟨rfl,fQ⟩,⟨_,_,rfl,⟨rfl,gG⟩,⟨rfl,gl⟩⟩⟩⟩⟩,rfl⟩:=cL
  refine k<|cf yP.1 J J J (ec J e0) (yP.2 _ _ _ (by exact eh ‹_›) H1.below<|RV.lift (v:=.agg #[U x0.1,U x0.2.1,U x0.2.2.1,U x0.2.2.2.1,U x0.2.2.2.2]) (x:=((x0.1,x0.2.1,x0.2.2.1,x0.2.2.2.1,x0.2.2.2.2):aA)) ⟨_,⟨_,_,J,⟨J,(show aN (x0.1) from aY)⟩,⟨_,_,J,⟨J,(show aN (x0.2.1) from aY)⟩,⟨_,_,J,⟨J,(show aN (x0.2.2.1) from aY)⟩,⟨_,_,J,⟨J,(show aN (x0.2.2.2.1) from aY)⟩,⟨J,(show aN (x0.2.2.2.2) from aY)⟩⟩⟩⟩⟩,J⟩ H1.out) ?_
  rintro _ w1 ⟨rfl,dt⟩
  have H2:=H1.ext dt
  refine z<|nx<|cd (b:=p (x0.1,x0.2.1,x0.2.2.1,x0.2.2.2.1,x0.2.2.2.2)) J J (fun b1=>?_)<|fun b1=>?_
  ·
   refine aH<|ak (v:=U (j:Int)) J J<|aj (v:=U (j:Int)) J J<|aG<|rt<|bM<|aS<|gb<|bM<|aS<|r1 J J ?_
   exact⟨alB (Value.int .i64) (by exact pY aq hs b1),H2.below⟩
  refine sk<|aF<|nx<|rg<|k<|add J J s3 J aY<|ak (v:=U ((j:Int)+1)) J J<|z<|bD _ ?_ ⟨(j+1),J,s0,s1,s2,(bJ J),H2,ai,(by exact kF aq hs b1)⟩
  omega
 have p0:=dF b0
 refine ex<|bg<|bt<|bz<|dM<|aj (v:=U (-1)) J J<|aG<|rt<|r1 J J ?_
 exact⟨alB (Value.int .i64) (by exact rW hs ai),H1.below⟩
theorem uX {r:List aA} {p:aA→Bool} (hM:ei M w) (lR:cP M w gN gT r) (yP:FP aX rk rp M w r p):Calls aX 86 #[sL gN r gT,.func (.func rk) #[] rp.toArray] w (cZ fun v w'=>v=.bool (r.any p)∧Ext w w'):=by
 refine dK 9 Tryz.func86 J J J hM fun f0 ha H=>?_
 have H0:=cj H lR
 have i0:f0 0=sL gN r gT:=ha 0 bH
 have i1:f0 1=.func (.func rk) #[] rp.toArray:=ha 1 bH
 refine aH<|aj (v:=.bool false) J J<|cU<|ak J i0<|ak J i1<|k ?_
 have cx:=Fc (r:=r) (p:=p) H0.mb (H0.rv 0 J)<|yP.sub H0.below Si
 refine ca adu J (ec J<|ec J e0) cx ?_
 rintro _ w0 ⟨rfl,dt⟩
 have H1:=H0.ext dt
 refine k<|geq J J J J<|aj (v:=.bool (decide (0≤(gx p r)))) J J<|aG<|rt<|r1 J J ?_
 exact⟨alB Value.bool (by exact rC),H1.below⟩
theorem VT:dq aX 103:=dy Tryz.func103
theorem DX (hM:ei M w) (rj:cP M w dO dN l) (tA:aN n1) (wj:aN n2):Calls aX 103 #[sL dO l dN,U n1,U n2] w (cZ fun v w'=>v=U (iR l n1 n2)∧Ext w w'):=by
 refine dK 39 Tryz.func103 J J J hM fun f0 ha H=>?_
 have H0:=cj H rj
 have xM:=bN rj
 have i0:f0 0=sL dO l dN:=ha 0 bH
 have i1:f0 1=U n1:=ha 1 bH
 have i2:f0 2=U n2:=ha 2 bH
 refine aH<|aj (v:=U 0) J J<|aG<|sq<|aH<|aj (v:=U 0) J J<|aG<|bk<|lp (fun m f w'=>∃(j_:Nat),m=l.length-j_∧f 0=sL dO l dN∧f 1=U n1∧f 2=U n2∧f 7=U (j_:Int)∧HI M w w' [iL dO l dN]∧(j_≤l.length)∧((l.take j_).any (qQ n1 n2)=false)) _ ⟨0,J,i0,i1,i2,(bJ J),H0,ai,(by rfl)⟩ ?_
 rintro _ f0 w0 ⟨j_,rfl,s0,s1,s2,s3,H1,ra,hs⟩
 refine sq<|aH<|ak J s3<|ak J s0<|k<|ep J J mY<|k<|lss J J J J<|z<|nx<|cd (b:=decide ((j_:Int)<(l.length:Int))) J J (fun b0=>?_)<|fun b0=>?_
 ·
  have p0:=dT b0
  refine sk<|nx<|sq<|bk<|aH<|ak J s0<|ak J s3<|k<|ia (H1.rv 0 J) J J J J ai mY iQ ?_
  intro fz x0 aq cN
  refine bo Bt J J<|k<|kB (cN).fst.w aQ J J ?_
  intro cL
  refine k<|eql J J J J<|ak (v:=.bool (decide (x0.1=4))) J J ?_
  rcases bE (decide (x0.1=4)) with b1|b1
  ·
   have p1:=dT b1
   refine aM J J J b1<|mv J s0<|aM J J J b1<|mv J s3<|aM J J J b1<|ia (H1.rv 0 J) J J J J ai mY iQ ?_
   intro iG x1 cw eU
   obtain rfl:x0=x1:=alD (aq.symm.trans cw)
   refine aM J J J b1<|fa rl J J<|aM J J J b1<|kB ((eU).s1).fst.w aQ J J ?_
   intro eQ
   refine aM J J J b1<|mv J s1<|aM J J J b1<|eql J J J J<|k<|ba J J J J b1 J<|ak (v:=.bool (decide (x0.2.1=n1))) J J ?_
   rcases bE (decide (x0.2.1=n1)) with b2|b2
   ·
    have p2:=dT b2
    refine aM J J J b2<|mv J s0<|aM J J J b2<|mv J s3<|aM J J J b2<|ia (H1.rv 0 J) J J J J ai mY iQ ?_
    intro kX x2 dR gJ
    obtain rfl:x0=x2:=alD (aq.symm.trans dR)
    refine aM J J J b2<|fa oZ J J<|aM J J J b2<|kB ((gJ).s2).fst.w aQ J J ?_
    intro gh
    refine aM J J J b2<|mv J s2<|aM J J J b2<|eql J J J J<|k<|ba J J J J b2 J<|z<|nx<|cd (b:=decide (x0.2.2.1=n2)) J J (fun b3=>?_)<|fun b3=>?_
    ·
     refine aH<|ak J s3<|aj (v:=U (j_:Int)) J J<|aG<|rt<|bM<|aS<|gb<|bM<|aS<|r1 J J ?_
     exact⟨alB (Value.int .i64) (by exact SZ aq hs (by simp only[qQ,b0,b1,b2,b3,BL])),H1.below⟩
    have p3:=dF b3
    refine sk<|aF<|nx<|rg<|ak J s3<|k<|add J J J J aY<|aj (v:=U ((j_:Int)+1)) J J<|z<|bD _ ?_ ⟨(j_+1),J,s0,s1,s2,(bJ J),H1,ai,(by exact kF aq hs (by simp only[qQ,b0,b1,b2,b3,BL]))⟩
    omega
   have p2:=dF b2
   refine aD J J J b2<|aD J J J b2<|aD J J J b2<|aD J J J b2<|aD J J J b2<|aD J J J b2<|aD J J J b2<|k<|bc J J J J b2 J<|aG<|l7 J J J<|sk<|aF<|nx<|rg<|ak J s3<|k<|add J J J J aY<|aj (v:=U ((j_:Int)+1)) J J<|z<|bD _ ?_ ⟨(j_+1),J,s0,s1,s2,(bJ J),H1,ai,(by exact kF aq hs (by simp only[qQ,b0,b1,b2,BL]))⟩
   omega
  have p1:=dF b1
  refine aD J J J b1<|aD J J J b1<|aD J J J b1<|aD J J J b1<|aD J J J b1<|aD J J J b1<|aD J J J b1<|k<|bc J J J J b1 J<|ak (v:=.bool false) J J<|aD J J J J<|aD J J J J<|aD J J J J<|aD J J J J<|aD J J J J<|aD J J J J<|aD J J J J<|k<|bc J J J J J J<|aG<|l7 J J J<|sk<|aF<|nx<|rg<|ak J s3<|k<|add J J J J aY<|aj (v:=U ((j_:Int)+1)) J J<|z<|bD _ ?_ ⟨(j_+1),J,s0,s1,s2,(bJ J),H1,ai,(by exact kF aq hs (by simp only[qQ,b0,b1,BL]))⟩
  omega
 have p0:=dF b0
 refine ex<|bg<|bt<|bz<|dM<|aj (v:=U (-1)) J J<|aG<|rt<|r1 J J ?_
 exact⟨alB (Value.int .i64) (by exact S0 hs ai),H1.below⟩
theorem DY {r:List Go.Ew.Item} (tA:aN n1) (wj:aN n2) (ho:et I) (eT:fo.length=I.length) (cT:I.length≤64) (A9:0≤n1∧n1<((I.length:Nat):Int)) (afq:0≤n2∧n2<((I.length:Nat):Int)) (jG:l.length≤100000000) (H:HI M w w_ ([iL av I au,iL ax fo aw,oL w 92 dO l dN]++r)):Calls aX 119 #[.agg #[.slice aC aE aB,sL av I au,sL ax fo aw],sL dO l dN,U n1,U n2] w_ (cZ fun v w'=>∃(wN:OA) (wH:Nat),v=.tuple #[.slice wN ((dg I fo l n1 n2).1).length wH,U ((dg I fo l n1 n2).2)]∧HI M w w' ([iL av I au,iL ax fo aw,oL w 92 wN ((dg I fo l n1 n2).1) wH]++r)):=by
 refine enter 47 Tryz.func119 J J J fun f0 ha=>?_
 have iT:=bN<|H.rv 0 J
 have nn:=bN<|H.rv 1 J
 have xM:=oM<|H.at_ 2 J
 have i0:f0 0=.agg #[.slice aC aE aB,sL av I au,sL ax fo aw]:=ha 0 bH
 have i1:f0 1=sL dO l dN:=ha 1 bH
 have i2:f0 2=U n1:=ha 2 bH
 have i3:f0 3=U n2:=ha 3 bH
 refine aH<|k<|bx H J i0 ?_
 let J1:=iL av I au
 let J2:=iL ax fo aw
 let J3:=oL w 92 dO l dN
 let bC:=[J1,J2,J3]
 intro aK w0 dt (H0:HI M w w0 ((box aK #[.slice aC aE aB,sL av I au,sL ax fo aw] 32::bC)++r))
 let J0:=box aK #[.slice aC aE aB,sL av I au,sL ax fo aw] 32
 refine aj (v:=.slice none 0 0) J J<|aj (v:=U 0) J J<|aG<|sq<|aH<|bo kD J J<|bR H0 0 J lA J J J<|ak J i3<|k<|ia (H0.rv 2 J) J J J J ai cY aQ ?_
 intro fz x0 aq cN
 refine k<|kB cN.w aQ J J ?_
 intro cL
 refine ak J i2<|k<|neq J J J J<|ak (v:=.bool (!decide (x0=n1))) J J ?_
 rcases bE (!decide (x0=n1)) with b0|b0
 ·
  have p0:=dF<|fE b0
  refine aM J J J b0<|cg H0 0 J dn J J aJ J<|aM J J J b0<|mv J i2<|aM J J J b0<|mv J i3<|aM J J J b0 ?_
  have cx:=xH (I:=I) (i:=n1) (j:=n2) (aC:=aC) (aE:=aE) (aB:=aB) (ax:=ax) (cH:=fo.length) (aw:=aw) H0.mb (H0.rv 1 J) tA wj
  refine ca T9 J (ec J<|ec J<|ec J e0) cx ?_
  rintro _ w1 ⟨rfl,cR⟩
  have H1:=H0.ext cR
  refine aM J J J b0<|kc J J<|k<|ba J J J J b0 J<|z<|nx<|cd (b:=!(sf I n1 n2)) J J (fun b1=>?_)<|fun b1=>?_
  ·
   refine aH<|ak J i1<|ak J i1<|ak J i2<|ak J i3<|k ?_
   have H2:=H1.freeze 3 J
   have eF:=DX (l:=l) (n1:=n1) (n2:=n2) H2.mb (H2.rv 3 J) tA wj
   refine ca VT J (ec J<|ec J<|ec J e0) eF ?_
   rintro _ w2 ⟨rfl,d_⟩
   have H4:=H1.ext d_
   refine aj (v:=sL dO l dN) J J<|aj (v:=U (iR l n1 n2)) J J<|aG<|rt<|aS<|r2 J J J ?_
   have H5:=HI.ba (l:=(J0::bC)) (l':=bC) (t:=r) H4 [1,2,3] aJ J J
   have e0:(iR l n1 n2:Int)=(dg I fo l n1 n2).2:=by (rw[MJ ho aq (fE b0) (fE b1)];done)
   have e1:(l:List _)=((dg I fo l n1 n2).1):=by (rw[MJ ho aq (fE b0) (fE b1)];done)
   try rw[←e0]
   try rw[←e1]
   refine⟨dO,dN,?_,?_⟩
   · first|rfl|simp only[e0,e1]|(simp only[alP])
   · first|exact H5|simpa +zetaDelta only[e0,e1,alP] using H5
  refine sk<|dM<|ak J i2<|ak J i3<|k<|bd (v:=.agg #[U 1,U n1,U n2,U (-1),U (-1)]) J (ct J<|ct J<|ct J<|ct J<|ct J eo) (fun _=>bu)<|k<|al H1 iQ ?_
  intro aW w2 d_ (H2:HI M w w2 ((box aW #[U 0,U 0,U 0,U 0,U 0] 92::J0::bC)++r))
  refine k<|cz H2 0 J iQ J J J J J J J ?_
  let J4:=box aW #[U 1,U n1,U n2,U (-1),U (-1)] 92
  intro w3 (H3:HI M w w3 ((J4::J0::bC)++r))
  refine aG<|sq<|aH<|bo kD J J<|bR H3 1 J lA J J J<|ak J i3<|k<|ia (H3.rv 3 J) J J J J ai cY aQ ?_
  intro iG x1 cw eU
  obtain rfl:x0=x1:=alD (aq.symm.trans cw)
  refine k<|kB eU.w aQ J J ?_
  intro eQ
  refine ak J i2<|k<|eql J J J J<|aG<|l7 J J (fE b0)<|sk<|dM<|ak J i1<|k<|cg H3 0 J iQ J J aJ J<|k<|bs (xs:=([(1,n1,n2,(-1),(-1))]:List aA)) (cells:=#[U 1,U n1,U n2,U (-1),U (-1)]) (e:=92) H3 J (ct J eo) (fun _=>bu) ⟨[U 1,U n1,U n2,U (-1),U (-1)],[],J,⟨_,_,J,⟨J,(show aN (1) from aY)⟩,⟨_,_,J,⟨J,tA⟩,⟨_,_,J,⟨J,wj⟩,⟨_,_,J,⟨J,(show aN ((-1)) from aY)⟩,⟨J,(show aN ((-1)) from aY)⟩⟩⟩⟩⟩,J⟩ J aJ ?_
  intro g0 w4 eG (H4:HI M w w4 ((own w.heap.size 92 (.slice (some ⟨g0,0,none⟩) 1 1) ([(1,n1,n2,(-1),(-1))]:List aA)::J4::J0::bC)++r))
  let J5:=own w.heap.size 92 (.slice (some ⟨g0,0,none⟩) 1 1) ([(1,n1,n2,(-1),(-1))]:List aA)
  refine k<|kE H4 5 J J J J J J (fD<|H4.at_ 0 J) mY iQ J (by simp;omega) J ?_
  intro a0 c0 w5 (H5:HI M w w5 ([J5,J4,J0,J1,J2,oL w 92 a0 (l++([(1,n1,n2,(-1),(-1))]:List aA)) c0]++r))
  let J6:=oL w 92 a0 (l++([(1,n1,n2,(-1),(-1))]:List aA)) c0
  refine ak J i1<|k<|ep J J mY<|aj (v:=sL a0 (l++([(1,n1,n2,(-1),(-1))]:List aA)) c0) J J<|aj (v:=U (l.length:Int)) J J<|aG<|rt<|r2 J J J ?_
  have H6:=HI.ba (l:=[J5,J4,J0,J1,J2,J6]) (l':=[J1,J2,J6]) (t:=r) H5 [3,4,5] aJ J J
  have e0:((l.length:Int):Int)=(dg I fo l n1 n2).2:=by (rw[MI ho aq (fE b0) (fF b1)];done)
  have e1:((l++([(1,n1,n2,(-1),(-1))]:List aA)):List _)=((dg I fo l n1 n2).1):=by (rw[MI ho aq (fE b0) (fF b1)];done)
  try rw[←e0]
  try rw[←e1]
  refine⟨a0,c0,?_,?_⟩
  · first|rfl|simp only[e0,e1]|(simp only[alP])
  · first|exact H6|simpa +zetaDelta only[e0,e1,alP] using H6
 have p0:=dT<|fF b0
 refine aD J J J b0<|aD J J J b0<|aD J J J b0<|aD J J J b0<|aD J J J b0<|k<|bc J J J J b0 J<|aG<|l7 J J J<|sk<|dM<|ak J i2<|ak J i3<|k<|bd (v:=.agg #[U 1,U n1,U n2,U (-1),U (-1)]) J (ct J<|ct J<|ct J<|ct J<|ct J eo) (fun _=>bu)<|k<|al H0 iQ ?_
 intro aW w1 cR (H1:HI M w w1 ((box aW #[U 0,U 0,U 0,U 0,U 0] 92::J0::bC)++r))
 refine k<|cz H1 0 J iQ J J J J J J J ?_
 intro w2 (H2:HI M w w2 ((box aW #[U 1,U n1,U n2,U (-1),U (-1)] 92::J0::bC)++r))
 refine aG<|sq<|aH<|bo kD J J<|bR H2 1 J lA J J J<|ak J i3<|k<|ia (H2.rv 3 J) J J J J ai cY aQ ?_
 intro iG x1 cw eU
 obtain rfl:x0=x1:=alD (aq.symm.trans cw)
 refine k<|kB eU.w aQ J J ?_
 intro eQ
 refine ak J i2<|k<|eql J J J J<|aG<|nP J J (fF b0)<|rg<|bo Bt J J<|k<|cz H2 0 J aQ J J J J J J J ?_
 let J7:=box aW #[U 2,U n1,U n2,U (-1),U (-1)] 92
 intro w3 (H3:HI M w w3 ((J7::J0::bC)++r))
 refine cU<|ak J i1<|k<|cg H3 0 J iQ J J aJ J<|k<|bs (xs:=([(2,n1,n2,(-1),(-1))]:List aA)) (cells:=#[U 2,U n1,U n2,U (-1),U (-1)]) (e:=92) H3 J (ct J eo) (fun _=>bu) ⟨[U 2,U n1,U n2,U (-1),U (-1)],[],J,⟨_,_,J,⟨J,(show aN (2) from aY)⟩,⟨_,_,J,⟨J,tA⟩,⟨_,_,J,⟨J,wj⟩,⟨_,_,J,⟨J,(show aN ((-1)) from aY)⟩,⟨J,(show aN ((-1)) from aY)⟩⟩⟩⟩⟩,J⟩ J aJ ?_
 intro g0 w4 d_ (H4:HI M w w4 ((own w.heap.size 92 (.slice (some ⟨g0,0,none⟩) 1 1) ([(2,n1,n2,(-1),(-1))]:List aA)::J7::J0::bC)++r))
 let J8:=own w.heap.size 92 (.slice (some ⟨g0,0,none⟩) 1 1) ([(2,n1,n2,(-1),(-1))]:List aA)
 refine k<|kE H4 5 J J J J J J (fD<|H4.at_ 0 J) mY iQ J (by simp;omega) J ?_
 intro a0 c0 w5 (H5:HI M w w5 ([J8,J7,J0,J1,J2,oL w 92 a0 (l++([(2,n1,n2,(-1),(-1))]:List aA)) c0]++r))
 let J9:=oL w 92 a0 (l++([(2,n1,n2,(-1),(-1))]:List aA)) c0
 refine ak J i1<|k<|ep J J mY<|aj (v:=sL a0 (l++([(2,n1,n2,(-1),(-1))]:List aA)) c0) J J<|aj (v:=U (l.length:Int)) J J<|aG<|rt<|r2 J J J ?_
 have H6:=HI.ba (l:=[J8,J7,J0,J1,J2,J9]) (l':=[J1,J2,J9]) (t:=r) H5 [3,4,5] aJ J J
 have e0:((l.length:Int):Int)=(dg I fo l n1 n2).2:=by (rw[MH aq (fF b0)];done)
 have e1:((l++([(2,n1,n2,(-1),(-1))]:List aA)):List _)=((dg I fo l n1 n2).1):=by (rw[MH aq (fF b0)];done)
 try rw[←e0]
 try rw[←e1]
 refine⟨a0,c0,?_,?_⟩
 · first|rfl|simp only[e0,e1]|(simp only[alP])
 · first|exact H6|simpa +zetaDelta only[e0,e1,alP] using H6
theorem VO:dq aX 119:=dy Tryz.func119
theorem La {r:List Go.Ew.Item} {Ak:OA} {Aj:Nat} {p:az} (ho:et I) (eT:fo.length=I.length) (cT:I.length≤64) (zJ:2≤p.length) (ZS:p.length≤4097) (Ov:∀x∈p,0≤x∧x<((I.length:Nat):Int)) (jG:l.length≤50000000) (H:HI M w w_ ([iL av I au,iL ax fo aw,oL w 92 dO l dN,iL Ak p Aj]++r)):Calls aX 102 #[.agg #[.slice aC aE aB,sL av I au,sL ax fo aw],sL dO l dN,sL Ak p Aj] w_ (cZ fun v w'=>∃(wN:OA) (wH:Nat),v=.tuple #[.slice wN ((jr I fo l p (p.length-2)).1).length wH,U ((jr I fo l p (p.length-2)).2)]∧HI M w w' ([iL av I au,iL ax fo aw,oL w 92 wN ((jr I fo l p (p.length-2)).1) wH,iL Ak p Aj]++r)):=by
 refine enter 63 Tryz.func102 J J J fun f0 ha=>?_
 have iT:=bN<|H.rv 0 J
 have nn:=bN<|H.rv 1 J
 have xM:=oM<|H.at_ 2 J
 have aj':=bN<|H.rv 3 J
 have i0:f0 0=.agg #[.slice aC aE aB,sL av I au,sL ax fo aw]:=ha 0 bH
 have i1:f0 1=sL dO l dN:=ha 1 bH
 have i2:f0 2=sL Ak p Aj:=ha 2 bH
 refine aH<|k<|bx H J i0 ?_
 let J1:=iL av I au
 let J2:=iL ax fo aw
 let J3:=oL w 92 dO l dN
 let J4:=iL Ak p Aj
 intro aK w0 dt (H0:HI M w w0 ([box aK #[.slice aC aE aB,sL av I au,sL ax fo aw] 32,J1,J2,J3,J4]++r))
 let J0:=box aK #[.slice aC aE aB,sL av I au,sL ax fo aw] 32
 refine aj (v:=.slice none 0 0) J J<|aj (v:=U 0) J J<|z<|nx<|cut (fun f w'=>∃(gi:List aA) (V7:Int) (a0:OA) (c0:Nat),f 1=sL a0 gi c0∧f 2=sL Ak p Aj∧f 3=pV aK 0∧f 8=U V7∧HI M w w' ([J0,J1,J2,oL w 92 a0 gi c0,J4]++r)∧(gi=(jr I fo l p 0).1∧V7=(jr I fo l p 0).2)) ?_ ?_
 ·
  obtain⟨x0,aq⟩:∃x,p[(0:Int).toNat]? =some x:=⟨_,dW ai⟩
  obtain⟨x1,cw⟩:∃x,p[(1:Int).toNat]? =some x:=⟨_,dW ai⟩
  refine V2 8 [eV (.agg #[.slice aC aE aB,sL av I au,sL ax fo aw]),eV (sL dO l dN),eV (sL Ak p Aj),fun v w'=>∃(fz:Addr),v=.pointer (some fz)∧At H0.nA w' fz x0,fun v w'=>v=U x0∧aN (x0),eV (sL Ak p Aj),fun v w'=>∃(iG:Addr),v=.pointer (some iG)∧At H0.nA w' iG x1,fun v w'=>v=U x1∧aN (x1)] J bu ?_ ?_
  ·
   refine dc (fun _ _ kC cR _=>cg (H0.ext cR) 0 J dn J (kC 3 J) aJ J<|d0 J J)<|dc (fun _ _ rh _ _=>mv J ((rh 1 J).trans i1)<|d0 J J)<|dc (fun _ _ l4 _ _=>mv J ((l4 2 J).trans i2)<|d0 J J) ?_
   refine⟨fun _=>⟨fun f4 w5 qC eI lP=>?_,by rintro _ _ _ x_ ⟨fz,e_,cN⟩;exact⟨fz,e_,cN.lift (Up.ext x_)⟩⟩,?_⟩
   ·
    have H4:=H0.ext eI
    have s0:f4 15=sL Ak p Aj:=lP 2 J J
    refine ia (H4.rv 4 J) J J s0 J ai cY aQ ?_
    intro kX x2 dR gJ
    obtain rfl:x0=x2:=alD (aq.symm.trans dR)
    exact⟨_,J,Ext.refl _,⟨kX,J,gJ⟩⟩
   refine dc (fun f5 w6 re ly jk=>?_) ?_
   ·
    have H5:=H0.ext ly
    obtain⟨jc,s1,km⟩:∃(jc:Addr),f5 16=.pointer (some jc)∧At H0.nA w6 jc x0:=jk 3 rfl rfl
    have H6:=H5.put (it:=lq jc x0) J km
    have H7:HI M w w6 ([lq jc x0,J0,J1,J2,J3,J4]++r):=H6
    refine kB (H7.wK 0 J).w aQ J s1 ?_
    intro gh
    exact⟨_,J,Ext.refl _,⟨J,gh⟩⟩
   refine dc (fun _ _ ns _ _=>mv J ((ns 2 J).trans i2)<|d0 J J) ?_
   refine⟨fun _=>⟨fun f7 w8 rb je kj=>?_,by rintro _ _ _ x_ ⟨iG,e_,eU⟩;exact⟨iG,e_,eU.lift (Up.ext x_)⟩⟩,?_⟩
   ·
    have H9:=H0.ext je
    have s2:f7 18=sL Ak p Aj:=kj 5 J J
    refine ia (H9.rv 4 J) J J s2 J ai cY aQ ?_
    intro sK x3 gX oD
    obtain rfl:x1=x3:=alD (cw.symm.trans gX)
    exact⟨_,J,Ext.refl _,⟨sK,J,oD⟩⟩
   refine dc (fun f8 w9 qa lh ll=>?_) ?_
   ·
    have db:=H0.ext lh
    obtain⟨kG,s3,qe⟩:∃(kG:Addr),f8 19=.pointer (some kG)∧At H0.nA w9 kG x1:=ll 6 rfl rfl
    have da:=db.put (it:=lq kG x1) J qe
    have eB:HI M w w9 ([lq kG x1,J0,J1,J2,J3,J4]++r):=da
    refine kB (eB.wK 0 J).w aQ J s3 ?_
    intro fQ
    exact⟨_,J,Ext.refl _,⟨J,fQ⟩⟩
   exact gp.rest J _
  ·
   intro f9 jb oa jD jj
   have dZ:=H0.ext jD
   have s4:=(oa 2 J).trans i2
   have s5:f9 3=pV aK 0:=oa 3 J
   have s6:=jj 0 J
   have s7:=jj 1 J
   obtain⟨s8,gG⟩:f9 17=U x0∧aN (x0):=jj 4 rfl
   obtain⟨s9,gl⟩:f9 20=U x1∧aN (x1):=jj 7 rfl
   show TA _ _ _ _ 6 [true,true,true,true,true,true,true,true,false,false,false,false,false,false] _ _
   refine ta [8] bu J ⟨⟨_,J,?_⟩,trivial⟩
   ·
    have cM:HI M w jb ([J1,J2,J3]++([J0,J4]++r)):=HI.ba (l:=[J0,J1,J2,J3,J4]) (l':=[J1,J2,J3,J0,J4]) (t:=r) dZ [1,2,3,0,4] aJ J J
    have cx:=DY (aC:=aC) (aE:=aE) (aB:=aB) (av:=av) (au:=au) (I:=I) (ax:=ax) (aw:=aw) (fo:=fo) (dO:=dO) (dN:=dN) (l:=l) (n1:=x0) (n2:=x1) (w:=w) (w_:=jb) (r:=([J0,J4]++r)) (M:=M) gG gl (by exact ho) (by exact eT) (by exact cT) (by exact Ov _ (eh cG)) (by exact Ov _ (eh cG)) ai cM
    refine ca VO J (ec s6<|ec s7<|ec s8<|ec s9 e0) cx ?_
    rintro _ iK ⟨a1,c1,rfl,fR⟩
    let J5:=oL w 92 a1 ((dg I fo l x0 x1).1) c1
    let bC:=[J1,J2,J5,J0,J4]
    have eY:HI M w iK (bC++r):=fR
    refine ta [9] bu J ⟨⟨_,J,?_⟩,trivial⟩
    ·
     refine mv (v:=.tuple #[sL a1 ((dg I fo l x0 x1).1) c1,U ((dg I fo l x0 x1).2)]) J J<|ta [10,11] bu J ⟨⟨_,J,?_⟩,⟨_,J,?_⟩,trivial⟩
     ·
      refine xt J J J<|ta [11,12] bu J ⟨⟨_,J,?_⟩,⟨_,J,?_⟩,trivial⟩
      ·
       refine xt J J J<|ta [12] bu J ⟨⟨_,J,?_⟩,trivial⟩
       ·
        refine gH (v:=sL a1 ((dg I fo l x0 x1).1) c1) J J<|ta [13] bu J ⟨⟨_,J,?_⟩,trivial⟩
        ·
         refine gH (v:=U ((dg I fo l x0 x1).2)) J J<|z6 bu ?_
         have fg:HI M w iK ([J0,J1,J2,J5,J4]++r):=HI.ba (l:=bC) (l':=[J0,J1,J2,J5,J4]) (t:=r) eY [3,0,1,2,4] aJ J J
         refine mh ⟨((dg I fo l x0 x1).1),((dg I fo l x0 x1).2),a1,c1,J,s4,s5,(bJ J),fg,(by exact⟨alB Prod.fst (tF aq cw),alB Prod.snd (tF aq cw)⟩)⟩
      ·
       refine gH (v:=sL a1 ((dg I fo l x0 x1).1) c1) J J<|ta [11] bu J ⟨⟨_,J,?_⟩,trivial⟩
       ·
        refine xt J J J<|ta [13] bu J ⟨⟨_,J,?_⟩,trivial⟩
        ·
         refine gH (v:=U ((dg I fo l x0 x1).2)) J J<|z6 bu ?_
         have fg:HI M w iK ([J0,J1,J2,J5,J4]++r):=HI.ba (l:=bC) (l':=[J0,J1,J2,J5,J4]) (t:=r) eY [3,0,1,2,4] aJ J J
         refine mh ⟨((dg I fo l x0 x1).1),((dg I fo l x0 x1).2),a1,c1,J,s4,s5,(bJ J),fg,(by exact⟨alB Prod.fst (tF aq cw),alB Prod.snd (tF aq cw)⟩)⟩
     ·
      refine xt J J J<|ta [10] bu J ⟨⟨_,J,?_⟩,trivial⟩
      ·
       refine xt J J J<|ta [12] bu J ⟨⟨_,J,?_⟩,trivial⟩
       ·
        refine gH (v:=sL a1 ((dg I fo l x0 x1).1) c1) J J<|ta [13] bu J ⟨⟨_,J,?_⟩,trivial⟩
        ·
         refine gH (v:=U ((dg I fo l x0 x1).2)) J J<|z6 bu ?_
         have fg:HI M w iK ([J0,J1,J2,J5,J4]++r):=HI.ba (l:=bC) (l':=[J0,J1,J2,J5,J4]) (t:=r) eY [3,0,1,2,4] aJ J J
         refine mh ⟨((dg I fo l x0 x1).1),((dg I fo l x0 x1).2),a1,c1,J,s4,s5,(bJ J),fg,(by exact⟨alB Prod.fst (tF aq cw),alB Prod.snd (tF aq cw)⟩)⟩
 ·
  rintro f0 w1 ⟨gi,V7,a0,c0,ey,ew,eE,fc,gz,Dg⟩
  refine sq<|aH<|aj (v:=U 2) J J<|aG<|bk<|lp (fun m f w'=>∃(k_:Nat) (cQ:List aA) (at_:Int) (a2:OA) (c2:Nat),m=p.length-k_∧f 1=sL a2 cQ c2∧f 2=sL Ak p Aj∧f 3=pV aK 0∧f 8=U at_∧f 9=U ((k_:Int)+2)∧HI M w w' ([J0,J1,J2,oL w 92 a2 cQ c2,J4]++r)∧(k_+2≤p.length)∧(cQ=(jr I fo l p k_).1∧at_=(jr I fo l p k_).2)) _ ⟨0,gi,V7,a0,c0,J,ey,ew,eE,(bJ fc),(bJ J),gz,ai,(by exact Dg)⟩ ?_
  rintro _ f10 jf ⟨k_,cQ,at_,a2,c2,rfl,fJ,fw,fX,gF,gL,jP,ra,hs⟩
  refine sq<|sq ?_
  have aaf:=F1 (I:=I) (fo:=fo) (l:=l) (p:=p) k_
  have TT:cQ.length≤l.length+(2*k_+1):=by rw[hs.1];exact aaf.1
  have JJ: -1≤at_∧at_≤((l.length+(2*k_+1):Nat):Int):=by rw[hs.2];exact aaf.2
  refine rg<|ak J gL<|ak J fw<|k<|ep J J cY<|k<|lss J J J J<|z<|nx<|cd (b:=decide (((k_:Int)+2)<(p.length:Int))) J J (fun b0=>?_)<|fun b0=>?_
  ·
   have p0:=dT b0
   refine sk<|nx<|sq<|bk<|sq<|EE [.r,.r,.r,.r,.r,.r,.r,.r,.r,.r,.r,.e,.e,.e,.e,.e,.e] (fun _=>True) J bu (fun _ _=>trivial)<|yq J J<|kq (fun _ x_=>cg (jP.ext x_) 0 J dn J fX aJ J e1)<|gC<|kq (fun _ _=>mv J fJ e1)<|gC<|kq (fun _ _=>mv J fw e1)<|gC<|kq (fun _ _=>mv J gL e1)<|gC<|kq (fun _ _=>sub J J J J aY e1)<|gC<|hG (jP.rv 4 J) J J J J ai cY aQ ?_
   intro uz x4 jT yQ
   refine gC<|fV yQ.w aQ J J ?_
   intro lk
   refine gC<|kq (fun _ _=>mv J fw e1)<|gC<|kq (fun _ _=>mv J gL e1)<|gC<|hG (jP.rv 4 J) J J J J ai cY aQ ?_
   intro KJ x5 lF Mt
   refine gC<|fV Mt.w aQ J J ?_
   intro lM
   refine zq<|ye<|ye<|ye<|ye<|ye<|ye<|yz ?_
   intro ju f11 _ gv _ _ cI ji
   have gI:=jP.ext gv
   have gE:=(cI 2 J).trans fw
   have jg:=(cI 3 J).trans fX
   have kU:=(cI 8 J).trans gF
   have oA:=(cI 9 J).trans gL
   have pw:=cI 31 J
   have x7:=cI 32 J
   have DR:=cI 37 J
   have Ck:=cI 41 J
   refine vT ?_
   have kO:HI M w ju ([J1,J2,oL w 92 a2 cQ c2]++([J0,J4]++r)):=HI.ba (l:=[J0,J1,J2,oL w 92 a2 cQ c2,J4]) (l':=[J1,J2,oL w 92 a2 cQ c2,J0,J4]) (t:=r) gI [1,2,3,0,4] aJ J J
   have eF:=DY (aC:=aC) (aE:=aE) (aB:=aB) (av:=av) (au:=au) (I:=I) (ax:=ax) (aw:=aw) (fo:=fo) (dO:=a2) (dN:=c2) (l:=cQ) (n1:=x4) (n2:=x5) (w:=w) (w_:=ju) (r:=([J0,J4]++r)) (M:=M) lk lM (by exact ho) (by exact eT) (by exact cT) (by exact Ov _ (eh cG)) (by exact Ov _ (eh cG)) ai kO
   refine ca VO J (ec pw<|ec x7<|ec DR<|ec Ck e0) eF ?_
   rintro _ jK ⟨a3,c3,rfl,lK⟩
   let J6:=oL w 92 a3 ((dg I fo cQ x4 x5).1) c3
   have lT:HI M w jK ([J1,J2,J6,J0,J4]++r):=lK
   refine vT<|mv (v:=.tuple #[sL a3 ((dg I fo cQ x4 x5).1) c3,U ((dg I fo cQ x4 x5).2)]) J J<|vT<|xt J J J<|vT<|xt J J J<|vT<|gH (v:=sL a3 ((dg I fo cQ x4 x5).1) c3) J J<|vT<|gH (v:=U ((dg I fo cQ x4 x5).2)) J J<|kz<|nx<|sq ?_
   have TY:=Dw (I:=I) (fo:=fo) (l:=cQ) (a:=x4) (b:=x5)
   refine EE [.r,.r,.r,.r,.r,.r,.r,.r,.r,.r,.r,.r,.e,.e] (fun _=>True) J bu (fun _ _=>trivial)<|yq J J<|kq (fun _ _=>mv (v:=sL a3 ((dg I fo cQ x4 x5).1) c3) J J e1)<|gC<|kq (fun _ _=>mv J gE e1)<|gC<|hG (lT.rv 4 J) J J J J ai cY aQ ?_
   intro Sc x6 nq hA8
   refine gC<|fV hA8.w aQ J J ?_
   intro ml
   refine gC<|kq (fun _ _=>mv J gE e1)<|gC<|kq (fun _ _=>mv J oA e1)<|gC<|hG (lT.rv 4 J) J J J J ai cY aQ ?_
   intro Sb x_ ki hA9
   obtain rfl:x5=x_:=alD (lF.symm.trans ki)
   refine gC<|fV hA9.w aQ J J ?_
   intro kK
   refine gC<|kq (fun _ _=>mv J kU e1)<|gC<|kq (fun _ _=>mv (v:=U ((dg I fo cQ x4 x5).2)) J J e1)<|gC<|kq (fun _ _=>bd (v:=.agg #[U 3,U x6,U x5,U at_,U ((dg I fo cQ x4 x5).2)]) J (ct J<|ct J<|ct J<|ct J<|ct J eo) (fun _=>bu) e1)<|zq<|yu J (fun _ v w'=>∃(a4:OA) (c4:Nat),v=sL a4 ([(3,x6,x5,at_,(dg I fo cQ x4 x5).2)]:List aA) c4∧RV lT.nA w' (sL a4 ([(3,x6,x5,at_,(dg I fo cQ x4 x5).2)]:List aA) c4) ([(3,x6,x5,at_,(dg I fo cQ x4 x5).2)]:List aA)) J xL J (fun v_ N_ x_ n_=>?_) ?_
   ·
    have kY:=lT.ext x_
    refine bs (xs:=([(3,x6,x5,at_,(dg I fo cQ x4 x5).2)]:List aA)) (cells:=#[U 3,U x6,U x5,U at_,U ((dg I fo cQ x4 x5).2)]) (e:=92) kY J (ct J eo) (fun _=>bu) ⟨[U 3,U x6,U x5,U at_,U ((dg I fo cQ x4 x5).2)],[],J,⟨_,_,J,⟨J,(show aN (3) from aY)⟩,⟨_,_,J,⟨J,(show aN (x6) from cG)⟩,⟨_,_,J,⟨J,(show aN (x5) from cG)⟩,⟨_,_,J,⟨J,(show aN (at_) from aY)⟩,⟨J,(show aN ((dg I fo cQ x4 x5).2) from aY)⟩⟩⟩⟩⟩,J⟩ J aJ ?_
    intro g1 mB kb (kt:HI M w mB ([own w.heap.size 92 (.slice (some ⟨g1,0,none⟩) 1 1) ([(3,x6,x5,at_,(dg I fo cQ x4 x5).2)]:List aA),J1,J2,J6,J0,J4]++r))
    have lJ:=kt.freeze 0 J
    exact⟨_,J,kb,⟨(some ⟨g1,0,none⟩),1,J,(gY J<|lJ.rv 0 J)⟩⟩
   refine ye<|ye<|yz ?_
   intro lL f12 _ kZ _ _ ub Zz
   have kH:=lT.ext kZ
   have IB:=(ub 2 J).trans gE
   have PF:=(ub 3 J).trans jg
   have IA:=(ub 9 J).trans oA
   have PE:=ub 45 J
   obtain⟨a5,c5,Yr,mZ⟩:=Zz 0 _ _ rfl
   let J7:=iL a5 ([(3,x6,x5,at_,(dg I fo cQ x4 x5).2)]:List aA) c5
   have rn:=kH.put (it:=J7) J mZ
   refine vT<|kE rn 3 J J J J PE Yr (rn.rv 0 J).src mY iQ J (by simp;omega) J ?_
   intro a6 c6 jX (BV:HI M w jX ([J7,J1,J2,oL w 92 a6 (((dg I fo cQ x4 x5).1)++([(3,x6,x5,at_,(dg I fo cQ x4 x5).2)]:List aA)) c6,J0,J4]++r))
   let J8:=oL w 92 a6 (((dg I fo cQ x4 x5).1)++([(3,x6,x5,at_,(dg I fo cQ x4 x5).2)]:List aA)) c6
   refine vT<|gH (v:=sL a6 (((dg I fo cQ x4 x5).1)++([(3,x6,x5,at_,(dg I fo cQ x4 x5).2)]:List aA)) c6) J J<|kz<|nx<|rg<|ak (v:=sL a6 (((dg I fo cQ x4 x5).1)++([(3,x6,x5,at_,(dg I fo cQ x4 x5).2)]:List aA)) c6) J J<|k<|ep J J mY<|k<|sub J J J J (by simp only[im,jv,gW];unfold aN;omega)<|aj (v:=U (((((dg I fo cQ x4 x5).1)++([(3,x6,x5,at_,(dg I fo cQ x4 x5).2)]:List aA)).length:Int)-1)) J J<|z<|aF<|nx<|rg<|ak J IA<|k<|add J J J J aY<|aj (v:=U (((k_:Int)+2)+1)) J J<|z ?_
   have qJ:HI M w jX ([J0,J1,J2,J8,J4]++r):=HI.ba (l:=[J7,J1,J2,J8,J0,J4]) (l':=[J0,J1,J2,J8,J4]) (t:=r) BV [4,1,2,3,5] aJ J J
   refine bD _ ?_ ⟨(k_+1),(((dg I fo cQ x4 x5).1)++([(3,x6,x5,at_,(dg I fo cQ x4 x5).2)]:List aA)),(((((dg I fo cQ x4 x5).1)++([(3,x6,x5,at_,(dg I fo cQ x4 x5).2)]:List aA)).length:Int)-1),a6,c6,J,J,IB,PF,(bJ J),(bJ J),qJ,ai,(by obtain⟨VL,wm⟩:=X0 hs jT lF nq lF;exact⟨VL,by rw[←wm,im];simp⟩)⟩
   omega
  have p0:=dF b0
  refine ex<|bg<|bt<|bz<|dM<|ak J fJ<|ak J gF<|aj (v:=sL a2 cQ c2) J J<|aj (v:=U at_) J J<|aG<|rt<|r2 J J J ?_
  have gI:=HI.ba (l:=[J0,J1,J2,oL w 92 a2 cQ c2,J4]) (l':=[J1,J2,oL w 92 a2 cQ c2,J4]) (t:=r) jP [1,2,3,4] aJ J J
  have e0:(at_:Int)=(jr I fo l p (p.length-2)).2:=by rw[hs.2,show k_=p.length-2 from by omega]
  have e1:(cQ:List _)=((jr I fo l p (p.length-2)).1):=by rw[hs.1,show k_=p.length-2 from by omega]
  try rw[←e0]
  try rw[←e1]
  refine⟨a2,c2,?_,?_⟩
  · first|rfl|simp only[e0,e1]|(simp only[alP])
  · first|exact gI|simpa +zetaDelta only[e0,e1,alP] using gI
theorem PT (hM:ei M w) (fL:aN mn) (eO:cP M w aU aT mr) (Bm:aN j) (bV:cq mn mr=true) (hj0:0≤j) (GU:j<mn):Calls aX 118 #[.agg #[U mn,sL aU mr aT],U j] w (cZ fun v w'=>∃(a0:OA) (c0:Nat),v=.slice a0 (nJ mn.toNat (dw mr) j.toNat).length c0∧Ext w w'∧bm M 3 w (nJ mn.toNat (dw mr) j.toNat) (.slice a0 (nJ mn.toNat (dw mr) j.toNat).length c0) w'):=by
 refine dK 68 Tryz.func118 J J J hM fun f0 ha H=>?_
 let J0:=iL aU mr aT
 have H0:=H.put (it:=J0) J<|by rw[dY];exact eO
 have lu:=bN eO
 have i0:f0 0=.agg #[U mn,sL aU mr aT]:=ha 0 bH
 have i1:f0 1=U j:=ha 1 bH
 have A_:=(bQ bV).1;have CE:=(bQ bV).2.2.1;have CF:=iA bV
 refine aH<|k<|bx H0 J i0 ?_
 intro aK w0 dt (H1:HI M w w0 [box aK #[U mn,sL aU mr aT] 68,J0])
 let J1:=box aK #[U mn,sL aU mr aT] 68
 refine aj (v:=.slice none 0 0) J J<|cU<|bo gm J J<|bR H1 0 J aQ J J J<|k ?_
 have n0:((mn.toNat:Nat):Int)=mn:=alJ ai
 refine mk (m:=mn.toNat) (zx:=(0:Int)) H1 J J (by rw[n0];exact rfl) (by rw[n0];exact rfl) cY aQ (fun _ _=>⟨J,by unfold aN;omega⟩) ai ai ?_
 intro g0 w1 cR (H2:HI M w w1 [own w.heap.size 3 (.slice (some ⟨g0,0,none⟩) mn.toNat mn.toNat) (List.replicate mn.toNat (0:Int)),J1,J0])
 refine aj (v:=.slice (some ⟨g0,0,none⟩) mn.toNat mn.toNat) J J<|aG<|sq<|aH<|aj (v:=U 0) J J<|aG<|bk<|lp (fun m f w'=>∃(q:Nat) (d:az),m=mn.toNat-q∧f 1=U j∧f 2=pV aK 0∧f 5=.slice (some ⟨g0,0,none⟩) mn.toNat mn.toNat∧f 6=U (q:Int)∧HI M w w' [own w.heap.size 3 (.slice (some ⟨g0,0,none⟩) mn.toNat mn.toNat) d,J1,J0]∧(q≤mn.toNat)∧(d.length=mn.toNat)∧(d.take q=List.replicate q (-1))) _ ⟨0,(List.replicate mn.toNat (0:Int)),J,i1,J,J,(bJ J),H2,ai,bH,(by rfl)⟩ ?_
 rintro _ f0 w2 ⟨q,d,rfl,s0,s1,s2,s3,H3,jw,hl,hs⟩
 refine sq<|aH<|ak J s3<|bo gm J s1<|bR H3 1 J aQ J J J<|k<|lss J J J J<|z<|nx<|cd (b:=decide ((q:Int)<mn)) J J (fun b0=>?_)<|fun b0=>?_
 ·
  have p0:=dT b0
  refine sk<|nx<|sq<|bk<|rg<|ak J s2<|ak J s3<|k<|jh (H3.at_ 0 J) J J J J ai cY aQ ?_
  intro g1 x0 iC aq cN
  refine k<|rO H3 0 J iC J ai aQ J J J J (RV.int.2 ⟨J,aY⟩) ?_
  intro w3 (H4:HI M w w3 [own w.heap.size 3 (.slice (some ⟨g0,0,none⟩) mn.toNat mn.toNat) (d.set ((q:Int).toNat) (-1)),J1,J0])
  refine z<|aF<|nx<|rg<|ak J s3<|k<|add J J J J aY<|aj (v:=U ((q:Int)+1)) J J<|z<|bD _ ?_ ⟨(q+1),(d.set ((q:Int).toNat) (-1)),J,s0,s1,s2,(bJ J),H4,ai,(by rw[alP];exact hl),(by exact Rv hs ai)⟩
  omega
 have p0:=dF b0
 refine ex<|bg<|bt<|bz<|nx<|sq ?_
 have qB:=Ui hs ai ai
 refine rg<|ak J s2<|ak J s0<|k<|jh (H3.at_ 0 J) J J J J ai cY aQ ?_
 intro g1 x0 iC aq cN
 refine k<|rO H3 0 J iC J ai aQ J J J J (RV.int.2 ⟨J,aY⟩) ?_
 intro w3 (H4:HI M w w3 [own w.heap.size 3 (.slice (some ⟨g0,0,none⟩) mn.toNat mn.toNat) (d.set j.toNat 0),J1,J0])
 refine aG<|sq<|aH<|aj (v:=U 1) J J<|aG<|bk<|lp (fun m f w'=>∃(s_:Nat) (d2:az),m=mn.toNat+1-s_∧f 2=pV aK 0∧f 5=.slice (some ⟨g0,0,none⟩) mn.toNat mn.toNat∧f 7=U (s_:Int)∧HI M w w' [own w.heap.size 3 (.slice (some ⟨g0,0,none⟩) mn.toNat mn.toNat) d2,J1,J0]∧(1≤s_∧s_≤mn.toNat+1)∧(d2.length=mn.toNat)∧(d2=dS mn.toNat (dw mr) j.toNat s_ 0)) _ ⟨1,(d.set j.toNat 0),J,s1,s2,(bJ J),H4,ai,(by rw[alP];exact hl),(by rw[qB,hl];exact Rx ai)⟩ ?_
 rintro _ f1 w4 ⟨s_,d2,rfl,s4,s5,s6,H5,aks,pA,gM⟩
 refine sq<|aH<|ak J s6<|bo gm J s4<|bR H5 1 J aQ J J J<|k<|leq J J J J<|z<|nx<|cd (b:=decide ((s_:Int)≤mn)) J J (fun b1=>?_)<|fun b1=>?_
 ·
  have p1:=dT b1
  refine sk<|nx<|sq<|bk<|aH<|aj (v:=U 0) J J<|aG<|bk<|lp (fun m f w'=>∃(i:Nat) (d3:az),m=mn.toNat-i∧f 2=pV aK 0∧f 5=.slice (some ⟨g0,0,none⟩) mn.toNat mn.toNat∧f 7=U (s_:Int)∧f 8=U (i:Int)∧HI M w w' [own w.heap.size 3 (.slice (some ⟨g0,0,none⟩) mn.toNat mn.toNat) d3,J1,J0]∧(i≤mn.toNat)∧(d3.length=mn.toNat)∧(d3=dS mn.toNat (dw mr) j.toNat s_ i)) _ ⟨0,d2,J,s4,s5,s6,(bJ J),H5,ai,(by exact pA),(by exact gM)⟩ ?_
  rintro _ f2 w5 ⟨i,d3,rfl,s7,s8,s9,ey,H6,akr,hl3,GP⟩
  refine sq<|aH<|ak J ey<|bo gm J s7<|bR H6 1 J aQ J J J<|k<|lss J J J J<|z<|nx<|cd (b:=decide ((i:Int)<mn)) J J (fun b2=>?_)<|fun b2=>?_
  ·
   have p2:=dT b2
   refine sk<|nx<|sq<|bk<|aH<|aj (v:=U 0) J J<|aG<|bk<|lp (fun m f w'=>∃(k_:Nat) (d4:az),m=mn.toNat-k_∧f 2=pV aK 0∧f 5=.slice (some ⟨g0,0,none⟩) mn.toNat mn.toNat∧f 7=U (s_:Int)∧f 8=U (i:Int)∧f 9=U (k_:Int)∧HI M w w' [own w.heap.size 3 (.slice (some ⟨g0,0,none⟩) mn.toNat mn.toNat) d4,J1,J0]∧(k_≤mn.toNat)∧(d4.length=mn.toNat)∧(BW mn.toNat (dw mr) j.toNat s_ i k_ d4)) _ ⟨0,d3,J,s7,s8,s9,ey,(bJ J),H6,ai,(by exact hl3),(by exact aa' GP)⟩ ?_
   rintro _ f3 w6 ⟨k_,d4,rfl,ew,eE,fc,fJ,fw,H7,akq,Q5,vY⟩
   refine sq<|aH<|ak J fw<|bo gm J ew<|bR H7 1 J aQ J J J<|k<|lss J J J J<|ak (v:=.bool (decide ((k_:Int)<mn))) J J ?_
   rcases bE (decide ((k_:Int)<mn)) with b3|b3
   ·
    have p3:=dT b3
    refine aM J J J b3<|mv J eE<|aM J J J b3<|mv J fJ<|aM J J J b3<|jh (H7.at_ 0 J) J J J J ai cY aQ ?_
    intro g2 x1 lZ cw eU
    refine aM J J J b3<|kB eU aQ J J ?_
    intro cL
    refine aM J J J b3<|lss J J J J<|k<|ba J J J J b3 J<|z<|nx<|cd (b:=decide (x1<0)) J J (fun b4=>?_)<|fun b4=>?_
    ·
     have p4:=dT b4
     refine sk<|nx<|sq<|bk<|aH<|ak J eE<|ak J fw<|k<|jh (H7.at_ 0 J) J J J J ai cY aQ ?_
     intro g3 x2 uQ dR gJ
     refine k<|kB gJ aQ J J ?_
     intro eQ
     refine ak J fc<|k<|sub J J J J aY<|k<|eql J J J J<|ak (v:=.bool (decide (x2=((s_:Int)-1)))) J J ?_
     rcases bE (decide (x2=((s_:Int)-1))) with b5|b5
     ·
      have p5:=dT b5
      refine aM J J J b5<|cg H7 1 J bh J ew aJ J<|aM J J J b5<|mv J fJ<|aM J J J b5<|mv J fw<|aM J J J b5 ?_
      have cx:=mm (mn:=mn) (mr:=mr) (i:=(i:Int)) (j:=(k_:Int)) H7.mb fL (H7.rv 2 J) aY aY (by exact(bQ bV).1) (by exact(bQ bV).2.1)<|by exact(bQ bV).2.2.1
      refine ca xS J (ec J<|ec J<|ec J e0) cx ?_
      rintro _ w7 ⟨rfl,d_⟩
      have H8:=H7.ext d_
      refine k<|ba J J J J b5 J<|z<|nx<|cd (b:=dG mn mr (i:Int) (k_:Int)) J J (fun b6=>?_)<|fun b6=>?_
      ·
       refine rg<|ak J eE<|ak J fJ<|ak J fc<|k<|jh (H8.at_ 0 J) J J J J ai cY aQ ?_
       intro g4 x3 vX gX km
       refine k<|rO H8 0 J vX J ai aQ J J J J (RV.int.2 ⟨J,aY⟩) ?_
       intro w8 (H9:HI M w w8 [own w.heap.size 3 (.slice (some ⟨g0,0,none⟩) mn.toNat mn.toNat) (d4.set ((i:Int).toNat) (s_:Int)),J1,J0])
       refine z<|aF<|nx<|rg<|ak J fw<|k<|add J J J J aY<|aj (v:=U ((k_:Int)+1)) J J<|z<|bD _ ?_ ⟨(k_+1),(d4.set ((i:Int).toNat) (s_:Int)),J,ew,eE,fc,fJ,(bJ J),H9,ai,(by rw[alP];exact Q5),(by exact XM vY ai ai ai cw ai dR ai (by rw[←yO bV ai ai];assumption))⟩
       omega
      refine sk<|aF<|nx<|rg<|ak J fw<|k<|add J J J J aY<|aj (v:=U ((k_:Int)+1)) J J<|z<|bD _ ?_ ⟨(k_+1),d4,J,ew,eE,fc,fJ,(bJ J),H8,ai,(by exact Q5),(by exact Ry vY ai ai ai cw ai dR (.inr (by rw[←yO bV ai ai];assumption)))⟩
      omega
     have p5:=dF b5
     refine aD J J J b5<|aD J J J b5<|aD J J J b5<|aD J J J b5<|k<|bc J J J J b5 J<|aG<|l7 J J J<|sk<|aF<|nx<|rg<|ak J fw<|k<|add J J J J aY<|aj (v:=U ((k_:Int)+1)) J J<|z<|bD _ ?_ ⟨(k_+1),d4,J,ew,eE,fc,fJ,(bJ J),H7,ai,(by exact Q5),(by exact Ry vY ai ai ai cw ai dR (.inl ai))⟩
     omega
    have p4:=dF b4
    refine ex<|bg<|bt<|bz<|aF<|nx<|rg<|ak J fJ<|k<|add J J J J aY<|aj (v:=U ((i:Int)+1)) J J<|z<|bD _ ?_ ⟨(i+1),d4,J,ew,eE,fc,(bJ J),H7,ai,(by exact Q5),(by exact MF vY ai ai (.inr ⟨_,cw,by omega⟩))⟩
    omega
   have p3:=dF b3
   refine aD J J J b3<|aD J J J b3<|aD J J J b3<|aD J J J b3<|aD J J J b3<|k<|bc J J J J b3 J<|aG<|l7 J J J<|ex<|bg<|bt<|bz<|aF<|nx<|rg<|ak J fJ<|k<|add J J J J aY<|aj (v:=U ((i:Int)+1)) J J<|z<|bD _ ?_ ⟨(i+1),d4,J,ew,eE,fc,(bJ J),H7,ai,(by exact Q5),(by exact MF vY ai ai (.inl ai))⟩
   omega
  have p2:=dF b2
  refine ex<|bg<|bt<|bz<|aF<|nx<|rg<|ak J s9<|k<|add J J J J aY<|aj (v:=U ((s_:Int)+1)) J J<|z<|bD _ ?_ ⟨(s_+1),d3,J,s7,s8,(bJ J),H6,ai,(by exact hl3),(by exact XN GP ai)⟩
  omega
 have p1:=dF b1
 refine ex<|bg<|bt<|bz<|dM<|ak J s5<|aj (v:=.slice (some ⟨g0,0,none⟩) mn.toNat mn.toNat) J J<|aG<|rt<|r1 J J ?_
 have e0:(d2:az)=nJ mn.toNat (dw mr) j.toNat:=by exact gM.trans (by rw[show s_=mn.toNat+1 from by omega];rfl)
 have l0:mn.toNat=(nJ mn.toNat (dw mr) j.toNat).length:=by rw[←e0];omega
 have bF:=fu (fun (kW:Nat)=>(.slice (some ⟨g0,0,none⟩) kW mn.toNat:Value)) l0
 exact⟨(some ⟨g0,0,none⟩),mn.toNat,bF,H5.below,(alB (fun (n_:Nat)=>bm _ _ _ (nJ mn.toNat (dw mr) j.toNat) (.slice (some ⟨g0,0,none⟩) n_ mn.toNat) _) l0).mp ((alB (fun (x_:az)=>bm _ _ _ x_ (.slice (some ⟨g0,0,none⟩) mn.toNat mn.toNat) _) e0).mp (H5.cB 0 J))⟩
theorem adp:dq aX 118:=dy Tryz.func118
theorem ND (hM:ei M w) (fL:aN mn) (eO:cP M w aU aT mr) (nt:aN i) (Bm:aN j) (bV:cq mn mr=true):Calls aX 101 #[.agg #[U mn,sL aU mr aT],U i,U j] w (cZ fun v w'=>∃(a0:OA) (c0:Nat),v=.tuple #[.slice a0 ((cD mn mr i j).getD []).length c0,.bool ((cD mn mr i j).isSome)]∧Ext w w'∧bm M 3 w ((cD mn mr i j).getD []) (.slice a0 ((cD mn mr i j).getD []).length c0) w'):=by
 refine dK 81 Tryz.func101 J J J hM fun f0 ha H=>?_
 let J0:=iL aU mr aT
 have H0:=H.put (it:=J0) J<|by rw[dY];exact eO
 have lu:=bN eO
 have i0:f0 0=.agg #[U mn,sL aU mr aT]:=ha 0 bH
 have i1:f0 1=U i:=ha 1 bH
 have i2:f0 2=U j:=ha 2 bH
 have A_:=(bQ bV).1;have CE:=(bQ bV).2.2.1;have CF:=iA bV
 refine aH<|k<|bx H0 J i0 ?_
 intro aK w0 dt (H1:HI M w w0 [box aK #[U mn,sL aU mr aT] 68,J0])
 let J1:=box aK #[U mn,sL aU mr aT] 68
 refine aj (v:=.slice none 0 0) J J<|aj (v:=.bool false) J J<|aG<|sq<|aH<|ak J i1<|k<|lss J J J J<|ak (v:=.bool (decide (i<0))) J J ?_
 rcases bE (decide (i<0)) with b0|b0
 ·
  have p0:=dT b0
  refine aD J J J b0<|aD J J J b0<|aD J J J b0<|aD J J J b0<|k<|ba J J J J b0 J<|ak (v:=.bool true) J J<|aD J J J J<|aD J J J J<|k<|ba J J J J J J<|ak (v:=.bool true) J J<|aD J J J J<|aD J J J J<|aD J J J J<|aD J J J J<|k<|ba J J J J J J<|aG<|nP J J J<|aH<|aj (v:=.slice none 0 0) J J<|aj (v:=.bool false) J J<|aG<|rt<|aS<|r2 J J J ?_
  have e0:([]:az)=(cD mn mr i j).getD []:=by rw[rQ ai];rfl
  have e1:(false:Bool)=(cD mn mr i j).isSome:=by rw[rQ ai];rfl
  have bF:=sd (fun (cK:az) (fI:Bool)=>(.tuple #[.slice none cK.length 0,.bool fI]:Value)) e0 e1
  exact⟨none,0,bF,H1.below,(alB (fun (x_:az)=>bm _ _ _ x_ (.slice none x_.length 0) _) e0).mp (gQ H1.below)⟩
 have p0:=dF b0
 refine aM J J J b0<|mv J i1<|aM J J J b0<|fa gm J J<|aM J J J b0<|lx H1 0 J aQ J J J<|aM J J J b0<|geq J J J J<|k<|bc J J J J b0 J<|ak (v:=.bool (decide (mn≤i))) J J ?_
 rcases bE (decide (mn≤i)) with b1|b1
 ·
  have p1:=dT b1
  refine aD J J J b1<|aD J J J b1<|k<|ba J J J J b1 J<|ak (v:=.bool true) J J<|aD J J J J<|aD J J J J<|aD J J J J<|aD J J J J<|k<|ba J J J J J J<|aG<|nP J J J<|aH<|aj (v:=.slice none 0 0) J J<|aj (v:=.bool false) J J<|aG<|rt<|aS<|r2 J J J ?_
  have e0:([]:az)=(cD mn mr i j).getD []:=by rw[rQ ai];rfl
  have e1:(false:Bool)=(cD mn mr i j).isSome:=by rw[rQ ai];rfl
  have bF:=sd (fun (cK:az) (fI:Bool)=>(.tuple #[.slice none cK.length 0,.bool fI]:Value)) e0 e1
  exact⟨none,0,bF,H1.below,(alB (fun (x_:az)=>bm _ _ _ x_ (.slice none x_.length 0) _) e0).mp (gQ H1.below)⟩
 have p1:=dF b1
 refine aM J J J b1<|mv J i2<|aM J J J b1<|lss J J J J<|k<|bc J J J J b1 J<|ak (v:=.bool (decide (j<0))) J J ?_
 rcases bE (decide (j<0)) with b2|b2
 ·
  have p2:=dT b2
  refine aD J J J b2<|aD J J J b2<|aD J J J b2<|aD J J J b2<|k<|ba J J J J b2 J<|aG<|nP J J J<|aH<|aj (v:=.slice none 0 0) J J<|aj (v:=.bool false) J J<|aG<|rt<|aS<|r2 J J J ?_
  have e0:([]:az)=(cD mn mr i j).getD []:=by rw[rQ ai];rfl
  have e1:(false:Bool)=(cD mn mr i j).isSome:=by rw[rQ ai];rfl
  have bF:=sd (fun (cK:az) (fI:Bool)=>(.tuple #[.slice none cK.length 0,.bool fI]:Value)) e0 e1
  exact⟨none,0,bF,H1.below,(alB (fun (x_:az)=>bm _ _ _ x_ (.slice none x_.length 0) _) e0).mp (gQ H1.below)⟩
 have p2:=dF b2
 refine aM J J J b2<|mv J i2<|aM J J J b2<|fa gm J J<|aM J J J b2<|lx H1 0 J aQ J J J<|aM J J J b2<|geq J J J J<|k<|bc J J J J b2 J<|z<|nx<|cd (b:=decide (mn≤j)) J J (fun b3=>?_)<|fun b3=>?_
 ·
  have p3:=dT b3
  refine aH<|aj (v:=.slice none 0 0) J J<|aj (v:=.bool false) J J<|aG<|rt<|aS<|r2 J J J ?_
  have e0:([]:az)=(cD mn mr i j).getD []:=by rw[rQ ai];rfl
  have e1:(false:Bool)=(cD mn mr i j).isSome:=by rw[rQ ai];rfl
  have bF:=sd (fun (cK:az) (fI:Bool)=>(.tuple #[.slice none cK.length 0,.bool fI]:Value)) e0 e1
  exact⟨none,0,bF,H1.below,(alB (fun (x_:az)=>bm _ _ _ x_ (.slice none x_.length 0) _) e0).mp (gQ H1.below)⟩
 have p3:=dF b3
 refine sk<|dM<|k<|cg H1 0 J bh J J aJ J<|ak J i2<|k ?_
 have cx:=PT (mn:=mn) (mr:=mr) (j:=j) H1.mb fL (H1.rv 1 J) Bm (by exact bV) ai ai
 refine ca adp J (ec J<|ec J e0) cx ?_
 rintro _ w1 ⟨a0,c0,rfl,cR,cL⟩
 have H2:=H1.ic cL
 refine aj (v:=sL a0 (nJ mn.toNat (dw mr) j.toNat) c0) J J<|aG<|sq ?_
 have hn_:((mn.toNat:Nat):Int)=mn:=alJ CF
 refine rg<|ak J i1<|k<|bs (xs:=([i]:az)) (cells:=#[U i]) (e:=3) H2 J (ct J eo) (fun _=>bu) ⟨[U i],[],J,⟨J,nt⟩,J⟩ J aJ ?_
 intro g0 w2 d_ H3
 refine aj (v:=.slice (some ⟨g0,0,none⟩) 1 1) J J<|cU<|ak J i1<|aj (v:=U i) J J<|aG<|bk ?_
 let J2:=oL w 3 a0 (nJ mn.toNat (dw mr) j.toNat) c0
 refine lp (fun m f w'=>∃(a_:Int) (out:az) (a1:OA) (c1:Nat),m=UX mn.toNat (dw mr) j.toNat a_+0∧f 2=U j∧f 3=pV aK 0∧f 8=sL a0 (nJ mn.toNat (dw mr) j.toNat) c0∧f 9=sL a1 out c1∧f 10=U a_∧HI M w w' [oL w 3 a1 out c1,J2,J1,J0]∧(RI mn.toNat (dw mr) i.toNat j.toNat out a_)) _ ⟨i,[i],(some ⟨g0,0,none⟩),1,J,i2,J,J,J,(bJ J),H3,(by exact S7 ai ai)⟩ ?_
 rintro _ f0 w3 ⟨a_,out,a1,c1,rfl,s0,s1,s2,s3,s4,H4,hs⟩
 refine bk<|sq ?_
 have JJ:=acC hs
 refine rg<|aj (v:=U (-1)) J J<|aG<|sq<|aH<|aj (v:=U 0) J J<|aG<|bk<|lp (fun m f w'=>∃(k_:Nat) (b_:Int),m=mn.toNat-k_∧f 2=U j∧f 3=pV aK 0∧f 8=sL a0 (nJ mn.toNat (dw mr) j.toNat) c0∧f 9=sL a1 out c1∧f 10=U a_∧f 11=U b_∧f 12=U (k_:Int)∧HI M w w' [oL w 3 a1 out c1,J2,J1,J0]∧(k_≤mn.toNat)∧(BI mn.toNat (dw mr) j.toNat a_.toNat k_ b_)) _ ⟨0,(-1),J,s0,s1,s2,s3,s4,(bJ J),(bJ J),H4,ai,(by exact UA)⟩ ?_
 rintro _ f1 w4 ⟨k_,b_,rfl,s5,s6,s7,s8,s9,ey,ew,H5,jw,gM⟩
 refine sq<|aH<|ak J ew<|bo gm J s6<|bR H5 2 J aQ J J J<|k<|lss J J J J<|z<|nx<|cd (b:=decide ((k_:Int)<mn)) J J (fun b4=>?_)<|fun b4=>?_
 ·
  have p4:=dT b4
  refine sk<|nx<|sq<|bk<|sq<|yY J bu<|kq (fun _ x_=>cg (H5.ext x_) 2 J bh J s6 aJ J e1)<|kq (fun _ _=>mv J s9 e1)<|kq (fun _ _=>mv J ew e1)<|kq (v:=.bool (dG mn mr a_ (k_:Int))) (fun v_ x_=>?_) ?_
  ·
   have cc:=mm (mn:=mn) (mr:=mr) (i:=a_) (j:=(k_:Int)) (w:=v_) (H5.ext x_).mb fL ((H5.ext x_).rv 3 rfl) aY aY (by exact(bQ bV).1) (by exact(bQ bV).2.1)<|by exact(bQ bV).2.2.1
   exact ca xS J (ec J<|ec J<|ec J e0) cc fun _ _ h_=>e2 h_
  refine kq (fun _ _=>mv (v:=.bool (dG mn mr a_ (k_:Int))) J J e1) ?_
  rcases bE (dG mn mr a_ (k_:Int)) with b5|b5
  ·
   refine qy J J J b5<|kq (fun _ _=>mv J s7 e1)<|qy J J J b5<|kq (fun _ _=>mv J ew e1)<|qy J J J b5<|su (H5.at_ 1 J) J J J J (by unfold nJ;rw[uu];omega) cY aQ ?_
   intro fz x0 aq cN
   refine qy J J J b5<|fV cN aQ J J ?_
   intro eQ
   refine qy J J J b5<|kq (fun _ _=>geq J J J J e1)<|kq (fun _ _=>ba J J J J b5 J e1)<|kq (fun _ _=>mv (v:=.bool (decide (0≤x0))) J J e1) ?_
   rcases bE (decide (0≤x0)) with b6|b6
   ·
    have p6:=dT b6
    refine qy J J J b6<|kq (fun _ _=>mv J ey e1)<|qy J J J b6<|kq (fun _ _=>lss J J J J e1)<|qy J J J b6<|kq (fun _ _=>mv (v:=.bool (decide (b_<0))) J J e1) ?_
    rcases bE (decide (b_<0)) with b7|b7
    ·
     have p7:=dT b7
     refine qn J J J b7<|qn J J J b7<|qn J J J b7<|qn J J J b7<|qn J J J b7<|qn J J J b7<|qn J J J b7<|qn J J J b7<|qn J J J b7<|qy J J J b6<|kq (fun _ _=>ba J J J J b7 J e1)<|kq (fun _ _=>ba J J J J b6 J e1)<|zq ?_
     intro w5 eG
     have H6:=H5.ext eG
     refine nx<|nP J J J<|rg<|ak J ew<|aj (v:=U (k_:Int)) J J<|z<|aF<|nx<|rg<|ak J ew<|k<|add J J J J aY<|aj (v:=U ((k_:Int)+1)) J J<|z<|bD _ ?_ ⟨(k_+1),(k_:Int),J,s5,s6,s7,s8,s9,(bJ J),(bJ J),H6,ai,(by exact R3 gM ai (Eq.trans (rE bV (a:=a_) (b:=(k_:Int)) ⟨by omega,by omega⟩ ⟨by omega,by omega⟩).symm cG) aq ai (.inl ai))⟩
     omega
    have p7:=dF b7
    refine qy J J J b7<|kq (fun _ _=>mv J s7 e1)<|qy J J J b7<|kq (fun _ _=>mv J ew e1)<|qy J J J b7<|su (H5.at_ 1 J) J J J J (by unfold nJ;rw[uu];omega) cY aQ ?_
    intro iG x_ ki eU
    obtain rfl:x0=x_:=alD (aq.symm.trans ki)
    refine qy J J J b7<|fV eU aQ J J ?_
    intro gh
    refine qy J J J b7<|kq (fun _ _=>mv J s7 e1)<|qy J J J b7<|kq (fun _ _=>mv J ey e1)<|qy J J J b7<|su (H5.at_ 1 J) J J J J (by have h_:=Kz gM ai ai;unfold nJ;rw[uu];omega) cY aQ ?_
    intro kX x1 cw gJ
    refine qy J J J b7<|fV gJ aQ J J ?_
    intro fQ
    refine qy J J J b7<|kq (fun _ _=>lss J J J J e1)<|qy J J J b6<|kq (fun _ _=>bc J J J J b7 J e1)<|kq (fun _ _=>ba J J J J b6 J e1)<|zq ?_
    intro w5 eG
    have H6:=H5.ext eG
    refine nx<|cd (b:=decide (x0<x1)) J J (fun b8=>?_)<|fun b8=>?_
    ·
     have p8:=dT b8
     refine rg<|ak J ew<|aj (v:=U (k_:Int)) J J<|z<|aF<|nx<|rg<|ak J ew<|k<|add J J J J aY<|aj (v:=U ((k_:Int)+1)) J J<|z<|bD _ ?_ ⟨(k_+1),(k_:Int),J,s5,s6,s7,s8,s9,(bJ J),(bJ J),H6,ai,(by exact R3 gM ai (Eq.trans (rE bV (a:=a_) (b:=(k_:Int)) ⟨by omega,by omega⟩ ⟨by omega,by omega⟩).symm cG) aq ai (.inr ⟨_,cw,by omega⟩))⟩
     omega
    have p8:=dF b8
    refine sk<|aF<|nx<|rg<|ak J ew<|k<|add J J J J aY<|aj (v:=U ((k_:Int)+1)) J J<|z<|bD _ ?_ ⟨(k_+1),b_,J,s5,s6,s7,s8,s9,(bJ ey),(bJ J),H6,ai,(by exact OW gM ai (.inr (.inr ⟨by omega,_,_,aq,by omega,cw,by omega⟩)))⟩
    omega
   have p6:=dF b6
   refine qn J J J b6<|qn J J J b6<|qn J J J b6<|qu J J J<|qu J J J<|qu J J J<|qu J J J<|qu J J J<|qu J J J<|qu J J J<|qu J J J<|qu J J J<|qn J J J b6<|kq (fun _ _=>bc J J J J b6 J e1)<|zq ?_
   intro w5 eG
   have H6:=H5.ext eG
   refine nx<|l7 J J J<|sk<|aF<|nx<|rg<|ak J ew<|k<|add J J J J aY<|aj (v:=U ((k_:Int)+1)) J J<|z<|bD _ ?_ ⟨(k_+1),b_,J,s5,s6,s7,s8,s9,(bJ ey),(bJ J),H6,ai,(by exact OW gM ai (.inr (.inl ⟨_,aq,by omega⟩)))⟩
   omega
  refine qn J J J b5<|qn J J J b5<|qn J J J b5<|qn J J J b5<|qn J J J b5<|kq (fun _ _=>bc J J J J b5 J e1)<|kq (fun _ _=>mv (v:=.bool false) J J e1)<|qn J J J J<|qn J J J J<|qn J J J J<|qu J J J<|qu J J J<|qu J J J<|qu J J J<|qu J J J<|qu J J J<|qu J J J<|qu J J J<|qu J J J<|qn J J J J<|kq (fun _ _=>bc J J J J J J e1)<|zq ?_
  intro w5 eG
  have H6:=H5.ext eG
  refine nx<|l7 J J J<|sk<|aF<|nx<|rg<|ak J ew<|k<|add J J J J aY<|aj (v:=U ((k_:Int)+1)) J J<|z<|bD _ ?_ ⟨(k_+1),b_,J,s5,s6,s7,s8,s9,(bJ ey),(bJ J),H6,ai,(by exact OW gM ai (.inl (Eq.trans (rE bV (a:=a_) (b:=(k_:Int)) ⟨by omega,by omega⟩ ⟨by omega,by omega⟩).symm cG)))⟩
  omega
 have p4:=dF b4
 refine ex<|bg<|bt<|bz<|nx<|sq<|sq ?_
 have ra:mn.toNat≤k_:=by omega
 refine rg<|ak J ey<|k<|lss J J J J<|z<|nx<|cd (b:=decide (b_<0)) J J (fun b5=>?_)<|fun b5=>?_
 ·
  have p5:=dT b5
  refine aH<|aj (v:=.slice none 0 0) J J<|aj (v:=.bool false) J J<|aG<|rt<|aS<|bM<|gb<|bM<|r2 J J J ?_
  have e0:([]:az)=(cD mn mr i j).getD []:=by rw[vg ai,LL hs gM ra ai];try rfl
  have e1:(false:Bool)=(cD mn mr i j).isSome:=by rw[vg ai,LL hs gM ra ai];try rfl
  have bF:=sd (fun (cK:az) (fI:Bool)=>(.tuple #[.slice none cK.length 0,.bool fI]:Value)) e0 e1
  exact⟨none,0,bF,H5.below,(alB (fun (x_:az)=>bm _ _ _ x_ (.slice none x_.length 0) _) e0).mp (gQ H5.below)⟩
 have p5:=dF b5
 refine sk<|nx<|sq ?_
 have VE:=Kz gM jw ai
 refine rg<|ak J s8<|ak J ey<|k<|bs (xs:=([b_]:az)) (cells:=#[U b_]) (e:=3) H5 J (ct J eo) (fun _=>bu) ⟨[U b_],[],J,⟨J,(show aN (b_) from aY)⟩,J⟩ J aJ ?_
 intro g1 w5 eG H6
 refine k<|kE H6 1 J J J J J J (fD<|H6.at_ 0 J) cY aQ J (by (simp only[jv,gW];omega)) J ?_
 intro a2 c2 w6 (H7:HI M w w6 [own w.heap.size 3 (.slice (some ⟨g1,0,none⟩) 1 1) ([b_]:az),oL w 3 a2 (out++([b_]:az)) c2,J2,J1,J0])
 refine ak J ey<|aj (v:=sL a2 (out++([b_]:az)) c2) J J<|aj (v:=U b_) J J<|cU<|ak (v:=U b_) J J<|ak J s5<|k<|eql J J J J<|z<|nx<|cd (b:=decide (b_=j)) J J (fun b6=>?_)<|fun b6=>?_
 ·
  have p6:=dT b6
  refine aH<|ak (v:=sL a2 (out++([b_]:az)) c2) J J<|aj (v:=sL a2 (out++([b_]:az)) c2) J J<|aj (v:=.bool true) J J<|aG<|rt<|bM<|gb<|bM<|r2 J J J ?_
  have e0:((out++([b_]:az)):az)=(cD mn mr i j).getD []:=by rw[vg ai,IG hs gM ra jw ai cG];try rfl
  have e1:(true:Bool)=(cD mn mr i j).isSome:=by rw[vg ai,IG hs gM ra jw ai cG];try rfl
  have bF:=sd (fun (cK:az) (fI:Bool)=>(.tuple #[.slice a2 cK.length c2,.bool fI]:Value)) e0 e1
  exact⟨a2,c2,bF,H7.below,(alB (fun (x_:az)=>bm _ _ _ x_ (.slice a2 x_.length c2) _) e0).mp (H7.cB 1 J)⟩
 have p6:=dF b6
 refine sk<|aF ?_
 have H8:HI M w w6 [oL w 3 a2 (out++([b_]:az)) c2,J2,J1,J0]:=H7.c_ [1,2,3,4] aJ J
 refine bD _ ?_ ⟨b_,(out++([b_]:az)),a2,c2,J,s5,s6,s7,J,(bJ J),H8,(by exact WO ai hs gM ra jw ai cG ai)⟩
 exact WQ ai hs gM ra jw ai cG
theorem adz:dq aX 101:=dy Tryz.func101
theorem ady:dq aX 102:=dy Tryz.func102
theorem oB {r:List Go.Ew.Item} (fL:aN mn) (tA:aN n1) (wj:aN n2) (ho:et I) (eT:fo.length=I.length) (cT:I.length≤64) (bV:cq mn mr=true) (Dk:mn=((I.length:Nat):Int)) (uJ:(cD mn mr n1 n2).isSome=true) (jG:l.length≤50000000) (H:HI M w w_ ([iL av I au,iL ax fo aw,oL w 92 dO l dN,iL aU mr aT]++r)):Calls aX 66 #[.agg #[.slice aC aE aB,sL av I au,sL ax fo aw],sL dO l dN,.agg #[U mn,sL aU mr aT],U n1,U n2] w_ (cZ fun v w'=>∃(wN:OA) (wH:Nat),v=.tuple #[.slice wN ((bq I fo l mn mr n1 n2).1).length wH,U ((bq I fo l mn mr n1 n2).2)]∧HI M w w' ([iL av I au,iL ax fo aw,oL w 92 wN ((bq I fo l mn mr n1 n2).1) wH,iL aU mr aT]++r)):=by
 refine enter 27 Tryz.func66 J J J fun f0 ha=>?_
 have iT:=bN<|H.rv 0 J
 have nn:=bN<|H.rv 1 J
 have xM:=oM<|H.at_ 2 J
 have lu:=bN<|H.rv 3 J
 have i0:f0 0=.agg #[.slice aC aE aB,sL av I au,sL ax fo aw]:=ha 0 bH
 have i1:f0 1=sL dO l dN:=ha 1 bH
 have i2:f0 2=.agg #[U mn,sL aU mr aT]:=ha 2 bH
 have i3:f0 3=U n1:=ha 3 bH
 have i4:f0 4=U n2:=ha 4 bH
 have ZS:=Gw bV uJ
 refine aH<|k<|bx H J i0 ?_
 let J1:=iL av I au
 let J2:=iL ax fo aw
 let J3:=oL w 92 dO l dN
 let J4:=iL aU mr aT
 let bC:=[J1,J2,J3,J4]
 intro aK w0 dt (H0:HI M w w0 ((box aK #[.slice aC aE aB,sL av I au,sL ax fo aw] 32::bC)++r))
 let J0:=box aK #[.slice aC aE aB,sL av I au,sL ax fo aw] 32
 refine k<|bx H0 J i2 ?_
 intro aW w1 cR (H1:HI M w w1 ((box aW #[U mn,sL aU mr aT] 68::J0::bC)++r))
 let J5:=box aW #[U mn,sL aU mr aT] 68
 refine aj (v:=.slice none 0 0) J J<|aj (v:=U 0) J J<|cU<|k<|cg H1 0 J bh J J aJ J<|ak J i3<|ak J i4<|k ?_
 have cx:=ND (mn:=mn) (mr:=mr) (i:=n1) (j:=n2) H1.mb fL (H1.rv 5 J) tA wj<|by exact bV
 refine ca adz J (ec J<|ec J<|ec J e0) cx ?_
 rintro _ w2 ⟨a0,c0,rfl,d_,cL⟩
 have H2:=H1.ic cL
 have H3:HI M w w2 ((oL w 3 a0 ((cD mn mr n1 n2).getD []) c0::J5::J0::bC)++r):=H2
 refine ak (v:=.tuple #[sL a0 ((cD mn mr n1 n2).getD []) c0,.bool ((cD mn mr n1 n2).isSome)]) J J<|k<|xt J J J<|k<|xt J J J<|aj (v:=sL a0 ((cD mn mr n1 n2).getD []) c0) J J<|aj (v:=.bool ((cD mn mr n1 n2).isSome)) J J<|cU<|k<|cg H3 2 J dn J J aJ J<|ak J i1<|ak (v:=sL a0 ((cD mn mr n1 n2).getD []) c0) J J<|k ?_
 have H4:=H3.freeze 0 J
 let J6:=iL a0 ((cD mn mr n1 n2).getD []) c0
 have H5:HI M w w2 ((J6::J5::J0::bC)++r):=H4
 have H6:HI M w w2 ([J1,J2,J3,J6]++([J5,J0,J4]++r)):=HI.ba (l:=(J6::J5::J0::bC)) (l':=[J1,J2,J3,J6,J5,J0,J4]) (t:=r) H5 [3,4,5,0,1,2,6] aJ J J
 have eF:=La (aC:=aC) (aE:=aE) (aB:=aB) (av:=av) (au:=au) (I:=I) (ax:=ax) (aw:=aw) (fo:=fo) (dO:=dO) (dN:=dN) (l:=l) (Ak:=a0) (Aj:=c0) (p:=((cD mn mr n1 n2).getD [])) (w:=w) (w_:=w2) (r:=([J5,J0,J4]++r)) (M:=M) (by exact ho) (by exact eT) (by exact cT) (by exact ZS.1) ai (by intro x_ h_;have wm:=Tk bV uJ h_;omega) ai H6
 refine ca ady J (ec J<|ec J<|ec J e0) eF ?_
 rintro _ w3 ⟨a1,c1,rfl,H7⟩
 let J7:=oL w 92 a1 ((jr I fo l ((cD mn mr n1 n2).getD []) (((cD mn mr n1 n2).getD []).length-2)).1) c1
 have H8:HI M w w3 ([J1,J2,J7,J6,J5,J0,J4]++r):=H7
 refine k<|xt J J J<|k<|xt J J J<|aj (v:=sL a1 ((jr I fo l ((cD mn mr n1 n2).getD [])<|((cD mn mr n1 n2).getD []).length-2).1) c1) J J<|aj (v:=U ((jr I fo l ((cD mn mr n1 n2).getD [])<|((cD mn mr n1 n2).getD []).length-2).2)) J J<|aG<|rt<|r2 J J J ?_
 have H9:=HI.ba (l:=[J1,J2,J7,J6,J5,J0,J4]) (l':=[J1,J2,J7,J4]) (t:=r) H8 [0,1,2,6] aJ J J
 have e0:((jr I fo l ((cD mn mr n1 n2).getD []) (((cD mn mr n1 n2).getD []).length-2)).2:Int)=(bq I fo l mn mr n1 n2).2:=rfl
 have e1:(((jr I fo l ((cD mn mr n1 n2).getD []) (((cD mn mr n1 n2).getD []).length-2)).1):List _)=((bq I fo l mn mr n1 n2).1):=rfl
 try rw[←e0]
 try rw[←e1]
 refine⟨a1,c1,?_,?_⟩
 · first|rfl|simp only[e0,e1]|(simp only[alP])
 · first|exact H9|simpa +zetaDelta only[e0,e1,alP] using H9
end Go.Proofs.YtefcbihikknlkaaGreatDoor
