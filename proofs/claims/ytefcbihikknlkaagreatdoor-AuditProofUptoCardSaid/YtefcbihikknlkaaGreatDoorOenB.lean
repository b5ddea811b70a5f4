/- PRINTED by my own tool (wip/tool/gen.py): contracts of Go functions of this seat, each with its proof. -/
import Derived.Test.YtefcbihikknlkaaGreatDoorWwnB
import Derived.Test.YtefcbihikknlkaaGreatDoorOenA
import Derived.Test.YtefcbihikknlkaaGreatDoorWwnC
import Derived.Test.YtefcbihikknlkaaGreatDoorWwnA
import Derived.Test.YtefcbihikknlkaaGreatDoorWwnD
set_option linter.unusedVariables false
set_option linter.unusedSimpArgs false
namespace Go.Proofs.YtefcbihikknlkaaGreatDoor
open Go.Ew Go.RowKit
set_option maxRecDepth 100000
set_option maxHeartbeats 1600000
attribute [local irreducible] WL WC SO PW PX Code.wp wpList qO cZ
attribute [local irreducible] eS oS iO fU ej y4 BC Is words dJ fH fZ fK uC
attribute [local irreducible] PZ WE
variable {M:bT} {w w_:aI}
variable {aC av ax aU dO:OA} {aE aB au cH aw aT dN:Nat} {I:List aR} {tt i j n mn o vr kd:Int} {a b:List bG} {mr:List (List bG)} {fo:az}
theorem HF:dq aX 127:=dy Tryz.func127
theorem yT:jt aX 85 0 0:=mu Tryz.underlying85
theorem OK:dq aX 112:=dy Tryz.func112
theorem Ka:jt aX 85 1 1:=mu Tryz.underlying85
theorem OG:dq aX 78:=dy Tryz.func78
theorem T9:dq aX 97:=dy Tryz.func97
theorem Dq:dq aX 36:=dy Tryz.func36
theorem Nr (hM:ei M w) (cX:cP M w av au I) (ho:et I) (cT:I.length≤4096):Calls aX 133 #[.agg #[.slice aC aE aB,sL av I au,.slice ax cH aw]] w (cZ fun v w'=>∃(a0:OA) (c0:Nat),v=.agg #[U (I.length:Int),.slice a0 (gP I).length c0]∧Ext w w'∧bm M 115 w (gP I) (.slice a0 (gP I).length c0) w'):=by
 refine dK 49 Tryz.func133 J J J hM fun f0 ha H=>?_
 have H0:=cj H cX
 have iT:=bN cX
 have i0:f0 0=.agg #[.slice aC aE aB,sL av I au,.slice ax cH aw]:=ha 0 bH
 refine aH<|k<|bx H0 J i0 ?_
 intro aK w0 dt (H1:HI M w w0 [box aK #[.slice aC aE aB,sL av I au,.slice ax cH aw] 32,iL av I au])
 refine k<|al H1 bh ?_
 let bC:=[box aK #[.slice aC aE aB,sL av I au,.slice ax cH aw] 32,iL av I au]
 intro aW w1 cR (H2:HI M w w1 (box aW #[U 0,.slice none 0 0] 68::bC))
 refine cU<|bo dh J J<|bR H2 1 J eR J J J<|k<|ep J J fj<|k ?_
 have cx:=L5 (n:=(I.length:Int)) H2.mb aY
 refine ca HF J (ec J e0) cx ?_
 rintro _ w2 ⟨a0,c0,rfl,d_,cL⟩
 have H3:=H2.ic cL
 refine ak (v:=.tuple #[.agg #[U (eK (I.length:Int)),sL a0 (bO (I.length:Int)) c0],U (ka (I.length:Int))]) J J<|k<|xt J J J<|k<|xt J J J<|k<|al H3 bh ?_
 let dk:=box aW #[U 0,.slice none 0 0] 68::bC
 intro bj w3 eG (H4:HI M w w3 (box bj #[U 0,.slice none 0 0] 68::oL w 115 a0 (bO (I.length:Int)) c0::dk))
 refine k<|cz H4 0 J bh J J J J J J J ?_
 intro w4 (H5:HI M w w4 (box bj #[U (eK (I.length:Int)),sL a0 (bO (I.length:Int)) c0] 68::oL w 115 a0 (bO (I.length:Int)) c0::dk))
 refine aj (v:=U (ka (I.length:Int))) J J<|aG<|sq<|sq ?_
 have Di:wY (I.length:Int)=true:=lN.2 ai
 obtain⟨en,er, -⟩:=kA Di
 refine rg<|bo dh J J<|bR H5 3 J eR J J J<|k<|ep J J fj<|k<|sub J J J J aY<|aj (v:=U ((I.length:Int)-2)) J J<|aG<|bk<|lp (fun m f w'=>∃(j:Nat) (xs:List (List bG)),m=I.length-j∧f 1=pV aK 0∧f 2=pV aW 0∧f 3=pV bj 0∧f 5=U ((I.length:Int)-2-(j:Int))∧HI M w w' (box bj #[U (eK (I.length:Int)),sL a0 (bO (I.length:Int)) c0] 68::own w.heap.size 115 (.slice a0 (bO (I.length:Int)).length c0) xs::dk)∧(j≤I.length)∧(xs.length=I.length)∧(xs=xI I ((I.length:Int)-2-(j:Int)))) _ ⟨0,(bO (I.length:Int)),J,J,J,J,(bJ J),H5,ai,(by rw[er,pj];simp),(by rw[er];exact NN _ _ ai)⟩ ?_
 rintro _ f0 w5 ⟨j,xs,rfl,s0,s1,s2,s3,H6,hk,hl,hs⟩
 refine sq<|aH<|ak J s3<|k<|geq J J J J<|z<|nx<|cd (b:=decide (0≤((I.length:Int)-2-(j:Int)))) J J (fun b0=>?_)<|fun b0=>?_
 ·
  have p0:=dT b0
  refine sk<|nx<|sq<|bk<|sq<|yY J bu<|kq (fun _ _=>fa dh J s0 e1)<|kq (fun _ x_=>lx (H6.ext x_) 3 J eR J J J e1)<|kq (fun _ _=>mv J s3 e1)<|hG (H6.rv 4 J) J J J J ai fj gB ?_
  intro fz x0 aq cN
  refine kq (fun _ _=>fa yT J J e1)<|fV (cN).fst.w aQ J J ?_
  intro eQ
  refine kq (fun _ _=>fa dh J s0 e1)<|kq (fun _ x_=>lx (H6.ext x_) 3 J eR J J J e1)<|kq (fun _ _=>mv J s3 e1)<|kq (fun _ _=>add J J J J aY e1)<|hG (H6.rv 4 J) J J J J ai fj gB ?_
  intro iG x1 cw eU
  refine kq (fun _ _=>fa yT J J e1)<|fV (eU).fst.w aQ J J ?_
  intro gh
  refine kq (fun _ _=>eql J J J J e1)<|zq ?_
  intro w6 eI
  have H7:=H6.ext eI
  refine nx<|cd (b:=decide (x0.1=x1.1)) J J (fun b1=>?_)<|fun b1=>?_
  ·
   have p1:=dT b1
   obtain⟨x2,dR⟩:∃x,xs[(((I.length:Int)-2-(j:Int))+1).toNat]? =some x:=⟨_,dW ai⟩
   refine dr 12 [eV (pV bj 1),eV (sL a0 (bO (I.length:Int)) c0),eV (U<|(I.length:Int)-2-(j:Int)),eV (pV bj 1),eV (sL a0 (bO (I.length:Int)) c0),eV (U<|(I.length:Int)-2-(j:Int)),eV (U<|((I.length:Int)-2-(j:Int))+1),fun v w'=>∃(g0:Nat),v=.pointer (some ⟨g0,(((I.length:Int)-2-(j:Int))+1).toNat*1,none⟩)∧(.slice a0 (bO (I.length:Int)).length c0:Value).ownBlock=some g0∧gq (MS M [box bj #[U (eK (I.length:Int)),sL a0 (bO (I.length:Int)) c0] 68,own w.heap.size 115 (.slice a0 (bO (I.length:Int)).length c0) xs,box aW #[U 0,.slice none 0 0] 68,box aK #[.slice aC aE aB,sL av I au,.slice ax cH aw] 32,iL av I au]) w' ⟨g0,(((I.length:Int)-2-(j:Int))+1).toNat*1,none⟩ x2,fun v w'=>∃(a1:OA) (c1:Nat),v=sL a1 x2 c1∧RV (MS M [box bj #[U (eK (I.length:Int)),sL a0 (bO (I.length:Int)) c0] 68,own w.heap.size 115 (.slice a0 (bO (I.length:Int)).length c0) xs,box aW #[U 0,.slice none 0 0] 68,box aK #[.slice aC aE aB,sL av I au,.slice ax cH aw] 32,iL av I au]) w' (sL a1 x2 c1) x2,eV (U<|(I.length:Int)-2-(j:Int)),eV (U<|((I.length:Int)-2-(j:Int))+1),fun v w'=>∃(a2:OA) (c2:Nat),v=sL a2 (ej x2<|((I.length:Int)-2-(j:Int))+1) c2∧RV (MS M [box bj #[U (eK (I.length:Int)),sL a0 (bO (I.length:Int)) c0] 68,own w.heap.size 115 (.slice a0 (bO (I.length:Int)).length c0) xs,box aW #[U 0,.slice none 0 0] 68,box aK #[.slice aC aE aB,sL av I au,.slice ax cH aw] 32,iL av I au]) w' (sL a2 (ej x2<|((I.length:Int)-2-(j:Int))+1) c2) (ej x2<|((I.length:Int)-2-(j:Int))+1)] J bu ?_ ?_
   ·
    refine dc (fun _ _ kC _ _=>fa iW J ((kC 3 J).trans s2)<|d0 J J)<|dc (fun _ _ _ je oW=>lx (H7.ext je) 0 J l8 J (oW 0 J J) J<|d0 J J)<|dc (fun _ _ l4 _ _=>mv J ((l4 5 J).trans s3)<|d0 J J)<|dc (fun _ _ qC _ _=>fa iW J ((qC 3 J).trans s2)<|d0 J J)<|dc (fun _ _ _ gv jk=>lx (H7.ext gv) 0 J l8 J (jk 3 J J) J<|d0 J J)<|dc (fun _ _ ns _ _=>mv J ((ns 5 J).trans s3)<|d0 J J)<|dc (fun _ _ _ _ kj=>add J J (kj 5 J J) J aY<|d0 J J) ?_
    refine⟨fun _=>⟨fun f8 lz qa kZ ll=>?_,by rintro _ _ _ x_ ⟨g0,e_,iC,gJ⟩;exact⟨g0,e_,iC,gJ.ext x_⟩⟩,?_⟩
    ·
     have gz:=H7.ext kZ
     have s7:f8 39=sL a0 (bO (I.length:Int)) c0:=ll 4 J J
     have s8:f8 41=U (((I.length:Int)-2-(j:Int))+1):=ll 6 J J
     refine jh (gz.at_ 1 J) J J s7 s8 ai iY eJ ?_
     intro g1 x3 lZ gX km
     obtain rfl:x2=x3:=alD (dR.symm.trans gX)
     exact⟨_,J,Ext.refl _,⟨g1,J,lZ,km⟩⟩
    refine⟨fun _=>⟨fun f9 mB oa qL jj=>?_,by rintro _ _ _ x_ ⟨a1,c1,e_,fQ⟩;exact⟨a1,c1,e_,fQ.lift (Up.ext x_)⟩⟩,?_⟩
    ·
     obtain⟨g2,s9,uQ,oD⟩:∃(g2:Nat),f9 42=.pointer (some ⟨g2,(((I.length:Int)-2-(j:Int))+1).toNat*1,none⟩)∧(.slice a0 (bO (I.length:Int)).length c0:Value).ownBlock=some g2∧gq (MS M [box bj #[U (eK (I.length:Int)),sL a0 (bO (I.length:Int)) c0] 68,own w.heap.size 115 (.slice a0 (bO (I.length:Int)).length c0) xs,box aW #[U 0,.slice none 0 0] 68,box aK #[.slice aC aE aB,sL av I au,.slice ax cH aw] 32,iL av I au]) mB ⟨g2,(((I.length:Int)-2-(j:Int))+1).toNat*1,none⟩ x2:=jj 7 rfl rfl
     refine vR oD eJ J s9 ?_
     intro a3 c3 lk
     exact⟨_,J,Ext.refl _,⟨a3,c3,J,lk⟩⟩
    refine dc (fun _ _ r6 _ _=>mv J ((r6 5 J).trans s3)<|d0 J J)<|dc (fun _ _ _ _ iz=>add J J (iz 9 J J) J aY<|d0 J J) ?_
    refine⟨fun _=>⟨fun f12 kJ pq tc jI=>?_,by rintro _ _ _ x_ ⟨a2,c2,e_,gl⟩;exact⟨a2,c2,e_,gl.lift (Up.ext x_)⟩⟩,?_⟩
    ·
     have lT:=H7.ext tc
     obtain⟨a4,c4,ew,lM⟩:∃(a4:OA) (c4:Nat),f12 43=sL a4 x2 c4∧RV (MS M [box bj #[U (eK (I.length:Int)),sL a0 (bO (I.length:Int)) c0] 68,own w.heap.size 115 (.slice a0 (bO (I.length:Int)).length c0) xs,box aW #[U 0,.slice none 0 0] 68,box aK #[.slice aC aE aB,sL av I au,.slice ax cH aw] 32,iL av I au]) kJ (sL a4 x2 c4) x2:=jI 8 rfl rfl
     have pc:=cj lT lM
     have eE:f12 45=U (((I.length:Int)-2-(j:Int))+1):=jI 10 J J
     have gS:=E5 (r:=x2) (i:=(((I.length:Int)-2-(j:Int))+1)) pc.mb (pc.rv 0 J) aY<|by have h_:=Ti (hs▸dR);have wm:=K4 (n:=I.length) ai;omega
     refine ca OK J (ec ew<|ec eE e0) gS ?_
     rintro _ ow ⟨a5,c5,rfl,vq,ml⟩
     have kK:=bm.rv ml pc.mb
     exact⟨_,J,vq,⟨a5,c5,J,(gY J kK)⟩⟩
    exact gp.rest J _
   ·
    intro f13 kv wb qK kg
    have kt:=H7.ext qK
    have fc:=(wb 1 J).trans s0
    have fJ:=(wb 2 J).trans s1
    have fw:=(wb 3 J).trans s2
    have fX:=(wb 5 J).trans s3
    have gF:=kg 1 J
    have gL:=kg 2 J
    obtain⟨a6,c6,gE,lD⟩:∃(a6:OA) (c6:Nat),f13 46=sL a6 (ej x2 (((I.length:Int)-2-(j:Int))+1)) c6∧RV (MS M [box bj #[U (eK (I.length:Int)),sL a0 (bO (I.length:Int)) c0] 68,own w.heap.size 115 (.slice a0 (bO (I.length:Int)).length c0) xs,box aW #[U 0,.slice none 0 0] 68,box aK #[.slice aC aE aB,sL av I au,.slice ax cH aw] 32,iL av I au]) kv (sL a6 (ej x2 (((I.length:Int)-2-(j:Int))+1)) c6) (ej x2 (((I.length:Int)-2-(j:Int))+1)):=kg 11 rfl
    have lJ:=kt.put (it:=iL a6 (ej x2<|((I.length:Int)-2-(j:Int))+1) c6) J lD
    refine k<|jh (lJ.at_ 2 J) J J gF gL ai iY eJ ?_
    intro g3 x4 vX jT qe
    refine k<|rO lJ 2 J vX J ai eJ J J J gE (lJ.rv 0 J) ?_
    intro nU (kH:HI M w nU (iL a6 (ej x2 (((I.length:Int)-2-(j:Int))+1)) c6::box bj #[U (eK (I.length:Int)),sL a0 (bO (I.length:Int)) c0] 68::own w.heap.size 115 (.slice a0 (bO (I.length:Int)).length c0) (xs.set (((I.length:Int)-2-(j:Int)).toNat) (ej x2 (((I.length:Int)-2-(j:Int))+1)))::dk))
    refine z<|aF<|nx<|rg<|ak J fX<|k<|sub J J J J aY<|aj (v:=U (((I.length:Int)-2-(j:Int))-1)) J J<|z ?_
    have rn:HI M w nU (box bj #[U (eK (I.length:Int)),sL a0 (bO (I.length:Int)) c0] 68::own w.heap.size 115 (.slice a0 (bO (I.length:Int)).length c0) (xs.set (((I.length:Int)-2-(j:Int)).toNat) (ej x2 (((I.length:Int)-2-(j:Int))+1)))::dk):=kH.c_ [1,2,3,4,5] aJ J
    refine bD _ ?_ ⟨(j+1),(xs.set (((I.length:Int)-2-(j:Int)).toNat) (ej x2<|((I.length:Int)-2-(j:Int))+1)),J,fc,fJ,fw,(bJ J),rn,ai,(by simpa using hl),(by rw[show ((I.length:Int)-2-(((j+1:Nat):Nat):Int))=((I.length:Int)-2-(j:Int))-1 from by omega];first|((have h_:=kM (t:=((I.length:Int)-2-(j:Int))) ai ai (by rw[fh aq,fh cw];exact p1) (hs▸dR);rw[←h_,←hs]))|((have h_:=kM (t:=((I.length:Int)-2-(j:Int))) ai ai (by rw[fh aq,fh cw];exact p1) (hs▸gX);rw[←h_,←hs]))|((have h_:=kM (t:=((I.length:Int)-2-(j:Int))) ai ai (by rw[fh aq,fh cw];exact p1) (hs▸jT);rw[←h_,←hs]))|((have h_:=kM (t:=((I.length:Int)-2-(j:Int))) ai ai (by rw[fh aq,fh cw];exact p1) (hs▸lF);rw[←h_,←hs]))|((have h_:=kM (t:=((I.length:Int)-2-(j:Int))) ai ai (by rw[fh aq,fh cw];exact p1) (hs▸nq);rw[←h_,←hs]))|((have h_:=kM (t:=((I.length:Int)-2-(j:Int))) ai ai (by rw[fh aq,fh cw];exact p1) (hs▸GM);rw[←h_,←hs]))|(rw[hs];exact D1 ho ai ai (by rw[fh aq,fh cw];exact p1)))⟩
    omega
  have p1:=dF b1
  refine sk<|aF<|nx<|rg<|ak J s3<|k<|sub J J J J aY<|aj (v:=U (((I.length:Int)-2-(j:Int))-1)) J J<|z<|bD _ ?_ ⟨(j+1),xs,J,s0,s1,s2,(bJ J),H7,ai,cG,(by rw[show ((I.length:Int)-2-(((j+1:Nat):Nat):Int))=((I.length:Int)-2-(j:Int))-1 from by omega];first|((have h_:=kM (t:=((I.length:Int)-2-(j:Int))) ai ai (by rw[fh aq,fh cw];exact p1) (hs▸dR);rw[←h_,←hs]))|((have h_:=kM (t:=((I.length:Int)-2-(j:Int))) ai ai (by rw[fh aq,fh cw];exact p1) (hs▸gX);rw[←h_,←hs]))|((have h_:=kM (t:=((I.length:Int)-2-(j:Int))) ai ai (by rw[fh aq,fh cw];exact p1) (hs▸jT);rw[←h_,←hs]))|((have h_:=kM (t:=((I.length:Int)-2-(j:Int))) ai ai (by rw[fh aq,fh cw];exact p1) (hs▸lF);rw[←h_,←hs]))|((have h_:=kM (t:=((I.length:Int)-2-(j:Int))) ai ai (by rw[fh aq,fh cw];exact p1) (hs▸nq);rw[←h_,←hs]))|((have h_:=kM (t:=((I.length:Int)-2-(j:Int))) ai ai (by rw[fh aq,fh cw];exact p1) (hs▸GM);rw[←h_,←hs]))|(rw[hs];exact D1 ho ai ai (by rw[fh aq,fh cw];exact p1)))⟩
  omega
 have p0:=dF b0
 refine ex<|bg<|bt<|bz<|dM<|k<|cg H6 0 J bh J s2 aJ J<|k<|cz H6 2 J bh J J s1 J J J J ?_
 intro w6 (H7:HI M w w6 (box bj #[U (eK (I.length:Int)),sL a0 (bO (I.length:Int)) c0] 68::own w.heap.size 115 (.slice a0 (bO (I.length:Int)).length c0) xs::box aW #[U (eK (I.length:Int)),sL a0 (bO (I.length:Int)) c0] 68::bC))
 refine aG<|rt<|vI H7 2 J bh J J s1 J aJ ?_
 have e0:(eK (I.length:Int):Int)=(I.length:Int):=by rw[en]
 have e1:(xs:List (List bG))=gP I:=by rw[hs];exact Tj ai
 have l1:(bO (I.length:Int)).length=(gP I).length:=by rw[er,pj,W3];simp
 have bF:=sd (fun (cK:Int) (yp:Nat)=>(.agg #[U cK,.slice a0 yp c0]:Value)) e0 l1
 exact⟨a0,c0,bF,H7.below,(alB (fun (n_:Nat)=>bm _ _ _ (gP I) (.slice a0 n_ c0) _) l1).mp ((alB (fun (x_:List (List bG))=>bm _ _ _ x_ (.slice a0 (bO (I.length:Int)).length c0) _) e1).mp (H7.cB 1 J))⟩
theorem Iz (hM:ei M w) (cX:cP M w av au I) (aal:aN tt) (ho:et I) (cT:I.length≤4096):Calls aX 89 #[.agg #[.slice aC aE aB,sL av I au,.slice ax cH aw],U tt] w (cZ fun v w'=>∃(a0:OA) (c0:Nat),v=.slice a0 (fG I tt).length c0∧Ext w w'∧bm M 3 w (fG I tt) (.slice a0 (fG I tt).length c0) w'):=by
 refine dK 41 Tryz.func89 J J J hM fun f0 ha H=>?_
 have H0:=cj H cX
 have iT:=bN cX
 have i0:f0 0=.agg #[.slice aC aE aB,sL av I au,.slice ax cH aw]:=ha 0 bH
 have i1:f0 1=U tt:=ha 1 bH
 refine aH<|k<|bx H0 J i0 ?_
 intro aK w0 dt (H1:HI M w w0 [box aK #[.slice aC aE aB,sL av I au,.slice ax cH aw] 32,iL av I au])
 refine aj (v:=.slice none 0 0) J J<|aG<|sq<|aH<|ak J i1<|k<|lss J J J J<|ak (v:=.bool (decide (tt<0))) J J ?_
 rcases bE (decide (tt<0)) with b0|b0
 ·
  have p0:=dT b0
  refine aD J J J b0<|aD J J J b0<|aD J J J b0<|aD J J J b0<|aD J J J b0<|k<|ba J J J J b0 J<|aG<|nP J J J<|aH<|aj (v:=.slice none 0 0) J J<|aG<|rt<|aS<|r1 J J ?_
  have e0:([]:az)=fG I tt:=by exact C9 ai
  have bF:=fu (fun (cK:az)=>(.slice none cK.length 0:Value)) e0
  exact⟨none,0,bF,H1.below,(alB (fun (x_:az)=>bm _ _ _ x_ (.slice none x_.length 0) _) e0).mp (gQ H1.below)⟩
 have p0:=dF b0
 refine aM J J J b0<|mv J i1<|aM J J J b0<|fa dh J J<|aM J J J b0<|lx H1 0 J eR J J J<|aM J J J b0<|ep J J fj<|aM J J J b0<|geq J J J J<|k<|bc J J J J b0 J<|z<|nx<|cd (b:=decide ((I.length:Int)≤tt)) J J (fun b1=>?_)<|fun b1=>?_
 ·
  have p1:=dT b1
  refine aH<|aj (v:=.slice none 0 0) J J<|aG<|rt<|aS<|r1 J J ?_
  have e0:([]:az)=fG I tt:=by exact C9 ai
  have bF:=fu (fun (cK:az)=>(.slice none cK.length 0:Value)) e0
  exact⟨none,0,bF,H1.below,(alB (fun (x_:az)=>bm _ _ _ x_ (.slice none x_.length 0) _) e0).mp (gQ H1.below)⟩
 have p1:=dF b1
 refine sk<|dM<|ak J i1<|bo dh J J<|bR H1 0 J eR J J J<|ak J i1<|k<|ia (H1.rv 1 J) J J J J ai fj gB ?_
 intro fz x0 aq cN
 refine bo Ka J J<|k<|kB ((cN).s1).fst.w aQ J J ?_
 intro cL
 refine k<|sub J J J J (by have Oy:=ho.vO tt.toNat ai;have TO:=(ho.back tt.toNat ai).1;rw[yb aq] at Oy TO;unfold aN;omega)<|aj (v:=U (tt-x0.2.1)) J J<|aG<|sq ?_
 have Oy:=ho.vO tt.toNat ai
 have TO:=(ho.back tt.toNat ai).1
 rw[yb aq] at Oy TO
 refine rg<|ak J i1<|ak (v:=U (tt-x0.2.1)) J J<|k<|sub J J J J aY<|k<|add J J J J aY<|k ?_
 have n0:((((tt-(tt-x0.2.1))+1).toNat:Nat):Int)=(tt-(tt-x0.2.1))+1:=alJ ai
 refine mk0 (α:=Int) (m:=((tt-(tt-x0.2.1))+1).toNat) H1 J J J (by rw[n0];exact rfl) cY aQ ai ai ?_
 let bC:=[box aK #[.slice aC aE aB,sL av I au,.slice ax cH aw] 32,iL av I au]
 intro g0 w1 cR (H2:HI M w w1 (own w.heap.size 3 (.slice (some ⟨g0,0,none⟩) 0 (((tt-(tt-x0.2.1))+1).toNat)) ([]:az)::bC))
 refine aj (v:=.slice (some ⟨g0,0,none⟩) 0 (((tt-(tt-x0.2.1))+1).toNat)) J J<|aG<|sq<|aH<|ak (v:=U (tt-x0.2.1)) J J<|aj (v:=U (tt-x0.2.1)) J J<|aG<|bk<|lp (fun m f w'=>∃(q:Nat) (xs:az) (a0:OA) (c0:Nat),m=(x0.2.1+1).toNat-q∧f 1=U tt∧f 6=sL a0 xs c0∧f 7=U (tt-x0.2.1+(q:Int))∧HI M w w' (oL w 3 a0 xs c0::bC)∧((q:Int)≤x0.2.1+1)∧(xs=tT (tt-x0.2.1) q)) _ ⟨0,([]:az),(some ⟨g0,0,none⟩),(((tt-(tt-x0.2.1))+1).toNat),J,i1,J,(bJ J),H2,ai,(by rfl)⟩ ?_
 rintro _ f0 w2 ⟨q,xs,a0,c0,rfl,s0,s1,s2,H3,jw,hs⟩
 refine sq<|aH<|ak J s2<|ak J s0<|k<|leq J J J J<|z<|nx<|cd (b:=decide ((tt-x0.2.1+(q:Int))≤tt)) J J (fun b2=>?_)<|fun b2=>?_
 ·
  have p2:=dT b2
  refine sk<|nx<|sq<|bk<|rg<|ak J s1<|ak J s2<|k<|bs (xs:=([(tt-x0.2.1+(q:Int))]:az)) (cells:=#[U (tt-x0.2.1+(q:Int))]) (e:=3) H3 J (ct J eo) (fun _=>bu) ⟨[U (tt-x0.2.1+(q:Int))],[],J,⟨J,(show aN ((tt-x0.2.1+(q:Int))) from aY)⟩,J⟩ J aJ ?_
  intro g1 w3 d_ H4
  refine k<|kE H4 1 J J J J J J (fD<|H4.at_ 0 J) cY aQ J (by rw[hs,NR];simp only[jv,gW];omega) J ?_
  intro a1 c1 w4 (H5:HI M w w4 (own w.heap.size 3 (.slice (some ⟨g1,0,none⟩) 1 1) ([(tt-x0.2.1+(q:Int))]:az)::oL w 3 a1 (xs++([(tt-x0.2.1+(q:Int))]:az)) c1::bC))
  refine aj (v:=sL a1 (xs++([(tt-x0.2.1+(q:Int))]:az)) c1) J J<|z<|aF<|nx<|rg<|ak J s2<|k<|add J J J J aY<|aj (v:=U ((tt-x0.2.1+(q:Int))+1)) J J<|z ?_
  have H6:HI M w w4 (oL w 3 a1 (xs++([(tt-x0.2.1+(q:Int))]:az)) c1::bC):=H5.c_ [1,2,3] aJ J
  refine bD _ ?_ ⟨(q+1),(xs++([(tt-x0.2.1+(q:Int))]:az)),a1,c1,J,s0,J,(bJ J),H6,ai,(by rw[hs];exact Lk _ _)⟩
  omega
 have p2:=dF b2
 refine ex<|bg<|bt<|bz<|dM<|ak J s1<|aj (v:=sL a0 xs c0) J J<|aG<|rt<|r1 J J ?_
 have e0:(xs:az)=fG I tt:=by rw[hs];exact P9 ai ai aq Oy ai
 have bF:=fu (fun (cK:az)=>(.slice a0 cK.length c0:Value)) e0
 exact⟨a0,c0,bF,H3.below,(alB (fun (x_:az)=>bm _ _ _ x_ (.slice a0 x_.length c0) _) e0).mp (H3.cB 0 J)⟩
theorem xH (hM:ei M w) (cX:cP M w av au I) (nt:aN i) (Bm:aN j):Calls aX 97 #[.agg #[.slice aC aE aB,sL av I au,.slice ax cH aw],U i,U j] w (cZ fun v w'=>v=.bool (sf I i j)∧Ext w w'):=by
 refine dK 57 Tryz.func97 J J J hM fun f0 ha H=>?_
 have H0:=cj H cX
 have iT:=bN cX
 have i0:f0 0=.agg #[.slice aC aE aB,sL av I au,.slice ax cH aw]:=ha 0 bH
 have i1:f0 1=U i:=ha 1 bH
 have i2:f0 2=U j:=ha 2 bH
 refine aH<|k<|bx H0 J i0 ?_
 intro aK w0 dt (H1:HI M w w0 [box aK #[.slice aC aE aB,sL av I au,.slice ax cH aw] 32,iL av I au])
 refine aj (v:=.bool false) J J<|aG<|sq<|yY J bu<|kq (fun _ _=>mv J i1 e1)<|kq (fun _ _=>geq J J J J e1)<|kq (fun _ _=>mv (v:=.bool (decide (0≤i))) J J e1) ?_
 rcases bE (decide (0≤i)) with b0|b0
 ·
  have p0:=dT b0
  refine qy J J J b0<|kq (fun _ _=>mv J i2 e1)<|qy J J J b0<|kq (fun _ _=>geq J J J J e1)<|kq (fun _ _=>ba J J J J b0 J e1)<|kq (fun _ _=>mv (v:=.bool (decide (0≤j))) J J e1) ?_
  rcases bE (decide (0≤j)) with b1|b1
  ·
   have p1:=dT b1
   refine qy J J J b1<|kq (fun _ _=>mv J i1 e1)<|qy J J J b1<|kq (fun _ _=>fa dh J J e1)<|qy J J J b1<|kq (fun _ x_=>lx (H1.ext x_) 0 J eR J J J e1)<|qy J J J b1<|kq (fun _ _=>ep J J fj e1)<|qy J J J b1<|kq (fun _ _=>lss J J J J e1)<|kq (fun _ _=>ba J J J J b1 J e1)<|kq (fun _ _=>mv (v:=.bool (decide (i<(I.length:Int)))) J J e1) ?_
   rcases bE (decide (i<(I.length:Int))) with b2|b2
   ·
    have p2:=dT b2
    refine qy J J J b2<|kq (fun _ _=>mv J i2 e1)<|qy J J J b2<|kq (fun _ _=>fa dh J J e1)<|qy J J J b2<|kq (fun _ x_=>lx (H1.ext x_) 0 J eR J J J e1)<|qy J J J b2<|kq (fun _ _=>ep J J fj e1)<|qy J J J b2<|kq (fun _ _=>lss J J J J e1)<|kq (fun _ _=>ba J J J J b2 J e1)<|kq (fun _ _=>mv (v:=.bool (decide (j<(I.length:Int)))) J J e1) ?_
    rcases bE (decide (j<(I.length:Int))) with b3|b3
    ·
     have p3:=dT b3
     refine qy J J J b3<|kq (fun _ _=>fa dh J J e1)<|qy J J J b3<|kq (fun _ x_=>lx (H1.ext x_) 0 J eR J J J e1)<|qy J J J b3<|kq (fun _ _=>mv J i1 e1)<|qy J J J b3<|hG (H1.rv 1 J) J J J J ai fj gB ?_
     intro fz x0 aq cN
     refine qy J J J b3<|kq (fun _ _=>fa yT J J e1)<|qy J J J b3<|fV (cN).fst.w aQ J J ?_
     intro cL
     refine qy J J J b3<|kq (fun _ _=>fa dh J J e1)<|qy J J J b3<|kq (fun _ x_=>lx (H1.ext x_) 0 J eR J J J e1)<|qy J J J b3<|kq (fun _ _=>mv J i2 e1)<|qy J J J b3<|hG (H1.rv 1 J) J J J J ai fj gB ?_
     intro iG x1 cw eU
     refine qy J J J b3<|kq (fun _ _=>fa yT J J e1)<|qy J J J b3<|fV (eU).fst.w aQ J J ?_
     intro eQ
     refine qy J J J b3<|kq (fun _ _=>eql J J J J e1)<|kq (fun _ _=>ba J J J J b3 J e1)<|kq (fun _ _=>mv (v:=.bool (decide (x0.1=x1.1))) J J e1) ?_
     rcases bE (decide (x0.1=x1.1)) with b4|b4
     ·
      have p4:=dT b4
      refine qy J J J b4<|kq (fun _ _=>fa dh J J e1)<|qy J J J b4<|kq (fun _ x_=>lx (H1.ext x_) 0 J eR J J J e1)<|qy J J J b4<|kq (fun _ _=>mv J i1 e1)<|qy J J J b4<|hG (H1.rv 1 J) J J J J ai fj gB ?_
      intro kX x_ ki gJ
      obtain rfl:x0=x_:=alD (aq.symm.trans ki)
      refine qy J J J b4<|kq (fun _ _=>fa Ka J J e1)<|qy J J J b4<|fV ((gJ).s1).fst.w aQ J J ?_
      intro gh
      refine qy J J J b4<|kq (fun _ _=>fa dh J J e1)<|qy J J J b4<|kq (fun _ x_=>lx (H1.ext x_) 0 J eR J J J e1)<|qy J J J b4<|kq (fun _ _=>mv J i2 e1)<|qy J J J b4<|hG (H1.rv 1 J) J J J J ai fj gB ?_
      intro jc x_ ki km
      obtain rfl:x1=x_:=alD (cw.symm.trans ki)
      refine qy J J J b4<|kq (fun _ _=>fa Ka J J e1)<|qy J J J b4<|fV ((km).s1).fst.w aQ J J ?_
      intro fQ
      refine qy J J J b4<|kq (fun _ _=>lss J J J J e1)<|kq (fun _ _=>ba J J J J b4 J e1)<|kq (fun _ _=>gH (v:=.bool (decide (x0.2.1<x1.2.1))) J J e1)<|zq ?_
      intro w1 cR
      have H2:=H1.ext cR
      refine nx<|rt<|r1 J J ?_
      exact⟨alB Value.bool (by exact X7 ai ai ai ai aq cw cG),H2.below⟩
     have p4:=dF b4
     refine qn J J J b4<|qn J J J b4<|qn J J J b4<|qn J J J b4<|qn J J J b4<|qn J J J b4<|qn J J J b4<|qn J J J b4<|qn J J J b4<|qn J J J b4<|qn J J J b4<|qn J J J b4<|qn J J J b4<|kq (fun _ _=>bc J J J J b4 J e1)<|kq (fun _ _=>gH (v:=.bool false) J J e1)<|zq ?_
     intro w1 cR
     have H2:=H1.ext cR
     refine nx<|rt<|r1 J J ?_
     exact⟨alB Value.bool (by exact X8 aq cw cG),H2.below⟩
    have p3:=dF b3
    refine qn J J J b3<|qn J J J b3<|qn J J J b3<|qn J J J b3<|qn J J J b3<|qn J J J b3<|qn J J J b3<|qn J J J b3<|qn J J J b3<|qn J J J b3<|qn J J J b3<|qn J J J b3<|qn J J J b3<|kq (fun _ _=>bc J J J J b3 J e1)<|kq (fun _ _=>mv (v:=.bool false) J J e1)<|qn J J J J<|qn J J J J<|qn J J J J<|qn J J J J<|qn J J J J<|qn J J J J<|qn J J J J<|qn J J J J<|qn J J J J<|qn J J J J<|qn J J J J<|qn J J J J<|qn J J J J<|kq (fun _ _=>bc J J J J J J e1)<|kq (fun _ _=>gH (v:=.bool false) J J e1)<|zq ?_
    intro w1 cR
    have H2:=H1.ext cR
    refine nx<|rt<|r1 J J ?_
    exact⟨alB Value.bool (by exact EM ai),H2.below⟩
   have p2:=dF b2
   refine qn J J J b2<|qn J J J b2<|qn J J J b2<|qn J J J b2<|qn J J J b2<|kq (fun _ _=>bc J J J J b2 J e1)<|kq (fun _ _=>mv (v:=.bool false) J J e1)<|qn J J J J<|qn J J J J<|qn J J J J<|qn J J J J<|qn J J J J<|qn J J J J<|qn J J J J<|qn J J J J<|qn J J J J<|qn J J J J<|qn J J J J<|qn J J J J<|qn J J J J<|kq (fun _ _=>bc J J J J J J e1)<|kq (fun _ _=>mv (v:=.bool false) J J e1)<|qn J J J J<|qn J J J J<|qn J J J J<|qn J J J J<|qn J J J J<|qn J J J J<|qn J J J J<|qn J J J J<|qn J J J J<|qn J J J J<|qn J J J J<|qn J J J J<|qn J J J J<|kq (fun _ _=>bc J J J J J J e1)<|kq (fun _ _=>gH (v:=.bool false) J J e1)<|zq ?_
   intro w1 cR
   have H2:=H1.ext cR
   refine nx<|rt<|r1 J J ?_
   exact⟨alB Value.bool (by exact EM ai),H2.below⟩
  have p1:=dF b1
  refine qn J J J b1<|qn J J J b1<|qn J J J b1<|qn J J J b1<|qn J J J b1<|kq (fun _ _=>bc J J J J b1 J e1)<|kq (fun _ _=>mv (v:=.bool false) J J e1)<|qn J J J J<|qn J J J J<|qn J J J J<|qn J J J J<|qn J J J J<|kq (fun _ _=>bc J J J J J J e1)<|kq (fun _ _=>mv (v:=.bool false) J J e1)<|qn J J J J<|qn J J J J<|qn J J J J<|qn J J J J<|qn J J J J<|qn J J J J<|qn J J J J<|qn J J J J<|qn J J J J<|qn J J J J<|qn J J J J<|qn J J J J<|qn J J J J<|kq (fun _ _=>bc J J J J J J e1)<|kq (fun _ _=>mv (v:=.bool false) J J e1)<|qn J J J J<|qn J J J J<|qn J J J J<|qn J J J J<|qn J J J J<|qn J J J J<|qn J J J J<|qn J J J J<|qn J J J J<|qn J J J J<|qn J J J J<|qn J J J J<|qn J J J J<|kq (fun _ _=>bc J J J J J J e1)<|kq (fun _ _=>gH (v:=.bool false) J J e1)<|zq ?_
  intro w1 cR
  have H2:=H1.ext cR
  refine nx<|rt<|r1 J J ?_
  exact⟨alB Value.bool (by exact EM ai),H2.below⟩
 have p0:=dF b0
 refine qn J J J b0<|qn J J J b0<|kq (fun _ _=>bc J J J J b0 J e1)<|kq (fun _ _=>mv (v:=.bool false) J J e1)<|qn J J J J<|qn J J J J<|qn J J J J<|qn J J J J<|qn J J J J<|kq (fun _ _=>bc J J J J J J e1)<|kq (fun _ _=>mv (v:=.bool false) J J e1)<|qn J J J J<|qn J J J J<|qn J J J J<|qn J J J J<|qn J J J J<|kq (fun _ _=>bc J J J J J J e1)<|kq (fun _ _=>mv (v:=.bool false) J J e1)<|qn J J J J<|qn J J J J<|qn J J J J<|qn J J J J<|qn J J J J<|qn J J J J<|qn J J J J<|qn J J J J<|qn J J J J<|qn J J J J<|qn J J J J<|qn J J J J<|qn J J J J<|kq (fun _ _=>bc J J J J J J e1)<|kq (fun _ _=>mv (v:=.bool false) J J e1)<|qn J J J J<|qn J J J J<|qn J J J J<|qn J J J J<|qn J J J J<|qn J J J J<|qn J J J J<|qn J J J J<|qn J J J J<|qn J J J J<|qn J J J J<|qn J J J J<|qn J J J J<|kq (fun _ _=>bc J J J J J J e1)<|kq (fun _ _=>gH (v:=.bool false) J J e1)<|zq ?_
 intro w1 cR
 have H2:=H1.ext cR
 refine nx<|rt<|r1 J J ?_
 exact⟨alB Value.bool (by exact EM ai),H2.below⟩
theorem Ta (hM:ei M w) (cX:cP M w av au I) (ho:et I) (cT:I.length≤4096):Calls aX 99 #[.agg #[.slice aC aE aB,sL av I au,.slice ax cH aw]] w (cZ fun v w'=>∃(a0:OA) (c0:Nat),v=.agg #[U (I.length:Int),.slice a0 (gP I).length c0]∧Ext w w'∧RV M w' (.slice a0 (gP I).length c0) (gP I)):=by
 refine dK 40 Tryz.func99 J J J hM fun f0 ha H=>?_
 have H0:=cj H cX
 have iT:=bN cX
 have i0:f0 0=.agg #[.slice aC aE aB,sL av I au,.slice ax cH aw]:=ha 0 bH
 refine aH<|k<|bx H0 J i0 ?_
 intro aK w0 dt (H1:HI M w w0 [box aK #[.slice aC aE aB,sL av I au,.slice ax cH aw] 32,iL av I au])
 refine k<|al H1 bh ?_
 let bC:=[box aK #[.slice aC aE aB,sL av I au,.slice ax cH aw] 32,iL av I au]
 intro aW w1 cR (H2:HI M w w1 (box aW #[U 0,.slice none 0 0] 68::bC))
 refine cU<|bo dh J J<|bR H2 1 J eR J J J<|k<|ep J J fj<|k ?_
 have cx:=wX (n:=(I.length:Int)) H2.mb aY
 refine ca OG J (ec J e0) cx ?_
 rintro _ w2 ⟨a0,c0,rfl,d_,cL⟩
 have H3:=H2.ic cL
 refine ak (v:=.tuple #[.agg #[U (eK (I.length:Int)),sL a0 (bO (I.length:Int)) c0],U (ka (I.length:Int))]) J J<|k<|xt J J J<|k<|xt J J J<|k<|al H3 bh ?_
 let dk:=box aW #[U 0,.slice none 0 0] 68::bC
 intro bj w3 eG (H4:HI M w w3 (box bj #[U 0,.slice none 0 0] 68::oL w 115 a0 (bO (I.length:Int)) c0::dk))
 refine k<|cz H4 0 J bh J J J J J J J ?_
 intro w4 (H5:HI M w w4 (box bj #[U (eK (I.length:Int)),sL a0 (bO (I.length:Int)) c0] 68::oL w 115 a0 (bO (I.length:Int)) c0::dk))
 refine aj (v:=U (ka (I.length:Int))) J J<|aG<|sq<|sq ?_
 have Di:wY (I.length:Int)=true:=lN.2 ai
 obtain⟨en,er, -⟩:=kA Di
 refine rg<|aj (v:=U 0) J J<|aG<|bk ?_
 have H6:=H5.freeze 1 J
 have H7:=cj H6<|H6.rv 1 J
 let dv:=iL a0 (bO (I.length:Int)) c0::dk
 refine lp (fun m f w'=>∃(i:Nat) (n_:Int) (rs:List (List bG)) (a1:OA) (c1:Nat),m=I.length-i∧f 1=pV aK 0∧f 2=pV aW 0∧f 3=pV bj 0∧f 5=U (i:Int)∧HI M w w' (iL a1 rs c1::box bj #[U n_,sL a1 rs c1] 68::dv)∧(i≤I.length)∧(n_=(I.length:Int))∧(rs=z7 I i 0)) _ ⟨0,(eK (I.length:Int)),(bO (I.length:Int)),a0,c0,J,J,J,J,(bJ J),H7,ai,(by exact en),(by rw[er];exact P2 I)⟩ ?_
 rintro _ f0 w5 ⟨i,n_,rs,a1,c1,rfl,s0,s1,s2,s3,H8,yI,h1,h2⟩
 refine sq<|aH<|ak J s3<|bo dh J s0<|bR H8 4 J eR J J J<|k<|ep J J fj<|k<|lss J J J J<|z<|nx<|cd (b:=decide ((i:Int)<(I.length:Int))) J J (fun b0=>?_)<|fun b0=>?_
 ·
  have p0:=dT b0
  refine sk<|nx<|sq<|bk<|aH<|aj (v:=U 0) J J<|aG<|bk ?_
  have H9:=cj H8<|H8.rv 0 J
  refine lp (fun m f w'=>∃(j:Nat) (cp:Int) (fY:List (List bG)) (a2:OA) (c2:Nat),m=I.length-j∧f 1=pV aK 0∧f 2=pV aW 0∧f 3=pV bj 0∧f 5=U (i:Int)∧f 6=U (j:Int)∧HI M w w' (iL a2 fY c2::iL a1 rs c1::box bj #[U cp,sL a2 fY c2] 68::dv)∧(j≤I.length)∧(cp=(I.length:Int))∧(fY=z7 I i j)) _ ⟨0,n_,rs,a1,c1,J,s0,s1,s2,s3,(bJ J),H9,ai,(by exact h1),(by exact h2)⟩ ?_
  rintro _ f1 w6 ⟨j,cp,fY,a2,c2,rfl,s4,s5,s6,s7,s8,db,Vz,g1,g2⟩
  refine sq<|aH<|ak J s8<|bo dh J s4<|bR db 5 J eR J J J<|k<|ep J J fj<|k<|lss J J J J<|z<|nx<|cd (b:=decide ((j:Int)<(I.length:Int))) J J (fun b1=>?_)<|fun b1=>?_
  ·
   have p1:=dT b1
   refine sk<|nx<|sq<|bk<|aH<|k<|cg db 5 J dn J s4 aJ J<|ak J s7<|ak J s8<|k ?_
   have eF:=xH (I:=I) (i:=(i:Int)) (j:=(j:Int)) (aC:=aC) (aE:=aE) (aB:=aB) (ax:=ax) (cH:=cH) (aw:=aw) db.mb (db.rv 6 J) aY aY
   refine ca T9 J (ec J<|ec J<|ec J e0) eF ?_
   rintro _ w7 ⟨rfl,eI⟩
   have da:=db.ext eI
   refine z<|nx<|cd (b:=sf I (i:Int) (j:Int)) J J (fun b2=>?_)<|fun b2=>?_
   ·
    refine rg<|k<|cg da 2 J bh J s6 aJ J<|ak J s7<|ak J s8<|k ?_
    have gS:=pS (mn:=cp) (mr:=fY) (i:=(i:Int)) (j:=(j:Int)) da.mb (by rw[g1];unfold aN;omega) (da.rv 0 J) aY aY (by rw[g2,W1,g1]) (by rw[g2];exact sA ai)<|by rw[g1];omega
    refine ca Dq J (ec J<|ec J<|ec J e0) gS ?_
    rintro _ w8 ⟨a3,c3,rfl,ly,eQ⟩
    have eB:=da.ic eQ
    refine ak (v:=.tuple #[.agg #[U (dP cp (i:Int) (j:Int)),sL a3 (bL cp fY (i:Int) (j:Int)) c3],U (iH cp (i:Int) (j:Int))]) J J<|k<|xt J J J<|k<|xt J J J<|k<|cz eB 3 J bh J J s6 J J J J ?_
    intro w9 (dZ:HI M w w9 (oL w 115 a3 (bL cp fY (i:Int) (j:Int)) c3::iL a2 fY c2::iL a1 rs c1::box bj #[U (dP cp (i:Int) (j:Int)),sL a3 (bL cp fY (i:Int) (j:Int)) c3] 68::dv))
    refine z<|aF<|nx<|rg<|ak J s8<|k<|add J J J J aY<|aj (v:=U ((j:Int)+1)) J J<|z ?_
    have cM:=dZ.freeze 0 J
    have fR:=cj cM<|cM.rv 0 J
    have eY:HI M w w9 (iL a3 (bL cp fY (i:Int) (j:Int)) c3::iL a1 rs c1::box bj #[U (dP cp (i:Int) (j:Int)),sL a3 (bL cp fY (i:Int) (j:Int)) c3] 68::dv):=fR.c_ [0,3,4,5,6,7,8] aJ J
    refine bD _ ?_ ⟨(j+1),(dP cp (i:Int) (j:Int)),(bL cp fY (i:Int) (j:Int)),a3,c3,J,s4,s5,s6,s7,(bJ J),eY,ai,(by rw[g1];exact(jx (rs:=fY)<|by rw[B6];simp;omega).1),(by rw[g1,g2];exact WZ ai ai (by rw[←EO,←Cg ho];assumption))⟩
    omega
   refine sk<|aF<|nx<|rg<|ak J s8<|k<|add J J J J aY<|aj (v:=U ((j:Int)+1)) J J<|z ?_
   have eB:=cj da<|da.rv 0 J
   have dZ:HI M w w7 (iL a2 fY c2::iL a1 rs c1::box bj #[U cp,sL a2 fY c2] 68::dv):=eB.c_ [0,2,3,4,5,6,7] aJ J
   refine bD _ ?_ ⟨(j+1),cp,fY,a2,c2,J,s4,s5,s6,s7,(bJ J),dZ,ai,(by exact g1),(by rw[g2];exact YF (by rw[←EO,←Cg ho];assumption))⟩
   omega
  have p1:=dF b1
  refine ex<|bg<|bt<|bz<|aF<|nx<|rg<|ak J s7<|k<|add J J J J aY<|aj (v:=U ((i:Int)+1)) J J<|z ?_
  have da:=cj db<|db.rv 0 J
  have eB:HI M w w6 (iL a2 fY c2::box bj #[U cp,sL a2 fY c2] 68::dv):=da.c_ [0,3,4,5,6,7] aJ J
  refine bD _ ?_ ⟨(i+1),cp,fY,a2,c2,J,s4,s5,s6,(bJ J),eB,ai,(by exact g1),(by rw[g2];exact W0 ai)⟩
  omega
 have p0:=dF b0
 refine ex<|bg<|bt<|bz<|dM<|k<|cg H8 1 J bh J s2 aJ J<|k<|cz H8 3 J bh J J s1 J J J J ?_
 intro w6 (H9:HI M w w6 (iL a1 rs c1::box bj #[U n_,sL a1 rs c1] 68::iL a0 (bO (I.length:Int)) c0::box aW #[U n_,sL a1 rs c1] 68::bC))
 refine aG<|rt<|vI H9 3 J bh J J s1 J aJ ?_
 have e0:(n_:Int)=(I.length:Int):=by exact h1
 have e1:(rs:List (List bG))=gP I:=by rw[h2];exact W2 ai
 have bF:=sd (fun (cK:Int) (fI:List (List bG))=>(.agg #[U cK,.slice a1 fI.length c1]:Value)) e0 e1
 exact⟨a1,c1,bF,H9.below,(alB (fun (x_:List (List bG))=>RV _ _ (.slice a1 x_.length c1) x_) e1).mp (H9.jn 0 J)⟩
theorem NG (hM:ei M w) (cX:cP M w av au I) (aal:aN tt) (cT:I.length≤4096):Calls aX 96 #[.agg #[.slice aC aE aB,sL av I au,.slice ax cH aw],U tt] w (cZ fun v w'=>∃(a0:OA) (c0:Nat),v=.slice a0 (bS I tt I.length).length c0∧Ext w w'∧bm M 3 w (bS I tt I.length) (.slice a0 (bS I tt I.length).length c0) w'):=by
 refine dK 28 Tryz.func96 J J J hM fun f0 ha H=>?_
 have H0:=cj H cX
 have iT:=bN cX
 have i0:f0 0=.agg #[.slice aC aE aB,sL av I au,.slice ax cH aw]:=ha 0 bH
 have i1:f0 1=U tt:=ha 1 bH
 refine aH<|k<|bx H0 J i0 ?_
 intro aK w0 dt (H1:HI M w w0 [box aK #[.slice aC aE aB,sL av I au,.slice ax cH aw] 32,iL av I au])
 refine aj (v:=.slice none 0 0) J J<|cU<|aj (v:=.slice none 0 0) J J<|aG<|sq<|aH<|aj (v:=U 0) J J<|aG<|bk ?_
 have H2:=H1.ke Int 3
 let bC:=[box aK #[.slice aC aE aB,sL av I au,.slice ax cH aw] 32,iL av I au]
 refine lp (fun m f w'=>∃(j:Nat) (xs:az) (a0:OA) (c0:Nat),m=I.length-j∧f 1=U tt∧f 2=pV aK 0∧f 5=sL a0 xs c0∧f 6=U (j:Int)∧HI M w w' (oL w 3 a0 xs c0::bC)∧(j≤I.length)∧(xs=bS I tt j)) _ ⟨0,([]:az),none,0,J,i1,J,J,(bJ J),H2,ai,(by rfl)⟩ ?_
 rintro _ f0 w1 ⟨j,xs,a0,c0,rfl,s0,s1,s2,s3,H3,hk,hs⟩
 refine sq<|aH<|ak J s3<|bo dh J s1<|bR H3 1 J eR J J J<|k<|ep J J fj<|k<|lss J J J J<|z<|nx<|cd (b:=decide ((j:Int)<(I.length:Int))) J J (fun b0=>?_)<|fun b0=>?_
 ·
  have p0:=dT b0
  refine sk<|nx<|sq<|bk<|aH<|ak J s3<|ak J s0<|k<|eql J J J J<|ak (v:=.bool (decide ((j:Int)=tt))) J J ?_
  rcases bE (decide ((j:Int)=tt)) with b1|b1
  ·
   have p1:=dT b1
   refine aD J J J b1<|aD J J J b1<|aD J J J b1<|aD J J J b1<|k<|ba J J J J b1 J<|aG<|nP J J J<|rg<|ak J s2<|ak J s3<|k<|bs (xs:=([(j:Int)]:az)) (cells:=#[U (j:Int)]) (e:=3) H3 J (ct J eo) (fun _=>bu) ⟨[U (j:Int)],[],J,⟨J,(show aN ((j:Int)) from aY)⟩,J⟩ J aJ ?_
   intro g0 w2 cR H4
   refine k<|kE H4 1 J J J J J J (fD<|H4.at_ 0 J) cY aQ J (by have h_:=pU I tt j;rw[hs];simp only[jv,gW];omega) J ?_
   intro a1 c1 w3 (H5:HI M w w3 (own w.heap.size 3 (.slice (some ⟨g0,0,none⟩) 1 1) ([(j:Int)]:az)::oL w 3 a1 (xs++([(j:Int)]:az)) c1::bC))
   refine aj (v:=sL a1 (xs++([(j:Int)]:az)) c1) J J<|z<|aF<|nx<|rg<|ak J s3<|k<|add J J J J aY<|aj (v:=U ((j:Int)+1)) J J<|z ?_
   have H6:HI M w w3 (oL w 3 a1 (xs++([(j:Int)]:az)) c1::bC):=H5.c_ [1,2,3] aJ J
   refine bD _ ?_ ⟨(j+1),(xs++([(j:Int)]:az)),a1,c1,J,s0,s1,J,(bJ J),H6,ai,(by rw[hs];first|exact rR (by rw[b1];rfl)|exact rR (by rw[b1,b2];rfl)|exact C8 (by rw[b1,b2];rfl))⟩
   omega
  have p1:=dF b1
  refine aM J J J b1<|cg H3 1 J dn J s1 aJ J<|aM J J J b1<|mv J s3<|aM J J J b1<|mv J s0<|aM J J J b1 ?_
  have cx:=xH (I:=I) (i:=(j:Int)) (j:=tt) (aC:=aC) (aE:=aE) (aB:=aB) (ax:=ax) (cH:=cH) (aw:=aw) H3.mb (H3.rv 2 J) aY aal
  refine ca T9 J (ec J<|ec J<|ec J e0) cx ?_
  rintro _ w2 ⟨rfl,cR⟩
  have H4:=H3.ext cR
  refine k<|bc J J J J b1 J<|z<|nx<|cd (b:=sf I (j:Int) tt) J J (fun b2=>?_)<|fun b2=>?_
  ·
   refine rg<|ak J s2<|ak J s3<|k<|bs (xs:=([(j:Int)]:az)) (cells:=#[U (j:Int)]) (e:=3) H4 J (ct J eo) (fun _=>bu) ⟨[U (j:Int)],[],J,⟨J,(show aN ((j:Int)) from aY)⟩,J⟩ J aJ ?_
   intro g0 w3 d_ H5
   refine k<|kE H5 1 J J J J J J (fD<|H5.at_ 0 J) cY aQ J (by have h_:=pU I tt j;rw[hs];simp only[jv,gW];omega) J ?_
   intro a1 c1 w4 (H6:HI M w w4 (own w.heap.size 3 (.slice (some ⟨g0,0,none⟩) 1 1) ([(j:Int)]:az)::oL w 3 a1 (xs++([(j:Int)]:az)) c1::bC))
   refine aj (v:=sL a1 (xs++([(j:Int)]:az)) c1) J J<|z<|aF<|nx<|rg<|ak J s3<|k<|add J J J J aY<|aj (v:=U ((j:Int)+1)) J J<|z ?_
   have H7:HI M w w4 (oL w 3 a1 (xs++([(j:Int)]:az)) c1::bC):=H6.c_ [1,2,3] aJ J
   refine bD _ ?_ ⟨(j+1),(xs++([(j:Int)]:az)),a1,c1,J,s0,s1,J,(bJ J),H7,ai,(by rw[hs];first|exact rR (by rw[b1];rfl)|exact rR (by rw[b1,b2];rfl)|exact C8 (by rw[b1,b2];rfl))⟩
   omega
  refine sk<|aF<|nx<|rg<|ak J s3<|k<|add J J J J aY<|aj (v:=U ((j:Int)+1)) J J<|z<|bD _ ?_ ⟨(j+1),xs,a0,c0,J,s0,s1,s2,(bJ J),H4,ai,(by rw[hs];first|exact rR (by rw[b1];rfl)|exact rR (by rw[b1,b2];rfl)|exact C8 (by rw[b1,b2];rfl))⟩
  omega
 have p0:=dF b0
 refine ex<|bg<|bt<|bz<|dM<|ak J s2<|aj (v:=sL a0 xs c0) J J<|aG<|rt<|r1 J J ?_
 have e0:(xs:az)=bS I tt I.length:=by rw[hs,show j=I.length from by omega]
 have bF:=fu (fun (cK:az)=>(.slice a0 cK.length c0:Value)) e0
 exact⟨a0,c0,bF,H3.below,(alB (fun (x_:az)=>bm _ _ _ x_ (.slice a0 x_.length c0) _) e0).mp (H3.cB 0 J)⟩
set_option maxRecDepth 100000 in
set_option maxHeartbeats 1600000 in
theorem QW {M0:bT} {w0 w:aI} {l:List Go.Ew.Item} {i j:Nat} {KN MV:Option Addr} {Kx MO:Nat} (H:HI M0 w0 w l) (hi:l[i]? =some (own w0.heap.size 137 (sL KN a Kx) a)) (hj:l[j]? =some (own w0.heap.size 137 (sL MV b MO) b)) (hlen:b.length≤a.length) (hlb:b.length≤1000000000) (ff:i≠j∨((sL KN a Kx:Value)=sL MV b MO∧b=a)):Calls aX 131 #[sL KN a Kx,sL MV b MO] w (cZ fun v w'=>v=.tuple #[]∧HI M0 w0 w' (l.set i (own w0.heap.size 137 (sL KN a Kx) (fZ a b)))):=by
  have iP:i<l.length:=(eW.1 hi).1
  refine enter 21 Tryz.func131 J J J fun f0 ha=>?_
  have i0:f0 0=.slice KN a.length Kx:=ha 0 bH
  have i1:f0 1=.slice MV b.length MO:=ha 1 bH
  refine aH<|ak (v:=.slice MV b.length MO) J i1<|k<|ep J J eZ<|ak (v:=.int .i64 0) J J<|aG<|bk<|lp (fun m f w'=>∃(q:Nat) (xs:List bG),m=b.length-q∧f 0=.slice KN a.length Kx∧f 6=.slice MV b.length MO∧f 7=.int .i64 (b.length:Int)∧f 8=.int .i64 (q:Int)∧HI M0 w0 w' (l.set i (own w0.heap.size 137 (.slice KN a.length Kx) xs))∧q≤b.length∧xs.length=a.length∧xs=jR a.length a b a q) _ ⟨0,a,J,i0,J,J,J,(by rw[WD hi];exact H),anu _,J,AO _ _ _⟩ ?_
  rintro _ f1 w1 ⟨q,xs,rfl,s0,s1,s2,s3,H1,hk,hl,hs⟩
  refine aH<|k<|lss J J s3 s2<|aG<|sq<|cd (b:=decide ((q:Int)<(b.length:Int))) J J (fun b1=>?_)<|fun b1=>?_
  ·
    have p1:=alT b1
    obtain⟨ys,GU,Vj,hyq⟩:=QQ hj iP ff hl hs hk hlen
    refine sk<|nx<|sq<|bk<|aH<|ak J s3<|k<|jh (H1.at_ j GU) J J s1 s3 ai eZ eu ?_
    intro g0 x0 iC aq cN
    have hxq:=hyq x0 aq
    refine k<|t_ cN eu J J<|aj (v:=.int .i64 (q:Int)) J J<|aj (v:=ag x0) J J<|aG<|rg<|ak J s0<|ak (v:=.int .i64 (q:Int)) J J<|k<|jh (H1.at_ i<|Iy iP) J J J J ai eZ eu ?_
    intro g1 x1 lZ cw eU
    refine k<|t_ eU eu J J<|ak (v:=ag x0) J J<|k<|IQ x1 x0 J J J J<|k<|jh (H1.at_ i<|Iy iP) J J J J ai eZ eu ?_
    intro g2 x2 uQ dR gJ
    refine k<|rO H1 i (Iy iP) uQ J ai eu J J J J (RV.bv.2 J) ?_
    intro w2 H2
    rw[set_set] at H2
    refine z<|aF<|nx<|rg<|k<|add J J s3 J aY<|ak (v:=.int .i64 ((q:Int)+1)) J J<|z<|bD _ ?_ ⟨(q+1),(xs.set ((q:Int).toNat) (x1 ||| x0)),J,s0,s1,s2,(bJ J),H2,ai,(by simpa using hl),QP hs hxq cw⟩
    omega
  ·
    have p1:=al3 b1
    refine ex<|bg<|bt<|bz<|r0n J ?_
    exact⟨J,by rw[←TB hs hlen ai];exact H1⟩
set_option maxRecDepth 100000 in
set_option maxHeartbeats 1600000 in
theorem I4 (hM:ei M w) (CA:aN n) (h0:0≤n) (h4:n≤4096):Calls aX 127 #[U n] w (cZ fun v w'=>∃(a0:Option Addr) (c0:Nat) (ss:List SV),v=.tuple #[.agg #[U n,.slice a0 n.toNat c0],U 0]∧Ext w w'∧HR M 115 137 w ss (List.replicate n.toNat (dJ n)) (.slice a0 n.toNat c0) w'):=by
  refine dK 29 Tryz.func127 J J J hM fun f0 ha H=>?_
  have i0:f0 0=.int .i64 n:=ha 0 bH
  refine aH<|k<|al H bh ?_
  intro aK w0 dt (H0:HI M w w0 [box aK #[.int .i64 0,.slice none 0 0] 68])
  refine aj (v:=.int .i64 0) J J<|aG<|sq<|aH<|ak J i0<|k<|lss J J J J<|ak (v:=.bool (decide (n<0))) J J ?_
  have b0:decide (n<0)=false:=alH ai
  refine aM J J J b0<|mv J i0<|aM J J J b0<|gtr J J J J<|k<|bc J J J J b0 J<|z<|nx<|cd (b:=decide (4096<n)) J J (fun b1=>?_)<|fun b1=>?_
  · exact absurd (alT b1) ai
  refine sk<|dM<|ak J i0<|k ?_
  have n0:((n.toNat:Nat):Int)=n:=alJ ai
  refine mk (m:=n.toNat) (zx:=(⟨none,0,0⟩:SV)) H0 J J (by rw[n0];exact rfl) (by rw[n0];exact rfl) iY eJ (fun _ _=>rfl) ai ai ?_
  intro g0 w1 cR (H1:HI M w w1 [own w.heap.size 115 (.slice (some ⟨g0,0,none⟩) n.toNat n.toNat) (List.replicate n.toNat (⟨none,0,0⟩:SV)),box aK #[.int .i64 0,.slice none 0 0] 68])
  refine aj (v:=.slice (some ⟨g0,0,none⟩) n.toNat n.toNat) J J<|aG<|sq<|aH<|ak (v:=.slice (some ⟨g0,0,none⟩) n.toNat n.toNat) J J<|k<|ep J J iY<|ak (v:=.int .i64 0) J J<|aG<|bk<|lp (fun m f w'=>∃(j:Nat) (ss:List SV),m=n.toNat-j∧f 0=.int .i64 n∧f 2=.pointer (some ⟨aK,0,none⟩)∧f 4=.slice (some ⟨g0,0,none⟩) n.toNat n.toNat∧f 16=.int .i64 (n.toNat:Int)∧f 17=.int .i64 (j:Int)∧HI M w w' ([own w.heap.size 115 (.slice (some ⟨g0,0,none⟩) n.toNat n.toNat) (ss++List.replicate (n.toNat-j) (⟨none,0,0⟩:SV)),box aK #[.int .i64 0,.slice none 0 0] 68]++ck w.heap.size 137 ss (List.replicate j<|dJ n))∧j≤n.toNat∧ss.length=j) _ ⟨0,[],J,i0,J,J,J,J,H1,anu _,J⟩ ?_
  rintro _ f0 w2 ⟨j,ss,rfl,s0,s1,s2,s3,s4,H2,hk,hl⟩
  refine aH<|k<|lss J J s4 s3<|aG<|sq<|cd (b:=decide ((j:Int)<(n.toNat:Int))) J J (fun b2=>?_)<|fun b2=>?_
  ·
    have p2:=alT b2
    refine sk<|nx<|sq<|bk<|aH<|ak J s4<|aj (v:=.int .i64 (j:Int)) J J<|aG<|rg<|ak J s2<|ak (v:=.int .i64 (j:Int)) J J<|ak J s0<|k ?_
    have cx:=LK (n:=n) H2.mb aY ai
    refine ca VM J (ec J e0) cx ?_
    rintro _ w3 ⟨a0,c0,rfl,d_,cL⟩
    have H3:=H2.ic cL
    have rZ:j<(ss++List.replicate (n.toNat-j) (⟨none,0,0⟩:SV)).length:=by rw[im,xf];omega
    refine k<|jh (H3.at_ 1 J) J J J J ai iY eJ ?_
    intro g1 x0 iC aq cN
    refine k<|rO (yv:=(⟨a0,(dJ n).length,c0⟩:SV)) H3 1 J iC J ai eJ J J J J (RV.sv.2 J) ?_
    intro w4 H4
    have H5:HI M w w4 (own w.heap.size 137 (⟨a0,(dJ n).length,c0⟩:SV).v (dJ n)::([own w.heap.size 115 (.slice (some ⟨g0,0,none⟩) n.toNat n.toNat) ((ss++List.replicate (n.toNat-j) (⟨none,0,0⟩:SV)).set ((j:Int).toNat) ⟨a0,(dJ n).length,c0⟩),box aK #[.int .i64 0,.slice none 0 0] 68]++ck w.heap.size 137 ss (List.replicate j (dJ n)))):=H4
    have H6:=H5.Yv<|by rw[xf];exact hl
    have es:(ss++List.replicate (n.toNat-j) (⟨none,0,0⟩:SV)).set ((j:Int).toNat) ⟨a0,(dJ n).length,c0⟩=(ss++[⟨a0,(dJ n).length,c0⟩])++List.replicate (n.toNat-(j+1)) (⟨none,0,0⟩:SV):=by
      rw[dC,anl _ _ ai,hl,amN,show n.toNat-j=n.toNat-(j+1)+1 from by omega,ani,aoc];simp
    rw[es,←an2] at H6
    refine z<|aF<|nx<|rg<|k<|add J J s4 J aY<|ak (v:=.int .i64 ((j:Int)+1)) J J<|z<|bD _ ?_ ⟨(j+1),(ss++[⟨a0,(dJ n).length,c0⟩]),J,s0,s1,s2,s3,(bJ J),H6,ai,(by rw[im,hl];rfl)⟩
    omega
  ·
    have p2:=al3 b2
    obtain rfl:j=n.toNat:=by omega
    rw[amN,aoG,amA] at H2
    refine ex<|bg<|bt<|bz<|dM<|ak J s0<|ak J s2<|k<|bd (v:=.agg #[.int .i64 n,.slice (some ⟨g0,0,none⟩) n.toNat n.toNat]) J (ct J<|ct J eo) (fun _=>bu)<|k<|cz H2 1 J bh J J s1 J J J J ?_
    intro w3 H3
    have H4:HI M w w3 ([own w.heap.size 115 (.slice (some ⟨g0,0,none⟩) n.toNat n.toNat) ss,box aK #[.int .i64 n,.slice (some ⟨g0,0,none⟩) n.toNat n.toNat] 68]++ck w.heap.size 137 ss (List.replicate n.toNat (dJ n))):=H3
    refine aj (v:=.int .i64 0) J J<|aG<|rt<|iS H4 1 J bh J J J s1 J aJ ?_
    exact⟨(some ⟨g0,0,none⟩),n.toNat,ss,J,H4.below,by rw[xf];exact hl,H4.ba (l':=[own w.heap.size 115 (.slice (some ⟨g0,0,none⟩) n.toNat n.toNat) ss]) [0] aJ rfl rfl⟩
theorem adj:dq aX 128:=dy Tryz.func128
theorem zf:aX.underlying 135=some (.array 2 3):=bu
theorem Tx (hM:ei M w) (hT:mi 0 w) (fL:aN mn) (eO:cP M w aU aT mr) (bV:cq mn mr=true):Calls aX 113 #[.agg #[U mn,sL aU mr aT]] w (cZ fun v w'=>∃(a0:OA) (c0:Nat),v=.agg #[U mn,.slice a0 (oJ mn mr).length c0]∧Ext w w'∧bm M 115 w (oJ mn mr) (.slice a0 (oJ mn mr).length c0) w'):=by
 refine dK 39 Tryz.func113 J J J hM fun f0 ha H=>?_
 have H0:=cj H eO
 have lu:=bN eO
 have i0:f0 0=.agg #[U mn,sL aU mr aT]:=ha 0 bH
 refine aH<|k<|bx H0 J i0 ?_
 intro aK w0 dt (H1:HI M w w0 [box aK #[U mn,sL aU mr aT] 68,iL aU mr aT])
 refine k<|al H1 bh ?_
 let bC:=[box aK #[U mn,sL aU mr aT] 68,iL aU mr aT]
 intro aW w1 cR (H2:HI M w w1 (box aW #[U 0,.slice none 0 0] 68::bC))
 refine cU<|bo gm J J<|bR H2 1 J aQ J J J<|k ?_
 have cx:=I4 (n:=mn) H2.mb fL (by exact iA bV)<|by exact(bQ bV).2.2.1
 refine ca HF J (ec J e0) cx ?_
 rintro _ w2 ⟨a0,c0,gf,rfl,d_,cL⟩
 have H3:=H2.NS cL
 let dk:=own w.heap.size 115 (.slice a0 mn.toNat c0) gf::box aW #[U 0,.slice none 0 0] 68::bC
 have H4:HI M w w2 (dk++ck w.heap.size 137 gf (List.replicate mn.toNat (dJ mn))):=H3
 have SG:=cL.1
 refine ak (v:=.tuple #[.agg #[U mn,.slice a0 mn.toNat c0],U 0]) J J<|k<|xt J J J<|k<|xt J J J<|k<|al H4 bh ?_
 intro bj w3 eG (H5:HI M w w3 ((box bj #[U 0,.slice none 0 0] 68::dk)++ck w.heap.size 137 gf (List.replicate mn.toNat (dJ mn))))
 refine k<|cz H5 0 J bh J J J J J J J ?_
 let dv:=box bj #[U mn,.slice a0 mn.toNat c0] 68::dk
 intro w4 (H6:HI M w w4 (dv++ck w.heap.size 137 gf (List.replicate mn.toNat (dJ mn))))
 refine aj (v:=U 0) J J<|aG<|sq<|aH<|k<|cg H6 3 J bh J J aJ J<|k ?_
 have eF:=QC (mn:=mn) (mr:=mr) H6.mb (hT.ext H6.below) fL (H6.rv 4 J) (by exact(bQ bV).1) (by exact(bQ bV).2.1) (by exact(bQ bV).2.2.1)<|by exact(bQ bV).2.2.2.2
 refine ca adj J (ec J e0) eF ?_
 rintro _ w5 ⟨a1,c1,rfl,eI,eQ⟩
 have H7:=H6.ext eI
 have H8:=cj H7 eQ
 let dD:=iL a1 (cW mn mr) c1::dv
 have H9:HI M w w5 (dD++ck w.heap.size 137 gf (List.replicate mn.toNat (dJ mn))):=H8
 refine k<|ep J J u0<|ak (v:=U 0) J J<|aG<|bk<|lp (fun m f w'=>∃(j:Nat) (xs:List (List bG)),m=(cW mn mr).length-j∧f 2=pV aW 0∧f 3=pV bj 0∧f 14=sL a1 (cW mn mr) c1∧f 15=U ((cW mn mr).length:Int)∧f 16=U (j:Int)∧HI M w w' (dD++ck w.heap.size 137 gf xs)∧(j≤(cW mn mr).length)∧(gf.length=xs.length)∧(xs=foldM mn (((cW mn mr).map zi).take j))) _ ⟨0,(List.replicate mn.toNat<|dJ mn),J,J,J,J,J,(bJ J),H9,ai,(by exact cL.1),(by exact Pk _ _)⟩ ?_
 rintro _ f0 w6 ⟨j,xs,rfl,s0,s1,s2,s3,s4,db,hk,hl,hs⟩
 refine aH<|k<|lss J J s4 s3<|aG<|sq<|cd (b:=decide ((j:Int)<((cW mn mr).length:Int))) J J (fun b0=>?_)<|fun b0=>?_
 ·
  have p0:=dT b0
  refine sk<|nx<|sq<|bk<|aH<|k<|ia (db.rv 0 J) J J s2 s4 ai u0 tJ ?_
  intro fz x0 aq cN
  refine k<|vQ cN.w tJ J J ?_
  intro v0 gh
  obtain⟨_,⟨_,_,rfl,⟨rfl,fQ⟩,⟨rfl,gG⟩⟩,rfl⟩:=gh
  refine k<|al db tJ ?_
  intro dI w7 ly (da:HI M w w7 ((box dI #[U 0,U 0] 135::dD)++ck w.heap.size 137 gf xs))
  refine k<|cz da 0 J tJ J J J J J J J ?_
  let jO:=box dI #[U x0.1,U x0.2] 135::dD
  intro w8 (eB:HI M w w8 (jO++ck w.heap.size 137 gf xs))
  refine z<|nx ?_
  obtain⟨Mz,My,g3_,g4_⟩:=DV bV aq
  have xl_:xs.length=mn.toNat:=by rw[hs,wy]
  obtain⟨a2,x1,c2,n9,rX⟩:=B2 (i:=x0.2.toNat) eB cG ai
  obtain⟨x3,dR⟩:∃x,x1[(x0.1/64).toNat]? =some x:=⟨_,dW (by obtain⟨I',I_,Zr,Zo⟩:=vu (hs▸rX) Mz My;first|omega|exact⟨I',I_⟩)⟩
  refine dr 15 [eV (pV bj 1),eV (.slice a0 mn.toNat c0),eV (pV dI 1),fun v w'=>v=U x0.2∧aN (x0.2),fun v w'=>∃(g0:Nat),v=.pointer (some ⟨g0,x0.2.toNat*1,none⟩)∧(.slice a0 mn.toNat c0:Value).ownBlock=some g0∧gq (MS M<|[box dI #[U x0.1,U x0.2] 135,iL a1 (cW mn mr) c1,box bj #[U mn,.slice a0 mn.toNat c0] 68,own w.heap.size 115 (.slice a0 mn.toNat c0) gf,box aW #[U 0,.slice none 0 0] 68,box aK #[U mn,sL aU mr aT] 68,iL aU mr aT]++ck w.heap.size 137 gf xs) w' ⟨g0,x0.2.toNat*1,none⟩ (⟨a2,x1.length,c2⟩:SV),eV (sL a2 x1 c2),eV (pV dI 0),fun v w'=>v=U x0.1∧aN (x0.1),eV (U<|x0.1/64),fun v w'=>∃(g1:Nat),v=.pointer (some ⟨g1,(x0.1/64).toNat*1,none⟩)∧(.slice a2 x1.length c2:Value).ownBlock=some g1∧gq (MS M<|[box dI #[U x0.1,U x0.2] 135,iL a1 (cW mn mr) c1,box bj #[U mn,.slice a0 mn.toNat c0] 68,own w.heap.size 115 (.slice a0 mn.toNat c0) gf,box aW #[U 0,.slice none 0 0] 68,box aK #[U mn,sL aU mr aT] 68,iL aU mr aT]++ck w.heap.size 137 gf xs) w' ⟨g1,(x0.1/64).toNat*1,none⟩ x3,eV (ag x3),eV (pV dI 0),fun v w'=>v=U x0.1∧aN (x0.1),eV (U<|x0.1%64),eV (ag<|eS<|x0.1%64)] J bu ?_ ?_
  ·
   refine dc (fun _ _ kC _ _=>fa iW J ((kC 3 J).trans s1)<|d0 J J)<|dc (fun _ _ _ lh oW=>lx (eB.ext lh) 2 J l8 J (oW 0 J J) J<|d0 J J)<|dc (fun _ _ l4 _ _=>GK J J (l4 6 J) J ai zf aQ<|d0 J J)<|dc (fun _ _ _ gv lP=>lx (eB.ext gv) 0 J aQ J (lP 2 J J) J ⟨_,J,Ext.refl _,⟨J,gG⟩⟩) ?_
   refine⟨fun _=>⟨fun f5 jK re j0 jk=>?_,by rintro _ _ _ x_ ⟨g0,e_,iC,eU⟩;exact⟨g0,e_,iC,eU.ext x_⟩⟩,?_⟩
   ·
    have gz:=eB.ext j0
    have s7:f5 21=.slice a0 mn.toNat c0:=jk 1 J J
    obtain⟨s8,gl⟩:f5 23=U x0.2∧aN (x0.2):=jk 3 rfl rfl
    refine jh (gz.at_ 3 J) J J s7 s8 ai iY eJ ?_
    intro g2 x4 uQ gX km
    obtain rfl:(⟨a2,x1.length,c2⟩:SV)=x4:=alD (n9.symm.trans gX)
    exact⟨_,J,Ext.refl _,⟨g2,J,uQ,km⟩⟩
   refine dc (fun f6 lz ns kb j8=>?_) ?_
   ·
    obtain⟨g3,s9,vX,oD⟩:∃(g3:Nat),f6 24=.pointer (some ⟨g3,x0.2.toNat*1,none⟩)∧(.slice a0 mn.toNat c0:Value).ownBlock=some g3∧gq (MS M ([box dI #[U x0.1,U x0.2] 135,iL a1 (cW mn mr) c1,box bj #[U mn,.slice a0 mn.toNat c0] 68,own w.heap.size 115 (.slice a0 mn.toNat c0) gf,box aW #[U 0,.slice none 0 0] 68,box aK #[U mn,sL aU mr aT] 68,iL aU mr aT]++ck w.heap.size 137 gf xs)) lz ⟨g3,x0.2.toNat*1,none⟩ (⟨a2,x1.length,c2⟩:SV):=j8 4 rfl rfl
    refine QJ oD eJ J s9 ?_
    exact⟨_,J,Ext.refl _,J⟩
   refine dc (fun _ _ rb _ _=>GK J J (rb 6 J) J ai zf aQ<|d0 J J)<|dc (fun _ _ _ qL ll=>lx (eB.ext qL) 0 J aQ J (ll 6 J J) J ⟨_,J,Ext.refl _,⟨J,fQ⟩⟩)<|dc (fun f9 jX oa po jj=>?_) ?_
   ·
    obtain⟨ew,lk⟩:f9 27=U x0.1∧aN (x0.1):=jj 7 rfl rfl
    refine Np J J ew J ?_
    exact⟨_,J,Ext.refl _,J⟩
   refine⟨fun _=>⟨fun f10 kJ r6 oG mS=>?_,by rintro _ _ _ x_ ⟨g1,e_,lZ,gJ⟩;exact⟨g1,e_,lZ,gJ.ext x_⟩⟩,?_⟩
   ·
    have lT:=eB.ext oG
    have eE:f10 25=sL a2 x1 c2:=mS 5 J J
    have fc:f10 28=U (x0.1/64):=mS 8 J J
    refine jh (lT.at_ _<|tR n9 rX) J J eE fc (by obtain⟨I',I_,Zr,Zo⟩:=vu (hs▸rX) Mz My;first|omega|exact⟨I',I_⟩) eZ eu ?_
    intro g4 x5 Vn jT qe
    obtain rfl:x3=x5:=alD (dR.symm.trans jT)
    exact⟨_,J,Ext.refl _,⟨g4,J,Vn,qe⟩⟩
   refine dc (fun f11 ow mg tc iz=>?_) ?_
   ·
    obtain⟨g5,fJ,hv5,yQ⟩:∃(g5:Nat),f11 29=.pointer (some ⟨g5,(x0.1/64).toNat*1,none⟩)∧(.slice a2 x1.length c2:Value).ownBlock=some g5∧gq (MS M ([box dI #[U x0.1,U x0.2] 135,iL a1 (cW mn mr) c1,box bj #[U mn,.slice a0 mn.toNat c0] 68,own w.heap.size 115 (.slice a0 mn.toNat c0) gf,box aW #[U 0,.slice none 0 0] 68,box aK #[U mn,sL aU mr aT] 68,iL aU mr aT]++ck w.heap.size 137 gf xs)) ow ⟨g5,(x0.1/64).toNat*1,none⟩ x3:=iz 9 rfl rfl
    refine t_ yQ eu J fJ ?_
    exact⟨_,J,Ext.refl _,J⟩
   refine dc (fun _ _ pq _ _=>GK J J (pq 6 J) J ai zf aQ<|d0 J J)<|dc (fun _ _ _ qK kg=>lx (eB.ext qK) 0 J aQ J (kg 11 J J) J ⟨_,J,Ext.refl _,⟨J,fQ⟩⟩)<|dc (fun f14 ov qb vo uL=>?_) ?_
   ·
    obtain⟨fX,lM⟩:f14 32=U x0.1∧aN (x0.1):=uL 12 rfl rfl
    refine OZ J J fX J ?_
    exact⟨_,J,Ext.refl _,J⟩
   refine dc (fun f15 pL Bc HW xO=>?_) ?_
   ·
    have gF:f15 33=U (x0.1%64):=xO 13 J J
    have nB:=CP (i:=(x0.1%64)) (w:=pL) aY
    refine ca OI J (ec gF e0) nB ?_
    rintro _ nL ⟨rfl,Ap⟩
    exact⟨_,J,Ap,J⟩
   exact gp.rest J _
  ·
   intro f16 xX Bb Ya uK
   have rn:=eB.ext Ya
   have gL:=(Bb 2 J).trans s0
   have gE:=(Bb 3 J).trans s1
   have jg:=(Bb 14 J).trans s2
   have kU:=(Bb 15 J).trans s3
   have oA:=(Bb 16 J).trans s4
   have pw:=uK 5 J
   have x7:=uK 8 J
   have DR:=uK 10 J
   have Ck:=uK 14 J
   refine k<|IQ x3 (eS<|x0.1%64) J J DR Ck<|k<|jh (rn.at_ _<|tR n9 rX) J J pw x7 (by obtain⟨I',I_,Zr,Zo⟩:=vu (hs▸rX) Mz My;first|omega|exact⟨I',I_⟩) eZ eu ?_
   intro g6 x6 hv6 lF Mt
   refine k<|rO rn _ (tR n9 rX) hv6 J (by obtain⟨I',I_,Zr,Zo⟩:=vu (hs▸rX) Mz My;first|omega|exact⟨I',I_⟩) eu J J J J (RV.bv.2 J) ?_
   intro DP BV
   have sh:=HI.IF (M:=fun _=>False) (it:=xl (.int .i64 0) (0:Int)) BV n9
   have qJ:HI M w DP (jO++ck w.heap.size 137 gf (xs.set x0.2.toNat (x1.set ((x0.1/64).toNat) (x3 ||| (eS (x0.1%64)))))):=sh
   refine z<|aF<|nx<|rg<|k<|add J J oA J (by have h_:=pf bV;unfold aN;omega)<|ak (v:=U ((j:Int)+1)) J J<|z ?_
   have pb:HI M w DP (dD++ck w.heap.size 137 gf (xs.set x0.2.toNat (x1.set ((x0.1/64).toNat) (x3 ||| (eS (x0.1%64)))))):=HI.ba (l:=jO) (l':=dD) (t:=ck w.heap.size 137 gf (xs.set x0.2.toNat (x1.set ((x0.1/64).toNat) (x3 ||| (eS<|x0.1%64))))) qJ [1,2,3,4,5,6] aJ J J
   refine bD _ ?_ ⟨(j+1),(xs.set x0.2.toNat (x1.set ((x0.1/64).toNat) (x3 ||| (eS<|x0.1%64)))),J,gL,gE,jg,kU,(bJ J),pb,ai,(by simp only[alP];exact hl),(by exact Pl hs aq rX dR Mz My)⟩
   omega
 have p0:=dF b0
 refine ex<|bg<|bt<|bz<|nx<|sq ?_
 let pJ:=iL a1 (cW mn mr) c1::box bj #[U mn,.slice a0 mn.toNat c0] 68::box aW #[U 0,.slice none 0 0] 68::bC
 have da:HI M w w6 (own w.heap.size 115 (.slice a0 mn.toNat c0) xs::pJ):=HI.deep (l:=pJ) (HI.ba (l:=dD) (l':=(own w.heap.size 115 (.slice a0 mn.toNat c0) gf::pJ)) (t:=ck w.heap.size 137 gf xs) db [2,0,1,3,4,5] aJ J J) cG
 refine rg<|k<|cg da 2 J bh J s1 aJ J<|k<|cz da 3 J bh J J s0 J J J J ?_
 intro w7 (eB:HI M w w7 (own w.heap.size 115 (.slice a0 mn.toNat c0) xs::iL a1 (cW mn mr) c1::box bj #[U mn,.slice a0 mn.toNat c0] 68::box aW #[U mn,.slice a0 mn.toNat c0] 68::bC))
 refine aG<|rt<|vI eB 3 J bh J J s0 J aJ ?_
 have e1:(xs:List (List bG))=oJ mn mr:=by exact SD hs ai
 have l1:mn.toNat=(oJ mn mr).length:=by rw[Gh]
 have bF:=fu (fun (yp:Nat)=>(.agg #[U mn,.slice a0 yp c0]:Value)) l1
 exact⟨a0,c0,bF,eB.below,(alB (fun (n_:Nat)=>bm _ _ _ (oJ mn mr) (.slice a0 n_ c0) _) l1).mp ((alB (fun (x_:List (List bG))=>bm _ _ _ x_ (.slice a0 mn.toNat c0) _) e1).mp (eB.cB 0 J))⟩
theorem afR:dq aX 96:=dy Tryz.func96
theorem IH (hM:ei M w) (fL:aN mn) (eO:cP M w aU aT mr) (Ag:aN o) (bV:cq mn mr=true):Calls aX 74 #[.agg #[U mn,sL aU mr aT],U o] w (cZ fun v w'=>∃(a0:OA) (c0:Nat),v=.slice a0 (ee mn mr o).length c0∧Ext w w'∧bm M 3 w (ee mn mr o) (.slice a0 (ee mn mr o).length c0) w'):=by
 refine dK 22 Tryz.func74 J J J hM fun f0 ha H=>?_
 have H0:=cj H eO
 have lu:=bN eO
 have i0:f0 0=.agg #[U mn,sL aU mr aT]:=ha 0 bH
 have i1:f0 1=U o:=ha 1 bH
 have A_:=(bQ bV).1;have CE:=(bQ bV).2.2.1;have CF:=iA bV
 refine aH<|k<|bx H0 J i0 ?_
 intro aK w0 dt (H1:HI M w w0 [box aK #[U mn,sL aU mr aT] 68,iL aU mr aT])
 refine aj (v:=.slice none 0 0) J J<|cU<|aj (v:=.slice none 0 0) J J<|aG<|sq<|aH<|aj (v:=U 0) J J<|aG<|bk ?_
 have H2:=H1.ke Int 3
 let bC:=[box aK #[U mn,sL aU mr aT] 68,iL aU mr aT]
 refine lp (fun m f w'=>∃(q:Nat) (out:az) (a0:OA) (c0:Nat),m=mn.toNat-q∧f 1=U o∧f 2=pV aK 0∧f 5=sL a0 out c0∧f 6=U (q:Int)∧HI M w w' (oL w 3 a0 out c0::bC)∧(q≤mn.toNat)∧(out=sw mn mr o q)) _ ⟨0,([]:az),none,0,J,i1,J,J,(bJ J),H2,ai,(by rfl)⟩ ?_
 rintro _ f0 w1 ⟨q,out,a0,c0,rfl,s0,s1,s2,s3,H3,jw,hs⟩
 refine sq<|aH<|ak J s3<|bo gm J s1<|bR H3 1 J aQ J J J<|k<|lss J J J J<|z<|nx<|cd (b:=decide ((q:Int)<mn)) J J (fun b0=>?_)<|fun b0=>?_
 ·
  have p0:=dT b0
  refine sk<|nx<|sq<|bk<|aH<|k<|cg H3 1 J bh J s1 aJ J<|ak J s3<|ak J s0<|k ?_
  have cx:=mm (mn:=mn) (mr:=mr) (i:=(q:Int)) (j:=o) H3.mb fL (H3.rv 2 J) aY Ag (by exact(bQ bV).1) (by exact(bQ bV).2.1)<|by exact(bQ bV).2.2.1
  refine ca xS J (ec J<|ec J<|ec J e0) cx ?_
  rintro _ w2 ⟨rfl,cR⟩
  have H4:=H3.ext cR
  refine z<|nx<|cd (b:=dG mn mr (q:Int) o) J J (fun b1=>?_)<|fun b1=>?_
  ·
   refine rg<|ak J s2<|ak J s3<|k<|bs (xs:=([(q:Int)]:az)) (cells:=#[U (q:Int)]) (e:=3) H4 J (ct J eo) (fun _=>bu) ⟨[U (q:Int)],[],J,⟨J,(show aN ((q:Int)) from aY)⟩,J⟩ J aJ ?_
   intro g0 w3 d_ H5
   refine k<|kE H5 1 J J J J J J (fD<|H5.at_ 0 J) cY aQ J (by have h_:=P7 mn mr o q;rw[hs];simp only[jv,gW];omega) J ?_
   intro a1 c1 w4 (H6:HI M w w4 (own w.heap.size 3 (.slice (some ⟨g0,0,none⟩) 1 1) ([(q:Int)]:az)::oL w 3 a1 (out++([(q:Int)]:az)) c1::bC))
   refine aj (v:=sL a1 (out++([(q:Int)]:az)) c1) J J<|z<|aF<|nx<|rg<|ak J s3<|k<|add J J J J aY<|aj (v:=U ((q:Int)+1)) J J<|z ?_
   have H7:HI M w w4 (oL w 3 a1 (out++([(q:Int)]:az)) c1::bC):=H6.c_ [1,2,3] aJ J
   refine bD _ ?_ ⟨(q+1),(out++([(q:Int)]:az)),a1,c1,J,s0,s1,J,(bJ J),H7,ai,(by rw[hs];first|exact Gy cG|exact IM cG)⟩
   omega
  refine sk<|aF<|nx<|rg<|ak J s3<|k<|add J J J J aY<|aj (v:=U ((q:Int)+1)) J J<|z<|bD _ ?_ ⟨(q+1),out,a0,c0,J,s0,s1,s2,(bJ J),H4,ai,(by rw[hs];first|exact Gy cG|exact IM cG)⟩
  omega
 have p0:=dF b0
 refine ex<|bg<|bt<|bz<|dM<|ak J s2<|aj (v:=sL a0 out c0) J J<|aG<|rt<|r1 J J ?_
 have e0:(out:az)=ee mn mr o:=by rw[hs,show q=mn.toNat from by omega];exact W7 bV o
 have bF:=fu (fun (cK:az)=>(.slice a0 cK.length c0:Value)) e0
 exact⟨a0,c0,bF,H3.below,(alB (fun (x_:az)=>bm _ _ _ x_ (.slice a0 x_.length c0) _) e0).mp (H3.cB 0 J)⟩
theorem zu (hM:ei M w) (fL:aN mn) (eO:cP M w aU aT mr) (Ag:aN o) (bV:cq mn mr=true):Calls aX 68 #[.agg #[U mn,sL aU mr aT],U o] w (cZ fun v w'=>∃(a0:OA) (c0:Nat),v=.slice a0 (dm mn mr o).length c0∧Ext w w'∧bm M 3 w (dm mn mr o) (.slice a0 (dm mn mr o).length c0) w'):=by
 refine dK 37 Tryz.func68 J J J hM fun f0 ha H=>?_
 have H0:=cj H eO
 have lu:=bN eO
 have i0:f0 0=.agg #[U mn,sL aU mr aT]:=ha 0 bH
 have i1:f0 1=U o:=ha 1 bH
 have A_:=(bQ bV).1;have CE:=(bQ bV).2.2.1;have CF:=iA bV
 refine aH<|k<|bx H0 J i0 ?_
 intro aK w0 dt (H1:HI M w w0 [box aK #[U mn,sL aU mr aT] 68,iL aU mr aT])
 refine aj (v:=.slice none 0 0) J J<|cU<|aj (v:=.slice none 0 0) J J<|aG<|sq<|aH<|aj (v:=U 0) J J<|aG<|bk ?_
 have H2:=H1.ke Int 3
 let bC:=[box aK #[U mn,sL aU mr aT] 68,iL aU mr aT]
 refine lp (fun m f w'=>∃(q:Nat) (out:az) (a0:OA) (c0:Nat),m=mn.toNat-q∧f 1=U o∧f 2=pV aK 0∧f 5=sL a0 out c0∧f 6=U (q:Int)∧HI M w w' (oL w 3 a0 out c0::bC)∧(q≤mn.toNat)∧(q=0∨(0≤o∧o<mn))∧(out=rq mn mr o q)) _ ⟨0,([]:az),none,0,J,i1,J,J,(bJ J),H2,ai,ai,(by rfl)⟩ ?_
 rintro _ f0 w1 ⟨q,out,a0,c0,rfl,s0,s1,s2,s3,H3,jw,ZM,hs⟩
 refine sq<|aH<|ak J s3<|bo gm J s1<|bR H3 1 J aQ J J J<|k<|lss J J J J<|ak (v:=.bool (decide ((q:Int)<mn))) J J ?_
 rcases bE (decide ((q:Int)<mn)) with b0|b0
 ·
  have p0:=dT b0
  refine aM J J J b0<|mv J s0<|aM J J J b0<|geq J J J J<|k<|ba J J J J b0 J<|ak (v:=.bool (decide (0≤o))) J J ?_
  rcases bE (decide (0≤o)) with b1|b1
  ·
   have p1:=dT b1
   refine aM J J J b1<|mv J s0<|aM J J J b1<|fa gm J s1<|aM J J J b1<|lx H3 1 J aQ J J J<|aM J J J b1<|lss J J J J<|k<|ba J J J J b1 J<|z<|nx<|cd (b:=decide (o<mn)) J J (fun b2=>?_)<|fun b2=>?_
   ·
    have p2:=dT b2
    refine sk<|nx<|sq<|bk<|aH<|ak J s3<|ak J s0<|k<|eql J J J J<|ak (v:=.bool (decide ((q:Int)=o))) J J ?_
    rcases bE (decide ((q:Int)=o)) with b3|b3
    ·
     have p3:=dT b3
     refine aD J J J b3<|aD J J J b3<|aD J J J b3<|aD J J J b3<|k<|ba J J J J b3 J<|aG<|nP J J J<|rg<|ak J s2<|ak J s3<|k<|bs (xs:=([(q:Int)]:az)) (cells:=#[U (q:Int)]) (e:=3) H3 J (ct J eo) (fun _=>bu) ⟨[U (q:Int)],[],J,⟨J,(show aN ((q:Int)) from aY)⟩,J⟩ J aJ ?_
     intro g0 w2 cR H4
     refine k<|kE H4 1 J J J J J J (fD<|H4.at_ 0 J) cY aQ J (by have h_:=Gb mn mr o q;rw[hs];simp only[jv,gW];omega) J ?_
     intro a1 c1 w3 (H5:HI M w w3 (own w.heap.size 3 (.slice (some ⟨g0,0,none⟩) 1 1) ([(q:Int)]:az)::oL w 3 a1 (out++([(q:Int)]:az)) c1::bC))
     refine aj (v:=sL a1 (out++([(q:Int)]:az)) c1) J J<|z<|aF<|nx<|rg<|ak J s3<|k<|add J J J J aY<|aj (v:=U ((q:Int)+1)) J J<|z ?_
     have H6:HI M w w3 (oL w 3 a1 (out++([(q:Int)]:az)) c1::bC):=H5.c_ [1,2,3] aJ J
     refine bD _ ?_ ⟨(q+1),(out++([(q:Int)]:az)),a1,c1,J,s0,s1,J,(bJ J),H6,ai,ai,(by rw[hs];first|exact rN (.inl cG)|exact rN (.inr cG)|exact CR cG cG)⟩
     omega
    have p3:=dF b3
    refine aM J J J b3<|cg H3 1 J bh J s1 aJ J<|aM J J J b3<|mv J s3<|aM J J J b3<|mv J s0<|aM J J J b3 ?_
    have cx:=mm (mn:=mn) (mr:=mr) (i:=(q:Int)) (j:=o) H3.mb fL (H3.rv 2 J) aY Ag (by exact(bQ bV).1) (by exact(bQ bV).2.1)<|by exact(bQ bV).2.2.1
    refine ca xS J (ec J<|ec J<|ec J e0) cx ?_
    rintro _ w2 ⟨rfl,cR⟩
    have H4:=H3.ext cR
    refine k<|bc J J J J b3 J<|z<|nx<|cd (b:=dG mn mr (q:Int) o) J J (fun b4=>?_)<|fun b4=>?_
    ·
     refine rg<|ak J s2<|ak J s3<|k<|bs (xs:=([(q:Int)]:az)) (cells:=#[U (q:Int)]) (e:=3) H4 J (ct J eo) (fun _=>bu) ⟨[U (q:Int)],[],J,⟨J,(show aN ((q:Int)) from aY)⟩,J⟩ J aJ ?_
     intro g0 w3 d_ H5
     refine k<|kE H5 1 J J J J J J (fD<|H5.at_ 0 J) cY aQ J (by have h_:=Gb mn mr o q;rw[hs];simp only[jv,gW];omega) J ?_
     intro a1 c1 w4 (H6:HI M w w4 (own w.heap.size 3 (.slice (some ⟨g0,0,none⟩) 1 1) ([(q:Int)]:az)::oL w 3 a1 (out++([(q:Int)]:az)) c1::bC))
     refine aj (v:=sL a1 (out++([(q:Int)]:az)) c1) J J<|z<|aF<|nx<|rg<|ak J s3<|k<|add J J J J aY<|aj (v:=U ((q:Int)+1)) J J<|z ?_
     have H7:HI M w w4 (oL w 3 a1 (out++([(q:Int)]:az)) c1::bC):=H6.c_ [1,2,3] aJ J
     refine bD _ ?_ ⟨(q+1),(out++([(q:Int)]:az)),a1,c1,J,s0,s1,J,(bJ J),H7,ai,ai,(by rw[hs];first|exact rN (.inl cG)|exact rN (.inr cG)|exact CR cG cG)⟩
     omega
    refine sk<|aF<|nx<|rg<|ak J s3<|k<|add J J J J aY<|aj (v:=U ((q:Int)+1)) J J<|z<|bD _ ?_ ⟨(q+1),out,a0,c0,J,s0,s1,s2,(bJ J),H4,ai,ai,(by rw[hs];first|exact rN (.inl cG)|exact rN (.inr cG)|exact CR cG cG)⟩
    omega
   have p2:=dF b2
   refine ex<|bg<|bt<|bz<|dM<|ak J s2<|aj (v:=sL a0 out c0) J J<|aG<|rt<|r1 J J ?_
   have e0:(out:az)=dm mn mr o:=by rw[hs];exact CQ bV ai jw ai
   have bF:=fu (fun (cK:az)=>(.slice a0 cK.length c0:Value)) e0
   exact⟨a0,c0,bF,H3.below,(alB (fun (x_:az)=>bm _ _ _ x_ (.slice a0 x_.length c0) _) e0).mp (H3.cB 0 J)⟩
  have p1:=dF b1
  refine aD J J J b1<|aD J J J b1<|aD J J J b1<|aD J J J b1<|k<|bc J J J J b1 J<|aG<|l7 J J J<|ex<|bg<|bt<|bz<|dM<|ak J s2<|aj (v:=sL a0 out c0) J J<|aG<|rt<|r1 J J ?_
  have e0:(out:az)=dm mn mr o:=by rw[hs];exact CQ bV ai jw ai
  have bF:=fu (fun (cK:az)=>(.slice a0 cK.length c0:Value)) e0
  exact⟨a0,c0,bF,H3.below,(alB (fun (x_:az)=>bm _ _ _ x_ (.slice a0 x_.length c0) _) e0).mp (H3.cB 0 J)⟩
 have p0:=dF b0
 refine aD J J J b0<|aD J J J b0<|k<|bc J J J J b0 J<|ak (v:=.bool false) J J<|aD J J J J<|aD J J J J<|aD J J J J<|aD J J J J<|k<|bc J J J J J J<|aG<|l7 J J J<|ex<|bg<|bt<|bz<|dM<|ak J s2<|aj (v:=sL a0 out c0) J J<|aG<|rt<|r1 J J ?_
 have e0:(out:az)=dm mn mr o:=by rw[hs];exact CQ bV ai jw ai
 have bF:=fu (fun (cK:az)=>(.slice a0 cK.length c0:Value)) e0
 exact⟨a0,c0,bF,H3.below,(alB (fun (x_:az)=>bm _ _ _ x_ (.slice a0 x_.length c0) _) e0).mp (H3.cB 0 J)⟩
theorem AJ {l:az} (hM:ei M w) (cX:cP M w av au I) (rj:cP M w dO dN l) (afH:aN vr) (ajV:l.length≤1000000000):Calls aX 73 #[.agg #[.slice aC aE aB,sL av I au,.slice ax cH aw],sL dO l dN,U vr] w (cZ fun v w'=>∃(a0:OA) (c0:Nat),v=.slice a0 (aV (fe I vr) l).length c0∧Ext w w'∧bm M 3 w (aV (fe I vr) l) (.slice a0 (aV (fe I vr) l).length c0) w'):=by
 refine dK 62 Tryz.func73 J J J hM fun f0 ha H=>?_
 have H0:=cj H cX
 have H1:=cj H0 rj
 have iT:=bN cX
 have xM:=bN rj
 have i0:f0 0=.agg #[.slice aC aE aB,sL av I au,.slice ax cH aw]:=ha 0 bH
 have i1:f0 1=sL dO l dN:=ha 1 bH
 have i2:f0 2=U vr:=ha 2 bH
 refine aH<|k<|bx H1 J i0 ?_
 let bC:=[iL dO l dN,iL av I au]
 intro aK w0 dt (H2:HI M w w0 (box aK #[.slice aC aE aB,sL av I au,.slice ax cH aw] 32::bC))
 refine aj (v:=.slice none 0 0) J J<|cU<|aj (v:=.slice none 0 0) J J<|aG<|sq<|aH<|aj (v:=U 0) J J<|aG<|bk ?_
 have H3:=H2.ke Int 3
 let dk:=box aK #[.slice aC aE aB,sL av I au,.slice ax cH aw] 32::bC
 refine lp (fun m f w'=>∃(q:Nat) (out:az) (a0:OA) (c0:Nat),m=l.length-q∧f 1=sL dO l dN∧f 2=U vr∧f 3=pV aK 0∧f 7=sL a0 out c0∧f 8=U (q:Int)∧HI M w w' (oL w 3 a0 out c0::dk)∧(q≤l.length)∧(out=aV (fe I vr) (l.take q))) _ ⟨0,([]:az),none,0,J,i1,i2,J,J,(bJ J),H3,ai,(by rfl)⟩ ?_
 rintro _ f0 w1 ⟨q,out,a0,c0,rfl,s0,s1,s2,s3,s4,H4,jw,hs⟩
 refine sq<|aH<|ak J s4<|ak J s0<|k<|ep J J cY<|k<|lss J J J J<|z<|nx<|cd (b:=decide ((q:Int)<(l.length:Int))) J J (fun b0=>?_)<|fun b0=>?_
 ·
  have p0:=dT b0
  refine sk<|nx<|sq<|bk<|sq<|yY J bu<|kq (fun _ _=>mv J s0 e1)<|kq (fun _ _=>mv J s4 e1)<|hG (H4.rv 2 J) J J J J ai cY aQ ?_
  intro fz x0 aq cN
  refine fV cN.w aQ J J ?_
  intro cL
  refine kq (fun _ _=>geq J J J J e1)<|kq (fun _ _=>mv (v:=.bool (decide (0≤x0))) J J e1) ?_
  rcases bE (decide (0≤x0)) with b1|b1
  ·
   have p1:=dT b1
   refine qy J J J b1<|kq (fun _ _=>mv J s0 e1)<|qy J J J b1<|kq (fun _ _=>mv J s4 e1)<|qy J J J b1<|hG (H4.rv 2 J) J J J J ai cY aQ ?_
   intro iG x_ ki eU
   obtain rfl:x0=x_:=alD (aq.symm.trans ki)
   refine qy J J J b1<|fV eU.w aQ J J ?_
   intro eQ
   refine qy J J J b1<|kq (fun _ _=>fa dh J s2 e1)<|qy J J J b1<|kq (fun _ x_=>lx (H4.ext x_) 1 J eR J J J e1)<|qy J J J b1<|kq (fun _ _=>ep J J fj e1)<|qy J J J b1<|kq (fun _ _=>lss J J J J e1)<|kq (fun _ _=>ba J J J J b1 J e1)<|kq (fun _ _=>mv (v:=.bool (decide (x0<(I.length:Int)))) J J e1) ?_
   rcases bE (decide (x0<(I.length:Int))) with b2|b2
   ·
    have p2:=dT b2
    refine qy J J J b2<|kq (fun _ _=>fa dh J s2 e1)<|qy J J J b2<|kq (fun _ x_=>lx (H4.ext x_) 1 J eR J J J e1)<|qy J J J b2<|kq (fun _ _=>mv J s0 e1)<|qy J J J b2<|kq (fun _ _=>mv J s4 e1)<|qy J J J b2<|hG (H4.rv 2 J) J J J J ai cY aQ ?_
    intro kX x_ ki gJ
    obtain rfl:x0=x_:=alD (aq.symm.trans ki)
    refine qy J J J b2<|fV gJ.w aQ J J ?_
    intro gh
    refine qy J J J b2<|hG (H4.rv 3 J) J J J J ai fj gB ?_
    intro jc x1 cw km
    refine qy J J J b2<|kq (fun _ _=>fa oe J J e1)<|qy J J J b2<|tL ((km).s2).fst.w mC J J<|kq (fun _ _=>ba J J J J b2 J e1)<|kq (fun _ _=>mv (v:=.bool x1.2.2.1) J J e1) ?_
    rcases bE (x1.2.2.1) with b3|b3
    ·
     refine qy J J J b3<|kq (fun _ _=>fa dh J s2 e1)<|qy J J J b3<|kq (fun _ x_=>lx (H4.ext x_) 1 J eR J J J e1)<|qy J J J b3<|kq (fun _ _=>mv J s0 e1)<|qy J J J b3<|kq (fun _ _=>mv J s4 e1)<|qy J J J b3<|hG (H4.rv 2 J) J J J J ai cY aQ ?_
     intro sK x_ ki oD
     obtain rfl:x0=x_:=alD (aq.symm.trans ki)
     refine qy J J J b3<|fV oD.w aQ J J ?_
     intro fQ
     refine qy J J J b3<|hG (H4.rv 3 J) J J J J ai fj gB ?_
     intro kG x_ ki qe
     obtain rfl:x1=x_:=alD (cw.symm.trans ki)
     refine qy J J J b3<|kq (fun _ _=>fa nv J J e1)<|qy J J J b3<|fV ((qe).s3).fst.w aQ J J ?_
     intro gG
     refine qy J J J b3<|kq (fun _ _=>mv J s1 e1)<|qy J J J b3<|kq (fun _ _=>eql J J J J e1)<|kq (fun _ _=>ba J J J J b3 J e1)<|zq ?_
     intro w2 cR
     have H5:=H4.ext cR
     refine nx<|cd (b:=decide (x1.2.2.2.1=vr)) J J (fun b4=>?_)<|fun b4=>?_
     ·
      have p4:=dT b4
      refine rg<|ak J s3<|ak J s0<|ak J s4<|k<|ia (H5.rv 2 J) J J J J ai cY aQ ?_
      intro uz x2 dR yQ
      refine k<|kB yQ.w aQ J J ?_
      intro gl
      refine k<|bs (xs:=([x2]:az)) (cells:=#[U x2]) (e:=3) H5 J (ct J eo) (fun _=>bu) ⟨[U x2],[],J,⟨J,(show aN (x2) from aY)⟩,J⟩ J aJ ?_
      intro g0 w3 d_ H6
      refine k<|kE H6 1 J J J J J J (fD<|H6.at_ 0 J) cY aQ J (by have h_:=I9 l q (fe I vr);rw[hs];simp only[jv,gW];omega) J ?_
      intro a1 c1 w4 (H7:HI M w w4 (own w.heap.size 3 (.slice (some ⟨g0,0,none⟩) 1 1) ([x2]:az)::oL w 3 a1 (out++([x2]:az)) c1::dk))
      refine aj (v:=sL a1 (out++([x2]:az)) c1) J J<|z<|aF<|nx<|rg<|ak J s4<|k<|add J J J J aY<|aj (v:=U ((q:Int)+1)) J J<|z ?_
      have H8:HI M w w4 (oL w 3 a1 (out++([x2]:az)) c1::dk):=H7.c_ [1,2,3,4] aJ J
      refine bD _ ?_ ⟨(q+1),(out++([x2]:az)),a1,c1,J,s0,s1,s2,J,(bJ J),H8,ai,(by (try (have e_:=ay cw aq;subst e_));(try (have e_:=ay dR aq;subst e_));(try (have e_:=ay gX aq;subst e_));(try (have e_:=ay jT aq;subst e_));(try (have e_:=ay lF aq;subst e_));(try (have e_:=ay nq aq;subst e_));(try (have e_:=ay GM aq;subst e_));(try (have e_:=ay Mf aq;subst e_));(try (have e_:=ay Me aq;subst e_));(try (have e_:=ay FK aq;subst e_));(try (have e_:=ay FJ aq;subst e_));(try (have e_:=ay FI aq;subst e_));(try (have e_:=ay FH aq;subst e_));(try (have e_:=ay FG aq;subst e_));(try (have e_:=ay FF aq;subst e_));(try (have e_:=ay FE aq;subst e_));(try (have e_:=ay FD aq;subst e_));(try (have e_:=ay FC aq;subst e_));(try (have e_:=ay FB aq;subst e_));(try (have e_:=ay FA aq;subst e_));(try (have e_:=ay Fz aq;subst e_));(try (have e_:=ay Fy aq;subst e_));(try (have e_:=ay Fx aq;subst e_));(try (have e_:=ay Fw aq;subst e_));(try (have e_:=ay Fv aq;subst e_));(try (have e_:=ay Fu aq;subst e_));(try (have e_:=ay Ft aq;subst e_));(try (have e_:=ay Fs aq;subst e_));(try (have e_:=ay Fq aq;subst e_));(try (have e_:=ay Fp aq;subst e_));(try (have e_:=ay Fo aq;subst e_));(try (have e_:=ay Fm aq;subst e_));(try (have e_:=ay Fl aq;subst e_));(try (have e_:=ay Fk aq;subst e_));(try (have e_:=ay Fj aq;subst e_));(try (have e_:=ay Fi aq;subst e_));(try (have e_:=ay Fh aq;subst e_));(try (have e_:=ay Fg aq;subst e_));(try (have e_:=ay Ff aq;subst e_));rw[hs];first|exact rB aq (by exact tf ai cG cG cG)|exact tv aq (by first|exact LC ai|exact LB ai|exact Pc ai cG cG|exact Pd ai cG cG))⟩
      omega
     have p4:=dF b4
     refine sk<|aF<|nx<|rg<|ak J s4<|k<|add J J J J aY<|aj (v:=U ((q:Int)+1)) J J<|z<|bD _ ?_ ⟨(q+1),out,a0,c0,J,s0,s1,s2,s3,(bJ J),H5,ai,(by (try (have e_:=ay cw aq;subst e_));(try (have e_:=ay dR aq;subst e_));(try (have e_:=ay gX aq;subst e_));(try (have e_:=ay jT aq;subst e_));(try (have e_:=ay lF aq;subst e_));(try (have e_:=ay nq aq;subst e_));(try (have e_:=ay GM aq;subst e_));(try (have e_:=ay Mf aq;subst e_));(try (have e_:=ay Me aq;subst e_));(try (have e_:=ay FK aq;subst e_));(try (have e_:=ay FJ aq;subst e_));(try (have e_:=ay FI aq;subst e_));(try (have e_:=ay FH aq;subst e_));(try (have e_:=ay FG aq;subst e_));(try (have e_:=ay FF aq;subst e_));(try (have e_:=ay FE aq;subst e_));(try (have e_:=ay FD aq;subst e_));(try (have e_:=ay FC aq;subst e_));(try (have e_:=ay FB aq;subst e_));(try (have e_:=ay FA aq;subst e_));(try (have e_:=ay Fz aq;subst e_));(try (have e_:=ay Fy aq;subst e_));(try (have e_:=ay Fx aq;subst e_));(try (have e_:=ay Fw aq;subst e_));(try (have e_:=ay Fv aq;subst e_));(try (have e_:=ay Fu aq;subst e_));(try (have e_:=ay Ft aq;subst e_));(try (have e_:=ay Fs aq;subst e_));(try (have e_:=ay Fq aq;subst e_));(try (have e_:=ay Fp aq;subst e_));(try (have e_:=ay Fo aq;subst e_));(try (have e_:=ay Fm aq;subst e_));(try (have e_:=ay Fl aq;subst e_));(try (have e_:=ay Fk aq;subst e_));(try (have e_:=ay Fj aq;subst e_));(try (have e_:=ay Fi aq;subst e_));(try (have e_:=ay Fh aq;subst e_));(try (have e_:=ay Fg aq;subst e_));(try (have e_:=ay Ff aq;subst e_));rw[hs];first|exact rB aq (by exact tf ai cG cG cG)|exact tv aq (by exact Pd ai cG cG))⟩
     omega
    refine qn J J J b3<|qn J J J b3<|qn J J J b3<|qn J J J b3<|qn J J J b3<|qn J J J b3<|qn J J J b3<|qn J J J b3<|qn J J J b3<|qn J J J b3<|qn J J J b3<|kq (fun _ _=>bc J J J J b3 J e1)<|zq ?_
    intro w2 cR
    have H5:=H4.ext cR
    refine nx<|l7 J J J<|sk<|aF<|nx<|rg<|ak J s4<|k<|add J J J J aY<|aj (v:=U ((q:Int)+1)) J J<|z<|bD _ ?_ ⟨(q+1),out,a0,c0,J,s0,s1,s2,s3,(bJ J),H5,ai,(by (try (have e_:=ay cw aq;subst e_));(try (have e_:=ay dR aq;subst e_));(try (have e_:=ay gX aq;subst e_));(try (have e_:=ay jT aq;subst e_));(try (have e_:=ay lF aq;subst e_));(try (have e_:=ay nq aq;subst e_));(try (have e_:=ay GM aq;subst e_));(try (have e_:=ay Mf aq;subst e_));(try (have e_:=ay Me aq;subst e_));(try (have e_:=ay FK aq;subst e_));(try (have e_:=ay FJ aq;subst e_));(try (have e_:=ay FI aq;subst e_));(try (have e_:=ay FH aq;subst e_));(try (have e_:=ay FG aq;subst e_));(try (have e_:=ay FF aq;subst e_));(try (have e_:=ay FE aq;subst e_));(try (have e_:=ay FD aq;subst e_));(try (have e_:=ay FC aq;subst e_));(try (have e_:=ay FB aq;subst e_));(try (have e_:=ay FA aq;subst e_));(try (have e_:=ay Fz aq;subst e_));(try (have e_:=ay Fy aq;subst e_));(try (have e_:=ay Fx aq;subst e_));(try (have e_:=ay Fw aq;subst e_));(try (have e_:=ay Fv aq;subst e_));(try (have e_:=ay Fu aq;subst e_));(try (have e_:=ay Ft aq;subst e_));(try (have e_:=ay Fs aq;subst e_));(try (have e_:=ay Fq aq;subst e_));(try (have e_:=ay Fp aq;subst e_));(try (have e_:=ay Fo aq;subst e_));(try (have e_:=ay Fm aq;subst e_));(try (have e_:=ay Fl aq;subst e_));(try (have e_:=ay Fk aq;subst e_));(try (have e_:=ay Fj aq;subst e_));(try (have e_:=ay Fi aq;subst e_));(try (have e_:=ay Fh aq;subst e_));(try (have e_:=ay Fg aq;subst e_));(try (have e_:=ay Ff aq;subst e_));rw[hs];first|exact rB aq (by exact tf ai cG cG cG)|exact tv aq (by exact Pc ai cG cG))⟩
    omega
   have p2:=dF b2
   refine qn J J J b2<|qn J J J b2<|qn J J J b2<|qn J J J b2<|qn J J J b2<|qn J J J b2<|qn J J J b2<|qn J J J b2<|qn J J J b2<|kq (fun _ _=>bc J J J J b2 J e1)<|kq (fun _ _=>mv (v:=.bool false) J J e1)<|qn J J J J<|qn J J J J<|qn J J J J<|qn J J J J<|qn J J J J<|qn J J J J<|qn J J J J<|qn J J J J<|qn J J J J<|qn J J J J<|qn J J J J<|kq (fun _ _=>bc J J J J J J e1)<|zq ?_
   intro w2 cR
   have H5:=H4.ext cR
   refine nx<|l7 J J J<|sk<|aF<|nx<|rg<|ak J s4<|k<|add J J J J aY<|aj (v:=U ((q:Int)+1)) J J<|z<|bD _ ?_ ⟨(q+1),out,a0,c0,J,s0,s1,s2,s3,(bJ J),H5,ai,(by (try (have e_:=ay cw aq;subst e_));(try (have e_:=ay dR aq;subst e_));(try (have e_:=ay gX aq;subst e_));(try (have e_:=ay jT aq;subst e_));(try (have e_:=ay lF aq;subst e_));(try (have e_:=ay nq aq;subst e_));(try (have e_:=ay GM aq;subst e_));(try (have e_:=ay Mf aq;subst e_));(try (have e_:=ay Me aq;subst e_));(try (have e_:=ay FK aq;subst e_));(try (have e_:=ay FJ aq;subst e_));(try (have e_:=ay FI aq;subst e_));(try (have e_:=ay FH aq;subst e_));(try (have e_:=ay FG aq;subst e_));(try (have e_:=ay FF aq;subst e_));(try (have e_:=ay FE aq;subst e_));(try (have e_:=ay FD aq;subst e_));(try (have e_:=ay FC aq;subst e_));(try (have e_:=ay FB aq;subst e_));(try (have e_:=ay FA aq;subst e_));(try (have e_:=ay Fz aq;subst e_));(try (have e_:=ay Fy aq;subst e_));(try (have e_:=ay Fx aq;subst e_));(try (have e_:=ay Fw aq;subst e_));(try (have e_:=ay Fv aq;subst e_));(try (have e_:=ay Fu aq;subst e_));(try (have e_:=ay Ft aq;subst e_));(try (have e_:=ay Fs aq;subst e_));(try (have e_:=ay Fq aq;subst e_));(try (have e_:=ay Fp aq;subst e_));(try (have e_:=ay Fo aq;subst e_));(try (have e_:=ay Fm aq;subst e_));(try (have e_:=ay Fl aq;subst e_));(try (have e_:=ay Fk aq;subst e_));(try (have e_:=ay Fj aq;subst e_));(try (have e_:=ay Fi aq;subst e_));(try (have e_:=ay Fh aq;subst e_));(try (have e_:=ay Fg aq;subst e_));(try (have e_:=ay Ff aq;subst e_));rw[hs];first|exact rB aq (by exact tf ai cG cG cG)|exact tv aq (by exact LB ai))⟩
   omega
  have p1:=dF b1
  refine qn J J J b1<|qn J J J b1<|qn J J J b1<|qn J J J b1<|qn J J J b1<|qn J J J b1<|qn J J J b1<|qn J J J b1<|kq (fun _ _=>bc J J J J b1 J e1)<|kq (fun _ _=>mv (v:=.bool false) J J e1)<|qn J J J J<|qn J J J J<|qn J J J J<|qn J J J J<|qn J J J J<|qn J J J J<|qn J J J J<|qn J J J J<|qn J J J J<|kq (fun _ _=>bc J J J J J J e1)<|kq (fun _ _=>mv (v:=.bool false) J J e1)<|qn J J J J<|qn J J J J<|qn J J J J<|qn J J J J<|qn J J J J<|qn J J J J<|qn J J J J<|qn J J J J<|qn J J J J<|qn J J J J<|qn J J J J<|kq (fun _ _=>bc J J J J J J e1)<|zq ?_
  intro w2 cR
  have H5:=H4.ext cR
  refine nx<|l7 J J J<|sk<|aF<|nx<|rg<|ak J s4<|k<|add J J J J aY<|aj (v:=U ((q:Int)+1)) J J<|z<|bD _ ?_ ⟨(q+1),out,a0,c0,J,s0,s1,s2,s3,(bJ J),H5,ai,(by (try (have e_:=ay cw aq;subst e_));(try (have e_:=ay dR aq;subst e_));(try (have e_:=ay gX aq;subst e_));(try (have e_:=ay jT aq;subst e_));(try (have e_:=ay lF aq;subst e_));(try (have e_:=ay nq aq;subst e_));(try (have e_:=ay GM aq;subst e_));(try (have e_:=ay Mf aq;subst e_));(try (have e_:=ay Me aq;subst e_));(try (have e_:=ay FK aq;subst e_));(try (have e_:=ay FJ aq;subst e_));(try (have e_:=ay FI aq;subst e_));(try (have e_:=ay FH aq;subst e_));(try (have e_:=ay FG aq;subst e_));(try (have e_:=ay FF aq;subst e_));(try (have e_:=ay FE aq;subst e_));(try (have e_:=ay FD aq;subst e_));(try (have e_:=ay FC aq;subst e_));(try (have e_:=ay FB aq;subst e_));(try (have e_:=ay FA aq;subst e_));(try (have e_:=ay Fz aq;subst e_));(try (have e_:=ay Fy aq;subst e_));(try (have e_:=ay Fx aq;subst e_));(try (have e_:=ay Fw aq;subst e_));(try (have e_:=ay Fv aq;subst e_));(try (have e_:=ay Fu aq;subst e_));(try (have e_:=ay Ft aq;subst e_));(try (have e_:=ay Fs aq;subst e_));(try (have e_:=ay Fq aq;subst e_));(try (have e_:=ay Fp aq;subst e_));(try (have e_:=ay Fo aq;subst e_));(try (have e_:=ay Fm aq;subst e_));(try (have e_:=ay Fl aq;subst e_));(try (have e_:=ay Fk aq;subst e_));(try (have e_:=ay Fj aq;subst e_));(try (have e_:=ay Fi aq;subst e_));(try (have e_:=ay Fh aq;subst e_));(try (have e_:=ay Fg aq;subst e_));(try (have e_:=ay Ff aq;subst e_));rw[hs];first|exact rB aq (by exact tf ai cG cG cG)|exact tv aq (by exact LC ai))⟩
  omega
 have p0:=dF b0
 refine ex<|bg<|bt<|bz<|dM<|ak J s3<|aj (v:=sL a0 out c0) J J<|aG<|rt<|r1 J J ?_
 have e0:(out:az)=aV (fe I vr) l:=by rw[hs,k0 ai]
 have bF:=fu (fun (cK:az)=>(.slice a0 cK.length c0:Value)) e0
 exact⟨a0,c0,bF,H4.below,(alB (fun (x_:az)=>bm _ _ _ x_ (.slice a0 x_.length c0) _) e0).mp (H4.cB 0 J)⟩
theorem u2 (hM:ei M w) (cX:cP M w av au I) (Ag:aN o) (cT:I.length≤4096):Calls aX 62 #[.agg #[.slice aC aE aB,sL av I au,.slice ax cH aw],U o] w (cZ fun v w'=>∃(a0:OA) (c0:Nat),v=.slice a0 (aV (cm I) (bS I o I.length)).length c0∧Ext w w'∧bm M 3 w (aV (cm I) (bS I o I.length)) (.slice a0 (aV (cm I) (bS I o I.length)).length c0) w'):=by
 refine dK 35 Tryz.func62 J J J hM fun f0 ha H=>?_
 have H0:=cj H cX
 have iT:=bN cX
 have i0:f0 0=.agg #[.slice aC aE aB,sL av I au,.slice ax cH aw]:=ha 0 bH
 have i1:f0 1=U o:=ha 1 bH
 refine aH<|k<|bx H0 J i0 ?_
 intro aK w0 dt (H1:HI M w w0 [box aK #[.slice aC aE aB,sL av I au,.slice ax cH aw] 32,iL av I au])
 refine aj (v:=.slice none 0 0) J J<|cU<|aj (v:=.slice none 0 0) J J<|cU<|k<|cg H1 0 J dn J J aJ J<|ak J i1<|k ?_
 have cx:=NG (I:=I) (tt:=o) (aC:=aC) (aE:=aE) (aB:=aB) (ax:=ax) (cH:=cH) (aw:=aw) H1.mb (H1.rv 1 J) Ag ai
 refine ca afR J (ec J<|ec J e0) cx ?_
 rintro _ w1 ⟨a0,c0,rfl,cR,cL⟩
 have H2:=H1.ic cL
 refine aj (v:=sL a0 (bS I o I.length) c0) J J<|aG<|sq<|aH<|aj (v:=U 0) J J<|aG<|bk ?_
 have H3:=H2.ke Int 3
 let bC:=[oL w 3 a0 (bS I o I.length) c0,box aK #[.slice aC aE aB,sL av I au,.slice ax cH aw] 32,iL av I au]
 refine lp (fun m f w'=>∃(q:Nat) (out:az) (a1:OA) (c1:Nat),m=(bS I o I.length).length-q∧f 2=pV aK 0∧f 5=sL a1 out c1∧f 6=sL a0 (bS I o I.length) c0∧f 7=U (q:Int)∧HI M w w' (oL w 3 a1 out c1::bC)∧(q≤(bS I o I.length).length)∧(out=aV (cm I) ((bS I o I.length).take q))) _ ⟨0,([]:az),none,0,J,J,J,J,(bJ J),H3,ai,(by rfl)⟩ ?_
 rintro _ f0 w2 ⟨q,out,a1,c1,rfl,s0,s1,s2,s3,H4,jw,hs⟩
 refine sq<|aH<|ak J s3<|ak J s2<|k<|ep J J cY<|k<|lss J J J J<|z<|nx<|cd (b:=decide ((q:Int)<((bS I o I.length).length:Int))) J J (fun b0=>?_)<|fun b0=>?_
 ·
  have p0:=dT b0
  refine sk<|nx<|sq<|bk<|sq ?_
  have akw:=pU I o I.length
  refine yY J bu<|kq (fun _ _=>fa dh J s0 e1)<|kq (fun _ x_=>lx (H4.ext x_) 2 J eR J J J e1)<|kq (fun _ _=>mv J s2 e1)<|kq (fun _ _=>mv J s3 e1)<|su (H4.at_ 1 J) J J J J ai cY aQ ?_
  intro fz x0 aq cN
  refine fV cN aQ J J ?_
  intro eQ
  refine hG (H4.rv 3 J) J J J J (by have h_:=P8 aq;omega) fj gB ?_
  intro iG x1 cw eU
  refine kq (fun _ _=>fa oe J J e1)<|tL ((eU).s2).fst.w mC J J<|kq (fun _ _=>kc J J e1)<|zq ?_
  intro w3 d_
  have H5:=H4.ext d_
  refine nx<|cd (b:=!x1.2.2.1) J J (fun b1=>?_)<|fun b1=>?_
  ·
   refine rg<|ak J s1<|ak J s2<|ak J s3<|k<|jh (H5.at_ 1 J) J J J J ai cY aQ ?_
   intro g0 x2 iC dR gJ
   refine k<|kB gJ aQ J J ?_
   intro gh
   refine k<|bs (xs:=([x2]:az)) (cells:=#[U x2]) (e:=3) H5 J (ct J eo) (fun _=>bu) ⟨[U x2],[],J,⟨J,(show aN (x2) from(by have wm:=pU I o I.length;unfold aN at *;omega))⟩,J⟩ J aJ ?_
   intro g1 w4 eG H6
   refine k<|kE H6 1 J J J J J J (fD<|H6.at_ 0 J) cY aQ J (by have h_:=I9 (bS I o I.length) q (cm I);have wm:=pU I o I.length;rw[hs];simp only[jv,gW];omega) J ?_
   intro a2 c2 w5 (H7:HI M w w5 (own w.heap.size 3 (.slice (some ⟨g1,0,none⟩) 1 1) ([x2]:az)::oL w 3 a2 (out++([x2]:az)) c2::bC))
   refine aj (v:=sL a2 (out++([x2]:az)) c2) J J<|z<|aF<|nx<|rg<|ak J s3<|k<|add J J J J (by have wm:=pU I o I.length;unfold aN at *;omega)<|aj (v:=U ((q:Int)+1)) J J<|z ?_
   have H8:HI M w w5 (oL w 3 a2 (out++([x2]:az)) c2::bC):=H7.c_ [1,2,3,4] aJ J
   refine bD _ ?_ ⟨(q+1),(out++([x2]:az)),a2,c2,J,s0,J,s2,(bJ J),H8,ai,(by (try (have e_:=ay cw aq;subst e_));(try (have e_:=ay dR aq;subst e_));(try (have e_:=ay gX aq;subst e_));(try (have e_:=ay jT aq;subst e_));(try (have e_:=ay lF aq;subst e_));(try (have e_:=ay nq aq;subst e_));(try (have e_:=ay GM aq;subst e_));(try (have e_:=ay Mf aq;subst e_));(try (have e_:=ay Me aq;subst e_));(try (have e_:=ay FK aq;subst e_));(try (have e_:=ay FJ aq;subst e_));(try (have e_:=ay FI aq;subst e_));(try (have e_:=ay FH aq;subst e_));(try (have e_:=ay FG aq;subst e_));(try (have e_:=ay FF aq;subst e_));(try (have e_:=ay FE aq;subst e_));(try (have e_:=ay FD aq;subst e_));(try (have e_:=ay FC aq;subst e_));(try (have e_:=ay FB aq;subst e_));(try (have e_:=ay FA aq;subst e_));(try (have e_:=ay Fz aq;subst e_));(try (have e_:=ay Fy aq;subst e_));(try (have e_:=ay Fx aq;subst e_));(try (have e_:=ay Fw aq;subst e_));(try (have e_:=ay Fv aq;subst e_));(try (have e_:=ay Fu aq;subst e_));(try (have e_:=ay Ft aq;subst e_));(try (have e_:=ay Fs aq;subst e_));(try (have e_:=ay Fq aq;subst e_));(try (have e_:=ay Fp aq;subst e_));(try (have e_:=ay Fo aq;subst e_));(try (have e_:=ay Fm aq;subst e_));(try (have e_:=ay Fl aq;subst e_));(try (have e_:=ay Fk aq;subst e_));(try (have e_:=ay Fj aq;subst e_));(try (have e_:=ay Fi aq;subst e_));(try (have e_:=ay Fh aq;subst e_));(try (have e_:=ay Fg aq;subst e_));(try (have e_:=ay Ff aq;subst e_));rw[hs];first|exact rB aq (LA cG cG)|exact tv aq (Pb cG cG))⟩
   omega
  refine sk<|aF<|nx<|rg<|ak J s3<|k<|add J J J J (by have wm:=pU I o I.length;unfold aN at *;omega)<|aj (v:=U ((q:Int)+1)) J J<|z<|bD _ ?_ ⟨(q+1),out,a1,c1,J,s0,s1,s2,(bJ J),H5,ai,(by (try (have e_:=ay cw aq;subst e_));(try (have e_:=ay dR aq;subst e_));(try (have e_:=ay gX aq;subst e_));(try (have e_:=ay jT aq;subst e_));(try (have e_:=ay lF aq;subst e_));(try (have e_:=ay nq aq;subst e_));(try (have e_:=ay GM aq;subst e_));(try (have e_:=ay Mf aq;subst e_));(try (have e_:=ay Me aq;subst e_));(try (have e_:=ay FK aq;subst e_));(try (have e_:=ay FJ aq;subst e_));(try (have e_:=ay FI aq;subst e_));(try (have e_:=ay FH aq;subst e_));(try (have e_:=ay FG aq;subst e_));(try (have e_:=ay FF aq;subst e_));(try (have e_:=ay FE aq;subst e_));(try (have e_:=ay FD aq;subst e_));(try (have e_:=ay FC aq;subst e_));(try (have e_:=ay FB aq;subst e_));(try (have e_:=ay FA aq;subst e_));(try (have e_:=ay Fz aq;subst e_));(try (have e_:=ay Fy aq;subst e_));(try (have e_:=ay Fx aq;subst e_));(try (have e_:=ay Fw aq;subst e_));(try (have e_:=ay Fv aq;subst e_));(try (have e_:=ay Fu aq;subst e_));(try (have e_:=ay Ft aq;subst e_));(try (have e_:=ay Fs aq;subst e_));(try (have e_:=ay Fq aq;subst e_));(try (have e_:=ay Fp aq;subst e_));(try (have e_:=ay Fo aq;subst e_));(try (have e_:=ay Fm aq;subst e_));(try (have e_:=ay Fl aq;subst e_));(try (have e_:=ay Fk aq;subst e_));(try (have e_:=ay Fj aq;subst e_));(try (have e_:=ay Fi aq;subst e_));(try (have e_:=ay Fh aq;subst e_));(try (have e_:=ay Fg aq;subst e_));(try (have e_:=ay Ff aq;subst e_));rw[hs];first|exact rB aq (LA cG cG)|exact tv aq (Pb cG cG))⟩
  omega
 have p0:=dF b0
 refine ex<|bg<|bt<|bz<|dM<|ak J s1<|aj (v:=sL a1 out c1) J J<|aG<|rt<|r1 J J ?_
 have e0:(out:az)=aV (cm I) (bS I o I.length):=by rw[hs,k0 ai]
 have bF:=fu (fun (cK:az)=>(.slice a1 cK.length c1:Value)) e0
 exact⟨a1,c1,bF,H4.below,(alB (fun (x_:az)=>bm _ _ _ x_ (.slice a1 x_.length c1) _) e0).mp (H4.cB 0 J)⟩
theorem TH (hM:ei M w) (fL:aN mn) (eO:cP M w aU aT mr) (bV:cq mn mr=true):Calls aX 129 #[.agg #[U mn,sL aU mr aT]] w (cZ fun v w'=>∃(a0:OA) (c0:Nat) (gf:List SV),v=.agg #[U mn,.slice a0 mn.toNat c0]∧Ext w w'∧HR M 115 137 w gf mr (.slice a0 mn.toNat c0) w'):=by
 refine dK 30 Tryz.func129 J J J hM fun f0 ha H=>?_
 have H0:=cj H eO
 have lu:=bN eO
 have i0:f0 0=.agg #[U mn,sL aU mr aT]:=ha 0 bH
 refine aH<|k<|bx H0 J i0 ?_
 intro aK w0 dt (H1:HI M w w0 [box aK #[U mn,sL aU mr aT] 68,iL aU mr aT])
 refine k<|al H1 bh ?_
 let bC:=[box aK #[U mn,sL aU mr aT] 68,iL aU mr aT]
 intro aW w1 cR (H2:HI M w w1 (box aW #[U 0,.slice none 0 0] 68::bC))
 refine cU<|bo gm J J<|bR H2 1 J aQ J J J<|k ?_
 have cx:=I4 (n:=mn) H2.mb fL (by exact iA bV)<|by exact(bQ bV).2.2.1
 refine ca HF J (ec J e0) cx ?_
 rintro _ w2 ⟨a0,c0,gf,rfl,d_,cL⟩
 have H3:=H2.NS cL
 let dk:=own w.heap.size 115 (.slice a0 mn.toNat c0) gf::box aW #[U 0,.slice none 0 0] 68::bC
 have H4:HI M w w2 (dk++ck w.heap.size 137 gf (List.replicate mn.toNat (dJ mn))):=H3
 have SG:=cL.1
 refine ak (v:=.tuple #[.agg #[U mn,.slice a0 mn.toNat c0],U 0]) J J<|k<|xt J J J<|k<|xt J J J<|k<|al H4 bh ?_
 intro bj w3 eG (H5:HI M w w3 ((box bj #[U 0,.slice none 0 0] 68::dk)++ck w.heap.size 137 gf (List.replicate mn.toNat (dJ mn))))
 refine k<|cz H5 0 J bh J J J J J J J ?_
 let dv:=box bj #[U mn,.slice a0 mn.toNat c0] 68::dk
 intro w4 (H6:HI M w w4 (dv++ck w.heap.size 137 gf (List.replicate mn.toNat (dJ mn))))
 refine aj (v:=U 0) J J<|aG<|sq<|aH<|bo iW J J<|bR H6 3 J l8 J J J<|k<|ep J J iY<|ak (v:=U 0) J J<|aG<|bk<|lp (fun m f w'=>∃(j:Nat) (xs:List (List bG)),m=mr.length-j∧f 2=pV aW 0∧f 3=pV bj 0∧f 14=sL aU mr aT∧f 15=U (mr.length:Int)∧f 16=U (j:Int)∧HI M w w' (dv++ck w.heap.size 137 gf xs)∧(j≤mr.length)∧(gf.length=xs.length)∧(xs=mr.take j++List.replicate (mn.toNat-j) (dJ mn))) _ ⟨0,(List.replicate mn.toNat<|dJ mn),J,J,J,J,J,(bJ J),H6,ai,(by exact cL.1),bH⟩ ?_
 rintro _ f0 w5 ⟨j,xs,rfl,s0,s1,s2,s3,s4,H7,hk,hl,hs⟩
 refine aH<|k<|lss J J s4 s3<|aG<|sq<|cd (b:=decide ((j:Int)<(mr.length:Int))) J J (fun b0=>?_)<|fun b0=>?_
 ·
  have p0:=dT b0
  refine sk<|nx<|sq<|bk<|aH<|ak J s4<|k<|ia (H7.rv 4 J) J J s2 s4 ai iY eJ ?_
  intro fz x0 aq cN
  refine k<|vR cN.w eJ J J ?_
  intro a1 c1 eQ
  have Ve:=bN eQ
  have H8:=cj H7 eQ
  have H9:HI M w w5 ((iL a1 x0 c1::dv)++ck w.heap.size 137 gf xs):=H8
  refine aj (v:=U (j:Int)) J J<|aj (v:=sL a1 x0 c1) J J<|z<|nx ?_
  have xl_:xs.length=mr.length:=by have h_:=(bQ bV).1;rw[hs,im,lY,xf];omega
  refine rg<|bo iW J s1<|bR H9 1 J l8 J J J<|ak (v:=U (j:Int)) J J<|k ?_
  obtain⟨a2,x1,c2,n9,rX⟩:=B2 (i:=(j:Int).toNat) H9 cG ai
  refine jh (H9.at_ 2 J) J J J J ai iY eJ ?_
  intro g0 x2 iC cw eU
  obtain rfl:(⟨a2,x1.length,c2⟩:SV)=x2:=alD (n9.symm.trans cw)
  refine k<|QJ eU eJ J J<|ak (v:=sL a1 x0 c1) J J<|k<|cpO H9 _ (tR n9 rX) J J J J J (H9.rv 0 J).src eZ eu (by exact W_ bV hs aq rX) (by exact W9 bV hs aq rX) ?_
  intro w6 da
  have db:=HI.IF (M:=fun _=>False) (it:=xl (.int .i64 0) (0:Int)) da n9
  have eB:HI M w w6 ((iL a1 x0 c1::dv)++ck w.heap.size 137 gf (xs.set ((j:Int).toNat) x0)):=db
  refine z<|aF<|nx<|rg<|k<|add J J s4 J aY<|ak (v:=U ((j:Int)+1)) J J<|z ?_
  have dZ:HI M w w6 (dv++ck w.heap.size 137 gf (xs.set ((j:Int).toNat) x0)):=HI.ba (l:=(iL a1 x0 c1::dv)) (l':=dv) (t:=ck w.heap.size 137 gf (xs.set ((j:Int).toNat) x0)) eB [1,2,3,4,5] aJ J J
  refine bD _ ?_ ⟨(j+1),(xs.set ((j:Int).toNat) x0),J,s0,s1,s2,s3,(bJ J),dZ,ai,(by simp only[alP];exact hl),(by exact Tl bV hs aq)⟩
  omega
 have p0:=dF b0
 refine ex<|bg<|bt<|bz<|dM<|k<|cg H7 0 J bh J s1 aJ J<|k<|cz H7 2 J bh J J s0 J J J J ?_
 let dD:=box bj #[U mn,.slice a0 mn.toNat c0] 68::own w.heap.size 115 (.slice a0 mn.toNat c0) gf::box aW #[U mn,.slice a0 mn.toNat c0] 68::bC
 intro w6 (H8:HI M w w6 (dD++ck w.heap.size 137 gf xs))
 refine aG<|rt<|vI H8 2 J bh J J s0 J aJ ?_
 have e1:(xs:List (List bG))=mr:=by exact Xa bV hs ai
 have w1:gf.length=(xs).length:=by assumption
 exact⟨a0,c0,gf,J,H8.below,(alB (fun (x_:List (List bG))=>HR _ 115 137 _ gf x_ (.slice a0 mn.toNat c0) _) e1).mp ⟨w1,HI.ba (l:=dD) (l':=[own w.heap.size 115 (.slice a0 mn.toNat c0) gf]) (t:=ck w.heap.size 137 gf xs) H8 [1] aJ rfl rfl⟩⟩
theorem adi:dq aX 129:=dy Tryz.func129
theorem adh:dq aX 130:=dy Tryz.func130
theorem adg:dq aX 131:=dy Tryz.func131
theorem Ol (hM:ei M w) (fL:aN mn) (eO:cP M w aU aT mr) (bV:cq mn mr=true):Calls aX 114 #[.agg #[U mn,sL aU mr aT]] w (cZ fun v w'=>∃(a0:OA) (c0:Nat),v=.agg #[U mn,.slice a0 (bU mn mr).length c0]∧Ext w w'∧bm M 115 w (bU mn mr) (.slice a0 (bU mn mr).length c0) w'):=by
 refine dK 41 Tryz.func114 J J J hM fun f0 ha H=>?_
 have H0:=cj H eO
 have lu:=bN eO
 have i0:f0 0=.agg #[U mn,sL aU mr aT]:=ha 0 bH
 have A_:=(bQ bV).1;have CE:=(bQ bV).2.2.1;have CF:=iA bV
 refine aH<|k<|bx H0 J i0 ?_
 intro aK w0 dt (H1:HI M w w0 [box aK #[U mn,sL aU mr aT] 68,iL aU mr aT])
 refine k<|al H1 bh ?_
 intro aW w1 cR (H2:HI M w w1 [box aW #[U 0,.slice none 0 0] 68,box aK #[U mn,sL aU mr aT] 68,iL aU mr aT])
 refine cU<|k<|cg H2 1 J bh J J aJ J<|k ?_
 have cx:=TH (mn:=mn) (mr:=mr) H2.mb fL (H2.rv 2 J)<|by exact bV
 refine ca adi J (ec J e0) cx ?_
 rintro _ w2 ⟨a0,c0,gf,rfl,d_,cL⟩
 have H3:=H2.NS cL
 have H4:HI M w w2 ([own w.heap.size 115 (.slice a0 mn.toNat c0) gf,box aW #[U 0,.slice none 0 0] 68,box aK #[U mn,sL aU mr aT] 68,iL aU mr aT]++ck w.heap.size 137 gf mr):=H3
 have SG:=cL.1
 refine k<|al H4 bh ?_
 intro bj w3 eG (H5:HI M w w3 ([box bj #[U 0,.slice none 0 0] 68,own w.heap.size 115 (.slice a0 mn.toNat c0) gf,box aW #[U 0,.slice none 0 0] 68,box aK #[U mn,sL aU mr aT] 68,iL aU mr aT]++ck w.heap.size 137 gf mr))
 refine k<|cz H5 0 J bh J J J J J J J ?_
 intro w4 (H6:HI M w w4 ([box bj #[U mn,.slice a0 mn.toNat c0] 68,own w.heap.size 115 (.slice a0 mn.toNat c0) gf,box aW #[U 0,.slice none 0 0] 68,box aK #[U mn,sL aU mr aT] 68,iL aU mr aT]++ck w.heap.size 137 gf mr))
 refine aG<|sq<|aH<|bo iW J J<|bR H6 0 J l8 J J J<|k<|ep J J iY<|ak (v:=U 0) J J<|aG<|bk<|lp (fun m f w'=>∃(q:Nat) (xs:List (List bG)),m=mn.toNat-q∧f 2=pV aW 0∧f 3=pV bj 0∧f 10=U (mn.toNat:Int)∧f 11=U (q:Int)∧HI M w w' ([box bj #[U mn,.slice a0 mn.toNat c0] 68,own w.heap.size 115 (.slice a0 mn.toNat c0) gf,box aW #[U 0,.slice none 0 0] 68,box aK #[U mn,sL aU mr aT] 68,iL aU mr aT]++ck w.heap.size 137 gf xs)∧(q≤mn.toNat)∧(gf.length=xs.length)∧(xs=cO mn.toNat (wM (dw mr) q))∧(xs.length=mn.toNat)) _ ⟨0,mr,J,J,J,J,(bJ J),H6,ai,(by exact SG),(by exact Lr bV),ai⟩ ?_
 rintro _ f0 w5 ⟨q,xs,rfl,s0,s1,s2,s3,H7,hk,hl,hs,Jh⟩
 refine aH<|k<|lss J J s3 s2<|aG<|sq<|cd (b:=decide ((q:Int)<(mn.toNat:Int))) J J (fun b0=>?_)<|fun b0=>?_
 ·
  have p0:=dT b0
  refine sk<|nx<|sq<|bk<|aH<|ak J s3<|aj (v:=U (q:Int)) J J<|cU<|bo iW J s1<|bR H7 0 J l8 J J J<|k<|ep J J iY<|ak (v:=U 0) J J<|aG<|bk<|lp (fun m f w'=>∃(i:Nat) (ys:List (List bG)),m=mn.toNat-i∧f 2=pV aW 0∧f 3=pV bj 0∧f 4=U (q:Int)∧f 10=U (mn.toNat:Int)∧f 11=U (q:Int)∧f 16=U (mn.toNat:Int)∧f 17=U (i:Int)∧HI M w w' ([box bj #[U mn,.slice a0 mn.toNat c0] 68,own w.heap.size 115 (.slice a0 mn.toNat c0) gf,box aW #[U 0,.slice none 0 0] 68,box aK #[U mn,sL aU mr aT] 68,iL aU mr aT]++ck w.heap.size 137 gf ys)∧(i≤mn.toNat)∧(gf.length=ys.length)∧(ys=cO mn.toNat (wR (dw mr) q i))∧(ys.length=mn.toNat)) _ ⟨0,xs,J,s0,s1,J,s2,s3,J,(bJ J),H7,ai,(by exact hl),(by rw[hs];exact Ww _ _ _),(by exact Jh)⟩ ?_
  rintro _ f1 w6 ⟨i,ys,rfl,s4,s5,s6,s7,s8,s9,ey,H8,yI,pA,gM,Vj⟩
  refine aH<|k<|lss J J ey s9<|aG<|sq<|cd (b:=decide ((i:Int)<(mn.toNat:Int))) J J (fun b1=>?_)<|fun b1=>?_
  ·
   have p1:=dT b1
   refine sk<|nx<|sq<|bk<|aH<|ak J ey<|aj (v:=U (i:Int)) J J<|cU<|bo iW J s5<|bR H8 0 J l8 J J J<|ak (v:=U (i:Int)) J J<|k ?_
   obtain⟨a1,x0,c1,n9,rX⟩:=B2 (i:=(i:Int).toNat) H8 cG ai
   refine jh (H8.at_ 1 J) J J J J ai iY eJ ?_
   intro g0 x1 iC aq cN
   obtain rfl:(⟨a1,x0.length,c1⟩:SV)=x1:=alD (n9.symm.trans aq)
   refine k<|QJ cN eJ J J<|ak J s6<|k ?_
   have eF:=WN (r:=x0) (i:=(q:Int)) (w:=w6) (M:=fun _=>False) (fun _ h_=>h_.elim) (Yt H8 n9 rX) aY
   refine ca adh J (ec J<|ec J e0) eF ?_
   rintro _ w7 ⟨rfl,eI⟩
   have H9:=H8.ext eI
   refine z<|nx<|cd (b:=fU x0 (q:Int)) J J (fun b2=>?_)<|fun b2=>?_
   ·
    obtain⟨a2,x3,c2,xm,Mj⟩:=B2 (i:=(q:Int).toNat) H9 cG ai
    refine dr 10 [eV (pV bj 1),eV (.slice a0 mn.toNat c0),eV (U (i:Int)),fun v w'=>∃(g1:Nat),v=.pointer (some ⟨g1,(i:Int).toNat*1,none⟩)∧(.slice a0 mn.toNat c0:Value).ownBlock=some g1∧gq (MS M<|[box bj #[U mn,.slice a0 mn.toNat c0] 68,own w.heap.size 115 (.slice a0 mn.toNat c0) gf,box aW #[U 0,.slice none 0 0] 68,box aK #[U mn,sL aU mr aT] 68,iL aU mr aT]++ck w.heap.size 137 gf ys) w' ⟨g1,(i:Int).toNat*1,none⟩ (⟨a1,x0.length,c1⟩:SV),eV (sL a1 x0 c1),eV (pV bj 1),eV (.slice a0 mn.toNat c0),eV (U (q:Int)),fun v w'=>∃(g2:Nat),v=.pointer (some ⟨g2,(q:Int).toNat*1,none⟩)∧(.slice a0 mn.toNat c0:Value).ownBlock=some g2∧gq (MS M<|[box bj #[U mn,.slice a0 mn.toNat c0] 68,own w.heap.size 115 (.slice a0 mn.toNat c0) gf,box aW #[U 0,.slice none 0 0] 68,box aK #[U mn,sL aU mr aT] 68,iL aU mr aT]++ck w.heap.size 137 gf ys) w' ⟨g2,(q:Int).toNat*1,none⟩ (⟨a2,x3.length,c2⟩:SV),eV (sL a2 x3 c2)] J bu ?_ ?_
    ·
     refine dc (fun _ _ kC _ _=>fa iW J ((kC 3 J).trans s5)<|d0 J J)<|dc (fun _ _ _ iJ oW=>lx (H9.ext iJ) 0 J l8 J (oW 0 J J) J<|d0 J J)<|dc (fun _ _ l4 _ _=>mv J (l4 5 J)<|d0 J J) ?_
     refine⟨fun _=>⟨fun f5 iK qC lh lP=>?_,by rintro _ _ _ x_ ⟨g1,e_,lZ,eU⟩;exact⟨g1,e_,lZ,eU.ext x_⟩⟩,?_⟩
     ·
      have dZ:=H9.ext lh
      have eE:f5 28=.slice a0 mn.toNat c0:=lP 1 J J
      have fc:f5 29=U (i:Int):=lP 2 J J
      refine jh (dZ.at_ 1 J) J J eE fc ai iY eJ ?_
      intro g3 x5 vX gX km
      obtain rfl:(⟨a1,x0.length,c1⟩:SV)=x5:=alD (n9.symm.trans gX)
      exact⟨_,J,Ext.refl _,⟨g3,J,vX,km⟩⟩
     refine dc (fun f6 jf re jD jk=>?_) ?_
     ·
      obtain⟨g4,fJ,Vn,oD⟩:∃(g4:Nat),f6 30=.pointer (some ⟨g4,(i:Int).toNat*1,none⟩)∧(.slice a0 mn.toNat c0:Value).ownBlock=some g4∧gq (MS M ([box bj #[U mn,.slice a0 mn.toNat c0] 68,own w.heap.size 115 (.slice a0 mn.toNat c0) gf,box aW #[U 0,.slice none 0 0] 68,box aK #[U mn,sL aU mr aT] 68,iL aU mr aT]++ck w.heap.size 137 gf ys)) jf ⟨g4,(i:Int).toNat*1,none⟩ (⟨a1,x0.length,c1⟩:SV):=jk 3 rfl rfl
      refine QJ oD eJ J fJ ?_
      exact⟨_,J,Ext.refl _,J⟩
     refine dc (fun _ _ ns _ _=>fa iW J ((ns 3 J).trans s5)<|d0 J J)<|dc (fun _ _ _ j0 kj=>lx (H9.ext j0) 0 J l8 J (kj 5 J J) J<|d0 J J)<|dc (fun _ _ qa _ _=>mv J ((qa 4 J).trans s6)<|d0 J J) ?_
     refine⟨fun _=>⟨fun f10 mB oa kZ jj=>?_,by rintro _ _ _ x_ ⟨g2,e_,uQ,gJ⟩;exact⟨g2,e_,uQ,gJ.ext x_⟩⟩,?_⟩
     ·
      have gz:=H9.ext kZ
      have fX:f10 33=.slice a0 mn.toNat c0:=jj 6 J J
      have gF:f10 34=U (q:Int):=jj 7 J J
      refine jh (gz.at_ 1 J) J J fX gF ai iY eJ ?_
      intro g5 x6 hv5 jT qe
      obtain rfl:(⟨a2,x3.length,c2⟩:SV)=x6:=alD (xm.symm.trans jT)
      exact⟨_,J,Ext.refl _,⟨g5,J,hv5,qe⟩⟩
     refine dc (fun f11 lL r6 qL mS=>?_) ?_
     ·
      obtain⟨g6,gL,hv6,yQ⟩:∃(g6:Nat),f11 35=.pointer (some ⟨g6,(q:Int).toNat*1,none⟩)∧(.slice a0 mn.toNat c0:Value).ownBlock=some g6∧gq (MS M ([box bj #[U mn,.slice a0 mn.toNat c0] 68,own w.heap.size 115 (.slice a0 mn.toNat c0) gf,box aW #[U 0,.slice none 0 0] 68,box aK #[U mn,sL aU mr aT] 68,iL aU mr aT]++ck w.heap.size 137 gf ys)) lL ⟨g6,(q:Int).toNat*1,none⟩ (⟨a2,x3.length,c2⟩:SV):=mS 8 rfl rfl
      refine QJ yQ eJ J gL ?_
      exact⟨_,J,Ext.refl _,J⟩
     exact gp.rest J _
    ·
     intro f12 jX mg po iz
     have gI:=H9.ext po
     have gE:=(mg 2 J).trans s4
     have jg:=(mg 3 J).trans s5
     have kU:=(mg 4 J).trans s6
     have oA:=(mg 10 J).trans s7
     have pw:=(mg 11 J).trans s8
     have x7:=(mg 16 J).trans s9
     have DR:=(mg 17 J).trans ey
     have Ck:=iz 4 J
     have IB:=iz 9 J
     refine k ?_
     have gS:=QW gI (tR (l:=[box bj #[U mn,.slice a0 mn.toNat c0] 68,own w.heap.size 115 (.slice a0 mn.toNat c0) gf,box aW #[U 0,.slice none 0 0] 68,box aK #[U mn,sL aU mr aT] 68,iL aU mr aT]) n9 rX) (tR (l:=[box bj #[U mn,.slice a0 mn.toNat c0] 68,own w.heap.size 115 (.slice a0 mn.toNat c0) gf,box aW #[U 0,.slice none 0 0] 68,box aK #[U mn,sL aU mr aT] 68,iL aU mr aT]) xm Mj) (by have RL:=rX;rw[gM] at RL;have RJ:=Mj;rw[gM] at RJ;rw[Ih RL,Ih RJ];exact alL _) (by have RJ:=Mj;rw[gM] at RJ;rw[Ih RJ];have h_:=CO (n:=((mn.toNat:Nat):Int)) ai;omega)<|Xx n9 xm rX Mj
     refine ca adg J (ec Ck<|ec IB e0) gS ?_
     rintro _ kJ ⟨rfl,lK⟩
     have kO:=HI.IF (M:=fun _=>False) (it:=xl (.int .i64 0) (0:Int)) lK n9
     have lT:HI M w kJ ([box bj #[U mn,.slice a0 mn.toNat c0] 68,own w.heap.size 115 (.slice a0 mn.toNat c0) gf,box aW #[U 0,.slice none 0 0] 68,box aK #[U mn,sL aU mr aT] 68,iL aU mr aT]++ck w.heap.size 137 gf (ys.set ((i:Int).toNat) (fZ x0 x3))):=kO
     refine z<|aF<|nx<|rg<|k<|add J J DR J aY<|ak (v:=U ((i:Int)+1)) J J<|z<|bD _ ?_ ⟨(i+1),(ys.set ((i:Int).toNat) (fZ x0 x3)),J,gE,jg,kU,oA,pw,x7,(bJ J),lT,ai,(by rw[alP];exact pA),(by exact Yg gM rX Mj ai b2),(by rw[alP];exact Vj)⟩
     omega
   refine sk<|aF<|nx<|rg<|k<|add J J ey J aY<|ak (v:=U ((i:Int)+1)) J J<|z<|bD _ ?_ ⟨(i+1),ys,J,s4,s5,s6,s7,s8,s9,(bJ J),H9,ai,(by exact pA),(by exact acs gM rX ai b2),(by exact Vj)⟩
   omega
  have p1:=dF b1
  refine ex<|bg<|bt<|bz<|aF<|nx<|rg<|k<|add J J s8 J aY<|ak (v:=U ((q:Int)+1)) J J<|z<|bD _ ?_ ⟨(q+1),ys,J,s4,s5,s7,(bJ J),H8,ai,(by exact pA),(by rw[gM];exact Yh _ ai),(by exact Vj)⟩
  omega
 have p0:=dF b0
 refine ex<|bg<|bt<|bz<|nx<|sq ?_
 have H8:HI M w w5 [own w.heap.size 115 (.slice a0 mn.toNat c0) xs,box bj #[U mn,.slice a0 mn.toNat c0] 68,box aW #[U 0,.slice none 0 0] 68,box aK #[U mn,sL aU mr aT] 68,iL aU mr aT]:=HI.deep (l:=[box bj #[U mn,.slice a0 mn.toNat c0] 68,box aW #[U 0,.slice none 0 0] 68,box aK #[U mn,sL aU mr aT] 68,iL aU mr aT]) (HI.ba (l:=[box bj #[U mn,.slice a0 mn.toNat c0] 68,own w.heap.size 115 (.slice a0 mn.toNat c0) gf,box aW #[U 0,.slice none 0 0] 68,box aK #[U mn,sL aU mr aT] 68,iL aU mr aT]) (l':=[own w.heap.size 115 (.slice a0 mn.toNat c0) gf,box bj #[U mn,.slice a0 mn.toNat c0] 68,box aW #[U 0,.slice none 0 0] 68,box aK #[U mn,sL aU mr aT] 68,iL aU mr aT]) (t:=ck w.heap.size 137 gf xs) H7 [1,0,2,3,4] aJ J J) cG
 refine rg<|k<|cg H8 1 J bh J s1 aJ J<|k<|cz H8 2 J bh J J s0 J J J J ?_
 intro w6 (H9:HI M w w6 [own w.heap.size 115 (.slice a0 mn.toNat c0) xs,box bj #[U mn,.slice a0 mn.toNat c0] 68,box aW #[U mn,.slice a0 mn.toNat c0] 68,box aK #[U mn,sL aU mr aT] 68,iL aU mr aT])
 refine aG<|rt<|vI H9 2 J bh J J s0 J aJ ?_
 have e1:(xs:List (List bG))=bU mn mr:=by exact RQ hs ai ai
 have l1:mn.toNat=(bU mn mr).length:=by rw[←e1];omega
 have bF:=fu (fun (yp:Nat)=>(.agg #[U mn,.slice a0 yp c0]:Value)) l1
 exact⟨a0,c0,bF,H9.below,(alB (fun (n_:Nat)=>bm _ _ _ (bU mn mr) (.slice a0 n_ c0) _) l1).mp ((alB (fun (x_:List (List bG))=>bm _ _ _ x_ (.slice a0 mn.toNat c0) _) e1).mp (H9.cB 0 J))⟩
theorem xF:aX.underlying 55=some (.slice 4):=bu
theorem af4:dq aX 79:=dy Tryz.func79
theorem adx:dq aX 104:=dy Tryz.func104
theorem VS:dq aX 105:=dy Tryz.func105
theorem Gu {l:az} {x:Int} (hM:ei M w) (rj:cP M w dO dN l) (h_x:aN x):Calls aX 105 #[sL dO l dN,U x] w (cZ fun v w'=>v=.bool (decide (x∈l))∧Ext w w'):=by
 refine dK 18 Tryz.func105 J J J hM fun f0 ha H=>?_
 have H0:=cj H rj
 have xM:=bN rj
 have i0:f0 0=sL dO l dN:=ha 0 bH
 have i1:f0 1=U x:=ha 1 bH
 refine aH<|aj (v:=.bool false) J J<|aG<|sq<|aH<|aj (v:=U 0) J J<|aG<|bk<|lp (fun m f w'=>∃(j:Nat),m=l.length-j∧f 0=sL dO l dN∧f 1=U x∧f 5=U (j:Int)∧HI M w w' [iL dO l dN]∧(j≤l.length)∧(x∉l.take j)) _ ⟨0,J,i0,i1,(bJ J),H0,ai,bH⟩ ?_
 rintro _ f0 w0 ⟨j,rfl,s0,s1,s2,H1,hk,hs⟩
 refine sq<|aH<|ak J s2<|ak J s0<|k<|ep J J cY<|k<|lss J J J J<|z<|nx<|cd (b:=decide ((j:Int)<(l.length:Int))) J J (fun b0=>?_)<|fun b0=>?_
 ·
  have p0:=dT b0
  refine sk<|nx<|sq<|bk<|aH<|ak J s0<|ak J s2<|k<|ia (H1.rv 0 J) J J J J ai cY aQ ?_
  intro fz x0 aq cN
  refine k<|kB cN.w aQ J J ?_
  intro cL
  refine ak J s1<|k<|eql J J J J<|z<|nx<|cd (b:=decide (x0=x)) J J (fun b1=>?_)<|fun b1=>?_
  ·
   have p1:=dT b1
   refine aH<|aj (v:=.bool true) J J<|aG<|rt<|bM<|aS<|gb<|bM<|aS<|r1 J J ?_
   exact⟨alB Value.bool (by exact Tw aq cG),H1.below⟩
  have p1:=dF b1
  refine sk<|aF<|nx<|rg<|ak J s2<|k<|add J J J J aY<|aj (v:=U ((j:Int)+1)) J J<|z<|bD _ ?_ ⟨(j+1),J,s0,s1,(bJ J),H1,ai,(by exact QB hs aq cG)⟩
  omega
 have p0:=dF b0
 refine ex<|bg<|bt<|bz<|dM<|aj (v:=.bool false) J J<|aG<|rt<|r1 J J ?_
 exact⟨alB Value.bool (by exact Xr hs ai),H1.below⟩
theorem Lg (hM:ei M w) (fL:aN mn) (eO:cP M w aU aT mr) (nt:aN i) (bV:cq mn mr=true) (Ad:0≤i) (xr:i<mn):Calls aX 79 #[.agg #[U mn,sL aU mr aT],U i] w (cZ fun v w'=>∃(a0:OA) (c0:Nat),v=.slice a0 (iN mn.toNat (cl mn.toNat (dw mr) i.toNat)).length c0∧Ext w w'∧bm M 3 w (iN mn.toNat (cl mn.toNat (dw mr) i.toNat)) (.slice a0 (iN mn.toNat (cl mn.toNat (dw mr) i.toNat)).length c0) w'):=by
 refine dK 63 Tryz.func79 J J J hM fun f0 ha H=>?_
 have H0:=cj H eO
 have lu:=bN eO
 have i0:f0 0=.agg #[U mn,sL aU mr aT]:=ha 0 bH
 have i1:f0 1=U i:=ha 1 bH
 have A_:=(bQ bV).1;have CE:=(bQ bV).2.2.1;have CF:=iA bV
 refine aH<|k<|bx H0 J i0 ?_
 intro aK w0 dt (H1:HI M w w0 [box aK #[U mn,sL aU mr aT] 68,iL aU mr aT])
 refine aj (v:=.slice none 0 0) J J<|cU<|aj (v:=.slice none 0 0) J J<|cU<|bo gm J J<|bR H1 0 J aQ J J J<|k ?_
 have n0:((mn.toNat:Nat):Int)=mn:=alJ ai
 refine mk (m:=mn.toNat) (zx:=(false:Bool)) H1 J J (by rw[n0];exact rfl) (by rw[n0];exact rfl) xF mC (fun _ _=>rfl) ai ai ?_
 let bC:=[box aK #[U mn,sL aU mr aT] 68,iL aU mr aT]
 intro g0 w1 cR (H2:HI M w w1 (own w.heap.size 4 (.slice (some ⟨g0,0,none⟩) mn.toNat mn.toNat) (List.replicate mn.toNat (false:Bool))::bC))
 refine aj (v:=.slice (some ⟨g0,0,none⟩) mn.toNat mn.toNat) J J<|cU<|ak J i1<|k<|bs (xs:=([i]:az)) (cells:=#[U i]) (e:=3) H2 J (ct J eo) (fun _=>bu) ⟨[U i],[],J,⟨J,nt⟩,J⟩ J aJ ?_
 intro g1 w2 d_ H3
 refine aj (v:=.slice (some ⟨g1,0,none⟩) 1 1) J J<|aG<|sq<|bk ?_
 have H4:HI M w w2 (nX w.heap.size 3 (.slice (some ⟨g1,0,none⟩) 1 1) ([i]:az)::own w.heap.size 4 (.slice (some ⟨g0,0,none⟩) mn.toNat mn.toNat) (List.replicate mn.toNat (false:Bool))::bC):=H3.toQ 0 J
 refine lp (fun m f w'=>∃(sn:List Bool) (td:az) (a0:OA) (c0:Nat),m=2*sn.count false+td.length∧f 2=pV aK 0∧f 5=.slice none 0 0∧f 6=.slice (some ⟨g0,0,none⟩) mn.toNat mn.toNat∧f 7=sL a0 td c0∧HI M w w' (nX w.heap.size 3 (.slice a0 td.length c0) td::own w.heap.size 4 (.slice (some ⟨g0,0,none⟩) mn.toNat mn.toNat) sn::bC)∧(uA mn.toNat (dw mr) i.toNat sn td (-1) 0)∧(2*sn.count false+td.length≤2*mn.toNat+1)) _ ⟨(List.replicate mn.toNat (false:Bool)),[i],(some ⟨g1,0,none⟩),1,J,J,J,J,J,H4,(by have h_:=P0 (n:=mn.toNat) (p:=dw mr) (i:=i.toNat) ai;rwa [alJ Ad] at h_),bH⟩ ?_
 rintro _ f0 w3 ⟨sn,td,a0,c0,rfl,s0,s1,s2,s3,H5,hs,Mc⟩
 refine sq<|aH<|ak J s3<|k<|ep J J cY<|k<|gtr J J J J<|z<|nx<|cd (b:=decide (0<(td.length:Int))) J J (fun b0=>?_)<|fun b0=>?_
 ·
  have p0:=dT b0
  refine sk<|nx<|bk<|sq ?_
  have hn_:((mn.toNat:Nat):Int)=mn:=alJ CF
  refine rg<|ak J s3<|k<|iaQ (H5.at_ 0 J) J J J J ai cY aQ ?_
  intro fz x0 aq cN
  refine k<|kB cN aQ J J ?_
  intro cL
  refine aj (v:=U x0) J J<|aG<|sq ?_
  obtain⟨at_,JJ,T6,afF⟩:=Yx hs aq
  refine rg<|ak J s3<|k<|slQ H5 0 J J J J J ai cY aQ ?_
  intro a1 c1 (H6:HI M w w3 (nX w.heap.size 3 (.slice a1 (td.drop 1).length c1) (td.drop 1)::own w.heap.size 4 (.slice (some ⟨g0,0,none⟩) mn.toNat mn.toNat) sn::bC))
  refine aj (v:=sL a1 (td.drop 1) c1) J J<|cU<|aj (v:=U 0) J J<|aG<|bk<|lp (fun m f w'=>∃(j:Nat) (AB:List Bool) (tQ:az) (a2:OA) (c2:Nat),m=mn.toNat-j∧f 2=pV aK 0∧f 5=.slice none 0 0∧f 6=.slice (some ⟨g0,0,none⟩) mn.toNat mn.toNat∧f 7=sL a2 tQ c2∧f 8=U x0∧f 9=U (j:Int)∧HI M w w' (nX w.heap.size 3 (.slice a2 tQ.length c2) tQ::own w.heap.size 4 (.slice (some ⟨g0,0,none⟩) mn.toNat mn.toNat) AB::bC)∧(j≤mn.toNat)∧(uA mn.toNat (dw mr) i.toNat AB tQ x0 j)∧(2*AB.count false+tQ.length≤2*sn.count false+(td.drop 1).length)) _ ⟨0,sn,(td.drop 1),a1,c1,J,s0,s1,s2,J,J,(bJ J),H6,ai,(by exact WT hs aq),ai⟩ ?_
  rintro _ f1 w4 ⟨j,AB,tQ,a2,c2,rfl,s4,s5,s6,s7,s8,s9,H7,Vz,gM,TG⟩
  refine sq<|aH<|ak J s9<|bo gm J s4<|bR H7 2 J aQ J J J<|k<|lss J J J J<|z<|nx<|cd (b:=decide ((j:Int)<mn)) J J (fun b1=>?_)<|fun b1=>?_
  ·
   have p1:=dT b1
   refine sk<|nx<|sq<|bk<|aH<|k<|cg H7 2 J bh J s4 aJ J<|ak J s8<|ak J s9<|k ?_
   have cx:=mm (mn:=mn) (mr:=mr) (i:=x0) (j:=(j:Int)) H7.mb fL (H7.rv 3 J) cL aY (by exact(bQ bV).1) (by exact(bQ bV).2.1)<|by exact(bQ bV).2.2.1
   refine ca xS J (ec J<|ec J<|ec J e0) cx ?_
   rintro _ w5 ⟨rfl,eG⟩
   have H8:=H7.ext eG
   refine ak (v:=.bool (dG mn mr x0 (j:Int))) J J ?_
   rcases bE (dG mn mr x0 (j:Int)) with b2|b2
   ·
    refine aM J J J b2<|mv J s6<|aM J J J b2<|mv J s9<|aM J J J b2<|jh (H8.at_ 1 J) J J J J (by have h_:=gM.len;omega) xF mC ?_
    intro g2 x1 iC cw eU
    refine aM J J J b2<|QK eU mC J J<|aM J J J b2<|kc J J<|k<|ba J J J J b2 J<|z<|nx<|cd (b:=!x1) J J (fun b3=>?_)<|fun b3=>?_
    ·
     refine aH<|ak J s6<|ak J s9<|k<|jh (H8.at_ 1 J) J J J J (by have h_:=gM.len;omega) xF mC ?_
     intro g3 x2 lZ dR gJ
     refine k<|rO H8 1 J lZ J (by have h_:=gM.len;omega) mC J J J J (RV.bool.2 J) ?_
     intro w6 (H9:HI M w w6 (nX w.heap.size 3 (.slice a2 tQ.length c2) tQ::own w.heap.size 4 (.slice (some ⟨g0,0,none⟩) mn.toNat mn.toNat) (AB.set ((j:Int).toNat) true)::bC))
     refine aG<|rg<|ak J s7<|ak J s9<|k<|bs (xs:=([(j:Int)]:az)) (cells:=#[U (j:Int)]) (e:=3) H9 J (ct J eo) (fun _=>bu) ⟨[U (j:Int)],[],J,⟨J,(show aN ((j:Int)) from aY)⟩,J⟩ J aJ ?_
     intro g4 w7 eI db
     refine k<|apQ db 1 J J J J J J (fD<|db.at_ 0 J) bH cY aQ J (by simp only[jv,gW];have h_:=am6 (l:=td) (i:=1);omega) (by simp only[jv,gW];have h_:=am6 (l:=td) (i:=1);omega) ?_
     intro a3 c3 w8 (da:HI M w w8 (own w.heap.size 3 (.slice (some ⟨g4,0,none⟩) 1 1) ([(j:Int)]:az)::nX w.heap.size 3 (.slice a3 (tQ++([(j:Int)]:az)).length c3) (tQ++([(j:Int)]:az))::own w.heap.size 4 (.slice (some ⟨g0,0,none⟩) mn.toNat mn.toNat) (AB.set ((j:Int).toNat) true)::bC))
     refine aj (v:=sL a3 (tQ++([(j:Int)]:az)) c3) J J<|z<|aF<|nx<|rg<|ak J s9<|k<|add J J J J aY<|aj (v:=U ((j:Int)+1)) J J<|z ?_
     have eB:HI M w w8 (nX w.heap.size 3 (.slice a3 (tQ++([(j:Int)]:az)).length c3) (tQ++([(j:Int)]:az))::own w.heap.size 4 (.slice (some ⟨g0,0,none⟩) mn.toNat mn.toNat) (AB.set ((j:Int).toNat) true)::bC):=da.c_ [1,2,3,4] aJ J
     refine bD _ ?_ ⟨(j+1),(AB.set ((j:Int).toNat) true),(tQ++([(j:Int)]:az)),a3,c3,J,s4,s5,s6,J,s8,(bJ J),eB,ai,(by exact Tf bV JJ gM T6 ai afF cG),(by exact OT cw (by simpa using b3) TG)⟩
     omega
    refine sk<|aF<|nx<|rg<|ak J s9<|k<|add J J J J aY<|aj (v:=U ((j:Int)+1)) J J<|z<|bD _ ?_ ⟨(j+1),AB,tQ,a2,c2,J,s4,s5,s6,s7,s8,(bJ J),H8,ai,(by exact Tg bV JJ gM T6 ai cw (by simpa using b3)),(by exact TG)⟩
    omega
   refine aD J J J b2<|aD J J J b2<|aD J J J b2<|aD J J J b2<|aD J J J b2<|k<|bc J J J J b2 J<|aG<|l7 J J J<|sk<|aF<|nx<|rg<|ak J s9<|k<|add J J J J aY<|aj (v:=U ((j:Int)+1)) J J<|z<|bD _ ?_ ⟨(j+1),AB,tQ,a2,c2,J,s4,s5,s6,s7,s8,(bJ J),H8,ai,(by exact WV bV JJ gM T6 ai cG),(by exact TG)⟩
   omega
  have p1:=dF b1
  refine ex<|bg<|bt<|bz<|aF<|bD _ ?_ ⟨AB,tQ,a2,c2,J,s4,s5,s6,s7,H7,(by exact Te gM ai),(by have h_:=am6 (l:=td) (i:=1);omega)⟩
  have h_:=am6 (l:=td) (i:=1);omega
 have p0:=dF b0
 refine ex<|bg<|bt<|bz<|nx<|sq<|aH<|aj (v:=U 0) J J<|aG<|bk ?_
 have H6:=H5.ke Int 3
 let dk:=nX w.heap.size 3 (.slice a0 td.length c0) td::own w.heap.size 4 (.slice (some ⟨g0,0,none⟩) mn.toNat mn.toNat) sn::bC
 refine lp (fun m f w'=>∃(j3:Nat) (out:az) (a1:OA) (c1:Nat),m=mn.toNat-j3∧f 2=pV aK 0∧f 5=sL a1 out c1∧f 6=.slice (some ⟨g0,0,none⟩) mn.toNat mn.toNat∧f 10=U (j3:Int)∧HI M w w' (oL w 3 a1 out c1::dk)∧(j3≤mn.toNat)∧(out=iN j3 (fun k=>sn.getD k false))) _ ⟨0,([]:az),none,0,J,s0,s1,s2,(bJ J),H6,ai,(by rfl)⟩ ?_
 rintro _ f1 w4 ⟨j3,out,a1,c1,rfl,s4,s5,s6,s7,H7,akA,vY⟩
 refine sq<|aH<|ak J s7<|bo gm J s4<|bR H7 3 J aQ J J J<|k<|lss J J J J<|z<|nx<|cd (b:=decide ((j3:Int)<mn)) J J (fun b1=>?_)<|fun b1=>?_
 ·
  have p1:=dT b1
  refine sk<|nx<|sq<|bk<|aH<|ak J s6<|ak J s7<|k<|jh (H7.at_ 2 J) J J J J (by have h_:=hs.len;omega) xF mC ?_
  intro g2 x0 iC aq cN
  refine k<|QK cN mC J J<|z<|nx<|cd (b:=x0) J J (fun b2=>?_)<|fun b2=>?_
  ·
   refine rg<|ak J s5<|ak J s7<|k<|bs (xs:=([(j3:Int)]:az)) (cells:=#[U (j3:Int)]) (e:=3) H7 J (ct J eo) (fun _=>bu) ⟨[U (j3:Int)],[],J,⟨J,(show aN ((j3:Int)) from aY)⟩,J⟩ J aJ ?_
   intro g3 w5 eG H8
   refine k<|kE H8 1 J J J J J J (fD<|H8.at_ 0 J) cY aQ J (by simp only[jv,gW];have h_:=yr j3 (fun k=>sn.getD k false);rw[vY];omega) J ?_
   intro a2 c2 w6 (H9:HI M w w6 (own w.heap.size 3 (.slice (some ⟨g3,0,none⟩) 1 1) ([(j3:Int)]:az)::oL w 3 a2 (out++([(j3:Int)]:az)) c2::dk))
   refine aj (v:=sL a2 (out++([(j3:Int)]:az)) c2) J J<|z<|aF<|nx<|rg<|ak J s7<|k<|add J J J J aY<|aj (v:=U ((j3:Int)+1)) J J<|z ?_
   have db:HI M w w6 (oL w 3 a2 (out++([(j3:Int)]:az)) c2::dk):=H9.c_ [1,2,3,4,5] aJ J
   refine bD _ ?_ ⟨(j3+1),(out++([(j3:Int)]:az)),a2,c2,J,s4,J,s6,(bJ J),db,ai,(by rw[vY,I5];first|rw[alE (by rw[wu aq];assumption)]|rw[alG (by rw[wu aq];first|simpa using b2|simpa using b3),amA])⟩
   omega
  refine sk<|aF<|nx<|rg<|ak J s7<|k<|add J J J J aY<|aj (v:=U ((j3:Int)+1)) J J<|z<|bD _ ?_ ⟨(j3+1),out,a1,c1,J,s4,s5,s6,(bJ J),H7,ai,(by rw[vY,I5];first|rw[alE (by rw[wu aq];assumption)]|rw[alG (by rw[wu aq];first|simpa using b2|simpa using b3),amA])⟩
  omega
 have p1:=dF b1
 refine ex<|bg<|bt<|bz<|dM<|ak J s5<|aj (v:=sL a1 out c1) J J<|aG<|rt<|r1 J J ?_
 have e0:(out:az)=iN mn.toNat (cl mn.toNat (dw mr) i.toNat):=by rw[vY,show j3=mn.toNat from by omega];exact QE fun k_ ra=>by have h_:=WU (WB p0▸hs) ai ra;exact h_
 have bF:=fu (fun (cK:az)=>(.slice a1 cK.length c1:Value)) e0
 exact⟨a1,c1,bF,H7.below,(alB (fun (x_:az)=>bm _ _ _ x_ (.slice a1 x_.length c1) _) e0).mp (H7.cB 0 J)⟩
theorem qV (hM:ei M w) (fL:aN mn) (eO:cP M w aU aT mr) (bV:cq mn mr=true):Calls aX 37 #[.agg #[U mn,sL aU mr aT]] w (cZ fun v w'=>∃(a0:OA) (c0:Nat),v=.agg #[U mn,.slice a0 (bU mn mr).length c0]∧Ext w w'∧RV M w' (.slice a0 (bU mn mr).length c0) (bU mn mr)):=by
 refine dK 40 Tryz.func37 J J J hM fun f0 ha H=>?_
 have H0:=cj H eO
 have lu:=bN eO
 have i0:f0 0=.agg #[U mn,sL aU mr aT]:=ha 0 bH
 have A_:=(bQ bV).1;have CE:=(bQ bV).2.2.1;have CF:=iA bV
 refine aH<|k<|bx H0 J i0 ?_
 intro aK w0 dt (H1:HI M w w0 [box aK #[U mn,sL aU mr aT] 68,iL aU mr aT])
 refine k<|al H1 bh ?_
 let bC:=[box aK #[U mn,sL aU mr aT] 68,iL aU mr aT]
 intro aW w1 cR (H2:HI M w w1 (box aW #[U 0,.slice none 0 0] 68::bC))
 refine cU<|bo gm J J<|bR H2 1 J aQ J J J<|k ?_
 have cx:=wX (n:=mn) H2.mb fL
 refine ca OG J (ec J e0) cx ?_
 rintro _ w2 ⟨a0,c0,rfl,d_,cL⟩
 have H3:=H2.ic cL
 refine ak (v:=.tuple #[.agg #[U (eK mn),sL a0 (bO mn) c0],U (ka mn)]) J J<|k<|xt J J J<|k<|xt J J J<|k<|al H3 bh ?_
 let dk:=box aW #[U 0,.slice none 0 0] 68::bC
 intro bj w3 eG (H4:HI M w w3 (box bj #[U 0,.slice none 0 0] 68::oL w 115 a0 (bO mn) c0::dk))
 refine k<|cz H4 0 J bh J J J J J J J ?_
 intro w4 (H5:HI M w w4 (box bj #[U (eK mn),sL a0 (bO mn) c0] 68::oL w 115 a0 (bO mn) c0::dk))
 refine aj (v:=U (ka mn)) J J<|aG<|sq<|aH<|aj (v:=U 0) J J<|aG<|bk ?_
 have H6:=H5.freeze 1 J
 have H7:=cj H6<|H6.rv 1 J
 let dv:=iL a0 (bO mn) c0::dk
 refine lp (fun m f w'=>∃(i:Nat) (n_:Int) (rs:List (List bG)) (a1:OA) (c1:Nat),m=mn.toNat-i∧f 1=pV aK 0∧f 2=pV aW 0∧f 3=pV bj 0∧f 5=U (i:Int)∧HI M w w' (iL a1 rs c1::box bj #[U n_,sL a1 rs c1] 68::dv)∧(i≤mn.toNat)∧(n_=mn)∧(rs=cO mn.toNat (vH mn.toNat (cl mn.toNat<|dw mr) i 0))) _ ⟨0,(eK mn),(bO mn),a0,c0,J,J,J,J,(bJ J),H7,ai,(by exact(kA<|zt bV).1),(by exact Th bV _)⟩ ?_
 rintro _ f0 w5 ⟨i,n_,rs,a1,c1,rfl,s0,s1,s2,s3,H8,yI,h1,h2⟩
 refine sq<|aH<|ak J s3<|bo gm J s0<|bR H8 4 J aQ J J J<|k<|lss J J J J<|z<|nx<|cd (b:=decide ((i:Int)<mn)) J J (fun b0=>?_)<|fun b0=>?_
 ·
  have p0:=dT b0
  refine sk<|nx<|sq<|bk<|aH<|k<|cg H8 4 J bh J s0 aJ J<|ak J s3<|k ?_
  have eF:=Lg (mn:=mn) (mr:=mr) (i:=(i:Int)) H8.mb fL (H8.rv 5 J) aY (by exact bV) ai ai
  refine ca af4 J (ec J<|ec J e0) eF ?_
  rintro _ w6 ⟨a2,c2,rfl,eI,eQ⟩
  have H9:=H8.ic eQ
  refine aj (v:=sL a2 (iN mn.toNat<|cl mn.toNat (dw mr) (i:Int).toNat) c2) J J<|cU<|aj (v:=U 0) J J<|aG<|bk ?_
  have db:=cj H9<|H9.rv 1 J
  refine lp (fun m f w'=>∃(q:Nat) (cp:Int) (fY:List (List bG)) (a3:OA) (c3:Nat),m=(iN mn.toNat<|cl mn.toNat (dw mr) (i:Int).toNat).length-q∧f 1=pV aK 0∧f 2=pV aW 0∧f 3=pV bj 0∧f 5=U (i:Int)∧f 6=sL a2 (iN mn.toNat<|cl mn.toNat (dw mr) (i:Int).toNat) c2∧f 7=U (q:Int)∧HI M w w' (iL a3 fY c3::oL w 3 a2 (iN mn.toNat<|cl mn.toNat (dw mr) (i:Int).toNat) c2::iL a1 rs c1::box bj #[U cp,sL a3 fY c3] 68::dv)∧(q≤(iN mn.toNat<|cl mn.toNat (dw mr) (i:Int).toNat).length)∧(cp=mn)∧(fY=cO mn.toNat (vH mn.toNat (cl mn.toNat<|dw mr) i q))) _ ⟨0,n_,rs,a1,c1,J,s0,s1,s2,s3,J,(bJ J),db,ai,(by exact h1),(by exact h2)⟩ ?_
  rintro _ f1 w7 ⟨q,cp,fY,a3,c3,rfl,s4,s5,s6,s7,s8,s9,da,jw,g1,g2⟩
  refine sq<|aH<|ak J s9<|ak J s8<|k<|ep J J cY<|k<|lss J J J J<|z<|nx<|cd (b:=decide ((q:Int)<((iN mn.toNat<|cl mn.toNat (dw mr) (i:Int).toNat).length:Int))) J J (fun b1=>?_)<|fun b1=>?_
  ·
   have p1:=dT b1
   refine sk<|nx<|sq<|bk ?_
   obtain⟨x0,aq⟩:∃x,(iN mn.toNat (cl mn.toNat (dw mr) (i:Int).toNat))[(q:Int).toNat]? =some x:=⟨_,dW ai⟩
   refine V2 8 [eV (.agg #[U cp,sL a3 fY c3]),eV (U (i:Int)),eV (sL a2 (iN mn.toNat<|cl mn.toNat (dw mr) (i:Int).toNat) c2),eV (U (q:Int)),fun v w'=>∃(g0:Nat),v=.pointer (some ⟨g0,(q:Int).toNat*1,none⟩)∧(.slice a2 (iN mn.toNat<|cl mn.toNat (dw mr) (i:Int).toNat).length c2:Value).ownBlock=some g0∧gq (MS M [iL a3 fY c3,oL w 3 a2 (iN mn.toNat<|cl mn.toNat (dw mr) (i:Int).toNat) c2,iL a1 rs c1,box bj #[U cp,sL a3 fY c3] 68,iL a0 (bO mn) c0,box aW #[U 0,.slice none 0 0] 68,box aK #[U mn,sL aU mr aT] 68,iL aU mr aT]) w' ⟨g0,(q:Int).toNat*1,none⟩ x0,fun v w'=>v=U x0∧aN (x0),fun v w'=>∃(a4:OA) (c4:Nat),v=.tuple #[.agg #[U (dP cp (i:Int) x0),sL a4 (bL cp fY (i:Int) x0) c4],U (iH cp (i:Int) x0)]∧RV (MS M [iL a3 fY c3,oL w 3 a2 (iN mn.toNat<|cl mn.toNat (dw mr) (i:Int).toNat) c2,iL a1 rs c1,box bj #[U cp,sL a3 fY c3] 68,iL a0 (bO mn) c0,box aW #[U 0,.slice none 0 0] 68,box aK #[U mn,sL aU mr aT] 68,iL aU mr aT]) w' (sL a4 (bL cp fY (i:Int) x0) c4) (bL cp fY (i:Int) x0),fun v w'=>∃(a4:OA) (c4:Nat),v=.tuple #[.agg #[U (dP cp (i:Int) x0),sL a4 (bL cp fY (i:Int) x0) c4],U (iH cp (i:Int) x0)]∧RV (MS M [iL a3 fY c3,oL w 3 a2 (iN mn.toNat<|cl mn.toNat (dw mr) (i:Int).toNat) c2,iL a1 rs c1,box bj #[U cp,sL a3 fY c3] 68,iL a0 (bO mn) c0,box aW #[U 0,.slice none 0 0] 68,box aK #[U mn,sL aU mr aT] 68,iL aU mr aT]) w' (sL a4 (bL cp fY (i:Int) x0) c4) (bL cp fY (i:Int) x0)] J bu ?_ ?_
   ·
    refine dc (fun _ _ kC iJ _=>cg (da.ext iJ) 3 J bh J ((kC 3 J).trans s6) aJ J<|d0 J J)<|dc (fun _ _ rh _ _=>mv J ((rh 5 J).trans s7)<|d0 J J)<|dc (fun _ _ l4 _ _=>mv J ((l4 6 J).trans s8)<|d0 J J)<|dc (fun _ _ qC _ _=>mv J ((qC 7 J).trans s9)<|d0 J J) ?_
    refine⟨fun _=>⟨fun f6 ju re gv jk=>?_,by rintro _ _ _ x_ ⟨g0,e_,iC,cN⟩;exact⟨g0,e_,iC,cN.ext x_⟩⟩,?_⟩
    ·
     have gz:=da.ext gv
     have ey:f6 32=sL a2 (iN mn.toNat (cl mn.toNat (dw mr) (i:Int).toNat)) c2:=jk 2 J J
     have ew:f6 33=U (q:Int):=jk 3 J J
     refine jh (gz.at_ 1 J) J J ey ew ai cY aQ ?_
     intro g1 x1 lZ cw eU
     obtain rfl:x0=x1:=alD (aq.symm.trans cw)
     exact⟨_,J,Ext.refl _,⟨g1,J,lZ,eU⟩⟩
    refine dc (fun f7 jK ns j0 j8=>?_) ?_
    ·
     obtain⟨g2,eE,uQ,gJ⟩:∃(g2:Nat),f7 34=.pointer (some ⟨g2,(q:Int).toNat*1,none⟩)∧(.slice a2 (iN mn.toNat (cl mn.toNat (dw mr) (i:Int).toNat)).length c2:Value).ownBlock=some g2∧gq (MS M [iL a3 fY c3,oL w 3 a2 (iN mn.toNat (cl mn.toNat (dw mr) (i:Int).toNat)) c2,iL a1 rs c1,box bj #[U cp,sL a3 fY c3] 68,iL a0 (bO mn) c0,box aW #[U 0,.slice none 0 0] 68,box aK #[U mn,sL aU mr aT] 68,iL aU mr aT]) jK ⟨g2,(q:Int).toNat*1,none⟩ x0:=j8 4 rfl rfl
     refine kB gJ aQ J eE ?_
     intro gl
     exact⟨_,J,Ext.refl _,⟨J,gl⟩⟩
    refine⟨fun _=>⟨fun f8 lz rb kb kj=>?_,by rintro _ _ _ x_ ⟨a4,c4,e_,gG⟩;exact⟨a4,c4,e_,gG.lift (Up.ext x_)⟩⟩,?_⟩
    ·
     have gI:=da.ext kb
     have fc:f8 30=.agg #[U cp,sL a3 fY c3]:=kj 0 J J
     have fJ:f8 31=U (i:Int):=kj 1 J J
     obtain⟨fw,lk⟩:f8 35=U x0∧aN (x0):=kj 5 rfl rfl
     have nB:=pS (mn:=cp) (mr:=fY) (i:=(i:Int)) (j:=x0) gI.mb (by rw[g1];exact fL) (gI.rv 0 J) aY lk (by rw[g1,g2];exact(UZ bV _).1) (by rw[g2];exact(UZ bV _).2.1)<|by rw[g1];exact CE
     refine ca Dq J (ec fc<|ec fJ<|ec fw e0) nB ?_
     rintro _ mB ⟨a5,c5,rfl,kZ,lM⟩
     have ml:=bm.rv lM gI.mb
     exact⟨_,J,kZ,⟨a5,c5,J,ml⟩⟩
    refine⟨fun _=>⟨fun f9 lL qa qL ll=>?_,by rintro _ _ _ x_ ⟨a4,c4,e_,gG⟩;exact⟨a4,c4,e_,gG.lift (Up.ext x_)⟩⟩,?_⟩
    ·
     obtain⟨a6,c6,fX,kK⟩:∃(a6:OA) (c6:Nat),f9 36=.tuple #[.agg #[U (dP cp (i:Int) x0),sL a6 (bL cp fY (i:Int) x0) c6],U (iH cp (i:Int) x0)]∧RV (MS M [iL a3 fY c3,oL w 3 a2 (iN mn.toNat (cl mn.toNat (dw mr) (i:Int).toNat)) c2,iL a1 rs c1,box bj #[U cp,sL a3 fY c3] 68,iL a0 (bO mn) c0,box aW #[U 0,.slice none 0 0] 68,box aK #[U mn,sL aU mr aT] 68,iL aU mr aT]) lL (sL a6 (bL cp fY (i:Int) x0) c6) (bL cp fY (i:Int) x0):=ll 6 rfl rfl
     refine mv J fX ?_
     exact⟨_,J,Ext.refl _,⟨a6,c6,J,kK⟩⟩
    exact gp.rest J _
   ·
    intro f10 jX oa po jj
    have iE:=da.ext po
    have gF:=(oa 1 J).trans s4
    have gL:=(oa 2 J).trans s5
    have gE:=(oa 3 J).trans s6
    have jg:=(oa 5 J).trans s7
    have kU:=(oa 6 J).trans s8
    have oA:=(oa 7 J).trans s9
    obtain⟨a7,c7,pw,lD⟩:∃(a7:OA) (c7:Nat),f10 29=.tuple #[.agg #[U (dP cp (i:Int) x0),sL a7 (bL cp fY (i:Int) x0) c7],U (iH cp (i:Int) x0)]∧RV (MS M [iL a3 fY c3,oL w 3 a2 (iN mn.toNat (cl mn.toNat (dw mr) (i:Int).toNat)) c2,iL a1 rs c1,box bj #[U cp,sL a3 fY c3] 68,iL a0 (bO mn) c0,box aW #[U 0,.slice none 0 0] 68,box aK #[U mn,sL aU mr aT] 68,iL aU mr aT]) jX (sL a7 (bL cp fY (i:Int) x0) c7) (bL cp fY (i:Int) x0):=jj 7 rfl
    have kY:=cj iE lD
    show TA _ _ _ _ 3 [true,true,true,true,true,true,true,true,false,false,false] _ _
    refine ta [8,9] bu J ⟨⟨_,J,?_⟩,⟨_,J,?_⟩,trivial⟩
    ·
     refine xt J pw J<|ta [9,10] bu J ⟨⟨_,J,?_⟩,⟨_,J,?_⟩,trivial⟩
     ·
      refine xt J pw J<|ta [10] bu J ⟨⟨_,J,?_⟩,trivial⟩
      ·
       refine cz kY 4 J bh J J gE J J J J ?_
       intro kJ (kt:HI M w kJ (iL a7 (bL cp fY (i:Int) x0) c7::iL a3 fY c3::oL w 3 a2 (iN mn.toNat (cl mn.toNat (dw mr) (i:Int).toNat)) c2::iL a1 rs c1::box bj #[U (dP cp (i:Int) x0),sL a7 (bL cp fY (i:Int) x0) c7] 68::dv))
       refine z6 bu<|aF<|nx<|rg<|ak J oA<|k<|add J J J J (by have h_:=yr mn.toNat (cl mn.toNat (dw mr) (i:Int).toNat);unfold aN;omega)<|aj (v:=U ((q:Int)+1)) J J<|z ?_
       have lJ:=cj kt<|kt.rv 0 J
       have kH:HI M w kJ (iL a7 (bL cp fY (i:Int) x0) c7::oL w 3 a2 (iN mn.toNat (cl mn.toNat (dw mr) (i:Int).toNat)) c2::iL a1 rs c1::box bj #[U (dP cp (i:Int) x0),sL a7 (bL cp fY (i:Int) x0) c7] 68::dv):=lJ.c_ [0,3,4,5,6,7,8,9] aJ J
       refine bD _ ?_ ⟨(q+1),(dP cp (i:Int) x0),(bL cp fY (i:Int) x0),a7,c7,J,gF,gL,gE,jg,kU,(bJ J),kH,ai,(by rw[g1];exact(ya bV g2 aq ai).1),(by rw[g1];exact(ya bV g2 aq ai).2.1)⟩
       omega
     ·
      refine cz kY 4 J bh J J gE J J J J ?_
      intro kJ (kt:HI M w kJ (iL a7 (bL cp fY (i:Int) x0) c7::iL a3 fY c3::oL w 3 a2 (iN mn.toNat (cl mn.toNat (dw mr) (i:Int).toNat)) c2::iL a1 rs c1::box bj #[U (dP cp (i:Int) x0),sL a7 (bL cp fY (i:Int) x0) c7] 68::dv))
      refine ta [9] bu J ⟨⟨_,J,?_⟩,trivial⟩
      ·
       refine xt J pw J<|z6 bu<|aF<|nx<|rg<|ak J oA<|k<|add J J J J (by have h_:=yr mn.toNat (cl mn.toNat (dw mr) (i:Int).toNat);unfold aN;omega)<|aj (v:=U ((q:Int)+1)) J J<|z ?_
       have lJ:=cj kt<|kt.rv 0 J
       have kH:HI M w kJ (iL a7 (bL cp fY (i:Int) x0) c7::oL w 3 a2 (iN mn.toNat (cl mn.toNat (dw mr) (i:Int).toNat)) c2::iL a1 rs c1::box bj #[U (dP cp (i:Int) x0),sL a7 (bL cp fY (i:Int) x0) c7] 68::dv):=lJ.c_ [0,3,4,5,6,7,8,9] aJ J
       refine bD _ ?_ ⟨(q+1),(dP cp (i:Int) x0),(bL cp fY (i:Int) x0),a7,c7,J,gF,gL,gE,jg,kU,(bJ J),kH,ai,(by rw[g1];exact(ya bV g2 aq ai).1),(by rw[g1];exact(ya bV g2 aq ai).2.1)⟩
       omega
    ·
     refine xt J pw J<|ta [8] bu J ⟨⟨_,J,?_⟩,trivial⟩
     ·
      refine xt J pw J<|ta [10] bu J ⟨⟨_,J,?_⟩,trivial⟩
      ·
       refine cz kY 4 J bh J J gE J J J J ?_
       intro kJ (kt:HI M w kJ (iL a7 (bL cp fY (i:Int) x0) c7::iL a3 fY c3::oL w 3 a2 (iN mn.toNat (cl mn.toNat (dw mr) (i:Int).toNat)) c2::iL a1 rs c1::box bj #[U (dP cp (i:Int) x0),sL a7 (bL cp fY (i:Int) x0) c7] 68::dv))
       refine z6 bu<|aF<|nx<|rg<|ak J oA<|k<|add J J J J (by have h_:=yr mn.toNat (cl mn.toNat (dw mr) (i:Int).toNat);unfold aN;omega)<|aj (v:=U ((q:Int)+1)) J J<|z ?_
       have lJ:=cj kt<|kt.rv 0 J
       have kH:HI M w kJ (iL a7 (bL cp fY (i:Int) x0) c7::oL w 3 a2 (iN mn.toNat (cl mn.toNat (dw mr) (i:Int).toNat)) c2::iL a1 rs c1::box bj #[U (dP cp (i:Int) x0),sL a7 (bL cp fY (i:Int) x0) c7] 68::dv):=lJ.c_ [0,3,4,5,6,7,8,9] aJ J
       refine bD _ ?_ ⟨(q+1),(dP cp (i:Int) x0),(bL cp fY (i:Int) x0),a7,c7,J,gF,gL,gE,jg,kU,(bJ J),kH,ai,(by rw[g1];exact(ya bV g2 aq ai).1),(by rw[g1];exact(ya bV g2 aq ai).2.1)⟩
       omega
  have p1:=dF b1
  refine ex<|bg<|bt<|bz<|aF<|nx<|rg<|ak J s7<|k<|add J J J J aY<|aj (v:=U ((i:Int)+1)) J J<|z ?_
  have eB:=cj da<|da.rv 0 J
  have dZ:HI M w w7 (iL a3 fY c3::box bj #[U cp,sL a3 fY c3] 68::dv):=eB.c_ [0,4,5,6,7,8] aJ J
  refine bD _ ?_ ⟨(i+1),cp,fY,a3,c3,J,s4,s5,s6,(bJ J),dZ,ai,(by exact g1),(by rw[g2];exact Yy (show (iN mn.toNat<|cl mn.toNat (dw mr) (i:Int).toNat).length≤q from by omega))⟩
  omega
 have p0:=dF b0
 refine ex<|bg<|bt<|bz<|dM<|k<|cg H8 1 J bh J s2 aJ J<|k<|cz H8 3 J bh J J s1 J J J J ?_
 intro w6 (H9:HI M w w6 (iL a1 rs c1::box bj #[U n_,sL a1 rs c1] 68::iL a0 (bO mn) c0::box aW #[U n_,sL a1 rs c1] 68::bC))
 refine aG<|rt<|vI H9 3 J bh J J s1 J aJ ?_
 have e0:(n_:Int)=mn:=by exact h1
 have e1:(rs:List (List bG))=bU mn mr:=by rw[h2];exact Yz rfl ai
 have bF:=sd (fun (cK:Int) (fI:List (List bG))=>(.agg #[U cK,.slice a1 fI.length c1]:Value)) e0 e1
 exact⟨a1,c1,bF,H9.below,(alB (fun (x_:List (List bG))=>RV _ _ (.slice a1 x_.length c1) x_) e1).mp (H9.jn 0 J)⟩
theorem vE {l:az} (hM:ei M w) (fL:aN mn) (eO:cP M w aU aT mr) (rj:cP M w dO dN l) (bV:cq mn mr=true):Calls aX 69 #[.agg #[U mn,sL aU mr aT],sL dO l dN] w (cZ fun v w'=>∃(a0:OA) (c0:Nat),v=.agg #[U mn,.slice a0 (gD mn mr l).length c0]∧Ext w w'∧RV M w' (.slice a0 (gD mn mr l).length c0) (gD mn mr l)):=by
 refine dK 55 Tryz.func69 J J J hM fun f0 ha H=>?_
 have H0:=cj H eO
 have H1:=cj H0 rj
 have lu:=bN eO
 have xM:=bN rj
 have i0:f0 0=.agg #[U mn,sL aU mr aT]:=ha 0 bH
 have i1:f0 1=sL dO l dN:=ha 1 bH
 have A_:=(bQ bV).1;have CE:=(bQ bV).2.2.1;have CF:=iA bV
 refine aH<|k<|bx H1 J i0 ?_
 let bC:=[iL dO l dN,iL aU mr aT]
 intro aK w0 dt (H2:HI M w w0 (box aK #[U mn,sL aU mr aT] 68::bC))
 refine k<|al H2 bh ?_
 let dk:=box aK #[U mn,sL aU mr aT] 68::bC
 intro aW w1 cR (H3:HI M w w1 (box aW #[U 0,.slice none 0 0] 68::dk))
 refine cU<|bo gm J J<|bR H3 1 J aQ J J J<|k ?_
 have cx:=wX (n:=mn) H3.mb fL
 refine ca OG J (ec J e0) cx ?_
 rintro _ w2 ⟨a0,c0,rfl,d_,cL⟩
 have H4:=H3.ic cL
 refine ak (v:=.tuple #[.agg #[U (eK mn),sL a0 (bO mn) c0],U (ka mn)]) J J<|k<|xt J J J<|k<|xt J J J<|k<|al H4 bh ?_
 let dv:=box aW #[U 0,.slice none 0 0] 68::dk
 intro bj w3 eG (H5:HI M w w3 (box bj #[U 0,.slice none 0 0] 68::oL w 115 a0 (bO mn) c0::dv))
 refine k<|cz H5 0 J bh J J J J J J J ?_
 intro w4 (H6:HI M w w4 (box bj #[U (eK mn),sL a0 (bO mn) c0] 68::oL w 115 a0 (bO mn) c0::dv))
 refine aj (v:=U (ka mn)) J J<|cU<|k<|cg H6 3 J bh J J aJ J<|k ?_
 have eF:=Lh (mn:=mn) (mr:=mr) H6.mb fL (H6.rv 5 J) (by exact(bQ bV).1) (by exact(bQ bV).2.1) (by exact(bQ bV).2.2.1)<|by exact(bQ bV).2.2.2.2
 refine ca adx J (ec J e0) eF ?_
 rintro _ w5 ⟨a1,c1,rfl,eI,eQ⟩
 have H7:=H6.ext eI
 have H8:=cj H7 eQ
 refine aj (v:=sL a1 (cW mn mr) c1) J J<|aG<|sq<|aH<|aj (v:=U 0) J J<|aG<|bk ?_
 have H9:=H8.freeze 2 J
 have db:=cj H9<|H9.rv 2 J
 let dD:=iL a0 (bO mn) c0::dv
 refine lp (fun m f w'=>∃(j:Nat) (n_:Int) (rs:List (List bG)) (a2:OA) (c2:Nat),m=(cW mn mr).length-j∧f 1=sL dO l dN∧f 4=pV aW 0∧f 5=pV bj 0∧f 7=sL a1 (cW mn mr) c1∧f 8=U (j:Int)∧HI M w w' (iL a2 rs c2::iL a1 (cW mn mr) c1::box bj #[U n_,sL a2 rs c2] 68::dD)∧(j≤(cW mn mr).length)∧(n_=mn)∧(rs=foldM mn (((cW mn mr).take j).filter (xi l)))) _ ⟨0,(eK mn),(bO mn),a0,c0,J,i1,J,J,J,(bJ J),db,ai,(by exact(kA<|zt bV).1),(by rw[(kA<|zt bV).2.1];rfl)⟩ ?_
 rintro _ f0 w6 ⟨j,n_,rs,a2,c2,rfl,s0,s1,s2,s3,s4,da,hk,h1,h2⟩
 refine sq<|aH<|ak J s4<|ak J s3<|k<|ep J J u0<|k<|lss J J J J<|z<|nx<|cd (b:=decide ((j:Int)<((cW mn mr).length:Int))) J J (fun b0=>?_)<|fun b0=>?_
 ·
  have p0:=dT b0
  refine sk<|nx<|sq<|bk<|aH<|ak J s0<|ak J s3<|ak J s4<|k<|ia (da.rv 1 J) J J J J ai u0 tJ ?_
  intro fz x0 aq cN
  refine k<|GK J J J J ai zf aQ<|k<|kB (cN).fst.w aQ J J ?_
  intro gh
  refine k ?_
  have gS:=Gu (l:=l) (x:=x0.1) da.mb (da.rv 6 J) gh
  refine ca VS J (ec J<|ec J e0) gS ?_
  rintro _ w7 ⟨rfl,ly⟩
  have eB:=da.ext ly
  refine ak (v:=.bool (decide (x0.1∈l))) J J ?_
  rcases bE (decide (x0.1∈l)) with b1|b1
  ·
   have p1:=dT b1
   refine aM J J J b1<|mv J s0<|aM J J J b1<|mv J s3<|aM J J J b1<|mv J s4<|aM J J J b1<|ia (eB.rv 1 J) J J J J ai u0 tJ ?_
   intro iG x1 cw eU
   refine aM J J J b1<|GK J J J J ai zf aQ<|aM J J J b1<|kB (eU).snd.w aQ J J ?_
   intro fQ
   refine aM J J J b1 ?_
   have nB:=Gu (l:=l) (x:=x1.2) eB.mb (eB.rv 6 J) fQ
   refine ca VS J (ec J<|ec J e0) nB ?_
   rintro _ w8 ⟨rfl,iJ⟩
   have dZ:=eB.ext iJ
   refine k<|ba J J J J b1 J<|z<|nx<|cd (b:=decide (x1.2∈l)) J J (fun b2=>?_)<|fun b2=>?_
   ·
    have p2:=dT b2
    obtain⟨Mz,My,g3_,g4_⟩:=DV bV aq
    have mI:mH mn [x0.1,x0.2]=true:=jC.2 ai
    obtain⟨x2,dR⟩:∃x,(cW mn mr)[(j:Int).toNat]? =some x:=⟨_,dW ai⟩
    refine V2 13 [eV (.agg #[U n_,sL a2 rs c2]),eV (sL a1 (cW mn mr) c1),eV (U (j:Int)),fun v w'=>∃(kX:Addr),v=.pointer (some kX)∧At (MS M [iL a2 rs c2,iL a1 (cW mn mr) c1,box bj #[U n_,sL a2 rs c2] 68,iL a0 (bO mn) c0,box aW #[U 0,.slice none 0 0] 68,box aK #[U mn,sL aU mr aT] 68,iL dO l dN,iL aU mr aT]) w' kX x2,fun v w'=>∃(kX:Addr),v=.pointer (some<|(kX).add 0)∧At (MS M [iL a2 rs c2,iL a1 (cW mn mr) c1,box bj #[U n_,sL a2 rs c2] 68,iL a0 (bO mn) c0,box aW #[U 0,.slice none 0 0] 68,box aK #[U mn,sL aU mr aT] 68,iL dO l dN,iL aU mr aT]) w' kX x2,fun v w'=>v=U x2.1∧aN (x2.1),eV (sL a1 (cW mn mr) c1),eV (U (j:Int)),fun v w'=>∃(jc:Addr),v=.pointer (some jc)∧At (MS M [iL a2 rs c2,iL a1 (cW mn mr) c1,box bj #[U n_,sL a2 rs c2] 68,iL a0 (bO mn) c0,box aW #[U 0,.slice none 0 0] 68,box aK #[U mn,sL aU mr aT] 68,iL dO l dN,iL aU mr aT]) w' jc x2,fun v w'=>∃(jc:Addr),v=.pointer (some<|(jc).add 1)∧At (MS M [iL a2 rs c2,iL a1 (cW mn mr) c1,box bj #[U n_,sL a2 rs c2] 68,iL a0 (bO mn) c0,box aW #[U 0,.slice none 0 0] 68,box aK #[U mn,sL aU mr aT] 68,iL dO l dN,iL aU mr aT]) w' jc x2,fun v w'=>v=U x2.2∧aN (x2.2),fun v w'=>∃(a3:OA) (c3:Nat),v=.tuple #[.agg #[U (dP n_ x2.1 x2.2),sL a3 (bL n_ rs x2.1 x2.2) c3],U (iH n_ x2.1 x2.2)]∧RV (MS M [iL a2 rs c2,iL a1 (cW mn mr) c1,box bj #[U n_,sL a2 rs c2] 68,iL a0 (bO mn) c0,box aW #[U 0,.slice none 0 0] 68,box aK #[U mn,sL aU mr aT] 68,iL dO l dN,iL aU mr aT]) w' (sL a3 (bL n_ rs x2.1 x2.2) c3) (bL n_ rs x2.1 x2.2),fun v w'=>∃(a3:OA) (c3:Nat),v=.tuple #[.agg #[U (dP n_ x2.1 x2.2),sL a3 (bL n_ rs x2.1 x2.2) c3],U (iH n_ x2.1 x2.2)]∧RV (MS M [iL a2 rs c2,iL a1 (cW mn mr) c1,box bj #[U n_,sL a2 rs c2] 68,iL a0 (bO mn) c0,box aW #[U 0,.slice none 0 0] 68,box aK #[U mn,sL aU mr aT] 68,iL dO l dN,iL aU mr aT]) w' (sL a3 (bL n_ rs x2.1 x2.2) c3) (bL n_ rs x2.1 x2.2)] J bu ?_ ?_
    ·
     refine dc (fun _ _ kC lh _=>cg (dZ.ext lh) 2 J bh J ((kC 5 J).trans s2) aJ J<|d0 J J)<|dc (fun _ _ rh _ _=>mv J ((rh 7 J).trans s3)<|d0 J J)<|dc (fun _ _ l4 _ _=>mv J ((l4 8 J).trans s4)<|d0 J J) ?_
     refine⟨fun _=>⟨fun f4 ju qC j0 lP=>?_,by rintro _ _ _ x_ ⟨kX,e_,gJ⟩;exact⟨kX,e_,gJ.lift (Up.ext x_)⟩⟩,?_⟩
     ·
      have jP:=dZ.ext j0
      have s5:f4 41=sL a1 (cW mn mr) c1:=lP 1 J J
      have s6:f4 42=U (j:Int):=lP 2 J J
      refine ia (jP.rv 1 J) J J s5 s6 ai u0 tJ ?_
      intro sK x4 jT oD
      obtain rfl:x2=x4:=alD (dR.symm.trans jT)
      exact⟨_,J,Ext.refl _,⟨sK,J,oD⟩⟩
     refine⟨fun _=>⟨fun f5 jK re kb jk=>?_,by rintro _ _ _ x_ ⟨kX,e_,gJ⟩;exact⟨kX,e_,gJ.lift (Up.ext x_)⟩⟩,?_⟩
     ·
      obtain⟨kG,s7,qe⟩:∃(kG:Addr),f5 43=.pointer (some kG)∧At (MS M [iL a2 rs c2,iL a1 (cW mn mr) c1,box bj #[U n_,sL a2 rs c2] 68,iL a0 (bO mn) c0,box aW #[U 0,.slice none 0 0] 68,box aK #[U mn,sL aU mr aT] 68,iL dO l dN,iL aU mr aT]) jK kG x2:=jk 3 rfl rfl
      refine GK J J s7 J ai zf aQ ?_
      exact⟨_,J,Ext.refl _,⟨kG,J,cG⟩⟩
     refine dc (fun f6 lz ns kZ j8=>?_) ?_
     ·
      have lK:=dZ.ext kZ
      obtain⟨uz,s8,yQ⟩:∃(uz:Addr),f6 44=.pointer (some ((uz).add 0))∧At (MS M [iL a2 rs c2,iL a1 (cW mn mr) c1,box bj #[U n_,sL a2 rs c2] 68,iL a0 (bO mn) c0,box aW #[U 0,.slice none 0 0] 68,box aK #[U mn,sL aU mr aT] 68,iL dO l dN,iL aU mr aT]) lz uz x2:=j8 4 rfl rfl
      have lT:=lK.put (it:=lq uz x2) J yQ
      refine kB ((lT.wK 0 J)).fst.w aQ J s8 ?_
      intro ml
      exact⟨_,J,Ext.refl _,⟨J,ml⟩⟩
     refine dc (fun _ _ rb _ _=>mv J ((rb 7 J).trans s3)<|d0 J J)<|dc (fun _ _ qa _ _=>mv J ((qa 8 J).trans s4)<|d0 J J) ?_
     refine⟨fun _=>⟨fun f9 jX oa oG jj=>?_,by rintro _ _ _ x_ ⟨jc,e_,km⟩;exact⟨jc,e_,km.lift (Up.ext x_)⟩⟩,?_⟩
     ·
      have kY:=dZ.ext oG
      have s9:f9 46=sL a1 (cW mn mr) c1:=jj 6 J J
      have ey:f9 47=U (j:Int):=jj 7 J J
      refine ia (kY.rv 1 J) J J s9 ey ai u0 tJ ?_
      intro KJ x5 lF Mt
      obtain rfl:x2=x5:=alD (dR.symm.trans lF)
      exact⟨_,J,Ext.refl _,⟨KJ,J,Mt⟩⟩
     refine⟨fun _=>⟨fun f10 kJ r6 tc mS=>?_,by rintro _ _ _ x_ ⟨jc,e_,km⟩;exact⟨jc,e_,km.lift (Up.ext x_)⟩⟩,?_⟩
     ·
      obtain⟨Sc,ew,hA8⟩:∃(Sc:Addr),f10 48=.pointer (some Sc)∧At (MS M [iL a2 rs c2,iL a1 (cW mn mr) c1,box bj #[U n_,sL a2 rs c2] 68,iL a0 (bO mn) c0,box aW #[U 0,.slice none 0 0] 68,box aK #[U mn,sL aU mr aT] 68,iL dO l dN,iL aU mr aT]) kJ Sc x2:=mS 8 rfl rfl
      refine GK J J ew J ai zf aQ ?_
      exact⟨_,J,Ext.refl _,⟨Sc,J,cG⟩⟩
     refine dc (fun f11 ow mg vq iz=>?_) ?_
     ·
      have kH:=dZ.ext vq
      obtain⟨Sb,eE,hA9⟩:∃(Sb:Addr),f11 49=.pointer (some ((Sb).add 1))∧At (MS M [iL a2 rs c2,iL a1 (cW mn mr) c1,box bj #[U n_,sL a2 rs c2] 68,iL a0 (bO mn) c0,box aW #[U 0,.slice none 0 0] 68,box aK #[U mn,sL aU mr aT] 68,iL dO l dN,iL aU mr aT]) ow Sb x2:=iz 9 rfl rfl
      have rn:=kH.put (it:=lq Sb x2) J hA9
      refine kB ((rn.wK 0 J)).snd.w aQ J eE ?_
      intro kK
      exact⟨_,J,Ext.refl _,⟨J,kK⟩⟩
     refine⟨fun _=>⟨fun f12 kv pq qK jI=>?_,by rintro _ _ _ x_ ⟨a3,c3,e_,lM⟩;exact⟨a3,c3,e_,lM.lift (Up.ext x_)⟩⟩,?_⟩
     ·
      have sh:=dZ.ext qK
      have fc:f12 40=.agg #[U n_,sL a2 rs c2]:=jI 0 J J
      obtain⟨fJ,lD⟩:f12 45=U x2.1∧aN (x2.1):=jI 5 rfl rfl
      obtain⟨fw,mZ⟩:f12 50=U x2.2∧aN (x2.2):=jI 10 rfl rfl
      have wF:=pS (mn:=n_) (mr:=rs) (i:=x2.1) (j:=x2.2) sh.mb (by rw[h1];exact fL) (sh.rv 0 J) lD mZ (by rw[h1,h2];exact(MC bV _).1) (by rw[h2];exact(MC bV _).2)<|by rw[h1];exact(bQ bV).2.2.1
      refine ca Dq J (ec fc<|ec fJ<|ec fw e0) wF ?_
      rintro _ nU ⟨a4,c4,rfl,vo,pP⟩
      have qM:=bm.rv pP sh.mb
      exact⟨_,J,vo,⟨a4,c4,J,qM⟩⟩
     refine⟨fun _=>⟨fun f13 ov wb HW kg=>?_,by rintro _ _ _ x_ ⟨a3,c3,e_,lM⟩;exact⟨a3,c3,e_,lM.lift (Up.ext x_)⟩⟩,?_⟩
     ·
      obtain⟨a5,c5,fX,rz⟩:∃(a5:OA) (c5:Nat),f13 51=.tuple #[.agg #[U (dP n_ x2.1 x2.2),sL a5 (bL n_ rs x2.1 x2.2) c5],U (iH n_ x2.1 x2.2)]∧RV (MS M [iL a2 rs c2,iL a1 (cW mn mr) c1,box bj #[U n_,sL a2 rs c2] 68,iL a0 (bO mn) c0,box aW #[U 0,.slice none 0 0] 68,box aK #[U mn,sL aU mr aT] 68,iL dO l dN,iL aU mr aT]) ov (sL a5 (bL n_ rs x2.1 x2.2) c5) (bL n_ rs x2.1 x2.2):=kg 11 rfl rfl
      refine mv J fX ?_
      exact⟨_,J,Ext.refl _,⟨a5,c5,J,rz⟩⟩
     exact gp.rest J _
    ·
     intro f14 pL qb Ap uL
     have BU:=dZ.ext Ap
     have gF:=(qb 1 J).trans s0
     have gL:=(qb 4 J).trans s1
     have gE:=(qb 5 J).trans s2
     have jg:=(qb 7 J).trans s3
     have kU:=(qb 8 J).trans s4
     obtain⟨a6,c6,oA,tj⟩:∃(a6:OA) (c6:Nat),f14 39=.tuple #[.agg #[U (dP n_ x2.1 x2.2),sL a6 (bL n_ rs x2.1 x2.2) c6],U (iH n_ x2.1 x2.2)]∧RV (MS M [iL a2 rs c2,iL a1 (cW mn mr) c1,box bj #[U n_,sL a2 rs c2] 68,iL a0 (bO mn) c0,box aW #[U 0,.slice none 0 0] 68,box aK #[U mn,sL aU mr aT] 68,iL dO l dN,iL aU mr aT]) pL (sL a6 (bL n_ rs x2.1 x2.2) c6) (bL n_ rs x2.1 x2.2):=uL 12 rfl
     have uB:=cj BU tj
     show TA _ _ _ _ 3 [true,true,true,true,true,true,true,true,true,true,true,true,true,false,false,false] _ _
     refine ta [13,14] bu J ⟨⟨_,J,?_⟩,⟨_,J,?_⟩,trivial⟩
     ·
      refine xt J oA J<|ta [14,15] bu J ⟨⟨_,J,?_⟩,⟨_,J,?_⟩,trivial⟩
      ·
       refine xt J oA J<|ta [15] bu J ⟨⟨_,J,?_⟩,trivial⟩
       ·
        refine cz uB 3 J bh J J gE J J J J ?_
        let jO:=iL a1 (cW mn mr) c1::box bj #[U (dP n_ x2.1 x2.2),sL a6 (bL n_ rs x2.1 x2.2) c6] 68::dD
        intro nL (sZ:HI M w nL (iL a6 (bL n_ rs x2.1 x2.2) c6::iL a2 rs c2::jO))
        refine z6 bu<|aF<|nx<|rg<|ak J kU<|k<|add J J J J (by have h_:=pf bV;unfold aN;omega)<|aj (v:=U ((j:Int)+1)) J J<|z ?_
        have sP:=cj sZ<|sZ.rv 0 J
        have lS:HI M w nL (iL a6 (bL n_ rs x2.1 x2.2) c6::jO):=sP.c_ [0,3,4,5,6,7,8,9] aJ J
        refine bD _ ?_ ⟨(j+1),(dP n_ x2.1 x2.2),(bL n_ rs x2.1 x2.2),a6,c6,J,gF,gL,gE,jg,(bJ J),lS,ai,(by (try (have e_:=ay cw aq;subst e_));(try (have e_:=ay dR aq;subst e_));(try (have e_:=ay gX aq;subst e_));(try (have e_:=ay jT aq;subst e_));(try (have e_:=ay lF aq;subst e_));(try (have e_:=ay nq aq;subst e_));first|exact h1|(rw[h1];exact(jx (rs:=mr) mI).1)),(by (try (have e_:=ay cw aq;subst e_));(try (have e_:=ay dR aq;subst e_));(try (have e_:=ay gX aq;subst e_));(try (have e_:=ay jT aq;subst e_));(try (have e_:=ay lF aq;subst e_));(try (have e_:=ay nq aq;subst e_));rw[uh aq];first|(rw[alE (by unfold xi;simp_all),←h2,h1];exact(jx mI).2.1)|(rw[alG (by unfold xi;simp_all)];exact h2))⟩
        omega
      ·
       refine cz uB 3 J bh J J gE J J J J ?_
       let pJ:=iL a1 (cW mn mr) c1::box bj #[U (dP n_ x2.1 x2.2),sL a6 (bL n_ rs x2.1 x2.2) c6] 68::dD
       intro nL (sZ:HI M w nL (iL a6 (bL n_ rs x2.1 x2.2) c6::iL a2 rs c2::pJ))
       refine ta [14] bu J ⟨⟨_,J,?_⟩,trivial⟩
       ·
        refine xt J oA J<|z6 bu<|aF<|nx<|rg<|ak J kU<|k<|add J J J J (by have h_:=pf bV;unfold aN;omega)<|aj (v:=U ((j:Int)+1)) J J<|z ?_
        have sP:=cj sZ<|sZ.rv 0 J
        have lS:HI M w nL (iL a6 (bL n_ rs x2.1 x2.2) c6::pJ):=sP.c_ [0,3,4,5,6,7,8,9] aJ J
        refine bD _ ?_ ⟨(j+1),(dP n_ x2.1 x2.2),(bL n_ rs x2.1 x2.2),a6,c6,J,gF,gL,gE,jg,(bJ J),lS,ai,(by (try (have e_:=ay cw aq;subst e_));(try (have e_:=ay dR aq;subst e_));(try (have e_:=ay gX aq;subst e_));(try (have e_:=ay jT aq;subst e_));(try (have e_:=ay lF aq;subst e_));(try (have e_:=ay nq aq;subst e_));first|exact h1|(rw[h1];exact(jx (rs:=mr) mI).1)),(by (try (have e_:=ay cw aq;subst e_));(try (have e_:=ay dR aq;subst e_));(try (have e_:=ay gX aq;subst e_));(try (have e_:=ay jT aq;subst e_));(try (have e_:=ay lF aq;subst e_));(try (have e_:=ay nq aq;subst e_));rw[uh aq];first|(rw[alE (by unfold xi;simp_all),←h2,h1];exact(jx mI).2.1)|(rw[alG (by unfold xi;simp_all)];exact h2))⟩
        omega
     ·
      refine xt J oA J<|ta [13] bu J ⟨⟨_,J,?_⟩,trivial⟩
      ·
       refine xt J oA J<|ta [15] bu J ⟨⟨_,J,?_⟩,trivial⟩
       ·
        refine cz uB 3 J bh J J gE J J J J ?_
        let BP:=iL a1 (cW mn mr) c1::box bj #[U (dP n_ x2.1 x2.2),sL a6 (bL n_ rs x2.1 x2.2) c6] 68::dD
        intro nL (sZ:HI M w nL (iL a6 (bL n_ rs x2.1 x2.2) c6::iL a2 rs c2::BP))
        refine z6 bu<|aF<|nx<|rg<|ak J kU<|k<|add J J J J (by have h_:=pf bV;unfold aN;omega)<|aj (v:=U ((j:Int)+1)) J J<|z ?_
        have sP:=cj sZ<|sZ.rv 0 J
        have lS:HI M w nL (iL a6 (bL n_ rs x2.1 x2.2) c6::BP):=sP.c_ [0,3,4,5,6,7,8,9] aJ J
        refine bD _ ?_ ⟨(j+1),(dP n_ x2.1 x2.2),(bL n_ rs x2.1 x2.2),a6,c6,J,gF,gL,gE,jg,(bJ J),lS,ai,(by (try (have e_:=ay cw aq;subst e_));(try (have e_:=ay dR aq;subst e_));(try (have e_:=ay gX aq;subst e_));(try (have e_:=ay jT aq;subst e_));(try (have e_:=ay lF aq;subst e_));(try (have e_:=ay nq aq;subst e_));first|exact h1|(rw[h1];exact(jx (rs:=mr) mI).1)),(by (try (have e_:=ay cw aq;subst e_));(try (have e_:=ay dR aq;subst e_));(try (have e_:=ay gX aq;subst e_));(try (have e_:=ay jT aq;subst e_));(try (have e_:=ay lF aq;subst e_));(try (have e_:=ay nq aq;subst e_));rw[uh aq];first|(rw[alE (by unfold xi;simp_all),←h2,h1];exact(jx mI).2.1)|(rw[alG (by unfold xi;simp_all)];exact h2))⟩
        omega
   have p2:=dF b2
   refine sk<|aF<|nx<|rg<|ak J s4<|k<|add J J J J (by have h_:=pf bV;unfold aN;omega)<|aj (v:=U ((j:Int)+1)) J J<|z ?_
   have cM:=cj dZ<|dZ.rv 0 J
   have fR:HI M w w8 (iL a2 rs c2::iL a1 (cW mn mr) c1::box bj #[U n_,sL a2 rs c2] 68::dD):=cM.c_ [0,2,3,4,5,6,7,8] aJ J
   refine bD _ ?_ ⟨(j+1),n_,rs,a2,c2,J,s0,s1,s2,s3,(bJ J),fR,ai,(by (try (have e_:=ay cw aq;subst e_));(try (have e_:=ay dR aq;subst e_));(try (have e_:=ay gX aq;subst e_));(try (have e_:=ay jT aq;subst e_));(try (have e_:=ay lF aq;subst e_));(try (have e_:=ay nq aq;subst e_));first|exact h1|(rw[h1];exact(jx (rs:=mr) mI).1)),(by (try (have e_:=ay cw aq;subst e_));(try (have e_:=ay dR aq;subst e_));(try (have e_:=ay gX aq;subst e_));(try (have e_:=ay jT aq;subst e_));(try (have e_:=ay lF aq;subst e_));(try (have e_:=ay nq aq;subst e_));rw[uh aq];first|(rw[alE (by unfold xi;simp_all),←h2,h1];exact(jx mI).2.1)|(rw[alG (by unfold xi;simp_all)];exact h2))⟩
   omega
  have p1:=dF b1
  refine aD J J J b1<|aD J J J b1<|aD J J J b1<|aD J J J b1<|aD J J J b1<|aD J J J b1<|aD J J J b1<|k<|bc J J J J b1 J<|aG<|l7 J J J<|sk<|aF<|nx<|rg<|ak J s4<|k<|add J J J J (by have h_:=pf bV;unfold aN;omega)<|aj (v:=U ((j:Int)+1)) J J<|z ?_
  have dZ:=cj eB<|eB.rv 0 J
  have cM:HI M w w7 (iL a2 rs c2::iL a1 (cW mn mr) c1::box bj #[U n_,sL a2 rs c2] 68::dD):=dZ.c_ [0,2,3,4,5,6,7,8] aJ J
  refine bD _ ?_ ⟨(j+1),n_,rs,a2,c2,J,s0,s1,s2,s3,(bJ J),cM,ai,(by (try (have e_:=ay cw aq;subst e_));(try (have e_:=ay dR aq;subst e_));(try (have e_:=ay gX aq;subst e_));(try (have e_:=ay jT aq;subst e_));(try (have e_:=ay lF aq;subst e_));(try (have e_:=ay nq aq;subst e_));first|exact h1|(rw[h1];exact(jx (rs:=mr) mI).1)),(by (try (have e_:=ay cw aq;subst e_));(try (have e_:=ay dR aq;subst e_));(try (have e_:=ay gX aq;subst e_));(try (have e_:=ay jT aq;subst e_));(try (have e_:=ay lF aq;subst e_));(try (have e_:=ay nq aq;subst e_));rw[uh aq];first|(rw[alE (by unfold xi;simp_all),←h2,h1];exact(jx mI).2.1)|(rw[alG (by unfold xi;simp_all)];exact h2))⟩
  omega
 have p0:=dF b0
 refine ex<|bg<|bt<|bz<|dM<|k<|cg da 2 J bh J s2 aJ J<|k<|cz da 4 J bh J J s1 J J J J ?_
 intro w7 (eB:HI M w w7 (iL a2 rs c2::iL a1 (cW mn mr) c1::box bj #[U n_,sL a2 rs c2] 68::iL a0 (bO mn) c0::box aW #[U n_,sL a2 rs c2] 68::dk))
 refine aG<|rt<|vI eB 4 J bh J J s1 J aJ ?_
 have e0:(n_:Int)=mn:=by exact h1
 have e1:(rs:List (List bG))=gD mn mr l:=by rw[h2,k0 ai];exact K5 bV l
 have bF:=sd (fun (cK:Int) (fI:List (List bG))=>(.agg #[U cK,.slice a2 fI.length c2]:Value)) e0 e1
 exact⟨a2,c2,bF,eB.below,(alB (fun (x_:List (List bG))=>RV _ _ (.slice a2 x_.length c2) x_) e1).mp (eB.jn 0 J)⟩
theorem OH:dq aX 62:=dy Tryz.func62
theorem Ub:dq aX 68:=dy Tryz.func68
theorem Ua:dq aX 69:=dy Tryz.func69
theorem T':dq aX 70:=dy Tryz.func70
theorem yU:jt aX 79 0 0:=mu Tryz.underlying79
theorem Bv:jt aX 79 1 1:=mu Tryz.underlying79
theorem JU:dq aX 37:=dy Tryz.func37
theorem S_ (hM:ei M w) (cX:cP M w av au I) (fM:cP M w ax aw fo) (fL:aN mn) (eO:cP M w aU aT mr) (Ag:aN o) (ho:et I) (cT:I.length≤64) (eT:fo.length=I.length) (ln:∀x∈fo,x<((I.length:Nat):Int)) (Vs:mn=((I.length:Nat):Int)) (uR:mr=bw I fo) (oC:nD I fo) (ho_:0≤o∧o<((I.length:Nat):Int)):Calls aX 80 #[.agg #[.slice aC aE aB,sL av I au,sL ax fo aw],.agg #[U mn,sL aU mr aT],U o] w (cZ fun v w'=>∃(es:List i') (rd:Int) (a0:OA) (c0:Nat) (a1:OA) (c1:Nat),v=.tuple #[.agg #[U ((I.length:Nat):Int),.slice a0 (iu I fo o).length c0],sL a1 es c1,U rd,U 0]∧Ext w w'∧RV M w' (.slice a0 (iu I fo o).length c0) (iu I fo o)∧cP M w' a1 c1 es∧aN rd):=by
 refine dK 72 Tryz.func80 J J J hM fun f0 ha H=>?_
 let J0:=iL av I au
 have H0:=H.put (it:=J0) J<|by rw[dY];exact cX
 let J1:=iL ax fo aw
 have H1:=H0.put (it:=J1) J<|by rw[bp rfl,dY];exact fM
 let J2:=iL aU mr aT
 have H2:=H1.put (it:=J2) J<|by rw[bp rfl,bp rfl,dY];exact eO
 have iT:=bN cX
 have nn:=bN fM
 have lu:=bN eO
 have i0:f0 0=.agg #[.slice aC aE aB,sL av I au,sL ax fo aw]:=ha 0 bH
 have i1:f0 1=.agg #[U mn,sL aU mr aT]:=ha 1 bH
 have i2:f0 2=U o:=ha 2 bH
 have bV:cq mn mr=true:=by rw[Vs,uR];exact zS fo ai
 have uM:aV (cm I) (bS I o I.length)=dB I o:=tu ho o
 have ZC:I.length*I.length≤64*64:=amB cT cT
 refine aH<|k<|bx H2 J i0 ?_
 let bC:=[J2,J1,J0]
 intro aK w0 dt (H3:HI M w w0 (box aK #[.slice aC aE aB,sL av I au,sL ax fo aw] 32::bC))
 let J3:=box aK #[.slice aC aE aB,sL av I au,sL ax fo aw] 32
 refine k<|bx H3 J i1 ?_
 let dk:=J3::bC
 intro aW w1 cR (H4:HI M w w1 (box aW #[U mn,sL aU mr aT] 68::dk))
 let J4:=box aW #[U mn,sL aU mr aT] 68
 refine k<|al H4 bh ?_
 let dv:=J4::dk
 intro bj w2 d_ (H5:HI M w w2 (box bj #[U 0,.slice none 0 0] 68::dv))
 let J5:=box bj #[U 0,.slice none 0 0] 68
 refine aj (v:=.slice none 0 0) J J<|aj (v:=U 0) J J<|aj (v:=U 0) J J<|aG<|sq<|aH<|ak J i2<|k<|lss J J J J<|ak (v:=.bool (decide (o<0))) J J ?_
 have Az:(decide (o<0))=false:=(by rw[al1];omega)
 refine aM J J J Az<|mv J i2<|aM J J J Az<|fa dh J J<|aM J J J Az<|lx H5 2 J eR J J J<|aM J J J Az<|ep J J fj<|aM J J J Az<|geq J J J J<|k<|bc J J J J Az J<|z<|nx ?_
 have Iq:(decide ((I.length:Int)≤o))=false:=(by rw[al1];omega)
 refine l7 J J Iq<|sk<|dM<|k<|cg H5 2 J dn J J aJ J<|ak J i2<|k ?_
 have cx:=u2 (I:=I) (o:=o) (aC:=aC) (aE:=aE) (aB:=aB) (ax:=ax) (cH:=fo.length) (aw:=aw) H5.mb (H5.rv 5 J) Ag ai
 refine ca OH J (ec J<|ec J e0) cx ?_
 rintro _ w3 ⟨a0,c0,rfl,eG,cL⟩
 have H6:=H5.ic cL
 refine aj (v:=sL a0 (aV (cm I)<|bS I o I.length) c0) J J<|aG<|sq<|EE [.r,.r,.r,.r,.r,.n,.e] (fun _=>True) J bu (fun _ _=>trivial)<|yq J J<|kq (fun _ x_=>cg (H6.ext x_) 2 J bh J J aJ J e1)<|gC<|kq (fun _ x_=>cg (H6.ext x_) 2 J bh J J aJ J e1)<|gC<|kq (fun _ _=>mv J i2 e1)<|zq<|yu J (fun N v w'=>∃(a1:OA) (c1:Nat),v=sL a1 (dm mn mr o) c1∧RV (MN H6.nA N) w' (sL a1 (dm mn mr o) c1) (dm mn mr o)) J Zf J (fun v_ _ x_ n_=>have gS:=zu (mn:=mn) (mr:=mr) (o:=o) (w:=v_) (gK H6.mb x_ n_) fL (j4 (H6.rv 4 J) x_ n_) Ag (by exact bV);ca Ub rfl (ec J<|ec J e0) gS (fun _ w5 ⟨a2,c2,e_,ly,fQ⟩=>⟨_,J,ly,⟨a2,c2,e_,(bm.rv fQ<|gK H6.mb x_ n_)⟩⟩))<|z1 J (fun N v w'=>∃(a4:OA) (c4:Nat),v=.agg #[U mn,sL a4 (gD mn mr<|dm mn mr o) c4]∧RV (MN H6.nA N) w' (sL a4 (gD mn mr<|dm mn mr o) c4) (gD mn mr<|dm mn mr o)) 0 J J Zf J (fun v_ _ _ x_ n_ h_=>let ⟨a5,c5,s0,lM⟩:=h_;have oo:=vE (mn:=mn) (mr:=mr) (l:=(dm mn mr o)) (w:=v_) (gK H6.mb x_ n_) fL (j4 (H6.rv 4 J) x_ n_) lM (by exact bV);ca Ua rfl (ec J<|ec s0 e0) oo (fun _ w7 ⟨a6,c6,e_,je,ml⟩=>⟨_,J,je,⟨a6,c6,e_,ml⟩⟩))<|yn (z:=#[U 0,.slice none 0 0]) J J (fun _=>alZ bh)<|ye<|yz ?_
 intro w8 f0 _ lh _ _ cI ji
 obtain⟨mV,s1,qG,oY,Q1⟩:=ji 0 _ _ rfl
 have uf:=bz1 (z:=#[U 0,.slice none 0 0]) (T:=68) qG oY Q1<|bz0
 let J6:=oL w 3 a0 (aV (cm I) (bS I o I.length)) c0
 have H7:HI M w w8 (box mV #[U 0,.slice none 0 0] 68::J6::J5::dv):=H6.Of lh uf<|Zc Za Zd
 have s2:=cI 3 J
 have s3:=cI 6 J
 have s4:=cI 10 J
 obtain⟨a7,c7,s5,kK⟩:=ji 1 _ _ rfl
 let J7:=iL a7 (gD mn mr (dm mn mr o)) c7
 have H8:=H7.put (it:=J7) J<|SP kK uf
 refine vT<|cz H8 1 J bh J J s1 s5 J J J ?_
 intro w9 (H9:HI M w w9 (J7::box mV #[U mn,sL a7 (gD mn mr (dm mn mr o)) c7] 68::J6::J5::dv))
 refine kz<|dM<|aj (v:=.slice none 0 0) J J<|cU<|aj (v:=U 1) J J<|aG<|bk ?_
 have db:=H9.freeze 2 J
 have da:=db.ke (Int×Int×Int) 79
 have eB:=da.put (it:=J7) J<|da.rv 1 J
 let J8:=iL a0 (aV (cm I) (bS I o I.length)) c0
 let dD:=J8::J5::dv
 refine lp (fun m f w'=>∃(bB:Nat) (lO:Int) (bX:List (List bG)) (y8:List i') (a8:OA) (c8:Nat) (a9:OA) (c9:Nat),m=I.length*I.length-pv I bX∧f 3=pV aK 0∧f 6=pV bj 0∧f 10=sL a0 (aV (cm I)<|bS I o I.length) c0∧f 11=pV mV 0∧f 12=sL a8 y8 c8∧f 13=U ((bB:Int)+1)∧HI M w w' (iL a9 bX c9::oL w 79 a8 y8 c8::J7::box mV #[U lO,sL a9 bX c9] 68::dD)∧(Sf I fo o lO bX)∧(bB≤pv I bX)∧(y8.length≤5000*bB)) _ ⟨0,mn,(gD mn mr<|dm mn mr o),([]:List i'),none,0,a7,c7,J,s2,s3,s4,s1,J,(bJ J),eB,(by rw[Vs,uR];exact SH I fo o),(by exact anu _),(by exact anu _)⟩ ?_
 rintro _ f1 jb ⟨bB,lO,bX,y8,a8,c8,a9,c9,rfl,s6,s7,s8,s9,ey,ew,dZ,hs,akl,akI⟩
 refine sq<|bk<|sq ?_
 have nW:=SI hs ai;have A9:=hs.1
 have zL:∀x∈aV (cm I) (bS I o I.length),0≤x∧x<((I.length:Nat):Int):=fun x_ h_=>(mc (fo:=fo) ho (by rw[←uM];exact h_) ho_).1
 have aad:=vz bX I
 refine rg<|k<|cg dZ 7 J dn J s6 aJ J<|k<|cg dZ 3 J bh J s9 aJ J<|ak J s8<|k ?_
 have wF:=AI (I:=I) (fo:=fo) (mn:=lO) (mr:=bX) (kp:=(aV (cm I)<|bS I o I.length)) (aC:=aC) (aE:=aE) (aB:=aB) dZ.mb (dZ.rv 10 J) (dZ.rv 9 J) (by rw[A9];unfold aN;omega) (dZ.rv 0 J) (dZ.rv 4 J) (by exact ho) ai (by exact eT) (by exact nW) (by exact A9)<|by exact zL
 refine ca T' J (ec J<|ec J<|ec J e0) wF ?_
 rintro _ iK ⟨lI,lH,rfl,jD,lD⟩
 have cM:=dZ.ic lD
 refine aj (v:=sL lI (cJ I fo lO bX (aV (cm I)<|bS I o I.length) I.length) lH) J J<|aG<|sq<|sq ?_
 obtain⟨afi,T4,mI,Mc⟩:=snw eT oC ho ho_ hs (es:=(cJ I fo lO bX (aV (cm I) (bS I o I.length)) I.length)) (by rw[uM])
 have ZX:=tX (I:=I) (fo:=fo) (n:=lO) (rs:=bX) (kp:=aV (cm I) (bS I o I.length)) I.length
 refine rg<|ak (v:=sL lI (cJ I fo lO bX (aV (cm I)<|bS I o I.length) I.length) lH) J J<|k<|ep J J pM<|k<|eql J J J J<|z<|nx<|cd (b:=decide (((cJ I fo lO bX (aV (cm I)<|bS I o I.length) I.length).length:Int)=0)) J J (fun b0=>?_)<|fun b0=>?_
 ·
  have p0:=dT b0
  refine aH<|k<|cg cM 4 J bh J s9 aJ J<|ak J ey<|ak J ew<|k<|cz cM 6 J bh J J s7 J J J J ?_
  intro jf (fR:HI M w jf (oL w 79 lI (cJ I fo lO bX (aV (cm I) (bS I o I.length)) I.length) lH::iL a9 bX c9::oL w 79 a8 y8 c8::J7::box mV #[U lO,sL a9 bX c9] 68::J8::box bj #[U lO,sL a9 bX c9] 68::dv))
  refine aj (v:=sL a8 y8 c8) J J<|aj (v:=U ((bB:Int)+1)) J J<|aj (v:=U 0) J J<|aG<|rt<|aS<|bM<|aS<|gb<|bM<|rc4 fR 6 J bh J J J J J s7 J aJ ?_
  have e0:(lO:Int)=((I.length:Nat):Int):=by exact hs.1
  have e1:(bX:List (List bG))=iu I fo o:=by exact Mc (anL.1 ai)
  have bF:=sd (fun (cK:Int) (fI:List (List bG))=>(.tuple #[.agg #[U cK,.slice a9 fI.length c9],.slice a8 y8.length c8,U ((bB:Int)+1),U 0]:Value)) e0 e1
  exact⟨y8,((bB:Int)+1),a9,c9,a8,c8,bF,fR.below,(alB (fun (x_:List (List bG))=>RV _ _ (.slice a9 x_.length c9) x_) e1).mp (fR.jn 1 J),(fR.dV 2 J),(by unfold aN;omega)⟩
 have p0:=dF b0
 refine sk<|dM<|ak J ey<|ak (v:=sL lI (cJ I fo lO bX (aV (cm I)<|bS I o I.length) I.length) lH) J J<|k<|kE cM 2 J J J J J J (fD<|cM.at_ 0 J) pM tg J ai J ?_
 let J9:=oL w 79 lI (cJ I fo lO bX (aV (cm I) (bS I o I.length)) I.length) lH
 intro pI pF jf (fR:HI M w jf (J9::iL a9 bX c9::oL w 79 pI (y8++cJ I fo lO bX (aV (cm I) (bS I o I.length)) I.length) pF::J7::box mV #[U lO,sL a9 bX c9] 68::dD))
 let qI:=oL w 79 pI (y8++cJ I fo lO bX (aV (cm I) (bS I o I.length)) I.length) pF
 refine aj (v:=sL pI (y8++cJ I fo lO bX (aV (cm I)<|bS I o I.length) I.length) pF) J J<|aG<|sq<|aH<|aj (v:=U 0) J J<|aG<|bk ?_
 have eY:=cj fR<|fR.rv 1 J
 refine lp (fun m f w'=>∃(q_:Nat) (cp:Int) (fN:List (List bG)) (a12:OA) (qH:Nat),m=(cJ I fo lO bX (aV (cm I)<|bS I o I.length) I.length).length-q_∧f 3=pV aK 0∧f 6=pV bj 0∧f 10=sL a0 (aV (cm I)<|bS I o I.length) c0∧f 11=pV mV 0∧f 12=sL pI (y8++cJ I fo lO bX (aV (cm I)<|bS I o I.length) I.length) pF∧f 13=U ((bB:Int)+1)∧f 14=sL lI (cJ I fo lO bX (aV (cm I)<|bS I o I.length) I.length) lH∧f 15=U (q_:Int)∧HI M w w' (iL a12 fN qH::J9::iL a9 bX c9::qI::J7::box mV #[U cp,sL a12 fN qH] 68::dD)∧(q_≤(cJ I fo lO bX (aV (cm I)<|bS I o I.length) I.length).length)∧(cp=lO∧fN=dp lO bX ((cJ I fo lO bX (aV (cm I)<|bS I o I.length) I.length).take q_))) _ ⟨0,lO,bX,a9,c9,J,s6,s7,s8,s9,J,ew,J,(bJ J),eY,ai,(by exact⟨J,J⟩)⟩ ?_
 rintro _ f2 ju ⟨q_,cp,fN,a12,qH,rfl,eE,fc,fJ,fw,fX,gF,gL,gE,fg,jw,nH⟩
 refine sq<|aH<|ak J gE<|ak J gL<|k<|ep J J pM<|k<|lss J J J J<|z<|nx<|cd (b:=decide ((q_:Int)<((cJ I fo lO bX (aV (cm I)<|bS I o I.length) I.length).length:Int))) J J (fun b1=>?_)<|fun b1=>?_
 ·
  have p1:=dT b1
  refine sk<|nx<|sq<|bk ?_
  have px:=sm ai A9 nW mI nH
  refine EE [.r,.r,.r,.r,.r,.r,.r,.r,.r,.r,.r,.r,.r,.r,.s,.e] (fun _=>True) J bu (fun _ _=>trivial)<|yq J J<|kq (fun _ x_=>cg (fg.ext x_) 5 J bh J fw aJ J e1)<|gC<|kq (fun _ _=>mv J gL e1)<|gC<|kq (fun _ _=>mv J gE e1)<|gC<|su (fg.at_ 1 J) J J J J ai pM tg ?_
  intro fz x0 aq cN
  refine gC<|kq (fun _ _=>fa yU J J e1)<|gC<|fV (cN).fst aQ J J ?_
  intro mZ
  refine gC<|kq (fun _ _=>mv J gL e1)<|gC<|kq (fun _ _=>mv J gE e1)<|gC<|su (fg.at_ 1 J) J J J J ai pM tg ?_
  intro iG x_ ki eU
  obtain rfl:x0=x_:=alD (aq.symm.trans ki)
  refine gC<|kq (fun _ _=>fa Bv J J e1)<|gC<|fV ((eU).s1).fst aQ J J ?_
  intro pP
  refine zq<|yu J (fun _ v w'=>∃(sg:OA) (se:Nat),v=.tuple #[.agg #[U (dP cp x0.1 x0.2.1),sL sg (bL cp fN x0.1 x0.2.1) se],U (iH cp x0.1 x0.2.1)]∧RV fg.nA w' (sL sg (bL cp fN x0.1 x0.2.1) se) (bL cp fN x0.1 x0.2.1)) J xL J (fun v_ _ x_ _=>have Kt:=pS (mn:=cp) (mr:=fN) (i:=x0.1) (j:=x0.2.1) (w:=v_) (fg.ext x_).mb (by rw[nH.1,A9];unfold aN;omega) ((fg.ext x_).rv 0 rfl) mZ pP (by exact(bQ px).1) (by exact(bQ px).2.1) (by exact(bQ px).2.2.1);ca Dq rfl (ec J<|ec J<|ec J e0) Kt (fun _ lz ⟨y_,y7,e_,j0,tj⟩=>⟨_,J,j0,⟨y_,y7,e_,(bm.rv tj (fg.ext x_).mb)⟩⟩))<|z1 J (fun _ v w'=>∃(uZ:OA) (uY:Nat),v=.tuple #[.agg #[U (dP cp x0.1 x0.2.1),sL uZ (bL cp fN x0.1 x0.2.1) uY],U (iH cp x0.1 x0.2.1)]∧RV fg.nA w' (sL uZ (bL cp fN x0.1 x0.2.1) uY) (bL cp fN x0.1 x0.2.1)) 0 J J xL J (fun _ _ _ _ _ h_=>let ⟨mW,mU,jg,E4⟩:=h_;mv rfl jg ⟨_,J,Ext.refl _,⟨mW,mU,J,E4⟩⟩)<|z1 J (fun _ v w'=>∃(a17:OA) (wG:Nat),v=.agg #[U (dP cp x0.1 x0.2.1),sL a17 (bL cp fN x0.1 x0.2.1) wG]∧RV fg.nA w' (sL a17 (bL cp fN x0.1 x0.2.1) wG) (bL cp fN x0.1 x0.2.1)) 0 J J xL J (fun _ _ _ _ _ h_=>let ⟨KO,Ky,kU,SR⟩:=h_;xt rfl kU rfl ⟨_,J,Ext.refl _,⟨KO,Ky,J,SR⟩⟩)<|O7 J (X:=U (iH cp x0.1 x0.2.1)) 1 J J (fun _ _ _ _ _ h_=>let ⟨a20,Hb,oA,ae_⟩:=h_;xt rfl oA rfl e1)<|ye<|yz ?_
  intro mB f3 _ kb _ _ ub Zz
  have kH:=fg.ext kb
  have pw:=(ub 3 J).trans eE
  have x7:=(ub 6 J).trans fc
  have DR:=(ub 10 J).trans fJ
  have Ck:=(ub 11 J).trans fw
  have IB:=(ub 12 J).trans fX
  have PF:=(ub 13 J).trans gF
  have IA:=(ub 14 J).trans gL
  have PE:=(ub 15 J).trans gE
  obtain⟨a21,BG,Yr,Ys⟩:=Zz 0 _ _ rfl
  let BS:=iL a21 (bL cp fN x0.1 x0.2.1) BG
  have rn:=kH.put (it:=BS) J Ys
  refine vT<|cz rn 6 J bh J J Ck Yr J J J ?_
  let ET:=box mV #[U (dP cp x0.1 x0.2.1),sL a21 (bL cp fN x0.1 x0.2.1) BG] 68
  let jO:=J9::iL a9 bX c9::qI::J7::ET::dD
  intro lL (sh:HI M w lL (BS::iL a12 fN qH::jO))
  refine kz<|aF<|nx<|rg<|ak J PE<|k<|add J J J J aY<|aj (v:=U ((q_:Int)+1)) J J<|z ?_
  have BV:=sh.put (it:=BS) J<|sh.rv 0 J
  have qJ:HI M w lL (BS::jO):=BV.c_ [0,3,4,5,6,7,8,9,10,11,12,13,14] aJ J
  refine bD _ ?_ ⟨(q_+1),(dP cp x0.1 x0.2.1),(bL cp fN x0.1 x0.2.1),a21,BG,J,pw,x7,DR,Ck,IB,PF,IA,(bJ J),qJ,ai,(by exact CY nH aq (by rw[hs.1];exact mI _ (eh aq)))⟩
  omega
 have p1:=dF b1
 refine ex<|bg<|bt<|bz<|nx ?_
 have TS:fN=dp lO bX (cJ I fo lO bX (aV (cm I) (bS I o I.length)) I.length):=by rw[nH.2,alU ai]
 have akH:=T4<|by intro h_;have e_:=alB List.length h_;simp only[gW] at e_;omega
 have ajW:=vz (bU lO<|dp lO bX<|cJ I fo lO bX (aV (cm I)<|bS I o I.length) I.length) I
 refine rg<|k<|cg fg 5 J bh J fw aJ J<|k ?_
 have y6:=qV (mn:=cp) (mr:=fN) fg.mb (by rw[nH.1,A9];unfold aN;omega) (fg.rv 0 J)<|by exact sm ai A9 nW mI nH
 refine ca JU J (ec J e0) y6 ?_
 rintro _ jK ⟨sg,se,rfl,gv,mZ⟩
 have gz:=fg.ext gv
 let wS:=iL sg (bU cp fN) se
 have jP:=gz.put (it:=wS) J mZ
 refine k<|cz jP 6 J bh J J fw J J J J ?_
 let pJ:=qI::J7::box mV #[U cp,sL sg (bU cp fN) se] 68::dD
 intro lz (gI:HI M w lz (wS::iL a12 fN qH::J9::iL a9 bX c9::pJ))
 refine z<|aF<|nx<|rg<|ak J gF<|k<|add J J J J aY<|aj (v:=U (((bB:Int)+1)+1)) J J<|z ?_
 have kO:=gI.put (it:=wS) J<|gI.rv 0 J
 have lK:HI M w lz (wS::pJ):=kO.c_ [0,5,6,7,8,9,10,11,12,13,14] aJ J
 refine bD _ ?_ ⟨(bB+1),cp,(bU cp fN),(y8++cJ I fo lO bX (aV (cm I)<|bS I o I.length) I.length),pI,pF,sg,se,J,eE,fc,fJ,fw,fX,(bJ J),lK,(by rw[nH.1,TS];exact afi),(by rw[nH.1,TS];omega),(by rw[im];omega)⟩
 rw[nH.1,TS];omega
theorem cu:fA aX 25 8 true 80 (.agg #[.int .i64 0,.int .i64 0,.int .i64 0,.int .i64 0,.int .i64 0,.slice none 0 0,.int .i64 0,.int .i64 0]):=⟨bu,bu⟩
theorem FU:dq aX 71:=dy Tryz.func71
theorem jV:jt aX 25 1 1:=mu Tryz.underlying25
theorem aaP:dq aX 72:=dy Tryz.func72
theorem ir:jt aX 25 4 4:=mu Tryz.underlying25
theorem aaN:dq aX 74:=dy Tryz.func74
theorem aaO:dq aX 73:=dy Tryz.func73
theorem jo:jt aX 25 2 2:=mu Tryz.underlying25
theorem qp (jm:aN kd):Calls aX 71 #[U kd] w (cZ fun v w'=>v=.agg #[U kd,U (-1),U (-1),U (-1),U (-1),.slice none 0 0,U (-1),U (-1)]∧Ext w w'):=by
 refine dK 5 Tryz.func71 J J J yo fun f0 ha H=>?_
 have i0:f0 0=U kd:=ha 0 bH
 refine aH<|k<|al H cu ?_
 intro aK w0 dt (H0:HI (fun _=>False) w w0 [box aK #[U 0,U 0,U 0,U 0,U 0,.slice none 0 0,U 0,U 0] 25])
 refine cU<|ak J i0<|k<|bd (v:=.agg #[U kd,U (-1),U (-1),U (-1),U (-1),.slice none 0 0,U (-1),U (-1)]) J (ct J<|ct J<|ct J<|ct J<|ct J<|ct J<|ct J eo) (fun _=>bu)<|k<|cz H0 0 J cu J J J J J J J ?_
 intro w1 (H1:HI (fun _=>False) w w1 [box aK #[U kd,U (-1),U (-1),U (-1),U (-1),.slice none 0 0,U (-1),U (-1)] 25])
 refine aG<|rt<|vI H1 0 J cu J J J J aJ ?_
 exact⟨J,H1.below⟩
theorem Nz (hM:ei M w) (cX:cP M w av au I) (fM:cP M w ax aw fo):Calls aX 31 #[.agg #[.slice aC aE aB,sL av I au,sL ax fo aw]] w (cZ fun v w'=>∃(k_:Int) (r_:Int) (a_:Int) (b_:Int) (o_:Int) (f_:Int) (s_:Int),v=.tuple #[.agg #[U k_,U r_,U a_,U b_,U o_,.slice none 0 0,U f_,U s_],.bool ((l9 fo 1).isSome)]∧Ext w w'∧oE (l9 fo 1) k_ r_ a_ b_ o_):=by
 refine dK 24 Tryz.func31 J J J hM fun f0 ha H=>?_
 let J0:=iL av I au
 have H0:=H.put (it:=J0) J<|by rw[dY];exact cX
 let J1:=iL ax fo aw
 have H1:=H0.put (it:=J1) J<|by rw[bp rfl,dY];exact fM
 have iT:=bN cX
 have nn:=bN fM
 have i0:f0 0=.agg #[.slice aC aE aB,sL av I au,sL ax fo aw]:=ha 0 bH
 refine aH<|k<|bx H1 J i0 ?_
 intro aK w0 dt (H2:HI M w w0 [box aK #[.slice aC aE aB,sL av I au,sL ax fo aw] 32,J1,J0])
 let J2:=box aK #[.slice aC aE aB,sL av I au,sL ax fo aw] 32
 refine k<|al H2 cu ?_
 let bC:=[J2,J1,J0]
 intro aW w1 cR (H3:HI M w w1 (box aW #[U 0,U 0,U 0,U 0,U 0,.slice none 0 0,U 0,U 0] 25::bC))
 let J3:=box aW #[U 0,U 0,U 0,U 0,U 0,.slice none 0 0,U 0,U 0] 25
 refine aj (v:=.bool false) J J<|cU<|k ?_
 have cx:=qp (kd:=1) (w:=w1) aY
 refine ca FU J (ec J e0) cx ?_
 rintro _ w2 ⟨rfl,d_⟩
 have H4:=H3.ext d_
 refine k<|al H4 cu ?_
 intro bj w3 eG (H5:HI M w w3 (box bj #[U 0,U 0,U 0,U 0,U 0,.slice none 0 0,U 0,U 0] 25::J3::bC))
 refine k<|cz H5 0 J cu J J J J J J J ?_
 let J4:=box bj #[U 1,U (-1),U (-1),U (-1),U (-1),.slice none 0 0,U (-1),U (-1)] 25
 intro w4 (H6:HI M w w4 (J4::J3::bC))
 refine aG<|sq<|aH<|aj (v:=U 0) J J<|aG<|bk<|lp (fun m f w'=>∃(j_:Nat),m=fo.length-j_∧f 1=pV aK 0∧f 2=pV aW 0∧f 4=pV bj 0∧f 5=U (j_:Int)∧HI M w w' (J4::J3::bC)∧(j_≤fo.length)∧((fo.take j_).any (fun z_=>decide ((-2)=z_))=false)) _ ⟨0,J,J,J,J,(bJ J),H6,ai,(by rfl)⟩ ?_
 rintro _ f0 w5 ⟨j_,rfl,s0,s1,s2,s3,H7,ra,hs⟩
 refine sq<|aH<|ak J s3<|bo kD J s0<|bR H7 2 J lA J J J<|k<|ep J J cY<|k<|lss J J J J<|z<|nx<|cd (b:=decide ((j_:Int)<(fo.length:Int))) J J (fun b0=>?_)<|fun b0=>?_
 ·
  have p0:=dT b0
  refine sk<|nx<|sq<|bk<|aH<|bo kD J s0<|bR H7 2 J lA J J J<|ak J s3<|k<|ia (H7.rv 3 J) J J J J ai cY aQ ?_
  intro fz x0 aq cN
  refine k<|kB cN.w aQ J J ?_
  intro cL
  refine k<|eql J J J J<|z<|nx<|cd (b:=decide (x0=(-2))) J J (fun b1=>?_)<|fun b1=>?_
  ·
   have p1:=dT b1
   refine aH<|ak J s3<|bo jV J s2<|k<|cz H7 0 J aQ J J J J J J J ?_
   let J5:=box bj #[U 1,U (j_:Int),U (-1),U (-1),U (-1),.slice none 0 0,U (-1),U (-1)] 25
   intro w6 (H8:HI M w w6 (J5::J3::bC))
   refine cU<|k<|cg H8 0 J cu J s2 aJ J<|k<|cz H8 1 J cu J J s1 J J J J ?_
   intro w7 (H9:HI M w w7 (J5::box aW #[U 1,U (j_:Int),U (-1),U (-1),U (-1),.slice none 0 0,U (-1),U (-1)] 25::bC))
   refine aj (v:=.bool true) J J<|aG<|rt<|bM<|aS<|gb<|bM<|aS<|iS H9 1 J cu J J J s1 J aJ ?_
   have e8:(true:Bool)=(l9 fo 1).isSome:=by rw[Po aq hs ‹_›];rfl
   have bF:=fu (fun (ku:Bool)=>(.tuple #[.agg #[U 1,U (j_:Int),U (-1),U (-1),U (-1),.slice none 0 0,U (-1),U (-1)],.bool ku]:Value)) e8
   exact⟨1,(j_:Int),(-1),(-1),(-1),(-1),(-1),bF,H9.below,(by exact vc (Po aq hs ‹_›) (by refine⟨?_,?_,?_,?_,?_⟩<;>first|assumption|(unfold aN;omega)))⟩
  have p1:=dF b1
  refine sk<|aF<|nx<|rg<|ak J s3<|k<|add J J J J aY<|aj (v:=U ((j_:Int)+1)) J J<|z<|bD _ ?_ ⟨(j_+1),J,s0,s1,s2,(bJ J),H7,ai,(by exact acu aq hs ‹_›)⟩
  omega
 have p0:=dF b0
 refine ex<|bg<|bt<|bz<|dM<|k<|cg H7 0 J cu J s2 aJ J<|k<|cz H7 1 J cu J J s1 J J J J ?_
 intro w6 (H8:HI M w w6 (J4::box aW #[U 1,U (-1),U (-1),U (-1),U (-1),.slice none 0 0,U (-1),U (-1)] 25::bC))
 refine aj (v:=.bool false) J J<|aG<|rt<|iS H8 1 J cu J J J s1 J aJ ?_
 have e8:(false:Bool)=(l9 fo 1).isSome:=by rw[LH hs ai];rfl
 have bF:=fu (fun (ku:Bool)=>(.tuple #[.agg #[U 1,U (-1),U (-1),U (-1),U (-1),.slice none 0 0,U (-1),U (-1)],.bool ku]:Value)) e8
 exact⟨1,(-1),(-1),(-1),(-1),(-1),(-1),bF,H8.below,(by exact ve (LH hs ai) (by refine⟨?_,?_,?_,?_,?_⟩<;>first|assumption|(unfold aN;omega)))⟩
theorem Cn (hM:ei M w) (jm:aN kd) (fL:aN mn) (eO:cP M w aU aT mr) (bV:cq mn mr=true):Calls aX 32 #[U kd,.agg #[U mn,sL aU mr aT]] w (cZ fun v w'=>∃(k_:Int) (r_:Int) (a_:Int) (b_:Int) (o_:Int) (f_:Int) (s_:Int),v=.tuple #[.agg #[U k_,U r_,U a_,U b_,U o_,.slice none 0 0,U f_,U s_],.bool ((m_ mn mr kd).isSome)]∧Ext w w'∧oE (m_ mn mr kd) k_ r_ a_ b_ o_):=by
 refine dK 21 Tryz.func32 J J J hM fun f0 ha H=>?_
 let J0:=iL aU mr aT
 have H0:=H.put (it:=J0) J<|by rw[dY];exact eO
 have i0:f0 0=U kd:=ha 0 bH
 have i1:f0 1=.agg #[U mn,sL aU mr aT]:=ha 1 bH
 refine aH<|k<|bx H0 J i1 ?_
 intro aK w0 dt (H1:HI M w w0 [box aK #[U mn,sL aU mr aT] 68,J0])
 let J1:=box aK #[U mn,sL aU mr aT] 68
 refine k<|al H1 cu ?_
 intro aW w1 cR (H2:HI M w w1 [box aW #[U 0,U 0,U 0,U 0,U 0,.slice none 0 0,U 0,U 0] 25,J1,J0])
 let J2:=box aW #[U 0,U 0,U 0,U 0,U 0,.slice none 0 0,U 0,U 0] 25
 refine aj (v:=.bool false) J J<|cU<|ak J i0<|k ?_
 have cx:=qp (kd:=kd) (w:=w1) jm
 refine ca FU J (ec J e0) cx ?_
 rintro _ w2 ⟨rfl,d_⟩
 have H3:=H2.ext d_
 refine k<|al H3 cu ?_
 intro bj w3 eG (H4:HI M w w3 [box bj #[U 0,U 0,U 0,U 0,U 0,.slice none 0 0,U 0,U 0] 25,J2,J1,J0])
 refine k<|cz H4 0 J cu J J J J J J J ?_
 let J3:=box bj #[U kd,U (-1),U (-1),U (-1),U (-1),.slice none 0 0,U (-1),U (-1)] 25
 intro w4 (H5:HI M w w4 [J3,J2,J1,J0])
 refine cU<|k<|cg H5 2 J bh J J aJ J<|k ?_
 have eF:=DZ (mn:=mn) (mr:=mr) H5.mb fL (H5.rv 3 J) (by exact(bQ bV).1) (by exact(bQ bV).2.1)<|by exact(bQ bV).2.2.1
 refine ca aaP J (ec J e0) eF ?_
 rintro _ w5 ⟨rfl,eI⟩
 have H6:=H5.ext eI
 refine ak (v:=.tuple #[U (((eC mn mr).getD 0:Nat):Int),.bool ((eC mn mr).isSome)]) J J<|k<|xt J J J<|k<|xt J J J<|aj (v:=U (((eC mn mr).getD 0:Nat):Int)) J J<|aj (v:=.bool ((eC mn mr).isSome)) J J<|aG<|sq<|aH<|ak (v:=.bool ((eC mn mr).isSome)) J J<|z<|nx<|cd (b:=(eC mn mr).isSome) J J (fun b0=>?_)<|fun b0=>?_
 ·
  refine rg<|ak (v:=U (((eC mn mr).getD 0:Nat):Int)) J J<|bo ir J J<|k<|cz H6 0 J aQ J J J J J J J ?_
  let J4:=box bj #[U kd,U (-1),U (-1),U (-1),U (((eC mn mr).getD 0:Nat):Int),.slice none 0 0,U (-1),U (-1)] 25
  intro w6 (H7:HI M w w6 [J4,J2,J1,J0])
  refine cU<|k<|cg H7 0 J cu J J aJ J<|ak (v:=.bool ((eC mn mr).isSome)) J J<|k<|cz H7 1 J cu J J J J J J J ?_
  intro w7 (H8:HI M w w7 [J4,box aW #[U kd,U (-1),U (-1),U (-1),U (((eC mn mr).getD 0:Nat):Int),.slice none 0 0,U (-1),U (-1)] 25,J1,J0])
  refine aj (v:=.bool ((eC mn mr).isSome)) J J<|aG<|rt<|iS H8 1 J cu J J J J J aJ ?_
  have e8:((eC mn mr).isSome:Bool)=(m_ mn mr kd).isSome:=by exact DU
  have bF:=fu (fun (ku:Bool)=>(.tuple #[.agg #[U kd,U (-1),U (-1),U (-1),U (((eC mn mr).getD 0:Nat):Int),.slice none 0 0,U (-1),U (-1)],.bool ku]:Value)) e8
  exact⟨kd,(-1),(-1),(-1),(((eC mn mr).getD 0:Nat):Int),(-1),(-1),bF,H8.below,(by have h_:=(bQ bV).2.2.1;first|exact UU jm ai cG|exact UW jm cG)⟩
 refine sk<|dM<|k<|cg H6 0 J cu J J aJ J<|ak (v:=.bool ((eC mn mr).isSome)) J J<|k<|cz H6 1 J cu J J J J J J J ?_
 intro w6 (H7:HI M w w6 [J3,box aW #[U kd,U (-1),U (-1),U (-1),U (-1),.slice none 0 0,U (-1),U (-1)] 25,J1,J0])
 refine aj (v:=.bool ((eC mn mr).isSome)) J J<|aG<|rt<|iS H7 1 J cu J J J J J aJ ?_
 have e8:((eC mn mr).isSome:Bool)=(m_ mn mr kd).isSome:=by exact DU
 have bF:=fu (fun (ku:Bool)=>(.tuple #[.agg #[U kd,U (-1),U (-1),U (-1),U (-1),.slice none 0 0,U (-1),U (-1)],.bool ku]:Value)) e8
 exact⟨kd,(-1),(-1),(-1),(-1),(-1),(-1),bF,H7.below,(by have h_:=(bQ bV).2.2.1;first|exact UU jm ai cG|exact UW jm cG)⟩
theorem Co {l:az} (hM:ei M w) (cX:cP M w av au I) (fM:cP M w ax aw fo) (fL:aN mn) (eO:cP M w aU aT mr) (jm:aN kd) (rj:cP M w dO dN l) (ho:et I) (cT:I.length≤64) (eT:fo.length=I.length) (bV:cq mn mr=true) (Dk:mn=((I.length:Nat):Int)) (afu:∀x∈l,0≤x∧x<((I.length:Nat):Int)):Calls aX 33 #[.agg #[.slice aC aE aB,sL av I au,sL ax fo aw],.agg #[U mn,sL aU mr aT],U kd,sL dO l dN] w (cZ fun v w'=>∃(k_:Int) (r_:Int) (a_:Int) (b_:Int) (o_:Int) (f_:Int) (s_:Int),v=.tuple #[.agg #[U k_,U r_,U a_,U b_,U o_,.slice none 0 0,U f_,U s_],.bool ((j2 I fo mn mr kd l).isSome)]∧Ext w w'∧oE (j2 I fo mn mr kd l) k_ r_ a_ b_ o_):=by
 refine dK 56 Tryz.func33 J J J hM fun f0 ha H=>?_
 let J0:=iL av I au
 have H0:=H.put (it:=J0) J<|by rw[dY];exact cX
 let J1:=iL ax fo aw
 have H1:=H0.put (it:=J1) J<|by rw[bp rfl,dY];exact fM
 let J2:=iL aU mr aT
 have H2:=H1.put (it:=J2) J<|by rw[bp rfl,bp rfl,dY];exact eO
 let J3:=iL dO l dN
 have H3:=H2.put (it:=J3) J<|by rw[bp rfl,bp rfl,bp rfl,dY];exact rj
 have iT:=bN cX
 have nn:=bN fM
 have lu:=bN eO
 have xM:=bN rj
 have i0:f0 0=.agg #[.slice aC aE aB,sL av I au,sL ax fo aw]:=ha 0 bH
 have i1:f0 1=.agg #[U mn,sL aU mr aT]:=ha 1 bH
 have i2:f0 2=U kd:=ha 2 bH
 have i3:f0 3=sL dO l dN:=ha 3 bH
 refine aH<|k<|bx H3 J i0 ?_
 let bC:=[J3,J2,J1,J0]
 intro aK w0 dt (H4:HI M w w0 (box aK #[.slice aC aE aB,sL av I au,sL ax fo aw] 32::bC))
 let J4:=box aK #[.slice aC aE aB,sL av I au,sL ax fo aw] 32
 refine k<|bx H4 J i1 ?_
 let dk:=J4::bC
 intro aW w1 cR (H5:HI M w w1 (box aW #[U mn,sL aU mr aT] 68::dk))
 let J5:=box aW #[U mn,sL aU mr aT] 68
 refine k<|al H5 cu ?_
 let dv:=J5::dk
 intro bj w2 d_ (H6:HI M w w2 (box bj #[U 0,U 0,U 0,U 0,U 0,.slice none 0 0,U 0,U 0] 25::dv))
 let J6:=box bj #[U 0,U 0,U 0,U 0,U 0,.slice none 0 0,U 0,U 0] 25
 refine aj (v:=.bool false) J J<|cU<|ak J i2<|k ?_
 have cx:=qp (kd:=kd) (w:=w2) jm
 refine ca FU J (ec J e0) cx ?_
 rintro _ w3 ⟨rfl,eG⟩
 have H7:=H6.ext eG
 refine k<|al H7 cu ?_
 let dD:=J6::dv
 intro dI w4 eI (H8:HI M w w4 (box dI #[U 0,U 0,U 0,U 0,U 0,.slice none 0 0,U 0,U 0] 25::dD))
 refine k<|cz H8 0 J cu J J J J J J J ?_
 let J7:=box dI #[U kd,U (-1),U (-1),U (-1),U (-1),.slice none 0 0,U (-1),U (-1)] 25
 intro w5 (H9:HI M w w5 (J7::dD))
 refine aG<|sq<|aH<|aj (v:=U 0) J J<|aG<|bk<|lp (fun m f w'=>∃(j_:Nat),m=l.length-j_∧f 3=sL dO l dN∧f 4=pV aK 0∧f 5=pV aW 0∧f 8=pV bj 0∧f 10=pV dI 0∧f 11=U (j_:Int)∧HI M w w' (J7::dD)∧(j_≤l.length)∧(∀y∈l.take j_,xZ I fo mn mr y=false)) _ ⟨0,J,i3,J,J,J,J,(bJ J),H9,ai,(by intro y h;simp at h)⟩ ?_
 rintro _ f0 w6 ⟨j_,rfl,s0,s1,s2,s3,s4,s5,db,ra,hs⟩
 refine sq<|aH<|ak J s5<|ak J s0<|k<|ep J J cY<|k<|lss J J J J<|z<|nx<|cd (b:=decide ((j_:Int)<(l.length:Int))) J J (fun b0=>?_)<|fun b0=>?_
 ·
  have p0:=dT b0
  refine sk<|nx<|sq<|bk<|aH<|ak J s0<|ak J s5<|k<|ia (db.rv 4 J) J J J J ai cY aQ ?_
  intro fz x0 aq cN
  refine k<|kB cN.w aQ J J ?_
  intro cL
  refine aj (v:=U x0) J J<|aG<|sq ?_
  have afg:=afu x0<|eh aq
  refine BB J bu<|xq J<|kq (fun _ x_=>cg (db.ext x_) 3 J dn J s1 aJ J e1)<|zq<|xq J<|kq (fun _ x_=>cg (db.ext x_) 2 J bh J s2 aJ J e1)<|zq<|xq J<|kq (fun _ _=>mv (v:=U x0) J J e1)<|zq<|xu (fun v w'=>∃(a0:OA) (c0:Nat),v=sL a0 (ee mn mr x0) c0∧RV db.nA w' (sL a0 (ee mn mr x0) c0) (ee mn mr x0)) J (by rintro _ _ _ x_ ⟨a0,c0,e_,gh⟩;exact⟨a0,c0,e_,gh.lift (Up.ext x_)⟩) J (fun v_ x_=>have gS:=IH (mn:=mn) (mr:=mr) (o:=x0) (w:=v_) (db.ext x_).mb fL ((db.ext x_).rv 5 rfl) cL (by exact bV);ca aaN rfl (ec J<|ec J e0) gS (fun _ w8 ⟨a1,c1,e_,iJ,fQ⟩=>⟨_,J,iJ,⟨a1,c1,e_,(bm.rv fQ (db.ext x_).mb)⟩⟩))<|xq J<|kq (fun _ _=>fa dh J s1 e1)<|zq<|xq J<|kq (fun _ x_=>lx (db.ext x_) 3 J eR J J J e1)<|zq<|xq J<|kq (fun _ _=>mv (v:=U x0) J J e1)<|zq<|xq J<|hG (db.rv 7 J) J J J J ai fj gB ?_
  intro iG x1 cw eU
  refine zq<|xq J<|kq (fun _ _=>fa nv J J e1)<|zq<|xq J<|fV ((eU).s3).fst.w aQ J J ?_
  intro gl
  refine zq<|F8 (fun v w'=>∃(a3:OA) (c3:Nat),v=sL a3 (aV (fe I x1.2.2.2.1)<|ee mn mr x0) c3∧RV db.nA w' (sL a3 (aV (fe I x1.2.2.2.1)<|ee mn mr x0) c3) (aV (fe I x1.2.2.2.1)<|ee mn mr x0)) 0 J J (by rintro _ _ _ x_ ⟨a3,c3,e_,ml⟩;exact⟨a3,c3,e_,ml.lift (Up.ext x_)⟩) J (fun v_ _ x_ h_=>let ⟨a4,c4,s6,kK⟩:=h_;have jP:=(db.ext x_).put (it:=iL a4 (ee mn mr x0) c4) rfl kK;have oo:=AJ (I:=I) (l:=(ee mn mr x0)) (vr:=x1.2.2.2.1) (aC:=aC) (aE:=aE) (aB:=aB) (ax:=ax) (cH:=fo.length) (aw:=aw) jP.mb (jP.rv 8 J) (jP.rv 0 J) gl (by have h_:=AL bV x0;omega);ca aaO rfl (ec J<|ec s6<|ec J e0) oo (fun _ jb ⟨a5,c5,e_,lh,lD⟩=>⟨_,J,lh,⟨a5,c5,e_,(gY J<|bm.rv lD jP.mb)⟩⟩))<|F8 (fun v w'=>∃(a6:OA) (c6:Nat),v=sL a6 (aV (fe I x1.2.2.2.1)<|ee mn mr x0) c6∧RV db.nA w' (sL a6 (aV (fe I x1.2.2.2.1)<|ee mn mr x0) c6) (aV (fe I x1.2.2.2.1)<|ee mn mr x0)) 0 J J (by rintro _ _ _ x_ ⟨a6,c6,e_,pP⟩;exact⟨a6,c6,e_,pP.lift (Up.ext x_)⟩) J (fun _ _ _ h_=>let ⟨a7,c7,s7,qM⟩:=h_;gH rfl s7 ⟨_,J,Ext.refl _,⟨a7,c7,J,qM⟩⟩)<|zx ?_
  intro iK f1 jD cI ji
  have pc:=db.ext jD
  have s8:=(cI 3 J).trans s0
  have s9:=(cI 4 J).trans s1
  have ey:=(cI 5 J).trans s2
  have ew:=(cI 8 J).trans s3
  have eE:=(cI 10 J).trans s4
  have fc:=(cI 11 J).trans s5
  have fJ:=cI 12 J
  obtain⟨a8,c8,fw,rz⟩:=ji 0 _ _ rfl
  let J8:=iL a8 (aV (fe I x1.2.2.2.1) (ee mn mr x0)) c8
  have iE:=pc.put (it:=J8) J rz
  refine dM<|bo kD J s9<|bR iE 4 J lA J J J<|ak J fJ<|k<|ia (iE.rv 7 J) J J J J ai cY aQ ?_
  intro kX x2 dR gJ
  refine k<|kB gJ.w aQ J J ?_
  intro tj
  refine k<|eql J J J J<|ak (v:=.bool (decide (x2=(-1)))) J J ?_
  rcases bE (decide (x2=(-1))) with b1|b1
  ·
   have p1:=dT b1
   refine aM J J J b1<|mv J fw<|aM J J J b1<|ep J J cY<|aM J J J b1<|gtr J J J J<|k<|ba J J J J b1 J<|z<|nx<|cd (b:=decide (0<((aV (fe I x1.2.2.2.1)<|ee mn mr x0).length:Int))) J J (fun b2=>?_)<|fun b2=>?_
   ·
    have p2:=dT b2
    refine sq ?_
    obtain⟨x3,gX⟩:∃x,(aV (fe I x1.2.2.2.1) (ee mn mr x0))[(0:Int).toNat]? =some x:=⟨_,dW ai⟩
    have kH:HI M w iK [J8,J6,J5,J4,J3,J2,J1,J0,J7]:=iE.c_ [0,2,3,4,5,6,7,8,1] aJ J
    let J9:=box dI #[U kd,U x0,U (-1),U (-1),U (-1),.slice none 0 0,U (-1),U (-1)] 25
    let qI:=box dI #[U kd,U x0,U x3,U (-1),U (-1),.slice none 0 0,U (-1),U (-1)] 25
    refine abx [none,none,none,none,none,some 7,none,none,some 5] [0,0,2,6,1,17,63,127] [fun _=>[],fun _=>[],fun v_=>[lq (vP v_) x3],fun _=>[],fun _=>[],fun v_=>[J9],fun _=>[],fun v_=>[qI],fun _=>[J7]] [[],[],[],[2],[],[8],[],[5]] [fun v_=>v_=U x0∧aN (x0),fun v_=>v_=sL a8 (aV (fe I x1.2.2.2.1)<|ee mn mr x0) c8,fun v_=>∃(jc:Addr),v_=.pointer (some jc),fun v_=>v_=U x3∧aN (x3),fun v_=>v_=pV dI 1,fun _=>True,fun v_=>v_=pV dI 2,fun _=>True] [J8,J6,J5,J4,J3,J2,J1,J0] J bu J kH ?_ ?_
    ·
     refine⟨fun f2 jK V_ bW n9 Jp A5 rn=>?_,?_⟩
     ·
      have sh:HI M w jK ((J8::dD)++bW):=(by have h_:HI M w jK ((J8::dD)++(bW)):=rn;exact h_)
      refine mv J ((n9 12 J).trans fJ) ?_
      exact⟨_,J,⟨J,cL⟩,sh⟩
     refine⟨fun f3 lz V_ bW xm oW yC qJ=>?_,?_⟩
     ·
      have pb:HI M w lz ((J8::dD)++bW):=(by have h_:HI M w lz ((J8::dD)++(bW)):=qJ;exact h_)
      refine mv J ((xm 13 J).trans fw) ?_
      exact⟨_,J,J,pb⟩
     refine⟨fun f4 mB V_ bW gM rY j7 BU=>?_,?_⟩
     ·
      obtain⟨e0,q0⟩:=rY 1 _ rfl rfl rfl
      have e1:V_ 1=sL a8 (aV (fe I x1.2.2.2.1) (ee mn mr x0)) c8:=q0
      have fX:f4 49=sL a8 (aV (fe I x1.2.2.2.1) (ee mn mr x0)) c8:=e0.trans e1
      have uB:HI M w mB ((J8::dD)++bW):=(by have h_:HI M w mB ((J8::dD)++(bW)):=BU;exact h_)
      refine ia (uB.rv 0 J) J J fX J ai cY aQ ?_
      intro sK x4 jT oD
      obtain rfl:x3=x4:=alD (gX.symm.trans jT)
      have sZ:=uB.put (it:=lq sK x3) J oD
      have sP:HI M w mB ((lq sK x3::J8::dD)++bW):=sZ
      have lS:=HI.ba (l:=(lq sK x3::J8::dD)) (l':=[J8,J6,J5,J4,J3,J2,J1,J0,lq sK x3]) (t:=bW) sP [1,2,3,4,5,6,7,8,0] aJ J J
      exact⟨_,J,⟨sK,J⟩,lS⟩
     refine⟨fun f5 lL V_ bW GP lP A4 sO=>?_,?_⟩
     ·
      obtain⟨e2,q1⟩:=lP 2 _ rfl rfl rfl
      obtain⟨kG,e3⟩:∃(kG:Addr),V_ 2=.pointer (some kG):=q1
      have gF:f5 50=.pointer (some kG):=e2.trans e3
      have sY:HI M w lL ([iL a8 (aV (fe I x1.2.2.2.1) (ee mn mr x0)) c8,box bj #[U 0,U 0,U 0,U 0,U 0,.slice none 0 0,U 0,U 0] 25,box aW #[U mn,sL aU mr aT] 68,box aK #[.slice aC aE aB,sL av I au,sL ax fo aw] 32,iL dO l dN,iL aU mr aT,iL ax fo aw,iL av I au,lq kG x3]++bW):=(by have h_:HI M w lL ([iL a8 (aV (fe I x1.2.2.2.1)<|ee mn mr x0) c8,box bj #[U 0,U 0,U 0,U 0,U 0,.slice none 0 0,U 0,U 0] 25,box aW #[U mn,sL aU mr aT] 68,box aK #[.slice aC aE aB,sL av I au,sL ax fo aw] 32,iL dO l dN,iL aU mr aT,iL ax fo aw,iL av I au]++([lq (vP<|V_ 2) x3]++(bW))):=sO;rw[e3] at h_;exact h_)
      refine kB (sY.wK 8 J).w aQ J gF ?_
      intro SU
      exact⟨_,J,⟨J,SU⟩,(by have h_:=sY;rw[show (kG:Addr)=(vP<|V_ 2) from by rw[e3]<;>rfl] at h_;exact h_)⟩
     refine⟨fun f6 jX V_ bW vY jk A3 sN=>?_,?_⟩
     ·
      have sX:HI M w jX ((J8::dD)++bW):=(by have h_:HI M w jX ((J8::dD)++(bW)):=sN;exact h_)
      refine fa jV J ((vY 10 J).trans eE) ?_
      exact⟨_,J,J,sX⟩
     refine⟨fun f7 kJ V_ bW ZG j8 A2 KY=>?_,?_⟩
     ·
      obtain⟨e4,q2⟩:=j8 0 _ rfl rfl rfl
      obtain⟨e5,E4⟩:V_ 0=U x0∧aN (x0):=q2
      have gL:f7 48=U x0:=e4.trans e5
      obtain⟨e6,q3⟩:=j8 4 _ rfl rfl rfl
      have e7:V_ 4=pV dI 1:=q3
      have gE:f7 52=pV dI 1:=e6.trans e7
      have KW:HI M w kJ ([J8,J6,J5,J4,J3,J2,J1,J0,J7]++bW):=(by have h_:HI M w kJ ((J8::dD)++([J7]++(bW))):=KY;exact h_)
      refine cz KW 8 J aQ J J gE gL J J J ?_
      intro ow (Sv:HI M w ow ([J8,J6,J5,J4,J3,J2,J1,J0,J9]++bW))
      exact⟨undef,J,trivial,Sv⟩
     refine⟨fun f8 kv V_ bW Mi kj A1 Su=>?_,?_⟩
     ·
      have St:HI M w kv ((J8::dD)++bW):=(by have h_:HI M w kv ((J8::dD)++(bW)):=Su;exact h_)
      refine fa jo J ((Mi 10 J).trans eE) ?_
      exact⟨_,J,J,St⟩
     refine⟨fun f9 nU V_ bW ZF ll A0 M9=>?_,?_⟩
     ·
      obtain⟨e8,q4⟩:=ll 3 _ rfl rfl rfl
      obtain⟨e9,SS⟩:V_ 3=U x3∧aN (x3):=q4
      have jg:f9 51=U x3:=e8.trans e9
      obtain⟨RN,q5⟩:=ll 6 _ rfl rfl rfl
      have Ki:V_ 6=pV dI 2:=q5
      have kU:f9 53=pV dI 2:=RN.trans Ki
      have Ss:HI M w nU ([J8,J6,J5,J4,J3,J2,J1,J0,J9]++bW):=(by have h_:HI M w nU ((J8::dD)++([J9]++(bW))):=M9;exact h_)
      refine cz Ss 8 J aQ J J kU jg J J J ?_
      intro ov (Hk:HI M w ov ([J8,J6,J5,J4,J3,J2,J1,J0,qI]++bW))
      exact⟨undef,J,trivial,Hk⟩
     exact trivial
    ·
     intro f10 pL V_ Mh jj H58
     obtain⟨VY,q6⟩:=jj 2 _ rfl rfl
     obtain⟨uz,RM⟩:∃(uz:Addr),V_ 2=.pointer (some uz):=q6
     have pw:=(Mh 8 J).trans ew
     have x7:=(Mh 10 J).trans eE
     have M8:HI M w pL [iL a8 (aV (fe I x1.2.2.2.1) (ee mn mr x0)) c8,box bj #[U 0,U 0,U 0,U 0,U 0,.slice none 0 0,U 0,U 0] 25,box aW #[U mn,sL aU mr aT] 68,box aK #[.slice aC aE aB,sL av I au,sL ax fo aw] 32,iL dO l dN,iL aU mr aT,iL ax fo aw,iL av I au,lq uz x3,box dI #[U kd,U x0,U x3,U (-1),U (-1),.slice none 0 0,U (-1),U (-1)] 25]:=(by have h_:HI M w pL ([iL a8 (aV (fe I x1.2.2.2.1)<|ee mn mr x0) c8,box bj #[U 0,U 0,U 0,U 0,U 0,.slice none 0 0,U 0,U 0] 25,box aW #[U mn,sL aU mr aT] 68,box aK #[.slice aC aE aB,sL av I au,sL ax fo aw] 32,iL dO l dN,iL aU mr aT,iL ax fo aw,iL av I au]++([]++([]++([lq (vP<|V_ 2) x3]++([]++([]++([]++([box dI #[U kd,U x0,U x3,U (-1),U (-1),.slice none 0 0,U (-1),U (-1)] 25]++([]))))))))):=H58;rw[RM] at h_;exact h_)
     refine dM<|k<|cg M8 9 J cu J x7 aJ J<|k<|cz M8 1 J cu J J pw J J J J ?_
     intro nL (Hj:HI M w nL [J8,box bj #[U kd,U x0,U x3,U (-1),U (-1),.slice none 0 0,U (-1),U (-1)] 25,J5,J4,J3,J2,J1,J0,lq uz x3,qI])
     refine aj (v:=.bool true) J J<|aG<|rt<|bM<|aS<|gb<|bM<|aS ?_
     have qB:=abg (kd:=kd) hs aq (by rw[Iv cw dR];simp only[b0,b1,b2,BL];done)<|by rw[zZ cw];exact gX
     refine iS Hj 1 J cu J J J pw J aJ ?_
     have e8:(true:Bool)=(j2 I fo mn mr kd l).isSome:=by rw[qB];rfl
     have bF:=fu (fun (ku:Bool)=>(.tuple #[.agg #[U kd,U x0,U x3,U (-1),U (-1),.slice none 0 0,U (-1),U (-1)],.bool ku]:Value)) e8
     exact⟨kd,x0,x3,(-1),(-1),(-1),(-1),bF,Hj.below,(by exact vc qB ⟨jm,by assumption,R_ bV (by rw[zZ cw];exact gX),uG,uG⟩)⟩
   have p2:=dF b2
   refine sk<|aF<|nx<|rg<|ak J fc<|k<|add J J J J aY<|aj (v:=U ((j_:Int)+1)) J J<|z ?_
   have kY:HI M w iK (J7::dD):=iE.c_ [1,2,3,4,5,6,7,8] aJ J
   refine bD _ ?_ ⟨(j_+1),J,s8,s9,ey,ew,eE,(bJ J),kY,ai,(by exact HN hs aq (by rw[Iv cw dR];simp only[b0,b1,b2,BL];done))⟩
   omega
  have p1:=dF b1
  refine aD J J J b1<|aD J J J b1<|aD J J J b1<|k<|bc J J J J b1 J<|aG<|l7 J J J<|sk<|aF<|nx<|rg<|ak J fc<|k<|add J J J J aY<|aj (v:=U ((j_:Int)+1)) J J<|z ?_
  have kY:HI M w iK (J7::dD):=iE.c_ [1,2,3,4,5,6,7,8] aJ J
  refine bD _ ?_ ⟨(j_+1),J,s8,s9,ey,ew,eE,(bJ J),kY,ai,(by exact HN hs aq (by rw[Iv cw dR];simp only[b0,b1,BL];done))⟩
  omega
 have p0:=dF b0
 refine ex<|bg<|bt<|bz<|dM<|k<|cg db 0 J cu J s4 aJ J<|k<|cz db 1 J cu J J s3 J J J J ?_
 intro w7 (da:HI M w w7 (J7::box bj #[U kd,U (-1),U (-1),U (-1),U (-1),.slice none 0 0,U (-1),U (-1)] 25::dv))
 refine aj (v:=.bool false) J J<|aG<|rt ?_
 have qB:=XP (I:=I) (fo:=fo) (n:=mn) (rs:=mr) (kd:=kd) hs ai
 refine iS da 1 J cu J J J s3 J aJ ?_
 have e8:(false:Bool)=(j2 I fo mn mr kd l).isSome:=by rw[qB];rfl
 have bF:=fu (fun (ku:Bool)=>(.tuple #[.agg #[U kd,U (-1),U (-1),U (-1),U (-1),.slice none 0 0,U (-1),U (-1)],.bool ku]:Value)) e8
 exact⟨kd,(-1),(-1),(-1),(-1),(-1),(-1),bF,da.below,(by exact ve qB (by refine⟨?_,?_,?_,?_,?_⟩<;>first|assumption|(unfold aN;omega)))⟩
theorem af3:dq aX 80:=dy Tryz.func80
theorem aaY:dq aX 33:=dy Tryz.func33
theorem NA (hM:ei M w) (cX:cP M w av au I) (fM:cP M w ax aw fo) (fL:aN mn) (eO:cP M w aU aT mr) (jm:aN kd) (ho:et I) (cT:I.length≤64) (eT:fo.length=I.length) (ln:∀x∈fo,x<((I.length:Nat):Int)) (Vs:mn=((I.length:Nat):Int)) (uR:mr=bw I fo) (oC:nD I fo):Calls aX 38 #[.agg #[.slice aC aE aB,sL av I au,sL ax fo aw],.agg #[U mn,sL aU mr aT],U kd] w (cZ fun v w'=>∃(k_:Int) (r_:Int) (a_:Int) (b_:Int) (o_:Int) (f_:Int) (s_:Int),v=.tuple #[.agg #[U k_,U r_,U a_,U b_,U o_,.slice none 0 0,U f_,U s_],.bool ((kR I fo kd).isSome)]∧Ext w w'∧oE (kR I fo kd) k_ r_ a_ b_ o_):=by
 refine dK 65 Tryz.func38 J J J hM fun f0 ha H=>?_
 let J0:=iL av I au
 have H0:=H.put (it:=J0) J<|by rw[dY];exact cX
 let J1:=iL ax fo aw
 have H1:=H0.put (it:=J1) J<|by rw[bp rfl,dY];exact fM
 let J2:=iL aU mr aT
 have H2:=H1.put (it:=J2) J<|by rw[bp rfl,bp rfl,dY];exact eO
 have iT:=bN cX
 have nn:=bN fM
 have lu:=bN eO
 have i0:f0 0=.agg #[.slice aC aE aB,sL av I au,sL ax fo aw]:=ha 0 bH
 have i1:f0 1=.agg #[U mn,sL aU mr aT]:=ha 1 bH
 have i2:f0 2=U kd:=ha 2 bH
 refine aH<|k<|bx H2 J i0 ?_
 let bC:=[J2,J1,J0]
 intro aK w0 dt (H3:HI M w w0 (box aK #[.slice aC aE aB,sL av I au,sL ax fo aw] 32::bC))
 let J3:=box aK #[.slice aC aE aB,sL av I au,sL ax fo aw] 32
 refine k<|bx H3 J i1 ?_
 let dk:=J3::bC
 intro aW w1 cR (H4:HI M w w1 (box aW #[U mn,sL aU mr aT] 68::dk))
 let J4:=box aW #[U mn,sL aU mr aT] 68
 refine k<|al H4 cu ?_
 let dv:=J4::dk
 intro bj w2 d_ (H5:HI M w w2 (box bj #[U 0,U 0,U 0,U 0,U 0,.slice none 0 0,U 0,U 0] 25::dv))
 let J5:=box bj #[U 0,U 0,U 0,U 0,U 0,.slice none 0 0,U 0,U 0] 25
 refine aj (v:=.bool false) J J<|aG<|sq<|aH<|aj (v:=U 0) J J<|aG<|bk ?_
 let dD:=J5::dv
 refine lp (fun m f w'=>∃(j_:Nat),m=I.length-j_∧f 2=U kd∧f 3=pV aK 0∧f 4=pV aW 0∧f 6=pV bj 0∧f 8=U (j_:Int)∧HI M w w' dD∧(j_≤I.length)∧(∀q,q<j_→l_ I fo kd q=false)) _ ⟨0,J,i2,J,J,J,(bJ J),H5,ai,(by intro q h;omega)⟩ ?_
 rintro _ f0 w3 ⟨j_,rfl,s0,s1,s2,s3,s4,H6,ra,hs⟩
 refine sq<|aH<|ak J s4<|bo dh J s1<|bR H6 2 J eR J J J<|k<|ep J J fj<|k<|lss J J J J<|z<|nx<|cd (b:=decide ((j_:Int)<(I.length:Int))) J J (fun b0=>?_)<|fun b0=>?_
 ·
  have p0:=dT b0
  refine sk<|nx<|sq<|bk<|sq ?_
  have TW:j_<I.length:=by omega
  have S3:cq ((I.length:Nat):Int) (iu I fo (j_:Int))=true:=Nv cT TW
  have zL:∀x∈aV (cm I) (bS I (j_:Int) I.length),0≤x∧x<((I.length:Nat):Int):=fun x_ h_=>(mc (fo:=fo) ho (by rw[←show aV (cm I) (bS I (j_:Int) I.length)=dB I (j_:Int) from tu ho _];exact h_) ⟨by omega,by omega⟩).1
  refine rg<|k<|cg H6 2 J dn J s1 aJ J<|k<|cg H6 1 J bh J s2 aJ J<|ak J s4<|k ?_
  have cx:=S_ (I:=I) (fo:=fo) (mn:=mn) (mr:=mr) (o:=(j_:Int)) (aC:=aC) (aE:=aE) (aB:=aB) H6.mb (H6.rv 5 J) (H6.rv 4 J) fL (H6.rv 3 J) aY (by exact ho) (by exact cT) (by exact eT) (by exact ln) (by exact Vs) (by exact uR) (by exact oC) ai
  refine ca af3 J (ec J<|ec J<|ec J e0) cx ?_
  rintro _ w4 ⟨o0,o1,a0,c0,a1,c1,rfl,eG,cL,eQ,q0⟩
  have H7:=H6.ext eG
  let J6:=iL a0 (iu I fo (j_:Int)) c0
  have H8:=H7.put (it:=J6) J cL
  let J7:=iL a1 o0 c1
  have H9:=H8.put (it:=J7) J<|by rw[bp J];exact eQ
  refine ak (v:=.tuple #[.agg #[U ((I.length:Nat):Int),sL a0 (iu I fo (j_:Int)) c0],sL a1 o0 c1,U o1,U 0]) J J<|k<|xt J J J<|k<|xt J J J<|k<|xt J J J<|k<|xt J J J<|k<|al H9 bh ?_
  let jO:=J7::J6::dD
  intro dI w5 eI (db:HI M w w5 (box dI #[U 0,.slice none 0 0] 68::jO))
  refine k<|cz db 0 J bh J J J J J J J ?_
  let J8:=box dI #[U ((I.length:Nat):Int),sL a0 (iu I fo (j_:Int)) c0] 68
  intro w6 (da:HI M w w6 (J8::jO))
  refine aj (v:=sL a1 o0 c1) J J<|aj (v:=U o1) J J<|aj (v:=U 0) J J<|aG<|sq<|aH<|ak J s0<|k<|eql J J J J<|z<|nx<|cd (b:=decide (kd=6)) J J (fun b1=>?_)<|fun b1=>?_
  ·
   refine sq<|EE [.r,.r,.r,.r,.r,.r,.r,.r,.r,.s,.n,.e,.s] (fun _=>True) J bu (fun _ _=>trivial)<|yq J J<|kq (fun _ x_=>cg (da.ext x_) 5 J dn J s1 aJ J e1)<|gC<|kq (fun _ x_=>cg (da.ext x_) 0 J bh J J aJ J e1)<|gC<|kq (fun _ _=>mv J s0 e1)<|gC<|kq (fun _ x_=>cg (da.ext x_) 5 J dn J s1 aJ J e1)<|gC<|kq (fun _ _=>mv J s4 e1)<|zq<|yu J (fun N v w'=>∃(a2:OA) (c2:Nat),v=sL a2 (aV (cm I)<|bS I (j_:Int) I.length) c2∧RV (MN da.nA N) w' (sL a2 (aV (cm I)<|bS I (j_:Int) I.length) c2) (aV (cm I)<|bS I (j_:Int) I.length)) J Zf J (fun v_ _ x_ n_=>have gS:=u2 (I:=I) (o:=(j_:Int)) (aC:=aC) (aE:=aE) (aB:=aB) (ax:=ax) (cH:=fo.length) (aw:=aw) (w:=v_) (gK da.mb x_ n_) (j4 (da.rv 8 J) x_ n_) aY ai;ca OH rfl (ec J<|ec J e0) gS (fun _ w8 ⟨a3,c3,e_,iJ,gG⟩=>⟨_,J,iJ,⟨a3,c3,e_,(bm.rv gG<|gK da.mb x_ n_)⟩⟩))<|z1 J (fun _ v _=>∃(o2:Int) (o3:Int) (o4:Int) (o5:Int) (o6:Int) (o7:Int) (o8:Int),v=.tuple #[.agg #[U o2,U o3,U o4,U o5,U o6,.slice none 0 0,U o7,U o8],.bool ((j2 I fo ((I.length:Nat):Int) (iu I fo (j_:Int)) kd<|aV (cm I)<|bS I (j_:Int) I.length).isSome)]∧oE (j2 I fo ((I.length:Nat):Int) (iu I fo (j_:Int)) kd<|aV (cm I)<|bS I (j_:Int) I.length) o2 o3 o4 o5 o6) 0 J J mE J (fun v_ _ _ x_ n_ h_=>let ⟨a5,c5,s5,lk⟩:=h_;have oo:=Co (I:=I) (fo:=fo) (mn:=((I.length:Nat):Int)) (mr:=(iu I fo (j_:Int))) (kd:=kd) (l:=(aV (cm I)<|bS I (j_:Int) I.length)) (aC:=aC) (aE:=aE) (aB:=aB) (w:=v_) (gK da.mb x_ n_) (j4 (da.rv 8 J) x_ n_) (j4 (da.rv 7 J) x_ n_) aY (j4 (da.rv 2 J) x_ n_) jm lk (by exact ho) (by exact cT) (by exact eT) (by exact S3) (by rfl) (by exact zL);ca aaY rfl (ec J<|ec J<|ec J<|ec s5 e0) oo (fun _ jb ⟨o9,L2,lE,L1,L0,IV,Va,e_,lh,q2⟩=>⟨_,J,lh,⟨o9,L2,lE,L1,L0,IV,Va,e_,q2⟩⟩))<|z1 J (fun _ v _=>∃(Qr:Int) (Qq:Int) (Qp:Int) (U_:Int) (U9:Int) (Y7:Int) (Y6:Int),v=.tuple #[.agg #[U Qr,U Qq,U Qp,U U_,U U9,.slice none 0 0,U Y7,U Y6],.bool ((j2 I fo ((I.length:Nat):Int) (iu I fo (j_:Int)) kd<|aV (cm I)<|bS I (j_:Int) I.length).isSome)]∧oE (j2 I fo ((I.length:Nat):Int) (iu I fo (j_:Int)) kd<|aV (cm I)<|bS I (j_:Int) I.length) Qr Qq Qp U_ U9) 0 J J mE J (fun _ _ _ _ _ h_=>let ⟨Y5,Y4,Y3,Y2,Y1,U7,U6,s6,q4⟩:=h_;mv rfl s6 ⟨_,J,Ext.refl _,⟨Y5,Y4,Y3,Y2,Y1,U7,U6,J,q4⟩⟩)<|z1 J (fun _ v _=>∃(Qo:Int) (Qn:Int) (Qm:Int) (U5:Int) (U4:Int) (Y0:Int) (YZ:Int),v=.agg #[U Qo,U Qn,U Qm,U U5,U U4,.slice none 0 0,U Y0,U YZ]∧oE (j2 I fo ((I.length:Nat):Int) (iu I fo (j_:Int)) kd<|aV (cm I)<|bS I (j_:Int) I.length) Qo Qn Qm U5 U4) 0 J J mE J (fun _ _ _ _ _ h_=>let ⟨YY,YX,YW,YV,YU,o42,o43,s7,q6⟩:=h_;xt rfl s7 rfl ⟨_,J,Ext.refl _,⟨YY,YX,YW,YV,YU,o42,o43,J,q6⟩⟩)<|O7 J (X:=.bool ((j2 I fo ((I.length:Nat):Int) (iu I fo (j_:Int)) kd<|aV (cm I)<|bS I (j_:Int) I.length).isSome)) 1 J J (fun _ _ _ _ _ h_=>let ⟨o51,o52,o53,o54,o55,Ql,Qk,s8,q8⟩:=h_;xt rfl s8 rfl e1)<|yn (z:=#[U 0,U 0,U 0,U 0,U 0,.slice none 0 0,U 0,U 0]) J J (fun _=>alZ cu)<|ye<|yq J J<|kq (fun _ _=>gH (v:=.bool ((j2 I fo ((I.length:Nat):Int) (iu I fo (j_:Int)) kd<|aV (cm I)<|bS I (j_:Int) I.length).isSome)) J J e1)<|zq<|yz ?_
   intro iK f1 _ jD _ _ cI ji
   obtain⟨wJ,s9,qG,oY,Q1⟩:=ji 0 _ _ rfl
   have uf:=bz1 (z:=#[U 0,U 0,U 0,U 0,U 0,.slice none 0 0,U 0,U 0]) (T:=25) qG oY Q1<|bz0
   have fR:HI M w iK (box wJ #[U 0,U 0,U 0,U 0,U 0,.slice none 0 0,U 0,U 0] 25::J8::jO):=da.Of jD uf<|Zc Za Zd
   have ey:=(cI 2 J).trans s0
   have ew:=(cI 3 J).trans s1
   have eE:=(cI 4 J).trans s2
   have fc:=(cI 6 J).trans s3
   have fJ:=(cI 8 J).trans s4
   have fw:=cI 14 J
   obtain⟨Cv,Cu,Ct,Cs,LZ,Qj,Qi,fX,q9⟩:=ji 1 _ _ rfl
   refine vT<|cz fR 0 J cu J J s9 fX J J J ?_
   intro jf (eY:HI M w jf (box wJ #[U Cv,U Cu,U Ct,U Cs,U LZ,.slice none 0 0,U Qj,U Qi] 25::J8::jO))
   refine kz<|nx<|sq<|aH<|ak J fw<|z<|nx<|cd (b:=(j2 I fo ((I.length:Nat):Int) (iu I fo (j_:Int)) kd<|aV (cm I)<|bS I (j_:Int) I.length).isSome) J J (fun b2=>?_)<|fun b2=>?_
   ·
    refine aH<|ak J fJ<|bo ir J s9<|k<|cz eY 0 J aQ J J J J J J J ?_
    let J9:=box wJ #[U Cv,U Cu,U Ct,U Cs,U (j_:Int),.slice none 0 0,U Qj,U Qi] 25
    intro ju (fg:HI M w ju (J9::J8::jO))
    refine cU<|k<|cg fg 0 J cu J s9 aJ J<|k<|cz fg 4 J cu J J fc J J J J ?_
    intro jK (gz:HI M w jK (J9::J8::J7::J6::box bj #[U Cv,U Cu,U Ct,U Cs,U (j_:Int),.slice none 0 0,U Qj,U Qi] 25::dv))
    refine aj (v:=.bool true) J J<|aG<|rt<|aS<|aS<|bM<|aS<|gb<|bM<|aS ?_
    have qB:=acB ho (alT ‹decide (kd=6)=true›) hs TW cT cG cG
    refine iS gz 4 J cu J J J fc J aJ ?_
    have e8:(true:Bool)=(kR I fo kd).isSome:=by exact qB.2
    have bF:=fu (fun (ku:Bool)=>(.tuple #[.agg #[U Cv,U Cu,U Ct,U Cs,U (j_:Int),.slice none 0 0,U Qj,U Qi],.bool ku]:Value)) e8
    exact⟨Cv,Cu,Ct,Cs,(j_:Int),Qj,Qi,bF,gz.below,(by exact qB.1)⟩
   refine sk<|nx<|ex<|bg<|bz<|nx<|rg<|ak J fJ<|k<|add J J J J aY<|aj (v:=U ((j_:Int)+1)) J J<|z ?_
   have fg:HI M w jf dD:=eY.c_ [4,5,6,7,8,9] aJ J
   refine bD _ ?_ ⟨(j_+1),J,ey,ew,eE,fc,(bJ J),fg,ai,(by (exact Gm hs (PD ho (alT ‹decide (kd=6)=true›) cG);done))⟩
   omega
  refine sk<|dM<|k<|cg da 0 J bh J J aJ J<|k ?_
  have eF:=DZ (mn:=((I.length:Nat):Int)) (mr:=(iu I fo (j_:Int))) da.mb aY (da.rv 2 J) (by exact(bQ S3).1) (by exact(bQ S3).2.1) ai
  refine ca aaP J (ec J e0) eF ?_
  rintro _ w7 ⟨rfl,ly⟩
  have eB:=da.ext ly
  refine ak (v:=.tuple #[U (((eC ((I.length:Nat):Int)<|iu I fo (j_:Int)).getD 0:Nat):Int),.bool ((eC ((I.length:Nat):Int)<|iu I fo (j_:Int)).isSome)]) J J<|k<|xt J J J<|k<|xt J J J<|aj (v:=U (((eC ((I.length:Nat):Int)<|iu I fo (j_:Int)).getD 0:Nat):Int)) J J<|aj (v:=.bool ((eC ((I.length:Nat):Int)<|iu I fo (j_:Int)).isSome)) J J<|cU<|ak (v:=.bool ((eC ((I.length:Nat):Int)<|iu I fo (j_:Int)).isSome)) J J<|z<|nx<|cd (b:=(eC ((I.length:Nat):Int)<|iu I fo (j_:Int)).isSome) J J (fun b2=>?_)<|fun b2=>?_
  ·
   refine aH<|ak J s0<|k ?_
   have gS:=qp (kd:=kd) (w:=w7) jm
   refine ca FU J (ec J e0) gS ?_
   rintro _ w8 ⟨rfl,iJ⟩
   have dZ:=eB.ext iJ
   refine k<|al dZ cu ?_
   intro mV w9 je (cM:HI M w w9 (box mV #[U 0,U 0,U 0,U 0,U 0,.slice none 0 0,U 0,U 0] 25::J8::jO))
   refine k<|cz cM 0 J cu J J J J J J J ?_
   intro jb (fR:HI M w jb (box mV #[U kd,U (-1),U (-1),U (-1),U (-1),.slice none 0 0,U (-1),U (-1)] 25::J8::jO))
   refine cU<|ak J s4<|ak (v:=U (((eC ((I.length:Nat):Int)<|iu I fo (j_:Int)).getD 0:Nat):Int)) J J<|bo ir J J<|k<|cz fR 0 J aQ J J J J J J J ?_
   intro iK (eY:HI M w iK (box mV #[U kd,U (-1),U (-1),U (-1),U (j_:Int),.slice none 0 0,U (-1),U (-1)] 25::J8::jO))
   refine bo jo J J<|k<|cz eY 0 J aQ J J J J J J J ?_
   let qI:=box mV #[U kd,U (-1),U (((eC ((I.length:Nat):Int) (iu I fo (j_:Int))).getD 0:Nat):Int),U (-1),U (j_:Int),.slice none 0 0,U (-1),U (-1)] 25
   intro jf (fg:HI M w jf (qI::J8::jO))
   refine cU<|k<|cg fg 0 J cu J J aJ J<|k<|cz fg 4 J cu J J s3 J J J J ?_
   intro ju (gz:HI M w ju (qI::J8::J7::J6::box bj #[U kd,U (-1),U (((eC ((I.length:Nat):Int) (iu I fo (j_:Int))).getD 0:Nat):Int),U (-1),U (j_:Int),.slice none 0 0,U (-1),U (-1)] 25::dv))
   refine aj (v:=.bool true) J J<|aG<|rt<|bM<|aS<|gb<|bM<|aS ?_
   have qB:=acA (al3 ‹decide (kd=6)=false›) jm hs TW cT cG
   refine iS gz 4 J cu J J J s3 J aJ ?_
   have e8:(true:Bool)=(kR I fo kd).isSome:=by exact qB.2
   have bF:=fu (fun (ku:Bool)=>(.tuple #[.agg #[U kd,U (-1),U (((eC ((I.length:Nat):Int)<|iu I fo (j_:Int)).getD 0:Nat):Int),U (-1),U (j_:Int),.slice none 0 0,U (-1),U (-1)],.bool ku]:Value)) e8
   exact⟨kd,(-1),(((eC ((I.length:Nat):Int)<|iu I fo (j_:Int)).getD 0:Nat):Int),(-1),(j_:Int),(-1),(-1),bF,gz.below,(by exact qB.1)⟩
  refine sk<|aF<|nx<|rg<|ak J s4<|k<|add J J J J aY<|aj (v:=U ((j_:Int)+1)) J J<|z ?_
  have dZ:HI M w w7 dD:=eB.c_ [3,4,5,6,7,8] aJ J
  refine bD _ ?_ ⟨(j_+1),J,s0,s1,s2,s3,(bJ J),dZ,ai,(by (exact Gm hs (SM (al3 ‹decide (kd=6)=false›) cG);done))⟩
  omega
 have p0:=dF b0
 refine ex<|bg<|bt<|bz<|dM<|ak J s0<|k ?_
 have cx:=qp (kd:=kd) (w:=w3) jm
 refine ca FU J (ec J e0) cx ?_
 rintro _ w4 ⟨rfl,eG⟩
 have H7:=H6.ext eG
 refine k<|cz H7 0 J cu J J s3 J J J J ?_
 intro w5 (H8:HI M w w5 (box bj #[U kd,U (-1),U (-1),U (-1),U (-1),.slice none 0 0,U (-1),U (-1)] 25::dv))
 refine aj (v:=.bool false) J J<|aG<|rt ?_
 have qB:=acz jm hs<|show I.length≤j_ by omega
 refine iS H8 0 J cu J J J s3 J aJ ?_
 have e8:(false:Bool)=(kR I fo kd).isSome:=by exact qB.2
 have bF:=fu (fun (ku:Bool)=>(.tuple #[.agg #[U kd,U (-1),U (-1),U (-1),U (-1),.slice none 0 0,U (-1),U (-1)],.bool ku]:Value)) e8
 exact⟨kd,(-1),(-1),(-1),(-1),(-1),(-1),bF,H8.below,(by exact qB.1)⟩
end Go.Proofs.YtefcbihikknlkaaGreatDoor
