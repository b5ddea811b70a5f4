/- PRINTED by my own tool (wip/tool/gen.py): contracts of Go functions of this seat, each with its proof. -/
import Derived.Test.YtefcbihikknlkaaGreatDoorWwnB
import Derived.Test.YtefcbihikknlkaaGreatDoorWwnC
import Derived.Test.YtefcbihikknlkaaGreatDoorOenD
import Derived.Test.YtefcbihikknlkaaGreatDoorOenB
import Derived.Test.YtefcbihikknlkaaGreatDoorOenA
import Derived.Test.YtefcbihikknlkaaGreatDoorOenC
import Derived.Test.YtefcbihikknlkaaGreatDoorWwnD
import Derived.Test.YtefcbihikknlkaaGreatDoorWwnA
set_option linter.unusedVariables false
set_option linter.unusedSimpArgs false
namespace Go.Proofs.YtefcbihikknlkaaGreatDoor
open Go.Ew Go.RowKit
set_option maxRecDepth 1100000
set_option maxHeartbeats 1600000
attribute [local irreducible] WL WC SO PW PX Code.wp wpList qO cZ
attribute [local irreducible] eS oS iO fU ej y4 BC Is words dJ fH fZ fK uC
set_option maxRecDepth 100000
attribute [local irreducible] PZ WE
variable {M:bT} {w w_:aI}
variable {aC av ax cF dA dO eM kr:OA} {aE aB au cH aw bZ cE dz dN rA kS uN jd eL ko:Nat} {I:List aR} {i j kd fr to sa sb lv bB aZ bK aO dH cV n1:Int} {fo:az} {bf l iM:List aA} {pl:List Bool} {gO BY:TypeId} {h:List (List (Bool×fO×Int))}
theorem af1:dq aX 82:=dy Tryz.func82
theorem yV:jt aX 57 2 4:=mu Tryz.underlying57
theorem EW:fA aX 55 1 false 24 (.slice none 0 0):=⟨bu,bu⟩
theorem aaT:dq aX 50:=dy Tryz.func50
theorem Bq:dq aX 48:=dy Tryz.func48
theorem Hn (hM:ei M w) (cX:cP M w av au I) (nt:aN i) (Bm:aN j):Calls aX 82 #[.agg #[.slice aC aE aB,sL av I au,.slice ax cH aw],U i,U j] w (cZ fun v w'=>v=.bool (ux I i j)∧Ext w w'):=by
 refine dK 34 Tryz.func82 J J J hM fun f0 ha H=>?_
 have H0:=cj H cX
 have iT:=bN cX
 have i0:f0 0=.agg #[.slice aC aE aB,sL av I au,.slice ax cH aw]:=ha 0 bH
 have i1:f0 1=U i:=ha 1 bH
 have i2:f0 2=U j:=ha 2 bH
 refine aH<|k<|bx H0 J i0 ?_
 intro aK w0 dt (H1:HI M w w0 [box aK #[.slice aC aE aB,sL av I au,.slice ax cH aw] 32,iL av I au])
 refine aj (v:=.bool false) J J<|aG<|sq<|aH<|ak J i1<|k<|lss J J J J<|ak (v:=.bool (decide (i<0))) J J ?_
 rcases bE (decide (i<0)) with b0|b0
 ·
  have p0:=dT b0
  refine aD J J J b0<|aD J J J b0<|aD J J J b0<|aD J J J b0<|aD J J J b0<|k<|ba J J J J b0 J<|ak (v:=.bool true) J J<|aD J J J J<|aD J J J J<|aD J J J J<|k<|ba J J J J J J<|aG<|nP J J J<|aH<|aj (v:=.bool false) J J<|aG<|rt<|aS<|r1 J J ?_
  exact⟨alB Value.bool (by exact KI ai),H1.below⟩
 have p0:=dF b0
 refine aM J J J b0<|mv J i2<|aM J J J b0<|fa dh J J<|aM J J J b0<|lx H1 0 J eR J J J<|aM J J J b0<|ep J J fj<|aM J J J b0<|geq J J J J<|k<|bc J J J J b0 J<|ak (v:=.bool (decide ((I.length:Int)≤j))) J J ?_
 rcases bE (decide ((I.length:Int)≤j)) with b1|b1
 ·
  have p1:=dT b1
  refine aD J J J b1<|aD J J J b1<|aD J J J b1<|k<|ba J J J J b1 J<|aG<|nP J J J<|aH<|aj (v:=.bool false) J J<|aG<|rt<|aS<|r1 J J ?_
  exact⟨alB Value.bool (by exact KI ai),H1.below⟩
 have p1:=dF b1
 refine aM J J J b1<|mv J i1<|aM J J J b1<|mv J i2<|aM J J J b1<|geq J J J J<|k<|bc J J J J b1 J<|z<|nx<|cd (b:=decide (j≤i)) J J (fun b2=>?_)<|fun b2=>?_
 ·
  have p2:=dT b2
  refine aH<|aj (v:=.bool false) J J<|aG<|rt<|aS<|r1 J J ?_
  exact⟨alB Value.bool (by exact KI ai),H1.below⟩
 have p2:=dF b2
 refine sk<|nx<|sq<|yY J bu<|kq (fun _ _=>fa dh J J e1)<|kq (fun _ x_=>lx (H1.ext x_) 0 J eR J J J e1)<|kq (fun _ _=>mv J i1 e1)<|hG (H1.rv 1 J) J J J J ai fj gB ?_
 intro fz x0 aq cN
 refine kq (fun _ _=>fa yT J J e1)<|fV (cN).fst.w aQ J J ?_
 intro cL
 refine kq (fun _ _=>fa dh J J e1)<|kq (fun _ x_=>lx (H1.ext x_) 0 J eR J J J e1)<|kq (fun _ _=>mv J i2 e1)<|hG (H1.rv 1 J) J J J J ai fj gB ?_
 intro iG x1 cw eU
 refine kq (fun _ _=>fa yT J J e1)<|fV (eU).fst.w aQ J J ?_
 intro eQ
 refine kq (fun _ _=>eql J J J J e1)<|kq (fun _ _=>gH (v:=.bool (decide (x0.1=x1.1))) J J e1)<|zq ?_
 intro w1 cR
 have H2:=H1.ext cR
 refine nx<|rt<|r1 J J ?_
 exact⟨alB Value.bool (by exact X9 ai ai ai aq cw),H2.below⟩
theorem UF {r:List Go.Ew.Item} (jm:aN kd) (Dp:aN fr) (Bj:aN to) (JL:aN sa) (Dn:aN sb) (ho:et I) (cT:I.length≤4096) (eT:fo.length=I.length) (GR:pl.length=bf.length) (jG:bf.length≤1100000) (H:HI M w w_ ([box bZ #[.slice aC aE aB,sL av I au,sL ax fo aw,sL cF bf cE,sL dA pl dz] 57,iL av I au,iL ax fo aw,oL w 92 cF bf cE,oL w 4 dA pl dz]++r)):Calls aX 45 #[pV bZ 0,.agg #[U kd,U fr,U to,U sa,U sb]] w_ (cZ fun v w'=>∃(BO:OA) (BH:Nat) (EP:OA) (EJ:Nat),v=.bool (xb I fo bf (kd,fr,to,sa,sb))∧HI M w w' ([box bZ #[.slice aC aE aB,sL av I au,sL ax fo aw,.slice BO (qv I bf (kd,fr,to,sa,sb)).length BH,.slice EP (qw I bf pl (kd,fr,to,sa,sb)).length EJ] 57,iL av I au,iL ax fo aw,oL w 92 BO (qv I bf (kd,fr,to,sa,sb)) BH,oL w 4 EP (qw I bf pl (kd,fr,to,sa,sb)) EJ]++r)):=by
 refine enter 186 Tryz.func45 J J J fun f0 ha=>?_
 have iT:=bN<|H.rv 1 J
 have nn:=bN<|H.rv 2 J
 have QG:=oM<|H.at_ 3 J
 have Vc:=oM<|H.at_ 4 J
 have i0:f0 0=pV bZ 0:=ha 0 bH
 have i1:f0 1=.agg #[U kd,U fr,U to,U sa,U sb]:=ha 1 bH
 refine aH<|k<|bx H J i1 ?_
 let bC:=[box bZ #[.slice aC aE aB,sL av I au,sL ax fo aw,sL cF bf cE,sL dA pl dz] 57,iL av I au,iL ax fo aw,oL w 92 cF bf cE,oL w 4 dA pl dz]
 intro aK w0 dt (H0:HI M w w0 ((box aK #[U kd,U fr,U to,U sa,U sb] 92::bC)++r))
 refine aj (v:=.bool false) J J<|aG<|sq<|aH<|ak J i0<|bo rl J J<|bR H0 0 J aQ J J J<|bo oZ J J<|bR H0 0 J aQ J J J<|k<|bs (xs:=([fr,to]:az)) (cells:=#[U fr,U to]) (e:=3) H0 J (ct J<|ct J eo) (fun _=>bu) ⟨[U fr],[U to],J,⟨J,Dp⟩,⟨[U to],[],J,⟨J,Bj⟩,J⟩⟩ J aJ ?_
 let dk:=box aK #[U kd,U fr,U to,U sa,U sb] 92::bC
 intro g0 w1 cR (H1:HI M w w1 ((own w.heap.size 3 (.slice (some ⟨g0,0,none⟩) 2 2) ([fr,to]:az)::dk)++r))
 refine k ?_
 have H2:=H1.freeze 0 J
 have cx:=sJ (I:=I) (l:=([fr,to]:az)) (w:=w1) (M:=fun _=>False) (fun _ h_=>h_.elim) ((H2.rv 3 J).lift (Up.less fun _ _ h_=>h_.elim)) ((H2.rv 0 J).lift (Up.less fun _ _ h_=>h_.elim)) ⟨H2.at_ 2 rfl,fun h_=>h_⟩
 refine ca zP J (ec J<|ec J e0) cx ?_
 rintro _ w2 ⟨rfl,d_⟩
 have H4:=H1.ext d_
 refine k<|kc J J<|z<|nx<|cd (b:=!(!(([fr,to]:az).any (dV I)))) J J (fun b0=>?_)<|fun b0=>?_
 ·
  refine sq ?_
  have TV:(!([fr,to].any (dV I)))=false:=fE b0
  refine rg<|aj (v:=.bool false) J J<|aG<|rt<|aS<|r1 J J ?_
  have H5:=HI.ba (l:=(own w.heap.size 3 (.slice (some ⟨g0,0,none⟩) 2 2) ([fr,to]:az)::dk)) (l':=bC) (t:=r) H4 [2,3,4,5,6] aJ J J
  have e0:(false:Bool)=xb I fo bf (kd,fr,to,sa,sb):=by exact acH TV
  have e1:(bf:List _)=(qv I bf (kd,fr,to,sa,sb)):=by exact Y_ TV
  have e2:(pl:List _)=(qw I bf pl (kd,fr,to,sa,sb)):=by exact Y' TV
  try rw[←e0]
  try rw[←e1]
  try rw[←e2]
  refine⟨cF,cE,dA,dz,?_,?_⟩
  · first|rfl|simp only[e0,e1,e2]|(simp only[alP])
  · first|exact H5|simpa only[e0,e1,e2,alP] using H5
 refine sk<|nx<|sq ?_
 have Dl:(!([fr,to].any (dV I)))=true:=fF b0
 obtain⟨⟨akp,ako⟩,akn,akm⟩:=sx Dl
 refine rg<|aj (v:=.bool false) J J<|aj (v:=.bool true) J J<|z<|nx ?_
 let dv:=own w.heap.size 3 (.slice (some ⟨g0,0,none⟩) 2 2) ([fr,to]:az)::dk
 refine cut (fun f w'=>∃(gd:Bool) (pn:Bool),f 0=pV bZ 0∧f 3=pV aK 0∧f 5=.bool gd∧f 6=.bool pn∧HI M w w' (dv++r)∧(gd=fb I fo bf (kd,fr,to,sa,sb))∧(pn=plainO bf pl (kd,fr,to,sa,sb))) ?_ ?_
 ·
  refine aH<|bo Bt J J<|bR H4 1 J aQ J J J<|aG<|bk<|aH<|k<|eql J J J J<|aj (v:=.bool (decide (kd=1))) J J<|z<|nx<|cd (b:=decide (kd=1)) J J (fun b1=>?_)<|fun b1=>?_
  ·
   have p1:=dT b1
   refine yY J bu<|kq (fun _ _=>fa yS J J e1)<|kq (fun _ x_=>lx (H4.ext x_) 1 J aQ J J J e1)<|kq (fun _ _=>eql J J J J e1)<|kq (fun _ _=>mv (v:=.bool (decide (sa=(-1)))) J J e1) ?_
   rcases bE (decide (sa=(-1))) with b2|b2
   ·
    have p2:=dT b2
    refine qy J J J b2<|kq (fun _ _=>fa uj J J e1)<|qy J J J b2<|kq (fun _ x_=>lx (H4.ext x_) 1 J aQ J J J e1)<|qy J J J b2<|kq (fun _ _=>eql J J J J e1)<|kq (fun _ _=>ba J J J J b2 J e1)<|kq (fun _ _=>mv (v:=.bool (decide (sb=(-1)))) J J e1) ?_
    rcases bE (decide (sb=(-1))) with b3|b3
    ·
     have p3:=dT b3
     refine qy J J J b3<|kq (fun _ _=>mv J i0 e1)<|qy J J J b3<|kq (fun _ _=>nc J J e1)<|qy J J J b3<|kq (fun _ _=>fa mL J J e1)<|qy J J J b3<|kq (fun _ x_=>cg (H4.ext x_) 2 J dn J J aJ J e1)<|qy J J J b3<|kq (fun _ _=>fa rl J J e1)<|qy J J J b3<|kq (fun _ x_=>lx (H4.ext x_) 1 J aQ J J J e1)<|qy J J J b3<|kq (fun _ _=>fa oZ J J e1)<|qy J J J b3<|kq (fun _ x_=>lx (H4.ext x_) 1 J aQ J J J e1)<|qy J J J b3<|kq (v:=.bool (ux I fr to)) (fun v_ x_=>?_) ?_
     ·
      have cc:=Hn (I:=I) (i:=fr) (j:=to) (aC:=aC) (aE:=aE) (aB:=aB) (ax:=ax) (cH:=fo.length) (aw:=aw) (w:=v_) (H4.ext x_).mb ((H4.ext x_).rv 3 rfl) Dp Bj
      exact ca af1 J (ec J<|ec J<|ec J e0) cc fun _ _ h_=>e2 h_
     refine kq (fun _ _=>ba J J J J b3 J e1)<|kq (fun _ _=>gH (v:=.bool (ux I fr to)) J J e1)<|zq ?_
     intro w4 eG
     have H5:=H4.ext eG
     refine aF<|mh ⟨(ux I fr to),true,i0,J,J,J,H5,(by exact g1c ‹_› ‹_› ‹_›),(by first|exact YN ‹_›)⟩
    have p3:=dF b3
    refine qn J J J b3<|qn J J J b3<|qn J J J b3<|qn J J J b3<|qn J J J b3<|qn J J J b3<|qn J J J b3<|qn J J J b3<|qn J J J b3<|kq (fun _ _=>bc J J J J b3 J e1)<|kq (fun _ _=>gH (v:=.bool false) J J e1)<|zq ?_
    intro w4 eG
    have H5:=H4.ext eG
    refine aF<|mh ⟨false,true,i0,J,J,J,H5,(by exact g1b ‹_› ‹_› ‹_›),(by first|exact YN ‹_›)⟩
   have p2:=dF b2
   refine qn J J J b2<|qn J J J b2<|qn J J J b2<|kq (fun _ _=>bc J J J J b2 J e1)<|kq (fun _ _=>mv (v:=.bool false) J J e1)<|qn J J J J<|qn J J J J<|qn J J J J<|qn J J J J<|qn J J J J<|qn J J J J<|qn J J J J<|qn J J J J<|qn J J J J<|kq (fun _ _=>bc J J J J J J e1)<|kq (fun _ _=>gH (v:=.bool false) J J e1)<|zq ?_
   intro w4 eG
   have H5:=H4.ext eG
   refine aF<|mh ⟨false,true,i0,J,J,J,H5,(by exact g1a ‹_› ‹_›),(by first|exact YN ‹_›)⟩
  have p1:=dF b1
  refine aH<|k<|eql J J J J<|aj (v:=.bool (decide (kd=2))) J J<|z<|nx<|cd (b:=decide (kd=2)) J J (fun b2=>?_)<|fun b2=>?_
  ·
   have p2:=dT b2
   refine yY J bu<|kq (fun _ _=>fa yS J J e1)<|kq (fun _ x_=>lx (H4.ext x_) 1 J aQ J J J e1)<|kq (fun _ _=>eql J J J J e1)<|kq (fun _ _=>mv (v:=.bool (decide (sa=(-1)))) J J e1) ?_
   rcases bE (decide (sa=(-1))) with b3|b3
   ·
    have p3:=dT b3
    refine qy J J J b3<|kq (fun _ _=>fa uj J J e1)<|qy J J J b3<|kq (fun _ x_=>lx (H4.ext x_) 1 J aQ J J J e1)<|qy J J J b3<|kq (fun _ _=>eql J J J J e1)<|kq (fun _ _=>ba J J J J b3 J e1)<|kq (fun _ _=>mv (v:=.bool (decide (sb=(-1)))) J J e1) ?_
    rcases bE (decide (sb=(-1))) with b4|b4
    ·
     have p4:=dT b4
     refine qy J J J b4<|kq (fun _ _=>mv J i0 e1)<|qy J J J b4<|kq (fun _ _=>nc J J e1)<|qy J J J b4<|kq (fun _ _=>fa mL J J e1)<|qy J J J b4<|kq (fun _ _=>fa kD J J e1)<|qy J J J b4<|kq (fun _ x_=>lx (H4.ext x_) 2 J lA J J J e1)<|qy J J J b4<|kq (fun _ _=>fa oZ J J e1)<|qy J J J b4<|kq (fun _ x_=>lx (H4.ext x_) 1 J aQ J J J e1)<|qy J J J b4<|hG (H4.rv 4 J) J J J J ai cY aQ ?_
     intro fz x0 aq cN
     refine qy J J J b4<|fV cN.w aQ J J ?_
     intro cL
     refine qy J J J b4<|kq (fun _ _=>fa rl J J e1)<|qy J J J b4<|kq (fun _ x_=>lx (H4.ext x_) 1 J aQ J J J e1)<|qy J J J b4<|kq (fun _ _=>eql J J J J e1)<|kq (fun _ _=>ba J J J J b4 J e1)<|kq (fun _ _=>gH (v:=.bool (decide (x0=fr))) J J e1)<|zq ?_
     intro w4 eG
     have H5:=H4.ext eG
     refine aF<|mh ⟨(decide (x0=fr)),true,i0,J,J,J,H5,(by exact g2c ‹_› ‹_› ‹_› ‹_›),(by first|exact YM ‹_›)⟩
    have p4:=dF b4
    refine qn J J J b4<|qn J J J b4<|qn J J J b4<|qn J J J b4<|qn J J J b4<|qn J J J b4<|qn J J J b4<|qn J J J b4<|qn J J J b4<|qn J J J b4<|qn J J J b4<|qn J J J b4<|kq (fun _ _=>bc J J J J b4 J e1)<|kq (fun _ _=>gH (v:=.bool false) J J e1)<|zq ?_
    intro w4 eG
    have H5:=H4.ext eG
    refine aF<|mh ⟨false,true,i0,J,J,J,H5,(by exact g2b ‹_› ‹_› ‹_›),(by first|exact YM ‹_›)⟩
   have p3:=dF b3
   refine qn J J J b3<|qn J J J b3<|qn J J J b3<|kq (fun _ _=>bc J J J J b3 J e1)<|kq (fun _ _=>mv (v:=.bool false) J J e1)<|qn J J J J<|qn J J J J<|qn J J J J<|qn J J J J<|qn J J J J<|qn J J J J<|qn J J J J<|qn J J J J<|qn J J J J<|qn J J J J<|qn J J J J<|qn J J J J<|kq (fun _ _=>bc J J J J J J e1)<|kq (fun _ _=>gH (v:=.bool false) J J e1)<|zq ?_
   intro w4 eG
   have H5:=H4.ext eG
   refine aF<|mh ⟨false,true,i0,J,J,J,H5,(by exact g2a ‹_› ‹_›),(by first|exact YM ‹_›)⟩
  have p2:=dF b2
  refine aH<|k<|eql J J J J<|aj (v:=.bool (decide (kd=3))) J J<|z<|nx<|cd (b:=decide (kd=3)) J J (fun b3=>?_)<|fun b3=>?_
  ·
   have p3:=dT b3
   refine aH<|ak J i0<|bo yS J J<|bR H4 1 J aQ J J J<|k ?_
   have H5:=H4.freeze 5 J
   have eF:=DE (bf:=bf) (i:=sa) (w:=w2) (M:=fun _=>False) (fun _ h_=>h_.elim) ((H5.rv 5 J).lift (Up.less fun _ _ h_=>h_.elim)) JL ⟨H5.at_ 2 rfl,fun h_=>h_⟩
   refine ca T_ J (ec J<|ec J e0) eF ?_
   rintro _ w4 ⟨rfl,eG⟩
   have H7:=H4.ext eG
   refine ak (v:=.tuple #[.agg #[U ((bI bf sa).elim 0 (·.1)),U ((bI bf sa).elim 0 (·.2.1)),U ((bI bf sa).elim 0 (·.2.2.1)),U ((bI bf sa).elim 0 (·.2.2.2.1)),U ((bI bf sa).elim 0 (·.2.2.2.2))],.bool ((bI bf sa).isSome)]) J J<|k<|xt J J J<|k<|xt J J J<|k<|al H7 iQ ?_
   intro aW w5 eI (H8:HI M w w5 ((box aW #[U 0,U 0,U 0,U 0,U 0] 92::dv)++r))
   refine k<|cz H8 0 J iQ J J J J J J J ?_
   let dD:=box aW #[U ((bI bf sa).elim 0 (·.1)),U ((bI bf sa).elim 0 (·.2.1)),U ((bI bf sa).elim 0 (·.2.2.1)),U ((bI bf sa).elim 0 (·.2.2.2.1)),U ((bI bf sa).elim 0 (·.2.2.2.2))] 92::dv
   intro w6 (H9:HI M w w6 (dD++r))
   refine aj (v:=.bool ((bI bf sa).isSome)) J J<|cU<|ak J i0<|bo uj J J<|bR H9 2 J aQ J J J<|k ?_
   have db:=H9.freeze 6 J
   have gS:=DE (bf:=bf) (i:=sb) (w:=w6) (M:=fun _=>False) (fun _ h_=>h_.elim) ((db.rv 6 J).lift (Up.less fun _ _ h_=>h_.elim)) Dn ⟨db.at_ 3 rfl,fun h_=>h_⟩
   refine ca T_ J (ec J<|ec J e0) gS ?_
   rintro _ w7 ⟨rfl,ly⟩
   have eB:=H9.ext ly
   refine ak (v:=.tuple #[.agg #[U ((bI bf sb).elim 0 (·.1)),U ((bI bf sb).elim 0 (·.2.1)),U ((bI bf sb).elim 0 (·.2.2.1)),U ((bI bf sb).elim 0 (·.2.2.2.1)),U ((bI bf sb).elim 0 (·.2.2.2.2))],.bool ((bI bf sb).isSome)]) J J<|k<|xt J J J<|k<|xt J J J<|k<|al eB iQ ?_
   intro bj w8 iJ (dZ:HI M w w8 ((box bj #[U 0,U 0,U 0,U 0,U 0] 92::dD)++r))
   refine k<|cz dZ 0 J iQ J J J J J J J ?_
   let jO:=box bj #[U ((bI bf sb).elim 0 (·.1)),U ((bI bf sb).elim 0 (·.2.1)),U ((bI bf sb).elim 0 (·.2.2.1)),U ((bI bf sb).elim 0 (·.2.2.2.1)),U ((bI bf sb).elim 0 (·.2.2.2.2))] 92::dD
   intro w9 (cM:HI M w w9 (jO++r))
   refine aj (v:=.bool ((bI bf sb).isSome)) J J<|cU<|ak (v:=.bool ((bI bf sa).isSome)) J J<|ak (v:=.bool ((bI bf sa).isSome)) J J ?_
   rcases bE ((bI bf sa).isSome) with b4|b4
   ·
    refine aM J J J b4<|mv (v:=.bool ((bI bf sb).isSome)) J J<|k<|ba J J J J b4 J<|ak (v:=.bool ((bI bf sb).isSome)) J J ?_
    rcases bE ((bI bf sb).isSome) with b5|b5
    ·
     refine aM J J J b5<|fa rl J J<|aM J J J b5<|lx cM 1 J aQ J J J<|aM J J J b5<|fa rl J J<|aM J J J b5<|lx cM 3 J aQ J J J<|aM J J J b5<|eql J J J J<|k<|ba J J J J b5 J<|ak (v:=.bool (decide (((bI bf sa).elim 0 (·.2.1))=fr))) J J ?_
     rcases bE (decide (((bI bf sa).elim 0 (·.2.1))=fr)) with b6|b6
     ·
      have p6:=dT b6
      refine aM J J J b6<|fa oZ J J<|aM J J J b6<|lx cM 1 J aQ J J J<|aM J J J b6<|fa rl J J<|aM J J J b6<|lx cM 0 J aQ J J J<|aM J J J b6<|eql J J J J<|k<|ba J J J J b6 J<|ak (v:=.bool (decide (((bI bf sa).elim 0 (·.2.2.1))=((bI bf sb).elim 0 (·.2.1))))) J J ?_
      rcases bE (decide (((bI bf sa).elim 0 (·.2.2.1))=((bI bf sb).elim 0 (·.2.1)))) with b7|b7
      ·
       have p7:=dT b7
       refine aM J J J b7<|fa oZ J J<|aM J J J b7<|lx cM 0 J aQ J J J<|aM J J J b7<|fa oZ J J<|aM J J J b7<|lx cM 3 J aQ J J J<|aM J J J b7<|eql J J J J<|k<|ba J J J J b7 J<|aj (v:=.bool (decide (((bI bf sb).elim 0 (·.2.2.1))=to))) J J<|cU<|ak (v:=.bool (decide (((bI bf sb).elim 0 (·.2.2.1))=to))) J J<|z<|nx<|cd (b:=decide (((bI bf sb).elim 0 (·.2.2.1))=to)) J J (fun b8=>?_)<|fun b8=>?_
       ·
        have p8:=dT b8
        have akv:=vw (pre:=bf) (sa:=sa) cG
        have aku:=vw (pre:=bf) (sa:=sb) cG
        refine yY J bu<|kq (fun _ _=>mv J i0 e1)<|kq (fun _ _=>nc J J e1)<|kq (fun _ _=>fa yV J J e1)<|kq (fun _ x_=>lx (cM.ext x_) 4 J EW J J J e1)<|kq (fun _ _=>fa yS J J e1)<|kq (fun _ x_=>lx (cM.ext x_) 3 J aQ J J J e1)<|su (cM.at_ 8 J) J J J J ai xF mC ?_
        intro fz x0 aq cN
        refine tL cN mC J J<|kq (fun _ _=>mv (v:=.bool x0) J J e1) ?_
        rcases bE (x0) with b9|b9
        ·
         refine qy J J J b9<|kq (fun _ _=>mv J i0 e1)<|qy J J J b9<|kq (fun _ _=>nc J J e1)<|qy J J J b9<|kq (fun _ _=>fa yV J J e1)<|qy J J J b9<|kq (fun _ x_=>lx (cM.ext x_) 4 J EW J J J e1)<|qy J J J b9<|kq (fun _ _=>fa uj J J e1)<|qy J J J b9<|kq (fun _ x_=>lx (cM.ext x_) 3 J aQ J J J e1)<|qy J J J b9<|su (cM.at_ 8 J) J J J J (by (first|(have h_:=yi (I:=I) (sb:=sb) cG;omega)|(have h_:=vw (pre:=bf) (sa:=sb) cG;omega))) xF mC ?_
         intro iG x1 cw eU
         refine qy J J J b9<|tL eU mC J J<|kq (fun _ _=>ba J J J J b9 J e1)<|kq (fun _ _=>gH (v:=.bool x1) J J e1)<|zq ?_
         intro jb je
         have fR:=cM.ext je
         refine aF ?_
         have eY:HI M w jb (dv++r):=HI.ba (l:=jO) (l':=dv) (t:=r) fR [2,3,4,5,6,7,8] aJ J J
         refine mh ⟨(decide (((bI bf sb).elim 0 (·.2.2.1))=to)),x1,i0,J,J,J,eY,(by exact g3e ‹_› ‹_› ‹_› ‹_› ‹_›),(by exact p3g ‹_› ‹_› ‹_› ‹_› ‹_› ‹_› ‹_› ‹_› ‹_›)⟩
        refine qn J J J b9<|qn J J J b9<|qn J J J b9<|qn J J J b9<|qn J J J b9<|qn J J J b9<|qn J J J b9<|qn J J J b9<|kq (fun _ _=>bc J J J J b9 J e1)<|kq (fun _ _=>gH (v:=.bool false) J J e1)<|zq ?_
        intro jb je
        have fR:=cM.ext je
        refine aF ?_
        have eY:HI M w jb (dv++r):=HI.ba (l:=jO) (l':=dv) (t:=r) fR [2,3,4,5,6,7,8] aJ J J
        refine mh ⟨(decide (((bI bf sb).elim 0 (·.2.2.1))=to)),false,i0,J,J,J,eY,(by exact g3e ‹_› ‹_› ‹_› ‹_› ‹_›),(by exact p3f ‹_› ‹_› ‹_› ‹_› ‹_› ‹_› ‹_› ‹_›)⟩
       have p8:=dF b8
       refine sk<|aF ?_
       have fR:HI M w w9 (dv++r):=HI.ba (l:=jO) (l':=dv) (t:=r) cM [2,3,4,5,6,7,8] aJ J J
       refine mh ⟨(decide (((bI bf sb).elim 0 (·.2.2.1))=to)),true,i0,J,J,J,fR,(by exact g3e ‹_› ‹_› ‹_› ‹_› ‹_›),(by exact p3e ‹_› ‹_› ‹_› ‹_› ‹_› ‹_›)⟩
      have p7:=dF b7
      refine aD J J J b7<|aD J J J b7<|aD J J J b7<|aD J J J b7<|aD J J J b7<|k<|bc J J J J b7 J<|aj (v:=.bool false) J J<|cU<|ak (v:=.bool false) J J<|aG<|l7 J J J<|sk<|aF ?_
      have fR:HI M w w9 (dv++r):=HI.ba (l:=jO) (l':=dv) (t:=r) cM [2,3,4,5,6,7,8] aJ J J
      refine mh ⟨false,true,i0,J,J,J,fR,(by exact g3d ‹_› ‹_› ‹_› ‹_› ‹_›),(by exact p3d ‹_› ‹_› ‹_› ‹_› ‹_›)⟩
     have p6:=dF b6
     refine aD J J J b6<|aD J J J b6<|aD J J J b6<|aD J J J b6<|aD J J J b6<|k<|bc J J J J b6 J<|ak (v:=.bool false) J J<|aD J J J J<|aD J J J J<|aD J J J J<|aD J J J J<|aD J J J J<|k<|bc J J J J J J<|aj (v:=.bool false) J J<|cU<|ak (v:=.bool false) J J<|aG<|l7 J J J<|sk<|aF ?_
     have fR:HI M w w9 (dv++r):=HI.ba (l:=jO) (l':=dv) (t:=r) cM [2,3,4,5,6,7,8] aJ J J
     refine mh ⟨false,true,i0,J,J,J,fR,(by exact g3c ‹_› ‹_› ‹_› ‹_›),(by exact p3c ‹_› ‹_› ‹_› ‹_›)⟩
    refine aD J J J b5<|aD J J J b5<|aD J J J b5<|aD J J J b5<|aD J J J b5<|k<|bc J J J J b5 J<|ak (v:=.bool false) J J<|aD J J J J<|aD J J J J<|aD J J J J<|aD J J J J<|aD J J J J<|k<|bc J J J J J J<|ak (v:=.bool false) J J<|aD J J J J<|aD J J J J<|aD J J J J<|aD J J J J<|aD J J J J<|k<|bc J J J J J J<|aj (v:=.bool false) J J<|cU<|ak (v:=.bool false) J J<|aG<|l7 J J J<|sk<|aF ?_
    have fR:HI M w w9 (dv++r):=HI.ba (l:=jO) (l':=dv) (t:=r) cM [2,3,4,5,6,7,8] aJ J J
    refine mh ⟨false,true,i0,J,J,J,fR,(by exact g3b ‹_› ‹_›),(by exact p3b ‹_› ‹_›)⟩
   refine aD J J J b4<|k<|bc J J J J b4 J<|ak (v:=.bool false) J J<|aD J J J J<|aD J J J J<|aD J J J J<|aD J J J J<|aD J J J J<|k<|bc J J J J J J<|ak (v:=.bool false) J J<|aD J J J J<|aD J J J J<|aD J J J J<|aD J J J J<|aD J J J J<|k<|bc J J J J J J<|ak (v:=.bool false) J J<|aD J J J J<|aD J J J J<|aD J J J J<|aD J J J J<|aD J J J J<|k<|bc J J J J J J<|aj (v:=.bool false) J J<|cU<|ak (v:=.bool false) J J<|aG<|l7 J J J<|sk<|aF ?_
   have fR:HI M w w9 (dv++r):=HI.ba (l:=jO) (l':=dv) (t:=r) cM [2,3,4,5,6,7,8] aJ J J
   refine mh ⟨false,true,i0,J,J,J,fR,(by exact g3a ‹_› ‹_›),(by exact p3a ‹_› ‹_›)⟩
  have p3:=dF b3
  refine aH<|k<|eql J J J J<|aj (v:=.bool (decide (kd=4))) J J<|z<|nx<|cd (b:=decide (kd=4)) J J (fun b4=>?_)<|fun b4=>?_
  ·
   have p4:=dT b4
   refine sq<|BB J bu<|xq J<|kq (fun _ _=>mv J i0 e1)<|zq<|xq J<|kq (fun _ _=>fa uj J J e1)<|zq<|xq J<|kq (fun _ x_=>lx (H4.ext x_) 1 J aQ J J J e1)<|zq<|xu (fun v w'=>∃(a0:OA) (c0:Nat),v=sL a0 ([sb]:az) c0∧RV (MS M<|[own w.heap.size 3 (.slice (some ⟨g0,0,none⟩) 2 2) ([fr,to]:az),box aK #[U kd,U fr,U to,U sa,U sb] 92,box bZ #[.slice aC aE aB,sL av I au,sL ax fo aw,sL cF bf cE,sL dA pl dz] 57,iL av I au,iL ax fo aw,oL w 92 cF bf cE,oL w 4 dA pl dz]++r) w' (sL a0 ([sb]:az) c0) ([sb]:az)) J (by rintro _ _ _ x_ ⟨a0,c0,e_,cL⟩;exact⟨a0,c0,e_,cL.lift (Up.ext x_)⟩) J (fun v_ x_=>?_) ?_
   ·
    have H7:=H4.ext x_
    refine bs (xs:=([sb]:az)) (cells:=#[U sb]) (e:=3) H7 J (ct J eo) (fun _=>bu) ⟨[U sb],[],J,⟨J,Dn⟩,J⟩ J aJ ?_
    intro g2 w5 eI (H8:HI M w w5 ((own w.heap.size 3 (.slice (some ⟨g2,0,none⟩) 1 1) ([sb]:az)::dv)++r))
    have H9:=H8.freeze 0 J
    exact⟨_,J,eI,⟨(some ⟨g2,0,none⟩),1,J,(gY J<|H9.rv 0 J)⟩⟩
   refine F9 (X:=.bool (!(([sb]:az).any (dV I)))) 0 J J (fun v_ u_ x_ h_=>?_) ?_
   ·
    have da:=H4.ext x_
    obtain⟨a2,c2,s0,gh⟩:=h_
    have eB:=cj da gh
    have cc:=sJ (I:=I) (l:=([sb]:az)) (w:=v_) (M:=fun _=>False) (fun _ h_=>h_.elim) ((eB.rv 4 J).lift (Up.less fun _ _ h_=>h_.elim)) ((eB.rv 0 J).lift (Up.less fun _ _ h_=>h_.elim)) ⟨eB.at_ 3 rfl,fun h_=>h_⟩
    exact ca zP J (ec J<|ec s0 e0) cc fun _ _ h_=>e2 h_
   refine xq J<|kq (fun _ _=>mv (v:=.bool (!(([sb]:az).any (dV I)))) J J e1)<|zq ?_
   rcases bE (!(([sb]:az).any (dV I))) with b5|b5
   ·
    refine xq J<|qy J J J b5<|kq (fun _ _=>mv J i0 e1)<|zq<|xq J<|qy J J J b5<|kq (fun _ _=>nc J J e1)<|zq<|xq J<|qy J J J b5<|kq (fun _ _=>fa mL J J e1)<|zq<|xq J<|qy J J J b5<|kq (fun _ _=>fa kD J J e1)<|zq<|xq J<|qy J J J b5<|kq (fun _ x_=>lx (H4.ext x_) 2 J lA J J J e1)<|zq<|xq J<|qy J J J b5<|kq (fun _ _=>fa uj J J e1)<|zq<|xq J<|qy J J J b5<|kq (fun _ x_=>lx (H4.ext x_) 1 J aQ J J J e1)<|zq<|xq J<|qy J J J b5<|hG (H4.rv 4 J) J J J J (by (first|(have h_:=yi (I:=I) (sb:=sb) cG;omega)|(have h_:=vw (pre:=bf) (sa:=sb) cG;omega))) cY aQ ?_
    intro fz x0 aq cN
    refine zq<|xq J<|qy J J J b5<|fV cN.w aQ J J ?_
    intro fQ
    refine zq<|xq J<|qy J J J b5<|kq (fun _ _=>fa oZ J J e1)<|zq<|xq J<|qy J J J b5<|kq (fun _ x_=>lx (H4.ext x_) 1 J aQ J J J e1)<|zq<|xq J<|qy J J J b5<|kq (fun _ _=>eql J J J J e1)<|zq<|xq J<|kq (fun _ _=>ba J J J J b5 J e1)<|zq<|xq J<|kq (fun _ _=>mv (v:=.bool (decide (x0=to))) J J e1)<|zq ?_
    rcases bE (decide (x0=to)) with b6|b6
    ·
     have p6:=dT b6
     refine xq J<|qy J J J b6<|kq (fun _ _=>mv J i0 e1)<|zq<|xq J<|qy J J J b6<|kq (fun _ _=>fa rl J J e1)<|zq<|xq J<|qy J J J b6<|kq (fun _ x_=>lx (H4.ext x_) 1 J aQ J J J e1)<|zq<|xq J<|qy J J J b6<|kq (fun _ _=>fa oZ J J e1)<|zq<|xq J<|qy J J J b6<|kq (fun _ x_=>lx (H4.ext x_) 1 J aQ J J J e1)<|zq<|xq J<|qy J J J b6<|kq (v:=.bool (dE I fr to)) (fun v_ x_=>?_) ?_
     ·
      have cc:=He (I:=I) (n1:=fr) (n2:=to) (w:=v_) (M:=fun _=>False) (fun _ h_=>h_.elim) (((H4.ext x_).rv 3 rfl).lift (Up.less fun _ _ h_=>h_.elim)) Dp Bj ⟨(H4.ext x_).at_ 2 rfl,fun h_=>h_⟩ ai ai
      exact ca aaT J (ec J<|ec J<|ec J e0) cc fun _ _ h_=>e2 h_
     refine zq<|xq J<|kq (fun _ _=>ba J J J J b6 J e1)<|zq<|xq J<|kq (fun _ _=>mv (v:=.bool (dE I fr to)) J J e1)<|zq ?_
     rcases bE (dE I fr to) with b7|b7
     ·
      refine xq J<|qy J J J b7<|kq (fun _ _=>mv J i0 e1)<|zq<|xq J<|qy J J J b7<|kq (fun _ _=>fa yS J J e1)<|zq<|xq J<|qy J J J b7<|kq (fun _ x_=>lx (H4.ext x_) 1 J aQ J J J e1)<|zq<|xq J<|qy J J J b7<|kq (fun _ _=>fa rl J J e1)<|zq<|xq J<|qy J J J b7<|kq (fun _ x_=>lx (H4.ext x_) 1 J aQ J J J e1)<|zq<|xq J<|qy J J J b7<|kq (fun _ _=>fa uj J J e1)<|zq<|xq J<|qy J J J b7<|kq (fun _ x_=>lx (H4.ext x_) 1 J aQ J J J e1)<|zq<|xq J<|qy J J J b7<|kq (v:=.bool (fP bf sa fr sb)) (fun v_ x_=>?_) ?_
      ·
       have cM:=(H4.ext x_).freeze 5 rfl
       have cc:=qi (bf:=bf) (n1:=sa) (n2:=fr) (n3:=sb) (w:=v_) (M:=fun _=>False) (fun _ h_=>h_.elim) ((cM.rv 5 J).lift (Up.less fun _ _ h_=>h_.elim)) JL Dp Dn ⟨cM.at_ 2 rfl,fun h_=>h_⟩
       exact ca Bq J (ec J<|ec J<|ec J<|ec J e0) cc fun _ _ h_=>e2 h_
      refine zq<|xq J<|kq (fun _ _=>ba J J J J b7 J e1)<|zq<|xq J<|kq (fun _ _=>gH (v:=.bool (fP bf sa fr sb)) J J e1)<|zq<|zx ?_
      intro w7 f1 iJ cI ji
      have eY:=H4.ext iJ
      have s1:=(cI 0 J).trans i0
      have s2:=cI 3 J
      have s3:=cI 5 J
      refine nx<|rg<|aj (v:=.bool false) J J<|z<|aF<|mh ⟨(fP bf sa fr sb),false,s1,s2,s3,J,eY,(by exact g4d ‹_› ‹_› ‹_› ‹_› ‹_›),(by first|exact U1 ‹_›)⟩
     refine xq J<|qn J J J b7<|zq<|xq J<|qn J J J b7<|zq<|xq J<|qn J J J b7<|zq<|xq J<|qn J J J b7<|zq<|xq J<|qn J J J b7<|zq<|xq J<|qn J J J b7<|zq<|xq J<|qn J J J b7<|zq<|xq J<|qn J J J b7<|zq<|xq J<|kq (fun _ _=>bc J J J J b7 J e1)<|zq<|xq J<|kq (fun _ _=>gH (v:=.bool false) J J e1)<|zq<|zx ?_
     intro w7 f1 iJ cI ji
     have cM:=H4.ext iJ
     have s1:=(cI 0 J).trans i0
     have s2:=cI 3 J
     have s3:=cI 5 J
     refine nx<|rg<|aj (v:=.bool false) J J<|z<|aF<|mh ⟨false,false,s1,s2,s3,J,cM,(by exact g4c ‹_› ‹_› ‹_› ‹_› ‹_›),(by first|exact U1 ‹_›)⟩
    have p6:=dF b6
    refine xq J<|qn J J J b6<|zq<|xq J<|qn J J J b6<|zq<|xq J<|qn J J J b6<|zq<|xq J<|qn J J J b6<|zq<|xq J<|qn J J J b6<|zq<|xq J<|qn J J J b6<|zq<|xq J<|kq (fun _ _=>bc J J J J b6 J e1)<|zq<|xq J<|kq (fun _ _=>mv (v:=.bool false) J J e1)<|zq<|xq J<|qn J J J J<|zq<|xq J<|qn J J J J<|zq<|xq J<|qn J J J J<|zq<|xq J<|qn J J J J<|zq<|xq J<|qn J J J J<|zq<|xq J<|qn J J J J<|zq<|xq J<|qn J J J J<|zq<|xq J<|qn J J J J<|zq<|xq J<|kq (fun _ _=>bc J J J J J J e1)<|zq<|xq J<|kq (fun _ _=>gH (v:=.bool false) J J e1)<|zq<|zx ?_
    intro w7 f1 iJ cI ji
    have cM:=H4.ext iJ
    have s1:=(cI 0 J).trans i0
    have s2:=cI 3 J
    have s3:=cI 5 J
    refine nx<|rg<|aj (v:=.bool false) J J<|z<|aF<|mh ⟨false,false,s1,s2,s3,J,cM,(by exact g4b ‹_› ‹_› ‹_› ‹_›),(by first|exact U1 ‹_›)⟩
   refine xq J<|qn J J J b5<|zq<|xq J<|qn J J J b5<|zq<|xq J<|qn J J J b5<|zq<|xq J<|qn J J J b5<|zq<|xq J<|qn J J J b5<|zq<|xq J<|qn J J J b5<|zq<|xq J<|qn J J J b5<|zq<|xq J<|qn J J J b5<|zq<|xq J<|qn J J J b5<|zq<|xq J<|qn J J J b5<|zq<|xq J<|qn J J J b5<|zq<|xq J<|qn J J J b5<|zq<|xq J<|kq (fun _ _=>bc J J J J b5 J e1)<|zq<|xq J<|kq (fun _ _=>mv (v:=.bool false) J J e1)<|zq<|xq J<|qn J J J J<|zq<|xq J<|qn J J J J<|zq<|xq J<|qn J J J J<|zq<|xq J<|qn J J J J<|zq<|xq J<|qn J J J J<|zq<|xq J<|qn J J J J<|zq<|xq J<|kq (fun _ _=>bc J J J J J J e1)<|zq<|xq J<|kq (fun _ _=>mv (v:=.bool false) J J e1)<|zq<|xq J<|qn J J J J<|zq<|xq J<|qn J J J J<|zq<|xq J<|qn J J J J<|zq<|xq J<|qn J J J J<|zq<|xq J<|qn J J J J<|zq<|xq J<|qn J J J J<|zq<|xq J<|qn J J J J<|zq<|xq J<|qn J J J J<|zq<|xq J<|kq (fun _ _=>bc J J J J J J e1)<|zq<|xq J<|kq (fun _ _=>gH (v:=.bool false) J J e1)<|zq<|zx ?_
   intro w7 f1 iJ cI ji
   have cM:=H4.ext iJ
   have s1:=(cI 0 J).trans i0
   have s2:=cI 3 J
   have s3:=cI 5 J
   refine nx<|rg<|aj (v:=.bool false) J J<|z<|aF<|mh ⟨false,false,s1,s2,s3,J,cM,(by exact g4a ‹_› ‹_›),(by first|exact U1 ‹_›)⟩
  have p4:=dF b4
  refine sk<|aF<|mh ⟨false,true,i0,J,J,J,H4,(by first|exact adB ‹_› ‹_› ‹_› ‹_›),(by first|exact YL ‹_› ‹_›)⟩
 ·
  rintro f0 w3 ⟨gd,pn,s0,s1,s2,s3,H6,afB,afn⟩
  refine sq ?_
  have dZ:HI M w w3 (dv++r):=H6
  let pJ:=[own w.heap.size 3 (.slice (some ⟨g0,0,none⟩) 2 2) ([fr,to]:az),box aK #[U kd,U fr,U to,U sa,U sb] 92,iL av I au,iL ax fo aw,oL w 92 cF bf cE,oL w 4 dA pl dz,box bZ #[.slice aC aE aB,sL av I au,sL ax fo aw,sL cF bf cE,sL dA pl dz] 57]
  have cM:HI M w w3 (pJ++r):=HI.ba (l:=dv) (l':=pJ) (t:=r) dZ [0,1,3,4,5,6,2] aJ J J
  refine V1 [none,none,none,none,none,none,none,none,none,none,none,none,none,none,none,none,none,none,some 21,none,none,none,some 8,some 15,some 18,none] [0,0,0,4,12,28,0,64,252,0,512,1536,3584,0,8192,32764,65533,131069,262141,524287,1048575,2097151] [fun v_=>[],fun v_=>[],fun v_=>[],fun v_=>[],fun v_=>[],fun v_=>[],fun v_=>[],fun v_=>[own w.heap.size 92 (.slice (some ⟨((vA<|v_ 7).elim 0 (·.block)),0,none⟩) 1 1) ([(kd,fr,to,sa,sb)]:List aA)],fun v_=>[oL w 92 (vA<|v_ 8) (bf++([(kd,fr,to,sa,sb)]:List aA)) (vC<|v_ 8)],fun v_=>[],fun v_=>[],fun v_=>[],fun v_=>[],fun v_=>[],fun v_=>[own w.heap.size 4 (.slice (some ⟨((vA<|v_ 14).elim 0 (·.block)),0,none⟩) 1 1) ([pn]:List Bool)],fun v_=>[oL w 4 (vA<|v_ 15) (pl++([pn]:List Bool)) (vC<|v_ 15)],fun v_=>[],fun v_=>[],fun v_=>[box bZ #[.slice aC aE aB,sL av I au,sL ax fo aw,sL (vA<|v_ 8) (bf++([(kd,fr,to,sa,sb)]:List aA)) (vC<|v_ 8),sL dA pl dz] 57],fun v_=>[],fun v_=>[],fun v_=>[box bZ #[.slice aC aE aB,sL av I au,sL ax fo aw,sL (vA<|v_ 8) (bf++([(kd,fr,to,sa,sb)]:List aA)) (vC<|v_ 8),sL (vA<|v_ 15) (pl++([pn]:List Bool)) (vC<|v_ 15)] 57],fun v_=>[oL w 92 cF bf cE],fun v_=>[oL w 4 dA pl dz],fun v_=>[box bZ #[.slice aC aE aB,sL av I au,sL ax fo aw,sL cF bf cE,sL dA pl dz] 57],fun _=>r] [[],[],[],[],[],[24],[],[],[7,22],[],[],[],[24],[],[],[14,23],[],[],[24],[],[],[18]] [fun v_=>v_=pV bZ 0,fun v_=>v_=pV bZ 0,fun v_=>v_=pV bZ 0,fun v_=>v_=pV bZ 0,fun v_=>v_=pV bZ 3,fun v_=>v_=sL cF bf cE,fun v_=>v_=.agg #[U kd,U fr,U to,U sa,U sb],fun v_=>∃(g1:Nat),v_=.slice (some ⟨g1,0,none⟩) 1 1,fun v_=>∃(a0:Option Addr) (c0:Nat),v_=sL a0 (bf++([(kd,fr,to,sa,sb)]:List aA)) c0,fun v_=>v_=pV bZ 0,fun v_=>v_=pV bZ 0,fun v_=>v_=pV bZ 4,fun v_=>v_=sL dA pl dz,fun v_=>v_=.bool pn,fun v_=>∃(g2:Nat),v_=.slice (some ⟨g2,0,none⟩) 1 1,fun v_=>∃(a1:Option Addr) (c1:Nat),v_=sL a1 (pl++([pn]:List Bool)) c1,fun v_=>v_=pV bZ 0,fun v_=>v_=pV bZ 3,fun _=>True,fun v_=>v_=pV bZ 0,fun v_=>v_=pV bZ 4,fun _=>True] [own w.heap.size 3 (.slice (some ⟨g0,0,none⟩) 2 2) ([fr,to]:az),box aK #[U kd,U fr,U to,U sa,U sb] 92,iL av I au,iL ax fo aw] J bu J J (by show HI _ _ _ ([own w.heap.size 3 (.slice (some ⟨g0,0,none⟩) 2 2) ([fr,to]:az),box aK #[U kd,U fr,U to,U sa,U sb] 92,iL av I au,iL ax fo aw]++([oL w 92 cF bf cE]++([oL w 4 dA pl dz]++([box bZ #[.slice aC aE aB,sL av I au,sL ax fo aw,sL cF bf cE,sL dA pl dz] 57]++(r++[])))));rw[amA];exact cM) ?_ ?_
  ·
   refine⟨fun f1 jb V_ bW n9 Jp A5 fR=>?_,?_⟩
   ·
    let BP:=[own w.heap.size 3 (.slice (some ⟨g0,0,none⟩) 2 2) ([fr,to]:az),box aK #[U kd,U fr,U to,U sa,U sb] 92,iL av I au,iL ax fo aw]
    have eY:HI M w jb (BP++bW):=(by have h_:HI M w jb (BP++(bW)):=fR;exact h_)
    refine mv J ((n9 0 J).trans s0) ?_
    exact⟨_,J,J,eY⟩
   refine⟨fun f2 iK V_ bW xm oW yC gz=>?_,?_⟩
   ·
    let Se:=[own w.heap.size 3 (.slice (some ⟨g0,0,none⟩) 2 2) ([fr,to]:az),box aK #[U kd,U fr,U to,U sa,U sb] 92,iL av I au,iL ax fo aw]
    have jP:HI M w iK (Se++bW):=(by have h_:HI M w iK (Se++(bW)):=gz;exact h_)
    refine mv J ((xm 0 J).trans s0) ?_
    exact⟨_,J,J,jP⟩
   refine⟨fun f3 jf V_ bW gM rY j7 kO=>?_,?_⟩
   ·
    let j9:=[own w.heap.size 3 (.slice (some ⟨g0,0,none⟩) 2 2) ([fr,to]:az),box aK #[U kd,U fr,U to,U sa,U sb] 92,iL av I au,iL ax fo aw]
    have lK:HI M w jf (j9++bW):=(by have h_:HI M w jf (j9++(bW)):=kO;exact h_)
    refine mv J ((gM 0 J).trans s0) ?_
    exact⟨_,J,J,lK⟩
   refine⟨fun f4 ju V_ bW GP lP A4 pc=>?_,?_⟩
   ·
    obtain⟨e0,q0⟩:=lP 2 _ rfl rfl rfl
    have e1:V_ 2=pV bZ 0:=q0
    have s4:f4 167=pV bZ 0:=e0.trans e1
    let Sd:=[own w.heap.size 3 (.slice (some ⟨g0,0,none⟩) 2 2) ([fr,to]:az),box aK #[U kd,U fr,U to,U sa,U sb] 92,iL av I au,iL ax fo aw]
    have iE:HI M w ju (Sd++bW):=(by have h_:HI M w ju (Sd++(bW)):=pc;exact h_)
    refine nc J s4 ?_
    exact⟨_,J,J,iE⟩
   refine⟨fun f5 jK V_ bW vY jk A3 kt=>?_,?_⟩
   ·
    obtain⟨e2,q1⟩:=jk 3 _ rfl rfl rfl
    have e3:V_ 3=pV bZ 0:=q1
    have s5:f5 168=pV bZ 0:=e2.trans e3
    let F5:=[own w.heap.size 3 (.slice (some ⟨g0,0,none⟩) 2 2) ([fr,to]:az),box aK #[U kd,U fr,U to,U sa,U sb] 92,iL av I au,iL ax fo aw]
    have lJ:HI M w jK (F5++bW):=(by have h_:HI M w jK (F5++(bW)):=kt;exact h_)
    refine fa wz J s5 ?_
    exact⟨_,J,J,lJ⟩
   refine⟨fun f6 lz V_ bW ZG j8 A2 rn=>?_,?_⟩
   ·
    obtain⟨e4,q2⟩:=j8 4 _ rfl rfl rfl
    have e5:V_ 4=pV bZ 3:=q2
    have s6:f6 169=pV bZ 3:=e4.trans e5
    have sh:HI M w lz ([own w.heap.size 3 (.slice (some ⟨g0,0,none⟩) 2 2) ([fr,to]:az),box aK #[U kd,U fr,U to,U sa,U sb] 92,iL av I au,iL ax fo aw,box bZ #[.slice aC aE aB,sL av I au,sL ax fo aw,sL cF bf cE,sL dA pl dz] 57]++bW):=(by have h_:HI M w lz ([own w.heap.size 3 (.slice (some ⟨g0,0,none⟩) 2 2) ([fr,to]:az),box aK #[U kd,U fr,U to,U sa,U sb] 92,iL av I au,iL ax fo aw]++([box bZ #[.slice aC aE aB,sL av I au,sL ax fo aw,sL cF bf cE,sL dA pl dz] 57]++(bW))):=rn;exact h_)
    refine lx sh 4 J oI J s6 J ?_
    exact⟨_,J,J,sh⟩
   refine⟨fun f7 mB V_ bW Mi kj A1 qJ=>?_,?_⟩
   ·
    let KS:=[own w.heap.size 3 (.slice (some ⟨g0,0,none⟩) 2 2) ([fr,to]:az),box aK #[U kd,U fr,U to,U sa,U sb] 92,iL av I au,iL ax fo aw]
    have pb:HI M w mB (KS++bW):=(by have h_:HI M w mB (KS++(bW)):=qJ;exact h_)
    refine cg pb 1 J iQ J ((Mi 3 J).trans s1) aJ J ?_
    exact⟨_,J,J,pb⟩
   refine⟨fun f8 lL V_ bW ZF ll A0 BU=>?_,?_⟩
   ·
    obtain⟨e6,q3⟩:=ll 6 _ rfl rfl rfl
    have e7:V_ 6=.agg #[U kd,U fr,U to,U sa,U sb]:=q3
    have s7:f8 171=.agg #[U kd,U fr,U to,U sa,U sb]:=e6.trans e7
    let DM:=[own w.heap.size 3 (.slice (some ⟨g0,0,none⟩) 2 2) ([fr,to]:az),box aK #[U kd,U fr,U to,U sa,U sb] 92,iL av I au,iL ax fo aw]
    have uB:HI M w lL (DM++bW):=(by have h_:HI M w lL (DM++(bW)):=BU;exact h_)
    refine bs (xs:=([(kd,fr,to,sa,sb)]:List aA)) (cells:=#[U kd,U fr,U to,U sa,U sb]) (e:=92) uB J (ct s7 eo) (fun _=>bu) ⟨[U kd,U fr,U to,U sa,U sb],[],J,⟨_,_,J,⟨J,jm⟩,⟨_,_,J,⟨J,Dp⟩,⟨_,_,J,⟨J,Bj⟩,⟨_,_,J,⟨J,JL⟩,⟨J,Dn⟩⟩⟩⟩⟩,J⟩ J aJ ?_
    intro g3 jX ly (sZ:HI M w jX ((own w.heap.size 92 (.slice (some ⟨g3,0,none⟩) 1 1) ([(kd,fr,to,sa,sb)]:List aA)::DM)++bW))
    have sP:=HI.ba (l:=(own w.heap.size 92 (.slice (some ⟨g3,0,none⟩) 1 1) ([(kd,fr,to,sa,sb)]:List aA)::DM)) (l':=[own w.heap.size 3 (.slice (some ⟨g0,0,none⟩) 2 2) ([fr,to]:az),box aK #[U kd,U fr,U to,U sa,U sb] 92,iL av I au,iL ax fo aw,own w.heap.size 92 (.slice (some ⟨g3,0,none⟩) 1 1) ([(kd,fr,to,sa,sb)]:List aA)]) (t:=bW) sZ [1,2,3,4,0] aJ J J
    exact⟨_,J,⟨g3,J⟩,sP⟩
   refine⟨fun f9 kJ V_ bW Mh jj yB lS=>?_,?_⟩
   ·
    obtain⟨e8,q4⟩:=jj 5 _ rfl rfl rfl
    have e9:V_ 5=sL cF bf cE:=q4
    have s8:f9 170=sL cF bf cE:=e8.trans e9
    obtain⟨RN,q5⟩:=jj 7 _ rfl rfl rfl
    obtain⟨g4,Ki⟩:∃(g4:Nat),V_ 7=.slice (some ⟨g4,0,none⟩) 1 1:=q5
    have s9:f9 172=.slice (some ⟨g4,0,none⟩) 1 1:=RN.trans Ki
    have sO:HI M w kJ ([own w.heap.size 3 (.slice (some ⟨g0,0,none⟩) 2 2) ([fr,to]:az),box aK #[U kd,U fr,U to,U sa,U sb] 92,iL av I au,iL ax fo aw,own w.heap.size 92 (.slice (some ⟨g4,0,none⟩) 1 1) ([(kd,fr,to,sa,sb)]:List aA),oL w 92 cF bf cE]++bW):=(by have h_:HI M w kJ ([own w.heap.size 3 (.slice (some ⟨g0,0,none⟩) 2 2) ([fr,to]:az),box aK #[U kd,U fr,U to,U sa,U sb] 92,iL av I au,iL ax fo aw]++([own w.heap.size 92 (.slice (some ⟨((vA<|V_ 7).elim 0 (·.block)),0,none⟩) 1 1) ([(kd,fr,to,sa,sb)]:List aA)]++([oL w 92 cF bf cE]++(bW)))):=lS;rw[Ki] at h_;exact h_)
    refine kE sO 5 J J J J s8 s9 (fD<|sO.at_ 4 J) mY iQ J (by simp only[jv,gW];omega) J ?_
    intro a2 c2 ow (sY:HI M w ow ([own w.heap.size 3 (.slice (some ⟨g0,0,none⟩) 2 2) ([fr,to]:az),box aK #[U kd,U fr,U to,U sa,U sb] 92,iL av I au,iL ax fo aw,own w.heap.size 92 (.slice (some ⟨g4,0,none⟩) 1 1) ([(kd,fr,to,sa,sb)]:List aA),oL w 92 a2 (bf++([(kd,fr,to,sa,sb)]:List aA)) c2]++bW))
    exact⟨_,J,⟨a2,c2,J⟩,(by have h_:=sY;rw[show (g4:Nat)=((vA<|V_ 7).elim 0 (·.block)) from by rw[Ki]<;>rfl] at h_;exact h_)⟩
   refine⟨fun f10 kv V_ bW ZE mS Mk sN=>?_,?_⟩
   ·
    let KR:=[own w.heap.size 3 (.slice (some ⟨g0,0,none⟩) 2 2) ([fr,to]:az),box aK #[U kd,U fr,U to,U sa,U sb] 92,iL av I au,iL ax fo aw]
    have sX:HI M w kv (KR++bW):=(by have h_:HI M w kv (KR++(bW)):=sN;exact h_)
    refine mv J ((ZE 0 J).trans s0) ?_
    exact⟨_,J,J,sX⟩
   refine⟨fun f11 nU V_ bW TI iz zI KY=>?_,?_⟩
   ·
    obtain⟨VY,q6⟩:=iz 9 _ rfl rfl rfl
    have RM:V_ 9=pV bZ 0:=q6
    have ey:f11 174=pV bZ 0:=VY.trans RM
    let KQ:=[own w.heap.size 3 (.slice (some ⟨g0,0,none⟩) 2 2) ([fr,to]:az),box aK #[U kd,U fr,U to,U sa,U sb] 92,iL av I au,iL ax fo aw]
    have KW:HI M w nU (KQ++bW):=(by have h_:HI M w nU (KQ++(bW)):=KY;exact h_)
    refine nc J ey ?_
    exact⟨_,J,J,KW⟩
   refine⟨fun f12 ov V_ bW ZH jI FN M_=>?_,?_⟩
   ·
    obtain⟨e14,q7⟩:=jI 10 _ rfl rfl rfl
    have e15:V_ 10=pV bZ 0:=q7
    have ew:f12 175=pV bZ 0:=e14.trans e15
    let abV:=[own w.heap.size 3 (.slice (some ⟨g0,0,none⟩) 2 2) ([fr,to]:az),box aK #[U kd,U fr,U to,U sa,U sb] 92,iL av I au,iL ax fo aw]
    have Su:HI M w ov (abV++bW):=(by have h_:HI M w ov (abV++(bW)):=M_;exact h_)
    refine fa yV J ew ?_
    exact⟨_,J,J,Su⟩
   refine⟨fun f13 pL V_ bW AZ kg Jl H53=>?_,?_⟩
   ·
    obtain⟨e16,q8⟩:=kg 11 _ rfl rfl rfl
    have e17:V_ 11=pV bZ 4:=q8
    have eE:f13 176=pV bZ 4:=e16.trans e17
    have M9:HI M w pL ([own w.heap.size 3 (.slice (some ⟨g0,0,none⟩) 2 2) ([fr,to]:az),box aK #[U kd,U fr,U to,U sa,U sb] 92,iL av I au,iL ax fo aw,box bZ #[.slice aC aE aB,sL av I au,sL ax fo aw,sL cF bf cE,sL dA pl dz] 57]++bW):=(by have h_:HI M w pL ([own w.heap.size 3 (.slice (some ⟨g0,0,none⟩) 2 2) ([fr,to]:az),box aK #[U kd,U fr,U to,U sa,U sb] 92,iL av I au,iL ax fo aw]++([box bZ #[.slice aC aE aB,sL av I au,sL ax fo aw,sL cF bf cE,sL dA pl dz] 57]++(bW))):=H53;exact h_)
    refine lx M9 4 J EW J eE J ?_
    exact⟨_,J,J,M9⟩
   refine⟨fun f14 nL V_ bW afm uL FM Hk=>?_,?_⟩
   ·
    let abU:=[own w.heap.size 3 (.slice (some ⟨g0,0,none⟩) 2 2) ([fr,to]:az),box aK #[U kd,U fr,U to,U sa,U sb] 92,iL av I au,iL ax fo aw]
    have Sr:HI M w nL (abU++bW):=(by have h_:HI M w nL (abU++(bW)):=Hk;exact h_)
    refine mv J ((afm 6 J).trans s3) ?_
    exact⟨_,J,J,Sr⟩
   refine⟨fun f15 xX V_ bW akk xO FL M8=>?_,?_⟩
   ·
    obtain⟨e18,q9⟩:=xO 13 _ rfl rfl rfl
    have e19:V_ 13=.bool pn:=q9
    have fc:f15 178=.bool pn:=e18.trans e19
    let O3:=[own w.heap.size 3 (.slice (some ⟨g0,0,none⟩) 2 2) ([fr,to]:az),box aK #[U kd,U fr,U to,U sa,U sb] 92,iL av I au,iL ax fo aw]
    have Hj:HI M w xX (O3++bW):=(by have h_:HI M w xX (O3++(bW)):=M8;exact h_)
    refine bs (xs:=([pn]:List Bool)) (cells:=#[.bool pn]) (e:=4) Hj J (ct fc eo) (fun _=>bu) ⟨[.bool pn],[],J,J,J⟩ J aJ ?_
    intro g5 DP iJ (H61:HI M w DP ((own w.heap.size 4 (.slice (some ⟨g5,0,none⟩) 1 1) ([pn]:List Bool)::O3)++bW))
    have M7:=HI.ba (l:=(own w.heap.size 4 (.slice (some ⟨g5,0,none⟩) 1 1) ([pn]:List Bool)::O3)) (l':=[own w.heap.size 3 (.slice (some ⟨g0,0,none⟩) 2 2) ([fr,to]:az),box aK #[U kd,U fr,U to,U sa,U sb] 92,iL av I au,iL ax fo aw,own w.heap.size 4 (.slice (some ⟨g5,0,none⟩) 1 1) ([pn]:List Bool)]) (t:=bW) H61 [1,2,3,4,0] aJ J J
    exact⟨_,J,⟨g5,J⟩,M7⟩
   refine⟨fun f16 Ge V_ bW akj uK TM Sq=>?_,?_⟩
   ·
    obtain⟨e20,YC⟩:=uK 12 _ rfl rfl rfl
    have e21:V_ 12=sL dA pl dz:=YC
    have fJ:f16 177=sL dA pl dz:=e20.trans e21
    obtain⟨e22,YB⟩:=uK 14 _ rfl rfl rfl
    obtain⟨g6,e23⟩:∃(g6:Nat),V_ 14=.slice (some ⟨g6,0,none⟩) 1 1:=YB
    have fw:f16 179=.slice (some ⟨g6,0,none⟩) 1 1:=e22.trans e23
    have M6:HI M w Ge ([own w.heap.size 3 (.slice (some ⟨g0,0,none⟩) 2 2) ([fr,to]:az),box aK #[U kd,U fr,U to,U sa,U sb] 92,iL av I au,iL ax fo aw,own w.heap.size 4 (.slice (some ⟨g6,0,none⟩) 1 1) ([pn]:List Bool),oL w 4 dA pl dz]++bW):=(by have h_:HI M w Ge ([own w.heap.size 3 (.slice (some ⟨g0,0,none⟩) 2 2) ([fr,to]:az),box aK #[U kd,U fr,U to,U sa,U sb] 92,iL av I au,iL ax fo aw]++([own w.heap.size 4 (.slice (some ⟨((vA<|V_ 14).elim 0 (·.block)),0,none⟩) 1 1) ([pn]:List Bool)]++([oL w 4 dA pl dz]++(bW)))):=Sq;rw[e23] at h_;exact h_)
    refine kE M6 5 J J J J fJ fw (fD<|M6.at_ 4 J) xF mC J (by simp only[jv,gW];omega) J ?_
    intro a3 c3 Gc (H65:HI M w Gc ([own w.heap.size 3 (.slice (some ⟨g0,0,none⟩) 2 2) ([fr,to]:az),box aK #[U kd,U fr,U to,U sa,U sb] 92,iL av I au,iL ax fo aw,own w.heap.size 4 (.slice (some ⟨g6,0,none⟩) 1 1) ([pn]:List Bool),oL w 4 a3 (pl++([pn]:List Bool)) c3]++bW))
    exact⟨_,J,⟨a3,c3,J⟩,(by have h_:=H65;rw[show (g6:Nat)=((vA<|V_ 14).elim 0 (·.block)) from by rw[e23]<;>rfl] at h_;exact h_)⟩
   refine⟨fun f17 Ij V_ bW aki ZU TL Sp=>?_,?_⟩
   ·
    obtain⟨e24,YA⟩:=ZU 0 _ rfl rfl rfl
    have e25:V_ 0=pV bZ 0:=YA
    have fX:f17 165=pV bZ 0:=e24.trans e25
    let abT:=[own w.heap.size 3 (.slice (some ⟨g0,0,none⟩) 2 2) ([fr,to]:az),box aK #[U kd,U fr,U to,U sa,U sb] 92,iL av I au,iL ax fo aw]
    have H68:HI M w Ij (abT++bW):=(by have h_:HI M w Ij (abT++(bW)):=Sp;exact h_)
    refine nc J fX ?_
    exact⟨_,J,J,H68⟩
   refine⟨fun f18 Au V_ bW akh ZT TK Sn=>?_,?_⟩
   ·
    obtain⟨e26,q13⟩:=ZT 16 _ rfl rfl rfl
    have e27:V_ 16=pV bZ 0:=q13
    have gF:f18 181=pV bZ 0:=e26.trans e27
    let abS:=[own w.heap.size 3 (.slice (some ⟨g0,0,none⟩) 2 2) ([fr,to]:az),box aK #[U kd,U fr,U to,U sa,U sb] 92,iL av I au,iL ax fo aw]
    have Sm:HI M w Au (abS++bW):=(by have h_:HI M w Au (abS++(bW)):=Sn;exact h_)
    refine fa wz J gF ?_
    exact⟨_,J,J,Sm⟩
   refine⟨fun f19 Ii V_ bW akg Jo ZQ Sl=>?_,?_⟩
   ·
    obtain⟨e28,q14⟩:=Jo 8 _ rfl rfl rfl
    obtain⟨a4,c4,e29⟩:∃(a4:Option Addr) (c4:Nat),V_ 8=sL a4 (bf++([(kd,fr,to,sa,sb)]:List aA)) c4:=q14
    have gL:f19 173=sL a4 (bf++([(kd,fr,to,sa,sb)]:List aA)) c4:=e28.trans e29
    obtain⟨e30,q15⟩:=Jo 17 _ rfl rfl rfl
    have e31:V_ 17=pV bZ 3:=q15
    have gE:f19 182=pV bZ 3:=e30.trans e31
    have M5:HI M w Ii ([own w.heap.size 3 (.slice (some ⟨g0,0,none⟩) 2 2) ([fr,to]:az),box aK #[U kd,U fr,U to,U sa,U sb] 92,iL av I au,iL ax fo aw,box bZ #[.slice aC aE aB,sL av I au,sL ax fo aw,sL cF bf cE,sL dA pl dz] 57]++bW):=(by have h_:HI M w Ii ([own w.heap.size 3 (.slice (some ⟨g0,0,none⟩) 2 2) ([fr,to]:az),box aK #[U kd,U fr,U to,U sa,U sb] 92,iL av I au,iL ax fo aw]++([box bZ #[.slice aC aE aB,sL av I au,sL ax fo aw,sL cF bf cE,sL dA pl dz] 57]++(bW))):=Sl;exact h_)
    refine cz M5 4 J oI J J gE gL J J J ?_
    intro Pj (Wl:HI M w Pj ([own w.heap.size 3 (.slice (some ⟨g0,0,none⟩) 2 2) ([fr,to]:az),box aK #[U kd,U fr,U to,U sa,U sb] 92,iL av I au,iL ax fo aw,box bZ #[.slice aC aE aB,sL av I au,sL ax fo aw,sL a4 (bf++([(kd,fr,to,sa,sb)]:List aA)) c4,sL dA pl dz] 57]++bW))
    exact⟨undef,J,trivial,(by have h_:=Wl;rw[show (a4:Option Addr)=(vA<|V_ 8) from by rw[e29]<;>rfl,show (c4:Nat)=(vC<|V_ 8) from by rw[e29]<;>rfl] at h_;exact h_)⟩
   refine⟨fun f20 UK V_ bW akf afp ZP H77=>?_,?_⟩
   ·
    obtain⟨e32,q16⟩:=afp 1 _ rfl rfl rfl
    have e33:V_ 1=pV bZ 0:=q16
    have jg:f20 166=pV bZ 0:=e32.trans e33
    let abR:=[own w.heap.size 3 (.slice (some ⟨g0,0,none⟩) 2 2) ([fr,to]:az),box aK #[U kd,U fr,U to,U sa,U sb] 92,iL av I au,iL ax fo aw]
    have Sk:HI M w UK (abR++bW):=(by have h_:HI M w UK (abR++(bW)):=H77;exact h_)
    refine nc J jg ?_
    exact⟨_,J,J,Sk⟩
   refine⟨fun f21 UJ V_ bW ake afo akt H80=>?_,?_⟩
   ·
    obtain⟨e34,q17⟩:=afo 19 _ rfl rfl rfl
    have e35:V_ 19=pV bZ 0:=q17
    have kU:f21 183=pV bZ 0:=e34.trans e35
    let abQ:=[own w.heap.size 3 (.slice (some ⟨g0,0,none⟩) 2 2) ([fr,to]:az),box aK #[U kd,U fr,U to,U sa,U sb] 92,iL av I au,iL ax fo aw]
    have H81:HI M w UJ (abQ++bW):=(by have h_:HI M w UJ (abQ++(bW)):=H80;exact h_)
    refine fa yV J kU ?_
    exact⟨_,J,J,H81⟩
   refine⟨fun f22 w36 V_ bW akd TN ZO H83=>?_,?_⟩
   ·
    obtain⟨e36,q18⟩:=TN 15 _ rfl rfl rfl
    obtain⟨a5,c5,e37⟩:∃(a5:Option Addr) (c5:Nat),V_ 15=sL a5 (pl++([pn]:List Bool)) c5:=q18
    have oA:f22 180=sL a5 (pl++([pn]:List Bool)) c5:=e36.trans e37
    obtain⟨e38,q19⟩:=TN 20 _ rfl rfl rfl
    have e39:V_ 20=pV bZ 4:=q19
    have pw:f22 184=pV bZ 4:=e38.trans e39
    obtain⟨e40,q20⟩:=TN 8 _ rfl rfl rfl
    obtain⟨a6,c6,e41⟩:∃(a6:Option Addr) (c6:Nat),V_ 8=sL a6 (bf++([(kd,fr,to,sa,sb)]:List aA)) c6:=q20
    have H84:HI M w w36 ([own w.heap.size 3 (.slice (some ⟨g0,0,none⟩) 2 2) ([fr,to]:az),box aK #[U kd,U fr,U to,U sa,U sb] 92,iL av I au,iL ax fo aw,box bZ #[.slice aC aE aB,sL av I au,sL ax fo aw,sL a6 (bf++([(kd,fr,to,sa,sb)]:List aA)) c6,sL dA pl dz] 57]++bW):=(by have h_:HI M w w36 ([own w.heap.size 3 (.slice (some ⟨g0,0,none⟩) 2 2) ([fr,to]:az),box aK #[U kd,U fr,U to,U sa,U sb] 92,iL av I au,iL ax fo aw]++([box bZ #[.slice aC aE aB,sL av I au,sL ax fo aw,sL (vA<|V_ 8) (bf++([(kd,fr,to,sa,sb)]:List aA)) (vC<|V_ 8),sL dA pl dz] 57]++(bW))):=H83;rw[e41] at h_;exact h_)
    refine cz H84 4 J EW J J pw oA J J J ?_
    intro w37 (M4:HI M w w37 ([own w.heap.size 3 (.slice (some ⟨g0,0,none⟩) 2 2) ([fr,to]:az),box aK #[U kd,U fr,U to,U sa,U sb] 92,iL av I au,iL ax fo aw,box bZ #[.slice aC aE aB,sL av I au,sL ax fo aw,sL a6 (bf++([(kd,fr,to,sa,sb)]:List aA)) c6,sL a5 (pl++([pn]:List Bool)) c5] 57]++bW))
    exact⟨undef,J,trivial,(by have h_:=M4;rw[show (a5:Option Addr)=(vA<|V_ 15) from by rw[e37]<;>rfl,show (c5:Nat)=(vC<|V_ 15) from by rw[e37]<;>rfl,show (a6:Option Addr)=(vA<|V_ 8) from by rw[e41]<;>rfl,show (c6:Nat)=(vC<|V_ 8) from by rw[e41]<;>rfl] at h_;exact h_)⟩
   exact trivial
  ·
   intro f23 w38 V_ afl Ox KU
   obtain⟨e42,q21⟩:=Ox 7 _ rfl rfl
   obtain⟨g7,e43⟩:∃(g7:Nat),V_ 7=.slice (some ⟨g7,0,none⟩) 1 1:=q21
   obtain⟨e44,q22⟩:=Ox 8 _ rfl rfl
   obtain⟨a7,c7,e45⟩:∃(a7:Option Addr) (c7:Nat),V_ 8=sL a7 (bf++([(kd,fr,to,sa,sb)]:List aA)) c7:=q22
   obtain⟨e46,q23⟩:=Ox 14 _ rfl rfl
   obtain⟨g8,e47⟩:∃(g8:Nat),V_ 14=.slice (some ⟨g8,0,none⟩) 1 1:=q23
   obtain⟨e48,q24⟩:=Ox 15 _ rfl rfl
   obtain⟨a8,c8,e49⟩:∃(a8:Option Addr) (c8:Nat),V_ 15=sL a8 (pl++([pn]:List Bool)) c8:=q24
   have IA:=(afl 5 J).trans s2
   let abP:=[own w.heap.size 3 (.slice (some ⟨g0,0,none⟩) 2 2) ([fr,to]:az),box aK #[U kd,U fr,U to,U sa,U sb] 92,iL av I au,iL ax fo aw,own w.heap.size 92 (.slice (some ⟨g7,0,none⟩) 1 1) ([(kd,fr,to,sa,sb)]:List aA),oL w 92 a7 (bf++([(kd,fr,to,sa,sb)]:List aA)) c7,own w.heap.size 4 (.slice (some ⟨g8,0,none⟩) 1 1) ([pn]:List Bool),oL w 4 a8 (pl++([pn]:List Bool)) c8,box bZ #[.slice aC aE aB,sL av I au,sL ax fo aw,sL a7 (bf++([(kd,fr,to,sa,sb)]:List aA)) c7,sL a8 (pl++([pn]:List Bool)) c8] 57]
   have H88:HI M w w38 (abP++r):=(by have h_:HI M w w38 ([own w.heap.size 3 (.slice (some ⟨g0,0,none⟩) 2 2) ([fr,to]:az),box aK #[U kd,U fr,U to,U sa,U sb] 92,iL av I au,iL ax fo aw]++([]++([]++([]++([]++([]++([]++([]++([own w.heap.size 92 (.slice (some ⟨((vA<|V_ 7).elim 0 (·.block)),0,none⟩) 1 1) ([(kd,fr,to,sa,sb)]:List aA)]++([oL w 92 (vA<|V_ 8) (bf++([(kd,fr,to,sa,sb)]:List aA)) (vC<|V_ 8)]++([]++([]++([]++([]++([]++([own w.heap.size 4 (.slice (some ⟨((vA<|V_ 14).elim 0 (·.block)),0,none⟩) 1 1) ([pn]:List Bool)]++([oL w 4 (vA<|V_ 15) (pl++([pn]:List Bool)) (vC<|V_ 15)]++([]++([]++([]++([]++([box bZ #[.slice aC aE aB,sL av I au,sL ax fo aw,sL (vA<|V_ 8) (bf++([(kd,fr,to,sa,sb)]:List aA)) (vC<|V_ 8),sL (vA<|V_ 15) (pl++([pn]:List Bool)) (vC<|V_ 15)] 57]++(r++([])))))))))))))))))))))))):=(by refine cast ?_ KU;kernel_rfl);rw[e43] at h_;rw[e45] at h_;rw[e47] at h_;rw[e49] at h_;rw[amA] at h_;exact h_)
   refine dM<|ak J IA<|aj (v:=.bool gd) J J<|aG<|rt<|r1 J J ?_
   have Wk:=HI.ba (l:=abP) (l':=[box bZ #[.slice aC aE aB,sL av I au,sL ax fo aw,sL a7 (bf++([(kd,fr,to,sa,sb)]:List aA)) c7,sL a8 (pl++([pn]:List Bool)) c8] 57,iL av I au,iL ax fo aw,oL w 92 a7 (bf++([(kd,fr,to,sa,sb)]:List aA)) c7,oL w 4 a8 (pl++([pn]:List Bool)) c8]) (t:=r) H88 [8,2,3,5,7] aJ J J
   have e50:(gd:Bool)=xb I fo bf (kd,fr,to,sa,sb):=by exact Y9 Dl afB
   have e51:((bf++([(kd,fr,to,sa,sb)]:List aA)):List _)=(qv I bf (kd,fr,to,sa,sb)):=by exact Xn Dl
   have e52:((pl++([pn]:List Bool)):List _)=(qw I bf pl (kd,fr,to,sa,sb)):=by exact Xo Dl afn
   try rw[←e50]
   try rw[←e51]
   try rw[←e52]
   refine⟨a7,c7,a8,c8,?_,?_⟩
   · first|rfl|simp only[e50,e51,e52]|(simp only[alP])
   · first|exact Wk|simpa only[e50,e51,e52,alP] using Wk
theorem af8:dq aX 45:=dy Tryz.func45
theorem aa1:dq aX 24:=dy Tryz.func24
theorem afZ:dq aX 85:=dy Tryz.func85
theorem afY:dq aX 87:=dy Tryz.func87
theorem KD {r:List Go.Ew.Item} (ho:et I) (cT:I.length≤4096) (eT:fo.length=I.length) (GR:pl.length=bf.length) (jG:bf.length+l.length≤1100000) (H:HI M w w_ ([box bZ #[.slice aC aE aB,sL av I au,sL ax fo aw,sL cF bf cE,sL dA pl dz] 57,iL av I au,iL ax fo aw,oL w 92 cF bf cE,oL w 4 dA pl dz,iL dO l dN]++r)):Calls aX 24 #[pV bZ 0,sL dO l dN] w_ (cZ fun v w'=>∃(BO:OA) (BH:Nat) (EP:OA) (EJ:Nat),v=.bool ((du I fo bf pl l).1)∧HI M w w' ([box bZ #[.slice aC aE aB,sL av I au,sL ax fo aw,.slice BO ((du I fo bf pl l).2.1).length BH,.slice EP ((du I fo bf pl l).2.2).length EJ] 57,iL av I au,iL ax fo aw,oL w 92 BO ((du I fo bf pl l).2.1) BH,oL w 4 EP ((du I fo bf pl l).2.2) EJ,iL dO l dN]++r)):=by
 refine enter 18 Tryz.func24 J J J fun f0 ha=>?_
 have iT:=bN<|H.rv 1 J
 have nn:=bN<|H.rv 2 J
 have QG:=oM<|H.at_ 3 J
 have Vc:=oM<|H.at_ 4 J
 have xM:=bN<|H.rv 5 J
 have i0:f0 0=pV bZ 0:=ha 0 bH
 have i1:f0 1=sL dO l dN:=ha 1 bH
 refine aH<|aj (v:=.bool false) J J<|aG<|sq<|aH<|ak J i1<|k<|ep J J mY<|ak (v:=U 0) J J<|aG<|bk<|lp (fun m f w'=>∃(j_:Nat) (mD:List aA) (qW:List Bool) (a0:OA) (c0:Nat) (a1:OA) (c1:Nat),m=l.length-j_∧f 0=pV bZ 0∧f 7=sL dO l dN∧f 8=U (l.length:Int)∧f 9=U (j_:Int)∧HI M w w' ([box bZ #[.slice aC aE aB,sL av I au,sL ax fo aw,sL a0 mD c0,sL a1 qW c1] 57,iL av I au,iL ax fo aw,oL w 92 a0 mD c0,oL w 4 a1 qW c1,iL dO l dN]++r)∧(j_≤l.length)∧(du I fo bf pl l=du I fo mD qW (l.drop j_))∧(mD.length=bf.length+j_)∧(qW.length=mD.length)) _ ⟨0,bf,pl,cF,cE,dA,dz,J,i0,J,J,(bJ J),H,ai,(by rfl),(by rfl),(by exact GR)⟩ ?_
 rintro _ f0 w0 ⟨j_,mD,qW,a0,c0,a1,c1,rfl,s0,s1,s2,s3,H0,Vz,hs,afy,aky⟩
 refine aH<|k<|lss J J s3 s2<|aG<|sq<|cd (b:=decide ((j_:Int)<(l.length:Int))) J J (fun b0=>?_)<|fun b0=>?_
 ·
  have p0:=dT b0
  refine sk<|nx<|sq<|bk<|aH<|k<|ia (H0.rv 5 J) J J s1 s3 ai mY iQ ?_
  intro fz x0 aq cN
  refine k<|vQ cN.w iQ J J ?_
  intro v0 cL
  obtain⟨_,⟨_,_,rfl,⟨rfl,eQ⟩,⟨_,_,rfl,⟨rfl,gh⟩,⟨_,_,rfl,⟨rfl,fQ⟩,⟨_,_,rfl,⟨rfl,gG⟩,⟨rfl,gl⟩⟩⟩⟩⟩,rfl⟩:=cL
  refine k<|al H0 iQ ?_
  let bC:=[box bZ #[.slice aC aE aB,sL av I au,sL ax fo aw,sL a0 mD c0,sL a1 qW c1] 57,iL av I au,iL ax fo aw,oL w 92 a0 mD c0,oL w 4 a1 qW c1,iL dO l dN]
  intro aK w1 dt (H1:HI M w w1 ((box aK #[U 0,U 0,U 0,U 0,U 0] 92::bC)++r))
  refine k<|cz H1 0 J iQ J J J J J J J ?_
  let dk:=box aK #[U x0.1,U x0.2.1,U x0.2.2.1,U x0.2.2.2.1,U x0.2.2.2.2] 92::bC
  intro w2 (H2:HI M w w2 (dk++r))
  refine cU<|ak J s0<|k<|cg H2 0 J iQ J J aJ J<|k ?_
  let dv:=[box aK #[U x0.1,U x0.2.1,U x0.2.2.1,U x0.2.2.2.1,U x0.2.2.2.2] 92,iL dO l dN]
  have H3:HI M w w2 ([box bZ #[.slice aC aE aB,sL av I au,sL ax fo aw,sL a0 mD c0,sL a1 qW c1] 57,iL av I au,iL ax fo aw,oL w 92 a0 mD c0,oL w 4 a1 qW c1]++([box aK #[U x0.1,U x0.2.1,U x0.2.2.1,U x0.2.2.2.1,U x0.2.2.2.2] 92,iL dO l dN]++r)):=HI.ba (l:=dk) (l':=(box bZ #[.slice aC aE aB,sL av I au,sL ax fo aw,sL a0 mD c0,sL a1 qW c1] 57::iL av I au::iL ax fo aw::oL w 92 a0 mD c0::oL w 4 a1 qW c1::dv)) (t:=r) H2 [1,2,3,4,5,0,6] aJ J J
  have cx:=UF (bZ:=bZ) (aC:=aC) (aE:=aE) (aB:=aB) (av:=av) (au:=au) (I:=I) (ax:=ax) (aw:=aw) (fo:=fo) (cF:=a0) (cE:=c0) (bf:=mD) (dA:=a1) (dz:=c1) (pl:=qW) (kd:=x0.1) (fr:=x0.2.1) (to:=x0.2.2.1) (sa:=x0.2.2.2.1) (sb:=x0.2.2.2.2) (w:=w) (w_:=w2) (r:=([box aK #[U x0.1,U x0.2.1,U x0.2.2.1,U x0.2.2.2.1,U x0.2.2.2.2] 92,iL dO l dN]++r)) (M:=M) eQ gh fQ gG gl (by exact ho) ai ai ai ai H3
  refine ca af8 J (ec J<|ec J e0) cx ?_
  rintro _ w3 ⟨a2,c2,a3,c3,rfl,H4⟩
  let dD:=box bZ #[.slice aC aE aB,sL av I au,sL ax fo aw,sL a2 (qv I mD (x0.1,x0.2.1,x0.2.2.1,x0.2.2.2.1,x0.2.2.2.2)) c2,sL a3 (qw I mD qW (x0.1,x0.2.1,x0.2.2.1,x0.2.2.2.1,x0.2.2.2.2)) c3] 57::iL av I au::iL ax fo aw::oL w 92 a2 (qv I mD (x0.1,x0.2.1,x0.2.2.1,x0.2.2.2.1,x0.2.2.2.2)) c2::oL w 4 a3 (qw I mD qW (x0.1,x0.2.1,x0.2.2.1,x0.2.2.2.1,x0.2.2.2.2)) c3::dv
  have H5:HI M w w3 (dD++r):=H4
  refine k<|kc J J<|z<|nx<|cd (b:=!(xb I fo mD (x0.1,x0.2.1,x0.2.2.1,x0.2.2.2.1,x0.2.2.2.2))) J J (fun b1=>?_)<|fun b1=>?_
  ·
   refine aH<|aj (v:=.bool false) J J<|aG<|rt<|bM<|aS<|gb<|bM<|aS<|r1 J J ?_
   have H6:=HI.ba (l:=dD) (l':=[box bZ #[.slice aC aE aB,sL av I au,sL ax fo aw,sL a2 (qv I mD (x0.1,x0.2.1,x0.2.2.1,x0.2.2.2.1,x0.2.2.2.2)) c2,sL a3 (qw I mD qW (x0.1,x0.2.1,x0.2.2.1,x0.2.2.2.1,x0.2.2.2.2)) c3] 57,iL av I au,iL ax fo aw,oL w 92 a2 (qv I mD (x0.1,x0.2.1,x0.2.2.1,x0.2.2.2.1,x0.2.2.2.2)) c2,oL w 4 a3 (qw I mD qW (x0.1,x0.2.1,x0.2.2.1,x0.2.2.2.1,x0.2.2.2.2)) c3,iL dO l dN]) (t:=r) H5 [0,1,2,3,4,6] aJ J J
   have e0:(false:Bool)=(du I fo bf pl l).1:=by rw[hs,CW aq (fE b1)]
   have e1:((qv I mD (x0.1,x0.2.1,x0.2.2.1,x0.2.2.2.1,x0.2.2.2.2)):List _)=((du I fo bf pl l).2.1):=by rw[hs,CW aq (fE b1)]
   have e2:((qw I mD qW (x0.1,x0.2.1,x0.2.2.1,x0.2.2.2.1,x0.2.2.2.2)):List _)=((du I fo bf pl l).2.2):=by rw[hs,CW aq (fE b1)]
   try rw[←e0]
   try rw[←e1]
   try rw[←e2]
   refine⟨a2,c2,a3,c3,?_,?_⟩
   · first|rfl|simp only[e0,e1,e2]|(simp only[alP])
   · first|exact H6|simpa only[e0,e1,e2,alP] using H6
  refine sk<|aF<|nx<|rg<|k<|add J J s3 J aY<|ak (v:=U ((j_:Int)+1)) J J<|z ?_
  have H6:=cj H5<|H5.rv 1 J
  let jO:=iL av I au::dD
  have H7:HI M w w3 (jO++r):=H6
  have H8:=cj H7<|H7.rv 3 J
  have H9:HI M w w3 ((iL ax fo aw::jO)++r):=H8
  let pJ:=[box bZ #[.slice aC aE aB,sL av I au,sL ax fo aw,sL a2 (qv I mD (x0.1,x0.2.1,x0.2.2.1,x0.2.2.2.1,x0.2.2.2.2)) c2,sL a3 (qw I mD qW (x0.1,x0.2.1,x0.2.2.1,x0.2.2.2.1,x0.2.2.2.2)) c3] 57,iL av I au,iL ax fo aw,oL w 92 a2 (qv I mD (x0.1,x0.2.1,x0.2.2.1,x0.2.2.2.1,x0.2.2.2.2)) c2,oL w 4 a3 (qw I mD qW (x0.1,x0.2.1,x0.2.2.1,x0.2.2.2.1,x0.2.2.2.2)) c3,iL dO l dN]
  have db:HI M w w3 (pJ++r):=HI.ba (l:=(iL ax fo aw::jO)) (l':=pJ) (t:=r) H9 [2,1,0,5,6,8] aJ J J
  refine bD _ ?_ ⟨(j_+1),(qv I mD (x0.1,x0.2.1,x0.2.2.1,x0.2.2.2.1,x0.2.2.2.2)),(qw I mD qW (x0.1,x0.2.1,x0.2.2.1,x0.2.2.2.1,x0.2.2.2.2)),a2,c2,a3,c3,J,s0,s1,s2,(bJ J),db,ai,(by exact hs.trans (Pq aq<|fF b1)),(by rw[L3 (fF b1)];omega),(by rw[L3 (fF b1),Xp (fF b1)];omega)⟩
  omega
 have p0:=dF b0
 refine ex<|bg<|bt<|bz<|dM<|aj (v:=.bool true) J J<|aG<|rt<|r1 J J ?_
 have e0:(true:Bool)=(du I fo bf pl l).1:=by rw[hs,AA ai]
 have e1:(mD:List _)=((du I fo bf pl l).2.1):=by rw[hs,AA ai]
 have e2:(qW:List _)=((du I fo bf pl l).2.2):=by rw[hs,AA ai]
 try rw[←e0]
 try rw[←e1]
 try rw[←e2]
 refine⟨a0,c0,a1,c1,?_,?_⟩
 · first|rfl|simp only[e0,e1,e2]|(simp only[alP])
 · first|exact H0|simpa only[e0,e1,e2,alP] using H0
theorem CJ (hM:ei M w) (cX:cP M w av au I) (fM:cP M w ax aw fo) (rj:cP M w dO dN l) (ho:et I) (cT:I.length≤4096) (eT:fo.length=I.length) (jG:l.length≤1000000):Calls aX 10 #[.agg #[.slice aC aE aB,sL av I au,sL ax fo aw],sL dO l dN] w (cZ fun v w'=>v=.bool (vy I fo l)∧Ext w w'):=by
 refine dK 12 Tryz.func10 J J J hM fun f0 ha H=>?_
 have H0:=cj H cX
 have H1:=cj H0 fM
 have H2:=cj H1 rj
 have i0:f0 0=.agg #[.slice aC aE aB,sL av I au,sL ax fo aw]:=ha 0 bH
 have i1:f0 1=sL dO l dN:=ha 1 bH
 refine aH<|k<|bx H2 J i0 ?_
 let bC:=[iL dO l dN,iL ax fo aw,iL av I au]
 intro aK w0 dt (H3:HI M w w0 (box aK #[.slice aC aE aB,sL av I au,sL ax fo aw] 32::bC))
 refine aj (v:=.bool false) J J<|cU<|k<|cg H3 0 J dn J J aJ J<|k<|bd (v:=.agg #[.slice aC aE aB,sL av I au,sL ax fo aw,.slice none 0 0,.slice none 0 0]) J (ct J eo) (fun _=>bu)<|k<|bx H3 J J ?_
 intro aW w1 cR (H4:HI M w w1 (box aW #[.slice aC aE aB,sL av I au,sL ax fo aw,.slice none 0 0,.slice none 0 0] 57::box aK #[.slice aC aE aB,sL av I au,sL ax fo aw] 32::bC))
 refine aj (v:=pV aW 0) J J<|cU<|ak (v:=pV aW 0) J J<|ak J i1<|k ?_
 have H5:=H4.ke aA 92
 have H6:=H5.ke Bool 4
 have H7:HI M w w1 ([box aW #[.slice aC aE aB,sL av I au,sL ax fo aw,.slice none 0 0,.slice none 0 0] 57,iL av I au,iL ax fo aw,own w.heap.size 92 (.slice none 0 0) ([]:List aA),own w.heap.size 4 (.slice none 0 0) ([]:List Bool),iL dO l dN]++[box aK #[.slice aC aE aB,sL av I au,sL ax fo aw] 32]):=H6.c_ [2,6,5,1,0,4,3] aJ J
 have cx:=KD (bZ:=aW) (aC:=aC) (aE:=aE) (aB:=aB) (av:=av) (au:=au) (I:=I) (ax:=ax) (aw:=aw) (fo:=fo) (cF:=none) (cE:=0) (bf:=([]:List aA)) (dA:=none) (dz:=0) (pl:=([]:List Bool)) (dO:=dO) (dN:=dN) (l:=l) (w:=w) (w_:=w1) (r:=[box aK #[.slice aC aE aB,sL av I au,sL ax fo aw] 32]) (M:=M) (by exact ho) ai (by exact eT) (by rfl) (by simp;omega) H7
 refine ca aa1 J (ec J<|ec J e0) cx ?_
 rintro _ w2 ⟨a0,c0,a1,c1,rfl,H8⟩
 have H9:HI M w w2 [box aW #[.slice aC aE aB,sL av I au,sL ax fo aw,sL a0 ((du I fo ([]:List aA) ([]:List Bool) l).2.1) c0,sL a1 ((du I fo ([]:List aA) ([]:List Bool) l).2.2) c1] 57,iL av I au,iL ax fo aw,oL w 92 a0 ((du I fo ([]:List aA) ([]:List Bool) l).2.1) c0,oL w 4 a1 ((du I fo ([]:List aA) ([]:List Bool) l).2.2) c1,iL dO l dN,box aK #[.slice aC aE aB,sL av I au,sL ax fo aw] 32]:=H8
 refine aj (v:=.bool ((du I fo ([]:List aA) ([]:List Bool) l).1)) J J<|aG<|rt<|r1 J J ?_
 exact⟨alB Value.bool (show ((du I fo ([]:List aA) ([]:List Bool) l).1)=(vy I fo l) from rfl),H9.below⟩
theorem DG (hM:ei M w) (Bl:cP M w dA dz pl) (ob:w.heap[bZ]? =some (.cells #[.slice aC aE aB,.slice av rA au,.slice ax cH aw,.slice cF kS cE,sL dA pl dz] gO (0,0))∧¬M bZ):Calls aX 47 #[.pointer (some ⟨bZ,0,none⟩)] w (cZ fun v w'=>v=.bool (!(pl.any (fun z_=>false==z_)))∧Ext w w'):=by
 refine dK 9 Tryz.func47 J J J hM fun f0 ha H=>?_
 have H0:=cj H Bl
 have H1:=H0.put (it:=ro bZ #[.slice aC aE aB,.slice av rA au,.slice ax cH aw,.slice cF kS cE,sL dA pl dz] gO) J<|by rw[bp rfl,dY];exact ob
 have i0:f0 0=pV bZ 0:=ha 0 bH
 refine aH<|aj (v:=.bool false) J J<|cU<|ak J i0<|k<|nc J J<|bo yV J J<|k<|lr H1 0 J EW J J J<|k ?_
 have cx:=Hv (gi:=pl) (lj:=false) H1.mb<|H1.rv 1 J
 refine ca afZ J (ec J<|ec J e0) cx ?_
 rintro _ w0 ⟨rfl,dt⟩
 have H2:=H1.ext dt
 refine k<|kc J J<|aj (v:=.bool (!(pl.any<|fun (z_:Bool)=>false==z_))) J J<|aG<|rt<|r1 J J ?_
 exact⟨alB Value.bool (show (!(pl.any<|fun (z_:Bool)=>false==z_))=(!(pl.any<|fun z_=>false==z_)) from rfl),H2.below⟩
theorem KE (hM:ei M w) (jm:aN kd) (Dp:aN fr) (Bj:aN to) (JL:aN sa) (Dn:aN sb) (Bl:cP M w dA dz pl) (T7:w.heap[uN]? =some (.cells #[.pointer (some ⟨bZ,0,none⟩)] BY (0,0))∧¬M uN) (ob:w.heap[bZ]? =some (.cells #[.slice aC aE aB,.slice av rA au,.slice ax cH aw,.slice cF kS cE,sL dA pl dz] gO (0,0))∧¬M bZ) (Dl:kd=4→0≤sa∧sa<((pl.length:Nat):Int)):Calls aX 87 #[.agg #[U kd,U fr,U to,U sa,U sb],.pointer (some ⟨uN,0,none⟩)] w (cZ fun v w'=>v=.bool (jU pl (kd,fr,to,sa,sb))∧Ext w w'):=by
 refine dK 18 Tryz.func87 J J J hM fun f0 ha H=>?_
 have H0:=cj H Bl
 have Vc:=bN Bl
 have i0:f0 0=.agg #[U kd,U fr,U to,U sa,U sb]:=ha 0 bH
 have H1:=H0.put (it:=ro bZ #[.slice aC aE aB,.slice av rA au,.slice ax cH aw,.slice cF kS cE,sL dA pl dz] gO) J<|by rw[bp rfl,dY];exact ob
 have H2:=H1.put (it:=ro uN #[pV bZ 0] BY) J<|by rw[bp rfl,bp rfl,dY];exact T7
 have i1:f0 1=pV uN 0:=ha 1 bH
 refine aH<|k<|bx H2 J i0 ?_
 intro aK w0 dt (H3:HI M w w0 [box aK #[U kd,U fr,U to,U sa,U sb] 92,ro uN #[pV bZ 0] BY,ro bZ #[.slice aC aE aB,.slice av rA au,.slice ax cH aw,.slice cF kS cE,sL dA pl dz] gO,iL dA pl dz])
 refine aj (v:=.bool false) J J<|aG<|sq<|yY J bu<|kq (fun _ _=>fa Bt J J e1)<|kq (fun _ x_=>lx (H3.ext x_) 0 J aQ J J J e1)<|kq (fun _ _=>eql J J J J e1)<|kq (fun _ _=>mv (v:=.bool (decide (kd=4))) J J e1) ?_
 rcases bE (decide (kd=4)) with b0|b0
 ·
  have p0:=dT b0
  refine qy J J J b0<|kq (fun _ x_=>lr (H3.ext x_) 1 J SC J i1 J e1)<|qy J J J b0<|kq (fun _ _=>nc J J e1)<|qy J J J b0<|kq (fun _ _=>fa yV J J e1)<|qy J J J b0<|kq (fun _ x_=>lr (H3.ext x_) 2 J EW J J J e1)<|qy J J J b0<|kq (fun _ _=>fa yS J J e1)<|qy J J J b0<|kq (fun _ x_=>lx (H3.ext x_) 0 J aQ J J J e1)<|qy J J J b0<|hG (H3.rv 3 J) J J J J (by have h_:=Dl cG;omega) xF mC ?_
  intro fz x0 aq cN
  refine qy J J J b0<|tL cN.w mC J J<|qy J J J b0<|kq (fun _ _=>kc J J e1)<|kq (fun _ _=>ba J J J J b0 J e1)<|kq (fun _ _=>gH (v:=.bool (!x0)) J J e1)<|zq ?_
  intro w1 cR
  have H4:=H3.ext cR
  refine nx<|rt<|r1 J J ?_
  exact⟨alB Value.bool (by simp only[jU,aq,b0,BL]),H4.below⟩
 refine qn J J J b0<|qn J J J b0<|qn J J J b0<|qn J J J b0<|qn J J J b0<|qn J J J b0<|qn J J J b0<|qn J J J b0<|qn J J J b0<|kq (fun _ _=>bc J J J J b0 J e1)<|kq (fun _ _=>gH (v:=.bool false) J J e1)<|zq ?_
 intro w1 cR
 have H4:=H3.ext cR
 refine nx<|rt<|r1 J J ?_
 exact⟨alB Value.bool (by simp only[jU,b0,BL]),H4.below⟩
theorem Lv (hM:ei M w) (tN:cP M w cF cE bf) (Bl:cP M w dA dz pl) (ob:w.heap[bZ]? =some (.cells #[.slice aC aE aB,.slice av rA au,.slice ax cH aw,sL cF bf cE,sL dA pl dz] gO (0,0))∧¬M bZ) (Oq:∀x∈bf,x.1=4→0≤x.2.2.2.1∧x.2.2.2.1<((pl.length:Nat):Int)):Calls aX 51 #[.pointer (some ⟨bZ,0,none⟩)] w (cZ fun v w'=>v=.bool (!(bf.any (jU pl)))∧Ext w w'):=by
 refine dK 10 Tryz.func51 J J J hM fun f0 ha H=>?_
 have H0:=cj H tN
 have H1:=cj H0 Bl
 have H2:=H1.put (it:=ro bZ #[.slice aC aE aB,.slice av rA au,.slice ax cH aw,sL cF bf cE,sL dA pl dz] gO) J<|by rw[bp rfl,bp rfl,dY];exact ob
 have i0:f0 0=pV bZ 0:=ha 0 bH
 refine aH<|k<|bx H2 J i0 ?_
 intro aK w0 dt (H3:HI M w w0 [box aK #[pV bZ 0] 54,ro bZ #[.slice aC aE aB,.slice av rA au,.slice ax cH aw,sL cF bf cE,sL dA pl dz] gO,iL dA pl dz,iL cF bf cE])
 refine aj (v:=.bool false) J J<|cU<|bR H3 0 J SC J J J<|k<|nc J J<|bo wz J J<|k<|lr H3 1 J oI J J J<|k<|mf J<|k ?_
 have cx:=uX (r:=bf) (p:=(fun (x_:aA)=>jU pl (x_.1,x_.2.1,x_.2.2.1,x_.2.2.2.1,x_.2.2.2.2))) H3.mb (H3.rv 3 J) ⟨afY,fun w_ v_ x_ ki e_ oC=>by have H_:=H3.ext e_;obtain⟨_,⟨_,_,rfl,⟨rfl,cL⟩,⟨_,_,rfl,⟨rfl,eQ⟩,⟨_,_,rfl,⟨rfl,gh⟩,⟨_,_,rfl,⟨rfl,fQ⟩,⟨rfl,gG⟩⟩⟩⟩⟩,rfl⟩:=oC;exact KE (pl:=pl) (M:=fun _=>False) (fun _ h_=>h_.elim) cL eQ gh fQ gG ((H_.rv 2 J).lift (Up.less fun _ _ h_=>h_.elim)) ⟨H_.at_ 0 rfl,fun h_=>h_⟩ ⟨(H_.at_ 1 J).1,fun h_=>h_⟩ (by exact Oq x_ ki)⟩
 refine ca aaL J (ec J<|ec J e0) cx ?_
 rintro _ w1 ⟨rfl,cR⟩
 have H4:=H3.ext cR
 refine k<|kc J J<|aj (v:=.bool (!(bf.any<|fun (x_:aA)=>jU pl (x_.1,x_.2.1,x_.2.2.1,x_.2.2.2.1,x_.2.2.2.2)))) J J<|aG<|rt<|r1 J J ?_
 exact⟨alB Value.bool (show (!(bf.any<|fun (x_:aA)=>jU pl (x_.1,x_.2.1,x_.2.2.1,x_.2.2.2.1,x_.2.2.2.2)))=(!(bf.any<|jU pl)) from rfl),H4.below⟩
theorem R5 (hM:ei M w) (xR:aN lv):Calls aX 20 #[U lv] w (cZ fun v w'=>∃(a0:OA) (c0:Nat),v=.slice a0 (ez lv).length c0∧Ext w w'∧bm M 3 w (ez lv) (.slice a0 (ez lv).length c0) w'):=by
 refine dK 19 Tryz.func20 J J J hM fun f0 ha H=>?_
 have i0:f0 0=U lv:=ha 0 bH
 refine aH<|aj (v:=.slice none 0 0) J J<|cU<|k<|bs (xs:=([1,2,3,4]:az)) (cells:=#[U 1,U 2,U 3,U 4]) (e:=3) H J (ct J<|ct J<|ct J<|ct J eo) (fun _=>bu) ⟨[U 1],[U 2,U 3,U 4],J,⟨J,(show aN (1) from aY)⟩,⟨[U 2],[U 3,U 4],J,⟨J,(show aN (2) from aY)⟩,⟨[U 3],[U 4],J,⟨J,(show aN (3) from aY)⟩,⟨[U 4],[],J,⟨J,(show aN (4) from aY)⟩,J⟩⟩⟩⟩ J aJ ?_
 intro g0 w0 dt H0
 refine aj (v:=.slice (some ⟨g0,0,none⟩) 4 4) J J<|aG<|sq<|aH<|ak J i0<|aG<|bk<|aH<|k<|eql J J J J<|aj (v:=.bool (decide (lv=1))) J J<|z<|nx<|cd (b:=decide (lv=1)) J J (fun b0=>?_)<|fun b0=>?_
 ·
  refine aH<|ak (v:=.slice (some ⟨g0,0,none⟩) 4 4) J J<|aj (v:=.slice (some ⟨g0,0,none⟩) 4 4) J J<|aG<|rt<|bM<|aS<|r1 J J ?_
  have e0:(([1,2,3,4]:az):az)=ez lv:=by simp only[ez,b0,BL]
  have l0:4=(ez lv).length:=by rw[←e0];simp
  have bF:=fu (fun (kW:Nat)=>(.slice (some ⟨g0,0,none⟩) kW 4:Value)) l0
  exact⟨(some ⟨g0,0,none⟩),4,bF,H0.below,(alB (fun (n_:Nat)=>bm _ _ _ (ez lv) (.slice (some ⟨g0,0,none⟩) n_ 4) _) l0).mp ((alB (fun (x_:az)=>bm _ _ _ x_ (.slice (some ⟨g0,0,none⟩) 4 4) _) e0).mp (H0.cB 0 J))⟩
 refine aH<|k<|eql J J J J<|aj (v:=.bool (decide (lv=2))) J J<|z<|nx<|cd (b:=decide (lv=2)) J J (fun b1=>?_)<|fun b1=>?_
 ·
  refine aH<|ak (v:=.slice (some ⟨g0,0,none⟩) 4 4) J J<|k<|bs (xs:=([5]:az)) (cells:=#[U 5]) (e:=3) H0 J (ct J eo) (fun _=>bu) ⟨[U 5],[],J,⟨J,(show aN (5) from aY)⟩,J⟩ J aJ ?_
  intro g1 w1 cR H1
  refine k<|kE H1 1 J J J J J J (fD<|H1.at_ 0 J) cY aQ J bH J ?_
  intro a0 c0 w2 (H2:HI M w w2 [own w.heap.size 3 (.slice (some ⟨g1,0,none⟩) 1 1) ([5]:az),oL w 3 a0 (([1,2,3,4]:az)++([5]:az)) c0])
  refine aj (v:=sL a0 (([1,2,3,4]:az)++([5]:az)) c0) J J<|aG<|rt<|bM<|aS<|r1 J J ?_
  have e0:((([1,2,3,4]:az)++([5]:az)):az)=ez lv:=by simp only[ez,b0,b1,BL]
  have bF:=fu (fun (cK:az)=>(.slice a0 cK.length c0:Value)) e0
  exact⟨a0,c0,bF,H2.below,(alB (fun (x_:az)=>bm _ _ _ x_ (.slice a0 x_.length c0) _) e0).mp (H2.cB 1 J)⟩
 refine aH<|k<|eql J J J J<|aj (v:=.bool (decide (lv=3))) J J<|z<|nx<|cd (b:=decide (lv=3)) J J (fun b2=>?_)<|fun b2=>?_
 ·
  refine aH<|ak (v:=.slice (some ⟨g0,0,none⟩) 4 4) J J<|k<|bs (xs:=([6,7]:az)) (cells:=#[U 6,U 7]) (e:=3) H0 J (ct J<|ct J eo) (fun _=>bu) ⟨[U 6],[U 7],J,⟨J,(show aN (6) from aY)⟩,⟨[U 7],[],J,⟨J,(show aN (7) from aY)⟩,J⟩⟩ J aJ ?_
  intro g1 w1 cR H1
  refine k<|kE H1 1 J J J J J J (fD<|H1.at_ 0 J) cY aQ J bH J ?_
  intro a0 c0 w2 (H2:HI M w w2 [own w.heap.size 3 (.slice (some ⟨g1,0,none⟩) 2 2) ([6,7]:az),oL w 3 a0 (([1,2,3,4]:az)++([6,7]:az)) c0])
  refine aj (v:=sL a0 (([1,2,3,4]:az)++([6,7]:az)) c0) J J<|aG<|rt<|bM<|aS<|r1 J J ?_
  have e0:((([1,2,3,4]:az)++([6,7]:az)):az)=ez lv:=by simp only[ez,b0,b1,b2,BL]
  have bF:=fu (fun (cK:az)=>(.slice a0 cK.length c0:Value)) e0
  exact⟨a0,c0,bF,H2.below,(alB (fun (x_:az)=>bm _ _ _ x_ (.slice a0 x_.length c0) _) e0).mp (H2.cB 1 J)⟩
 refine sk<|aF<|dM<|aj (v:=.slice none 0 0) J J<|aG<|rt<|r1 J J ?_
 have e0:([]:az)=ez lv:=by simp only[ez,b0,b1,b2,BL]
 have bF:=fu (fun (cK:az)=>(.slice none cK.length 0:Value)) e0
 exact⟨none,0,bF,H0.below,(alB (fun (x_:az)=>bm _ _ _ x_ (.slice none x_.length 0) _) e0).mp (gQ H0.below)⟩
theorem Hw (hM:ei M w) (jm:aN kd) (kT:aN bB) (jM:aN aZ) (lQ:aN bK) (ie:aN aO) (pE:aN dH) (pD:aN cV):Calls aX 22 #[.agg #[U kd,U bB,U aZ,U bK,U aO,.slice eM jd eL,U dH,U cV]] w (cZ fun v w'=>∃(a0:OA) (c0:Nat),v=.slice a0 (gA kd bB aZ bK aO dH cV).length c0∧Ext w w'∧bm M 3 w (gA kd bB aZ bK aO dH cV) (.slice a0 (gA kd bB aZ bK aO dH cV).length c0) w'):=by
 refine dK 58 Tryz.func22 J J J hM fun f0 ha H=>?_
 have i0:f0 0=.agg #[U kd,U bB,U aZ,U bK,U aO,.slice eM jd eL,U dH,U cV]:=ha 0 bH
 refine aH<|k<|bx H J i0 ?_
 intro aK w0 dt (H0:HI M w w0 [box aK #[U kd,U bB,U aZ,U bK,U aO,.slice eM jd eL,U dH,U cV] 25])
 refine aj (v:=.slice none 0 0) J J<|aG<|sq<|aH<|bo um J J<|bR H0 0 J aQ J J J<|aG<|bk<|aH<|k<|eql J J J J<|aj (v:=.bool (decide (kd=1))) J J<|z<|nx<|cd (b:=decide (kd=1)) J J (fun b0=>?_)<|fun b0=>?_
 ·
  refine aH<|bo jo J J<|bR H0 0 J aQ J J J<|bo ny J J<|bR H0 0 J aQ J J J<|bo ir J J<|bR H0 0 J aQ J J J<|bo nw J J<|bR H0 0 J aQ J J J<|bo uk J J<|bR H0 0 J aQ J J J<|k<|bs (xs:=([aZ,bK,aO,dH,cV]:az)) (cells:=#[U aZ,U bK,U aO,U dH,U cV]) (e:=3) H0 J (ct J<|ct J<|ct J<|ct J<|ct J eo) (fun _=>bu) ⟨[U aZ],[U bK,U aO,U dH,U cV],J,⟨J,jM⟩,⟨[U bK],[U aO,U dH,U cV],J,⟨J,lQ⟩,⟨[U aO],[U dH,U cV],J,⟨J,ie⟩,⟨[U dH],[U cV],J,⟨J,pE⟩,⟨[U cV],[],J,⟨J,pD⟩,J⟩⟩⟩⟩⟩ J aJ ?_
  intro g0 w1 cR H1
  refine aj (v:=.slice (some ⟨g0,0,none⟩) 5 5) J J<|aG<|rt<|bM<|aS<|r1 J J ?_
  have e0:(([aZ,bK,aO,dH,cV]:az):az)=gA kd bB aZ bK aO dH cV:=by simp only[gA,b0,BL]
  have l0:5=(gA kd bB aZ bK aO dH cV).length:=by rw[←e0];simp
  have bF:=fu (fun (kW:Nat)=>(.slice (some ⟨g0,0,none⟩) kW 5:Value)) l0
  exact⟨(some ⟨g0,0,none⟩),5,bF,H1.below,(alB (fun (n_:Nat)=>bm _ _ _ (gA kd bB aZ bK aO dH cV) (.slice (some ⟨g0,0,none⟩) n_ 5) _) l0).mp ((alB (fun (x_:az)=>bm _ _ _ x_ (.slice (some ⟨g0,0,none⟩) 5 5) _) e0).mp (H1.cB 0 J))⟩
 refine sq<|aH<|k<|eql J J J J<|aj (v:=.bool (decide (kd=2))) J J<|z<|nx<|cd (b:=decide (kd=2)) J J (fun b1=>?_)<|fun b1=>?_
 ·
  refine sk<|nx<|nP J J b1<|aH<|bo jV J J<|bR H0 0 J aQ J J J<|bo jo J J<|bR H0 0 J aQ J J J<|bo ny J J<|bR H0 0 J aQ J J J<|bo uk J J<|bR H0 0 J aQ J J J<|k<|bs (xs:=([bB,aZ,bK,cV]:az)) (cells:=#[U bB,U aZ,U bK,U cV]) (e:=3) H0 J (ct J<|ct J<|ct J<|ct J eo) (fun _=>bu) ⟨[U bB],[U aZ,U bK,U cV],J,⟨J,kT⟩,⟨[U aZ],[U bK,U cV],J,⟨J,jM⟩,⟨[U bK],[U cV],J,⟨J,lQ⟩,⟨[U cV],[],J,⟨J,pD⟩,J⟩⟩⟩⟩ J aJ ?_
  intro g0 w1 cR H1
  refine aj (v:=.slice (some ⟨g0,0,none⟩) 4 4) J J<|aG<|rt<|bM<|aS<|r1 J J ?_
  have e0:(([bB,aZ,bK,cV]:az):az)=gA kd bB aZ bK aO dH cV:=by simp only[gA,b0,b1,BL]
  have l0:4=(gA kd bB aZ bK aO dH cV).length:=by rw[←e0];simp
  have bF:=fu (fun (kW:Nat)=>(.slice (some ⟨g0,0,none⟩) kW 4:Value)) l0
  exact⟨(some ⟨g0,0,none⟩),4,bF,H1.below,(alB (fun (n_:Nat)=>bm _ _ _ (gA kd bB aZ bK aO dH cV) (.slice (some ⟨g0,0,none⟩) n_ 4) _) l0).mp ((alB (fun (x_:az)=>bm _ _ _ x_ (.slice (some ⟨g0,0,none⟩) 4 4) _) e0).mp (H1.cB 0 J))⟩
 refine rg<|k<|eql J J J J<|aj (v:=.bool (decide (kd=5))) J J<|z<|nx<|cd (b:=decide (kd=5)) J J (fun b2=>?_)<|fun b2=>?_
 ·
  refine aH<|bo jV J J<|bR H0 0 J aQ J J J<|bo jo J J<|bR H0 0 J aQ J J J<|bo ny J J<|bR H0 0 J aQ J J J<|bo uk J J<|bR H0 0 J aQ J J J<|k<|bs (xs:=([bB,aZ,bK,cV]:az)) (cells:=#[U bB,U aZ,U bK,U cV]) (e:=3) H0 J (ct J<|ct J<|ct J<|ct J eo) (fun _=>bu) ⟨[U bB],[U aZ,U bK,U cV],J,⟨J,kT⟩,⟨[U aZ],[U bK,U cV],J,⟨J,jM⟩,⟨[U bK],[U cV],J,⟨J,lQ⟩,⟨[U cV],[],J,⟨J,pD⟩,J⟩⟩⟩⟩ J aJ ?_
  intro g0 w1 cR H1
  refine aj (v:=.slice (some ⟨g0,0,none⟩) 4 4) J J<|aG<|rt<|bM<|aS<|r1 J J ?_
  have e0:(([bB,aZ,bK,cV]:az):az)=gA kd bB aZ bK aO dH cV:=by simp only[gA,b0,b1,b2,BL]
  have l0:4=(gA kd bB aZ bK aO dH cV).length:=by rw[←e0];simp
  have bF:=fu (fun (kW:Nat)=>(.slice (some ⟨g0,0,none⟩) kW 4:Value)) l0
  exact⟨(some ⟨g0,0,none⟩),4,bF,H1.below,(alB (fun (n_:Nat)=>bm _ _ _ (gA kd bB aZ bK aO dH cV) (.slice (some ⟨g0,0,none⟩) n_ 4) _) l0).mp ((alB (fun (x_:az)=>bm _ _ _ x_ (.slice (some ⟨g0,0,none⟩) 4 4) _) e0).mp (H1.cB 0 J))⟩
 refine aH<|k<|eql J J J J<|aj (v:=.bool (decide (kd=3))) J J<|z<|nx<|cd (b:=decide (kd=3)) J J (fun b3=>?_)<|fun b3=>?_
 ·
  refine aH<|bo ny J J<|bR H0 0 J aQ J J J<|bo ir J J<|bR H0 0 J aQ J J J<|bo uk J J<|bR H0 0 J aQ J J J<|k<|bs (xs:=([bK,aO,cV]:az)) (cells:=#[U bK,U aO,U cV]) (e:=3) H0 J (ct J<|ct J<|ct J eo) (fun _=>bu) ⟨[U bK],[U aO,U cV],J,⟨J,lQ⟩,⟨[U aO],[U cV],J,⟨J,ie⟩,⟨[U cV],[],J,⟨J,pD⟩,J⟩⟩⟩ J aJ ?_
  intro g0 w1 cR H1
  refine aj (v:=.slice (some ⟨g0,0,none⟩) 3 3) J J<|aG<|rt<|bM<|aS<|r1 J J ?_
  have e0:(([bK,aO,cV]:az):az)=gA kd bB aZ bK aO dH cV:=by simp only[gA,b0,b1,b2,b3,BL]
  have l0:3=(gA kd bB aZ bK aO dH cV).length:=by rw[←e0];simp
  have bF:=fu (fun (kW:Nat)=>(.slice (some ⟨g0,0,none⟩) kW 3:Value)) l0
  exact⟨(some ⟨g0,0,none⟩),3,bF,H1.below,(alB (fun (n_:Nat)=>bm _ _ _ (gA kd bB aZ bK aO dH cV) (.slice (some ⟨g0,0,none⟩) n_ 3) _) l0).mp ((alB (fun (x_:az)=>bm _ _ _ x_ (.slice (some ⟨g0,0,none⟩) 3 3) _) e0).mp (H1.cB 0 J))⟩
 refine aH<|k<|eql J J J J<|aj (v:=.bool (decide (kd=4))) J J<|z<|nx<|cd (b:=decide (kd=4)) J J (fun b4=>?_)<|fun b4=>?_
 ·
  refine aH<|bo ir J J<|bR H0 0 J aQ J J J<|k<|bs (xs:=([aO]:az)) (cells:=#[U aO]) (e:=3) H0 J (ct J eo) (fun _=>bu) ⟨[U aO],[],J,⟨J,ie⟩,J⟩ J aJ ?_
  intro g0 w1 cR H1
  refine aj (v:=.slice (some ⟨g0,0,none⟩) 1 1) J J<|aG<|rt<|bM<|aS<|r1 J J ?_
  have e0:(([aO]:az):az)=gA kd bB aZ bK aO dH cV:=by simp only[gA,b0,b1,b2,b3,b4,BL]
  have l0:1=(gA kd bB aZ bK aO dH cV).length:=by rw[←e0];simp
  have bF:=fu (fun (kW:Nat)=>(.slice (some ⟨g0,0,none⟩) kW 1:Value)) l0
  exact⟨(some ⟨g0,0,none⟩),1,bF,H1.below,(alB (fun (n_:Nat)=>bm _ _ _ (gA kd bB aZ bK aO dH cV) (.slice (some ⟨g0,0,none⟩) n_ 1) _) l0).mp ((alB (fun (x_:az)=>bm _ _ _ x_ (.slice (some ⟨g0,0,none⟩) 1 1) _) e0).mp (H1.cB 0 J))⟩
 refine aH<|k<|eql J J J J<|aj (v:=.bool (decide (kd=6))) J J<|z<|nx<|cd (b:=decide (kd=6)) J J (fun b5=>?_)<|fun b5=>?_
 ·
  refine aH<|bo ny J J<|bR H0 0 J aQ J J J<|bo uk J J<|bR H0 0 J aQ J J J<|k<|bs (xs:=([bK,cV]:az)) (cells:=#[U bK,U cV]) (e:=3) H0 J (ct J<|ct J eo) (fun _=>bu) ⟨[U bK],[U cV],J,⟨J,lQ⟩,⟨[U cV],[],J,⟨J,pD⟩,J⟩⟩ J aJ ?_
  intro g0 w1 cR H1
  refine aj (v:=.slice (some ⟨g0,0,none⟩) 2 2) J J<|aG<|rt<|bM<|aS<|r1 J J ?_
  have e0:(([bK,cV]:az):az)=gA kd bB aZ bK aO dH cV:=by simp only[gA,b0,b1,b2,b3,b4,b5,BL]
  have l0:2=(gA kd bB aZ bK aO dH cV).length:=by rw[←e0];simp
  have bF:=fu (fun (kW:Nat)=>(.slice (some ⟨g0,0,none⟩) kW 2:Value)) l0
  exact⟨(some ⟨g0,0,none⟩),2,bF,H1.below,(alB (fun (n_:Nat)=>bm _ _ _ (gA kd bB aZ bK aO dH cV) (.slice (some ⟨g0,0,none⟩) n_ 2) _) l0).mp ((alB (fun (x_:az)=>bm _ _ _ x_ (.slice (some ⟨g0,0,none⟩) 2 2) _) e0).mp (H1.cB 0 J))⟩
 refine sk<|aF<|dM<|bo jV J J<|bR H0 0 J aQ J J J<|bo ny J J<|bR H0 0 J aQ J J J<|bo uk J J<|bR H0 0 J aQ J J J<|k<|bs (xs:=([bB,bK,cV]:az)) (cells:=#[U bB,U bK,U cV]) (e:=3) H0 J (ct J<|ct J<|ct J eo) (fun _=>bu) ⟨[U bB],[U bK,U cV],J,⟨J,kT⟩,⟨[U bK],[U cV],J,⟨J,lQ⟩,⟨[U cV],[],J,⟨J,pD⟩,J⟩⟩⟩ J aJ ?_
 intro g0 w1 cR H1
 refine aj (v:=.slice (some ⟨g0,0,none⟩) 3 3) J J<|aG<|rt<|r1 J J ?_
 have e0:(([bB,bK,cV]:az):az)=gA kd bB aZ bK aO dH cV:=by simp only[gA,b0,b1,b2,b3,b4,b5,BL]
 have l0:3=(gA kd bB aZ bK aO dH cV).length:=by rw[←e0];simp
 have bF:=fu (fun (kW:Nat)=>(.slice (some ⟨g0,0,none⟩) kW 3:Value)) l0
 exact⟨(some ⟨g0,0,none⟩),3,bF,H1.below,(alB (fun (n_:Nat)=>bm _ _ _ (gA kd bB aZ bK aO dH cV) (.slice (some ⟨g0,0,none⟩) n_ 3) _) l0).mp ((alB (fun (x_:az)=>bm _ _ _ x_ (.slice (some ⟨g0,0,none⟩) 3 3) _) e0).mp (H1.cB 0 J))⟩
theorem KC (tA:aN n1):Calls aX 23 #[U n1] w (cZ fun v w'=>v=.bool (!decide (n1=(-1)))∧Ext w w'):=by
 refine dK 5 Tryz.func23 J J J yo fun f0 ha H=>?_
 have i0:f0 0=U n1:=ha 0 bH
 refine aH<|aj (v:=.bool false) J J<|cU<|ak J i0<|k<|neq J J J J<|aj (v:=.bool (!decide (n1=(-1)))) J J<|aG<|rt<|r1 J J ?_
 exact⟨J,H.below⟩
theorem Ud:dq aX 47:=dy Tryz.func47
theorem aaU:dq aX 49:=dy Tryz.func49
theorem af7:dq aX 51:=dy Tryz.func51
theorem aaR:dq aX 53:=dy Tryz.func53
theorem Lu (hM:ei M w) (hT:mi 0 w) (cX:cP M w av au I) (fM:cP M w ax aw fo) (tN:cP M w cF cE bf) (Bl:cP M w dA dz pl) (jm:aN kd) (kT:aN bB) (jM:aN aZ) (lQ:aN bK) (ie:aN aO) (pE:aN dH) (pD:aN cV) (ob:w.heap[bZ]? =some (.cells #[.slice aC aE aB,sL av I au,sL ax fo aw,sL cF bf cE,sL dA pl dz] gO (0,0))∧¬M bZ) (ho:et I) (cT:I.length≤4096) (eT:fo.length=I.length) (ln:∀x∈fo,x<((I.length:Nat):Int)) (Oq:∀x∈bf,x.1=4→0≤x.2.2.2.1∧x.2.2.2.1<((pl.length:Nat):Int)):Calls aX 25 #[.pointer (some ⟨bZ,0,none⟩),.agg #[U kd,U bB,U aZ,U bK,U aO,.slice eM jd eL,U dH,U cV]] w (cZ fun v w'=>v=.bool (iy I fo bf pl kd bB aZ bK aO dH cV)∧Ext w w'):=by
 refine dK 223 Tryz.func25 J J J hM fun f0 ha H=>?_
 have H0:=cj H cX
 have H1:=cj H0 fM
 have H2:=cj H1 tN
 have H3:=cj H2 Bl
 have H4:=H3.put (it:=ro bZ #[.slice aC aE aB,sL av I au,sL ax fo aw,sL cF bf cE,sL dA pl dz] gO) J<|by rw[bp rfl,bp rfl,bp rfl,bp rfl,dY];exact ob
 have i0:f0 0=pV bZ 0:=ha 0 bH
 have i1:f0 1=.agg #[U kd,U bB,U aZ,U bK,U aO,.slice eM jd eL,U dH,U cV]:=ha 1 bH
 refine aH<|k<|bx H4 J i1 ?_
 let bC:=[ro bZ #[.slice aC aE aB,sL av I au,sL ax fo aw,sL cF bf cE,sL dA pl dz] gO,iL dA pl dz,iL cF bf cE,iL ax fo aw,iL av I au]
 intro aK w0 dt (H5:HI M w w0 (box aK #[U kd,U bB,U aZ,U bK,U aO,.slice eM jd eL,U dH,U cV] 25::bC))
 refine aj (v:=.bool false) J J<|aG<|sq<|aH<|bo um J J<|bR H5 0 J aQ J J J<|aG<|bk<|aH<|k<|eql J J J J<|aj (v:=.bool (decide (kd=1))) J J<|z<|nx<|cd (b:=decide (kd=1)) J J (fun b0=>?_)<|fun b0=>?_
 ·
  refine sq<|BB J bu<|xq J<|kq (fun _ _=>mv J i0 e1)<|zq<|xq J<|kq (fun _ _=>fa jV J J e1)<|zq<|xq J<|kq (fun _ x_=>lx (H5.ext x_) 0 J aQ J J J e1)<|zq<|xu (fun v w'=>∃(a0:OA) (c0:Nat),v=sL a0 ([bB]:az) c0∧RV (MS M [box aK #[U kd,U bB,U aZ,U bK,U aO,.slice eM jd eL,U dH,U cV] 25,ro bZ #[.slice aC aE aB,sL av I au,sL ax fo aw,sL cF bf cE,sL dA pl dz] gO,iL dA pl dz,iL cF bf cE,iL ax fo aw,iL av I au]) w' (sL a0 ([bB]:az) c0) ([bB]:az)) J (by rintro _ _ _ x_ ⟨a0,c0,e_,cL⟩;exact⟨a0,c0,e_,cL.lift (Up.ext x_)⟩) J (fun v_ x_=>?_) ?_
  ·
   have H8:=H5.ext x_
   refine bs (xs:=([bB]:az)) (cells:=#[U bB]) (e:=3) H8 J (ct J eo) (fun _=>bu) ⟨[U bB],[],J,⟨J,kT⟩,J⟩ J aJ ?_
   intro g1 w2 d_ (H9:HI M w w2 (own w.heap.size 3 (.slice (some ⟨g1,0,none⟩) 1 1) ([bB]:az)::box aK #[U kd,U bB,U aZ,U bK,U aO,.slice eM jd eL,U dH,U cV] 25::bC))
   have db:=H9.freeze 0 J
   exact⟨_,J,d_,⟨(some ⟨g1,0,none⟩),1,J,(gY J<|db.rv 0 J)⟩⟩
  refine F9 (X:=.bool (!(([bB]:az).any (dV I)))) 0 J J (fun v_ u_ x_ h_=>?_) ?_
  ·
   have eB:=H5.ext x_
   obtain⟨a2,c2,s0,gh⟩:=h_
   have dZ:=cj eB gh
   have cc:=sJ (I:=I) (l:=([bB]:az)) dZ.mb (dZ.rv 6 J) (dZ.rv 0 J)<|dZ.at_ 2 J
   exact ca zP J (ec J<|ec s0 e0) cc fun _ _ h_=>e2 h_
  refine xq J<|kq (fun _ _=>mv (v:=.bool (!(([bB]:az).any (dV I)))) J J e1)<|zq ?_
  rcases bE (!(([bB]:az).any (dV I))) with b1|b1
  ·
   refine xq J<|qy J J J b1<|kq (fun _ _=>mv J i0 e1)<|zq<|xq J<|qy J J J b1<|kq (fun _ _=>nc J J e1)<|zq<|xq J<|qy J J J b1<|kq (fun _ _=>fa mL J J e1)<|zq<|xq J<|qy J J J b1<|kq (fun _ _=>fa kD J J e1)<|zq<|xq J<|qy J J J b1<|kq (fun _ x_=>lr (H5.ext x_) 1 J lA J J J e1)<|zq<|xq J<|qy J J J b1<|kq (fun _ _=>fa jV J J e1)<|zq<|xq J<|qy J J J b1<|kq (fun _ x_=>lx (H5.ext x_) 0 J aQ J J J e1)<|zq<|xq J<|qy J J J b1<|hG (H5.rv 4 J) J J J J (by have h_:=yi (I:=I) (sb:=bB) cG;omega) cY aQ ?_
   intro fz x0 aq cN
   refine zq<|xq J<|qy J J J b1<|fV cN.w aQ J J ?_
   intro fQ
   refine zq<|xq J<|qy J J J b1<|kq (fun _ _=>eql J J J J e1)<|zq<|xq J<|kq (fun _ _=>ba J J J J b1 J e1)<|zq<|xq J<|kq (fun _ _=>mv (v:=.bool (decide (x0=(-2)))) J J e1)<|zq ?_
   rcases bE (decide (x0=(-2))) with b2|b2
   ·
    refine xq J<|qy J J J b2<|kq (fun _ _=>mv J i0 e1)<|zq<|xq J<|qy J J J b2<|kq (fun _ _=>nc J J e1)<|zq<|xq J<|qy J J J b2<|kq (fun _ _=>fa wz J J e1)<|zq<|xq J<|qy J J J b2<|kq (fun _ x_=>lr (H5.ext x_) 1 J oI J J J e1)<|zq<|xq J<|qy J J J b2<|kq (fun _ _=>ep J J mY e1)<|zq<|xq J<|qy J J J b2<|kq (fun _ _=>eql J J J J e1)<|zq<|xq J<|kq (fun _ _=>ba J J J J b2 J e1)<|zq<|xq J<|kq (fun _ _=>gH (v:=.bool (decide ((bf.length:Int)=0))) J J e1)<|zq<|zx ?_
    intro w4 f0 eI cI ji
    have cM:=H5.ext eI
    have s1:=cI 4 J
    refine nx<|rt<|bM<|aS<|r1 J J ?_
    rw[s1]
    exact⟨alB Value.bool (by simp only[iy,fk,dB,aq,b0,(fE b1),b2,BL]),cM.below⟩
   refine xq J<|qn J J J b2<|zq<|xq J<|qn J J J b2<|zq<|xq J<|qn J J J b2<|zq<|xq J<|qn J J J b2<|zq<|xq J<|qn J J J b2<|zq<|xq J<|qn J J J b2<|zq<|xq J<|kq (fun _ _=>bc J J J J b2 J e1)<|zq<|xq J<|kq (fun _ _=>gH (v:=.bool false) J J e1)<|zq<|zx ?_
   intro w4 f0 eI cI ji
   have cM:=H5.ext eI
   have s1:=cI 4 J
   refine nx<|rt<|bM<|aS<|r1 J J ?_
   rw[s1]
   exact⟨alB Value.bool (by simp only[iy,fk,dB,aq,b0,(fE b1),b2,BL]),cM.below⟩
  refine xq J<|qn J J J b1<|zq<|xq J<|qn J J J b1<|zq<|xq J<|qn J J J b1<|zq<|xq J<|qn J J J b1<|zq<|xq J<|qn J J J b1<|zq<|xq J<|qn J J J b1<|zq<|xq J<|qn J J J b1<|zq<|xq J<|qn J J J b1<|zq<|xq J<|qn J J J b1<|zq<|xq J<|qn J J J b1<|zq<|xq J<|kq (fun _ _=>bc J J J J b1 J e1)<|zq<|xq J<|kq (fun _ _=>mv (v:=.bool false) J J e1)<|zq<|xq J<|qn J J J J<|zq<|xq J<|qn J J J J<|zq<|xq J<|qn J J J J<|zq<|xq J<|qn J J J J<|zq<|xq J<|qn J J J J<|zq<|xq J<|qn J J J J<|zq<|xq J<|kq (fun _ _=>bc J J J J J J e1)<|zq<|xq J<|kq (fun _ _=>gH (v:=.bool false) J J e1)<|zq<|zx ?_
  intro w4 f0 eI cI ji
  have cM:=H5.ext eI
  have s1:=cI 4 J
  refine nx<|rt<|bM<|aS<|r1 J J ?_
  rw[s1]
  exact⟨alB Value.bool (by simp only[iy,fk,dB,b0,(fF b1),BL]),cM.below⟩
 refine aH<|k<|eql J J J J<|aj (v:=.bool (decide (kd=2))) J J<|z<|nx<|cd (b:=decide (kd=2)) J J (fun b1=>?_)<|fun b1=>?_
 ·
  refine aH<|ak J i0<|bo ir J J<|bR H5 0 J aQ J J J<|k<|bs (xs:=([aO]:az)) (cells:=#[U aO]) (e:=3) H5 J (ct J eo) (fun _=>bu) ⟨[U aO],[],J,⟨J,ie⟩,J⟩ J aJ ?_
  intro g0 w1 cR H6
  refine k ?_
  have H7:=H6.freeze 0 J
  have cx:=sJ (I:=I) (l:=([aO]:az)) H7.mb (H7.rv 6 J) (H7.rv 0 J)<|H7.at_ 2 J
  refine ca zP J (ec J<|ec J e0) cx ?_
  rintro _ w2 ⟨rfl,d_⟩
  have H8:=H6.ext d_
  refine ak (v:=.bool (!(([aO]:az).any (dV I)))) J J ?_
  rcases bE (!(([aO]:az).any (dV I))) with b2|b2
  ·
   refine aM J J J b2<|mv J i0<|aM J J J b2 ?_
   have eF:=DG (pl:=pl) H8.mb (H8.rv 3 J)<|H8.at_ 2 J
   refine ca Ud J (ec J e0) eF ?_
   rintro _ w3 ⟨rfl,eG⟩
   have H9:=H8.ext eG
   refine k<|ba J J J J b2 J<|ak (v:=.bool (!(pl.any<|fun z_=>false==z_))) J J ?_
   rcases bE (!(pl.any (fun z_=>false==z_))) with b3|b3
   ·
    refine aM J J J b3<|mv J i0<|aM J J J b3<|fa nw J J<|aM J J J b3<|lx H9 1 J aQ J J J<|aM J J J b3<|fa ir J J<|aM J J J b3<|lx H9 1 J aQ J J J<|aM J J J b3<|fa ir J J<|aM J J J b3<|lx H9 1 J aQ J J J<|aM J J J b3 ?_
    have gS:=qi (bf:=bf) (n1:=dH) (n2:=aO) (n3:=aO) H9.mb (H9.rv 4 J) pE ie ie<|H9.at_ 2 J
    refine ca Bq J (ec J<|ec J<|ec J<|ec J e0) gS ?_
    rintro _ w4 ⟨rfl,eI⟩
    have db:=H9.ext eI
    refine k<|ba J J J J b3 J<|aj (v:=.bool (fP bf dH aO aO)) J J<|aG<|rt<|bM<|aS<|r1 J J ?_
    exact⟨alB Value.bool (by simp only[iy,fk,dB,b0,b1,(fE b2),(fE b3),BL]),db.below⟩
   refine aD J J J b3<|aD J J J b3<|aD J J J b3<|aD J J J b3<|aD J J J b3<|aD J J J b3<|aD J J J b3<|aD J J J b3<|k<|bc J J J J b3 J<|aj (v:=.bool false) J J<|aG<|rt<|bM<|aS<|r1 J J ?_
   exact⟨alB Value.bool (by simp only[iy,fk,dB,b0,b1,(fE b2),(fF b3),BL]),H9.below⟩
  refine aD J J J b2<|aD J J J b2<|k<|bc J J J J b2 J<|ak (v:=.bool false) J J<|aD J J J J<|aD J J J J<|aD J J J J<|aD J J J J<|aD J J J J<|aD J J J J<|aD J J J J<|aD J J J J<|k<|bc J J J J J J<|aj (v:=.bool false) J J<|aG<|rt<|bM<|aS<|r1 J J ?_
  exact⟨alB Value.bool (by simp only[iy,fk,dB,b0,b1,(fF b2),BL]),H8.below⟩
 refine aH<|k<|eql J J J J<|aj (v:=.bool (decide (kd=3))) J J<|z<|nx<|cd (b:=decide (kd=3)) J J (fun b2=>?_)<|fun b2=>?_
 ·
  refine aH<|ak J i0<|bo jV J J<|bR H5 0 J aQ J J J<|bo jo J J<|bR H5 0 J aQ J J J<|k ?_
  have cx:=Hf (I:=I) (fo:=fo) (n1:=bB) (n2:=aZ) H5.mb (H5.rv 5 J) (H5.rv 4 J) kT jM (H5.at_ 1 J)<|by exact eT
  refine ca aaU J (ec J<|ec J<|ec J e0) cx ?_
  rintro _ w1 ⟨rfl,cR⟩
  have H6:=H5.ext cR
  refine ak (v:=.bool (l5 I fo bB aZ)) J J ?_
  rcases bE (l5 I fo bB aZ) with b3|b3
  ·
   refine aM J J J b3<|mv J i0<|aM J J J b3 ?_
   have eF:=DG (pl:=pl) H6.mb (H6.rv 2 J)<|H6.at_ 1 J
   refine ca Ud J (ec J e0) eF ?_
   rintro _ w2 ⟨rfl,d_⟩
   have H7:=H6.ext d_
   refine k<|ba J J J J b3 J<|ak (v:=.bool (!(pl.any<|fun z_=>false==z_))) J J ?_
   rcases bE (!(pl.any (fun z_=>false==z_))) with b4|b4
   ·
    refine aM J J J b4<|mv J i0<|aM J J J b4<|fa nw J J<|aM J J J b4<|lx H7 0 J aQ J J J<|aM J J J b4<|fa jo J J<|aM J J J b4<|lx H7 0 J aQ J J J<|aM J J J b4<|fa jV J J<|aM J J J b4<|lx H7 0 J aQ J J J<|aM J J J b4 ?_
    have gS:=qi (bf:=bf) (n1:=dH) (n2:=aZ) (n3:=bB) H7.mb (H7.rv 3 J) pE jM kT<|H7.at_ 1 J
    refine ca Bq J (ec J<|ec J<|ec J<|ec J e0) gS ?_
    rintro _ w3 ⟨rfl,eG⟩
    have H8:=H7.ext eG
    refine k<|ba J J J J b4 J<|aj (v:=.bool (fP bf dH aZ bB)) J J<|aG<|rt<|bM<|aS<|r1 J J ?_
    exact⟨alB Value.bool (by simp only[iy,fk,dB,b0,b1,b2,b3,(fE b4),BL]),H8.below⟩
   refine aD J J J b4<|aD J J J b4<|aD J J J b4<|aD J J J b4<|aD J J J b4<|aD J J J b4<|aD J J J b4<|aD J J J b4<|k<|bc J J J J b4 J<|aj (v:=.bool false) J J<|aG<|rt<|bM<|aS<|r1 J J ?_
   exact⟨alB Value.bool (by simp only[iy,fk,dB,b0,b1,b2,b3,(fF b4),BL]),H7.below⟩
  refine aD J J J b3<|aD J J J b3<|k<|bc J J J J b3 J<|ak (v:=.bool false) J J<|aD J J J J<|aD J J J J<|aD J J J J<|aD J J J J<|aD J J J J<|aD J J J J<|aD J J J J<|aD J J J J<|k<|bc J J J J J J<|aj (v:=.bool false) J J<|aG<|rt<|bM<|aS<|r1 J J ?_
  exact⟨alB Value.bool (by simp only[iy,fk,dB,b0,b1,b2,b3,BL]),H6.below⟩
 refine aH<|k<|eql J J J J<|aj (v:=.bool (decide (kd=4))) J J<|z<|nx<|cd (b:=decide (kd=4)) J J (fun b3=>?_)<|fun b3=>?_
 ·
  refine sq<|BB J bu<|xq J<|kq (fun _ _=>mv J i0 e1)<|zq<|xq J<|kq (fun _ _=>fa jV J J e1)<|zq<|xq J<|kq (fun _ x_=>lx (H5.ext x_) 0 J aQ J J J e1)<|zq<|xq J<|kq (fun _ _=>fa jo J J e1)<|zq<|xq J<|kq (fun _ x_=>lx (H5.ext x_) 0 J aQ J J J e1)<|zq<|xq J<|kq (fun _ _=>fa ny J J e1)<|zq<|xq J<|kq (fun _ x_=>lx (H5.ext x_) 0 J aQ J J J e1)<|zq<|xu (fun v w'=>∃(a0:OA) (c0:Nat),v=sL a0 ([bB,aZ,bK]:az) c0∧RV (MS M [box aK #[U kd,U bB,U aZ,U bK,U aO,.slice eM jd eL,U dH,U cV] 25,ro bZ #[.slice aC aE aB,sL av I au,sL ax fo aw,sL cF bf cE,sL dA pl dz] gO,iL dA pl dz,iL cF bf cE,iL ax fo aw,iL av I au]) w' (sL a0 ([bB,aZ,bK]:az) c0) ([bB,aZ,bK]:az)) J (by rintro _ _ _ x_ ⟨a0,c0,e_,cL⟩;exact⟨a0,c0,e_,cL.lift (Up.ext x_)⟩) J (fun v_ x_=>?_) ?_
  ·
   have H8:=H5.ext x_
   refine bs (xs:=([bB,aZ,bK]:az)) (cells:=#[U bB,U aZ,U bK]) (e:=3) H8 J (ct J<|ct J<|ct J eo) (fun _=>bu) ⟨[U bB],[U aZ,U bK],J,⟨J,kT⟩,⟨[U aZ],[U bK],J,⟨J,jM⟩,⟨[U bK],[],J,⟨J,lQ⟩,J⟩⟩⟩ J aJ ?_
   intro g1 w2 d_ (H9:HI M w w2 (own w.heap.size 3 (.slice (some ⟨g1,0,none⟩) 3 3) ([bB,aZ,bK]:az)::box aK #[U kd,U bB,U aZ,U bK,U aO,.slice eM jd eL,U dH,U cV] 25::bC))
   have db:=H9.freeze 0 J
   exact⟨_,J,d_,⟨(some ⟨g1,0,none⟩),3,J,(gY J<|db.rv 0 J)⟩⟩
  refine F9 (X:=.bool (!(([bB,aZ,bK]:az).any (dV I)))) 0 J J (fun v_ u_ x_ h_=>?_) ?_
  ·
   have eB:=H5.ext x_
   obtain⟨a2,c2,s0,gh⟩:=h_
   have dZ:=cj eB gh
   have cc:=sJ (I:=I) (l:=([bB,aZ,bK]:az)) dZ.mb (dZ.rv 6 J) (dZ.rv 0 J)<|dZ.at_ 2 J
   exact ca zP J (ec J<|ec s0 e0) cc fun _ _ h_=>e2 h_
  refine xq J<|kq (fun _ _=>mv (v:=.bool (!(([bB,aZ,bK]:az).any (dV I)))) J J e1)<|zq ?_
  rcases bE (!(([bB,aZ,bK]:az).any (dV I))) with b4|b4
  ·
   refine xq J<|qy J J J b4<|kq (fun _ _=>mv J i0 e1)<|zq<|xq J<|qy J J J b4<|kq (fun _ _=>nc J J e1)<|zq<|xq J<|qy J J J b4<|kq (fun _ _=>fa mL J J e1)<|zq<|xq J<|qy J J J b4<|kq (fun _ _=>fa kD J J e1)<|zq<|xq J<|qy J J J b4<|kq (fun _ x_=>lr (H5.ext x_) 1 J lA J J J e1)<|zq<|xq J<|qy J J J b4<|kq (fun _ _=>fa jV J J e1)<|zq<|xq J<|qy J J J b4<|kq (fun _ x_=>lx (H5.ext x_) 0 J aQ J J J e1)<|zq<|xq J<|qy J J J b4<|hG (H5.rv 4 J) J J J J (by have h_:=B4 (I:=I) (fr:=bB) (to:=aZ) (sb:=bK) cG;omega) cY aQ ?_
   intro fz x0 aq cN
   refine zq<|xq J<|qy J J J b4<|fV cN.w aQ J J ?_
   intro fQ
   refine zq<|xq J<|qy J J J b4<|kq (fun _ _=>fa jo J J e1)<|zq<|xq J<|qy J J J b4<|kq (fun _ x_=>lx (H5.ext x_) 0 J aQ J J J e1)<|zq<|xq J<|qy J J J b4<|kq (fun _ _=>eql J J J J e1)<|zq<|xq J<|kq (fun _ _=>ba J J J J b4 J e1)<|zq<|xq J<|kq (fun _ _=>mv (v:=.bool (decide (x0=aZ))) J J e1)<|zq ?_
   rcases bE (decide (x0=aZ)) with b5|b5
   ·
    refine xq J<|qy J J J b5<|kq (fun _ _=>mv J i0 e1)<|zq<|xq J<|qy J J J b5<|kq (fun _ _=>fa jo J J e1)<|zq<|xq J<|qy J J J b5<|kq (fun _ x_=>lx (H5.ext x_) 0 J aQ J J J e1)<|zq<|xq J<|qy J J J b5<|kq (fun _ _=>fa ny J J e1)<|zq<|xq J<|qy J J J b5<|kq (fun _ x_=>lx (H5.ext x_) 0 J aQ J J J e1)<|zq<|xq J<|qy J J J b5<|kq (v:=.bool (dE I aZ bK)) (fun v_ x_=>?_) ?_
    ·
     have cc:=He (I:=I) (n1:=aZ) (n2:=bK) (w:=v_) (H5.ext x_).mb ((H5.ext x_).rv 5 rfl) jM lQ ((H5.ext x_).at_ 1 rfl) (by have h_:=B4 (I:=I) (fr:=bB) (to:=aZ) (sb:=bK) cG;omega)<|by have h_:=B4 (I:=I) (fr:=bB) (to:=aZ) (sb:=bK) cG;omega
     exact ca aaT J (ec J<|ec J<|ec J e0) cc fun _ _ h_=>e2 h_
    refine zq<|xq J<|kq (fun _ _=>ba J J J J b5 J e1)<|zq<|xq J<|kq (fun _ _=>mv (v:=.bool (dE I aZ bK)) J J e1)<|zq ?_
    rcases bE (dE I aZ bK) with b6|b6
    ·
     refine xq J<|qy J J J b6<|kq (fun _ _=>mv J i0 e1)<|zq<|xq J<|qy J J J b6<|kq (v:=.bool (!(pl.any<|fun z_=>false==z_))) (fun v_ x_=>?_) ?_
     ·
      have cc:=DG (pl:=pl) (w:=v_) (H5.ext x_).mb ((H5.ext x_).rv 2 rfl)<|(H5.ext x_).at_ 1 rfl
      exact ca Ud J (ec J e0) cc fun _ _ h_=>e2 h_
     refine zq<|xq J<|kq (fun _ _=>ba J J J J b6 J e1)<|zq<|xq J<|kq (fun _ _=>mv (v:=.bool (!(pl.any<|fun z_=>false==z_))) J J e1)<|zq ?_
     rcases bE (!(pl.any (fun z_=>false==z_))) with b7|b7
     ·
      refine xq J<|qy J J J b7<|kq (fun _ _=>mv J i0 e1)<|zq<|xq J<|qy J J J b7<|kq (fun _ _=>fa nw J J e1)<|zq<|xq J<|qy J J J b7<|kq (fun _ x_=>lx (H5.ext x_) 0 J aQ J J J e1)<|zq<|xq J<|qy J J J b7<|kq (fun _ _=>fa jo J J e1)<|zq<|xq J<|qy J J J b7<|kq (fun _ x_=>lx (H5.ext x_) 0 J aQ J J J e1)<|zq<|xq J<|qy J J J b7<|kq (fun _ _=>fa ny J J e1)<|zq<|xq J<|qy J J J b7<|kq (fun _ x_=>lx (H5.ext x_) 0 J aQ J J J e1)<|zq<|xq J<|qy J J J b7<|kq (v:=.bool (fP bf dH aZ bK)) (fun v_ x_=>?_) ?_
      ·
       have cc:=qi (bf:=bf) (n1:=dH) (n2:=aZ) (n3:=bK) (w:=v_) (H5.ext x_).mb ((H5.ext x_).rv 3 rfl) pE jM lQ<|(H5.ext x_).at_ 1 rfl
       exact ca Bq J (ec J<|ec J<|ec J<|ec J e0) cc fun _ _ h_=>e2 h_
      refine zq<|xq J<|kq (fun _ _=>ba J J J J b7 J e1)<|zq<|xq J<|kq (fun _ _=>mv (v:=.bool (fP bf dH aZ bK)) J J e1)<|zq ?_
      rcases bE (fP bf dH aZ bK) with b8|b8
      ·
       refine xq J<|qy J J J b8<|kq (fun _ _=>mv J i0 e1)<|zq<|xq J<|qy J J J b8<|kq (fun _ _=>fa uk J J e1)<|zq<|xq J<|qy J J J b8<|kq (fun _ x_=>lx (H5.ext x_) 0 J aQ J J J e1)<|zq<|xq J<|qy J J J b8<|kq (fun _ _=>fa ny J J e1)<|zq<|xq J<|qy J J J b8<|kq (fun _ x_=>lx (H5.ext x_) 0 J aQ J J J e1)<|zq<|xq J<|qy J J J b8<|kq (fun _ _=>fa jV J J e1)<|zq<|xq J<|qy J J J b8<|kq (fun _ x_=>lx (H5.ext x_) 0 J aQ J J J e1)<|zq<|xq J<|qy J J J b8<|kq (v:=.bool (fP bf cV bK bB)) (fun v_ x_=>?_) ?_
       ·
        have cc:=qi (bf:=bf) (n1:=cV) (n2:=bK) (n3:=bB) (w:=v_) (H5.ext x_).mb ((H5.ext x_).rv 3 rfl) pD lQ kT<|(H5.ext x_).at_ 1 rfl
        exact ca Bq J (ec J<|ec J<|ec J<|ec J e0) cc fun _ _ h_=>e2 h_
       refine zq<|xq J<|kq (fun _ _=>ba J J J J b8 J e1)<|zq<|xq J<|kq (fun _ _=>gH (v:=.bool (fP bf cV bK bB)) J J e1)<|zq<|zx ?_
       intro w4 f0 eI cI ji
       have cM:=H5.ext eI
       have s1:=cI 4 J
       refine nx<|rt<|bM<|aS<|r1 J J ?_
       rw[s1]
       exact⟨alB Value.bool (by simp only[iy,fk,dB,aq,b0,b1,b2,b3,(fE b4),b5,b6,(fE b7),b8,BL]),cM.below⟩
      refine xq J<|qn J J J b8<|zq<|xq J<|qn J J J b8<|zq<|xq J<|qn J J J b8<|zq<|xq J<|qn J J J b8<|zq<|xq J<|qn J J J b8<|zq<|xq J<|qn J J J b8<|zq<|xq J<|qn J J J b8<|zq<|xq J<|qn J J J b8<|zq<|xq J<|kq (fun _ _=>bc J J J J b8 J e1)<|zq<|xq J<|kq (fun _ _=>gH (v:=.bool false) J J e1)<|zq<|zx ?_
      intro w4 f0 eI cI ji
      have cM:=H5.ext eI
      have s1:=cI 4 J
      refine nx<|rt<|bM<|aS<|r1 J J ?_
      rw[s1]
      exact⟨alB Value.bool (by simp only[iy,fk,dB,aq,b0,b1,b2,b3,(fE b4),b5,b6,(fE b7),b8,BL]),cM.below⟩
     refine xq J<|qn J J J b7<|zq<|xq J<|qn J J J b7<|zq<|xq J<|qn J J J b7<|zq<|xq J<|qn J J J b7<|zq<|xq J<|qn J J J b7<|zq<|xq J<|qn J J J b7<|zq<|xq J<|qn J J J b7<|zq<|xq J<|qn J J J b7<|zq<|xq J<|kq (fun _ _=>bc J J J J b7 J e1)<|zq<|xq J<|kq (fun _ _=>mv (v:=.bool false) J J e1)<|zq<|xq J<|qn J J J J<|zq<|xq J<|qn J J J J<|zq<|xq J<|qn J J J J<|zq<|xq J<|qn J J J J<|zq<|xq J<|qn J J J J<|zq<|xq J<|qn J J J J<|zq<|xq J<|qn J J J J<|zq<|xq J<|qn J J J J<|zq<|xq J<|kq (fun _ _=>bc J J J J J J e1)<|zq<|xq J<|kq (fun _ _=>gH (v:=.bool false) J J e1)<|zq<|zx ?_
     intro w4 f0 eI cI ji
     have cM:=H5.ext eI
     have s1:=cI 4 J
     refine nx<|rt<|bM<|aS<|r1 J J ?_
     rw[s1]
     exact⟨alB Value.bool (by simp only[iy,fk,dB,aq,b0,b1,b2,b3,(fE b4),b5,b6,(fF b7),BL]),cM.below⟩
    refine xq J<|qn J J J b6<|zq<|xq J<|qn J J J b6<|zq<|xq J<|kq (fun _ _=>bc J J J J b6 J e1)<|zq<|xq J<|kq (fun _ _=>mv (v:=.bool false) J J e1)<|zq<|xq J<|qn J J J J<|zq<|xq J<|qn J J J J<|zq<|xq J<|qn J J J J<|zq<|xq J<|qn J J J J<|zq<|xq J<|qn J J J J<|zq<|xq J<|qn J J J J<|zq<|xq J<|qn J J J J<|zq<|xq J<|qn J J J J<|zq<|xq J<|kq (fun _ _=>bc J J J J J J e1)<|zq<|xq J<|kq (fun _ _=>mv (v:=.bool false) J J e1)<|zq<|xq J<|qn J J J J<|zq<|xq J<|qn J J J J<|zq<|xq J<|qn J J J J<|zq<|xq J<|qn J J J J<|zq<|xq J<|qn J J J J<|zq<|xq J<|qn J J J J<|zq<|xq J<|qn J J J J<|zq<|xq J<|qn J J J J<|zq<|xq J<|kq (fun _ _=>bc J J J J J J e1)<|zq<|xq J<|kq (fun _ _=>gH (v:=.bool false) J J e1)<|zq<|zx ?_
    intro w4 f0 eI cI ji
    have cM:=H5.ext eI
    have s1:=cI 4 J
    refine nx<|rt<|bM<|aS<|r1 J J ?_
    rw[s1]
    exact⟨alB Value.bool (by simp only[iy,fk,dB,aq,b0,b1,b2,b3,(fE b4),b5,b6,BL]),cM.below⟩
   refine xq J<|qn J J J b5<|zq<|xq J<|qn J J J b5<|zq<|xq J<|qn J J J b5<|zq<|xq J<|qn J J J b5<|zq<|xq J<|qn J J J b5<|zq<|xq J<|qn J J J b5<|zq<|xq J<|kq (fun _ _=>bc J J J J b5 J e1)<|zq<|xq J<|kq (fun _ _=>mv (v:=.bool false) J J e1)<|zq<|xq J<|qn J J J J<|zq<|xq J<|qn J J J J<|zq<|xq J<|kq (fun _ _=>bc J J J J J J e1)<|zq<|xq J<|kq (fun _ _=>mv (v:=.bool false) J J e1)<|zq<|xq J<|qn J J J J<|zq<|xq J<|qn J J J J<|zq<|xq J<|qn J J J J<|zq<|xq J<|qn J J J J<|zq<|xq J<|qn J J J J<|zq<|xq J<|qn J J J J<|zq<|xq J<|qn J J J J<|zq<|xq J<|qn J J J J<|zq<|xq J<|kq (fun _ _=>bc J J J J J J e1)<|zq<|xq J<|kq (fun _ _=>mv (v:=.bool false) J J e1)<|zq<|xq J<|qn J J J J<|zq<|xq J<|qn J J J J<|zq<|xq J<|qn J J J J<|zq<|xq J<|qn J J J J<|zq<|xq J<|qn J J J J<|zq<|xq J<|qn J J J J<|zq<|xq J<|qn J J J J<|zq<|xq J<|qn J J J J<|zq<|xq J<|kq (fun _ _=>bc J J J J J J e1)<|zq<|xq J<|kq (fun _ _=>gH (v:=.bool false) J J e1)<|zq<|zx ?_
   intro w4 f0 eI cI ji
   have cM:=H5.ext eI
   have s1:=cI 4 J
   refine nx<|rt<|bM<|aS<|r1 J J ?_
   rw[s1]
   exact⟨alB Value.bool (by simp only[iy,fk,dB,aq,b0,b1,b2,b3,(fE b4),b5,BL]),cM.below⟩
  refine xq J<|qn J J J b4<|zq<|xq J<|qn J J J b4<|zq<|xq J<|qn J J J b4<|zq<|xq J<|qn J J J b4<|zq<|xq J<|qn J J J b4<|zq<|xq J<|qn J J J b4<|zq<|xq J<|qn J J J b4<|zq<|xq J<|qn J J J b4<|zq<|xq J<|qn J J J b4<|zq<|xq J<|qn J J J b4<|zq<|xq J<|qn J J J b4<|zq<|xq J<|qn J J J b4<|zq<|xq J<|kq (fun _ _=>bc J J J J b4 J e1)<|zq<|xq J<|kq (fun _ _=>mv (v:=.bool false) J J e1)<|zq<|xq J<|qn J J J J<|zq<|xq J<|qn J J J J<|zq<|xq J<|qn J J J J<|zq<|xq J<|qn J J J J<|zq<|xq J<|qn J J J J<|zq<|xq J<|qn J J J J<|zq<|xq J<|kq (fun _ _=>bc J J J J J J e1)<|zq<|xq J<|kq (fun _ _=>mv (v:=.bool false) J J e1)<|zq<|xq J<|qn J J J J<|zq<|xq J<|qn J J J J<|zq<|xq J<|kq (fun _ _=>bc J J J J J J e1)<|zq<|xq J<|kq (fun _ _=>mv (v:=.bool false) J J e1)<|zq<|xq J<|qn J J J J<|zq<|xq J<|qn J J J J<|zq<|xq J<|qn J J J J<|zq<|xq J<|qn J J J J<|zq<|xq J<|qn J J J J<|zq<|xq J<|qn J J J J<|zq<|xq J<|qn J J J J<|zq<|xq J<|qn J J J J<|zq<|xq J<|kq (fun _ _=>bc J J J J J J e1)<|zq<|xq J<|kq (fun _ _=>mv (v:=.bool false) J J e1)<|zq<|xq J<|qn J J J J<|zq<|xq J<|qn J J J J<|zq<|xq J<|qn J J J J<|zq<|xq J<|qn J J J J<|zq<|xq J<|qn J J J J<|zq<|xq J<|qn J J J J<|zq<|xq J<|qn J J J J<|zq<|xq J<|qn J J J J<|zq<|xq J<|kq (fun _ _=>bc J J J J J J e1)<|zq<|xq J<|kq (fun _ _=>gH (v:=.bool false) J J e1)<|zq<|zx ?_
  intro w4 f0 eI cI ji
  have cM:=H5.ext eI
  have s1:=cI 4 J
  refine nx<|rt<|bM<|aS<|r1 J J ?_
  rw[s1]
  exact⟨alB Value.bool (by simp only[iy,fk,dB,b0,b1,b2,b3,(fF b4),BL]),cM.below⟩
 refine aH<|k<|eql J J J J<|aj (v:=.bool (decide (kd=5))) J J<|z<|nx<|cd (b:=decide (kd=5)) J J (fun b4=>?_)<|fun b4=>?_
 ·
  refine aH<|ak J i0<|bo ir J J<|bR H5 0 J aQ J J J<|k<|bs (xs:=([aO]:az)) (cells:=#[U aO]) (e:=3) H5 J (ct J eo) (fun _=>bu) ⟨[U aO],[],J,⟨J,ie⟩,J⟩ J aJ ?_
  intro g0 w1 cR H6
  refine k ?_
  have H7:=H6.freeze 0 J
  have cx:=sJ (I:=I) (l:=([aO]:az)) H7.mb (H7.rv 6 J) (H7.rv 0 J)<|H7.at_ 2 J
  refine ca zP J (ec J<|ec J e0) cx ?_
  rintro _ w2 ⟨rfl,d_⟩
  have H8:=H6.ext d_
  refine ak (v:=.bool (!(([aO]:az).any (dV I)))) J J ?_
  rcases bE (!(([aO]:az).any (dV I))) with b5|b5
  ·
   refine aM J J J b5<|mv J i0<|aM J J J b5 ?_
   have eF:=Lv (bf:=bf) (pl:=pl) H8.mb (H8.rv 4 J) (H8.rv 3 J) (H8.at_ 2 J)<|by exact Oq
   refine ca af7 J (ec J e0) eF ?_
   rintro _ w3 ⟨rfl,eG⟩
   have H9:=H8.ext eG
   refine k<|ba J J J J b5 J<|ak (v:=.bool (!(bf.any<|jU pl))) J J ?_
   rcases bE (!(bf.any (jU pl))) with b6|b6
   ·
    refine aM J J J b6<|mv J i0<|aM J J J b6<|fa nw J J<|aM J J J b6<|lx H9 1 J aQ J J J<|aM J J J b6<|fa ir J J<|aM J J J b6<|lx H9 1 J aQ J J J<|aM J J J b6<|fa ir J J<|aM J J J b6<|lx H9 1 J aQ J J J<|aM J J J b6 ?_
    have gS:=qi (bf:=bf) (n1:=dH) (n2:=aO) (n3:=aO) H9.mb (H9.rv 4 J) pE ie ie<|H9.at_ 2 J
    refine ca Bq J (ec J<|ec J<|ec J<|ec J e0) gS ?_
    rintro _ w4 ⟨rfl,eI⟩
    have db:=H9.ext eI
    refine k<|ba J J J J b6 J<|aj (v:=.bool (fP bf dH aO aO)) J J<|aG<|rt<|bM<|aS<|r1 J J ?_
    exact⟨alB Value.bool (by simp only[iy,fk,dB,b0,b1,b2,b3,b4,(fE b5),(fE b6),BL]),db.below⟩
   refine aD J J J b6<|aD J J J b6<|aD J J J b6<|aD J J J b6<|aD J J J b6<|aD J J J b6<|aD J J J b6<|aD J J J b6<|k<|bc J J J J b6 J<|aj (v:=.bool false) J J<|aG<|rt<|bM<|aS<|r1 J J ?_
   exact⟨alB Value.bool (by simp only[iy,fk,dB,b0,b1,b2,b3,b4,(fE b5),(fF b6),BL]),H9.below⟩
  refine aD J J J b5<|aD J J J b5<|k<|bc J J J J b5 J<|ak (v:=.bool false) J J<|aD J J J J<|aD J J J J<|aD J J J J<|aD J J J J<|aD J J J J<|aD J J J J<|aD J J J J<|aD J J J J<|k<|bc J J J J J J<|aj (v:=.bool false) J J<|aG<|rt<|bM<|aS<|r1 J J ?_
  exact⟨alB Value.bool (by simp only[iy,fk,dB,b0,b1,b2,b3,b4,(fF b5),BL]),H8.below⟩
 refine aH<|k<|eql J J J J<|aj (v:=.bool (decide (kd=6))) J J<|z<|nx<|cd (b:=decide (kd=6)) J J (fun b5=>?_)<|fun b5=>?_
 ·
  refine sq<|BB J bu<|xq J<|kq (fun _ _=>mv J i0 e1)<|zq<|xq J<|kq (fun _ _=>fa ir J J e1)<|zq<|xq J<|kq (fun _ x_=>lx (H5.ext x_) 0 J aQ J J J e1)<|zq<|xu (fun v w'=>∃(a0:OA) (c0:Nat),v=sL a0 ([aO]:az) c0∧RV (MS M [box aK #[U kd,U bB,U aZ,U bK,U aO,.slice eM jd eL,U dH,U cV] 25,ro bZ #[.slice aC aE aB,sL av I au,sL ax fo aw,sL cF bf cE,sL dA pl dz] gO,iL dA pl dz,iL cF bf cE,iL ax fo aw,iL av I au]) w' (sL a0 ([aO]:az) c0) ([aO]:az)) J (by rintro _ _ _ x_ ⟨a0,c0,e_,cL⟩;exact⟨a0,c0,e_,cL.lift (Up.ext x_)⟩) J (fun v_ x_=>?_) ?_
  ·
   have H8:=H5.ext x_
   refine bs (xs:=([aO]:az)) (cells:=#[U aO]) (e:=3) H8 J (ct J eo) (fun _=>bu) ⟨[U aO],[],J,⟨J,ie⟩,J⟩ J aJ ?_
   intro g1 w2 d_ (H9:HI M w w2 (own w.heap.size 3 (.slice (some ⟨g1,0,none⟩) 1 1) ([aO]:az)::box aK #[U kd,U bB,U aZ,U bK,U aO,.slice eM jd eL,U dH,U cV] 25::bC))
   have db:=H9.freeze 0 J
   exact⟨_,J,d_,⟨(some ⟨g1,0,none⟩),1,J,(gY J<|db.rv 0 J)⟩⟩
  refine F9 (X:=.bool (!(([aO]:az).any (dV I)))) 0 J J (fun v_ u_ x_ h_=>?_) ?_
  ·
   have eB:=H5.ext x_
   obtain⟨a2,c2,s0,gh⟩:=h_
   have dZ:=cj eB gh
   have cc:=sJ (I:=I) (l:=([aO]:az)) dZ.mb (dZ.rv 6 J) (dZ.rv 0 J)<|dZ.at_ 2 J
   exact ca zP J (ec J<|ec s0 e0) cc fun _ _ h_=>e2 h_
  refine xq J<|kq (fun _ _=>mv (v:=.bool (!(([aO]:az).any (dV I)))) J J e1)<|zq ?_
  rcases bE (!(([aO]:az).any (dV I))) with b6|b6
  ·
   refine xq J<|qy J J J b6<|kq (fun _ _=>mv J i0 e1)<|zq<|xq J<|qy J J J b6<|kq (fun _ _=>fa jV J J e1)<|zq<|xq J<|qy J J J b6<|kq (fun _ x_=>lx (H5.ext x_) 0 J aQ J J J e1)<|zq<|xq J<|qy J J J b6<|kq (fun _ _=>fa jo J J e1)<|zq<|xq J<|qy J J J b6<|kq (fun _ x_=>lx (H5.ext x_) 0 J aQ J J J e1)<|zq<|xq J<|qy J J J b6<|kq (v:=.bool (l5 I fo bB aZ)) (fun v_ x_=>?_) ?_
   ·
    have cc:=Hf (I:=I) (fo:=fo) (n1:=bB) (n2:=aZ) (w:=v_) (H5.ext x_).mb ((H5.ext x_).rv 5 rfl) ((H5.ext x_).rv 4 rfl) kT jM ((H5.ext x_).at_ 1 rfl)<|by exact eT
    exact ca aaU J (ec J<|ec J<|ec J e0) cc fun _ _ h_=>e2 h_
   refine zq<|xq J<|kq (fun _ _=>ba J J J J b6 J e1)<|zq<|xq J<|kq (fun _ _=>mv (v:=.bool (l5 I fo bB aZ)) J J e1)<|zq ?_
   rcases bE (l5 I fo bB aZ) with b7|b7
   ·
    refine xq J<|qy J J J b7<|kq (fun _ _=>mv J i0 e1)<|zq<|xq J<|qy J J J b7<|kq (fun _ _=>nc J J e1)<|zq<|xq J<|qy J J J b7<|kq (fun _ _=>fa mL J J e1)<|zq<|xq J<|qy J J J b7<|kq (fun _ x_=>Vf (H5.ext x_) 1 J dn J J aJ J e1)<|zq<|xq J<|qy J J J b7<|kq (fun _ _=>fa ir J J e1)<|zq<|xq J<|qy J J J b7<|kq (fun _ x_=>lx (H5.ext x_) 0 J aQ J J J e1)<|zq<|xu (fun v w'=>∃(a3:OA) (c3:Nat),v=sL a3 (aV (cm I)<|fG I aO) c3∧RV (MS M [box aK #[U kd,U bB,U aZ,U bK,U aO,.slice eM jd eL,U dH,U cV] 25,ro bZ #[.slice aC aE aB,sL av I au,sL ax fo aw,sL cF bf cE,sL dA pl dz] gO,iL dA pl dz,iL cF bf cE,iL ax fo aw,iL av I au]) w' (sL a3 (aV (cm I)<|fG I aO) c3) (aV (cm I)<|fG I aO)) J (by rintro _ _ _ x_ ⟨a3,c3,e_,gG⟩;exact⟨a3,c3,e_,gG.lift (Up.ext x_)⟩) J (fun v_ x_=>?_) ?_
    ·
     have eY:=H5.ext x_
     refine gy J J J b7 ?_
     have gS:=Gx (I:=I) (o:=aO) (aC:=aC) (aE:=aE) (aB:=aB) (ax:=ax) (cH:=fo.length) (aw:=aw) eY.mb (eY.rv 5 J) ie (by exact ho)<|by exact cT
     refine ca aaS J (ec J<|ec J e0) gS ?_
     rintro _ w5 ⟨a4,c4,rfl,ly,gl⟩
     have lk:=bm.rv gl eY.mb
     exact⟨_,J,ly,⟨a4,c4,J,lk⟩⟩
    refine xq J<|qy J J J b7<|kq (fun _ _=>fa jV J J e1)<|zq<|xq J<|qy J J J b7<|kq (fun _ x_=>lx (H5.ext x_) 0 J aQ J J J e1)<|zq<|F9 (X:=.bool ((aV (cm I)<|fG I aO).any (fun (z_:Int)=>decide (bB=z_)))) 0 J J (fun v_ u_ x_ h_=>?_) ?_
    ·
     have gI:=H5.ext x_
     obtain⟨a6,c6,s1,ml⟩:=h_
     have kO:=cj gI ml
     refine gy J J J b7 ?_
     have cc:=qg (gi:=(aV (cm I)<|fG I aO)) (lj:=bB) kO.mb (kO.rv 0 J) kT
     exact ca JV J (ec s1<|ec J e0) cc fun _ _ h_=>e2 h_
    refine xq J<|kq (fun _ _=>ba J J J J b7 J e1)<|zq<|xq J<|kq (fun _ _=>mv (v:=.bool ((aV (cm I)<|fG I aO).any (fun (z_:Int)=>decide (bB=z_)))) J J e1)<|zq ?_
    rcases bE ((aV (cm I) (fG I aO)).any (fun (z_:Int)=>decide (bB=z_))) with b8|b8
    ·
     refine xq J<|qy J J J b8<|kq (fun _ _=>mv J i0 e1)<|zq<|xq J<|qy J J J b8<|kq (fun _ _=>fa ir J J e1)<|zq<|xq J<|qy J J J b8<|kq (fun _ x_=>lx (H5.ext x_) 0 J aQ J J J e1)<|zq<|xq J<|qy J J J b8<|kq (v:=.bool (te I fo bf aO)) (fun v_ x_=>?_) ?_
     ·
      have cc:=EL (I:=I) (fo:=fo) (bf:=bf) (aO:=aO) (w:=v_) (H5.ext x_).mb (hT.ext (H5.ext x_).below) ((H5.ext x_).rv 5 rfl) ((H5.ext x_).rv 4 rfl) ((H5.ext x_).rv 3 rfl) ie ((H5.ext x_).at_ 1 rfl) (by exact ho) (by exact cT) (by exact eT)<|by exact ln
      exact ca aaR J (ec J<|ec J e0) cc fun _ _ h_=>e2 h_
     refine zq<|xq J<|kq (fun _ _=>ba J J J J b8 J e1)<|zq<|xq J<|kq (fun _ _=>mv (v:=.bool (te I fo bf aO)) J J e1)<|zq ?_
     rcases bE (te I fo bf aO) with b9|b9
     ·
      refine xq J<|qy J J J b9<|kq (fun _ _=>mv J i0 e1)<|zq<|xq J<|qy J J J b9<|kq (fun _ _=>fa nw J J e1)<|zq<|xq J<|qy J J J b9<|kq (fun _ x_=>lx (H5.ext x_) 0 J aQ J J J e1)<|zq<|xq J<|qy J J J b9<|kq (fun _ _=>fa jo J J e1)<|zq<|xq J<|qy J J J b9<|kq (fun _ x_=>lx (H5.ext x_) 0 J aQ J J J e1)<|zq<|xq J<|qy J J J b9<|kq (fun _ _=>fa jV J J e1)<|zq<|xq J<|qy J J J b9<|kq (fun _ x_=>lx (H5.ext x_) 0 J aQ J J J e1)<|zq<|xq J<|qy J J J b9<|kq (v:=.bool (fP bf dH aZ bB)) (fun v_ x_=>?_) ?_
      ·
       have cc:=qi (bf:=bf) (n1:=dH) (n2:=aZ) (n3:=bB) (w:=v_) (H5.ext x_).mb ((H5.ext x_).rv 3 rfl) pE jM kT<|(H5.ext x_).at_ 1 rfl
       exact ca Bq J (ec J<|ec J<|ec J<|ec J e0) cc fun _ _ h_=>e2 h_
      refine zq<|xq J<|kq (fun _ _=>ba J J J J b9 J e1)<|zq<|xq J<|kq (fun _ _=>gH (v:=.bool (fP bf dH aZ bB)) J J e1)<|zq<|zx ?_
      intro w7 f0 je cI ji
      have lK:=H5.ext je
      have s2:=cI 4 J
      refine nx<|rt<|bM<|aS<|r1 J J ?_
      rw[s2]
      exact⟨alB Value.bool (by simp only[iy,fk,dB,b0,b1,b2,b3,b4,b5,(fE b6),b7,b8,b9,BL]),lK.below⟩
     refine xq J<|qn J J J b9<|zq<|xq J<|qn J J J b9<|zq<|xq J<|qn J J J b9<|zq<|xq J<|qn J J J b9<|zq<|xq J<|qn J J J b9<|zq<|xq J<|qn J J J b9<|zq<|xq J<|qn J J J b9<|zq<|xq J<|qn J J J b9<|zq<|xq J<|kq (fun _ _=>bc J J J J b9 J e1)<|zq<|xq J<|kq (fun _ _=>gH (v:=.bool false) J J e1)<|zq<|zx ?_
     intro w7 f0 je cI ji
     have lK:=H5.ext je
     have s2:=cI 4 J
     refine nx<|rt<|bM<|aS<|r1 J J ?_
     rw[s2]
     exact⟨alB Value.bool (by simp only[iy,fk,dB,b0,b1,b2,b3,b4,b5,(fE b6),b7,b8,b9,BL]),lK.below⟩
    refine xq J<|qn J J J b8<|zq<|xq J<|qn J J J b8<|zq<|xq J<|qn J J J b8<|zq<|xq J<|qn J J J b8<|zq<|xq J<|kq (fun _ _=>bc J J J J b8 J e1)<|zq<|xq J<|kq (fun _ _=>mv (v:=.bool false) J J e1)<|zq<|xq J<|qn J J J J<|zq<|xq J<|qn J J J J<|zq<|xq J<|qn J J J J<|zq<|xq J<|qn J J J J<|zq<|xq J<|qn J J J J<|zq<|xq J<|qn J J J J<|zq<|xq J<|qn J J J J<|zq<|xq J<|qn J J J J<|zq<|xq J<|kq (fun _ _=>bc J J J J J J e1)<|zq<|xq J<|kq (fun _ _=>gH (v:=.bool false) J J e1)<|zq<|zx ?_
    intro w7 f0 je cI ji
    have lK:=H5.ext je
    have s2:=cI 4 J
    refine nx<|rt<|bM<|aS<|r1 J J ?_
    rw[s2]
    exact⟨alB Value.bool (by simp only[iy,fk,dB,b0,b1,b2,b3,b4,b5,(fE b6),b7,b8,BL]),lK.below⟩
   refine xq J<|qn J J J b7<|zq<|xq J<|qn J J J b7<|zq<|xq J<|qn J J J b7<|zq<|xq J<|qn J J J b7<|zq<|xq J<|qn J J J b7<|zq<|xq J<|qn J J J b7<|zq<|xq J<|qn J J J b7<|zq<|xq J<|qn J J J b7<|zq<|xq J<|qn J J J b7<|zq<|xq J<|qn J J J b7<|zq<|xq J<|kq (fun _ _=>bc J J J J b7 J e1)<|zq<|xq J<|kq (fun _ _=>mv (v:=.bool false) J J e1)<|zq<|xq J<|qn J J J J<|zq<|xq J<|qn J J J J<|zq<|xq J<|qn J J J J<|zq<|xq J<|qn J J J J<|zq<|xq J<|kq (fun _ _=>bc J J J J J J e1)<|zq<|xq J<|kq (fun _ _=>mv (v:=.bool false) J J e1)<|zq<|xq J<|qn J J J J<|zq<|xq J<|qn J J J J<|zq<|xq J<|qn J J J J<|zq<|xq J<|qn J J J J<|zq<|xq J<|qn J J J J<|zq<|xq J<|qn J J J J<|zq<|xq J<|qn J J J J<|zq<|xq J<|qn J J J J<|zq<|xq J<|kq (fun _ _=>bc J J J J J J e1)<|zq<|xq J<|kq (fun _ _=>gH (v:=.bool false) J J e1)<|zq<|zx ?_
   intro w4 f0 eI cI ji
   have cM:=H5.ext eI
   have s1:=cI 4 J
   refine nx<|rt<|bM<|aS<|r1 J J ?_
   rw[s1]
   exact⟨alB Value.bool (by simp only[iy,fk,dB,b0,b1,b2,b3,b4,b5,(fE b6),b7,BL]),cM.below⟩
  refine xq J<|qn J J J b6<|zq<|xq J<|qn J J J b6<|zq<|xq J<|qn J J J b6<|zq<|xq J<|qn J J J b6<|zq<|xq J<|qn J J J b6<|zq<|xq J<|qn J J J b6<|zq<|xq J<|kq (fun _ _=>bc J J J J b6 J e1)<|zq<|xq J<|kq (fun _ _=>mv (v:=.bool false) J J e1)<|zq<|xq J<|qn J J J J<|zq<|xq J<|qn J J J J<|zq<|xq J<|qn J J J J<|zq<|xq J<|qn J J J J<|zq<|xq J<|qn J J J J<|zq<|xq J<|qn J J J J<|zq<|xq J<|qn J J J J<|zq<|xq J<|qn J J J J<|zq<|xq J<|qn J J J J<|zq<|xq J<|qn J J J J<|zq<|xq J<|kq (fun _ _=>bc J J J J J J e1)<|zq<|xq J<|kq (fun _ _=>mv (v:=.bool false) J J e1)<|zq<|xq J<|qn J J J J<|zq<|xq J<|qn J J J J<|zq<|xq J<|qn J J J J<|zq<|xq J<|qn J J J J<|zq<|xq J<|kq (fun _ _=>bc J J J J J J e1)<|zq<|xq J<|kq (fun _ _=>mv (v:=.bool false) J J e1)<|zq<|xq J<|qn J J J J<|zq<|xq J<|qn J J J J<|zq<|xq J<|qn J J J J<|zq<|xq J<|qn J J J J<|zq<|xq J<|qn J J J J<|zq<|xq J<|qn J J J J<|zq<|xq J<|qn J J J J<|zq<|xq J<|qn J J J J<|zq<|xq J<|kq (fun _ _=>bc J J J J J J e1)<|zq<|xq J<|kq (fun _ _=>gH (v:=.bool false) J J e1)<|zq<|zx ?_
  intro w4 f0 eI cI ji
  have cM:=H5.ext eI
  have s1:=cI 4 J
  refine nx<|rt<|bM<|aS<|r1 J J ?_
  rw[s1]
  exact⟨alB Value.bool (by simp only[iy,fk,dB,b0,b1,b2,b3,b4,b5,(fF b6),BL]),cM.below⟩
 refine aH<|k<|eql J J J J<|aj (v:=.bool (decide (kd=7))) J J<|z<|nx<|cd (b:=decide (kd=7)) J J (fun b6=>?_)<|fun b6=>?_
 ·
  refine aH<|ak J i0<|bo ir J J<|bR H5 0 J aQ J J J<|bo jo J J<|bR H5 0 J aQ J J J<|k<|bs (xs:=([aO,aZ]:az)) (cells:=#[U aO,U aZ]) (e:=3) H5 J (ct J<|ct J eo) (fun _=>bu) ⟨[U aO],[U aZ],J,⟨J,ie⟩,⟨[U aZ],[],J,⟨J,jM⟩,J⟩⟩ J aJ ?_
  intro g0 w1 cR H6
  refine k ?_
  have H7:=H6.freeze 0 J
  have cx:=sJ (I:=I) (l:=([aO,aZ]:az)) H7.mb (H7.rv 6 J) (H7.rv 0 J)<|H7.at_ 2 J
  refine ca zP J (ec J<|ec J e0) cx ?_
  rintro _ w2 ⟨rfl,d_⟩
  have H8:=H6.ext d_
  refine ak (v:=.bool (!(([aO,aZ]:az).any (dV I)))) J J ?_
  rcases bE (!(([aO,aZ]:az).any (dV I))) with b7|b7
  ·
   refine aM J J J b7<|mv J i0<|aM J J J b7<|fa ir J J<|aM J J J b7<|lx H8 1 J aQ J J J<|aM J J J b7 ?_
   have eF:=EL (I:=I) (fo:=fo) (bf:=bf) (aO:=aO) H8.mb (hT.ext H8.below) (H8.rv 6 J) (H8.rv 5 J) (H8.rv 4 J) ie (H8.at_ 2 J) (by exact ho) (by exact cT) (by exact eT)<|by exact ln
   refine ca aaR J (ec J<|ec J e0) eF ?_
   rintro _ w3 ⟨rfl,eG⟩
   have H9:=H8.ext eG
   refine k<|ba J J J J b7 J<|ak (v:=.bool (te I fo bf aO)) J J ?_
   rcases bE (te I fo bf aO) with b8|b8
   ·
    refine aM J J J b8<|mv J i0<|aM J J J b8<|fa nw J J<|aM J J J b8<|lx H9 1 J aQ J J J<|aM J J J b8<|fa jo J J<|aM J J J b8<|lx H9 1 J aQ J J J<|aM J J J b8<|fa jo J J<|aM J J J b8<|lx H9 1 J aQ J J J<|aM J J J b8 ?_
    have gS:=qi (bf:=bf) (n1:=dH) (n2:=aZ) (n3:=aZ) H9.mb (H9.rv 4 J) pE jM jM<|H9.at_ 2 J
    refine ca Bq J (ec J<|ec J<|ec J<|ec J e0) gS ?_
    rintro _ w4 ⟨rfl,eI⟩
    have db:=H9.ext eI
    refine k<|ba J J J J b8 J<|aj (v:=.bool (fP bf dH aZ aZ)) J J<|aG<|rt<|bM<|aS<|r1 J J ?_
    exact⟨alB Value.bool (by simp only[iy,fk,dB,b0,b1,b2,b3,b4,b5,b6,(fE b7),b8,BL]),db.below⟩
   refine aD J J J b8<|aD J J J b8<|aD J J J b8<|aD J J J b8<|aD J J J b8<|aD J J J b8<|aD J J J b8<|aD J J J b8<|k<|bc J J J J b8 J<|aj (v:=.bool false) J J<|aG<|rt<|bM<|aS<|r1 J J ?_
   exact⟨alB Value.bool (by simp only[iy,fk,dB,b0,b1,b2,b3,b4,b5,b6,(fE b7),b8,BL]),H9.below⟩
  refine aD J J J b7<|aD J J J b7<|aD J J J b7<|aD J J J b7<|k<|bc J J J J b7 J<|ak (v:=.bool false) J J<|aD J J J J<|aD J J J J<|aD J J J J<|aD J J J J<|aD J J J J<|aD J J J J<|aD J J J J<|aD J J J J<|k<|bc J J J J J J<|aj (v:=.bool false) J J<|aG<|rt<|bM<|aS<|r1 J J ?_
  exact⟨alB Value.bool (by simp only[iy,fk,dB,b0,b1,b2,b3,b4,b5,b6,(fF b7),BL]),H8.below⟩
 refine sk<|aF<|dM<|aj (v:=.bool false) J J<|aG<|rt<|r1 J J ?_
 exact⟨alB Value.bool (by simp only[iy,fk,dB,b0,b1,b2,b3,b4,b5,b6,BL]),H5.below⟩
theorem agk:dq aX 20:=dy Tryz.func20
theorem agj:dq aX 22:=dy Tryz.func22
theorem agi:dq aX 23:=dy Tryz.func23
theorem agh:dq aX 25:=dy Tryz.func25
theorem mx (hM:ei M w) (hT:mi 0 w) (cX:cP M w av au I) (fM:cP M w ax aw fo) (xR:aN lv) (jm:aN kd) (kT:aN bB) (jM:aN aZ) (lQ:aN bK) (ie:aN aO) (HE:cP M w eM eL iM) (pE:aN dH) (pD:aN cV) (ho:et I) (cT:I.length≤4096) (eT:fo.length=I.length) (ln:∀x∈fo,x<((I.length:Nat):Int)) (jG:iM.length≤1000000):Calls aX 8 #[.agg #[.slice aC aE aB,sL av I au,sL ax fo aw],U lv,.agg #[U kd,U bB,U aZ,U bK,U aO,sL eM iM eL,U dH,U cV]] w (cZ fun v w'=>v=.bool (eA I fo lv kd bB aZ bK aO iM dH cV)∧Ext w w'):=by
 refine dK 31 Tryz.func8 J J J hM fun f0 ha H=>?_
 have H0:=cj H cX
 have H1:=cj H0 fM
 have H2:=cj H1 HE
 have i0:f0 0=.agg #[.slice aC aE aB,sL av I au,sL ax fo aw]:=ha 0 bH
 have i1:f0 1=U lv:=ha 1 bH
 have i2:f0 2=.agg #[U kd,U bB,U aZ,U bK,U aO,sL eM iM eL,U dH,U cV]:=ha 2 bH
 refine aH<|k<|bx H2 J i0 ?_
 let bC:=[iL eM iM eL,iL ax fo aw,iL av I au]
 intro aK w0 dt (H3:HI M w w0 (box aK #[.slice aC aE aB,sL av I au,sL ax fo aw] 32::bC))
 refine k<|bx H3 J i2 ?_
 let dk:=box aK #[.slice aC aE aB,sL av I au,sL ax fo aw] 32::bC
 intro aW w1 cR (H4:HI M w w1 (box aW #[U kd,U bB,U aZ,U bK,U aO,sL eM iM eL,U dH,U cV] 25::dk))
 refine aj (v:=.bool false) J J<|cU<|k<|cg H4 1 J dn J J aJ J<|k<|bd (v:=.agg #[.slice aC aE aB,sL av I au,sL ax fo aw,.slice none 0 0,.slice none 0 0]) J (ct J eo) (fun _=>bu)<|k<|bx H4 J J ?_
 intro bj w2 d_ (H5:HI M w w2 (box bj #[.slice aC aE aB,sL av I au,sL ax fo aw,.slice none 0 0,.slice none 0 0] 57::box aW #[U kd,U bB,U aZ,U bK,U aO,sL eM iM eL,U dH,U cV] 25::dk))
 refine aj (v:=pV bj 0) J J<|aG<|sq<|sq<|BB J bu<|xq J<|kq (fun _ _=>mv J i1 e1)<|zq<|xu (fun v w'=>∃(a0:OA) (c0:Nat),v=sL a0 (ez lv) c0∧RV (MS M [box bj #[.slice aC aE aB,sL av I au,sL ax fo aw,.slice none 0 0,.slice none 0 0] 57,box aW #[U kd,U bB,U aZ,U bK,U aO,sL eM iM eL,U dH,U cV] 25,box aK #[.slice aC aE aB,sL av I au,sL ax fo aw] 32,iL eM iM eL,iL ax fo aw,iL av I au]) w' (sL a0 (ez lv) c0) (ez lv)) J (by rintro _ _ _ x_ ⟨a0,c0,e_,eQ⟩;exact⟨a0,c0,e_,eQ.lift (Up.ext x_)⟩) J (fun v_ x_=>?_) ?_
 ·
  have H8:=H5.ext x_
  have eF:=R5 (lv:=lv) H8.mb xR
  refine ca agk J (ec J e0) eF ?_
  rintro _ w4 ⟨a1,c1,rfl,eI,gh⟩
  have fQ:=bm.rv gh H8.mb
  exact⟨_,J,eI,⟨a1,c1,J,fQ⟩⟩
 refine xq J<|kq (fun _ _=>fa um J J e1)<|zq<|xq J<|kq (fun _ x_=>lx (H5.ext x_) 1 J aQ J J J e1)<|zq<|F9 (X:=.bool ((ez lv).any (fun (z_:Int)=>decide (kd=z_)))) 0 J J (fun v_ u_ x_ h_=>?_) ?_
 ·
  have eB:=H5.ext x_
  obtain⟨a3,c3,s0,gl⟩:=h_
  have dZ:=cj eB gl
  have cc:=qg (gi:=(ez lv)) (lj:=kd) dZ.mb (dZ.rv 0 J) jm
  exact ca JV J (ec s0<|ec J e0) cc fun _ _ h_=>e2 h_
 refine xq J<|kq (fun _ _=>kc J J e1)<|zq<|xq J<|kq (fun _ _=>mv (v:=.bool (!((ez lv).any (fun (z_:Int)=>decide (kd=z_))))) J J e1)<|zq ?_
 rcases bE (!((ez lv).any (fun (z_:Int)=>decide (kd=z_)))) with b0|b0
 ·
  refine xq J<|qn J J J b0<|zq<|xq J<|qn J J J b0<|zq<|xq J<|qn J J J b0<|zq<|xq J<|kq (fun _ _=>ba J J J J b0 J e1)<|zq<|zx ?_
  intro w6 f0 iJ cI ji
  have cM:=H5.ext iJ
  have s3:=cI 21 J
  refine nx<|nP J s3 J<|aH<|aj (v:=.bool false) J J<|aG<|rt<|aS<|r1 J J ?_
  exact⟨alB Value.bool (by simp only[eA,fk,(fE b0),BL]),cM.below⟩
 refine xq J<|qy J J J b0<|kq (fun _ x_=>cg (H5.ext x_) 1 J cu J J aJ J e1)<|zq<|xu (fun v w'=>∃(a4:OA) (c4:Nat),v=sL a4 (gA kd bB aZ bK aO dH cV) c4∧RV (MS M [box bj #[.slice aC aE aB,sL av I au,sL ax fo aw,.slice none 0 0,.slice none 0 0] 57,box aW #[U kd,U bB,U aZ,U bK,U aO,sL eM iM eL,U dH,U cV] 25,box aK #[.slice aC aE aB,sL av I au,sL ax fo aw] 32,iL eM iM eL,iL ax fo aw,iL av I au]) w' (sL a4 (gA kd bB aZ bK aO dH cV) c4) (gA kd bB aZ bK aO dH cV)) J (by rintro _ _ _ x_ ⟨a4,c4,e_,lM⟩;exact⟨a4,c4,e_,lM.lift (Up.ext x_)⟩) J (fun v_ x_=>?_) ?_
 ·
  have eY:=H5.ext x_
  refine gy J J J b0 ?_
  have oo:=Hw (kd:=kd) (bB:=bB) (aZ:=aZ) (bK:=bK) (aO:=aO) (dH:=dH) (cV:=cV) (eM:=eM) (jd:=iM.length) (eL:=eL) eY.mb jm kT jM lQ ie pE pD
  refine ca agj J (ec J e0) oo ?_
  rintro _ w7 ⟨a5,c5,rfl,je,ml⟩
  have kK:=bm.rv ml eY.mb
  exact⟨_,J,je,⟨a5,c5,J,kK⟩⟩
 refine F9 (X:=.bool ((gA kd bB aZ bK aO dH cV).any (fun (x_:Int)=>!decide (x_=(-1))))) 0 J J (fun v_ u_ x_ h_=>?_) ?_
 ·
  have gI:=H5.ext x_
  obtain⟨a7,c7,s1,pP⟩:=h_
  have kO:=cj gI pP
  refine gy J J J b0 ?_
  have cc:=wC (r:=(gA kd bB aZ bK aO dH cV)) (p:=(fun (x_:Int)=>!decide (x_=(-1)))) kO.mb (kO.rv 0 J) ⟨agi,fun w_ v_ x_ ki e_ oC=>by have H_:=kO.ext e_;obtain⟨_,⟨rfl,qM⟩,rfl⟩:=oC;exact KC qM⟩
  exact ca aa2 J (ec s1<|ec J e0) cc fun _ _ h_=>e2 h_
 refine xq J<|kq (fun _ _=>bc J J J J b0 J e1)<|zq<|zx ?_
 intro w9 f0 jD cI ji
 have lK:=H5.ext jD
 have s2:=cI 5 J
 have s3:=cI 7 J
 have s4:=cI 21 J
 refine nx<|cd (b:=(gA kd bB aZ bK aO dH cV).any (fun (x_:Int)=>!decide (x_=(-1)))) J s4 (fun b1=>?_)<|fun b1=>?_
 ·
  refine aH<|aj (v:=.bool false) J J<|aG<|rt<|aS<|r1 J J ?_
  exact⟨alB Value.bool (by simp only[eA,fk,(fF b0),b1,BL]),lK.below⟩
 refine sk<|dM<|ak J s3<|bo pa J s2<|bR lK 1 J oI J J J<|k ?_
 have lT:=lK.ke aA 92
 have pc:=lT.ke Bool 4
 have iE:HI M w w9 ([box bj #[.slice aC aE aB,sL av I au,sL ax fo aw,.slice none 0 0,.slice none 0 0] 57,iL av I au,iL ax fo aw,own w.heap.size 92 (.slice none 0 0) ([]:List aA),own w.heap.size 4 (.slice none 0 0) ([]:List Bool),iL eM iM eL]++[box aW #[U kd,U bB,U aZ,U bK,U aO,sL eM iM eL,U dH,U cV] 25,box aK #[.slice aC aE aB,sL av I au,sL ax fo aw] 32]):=pc.c_ [2,7,6,1,0,5,3,4] aJ J
 have y6:=KD (bZ:=bj) (aC:=aC) (aE:=aE) (aB:=aB) (av:=av) (au:=au) (I:=I) (ax:=ax) (aw:=aw) (fo:=fo) (cF:=none) (cE:=0) (bf:=([]:List aA)) (dA:=none) (dz:=0) (pl:=([]:List Bool)) (dO:=eM) (dN:=eL) (l:=iM) (w:=w) (w_:=w9) (r:=[box aW #[U kd,U bB,U aZ,U bK,U aO,sL eM iM eL,U dH,U cV] 25,box aK #[.slice aC aE aB,sL av I au,sL ax fo aw] 32]) (M:=M) (by exact ho) (by exact cT) (by exact eT) (by rfl) (by simp;omega) iE
 refine ca aa1 J (ec J<|ec J e0) y6 ?_
 rintro _ jb ⟨a8,c8,a9,c9,rfl,kY⟩
 have kt:HI M w jb [box bj #[.slice aC aE aB,sL av I au,sL ax fo aw,sL a8 ((du I fo ([]:List aA) ([]:List Bool) iM).2.1) c8,sL a9 ((du I fo ([]:List aA) ([]:List Bool) iM).2.2) c9] 57,iL av I au,iL ax fo aw,oL w 92 a8 ((du I fo ([]:List aA) ([]:List Bool) iM).2.1) c8,oL w 4 a9 ((du I fo ([]:List aA) ([]:List Bool) iM).2.2) c9,iL eM iM eL,box aW #[U kd,U bB,U aZ,U bK,U aO,sL eM iM eL,U dH,U cV] 25,box aK #[.slice aC aE aB,sL av I au,sL ax fo aw] 32]:=kY
 refine ak (v:=.bool ((du I fo ([]:List aA) ([]:List Bool) iM).1)) J J ?_
 rcases bE ((du I fo ([]:List aA) ([]:List Bool) iM).1) with b2|b2
 ·
  refine aM J J J b2<|mv J s3<|aM J J J b2<|cg kt 6 J cu J s2 aJ J<|aM J J J b2 ?_
  have lJ:=kt.freeze 3 J
  have kH:=lJ.freeze 4 J
  have Kt:=Lu (I:=I) (fo:=fo) (bf:=((du I fo ([]:List aA) ([]:List Bool) iM).2.1)) (pl:=((du I fo ([]:List aA) ([]:List Bool) iM).2.2)) (kd:=kd) (bB:=bB) (aZ:=aZ) (bK:=bK) (aO:=aO) (dH:=dH) (cV:=cV) (eM:=eM) (jd:=iM.length) (eL:=eL) (w:=jb) (M:=fun _=>False) (fun _ h_=>h_.elim) (hT.ext kH.below) ((kH.rv 1 J).lift (Up.less fun _ _ h_=>h_.elim)) ((kH.rv 2 J).lift (Up.less fun _ _ h_=>h_.elim)) ((kH.rv 3 J).lift (Up.less fun _ _ h_=>h_.elim)) ((kH.rv 4 J).lift (Up.less fun _ _ h_=>h_.elim)) jm kT jM lQ ie pE pD ⟨kH.at_ 0 rfl,fun h_=>h_⟩ (by exact ho) (by exact cT) (by exact eT) (by exact ln)<|by exact WJ cG
  refine ca agh J (ec J<|ec J e0) Kt ?_
  rintro _ iK ⟨rfl,gv⟩
  have rn:=kt.ext gv
  refine k<|ba J J J J b2 J<|aj (v:=.bool (iy I fo ((du I fo ([]:List aA) ([]:List Bool) iM).2.1) ((du I fo ([]:List aA) ([]:List Bool) iM).2.2) kd bB aZ bK aO dH cV)) J J<|aG<|rt<|r1 J J ?_
  exact⟨alB Value.bool (by simp only[eA,fk,(fF b0),b1,b2,BL]),rn.below⟩
 refine aD J J J b2<|aD J J J b2<|aD J J J b2<|k<|bc J J J J b2 J<|aj (v:=.bool false) J J<|aG<|rt<|r1 J J ?_
 exact⟨alB Value.bool (by simp only[eA,fk,(fF b0),b1,b2,BL]),kt.below⟩
theorem go7:dq aX 7:=dy Tryz.func7
theorem G3:dq aX 8:=dy Tryz.func8
theorem aa4:dq aX 10:=dy Tryz.func10
theorem vm (hT:mi 0 w):Calls aX 6 #[] w (cZ fun v w'=>v=.bool true∧Ext w w'):=by
 refine dK 39 Tryz.func6 J J J yo fun f0 ha H=>?_
 refine aH<|aj (v:=.bool false) J J<|cU<|k<|bd (v:=.agg #[.bool false,.string ⟨#[120]⟩,U 1]) J (ct J<|ct J eo) (fun _=>bu)<|k<|bs (xs:=([(false,⟨#[120]⟩,1)]:List (Bool×fO×Int))) (cells:=#[.bool false,.string ⟨#[120]⟩,U 1]) (e:=48) H J (ct J eo) (fun _=>bu) ⟨[.bool false,.string ⟨#[120]⟩,U 1],[],J,⟨_,_,J,J,⟨_,_,J,⟨J,(by decide +kernel)⟩,⟨J,(show aN (1) from(by unfold aN;decide +kernel))⟩⟩⟩,J⟩ J aJ ?_
 intro g0 w0 dt H0
 refine k ?_
 have H1:=H0.freeze 0 J
 refine bs (xs:=gr) (cells:=#[sL (some ⟨g0,0,none⟩) ([(false,⟨#[120]⟩,1)]:List (Bool×fO×Int)) 1]) (e:=45) H1 J (ct J eo) (fun _=>bu) ⟨[sL (some ⟨g0,0,none⟩) ([(false,⟨#[120]⟩,1)]:List (Bool×fO×Int)) 1],[],J,⟨_,J,RV.list.1 (H1.rv 0 J)⟩,J⟩ J aJ ?_
 intro g1 w1 cR H2
 refine k ?_
 have H3:=H2.freeze 0 J
 have cx:=IJ (h:=gr) H3.mb (H3.rv 0 J)<|by decide +kernel
 refine ca go7 J (ec J e0) cx ?_
 rintro _ w2 ⟨a0,c0,a1,c1,a2,c2,rfl,d_,cL,eQ,gh⟩
 have H4:=H3.ext d_
 have H5:=cj H4 cL
 have H6:=cj H5 eQ
 have H7:=cj H6 gh
 refine ak (v:=.tuple #[.agg #[sL a0 (kP gr) c0,sL a1 (dX gr) c1,sL a2 (ef gr) c2],.bool (lE gr)]) J J<|k<|xt J J J<|k<|xt J J J<|k<|al H7 dn ?_
 let bC:=[iL a2 (ef gr) c2,iL a1 (dX gr) c1,iL a0 (kP gr) c0,xl (.slice (some ⟨g1,0,none⟩) 1 1) gr,xl (.slice (some ⟨g0,0,none⟩) 1 1) ([(false,⟨#[120]⟩,1)]:List (Bool×fO×Int))]
 intro aK w3 eG (H8:HI (fun _=>False) w w3 (box aK #[.slice none 0 0,.slice none 0 0,.slice none 0 0] 32::bC))
 refine k<|cz H8 0 J dn J J J J J J J ?_
 let dk:=box aK #[sL a0 (kP gr) c0,sL a1 (dX gr) c1,sL a2 (ef gr) c2] 32::bC
 intro w4 (H9:HI (fun _=>False) w w4 dk)
 refine aj (v:=.bool (lE gr)) J J<|cU<|k<|bd (v:=.agg #[U 1,U 0,U (-1),U (-1),U (-1),.slice none 0 0,U (-1),U (-1)]) J (ct J<|ct J<|ct J<|ct J<|ct J<|ct J<|ct J eo) (fun _=>bu)<|k<|al H9 cu ?_
 intro aW w5 eI (db:HI (fun _=>False) w w5 (box aW #[U 0,U 0,U 0,U 0,U 0,.slice none 0 0,U 0,U 0] 25::dk))
 refine k<|cz db 0 J cu J J J J J J J ?_
 let dv:=box aW #[U 1,U 0,U (-1),U (-1),U (-1),.slice none 0 0,U (-1),U (-1)] 25::dk
 intro w6 (da:HI (fun _=>False) w w6 dv)
 refine cU<|k<|cg da 0 J cu J J aJ J<|k<|al da cu ?_
 intro bj w7 ly (eB:HI (fun _=>False) w w7 (box bj #[U 0,U 0,U 0,U 0,U 0,.slice none 0 0,U 0,U 0] 25::dv))
 refine k<|cz eB 0 J cu J J J J J J J ?_
 intro w8 (dZ:HI (fun _=>False) w w8 (box bj #[U 1,U 0,U (-1),U (-1),U (-1),.slice none 0 0,U (-1),U (-1)] 25::dv))
 refine cU<|bo ir J J<|k<|cz dZ 0 J aQ J J J J J J J ?_
 intro w9 (cM:HI (fun _=>False) w w9 (box bj #[U 1,U 0,U (-1),U (-1),U 0,.slice none 0 0,U (-1),U (-1)] 25::dv))
 refine cU<|k<|cg cM 2 J dn J J aJ J<|k<|cg cM 1 J cu J J aJ J<|k ?_
 have eF:=mx (I:=(dX gr)) (fo:=(ef gr)) (lv:=1) (kd:=1) (bB:=0) (aZ:=(-1)) (bK:=(-1)) (aO:=(-1)) (iM:=([]:List aA)) (dH:=(-1)) (cV:=(-1)) (aC:=a0) (aE:=(kP gr).length) (aB:=c0) cM.mb (hT.ext cM.below) (cM.rv 4 J) (cM.rv 3 J) (by unfold aN;decide +kernel) (by unfold aN;decide +kernel) (by unfold aN;decide +kernel) (by unfold aN;decide +kernel) (by unfold aN;decide +kernel) (by unfold aN;decide +kernel) (lC _ _) (by unfold aN;decide +kernel) (by unfold aN;decide +kernel) (by exact ng _) (by decide +kernel) (by decide +kernel) (by decide +kernel)<|by decide +kernel
 refine ca G3 J (ec J<|ec J<|ec J e0) eF ?_
 rintro _ jb ⟨rfl,iJ⟩
 have fR:=cM.ext iJ
 refine ak (v:=.bool (eA (dX gr) (ef gr) 1 1 0 (-1) (-1) (-1) ([]:List aA) (-1) (-1))) J J ?_
 have Az:(eA (dX gr) (ef gr) 1 1 0 (-1) (-1) (-1) ([]:List aA) (-1) (-1))=true:=(by decide +kernel)
 refine aM J J J Az<|cg fR 2 J dn J J aJ J<|aM J J J Az<|cg fR 1 J cu J J aJ J<|aM J J J Az ?_
 have gS:=mx (I:=(dX gr)) (fo:=(ef gr)) (lv:=3) (kd:=1) (bB:=0) (aZ:=(-1)) (bK:=(-1)) (aO:=(-1)) (iM:=([]:List aA)) (dH:=(-1)) (cV:=(-1)) (aC:=a0) (aE:=(kP gr).length) (aB:=c0) fR.mb (hT.ext fR.below) (fR.rv 4 J) (fR.rv 3 J) (by unfold aN;decide +kernel) (by unfold aN;decide +kernel) (by unfold aN;decide +kernel) (by unfold aN;decide +kernel) (by unfold aN;decide +kernel) (by unfold aN;decide +kernel) (lC _ _) (by unfold aN;decide +kernel) (by unfold aN;decide +kernel) (by exact ng _) (by decide +kernel) (by decide +kernel) (by decide +kernel)<|by decide +kernel
 refine ca G3 J (ec J<|ec J<|ec J e0) gS ?_
 rintro _ iK ⟨rfl,je⟩
 have eY:=fR.ext je
 refine k<|ba J J J J Az J<|ak (v:=.bool (eA (dX gr) (ef gr) 3 1 0 (-1) (-1) (-1) ([]:List aA) (-1) (-1))) J J ?_
 have Iq:(eA (dX gr) (ef gr) 3 1 0 (-1) (-1) (-1) ([]:List aA) (-1) (-1))=true:=(by decide +kernel)
 refine aM J J J Iq<|cg eY 2 J dn J J aJ J<|aM J J J Iq<|cg eY 1 J cu J J aJ J<|aM J J J Iq ?_
 have nB:=mx (I:=(dX gr)) (fo:=(ef gr)) (lv:=0) (kd:=1) (bB:=0) (aZ:=(-1)) (bK:=(-1)) (aO:=(-1)) (iM:=([]:List aA)) (dH:=(-1)) (cV:=(-1)) (aC:=a0) (aE:=(kP gr).length) (aB:=c0) eY.mb (hT.ext eY.below) (eY.rv 4 J) (eY.rv 3 J) (by unfold aN;decide +kernel) (by unfold aN;decide +kernel) (by unfold aN;decide +kernel) (by unfold aN;decide +kernel) (by unfold aN;decide +kernel) (by unfold aN;decide +kernel) (lC _ _) (by unfold aN;decide +kernel) (by unfold aN;decide +kernel) (by exact ng _) (by decide +kernel) (by decide +kernel) (by decide +kernel)<|by decide +kernel
 refine ca G3 J (ec J<|ec J<|ec J e0) nB ?_
 rintro _ jf ⟨rfl,lh⟩
 have fg:=eY.ext lh
 refine aM J J J Iq<|kc J J<|k<|ba J J J J Iq J<|ak (v:=.bool (!(eA (dX gr) (ef gr) 0 1 0 (-1) (-1) (-1) ([]:List aA) (-1) (-1)))) J J ?_
 have Pn:(eA (dX gr) (ef gr) 0 1 0 (-1) (-1) (-1) ([]:List aA) (-1) (-1))=false:=(by decide +kernel)
 refine aM J J J (by rw[show (eA (dX gr) (ef gr) 0 1 0 (-1) (-1) (-1) ([]:List aA) (-1) (-1))=false from Pn]<;>rfl)<|cg fg 2 J dn J J aJ J<|aM J J J (by rw[show (eA (dX gr) (ef gr) 0 1 0 (-1) (-1) (-1) ([]:List aA) (-1) (-1))=false from Pn]<;>rfl)<|cg fg 0 J cu J J aJ J<|aM J J J (by rw[show (eA (dX gr) (ef gr) 0 1 0 (-1) (-1) (-1) ([]:List aA) (-1) (-1))=false from Pn]<;>rfl) ?_
 have oo:=mx (I:=(dX gr)) (fo:=(ef gr)) (lv:=1) (kd:=1) (bB:=0) (aZ:=(-1)) (bK:=(-1)) (aO:=0) (iM:=([]:List aA)) (dH:=(-1)) (cV:=(-1)) (aC:=a0) (aE:=(kP gr).length) (aB:=c0) fg.mb (hT.ext fg.below) (fg.rv 4 J) (fg.rv 3 J) (by unfold aN;decide +kernel) (by unfold aN;decide +kernel) (by unfold aN;decide +kernel) (by unfold aN;decide +kernel) (by unfold aN;decide +kernel) (by unfold aN;decide +kernel) (lC _ _) (by unfold aN;decide +kernel) (by unfold aN;decide +kernel) (by exact ng _) (by decide +kernel) (by decide +kernel) (by decide +kernel)<|by decide +kernel
 refine ca G3 J (ec J<|ec J<|ec J e0) oo ?_
 rintro _ ju ⟨rfl,jD⟩
 have gz:=fg.ext jD
 refine aM J J J (by rw[show (eA (dX gr) (ef gr) 0 1 0 (-1) (-1) (-1) ([]:List aA) (-1) (-1))=false from Pn]<;>rfl)<|kc J J<|k<|ba J J J J (by rw[show (eA (dX gr) (ef gr) 0 1 0 (-1) (-1) (-1) ([]:List aA) (-1) (-1))=false from Pn]<;>rfl) J<|ak (v:=.bool (!(eA (dX gr) (ef gr) 1 1 0 (-1) (-1) 0 ([]:List aA) (-1) (-1)))) J J ?_
 have Yl:(eA (dX gr) (ef gr) 1 1 0 (-1) (-1) 0 ([]:List aA) (-1) (-1))=false:=(by decide +kernel)
 refine aM J J J (by rw[show (eA (dX gr) (ef gr) 1 1 0 (-1) (-1) 0 ([]:List aA) (-1) (-1))=false from Yl]<;>rfl)<|cg gz 2 J dn J J aJ J<|aM J J J (by rw[show (eA (dX gr) (ef gr) 1 1 0 (-1) (-1) 0 ([]:List aA) (-1) (-1))=false from Yl]<;>rfl) ?_
 have wF:=CJ (I:=(dX gr)) (fo:=(ef gr)) (l:=([]:List aA)) (aC:=a0) (aE:=(kP gr).length) (aB:=c0) gz.mb (gz.rv 4 J) (gz.rv 3 J) (lC _ _) (by exact ng _) (by decide +kernel) (by decide +kernel)<|by decide +kernel
 refine ca aa4 J (ec J<|ec J e0) wF ?_
 rintro _ jK ⟨rfl,gv⟩
 have jP:=gz.ext gv
 refine k<|ba J J J J (by rw[show (eA (dX gr) (ef gr) 1 1 0 (-1) (-1) 0 ([]:List aA) (-1) (-1))=false from Yl]<;>rfl) J<|aj (v:=.bool (vy (dX gr) (ef gr) ([]:List aA))) J J<|aG<|rt<|r1 J J ?_
 have tr4:(vy (dX gr) (ef gr) ([]:List aA))=true:=(by decide +kernel)
 exact⟨alB Value.bool (by exact tr4),jP.below⟩
theorem go5:dq aX 5:=dy Tryz.func5
theorem Mv:dq aX 6:=dy Tryz.func6
theorem agp:dq aX 12:=dy Tryz.func12
theorem Fb (hM:ei M w) (hT:mi 0 w) (r7:cP M w kr ko h) (xR:0≤lv∧lv≤255) (jm:aN kd) (kT:aN bB) (jM:aN aZ) (lQ:aN bK) (ie:aN aO) (HE:cP M w eM eL iM) (pE:aN dH) (pD:aN cV) (wh:h.flatten.length≤1048576):Calls aX 4 #[sL kr h ko,.int .u8 lv,.agg #[U kd,U bB,U aZ,U bK,U aO,sL eM iM eL,U dH,U cV]] w (cZ fun v w'=>v=.bool true∧Ext w w'):=by
 refine dK 89 Tryz.func4 J J J hM fun f0 ha H=>?_
 let J0:=iL kr h ko
 have H0:=H.put (it:=J0) J<|by rw[dY];exact r7
 let J1:=iL eM iM eL
 have H1:=H0.put (it:=J1) J<|by rw[bp rfl,dY];exact HE
 have Oa:=bN r7
 have ahs:=bN HE
 have i0:f0 0=sL kr h ko:=ha 0 bH
 have i1:f0 1=.int .u8 lv:=ha 1 bH
 have i2:f0 2=.agg #[U kd,U bB,U aZ,U bK,U aO,sL eM iM eL,U dH,U cV]:=ha 2 bH
 refine aH<|k<|bx H1 J i2 ?_
 intro aK w0 dt (H2:HI M w w0 [box aK #[U kd,U bB,U aZ,U bK,U aO,sL eM iM eL,U dH,U cV] 25,J1,J0])
 let J2:=box aK #[U kd,U bB,U aZ,U bK,U aO,sL eM iM eL,U dH,U cV] 25
 refine aj (v:=.bool false) J J<|aG<|sq<|aH<|ak J i0<|k ?_
 have cx:=Ld (h:=h) (m:=12) H2.mb (H2.rv 2 J) aY ai
 refine ca go5 J (ec J<|ec J e0) cx ?_
 rintro _ w1 ⟨rfl,cR⟩
 have H3:=H2.ext cR
 refine k<|kc J J<|ak (v:=.bool (!(mF h 12))) J J ?_
 rcases bE (!(mF h 12)) with b0|b0
 ·
  refine aD J J J b0<|aD J J J b0<|aD J J J b0<|aD J J J b0<|k<|ba J J J J b0 J<|aG<|nP J J J<|aH<|k ?_
  have eF:=vm (w:=w1)<|hT.ext H3.below
  refine ca Mv J e0 eF ?_
  rintro _ w2 ⟨rfl,d_⟩
  have H4:=H3.ext d_
  refine aj (v:=.bool true) J J<|aG<|rt<|aS<|r1 J J ?_
  exact⟨J,H4.below⟩
 refine aM J J J b0<|fa pa J J<|aM J J J b0<|lx H3 0 J oI J J J<|aM J J J b0<|ep J J mY<|aM J J J b0<|gtr J J J J<|k<|bc J J J J b0 J<|z<|nx<|cd (b:=decide (60<(iM.length:Int))) J J (fun b1=>?_)<|fun b1=>?_
 ·
  refine aH<|k ?_
  have eF:=vm (w:=w1)<|hT.ext H3.below
  refine ca Mv J e0 eF ?_
  rintro _ w2 ⟨rfl,d_⟩
  have H4:=H3.ext d_
  refine aj (v:=.bool true) J J<|aG<|rt<|aS<|r1 J J ?_
  exact⟨J,H4.below⟩
 have p1:=dF b1
 refine sk<|nx<|sq ?_
 have sm_:mF h 12=true:=by simpa using ‹(!mF h 12)=false›
 have fl_:=(Py.1 sm_).2.1
 have il_:=Tt h
 refine rg<|ak J i0<|k ?_
 have eF:=IJ (h:=h) H3.mb (H3.rv 2 J) ai
 refine ca go7 J (ec J e0) eF ?_
 rintro _ w2 ⟨a0,c0,a1,c1,a2,c2,rfl,d_,cL,eQ,gh⟩
 have H4:=H3.ext d_
 let J3:=iL a0 (kP h) c0
 have H5:=H4.put (it:=J3) J cL
 let J4:=iL a1 (dX h) c1
 have H6:=H5.put (it:=J4) J<|by rw[bp J];exact eQ
 let J5:=iL a2 (ef h) c2
 have H7:=H6.put (it:=J5) J<|by rw[bp rfl,bp rfl];exact gh
 refine ak (v:=.tuple #[.agg #[sL a0 (kP h) c0,sL a1 (dX h) c1,sL a2 (ef h) c2],.bool (lE h)]) J J<|k<|xt J J J<|k<|xt J J J<|k<|al H7 dn ?_
 let bC:=[J5,J4,J3,J2,J1,J0]
 intro aW w3 eG (H8:HI M w w3 (box aW #[.slice none 0 0,.slice none 0 0,.slice none 0 0] 32::bC))
 refine k<|cz H8 0 J dn J J J J J J J ?_
 let J6:=box aW #[sL a0 (kP h) c0,sL a1 (dX h) c1,sL a2 (ef h) c2] 32
 intro w4 (H9:HI M w w4 (J6::bC))
 refine aj (v:=.bool (lE h)) J J<|aG<|sq<|aH<|ak (v:=.bool (lE h)) J J<|k<|kc J J<|z<|nx<|cd (b:=!(lE h)) J J (fun b2=>?_)<|fun b2=>?_
 ·
  refine aH<|k ?_
  have gS:=vm (w:=w4)<|hT.ext H9.below
  refine ca Mv J e0 gS ?_
  rintro _ w5 ⟨rfl,eI⟩
  have db:=H9.ext eI
  refine aj (v:=.bool true) J J<|aG<|rt<|aS<|r1 J J ?_
  exact⟨J,db.below⟩
 refine sk<|nx<|sq ?_
 have VU:nD (dX h) (ef h):=aa8<|by exact fF ‹(!lE h)=false›
 refine rg<|ak J i1<|k<|rem J J J J ai<|k<|cvI J J aY UL tP<|k<|add J J J J aY<|aj (v:=U (1+(lv%3))) J J<|cU<|k<|cg H9 0 J dn J J aJ J<|ak (v:=U (1+(lv%3))) J J<|k ?_
 have gS:=Ny (I:=(dX h)) (fo:=(ef h)) (lv:=(1+(lv%3))) (aC:=a0) (aE:=(kP h).length) (aB:=c0) H9.mb (H9.rv 2 J) (H9.rv 1 J) aY (by exact ng h) ai (by exact oP h) (by exact rU h) ai ai<|by exact VU
 refine ca agp J (ec J<|ec J e0) gS ?_
 rintro _ w5 ⟨o0,o1,o2,o3,o4,o5,o6,o7,a3,c3,rfl,eI,fQ,q0,q1,q2,q3,q4⟩
 have db:=H9.ext eI
 let J7:=iL a3 o5 c3
 have da:=db.put (it:=J7) J fQ
 refine ak (v:=.tuple #[.agg #[U o0,U o1,U o2,U o3,U o4,sL a3 o5 c3,U o6,U o7],U (iX (dX h) (ef h)<|1+(lv%3))]) J J<|k<|xt J J J<|k<|xt J J J<|k<|al da cu ?_
 let dk:=J7::J6::bC
 intro bj w6 ly (eB:HI M w w6 (box bj #[U 0,U 0,U 0,U 0,U 0,.slice none 0 0,U 0,U 0] 25::dk))
 refine k<|cz eB 0 J cu J J J J J J J ?_
 let J8:=box bj #[U o0,U o1,U o2,U o3,U o4,sL a3 o5 c3,U o6,U o7] 25
 intro w7 (dZ:HI M w w7 (J8::dk))
 refine aj (v:=U (iX (dX h) (ef h)<|1+(lv%3))) J J<|aG<|sq<|sq ?_
 obtain⟨i1_,i2_,i3_,i4_,i5_⟩:=Wo cG
 refine rg<|ak (v:=U (iX (dX h) (ef h)<|1+(lv%3))) J J<|k<|eql J J J J<|z<|nx<|cd (b:=decide ((iX (dX h) (ef h)<|1+(lv%3))=0)) J J (fun b3=>?_)<|fun b3=>?_
 ·
  have p3:=dT b3
  refine sq ?_
  have sT:=XD (I:=dX h) (fo:=ef h) cG cG
  refine rg<|k<|cg dZ 0 J cu J J aJ J<|k<|al dZ cu ?_
  intro dI w8 iJ (cM:HI M w w8 (box dI #[U 0,U 0,U 0,U 0,U 0,.slice none 0 0,U 0,U 0] 25::J8::dk))
  refine k<|cz cM 0 J cu J J J J J J J ?_
  intro w9 (fR:HI M w w9 (box dI #[U o0,U o1,U o2,U o3,U o4,sL a3 o5 c3,U o6,U o7] 25::J8::dk))
  refine cU<|bo pa J J<|bR fR 1 J oI J J J<|k<|ep J J mY<|bo nw J J<|k<|cz fR 0 J aQ J J J J J J J ?_
  let J9:=box dI #[U o0,U o1,U o2,U o3,U o4,sL a3 o5 c3,U (o5.length:Int),U o7] 25
  intro jb (eY:HI M w jb (J9::J8::dk))
  refine cU<|k<|cg eY 3 J dn J J aJ J<|ak (v:=U (1+(lv%3))) J J<|k<|cg eY 1 J cu J J aJ J<|k ?_
  have nB:=mx (I:=(dX h)) (fo:=(ef h)) (lv:=(1+(lv%3))) (kd:=o0) (bB:=o1) (aZ:=o2) (bK:=o3) (aO:=o4) (iM:=o5) (dH:=o6) (cV:=o7) (aC:=a0) (aE:=(kP h).length) (aB:=c0) eY.mb (hT.ext eY.below) (eY.rv 5 J) (eY.rv 4 J) aY cG cG cG cG cG (eY.rv 2 J) cG cG (by exact ng h) ai (by exact oP h) (by exact rU h) ai
  refine ca G3 J (ec J<|ec J<|ec J e0) nB ?_
  rintro _ iK ⟨rfl,je⟩
  have fg:=eY.ext je
  refine k<|kc J J<|ak (v:=.bool (!(eA (dX h) (ef h) (1+(lv%3)) o0 o1 o2 o3 o4 o5 o6 o7))) J J<|aM J J J (by rw[show (eA (dX h) (ef h) (1+(lv%3)) o0 o1 o2 o3 o4 o5 o6 o7)=true from sT]<;>rfl)<|cg fg 3 J dn J J aJ J<|aM J J J (by rw[show (eA (dX h) (ef h) (1+(lv%3)) o0 o1 o2 o3 o4 o5 o6 o7)=true from sT]<;>rfl)<|mv (v:=U (1+(lv%3))) J J<|aM J J J (by rw[show (eA (dX h) (ef h) (1+(lv%3)) o0 o1 o2 o3 o4 o5 o6 o7)=true from sT]<;>rfl)<|cg fg 0 J cu J J aJ J<|aM J J J (by rw[show (eA (dX h) (ef h) (1+(lv%3)) o0 o1 o2 o3 o4 o5 o6 o7)=true from sT]<;>rfl) ?_
  have oo:=mx (I:=(dX h)) (fo:=(ef h)) (lv:=(1+(lv%3))) (kd:=o0) (bB:=o1) (aZ:=o2) (bK:=o3) (aO:=o4) (iM:=o5) (dH:=(o5.length:Int)) (cV:=o7) (aC:=a0) (aE:=(kP h).length) (aB:=c0) fg.mb (hT.ext fg.below) (fg.rv 5 J) (fg.rv 4 J) aY cG cG cG cG cG (fg.rv 2 J) aY cG (by exact ng h) ai (by exact oP h) (by exact rU h) ai
  refine ca G3 J (ec J<|ec J<|ec J e0) oo ?_
  rintro _ jf ⟨rfl,lh⟩
  have gz:=fg.ext lh
  refine k<|bc J J J J (by rw[show (eA (dX h) (ef h) (1+(lv%3)) o0 o1 o2 o3 o4 o5 o6 o7)=true from sT]<;>rfl) J<|ak (v:=.bool (eA (dX h) (ef h) (1+(lv%3)) o0 o1 o2 o3 o4 o5 (o5.length:Int) o7)) J J<|aM J J J yK<|cg gz 3 J dn J J aJ J<|aM J J J yK<|fa pa J J<|aM J J J yK<|lx gz 1 J oI J J J<|aM J J J yK ?_
  have wF:=CJ (I:=(dX h)) (fo:=(ef h)) (l:=o5) (aC:=a0) (aE:=(kP h).length) (aB:=c0) gz.mb (gz.rv 5 J) (gz.rv 4 J) (gz.rv 2 J) (by exact ng h) ai (by exact oP h) ai
  refine ca aa4 J (ec J<|ec J e0) wF ?_
  rintro _ ju ⟨rfl,jD⟩
  have jP:=gz.ext jD
  refine aM J J J yK<|kc J J<|k<|bc J J J J yK J<|aG<|l7 J J (by rw[show (vy (dX h) (ef h) o5)=true from(Lo sT)]<;>rfl)<|sk<|nx<|sq<|aH<|k<|cg jP 3 J dn J J aJ J<|ak (v:=U (1+(lv%3))) J J<|k<|cg jP 7 J cu J J aJ J<|k ?_
  have y6:=mx (I:=(dX h)) (fo:=(ef h)) (lv:=(1+(lv%3))) (kd:=kd) (bB:=bB) (aZ:=aZ) (bK:=bK) (aO:=aO) (iM:=iM) (dH:=dH) (cV:=cV) (aC:=a0) (aE:=(kP h).length) (aB:=c0) jP.mb (hT.ext jP.below) (jP.rv 5 J) (jP.rv 4 J) aY jm kT jM lQ ie (jP.rv 8 J) pE pD (by exact ng h) ai (by exact oP h) (by exact rU h) ai
  refine ca G3 J (ec J<|ec J<|ec J e0) y6 ?_
  rintro _ jK ⟨rfl,gv⟩
  have gI:=jP.ext gv
  refine k<|kc J J<|z<|nx<|cd (b:=!(eA (dX h) (ef h) (1+(lv%3)) kd bB aZ bK aO iM dH cV)) J J (fun b4=>?_)<|fun b4=>?_
  ·
   refine aH<|k ?_
   have Kt:=vm (w:=jK)<|hT.ext gI.below
   refine ca Mv J e0 Kt ?_
   rintro _ lz ⟨rfl,j0⟩
   have kO:=gI.ext j0
   refine aj (v:=.bool true) J J<|aG<|rt<|aS<|r1 J J ?_
   exact⟨J,kO.below⟩
  refine sk<|nx<|sq ?_
  have uO:=fF ‹(!eA (dX h) (ef h) (1+lv%3) kd bB aZ bK aO iM dH cV)=false›
  refine rg<|k<|cg gI 3 J dn J J aJ J<|bo um J J<|bR gI 7 J aQ J J J<|k ?_
  have Kt:=Gt (I:=(dX h)) (fo:=(ef h)) (kd:=kd) (aC:=a0) (aE:=(kP h).length) (aB:=c0) gI.mb (gI.rv 5 J) (gI.rv 4 J) jm (by exact ng h) ai (by exact oP h) (by exact rU h) (by exact VU)<|by exact Oz uO
  refine ca aa3 J (ec J<|ec J e0) Kt ?_
  rintro _ lz ⟨o8,o9,L2,lE,L1,L0,IV,rfl,j0,q5⟩
  have kO:=gI.ext j0
  refine ak (v:=.tuple #[.agg #[U o8,U o9,U L2,U lE,U L1,.slice none 0 0,U L0,U IV],.bool ((fT (dX h) (ef h) kd).isSome)]) J J<|k<|xt J J J<|k<|xt J J J<|k<|al kO cu ?_
  intro mV mB kb (lK:HI M w mB (box mV #[U 0,U 0,U 0,U 0,U 0,.slice none 0 0,U 0,U 0] 25::J9::J8::dk))
  refine k<|cz lK 0 J cu J J J J J J J ?_
  intro lL (lT:HI M w lL (box mV #[U o8,U o9,U L2,U lE,U L1,.slice none 0 0,U L0,U IV] 25::J9::J8::dk))
  refine aj (v:=.bool ((fT (dX h) (ef h) kd).isSome)) J J<|cU<|k ?_
  have RW:=vm (w:=lL)<|hT.ext lT.below
  refine ca Mv J e0 RW ?_
  rintro _ jX ⟨rfl,kZ⟩
  have pc:=lT.ext kZ
  refine ak (v:=.bool true) J J<|aM J J J J<|mv (v:=U (iX (dX h) (ef h)<|1+(lv%3))) J J<|aM J J J J<|eql J J J J<|k<|ba J J J J J J<|ak (v:=.bool (decide ((iX (dX h) (ef h)<|1+(lv%3))=0))) J J<|aM J J J b3<|mv (v:=.bool ((fT (dX h) (ef h) kd).isSome)) J J<|k<|ba J J J J b3 J<|aj (v:=.bool ((fT (dX h) (ef h) kd).isSome)) J J<|aG<|rt<|r1 J J ?_
  exact⟨alB Value.bool (by exact(XA (oP h) VU (rU h) uO)),pc.below⟩
 have p3:=dF b3
 refine sk<|nx<|sq<|aH<|k<|cg dZ 2 J dn J J aJ J<|ak (v:=U (1+(lv%3))) J J<|k<|cg dZ 6 J cu J J aJ J<|k ?_
 have nB:=mx (I:=(dX h)) (fo:=(ef h)) (lv:=(1+(lv%3))) (kd:=kd) (bB:=bB) (aZ:=aZ) (bK:=bK) (aO:=aO) (iM:=iM) (dH:=dH) (cV:=cV) (aC:=a0) (aE:=(kP h).length) (aB:=c0) dZ.mb (hT.ext dZ.below) (dZ.rv 4 J) (dZ.rv 3 J) aY jm kT jM lQ ie (dZ.rv 7 J) pE pD (by exact ng h) ai (by exact oP h) (by exact rU h) ai
 refine ca G3 J (ec J<|ec J<|ec J e0) nB ?_
 rintro _ w8 ⟨rfl,iJ⟩
 have cM:=dZ.ext iJ
 refine k<|kc J J<|aG<|nP J J (by rw[show (eA (dX h) (ef h) (1+(lv%3)) kd bB aZ bK aO iM dH cV)=false from(TQ (oP h) VU (rU h) b3)]<;>rfl)<|aH<|k ?_
 have oo:=vm (w:=w8)<|hT.ext cM.below
 refine ca Mv J e0 oo ?_
 rintro _ w9 ⟨rfl,je⟩
 have fR:=cM.ext je
 refine aj (v:=.bool true) J J<|aG<|rt<|aS<|r1 J J ?_
 exact⟨J,fR.below⟩
end Go.Proofs.YtefcbihikknlkaaGreatDoor
