/- PRINTED by my own tool (wip/tool/gen.py): contracts of Go functions of this seat, each with its proof. -/
import Derived.Test.YtgjakhpjmapelaaGreatDoorUwnB
import Derived.Test.YtgjakhpjmapelaaGreatDoorMenA
import Derived.Test.YtgjakhpjmapelaaGreatDoorUwnC
import Derived.Test.YtgjakhpjmapelaaGreatDoorUwnD
import Derived.Test.YtgjakhpjmapelaaGreatDoorUwnA
set_option linter.unusedVariables false
set_option linter.unusedSimpArgs false
namespace Go.Proofs.YtgjakhpjmapelaaGreatDoor
open Go.Ew Go.RowKit
set_option maxRecDepth 100000
set_option maxHeartbeats 1600000
attribute [local irreducible] WL WC SO PW PX PZ WE Code.wp wpList sB cp
attribute [local irreducible] kl xQ jx fq ej AJ Dw KW words eb cX jM fH vS
variable {M:bW} {w w_:aH}
variable {s:bf} {gO my aC aw ay bD dW eB db:OA} {gM mT aE aB av fe ax bC dS cY eA bB da bL:Nat} {h:List (List (Bool×bf×Int))} {U:List aO} {vr o mn i j n pn f_ t_ fC fE gE:Int} {mr pr:List (List bt)} {l fo xs:aA} {fv:List bf} {r:List Go.Ew.Item} {x y:bt} {sp:List cN} {mp:KV} {mq:List ((Int×Int)×Bool)}
theorem mK:aI.underlying 9=some (.string):=aS
theorem kZ:aI.underlying 37=some (.slice 40):=aS
theorem lQ:ef aI 40 1 false 24 (.slice none 0 0):=⟨aS,aS⟩
theorem lP:aI.underlying 40=some (.slice 43):=aS
theorem fY:ef aI 43 3 true 32 (.agg #[.bool false,.string ⟨#[]⟩,.int .i64 0]):=⟨aS,aS⟩
theorem V5:cA aI 12:=cI Tryz.func12
theorem lW:gR aI 43 1 1:=jU Tryz.underlying43
theorem nD:ef aI 9 1 false 16 (.string ⟨#[]⟩):=⟨aS,aS⟩
theorem ai6:cA aI 44:=cI Tryz.func44
theorem ai7:cA aI 43:=cI Tryz.func43
theorem HG:aI.underlying 44=some (.slice 9):=aS
theorem ads:cA aI 20:=cI Tryz.func20
theorem vB:gR aI 47 0 0:=jU Tryz.underlying47
theorem Cn:ef aI 44 1 false 24 (.slice none 0 0):=⟨aS,aS⟩
theorem ai5:cA aI 48:=cI Tryz.func48
theorem pg:gR aI 43 0 0:=jU Tryz.underlying43
theorem oo:gR aI 43 2 2:=jU Tryz.underlying43
theorem r6:gR aI 95 4 4:=jU Tryz.underlying95
theorem ado:cA aI 49:=cI Tryz.func49
theorem P1 (lk:s.size≤maxLen):Calls aI 44 #[.string s] w (cp fun v w'=>v=.bool (mC s)∧Ext w w'):=by
 refine dG 28 Tryz.func44 J J J qt fun f0 ha H=>?_
 have i0:f0 0=.string s:=ha 0 bl
 have hS_:s.size≤9223372036854775807:=by have h_:=lk;simp only[maxLen] at h_;exact h_
 refine az<|ak (v:=.bool false) J J<|aq<|sq<|az<|ak (v:=I 0) J J<|aq<|bk<|lp (fun m f w'=>∃(j:Nat),m=s.size-j∧f 0=.string s∧f 3=I (j:Int)∧HI (fun _=>False) w w' []∧(j≤s.size)∧((s.data.toList.take j).all wg=true)) _ ⟨0,J,i0,(bG J),H,aj,(by rfl)⟩ ?_
 rintro _ f0 w0 ⟨j,rfl,s0,s1,H0,hk,hs⟩
 refine sq<|az<|ai J s1<|ai J s0<|k<|wi J J mK<|k<|lss J J J J<|z<|nx<|cd (b:=decide ((j:Int)<(s.size:Int))) J J (fun b0=>?_)<|fun b0=>?_
 ·
  have p0:=dT b0
  refine sk<|nx<|sq<|bk<|az<|ai J s0<|ai J s1<|k<|ixS J J J J aj mK ?_
  intro c0 rI
  refine k<|lss J J J J<|ai (v:=.bool (decide ((c0.toNat:Int)<97))) J J ?_
  rcases bE (decide ((c0.toNat:Int)<97)) with b1|b1
  ·
   refine aW J J J b1<|aW J J J b1<|aW J J J b1<|aW J J J b1<|k<|aP J J J J b1 J<|aq<|ot J J J<|az<|ak (v:=.bool false) J J<|aq<|rt<|bR<|aK<|dX<|bR<|aK<|r1 J J ?_
   exact⟨am_ Value.bool (by exact OF rI (abq b1)),H0.below⟩
  have p1:=dF b1
  refine bh J J J b1<|mv J s0<|bh J J J b1<|mv J s1<|bh J J J b1<|ixS J J J J aj mK ?_
  intro c1 yW
  refine bh J J J b1<|gtr J J J J<|k<|dA J J J J b1 J<|z<|nx<|cd (b:=decide (122<(c1.toNat:Int))) J J (fun b2=>?_)<|fun b2=>?_
  ·
   refine az<|ak (v:=.bool false) J J<|aq<|rt<|bR<|aK<|dX<|bR<|aK<|r1 J J ?_
   exact⟨am_ Value.bool (by exact OF rI (by have e_:=ana (yW.symm.trans rI);subst e_;exact abr b2)),H0.below⟩
  have p2:=dF b2
  refine sk<|aG<|nx<|rg<|ai J s1<|k<|add J J J J aR<|ak (v:=I ((j:Int)+1)) J J<|z<|bF _ ?_ ⟨(j+1),J,s0,(bG J),H0,aj,(by exact F9 (Pg rI) hs (by have e_:=ana (yW.symm.trans rI);subst e_;exact Zq b1 b2))⟩
  omega
 have p0:=dF b0
 refine ex<|aV<|bc<|bg<|cO<|ai J s0<|k<|wi J J mK<|k<|geq J J J J<|ai (v:=.bool (decide (1≤(s.size:Int)))) J J ?_
 rcases bE (decide (1≤(s.size:Int))) with b1|b1
 ·
  have p1:=dT b1
  refine bh J J J b1<|mv J s0<|bh J J J b1<|wi J J mK<|bh J J J b1<|leq J J J J<|k<|aP J J J J b1 J<|ak (v:=.bool (decide ((s.size:Int)≤8))) J J<|aq<|rt<|r1 J J ?_
  exact⟨am_ Value.bool (by unfold mC;rw[LH hs aj];first|(rw[show decide (1≤s.size)=true from anh aj,an_,an_,aow];omega)|(rw[show decide (1≤s.size)=false from ank aj];rfl)),H0.below⟩
 have p1:=dF b1
 refine aW J J J b1<|aW J J J b1<|aW J J J b1<|k<|dA J J J J b1 J<|ak (v:=.bool false) J J<|aq<|rt<|r1 J J ?_
 exact⟨am_ Value.bool (by unfold mC;rw[LH hs aj];first|(rw[show decide (1≤s.size)=true from anh aj,an_,an_,aow];omega)|(rw[show decide (1≤s.size)=false from ank aj];rfl)),H0.below⟩
theorem Ba (hM:eO M w) (mQ:cD M w gO gM h) (nV:h.flatten.length≤1048576):Calls aI 12 #[sL gO h gM] w (cp fun v w'=>∃(a0:OA) (c0:Nat),v=.slice a0 h.flatten.length c0∧Ext w w'∧RV M w' (.slice a0 h.flatten.length c0) h.flatten):=by
 refine dG 18 Tryz.func12 J J J hM fun f0 ha H=>?_
 have H0:=eG H mQ
 have HV:=bj mQ
 have i0:f0 0=sL gO h gM:=ha 0 bl
 refine az<|ak (v:=.slice none 0 0) J J<|bz<|ak (v:=.slice none 0 0) J J<|aq<|sq<|az<|ak (v:=I 0) J J<|aq<|bk ?_
 have H1:=H0.ql (Bool×bf×Int) 43
 refine lp (fun m f w'=>∃(j:Nat) (xs:List (Bool×bf×Int)) (a0:OA) (c0:Nat),m=h.length-j∧f 0=sL gO h gM∧f 3=sL a0 xs c0∧f 4=I (j:Int)∧HI M w w' [oL w 43 a0 xs c0,iL gO h gM]∧(j≤h.length)∧(xs=(h.take j).flatten)) _ ⟨0,([]:List (Bool×bf×Int)),none,0,J,i0,J,(bG J),H1,aj,(by rfl)⟩ ?_
 rintro _ f0 w0 ⟨j,xs,a0,c0,rfl,s0,s1,s2,H2,hk,hs⟩
 refine sq<|az<|ai J s2<|ai J s0<|k<|dD J J kZ<|k<|lss J J J J<|z<|nx<|cd (b:=decide ((j:Int)<(h.length:Int))) J J (fun b0=>?_)<|fun b0=>?_
 ·
  have p0:=dT b0
  refine sk<|nx<|sq<|bk<|rg<|ai J s1<|ai J s0<|ai J s2<|k<|ia (H2.rv 1 J) J J J J aj kZ lQ ?_
  intro iE x0 aM cz
  refine k<|wm cz.w lQ J J ?_
  intro a1 c1 cw
  have Aq:=bj cw
  have H3:=eG H2 cw
  refine k<|lY H3 1 J J J J J J (H3.rv 0 J).src lP fY J (by have h_:=uN aM;rw[hs];omega) J ?_
  intro a2 c2 w1 (H4:HI M w w1 [iL a1 x0 c1,oL w 43 a2 (xs++x0) c2,iL gO h gM])
  refine ak (v:=sL a2 (xs++x0) c2) J J<|z<|aG<|nx<|rg<|ai J s2<|k<|add J J J J aR<|ak (v:=I ((j:Int)+1)) J J<|z ?_
  have H5:HI M w w1 [oL w 43 a2 (xs++x0) c2,iL gO h gM]:=H4.bX [1,2] au J
  refine bF _ ?_ ⟨(j+1),(xs++x0),a2,c2,J,s0,J,(bG J),H5,aj,(by rw[hs,vz aM])⟩
  omega
 have p0:=dF b0
 refine ex<|aV<|bc<|bg<|cO<|ai J s1<|ak (v:=sL a0 xs c0) J J<|aq<|rt<|r1 J J ?_
 have e0:(xs:List (Bool×bf×Int))=h.flatten:=by rw[hs,mg aj]
 have bu:=iK (fun (cg:List (Bool×bf×Int))=>(.slice a0 cg.length c0:Value)) e0
 exact⟨a0,c0,bu,H2.below,(am_ (fun (x_:List (Bool×bf×Int))=>RV _ _ (.slice a0 x_.length c0) x_) e0).mp (H2.mB 0 J)⟩
theorem Nz (hM:eO M w) (mQ:cD M w gO gM h) (nV:h.flatten.length≤1048576):Calls aI 43 #[sL gO h gM] w (cp fun v w'=>v=I (h.flatten.length:Int)∧Ext w w'):=by
 refine dG 6 Tryz.func43 J J J hM fun f0 ha H=>?_
 have H0:=eG H mQ
 have i0:f0 0=sL gO h gM:=ha 0 bl
 refine az<|ak (v:=I 0) J J<|bz<|ai J i0<|k ?_
 have bS:=Ba (h:=h) H0.mb (H0.rv 0 J)<|by exact nV
 refine ca V5 J (ec J e0) bS ?_
 rintro _ w0 ⟨a0,c0,rfl,bY,cw⟩
 have H1:=H0.ext bY
 have H2:=H1.put (it:=iL a0 h.flatten c0) J cw
 refine k<|dD J J lP<|ak (v:=I (h.flatten.length:Int)) J J<|aq<|rt<|r1 J J ?_
 exact⟨J,H2.below⟩
theorem El (hM:eO M w) (mQ:cD M w gO gM h) (nV:h.flatten.length≤1048576):Calls aI 20 #[sL gO h gM] w (cp fun v w'=>v=.bool (jj h)∧Ext w w'):=by
 refine dG 23 Tryz.func20 J J J hM fun f0 ha H=>?_
 have H0:=eG H mQ
 have HV:=bj mQ
 have i0:f0 0=sL gO h gM:=ha 0 bl
 refine az<|ak (v:=.bool false) J J<|bz<|ai J i0<|k ?_
 have bS:=Ba (h:=h) H0.mb (H0.rv 0 J)<|by exact nV
 refine ca V5 J (ec J e0) bS ?_
 rintro _ w0 ⟨a0,c0,rfl,bY,cw⟩
 have H1:=H0.ext bY
 have H2:=H1.put (it:=iL a0 h.flatten c0) J cw
 refine ak (v:=sL a0 h.flatten c0) J J<|aq<|sq<|az<|ak (v:=I 0) J J<|aq<|bk<|lp (fun m f w'=>∃(j:Nat),m=h.flatten.length-j∧f 3=sL a0 h.flatten c0∧f 4=I (j:Int)∧HI M w w' [iL a0 h.flatten c0,iL gO h gM]∧(j≤h.flatten.length)∧((h.flatten.take j).all Al=true)) _ ⟨0,J,J,(bG J),H2,aj,(by rfl)⟩ ?_
 rintro _ f0 w1 ⟨j,rfl,s0,s1,H3,hk,hs⟩
 refine sq<|az<|ai J s1<|ai J s0<|k<|dD J J lP<|k<|lss J J J J<|z<|nx<|cd (b:=decide ((j:Int)<(h.flatten.length:Int))) J J (fun b0=>?_)<|fun b0=>?_
 ·
  have p0:=dT b0
  refine sk<|nx<|sq<|bk<|az<|ai J s0<|ai J s1<|k<|ia (H3.rv 0 J) J J J J aj lP fY ?_
  intro iE x0 aM cz
  refine aQ lW J J<|k<|ldS ((cz).s1).fst.w nD J J ?_
  intro d_
  refine k ?_
  have cU:=P1 (s:=x0.2.1) (w:=w1) bo
  refine ca ai6 J (ec J e0) cU ?_
  rintro _ w2 ⟨rfl,cT⟩
  have H4:=H3.ext cT
  refine k<|jY J J<|z<|nx<|cd (b:=!(mC x0.2.1)) J J (fun b1=>?_)<|fun b1=>?_
  ·
   refine az<|ak (v:=.bool false) J J<|aq<|rt<|bR<|aK<|dX<|bR<|aK<|r1 J J ?_
   exact⟨am_ Value.bool (by exact UR aM (by simpa using b1)),H4.below⟩
  refine sk<|aG<|nx<|rg<|ai J s1<|k<|add J J J J aR<|ak (v:=I ((j:Int)+1)) J J<|z<|bF _ ?_ ⟨(j+1),J,s0,(bG J),H4,aj,(by exact F9 aM hs (by simpa [Al] using b1))⟩
  omega
 have p0:=dF b0
 refine ex<|aV<|bc<|bg<|cO<|ai J s0<|k<|dD J J lP<|k<|leq J J J J<|ak (v:=.bool (decide ((h.flatten.length:Int)≤4096))) J J<|aq<|rt<|r1 J J ?_
 exact⟨am_ Value.bool (by exact RN hs aj),H3.below⟩
theorem Ny {m:Int} (hM:eO M w) (mQ:cD M w gO gM h) (h_m:aJ m) (nV:h.flatten.length≤1048576):Calls aI 19 #[sL gO h gM,I m] w (cp fun v w'=>v=.bool (n9 h m)∧Ext w w'):=by
 refine dG 32 Tryz.func19 J J J hM fun f0 ha H=>?_
 have H0:=eG H mQ
 have HV:=bj mQ
 have i0:f0 0=sL gO h gM:=ha 0 bl
 have i1:f0 1=I m:=ha 1 bl
 refine az<|ak (v:=.bool false) J J<|aq<|sq<|az<|ai J i0<|k<|dD J J kZ<|ai J i1<|k<|gtr J J J J<|ai (v:=.bool (decide (m<(h.length:Int)))) J J ?_
 rcases bE (decide (m<(h.length:Int))) with b0|b0
 ·
  have p0:=dT b0
  refine aW J J J b0<|aW J J J b0<|aW J J J b0<|aW J J J b0<|k<|aP J J J J b0 J<|aq<|ot J J J<|az<|ak (v:=.bool false) J J<|aq<|rt<|aK<|r1 J J ?_
  exact⟨am_ Value.bool (by exact Ry p0),H0.below⟩
 have p0:=dF b0
 refine bh J J J b0<|mv J i0<|bh J J J b0 ?_
 have bS:=Nz (h:=h) H0.mb (H0.rv 0 J)<|by exact nV
 refine ca ai7 J (ec J e0) bS ?_
 rintro _ w0 ⟨rfl,bY⟩
 have H1:=H0.ext bY
 refine bh J J J b0<|mv J i1<|bh J J J b0<|gtr J J J J<|k<|dA J J J J b0 J<|z<|nx<|cd (b:=decide (m<(h.flatten.length:Int))) J J (fun b1=>?_)<|fun b1=>?_
 ·
  have p1:=dT b1
  refine az<|ak (v:=.bool false) J J<|aq<|rt<|aK<|r1 J J ?_
  exact⟨am_ Value.bool (by exact Rx p1),H1.below⟩
 have p1:=dF b1
 refine sk<|cO<|ai J i0<|k ?_
 have cU:=Ba (h:=h) H1.mb (H1.rv 0 J)<|by exact nV
 refine ca V5 J (ec J e0) cU ?_
 rintro _ w1 ⟨a0,c0,rfl,cT,cw⟩
 have H2:=H1.ext cT
 have H3:=H2.put (it:=iL a0 h.flatten c0) J cw
 refine ak (v:=sL a0 h.flatten c0) J J<|aq<|sq<|az<|ak (v:=I 0) J J<|aq<|bk<|lp (fun m f w'=>∃(j:Nat),m=h.flatten.length-j∧f 5=sL a0 h.flatten c0∧f 6=I (j:Int)∧HI M w w' [iL a0 h.flatten c0,iL gO h gM]∧(j≤h.flatten.length)∧((h.flatten.take j).all Aj=true)) _ ⟨0,J,J,(bG J),H3,aj,(by rfl)⟩ ?_
 rintro _ f0 w2 ⟨j,rfl,s0,s1,H4,hk,hs⟩
 refine sq<|az<|ai J s1<|ai J s0<|k<|dD J J lP<|k<|lss J J J J<|z<|nx<|cd (b:=decide ((j:Int)<(h.flatten.length:Int))) J J (fun b2=>?_)<|fun b2=>?_
 ·
  have p2:=dT b2
  refine sk<|nx<|sq<|bk<|az<|ai J s0<|ai J s1<|k<|ia (H4.rv 0 J) J J J J aj lP fY ?_
  intro iE x0 aM cz
  refine aQ lW J J<|k<|ldS ((cz).s1).fst.w nD J J ?_
  intro d_
  refine k<|wi J J mK<|k<|gtr J J J J<|z<|nx<|cd (b:=decide (20<(x0.2.1.size:Int))) J J (fun b3=>?_)<|fun b3=>?_
  ·
   refine az<|ak (v:=.bool false) J J<|aq<|rt<|bR<|aK<|dX<|bR<|aK<|r1 J J ?_
   exact⟨am_ Value.bool (by exact Rw aM (by simpa using b3)),H4.below⟩
  have p3:=dF b3
  refine sk<|aG<|nx<|rg<|ai J s1<|k<|add J J J J aR<|ak (v:=I ((j:Int)+1)) J J<|z<|bF _ ?_ ⟨(j+1),J,s0,(bG J),H4,aj,(by exact F9 aM hs (anh aj))⟩
  omega
 have p2:=dF b2
 refine ex<|aV<|bc<|bg<|cO<|ak (v:=.bool true) J J<|aq<|rt<|r1 J J ?_
 exact⟨am_ Value.bool (by exact RA p0 p1 hs aj),H4.below⟩
theorem P0 {l:List bf} (hM:eO M w) (xS:cD M w my mT l) (lk:s.size≤maxLen):Calls aI 48 #[sL my l mT,.string s] w (cp fun v w'=>v=I (gC l s)∧Ext w w'):=by
 refine dG 19 Tryz.func48 J J J hM fun f0 ha H=>?_
 have H0:=eG H xS
 have abO:=bj xS
 have i0:f0 0=sL my l mT:=ha 0 bl
 have i1:f0 1=.string s:=ha 1 bl
 refine az<|ak (v:=I 0) J J<|aq<|sq<|az<|ak (v:=I 0) J J<|aq<|bk<|lp (fun m f w'=>∃(j:Nat),m=l.length-j∧f 0=sL my l mT∧f 1=.string s∧f 5=I (j:Int)∧HI M w w' [iL my l mT]∧(j≤l.length)∧((l.take j).any (GQ s)=false)) _ ⟨0,J,i0,i1,(bG J),H0,aj,bl⟩ ?_
 rintro _ f0 w0 ⟨j,rfl,s0,s1,s2,H1,hk,hs⟩
 refine sq<|az<|ai J s2<|ai J s0<|k<|dD J J HG<|k<|lss J J J J<|z<|nx<|cd (b:=decide ((j:Int)<(l.length:Int))) J J (fun b0=>?_)<|fun b0=>?_
 ·
  have p0:=dT b0
  refine sk<|nx<|sq<|bk<|az<|ai J s0<|ai J s2<|k<|ia (H1.rv 0 J) J J J J aj HG nD ?_
  intro iE x0 aM cz
  refine k<|ldS cz.w nD J J ?_
  intro cw
  refine ai J s1<|k<|Tz J J J J<|z<|nx<|cd (b:=decide (x0=s)) J J (fun b1=>?_)<|fun b1=>?_
  ·
   refine az<|ai J s2<|ak (v:=I (j:Int)) J J<|aq<|rt<|bR<|aK<|dX<|bR<|aK<|r1 J J ?_
   exact⟨am_ (Value.int .i64) (by exact uF aM hs b1),H1.below⟩
  have p1:=dF b1
  refine sk<|aG<|nx<|rg<|ai J s2<|k<|add J J J J aR<|ak (v:=I ((j:Int)+1)) J J<|z<|bF _ ?_ ⟨(j+1),J,s0,s1,(bG J),H1,aj,(by exact pN aM hs b1)⟩
  omega
 have p0:=dF b0
 refine ex<|aV<|bc<|bg<|cO<|ak (v:=I (-1)) J J<|aq<|rt<|r1 J J ?_
 exact⟨am_ (Value.int .i64) (by exact vj hs aj),H1.below⟩
theorem UX (hM:eO M w) (mQ:cD M w gO gM h) (nV:h.flatten.length≤1048576):Calls aI 23 #[sL gO h gM] w (cp fun v w'=>∃(a0:OA) (c0:Nat) (a1:OA) (c1:Nat) (a2:OA) (c2:Nat),v=.tuple #[.agg #[.slice a0 (mu h).length c0,.slice a1 (cS h).length c1,.slice a2 ([]:aA).length c2],I (lE h)]∧Ext w w'∧RV M w' (.slice a0 (mu h).length c0) (mu h)∧RV M w' (.slice a1 (cS h).length c1) (cS h)∧RV M w' (.slice a2 ([]:aA).length c2) ([]:aA)):=by
 refine dG 66 Tryz.func23 J J J hM fun f0 ha H=>?_
 let J0:=iL gO h gM
 have H0:=H.put (it:=J0) J<|by rw[bP];exact mQ
 have HV:=bj mQ
 have i0:f0 0=sL gO h gM:=ha 0 bl
 refine az<|k<|al H0 eh ?_
 intro aZ w0 bY (H1:HI M w w0 [box aZ #[.slice none 0 0,.slice none 0 0,.slice none 0 0] 47,J0])
 let J1:=box aZ #[.slice none 0 0,.slice none 0 0,.slice none 0 0] 47
 refine ak (v:=I 0) J J<|aq<|sq<|az<|ai J i0<|k ?_
 have bS:=El (h:=h) H1.mb (H1.rv 1 J)<|by exact nV
 refine ca ads J (ec J e0) bS ?_
 rintro _ w1 ⟨rfl,cT⟩
 have H2:=H1.ext cT
 refine k<|jY J J<|z<|nx<|cd (b:=!(jj h)) J J (fun b0=>?_)<|fun b0=>?_
 ·
  refine sq ?_
  have hq:jj h=false:=by simpa using b0
  refine rg<|k<|bd (v:=.agg #[.slice none 0 0,.slice none 0 0,.slice none 0 0]) J ew (fun _=>aS)<|k<|bw H2 0 J eh J J J J J J J ?_
  intro w2 (H3:HI M w w2 [J1,J0])
  refine ak (v:=I 1) J J<|aq<|rt<|aK<|iH H3 0 J eh J J J J J au ?_
  have e0:([]:List bf)=mu h:=by exact(xG hq).1.symm
  have e1:([]:List aO)=cS h:=by exact(xG hq).2.1.symm
  have e3:(1:Int)=lE h:=by exact(xG hq).2.2.symm
  have bu:=rk (fun (cg:List bf) (dY:List aO) (na:Int)=>(.tuple #[.agg #[.slice none cg.length 0,.slice none dY.length 0,.slice none ([]:aA).length 0],I na]:Value)) e0 e1 e3
  exact⟨none,0,none,0,none,0,bu,H3.below,(am_ (fun (x_:List bf)=>RV _ _ (.slice none x_.length 0) x_) e0).mp (eF _ _),(am_ (fun (x_:List aO)=>RV _ _ (.slice none x_.length 0) x_) e1).mp (eF _ _),(eF _ _)⟩
 refine sk<|nx<|sq ?_
 have hq:jj h=true:=by simpa using b0
 refine rg<|k<|al H2 eh ?_
 intro aY w2 fk (H3:HI M w w2 [box aY #[.slice none 0 0,.slice none 0 0,.slice none 0 0] 47,J1,J0])
 refine aq<|sq<|az<|ak (v:=I 0) J J<|aq<|bk ?_
 have H4:=H3.ql bf 9
 have H5:=H4.ql aO 95
 refine lp (fun m f w'=>∃(i:Nat) (vs:List bf) (aF:List aO) (a0:OA) (c0:Nat) (a1:OA) (c1:Nat),m=h.length-i∧f 0=sL gO h gM∧f 2=pV aZ 0∧f 4=pV aY 0∧f 5=I (i:Int)∧HI M w w' [oL w 95 a1 aF c1,oL w 9 a0 vs c0,box aY #[sL a0 vs c0,sL a1 aF c1,.slice none 0 0] 47,J1,J0]∧(i≤h.length)∧(vs=(iF h i).1)∧(aF=(iF h i).2)) _ ⟨0,([]:List bf),([]:List aO),none,0,none,0,J,i0,J,J,(bG J),H5,aj,(by rfl),(by rfl)⟩ ?_
 rintro _ f0 w3 ⟨i,vs,aF,a0,c0,a1,c1,rfl,s0,s1,s2,s3,H6,XX,h1,h2⟩
 refine sq<|az<|ai J s3<|ai J s0<|k<|dD J J kZ<|k<|lss J J J J<|z<|nx<|cd (b:=decide ((i:Int)<(h.length:Int))) J J (fun b1=>?_)<|fun b1=>?_
 ·
  have p1:=dT b1
  refine sk<|nx<|sq<|bk<|az<|ak (v:=I 0) J J<|aq<|bk<|lp (fun m f w'=>∃(q:Nat) (vs:List bf) (aF:List aO) (a2:OA) (c2:Nat) (a3:OA) (c3:Nat),m=(h.getD i []).length-q∧f 0=sL gO h gM∧f 2=pV aZ 0∧f 4=pV aY 0∧f 5=I (i:Int)∧f 6=I (q:Int)∧HI M w w' [oL w 95 a3 aF c3,oL w 9 a2 vs c2,box aY #[sL a2 vs c2,sL a3 aF c3,.slice none 0 0] 47,J1,J0]∧(q≤(h.getD i []).length)∧(vs=(jL i (iF h i) (h.getD i []) q).1)∧(aF=(jL i (iF h i) (h.getD i []) q).2)) _ ⟨0,vs,aF,a0,c0,a1,c1,J,s0,s1,s2,s3,(bG J),H6,aj,(by exact h1),(by exact h2)⟩ ?_
  rintro _ f1 w4 ⟨q,vs,aF,a2,c2,a3,c3,rfl,s4,s5,s6,s7,s8,H7,hk,h1,h2⟩
  refine sq<|az<|ai J s8<|ai J s4<|ai J s7<|k<|ia (H7.rv 4 J) J J J J aj kZ lQ ?_
  intro iE x0 aM cz
  refine k<|wm cz.w lQ J J ?_
  intro a4 c4 cw
  have Aq:=bj cw
  let J2:=iL a4 x0 c4
  have H8:=H7.put (it:=J2) J cw
  refine k<|dD J J lP<|k<|lss J J J J<|z<|nx<|cd (b:=decide ((q:Int)<(x0.length:Int))) J J (fun b2=>?_)<|fun b2=>?_
  ·
   have p2:=dT b2
   refine sk<|nx<|sq<|bk<|az<|ai J s4<|ai J s7<|k<|ia (H8.rv 5 J) J J J J aj kZ lQ ?_
   intro rK x1 cQ gL
   refine k<|wm gL.w lQ J J ?_
   intro a5 c5 d_
   have ln1:=bj d_
   let J3:=iL a5 x1 c5
   have H9:=H8.put (it:=J3) J d_
   refine ai J s8<|k<|ia (H9.rv 0 J) J J J J (by have e_:=nA cQ aM;subst e_;omega) lP fY ?_
   intro pZ x2 jf kV
   refine k<|nF kV.w fY J J ?_
   intro v0 dZ
   obtain⟨_,⟨_,_,rfl,rfl,⟨_,_,rfl,⟨rfl,fy⟩,⟨rfl,iT⟩⟩⟩,rfl⟩:=dZ
   refine k<|al H9 fY ?_
   let J4:=box aY #[sL a2 vs c2,sL a3 aF c3,.slice none 0 0] 47
   let ba:=[J3,J2,oL w 95 a3 aF c3,oL w 9 a2 vs c2,J4,J1,J0]
   intro bJ w5 fN (dO:HI M w w5 (box bJ #[.bool false,.string ⟨#[]⟩,I 0] 43::ba))
   refine k<|bw dO 0 J fY J J J J J J J ?_
   let J5:=box bJ #[.bool x2.1,.string x2.2.1,I x2.2.2] 43
   intro w6 (cV:HI M w w6 (J5::ba))
   refine bz<|aQ vB J s6<|bq cV 5 J Cn J J J<|aQ lW J J<|bq cV 0 J nD J J J<|k ?_
   have du:=cV.freeze 4 J
   have cU:=P0 (l:=vs) (s:=x2.2.1) du.mb (du.rv 4 J) bo
   refine ca ai5 J (ec J<|ec J e0) cU ?_
   rintro _ w7 ⟨rfl,iP⟩
   have dJ:=cV.ext iP
   refine ak (v:=I (gC vs x2.2.1)) J J<|aq<|sq<|az<|ai (v:=I (gC vs x2.2.1)) J J<|k<|lss J J J J<|z<|nx<|cd (b:=decide ((gC vs x2.2.1)<0)) J J (fun b3=>?_)<|fun b3=>?_
   ·
    have p3:=dT b3
    refine az<|aQ vB J s6<|bq dJ 5 J Cn J J J<|k<|dD J J HG<|ak (v:=I (vs.length:Int)) J J<|aq<|rg<|aQ vB J s6<|bq dJ 5 J Cn J J J<|aQ lW J J<|bq dJ 0 J nD J J J<|k<|bs (xs:=([x2.2.1]:List bf)) (cells:=#[.string x2.2.1]) (e:=9) dJ J (cm J ew) (fun _=>aS) ⟨[.string x2.2.1],[],J,⟨J,bo⟩,J⟩ J au ?_
    intro g0 w8 jc cM
    refine k<|lY cM 5 J J J J J J (gY<|cM.at_ 0 J) HG nD J (by have e_:=nA cQ aM;have h_:=qf (k:=q) aM aj;rw[←fB aM,←h1,←h2] at h_;simp only[iI,gj];omega) J ?_
    let J6:=own w.heap.size 9 (.slice (some ⟨g0,0,none⟩) 1 1) ([x2.2.1]:List bf)
    intro a6 c6 w9 (dU:HI M w w9 [J6,J5,J3,J2,oL w 95 a3 aF c3,oL w 9 a6 (vs++([x2.2.1]:List bf)) c6,J4,J1,J0])
    let J7:=oL w 9 a6 (vs++([x2.2.1]:List bf)) c6
    refine aQ vB J s6<|k<|bw dU 6 J Cn J J J J J J J ?_
    let J8:=box aY #[sL a6 (vs++([x2.2.1]:List bf)) c6,sL a3 aF c3,.slice none 0 0] 47
    intro dM (dt:HI M w dM [J6,J5,J3,J2,oL w 95 a3 aF c3,J7,J8,J1,J0])
    refine aq<|rg<|aQ fG J s6<|bq dt 6 J jh J J J<|ai J s7<|ai J s8<|aQ pg J J<|bq dt 1 J oP J J J<|ai (v:=I (vs.length:Int)) J J<|aQ oo J J<|bq dt 1 J aT J J J<|k<|bd (v:=.agg #[I (i:Int),I (q:Int),.bool x2.1,I (vs.length:Int),I x2.2.2]) J (cm J<|cm J<|cm J<|cm J<|cm J ew) (fun _=>aS)<|k<|bs (xs:=([((i:Int),(q:Int),x2.1,(vs.length:Int),x2.2.2)]:List aO)) (cells:=#[I (i:Int),I (q:Int),.bool x2.1,I (vs.length:Int),I x2.2.2]) (e:=95) dt J (cm J ew) (fun _=>aS) ⟨[I (i:Int),I (q:Int),.bool x2.1,I (vs.length:Int),I x2.2.2],[],J,⟨_,_,J,⟨J,(show aJ ((i:Int)) from aR)⟩,⟨_,_,J,⟨J,(show aJ ((q:Int)) from aR)⟩,⟨_,_,J,J,⟨_,_,J,⟨J,(show aJ ((vs.length:Int)) from(by have e_:=nA cQ aM;have h3:=qf (k:=q) aM aj;rw[←fB aM,←h1,←h2] at h3;unfold aJ;omega))⟩,⟨J,(show aJ (x2.2.2) from aR)⟩⟩⟩⟩⟩,J⟩ J au ?_
    intro g1 ee jK cR
    refine k<|lY cR 5 J J J J J J (gY<|cR.at_ 0 J) jA jE J (by have e_:=nA cQ aM;have h_:=qf (k:=q) aM aj;rw[←fB aM,←h1,←h2] at h_;simp only[iI,gj];omega) J ?_
    let J9:=own w.heap.size 95 (.slice (some ⟨g1,0,none⟩) 1 1) ([((i:Int),(q:Int),x2.1,(vs.length:Int),x2.2.2)]:List aO)
    intro a7 c7 ft (dI:HI M w ft [J9,J6,J5,J3,J2,oL w 95 a7 (aF++([((i:Int),(q:Int),x2.1,(vs.length:Int),x2.2.2)]:List aO)) c7,J7,J8,J1,J0])
    let dR:=oL w 95 a7 (aF++([((i:Int),(q:Int),x2.1,(vs.length:Int),x2.2.2)]:List aO)) c7
    refine aQ fG J s6<|k<|bw dI 7 J jh J J J J J J J ?_
    let eE:=box aY #[sL a6 (vs++([x2.2.1]:List bf)) c6,sL a7 (aF++([((i:Int),(q:Int),x2.1,(vs.length:Int),x2.2.2)]:List aO)) c7,.slice none 0 0] 47
    intro ij (dw:HI M w ij [J9,J6,J5,J3,J2,dR,J7,eE,J1,J0])
    refine z<|aG<|nx<|rg<|ai J s8<|k<|add J J J J aR<|ak (v:=I ((q:Int)+1)) J J<|z ?_
    have cE:HI M w ij [dR,J7,eE,J1,J0]:=dw.bX [5,6,7,8,9] au J
    refine bF _ ?_ ⟨(q+1),(vs++([x2.2.1]:List bf)),(aF++([((i:Int),(q:Int),x2.1,(vs.length:Int),x2.2.2)]:List aO)),a6,c6,a7,c7,J,s4,s5,s6,s7,(bG J),cE,(by rw[fB aM];omega),(by rw[h1] at *;have e_:=nA cQ aM;subst e_;rw[fB aM] at *;first|exact(xr jf p3).1|exact(xp jf p3).1),(by rw[h1,h2] at *;have e_:=nA cQ aM;subst e_;rw[fB aM] at *;first|exact(xr jf p3).2|exact(xp jf p3).2)⟩
    rw[fB aM];omega
   have p3:=dF b3
   refine sk<|nx<|rg<|aQ fG J s6<|bq dJ 5 J jh J J J<|ai J s7<|ai J s8<|aQ pg J J<|bq dJ 0 J oP J J J<|ai (v:=I (gC vs x2.2.1)) J J<|aQ oo J J<|bq dJ 0 J aT J J J<|k<|bd (v:=.agg #[I (i:Int),I (q:Int),.bool x2.1,I (gC vs x2.2.1),I x2.2.2]) J (cm J<|cm J<|cm J<|cm J<|cm J ew) (fun _=>aS)<|k<|bs (xs:=([((i:Int),(q:Int),x2.1,gC vs x2.2.1,x2.2.2)]:List aO)) (cells:=#[I (i:Int),I (q:Int),.bool x2.1,I (gC vs x2.2.1),I x2.2.2]) (e:=95) dJ J (cm J ew) (fun _=>aS) ⟨[I (i:Int),I (q:Int),.bool x2.1,I (gC vs x2.2.1),I x2.2.2],[],J,⟨_,_,J,⟨J,(show aJ ((i:Int)) from aR)⟩,⟨_,_,J,⟨J,(show aJ ((q:Int)) from aR)⟩,⟨_,_,J,J,⟨_,_,J,⟨J,(show aJ (gC vs x2.2.1) from(by have h_:=wK (p:=GQ x2.2.1) (r:=vs);have e_:=nA cQ aM;have h3:=qf (k:=q) aM aj;rw[←fB aM,←h1,←h2] at h3;unfold gC;unfold aJ;omega))⟩,⟨J,(show aJ (x2.2.2) from aR)⟩⟩⟩⟩⟩,J⟩ J au ?_
   intro g0 w8 jc cM
   refine k<|lY cM 4 J J J J J J (gY<|cM.at_ 0 J) jA jE J (by have e_:=nA cQ aM;have h_:=qf (k:=q) aM aj;rw[←fB aM,←h1,←h2] at h_;simp only[iI,gj];omega) J ?_
   let fM:=own w.heap.size 95 (.slice (some ⟨g0,0,none⟩) 1 1) ([((i:Int),(q:Int),x2.1,gC vs x2.2.1,x2.2.2)]:List aO)
   intro a6 c6 w9 (dU:HI M w w9 [fM,J5,J3,J2,oL w 95 a6 (aF++([((i:Int),(q:Int),x2.1,gC vs x2.2.1,x2.2.2)]:List aO)) c6,oL w 9 a2 vs c2,J4,J1,J0])
   let fI:=oL w 95 a6 (aF++([((i:Int),(q:Int),x2.1,gC vs x2.2.1,x2.2.2)]:List aO)) c6
   refine aQ fG J s6<|k<|bw dU 6 J jh J J J J J J J ?_
   let gU:=box aY #[sL a2 vs c2,sL a6 (aF++([((i:Int),(q:Int),x2.1,gC vs x2.2.1,x2.2.2)]:List aO)) c6,.slice none 0 0] 47
   intro dM (dt:HI M w dM [fM,J5,J3,J2,fI,oL w 9 a2 vs c2,gU,J1,J0])
   refine z<|aG<|nx<|rg<|ai J s8<|k<|add J J J J aR<|ak (v:=I ((q:Int)+1)) J J<|z ?_
   have cR:HI M w dM [fI,oL w 9 a2 vs c2,gU,J1,J0]:=dt.bX [4,5,6,7,8] au J
   refine bF _ ?_ ⟨(q+1),vs,(aF++([((i:Int),(q:Int),x2.1,gC vs x2.2.1,x2.2.2)]:List aO)),a2,c2,a6,c6,J,s4,s5,s6,s7,(bG J),cR,(by rw[fB aM];omega),(by rw[h1] at *;have e_:=nA cQ aM;subst e_;rw[fB aM] at *;first|exact(xr jf p3).1|exact(xp jf p3).1),(by rw[h1,h2] at *;have e_:=nA cQ aM;subst e_;rw[fB aM] at *;first|exact(xr jf p3).2|exact(xp jf p3).2)⟩
   rw[fB aM];omega
  have p2:=dF b2
  refine ex<|aV<|bc<|bg<|aG<|nx<|rg<|ai J s7<|k<|add J J J J aR<|ak (v:=I ((i:Int)+1)) J J<|z ?_
  have H9:HI M w w4 [oL w 95 a3 aF c3,oL w 9 a2 vs c2,box aY #[sL a2 vs c2,sL a3 aF c3,.slice none 0 0] 47,J1,J0]:=H8.bX [1,2,3,4,5] au J
  refine bF _ ?_ ⟨(i+1),vs,aF,a2,c2,a3,c3,J,s4,s5,s6,(bG J),H9,aj,(by rw[h1,BR aj (by rw[fB aM];omega)]),(by rw[h2,BR aj (by rw[fB aM];omega)])⟩
  omega
 have p1:=dF b1
 refine ex<|aV<|bc<|bg<|cO<|k<|cB H6 2 J eh J s2 au J<|k<|bw H6 3 J eh J J s1 J J J J ?_
 intro w4 (H7:HI M w w4 [oL w 95 a1 aF c1,oL w 9 a0 vs c0,box aY #[sL a0 vs c0,sL a1 aF c1,.slice none 0 0] 47,box aZ #[sL a0 vs c0,sL a1 aF c1,.slice none 0 0] 47,J0])
 refine ak (v:=I 0) J J<|aq<|rt<|iH H7 3 J eh J J J s1 J au ?_
 have e0:(vs:List bf)=mu h:=by rw[(tD hq).1,h1];unfold y_;rw[show i=h.length from by omega]
 have e1:(aF:List aO)=cS h:=by rw[(tD hq).2.1,h2];unfold jy;rw[show i=h.length from by omega]
 have e3:(0:Int)=lE h:=by exact(tD hq).2.2.symm
 have bu:=rk (fun (cg:List bf) (dY:List aO) (na:Int)=>(.tuple #[.agg #[.slice a0 cg.length c0,.slice a1 dY.length c1,.slice none ([]:aA).length 0],I na]:Value)) e0 e1 e3
 exact⟨a0,c0,a1,c1,none,0,bu,H7.below,(am_ (fun (x_:List bf)=>RV _ _ (.slice a0 x_.length c0) x_) e0).mp (H7.mB 1 J),(am_ (fun (x_:List aO)=>RV _ _ (.slice a1 x_.length c1) x_) e1).mp (H7.mB 0 J),(eF _ _)⟩
theorem Ek {val:Int} (hM:eO M w) (dL:cD M w aw av U) (acZ:aJ vr) (alR:aJ val):Calls aI 49 #[.agg #[.slice aC aE aB,sL aw U av,.slice ay fe ax],I vr,I val] w (cp fun v w'=>v=.tuple #[I (max (gG U vr val) 0),.bool (decide (0≤gG U vr val))]∧Ext w w'):=by
 refine dG 43 Tryz.func49 J J J hM fun f0 ha H=>?_
 have H0:=eG H dL
 have ja:=bj dL
 have i0:f0 0=.agg #[.slice aC aE aB,sL aw U av,.slice ay fe ax]:=ha 0 bl
 have i1:f0 1=I vr:=ha 1 bl
 have i2:f0 2=I val:=ha 2 bl
 refine az<|k<|bx H0 J i0 ?_
 intro aZ w0 bY (H1:HI M w w0 [box aZ #[.slice aC aE aB,sL aw U av,.slice ay fe ax] 47,iL aw U av])
 refine ak (v:=I 0) J J<|ak (v:=.bool false) J J<|aq<|sq<|az<|ak (v:=I 0) J J<|aq<|bk<|lp (fun m f w'=>∃(j:Nat),m=U.length-j∧f 1=I vr∧f 2=I val∧f 3=pV aZ 0∧f 8=I (j:Int)∧HI M w w' [box aZ #[.slice aC aE aB,sL aw U av,.slice ay fe ax] 47,iL aw U av]∧(j≤U.length)∧((U.take j).any (l7 vr val)=false)) _ ⟨0,J,i1,i2,J,(bG J),H1,aj,bl⟩ ?_
 rintro _ f0 w1 ⟨j,rfl,s0,s1,s2,s3,H2,hk,hs⟩
 refine sq<|az<|ai J s3<|aQ fG J s2<|bq H2 0 J jh J J J<|k<|dD J J jA<|k<|lss J J J J<|z<|nx<|cd (b:=decide ((j:Int)<(U.length:Int))) J J (fun b0=>?_)<|fun b0=>?_
 ·
  have p0:=dT b0
  refine sk<|nx<|sq<|bk<|az<|aQ fG J s2<|bq H2 0 J jh J J J<|ai J s3<|k<|ia (H2.rv 1 J) J J J J aj jA jE ?_
  intro iE x0 aM cz
  refine aQ vA J J<|k<|ldB ((cz).s2).fst.w oP J J<|ai (v:=.bool x0.2.2.1) J J ?_
  rcases bE (x0.2.2.1) with b1|b1
  ·
   refine bh J J J b1<|fa fG J s2<|bh J J J b1<|lx H2 0 J jh J J J<|bh J J J b1<|mv J s3<|bh J J J b1<|ia (H2.rv 1 J) J J J J aj jA jE ?_
   intro rK x1 cQ gL
   refine bh J J J b1<|fa tO J J<|bh J J J b1<|mw ((gL).s3).fst.w aT J J ?_
   intro cw
   refine bh J J J b1<|mv J s0<|bh J J J b1<|eql J J J J<|k<|aP J J J J b1 J<|ai (v:=.bool (decide (x1.2.2.2.1=vr))) J J ?_
   rcases bE (decide (x1.2.2.2.1=vr)) with b2|b2
   ·
    have p2:=dT b2
    refine bh J J J b2<|fa fG J s2<|bh J J J b2<|lx H2 0 J jh J J J<|bh J J J b2<|mv J s3<|bh J J J b2<|ia (H2.rv 1 J) J J J J aj jA jE ?_
    intro pZ x2 jf kV
    refine bh J J J b2<|fa r6 J J<|bh J J J b2<|mw (kV).s4.w aT J J ?_
    intro d_
    refine bh J J J b2<|mv J s1<|bh J J J b2<|eql J J J J<|k<|aP J J J J b2 J<|z<|nx<|cd (b:=decide (x2.2.2.2.2=val)) J J (fun b3=>?_)<|fun b3=>?_
    ·
     refine az<|ai J s3<|ak (v:=I (j:Int)) J J<|ak (v:=.bool true) J J<|aq<|rt<|bR<|aK<|dX<|bR<|aK<|r2 J J J ?_
     have e0:((j:Int):Int)=(max (gG U vr val) 0):=by have e1:=nA cQ aM;subst e1;have e2:=nA jf aM;subst e2;have h_:=Rg aM b1 b2 b3 hs;omega
     have e1:(true:Bool)=decide (0≤gG U vr val):=by have e1:=nA cQ aM;subst e1;have e2:=nA jf aM;subst e2;have h_:=Rg aM b1 b2 b3 hs;symm;rw[anb];omega
     have bu:=nL (fun (cg:Int) (dY:Bool)=>(.tuple #[I cg,.bool dY]:Value)) e0 e1
     exact⟨bu,H2.below⟩
    have p3:=dF b3
    refine sk<|aG<|nx<|rg<|ai J s3<|k<|add J J J J aR<|ak (v:=I ((j:Int)+1)) J J<|z<|bF _ ?_ ⟨(j+1),J,s0,s1,s2,(bG J),H2,aj,(by have e1:=nA cQ aM;subst e1;first|exact pN aM hs (OL b2)|(have e2:=nA jf aM;subst e2;exact pN aM hs (OK b3)))⟩
    omega
   have p2:=dF b2
   refine aW J J J b2<|aW J J J b2<|aW J J J b2<|aW J J J b2<|aW J J J b2<|aW J J J b2<|aW J J J b2<|aW J J J b2<|k<|dA J J J J b2 J<|aq<|pB J J J<|sk<|aG<|nx<|rg<|ai J s3<|k<|add J J J J aR<|ak (v:=I ((j:Int)+1)) J J<|z<|bF _ ?_ ⟨(j+1),J,s0,s1,s2,(bG J),H2,aj,(by have e1:=nA cQ aM;subst e1;first|exact pN aM hs (OL b2)|(have e2:=nA jf aM;subst e2;exact pN aM hs (OK b3)))⟩
   omega
  refine aW J J J b1<|aW J J J b1<|aW J J J b1<|aW J J J b1<|aW J J J b1<|aW J J J b1<|aW J J J b1<|aW J J J b1<|k<|dA J J J J b1 J<|ai (v:=.bool false) J J<|aW J J J J<|aW J J J J<|aW J J J J<|aW J J J J<|aW J J J J<|aW J J J J<|aW J J J J<|aW J J J J<|k<|dA J J J J J J<|aq<|pB J J J<|sk<|aG<|nx<|rg<|ai J s3<|k<|add J J J J aR<|ak (v:=I ((j:Int)+1)) J J<|z<|bF _ ?_ ⟨(j+1),J,s0,s1,s2,(bG J),H2,aj,(by exact pN aM hs (ZJ b1))⟩
  omega
 have p0:=dF b0
 refine ex<|aV<|bc<|bg<|cO<|ak (v:=I 0) J J<|ak (v:=.bool false) J J<|aq<|rt<|r2 J J J ?_
 have e0:(0:Int)=(max (gG U vr val) 0):=by have h_:=NX hs aj;omega
 have e1:(false:Bool)=decide (0≤gG U vr val):=by have h_:=NX hs aj;symm;rw[anr];omega
 have bu:=nL (fun (cg:Int) (dY:Bool)=>(.tuple #[I cg,.bool dY]:Value)) e0 e1
 exact⟨bu,H2.below⟩
theorem Nx (hM:eO M w) (dL:cD M w aw av U):Calls aI 24 #[.agg #[.slice aC aE aB,sL aw U av,.slice ay fe ax]] w (cp fun v w'=>v=.tuple #[I ((dv U).1),I ((dv U).2.1),I ((dv U).2.2)]∧Ext w w'):=by
 refine dG 43 Tryz.func24 J J J hM fun f0 ha H=>?_
 let J0:=iL aw U av
 have H0:=H.put (it:=J0) J<|by rw[bP];exact dL
 have ja:=bj dL
 have i0:f0 0=.agg #[.slice aC aE aB,sL aw U av,.slice ay fe ax]:=ha 0 bl
 refine az<|k<|bx H0 J i0 ?_
 intro aZ w0 bY (H1:HI M w w0 [box aZ #[.slice aC aE aB,sL aw U av,.slice ay fe ax] 47,J0])
 let J1:=box aZ #[.slice aC aE aB,sL aw U av,.slice ay fe ax] 47
 refine ak (v:=I 0) J J<|ak (v:=I 0) J J<|ak (v:=I 0) J J<|aq<|sq<|az<|ak (v:=I 0) J J<|aq<|bk<|lp (fun m f w'=>∃(j:Nat),m=U.length-j∧f 1=pV aZ 0∧f 5=I (j:Int)∧HI M w w' [J1,J0]∧(j≤U.length)∧(∀k,k<j→oD U k=false)) _ ⟨0,J,J,(bG J),H1,aj,(by intro k hk;omega)⟩ ?_
 rintro _ f0 w1 ⟨j,rfl,s0,s1,H2,hk,hs⟩
 refine sq<|az<|ai J s1<|aQ fG J s0<|bq H2 0 J jh J J J<|k<|dD J J jA<|k<|lss J J J J<|z<|nx<|cd (b:=decide ((j:Int)<(U.length:Int))) J J (fun b0=>?_)<|fun b0=>?_
 ·
  have p0:=dT b0
  refine sk<|nx<|sq<|bk<|az<|aQ fG J s0<|bq H2 0 J jh J J J<|ai J s1<|k<|ia (H2.rv 1 J) J J J J aj jA jE ?_
  intro iE x0 aM cz
  refine k<|nF cz.w jE J J ?_
  intro v0 cw
  obtain⟨_,⟨_,_,rfl,⟨rfl,d_⟩,⟨_,_,rfl,⟨rfl,dZ⟩,⟨_,_,rfl,rfl,⟨_,_,rfl,⟨rfl,fy⟩,⟨rfl,iT⟩⟩⟩⟩⟩,rfl⟩:=cw
  refine k<|al H2 jE ?_
  intro aY w2 cT (H3:HI M w w2 [box aY #[I 0,I 0,.bool false,I 0,I 0] 95,J1,J0])
  refine k<|bw H3 0 J jE J J J J J J J ?_
  intro w3 (H4:HI M w w3 [box aY #[I x0.1,I x0.2.1,.bool x0.2.2.1,I x0.2.2.2.1,I x0.2.2.2.2] 95,J1,J0])
  refine aq<|sq<|az<|aQ vA J J<|bq H4 0 J oP J J J<|k<|jY J J<|z<|nx<|cd (b:=!x0.2.2.1) J J (fun b1=>?_)<|fun b1=>?_
  ·
   refine ex<|aV<|bg<|nx<|rg<|ai J s1<|k<|add J J J J aR<|ak (v:=I ((j:Int)+1)) J J<|z ?_
   have H5:HI M w w3 [J1,J0]:=H4.bX [1,2] au J
   refine bF _ ?_ ⟨(j+1),J,s0,(bG J),H5,aj,(by exact BO hs aM (MR<|by simpa using b1))⟩
   omega
  refine sk<|nx<|sq<|az<|aQ r6 J J<|bq H4 0 J aT J J J<|k<|eql J J J J<|z<|nx<|cd (b:=decide (x0.2.2.2.2=0)) J J (fun b2=>?_)<|fun b2=>?_
  ·
   have p2:=dT b2
   refine az<|ai J s1<|ai J s1<|ak (v:=I (j:Int)) J J<|ak (v:=I (j:Int)) J J<|ak (v:=I 5) J J<|aq<|rt<|aK<|bR<|aK<|dX<|bR<|aK<|r3 J J J J ?_
   have e0:((j:Int):Int)=(dv U).1:=by exact(am_ (fun z_:Int×Int×Int=>z_.1)<|uQ hs aM (by simpa using b1) p2).symm
   have e1:((j:Int):Int)=(dv U).2.1:=by exact(am_ (fun z_:Int×Int×Int=>z_.2.1)<|uQ hs aM (by simpa using b1) p2).symm
   have e2:(5:Int)=(dv U).2.2:=by exact(am_ (fun z_:Int×Int×Int=>z_.2.2)<|uQ hs aM (by simpa using b1) p2).symm
   have bu:=rk (fun (cg:Int) (dY:Int) (gV:Int)=>(.tuple #[I cg,I dY,I gV]:Value)) e0 e1 e2
   exact⟨bu,H4.below⟩
  have p2:=dF b2
  refine sk<|cO<|k<|cB H4 1 J eh J s0 au J<|aQ tO J J<|bq H4 0 J aT J J J<|aQ r6 J J<|bq H4 0 J aT J J J<|k ?_
  have bS:=Ek (U:=U) (vr:=x0.2.2.2.1) (val:=x0.2.2.2.2) (aC:=aC) (aE:=aE) (aB:=aB) (ay:=ay) (fe:=fe) (ax:=ax) H4.mb (H4.rv 2 J) fy iT
  refine ca ado J (ec J<|ec J<|ec J e0) bS ?_
  rintro _ w4 ⟨rfl,fk⟩
  have H5:=H4.ext fk
  refine ai (v:=.tuple #[I (max (gG U x0.2.2.2.1 x0.2.2.2.2) 0),.bool (decide (0≤gG U x0.2.2.2.1 x0.2.2.2.2))]) J J<|k<|xt J J J<|k<|xt J J J<|ak (v:=I (max (gG U x0.2.2.2.1 x0.2.2.2.2) 0)) J J<|ak (v:=.bool (decide (0≤gG U x0.2.2.2.1 x0.2.2.2.2))) J J<|bz<|ai (v:=I (max (gG U x0.2.2.2.1 x0.2.2.2.2) 0)) J J<|ai J s1<|k<|lss J J J J<|z<|nx<|cd (b:=decide ((max (gG U x0.2.2.2.1 x0.2.2.2.2) 0)<(j:Int))) J J (fun b3=>?_)<|fun b3=>?_
  ·
   have p3:=dT b3
   refine az<|ai (v:=I (max (gG U x0.2.2.2.1 x0.2.2.2.2) 0)) J J<|ai J s1<|ak (v:=I (max (gG U x0.2.2.2.1 x0.2.2.2.2) 0)) J J<|ak (v:=I (j:Int)) J J<|ak (v:=I 4) J J<|aq<|rt<|bR<|aK<|dX<|bR<|aK<|r3 J J J J ?_
   have e0:((max (gG U x0.2.2.2.1 x0.2.2.2.2) 0):Int)=(dv U).1:=by exact(am_ (fun z_:Int×Int×Int=>z_.1)<|tc hs aM (by simpa using b1) p2 p3).symm
   have e1:((j:Int):Int)=(dv U).2.1:=by exact(am_ (fun z_:Int×Int×Int=>z_.2.1)<|tc hs aM (by simpa using b1) p2 p3).symm
   have e2:(4:Int)=(dv U).2.2:=by exact(am_ (fun z_:Int×Int×Int=>z_.2.2)<|tc hs aM (by simpa using b1) p2 p3).symm
   have bu:=rk (fun (cg:Int) (dY:Int) (gV:Int)=>(.tuple #[I cg,I dY,I gV]:Value)) e0 e1 e2
   exact⟨bu,H5.below⟩
  have p3:=dF b3
  refine sk<|aG<|nx<|rg<|ai J s1<|k<|add J J J J aR<|ak (v:=I ((j:Int)+1)) J J<|z ?_
  have H6:HI M w w4 [J1,J0]:=H5.bX [1,2] au J
  refine bF _ ?_ ⟨(j+1),J,s0,(bG J),H6,aj,(by exact BO hs aM (MT p2 p3))⟩
  omega
 have p0:=dF b0
 refine ex<|aV<|bc<|bg<|cO<|ak (v:=I 0) J J<|ak (v:=I 0) J J<|ak (v:=I 0) J J<|aq<|rt<|r3 J J J J ?_
 have e0:(0:Int)=(dv U).1:=by exact(am_ (fun z_:Int×Int×Int=>z_.1)<|xa hs aj).symm
 have e1:(0:Int)=(dv U).2.1:=by exact(am_ (fun z_:Int×Int×Int=>z_.2.1)<|xa hs aj).symm
 have e2:(0:Int)=(dv U).2.2:=by exact(am_ (fun z_:Int×Int×Int=>z_.2.2)<|xa hs aj).symm
 have bu:=rk (fun (cg:Int) (dY:Int) (gV:Int)=>(.tuple #[I cg,I dY,I gV]:Value)) e0 e1 e2
 exact⟨bu,H2.below⟩
theorem Tp:gR aI 95 0 0:=jU Tryz.underlying95
theorem adD:gR aI 95 1 1:=jU Tryz.underlying95
theorem PG (hM:eO M w) (dL:cD M w aw av U) (ho:ig U) (dB:U.length≤4096):Calls aI 97 #[.agg #[.slice aC aE aB,sL aw U av,.slice ay fe ax]] w (cp fun v w'=>∃(a0:OA) (c0:Nat),v=.agg #[I (U.length:Int),.slice a0 (oY U).length c0]∧Ext w w'∧bm M 144 w (oY U) (.slice a0 (oY U).length c0) w'):=by
 refine dG 49 Tryz.func97 J J J hM fun f0 ha H=>?_
 let J0:=iL aw U av
 have H0:=H.put (it:=J0) J<|by rw[bP];exact dL
 have ja:=bj dL
 have i0:f0 0=.agg #[.slice aC aE aB,sL aw U av,.slice ay fe ax]:=ha 0 bl
 refine az<|k<|bx H0 J i0 ?_
 intro aZ w0 bY (H1:HI M w w0 [box aZ #[.slice aC aE aB,sL aw U av,.slice ay fe ax] 47,J0])
 let J1:=box aZ #[.slice aC aE aB,sL aw U av,.slice ay fe ax] 47
 refine k<|al H1 bp ?_
 intro aY w1 cT (H2:HI M w w1 [box aY #[I 0,.slice none 0 0] 26,J1,J0])
 let J2:=box aY #[I 0,.slice none 0 0] 26
 refine bz<|aQ fG J J<|bq H2 1 J jh J J J<|k<|dD J J jA<|k ?_
 have bS:=OG (n:=(U.length:Int)) H2.mb aR
 refine ca G2 J (ec J e0) bS ?_
 rintro _ w2 ⟨a0,c0,rfl,fk,cw⟩
 have H3:=H2.eT cw
 refine ai (v:=.tuple #[.agg #[I (oM (U.length:Int)),sL a0 (iR (U.length:Int)) c0],I (sh (U.length:Int))]) J J<|k<|xt J J J<|k<|xt J J J<|k<|al H3 bp ?_
 let ba:=[oL w 144 a0 (iR (U.length:Int)) c0,J2,J1,J0]
 intro bJ w3 fN (H4:HI M w w3 (box bJ #[I 0,.slice none 0 0] 26::ba))
 refine k<|bw H4 0 J bp J J J J J J J ?_
 let J3:=box bJ #[I (oM (U.length:Int)),sL a0 (iR (U.length:Int)) c0] 26
 intro w4 (H5:HI M w w4 (J3::ba))
 refine ak (v:=I (sh (U.length:Int))) J J<|aq<|sq<|sq ?_
 have VL:CQ (U.length:Int)=true:=sP.2 aj
 obtain⟨en,er, -⟩:=xH VL
 refine rg<|aQ fG J J<|bq H5 3 J jh J J J<|k<|dD J J jA<|k<|sub J J J J aR<|ak (v:=I ((U.length:Int)-2)) J J<|aq<|bk<|lp (fun m f w'=>∃(j:Nat) (xs:List (List bt)),m=U.length-j∧f 1=pV aZ 0∧f 2=pV aY 0∧f 3=pV bJ 0∧f 5=I ((U.length:Int)-2-(j:Int))∧HI M w w' [J3,own w.heap.size 144 (.slice a0 (iR (U.length:Int)).length c0) xs,J2,J1,J0]∧(j≤U.length)∧(xs.length=U.length)∧(xs=zy U ((U.length:Int)-2-(j:Int)))) _ ⟨0,(iR (U.length:Int)),J,J,J,J,(bG J),H5,aj,(by rw[er,qh];simp),(by rw[er];exact P3 _ _ aj)⟩ ?_
 rintro _ f0 w5 ⟨j,xs,rfl,s0,s1,s2,s3,H6,hk,hl,hs⟩
 refine sq<|az<|ai J s3<|k<|geq J J J J<|z<|nx<|cd (b:=decide (0≤((U.length:Int)-2-(j:Int)))) J J (fun b0=>?_)<|fun b0=>?_
 ·
  have p0:=dT b0
  refine sk<|nx<|sq<|bk<|sq<|zb J aS<|kq (fun _ _=>fa fG J s0 e1)<|kq (fun _ x_=>lx (H6.ext x_) 3 J jh J J J e1)<|kq (fun _ _=>mv J s3 e1)<|rQ (H6.rv 4 J) J J J J aj jA jE ?_
  intro iE x0 aM cz
  refine kq (fun _ _=>fa Tp J J e1)<|ob (cz).fst.w aT J J ?_
  intro d_
  refine kq (fun _ _=>fa fG J s0 e1)<|kq (fun _ x_=>lx (H6.ext x_) 3 J jh J J J e1)<|kq (fun _ _=>mv J s3 e1)<|kq (fun _ _=>add J J J J aR e1)<|rQ (H6.rv 4 J) J J J J aj jA jE ?_
  intro rK x1 cQ gL
  refine kq (fun _ _=>fa Tp J J e1)<|ob (gL).fst.w aT J J ?_
  intro dZ
  refine kq (fun _ _=>eql J J J J e1)<|zq ?_
  intro w6 iP
  have H7:=H6.ext iP
  refine nx<|cd (b:=decide (x0.1=x1.1)) J J (fun b1=>?_)<|fun b1=>?_
  ·
   have p1:=dT b1
   refine lH [.r,.r,.r,.r,.r,.r,.r,.r,.r,.r,.r,.r,.e,.e] (fun _=>True) J aS (fun _ _=>trivial)<|yq J J<|kq (fun _ _=>fa iD J s2 e1)<|bH<|kq (fun _ x_=>lx (H7.ext x_) 0 J lb J J J e1)<|bH<|kq (fun _ _=>mv J s3 e1)<|bH<|kq (fun _ _=>fa iD J s2 e1)<|bH<|kq (fun _ x_=>lx (H7.ext x_) 0 J lb J J J e1)<|bH<|kq (fun _ _=>mv J s3 e1)<|bH<|kq (fun _ _=>add J J J J aR e1)<|bH<|oK (H7.at_ 1 J) J J J J aj im dm ?_
   intro pZ x2 jf kV
   refine bH<|Bb kV dm J J ?_
   intro a1 c1 fy
   have Aq:=bj fy
   have H8:=eG H7 fy
   refine bH<|kq (fun _ _=>mv J s3 e1)<|bH<|kq (fun _ _=>add J J J J aR e1)<|zq<|yu J (fun _ v w'=>∃(a2:OA) (c2:Nat),v=sL a2 (ej x2<|((U.length:Int)-2-(j:Int))+1) c2∧RV H7.fS w' (sL a2 (ej x2<|((U.length:Int)-2-(j:Int))+1) c2) (ej x2<|((U.length:Int)-2-(j:Int))+1)) J nh J (fun v_ _ x_ _=>have fP:=uz (r:=x2) (i:=(((U.length:Int)-2-(j:Int))+1)) (w:=v_) (H8.ext x_).mb ((H8.ext x_).rv 0 rfl) aR (by have h_:=UZ (hs▸jf);have lG:=No (n:=U.length) aj;omega);ca FK rfl (ec J<|ec J e0) fP (fun _ w8 ⟨a3,c3,e_,jK,je⟩=>⟨_,J,jK,⟨a3,c3,e_,(ly J<|bm.rv je (H8.ext x_).mb)⟩⟩))<|ye<|ye<|yz ?_
   intro w9 f1 _ lC _ _ cx iJ
   have cM:=H8.ext lC
   have s4:=(cx 1 J).trans s0
   have s5:=(cx 2 J).trans s1
   have s6:=(cx 3 J).trans s2
   have s7:=(cx 5 J).trans s3
   have s8:=cx 36 J
   have s9:=cx 37 J
   obtain⟨a4,c4,eu,oE⟩:=iJ 0 _ _ rfl
   let J4:=iL a4 (ej x2 (((U.length:Int)-2-(j:Int))+1)) c4
   have dU:=cM.put (it:=J4) J<|by rw[aD J];exact oE
   refine jw<|gW (dU.at_ 3 J) J J s8 s9 aj im dm ?_
   intro g0 x3 iC nH vw
   refine jw<|oQ dU 3 J iC J aj dm J J J eu (dU.rv 0 J) ?_
   let J5:=own w.heap.size 144 (.slice a0 (iR (U.length:Int)).length c0) (xs.set (((U.length:Int)-2-(j:Int)).toNat) (ej x2 (((U.length:Int)-2-(j:Int))+1)))
   intro dM (dt:HI M w dM [J4,iL a1 x2 c1,J3,J5,J2,J1,J0])
   refine kz<|aG<|nx<|rg<|ai J s7<|k<|sub J J J J aR<|ak (v:=I (((U.length:Int)-2-(j:Int))-1)) J J<|z ?_
   have cR:HI M w dM [J3,J5,J2,J1,J0]:=dt.bX [2,3,4,5,6] au J
   refine bF _ ?_ ⟨(j+1),(xs.set (((U.length:Int)-2-(j:Int)).toNat) (ej x2<|((U.length:Int)-2-(j:Int))+1)),J,s4,s5,s6,(bG J),cR,aj,(by simpa using hl),(by rw[show ((U.length:Int)-2-(((j+1:Nat):Nat):Int))=((U.length:Int)-2-(j:Int))-1 from by omega];first|((have h_:=kT (t:=((U.length:Int)-2-(j:Int))) aj aj (by rw[gF aM,gF cQ];exact p1) (hs▸jf);rw[←h_,←hs]))|((have h_:=kT (t:=((U.length:Int)-2-(j:Int))) aj aj (by rw[gF aM,gF cQ];exact p1) (hs▸nH);rw[←h_,←hs]))|((have h_:=kT (t:=((U.length:Int)-2-(j:Int))) aj aj (by rw[gF aM,gF cQ];exact p1) (hs▸yN);rw[←h_,←hs]))|((have h_:=kT (t:=((U.length:Int)-2-(j:Int))) aj aj (by rw[gF aM,gF cQ];exact p1) (hs▸Ey);rw[←h_,←hs]))|((have h_:=kT (t:=((U.length:Int)-2-(j:Int))) aj aj (by rw[gF aM,gF cQ];exact p1) (hs▸XE);rw[←h_,←hs]))|((have h_:=kT (t:=((U.length:Int)-2-(j:Int))) aj aj (by rw[gF aM,gF cQ];exact p1) (hs▸hx7);rw[←h_,←hs]))|(rw[hs];exact Gr ho aj aj (by rw[gF aM,gF cQ];exact p1)))⟩
   omega
  have p1:=dF b1
  refine sk<|aG<|nx<|rg<|ai J s3<|k<|sub J J J J aR<|ak (v:=I (((U.length:Int)-2-(j:Int))-1)) J J<|z<|bF _ ?_ ⟨(j+1),xs,J,s0,s1,s2,(bG J),H7,aj,bo,(by rw[show ((U.length:Int)-2-(((j+1:Nat):Nat):Int))=((U.length:Int)-2-(j:Int))-1 from by omega];first|((have h_:=kT (t:=((U.length:Int)-2-(j:Int))) aj aj (by rw[gF aM,gF cQ];exact p1) (hs▸jf);rw[←h_,←hs]))|((have h_:=kT (t:=((U.length:Int)-2-(j:Int))) aj aj (by rw[gF aM,gF cQ];exact p1) (hs▸nH);rw[←h_,←hs]))|((have h_:=kT (t:=((U.length:Int)-2-(j:Int))) aj aj (by rw[gF aM,gF cQ];exact p1) (hs▸yN);rw[←h_,←hs]))|((have h_:=kT (t:=((U.length:Int)-2-(j:Int))) aj aj (by rw[gF aM,gF cQ];exact p1) (hs▸Ey);rw[←h_,←hs]))|((have h_:=kT (t:=((U.length:Int)-2-(j:Int))) aj aj (by rw[gF aM,gF cQ];exact p1) (hs▸XE);rw[←h_,←hs]))|((have h_:=kT (t:=((U.length:Int)-2-(j:Int))) aj aj (by rw[gF aM,gF cQ];exact p1) (hs▸hx7);rw[←h_,←hs]))|(rw[hs];exact Gr ho aj aj (by rw[gF aM,gF cQ];exact p1)))⟩
  omega
 have p0:=dF b0
 refine ex<|aV<|bc<|bg<|cO<|k<|cB H6 0 J bp J s2 au J<|k<|bw H6 2 J bp J J s1 J J J J ?_
 intro w6 (H7:HI M w w6 [J3,own w.heap.size 144 (.slice a0 (iR (U.length:Int)).length c0) xs,box aY #[I (oM (U.length:Int)),sL a0 (iR (U.length:Int)) c0] 26,J1,J0])
 refine aq<|rt<|py H7 2 J bp J J s1 J au ?_
 have e0:(oM (U.length:Int):Int)=(U.length:Int):=by rw[en]
 have e1:(xs:List (List bt))=oY U:=by rw[hs];exact U0 aj
 have l1:(iR (U.length:Int)).length=(oY U).length:=by rw[er,qh,Zk];simp
 have bu:=nL (fun (cg:Int) (ve:Nat)=>(.agg #[I cg,.slice a0 ve c0]:Value)) e0 l1
 exact⟨a0,c0,bu,H7.below,(am_ (fun (n_:Nat)=>bm _ _ _ (oY U) (.slice a0 n_ c0) _) l1).mp ((am_ (fun (x_:List (List bt))=>bm _ _ _ x_ (.slice a0 (iR (U.length:Int)).length c0) _) e1).mp (H7.dp 1 J))⟩
theorem La {tt:Int} (hM:eO M w) (dL:cD M w aw av U) (amv:aJ tt) (ho:ig U) (dB:U.length≤4096):Calls aI 108 #[.agg #[.slice aC aE aB,sL aw U av,.slice ay fe ax],I tt] w (cp fun v w'=>∃(a0:OA) (c0:Nat),v=.slice a0 (cC U tt).length c0∧Ext w w'∧bm M 3 w (cC U tt) (.slice a0 (cC U tt).length c0) w'):=by
 refine dG 41 Tryz.func108 J J J hM fun f0 ha H=>?_
 let J0:=iL aw U av
 have H0:=H.put (it:=J0) J<|by rw[bP];exact dL
 have ja:=bj dL
 have i0:f0 0=.agg #[.slice aC aE aB,sL aw U av,.slice ay fe ax]:=ha 0 bl
 have i1:f0 1=I tt:=ha 1 bl
 refine az<|k<|bx H0 J i0 ?_
 intro aZ w0 bY (H1:HI M w w0 [box aZ #[.slice aC aE aB,sL aw U av,.slice ay fe ax] 47,J0])
 let J1:=box aZ #[.slice aC aE aB,sL aw U av,.slice ay fe ax] 47
 refine ak (v:=.slice none 0 0) J J<|aq<|sq<|az<|ai J i1<|k<|lss J J J J<|ai (v:=.bool (decide (tt<0))) J J ?_
 rcases bE (decide (tt<0)) with b0|b0
 ·
  have p0:=dT b0
  refine aW J J J b0<|aW J J J b0<|aW J J J b0<|aW J J J b0<|aW J J J b0<|k<|aP J J J J b0 J<|aq<|ot J J J<|az<|ak (v:=.slice none 0 0) J J<|aq<|rt<|aK<|r1 J J ?_
  have e0:([]:aA)=cC U tt:=by exact Fl aj
  have bu:=iK (fun (cg:aA)=>(.slice none cg.length 0:Value)) e0
  exact⟨none,0,bu,H1.below,(am_ (fun (x_:aA)=>bm _ _ _ x_ (.slice none x_.length 0) _) e0).mp (fR H1.below)⟩
 have p0:=dF b0
 refine bh J J J b0<|mv J i1<|bh J J J b0<|fa fG J J<|bh J J J b0<|lx H1 0 J jh J J J<|bh J J J b0<|dD J J jA<|bh J J J b0<|geq J J J J<|k<|dA J J J J b0 J<|z<|nx<|cd (b:=decide ((U.length:Int)≤tt)) J J (fun b1=>?_)<|fun b1=>?_
 ·
  have p1:=dT b1
  refine az<|ak (v:=.slice none 0 0) J J<|aq<|rt<|aK<|r1 J J ?_
  have e0:([]:aA)=cC U tt:=by exact Fl aj
  have bu:=iK (fun (cg:aA)=>(.slice none cg.length 0:Value)) e0
  exact⟨none,0,bu,H1.below,(am_ (fun (x_:aA)=>bm _ _ _ x_ (.slice none x_.length 0) _) e0).mp (fR H1.below)⟩
 have p1:=dF b1
 refine sk<|cO<|ai J i1<|aQ fG J J<|bq H1 0 J jh J J J<|ai J i1<|k<|ia (H1.rv 1 J) J J J J aj jA jE ?_
 intro iE x0 aM cz
 refine aQ adD J J<|k<|mw ((cz).s1).fst.w aT J J ?_
 intro cw
 refine k<|sub J J J J (by have C7:=ho.Ap tt.toNat aj;have VK:=(ho.back tt.toNat aj).1;rw[HQ aM] at C7 VK;unfold aJ;omega)<|ak (v:=I (tt-x0.2.1)) J J<|aq<|sq ?_
 have C7:=ho.Ap tt.toNat aj
 have VK:=(ho.back tt.toNat aj).1
 rw[HQ aM] at C7 VK
 refine rg<|ai J i1<|ai (v:=I (tt-x0.2.1)) J J<|k<|sub J J J J aR<|k<|add J J J J aR<|k ?_
 have n0:((((tt-(tt-x0.2.1))+1).toNat:Nat):Int)=(tt-(tt-x0.2.1))+1:=anP aj
 refine mk0 (α:=Int) (m:=((tt-(tt-x0.2.1))+1).toNat) H1 J J J (by rw[n0];exact rfl) cG aT aj aj ?_
 intro g0 w1 cT (H2:HI M w w1 [own w.heap.size 3 (.slice (some ⟨g0,0,none⟩) 0 (((tt-(tt-x0.2.1))+1).toNat)) ([]:aA),J1,J0])
 refine ak (v:=.slice (some ⟨g0,0,none⟩) 0 (((tt-(tt-x0.2.1))+1).toNat)) J J<|aq<|sq<|az<|ai (v:=I (tt-x0.2.1)) J J<|ak (v:=I (tt-x0.2.1)) J J<|aq<|bk<|lp (fun m f w'=>∃(q:Nat) (xs:aA) (a0:OA) (c0:Nat),m=(x0.2.1+1).toNat-q∧f 1=I tt∧f 6=sL a0 xs c0∧f 7=I (tt-x0.2.1+(q:Int))∧HI M w w' [oL w 3 a0 xs c0,J1,J0]∧((q:Int)≤x0.2.1+1)∧(xs=u7 (tt-x0.2.1) q)) _ ⟨0,([]:aA),(some ⟨g0,0,none⟩),(((tt-(tt-x0.2.1))+1).toNat),J,i1,J,(bG J),H2,aj,(by rfl)⟩ ?_
 rintro _ f0 w2 ⟨q,xs,a0,c0,rfl,s0,s1,s2,H3,sU,hs⟩
 refine sq<|az<|ai J s2<|ai J s0<|k<|leq J J J J<|z<|nx<|cd (b:=decide ((tt-x0.2.1+(q:Int))≤tt)) J J (fun b2=>?_)<|fun b2=>?_
 ·
  have p2:=dT b2
  refine sk<|nx<|sq<|bk<|rg<|ai J s1<|ai J s2<|k<|bs (xs:=([(tt-x0.2.1+(q:Int))]:aA)) (cells:=#[I (tt-x0.2.1+(q:Int))]) (e:=3) H3 J (cm J ew) (fun _=>aS) ⟨[I (tt-x0.2.1+(q:Int))],[],J,⟨J,(show aJ ((tt-x0.2.1+(q:Int))) from aR)⟩,J⟩ J au ?_
  intro g1 w3 fk H4
  refine k<|lY H4 1 J J J J J J (gY<|H4.at_ 0 J) cG aT J (by rw[hs,P6];simp only[iI,gj];omega) J ?_
  intro a1 c1 w4 (H5:HI M w w4 [own w.heap.size 3 (.slice (some ⟨g1,0,none⟩) 1 1) ([(tt-x0.2.1+(q:Int))]:aA),oL w 3 a1 (xs++([(tt-x0.2.1+(q:Int))]:aA)) c1,J1,J0])
  refine ak (v:=sL a1 (xs++([(tt-x0.2.1+(q:Int))]:aA)) c1) J J<|z<|aG<|nx<|rg<|ai J s2<|k<|add J J J J aR<|ak (v:=I ((tt-x0.2.1+(q:Int))+1)) J J<|z ?_
  have H6:HI M w w4 [oL w 3 a1 (xs++([(tt-x0.2.1+(q:Int))]:aA)) c1,J1,J0]:=H5.bX [1,2,3] au J
  refine bF _ ?_ ⟨(q+1),(xs++([(tt-x0.2.1+(q:Int))]:aA)),a1,c1,J,s0,J,(bG J),H6,aj,(by rw[hs];exact NC _ _)⟩
  omega
 have p2:=dF b2
 refine ex<|aV<|bc<|bg<|cO<|ai J s1<|ak (v:=sL a0 xs c0) J J<|aq<|rt<|r1 J J ?_
 have e0:(xs:aA)=cC U tt:=by rw[hs];exact R7 aj aj aM C7 aj
 have bu:=iK (fun (cg:aA)=>(.slice a0 cg.length c0:Value)) e0
 exact⟨a0,c0,bu,H3.below,(am_ (fun (x_:aA)=>bm _ _ _ x_ (.slice a0 x_.length c0) _) e0).mp (H3.dp 0 J)⟩
theorem afW:cA aI 108:=cI Tryz.func108
theorem afV:cA aI 109:=cI Tryz.func109
theorem CI (hM:eO M w) (dL:cD M w aw av U) (ui:aJ o) (ho:ig U) (dB:U.length≤4096):Calls aI 68 #[.agg #[.slice aC aE aB,sL aw U av,.slice ay fe ax],I o] w (cp fun v w'=>∃(a0:OA) (c0:Nat),v=.slice a0 (aX (fX U) (cC U o)).length c0∧Ext w w'∧bm M 3 w (aX (fX U) (cC U o)) (.slice a0 (aX (fX U) (cC U o)).length c0) w'):=by
 refine dG 10 Tryz.func68 J J J hM fun f0 ha H=>?_
 let J0:=iL aw U av
 have H0:=H.put (it:=J0) J<|by rw[bP];exact dL
 have i0:f0 0=.agg #[.slice aC aE aB,sL aw U av,.slice ay fe ax]:=ha 0 bl
 have i1:f0 1=I o:=ha 1 bl
 refine az<|k<|bx H0 J i0 ?_
 intro aZ w0 bY (H1:HI M w w0 [box aZ #[.slice aC aE aB,sL aw U av,.slice ay fe ax] 47,J0])
 let J1:=box aZ #[.slice aC aE aB,sL aw U av,.slice ay fe ax] 47
 refine ak (v:=.slice none 0 0) J J<|bz<|k<|cB H1 0 J eh J J au J<|ai J i1<|k ?_
 have bS:=La (U:=U) (tt:=o) (aC:=aC) (aE:=aE) (aB:=aB) (ay:=ay) (fe:=fe) (ax:=ax) H1.mb (H1.rv 1 J) ui aj aj
 refine ca afW J (ec J<|ec J e0) bS ?_
 rintro _ w1 ⟨a0,c0,rfl,cT,cw⟩
 have H2:=H1.eT cw
 refine k<|mf J<|k ?_
 have H3:HI M w w1 ([oL w 3 a0 (cC U o) c0]++[J1,J0]):=H2.bX [0,1,2] au J
 have cU:=pj (dW:=a0) (dS:=c0) (xs:=(cC U o)) (qD:=109) (qH:=[pV aZ 0]) (p:=(fun (x_:Int)=>fX U x_)) (w:=w) (w_:=w1) (r:=[J1,J0]) (M:=M) ⟨afV,fun w_ rC H_ x_ pe Ez=>P5 (U:=U) (M:=fun _=>False) (fun _ h_=>h_.elim) Ez ((H_.rv 2 J).lift (Up.less fun _ _ h_=>h_.elim)) ⟨H_.at_ 1 rfl,fun h_=>h_⟩ (by obtain⟨j_,GX⟩:=anu.1 pe;exact IT ho GX)⟩ H3
 refine ca G3 J (ec J<|ec J e0) cU ?_
 rintro _ w2 ⟨rfl,H4⟩
 have H5:HI M w w2 [oL w 3 a0 (aX (fun (x_:Int)=>fX U x_) (cC U o)) c0,J1,J0]:=H4
 refine ak (v:=sL a0 (aX (fun (x_:Int)=>fX U x_)<|cC U o) c0) J J<|aq<|rt<|r1 J J ?_
 have e0:((aX (fun (x_:Int)=>fX U x_) (cC U o)):aA)=aX (fX U) (cC U o):=rfl
 have bu:=iK (fun (cg:aA)=>(.slice a0 cg.length c0:Value)) e0
 exact⟨a0,c0,bu,H5.below,(am_ (fun (x_:aA)=>bm _ _ _ x_ (.slice a0 x_.length c0) _) e0).mp (H5.dp 0 J)⟩
theorem zE (hM:eO M w) (ga:aJ mn) (gv:cD M w bD bC mr) (xS:cD M w my mT l) (bZ:bK mn mr=true) (XS:l.length≤1000000000):Calls aI 81 #[.agg #[I mn,sL bD mr bC],sL my l mT] w (cp fun v w'=>∃(a0:OA) (c0:Nat),v=.agg #[I mn,.slice a0 (gp mn mr l).length c0]∧Ext w w'∧bm M 144 w (gp mn mr l) (.slice a0 (gp mn mr l).length c0) w'):=by
 refine dG 73 Tryz.func81 J J J hM fun f0 ha H=>?_
 let J0:=iL bD mr bC
 have H0:=H.put (it:=J0) J<|by rw[bP];exact gv
 let J1:=iL my l mT
 have H1:=H0.put (it:=J1) J<|by rw[aD rfl,bP];exact xS
 have nz:=bj gv
 have abO:=bj xS
 have i0:f0 0=.agg #[I mn,sL bD mr bC]:=ha 0 bl
 have i1:f0 1=sL my l mT:=ha 1 bl
 have ue:=(bQ bZ).1;have Jp:=(bQ bZ).2.2.1;have Dg:=kS bZ
 refine az<|k<|bx H1 J i0 ?_
 let ba:=[J1,J0]
 intro aZ w0 bY (H2:HI M w w0 (box aZ #[I mn,sL bD mr bC] 26::ba))
 let J2:=box aZ #[I mn,sL bD mr bC] 26
 refine k<|al H2 bp ?_
 let bV:=J2::ba
 intro aY w1 cT (H3:HI M w w1 (box aY #[I 0,.slice none 0 0] 26::bV))
 let J3:=box aY #[I 0,.slice none 0 0] 26
 refine bz<|aQ ku J J<|bq H3 1 J aT J J J<|k ?_
 have bS:=DW (n:=mn) H3.mb ga aj
 refine ca QB J (ec J e0) bS ?_
 rintro _ w2 ⟨a0,c0,rfl,fk,cw⟩
 have H4:=H3.eT cw
 refine ak (v:=sL a0 (eb mn) c0) J J<|aq<|sq<|az<|ai J i1<|k<|dD J J cG<|ai (v:=I 0) J J<|aq<|bk ?_
 have H5:=H4.freeze 0 J
 let J4:=iL a0 (eb mn) c0
 have H6:=H5.put (it:=J4) J<|H5.rv 0 J
 let dz:=J4::J3::bV
 refine lp (fun m f w'=>∃(q:Nat) (rW:List bt) (a1:OA) (c1:Nat),m=l.length-q∧f 2=pV aZ 0∧f 4=pV aY 0∧f 5=sL a1 rW c1∧f 16=sL my l mT∧f 17=I (l.length:Int)∧f 18=I (q:Int)∧HI M w w' (iL a1 rW c1::dz)∧(q≤l.length)∧(rW=pG mn.toNat (l.take q))) _ ⟨0,(eb mn),a0,c0,J,J,J,J,J,J,(bG J),H6,aj,(by exact Vr Dg l)⟩ ?_
 rintro _ f0 w3 ⟨q,rW,a1,c1,rfl,s0,s1,s2,s3,s4,s5,H7,sU,hm⟩
 refine az<|k<|lss J J s5 s4<|aq<|sq<|cd (b:=decide ((q:Int)<(l.length:Int))) J J (fun b0=>?_)<|fun b0=>?_
 ·
  have p0:=dT b0
  refine sk<|nx<|sq<|bk<|az<|k<|ia (H7.rv 4 J) J J s3 s5 aj cG aT ?_
  intro iE x0 aM cz
  refine k<|mw cz.w aT J J ?_
  intro d_
  refine ak (v:=I x0) J J<|bz<|ai (v:=I x0) J J<|aQ ku J s0<|bq H7 3 J aT J J J<|k<|lss J J J J<|z<|nx<|cd (b:=decide (x0<mn)) J J (fun b1=>?_)<|fun b1=>?_
  ·
   have p1:=dT b1
   refine rg<|ai J s2<|ai (v:=I x0) J J<|k ?_
   have cU:=uz (r:=rW) (i:=x0) H7.mb (H7.rv 0 J) d_<|by rw[hm,I0 Dg];have h_:=E4 Jp;omega
   refine ca FK J (ec J<|ec J e0) cU ?_
   rintro _ w4 ⟨a2,c2,rfl,fN,dZ⟩
   have H8:=H7.eT dZ
   refine ak (v:=sL a2 (ej rW x0) c2) J J<|z<|aG<|nx<|rg<|k<|add J J s5 J aR<|ai (v:=I ((q:Int)+1)) J J<|z ?_
   have H9:=H8.freeze 0 J
   have dO:=eG H9<|H9.rv 0 J
   have cV:HI M w w4 (iL a2 (ej rW x0) c2::dz):=dO.bX [0,3,4,5,6,7] au J
   refine bF _ ?_ ⟨(q+1),(ej rW x0),a2,c2,J,s0,s1,J,s3,s4,(bG J),cV,aj,(by exact Zx hm aM aj)⟩
   omega
  have p1:=dF b1
  refine sk<|aG<|nx<|rg<|k<|add J J s5 J aR<|ai (v:=I ((q:Int)+1)) J J<|z ?_
  have H8:=eG H7<|H7.rv 0 J
  have H9:HI M w w3 (iL a1 rW c1::dz):=H8.bX [0,2,3,4,5,6] au J
  refine bF _ ?_ ⟨(q+1),rW,a1,c1,J,s0,s1,s2,s3,s4,(bG J),H9,aj,(by exact abG hm aM aj)⟩
  omega
 have p0:=dF b0
 refine ex<|aV<|bc<|bg<|nx<|sq ?_
 have oC:rW=pG mn.toNat l:=by rw[hm,mg aj]
 refine rg<|aQ ku J s0<|bq H7 3 J aT J J J<|k ?_
 have cU:=Fz (n:=mn) H7.mb ga (by exact kS bZ)<|by exact(bQ bZ).2.2.1
 refine ca G2 J (ec J e0) cU ?_
 rintro _ w4 ⟨a2,c2,fQ,rfl,fN,d_⟩
 have H8:=H7.Gs d_
 let J5:=own w.heap.size 144 (.slice a2 mn.toNat c2) fQ
 let J6:=iL a1 rW c1
 let iW:=J5::J6::dz
 have H9:HI M w w4 (iW++aU w.heap.size 151 fQ (List.replicate mn.toNat (eb mn))):=H8
 have E_:=d_.1
 refine ai (v:=.tuple #[.agg #[I mn,.slice a2 mn.toNat c2],I 0]) J J<|k<|xt J J J<|k<|xt J J J<|k<|al H9 bp ?_
 intro bJ w5 iP (dO:HI M w w5 ((box bJ #[I 0,.slice none 0 0] 26::iW)++aU w.heap.size 151 fQ (List.replicate mn.toNat (eb mn))))
 refine k<|bw dO 0 J bp J J J J J J J ?_
 let J7:=box bJ #[I mn,.slice a2 mn.toNat c2] 26
 let fm:=J7::iW
 intro w6 (cV:HI M w w6 (fm++aU w.heap.size 151 fQ (List.replicate mn.toNat (eb mn))))
 refine ak (v:=I 0) J J<|aq<|sq<|az<|aQ iD J J<|bq cV 0 J lb J J J<|k<|dD J J im<|ai (v:=I 0) J J<|aq<|bk<|lp (fun m f w'=>∃(i:Nat) (xs:List (List bt)),m=mn.toNat-i∧f 2=pV aZ 0∧f 4=pV aY 0∧f 5=sL a1 rW c1∧f 8=pV bJ 0∧f 38=I (mn.toNat:Int)∧f 39=I (i:Int)∧HI M w w' (fm++aU w.heap.size 151 fQ xs)∧(i≤mn.toNat)∧(fQ.length=xs.length)∧(xs=cH mn.toNat (xh (fZ mr) l i))∧(xs.length=mn.toNat)) _ ⟨0,(List.replicate mn.toNat<|eb mn),J,s0,s1,s2,J,J,(bG J),cV,aj,(by exact E_),(by exact Uy bZ),bl⟩ ?_
 rintro _ f1 w7 ⟨i,xs,rfl,s6,s7,s8,s9,eu,fb,du,XX,hl,hs,Ex⟩
 refine az<|k<|lss J J fb eu<|aq<|sq<|cd (b:=decide ((i:Int)<(mn.toNat:Int))) J J (fun b1=>?_)<|fun b1=>?_
 ·
  have p1:=dT b1
  refine sk<|nx<|sq<|bk<|az<|ai J fb<|ak (v:=I (i:Int)) J J<|aq<|sq<|az<|ai J s8<|ai (v:=I (i:Int)) J J<|k ?_
  have fP:=Ac (r:=rW) (i:=(i:Int)) du.mb (du.rv 2 J) aR
  refine ca Mp J (ec J<|ec J e0) fP ?_
  rintro _ w8 ⟨rfl,jc⟩
  have dJ:=du.ext jc
  refine k<|jY J J<|z<|nx<|cd (b:=!(fq rW (i:Int))) J J (fun b2=>?_)<|fun b2=>?_
  ·
   refine ex<|aV<|bg<|nx<|rg<|k<|add J J fb J aR<|ai (v:=I ((i:Int)+1)) J J<|z<|bF _ ?_ ⟨(i+1),xs,J,s6,s7,s8,s9,eu,(bG J),dJ,aj,(by exact hl),(by exact YX bZ hs oC aj (by simpa using b2)),(by exact Ex)⟩
   omega
  refine sk<|cO<|aQ iD J s6<|bq dJ 5 J lb J J J<|ai (v:=I (i:Int)) J J<|k<|ia (dJ.rv 7 J) J J J J aj im dm ?_
  intro iE x0 aM cz
  refine k<|wm cz.w dm J J ?_
  intro a3 c3 dZ
  have Aq:=bj dZ
  have cM:=eG dJ dZ
  let kx:=iL a3 x0 c3::fm
  have dU:HI M w w8 (kx++aU w.heap.size 151 fQ xs):=cM
  refine k<|dD J J iq<|ai (v:=I 0) J J<|aq<|bk<|lp (fun m f w'=>∃(k_:Nat) (ys:List (List bt)),m=x0.length-k_∧f 2=pV aZ 0∧f 4=pV aY 0∧f 5=sL a1 rW c1∧f 8=pV bJ 0∧f 10=I (i:Int)∧f 38=I (mn.toNat:Int)∧f 39=I (i:Int)∧f 50=sL a3 x0 c3∧f 51=I (x0.length:Int)∧f 52=I (k_:Int)∧HI M w w' (kx++aU w.heap.size 151 fQ ys)∧(k_≤x0.length)∧(fQ.length=ys.length)∧(ys=xs.set i (mG x0 rW k_))∧(ys.length=mn.toNat)) _ ⟨0,xs,J,s6,s7,s8,s9,J,eu,fb,J,J,(bG J),dU,aj,(by exact hl),(by exact aeK bZ hs aM),(by exact Ex)⟩ ?_
  rintro _ f2 w9 ⟨k_,ys,rfl,fu,fl,gi,gS,j4,kJ,lD,l5,l4,oT,dt,pA,oe,gK,As⟩
  refine az<|k<|lss J J oT l4<|aq<|sq<|cd (b:=decide ((k_:Int)<(x0.length:Int))) J J (fun b3=>?_)<|fun b3=>?_
  ·
   have p3:=dT b3
   refine sk<|nx<|sq<|bk<|sq ?_
   have ml_:rW.length=x0.length:=by rw[oC,I0 Dg,nY bZ aM]
   refine rg<|ai J oT<|k<|ia (dt.rv 0 J) J J l5 oT aj iq fw ?_
   intro rK x1 cQ gL
   refine k<|yL gL.w fw J J<|ak (v:=I (k_:Int)) J J<|ak (v:=ag x1) J J<|z<|nx ?_
   obtain⟨a4,x2,c4,kD,ko⟩:=ru (i:=(i:Int).toNat) dt bo aj
   obtain⟨x4,nH⟩:∃x,rW[(k_:Int).toNat]? =some x:=⟨_,eI aj⟩
   refine dr 12 [eV (pV bJ 1),eV (.slice a2 mn.toNat c2),eV (I (i:Int)),fun v w'=>∃(g0:Nat),v=.pointer (some ⟨g0,(i:Int).toNat*1,none⟩)∧(.slice a2 mn.toNat c2:Value).ownBlock=some g0∧hQ dt.fS w' ⟨g0,(i:Int).toNat*1,none⟩ (⟨a4,x2.length,c4⟩:SV),eV (sL a4 x2 c4),eV (I (k_:Int)),eV (ag x1),eV (sL a1 rW c1),eV (I (k_:Int)),fun v w'=>∃(pZ:Addr),v=.pointer (some pZ)∧At dt.fS w' pZ x4,eV (ag x4),eV (ag<|x1 &&& x4)] J aS ?_ ?_
   ·
    refine dc (fun _ _ S1 _ _=>fa iD J ((S1 8 J).trans gS)<|d0 J J)<|dc (fun _ _ _ lC Jd=>lx (dt.ext lC) 1 J lb J (Jd 0 J J) J<|d0 J J)<|dc (fun _ _ Md _ _=>mv J ((Md 10 J).trans j4)<|d0 J J) ?_
    refine⟨fun _=>⟨fun f6 ij hf3 yp yP=>?_,by rintro _ _ _ x_ ⟨g0,e_,iC,kV⟩;exact⟨g0,e_,iC,kV.ext x_⟩⟩,?_⟩
    ·
     have cE:=dt.ext yp
     have t':f6 58=.slice a2 mn.toNat c2:=yP 1 J J
     have u1:f6 59=I (i:Int):=yP 2 J J
     refine gW (cE.at_ 2 J) J J t' u1 aj im dm ?_
     intro g1 x5 kn yN wx
     obtain rfl:(⟨a4,x2.length,c4⟩:SV)=x5:=ana (kD.symm.trans yN)
     exact⟨_,J,Ext.refl _,⟨g1,J,kn,wx⟩⟩
    refine dc (fun f7 jv hf4 Cj ED=>?_) ?_
    ·
     obtain⟨g2,tZ,vk,Jo⟩:∃(g2:Nat),f7 60=.pointer (some ⟨g2,(i:Int).toNat*1,none⟩)∧(.slice a2 mn.toNat c2:Value).ownBlock=some g2∧hQ dt.fS jv ⟨g2,(i:Int).toNat*1,none⟩ (⟨a4,x2.length,c4⟩:SV):=ED 3 rfl rfl
     refine I5 Jo dm J tZ ?_
     exact⟨_,J,Ext.refl _,J⟩
    refine dc (fun _ _ X0 _ _=>mv J (X0 11 J)<|d0 J J)<|dc (fun _ _ hf6 _ _=>mv J (hf6 12 J)<|d0 J J)<|dc (fun _ _ hf7 _ _=>mv J ((hf7 5 J).trans gi)<|d0 J J)<|dc (fun _ _ hf8 _ _=>mv J (hf8 11 J)<|d0 J J) ?_
    refine⟨fun _=>⟨fun f12 yr hf9 Pt EC=>?_,by rintro _ _ _ x_ ⟨pZ,e_,vw⟩;exact⟨pZ,e_,vw.lift (Up.ext x_)⟩⟩,?_⟩
    ·
     have iy:=dt.ext Pt
     have sM:f12 64=sL a1 rW c1:=EC 7 J J
     have xw:f12 65=I (k_:Int):=EC 8 J J
     refine ia (iy.rv 3 J) J J sM xw aj iq fw ?_
     intro vI x6 Ey OX
     obtain rfl:x4=x6:=ana (nH.symm.trans Ey)
     exact⟨_,J,Ext.refl _,⟨vI,J,OX⟩⟩
    refine dc (fun f13 z1 BB Uw vY=>?_) ?_
    ·
     have iS:=dt.ext Uw
     obtain⟨uo,B2,Jn⟩:∃(uo:Addr),f13 66=.pointer (some uo)∧At dt.fS z1 uo x4:=vY 9 rfl rfl
     have kY:=iS.put (it:=rm uo x4) J Jn
     have iw:HI M w z1 ((rm uo x4::kx)++aU w.heap.size 151 fQ ys):=kY
     refine yL (iw.atv 0 J).w fw J B2 ?_
     exact⟨_,J,Ext.refl _,J⟩
    refine dc (fun _ _ _ _ Qr=>DE x1 x4 J J (Qr 6 J J) (Qr 10 J J)<|d0 J J) ?_
    exact mz.rest J _
   ·
    intro f15 Gf zG ahC L5
    have j':=dt.ext ahC
    have RF:=(zG 2 J).trans fu
    have s32:=(zG 4 J).trans fl
    have s33:=(zG 5 J).trans gi
    have s34:=(zG 8 J).trans gS
    have s35:=(zG 10 J).trans j4
    have s36:=(zG 38 J).trans kJ
    have s37:=(zG 39 J).trans lD
    have s38:=(zG 50 J).trans l5
    have s39:=(zG 51 J).trans l4
    have s40:=(zG 52 J).trans oT
    have s41:=L5 4 J
    have s42:=L5 5 J
    have s43:=L5 11 J
    refine k<|gW (j'.at_ _<|oV kD ko) J J s41 s42 (by have h_:=am_ List.length (KI bZ hs gK aM ko);rw[tg] at h_;omega) iq fw ?_
    intro g3 x7 XH XE Yd
    refine k<|oQ j' _ (oV kD ko) XH J (by have h_:=am_ List.length (KI bZ hs gK aM ko);rw[tg] at h_;omega) fw J J J s43 (RV.bv.2 J) ?_
    intro Rk jX
    have nP:=HI.Ad (M:=fun _=>False) (it:=tH (.int .i64 0) (0:Int)) jX kD
    have rp:HI M w Rk (kx++aU w.heap.size 151 fQ (ys.set ((i:Int).toNat) (x2.set ((k_:Int).toNat) (x1 &&& x4)))):=nP
    refine z<|aG<|nx<|rg<|k<|add J J s40 J aR<|ai (v:=I ((k_:Int)+1)) J J<|z<|bF _ ?_ ⟨(k_+1),(ys.set ((i:Int).toNat) (x2.set ((k_:Int).toNat) (x1 &&& x4))),J,RF,s32,s33,s34,s35,s36,s37,s38,s39,(bG J),rp,aj,(by rw[am'];exact oe),(by exact YW bZ hs gK aM ko cQ nH),(by rw[am'];exact As)⟩
    omega
  have p3:=dF b3
  refine ex<|aV<|bc<|bg<|aG<|nx<|rg<|k<|add J J lD J aR<|ai (v:=I ((i:Int)+1)) J J<|z ?_
  have cR:HI M w w9 (fm++aU w.heap.size 151 fQ ys):=HI.aP (l:=kx) (l':=fm) (t:=aU w.heap.size 151 fQ ys) dt [1,2,3,4,5,6,7,8] au J J
  refine bF _ ?_ ⟨(i+1),ys,J,fu,fl,gi,gS,kJ,(bG J),cR,aj,(by exact oe),(by exact YY bZ hs gK aM oC (by simpa using b2) aj),(by exact As)⟩
  omega
 have p1:=dF b1
 refine ex<|aV<|bc<|bg<|nx<|sq ?_
 have dJ:HI M w w7 (own w.heap.size 144 (.slice a2 mn.toNat c2) xs::J7::J6::dz):=HI.deep (l:=(J7::J6::dz)) (HI.aP (l:=fm) (l':=(J5::J7::J6::dz)) (t:=aU w.heap.size 151 fQ xs) du [1,0,2,3,4,5,6,7] au J J) bo
 refine rg<|k<|cB dJ 1 J bp J s9 au J<|k<|bw dJ 4 J bp J J s7 J J J J ?_
 intro w8 (cM:HI M w w8 [own w.heap.size 144 (.slice a2 mn.toNat c2) xs,J7,J6,J4,box aY #[I mn,.slice a2 mn.toNat c2] 26,J2,J1,J0])
 refine aq<|rt<|py cM 4 J bp J J s7 J au ?_
 have e1:(xs:List (List bt))=gp mn mr l:=by exact aaE bZ hs aj
 have l1:mn.toNat=(gp mn mr l).length:=by rw[←e1];omega
 have bu:=iK (fun (ve:Nat)=>(.agg #[I mn,.slice a2 ve c2]:Value)) l1
 exact⟨a2,c2,bu,cM.below,(am_ (fun (n_:Nat)=>bm _ _ _ (gp mn mr l) (.slice a2 n_ c2) _) l1).mp ((am_ (fun (x_:List (List bt))=>bm _ _ _ x_ (.slice a2 mn.toNat c2) _) e1).mp (cM.dp 0 J))⟩
theorem V1:cA aI 68:=cI Tryz.func68
theorem Mq:cA aI 82:=cI Tryz.func82
theorem VY:cA aI 81:=cI Tryz.func81
theorem afE:cA aI 142:=cI Tryz.func142
theorem V3:cA aI 66:=cI Tryz.func66
theorem HN (hM:eO M w) (hT:fU 0 w) (dL:cD M w aw av U) (gb:cD M w ay ax fo) (ga:aJ mn) (gv:cD M w bD bC mr) (ui:aJ o) (ho:ig U) (dB:U.length≤64) (ez:fo.length=U.length) (fL:∀x∈fo,x<((U.length:Nat):Int)) (B8:mn=((U.length:Nat):Int)) (B7:mr=cu U fo) (yQ:0≤o∧o<((U.length:Nat):Int)):Calls aI 106 #[.agg #[.slice aC aE aB,sL aw U av,sL ay fo ax],.agg #[I mn,sL bD mr bC],I o] w (cp fun v w'=>∃(es:List ep) (rd:Int) (a0:OA) (c0:Nat) (a1:OA) (c1:Nat),v=.tuple #[.agg #[I ((U.length:Nat):Int),.slice a0 (cW U fo o).length c0],sL a1 es c1,I rd,I 0]∧Ext w w'∧RV M w' (.slice a0 (cW U fo o).length c0) (cW U fo o)∧cD M w' a1 c1 es∧es.length≤2000000000∧aJ rd∧oJ U.length es):=by
 refine dG 66 Tryz.func106 J J J hM fun f0 ha H=>?_
 let J0:=iL aw U av
 have H0:=H.put (it:=J0) J<|by rw[bP];exact dL
 let J1:=iL ay fo ax
 have H1:=H0.put (it:=J1) J<|by rw[aD rfl,bP];exact gb
 let J2:=iL bD mr bC
 have H2:=H1.put (it:=J2) J<|by rw[aD rfl,aD rfl,bP];exact gv
 have ja:=bj dL
 have kP:=bj gb
 have nz:=bj gv
 have i0:f0 0=.agg #[.slice aC aE aB,sL aw U av,sL ay fo ax]:=ha 0 bl
 have i1:f0 1=.agg #[I mn,sL bD mr bC]:=ha 1 bl
 have i2:f0 2=I o:=ha 2 bl
 have bZ:bK mn mr=true:=by rw[B8,B7];exact pL fo aj
 have lk_:=Bv ho dB yQ
 refine az<|k<|bx H2 J i0 ?_
 let ba:=[J2,J1,J0]
 intro aZ w0 bY (H3:HI M w w0 (box aZ #[.slice aC aE aB,sL aw U av,sL ay fo ax] 47::ba))
 let J3:=box aZ #[.slice aC aE aB,sL aw U av,sL ay fo ax] 47
 refine k<|bx H3 J i1 ?_
 let bV:=J3::ba
 intro aY w1 cT (H4:HI M w w1 (box aY #[I mn,sL bD mr bC] 26::bV))
 let J4:=box aY #[I mn,sL bD mr bC] 26
 refine k<|al H4 bp ?_
 let dz:=J4::bV
 intro bJ w2 fk (H5:HI M w w2 (box bJ #[I 0,.slice none 0 0] 26::dz))
 let J5:=box bJ #[I 0,.slice none 0 0] 26
 refine ak (v:=.slice none 0 0) J J<|ak (v:=I 0) J J<|ak (v:=I 0) J J<|aq<|sq<|az<|ai J i2<|k<|lss J J J J<|ai (v:=.bool (decide (o<0))) J J ?_
 have BZ:(decide (o<0))=false:=(by rw[anr];omega)
 refine bh J J J BZ<|mv J i2<|bh J J J BZ<|fa fG J J<|bh J J J BZ<|lx H5 2 J jh J J J<|bh J J J BZ<|dD J J jA<|bh J J J BZ<|geq J J J J<|k<|dA J J J J BZ J<|z<|nx ?_
 have KO:(decide ((U.length:Int)≤o))=false:=(by rw[anr];omega)
 refine pB J J KO<|sk<|cO<|k<|cB H5 2 J eh J J au J<|ai J i2<|k ?_
 have bS:=CI (U:=U) (o:=o) (aC:=aC) (aE:=aE) (aB:=aB) (ay:=ay) (fe:=fo.length) (ax:=ax) H5.mb (H5.rv 5 J) ui (by exact ho) aj
 refine ca V1 J (ec J<|ec J e0) bS ?_
 rintro _ w3 ⟨a0,c0,rfl,fN,cw⟩
 have H6:=H5.eT cw
 refine ak (v:=sL a0 (aX (fX U)<|cC U o) c0) J J<|aq<|sq<|lH [.r,.r,.r,.r,.r,.n,.e] (fun _=>True) J aS (fun _ _=>trivial)<|yq J J<|kq (fun _ x_=>cB (H6.ext x_) 2 J bp J J au J e1)<|bH<|kq (fun _ x_=>cB (H6.ext x_) 2 J bp J J au J e1)<|bH<|kq (fun _ _=>mv J i2 e1)<|zq<|yu J (fun N v w'=>∃(a1:OA) (c1:Nat),v=sL a1 (bO mn mr o) c1∧RV (MN H6.fS N) w' (sL a1 (bO mn mr o) c1) (bO mn mr o)) J Et J (fun v_ _ x_ n_=>have fP:=u6 (mn:=mn) (mr:=mr) (o:=o) (w:=v_) (kN H6.mb x_ n_) (hT.ext (H6.below.trans x_)) ga (km (H6.rv 4 J) x_ n_) ui (by exact bZ);ca Mq rfl (ec J<|ec J e0) fP (fun _ w5 ⟨a2,c2,e_,jc,fy⟩=>⟨_,J,jc,⟨a2,c2,e_,(bm.rv fy<|kN H6.mb x_ n_)⟩⟩))<|lL J (fun N v w'=>∃(a4:OA) (c4:Nat),v=.agg #[I mn,sL a4 (gp mn mr<|bO mn mr o) c4]∧RV (MN H6.fS N) w' (sL a4 (gp mn mr<|bO mn mr o) c4) (gp mn mr<|bO mn mr o)) 0 J J Et J (fun v_ _ _ x_ n_ h_=>let ⟨a5,c5,s0,lh⟩:=h_;have mx:=zE (mn:=mn) (mr:=mr) (l:=(bO mn mr o)) (w:=v_) (kN H6.mb x_ n_) ga (km (H6.rv 4 J) x_ n_) lh (by exact bZ) (by have h_:=uX bZ o;omega);ca VY rfl (ec J<|ec s0 e0) mx (fun _ w7 ⟨a6,c6,e_,lC,oE⟩=>⟨_,J,lC,⟨a6,c6,e_,(bm.rv oE<|kN H6.mb x_ n_)⟩⟩))<|yn (z:=#[I 0,.slice none 0 0]) J J (fun _=>M7 bp)<|ye<|yz ?_
 intro w8 f0 _ l3 _ _ cx iJ
 obtain⟨gN,s1,AE,rI,yR⟩:=iJ 0 _ _ rfl
 have og:=MM (z:=#[I 0,.slice none 0 0]) (T:=26) AE rI yR<|MO
 let iW:=oL w 3 a0 (aX (fX U) (cC U o)) c0::J5::dz
 have H7:HI M w w8 (box gN #[I 0,.slice none 0 0] 26::iW):=H6.Bs l3 og<|LF LC LG
 have s2:=cx 3 J
 have s3:=cx 6 J
 have s4:=cx 10 J
 obtain⟨a7,c7,s5,nE⟩:=iJ 1 _ _ rfl
 let J6:=iL a7 (gp mn mr (bO mn mr o)) c7
 have H8:=H7.put (it:=J6) J<|sy nE og
 refine jw<|bw H8 1 J bp J J s1 s5 J J J ?_
 intro w9 (H9:HI M w w9 (J6::box gN #[I mn,sL a7 (gp mn mr (bO mn mr o)) c7] 26::iW))
 refine kz<|cO<|ak (v:=.slice none 0 0) J J<|bz<|ak (v:=I 1) J J<|aq<|bk ?_
 have dO:=H9.freeze 2 J
 let J7:=iL a0 (aX (fX U) (cC U o)) c0
 have cV:=dO.put (it:=J7) J<|dO.rv 2 J
 have du:=cV.ql (Int×Int×Int) 122
 have dJ:=du.put (it:=J6) J<|du.rv 2 J
 let fm:=J7::J5::dz
 refine lp (fun m f w'=>∃(fD:Nat) (cJ:Int) (gZ:List (List bt)) (zi:List ep) (a8:OA) (c8:Nat) (a9:OA) (c9:Nat) (jq:OA) (jo:Nat),m=U.length*U.length-Im U gZ∧f 3=pV aZ 0∧f 6=pV bJ 0∧f 10=sL a8 (aX (fX U)<|cC U o) c8∧f 11=pV gN 0∧f 12=sL a9 zi c9∧f 13=I ((fD:Int)+1)∧HI M w w' (iL jq gZ jo::oL w 122 a9 zi c9::iL a8 (aX (fX U)<|cC U o) c8::J6::box gN #[I cJ,sL jq gZ jo] 26::fm)∧(JK U fo o cJ gZ)∧(fD≤Im U gZ)∧(zi.length≤262144*fD)∧(oJ U.length zi)) _ ⟨0,mn,(gp mn mr<|bO mn mr o),([]:List ep),a0,c0,none,0,a7,c7,J,s2,s3,s4,s1,J,(bG J),dJ,(by rw[B8,B7];exact UD U fo o),(by exact aok _),(by exact aok _),(by intro e_ h_;cases h_)⟩ ?_
 rintro _ f1 dM ⟨fD,cJ,gZ,zi,a8,c8,a9,c9,jq,jo,rfl,s6,s7,s8,s9,eu,fb,cM,hs,ah9,amu,acV⟩
 refine sq<|bk<|sq ?_
 have Lj:=KY hs aj;have aif:=hs.1
 refine rg<|k<|cB cM 8 J eh J s6 au J<|k<|cB cM 4 J bp J s9 au J<|ai J s8<|k ?_
 have nu:=PH (U:=U) (fo:=fo) (mn:=cJ) (mr:=gZ) (kp:=(aX (fX U)<|cC U o)) (aC:=aC) (aE:=aE) (aB:=aB) cM.mb (hT.ext cM.below) (cM.rv 11 J) (cM.rv 10 J) aR (cM.rv 0 J) (cM.rv 2 J) aj (by exact ez) (by exact fL)<|by exact Lj
 refine ca afE J (ec J<|ec J<|ec J e0) nu ?_
 rintro _ ee ⟨mV,mU,rfl,yp,rP⟩
 have dU:=cM.eT rP
 refine ak (v:=sL mV (gD cJ gZ (aX (fX U)<|cC U o)<|cK U fo cJ gZ) mU) J J<|aq<|sq<|az<|ai (v:=sL mV (gD cJ gZ (aX (fX U)<|cC U o)<|cK U fo cJ gZ) mU) J J<|k<|dD J J ey<|k<|eql J J J J<|z<|nx<|cd (b:=decide (((gD cJ gZ (aX (fX U)<|cC U o)<|cK U fo cJ gZ).length:Int)=0)) J J (fun b0=>?_)<|fun b0=>?_
 ·
  have p0:=dT b0
  refine sq ?_
  have aiu:=K3 gZ U;have ah5:U.length*U.length≤64*64:=Nat.mul_le_mul dB dB
  have B3:(gD cJ gZ (aX (fX U) (cC U o)) (cK U fo cJ gZ))=[]:=aod.1 aj
  refine rg<|k<|cB dU 5 J bp J s9 au J<|ai J eu<|ai J fb<|k<|bw dU 7 J bp J J s7 J J J J ?_
  intro ft (dt:HI M w ft [oL w 122 mV (gD cJ gZ (aX (fX U) (cC U o)) (cK U fo cJ gZ)) mU,iL jq gZ jo,oL w 122 a9 zi c9,iL a8 (aX (fX U) (cC U o)) c8,J6,box gN #[I cJ,sL jq gZ jo] 26,J7,box bJ #[I cJ,sL jq gZ jo] 26,J4,J3,J2,J1,J0])
  refine ak (v:=sL a9 zi c9) J J<|ak (v:=I ((fD:Int)+1)) J J<|ak (v:=I 0) J J<|aq<|rt<|aK<|bR<|aK<|dX<|bR<|rc4 dt 7 J bp J J J J J s7 J au ?_
  have e0:(cJ:Int)=((U.length:Nat):Int):=by exact hs.1
  have e1:(gZ:List (List bt))=cW U fo o:=by exact aaT hs ez fL (ri Lj) B3
  have bu:=nL (fun (cg:Int) (dY:List (List bt))=>(.tuple #[.agg #[I cg,.slice jq dY.length jo],.slice a9 zi.length c9,I ((fD:Int)+1),I 0]:Value)) e0 e1
  exact⟨zi,((fD:Int)+1),jq,jo,a9,c9,bu,dt.below,(am_ (fun (x_:List (List bt))=>RV _ _ (.slice jq x_.length jo) x_) e1).mp (dt.gf 1 J),(dt.mB 2 J),aj,(by unfold aJ;omega),(by exact acV)⟩
 have p0:=dF b0
 refine sk<|nx<|sq ?_
 have alQ:=K3 (l_ cJ gZ<|gD cJ gZ (aX (fX U)<|cC U o)<|cK U fo cJ gZ) U;have aiu:=K3 gZ U;have ah5:U.length*U.length≤64*64:=Nat.mul_le_mul dB dB
 have VQ:=Tk cJ gZ (aX (fX U)<|cC U o) (cK U fo cJ gZ);have Qw:=(ri (U:=U) (fo:=fo) Lj).1
 obtain⟨B5,hc_⟩:=Y7 hs ez fL (ri Lj)
 have acS:=hc_<|by intro h_;have e_:=am_ List.length h_;simp only[gj] at e_;unfold l6 at e_;omega
 have sE:oJ U.length (gD cJ gZ (aX (fX U) (cC U o)) (cK U fo cJ gZ)):=Xf hs ez fL<|ri Lj
 refine rg<|ai J eu<|ai (v:=sL mV (gD cJ gZ (aX (fX U)<|cC U o)<|cK U fo cJ gZ) mU) J J<|k<|lY dU 2 J J J J J J (gY<|dU.at_ 0 J) ey cL J aj J ?_
 let J8:=oL w 122 mV (gD cJ gZ (aX (fX U) (cC U o)) (cK U fo cJ gZ)) mU
 let J9:=iL jq gZ jo
 let eE:=iL a8 (aX (fX U) (cC U o)) c8
 intro a12 pC ft (dt:HI M w ft (J8::J9::oL w 122 a12 (zi++gD cJ gZ (aX (fX U) (cC U o)) (cK U fo cJ gZ)) pC::eE::J6::box gN #[I cJ,sL jq gZ jo] 26::fm))
 let dR:=oL w 122 a12 (zi++gD cJ gZ (aX (fX U) (cC U o)) (cK U fo cJ gZ)) pC
 refine ak (v:=sL a12 (zi++gD cJ gZ (aX (fX U)<|cC U o) (cK U fo cJ gZ)) pC) J J<|bz<|ai (v:=sL mV (gD cJ gZ (aX (fX U)<|cC U o)<|cK U fo cJ gZ) mU) J J<|k<|dD J J ey<|ai (v:=I 0) J J<|aq<|bk ?_
 have cR:=dt.put (it:=J9) J<|dt.rv 1 J
 refine lp (fun m f w'=>∃(q_:Nat) (fV:Int) (fK:List (List bt)) (jW:OA) (jV:Nat),m=(gD cJ gZ (aX (fX U)<|cC U o)<|cK U fo cJ gZ).length-q_∧f 3=pV aZ 0∧f 6=pV bJ 0∧f 10=sL a8 (aX (fX U)<|cC U o) c8∧f 11=pV gN 0∧f 12=sL a12 (zi++gD cJ gZ (aX (fX U)<|cC U o) (cK U fo cJ gZ)) pC∧f 13=I ((fD:Int)+1)∧f 50=sL mV (gD cJ gZ (aX (fX U)<|cC U o)<|cK U fo cJ gZ) mU∧f 51=I ((gD cJ gZ (aX (fX U)<|cC U o)<|cK U fo cJ gZ).length:Int)∧f 52=I (q_:Int)∧HI M w w' (iL jW fK jV::J8::J9::dR::eE::J6::box gN #[I fV,sL jW fK jV] 26::fm)∧(q_≤(gD cJ gZ (aX (fX U)<|cC U o)<|cK U fo cJ gZ).length)∧(fV=cJ∧fK=l_ cJ gZ ((gD cJ gZ (aX (fX U)<|cC U o)<|cK U fo cJ gZ).take q_))) _ ⟨0,cJ,gZ,jq,jo,J,s6,s7,s8,s9,J,fb,J,J,(bG J),cR,aj,(by exact⟨J,J⟩)⟩ ?_
 rintro _ f2 ij ⟨q_,fV,fK,jW,jV,rfl,fu,fl,gi,gS,j4,kJ,lD,l5,l4,dI,sU,oC⟩
 refine az<|k<|lss J J l4 l5<|aq<|sq<|cd (b:=decide ((q_:Int)<((gD cJ gZ (aX (fX U)<|cC U o)<|cK U fo cJ gZ).length:Int))) J J (fun b1=>?_)<|fun b1=>?_
 ·
  have p1:=dT b1
  refine sk<|nx<|sq<|bk<|az<|k<|gW (dI.at_ 1 J) J J lD l4 aj ey cL ?_
  intro g0 x0 iC aM cz
  refine k<|nF cz cL J J ?_
  intro v0 oU
  obtain⟨_,⟨_,_,rfl,⟨rfl,nR⟩,⟨_,_,rfl,⟨rfl,qN⟩,⟨rfl,qM⟩⟩⟩,rfl⟩:=oU
  refine k<|al dI cL ?_
  let kx:=iL jW fK jV::J8::J9::dR::eE::J6::box gN #[I fV,sL jW fK jV] 26::fm
  intro AM jv Cj (dw:HI M w jv (box AM #[I 0,I 0,I 0] 122::kx))
  refine k<|bw dw 0 J cL J J J J J J J ?_
  intro nB (cE:HI M w nB (box AM #[I x0.1,I x0.2.1,I x0.2.2] 122::kx))
  refine aq<|rg<|k<|cB cE 7 J bp J gS au J<|aQ kR J J<|bq cE 0 J aT J J J<|aQ mZ J J<|bq cE 0 J aT J J J<|k ?_
  have yd:=FC (mn:=fV) (mr:=fK) (i:=x0.1) (j:=x0.2.1) cE.mb aR (cE.rv 1 J) nR qN<|by exact aaS hs aj sE oC
  refine ca V3 J (ec J<|ec J<|ec J e0) yd ?_
  rintro _ rE ⟨ln,ll,rfl,HC,qj⟩
  have df:=cE.ext HC
  let fM:=iL ln (ic fV fK x0.1 x0.2.1) ll
  have dH:=df.put (it:=fM) J qj
  refine ai (v:=.tuple #[.agg #[I (ir fV x0.1 x0.2.1),sL ln (ic fV fK x0.1 x0.2.1) ll],I (lI fV x0.1 x0.2.1)]) J J<|k<|xt J J J<|k<|xt J J J<|k<|bw dH 8 J bp J J gS J J J J ?_
  let fI:=box gN #[I (ir fV x0.1 x0.2.1),sL ln (ic fV fK x0.1 x0.2.1) ll] 26
  intro tn (eP:HI M w tn (fM::box AM #[I x0.1,I x0.2.1,I x0.2.2] 122::iL jW fK jV::J8::J9::dR::eE::J6::fI::fm))
  refine z<|aG<|nx<|rg<|k<|add J J l4 J aR<|ai (v:=I ((q_:Int)+1)) J J<|z ?_
  have ff:=eP.put (it:=fM) J<|eP.rv 0 J
  have gr:HI M w tn (fM::J8::J9::dR::eE::J6::fI::fm):=ff.bX [0,4,5,6,7,8,9,10,11,12,13,14,15,16] au J
  refine bF _ ?_ ⟨(q_+1),(ir fV x0.1 x0.2.1),(ic fV fK x0.1 x0.2.1),ln,ll,J,fu,fl,gi,gS,j4,kJ,lD,l5,(bG J),gr,aj,(by exact BT oC aM (K1 aif sE aM))⟩
  omega
 have p1:=dF b1
 refine ex<|aV<|bc<|bg<|aG<|nx<|rg<|ai J kJ<|k<|add J J J J aR<|ak (v:=I (((fD:Int)+1)+1)) J J<|z ?_
 have dw:=eG dI<|dI.rv 0 J
 have cE:=dw.put (it:=eE) J<|dw.rv 5 J
 have df:HI M w ij (iL jW fK jV::dR::eE::J6::box gN #[I fV,sL jW fK jV] 26::fm):=cE.bX [1,5,0,7,8,9,10,11,12,13,14,15] au J
 refine bF _ ?_ ⟨(fD+1),fV,fK,(zi++gD cJ gZ (aX (fX U)<|cC U o) (cK U fo cJ gZ)),a8,c8,a12,pC,jW,jV,J,fu,fl,gi,gS,j4,(bG J),df,(by rw[oC.1,oC.2,anj aj];exact B5),(by rw[oC.2,anj aj];unfold l6 at acS;omega),(by rw[fF];omega),(by intro e_ h_;exact(anx.1 h_).elim (acV e_) (sE e_))⟩
 rw[oC.2,anj aj];unfold l6 at acS;omega
theorem ai4:cA aI 50:=cI Tryz.func50
theorem PV (hM:eO M w) (dL:cD M w aw av U) (dB:U.length≤4096):Calls aI 50 #[.agg #[.slice aC aE aB,sL aw U av,.slice ay fe ax]] w (cp fun v w'=>∃(a0:OA) (c0:Nat),v=.slice a0 (gI U).length c0∧Ext w w'∧bm M 3 w (gI U) (.slice a0 (gI U).length c0) w'):=by
 refine dG 42 Tryz.func50 J J J hM fun f0 ha H=>?_
 let J0:=iL aw U av
 have H0:=H.put (it:=J0) J<|by rw[bP];exact dL
 have ja:=bj dL
 have i0:f0 0=.agg #[.slice aC aE aB,sL aw U av,.slice ay fe ax]:=ha 0 bl
 refine az<|k<|bx H0 J i0 ?_
 intro aZ w0 bY (H1:HI M w w0 [box aZ #[.slice aC aE aB,sL aw U av,.slice ay fe ax] 47,J0])
 let J1:=box aZ #[.slice aC aE aB,sL aw U av,.slice ay fe ax] 47
 refine ak (v:=.slice none 0 0) J J<|bz<|ak (v:=.slice none 0 0) J J<|aq<|sq<|az<|ak (v:=I 0) J J<|aq<|bk ?_
 have H2:=H1.ql Int 3
 refine lp (fun m f w'=>∃(j:Nat) (xs:aA) (a0:OA) (c0:Nat),m=U.length-j∧f 1=pV aZ 0∧f 3=sL a0 xs c0∧f 4=I (j:Int)∧HI M w w' [oL w 3 a0 xs c0,J1,J0]∧(j≤U.length)∧(xs=(U.take j).map (sY U))) _ ⟨0,([]:aA),none,0,J,J,J,(bG J),H2,aj,(by rfl)⟩ ?_
 rintro _ f0 w1 ⟨j,xs,a0,c0,rfl,s0,s1,s2,H3,hk,hs⟩
 refine sq<|az<|ai J s2<|aQ fG J s0<|bq H3 1 J jh J J J<|k<|dD J J jA<|k<|lss J J J J<|z<|nx<|cd (b:=decide ((j:Int)<(U.length:Int))) J J (fun b0=>?_)<|fun b0=>?_
 ·
  have p0:=dT b0
  refine sk<|nx<|sq<|bk<|az<|aQ fG J s0<|bq H3 1 J jh J J J<|ai J s2<|k<|ia (H3.rv 2 J) J J J J aj jA jE ?_
  intro iE x0 aM cz
  refine k<|nF cz.w jE J J ?_
  intro v0 cw
  obtain⟨_,⟨_,_,rfl,⟨rfl,d_⟩,⟨_,_,rfl,⟨rfl,dZ⟩,⟨_,_,rfl,rfl,⟨_,_,rfl,⟨rfl,fy⟩,⟨rfl,iT⟩⟩⟩⟩⟩,rfl⟩:=cw
  refine k<|al H3 jE ?_
  intro aY w2 cT (H4:HI M w w2 [box aY #[I 0,I 0,.bool false,I 0,I 0] 95,oL w 3 a0 xs c0,J1,J0])
  refine k<|bw H4 0 J jE J J J J J J J ?_
  let J2:=box aY #[I x0.1,I x0.2.1,.bool x0.2.2.1,I x0.2.2.2.1,I x0.2.2.2.2] 95
  intro w3 (H5:HI M w w3 [J2,oL w 3 a0 xs c0,J1,J0])
  refine bz<|ak (v:=I (-2)) J J<|bz<|k<|cB H5 2 J eh J s0 au J<|aQ tO J J<|bq H5 0 J aT J J J<|aQ r6 J J<|bq H5 0 J aT J J J<|k ?_
  have bS:=Ek (U:=U) (vr:=x0.2.2.2.1) (val:=x0.2.2.2.2) (aC:=aC) (aE:=aE) (aB:=aB) (ay:=ay) (fe:=fe) (ax:=ax) H5.mb (H5.rv 3 J) fy iT
  refine ca ado J (ec J<|ec J<|ec J e0) bS ?_
  rintro _ w4 ⟨rfl,fk⟩
  have H6:=H5.ext fk
  refine ai (v:=.tuple #[I (max (gG U x0.2.2.2.1 x0.2.2.2.2) 0),.bool (decide (0≤gG U x0.2.2.2.1 x0.2.2.2.2))]) J J<|k<|xt J J J<|k<|xt J J J<|ak (v:=I (max (gG U x0.2.2.2.1 x0.2.2.2.2) 0)) J J<|ak (v:=.bool (decide (0≤gG U x0.2.2.2.1 x0.2.2.2.2))) J J<|aq<|sq<|az<|aQ vA J J<|bq H6 0 J oP J J J<|z<|nx<|cd (b:=x0.2.2.1) J J (fun b1=>?_)<|fun b1=>?_
  ·
   refine rg<|ak (v:=I (-3)) J J<|aq<|rg<|ai J s1<|ai (v:=I (-3)) J J<|k<|bs (xs:=([(-3)]:aA)) (cells:=#[I (-3)]) (e:=3) H6 J (cm J ew) (fun _=>aS) ⟨[I (-3)],[],J,⟨J,(show aJ ((-3)) from aR)⟩,J⟩ J au ?_
   intro g0 w5 fN H7
   refine k<|lY H7 2 J J J J J J (gY<|H7.at_ 0 J) cG aT J (by rw[hs,anO,iB];simp only[iI,gj];omega) J ?_
   intro a1 c1 w6 (H8:HI M w w6 [own w.heap.size 3 (.slice (some ⟨g0,0,none⟩) 1 1) ([(-3)]:aA),J2,oL w 3 a1 (xs++([(-3)]:aA)) c1,J1,J0])
   refine ak (v:=sL a1 (xs++([(-3)]:aA)) c1) J J<|z<|aG<|nx<|rg<|ai J s2<|k<|add J J J J aR<|ak (v:=I ((j:Int)+1)) J J<|z ?_
   have H9:HI M w w6 [oL w 3 a1 (xs++([(-3)]:aA)) c1,J1,J0]:=H8.bX [2,3,4] au J
   refine bF _ ?_ ⟨(j+1),(xs++([(-3)]:aA)),a1,c1,J,s0,J,(bG J),H9,aj,(by rw[hs];first|exact iM aM (G5 b1)|exact iM aM (G7 b1 p2)|exact iM aM (G6 b1 p2 b3)|exact iM aM (Kx b1 p2 b3))⟩
   omega
  refine az<|aQ r6 J J<|bq H6 0 J aT J J J<|k<|eql J J J J<|z<|nx<|cd (b:=decide (x0.2.2.2.2=0)) J J (fun b2=>?_)<|fun b2=>?_
  ·
   have p2:=dT b2
   refine rg<|ak (v:=I (-1)) J J<|aq<|rg<|ai J s1<|ai (v:=I (-1)) J J<|k<|bs (xs:=([(-1)]:aA)) (cells:=#[I (-1)]) (e:=3) H6 J (cm J ew) (fun _=>aS) ⟨[I (-1)],[],J,⟨J,(show aJ ((-1)) from aR)⟩,J⟩ J au ?_
   intro g0 w5 fN H7
   refine k<|lY H7 2 J J J J J J (gY<|H7.at_ 0 J) cG aT J (by rw[hs,anO,iB];simp only[iI,gj];omega) J ?_
   intro a1 c1 w6 (H8:HI M w w6 [own w.heap.size 3 (.slice (some ⟨g0,0,none⟩) 1 1) ([(-1)]:aA),J2,oL w 3 a1 (xs++([(-1)]:aA)) c1,J1,J0])
   refine ak (v:=sL a1 (xs++([(-1)]:aA)) c1) J J<|z<|aG<|nx<|rg<|ai J s2<|k<|add J J J J aR<|ak (v:=I ((j:Int)+1)) J J<|z ?_
   have H9:HI M w w6 [oL w 3 a1 (xs++([(-1)]:aA)) c1,J1,J0]:=H8.bX [2,3,4] au J
   refine bF _ ?_ ⟨(j+1),(xs++([(-1)]:aA)),a1,c1,J,s0,J,(bG J),H9,aj,(by rw[hs];first|exact iM aM (G5 b1)|exact iM aM (G7 b1 p2)|exact iM aM (G6 b1 p2 b3)|exact iM aM (Kx b1 p2 b3))⟩
   omega
  have p2:=dF b2
  refine az<|ai (v:=.bool (decide (0≤gG U x0.2.2.2.1 x0.2.2.2.2))) J J<|z<|nx<|cd (b:=decide (0≤gG U x0.2.2.2.1 x0.2.2.2.2)) J J (fun b3=>?_)<|fun b3=>?_
  ·
   have p3:=dT b3
   refine rg<|ai (v:=I (max (gG U x0.2.2.2.1 x0.2.2.2.2) 0)) J J<|ak (v:=I (max (gG U x0.2.2.2.1 x0.2.2.2.2) 0)) J J<|aq<|rg<|ai J s1<|ai (v:=I (max (gG U x0.2.2.2.1 x0.2.2.2.2) 0)) J J<|k<|bs (xs:=([(max (gG U x0.2.2.2.1 x0.2.2.2.2) 0)]:aA)) (cells:=#[I (max (gG U x0.2.2.2.1 x0.2.2.2.2) 0)]) (e:=3) H6 J (cm J ew) (fun _=>aS) ⟨[I (max (gG U x0.2.2.2.1 x0.2.2.2.2) 0)],[],J,⟨J,(show aJ ((max (gG U x0.2.2.2.1 x0.2.2.2.2) 0)) from(by have h_:=wK (p:=l7 x0.2.2.2.1 x0.2.2.2.2) (r:=U);unfold gG;unfold aJ;omega))⟩,J⟩ J au ?_
   intro g0 w5 fN H7
   refine k<|lY H7 2 J J J J J J (gY<|H7.at_ 0 J) cG aT J (by rw[hs,anO,iB];simp only[iI,gj];omega) J ?_
   intro a1 c1 w6 (H8:HI M w w6 [own w.heap.size 3 (.slice (some ⟨g0,0,none⟩) 1 1) ([(max (gG U x0.2.2.2.1 x0.2.2.2.2) 0)]:aA),J2,oL w 3 a1 (xs++([(max (gG U x0.2.2.2.1 x0.2.2.2.2) 0)]:aA)) c1,J1,J0])
   refine ak (v:=sL a1 (xs++([(max (gG U x0.2.2.2.1 x0.2.2.2.2) 0)]:aA)) c1) J J<|z<|aG<|nx<|rg<|ai J s2<|k<|add J J J J aR<|ak (v:=I ((j:Int)+1)) J J<|z ?_
   have H9:HI M w w6 [oL w 3 a1 (xs++([(max (gG U x0.2.2.2.1 x0.2.2.2.2) 0)]:aA)) c1,J1,J0]:=H8.bX [2,3,4] au J
   refine bF _ ?_ ⟨(j+1),(xs++([(max (gG U x0.2.2.2.1 x0.2.2.2.2) 0)]:aA)),a1,c1,J,s0,J,(bG J),H9,aj,(by rw[hs];first|exact iM aM (G5 b1)|exact iM aM (G7 b1 p2)|exact iM aM (G6 b1 p2 b3)|exact iM aM (Kx b1 p2 b3))⟩
   omega
  have p3:=dF b3
  refine sk<|nx<|rg<|ai J s1<|ai (v:=I (-2)) J J<|k<|bs (xs:=([(-2)]:aA)) (cells:=#[I (-2)]) (e:=3) H6 J (cm J ew) (fun _=>aS) ⟨[I (-2)],[],J,⟨J,(show aJ ((-2)) from aR)⟩,J⟩ J au ?_
  intro g0 w5 fN H7
  refine k<|lY H7 2 J J J J J J (gY<|H7.at_ 0 J) cG aT J (by rw[hs,anO,iB];simp only[iI,gj];omega) J ?_
  intro a1 c1 w6 (H8:HI M w w6 [own w.heap.size 3 (.slice (some ⟨g0,0,none⟩) 1 1) ([(-2)]:aA),J2,oL w 3 a1 (xs++([(-2)]:aA)) c1,J1,J0])
  refine ak (v:=sL a1 (xs++([(-2)]:aA)) c1) J J<|z<|aG<|nx<|rg<|ai J s2<|k<|add J J J J aR<|ak (v:=I ((j:Int)+1)) J J<|z ?_
  have H9:HI M w w6 [oL w 3 a1 (xs++([(-2)]:aA)) c1,J1,J0]:=H8.bX [2,3,4] au J
  refine bF _ ?_ ⟨(j+1),(xs++([(-2)]:aA)),a1,c1,J,s0,J,(bG J),H9,aj,(by rw[hs];first|exact iM aM (G5 b1)|exact iM aM (G7 b1 p2)|exact iM aM (G6 b1 p2 b3)|exact iM aM (Kx b1 p2 b3))⟩
  omega
 have p0:=dF b0
 refine ex<|aV<|bc<|bg<|cO<|ai J s1<|ak (v:=sL a0 xs c0) J J<|aq<|rt<|r1 J J ?_
 have e0:(xs:aA)=gI U:=by rw[hs];unfold gI;rw[mg aj]
 have bu:=iK (fun (cg:aA)=>(.slice a0 cg.length c0:Value)) e0
 exact⟨a0,c0,bu,H3.below,(am_ (fun (x_:aA)=>bm _ _ _ x_ (.slice a0 x_.length c0) _) e0).mp (H3.dp 0 J)⟩
theorem PY (hM:eO M w) (VU:cD M w aC aB fv) (dL:cD M w aw av U) (gb:cD M w ay ax fo) (dB:U.length≤4096):Calls aI 25 #[.agg #[sL aC fv aB,sL aw U av,sL ay fo ax]] w (cp fun v w'=>∃(a0:OA) (c0:Nat) (a1:OA) (c1:Nat) (a2:OA) (c2:Nat),v=.agg #[sL a0 fv c0,sL a1 U c1,.slice a2 (gI U).length c2]∧Ext w w'∧cD M w' a0 c0 fv∧cD M w' a1 c1 U∧RV M w' (.slice a2 (gI U).length c2) (gI U)):=by
 refine dG 10 Tryz.func25 J J J hM fun f0 ha H=>?_
 have H0:=eG H VU
 have H1:=eG H0 dL
 have H2:=eG H1 gb
 have i0:f0 0=.agg #[sL aC fv aB,sL aw U av,sL ay fo ax]:=ha 0 bl
 refine az<|k<|bx H2 J i0 ?_
 let ba:=[iL ay fo ax,iL aw U av,iL aC fv aB]
 intro aZ w0 bY (H3:HI M w w0 (box aZ #[sL aC fv aB,sL aw U av,sL ay fo ax] 47::ba))
 let J0:=box aZ #[sL aC fv aB,sL aw U av,sL ay fo ax] 47
 refine k<|al H3 eh ?_
 intro aY w1 cT (H4:HI M w w1 (box aY #[.slice none 0 0,.slice none 0 0,.slice none 0 0] 47::J0::ba))
 refine aq<|sq<|lH [.r,.r,.r,.r,.r,.r,.r,.e] (fun _=>True) J aS (fun _ _=>trivial)<|yq J J<|kq (fun _ _=>fa vB J J e1)<|bH<|kq (fun _ x_=>lx (H4.ext x_) 1 J Cn J J J e1)<|bH<|kq (fun _ _=>fa fG J J e1)<|bH<|kq (fun _ x_=>lx (H4.ext x_) 1 J jh J J J e1)<|bH<|kq (fun _ x_=>cB (H4.ext x_) 1 J eh J J au J e1)<|zq<|yu J (fun _ v w'=>∃(a0:OA) (c0:Nat),v=sL a0 (gI U) c0∧RV H4.fS w' (sL a0 (gI U) c0) (gI U)) J nh J (fun v_ _ x_ _=>have cU:=PV (U:=U) (aC:=aC) (aE:=fv.length) (aB:=aB) (ay:=ay) (fe:=fo.length) (ax:=ax) (w:=v_) (H4.ext x_).mb ((H4.ext x_).rv 3 rfl) bo;ca ai4 rfl (ec J e0) cU (fun _ w3 ⟨a1,c1,e_,fN,dZ⟩=>⟨_,J,fN,⟨a1,c1,e_,(bm.rv dZ (H4.ext x_).mb)⟩⟩))<|lL J (fun _ v w'=>∃(a2:OA) (c2:Nat),v=.agg #[sL aC fv aB,sL aw U av,sL a2 (gI U) c2]∧RV H4.fS w' (sL a2 (gI U) c2) (gI U)) 0 J J nh J (fun _ _ _ _ _ h_=>let ⟨a3,c3,s0,jS⟩:=h_;bd (v:=.agg #[sL aC fv aB,sL aw U av,sL a3 (gI U) c3]) rfl (cm J<|cm J<|cm s0 ew) (fun _=>aS) ⟨_,J,Ext.refl _,⟨a3,c3,J,jS⟩⟩)<|ye<|yz ?_
 intro w4 f0 _ iP _ _ cx iJ
 have du:=H4.ext iP
 have s1:=cx 2 J
 obtain⟨a4,c4,s2,je⟩:=iJ 0 _ _ rfl
 have dJ:=eG du je
 refine jw<|bw dJ 1 J eh J J s1 s2 J J J ?_
 intro w5 (cM:HI M w w5 (iL a4 (gI U) c4::box aY #[sL aC fv aB,sL aw U av,sL a4 (gI U) c4] 47::J0::ba))
 refine kz<|nx<|rt<|py cM 1 J eh J J s1 J au ?_
 exact⟨aC,aB,aw,av,a4,c4,J,cM.below,(cM.gf 5 J),(cM.gf 4 J),(cM.gf 0 J)⟩
theorem ajk:cA aI 23:=cI Tryz.func23
theorem ajj:cA aI 24:=cI Tryz.func24
theorem aji:cA aI 25:=cI Tryz.func25
theorem UW (hM:eO M w) (mQ:cD M w gO gM h) (nV:h.flatten.length≤4096):Calls aI 13 #[sL gO h gM] w (cp fun v w'=>∃(a0:OA) (c0:Nat) (a1:OA) (c1:Nat) (a2:OA) (c2:Nat),v=.tuple #[.agg #[.slice a0 (uC h).length c0,.slice a1 (oZ h).length c1,.slice a2 (pa h).length c2],.bool (gq h)]∧Ext w w'∧RV M w' (.slice a0 (uC h).length c0) (uC h)∧RV M w' (.slice a1 (oZ h).length c1) (oZ h)∧RV M w' (.slice a2 (pa h).length c2) (pa h)):=by
 refine dG 25 Tryz.func13 J J J hM fun f0 ha H=>?_
 let J0:=iL gO h gM
 have H0:=H.put (it:=J0) J<|by rw[bP];exact mQ
 have i0:f0 0=sL gO h gM:=ha 0 bl
 refine az<|k<|al H0 eh ?_
 intro aZ w0 bY (H1:HI M w w0 [box aZ #[.slice none 0 0,.slice none 0 0,.slice none 0 0] 47,J0])
 let J1:=box aZ #[.slice none 0 0,.slice none 0 0,.slice none 0 0] 47
 refine ak (v:=.bool false) J J<|bz<|ai J i0<|k ?_
 have bS:=UX (h:=h) H1.mb (H1.rv 1 J) aj
 refine ca ajk J (ec J e0) bS ?_
 rintro _ w1 ⟨a0,c0,a1,c1,a2,c2,rfl,cT,cw,d_,dZ⟩
 have H2:=H1.ext cT
 let J2:=iL a0 (mu h) c0
 have H3:=H2.put (it:=J2) J cw
 let J3:=iL a1 (cS h) c1
 have H4:=H3.put (it:=J3) J<|by rw[aD J];exact d_
 let J4:=iL a2 ([]:aA) c2
 have H5:=H4.put (it:=J4) J<|by rw[aD rfl,aD rfl];exact dZ
 refine ai (v:=.tuple #[.agg #[sL a0 (mu h) c0,sL a1 (cS h) c1,sL a2 ([]:aA) c2],I (lE h)]) J J<|k<|xt J J J<|k<|xt J J J<|k<|al H5 eh ?_
 let ba:=[J4,J3,J2,J1,J0]
 intro aY w2 fk (H6:HI M w w2 (box aY #[.slice none 0 0,.slice none 0 0,.slice none 0 0] 47::ba))
 refine k<|bw H6 0 J eh J J J J J J J ?_
 let J5:=box aY #[sL a0 (mu h) c0,sL a1 (cS h) c1,sL a2 ([]:aA) c2] 47
 intro w3 (H7:HI M w w3 (J5::ba))
 refine ak (v:=I (lE h)) J J<|aq<|sq<|az<|ai (v:=I (lE h)) J J<|k<|neq J J J J<|z<|nx<|cd (b:=!decide ((lE h)=0)) J J (fun b0=>?_)<|fun b0=>?_
 ·
  have p0:=dF<|gl b0
  refine sq ?_
  have hq:gq h=false:=Zs<|by simpa using ‹(!decide (lE h=0))=true›
  refine rg<|k<|bd (v:=.agg #[.slice none 0 0,.slice none 0 0,.slice none 0 0]) J ew (fun _=>aS)<|k<|bw H7 4 J eh J J J J J J J ?_
  intro w4 (H8:HI M w w4 (J5::ba))
  refine ak (v:=.bool false) J J<|aq<|rt<|aK<|iH H8 4 J eh J J J J J au ?_
  have e0:([]:List bf)=uC h:=by exact(Ao hq).1.symm
  have e1:([]:List aO)=oZ h:=by exact(Ao hq).2.1.symm
  have e2:([]:aA)=pa h:=by exact(Ao hq).2.2.symm
  have e3:(false:Bool)=gq h:=by exact hq.symm
  have bu:=cg4 (fun (cg:List bf) (dY:List aO) (gV:aA) (na:Bool)=>(.tuple #[.agg #[.slice none cg.length 0,.slice none dY.length 0,.slice none gV.length 0],.bool na]:Value)) e0 e1 e2 e3
  exact⟨none,0,none,0,none,0,bu,H8.below,(am_ (fun (x_:List bf)=>RV _ _ (.slice none x_.length 0) x_) e0).mp (eF _ _),(am_ (fun (x_:List aO)=>RV _ _ (.slice none x_.length 0) x_) e1).mp (eF _ _),(am_ (fun (x_:aA)=>RV _ _ (.slice none x_.length 0) x_) e2).mp (eF _ _)⟩
 have p0:=dT<|fA b0
 refine sk<|nx<|sq ?_
 have he_:lE h=0:=by simpa using ‹(!decide (lE h=0))=false›
 refine rg<|k<|cB H7 0 J eh J J au J<|k ?_
 have cU:=Nx (U:=(cS h)) (aC:=a0) (aE:=(mu h).length) (aB:=c0) (ay:=a2) (fe:=([]:aA).length) (ax:=c2) H7.mb<|H7.rv 2 J
 refine ca ajj J (ec J e0) cU ?_
 rintro _ w4 ⟨rfl,fN⟩
 have H8:=H7.ext fN
 refine ai (v:=.tuple #[I ((dv<|cS h).1),I ((dv<|cS h).2.1),I ((dv<|cS h).2.2)]) J J<|k<|xt J J J<|k<|xt J J J<|k<|xt J J J<|ak (v:=I ((dv<|cS h).2.2)) J J<|aq<|sq<|az<|ai (v:=I ((dv<|cS h).2.2)) J J<|k<|neq J J J J<|z<|nx<|cd (b:=!decide (((dv<|cS h).2.2)=0)) J J (fun b1=>?_)<|fun b1=>?_
 ·
  have p1:=dF<|gl b1
  refine sq ?_
  have hq:gq h=false:=Zr<|by simpa using ‹(!decide ((dv<|cS h).2.2=0))=true›
  refine rg<|k<|bd (v:=.agg #[.slice none 0 0,.slice none 0 0,.slice none 0 0]) J ew (fun _=>aS)<|k<|bw H8 4 J eh J J J J J J J ?_
  intro w5 (H9:HI M w w5 (J5::ba))
  refine ak (v:=.bool false) J J<|aq<|rt<|aK<|iH H9 4 J eh J J J J J au ?_
  have e0:([]:List bf)=uC h:=by exact(Ao hq).1.symm
  have e1:([]:List aO)=oZ h:=by exact(Ao hq).2.1.symm
  have e2:([]:aA)=pa h:=by exact(Ao hq).2.2.symm
  have e3:(false:Bool)=gq h:=by exact hq.symm
  have bu:=cg4 (fun (cg:List bf) (dY:List aO) (gV:aA) (na:Bool)=>(.tuple #[.agg #[.slice none cg.length 0,.slice none dY.length 0,.slice none gV.length 0],.bool na]:Value)) e0 e1 e2 e3
  exact⟨none,0,none,0,none,0,bu,H9.below,(am_ (fun (x_:List bf)=>RV _ _ (.slice none x_.length 0) x_) e0).mp (eF _ _),(am_ (fun (x_:List aO)=>RV _ _ (.slice none x_.length 0) x_) e1).mp (eF _ _),(am_ (fun (x_:aA)=>RV _ _ (.slice none x_.length 0) x_) e2).mp (eF _ _)⟩
 have p1:=dT<|fA b1
 refine sk<|nx<|sq ?_
 have hq:gq h=true:=abx he_<|by simpa using ‹(!decide ((dv<|cS h).2.2=0))=false›
 refine rg<|k<|cB H8 0 J eh J J au J<|k ?_
 have fP:=PY (fv:=(mu h)) (U:=(cS h)) (fo:=([]:aA)) H8.mb (H8.rv 3 J) (H8.rv 2 J) (H8.rv 1 J)<|by have h_:=OB h;omega
 refine ca aji J (ec J e0) fP ?_
 rintro _ w5 ⟨a3,c3,a4,c4,a5,c5,rfl,iP,fy,iT,jS⟩
 have H9:=H8.ext iP
 have dO:=eG H9 fy
 have cV:=eG dO iT
 have du:=eG cV jS
 refine k<|bw du 7 J eh J J J J J J J ?_
 intro w6 (dJ:HI M w w6 [iL a5 (gI (cS h)) c5,iL a4 (cS h) c4,iL a3 (mu h) c3,J5,J4,J3,J2,box aZ #[sL a3 (mu h) c3,sL a4 (cS h) c4,sL a5 (gI (cS h)) c5] 47,J0])
 refine ak (v:=.bool true) J J<|aq<|rt<|iH dJ 7 J eh J J J J J au ?_
 have e0:((mu h):List bf)=uC h:=by exact(wU hq).1.symm
 have e1:((cS h):List aO)=oZ h:=by exact(wU hq).2.1.symm
 have e2:(gI (cS h):aA)=pa h:=by exact(wU hq).2.2.symm
 have e3:(true:Bool)=gq h:=by exact hq.symm
 have bu:=cg4 (fun (cg:List bf) (dY:List aO) (gV:aA) (na:Bool)=>(.tuple #[.agg #[.slice a3 cg.length c3,.slice a4 dY.length c4,.slice a5 gV.length c5],.bool na]:Value)) e0 e1 e2 e3
 exact⟨a3,c3,a4,c4,a5,c5,bu,dJ.below,(am_ (fun (x_:List bf)=>RV _ _ (.slice a3 x_.length c3) x_) e0).mp (dJ.gf 2 J),(am_ (fun (x_:List aO)=>RV _ _ (.slice a4 x_.length c4) x_) e1).mp (dJ.gf 1 J),(am_ (fun (x_:aA)=>RV _ _ (.slice a5 x_.length c5) x_) e2).mp (dJ.gf 0 J)⟩
theorem aiM:cA aI 97:=cI Tryz.func97
theorem aiL:cA aI 98:=cI Tryz.func98
theorem aiN:cA aI 96:=cI Tryz.func96
theorem adn:cA aI 59:=cI Tryz.func59
theorem QE:cA aI 58:=cI Tryz.func58
theorem Ww (hM:eO M w) (dL:cD M w aw av U) (gb:cD M w ay ax fo) (dB:U.length≤4096) (ez:fo.length=U.length) (fL:∀x∈fo,x<((U.length:Nat):Int)):Calls aI 98 #[.agg #[.slice aC aE aB,sL aw U av,sL ay fo ax]] w (cp fun v w'=>∃(a0:OA) (c0:Nat),v=.agg #[I (U.length:Int),.slice a0 (oW U fo).length c0]∧Ext w w'∧bm M 144 w (oW U fo) (.slice a0 (oW U fo).length c0) w'):=by
 refine dG 37 Tryz.func98 J J J hM fun f0 ha H=>?_
 let J0:=iL aw U av
 have H0:=H.put (it:=J0) J<|by rw[bP];exact dL
 let J1:=iL ay fo ax
 have H1:=H0.put (it:=J1) J<|by rw[aD rfl,bP];exact gb
 have ja:=bj dL
 have kP:=bj gb
 have i0:f0 0=.agg #[.slice aC aE aB,sL aw U av,sL ay fo ax]:=ha 0 bl
 refine az<|k<|bx H1 J i0 ?_
 intro aZ w0 bY (H2:HI M w w0 [box aZ #[.slice aC aE aB,sL aw U av,sL ay fo ax] 47,J1,J0])
 let J2:=box aZ #[.slice aC aE aB,sL aw U av,sL ay fo ax] 47
 refine k<|al H2 bp ?_
 let ba:=[J2,J1,J0]
 intro aY w1 cT (H3:HI M w w1 (box aY #[I 0,.slice none 0 0] 26::ba))
 let J3:=box aY #[I 0,.slice none 0 0] 26
 refine bz<|aQ fG J J<|bq H3 1 J jh J J J<|k<|dD J J jA<|k ?_
 have bS:=OG (n:=(U.length:Int)) H3.mb aR
 refine ca G2 J (ec J e0) bS ?_
 rintro _ w2 ⟨a0,c0,rfl,fk,cw⟩
 have H4:=H3.eT cw
 refine ai (v:=.tuple #[.agg #[I (oM (U.length:Int)),sL a0 (iR (U.length:Int)) c0],I (sh (U.length:Int))]) J J<|k<|xt J J J<|k<|xt J J J<|k<|al H4 bp ?_
 let bV:=oL w 144 a0 (iR (U.length:Int)) c0::J3::ba
 intro bJ w3 fN (H5:HI M w w3 (box bJ #[I 0,.slice none 0 0] 26::bV))
 refine k<|bw H5 0 J bp J J J J J J J ?_
 let J4:=box bJ #[I (oM (U.length:Int)),sL a0 (iR (U.length:Int)) c0] 26
 intro w4 (H6:HI M w w4 (J4::bV))
 refine ak (v:=I (sh (U.length:Int))) J J<|aq<|sq<|sq ?_
 have VL:CQ (U.length:Int)=true:=sP.2 aj
 obtain⟨en,er, -⟩:=xH VL
 refine rg<|aQ tR J J<|bq H6 3 J qJ J J J<|k<|dD J J cG<|ai (v:=I 0) J J<|aq<|bk<|lp (fun m f w'=>∃(j:Nat) (xs:List (List bt)),m=fo.length-j∧f 2=pV aY 0∧f 3=pV bJ 0∧f 15=sL ay fo ax∧f 16=I (fo.length:Int)∧f 17=I (j:Int)∧HI M w w' (J4::own w.heap.size 144 (.slice a0 (iR (U.length:Int)).length c0) xs::J3::ba)∧(j≤fo.length)∧(xs.length=U.length)∧(xs=uB U.length fo j)) _ ⟨0,(iR (U.length:Int)),J,J,J,J,J,(bG J),H6,aj,(by rw[er,qh];simp),(by rw[er];exact Zf _ _)⟩ ?_
 rintro _ f0 w5 ⟨j,xs,rfl,s0,s1,s2,s3,s4,H7,hk,hl,hs⟩
 refine az<|k<|lss J J s4 s3<|aq<|sq<|cd (b:=decide ((j:Int)<(fo.length:Int))) J J (fun b0=>?_)<|fun b0=>?_
 ·
  have p0:=dT b0
  refine sk<|nx<|sq<|bk<|az<|ai J s4<|k<|ia (H7.rv 4 J) J J s2 s4 aj cG aT ?_
  intro iE x0 aM cz
  refine k<|mw cz.w aT J J ?_
  intro d_
  refine ak (v:=I (j:Int)) J J<|ak (v:=I x0) J J<|aq<|sq ?_
  have hw_:=fL _<|dC aM
  refine rg<|ai (v:=I x0) J J<|k<|geq J J J J<|z<|nx<|cd (b:=decide (0≤x0)) J J (fun b1=>?_)<|fun b1=>?_
  ·
   have p1:=dT b1
   refine lH [.r,.r,.r,.r,.r,.r,.r,.r,.r,.r,.e,.e] (fun _=>True) J aS (fun _ _=>trivial)<|yq J J<|kq (fun _ _=>fa iD J s1 e1)<|bH<|kq (fun _ x_=>lx (H7.ext x_) 0 J lb J J J e1)<|bH<|kq (fun _ _=>mv (v:=I x0) J J e1)<|bH<|kq (fun _ _=>fa iD J s1 e1)<|bH<|kq (fun _ x_=>lx (H7.ext x_) 0 J lb J J J e1)<|bH<|kq (fun _ _=>mv (v:=I x0) J J e1)<|bH<|oK (H7.at_ 1 J) J J J J aj im dm ?_
   intro rK x1 cQ gL
   refine bH<|Bb gL dm J J ?_
   intro a1 c1 dZ
   have Aq:=bj dZ
   have H8:=eG H7 dZ
   refine bH<|kq (fun _ _=>mv (v:=I (j:Int)) J J e1)<|zq<|yu J (fun _ v w'=>∃(a2:OA) (c2:Nat),v=sL a2 (ej x1 (j:Int)) c2∧RV H7.fS w' (sL a2 (ej x1 (j:Int)) c2) (ej x1 (j:Int))) J nh J (fun v_ _ x_ _=>have fP:=uz (r:=x1) (i:=(j:Int)) (w:=v_) (H8.ext x_).mb ((H8.ext x_).rv 0 rfl) aR (by have TJ:=cQ;rw[hs] at TJ;exact(Zg (n:=U.length) aj fo j).2 _ (dC TJ));ca FK rfl (ec J<|ec J e0) fP (fun _ w7 ⟨a3,c3,e_,jc,jS⟩=>⟨_,J,jc,⟨a3,c3,e_,(ly J<|bm.rv jS (H8.ext x_).mb)⟩⟩))<|ye<|ye<|yz ?_
   intro w8 f1 _ jK _ _ cx iJ
   have cM:=H8.ext jK
   have s5:=(cx 2 J).trans s0
   have s6:=(cx 3 J).trans s1
   have s7:=(cx 15 J).trans s2
   have s8:=(cx 16 J).trans s3
   have s9:=(cx 17 J).trans s4
   have eu:=cx 25 J
   have fb:=cx 26 J
   obtain⟨a4,c4,fu,lh⟩:=iJ 0 _ _ rfl
   have dU:=eG cM lh
   refine jw<|gW (dU.at_ 3 J) J J eu fb aj im dm ?_
   intro g0 x2 iC jf kV
   refine jw<|oQ dU 3 J iC J aj dm J J J fu (dU.rv 0 J) ?_
   let J5:=own w.heap.size 144 (.slice a0 (iR (U.length:Int)).length c0) (xs.set x0.toNat (ej x1 (j:Int)))
   intro w9 (dt:HI M w w9 [iL a4 (ej x1 (j:Int)) c4,iL a1 x1 c1,J4,J5,J3,J2,J1,J0])
   refine kz<|aG<|nx<|rg<|k<|add J J s9 J aR<|ai (v:=I ((j:Int)+1)) J J<|z ?_
   have cR:HI M w w9 (J4::J5::J3::ba):=dt.bX [2,3,4,5,6,7] au J
   refine bF _ ?_ ⟨(j+1),(xs.set x0.toNat (ej x1 (j:Int))),J,s5,s6,s7,s8,(bG J),cR,aj,(by simpa using hl),(by exact abk hs aM aj aj aj cQ)⟩
   omega
  have p1:=dF b1
  refine sk<|aG<|nx<|rg<|k<|add J J s4 J aR<|ai (v:=I ((j:Int)+1)) J J<|z<|bF _ ?_ ⟨(j+1),xs,J,s0,s1,s2,s3,(bG J),H7,aj,bo,(by rw[hs];exact ae1 aM aj)⟩
  omega
 have p0:=dF b0
 refine ex<|aV<|bc<|bg<|cO<|k<|cB H7 0 J bp J s1 au J<|k<|bw H7 2 J bp J J s0 J J J J ?_
 intro w6 (H8:HI M w w6 (J4::own w.heap.size 144 (.slice a0 (iR (U.length:Int)).length c0) xs::box aY #[I (oM (U.length:Int)),sL a0 (iR (U.length:Int)) c0] 26::ba))
 refine aq<|rt<|py H8 2 J bp J J s0 J au ?_
 have e0:(oM (U.length:Int):Int)=(U.length:Int):=by rw[en]
 have e1:(xs:List (List bt))=oW U fo:=by rw[hs];exact abl ez aj
 have l1:(iR (U.length:Int)).length=(oW U fo).length:=by rw[er,qh,Zh];simp
 have bu:=nL (fun (cg:Int) (ve:Nat)=>(.agg #[I cg,.slice a0 ve c0]:Value)) e0 l1
 exact⟨a0,c0,bu,H8.below,(am_ (fun (n_:Nat)=>bm _ _ _ (oW U fo) (.slice a0 n_ c0) _) l1).mp ((am_ (fun (x_:List (List bt))=>bm _ _ _ x_ (.slice a0 (iR (U.length:Int)).length c0) _) e1).mp (H8.dp 1 J))⟩
theorem ER (hM:eO M w) (dL:cD M w aw av U) (gb:cD M w ay ax fo) (ho:ig U) (dB:U.length≤4096) (ez:fo.length=U.length) (fL:∀x∈fo,x<((U.length:Nat):Int)):Calls aI 59 #[.agg #[.slice aC aE aB,sL aw U av,sL ay fo ax]] w (cp fun v w'=>∃(a0:OA) (c0:Nat),v=.agg #[I (U.length:Int),.slice a0 (kv U fo).length c0]∧Ext w w'∧RV M w' (.slice a0 (kv U fo).length c0) (kv U fo)):=by
 refine dG 14 Tryz.func59 J J J hM fun f0 ha H=>?_
 let J0:=iL aw U av
 have H0:=H.put (it:=J0) J<|by rw[bP];exact dL
 let J1:=iL ay fo ax
 have H1:=H0.put (it:=J1) J<|by rw[aD rfl,bP];exact gb
 have i0:f0 0=.agg #[.slice aC aE aB,sL aw U av,sL ay fo ax]:=ha 0 bl
 refine az<|k<|bx H1 J i0 ?_
 intro aZ w0 bY (H2:HI M w w0 [box aZ #[.slice aC aE aB,sL aw U av,sL ay fo ax] 47,J1,J0])
 let J2:=box aZ #[.slice aC aE aB,sL aw U av,sL ay fo ax] 47
 refine k<|al H2 bp ?_
 intro aY w1 cT (H3:HI M w w1 [box aY #[I 0,.slice none 0 0] 26,J2,J1,J0])
 refine aq<|sq<|lH [.r,.r,.r,.r,.r,.r,.r,.s,.n,.e,.s] (fun _=>True) J aS (fun _ _=>trivial)<|yq J J<|kq (fun _ x_=>cB (H3.ext x_) 1 J eh J J au J e1)<|zq<|yu J (fun N v w'=>∃(a0:OA) (c0:Nat),v=.agg #[I (U.length:Int),sL a0 (oY U) c0]∧RV (MN H3.fS N) w' (sL a0 (oY U) c0) (oY U)) J Et J (fun v_ _ x_ n_=>have cU:=PG (U:=U) (aC:=aC) (aE:=aE) (aB:=aB) (ay:=ay) (fe:=fo.length) (ax:=ax) (w:=v_) (kN H3.mb x_ n_) (km (H3.rv 3 J) x_ n_) (by exact ho) (by exact dB);ca aiM rfl (ec J e0) cU (fun _ w3 ⟨a1,c1,e_,fN,dZ⟩=>⟨_,J,fN,⟨a1,c1,e_,(bm.rv dZ<|kN H3.mb x_ n_)⟩⟩))<|yq J J<|kq (fun _ x_=>cB (H3.ext x_) 1 J eh J J au J e1)<|zq<|yu J (fun N v w'=>∃(a2:OA) (c2:Nat),v=.agg #[I (U.length:Int),sL a2 (oW U fo) c2]∧RV (MN H3.fS N) w' (sL a2 (oW U fo) c2) (oW U fo)) J Et J (fun v_ _ x_ n_=>have eZ:=Ww (U:=U) (fo:=fo) (aC:=aC) (aE:=aE) (aB:=aB) (w:=v_) (kN H3.mb x_ n_) (km (H3.rv 3 J) x_ n_) (km (H3.rv 2 J) x_ n_) (by exact dB) (by exact ez) (by exact fL);ca aiL rfl (ec J e0) eZ (fun _ w5 ⟨a3,c3,e_,jc,jS⟩=>⟨_,J,jc,⟨a3,c3,e_,(bm.rv jS<|kN H3.mb x_ n_)⟩⟩))<|yu2 J (fun N v w'=>∃(a6:OA) (c6:Nat),v=.tuple #[.agg #[I (tB (U.length:Int) (U.length:Int)),sL a6 (mi (U.length:Int) (oY U) (U.length:Int)<|oW U fo) c6],I (xE (U.length:Int) (U.length:Int))]∧RV (MN H3.fS N) w' (sL a6 (mi (U.length:Int) (oY U) (U.length:Int)<|oW U fo) c6) (mi (U.length:Int) (oY U) (U.length:Int)<|oW U fo)) 1 0 J J J Et J (fun v_ _ _ _ x_ n_ h_ k_=>let ⟨a7,c7,s0,rP⟩:=h_;let ⟨a8,c8,s1,oU⟩:=k_;have nu:=abM (an:=(U.length:Int)) (ar:=(oY U)) (bn:=(U.length:Int)) (br:=(oW U fo)) (w:=v_) (kN H3.mb x_ n_) aR rP aR oU (by exact(GB aj _).1) (by exact(GB aj _).2) aj (by exact(GB aj _).1) (by exact(GB aj _).2) aj;ca aiN rfl (ec s0<|ec s1 e0) nu (fun _ w7 ⟨a9,c9,e_,lC,nR⟩=>⟨_,J,lC,⟨a9,c9,e_,(bm.rv nR<|kN H3.mb x_ n_)⟩⟩))<|lL J (fun N v w'=>∃(jq:OA) (jo:Nat),v=.tuple #[.agg #[I (tB (U.length:Int) (U.length:Int)),sL jq (mi (U.length:Int) (oY U) (U.length:Int)<|oW U fo) jo],I (xE (U.length:Int) (U.length:Int))]∧RV (MN H3.fS N) w' (sL jq (mi (U.length:Int) (oY U) (U.length:Int)<|oW U fo) jo) (mi (U.length:Int) (oY U) (U.length:Int)<|oW U fo)) 0 J J Et J (fun _ _ _ _ _ h_=>let ⟨mV,mU,s2,qM⟩:=h_;mv rfl s2 ⟨_,J,Ext.refl _,⟨mV,mU,J,qM⟩⟩)<|lL J (fun N v w'=>∃(a12:OA) (pC:Nat),v=.agg #[I (tB (U.length:Int) (U.length:Int)),sL a12 (mi (U.length:Int) (oY U) (U.length:Int)<|oW U fo) pC]∧RV (MN H3.fS N) w' (sL a12 (mi (U.length:Int) (oY U) (U.length:Int)<|oW U fo) pC) (mi (U.length:Int) (oY U) (U.length:Int)<|oW U fo)) 0 J J Et J (fun _ _ _ _ _ h_=>let ⟨jW,jV,s3,A9⟩:=h_;xt rfl s3 rfl ⟨_,J,Ext.refl _,⟨jW,jV,J,A9⟩⟩)<|Rc J (X:=I (xE (U.length:Int) (U.length:Int))) 1 J J (fun _ _ _ _ _ h_=>let ⟨JJ,JC,s4,PI⟩:=h_;xt rfl s4 rfl e1)<|yn (z:=#[I 0,.slice none 0 0]) J J (fun _=>M7 bp)<|ye<|yq J J<|kq (fun _ _=>jO (v:=I (xE (U.length:Int) (U.length:Int))) J J e1)<|zq<|yz ?_
 intro w8 f0 _ l3 _ _ cx iJ
 obtain⟨fh,s5,AE,rI,yR⟩:=iJ 0 _ _ rfl
 have og:=MM (z:=#[I 0,.slice none 0 0]) (T:=26) AE rI yR<|MO
 let ba:=[box aY #[I 0,.slice none 0 0] 26,J2,J1,J0]
 have H7:HI M w w8 (box fh #[I 0,.slice none 0 0] 26::ba):=H3.Bs l3 og<|LF LC LG
 have s6:=cx 2 J
 obtain⟨JI,JB,s7,abd⟩:=iJ 1 _ _ rfl
 let J3:=iL JI (mi (U.length:Int) (oY U) (U.length:Int) (oW U fo)) JB
 have H8:=H7.put (it:=J3) J<|sy abd og
 refine jw<|bw H8 1 J bp J J s5 s7 J J J ?_
 let J4:=box fh #[I (tB (U.length:Int) (U.length:Int)),sL JI (mi (U.length:Int) (oY U) (U.length:Int) (oW U fo)) JB] 26
 intro w9 (H9:HI M w w9 (J3::J4::ba))
 refine kz<|cO<|k<|cB H9 1 J bp J s5 au J<|k<|bw H9 2 J bp J J s6 J J J J ?_
 intro dM (dO:HI M w dM [J3,J4,box aY #[I (tB (U.length:Int) (U.length:Int)),sL JI (mi (U.length:Int) (oY U) (U.length:Int) (oW U fo)) JB] 26,J2,J1,J0])
 refine aq<|rt<|py dO 2 J bp J J s6 J au ?_
 have e0:(tB (U.length:Int) (U.length:Int):Int)=(U.length:Int):=by exact(Yu U fo).1
 have e1:(mi (U.length:Int) (oY U) (U.length:Int) (oW U fo):List (List bt))=kv U fo:=by exact(Yu U fo).2
 have bu:=nL (fun (cg:Int) (dY:List (List bt))=>(.agg #[I cg,.slice JI dY.length JB]:Value)) e0 e1
 exact⟨JI,JB,bu,dO.below,(am_ (fun (x_:List (List bt))=>RV _ _ (.slice JI x_.length JB) x_) e1).mp (dO.gf 0 J)⟩
theorem BN (hM:eO M w) (dL:cD M w aw av U) (gb:cD M w ay ax fo) (ho:ig U) (dB:U.length≤4096) (ez:fo.length=U.length) (fL:∀x∈fo,x<((U.length:Nat):Int)):Calls aI 32 #[.agg #[.slice aC aE aB,sL aw U av,sL ay fo ax]] w (cp fun v w'=>∃(a0:OA) (c0:Nat),v=.agg #[I (U.length:Int),.slice a0 (cu U fo).length c0]∧Ext w w'∧RV M w' (.slice a0 (cu U fo).length c0) (cu U fo)):=by
 refine dG 6 Tryz.func32 J J J hM fun f0 ha H=>?_
 have H0:=eG H dL
 have H1:=eG H0 gb
 have i0:f0 0=.agg #[.slice aC aE aB,sL aw U av,sL ay fo ax]:=ha 0 bl
 refine az<|k<|bx H1 J i0 ?_
 let ba:=[iL ay fo ax,iL aw U av]
 intro aZ w0 bY (H2:HI M w w0 (box aZ #[.slice aC aE aB,sL aw U av,sL ay fo ax] 47::ba))
 let J0:=box aZ #[.slice aC aE aB,sL aw U av,sL ay fo ax] 47
 refine k<|al H2 bp ?_
 intro aY w1 cT (H3:HI M w w1 (box aY #[I 0,.slice none 0 0] 26::J0::ba))
 refine bz<|k<|cB H3 1 J eh J J au J<|k ?_
 have bS:=ER (U:=U) (fo:=fo) (aC:=aC) (aE:=aE) (aB:=aB) H3.mb (H3.rv 3 J) (H3.rv 2 J) (by exact ho) (by exact dB) (by exact ez)<|by exact fL
 refine ca adn J (ec J e0) bS ?_
 rintro _ w2 ⟨a0,c0,rfl,fk,cw⟩
 have H4:=H3.ext fk
 have H5:=eG H4 cw
 refine k ?_
 have cU:=wL (mn:=(U.length:Int)) (mr:=(kv U fo)) H5.mb aR (H5.rv 0 J)<|by exact Mz fo dB
 refine ca QE J (ec J e0) cU ?_
 rintro _ w3 ⟨a1,c1,rfl,fN,d_⟩
 have H6:=H5.eT d_
 refine k<|bw H6 2 J bp J J J J J J J ?_
 intro w4 (H7:HI M w w4 (oL w 144 a1 (fj (U.length:Int) (kv U fo)) c1::iL a0 (kv U fo) c0::box aY #[I (U.length:Int),sL a1 (fj (U.length:Int) (kv U fo)) c1] 26::J0::ba))
 refine aq<|rt<|py H7 2 J bp J J J J au ?_
 have e1:(fj (U.length:Int) (kv U fo):List (List bt))=cu U fo:=by exact Wp U fo
 have bu:=iK (fun (dY:List (List bt))=>(.agg #[I (U.length:Int),.slice a1 dY.length c1]:Value)) e1
 exact⟨a1,c1,bu,H7.below,(am_ (fun (x_:List (List bt))=>RV _ _ (.slice a1 x_.length c1) x_) e1).mp (H7.mB 0 J)⟩
theorem Nv (H:HI M w w_ ([oL w 3 dW xs dS]++r)):Calls aI 177 #[sL dW xs dS] w_ (cp fun v w'=>v=.tuple #[]∧HI M w w' ([own w.heap.size 3 (sL dW xs dS) xs.reverse]++r)):=by
 refine enter 28 Tryz.func177 J J J fun f0 ha=>?_
 have GC:=kj<|H.at_ 0 J
 have i0:f0 0=sL dW xs dS:=ha 0 bl
 refine az<|ai J i0<|k<|dD J J cG<|k<|sub J J J J aR<|ak (v:=I 0) J J<|ak (v:=I ((xs.length:Int)-1)) J J<|aq<|bk<|lp (fun m f w'=>∃(q:Nat) (ys:aA),m=xs.length-q∧f 0=sL dW xs dS∧f 2=I (q:Int)∧f 3=I ((xs.length:Int)-1-(q:Int))∧HI M w w' ([own w.heap.size 3 (.slice dW xs.length dS) ys]++r)∧(q+q≤xs.length+1)∧(ys.length=xs.length)∧(ys=tx xs q)) _ ⟨0,xs,J,i0,(bG J),(bG J),H,aj,(by rfl),(by exact PS xs)⟩ ?_
 rintro _ f0 w0 ⟨q,ys,rfl,s0,s1,s2,H0,sU,ue,hs⟩
 refine sq<|az<|ai J s1<|ai J s2<|k<|lss J J J J<|z<|nx<|cd (b:=decide ((q:Int)<((xs.length:Int)-1-(q:Int)))) J J (fun b0=>?_)<|fun b0=>?_
 ·
  have p0:=dT b0
  refine sk<|nx<|sq<|bk<|lH [.r,.r,.s,.s,.r,.r,.r,.r,.r,.r,.r,.r,.e,.e,.e,.e] (fun _=>True) J aS (fun _ _=>trivial)<|yq J J<|kq (fun _ _=>mv J s0 e1)<|bH<|kq (fun _ _=>mv J s1 e1)<|bH<|kq (fun _ _=>mv J s0 e1)<|bH<|kq (fun _ _=>mv J s2 e1)<|bH<|kq (fun _ _=>mv J s0 e1)<|bH<|kq (fun _ _=>mv J s2 e1)<|bH<|oK (H0.at_ 0 J) J J J J aj cG aT ?_
  intro iE x0 aM cz
  refine bH<|ob cz aT J J ?_
  intro cw
  refine bH<|kq (fun _ _=>mv J s0 e1)<|bH<|kq (fun _ _=>mv J s1 e1)<|bH<|oK (H0.at_ 0 J) J J J J aj cG aT ?_
  intro rK x1 cQ gL
  refine bH<|ob gL aT J J ?_
  intro d_
  refine zq<|ye<|ye<|ye<|ye<|yz ?_
  intro w1 f1 _ bY _ _ cx iJ
  have H1:=H0.ext bY
  have s3:=(cx 0 J).trans s0
  have s4:=(cx 2 J).trans s1
  have s5:=(cx 3 J).trans s2
  have s6:=cx 14 J
  have s7:=cx 15 J
  have s8:=cx 16 J
  have s9:=cx 17 J
  have eu:=cx 21 J
  have fb:=cx 25 J
  refine jw<|gW (H1.at_ 0 J) J J s6 s7 aj cG aT ?_
  intro g0 x2 iC jf kV
  refine jw<|oQ H1 0 J iC J aj aT J J J eu (RV.int.2 ⟨J,bo⟩) ?_
  intro w2 (H2:HI M w w2 ([own w.heap.size 3 (.slice dW xs.length dS) (ys.set ((q:Int).toNat) x0)]++r))
  refine jw<|gW (H2.at_ 0 J) J J s8 s9 (by simp only[am'];omega) cG aT ?_
  intro g1 x3 kn nH vw
  refine jw<|oQ H2 0 J kn J (by simp only[am'];omega) aT J J J fb (RV.int.2 ⟨J,bo⟩) ?_
  intro w3 (H3:HI M w w3 ([own w.heap.size 3 (.slice dW xs.length dS) ((ys.set ((q:Int).toNat) x0).set (((xs.length:Int)-1-(q:Int)).toNat) x1)]++r))
  refine kz<|aG<|nx<|rg<|ai J s4<|k<|add J J J J aR<|ai J s5<|k<|sub J J J J aR<|ak (v:=I ((q:Int)+1)) J J<|ak (v:=I (((xs.length:Int)-1-(q:Int))-1)) J J<|z<|bF _ ?_ ⟨(q+1),((ys.set ((q:Int).toNat) x0).set (((xs.length:Int)-1-(q:Int)).toNat) x1),J,s3,(bG J),(bG J),H3,aj,(by simp only[am'];exact ue),(by exact Nw hs aj aM aj cQ)⟩
  omega
 have p0:=dF b0
 refine ex<|aV<|bc<|bg<|Em J ?_
 have e0:(ys:List _)=xs.reverse:=by exact RP hs aj
 try rw[←e0]
 refine⟨?_,?_⟩
 · first|rfl|simp only[e0]|(simp only[am'])
 · first|exact H0|simpa +zetaDelta only[e0,am'] using H0
theorem afr:cA aI 177:=cI Tryz.func177
theorem R4 {M_:OA} {MJ:Nat} {vb:aA} (hM:eO M w) (ac0:cD M w M_ MJ vb) (rb:aJ i) (Cd:aJ j) (EF:Bk vb i j (vG vb i j)) (Cc:(vG vb i j).length≤4097):Calls aI 155 #[sL M_ vb MJ,I i,I j] w (cp fun v w'=>∃(a0:OA) (c0:Nat),v=.slice a0 (vG vb i j).length c0∧Ext w w'∧bm M 3 w (vG vb i j) (.slice a0 (vG vb i j).length c0) w'):=by
 refine dG 29 Tryz.func155 J J J hM fun f0 ha H=>?_
 let J0:=iL M_ vb MJ
 have H0:=H.put (it:=J0) J<|by rw[bP];exact ac0
 have alA:=bj ac0
 have i0:f0 0=sL M_ vb MJ:=ha 0 bl
 have i1:f0 1=I i:=ha 1 bl
 have i2:f0 2=I j:=ha 2 bl
 have alI:=EF.len;have alP:=T4 EF EF.last
 refine az<|ak (v:=.slice none 0 0) J J<|bz<|ai J i2<|k<|bs (xs:=([j]:aA)) (cells:=#[I j]) (e:=3) H0 J (cm J ew) (fun _=>aS) ⟨[I j],[],J,⟨J,Cd⟩,J⟩ J au ?_
 intro g0 w0 bY H1
 refine ak (v:=.slice (some ⟨g0,0,none⟩) 1 1) J J<|aq<|sq<|az<|ai J i0<|ai J i2<|k<|ia (H1.rv 1 J) J J J J aj cG aT ?_
 intro iE x0 aM cz
 refine k<|mw cz.w aT J J ?_
 intro cw
 refine ak (v:=I x0) J J<|aq<|bk<|lp (fun m f w'=>∃(t:Nat) (l:aA) (a:Int) (a0:OA) (c0:Nat),m=t+1∧f 0=sL M_ vb MJ∧f 1=I i∧f 7=sL a0 l c0∧f 8=I a∧HI M w w' [oL w 3 a0 l c0,J0]∧(1≤t∧t<(vG vb i j).length)∧(l=((vG vb i j).drop t).reverse)∧((vG vb i j)[t-1]? =some a)) _ ⟨((vG vb i j).length-1),[j],x0,(some ⟨g0,0,none⟩),1,J,i0,i1,J,(bG J),H1,aj,(by exact aaj EF),(by exact WA EF aM)⟩ ?_
 rintro _ f0 w1 ⟨t,l,a,a0,c0,rfl,s0,s1,s2,s3,H2,ht,hs,gK⟩
 refine sq<|bk<|sq ?_
 have hL_:l.length=(vG vb i j).length-t:=by rw[hs];simp
 have ha_:=T4 EF gK
 refine rg<|ai J s2<|ai J s3<|k<|bs (xs:=([a]:aA)) (cells:=#[I a]) (e:=3) H2 J (cm J ew) (fun _=>aS) ⟨[I a],[],J,⟨J,(show aJ (a) from aR)⟩,J⟩ J au ?_
 intro g1 w2 cT H3
 refine k<|lY H3 1 J J J J J J (gY<|H3.at_ 0 J) cG aT J (by simp;omega) J ?_
 let J1:=own w.heap.size 3 (.slice (some ⟨g1,0,none⟩) 1 1) ([a]:aA)
 intro a1 c1 w3 (H4:HI M w w3 [J1,oL w 3 a1 (l++([a]:aA)) c1,J0])
 refine ak (v:=sL a1 (l++([a]:aA)) c1) J J<|bz<|ai J s3<|ai J s1<|k<|eql J J J J<|z<|nx<|cd (b:=decide (a=i)) J J (fun b0=>?_)<|fun b0=>?_
 ·
  have p0:=dT b0
  refine ex<|VD au<|aV<|bc<|bg<|cO<|ai (v:=sL a1 (l++([a]:aA)) c1) J J<|k ?_
  have H5:HI M w w3 ([oL w 3 a1 (l++([a]:aA)) c1]++[J1,J0]):=H4.bX [1,0,2] au J
  have bS:=Nv (dW:=a1) (dS:=c1) (xs:=(l++([a]:aA))) (w:=w) (w_:=w3) (r:=[J1,J0]) (M:=M) H5
  refine ca afr J (ec J e0) bS ?_
  rintro _ w4 ⟨rfl,H6⟩
  have H7:HI M w w4 [own w.heap.size 3 (.slice a1 (l++([a]:aA)).length c1) ((l++([a]:aA)).reverse),J1,J0]:=H6
  refine bz<|ai (v:=sL a1 (l++([a]:aA)) c1) J J<|ak (v:=sL a1 (l++([a]:aA)) c1) J J<|aq<|rt<|r1 J J ?_
  have e0:(((l++([a]:aA)).reverse):aA)=vG vb i j:=by exact adY EF aj aj gK bo hs
  have l0:(l++([a]:aA)).length=(vG vb i j).length:=by rw[←e0];simp
  have bu:=iK (fun (vf:Nat)=>(.slice a1 vf c1:Value)) l0
  exact⟨a1,c1,bu,H7.below,(am_ (fun (n_:Nat)=>bm _ _ _ (vG vb i j) (.slice a1 n_ c1) _) l0).mp ((am_ (fun (x_:aA)=>bm _ _ _ x_ (.slice a1 (l++([a]:aA)).length c1) _) e0).mp (H7.dp 0 J))⟩
 have p0:=dF b0
 refine sk<|aG<|nx<|rg<|ai J s0<|ai J s3<|k<|ia (H4.rv 2 J) J J J J aj cG aT ?_
 intro rK x1 cQ gL
 refine k<|mw gL.w aT J J ?_
 intro d_
 refine ak (v:=I x1) J J<|z ?_
 have H5:HI M w w3 [oL w 3 a1 (l++([a]:aA)) c1,J0]:=H4.bX [1,2] au J
 refine bF _ ?_ ⟨(t-1),(l++([a]:aA)),x1,a1,c1,J,s0,s1,J,(bG J),H5,(by have h_:=YA EF aj gK bo;omega),(by exact Pj EF aj aj gK hs),(by exact aak EF aj aj gK bo cQ)⟩
 omega
theorem afo:cA aI 190:=cI Tryz.func190
theorem afs:cA aI 176:=cI Tryz.func176
theorem ae9 (cQ:x=1#64):Calls aI 190 #[ag x,ag y] w (cp fun v w'=>v=.tuple #[ag (0#64),ag y]∧Ext w w'):=by
 refine dG 51 Tryz.func190 J J J qt fun f0 ha H=>?_
 have i0:f0 0=ag x:=ha 0 bl
 have i1:f0 1=ag y:=ha 1 bl
 refine az<|ak (v:=ag (0#64)) J J<|ak (v:=ag (0#64)) J J<|bz<|ai J i0<|k<|DE x (4294967295#64) J J J J<|ak (v:=ag (x &&& (4294967295#64))) J J<|bz<|ai J i0<|k<|DU x 32 J J J J<|ak (v:=ag (x >>> 32)) J J<|bz<|ai J i1<|k<|DE y (4294967295#64) J J J J<|ak (v:=ag (y &&& (4294967295#64))) J J<|bz<|ai J i1<|k<|DU y 32 J J J J<|ak (v:=ag (y >>> 32)) J J<|bz<|ai (v:=ag (x &&& (4294967295#64))) J J<|ai (v:=ag (y &&& (4294967295#64))) J J<|k<|Fx (x &&& (4294967295#64)) (y &&& (4294967295#64)) J J J J<|ak (v:=ag ((x &&& (4294967295#64))*(y &&& (4294967295#64)))) J J<|bz<|ai (v:=ag (x >>> 32)) J J<|ai (v:=ag (y &&& (4294967295#64))) J J<|k<|Fx (x >>> 32) (y &&& (4294967295#64)) J J J J<|ai (v:=ag ((x &&& (4294967295#64))*(y &&& (4294967295#64)))) J J<|k<|DU ((x &&& (4294967295#64))*(y &&& (4294967295#64))) 32 J J J J<|k<|Iw ((x >>> 32)*(y &&& (4294967295#64))) (((x &&& (4294967295#64))*(y &&& (4294967295#64))) >>> 32) J J J J<|ak (v:=ag (((x >>> 32)*(y &&& (4294967295#64)))+(((x &&& (4294967295#64))*(y &&& (4294967295#64))) >>> 32))) J J<|bz<|ai (v:=ag (((x >>> 32)*(y &&& (4294967295#64)))+(((x &&& (4294967295#64))*(y &&& (4294967295#64))) >>> 32))) J J<|k<|DE (((x >>> 32)*(y &&& (4294967295#64)))+(((x &&& (4294967295#64))*(y &&& (4294967295#64))) >>> 32)) (4294967295#64) J J J J<|ak (v:=ag ((((x >>> 32)*(y &&& (4294967295#64)))+(((x &&& (4294967295#64))*(y &&& (4294967295#64))) >>> 32)) &&& (4294967295#64))) J J<|bz<|ai (v:=ag (((x >>> 32)*(y &&& (4294967295#64)))+(((x &&& (4294967295#64))*(y &&& (4294967295#64))) >>> 32))) J J<|k<|DU (((x >>> 32)*(y &&& (4294967295#64)))+(((x &&& (4294967295#64))*(y &&& (4294967295#64))) >>> 32)) 32 J J J J<|ak (v:=ag ((((x >>> 32)*(y &&& (4294967295#64)))+(((x &&& (4294967295#64))*(y &&& (4294967295#64))) >>> 32)) >>> 32)) J J<|bz<|ai (v:=ag ((((x >>> 32)*(y &&& (4294967295#64)))+(((x &&& (4294967295#64))*(y &&& (4294967295#64))) >>> 32)) &&& (4294967295#64))) J J<|ai (v:=ag (x &&& (4294967295#64))) J J<|ai (v:=ag (y >>> 32)) J J<|k<|Fx (x &&& (4294967295#64)) (y >>> 32) J J J J<|k<|Iw ((((x >>> 32)*(y &&& (4294967295#64)))+(((x &&& (4294967295#64))*(y &&& (4294967295#64))) >>> 32)) &&& (4294967295#64)) ((x &&& (4294967295#64))*(y >>> 32)) J J J J<|ak (v:=ag (((((x >>> 32)*(y &&& (4294967295#64)))+(((x &&& (4294967295#64))*(y &&& (4294967295#64))) >>> 32)) &&& (4294967295#64))+((x &&& (4294967295#64))*(y >>> 32)))) J J<|bz<|ai (v:=ag (x >>> 32)) J J<|ai (v:=ag (y >>> 32)) J J<|k<|Fx (x >>> 32) (y >>> 32) J J J J<|ai (v:=ag ((((x >>> 32)*(y &&& (4294967295#64)))+(((x &&& (4294967295#64))*(y &&& (4294967295#64))) >>> 32)) >>> 32)) J J<|k<|Iw ((x >>> 32)*(y >>> 32)) ((((x >>> 32)*(y &&& (4294967295#64)))+(((x &&& (4294967295#64))*(y &&& (4294967295#64))) >>> 32)) >>> 32) J J J J<|ai (v:=ag (((((x >>> 32)*(y &&& (4294967295#64)))+(((x &&& (4294967295#64))*(y &&& (4294967295#64))) >>> 32)) &&& (4294967295#64))+((x &&& (4294967295#64))*(y >>> 32)))) J J<|k<|DU (((((x >>> 32)*(y &&& (4294967295#64)))+(((x &&& (4294967295#64))*(y &&& (4294967295#64))) >>> 32)) &&& (4294967295#64))+((x &&& (4294967295#64))*(y >>> 32))) 32 J J J J<|k<|Iw (((x >>> 32)*(y >>> 32))+((((x >>> 32)*(y &&& (4294967295#64)))+(((x &&& (4294967295#64))*(y &&& (4294967295#64))) >>> 32)) >>> 32)) ((((((x >>> 32)*(y &&& (4294967295#64)))+(((x &&& (4294967295#64))*(y &&& (4294967295#64))) >>> 32)) &&& (4294967295#64))+((x &&& (4294967295#64))*(y >>> 32))) >>> 32) J J J J<|ak (v:=ag ((((x >>> 32)*(y >>> 32))+((((x >>> 32)*(y &&& (4294967295#64)))+(((x &&& (4294967295#64))*(y &&& (4294967295#64))) >>> 32)) >>> 32))+((((((x >>> 32)*(y &&& (4294967295#64)))+(((x &&& (4294967295#64))*(y &&& (4294967295#64))) >>> 32)) &&& (4294967295#64))+((x &&& (4294967295#64))*(y >>> 32))) >>> 32))) J J<|bz<|ai J i0<|ai J i1<|k<|Fx x y J J J J<|ak (v:=ag (x*y)) J J<|aq<|rt<|r2 J J J ?_
 have e0:((((x >>> 32)*(y >>> 32))+((((x >>> 32)*(y &&& (4294967295#64)))+(((x &&& (4294967295#64))*(y &&& (4294967295#64))) >>> 32)) >>> 32))+((((((x >>> 32)*(y &&& (4294967295#64)))+(((x &&& (4294967295#64))*(y &&& (4294967295#64))) >>> 32)) &&& (4294967295#64))+((x &&& (4294967295#64))*(y >>> 32))) >>> 32):bt)=0#64:=by exact Zw cQ
 have e1:(x*y:bt)=y:=by rw[cQ];simp
 have bu:=nL (fun (cg:bt) (dY:bt)=>(.tuple #[ag cg,ag dY]:Value)) e0 e1
 exact⟨bu,H.below⟩
theorem mul (cQ:x=1#64):Calls aI 176 #[ag x,ag y] w (cp fun v w'=>v=.tuple #[ag (0#64),ag y]∧Ext w w'):=by
 refine dG 30 Tryz.func176 J J J qt fun f0 ha H=>?_
 have i0:f0 0=ag x:=ha 0 bl
 have i1:f0 1=ag y:=ha 1 bl
 refine az<|ak (v:=ag (0#64)) J J<|ak (v:=ag (0#64)) J J<|aq<|sq<|pB J J J<|sk<|cO<|ai J i0<|ai J i1<|k ?_
 have bS:=ae9 (x:=x) (y:=y) (w:=w) aj
 refine ca afo J (ec J<|ec J e0) bS ?_
 rintro _ w0 ⟨rfl,bY⟩
 have H0:=H.ext bY
 refine ai (v:=.tuple #[ag (0#64),ag y]) J J<|k<|xt J J J<|k<|xt J J J<|ak (v:=ag (0#64)) J J<|ak (v:=ag y) J J<|bz<|ai (v:=ag (0#64)) J J<|ai (v:=ag y) J J<|ak (v:=ag (0#64)) J J<|ak (v:=ag y) J J<|aq<|rt<|r2 J J J ?_
 exact⟨J,H0.below⟩
theorem PU (hM:eO M w) (acX:cD M w dW dS xs) (Mk:aJ n) (cQ:xs.length=1) (yR:1≤n) (SQ:n≤4096):Calls aI 154 #[sL dW xs dS,I n] w (cp fun v w'=>∃(a0:OA) (c0:Nat),v=.slice a0 (List.replicate n.toNat (xs.headD 0)).length c0∧Ext w w'∧bm M 3 w (List.replicate n.toNat (xs.headD 0)) (.slice a0 (List.replicate n.toNat (xs.headD 0)).length c0) w'):=by
 refine dG 48 Tryz.func154 J J J hM fun f0 ha H=>?_
 let J0:=iL dW xs dS
 have H0:=H.put (it:=J0) J<|by rw[bP];exact acX
 have GC:=bj acX
 have i0:f0 0=sL dW xs dS:=ha 0 bl
 have i1:f0 1=I n:=ha 1 bl
 refine az<|ak (v:=.slice none 0 0) J J<|aq<|sq<|az<|ai J i1<|k<|lss J J J J<|z<|nx ?_
 have BZ:(decide (n<0))=false:=(by rw[anr];omega)
 refine pB J J BZ<|sk<|cO<|ai J i0<|k<|dD J J cG<|k<|Pb J J BY DT<|ai J i1<|k<|Pb J J BY DT<|k ?_
 have bS:=mul (x:=(BitVec.ofInt 64 (xs.length:Int))) (y:=(BitVec.ofInt 64 n)) (w:=w)<|by rw[cQ];rfl
 refine ca afs J (ec J<|ec J e0) bS ?_
 rintro _ w0 ⟨rfl,bY⟩
 have H1:=H0.ext bY
 refine ai (v:=.tuple #[ag (0#64),ag (BitVec.ofInt 64 n)]) J J<|k<|xt J J J<|k<|xt J J J<|ak (v:=ag (0#64)) J J<|ak (v:=ag (BitVec.ofInt 64 n)) J J<|aq<|sq<|az<|ai (v:=ag (0#64)) J J<|k<|Ye (0#64) (0#64) J J J J<|ai (v:=.bool (decide ((0#64).toNat<(0#64).toNat))) J J ?_
 have KO:(decide ((0#64).toNat<(0#64).toNat))=false:=au
 refine bh J J J KO<|mv (v:=ag (BitVec.ofInt 64 n)) J J<|bh J J J KO<|Ye (BitVec.ofInt 64 n) (9223372036854775807#64) J J J J<|k<|dA J J J J KO J<|z<|nx ?_
 have tr2:(decide ((9223372036854775807#64).toNat<(BitVec.ofInt 64 n).toNat))=false:=(by rw[anr,HH aj SQ];simp;omega)
 refine pB J J tr2<|sk<|nx<|sq ?_
 have Db:=HH (n:=n) aj SQ
 refine rg<|ai (v:=ag (BitVec.ofInt 64 n)) J J<|k<|cvI J J aR DT BY<|k<|mk (m:=(BitVec.ofInt 64 n).toNat) (zx:=(0:Int)) H1 J J J J cG aT (fun _ _=>⟨J,by unfold aJ;omega⟩) aj aj ?_
 intro g0 w1 cT (H2:HI M w w1 [own w.heap.size 3 (.slice (some ⟨g0,0,none⟩) ((BitVec.ofInt 64 n).toNat) ((BitVec.ofInt 64 n).toNat)) (List.replicate ((BitVec.ofInt 64 n).toNat) (0:Int)),J0])
 refine ak (v:=.slice (some ⟨g0,0,none⟩) ((BitVec.ofInt 64 n).toNat) ((BitVec.ofInt 64 n).toNat)) J J<|bz<|ai (v:=.slice (some ⟨g0,0,none⟩) ((BitVec.ofInt 64 n).toNat) ((BitVec.ofInt 64 n).toNat)) J J<|ai J i0<|k<|ajv H2 0 J J J J J J (H2.rv 1 J).src cG aT (by have h_:=HH (n:=n) aj SQ;rw[oG,h_];omega) aj ?_
 intro w2 (H3:HI M w w2 [own w.heap.size 3 (.slice (some ⟨g0,0,none⟩) ((BitVec.ofInt 64 n).toNat) ((BitVec.ofInt 64 n).toNat)) (xs++(List.replicate ((BitVec.ofInt 64 n).toNat) (0:Int)).drop xs.length),J0])
 refine ak (v:=I (xs.length:Int)) J J<|aq<|sq<|bk<|lp (fun m f w'=>∃(q:Nat) (ys:aA),m=n.toNat-q∧f 7=.slice (some ⟨g0,0,none⟩) ((BitVec.ofInt 64 n).toNat) ((BitVec.ofInt 64 n).toNat)∧f 8=I (q:Int)∧HI M w w' [own w.heap.size 3 (.slice (some ⟨g0,0,none⟩) ((BitVec.ofInt 64 n).toNat) ((BitVec.ofInt 64 n).toNat)) ys,J0]∧(1≤q∧q≤n.toNat)∧(ys.length=n.toNat)∧(ys.take q=List.replicate q (xs.headD 0))) _ ⟨1,(xs++(List.replicate ((BitVec.ofInt 64 n).toNat) (0:Int)).drop xs.length),J,J,(bG J),H3,aj,(by exact(IN (m:=n.toNat) cQ aj<|by rw[oG,Db]).1),(by exact(IN (m:=n.toNat) cQ aj<|by rw[oG,Db]).2)⟩ ?_
 rintro _ f0 w3 ⟨q,ys,rfl,s0,s1,H4,sU,ue,hs⟩
 refine sq<|az<|ai J s1<|ai J s0<|k<|dD J J cG<|k<|lss J J J J<|z<|nx<|cd (b:=decide ((q:Int)<(((BitVec.ofInt 64 n).toNat):Int))) J J (fun b0=>?_)<|fun b0=>?_
 ·
  have p0:=dT b0
  refine sk<|nx<|bk ?_
  let J1:=own w.heap.size 3 (.slice (some ⟨g0,0,none⟩) ((BitVec.ofInt 64 n).toNat) ((BitVec.ofInt 64 n).toNat)) ys
  have H6:HI M w w3 [J0,J1]:=H4.bX [1,0] au J
  let J2:=own w.heap.size 3 (.slice (some ⟨g0,0,none⟩) ((BitVec.ofInt 64 n).toNat) ((BitVec.ofInt 64 n).toNat)) (FY ys ((q:Int).toNat))
  refine Wi [none,none,none,none,none,none,none,none,none,none,some 7] [0,0,0,6,0,0,48,126,255,511] [fun _=>[],fun _=>[],fun _=>[],fun _=>[],fun _=>[],fun _=>[],fun _=>[],fun v_=>[J2],fun _=>[],fun _=>[],fun _=>[J1]] [[],[],[],[10],[],[],[10],[10],[],[]] [fun v_=>v_=I (q:Int),fun v_=>v_=.slice (some ⟨g0,0,none⟩) ((BitVec.ofInt 64 n).toNat) ((BitVec.ofInt 64 n).toNat),fun v_=>v_=I (q:Int),fun v_=>v_=.slice (mo (some ⟨g0,0,none⟩) ((BitVec.ofInt 64 n).toNat) (q:Int).toNat) (((BitVec.ofInt 64 n).toNat)-(q:Int).toNat) ((BitVec.ofInt 64 n).toNat-(q:Int).toNat),fun v_=>v_=.slice (some ⟨g0,0,none⟩) ((BitVec.ofInt 64 n).toNat) ((BitVec.ofInt 64 n).toNat),fun v_=>v_=I (q:Int),fun v_=>v_=.slice (mo (some ⟨g0,0,none⟩) ((BitVec.ofInt 64 n).toNat) 0) ((q:Int).toNat) (BitVec.ofInt 64 n).toNat,fun v_=>v_=I ((min ((q:Int).toNat) (ys.length-((q:Int).toNat)):Nat):Int),fun v_=>v_=I ((q:Int)+((min ((q:Int).toNat) (ys.length-((q:Int).toNat)):Nat):Int)),fun v_=>v_=I ((q:Int)+((min ((q:Int).toNat) (ys.length-((q:Int).toNat)):Nat):Int))] [J0] J aS J H6 ?_ ?_
  ·
   refine⟨fun f1 w5 V_ eC kD hp0 hq0 H7=>?_,?_⟩
   ·
    have H8:HI M w w5 ([J0]++eC):=(by have h_:HI M w w5 ([J0]++(eC)):=H7;exact h_)
    refine mv J ((hq0 9 _ J J<|by exact .inr rfl).trans s1) ?_
    exact⟨_,J,J,H8⟩
   refine⟨fun f2 w6 V_ eC GS Jd I_ dO=>?_,?_⟩
   ·
    have cV:HI M w w6 ([J0]++eC):=(by have h_:HI M w w6 ([J0]++(eC)):=dO;exact h_)
    refine mv J ((GS 7 J).trans s0) ?_
    exact⟨_,J,J,cV⟩
   refine⟨fun f3 w7 V_ eC gK SN nI dJ=>?_,?_⟩
   ·
    have cM:HI M w w7 ([J0]++eC):=(by have h_:HI M w w7 ([J0]++(eC)):=dJ;exact h_)
    refine mv J ((nI 9 _ J J<|by exact .inr rfl).trans s1) ?_
    exact⟨_,J,J,cM⟩
   refine⟨fun f4 w8 V_ eC Au yP EB dt=>?_,?_⟩
   ·
    obtain⟨e0,q0⟩:=yP 1 _ rfl rfl rfl
    have e1:V_ 1=.slice (some ⟨g0,0,none⟩) ((BitVec.ofInt 64 n).toNat) ((BitVec.ofInt 64 n).toNat):=q0
    have s2:f4 39=.slice (some ⟨g0,0,none⟩) ((BitVec.ofInt 64 n).toNat) ((BitVec.ofInt 64 n).toNat):=e0.trans e1
    obtain⟨e2,q1⟩:=yP 2 _ rfl rfl rfl
    have e3:V_ 2=I (q:Int):=q1
    have s3:f4 40=I (q:Int):=e2.trans e3
    have cR:HI M w w8 ([J0,J1]++eC):=(by have h_:HI M w w8 ([J0]++([J1]++(eC))):=dt;exact h_)
    refine aaV (cR.at_ 1 J) J J s2 s3 aj cG aT ?_
    exact⟨_,J,J,cR⟩
   refine⟨fun f5 w9 V_ eC XN ED EA dw=>?_,?_⟩
   ·
    have cE:HI M w w9 ([J0]++eC):=(by have h_:HI M w w9 ([J0]++(eC)):=dw;exact h_)
    refine mv J ((XN 7 J).trans s0) ?_
    exact⟨_,J,J,cE⟩
   refine⟨fun f6 dM V_ eC hs5 OT hq5 dH=>?_,?_⟩
   ·
    have eP:HI M w dM ([J0]++eC):=(by have h_:HI M w dM ([J0]++(eC)):=dH;exact h_)
    refine mv J ((hq5 9 _ J J<|by exact .inr rfl).trans s1) ?_
    exact⟨_,J,J,eP⟩
   refine⟨fun f7 ee V_ eC hs6 Jc hq6 gr=>?_,?_⟩
   ·
    obtain⟨e4,q2⟩:=Jc 4 _ rfl rfl rfl
    have e5:V_ 4=.slice (some ⟨g0,0,none⟩) ((BitVec.ofInt 64 n).toNat) ((BitVec.ofInt 64 n).toNat):=q2
    have s4:f7 42=.slice (some ⟨g0,0,none⟩) ((BitVec.ofInt 64 n).toNat) ((BitVec.ofInt 64 n).toNat):=e4.trans e5
    obtain⟨e6,q3⟩:=Jc 5 _ rfl rfl rfl
    have e7:V_ 5=I (q:Int):=q3
    have s5:f7 43=I (q:Int):=e6.trans e7
    have iy:HI M w ee ([J0,J1]++eC):=(by have h_:HI M w ee ([J0]++([J1]++(eC))):=gr;exact h_)
    refine aaW (iy.at_ 1 J) J J s4 s5 aj cG aT ?_
    exact⟨_,J,J,iy⟩
   refine⟨fun f8 ft V_ eC hs7 Jb hq7 kY=>?_,?_⟩
   ·
    obtain⟨e8,q4⟩:=Jb 3 _ rfl rfl rfl
    have e9:V_ 3=.slice (mo (some ⟨g0,0,none⟩) ((BitVec.ofInt 64 n).toNat) (q:Int).toNat) (((BitVec.ofInt 64 n).toNat)-(q:Int).toNat) ((BitVec.ofInt 64 n).toNat-(q:Int).toNat):=q4
    have s6:f8 41=.slice (mo (some ⟨g0,0,none⟩) ((BitVec.ofInt 64 n).toNat) (q:Int).toNat) (((BitVec.ofInt 64 n).toNat)-(q:Int).toNat) ((BitVec.ofInt 64 n).toNat-(q:Int).toNat):=e8.trans e9
    obtain⟨TL,q5⟩:=Jb 6 _ rfl rfl rfl
    have sc:V_ 6=.slice (mo (some ⟨g0,0,none⟩) ((BitVec.ofInt 64 n).toNat) 0) ((q:Int).toNat) (BitVec.ofInt 64 n).toNat:=q5
    have s7:f8 44=.slice (mo (some ⟨g0,0,none⟩) ((BitVec.ofInt 64 n).toNat) 0) ((q:Int).toNat) (BitVec.ofInt 64 n).toNat:=TL.trans sc
    have iw:HI M w ft ([J0,J1]++eC):=(by have h_:HI M w ft ([J0]++([J1]++(eC))):=kY;exact h_)
    refine ajw iw 1 J J J J (q:=(q:Int).toNat) s6 s7 cG aT aj ?_
    intro ij (qa:HI M w ij ([J0,J2]++eC))
    exact⟨_,J,J,qa⟩
   refine⟨fun f9 jv V_ eC XM B6 hq8 nP=>?_,?_⟩
   ·
    obtain⟨ta,q6⟩:=B6 0 _ rfl rfl rfl
    have r9:V_ 0=I (q:Int):=q6
    have s8:f9 38=I (q:Int):=ta.trans r9
    obtain⟨tT,q7⟩:=B6 7 _ rfl rfl rfl
    have tS:V_ 7=I ((min ((q:Int).toNat) (ys.length-((q:Int).toNat)):Nat):Int):=q7
    have s9:f9 45=I ((min ((q:Int).toNat) (ys.length-((q:Int).toNat)):Nat):Int):=tT.trans tS
    have jX:HI M w jv ([J0]++eC):=(by have h_:HI M w jv ([J0]++(eC)):=nP;exact h_)
    refine add J J s8 s9 aR ?_
    exact⟨_,J,J,jX⟩
   refine⟨fun f10 nB V_ eC hs9 EC hq9 kX=>?_,?_⟩
   ·
    obtain⟨e16,q8⟩:=EC 8 _ rfl rfl rfl
    have e17:V_ 8=I ((q:Int)+((min ((q:Int).toNat) (ys.length-((q:Int).toNat)):Nat):Int)):=q8
    have eu:f10 46=I ((q:Int)+((min ((q:Int).toNat) (ys.length-((q:Int).toNat)):Nat):Int)):=e16.trans e17
    have AT:HI M w nB ([J0]++eC):=(by have h_:HI M w nB ([J0]++(eC)):=kX;exact h_)
    refine jO J eu ?_
    exact⟨_,J,J,AT⟩
   exact trivial
  ·
   intro f11 rE V_ acn vY vN
   obtain⟨TK,q9⟩:=vY 9 _ rfl rfl
   have e19:V_ 9=I ((q:Int)+((min ((q:Int).toNat) (ys.length-((q:Int).toNat)):Nat):Int)):=q9
   have fb:f11 8=I ((q:Int)+((min ((q:Int).toNat) (ys.length-((q:Int).toNat)):Nat):Int)):=TK.trans e19
   obtain⟨e20,u5⟩:=vY 7 _ rfl rfl
   have e21:V_ 7=I ((min ((q:Int).toNat) (ys.length-((q:Int).toNat)):Nat):Int):=u5
   have fl:=(acn 7 J).trans s0
   have mc:HI M w rE [J0,J2]:=(by have h_:HI M w rE ([J0]++([]++([]++([]++([]++([]++([]++([]++([J2]++([]++([]++([])))))))))))):=vN;exact h_)
   refine aG ?_
   have tW:HI M w rE [J2,J0]:=mc.bX [1,0] au J
   refine bF _ ?_ ⟨(q+min q (ys.length-q)),(FY ys<|(q:Int).toNat),J,fl,(bG fb),tW,aj,(by exact(Wo aj).trans ue),(by exact UU hs ue aj)⟩
   omega
 have p0:=dF b0
 refine ex<|aV<|bc<|bg<|cO<|ai J s0<|ak (v:=.slice (some ⟨g0,0,none⟩) ((BitVec.ofInt 64 n).toNat) ((BitVec.ofInt 64 n).toNat)) J J<|aq<|rt<|r1 J J ?_
 have e0:(ys:aA)=List.replicate n.toNat (xs.headD 0):=by exact Zi hs ue aj aj
 have l0:((BitVec.ofInt 64 n).toNat)=(List.replicate n.toNat (xs.headD 0)).length:=by rw[oG,Db]
 have bu:=iK (fun (vf:Nat)=>(.slice (some ⟨g0,0,none⟩) vf ((BitVec.ofInt 64 n).toNat):Value)) l0
 exact⟨(some ⟨g0,0,none⟩),((BitVec.ofInt 64 n).toNat),bu,H4.below,(am_ (fun (n_:Nat)=>bm _ _ _ (List.replicate n.toNat<|xs.headD 0) (.slice (some ⟨g0,0,none⟩) n_ ((BitVec.ofInt 64 n).toNat)) _) l0).mp ((am_ (fun (x_:aA)=>bm _ _ _ x_ (.slice (some ⟨g0,0,none⟩) ((BitVec.ofInt 64 n).toNat) ((BitVec.ofInt 64 n).toNat)) _) e0).mp (H4.dp 0 J))⟩
theorem afz:cA aI 154:=cI Tryz.func154
theorem afy:cA aI 155:=cI Tryz.func155
theorem R5 (hM:eO M w) (hT:fU 0 w) (ga:aJ mn) (gv:cD M w bD bC mr) (rb:aJ i) (Cd:aJ j) (bZ:bK mn mr=true):Calls aI 115 #[.agg #[I mn,sL bD mr bC],I i,I j] w (cp fun v w'=>∃(a0:OA) (c0:Nat),v=.tuple #[.slice a0 ((fz mn mr i j).getD []).length c0,.bool ((fz mn mr i j).isSome)]∧Ext w w'∧bm M 3 w ((fz mn mr i j).getD []) (.slice a0 ((fz mn mr i j).getD []).length c0) w'):=by
 refine dG 80 Tryz.func115 J J J hM fun f0 ha H=>?_
 let J0:=iL bD mr bC
 have H0:=H.put (it:=J0) J<|by rw[bP];exact gv
 have nz:=bj gv
 have i0:f0 0=.agg #[I mn,sL bD mr bC]:=ha 0 bl
 have i1:f0 1=I i:=ha 1 bl
 have i2:f0 2=I j:=ha 2 bl
 have ue:=(bQ bZ).1;have Jp:=(bQ bZ).2.2.1;have Dg:=kS bZ
 refine az<|k<|bx H0 J i0 ?_
 intro aZ w0 bY (H1:HI M w w0 [box aZ #[I mn,sL bD mr bC] 26,J0])
 let J1:=box aZ #[I mn,sL bD mr bC] 26
 refine ak (v:=.slice none 0 0) J J<|ak (v:=.bool false) J J<|aq<|sq<|az<|ai J i1<|k<|lss J J J J<|ai (v:=.bool (decide (i<0))) J J ?_
 rcases bE (decide (i<0)) with b0|b0
 ·
  have p0:=dT b0
  refine aW J J J b0<|aW J J J b0<|aW J J J b0<|aW J J J b0<|k<|aP J J J J b0 J<|ai (v:=.bool true) J J<|aW J J J J<|aW J J J J<|k<|aP J J J J J J<|ai (v:=.bool true) J J<|aW J J J J<|aW J J J J<|aW J J J J<|aW J J J J<|k<|aP J J J J J J<|aq<|ot J J J<|az<|ak (v:=.slice none 0 0) J J<|ak (v:=.bool false) J J<|aq<|rt<|aK<|r2 J J J ?_
  have e0:([]:aA)=(fz mn mr i j).getD []:=by rw[sO aj];rfl
  have e1:(false:Bool)=(fz mn mr i j).isSome:=by rw[sO aj];rfl
  have bu:=nL (fun (cg:aA) (dY:Bool)=>(.tuple #[.slice none cg.length 0,.bool dY]:Value)) e0 e1
  exact⟨none,0,bu,H1.below,(am_ (fun (x_:aA)=>bm _ _ _ x_ (.slice none x_.length 0) _) e0).mp (fR H1.below)⟩
 have p0:=dF b0
 refine bh J J J b0<|mv J i1<|bh J J J b0<|fa ku J J<|bh J J J b0<|lx H1 0 J aT J J J<|bh J J J b0<|geq J J J J<|k<|dA J J J J b0 J<|ai (v:=.bool (decide (mn≤i))) J J ?_
 rcases bE (decide (mn≤i)) with b1|b1
 ·
  have p1:=dT b1
  refine aW J J J b1<|aW J J J b1<|k<|aP J J J J b1 J<|ai (v:=.bool true) J J<|aW J J J J<|aW J J J J<|aW J J J J<|aW J J J J<|k<|aP J J J J J J<|aq<|ot J J J<|az<|ak (v:=.slice none 0 0) J J<|ak (v:=.bool false) J J<|aq<|rt<|aK<|r2 J J J ?_
  have e0:([]:aA)=(fz mn mr i j).getD []:=by rw[sO aj];rfl
  have e1:(false:Bool)=(fz mn mr i j).isSome:=by rw[sO aj];rfl
  have bu:=nL (fun (cg:aA) (dY:Bool)=>(.tuple #[.slice none cg.length 0,.bool dY]:Value)) e0 e1
  exact⟨none,0,bu,H1.below,(am_ (fun (x_:aA)=>bm _ _ _ x_ (.slice none x_.length 0) _) e0).mp (fR H1.below)⟩
 have p1:=dF b1
 refine bh J J J b1<|mv J i2<|bh J J J b1<|lss J J J J<|k<|dA J J J J b1 J<|ai (v:=.bool (decide (j<0))) J J ?_
 rcases bE (decide (j<0)) with b2|b2
 ·
  have p2:=dT b2
  refine aW J J J b2<|aW J J J b2<|aW J J J b2<|aW J J J b2<|k<|aP J J J J b2 J<|aq<|ot J J J<|az<|ak (v:=.slice none 0 0) J J<|ak (v:=.bool false) J J<|aq<|rt<|aK<|r2 J J J ?_
  have e0:([]:aA)=(fz mn mr i j).getD []:=by rw[sO aj];rfl
  have e1:(false:Bool)=(fz mn mr i j).isSome:=by rw[sO aj];rfl
  have bu:=nL (fun (cg:aA) (dY:Bool)=>(.tuple #[.slice none cg.length 0,.bool dY]:Value)) e0 e1
  exact⟨none,0,bu,H1.below,(am_ (fun (x_:aA)=>bm _ _ _ x_ (.slice none x_.length 0) _) e0).mp (fR H1.below)⟩
 have p2:=dF b2
 refine bh J J J b2<|mv J i2<|bh J J J b2<|fa ku J J<|bh J J J b2<|lx H1 0 J aT J J J<|bh J J J b2<|geq J J J J<|k<|dA J J J J b2 J<|z<|nx<|cd (b:=decide (mn≤j)) J J (fun b3=>?_)<|fun b3=>?_
 ·
  have p3:=dT b3
  refine az<|ak (v:=.slice none 0 0) J J<|ak (v:=.bool false) J J<|aq<|rt<|aK<|r2 J J J ?_
  have e0:([]:aA)=(fz mn mr i j).getD []:=by rw[sO aj];rfl
  have e1:(false:Bool)=(fz mn mr i j).isSome:=by rw[sO aj];rfl
  have bu:=nL (fun (cg:aA) (dY:Bool)=>(.tuple #[.slice none cg.length 0,.bool dY]:Value)) e0 e1
  exact⟨none,0,bu,H1.below,(am_ (fun (x_:aA)=>bm _ _ _ x_ (.slice none x_.length 0) _) e0).mp (fR H1.below)⟩
 have p3:=dF b3
 refine sk<|cO<|k<|bs (xs:=([(-1)]:aA)) (cells:=#[I (-1)]) (e:=3) H1 J (cm J ew) (fun _=>aS) ⟨[I (-1)],[],J,⟨J,(show aJ ((-1)) from aR)⟩,J⟩ J au ?_
 intro g0 w1 cT H2
 refine aQ ku J J<|bq H2 1 J aT J J J<|k ?_
 have H3:=H2.freeze 0 J
 have bS:=PU (xs:=([(-1)]:aA)) (n:=mn) H3.mb (H3.rv 0 J) ga (by rfl) aj<|by exact(bQ bZ).2.2.1
 refine ca afz J (ec J<|ec J e0) bS ?_
 rintro _ w2 ⟨a0,c0,rfl,fk,cw⟩
 have H4:=H3.eT cw
 refine ak (v:=sL a0 (List.replicate mn.toNat<|([(-1)]:aA).headD 0) c0) J J<|aq<|sq ?_
 have C_:((mn.toNat:Nat):Int)=mn:=anP Dg
 refine rg<|ai J i1<|k<|bs (xs:=([i]:aA)) (cells:=#[I i]) (e:=3) H4 J (cm J ew) (fun _=>aS) ⟨[I i],[],J,⟨J,rb⟩,J⟩ J au ?_
 intro g1 w3 fN H5
 refine ak (v:=.slice (some ⟨g1,0,none⟩) 1 1) J J<|aq<|sq<|bk ?_
 let J2:=tH (.slice (some ⟨g0,0,none⟩) 1 1) ([(-1)]:aA)
 have H6:HI M w w3 [nS w.heap.size 3 (.slice (some ⟨g1,0,none⟩) 1 1) ([i]:aA),oL w 3 a0 (List.replicate mn.toNat (([(-1)]:aA).headD 0)) c0,J2,J1,J0]:=H5.toQ 0 J
 let ba:=[tH (.slice (some ⟨g0,0,none⟩) 1 1) ([(-1)]:aA),J1,J0]
 refine lp (fun m f w'=>∃(Hp:aA) (td:aA) (a1:OA) (c1:Nat),m=Hp.count (-1)+td.length∧f 1=I i∧f 2=I j∧f 3=pV aZ 0∧f 8=sL a0 (List.replicate mn.toNat<|([(-1)]:aA).headD 0) c0∧f 9=sL a1 td c1∧HI M w w' (nS w.heap.size 3 (.slice a1 td.length c1) td::own w.heap.size 3 (.slice a0 (List.replicate mn.toNat<|([(-1)]:aA).headD 0).length c0) Hp::ba)∧(Ps mn.toNat (fZ mr) i j Hp td)∧(Hp.length=mn.toNat)∧(Hp.count (-1)+td.length≤mn.toNat+1)) _ ⟨(List.replicate mn.toNat<|([(-1)]:aA).headD 0),[i],(some ⟨g1,0,none⟩),1,J,i1,i2,J,J,J,H6,(by exact T_ aj aj),bl,(by simp[List.count_replicate_self])⟩ ?_
 rintro _ f0 w4 ⟨Hp,td,a1,c1,rfl,s0,s1,s2,s3,s4,H7,hs,hl,B3⟩
 refine sq<|az<|ai J s4<|k<|dD J J cG<|k<|gtr J J J J<|z<|nx<|cd (b:=decide (0<(td.length:Int))) J J (fun b4=>?_)<|fun b4=>?_
 ·
  have p4:=dT b4
  refine sk<|nx<|bk<|az<|ai J s4<|k<|iaQ (H7.at_ 0 J) J J J J aj cG aT ?_
  intro iE x0 aM cz
  refine k<|mw cz aT J J ?_
  intro d_
  refine ak (v:=I x0) J J<|aq<|sq ?_
  have eQ:=ad6 aj hs aM
  refine rg<|ai J s4<|k<|slQ H7 0 J J J J J aj cG aT ?_
  intro a2 c2 (H8:HI M w w4 [nS w.heap.size 3 (.slice a2 (td.drop 1).length c2) (td.drop 1),own w.heap.size 3 (.slice a0 (List.replicate mn.toNat (([(-1)]:aA).headD 0)).length c0) Hp,J2,J1,J0])
  refine ak (v:=sL a2 (td.drop 1) c2) J J<|bz<|aQ iD J s2<|bq H8 3 J lb J J J<|ai (v:=I x0) J J<|k<|ia (H8.rv 4 J) J J J J aj im dm ?_
  intro rK x1 cQ gL
  refine k<|wm gL.w dm J J ?_
  intro a3 c3 dZ
  have Aq:=bj dZ
  have H9:=eG H8 dZ
  refine k ?_
  have cU:=uA (r:=x1) H9.mb (hT.ext H9.below) (H9.rv 0 J)<|by exact(bQ bZ).2.1 _ (dC cQ)
  refine ca Ib J (ec J e0) cU ?_
  rintro _ w5 ⟨a4,c4,rfl,iP,fy⟩
  have dO:=H9.eT fy
  refine k<|dD J J cG<|ai (v:=I 0) J J<|aq<|bk ?_
  let J3:=oL w 3 a4 (cX x1) c4
  refine lp (fun m f w'=>∃(q:Nat) (b2:aA) (qK:aA) (a5:OA) (c5:Nat),m=(cX x1).length-q∧f 1=I i∧f 2=I j∧f 3=pV aZ 0∧f 8=sL a0 (List.replicate mn.toNat<|([(-1)]:aA).headD 0) c0∧f 9=sL a5 qK c5∧f 10=I x0∧f 50=sL a4 (cX x1) c4∧f 51=I ((cX x1).length:Int)∧f 52=I (q:Int)∧HI M w w' (J3::iL a3 x1 c3::nS w.heap.size 3 (.slice a5 qK.length c5) qK::own w.heap.size 3 (.slice a0 (List.replicate mn.toNat<|([(-1)]:aA).headD 0).length c0) b2::ba)∧(q≤(cX x1).length)∧(E2 mn.toNat (fZ mr) i j b2 qK x0 q)∧(b2.length=mn.toNat)∧(b2.count (-1)+qK.length≤Hp.count (-1)+(td.drop 1).length)) _ ⟨0,Hp,(td.drop 1),a2,c2,J,s0,s1,s2,s3,J,J,J,J,(bG J),dO,aj,(by exact aan aj hs aM),(by exact hl),aj⟩ ?_
  rintro _ f1 w6 ⟨q,b2,qK,a5,c5,rfl,s5,s6,s7,s8,s9,eu,fb,fu,fl,cV,sU,gK,oe,VG⟩
  refine az<|k<|lss J J fl fu<|aq<|sq<|cd (b:=decide ((q:Int)<((cX x1).length:Int))) J J (fun b5=>?_)<|fun b5=>?_
  ·
   have p5:=dT b5
   refine sk<|nx<|sq<|bk<|az<|k<|gW (cV.at_ 0 J) J J fb fl (by have h_:=nj x1;have lG:=(bQ bZ).2.2.2.2 _ (dC cQ);first|omega|(unfold aJ;omega)) cG aT ?_
   intro g2 x2 iC jf kV
   refine k<|mw kV aT J J ?_
   intro iT
   refine ak (v:=I x2) J J<|aq<|sq<|sq ?_
   have GX:=RO bZ cQ jf
   refine rg<|ai J s8<|ai (v:=I x2) J J<|k<|gW (cV.at_ 3 J) J J J J aj cG aT ?_
   intro g3 x3 kn nH vw
   refine k<|mw vw aT J J ?_
   intro jS
   refine k<|neq J J J J<|z<|nx<|cd (b:=!decide (x3=(-1))) J J (fun b6=>?_)<|fun b6=>?_
   ·
    have p6:=dF<|gl b6
    refine ex<|aV<|bg<|nx<|rg<|k<|add J J fl J (by have h_:=nj x1;have lG:=(bQ bZ).2.2.2.2 _ (dC cQ);first|omega|(unfold aJ;omega))<|ai (v:=I ((q:Int)+1)) J J<|z<|bF _ ?_ ⟨(q+1),b2,qK,a5,c5,J,s5,s6,s7,s8,s9,eu,fb,fu,(bG J),cV,aj,(by exact WI gK (by rw[←Aa bZ cQ];exact jf) nH aj),(by exact oe),(by exact VG)⟩
    omega
   have p6:=dT<|fA b6
   refine sk<|cO<|ai J s8<|ai (v:=I x2) J J<|ai J eu<|k<|gW (cV.at_ 3 J) J J J J aj cG aT ?_
   intro g4 x4 vk yN wx
   refine k<|oQ cV 3 J vk J aj aT J J J J (RV.int.2 ⟨J,aR⟩) ?_
   let J4:=own w.heap.size 3 (.slice a0 (List.replicate mn.toNat (([(-1)]:aA).headD 0)).length c0) (b2.set x2.toNat x0)
   intro w7 (du:HI M w w7 [J3,iL a3 x1 c3,nS w.heap.size 3 (.slice a5 qK.length c5) qK,J4,J2,J1,J0])
   refine aq<|sq<|az<|ai (v:=I x2) J J<|ai J s6<|k<|eql J J J J<|z<|nx<|cd (b:=decide (x2=j)) J J (fun b7=>?_)<|fun b7=>?_
   ·
    have p7:=dT b7
    refine sq ?_
    obtain⟨w_,ab9,VI⟩:=T9 ⟨by omega,by omega⟩ gK (by rw[←Aa bZ cQ];exact jf) nH aj bo aj
    have Qj:=adZ ab9
    refine rg<|ai J s8<|ai J s5<|ai J s6<|k ?_
    have Dt:((List.replicate mn.toNat (([(-1)]:aA).headD 0)).length:Nat)=(b2.set x2.toNat x0).length:=Fm<|du.at_ 3 J
    let bV:=[tH (.slice (some ⟨g0,0,none⟩) 1 1) ([(-1)]:aA),box aZ #[I mn,sL bD mr bC] 26,iL bD mr bC]
    have dJ:HI M w w7 (oL w 3 a4 (cX x1) c4::iL a3 x1 c3::nS w.heap.size 3 (.slice a5 qK.length c5) qK::oL w 3 a0 (b2.set x2.toNat x0) c0::bV):=(by have h_:HI M w w7 (oL w 3 a4 (cX x1) c4::iL a3 x1 c3::nS w.heap.size 3 (.slice a5 qK.length c5) qK::own w.heap.size 3 (.slice a0 (List.replicate mn.toNat<|([(-1)]:aA).headD 0).length c0) (b2.set x2.toNat x0)::bV):=du;rw[Dt] at h_;exact h_)
    have cM:=dJ.freeze 3 J
    have fP:=R4 (vb:=(b2.set x2.toNat x0)) (i:=i) (j:=j) cM.mb (cM.rv 3 J) rb Cd (by rw[Qj];exact ab9)<|by have h_:=F7 (F5 VI) aj;rw[Qj];unfold rR;rw[anO];omega
    refine ca afy J (ec (aqp (b:=(.slice a0 (List.replicate mn.toNat<|([(-1)]:aA).headD 0).length c0:Value)) J<|am_ (fun n_=>Value.slice a0 n_ c0) Dt)<|ec J<|ec J e0) fP ?_
    rintro _ w8 ⟨a6,c6,rfl,jc,je⟩
    have dU:=cM.eT je
    refine ak (v:=sL a6 (vG (b2.set x2.toNat x0) i j) c6) J J<|ak (v:=.bool true) J J<|aq<|rt<|aK<|bR<|aK<|dX<|bR<|bR<|dX<|bR<|aK<|r2 J J J ?_
    have e0:(vG (b2.set x2.toNat x0) i j:aA)=(fz mn mr i j).getD []:=by rw[Ag aj,VI];first|exact Qj|rfl
    have e1:(true:Bool)=(fz mn mr i j).isSome:=by rw[Ag aj,VI];first|exact Qj|rfl
    have bu:=nL (fun (cg:aA) (dY:Bool)=>(.tuple #[.slice a6 cg.length c6,.bool dY]:Value)) e0 e1
    exact⟨a6,c6,bu,dU.below,(am_ (fun (x_:aA)=>bm _ _ _ x_ (.slice a6 x_.length c6) _) e0).mp (dU.dp 0 J)⟩
   have p7:=dF b7
   refine sk<|cO<|ai (v:=I x2) J J<|ai J s5<|k<|neq J J J J<|z<|nx<|cd (b:=!decide (x2=i)) J J (fun b8=>?_)<|fun b8=>?_
   ·
    have p8:=dF<|gl b8
    refine rg<|ai J s9<|ai (v:=I x2) J J<|k<|bs (xs:=([x2]:aA)) (cells:=#[I x2]) (e:=3) du J (cm J ew) (fun _=>aS) ⟨[I x2],[],J,⟨J,(show aJ (x2) from aR)⟩,J⟩ J au ?_
    intro g5 w8 jc dJ
    refine k<|apQ dJ 3 J J J J J J (gY<|dJ.at_ 0 J) bl cG aT J (by (simp only[iI,gj];have h_:=anz (l:=td) (i:=1);omega)) (by (simp only[iI,gj];have h_:=anz (l:=td) (i:=1);omega)) ?_
    intro a6 c6 w9 (cM:HI M w w9 [own w.heap.size 3 (.slice (some ⟨g5,0,none⟩) 1 1) ([x2]:aA),J3,iL a3 x1 c3,nS w.heap.size 3 (.slice a6 (qK++([x2]:aA)).length c6) (qK++([x2]:aA)),J4,J2,J1,J0])
    refine ak (v:=sL a6 (qK++([x2]:aA)) c6) J J<|z<|aG<|nx<|rg<|k<|add J J fl J (by have h_:=nj x1;have lG:=(bQ bZ).2.2.2.2 _ (dC cQ);first|omega|(unfold aJ;omega))<|ai (v:=I ((q:Int)+1)) J J<|z ?_
    have dU:HI M w w9 [J3,iL a3 x1 c3,nS w.heap.size 3 (.slice a6 (qK++([x2]:aA)).length c6) (qK++([x2]:aA)),J4,J2,J1,J0]:=cM.bX [1,2,3,4,5,6,7] au J
    refine bF _ ?_ ⟨(q+1),(b2.set x2.toNat x0),(qK++([x2]:aA)),a6,c6,J,s5,s6,s7,s8,J,eu,fb,fu,(bG J),dU,aj,(by exact WJ gK (by rw[←Aa bZ cQ];exact jf) nH aj bo bo aj aj),(by rw[am'];exact oe),(by exact(Gy nH aj aj VG).2)⟩
    omega
   have p8:=dT<|fA b8
   refine sk<|aG<|nx<|rg<|k<|add J J fl J (by have h_:=nj x1;have lG:=(bQ bZ).2.2.2.2 _ (dC cQ);first|omega|(unfold aJ;omega))<|ai (v:=I ((q:Int)+1)) J J<|z<|bF _ ?_ ⟨(q+1),(b2.set x2.toNat x0),qK,a5,c5,J,s5,s6,s7,s8,s9,eu,fb,fu,(bG J),du,aj,(by exact af8 gK (by rw[←Aa bZ cQ];exact jf) nH aj bo aj aj),(by rw[am'];exact oe),(by exact(Gy nH aj aj VG).1)⟩
   omega
  have p5:=dF b5
  refine ex<|aV<|bc<|bg<|aG ?_
  have du:HI M w w6 [nS w.heap.size 3 (.slice a5 qK.length c5) qK,own w.heap.size 3 (.slice a0 (List.replicate mn.toNat (([(-1)]:aA).headD 0)).length c0) b2,J2,J1,J0]:=cV.bX [2,3,4,5,6] au J
  refine bF _ ?_ ⟨b2,qK,a5,c5,J,s5,s6,s7,s8,s9,du,(by exact WK gK (by rw[←Aa bZ cQ];omega)),(by exact oe),(by have h_:=anz (l:=td) (i:=1);omega)⟩
  have h_:=anz (l:=td) (i:=1);omega
 have p4:=dF b4
 refine ex<|aV<|bc<|bg<|cO<|ak (v:=.slice none 0 0) J J<|ak (v:=.bool false) J J<|aq<|rt<|r2 J J J ?_
 have e0:([]:aA)=(fz mn mr i j).getD []:=by rw[Ag aj,Pl hs (N6 bo)];try rfl
 have e1:(false:Bool)=(fz mn mr i j).isSome:=by rw[Ag aj,Pl hs (N6 bo)];try rfl
 have bu:=nL (fun (cg:aA) (dY:Bool)=>(.tuple #[.slice none cg.length 0,.bool dY]:Value)) e0 e1
 exact⟨none,0,bu,H7.below,(am_ (fun (x_:aA)=>bm _ _ _ x_ (.slice none x_.length 0) _) e0).mp (fR H7.below)⟩
theorem l8:gR aI 142 1 3:=jU Tryz.underlying142
theorem nQ:ef aI 31 1 false 24 (.slice none 0 0):=⟨aS,aS⟩
theorem AZ:ef aI 175 5 true 40 (.agg #[.int .i64 0,.int .i64 0,.int .i64 0,.int .i64 0,.int .i64 0]):=⟨aS,aS⟩
theorem KL:aI.underlying 31=some (.slice 175):=aS
theorem D7:gR aI 142 2 4:=jU Tryz.underlying142
theorem Ka:ef aI 139 1 false 8 (.map none):=⟨aS,aS⟩
theorem O2:gR aI 175 1 1:=jU Tryz.underlying175
theorem O1:gR aI 175 2 2:=jU Tryz.underlying175
theorem aeV:Pq aI 170 [some (0,0),some (1,0)]:=⟨aS,aS,aS,aS⟩
theorem Kf:IA aI 139:=Vv (by kernel_rfl:aI.underlying 139=some (.map 170 3)) (zD aeV) aT
theorem Ig:gR aI 142 0 0:=jU Tryz.underlying142
theorem Kp:cA aI 117:=cI Tryz.func117
theorem rA:gR aI 142 3 5:=jU Tryz.underlying142
theorem afQ:cA aI 115:=cI Tryz.func115
theorem Yn:cA aI 116:=cI Tryz.func116
theorem NB (ga:aJ mn) (H:HI M w w_ ([iL aw U av,iL ay fo ax,iL bD mr bC]++r)):Calls aI 78 #[.agg #[.slice aC aE aB,sL aw U av,sL ay fo ax],.agg #[I mn,sL bD mr bC]] w_ (cp fun v w'=>∃(YB:Nat) (a0:OA) (c0:Nat) (b1:Nat) (b2:Nat),v=pV YB 0∧HI M w w' ([box YB #[.slice aC aE aB,sL aw U av,sL ay fo ax,.slice a0 ([]:List cN).length c0,.map (some b1),I mn,sL bD mr bC,.map (some b2)] 142,oL w 175 a0 ([]:List cN) c0,cb b1 ([]:KV),bU b2 ([]:List ((Int×Int)×Bool)),iL aw U av,iL ay fo ax,iL bD mr bC]++r)):=by
 refine enter 11 Tryz.func78 J J J fun f0 ha=>?_
 have ja:=bj<|H.rv 0 J
 have kP:=bj<|H.rv 1 J
 have nz:=bj<|H.rv 2 J
 have i0:f0 0=.agg #[.slice aC aE aB,sL aw U av,sL ay fo ax]:=ha 0 bl
 have i1:f0 1=.agg #[I mn,sL bD mr bC]:=ha 1 bl
 refine az<|k<|bx H J i0 ?_
 let J1:=iL aw U av
 let J2:=iL ay fo ax
 let J3:=iL bD mr bC
 let ba:=[J1,J2,J3]
 intro aZ w0 bY (H0:HI M w w0 ((box aZ #[.slice aC aE aB,sL aw U av,sL ay fo ax] 47::ba)++r))
 let J0:=box aZ #[.slice aC aE aB,sL aw U av,sL ay fo ax] 47
 refine k<|bx H0 J i1 ?_
 intro aY w1 cT (H1:HI M w w1 ((box aY #[I mn,sL bD mr bC] 26::J0::ba)++r))
 let J4:=box aY #[I mn,sL bD mr bC] 26
 refine ak (v:=.pointer none) J J<|bz<|k<|cB H1 1 J eh J J au J<|k<|mm H1 ?_
 intro dQ w2 fk (H2:HI M w w2 ((cb dQ ([]:KV)::J4::J0::ba)++r))
 refine k<|cB H2 1 J bp J J au J<|k<|mmP H2 ?_
 let bV:=cb dQ ([]:KV)::J4::J0::ba
 intro fT w3 fN (H3:HI M w w3 ((bU fT ([]:List ((Int×Int)×Bool))::bV)++r))
 refine k<|bd (v:=.agg #[.slice aC aE aB,sL aw U av,sL ay fo ax,.slice none 0 0,.map (some dQ),I mn,sL bD mr bC,.map (some fT)]) J (cm J<|cm J<|cm J<|cm J ew) (fun _=>aS)<|k<|bx H3 J J ?_
 let dz:=bU fT ([]:List ((Int×Int)×Bool))::bV
 intro bJ w4 iP (H4:HI M w w4 ((box bJ #[.slice aC aE aB,sL aw U av,sL ay fo ax,.slice none 0 0,.map (some dQ),I mn,sL bD mr bC,.map (some fT)] 142::dz)++r))
 let J5:=box bJ #[.slice aC aE aB,sL aw U av,sL ay fo ax,.slice none 0 0,.map (some dQ),I mn,sL bD mr bC,.map (some fT)] 142
 refine ak (v:=pV bJ 0) J J<|aq<|rt<|r1 J J ?_
 have H5:=H4.ql cN 175
 let J6:=own w.heap.size 175 (.slice none 0 0) ([]:List cN)
 have H6:=HI.aP (l:=(J6::J5::dz)) (l':=[J5,J6,cb dQ ([]:KV),bU fT ([]:List ((Int×Int)×Bool)),J1,J2,J3]) (t:=r) H5 [1,0,3,2,6,7,8] au J J
 have e0:(([]:List cN):List cN)=([]:List cN):=rfl
 try rw[←e0]
 refine⟨bJ,none,0,dQ,fT,?_,?_⟩
 · first|rfl|simp only[e0]|(simp only[am'])
 · first|exact H6|simpa +zetaDelta only[e0,am'] using H6
theorem yA {k_:Int} {g_:Int} {h_:Int} (ra:aJ pn) (aiz:aJ k_) (FJ:aJ f_) (Ia:aJ t_) (aiB:aJ g_) (aiA:aJ h_) (HX:sp.length≤3000000000000) (H:HI M w w_ ([box cY #[.slice aC aE aB,sL aw U av,sL ay fo ax,sL eB sp eA,.map (some bB),I pn,sL db pr da,.map (some bL)] 142,iL aw U av,iL ay fo ax,oL w 175 eB sp eA,cb bB mp,iL db pr da,bU bL mq]++r)):Calls aI 117 #[pV cY 0,.agg #[I k_,I f_,I t_,I g_,I h_]] w_ (cp fun v w'=>∃(oz:OA) (ou:Nat),v=I ((sp.length:Nat):Int)∧HI M w w' ([box cY #[.slice aC aE aB,sL aw U av,sL ay fo ax,.slice oz (sp++[(k_,f_,t_,g_,h_)]).length ou,.map (some bB),I pn,sL db pr da,.map (some bL)] 142,iL aw U av,iL ay fo ax,oL w 175 oz (sp++[(k_,f_,t_,g_,h_)]) ou,cb bB (js mp (f_,t_) ((sp.length:Nat):Int)),iL db pr da,bU bL mq]++r)):=by
 refine enter 33 Tryz.func117 J J J fun f0 ha=>?_
 have ja:=bj<|H.rv 1 J
 have kP:=bj<|H.rv 2 J
 have DZ:=kj<|H.at_ 3 J
 have D0:=bj<|H.rv 5 J
 have i0:f0 0=pV cY 0:=ha 0 bl
 have i1:f0 1=.agg #[I k_,I f_,I t_,I g_,I h_]:=ha 1 bl
 have acG:(sp++[(k_,f_,t_,g_,h_)]).length=sp.length+1:=by simp
 refine az<|k<|bx H J i1 ?_
 let J1:=box cY #[.slice aC aE aB,sL aw U av,sL ay fo ax,sL eB sp eA,.map (some bB),I pn,sL db pr da,.map (some bL)] 142
 let J2:=iL aw U av
 let J3:=iL ay fo ax
 let J4:=iL db pr da
 let ba:=[cb bB mp,J4,bU bL mq]
 intro aZ w0 bY (H0:HI M w w0 ((box aZ #[I k_,I f_,I t_,I g_,I h_] 175::J1::J2::J3::oL w 175 eB sp eA::ba)++r))
 let J0:=box aZ #[I k_,I f_,I t_,I g_,I h_] 175
 refine ak (v:=I 0) J J<|aq<|sq<|lH [.s,.r,.r,.r,.r,.r,.r,.e,.f,.f,.e] (fun _=>True) J aS (fun _ _=>trivial)<|yq J J<|kq (fun _ _=>mv J i0 e1)<|bH<|kq (fun _ _=>mv J i0 e1)<|bH<|kq (fun _ _=>nc J J e1)<|bH<|kq (fun _ _=>fa l8 J J e1)<|bH<|kq (fun _ x_=>lx (H0.ext x_) 1 J nQ J J J e1)<|bH<|kq (fun _ x_=>cB (H0.ext x_) 0 J AZ J J au J e1)<|zq<|yu J (fun _ v w'=>∃(a0:OA) (c0:Nat),v=sL a0 ([(k_,f_,t_,g_,h_)]:List cN) c0∧RV H0.fS w' (sL a0 ([(k_,f_,t_,g_,h_)]:List cN) c0) ([(k_,f_,t_,g_,h_)]:List cN)) J nh J (fun v_ N_ x_ n_=>?_) ?_
 ·
  have H3:=H0.ext x_
  refine bs (xs:=([(k_,f_,t_,g_,h_)]:List cN)) (cells:=#[I k_,I f_,I t_,I g_,I h_]) (e:=175) H3 J (cm J ew) (fun _=>aS) ⟨[I k_,I f_,I t_,I g_,I h_],[],J,⟨_,_,J,⟨J,aiz⟩,⟨_,_,J,⟨J,FJ⟩,⟨_,_,J,⟨J,Ia⟩,⟨_,_,J,⟨J,aiB⟩,⟨J,aiA⟩⟩⟩⟩⟩,J⟩ J au ?_
  intro g1 w2 fk (H4:HI M w w2 ((own w.heap.size 175 (.slice (some ⟨g1,0,none⟩) 1 1) ([(k_,f_,t_,g_,h_)]:List cN)::J0::J1::J2::J3::oL w 175 eB sp eA::ba)++r))
  have H5:=H4.freeze 0 J
  exact⟨_,J,fk,⟨(some ⟨g1,0,none⟩),1,J,(ly J<|H5.rv 0 J)⟩⟩
 refine ye<|yf J (fun _ _=>nc J J e3)<|yf J (fun _ _=>fa l8 J J e3)<|ye<|yz ?_
 intro w3 f0 _ fN _ _ cx iJ
 have H6:=H0.ext fN
 have s0:=(cx 0 J).trans i0
 have s1:=cx 3 J
 have s2:=cx 10 J
 obtain⟨a1,c1,s3,d_⟩:=iJ 0 _ _ rfl
 let J5:=iL a1 ([(k_,f_,t_,g_,h_)]:List cN) c1
 have H7:=H6.put (it:=J5) J d_
 have s4:=cx 15 J
 refine jw<|lY H7 5 J J J J s2 s3 (H7.rv 0 J).src KL AZ J (by simp only[iI,gj];omega) J ?_
 intro a2 c2 w4 (H9:HI M w w4 ((J5::J0::J1::J2::J3::oL w 175 a2 (sp++([(k_,f_,t_,g_,h_)]:List cN)) c2::ba)++r))
 let J6:=oL w 175 a2 (sp++([(k_,f_,t_,g_,h_)]:List cN)) c2
 refine jw<|bw H9 2 J nQ J J s4 J J J J ?_
 let J7:=box cY #[.slice aC aE aB,sL aw U av,sL ay fo ax,sL a2 (sp++([(k_,f_,t_,g_,h_)]:List cN)) c2,.map (some bB),I pn,sL db pr da,.map (some bL)] 142
 intro w5 (dO:HI M w w5 ((J5::J0::J7::J2::J3::J6::ba)++r))
 refine kz<|cO<|ai J s0<|k<|nc J J<|aQ l8 J J<|bq dO 2 J nQ J J J<|k<|dD J J KL<|k<|sub J J J J aR<|ak (v:=I (((sp++([(k_,f_,t_,g_,h_)]:List cN)).length:Int)-1)) J J<|aq<|sq<|lH [.r,.r,.r,.r,.r,.r,.r,.r,.r,.r,.e] (fun _=>True) J aS (fun _ _=>trivial)<|yq J J<|kq (fun _ _=>mv J s0 e1)<|bH<|kq (fun _ _=>nc J J e1)<|bH<|kq (fun _ _=>fa D7 J J e1)<|bH<|kq (fun _ x_=>lx (dO.ext x_) 2 J Ka J J J e1)<|bH<|kq (fun _ _=>fa O2 J s1 e1)<|bH<|kq (fun _ x_=>lx (dO.ext x_) 1 J aT J J J e1)<|bH<|kq (fun _ _=>fa O1 J s1 e1)<|bH<|kq (fun _ x_=>lx (dO.ext x_) 1 J aT J J J e1)<|bH<|kq (fun _ _=>bd (v:=.agg #[I f_,I t_]) J (cm J<|cm J ew) (fun _=>aS) e1)<|bH<|kq (fun _ _=>mv (v:=I (((sp++([(k_,f_,t_,g_,h_)]:List cN)).length:Int)-1)) J J e1)<|zq<|ye<|yz ?_
 intro w6 f1 _ iP _ _ eD vm
 have cV:=dO.ext iP
 have s5:=eD 5 J
 have s6:=eD 25 J
 have s7:=eD 30 J
 have s8:=eD 31 J
 refine jw<|Xp (k:=(f_,t_)) Kf cV 6 J J J J s6 s7 s8 aR ?_
 let J8:=cb bB (js mp (f_,t_) (((sp++([(k_,f_,t_,g_,h_)]:List cN)).length:Int)-1))
 let bV:=[J7,J2,J3,J6,J8,J4,bU bL mq]
 intro w7 (du:HI M w w7 ((J5::J0::bV)++r))
 refine kz<|cO<|ai J s5<|ak (v:=I (((sp++([(k_,f_,t_,g_,h_)]:List cN)).length:Int)-1)) J J<|aq<|rt<|r1 J J ?_
 have dJ:=HI.aP (l:=(J5::J0::bV)) (l':=bV) (t:=r) du [2,3,4,5,6,7,8] au J J
 have e0:(((sp++([(k_,f_,t_,g_,h_)]:List cN)).length:Int)-1:Int)=((sp.length:Nat):Int):=by rw[acG];omega
 have e1:((sp++([(k_,f_,t_,g_,h_)]:List cN)):List _)=(sp++[(k_,f_,t_,g_,h_)]):=rfl
 have e2:(js mp (f_,t_) (((sp++([(k_,f_,t_,g_,h_)]:List cN)).length:Int)-1):KV)=(js mp (f_,t_) ((sp.length:Nat):Int)):=by rw[acG];congr 1;omega
 try rw[←e0]
 try rw[←e1]
 try rw[←e2]
 refine⟨a2,c2,?_,?_⟩
 · first|rfl|simp only[e0,e1,e2]|(simp only[am'])
 · first|exact dJ|simpa +zetaDelta only[e0,e1,e2,am'] using dJ
theorem Gp (ra:aJ pn) (FJ:aJ f_) (Ia:aJ t_) (HX:sp.length≤2900000000000) (ht_:0≤t_∧t_<((fo.length:Nat):Int)) (H:HI M w w_ ([box cY #[.slice aC aE aB,sL aw U av,sL ay fo ax,sL eB sp eA,.map (some bB),I pn,sL db pr da,.map (some bL)] 142,iL aw U av,iL ay fo ax,oL w 175 eB sp eA,cb bB mp,iL db pr da,bU bL mq]++r)):Calls aI 116 #[pV cY 0,I f_,I t_] w_ (cp fun v w'=>∃(ix:Int) (tu:List cN) (GA:KV) (oz:OA) (ou:Nat),v=I ix∧HI M w w' ([box cY #[.slice aC aE aB,sL aw U av,sL ay fo ax,sL oz tu ou,.map (some bB),I pn,sL db pr da,.map (some bL)] 142,iL aw U av,iL ay fo ax,oL w 175 oz tu ou,cb bB GA,iL db pr da,bU bL mq]++r)∧tu.length≤sp.length+1∧aJ ix):=by
 refine enter 39 Tryz.func116 J J J fun f0 ha=>?_
 have ja:=bj<|H.rv 1 J
 have kP:=bj<|H.rv 2 J
 have DZ:=kj<|H.at_ 3 J
 have D0:=bj<|H.rv 5 J
 have i0:f0 0=pV cY 0:=ha 0 bl
 have i1:f0 1=I f_:=ha 1 bl
 have i2:f0 2=I t_:=ha 2 bl
 refine az<|ak (v:=I 0) J J<|aq<|sq<|az<|ai J i0<|k<|nc J J<|aQ D7 J J<|bq H 0 J Ka J J J<|ai J i1<|ai J i2<|k<|bd (v:=.agg #[I f_,I t_]) J (cm J<|cm J ew) (fun _=>aS)<|k<|Xt (k:=(f_,t_)) Kf H 4 J J J J J ?_
 intro cw
 refine ai (v:=.tuple #[I ((getM mp (f_,t_)).getD 0),.bool ((getM mp (f_,t_)).isSome)]) J J<|k<|xt J J J<|k<|xt J J J<|ak (v:=I ((getM mp (f_,t_)).getD 0)) J J<|ak (v:=.bool ((getM mp (f_,t_)).isSome)) J J<|bz<|ai (v:=.bool ((getM mp (f_,t_)).isSome)) J J<|z<|nx<|cd (b:=(getM mp (f_,t_)).isSome) J J (fun b0=>?_)<|fun b0=>?_
 ·
  refine az<|ai (v:=I ((getM mp (f_,t_)).getD 0)) J J<|ak (v:=I ((getM mp (f_,t_)).getD 0)) J J<|aq<|rt<|aK<|r1 J J ?_
  have e0:((getM mp (f_,t_)).getD 0:Int)=((getM mp (f_,t_)).getD 0):=rfl
  try rw[←e0]
  refine⟨((getM mp (f_,t_)).getD 0),sp,mp,eB,eA,?_,?_,aj,bo⟩
  · first|rfl|simp only[e0]|(simp only[am'])
  · first|exact H|simpa +zetaDelta only[e0,am'] using H
 refine sk<|cO<|ak (v:=I 1) J J<|aq<|sq<|az<|ai J i0<|k<|nc J J<|aQ Ig J J<|aQ tR J J<|bq H 0 J qJ J J J<|ai J i2<|k<|ia (H.rv 2 J) J J J J aj cG aT ?_
 intro iE x0 aM cz
 refine k<|mw cz.w aT J J ?_
 intro d_
 refine ai J i1<|k<|eql J J J J<|z<|nx<|cd (b:=decide (x0=f_)) J J (fun b1=>?_)<|fun b1=>?_
 ·
  refine rg<|ak (v:=I 2) J J<|bz<|ai J i0<|ai (v:=I 2) J J<|ai J i1<|ai J i2<|k<|bd (v:=.agg #[I 2,I f_,I t_,I (-1),I (-1)]) J (cm J<|cm J<|cm J<|cm J<|cm J ew) (fun _=>aS)<|k ?_
  let J0:=box cY #[.slice aC aE aB,sL aw U av,sL ay fo ax,sL eB sp eA,.map (some bB),I pn,sL db pr da,.map (some bL)] 142
  let ba:=[J0,iL aw U av,iL ay fo ax,oL w 175 eB sp eA,cb bB mp,iL db pr da,bU bL mq]
  have H0:HI M w w_ (ba++([]++r)):=HI.aP (l:=ba) (l':=ba) (t:=r) H [0,1,2,3,4,5,6] au J J
  have bS:=yA (cY:=cY) (aC:=aC) (aE:=aE) (aB:=aB) (aw:=aw) (av:=av) (U:=U) (ay:=ay) (ax:=ax) (fo:=fo) (eB:=eB) (eA:=eA) (sp:=sp) (bB:=bB) (mp:=mp) (pn:=pn) (db:=db) (da:=da) (pr:=pr) (bL:=bL) (mq:=mq) (k_:=2) (f_:=f_) (t_:=t_) (g_:=(-1)) (h_:=(-1)) (w:=w) (w_:=w_) (r:=([]++r)) (M:=M) ra aR FJ Ia aR aR aj H0
  refine ca Kp J (ec J<|ec J e0) bS ?_
  rintro _ w0 ⟨a0,c0,rfl,H1⟩
  have H2:HI M w w0 ([box cY #[.slice aC aE aB,sL aw U av,sL ay fo ax,sL a0 (sp++[(2,f_,t_,(-1),(-1))]) c0,.map (some bB),I pn,sL db pr da,.map (some bL)] 142,iL aw U av,iL ay fo ax,oL w 175 a0 (sp++[(2,f_,t_,(-1),(-1))]) c0,cb bB (js mp (f_,t_) ((sp.length:Nat):Int)),iL db pr da,bU bL mq]++r):=H1
  refine ak (v:=I ((sp.length:Nat):Int)) J J<|aq<|rt<|r1 J J ?_
  refine⟨((sp.length:Nat):Int),(sp++[(2,f_,t_,(-1),(-1))]),(js mp (f_,t_) ((sp.length:Nat):Int)),a0,c0,?_,?_,(by simp only[fF,iI,gj];omega),aR⟩
  · first|rfl|simp only[am']
  · first|exact H2|simpa +zetaDelta only[am'] using H2
 refine sk<|cO<|ai J i0<|ai (v:=I 1) J J<|ai J i1<|ai J i2<|k<|bd (v:=.agg #[I 1,I f_,I t_,I (-1),I (-1)]) J (cm J<|cm J<|cm J<|cm J<|cm J ew) (fun _=>aS)<|k ?_
 let J1:=box cY #[.slice aC aE aB,sL aw U av,sL ay fo ax,sL eB sp eA,.map (some bB),I pn,sL db pr da,.map (some bL)] 142
 let bV:=[J1,iL aw U av,iL ay fo ax,oL w 175 eB sp eA,cb bB mp,iL db pr da,bU bL mq]
 have H0:HI M w w_ (bV++([]++r)):=HI.aP (l:=bV) (l':=bV) (t:=r) H [0,1,2,3,4,5,6] au J J
 have bS:=yA (cY:=cY) (aC:=aC) (aE:=aE) (aB:=aB) (aw:=aw) (av:=av) (U:=U) (ay:=ay) (ax:=ax) (fo:=fo) (eB:=eB) (eA:=eA) (sp:=sp) (bB:=bB) (mp:=mp) (pn:=pn) (db:=db) (da:=da) (pr:=pr) (bL:=bL) (mq:=mq) (k_:=1) (f_:=f_) (t_:=t_) (g_:=(-1)) (h_:=(-1)) (w:=w) (w_:=w_) (r:=([]++r)) (M:=M) ra aR FJ Ia aR aR aj H0
 refine ca Kp J (ec J<|ec J e0) bS ?_
 rintro _ w0 ⟨a0,c0,rfl,H1⟩
 have H2:HI M w w0 ([box cY #[.slice aC aE aB,sL aw U av,sL ay fo ax,sL a0 (sp++[(1,f_,t_,(-1),(-1))]) c0,.map (some bB),I pn,sL db pr da,.map (some bL)] 142,iL aw U av,iL ay fo ax,oL w 175 a0 (sp++[(1,f_,t_,(-1),(-1))]) c0,cb bB (js mp (f_,t_) ((sp.length:Nat):Int)),iL db pr da,bU bL mq]++r):=H1
 refine ak (v:=I ((sp.length:Nat):Int)) J J<|aq<|rt<|r1 J J ?_
 refine⟨((sp.length:Nat):Int),(sp++[(1,f_,t_,(-1),(-1))]),(js mp (f_,t_) ((sp.length:Nat):Int)),a0,c0,?_,?_,(by simp only[fF,iI,gj];omega),aR⟩
 · first|rfl|simp only[am']
 · first|exact H2|simpa +zetaDelta only[am'] using H2
theorem mL (ra:aJ pn) (FJ:aJ f_) (Ia:aJ t_) (hT:fU 0 w) (HX:sp.length≤2800000000000) (I':pn=((U.length:Nat):Int)) (ah':fo.length=U.length) (aia:U.length≤64) (uy:bK pn pr=true) (H:HI M w w_ ([box cY #[.slice aC aE aB,sL aw U av,sL ay fo ax,sL eB sp eA,.map (some bB),I pn,sL db pr da,.map (some bL)] 142,iL aw U av,iL ay fo ax,oL w 175 eB sp eA,cb bB mp,iL db pr da,bU bL mq]++r)):Calls aI 79 #[pV cY 0,I f_,I t_] w_ (cp fun v w'=>∃(ix:Int) (tu:List cN) (GA:KV) (oz:OA) (ou:Nat),v=I ix∧HI M w w' ([box cY #[.slice aC aE aB,sL aw U av,sL ay fo ax,sL oz tu ou,.map (some bB),I pn,sL db pr da,.map (some bL)] 142,iL aw U av,iL ay fo ax,oL w 175 oz tu ou,cb bB GA,iL db pr da,bU bL mq]++r)∧tu.length≤sp.length+200∧aJ ix):=by
 refine enter 75 Tryz.func79 J J J fun f0 ha=>?_
 have ja:=bj<|H.rv 1 J
 have kP:=bj<|H.rv 2 J
 have DZ:=kj<|H.at_ 3 J
 have D0:=bj<|H.rv 5 J
 have i0:f0 0=pV cY 0:=ha 0 bl
 have i1:f0 1=I f_:=ha 1 bl
 have i2:f0 2=I t_:=ha 2 bl
 refine az<|ak (v:=I 0) J J<|aq<|sq<|az<|ai J i0<|k<|nc J J<|aQ D7 J J<|bq H 0 J Ka J J J<|ai J i1<|ai J i2<|k<|bd (v:=.agg #[I f_,I t_]) J (cm J<|cm J ew) (fun _=>aS)<|k<|Xt (k:=(f_,t_)) Kf H 4 J J J J J ?_
 intro cw
 refine ai (v:=.tuple #[I ((getM mp (f_,t_)).getD 0),.bool ((getM mp (f_,t_)).isSome)]) J J<|k<|xt J J J<|k<|xt J J J<|ak (v:=I ((getM mp (f_,t_)).getD 0)) J J<|ak (v:=.bool ((getM mp (f_,t_)).isSome)) J J<|bz<|ai (v:=.bool ((getM mp (f_,t_)).isSome)) J J<|z<|nx<|cd (b:=(getM mp (f_,t_)).isSome) J J (fun b0=>?_)<|fun b0=>?_
 ·
  refine az<|ai (v:=I ((getM mp (f_,t_)).getD 0)) J J<|ak (v:=I ((getM mp (f_,t_)).getD 0)) J J<|aq<|rt<|aK<|r1 J J ?_
  have e0:((getM mp (f_,t_)).getD 0:Int)=((getM mp (f_,t_)).getD 0):=rfl
  try rw[←e0]
  refine⟨((getM mp (f_,t_)).getD 0),sp,mp,eB,eA,?_,?_,aj,bo⟩
  · first|rfl|simp only[e0]|(simp only[am'])
  · first|exact H|simpa +zetaDelta only[e0,am'] using H
 refine sk<|cO<|ai J i0<|k<|nc J J<|aQ rA J J<|k<|cB H 0 J bp J J au J<|ai J i1<|ai J i2<|k ?_
 have bS:=R5 (mn:=pn) (mr:=pr) (i:=f_) (j:=t_) (w:=w_) H.mb (hT.ext H.below) ra (H.rv 5 J) FJ Ia<|by exact uy
 refine ca afQ J (ec J<|ec J<|ec J e0) bS ?_
 rintro _ w0 ⟨a0,c0,rfl,bY,d_⟩
 have H0:=H.eT d_
 let J0:=oL w 3 a0 ((fz pn pr f_ t_).getD []) c0
 let J1:=box cY #[.slice aC aE aB,sL aw U av,sL ay fo ax,sL eB sp eA,.map (some bB),I pn,sL db pr da,.map (some bL)] 142
 let J2:=iL aw U av
 let J3:=iL ay fo ax
 let J4:=oL w 175 eB sp eA
 let J5:=iL db pr da
 let ba:=[J1,J2,J3,J4,cb bB mp,J5,bU bL mq]
 have H1:HI M w w0 ((J0::ba)++r):=H0
 refine ai (v:=.tuple #[sL a0 ((fz pn pr f_ t_).getD []) c0,.bool ((fz pn pr f_ t_).isSome)]) J J<|k<|xt J J J<|k<|xt J J J<|ak (v:=sL a0 ((fz pn pr f_ t_).getD []) c0) J J<|ak (v:=.bool ((fz pn pr f_ t_).isSome)) J J<|aq<|sq<|az<|ai (v:=.bool ((fz pn pr f_ t_).isSome)) J J<|k<|jY J J<|z<|nx<|cd (b:=!((fz pn pr f_ t_).isSome)) J J (fun b1=>?_)<|fun b1=>?_
 ·
  refine az<|ak (v:=I (-1)) J J<|aq<|rt<|aK<|r1 J J ?_
  have H2:=HI.aP (l:=(J0::ba)) (l':=ba) (t:=r) H1 [1,2,3,4,5,6,7] au J J
  refine⟨(-1),sp,mp,eB,eA,?_,?_,aj,(by unfold aJ;omega)⟩
  · first|rfl|simp only[am']
  · first|exact H2|simpa +zetaDelta only[am'] using H2
 refine sk<|nx<|sq ?_
 have acJ:(fz pn pr f_ t_).isSome=true:=by simpa using b1
 have amf:=U1 uy acJ
 have acw:=fun (q_:Nat) (x_:Int) (h_:((fz pn pr f_ t_).getD [])[q_]? =some x_)=>U3 uy acJ h_
 refine lH [.r,.r,.r,.r,.r,.r,.r,.e,.e] (fun _=>True) J aS (fun _ _=>trivial)<|yq J J<|kq (fun _ _=>mv J i0 e1)<|bH<|kq (fun _ _=>mv (v:=sL a0 ((fz pn pr f_ t_).getD []) c0) J J e1)<|bH<|oK (H1.at_ 0 J) J J J J aj cG aT ?_
 intro iE x0 aM cz
 refine bH<|ob cz aT J J ?_
 intro dZ
 refine bH<|kq (fun _ _=>mv (v:=sL a0 ((fz pn pr f_ t_).getD []) c0) J J e1)<|bH<|oK (H1.at_ 0 J) J J J J aj cG aT ?_
 intro rK x1 cQ gL
 refine bH<|ob gL aT J J ?_
 intro fy
 refine zq<|ye<|ye<|yz ?_
 intro w1 f0 _ cT _ _ cx iJ
 have H2:=H1.ext cT
 have s0:=(cx 0 J).trans i0
 have s1:=(cx 1 J).trans i1
 have s2:=cx 9 J
 have s3:=cx 39 J
 have s4:=cx 42 J
 have s5:=cx 45 J
 refine jw ?_
 let bV:=[J5,bU bL mq,J0]
 have H3:HI M w w1 (ba++([J0]++r)):=HI.aP (l:=(J0::ba)) (l':=(J1::J2::J3::J4::cb bB mp::bV)) (t:=r) H2 [1,2,3,4,5,6,7,0] au J J
 have cU:=Gp (cY:=cY) (aC:=aC) (aE:=aE) (aB:=aB) (aw:=aw) (av:=av) (U:=U) (ay:=ay) (ax:=ax) (fo:=fo) (eB:=eB) (eA:=eA) (sp:=sp) (bB:=bB) (mp:=mp) (pn:=pn) (db:=db) (da:=da) (pr:=pr) (bL:=bL) (mq:=mq) (f_:=x0) (t_:=x1) (w:=w) (w_:=w1) (r:=([J0]++r)) (M:=M) ra dZ fy aj (by have h_:=acw _ _ cQ;omega) H3
 refine ca Yn J (ec s3<|ec s4<|ec s5 e0) cU ?_
 rintro _ w2 ⟨o0,o1,o2,a1,c1,rfl,H4,q0,q1⟩
 refine jw<|jO (v:=I o0) J J<|kz<|nx<|sq<|az<|ak (v:=I 2) J J<|aq<|bk<|lp (fun m f w'=>∃(j_:Nat) (Ev:Int) (jn:List cN) (oF:KV) (a2:OA) (c2:Nat),m=((fz pn pr f_ t_).getD []).length-j_∧f 0=pV cY 0∧f 1=I f_∧f 9=sL a0 ((fz pn pr f_ t_).getD []) c0∧f 11=I Ev∧f 12=I (j_:Int)∧HI M w w' ((box cY #[.slice aC aE aB,sL aw U av,sL ay fo ax,sL a2 jn c2,.map (some bB),I pn,sL db pr da,.map (some bL)] 142::J2::J3::oL w 175 a2 jn c2::cb bB oF::bV)++r)∧(2≤j_∧j_≤((fz pn pr f_ t_).getD []).length)∧(jn.length+1≤sp.length+2*j_)∧(aJ Ev)) _ ⟨2,o0,o1,o2,a1,c1,J,s0,s1,s2,(bG J),(bG J),H4,aj,aj,bo⟩ ?_
 rintro _ f1 w3 ⟨j_,Ev,jn,oF,a2,c2,rfl,s6,s7,s8,s9,eu,H6,pA,HY,amo⟩
 refine sq<|az<|ai J eu<|ai J s8<|k<|dD J J cG<|k<|lss J J J J<|z<|nx<|cd (b:=decide ((j_:Int)<(((fz pn pr f_ t_).getD []).length:Int))) J J (fun b2=>?_)<|fun b2=>?_
 ·
  have p2:=dT b2
  refine sk<|nx<|sq<|bk<|sq<|lH [.r,.r,.r,.r,.r,.r,.r,.r,.r,.r,.e,.e] (fun _=>True) J aS (fun _ _=>trivial)<|yq J J<|kq (fun _ _=>mv J s6 e1)<|bH<|kq (fun _ _=>mv J s8 e1)<|bH<|kq (fun _ _=>mv J eu e1)<|bH<|kq (fun _ _=>sub J J J J aR e1)<|bH<|oK (H6.at_ 7 J) J J J J aj cG aT ?_
  intro pZ x2 jf kV
  refine bH<|ob kV aT J J ?_
  intro iT
  refine bH<|kq (fun _ _=>mv J s8 e1)<|bH<|kq (fun _ _=>mv J eu e1)<|bH<|oK (H6.at_ 7 J) J J J J aj cG aT ?_
  intro vI x3 nH vw
  refine bH<|ob vw aT J J ?_
  intro jS
  refine zq<|ye<|ye<|yz ?_
  intro w4 f2 _ fk _ _ eD vm
  have H7:=H6.ext fk
  have fb:=(eD 0 J).trans s6
  have fu:=(eD 1 J).trans s7
  have fl:=(eD 9 J).trans s8
  have gi:=(eD 11 J).trans s9
  have gS:=(eD 12 J).trans eu
  have j4:=eD 53 J
  have kJ:=eD 58 J
  have lD:=eD 62 J
  refine jw ?_
  let J6:=box cY #[.slice aC aE aB,sL aw U av,sL ay fo ax,sL a2 jn c2,.map (some bB),I pn,sL db pr da,.map (some bL)] 142
  let dz:=J6::J2::J3::oL w 175 a2 jn c2::cb bB oF::bV
  have H8:HI M w w4 ([J6,J2,J3,oL w 175 a2 jn c2,cb bB oF,J5,bU bL mq]++([J0]++r)):=HI.aP (l:=dz) (l':=dz) (t:=r) H7 [0,1,2,3,4,5,6,7] au J J
  have fP:=Gp (cY:=cY) (aC:=aC) (aE:=aE) (aB:=aB) (aw:=aw) (av:=av) (U:=U) (ay:=ay) (ax:=ax) (fo:=fo) (eB:=a2) (eA:=c2) (sp:=jn) (bB:=bB) (mp:=oF) (pn:=pn) (db:=db) (da:=da) (pr:=pr) (bL:=bL) (mq:=mq) (f_:=x2) (t_:=x3) (w:=w) (w_:=w4) (r:=([J0]++r)) (M:=M) ra iT jS aj (by have h_:=acw _ _ nH;omega) H8
  refine ca Yn J (ec j4<|ec kJ<|ec lD e0) fP ?_
  rintro _ w5 ⟨o3,o4,o5,a3,c3,rfl,H9,q2,q3⟩
  let J7:=box cY #[.slice aC aE aB,sL aw U av,sL ay fo ax,sL a3 o4 c3,.map (some bB),I pn,sL db pr da,.map (some bL)] 142
  let iW:=J7::J2::J3::oL w 175 a3 o4 c3::cb bB o5::bV
  have dO:HI M w w5 (iW++r):=H9
  refine jw<|jO (v:=I o3) J J<|kz<|nx<|rg<|ai J fb<|ai J fu<|ai J fl<|ai J gS<|k<|gW (dO.at_ 7 J) J J J J aj cG aT ?_
  intro g0 x4 iC yN wx
  refine k<|mw wx aT J J ?_
  intro je
  refine ai J gi<|ai (v:=I o3) J J<|k<|bd (v:=.agg #[I 3,I f_,I x4,I Ev,I o3]) J (cm J<|cm J<|cm J<|cm J<|cm J ew) (fun _=>aS)<|k ?_
  have cV:HI M w w5 ([J7,J2,J3,oL w 175 a3 o4 c3,cb bB o5,J5,bU bL mq]++([J0]++r)):=HI.aP (l:=iW) (l':=iW) (t:=r) dO [0,1,2,3,4,5,6,7] au J J
  have eZ:=yA (cY:=cY) (aC:=aC) (aE:=aE) (aB:=aB) (aw:=aw) (av:=av) (U:=U) (ay:=ay) (ax:=ax) (fo:=fo) (eB:=a3) (eA:=c3) (sp:=o4) (bB:=bB) (mp:=o5) (pn:=pn) (db:=db) (da:=da) (pr:=pr) (bL:=bL) (mq:=mq) (k_:=3) (f_:=f_) (t_:=x4) (g_:=Ev) (h_:=o3) (w:=w) (w_:=w5) (r:=([J0]++r)) (M:=M) ra aR FJ je bo bo aj cV
  refine ca Kp J (ec J<|ec J e0) eZ ?_
  rintro _ w6 ⟨a4,c4,rfl,du⟩
  let J8:=box cY #[.slice aC aE aB,sL aw U av,sL ay fo ax,sL a4 (o4++[(3,f_,x4,Ev,o3)]) c4,.map (some bB),I pn,sL db pr da,.map (some bL)] 142
  let J9:=oL w 175 a4 (o4++[(3,f_,x4,Ev,o3)]) c4
  let dR:=cb bB (js o5 (f_,x4) ((o4.length:Nat):Int))
  refine ak (v:=I ((o4.length:Nat):Int)) J J<|z<|aG<|nx<|rg<|ai J gS<|k<|add J J J J aR<|ak (v:=I ((j_:Int)+1)) J J<|z ?_
  have cM:=du.put (it:=J2) J<|du.rv 1 J
  have dt:=cM.put (it:=J3) J<|cM.rv 3 J
  have dI:=dt.put (it:=J5) J<|dt.rv 7 J
  let fm:=J8::J2::J3::J9::dR::bV
  have dw:HI M w w6 ((J5::J3::J2::fm)++r):=dI
  have cE:HI M w w6 (fm++r):=HI.aP (l:=(J5::J3::J2::fm)) (l':=fm) (t:=r) dw [3,2,1,6,7,0,9,10] au J J
  refine bF _ ?_ ⟨(j_+1),((o4.length:Nat):Int),(o4++[(3,f_,x4,Ev,o3)]),(js o5 (f_,x4) ((o4.length:Nat):Int)),a4,c4,J,fb,fu,fl,(bG J),(bG J),cE,aj,(by simp only[fF,iI,gj];omega),(by unfold aJ;omega)⟩
  omega
 refine ex<|aV<|bc<|bg<|cO<|ai J s9<|ak (v:=I Ev) J J<|aq<|rt<|r1 J J ?_
 let eE:=box cY #[.slice aC aE aB,sL aw U av,sL ay fo ax,sL a2 jn c2,.map (some bB),I pn,sL db pr da,.map (some bL)] 142
 have H7:=HI.aP (l:=(eE::J2::J3::oL w 175 a2 jn c2::cb bB oF::bV)) (l':=[eE,J2,J3,oL w 175 a2 jn c2,cb bB oF,J5,bU bL mq]) (t:=r) H6 [0,1,2,3,4,5,6] au J J
 refine⟨Ev,jn,oF,a2,c2,?_,?_,aj,bo⟩
 · first|rfl|simp only[am']
 · first|exact H7|simpa +zetaDelta only[am'] using H7
theorem zK:cA aI 79:=cI Tryz.func79
theorem afx:cA aI 156:=cI Tryz.func156
theorem Bd (ra:aJ pn) (BE:aJ fC) (D2:aJ fE) (BD:aJ gE) (hT:fU 0 w) (HX:sp.length≤2700000000000) (I':pn=((U.length:Nat):Int)) (ah':fo.length=U.length) (aia:U.length≤64) (uy:bK pn pr=true) (H:HI M w w_ ([box cY #[.slice aC aE aB,sL aw U av,sL ay fo ax,sL eB sp eA,.map (some bB),I pn,sL db pr da,.map (some bL)] 142,iL aw U av,iL ay fo ax,oL w 175 eB sp eA,cb bB mp,iL db pr da,bU bL mq]++r)):Calls aI 122 #[pV cY 0,.agg #[I fC,I fE,I gE]] w_ (cp fun v w'=>∃(tu:List cN) (GA:KV) (oz:OA) (ou:Nat),v=.tuple #[]∧HI M w w' ([box cY #[.slice aC aE aB,sL aw U av,sL ay fo ax,sL oz tu ou,.map (some bB),I pn,sL db pr da,.map (some bL)] 142,iL aw U av,iL ay fo ax,oL w 175 oz tu ou,cb bB GA,iL db pr da,bU bL mq]++r)∧tu.length≤sp.length+201):=by
 refine enter 21 Tryz.func122 J J J fun f0 ha=>?_
 have ja:=bj<|H.rv 1 J
 have kP:=bj<|H.rv 2 J
 have DZ:=kj<|H.at_ 3 J
 have D0:=bj<|H.rv 5 J
 have i0:f0 0=pV cY 0:=ha 0 bl
 have i1:f0 1=.agg #[I fC,I fE,I gE]:=ha 1 bl
 refine az<|k<|bx H J i1 ?_
 let J1:=box cY #[.slice aC aE aB,sL aw U av,sL ay fo ax,sL eB sp eA,.map (some bB),I pn,sL db pr da,.map (some bL)] 142
 let J2:=iL aw U av
 let J3:=iL ay fo ax
 let J4:=oL w 175 eB sp eA
 let J5:=iL db pr da
 let ba:=[J1,J2,J3,J4,cb bB mp,J5,bU bL mq]
 intro aZ w0 bY (H0:HI M w w0 ((box aZ #[I fC,I fE,I gE] 122::ba)++r))
 let J0:=box aZ #[I fC,I fE,I gE] 122
 refine bz<|ai J i0<|aQ kR J J<|bq H0 0 J aT J J J<|aQ sZ J J<|bq H0 0 J aT J J J<|k ?_
 let bV:=[J5,bU bL mq,J0]
 have H1:HI M w w0 (ba++([J0]++r)):=HI.aP (l:=(J0::ba)) (l':=(J1::J2::J3::J4::cb bB mp::bV)) (t:=r) H0 [1,2,3,4,5,6,7,0] au J J
 have bS:=mL (cY:=cY) (aC:=aC) (aE:=aE) (aB:=aB) (aw:=aw) (av:=av) (U:=U) (ay:=ay) (ax:=ax) (fo:=fo) (eB:=eB) (eA:=eA) (sp:=sp) (bB:=bB) (mp:=mp) (pn:=pn) (db:=db) (da:=da) (pr:=pr) (bL:=bL) (mq:=mq) (f_:=fC) (t_:=gE) (w:=w) (w_:=w0) (r:=([J0]++r)) (M:=M) ra BE BD hT aj aj aj aj (by exact uy) H1
 refine ca zK J (ec J<|ec J<|ec J e0) bS ?_
 rintro _ w1 ⟨o0,o1,o2,a0,c0,rfl,H2,q0,q1⟩
 let J6:=box cY #[.slice aC aE aB,sL aw U av,sL ay fo ax,sL a0 o1 c0,.map (some bB),I pn,sL db pr da,.map (some bL)] 142
 let dz:=J6::J2::J3::oL w 175 a0 o1 c0::cb bB o2::bV
 have H3:HI M w w1 (dz++r):=H2
 refine ak (v:=I o0) J J<|aq<|rg<|ai J i0<|aQ kR J J<|bq H3 7 J aT J J J<|aQ mZ J J<|bq H3 7 J aT J J J<|ai (v:=I o0) J J<|aQ sZ J J<|bq H3 7 J aT J J J<|k<|bd (v:=.agg #[I 4,I fC,I fE,I o0,I gE]) J (cm J<|cm J<|cm J<|cm J<|cm J ew) (fun _=>aS)<|k ?_
 have H4:HI M w w1 ([J6,J2,J3,oL w 175 a0 o1 c0,cb bB o2,J5,bU bL mq]++([J0]++r)):=HI.aP (l:=dz) (l':=dz) (t:=r) H3 [0,1,2,3,4,5,6,7] au J J
 have cU:=yA (cY:=cY) (aC:=aC) (aE:=aE) (aB:=aB) (aw:=aw) (av:=av) (U:=U) (ay:=ay) (ax:=ax) (fo:=fo) (eB:=a0) (eA:=c0) (sp:=o1) (bB:=bB) (mp:=o2) (pn:=pn) (db:=db) (da:=da) (pr:=pr) (bL:=bL) (mq:=mq) (k_:=4) (f_:=fC) (t_:=fE) (g_:=o0) (h_:=gE) (w:=w) (w_:=w1) (r:=([J0]++r)) (M:=M) ra aR BE D2 bo BD aj H4
 refine ca Kp J (ec J<|ec J e0) cU ?_
 rintro _ w2 ⟨a1,c1,rfl,H5⟩
 let J7:=box cY #[.slice aC aE aB,sL aw U av,sL ay fo ax,sL a1 (o1++[(4,fC,fE,o0,gE)]) c1,.map (some bB),I pn,sL db pr da,.map (some bL)] 142
 let J8:=oL w 175 a1 (o1++[(4,fC,fE,o0,gE)]) c1
 let J9:=cb bB (js o2 (fC,fE) ((o1.length:Nat):Int))
 have H6:HI M w w2 ((J7::J2::J3::J8::J9::bV)++r):=H5
 refine z<|Em J ?_
 have H7:=HI.aP (l:=(J7::J2::J3::J8::J9::bV)) (l':=[J7,J2,J3,J8,J9,J5,bU bL mq]) (t:=r) H6 [0,1,2,3,4,5,6] au J J
 refine⟨(o1++[(4,fC,fE,o0,gE)]),(js o2 (fC,fE) ((o1.length:Nat):Int)),a1,c1,?_,?_,(by simp only[fF,iI,gj];omega)⟩
 · first|rfl|simp only[am']
 · first|exact H7|simpa +zetaDelta only[am'] using H7
theorem yB {zU:OA} {zO:Nat} {es:List (Int×Int×Int)} (ra:aJ pn) (uy:bK pn pr=true) (uJ:∀x∈es,kC pn [x.1,x.2.1]=true) (H:HI M w w_ ([box cY #[.slice aC aE aB,sL aw U av,sL ay fo ax,sL eB sp eA,.map (some bB),I pn,sL db pr da,.map (some bL)] 142,iL aw U av,iL ay fo ax,oL w 175 eB sp eA,cb bB mp,iL db pr da,bU bL mq,iL zU es zO]++r)):Calls aI 120 #[pV cY 0,sL zU es zO] w_ (cp fun v w'=>∃(CG:List (List bt)) (zm:OA) (zf:Nat),v=.tuple #[]∧HI M w w' ([box cY #[.slice aC aE aB,sL aw U av,sL ay fo ax,sL eB sp eA,.map (some bB),I pn,sL zm CG zf,.map (some bL)] 142,iL aw U av,iL ay fo ax,oL w 175 eB sp eA,cb bB mp,iL zm CG zf,bU bL mq,iL zU es zO]++r)∧bK pn CG=true):=by
 refine enter 28 Tryz.func120 J J J fun f0 ha=>?_
 have ja:=bj<|H.rv 1 J
 have kP:=bj<|H.rv 2 J
 have DZ:=kj<|H.at_ 3 J
 have D0:=bj<|H.rv 5 J
 have alC:=bj<|H.rv 7 J
 have i0:f0 0=pV cY 0:=ha 0 bl
 have i1:f0 1=sL zU es zO:=ha 1 bl
 refine az<|ai J i1<|k<|dD J J ey<|ai (v:=I 0) J J<|aq<|bk ?_
 let J0:=iL db pr da
 have H0:=H.put (it:=J0) J<|H.rv 5 J
 let J1:=iL aw U av
 let J2:=iL ay fo ax
 let J3:=oL w 175 eB sp eA
 let J4:=cb bB mp
 let J5:=iL zU es zO
 let ba:=[J1,J2,J3,J4,J0,bU bL mq,J5]
 refine lp (fun m f w'=>∃(j_:Nat) (m_:List (List bt)) (cJ:Int) (a0:OA) (c0:Nat),m=es.length-j_∧f 0=pV cY 0∧f 6=sL zU es zO∧f 7=I (es.length:Int)∧f 8=I (j_:Int)∧HI M w w' ((iL a0 m_ c0::box cY #[.slice aC aE aB,sL aw U av,sL ay fo ax,sL eB sp eA,.map (some bB),I cJ,sL a0 m_ c0,.map (some bL)] 142::ba)++r)∧(j_≤es.length)∧(cJ=pn)∧(bK cJ m_=true)) _ ⟨0,pr,pn,db,da,J,i0,J,J,(bG J),H0,aj,(by rfl),(by exact uy)⟩ ?_
 rintro _ f0 w0 ⟨j_,m_,cJ,a0,c0,rfl,s0,s1,s2,s3,H2,pA,C_,tK⟩
 refine az<|k<|lss J J s3 s2<|aq<|sq<|cd (b:=decide ((j_:Int)<(es.length:Int))) J J (fun b0=>?_)<|fun b0=>?_
 ·
  have p0:=dT b0
  refine sk<|nx<|sq<|bk<|az<|k<|ia (H2.rv 8 J) J J s1 s3 aj ey cL ?_
  intro iE x0 aM cz
  refine k<|nF cz.w cL J J ?_
  intro v0 cw
  obtain⟨_,⟨_,_,rfl,⟨rfl,d_⟩,⟨_,_,rfl,⟨rfl,dZ⟩,⟨rfl,fy⟩⟩⟩,rfl⟩:=cw
  refine k<|al H2 cL ?_
  let J6:=iL a0 m_ c0
  let J7:=box cY #[.slice aC aE aB,sL aw U av,sL ay fo ax,sL eB sp eA,.map (some bB),I cJ,sL a0 m_ c0,.map (some bL)] 142
  intro aZ w1 bY (H3:HI M w w1 ((box aZ #[I 0,I 0,I 0] 122::J6::J7::ba)++r))
  refine k<|bw H3 0 J cL J J J J J J J ?_
  let J8:=box aZ #[I x0.1,I x0.2.1,I x0.2.2] 122
  intro w2 (H4:HI M w w2 ((J8::J6::J7::ba)++r))
  refine z<|nx ?_
  have sE:kC cJ [x0.1,x0.2.1]=true:=by rw[C_];exact uJ x0 (dC aM)
  refine lH [.r,.r,.r,.r,.r,.r,.r,.r,.r,.r,.r,.r,.s,.r,.r,.e] (fun _=>True) J aS (fun _ _=>trivial)<|yq J J<|kq (fun _ _=>mv J s0 e1)<|bH<|kq (fun _ _=>mv J s0 e1)<|bH<|kq (fun _ _=>nc J J e1)<|bH<|kq (fun _ _=>fa rA J J e1)<|bH<|kq (fun _ x_=>cB (H4.ext x_) 2 J bp J J au J e1)<|bH<|kq (fun _ _=>fa kR J J e1)<|bH<|kq (fun _ x_=>lx (H4.ext x_) 0 J aT J J J e1)<|bH<|kq (fun _ _=>fa mZ J J e1)<|bH<|kq (fun _ x_=>lx (H4.ext x_) 0 J aT J J J e1)<|zq<|yu J (fun _ v w'=>∃(a1:OA) (c1:Nat),v=.tuple #[.agg #[I (ir cJ x0.1 x0.2.1),sL a1 (ka cJ m_ x0.1 x0.2.1) c1],I (lI cJ x0.1 x0.2.1)]∧RV H4.fS w' (sL a1 (ka cJ m_ x0.1 x0.2.1) c1) (ka cJ m_ x0.1 x0.2.1)) J nh J (fun v_ _ x_ _=>have cU:=Zz (mn:=cJ) (mr:=m_) (i:=x0.1) (j:=x0.2.1) (w:=v_) (H4.ext x_).mb aR ((H4.ext x_).rv 1 rfl) d_ dZ (by exact(bQ tK).1) (by exact(bQ tK).2.1) (by exact(bQ tK).2.2.1);ca afx rfl (ec J<|ec J<|ec J e0) cU (fun _ w4 ⟨a2,c2,e_,fk,je⟩=>⟨_,J,fk,⟨a2,c2,e_,(bm.rv je (H4.ext x_).mb)⟩⟩))<|lL J (fun _ v w'=>∃(a3:OA) (c3:Nat),v=.tuple #[.agg #[I (ir cJ x0.1 x0.2.1),sL a3 (ka cJ m_ x0.1 x0.2.1) c3],I (lI cJ x0.1 x0.2.1)]∧RV H4.fS w' (sL a3 (ka cJ m_ x0.1 x0.2.1) c3) (ka cJ m_ x0.1 x0.2.1)) 0 J J nh J (fun _ _ _ _ _ h_=>let ⟨a4,c4,s4,nE⟩:=h_;mv rfl s4 ⟨_,J,Ext.refl _,⟨a4,c4,J,nE⟩⟩)<|lL J (fun _ v w'=>∃(a5:OA) (c5:Nat),v=.agg #[I (ir cJ x0.1 x0.2.1),sL a5 (ka cJ m_ x0.1 x0.2.1) c5]∧RV H4.fS w' (sL a5 (ka cJ m_ x0.1 x0.2.1) c5) (ka cJ m_ x0.1 x0.2.1)) 0 J J nh J (fun _ _ _ _ _ h_=>let ⟨a6,c6,s5,oU⟩:=h_;xt rfl s5 rfl ⟨_,J,Ext.refl _,⟨a6,c6,J,oU⟩⟩)<|Rc J (X:=I (lI cJ x0.1 x0.2.1)) 1 J J (fun _ _ _ _ _ h_=>let ⟨a8,c8,s6,qN⟩:=h_;xt rfl s6 rfl e1)<|yq J J<|kq (fun _ _=>nc J J e1)<|bH<|kq (fun _ _=>fa rA J J e1)<|zq<|ye<|yz ?_
  intro w5 f1 _ fN _ _ cx iJ
  have df:=H4.ext fN
  have s7:=(cx 0 J).trans s0
  have s8:=(cx 6 J).trans s1
  have s9:=(cx 7 J).trans s2
  have eu:=(cx 8 J).trans s3
  obtain⟨a9,c9,fb,qM⟩:=iJ 0 _ _ rfl
  let J9:=iL a9 (ka cJ m_ x0.1 x0.2.1) c9
  have dH:=df.put (it:=J9) J qM
  have fu:=cx 26 J
  refine jw<|bw dH 3 J bp J J fu fb J J J ?_
  let dR:=box cY #[.slice aC aE aB,sL aw U av,sL ay fo ax,sL eB sp eA,.map (some bB),I (ir cJ x0.1 x0.2.1),sL a9 (ka cJ m_ x0.1 x0.2.1) c9,.map (some bL)] 142
  intro w6 (ff:HI M w w6 ((J9::J8::J6::dR::ba)++r))
  refine kz<|aG<|nx<|rg<|k<|add J J eu J aR<|ai (v:=I ((j_:Int)+1)) J J<|z ?_
  have gr:=ff.put (it:=J9) J<|ff.rv 0 J
  have iS:=gr.put (it:=J1) J<|gr.rv 5 J
  have iw:=iS.put (it:=J2) J<|iS.rv 7 J
  have qa:HI M w w6 ((J2::J1::J9::J9::J8::J6::dR::ba)++r):=iw
  have j':HI M w w6 ((J9::dR::ba)++r):=HI.aP (l:=(J2::J1::J9::J9::J8::J6::dR::ba)) (l':=(J9::dR::ba)) (t:=r) qa [2,6,1,0,9,10,11,12,13] au J J
  refine bF _ ?_ ⟨(j_+1),(ka cJ m_ x0.1 x0.2.1),(ir cJ x0.1 x0.2.1),a9,c9,J,s7,s8,s9,(bG J),j',aj,(by rw[(qe (rs:=m_) sE).1];exact C_),(by exact RC tK sE)⟩
  omega
 refine ex<|aV<|bc<|bg<|Em J ?_
 let eE:=box cY #[.slice aC aE aB,sL aw U av,sL ay fo ax,sL eB sp eA,.map (some bB),I cJ,sL a0 m_ c0,.map (some bL)] 142
 have H3:=HI.aP (l:=(iL a0 m_ c0::eE::ba)) (l':=[eE,J1,J2,J3,J4,iL a0 m_ c0,bU bL mq,J5]) (t:=r) H2 [1,2,3,4,5,0,7,8] au J J
 have e0:(cJ:Int)=pn:=by exact C_
 try rw[←e0]
 refine⟨m_,a0,c0,?_,?_,(by exact tK)⟩
 · first|rfl|simp only[e0]|(simp only[am'])
 · first|exact H3|simpa +zetaDelta only[e0,am'] using H3
end Go.Proofs.YtgjakhpjmapelaaGreatDoor
