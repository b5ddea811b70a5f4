/- PRINTED by my own tool (wip/tool/gen.py): contracts of Go functions of this seat, each with its proof. -/
import Derived.Test.YtgjakhpjmapelaaGreatDoorVwnB
import Derived.Test.YtgjakhpjmapelaaGreatDoorNenA
import Derived.Test.YtgjakhpjmapelaaGreatDoorVwnC
import Derived.Test.YtgjakhpjmapelaaGreatDoorVwnD
import Derived.Test.YtgjakhpjmapelaaGreatDoorVwnA
set_option linter.unusedVariables false
set_option linter.unusedSimpArgs false
namespace Go.Proofs.YtgjakhpjmapelaaGreatDoor
open Go.Ew Go.RowKit
set_option maxRecDepth 100000
set_option maxHeartbeats 1600000
attribute [local irreducible] WL WC SO PW PX PZ WE Code.wp wpList si cm
attribute [local irreducible] ko xJ jz fk ei AE Dq Ll words eh cY jK fF vJ
variable {M:bY} {w w_:aG}
variable {s:bh} {gb mz aC aw ay bC dU eD de:OA} {ga mS aD aB av eZ ax bB dN cZ eC bA db bK:Nat} {h:List (List (Bool×bh×Int))} {U:List aN} {vr o mn i j n pn f_ t_ fz fC gH:Int} {mr pr:List (List bp)} {l fo xs:aA} {fv:List bh} {r:List Go.Ew.Item} {x y:bp} {sp:List cN} {mp:KV} {mq:List ((Int×Int)×Bool)}
theorem lY:aI.underlying 9=some (.string):=aS
theorem od:aI.underlying 37=some (.slice 40):=aS
theorem rA:ep aI 40 1 false 24 (.slice none 0 0):=⟨aS,aS⟩
theorem mY:aI.underlying 40=some (.slice 43):=aS
theorem ig:ep aI 43 3 true 32 (.agg #[.bool false,.string ⟨#[]⟩,.int .i64 0]):=⟨aS,aS⟩
theorem WR:cx aI 12:=cF Tryz.func12
theorem mx:gR aI 43 1 1:=jT Tryz.underlying43
theorem nU:ep aI 9 1 false 16 (.string ⟨#[]⟩):=⟨aS,aS⟩
theorem ajQ:cx aI 44:=cF Tryz.func44
theorem ajR:cx aI 43:=cF Tryz.func43
theorem Ig:aI.underlying 44=some (.slice 9):=aS
theorem aj8:cx aI 20:=cF Tryz.func20
theorem vt:gR aI 47 0 0:=jT Tryz.underlying47
theorem Ch:ep aI 44 1 false 24 (.slice none 0 0):=⟨aS,aS⟩
theorem ajP:cx aI 48:=cF Tryz.func48
theorem oS:gR aI 43 0 0:=jT Tryz.underlying43
theorem pM:gR aI 43 2 2:=jT Tryz.underlying43
theorem rQ:gR aI 95 4 4:=jT Tryz.underlying95
theorem aeq:cx aI 49:=cF Tryz.func49
theorem QA (ll:s.size≤maxLen):Calls aI 44 #[.string s] w (cm fun v w'=>v=.bool (gT s)∧Ext w w'):=by
 refine dx 28 Tryz.func44 J J J qk fun f0 ha H=>?_
 have i0:f0 0=.string s:=ha 0 bj
 have hS_:s.size≤9223372036854775807:=by have h_:=ll;simp only[maxLen] at h_;exact h_
 refine az<|ak (v:=.bool false) J J<|aq<|sq<|az<|ak (v:=I 0) J J<|aq<|bk<|lp (fun m f w'=>∃(j:Nat),m=s.size-j∧f 0=.string s∧f 3=I (j:Int)∧HI (fun _=>False) w w' []∧(j≤s.size)∧((s.data.toList.take j).all tS=true)) _ ⟨0,J,i0,(bH J),H,aj,(by rfl)⟩ ?_
 rintro _ f0 w0 ⟨j,rfl,s0,s1,H0,hk,hs⟩
 refine sq<|az<|ai J s1<|ai J s0<|k<|vZ J J lY<|k<|lss J J J J<|z<|nx<|cd (b:=decide ((j:Int)<(s.size:Int))) J J (fun b0=>?_)<|fun b0=>?_
 ·
  have p0:=dT b0
  refine sk<|nx<|sq<|bk<|az<|ai J s0<|ai J s1<|k<|ixS J J J J aj lY ?_
  intro c0 sN
  refine k<|lss J J J J<|ai (v:=.bool (decide ((c0.toNat:Int)<97))) J J ?_
  rcases bE (decide ((c0.toNat:Int)<97)) with b1|b1
  ·
   refine aX J J J b1<|aX J J J b1<|aX J J J b1<|aX J J J b1<|k<|aP J J J J b1 J<|aq<|oW J J J<|az<|ak (v:=.bool false) J J<|aq<|rt<|bS<|aL<|dY<|bS<|aL<|r1 J J ?_
   exact⟨an0 Value.bool (by exact O4 sN (acg b1)),H0.below⟩
  have p1:=dF b1
  refine aZ J J J b1<|mv J s0<|aZ J J J b1<|mv J s1<|aZ J J J b1<|ixS J J J J aj lY ?_
  intro c1 yS
  refine aZ J J J b1<|gtr J J J J<|k<|dG J J J J b1 J<|z<|nx<|cd (b:=decide (122<(c1.toNat:Int))) J J (fun b2=>?_)<|fun b2=>?_
  ·
   refine az<|ak (v:=.bool false) J J<|aq<|rt<|bS<|aL<|dY<|bS<|aL<|r1 J J ?_
   exact⟨an0 Value.bool (by exact O4 sN (by have e_:=an5 (yS.symm.trans sN);subst e_;exact ach b2)),H0.below⟩
  have p2:=dF b2
  refine sk<|aF<|nx<|rg<|ai J s1<|k<|add J J J J aR<|ak (v:=I ((j:Int)+1)) J J<|z<|bF _ ?_ ⟨(j+1),J,s0,(bH J),H0,aj,(by exact Gm (PL sN) hs (by have e_:=an5 (yS.symm.trans sN);subst e_;exact aaf b1 b2))⟩
  omega
 have p0:=dF b0
 refine ex<|aT<|aY<|bf<|cO<|ai J s0<|k<|vZ J J lY<|k<|geq J J J J<|ai (v:=.bool (decide (1≤(s.size:Int)))) J J ?_
 rcases bE (decide (1≤(s.size:Int))) with b1|b1
 ·
  have p1:=dT b1
  refine aZ J J J b1<|mv J s0<|aZ J J J b1<|vZ J J lY<|aZ J J J b1<|leq J J J J<|k<|aP J J J J b1 J<|ak (v:=.bool (decide ((s.size:Int)≤8))) J J<|aq<|rt<|r1 J J ?_
  exact⟨an0 Value.bool (by unfold gT;rw[L4 hs aj];first|(rw[show decide (1≤s.size)=true from an6 aj,aoY,aoY,apk];omega)|(rw[show decide (1≤s.size)=false from an' aj];rfl)),H0.below⟩
 have p1:=dF b1
 refine aX J J J b1<|aX J J J b1<|aX J J J b1<|k<|dG J J J J b1 J<|ak (v:=.bool false) J J<|aq<|rt<|r1 J J ?_
 exact⟨an0 Value.bool (by unfold gT;rw[L4 hs aj];first|(rw[show decide (1≤s.size)=true from an6 aj,aoY,aoY,apk];omega)|(rw[show decide (1≤s.size)=false from an' aj];rfl)),H0.below⟩
theorem A8 (hM:eJ M w) (l6:cA M w gb ga h) (mF:h.flatten.length≤1048576):Calls aI 12 #[sL gb h ga] w (cm fun v w'=>∃(a0:OA) (c0:Nat),v=.slice a0 h.flatten.length c0∧Ext w w'∧RV M w' (.slice a0 h.flatten.length c0) h.flatten):=by
 refine dx 18 Tryz.func12 J J J hM fun f0 ha H=>?_
 have H0:=dR H l6
 have Iw:=bg l6
 have i0:f0 0=sL gb h ga:=ha 0 bj
 refine az<|ak (v:=.slice none 0 0) J J<|bw<|ak (v:=.slice none 0 0) J J<|aq<|sq<|az<|ak (v:=I 0) J J<|aq<|bk ?_
 have H1:=H0.qf (Bool×bh×Int) 43
 refine lp (fun m f w'=>∃(j:Nat) (xs:List (Bool×bh×Int)) (a0:OA) (c0:Nat),m=h.length-j∧f 0=sL gb h ga∧f 3=sL a0 xs c0∧f 4=I (j:Int)∧HI M w w' [oL w 43 a0 xs c0,iL gb h ga]∧(j≤h.length)∧(xs=(h.take j).flatten)) _ ⟨0,([]:List (Bool×bh×Int)),none,0,J,i0,J,(bH J),H1,aj,(by rfl)⟩ ?_
 rintro _ f0 w0 ⟨j,xs,a0,c0,rfl,s0,s1,s2,H2,hk,hs⟩
 refine sq<|az<|ai J s2<|ai J s0<|k<|dL J J od<|k<|lss J J J J<|z<|nx<|cd (b:=decide ((j:Int)<(h.length:Int))) J J (fun b0=>?_)<|fun b0=>?_
 ·
  have p0:=dT b0
  refine sk<|nx<|sq<|bk<|rg<|ai J s1<|ai J s0<|ai J s2<|k<|ia (H2.rv 1 J) J J J J aj od rA ?_
  intro iG x0 aM cw
  refine k<|va cw.w rA J J ?_
  intro a1 c1 cu
  have Al:=bg cu
  have H3:=dR H2 cu
  refine k<|lV H3 1 J J J J J J (H3.rv 0 J).src mY ig J (by have h_:=uJ aM;rw[hs];omega) J ?_
  intro a2 c2 w1 (H4:HI M w w1 [iL a1 x0 c1,oL w 43 a2 (xs++x0) c2,iL gb h ga])
  refine ak (v:=sL a2 (xs++x0) c2) J J<|z<|aF<|nx<|rg<|ai J s2<|k<|add J J J J aR<|ak (v:=I ((j:Int)+1)) J J<|z ?_
  have H5:HI M w w1 [oL w 43 a2 (xs++x0) c2,iL gb h ga]:=H4.bV [1,2] au J
  refine bF _ ?_ ⟨(j+1),(xs++x0),a2,c2,J,s0,J,(bH J),H5,aj,(by rw[hs,vo aM])⟩
  omega
 have p0:=dF b0
 refine ex<|aT<|aY<|bf<|cO<|ai J s1<|ak (v:=sL a0 xs c0) J J<|aq<|rt<|r1 J J ?_
 have e0:(xs:List (Bool×bh×Int))=h.flatten:=by rw[hs,mg aj]
 have bq:=iF (fun (b9:List (Bool×bh×Int))=>(.slice a0 b9.length c0:Value)) e0
 exact⟨a0,c0,bq,H2.below,(an0 (fun (x_:List (Bool×bh×Int))=>RV _ _ (.slice a0 x_.length c0) x_) e0).mp (H2.mD 0 J)⟩
theorem NY (hM:eJ M w) (l6:cA M w gb ga h) (mF:h.flatten.length≤1048576):Calls aI 43 #[sL gb h ga] w (cm fun v w'=>v=I (h.flatten.length:Int)∧Ext w w'):=by
 refine dx 6 Tryz.func43 J J J hM fun f0 ha H=>?_
 have H0:=dR H l6
 have i0:f0 0=sL gb h ga:=ha 0 bj
 refine az<|ak (v:=I 0) J J<|bw<|ai J i0<|k ?_
 have bR:=A8 (h:=h) H0.mb (H0.rv 0 J)<|by exact mF
 refine ca WR J (ec J e0) bR ?_
 rintro _ w0 ⟨a0,c0,rfl,bW,cu⟩
 have H1:=H0.ext bW
 have H2:=H1.put (it:=iL a0 h.flatten c0) J cu
 refine k<|dL J J mY<|ak (v:=I (h.flatten.length:Int)) J J<|aq<|rt<|r1 J J ?_
 exact⟨J,H2.below⟩
theorem NX (hM:eJ M w) (l6:cA M w gb ga h) (mF:h.flatten.length≤1048576):Calls aI 20 #[sL gb h ga] w (cm fun v w'=>v=.bool (iM h)∧Ext w w'):=by
 refine dx 23 Tryz.func20 J J J hM fun f0 ha H=>?_
 have H0:=dR H l6
 have Iw:=bg l6
 have i0:f0 0=sL gb h ga:=ha 0 bj
 refine az<|ak (v:=.bool false) J J<|bw<|ai J i0<|k ?_
 have bR:=A8 (h:=h) H0.mb (H0.rv 0 J)<|by exact mF
 refine ca WR J (ec J e0) bR ?_
 rintro _ w0 ⟨a0,c0,rfl,bW,cu⟩
 have H1:=H0.ext bW
 have H2:=H1.put (it:=iL a0 h.flatten c0) J cu
 refine ak (v:=sL a0 h.flatten c0) J J<|aq<|sq<|az<|ak (v:=I 0) J J<|aq<|bk<|lp (fun m f w'=>∃(j:Nat),m=h.flatten.length-j∧f 3=sL a0 h.flatten c0∧f 4=I (j:Int)∧HI M w w' [iL a0 h.flatten c0,iL gb h ga]∧(j≤h.flatten.length)∧((h.flatten.take j).all Ag=true)) _ ⟨0,J,J,(bH J),H2,aj,(by rfl)⟩ ?_
 rintro _ f0 w1 ⟨j,rfl,s0,s1,H3,hk,hs⟩
 refine sq<|az<|ai J s1<|ai J s0<|k<|dL J J mY<|k<|lss J J J J<|z<|nx<|cd (b:=decide ((j:Int)<(h.flatten.length:Int))) J J (fun b0=>?_)<|fun b0=>?_
 ·
  have p0:=dT b0
  refine sk<|nx<|sq<|bk<|az<|ai J s0<|ai J s1<|k<|ia (H3.rv 0 J) J J J J aj mY ig ?_
  intro iG x0 aM cw
  refine aQ mx J J<|k<|Yd ((cw).s1).fst.w nU J J ?_
  intro ee
  refine k ?_
  have cU:=QA (s:=x0.2.1) (w:=w1) bt
  refine ca ajQ J (ec J e0) cU ?_
  rintro _ w2 ⟨rfl,df⟩
  have H4:=H3.ext df
  refine k<|j4 J J<|z<|nx<|cd (b:=!(gT x0.2.1)) J J (fun b1=>?_)<|fun b1=>?_
  ·
   refine az<|ak (v:=.bool false) J J<|aq<|rt<|bS<|aL<|dY<|bS<|aL<|r1 J J ?_
   exact⟨an0 Value.bool (by exact Vy aM (by simpa using b1)),H4.below⟩
  refine sk<|aF<|nx<|rg<|ai J s1<|k<|add J J J J aR<|ak (v:=I ((j:Int)+1)) J J<|z<|bF _ ?_ ⟨(j+1),J,s0,(bH J),H4,aj,(by exact Gm aM hs (by simpa [Ag] using b1))⟩
  omega
 have p0:=dF b0
 refine ex<|aT<|aY<|bf<|cO<|ai J s0<|k<|dL J J mY<|k<|leq J J J J<|ak (v:=.bool (decide ((h.flatten.length:Int)≤4096))) J J<|aq<|rt<|r1 J J ?_
 exact⟨an0 Value.bool (by exact Sq hs aj),H3.below⟩
theorem NW {m:Int} (hM:eJ M w) (l6:cA M w gb ga h) (h_m:aK m) (mF:h.flatten.length≤1048576):Calls aI 19 #[sL gb h ga,I m] w (cm fun v w'=>v=.bool (iJ h m)∧Ext w w'):=by
 refine dx 32 Tryz.func19 J J J hM fun f0 ha H=>?_
 have H0:=dR H l6
 have Iw:=bg l6
 have i0:f0 0=sL gb h ga:=ha 0 bj
 have i1:f0 1=I m:=ha 1 bj
 refine az<|ak (v:=.bool false) J J<|aq<|sq<|az<|ai J i0<|k<|dL J J od<|ai J i1<|k<|gtr J J J J<|ai (v:=.bool (decide (m<(h.length:Int)))) J J ?_
 rcases bE (decide (m<(h.length:Int))) with b0|b0
 ·
  have p0:=dT b0
  refine aX J J J b0<|aX J J J b0<|aX J J J b0<|aX J J J b0<|k<|aP J J J J b0 J<|aq<|oW J J J<|az<|ak (v:=.bool false) J J<|aq<|rt<|aL<|r1 J J ?_
  exact⟨an0 Value.bool (by exact Sb p0),H0.below⟩
 have p0:=dF b0
 refine aZ J J J b0<|mv J i0<|aZ J J J b0 ?_
 have bR:=NY (h:=h) H0.mb (H0.rv 0 J)<|by exact mF
 refine ca ajR J (ec J e0) bR ?_
 rintro _ w0 ⟨rfl,bW⟩
 have H1:=H0.ext bW
 refine aZ J J J b0<|mv J i1<|aZ J J J b0<|gtr J J J J<|k<|dG J J J J b0 J<|z<|nx<|cd (b:=decide (m<(h.flatten.length:Int))) J J (fun b1=>?_)<|fun b1=>?_
 ·
  have p1:=dT b1
  refine az<|ak (v:=.bool false) J J<|aq<|rt<|aL<|r1 J J ?_
  exact⟨an0 Value.bool (by exact Sa p1),H1.below⟩
 have p1:=dF b1
 refine sk<|cO<|ai J i0<|k ?_
 have cU:=A8 (h:=h) H1.mb (H1.rv 0 J)<|by exact mF
 refine ca WR J (ec J e0) cU ?_
 rintro _ w1 ⟨a0,c0,rfl,df,cu⟩
 have H2:=H1.ext df
 have H3:=H2.put (it:=iL a0 h.flatten c0) J cu
 refine ak (v:=sL a0 h.flatten c0) J J<|aq<|sq<|az<|ak (v:=I 0) J J<|aq<|bk<|lp (fun m f w'=>∃(j:Nat),m=h.flatten.length-j∧f 5=sL a0 h.flatten c0∧f 6=I (j:Int)∧HI M w w' [iL a0 h.flatten c0,iL gb h ga]∧(j≤h.flatten.length)∧((h.flatten.take j).all Ae=true)) _ ⟨0,J,J,(bH J),H3,aj,(by rfl)⟩ ?_
 rintro _ f0 w2 ⟨j,rfl,s0,s1,H4,hk,hs⟩
 refine sq<|az<|ai J s1<|ai J s0<|k<|dL J J mY<|k<|lss J J J J<|z<|nx<|cd (b:=decide ((j:Int)<(h.flatten.length:Int))) J J (fun b2=>?_)<|fun b2=>?_
 ·
  have p2:=dT b2
  refine sk<|nx<|sq<|bk<|az<|ai J s0<|ai J s1<|k<|ia (H4.rv 0 J) J J J J aj mY ig ?_
  intro iG x0 aM cw
  refine aQ mx J J<|k<|Yd ((cw).s1).fst.w nU J J ?_
  intro ee
  refine k<|vZ J J lY<|k<|gtr J J J J<|z<|nx<|cd (b:=decide (20<(x0.2.1.size:Int))) J J (fun b3=>?_)<|fun b3=>?_
  ·
   refine az<|ak (v:=.bool false) J J<|aq<|rt<|bS<|aL<|dY<|bS<|aL<|r1 J J ?_
   exact⟨an0 Value.bool (by exact R' aM (by simpa using b3)),H4.below⟩
  have p3:=dF b3
  refine sk<|aF<|nx<|rg<|ai J s1<|k<|add J J J J aR<|ak (v:=I ((j:Int)+1)) J J<|z<|bF _ ?_ ⟨(j+1),J,s0,(bH J),H4,aj,(by exact Gm aM hs (an6 aj))⟩
  omega
 have p2:=dF b2
 refine ex<|aT<|aY<|bf<|cO<|ak (v:=.bool true) J J<|aq<|rt<|r1 J J ?_
 exact⟨an0 Value.bool (by exact Sc p0 p1 hs aj),H4.below⟩
theorem Qz {l:List bh} (hM:eJ M w) (xL:cA M w mz mS l) (ll:s.size≤maxLen):Calls aI 48 #[sL mz l mS,.string s] w (cm fun v w'=>v=I (gE l s)∧Ext w w'):=by
 refine dx 19 Tryz.func48 J J J hM fun f0 ha H=>?_
 have H0:=dR H xL
 have acF:=bg xL
 have i0:f0 0=sL mz l mS:=ha 0 bj
 have i1:f0 1=.string s:=ha 1 bj
 refine az<|ak (v:=I 0) J J<|aq<|sq<|az<|ak (v:=I 0) J J<|aq<|bk<|lp (fun m f w'=>∃(j:Nat),m=l.length-j∧f 0=sL mz l mS∧f 1=.string s∧f 5=I (j:Int)∧HI M w w' [iL mz l mS]∧(j≤l.length)∧((l.take j).any (G_ s)=false)) _ ⟨0,J,i0,i1,(bH J),H0,aj,bj⟩ ?_
 rintro _ f0 w0 ⟨j,rfl,s0,s1,s2,H1,hk,hs⟩
 refine sq<|az<|ai J s2<|ai J s0<|k<|dL J J Ig<|k<|lss J J J J<|z<|nx<|cd (b:=decide ((j:Int)<(l.length:Int))) J J (fun b0=>?_)<|fun b0=>?_
 ·
  have p0:=dT b0
  refine sk<|nx<|sq<|bk<|az<|ai J s0<|ai J s2<|k<|ia (H1.rv 0 J) J J J J aj Ig nU ?_
  intro iG x0 aM cw
  refine k<|Yd cw.w nU J J ?_
  intro cu
  refine ai J s1<|k<|Y' J J J J<|z<|nx<|cd (b:=decide (x0=s)) J J (fun b1=>?_)<|fun b1=>?_
  ·
   refine az<|ai J s2<|ak (v:=I (j:Int)) J J<|aq<|rt<|bS<|aL<|dY<|bS<|aL<|r1 J J ?_
   exact⟨an0 (Value.int .i64) (by exact uA aM hs b1),H1.below⟩
  have p1:=dF b1
  refine sk<|aF<|nx<|rg<|ai J s2<|k<|add J J J J aR<|ak (v:=I ((j:Int)+1)) J J<|z<|bF _ ?_ ⟨(j+1),J,s0,s1,(bH J),H1,aj,(by exact pE aM hs b1)⟩
  omega
 have p0:=dF b0
 refine ex<|aT<|aY<|bf<|cO<|ak (v:=I (-1)) J J<|aq<|rt<|r1 J J ?_
 exact⟨an0 (Value.int .i64) (by exact ve hs aj),H1.below⟩
theorem VC (hM:eJ M w) (l6:cA M w gb ga h) (mF:h.flatten.length≤1048576):Calls aI 23 #[sL gb h ga] w (cm fun v w'=>∃(a0:OA) (c0:Nat) (a1:OA) (c1:Nat) (a2:OA) (c2:Nat),v=.tuple #[.agg #[.slice a0 (mu h).length c0,.slice a1 (cS h).length c1,.slice a2 ([]:aA).length c2],I (lD h)]∧Ext w w'∧RV M w' (.slice a0 (mu h).length c0) (mu h)∧RV M w' (.slice a1 (cS h).length c1) (cS h)∧RV M w' (.slice a2 ([]:aA).length c2) ([]:aA)):=by
 refine dx 66 Tryz.func23 J J J hM fun f0 ha H=>?_
 let J0:=iL gb h ga
 have H0:=H.put (it:=J0) J<|by rw[bP];exact l6
 have Iw:=bg l6
 have i0:f0 0=sL gb h ga:=ha 0 bj
 refine az<|k<|al H0 dQ ?_
 intro aW w0 bW (H1:HI M w w0 [box aW #[.slice none 0 0,.slice none 0 0,.slice none 0 0] 47,J0])
 let J1:=box aW #[.slice none 0 0,.slice none 0 0,.slice none 0 0] 47
 refine ak (v:=I 0) J J<|aq<|sq<|az<|ai J i0<|k ?_
 have bR:=NX (h:=h) H1.mb (H1.rv 1 J)<|by exact mF
 refine ca aj8 J (ec J e0) bR ?_
 rintro _ w1 ⟨rfl,df⟩
 have H2:=H1.ext df
 refine k<|j4 J J<|z<|nx<|cd (b:=!(iM h)) J J (fun b0=>?_)<|fun b0=>?_
 ·
  refine sq ?_
  have hq:iM h=false:=by simpa using b0
  refine rg<|k<|bd (v:=.agg #[.slice none 0 0,.slice none 0 0,.slice none 0 0]) J ew (fun _=>aS)<|k<|bu H2 0 J dQ J J J J J J J ?_
  intro w2 (H3:HI M w w2 [J1,J0])
  refine ak (v:=I 1) J J<|aq<|rt<|aL<|iy H3 0 J dQ J J J J J au ?_
  have e0:([]:List bh)=mu h:=by exact(xr hq).1.symm
  have e1:([]:List aN)=cS h:=by exact(xr hq).2.1.symm
  have e3:(1:Int)=lD h:=by exact(xr hq).2.2.symm
  have bq:=qX (fun (b9:List bh) (dO:List aN) (lL:Int)=>(.tuple #[.agg #[.slice none b9.length 0,.slice none dO.length 0,.slice none ([]:aA).length 0],I lL]:Value)) e0 e1 e3
  exact⟨none,0,none,0,none,0,bq,H3.below,(an0 (fun (x_:List bh)=>RV _ _ (.slice none x_.length 0) x_) e0).mp (eo _ _),(an0 (fun (x_:List aN)=>RV _ _ (.slice none x_.length 0) x_) e1).mp (eo _ _),(eo _ _)⟩
 refine sk<|nx<|sq ?_
 have hq:iM h=true:=by simpa using b0
 refine rg<|k<|al H2 dQ ?_
 intro ba w2 eS (H3:HI M w w2 [box ba #[.slice none 0 0,.slice none 0 0,.slice none 0 0] 47,J1,J0])
 refine aq<|sq<|az<|ak (v:=I 0) J J<|aq<|bk ?_
 have H4:=H3.qf bh 9
 have H5:=H4.qf aN 95
 refine lp (fun m f w'=>∃(i:Nat) (vs:List bh) (aE:List aN) (a0:OA) (c0:Nat) (a1:OA) (c1:Nat),m=h.length-i∧f 0=sL gb h ga∧f 2=pV aW 0∧f 4=pV ba 0∧f 5=I (i:Int)∧HI M w w' [oL w 95 a1 aE c1,oL w 9 a0 vs c0,box ba #[sL a0 vs c0,sL a1 aE c1,.slice none 0 0] 47,J1,J0]∧(i≤h.length)∧(vs=(iD h i).1)∧(aE=(iD h i).2)) _ ⟨0,([]:List bh),([]:List aN),none,0,none,0,J,i0,J,J,(bH J),H5,aj,(by rfl),(by rfl)⟩ ?_
 rintro _ f0 w3 ⟨i,vs,aE,a0,c0,a1,c1,rfl,s0,s1,s2,s3,H6,YA,h1,h2⟩
 refine sq<|az<|ai J s3<|ai J s0<|k<|dL J J od<|k<|lss J J J J<|z<|nx<|cd (b:=decide ((i:Int)<(h.length:Int))) J J (fun b1=>?_)<|fun b1=>?_
 ·
  have p1:=dT b1
  refine sk<|nx<|sq<|bk<|az<|ak (v:=I 0) J J<|aq<|bk<|lp (fun m f w'=>∃(q:Nat) (vs:List bh) (aE:List aN) (a2:OA) (c2:Nat) (a3:OA) (c3:Nat),m=(h.getD i []).length-q∧f 0=sL gb h ga∧f 2=pV aW 0∧f 4=pV ba 0∧f 5=I (i:Int)∧f 6=I (q:Int)∧HI M w w' [oL w 95 a3 aE c3,oL w 9 a2 vs c2,box ba #[sL a2 vs c2,sL a3 aE c3,.slice none 0 0] 47,J1,J0]∧(q≤(h.getD i []).length)∧(vs=(jJ i (iD h i) (h.getD i []) q).1)∧(aE=(jJ i (iD h i) (h.getD i []) q).2)) _ ⟨0,vs,aE,a0,c0,a1,c1,J,s0,s1,s2,s3,(bH J),H6,aj,(by exact h1),(by exact h2)⟩ ?_
  rintro _ f1 w4 ⟨q,vs,aE,a2,c2,a3,c3,rfl,s4,s5,s6,s7,s8,H7,hk,h1,h2⟩
  refine sq<|az<|ai J s8<|ai J s4<|ai J s7<|k<|ia (H7.rv 4 J) J J J J aj od rA ?_
  intro iG x0 aM cw
  refine k<|va cw.w rA J J ?_
  intro a4 c4 cu
  have Al:=bg cu
  let J2:=iL a4 x0 c4
  have H8:=H7.put (it:=J2) J cu
  refine k<|dL J J mY<|k<|lss J J J J<|z<|nx<|cd (b:=decide ((q:Int)<(x0.length:Int))) J J (fun b2=>?_)<|fun b2=>?_
  ·
   have p2:=dT b2
   refine sk<|nx<|sq<|bk<|az<|ai J s4<|ai J s7<|k<|ia (H8.rv 5 J) J J J J aj od rA ?_
   intro ry x1 cQ gN
   refine k<|va gN.w rA J J ?_
   intro a5 c5 ee
   have ln1:=bg ee
   let J3:=iL a5 x1 c5
   have H9:=H8.put (it:=J3) J ee
   refine ai J s8<|k<|ia (H9.rv 0 J) J J J J (by have e_:=ny cQ aM;subst e_;omega) mY ig ?_
   intro ma x2 gZ kf
   refine k<|nz kf.w ig J J ?_
   intro v0 eb
   obtain⟨_,⟨_,_,rfl,rfl,⟨_,_,rfl,⟨rfl,fh⟩,⟨rfl,jd⟩⟩⟩,rfl⟩:=eb
   refine k<|al H9 ig ?_
   let J4:=box ba #[sL a2 vs c2,sL a3 aE c3,.slice none 0 0] 47
   let bc:=[J3,J2,oL w 95 a3 aE c3,oL w 9 a2 vs c2,J4,J1,J0]
   intro bI w5 fH (dE:HI M w w5 (box bI #[.bool false,.string ⟨#[]⟩,I 0] 43::bc))
   refine k<|bu dE 0 J ig J J J J J J J ?_
   let J5:=box bI #[.bool x2.1,.string x2.2.1,I x2.2.2] 43
   intro w6 (cV:HI M w w6 (J5::bc))
   refine bw<|aQ vt J s6<|bo cV 5 J Ch J J J<|aQ mx J J<|bo cV 0 J nU J J J<|k ?_
   have dm:=cV.freeze 4 J
   have cU:=Qz (l:=vs) (s:=x2.2.1) dm.mb (dm.rv 4 J) bt
   refine ca ajP J (ec J<|ec J e0) cU ?_
   rintro _ w7 ⟨rfl,jg⟩
   have cL:=cV.ext jg
   refine ak (v:=I (gE vs x2.2.1)) J J<|aq<|sq<|az<|ai (v:=I (gE vs x2.2.1)) J J<|k<|lss J J J J<|z<|nx<|cd (b:=decide ((gE vs x2.2.1)<0)) J J (fun b3=>?_)<|fun b3=>?_
   ·
    have p3:=dT b3
    refine az<|aQ vt J s6<|bo cL 5 J Ch J J J<|k<|dL J J Ig<|ak (v:=I (vs.length:Int)) J J<|aq<|rg<|aQ vt J s6<|bo cL 5 J Ch J J J<|aQ mx J J<|bo cL 0 J nU J J J<|k<|bs (xs:=([x2.2.1]:List bh)) (cells:=#[.string x2.2.1]) (e:=9) cL J (ck J ew) (fun _=>aS) ⟨[.string x2.2.1],[],J,⟨J,bt⟩,J⟩ J au ?_
    intro g0 w8 jr cH
    refine k<|lV cH 5 J J J J J J (gX<|cH.at_ 0 J) Ig nU J (by have e_:=ny cQ aM;have h_:=pX (k:=q) aM aj;rw[←fy aM,←h1,←h2] at h_;simp only[iS,gA];omega) J ?_
    let J6:=own w.heap.size 9 (.slice (some ⟨g0,0,none⟩) 1 1) ([x2.2.1]:List bh)
    intro a6 c6 w9 (dV:HI M w w9 [J6,J5,J3,J2,oL w 95 a3 aE c3,oL w 9 a6 (vs++([x2.2.1]:List bh)) c6,J4,J1,J0])
    let J7:=oL w 9 a6 (vs++([x2.2.1]:List bh)) c6
    refine aQ vt J s6<|k<|bu dV 6 J Ch J J J J J J J ?_
    let J8:=box ba #[sL a6 (vs++([x2.2.1]:List bh)) c6,sL a3 aE c3,.slice none 0 0] 47
    intro dP (dA:HI M w dP [J6,J5,J3,J2,oL w 95 a3 aE c3,J7,J8,J1,J0])
    refine aq<|rg<|aQ fE J s6<|bo dA 6 J jh J J J<|ai J s7<|ai J s8<|aQ oS J J<|bo dA 1 J pe J J J<|ai (v:=I (vs.length:Int)) J J<|aQ pM J J<|bo dA 1 J aU J J J<|k<|bd (v:=.agg #[I (i:Int),I (q:Int),.bool x2.1,I (vs.length:Int),I x2.2.2]) J (ck J<|ck J<|ck J<|ck J<|ck J ew) (fun _=>aS)<|k<|bs (xs:=([((i:Int),(q:Int),x2.1,(vs.length:Int),x2.2.2)]:List aN)) (cells:=#[I (i:Int),I (q:Int),.bool x2.1,I (vs.length:Int),I x2.2.2]) (e:=95) dA J (ck J ew) (fun _=>aS) ⟨[I (i:Int),I (q:Int),.bool x2.1,I (vs.length:Int),I x2.2.2],[],J,⟨_,_,J,⟨J,(show aK ((i:Int)) from aR)⟩,⟨_,_,J,⟨J,(show aK ((q:Int)) from aR)⟩,⟨_,_,J,J,⟨_,_,J,⟨J,(show aK ((vs.length:Int)) from(by have e_:=ny cQ aM;have h3:=pX (k:=q) aM aj;rw[←fy aM,←h1,←h2] at h3;unfold aK;omega))⟩,⟨J,(show aK (x2.2.2) from aR)⟩⟩⟩⟩⟩,J⟩ J au ?_
    intro g1 ey kr cT
    refine k<|lV cT 5 J J J J J J (gX<|cT.at_ 0 J) jA jE J (by have e_:=ny cQ aM;have h_:=pX (k:=q) aM aj;rw[←fy aM,←h1,←h2] at h_;simp only[iS,gA];omega) J ?_
    let J9:=own w.heap.size 95 (.slice (some ⟨g1,0,none⟩) 1 1) ([((i:Int),(q:Int),x2.1,(vs.length:Int),x2.2.2)]:List aN)
    intro a7 c7 fq (dX:HI M w fq [J9,J6,J5,J3,J2,oL w 95 a7 (aE++([((i:Int),(q:Int),x2.1,(vs.length:Int),x2.2.2)]:List aN)) c7,J7,J8,J1,J0])
    let dZ:=oL w 95 a7 (aE++([((i:Int),(q:Int),x2.1,(vs.length:Int),x2.2.2)]:List aN)) c7
    refine aQ fE J s6<|k<|bu dX 7 J jh J J J J J J J ?_
    let eL:=box ba #[sL a6 (vs++([x2.2.1]:List bh)) c6,sL a7 (aE++([((i:Int),(q:Int),x2.1,(vs.length:Int),x2.2.2)]:List aN)) c7,.slice none 0 0] 47
    intro iQ (dI:HI M w iQ [J9,J6,J5,J3,J2,dZ,J7,eL,J1,J0])
    refine z<|aF<|nx<|rg<|ai J s8<|k<|add J J J J aR<|ak (v:=I ((q:Int)+1)) J J<|z ?_
    have cG:HI M w iQ [dZ,J7,eL,J1,J0]:=dI.bV [5,6,7,8,9] au J
    refine bF _ ?_ ⟨(q+1),(vs++([x2.2.1]:List bh)),(aE++([((i:Int),(q:Int),x2.1,(vs.length:Int),x2.2.2)]:List aN)),a6,c6,a7,c7,J,s4,s5,s6,s7,(bH J),cG,(by rw[fy aM];omega),(by rw[h1] at *;have e_:=ny cQ aM;subst e_;rw[fy aM] at *;first|exact(xg gZ p3).1|exact(xf gZ p3).1),(by rw[h1,h2] at *;have e_:=ny cQ aM;subst e_;rw[fy aM] at *;first|exact(xg gZ p3).2|exact(xf gZ p3).2)⟩
    rw[fy aM];omega
   have p3:=dF b3
   refine sk<|nx<|rg<|aQ fE J s6<|bo cL 5 J jh J J J<|ai J s7<|ai J s8<|aQ oS J J<|bo cL 0 J pe J J J<|ai (v:=I (gE vs x2.2.1)) J J<|aQ pM J J<|bo cL 0 J aU J J J<|k<|bd (v:=.agg #[I (i:Int),I (q:Int),.bool x2.1,I (gE vs x2.2.1),I x2.2.2]) J (ck J<|ck J<|ck J<|ck J<|ck J ew) (fun _=>aS)<|k<|bs (xs:=([((i:Int),(q:Int),x2.1,gE vs x2.2.1,x2.2.2)]:List aN)) (cells:=#[I (i:Int),I (q:Int),.bool x2.1,I (gE vs x2.2.1),I x2.2.2]) (e:=95) cL J (ck J ew) (fun _=>aS) ⟨[I (i:Int),I (q:Int),.bool x2.1,I (gE vs x2.2.1),I x2.2.2],[],J,⟨_,_,J,⟨J,(show aK ((i:Int)) from aR)⟩,⟨_,_,J,⟨J,(show aK ((q:Int)) from aR)⟩,⟨_,_,J,J,⟨_,_,J,⟨J,(show aK (gE vs x2.2.1) from(by have h_:=wC (p:=G_ x2.2.1) (r:=vs);have e_:=ny cQ aM;have h3:=pX (k:=q) aM aj;rw[←fy aM,←h1,←h2] at h3;unfold gE;unfold aK;omega))⟩,⟨J,(show aK (x2.2.2) from aR)⟩⟩⟩⟩⟩,J⟩ J au ?_
   intro g0 w8 jr cH
   refine k<|lV cH 4 J J J J J J (gX<|cH.at_ 0 J) jA jE J (by have e_:=ny cQ aM;have h_:=pX (k:=q) aM aj;rw[←fy aM,←h1,←h2] at h_;simp only[iS,gA];omega) J ?_
   let gf:=own w.heap.size 95 (.slice (some ⟨g0,0,none⟩) 1 1) ([((i:Int),(q:Int),x2.1,gE vs x2.2.1,x2.2.2)]:List aN)
   intro a6 c6 w9 (dV:HI M w w9 [gf,J5,J3,J2,oL w 95 a6 (aE++([((i:Int),(q:Int),x2.1,gE vs x2.2.1,x2.2.2)]:List aN)) c6,oL w 9 a2 vs c2,J4,J1,J0])
   let fN:=oL w 95 a6 (aE++([((i:Int),(q:Int),x2.1,gE vs x2.2.1,x2.2.2)]:List aN)) c6
   refine aQ fE J s6<|k<|bu dV 6 J jh J J J J J J J ?_
   let iH:=box ba #[sL a2 vs c2,sL a6 (aE++([((i:Int),(q:Int),x2.1,gE vs x2.2.1,x2.2.2)]:List aN)) c6,.slice none 0 0] 47
   intro dP (dA:HI M w dP [gf,J5,J3,J2,fN,oL w 9 a2 vs c2,iH,J1,J0])
   refine z<|aF<|nx<|rg<|ai J s8<|k<|add J J J J aR<|ak (v:=I ((q:Int)+1)) J J<|z ?_
   have cT:HI M w dP [fN,oL w 9 a2 vs c2,iH,J1,J0]:=dA.bV [4,5,6,7,8] au J
   refine bF _ ?_ ⟨(q+1),vs,(aE++([((i:Int),(q:Int),x2.1,gE vs x2.2.1,x2.2.2)]:List aN)),a2,c2,a6,c6,J,s4,s5,s6,s7,(bH J),cT,(by rw[fy aM];omega),(by rw[h1] at *;have e_:=ny cQ aM;subst e_;rw[fy aM] at *;first|exact(xg gZ p3).1|exact(xf gZ p3).1),(by rw[h1,h2] at *;have e_:=ny cQ aM;subst e_;rw[fy aM] at *;first|exact(xg gZ p3).2|exact(xf gZ p3).2)⟩
   rw[fy aM];omega
  have p2:=dF b2
  refine ex<|aT<|aY<|bf<|aF<|nx<|rg<|ai J s7<|k<|add J J J J aR<|ak (v:=I ((i:Int)+1)) J J<|z ?_
  have H9:HI M w w4 [oL w 95 a3 aE c3,oL w 9 a2 vs c2,box ba #[sL a2 vs c2,sL a3 aE c3,.slice none 0 0] 47,J1,J0]:=H8.bV [1,2,3,4,5] au J
  refine bF _ ?_ ⟨(i+1),vs,aE,a2,c2,a3,c3,J,s4,s5,s6,(bH J),H9,aj,(by rw[h1,BH aj (by rw[fy aM];omega)]),(by rw[h2,BH aj (by rw[fy aM];omega)])⟩
  omega
 have p1:=dF b1
 refine ex<|aT<|aY<|bf<|cO<|k<|cB H6 2 J dQ J s2 au J<|k<|bu H6 3 J dQ J J s1 J J J J ?_
 intro w4 (H7:HI M w w4 [oL w 95 a1 aE c1,oL w 9 a0 vs c0,box ba #[sL a0 vs c0,sL a1 aE c1,.slice none 0 0] 47,box aW #[sL a0 vs c0,sL a1 aE c1,.slice none 0 0] 47,J0])
 refine ak (v:=I 0) J J<|aq<|rt<|iy H7 3 J dQ J J J s1 J au ?_
 have e0:(vs:List bh)=mu h:=by rw[(rX hq).1,h1];unfold yW;rw[show i=h.length from by omega]
 have e1:(aE:List aN)=cS h:=by rw[(rX hq).2.1,h2];unfold gq;rw[show i=h.length from by omega]
 have e3:(0:Int)=lD h:=by exact(rX hq).2.2.symm
 have bq:=qX (fun (b9:List bh) (dO:List aN) (lL:Int)=>(.tuple #[.agg #[.slice a0 b9.length c0,.slice a1 dO.length c1,.slice none ([]:aA).length 0],I lL]:Value)) e0 e1 e3
 exact⟨a0,c0,a1,c1,none,0,bq,H7.below,(an0 (fun (x_:List bh)=>RV _ _ (.slice a0 x_.length c0) x_) e0).mp (H7.mD 1 J),(an0 (fun (x_:List aN)=>RV _ _ (.slice a1 x_.length c1) x_) e1).mp (H7.mD 0 J),(eo _ _)⟩
theorem Es {val:Int} (hM:eJ M w) (dC:cA M w aw av U) (adT:aK vr) (amI:aK val):Calls aI 49 #[.agg #[.slice aC aD aB,sL aw U av,.slice ay eZ ax],I vr,I val] w (cm fun v w'=>v=.tuple #[I (max (gv U vr val) 0),.bool (decide (0≤gv U vr val))]∧Ext w w'):=by
 refine dx 43 Tryz.func49 J J J hM fun f0 ha H=>?_
 have H0:=dR H dC
 have ja:=bg dC
 have i0:f0 0=.agg #[.slice aC aD aB,sL aw U av,.slice ay eZ ax]:=ha 0 bj
 have i1:f0 1=I vr:=ha 1 bj
 have i2:f0 2=I val:=ha 2 bj
 refine az<|k<|bx H0 J i0 ?_
 intro aW w0 bW (H1:HI M w w0 [box aW #[.slice aC aD aB,sL aw U av,.slice ay eZ ax] 47,iL aw U av])
 refine ak (v:=I 0) J J<|ak (v:=.bool false) J J<|aq<|sq<|az<|ak (v:=I 0) J J<|aq<|bk<|lp (fun m f w'=>∃(j:Nat),m=U.length-j∧f 1=I vr∧f 2=I val∧f 3=pV aW 0∧f 8=I (j:Int)∧HI M w w' [box aW #[.slice aC aD aB,sL aw U av,.slice ay eZ ax] 47,iL aw U av]∧(j≤U.length)∧((U.take j).any (kS vr val)=false)) _ ⟨0,J,i1,i2,J,(bH J),H1,aj,bj⟩ ?_
 rintro _ f0 w1 ⟨j,rfl,s0,s1,s2,s3,H2,hk,hs⟩
 refine sq<|az<|ai J s3<|aQ fE J s2<|bo H2 0 J jh J J J<|k<|dL J J jA<|k<|lss J J J J<|z<|nx<|cd (b:=decide ((j:Int)<(U.length:Int))) J J (fun b0=>?_)<|fun b0=>?_
 ·
  have p0:=dT b0
  refine sk<|nx<|sq<|bk<|az<|aQ fE J s2<|bo H2 0 J jh J J J<|ai J s3<|k<|ia (H2.rv 1 J) J J J J aj jA jE ?_
  intro iG x0 aM cw
  refine aQ vq J J<|k<|ldB ((cw).s2).fst.w pe J J<|ai (v:=.bool x0.2.2.1) J J ?_
  rcases bE (x0.2.2.1) with b1|b1
  ·
   refine aZ J J J b1<|fa fE J s2<|aZ J J J b1<|lx H2 0 J jh J J J<|aZ J J J b1<|mv J s3<|aZ J J J b1<|ia (H2.rv 1 J) J J J J aj jA jE ?_
   intro ry x1 cQ gN
   refine aZ J J J b1<|fa tC J J<|aZ J J J b1<|mP ((gN).s3).fst.w aU J J ?_
   intro cu
   refine aZ J J J b1<|mv J s0<|aZ J J J b1<|eql J J J J<|k<|aP J J J J b1 J<|ai (v:=.bool (decide (x1.2.2.2.1=vr))) J J ?_
   rcases bE (decide (x1.2.2.2.1=vr)) with b2|b2
   ·
    have p2:=dT b2
    refine aZ J J J b2<|fa fE J s2<|aZ J J J b2<|lx H2 0 J jh J J J<|aZ J J J b2<|mv J s3<|aZ J J J b2<|ia (H2.rv 1 J) J J J J aj jA jE ?_
    intro ma x2 gZ kf
    refine aZ J J J b2<|fa rQ J J<|aZ J J J b2<|mP (kf).s4.w aU J J ?_
    intro ee
    refine aZ J J J b2<|mv J s1<|aZ J J J b2<|eql J J J J<|k<|aP J J J J b2 J<|z<|nx<|cd (b:=decide (x2.2.2.2.2=val)) J J (fun b3=>?_)<|fun b3=>?_
    ·
     refine az<|ai J s3<|ak (v:=I (j:Int)) J J<|ak (v:=.bool true) J J<|aq<|rt<|bS<|aL<|dY<|bS<|aL<|r2 J J J ?_
     have e0:((j:Int):Int)=(max (gv U vr val) 0):=by have e1:=ny cQ aM;subst e1;have e2:=ny gZ aM;subst e2;have h_:=RQ aM b1 b2 b3 hs;omega
     have e1:(true:Bool)=decide (0≤gv U vr val):=by have e1:=ny cQ aM;subst e1;have e2:=ny gZ aM;subst e2;have h_:=RQ aM b1 b2 b3 hs;symm;rw[an2];omega
     have bq:=nG (fun (b9:Int) (dO:Bool)=>(.tuple #[I b9,.bool dO]:Value)) e0 e1
     exact⟨bq,H2.below⟩
    have p3:=dF b3
    refine sk<|aF<|nx<|rg<|ai J s3<|k<|add J J J J aR<|ak (v:=I ((j:Int)+1)) J J<|z<|bF _ ?_ ⟨(j+1),J,s0,s1,s2,(bH J),H2,aj,(by have e1:=ny cQ aM;subst e1;first|exact pE aM hs (O_ b2)|(have e2:=ny gZ aM;subst e2;exact pE aM hs (O9 b3)))⟩
    omega
   have p2:=dF b2
   refine aX J J J b2<|aX J J J b2<|aX J J J b2<|aX J J J b2<|aX J J J b2<|aX J J J b2<|aX J J J b2<|aX J J J b2<|k<|dG J J J J b2 J<|aq<|pk J J J<|sk<|aF<|nx<|rg<|ai J s3<|k<|add J J J J aR<|ak (v:=I ((j:Int)+1)) J J<|z<|bF _ ?_ ⟨(j+1),J,s0,s1,s2,(bH J),H2,aj,(by have e1:=ny cQ aM;subst e1;first|exact pE aM hs (O_ b2)|(have e2:=ny gZ aM;subst e2;exact pE aM hs (O9 b3)))⟩
   omega
  refine aX J J J b1<|aX J J J b1<|aX J J J b1<|aX J J J b1<|aX J J J b1<|aX J J J b1<|aX J J J b1<|aX J J J b1<|k<|dG J J J J b1 J<|ai (v:=.bool false) J J<|aX J J J J<|aX J J J J<|aX J J J J<|aX J J J J<|aX J J J J<|aX J J J J<|aX J J J J<|aX J J J J<|k<|dG J J J J J J<|aq<|pk J J J<|sk<|aF<|nx<|rg<|ai J s3<|k<|add J J J J aR<|ak (v:=I ((j:Int)+1)) J J<|z<|bF _ ?_ ⟨(j+1),J,s0,s1,s2,(bH J),H2,aj,(by exact pE aM hs (aay b1))⟩
  omega
 have p0:=dF b0
 refine ex<|aT<|aY<|bf<|cO<|ak (v:=I 0) J J<|ak (v:=.bool false) J J<|aq<|rt<|r2 J J J ?_
 have e0:(0:Int)=(max (gv U vr val) 0):=by have h_:=Ol hs aj;omega
 have e1:(false:Bool)=decide (0≤gv U vr val):=by have h_:=Ol hs aj;symm;rw[aob];omega
 have bq:=nG (fun (b9:Int) (dO:Bool)=>(.tuple #[I b9,.bool dO]:Value)) e0 e1
 exact⟨bq,H2.below⟩
theorem NV (hM:eJ M w) (dC:cA M w aw av U):Calls aI 24 #[.agg #[.slice aC aD aB,sL aw U av,.slice ay eZ ax]] w (cm fun v w'=>v=.tuple #[I ((da U).1),I ((da U).2.1),I ((da U).2.2)]∧Ext w w'):=by
 refine dx 43 Tryz.func24 J J J hM fun f0 ha H=>?_
 let J0:=iL aw U av
 have H0:=H.put (it:=J0) J<|by rw[bP];exact dC
 have ja:=bg dC
 have i0:f0 0=.agg #[.slice aC aD aB,sL aw U av,.slice ay eZ ax]:=ha 0 bj
 refine az<|k<|bx H0 J i0 ?_
 intro aW w0 bW (H1:HI M w w0 [box aW #[.slice aC aD aB,sL aw U av,.slice ay eZ ax] 47,J0])
 let J1:=box aW #[.slice aC aD aB,sL aw U av,.slice ay eZ ax] 47
 refine ak (v:=I 0) J J<|ak (v:=I 0) J J<|ak (v:=I 0) J J<|aq<|sq<|az<|ak (v:=I 0) J J<|aq<|bk<|lp (fun m f w'=>∃(j:Nat),m=U.length-j∧f 1=pV aW 0∧f 5=I (j:Int)∧HI M w w' [J1,J0]∧(j≤U.length)∧(∀k,k<j→nN U k=false)) _ ⟨0,J,J,(bH J),H1,aj,(by intro k hk;omega)⟩ ?_
 rintro _ f0 w1 ⟨j,rfl,s0,s1,H2,hk,hs⟩
 refine sq<|az<|ai J s1<|aQ fE J s0<|bo H2 0 J jh J J J<|k<|dL J J jA<|k<|lss J J J J<|z<|nx<|cd (b:=decide ((j:Int)<(U.length:Int))) J J (fun b0=>?_)<|fun b0=>?_
 ·
  have p0:=dT b0
  refine sk<|nx<|sq<|bk<|az<|aQ fE J s0<|bo H2 0 J jh J J J<|ai J s1<|k<|ia (H2.rv 1 J) J J J J aj jA jE ?_
  intro iG x0 aM cw
  refine k<|nz cw.w jE J J ?_
  intro v0 cu
  obtain⟨_,⟨_,_,rfl,⟨rfl,ee⟩,⟨_,_,rfl,⟨rfl,eb⟩,⟨_,_,rfl,rfl,⟨_,_,rfl,⟨rfl,fh⟩,⟨rfl,jd⟩⟩⟩⟩⟩,rfl⟩:=cu
  refine k<|al H2 jE ?_
  intro ba w2 df (H3:HI M w w2 [box ba #[I 0,I 0,.bool false,I 0,I 0] 95,J1,J0])
  refine k<|bu H3 0 J jE J J J J J J J ?_
  intro w3 (H4:HI M w w3 [box ba #[I x0.1,I x0.2.1,.bool x0.2.2.1,I x0.2.2.2.1,I x0.2.2.2.2] 95,J1,J0])
  refine aq<|sq<|az<|aQ vq J J<|bo H4 0 J pe J J J<|k<|j4 J J<|z<|nx<|cd (b:=!x0.2.2.1) J J (fun b1=>?_)<|fun b1=>?_
  ·
   refine ex<|aT<|bf<|nx<|rg<|ai J s1<|k<|add J J J J aR<|ak (v:=I ((j:Int)+1)) J J<|z ?_
   have H5:HI M w w3 [J1,J0]:=H4.bV [1,2] au J
   refine bF _ ?_ ⟨(j+1),J,s0,(bH J),H5,aj,(by exact BE hs aM (Nh<|by simpa using b1))⟩
   omega
  refine sk<|nx<|sq<|az<|aQ rQ J J<|bo H4 0 J aU J J J<|k<|eql J J J J<|z<|nx<|cd (b:=decide (x0.2.2.2.2=0)) J J (fun b2=>?_)<|fun b2=>?_
  ·
   have p2:=dT b2
   refine az<|ai J s1<|ai J s1<|ak (v:=I (j:Int)) J J<|ak (v:=I (j:Int)) J J<|ak (v:=I 5) J J<|aq<|rt<|aL<|bS<|aL<|dY<|bS<|aL<|r3 J J J J ?_
   have e0:((j:Int):Int)=(da U).1:=by exact(an0 (fun z_:Int×Int×Int=>z_.1)<|uM hs aM (by simpa using b1) p2).symm
   have e1:((j:Int):Int)=(da U).2.1:=by exact(an0 (fun z_:Int×Int×Int=>z_.2.1)<|uM hs aM (by simpa using b1) p2).symm
   have e2:(5:Int)=(da U).2.2:=by exact(an0 (fun z_:Int×Int×Int=>z_.2.2)<|uM hs aM (by simpa using b1) p2).symm
   have bq:=qX (fun (b9:Int) (dO:Int) (gF:Int)=>(.tuple #[I b9,I dO,I gF]:Value)) e0 e1 e2
   exact⟨bq,H4.below⟩
  have p2:=dF b2
  refine sk<|cO<|k<|cB H4 1 J dQ J s0 au J<|aQ tC J J<|bo H4 0 J aU J J J<|aQ rQ J J<|bo H4 0 J aU J J J<|k ?_
  have bR:=Es (U:=U) (vr:=x0.2.2.2.1) (val:=x0.2.2.2.2) (aC:=aC) (aD:=aD) (aB:=aB) (ay:=ay) (eZ:=eZ) (ax:=ax) H4.mb (H4.rv 2 J) fh jd
  refine ca aeq J (ec J<|ec J<|ec J e0) bR ?_
  rintro _ w4 ⟨rfl,eS⟩
  have H5:=H4.ext eS
  refine ai (v:=.tuple #[I (max (gv U x0.2.2.2.1 x0.2.2.2.2) 0),.bool (decide (0≤gv U x0.2.2.2.1 x0.2.2.2.2))]) J J<|k<|xt J J J<|k<|xt J J J<|ak (v:=I (max (gv U x0.2.2.2.1 x0.2.2.2.2) 0)) J J<|ak (v:=.bool (decide (0≤gv U x0.2.2.2.1 x0.2.2.2.2))) J J<|bw<|ai (v:=I (max (gv U x0.2.2.2.1 x0.2.2.2.2) 0)) J J<|ai J s1<|k<|lss J J J J<|z<|nx<|cd (b:=decide ((max (gv U x0.2.2.2.1 x0.2.2.2.2) 0)<(j:Int))) J J (fun b3=>?_)<|fun b3=>?_
  ·
   have p3:=dT b3
   refine az<|ai (v:=I (max (gv U x0.2.2.2.1 x0.2.2.2.2) 0)) J J<|ai J s1<|ak (v:=I (max (gv U x0.2.2.2.1 x0.2.2.2.2) 0)) J J<|ak (v:=I (j:Int)) J J<|ak (v:=I 4) J J<|aq<|rt<|bS<|aL<|dY<|bS<|aL<|r3 J J J J ?_
   have e0:((max (gv U x0.2.2.2.1 x0.2.2.2.2) 0):Int)=(da U).1:=by exact(an0 (fun z_:Int×Int×Int=>z_.1)<|sR hs aM (by simpa using b1) p2 p3).symm
   have e1:((j:Int):Int)=(da U).2.1:=by exact(an0 (fun z_:Int×Int×Int=>z_.2.1)<|sR hs aM (by simpa using b1) p2 p3).symm
   have e2:(4:Int)=(da U).2.2:=by exact(an0 (fun z_:Int×Int×Int=>z_.2.2)<|sR hs aM (by simpa using b1) p2 p3).symm
   have bq:=qX (fun (b9:Int) (dO:Int) (gF:Int)=>(.tuple #[I b9,I dO,I gF]:Value)) e0 e1 e2
   exact⟨bq,H5.below⟩
  have p3:=dF b3
  refine sk<|aF<|nx<|rg<|ai J s1<|k<|add J J J J aR<|ak (v:=I ((j:Int)+1)) J J<|z ?_
  have H6:HI M w w4 [J1,J0]:=H5.bV [1,2] au J
  refine bF _ ?_ ⟨(j+1),J,s0,(bH J),H6,aj,(by exact BE hs aM (Ni p2 p3))⟩
  omega
 have p0:=dF b0
 refine ex<|aT<|aY<|bf<|cO<|ak (v:=I 0) J J<|ak (v:=I 0) J J<|ak (v:=I 0) J J<|aq<|rt<|r3 J J J J ?_
 have e0:(0:Int)=(da U).1:=by exact(an0 (fun z_:Int×Int×Int=>z_.1)<|uN hs aj).symm
 have e1:(0:Int)=(da U).2.1:=by exact(an0 (fun z_:Int×Int×Int=>z_.2.1)<|uN hs aj).symm
 have e2:(0:Int)=(da U).2.2:=by exact(an0 (fun z_:Int×Int×Int=>z_.2.2)<|uN hs aj).symm
 have bq:=qX (fun (b9:Int) (dO:Int) (gF:Int)=>(.tuple #[I b9,I dO,I gF]:Value)) e0 e1 e2
 exact⟨bq,H2.below⟩
theorem T3:gR aI 95 0 0:=jT Tryz.underlying95
theorem aeD:gR aI 95 1 1:=jT Tryz.underlying95
theorem Qk (hM:eJ M w) (dC:cA M w aw av U) (ho:ik U) (dy:U.length≤4096):Calls aI 97 #[.agg #[.slice aC aD aB,sL aw U av,.slice ay eZ ax]] w (cm fun v w'=>∃(a0:OA) (c0:Nat),v=.agg #[I (U.length:Int),.slice a0 (oK U).length c0]∧Ext w w'∧bl M 144 w (oK U) (.slice a0 (oK U).length c0) w'):=by
 refine dx 49 Tryz.func97 J J J hM fun f0 ha H=>?_
 let J0:=iL aw U av
 have H0:=H.put (it:=J0) J<|by rw[bP];exact dC
 have ja:=bg dC
 have i0:f0 0=.agg #[.slice aC aD aB,sL aw U av,.slice ay eZ ax]:=ha 0 bj
 refine az<|k<|bx H0 J i0 ?_
 intro aW w0 bW (H1:HI M w w0 [box aW #[.slice aC aD aB,sL aw U av,.slice ay eZ ax] 47,J0])
 let J1:=box aW #[.slice aC aD aB,sL aw U av,.slice ay eZ ax] 47
 refine k<|al H1 bm ?_
 intro ba w1 df (H2:HI M w w1 [box ba #[I 0,.slice none 0 0] 26,J1,J0])
 let J2:=box ba #[I 0,.slice none 0 0] 26
 refine bw<|aQ fE J J<|bo H2 1 J jh J J J<|k<|dL J J jA<|k ?_
 have bR:=O5 (n:=(U.length:Int)) H2.mb aR
 refine ca Hn J (ec J e0) bR ?_
 rintro _ w2 ⟨a0,c0,rfl,eS,cu⟩
 have H3:=H2.eP cu
 refine ai (v:=.tuple #[.agg #[I (oD (U.length:Int)),sL a0 (iR (U.length:Int)) c0],I (rY (U.length:Int))]) J J<|k<|xt J J J<|k<|xt J J J<|k<|al H3 bm ?_
 let bc:=[oL w 144 a0 (iR (U.length:Int)) c0,J2,J1,J0]
 intro bI w3 fH (H4:HI M w w3 (box bI #[I 0,.slice none 0 0] 26::bc))
 refine k<|bu H4 0 J bm J J J J J J J ?_
 let J3:=box bI #[I (oD (U.length:Int)),sL a0 (iR (U.length:Int)) c0] 26
 intro w4 (H5:HI M w w4 (J3::bc))
 refine ak (v:=I (rY (U.length:Int))) J J<|aq<|sq<|sq ?_
 have Wu:CQ (U.length:Int)=true:=sD.2 aj
 obtain⟨en,er, -⟩:=xw Wu
 refine rg<|aQ fE J J<|bo H5 3 J jh J J J<|k<|dL J J jA<|k<|sub J J J J aR<|ak (v:=I ((U.length:Int)-2)) J J<|aq<|bk<|lp (fun m f w'=>∃(j:Nat) (xs:List (List bp)),m=U.length-j∧f 1=pV aW 0∧f 2=pV ba 0∧f 3=pV bI 0∧f 5=I ((U.length:Int)-2-(j:Int))∧HI M w w' [J3,own w.heap.size 144 (.slice a0 (iR (U.length:Int)).length c0) xs,J2,J1,J0]∧(j≤U.length)∧(xs.length=U.length)∧(xs=zm U ((U.length:Int)-2-(j:Int)))) _ ⟨0,(iR (U.length:Int)),J,J,J,J,(bH J),H5,aj,(by rw[er,pZ];simp),(by rw[er];exact QC _ _ aj)⟩ ?_
 rintro _ f0 w5 ⟨j,xs,rfl,s0,s1,s2,s3,H6,hk,hl,hs⟩
 refine sq<|az<|ai J s3<|k<|geq J J J J<|z<|nx<|cd (b:=decide (0≤((U.length:Int)-2-(j:Int)))) J J (fun b0=>?_)<|fun b0=>?_
 ·
  have p0:=dT b0
  refine sk<|nx<|sq<|bk<|sq<|B9 J aS<|kq (fun _ _=>fa fE J s0 e1)<|kq (fun _ x_=>lx (H6.ext x_) 3 J jh J J J e1)<|kq (fun _ _=>mv J s3 e1)<|ux (H6.rv 4 J) J J J J aj jA jE ?_
  intro iG x0 aM cw
  refine kq (fun _ _=>fa T3 J J e1)<|px (cw).fst.w aU J J ?_
  intro ee
  refine kq (fun _ _=>fa fE J s0 e1)<|kq (fun _ x_=>lx (H6.ext x_) 3 J jh J J J e1)<|kq (fun _ _=>mv J s3 e1)<|kq (fun _ _=>add J J J J aR e1)<|ux (H6.rv 4 J) J J J J aj jA jE ?_
  intro ry x1 cQ gN
  refine kq (fun _ _=>fa T3 J J e1)<|px (gN).fst.w aU J J ?_
  intro eb
  refine kq (fun _ _=>eql J J J J e1)<|zq ?_
  intro w6 jg
  have H7:=H6.ext jg
  refine nx<|cd (b:=decide (x0.1=x1.1)) J J (fun b1=>?_)<|fun b1=>?_
  ·
   have p1:=dT b1
   refine my [.r,.r,.r,.r,.r,.r,.r,.r,.r,.r,.r,.r,.e,.e] (fun _=>True) J aS (fun _ _=>trivial)<|yq J J<|kq (fun _ _=>fa iB J s2 e1)<|bO<|kq (fun _ x_=>lx (H7.ext x_) 0 J lh J J J e1)<|bO<|kq (fun _ _=>mv J s3 e1)<|bO<|kq (fun _ _=>fa iB J s2 e1)<|bO<|kq (fun _ x_=>lx (H7.ext x_) 0 J lh J J J e1)<|bO<|kq (fun _ _=>mv J s3 e1)<|bO<|kq (fun _ _=>add J J J J aR e1)<|bO<|th (H7.at_ 1 J) J J J J aj iq dp ?_
   intro ma x2 gZ kf
   refine bO<|GD kf dp J J ?_
   intro a1 c1 fh
   have Al:=bg fh
   have H8:=dR H7 fh
   refine bO<|kq (fun _ _=>mv J s3 e1)<|bO<|kq (fun _ _=>add J J J J aR e1)<|zq<|yu J (fun _ v w'=>∃(a2:OA) (c2:Nat),v=sL a2 (ei x2<|((U.length:Int)-2-(j:Int))+1) c2∧RV H7.fg w' (sL a2 (ei x2<|((U.length:Int)-2-(j:Int))+1) c2) (ei x2<|((U.length:Int)-2-(j:Int))+1)) J oq J (fun v_ _ x_ _=>have fU:=uu (r:=x2) (i:=(((U.length:Int)-2-(j:Int))+1)) (w:=v_) (H8.ext x_).mb ((H8.ext x_).rv 0 rfl) aR (by have h_:=VE (hs▸gZ);have lE:=NM (n:=U.length) aj;omega);ca F1 rfl (ec J<|ec J e0) fU (fun _ w8 ⟨a3,c3,e_,kr,iU⟩=>⟨_,J,kr,⟨a3,c3,e_,(l4 J<|bl.rv iU (H8.ext x_).mb)⟩⟩))<|ye<|ye<|yz ?_
   intro w9 f1 _ lX _ _ cC iT
   have cH:=H8.ext lX
   have s4:=(cC 1 J).trans s0
   have s5:=(cC 2 J).trans s1
   have s6:=(cC 3 J).trans s2
   have s7:=(cC 5 J).trans s3
   have s8:=cC 36 J
   have s9:=cC 37 J
   obtain⟨a4,c4,ej,nV⟩:=iT 0 _ _ rfl
   let J4:=iL a4 (ei x2 (((U.length:Int)-2-(j:Int))+1)) c4
   have dV:=cH.put (it:=J4) J<|by rw[aH J];exact nV
   refine kc<|iz (dV.at_ 3 J) J J s8 s9 aj iq dp ?_
   intro g0 x3 iE qm sO
   refine kc<|qj dV 3 J iE J aj dp J J J ej (dV.rv 0 J) ?_
   let J5:=own w.heap.size 144 (.slice a0 (iR (U.length:Int)).length c0) (xs.set (((U.length:Int)-2-(j:Int)).toNat) (ei x2 (((U.length:Int)-2-(j:Int))+1)))
   intro dP (dA:HI M w dP [J4,iL a1 x2 c1,J3,J5,J2,J1,J0])
   refine kz<|aF<|nx<|rg<|ai J s7<|k<|sub J J J J aR<|ak (v:=I (((U.length:Int)-2-(j:Int))-1)) J J<|z ?_
   have cT:HI M w dP [J3,J5,J2,J1,J0]:=dA.bV [2,3,4,5,6] au J
   refine bF _ ?_ ⟨(j+1),(xs.set (((U.length:Int)-2-(j:Int)).toNat) (ei x2<|((U.length:Int)-2-(j:Int))+1)),J,s4,s5,s6,(bH J),cT,aj,(by simpa using hl),(by rw[show ((U.length:Int)-2-(((j+1:Nat):Nat):Int))=((U.length:Int)-2-(j:Int))-1 from by omega];first|((have h_:=kY (t:=((U.length:Int)-2-(j:Int))) aj aj (by rw[gI aM,gI cQ];exact p1) (hs▸gZ);rw[←h_,←hs]))|((have h_:=kY (t:=((U.length:Int)-2-(j:Int))) aj aj (by rw[gI aM,gI cQ];exact p1) (hs▸qm);rw[←h_,←hs]))|((have h_:=kY (t:=((U.length:Int)-2-(j:Int))) aj aj (by rw[gI aM,gI cQ];exact p1) (hs▸xD);rw[←h_,←hs]))|((have h_:=kY (t:=((U.length:Int)-2-(j:Int))) aj aj (by rw[gI aM,gI cQ];exact p1) (hs▸Ml);rw[←h_,←hs]))|((have h_:=kY (t:=((U.length:Int)-2-(j:Int))) aj aj (by rw[gI aM,gI cQ];exact p1) (hs▸hx6);rw[←h_,←hs]))|((have h_:=kY (t:=((U.length:Int)-2-(j:Int))) aj aj (by rw[gI aM,gI cQ];exact p1) (hs▸hx7);rw[←h_,←hs]))|(rw[hs];exact GI ho aj aj (by rw[gI aM,gI cQ];exact p1)))⟩
   omega
  have p1:=dF b1
  refine sk<|aF<|nx<|rg<|ai J s3<|k<|sub J J J J aR<|ak (v:=I (((U.length:Int)-2-(j:Int))-1)) J J<|z<|bF _ ?_ ⟨(j+1),xs,J,s0,s1,s2,(bH J),H7,aj,bt,(by rw[show ((U.length:Int)-2-(((j+1:Nat):Nat):Int))=((U.length:Int)-2-(j:Int))-1 from by omega];first|((have h_:=kY (t:=((U.length:Int)-2-(j:Int))) aj aj (by rw[gI aM,gI cQ];exact p1) (hs▸gZ);rw[←h_,←hs]))|((have h_:=kY (t:=((U.length:Int)-2-(j:Int))) aj aj (by rw[gI aM,gI cQ];exact p1) (hs▸qm);rw[←h_,←hs]))|((have h_:=kY (t:=((U.length:Int)-2-(j:Int))) aj aj (by rw[gI aM,gI cQ];exact p1) (hs▸xD);rw[←h_,←hs]))|((have h_:=kY (t:=((U.length:Int)-2-(j:Int))) aj aj (by rw[gI aM,gI cQ];exact p1) (hs▸Ml);rw[←h_,←hs]))|((have h_:=kY (t:=((U.length:Int)-2-(j:Int))) aj aj (by rw[gI aM,gI cQ];exact p1) (hs▸hx6);rw[←h_,←hs]))|((have h_:=kY (t:=((U.length:Int)-2-(j:Int))) aj aj (by rw[gI aM,gI cQ];exact p1) (hs▸hx7);rw[←h_,←hs]))|(rw[hs];exact GI ho aj aj (by rw[gI aM,gI cQ];exact p1)))⟩
  omega
 have p0:=dF b0
 refine ex<|aT<|aY<|bf<|cO<|k<|cB H6 0 J bm J s2 au J<|k<|bu H6 2 J bm J J s1 J J J J ?_
 intro w6 (H7:HI M w w6 [J3,own w.heap.size 144 (.slice a0 (iR (U.length:Int)).length c0) xs,box ba #[I (oD (U.length:Int)),sL a0 (iR (U.length:Int)) c0] 26,J1,J0])
 refine aq<|rt<|ph H7 2 J bm J J s1 J au ?_
 have e0:(oD (U.length:Int):Int)=(U.length:Int):=by rw[en]
 have e1:(xs:List (List bp))=oK U:=by rw[hs];exact VF aj
 have l1:(iR (U.length:Int)).length=(oK U).length:=by rw[er,pZ,Z'];simp
 have bq:=nG (fun (b9:Int) (u5:Nat)=>(.agg #[I b9,.slice a0 u5 c0]:Value)) e0 l1
 exact⟨a0,c0,bq,H7.below,(an0 (fun (n_:Nat)=>bl _ _ _ (oK U) (.slice a0 n_ c0) _) l1).mp ((an0 (fun (x_:List (List bp))=>bl _ _ _ x_ (.slice a0 (iR (U.length:Int)).length c0) _) e1).mp (H7.dt 1 J))⟩
theorem Lw {tt:Int} (hM:eJ M w) (dC:cA M w aw av U) (ani:aK tt) (ho:ik U) (dy:U.length≤4096):Calls aI 108 #[.agg #[.slice aC aD aB,sL aw U av,.slice ay eZ ax],I tt] w (cm fun v w'=>∃(a0:OA) (c0:Nat),v=.slice a0 (cz U tt).length c0∧Ext w w'∧bl M 3 w (cz U tt) (.slice a0 (cz U tt).length c0) w'):=by
 refine dx 41 Tryz.func108 J J J hM fun f0 ha H=>?_
 let J0:=iL aw U av
 have H0:=H.put (it:=J0) J<|by rw[bP];exact dC
 have ja:=bg dC
 have i0:f0 0=.agg #[.slice aC aD aB,sL aw U av,.slice ay eZ ax]:=ha 0 bj
 have i1:f0 1=I tt:=ha 1 bj
 refine az<|k<|bx H0 J i0 ?_
 intro aW w0 bW (H1:HI M w w0 [box aW #[.slice aC aD aB,sL aw U av,.slice ay eZ ax] 47,J0])
 let J1:=box aW #[.slice aC aD aB,sL aw U av,.slice ay eZ ax] 47
 refine ak (v:=.slice none 0 0) J J<|aq<|sq<|az<|ai J i1<|k<|lss J J J J<|ai (v:=.bool (decide (tt<0))) J J ?_
 rcases bE (decide (tt<0)) with b0|b0
 ·
  have p0:=dT b0
  refine aX J J J b0<|aX J J J b0<|aX J J J b0<|aX J J J b0<|aX J J J b0<|k<|aP J J J J b0 J<|aq<|oW J J J<|az<|ak (v:=.slice none 0 0) J J<|aq<|rt<|aL<|r1 J J ?_
  have e0:([]:aA)=cz U tt:=by exact FA aj
  have bq:=iF (fun (b9:aA)=>(.slice none b9.length 0:Value)) e0
  exact⟨none,0,bq,H1.below,(an0 (fun (x_:aA)=>bl _ _ _ x_ (.slice none x_.length 0) _) e0).mp (fQ H1.below)⟩
 have p0:=dF b0
 refine aZ J J J b0<|mv J i1<|aZ J J J b0<|fa fE J J<|aZ J J J b0<|lx H1 0 J jh J J J<|aZ J J J b0<|dL J J jA<|aZ J J J b0<|geq J J J J<|k<|dG J J J J b0 J<|z<|nx<|cd (b:=decide ((U.length:Int)≤tt)) J J (fun b1=>?_)<|fun b1=>?_
 ·
  have p1:=dT b1
  refine az<|ak (v:=.slice none 0 0) J J<|aq<|rt<|aL<|r1 J J ?_
  have e0:([]:aA)=cz U tt:=by exact FA aj
  have bq:=iF (fun (b9:aA)=>(.slice none b9.length 0:Value)) e0
  exact⟨none,0,bq,H1.below,(an0 (fun (x_:aA)=>bl _ _ _ x_ (.slice none x_.length 0) _) e0).mp (fQ H1.below)⟩
 have p1:=dF b1
 refine sk<|cO<|ai J i1<|aQ fE J J<|bo H1 0 J jh J J J<|ai J i1<|k<|ia (H1.rv 1 J) J J J J aj jA jE ?_
 intro iG x0 aM cw
 refine aQ aeD J J<|k<|mP ((cw).s1).fst.w aU J J ?_
 intro cu
 refine k<|sub J J J J (by have C4:=ho.Ak tt.toNat aj;have Wr:=(ho.back tt.toNat aj).1;rw[Ir aM] at C4 Wr;unfold aK;omega)<|ak (v:=I (tt-x0.2.1)) J J<|aq<|sq ?_
 have C4:=ho.Ak tt.toNat aj
 have Wr:=(ho.back tt.toNat aj).1
 rw[Ir aM] at C4 Wr
 refine rg<|ai J i1<|ai (v:=I (tt-x0.2.1)) J J<|k<|sub J J J J aR<|k<|add J J J J aR<|k ?_
 have n0:((((tt-(tt-x0.2.1))+1).toNat:Nat):Int)=(tt-(tt-x0.2.1))+1:=aoC aj
 refine mk0 (α:=Int) (m:=((tt-(tt-x0.2.1))+1).toNat) H1 J J J (by rw[n0];exact rfl) cM aU aj aj ?_
 intro g0 w1 df (H2:HI M w w1 [own w.heap.size 3 (.slice (some ⟨g0,0,none⟩) 0 (((tt-(tt-x0.2.1))+1).toNat)) ([]:aA),J1,J0])
 refine ak (v:=.slice (some ⟨g0,0,none⟩) 0 (((tt-(tt-x0.2.1))+1).toNat)) J J<|aq<|sq<|az<|ai (v:=I (tt-x0.2.1)) J J<|ak (v:=I (tt-x0.2.1)) J J<|aq<|bk<|lp (fun m f w'=>∃(q:Nat) (xs:aA) (a0:OA) (c0:Nat),m=(x0.2.1+1).toNat-q∧f 1=I tt∧f 6=sL a0 xs c0∧f 7=I (tt-x0.2.1+(q:Int))∧HI M w w' [oL w 3 a0 xs c0,J1,J0]∧((q:Int)≤x0.2.1+1)∧(xs=u1 (tt-x0.2.1) q)) _ ⟨0,([]:aA),(some ⟨g0,0,none⟩),(((tt-(tt-x0.2.1))+1).toNat),J,i1,J,(bH J),H2,aj,(by rfl)⟩ ?_
 rintro _ f0 w2 ⟨q,xs,a0,c0,rfl,s0,s1,s2,H3,sI,hs⟩
 refine sq<|az<|ai J s2<|ai J s0<|k<|leq J J J J<|z<|nx<|cd (b:=decide ((tt-x0.2.1+(q:Int))≤tt)) J J (fun b2=>?_)<|fun b2=>?_
 ·
  have p2:=dT b2
  refine sk<|nx<|sq<|bk<|rg<|ai J s1<|ai J s2<|k<|bs (xs:=([(tt-x0.2.1+(q:Int))]:aA)) (cells:=#[I (tt-x0.2.1+(q:Int))]) (e:=3) H3 J (ck J ew) (fun _=>aS) ⟨[I (tt-x0.2.1+(q:Int))],[],J,⟨J,(show aK ((tt-x0.2.1+(q:Int))) from aR)⟩,J⟩ J au ?_
  intro g1 w3 eS H4
  refine k<|lV H4 1 J J J J J J (gX<|H4.at_ 0 J) cM aU J (by rw[hs,QF];simp only[iS,gA];omega) J ?_
  intro a1 c1 w4 (H5:HI M w w4 [own w.heap.size 3 (.slice (some ⟨g1,0,none⟩) 1 1) ([(tt-x0.2.1+(q:Int))]:aA),oL w 3 a1 (xs++([(tt-x0.2.1+(q:Int))]:aA)) c1,J1,J0])
  refine ak (v:=sL a1 (xs++([(tt-x0.2.1+(q:Int))]:aA)) c1) J J<|z<|aF<|nx<|rg<|ai J s2<|k<|add J J J J aR<|ak (v:=I ((tt-x0.2.1+(q:Int))+1)) J J<|z ?_
  have H6:HI M w w4 [oL w 3 a1 (xs++([(tt-x0.2.1+(q:Int))]:aA)) c1,J1,J0]:=H5.bV [1,2,3] au J
  refine bF _ ?_ ⟨(q+1),(xs++([(tt-x0.2.1+(q:Int))]:aA)),a1,c1,J,s0,J,(bH J),H6,aj,(by rw[hs];exact N1 _ _)⟩
  omega
 have p2:=dF b2
 refine ex<|aT<|aY<|bf<|cO<|ai J s1<|ak (v:=sL a0 xs c0) J J<|aq<|rt<|r1 J J ?_
 have e0:(xs:aA)=cz U tt:=by rw[hs];exact SH aj aj aM C4 aj
 have bq:=iF (fun (b9:aA)=>(.slice a0 b9.length c0:Value)) e0
 exact⟨a0,c0,bq,H3.below,(an0 (fun (x_:aA)=>bl _ _ _ x_ (.slice a0 x_.length c0) _) e0).mp (H3.dt 0 J)⟩
theorem agJ:cx aI 108:=cF Tryz.func108
theorem agI:cx aI 109:=cF Tryz.func109
theorem CI (hM:eJ M w) (dC:cA M w aw av U) (ub:aK o) (ho:ik U) (dy:U.length≤4096):Calls aI 68 #[.agg #[.slice aC aD aB,sL aw U av,.slice ay eZ ax],I o] w (cm fun v w'=>∃(a0:OA) (c0:Nat),v=.slice a0 (aV (fO U) (cz U o)).length c0∧Ext w w'∧bl M 3 w (aV (fO U) (cz U o)) (.slice a0 (aV (fO U) (cz U o)).length c0) w'):=by
 refine dx 10 Tryz.func68 J J J hM fun f0 ha H=>?_
 let J0:=iL aw U av
 have H0:=H.put (it:=J0) J<|by rw[bP];exact dC
 have i0:f0 0=.agg #[.slice aC aD aB,sL aw U av,.slice ay eZ ax]:=ha 0 bj
 have i1:f0 1=I o:=ha 1 bj
 refine az<|k<|bx H0 J i0 ?_
 intro aW w0 bW (H1:HI M w w0 [box aW #[.slice aC aD aB,sL aw U av,.slice ay eZ ax] 47,J0])
 let J1:=box aW #[.slice aC aD aB,sL aw U av,.slice ay eZ ax] 47
 refine ak (v:=.slice none 0 0) J J<|bw<|k<|cB H1 0 J dQ J J au J<|ai J i1<|k ?_
 have bR:=Lw (U:=U) (tt:=o) (aC:=aC) (aD:=aD) (aB:=aB) (ay:=ay) (eZ:=eZ) (ax:=ax) H1.mb (H1.rv 1 J) ub aj aj
 refine ca agJ J (ec J<|ec J e0) bR ?_
 rintro _ w1 ⟨a0,c0,rfl,df,cu⟩
 have H2:=H1.eP cu
 refine k<|mf J<|k ?_
 have H3:HI M w w1 ([oL w 3 a0 (cz U o) c0]++[J1,J0]):=H2.bV [0,1,2] au J
 have cU:=oU (dU:=a0) (dN:=c0) (xs:=(cz U o)) (qv:=109) (qA:=[pV aW 0]) (p:=(fun (x_:Int)=>fO U x_)) (w:=w) (w_:=w1) (r:=[J1,J0]) (M:=M) ⟨agI,fun w_ jq H_ x_ tv EC=>QE (U:=U) (M:=fun _=>False) (fun _ h_=>h_.elim) EC ((H_.rv 2 J).lift (Up.less fun _ _ h_=>h_.elim)) ⟨H_.at_ 1 rfl,fun h_=>h_⟩ (by obtain⟨j_,Hh⟩:=aok.1 tv;exact Jm ho Hh)⟩ H3
 refine ca Ho J (ec J<|ec J e0) cU ?_
 rintro _ w2 ⟨rfl,H4⟩
 have H5:HI M w w2 [oL w 3 a0 (aV (fun (x_:Int)=>fO U x_) (cz U o)) c0,J1,J0]:=H4
 refine ak (v:=sL a0 (aV (fun (x_:Int)=>fO U x_)<|cz U o) c0) J J<|aq<|rt<|r1 J J ?_
 have e0:((aV (fun (x_:Int)=>fO U x_) (cz U o)):aA)=aV (fO U) (cz U o):=rfl
 have bq:=iF (fun (b9:aA)=>(.slice a0 b9.length c0:Value)) e0
 exact⟨a0,c0,bq,H5.below,(an0 (fun (x_:aA)=>bl _ _ _ x_ (.slice a0 x_.length c0) _) e0).mp (H5.dt 0 J)⟩
theorem zt (hM:eJ M w) (fY:aK mn) (gr:cA M w bC bB mr) (xL:cA M w mz mS l) (bZ:bJ mn mr=true) (Yv:l.length≤1000000000):Calls aI 81 #[.agg #[I mn,sL bC mr bB],sL mz l mS] w (cm fun v w'=>∃(a0:OA) (c0:Nat),v=.agg #[I mn,.slice a0 (gl mn mr l).length c0]∧Ext w w'∧bl M 144 w (gl mn mr l) (.slice a0 (gl mn mr l).length c0) w'):=by
 refine dx 73 Tryz.func81 J J J hM fun f0 ha H=>?_
 let J0:=iL bC mr bB
 have H0:=H.put (it:=J0) J<|by rw[bP];exact gr
 let J1:=iL mz l mS
 have H1:=H0.put (it:=J1) J<|by rw[aH rfl,bP];exact xL
 have nw:=bg gr
 have acF:=bg xL
 have i0:f0 0=.agg #[I mn,sL bC mr bB]:=ha 0 bj
 have i1:f0 1=sL mz l mS:=ha 1 bj
 have tY:=(bQ bZ).1;have JR:=(bQ bZ).2.2.1;have EK:=kX bZ
 refine az<|k<|bx H1 J i0 ?_
 let bc:=[J1,J0]
 intro aW w0 bW (H2:HI M w w0 (box aW #[I mn,sL bC mr bB] 26::bc))
 let J2:=box aW #[I mn,sL bC mr bB] 26
 refine k<|al H2 bm ?_
 let bX:=J2::bc
 intro ba w1 df (H3:HI M w w1 (box ba #[I 0,.slice none 0 0] 26::bX))
 let J3:=box ba #[I 0,.slice none 0 0] 26
 refine bw<|aQ kx J J<|bo H3 1 J aU J J J<|k ?_
 have bR:=DY (n:=mn) H3.mb fY aj
 refine ca Q' J (ec J e0) bR ?_
 rintro _ w2 ⟨a0,c0,rfl,eS,cu⟩
 have H4:=H3.eP cu
 refine ak (v:=sL a0 (eh mn) c0) J J<|aq<|sq<|az<|ai J i1<|k<|dL J J cM<|ai (v:=I 0) J J<|aq<|bk ?_
 have H5:=H4.freeze 0 J
 let J4:=iL a0 (eh mn) c0
 have H6:=H5.put (it:=J4) J<|H5.rv 0 J
 let dM:=J4::J3::bX
 refine lp (fun m f w'=>∃(q:Nat) (rJ:List bp) (a1:OA) (c1:Nat),m=l.length-q∧f 2=pV aW 0∧f 4=pV ba 0∧f 5=sL a1 rJ c1∧f 16=sL mz l mS∧f 17=I (l.length:Int)∧f 18=I (q:Int)∧HI M w w' (iL a1 rJ c1::dM)∧(q≤l.length)∧(rJ=py mn.toNat (l.take q))) _ ⟨0,(eh mn),a0,c0,J,J,J,J,J,J,(bH J),H6,aj,(by exact V8 EK l)⟩ ?_
 rintro _ f0 w3 ⟨q,rJ,a1,c1,rfl,s0,s1,s2,s3,s4,s5,H7,sI,hm⟩
 refine az<|k<|lss J J s5 s4<|aq<|sq<|cd (b:=decide ((q:Int)<(l.length:Int))) J J (fun b0=>?_)<|fun b0=>?_
 ·
  have p0:=dT b0
  refine sk<|nx<|sq<|bk<|az<|k<|ia (H7.rv 4 J) J J s3 s5 aj cM aU ?_
  intro iG x0 aM cw
  refine k<|mP cw.w aU J J ?_
  intro ee
  refine ak (v:=I x0) J J<|bw<|ai (v:=I x0) J J<|aQ kx J s0<|bo H7 3 J aU J J J<|k<|lss J J J J<|z<|nx<|cd (b:=decide (x0<mn)) J J (fun b1=>?_)<|fun b1=>?_
  ·
   have p1:=dT b1
   refine rg<|ai J s2<|ai (v:=I x0) J J<|k ?_
   have cU:=uu (r:=rJ) (i:=x0) H7.mb (H7.rv 0 J) ee<|by rw[hm,Js EK];have h_:=Ff JR;omega
   refine ca F1 J (ec J<|ec J e0) cU ?_
   rintro _ w4 ⟨a2,c2,rfl,fH,eb⟩
   have H8:=H7.eP eb
   refine ak (v:=sL a2 (ei rJ x0) c2) J J<|z<|aF<|nx<|rg<|k<|add J J s5 J aR<|ai (v:=I ((q:Int)+1)) J J<|z ?_
   have H9:=H8.freeze 0 J
   have dE:=dR H9<|H9.rv 0 J
   have cV:HI M w w4 (iL a2 (ei rJ x0) c2::dM):=dE.bV [0,3,4,5,6,7] au J
   refine bF _ ?_ ⟨(q+1),(ei rJ x0),a2,c2,J,s0,s1,J,s3,s4,(bH J),cV,aj,(by exact aam hm aM aj)⟩
   omega
  have p1:=dF b1
  refine sk<|aF<|nx<|rg<|k<|add J J s5 J aR<|ai (v:=I ((q:Int)+1)) J J<|z ?_
  have H8:=dR H7<|H7.rv 0 J
  have H9:HI M w w3 (iL a1 rJ c1::dM):=H8.bV [0,2,3,4,5,6] au J
  refine bF _ ?_ ⟨(q+1),rJ,a1,c1,J,s0,s1,s2,s3,s4,(bH J),H9,aj,(by exact acx hm aM aj)⟩
  omega
 have p0:=dF b0
 refine ex<|aT<|aY<|bf<|nx<|sq ?_
 have ot:rJ=py mn.toNat l:=by rw[hm,mg aj]
 refine rg<|aQ kx J s0<|bo H7 3 J aU J J J<|k ?_
 have cU:=FL (n:=mn) H7.mb fY (by exact kX bZ)<|by exact(bQ bZ).2.2.1
 refine ca Hn J (ec J e0) cU ?_
 rintro _ w4 ⟨a2,c2,fP,rfl,fH,ee⟩
 have H8:=H7.GJ ee
 let J5:=own w.heap.size 144 (.slice a2 mn.toNat c2) fP
 let J6:=iL a1 rJ c1
 let iO:=J5::J6::dM
 have H9:HI M w w4 (iO++bG w.heap.size 151 fP (List.replicate mn.toNat (eh mn))):=H8
 have Fl:=ee.1
 refine ai (v:=.tuple #[.agg #[I mn,.slice a2 mn.toNat c2],I 0]) J J<|k<|xt J J J<|k<|xt J J J<|k<|al H9 bm ?_
 intro bI w5 jg (dE:HI M w w5 ((box bI #[I 0,.slice none 0 0] 26::iO)++bG w.heap.size 151 fP (List.replicate mn.toNat (eh mn))))
 refine k<|bu dE 0 J bm J J J J J J J ?_
 let J7:=box bI #[I mn,.slice a2 mn.toNat c2] 26
 let fj:=J7::iO
 intro w6 (cV:HI M w w6 (fj++bG w.heap.size 151 fP (List.replicate mn.toNat (eh mn))))
 refine ak (v:=I 0) J J<|aq<|sq<|az<|aQ iB J J<|bo cV 0 J lh J J J<|k<|dL J J iq<|ai (v:=I 0) J J<|aq<|bk<|lp (fun m f w'=>∃(i:Nat) (xs:List (List bp)),m=mn.toNat-i∧f 2=pV aW 0∧f 4=pV ba 0∧f 5=sL a1 rJ c1∧f 8=pV bI 0∧f 38=I (mn.toNat:Int)∧f 39=I (i:Int)∧HI M w w' (fj++bG w.heap.size 151 fP xs)∧(i≤mn.toNat)∧(fP.length=xs.length)∧(xs=cE mn.toNat (wX (fW mr) l i))∧(xs.length=mn.toNat)) _ ⟨0,(List.replicate mn.toNat<|eh mn),J,s0,s1,s2,J,J,(bH J),cV,aj,(by exact Fl),(by exact Vf bZ),bj⟩ ?_
 rintro _ f1 w7 ⟨i,xs,rfl,s6,s7,s8,s9,ej,eX,dm,YA,hl,hs,EB⟩
 refine az<|k<|lss J J eX ej<|aq<|sq<|cd (b:=decide ((i:Int)<(mn.toNat:Int))) J J (fun b1=>?_)<|fun b1=>?_
 ·
  have p1:=dT b1
  refine sk<|nx<|sq<|bk<|az<|ai J eX<|ak (v:=I (i:Int)) J J<|aq<|sq<|az<|ai J s8<|ai (v:=I (i:Int)) J J<|k ?_
  have fU:=z1 (r:=rJ) (i:=(i:Int)) dm.mb (dm.rv 2 J) aR
  refine ca ML J (ec J<|ec J e0) fU ?_
  rintro _ w8 ⟨rfl,jr⟩
  have cL:=dm.ext jr
  refine k<|j4 J J<|z<|nx<|cd (b:=!(fk rJ (i:Int))) J J (fun b2=>?_)<|fun b2=>?_
  ·
   refine ex<|aT<|bf<|nx<|rg<|k<|add J J eX J aR<|ai (v:=I ((i:Int)+1)) J J<|z<|bF _ ?_ ⟨(i+1),xs,J,s6,s7,s8,s9,ej,(bH J),cL,aj,(by exact hl),(by exact ZI bZ hs ot aj (by simpa using b2)),(by exact EB)⟩
   omega
  refine sk<|cO<|aQ iB J s6<|bo cL 5 J lh J J J<|ai (v:=I (i:Int)) J J<|k<|ia (cL.rv 7 J) J J J J aj iq dp ?_
  intro iG x0 aM cw
  refine k<|va cw.w dp J J ?_
  intro a3 c3 eb
  have Al:=bg eb
  have cH:=dR cL eb
  let lF:=iL a3 x0 c3::fj
  have dV:HI M w w8 (lF++bG w.heap.size 151 fP xs):=cH
  refine k<|dL J J ir<|ai (v:=I 0) J J<|aq<|bk<|lp (fun m f w'=>∃(k_:Nat) (ys:List (List bp)),m=x0.length-k_∧f 2=pV aW 0∧f 4=pV ba 0∧f 5=sL a1 rJ c1∧f 8=pV bI 0∧f 10=I (i:Int)∧f 38=I (mn.toNat:Int)∧f 39=I (i:Int)∧f 50=sL a3 x0 c3∧f 51=I (x0.length:Int)∧f 52=I (k_:Int)∧HI M w w' (lF++bG w.heap.size 151 fP ys)∧(k_≤x0.length)∧(fP.length=ys.length)∧(ys=xs.set i (mI x0 rJ k_))∧(ys.length=mn.toNat)) _ ⟨0,xs,J,s6,s7,s8,s9,J,ej,eX,J,J,(bH J),dV,aj,(by exact hl),(by exact afy bZ hs aM),(by exact EB)⟩ ?_
  rintro _ f2 w9 ⟨k_,ys,rfl,fA,fD,gi,gS,kb,kK,lC,l3,lZ,mZ,dA,pj,la,gM,An⟩
  refine az<|k<|lss J J mZ lZ<|aq<|sq<|cd (b:=decide ((k_:Int)<(x0.length:Int))) J J (fun b3=>?_)<|fun b3=>?_
  ·
   have p3:=dT b3
   refine sk<|nx<|sq<|bk<|sq ?_
   have ml_:rJ.length=x0.length:=by rw[ot,Js EK,nP bZ aM]
   refine rg<|ai J mZ<|k<|ia (dA.rv 0 J) J J l3 mZ aj ir ft ?_
   intro ry x1 cQ gN
   refine k<|yK gN.w ft J J<|ak (v:=I (k_:Int)) J J<|ak (v:=ag x1) J J<|z<|nx ?_
   obtain⟨a4,x2,c4,l5,mw⟩:=ur (i:=(i:Int).toNat) dA bt aj
   obtain⟨x4,qm⟩:∃x,rJ[(k_:Int).toNat]? =some x:=⟨_,dW aj⟩
   refine dr 12 [eV (pV bI 1),eV (.slice a2 mn.toNat c2),eV (I (i:Int)),fun v w'=>∃(g0:Nat),v=.pointer (some ⟨g0,(i:Int).toNat*1,none⟩)∧(.slice a2 mn.toNat c2:Value).ownBlock=some g0∧gP dA.fg w' ⟨g0,(i:Int).toNat*1,none⟩ (⟨a4,x2.length,c4⟩:SV),eV (sL a4 x2 c4),eV (I (k_:Int)),eV (ag x1),eV (sL a1 rJ c1),eV (I (k_:Int)),fun v w'=>∃(ma:Addr),v=.pointer (some ma)∧At dA.fg w' ma x4,eV (ag x4),eV (ag<|x1 &&& x4)] J aS ?_ ?_
   ·
    refine dc (fun _ _ My _ _=>fa iB J ((My 8 J).trans gS)<|d0 J J)<|dc (fun _ _ _ lX JI=>lx (dA.ext lX) 1 J lh J (JI 0 J J) J<|d0 J J)<|dc (fun _ _ Hi _ _=>mv J ((Hi 10 J).trans kb)<|d0 J J) ?_
    refine⟨fun _=>⟨fun f6 iQ hf3 zP vf=>?_,by rintro _ _ _ x_ ⟨g0,e_,iE,kf⟩;exact⟨g0,e_,iE,kf.ext x_⟩⟩,?_⟩
    ·
     have cG:=dA.ext zP
     have ym:f6 58=.slice a2 mn.toNat c2:=vf 1 J J
     have zX:f6 59=I (i:Int):=vf 2 J J
     refine iz (cG.at_ 2 J) J J ym zX aj iq dp ?_
     intro g1 x5 kT xD wc
     obtain rfl:(⟨a4,x2.length,c4⟩:SV)=x5:=an5 (l5.symm.trans xD)
     exact⟨_,J,Ext.refl _,⟨g1,J,kT,wc⟩⟩
    refine dc (fun f7 j1 hf4 Fe BV=>?_) ?_
    ·
     obtain⟨g2,Cs,BT,MI⟩:∃(g2:Nat),f7 60=.pointer (some ⟨g2,(i:Int).toNat*1,none⟩)∧(.slice a2 mn.toNat c2:Value).ownBlock=some g2∧gP dA.fg j1 ⟨g2,(i:Int).toNat*1,none⟩ (⟨a4,x2.length,c4⟩:SV):=BV 3 rfl rfl
     refine Jx MI dp J Cs ?_
     exact⟨_,J,Ext.refl _,J⟩
    refine dc (fun _ _ Tz _ _=>mv J (Tz 11 J)<|d0 J J)<|dc (fun _ _ Ty _ _=>mv J (Ty 12 J)<|d0 J J)<|dc (fun _ _ hf7 _ _=>mv J ((hf7 5 J).trans gi)<|d0 J J)<|dc (fun _ _ Tx _ _=>mv J (Tx 11 J)<|d0 J J) ?_
    refine⟨fun _=>⟨fun f12 vV YD K3 EF=>?_,by rintro _ _ _ x_ ⟨ma,e_,sO⟩;exact⟨ma,e_,sO.lift (Up.ext x_)⟩⟩,?_⟩
    ·
     have jf:=dA.ext K3
     have yl:f12 64=sL a1 rJ c1:=EF 7 J J
     have GB:f12 65=I (k_:Int):=EF 8 J J
     refine ia (jf.rv 3 J) J J yl GB aj ir ft ?_
     intro po x6 Ml MH
     obtain rfl:x4=x6:=an5 (qm.symm.trans Ml)
     exact⟨_,J,Ext.refl _,⟨po,J,MH⟩⟩
    refine dc (fun f13 wY zy K1 sm=>?_) ?_
    ·
     have jC:=dA.ext K1
     obtain⟨tJ,Ly,YU⟩:∃(tJ:Addr),f13 66=.pointer (some tJ)∧At dA.fg wY tJ x4:=sm 9 rfl rfl
     have nu:=jC.put (it:=pR tJ x4) J YU
     have jm:HI M w wY ((pR tJ x4::lF)++bG w.heap.size 151 fP ys):=nu
     refine yK (jm.UQ 0 J).w ft J Ly ?_
     exact⟨_,J,Ext.refl _,J⟩
    refine dc (fun _ _ _ _ IA=>DA x1 x4 J J (IA 6 J J) (IA 10 J J)<|d0 J J) ?_
    exact lW.rest J _
   ·
    intro f15 Eh xH Vd FU
    have ln:=dA.ext Vd
    have s31:=(xH 2 J).trans fA
    have s32:=(xH 4 J).trans fD
    have s33:=(xH 5 J).trans gi
    have s34:=(xH 8 J).trans gS
    have s35:=(xH 10 J).trans kb
    have s36:=(xH 38 J).trans kK
    have s37:=(xH 39 J).trans lC
    have s38:=(xH 50 J).trans l3
    have s39:=(xH 51 J).trans lZ
    have s40:=(xH 52 J).trans mZ
    have s41:=FU 4 J
    have s42:=FU 5 J
    have s43:=FU 11 J
    refine k<|iz (ln.at_ _<|pG l5 mw) J J s41 s42 (by have h_:=an0 List.length (K9 bZ hs gM aM mw);rw[sU] at h_;omega) ir ft ?_
    intro g3 x7 Yl hx6 hA8
    refine k<|qj ln _ (pG l5 mw) Yl J (by have h_:=an0 List.length (K9 bZ hs gM aM mw);rw[sU] at h_;omega) ft J J J s43 (RV.bv.2 J) ?_
    intro La kU
    have pq:=HI.z6 (M:=fun _=>False) (it:=tq (.int .i64 0) (0:Int)) kU l5
    have ra:HI M w La (lF++bG w.heap.size 151 fP (ys.set ((i:Int).toNat) (x2.set ((k_:Int).toNat) (x1 &&& x4)))):=pq
    refine z<|aF<|nx<|rg<|k<|add J J s40 J aR<|ai (v:=I ((k_:Int)+1)) J J<|z<|bF _ ?_ ⟨(k_+1),(ys.set ((i:Int).toNat) (x2.set ((k_:Int).toNat) (x1 &&& x4))),J,s31,s32,s33,s34,s35,s36,s37,s38,s39,(bH J),ra,aj,(by rw[an1];exact la),(by exact ZH bZ hs gM aM mw cQ qm),(by rw[an1];exact An)⟩
    omega
  have p3:=dF b3
  refine ex<|aT<|aY<|bf<|aF<|nx<|rg<|k<|add J J lC J aR<|ai (v:=I ((i:Int)+1)) J J<|z ?_
  have cT:HI M w w9 (fj++bG w.heap.size 151 fP ys):=HI.aP (l:=lF) (l':=fj) (t:=bG w.heap.size 151 fP ys) dA [1,2,3,4,5,6,7,8] au J J
  refine bF _ ?_ ⟨(i+1),ys,J,fA,fD,gi,gS,kK,(bH J),cT,aj,(by exact la),(by exact ZJ bZ hs gM aM ot (by simpa using b2) aj),(by exact An)⟩
  omega
 have p1:=dF b1
 refine ex<|aT<|aY<|bf<|nx<|sq ?_
 have cL:HI M w w7 (own w.heap.size 144 (.slice a2 mn.toNat c2) xs::J7::J6::dM):=HI.deep (l:=(J7::J6::dM)) (HI.aP (l:=fj) (l':=(J5::J7::J6::dM)) (t:=bG w.heap.size 151 fP xs) dm [1,0,2,3,4,5,6,7] au J J) bt
 refine rg<|k<|cB cL 1 J bm J s9 au J<|k<|bu cL 4 J bm J J s7 J J J J ?_
 intro w8 (cH:HI M w w8 [own w.heap.size 144 (.slice a2 mn.toNat c2) xs,J7,J6,J4,box ba #[I mn,.slice a2 mn.toNat c2] 26,J2,J1,J0])
 refine aq<|rt<|ph cH 4 J bm J J s7 J au ?_
 have e1:(xs:List (List bp))=gl mn mr l:=by exact abp bZ hs aj
 have l1:mn.toNat=(gl mn mr l).length:=by rw[←e1];omega
 have bq:=iF (fun (u5:Nat)=>(.agg #[I mn,.slice a2 u5 c2]:Value)) l1
 exact⟨a2,c2,bq,cH.below,(an0 (fun (n_:Nat)=>bl _ _ _ (gl mn mr l) (.slice a2 n_ c2) _) l1).mp ((an0 (fun (x_:List (List bp))=>bl _ _ _ x_ (.slice a2 mn.toNat c2) _) e1).mp (cH.dt 0 J))⟩
theorem WM:cx aI 68:=cF Tryz.func68
theorem MM:cx aI 82:=cF Tryz.func82
theorem WJ:cx aI 81:=cF Tryz.func81
theorem agr:cx aI 142:=cF Tryz.func142
theorem WN:cx aI 66:=cF Tryz.func66
theorem Io (hM:eJ M w) (hT:fS 0 w) (dC:cA M w aw av U) (fZ:cA M w ay ax fo) (fY:aK mn) (gr:cA M w bC bB mr) (ub:aK o) (ho:ik U) (dy:U.length≤64) (eB:fo.length=U.length) (fL:∀x∈fo,x<((U.length:Nat):Int)) (BY:mn=((U.length:Nat):Int)) (BX:mr=ct U fo) (He:0≤o∧o<((U.length:Nat):Int)):Calls aI 106 #[.agg #[.slice aC aD aB,sL aw U av,sL ay fo ax],.agg #[I mn,sL bC mr bB],I o] w (cm fun v w'=>∃(es:List eu) (rd:Int) (a0:OA) (c0:Nat) (a1:OA) (c1:Nat),v=.tuple #[.agg #[I ((U.length:Nat):Int),.slice a0 (cX U fo o).length c0],sL a1 es c1,I rd,I 0]∧Ext w w'∧RV M w' (.slice a0 (cX U fo o).length c0) (cX U fo o)∧cA M w' a1 c1 es∧es.length≤2000000000∧aK rd∧oC U.length es):=by
 refine dx 66 Tryz.func106 J J J hM fun f0 ha H=>?_
 let J0:=iL aw U av
 have H0:=H.put (it:=J0) J<|by rw[bP];exact dC
 let J1:=iL ay fo ax
 have H1:=H0.put (it:=J1) J<|by rw[aH rfl,bP];exact fZ
 let J2:=iL bC mr bB
 have H2:=H1.put (it:=J2) J<|by rw[aH rfl,aH rfl,bP];exact gr
 have ja:=bg dC
 have kR:=bg fZ
 have nw:=bg gr
 have i0:f0 0=.agg #[.slice aC aD aB,sL aw U av,sL ay fo ax]:=ha 0 bj
 have i1:f0 1=.agg #[I mn,sL bC mr bB]:=ha 1 bj
 have i2:f0 2=I o:=ha 2 bj
 have bZ:bJ mn mr=true:=by rw[BY,BX];exact pD fo aj
 have lk_:=Bp ho dy He
 refine az<|k<|bx H2 J i0 ?_
 let bc:=[J2,J1,J0]
 intro aW w0 bW (H3:HI M w w0 (box aW #[.slice aC aD aB,sL aw U av,sL ay fo ax] 47::bc))
 let J3:=box aW #[.slice aC aD aB,sL aw U av,sL ay fo ax] 47
 refine k<|bx H3 J i1 ?_
 let bX:=J3::bc
 intro ba w1 df (H4:HI M w w1 (box ba #[I mn,sL bC mr bB] 26::bX))
 let J4:=box ba #[I mn,sL bC mr bB] 26
 refine k<|al H4 bm ?_
 let dM:=J4::bX
 intro bI w2 eS (H5:HI M w w2 (box bI #[I 0,.slice none 0 0] 26::dM))
 let J5:=box bI #[I 0,.slice none 0 0] 26
 refine ak (v:=.slice none 0 0) J J<|ak (v:=I 0) J J<|ak (v:=I 0) J J<|aq<|sq<|az<|ai J i2<|k<|lss J J J J<|ai (v:=.bool (decide (o<0))) J J ?_
 have BQ:(decide (o<0))=false:=(by rw[aob];omega)
 refine aZ J J J BQ<|mv J i2<|aZ J J J BQ<|fa fE J J<|aZ J J J BQ<|lx H5 2 J jh J J J<|aZ J J J BQ<|dL J J jA<|aZ J J J BQ<|geq J J J J<|k<|dG J J J J BQ J<|z<|nx ?_
 have Le:(decide ((U.length:Int)≤o))=false:=(by rw[aob];omega)
 refine pk J J Le<|sk<|cO<|k<|cB H5 2 J dQ J J au J<|ai J i2<|k ?_
 have bR:=CI (U:=U) (o:=o) (aC:=aC) (aD:=aD) (aB:=aB) (ay:=ay) (eZ:=fo.length) (ax:=ax) H5.mb (H5.rv 5 J) ub (by exact ho) aj
 refine ca WM J (ec J<|ec J e0) bR ?_
 rintro _ w3 ⟨a0,c0,rfl,fH,cu⟩
 have H6:=H5.eP cu
 refine ak (v:=sL a0 (aV (fO U)<|cz U o) c0) J J<|aq<|sq<|my [.r,.r,.r,.r,.r,.n,.e] (fun _=>True) J aS (fun _ _=>trivial)<|yq J J<|kq (fun _ x_=>cB (H6.ext x_) 2 J bm J J au J e1)<|bO<|kq (fun _ x_=>cB (H6.ext x_) 2 J bm J J au J e1)<|bO<|kq (fun _ _=>mv J i2 e1)<|zq<|yu J (fun N v w'=>∃(a1:OA) (c1:Nat),v=sL a1 (bN mn mr o) c1∧RV (MN H6.fg N) w' (sL a1 (bN mn mr o) c1) (bN mn mr o)) J k0 J (fun v_ _ x_ n_=>have fU:=u0 (mn:=mn) (mr:=mr) (o:=o) (w:=v_) (kO H6.mb x_ n_) (hT.ext (H6.below.trans x_)) fY (ku (H6.rv 4 J) x_ n_) ub (by exact bZ);ca MM rfl (ec J<|ec J e0) fU (fun _ w5 ⟨a2,c2,e_,jr,fh⟩=>⟨_,J,jr,⟨a2,c2,e_,(bl.rv fh<|kO H6.mb x_ n_)⟩⟩))<|lJ J (fun N v w'=>∃(a4:OA) (c4:Nat),v=.agg #[I mn,sL a4 (gl mn mr<|bN mn mr o) c4]∧RV (MN H6.fg N) w' (sL a4 (gl mn mr<|bN mn mr o) c4) (gl mn mr<|bN mn mr o)) 0 J J k0 J (fun v_ _ _ x_ n_ h_=>let ⟨a5,c5,s0,kW⟩:=h_;have nr:=zt (mn:=mn) (mr:=mr) (l:=(bN mn mr o)) (w:=v_) (kO H6.mb x_ n_) fY (ku (H6.rv 4 J) x_ n_) kW (by exact bZ) (by have h_:=uT bZ o;omega);ca WJ rfl (ec J<|ec s0 e0) nr (fun _ w7 ⟨a6,c6,e_,lX,nV⟩=>⟨_,J,lX,⟨a6,c6,e_,(bl.rv nV<|kO H6.mb x_ n_)⟩⟩))<|yn (z:=#[I 0,.slice none 0 0]) J J (fun _=>PY bm)<|ye<|yz ?_
 intro w8 f0 _ nS _ _ cC iT
 obtain⟨gO,s1,C',sN,BW⟩:=iT 0 _ _ rfl
 have pK:=PJ (z:=#[I 0,.slice none 0 0]) (T:=26) C' sN BW<|PK
 let iO:=oL w 3 a0 (aV (fO U) (cz U o)) c0::J5::dM
 have H7:HI M w w8 (box gO #[I 0,.slice none 0 0] 26::iO):=H6.D4 nS pK<|O2 O1 O3
 have s2:=cC 3 J
 have s3:=cC 6 J
 have s4:=cC 10 J
 obtain⟨a7,c7,s5,pg⟩:=iT 1 _ _ rfl
 let J6:=iL a7 (gl mn mr (bN mn mr o)) c7
 have H8:=H7.put (it:=J6) J<|se pg pK
 refine kc<|bu H8 1 J bm J J s1 s5 J J J ?_
 intro w9 (H9:HI M w w9 (J6::box gO #[I mn,sL a7 (gl mn mr (bN mn mr o)) c7] 26::iO))
 refine kz<|cO<|ak (v:=.slice none 0 0) J J<|bw<|ak (v:=I 1) J J<|aq<|bk ?_
 have dE:=H9.freeze 2 J
 let J7:=iL a0 (aV (fO U) (cz U o)) c0
 have cV:=dE.put (it:=J7) J<|dE.rv 2 J
 have dm:=cV.qf (Int×Int×Int) 122
 have cL:=dm.put (it:=J6) J<|dm.rv 2 J
 let fj:=J7::J5::dM
 refine lp (fun m f w'=>∃(fB:Nat) (cI:Int) (gY:List (List bp)) (zc:List eu) (a8:OA) (c8:Nat) (a9:OA) (c9:Nat) (jv:OA) (ju:Nat),m=U.length*U.length-IN U gY∧f 3=pV aW 0∧f 6=pV bI 0∧f 10=sL a8 (aV (fO U)<|cz U o) c8∧f 11=pV gO 0∧f 12=sL a9 zc c9∧f 13=I ((fB:Int)+1)∧HI M w w' (iL jv gY ju::oL w 122 a9 zc c9::iL a8 (aV (fO U)<|cz U o) c8::J6::box gO #[I cI,sL jv gY ju] 26::fj)∧(Kg U fo o cI gY)∧(fB≤IN U gY)∧(zc.length≤262144*fB)∧(oC U.length zc)) _ ⟨0,mn,(gl mn mr<|bN mn mr o),([]:List eu),a0,c0,none,0,a7,c7,J,s2,s3,s4,s1,J,(bH J),cL,(by rw[BY,BX];exact Vn U fo o),(by exact apn _),(by exact apn _),(by intro e_ h_;cases h_)⟩ ?_
 rintro _ f1 dP ⟨fB,cI,gY,zc,a8,c8,a9,c9,jv,ju,rfl,s6,s7,s8,s9,ej,eX,cH,hs,aiU,anh,adO⟩
 refine sq<|bk<|sq ?_
 have LG:=Lm hs aj;have ai0:=hs.1
 refine rg<|k<|cB cH 8 J dQ J s6 au J<|k<|cB cH 4 J bm J s9 au J<|ai J s8<|k ?_
 have n5:=Ql (U:=U) (fo:=fo) (mn:=cI) (mr:=gY) (kp:=(aV (fO U)<|cz U o)) (aC:=aC) (aD:=aD) (aB:=aB) cH.mb (hT.ext cH.below) (cH.rv 11 J) (cH.rv 10 J) aR (cH.rv 0 J) (cH.rv 2 J) aj (by exact eB) (by exact fL)<|by exact LG
 refine ca agr J (ec J<|ec J<|ec J e0) n5 ?_
 rintro _ ey ⟨mU,mT,rfl,zP,qd⟩
 have dV:=cH.eP qd
 refine ak (v:=sL mU (gG cI gY (aV (fO U)<|cz U o)<|cJ U fo cI gY) mT) J J<|aq<|sq<|az<|ai (v:=sL mU (gG cI gY (aV (fO U)<|cz U o)<|cJ U fo cI gY) mT) J J<|k<|dL J J eA<|k<|eql J J J J<|z<|nx<|cd (b:=decide (((gG cI gY (aV (fO U)<|cz U o)<|cJ U fo cI gY).length:Int)=0)) J J (fun b0=>?_)<|fun b0=>?_
 ·
  have p0:=dT b0
  refine sq ?_
  have ajd:=Lo gY U;have aiQ:U.length*U.length≤64*64:=Nat.mul_le_mul dy dy
  have BS:(gG cI gY (aV (fO U) (cz U o)) (cJ U fo cI gY))=[]:=ao5.1 aj
  refine rg<|k<|cB dV 5 J bm J s9 au J<|ai J ej<|ai J eX<|k<|bu dV 7 J bm J J s7 J J J J ?_
  intro fq (dA:HI M w fq [oL w 122 mU (gG cI gY (aV (fO U) (cz U o)) (cJ U fo cI gY)) mT,iL jv gY ju,oL w 122 a9 zc c9,iL a8 (aV (fO U) (cz U o)) c8,J6,box gO #[I cI,sL jv gY ju] 26,J7,box bI #[I cI,sL jv gY ju] 26,J4,J3,J2,J1,J0])
  refine ak (v:=sL a9 zc c9) J J<|ak (v:=I ((fB:Int)+1)) J J<|ak (v:=I 0) J J<|aq<|rt<|aL<|bS<|aL<|dY<|bS<|rc4 dA 7 J bm J J J J J s7 J au ?_
  have e0:(cI:Int)=((U.length:Nat):Int):=by exact hs.1
  have e1:(gY:List (List bp))=cX U fo o:=by exact abF hs eB fL (qW LG) BS
  have bq:=nG (fun (b9:Int) (dO:List (List bp))=>(.tuple #[.agg #[I b9,.slice jv dO.length ju],.slice a9 zc.length c9,I ((fB:Int)+1),I 0]:Value)) e0 e1
  exact⟨zc,((fB:Int)+1),jv,ju,a9,c9,bq,dA.below,(an0 (fun (x_:List (List bp))=>RV _ _ (.slice jv x_.length ju) x_) e1).mp (dA.fl 1 J),(dA.mD 2 J),aj,(by unfold aK;omega),(by exact adO)⟩
 have p0:=dF b0
 refine sk<|nx<|sq ?_
 have amH:=Lo (l_ cI gY<|gG cI gY (aV (fO U)<|cz U o)<|cJ U fo cI gY) U;have ajd:=Lo gY U;have aiQ:U.length*U.length≤64*64:=Nat.mul_le_mul dy dy
 have Mx:=TW cI gY (aV (fO U)<|cz U o) (cJ U fo cI gY);have Q6:=(qW (U:=U) (fo:=fo) LG).1
 obtain⟨Ha,hc_⟩:=ZW hs eB fL (qW LG)
 have adL:=hc_<|by intro h_;have e_:=an0 List.length h_;simp only[gA] at e_;unfold lj at e_;omega
 have so:oC U.length (gG cI gY (aV (fO U) (cz U o)) (cJ U fo cI gY)):=XW hs eB fL<|qW LG
 refine rg<|ai J ej<|ai (v:=sL mU (gG cI gY (aV (fO U)<|cz U o)<|cJ U fo cI gY) mT) J J<|k<|lV dV 2 J J J J J J (gX<|dV.at_ 0 J) eA cK J aj J ?_
 let J8:=oL w 122 mU (gG cI gY (aV (fO U) (cz U o)) (cJ U fo cI gY)) mT
 let J9:=iL jv gY ju
 let eL:=iL a8 (aV (fO U) (cz U o)) c8
 intro a12 qY fq (dA:HI M w fq (J8::J9::oL w 122 a12 (zc++gG cI gY (aV (fO U) (cz U o)) (cJ U fo cI gY)) qY::eL::J6::box gO #[I cI,sL jv gY ju] 26::fj))
 let dZ:=oL w 122 a12 (zc++gG cI gY (aV (fO U) (cz U o)) (cJ U fo cI gY)) qY
 refine ak (v:=sL a12 (zc++gG cI gY (aV (fO U)<|cz U o) (cJ U fo cI gY)) qY) J J<|bw<|ai (v:=sL mU (gG cI gY (aV (fO U)<|cz U o)<|cJ U fo cI gY) mT) J J<|k<|dL J J eA<|ai (v:=I 0) J J<|aq<|bk ?_
 have cT:=dA.put (it:=J9) J<|dA.rv 1 J
 refine lp (fun m f w'=>∃(q_:Nat) (fT:Int) (fI:List (List bp)) (kh:OA) (kg:Nat),m=(gG cI gY (aV (fO U)<|cz U o)<|cJ U fo cI gY).length-q_∧f 3=pV aW 0∧f 6=pV bI 0∧f 10=sL a8 (aV (fO U)<|cz U o) c8∧f 11=pV gO 0∧f 12=sL a12 (zc++gG cI gY (aV (fO U)<|cz U o) (cJ U fo cI gY)) qY∧f 13=I ((fB:Int)+1)∧f 50=sL mU (gG cI gY (aV (fO U)<|cz U o)<|cJ U fo cI gY) mT∧f 51=I ((gG cI gY (aV (fO U)<|cz U o)<|cJ U fo cI gY).length:Int)∧f 52=I (q_:Int)∧HI M w w' (iL kh fI kg::J8::J9::dZ::eL::J6::box gO #[I fT,sL kh fI kg] 26::fj)∧(q_≤(gG cI gY (aV (fO U)<|cz U o)<|cJ U fo cI gY).length)∧(fT=cI∧fI=l_ cI gY ((gG cI gY (aV (fO U)<|cz U o)<|cJ U fo cI gY).take q_))) _ ⟨0,cI,gY,jv,ju,J,s6,s7,s8,s9,J,eX,J,J,(bH J),cT,aj,(by exact⟨J,J⟩)⟩ ?_
 rintro _ f2 iQ ⟨q_,fT,fI,kh,kg,rfl,fA,fD,gi,gS,kb,kK,lC,l3,lZ,dX,sI,ot⟩
 refine az<|k<|lss J J lZ l3<|aq<|sq<|cd (b:=decide ((q_:Int)<((gG cI gY (aV (fO U)<|cz U o)<|cJ U fo cI gY).length:Int))) J J (fun b1=>?_)<|fun b1=>?_
 ·
  have p1:=dT b1
  refine sk<|nx<|sq<|bk<|az<|k<|iz (dX.at_ 1 J) J J lC lZ aj eA cK ?_
  intro g0 x0 iE aM cw
  refine k<|nz cw cK J J ?_
  intro v0 qb
  obtain⟨_,⟨_,_,rfl,⟨rfl,oH⟩,⟨_,_,rfl,⟨rfl,sg⟩,⟨rfl,sf⟩⟩⟩,rfl⟩:=qb
  refine k<|al dX cK ?_
  let lF:=iL kh fI kg::J8::J9::dZ::eL::J6::box gO #[I fT,sL kh fI kg] 26::fj
  intro AJ j1 Fe (dI:HI M w j1 (box AJ #[I 0,I 0,I 0] 122::lF))
  refine k<|bu dI 0 J cK J J J J J J J ?_
  intro rm (cG:HI M w rm (box AJ #[I x0.1,I x0.2.1,I x0.2.2] 122::lF))
  refine aq<|rg<|k<|cB cG 7 J bm J gS au J<|aQ kV J J<|bo cG 0 J aU J J J<|aQ mW J J<|bo cG 0 J aU J J J<|k ?_
  have AG:=FO (mn:=fT) (mr:=fI) (i:=x0.1) (j:=x0.2.1) cG.mb aR (cG.rv 1 J) oH sg<|by exact abE hs aj so ot
  refine ca WN J (ec J<|ec J<|ec J e0) AG ?_
  rintro _ zS ⟨mc,l9,rfl,Fc,qa⟩
  have d_:=cG.ext Fc
  let gf:=iL mc (ie fT fI x0.1 x0.2.1) l9
  have dD:=d_.put (it:=gf) J qa
  refine ai (v:=.tuple #[.agg #[I (iu fT x0.1 x0.2.1),sL mc (ie fT fI x0.1 x0.2.1) l9],I (lG fT x0.1 x0.2.1)]) J J<|k<|xt J J J<|k<|xt J J J<|k<|bu dD 8 J bm J J gS J J J J ?_
  let fN:=box gO #[I (iu fT x0.1 x0.2.1),sL mc (ie fT fI x0.1 x0.2.1) l9] 26
  intro tQ (eR:HI M w tQ (gf::box AJ #[I x0.1,I x0.2.1,I x0.2.2] 122::iL kh fI kg::J8::J9::dZ::eL::J6::fN::fj))
  refine z<|aF<|nx<|rg<|k<|add J J lZ J aR<|ai (v:=I ((q_:Int)+1)) J J<|z ?_
  have eW:=eR.put (it:=gf) J<|eR.rv 0 J
  have gW:HI M w tQ (gf::J8::J9::dZ::eL::J6::fN::fj):=eW.bV [0,4,5,6,7,8,9,10,11,12,13,14,15,16] au J
  refine bF _ ?_ ⟨(q_+1),(iu fT x0.1 x0.2.1),(ie fT fI x0.1 x0.2.1),mc,l9,J,fA,fD,gi,gS,kb,kK,lC,l3,(bH J),gW,aj,(by exact BJ ot aM (Ln ai0 so aM))⟩
  omega
 have p1:=dF b1
 refine ex<|aT<|aY<|bf<|aF<|nx<|rg<|ai J kK<|k<|add J J J J aR<|ak (v:=I (((fB:Int)+1)+1)) J J<|z ?_
 have dI:=dR dX<|dX.rv 0 J
 have cG:=dI.put (it:=eL) J<|dI.rv 5 J
 have d_:HI M w iQ (iL kh fI kg::dZ::eL::J6::box gO #[I fT,sL kh fI kg] 26::fj):=cG.bV [1,5,0,7,8,9,10,11,12,13,14,15] au J
 refine bF _ ?_ ⟨(fB+1),fT,fI,(zc++gG cI gY (aV (fO U)<|cz U o) (cJ U fo cI gY)),a8,c8,a12,qY,kh,kg,J,fA,fD,gi,gS,kb,(bH J),d_,(by rw[ot.1,ot.2,an_ aj];exact Ha),(by rw[ot.2,an_ aj];unfold lj at adL;omega),(by rw[fJ];omega),(by intro e_ h_;exact(aot.1 h_).elim (adO e_) (so e_))⟩
 rw[ot.2,an_ aj];unfold lj at adL;omega
theorem ajO:cx aI 50:=cF Tryz.func50
theorem Qx (hM:eJ M w) (dC:cA M w aw av U) (dy:U.length≤4096):Calls aI 50 #[.agg #[.slice aC aD aB,sL aw U av,.slice ay eZ ax]] w (cm fun v w'=>∃(a0:OA) (c0:Nat),v=.slice a0 (gD U).length c0∧Ext w w'∧bl M 3 w (gD U) (.slice a0 (gD U).length c0) w'):=by
 refine dx 42 Tryz.func50 J J J hM fun f0 ha H=>?_
 let J0:=iL aw U av
 have H0:=H.put (it:=J0) J<|by rw[bP];exact dC
 have ja:=bg dC
 have i0:f0 0=.agg #[.slice aC aD aB,sL aw U av,.slice ay eZ ax]:=ha 0 bj
 refine az<|k<|bx H0 J i0 ?_
 intro aW w0 bW (H1:HI M w w0 [box aW #[.slice aC aD aB,sL aw U av,.slice ay eZ ax] 47,J0])
 let J1:=box aW #[.slice aC aD aB,sL aw U av,.slice ay eZ ax] 47
 refine ak (v:=.slice none 0 0) J J<|bw<|ak (v:=.slice none 0 0) J J<|aq<|sq<|az<|ak (v:=I 0) J J<|aq<|bk ?_
 have H2:=H1.qf Int 3
 refine lp (fun m f w'=>∃(j:Nat) (xs:aA) (a0:OA) (c0:Nat),m=U.length-j∧f 1=pV aW 0∧f 3=sL a0 xs c0∧f 4=I (j:Int)∧HI M w w' [oL w 3 a0 xs c0,J1,J0]∧(j≤U.length)∧(xs=(U.take j).map (rP U))) _ ⟨0,([]:aA),none,0,J,J,J,(bH J),H2,aj,(by rfl)⟩ ?_
 rintro _ f0 w1 ⟨j,xs,a0,c0,rfl,s0,s1,s2,H3,hk,hs⟩
 refine sq<|az<|ai J s2<|aQ fE J s0<|bo H3 1 J jh J J J<|k<|dL J J jA<|k<|lss J J J J<|z<|nx<|cd (b:=decide ((j:Int)<(U.length:Int))) J J (fun b0=>?_)<|fun b0=>?_
 ·
  have p0:=dT b0
  refine sk<|nx<|sq<|bk<|az<|aQ fE J s0<|bo H3 1 J jh J J J<|ai J s2<|k<|ia (H3.rv 2 J) J J J J aj jA jE ?_
  intro iG x0 aM cw
  refine k<|nz cw.w jE J J ?_
  intro v0 cu
  obtain⟨_,⟨_,_,rfl,⟨rfl,ee⟩,⟨_,_,rfl,⟨rfl,eb⟩,⟨_,_,rfl,rfl,⟨_,_,rfl,⟨rfl,fh⟩,⟨rfl,jd⟩⟩⟩⟩⟩,rfl⟩:=cu
  refine k<|al H3 jE ?_
  intro ba w2 df (H4:HI M w w2 [box ba #[I 0,I 0,.bool false,I 0,I 0] 95,oL w 3 a0 xs c0,J1,J0])
  refine k<|bu H4 0 J jE J J J J J J J ?_
  let J2:=box ba #[I x0.1,I x0.2.1,.bool x0.2.2.1,I x0.2.2.2.1,I x0.2.2.2.2] 95
  intro w3 (H5:HI M w w3 [J2,oL w 3 a0 xs c0,J1,J0])
  refine bw<|ak (v:=I (-2)) J J<|bw<|k<|cB H5 2 J dQ J s0 au J<|aQ tC J J<|bo H5 0 J aU J J J<|aQ rQ J J<|bo H5 0 J aU J J J<|k ?_
  have bR:=Es (U:=U) (vr:=x0.2.2.2.1) (val:=x0.2.2.2.2) (aC:=aC) (aD:=aD) (aB:=aB) (ay:=ay) (eZ:=eZ) (ax:=ax) H5.mb (H5.rv 3 J) fh jd
  refine ca aeq J (ec J<|ec J<|ec J e0) bR ?_
  rintro _ w4 ⟨rfl,eS⟩
  have H6:=H5.ext eS
  refine ai (v:=.tuple #[I (max (gv U x0.2.2.2.1 x0.2.2.2.2) 0),.bool (decide (0≤gv U x0.2.2.2.1 x0.2.2.2.2))]) J J<|k<|xt J J J<|k<|xt J J J<|ak (v:=I (max (gv U x0.2.2.2.1 x0.2.2.2.2) 0)) J J<|ak (v:=.bool (decide (0≤gv U x0.2.2.2.1 x0.2.2.2.2))) J J<|aq<|sq<|az<|aQ vq J J<|bo H6 0 J pe J J J<|z<|nx<|cd (b:=x0.2.2.1) J J (fun b1=>?_)<|fun b1=>?_
  ·
   refine rg<|ak (v:=I (-3)) J J<|aq<|rg<|ai J s1<|ai (v:=I (-3)) J J<|k<|bs (xs:=([(-3)]:aA)) (cells:=#[I (-3)]) (e:=3) H6 J (ck J ew) (fun _=>aS) ⟨[I (-3)],[],J,⟨J,(show aK ((-3)) from aR)⟩,J⟩ J au ?_
   intro g0 w5 fH H7
   refine k<|lV H7 2 J J J J J J (gX<|H7.at_ 0 J) cM aU J (by rw[hs,aoo,ic];simp only[iS,gA];omega) J ?_
   intro a1 c1 w6 (H8:HI M w w6 [own w.heap.size 3 (.slice (some ⟨g0,0,none⟩) 1 1) ([(-3)]:aA),J2,oL w 3 a1 (xs++([(-3)]:aA)) c1,J1,J0])
   refine ak (v:=sL a1 (xs++([(-3)]:aA)) c1) J J<|z<|aF<|nx<|rg<|ai J s2<|k<|add J J J J aR<|ak (v:=I ((j:Int)+1)) J J<|z ?_
   have H9:HI M w w6 [oL w 3 a1 (xs++([(-3)]:aA)) c1,J1,J0]:=H8.bV [2,3,4] au J
   refine bF _ ?_ ⟨(j+1),(xs++([(-3)]:aA)),a1,c1,J,s0,J,(bH J),H9,aj,(by rw[hs];first|exact iI aM (Hq b1)|exact iI aM (Ht b1 p2)|exact iI aM (Hr b1 p2 b3)|exact iI aM (Hs b1 p2 b3))⟩
   omega
  refine az<|aQ rQ J J<|bo H6 0 J aU J J J<|k<|eql J J J J<|z<|nx<|cd (b:=decide (x0.2.2.2.2=0)) J J (fun b2=>?_)<|fun b2=>?_
  ·
   have p2:=dT b2
   refine rg<|ak (v:=I (-1)) J J<|aq<|rg<|ai J s1<|ai (v:=I (-1)) J J<|k<|bs (xs:=([(-1)]:aA)) (cells:=#[I (-1)]) (e:=3) H6 J (ck J ew) (fun _=>aS) ⟨[I (-1)],[],J,⟨J,(show aK ((-1)) from aR)⟩,J⟩ J au ?_
   intro g0 w5 fH H7
   refine k<|lV H7 2 J J J J J J (gX<|H7.at_ 0 J) cM aU J (by rw[hs,aoo,ic];simp only[iS,gA];omega) J ?_
   intro a1 c1 w6 (H8:HI M w w6 [own w.heap.size 3 (.slice (some ⟨g0,0,none⟩) 1 1) ([(-1)]:aA),J2,oL w 3 a1 (xs++([(-1)]:aA)) c1,J1,J0])
   refine ak (v:=sL a1 (xs++([(-1)]:aA)) c1) J J<|z<|aF<|nx<|rg<|ai J s2<|k<|add J J J J aR<|ak (v:=I ((j:Int)+1)) J J<|z ?_
   have H9:HI M w w6 [oL w 3 a1 (xs++([(-1)]:aA)) c1,J1,J0]:=H8.bV [2,3,4] au J
   refine bF _ ?_ ⟨(j+1),(xs++([(-1)]:aA)),a1,c1,J,s0,J,(bH J),H9,aj,(by rw[hs];first|exact iI aM (Hq b1)|exact iI aM (Ht b1 p2)|exact iI aM (Hr b1 p2 b3)|exact iI aM (Hs b1 p2 b3))⟩
   omega
  have p2:=dF b2
  refine az<|ai (v:=.bool (decide (0≤gv U x0.2.2.2.1 x0.2.2.2.2))) J J<|z<|nx<|cd (b:=decide (0≤gv U x0.2.2.2.1 x0.2.2.2.2)) J J (fun b3=>?_)<|fun b3=>?_
  ·
   have p3:=dT b3
   refine rg<|ai (v:=I (max (gv U x0.2.2.2.1 x0.2.2.2.2) 0)) J J<|ak (v:=I (max (gv U x0.2.2.2.1 x0.2.2.2.2) 0)) J J<|aq<|rg<|ai J s1<|ai (v:=I (max (gv U x0.2.2.2.1 x0.2.2.2.2) 0)) J J<|k<|bs (xs:=([(max (gv U x0.2.2.2.1 x0.2.2.2.2) 0)]:aA)) (cells:=#[I (max (gv U x0.2.2.2.1 x0.2.2.2.2) 0)]) (e:=3) H6 J (ck J ew) (fun _=>aS) ⟨[I (max (gv U x0.2.2.2.1 x0.2.2.2.2) 0)],[],J,⟨J,(show aK ((max (gv U x0.2.2.2.1 x0.2.2.2.2) 0)) from(by have h_:=wC (p:=kS x0.2.2.2.1 x0.2.2.2.2) (r:=U);unfold gv;unfold aK;omega))⟩,J⟩ J au ?_
   intro g0 w5 fH H7
   refine k<|lV H7 2 J J J J J J (gX<|H7.at_ 0 J) cM aU J (by rw[hs,aoo,ic];simp only[iS,gA];omega) J ?_
   intro a1 c1 w6 (H8:HI M w w6 [own w.heap.size 3 (.slice (some ⟨g0,0,none⟩) 1 1) ([(max (gv U x0.2.2.2.1 x0.2.2.2.2) 0)]:aA),J2,oL w 3 a1 (xs++([(max (gv U x0.2.2.2.1 x0.2.2.2.2) 0)]:aA)) c1,J1,J0])
   refine ak (v:=sL a1 (xs++([(max (gv U x0.2.2.2.1 x0.2.2.2.2) 0)]:aA)) c1) J J<|z<|aF<|nx<|rg<|ai J s2<|k<|add J J J J aR<|ak (v:=I ((j:Int)+1)) J J<|z ?_
   have H9:HI M w w6 [oL w 3 a1 (xs++([(max (gv U x0.2.2.2.1 x0.2.2.2.2) 0)]:aA)) c1,J1,J0]:=H8.bV [2,3,4] au J
   refine bF _ ?_ ⟨(j+1),(xs++([(max (gv U x0.2.2.2.1 x0.2.2.2.2) 0)]:aA)),a1,c1,J,s0,J,(bH J),H9,aj,(by rw[hs];first|exact iI aM (Hq b1)|exact iI aM (Ht b1 p2)|exact iI aM (Hr b1 p2 b3)|exact iI aM (Hs b1 p2 b3))⟩
   omega
  have p3:=dF b3
  refine sk<|nx<|rg<|ai J s1<|ai (v:=I (-2)) J J<|k<|bs (xs:=([(-2)]:aA)) (cells:=#[I (-2)]) (e:=3) H6 J (ck J ew) (fun _=>aS) ⟨[I (-2)],[],J,⟨J,(show aK ((-2)) from aR)⟩,J⟩ J au ?_
  intro g0 w5 fH H7
  refine k<|lV H7 2 J J J J J J (gX<|H7.at_ 0 J) cM aU J (by rw[hs,aoo,ic];simp only[iS,gA];omega) J ?_
  intro a1 c1 w6 (H8:HI M w w6 [own w.heap.size 3 (.slice (some ⟨g0,0,none⟩) 1 1) ([(-2)]:aA),J2,oL w 3 a1 (xs++([(-2)]:aA)) c1,J1,J0])
  refine ak (v:=sL a1 (xs++([(-2)]:aA)) c1) J J<|z<|aF<|nx<|rg<|ai J s2<|k<|add J J J J aR<|ak (v:=I ((j:Int)+1)) J J<|z ?_
  have H9:HI M w w6 [oL w 3 a1 (xs++([(-2)]:aA)) c1,J1,J0]:=H8.bV [2,3,4] au J
  refine bF _ ?_ ⟨(j+1),(xs++([(-2)]:aA)),a1,c1,J,s0,J,(bH J),H9,aj,(by rw[hs];first|exact iI aM (Hq b1)|exact iI aM (Ht b1 p2)|exact iI aM (Hr b1 p2 b3)|exact iI aM (Hs b1 p2 b3))⟩
  omega
 have p0:=dF b0
 refine ex<|aT<|aY<|bf<|cO<|ai J s1<|ak (v:=sL a0 xs c0) J J<|aq<|rt<|r1 J J ?_
 have e0:(xs:aA)=gD U:=by rw[hs];unfold gD;rw[mg aj]
 have bq:=iF (fun (b9:aA)=>(.slice a0 b9.length c0:Value)) e0
 exact⟨a0,c0,bq,H3.below,(an0 (fun (x_:aA)=>bl _ _ _ x_ (.slice a0 x_.length c0) _) e0).mp (H3.dt 0 J)⟩
theorem Qy (hM:eJ M w) (WD:cA M w aC aB fv) (dC:cA M w aw av U) (fZ:cA M w ay ax fo) (dy:U.length≤4096):Calls aI 25 #[.agg #[sL aC fv aB,sL aw U av,sL ay fo ax]] w (cm fun v w'=>∃(a0:OA) (c0:Nat) (a1:OA) (c1:Nat) (a2:OA) (c2:Nat),v=.agg #[sL a0 fv c0,sL a1 U c1,.slice a2 (gD U).length c2]∧Ext w w'∧cA M w' a0 c0 fv∧cA M w' a1 c1 U∧RV M w' (.slice a2 (gD U).length c2) (gD U)):=by
 refine dx 10 Tryz.func25 J J J hM fun f0 ha H=>?_
 have H0:=dR H WD
 have H1:=dR H0 dC
 have H2:=dR H1 fZ
 have i0:f0 0=.agg #[sL aC fv aB,sL aw U av,sL ay fo ax]:=ha 0 bj
 refine az<|k<|bx H2 J i0 ?_
 let bc:=[iL ay fo ax,iL aw U av,iL aC fv aB]
 intro aW w0 bW (H3:HI M w w0 (box aW #[sL aC fv aB,sL aw U av,sL ay fo ax] 47::bc))
 let J0:=box aW #[sL aC fv aB,sL aw U av,sL ay fo ax] 47
 refine k<|al H3 dQ ?_
 intro ba w1 df (H4:HI M w w1 (box ba #[.slice none 0 0,.slice none 0 0,.slice none 0 0] 47::J0::bc))
 refine aq<|sq<|my [.r,.r,.r,.r,.r,.r,.r,.e] (fun _=>True) J aS (fun _ _=>trivial)<|yq J J<|kq (fun _ _=>fa vt J J e1)<|bO<|kq (fun _ x_=>lx (H4.ext x_) 1 J Ch J J J e1)<|bO<|kq (fun _ _=>fa fE J J e1)<|bO<|kq (fun _ x_=>lx (H4.ext x_) 1 J jh J J J e1)<|bO<|kq (fun _ x_=>cB (H4.ext x_) 1 J dQ J J au J e1)<|zq<|yu J (fun _ v w'=>∃(a0:OA) (c0:Nat),v=sL a0 (gD U) c0∧RV H4.fg w' (sL a0 (gD U) c0) (gD U)) J oq J (fun v_ _ x_ _=>have cU:=Qx (U:=U) (aC:=aC) (aD:=fv.length) (aB:=aB) (ay:=ay) (eZ:=fo.length) (ax:=ax) (w:=v_) (H4.ext x_).mb ((H4.ext x_).rv 3 rfl) bt;ca ajO rfl (ec J e0) cU (fun _ w3 ⟨a1,c1,e_,fH,eb⟩=>⟨_,J,fH,⟨a1,c1,e_,(bl.rv eb (H4.ext x_).mb)⟩⟩))<|lJ J (fun _ v w'=>∃(a2:OA) (c2:Nat),v=.agg #[sL aC fv aB,sL aw U av,sL a2 (gD U) c2]∧RV H4.fg w' (sL a2 (gD U) c2) (gD U)) 0 J J oq J (fun _ _ _ _ _ h_=>let ⟨a3,c3,s0,jX⟩:=h_;bd (v:=.agg #[sL aC fv aB,sL aw U av,sL a3 (gD U) c3]) rfl (ck J<|ck J<|ck s0 ew) (fun _=>aS) ⟨_,J,Ext.refl _,⟨a3,c3,J,jX⟩⟩)<|ye<|yz ?_
 intro w4 f0 _ jg _ _ cC iT
 have dm:=H4.ext jg
 have s1:=cC 2 J
 obtain⟨a4,c4,s2,iU⟩:=iT 0 _ _ rfl
 have cL:=dR dm iU
 refine kc<|bu cL 1 J dQ J J s1 s2 J J J ?_
 intro w5 (cH:HI M w w5 (iL a4 (gD U) c4::box ba #[sL aC fv aB,sL aw U av,sL a4 (gD U) c4] 47::J0::bc))
 refine kz<|nx<|rt<|ph cH 1 J dQ J J s1 J au ?_
 exact⟨aC,aB,aw,av,a4,c4,J,cH.below,(cH.fl 5 J),(cH.fl 4 J),(cH.fl 0 J)⟩
theorem aj6:cx aI 23:=cF Tryz.func23
theorem aj5:cx aI 24:=cF Tryz.func24
theorem aj4:cx aI 25:=cF Tryz.func25
theorem VB (hM:eJ M w) (l6:cA M w gb ga h) (mF:h.flatten.length≤4096):Calls aI 13 #[sL gb h ga] w (cm fun v w'=>∃(a0:OA) (c0:Nat) (a1:OA) (c1:Nat) (a2:OA) (c2:Nat),v=.tuple #[.agg #[.slice a0 (tl h).length c0,.slice a1 (lP h).length c1,.slice a2 (lQ h).length c2],.bool (fe h)]∧Ext w w'∧RV M w' (.slice a0 (tl h).length c0) (tl h)∧RV M w' (.slice a1 (lP h).length c1) (lP h)∧RV M w' (.slice a2 (lQ h).length c2) (lQ h)):=by
 refine dx 25 Tryz.func13 J J J hM fun f0 ha H=>?_
 let J0:=iL gb h ga
 have H0:=H.put (it:=J0) J<|by rw[bP];exact l6
 have i0:f0 0=sL gb h ga:=ha 0 bj
 refine az<|k<|al H0 dQ ?_
 intro aW w0 bW (H1:HI M w w0 [box aW #[.slice none 0 0,.slice none 0 0,.slice none 0 0] 47,J0])
 let J1:=box aW #[.slice none 0 0,.slice none 0 0,.slice none 0 0] 47
 refine ak (v:=.bool false) J J<|bw<|ai J i0<|k ?_
 have bR:=VC (h:=h) H1.mb (H1.rv 1 J) aj
 refine ca aj6 J (ec J e0) bR ?_
 rintro _ w1 ⟨a0,c0,a1,c1,a2,c2,rfl,df,cu,ee,eb⟩
 have H2:=H1.ext df
 let J2:=iL a0 (mu h) c0
 have H3:=H2.put (it:=J2) J cu
 let J3:=iL a1 (cS h) c1
 have H4:=H3.put (it:=J3) J<|by rw[aH J];exact ee
 let J4:=iL a2 ([]:aA) c2
 have H5:=H4.put (it:=J4) J<|by rw[aH rfl,aH rfl];exact eb
 refine ai (v:=.tuple #[.agg #[sL a0 (mu h) c0,sL a1 (cS h) c1,sL a2 ([]:aA) c2],I (lD h)]) J J<|k<|xt J J J<|k<|xt J J J<|k<|al H5 dQ ?_
 let bc:=[J4,J3,J2,J1,J0]
 intro ba w2 eS (H6:HI M w w2 (box ba #[.slice none 0 0,.slice none 0 0,.slice none 0 0] 47::bc))
 refine k<|bu H6 0 J dQ J J J J J J J ?_
 let J5:=box ba #[sL a0 (mu h) c0,sL a1 (cS h) c1,sL a2 ([]:aA) c2] 47
 intro w3 (H7:HI M w w3 (J5::bc))
 refine ak (v:=I (lD h)) J J<|aq<|sq<|az<|ai (v:=I (lD h)) J J<|k<|neq J J J J<|z<|nx<|cd (b:=!decide ((lD h)=0)) J J (fun b0=>?_)<|fun b0=>?_
 ·
  have p0:=dF<|fX b0
  refine sq ?_
  have hq:fe h=false:=aah<|by simpa using ‹(!decide (lD h=0))=true›
  refine rg<|k<|bd (v:=.agg #[.slice none 0 0,.slice none 0 0,.slice none 0 0]) J ew (fun _=>aS)<|k<|bu H7 4 J dQ J J J J J J J ?_
  intro w4 (H8:HI M w w4 (J5::bc))
  refine ak (v:=.bool false) J J<|aq<|rt<|aL<|iy H8 4 J dQ J J J J J au ?_
  have e0:([]:List bh)=tl h:=by exact(Aj hq).1.symm
  have e1:([]:List aN)=lP h:=by exact(Aj hq).2.1.symm
  have e2:([]:aA)=lQ h:=by exact(Aj hq).2.2.symm
  have e3:(false:Bool)=fe h:=by exact hq.symm
  have bq:=Ur (fun (b9:List bh) (dO:List aN) (gF:aA) (lL:Bool)=>(.tuple #[.agg #[.slice none b9.length 0,.slice none dO.length 0,.slice none gF.length 0],.bool lL]:Value)) e0 e1 e2 e3
  exact⟨none,0,none,0,none,0,bq,H8.below,(an0 (fun (x_:List bh)=>RV _ _ (.slice none x_.length 0) x_) e0).mp (eo _ _),(an0 (fun (x_:List aN)=>RV _ _ (.slice none x_.length 0) x_) e1).mp (eo _ _),(an0 (fun (x_:aA)=>RV _ _ (.slice none x_.length 0) x_) e2).mp (eo _ _)⟩
 have p0:=dT<|fw b0
 refine sk<|nx<|sq ?_
 have he_:lD h=0:=by simpa using ‹(!decide (lD h=0))=false›
 refine rg<|k<|cB H7 0 J dQ J J au J<|k ?_
 have cU:=NV (U:=(cS h)) (aC:=a0) (aD:=(mu h).length) (aB:=c0) (ay:=a2) (eZ:=([]:aA).length) (ax:=c2) H7.mb<|H7.rv 2 J
 refine ca aj5 J (ec J e0) cU ?_
 rintro _ w4 ⟨rfl,fH⟩
 have H8:=H7.ext fH
 refine ai (v:=.tuple #[I ((da<|cS h).1),I ((da<|cS h).2.1),I ((da<|cS h).2.2)]) J J<|k<|xt J J J<|k<|xt J J J<|k<|xt J J J<|ak (v:=I ((da<|cS h).2.2)) J J<|aq<|sq<|az<|ai (v:=I ((da<|cS h).2.2)) J J<|k<|neq J J J J<|z<|nx<|cd (b:=!decide (((da<|cS h).2.2)=0)) J J (fun b1=>?_)<|fun b1=>?_
 ·
  have p1:=dF<|fX b1
  refine sq ?_
  have hq:fe h=false:=aag<|by simpa using ‹(!decide ((da<|cS h).2.2=0))=true›
  refine rg<|k<|bd (v:=.agg #[.slice none 0 0,.slice none 0 0,.slice none 0 0]) J ew (fun _=>aS)<|k<|bu H8 4 J dQ J J J J J J J ?_
  intro w5 (H9:HI M w w5 (J5::bc))
  refine ak (v:=.bool false) J J<|aq<|rt<|aL<|iy H9 4 J dQ J J J J J au ?_
  have e0:([]:List bh)=tl h:=by exact(Aj hq).1.symm
  have e1:([]:List aN)=lP h:=by exact(Aj hq).2.1.symm
  have e2:([]:aA)=lQ h:=by exact(Aj hq).2.2.symm
  have e3:(false:Bool)=fe h:=by exact hq.symm
  have bq:=Ur (fun (b9:List bh) (dO:List aN) (gF:aA) (lL:Bool)=>(.tuple #[.agg #[.slice none b9.length 0,.slice none dO.length 0,.slice none gF.length 0],.bool lL]:Value)) e0 e1 e2 e3
  exact⟨none,0,none,0,none,0,bq,H9.below,(an0 (fun (x_:List bh)=>RV _ _ (.slice none x_.length 0) x_) e0).mp (eo _ _),(an0 (fun (x_:List aN)=>RV _ _ (.slice none x_.length 0) x_) e1).mp (eo _ _),(an0 (fun (x_:aA)=>RV _ _ (.slice none x_.length 0) x_) e2).mp (eo _ _)⟩
 have p1:=dT<|fw b1
 refine sk<|nx<|sq ?_
 have hq:fe h=true:=acn he_<|by simpa using ‹(!decide ((da<|cS h).2.2=0))=false›
 refine rg<|k<|cB H8 0 J dQ J J au J<|k ?_
 have fU:=Qy (fv:=(mu h)) (U:=(cS h)) (fo:=([]:aA)) H8.mb (H8.rv 3 J) (H8.rv 2 J) (H8.rv 1 J)<|by have h_:=OY h;omega
 refine ca aj4 J (ec J e0) fU ?_
 rintro _ w5 ⟨a3,c3,a4,c4,a5,c5,rfl,jg,fh,jd,jX⟩
 have H9:=H8.ext jg
 have dE:=dR H9 fh
 have cV:=dR dE jd
 have dm:=dR cV jX
 refine k<|bu dm 7 J dQ J J J J J J J ?_
 intro w6 (cL:HI M w w6 [iL a5 (gD (cS h)) c5,iL a4 (cS h) c4,iL a3 (mu h) c3,J5,J4,J3,J2,box aW #[sL a3 (mu h) c3,sL a4 (cS h) c4,sL a5 (gD (cS h)) c5] 47,J0])
 refine ak (v:=.bool true) J J<|aq<|rt<|iy cL 7 J dQ J J J J J au ?_
 have e0:((mu h):List bh)=tl h:=by exact(wK hq).1.symm
 have e1:((cS h):List aN)=lP h:=by exact(wK hq).2.1.symm
 have e2:(gD (cS h):aA)=lQ h:=by exact(wK hq).2.2.symm
 have e3:(true:Bool)=fe h:=by exact hq.symm
 have bq:=Ur (fun (b9:List bh) (dO:List aN) (gF:aA) (lL:Bool)=>(.tuple #[.agg #[.slice a3 b9.length c3,.slice a4 dO.length c4,.slice a5 gF.length c5],.bool lL]:Value)) e0 e1 e2 e3
 exact⟨a3,c3,a4,c4,a5,c5,bq,cL.below,(an0 (fun (x_:List bh)=>RV _ _ (.slice a3 x_.length c3) x_) e0).mp (cL.fl 2 J),(an0 (fun (x_:List aN)=>RV _ _ (.slice a4 x_.length c4) x_) e1).mp (cL.fl 1 J),(an0 (fun (x_:aA)=>RV _ _ (.slice a5 x_.length c5) x_) e2).mp (cL.fl 0 J)⟩
theorem ajw:cx aI 97:=cF Tryz.func97
theorem ajv:cx aI 98:=cF Tryz.func98
theorem ajx:cx aI 96:=cF Tryz.func96
theorem aep:cx aI 59:=cF Tryz.func59
theorem Rc:cx aI 58:=cF Tryz.func58
theorem Xh (hM:eJ M w) (dC:cA M w aw av U) (fZ:cA M w ay ax fo) (dy:U.length≤4096) (eB:fo.length=U.length) (fL:∀x∈fo,x<((U.length:Nat):Int)):Calls aI 98 #[.agg #[.slice aC aD aB,sL aw U av,sL ay fo ax]] w (cm fun v w'=>∃(a0:OA) (c0:Nat),v=.agg #[I (U.length:Int),.slice a0 (oI U fo).length c0]∧Ext w w'∧bl M 144 w (oI U fo) (.slice a0 (oI U fo).length c0) w'):=by
 refine dx 37 Tryz.func98 J J J hM fun f0 ha H=>?_
 let J0:=iL aw U av
 have H0:=H.put (it:=J0) J<|by rw[bP];exact dC
 let J1:=iL ay fo ax
 have H1:=H0.put (it:=J1) J<|by rw[aH rfl,bP];exact fZ
 have ja:=bg dC
 have kR:=bg fZ
 have i0:f0 0=.agg #[.slice aC aD aB,sL aw U av,sL ay fo ax]:=ha 0 bj
 refine az<|k<|bx H1 J i0 ?_
 intro aW w0 bW (H2:HI M w w0 [box aW #[.slice aC aD aB,sL aw U av,sL ay fo ax] 47,J1,J0])
 let J2:=box aW #[.slice aC aD aB,sL aw U av,sL ay fo ax] 47
 refine k<|al H2 bm ?_
 let bc:=[J2,J1,J0]
 intro ba w1 df (H3:HI M w w1 (box ba #[I 0,.slice none 0 0] 26::bc))
 let J3:=box ba #[I 0,.slice none 0 0] 26
 refine bw<|aQ fE J J<|bo H3 1 J jh J J J<|k<|dL J J jA<|k ?_
 have bR:=O5 (n:=(U.length:Int)) H3.mb aR
 refine ca Hn J (ec J e0) bR ?_
 rintro _ w2 ⟨a0,c0,rfl,eS,cu⟩
 have H4:=H3.eP cu
 refine ai (v:=.tuple #[.agg #[I (oD (U.length:Int)),sL a0 (iR (U.length:Int)) c0],I (rY (U.length:Int))]) J J<|k<|xt J J J<|k<|xt J J J<|k<|al H4 bm ?_
 let bX:=oL w 144 a0 (iR (U.length:Int)) c0::J3::bc
 intro bI w3 fH (H5:HI M w w3 (box bI #[I 0,.slice none 0 0] 26::bX))
 refine k<|bu H5 0 J bm J J J J J J J ?_
 let J4:=box bI #[I (oD (U.length:Int)),sL a0 (iR (U.length:Int)) c0] 26
 intro w4 (H6:HI M w w4 (J4::bX))
 refine ak (v:=I (rY (U.length:Int))) J J<|aq<|sq<|sq ?_
 have Wu:CQ (U.length:Int)=true:=sD.2 aj
 obtain⟨en,er, -⟩:=xw Wu
 refine rg<|aQ tF J J<|bo H6 3 J qD J J J<|k<|dL J J cM<|ai (v:=I 0) J J<|aq<|bk<|lp (fun m f w'=>∃(j:Nat) (xs:List (List bp)),m=fo.length-j∧f 2=pV ba 0∧f 3=pV bI 0∧f 15=sL ay fo ax∧f 16=I (fo.length:Int)∧f 17=I (j:Int)∧HI M w w' (J4::own w.heap.size 144 (.slice a0 (iR (U.length:Int)).length c0) xs::J3::bc)∧(j≤fo.length)∧(xs.length=U.length)∧(xs=uw U.length fo j)) _ ⟨0,(iR (U.length:Int)),J,J,J,J,J,(bH J),H6,aj,(by rw[er,pZ];simp),(by rw[er];exact Z7 _ _)⟩ ?_
 rintro _ f0 w5 ⟨j,xs,rfl,s0,s1,s2,s3,s4,H7,hk,hl,hs⟩
 refine az<|k<|lss J J s4 s3<|aq<|sq<|cd (b:=decide ((j:Int)<(fo.length:Int))) J J (fun b0=>?_)<|fun b0=>?_
 ·
  have p0:=dT b0
  refine sk<|nx<|sq<|bk<|az<|ai J s4<|k<|ia (H7.rv 4 J) J J s2 s4 aj cM aU ?_
  intro iG x0 aM cw
  refine k<|mP cw.w aU J J ?_
  intro ee
  refine ak (v:=I (j:Int)) J J<|ak (v:=I x0) J J<|aq<|sq ?_
  have hw_:=fL _<|dz aM
  refine rg<|ai (v:=I x0) J J<|k<|geq J J J J<|z<|nx<|cd (b:=decide (0≤x0)) J J (fun b1=>?_)<|fun b1=>?_
  ·
   have p1:=dT b1
   refine my [.r,.r,.r,.r,.r,.r,.r,.r,.r,.r,.e,.e] (fun _=>True) J aS (fun _ _=>trivial)<|yq J J<|kq (fun _ _=>fa iB J s1 e1)<|bO<|kq (fun _ x_=>lx (H7.ext x_) 0 J lh J J J e1)<|bO<|kq (fun _ _=>mv (v:=I x0) J J e1)<|bO<|kq (fun _ _=>fa iB J s1 e1)<|bO<|kq (fun _ x_=>lx (H7.ext x_) 0 J lh J J J e1)<|bO<|kq (fun _ _=>mv (v:=I x0) J J e1)<|bO<|th (H7.at_ 1 J) J J J J aj iq dp ?_
   intro ry x1 cQ gN
   refine bO<|GD gN dp J J ?_
   intro a1 c1 eb
   have Al:=bg eb
   have H8:=dR H7 eb
   refine bO<|kq (fun _ _=>mv (v:=I (j:Int)) J J e1)<|zq<|yu J (fun _ v w'=>∃(a2:OA) (c2:Nat),v=sL a2 (ei x1 (j:Int)) c2∧RV H7.fg w' (sL a2 (ei x1 (j:Int)) c2) (ei x1 (j:Int))) J oq J (fun v_ _ x_ _=>have fU:=uu (r:=x1) (i:=(j:Int)) (w:=v_) (H8.ext x_).mb ((H8.ext x_).rv 0 rfl) aR (by have Py:=cQ;rw[hs] at Py;exact(Z8 (n:=U.length) aj fo j).2 _ (dz Py));ca F1 rfl (ec J<|ec J e0) fU (fun _ w7 ⟨a3,c3,e_,jr,jX⟩=>⟨_,J,jr,⟨a3,c3,e_,(l4 J<|bl.rv jX (H8.ext x_).mb)⟩⟩))<|ye<|ye<|yz ?_
   intro w8 f1 _ kr _ _ cC iT
   have cH:=H8.ext kr
   have s5:=(cC 2 J).trans s0
   have s6:=(cC 3 J).trans s1
   have s7:=(cC 15 J).trans s2
   have s8:=(cC 16 J).trans s3
   have s9:=(cC 17 J).trans s4
   have ej:=cC 25 J
   have eX:=cC 26 J
   obtain⟨a4,c4,fA,kW⟩:=iT 0 _ _ rfl
   have dV:=dR cH kW
   refine kc<|iz (dV.at_ 3 J) J J ej eX aj iq dp ?_
   intro g0 x2 iE gZ kf
   refine kc<|qj dV 3 J iE J aj dp J J J fA (dV.rv 0 J) ?_
   let J5:=own w.heap.size 144 (.slice a0 (iR (U.length:Int)).length c0) (xs.set x0.toNat (ei x1 (j:Int)))
   intro w9 (dA:HI M w w9 [iL a4 (ei x1 (j:Int)) c4,iL a1 x1 c1,J4,J5,J3,J2,J1,J0])
   refine kz<|aF<|nx<|rg<|k<|add J J s9 J aR<|ai (v:=I ((j:Int)+1)) J J<|z ?_
   have cT:HI M w w9 (J4::J5::J3::bc):=dA.bV [2,3,4,5,6,7] au J
   refine bF _ ?_ ⟨(j+1),(xs.set x0.toNat (ei x1 (j:Int))),J,s5,s6,s7,s8,(bH J),cT,aj,(by simpa using hl),(by exact ab' hs aM aj aj aj cQ)⟩
   omega
  have p1:=dF b1
  refine sk<|aF<|nx<|rg<|k<|add J J s4 J aR<|ai (v:=I ((j:Int)+1)) J J<|z<|bF _ ?_ ⟨(j+1),xs,J,s0,s1,s2,s3,(bH J),H7,aj,bt,(by rw[hs];exact afN aM aj)⟩
  omega
 have p0:=dF b0
 refine ex<|aT<|aY<|bf<|cO<|k<|cB H7 0 J bm J s1 au J<|k<|bu H7 2 J bm J J s0 J J J J ?_
 intro w6 (H8:HI M w w6 (J4::own w.heap.size 144 (.slice a0 (iR (U.length:Int)).length c0) xs::box ba #[I (oD (U.length:Int)),sL a0 (iR (U.length:Int)) c0] 26::bc))
 refine aq<|rt<|ph H8 2 J bm J J s0 J au ?_
 have e0:(oD (U.length:Int):Int)=(U.length:Int):=by rw[en]
 have e1:(xs:List (List bp))=oI U fo:=by rw[hs];exact aca eB aj
 have l1:(iR (U.length:Int)).length=(oI U fo).length:=by rw[er,pZ,Z9];simp
 have bq:=nG (fun (b9:Int) (u5:Nat)=>(.agg #[I b9,.slice a0 u5 c0]:Value)) e0 l1
 exact⟨a0,c0,bq,H8.below,(an0 (fun (n_:Nat)=>bl _ _ _ (oI U fo) (.slice a0 n_ c0) _) l1).mp ((an0 (fun (x_:List (List bp))=>bl _ _ _ x_ (.slice a0 (iR (U.length:Int)).length c0) _) e1).mp (H8.dt 1 J))⟩
theorem EX (hM:eJ M w) (dC:cA M w aw av U) (fZ:cA M w ay ax fo) (ho:ik U) (dy:U.length≤4096) (eB:fo.length=U.length) (fL:∀x∈fo,x<((U.length:Nat):Int)):Calls aI 59 #[.agg #[.slice aC aD aB,sL aw U av,sL ay fo ax]] w (cm fun v w'=>∃(a0:OA) (c0:Nat),v=.agg #[I (U.length:Int),.slice a0 (ky U fo).length c0]∧Ext w w'∧RV M w' (.slice a0 (ky U fo).length c0) (ky U fo)):=by
 refine dx 14 Tryz.func59 J J J hM fun f0 ha H=>?_
 let J0:=iL aw U av
 have H0:=H.put (it:=J0) J<|by rw[bP];exact dC
 let J1:=iL ay fo ax
 have H1:=H0.put (it:=J1) J<|by rw[aH rfl,bP];exact fZ
 have i0:f0 0=.agg #[.slice aC aD aB,sL aw U av,sL ay fo ax]:=ha 0 bj
 refine az<|k<|bx H1 J i0 ?_
 intro aW w0 bW (H2:HI M w w0 [box aW #[.slice aC aD aB,sL aw U av,sL ay fo ax] 47,J1,J0])
 let J2:=box aW #[.slice aC aD aB,sL aw U av,sL ay fo ax] 47
 refine k<|al H2 bm ?_
 intro ba w1 df (H3:HI M w w1 [box ba #[I 0,.slice none 0 0] 26,J2,J1,J0])
 refine aq<|sq<|my [.r,.r,.r,.r,.r,.r,.r,.s,.n,.e,.s] (fun _=>True) J aS (fun _ _=>trivial)<|yq J J<|kq (fun _ x_=>cB (H3.ext x_) 1 J dQ J J au J e1)<|zq<|yu J (fun N v w'=>∃(a0:OA) (c0:Nat),v=.agg #[I (U.length:Int),sL a0 (oK U) c0]∧RV (MN H3.fg N) w' (sL a0 (oK U) c0) (oK U)) J k0 J (fun v_ _ x_ n_=>have cU:=Qk (U:=U) (aC:=aC) (aD:=aD) (aB:=aB) (ay:=ay) (eZ:=fo.length) (ax:=ax) (w:=v_) (kO H3.mb x_ n_) (ku (H3.rv 3 J) x_ n_) (by exact ho) (by exact dy);ca ajw rfl (ec J e0) cU (fun _ w3 ⟨a1,c1,e_,fH,eb⟩=>⟨_,J,fH,⟨a1,c1,e_,(bl.rv eb<|kO H3.mb x_ n_)⟩⟩))<|yq J J<|kq (fun _ x_=>cB (H3.ext x_) 1 J dQ J J au J e1)<|zq<|yu J (fun N v w'=>∃(a2:OA) (c2:Nat),v=.agg #[I (U.length:Int),sL a2 (oI U fo) c2]∧RV (MN H3.fg N) w' (sL a2 (oI U fo) c2) (oI U fo)) J k0 J (fun v_ _ x_ n_=>have fb:=Xh (U:=U) (fo:=fo) (aC:=aC) (aD:=aD) (aB:=aB) (w:=v_) (kO H3.mb x_ n_) (ku (H3.rv 3 J) x_ n_) (ku (H3.rv 2 J) x_ n_) (by exact dy) (by exact eB) (by exact fL);ca ajv rfl (ec J e0) fb (fun _ w5 ⟨a3,c3,e_,jr,jX⟩=>⟨_,J,jr,⟨a3,c3,e_,(bl.rv jX<|kO H3.mb x_ n_)⟩⟩))<|yu2 J (fun N v w'=>∃(a6:OA) (c6:Nat),v=.tuple #[.agg #[I (tj (U.length:Int) (U.length:Int)),sL a6 (mi (U.length:Int) (oK U) (U.length:Int)<|oI U fo) c6],I (xp (U.length:Int) (U.length:Int))]∧RV (MN H3.fg N) w' (sL a6 (mi (U.length:Int) (oK U) (U.length:Int)<|oI U fo) c6) (mi (U.length:Int) (oK U) (U.length:Int)<|oI U fo)) 1 0 J J J k0 J (fun v_ _ _ _ x_ n_ h_ k_=>let ⟨a7,c7,s0,qd⟩:=h_;let ⟨a8,c8,s1,qb⟩:=k_;have n5:=acD (an:=(U.length:Int)) (ar:=(oK U)) (bn:=(U.length:Int)) (br:=(oI U fo)) (w:=v_) (kO H3.mb x_ n_) aR qd aR qb (by exact(GX aj _).1) (by exact(GX aj _).2) aj (by exact(GX aj _).1) (by exact(GX aj _).2) aj;ca ajx rfl (ec s0<|ec s1 e0) n5 (fun _ w7 ⟨a9,c9,e_,lX,oH⟩=>⟨_,J,lX,⟨a9,c9,e_,(bl.rv oH<|kO H3.mb x_ n_)⟩⟩))<|lJ J (fun N v w'=>∃(jv:OA) (ju:Nat),v=.tuple #[.agg #[I (tj (U.length:Int) (U.length:Int)),sL jv (mi (U.length:Int) (oK U) (U.length:Int)<|oI U fo) ju],I (xp (U.length:Int) (U.length:Int))]∧RV (MN H3.fg N) w' (sL jv (mi (U.length:Int) (oK U) (U.length:Int)<|oI U fo) ju) (mi (U.length:Int) (oK U) (U.length:Int)<|oI U fo)) 0 J J k0 J (fun _ _ _ _ _ h_=>let ⟨mU,mT,s2,sf⟩:=h_;mv rfl s2 ⟨_,J,Ext.refl _,⟨mU,mT,J,sf⟩⟩)<|lJ J (fun N v w'=>∃(a12:OA) (qY:Nat),v=.agg #[I (tj (U.length:Int) (U.length:Int)),sL a12 (mi (U.length:Int) (oK U) (U.length:Int)<|oI U fo) qY]∧RV (MN H3.fg N) w' (sL a12 (mi (U.length:Int) (oK U) (U.length:Int)<|oI U fo) qY) (mi (U.length:Int) (oK U) (U.length:Int)<|oI U fo)) 0 J J k0 J (fun _ _ _ _ _ h_=>let ⟨kh,kg,s3,A5⟩:=h_;xt rfl s3 rfl ⟨_,J,Ext.refl _,⟨kh,kg,J,A5⟩⟩)<|RN J (X:=I (xp (U.length:Int) (U.length:Int))) 1 J J (fun _ _ _ _ _ h_=>let ⟨U1,Uz,s4,Qm⟩:=h_;xt rfl s4 rfl e1)<|yn (z:=#[I 0,.slice none 0 0]) J J (fun _=>PY bm)<|ye<|yq J J<|kq (fun _ _=>jM (v:=I (xp (U.length:Int) (U.length:Int))) J J e1)<|zq<|yz ?_
 intro w8 f0 _ nS _ _ cC iT
 obtain⟨fm,s5,C',sN,BW⟩:=iT 0 _ _ rfl
 have pK:=PJ (z:=#[I 0,.slice none 0 0]) (T:=26) C' sN BW<|PK
 let bc:=[box ba #[I 0,.slice none 0 0] 26,J2,J1,J0]
 have H7:HI M w w8 (box fm #[I 0,.slice none 0 0] 26::bc):=H3.D4 nS pK<|O2 O1 O3
 have s6:=cC 2 J
 obtain⟨Kf,J',s7,ab4⟩:=iT 1 _ _ rfl
 let J3:=iL Kf (mi (U.length:Int) (oK U) (U.length:Int) (oI U fo)) J'
 have H8:=H7.put (it:=J3) J<|se ab4 pK
 refine kc<|bu H8 1 J bm J J s5 s7 J J J ?_
 let J4:=box fm #[I (tj (U.length:Int) (U.length:Int)),sL Kf (mi (U.length:Int) (oK U) (U.length:Int) (oI U fo)) J'] 26
 intro w9 (H9:HI M w w9 (J3::J4::bc))
 refine kz<|cO<|k<|cB H9 1 J bm J s5 au J<|k<|bu H9 2 J bm J J s6 J J J J ?_
 intro dP (dE:HI M w dP [J3,J4,box ba #[I (tj (U.length:Int) (U.length:Int)),sL Kf (mi (U.length:Int) (oK U) (U.length:Int) (oI U fo)) J'] 26,J2,J1,J0])
 refine aq<|rt<|ph dE 2 J bm J J s6 J au ?_
 have e0:(tj (U.length:Int) (U.length:Int):Int)=(U.length:Int):=by exact(Za U fo).1
 have e1:(mi (U.length:Int) (oK U) (U.length:Int) (oI U fo):List (List bp))=ky U fo:=by exact(Za U fo).2
 have bq:=nG (fun (b9:Int) (dO:List (List bp))=>(.agg #[I b9,.slice Kf dO.length J']:Value)) e0 e1
 exact⟨Kf,J',bq,dE.below,(an0 (fun (x_:List (List bp))=>RV _ _ (.slice Kf x_.length J') x_) e1).mp (dE.fl 0 J)⟩
theorem BD (hM:eJ M w) (dC:cA M w aw av U) (fZ:cA M w ay ax fo) (ho:ik U) (dy:U.length≤4096) (eB:fo.length=U.length) (fL:∀x∈fo,x<((U.length:Nat):Int)):Calls aI 32 #[.agg #[.slice aC aD aB,sL aw U av,sL ay fo ax]] w (cm fun v w'=>∃(a0:OA) (c0:Nat),v=.agg #[I (U.length:Int),.slice a0 (ct U fo).length c0]∧Ext w w'∧RV M w' (.slice a0 (ct U fo).length c0) (ct U fo)):=by
 refine dx 6 Tryz.func32 J J J hM fun f0 ha H=>?_
 have H0:=dR H dC
 have H1:=dR H0 fZ
 have i0:f0 0=.agg #[.slice aC aD aB,sL aw U av,sL ay fo ax]:=ha 0 bj
 refine az<|k<|bx H1 J i0 ?_
 let bc:=[iL ay fo ax,iL aw U av]
 intro aW w0 bW (H2:HI M w w0 (box aW #[.slice aC aD aB,sL aw U av,sL ay fo ax] 47::bc))
 let J0:=box aW #[.slice aC aD aB,sL aw U av,sL ay fo ax] 47
 refine k<|al H2 bm ?_
 intro ba w1 df (H3:HI M w w1 (box ba #[I 0,.slice none 0 0] 26::J0::bc))
 refine bw<|k<|cB H3 1 J dQ J J au J<|k ?_
 have bR:=EX (U:=U) (fo:=fo) (aC:=aC) (aD:=aD) (aB:=aB) H3.mb (H3.rv 3 J) (H3.rv 2 J) (by exact ho) (by exact dy) (by exact eB)<|by exact fL
 refine ca aep J (ec J e0) bR ?_
 rintro _ w2 ⟨a0,c0,rfl,eS,cu⟩
 have H4:=H3.ext eS
 have H5:=dR H4 cu
 refine k ?_
 have cU:=wD (mn:=(U.length:Int)) (mr:=(ky U fo)) H5.mb aR (H5.rv 0 J)<|by exact MY fo dy
 refine ca Rc J (ec J e0) cU ?_
 rintro _ w3 ⟨a1,c1,rfl,fH,ee⟩
 have H6:=H5.eP ee
 refine k<|bu H6 2 J bm J J J J J J J ?_
 intro w4 (H7:HI M w w4 (oL w 144 a1 (ff (U.length:Int) (ky U fo)) c1::iL a0 (ky U fo) c0::box ba #[I (U.length:Int),sL a1 (ff (U.length:Int) (ky U fo)) c1] 26::J0::bc))
 refine aq<|rt<|ph H7 2 J bm J J J J au ?_
 have e1:(ff (U.length:Int) (ky U fo):List (List bp))=ct U fo:=by exact Xa U fo
 have bq:=iF (fun (dO:List (List bp))=>(.agg #[I (U.length:Int),.slice a1 dO.length c1]:Value)) e1
 exact⟨a1,c1,bq,H7.below,(an0 (fun (x_:List (List bp))=>RV _ _ (.slice a1 x_.length c1) x_) e1).mp (H7.mD 0 J)⟩
theorem NT (H:HI M w w_ ([oL w 3 dU xs dN]++r)):Calls aI 177 #[sL dU xs dN] w_ (cm fun v w'=>v=.tuple #[]∧HI M w w' ([own w.heap.size 3 (sL dU xs dN) xs.reverse]++r)):=by
 refine enter 28 Tryz.func177 J J J fun f0 ha=>?_
 have GY:=kl<|H.at_ 0 J
 have i0:f0 0=sL dU xs dN:=ha 0 bj
 refine az<|ai J i0<|k<|dL J J cM<|k<|sub J J J J aR<|ak (v:=I 0) J J<|ak (v:=I ((xs.length:Int)-1)) J J<|aq<|bk<|lp (fun m f w'=>∃(q:Nat) (ys:aA),m=xs.length-q∧f 0=sL dU xs dN∧f 2=I (q:Int)∧f 3=I ((xs.length:Int)-1-(q:Int))∧HI M w w' ([own w.heap.size 3 (.slice dU xs.length dN) ys]++r)∧(q+q≤xs.length+1)∧(ys.length=xs.length)∧(ys=tg xs q)) _ ⟨0,xs,J,i0,(bH J),(bH J),H,aj,(by rfl),(by exact Qu xs)⟩ ?_
 rintro _ f0 w0 ⟨q,ys,rfl,s0,s1,s2,H0,sI,tY,hs⟩
 refine sq<|az<|ai J s1<|ai J s2<|k<|lss J J J J<|z<|nx<|cd (b:=decide ((q:Int)<((xs.length:Int)-1-(q:Int)))) J J (fun b0=>?_)<|fun b0=>?_
 ·
  have p0:=dT b0
  refine sk<|nx<|sq<|bk<|my [.r,.r,.s,.s,.r,.r,.r,.r,.r,.r,.r,.r,.e,.e,.e,.e] (fun _=>True) J aS (fun _ _=>trivial)<|yq J J<|kq (fun _ _=>mv J s0 e1)<|bO<|kq (fun _ _=>mv J s1 e1)<|bO<|kq (fun _ _=>mv J s0 e1)<|bO<|kq (fun _ _=>mv J s2 e1)<|bO<|kq (fun _ _=>mv J s0 e1)<|bO<|kq (fun _ _=>mv J s2 e1)<|bO<|th (H0.at_ 0 J) J J J J aj cM aU ?_
  intro iG x0 aM cw
  refine bO<|px cw aU J J ?_
  intro cu
  refine bO<|kq (fun _ _=>mv J s0 e1)<|bO<|kq (fun _ _=>mv J s1 e1)<|bO<|th (H0.at_ 0 J) J J J J aj cM aU ?_
  intro ry x1 cQ gN
  refine bO<|px gN aU J J ?_
  intro ee
  refine zq<|ye<|ye<|ye<|ye<|yz ?_
  intro w1 f1 _ bW _ _ cC iT
  have H1:=H0.ext bW
  have s3:=(cC 0 J).trans s0
  have s4:=(cC 2 J).trans s1
  have s5:=(cC 3 J).trans s2
  have s6:=cC 14 J
  have s7:=cC 15 J
  have s8:=cC 16 J
  have s9:=cC 17 J
  have ej:=cC 21 J
  have eX:=cC 25 J
  refine kc<|iz (H1.at_ 0 J) J J s6 s7 aj cM aU ?_
  intro g0 x2 iE gZ kf
  refine kc<|qj H1 0 J iE J aj aU J J J ej (RV.int.2 ⟨J,bt⟩) ?_
  intro w2 (H2:HI M w w2 ([own w.heap.size 3 (.slice dU xs.length dN) (ys.set ((q:Int).toNat) x0)]++r))
  refine kc<|iz (H2.at_ 0 J) J J s8 s9 (by simp only[an1];omega) cM aU ?_
  intro g1 x3 kT qm sO
  refine kc<|qj H2 0 J kT J (by simp only[an1];omega) aU J J J eX (RV.int.2 ⟨J,bt⟩) ?_
  intro w3 (H3:HI M w w3 ([own w.heap.size 3 (.slice dU xs.length dN) ((ys.set ((q:Int).toNat) x0).set (((xs.length:Int)-1-(q:Int)).toNat) x1)]++r))
  refine kz<|aF<|nx<|rg<|ai J s4<|k<|add J J J J aR<|ai J s5<|k<|sub J J J J aR<|ak (v:=I ((q:Int)+1)) J J<|ak (v:=I (((xs.length:Int)-1-(q:Int))-1)) J J<|z<|bF _ ?_ ⟨(q+1),((ys.set ((q:Int).toNat) x0).set (((xs.length:Int)-1-(q:Int)).toNat) x1),J,s3,(bH J),(bH J),H3,aj,(by simp only[an1];exact tY),(by exact NU hs aj aM aj cQ)⟩
  omega
 have p0:=dF b0
 refine ex<|aT<|aY<|bf<|Et J ?_
 have e0:(ys:List _)=xs.reverse:=by exact Ss hs aj
 try rw[←e0]
 refine⟨?_,?_⟩
 · first|rfl|simp only[e0]|(simp only[an1])
 · first|exact H0|simpa +zetaDelta only[e0,an1] using H0
theorem agd:cx aI 177:=cF Tryz.func177
theorem SE {Nx:OA} {Na:Nat} {vb:aA} (hM:eJ M w) (adU:cA M w Nx Na vb) (qT:aK i) (B3:aK j) (EI:Bk vb i j (vB vb i j)) (B2:(vB vb i j).length≤4097):Calls aI 155 #[sL Nx vb Na,I i,I j] w (cm fun v w'=>∃(a0:OA) (c0:Nat),v=.slice a0 (vB vb i j).length c0∧Ext w w'∧bl M 3 w (vB vb i j) (.slice a0 (vB vb i j).length c0) w'):=by
 refine dx 29 Tryz.func155 J J J hM fun f0 ha H=>?_
 let J0:=iL Nx vb Na
 have H0:=H.put (it:=J0) J<|by rw[bP];exact adU
 have amt:=bg adU
 have i0:f0 0=sL Nx vb Na:=ha 0 bj
 have i1:f0 1=I i:=ha 1 bj
 have i2:f0 2=I j:=ha 2 bj
 have amB:=EI.len;have amG:=UC EI EI.last
 refine az<|ak (v:=.slice none 0 0) J J<|bw<|ai J i2<|k<|bs (xs:=([j]:aA)) (cells:=#[I j]) (e:=3) H0 J (ck J ew) (fun _=>aS) ⟨[I j],[],J,⟨J,B3⟩,J⟩ J au ?_
 intro g0 w0 bW H1
 refine ak (v:=.slice (some ⟨g0,0,none⟩) 1 1) J J<|aq<|sq<|az<|ai J i0<|ai J i2<|k<|ia (H1.rv 1 J) J J J J aj cM aU ?_
 intro iG x0 aM cw
 refine k<|mP cw.w aU J J ?_
 intro cu
 refine ak (v:=I x0) J J<|aq<|bk<|lp (fun m f w'=>∃(t:Nat) (l:aA) (a:Int) (a0:OA) (c0:Nat),m=t+1∧f 0=sL Nx vb Na∧f 1=I i∧f 7=sL a0 l c0∧f 8=I a∧HI M w w' [oL w 3 a0 l c0,J0]∧(1≤t∧t<(vB vb i j).length)∧(l=((vB vb i j).drop t).reverse)∧((vB vb i j)[t-1]? =some a)) _ ⟨((vB vb i j).length-1),[j],x0,(some ⟨g0,0,none⟩),1,J,i0,i1,J,(bH J),H1,aj,(by exact aa6 EI),(by exact Xl EI aM)⟩ ?_
 rintro _ f0 w1 ⟨t,l,a,a0,c0,rfl,s0,s1,s2,s3,H2,ht,hs,gM⟩
 refine sq<|bk<|sq ?_
 have hL_:l.length=(vB vb i j).length-t:=by rw[hs];simp
 have ha_:=UC EI gM
 refine rg<|ai J s2<|ai J s3<|k<|bs (xs:=([a]:aA)) (cells:=#[I a]) (e:=3) H2 J (ck J ew) (fun _=>aS) ⟨[I a],[],J,⟨J,(show aK (a) from aR)⟩,J⟩ J au ?_
 intro g1 w2 df H3
 refine k<|lV H3 1 J J J J J J (gX<|H3.at_ 0 J) cM aU J (by simp;omega) J ?_
 let J1:=own w.heap.size 3 (.slice (some ⟨g1,0,none⟩) 1 1) ([a]:aA)
 intro a1 c1 w3 (H4:HI M w w3 [J1,oL w 3 a1 (l++([a]:aA)) c1,J0])
 refine ak (v:=sL a1 (l++([a]:aA)) c1) J J<|bw<|ai J s3<|ai J s1<|k<|eql J J J J<|z<|nx<|cd (b:=decide (a=i)) J J (fun b0=>?_)<|fun b0=>?_
 ·
  have p0:=dT b0
  refine ex<|Wl au<|aT<|aY<|bf<|cO<|ai (v:=sL a1 (l++([a]:aA)) c1) J J<|k ?_
  have H5:HI M w w3 ([oL w 3 a1 (l++([a]:aA)) c1]++[J1,J0]):=H4.bV [1,0,2] au J
  have bR:=NT (dU:=a1) (dN:=c1) (xs:=(l++([a]:aA))) (w:=w) (w_:=w3) (r:=[J1,J0]) (M:=M) H5
  refine ca agd J (ec J e0) bR ?_
  rintro _ w4 ⟨rfl,H6⟩
  have H7:HI M w w4 [own w.heap.size 3 (.slice a1 (l++([a]:aA)).length c1) ((l++([a]:aA)).reverse),J1,J0]:=H6
  refine bw<|ai (v:=sL a1 (l++([a]:aA)) c1) J J<|ak (v:=sL a1 (l++([a]:aA)) c1) J J<|aq<|rt<|r1 J J ?_
  have e0:(((l++([a]:aA)).reverse):aA)=vB vb i j:=by exact aeV EI aj aj gM bt hs
  have l0:(l++([a]:aA)).length=(vB vb i j).length:=by rw[←e0];simp
  have bq:=iF (fun (u6:Nat)=>(.slice a1 u6 c1:Value)) l0
  exact⟨a1,c1,bq,H7.below,(an0 (fun (n_:Nat)=>bl _ _ _ (vB vb i j) (.slice a1 n_ c1) _) l0).mp ((an0 (fun (x_:aA)=>bl _ _ _ x_ (.slice a1 (l++([a]:aA)).length c1) _) e0).mp (H7.dt 0 J))⟩
 have p0:=dF b0
 refine sk<|aF<|nx<|rg<|ai J s0<|ai J s3<|k<|ia (H4.rv 2 J) J J J J aj cM aU ?_
 intro ry x1 cQ gN
 refine k<|mP gN.w aU J J ?_
 intro ee
 refine ak (v:=I x1) J J<|z ?_
 have H5:HI M w w3 [oL w 3 a1 (l++([a]:aA)) c1,J0]:=H4.bV [1,2] au J
 refine bF _ ?_ ⟨(t-1),(l++([a]:aA)),x1,a1,c1,J,s0,s1,J,(bH J),H5,(by have h_:=Zg EI aj gM bt;omega),(by exact PO EI aj aj gM hs),(by exact aa7 EI aj aj gM bt cQ)⟩
 omega
theorem aga:cx aI 190:=cF Tryz.func190
theorem age:cx aI 176:=cF Tryz.func176
theorem afU (cQ:x=1#64):Calls aI 190 #[ag x,ag y] w (cm fun v w'=>v=.tuple #[ag (0#64),ag y]∧Ext w w'):=by
 refine dx 51 Tryz.func190 J J J qk fun f0 ha H=>?_
 have i0:f0 0=ag x:=ha 0 bj
 have i1:f0 1=ag y:=ha 1 bj
 refine az<|ak (v:=ag (0#64)) J J<|ak (v:=ag (0#64)) J J<|bw<|ai J i0<|k<|DA x (4294967295#64) J J J J<|ak (v:=ag (x &&& (4294967295#64))) J J<|bw<|ai J i0<|k<|DW x 32 J J J J<|ak (v:=ag (x >>> 32)) J J<|bw<|ai J i1<|k<|DA y (4294967295#64) J J J J<|ak (v:=ag (y &&& (4294967295#64))) J J<|bw<|ai J i1<|k<|DW y 32 J J J J<|ak (v:=ag (y >>> 32)) J J<|bw<|ai (v:=ag (x &&& (4294967295#64))) J J<|ai (v:=ag (y &&& (4294967295#64))) J J<|k<|FJ (x &&& (4294967295#64)) (y &&& (4294967295#64)) J J J J<|ak (v:=ag ((x &&& (4294967295#64))*(y &&& (4294967295#64)))) J J<|bw<|ai (v:=ag (x >>> 32)) J J<|ai (v:=ag (y &&& (4294967295#64))) J J<|k<|FJ (x >>> 32) (y &&& (4294967295#64)) J J J J<|ai (v:=ag ((x &&& (4294967295#64))*(y &&& (4294967295#64)))) J J<|k<|DW ((x &&& (4294967295#64))*(y &&& (4294967295#64))) 32 J J J J<|k<|IY ((x >>> 32)*(y &&& (4294967295#64))) (((x &&& (4294967295#64))*(y &&& (4294967295#64))) >>> 32) J J J J<|ak (v:=ag (((x >>> 32)*(y &&& (4294967295#64)))+(((x &&& (4294967295#64))*(y &&& (4294967295#64))) >>> 32))) J J<|bw<|ai (v:=ag (((x >>> 32)*(y &&& (4294967295#64)))+(((x &&& (4294967295#64))*(y &&& (4294967295#64))) >>> 32))) J J<|k<|DA (((x >>> 32)*(y &&& (4294967295#64)))+(((x &&& (4294967295#64))*(y &&& (4294967295#64))) >>> 32)) (4294967295#64) J J J J<|ak (v:=ag ((((x >>> 32)*(y &&& (4294967295#64)))+(((x &&& (4294967295#64))*(y &&& (4294967295#64))) >>> 32)) &&& (4294967295#64))) J J<|bw<|ai (v:=ag (((x >>> 32)*(y &&& (4294967295#64)))+(((x &&& (4294967295#64))*(y &&& (4294967295#64))) >>> 32))) J J<|k<|DW (((x >>> 32)*(y &&& (4294967295#64)))+(((x &&& (4294967295#64))*(y &&& (4294967295#64))) >>> 32)) 32 J J J J<|ak (v:=ag ((((x >>> 32)*(y &&& (4294967295#64)))+(((x &&& (4294967295#64))*(y &&& (4294967295#64))) >>> 32)) >>> 32)) J J<|bw<|ai (v:=ag ((((x >>> 32)*(y &&& (4294967295#64)))+(((x &&& (4294967295#64))*(y &&& (4294967295#64))) >>> 32)) &&& (4294967295#64))) J J<|ai (v:=ag (x &&& (4294967295#64))) J J<|ai (v:=ag (y >>> 32)) J J<|k<|FJ (x &&& (4294967295#64)) (y >>> 32) J J J J<|k<|IY ((((x >>> 32)*(y &&& (4294967295#64)))+(((x &&& (4294967295#64))*(y &&& (4294967295#64))) >>> 32)) &&& (4294967295#64)) ((x &&& (4294967295#64))*(y >>> 32)) J J J J<|ak (v:=ag (((((x >>> 32)*(y &&& (4294967295#64)))+(((x &&& (4294967295#64))*(y &&& (4294967295#64))) >>> 32)) &&& (4294967295#64))+((x &&& (4294967295#64))*(y >>> 32)))) J J<|bw<|ai (v:=ag (x >>> 32)) J J<|ai (v:=ag (y >>> 32)) J J<|k<|FJ (x >>> 32) (y >>> 32) J J J J<|ai (v:=ag ((((x >>> 32)*(y &&& (4294967295#64)))+(((x &&& (4294967295#64))*(y &&& (4294967295#64))) >>> 32)) >>> 32)) J J<|k<|IY ((x >>> 32)*(y >>> 32)) ((((x >>> 32)*(y &&& (4294967295#64)))+(((x &&& (4294967295#64))*(y &&& (4294967295#64))) >>> 32)) >>> 32) J J J J<|ai (v:=ag (((((x >>> 32)*(y &&& (4294967295#64)))+(((x &&& (4294967295#64))*(y &&& (4294967295#64))) >>> 32)) &&& (4294967295#64))+((x &&& (4294967295#64))*(y >>> 32)))) J J<|k<|DW (((((x >>> 32)*(y &&& (4294967295#64)))+(((x &&& (4294967295#64))*(y &&& (4294967295#64))) >>> 32)) &&& (4294967295#64))+((x &&& (4294967295#64))*(y >>> 32))) 32 J J J J<|k<|IY (((x >>> 32)*(y >>> 32))+((((x >>> 32)*(y &&& (4294967295#64)))+(((x &&& (4294967295#64))*(y &&& (4294967295#64))) >>> 32)) >>> 32)) ((((((x >>> 32)*(y &&& (4294967295#64)))+(((x &&& (4294967295#64))*(y &&& (4294967295#64))) >>> 32)) &&& (4294967295#64))+((x &&& (4294967295#64))*(y >>> 32))) >>> 32) J J J J<|ak (v:=ag ((((x >>> 32)*(y >>> 32))+((((x >>> 32)*(y &&& (4294967295#64)))+(((x &&& (4294967295#64))*(y &&& (4294967295#64))) >>> 32)) >>> 32))+((((((x >>> 32)*(y &&& (4294967295#64)))+(((x &&& (4294967295#64))*(y &&& (4294967295#64))) >>> 32)) &&& (4294967295#64))+((x &&& (4294967295#64))*(y >>> 32))) >>> 32))) J J<|bw<|ai J i0<|ai J i1<|k<|FJ x y J J J J<|ak (v:=ag (x*y)) J J<|aq<|rt<|r2 J J J ?_
 have e0:((((x >>> 32)*(y >>> 32))+((((x >>> 32)*(y &&& (4294967295#64)))+(((x &&& (4294967295#64))*(y &&& (4294967295#64))) >>> 32)) >>> 32))+((((((x >>> 32)*(y &&& (4294967295#64)))+(((x &&& (4294967295#64))*(y &&& (4294967295#64))) >>> 32)) &&& (4294967295#64))+((x &&& (4294967295#64))*(y >>> 32))) >>> 32):bp)=0#64:=by exact aal cQ
 have e1:(x*y:bp)=y:=by rw[cQ];simp
 have bq:=nG (fun (b9:bp) (dO:bp)=>(.tuple #[ag b9,ag dO]:Value)) e0 e1
 exact⟨bq,H.below⟩
theorem mul (cQ:x=1#64):Calls aI 176 #[ag x,ag y] w (cm fun v w'=>v=.tuple #[ag (0#64),ag y]∧Ext w w'):=by
 refine dx 30 Tryz.func176 J J J qk fun f0 ha H=>?_
 have i0:f0 0=ag x:=ha 0 bj
 have i1:f0 1=ag y:=ha 1 bj
 refine az<|ak (v:=ag (0#64)) J J<|ak (v:=ag (0#64)) J J<|aq<|sq<|pk J J J<|sk<|cO<|ai J i0<|ai J i1<|k ?_
 have bR:=afU (x:=x) (y:=y) (w:=w) aj
 refine ca aga J (ec J<|ec J e0) bR ?_
 rintro _ w0 ⟨rfl,bW⟩
 have H0:=H.ext bW
 refine ai (v:=.tuple #[ag (0#64),ag y]) J J<|k<|xt J J J<|k<|xt J J J<|ak (v:=ag (0#64)) J J<|ak (v:=ag y) J J<|bw<|ai (v:=ag (0#64)) J J<|ai (v:=ag y) J J<|ak (v:=ag (0#64)) J J<|ak (v:=ag y) J J<|aq<|rt<|r2 J J J ?_
 exact⟨J,H0.below⟩
theorem Qw (hM:eJ M w) (adR:cA M w dU dN xs) (ME:aK n) (cQ:xs.length=1) (BW:1≤n) (Tn:n≤4096):Calls aI 154 #[sL dU xs dN,I n] w (cm fun v w'=>∃(a0:OA) (c0:Nat),v=.slice a0 (List.replicate n.toNat (xs.headD 0)).length c0∧Ext w w'∧bl M 3 w (List.replicate n.toNat (xs.headD 0)) (.slice a0 (List.replicate n.toNat (xs.headD 0)).length c0) w'):=by
 refine dx 48 Tryz.func154 J J J hM fun f0 ha H=>?_
 let J0:=iL dU xs dN
 have H0:=H.put (it:=J0) J<|by rw[bP];exact adR
 have GY:=bg adR
 have i0:f0 0=sL dU xs dN:=ha 0 bj
 have i1:f0 1=I n:=ha 1 bj
 refine az<|ak (v:=.slice none 0 0) J J<|aq<|sq<|az<|ai J i1<|k<|lss J J J J<|z<|nx ?_
 have BQ:(decide (n<0))=false:=(by rw[aob];omega)
 refine pk J J BQ<|sk<|cO<|ai J i0<|k<|dL J J cM<|k<|PE J J zU DV<|ai J i1<|k<|PE J J zU DV<|k ?_
 have bR:=mul (x:=(BitVec.ofInt 64 (xs.length:Int))) (y:=(BitVec.ofInt 64 n)) (w:=w)<|by rw[cQ];rfl
 refine ca age J (ec J<|ec J e0) bR ?_
 rintro _ w0 ⟨rfl,bW⟩
 have H1:=H0.ext bW
 refine ai (v:=.tuple #[ag (0#64),ag (BitVec.ofInt 64 n)]) J J<|k<|xt J J J<|k<|xt J J J<|ak (v:=ag (0#64)) J J<|ak (v:=ag (BitVec.ofInt 64 n)) J J<|aq<|sq<|az<|ai (v:=ag (0#64)) J J<|k<|YV (0#64) (0#64) J J J J<|ai (v:=.bool (decide ((0#64).toNat<(0#64).toNat))) J J ?_
 have Le:(decide ((0#64).toNat<(0#64).toNat))=false:=au
 refine aZ J J J Le<|mv (v:=ag (BitVec.ofInt 64 n)) J J<|aZ J J J Le<|YV (BitVec.ofInt 64 n) (9223372036854775807#64) J J J J<|k<|dG J J J J Le J<|z<|nx ?_
 have tr2:(decide ((9223372036854775807#64).toNat<(BitVec.ofInt 64 n).toNat))=false:=(by rw[aob,Ih aj Tn];simp;omega)
 refine pk J J tr2<|sk<|nx<|sq ?_
 have C_:=Ih (n:=n) aj Tn
 refine rg<|ai (v:=ag (BitVec.ofInt 64 n)) J J<|k<|Zc J J aR DV zU<|k<|mk (m:=(BitVec.ofInt 64 n).toNat) (zx:=(0:Int)) H1 J J J J cM aU (fun _ _=>⟨J,by unfold aK;omega⟩) aj aj ?_
 intro g0 w1 df (H2:HI M w w1 [own w.heap.size 3 (.slice (some ⟨g0,0,none⟩) ((BitVec.ofInt 64 n).toNat) ((BitVec.ofInt 64 n).toNat)) (List.replicate ((BitVec.ofInt 64 n).toNat) (0:Int)),J0])
 refine ak (v:=.slice (some ⟨g0,0,none⟩) ((BitVec.ofInt 64 n).toNat) ((BitVec.ofInt 64 n).toNat)) J J<|bw<|ai (v:=.slice (some ⟨g0,0,none⟩) ((BitVec.ofInt 64 n).toNat) ((BitVec.ofInt 64 n).toNat)) J J<|ai J i0<|k<|akg H2 0 J J J J J J (H2.rv 1 J).src cM aU (by have h_:=Ih (n:=n) aj Tn;rw[oz,h_];omega) aj ?_
 intro w2 (H3:HI M w w2 [own w.heap.size 3 (.slice (some ⟨g0,0,none⟩) ((BitVec.ofInt 64 n).toNat) ((BitVec.ofInt 64 n).toNat)) (xs++(List.replicate ((BitVec.ofInt 64 n).toNat) (0:Int)).drop xs.length),J0])
 refine ak (v:=I (xs.length:Int)) J J<|aq<|sq<|bk<|lp (fun m f w'=>∃(q:Nat) (ys:aA),m=n.toNat-q∧f 7=.slice (some ⟨g0,0,none⟩) ((BitVec.ofInt 64 n).toNat) ((BitVec.ofInt 64 n).toNat)∧f 8=I (q:Int)∧HI M w w' [own w.heap.size 3 (.slice (some ⟨g0,0,none⟩) ((BitVec.ofInt 64 n).toNat) ((BitVec.ofInt 64 n).toNat)) ys,J0]∧(1≤q∧q≤n.toNat)∧(ys.length=n.toNat)∧(ys.take q=List.replicate q (xs.headD 0))) _ ⟨1,(xs++(List.replicate ((BitVec.ofInt 64 n).toNat) (0:Int)).drop xs.length),J,J,(bH J),H3,aj,(by exact(Jj (m:=n.toNat) cQ aj<|by rw[oz,C_]).1),(by exact(Jj (m:=n.toNat) cQ aj<|by rw[oz,C_]).2)⟩ ?_
 rintro _ f0 w3 ⟨q,ys,rfl,s0,s1,H4,sI,tY,hs⟩
 refine sq<|az<|ai J s1<|ai J s0<|k<|dL J J cM<|k<|lss J J J J<|z<|nx<|cd (b:=decide ((q:Int)<(((BitVec.ofInt 64 n).toNat):Int))) J J (fun b0=>?_)<|fun b0=>?_
 ·
  have p0:=dT b0
  refine sk<|nx<|bk ?_
  let J1:=own w.heap.size 3 (.slice (some ⟨g0,0,none⟩) ((BitVec.ofInt 64 n).toNat) ((BitVec.ofInt 64 n).toNat)) ys
  have H6:HI M w w3 [J0,J1]:=H4.bV [1,0] au J
  let J2:=own w.heap.size 3 (.slice (some ⟨g0,0,none⟩) ((BitVec.ofInt 64 n).toNat) ((BitVec.ofInt 64 n).toNat)) (Gc ys ((q:Int).toNat))
  refine W4 [none,none,none,none,none,none,none,none,none,none,some 7] [0,0,0,6,0,0,48,126,255,511] [fun _=>[],fun _=>[],fun _=>[],fun _=>[],fun _=>[],fun _=>[],fun _=>[],fun v_=>[J2],fun _=>[],fun _=>[],fun _=>[J1]] [[],[],[],[10],[],[],[10],[10],[],[]] [fun v_=>v_=I (q:Int),fun v_=>v_=.slice (some ⟨g0,0,none⟩) ((BitVec.ofInt 64 n).toNat) ((BitVec.ofInt 64 n).toNat),fun v_=>v_=I (q:Int),fun v_=>v_=.slice (mo (some ⟨g0,0,none⟩) ((BitVec.ofInt 64 n).toNat) (q:Int).toNat) (((BitVec.ofInt 64 n).toNat)-(q:Int).toNat) ((BitVec.ofInt 64 n).toNat-(q:Int).toNat),fun v_=>v_=.slice (some ⟨g0,0,none⟩) ((BitVec.ofInt 64 n).toNat) ((BitVec.ofInt 64 n).toNat),fun v_=>v_=I (q:Int),fun v_=>v_=.slice (mo (some ⟨g0,0,none⟩) ((BitVec.ofInt 64 n).toNat) 0) ((q:Int).toNat) (BitVec.ofInt 64 n).toNat,fun v_=>v_=I ((min ((q:Int).toNat) (ys.length-((q:Int).toNat)):Nat):Int),fun v_=>v_=I ((q:Int)+((min ((q:Int).toNat) (ys.length-((q:Int).toNat)):Nat):Int)),fun v_=>v_=I ((q:Int)+((min ((q:Int).toNat) (ys.length-((q:Int).toNat)):Nat):Int))] [J0] J aS J H6 ?_ ?_
  ·
   refine⟨fun f1 w5 V_ eE l5 hp0 hq0 H7=>?_,?_⟩
   ·
    have H8:HI M w w5 ([J0]++eE):=(by have h_:HI M w w5 ([J0]++(eE)):=H7;exact h_)
    refine mv J ((hq0 9 _ J J<|by exact .inr rfl).trans s1) ?_
    exact⟨_,J,J,H8⟩
   refine⟨fun f2 w6 V_ eE Hc JI JC dE=>?_,?_⟩
   ·
    have cV:HI M w w6 ([J0]++eE):=(by have h_:HI M w w6 ([J0]++(eE)):=dE;exact h_)
    refine mv J ((Hc 7 J).trans s0) ?_
    exact⟨_,J,J,cV⟩
   refine⟨fun f3 w7 V_ eE gM Tl nC cL=>?_,?_⟩
   ·
    have cH:HI M w w7 ([J0]++eE):=(by have h_:HI M w w7 ([J0]++(eE)):=cL;exact h_)
    refine mv J ((nC 9 _ J J<|by exact .inr rfl).trans s1) ?_
    exact⟨_,J,J,cH⟩
   refine⟨fun f4 w8 V_ eE Ap vf EE dA=>?_,?_⟩
   ·
    obtain⟨e0,q0⟩:=vf 1 _ rfl rfl rfl
    have e1:V_ 1=.slice (some ⟨g0,0,none⟩) ((BitVec.ofInt 64 n).toNat) ((BitVec.ofInt 64 n).toNat):=q0
    have s2:f4 39=.slice (some ⟨g0,0,none⟩) ((BitVec.ofInt 64 n).toNat) ((BitVec.ofInt 64 n).toNat):=e0.trans e1
    obtain⟨e2,q1⟩:=vf 2 _ rfl rfl rfl
    have e3:V_ 2=I (q:Int):=q1
    have s3:f4 40=I (q:Int):=e2.trans e3
    have cT:HI M w w8 ([J0,J1]++eE):=(by have h_:HI M w w8 ([J0]++([J1]++(eE))):=dA;exact h_)
    refine abH (cT.at_ 1 J) J J s2 s3 aj cM aU ?_
    exact⟨_,J,J,cT⟩
   refine⟨fun f5 w9 V_ eE Yr BV ED dI=>?_,?_⟩
   ·
    have cG:HI M w w9 ([J0]++eE):=(by have h_:HI M w w9 ([J0]++(eE)):=dI;exact h_)
    refine mv J ((Yr 7 J).trans s0) ?_
    exact⟨_,J,J,cG⟩
   refine⟨fun f6 dP V_ eE hs5 JH hq5 dD=>?_,?_⟩
   ·
    have eR:HI M w dP ([J0]++eE):=(by have h_:HI M w dP ([J0]++(eE)):=dD;exact h_)
    refine mv J ((hq5 9 _ J J<|by exact .inr rfl).trans s1) ?_
    exact⟨_,J,J,eR⟩
   refine⟨fun f7 ey V_ eE hs6 JF hq6 gW=>?_,?_⟩
   ·
    obtain⟨e4,q2⟩:=JF 4 _ rfl rfl rfl
    have e5:V_ 4=.slice (some ⟨g0,0,none⟩) ((BitVec.ofInt 64 n).toNat) ((BitVec.ofInt 64 n).toNat):=q2
    have s4:f7 42=.slice (some ⟨g0,0,none⟩) ((BitVec.ofInt 64 n).toNat) ((BitVec.ofInt 64 n).toNat):=e4.trans e5
    obtain⟨e6,q3⟩:=JF 5 _ rfl rfl rfl
    have e7:V_ 5=I (q:Int):=q3
    have s5:f7 43=I (q:Int):=e6.trans e7
    have jf:HI M w ey ([J0,J1]++eE):=(by have h_:HI M w ey ([J0]++([J1]++(eE))):=gW;exact h_)
    refine abI (jf.at_ 1 J) J J s4 s5 aj cM aU ?_
    exact⟨_,J,J,jf⟩
   refine⟨fun f8 fq V_ eE hs7 EG hq7 nu=>?_,?_⟩
   ·
    obtain⟨e8,q4⟩:=EG 3 _ rfl rfl rfl
    have e9:V_ 3=.slice (mo (some ⟨g0,0,none⟩) ((BitVec.ofInt 64 n).toNat) (q:Int).toNat) (((BitVec.ofInt 64 n).toNat)-(q:Int).toNat) ((BitVec.ofInt 64 n).toNat-(q:Int).toNat):=q4
    have s6:f8 41=.slice (mo (some ⟨g0,0,none⟩) ((BitVec.ofInt 64 n).toNat) (q:Int).toNat) (((BitVec.ofInt 64 n).toNat)-(q:Int).toNat) ((BitVec.ofInt 64 n).toNat-(q:Int).toNat):=e8.trans e9
    obtain⟨Uh,q5⟩:=EG 6 _ rfl rfl rfl
    have rU:V_ 6=.slice (mo (some ⟨g0,0,none⟩) ((BitVec.ofInt 64 n).toNat) 0) ((q:Int).toNat) (BitVec.ofInt 64 n).toNat:=q5
    have s7:f8 44=.slice (mo (some ⟨g0,0,none⟩) ((BitVec.ofInt 64 n).toNat) 0) ((q:Int).toNat) (BitVec.ofInt 64 n).toNat:=Uh.trans rU
    have jm:HI M w fq ([J0,J1]++eE):=(by have h_:HI M w fq ([J0]++([J1]++(eE))):=nu;exact h_)
    refine akh jm 1 J J J J (q:=(q:Int).toNat) s6 s7 cM aU aj ?_
    intro iQ (tN:HI M w iQ ([J0,J2]++eE))
    exact⟨_,J,J,tN⟩
   refine⟨fun f9 j1 V_ eE Yq BU hq8 pq=>?_,?_⟩
   ·
    obtain⟨sQ,q6⟩:=BU 0 _ rfl rfl rfl
    have rT:V_ 0=I (q:Int):=q6
    have s8:f9 38=I (q:Int):=sQ.trans rT
    obtain⟨tH,q7⟩:=BU 7 _ rfl rfl rfl
    have tG:V_ 7=I ((min ((q:Int).toNat) (ys.length-((q:Int).toNat)):Nat):Int):=q7
    have s9:f9 45=I ((min ((q:Int).toNat) (ys.length-((q:Int).toNat)):Nat):Int):=tH.trans tG
    have kU:HI M w j1 ([J0]++eE):=(by have h_:HI M w j1 ([J0]++(eE)):=pq;exact h_)
    refine add J J s8 s9 aR ?_
    exact⟨_,J,J,kU⟩
   refine⟨fun f10 rm V_ eE hs9 EF hq9 lg=>?_,?_⟩
   ·
    obtain⟨e16,q8⟩:=EF 8 _ rfl rfl rfl
    have e17:V_ 8=I ((q:Int)+((min ((q:Int).toNat) (ys.length-((q:Int).toNat)):Nat):Int)):=q8
    have ej:f10 46=I ((q:Int)+((min ((q:Int).toNat) (ys.length-((q:Int).toNat)):Nat):Int)):=e16.trans e17
    have AP:HI M w rm ([J0]++eE):=(by have h_:HI M w rm ([J0]++(eE)):=lg;exact h_)
    refine jM J ej ?_
    exact⟨_,J,J,AP⟩
   exact trivial
  ·
   intro f11 zS V_ ade sm uh
   obtain⟨Ug,q9⟩:=sm 9 _ rfl rfl
   have e19:V_ 9=I ((q:Int)+((min ((q:Int).toNat) (ys.length-((q:Int).toNat)):Nat):Int)):=q9
   have eX:f11 8=I ((q:Int)+((min ((q:Int).toNat) (ys.length-((q:Int).toNat)):Nat):Int)):=Ug.trans e19
   obtain⟨e20,uZ⟩:=sm 7 _ rfl rfl
   have e21:V_ 7=I ((min ((q:Int).toNat) (ys.length-((q:Int).toNat)):Nat):Int):=uZ
   have fD:=(ade 7 J).trans s0
   have mB:HI M w zS [J0,J2]:=(by have h_:HI M w zS ([J0]++([]++([]++([]++([]++([]++([]++([]++([J2]++([]++([]++([])))))))))))):=uh;exact h_)
   refine aF ?_
   have wu:HI M w zS [J2,J0]:=mB.bV [1,0] au J
   refine bF _ ?_ ⟨(q+min q (ys.length-q)),(Gc ys<|(q:Int).toNat),J,fD,(bH eX),wu,aj,(by exact(W_ aj).trans tY),(by exact VA hs tY aj)⟩
   omega
 have p0:=dF b0
 refine ex<|aT<|aY<|bf<|cO<|ai J s0<|ak (v:=.slice (some ⟨g0,0,none⟩) ((BitVec.ofInt 64 n).toNat) ((BitVec.ofInt 64 n).toNat)) J J<|aq<|rt<|r1 J J ?_
 have e0:(ys:aA)=List.replicate n.toNat (xs.headD 0):=by exact Z_ hs tY aj aj
 have l0:((BitVec.ofInt 64 n).toNat)=(List.replicate n.toNat (xs.headD 0)).length:=by rw[oz,C_]
 have bq:=iF (fun (u6:Nat)=>(.slice (some ⟨g0,0,none⟩) u6 ((BitVec.ofInt 64 n).toNat):Value)) l0
 exact⟨(some ⟨g0,0,none⟩),((BitVec.ofInt 64 n).toNat),bq,H4.below,(an0 (fun (n_:Nat)=>bl _ _ _ (List.replicate n.toNat<|xs.headD 0) (.slice (some ⟨g0,0,none⟩) n_ ((BitVec.ofInt 64 n).toNat)) _) l0).mp ((an0 (fun (x_:aA)=>bl _ _ _ x_ (.slice (some ⟨g0,0,none⟩) ((BitVec.ofInt 64 n).toNat) ((BitVec.ofInt 64 n).toNat)) _) e0).mp (H4.dt 0 J))⟩
theorem agm:cx aI 154:=cF Tryz.func154
theorem agl:cx aI 155:=cF Tryz.func155
theorem SF (hM:eJ M w) (hT:fS 0 w) (fY:aK mn) (gr:cA M w bC bB mr) (qT:aK i) (B3:aK j) (bZ:bJ mn mr=true):Calls aI 115 #[.agg #[I mn,sL bC mr bB],I i,I j] w (cm fun v w'=>∃(a0:OA) (c0:Nat),v=.tuple #[.slice a0 ((fu mn mr i j).getD []).length c0,.bool ((fu mn mr i j).isSome)]∧Ext w w'∧bl M 3 w ((fu mn mr i j).getD []) (.slice a0 ((fu mn mr i j).getD []).length c0) w'):=by
 refine dx 80 Tryz.func115 J J J hM fun f0 ha H=>?_
 let J0:=iL bC mr bB
 have H0:=H.put (it:=J0) J<|by rw[bP];exact gr
 have nw:=bg gr
 have i0:f0 0=.agg #[I mn,sL bC mr bB]:=ha 0 bj
 have i1:f0 1=I i:=ha 1 bj
 have i2:f0 2=I j:=ha 2 bj
 have tY:=(bQ bZ).1;have JR:=(bQ bZ).2.2.1;have EK:=kX bZ
 refine az<|k<|bx H0 J i0 ?_
 intro aW w0 bW (H1:HI M w w0 [box aW #[I mn,sL bC mr bB] 26,J0])
 let J1:=box aW #[I mn,sL bC mr bB] 26
 refine ak (v:=.slice none 0 0) J J<|ak (v:=.bool false) J J<|aq<|sq<|az<|ai J i1<|k<|lss J J J J<|ai (v:=.bool (decide (i<0))) J J ?_
 rcases bE (decide (i<0)) with b0|b0
 ·
  have p0:=dT b0
  refine aX J J J b0<|aX J J J b0<|aX J J J b0<|aX J J J b0<|k<|aP J J J J b0 J<|ai (v:=.bool true) J J<|aX J J J J<|aX J J J J<|k<|aP J J J J J J<|ai (v:=.bool true) J J<|aX J J J J<|aX J J J J<|aX J J J J<|aX J J J J<|k<|aP J J J J J J<|aq<|oW J J J<|az<|ak (v:=.slice none 0 0) J J<|ak (v:=.bool false) J J<|aq<|rt<|aL<|r2 J J J ?_
  have e0:([]:aA)=(fu mn mr i j).getD []:=by rw[sC aj];rfl
  have e1:(false:Bool)=(fu mn mr i j).isSome:=by rw[sC aj];rfl
  have bq:=nG (fun (b9:aA) (dO:Bool)=>(.tuple #[.slice none b9.length 0,.bool dO]:Value)) e0 e1
  exact⟨none,0,bq,H1.below,(an0 (fun (x_:aA)=>bl _ _ _ x_ (.slice none x_.length 0) _) e0).mp (fQ H1.below)⟩
 have p0:=dF b0
 refine aZ J J J b0<|mv J i1<|aZ J J J b0<|fa kx J J<|aZ J J J b0<|lx H1 0 J aU J J J<|aZ J J J b0<|geq J J J J<|k<|dG J J J J b0 J<|ai (v:=.bool (decide (mn≤i))) J J ?_
 rcases bE (decide (mn≤i)) with b1|b1
 ·
  have p1:=dT b1
  refine aX J J J b1<|aX J J J b1<|k<|aP J J J J b1 J<|ai (v:=.bool true) J J<|aX J J J J<|aX J J J J<|aX J J J J<|aX J J J J<|k<|aP J J J J J J<|aq<|oW J J J<|az<|ak (v:=.slice none 0 0) J J<|ak (v:=.bool false) J J<|aq<|rt<|aL<|r2 J J J ?_
  have e0:([]:aA)=(fu mn mr i j).getD []:=by rw[sC aj];rfl
  have e1:(false:Bool)=(fu mn mr i j).isSome:=by rw[sC aj];rfl
  have bq:=nG (fun (b9:aA) (dO:Bool)=>(.tuple #[.slice none b9.length 0,.bool dO]:Value)) e0 e1
  exact⟨none,0,bq,H1.below,(an0 (fun (x_:aA)=>bl _ _ _ x_ (.slice none x_.length 0) _) e0).mp (fQ H1.below)⟩
 have p1:=dF b1
 refine aZ J J J b1<|mv J i2<|aZ J J J b1<|lss J J J J<|k<|dG J J J J b1 J<|ai (v:=.bool (decide (j<0))) J J ?_
 rcases bE (decide (j<0)) with b2|b2
 ·
  have p2:=dT b2
  refine aX J J J b2<|aX J J J b2<|aX J J J b2<|aX J J J b2<|k<|aP J J J J b2 J<|aq<|oW J J J<|az<|ak (v:=.slice none 0 0) J J<|ak (v:=.bool false) J J<|aq<|rt<|aL<|r2 J J J ?_
  have e0:([]:aA)=(fu mn mr i j).getD []:=by rw[sC aj];rfl
  have e1:(false:Bool)=(fu mn mr i j).isSome:=by rw[sC aj];rfl
  have bq:=nG (fun (b9:aA) (dO:Bool)=>(.tuple #[.slice none b9.length 0,.bool dO]:Value)) e0 e1
  exact⟨none,0,bq,H1.below,(an0 (fun (x_:aA)=>bl _ _ _ x_ (.slice none x_.length 0) _) e0).mp (fQ H1.below)⟩
 have p2:=dF b2
 refine aZ J J J b2<|mv J i2<|aZ J J J b2<|fa kx J J<|aZ J J J b2<|lx H1 0 J aU J J J<|aZ J J J b2<|geq J J J J<|k<|dG J J J J b2 J<|z<|nx<|cd (b:=decide (mn≤j)) J J (fun b3=>?_)<|fun b3=>?_
 ·
  have p3:=dT b3
  refine az<|ak (v:=.slice none 0 0) J J<|ak (v:=.bool false) J J<|aq<|rt<|aL<|r2 J J J ?_
  have e0:([]:aA)=(fu mn mr i j).getD []:=by rw[sC aj];rfl
  have e1:(false:Bool)=(fu mn mr i j).isSome:=by rw[sC aj];rfl
  have bq:=nG (fun (b9:aA) (dO:Bool)=>(.tuple #[.slice none b9.length 0,.bool dO]:Value)) e0 e1
  exact⟨none,0,bq,H1.below,(an0 (fun (x_:aA)=>bl _ _ _ x_ (.slice none x_.length 0) _) e0).mp (fQ H1.below)⟩
 have p3:=dF b3
 refine sk<|cO<|k<|bs (xs:=([(-1)]:aA)) (cells:=#[I (-1)]) (e:=3) H1 J (ck J ew) (fun _=>aS) ⟨[I (-1)],[],J,⟨J,(show aK ((-1)) from aR)⟩,J⟩ J au ?_
 intro g0 w1 df H2
 refine aQ kx J J<|bo H2 1 J aU J J J<|k ?_
 have H3:=H2.freeze 0 J
 have bR:=Qw (xs:=([(-1)]:aA)) (n:=mn) H3.mb (H3.rv 0 J) fY (by rfl) aj<|by exact(bQ bZ).2.2.1
 refine ca agm J (ec J<|ec J e0) bR ?_
 rintro _ w2 ⟨a0,c0,rfl,eS,cu⟩
 have H4:=H3.eP cu
 refine ak (v:=sL a0 (List.replicate mn.toNat<|([(-1)]:aA).headD 0) c0) J J<|aq<|sq ?_
 have C7:((mn.toNat:Nat):Int)=mn:=aoC EK
 refine rg<|ai J i1<|k<|bs (xs:=([i]:aA)) (cells:=#[I i]) (e:=3) H4 J (ck J ew) (fun _=>aS) ⟨[I i],[],J,⟨J,qT⟩,J⟩ J au ?_
 intro g1 w3 fH H5
 refine ak (v:=.slice (some ⟨g1,0,none⟩) 1 1) J J<|aq<|sq<|bk ?_
 let J2:=tq (.slice (some ⟨g0,0,none⟩) 1 1) ([(-1)]:aA)
 have H6:HI M w w3 [nJ w.heap.size 3 (.slice (some ⟨g1,0,none⟩) 1 1) ([i]:aA),oL w 3 a0 (List.replicate mn.toNat (([(-1)]:aA).headD 0)) c0,J2,J1,J0]:=H5.toQ 0 J
 let bc:=[tq (.slice (some ⟨g0,0,none⟩) 1 1) ([(-1)]:aA),J1,J0]
 refine lp (fun m f w'=>∃(HP:aA) (td:aA) (a1:OA) (c1:Nat),m=HP.count (-1)+td.length∧f 1=I i∧f 2=I j∧f 3=pV aW 0∧f 8=sL a0 (List.replicate mn.toNat<|([(-1)]:aA).headD 0) c0∧f 9=sL a1 td c1∧HI M w w' (nJ w.heap.size 3 (.slice a1 td.length c1) td::own w.heap.size 3 (.slice a0 (List.replicate mn.toNat<|([(-1)]:aA).headD 0).length c0) HP::bc)∧(P4 mn.toNat (fW mr) i j HP td)∧(HP.length=mn.toNat)∧(HP.count (-1)+td.length≤mn.toNat+1)) _ ⟨(List.replicate mn.toNat<|([(-1)]:aA).headD 0),[i],(some ⟨g1,0,none⟩),1,J,i1,i2,J,J,J,H6,(by exact UI aj aj),bj,(by simp[List.count_replicate_self])⟩ ?_
 rintro _ f0 w4 ⟨HP,td,a1,c1,rfl,s0,s1,s2,s3,s4,H7,hs,hl,BS⟩
 refine sq<|az<|ai J s4<|k<|dL J J cM<|k<|gtr J J J J<|z<|nx<|cd (b:=decide (0<(td.length:Int))) J J (fun b4=>?_)<|fun b4=>?_
 ·
  have p4:=dT b4
  refine sk<|nx<|bk<|az<|ai J s4<|k<|iaQ (H7.at_ 0 J) J J J J aj cM aU ?_
  intro iG x0 aM cw
  refine k<|mP cw aU J J ?_
  intro ee
  refine ak (v:=I x0) J J<|aq<|sq ?_
  have eM:=aeX aj hs aM
  refine rg<|ai J s4<|k<|slQ H7 0 J J J J J aj cM aU ?_
  intro a2 c2 (H8:HI M w w4 [nJ w.heap.size 3 (.slice a2 (td.drop 1).length c2) (td.drop 1),own w.heap.size 3 (.slice a0 (List.replicate mn.toNat (([(-1)]:aA).headD 0)).length c0) HP,J2,J1,J0])
  refine ak (v:=sL a2 (td.drop 1) c2) J J<|bw<|aQ iB J s2<|bo H8 3 J lh J J J<|ai (v:=I x0) J J<|k<|ia (H8.rv 4 J) J J J J aj iq dp ?_
  intro ry x1 cQ gN
  refine k<|va gN.w dp J J ?_
  intro a3 c3 eb
  have Al:=bg eb
  have H9:=dR H8 eb
  refine k ?_
  have cU:=uv (r:=x1) H9.mb (hT.ext H9.below) (H9.rv 0 J)<|by exact(bQ bZ).2.1 _ (dz cQ)
  refine ca IE J (ec J e0) cU ?_
  rintro _ w5 ⟨a4,c4,rfl,jg,fh⟩
  have dE:=H9.eP fh
  refine k<|dL J J cM<|ai (v:=I 0) J J<|aq<|bk ?_
  let J3:=oL w 3 a4 (cY x1) c4
  refine lp (fun m f w'=>∃(q:Nat) (b2:aA) (qE:aA) (a5:OA) (c5:Nat),m=(cY x1).length-q∧f 1=I i∧f 2=I j∧f 3=pV aW 0∧f 8=sL a0 (List.replicate mn.toNat<|([(-1)]:aA).headD 0) c0∧f 9=sL a5 qE c5∧f 10=I x0∧f 50=sL a4 (cY x1) c4∧f 51=I ((cY x1).length:Int)∧f 52=I (q:Int)∧HI M w w' (J3::iL a3 x1 c3::nJ w.heap.size 3 (.slice a5 qE.length c5) qE::own w.heap.size 3 (.slice a0 (List.replicate mn.toNat<|([(-1)]:aA).headD 0).length c0) b2::bc)∧(q≤(cY x1).length)∧(Fa mn.toNat (fW mr) i j b2 qE x0 q)∧(b2.length=mn.toNat)∧(b2.count (-1)+qE.length≤HP.count (-1)+(td.drop 1).length)) _ ⟨0,HP,(td.drop 1),a2,c2,J,s0,s1,s2,s3,J,J,J,J,(bH J),dE,aj,(by exact aa_ aj hs aM),(by exact hl),aj⟩ ?_
  rintro _ f1 w6 ⟨q,b2,qE,a5,c5,rfl,s5,s6,s7,s8,s9,ej,eX,fA,fD,cV,sI,gM,la,Wo⟩
  refine az<|k<|lss J J fD fA<|aq<|sq<|cd (b:=decide ((q:Int)<((cY x1).length:Int))) J J (fun b5=>?_)<|fun b5=>?_
  ·
   have p5:=dT b5
   refine sk<|nx<|sq<|bk<|az<|k<|iz (cV.at_ 0 J) J J eX fD (by have h_:=nf x1;have lE:=(bQ bZ).2.2.2.2 _ (dz cQ);first|omega|(unfold aK;omega)) cM aU ?_
   intro g2 x2 iE gZ kf
   refine k<|mP kf aU J J ?_
   intro jd
   refine ak (v:=I x2) J J<|aq<|sq<|sq ?_
   have Hh:=Sr bZ cQ gZ
   refine rg<|ai J s8<|ai (v:=I x2) J J<|k<|iz (cV.at_ 3 J) J J J J aj cM aU ?_
   intro g3 x3 kT qm sO
   refine k<|mP sO aU J J ?_
   intro jX
   refine k<|neq J J J J<|z<|nx<|cd (b:=!decide (x3=(-1))) J J (fun b6=>?_)<|fun b6=>?_
   ·
    have p6:=dF<|fX b6
    refine ex<|aT<|bf<|nx<|rg<|k<|add J J fD J (by have h_:=nf x1;have lE:=(bQ bZ).2.2.2.2 _ (dz cQ);first|omega|(unfold aK;omega))<|ai (v:=I ((q:Int)+1)) J J<|z<|bF _ ?_ ⟨(q+1),b2,qE,a5,c5,J,s5,s6,s7,s8,s9,ej,eX,fA,(bH J),cV,aj,(by exact Xq gM (by rw[←zY bZ cQ];exact gZ) qm aj),(by exact la),(by exact Wo)⟩
    omega
   have p6:=dT<|fw b6
   refine sk<|cO<|ai J s8<|ai (v:=I x2) J J<|ai J ej<|k<|iz (cV.at_ 3 J) J J J J aj cM aU ?_
   intro g4 x4 BT xD wc
   refine k<|qj cV 3 J BT J aj aU J J J J (RV.int.2 ⟨J,aR⟩) ?_
   let J4:=own w.heap.size 3 (.slice a0 (List.replicate mn.toNat (([(-1)]:aA).headD 0)).length c0) (b2.set x2.toNat x0)
   intro w7 (dm:HI M w w7 [J3,iL a3 x1 c3,nJ w.heap.size 3 (.slice a5 qE.length c5) qE,J4,J2,J1,J0])
   refine aq<|sq<|az<|ai (v:=I x2) J J<|ai J s6<|k<|eql J J J J<|z<|nx<|cd (b:=decide (x2=j)) J J (fun b7=>?_)<|fun b7=>?_
   ·
    have p7:=dT b7
    refine sq ?_
    obtain⟨w_,acZ,Wq⟩:=UH ⟨by omega,by omega⟩ gM (by rw[←zY bZ cQ];exact gZ) qm aj bt aj
    have QT:=aeW acZ
    refine rg<|ai J s8<|ai J s5<|ai J s6<|k ?_
    have Ub:((List.replicate mn.toNat (([(-1)]:aA).headD 0)).length:Nat)=(b2.set x2.toNat x0).length:=LP<|dm.at_ 3 J
    let bX:=[tq (.slice (some ⟨g0,0,none⟩) 1 1) ([(-1)]:aA),box aW #[I mn,sL bC mr bB] 26,iL bC mr bB]
    have cL:HI M w w7 (oL w 3 a4 (cY x1) c4::iL a3 x1 c3::nJ w.heap.size 3 (.slice a5 qE.length c5) qE::oL w 3 a0 (b2.set x2.toNat x0) c0::bX):=(by have h_:HI M w w7 (oL w 3 a4 (cY x1) c4::iL a3 x1 c3::nJ w.heap.size 3 (.slice a5 qE.length c5) qE::own w.heap.size 3 (.slice a0 (List.replicate mn.toNat<|([(-1)]:aA).headD 0).length c0) (b2.set x2.toNat x0)::bX):=dm;rw[Ub] at h_;exact h_)
    have cH:=cL.freeze 3 J
    have fU:=SE (vb:=(b2.set x2.toNat x0)) (i:=i) (j:=j) cH.mb (cH.rv 3 J) qT B3 (by rw[QT];exact acZ)<|by have h_:=Gk (Gi Wq) aj;rw[QT];unfold rD;rw[aoo];omega
    refine ca agl J (ec (Eq.trans (b:=(.slice a0 (List.replicate mn.toNat<|([(-1)]:aA).headD 0).length c0:Value)) rfl (an0 (fun n_=>Value.slice a0 n_ c0) Ub))<|ec J<|ec J e0) fU ?_
    rintro _ w8 ⟨a6,c6,rfl,jr,iU⟩
    have dV:=cH.eP iU
    refine ak (v:=sL a6 (vB (b2.set x2.toNat x0) i j) c6) J J<|ak (v:=.bool true) J J<|aq<|rt<|aL<|bS<|aL<|dY<|bS<|bS<|dY<|bS<|aL<|r2 J J J ?_
    have e0:(vB (b2.set x2.toNat x0) i j:aA)=(fu mn mr i j).getD []:=by rw[Aa aj,Wq];first|exact QT|rfl
    have e1:(true:Bool)=(fu mn mr i j).isSome:=by rw[Aa aj,Wq];first|exact QT|rfl
    have bq:=nG (fun (b9:aA) (dO:Bool)=>(.tuple #[.slice a6 b9.length c6,.bool dO]:Value)) e0 e1
    exact⟨a6,c6,bq,dV.below,(an0 (fun (x_:aA)=>bl _ _ _ x_ (.slice a6 x_.length c6) _) e0).mp (dV.dt 0 J)⟩
   have p7:=dF b7
   refine sk<|cO<|ai (v:=I x2) J J<|ai J s5<|k<|neq J J J J<|z<|nx<|cd (b:=!decide (x2=i)) J J (fun b8=>?_)<|fun b8=>?_
   ·
    have p8:=dF<|fX b8
    refine rg<|ai J s9<|ai (v:=I x2) J J<|k<|bs (xs:=([x2]:aA)) (cells:=#[I x2]) (e:=3) dm J (ck J ew) (fun _=>aS) ⟨[I x2],[],J,⟨J,(show aK (x2) from aR)⟩,J⟩ J au ?_
    intro g5 w8 jr cL
    refine k<|apQ cL 3 J J J J J J (gX<|cL.at_ 0 J) bj cM aU J (by (simp only[iS,gA];have h_:=aog (l:=td) (i:=1);omega)) (by (simp only[iS,gA];have h_:=aog (l:=td) (i:=1);omega)) ?_
    intro a6 c6 w9 (cH:HI M w w9 [own w.heap.size 3 (.slice (some ⟨g5,0,none⟩) 1 1) ([x2]:aA),J3,iL a3 x1 c3,nJ w.heap.size 3 (.slice a6 (qE++([x2]:aA)).length c6) (qE++([x2]:aA)),J4,J2,J1,J0])
    refine ak (v:=sL a6 (qE++([x2]:aA)) c6) J J<|z<|aF<|nx<|rg<|k<|add J J fD J (by have h_:=nf x1;have lE:=(bQ bZ).2.2.2.2 _ (dz cQ);first|omega|(unfold aK;omega))<|ai (v:=I ((q:Int)+1)) J J<|z ?_
    have dV:HI M w w9 [J3,iL a3 x1 c3,nJ w.heap.size 3 (.slice a6 (qE++([x2]:aA)).length c6) (qE++([x2]:aA)),J4,J2,J1,J0]:=cH.bV [1,2,3,4,5,6,7] au J
    refine bF _ ?_ ⟨(q+1),(b2.set x2.toNat x0),(qE++([x2]:aA)),a6,c6,J,s5,s6,s7,s8,J,ej,eX,fA,(bH J),dV,aj,(by exact Xr gM (by rw[←zY bZ cQ];exact gZ) qm aj bt bt aj aj),(by rw[an1];exact la),(by exact(GS qm aj aj Wo).2)⟩
    omega
   have p8:=dT<|fw b8
   refine sk<|aF<|nx<|rg<|k<|add J J fD J (by have h_:=nf x1;have lE:=(bQ bZ).2.2.2.2 _ (dz cQ);first|omega|(unfold aK;omega))<|ai (v:=I ((q:Int)+1)) J J<|z<|bF _ ?_ ⟨(q+1),(b2.set x2.toNat x0),qE,a5,c5,J,s5,s6,s7,s8,s9,ej,eX,fA,(bH J),dm,aj,(by exact agX gM (by rw[←zY bZ cQ];exact gZ) qm aj bt aj aj),(by rw[an1];exact la),(by exact(GS qm aj aj Wo).1)⟩
   omega
  have p5:=dF b5
  refine ex<|aT<|aY<|bf<|aF ?_
  have dm:HI M w w6 [nJ w.heap.size 3 (.slice a5 qE.length c5) qE,own w.heap.size 3 (.slice a0 (List.replicate mn.toNat (([(-1)]:aA).headD 0)).length c0) b2,J2,J1,J0]:=cV.bV [2,3,4,5,6] au J
  refine bF _ ?_ ⟨b2,qE,a5,c5,J,s5,s6,s7,s8,s9,dm,(by exact Xs gM (by rw[←zY bZ cQ];omega)),(by exact la),(by have h_:=aog (l:=td) (i:=1);omega)⟩
  have h_:=aog (l:=td) (i:=1);omega
 have p4:=dF b4
 refine ex<|aT<|aY<|bf<|cO<|ak (v:=.slice none 0 0) J J<|ak (v:=.bool false) J J<|aq<|rt<|r2 J J J ?_
 have e0:([]:aA)=(fu mn mr i j).getD []:=by rw[Aa aj,PS hs (Ow bt)];try rfl
 have e1:(false:Bool)=(fu mn mr i j).isSome:=by rw[Aa aj,PS hs (Ow bt)];try rfl
 have bq:=nG (fun (b9:aA) (dO:Bool)=>(.tuple #[.slice none b9.length 0,.bool dO]:Value)) e0 e1
 exact⟨none,0,bq,H7.below,(an0 (fun (x_:aA)=>bl _ _ _ x_ (.slice none x_.length 0) _) e0).mp (fQ H7.below)⟩
theorem l7:gR aI 142 1 3:=jT Tryz.underlying142
theorem nI:ep aI 31 1 false 24 (.slice none 0 0):=⟨aS,aS⟩
theorem AV:ep aI 175 5 true 40 (.agg #[.int .i64 0,.int .i64 0,.int .i64 0,.int .i64 0,.int .i64 0]):=⟨aS,aS⟩
theorem Lb:aI.underlying 31=some (.slice 175):=aS
theorem D':gR aI 142 2 4:=jT Tryz.underlying142
theorem Kz:ep aI 139 1 false 8 (.map none):=⟨aS,aS⟩
theorem Pr:gR aI 175 1 1:=jT Tryz.underlying175
theorem Pq:gR aI 175 2 2:=jT Tryz.underlying175
theorem afH:P1 aI 170 [some (0,0),some (1,0)]:=⟨aS,aS,aS,aS⟩
theorem KD:I1 aI 139:=Wc (by kernel_rfl:aI.underlying 139=some (.map 170 3)) (zr afH) aU
theorem IH:gR aI 142 0 0:=jT Tryz.underlying142
theorem KL:cx aI 117:=cF Tryz.func117
theorem rj:gR aI 142 3 5:=jT Tryz.underlying142
theorem agD:cx aI 115:=cF Tryz.func115
theorem Y4:cx aI 116:=cF Tryz.func116
theorem N0 (fY:aK mn) (H:HI M w w_ ([iL aw U av,iL ay fo ax,iL bC mr bB]++r)):Calls aI 78 #[.agg #[.slice aC aD aB,sL aw U av,sL ay fo ax],.agg #[I mn,sL bC mr bB]] w_ (cm fun v w'=>∃(Zh:Nat) (a0:OA) (c0:Nat) (b1:Nat) (b2:Nat),v=pV Zh 0∧HI M w w' ([box Zh #[.slice aC aD aB,sL aw U av,sL ay fo ax,.slice a0 ([]:List cN).length c0,.map (some b1),I mn,sL bC mr bB,.map (some b2)] 142,oL w 175 a0 ([]:List cN) c0,cb b1 ([]:KV),bU b2 ([]:List ((Int×Int)×Bool)),iL aw U av,iL ay fo ax,iL bC mr bB]++r)):=by
 refine enter 11 Tryz.func78 J J J fun f0 ha=>?_
 have ja:=bg<|H.rv 0 J
 have kR:=bg<|H.rv 1 J
 have nw:=bg<|H.rv 2 J
 have i0:f0 0=.agg #[.slice aC aD aB,sL aw U av,sL ay fo ax]:=ha 0 bj
 have i1:f0 1=.agg #[I mn,sL bC mr bB]:=ha 1 bj
 refine az<|k<|bx H J i0 ?_
 let J1:=iL aw U av
 let J2:=iL ay fo ax
 let J3:=iL bC mr bB
 let bc:=[J1,J2,J3]
 intro aW w0 bW (H0:HI M w w0 ((box aW #[.slice aC aD aB,sL aw U av,sL ay fo ax] 47::bc)++r))
 let J0:=box aW #[.slice aC aD aB,sL aw U av,sL ay fo ax] 47
 refine k<|bx H0 J i1 ?_
 intro ba w1 df (H1:HI M w w1 ((box ba #[I mn,sL bC mr bB] 26::J0::bc)++r))
 let J4:=box ba #[I mn,sL bC mr bB] 26
 refine ak (v:=.pointer none) J J<|bw<|k<|cB H1 1 J dQ J J au J<|k<|mm H1 ?_
 intro dK w2 eS (H2:HI M w w2 ((cb dK ([]:KV)::J4::J0::bc)++r))
 refine k<|cB H2 1 J bm J J au J<|k<|mmP H2 ?_
 let bX:=cb dK ([]:KV)::J4::J0::bc
 intro fR w3 fH (H3:HI M w w3 ((bU fR ([]:List ((Int×Int)×Bool))::bX)++r))
 refine k<|bd (v:=.agg #[.slice aC aD aB,sL aw U av,sL ay fo ax,.slice none 0 0,.map (some dK),I mn,sL bC mr bB,.map (some fR)]) J (ck J<|ck J<|ck J<|ck J ew) (fun _=>aS)<|k<|bx H3 J J ?_
 let dM:=bU fR ([]:List ((Int×Int)×Bool))::bX
 intro bI w4 jg (H4:HI M w w4 ((box bI #[.slice aC aD aB,sL aw U av,sL ay fo ax,.slice none 0 0,.map (some dK),I mn,sL bC mr bB,.map (some fR)] 142::dM)++r))
 let J5:=box bI #[.slice aC aD aB,sL aw U av,sL ay fo ax,.slice none 0 0,.map (some dK),I mn,sL bC mr bB,.map (some fR)] 142
 refine ak (v:=pV bI 0) J J<|aq<|rt<|r1 J J ?_
 have H5:=H4.qf cN 175
 let J6:=own w.heap.size 175 (.slice none 0 0) ([]:List cN)
 have H6:=HI.aP (l:=(J6::J5::dM)) (l':=[J5,J6,cb dK ([]:KV),bU fR ([]:List ((Int×Int)×Bool)),J1,J2,J3]) (t:=r) H5 [1,0,3,2,6,7,8] au J J
 have e0:(([]:List cN):List cN)=([]:List cN):=rfl
 try rw[←e0]
 refine⟨bI,none,0,dK,fR,?_,?_⟩
 · first|rfl|simp only[e0]|(simp only[an1])
 · first|exact H6|simpa +zetaDelta only[e0,an1] using H6
theorem yw {k_:Int} {g_:Int} {h_:Int} (qS:aK pn) (ajj:aK k_) (F0:aK f_) (ID:aK t_) (ajl:aK g_) (ajk:aK h_) (Iy:sp.length≤3000000000000) (H:HI M w w_ ([box cZ #[.slice aC aD aB,sL aw U av,sL ay fo ax,sL eD sp eC,.map (some bA),I pn,sL de pr db,.map (some bK)] 142,iL aw U av,iL ay fo ax,oL w 175 eD sp eC,cb bA mp,iL de pr db,bU bK mq]++r)):Calls aI 117 #[pV cZ 0,.agg #[I k_,I f_,I t_,I g_,I h_]] w_ (cm fun v w'=>∃(oa:OA) (n9:Nat),v=I ((sp.length:Nat):Int)∧HI M w w' ([box cZ #[.slice aC aD aB,sL aw U av,sL ay fo ax,.slice oa (sp++[(k_,f_,t_,g_,h_)]).length n9,.map (some bA),I pn,sL de pr db,.map (some bK)] 142,iL aw U av,iL ay fo ax,oL w 175 oa (sp++[(k_,f_,t_,g_,h_)]) n9,cb bA (jx mp (f_,t_) ((sp.length:Nat):Int)),iL de pr db,bU bK mq]++r)):=by
 refine enter 33 Tryz.func117 J J J fun f0 ha=>?_
 have ja:=bg<|H.rv 1 J
 have kR:=bg<|H.rv 2 J
 have D2:=kl<|H.at_ 3 J
 have D3:=bg<|H.rv 5 J
 have i0:f0 0=pV cZ 0:=ha 0 bj
 have i1:f0 1=.agg #[I k_,I f_,I t_,I g_,I h_]:=ha 1 bj
 have adv:(sp++[(k_,f_,t_,g_,h_)]).length=sp.length+1:=by simp
 refine az<|k<|bx H J i1 ?_
 let J1:=box cZ #[.slice aC aD aB,sL aw U av,sL ay fo ax,sL eD sp eC,.map (some bA),I pn,sL de pr db,.map (some bK)] 142
 let J2:=iL aw U av
 let J3:=iL ay fo ax
 let J4:=iL de pr db
 let bc:=[cb bA mp,J4,bU bK mq]
 intro aW w0 bW (H0:HI M w w0 ((box aW #[I k_,I f_,I t_,I g_,I h_] 175::J1::J2::J3::oL w 175 eD sp eC::bc)++r))
 let J0:=box aW #[I k_,I f_,I t_,I g_,I h_] 175
 refine ak (v:=I 0) J J<|aq<|sq<|my [.s,.r,.r,.r,.r,.r,.r,.e,.f,.f,.e] (fun _=>True) J aS (fun _ _=>trivial)<|yq J J<|kq (fun _ _=>mv J i0 e1)<|bO<|kq (fun _ _=>mv J i0 e1)<|bO<|kq (fun _ _=>nc J J e1)<|bO<|kq (fun _ _=>fa l7 J J e1)<|bO<|kq (fun _ x_=>lx (H0.ext x_) 1 J nI J J J e1)<|bO<|kq (fun _ x_=>cB (H0.ext x_) 0 J AV J J au J e1)<|zq<|yu J (fun _ v w'=>∃(a0:OA) (c0:Nat),v=sL a0 ([(k_,f_,t_,g_,h_)]:List cN) c0∧RV H0.fg w' (sL a0 ([(k_,f_,t_,g_,h_)]:List cN) c0) ([(k_,f_,t_,g_,h_)]:List cN)) J oq J (fun v_ N_ x_ n_=>?_) ?_
 ·
  have H3:=H0.ext x_
  refine bs (xs:=([(k_,f_,t_,g_,h_)]:List cN)) (cells:=#[I k_,I f_,I t_,I g_,I h_]) (e:=175) H3 J (ck J ew) (fun _=>aS) ⟨[I k_,I f_,I t_,I g_,I h_],[],J,⟨_,_,J,⟨J,ajj⟩,⟨_,_,J,⟨J,F0⟩,⟨_,_,J,⟨J,ID⟩,⟨_,_,J,⟨J,ajl⟩,⟨J,ajk⟩⟩⟩⟩⟩,J⟩ J au ?_
  intro g1 w2 eS (H4:HI M w w2 ((own w.heap.size 175 (.slice (some ⟨g1,0,none⟩) 1 1) ([(k_,f_,t_,g_,h_)]:List cN)::J0::J1::J2::J3::oL w 175 eD sp eC::bc)++r))
  have H5:=H4.freeze 0 J
  exact⟨_,J,eS,⟨(some ⟨g1,0,none⟩),1,J,(l4 J<|H5.rv 0 J)⟩⟩
 refine ye<|yf J (fun _ _=>nc J J e3)<|yf J (fun _ _=>fa l7 J J e3)<|ye<|yz ?_
 intro w3 f0 _ fH _ _ cC iT
 have H6:=H0.ext fH
 have s0:=(cC 0 J).trans i0
 have s1:=cC 3 J
 have s2:=cC 10 J
 obtain⟨a1,c1,s3,ee⟩:=iT 0 _ _ rfl
 let J5:=iL a1 ([(k_,f_,t_,g_,h_)]:List cN) c1
 have H7:=H6.put (it:=J5) J ee
 have s4:=cC 15 J
 refine kc<|lV H7 5 J J J J s2 s3 (H7.rv 0 J).src Lb AV J (by simp only[iS,gA];omega) J ?_
 intro a2 c2 w4 (H9:HI M w w4 ((J5::J0::J1::J2::J3::oL w 175 a2 (sp++([(k_,f_,t_,g_,h_)]:List cN)) c2::bc)++r))
 let J6:=oL w 175 a2 (sp++([(k_,f_,t_,g_,h_)]:List cN)) c2
 refine kc<|bu H9 2 J nI J J s4 J J J J ?_
 let J7:=box cZ #[.slice aC aD aB,sL aw U av,sL ay fo ax,sL a2 (sp++([(k_,f_,t_,g_,h_)]:List cN)) c2,.map (some bA),I pn,sL de pr db,.map (some bK)] 142
 intro w5 (dE:HI M w w5 ((J5::J0::J7::J2::J3::J6::bc)++r))
 refine kz<|cO<|ai J s0<|k<|nc J J<|aQ l7 J J<|bo dE 2 J nI J J J<|k<|dL J J Lb<|k<|sub J J J J aR<|ak (v:=I (((sp++([(k_,f_,t_,g_,h_)]:List cN)).length:Int)-1)) J J<|aq<|sq<|my [.r,.r,.r,.r,.r,.r,.r,.r,.r,.r,.e] (fun _=>True) J aS (fun _ _=>trivial)<|yq J J<|kq (fun _ _=>mv J s0 e1)<|bO<|kq (fun _ _=>nc J J e1)<|bO<|kq (fun _ _=>fa D' J J e1)<|bO<|kq (fun _ x_=>lx (dE.ext x_) 2 J Kz J J J e1)<|bO<|kq (fun _ _=>fa Pr J s1 e1)<|bO<|kq (fun _ x_=>lx (dE.ext x_) 1 J aU J J J e1)<|bO<|kq (fun _ _=>fa Pq J s1 e1)<|bO<|kq (fun _ x_=>lx (dE.ext x_) 1 J aU J J J e1)<|bO<|kq (fun _ _=>bd (v:=.agg #[I f_,I t_]) J (ck J<|ck J ew) (fun _=>aS) e1)<|bO<|kq (fun _ _=>mv (v:=I (((sp++([(k_,f_,t_,g_,h_)]:List cN)).length:Int)-1)) J J e1)<|zq<|ye<|yz ?_
 intro w6 f1 _ jg _ _ fK Ao
 have cV:=dE.ext jg
 have s5:=fK 5 J
 have s6:=fK 25 J
 have s7:=fK 30 J
 have s8:=fK 31 J
 refine kc<|X5 (k:=(f_,t_)) KD cV 6 J J J J s6 s7 s8 aR ?_
 let J8:=cb bA (jx mp (f_,t_) (((sp++([(k_,f_,t_,g_,h_)]:List cN)).length:Int)-1))
 let bX:=[J7,J2,J3,J6,J8,J4,bU bK mq]
 intro w7 (dm:HI M w w7 ((J5::J0::bX)++r))
 refine kz<|cO<|ai J s5<|ak (v:=I (((sp++([(k_,f_,t_,g_,h_)]:List cN)).length:Int)-1)) J J<|aq<|rt<|r1 J J ?_
 have cL:=HI.aP (l:=(J5::J0::bX)) (l':=bX) (t:=r) dm [2,3,4,5,6,7,8] au J J
 have e0:(((sp++([(k_,f_,t_,g_,h_)]:List cN)).length:Int)-1:Int)=((sp.length:Nat):Int):=by rw[adv];omega
 have e1:((sp++([(k_,f_,t_,g_,h_)]:List cN)):List _)=(sp++[(k_,f_,t_,g_,h_)]):=rfl
 have e2:(jx mp (f_,t_) (((sp++([(k_,f_,t_,g_,h_)]:List cN)).length:Int)-1):KV)=(jx mp (f_,t_) ((sp.length:Nat):Int)):=by rw[adv];congr 1;omega
 try rw[←e0]
 try rw[←e1]
 try rw[←e2]
 refine⟨a2,c2,?_,?_⟩
 · first|rfl|simp only[e0,e1,e2]|(simp only[an1])
 · first|exact cL|simpa +zetaDelta only[e0,e1,e2,an1] using cL
theorem GF (qS:aK pn) (F0:aK f_) (ID:aK t_) (Iy:sp.length≤2900000000000) (ht_:0≤t_∧t_<((fo.length:Nat):Int)) (H:HI M w w_ ([box cZ #[.slice aC aD aB,sL aw U av,sL ay fo ax,sL eD sp eC,.map (some bA),I pn,sL de pr db,.map (some bK)] 142,iL aw U av,iL ay fo ax,oL w 175 eD sp eC,cb bA mp,iL de pr db,bU bK mq]++r)):Calls aI 116 #[pV cZ 0,I f_,I t_] w_ (cm fun v w'=>∃(ix:Int) (tc:List cN) (GW:KV) (oa:OA) (n9:Nat),v=I ix∧HI M w w' ([box cZ #[.slice aC aD aB,sL aw U av,sL ay fo ax,sL oa tc n9,.map (some bA),I pn,sL de pr db,.map (some bK)] 142,iL aw U av,iL ay fo ax,oL w 175 oa tc n9,cb bA GW,iL de pr db,bU bK mq]++r)∧tc.length≤sp.length+1∧aK ix):=by
 refine enter 39 Tryz.func116 J J J fun f0 ha=>?_
 have ja:=bg<|H.rv 1 J
 have kR:=bg<|H.rv 2 J
 have D2:=kl<|H.at_ 3 J
 have D3:=bg<|H.rv 5 J
 have i0:f0 0=pV cZ 0:=ha 0 bj
 have i1:f0 1=I f_:=ha 1 bj
 have i2:f0 2=I t_:=ha 2 bj
 refine az<|ak (v:=I 0) J J<|aq<|sq<|az<|ai J i0<|k<|nc J J<|aQ D' J J<|bo H 0 J Kz J J J<|ai J i1<|ai J i2<|k<|bd (v:=.agg #[I f_,I t_]) J (ck J<|ck J ew) (fun _=>aS)<|k<|X9 (k:=(f_,t_)) KD H 4 J J J J J ?_
 intro cu
 refine ai (v:=.tuple #[I ((getM mp (f_,t_)).getD 0),.bool ((getM mp (f_,t_)).isSome)]) J J<|k<|xt J J J<|k<|xt J J J<|ak (v:=I ((getM mp (f_,t_)).getD 0)) J J<|ak (v:=.bool ((getM mp (f_,t_)).isSome)) J J<|bw<|ai (v:=.bool ((getM mp (f_,t_)).isSome)) J J<|z<|nx<|cd (b:=(getM mp (f_,t_)).isSome) J J (fun b0=>?_)<|fun b0=>?_
 ·
  refine az<|ai (v:=I ((getM mp (f_,t_)).getD 0)) J J<|ak (v:=I ((getM mp (f_,t_)).getD 0)) J J<|aq<|rt<|aL<|r1 J J ?_
  have e0:((getM mp (f_,t_)).getD 0:Int)=((getM mp (f_,t_)).getD 0):=rfl
  try rw[←e0]
  refine⟨((getM mp (f_,t_)).getD 0),sp,mp,eD,eC,?_,?_,aj,bt⟩
  · first|rfl|simp only[e0]|(simp only[an1])
  · first|exact H|simpa +zetaDelta only[e0,an1] using H
 refine sk<|cO<|ak (v:=I 1) J J<|aq<|sq<|az<|ai J i0<|k<|nc J J<|aQ IH J J<|aQ tF J J<|bo H 0 J qD J J J<|ai J i2<|k<|ia (H.rv 2 J) J J J J aj cM aU ?_
 intro iG x0 aM cw
 refine k<|mP cw.w aU J J ?_
 intro ee
 refine ai J i1<|k<|eql J J J J<|z<|nx<|cd (b:=decide (x0=f_)) J J (fun b1=>?_)<|fun b1=>?_
 ·
  refine rg<|ak (v:=I 2) J J<|bw<|ai J i0<|ai (v:=I 2) J J<|ai J i1<|ai J i2<|k<|bd (v:=.agg #[I 2,I f_,I t_,I (-1),I (-1)]) J (ck J<|ck J<|ck J<|ck J<|ck J ew) (fun _=>aS)<|k ?_
  let J0:=box cZ #[.slice aC aD aB,sL aw U av,sL ay fo ax,sL eD sp eC,.map (some bA),I pn,sL de pr db,.map (some bK)] 142
  let bc:=[J0,iL aw U av,iL ay fo ax,oL w 175 eD sp eC,cb bA mp,iL de pr db,bU bK mq]
  have H0:HI M w w_ (bc++([]++r)):=HI.aP (l:=bc) (l':=bc) (t:=r) H [0,1,2,3,4,5,6] au J J
  have bR:=yw (cZ:=cZ) (aC:=aC) (aD:=aD) (aB:=aB) (aw:=aw) (av:=av) (U:=U) (ay:=ay) (ax:=ax) (fo:=fo) (eD:=eD) (eC:=eC) (sp:=sp) (bA:=bA) (mp:=mp) (pn:=pn) (de:=de) (db:=db) (pr:=pr) (bK:=bK) (mq:=mq) (k_:=2) (f_:=f_) (t_:=t_) (g_:=(-1)) (h_:=(-1)) (w:=w) (w_:=w_) (r:=([]++r)) (M:=M) qS aR F0 ID aR aR aj H0
  refine ca KL J (ec J<|ec J e0) bR ?_
  rintro _ w0 ⟨a0,c0,rfl,H1⟩
  have H2:HI M w w0 ([box cZ #[.slice aC aD aB,sL aw U av,sL ay fo ax,sL a0 (sp++[(2,f_,t_,(-1),(-1))]) c0,.map (some bA),I pn,sL de pr db,.map (some bK)] 142,iL aw U av,iL ay fo ax,oL w 175 a0 (sp++[(2,f_,t_,(-1),(-1))]) c0,cb bA (jx mp (f_,t_) ((sp.length:Nat):Int)),iL de pr db,bU bK mq]++r):=H1
  refine ak (v:=I ((sp.length:Nat):Int)) J J<|aq<|rt<|r1 J J ?_
  refine⟨((sp.length:Nat):Int),(sp++[(2,f_,t_,(-1),(-1))]),(jx mp (f_,t_) ((sp.length:Nat):Int)),a0,c0,?_,?_,(by simp only[fJ,iS,gA];omega),aR⟩
  · first|rfl|simp only[an1]
  · first|exact H2|simpa +zetaDelta only[an1] using H2
 refine sk<|cO<|ai J i0<|ai (v:=I 1) J J<|ai J i1<|ai J i2<|k<|bd (v:=.agg #[I 1,I f_,I t_,I (-1),I (-1)]) J (ck J<|ck J<|ck J<|ck J<|ck J ew) (fun _=>aS)<|k ?_
 let J1:=box cZ #[.slice aC aD aB,sL aw U av,sL ay fo ax,sL eD sp eC,.map (some bA),I pn,sL de pr db,.map (some bK)] 142
 let bX:=[J1,iL aw U av,iL ay fo ax,oL w 175 eD sp eC,cb bA mp,iL de pr db,bU bK mq]
 have H0:HI M w w_ (bX++([]++r)):=HI.aP (l:=bX) (l':=bX) (t:=r) H [0,1,2,3,4,5,6] au J J
 have bR:=yw (cZ:=cZ) (aC:=aC) (aD:=aD) (aB:=aB) (aw:=aw) (av:=av) (U:=U) (ay:=ay) (ax:=ax) (fo:=fo) (eD:=eD) (eC:=eC) (sp:=sp) (bA:=bA) (mp:=mp) (pn:=pn) (de:=de) (db:=db) (pr:=pr) (bK:=bK) (mq:=mq) (k_:=1) (f_:=f_) (t_:=t_) (g_:=(-1)) (h_:=(-1)) (w:=w) (w_:=w_) (r:=([]++r)) (M:=M) qS aR F0 ID aR aR aj H0
 refine ca KL J (ec J<|ec J e0) bR ?_
 rintro _ w0 ⟨a0,c0,rfl,H1⟩
 have H2:HI M w w0 ([box cZ #[.slice aC aD aB,sL aw U av,sL ay fo ax,sL a0 (sp++[(1,f_,t_,(-1),(-1))]) c0,.map (some bA),I pn,sL de pr db,.map (some bK)] 142,iL aw U av,iL ay fo ax,oL w 175 a0 (sp++[(1,f_,t_,(-1),(-1))]) c0,cb bA (jx mp (f_,t_) ((sp.length:Nat):Int)),iL de pr db,bU bK mq]++r):=H1
 refine ak (v:=I ((sp.length:Nat):Int)) J J<|aq<|rt<|r1 J J ?_
 refine⟨((sp.length:Nat):Int),(sp++[(1,f_,t_,(-1),(-1))]),(jx mp (f_,t_) ((sp.length:Nat):Int)),a0,c0,?_,?_,(by simp only[fJ,iS,gA];omega),aR⟩
 · first|rfl|simp only[an1]
 · first|exact H2|simpa +zetaDelta only[an1] using H2
theorem mL (qS:aK pn) (F0:aK f_) (ID:aK t_) (hT:fS 0 w) (Iy:sp.length≤2800000000000) (JD:pn=((U.length:Nat):Int)) (aiW:fo.length=U.length) (aiX:U.length≤64) (uq:bJ pn pr=true) (H:HI M w w_ ([box cZ #[.slice aC aD aB,sL aw U av,sL ay fo ax,sL eD sp eC,.map (some bA),I pn,sL de pr db,.map (some bK)] 142,iL aw U av,iL ay fo ax,oL w 175 eD sp eC,cb bA mp,iL de pr db,bU bK mq]++r)):Calls aI 79 #[pV cZ 0,I f_,I t_] w_ (cm fun v w'=>∃(ix:Int) (tc:List cN) (GW:KV) (oa:OA) (n9:Nat),v=I ix∧HI M w w' ([box cZ #[.slice aC aD aB,sL aw U av,sL ay fo ax,sL oa tc n9,.map (some bA),I pn,sL de pr db,.map (some bK)] 142,iL aw U av,iL ay fo ax,oL w 175 oa tc n9,cb bA GW,iL de pr db,bU bK mq]++r)∧tc.length≤sp.length+200∧aK ix):=by
 refine enter 75 Tryz.func79 J J J fun f0 ha=>?_
 have ja:=bg<|H.rv 1 J
 have kR:=bg<|H.rv 2 J
 have D2:=kl<|H.at_ 3 J
 have D3:=bg<|H.rv 5 J
 have i0:f0 0=pV cZ 0:=ha 0 bj
 have i1:f0 1=I f_:=ha 1 bj
 have i2:f0 2=I t_:=ha 2 bj
 refine az<|ak (v:=I 0) J J<|aq<|sq<|az<|ai J i0<|k<|nc J J<|aQ D' J J<|bo H 0 J Kz J J J<|ai J i1<|ai J i2<|k<|bd (v:=.agg #[I f_,I t_]) J (ck J<|ck J ew) (fun _=>aS)<|k<|X9 (k:=(f_,t_)) KD H 4 J J J J J ?_
 intro cu
 refine ai (v:=.tuple #[I ((getM mp (f_,t_)).getD 0),.bool ((getM mp (f_,t_)).isSome)]) J J<|k<|xt J J J<|k<|xt J J J<|ak (v:=I ((getM mp (f_,t_)).getD 0)) J J<|ak (v:=.bool ((getM mp (f_,t_)).isSome)) J J<|bw<|ai (v:=.bool ((getM mp (f_,t_)).isSome)) J J<|z<|nx<|cd (b:=(getM mp (f_,t_)).isSome) J J (fun b0=>?_)<|fun b0=>?_
 ·
  refine az<|ai (v:=I ((getM mp (f_,t_)).getD 0)) J J<|ak (v:=I ((getM mp (f_,t_)).getD 0)) J J<|aq<|rt<|aL<|r1 J J ?_
  have e0:((getM mp (f_,t_)).getD 0:Int)=((getM mp (f_,t_)).getD 0):=rfl
  try rw[←e0]
  refine⟨((getM mp (f_,t_)).getD 0),sp,mp,eD,eC,?_,?_,aj,bt⟩
  · first|rfl|simp only[e0]|(simp only[an1])
  · first|exact H|simpa +zetaDelta only[e0,an1] using H
 refine sk<|cO<|ai J i0<|k<|nc J J<|aQ rj J J<|k<|cB H 0 J bm J J au J<|ai J i1<|ai J i2<|k ?_
 have bR:=SF (mn:=pn) (mr:=pr) (i:=f_) (j:=t_) (w:=w_) H.mb (hT.ext H.below) qS (H.rv 5 J) F0 ID<|by exact uq
 refine ca agD J (ec J<|ec J<|ec J e0) bR ?_
 rintro _ w0 ⟨a0,c0,rfl,bW,ee⟩
 have H0:=H.eP ee
 let J0:=oL w 3 a0 ((fu pn pr f_ t_).getD []) c0
 let J1:=box cZ #[.slice aC aD aB,sL aw U av,sL ay fo ax,sL eD sp eC,.map (some bA),I pn,sL de pr db,.map (some bK)] 142
 let J2:=iL aw U av
 let J3:=iL ay fo ax
 let J4:=oL w 175 eD sp eC
 let J5:=iL de pr db
 let bc:=[J1,J2,J3,J4,cb bA mp,J5,bU bK mq]
 have H1:HI M w w0 ((J0::bc)++r):=H0
 refine ai (v:=.tuple #[sL a0 ((fu pn pr f_ t_).getD []) c0,.bool ((fu pn pr f_ t_).isSome)]) J J<|k<|xt J J J<|k<|xt J J J<|ak (v:=sL a0 ((fu pn pr f_ t_).getD []) c0) J J<|ak (v:=.bool ((fu pn pr f_ t_).isSome)) J J<|aq<|sq<|az<|ai (v:=.bool ((fu pn pr f_ t_).isSome)) J J<|k<|j4 J J<|z<|nx<|cd (b:=!((fu pn pr f_ t_).isSome)) J J (fun b1=>?_)<|fun b1=>?_
 ·
  refine az<|ak (v:=I (-1)) J J<|aq<|rt<|aL<|r1 J J ?_
  have H2:=HI.aP (l:=(J0::bc)) (l':=bc) (t:=r) H1 [1,2,3,4,5,6,7] au J J
  refine⟨(-1),sp,mp,eD,eC,?_,?_,aj,(by unfold aK;omega)⟩
  · first|rfl|simp only[an1]
  · first|exact H2|simpa +zetaDelta only[an1] using H2
 refine sk<|nx<|sq ?_
 have ady:(fu pn pr f_ t_).isSome=true:=by simpa using b1
 have am2:=VG uq ady
 have adm:=fun (q_:Nat) (x_:Int) (h_:((fu pn pr f_ t_).getD [])[q_]? =some x_)=>VH uq ady h_
 refine my [.r,.r,.r,.r,.r,.r,.r,.e,.e] (fun _=>True) J aS (fun _ _=>trivial)<|yq J J<|kq (fun _ _=>mv J i0 e1)<|bO<|kq (fun _ _=>mv (v:=sL a0 ((fu pn pr f_ t_).getD []) c0) J J e1)<|bO<|th (H1.at_ 0 J) J J J J aj cM aU ?_
 intro iG x0 aM cw
 refine bO<|px cw aU J J ?_
 intro eb
 refine bO<|kq (fun _ _=>mv (v:=sL a0 ((fu pn pr f_ t_).getD []) c0) J J e1)<|bO<|th (H1.at_ 0 J) J J J J aj cM aU ?_
 intro ry x1 cQ gN
 refine bO<|px gN aU J J ?_
 intro fh
 refine zq<|ye<|ye<|yz ?_
 intro w1 f0 _ df _ _ cC iT
 have H2:=H1.ext df
 have s0:=(cC 0 J).trans i0
 have s1:=(cC 1 J).trans i1
 have s2:=cC 9 J
 have s3:=cC 39 J
 have s4:=cC 42 J
 have s5:=cC 45 J
 refine kc ?_
 let bX:=[J5,bU bK mq,J0]
 have H3:HI M w w1 (bc++([J0]++r)):=HI.aP (l:=(J0::bc)) (l':=(J1::J2::J3::J4::cb bA mp::bX)) (t:=r) H2 [1,2,3,4,5,6,7,0] au J J
 have cU:=GF (cZ:=cZ) (aC:=aC) (aD:=aD) (aB:=aB) (aw:=aw) (av:=av) (U:=U) (ay:=ay) (ax:=ax) (fo:=fo) (eD:=eD) (eC:=eC) (sp:=sp) (bA:=bA) (mp:=mp) (pn:=pn) (de:=de) (db:=db) (pr:=pr) (bK:=bK) (mq:=mq) (f_:=x0) (t_:=x1) (w:=w) (w_:=w1) (r:=([J0]++r)) (M:=M) qS eb fh aj (by have h_:=adm _ _ cQ;omega) H3
 refine ca Y4 J (ec s3<|ec s4<|ec s5 e0) cU ?_
 rintro _ w2 ⟨o0,o1,o2,a1,c1,rfl,H4,q0,q1⟩
 refine kc<|jM (v:=I o0) J J<|kz<|nx<|sq<|az<|ak (v:=I 2) J J<|aq<|bk<|lp (fun m f w'=>∃(j_:Nat) (EA:Int) (js:List cN) (ou:KV) (a2:OA) (c2:Nat),m=((fu pn pr f_ t_).getD []).length-j_∧f 0=pV cZ 0∧f 1=I f_∧f 9=sL a0 ((fu pn pr f_ t_).getD []) c0∧f 11=I EA∧f 12=I (j_:Int)∧HI M w w' ((box cZ #[.slice aC aD aB,sL aw U av,sL ay fo ax,sL a2 js c2,.map (some bA),I pn,sL de pr db,.map (some bK)] 142::J2::J3::oL w 175 a2 js c2::cb bA ou::bX)++r)∧(2≤j_∧j_≤((fu pn pr f_ t_).getD []).length)∧(js.length+1≤sp.length+2*j_)∧(aK EA)) _ ⟨2,o0,o1,o2,a1,c1,J,s0,s1,s2,(bH J),(bH J),H4,aj,aj,bt⟩ ?_
 rintro _ f1 w3 ⟨j_,EA,js,ou,a2,c2,rfl,s6,s7,s8,s9,ej,H6,pj,Iz,anb⟩
 refine sq<|az<|ai J ej<|ai J s8<|k<|dL J J cM<|k<|lss J J J J<|z<|nx<|cd (b:=decide ((j_:Int)<(((fu pn pr f_ t_).getD []).length:Int))) J J (fun b2=>?_)<|fun b2=>?_
 ·
  have p2:=dT b2
  refine sk<|nx<|sq<|bk<|sq<|my [.r,.r,.r,.r,.r,.r,.r,.r,.r,.r,.e,.e] (fun _=>True) J aS (fun _ _=>trivial)<|yq J J<|kq (fun _ _=>mv J s6 e1)<|bO<|kq (fun _ _=>mv J s8 e1)<|bO<|kq (fun _ _=>mv J ej e1)<|bO<|kq (fun _ _=>sub J J J J aR e1)<|bO<|th (H6.at_ 7 J) J J J J aj cM aU ?_
  intro ma x2 gZ kf
  refine bO<|px kf aU J J ?_
  intro jd
  refine bO<|kq (fun _ _=>mv J s8 e1)<|bO<|kq (fun _ _=>mv J ej e1)<|bO<|th (H6.at_ 7 J) J J J J aj cM aU ?_
  intro po x3 qm sO
  refine bO<|px sO aU J J ?_
  intro jX
  refine zq<|ye<|ye<|yz ?_
  intro w4 f2 _ eS _ _ fK Ao
  have H7:=H6.ext eS
  have eX:=(fK 0 J).trans s6
  have fA:=(fK 1 J).trans s7
  have fD:=(fK 9 J).trans s8
  have gi:=(fK 11 J).trans s9
  have gS:=(fK 12 J).trans ej
  have kb:=fK 53 J
  have kK:=fK 58 J
  have lC:=fK 62 J
  refine kc ?_
  let J6:=box cZ #[.slice aC aD aB,sL aw U av,sL ay fo ax,sL a2 js c2,.map (some bA),I pn,sL de pr db,.map (some bK)] 142
  let dM:=J6::J2::J3::oL w 175 a2 js c2::cb bA ou::bX
  have H8:HI M w w4 ([J6,J2,J3,oL w 175 a2 js c2,cb bA ou,J5,bU bK mq]++([J0]++r)):=HI.aP (l:=dM) (l':=dM) (t:=r) H7 [0,1,2,3,4,5,6,7] au J J
  have fU:=GF (cZ:=cZ) (aC:=aC) (aD:=aD) (aB:=aB) (aw:=aw) (av:=av) (U:=U) (ay:=ay) (ax:=ax) (fo:=fo) (eD:=a2) (eC:=c2) (sp:=js) (bA:=bA) (mp:=ou) (pn:=pn) (de:=de) (db:=db) (pr:=pr) (bK:=bK) (mq:=mq) (f_:=x2) (t_:=x3) (w:=w) (w_:=w4) (r:=([J0]++r)) (M:=M) qS jd jX aj (by have h_:=adm _ _ qm;omega) H8
  refine ca Y4 J (ec kb<|ec kK<|ec lC e0) fU ?_
  rintro _ w5 ⟨o3,o4,o5,a3,c3,rfl,H9,q2,q3⟩
  let J7:=box cZ #[.slice aC aD aB,sL aw U av,sL ay fo ax,sL a3 o4 c3,.map (some bA),I pn,sL de pr db,.map (some bK)] 142
  let iO:=J7::J2::J3::oL w 175 a3 o4 c3::cb bA o5::bX
  have dE:HI M w w5 (iO++r):=H9
  refine kc<|jM (v:=I o3) J J<|kz<|nx<|rg<|ai J eX<|ai J fA<|ai J fD<|ai J gS<|k<|iz (dE.at_ 7 J) J J J J aj cM aU ?_
  intro g0 x4 iE xD wc
  refine k<|mP wc aU J J ?_
  intro iU
  refine ai J gi<|ai (v:=I o3) J J<|k<|bd (v:=.agg #[I 3,I f_,I x4,I EA,I o3]) J (ck J<|ck J<|ck J<|ck J<|ck J ew) (fun _=>aS)<|k ?_
  have cV:HI M w w5 ([J7,J2,J3,oL w 175 a3 o4 c3,cb bA o5,J5,bU bK mq]++([J0]++r)):=HI.aP (l:=iO) (l':=iO) (t:=r) dE [0,1,2,3,4,5,6,7] au J J
  have fb:=yw (cZ:=cZ) (aC:=aC) (aD:=aD) (aB:=aB) (aw:=aw) (av:=av) (U:=U) (ay:=ay) (ax:=ax) (fo:=fo) (eD:=a3) (eC:=c3) (sp:=o4) (bA:=bA) (mp:=o5) (pn:=pn) (de:=de) (db:=db) (pr:=pr) (bK:=bK) (mq:=mq) (k_:=3) (f_:=f_) (t_:=x4) (g_:=EA) (h_:=o3) (w:=w) (w_:=w5) (r:=([J0]++r)) (M:=M) qS aR F0 iU bt bt aj cV
  refine ca KL J (ec J<|ec J e0) fb ?_
  rintro _ w6 ⟨a4,c4,rfl,dm⟩
  let J8:=box cZ #[.slice aC aD aB,sL aw U av,sL ay fo ax,sL a4 (o4++[(3,f_,x4,EA,o3)]) c4,.map (some bA),I pn,sL de pr db,.map (some bK)] 142
  let J9:=oL w 175 a4 (o4++[(3,f_,x4,EA,o3)]) c4
  let dZ:=cb bA (jx o5 (f_,x4) ((o4.length:Nat):Int))
  refine ak (v:=I ((o4.length:Nat):Int)) J J<|z<|aF<|nx<|rg<|ai J gS<|k<|add J J J J aR<|ak (v:=I ((j_:Int)+1)) J J<|z ?_
  have cH:=dm.put (it:=J2) J<|dm.rv 1 J
  have dA:=cH.put (it:=J3) J<|cH.rv 3 J
  have dX:=dA.put (it:=J5) J<|dA.rv 7 J
  let fj:=J8::J2::J3::J9::dZ::bX
  have dI:HI M w w6 ((J5::J3::J2::fj)++r):=dX
  have cG:HI M w w6 (fj++r):=HI.aP (l:=(J5::J3::J2::fj)) (l':=fj) (t:=r) dI [3,2,1,6,7,0,9,10] au J J
  refine bF _ ?_ ⟨(j_+1),((o4.length:Nat):Int),(o4++[(3,f_,x4,EA,o3)]),(jx o5 (f_,x4) ((o4.length:Nat):Int)),a4,c4,J,eX,fA,fD,(bH J),(bH J),cG,aj,(by simp only[fJ,iS,gA];omega),(by unfold aK;omega)⟩
  omega
 refine ex<|aT<|aY<|bf<|cO<|ai J s9<|ak (v:=I EA) J J<|aq<|rt<|r1 J J ?_
 let eL:=box cZ #[.slice aC aD aB,sL aw U av,sL ay fo ax,sL a2 js c2,.map (some bA),I pn,sL de pr db,.map (some bK)] 142
 have H7:=HI.aP (l:=(eL::J2::J3::oL w 175 a2 js c2::cb bA ou::bX)) (l':=[eL,J2,J3,oL w 175 a2 js c2,cb bA ou,J5,bU bK mq]) (t:=r) H6 [0,1,2,3,4,5,6] au J J
 refine⟨EA,js,ou,a2,c2,?_,?_,aj,bt⟩
 · first|rfl|simp only[an1]
 · first|exact H7|simpa +zetaDelta only[an1] using H7
theorem zD:cx aI 79:=cF Tryz.func79
theorem agk:cx aI 156:=cF Tryz.func156
theorem A_ (qS:aK pn) (Bw:aK fz) (D6:aK fC) (Bv:aK gH) (hT:fS 0 w) (Iy:sp.length≤2700000000000) (JD:pn=((U.length:Nat):Int)) (aiW:fo.length=U.length) (aiX:U.length≤64) (uq:bJ pn pr=true) (H:HI M w w_ ([box cZ #[.slice aC aD aB,sL aw U av,sL ay fo ax,sL eD sp eC,.map (some bA),I pn,sL de pr db,.map (some bK)] 142,iL aw U av,iL ay fo ax,oL w 175 eD sp eC,cb bA mp,iL de pr db,bU bK mq]++r)):Calls aI 122 #[pV cZ 0,.agg #[I fz,I fC,I gH]] w_ (cm fun v w'=>∃(tc:List cN) (GW:KV) (oa:OA) (n9:Nat),v=.tuple #[]∧HI M w w' ([box cZ #[.slice aC aD aB,sL aw U av,sL ay fo ax,sL oa tc n9,.map (some bA),I pn,sL de pr db,.map (some bK)] 142,iL aw U av,iL ay fo ax,oL w 175 oa tc n9,cb bA GW,iL de pr db,bU bK mq]++r)∧tc.length≤sp.length+201):=by
 refine enter 21 Tryz.func122 J J J fun f0 ha=>?_
 have ja:=bg<|H.rv 1 J
 have kR:=bg<|H.rv 2 J
 have D2:=kl<|H.at_ 3 J
 have D3:=bg<|H.rv 5 J
 have i0:f0 0=pV cZ 0:=ha 0 bj
 have i1:f0 1=.agg #[I fz,I fC,I gH]:=ha 1 bj
 refine az<|k<|bx H J i1 ?_
 let J1:=box cZ #[.slice aC aD aB,sL aw U av,sL ay fo ax,sL eD sp eC,.map (some bA),I pn,sL de pr db,.map (some bK)] 142
 let J2:=iL aw U av
 let J3:=iL ay fo ax
 let J4:=oL w 175 eD sp eC
 let J5:=iL de pr db
 let bc:=[J1,J2,J3,J4,cb bA mp,J5,bU bK mq]
 intro aW w0 bW (H0:HI M w w0 ((box aW #[I fz,I fC,I gH] 122::bc)++r))
 let J0:=box aW #[I fz,I fC,I gH] 122
 refine bw<|ai J i0<|aQ kV J J<|bo H0 0 J aU J J J<|aQ sP J J<|bo H0 0 J aU J J J<|k ?_
 let bX:=[J5,bU bK mq,J0]
 have H1:HI M w w0 (bc++([J0]++r)):=HI.aP (l:=(J0::bc)) (l':=(J1::J2::J3::J4::cb bA mp::bX)) (t:=r) H0 [1,2,3,4,5,6,7,0] au J J
 have bR:=mL (cZ:=cZ) (aC:=aC) (aD:=aD) (aB:=aB) (aw:=aw) (av:=av) (U:=U) (ay:=ay) (ax:=ax) (fo:=fo) (eD:=eD) (eC:=eC) (sp:=sp) (bA:=bA) (mp:=mp) (pn:=pn) (de:=de) (db:=db) (pr:=pr) (bK:=bK) (mq:=mq) (f_:=fz) (t_:=gH) (w:=w) (w_:=w0) (r:=([J0]++r)) (M:=M) qS Bw Bv hT aj aj aj aj (by exact uq) H1
 refine ca zD J (ec J<|ec J<|ec J e0) bR ?_
 rintro _ w1 ⟨o0,o1,o2,a0,c0,rfl,H2,q0,q1⟩
 let J6:=box cZ #[.slice aC aD aB,sL aw U av,sL ay fo ax,sL a0 o1 c0,.map (some bA),I pn,sL de pr db,.map (some bK)] 142
 let dM:=J6::J2::J3::oL w 175 a0 o1 c0::cb bA o2::bX
 have H3:HI M w w1 (dM++r):=H2
 refine ak (v:=I o0) J J<|aq<|rg<|ai J i0<|aQ kV J J<|bo H3 7 J aU J J J<|aQ mW J J<|bo H3 7 J aU J J J<|ai (v:=I o0) J J<|aQ sP J J<|bo H3 7 J aU J J J<|k<|bd (v:=.agg #[I 4,I fz,I fC,I o0,I gH]) J (ck J<|ck J<|ck J<|ck J<|ck J ew) (fun _=>aS)<|k ?_
 have H4:HI M w w1 ([J6,J2,J3,oL w 175 a0 o1 c0,cb bA o2,J5,bU bK mq]++([J0]++r)):=HI.aP (l:=dM) (l':=dM) (t:=r) H3 [0,1,2,3,4,5,6,7] au J J
 have cU:=yw (cZ:=cZ) (aC:=aC) (aD:=aD) (aB:=aB) (aw:=aw) (av:=av) (U:=U) (ay:=ay) (ax:=ax) (fo:=fo) (eD:=a0) (eC:=c0) (sp:=o1) (bA:=bA) (mp:=o2) (pn:=pn) (de:=de) (db:=db) (pr:=pr) (bK:=bK) (mq:=mq) (k_:=4) (f_:=fz) (t_:=fC) (g_:=o0) (h_:=gH) (w:=w) (w_:=w1) (r:=([J0]++r)) (M:=M) qS aR Bw D6 bt Bv aj H4
 refine ca KL J (ec J<|ec J e0) cU ?_
 rintro _ w2 ⟨a1,c1,rfl,H5⟩
 let J7:=box cZ #[.slice aC aD aB,sL aw U av,sL ay fo ax,sL a1 (o1++[(4,fz,fC,o0,gH)]) c1,.map (some bA),I pn,sL de pr db,.map (some bK)] 142
 let J8:=oL w 175 a1 (o1++[(4,fz,fC,o0,gH)]) c1
 let J9:=cb bA (jx o2 (fz,fC) ((o1.length:Nat):Int))
 have H6:HI M w w2 ((J7::J2::J3::J8::J9::bX)++r):=H5
 refine z<|Et J ?_
 have H7:=HI.aP (l:=(J7::J2::J3::J8::J9::bX)) (l':=[J7,J2,J3,J8,J9,J5,bU bK mq]) (t:=r) H6 [0,1,2,3,4,5,6] au J J
 refine⟨(o1++[(4,fz,fC,o0,gH)]),(jx o2 (fz,fC) ((o1.length:Nat):Int)),a1,c1,?_,?_,(by simp only[fJ,iS,gA];omega)⟩
 · first|rfl|simp only[an1]
 · first|exact H7|simpa +zetaDelta only[an1] using H7
theorem yx {zL:OA} {zG:Nat} {es:List (Int×Int×Int)} (qS:aK pn) (uq:bJ pn pr=true) (uF:∀x∈es,kE pn [x.1,x.2.1]=true) (H:HI M w w_ ([box cZ #[.slice aC aD aB,sL aw U av,sL ay fo ax,sL eD sp eC,.map (some bA),I pn,sL de pr db,.map (some bK)] 142,iL aw U av,iL ay fo ax,oL w 175 eD sp eC,cb bA mp,iL de pr db,bU bK mq,iL zL es zG]++r)):Calls aI 120 #[pV cZ 0,sL zL es zG] w_ (cm fun v w'=>∃(CG:List (List bp)) (ze:OA) (y':Nat),v=.tuple #[]∧HI M w w' ([box cZ #[.slice aC aD aB,sL aw U av,sL ay fo ax,sL eD sp eC,.map (some bA),I pn,sL ze CG y',.map (some bK)] 142,iL aw U av,iL ay fo ax,oL w 175 eD sp eC,cb bA mp,iL ze CG y',bU bK mq,iL zL es zG]++r)∧bJ pn CG=true):=by
 refine enter 28 Tryz.func120 J J J fun f0 ha=>?_
 have ja:=bg<|H.rv 1 J
 have kR:=bg<|H.rv 2 J
 have D2:=kl<|H.at_ 3 J
 have D3:=bg<|H.rv 5 J
 have amv:=bg<|H.rv 7 J
 have i0:f0 0=pV cZ 0:=ha 0 bj
 have i1:f0 1=sL zL es zG:=ha 1 bj
 refine az<|ai J i1<|k<|dL J J eA<|ai (v:=I 0) J J<|aq<|bk ?_
 let J0:=iL de pr db
 have H0:=H.put (it:=J0) J<|H.rv 5 J
 let J1:=iL aw U av
 let J2:=iL ay fo ax
 let J3:=oL w 175 eD sp eC
 let J4:=cb bA mp
 let J5:=iL zL es zG
 let bc:=[J1,J2,J3,J4,J0,bU bK mq,J5]
 refine lp (fun m f w'=>∃(j_:Nat) (m_:List (List bp)) (cI:Int) (a0:OA) (c0:Nat),m=es.length-j_∧f 0=pV cZ 0∧f 6=sL zL es zG∧f 7=I (es.length:Int)∧f 8=I (j_:Int)∧HI M w w' ((iL a0 m_ c0::box cZ #[.slice aC aD aB,sL aw U av,sL ay fo ax,sL eD sp eC,.map (some bA),I cI,sL a0 m_ c0,.map (some bK)] 142::bc)++r)∧(j_≤es.length)∧(cI=pn)∧(bJ cI m_=true)) _ ⟨0,pr,pn,de,db,J,i0,J,J,(bH J),H0,aj,(by rfl),(by exact uq)⟩ ?_
 rintro _ f0 w0 ⟨j_,m_,cI,a0,c0,rfl,s0,s1,s2,s3,H2,pj,C7,tx⟩
 refine az<|k<|lss J J s3 s2<|aq<|sq<|cd (b:=decide ((j_:Int)<(es.length:Int))) J J (fun b0=>?_)<|fun b0=>?_
 ·
  have p0:=dT b0
  refine sk<|nx<|sq<|bk<|az<|k<|ia (H2.rv 8 J) J J s1 s3 aj eA cK ?_
  intro iG x0 aM cw
  refine k<|nz cw.w cK J J ?_
  intro v0 cu
  obtain⟨_,⟨_,_,rfl,⟨rfl,ee⟩,⟨_,_,rfl,⟨rfl,eb⟩,⟨rfl,fh⟩⟩⟩,rfl⟩:=cu
  refine k<|al H2 cK ?_
  let J6:=iL a0 m_ c0
  let J7:=box cZ #[.slice aC aD aB,sL aw U av,sL ay fo ax,sL eD sp eC,.map (some bA),I cI,sL a0 m_ c0,.map (some bK)] 142
  intro aW w1 bW (H3:HI M w w1 ((box aW #[I 0,I 0,I 0] 122::J6::J7::bc)++r))
  refine k<|bu H3 0 J cK J J J J J J J ?_
  let J8:=box aW #[I x0.1,I x0.2.1,I x0.2.2] 122
  intro w2 (H4:HI M w w2 ((J8::J6::J7::bc)++r))
  refine z<|nx ?_
  have so:kE cI [x0.1,x0.2.1]=true:=by rw[C7];exact uF x0 (dz aM)
  refine my [.r,.r,.r,.r,.r,.r,.r,.r,.r,.r,.r,.r,.s,.r,.r,.e] (fun _=>True) J aS (fun _ _=>trivial)<|yq J J<|kq (fun _ _=>mv J s0 e1)<|bO<|kq (fun _ _=>mv J s0 e1)<|bO<|kq (fun _ _=>nc J J e1)<|bO<|kq (fun _ _=>fa rj J J e1)<|bO<|kq (fun _ x_=>cB (H4.ext x_) 2 J bm J J au J e1)<|bO<|kq (fun _ _=>fa kV J J e1)<|bO<|kq (fun _ x_=>lx (H4.ext x_) 0 J aU J J J e1)<|bO<|kq (fun _ _=>fa mW J J e1)<|bO<|kq (fun _ x_=>lx (H4.ext x_) 0 J aU J J J e1)<|zq<|yu J (fun _ v w'=>∃(a1:OA) (c1:Nat),v=.tuple #[.agg #[I (iu cI x0.1 x0.2.1),sL a1 (j9 cI m_ x0.1 x0.2.1) c1],I (lG cI x0.1 x0.2.1)]∧RV H4.fg w' (sL a1 (j9 cI m_ x0.1 x0.2.1) c1) (j9 cI m_ x0.1 x0.2.1)) J oq J (fun v_ _ x_ _=>have cU:=aao (mn:=cI) (mr:=m_) (i:=x0.1) (j:=x0.2.1) (w:=v_) (H4.ext x_).mb aR ((H4.ext x_).rv 1 rfl) ee eb (by exact(bQ tx).1) (by exact(bQ tx).2.1) (by exact(bQ tx).2.2.1);ca agk rfl (ec J<|ec J<|ec J e0) cU (fun _ w4 ⟨a2,c2,e_,eS,iU⟩=>⟨_,J,eS,⟨a2,c2,e_,(bl.rv iU (H4.ext x_).mb)⟩⟩))<|lJ J (fun _ v w'=>∃(a3:OA) (c3:Nat),v=.tuple #[.agg #[I (iu cI x0.1 x0.2.1),sL a3 (j9 cI m_ x0.1 x0.2.1) c3],I (lG cI x0.1 x0.2.1)]∧RV H4.fg w' (sL a3 (j9 cI m_ x0.1 x0.2.1) c3) (j9 cI m_ x0.1 x0.2.1)) 0 J J oq J (fun _ _ _ _ _ h_=>let ⟨a4,c4,s4,pg⟩:=h_;mv rfl s4 ⟨_,J,Ext.refl _,⟨a4,c4,J,pg⟩⟩)<|lJ J (fun _ v w'=>∃(a5:OA) (c5:Nat),v=.agg #[I (iu cI x0.1 x0.2.1),sL a5 (j9 cI m_ x0.1 x0.2.1) c5]∧RV H4.fg w' (sL a5 (j9 cI m_ x0.1 x0.2.1) c5) (j9 cI m_ x0.1 x0.2.1)) 0 J J oq J (fun _ _ _ _ _ h_=>let ⟨a6,c6,s5,qb⟩:=h_;xt rfl s5 rfl ⟨_,J,Ext.refl _,⟨a6,c6,J,qb⟩⟩)<|RN J (X:=I (lG cI x0.1 x0.2.1)) 1 J J (fun _ _ _ _ _ h_=>let ⟨a8,c8,s6,sg⟩:=h_;xt rfl s6 rfl e1)<|yq J J<|kq (fun _ _=>nc J J e1)<|bO<|kq (fun _ _=>fa rj J J e1)<|zq<|ye<|yz ?_
  intro w5 f1 _ fH _ _ cC iT
  have d_:=H4.ext fH
  have s7:=(cC 0 J).trans s0
  have s8:=(cC 6 J).trans s1
  have s9:=(cC 7 J).trans s2
  have ej:=(cC 8 J).trans s3
  obtain⟨a9,c9,eX,sf⟩:=iT 0 _ _ rfl
  let J9:=iL a9 (j9 cI m_ x0.1 x0.2.1) c9
  have dD:=d_.put (it:=J9) J sf
  have fA:=cC 26 J
  refine kc<|bu dD 3 J bm J J fA eX J J J ?_
  let dZ:=box cZ #[.slice aC aD aB,sL aw U av,sL ay fo ax,sL eD sp eC,.map (some bA),I (iu cI x0.1 x0.2.1),sL a9 (j9 cI m_ x0.1 x0.2.1) c9,.map (some bK)] 142
  intro w6 (eW:HI M w w6 ((J9::J8::J6::dZ::bc)++r))
  refine kz<|aF<|nx<|rg<|k<|add J J ej J aR<|ai (v:=I ((j_:Int)+1)) J J<|z ?_
  have gW:=eW.put (it:=J9) J<|eW.rv 0 J
  have jC:=gW.put (it:=J1) J<|gW.rv 5 J
  have jm:=jC.put (it:=J2) J<|jC.rv 7 J
  have tN:HI M w w6 ((J2::J1::J9::J9::J8::J6::dZ::bc)++r):=jm
  have ln:HI M w w6 ((J9::dZ::bc)++r):=HI.aP (l:=(J2::J1::J9::J9::J8::J6::dZ::bc)) (l':=(J9::dZ::bc)) (t:=r) tN [2,6,1,0,9,10,11,12,13] au J J
  refine bF _ ?_ ⟨(j_+1),(j9 cI m_ x0.1 x0.2.1),(iu cI x0.1 x0.2.1),a9,c9,J,s7,s8,s9,(bH J),ln,aj,(by rw[(pW (rs:=m_) so).1];exact C7),(by exact Se tx so)⟩
  omega
 refine ex<|aT<|aY<|bf<|Et J ?_
 let eL:=box cZ #[.slice aC aD aB,sL aw U av,sL ay fo ax,sL eD sp eC,.map (some bA),I cI,sL a0 m_ c0,.map (some bK)] 142
 have H3:=HI.aP (l:=(iL a0 m_ c0::eL::bc)) (l':=[eL,J1,J2,J3,J4,iL a0 m_ c0,bU bK mq,J5]) (t:=r) H2 [1,2,3,4,5,0,7,8] au J J
 have e0:(cI:Int)=pn:=by exact C7
 try rw[←e0]
 refine⟨m_,a0,c0,?_,?_,(by exact tx)⟩
 · first|rfl|simp only[e0]|(simp only[an1])
 · first|exact H3|simpa +zetaDelta only[e0,an1] using H3
end Go.Proofs.YtgjakhpjmapelaaGreatDoor
