/- PRINTED by my own tool (wip/tool/gen.py): contracts of Go functions of this seat, each with its proof. -/
import Derived.Test.YtgjakhpjmapelaaGreatDoorQwnB
import Derived.Test.YtgjakhpjmapelaaGreatDoorIenA
import Derived.Test.YtgjakhpjmapelaaGreatDoorQwnC
import Derived.Test.YtgjakhpjmapelaaGreatDoorQwnD
import Derived.Test.YtgjakhpjmapelaaGreatDoorQwnA
set_option linter.unusedVariables false
set_option linter.unusedSimpArgs false
namespace Go.Proofs.YtgjakhpjmapelaaGreatDoor
open Go.Ew Go.RowKit
set_option maxRecDepth 100000
set_option maxHeartbeats 1600000
attribute [local irreducible] WL WC SO PW PX PZ WE Code.wp wpList sM ck
attribute [local irreducible] ku yA jH fy eo A3 D4 LQ words ej cZ jT fJ wy
variable {M:cg} {w w_:aJ}
variable {s:aY} {gZ fX aC aA ay bG ee eF dm:OA} {gY gb aF aB az dY ax bF dW da eE bD dh bN:Nat} {h:List (List (Bool×aY×Int))} {I:List aO} {vr o mn i j n pn f_ t_ fE fH gK:Int} {mr pr:List (List bw)} {l U xs:aE} {fv:List aY} {r:List Go.Ew.Item} {x y:bw} {sp:List cP} {mp:KV} {mq:List ((Int×Int)×Bool)}
theorem mL:aM.underlying 9=some (.string):=aV
theorem uI:aM.underlying 37=some (.slice 40):=aV
theorem uJ:ez aM 40 1 false 24 (.slice none 0 0):=⟨aV,aV⟩
theorem oV:aM.underlying 40=some (.slice 43):=aV
theorem iX:ez aM 43 3 true 32 (.agg #[.bool false,.string ⟨#[]⟩,.int .i64 0]):=⟨aV,aV⟩
theorem Xq:cD aM 12:=cE Tryz.func12
theorem ny:gV aM 43 1 1:=j1 Tryz.underlying43
theorem oG:ez aM 9 1 false 16 (.string ⟨#[]⟩):=⟨aV,aV⟩
theorem akG:cD aM 44:=cE Tryz.func44
theorem akH:cD aM 43:=cE Tryz.func43
theorem IF:aM.underlying 44=some (.slice 9):=aV
theorem akZ:cD aM 20:=cE Tryz.func20
theorem vY:gV aM 47 0 0:=j1 Tryz.underlying47
theorem CO:ez aM 44 1 false 24 (.slice none 0 0):=⟨aV,aV⟩
theorem akF:cD aM 48:=cE Tryz.func48
theorem qf:gV aM 43 0 0:=j1 Tryz.underlying43
theorem rA:gV aM 43 2 2:=j1 Tryz.underlying43
theorem sj:gV aM 95 4 4:=j1 Tryz.underlying95
theorem aeZ:cD aM 49:=cE Tryz.func49
theorem Q5 (lu:s.size≤maxLen):Calls aM 44 #[.string s] w (ck fun v w'=>v=.bool (mF s)∧Ext w w'):=by
 refine dv 28 Tryz.func44 J J J qF fun f0 ha H=>?_
 have i0:f0 0=.string s:=ha 0 bm
 have hS_:s.size≤9223372036854775807:=by have h_:=lu;simp only[maxLen] at h_;exact h_
 refine aD<|au (v:=.bool false) J J<|av<|sq<|aD<|au (v:=C 0) J J<|av<|bk<|lp (fun m f w'=>∃(j:Nat),m=s.size-j∧f 0=.string s∧f 3=C (j:Int)∧HI (fun _=>False) w w' []∧(j≤s.size)∧((s.data.toList.take j).all wO=true)) _ ⟨0,J,i0,(bH J),H,aq,(by rfl)⟩ ?_
 rintro _ f0 w0 ⟨j,rfl,s0,s1,H0,hk,hs⟩
 refine sq<|aD<|ak J s1<|ak J s0<|k<|wQ J J mL<|k<|lss J J J J<|z<|nx<|cd (b:=decide ((j:Int)<(s.size:Int))) J J (fun b0=>?_)<|fun b0=>?_
 ·
  have p0:=dT b0
  refine sk<|nx<|sq<|bk<|aD<|ak J s0<|ak J s1<|k<|ixS J J J J aq mL ?_
  intro c0 tm
  refine k<|lss J J J J<|ak (v:=.bool (decide ((c0.toNat:Int)<97))) J J ?_
  rcases bE (decide ((c0.toNat:Int)<97)) with b1|b1
  ·
   refine aZ J J J b1<|aZ J J J b1<|aZ J J J b1<|aZ J J J b1<|k<|aQ J J J J b1 J<|av<|pk J J J<|aD<|au (v:=.bool false) J J<|av<|rt<|bI<|aL<|du<|bI<|aL<|r1 J J ?_
   exact⟨apj Value.bool (by exact PD tm (acY b1)),H0.below⟩
  have p1:=dF b1
  refine bl J J J b1<|mv J s0<|bl J J J b1<|mv J s1<|bl J J J b1<|ixS J J J J aq mL ?_
  intro c1 zt
  refine bl J J J b1<|gtr J J J J<|k<|cU J J J J b1 J<|z<|nx<|cd (b:=decide (122<(c1.toNat:Int))) J J (fun b2=>?_)<|fun b2=>?_
  ·
   refine aD<|au (v:=.bool false) J J<|av<|rt<|bI<|aL<|du<|bI<|aL<|r1 J J ?_
   exact⟨apj Value.bool (by exact PD tm (by have e_:=apm (zt.symm.trans tm);subst e_;exact acZ b2)),H0.below⟩
  have p2:=dF b2
  refine sk<|aH<|nx<|rg<|ak J s1<|k<|add J J J J aS<|au (v:=C ((j:Int)+1)) J J<|z<|bB _ ?_ ⟨(j+1),J,s0,(bH J),H0,aq,(by exact GQ (Ql tm) hs (by have e_:=apm (zt.symm.trans tm);subst e_;exact aaL b1 b2))⟩
  omega
 have p0:=dF b0
 refine ex<|aW<|ba<|bh<|cQ<|ak J s0<|k<|wQ J J mL<|k<|geq J J J J<|ak (v:=.bool (decide (1≤(s.size:Int)))) J J ?_
 rcases bE (decide (1≤(s.size:Int))) with b1|b1
 ·
  have p1:=dT b1
  refine bl J J J b1<|mv J s0<|bl J J J b1<|wQ J J mL<|bl J J J b1<|leq J J J J<|k<|aQ J J J J b1 J<|au (v:=.bool (decide ((s.size:Int)≤8))) J J<|av<|rt<|r1 J J ?_
  exact⟨apj Value.bool (by unfold mF;rw[MC hs aq];first|(rw[show decide (1≤s.size)=true from apt aq,aqc,aqc,aqE];omega)|(rw[show decide (1≤s.size)=false from apv aq];rfl)),H0.below⟩
 have p1:=dF b1
 refine aZ J J J b1<|aZ J J J b1<|aZ J J J b1<|k<|cU J J J J b1 J<|au (v:=.bool false) J J<|av<|rt<|r1 J J ?_
 exact⟨apj Value.bool (by unfold mF;rw[MC hs aq];first|(rw[show decide (1≤s.size)=true from apt aq,aqc,aqc,aqE];omega)|(rw[show decide (1≤s.size)=false from apv aq];rfl)),H0.below⟩
theorem Bu (hM:eC M w) (oe:cz M w gZ gY h) (oD:h.flatten.length≤1048576):Calls aM 12 #[R gZ h gY] w (ck fun v w'=>∃(a0:OA) (c0:Nat),v=.slice a0 h.flatten.length c0∧Ext w w'∧RV M w' (.slice a0 h.flatten.length c0) h.flatten):=by
 refine dv 18 Tryz.func12 J J J hM fun f0 ha H=>?_
 have H0:=dU H oe
 have MH:=bg oe
 have i0:f0 0=R gZ h gY:=ha 0 bm
 refine aD<|au (v:=.slice none 0 0) J J<|bz<|au (v:=.slice none 0 0) J J<|av<|sq<|aD<|au (v:=C 0) J J<|av<|bk ?_
 have H1:=H0.qZ (Bool×aY×Int) 43
 refine lp (fun m f w'=>∃(j:Nat) (xs:List (Bool×aY×Int)) (a0:OA) (c0:Nat),m=h.length-j∧f 0=R gZ h gY∧f 3=R a0 xs c0∧f 4=C (j:Int)∧HI M w w' [oL w 43 a0 xs c0,iL gZ h gY]∧(j≤h.length)∧(xs=(h.take j).flatten)) _ ⟨0,([]:List (Bool×aY×Int)),none,0,J,i0,J,(bH J),H1,aq,(by rfl)⟩ ?_
 rintro _ f0 w0 ⟨j,xs,a0,c0,rfl,s0,s1,s2,H2,hk,hs⟩
 refine sq<|aD<|ak J s2<|ak J s0<|k<|dP J J uI<|k<|lss J J J J<|z<|nx<|cd (b:=decide ((j:Int)<(h.length:Int))) J J (fun b0=>?_)<|fun b0=>?_
 ·
  have p0:=dT b0
  refine sk<|nx<|sq<|bk<|rg<|ak J s1<|ak J s0<|ak J s2<|k<|ia (H2.rv 1 J) J J J J aq uI uJ ?_
  intro iy x0 aN cB
  refine k<|wT cB.w uJ J J ?_
  intro a1 c1 cm
  have Cl:=bg cm
  have H3:=dU H2 cm
  refine k<|l7 H3 1 J J J J J J (H3.rv 0 J).src oV iX J (by have h_:=u3 aN;rw[hs];omega) J ?_
  intro a2 c2 w1 (H4:HI M w w1 [iL a1 x0 c1,oL w 43 a2 (xs++x0) c2,iL gZ h gY])
  refine au (v:=R a2 (xs++x0) c2) J J<|z<|aH<|nx<|rg<|ak J s2<|k<|add J J J J aS<|au (v:=C ((j:Int)+1)) J J<|z ?_
  have H5:HI M w w1 [oL w 43 a2 (xs++x0) c2,iL gZ h gY]:=H4.bX [1,2] aw J
  refine bB _ ?_ ⟨(j+1),(xs++x0),a2,c2,J,s0,J,(bH J),H5,aq,(by rw[hs,vX aN])⟩
  omega
 have p0:=dF b0
 refine ex<|aW<|ba<|bh<|cQ<|ak J s1<|au (v:=R a0 xs c0) J J<|av<|rt<|r1 J J ?_
 have e0:(xs:List (Bool×aY×Int))=h.flatten:=by rw[hs,l_ aq]
 have bt:=iD (fun (cb:List (Bool×aY×Int))=>(.slice a0 cb.length c0:Value)) e0
 exact⟨a0,c0,bt,H2.below,(apj (fun (x_:List (Bool×aY×Int))=>RV _ _ (.slice a0 x_.length c0) x_) e0).mp (H2.mD 0 J)⟩
theorem OC (hM:eC M w) (oe:cz M w gZ gY h) (oD:h.flatten.length≤1048576):Calls aM 43 #[R gZ h gY] w (ck fun v w'=>v=C (h.flatten.length:Int)∧Ext w w'):=by
 refine dv 6 Tryz.func43 J J J hM fun f0 ha H=>?_
 have H0:=dU H oe
 have i0:f0 0=R gZ h gY:=ha 0 bm
 refine aD<|au (v:=C 0) J J<|bz<|ak J i0<|k ?_
 have bT:=Bu (h:=h) H0.mb (H0.rv 0 J)<|by exact oD
 refine ca Xq J (ec J e0) bT ?_
 rintro _ w0 ⟨a0,c0,rfl,bY,cm⟩
 have H1:=H0.ext bY
 have H2:=H1.put (it:=iL a0 h.flatten c0) J cm
 refine k<|dP J J oV<|au (v:=C (h.flatten.length:Int)) J J<|av<|rt<|r1 J J ?_
 exact⟨J,H2.below⟩
theorem OB (hM:eC M w) (oe:cz M w gZ gY h) (oD:h.flatten.length≤1048576):Calls aM 20 #[R gZ h gY] w (ck fun v w'=>v=.bool (jG h)∧Ext w w'):=by
 refine dv 23 Tryz.func20 J J J hM fun f0 ha H=>?_
 have H0:=dU H oe
 have MH:=bg oe
 have i0:f0 0=R gZ h gY:=ha 0 bm
 refine aD<|au (v:=.bool false) J J<|bz<|ak J i0<|k ?_
 have bT:=Bu (h:=h) H0.mb (H0.rv 0 J)<|by exact oD
 refine ca Xq J (ec J e0) bT ?_
 rintro _ w0 ⟨a0,c0,rfl,bY,cm⟩
 have H1:=H0.ext bY
 have H2:=H1.put (it:=iL a0 h.flatten c0) J cm
 refine au (v:=R a0 h.flatten c0) J J<|av<|sq<|aD<|au (v:=C 0) J J<|av<|bk<|lp (fun m f w'=>∃(j:Nat),m=h.flatten.length-j∧f 3=R a0 h.flatten c0∧f 4=C (j:Int)∧HI M w w' [iL a0 h.flatten c0,iL gZ h gY]∧(j≤h.flatten.length)∧((h.flatten.take j).all AG=true)) _ ⟨0,J,J,(bH J),H2,aq,(by rfl)⟩ ?_
 rintro _ f0 w1 ⟨j,rfl,s0,s1,H3,hk,hs⟩
 refine sq<|aD<|ak J s1<|ak J s0<|k<|dP J J oV<|k<|lss J J J J<|z<|nx<|cd (b:=decide ((j:Int)<(h.flatten.length:Int))) J J (fun b0=>?_)<|fun b0=>?_
 ·
  have p0:=dT b0
  refine sk<|nx<|sq<|bk<|aD<|ak J s0<|ak J s1<|k<|ia (H3.rv 0 J) J J J J aq oV iX ?_
  intro iy x0 aN cB
  refine aU ny J J<|k<|ldS ((cB).s1).fst.w oG J J ?_
  intro dN
  refine k ?_
  have df:=Q5 (s:=x0.2.1) (w:=w1) bu
  refine ca akG J (ec J e0) df ?_
  rintro _ w2 ⟨rfl,cS⟩
  have H4:=H3.ext cS
  refine k<|jr J J<|z<|nx<|cd (b:=!(mF x0.2.1)) J J (fun b1=>?_)<|fun b1=>?_
  ·
   refine aD<|au (v:=.bool false) J J<|av<|rt<|bI<|aL<|du<|bI<|aL<|r1 J J ?_
   exact⟨apj Value.bool (by exact Wd aN (by simpa using b1)),H4.below⟩
  refine sk<|aH<|nx<|rg<|ak J s1<|k<|add J J J J aS<|au (v:=C ((j:Int)+1)) J J<|z<|bB _ ?_ ⟨(j+1),J,s0,(bH J),H4,aq,(by exact GQ aN hs (by simpa [AG] using b1))⟩
  omega
 have p0:=dF b0
 refine ex<|aW<|ba<|bh<|cQ<|ak J s0<|k<|dP J J oV<|k<|leq J J J J<|au (v:=.bool (decide ((h.flatten.length:Int)≤4096))) J J<|av<|rt<|r1 J J ?_
 exact⟨apj Value.bool (by exact S8 hs aq),H3.below⟩
theorem Oz {m:Int} (hM:eC M w) (oe:cz M w gZ gY h) (h_m:aK m) (oD:h.flatten.length≤1048576):Calls aM 19 #[R gZ h gY,C m] w (ck fun v w'=>v=.bool (jf h m)∧Ext w w'):=by
 refine dv 32 Tryz.func19 J J J hM fun f0 ha H=>?_
 have H0:=dU H oe
 have MH:=bg oe
 have i0:f0 0=R gZ h gY:=ha 0 bm
 have i1:f0 1=C m:=ha 1 bm
 refine aD<|au (v:=.bool false) J J<|av<|sq<|aD<|ak J i0<|k<|dP J J uI<|ak J i1<|k<|gtr J J J J<|ak (v:=.bool (decide (m<(h.length:Int)))) J J ?_
 rcases bE (decide (m<(h.length:Int))) with b0|b0
 ·
  have p0:=dT b0
  refine aZ J J J b0<|aZ J J J b0<|aZ J J J b0<|aZ J J J b0<|k<|aQ J J J J b0 J<|av<|pk J J J<|aD<|au (v:=.bool false) J J<|av<|rt<|aL<|r1 J J ?_
  exact⟨apj Value.bool (by exact SU p0),H0.below⟩
 have p0:=dF b0
 refine bl J J J b0<|mv J i0<|bl J J J b0 ?_
 have bT:=OC (h:=h) H0.mb (H0.rv 0 J)<|by exact oD
 refine ca akH J (ec J e0) bT ?_
 rintro _ w0 ⟨rfl,bY⟩
 have H1:=H0.ext bY
 refine bl J J J b0<|mv J i1<|bl J J J b0<|gtr J J J J<|k<|cU J J J J b0 J<|z<|nx<|cd (b:=decide (m<(h.flatten.length:Int))) J J (fun b1=>?_)<|fun b1=>?_
 ·
  have p1:=dT b1
  refine aD<|au (v:=.bool false) J J<|av<|rt<|aL<|r1 J J ?_
  exact⟨apj Value.bool (by exact SS p1),H1.below⟩
 have p1:=dF b1
 refine sk<|cQ<|ak J i0<|k ?_
 have df:=Bu (h:=h) H1.mb (H1.rv 0 J)<|by exact oD
 refine ca Xq J (ec J e0) df ?_
 rintro _ w1 ⟨a0,c0,rfl,cS,cm⟩
 have H2:=H1.ext cS
 have H3:=H2.put (it:=iL a0 h.flatten c0) J cm
 refine au (v:=R a0 h.flatten c0) J J<|av<|sq<|aD<|au (v:=C 0) J J<|av<|bk<|lp (fun m f w'=>∃(j:Nat),m=h.flatten.length-j∧f 5=R a0 h.flatten c0∧f 6=C (j:Int)∧HI M w w' [iL a0 h.flatten c0,iL gZ h gY]∧(j≤h.flatten.length)∧((h.flatten.take j).all AE=true)) _ ⟨0,J,J,(bH J),H3,aq,(by rfl)⟩ ?_
 rintro _ f0 w2 ⟨j,rfl,s0,s1,H4,hk,hs⟩
 refine sq<|aD<|ak J s1<|ak J s0<|k<|dP J J oV<|k<|lss J J J J<|z<|nx<|cd (b:=decide ((j:Int)<(h.flatten.length:Int))) J J (fun b2=>?_)<|fun b2=>?_
 ·
  have p2:=dT b2
  refine sk<|nx<|sq<|bk<|aD<|ak J s0<|ak J s1<|k<|ia (H4.rv 0 J) J J J J aq oV iX ?_
  intro iy x0 aN cB
  refine aU ny J J<|k<|ldS ((cB).s1).fst.w oG J J ?_
  intro dN
  refine k<|wQ J J mL<|k<|gtr J J J J<|z<|nx<|cd (b:=decide (20<(x0.2.1.size:Int))) J J (fun b3=>?_)<|fun b3=>?_
  ·
   refine aD<|au (v:=.bool false) J J<|av<|rt<|bI<|aL<|du<|bI<|aL<|r1 J J ?_
   exact⟨apj Value.bool (by exact SR aN (by simpa using b3)),H4.below⟩
  have p3:=dF b3
  refine sk<|aH<|nx<|rg<|ak J s1<|k<|add J J J J aS<|au (v:=C ((j:Int)+1)) J J<|z<|bB _ ?_ ⟨(j+1),J,s0,(bH J),H4,aq,(by exact GQ aN hs (apt aq))⟩
  omega
 have p2:=dF b2
 refine ex<|aW<|ba<|bh<|cQ<|au (v:=.bool true) J J<|av<|rt<|r1 J J ?_
 exact⟨apj Value.bool (by exact SX p0 p1 hs aq),H4.below⟩
theorem Q4 {l:List aY} (hM:eC M w) (mR:cz M w fX gb l) (lu:s.size≤maxLen):Calls aM 48 #[R fX l gb,.string s] w (ck fun v w'=>v=C (gE l s)∧Ext w w'):=by
 refine dv 19 Tryz.func48 J J J hM fun f0 ha H=>?_
 have H0:=dU H mR
 have F6:=bg mR
 have i0:f0 0=R fX l gb:=ha 0 bm
 have i1:f0 1=.string s:=ha 1 bm
 refine aD<|au (v:=C 0) J J<|av<|sq<|aD<|au (v:=C 0) J J<|av<|bk<|lp (fun m f w'=>∃(j:Nat),m=l.length-j∧f 0=R fX l gb∧f 1=.string s∧f 5=C (j:Int)∧HI M w w' [iL fX l gb]∧(j≤l.length)∧((l.take j).any (Hs s)=false)) _ ⟨0,J,i0,i1,(bH J),H0,aq,bm⟩ ?_
 rintro _ f0 w0 ⟨j,rfl,s0,s1,s2,H1,hk,hs⟩
 refine sq<|aD<|ak J s2<|ak J s0<|k<|dP J J IF<|k<|lss J J J J<|z<|nx<|cd (b:=decide ((j:Int)<(l.length:Int))) J J (fun b0=>?_)<|fun b0=>?_
 ·
  have p0:=dT b0
  refine sk<|nx<|sq<|bk<|aD<|ak J s0<|ak J s2<|k<|ia (H1.rv 0 J) J J J J aq IF oG ?_
  intro iy x0 aN cB
  refine k<|ldS cB.w oG J J ?_
  intro cm
  refine ak J s1<|k<|ZI J J J J<|z<|nx<|cd (b:=decide (x0=s)) J J (fun b1=>?_)<|fun b1=>?_
  ·
   refine aD<|ak J s2<|au (v:=C (j:Int)) J J<|av<|rt<|bI<|aL<|du<|bI<|aL<|r1 J J ?_
   exact⟨apj (Value.int .i64) (by exact uT aN hs b1),H1.below⟩
  have p1:=dF b1
  refine sk<|aH<|nx<|rg<|ak J s2<|k<|add J J J J aS<|au (v:=C ((j:Int)+1)) J J<|z<|bB _ ?_ ⟨(j+1),J,s0,s1,(bH J),H1,aq,(by exact oF aN hs b1)⟩
  omega
 have p0:=dF b0
 refine ex<|aW<|ba<|bh<|cQ<|au (v:=C (-1)) J J<|av<|rt<|r1 J J ?_
 exact⟨apj (Value.int .i64) (by exact vI hs aq),H1.below⟩
theorem Wh (hM:eC M w) (oe:cz M w gZ gY h) (oD:h.flatten.length≤1048576):Calls aM 23 #[R gZ h gY] w (ck fun v w'=>∃(a0:OA) (c0:Nat) (a1:OA) (c1:Nat) (a2:OA) (c2:Nat),v=.tuple #[.agg #[.slice a0 (mo h).length c0,.slice a1 (cX h).length c1,.slice a2 ([]:aE).length c2],C (lG h)]∧Ext w w'∧RV M w' (.slice a0 (mo h).length c0) (mo h)∧RV M w' (.slice a1 (cX h).length c1) (cX h)∧RV M w' (.slice a2 ([]:aE).length c2) ([]:aE)):=by
 refine dv 66 Tryz.func23 J J J hM fun f0 ha H=>?_
 let J0:=iL gZ h gY
 have H0:=H.put (it:=J0) J<|by rw[bQ];exact oe
 have MH:=bg oe
 have i0:f0 0=R gZ h gY:=ha 0 bm
 refine aD<|k<|al H0 dt ?_
 intro aX w0 bY (H1:HI M w w0 [box aX #[.slice none 0 0,.slice none 0 0,.slice none 0 0] 47,J0])
 let J1:=box aX #[.slice none 0 0,.slice none 0 0,.slice none 0 0] 47
 refine au (v:=C 0) J J<|av<|sq<|aD<|ak J i0<|k ?_
 have bT:=OB (h:=h) H1.mb (H1.rv 1 J)<|by exact oD
 refine ca akZ J (ec J e0) bT ?_
 rintro _ w1 ⟨rfl,cS⟩
 have H2:=H1.ext cS
 refine k<|jr J J<|z<|nx<|cd (b:=!(jG h)) J J (fun b0=>?_)<|fun b0=>?_
 ·
  refine sq ?_
  have hq:jG h=false:=by simpa using b0
  refine rg<|k<|bd (v:=.agg #[.slice none 0 0,.slice none 0 0,.slice none 0 0]) J eA (fun _=>aV)<|k<|bA H2 0 J dt J J J J J J J ?_
  intro w2 (H3:HI M w w2 [J1,J0])
  refine au (v:=C 1) J J<|av<|rt<|aL<|iB H3 0 J dt J J J J J aw ?_
  have e0:([]:List aY)=mo h:=by exact(yh hq).1.symm
  have e1:([]:List aO)=cX h:=by exact(yh hq).2.1.symm
  have e3:(1:Int)=lG h:=by exact(yh hq).2.2.symm
  have bt:=rD (fun (cb:List aY) (dK:List aO) (lR:Int)=>(.tuple #[.agg #[.slice none cb.length 0,.slice none dK.length 0,.slice none ([]:aE).length 0],C lR]:Value)) e0 e1 e3
  exact⟨none,0,none,0,none,0,bt,H3.below,(apj (fun (x_:List aY)=>RV _ _ (.slice none x_.length 0) x_) e0).mp (ep _ _),(apj (fun (x_:List aO)=>RV _ _ (.slice none x_.length 0) x_) e1).mp (ep _ _),(ep _ _)⟩
 refine sk<|nx<|sq ?_
 have hq:jG h=true:=by simpa using b0
 refine rg<|k<|al H2 dt ?_
 intro bj w2 fm (H3:HI M w w2 [box bj #[.slice none 0 0,.slice none 0 0,.slice none 0 0] 47,J1,J0])
 refine av<|sq<|aD<|au (v:=C 0) J J<|av<|bk ?_
 have H4:=H3.qZ aY 9
 have H5:=H4.qZ aO 95
 refine lp (fun m f w'=>∃(i:Nat) (vs:List aY) (aI:List aO) (a0:OA) (c0:Nat) (a1:OA) (c1:Nat),m=h.length-i∧f 0=R gZ h gY∧f 2=pV aX 0∧f 4=pV bj 0∧f 5=C (i:Int)∧HI M w w' [oL w 95 a1 aI c1,oL w 9 a0 vs c0,box bj #[R a0 vs c0,R a1 aI c1,.slice none 0 0] 47,J1,J0]∧(i≤h.length)∧(vs=(iN h i).1)∧(aI=(iN h i).2)) _ ⟨0,([]:List aY),([]:List aO),none,0,none,0,J,i0,J,J,(bH J),H5,aq,(by rfl),(by rfl)⟩ ?_
 rintro _ f0 w3 ⟨i,vs,aI,a0,c0,a1,c1,rfl,s0,s1,s2,s3,H6,Za,h1,h2⟩
 refine sq<|aD<|ak J s3<|ak J s0<|k<|dP J J uI<|k<|lss J J J J<|z<|nx<|cd (b:=decide ((i:Int)<(h.length:Int))) J J (fun b1=>?_)<|fun b1=>?_
 ·
  have p1:=dT b1
  refine sk<|nx<|sq<|bk<|aD<|au (v:=C 0) J J<|av<|bk<|lp (fun m f w'=>∃(q:Nat) (vs:List aY) (aI:List aO) (a2:OA) (c2:Nat) (a3:OA) (c3:Nat),m=(h.getD i []).length-q∧f 0=R gZ h gY∧f 2=pV aX 0∧f 4=pV bj 0∧f 5=C (i:Int)∧f 6=C (q:Int)∧HI M w w' [oL w 95 a3 aI c3,oL w 9 a2 vs c2,box bj #[R a2 vs c2,R a3 aI c3,.slice none 0 0] 47,J1,J0]∧(q≤(h.getD i []).length)∧(vs=(jS i (iN h i) (h.getD i []) q).1)∧(aI=(jS i (iN h i) (h.getD i []) q).2)) _ ⟨0,vs,aI,a0,c0,a1,c1,J,s0,s1,s2,s3,(bH J),H6,aq,(by exact h1),(by exact h2)⟩ ?_
  rintro _ f1 w4 ⟨q,vs,aI,a2,c2,a3,c3,rfl,s4,s5,s6,s7,s8,H7,hk,h1,h2⟩
  refine sq<|aD<|ak J s8<|ak J s4<|ak J s7<|k<|ia (H7.rv 4 J) J J J J aq uI uJ ?_
  intro iy x0 aN cB
  refine k<|wT cB.w uJ J J ?_
  intro a4 c4 cm
  have Cl:=bg cm
  let J2:=iL a4 x0 c4
  have H8:=H7.put (it:=J2) J cm
  refine k<|dP J J oV<|k<|lss J J J J<|z<|nx<|cd (b:=decide ((q:Int)<(x0.length:Int))) J J (fun b2=>?_)<|fun b2=>?_
  ·
   have p2:=dT b2
   refine sk<|nx<|sq<|bk<|aD<|ak J s4<|ak J s7<|k<|ia (H8.rv 5 J) J J J J aq uI uJ ?_
   intro mV x1 cO gx
   refine k<|wT gx.w uJ J J ?_
   intro a5 c5 dN
   have ln1:=bg dN
   let J3:=iL a5 x1 c5
   have H9:=H8.put (it:=J3) J dN
   refine ak J s8<|k<|ia (H9.rv 0 J) J J J J (by have e_:=nH cO aN;subst e_;omega) oV iX ?_
   intro jo x2 iY jw
   refine k<|nI jw.w iX J J ?_
   intro v0 dH
   obtain⟨_,⟨_,_,rfl,rfl,⟨_,_,rfl,⟨rfl,ft⟩,⟨rfl,iO⟩⟩⟩,rfl⟩:=dH
   refine k<|al H9 iX ?_
   let J4:=box bj #[R a2 vs c2,R a3 aI c3,.slice none 0 0] 47
   let bf:=[J3,J2,oL w 95 a3 aI c3,oL w 9 a2 vs c2,J4,J1,J0]
   intro bK w5 fg (dB:HI M w w5 (box bK #[.bool false,.string ⟨#[]⟩,C 0] 43::bf))
   refine k<|bA dB 0 J iX J J J J J J J ?_
   let J5:=box bK #[.bool x2.1,.string x2.2.1,C x2.2.2] 43
   intro w6 (cT:HI M w w6 (J5::bf))
   refine bz<|aU vY J s6<|bq cT 5 J CO J J J<|aU ny J J<|bq cT 0 J oG J J J<|k ?_
   have db:=cT.freeze 4 J
   have df:=Q4 (l:=vs) (s:=x2.2.1) db.mb (db.rv 4 J) bu
   refine ca akF J (ec J<|ec J e0) df ?_
   rintro _ w7 ⟨rfl,jl⟩
   have dq:=cT.ext jl
   refine au (v:=C (gE vs x2.2.1)) J J<|av<|sq<|aD<|ak (v:=C (gE vs x2.2.1)) J J<|k<|lss J J J J<|z<|nx<|cd (b:=decide ((gE vs x2.2.1)<0)) J J (fun b3=>?_)<|fun b3=>?_
   ·
    have p3:=dT b3
    refine aD<|aU vY J s6<|bq dq 5 J CO J J J<|k<|dP J J IF<|au (v:=C (vs.length:Int)) J J<|av<|rg<|aU vY J s6<|bq dq 5 J CO J J J<|aU ny J J<|bq dq 0 J oG J J J<|k<|bs (xs:=([x2.2.1]:List aY)) (cells:=#[.string x2.2.1]) (e:=9) dq J (ct J eA) (fun _=>aV) ⟨[.string x2.2.1],[],J,⟨J,bu⟩,J⟩ J aw ?_
    intro g0 w8 je cM
    refine k<|l7 cM 5 J J J J J J (hG<|cM.at_ 0 J) IF oG J (by have e_:=nH cO aN;have h_:=qo (k:=q) aN aq;rw[←fD aN,←h1,←h2] at h_;simp only[jb,gC];omega) J ?_
    let J6:=own w.heap.size 9 (.slice (some ⟨g0,0,none⟩) 1 1) ([x2.2.1]:List aY)
    intro a6 c6 w9 (dR:HI M w w9 [J6,J5,J3,J2,oL w 95 a3 aI c3,oL w 9 a6 (vs++([x2.2.1]:List aY)) c6,J4,J1,J0])
    let J7:=oL w 9 a6 (vs++([x2.2.1]:List aY)) c6
    refine aU vY J s6<|k<|bA dR 6 J CO J J J J J J J ?_
    let J8:=box bj #[R a6 (vs++([x2.2.1]:List aY)) c6,R a3 aI c3,.slice none 0 0] 47
    intro dL (dI:HI M w dL [J6,J5,J3,J2,oL w 95 a3 aI c3,J7,J8,J1,J0])
    refine av<|rg<|aU eX J s6<|bq dI 6 J ir J J J<|ak J s7<|ak J s8<|aU qf J J<|bq dI 1 J n5 J J J<|ak (v:=C (vs.length:Int)) J J<|aU rA J J<|bq dI 1 J aT J J J<|k<|bd (v:=.agg #[C (i:Int),C (q:Int),.bool x2.1,C (vs.length:Int),C x2.2.2]) J (ct J<|ct J<|ct J<|ct J<|ct J eA) (fun _=>aV)<|k<|bs (xs:=([((i:Int),(q:Int),x2.1,(vs.length:Int),x2.2.2)]:List aO)) (cells:=#[C (i:Int),C (q:Int),.bool x2.1,C (vs.length:Int),C x2.2.2]) (e:=95) dI J (ct J eA) (fun _=>aV) ⟨[C (i:Int),C (q:Int),.bool x2.1,C (vs.length:Int),C x2.2.2],[],J,⟨_,_,J,⟨J,(show aK ((i:Int)) from aS)⟩,⟨_,_,J,⟨J,(show aK ((q:Int)) from aS)⟩,⟨_,_,J,J,⟨_,_,J,⟨J,(show aK ((vs.length:Int)) from(by have e_:=nH cO aN;have h3:=qo (k:=q) aN aq;rw[←fD aN,←h1,←h2] at h3;unfold aK;omega))⟩,⟨J,(show aK (x2.2.2) from aS)⟩⟩⟩⟩⟩,J⟩ J aw ?_
    intro g1 ew jE cR
    refine k<|l7 cR 5 J J J J J J (hG<|cR.at_ 0 J) iK jd J (by have e_:=nH cO aN;have h_:=qo (k:=q) aN aq;rw[←fD aN,←h1,←h2] at h_;simp only[jb,gC];omega) J ?_
    let J9:=own w.heap.size 95 (.slice (some ⟨g1,0,none⟩) 1 1) ([((i:Int),(q:Int),x2.1,(vs.length:Int),x2.2.2)]:List aO)
    intro a7 c7 fq (dX:HI M w fq [J9,J6,J5,J3,J2,oL w 95 a7 (aI++([((i:Int),(q:Int),x2.1,(vs.length:Int),x2.2.2)]:List aO)) c7,J7,J8,J1,J0])
    let d_:=oL w 95 a7 (aI++([((i:Int),(q:Int),x2.1,(vs.length:Int),x2.2.2)]:List aO)) c7
    refine aU eX J s6<|k<|bA dX 7 J ir J J J J J J J ?_
    let eJ:=box bj #[R a6 (vs++([x2.2.1]:List aY)) c6,R a7 (aI++([((i:Int),(q:Int),x2.1,(vs.length:Int),x2.2.2)]:List aO)) c7,.slice none 0 0] 47
    intro iF (dV:HI M w iF [J9,J6,J5,J3,J2,d_,J7,eJ,J1,J0])
    refine z<|aH<|nx<|rg<|ak J s8<|k<|add J J J J aS<|au (v:=C ((q:Int)+1)) J J<|z ?_
    have cJ:HI M w iF [d_,J7,eJ,J1,J0]:=dV.bX [5,6,7,8,9] aw J
    refine bB _ ?_ ⟨(q+1),(vs++([x2.2.1]:List aY)),(aI++([((i:Int),(q:Int),x2.1,(vs.length:Int),x2.2.2)]:List aO)),a6,c6,a7,c7,J,s4,s5,s6,s7,(bH J),cJ,(by rw[fD aN];omega),(by rw[h1] at *;have e_:=nH cO aN;subst e_;rw[fD aN] at *;first|exact(xW iY p3).1|exact(xV iY p3).1),(by rw[h1,h2] at *;have e_:=nH cO aN;subst e_;rw[fD aN] at *;first|exact(xW iY p3).2|exact(xV iY p3).2)⟩
    rw[fD aN];omega
   have p3:=dF b3
   refine sk<|nx<|rg<|aU eX J s6<|bq dq 5 J ir J J J<|ak J s7<|ak J s8<|aU qf J J<|bq dq 0 J n5 J J J<|ak (v:=C (gE vs x2.2.1)) J J<|aU rA J J<|bq dq 0 J aT J J J<|k<|bd (v:=.agg #[C (i:Int),C (q:Int),.bool x2.1,C (gE vs x2.2.1),C x2.2.2]) J (ct J<|ct J<|ct J<|ct J<|ct J eA) (fun _=>aV)<|k<|bs (xs:=([((i:Int),(q:Int),x2.1,gE vs x2.2.1,x2.2.2)]:List aO)) (cells:=#[C (i:Int),C (q:Int),.bool x2.1,C (gE vs x2.2.1),C x2.2.2]) (e:=95) dq J (ct J eA) (fun _=>aV) ⟨[C (i:Int),C (q:Int),.bool x2.1,C (gE vs x2.2.1),C x2.2.2],[],J,⟨_,_,J,⟨J,(show aK ((i:Int)) from aS)⟩,⟨_,_,J,⟨J,(show aK ((q:Int)) from aS)⟩,⟨_,_,J,J,⟨_,_,J,⟨J,(show aK (gE vs x2.2.1) from(by have h_:=xp (p:=Hs x2.2.1) (r:=vs);have e_:=nH cO aN;have h3:=qo (k:=q) aN aq;rw[←fD aN,←h1,←h2] at h3;unfold gE;unfold aK;omega))⟩,⟨J,(show aK (x2.2.2) from aS)⟩⟩⟩⟩⟩,J⟩ J aw ?_
   intro g0 w8 je cM
   refine k<|l7 cM 4 J J J J J J (hG<|cM.at_ 0 J) iK jd J (by have e_:=nH cO aN;have h_:=qo (k:=q) aN aq;rw[←fD aN,←h1,←h2] at h_;simp only[jb,gC];omega) J ?_
   let fZ:=own w.heap.size 95 (.slice (some ⟨g0,0,none⟩) 1 1) ([((i:Int),(q:Int),x2.1,gE vs x2.2.1,x2.2.2)]:List aO)
   intro a6 c6 w9 (dR:HI M w w9 [fZ,J5,J3,J2,oL w 95 a6 (aI++([((i:Int),(q:Int),x2.1,gE vs x2.2.1,x2.2.2)]:List aO)) c6,oL w 9 a2 vs c2,J4,J1,J0])
   let fI:=oL w 95 a6 (aI++([((i:Int),(q:Int),x2.1,gE vs x2.2.1,x2.2.2)]:List aO)) c6
   refine aU eX J s6<|k<|bA dR 6 J ir J J J J J J J ?_
   let iz:=box bj #[R a2 vs c2,R a6 (aI++([((i:Int),(q:Int),x2.1,gE vs x2.2.1,x2.2.2)]:List aO)) c6,.slice none 0 0] 47
   intro dL (dI:HI M w dL [fZ,J5,J3,J2,fI,oL w 9 a2 vs c2,iz,J1,J0])
   refine z<|aH<|nx<|rg<|ak J s8<|k<|add J J J J aS<|au (v:=C ((q:Int)+1)) J J<|z ?_
   have cR:HI M w dL [fI,oL w 9 a2 vs c2,iz,J1,J0]:=dI.bX [4,5,6,7,8] aw J
   refine bB _ ?_ ⟨(q+1),vs,(aI++([((i:Int),(q:Int),x2.1,gE vs x2.2.1,x2.2.2)]:List aO)),a2,c2,a6,c6,J,s4,s5,s6,s7,(bH J),cR,(by rw[fD aN];omega),(by rw[h1] at *;have e_:=nH cO aN;subst e_;rw[fD aN] at *;first|exact(xW iY p3).1|exact(xV iY p3).1),(by rw[h1,h2] at *;have e_:=nH cO aN;subst e_;rw[fD aN] at *;first|exact(xW iY p3).2|exact(xV iY p3).2)⟩
   rw[fD aN];omega
  have p2:=dF b2
  refine ex<|aW<|ba<|bh<|aH<|nx<|rg<|ak J s7<|k<|add J J J J aS<|au (v:=C ((i:Int)+1)) J J<|z ?_
  have H9:HI M w w4 [oL w 95 a3 aI c3,oL w 9 a2 vs c2,box bj #[R a2 vs c2,R a3 aI c3,.slice none 0 0] 47,J1,J0]:=H8.bX [1,2,3,4,5] aw J
  refine bB _ ?_ ⟨(i+1),vs,aI,a2,c2,a3,c3,J,s4,s5,s6,(bH J),H9,aq,(by rw[h1,Cb aq (by rw[fD aN];omega)]),(by rw[h2,Cb aq (by rw[fD aN];omega)])⟩
  omega
 have p1:=dF b1
 refine ex<|aW<|ba<|bh<|cQ<|k<|cC H6 2 J dt J s2 aw J<|k<|bA H6 3 J dt J J s1 J J J J ?_
 intro w4 (H7:HI M w w4 [oL w 95 a1 aI c1,oL w 9 a0 vs c0,box bj #[R a0 vs c0,R a1 aI c1,.slice none 0 0] 47,box aX #[R a0 vs c0,R a1 aI c1,.slice none 0 0] 47,J0])
 refine au (v:=C 0) J J<|av<|rt<|iB H7 3 J dt J J J s1 J aw ?_
 have e0:(vs:List aY)=mo h:=by rw[(tP hq).1,h1];unfold zA;rw[show i=h.length from by omega]
 have e1:(aI:List aO)=cX h:=by rw[(tP hq).2.1,h2];unfold eY;rw[show i=h.length from by omega]
 have e3:(0:Int)=lG h:=by exact(tP hq).2.2.symm
 have bt:=rD (fun (cb:List aY) (dK:List aO) (lR:Int)=>(.tuple #[.agg #[.slice a0 cb.length c0,.slice a1 dK.length c1,.slice none ([]:aE).length 0],C lR]:Value)) e0 e1 e3
 exact⟨a0,c0,a1,c1,none,0,bt,H7.below,(apj (fun (x_:List aY)=>RV _ _ (.slice a0 x_.length c0) x_) e0).mp (H7.mD 1 J),(apj (fun (x_:List aO)=>RV _ _ (.slice a1 x_.length c1) x_) e1).mp (H7.mD 0 J),(ep _ _)⟩
theorem EW {val:Int} (hM:eC M w) (cW:cz M w aA az I) (aeC:aK vr) (anJ:aK val):Calls aM 49 #[.agg #[.slice aC aF aB,R aA I az,.slice ay dY ax],C vr,C val] w (ck fun v w'=>v=.tuple #[C (max (gG I vr val) 0),.bool (decide (0≤gG I vr val))]∧Ext w w'):=by
 refine dv 43 Tryz.func49 J J J hM fun f0 ha H=>?_
 have H0:=dU H cW
 have iE:=bg cW
 have i0:f0 0=.agg #[.slice aC aF aB,R aA I az,.slice ay dY ax]:=ha 0 bm
 have i1:f0 1=C vr:=ha 1 bm
 have i2:f0 2=C val:=ha 2 bm
 refine aD<|k<|bx H0 J i0 ?_
 intro aX w0 bY (H1:HI M w w0 [box aX #[.slice aC aF aB,R aA I az,.slice ay dY ax] 47,iL aA I az])
 refine au (v:=C 0) J J<|au (v:=.bool false) J J<|av<|sq<|aD<|au (v:=C 0) J J<|av<|bk<|lp (fun m f w'=>∃(j:Nat),m=I.length-j∧f 1=C vr∧f 2=C val∧f 3=pV aX 0∧f 8=C (j:Int)∧HI M w w' [box aX #[.slice aC aF aB,R aA I az,.slice ay dY ax] 47,iL aA I az]∧(j≤I.length)∧((I.take j).any (lH vr val)=false)) _ ⟨0,J,i1,i2,J,(bH J),H1,aq,bm⟩ ?_
 rintro _ f0 w1 ⟨j,rfl,s0,s1,s2,s3,H2,hk,hs⟩
 refine sq<|aD<|ak J s3<|aU eX J s2<|bq H2 0 J ir J J J<|k<|dP J J iK<|k<|lss J J J J<|z<|nx<|cd (b:=decide ((j:Int)<(I.length:Int))) J J (fun b0=>?_)<|fun b0=>?_
 ·
  have p0:=dT b0
  refine sk<|nx<|sq<|bk<|aD<|aU eX J s2<|bq H2 0 J ir J J J<|ak J s3<|k<|ia (H2.rv 1 J) J J J J aq iK jd ?_
  intro iy x0 aN cB
  refine aU rz J J<|k<|YO ((cB).s2).fst.w n5 J J<|ak (v:=.bool x0.2.2.1) J J ?_
  rcases bE (x0.2.2.1) with b1|b1
  ·
   refine bl J J J b1<|fa eX J s2<|bl J J J b1<|lx H2 0 J ir J J J<|bl J J J b1<|mv J s3<|bl J J J b1<|ia (H2.rv 1 J) J J J J aq iK jd ?_
   intro mV x1 cO gx
   refine bl J J J b1<|fa ry J J<|bl J J J b1<|kF ((gx).s3).fst.w aT J J ?_
   intro cm
   refine bl J J J b1<|mv J s0<|bl J J J b1<|eql J J J J<|k<|aQ J J J J b1 J<|ak (v:=.bool (decide (x1.2.2.2.1=vr))) J J ?_
   rcases bE (decide (x1.2.2.2.1=vr)) with b2|b2
   ·
    have p2:=dT b2
    refine bl J J J b2<|fa eX J s2<|bl J J J b2<|lx H2 0 J ir J J J<|bl J J J b2<|mv J s3<|bl J J J b2<|ia (H2.rv 1 J) J J J J aq iK jd ?_
    intro jo x2 iY jw
    refine bl J J J b2<|fa sj J J<|bl J J J b2<|kF (jw).s4.w aT J J ?_
    intro dN
    refine bl J J J b2<|mv J s1<|bl J J J b2<|eql J J J J<|k<|aQ J J J J b2 J<|z<|nx<|cd (b:=decide (x2.2.2.2.2=val)) J J (fun b3=>?_)<|fun b3=>?_
    ·
     refine aD<|ak J s3<|au (v:=C (j:Int)) J J<|au (v:=.bool true) J J<|av<|rt<|bI<|aL<|du<|bI<|aL<|r2 J J J ?_
     have e0:((j:Int):Int)=(max (gG I vr val) 0):=by have e1:=nH cO aN;subst e1;have e2:=nH iY aN;subst e2;have h_:=Sv aN b1 b2 b3 hs;omega
     have e1:(true:Bool)=decide (0≤gG I vr val):=by have e1:=nH cO aN;subst e1;have e2:=nH iY aN;subst e2;have h_:=Sv aN b1 b2 b3 hs;symm;rw[apl];omega
     have bt:=nN (fun (cb:Int) (dK:Bool)=>(.tuple #[C cb,.bool dK]:Value)) e0 e1
     exact⟨bt,H2.below⟩
    have p3:=dF b3
    refine sk<|aH<|nx<|rg<|ak J s3<|k<|add J J J J aS<|au (v:=C ((j:Int)+1)) J J<|z<|bB _ ?_ ⟨(j+1),J,s0,s1,s2,(bH J),H2,aq,(by have e1:=nH cO aN;subst e1;first|exact oF aN hs (PK b2)|(have e2:=nH iY aN;subst e2;exact oF aN hs (PJ b3)))⟩
    omega
   have p2:=dF b2
   refine aZ J J J b2<|aZ J J J b2<|aZ J J J b2<|aZ J J J b2<|aZ J J J b2<|aZ J J J b2<|aZ J J J b2<|aZ J J J b2<|k<|cU J J J J b2 J<|av<|nB J J J<|sk<|aH<|nx<|rg<|ak J s3<|k<|add J J J J aS<|au (v:=C ((j:Int)+1)) J J<|z<|bB _ ?_ ⟨(j+1),J,s0,s1,s2,(bH J),H2,aq,(by have e1:=nH cO aN;subst e1;first|exact oF aN hs (PK b2)|(have e2:=nH iY aN;subst e2;exact oF aN hs (PJ b3)))⟩
   omega
  refine aZ J J J b1<|aZ J J J b1<|aZ J J J b1<|aZ J J J b1<|aZ J J J b1<|aZ J J J b1<|aZ J J J b1<|aZ J J J b1<|k<|cU J J J J b1 J<|ak (v:=.bool false) J J<|aZ J J J J<|aZ J J J J<|aZ J J J J<|aZ J J J J<|aZ J J J J<|aZ J J J J<|aZ J J J J<|aZ J J J J<|k<|cU J J J J J J<|av<|nB J J J<|sk<|aH<|nx<|rg<|ak J s3<|k<|add J J J J aS<|au (v:=C ((j:Int)+1)) J J<|z<|bB _ ?_ ⟨(j+1),J,s0,s1,s2,(bH J),H2,aq,(by exact oF aN hs (aa5 b1))⟩
  omega
 have p0:=dF b0
 refine ex<|aW<|ba<|bh<|cQ<|au (v:=C 0) J J<|au (v:=.bool false) J J<|av<|rt<|r2 J J J ?_
 have e0:(0:Int)=(max (gG I vr val) 0):=by have h_:=OX hs aq;omega
 have e1:(false:Bool)=decide (0≤gG I vr val):=by have h_:=OX hs aq;symm;rw[apA];omega
 have bt:=nN (fun (cb:Int) (dK:Bool)=>(.tuple #[C cb,.bool dK]:Value)) e0 e1
 exact⟨bt,H2.below⟩
theorem Oy (hM:eC M w) (cW:cz M w aA az I):Calls aM 24 #[.agg #[.slice aC aF aB,R aA I az,.slice ay dY ax]] w (ck fun v w'=>v=.tuple #[C ((dC I).1),C ((dC I).2.1),C ((dC I).2.2)]∧Ext w w'):=by
 refine dv 43 Tryz.func24 J J J hM fun f0 ha H=>?_
 let J0:=iL aA I az
 have H0:=H.put (it:=J0) J<|by rw[bQ];exact cW
 have iE:=bg cW
 have i0:f0 0=.agg #[.slice aC aF aB,R aA I az,.slice ay dY ax]:=ha 0 bm
 refine aD<|k<|bx H0 J i0 ?_
 intro aX w0 bY (H1:HI M w w0 [box aX #[.slice aC aF aB,R aA I az,.slice ay dY ax] 47,J0])
 let J1:=box aX #[.slice aC aF aB,R aA I az,.slice ay dY ax] 47
 refine au (v:=C 0) J J<|au (v:=C 0) J J<|au (v:=C 0) J J<|av<|sq<|aD<|au (v:=C 0) J J<|av<|bk<|lp (fun m f w'=>∃(j:Nat),m=I.length-j∧f 1=pV aX 0∧f 5=C (j:Int)∧HI M w w' [J1,J0]∧(j≤I.length)∧(∀k,k<j→oE I k=false)) _ ⟨0,J,J,(bH J),H1,aq,(by intro k hk;omega)⟩ ?_
 rintro _ f0 w1 ⟨j,rfl,s0,s1,H2,hk,hs⟩
 refine sq<|aD<|ak J s1<|aU eX J s0<|bq H2 0 J ir J J J<|k<|dP J J iK<|k<|lss J J J J<|z<|nx<|cd (b:=decide ((j:Int)<(I.length:Int))) J J (fun b0=>?_)<|fun b0=>?_
 ·
  have p0:=dT b0
  refine sk<|nx<|sq<|bk<|aD<|aU eX J s0<|bq H2 0 J ir J J J<|ak J s1<|k<|ia (H2.rv 1 J) J J J J aq iK jd ?_
  intro iy x0 aN cB
  refine k<|nI cB.w jd J J ?_
  intro v0 cm
  obtain⟨_,⟨_,_,rfl,⟨rfl,dN⟩,⟨_,_,rfl,⟨rfl,dH⟩,⟨_,_,rfl,rfl,⟨_,_,rfl,⟨rfl,ft⟩,⟨rfl,iO⟩⟩⟩⟩⟩,rfl⟩:=cm
  refine k<|al H2 jd ?_
  intro bj w2 cS (H3:HI M w w2 [box bj #[C 0,C 0,.bool false,C 0,C 0] 95,J1,J0])
  refine k<|bA H3 0 J jd J J J J J J J ?_
  intro w3 (H4:HI M w w3 [box bj #[C x0.1,C x0.2.1,.bool x0.2.2.1,C x0.2.2.2.1,C x0.2.2.2.2] 95,J1,J0])
  refine av<|sq<|aD<|aU rz J J<|bq H4 0 J n5 J J J<|k<|jr J J<|z<|nx<|cd (b:=!x0.2.2.1) J J (fun b1=>?_)<|fun b1=>?_
  ·
   refine ex<|aW<|bh<|nx<|rg<|ak J s1<|k<|add J J J J aS<|au (v:=C ((j:Int)+1)) J J<|z ?_
   have H5:HI M w w3 [J1,J0]:=H4.bX [1,2] aw J
   refine bB _ ?_ ⟨(j+1),J,s0,(bH J),H5,aq,(by exact B9 hs aN (NR<|by simpa using b1))⟩
   omega
  refine sk<|nx<|sq<|aD<|aU sj J J<|bq H4 0 J aT J J J<|k<|eql J J J J<|z<|nx<|cd (b:=decide (x0.2.2.2.2=0)) J J (fun b2=>?_)<|fun b2=>?_
  ·
   have p2:=dT b2
   refine aD<|ak J s1<|ak J s1<|au (v:=C (j:Int)) J J<|au (v:=C (j:Int)) J J<|au (v:=C 5) J J<|av<|rt<|aL<|bI<|aL<|du<|bI<|aL<|r3 J J J J ?_
   have e0:((j:Int):Int)=(dC I).1:=by exact(apj (fun z_:Int×Int×Int=>z_.1)<|u6 hs aN (by simpa using b1) p2).symm
   have e1:((j:Int):Int)=(dC I).2.1:=by exact(apj (fun z_:Int×Int×Int=>z_.2.1)<|u6 hs aN (by simpa using b1) p2).symm
   have e2:(5:Int)=(dC I).2.2:=by exact(apj (fun z_:Int×Int×Int=>z_.2.2)<|u6 hs aN (by simpa using b1) p2).symm
   have bt:=rD (fun (cb:Int) (dK:Int) (gF:Int)=>(.tuple #[C cb,C dK,C gF]:Value)) e0 e1 e2
   exact⟨bt,H4.below⟩
  have p2:=dF b2
  refine sk<|cQ<|k<|cC H4 1 J dt J s0 aw J<|aU ry J J<|bq H4 0 J aT J J J<|aU sj J J<|bq H4 0 J aT J J J<|k ?_
  have bT:=EW (I:=I) (vr:=x0.2.2.2.1) (val:=x0.2.2.2.2) (aC:=aC) (aF:=aF) (aB:=aB) (ay:=ay) (dY:=dY) (ax:=ax) H4.mb (H4.rv 2 J) ft iO
  refine ca aeZ J (ec J<|ec J<|ec J e0) bT ?_
  rintro _ w4 ⟨rfl,fm⟩
  have H5:=H4.ext fm
  refine ak (v:=.tuple #[C (max (gG I x0.2.2.2.1 x0.2.2.2.2) 0),.bool (decide (0≤gG I x0.2.2.2.1 x0.2.2.2.2))]) J J<|k<|xt J J J<|k<|xt J J J<|au (v:=C (max (gG I x0.2.2.2.1 x0.2.2.2.2) 0)) J J<|au (v:=.bool (decide (0≤gG I x0.2.2.2.1 x0.2.2.2.2))) J J<|bz<|ak (v:=C (max (gG I x0.2.2.2.1 x0.2.2.2.2) 0)) J J<|ak J s1<|k<|lss J J J J<|z<|nx<|cd (b:=decide ((max (gG I x0.2.2.2.1 x0.2.2.2.2) 0)<(j:Int))) J J (fun b3=>?_)<|fun b3=>?_
  ·
   have p3:=dT b3
   refine aD<|ak (v:=C (max (gG I x0.2.2.2.1 x0.2.2.2.2) 0)) J J<|ak J s1<|au (v:=C (max (gG I x0.2.2.2.1 x0.2.2.2.2) 0)) J J<|au (v:=C (j:Int)) J J<|au (v:=C 4) J J<|av<|rt<|bI<|aL<|du<|bI<|aL<|r3 J J J J ?_
   have e0:((max (gG I x0.2.2.2.1 x0.2.2.2.2) 0):Int)=(dC I).1:=by exact(apj (fun z_:Int×Int×Int=>z_.1)<|tq hs aN (by simpa using b1) p2 p3).symm
   have e1:((j:Int):Int)=(dC I).2.1:=by exact(apj (fun z_:Int×Int×Int=>z_.2.1)<|tq hs aN (by simpa using b1) p2 p3).symm
   have e2:(4:Int)=(dC I).2.2:=by exact(apj (fun z_:Int×Int×Int=>z_.2.2)<|tq hs aN (by simpa using b1) p2 p3).symm
   have bt:=rD (fun (cb:Int) (dK:Int) (gF:Int)=>(.tuple #[C cb,C dK,C gF]:Value)) e0 e1 e2
   exact⟨bt,H5.below⟩
  have p3:=dF b3
  refine sk<|aH<|nx<|rg<|ak J s1<|k<|add J J J J aS<|au (v:=C ((j:Int)+1)) J J<|z ?_
  have H6:HI M w w4 [J1,J0]:=H5.bX [1,2] aw J
  refine bB _ ?_ ⟨(j+1),J,s0,(bH J),H6,aq,(by exact B9 hs aN (NS p2 p3))⟩
  omega
 have p0:=dF b0
 refine ex<|aW<|ba<|bh<|cQ<|au (v:=C 0) J J<|au (v:=C 0) J J<|au (v:=C 0) J J<|av<|rt<|r3 J J J J ?_
 have e0:(0:Int)=(dC I).1:=by exact(apj (fun z_:Int×Int×Int=>z_.1)<|xI hs aq).symm
 have e1:(0:Int)=(dC I).2.1:=by exact(apj (fun z_:Int×Int×Int=>z_.2.1)<|xI hs aq).symm
 have e2:(0:Int)=(dC I).2.2:=by exact(apj (fun z_:Int×Int×Int=>z_.2.2)<|xI hs aq).symm
 have bt:=rD (fun (cb:Int) (dK:Int) (gF:Int)=>(.tuple #[C cb,C dK,C gF]:Value)) e0 e1 e2
 exact⟨bt,H2.below⟩
theorem UH:gV aM 95 0 0:=j1 Tryz.underlying95
theorem afb:gV aM 95 1 1:=j1 Tryz.underlying95
theorem QO (hM:eC M w) (cW:cz M w aA az I) (ho:ij I) (dG:I.length≤4096):Calls aM 97 #[.agg #[.slice aC aF aB,R aA I az,.slice ay dY ax]] w (ck fun v w'=>∃(a0:OA) (c0:Nat),v=.agg #[C (I.length:Int),.slice a0 (pa I).length c0]∧Ext w w'∧bo M 144 w (pa I) (.slice a0 (pa I).length c0) w'):=by
 refine dv 49 Tryz.func97 J J J hM fun f0 ha H=>?_
 let J0:=iL aA I az
 have H0:=H.put (it:=J0) J<|by rw[bQ];exact cW
 have iE:=bg cW
 have i0:f0 0=.agg #[.slice aC aF aB,R aA I az,.slice ay dY ax]:=ha 0 bm
 refine aD<|k<|bx H0 J i0 ?_
 intro aX w0 bY (H1:HI M w w0 [box aX #[.slice aC aF aB,R aA I az,.slice ay dY ax] 47,J0])
 let J1:=box aX #[.slice aC aF aB,R aA I az,.slice ay dY ax] 47
 refine k<|al H1 bp ?_
 intro bj w1 cS (H2:HI M w w1 [box bj #[C 0,.slice none 0 0] 26,J1,J0])
 let J2:=box bj #[C 0,.slice none 0 0] 26
 refine bz<|aU eX J J<|bq H2 1 J ir J J J<|k<|dP J J iK<|k ?_
 have bT:=PE (n:=(I.length:Int)) H2.mb aS
 refine ca HG J (ec J e0) bT ?_
 rintro _ w2 ⟨a0,c0,rfl,fm,cm⟩
 have H3:=H2.eU cm
 refine ak (v:=.tuple #[.agg #[C (oQ (I.length:Int)),R a0 (ja (I.length:Int)) c0],C (sA (I.length:Int))]) J J<|k<|xt J J J<|k<|xt J J J<|k<|al H3 bp ?_
 let bf:=[oL w 144 a0 (ja (I.length:Int)) c0,J2,J1,J0]
 intro bK w3 fg (H4:HI M w w3 (box bK #[C 0,.slice none 0 0] 26::bf))
 refine k<|bA H4 0 J bp J J J J J J J ?_
 let J3:=box bK #[C (oQ (I.length:Int)),R a0 (ja (I.length:Int)) c0] 26
 intro w4 (H5:HI M w w4 (J3::bf))
 refine au (v:=C (sA (I.length:Int))) J J<|av<|sq<|sq ?_
 have W9:Df (I.length:Int)=true:=sY.2 aq
 obtain⟨en,er, -⟩:=yi W9
 refine rg<|aU eX J J<|bq H5 3 J ir J J J<|k<|dP J J iK<|k<|sub J J J J aS<|au (v:=C ((I.length:Int)-2)) J J<|av<|bk<|lp (fun m f w'=>∃(j:Nat) (xs:List (List bw)),m=I.length-j∧f 1=pV aX 0∧f 2=pV bj 0∧f 3=pV bK 0∧f 5=C ((I.length:Int)-2-(j:Int))∧HI M w w' [J3,own w.heap.size 144 (.slice a0 (ja (I.length:Int)).length c0) xs,J2,J1,J0]∧(j≤I.length)∧(xs.length=I.length)∧(xs=zT I ((I.length:Int)-2-(j:Int)))) _ ⟨0,(ja (I.length:Int)),J,J,J,J,(bH J),H5,aq,(by rw[er,qq];simp),(by rw[er];exact Q7 _ _ aq)⟩ ?_
 rintro _ f0 w5 ⟨j,xs,rfl,s0,s1,s2,s3,H6,hk,hl,hs⟩
 refine sq<|aD<|ak J s3<|k<|geq J J J J<|z<|nx<|cd (b:=decide (0≤((I.length:Int)-2-(j:Int)))) J J (fun b0=>?_)<|fun b0=>?_
 ·
  have p0:=dT b0
  refine sk<|nx<|sq<|bk<|sq<|A2 J aV<|kq (fun _ _=>fa eX J s0 e1)<|kq (fun _ x_=>lx (H6.ext x_) 3 J ir J J J e1)<|kq (fun _ _=>mv J s3 e1)<|qz (H6.rv 4 J) J J J J aq iK jd ?_
  intro iy x0 aN cB
  refine kq (fun _ _=>fa UH J J e1)<|mC (cB).fst.w aT J J ?_
  intro dN
  refine kq (fun _ _=>fa eX J s0 e1)<|kq (fun _ x_=>lx (H6.ext x_) 3 J ir J J J e1)<|kq (fun _ _=>mv J s3 e1)<|kq (fun _ _=>add J J J J aS e1)<|qz (H6.rv 4 J) J J J J aq iK jd ?_
  intro mV x1 cO gx
  refine kq (fun _ _=>fa UH J J e1)<|mC (gx).fst.w aT J J ?_
  intro dH
  refine kq (fun _ _=>eql J J J J e1)<|zq ?_
  intro w6 jl
  have H7:=H6.ext jl
  refine nx<|cd (b:=decide (x0.1=x1.1)) J J (fun b1=>?_)<|fun b1=>?_
  ·
   have p1:=dT b1
   refine mw [.r,.r,.r,.r,.r,.r,.r,.r,.r,.r,.r,.r,.e,.e] (fun _=>True) J aV (fun _ _=>trivial)<|yq J J<|kq (fun _ _=>fa iJ J s2 e1)<|bS<|kq (fun _ x_=>lx (H7.ext x_) 0 J lg J J J e1)<|bS<|kq (fun _ _=>mv J s3 e1)<|bS<|kq (fun _ _=>fa iJ J s2 e1)<|bS<|kq (fun _ x_=>lx (H7.ext x_) 0 J lg J J J e1)<|bS<|kq (fun _ _=>mv J s3 e1)<|bS<|kq (fun _ _=>add J J J J aS e1)<|bS<|tL (H7.at_ 1 J) J J J J aq im dw ?_
   intro jo x2 iY jw
   refine bS<|G5 jw dw J J ?_
   intro a1 c1 ft
   have Cl:=bg ft
   have H8:=dU H7 ft
   refine bS<|kq (fun _ _=>mv J s3 e1)<|bS<|kq (fun _ _=>add J J J J aS e1)<|zq<|yu J (fun _ v w'=>∃(a2:OA) (c2:Nat),v=R a2 (eo x2<|((I.length:Int)-2-(j:Int))+1) c2∧RV H7.eI w' (R a2 (eo x2<|((I.length:Int)-2-(j:Int))+1) c2) (eo x2<|((I.length:Int)-2-(j:Int))+1)) J oA J (fun v_ _ x_ _=>have fF:=uO (r:=x2) (i:=(((I.length:Int)-2-(j:Int))+1)) (w:=v_) (H8.ext x_).mb ((H8.ext x_).rv 0 rfl) aS (by have h_:=Wj (hs▸iY);have lI:=Oj (n:=I.length) aq;omega);ca Gs rfl (ec J<|ec J e0) fF (fun _ w8 ⟨a3,c3,e_,jE,i'⟩=>⟨_,J,jE,⟨a3,c3,e_,(mY J<|bo.rv i' (H8.ext x_).mb)⟩⟩))<|ye<|ye<|yz ?_
   intro w9 f1 _ lk _ _ cG jc
   have cM:=H8.ext lk
   have s4:=(cG 1 J).trans s0
   have s5:=(cG 2 J).trans s1
   have s6:=(cG 3 J).trans s2
   have s7:=(cG 5 J).trans s3
   have s8:=cG 36 J
   have s9:=cG 37 J
   obtain⟨a4,c4,ei,nj⟩:=jc 0 _ _ rfl
   let J4:=iL a4 (eo x2 (((I.length:Int)-2-(j:Int))+1)) c4
   have dR:=cM.put (it:=J4) J<|by rw[aG J];exact nj
   refine km<|iC (dR.at_ 3 J) J J s8 s9 aq im dw ?_
   intro g0 x3 iP nr qe
   refine km<|qE dR 3 J iP J aq dw J J J ei (dR.rv 0 J) ?_
   let J5:=own w.heap.size 144 (.slice a0 (ja (I.length:Int)).length c0) (xs.set (((I.length:Int)-2-(j:Int)).toNat) (eo x2 (((I.length:Int)-2-(j:Int))+1)))
   intro dL (dI:HI M w dL [J4,iL a1 x2 c1,J3,J5,J2,J1,J0])
   refine kz<|aH<|nx<|rg<|ak J s7<|k<|sub J J J J aS<|au (v:=C (((I.length:Int)-2-(j:Int))-1)) J J<|z ?_
   have cR:HI M w dL [J3,J5,J2,J1,J0]:=dI.bX [2,3,4,5,6] aw J
   refine bB _ ?_ ⟨(j+1),(xs.set (((I.length:Int)-2-(j:Int)).toNat) (eo x2<|((I.length:Int)-2-(j:Int))+1)),J,s4,s5,s6,(bH J),cR,aq,(by simpa using hl),(by rw[show ((I.length:Int)-2-(((j+1:Nat):Nat):Int))=((I.length:Int)-2-(j:Int))-1 from by omega];first|((have h_:=kX (t:=((I.length:Int)-2-(j:Int))) aq aq (by rw[gN aN,gN cO];exact p1) (hs▸iY);rw[←h_,←hs]))|((have h_:=kX (t:=((I.length:Int)-2-(j:Int))) aq aq (by rw[gN aN,gN cO];exact p1) (hs▸nr);rw[←h_,←hs]))|((have h_:=kX (t:=((I.length:Int)-2-(j:Int))) aq aq (by rw[gN aN,gN cO];exact p1) (hs▸yo);rw[←h_,←hs]))|((have h_:=kX (t:=((I.length:Int)-2-(j:Int))) aq aq (by rw[gN aN,gN cO];exact p1) (hs▸MX);rw[←h_,←hs]))|((have h_:=kX (t:=((I.length:Int)-2-(j:Int))) aq aq (by rw[gN aN,gN cO];exact p1) (hs▸YU);rw[←h_,←hs]))|((have h_:=kX (t:=((I.length:Int)-2-(j:Int))) aq aq (by rw[gN aN,gN cO];exact p1) (hs▸hx7);rw[←h_,←hs]))|(rw[hs];exact G8 ho aq aq (by rw[gN aN,gN cO];exact p1)))⟩
   omega
  have p1:=dF b1
  refine sk<|aH<|nx<|rg<|ak J s3<|k<|sub J J J J aS<|au (v:=C (((I.length:Int)-2-(j:Int))-1)) J J<|z<|bB _ ?_ ⟨(j+1),xs,J,s0,s1,s2,(bH J),H7,aq,bu,(by rw[show ((I.length:Int)-2-(((j+1:Nat):Nat):Int))=((I.length:Int)-2-(j:Int))-1 from by omega];first|((have h_:=kX (t:=((I.length:Int)-2-(j:Int))) aq aq (by rw[gN aN,gN cO];exact p1) (hs▸iY);rw[←h_,←hs]))|((have h_:=kX (t:=((I.length:Int)-2-(j:Int))) aq aq (by rw[gN aN,gN cO];exact p1) (hs▸nr);rw[←h_,←hs]))|((have h_:=kX (t:=((I.length:Int)-2-(j:Int))) aq aq (by rw[gN aN,gN cO];exact p1) (hs▸yo);rw[←h_,←hs]))|((have h_:=kX (t:=((I.length:Int)-2-(j:Int))) aq aq (by rw[gN aN,gN cO];exact p1) (hs▸MX);rw[←h_,←hs]))|((have h_:=kX (t:=((I.length:Int)-2-(j:Int))) aq aq (by rw[gN aN,gN cO];exact p1) (hs▸YU);rw[←h_,←hs]))|((have h_:=kX (t:=((I.length:Int)-2-(j:Int))) aq aq (by rw[gN aN,gN cO];exact p1) (hs▸hx7);rw[←h_,←hs]))|(rw[hs];exact G8 ho aq aq (by rw[gN aN,gN cO];exact p1)))⟩
  omega
 have p0:=dF b0
 refine ex<|aW<|ba<|bh<|cQ<|k<|cC H6 0 J bp J s2 aw J<|k<|bA H6 2 J bp J J s1 J J J J ?_
 intro w6 (H7:HI M w w6 [J3,own w.heap.size 144 (.slice a0 (ja (I.length:Int)).length c0) xs,box bj #[C (oQ (I.length:Int)),R a0 (ja (I.length:Int)) c0] 26,J1,J0])
 refine av<|rt<|py H7 2 J bp J J s1 J aw ?_
 have e0:(oQ (I.length:Int):Int)=(I.length:Int):=by rw[en]
 have e1:(xs:List (List bw))=pa I:=by rw[hs];exact Wk aq
 have l1:(ja (I.length:Int)).length=(pa I).length:=by rw[er,qq,aaD];simp
 have bt:=nN (fun (cb:Int) (vD:Nat)=>(.agg #[C cb,.slice a0 vD c0]:Value)) e0 l1
 exact⟨a0,c0,bt,H7.below,(apj (fun (n_:Nat)=>bo _ _ _ (pa I) (.slice a0 n_ c0) _) l1).mp ((apj (fun (x_:List (List bw))=>bo _ _ _ x_ (.slice a0 (ja (I.length:Int)).length c0) _) e1).mp (H7.dx 1 J))⟩
theorem L3 {tt:Int} (hM:eC M w) (cW:cz M w aA az I) (aot:aK tt) (ho:ij I) (dG:I.length≤4096):Calls aM 108 #[.agg #[.slice aC aF aB,R aA I az,.slice ay dY ax],C tt] w (ck fun v w'=>∃(a0:OA) (c0:Nat),v=.slice a0 (cF I tt).length c0∧Ext w w'∧bo M 3 w (cF I tt) (.slice a0 (cF I tt).length c0) w'):=by
 refine dv 41 Tryz.func108 J J J hM fun f0 ha H=>?_
 let J0:=iL aA I az
 have H0:=H.put (it:=J0) J<|by rw[bQ];exact cW
 have iE:=bg cW
 have i0:f0 0=.agg #[.slice aC aF aB,R aA I az,.slice ay dY ax]:=ha 0 bm
 have i1:f0 1=C tt:=ha 1 bm
 refine aD<|k<|bx H0 J i0 ?_
 intro aX w0 bY (H1:HI M w w0 [box aX #[.slice aC aF aB,R aA I az,.slice ay dY ax] 47,J0])
 let J1:=box aX #[.slice aC aF aB,R aA I az,.slice ay dY ax] 47
 refine au (v:=.slice none 0 0) J J<|av<|sq<|aD<|ak J i1<|k<|lss J J J J<|ak (v:=.bool (decide (tt<0))) J J ?_
 rcases bE (decide (tt<0)) with b0|b0
 ·
  have p0:=dT b0
  refine aZ J J J b0<|aZ J J J b0<|aZ J J J b0<|aZ J J J b0<|aZ J J J b0<|k<|aQ J J J J b0 J<|av<|pk J J J<|aD<|au (v:=.slice none 0 0) J J<|av<|rt<|aL<|r1 J J ?_
  have e0:([]:aE)=cF I tt:=by exact FW aq
  have bt:=iD (fun (cb:aE)=>(.slice none cb.length 0:Value)) e0
  exact⟨none,0,bt,H1.below,(apj (fun (x_:aE)=>bo _ _ _ x_ (.slice none x_.length 0) _) e0).mp (fV H1.below)⟩
 have p0:=dF b0
 refine bl J J J b0<|mv J i1<|bl J J J b0<|fa eX J J<|bl J J J b0<|lx H1 0 J ir J J J<|bl J J J b0<|dP J J iK<|bl J J J b0<|geq J J J J<|k<|cU J J J J b0 J<|z<|nx<|cd (b:=decide ((I.length:Int)≤tt)) J J (fun b1=>?_)<|fun b1=>?_
 ·
  have p1:=dT b1
  refine aD<|au (v:=.slice none 0 0) J J<|av<|rt<|aL<|r1 J J ?_
  have e0:([]:aE)=cF I tt:=by exact FW aq
  have bt:=iD (fun (cb:aE)=>(.slice none cb.length 0:Value)) e0
  exact⟨none,0,bt,H1.below,(apj (fun (x_:aE)=>bo _ _ _ x_ (.slice none x_.length 0) _) e0).mp (fV H1.below)⟩
 have p1:=dF b1
 refine sk<|cQ<|ak J i1<|aU eX J J<|bq H1 0 J ir J J J<|ak J i1<|k<|ia (H1.rv 1 J) J J J J aq iK jd ?_
 intro iy x0 aN cB
 refine aU afb J J<|k<|kF ((cB).s1).fst.w aT J J ?_
 intro cm
 refine k<|sub J J J J (by have DC:=ho.AK tt.toNat aq;have W8:=(ho.back tt.toNat aq).1;rw[IP aN] at DC W8;unfold aK;omega)<|au (v:=C (tt-x0.2.1)) J J<|av<|sq ?_
 have DC:=ho.AK tt.toNat aq
 have W8:=(ho.back tt.toNat aq).1
 rw[IP aN] at DC W8
 refine rg<|ak J i1<|ak (v:=C (tt-x0.2.1)) J J<|k<|sub J J J J aS<|k<|add J J J J aS<|k ?_
 have n0:((((tt-(tt-x0.2.1))+1).toNat:Nat):Int)=(tt-(tt-x0.2.1))+1:=ap0 aq
 refine mk0 (α:=Int) (m:=((tt-(tt-x0.2.1))+1).toNat) H1 J J J (by rw[n0];exact rfl) cw aT aq aq ?_
 intro g0 w1 cS (H2:HI M w w1 [own w.heap.size 3 (.slice (some ⟨g0,0,none⟩) 0 (((tt-(tt-x0.2.1))+1).toNat)) ([]:aE),J1,J0])
 refine au (v:=.slice (some ⟨g0,0,none⟩) 0 (((tt-(tt-x0.2.1))+1).toNat)) J J<|av<|sq<|aD<|ak (v:=C (tt-x0.2.1)) J J<|au (v:=C (tt-x0.2.1)) J J<|av<|bk<|lp (fun m f w'=>∃(q:Nat) (xs:aE) (a0:OA) (c0:Nat),m=(x0.2.1+1).toNat-q∧f 1=C tt∧f 6=R a0 xs c0∧f 7=C (tt-x0.2.1+(q:Int))∧HI M w w' [oL w 3 a0 xs c0,J1,J0]∧((q:Int)≤x0.2.1+1)∧(xs=vz (tt-x0.2.1) q)) _ ⟨0,([]:aE),(some ⟨g0,0,none⟩),(((tt-(tt-x0.2.1))+1).toNat),J,i1,J,(bH J),H2,aq,(by rfl)⟩ ?_
 rintro _ f0 w2 ⟨q,xs,a0,c0,rfl,s0,s1,s2,H3,tg,hs⟩
 refine sq<|aD<|ak J s2<|ak J s0<|k<|leq J J J J<|z<|nx<|cd (b:=decide ((tt-x0.2.1+(q:Int))≤tt)) J J (fun b2=>?_)<|fun b2=>?_
 ·
  have p2:=dT b2
  refine sk<|nx<|sq<|bk<|rg<|ak J s1<|ak J s2<|k<|bs (xs:=([(tt-x0.2.1+(q:Int))]:aE)) (cells:=#[C (tt-x0.2.1+(q:Int))]) (e:=3) H3 J (ct J eA) (fun _=>aV) ⟨[C (tt-x0.2.1+(q:Int))],[],J,⟨J,(show aK ((tt-x0.2.1+(q:Int))) from aS)⟩,J⟩ J aw ?_
  intro g1 w3 fm H4
  refine k<|l7 H4 1 J J J J J J (hG<|H4.at_ 0 J) cw aT J (by rw[hs,Q_];simp only[jb,gC];omega) J ?_
  intro a1 c1 w4 (H5:HI M w w4 [own w.heap.size 3 (.slice (some ⟨g1,0,none⟩) 1 1) ([(tt-x0.2.1+(q:Int))]:aE),oL w 3 a1 (xs++([(tt-x0.2.1+(q:Int))]:aE)) c1,J1,J0])
  refine au (v:=R a1 (xs++([(tt-x0.2.1+(q:Int))]:aE)) c1) J J<|z<|aH<|nx<|rg<|ak J s2<|k<|add J J J J aS<|au (v:=C ((tt-x0.2.1+(q:Int))+1)) J J<|z ?_
  have H6:HI M w w4 [oL w 3 a1 (xs++([(tt-x0.2.1+(q:Int))]:aE)) c1,J1,J0]:=H5.bX [1,2,3] aw J
  refine bB _ ?_ ⟨(q+1),(xs++([(tt-x0.2.1+(q:Int))]:aE)),a1,c1,J,s0,J,(bH J),H6,aq,(by rw[hs];exact OF _ _)⟩
  omega
 have p2:=dF b2
 refine ex<|aW<|ba<|bh<|cQ<|ak J s1<|au (v:=R a0 xs c0) J J<|av<|rt<|r1 J J ?_
 have e0:(xs:aE)=cF I tt:=by rw[hs];exact Tn aq aq aN DC aq
 have bt:=iD (fun (cb:aE)=>(.slice a0 cb.length c0:Value)) e0
 exact⟨a0,c0,bt,H3.below,(apj (fun (x_:aE)=>bo _ _ _ x_ (.slice a0 x_.length c0) _) e0).mp (H3.dx 0 J)⟩
theorem ahk:cD aM 108:=cE Tryz.func108
theorem ahj:cD aM 109:=cE Tryz.func109
theorem C_ (hM:eC M w) (cW:cz M w aA az I) (uz:aK o) (ho:ij I) (dG:I.length≤4096):Calls aM 68 #[.agg #[.slice aC aF aB,R aA I az,.slice ay dY ax],C o] w (ck fun v w'=>∃(a0:OA) (c0:Nat),v=.slice a0 (bc (fk I) (cF I o)).length c0∧Ext w w'∧bo M 3 w (bc (fk I) (cF I o)) (.slice a0 (bc (fk I) (cF I o)).length c0) w'):=by
 refine dv 10 Tryz.func68 J J J hM fun f0 ha H=>?_
 let J0:=iL aA I az
 have H0:=H.put (it:=J0) J<|by rw[bQ];exact cW
 have i0:f0 0=.agg #[.slice aC aF aB,R aA I az,.slice ay dY ax]:=ha 0 bm
 have i1:f0 1=C o:=ha 1 bm
 refine aD<|k<|bx H0 J i0 ?_
 intro aX w0 bY (H1:HI M w w0 [box aX #[.slice aC aF aB,R aA I az,.slice ay dY ax] 47,J0])
 let J1:=box aX #[.slice aC aF aB,R aA I az,.slice ay dY ax] 47
 refine au (v:=.slice none 0 0) J J<|bz<|k<|cC H1 0 J dt J J aw J<|ak J i1<|k ?_
 have bT:=L3 (I:=I) (tt:=o) (aC:=aC) (aF:=aF) (aB:=aB) (ay:=ay) (dY:=dY) (ax:=ax) H1.mb (H1.rv 1 J) uz aq aq
 refine ca ahk J (ec J<|ec J e0) bT ?_
 rintro _ w1 ⟨a0,c0,rfl,cS,cm⟩
 have H2:=H1.eU cm
 refine k<|mf J<|k ?_
 have H3:HI M w w1 ([oL w 3 a0 (cF I o) c0]++[J1,J0]):=H2.bX [0,1,2] aw J
 have df:=ph (ee:=a0) (dW:=c0) (xs:=(cF I o)) (qN:=109) (qQ:=[pV aX 0]) (p:=(fun (x_:Int)=>fk I x_)) (w:=w) (w_:=w1) (r:=[J1,J0]) (M:=M) ⟨ahj,fun w_ rK H_ x_ pY E7=>Q9 (I:=I) (M:=fun _=>False) (fun _ h_=>h_.elim) E7 ((H_.rv 2 J).lift (Up.less fun _ _ h_=>h_.elim)) ⟨H_.at_ 1 rfl,fun h_=>h_⟩ (by obtain⟨j_,HB⟩:=apG.1 pY;exact JI ho HB)⟩ H3
 refine ca HH J (ec J<|ec J e0) df ?_
 rintro _ w2 ⟨rfl,H4⟩
 have H5:HI M w w2 [oL w 3 a0 (bc (fun (x_:Int)=>fk I x_) (cF I o)) c0,J1,J0]:=H4
 refine au (v:=R a0 (bc (fun (x_:Int)=>fk I x_)<|cF I o) c0) J J<|av<|rt<|r1 J J ?_
 have e0:((bc (fun (x_:Int)=>fk I x_) (cF I o)):aE)=bc (fk I) (cF I o):=rfl
 have bt:=iD (fun (cb:aE)=>(.slice a0 cb.length c0:Value)) e0
 exact⟨a0,c0,bt,H5.below,(apj (fun (x_:aE)=>bo _ _ _ x_ (.slice a0 x_.length c0) _) e0).mp (H5.dx 0 J)⟩
theorem zZ (hM:eC M w) (gk:aK mn) (gz:cz M w bG bF mr) (mR:cz M w fX gb l) (b9:bL mn mr=true) (Y7:l.length≤1000000000):Calls aM 81 #[.agg #[C mn,R bG mr bF],R fX l gb] w (ck fun v w'=>∃(a0:OA) (c0:Nat),v=.agg #[C mn,.slice a0 (gr mn mr l).length c0]∧Ext w w'∧bo M 144 w (gr mn mr l) (.slice a0 (gr mn mr l).length c0) w'):=by
 refine dv 73 Tryz.func81 J J J hM fun f0 ha H=>?_
 let J0:=iL bG mr bF
 have H0:=H.put (it:=J0) J<|by rw[bQ];exact gz
 let J1:=iL fX l gb
 have H1:=H0.put (it:=J1) J<|by rw[aG rfl,bQ];exact mR
 have nG:=bg gz
 have F6:=bg mR
 have i0:f0 0=.agg #[C mn,R bG mr bF]:=ha 0 bm
 have i1:f0 1=R fX l gb:=ha 1 bm
 have uv:=(bU b9).1;have Km:=(bU b9).2.2.1;have Fc:=kW b9
 refine aD<|k<|bx H1 J i0 ?_
 let bf:=[J1,J0]
 intro aX w0 bY (H2:HI M w w0 (box aX #[C mn,R bG mr bF] 26::bf))
 let J2:=box aX #[C mn,R bG mr bF] 26
 refine k<|al H2 bp ?_
 let bZ:=J2::bf
 intro bj w1 cS (H3:HI M w w1 (box bj #[C 0,.slice none 0 0] 26::bZ))
 let J3:=box bj #[C 0,.slice none 0 0] 26
 refine bz<|aU ky J J<|bq H3 1 J aT J J J<|k ?_
 have bT:=Et (n:=mn) H3.mb gk aq
 refine ca RI J (ec J e0) bT ?_
 rintro _ w2 ⟨a0,c0,rfl,fm,cm⟩
 have H4:=H3.eU cm
 refine au (v:=R a0 (ej mn) c0) J J<|av<|sq<|aD<|ak J i1<|k<|dP J J cw<|ak (v:=C 0) J J<|av<|bk ?_
 have H5:=H4.freeze 0 J
 let J4:=iL a0 (ej mn) c0
 have H6:=H5.put (it:=J4) J<|H5.rv 0 J
 let eh:=J4::J3::bZ
 refine lp (fun m f w'=>∃(q:Nat) (sc:List bw) (a1:OA) (c1:Nat),m=l.length-q∧f 2=pV aX 0∧f 4=pV bj 0∧f 5=R a1 sc c1∧f 16=R fX l gb∧f 17=C (l.length:Int)∧f 18=C (q:Int)∧HI M w w' (iL a1 sc c1::eh)∧(q≤l.length)∧(sc=pL mn.toNat (l.take q))) _ ⟨0,(ej mn),a0,c0,J,J,J,J,J,J,(bH J),H6,aq,(by exact WO Fc l)⟩ ?_
 rintro _ f0 w3 ⟨q,sc,a1,c1,rfl,s0,s1,s2,s3,s4,s5,H7,tg,hm⟩
 refine aD<|k<|lss J J s5 s4<|av<|sq<|cd (b:=decide ((q:Int)<(l.length:Int))) J J (fun b0=>?_)<|fun b0=>?_
 ·
  have p0:=dT b0
  refine sk<|nx<|sq<|bk<|aD<|k<|ia (H7.rv 4 J) J J s3 s5 aq cw aT ?_
  intro iy x0 aN cB
  refine k<|kF cB.w aT J J ?_
  intro dN
  refine au (v:=C x0) J J<|bz<|ak (v:=C x0) J J<|aU ky J s0<|bq H7 3 J aT J J J<|k<|lss J J J J<|z<|nx<|cd (b:=decide (x0<mn)) J J (fun b1=>?_)<|fun b1=>?_
  ·
   have p1:=dT b1
   refine rg<|ak J s2<|ak (v:=C x0) J J<|k ?_
   have df:=uO (r:=sc) (i:=x0) H7.mb (H7.rv 0 J) dN<|by rw[hm,JP Fc];have h_:=FD Km;omega
   refine ca Gs J (ec J<|ec J e0) df ?_
   rintro _ w4 ⟨a2,c2,rfl,fg,dH⟩
   have H8:=H7.eU dH
   refine au (v:=R a2 (eo sc x0) c2) J J<|z<|aH<|nx<|rg<|k<|add J J s5 J aS<|ak (v:=C ((q:Int)+1)) J J<|z ?_
   have H9:=H8.freeze 0 J
   have dB:=dU H9<|H9.rv 0 J
   have cT:HI M w w4 (iL a2 (eo sc x0) c2::eh):=dB.bX [0,3,4,5,6,7] aw J
   refine bB _ ?_ ⟨(q+1),(eo sc x0),a2,c2,J,s0,s1,J,s3,s4,(bH J),cT,aq,(by exact aaS hm aN aq)⟩
   omega
  have p1:=dF b1
  refine sk<|aH<|nx<|rg<|k<|add J J s5 J aS<|ak (v:=C ((q:Int)+1)) J J<|z ?_
  have H8:=dU H7<|H7.rv 0 J
  have H9:HI M w w3 (iL a1 sc c1::eh):=H8.bX [0,2,3,4,5,6] aw J
  refine bB _ ?_ ⟨(q+1),sc,a1,c1,J,s0,s1,s2,s3,s4,(bH J),H9,aq,(by exact ade hm aN aq)⟩
  omega
 have p0:=dF b0
 refine ex<|aW<|ba<|bh<|nx<|sq ?_
 have oC:sc=pL mn.toNat l:=by rw[hm,l_ aq]
 refine rg<|aU ky J s0<|bq H7 3 J aT J J J<|k ?_
 have df:=F5 (n:=mn) H7.mb gk (by exact kW b9)<|by exact(bU b9).2.2.1
 refine ca HG J (ec J e0) df ?_
 rintro _ w4 ⟨a2,c2,fU,rfl,fg,dN⟩
 have H8:=H7.G9 dN
 let J5:=own w.heap.size 144 (.slice a2 mn.toNat c2) fU
 let J6:=iL a1 sc c1
 let jz:=J5::J6::eh
 have H9:HI M w w4 (jz++bJ w.heap.size 151 fU (List.replicate mn.toNat (ej mn))):=H8
 have FI:=dN.1
 refine ak (v:=.tuple #[.agg #[C mn,.slice a2 mn.toNat c2],C 0]) J J<|k<|xt J J J<|k<|xt J J J<|k<|al H9 bp ?_
 intro bK w5 jl (dB:HI M w w5 ((box bK #[C 0,.slice none 0 0] 26::jz)++bJ w.heap.size 151 fU (List.replicate mn.toNat (ej mn))))
 refine k<|bA dB 0 J bp J J J J J J J ?_
 let J7:=box bK #[C mn,.slice a2 mn.toNat c2] 26
 let fQ:=J7::jz
 intro w6 (cT:HI M w w6 (fQ++bJ w.heap.size 151 fU (List.replicate mn.toNat (ej mn))))
 refine au (v:=C 0) J J<|av<|sq<|aD<|aU iJ J J<|bq cT 0 J lg J J J<|k<|dP J J im<|ak (v:=C 0) J J<|av<|bk<|lp (fun m f w'=>∃(i:Nat) (xs:List (List bw)),m=mn.toNat-i∧f 2=pV aX 0∧f 4=pV bj 0∧f 5=R a1 sc c1∧f 8=pV bK 0∧f 38=C (mn.toNat:Int)∧f 39=C (i:Int)∧HI M w w' (fQ++bJ w.heap.size 151 fU xs)∧(i≤mn.toNat)∧(fU.length=xs.length)∧(xs=cI mn.toNat (xP (gi mr) l i))∧(xs.length=mn.toNat)) _ ⟨0,(List.replicate mn.toNat<|ej mn),J,s0,s1,s2,J,J,(bH J),cT,aq,(by exact FI),(by exact VU b9),bm⟩ ?_
 rintro _ f1 w7 ⟨i,xs,rfl,s6,s7,s8,s9,ei,eR,db,Za,hl,hs,E5⟩
 refine aD<|k<|lss J J eR ei<|av<|sq<|cd (b:=decide ((i:Int)<(mn.toNat:Int))) J J (fun b1=>?_)<|fun b1=>?_
 ·
  have p1:=dT b1
  refine sk<|nx<|sq<|bk<|aD<|ak J eR<|au (v:=C (i:Int)) J J<|av<|sq<|aD<|ak J s8<|ak (v:=C (i:Int)) J J<|k ?_
  have fF:=Aw (r:=sc) (i:=(i:Int)) db.mb (db.rv 2 J) aS
  refine ca No J (ec J<|ec J e0) fF ?_
  rintro _ w8 ⟨rfl,je⟩
  have dq:=db.ext je
  refine k<|jr J J<|z<|nx<|cd (b:=!(fy sc (i:Int))) J J (fun b2=>?_)<|fun b2=>?_
  ·
   refine ex<|aW<|bh<|nx<|rg<|k<|add J J eR J aS<|ak (v:=C ((i:Int)+1)) J J<|z<|bB _ ?_ ⟨(i+1),xs,J,s6,s7,s8,s9,ei,(bH J),dq,aq,(by exact hl),(by exact aaf b9 hs oC aq (by simpa using b2)),(by exact E5)⟩
   omega
  refine sk<|cQ<|aU iJ J s6<|bq dq 5 J lg J J J<|ak (v:=C (i:Int)) J J<|k<|ia (dq.rv 7 J) J J J J aq im dw ?_
  intro iy x0 aN cB
  refine k<|wT cB.w dw J J ?_
  intro a3 c3 dH
  have Cl:=bg dH
  have cM:=dU dq dH
  let lJ:=iL a3 x0 c3::fQ
  have dR:HI M w w8 (lJ++bJ w.heap.size 151 fU xs):=cM
  refine k<|dP J J iq<|ak (v:=C 0) J J<|av<|bk<|lp (fun m f w'=>∃(k_:Nat) (ys:List (List bw)),m=x0.length-k_∧f 2=pV aX 0∧f 4=pV bj 0∧f 5=R a1 sc c1∧f 8=pV bK 0∧f 10=C (i:Int)∧f 38=C (mn.toNat:Int)∧f 39=C (i:Int)∧f 50=R a3 x0 c3∧f 51=C (x0.length:Int)∧f 52=C (k_:Int)∧HI M w w' (lJ++bJ w.heap.size 151 fU ys)∧(k_≤x0.length)∧(fU.length=ys.length)∧(ys=xs.set i (mI x0 sc k_))∧(ys.length=mn.toNat)) _ ⟨0,xs,J,s6,s7,s8,s9,J,ei,eR,J,J,(bH J),dR,aq,(by exact hl),(by exact aga b9 hs aN),(by exact E5)⟩ ?_
  rintro _ f2 w9 ⟨k_,ys,rfl,fM,fL,gv,gH,jZ,kl,ln,ll,lU,nh,dI,kb,od,gS,AM⟩
  refine aD<|k<|lss J J nh lU<|av<|sq<|cd (b:=decide ((k_:Int)<(x0.length:Int))) J J (fun b3=>?_)<|fun b3=>?_
  ·
   have p3:=dT b3
   refine sk<|nx<|sq<|bk<|sq ?_
   have ml_:sc.length=x0.length:=by rw[oC,JP Fc,nY b9 aN]
   refine rg<|ak J nh<|k<|ia (dI.rv 0 J) J J ll nh aq iq fA ?_
   intro mV x1 cO gx
   refine k<|zi gx.w fA J J<|au (v:=C (k_:Int)) J J<|au (v:=aj x1) J J<|z<|nx ?_
   obtain⟨a4,x2,c4,l4,mu⟩:=uN (i:=(i:Int).toNat) dI bu aq
   obtain⟨x4,nr⟩:∃x,sc[(k_:Int).toNat]? =some x:=⟨_,eB aq⟩
   refine dr 12 [eV (pV bK 1),eV (.slice a2 mn.toNat c2),eV (C (i:Int)),fun v w'=>∃(g0:Nat),v=.pointer (some ⟨g0,(i:Int).toNat*1,none⟩)∧(.slice a2 mn.toNat c2:Value).ownBlock=some g0∧ik dI.eI w' ⟨g0,(i:Int).toNat*1,none⟩ (⟨a4,x2.length,c4⟩:SV),eV (R a4 x2 c4),eV (C (k_:Int)),eV (aj x1),eV (R a1 sc c1),eV (C (k_:Int)),fun v w'=>∃(jo:Addr),v=.pointer (some jo)∧At dI.eI w' jo x4,eV (aj x4),eV (aj<|x1 &&& x4)] J aV ?_ ?_
   ·
    refine dc (fun _ _ vO _ _=>fa iJ J ((vO 8 J).trans gH)<|d0 J J)<|dc (fun _ _ _ lk Ka=>lx (dI.ext lk) 1 J lg J (Ka 0 J J) J<|d0 J J)<|dc (fun _ _ yx _ _=>mv J ((yx 10 J).trans jZ)<|d0 J J) ?_
    refine⟨fun _=>⟨fun f6 iF hf3 sT oJ=>?_,by rintro _ _ _ x_ ⟨g0,e_,iP,jw⟩;exact⟨g0,e_,iP,jw.ext x_⟩⟩,?_⟩
    ·
     have cJ:=dI.ext sT
     have uk:f6 58=.slice a2 mn.toNat c2:=oJ 1 J J
     have vo:f6 59=C (i:Int):=oJ 2 J J
     refine iC (cJ.at_ 2 J) J J uk vo aq im dw ?_
     intro g1 x5 kT yo rr
     obtain rfl:(⟨a4,x2.length,c4⟩:SV)=x5:=apm (l4.symm.trans yo)
     exact⟨_,J,Ext.refl _,⟨g1,J,kT,rr⟩⟩
    refine dc (fun f7 jF yw xK rO=>?_) ?_
    ·
     obtain⟨g2,xX,Cn,zv⟩:∃(g2:Nat),f7 60=.pointer (some ⟨g2,(i:Int).toNat*1,none⟩)∧(.slice a2 mn.toNat c2:Value).ownBlock=some g2∧ik dI.eI jF ⟨g2,(i:Int).toNat*1,none⟩ (⟨a4,x2.length,c4⟩:SV):=rO 3 rfl rfl
     refine JU zv dw J xX ?_
     exact⟨_,J,Ext.refl _,J⟩
    refine dc (fun _ _ Cs _ _=>mv J (Cs 11 J)<|d0 J J)<|dc (fun _ _ PV _ _=>mv J (PV 12 J)<|d0 J J)<|dc (fun _ _ hf7 _ _=>mv J ((hf7 5 J).trans gv)<|d0 J J)<|dc (fun _ _ Ug _ _=>mv J (Ug 11 J)<|d0 J J) ?_
    refine⟨fun _=>⟨fun f12 wI Ki CF rN=>?_,by rintro _ _ _ x_ ⟨jo,e_,qe⟩;exact⟨jo,e_,qe.lift (Up.ext x_)⟩⟩,?_⟩
    ·
     have iR:=dI.ext CF
     have uj:f12 64=R a1 sc c1:=rN 7 J J
     have tI:f12 65=C (k_:Int):=rN 8 J J
     refine ia (iR.rv 3 J) J J uj tI aq iq fA ?_
     intro nD x6 MX Kl
     obtain rfl:x4=x6:=apm (nr.symm.trans MX)
     exact⟨_,J,Ext.refl _,⟨nD,J,Kl⟩⟩
    refine dc (fun f13 vk wE CE lh=>?_) ?_
    ·
     have iQ:=dI.ext CE
     obtain⟨la,L8,Zr⟩:∃(la:Addr),f13 66=.pointer (some la)∧At dI.eI vk la x4:=lh 9 rfl rfl
     have mz:=iQ.put (it:=nO la x4) J Zr
     have iA:HI M w vk ((nO la x4::lJ)++bJ w.heap.size 151 fU ys):=mz
     refine zi (iA.Fq 0 J).w fA J L8 ?_
     exact⟨_,J,Ext.refl _,J⟩
    refine dc (fun _ _ _ _ r6=>D' x1 x4 J J (r6 6 J J) (r6 10 J J)<|d0 J J) ?_
    exact j4.rest J _
   ·
    intro f15 CL tX VS oB
    have kC:=dI.ext VS
    have s31:=(tX 2 J).trans fM
    have s32:=(tX 4 J).trans fL
    have s33:=(tX 5 J).trans gv
    have s34:=(tX 8 J).trans gH
    have s35:=(tX 10 J).trans jZ
    have s36:=(tX 38 J).trans kl
    have s37:=(tX 39 J).trans ln
    have s38:=(tX 50 J).trans ll
    have s39:=(tX 51 J).trans lU
    have s40:=(tX 52 J).trans nh
    have s41:=oB 4 J
    have s42:=oB 5 J
    have s43:=oB 11 J
    refine k<|iC (kC.at_ _<|pW l4 mu) J J s41 s42 (by have h_:=apj List.length (LA b9 hs gS aN mu);rw[tw] at h_;omega) iq fA ?_
    intro g3 x7 YX YU hA8
    refine k<|qE kC _ (pW l4 mu) YX J (by have h_:=apj List.length (LA b9 hs gS aN mu);rw[tw] at h_;omega) fA J J J s43 (RV.bv.2 J) ?_
    intro LD j9
    have oO:=HI.Ax (M:=fun _=>False) (it:=sf (.int .i64 0) (0:Int)) j9 l4
    have pE:HI M w LD (lJ++bJ w.heap.size 151 fU (ys.set ((i:Int).toNat) (x2.set ((k_:Int).toNat) (x1 &&& x4)))):=oO
    refine z<|aH<|nx<|rg<|k<|add J J s40 J aS<|ak (v:=C ((k_:Int)+1)) J J<|z<|bB _ ?_ ⟨(k_+1),(ys.set ((i:Int).toNat) (x2.set ((k_:Int).toNat) (x1 &&& x4))),J,s31,s32,s33,s34,s35,s36,s37,s38,s39,(bH J),pE,aq,(by rw[apk];exact od),(by exact aae b9 hs gS aN mu cO nr),(by rw[apk];exact AM)⟩
    omega
  have p3:=dF b3
  refine ex<|aW<|ba<|bh<|aH<|nx<|rg<|k<|add J J ln J aS<|ak (v:=C ((i:Int)+1)) J J<|z ?_
  have cR:HI M w w9 (fQ++bJ w.heap.size 151 fU ys):=HI.aQ (l:=lJ) (l':=fQ) (t:=bJ w.heap.size 151 fU ys) dI [1,2,3,4,5,6,7,8] aw J J
  refine bB _ ?_ ⟨(i+1),ys,J,fM,fL,gv,gH,kl,(bH J),cR,aq,(by exact od),(by exact aag b9 hs gS aN oC (by simpa using b2) aq),(by exact AM)⟩
  omega
 have p1:=dF b1
 refine ex<|aW<|ba<|bh<|nx<|sq ?_
 have dq:HI M w w7 (own w.heap.size 144 (.slice a2 mn.toNat c2) xs::J7::J6::eh):=HI.deep (l:=(J7::J6::eh)) (HI.aQ (l:=fQ) (l':=(J5::J7::J6::eh)) (t:=bJ w.heap.size 151 fU xs) db [1,0,2,3,4,5,6,7] aw J J) bu
 refine rg<|k<|cC dq 1 J bp J s9 aw J<|k<|bA dq 4 J bp J J s7 J J J J ?_
 intro w8 (cM:HI M w w8 [own w.heap.size 144 (.slice a2 mn.toNat c2) xs,J7,J6,J4,box bj #[C mn,.slice a2 mn.toNat c2] 26,J2,J1,J0])
 refine av<|rt<|py cM 4 J bp J J s7 J aw ?_
 have e1:(xs:List (List bw))=gr mn mr l:=by exact ab7 b9 hs aq
 have l1:mn.toNat=(gr mn mr l).length:=by rw[←e1];omega
 have bt:=iD (fun (vD:Nat)=>(.agg #[C mn,.slice a2 vD c2]:Value)) l1
 exact⟨a2,c2,bt,cM.below,(apj (fun (n_:Nat)=>bo _ _ _ (gr mn mr l) (.slice a2 n_ c2) _) l1).mp ((apj (fun (x_:List (List bw))=>bo _ _ _ x_ (.slice a2 mn.toNat c2) _) e1).mp (cM.dx 0 J))⟩
theorem Xn:cD aM 68:=cE Tryz.func68
theorem Np:cD aM 82:=cE Tryz.func82
theorem Xl:cD aM 81:=cE Tryz.func81
theorem ag4:cD aM 142:=cE Tryz.func142
theorem Xo:cD aM 66:=cE Tryz.func66
theorem IL (hM:eC M w) (hT:fY 0 w) (cW:cz M w aA az I) (fC:cz M w ay ax U) (gk:aK mn) (gz:cz M w bG bF mr) (uz:aK o) (ho:ij I) (dG:I.length≤64) (ey:U.length=I.length) (fP:∀x∈U,x<((I.length:Nat):Int)) (Cq:mn=((I.length:Nat):Int)) (Cp:mr=cA I U) (ur:0≤o∧o<((I.length:Nat):Int)):Calls aM 106 #[.agg #[.slice aC aF aB,R aA I az,R ay U ax],.agg #[C mn,R bG mr bF],C o] w (ck fun v w'=>∃(es:List eu) (rd:Int) (a0:OA) (c0:Nat) (a1:OA) (c1:Nat),v=.tuple #[.agg #[C ((I.length:Nat):Int),.slice a0 (cY I U o).length c0],R a1 es c1,C rd,C 0]∧Ext w w'∧RV M w' (.slice a0 (cY I U o).length c0) (cY I U o)∧cz M w' a1 c1 es∧es.length≤2000000000∧aK rd∧oP I.length es):=by
 refine dv 66 Tryz.func106 J J J hM fun f0 ha H=>?_
 let J0:=iL aA I az
 have H0:=H.put (it:=J0) J<|by rw[bQ];exact cW
 let J1:=iL ay U ax
 have H1:=H0.put (it:=J1) J<|by rw[aG rfl,bQ];exact fC
 let J2:=iL bG mr bF
 have H2:=H1.put (it:=J2) J<|by rw[aG rfl,aG rfl,bQ];exact gz
 have iE:=bg cW
 have kh:=bg fC
 have nG:=bg gz
 have i0:f0 0=.agg #[.slice aC aF aB,R aA I az,R ay U ax]:=ha 0 bm
 have i1:f0 1=.agg #[C mn,R bG mr bF]:=ha 1 bm
 have i2:f0 2=C o:=ha 2 bm
 have b9:bL mn mr=true:=by rw[Cq,Cp];exact pS U aq
 have lk_:=BO ho dG ur
 refine aD<|k<|bx H2 J i0 ?_
 let bf:=[J2,J1,J0]
 intro aX w0 bY (H3:HI M w w0 (box aX #[.slice aC aF aB,R aA I az,R ay U ax] 47::bf))
 let J3:=box aX #[.slice aC aF aB,R aA I az,R ay U ax] 47
 refine k<|bx H3 J i1 ?_
 let bZ:=J3::bf
 intro bj w1 cS (H4:HI M w w1 (box bj #[C mn,R bG mr bF] 26::bZ))
 let J4:=box bj #[C mn,R bG mr bF] 26
 refine k<|al H4 bp ?_
 let eh:=J4::bZ
 intro bK w2 fm (H5:HI M w w2 (box bK #[C 0,.slice none 0 0] 26::eh))
 let J5:=box bK #[C 0,.slice none 0 0] 26
 refine au (v:=.slice none 0 0) J J<|au (v:=C 0) J J<|au (v:=C 0) J J<|av<|sq<|aD<|ak J i2<|k<|lss J J J J<|ak (v:=.bool (decide (o<0))) J J ?_
 have Cj:(decide (o<0))=false:=(by rw[apA];omega)
 refine bl J J J Cj<|mv J i2<|bl J J J Cj<|fa eX J J<|bl J J J Cj<|lx H5 2 J ir J J J<|bl J J J Cj<|dP J J iK<|bl J J J Cj<|geq J J J J<|k<|cU J J J J Cj J<|z<|nx ?_
 have LI:(decide ((I.length:Int)≤o))=false:=(by rw[apA];omega)
 refine nB J J LI<|sk<|cQ<|k<|cC H5 2 J dt J J aw J<|ak J i2<|k ?_
 have bT:=C_ (I:=I) (o:=o) (aC:=aC) (aF:=aF) (aB:=aB) (ay:=ay) (dY:=U.length) (ax:=ax) H5.mb (H5.rv 5 J) uz (by exact ho) aq
 refine ca Xn J (ec J<|ec J e0) bT ?_
 rintro _ w3 ⟨a0,c0,rfl,fg,cm⟩
 have H6:=H5.eU cm
 refine au (v:=R a0 (bc (fk I)<|cF I o) c0) J J<|av<|sq<|mw [.r,.r,.r,.r,.r,.n,.e] (fun _=>True) J aV (fun _ _=>trivial)<|yq J J<|kq (fun _ x_=>cC (H6.ext x_) 2 J bp J J aw J e1)<|bS<|kq (fun _ x_=>cC (H6.ext x_) 2 J bp J J aw J e1)<|bS<|kq (fun _ _=>mv J i2 e1)<|zq<|yu J (fun N v w'=>∃(a1:OA) (c1:Nat),v=R a1 (bR mn mr o) c1∧RV (MN H6.eI N) w' (R a1 (bR mn mr o) c1) (bR mn mr o)) J kZ J (fun v_ _ x_ n_=>have fF:=vy (mn:=mn) (mr:=mr) (o:=o) (w:=v_) (kR H6.mb x_ n_) (hT.ext (H6.below.trans x_)) gk (kv (H6.rv 4 J) x_ n_) uz (by exact b9);ca Np rfl (ec J<|ec J e0) fF (fun _ w5 ⟨a2,c2,e_,je,ft⟩=>⟨_,J,je,⟨a2,c2,e_,(bo.rv ft<|kR H6.mb x_ n_)⟩⟩))<|lP J (fun N v w'=>∃(a4:OA) (c4:Nat),v=.agg #[C mn,R a4 (gr mn mr<|bR mn mr o) c4]∧RV (MN H6.eI N) w' (R a4 (gr mn mr<|bR mn mr o) c4) (gr mn mr<|bR mn mr o)) 0 J J kZ J (fun v_ _ _ x_ n_ h_=>let ⟨a5,c5,s0,kN⟩:=h_;have my:=zZ (mn:=mn) (mr:=mr) (l:=(bR mn mr o)) (w:=v_) (kR H6.mb x_ n_) gk (kv (H6.rv 4 J) x_ n_) kN (by exact b9) (by have h_:=vj b9 o;omega);ca Xl rfl (ec J<|ec s0 e0) my (fun _ w7 ⟨a6,c6,e_,lk,nj⟩=>⟨_,J,lk,⟨a6,c6,e_,(bo.rv nj<|kR H6.mb x_ n_)⟩⟩))<|yn (z:=#[C 0,.slice none 0 0]) J J (fun _=>Qt bp)<|ye<|yz ?_
 intro w8 f0 _ lj _ _ cG jc
 obtain⟨gT,s1,DN,tm,Co⟩:=jc 0 _ _ rfl
 have qb:=Qj (z:=#[C 0,.slice none 0 0]) (T:=26) DN tm Co<|Qk
 let jz:=oL w 3 a0 (bc (fk I) (cF I o)) c0::J5::eh
 have H7:HI M w w8 (box gT #[C 0,.slice none 0 0] 26::jz):=H6.Ez lj qb<|PB PA PC
 have s2:=cG 3 J
 have s3:=cG 6 J
 have s4:=cG 10 J
 obtain⟨a7,c7,s5,n9⟩:=jc 1 _ _ rfl
 let J6:=iL a7 (gr mn mr (bR mn mr o)) c7
 have H8:=H7.put (it:=J6) J<|sJ n9 qb
 refine km<|bA H8 1 J bp J J s1 s5 J J J ?_
 intro w9 (H9:HI M w w9 (J6::box gT #[C mn,R a7 (gr mn mr (bR mn mr o)) c7] 26::jz))
 refine kz<|cQ<|au (v:=.slice none 0 0) J J<|bz<|au (v:=C 1) J J<|av<|bk ?_
 have dB:=H9.freeze 2 J
 let J7:=iL a0 (bc (fk I) (cF I o)) c0
 have cT:=dB.put (it:=J7) J<|dB.rv 2 J
 have db:=cT.qZ (Int×Int×Int) 122
 have dq:=db.put (it:=J6) J<|db.rv 2 J
 let fQ:=J7::J5::eh
 refine lp (fun m f w'=>∃(fG:Nat) (cK:Int) (hQ:List (List bw)) (zJ:List eu) (a8:OA) (c8:Nat) (a9:OA) (c9:Nat) (jy:OA) (jx:Nat),m=I.length*I.length-I' I hQ∧f 3=pV aX 0∧f 6=pV bK 0∧f 10=R a8 (bc (fk I)<|cF I o) c8∧f 11=pV gT 0∧f 12=R a9 zJ c9∧f 13=C ((fG:Int)+1)∧HI M w w' (iL jy hQ jx::oL w 122 a9 zJ c9::iL a8 (bc (fk I)<|cF I o) c8::J6::box gT #[C cK,R jy hQ jx] 26::fQ)∧(KG I U o cK hQ)∧(fG≤I' I hQ)∧(zJ.length≤262144*fG)∧(oP I.length zJ)) _ ⟨0,mn,(gr mn mr<|bR mn mr o),([]:List eu),a0,c0,none,0,a7,c7,J,s2,s3,s4,s1,J,(bH J),dq,(by rw[Cq,Cp];exact V1 I U o),(by exact aqH _),(by exact aqH _),(by intro e_ h_;cases h_)⟩ ?_
 rintro _ f1 dL ⟨fG,cK,hQ,zJ,a8,c8,a9,c9,jy,jx,rfl,s6,s7,s8,s9,ei,eR,cM,hs,ajE,aor,aey⟩
 refine sq<|bk<|sq ?_
 have Me:=LR hs aq;have ajK:=hs.1
 refine rg<|k<|cC cM 8 J dt J s6 aw J<|k<|cC cM 4 J bp J s9 aw J<|ak J s8<|k ?_
 have mx:=QP (I:=I) (U:=U) (mn:=cK) (mr:=hQ) (kp:=(bc (fk I)<|cF I o)) (aC:=aC) (aF:=aF) (aB:=aB) cM.mb (hT.ext cM.below) (cM.rv 11 J) (cM.rv 10 J) aS (cM.rv 0 J) (cM.rv 2 J) aq (by exact ey) (by exact fP)<|by exact Me
 refine ca ag4 J (ec J<|ec J<|ec J e0) mx ?_
 rintro _ ew ⟨mW,mU,rfl,sT,qT⟩
 have dR:=cM.eU qT
 refine au (v:=R mW (gJ cK hQ (bc (fk I)<|cF I o)<|cL I U cK hQ) mU) J J<|av<|sq<|aD<|ak (v:=R mW (gJ cK hQ (bc (fk I)<|cF I o)<|cL I U cK hQ) mU) J J<|k<|dP J J eD<|k<|eql J J J J<|z<|nx<|cd (b:=decide (((gJ cK hQ (bc (fk I)<|cF I o)<|cL I U cK hQ).length:Int)=0)) J J (fun b0=>?_)<|fun b0=>?_
 ·
  have p0:=dT b0
  refine sq ?_
  have aj4:=LU hQ I;have ajA:I.length*I.length≤64*64:=Nat.mul_le_mul dG dG
  have Cm:(gJ cK hQ (bc (fk I) (cF I o)) (cL I U cK hQ))=[]:=aqp.1 aq
  refine rg<|k<|cC dR 5 J bp J s9 aw J<|ak J ei<|ak J eR<|k<|bA dR 7 J bp J J s7 J J J J ?_
  intro fq (dI:HI M w fq [oL w 122 mW (gJ cK hQ (bc (fk I) (cF I o)) (cL I U cK hQ)) mU,iL jy hQ jx,oL w 122 a9 zJ c9,iL a8 (bc (fk I) (cF I o)) c8,J6,box gT #[C cK,R jy hQ jx] 26,J7,box bK #[C cK,R jy hQ jx] 26,J4,J3,J2,J1,J0])
  refine au (v:=R a9 zJ c9) J J<|au (v:=C ((fG:Int)+1)) J J<|au (v:=C 0) J J<|av<|rt<|aL<|bI<|aL<|du<|bI<|rc4 dI 7 J bp J J J J J s7 J aw ?_
  have e0:(cK:Int)=((I.length:Nat):Int):=by exact hs.1
  have e1:(hQ:List (List bw))=cY I U o:=by exact acj hs ey fP (rB Me) Cm
  have bt:=nN (fun (cb:Int) (dK:List (List bw))=>(.tuple #[.agg #[C cb,.slice jy dK.length jx],.slice a9 zJ.length c9,C ((fG:Int)+1),C 0]:Value)) e0 e1
  exact⟨zJ,((fG:Int)+1),jy,jx,a9,c9,bt,dI.below,(apj (fun (x_:List (List bw))=>RV _ _ (.slice jy x_.length jx) x_) e1).mp (dI.fz 1 J),(dI.mD 2 J),aq,(by unfold aK;omega),(by exact aey)⟩
 have p0:=dF b0
 refine sk<|nx<|sq ?_
 have anI:=LU (l8 cK hQ<|gJ cK hQ (bc (fk I)<|cF I o)<|cL I U cK hQ) I;have aj4:=LU hQ I;have ajA:I.length*I.length≤64*64:=Nat.mul_le_mul dG dG
 have DI:=UC cK hQ (bc (fk I)<|cF I o) (cL I U cK hQ);have RC:=(rB (I:=I) (U:=U) Me).1
 obtain⟨Hv,hc_⟩:=aao hs ey fP (rB Me)
 have aeu:=hc_<|by intro h_;have e_:=apj List.length h_;simp only[gC] at e_;unfold l3 at e_;omega
 have sP:oP I.length (gJ cK hQ (bc (fk I) (cF I o)) (cL I U cK hQ)):=Yw hs ey fP<|rB Me
 refine rg<|ak J ei<|ak (v:=R mW (gJ cK hQ (bc (fk I)<|cF I o)<|cL I U cK hQ) mU) J J<|k<|l7 dR 2 J J J J J J (hG<|dR.at_ 0 J) eD cN J aq J ?_
 let J8:=oL w 122 mW (gJ cK hQ (bc (fk I) (cF I o)) (cL I U cK hQ)) mU
 let J9:=iL jy hQ jx
 let eJ:=iL a8 (bc (fk I) (cF I o)) c8
 intro a12 pD fq (dI:HI M w fq (J8::J9::oL w 122 a12 (zJ++gJ cK hQ (bc (fk I) (cF I o)) (cL I U cK hQ)) pD::eJ::J6::box gT #[C cK,R jy hQ jx] 26::fQ))
 let d_:=oL w 122 a12 (zJ++gJ cK hQ (bc (fk I) (cF I o)) (cL I U cK hQ)) pD
 refine au (v:=R a12 (zJ++gJ cK hQ (bc (fk I)<|cF I o) (cL I U cK hQ)) pD) J J<|bz<|ak (v:=R mW (gJ cK hQ (bc (fk I)<|cF I o)<|cL I U cK hQ) mU) J J<|k<|dP J J eD<|ak (v:=C 0) J J<|av<|bk ?_
 have cR:=dI.put (it:=J9) J<|dI.rv 1 J
 refine lp (fun m f w'=>∃(q_:Nat) (ga:Int) (fN:List (List bw)) (j3:OA) (j2:Nat),m=(gJ cK hQ (bc (fk I)<|cF I o)<|cL I U cK hQ).length-q_∧f 3=pV aX 0∧f 6=pV bK 0∧f 10=R a8 (bc (fk I)<|cF I o) c8∧f 11=pV gT 0∧f 12=R a12 (zJ++gJ cK hQ (bc (fk I)<|cF I o) (cL I U cK hQ)) pD∧f 13=C ((fG:Int)+1)∧f 50=R mW (gJ cK hQ (bc (fk I)<|cF I o)<|cL I U cK hQ) mU∧f 51=C ((gJ cK hQ (bc (fk I)<|cF I o)<|cL I U cK hQ).length:Int)∧f 52=C (q_:Int)∧HI M w w' (iL j3 fN j2::J8::J9::d_::eJ::J6::box gT #[C ga,R j3 fN j2] 26::fQ)∧(q_≤(gJ cK hQ (bc (fk I)<|cF I o)<|cL I U cK hQ).length)∧(ga=cK∧fN=l8 cK hQ ((gJ cK hQ (bc (fk I)<|cF I o)<|cL I U cK hQ).take q_))) _ ⟨0,cK,hQ,jy,jx,J,s6,s7,s8,s9,J,eR,J,J,(bH J),cR,aq,(by exact⟨J,J⟩)⟩ ?_
 rintro _ f2 iF ⟨q_,ga,fN,j3,j2,rfl,fM,fL,gv,gH,jZ,kl,ln,ll,lU,dX,tg,oC⟩
 refine aD<|k<|lss J J lU ll<|av<|sq<|cd (b:=decide ((q_:Int)<((gJ cK hQ (bc (fk I)<|cF I o)<|cL I U cK hQ).length:Int))) J J (fun b1=>?_)<|fun b1=>?_
 ·
  have p1:=dT b1
  refine sk<|nx<|sq<|bk<|aD<|k<|iC (dX.at_ 1 J) J J ln lU aq eD cN ?_
  intro g0 x0 iP aN cB
  refine k<|nI cB cN J J ?_
  intro v0 nR
  obtain⟨_,⟨_,_,rfl,⟨rfl,mA⟩,⟨_,_,rfl,⟨rfl,pI⟩,⟨rfl,qx⟩⟩⟩,rfl⟩:=nR
  refine k<|al dX cN ?_
  let lJ:=iL j3 fN j2::J8::J9::d_::eJ::J6::box gT #[C ga,R j3 fN j2] 26::fQ
  intro A7 jF xK (dV:HI M w jF (box A7 #[C 0,C 0,C 0] 122::lJ))
  refine k<|bA dV 0 J cN J J J J J J J ?_
  intro oU (cJ:HI M w oU (box A7 #[C x0.1,C x0.2.1,C x0.2.2] 122::lJ))
  refine av<|rg<|k<|cC cJ 7 J bp J gH aw J<|aU kV J J<|bq cJ 0 J aT J J J<|aU nf J J<|bq cJ 0 J aT J J J<|k ?_
  have yL:=F' (mn:=ga) (mr:=fN) (i:=x0.1) (j:=x0.2.1) cJ.mb aS (cJ.rv 1 J) mA pI<|by exact aci hs aq sP oC
  refine ca Xo J (ec J<|ec J<|ec J e0) yL ?_
  rintro _ wJ ⟨lz,ly,rfl,zR,qw⟩
  have ef:=cJ.ext zR
  let fZ:=iL lz (ie ga fN x0.1 x0.2.1) ly
  have dA:=ef.put (it:=fZ) J qw
  refine ak (v:=.tuple #[.agg #[C (iu ga x0.1 x0.2.1),R lz (ie ga fN x0.1 x0.2.1) ly],C (lM ga x0.1 x0.2.1)]) J J<|k<|xt J J J<|k<|xt J J J<|k<|bA dA 8 J bp J J gH J J J J ?_
  let fI:=box gT #[C (iu ga x0.1 x0.2.1),R lz (ie ga fN x0.1 x0.2.1) ly] 26
  intro r8 (fe:HI M w r8 (fZ::box A7 #[C x0.1,C x0.2.1,C x0.2.2] 122::iL j3 fN j2::J8::J9::d_::eJ::J6::fI::fQ))
  refine z<|aH<|nx<|rg<|k<|add J J lU J aS<|ak (v:=C ((q_:Int)+1)) J J<|z ?_
  have fw:=fe.put (it:=fZ) J<|fe.rv 0 J
  have gl:HI M w r8 (fZ::J8::J9::d_::eJ::J6::fI::fQ):=fw.bX [0,4,5,6,7,8,9,10,11,12,13,14,15,16] aw J
  refine bB _ ?_ ⟨(q_+1),(iu ga x0.1 x0.2.1),(ie ga fN x0.1 x0.2.1),lz,ly,J,fM,fL,gv,gH,jZ,kl,ln,ll,(bH J),gl,aq,(by exact Cd oC aN (LS ajK sP aN))⟩
  omega
 have p1:=dF b1
 refine ex<|aW<|ba<|bh<|aH<|nx<|rg<|ak J kl<|k<|add J J J J aS<|au (v:=C (((fG:Int)+1)+1)) J J<|z ?_
 have dV:=dU dX<|dX.rv 0 J
 have cJ:=dV.put (it:=eJ) J<|dV.rv 5 J
 have ef:HI M w iF (iL j3 fN j2::d_::eJ::J6::box gT #[C ga,R j3 fN j2] 26::fQ):=cJ.bX [1,5,0,7,8,9,10,11,12,13,14,15] aw J
 refine bB _ ?_ ⟨(fG+1),ga,fN,(zJ++gJ cK hQ (bc (fk I)<|cF I o) (cL I U cK hQ)),a8,c8,a12,pD,j3,j2,J,fM,fL,gv,gH,jZ,(bH J),ef,(by rw[oC.1,oC.2,apu aq];exact Hv),(by rw[oC.2,apu aq];unfold l3 at aeu;omega),(by rw[gj];omega),(by intro e_ h_;exact(apM.1 h_).elim (aey e_) (sP e_))⟩
 rw[oC.2,apu aq];unfold l3 at aeu;omega
theorem akE:cD aM 50:=cE Tryz.func50
theorem Q2 (hM:eC M w) (cW:cz M w aA az I) (dG:I.length≤4096):Calls aM 50 #[.agg #[.slice aC aF aB,R aA I az,.slice ay dY ax]] w (ck fun v w'=>∃(a0:OA) (c0:Nat),v=.slice a0 (fR I).length c0∧Ext w w'∧bo M 3 w (fR I) (.slice a0 (fR I).length c0) w'):=by
 refine dv 42 Tryz.func50 J J J hM fun f0 ha H=>?_
 let J0:=iL aA I az
 have H0:=H.put (it:=J0) J<|by rw[bQ];exact cW
 have iE:=bg cW
 have i0:f0 0=.agg #[.slice aC aF aB,R aA I az,.slice ay dY ax]:=ha 0 bm
 refine aD<|k<|bx H0 J i0 ?_
 intro aX w0 bY (H1:HI M w w0 [box aX #[.slice aC aF aB,R aA I az,.slice ay dY ax] 47,J0])
 let J1:=box aX #[.slice aC aF aB,R aA I az,.slice ay dY ax] 47
 refine au (v:=.slice none 0 0) J J<|bz<|au (v:=.slice none 0 0) J J<|av<|sq<|aD<|au (v:=C 0) J J<|av<|bk ?_
 have H2:=H1.qZ Int 3
 refine lp (fun m f w'=>∃(j:Nat) (xs:aE) (a0:OA) (c0:Nat),m=I.length-j∧f 1=pV aX 0∧f 3=R a0 xs c0∧f 4=C (j:Int)∧HI M w w' [oL w 3 a0 xs c0,J1,J0]∧(j≤I.length)∧(xs=(I.take j).map (si I))) _ ⟨0,([]:aE),none,0,J,J,J,(bH J),H2,aq,(by rfl)⟩ ?_
 rintro _ f0 w1 ⟨j,xs,a0,c0,rfl,s0,s1,s2,H3,hk,hs⟩
 refine sq<|aD<|ak J s2<|aU eX J s0<|bq H3 1 J ir J J J<|k<|dP J J iK<|k<|lss J J J J<|z<|nx<|cd (b:=decide ((j:Int)<(I.length:Int))) J J (fun b0=>?_)<|fun b0=>?_
 ·
  have p0:=dT b0
  refine sk<|nx<|sq<|bk<|aD<|aU eX J s0<|bq H3 1 J ir J J J<|ak J s2<|k<|ia (H3.rv 2 J) J J J J aq iK jd ?_
  intro iy x0 aN cB
  refine k<|nI cB.w jd J J ?_
  intro v0 cm
  obtain⟨_,⟨_,_,rfl,⟨rfl,dN⟩,⟨_,_,rfl,⟨rfl,dH⟩,⟨_,_,rfl,rfl,⟨_,_,rfl,⟨rfl,ft⟩,⟨rfl,iO⟩⟩⟩⟩⟩,rfl⟩:=cm
  refine k<|al H3 jd ?_
  intro bj w2 cS (H4:HI M w w2 [box bj #[C 0,C 0,.bool false,C 0,C 0] 95,oL w 3 a0 xs c0,J1,J0])
  refine k<|bA H4 0 J jd J J J J J J J ?_
  let J2:=box bj #[C x0.1,C x0.2.1,.bool x0.2.2.1,C x0.2.2.2.1,C x0.2.2.2.2] 95
  intro w3 (H5:HI M w w3 [J2,oL w 3 a0 xs c0,J1,J0])
  refine bz<|au (v:=C (-2)) J J<|bz<|k<|cC H5 2 J dt J s0 aw J<|aU ry J J<|bq H5 0 J aT J J J<|aU sj J J<|bq H5 0 J aT J J J<|k ?_
  have bT:=EW (I:=I) (vr:=x0.2.2.2.1) (val:=x0.2.2.2.2) (aC:=aC) (aF:=aF) (aB:=aB) (ay:=ay) (dY:=dY) (ax:=ax) H5.mb (H5.rv 3 J) ft iO
  refine ca aeZ J (ec J<|ec J<|ec J e0) bT ?_
  rintro _ w4 ⟨rfl,fm⟩
  have H6:=H5.ext fm
  refine ak (v:=.tuple #[C (max (gG I x0.2.2.2.1 x0.2.2.2.2) 0),.bool (decide (0≤gG I x0.2.2.2.1 x0.2.2.2.2))]) J J<|k<|xt J J J<|k<|xt J J J<|au (v:=C (max (gG I x0.2.2.2.1 x0.2.2.2.2) 0)) J J<|au (v:=.bool (decide (0≤gG I x0.2.2.2.1 x0.2.2.2.2))) J J<|av<|sq<|aD<|aU rz J J<|bq H6 0 J n5 J J J<|z<|nx<|cd (b:=x0.2.2.1) J J (fun b1=>?_)<|fun b1=>?_
  ·
   refine rg<|au (v:=C (-3)) J J<|av<|rg<|ak J s1<|ak (v:=C (-3)) J J<|k<|bs (xs:=([(-3)]:aE)) (cells:=#[C (-3)]) (e:=3) H6 J (ct J eA) (fun _=>aV) ⟨[C (-3)],[],J,⟨J,(show aK ((-3)) from aS)⟩,J⟩ J aw ?_
   intro g0 w5 fg H7
   refine k<|l7 H7 2 J J J J J J (hG<|H7.at_ 0 J) cw aT J (by rw[hs,apZ,iH];simp only[jb,gC];omega) J ?_
   intro a1 c1 w6 (H8:HI M w w6 [own w.heap.size 3 (.slice (some ⟨g0,0,none⟩) 1 1) ([(-3)]:aE),J2,oL w 3 a1 (xs++([(-3)]:aE)) c1,J1,J0])
   refine au (v:=R a1 (xs++([(-3)]:aE)) c1) J J<|z<|aH<|nx<|rg<|ak J s2<|k<|add J J J J aS<|au (v:=C ((j:Int)+1)) J J<|z ?_
   have H9:HI M w w6 [oL w 3 a1 (xs++([(-3)]:aE)) c1,J1,J0]:=H8.bX [2,3,4] aw J
   refine bB _ ?_ ⟨(j+1),(xs++([(-3)]:aE)),a1,c1,J,s0,J,(bH J),H9,aq,(by rw[hs];first|exact iT aN (HK b1)|exact iT aN (HN b1 p2)|exact iT aN (HL b1 p2 b3)|exact iT aN (HM b1 p2 b3))⟩
   omega
  refine aD<|aU sj J J<|bq H6 0 J aT J J J<|k<|eql J J J J<|z<|nx<|cd (b:=decide (x0.2.2.2.2=0)) J J (fun b2=>?_)<|fun b2=>?_
  ·
   have p2:=dT b2
   refine rg<|au (v:=C (-1)) J J<|av<|rg<|ak J s1<|ak (v:=C (-1)) J J<|k<|bs (xs:=([(-1)]:aE)) (cells:=#[C (-1)]) (e:=3) H6 J (ct J eA) (fun _=>aV) ⟨[C (-1)],[],J,⟨J,(show aK ((-1)) from aS)⟩,J⟩ J aw ?_
   intro g0 w5 fg H7
   refine k<|l7 H7 2 J J J J J J (hG<|H7.at_ 0 J) cw aT J (by rw[hs,apZ,iH];simp only[jb,gC];omega) J ?_
   intro a1 c1 w6 (H8:HI M w w6 [own w.heap.size 3 (.slice (some ⟨g0,0,none⟩) 1 1) ([(-1)]:aE),J2,oL w 3 a1 (xs++([(-1)]:aE)) c1,J1,J0])
   refine au (v:=R a1 (xs++([(-1)]:aE)) c1) J J<|z<|aH<|nx<|rg<|ak J s2<|k<|add J J J J aS<|au (v:=C ((j:Int)+1)) J J<|z ?_
   have H9:HI M w w6 [oL w 3 a1 (xs++([(-1)]:aE)) c1,J1,J0]:=H8.bX [2,3,4] aw J
   refine bB _ ?_ ⟨(j+1),(xs++([(-1)]:aE)),a1,c1,J,s0,J,(bH J),H9,aq,(by rw[hs];first|exact iT aN (HK b1)|exact iT aN (HN b1 p2)|exact iT aN (HL b1 p2 b3)|exact iT aN (HM b1 p2 b3))⟩
   omega
  have p2:=dF b2
  refine aD<|ak (v:=.bool (decide (0≤gG I x0.2.2.2.1 x0.2.2.2.2))) J J<|z<|nx<|cd (b:=decide (0≤gG I x0.2.2.2.1 x0.2.2.2.2)) J J (fun b3=>?_)<|fun b3=>?_
  ·
   have p3:=dT b3
   refine rg<|ak (v:=C (max (gG I x0.2.2.2.1 x0.2.2.2.2) 0)) J J<|au (v:=C (max (gG I x0.2.2.2.1 x0.2.2.2.2) 0)) J J<|av<|rg<|ak J s1<|ak (v:=C (max (gG I x0.2.2.2.1 x0.2.2.2.2) 0)) J J<|k<|bs (xs:=([(max (gG I x0.2.2.2.1 x0.2.2.2.2) 0)]:aE)) (cells:=#[C (max (gG I x0.2.2.2.1 x0.2.2.2.2) 0)]) (e:=3) H6 J (ct J eA) (fun _=>aV) ⟨[C (max (gG I x0.2.2.2.1 x0.2.2.2.2) 0)],[],J,⟨J,(show aK ((max (gG I x0.2.2.2.1 x0.2.2.2.2) 0)) from(by have h_:=xp (p:=lH x0.2.2.2.1 x0.2.2.2.2) (r:=I);unfold gG;unfold aK;omega))⟩,J⟩ J aw ?_
   intro g0 w5 fg H7
   refine k<|l7 H7 2 J J J J J J (hG<|H7.at_ 0 J) cw aT J (by rw[hs,apZ,iH];simp only[jb,gC];omega) J ?_
   intro a1 c1 w6 (H8:HI M w w6 [own w.heap.size 3 (.slice (some ⟨g0,0,none⟩) 1 1) ([(max (gG I x0.2.2.2.1 x0.2.2.2.2) 0)]:aE),J2,oL w 3 a1 (xs++([(max (gG I x0.2.2.2.1 x0.2.2.2.2) 0)]:aE)) c1,J1,J0])
   refine au (v:=R a1 (xs++([(max (gG I x0.2.2.2.1 x0.2.2.2.2) 0)]:aE)) c1) J J<|z<|aH<|nx<|rg<|ak J s2<|k<|add J J J J aS<|au (v:=C ((j:Int)+1)) J J<|z ?_
   have H9:HI M w w6 [oL w 3 a1 (xs++([(max (gG I x0.2.2.2.1 x0.2.2.2.2) 0)]:aE)) c1,J1,J0]:=H8.bX [2,3,4] aw J
   refine bB _ ?_ ⟨(j+1),(xs++([(max (gG I x0.2.2.2.1 x0.2.2.2.2) 0)]:aE)),a1,c1,J,s0,J,(bH J),H9,aq,(by rw[hs];first|exact iT aN (HK b1)|exact iT aN (HN b1 p2)|exact iT aN (HL b1 p2 b3)|exact iT aN (HM b1 p2 b3))⟩
   omega
  have p3:=dF b3
  refine sk<|nx<|rg<|ak J s1<|ak (v:=C (-2)) J J<|k<|bs (xs:=([(-2)]:aE)) (cells:=#[C (-2)]) (e:=3) H6 J (ct J eA) (fun _=>aV) ⟨[C (-2)],[],J,⟨J,(show aK ((-2)) from aS)⟩,J⟩ J aw ?_
  intro g0 w5 fg H7
  refine k<|l7 H7 2 J J J J J J (hG<|H7.at_ 0 J) cw aT J (by rw[hs,apZ,iH];simp only[jb,gC];omega) J ?_
  intro a1 c1 w6 (H8:HI M w w6 [own w.heap.size 3 (.slice (some ⟨g0,0,none⟩) 1 1) ([(-2)]:aE),J2,oL w 3 a1 (xs++([(-2)]:aE)) c1,J1,J0])
  refine au (v:=R a1 (xs++([(-2)]:aE)) c1) J J<|z<|aH<|nx<|rg<|ak J s2<|k<|add J J J J aS<|au (v:=C ((j:Int)+1)) J J<|z ?_
  have H9:HI M w w6 [oL w 3 a1 (xs++([(-2)]:aE)) c1,J1,J0]:=H8.bX [2,3,4] aw J
  refine bB _ ?_ ⟨(j+1),(xs++([(-2)]:aE)),a1,c1,J,s0,J,(bH J),H9,aq,(by rw[hs];first|exact iT aN (HK b1)|exact iT aN (HN b1 p2)|exact iT aN (HL b1 p2 b3)|exact iT aN (HM b1 p2 b3))⟩
  omega
 have p0:=dF b0
 refine ex<|aW<|ba<|bh<|cQ<|ak J s1<|au (v:=R a0 xs c0) J J<|av<|rt<|r1 J J ?_
 have e0:(xs:aE)=fR I:=by rw[hs];unfold fR;rw[l_ aq]
 have bt:=iD (fun (cb:aE)=>(.slice a0 cb.length c0:Value)) e0
 exact⟨a0,c0,bt,H3.below,(apj (fun (x_:aE)=>bo _ _ _ x_ (.slice a0 x_.length c0) _) e0).mp (H3.dx 0 J)⟩
theorem Q3 (hM:eC M w) (Xh:cz M w aC aB fv) (cW:cz M w aA az I) (fC:cz M w ay ax U) (dG:I.length≤4096):Calls aM 25 #[.agg #[R aC fv aB,R aA I az,R ay U ax]] w (ck fun v w'=>∃(a0:OA) (c0:Nat) (a1:OA) (c1:Nat) (a2:OA) (c2:Nat),v=.agg #[R a0 fv c0,R a1 I c1,.slice a2 (fR I).length c2]∧Ext w w'∧cz M w' a0 c0 fv∧cz M w' a1 c1 I∧RV M w' (.slice a2 (fR I).length c2) (fR I)):=by
 refine dv 10 Tryz.func25 J J J hM fun f0 ha H=>?_
 have H0:=dU H Xh
 have H1:=dU H0 cW
 have H2:=dU H1 fC
 have i0:f0 0=.agg #[R aC fv aB,R aA I az,R ay U ax]:=ha 0 bm
 refine aD<|k<|bx H2 J i0 ?_
 let bf:=[iL ay U ax,iL aA I az,iL aC fv aB]
 intro aX w0 bY (H3:HI M w w0 (box aX #[R aC fv aB,R aA I az,R ay U ax] 47::bf))
 let J0:=box aX #[R aC fv aB,R aA I az,R ay U ax] 47
 refine k<|al H3 dt ?_
 intro bj w1 cS (H4:HI M w w1 (box bj #[.slice none 0 0,.slice none 0 0,.slice none 0 0] 47::J0::bf))
 refine av<|sq<|mw [.r,.r,.r,.r,.r,.r,.r,.e] (fun _=>True) J aV (fun _ _=>trivial)<|yq J J<|kq (fun _ _=>fa vY J J e1)<|bS<|kq (fun _ x_=>lx (H4.ext x_) 1 J CO J J J e1)<|bS<|kq (fun _ _=>fa eX J J e1)<|bS<|kq (fun _ x_=>lx (H4.ext x_) 1 J ir J J J e1)<|bS<|kq (fun _ x_=>cC (H4.ext x_) 1 J dt J J aw J e1)<|zq<|yu J (fun _ v w'=>∃(a0:OA) (c0:Nat),v=R a0 (fR I) c0∧RV H4.eI w' (R a0 (fR I) c0) (fR I)) J oA J (fun v_ _ x_ _=>have df:=Q2 (I:=I) (aC:=aC) (aF:=fv.length) (aB:=aB) (ay:=ay) (dY:=U.length) (ax:=ax) (w:=v_) (H4.ext x_).mb ((H4.ext x_).rv 3 rfl) bu;ca akE rfl (ec J e0) df (fun _ w3 ⟨a1,c1,e_,fg,dH⟩=>⟨_,J,fg,⟨a1,c1,e_,(bo.rv dH (H4.ext x_).mb)⟩⟩))<|lP J (fun _ v w'=>∃(a2:OA) (c2:Nat),v=.agg #[R aC fv aB,R aA I az,R a2 (fR I) c2]∧RV H4.eI w' (R a2 (fR I) c2) (fR I)) 0 J J oA J (fun _ _ _ _ _ h_=>let ⟨a3,c3,s0,jK⟩:=h_;bd (v:=.agg #[R aC fv aB,R aA I az,R a3 (fR I) c3]) rfl (ct J<|ct J<|ct s0 eA) (fun _=>aV) ⟨_,J,Ext.refl _,⟨a3,c3,J,jK⟩⟩)<|ye<|yz ?_
 intro w4 f0 _ jl _ _ cG jc
 have db:=H4.ext jl
 have s1:=cG 2 J
 obtain⟨a4,c4,s2,i'⟩:=jc 0 _ _ rfl
 have dq:=dU db i'
 refine km<|bA dq 1 J dt J J s1 s2 J J J ?_
 intro w5 (cM:HI M w w5 (iL a4 (fR I) c4::box bj #[R aC fv aB,R aA I az,R a4 (fR I) c4] 47::J0::bf))
 refine kz<|nx<|rt<|py cM 1 J dt J J s1 J aw ?_
 exact⟨aC,aB,aA,az,a4,c4,J,cM.below,(cM.fz 5 J),(cM.fz 4 J),(cM.fz 0 J)⟩
theorem akX:cD aM 23:=cE Tryz.func23
theorem akW:cD aM 24:=cE Tryz.func24
theorem akV:cD aM 25:=cE Tryz.func25
theorem Wg (hM:eC M w) (oe:cz M w gZ gY h) (oD:h.flatten.length≤4096):Calls aM 13 #[R gZ h gY] w (ck fun v w'=>∃(a0:OA) (c0:Nat) (a1:OA) (c1:Nat) (a2:OA) (c2:Nat),v=.tuple #[.agg #[.slice a0 (tQ h).length c0,.slice a1 (me h).length c1,.slice a2 (mg h).length c2],.bool (fS h)]∧Ext w w'∧RV M w' (.slice a0 (tQ h).length c0) (tQ h)∧RV M w' (.slice a1 (me h).length c1) (me h)∧RV M w' (.slice a2 (mg h).length c2) (mg h)):=by
 refine dv 25 Tryz.func13 J J J hM fun f0 ha H=>?_
 let J0:=iL gZ h gY
 have H0:=H.put (it:=J0) J<|by rw[bQ];exact oe
 have i0:f0 0=R gZ h gY:=ha 0 bm
 refine aD<|k<|al H0 dt ?_
 intro aX w0 bY (H1:HI M w w0 [box aX #[.slice none 0 0,.slice none 0 0,.slice none 0 0] 47,J0])
 let J1:=box aX #[.slice none 0 0,.slice none 0 0,.slice none 0 0] 47
 refine au (v:=.bool false) J J<|bz<|ak J i0<|k ?_
 have bT:=Wh (h:=h) H1.mb (H1.rv 1 J) aq
 refine ca akX J (ec J e0) bT ?_
 rintro _ w1 ⟨a0,c0,a1,c1,a2,c2,rfl,cS,cm,dN,dH⟩
 have H2:=H1.ext cS
 let J2:=iL a0 (mo h) c0
 have H3:=H2.put (it:=J2) J cm
 let J3:=iL a1 (cX h) c1
 have H4:=H3.put (it:=J3) J<|by rw[aG J];exact dN
 let J4:=iL a2 ([]:aE) c2
 have H5:=H4.put (it:=J4) J<|by rw[aG rfl,aG rfl];exact dH
 refine ak (v:=.tuple #[.agg #[R a0 (mo h) c0,R a1 (cX h) c1,R a2 ([]:aE) c2],C (lG h)]) J J<|k<|xt J J J<|k<|xt J J J<|k<|al H5 dt ?_
 let bf:=[J4,J3,J2,J1,J0]
 intro bj w2 fm (H6:HI M w w2 (box bj #[.slice none 0 0,.slice none 0 0,.slice none 0 0] 47::bf))
 refine k<|bA H6 0 J dt J J J J J J J ?_
 let J5:=box bj #[R a0 (mo h) c0,R a1 (cX h) c1,R a2 ([]:aE) c2] 47
 intro w3 (H7:HI M w w3 (J5::bf))
 refine au (v:=C (lG h)) J J<|av<|sq<|aD<|ak (v:=C (lG h)) J J<|k<|neq J J J J<|z<|nx<|cd (b:=!decide ((lG h)=0)) J J (fun b0=>?_)<|fun b0=>?_
 ·
  have p0:=dF<|gf b0
  refine sq ?_
  have hq:fS h=false:=aaN<|by simpa using ‹(!decide (lG h=0))=true›
  refine rg<|k<|bd (v:=.agg #[.slice none 0 0,.slice none 0 0,.slice none 0 0]) J eA (fun _=>aV)<|k<|bA H7 4 J dt J J J J J J J ?_
  intro w4 (H8:HI M w w4 (J5::bf))
  refine au (v:=.bool false) J J<|av<|rt<|aL<|iB H8 4 J dt J J J J J aw ?_
  have e0:([]:List aY)=tQ h:=by exact(AJ hq).1.symm
  have e1:([]:List aO)=me h:=by exact(AJ hq).2.1.symm
  have e2:([]:aE)=mg h:=by exact(AJ hq).2.2.symm
  have e3:(false:Bool)=fS h:=by exact hq.symm
  have bt:=Vb (fun (cb:List aY) (dK:List aO) (gF:aE) (lR:Bool)=>(.tuple #[.agg #[.slice none cb.length 0,.slice none dK.length 0,.slice none gF.length 0],.bool lR]:Value)) e0 e1 e2 e3
  exact⟨none,0,none,0,none,0,bt,H8.below,(apj (fun (x_:List aY)=>RV _ _ (.slice none x_.length 0) x_) e0).mp (ep _ _),(apj (fun (x_:List aO)=>RV _ _ (.slice none x_.length 0) x_) e1).mp (ep _ _),(apj (fun (x_:aE)=>RV _ _ (.slice none x_.length 0) x_) e2).mp (ep _ _)⟩
 have p0:=dT<|fu b0
 refine sk<|nx<|sq ?_
 have he_:lG h=0:=by simpa using ‹(!decide (lG h=0))=false›
 refine rg<|k<|cC H7 0 J dt J J aw J<|k ?_
 have df:=Oy (I:=(cX h)) (aC:=a0) (aF:=(mo h).length) (aB:=c0) (ay:=a2) (dY:=([]:aE).length) (ax:=c2) H7.mb<|H7.rv 2 J
 refine ca akW J (ec J e0) df ?_
 rintro _ w4 ⟨rfl,fg⟩
 have H8:=H7.ext fg
 refine ak (v:=.tuple #[C ((dC<|cX h).1),C ((dC<|cX h).2.1),C ((dC<|cX h).2.2)]) J J<|k<|xt J J J<|k<|xt J J J<|k<|xt J J J<|au (v:=C ((dC<|cX h).2.2)) J J<|av<|sq<|aD<|ak (v:=C ((dC<|cX h).2.2)) J J<|k<|neq J J J J<|z<|nx<|cd (b:=!decide (((dC<|cX h).2.2)=0)) J J (fun b1=>?_)<|fun b1=>?_
 ·
  have p1:=dF<|gf b1
  refine sq ?_
  have hq:fS h=false:=aaM<|by simpa using ‹(!decide ((dC<|cX h).2.2=0))=true›
  refine rg<|k<|bd (v:=.agg #[.slice none 0 0,.slice none 0 0,.slice none 0 0]) J eA (fun _=>aV)<|k<|bA H8 4 J dt J J J J J J J ?_
  intro w5 (H9:HI M w w5 (J5::bf))
  refine au (v:=.bool false) J J<|av<|rt<|aL<|iB H9 4 J dt J J J J J aw ?_
  have e0:([]:List aY)=tQ h:=by exact(AJ hq).1.symm
  have e1:([]:List aO)=me h:=by exact(AJ hq).2.1.symm
  have e2:([]:aE)=mg h:=by exact(AJ hq).2.2.symm
  have e3:(false:Bool)=fS h:=by exact hq.symm
  have bt:=Vb (fun (cb:List aY) (dK:List aO) (gF:aE) (lR:Bool)=>(.tuple #[.agg #[.slice none cb.length 0,.slice none dK.length 0,.slice none gF.length 0],.bool lR]:Value)) e0 e1 e2 e3
  exact⟨none,0,none,0,none,0,bt,H9.below,(apj (fun (x_:List aY)=>RV _ _ (.slice none x_.length 0) x_) e0).mp (ep _ _),(apj (fun (x_:List aO)=>RV _ _ (.slice none x_.length 0) x_) e1).mp (ep _ _),(apj (fun (x_:aE)=>RV _ _ (.slice none x_.length 0) x_) e2).mp (ep _ _)⟩
 have p1:=dT<|fu b1
 refine sk<|nx<|sq ?_
 have hq:fS h=true:=ac4 he_<|by simpa using ‹(!decide ((dC<|cX h).2.2=0))=false›
 refine rg<|k<|cC H8 0 J dt J J aw J<|k ?_
 have fF:=Q3 (fv:=(mo h)) (I:=(cX h)) (U:=([]:aE)) H8.mb (H8.rv 3 J) (H8.rv 2 J) (H8.rv 1 J)<|by have h_:=Pw h;omega
 refine ca akV J (ec J e0) fF ?_
 rintro _ w5 ⟨a3,c3,a4,c4,a5,c5,rfl,jl,ft,iO,jK⟩
 have H9:=H8.ext jl
 have dB:=dU H9 ft
 have cT:=dU dB iO
 have db:=dU cT jK
 refine k<|bA db 7 J dt J J J J J J J ?_
 intro w6 (dq:HI M w w6 [iL a5 (fR (cX h)) c5,iL a4 (cX h) c4,iL a3 (mo h) c3,J5,J4,J3,J2,box aX #[R a3 (mo h) c3,R a4 (cX h) c4,R a5 (fR (cX h)) c5] 47,J0])
 refine au (v:=.bool true) J J<|av<|rt<|iB dq 7 J dt J J J J J aw ?_
 have e0:((mo h):List aY)=tQ h:=by exact(xC hq).1.symm
 have e1:((cX h):List aO)=me h:=by exact(xC hq).2.1.symm
 have e2:(fR (cX h):aE)=mg h:=by exact(xC hq).2.2.symm
 have e3:(true:Bool)=fS h:=by exact hq.symm
 have bt:=Vb (fun (cb:List aY) (dK:List aO) (gF:aE) (lR:Bool)=>(.tuple #[.agg #[.slice a3 cb.length c3,.slice a4 dK.length c4,.slice a5 gF.length c5],.bool lR]:Value)) e0 e1 e2 e3
 exact⟨a3,c3,a4,c4,a5,c5,bt,dq.below,(apj (fun (x_:List aY)=>RV _ _ (.slice a3 x_.length c3) x_) e0).mp (dq.fz 2 J),(apj (fun (x_:List aO)=>RV _ _ (.slice a4 x_.length c4) x_) e1).mp (dq.fz 1 J),(apj (fun (x_:aE)=>RV _ _ (.slice a5 x_.length c5) x_) e2).mp (dq.fz 0 J)⟩
theorem akl:cD aM 97:=cE Tryz.func97
theorem akk:cD aM 98:=cE Tryz.func98
theorem akm:cD aM 96:=cE Tryz.func96
theorem aeY:cD aM 59:=cE Tryz.func59
theorem RM:cD aM 58:=cE Tryz.func58
theorem XQ (hM:eC M w) (cW:cz M w aA az I) (fC:cz M w ay ax U) (dG:I.length≤4096) (ey:U.length=I.length) (fP:∀x∈U,x<((I.length:Nat):Int)):Calls aM 98 #[.agg #[.slice aC aF aB,R aA I az,R ay U ax]] w (ck fun v w'=>∃(a0:OA) (c0:Nat),v=.agg #[C (I.length:Int),.slice a0 (oY I U).length c0]∧Ext w w'∧bo M 144 w (oY I U) (.slice a0 (oY I U).length c0) w'):=by
 refine dv 37 Tryz.func98 J J J hM fun f0 ha H=>?_
 let J0:=iL aA I az
 have H0:=H.put (it:=J0) J<|by rw[bQ];exact cW
 let J1:=iL ay U ax
 have H1:=H0.put (it:=J1) J<|by rw[aG rfl,bQ];exact fC
 have iE:=bg cW
 have kh:=bg fC
 have i0:f0 0=.agg #[.slice aC aF aB,R aA I az,R ay U ax]:=ha 0 bm
 refine aD<|k<|bx H1 J i0 ?_
 intro aX w0 bY (H2:HI M w w0 [box aX #[.slice aC aF aB,R aA I az,R ay U ax] 47,J1,J0])
 let J2:=box aX #[.slice aC aF aB,R aA I az,R ay U ax] 47
 refine k<|al H2 bp ?_
 let bf:=[J2,J1,J0]
 intro bj w1 cS (H3:HI M w w1 (box bj #[C 0,.slice none 0 0] 26::bf))
 let J3:=box bj #[C 0,.slice none 0 0] 26
 refine bz<|aU eX J J<|bq H3 1 J ir J J J<|k<|dP J J iK<|k ?_
 have bT:=PE (n:=(I.length:Int)) H3.mb aS
 refine ca HG J (ec J e0) bT ?_
 rintro _ w2 ⟨a0,c0,rfl,fm,cm⟩
 have H4:=H3.eU cm
 refine ak (v:=.tuple #[.agg #[C (oQ (I.length:Int)),R a0 (ja (I.length:Int)) c0],C (sA (I.length:Int))]) J J<|k<|xt J J J<|k<|xt J J J<|k<|al H4 bp ?_
 let bZ:=oL w 144 a0 (ja (I.length:Int)) c0::J3::bf
 intro bK w3 fg (H5:HI M w w3 (box bK #[C 0,.slice none 0 0] 26::bZ))
 refine k<|bA H5 0 J bp J J J J J J J ?_
 let J4:=box bK #[C (oQ (I.length:Int)),R a0 (ja (I.length:Int)) c0] 26
 intro w4 (H6:HI M w w4 (J4::bZ))
 refine au (v:=C (sA (I.length:Int))) J J<|av<|sq<|sq ?_
 have W9:Df (I.length:Int)=true:=sY.2 aq
 obtain⟨en,er, -⟩:=yi W9
 refine rg<|aU sm J J<|bq H6 3 J qv J J J<|k<|dP J J cw<|ak (v:=C 0) J J<|av<|bk<|lp (fun m f w'=>∃(j:Nat) (xs:List (List bw)),m=U.length-j∧f 2=pV bj 0∧f 3=pV bK 0∧f 15=R ay U ax∧f 16=C (U.length:Int)∧f 17=C (j:Int)∧HI M w w' (J4::own w.heap.size 144 (.slice a0 (ja (I.length:Int)).length c0) xs::J3::bf)∧(j≤U.length)∧(xs.length=I.length)∧(xs=uQ I.length U j)) _ ⟨0,(ja (I.length:Int)),J,J,J,J,J,(bH J),H6,aq,(by rw[er,qq];simp),(by rw[er];exact aaz _ _)⟩ ?_
 rintro _ f0 w5 ⟨j,xs,rfl,s0,s1,s2,s3,s4,H7,hk,hl,hs⟩
 refine aD<|k<|lss J J s4 s3<|av<|sq<|cd (b:=decide ((j:Int)<(U.length:Int))) J J (fun b0=>?_)<|fun b0=>?_
 ·
  have p0:=dT b0
  refine sk<|nx<|sq<|bk<|aD<|ak J s4<|k<|ia (H7.rv 4 J) J J s2 s4 aq cw aT ?_
  intro iy x0 aN cB
  refine k<|kF cB.w aT J J ?_
  intro dN
  refine au (v:=C (j:Int)) J J<|au (v:=C x0) J J<|av<|sq ?_
  have hw_:=fP _<|dO aN
  refine rg<|ak (v:=C x0) J J<|k<|geq J J J J<|z<|nx<|cd (b:=decide (0≤x0)) J J (fun b1=>?_)<|fun b1=>?_
  ·
   have p1:=dT b1
   refine mw [.r,.r,.r,.r,.r,.r,.r,.r,.r,.r,.e,.e] (fun _=>True) J aV (fun _ _=>trivial)<|yq J J<|kq (fun _ _=>fa iJ J s1 e1)<|bS<|kq (fun _ x_=>lx (H7.ext x_) 0 J lg J J J e1)<|bS<|kq (fun _ _=>mv (v:=C x0) J J e1)<|bS<|kq (fun _ _=>fa iJ J s1 e1)<|bS<|kq (fun _ x_=>lx (H7.ext x_) 0 J lg J J J e1)<|bS<|kq (fun _ _=>mv (v:=C x0) J J e1)<|bS<|tL (H7.at_ 1 J) J J J J aq im dw ?_
   intro mV x1 cO gx
   refine bS<|G5 gx dw J J ?_
   intro a1 c1 dH
   have Cl:=bg dH
   have H8:=dU H7 dH
   refine bS<|kq (fun _ _=>mv (v:=C (j:Int)) J J e1)<|zq<|yu J (fun _ v w'=>∃(a2:OA) (c2:Nat),v=R a2 (eo x1 (j:Int)) c2∧RV H7.eI w' (R a2 (eo x1 (j:Int)) c2) (eo x1 (j:Int))) J oA J (fun v_ _ x_ _=>have fF:=uO (r:=x1) (i:=(j:Int)) (w:=v_) (H8.ext x_).mb ((H8.ext x_).rv 0 rfl) aS (by have uD:=cO;rw[hs] at uD;exact(aaA (n:=I.length) aq U j).2 _ (dO uD));ca Gs rfl (ec J<|ec J e0) fF (fun _ w7 ⟨a3,c3,e_,je,jK⟩=>⟨_,J,je,⟨a3,c3,e_,(mY J<|bo.rv jK (H8.ext x_).mb)⟩⟩))<|ye<|ye<|yz ?_
   intro w8 f1 _ jE _ _ cG jc
   have cM:=H8.ext jE
   have s5:=(cG 2 J).trans s0
   have s6:=(cG 3 J).trans s1
   have s7:=(cG 15 J).trans s2
   have s8:=(cG 16 J).trans s3
   have s9:=(cG 17 J).trans s4
   have ei:=cG 25 J
   have eR:=cG 26 J
   obtain⟨a4,c4,fM,kN⟩:=jc 0 _ _ rfl
   have dR:=dU cM kN
   refine km<|iC (dR.at_ 3 J) J J ei eR aq im dw ?_
   intro g0 x2 iP iY jw
   refine km<|qE dR 3 J iP J aq dw J J J fM (dR.rv 0 J) ?_
   let J5:=own w.heap.size 144 (.slice a0 (ja (I.length:Int)).length c0) (xs.set x0.toNat (eo x1 (j:Int)))
   intro w9 (dI:HI M w w9 [iL a4 (eo x1 (j:Int)) c4,iL a1 x1 c1,J4,J5,J3,J2,J1,J0])
   refine kz<|aH<|nx<|rg<|k<|add J J s9 J aS<|ak (v:=C ((j:Int)+1)) J J<|z ?_
   have cR:HI M w w9 (J4::J5::J3::bf):=dI.bX [2,3,4,5,6,7] aw J
   refine bB _ ?_ ⟨(j+1),(xs.set x0.toNat (eo x1 (j:Int))),J,s5,s6,s7,s8,(bH J),cR,aq,(by simpa using hl),(by exact acR hs aN aq aq aq cO)⟩
   omega
  have p1:=dF b1
  refine sk<|aH<|nx<|rg<|k<|add J J s4 J aS<|ak (v:=C ((j:Int)+1)) J J<|z<|bB _ ?_ ⟨(j+1),xs,J,s0,s1,s2,s3,(bH J),H7,aq,bu,(by rw[hs];exact agq aN aq)⟩
  omega
 have p0:=dF b0
 refine ex<|aW<|ba<|bh<|cQ<|k<|cC H7 0 J bp J s1 aw J<|k<|bA H7 2 J bp J J s0 J J J J ?_
 intro w6 (H8:HI M w w6 (J4::own w.heap.size 144 (.slice a0 (ja (I.length:Int)).length c0) xs::box bj #[C (oQ (I.length:Int)),R a0 (ja (I.length:Int)) c0] 26::bf))
 refine av<|rt<|py H8 2 J bp J J s0 J aw ?_
 have e0:(oQ (I.length:Int):Int)=(I.length:Int):=by rw[en]
 have e1:(xs:List (List bw))=oY I U:=by rw[hs];exact acS ey aq
 have l1:(ja (I.length:Int)).length=(oY I U).length:=by rw[er,qq,aaB];simp
 have bt:=nN (fun (cb:Int) (vD:Nat)=>(.agg #[C cb,.slice a0 vD c0]:Value)) e0 l1
 exact⟨a0,c0,bt,H8.below,(apj (fun (n_:Nat)=>bo _ _ _ (oY I U) (.slice a0 n_ c0) _) l1).mp ((apj (fun (x_:List (List bw))=>bo _ _ _ x_ (.slice a0 (ja (I.length:Int)).length c0) _) e1).mp (H8.dx 1 J))⟩
theorem Fm (hM:eC M w) (cW:cz M w aA az I) (fC:cz M w ay ax U) (ho:ij I) (dG:I.length≤4096) (ey:U.length=I.length) (fP:∀x∈U,x<((I.length:Nat):Int)):Calls aM 59 #[.agg #[.slice aC aF aB,R aA I az,R ay U ax]] w (ck fun v w'=>∃(a0:OA) (c0:Nat),v=.agg #[C (I.length:Int),.slice a0 (kA I U).length c0]∧Ext w w'∧RV M w' (.slice a0 (kA I U).length c0) (kA I U)):=by
 refine dv 14 Tryz.func59 J J J hM fun f0 ha H=>?_
 let J0:=iL aA I az
 have H0:=H.put (it:=J0) J<|by rw[bQ];exact cW
 let J1:=iL ay U ax
 have H1:=H0.put (it:=J1) J<|by rw[aG rfl,bQ];exact fC
 have i0:f0 0=.agg #[.slice aC aF aB,R aA I az,R ay U ax]:=ha 0 bm
 refine aD<|k<|bx H1 J i0 ?_
 intro aX w0 bY (H2:HI M w w0 [box aX #[.slice aC aF aB,R aA I az,R ay U ax] 47,J1,J0])
 let J2:=box aX #[.slice aC aF aB,R aA I az,R ay U ax] 47
 refine k<|al H2 bp ?_
 intro bj w1 cS (H3:HI M w w1 [box bj #[C 0,.slice none 0 0] 26,J2,J1,J0])
 refine av<|sq<|mw [.r,.r,.r,.r,.r,.r,.r,.s,.n,.e,.s] (fun _=>True) J aV (fun _ _=>trivial)<|yq J J<|kq (fun _ x_=>cC (H3.ext x_) 1 J dt J J aw J e1)<|zq<|yu J (fun N v w'=>∃(a0:OA) (c0:Nat),v=.agg #[C (I.length:Int),R a0 (pa I) c0]∧RV (MN H3.eI N) w' (R a0 (pa I) c0) (pa I)) J kZ J (fun v_ _ x_ n_=>have df:=QO (I:=I) (aC:=aC) (aF:=aF) (aB:=aB) (ay:=ay) (dY:=U.length) (ax:=ax) (w:=v_) (kR H3.mb x_ n_) (kv (H3.rv 3 J) x_ n_) (by exact ho) (by exact dG);ca akl rfl (ec J e0) df (fun _ w3 ⟨a1,c1,e_,fg,dH⟩=>⟨_,J,fg,⟨a1,c1,e_,(bo.rv dH<|kR H3.mb x_ n_)⟩⟩))<|yq J J<|kq (fun _ x_=>cC (H3.ext x_) 1 J dt J J aw J e1)<|zq<|yu J (fun N v w'=>∃(a2:OA) (c2:Nat),v=.agg #[C (I.length:Int),R a2 (oY I U) c2]∧RV (MN H3.eI N) w' (R a2 (oY I U) c2) (oY I U)) J kZ J (fun v_ _ x_ n_=>have fc:=XQ (I:=I) (U:=U) (aC:=aC) (aF:=aF) (aB:=aB) (w:=v_) (kR H3.mb x_ n_) (kv (H3.rv 3 J) x_ n_) (kv (H3.rv 2 J) x_ n_) (by exact dG) (by exact ey) (by exact fP);ca akk rfl (ec J e0) fc (fun _ w5 ⟨a3,c3,e_,je,jK⟩=>⟨_,J,je,⟨a3,c3,e_,(bo.rv jK<|kR H3.mb x_ n_)⟩⟩))<|yu2 J (fun N v w'=>∃(a6:OA) (c6:Nat),v=.tuple #[.agg #[C (tN (I.length:Int) (I.length:Int)),R a6 (mc (I.length:Int) (pa I) (I.length:Int)<|oY I U) c6],C (yg (I.length:Int) (I.length:Int))]∧RV (MN H3.eI N) w' (R a6 (mc (I.length:Int) (pa I) (I.length:Int)<|oY I U) c6) (mc (I.length:Int) (pa I) (I.length:Int)<|oY I U)) 1 0 J J J kZ J (fun v_ _ _ _ x_ n_ h_ k_=>let ⟨a7,c7,s0,qT⟩:=h_;let ⟨a8,c8,s1,nR⟩:=k_;have mx:=adk (an:=(I.length:Int)) (ar:=(pa I)) (bn:=(I.length:Int)) (br:=(oY I U)) (w:=v_) (kR H3.mb x_ n_) aS qT aS nR (by exact(Hf aq _).1) (by exact(Hf aq _).2) aq (by exact(Hf aq _).1) (by exact(Hf aq _).2) aq;ca akm rfl (ec s0<|ec s1 e0) mx (fun _ w7 ⟨a9,c9,e_,lk,mA⟩=>⟨_,J,lk,⟨a9,c9,e_,(bo.rv mA<|kR H3.mb x_ n_)⟩⟩))<|lP J (fun N v w'=>∃(jy:OA) (jx:Nat),v=.tuple #[.agg #[C (tN (I.length:Int) (I.length:Int)),R jy (mc (I.length:Int) (pa I) (I.length:Int)<|oY I U) jx],C (yg (I.length:Int) (I.length:Int))]∧RV (MN H3.eI N) w' (R jy (mc (I.length:Int) (pa I) (I.length:Int)<|oY I U) jx) (mc (I.length:Int) (pa I) (I.length:Int)<|oY I U)) 0 J J kZ J (fun _ _ _ _ _ h_=>let ⟨mW,mU,s2,qx⟩:=h_;mv rfl s2 ⟨_,J,Ext.refl _,⟨mW,mU,J,qx⟩⟩)<|lP J (fun N v w'=>∃(a12:OA) (pD:Nat),v=.agg #[C (tN (I.length:Int) (I.length:Int)),R a12 (mc (I.length:Int) (pa I) (I.length:Int)<|oY I U) pD]∧RV (MN H3.eI N) w' (R a12 (mc (I.length:Int) (pa I) (I.length:Int)<|oY I U) pD) (mc (I.length:Int) (pa I) (I.length:Int)<|oY I U)) 0 J J kZ J (fun _ _ _ _ _ h_=>let ⟨j3,j2,s3,Br⟩:=h_;xt rfl s3 rfl ⟨_,J,Ext.refl _,⟨j3,j2,J,Br⟩⟩)<|Sn J (X:=C (yg (I.length:Int) (I.length:Int))) 1 J J (fun _ _ _ _ _ h_=>let ⟨KF,Kz,s4,QQ⟩:=h_;xt rfl s4 rfl e1)<|yn (z:=#[C 0,.slice none 0 0]) J J (fun _=>Qt bp)<|ye<|yq J J<|kq (fun _ _=>jV (v:=C (yg (I.length:Int) (I.length:Int))) J J e1)<|zq<|yz ?_
 intro w8 f0 _ lj _ _ cG jc
 obtain⟨fj,s5,DN,tm,Co⟩:=jc 0 _ _ rfl
 have qb:=Qj (z:=#[C 0,.slice none 0 0]) (T:=26) DN tm Co<|Qk
 let bf:=[box bj #[C 0,.slice none 0 0] 26,J2,J1,J0]
 have H7:HI M w w8 (box fj #[C 0,.slice none 0 0] 26::bf):=H3.Ez lj qb<|PB PA PC
 have s6:=cG 2 J
 obtain⟨KE,Ky,s7,acK⟩:=jc 1 _ _ rfl
 let J3:=iL KE (mc (I.length:Int) (pa I) (I.length:Int) (oY I U)) Ky
 have H8:=H7.put (it:=J3) J<|sJ acK qb
 refine km<|bA H8 1 J bp J J s5 s7 J J J ?_
 let J4:=box fj #[C (tN (I.length:Int) (I.length:Int)),R KE (mc (I.length:Int) (pa I) (I.length:Int) (oY I U)) Ky] 26
 intro w9 (H9:HI M w w9 (J3::J4::bf))
 refine kz<|cQ<|k<|cC H9 1 J bp J s5 aw J<|k<|bA H9 2 J bp J J s6 J J J J ?_
 intro dL (dB:HI M w dL [J3,J4,box bj #[C (tN (I.length:Int) (I.length:Int)),R KE (mc (I.length:Int) (pa I) (I.length:Int) (oY I U)) Ky] 26,J2,J1,J0])
 refine av<|rt<|py dB 2 J bp J J s6 J aw ?_
 have e0:(tN (I.length:Int) (I.length:Int):Int)=(I.length:Int):=by exact(ZJ I U).1
 have e1:(mc (I.length:Int) (pa I) (I.length:Int) (oY I U):List (List bw))=kA I U:=by exact(ZJ I U).2
 have bt:=nN (fun (cb:Int) (dK:List (List bw))=>(.agg #[C cb,.slice KE dK.length Ky]:Value)) e0 e1
 exact⟨KE,Ky,bt,dB.below,(apj (fun (x_:List (List bw))=>RV _ _ (.slice KE x_.length Ky) x_) e1).mp (dB.fz 0 J)⟩
theorem B8 (hM:eC M w) (cW:cz M w aA az I) (fC:cz M w ay ax U) (ho:ij I) (dG:I.length≤4096) (ey:U.length=I.length) (fP:∀x∈U,x<((I.length:Nat):Int)):Calls aM 32 #[.agg #[.slice aC aF aB,R aA I az,R ay U ax]] w (ck fun v w'=>∃(a0:OA) (c0:Nat),v=.agg #[C (I.length:Int),.slice a0 (cA I U).length c0]∧Ext w w'∧RV M w' (.slice a0 (cA I U).length c0) (cA I U)):=by
 refine dv 6 Tryz.func32 J J J hM fun f0 ha H=>?_
 have H0:=dU H cW
 have H1:=dU H0 fC
 have i0:f0 0=.agg #[.slice aC aF aB,R aA I az,R ay U ax]:=ha 0 bm
 refine aD<|k<|bx H1 J i0 ?_
 let bf:=[iL ay U ax,iL aA I az]
 intro aX w0 bY (H2:HI M w w0 (box aX #[.slice aC aF aB,R aA I az,R ay U ax] 47::bf))
 let J0:=box aX #[.slice aC aF aB,R aA I az,R ay U ax] 47
 refine k<|al H2 bp ?_
 intro bj w1 cS (H3:HI M w w1 (box bj #[C 0,.slice none 0 0] 26::J0::bf))
 refine bz<|k<|cC H3 1 J dt J J aw J<|k ?_
 have bT:=Fm (I:=I) (U:=U) (aC:=aC) (aF:=aF) (aB:=aB) H3.mb (H3.rv 3 J) (H3.rv 2 J) (by exact ho) (by exact dG) (by exact ey)<|by exact fP
 refine ca aeY J (ec J e0) bT ?_
 rintro _ w2 ⟨a0,c0,rfl,fm,cm⟩
 have H4:=H3.ext fm
 have H5:=dU H4 cm
 refine k ?_
 have df:=xr (mn:=(I.length:Int)) (mr:=(kA I U)) H5.mb aS (H5.rv 0 J)<|by exact Nz U dG
 refine ca RM J (ec J e0) df ?_
 rintro _ w3 ⟨a1,c1,rfl,fg,dN⟩
 have H6:=H5.eU dN
 refine k<|bA H6 2 J bp J J J J J J J ?_
 intro w4 (H7:HI M w w4 (oL w 144 a1 (fl (I.length:Int) (kA I U)) c1::iL a0 (kA I U) c0::box bj #[C (I.length:Int),R a1 (fl (I.length:Int) (kA I U)) c1] 26::J0::bf))
 refine av<|rt<|py H7 2 J bp J J J J aw ?_
 have e1:(fl (I.length:Int) (kA I U):List (List bw))=cA I U:=by exact XK I U
 have bt:=iD (fun (dK:List (List bw))=>(.agg #[C (I.length:Int),.slice a1 dK.length c1]:Value)) e1
 exact⟨a1,c1,bt,H7.below,(apj (fun (x_:List (List bw))=>RV _ _ (.slice a1 x_.length c1) x_) e1).mp (H7.mD 0 J)⟩
theorem Ou (H:HI M w w_ ([oL w 3 ee xs dW]++r)):Calls aM 177 #[R ee xs dW] w_ (ck fun v w'=>v=.tuple #[]∧HI M w w' ([own w.heap.size 3 (R ee xs dW) xs.reverse]++r)):=by
 refine enter 28 Tryz.func177 J J J fun f0 ha=>?_
 have Hg:=kr<|H.at_ 0 J
 have i0:f0 0=R ee xs dW:=ha 0 bm
 refine aD<|ak J i0<|k<|dP J J cw<|k<|sub J J J J aS<|au (v:=C 0) J J<|au (v:=C ((xs.length:Int)-1)) J J<|av<|bk<|lp (fun m f w'=>∃(q:Nat) (ys:aE),m=xs.length-q∧f 0=R ee xs dW∧f 2=C (q:Int)∧f 3=C ((xs.length:Int)-1-(q:Int))∧HI M w w' ([own w.heap.size 3 (.slice ee xs.length dW) ys]++r)∧(q+q≤xs.length+1)∧(ys.length=xs.length)∧(ys=tK xs q)) _ ⟨0,xs,J,i0,(bH J),(bH J),H,aq,(by rfl),(by exact QY xs)⟩ ?_
 rintro _ f0 w0 ⟨q,ys,rfl,s0,s1,s2,H0,tg,uv,hs⟩
 refine sq<|aD<|ak J s1<|ak J s2<|k<|lss J J J J<|z<|nx<|cd (b:=decide ((q:Int)<((xs.length:Int)-1-(q:Int)))) J J (fun b0=>?_)<|fun b0=>?_
 ·
  have p0:=dT b0
  refine sk<|nx<|sq<|bk<|mw [.r,.r,.s,.s,.r,.r,.r,.r,.r,.r,.r,.r,.e,.e,.e,.e] (fun _=>True) J aV (fun _ _=>trivial)<|yq J J<|kq (fun _ _=>mv J s0 e1)<|bS<|kq (fun _ _=>mv J s1 e1)<|bS<|kq (fun _ _=>mv J s0 e1)<|bS<|kq (fun _ _=>mv J s2 e1)<|bS<|kq (fun _ _=>mv J s0 e1)<|bS<|kq (fun _ _=>mv J s2 e1)<|bS<|tL (H0.at_ 0 J) J J J J aq cw aT ?_
  intro iy x0 aN cB
  refine bS<|mC cB aT J J ?_
  intro cm
  refine bS<|kq (fun _ _=>mv J s0 e1)<|bS<|kq (fun _ _=>mv J s1 e1)<|bS<|tL (H0.at_ 0 J) J J J J aq cw aT ?_
  intro mV x1 cO gx
  refine bS<|mC gx aT J J ?_
  intro dN
  refine zq<|ye<|ye<|ye<|ye<|yz ?_
  intro w1 f1 _ bY _ _ cG jc
  have H1:=H0.ext bY
  have s3:=(cG 0 J).trans s0
  have s4:=(cG 2 J).trans s1
  have s5:=(cG 3 J).trans s2
  have s6:=cG 14 J
  have s7:=cG 15 J
  have s8:=cG 16 J
  have s9:=cG 17 J
  have ei:=cG 21 J
  have eR:=cG 25 J
  refine km<|iC (H1.at_ 0 J) J J s6 s7 aq cw aT ?_
  intro g0 x2 iP iY jw
  refine km<|qE H1 0 J iP J aq aT J J J ei (RV.int.2 ⟨J,bu⟩) ?_
  intro w2 (H2:HI M w w2 ([own w.heap.size 3 (.slice ee xs.length dW) (ys.set ((q:Int).toNat) x0)]++r))
  refine km<|iC (H2.at_ 0 J) J J s8 s9 (by simp only[apk];omega) cw aT ?_
  intro g1 x3 kT nr qe
  refine km<|qE H2 0 J kT J (by simp only[apk];omega) aT J J J eR (RV.int.2 ⟨J,bu⟩) ?_
  intro w3 (H3:HI M w w3 ([own w.heap.size 3 (.slice ee xs.length dW) ((ys.set ((q:Int).toNat) x0).set (((xs.length:Int)-1-(q:Int)).toNat) x1)]++r))
  refine kz<|aH<|nx<|rg<|ak J s4<|k<|add J J J J aS<|ak J s5<|k<|sub J J J J aS<|au (v:=C ((q:Int)+1)) J J<|au (v:=C (((xs.length:Int)-1-(q:Int))-1)) J J<|z<|bB _ ?_ ⟨(q+1),((ys.set ((q:Int).toNat) x0).set (((xs.length:Int)-1-(q:Int)).toNat) x1),J,s3,(bH J),(bH J),H3,aq,(by simp only[apk];exact uv),(by exact Ov hs aq aN aq cO)⟩
  omega
 have p0:=dF b0
 refine ex<|aW<|ba<|bh<|EX J ?_
 have e0:(ys:List _)=xs.reverse:=by exact S_ hs aq
 try rw[←e0]
 refine⟨?_,?_⟩
 · first|rfl|simp only[e0]|(simp only[apk])
 · first|exact H0|simpa +zetaDelta only[e0,apk] using H0
theorem agR:cD aM 177:=cE Tryz.func177
theorem Tk {N6:OA} {NM:Nat} {vb:aE} (hM:eC M w) (aeD:cz M w N6 NM vb) (rp:aK i) (Cw:aK j) (E':Bk vb i j (wc vb i j)) (Cv:(wc vb i j).length≤4097):Calls aM 155 #[R N6 vb NM,C i,C j] w (ck fun v w'=>∃(a0:OA) (c0:Nat),v=.slice a0 (wc vb i j).length c0∧Ext w w'∧bo M 3 w (wc vb i j) (.slice a0 (wc vb i j).length c0) w'):=by
 refine dv 29 Tryz.func155 J J J hM fun f0 ha H=>?_
 let J0:=iL N6 vb NM
 have H0:=H.put (it:=J0) J<|by rw[bQ];exact aeD
 have ant:=bg aeD
 have i0:f0 0=R N6 vb NM:=ha 0 bm
 have i1:f0 1=C i:=ha 1 bm
 have i2:f0 2=C j:=ha 2 bm
 have anC:=E'.len;have anH:=Vj E' E'.last
 refine aD<|au (v:=.slice none 0 0) J J<|bz<|ak J i2<|k<|bs (xs:=([j]:aE)) (cells:=#[C j]) (e:=3) H0 J (ct J eA) (fun _=>aV) ⟨[C j],[],J,⟨J,Cw⟩,J⟩ J aw ?_
 intro g0 w0 bY H1
 refine au (v:=.slice (some ⟨g0,0,none⟩) 1 1) J J<|av<|sq<|aD<|ak J i0<|ak J i2<|k<|ia (H1.rv 1 J) J J J J aq cw aT ?_
 intro iy x0 aN cB
 refine k<|kF cB.w aT J J ?_
 intro cm
 refine au (v:=C x0) J J<|av<|bk<|lp (fun m f w'=>∃(t:Nat) (l:aE) (a:Int) (a0:OA) (c0:Nat),m=t+1∧f 0=R N6 vb NM∧f 1=C i∧f 7=R a0 l c0∧f 8=C a∧HI M w w' [oL w 3 a0 l c0,J0]∧(1≤t∧t<(wc vb i j).length)∧(l=((wc vb i j).drop t).reverse)∧((wc vb i j)[t-1]? =some a)) _ ⟨((wc vb i j).length-1),[j],x0,(some ⟨g0,0,none⟩),1,J,i0,i1,J,(bH J),H1,aq,(by exact abG E'),(by exact XU E' aN)⟩ ?_
 rintro _ f0 w1 ⟨t,l,a,a0,c0,rfl,s0,s1,s2,s3,H2,ht,hs,gS⟩
 refine sq<|bk<|sq ?_
 have hL_:l.length=(wc vb i j).length-t:=by rw[hs];simp
 have ha_:=Vj E' gS
 refine rg<|ak J s2<|ak J s3<|k<|bs (xs:=([a]:aE)) (cells:=#[C a]) (e:=3) H2 J (ct J eA) (fun _=>aV) ⟨[C a],[],J,⟨J,(show aK (a) from aS)⟩,J⟩ J aw ?_
 intro g1 w2 cS H3
 refine k<|l7 H3 1 J J J J J J (hG<|H3.at_ 0 J) cw aT J (by simp;omega) J ?_
 let J1:=own w.heap.size 3 (.slice (some ⟨g1,0,none⟩) 1 1) ([a]:aE)
 intro a1 c1 w3 (H4:HI M w w3 [J1,oL w 3 a1 (l++([a]:aE)) c1,J0])
 refine au (v:=R a1 (l++([a]:aE)) c1) J J<|bz<|ak J s3<|ak J s1<|k<|eql J J J J<|z<|nx<|cd (b:=decide (a=i)) J J (fun b0=>?_)<|fun b0=>?_
 ·
  have p0:=dT b0
  refine ex<|W2 aw<|aW<|ba<|bh<|cQ<|ak (v:=R a1 (l++([a]:aE)) c1) J J<|k ?_
  have H5:HI M w w3 ([oL w 3 a1 (l++([a]:aE)) c1]++[J1,J0]):=H4.bX [1,0,2] aw J
  have bT:=Ou (ee:=a1) (dW:=c1) (xs:=(l++([a]:aE))) (w:=w) (w_:=w3) (r:=[J1,J0]) (M:=M) H5
  refine ca agR J (ec J e0) bT ?_
  rintro _ w4 ⟨rfl,H6⟩
  have H7:HI M w w4 [own w.heap.size 3 (.slice a1 (l++([a]:aE)).length c1) ((l++([a]:aE)).reverse),J1,J0]:=H6
  refine bz<|ak (v:=R a1 (l++([a]:aE)) c1) J J<|au (v:=R a1 (l++([a]:aE)) c1) J J<|av<|rt<|r1 J J ?_
  have e0:(((l++([a]:aE)).reverse):aE)=wc vb i j:=by exact afu E' aq aq gS bu hs
  have l0:(l++([a]:aE)).length=(wc vb i j).length:=by rw[←e0];simp
  have bt:=iD (fun (vE:Nat)=>(.slice a1 vE c1:Value)) l0
  exact⟨a1,c1,bt,H7.below,(apj (fun (n_:Nat)=>bo _ _ _ (wc vb i j) (.slice a1 n_ c1) _) l0).mp ((apj (fun (x_:aE)=>bo _ _ _ x_ (.slice a1 (l++([a]:aE)).length c1) _) e0).mp (H7.dx 0 J))⟩
 have p0:=dF b0
 refine sk<|aH<|nx<|rg<|ak J s0<|ak J s3<|k<|ia (H4.rv 2 J) J J J J aq cw aT ?_
 intro mV x1 cO gx
 refine k<|kF gx.w aT J J ?_
 intro dN
 refine au (v:=C x1) J J<|z ?_
 have H5:HI M w w3 [oL w 3 a1 (l++([a]:aE)) c1,J0]:=H4.bX [1,2] aw J
 refine bB _ ?_ ⟨(t-1),(l++([a]:aE)),x1,a1,c1,J,s0,s1,J,(bH J),H5,(by have h_:=ZP E' aq gS bu;omega),(by exact Qn E' aq aq gS hs),(by exact abH E' aq aq gS bu cO)⟩
 omega
theorem agO:cD aM 190:=cE Tryz.func190
theorem agS:cD aM 176:=cE Tryz.func176
theorem agw (cO:x=1#64):Calls aM 190 #[aj x,aj y] w (ck fun v w'=>v=.tuple #[aj (0#64),aj y]∧Ext w w'):=by
 refine dv 51 Tryz.func190 J J J qF fun f0 ha H=>?_
 have i0:f0 0=aj x:=ha 0 bm
 have i1:f0 1=aj y:=ha 1 bm
 refine aD<|au (v:=aj (0#64)) J J<|au (v:=aj (0#64)) J J<|bz<|ak J i0<|k<|D' x (4294967295#64) J J J J<|au (v:=aj (x &&& (4294967295#64))) J J<|bz<|ak J i0<|k<|Er x 32 J J J J<|au (v:=aj (x >>> 32)) J J<|bz<|ak J i1<|k<|D' y (4294967295#64) J J J J<|au (v:=aj (y &&& (4294967295#64))) J J<|bz<|ak J i1<|k<|Er y 32 J J J J<|au (v:=aj (y >>> 32)) J J<|bz<|ak (v:=aj (x &&& (4294967295#64))) J J<|ak (v:=aj (y &&& (4294967295#64))) J J<|k<|F3 (x &&& (4294967295#64)) (y &&& (4294967295#64)) J J J J<|au (v:=aj ((x &&& (4294967295#64))*(y &&& (4294967295#64)))) J J<|bz<|ak (v:=aj (x >>> 32)) J J<|ak (v:=aj (y &&& (4294967295#64))) J J<|k<|F3 (x >>> 32) (y &&& (4294967295#64)) J J J J<|ak (v:=aj ((x &&& (4294967295#64))*(y &&& (4294967295#64)))) J J<|k<|Er ((x &&& (4294967295#64))*(y &&& (4294967295#64))) 32 J J J J<|k<|Ji ((x >>> 32)*(y &&& (4294967295#64))) (((x &&& (4294967295#64))*(y &&& (4294967295#64))) >>> 32) J J J J<|au (v:=aj (((x >>> 32)*(y &&& (4294967295#64)))+(((x &&& (4294967295#64))*(y &&& (4294967295#64))) >>> 32))) J J<|bz<|ak (v:=aj (((x >>> 32)*(y &&& (4294967295#64)))+(((x &&& (4294967295#64))*(y &&& (4294967295#64))) >>> 32))) J J<|k<|D' (((x >>> 32)*(y &&& (4294967295#64)))+(((x &&& (4294967295#64))*(y &&& (4294967295#64))) >>> 32)) (4294967295#64) J J J J<|au (v:=aj ((((x >>> 32)*(y &&& (4294967295#64)))+(((x &&& (4294967295#64))*(y &&& (4294967295#64))) >>> 32)) &&& (4294967295#64))) J J<|bz<|ak (v:=aj (((x >>> 32)*(y &&& (4294967295#64)))+(((x &&& (4294967295#64))*(y &&& (4294967295#64))) >>> 32))) J J<|k<|Er (((x >>> 32)*(y &&& (4294967295#64)))+(((x &&& (4294967295#64))*(y &&& (4294967295#64))) >>> 32)) 32 J J J J<|au (v:=aj ((((x >>> 32)*(y &&& (4294967295#64)))+(((x &&& (4294967295#64))*(y &&& (4294967295#64))) >>> 32)) >>> 32)) J J<|bz<|ak (v:=aj ((((x >>> 32)*(y &&& (4294967295#64)))+(((x &&& (4294967295#64))*(y &&& (4294967295#64))) >>> 32)) &&& (4294967295#64))) J J<|ak (v:=aj (x &&& (4294967295#64))) J J<|ak (v:=aj (y >>> 32)) J J<|k<|F3 (x &&& (4294967295#64)) (y >>> 32) J J J J<|k<|Ji ((((x >>> 32)*(y &&& (4294967295#64)))+(((x &&& (4294967295#64))*(y &&& (4294967295#64))) >>> 32)) &&& (4294967295#64)) ((x &&& (4294967295#64))*(y >>> 32)) J J J J<|au (v:=aj (((((x >>> 32)*(y &&& (4294967295#64)))+(((x &&& (4294967295#64))*(y &&& (4294967295#64))) >>> 32)) &&& (4294967295#64))+((x &&& (4294967295#64))*(y >>> 32)))) J J<|bz<|ak (v:=aj (x >>> 32)) J J<|ak (v:=aj (y >>> 32)) J J<|k<|F3 (x >>> 32) (y >>> 32) J J J J<|ak (v:=aj ((((x >>> 32)*(y &&& (4294967295#64)))+(((x &&& (4294967295#64))*(y &&& (4294967295#64))) >>> 32)) >>> 32)) J J<|k<|Ji ((x >>> 32)*(y >>> 32)) ((((x >>> 32)*(y &&& (4294967295#64)))+(((x &&& (4294967295#64))*(y &&& (4294967295#64))) >>> 32)) >>> 32) J J J J<|ak (v:=aj (((((x >>> 32)*(y &&& (4294967295#64)))+(((x &&& (4294967295#64))*(y &&& (4294967295#64))) >>> 32)) &&& (4294967295#64))+((x &&& (4294967295#64))*(y >>> 32)))) J J<|k<|Er (((((x >>> 32)*(y &&& (4294967295#64)))+(((x &&& (4294967295#64))*(y &&& (4294967295#64))) >>> 32)) &&& (4294967295#64))+((x &&& (4294967295#64))*(y >>> 32))) 32 J J J J<|k<|Ji (((x >>> 32)*(y >>> 32))+((((x >>> 32)*(y &&& (4294967295#64)))+(((x &&& (4294967295#64))*(y &&& (4294967295#64))) >>> 32)) >>> 32)) ((((((x >>> 32)*(y &&& (4294967295#64)))+(((x &&& (4294967295#64))*(y &&& (4294967295#64))) >>> 32)) &&& (4294967295#64))+((x &&& (4294967295#64))*(y >>> 32))) >>> 32) J J J J<|au (v:=aj ((((x >>> 32)*(y >>> 32))+((((x >>> 32)*(y &&& (4294967295#64)))+(((x &&& (4294967295#64))*(y &&& (4294967295#64))) >>> 32)) >>> 32))+((((((x >>> 32)*(y &&& (4294967295#64)))+(((x &&& (4294967295#64))*(y &&& (4294967295#64))) >>> 32)) &&& (4294967295#64))+((x &&& (4294967295#64))*(y >>> 32))) >>> 32))) J J<|bz<|ak J i0<|ak J i1<|k<|F3 x y J J J J<|au (v:=aj (x*y)) J J<|av<|rt<|r2 J J J ?_
 have e0:((((x >>> 32)*(y >>> 32))+((((x >>> 32)*(y &&& (4294967295#64)))+(((x &&& (4294967295#64))*(y &&& (4294967295#64))) >>> 32)) >>> 32))+((((((x >>> 32)*(y &&& (4294967295#64)))+(((x &&& (4294967295#64))*(y &&& (4294967295#64))) >>> 32)) &&& (4294967295#64))+((x &&& (4294967295#64))*(y >>> 32))) >>> 32):bw)=0#64:=by exact aaR cO
 have e1:(x*y:bw)=y:=by rw[cO];simp
 have bt:=nN (fun (cb:bw) (dK:bw)=>(.tuple #[aj cb,aj dK]:Value)) e0 e1
 exact⟨bt,H.below⟩
theorem mul (cO:x=1#64):Calls aM 176 #[aj x,aj y] w (ck fun v w'=>v=.tuple #[aj (0#64),aj y]∧Ext w w'):=by
 refine dv 30 Tryz.func176 J J J qF fun f0 ha H=>?_
 have i0:f0 0=aj x:=ha 0 bm
 have i1:f0 1=aj y:=ha 1 bm
 refine aD<|au (v:=aj (0#64)) J J<|au (v:=aj (0#64)) J J<|av<|sq<|nB J J J<|sk<|cQ<|ak J i0<|ak J i1<|k ?_
 have bT:=agw (x:=x) (y:=y) (w:=w) aq
 refine ca agO J (ec J<|ec J e0) bT ?_
 rintro _ w0 ⟨rfl,bY⟩
 have H0:=H.ext bY
 refine ak (v:=.tuple #[aj (0#64),aj y]) J J<|k<|xt J J J<|k<|xt J J J<|au (v:=aj (0#64)) J J<|au (v:=aj y) J J<|bz<|ak (v:=aj (0#64)) J J<|ak (v:=aj y) J J<|au (v:=aj (0#64)) J J<|au (v:=aj y) J J<|av<|rt<|r2 J J J ?_
 exact⟨J,H0.below⟩
theorem Q0 (hM:eC M w) (aeA:cz M w ee dW xs) (Ni:aK n) (cO:xs.length=1) (Co:1≤n) (T_:n≤4096):Calls aM 154 #[R ee xs dW,C n] w (ck fun v w'=>∃(a0:OA) (c0:Nat),v=.slice a0 (List.replicate n.toNat (xs.headD 0)).length c0∧Ext w w'∧bo M 3 w (List.replicate n.toNat (xs.headD 0)) (.slice a0 (List.replicate n.toNat (xs.headD 0)).length c0) w'):=by
 refine dv 48 Tryz.func154 J J J hM fun f0 ha H=>?_
 let J0:=iL ee xs dW
 have H0:=H.put (it:=J0) J<|by rw[bQ];exact aeA
 have Hg:=bg aeA
 have i0:f0 0=R ee xs dW:=ha 0 bm
 have i1:f0 1=C n:=ha 1 bm
 refine aD<|au (v:=.slice none 0 0) J J<|av<|sq<|aD<|ak J i1<|k<|lss J J J J<|z<|nx ?_
 have Cj:(decide (n<0))=false:=(by rw[apA];omega)
 refine nB J J Cj<|sk<|cQ<|ak J i0<|k<|dP J J cw<|k<|Qe J J CN Ep<|ak J i1<|k<|Qe J J CN Ep<|k ?_
 have bT:=mul (x:=(BitVec.ofInt 64 (xs.length:Int))) (y:=(BitVec.ofInt 64 n)) (w:=w)<|by rw[cO];rfl
 refine ca agS J (ec J<|ec J e0) bT ?_
 rintro _ w0 ⟨rfl,bY⟩
 have H1:=H0.ext bY
 refine ak (v:=.tuple #[aj (0#64),aj (BitVec.ofInt 64 n)]) J J<|k<|xt J J J<|k<|xt J J J<|au (v:=aj (0#64)) J J<|au (v:=aj (BitVec.ofInt 64 n)) J J<|av<|sq<|aD<|ak (v:=aj (0#64)) J J<|k<|Zs (0#64) (0#64) J J J J<|ak (v:=.bool (decide ((0#64).toNat<(0#64).toNat))) J J ?_
 have LI:(decide ((0#64).toNat<(0#64).toNat))=false:=aw
 refine bl J J J LI<|mv (v:=aj (BitVec.ofInt 64 n)) J J<|bl J J J LI<|Zs (BitVec.ofInt 64 n) (9223372036854775807#64) J J J J<|k<|cU J J J J LI J<|z<|nx ?_
 have tr2:(decide ((9223372036854775807#64).toNat<(BitVec.ofInt 64 n).toNat))=false:=(by rw[apA,IG aq T_];simp;omega)
 refine nB J J tr2<|sk<|nx<|sq ?_
 have DM:=IG (n:=n) aq T_
 refine rg<|ak (v:=aj (BitVec.ofInt 64 n)) J J<|k<|cvI J J aS Ep CN<|k<|mk (m:=(BitVec.ofInt 64 n).toNat) (zx:=(0:Int)) H1 J J J J cw aT (fun _ _=>⟨J,by unfold aK;omega⟩) aq aq ?_
 intro g0 w1 cS (H2:HI M w w1 [own w.heap.size 3 (.slice (some ⟨g0,0,none⟩) ((BitVec.ofInt 64 n).toNat) ((BitVec.ofInt 64 n).toNat)) (List.replicate ((BitVec.ofInt 64 n).toNat) (0:Int)),J0])
 refine au (v:=.slice (some ⟨g0,0,none⟩) ((BitVec.ofInt 64 n).toNat) ((BitVec.ofInt 64 n).toNat)) J J<|bz<|ak (v:=.slice (some ⟨g0,0,none⟩) ((BitVec.ofInt 64 n).toNat) ((BitVec.ofInt 64 n).toNat)) J J<|ak J i0<|k<|ak8 H2 0 J J J J J J (H2.rv 1 J).src cw aT (by have h_:=IG (n:=n) aq T_;rw[oI,h_];omega) aq ?_
 intro w2 (H3:HI M w w2 [own w.heap.size 3 (.slice (some ⟨g0,0,none⟩) ((BitVec.ofInt 64 n).toNat) ((BitVec.ofInt 64 n).toNat)) (xs++(List.replicate ((BitVec.ofInt 64 n).toNat) (0:Int)).drop xs.length),J0])
 refine au (v:=C (xs.length:Int)) J J<|av<|sq<|bk<|lp (fun m f w'=>∃(q:Nat) (ys:aE),m=n.toNat-q∧f 7=.slice (some ⟨g0,0,none⟩) ((BitVec.ofInt 64 n).toNat) ((BitVec.ofInt 64 n).toNat)∧f 8=C (q:Int)∧HI M w w' [own w.heap.size 3 (.slice (some ⟨g0,0,none⟩) ((BitVec.ofInt 64 n).toNat) ((BitVec.ofInt 64 n).toNat)) ys,J0]∧(1≤q∧q≤n.toNat)∧(ys.length=n.toNat)∧(ys.take q=List.replicate q (xs.headD 0))) _ ⟨1,(xs++(List.replicate ((BitVec.ofInt 64 n).toNat) (0:Int)).drop xs.length),J,J,(bH J),H3,aq,(by exact(JD (m:=n.toNat) cO aq<|by rw[oI,DM]).1),(by exact(JD (m:=n.toNat) cO aq<|by rw[oI,DM]).2)⟩ ?_
 rintro _ f0 w3 ⟨q,ys,rfl,s0,s1,H4,tg,uv,hs⟩
 refine sq<|aD<|ak J s1<|ak J s0<|k<|dP J J cw<|k<|lss J J J J<|z<|nx<|cd (b:=decide ((q:Int)<(((BitVec.ofInt 64 n).toNat):Int))) J J (fun b0=>?_)<|fun b0=>?_
 ·
  have p0:=dT b0
  refine sk<|nx<|bk ?_
  let J1:=own w.heap.size 3 (.slice (some ⟨g0,0,none⟩) ((BitVec.ofInt 64 n).toNat) ((BitVec.ofInt 64 n).toNat)) ys
  have H6:HI M w w3 [J0,J1]:=H4.bX [1,0] aw J
  let J2:=own w.heap.size 3 (.slice (some ⟨g0,0,none⟩) ((BitVec.ofInt 64 n).toNat) ((BitVec.ofInt 64 n).toNat)) (GD ys ((q:Int).toNat))
  refine XD [none,none,none,none,none,none,none,none,none,none,some 7] [0,0,0,6,0,0,48,126,255,511] [fun _=>[],fun _=>[],fun _=>[],fun _=>[],fun _=>[],fun _=>[],fun _=>[],fun v_=>[J2],fun _=>[],fun _=>[],fun _=>[J1]] [[],[],[],[10],[],[],[10],[10],[],[]] [fun v_=>v_=C (q:Int),fun v_=>v_=.slice (some ⟨g0,0,none⟩) ((BitVec.ofInt 64 n).toNat) ((BitVec.ofInt 64 n).toNat),fun v_=>v_=C (q:Int),fun v_=>v_=.slice (mj (some ⟨g0,0,none⟩) ((BitVec.ofInt 64 n).toNat) (q:Int).toNat) (((BitVec.ofInt 64 n).toNat)-(q:Int).toNat) ((BitVec.ofInt 64 n).toNat-(q:Int).toNat),fun v_=>v_=.slice (some ⟨g0,0,none⟩) ((BitVec.ofInt 64 n).toNat) ((BitVec.ofInt 64 n).toNat),fun v_=>v_=C (q:Int),fun v_=>v_=.slice (mj (some ⟨g0,0,none⟩) ((BitVec.ofInt 64 n).toNat) 0) ((q:Int).toNat) (BitVec.ofInt 64 n).toNat,fun v_=>v_=C ((min ((q:Int).toNat) (ys.length-((q:Int).toNat)):Nat):Int),fun v_=>v_=C ((q:Int)+((min ((q:Int).toNat) (ys.length-((q:Int).toNat)):Nat):Int)),fun v_=>v_=C ((q:Int)+((min ((q:Int).toNat) (ys.length-((q:Int).toNat)):Nat):Int))] [J0] J aV J H6 ?_ ?_
  ·
   refine⟨fun f1 w5 V_ eG l4 hp0 hq0 H7=>?_,?_⟩
   ·
    have H8:HI M w w5 ([J0]++eG):=(by have h_:HI M w w5 ([J0]++(eG)):=H7;exact h_)
    refine mv J ((hq0 9 _ J J<|by exact .inr rfl).trans s1) ?_
    exact⟨_,J,J,H8⟩
   refine⟨fun f2 w6 V_ eG Hw Ka JZ dB=>?_,?_⟩
   ·
    have cT:HI M w w6 ([J0]++eG):=(by have h_:HI M w w6 ([J0]++(eG)):=dB;exact h_)
    refine mv J ((Hw 7 J).trans s0) ?_
    exact⟨_,J,J,cT⟩
   refine⟨fun f3 w7 V_ eG gS vJ nK dq=>?_,?_⟩
   ·
    have cM:HI M w w7 ([J0]++eG):=(by have h_:HI M w w7 ([J0]++(eG)):=dq;exact h_)
    refine mv J ((nK 9 _ J J<|by exact .inr rfl).trans s1) ?_
    exact⟨_,J,J,cM⟩
   refine⟨fun f4 w8 V_ eG AO oJ E9 dI=>?_,?_⟩
   ·
    obtain⟨e0,q0⟩:=oJ 1 _ rfl rfl rfl
    have e1:V_ 1=.slice (some ⟨g0,0,none⟩) ((BitVec.ofInt 64 n).toNat) ((BitVec.ofInt 64 n).toNat):=q0
    have s2:f4 39=.slice (some ⟨g0,0,none⟩) ((BitVec.ofInt 64 n).toNat) ((BitVec.ofInt 64 n).toNat):=e0.trans e1
    obtain⟨e2,q1⟩:=oJ 2 _ rfl rfl rfl
    have e3:V_ 2=C (q:Int):=q1
    have s3:f4 40=C (q:Int):=e2.trans e3
    have cR:HI M w w8 ([J0,J1]++eG):=(by have h_:HI M w w8 ([J0]++([J1]++(eG))):=dI;exact h_)
    refine acm (cR.at_ 1 J) J J s2 s3 aq cw aT ?_
    exact⟨_,J,J,cR⟩
   refine⟨fun f5 w9 V_ eG Y3 rO E8 dV=>?_,?_⟩
   ·
    have cJ:HI M w w9 ([J0]++eG):=(by have h_:HI M w w9 ([J0]++(eG)):=dV;exact h_)
    refine mv J ((Y3 7 J).trans s0) ?_
    exact⟨_,J,J,cJ⟩
   refine⟨fun f6 dL V_ eG hs5 th hq5 dA=>?_,?_⟩
   ·
    have fe:HI M w dL ([J0]++eG):=(by have h_:HI M w dL ([J0]++(eG)):=dA;exact h_)
    refine mv J ((hq5 9 _ J J<|by exact .inr rfl).trans s1) ?_
    exact⟨_,J,J,fe⟩
   refine⟨fun f7 ew V_ eG hs6 pB hq6 gl=>?_,?_⟩
   ·
    obtain⟨e4,q2⟩:=pB 4 _ rfl rfl rfl
    have e5:V_ 4=.slice (some ⟨g0,0,none⟩) ((BitVec.ofInt 64 n).toNat) ((BitVec.ofInt 64 n).toNat):=q2
    have s4:f7 42=.slice (some ⟨g0,0,none⟩) ((BitVec.ofInt 64 n).toNat) ((BitVec.ofInt 64 n).toNat):=e4.trans e5
    obtain⟨e6,q3⟩:=pB 5 _ rfl rfl rfl
    have e7:V_ 5=C (q:Int):=q3
    have s5:f7 43=C (q:Int):=e6.trans e7
    have iR:HI M w ew ([J0,J1]++eG):=(by have h_:HI M w ew ([J0]++([J1]++(eG))):=gl;exact h_)
    refine acn (iR.at_ 1 J) J J s4 s5 aq cw aT ?_
    exact⟨_,J,J,iR⟩
   refine⟨fun f8 fq V_ eG hs7 ri hq7 mz=>?_,?_⟩
   ·
    obtain⟨e8,q4⟩:=ri 3 _ rfl rfl rfl
    have e9:V_ 3=.slice (mj (some ⟨g0,0,none⟩) ((BitVec.ofInt 64 n).toNat) (q:Int).toNat) (((BitVec.ofInt 64 n).toNat)-(q:Int).toNat) ((BitVec.ofInt 64 n).toNat-(q:Int).toNat):=q4
    have s6:f8 41=.slice (mj (some ⟨g0,0,none⟩) ((BitVec.ofInt 64 n).toNat) (q:Int).toNat) (((BitVec.ofInt 64 n).toNat)-(q:Int).toNat) ((BitVec.ofInt 64 n).toNat-(q:Int).toNat):=e8.trans e9
    obtain⟨U1,q5⟩:=ri 6 _ rfl rfl rfl
    have su:V_ 6=.slice (mj (some ⟨g0,0,none⟩) ((BitVec.ofInt 64 n).toNat) 0) ((q:Int).toNat) (BitVec.ofInt 64 n).toNat:=q5
    have s7:f8 44=.slice (mj (some ⟨g0,0,none⟩) ((BitVec.ofInt 64 n).toNat) 0) ((q:Int).toNat) (BitVec.ofInt 64 n).toNat:=U1.trans su
    have iA:HI M w fq ([J0,J1]++eG):=(by have h_:HI M w fq ([J0]++([J1]++(eG))):=mz;exact h_)
    refine ak9 iA 1 J J J J (q:=(q:Int).toNat) s6 s7 cw aT aq ?_
    intro iF (pF:HI M w iF ([J0,J2]++eG))
    exact⟨_,J,J,pF⟩
   refine⟨fun f9 jF V_ eG Y2 qI hq8 oO=>?_,?_⟩
   ·
    obtain⟨tp,q6⟩:=qI 0 _ rfl rfl rfl
    have sr:V_ 0=C (q:Int):=q6
    have s8:f9 38=C (q:Int):=tp.trans sr
    obtain⟨uc,q7⟩:=qI 7 _ rfl rfl rfl
    have ub:V_ 7=C ((min ((q:Int).toNat) (ys.length-((q:Int).toNat)):Nat):Int):=q7
    have s9:f9 45=C ((min ((q:Int).toNat) (ys.length-((q:Int).toNat)):Nat):Int):=uc.trans ub
    have j9:HI M w jF ([J0]++eG):=(by have h_:HI M w jF ([J0]++(eG)):=oO;exact h_)
    refine add J J s8 s9 aS ?_
    exact⟨_,J,J,j9⟩
   refine⟨fun f10 oU V_ eG hs9 rN hq9 lL=>?_,?_⟩
   ·
    obtain⟨e16,q8⟩:=rN 8 _ rfl rfl rfl
    have e17:V_ 8=C ((q:Int)+((min ((q:Int).toNat) (ys.length-((q:Int).toNat)):Nat):Int)):=q8
    have ei:f10 46=C ((q:Int)+((min ((q:Int).toNat) (ys.length-((q:Int).toNat)):Nat):Int)):=e16.trans e17
    have Ek:HI M w oU ([J0]++eG):=(by have h_:HI M w oU ([J0]++(eG)):=lL;exact h_)
    refine jV J ei ?_
    exact⟨_,J,J,Ek⟩
   exact trivial
  ·
   intro f11 wJ V_ adT lh wm
   obtain⟨U0,q9⟩:=lh 9 _ rfl rfl
   have e19:V_ 9=C ((q:Int)+((min ((q:Int).toNat) (ys.length-((q:Int).toNat)):Nat):Int)):=q9
   have eR:f11 8=C ((q:Int)+((min ((q:Int).toNat) (ys.length-((q:Int).toNat)):Nat):Int)):=U0.trans e19
   obtain⟨e20,vw⟩:=lh 7 _ rfl rfl
   have e21:V_ 7=C ((min ((q:Int).toNat) (ys.length-((q:Int).toNat)):Nat):Int):=vw
   have fL:=(adT 7 J).trans s0
   have nF:HI M w wJ [J0,J2]:=(by have h_:HI M w wJ ([J0]++([]++([]++([]++([]++([]++([]++([]++([J2]++([]++([]++([])))))))))))):=wm;exact h_)
   refine aH ?_
   have xg:HI M w wJ [J2,J0]:=nF.bX [1,0] aw J
   refine bB _ ?_ ⟨(q+min q (ys.length-q)),(GD ys<|(q:Int).toNat),J,fL,(bH eR),xg,aq,(by exact(XJ aq).trans uv),(by exact Wf hs uv aq)⟩
   omega
 have p0:=dF b0
 refine ex<|aW<|ba<|bh<|cQ<|ak J s0<|au (v:=.slice (some ⟨g0,0,none⟩) ((BitVec.ofInt 64 n).toNat) ((BitVec.ofInt 64 n).toNat)) J J<|av<|rt<|r1 J J ?_
 have e0:(ys:aE)=List.replicate n.toNat (xs.headD 0):=by exact aaC hs uv aq aq
 have l0:((BitVec.ofInt 64 n).toNat)=(List.replicate n.toNat (xs.headD 0)).length:=by rw[oI,DM]
 have bt:=iD (fun (vE:Nat)=>(.slice (some ⟨g0,0,none⟩) vE ((BitVec.ofInt 64 n).toNat):Value)) l0
 exact⟨(some ⟨g0,0,none⟩),((BitVec.ofInt 64 n).toNat),bt,H4.below,(apj (fun (n_:Nat)=>bo _ _ _ (List.replicate n.toNat<|xs.headD 0) (.slice (some ⟨g0,0,none⟩) n_ ((BitVec.ofInt 64 n).toNat)) _) l0).mp ((apj (fun (x_:aE)=>bo _ _ _ x_ (.slice (some ⟨g0,0,none⟩) ((BitVec.ofInt 64 n).toNat) ((BitVec.ofInt 64 n).toNat)) _) e0).mp (H4.dx 0 J))⟩
theorem agZ:cD aM 154:=cE Tryz.func154
theorem agY:cD aM 155:=cE Tryz.func155
theorem Tl (hM:eC M w) (hT:fY 0 w) (gk:aK mn) (gz:cz M w bG bF mr) (rp:aK i) (Cw:aK j) (b9:bL mn mr=true):Calls aM 115 #[.agg #[C mn,R bG mr bF],C i,C j] w (ck fun v w'=>∃(a0:OA) (c0:Nat),v=.tuple #[.slice a0 ((fB mn mr i j).getD []).length c0,.bool ((fB mn mr i j).isSome)]∧Ext w w'∧bo M 3 w ((fB mn mr i j).getD []) (.slice a0 ((fB mn mr i j).getD []).length c0) w'):=by
 refine dv 80 Tryz.func115 J J J hM fun f0 ha H=>?_
 let J0:=iL bG mr bF
 have H0:=H.put (it:=J0) J<|by rw[bQ];exact gz
 have nG:=bg gz
 have i0:f0 0=.agg #[C mn,R bG mr bF]:=ha 0 bm
 have i1:f0 1=C i:=ha 1 bm
 have i2:f0 2=C j:=ha 2 bm
 have uv:=(bU b9).1;have Km:=(bU b9).2.2.1;have Fc:=kW b9
 refine aD<|k<|bx H0 J i0 ?_
 intro aX w0 bY (H1:HI M w w0 [box aX #[C mn,R bG mr bF] 26,J0])
 let J1:=box aX #[C mn,R bG mr bF] 26
 refine au (v:=.slice none 0 0) J J<|au (v:=.bool false) J J<|av<|sq<|aD<|ak J i1<|k<|lss J J J J<|ak (v:=.bool (decide (i<0))) J J ?_
 rcases bE (decide (i<0)) with b0|b0
 ·
  have p0:=dT b0
  refine aZ J J J b0<|aZ J J J b0<|aZ J J J b0<|aZ J J J b0<|k<|aQ J J J J b0 J<|ak (v:=.bool true) J J<|aZ J J J J<|aZ J J J J<|k<|aQ J J J J J J<|ak (v:=.bool true) J J<|aZ J J J J<|aZ J J J J<|aZ J J J J<|aZ J J J J<|k<|aQ J J J J J J<|av<|pk J J J<|aD<|au (v:=.slice none 0 0) J J<|au (v:=.bool false) J J<|av<|rt<|aL<|r2 J J J ?_
  have e0:([]:aE)=(fB mn mr i j).getD []:=by rw[sX aq];rfl
  have e1:(false:Bool)=(fB mn mr i j).isSome:=by rw[sX aq];rfl
  have bt:=nN (fun (cb:aE) (dK:Bool)=>(.tuple #[.slice none cb.length 0,.bool dK]:Value)) e0 e1
  exact⟨none,0,bt,H1.below,(apj (fun (x_:aE)=>bo _ _ _ x_ (.slice none x_.length 0) _) e0).mp (fV H1.below)⟩
 have p0:=dF b0
 refine bl J J J b0<|mv J i1<|bl J J J b0<|fa ky J J<|bl J J J b0<|lx H1 0 J aT J J J<|bl J J J b0<|geq J J J J<|k<|cU J J J J b0 J<|ak (v:=.bool (decide (mn≤i))) J J ?_
 rcases bE (decide (mn≤i)) with b1|b1
 ·
  have p1:=dT b1
  refine aZ J J J b1<|aZ J J J b1<|k<|aQ J J J J b1 J<|ak (v:=.bool true) J J<|aZ J J J J<|aZ J J J J<|aZ J J J J<|aZ J J J J<|k<|aQ J J J J J J<|av<|pk J J J<|aD<|au (v:=.slice none 0 0) J J<|au (v:=.bool false) J J<|av<|rt<|aL<|r2 J J J ?_
  have e0:([]:aE)=(fB mn mr i j).getD []:=by rw[sX aq];rfl
  have e1:(false:Bool)=(fB mn mr i j).isSome:=by rw[sX aq];rfl
  have bt:=nN (fun (cb:aE) (dK:Bool)=>(.tuple #[.slice none cb.length 0,.bool dK]:Value)) e0 e1
  exact⟨none,0,bt,H1.below,(apj (fun (x_:aE)=>bo _ _ _ x_ (.slice none x_.length 0) _) e0).mp (fV H1.below)⟩
 have p1:=dF b1
 refine bl J J J b1<|mv J i2<|bl J J J b1<|lss J J J J<|k<|cU J J J J b1 J<|ak (v:=.bool (decide (j<0))) J J ?_
 rcases bE (decide (j<0)) with b2|b2
 ·
  have p2:=dT b2
  refine aZ J J J b2<|aZ J J J b2<|aZ J J J b2<|aZ J J J b2<|k<|aQ J J J J b2 J<|av<|pk J J J<|aD<|au (v:=.slice none 0 0) J J<|au (v:=.bool false) J J<|av<|rt<|aL<|r2 J J J ?_
  have e0:([]:aE)=(fB mn mr i j).getD []:=by rw[sX aq];rfl
  have e1:(false:Bool)=(fB mn mr i j).isSome:=by rw[sX aq];rfl
  have bt:=nN (fun (cb:aE) (dK:Bool)=>(.tuple #[.slice none cb.length 0,.bool dK]:Value)) e0 e1
  exact⟨none,0,bt,H1.below,(apj (fun (x_:aE)=>bo _ _ _ x_ (.slice none x_.length 0) _) e0).mp (fV H1.below)⟩
 have p2:=dF b2
 refine bl J J J b2<|mv J i2<|bl J J J b2<|fa ky J J<|bl J J J b2<|lx H1 0 J aT J J J<|bl J J J b2<|geq J J J J<|k<|cU J J J J b2 J<|z<|nx<|cd (b:=decide (mn≤j)) J J (fun b3=>?_)<|fun b3=>?_
 ·
  have p3:=dT b3
  refine aD<|au (v:=.slice none 0 0) J J<|au (v:=.bool false) J J<|av<|rt<|aL<|r2 J J J ?_
  have e0:([]:aE)=(fB mn mr i j).getD []:=by rw[sX aq];rfl
  have e1:(false:Bool)=(fB mn mr i j).isSome:=by rw[sX aq];rfl
  have bt:=nN (fun (cb:aE) (dK:Bool)=>(.tuple #[.slice none cb.length 0,.bool dK]:Value)) e0 e1
  exact⟨none,0,bt,H1.below,(apj (fun (x_:aE)=>bo _ _ _ x_ (.slice none x_.length 0) _) e0).mp (fV H1.below)⟩
 have p3:=dF b3
 refine sk<|cQ<|k<|bs (xs:=([(-1)]:aE)) (cells:=#[C (-1)]) (e:=3) H1 J (ct J eA) (fun _=>aV) ⟨[C (-1)],[],J,⟨J,(show aK ((-1)) from aS)⟩,J⟩ J aw ?_
 intro g0 w1 cS H2
 refine aU ky J J<|bq H2 1 J aT J J J<|k ?_
 have H3:=H2.freeze 0 J
 have bT:=Q0 (xs:=([(-1)]:aE)) (n:=mn) H3.mb (H3.rv 0 J) gk (by rfl) aq<|by exact(bU b9).2.2.1
 refine ca agZ J (ec J<|ec J e0) bT ?_
 rintro _ w2 ⟨a0,c0,rfl,fm,cm⟩
 have H4:=H3.eU cm
 refine au (v:=R a0 (List.replicate mn.toNat<|([(-1)]:aE).headD 0) c0) J J<|av<|sq ?_
 have DG:((mn.toNat:Nat):Int)=mn:=ap0 Fc
 refine rg<|ak J i1<|k<|bs (xs:=([i]:aE)) (cells:=#[C i]) (e:=3) H4 J (ct J eA) (fun _=>aV) ⟨[C i],[],J,⟨J,rp⟩,J⟩ J aw ?_
 intro g1 w3 fg H5
 refine au (v:=.slice (some ⟨g1,0,none⟩) 1 1) J J<|av<|sq<|bk ?_
 let J2:=sf (.slice (some ⟨g0,0,none⟩) 1 1) ([(-1)]:aE)
 have H6:HI M w w3 [nS w.heap.size 3 (.slice (some ⟨g1,0,none⟩) 1 1) ([i]:aE),oL w 3 a0 (List.replicate mn.toNat (([(-1)]:aE).headD 0)) c0,J2,J1,J0]:=H5.toQ 0 J
 let bf:=[sf (.slice (some ⟨g0,0,none⟩) 1 1) ([(-1)]:aE),J1,J0]
 refine lp (fun m f w'=>∃(Ik:aE) (td:aE) (a1:OA) (c1:Nat),m=Ik.count (-1)+td.length∧f 1=C i∧f 2=C j∧f 3=pV aX 0∧f 8=R a0 (List.replicate mn.toNat<|([(-1)]:aE).headD 0) c0∧f 9=R a1 td c1∧HI M w w' (nS w.heap.size 3 (.slice a1 td.length c1) td::own w.heap.size 3 (.slice a0 (List.replicate mn.toNat<|([(-1)]:aE).headD 0).length c0) Ik::bf)∧(Qx mn.toNat (gi mr) i j Ik td)∧(Ik.length=mn.toNat)∧(Ik.count (-1)+td.length≤mn.toNat+1)) _ ⟨(List.replicate mn.toNat<|([(-1)]:aE).headD 0),[i],(some ⟨g1,0,none⟩),1,J,i1,i2,J,J,J,H6,(by exact Vp aq aq),bm,(by simp[List.count_replicate_self])⟩ ?_
 rintro _ f0 w4 ⟨Ik,td,a1,c1,rfl,s0,s1,s2,s3,s4,H7,hs,hl,Cm⟩
 refine sq<|aD<|ak J s4<|k<|dP J J cw<|k<|gtr J J J J<|z<|nx<|cd (b:=decide (0<(td.length:Int))) J J (fun b4=>?_)<|fun b4=>?_
 ·
  have p4:=dT b4
  refine sk<|nx<|bk<|aD<|ak J s4<|k<|iaQ (H7.at_ 0 J) J J J J aq cw aT ?_
  intro iy x0 aN cB
  refine k<|kF cB aT J J ?_
  intro dN
  refine au (v:=C x0) J J<|av<|sq ?_
  have eS:=afw aq hs aN
  refine rg<|ak J s4<|k<|slQ H7 0 J J J J J aq cw aT ?_
  intro a2 c2 (H8:HI M w w4 [nS w.heap.size 3 (.slice a2 (td.drop 1).length c2) (td.drop 1),own w.heap.size 3 (.slice a0 (List.replicate mn.toNat (([(-1)]:aE).headD 0)).length c0) Ik,J2,J1,J0])
  refine au (v:=R a2 (td.drop 1) c2) J J<|bz<|aU iJ J s2<|bq H8 3 J lg J J J<|ak (v:=C x0) J J<|k<|ia (H8.rv 4 J) J J J J aq im dw ?_
  intro mV x1 cO gx
  refine k<|wT gx.w dw J J ?_
  intro a3 c3 dH
  have Cl:=bg dH
  have H9:=dU H8 dH
  refine k ?_
  have df:=uP (r:=x1) H9.mb (hT.ext H9.below) (H9.rv 0 J)<|by exact(bU b9).2.1 _ (dO cO)
  refine ca I1 J (ec J e0) df ?_
  rintro _ w5 ⟨a4,c4,rfl,jl,ft⟩
  have dB:=H9.eU ft
  refine k<|dP J J cw<|ak (v:=C 0) J J<|av<|bk ?_
  let J3:=oL w 3 a4 (cZ x1) c4
  refine lp (fun m f w'=>∃(q:Nat) (b2:aE) (qS:aE) (a5:OA) (c5:Nat),m=(cZ x1).length-q∧f 1=C i∧f 2=C j∧f 3=pV aX 0∧f 8=R a0 (List.replicate mn.toNat<|([(-1)]:aE).headD 0) c0∧f 9=R a5 qS c5∧f 10=C x0∧f 50=R a4 (cZ x1) c4∧f 51=C ((cZ x1).length:Int)∧f 52=C (q:Int)∧HI M w w' (J3::iL a3 x1 c3::nS w.heap.size 3 (.slice a5 qS.length c5) qS::own w.heap.size 3 (.slice a0 (List.replicate mn.toNat<|([(-1)]:aE).headD 0).length c0) b2::bf)∧(q≤(cZ x1).length)∧(FB mn.toNat (gi mr) i j b2 qS x0 q)∧(b2.length=mn.toNat)∧(b2.count (-1)+qS.length≤Ik.count (-1)+(td.drop 1).length)) _ ⟨0,Ik,(td.drop 1),a2,c2,J,s0,s1,s2,s3,J,J,J,J,(bH J),dB,aq,(by exact abK aq hs aN),(by exact hl),aq⟩ ?_
  rintro _ f1 w6 ⟨q,b2,qS,a5,c5,rfl,s5,s6,s7,s8,s9,ei,eR,fM,fL,cT,tg,gS,od,W5⟩
  refine aD<|k<|lss J J fL fM<|av<|sq<|cd (b:=decide ((q:Int)<((cZ x1).length:Int))) J J (fun b5=>?_)<|fun b5=>?_
  ·
   have p5:=dT b5
   refine sk<|nx<|sq<|bk<|aD<|k<|iC (cT.at_ 0 J) J J eR fL (by have h_:=np x1;have lI:=(bU b9).2.2.2.2 _ (dO cO);first|omega|(unfold aK;omega)) cw aT ?_
   intro g2 x2 iP iY jw
   refine k<|kF jw aT J J ?_
   intro iO
   refine au (v:=C x2) J J<|av<|sq<|sq ?_
   have HB:=S9 b9 cO iY
   refine rg<|ak J s8<|ak (v:=C x2) J J<|k<|iC (cT.at_ 3 J) J J J J aq cw aT ?_
   intro g3 x3 kT nr qe
   refine k<|kF qe aT J J ?_
   intro jK
   refine k<|neq J J J J<|z<|nx<|cd (b:=!decide (x3=(-1))) J J (fun b6=>?_)<|fun b6=>?_
   ·
    have p6:=dF<|gf b6
    refine ex<|aW<|bh<|nx<|rg<|k<|add J J fL J (by have h_:=np x1;have lI:=(bU b9).2.2.2.2 _ (dO cO);first|omega|(unfold aK;omega))<|ak (v:=C ((q:Int)+1)) J J<|z<|bB _ ?_ ⟨(q+1),b2,qS,a5,c5,J,s5,s6,s7,s8,s9,ei,eR,fM,(bH J),cT,aq,(by exact XZ gS (by rw[←Au b9 cO];exact iY) nr aq),(by exact od),(by exact W5)⟩
    omega
   have p6:=dT<|fu b6
   refine sk<|cQ<|ak J s8<|ak (v:=C x2) J J<|ak J ei<|k<|iC (cT.at_ 3 J) J J J J aq cw aT ?_
   intro g4 x4 Cn yo rr
   refine k<|qE cT 3 J Cn J aq aT J J J J (RV.int.2 ⟨J,aS⟩) ?_
   let J4:=own w.heap.size 3 (.slice a0 (List.replicate mn.toNat (([(-1)]:aE).headD 0)).length c0) (b2.set x2.toNat x0)
   intro w7 (db:HI M w w7 [J3,iL a3 x1 c3,nS w.heap.size 3 (.slice a5 qS.length c5) qS,J4,J2,J1,J0])
   refine av<|sq<|aD<|ak (v:=C x2) J J<|ak J s6<|k<|eql J J J J<|z<|nx<|cd (b:=decide (x2=j)) J J (fun b7=>?_)<|fun b7=>?_
   ·
    have p7:=dT b7
    refine sq ?_
    obtain⟨w_,adE,W7⟩:=Vo ⟨by omega,by omega⟩ gS (by rw[←Au b9 cO];exact iY) nr aq bu aq
    have Rq:=afv adE
    refine rg<|ak J s8<|ak J s5<|ak J s6<|k ?_
    have UU:((List.replicate mn.toNat (([(-1)]:aE).headD 0)).length:Nat)=(b2.set x2.toNat x0).length:=Mm<|db.at_ 3 J
    let bZ:=[sf (.slice (some ⟨g0,0,none⟩) 1 1) ([(-1)]:aE),box aX #[C mn,R bG mr bF] 26,iL bG mr bF]
    have dq:HI M w w7 (oL w 3 a4 (cZ x1) c4::iL a3 x1 c3::nS w.heap.size 3 (.slice a5 qS.length c5) qS::oL w 3 a0 (b2.set x2.toNat x0) c0::bZ):=(by have h_:HI M w w7 (oL w 3 a4 (cZ x1) c4::iL a3 x1 c3::nS w.heap.size 3 (.slice a5 qS.length c5) qS::own w.heap.size 3 (.slice a0 (List.replicate mn.toNat<|([(-1)]:aE).headD 0).length c0) (b2.set x2.toNat x0)::bZ):=db;rw[UU] at h_;exact h_)
    have cM:=dq.freeze 3 J
    have fF:=Tk (vb:=(b2.set x2.toNat x0)) (i:=i) (j:=j) cM.mb (cM.rv 3 J) rp Cw (by rw[Rq];exact adE)<|by have h_:=GM (GK W7) aq;rw[Rq];unfold rX;rw[apZ];omega
    refine ca agY J (ec (Eq.trans (b:=(.slice a0 (List.replicate mn.toNat<|([(-1)]:aE).headD 0).length c0:Value)) rfl (apj (fun n_=>Value.slice a0 n_ c0) UU))<|ec J<|ec J e0) fF ?_
    rintro _ w8 ⟨a6,c6,rfl,je,i'⟩
    have dR:=cM.eU i'
    refine au (v:=R a6 (wc (b2.set x2.toNat x0) i j) c6) J J<|au (v:=.bool true) J J<|av<|rt<|aL<|bI<|aL<|du<|bI<|bI<|du<|bI<|aL<|r2 J J J ?_
    have e0:(wc (b2.set x2.toNat x0) i j:aE)=(fB mn mr i j).getD []:=by rw[AA aq,W7];first|exact Rq|rfl
    have e1:(true:Bool)=(fB mn mr i j).isSome:=by rw[AA aq,W7];first|exact Rq|rfl
    have bt:=nN (fun (cb:aE) (dK:Bool)=>(.tuple #[.slice a6 cb.length c6,.bool dK]:Value)) e0 e1
    exact⟨a6,c6,bt,dR.below,(apj (fun (x_:aE)=>bo _ _ _ x_ (.slice a6 x_.length c6) _) e0).mp (dR.dx 0 J)⟩
   have p7:=dF b7
   refine sk<|cQ<|ak (v:=C x2) J J<|ak J s5<|k<|neq J J J J<|z<|nx<|cd (b:=!decide (x2=i)) J J (fun b8=>?_)<|fun b8=>?_
   ·
    have p8:=dF<|gf b8
    refine rg<|ak J s9<|ak (v:=C x2) J J<|k<|bs (xs:=([x2]:aE)) (cells:=#[C x2]) (e:=3) db J (ct J eA) (fun _=>aV) ⟨[C x2],[],J,⟨J,(show aK (x2) from aS)⟩,J⟩ J aw ?_
    intro g5 w8 je dq
    refine k<|apQ dq 3 J J J J J J (hG<|dq.at_ 0 J) bm cw aT J (by (simp only[jb,gC];have h_:=apJ (l:=td) (i:=1);omega)) (by (simp only[jb,gC];have h_:=apJ (l:=td) (i:=1);omega)) ?_
    intro a6 c6 w9 (cM:HI M w w9 [own w.heap.size 3 (.slice (some ⟨g5,0,none⟩) 1 1) ([x2]:aE),J3,iL a3 x1 c3,nS w.heap.size 3 (.slice a6 (qS++([x2]:aE)).length c6) (qS++([x2]:aE)),J4,J2,J1,J0])
    refine au (v:=R a6 (qS++([x2]:aE)) c6) J J<|z<|aH<|nx<|rg<|k<|add J J fL J (by have h_:=np x1;have lI:=(bU b9).2.2.2.2 _ (dO cO);first|omega|(unfold aK;omega))<|ak (v:=C ((q:Int)+1)) J J<|z ?_
    have dR:HI M w w9 [J3,iL a3 x1 c3,nS w.heap.size 3 (.slice a6 (qS++([x2]:aE)).length c6) (qS++([x2]:aE)),J4,J2,J1,J0]:=cM.bX [1,2,3,4,5,6,7] aw J
    refine bB _ ?_ ⟨(q+1),(b2.set x2.toNat x0),(qS++([x2]:aE)),a6,c6,J,s5,s6,s7,s8,J,ei,eR,fM,(bH J),dR,aq,(by exact X0 gS (by rw[←Au b9 cO];exact iY) nr aq bu bu aq aq),(by rw[apk];exact od),(by exact(Hc nr aq aq W5).2)⟩
    omega
   have p8:=dT<|fu b8
   refine sk<|aH<|nx<|rg<|k<|add J J fL J (by have h_:=np x1;have lI:=(bU b9).2.2.2.2 _ (dO cO);first|omega|(unfold aK;omega))<|ak (v:=C ((q:Int)+1)) J J<|z<|bB _ ?_ ⟨(q+1),(b2.set x2.toNat x0),qS,a5,c5,J,s5,s6,s7,s8,s9,ei,eR,fM,(bH J),db,aq,(by exact ahx gS (by rw[←Au b9 cO];exact iY) nr aq bu aq aq),(by rw[apk];exact od),(by exact(Hc nr aq aq W5).1)⟩
   omega
  have p5:=dF b5
  refine ex<|aW<|ba<|bh<|aH ?_
  have db:HI M w w6 [nS w.heap.size 3 (.slice a5 qS.length c5) qS,own w.heap.size 3 (.slice a0 (List.replicate mn.toNat (([(-1)]:aE).headD 0)).length c0) b2,J2,J1,J0]:=cT.bX [2,3,4,5,6] aw J
  refine bB _ ?_ ⟨b2,qS,a5,c5,J,s5,s6,s7,s8,s9,db,(by exact X1 gS (by rw[←Au b9 cO];omega)),(by exact od),(by have h_:=apJ (l:=td) (i:=1);omega)⟩
  have h_:=apJ (l:=td) (i:=1);omega
 have p4:=dF b4
 refine ex<|aW<|ba<|bh<|cQ<|au (v:=.slice none 0 0) J J<|au (v:=.bool false) J J<|av<|rt<|r2 J J J ?_
 have e0:([]:aE)=(fB mn mr i j).getD []:=by rw[AA aq,Qp hs (O6 bu)];try rfl
 have e1:(false:Bool)=(fB mn mr i j).isSome:=by rw[AA aq,Qp hs (O6 bu)];try rfl
 have bt:=nN (fun (cb:aE) (dK:Bool)=>(.tuple #[.slice none cb.length 0,.bool dK]:Value)) e0 e1
 exact⟨none,0,bt,H7.below,(apj (fun (x_:aE)=>bo _ _ _ x_ (.slice none x_.length 0) _) e0).mp (fV H7.below)⟩
theorem l5:gV aM 142 1 3:=j1 Tryz.underlying142
theorem nQ:ez aM 31 1 false 24 (.slice none 0 0):=⟨aV,aV⟩
theorem Bg:ez aM 175 5 true 40 (.agg #[.int .i64 0,.int .i64 0,.int .i64 0,.int .i64 0,.int .i64 0]):=⟨aV,aV⟩
theorem LF:aM.underlying 31=some (.slice 175):=aV
theorem EG:gV aM 142 2 4:=j1 Tryz.underlying142
theorem K7:ez aM 139 1 false 8 (.map none):=⟨aV,aV⟩
theorem P4:gV aM 175 1 1:=j1 Tryz.underlying175
theorem P3:gV aM 175 2 2:=j1 Tryz.underlying175
theorem agk:Qv aM 170 [some (0,0),some (1,0)]:=⟨aV,aV,aV,aV⟩
theorem La:Jl aM 139:=WT (by kernel_rfl:aM.underlying 139=some (.map 170 3)) (zY agk) aT
theorem I4:gV aM 142 0 0:=j1 Tryz.underlying142
theorem Lj:cD aM 117:=cE Tryz.func117
theorem rI:gV aM 142 3 5:=j1 Tryz.underlying142
theorem ahe:cD aM 115:=cE Tryz.func115
theorem ZB:cD aM 116:=cE Tryz.func116
theorem OE (gk:aK mn) (H:HI M w w_ ([iL aA I az,iL ay U ax,iL bG mr bF]++r)):Calls aM 78 #[.agg #[.slice aC aF aB,R aA I az,R ay U ax],.agg #[C mn,R bG mr bF]] w_ (ck fun v w'=>∃(ZQ:Nat) (a0:OA) (c0:Nat) (b1:Nat) (b2:Nat),v=pV ZQ 0∧HI M w w' ([box ZQ #[.slice aC aF aB,R aA I az,R ay U ax,.slice a0 ([]:List cP).length c0,.map (some b1),C mn,R bG mr bF,.map (some b2)] 142,oL w 175 a0 ([]:List cP) c0,cj b1 ([]:KV),bW b2 ([]:List ((Int×Int)×Bool)),iL aA I az,iL ay U ax,iL bG mr bF]++r)):=by
 refine enter 11 Tryz.func78 J J J fun f0 ha=>?_
 have iE:=bg<|H.rv 0 J
 have kh:=bg<|H.rv 1 J
 have nG:=bg<|H.rv 2 J
 have i0:f0 0=.agg #[.slice aC aF aB,R aA I az,R ay U ax]:=ha 0 bm
 have i1:f0 1=.agg #[C mn,R bG mr bF]:=ha 1 bm
 refine aD<|k<|bx H J i0 ?_
 let J1:=iL aA I az
 let J2:=iL ay U ax
 let J3:=iL bG mr bF
 let bf:=[J1,J2,J3]
 intro aX w0 bY (H0:HI M w w0 ((box aX #[.slice aC aF aB,R aA I az,R ay U ax] 47::bf)++r))
 let J0:=box aX #[.slice aC aF aB,R aA I az,R ay U ax] 47
 refine k<|bx H0 J i1 ?_
 intro bj w1 cS (H1:HI M w w1 ((box bj #[C mn,R bG mr bF] 26::J0::bf)++r))
 let J4:=box bj #[C mn,R bG mr bF] 26
 refine au (v:=.pointer none) J J<|bz<|k<|cC H1 1 J dt J J aw J<|k<|mm H1 ?_
 intro dQ w2 fm (H2:HI M w w2 ((cj dQ ([]:KV)::J4::J0::bf)++r))
 refine k<|cC H2 1 J bp J J aw J<|k<|mmP H2 ?_
 let bZ:=cj dQ ([]:KV)::J4::J0::bf
 intro fW w3 fg (H3:HI M w w3 ((bW fW ([]:List ((Int×Int)×Bool))::bZ)++r))
 refine k<|bd (v:=.agg #[.slice aC aF aB,R aA I az,R ay U ax,.slice none 0 0,.map (some dQ),C mn,R bG mr bF,.map (some fW)]) J (ct J<|ct J<|ct J<|ct J eA) (fun _=>aV)<|k<|bx H3 J J ?_
 let eh:=bW fW ([]:List ((Int×Int)×Bool))::bZ
 intro bK w4 jl (H4:HI M w w4 ((box bK #[.slice aC aF aB,R aA I az,R ay U ax,.slice none 0 0,.map (some dQ),C mn,R bG mr bF,.map (some fW)] 142::eh)++r))
 let J5:=box bK #[.slice aC aF aB,R aA I az,R ay U ax,.slice none 0 0,.map (some dQ),C mn,R bG mr bF,.map (some fW)] 142
 refine au (v:=pV bK 0) J J<|av<|rt<|r1 J J ?_
 have H5:=H4.qZ cP 175
 let J6:=own w.heap.size 175 (.slice none 0 0) ([]:List cP)
 have H6:=HI.aQ (l:=(J6::J5::eh)) (l':=[J5,J6,cj dQ ([]:KV),bW fW ([]:List ((Int×Int)×Bool)),J1,J2,J3]) (t:=r) H5 [1,0,3,2,6,7,8] aw J J
 have e0:(([]:List cP):List cP)=([]:List cP):=rfl
 try rw[←e0]
 refine⟨bK,none,0,dQ,fW,?_,?_⟩
 · first|rfl|simp only[e0]|(simp only[apk])
 · first|exact H6|simpa +zetaDelta only[e0,apk] using H6
theorem yZ {k_:Int} {g_:Int} {h_:Int} (rn:aK pn) (aj8:aK k_) (Gr:aK f_) (I0:aK t_) (aj_:aK g_) (aj9:aK h_) (IX:sp.length≤3000000000000) (H:HI M w w_ ([box da #[.slice aC aF aB,R aA I az,R ay U ax,R eF sp eE,.map (some bD),C pn,R dm pr dh,.map (some bN)] 142,iL aA I az,iL ay U ax,oL w 175 eF sp eE,cj bD mp,iL dm pr dh,bW bN mq]++r)):Calls aM 117 #[pV da 0,.agg #[C k_,C f_,C t_,C g_,C h_]] w_ (ck fun v w'=>∃(oq:OA) (oo:Nat),v=C ((sp.length:Nat):Int)∧HI M w w' ([box da #[.slice aC aF aB,R aA I az,R ay U ax,.slice oq (sp++[(k_,f_,t_,g_,h_)]).length oo,.map (some bD),C pn,R dm pr dh,.map (some bN)] 142,iL aA I az,iL ay U ax,oL w 175 oq (sp++[(k_,f_,t_,g_,h_)]) oo,cj bD (jB mp (f_,t_) ((sp.length:Nat):Int)),iL dm pr dh,bW bN mq]++r)):=by
 refine enter 33 Tryz.func117 J J J fun f0 ha=>?_
 have iE:=bg<|H.rv 1 J
 have kh:=bg<|H.rv 2 J
 have Ex:=kr<|H.at_ 3 J
 have Ey:=bg<|H.rv 5 J
 have i0:f0 0=pV da 0:=ha 0 bm
 have i1:f0 1=.agg #[C k_,C f_,C t_,C g_,C h_]:=ha 1 bm
 have aej:(sp++[(k_,f_,t_,g_,h_)]).length=sp.length+1:=by simp
 refine aD<|k<|bx H J i1 ?_
 let J1:=box da #[.slice aC aF aB,R aA I az,R ay U ax,R eF sp eE,.map (some bD),C pn,R dm pr dh,.map (some bN)] 142
 let J2:=iL aA I az
 let J3:=iL ay U ax
 let J4:=iL dm pr dh
 let bf:=[cj bD mp,J4,bW bN mq]
 intro aX w0 bY (H0:HI M w w0 ((box aX #[C k_,C f_,C t_,C g_,C h_] 175::J1::J2::J3::oL w 175 eF sp eE::bf)++r))
 let J0:=box aX #[C k_,C f_,C t_,C g_,C h_] 175
 refine au (v:=C 0) J J<|av<|sq<|mw [.s,.r,.r,.r,.r,.r,.r,.e,.f,.f,.e] (fun _=>True) J aV (fun _ _=>trivial)<|yq J J<|kq (fun _ _=>mv J i0 e1)<|bS<|kq (fun _ _=>mv J i0 e1)<|bS<|kq (fun _ _=>nc J J e1)<|bS<|kq (fun _ _=>fa l5 J J e1)<|bS<|kq (fun _ x_=>lx (H0.ext x_) 1 J nQ J J J e1)<|bS<|kq (fun _ x_=>cC (H0.ext x_) 0 J Bg J J aw J e1)<|zq<|yu J (fun _ v w'=>∃(a0:OA) (c0:Nat),v=R a0 ([(k_,f_,t_,g_,h_)]:List cP) c0∧RV H0.eI w' (R a0 ([(k_,f_,t_,g_,h_)]:List cP) c0) ([(k_,f_,t_,g_,h_)]:List cP)) J oA J (fun v_ N_ x_ n_=>?_) ?_
 ·
  have H3:=H0.ext x_
  refine bs (xs:=([(k_,f_,t_,g_,h_)]:List cP)) (cells:=#[C k_,C f_,C t_,C g_,C h_]) (e:=175) H3 J (ct J eA) (fun _=>aV) ⟨[C k_,C f_,C t_,C g_,C h_],[],J,⟨_,_,J,⟨J,aj8⟩,⟨_,_,J,⟨J,Gr⟩,⟨_,_,J,⟨J,I0⟩,⟨_,_,J,⟨J,aj_⟩,⟨J,aj9⟩⟩⟩⟩⟩,J⟩ J aw ?_
  intro g1 w2 fm (H4:HI M w w2 ((own w.heap.size 175 (.slice (some ⟨g1,0,none⟩) 1 1) ([(k_,f_,t_,g_,h_)]:List cP)::J0::J1::J2::J3::oL w 175 eF sp eE::bf)++r))
  have H5:=H4.freeze 0 J
  exact⟨_,J,fm,⟨(some ⟨g1,0,none⟩),1,J,(mY J<|H5.rv 0 J)⟩⟩
 refine ye<|yf J (fun _ _=>nc J J e3)<|yf J (fun _ _=>fa l5 J J e3)<|ye<|yz ?_
 intro w3 f0 _ fg _ _ cG jc
 have H6:=H0.ext fg
 have s0:=(cG 0 J).trans i0
 have s1:=cG 3 J
 have s2:=cG 10 J
 obtain⟨a1,c1,s3,dN⟩:=jc 0 _ _ rfl
 let J5:=iL a1 ([(k_,f_,t_,g_,h_)]:List cP) c1
 have H7:=H6.put (it:=J5) J dN
 have s4:=cG 15 J
 refine km<|l7 H7 5 J J J J s2 s3 (H7.rv 0 J).src LF Bg J (by simp only[jb,gC];omega) J ?_
 intro a2 c2 w4 (H9:HI M w w4 ((J5::J0::J1::J2::J3::oL w 175 a2 (sp++([(k_,f_,t_,g_,h_)]:List cP)) c2::bf)++r))
 let J6:=oL w 175 a2 (sp++([(k_,f_,t_,g_,h_)]:List cP)) c2
 refine km<|bA H9 2 J nQ J J s4 J J J J ?_
 let J7:=box da #[.slice aC aF aB,R aA I az,R ay U ax,R a2 (sp++([(k_,f_,t_,g_,h_)]:List cP)) c2,.map (some bD),C pn,R dm pr dh,.map (some bN)] 142
 intro w5 (dB:HI M w w5 ((J5::J0::J7::J2::J3::J6::bf)++r))
 refine kz<|cQ<|ak J s0<|k<|nc J J<|aU l5 J J<|bq dB 2 J nQ J J J<|k<|dP J J LF<|k<|sub J J J J aS<|au (v:=C (((sp++([(k_,f_,t_,g_,h_)]:List cP)).length:Int)-1)) J J<|av<|sq<|mw [.r,.r,.r,.r,.r,.r,.r,.r,.r,.r,.e] (fun _=>True) J aV (fun _ _=>trivial)<|yq J J<|kq (fun _ _=>mv J s0 e1)<|bS<|kq (fun _ _=>nc J J e1)<|bS<|kq (fun _ _=>fa EG J J e1)<|bS<|kq (fun _ x_=>lx (dB.ext x_) 2 J K7 J J J e1)<|bS<|kq (fun _ _=>fa P4 J s1 e1)<|bS<|kq (fun _ x_=>lx (dB.ext x_) 1 J aT J J J e1)<|bS<|kq (fun _ _=>fa P3 J s1 e1)<|bS<|kq (fun _ x_=>lx (dB.ext x_) 1 J aT J J J e1)<|bS<|kq (fun _ _=>bd (v:=.agg #[C f_,C t_]) J (ct J<|ct J eA) (fun _=>aV) e1)<|bS<|kq (fun _ _=>mv (v:=C (((sp++([(k_,f_,t_,g_,h_)]:List cP)).length:Int)-1)) J J e1)<|zq<|ye<|yz ?_
 intro w6 f1 _ jl _ _ fO AN
 have cT:=dB.ext jl
 have s5:=fO 5 J
 have s6:=fO 25 J
 have s7:=fO 30 J
 have s8:=fO 31 J
 refine km<|YF (k:=(f_,t_)) La cT 6 J J J J s6 s7 s8 aS ?_
 let J8:=cj bD (jB mp (f_,t_) (((sp++([(k_,f_,t_,g_,h_)]:List cP)).length:Int)-1))
 let bZ:=[J7,J2,J3,J6,J8,J4,bW bN mq]
 intro w7 (db:HI M w w7 ((J5::J0::bZ)++r))
 refine kz<|cQ<|ak J s5<|au (v:=C (((sp++([(k_,f_,t_,g_,h_)]:List cP)).length:Int)-1)) J J<|av<|rt<|r1 J J ?_
 have dq:=HI.aQ (l:=(J5::J0::bZ)) (l':=bZ) (t:=r) db [2,3,4,5,6,7,8] aw J J
 have e0:(((sp++([(k_,f_,t_,g_,h_)]:List cP)).length:Int)-1:Int)=((sp.length:Nat):Int):=by rw[aej];omega
 have e1:((sp++([(k_,f_,t_,g_,h_)]:List cP)):List _)=(sp++[(k_,f_,t_,g_,h_)]):=rfl
 have e2:(jB mp (f_,t_) (((sp++([(k_,f_,t_,g_,h_)]:List cP)).length:Int)-1):KV)=(jB mp (f_,t_) ((sp.length:Nat):Int)):=by rw[aej];congr 1;omega
 try rw[←e0]
 try rw[←e1]
 try rw[←e2]
 refine⟨a2,c2,?_,?_⟩
 · first|rfl|simp only[e0,e1,e2]|(simp only[apk])
 · first|exact dq|simpa +zetaDelta only[e0,e1,e2,apk] using dq
theorem G6 (rn:aK pn) (Gr:aK f_) (I0:aK t_) (IX:sp.length≤2900000000000) (ht_:0≤t_∧t_<((U.length:Nat):Int)) (H:HI M w w_ ([box da #[.slice aC aF aB,R aA I az,R ay U ax,R eF sp eE,.map (some bD),C pn,R dm pr dh,.map (some bN)] 142,iL aA I az,iL ay U ax,oL w 175 eF sp eE,cj bD mp,iL dm pr dh,bW bN mq]++r)):Calls aM 116 #[pV da 0,C f_,C t_] w_ (ck fun v w'=>∃(ix:Int) (tG:List cP) (He:KV) (oq:OA) (oo:Nat),v=C ix∧HI M w w' ([box da #[.slice aC aF aB,R aA I az,R ay U ax,R oq tG oo,.map (some bD),C pn,R dm pr dh,.map (some bN)] 142,iL aA I az,iL ay U ax,oL w 175 oq tG oo,cj bD He,iL dm pr dh,bW bN mq]++r)∧tG.length≤sp.length+1∧aK ix):=by
 refine enter 39 Tryz.func116 J J J fun f0 ha=>?_
 have iE:=bg<|H.rv 1 J
 have kh:=bg<|H.rv 2 J
 have Ex:=kr<|H.at_ 3 J
 have Ey:=bg<|H.rv 5 J
 have i0:f0 0=pV da 0:=ha 0 bm
 have i1:f0 1=C f_:=ha 1 bm
 have i2:f0 2=C t_:=ha 2 bm
 refine aD<|au (v:=C 0) J J<|av<|sq<|aD<|ak J i0<|k<|nc J J<|aU EG J J<|bq H 0 J K7 J J J<|ak J i1<|ak J i2<|k<|bd (v:=.agg #[C f_,C t_]) J (ct J<|ct J eA) (fun _=>aV)<|k<|YJ (k:=(f_,t_)) La H 4 J J J J J ?_
 intro cm
 refine ak (v:=.tuple #[C ((getM mp (f_,t_)).getD 0),.bool ((getM mp (f_,t_)).isSome)]) J J<|k<|xt J J J<|k<|xt J J J<|au (v:=C ((getM mp (f_,t_)).getD 0)) J J<|au (v:=.bool ((getM mp (f_,t_)).isSome)) J J<|bz<|ak (v:=.bool ((getM mp (f_,t_)).isSome)) J J<|z<|nx<|cd (b:=(getM mp (f_,t_)).isSome) J J (fun b0=>?_)<|fun b0=>?_
 ·
  refine aD<|ak (v:=C ((getM mp (f_,t_)).getD 0)) J J<|au (v:=C ((getM mp (f_,t_)).getD 0)) J J<|av<|rt<|aL<|r1 J J ?_
  have e0:((getM mp (f_,t_)).getD 0:Int)=((getM mp (f_,t_)).getD 0):=rfl
  try rw[←e0]
  refine⟨((getM mp (f_,t_)).getD 0),sp,mp,eF,eE,?_,?_,aq,bu⟩
  · first|rfl|simp only[e0]|(simp only[apk])
  · first|exact H|simpa +zetaDelta only[e0,apk] using H
 refine sk<|cQ<|au (v:=C 1) J J<|av<|sq<|aD<|ak J i0<|k<|nc J J<|aU I4 J J<|aU sm J J<|bq H 0 J qv J J J<|ak J i2<|k<|ia (H.rv 2 J) J J J J aq cw aT ?_
 intro iy x0 aN cB
 refine k<|kF cB.w aT J J ?_
 intro dN
 refine ak J i1<|k<|eql J J J J<|z<|nx<|cd (b:=decide (x0=f_)) J J (fun b1=>?_)<|fun b1=>?_
 ·
  refine rg<|au (v:=C 2) J J<|bz<|ak J i0<|ak (v:=C 2) J J<|ak J i1<|ak J i2<|k<|bd (v:=.agg #[C 2,C f_,C t_,C (-1),C (-1)]) J (ct J<|ct J<|ct J<|ct J<|ct J eA) (fun _=>aV)<|k ?_
  let J0:=box da #[.slice aC aF aB,R aA I az,R ay U ax,R eF sp eE,.map (some bD),C pn,R dm pr dh,.map (some bN)] 142
  let bf:=[J0,iL aA I az,iL ay U ax,oL w 175 eF sp eE,cj bD mp,iL dm pr dh,bW bN mq]
  have H0:HI M w w_ (bf++([]++r)):=HI.aQ (l:=bf) (l':=bf) (t:=r) H [0,1,2,3,4,5,6] aw J J
  have bT:=yZ (da:=da) (aC:=aC) (aF:=aF) (aB:=aB) (aA:=aA) (az:=az) (I:=I) (ay:=ay) (ax:=ax) (U:=U) (eF:=eF) (eE:=eE) (sp:=sp) (bD:=bD) (mp:=mp) (pn:=pn) (dm:=dm) (dh:=dh) (pr:=pr) (bN:=bN) (mq:=mq) (k_:=2) (f_:=f_) (t_:=t_) (g_:=(-1)) (h_:=(-1)) (w:=w) (w_:=w_) (r:=([]++r)) (M:=M) rn aS Gr I0 aS aS aq H0
  refine ca Lj J (ec J<|ec J e0) bT ?_
  rintro _ w0 ⟨a0,c0,rfl,H1⟩
  have H2:HI M w w0 ([box da #[.slice aC aF aB,R aA I az,R ay U ax,R a0 (sp++[(2,f_,t_,(-1),(-1))]) c0,.map (some bD),C pn,R dm pr dh,.map (some bN)] 142,iL aA I az,iL ay U ax,oL w 175 a0 (sp++[(2,f_,t_,(-1),(-1))]) c0,cj bD (jB mp (f_,t_) ((sp.length:Nat):Int)),iL dm pr dh,bW bN mq]++r):=H1
  refine au (v:=C ((sp.length:Nat):Int)) J J<|av<|rt<|r1 J J ?_
  refine⟨((sp.length:Nat):Int),(sp++[(2,f_,t_,(-1),(-1))]),(jB mp (f_,t_) ((sp.length:Nat):Int)),a0,c0,?_,?_,(by simp only[gj,jb,gC];omega),aS⟩
  · first|rfl|simp only[apk]
  · first|exact H2|simpa +zetaDelta only[apk] using H2
 refine sk<|cQ<|ak J i0<|ak (v:=C 1) J J<|ak J i1<|ak J i2<|k<|bd (v:=.agg #[C 1,C f_,C t_,C (-1),C (-1)]) J (ct J<|ct J<|ct J<|ct J<|ct J eA) (fun _=>aV)<|k ?_
 let J1:=box da #[.slice aC aF aB,R aA I az,R ay U ax,R eF sp eE,.map (some bD),C pn,R dm pr dh,.map (some bN)] 142
 let bZ:=[J1,iL aA I az,iL ay U ax,oL w 175 eF sp eE,cj bD mp,iL dm pr dh,bW bN mq]
 have H0:HI M w w_ (bZ++([]++r)):=HI.aQ (l:=bZ) (l':=bZ) (t:=r) H [0,1,2,3,4,5,6] aw J J
 have bT:=yZ (da:=da) (aC:=aC) (aF:=aF) (aB:=aB) (aA:=aA) (az:=az) (I:=I) (ay:=ay) (ax:=ax) (U:=U) (eF:=eF) (eE:=eE) (sp:=sp) (bD:=bD) (mp:=mp) (pn:=pn) (dm:=dm) (dh:=dh) (pr:=pr) (bN:=bN) (mq:=mq) (k_:=1) (f_:=f_) (t_:=t_) (g_:=(-1)) (h_:=(-1)) (w:=w) (w_:=w_) (r:=([]++r)) (M:=M) rn aS Gr I0 aS aS aq H0
 refine ca Lj J (ec J<|ec J e0) bT ?_
 rintro _ w0 ⟨a0,c0,rfl,H1⟩
 have H2:HI M w w0 ([box da #[.slice aC aF aB,R aA I az,R ay U ax,R a0 (sp++[(1,f_,t_,(-1),(-1))]) c0,.map (some bD),C pn,R dm pr dh,.map (some bN)] 142,iL aA I az,iL ay U ax,oL w 175 a0 (sp++[(1,f_,t_,(-1),(-1))]) c0,cj bD (jB mp (f_,t_) ((sp.length:Nat):Int)),iL dm pr dh,bW bN mq]++r):=H1
 refine au (v:=C ((sp.length:Nat):Int)) J J<|av<|rt<|r1 J J ?_
 refine⟨((sp.length:Nat):Int),(sp++[(1,f_,t_,(-1),(-1))]),(jB mp (f_,t_) ((sp.length:Nat):Int)),a0,c0,?_,?_,(by simp only[gj,jb,gC];omega),aS⟩
 · first|rfl|simp only[apk]
 · first|exact H2|simpa +zetaDelta only[apk] using H2
theorem mM (rn:aK pn) (Gr:aK f_) (I0:aK t_) (hT:fY 0 w) (IX:sp.length≤2800000000000) (J_:pn=((I.length:Nat):Int)) (ajG:U.length=I.length) (ajH:I.length≤64) (uM:bL pn pr=true) (H:HI M w w_ ([box da #[.slice aC aF aB,R aA I az,R ay U ax,R eF sp eE,.map (some bD),C pn,R dm pr dh,.map (some bN)] 142,iL aA I az,iL ay U ax,oL w 175 eF sp eE,cj bD mp,iL dm pr dh,bW bN mq]++r)):Calls aM 79 #[pV da 0,C f_,C t_] w_ (ck fun v w'=>∃(ix:Int) (tG:List cP) (He:KV) (oq:OA) (oo:Nat),v=C ix∧HI M w w' ([box da #[.slice aC aF aB,R aA I az,R ay U ax,R oq tG oo,.map (some bD),C pn,R dm pr dh,.map (some bN)] 142,iL aA I az,iL ay U ax,oL w 175 oq tG oo,cj bD He,iL dm pr dh,bW bN mq]++r)∧tG.length≤sp.length+200∧aK ix):=by
 refine enter 75 Tryz.func79 J J J fun f0 ha=>?_
 have iE:=bg<|H.rv 1 J
 have kh:=bg<|H.rv 2 J
 have Ex:=kr<|H.at_ 3 J
 have Ey:=bg<|H.rv 5 J
 have i0:f0 0=pV da 0:=ha 0 bm
 have i1:f0 1=C f_:=ha 1 bm
 have i2:f0 2=C t_:=ha 2 bm
 refine aD<|au (v:=C 0) J J<|av<|sq<|aD<|ak J i0<|k<|nc J J<|aU EG J J<|bq H 0 J K7 J J J<|ak J i1<|ak J i2<|k<|bd (v:=.agg #[C f_,C t_]) J (ct J<|ct J eA) (fun _=>aV)<|k<|YJ (k:=(f_,t_)) La H 4 J J J J J ?_
 intro cm
 refine ak (v:=.tuple #[C ((getM mp (f_,t_)).getD 0),.bool ((getM mp (f_,t_)).isSome)]) J J<|k<|xt J J J<|k<|xt J J J<|au (v:=C ((getM mp (f_,t_)).getD 0)) J J<|au (v:=.bool ((getM mp (f_,t_)).isSome)) J J<|bz<|ak (v:=.bool ((getM mp (f_,t_)).isSome)) J J<|z<|nx<|cd (b:=(getM mp (f_,t_)).isSome) J J (fun b0=>?_)<|fun b0=>?_
 ·
  refine aD<|ak (v:=C ((getM mp (f_,t_)).getD 0)) J J<|au (v:=C ((getM mp (f_,t_)).getD 0)) J J<|av<|rt<|aL<|r1 J J ?_
  have e0:((getM mp (f_,t_)).getD 0:Int)=((getM mp (f_,t_)).getD 0):=rfl
  try rw[←e0]
  refine⟨((getM mp (f_,t_)).getD 0),sp,mp,eF,eE,?_,?_,aq,bu⟩
  · first|rfl|simp only[e0]|(simp only[apk])
  · first|exact H|simpa +zetaDelta only[e0,apk] using H
 refine sk<|cQ<|ak J i0<|k<|nc J J<|aU rI J J<|k<|cC H 0 J bp J J aw J<|ak J i1<|ak J i2<|k ?_
 have bT:=Tl (mn:=pn) (mr:=pr) (i:=f_) (j:=t_) (w:=w_) H.mb (hT.ext H.below) rn (H.rv 5 J) Gr I0<|by exact uM
 refine ca ahe J (ec J<|ec J<|ec J e0) bT ?_
 rintro _ w0 ⟨a0,c0,rfl,bY,dN⟩
 have H0:=H.eU dN
 let J0:=oL w 3 a0 ((fB pn pr f_ t_).getD []) c0
 let J1:=box da #[.slice aC aF aB,R aA I az,R ay U ax,R eF sp eE,.map (some bD),C pn,R dm pr dh,.map (some bN)] 142
 let J2:=iL aA I az
 let J3:=iL ay U ax
 let J4:=oL w 175 eF sp eE
 let J5:=iL dm pr dh
 let bf:=[J1,J2,J3,J4,cj bD mp,J5,bW bN mq]
 have H1:HI M w w0 ((J0::bf)++r):=H0
 refine ak (v:=.tuple #[R a0 ((fB pn pr f_ t_).getD []) c0,.bool ((fB pn pr f_ t_).isSome)]) J J<|k<|xt J J J<|k<|xt J J J<|au (v:=R a0 ((fB pn pr f_ t_).getD []) c0) J J<|au (v:=.bool ((fB pn pr f_ t_).isSome)) J J<|av<|sq<|aD<|ak (v:=.bool ((fB pn pr f_ t_).isSome)) J J<|k<|jr J J<|z<|nx<|cd (b:=!((fB pn pr f_ t_).isSome)) J J (fun b1=>?_)<|fun b1=>?_
 ·
  refine aD<|au (v:=C (-1)) J J<|av<|rt<|aL<|r1 J J ?_
  have H2:=HI.aQ (l:=(J0::bf)) (l':=bf) (t:=r) H1 [1,2,3,4,5,6,7] aw J J
  refine⟨(-1),sp,mp,eF,eE,?_,?_,aq,(by unfold aK;omega)⟩
  · first|rfl|simp only[apk]
  · first|exact H2|simpa +zetaDelta only[apk] using H2
 refine sk<|nx<|sq ?_
 have aem:(fB pn pr f_ t_).isSome=true:=by simpa using b1
 have an8:=Wl uM aem
 have ad':=fun (q_:Nat) (x_:Int) (h_:((fB pn pr f_ t_).getD [])[q_]? =some x_)=>Wm uM aem h_
 refine mw [.r,.r,.r,.r,.r,.r,.r,.e,.e] (fun _=>True) J aV (fun _ _=>trivial)<|yq J J<|kq (fun _ _=>mv J i0 e1)<|bS<|kq (fun _ _=>mv (v:=R a0 ((fB pn pr f_ t_).getD []) c0) J J e1)<|bS<|tL (H1.at_ 0 J) J J J J aq cw aT ?_
 intro iy x0 aN cB
 refine bS<|mC cB aT J J ?_
 intro dH
 refine bS<|kq (fun _ _=>mv (v:=R a0 ((fB pn pr f_ t_).getD []) c0) J J e1)<|bS<|tL (H1.at_ 0 J) J J J J aq cw aT ?_
 intro mV x1 cO gx
 refine bS<|mC gx aT J J ?_
 intro ft
 refine zq<|ye<|ye<|yz ?_
 intro w1 f0 _ cS _ _ cG jc
 have H2:=H1.ext cS
 have s0:=(cG 0 J).trans i0
 have s1:=(cG 1 J).trans i1
 have s2:=cG 9 J
 have s3:=cG 39 J
 have s4:=cG 42 J
 have s5:=cG 45 J
 refine km ?_
 let bZ:=[J5,bW bN mq,J0]
 have H3:HI M w w1 (bf++([J0]++r)):=HI.aQ (l:=(J0::bf)) (l':=(J1::J2::J3::J4::cj bD mp::bZ)) (t:=r) H2 [1,2,3,4,5,6,7,0] aw J J
 have df:=G6 (da:=da) (aC:=aC) (aF:=aF) (aB:=aB) (aA:=aA) (az:=az) (I:=I) (ay:=ay) (ax:=ax) (U:=U) (eF:=eF) (eE:=eE) (sp:=sp) (bD:=bD) (mp:=mp) (pn:=pn) (dm:=dm) (dh:=dh) (pr:=pr) (bN:=bN) (mq:=mq) (f_:=x0) (t_:=x1) (w:=w) (w_:=w1) (r:=([J0]++r)) (M:=M) rn dH ft aq (by have h_:=ad' _ _ cO;omega) H3
 refine ca ZB J (ec s3<|ec s4<|ec s5 e0) df ?_
 rintro _ w2 ⟨o0,o1,o2,a1,c1,rfl,H4,q0,q1⟩
 refine km<|jV (v:=C o0) J J<|kz<|nx<|sq<|aD<|au (v:=C 2) J J<|av<|bk<|lp (fun m f w'=>∃(j_:Nat) (E4:Int) (jv:List cP) (oH:KV) (a2:OA) (c2:Nat),m=((fB pn pr f_ t_).getD []).length-j_∧f 0=pV da 0∧f 1=C f_∧f 9=R a0 ((fB pn pr f_ t_).getD []) c0∧f 11=C E4∧f 12=C (j_:Int)∧HI M w w' ((box da #[.slice aC aF aB,R aA I az,R ay U ax,R a2 jv c2,.map (some bD),C pn,R dm pr dh,.map (some bN)] 142::J2::J3::oL w 175 a2 jv c2::cj bD oH::bZ)++r)∧(2≤j_∧j_≤((fB pn pr f_ t_).getD []).length)∧(jv.length+1≤sp.length+2*j_)∧(aK E4)) _ ⟨2,o0,o1,o2,a1,c1,J,s0,s1,s2,(bH J),(bH J),H4,aq,aq,bu⟩ ?_
 rintro _ f1 w3 ⟨j_,E4,jv,oH,a2,c2,rfl,s6,s7,s8,s9,ei,H6,kb,IY,aog⟩
 refine sq<|aD<|ak J ei<|ak J s8<|k<|dP J J cw<|k<|lss J J J J<|z<|nx<|cd (b:=decide ((j_:Int)<(((fB pn pr f_ t_).getD []).length:Int))) J J (fun b2=>?_)<|fun b2=>?_
 ·
  have p2:=dT b2
  refine sk<|nx<|sq<|bk<|sq<|mw [.r,.r,.r,.r,.r,.r,.r,.r,.r,.r,.e,.e] (fun _=>True) J aV (fun _ _=>trivial)<|yq J J<|kq (fun _ _=>mv J s6 e1)<|bS<|kq (fun _ _=>mv J s8 e1)<|bS<|kq (fun _ _=>mv J ei e1)<|bS<|kq (fun _ _=>sub J J J J aS e1)<|bS<|tL (H6.at_ 7 J) J J J J aq cw aT ?_
  intro jo x2 iY jw
  refine bS<|mC jw aT J J ?_
  intro iO
  refine bS<|kq (fun _ _=>mv J s8 e1)<|bS<|kq (fun _ _=>mv J ei e1)<|bS<|tL (H6.at_ 7 J) J J J J aq cw aT ?_
  intro nD x3 nr qe
  refine bS<|mC qe aT J J ?_
  intro jK
  refine zq<|ye<|ye<|yz ?_
  intro w4 f2 _ fm _ _ fO AN
  have H7:=H6.ext fm
  have eR:=(fO 0 J).trans s6
  have fM:=(fO 1 J).trans s7
  have fL:=(fO 9 J).trans s8
  have gv:=(fO 11 J).trans s9
  have gH:=(fO 12 J).trans ei
  have jZ:=fO 53 J
  have kl:=fO 58 J
  have ln:=fO 62 J
  refine km ?_
  let J6:=box da #[.slice aC aF aB,R aA I az,R ay U ax,R a2 jv c2,.map (some bD),C pn,R dm pr dh,.map (some bN)] 142
  let eh:=J6::J2::J3::oL w 175 a2 jv c2::cj bD oH::bZ
  have H8:HI M w w4 ([J6,J2,J3,oL w 175 a2 jv c2,cj bD oH,J5,bW bN mq]++([J0]++r)):=HI.aQ (l:=eh) (l':=eh) (t:=r) H7 [0,1,2,3,4,5,6,7] aw J J
  have fF:=G6 (da:=da) (aC:=aC) (aF:=aF) (aB:=aB) (aA:=aA) (az:=az) (I:=I) (ay:=ay) (ax:=ax) (U:=U) (eF:=a2) (eE:=c2) (sp:=jv) (bD:=bD) (mp:=oH) (pn:=pn) (dm:=dm) (dh:=dh) (pr:=pr) (bN:=bN) (mq:=mq) (f_:=x2) (t_:=x3) (w:=w) (w_:=w4) (r:=([J0]++r)) (M:=M) rn iO jK aq (by have h_:=ad' _ _ nr;omega) H8
  refine ca ZB J (ec jZ<|ec kl<|ec ln e0) fF ?_
  rintro _ w5 ⟨o3,o4,o5,a3,c3,rfl,H9,q2,q3⟩
  let J7:=box da #[.slice aC aF aB,R aA I az,R ay U ax,R a3 o4 c3,.map (some bD),C pn,R dm pr dh,.map (some bN)] 142
  let jz:=J7::J2::J3::oL w 175 a3 o4 c3::cj bD o5::bZ
  have dB:HI M w w5 (jz++r):=H9
  refine km<|jV (v:=C o3) J J<|kz<|nx<|rg<|ak J eR<|ak J fM<|ak J fL<|ak J gH<|k<|iC (dB.at_ 7 J) J J J J aq cw aT ?_
  intro g0 x4 iP yo rr
  refine k<|kF rr aT J J ?_
  intro i'
  refine ak J gv<|ak (v:=C o3) J J<|k<|bd (v:=.agg #[C 3,C f_,C x4,C E4,C o3]) J (ct J<|ct J<|ct J<|ct J<|ct J eA) (fun _=>aV)<|k ?_
  have cT:HI M w w5 ([J7,J2,J3,oL w 175 a3 o4 c3,cj bD o5,J5,bW bN mq]++([J0]++r)):=HI.aQ (l:=jz) (l':=jz) (t:=r) dB [0,1,2,3,4,5,6,7] aw J J
  have fc:=yZ (da:=da) (aC:=aC) (aF:=aF) (aB:=aB) (aA:=aA) (az:=az) (I:=I) (ay:=ay) (ax:=ax) (U:=U) (eF:=a3) (eE:=c3) (sp:=o4) (bD:=bD) (mp:=o5) (pn:=pn) (dm:=dm) (dh:=dh) (pr:=pr) (bN:=bN) (mq:=mq) (k_:=3) (f_:=f_) (t_:=x4) (g_:=E4) (h_:=o3) (w:=w) (w_:=w5) (r:=([J0]++r)) (M:=M) rn aS Gr i' bu bu aq cT
  refine ca Lj J (ec J<|ec J e0) fc ?_
  rintro _ w6 ⟨a4,c4,rfl,db⟩
  let J8:=box da #[.slice aC aF aB,R aA I az,R ay U ax,R a4 (o4++[(3,f_,x4,E4,o3)]) c4,.map (some bD),C pn,R dm pr dh,.map (some bN)] 142
  let J9:=oL w 175 a4 (o4++[(3,f_,x4,E4,o3)]) c4
  let d_:=cj bD (jB o5 (f_,x4) ((o4.length:Nat):Int))
  refine au (v:=C ((o4.length:Nat):Int)) J J<|z<|aH<|nx<|rg<|ak J gH<|k<|add J J J J aS<|au (v:=C ((j_:Int)+1)) J J<|z ?_
  have cM:=db.put (it:=J2) J<|db.rv 1 J
  have dI:=cM.put (it:=J3) J<|cM.rv 3 J
  have dX:=dI.put (it:=J5) J<|dI.rv 7 J
  let fQ:=J8::J2::J3::J9::d_::bZ
  have dV:HI M w w6 ((J5::J3::J2::fQ)++r):=dX
  have cJ:HI M w w6 (fQ++r):=HI.aQ (l:=(J5::J3::J2::fQ)) (l':=fQ) (t:=r) dV [3,2,1,6,7,0,9,10] aw J J
  refine bB _ ?_ ⟨(j_+1),((o4.length:Nat):Int),(o4++[(3,f_,x4,E4,o3)]),(jB o5 (f_,x4) ((o4.length:Nat):Int)),a4,c4,J,eR,fM,fL,(bH J),(bH J),cJ,aq,(by simp only[gj,jb,gC];omega),(by unfold aK;omega)⟩
  omega
 refine ex<|aW<|ba<|bh<|cQ<|ak J s9<|au (v:=C E4) J J<|av<|rt<|r1 J J ?_
 let eJ:=box da #[.slice aC aF aB,R aA I az,R ay U ax,R a2 jv c2,.map (some bD),C pn,R dm pr dh,.map (some bN)] 142
 have H7:=HI.aQ (l:=(eJ::J2::J3::oL w 175 a2 jv c2::cj bD oH::bZ)) (l':=[eJ,J2,J3,oL w 175 a2 jv c2,cj bD oH,J5,bW bN mq]) (t:=r) H6 [0,1,2,3,4,5,6] aw J J
 refine⟨E4,jv,oH,a2,c2,?_,?_,aq,bu⟩
 · first|rfl|simp only[apk]
 · first|exact H7|simpa +zetaDelta only[apk] using H7
theorem Ac:cD aM 79:=cE Tryz.func79
theorem agX:cD aM 156:=cE Tryz.func156
theorem Bw (rn:aK pn) (B1:aK fE) (EB:aK fH) (B0:aK gK) (hT:fY 0 w) (IX:sp.length≤2700000000000) (J_:pn=((I.length:Nat):Int)) (ajG:U.length=I.length) (ajH:I.length≤64) (uM:bL pn pr=true) (H:HI M w w_ ([box da #[.slice aC aF aB,R aA I az,R ay U ax,R eF sp eE,.map (some bD),C pn,R dm pr dh,.map (some bN)] 142,iL aA I az,iL ay U ax,oL w 175 eF sp eE,cj bD mp,iL dm pr dh,bW bN mq]++r)):Calls aM 122 #[pV da 0,.agg #[C fE,C fH,C gK]] w_ (ck fun v w'=>∃(tG:List cP) (He:KV) (oq:OA) (oo:Nat),v=.tuple #[]∧HI M w w' ([box da #[.slice aC aF aB,R aA I az,R ay U ax,R oq tG oo,.map (some bD),C pn,R dm pr dh,.map (some bN)] 142,iL aA I az,iL ay U ax,oL w 175 oq tG oo,cj bD He,iL dm pr dh,bW bN mq]++r)∧tG.length≤sp.length+201):=by
 refine enter 21 Tryz.func122 J J J fun f0 ha=>?_
 have iE:=bg<|H.rv 1 J
 have kh:=bg<|H.rv 2 J
 have Ex:=kr<|H.at_ 3 J
 have Ey:=bg<|H.rv 5 J
 have i0:f0 0=pV da 0:=ha 0 bm
 have i1:f0 1=.agg #[C fE,C fH,C gK]:=ha 1 bm
 refine aD<|k<|bx H J i1 ?_
 let J1:=box da #[.slice aC aF aB,R aA I az,R ay U ax,R eF sp eE,.map (some bD),C pn,R dm pr dh,.map (some bN)] 142
 let J2:=iL aA I az
 let J3:=iL ay U ax
 let J4:=oL w 175 eF sp eE
 let J5:=iL dm pr dh
 let bf:=[J1,J2,J3,J4,cj bD mp,J5,bW bN mq]
 intro aX w0 bY (H0:HI M w w0 ((box aX #[C fE,C fH,C gK] 122::bf)++r))
 let J0:=box aX #[C fE,C fH,C gK] 122
 refine bz<|ak J i0<|aU kV J J<|bq H0 0 J aT J J J<|aU tn J J<|bq H0 0 J aT J J J<|k ?_
 let bZ:=[J5,bW bN mq,J0]
 have H1:HI M w w0 (bf++([J0]++r)):=HI.aQ (l:=(J0::bf)) (l':=(J1::J2::J3::J4::cj bD mp::bZ)) (t:=r) H0 [1,2,3,4,5,6,7,0] aw J J
 have bT:=mM (da:=da) (aC:=aC) (aF:=aF) (aB:=aB) (aA:=aA) (az:=az) (I:=I) (ay:=ay) (ax:=ax) (U:=U) (eF:=eF) (eE:=eE) (sp:=sp) (bD:=bD) (mp:=mp) (pn:=pn) (dm:=dm) (dh:=dh) (pr:=pr) (bN:=bN) (mq:=mq) (f_:=fE) (t_:=gK) (w:=w) (w_:=w0) (r:=([J0]++r)) (M:=M) rn B1 B0 hT aq aq aq aq (by exact uM) H1
 refine ca Ac J (ec J<|ec J<|ec J e0) bT ?_
 rintro _ w1 ⟨o0,o1,o2,a0,c0,rfl,H2,q0,q1⟩
 let J6:=box da #[.slice aC aF aB,R aA I az,R ay U ax,R a0 o1 c0,.map (some bD),C pn,R dm pr dh,.map (some bN)] 142
 let eh:=J6::J2::J3::oL w 175 a0 o1 c0::cj bD o2::bZ
 have H3:HI M w w1 (eh++r):=H2
 refine au (v:=C o0) J J<|av<|rg<|ak J i0<|aU kV J J<|bq H3 7 J aT J J J<|aU nf J J<|bq H3 7 J aT J J J<|ak (v:=C o0) J J<|aU tn J J<|bq H3 7 J aT J J J<|k<|bd (v:=.agg #[C 4,C fE,C fH,C o0,C gK]) J (ct J<|ct J<|ct J<|ct J<|ct J eA) (fun _=>aV)<|k ?_
 have H4:HI M w w1 ([J6,J2,J3,oL w 175 a0 o1 c0,cj bD o2,J5,bW bN mq]++([J0]++r)):=HI.aQ (l:=eh) (l':=eh) (t:=r) H3 [0,1,2,3,4,5,6,7] aw J J
 have df:=yZ (da:=da) (aC:=aC) (aF:=aF) (aB:=aB) (aA:=aA) (az:=az) (I:=I) (ay:=ay) (ax:=ax) (U:=U) (eF:=a0) (eE:=c0) (sp:=o1) (bD:=bD) (mp:=o2) (pn:=pn) (dm:=dm) (dh:=dh) (pr:=pr) (bN:=bN) (mq:=mq) (k_:=4) (f_:=fE) (t_:=fH) (g_:=o0) (h_:=gK) (w:=w) (w_:=w1) (r:=([J0]++r)) (M:=M) rn aS B1 EB bu B0 aq H4
 refine ca Lj J (ec J<|ec J e0) df ?_
 rintro _ w2 ⟨a1,c1,rfl,H5⟩
 let J7:=box da #[.slice aC aF aB,R aA I az,R ay U ax,R a1 (o1++[(4,fE,fH,o0,gK)]) c1,.map (some bD),C pn,R dm pr dh,.map (some bN)] 142
 let J8:=oL w 175 a1 (o1++[(4,fE,fH,o0,gK)]) c1
 let J9:=cj bD (jB o2 (fE,fH) ((o1.length:Nat):Int))
 have H6:HI M w w2 ((J7::J2::J3::J8::J9::bZ)++r):=H5
 refine z<|EX J ?_
 have H7:=HI.aQ (l:=(J7::J2::J3::J8::J9::bZ)) (l':=[J7,J2,J3,J8,J9,J5,bW bN mq]) (t:=r) H6 [0,1,2,3,4,5,6] aw J J
 refine⟨(o1++[(4,fE,fH,o0,gK)]),(jB o2 (fE,fH) ((o1.length:Nat):Int)),a1,c1,?_,?_,(by simp only[gj,jb,gC];omega)⟩
 · first|rfl|simp only[apk]
 · first|exact H7|simpa +zetaDelta only[apk] using H7
theorem y_ {Al:OA} {Af:Nat} {es:List (Int×Int×Int)} (rn:aK pn) (uM:bL pn pr=true) (uZ:∀x∈es,kG pn [x.1,x.2.1]=true) (H:HI M w w_ ([box da #[.slice aC aF aB,R aA I az,R ay U ax,R eF sp eE,.map (some bD),C pn,R dm pr dh,.map (some bN)] 142,iL aA I az,iL ay U ax,oL w 175 eF sp eE,cj bD mp,iL dm pr dh,bW bN mq,iL Al es Af]++r)):Calls aM 120 #[pV da 0,R Al es Af] w_ (ck fun v w'=>∃(C8:List (List bw)) (zL:OA) (zG:Nat),v=.tuple #[]∧HI M w w' ([box da #[.slice aC aF aB,R aA I az,R ay U ax,R eF sp eE,.map (some bD),C pn,R zL C8 zG,.map (some bN)] 142,iL aA I az,iL ay U ax,oL w 175 eF sp eE,cj bD mp,iL zL C8 zG,bW bN mq,iL Al es Af]++r)∧bL pn C8=true):=by
 refine enter 28 Tryz.func120 J J J fun f0 ha=>?_
 have iE:=bg<|H.rv 1 J
 have kh:=bg<|H.rv 2 J
 have Ex:=kr<|H.at_ 3 J
 have Ey:=bg<|H.rv 5 J
 have anv:=bg<|H.rv 7 J
 have i0:f0 0=pV da 0:=ha 0 bm
 have i1:f0 1=R Al es Af:=ha 1 bm
 refine aD<|ak J i1<|k<|dP J J eD<|ak (v:=C 0) J J<|av<|bk ?_
 let J0:=iL dm pr dh
 have H0:=H.put (it:=J0) J<|H.rv 5 J
 let J1:=iL aA I az
 let J2:=iL ay U ax
 let J3:=oL w 175 eF sp eE
 let J4:=cj bD mp
 let J5:=iL Al es Af
 let bf:=[J1,J2,J3,J4,J0,bW bN mq,J5]
 refine lp (fun m f w'=>∃(j_:Nat) (m_:List (List bw)) (cK:Int) (a0:OA) (c0:Nat),m=es.length-j_∧f 0=pV da 0∧f 6=R Al es Af∧f 7=C (es.length:Int)∧f 8=C (j_:Int)∧HI M w w' ((iL a0 m_ c0::box da #[.slice aC aF aB,R aA I az,R ay U ax,R eF sp eE,.map (some bD),C cK,R a0 m_ c0,.map (some bN)] 142::bf)++r)∧(j_≤es.length)∧(cK=pn)∧(bL cK m_=true)) _ ⟨0,pr,pn,dm,dh,J,i0,J,J,(bH J),H0,aq,(by rfl),(by exact uM)⟩ ?_
 rintro _ f0 w0 ⟨j_,m_,cK,a0,c0,rfl,s0,s1,s2,s3,H2,kb,DG,ti⟩
 refine aD<|k<|lss J J s3 s2<|av<|sq<|cd (b:=decide ((j_:Int)<(es.length:Int))) J J (fun b0=>?_)<|fun b0=>?_
 ·
  have p0:=dT b0
  refine sk<|nx<|sq<|bk<|aD<|k<|ia (H2.rv 8 J) J J s1 s3 aq eD cN ?_
  intro iy x0 aN cB
  refine k<|nI cB.w cN J J ?_
  intro v0 cm
  obtain⟨_,⟨_,_,rfl,⟨rfl,dN⟩,⟨_,_,rfl,⟨rfl,dH⟩,⟨rfl,ft⟩⟩⟩,rfl⟩:=cm
  refine k<|al H2 cN ?_
  let J6:=iL a0 m_ c0
  let J7:=box da #[.slice aC aF aB,R aA I az,R ay U ax,R eF sp eE,.map (some bD),C cK,R a0 m_ c0,.map (some bN)] 142
  intro aX w1 bY (H3:HI M w w1 ((box aX #[C 0,C 0,C 0] 122::J6::J7::bf)++r))
  refine k<|bA H3 0 J cN J J J J J J J ?_
  let J8:=box aX #[C x0.1,C x0.2.1,C x0.2.2] 122
  intro w2 (H4:HI M w w2 ((J8::J6::J7::bf)++r))
  refine z<|nx ?_
  have sP:kG cK [x0.1,x0.2.1]=true:=by rw[DG];exact uZ x0 (dO aN)
  refine mw [.r,.r,.r,.r,.r,.r,.r,.r,.r,.r,.r,.r,.s,.r,.r,.e] (fun _=>True) J aV (fun _ _=>trivial)<|yq J J<|kq (fun _ _=>mv J s0 e1)<|bS<|kq (fun _ _=>mv J s0 e1)<|bS<|kq (fun _ _=>nc J J e1)<|bS<|kq (fun _ _=>fa rI J J e1)<|bS<|kq (fun _ x_=>cC (H4.ext x_) 2 J bp J J aw J e1)<|bS<|kq (fun _ _=>fa kV J J e1)<|bS<|kq (fun _ x_=>lx (H4.ext x_) 0 J aT J J J e1)<|bS<|kq (fun _ _=>fa nf J J e1)<|bS<|kq (fun _ x_=>lx (H4.ext x_) 0 J aT J J J e1)<|zq<|yu J (fun _ v w'=>∃(a1:OA) (c1:Nat),v=.tuple #[.agg #[C (iu cK x0.1 x0.2.1),R a1 (kg cK m_ x0.1 x0.2.1) c1],C (lM cK x0.1 x0.2.1)]∧RV H4.eI w' (R a1 (kg cK m_ x0.1 x0.2.1) c1) (kg cK m_ x0.1 x0.2.1)) J oA J (fun v_ _ x_ _=>have df:=aaU (mn:=cK) (mr:=m_) (i:=x0.1) (j:=x0.2.1) (w:=v_) (H4.ext x_).mb aS ((H4.ext x_).rv 1 rfl) dN dH (by exact(bU ti).1) (by exact(bU ti).2.1) (by exact(bU ti).2.2.1);ca agX rfl (ec J<|ec J<|ec J e0) df (fun _ w4 ⟨a2,c2,e_,fm,i'⟩=>⟨_,J,fm,⟨a2,c2,e_,(bo.rv i' (H4.ext x_).mb)⟩⟩))<|lP J (fun _ v w'=>∃(a3:OA) (c3:Nat),v=.tuple #[.agg #[C (iu cK x0.1 x0.2.1),R a3 (kg cK m_ x0.1 x0.2.1) c3],C (lM cK x0.1 x0.2.1)]∧RV H4.eI w' (R a3 (kg cK m_ x0.1 x0.2.1) c3) (kg cK m_ x0.1 x0.2.1)) 0 J J oA J (fun _ _ _ _ _ h_=>let ⟨a4,c4,s4,n9⟩:=h_;mv rfl s4 ⟨_,J,Ext.refl _,⟨a4,c4,J,n9⟩⟩)<|lP J (fun _ v w'=>∃(a5:OA) (c5:Nat),v=.agg #[C (iu cK x0.1 x0.2.1),R a5 (kg cK m_ x0.1 x0.2.1) c5]∧RV H4.eI w' (R a5 (kg cK m_ x0.1 x0.2.1) c5) (kg cK m_ x0.1 x0.2.1)) 0 J J oA J (fun _ _ _ _ _ h_=>let ⟨a6,c6,s5,nR⟩:=h_;xt rfl s5 rfl ⟨_,J,Ext.refl _,⟨a6,c6,J,nR⟩⟩)<|Sn J (X:=C (lM cK x0.1 x0.2.1)) 1 J J (fun _ _ _ _ _ h_=>let ⟨a8,c8,s6,pI⟩:=h_;xt rfl s6 rfl e1)<|yq J J<|kq (fun _ _=>nc J J e1)<|bS<|kq (fun _ _=>fa rI J J e1)<|zq<|ye<|yz ?_
  intro w5 f1 _ fg _ _ cG jc
  have ef:=H4.ext fg
  have s7:=(cG 0 J).trans s0
  have s8:=(cG 6 J).trans s1
  have s9:=(cG 7 J).trans s2
  have ei:=(cG 8 J).trans s3
  obtain⟨a9,c9,eR,qx⟩:=jc 0 _ _ rfl
  let J9:=iL a9 (kg cK m_ x0.1 x0.2.1) c9
  have dA:=ef.put (it:=J9) J qx
  have fM:=cG 26 J
  refine km<|bA dA 3 J bp J J fM eR J J J ?_
  let d_:=box da #[.slice aC aF aB,R aA I az,R ay U ax,R eF sp eE,.map (some bD),C (iu cK x0.1 x0.2.1),R a9 (kg cK m_ x0.1 x0.2.1) c9,.map (some bN)] 142
  intro w6 (fw:HI M w w6 ((J9::J8::J6::d_::bf)++r))
  refine kz<|aH<|nx<|rg<|k<|add J J ei J aS<|ak (v:=C ((j_:Int)+1)) J J<|z ?_
  have gl:=fw.put (it:=J9) J<|fw.rv 0 J
  have iQ:=gl.put (it:=J1) J<|gl.rv 5 J
  have iA:=iQ.put (it:=J2) J<|iQ.rv 7 J
  have pF:HI M w w6 ((J2::J1::J9::J9::J8::J6::d_::bf)++r):=iA
  have kC:HI M w w6 ((J9::d_::bf)++r):=HI.aQ (l:=(J2::J1::J9::J9::J8::J6::d_::bf)) (l':=(J9::d_::bf)) (t:=r) pF [2,6,1,0,9,10,11,12,13] aw J J
  refine bB _ ?_ ⟨(j_+1),(kg cK m_ x0.1 x0.2.1),(iu cK x0.1 x0.2.1),a9,c9,J,s7,s8,s9,(bH J),kC,aq,(by rw[(qm (rs:=m_) sP).1];exact DG),(by exact SZ ti sP)⟩
  omega
 refine ex<|aW<|ba<|bh<|EX J ?_
 let eJ:=box da #[.slice aC aF aB,R aA I az,R ay U ax,R eF sp eE,.map (some bD),C cK,R a0 m_ c0,.map (some bN)] 142
 have H3:=HI.aQ (l:=(iL a0 m_ c0::eJ::bf)) (l':=[eJ,J1,J2,J3,J4,iL a0 m_ c0,bW bN mq,J5]) (t:=r) H2 [1,2,3,4,5,0,7,8] aw J J
 have e0:(cK:Int)=pn:=by exact DG
 try rw[←e0]
 refine⟨m_,a0,c0,?_,?_,(by exact ti)⟩
 · first|rfl|simp only[e0]|(simp only[apk])
 · first|exact H3|simpa +zetaDelta only[e0,apk] using H3
end Go.Proofs.YtgjakhpjmapelaaGreatDoor
