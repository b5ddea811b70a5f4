/- PRINTED by my own tool (wip/tool/gen.py): contracts of Go functions of this seat, each with its proof. -/
import Derived.Test.YtgjakhpjmapelaaGreatDoorOwnB
import Derived.Test.YtgjakhpjmapelaaGreatDoorGenA
import Derived.Test.YtgjakhpjmapelaaGreatDoorOwnC
import Derived.Test.YtgjakhpjmapelaaGreatDoorOwnA
set_option linter.unusedVariables false
set_option linter.unusedSimpArgs false
namespace Go.Proofs.YtgjakhpjmapelaaGreatDoor
open Go.Ew Go.RowKit
set_option maxRecDepth 100000
set_option maxHeartbeats 1600000
attribute [local irreducible] WL WC SO PW PX PZ WE Code.wp wpList rT cb
attribute [local irreducible] j2 xc jj fe dY z8 CS Ky words dX cR jz fz ve
variable {M:Nat→Prop} {w w_:World}
variable {s:ByteArray} {gq l_ aD ay aA bA dO eu cX:OA} {gp mC aF aC ax eS az bz dH cS ep bw cW bH:Nat} {h:List (List (Bool×ByteArray×Int))} {I:List aH} {vr o mn i j n pn f_ t_ fm fu gA:Int} {mr pr:List (List bX)} {l U xs:List Int} {fv:List ByteArray} {r:List Go.Ew.Item} {x y:bX} {sp:List cH} {mp:KV} {mq:List ((Int×Int)×Bool)}
theorem mu:aJ.underlying 9=some (.string):=aM
theorem rP:aJ.underlying 37=some (.slice 40):=aM
theorem tK:eh aJ 40 1 false 24 (.slice none 0 0):=⟨aM,aM⟩
theorem pL:aJ.underlying 40=some (.slice 43):=aM
theorem iu:eh aJ 43 3 true 32 (.agg #[.bool false,.string ⟨#[]⟩,.int .i64 0]):=⟨aM,aM⟩
theorem VA:ct aJ 12:=⟨_,_,Tryz.func12,rfl,aM⟩
theorem mW:gM aJ 43 1 1:=⟨_,_,Tryz.underlying43,rfl,rfl,aM⟩
theorem nW:eh aJ 9 1 false 16 (.string ⟨#[]⟩):=⟨aM,aM⟩
theorem aia:ct aJ 44:=⟨_,_,Tryz.func44,rfl,aM⟩
theorem aib:ct aJ 43:=⟨_,_,Tryz.func43,rfl,aM⟩
theorem Hm:aJ.underlying 44=some (.slice 9):=aM
theorem ait:ct aJ 20:=⟨_,_,Tryz.func20,rfl,aM⟩
theorem uV:gM aJ 47 0 0:=⟨_,_,Tryz.underlying47,rfl,rfl,aM⟩
theorem BN:eh aJ 44 1 false 24 (.slice none 0 0):=⟨aM,aM⟩
theorem ah':ct aJ 48:=⟨_,_,Tryz.func48,rfl,aM⟩
theorem py:gM aJ 43 0 0:=⟨_,_,Tryz.underlying43,rfl,rfl,aM⟩
theorem qD:gM aJ 43 2 2:=⟨_,_,Tryz.underlying43,rfl,rfl,aM⟩
theorem rz:gM aJ 95 4 4:=⟨_,_,Tryz.underlying95,rfl,rfl,aM⟩
theorem acB:ct aJ 49:=⟨_,_,Tryz.func49,rfl,aM⟩
theorem Pv (kQ:s.size≤maxLen):Calls aJ 44 #[.string s] w (cb fun v w'=>v=.bool (mg s)∧Ext w w'):=by
 refine df 28 Tryz.func44 J J J pk fun f0 ha H=>?_
 have i0:f0 0=.string s:=ha 0 bh
 have hS_:s.size≤9223372036854775807:=by have h_:=kQ;simp only[maxLen] at h_;exact h_
 refine aB<|au (v:=.bool false) J J<|av<|sq<|aB<|au (v:=C 0) J J<|av<|bk ?_
 refine lp (fun m f w'=>∃(j:Nat),m=s.size-j∧f 0=.string s∧f 3=C (j:Int)∧HI (fun _=>False) w w' []∧(j≤s.size)∧((s.data.toList.take j).all vv=true)) _ ⟨0,J,i0,(bJ J),H,aq,(by rfl)⟩ ?_
 rintro _ f0 w0 ⟨j,rfl,s0,s1,H0,hk,hs⟩
 refine sq<|aB<|ak J s1<|ak J s0<|k<|vz J J mu<|k<|lss J J J J<|z<|nx ?_
 refine cd (b:=decide ((j:Int)<(s.size:Int))) J J (fun b0=>?_)<|fun b0=>?_
 ·
  have p0:=dT b0
  refine sk<|nx<|sq<|bk<|aB<|ak J s0<|ak J s1<|k<|ixS J J J J aq mu ?_
  intro c0 sj
  refine k<|lss J J J J<|ak (v:=.bool (decide ((c0.toNat:Int)<97))) J J ?_
  rcases bE (decide ((c0.toNat:Int)<97)) with b1|b1
  ·
   have p1:=dT b1
   refine aN J J J b1<|aN J J J b1<|aN J J J b1<|aN J J J b1<|k<|aR J J J J b1 J<|av<|oP J J J<|aB<|au (v:=.bool false) J J<|av<|rt<|bQ<|aL<|dQ<|bQ<|aL<|r1 J J ?_
   exact⟨amh Value.bool (by exact N6 sj (aaJ b1)),H0.below⟩
  have p1:=dF b1
  refine aT J J J b1<|mv J s0<|aT J J J b1<|mv J s1<|aT J J J b1<|ixS J J J J aq mu ?_
  intro c1 yl
  refine aT J J J b1<|gtr J J J J<|k<|cK J J J J b1 J<|z<|nx ?_
  refine cd (b:=decide (122<(c1.toNat:Int))) J J (fun b2=>?_)<|fun b2=>?_
  ·
   have p2:=dT b2
   refine aB<|au (v:=.bool false) J J<|av<|rt<|bQ<|aL<|dQ<|bQ<|aL<|r1 J J ?_
   exact⟨amh Value.bool (by exact N6 sj (by have e_:=amo (yl.symm.trans sj);subst e_;exact aaK b2)),H0.below⟩
  have p2:=dF b2
  refine sk<|aI<|nx<|rg<|ak J s1<|k<|add J J J J aV<|au (v:=C ((j:Int)+1)) J J<|z ?_
  refine bB _ ?_ ⟨(j+1),J,s0,(bJ J),H0,aq,(by exact FF (Go.Ew.byte_at sj) hs (by have e_:=amo (yl.symm.trans sj);subst e_;exact YW b1 b2))⟩
  omega
 have p0:=dF b0
 refine ex<|aX<|bf<|bg<|cI<|ak J s0<|k<|vz J J mu<|k<|geq J J J J<|ak (v:=.bool (decide (1≤(s.size:Int)))) J J ?_
 rcases bE (decide (1≤(s.size:Int))) with b1|b1
 ·
  have p1:=dT b1
  refine aT J J J b1<|mv J s0<|aT J J J b1<|vz J J mu<|aT J J J b1<|leq J J J J<|k<|aR J J J J b1 J<|au (v:=.bool (decide ((s.size:Int)≤8))) J J<|av<|rt<|r1 J J ?_
  exact⟨amh Value.bool (by unfold mg;rw[Ld hs aq];first|(rw[show decide (1≤s.size)=true from amp aq,ane,ane,anx];omega)|(rw[show decide (1≤s.size)=false from ams aq];rfl)),H0.below⟩
 have p1:=dF b1
 refine aN J J J b1<|aN J J J b1<|aN J J J b1<|k<|cK J J J J b1 J<|au (v:=.bool false) J J<|av<|rt<|r1 J J ?_
 exact⟨amh Value.bool (by unfold mg;rw[Ld hs aq];first|(rw[show decide (1≤s.size)=true from amp aq,ane,ane,anx];omega)|(rw[show decide (1≤s.size)=false from ams aq];rfl)),H0.below⟩
theorem AD (hM:eD M w) (kh:cw M w gq gp h) (lE:h.flatten.length≤1048576):Calls aJ 12 #[R gq h gp] w (cb fun v w'=>∃(a0:OA) (c0:Nat),v=.slice a0 h.flatten.length c0∧Ext w w'∧RV M w' (.slice a0 h.flatten.length c0) h.flatten):=by
 refine df 18 Tryz.func12 J J J hM fun f0 ha H=>?_
 have H0:=ee H kh
 have vi:=aP kh
 have i0:f0 0=R gq h gp:=ha 0 bh
 refine aB<|au (v:=.slice none 0 0) J J<|bt<|au (v:=.slice none 0 0) J J<|av<|sq<|aB<|au (v:=C 0) J J<|av<|bk ?_
 have H1:=H0.re (Bool×ByteArray×Int) 43
 refine lp (fun m f w'=>∃(j:Nat) (xs:List (Bool×ByteArray×Int)) (a0:OA) (c0:Nat),m=h.length-j∧f 0=R gq h gp∧f 3=R a0 xs c0∧f 4=C (j:Int)∧HI M w w' [oL w 43 a0 xs c0,iL gq h gp]∧(j≤h.length)∧(xs=(h.take j).flatten)) _ ⟨0,([]:List (Bool×ByteArray×Int)),none,0,J,i0,J,(bJ J),H1,aq,(by rfl)⟩ ?_
 rintro _ f0 w0 ⟨j,xs,a0,c0,rfl,s0,s1,s2,H2,hk,hs⟩
 refine sq<|aB<|ak J s2<|ak J s0<|k<|dW J J rP<|k<|lss J J J J<|z<|nx ?_
 refine cd (b:=decide ((j:Int)<(h.length:Int))) J J (fun b0=>?_)<|fun b0=>?_
 ·
  have p0:=dT b0
  refine sk<|nx<|sq<|bk<|rg<|ak J s1<|ak J s0<|ak J s2<|k<|ia (H2.rv 1 J) J J J J aq rP tK ?_
  intro iw x0 aQ cu
  refine k<|vB cu.w tK J J ?_
  intro a1 c1 cm
  have uH:=aP cm
  have H3:=ee H2 cm
  refine k<|l9 H3 1 J J J J J J (H3.rv 0 J).src pL iu J (by have h_:=uc aQ;rw[hs];omega) J ?_
  intro a2 c2 w1 (H4:HI M w w1 [iL a1 x0 c1,oL w 43 a2 (xs++x0) c2,iL gq h gp])
  refine au (v:=R a2 (xs++x0) c2) J J<|z<|aI<|nx<|rg<|ak J s2<|k<|add J J J J aV<|au (v:=C ((j:Int)+1)) J J<|z ?_
  have H5:HI M w w1 [oL w 43 a2 (xs++x0) c2,iL gq h gp]:=H4.bT [1,2] aw rfl
  refine bB _ ?_ ⟨(j+1),(xs++x0),a2,c2,J,s0,J,(bJ J),H5,aq,(by rw[hs,uT aQ])⟩
  omega
 have p0:=dF b0
 refine ex<|aX<|bf<|bg<|cI<|ak J s1<|au (v:=R a0 xs c0) J J<|av<|rt<|r1 J J ?_
 have e0:(xs:List (Bool×ByteArray×Int))=h.flatten:=by rw[hs,lV aq]
 have bo:=iq (fun (bV:List (Bool×ByteArray×Int))=>(.slice a0 bV.length c0:Value)) e0
 exact⟨a0,c0,bo,H2.below,(amh (fun (x_:List (Bool×ByteArray×Int))=>RV _ _ (.slice a0 x_.length c0) x_) e0).mp (H2.me 0 J)⟩
theorem M5 (hM:eD M w) (kh:cw M w gq gp h) (lE:h.flatten.length≤1048576):Calls aJ 43 #[R gq h gp] w (cb fun v w'=>v=C (h.flatten.length:Int)∧Ext w w'):=by
 refine df 6 Tryz.func43 J J J hM fun f0 ha H=>?_
 have H0:=ee H kh
 have vi:=aP kh
 have i0:f0 0=R gq h gp:=ha 0 bh
 refine aB<|au (v:=C 0) J J<|bt<|ak J i0<|k ?_
 have bP:=AD (h:=h) H0.mb (H0.rv 0 J)<|by exact lE
 refine ca VA J (ec J e0) bP ?_
 rintro _ w0 ⟨a0,c0,rfl,bS,cm⟩
 have H1:=H0.ext bS
 have H2:=H1.put (it:=iL a0 h.flatten c0) J cm
 refine k<|dW J J pL<|au (v:=C (h.flatten.length:Int)) J J<|av<|rt<|r1 J J ?_
 exact⟨J,H2.below⟩
theorem M4 (hM:eD M w) (kh:cw M w gq gp h) (lE:h.flatten.length≤1048576):Calls aJ 20 #[R gq h gp] w (cb fun v w'=>v=.bool (jt h)∧Ext w w'):=by
 refine df 23 Tryz.func20 J J J hM fun f0 ha H=>?_
 have H0:=ee H kh
 have vi:=aP kh
 have i0:f0 0=R gq h gp:=ha 0 bh
 refine aB<|au (v:=.bool false) J J<|bt<|ak J i0<|k ?_
 have bP:=AD (h:=h) H0.mb (H0.rv 0 J)<|by exact lE
 refine ca VA J (ec J e0) bP ?_
 rintro _ w0 ⟨a0,c0,rfl,bS,cm⟩
 have H1:=H0.ext bS
 have H2:=H1.put (it:=iL a0 h.flatten c0) J cm
 refine au (v:=R a0 h.flatten c0) J J<|av<|sq<|aB<|au (v:=C 0) J J<|av<|bk ?_
 refine lp (fun m f w'=>∃(j:Nat),m=h.flatten.length-j∧f 3=R a0 h.flatten c0∧f 4=C (j:Int)∧HI M w w' [iL a0 h.flatten c0,iL gq h gp]∧(j≤h.flatten.length)∧((h.flatten.take j).all zD=true)) _ ⟨0,J,J,(bJ J),H2,aq,(by rfl)⟩ ?_
 rintro _ f0 w1 ⟨j,rfl,s0,s1,H3,hk,hs⟩
 refine sq<|aB<|ak J s1<|ak J s0<|k<|dW J J pL<|k<|lss J J J J<|z<|nx ?_
 refine cd (b:=decide ((j:Int)<(h.flatten.length:Int))) J J (fun b0=>?_)<|fun b0=>?_
 ·
  have p0:=dT b0
  refine sk<|nx<|sq<|bk<|aB<|ak J s0<|ak J s1<|k<|ia (H3.rv 0 J) J J J J aq pL iu ?_
  intro iw x0 aQ cu
  refine aU mW J J<|k<|ldS ((cu).s1).fst.w nW J J ?_
  intro dM
  refine k ?_
  have cV:=Pv (s:=x0.2.1) (w:=w1) bq
  refine ca aia J (ec J e0) cV ?_
  rintro _ w2 ⟨rfl,cY⟩
  have H4:=H3.ext cY
  refine k<|jE J J<|z<|nx ?_
  refine cd (b:=!(mg x0.2.1)) J J (fun b1=>?_)<|fun b1=>?_
  ·
   refine aB<|au (v:=.bool false) J J<|av<|rt<|bQ<|aL<|dQ<|bQ<|aL<|r1 J J ?_
   exact⟨amh Value.bool (by exact Us aQ (by simpa using b1)),H4.below⟩
  refine sk<|aI<|nx<|rg<|ak J s1<|k<|add J J J J aV<|au (v:=C ((j:Int)+1)) J J<|z ?_
  refine bB _ ?_ ⟨(j+1),J,s0,(bJ J),H4,aq,(by exact FF aQ hs (by simpa [zD] using b1))⟩
  omega
 have p0:=dF b0
 refine ex<|aX<|bf<|bg<|cI<|ak J s0<|k<|dW J J pL<|k<|leq J J J J<|au (v:=.bool (decide ((h.flatten.length:Int)≤4096))) J J<|av<|rt<|r1 J J ?_
 exact⟨amh Value.bool (by exact Rr hs aq),H3.below⟩
theorem M3 {m:Int} (hM:eD M w) (kh:cw M w gq gp h) (h_m:aK m) (lE:h.flatten.length≤1048576):Calls aJ 19 #[R gq h gp,C m] w (cb fun v w'=>v=.bool (iF h m)∧Ext w w'):=by
 refine df 32 Tryz.func19 J J J hM fun f0 ha H=>?_
 have H0:=ee H kh
 have vi:=aP kh
 have i0:f0 0=R gq h gp:=ha 0 bh
 have i1:f0 1=C m:=ha 1 bh
 refine aB<|au (v:=.bool false) J J<|av<|sq<|aB<|ak J i0<|k<|dW J J rP<|ak J i1<|k<|gtr J J J J<|ak (v:=.bool (decide (m<(h.length:Int)))) J J ?_
 rcases bE (decide (m<(h.length:Int))) with b0|b0
 ·
  have p0:=dT b0
  refine aN J J J b0<|aN J J J b0<|aN J J J b0<|aN J J J b0<|k<|aR J J J J b0 J<|av<|oP J J J<|aB<|au (v:=.bool false) J J<|av<|rt<|aL<|r1 J J ?_
  exact⟨amh Value.bool (by exact Re p0),H0.below⟩
 have p0:=dF b0
 refine aT J J J b0<|mv J i0<|aT J J J b0 ?_
 have bP:=M5 (h:=h) H0.mb (H0.rv 0 J)<|by exact lE
 refine ca aib J (ec J e0) bP ?_
 rintro _ w0 ⟨rfl,bS⟩
 have H1:=H0.ext bS
 refine aT J J J b0<|mv J i1<|aT J J J b0<|gtr J J J J<|k<|cK J J J J b0 J<|z<|nx ?_
 refine cd (b:=decide (m<(h.flatten.length:Int))) J J (fun b1=>?_)<|fun b1=>?_
 ·
  have p1:=dT b1
  refine aB<|au (v:=.bool false) J J<|av<|rt<|aL<|r1 J J ?_
  exact⟨amh Value.bool (by exact Rc p1),H1.below⟩
 have p1:=dF b1
 refine sk<|cI<|ak J i0<|k ?_
 have cV:=AD (h:=h) H1.mb (H1.rv 0 J)<|by exact lE
 refine ca VA J (ec J e0) cV ?_
 rintro _ w1 ⟨a0,c0,rfl,cY,cm⟩
 have H2:=H1.ext cY
 have H3:=H2.put (it:=iL a0 h.flatten c0) J cm
 refine au (v:=R a0 h.flatten c0) J J<|av<|sq<|aB<|au (v:=C 0) J J<|av<|bk ?_
 refine lp (fun m f w'=>∃(j:Nat),m=h.flatten.length-j∧f 5=R a0 h.flatten c0∧f 6=C (j:Int)∧HI M w w' [iL a0 h.flatten c0,iL gq h gp]∧(j≤h.flatten.length)∧((h.flatten.take j).all zB=true)) _ ⟨0,J,J,(bJ J),H3,aq,(by rfl)⟩ ?_
 rintro _ f0 w2 ⟨j,rfl,s0,s1,H4,hk,hs⟩
 refine sq<|aB<|ak J s1<|ak J s0<|k<|dW J J pL<|k<|lss J J J J<|z<|nx ?_
 refine cd (b:=decide ((j:Int)<(h.flatten.length:Int))) J J (fun b2=>?_)<|fun b2=>?_
 ·
  have p2:=dT b2
  refine sk<|nx<|sq<|bk<|aB<|ak J s0<|ak J s1<|k<|ia (H4.rv 0 J) J J J J aq pL iu ?_
  intro iw x0 aQ cu
  refine aU mW J J<|k<|ldS ((cu).s1).fst.w nW J J ?_
  intro dM
  refine k<|vz J J mu<|k<|gtr J J J J<|z<|nx ?_
  refine cd (b:=decide (20<(x0.2.1.size:Int))) J J (fun b3=>?_)<|fun b3=>?_
  ·
   have p3:=dT b3
   refine aB<|au (v:=.bool false) J J<|av<|rt<|bQ<|aL<|dQ<|bQ<|aL<|r1 J J ?_
   exact⟨amh Value.bool (by exact Rb aQ (by simpa using b3)),H4.below⟩
  have p3:=dF b3
  refine sk<|aI<|nx<|rg<|ak J s1<|k<|add J J J J aV<|au (v:=C ((j:Int)+1)) J J<|z ?_
  refine bB _ ?_ ⟨(j+1),J,s0,(bJ J),H4,aq,(by exact FF aQ hs (amp aq))⟩
  omega
 have p2:=dF b2
 refine ex<|aX<|bf<|bg<|cI<|au (v:=.bool true) J J<|av<|rt<|r1 J J ?_
 exact⟨amh Value.bool (by exact Rf p0 p1 hs aq),H4.below⟩
theorem Pu {l:List ByteArray} (hM:eD M w) (tC:cw M w l_ mC l) (kQ:s.size≤maxLen):Calls aJ 48 #[R l_ l mC,.string s] w (cb fun v w'=>v=C (ie l s)∧Ext w w'):=by
 refine df 19 Tryz.func48 J J J hM fun f0 ha H=>?_
 have H0:=ee H tC
 have Li:=aP tC
 have i0:f0 0=R l_ l mC:=ha 0 bh
 have i1:f0 1=.string s:=ha 1 bh
 refine aB<|au (v:=C 0) J J<|av<|sq<|aB<|au (v:=C 0) J J<|av<|bk ?_
 refine lp (fun m f w'=>∃(j:Nat),m=l.length-j∧f 0=R l_ l mC∧f 1=.string s∧f 5=C (j:Int)∧HI M w w' [iL l_ l mC]∧(j≤l.length)∧((l.take j).any (Sa s)=false)) _ ⟨0,J,i0,i1,(bJ J),H0,aq,bh⟩ ?_
 rintro _ f0 w0 ⟨j,rfl,s0,s1,s2,H1,hk,hs⟩
 refine sq<|aB<|ak J s2<|ak J s0<|k<|dW J J Hm<|k<|lss J J J J<|z<|nx ?_
 refine cd (b:=decide ((j:Int)<(l.length:Int))) J J (fun b0=>?_)<|fun b0=>?_
 ·
  have p0:=dT b0
  refine sk<|nx<|sq<|bk<|aB<|ak J s0<|ak J s2<|k<|ia (H1.rv 0 J) J J J J aq Hm nW ?_
  intro iw x0 aQ cu
  refine k<|ldS cu.w nW J J ?_
  intro cm
  refine ak J s1<|k<|X2 J J J J<|z<|nx ?_
  refine cd (b:=decide (x0=s)) J J (fun b1=>?_)<|fun b1=>?_
  ·
   have p1:=dT b1
   refine aB<|ak J s2<|au (v:=C (j:Int)) J J<|av<|rt<|bQ<|aL<|dQ<|bQ<|aL<|r1 J J ?_
   exact⟨amh (Value.int .i64) (by exact tW aQ hs b1),H1.below⟩
  have p1:=dF b1
  refine sk<|aI<|nx<|rg<|ak J s2<|k<|add J J J J aV<|au (v:=C ((j:Int)+1)) J J<|z ?_
  refine bB _ ?_ ⟨(j+1),J,s0,s1,(bJ J),H1,aq,(by exact pe aQ hs b1)⟩
  omega
 have p0:=dF b0
 refine ex<|aX<|bf<|bg<|cI<|au (v:=C (-1)) J J<|av<|rt<|r1 J J ?_
 exact⟨amh (Value.int .i64) (by exact uK hs aq),H1.below⟩
theorem Uw (hM:eD M w) (kh:cw M w gq gp h) (lE:h.flatten.length≤1048576):Calls aJ 23 #[R gq h gp] w (cb fun v w'=>∃(a0:OA) (c0:Nat) (a1:OA) (c1:Nat) (a2:OA) (c2:Nat),v=.tuple #[.agg #[.slice a0 (l6 h).length c0,.slice a1 (cN h).length c1,.slice a2 ([]:List Int).length c2],C (k0 h)]∧Ext w w'∧RV M w' (.slice a0 (l6 h).length c0) (l6 h)∧RV M w' (.slice a1 (cN h).length c1) (cN h)∧RV M w' (.slice a2 ([]:List Int).length c2) ([]:List Int)):=by
 refine df 66 Tryz.func23 J J J hM fun f0 ha H=>?_
 let J0:=iL gq h gp
 have H0:=H.put (it:=J0) J<|by rw[bN];exact kh
 have vi:=aP kh
 have i0:f0 0=R gq h gp:=ha 0 bh
 refine aB<|k<|al H0 dx ?_
 intro aY w0 bS (H1:HI M w w0 [box aY #[.slice none 0 0,.slice none 0 0,.slice none 0 0] 47,J0])
 let J1:=box aY #[.slice none 0 0,.slice none 0 0,.slice none 0 0] 47
 refine au (v:=C 0) J J<|av<|sq<|aB<|ak J i0<|k ?_
 have bP:=M4 (h:=h) H1.mb (H1.rv 1 J)<|by exact lE
 refine ca ait J (ec J e0) bP ?_
 rintro _ w1 ⟨rfl,cY⟩
 have H2:=H1.ext cY
 refine k<|jE J J<|z<|nx ?_
 refine cd (b:=!(jt h)) J J (fun b0=>?_)<|fun b0=>?_
 ·
  refine sq ?_
  have hq:jt h=false:=by simpa using b0
  refine rg<|k<|bd (v:=.agg #[.slice none 0 0,.slice none 0 0,.slice none 0 0]) J ey (fun _=>aM)<|k<|bp H2 0 J dx J J J J J J J ?_
  intro w2 (H3:HI M w w2 [J1,J0])
  refine au (v:=C 1) J J<|av<|rt<|aL<|ib H3 0 J dx J J J J J aw ?_
  have e0:([]:List ByteArray)=l6 h:=by exact(wO hq).1.symm
  have e1:([]:List aH)=cN h:=by exact(wO hq).2.1.symm
  have e3:(1:Int)=k0 h:=by exact(wO hq).2.2.symm
  have bo:=qH (fun (bV:List ByteArray) (dI:List aH) (ly:Int)=>(.tuple #[.agg #[.slice none bV.length 0,.slice none dI.length 0,.slice none ([]:List Int).length 0],C ly]:Value)) e0 e1 e3
  exact⟨none,0,none,0,none,0,bo,H3.below,(amh (fun (x_:List ByteArray)=>RV _ _ (.slice none x_.length 0) x_) e0).mp (d_ _ _),(amh (fun (x_:List aH)=>RV _ _ (.slice none x_.length 0) x_) e1).mp (d_ _ _),(d_ _ _)⟩
 refine sk<|nx<|sq ?_
 have hq:jt h=true:=by simpa using b0
 refine rg<|k<|al H2 dx ?_
 intro ba w2 eT (H3:HI M w w2 [box ba #[.slice none 0 0,.slice none 0 0,.slice none 0 0] 47,J1,J0])
 refine av<|sq<|aB<|au (v:=C 0) J J<|av<|bk ?_
 have H4:=H3.re ByteArray 9
 have H5:=H4.re aH 95
 refine lp (fun m f w'=>∃(i:Nat) (vs:List ByteArray) (aG:List aH) (a0:OA) (c0:Nat) (a1:OA) (c1:Nat),m=h.length-i∧f 0=R gq h gp∧f 2=pV aY 0∧f 4=pV ba 0∧f 5=C (i:Int)∧HI M w w' [oL w 95 a1 aG c1,oL w 9 a0 vs c0,box ba #[R a0 vs c0,R a1 aG c1,.slice none 0 0] 47,J1,J0]∧(i≤h.length)∧(vs=(jy h i).1)∧(aG=(jy h i).2)) _ ⟨0,([]:List ByteArray),([]:List aH),none,0,none,0,J,i0,J,J,(bJ J),H5,aq,(by rfl),(by rfl)⟩ ?_
 rintro _ f0 w3 ⟨i,vs,aG,a0,c0,a1,c1,rfl,s0,s1,s2,s3,H6,Xt,h1,h2⟩
 refine sq<|aB<|ak J s3<|ak J s0<|k<|dW J J rP<|k<|lss J J J J<|z<|nx ?_
 refine cd (b:=decide ((i:Int)<(h.length:Int))) J J (fun b1=>?_)<|fun b1=>?_
 ·
  have p1:=dT b1
  refine sk<|nx<|sq<|bk<|aB<|au (v:=C 0) J J<|av<|bk ?_
  refine lp (fun m f w'=>∃(q:Nat) (vs:List ByteArray) (aG:List aH) (a2:OA) (c2:Nat) (a3:OA) (c3:Nat),m=(h.getD i []).length-q∧f 0=R gq h gp∧f 2=pV aY 0∧f 4=pV ba 0∧f 5=C (i:Int)∧f 6=C (q:Int)∧HI M w w' [oL w 95 a3 aG c3,oL w 9 a2 vs c2,box ba #[R a2 vs c2,R a3 aG c3,.slice none 0 0] 47,J1,J0]∧(q≤(h.getD i []).length)∧(vs=(jG i (jy h i) (h.getD i []) q).1)∧(aG=(jG i (jy h i) (h.getD i []) q).2)) _ ⟨0,vs,aG,a0,c0,a1,c1,J,s0,s1,s2,s3,(bJ J),H6,aq,(by exact h1),(by exact h2)⟩ ?_
  rintro _ f1 w4 ⟨q,vs,aG,a2,c2,a3,c3,rfl,s4,s5,s6,s7,s8,H7,hk,h1,h2⟩
  refine sq<|aB<|ak J s8<|ak J s4<|ak J s7<|k<|ia (H7.rv 4 J) J J J J aq rP tK ?_
  intro iw x0 aQ cu
  refine k<|vB cu.w tK J J ?_
  intro a4 c4 cm
  have uH:=aP cm
  let J2:=iL a4 x0 c4
  have H8:=H7.put (it:=J2) J cm
  refine k<|dW J J pL<|k<|lss J J J J<|z<|nx ?_
  refine cd (b:=decide ((q:Int)<(x0.length:Int))) J J (fun b2=>?_)<|fun b2=>?_
  ·
   have p2:=dT b2
   refine sk<|nx<|sq<|bk<|aB<|ak J s4<|ak J s7<|k<|ia (H8.rv 5 J) J J J J aq rP tK ?_
   intro rD x1 cP gK
   refine k<|vB gK.w tK J J ?_
   intro a5 c5 dM
   have ln1:=aP dM
   let J3:=iL a5 x1 c5
   have H9:=H8.put (it:=J3) J dM
   refine ak J s8<|k<|ia (H9.rv 0 J) J J J J (by have e_:=nh cP aQ;subst e_;omega) pL iu ?_
   intro pZ x2 iW la
   refine k<|nj la.w iu J J ?_
   intro v0 dV
   obtain⟨_,⟨_,_,rfl,rfl,⟨_,_,rfl,⟨rfl,fq⟩,⟨rfl,iU⟩⟩⟩,rfl⟩:=dV
   refine k<|al H9 iu ?_
   let J4:=box ba #[R a2 vs c2,R a3 aG c3,.slice none 0 0] 47
   let bc:=[J3,J2,oL w 95 a3 aG c3,oL w 9 a2 vs c2,J4,J1,J0]
   intro bD w5 fB (dC:HI M w w5 (box bD #[.bool false,.string ⟨#[]⟩,C 0] 43::bc))
   refine k<|bp dC 0 J iu J J J J J J J ?_
   let J5:=box bD #[.bool x2.1,.string x2.2.1,C x2.2.2] 43
   intro w6 (cT:HI M w w6 (J5::bc))
   refine bt<|aU uV J s6<|bl cT 5 J BN J J J<|aU mW J J<|bl cT 0 J nW J J J<|k ?_
   have dt:=cT.freeze 4 J
   have cV:=Pu (l:=vs) (s:=x2.2.1) dt.mb (dt.rv 4 J) bq
   refine ca ah' J (ec J<|ec J e0) cV ?_
   rintro _ w7 ⟨rfl,iN⟩
   have dw:=cT.ext iN
   refine au (v:=C (ie vs x2.2.1)) J J<|av<|sq<|aB<|ak (v:=C (ie vs x2.2.1)) J J<|k<|lss J J J J<|z<|nx ?_
   refine cd (b:=decide ((ie vs x2.2.1)<0)) J J (fun b3=>?_)<|fun b3=>?_
   ·
    have p3:=dT b3
    refine aB<|aU uV J s6<|bl dw 5 J BN J J J<|k<|dW J J Hm<|au (v:=C (vs.length:Int)) J J<|av<|rg<|aU uV J s6<|bl dw 5 J BN J J J<|aU mW J J<|bl dw 0 J nW J J J<|k<|bs (xs:=([x2.2.1]:List ByteArray)) (cells:=#[.string x2.2.1]) (e:=9) dw J (cj J ey) (fun _=>aM) ⟨[.string x2.2.1],[],J,⟨J,bq⟩,J⟩ J aw ?_
    intro g0 w8 jb cJ
    refine k<|l9 cJ 5 J J J J J J (gT<|cJ.at_ 0 J) Hm nW J (by have e_:=nh cP aQ;have h_:=pH (k:=q) aQ aq;rw[←fl aQ,←h1,←h2] at h_;simp only[iB,gm];omega) J ?_
    let J6:=own w.heap.size 9 (.slice (some ⟨g0,0,none⟩) 1 1) ([x2.2.1]:List ByteArray)
    intro a6 c6 w9 (dS:HI M w w9 [J6,J5,J3,J2,oL w 95 a3 aG c3,oL w 9 a6 (vs++([x2.2.1]:List ByteArray)) c6,J4,J1,J0])
    let J7:=oL w 9 a6 (vs++([x2.2.1]:List ByteArray)) c6
    refine aU uV J s6<|k<|bp dS 6 J BN J J J J J J J ?_
    let J8:=box ba #[R a6 (vs++([x2.2.1]:List ByteArray)) c6,R a3 aG c3,.slice none 0 0] 47
    intro dD (de:HI M w dD [J6,J5,J3,J2,oL w 95 a3 aG c3,J7,J8,J1,J0])
    refine av<|rg<|aU fy J s6<|bl de 6 J iR J J J<|ak J s7<|ak J s8<|aU py J J<|bl de 1 J l5 J J J<|ak (v:=C (vs.length:Int)) J J<|aU qD J J<|bl de 1 J aW J J J<|k<|bd (v:=.agg #[C (i:Int),C (q:Int),.bool x2.1,C (vs.length:Int),C x2.2.2]) J (cj J<|cj J<|cj J<|cj J<|cj J ey) (fun _=>aM)<|k<|bs (xs:=([((i:Int),(q:Int),x2.1,(vs.length:Int),x2.2.2)]:List aH)) (cells:=#[C (i:Int),C (q:Int),.bool x2.1,C (vs.length:Int),C x2.2.2]) (e:=95) de J (cj J ey) (fun _=>aM) ⟨[C (i:Int),C (q:Int),.bool x2.1,C (vs.length:Int),C x2.2.2],[],J,⟨_,_,J,⟨J,(show aK ((i:Int)) from aV)⟩,⟨_,_,J,⟨J,(show aK ((q:Int)) from aV)⟩,⟨_,_,J,J,⟨_,_,J,⟨J,(show aK ((vs.length:Int)) from(by have e_:=nh cP aQ;have h3:=pH (k:=q) aQ aq;rw[←fl aQ,←h1,←h2] at h3;unfold aK;omega))⟩,⟨J,(show aK (x2.2.2) from aV)⟩⟩⟩⟩⟩,J⟩ J aw ?_
    intro g1 eb kf cO
    refine k<|l9 cO 5 J J J J J J (gT<|cO.at_ 0 J) jn jr J (by have e_:=nh cP aQ;have h_:=pH (k:=q) aQ aq;rw[←fl aQ,←h1,←h2] at h_;simp only[iB,gm];omega) J ?_
    let J9:=own w.heap.size 95 (.slice (some ⟨g1,0,none⟩) 1 1) ([((i:Int),(q:Int),x2.1,(vs.length:Int),x2.2.2)]:List aH)
    intro a7 c7 ff (dP:HI M w ff [J9,J6,J5,J3,J2,oL w 95 a7 (aG++([((i:Int),(q:Int),x2.1,(vs.length:Int),x2.2.2)]:List aH)) c7,J7,J8,J1,J0])
    let dK:=oL w 95 a7 (aG++([((i:Int),(q:Int),x2.1,(vs.length:Int),x2.2.2)]:List aH)) c7
    refine aU fy J s6<|k<|bp dP 7 J iR J J J J J J J ?_
    let ez:=box ba #[R a6 (vs++([x2.2.1]:List ByteArray)) c6,R a7 (aG++([((i:Int),(q:Int),x2.1,(vs.length:Int),x2.2.2)]:List aH)) c7,.slice none 0 0] 47
    intro hQ (dG:HI M w hQ [J9,J6,J5,J3,J2,dK,J7,ez,J1,J0])
    refine z<|aI<|nx<|rg<|ak J s8<|k<|add J J J J aV<|au (v:=C ((q:Int)+1)) J J<|z ?_
    have cC:HI M w hQ [dK,J7,ez,J1,J0]:=dG.bT [5,6,7,8,9] aw rfl
    refine bB _ ?_ ⟨(q+1),(vs++([x2.2.1]:List ByteArray)),(aG++([((i:Int),(q:Int),x2.1,(vs.length:Int),x2.2.2)]:List aH)),a6,c6,a7,c7,J,s4,s5,s6,s7,(bJ J),cC,(by rw[fl aQ];omega),(by rw[h1] at *;have e_:=nh cP aQ;subst e_;rw[fl aQ] at *;first|exact(wF iW p3).1|exact(wE iW p3).1),(by rw[h1,h2] at *;have e_:=nh cP aQ;subst e_;rw[fl aQ] at *;first|exact(wF iW p3).2|exact(wE iW p3).2)⟩
    rw[fl aQ];omega
   have p3:=dF b3
   refine sk<|nx<|rg<|aU fy J s6<|bl dw 5 J iR J J J<|ak J s7<|ak J s8<|aU py J J<|bl dw 0 J l5 J J J<|ak (v:=C (ie vs x2.2.1)) J J<|aU qD J J<|bl dw 0 J aW J J J<|k<|bd (v:=.agg #[C (i:Int),C (q:Int),.bool x2.1,C (ie vs x2.2.1),C x2.2.2]) J (cj J<|cj J<|cj J<|cj J<|cj J ey) (fun _=>aM)<|k<|bs (xs:=([((i:Int),(q:Int),x2.1,ie vs x2.2.1,x2.2.2)]:List aH)) (cells:=#[C (i:Int),C (q:Int),.bool x2.1,C (ie vs x2.2.1),C x2.2.2]) (e:=95) dw J (cj J ey) (fun _=>aM) ⟨[C (i:Int),C (q:Int),.bool x2.1,C (ie vs x2.2.1),C x2.2.2],[],J,⟨_,_,J,⟨J,(show aK ((i:Int)) from aV)⟩,⟨_,_,J,⟨J,(show aK ((q:Int)) from aV)⟩,⟨_,_,J,J,⟨_,_,J,⟨J,(show aK (ie vs x2.2.1) from(by have h_:=vV (p:=Sa x2.2.1) (r:=vs);have e_:=nh cP aQ;have h3:=pH (k:=q) aQ aq;rw[←fl aQ,←h1,←h2] at h3;unfold ie;unfold aK;omega))⟩,⟨J,(show aK (x2.2.2) from aV)⟩⟩⟩⟩⟩,J⟩ J aw ?_
   intro g0 w8 jb cJ
   refine k<|l9 cJ 4 J J J J J J (gT<|cJ.at_ 0 J) jn jr J (by have e_:=nh cP aQ;have h_:=pH (k:=q) aQ aq;rw[←fl aQ,←h1,←h2] at h_;simp only[iB,gm];omega) J ?_
   let fR:=own w.heap.size 95 (.slice (some ⟨g0,0,none⟩) 1 1) ([((i:Int),(q:Int),x2.1,ie vs x2.2.1,x2.2.2)]:List aH)
   intro a6 c6 w9 (dS:HI M w w9 [fR,J5,J3,J2,oL w 95 a6 (aG++([((i:Int),(q:Int),x2.1,ie vs x2.2.1,x2.2.2)]:List aH)) c6,oL w 9 a2 vs c2,J4,J1,J0])
   let fw:=oL w 95 a6 (aG++([((i:Int),(q:Int),x2.1,ie vs x2.2.1,x2.2.2)]:List aH)) c6
   refine aU fy J s6<|k<|bp dS 6 J iR J J J J J J J ?_
   let hG:=box ba #[R a2 vs c2,R a6 (aG++([((i:Int),(q:Int),x2.1,ie vs x2.2.1,x2.2.2)]:List aH)) c6,.slice none 0 0] 47
   intro dD (de:HI M w dD [fR,J5,J3,J2,fw,oL w 9 a2 vs c2,hG,J1,J0])
   refine z<|aI<|nx<|rg<|ak J s8<|k<|add J J J J aV<|au (v:=C ((q:Int)+1)) J J<|z ?_
   have cO:HI M w dD [fw,oL w 9 a2 vs c2,hG,J1,J0]:=de.bT [4,5,6,7,8] aw rfl
   refine bB _ ?_ ⟨(q+1),vs,(aG++([((i:Int),(q:Int),x2.1,ie vs x2.2.1,x2.2.2)]:List aH)),a2,c2,a6,c6,J,s4,s5,s6,s7,(bJ J),cO,(by rw[fl aQ];omega),(by rw[h1] at *;have e_:=nh cP aQ;subst e_;rw[fl aQ] at *;first|exact(wF iW p3).1|exact(wE iW p3).1),(by rw[h1,h2] at *;have e_:=nh cP aQ;subst e_;rw[fl aQ] at *;first|exact(wF iW p3).2|exact(wE iW p3).2)⟩
   rw[fl aQ];omega
  have p2:=dF b2
  refine ex<|aX<|bf<|bg<|aI<|nx<|rg<|ak J s7<|k<|add J J J J aV<|au (v:=C ((i:Int)+1)) J J<|z ?_
  have H9:HI M w w4 [oL w 95 a3 aG c3,oL w 9 a2 vs c2,box ba #[R a2 vs c2,R a3 aG c3,.slice none 0 0] 47,J1,J0]:=H8.bT [1,2,3,4,5] aw rfl
  refine bB _ ?_ ⟨(i+1),vs,aG,a2,c2,a3,c3,J,s4,s5,s6,(bJ J),H9,aq,(by rw[h1,Bb aq (by rw[fl aQ];omega)]),(by rw[h2,Bb aq (by rw[fl aQ];omega)])⟩
  omega
 have p1:=dF b1
 refine ex<|aX<|bf<|bg<|cI<|k<|cq H6 2 J dx J s2 aw J<|k<|bp H6 3 J dx J J s1 J J J J ?_
 intro w4 (H7:HI M w w4 [oL w 95 a1 aG c1,oL w 9 a0 vs c0,box ba #[R a0 vs c0,R a1 aG c1,.slice none 0 0] 47,box aY #[R a0 vs c0,R a1 aG c1,.slice none 0 0] 47,J0])
 refine au (v:=C 0) J J<|av<|rt<|ib H7 3 J dx J J J s1 J aw ?_
 have e0:(vs:List ByteArray)=l6 h:=by rw[(xU hq).1,h1];unfold J';rw[show i=h.length from by omega]
 have e1:(aG:List aH)=cN h:=by rw[(xU hq).2.1,h2];unfold Dz;rw[show i=h.length from by omega]
 have e3:(0:Int)=k0 h:=by exact(xU hq).2.2.symm
 have bo:=qH (fun (bV:List ByteArray) (dI:List aH) (ly:Int)=>(.tuple #[.agg #[.slice a0 bV.length c0,.slice a1 dI.length c1,.slice none ([]:List Int).length 0],C ly]:Value)) e0 e1 e3
 exact⟨a0,c0,a1,c1,none,0,bo,H7.below,(amh (fun (x_:List ByteArray)=>RV _ _ (.slice a0 x_.length c0) x_) e0).mp (H7.me 1 J),(amh (fun (x_:List aH)=>RV _ _ (.slice a1 x_.length c1) x_) e1).mp (H7.me 0 J),(d_ _ _)⟩
theorem DT {val:Int} (hM:eD M w) (cL:cw M w ay ax I) (ab9:aK vr) (ak2:aK val):Calls aJ 49 #[.agg #[.slice aD aF aC,R ay I ax,.slice aA eS az],C vr,C val] w (cb fun v w'=>v=.tuple #[C (max (gD I vr val) 0),.bool (decide (0≤gD I vr val))]∧Ext w w'):=by
 refine df 43 Tryz.func49 J J J hM fun f0 ha H=>?_
 have H0:=ee H cL
 have fM:=aP cL
 have i0:f0 0=.agg #[.slice aD aF aC,R ay I ax,.slice aA eS az]:=ha 0 bh
 have i1:f0 1=C vr:=ha 1 bh
 have i2:f0 2=C val:=ha 2 bh
 refine aB<|k<|bx H0 J i0 ?_
 intro aY w0 bS (H1:HI M w w0 [box aY #[.slice aD aF aC,R ay I ax,.slice aA eS az] 47,iL ay I ax])
 refine au (v:=C 0) J J<|au (v:=.bool false) J J<|av<|sq<|aB<|au (v:=C 0) J J<|av<|bk ?_
 refine lp (fun m f w'=>∃(j:Nat),m=I.length-j∧f 1=C vr∧f 2=C val∧f 3=pV aY 0∧f 8=C (j:Int)∧HI M w w' [box aY #[.slice aD aF aC,R ay I ax,.slice aA eS az] 47,iL ay I ax]∧(j≤I.length)∧((I.take j).any (lP vr val)=false)) _ ⟨0,J,i1,i2,J,(bJ J),H1,aq,bh⟩ ?_
 rintro _ f0 w1 ⟨j,rfl,s0,s1,s2,s3,H2,hk,hs⟩
 refine sq<|aB<|ak J s3<|aU fy J s2<|bl H2 0 J iR J J J<|k<|dW J J jn<|k<|lss J J J J<|z<|nx ?_
 refine cd (b:=decide ((j:Int)<(I.length:Int))) J J (fun b0=>?_)<|fun b0=>?_
 ·
  have p0:=dT b0
  refine sk<|nx<|sq<|bk<|aB<|aU fy J s2<|bl H2 0 J iR J J J<|ak J s3<|k<|ia (H2.rv 1 J) J J J J aq jn jr ?_
  intro iw x0 aQ cu
  refine aU uU J J<|k<|ldB ((cu).s2).fst.w l5 J J<|ak (v:=.bool x0.2.2.1) J J ?_
  rcases bE (x0.2.2.1) with b1|b1
  ·
   refine aT J J J b1<|fa fy J s2<|aT J J J b1<|lx H2 0 J iR J J J<|aT J J J b1<|mv J s3<|aT J J J b1<|ia (H2.rv 1 J) J J J J aq jn jr ?_
   intro rD x1 cP gK
   refine aT J J J b1<|fa tc J J<|aT J J J b1<|mQ ((gK).s3).fst.w aW J J ?_
   intro cm
   refine aT J J J b1<|mv J s0<|aT J J J b1<|eql J J J J<|k<|aR J J J J b1 J<|ak (v:=.bool (decide (x1.2.2.2.1=vr))) J J ?_
   rcases bE (decide (x1.2.2.2.1=vr)) with b2|b2
   ·
    have p2:=dT b2
    refine aT J J J b2<|fa fy J s2<|aT J J J b2<|lx H2 0 J iR J J J<|aT J J J b2<|mv J s3<|aT J J J b2<|ia (H2.rv 1 J) J J J J aq jn jr ?_
    intro pZ x2 iW la
    refine aT J J J b2<|fa rz J J<|aT J J J b2<|mQ (la).s4.w aW J J ?_
    intro dM
    refine aT J J J b2<|mv J s1<|aT J J J b2<|eql J J J J<|k<|aR J J J J b2 J<|z<|nx ?_
    refine cd (b:=decide (x2.2.2.2.2=val)) J J (fun b3=>?_)<|fun b3=>?_
    ·
     have p3:=dT b3
     refine aB<|ak J s3<|au (v:=C (j:Int)) J J<|au (v:=.bool true) J J<|av<|rt<|bQ<|aL<|dQ<|bQ<|aL<|r2 J J J ?_
     have e0:((j:Int):Int)=(max (gD I vr val) 0):=by have e1:=nh cP aQ;subst e1;have e2:=nh iW aQ;subst e2;have h_:=QT aQ b1 b2 b3 hs;omega
     have e1:(true:Bool)=decide (0≤gD I vr val):=by have e1:=nh cP aQ;subst e1;have e2:=nh iW aQ;subst e2;have h_:=QT aQ b1 b2 b3 hs;symm;rw[amj];omega
     have bo:=nr (fun (bV:Int) (dI:Bool)=>(.tuple #[C bV,.bool dI]:Value)) e0 e1
     exact⟨bo,H2.below⟩
    have p3:=dF b3
    refine sk<|aI<|nx<|rg<|ak J s3<|k<|add J J J J aV<|au (v:=C ((j:Int)+1)) J J<|z ?_
    refine bB _ ?_ ⟨(j+1),J,s0,s1,s2,(bJ J),H2,aq,(by have e1:=nh cP aQ;subst e1;first|exact pe aQ hs (Oc b2)|(have e2:=nh iW aQ;subst e2;exact pe aQ hs (Ob b3)))⟩
    omega
   have p2:=dF b2
   refine aN J J J b2<|aN J J J b2<|aN J J J b2<|aN J J J b2<|aN J J J b2<|aN J J J b2<|aN J J J b2<|aN J J J b2<|k<|cK J J J J b2 J<|av<|nP J J J<|sk<|aI<|nx<|rg<|ak J s3<|k<|add J J J J aV<|au (v:=C ((j:Int)+1)) J J<|z ?_
   refine bB _ ?_ ⟨(j+1),J,s0,s1,s2,(bJ J),H2,aq,(by have e1:=nh cP aQ;subst e1;first|exact pe aQ hs (Oc b2)|(have e2:=nh iW aQ;subst e2;exact pe aQ hs (Ob b3)))⟩
   omega
  refine aN J J J b1<|aN J J J b1<|aN J J J b1<|aN J J J b1<|aN J J J b1<|aN J J J b1<|aN J J J b1<|aN J J J b1<|k<|cK J J J J b1 J<|ak (v:=.bool false) J J<|aN J J J J<|aN J J J J<|aN J J J J<|aN J J J J<|aN J J J J<|aN J J J J<|aN J J J J<|aN J J J J<|k<|cK J J J J J J<|av<|nP J J J<|sk<|aI<|nx<|rg<|ak J s3<|k<|add J J J J aV<|au (v:=C ((j:Int)+1)) J J<|z ?_
  refine bB _ ?_ ⟨(j+1),J,s0,s1,s2,(bJ J),H2,aq,(by exact pe aQ hs (Zd b1))⟩
  omega
 have p0:=dF b0
 refine ex<|aX<|bf<|bg<|cI<|au (v:=C 0) J J<|au (v:=.bool false) J J<|av<|rt<|r2 J J J ?_
 have e0:(0:Int)=(max (gD I vr val) 0):=by have h_:=Nu hs aq;omega
 have e1:(false:Bool)=decide (0≤gD I vr val):=by have h_:=Nu hs aq;symm;rw[amy];omega
 have bo:=nr (fun (bV:Int) (dI:Bool)=>(.tuple #[C bV,.bool dI]:Value)) e0 e1
 exact⟨bo,H2.below⟩
theorem MZ (hM:eD M w) (cL:cw M w ay ax I):Calls aJ 24 #[.agg #[.slice aD aF aC,R ay I ax,.slice aA eS az]] w (cb fun v w'=>v=.tuple #[C ((dz I).1),C ((dz I).2.1),C ((dz I).2.2)]∧Ext w w'):=by
 refine df 43 Tryz.func24 J J J hM fun f0 ha H=>?_
 let J0:=iL ay I ax
 have H0:=H.put (it:=J0) J<|by rw[bN];exact cL
 have fM:=aP cL
 have i0:f0 0=.agg #[.slice aD aF aC,R ay I ax,.slice aA eS az]:=ha 0 bh
 refine aB<|k<|bx H0 J i0 ?_
 intro aY w0 bS (H1:HI M w w0 [box aY #[.slice aD aF aC,R ay I ax,.slice aA eS az] 47,J0])
 let J1:=box aY #[.slice aD aF aC,R ay I ax,.slice aA eS az] 47
 refine au (v:=C 0) J J<|au (v:=C 0) J J<|au (v:=C 0) J J<|av<|sq<|aB<|au (v:=C 0) J J<|av<|bk ?_
 refine lp (fun m f w'=>∃(j:Nat),m=I.length-j∧f 1=pV aY 0∧f 5=C (j:Int)∧HI M w w' [J1,J0]∧(j≤I.length)∧(∀k,k<j→nV I k=false)) _ ⟨0,J,J,(bJ J),H1,aq,(by intro k hk;omega)⟩ ?_
 rintro _ f0 w1 ⟨j,rfl,s0,s1,H2,hk,hs⟩
 refine sq<|aB<|ak J s1<|aU fy J s0<|bl H2 0 J iR J J J<|k<|dW J J jn<|k<|lss J J J J<|z<|nx ?_
 refine cd (b:=decide ((j:Int)<(I.length:Int))) J J (fun b0=>?_)<|fun b0=>?_
 ·
  have p0:=dT b0
  refine sk<|nx<|sq<|bk<|aB<|aU fy J s0<|bl H2 0 J iR J J J<|ak J s1<|k<|ia (H2.rv 1 J) J J J J aq jn jr ?_
  intro iw x0 aQ cu
  refine k<|nj cu.w jr J J ?_
  intro v0 cm
  obtain⟨_,⟨_,_,rfl,⟨rfl,dM⟩,⟨_,_,rfl,⟨rfl,dV⟩,⟨_,_,rfl,rfl,⟨_,_,rfl,⟨rfl,fq⟩,⟨rfl,iU⟩⟩⟩⟩⟩,rfl⟩:=cm
  refine k<|al H2 jr ?_
  intro ba w2 cY (H3:HI M w w2 [box ba #[C 0,C 0,.bool false,C 0,C 0] 95,J1,J0])
  refine k<|bp H3 0 J jr J J J J J J J ?_
  intro w3 (H4:HI M w w3 [box ba #[C x0.1,C x0.2.1,.bool x0.2.2.1,C x0.2.2.2.1,C x0.2.2.2.2] 95,J1,J0])
  refine av<|sq<|aB<|aU uU J J<|bl H4 0 J l5 J J J<|k<|jE J J<|z<|nx ?_
  refine cd (b:=!x0.2.2.1) J J (fun b1=>?_)<|fun b1=>?_
  ·
   refine ex<|aX<|bg<|nx<|rg<|ak J s1<|k<|add J J J J aV<|au (v:=C ((j:Int)+1)) J J<|z ?_
   have H5:HI M w w3 [J1,J0]:=H4.bT [1,2] aw rfl
   refine bB _ ?_ ⟨(j+1),J,s0,(bJ J),H5,aq,(by exact Ba hs aQ (Mo<|by simpa using b1))⟩
   omega
  refine sk<|nx<|sq<|aB<|aU rz J J<|bl H4 0 J aW J J J<|k<|eql J J J J<|z<|nx ?_
  refine cd (b:=decide (x0.2.2.2.2=0)) J J (fun b2=>?_)<|fun b2=>?_
  ·
   have p2:=dT b2
   refine aB<|ak J s1<|ak J s1<|au (v:=C (j:Int)) J J<|au (v:=C (j:Int)) J J<|au (v:=C 5) J J<|av<|rt<|aL<|bQ<|aL<|dQ<|bQ<|aL<|r3 J J J J ?_
   have e0:((j:Int):Int)=(dz I).1:=by exact(amh (fun z_:Int×Int×Int=>z_.1) (uf hs aQ (by simpa using b1) p2)).symm
   have e1:((j:Int):Int)=(dz I).2.1:=by exact(amh (fun z_:Int×Int×Int=>z_.2.1) (uf hs aQ (by simpa using b1) p2)).symm
   have e2:(5:Int)=(dz I).2.2:=by exact(amh (fun z_:Int×Int×Int=>z_.2.2) (uf hs aQ (by simpa using b1) p2)).symm
   have bo:=qH (fun (bV:Int) (dI:Int) (gv:Int)=>(.tuple #[C bV,C dI,C gv]:Value)) e0 e1 e2
   exact⟨bo,H4.below⟩
  have p2:=dF b2
  refine sk<|cI<|k<|cq H4 1 J dx J s0 aw J<|aU tc J J<|bl H4 0 J aW J J J<|aU rz J J<|bl H4 0 J aW J J J<|k ?_
  have bP:=DT (I:=I) (vr:=x0.2.2.2.1) (val:=x0.2.2.2.2) (aD:=aD) (aF:=aF) (aC:=aC) (aA:=aA) (eS:=eS) (az:=az) H4.mb (H4.rv 2 J) fq iU
  refine ca acB J (ec J<|ec J<|ec J e0) bP ?_
  rintro _ w4 ⟨rfl,eT⟩
  have H5:=H4.ext eT
  refine ak (v:=.tuple #[C (max (gD I x0.2.2.2.1 x0.2.2.2.2) 0),.bool (decide (0≤gD I x0.2.2.2.1 x0.2.2.2.2))]) J J<|k<|xt J J J<|k<|xt J J J<|au (v:=C (max (gD I x0.2.2.2.1 x0.2.2.2.2) 0)) J J<|au (v:=.bool (decide (0≤gD I x0.2.2.2.1 x0.2.2.2.2))) J J<|bt<|ak (v:=C (max (gD I x0.2.2.2.1 x0.2.2.2.2) 0)) J J<|ak J s1<|k<|lss J J J J<|z<|nx ?_
  refine cd (b:=decide ((max (gD I x0.2.2.2.1 x0.2.2.2.2) 0)<(j:Int))) J J (fun b3=>?_)<|fun b3=>?_
  ·
   have p3:=dT b3
   refine aB<|ak (v:=C (max (gD I x0.2.2.2.1 x0.2.2.2.2) 0)) J J<|ak J s1<|au (v:=C (max (gD I x0.2.2.2.1 x0.2.2.2.2) 0)) J J<|au (v:=C (j:Int)) J J<|au (v:=C 4) J J<|av<|rt<|bQ<|aL<|dQ<|bQ<|aL<|r3 J J J J ?_
   have e0:((max (gD I x0.2.2.2.1 x0.2.2.2.2) 0):Int)=(dz I).1:=by exact(amh (fun z_:Int×Int×Int=>z_.1) (so hs aQ (by simpa using b1) p2 p3)).symm
   have e1:((j:Int):Int)=(dz I).2.1:=by exact(amh (fun z_:Int×Int×Int=>z_.2.1) (so hs aQ (by simpa using b1) p2 p3)).symm
   have e2:(4:Int)=(dz I).2.2:=by exact(amh (fun z_:Int×Int×Int=>z_.2.2) (so hs aQ (by simpa using b1) p2 p3)).symm
   have bo:=qH (fun (bV:Int) (dI:Int) (gv:Int)=>(.tuple #[C bV,C dI,C gv]:Value)) e0 e1 e2
   exact⟨bo,H5.below⟩
  have p3:=dF b3
  refine sk<|aI<|nx<|rg<|ak J s1<|k<|add J J J J aV<|au (v:=C ((j:Int)+1)) J J<|z ?_
  have H6:HI M w w4 [J1,J0]:=H5.bT [1,2] aw rfl
  refine bB _ ?_ ⟨(j+1),J,s0,(bJ J),H6,aq,(by exact Ba hs aQ (Mp p2 p3))⟩
  omega
 have p0:=dF b0
 refine ex<|aX<|bf<|bg<|cI<|au (v:=C 0) J J<|au (v:=C 0) J J<|au (v:=C 0) J J<|av<|rt<|r3 J J J J ?_
 have e0:(0:Int)=(dz I).1:=by exact(amh (fun z_:Int×Int×Int=>z_.1) (wj hs aq)).symm
 have e1:(0:Int)=(dz I).2.1:=by exact(amh (fun z_:Int×Int×Int=>z_.2.1) (wj hs aq)).symm
 have e2:(0:Int)=(dz I).2.2:=by exact(amh (fun z_:Int×Int×Int=>z_.2.2) (wj hs aq)).symm
 have bo:=qH (fun (bV:Int) (dI:Int) (gv:Int)=>(.tuple #[C bV,C dI,C gv]:Value)) e0 e1 e2
 exact⟨bo,H2.below⟩
theorem S5:gM aJ 95 0 0:=⟨_,_,Tryz.underlying95,rfl,rfl,aM⟩
theorem acO:gM aJ 95 1 1:=⟨_,_,Tryz.underlying95,rfl,rfl,aM⟩
theorem Pd (hM:eD M w) (cL:cw M w ay ax I) (ho:gL I) (dp:I.length≤4096):Calls aJ 97 #[.agg #[.slice aD aF aC,R ay I ax,.slice aA eS az]] w (cb fun v w'=>∃(a0:OA) (c0:Nat),v=.agg #[C (I.length:Int),.slice a0 (ot I).length c0]∧Ext w w'∧bj M 144 w (ot I) (.slice a0 (ot I).length c0) w'):=by
 refine df 49 Tryz.func97 J J J hM fun f0 ha H=>?_
 let J0:=iL ay I ax
 have H0:=H.put (it:=J0) J<|by rw[bN];exact cL
 have fM:=aP cL
 have i0:f0 0=.agg #[.slice aD aF aC,R ay I ax,.slice aA eS az]:=ha 0 bh
 refine aB<|k<|bx H0 J i0 ?_
 intro aY w0 bS (H1:HI M w w0 [box aY #[.slice aD aF aC,R ay I ax,.slice aA eS az] 47,J0])
 let J1:=box aY #[.slice aD aF aC,R ay I ax,.slice aA eS az] 47
 refine k<|al H1 bm ?_
 intro ba w1 cY (H2:HI M w w1 [box ba #[C 0,.slice none 0 0] 26,J1,J0])
 let J2:=box ba #[C 0,.slice none 0 0] 26
 refine bt<|aU fy J J<|bl H2 1 J iR J J J<|k<|dW J J jn<|k ?_
 have bP:=N7 (n:=(I.length:Int)) H2.mb aV
 refine ca GG J (ec J e0) bP ?_
 rintro _ w2 ⟨a0,c0,rfl,eT,cm⟩
 have H3:=H2.eI cm
 refine ak (v:=.tuple #[.agg #[C (n9 (I.length:Int)),R a0 (iz (I.length:Int)) c0],C (rH (I.length:Int))]) J J<|k<|xt J J J<|k<|xt J J J<|k<|al H3 bm ?_
 let bc:=[oL w 144 a0 (iz (I.length:Int)) c0,J2,J1,J0]
 intro bD w3 fB (H4:HI M w w3 (box bD #[C 0,.slice none 0 0] 26::bc))
 refine k<|bp H4 0 J bm J J J J J J J ?_
 let J3:=box bD #[C (n9 (I.length:Int)),R a0 (iz (I.length:Int)) c0] 26
 intro w4 (H5:HI M w w4 (J3::bc))
 refine au (v:=C (rH (I.length:Int))) J J<|av<|sq<|sq ?_
 have Vl:Cg (I.length:Int)=true:=r9.2 aq
 obtain⟨en,er, -⟩:=wQ Vl
 refine rg<|aU fy J J<|bl H5 3 J iR J J J<|k<|dW J J jn<|k<|sub J J J J aV<|au (v:=C ((I.length:Int)-2)) J J<|av<|bk ?_
 refine lp (fun m f w'=>∃(j:Nat) (xs:List (List bX)),m=I.length-j∧f 1=pV aY 0∧f 2=pV ba 0∧f 3=pV bD 0∧f 5=C ((I.length:Int)-2-(j:Int))∧HI M w w' [J3,own w.heap.size 144 (.slice a0 (iz (I.length:Int)).length c0) xs,J2,J1,J0]∧(j≤I.length)∧(xs.length=I.length)∧(xs=yL I ((I.length:Int)-2-(j:Int)))) _ ⟨0,(iz (I.length:Int)),J,J,J,J,(bJ J),H5,aq,(by rw[er,pJ];simp),(by rw[er];exact Px _ _ aq)⟩ ?_
 rintro _ f0 w5 ⟨j,xs,rfl,s0,s1,s2,s3,H6,hk,hl,hs⟩
 refine sq<|aB<|ak J s3<|k<|geq J J J J<|z<|nx ?_
 refine cd (b:=decide (0≤((I.length:Int)-2-(j:Int)))) J J (fun b0=>?_)<|fun b0=>?_
 ·
  have p0:=dT b0
  refine sk<|nx<|sq<|bk<|sq ?_
  refine BD J (by kernel_rfl) ?_
  refine kq (fun _ _=>fa fy rfl s0 e1)<|kq (fun _ x_=>lx (H6.ext x_) 3 rfl iR rfl rfl rfl e1)<|kq (fun _ _=>mv rfl s3 e1)<|tS (H6.rv 4 J) J J J J aq jn jr ?_
  intro iw x0 aQ cu
  refine kq (fun _ _=>fa S5 rfl rfl e1)<|oW (cu).fst.w aW J J ?_
  intro dM
  refine kq (fun _ _=>fa fy rfl s0 e1)<|kq (fun _ x_=>lx (H6.ext x_) 3 rfl iR rfl rfl rfl e1)<|kq (fun _ _=>mv rfl s3 e1)<|kq (fun _ _=>add rfl rfl rfl rfl aV e1)<|tS (H6.rv 4 J) J J J J aq jn jr ?_
  intro rD x1 cP gK
  refine kq (fun _ _=>fa S5 rfl rfl e1)<|oW (gK).fst.w aW J J ?_
  intro dV
  refine kq (fun _ _=>eql rfl rfl rfl rfl e1)<|zq ?_
  intro w6 iN
  have H7:=H6.ext iN
  refine nx ?_
  refine cd (b:=decide (x0.1=x1.1)) J J (fun b1=>?_)<|fun b1=>?_
  ·
   have p1:=dT b1
   refine l8 [.r,.r,.r,.r,.r,.r,.r,.r,.r,.r,.r,.r,.e,.e] (fun _=>True) J (by kernel_rfl) (fun _ _=>trivial) ?_
   refine yq J J<|kq (fun _ _=>fa ik rfl s2 e1)<|zq<|yq J J<|kq (fun _ x_=>lx (H7.ext x_) 0 rfl kO rfl rfl rfl e1)<|zq<|yq J J<|kq (fun _ _=>mv rfl s3 e1)<|zq<|yq J J<|kq (fun _ _=>fa ik rfl s2 e1)<|zq<|yq J J<|kq (fun _ x_=>lx (H7.ext x_) 0 rfl kO rfl rfl rfl e1)<|zq<|yq J J<|kq (fun _ _=>mv rfl s3 e1)<|zq<|yq J J<|kq (fun _ _=>add rfl rfl rfl rfl aV e1)<|zq<|yq J J<|sK (H7.at_ 1 J) J J J J aq gV cZ ?_
   intro pZ x2 iW la
   refine zq<|yq J J<|F4 la cZ J J ?_
   intro a1 c1 fq
   have uH:=aP fq
   have H8:=ee H7 fq
   refine zq<|yq J J<|kq (fun _ _=>mv rfl s3 e1)<|zq<|yq J J<|kq (fun _ _=>add rfl rfl rfl rfl aV e1)<|zq ?_
   refine yu J (fun _ v w'=>∃(a2:OA) (c2:Nat),v=R a2 (dY x2<|((I.length:Int)-2-(j:Int))+1) c2∧RV H7.fW w' (R a2 (dY x2<|((I.length:Int)-2-(j:Int))+1) c2) (dY x2<|((I.length:Int)-2-(j:Int))+1)) J jd J (fun v_ _ x_ _=>have fT:=tP (r:=x2) (i:=(((I.length:Int)-2-(j:Int))+1)) (w:=v_) (H8.ext x_).mb ((H8.ext x_).rv 0 rfl) aV (by have h_:=Uy (hs▸iW);have lb:=MP (n:=I.length) aq;omega);ca Fh rfl (ec J<|ec J e0) fT (fun _ w8 ⟨a3,c3,e_,kf,iT⟩=>⟨_,J,kf,⟨a3,c3,e_,(mG J<|bj.rv iT (H8.ext x_).mb)⟩⟩)) ?_
   refine ye<|ye<|yz ?_
   intro w9 f1 _ l4 _ _ cz iC
   have cJ:=H8.ext l4
   have s4:=(cz 1 J).trans s0
   have s5:=(cz 2 J).trans s1
   have s6:=(cz 3 J).trans s2
   have s7:=(cz 5 J).trans s3
   have s8:=cz 36 J
   have s9:=cz 37 J
   obtain⟨a4,c4,ej,oe⟩:=iC 0 _ _ rfl
   let J4:=iL a4 (dY x2 (((I.length:Int)-2-(j:Int))+1)) c4
   have dS:=cJ.put (it:=J4) J<|by rw[aE J];exact oe
   refine jZ<|ic (dS.at_ 3 J) J J s8 s9 aq gV cZ ?_
   intro g0 x3 im qo xh
   refine jZ<|pR dS 3 J im J aq cZ J J J ej (dS.rv 0 J) ?_
   let J5:=own w.heap.size 144 (.slice a0 (iz (I.length:Int)).length c0) (xs.set (((I.length:Int)-2-(j:Int)).toNat) (dY x2 (((I.length:Int)-2-(j:Int))+1)))
   intro dD (de:HI M w dD [J4,iL a1 x2 c1,J3,J5,J2,J1,J0])
   refine kz<|aI<|nx<|rg<|ak J s7<|k<|sub J J J J aV<|au (v:=C (((I.length:Int)-2-(j:Int))-1)) J J<|z ?_
   have cO:HI M w dD [J3,J5,J2,J1,J0]:=de.bT [2,3,4,5,6] aw rfl
   refine bB _ ?_ ⟨(j+1),(xs.set (((I.length:Int)-2-(j:Int)).toNat) (dY x2<|((I.length:Int)-2-(j:Int))+1)),J,s4,s5,s6,(bJ J),cO,aq,(by simpa using hl),(by rw[show ((I.length:Int)-2-(((j+1:Nat):Nat):Int))=((I.length:Int)-2-(j:Int))-1 from by omega];first|((have h_:=kG (t:=((I.length:Int)-2-(j:Int))) aq aq (by rw[gB aQ,gB cP];exact p1) (hs▸iW);rw[←h_,←hs]))|((have h_:=kG (t:=((I.length:Int)-2-(j:Int))) aq aq (by rw[gB aQ,gB cP];exact p1) (hs▸qo);rw[←h_,←hs]))|((have h_:=kG (t:=((I.length:Int)-2-(j:Int))) aq aq (by rw[gB aQ,gB cP];exact p1) (hs▸zK);rw[←h_,←hs]))|((have h_:=kG (t:=((I.length:Int)-2-(j:Int))) aq aq (by rw[gB aQ,gB cP];exact p1) (hs▸Sd);rw[←h_,←hs]))|((have h_:=kG (t:=((I.length:Int)-2-(j:Int))) aq aq (by rw[gB aQ,gB cP];exact p1) (hs▸hx6);rw[←h_,←hs]))|((have h_:=kG (t:=((I.length:Int)-2-(j:Int))) aq aq (by rw[gB aQ,gB cP];exact p1) (hs▸hx7);rw[←h_,←hs]))|(rw[hs];exact F7 ho aq aq (by rw[gB aQ,gB cP];exact p1)))⟩
   omega
  have p1:=dF b1
  refine sk<|aI<|nx<|rg<|ak J s3<|k<|sub J J J J aV<|au (v:=C (((I.length:Int)-2-(j:Int))-1)) J J<|z ?_
  refine bB _ ?_ ⟨(j+1),xs,J,s0,s1,s2,(bJ J),H7,aq,bq,(by rw[show ((I.length:Int)-2-(((j+1:Nat):Nat):Int))=((I.length:Int)-2-(j:Int))-1 from by omega];first|((have h_:=kG (t:=((I.length:Int)-2-(j:Int))) aq aq (by rw[gB aQ,gB cP];exact p1) (hs▸iW);rw[←h_,←hs]))|((have h_:=kG (t:=((I.length:Int)-2-(j:Int))) aq aq (by rw[gB aQ,gB cP];exact p1) (hs▸qo);rw[←h_,←hs]))|((have h_:=kG (t:=((I.length:Int)-2-(j:Int))) aq aq (by rw[gB aQ,gB cP];exact p1) (hs▸zK);rw[←h_,←hs]))|((have h_:=kG (t:=((I.length:Int)-2-(j:Int))) aq aq (by rw[gB aQ,gB cP];exact p1) (hs▸Sd);rw[←h_,←hs]))|((have h_:=kG (t:=((I.length:Int)-2-(j:Int))) aq aq (by rw[gB aQ,gB cP];exact p1) (hs▸hx6);rw[←h_,←hs]))|((have h_:=kG (t:=((I.length:Int)-2-(j:Int))) aq aq (by rw[gB aQ,gB cP];exact p1) (hs▸hx7);rw[←h_,←hs]))|(rw[hs];exact F7 ho aq aq (by rw[gB aQ,gB cP];exact p1)))⟩
  omega
 have p0:=dF b0
 refine ex<|aX<|bf<|bg<|cI<|k<|cq H6 0 J bm J s2 aw J<|k<|bp H6 2 J bm J J s1 J J J J ?_
 intro w6 (H7:HI M w w6 [J3,own w.heap.size 144 (.slice a0 (iz (I.length:Int)).length c0) xs,box ba #[C (n9 (I.length:Int)),R a0 (iz (I.length:Int)) c0] 26,J1,J0])
 refine av<|rt<|oN H7 2 J bm J J s1 J aw ?_
 have e0:(n9 (I.length:Int):Int)=(I.length:Int):=by rw[en]
 have e1:(xs:List (List bX))=ot I:=by rw[hs];exact Uz aq
 have l1:(iz (I.length:Int)).length=(ot I).length:=by rw[er,pJ,YP];simp
 have bo:=nr (fun (bV:Int) (uE:Nat)=>(.agg #[C bV,.slice a0 uE c0]:Value)) e0 l1
 exact⟨a0,c0,bo,H7.below,(amh (fun (n_:Nat)=>bj _ _ _ (ot I) (.slice a0 n_ c0) _) l1).mp ((amh (fun (x_:List (List bX))=>bj _ _ _ x_ (.slice a0 (iz (I.length:Int)).length c0) _) e1).mp (H7.da 1 J))⟩
theorem KJ {tt:Int} (hM:eD M w) (cL:cw M w ay ax I) (alE:aK tt) (ho:gL I) (dp:I.length≤4096):Calls aJ 108 #[.agg #[.slice aD aF aC,R ay I ax,.slice aA eS az],C tt] w (cb fun v w'=>∃(a0:OA) (c0:Nat),v=.slice a0 (cx I tt).length c0∧Ext w w'∧bj M 3 w (cx I tt) (.slice a0 (cx I tt).length c0) w'):=by
 refine df 41 Tryz.func108 J J J hM fun f0 ha H=>?_
 let J0:=iL ay I ax
 have H0:=H.put (it:=J0) J<|by rw[bN];exact cL
 have fM:=aP cL
 have i0:f0 0=.agg #[.slice aD aF aC,R ay I ax,.slice aA eS az]:=ha 0 bh
 have i1:f0 1=C tt:=ha 1 bh
 refine aB<|k<|bx H0 J i0 ?_
 intro aY w0 bS (H1:HI M w w0 [box aY #[.slice aD aF aC,R ay I ax,.slice aA eS az] 47,J0])
 let J1:=box aY #[.slice aD aF aC,R ay I ax,.slice aA eS az] 47
 refine au (v:=.slice none 0 0) J J<|av<|sq<|aB<|ak J i1<|k<|lss J J J J<|ak (v:=.bool (decide (tt<0))) J J ?_
 rcases bE (decide (tt<0)) with b0|b0
 ·
  have p0:=dT b0
  refine aN J J J b0<|aN J J J b0<|aN J J J b0<|aN J J J b0<|aN J J J b0<|k<|aR J J J J b0 J<|av<|oP J J J<|aB<|au (v:=.slice none 0 0) J J<|av<|rt<|aL<|r1 J J ?_
  have e0:([]:List Int)=cx I tt:=by exact EU aq
  have bo:=iq (fun (bV:List Int)=>(.slice none bV.length 0:Value)) e0
  exact⟨none,0,bo,H1.below,(amh (fun (x_:List Int)=>bj _ _ _ x_ (.slice none x_.length 0) _) e0).mp (fL H1.below)⟩
 have p0:=dF b0
 refine aT J J J b0<|mv J i1<|aT J J J b0<|fa fy J J<|aT J J J b0<|lx H1 0 J iR J J J<|aT J J J b0<|dW J J jn<|aT J J J b0<|geq J J J J<|k<|cK J J J J b0 J<|z<|nx ?_
 refine cd (b:=decide ((I.length:Int)≤tt)) J J (fun b1=>?_)<|fun b1=>?_
 ·
  have p1:=dT b1
  refine aB<|au (v:=.slice none 0 0) J J<|av<|rt<|aL<|r1 J J ?_
  have e0:([]:List Int)=cx I tt:=by exact EU aq
  have bo:=iq (fun (bV:List Int)=>(.slice none bV.length 0:Value)) e0
  exact⟨none,0,bo,H1.below,(amh (fun (x_:List Int)=>bj _ _ _ x_ (.slice none x_.length 0) _) e0).mp (fL H1.below)⟩
 have p1:=dF b1
 refine sk<|cI<|ak J i1<|aU fy J J<|bl H1 0 J iR J J J<|ak J i1<|k<|ia (H1.rv 1 J) J J J J aq jn jr ?_
 intro iw x0 aQ cu
 refine aU acO J J<|k<|mQ ((cu).s1).fst.w aW J J ?_
 intro cm
 refine k<|sub J J J J (by have Cv:=ho.zH tt.toNat aq;have Vk:=(ho.back tt.toNat aq).1;rw[Hv aQ] at Cv Vk;unfold aK;omega)<|au (v:=C (tt-x0.2.1)) J J<|av<|sq ?_
 have Cv:=ho.zH tt.toNat aq
 have Vk:=(ho.back tt.toNat aq).1
 rw[Hv aQ] at Cv Vk
 refine rg<|ak J i1<|ak (v:=C (tt-x0.2.1)) J J<|k<|sub J J J J aV<|k<|add J J J J aV<|k ?_
 have n0:((((tt-(tt-x0.2.1))+1).toNat:Nat):Int)=(tt-(tt-x0.2.1))+1:=amT aq
 refine mk0 (α:=Int) (m:=((tt-(tt-x0.2.1))+1).toNat) H1 J J J (by rw[n0];exact rfl) cG aW aq aq ?_
 intro g0 w1 cY (H2:HI M w w1 [own w.heap.size 3 (.slice (some ⟨g0,0,none⟩) 0 (((tt-(tt-x0.2.1))+1).toNat)) ([]:List Int),J1,J0])
 refine au (v:=.slice (some ⟨g0,0,none⟩) 0 (((tt-(tt-x0.2.1))+1).toNat)) J J<|av<|sq<|aB<|ak (v:=C (tt-x0.2.1)) J J<|au (v:=C (tt-x0.2.1)) J J<|av<|bk ?_
 refine lp (fun m f w'=>∃(q:Nat) (xs:List Int) (a0:OA) (c0:Nat),m=(x0.2.1+1).toNat-q∧f 1=C tt∧f 6=R a0 xs c0∧f 7=C (tt-x0.2.1+(q:Int))∧HI M w w' [oL w 3 a0 xs c0,J1,J0]∧((q:Int)≤x0.2.1+1)∧(xs=uz (tt-x0.2.1) q)) _ ⟨0,([]:List Int),(some ⟨g0,0,none⟩),(((tt-(tt-x0.2.1))+1).toNat),J,i1,J,(bJ J),H2,aq,(by rfl)⟩ ?_
 rintro _ f0 w2 ⟨q,xs,a0,c0,rfl,s0,s1,s2,H3,sf,hs⟩
 refine sq<|aB<|ak J s2<|ak J s0<|k<|leq J J J J<|z<|nx ?_
 refine cd (b:=decide ((tt-x0.2.1+(q:Int))≤tt)) J J (fun b2=>?_)<|fun b2=>?_
 ·
  have p2:=dT b2
  refine sk<|nx<|sq<|bk<|rg<|ak J s1<|ak J s2<|k<|bs (xs:=([(tt-x0.2.1+(q:Int))]:List Int)) (cells:=#[C (tt-x0.2.1+(q:Int))]) (e:=3) H3 J (cj J ey) (fun _=>aM) ⟨[C (tt-x0.2.1+(q:Int))],[],J,⟨J,(show aK ((tt-x0.2.1+(q:Int))) from aV)⟩,J⟩ J aw ?_
  intro g1 w3 eT H4
  refine k<|l9 H4 1 J J J J J J (gT<|H4.at_ 0 J) cG aW J (by rw[hs,PA];simp only[iB,gm];omega) J ?_
  intro a1 c1 w4 (H5:HI M w w4 [own w.heap.size 3 (.slice (some ⟨g1,0,none⟩) 1 1) ([(tt-x0.2.1+(q:Int))]:List Int),oL w 3 a1 (xs++([(tt-x0.2.1+(q:Int))]:List Int)) c1,J1,J0])
  refine au (v:=R a1 (xs++([(tt-x0.2.1+(q:Int))]:List Int)) c1) J J<|z<|aI<|nx<|rg<|ak J s2<|k<|add J J J J aV<|au (v:=C ((tt-x0.2.1+(q:Int))+1)) J J<|z ?_
  have H6:HI M w w4 [oL w 3 a1 (xs++([(tt-x0.2.1+(q:Int))]:List Int)) c1,J1,J0]:=H5.bT [1,2,3] aw rfl
  refine bB _ ?_ ⟨(q+1),(xs++([(tt-x0.2.1+(q:Int))]:List Int)),a1,c1,J,s0,J,(bJ J),H6,aq,(by rw[hs];exact M8 _ _)⟩
  omega
 have p2:=dF b2
 refine ex<|aX<|bf<|bg<|cI<|ak J s1<|au (v:=R a0 xs c0) J J<|av<|rt<|r1 J J ?_
 have e0:(xs:List Int)=cx I tt:=by rw[hs];exact RH aq aq aQ Cv aq
 have bo:=iq (fun (bV:List Int)=>(.slice a0 bV.length c0:Value)) e0
 exact⟨a0,c0,bo,H3.below,(amh (fun (x_:List Int)=>bj _ _ _ x_ (.slice a0 x_.length c0) _) e0).mp (H3.da 0 J)⟩
theorem ae5:ct aJ 108:=⟨_,_,Tryz.func108,rfl,aM⟩
theorem ae4:ct aJ 109:=⟨_,_,Tryz.func109,rfl,aM⟩
theorem B9 (hM:eD M w) (cL:cw M w ay ax I) (tB:aK o) (ho:gL I) (dp:I.length≤4096):Calls aJ 68 #[.agg #[.slice aD aF aC,R ay I ax,.slice aA eS az],C o] w (cb fun v w'=>∃(a0:OA) (c0:Nat),v=.slice a0 (aZ (fV I) (cx I o)).length c0∧Ext w w'∧bj M 3 w (aZ (fV I) (cx I o)) (.slice a0 (aZ (fV I) (cx I o)).length c0) w'):=by
 refine df 10 Tryz.func68 J J J hM fun f0 ha H=>?_
 let J0:=iL ay I ax
 have H0:=H.put (it:=J0) J<|by rw[bN];exact cL
 have fM:=aP cL
 have i0:f0 0=.agg #[.slice aD aF aC,R ay I ax,.slice aA eS az]:=ha 0 bh
 have i1:f0 1=C o:=ha 1 bh
 refine aB<|k<|bx H0 J i0 ?_
 intro aY w0 bS (H1:HI M w w0 [box aY #[.slice aD aF aC,R ay I ax,.slice aA eS az] 47,J0])
 let J1:=box aY #[.slice aD aF aC,R ay I ax,.slice aA eS az] 47
 refine au (v:=.slice none 0 0) J J<|bt<|k<|cq H1 0 J dx J J aw J<|ak J i1<|k ?_
 have bP:=KJ (I:=I) (tt:=o) (aD:=aD) (aF:=aF) (aC:=aC) (aA:=aA) (eS:=eS) (az:=az) H1.mb (H1.rv 1 J) tB aq aq
 refine ca ae5 J (ec J<|ec J e0) bP ?_
 rintro _ w1 ⟨a0,c0,rfl,cY,cm⟩
 have H2:=H1.eI cm
 refine k<|mf J<|k ?_
 have H3:HI M w w1 ([oL w 3 a0 (cx I o) c0]++[J1,J0]):=H2.bT [0,1,2] aw rfl
 have cV:=oF (dO:=a0) (dH:=c0) (xs:=(cx I o)) (pY:=109) (qb:=[pV aY 0]) (p:=(fun (x_:Int)=>fV I x_)) (w:=w) (w_:=w1) (r:=[J1,J0]) (M:=M) ⟨ae4,fun w_ qS H_ x_ sV D3=>Pz (I:=I) (M:=fun _=>False) (fun _ h_=>h_.elim) D3 ((H_.rv 2 J).lift (Up.less fun _ _ h_=>h_.elim)) ⟨H_.at_ 1 rfl,fun h_=>h_⟩ (by obtain⟨j_,Gz⟩:=amB.1 sV;exact IF ho Gz)⟩ H3
 refine ca GH J (ec J<|ec J e0) cV ?_
 rintro _ w2 ⟨rfl,H4⟩
 have H5:HI M w w2 [oL w 3 a0 (aZ (fun (x_:Int)=>fV I x_) (cx I o)) c0,J1,J0]:=H4
 refine au (v:=R a0 (aZ (fun (x_:Int)=>fV I x_)<|cx I o) c0) J J<|av<|rt<|r1 J J ?_
 have e0:((aZ (fun (x_:Int)=>fV I x_) (cx I o)):List Int)=aZ (fV I) (cx I o):=rfl
 have bo:=iq (fun (bV:List Int)=>(.slice a0 bV.length c0:Value)) e0
 exact⟨a0,c0,bo,H5.below,(amh (fun (x_:List Int)=>bj _ _ _ x_ (.slice a0 x_.length c0) _) e0).mp (H5.da 0 J)⟩
theorem yQ (hM:eD M w) (fZ:aK mn) (fG:cw M w bA bz mr) (tC:cw M w l_ mC l) (bU:bF mn mr=true) (Xo:l.length≤1000000000):Calls aJ 81 #[.agg #[C mn,R bA mr bz],R l_ l mC] w (cb fun v w'=>∃(a0:OA) (c0:Nat),v=.agg #[C mn,.slice a0 (gj mn mr l).length c0]∧Ext w w'∧bj M 144 w (gj mn mr l) (.slice a0 (gj mn mr l).length c0) w'):=by
 refine df 73 Tryz.func81 J J J hM fun f0 ha H=>?_
 let J0:=iL bA mr bz
 have H0:=H.put (it:=J0) J<|by rw[bN];exact fG
 let J1:=iL l_ l mC
 have H1:=H0.put (it:=J1) J<|by rw[aE rfl,bN];exact tC
 have kA:=aP fG
 have Li:=aP tC
 have i0:f0 0=.agg #[C mn,R bA mr bz]:=ha 0 bh
 have i1:f0 1=R l_ l mC:=ha 1 bh
 have tw:=(bO bU).1;have I_:=(bO bU).2.2.1;have D':=kF bU
 refine aB<|k<|bx H1 J i0 ?_
 let bc:=[J1,J0]
 intro aY w0 bS (H2:HI M w w0 (box aY #[C mn,R bA mr bz] 26::bc))
 let J2:=box aY #[C mn,R bA mr bz] 26
 refine k<|al H2 bm ?_
 let bY:=J2::bc
 intro ba w1 cY (H3:HI M w w1 (box ba #[C 0,.slice none 0 0] 26::bY))
 let J3:=box ba #[C 0,.slice none 0 0] 26
 refine bt<|aU j6 J J<|bl H3 1 J aW J J J<|k ?_
 have bP:=Di (n:=mn) H3.mb fZ aq
 refine ca Qb J (ec J e0) bP ?_
 rintro _ w2 ⟨a0,c0,rfl,eT,cm⟩
 have H4:=H3.eI cm
 refine au (v:=R a0 (dX mn) c0) J J<|av<|sq<|aB<|ak J i1<|k<|dW J J cG<|ak (v:=C 0) J J<|av<|bk ?_
 have H5:=H4.freeze 0 J
 let J4:=iL a0 (dX mn) c0
 have H6:=H5.put (it:=J4) J<|H5.rv 0 J
 let dE:=J4::J3::bY
 refine lp (fun m f w'=>∃(q:Nat) (rp:List bX) (a1:OA) (c1:Nat),m=l.length-q∧f 2=pV aY 0∧f 4=pV ba 0∧f 5=R a1 rp c1∧f 16=R l_ l mC∧f 17=C (l.length:Int)∧f 18=C (q:Int)∧HI M w w' (iL a1 rp c1::dE)∧(q≤l.length)∧(rp=oX mn.toNat (l.take q))) _ ⟨0,(dX mn),a0,c0,J,J,J,J,J,J,(bJ J),H6,aq,(by exact U3 D' l)⟩ ?_
 rintro _ f0 w3 ⟨q,rp,a1,c1,rfl,s0,s1,s2,s3,s4,s5,H7,sf,hm⟩
 refine aB<|k<|lss J J s5 s4<|av<|sq ?_
 refine cd (b:=decide ((q:Int)<(l.length:Int))) J J (fun b0=>?_)<|fun b0=>?_
 ·
  have p0:=dT b0
  refine sk<|nx<|sq<|bk<|aB<|k<|ia (H7.rv 4 J) J J s3 s5 aq cG aW ?_
  intro iw x0 aQ cu
  refine k<|mQ cu.w aW J J ?_
  intro dM
  refine au (v:=C x0) J J<|bt<|ak (v:=C x0) J J<|aU j6 J s0<|bl H7 3 J aW J J J<|k<|lss J J J J<|z<|nx ?_
  refine cd (b:=decide (x0<mn)) J J (fun b1=>?_)<|fun b1=>?_
  ·
   have p1:=dT b1
   refine rg<|ak J s2<|ak (v:=C x0) J J<|k ?_
   have cV:=tP (r:=rp) (i:=x0) H7.mb (H7.rv 0 J) dM<|by rw[hm,IK D'];have h_:=Ez I_;omega
   refine ca Fh J (ec J<|ec J e0) cV ?_
   rintro _ w4 ⟨a2,c2,rfl,fB,dV⟩
   have H8:=H7.eI dV
   refine au (v:=R a2 (dY rp x0) c2) J J<|z<|aI<|nx<|rg<|k<|add J J s5 J aV<|ak (v:=C ((q:Int)+1)) J J<|z ?_
   have H9:=H8.freeze 0 J
   have dC:=ee H9<|H9.rv 0 J
   have cT:HI M w w4 (iL a2 (dY rp x0) c2::dE):=dC.bT [0,3,4,5,6,7] aw rfl
   refine bB _ ?_ ⟨(q+1),(dY rp x0),a2,c2,J,s0,s1,J,s3,s4,(bJ J),cT,aq,(by exact Y3 hm aQ aq)⟩
   omega
  have p1:=dF b1
  refine sk<|aI<|nx<|rg<|k<|add J J s5 J aV<|ak (v:=C ((q:Int)+1)) J J<|z ?_
  have H8:=ee H7<|H7.rv 0 J
  have H9:HI M w w3 (iL a1 rp c1::dE):=H8.bT [0,2,3,4,5,6] aw rfl
  refine bB _ ?_ ⟨(q+1),rp,a1,c1,J,s0,s1,s2,s3,s4,(bJ J),H9,aq,(by exact aaW hm aQ aq)⟩
  omega
 have p0:=dF b0
 refine ex<|aX<|bf<|bg<|nx<|sq ?_
 have nU:rp=oX mn.toNat l:=by rw[hm,lV aq]
 refine rg<|aU j6 J s0<|bl H7 3 J aW J J J<|k ?_
 have cV:=E7 (n:=mn) H7.mb fZ (by exact kF bU)<|by exact(bO bU).2.2.1
 refine ca GG J (ec J e0) cV ?_
 rintro _ w4 ⟨a2,c2,fI,rfl,fB,dM⟩
 have H8:=H7.F8 dM
 let J5:=own w.heap.size 144 (.slice a2 mn.toNat c2) fI
 let J6:=iL a1 rp c1
 let iH:=J5::J6::dE
 have H9:HI M w w4 (iH++bC w.heap.size 151 fI (List.replicate mn.toNat (dX mn))):=H8
 have EG:=dM.1
 refine ak (v:=.tuple #[.agg #[C mn,.slice a2 mn.toNat c2],C 0]) J J<|k<|xt J J J<|k<|xt J J J<|k<|al H9 bm ?_
 intro bD w5 iN (dC:HI M w w5 ((box bD #[C 0,.slice none 0 0] 26::iH)++bC w.heap.size 151 fI (List.replicate mn.toNat (dX mn))))
 refine k<|bp dC 0 J bm J J J J J J J ?_
 let J7:=box bD #[C mn,.slice a2 mn.toNat c2] 26
 let eW:=J7::iH
 intro w6 (cT:HI M w w6 (eW++bC w.heap.size 151 fI (List.replicate mn.toNat (dX mn))))
 refine au (v:=C 0) J J<|av<|sq<|aB<|aU ik J J<|bl cT 0 J kO J J J<|k<|dW J J gV<|ak (v:=C 0) J J<|av<|bk ?_
 refine lp (fun m f w'=>∃(i:Nat) (xs:List (List bX)),m=mn.toNat-i∧f 2=pV aY 0∧f 4=pV ba 0∧f 5=R a1 rp c1∧f 8=pV bD 0∧f 38=C (mn.toNat:Int)∧f 39=C (i:Int)∧HI M w w' (eW++bC w.heap.size 151 fI xs)∧(i≤mn.toNat)∧(fI.length=xs.length)∧(xs=cB mn.toNat (wy (fX mr) l i))∧(xs.length=mn.toNat)) _ ⟨0,(List.replicate mn.toNat<|dX mn),J,s0,s1,s2,J,J,(bJ J),cT,aq,(by exact EG),(by exact Ua bU),bh⟩ ?_
 rintro _ f1 w7 ⟨i,xs,rfl,s6,s7,s8,s9,ej,eY,dt,Xt,hl,hs,D2⟩
 refine aB<|k<|lss J J eY ej<|av<|sq ?_
 refine cd (b:=decide ((i:Int)<(mn.toNat:Int))) J J (fun b1=>?_)<|fun b1=>?_
 ·
  have p1:=dT b1
  refine sk<|nx<|sq<|bk<|aB<|ak J eY<|au (v:=C (i:Int)) J J<|av<|sq<|aB<|ak J s8<|ak (v:=C (i:Int)) J J<|k ?_
  have fT:=zr (r:=rp) (i:=(i:Int)) dt.mb (dt.rv 2 J) aV
  refine ca LY J (ec J<|ec J e0) fT ?_
  rintro _ w8 ⟨rfl,jb⟩
  have dw:=dt.ext jb
  refine k<|jE J J<|z<|nx ?_
  refine cd (b:=!(fe rp (i:Int))) J J (fun b2=>?_)<|fun b2=>?_
  ·
   refine ex<|aX<|bg<|nx<|rg<|k<|add J J eY J aV<|ak (v:=C ((i:Int)+1)) J J<|z ?_
   refine bB _ ?_ ⟨(i+1),xs,J,s6,s7,s8,s9,ej,(bJ J),dw,aq,(by exact hl),(by exact Yt bU hs nU aq (by simpa using b2)),(by exact D2)⟩
   omega
  refine sk<|cI<|aU ik J s6<|bl dw 5 J kO J J J<|ak (v:=C (i:Int)) J J<|k<|ia (dw.rv 7 J) J J J J aq gV cZ ?_
  intro iw x0 aQ cu
  refine k<|vB cu.w cZ J J ?_
  intro a3 c3 dV
  have uH:=aP dV
  have cJ:=ee dw dV
  let lg:=iL a3 x0 c3::eW
  have dS:HI M w w8 (lg++bC w.heap.size 151 fI xs):=cJ
  refine k<|dW J J gW<|ak (v:=C 0) J J<|av<|bk ?_
  refine lp (fun m f w'=>∃(k_:Nat) (ys:List (List bX)),m=x0.length-k_∧f 2=pV aY 0∧f 4=pV ba 0∧f 5=R a1 rp c1∧f 8=pV bD 0∧f 10=C (i:Int)∧f 38=C (mn.toNat:Int)∧f 39=C (i:Int)∧f 50=R a3 x0 c3∧f 51=C (x0.length:Int)∧f 52=C (k_:Int)∧HI M w w' (lg++bC w.heap.size 151 fI ys)∧(k_≤x0.length)∧(fI.length=ys.length)∧(ys=xs.set i (mj x0 rp k_))∧(ys.length=mn.toNat)) _ ⟨0,xs,J,s6,s7,s8,s9,J,ej,eY,J,J,(bJ J),dS,aq,(by exact hl),(by exact adO bU hs aQ),(by exact D2)⟩ ?_
  rintro _ f2 w9 ⟨k_,ys,rfl,fK,fJ,gx,gP,kr,kY,mL,mK,nG,pg,de,pt,nL,gH,zJ⟩
  refine aB<|k<|lss J J pg nG<|av<|sq ?_
  refine cd (b:=decide ((k_:Int)<(x0.length:Int))) J J (fun b3=>?_)<|fun b3=>?_
  ·
   have p3:=dT b3
   refine sk<|nx<|sq<|bk<|sq ?_
   have ml_:rp.length=x0.length:=by rw[nU,IK D',nC bU aQ]
   refine rg<|ak J pg<|k<|ia (de.rv 0 J) J J mK pg aq gW fh ?_
   intro rD x1 cP gK
   refine k<|yb gK.w fh J J<|au (v:=C (k_:Int)) J J<|au (v:=aj x1) J J<|z<|nx ?_
   obtain⟨a4,x2,c4,lQ,l7⟩:=tO (i:=(i:Int).toNat) de bq aq
   obtain⟨x4,qo⟩:∃x,rp[(k_:Int).toNat]? =some x:=⟨_,eP aq⟩
   refine dr 12 [eV (pV bD 1),eV (.slice a2 mn.toNat c2),eV (C (i:Int)),fun v w'=>∃(g0:Nat),v=.pointer (some ⟨g0,(i:Int).toNat*1,none⟩)∧(.slice a2 mn.toNat c2:Value).ownBlock=some g0∧gS de.fW w' ⟨g0,(i:Int).toNat*1,none⟩ (⟨a4,x2.length,c4⟩:SV),eV (R a4 x2 c4),eV (C (k_:Int)),eV (aj x1),eV (R a1 rp c1),eV (C (k_:Int)),fun v w'=>∃(pZ:Addr),v=.pointer (some pZ)∧At de.fW w' pZ x4,eV (aj x4),eV (aj<|x1 &&& x4)] J (by kernel_rfl) ?_ ?_
   ·
    refine dc (fun _ _ Sz _ _=>fa ik rfl ((Sz 8 J).trans gP) (d0 J J)) ?_
    refine dc (fun _ _ _ l4 I1=>lx (de.ext l4) 1 rfl kO rfl (I1 0 J J) rfl (d0 J J)) ?_
    refine dc (fun _ _ LK _ _=>mv rfl ((LK 10 J).trans kr) (d0 J J)) ?_
    refine⟨fun _=>⟨fun f6 hQ hf3 xJ yg=>?_,by rintro _ _ _ x_ ⟨g0,e_,im,la⟩;exact⟨g0,e_,im,la.ext x_⟩⟩,?_⟩
    ·
     have cC:=de.ext xJ
     have Bm:f6 58=.slice a2 mn.toNat c2:=yg 1 rfl rfl
     have BW:f6 59=C (i:Int):=yg 2 rfl rfl
     refine ic (cC.at_ 2 J) J J Bm BW aq gV cZ ?_
     intro g1 x5 kB zK yo
     obtain rfl:(⟨a4,x2.length,c4⟩:SV)=x5:=amo (lQ.symm.trans zK)
     exact⟨_,J,Ext.refl _,⟨g1,J,kB,yo⟩⟩
    refine dc (fun f7 iO hf4 tI D7=>?_) ?_
    ·
     obtain⟨g2,F1,Bp,Oq⟩:∃(g2:Nat),f7 60=.pointer (some ⟨g2,(i:Int).toNat*1,none⟩)∧(.slice a2 mn.toNat c2:Value).ownBlock=some g2∧gS de.fW iO ⟨g2,(i:Int).toNat*1,none⟩ (⟨a4,x2.length,c4⟩:SV):=D7 3 rfl rfl
     refine IQ Oq cZ J F1 ?_
     exact⟨_,J,Ext.refl _,J⟩
    refine dc (fun _ _ Xw _ _=>mv rfl (Xw 11 J) (d0 J J)) ?_
    refine dc (fun _ _ hf6 _ _=>mv rfl (hf6 12 J) (d0 J J)) ?_
    refine dc (fun _ _ hf7 _ _=>mv rfl ((hf7 5 J).trans gx) (d0 J J)) ?_
    refine dc (fun _ _ hf8 _ _=>mv rfl (hf8 11 J) (d0 J J)) ?_
    refine⟨fun _=>⟨fun f12 xK hf9 O1 D6=>?_,by rintro _ _ _ x_ ⟨pZ,e_,xh⟩;exact⟨pZ,e_,xh.lift (Up.ext x_)⟩⟩,?_⟩
    ·
     have iD:=de.ext O1
     have Bl:f12 64=R a1 rp c1:=D6 7 rfl rfl
     have F0:f12 65=C (k_:Int):=D6 8 rfl rfl
     refine ia (iD.rv 3 J) J J Bl F0 aq gW fh ?_
     intro vK x6 Sd SP
     obtain rfl:x4=x6:=amo (qo.symm.trans Sd)
     exact⟨_,J,Ext.refl _,⟨vK,J,SP⟩⟩
    refine dc (fun f13 zj A0 T_ vm=>?_) ?_
    ·
     have ga:=de.ext T_
     obtain⟨u3,Rk,hA7⟩:∃(u3:Addr),f13 66=.pointer (some u3)∧At de.fW zj u3 x4:=vm 9 rfl rfl
     have lL:=ga.put (it:=qJ u3 x4) J hA7
     have il:HI M w zj ((qJ u3 x4::lg)++bC w.heap.size 151 fI ys):=lL
     refine yb (il.atv 0 J).w fh J Rk ?_
     exact⟨_,J,Ext.refl _,J⟩
    refine dc (fun _ _ _ _ P3=>CZ x1 x4 rfl rfl (P3 6 J J) (P3 10 J J) (d0 J J)) ?_
    exact ma.rest J _
   ·
    intro f15 FT yT agN Lz
    have je:=de.ext agN
    have s31:=(yT 2 J).trans fK
    have s32:=(yT 4 J).trans fJ
    have s33:=(yT 5 J).trans gx
    have s34:=(yT 8 J).trans gP
    have s35:=(yT 10 J).trans kr
    have s36:=(yT 38 J).trans kY
    have s37:=(yT 39 J).trans mL
    have s38:=(yT 50 J).trans mK
    have s39:=(yT 51 J).trans nG
    have s40:=(yT 52 J).trans pg
    have s41:=Lz 4 J
    have s42:=Lz 5 J
    have s43:=Lz 11 J
    refine k<|ic (je.at_ _<|pj lQ l7) J J s41 s42 (by have h_:=amh List.length (Kj bU hs gH aQ l7);rw[sx] at h_;omega) gW fh ?_
    intro g3 x7 Xe hx6 hA8
    refine k<|pR je _ (pj lQ l7) Xe J (by have h_:=amh List.length (Kj bU hs gH aQ l7);rw[sx] at h_;omega) fh J J J s43 (RV.bv.2 J) ?_
    intro QY j9
    have nZ:=HI.zt (M:=fun _=>False) (it:=sU (.int .i64 0) (0:Int)) j9 lQ
    have rF:HI M w QY (lg++bC w.heap.size 151 fI (ys.set ((i:Int).toNat) (x2.set ((k_:Int).toNat) (x1 &&& x4)))):=nZ
    refine z<|aI<|nx<|rg<|k<|add J J s40 J aV<|ak (v:=C ((k_:Int)+1)) J J<|z ?_
    refine bB _ ?_ ⟨(k_+1),(ys.set ((i:Int).toNat) (x2.set ((k_:Int).toNat) (x1 &&& x4))),J,s31,s32,s33,s34,s35,s36,s37,s38,s39,(bJ J),rF,aq,(by rw[ami];exact nL),(by exact Ys bU hs gH aQ l7 cP qo),(by rw[ami];exact zJ)⟩
    omega
  have p3:=dF b3
  refine ex<|aX<|bf<|bg<|aI<|nx<|rg<|k<|add J J mL J aV<|ak (v:=C ((i:Int)+1)) J J<|z ?_
  have cO:HI M w w9 (eW++bC w.heap.size 151 fI ys):=HI.aR (l:=lg) (l':=eW) (t:=bC w.heap.size 151 fI ys) de [1,2,3,4,5,6,7,8] aw rfl rfl
  refine bB _ ?_ ⟨(i+1),ys,J,fK,fJ,gx,gP,kY,(bJ J),cO,aq,(by exact nL),(by exact Yu bU hs gH aQ nU (by simpa using b2) aq),(by exact zJ)⟩
  omega
 have p1:=dF b1
 refine ex<|aX<|bf<|bg<|nx<|sq ?_
 have dw:HI M w w7 (own w.heap.size 144 (.slice a2 mn.toNat c2) xs::J7::J6::dE):=HI.deep (l:=(J7::J6::dE)) (HI.aR (l:=eW) (l':=(J5::J7::J6::dE)) (t:=bC w.heap.size 151 fI xs) dt [1,0,2,3,4,5,6,7] aw rfl rfl) bq
 refine rg<|k<|cq dw 1 J bm J s9 aw J<|k<|bp dw 4 J bm J J s7 J J J J ?_
 intro w8 (cJ:HI M w w8 [own w.heap.size 144 (.slice a2 mn.toNat c2) xs,J7,J6,J4,box ba #[C mn,.slice a2 mn.toNat c2] 26,J2,J1,J0])
 refine av<|rt<|oN cJ 4 J bm J J s7 J aw ?_
 have e1:(xs:List (List bX))=gj mn mr l:=by exact Z7 bU hs aq
 have l1:mn.toNat=(gj mn mr l).length:=by rw[←e1];omega
 have bo:=iq (fun (uE:Nat)=>(.agg #[C mn,.slice a2 uE c2]:Value)) l1
 exact⟨a2,c2,bo,cJ.below,(amh (fun (n_:Nat)=>bj _ _ _ (gj mn mr l) (.slice a2 n_ c2) _) l1).mp ((amh (fun (x_:List (List bX))=>bj _ _ _ x_ (.slice a2 mn.toNat c2) _) e1).mp (cJ.da 0 J))⟩
theorem Vx:ct aJ 68:=⟨_,_,Tryz.func68,rfl,aM⟩
theorem LZ:ct aJ 82:=⟨_,_,Tryz.func82,rfl,aM⟩
theorem Vv:ct aJ 81:=⟨_,_,Tryz.func81,rfl,aM⟩
theorem aeN:ct aJ 142:=⟨_,_,Tryz.func142,rfl,aM⟩
theorem Vy:ct aJ 66:=⟨_,_,Tryz.func66,rfl,aM⟩
theorem Hs (hM:eD M w) (hT:fQ 0 w) (cL:cw M w ay ax I) (eZ:cw M w aA az U) (fZ:aK mn) (fG:cw M w bA bz mr) (tB:aK o) (ho:gL I) (dp:I.length≤64) (eo:U.length=I.length) (fE:∀x∈U,x<((I.length:Nat):Int)) (Bt:mn=((I.length:Nat):Int)) (Bs:mr=cp I U) (jk:0≤o∧o<((I.length:Nat):Int)):Calls aJ 106 #[.agg #[.slice aD aF aC,R ay I ax,R aA U az],.agg #[C mn,R bA mr bz],C o] w (cb fun v w'=>∃(es:List dU) (rd:Int) (a0:OA) (c0:Nat) (a1:OA) (c1:Nat),v=.tuple #[.agg #[C ((I.length:Nat):Int),.slice a0 (cQ I U o).length c0],R a1 es c1,C rd,C 0]∧Ext w w'∧RV M w' (.slice a0 (cQ I U o).length c0) (cQ I U o)∧cw M w' a1 c1 es∧es.length≤2000000000∧aK rd∧n5 I.length es):=by
 refine df 66 Tryz.func106 J J J hM fun f0 ha H=>?_
 let J0:=iL ay I ax
 have H0:=H.put (it:=J0) J<|by rw[bN];exact cL
 let J1:=iL aA U az
 have H1:=H0.put (it:=J1) J<|by rw[aE rfl,bN];exact eZ
 let J2:=iL bA mr bz
 have H2:=H1.put (it:=J2) J<|by rw[aE rfl,aE rfl,bN];exact fG
 have fM:=aP cL
 have iA:=aP eZ
 have kA:=aP fG
 have i0:f0 0=.agg #[.slice aD aF aC,R ay I ax,R aA U az]:=ha 0 bh
 have i1:f0 1=.agg #[C mn,R bA mr bz]:=ha 1 bh
 have i2:f0 2=C o:=ha 2 bh
 have bU:bF mn mr=true:=by rw[Bt,Bs];exact pc U aq
 have lk_:=AU ho dp jk
 refine aB<|k<|bx H2 J i0 ?_
 let bc:=[J2,J1,J0]
 intro aY w0 bS (H3:HI M w w0 (box aY #[.slice aD aF aC,R ay I ax,R aA U az] 47::bc))
 let J3:=box aY #[.slice aD aF aC,R ay I ax,R aA U az] 47
 refine k<|bx H3 J i1 ?_
 let bY:=J3::bc
 intro ba w1 cY (H4:HI M w w1 (box ba #[C mn,R bA mr bz] 26::bY))
 let J4:=box ba #[C mn,R bA mr bz] 26
 refine k<|al H4 bm ?_
 let dE:=J4::bY
 intro bD w2 eT (H5:HI M w w2 (box bD #[C 0,.slice none 0 0] 26::dE))
 let J5:=box bD #[C 0,.slice none 0 0] 26
 refine au (v:=.slice none 0 0) J J<|au (v:=C 0) J J<|au (v:=C 0) J J<|av<|sq<|aB<|ak J i2<|k<|lss J J J J<|ak (v:=.bool (decide (o<0))) J J ?_
 have Bi:(decide (o<0))=false:=(by rw[amy];omega)
 refine aT J J J Bi<|mv J i2<|aT J J J Bi<|fa fy J J<|aT J J J Bi<|lx H5 2 J iR J J J<|aT J J J Bi<|dW J J jn<|aT J J J Bi<|geq J J J J<|k<|cK J J J J Bi J<|z<|nx ?_
 have Kq:(decide ((I.length:Int)≤o))=false:=(by rw[amy];omega)
 refine nP J J Kq<|sk<|cI<|k<|cq H5 2 J dx J J aw J<|ak J i2<|k ?_
 have bP:=B9 (I:=I) (o:=o) (aD:=aD) (aF:=aF) (aC:=aC) (aA:=aA) (eS:=U.length) (az:=az) H5.mb (H5.rv 5 J) tB (by exact ho) aq
 refine ca Vx J (ec J<|ec J e0) bP ?_
 rintro _ w3 ⟨a0,c0,rfl,fB,cm⟩
 have H6:=H5.eI cm
 refine au (v:=R a0 (aZ (fV I)<|cx I o) c0) J J<|av<|sq ?_
 refine l8 [.r,.r,.r,.r,.r,.n,.e] (fun _=>True) J (by kernel_rfl) (fun _ _=>trivial) ?_
 refine yq J J<|kq (fun _ x_=>cq (H6.ext x_) 2 rfl bm rfl rfl aw rfl e1)<|zq<|yq J J<|kq (fun _ x_=>cq (H6.ext x_) 2 rfl bm rfl rfl aw rfl e1)<|zq<|yq J J<|kq (fun _ _=>mv rfl i2 e1)<|zq ?_
 refine yu J (fun N v w'=>∃(a1:OA) (c1:Nat),v=R a1 (bL mn mr o) c1∧RV (MN H6.fW N) w' (R a1 (bL mn mr o) c1) (bL mn mr o)) J kI J (fun v_ _ x_ n_=>have fT:=uy (mn:=mn) (mr:=mr) (o:=o) (w:=v_) (kx H6.mb x_ n_) (hT.ext (H6.below.trans x_)) fZ (j3 (H6.rv 4 J) x_ n_) tB (by exact bU);ca LZ rfl (ec J<|ec J e0) fT (fun _ w5 ⟨a2,c2,e_,jb,fq⟩=>⟨_,J,jb,⟨a2,c2,e_,(bj.rv fq<|kx H6.mb x_ n_)⟩⟩)) ?_
 refine lq J (fun N v w'=>∃(a4:OA) (c4:Nat),v=.agg #[C mn,R a4 (gj mn mr<|bL mn mr o) c4]∧RV (MN H6.fW N) w' (R a4 (gj mn mr<|bL mn mr o) c4) (gj mn mr<|bL mn mr o)) 0 J J kI J (fun v_ _ _ x_ n_ h_=>let ⟨a5,c5,s0,kZ⟩:=h_;have kR:=yQ (mn:=mn) (mr:=mr) (l:=(bL mn mr o)) (w:=v_) (kx H6.mb x_ n_) fZ (j3 (H6.rv 4 J) x_ n_) kZ (by exact bU) (by have h_:=um bU o;omega);ca Vv rfl (ec J<|ec s0 e0) kR (fun _ w7 ⟨a6,c6,e_,l4,oe⟩=>⟨_,J,l4,⟨a6,c6,e_,(bj.rv oe<|kx H6.mb x_ n_)⟩⟩)) ?_
 refine yn (z:=#[C 0,.slice none 0 0]) J J (fun _=>OW bm)<|ye<|yz ?_
 intro w8 f0 _ lM _ _ cz iC
 obtain⟨fP,s1,CC,sj,Br⟩:=iC 0 _ _ rfl
 have px:=ON (z:=#[C 0,.slice none 0 0]) (T:=26) CC sj Br<|OO
 let iH:=oL w 3 a0 (aZ (fV I) (cx I o)) c0::J5::dE
 have H7:HI M w w8 (box fP #[C 0,.slice none 0 0] 26::iH):=H6.Dr lM px (N4 N3 N5)
 have s2:=cz 3 J
 have s3:=cz 6 J
 have s4:=cz 10 J
 obtain⟨a7,c7,s5,ph⟩:=iC 1 _ _ rfl
 let J6:=iL a7 (gj mn mr (bL mn mr o)) c7
 have H8:=H7.put (it:=J6) J<|rR ph px
 refine jZ<|bp H8 1 J bm J J s1 s5 J J J ?_
 intro w9 (H9:HI M w w9 (J6::box fP #[C mn,R a7 (gj mn mr (bL mn mr o)) c7] 26::iH))
 refine kz<|cI<|au (v:=.slice none 0 0) J J<|bt<|au (v:=C 1) J J<|av<|bk ?_
 have dC:=H9.freeze 2 J
 let J7:=iL a0 (aZ (fV I) (cx I o)) c0
 have cT:=dC.put (it:=J7) J<|dC.rv 2 J
 have dt:=cT.re (Int×Int×Int) 122
 have dw:=dt.put (it:=J6) J<|dt.rv 2 J
 let eW:=J7::J5::dE
 refine lp (fun m f w'=>∃(ft:Nat) (cD:Int) (gN:List (List bX)) (yC:List dU) (a8:OA) (c8:Nat) (a9:OA) (c9:Nat) (iZ:OA) (iY:Nat),m=I.length*I.length-HU I gN∧f 3=pV aY 0∧f 6=pV bD 0∧f 10=R a8 (aZ (fV I)<|cx I o) c8∧f 11=pV fP 0∧f 12=R a9 yC c9∧f 13=C ((ft:Int)+1)∧HI M w w' (iL iZ gN iY::oL w 122 a9 yC c9::iL a8 (aZ (fV I)<|cx I o) c8::J6::box fP #[C cD,R iZ gN iY] 26::eW)∧(Jo I U o cD gN)∧(ft≤HU I gN)∧(yC.length≤262144*ft)∧(n5 I.length yC)) _ ⟨0,mn,(gj mn mr<|bL mn mr o),([]:List dU),a0,c0,none,0,a7,c7,J,s2,s3,s4,s1,J,(bJ J),dw,(by rw[Bt,Bs];exact Ug I U o),(by exact anB _),(by exact anB _),(by intro e_ h_;cases h_)⟩ ?_
 rintro _ f1 dD ⟨ft,cD,gN,yC,a8,c8,a9,c9,iZ,iY,rfl,s6,s7,s8,s9,ej,eY,cJ,hs,ahg,alD,ab5⟩
 refine sq<|bk<|sq ?_
 have KQ:=Kz hs aq;have aho:=hs.1
 refine rg<|k<|cq cJ 8 J dx J s6 aw J<|k<|cq cJ 4 J bm J s9 aw J<|ak J s8<|k ?_
 have lI:=Pf (I:=I) (U:=U) (mn:=cD) (mr:=gN) (kp:=(aZ (fV I)<|cx I o)) (aD:=aD) (aF:=aF) (aC:=aC) cJ.mb (hT.ext cJ.below) (cJ.rv 11 J) (cJ.rv 10 J) aV (cJ.rv 0 J) (cJ.rv 2 J) aq (by exact eo) (by exact fE)<|by exact KQ
 refine ca aeN J (ec J<|ec J<|ec J e0) lI ?_
 rintro _ eb ⟨mF,mD,rfl,xJ,rb⟩
 have dS:=cJ.eI rb
 refine au (v:=R mF (gz cD gN (aZ (fV I)<|cx I o)<|cE I U cD gN) mD) J J<|av<|sq<|aB<|ak (v:=R mF (gz cD gN (aZ (fV I)<|cx I o)<|cE I U cD gN) mD) J J<|k<|dW J J ei<|k<|eql J J J J<|z<|nx ?_
 refine cd (b:=decide (((gz cD gN (aZ (fV I)<|cx I o)<|cE I U cD gN).length:Int)=0)) J J (fun b0=>?_)<|fun b0=>?_
 ·
  have p0:=dT b0
  refine sq ?_
  have ahC:=KB gN I;have ahc:I.length*I.length≤64*64:=Nat.mul_le_mul dp dp
  have Bo:(gz cD gN (aZ (fV I) (cx I o)) (cE I U cD gN))=[]:=ani.1 aq
  refine rg<|k<|cq dS 5 J bm J s9 aw J<|ak J ej<|ak J eY<|k<|bp dS 7 J bm J J s7 J J J J ?_
  intro ff (de:HI M w ff [oL w 122 mF (gz cD gN (aZ (fV I) (cx I o)) (cE I U cD gN)) mD,iL iZ gN iY,oL w 122 a9 yC c9,iL a8 (aZ (fV I) (cx I o)) c8,J6,box fP #[C cD,R iZ gN iY] 26,J7,box bD #[C cD,R iZ gN iY] 26,J4,J3,J2,J1,J0])
  refine au (v:=R a9 yC c9) J J<|au (v:=C ((ft:Int)+1)) J J<|au (v:=C 0) J J<|av<|rt<|aL<|bQ<|aL<|dQ<|bQ<|rc4 de 7 J bm J J J J J s7 J aw ?_
  have e0:(cD:Int)=((I.length:Nat):Int):=by exact hs.1
  have e1:(gN:List (List bX))=cQ I U o:=by exact aak hs eo fE (qE KQ) Bo
  have bo:=nr (fun (bV:Int) (dI:List (List bX))=>(.tuple #[.agg #[C bV,.slice iZ dI.length iY],.slice a9 yC.length c9,C ((ft:Int)+1),C 0]:Value)) e0 e1
  exact⟨yC,((ft:Int)+1),iZ,iY,a9,c9,bo,de.below,(amh (fun (x_:List (List bX))=>RV _ _ (.slice iZ x_.length iY) x_) e1).mp (de.fg 1 J),(de.me 2 J),aq,(by unfold aK;omega),(by exact ab5)⟩
 have p0:=dF b0
 refine sk<|nx<|sq ?_
 have ak1:=KB (lT cD gN<|gz cD gN (aZ (fV I)<|cx I o)<|cE I U cD gN) I;have ahC:=KB gN I;have ahc:I.length*I.length≤64*64:=Nat.mul_le_mul dp dp
 have LJ:=S0 cD gN (aZ (fV I)<|cx I o) (cE I U cD gN);have P8:=(qE (I:=I) (U:=U) KQ).1
 obtain⟨Gu,hc_⟩:=YC hs eo fE (qE KQ)
 have ab2:=hc_<|by intro h_;have e_:=amh List.length h_;simp only[gm] at e_;unfold lO at e_;omega
 have rW:n5 I.length (gz cD gN (aZ (fV I) (cx I o)) (cE I U cD gN)):=WO hs eo fE (qE KQ)
 refine rg<|ak J ej<|ak (v:=R mF (gz cD gN (aZ (fV I)<|cx I o)<|cE I U cD gN) mD) J J<|k<|l9 dS 2 J J J J J J (gT<|dS.at_ 0 J) ei cF J aq J ?_
 let J8:=oL w 122 mF (gz cD gN (aZ (fV I) (cx I o)) (cE I U cD gN)) mD
 let J9:=iL iZ gN iY
 let ez:=iL a8 (aZ (fV I) (cx I o)) c8
 intro a12 oQ ff (de:HI M w ff (J8::J9::oL w 122 a12 (yC++gz cD gN (aZ (fV I) (cx I o)) (cE I U cD gN)) oQ::ez::J6::box fP #[C cD,R iZ gN iY] 26::eW))
 let dK:=oL w 122 a12 (yC++gz cD gN (aZ (fV I) (cx I o)) (cE I U cD gN)) oQ
 refine au (v:=R a12 (yC++gz cD gN (aZ (fV I)<|cx I o) (cE I U cD gN)) oQ) J J<|bt<|ak (v:=R mF (gz cD gN (aZ (fV I)<|cx I o)<|cE I U cD gN) mD) J J<|k<|dW J J ei<|ak (v:=C 0) J J<|av<|bk ?_
 have cO:=de.put (it:=J9) J<|de.rv 1 J
 refine lp (fun m f w'=>∃(q_:Nat) (fS:Int) (fC:List (List bX)) (jK:OA) (jJ:Nat),m=(gz cD gN (aZ (fV I)<|cx I o)<|cE I U cD gN).length-q_∧f 3=pV aY 0∧f 6=pV bD 0∧f 10=R a8 (aZ (fV I)<|cx I o) c8∧f 11=pV fP 0∧f 12=R a12 (yC++gz cD gN (aZ (fV I)<|cx I o) (cE I U cD gN)) oQ∧f 13=C ((ft:Int)+1)∧f 50=R mF (gz cD gN (aZ (fV I)<|cx I o)<|cE I U cD gN) mD∧f 51=C ((gz cD gN (aZ (fV I)<|cx I o)<|cE I U cD gN).length:Int)∧f 52=C (q_:Int)∧HI M w w' (iL jK fC jJ::J8::J9::dK::ez::J6::box fP #[C fS,R jK fC jJ] 26::eW)∧(q_≤(gz cD gN (aZ (fV I)<|cx I o)<|cE I U cD gN).length)∧(fS=cD∧fC=lT cD gN ((gz cD gN (aZ (fV I)<|cx I o)<|cE I U cD gN).take q_))) _ ⟨0,cD,gN,iZ,iY,J,s6,s7,s8,s9,J,eY,J,J,(bJ J),cO,aq,(by exact⟨J,J⟩)⟩ ?_
 rintro _ f2 hQ ⟨q_,fS,fC,jK,jJ,rfl,fK,fJ,gx,gP,kr,kY,mL,mK,nG,dP,sf,nU⟩
 refine aB<|k<|lss J J nG mK<|av<|sq ?_
 refine cd (b:=decide ((q_:Int)<((gz cD gN (aZ (fV I)<|cx I o)<|cE I U cD gN).length:Int))) J J (fun b1=>?_)<|fun b1=>?_
 ·
  have p1:=dT b1
  refine sk<|nx<|sq<|bk<|aB<|k<|ic (dP.at_ 1 J) J J mL nG aq ei cF ?_
  intro g0 x0 im aQ cu
  refine k<|nj cu cF J J ?_
  intro v0 og
  obtain⟨_,⟨_,_,rfl,⟨rfl,nw⟩,⟨_,_,rfl,⟨rfl,qh⟩,⟨rfl,qg⟩⟩⟩,rfl⟩:=og
  refine k<|al dP cF ?_
  let lg:=iL jK fC jJ::J8::J9::dK::ez::J6::box fP #[C fS,R jK fC jJ] 26::eW
  intro Ad iO tI (dG:HI M w iO (box Ad #[C 0,C 0,C 0] 122::lg))
  refine k<|bp dG 0 J cF J J J J J J J ?_
  intro oM (cC:HI M w oM (box Ad #[C x0.1,C x0.2.1,C x0.2.2] 122::lg))
  refine av<|rg<|k<|cq cC 7 J bm J gP aw J<|aU kE J J<|bl cC 0 J aW J J J<|aU mI J J<|bl cC 0 J aW J J J<|k ?_
  have xy:=E_ (mn:=fS) (mr:=fC) (i:=x0.1) (j:=x0.2.1) cC.mb aV (cC.rv 1 J) nw qh<|by exact aaj hs aq rW nU
  refine ca Vy J (ec J<|ec J<|ec J e0) xy ?_
  rintro _ wz ⟨kL,kJ,rfl,Ey,pM⟩
  have dR:=cC.ext Ey
  let fR:=iL kL (gQ fS fC x0.1 x0.2.1) kJ
  have dB:=dR.put (it:=fR) J pM
  refine ak (v:=.tuple #[.agg #[C (gX fS x0.1 x0.2.1),R kL (gQ fS fC x0.1 x0.2.1) kJ],C (lk fS x0.1 x0.2.1)]) J J<|k<|xt J J J<|k<|xt J J J<|k<|bp dB 8 J bm J J gP J J J J ?_
  let fw:=box fP #[C (gX fS x0.1 x0.2.1),R kL (gQ fS fC x0.1 x0.2.1) kJ] 26
  intro sD (eO:HI M w sD (fR::box Ad #[C x0.1,C x0.2.1,C x0.2.2] 122::iL jK fC jJ::J8::J9::dK::ez::J6::fw::eW))
  refine z<|aI<|nx<|rg<|k<|add J J nG J aV<|ak (v:=C ((q_:Int)+1)) J J<|z ?_
  have fc:=eO.put (it:=fR) J<|eO.rv 0 J
  have gI:HI M w sD (fR::J8::J9::dK::ez::J6::fw::eW):=fc.bT [0,4,5,6,7,8,9,10,11,12,13,14,15,16] aw rfl
  refine bB _ ?_ ⟨(q_+1),(gX fS x0.1 x0.2.1),(gQ fS fC x0.1 x0.2.1),kL,kJ,J,fK,fJ,gx,gP,kr,kY,mL,mK,(bJ J),gI,aq,(by exact Bd nU aQ (KA aho rW aQ))⟩
  omega
 have p1:=dF b1
 refine ex<|aX<|bf<|bg<|aI<|nx<|rg<|ak J kY<|k<|add J J J J aV<|au (v:=C (((ft:Int)+1)+1)) J J<|z ?_
 have dG:=ee dP<|dP.rv 0 J
 have cC:=dG.put (it:=ez) J<|dG.rv 5 J
 have dR:HI M w hQ (iL jK fC jJ::dK::ez::J6::box fP #[C fS,R jK fC jJ] 26::eW):=cC.bT [1,5,0,7,8,9,10,11,12,13,14,15] aw rfl
 refine bB _ ?_ ⟨(ft+1),fS,fC,(yC++gz cD gN (aZ (fV I)<|cx I o) (cE I U cD gN)),a8,c8,a12,oQ,jK,jJ,J,fK,fJ,gx,gP,kr,(bJ J),dR,(by rw[nU.1,nU.2,amr aq];exact Gu),(by rw[nU.2,amr aq];unfold lO at ab2;omega),(by rw[gf];omega),(by intro e_ h_;exact(amH.1 h_).elim (ab5 e_) (rW e_))⟩
 rw[nU.2,amr aq];unfold lO at ab2;omega
theorem ah_:ct aJ 50:=⟨_,_,Tryz.func50,rfl,aM⟩
theorem Ps (hM:eD M w) (cL:cw M w ay ax I) (dp:I.length≤4096):Calls aJ 50 #[.agg #[.slice aD aF aC,R ay I ax,.slice aA eS az]] w (cb fun v w'=>∃(a0:OA) (c0:Nat),v=.slice a0 (jl I).length c0∧Ext w w'∧bj M 3 w (jl I) (.slice a0 (jl I).length c0) w'):=by
 refine df 42 Tryz.func50 J J J hM fun f0 ha H=>?_
 let J0:=iL ay I ax
 have H0:=H.put (it:=J0) J<|by rw[bN];exact cL
 have fM:=aP cL
 have i0:f0 0=.agg #[.slice aD aF aC,R ay I ax,.slice aA eS az]:=ha 0 bh
 refine aB<|k<|bx H0 J i0 ?_
 intro aY w0 bS (H1:HI M w w0 [box aY #[.slice aD aF aC,R ay I ax,.slice aA eS az] 47,J0])
 let J1:=box aY #[.slice aD aF aC,R ay I ax,.slice aA eS az] 47
 refine au (v:=.slice none 0 0) J J<|bt<|au (v:=.slice none 0 0) J J<|av<|sq<|aB<|au (v:=C 0) J J<|av<|bk ?_
 have H2:=H1.re Int 3
 refine lp (fun m f w'=>∃(j:Nat) (xs:List Int) (a0:OA) (c0:Nat),m=I.length-j∧f 1=pV aY 0∧f 3=R a0 xs c0∧f 4=C (j:Int)∧HI M w w' [oL w 3 a0 xs c0,J1,J0]∧(j≤I.length)∧(xs=(I.take j).map (uR I))) _ ⟨0,([]:List Int),none,0,J,J,J,(bJ J),H2,aq,(by rfl)⟩ ?_
 rintro _ f0 w1 ⟨j,xs,a0,c0,rfl,s0,s1,s2,H3,hk,hs⟩
 refine sq<|aB<|ak J s2<|aU fy J s0<|bl H3 1 J iR J J J<|k<|dW J J jn<|k<|lss J J J J<|z<|nx ?_
 refine cd (b:=decide ((j:Int)<(I.length:Int))) J J (fun b0=>?_)<|fun b0=>?_
 ·
  have p0:=dT b0
  refine sk<|nx<|sq<|bk<|aB<|aU fy J s0<|bl H3 1 J iR J J J<|ak J s2<|k<|ia (H3.rv 2 J) J J J J aq jn jr ?_
  intro iw x0 aQ cu
  refine k<|nj cu.w jr J J ?_
  intro v0 cm
  obtain⟨_,⟨_,_,rfl,⟨rfl,dM⟩,⟨_,_,rfl,⟨rfl,dV⟩,⟨_,_,rfl,rfl,⟨_,_,rfl,⟨rfl,fq⟩,⟨rfl,iU⟩⟩⟩⟩⟩,rfl⟩:=cm
  refine k<|al H3 jr ?_
  intro ba w2 cY (H4:HI M w w2 [box ba #[C 0,C 0,.bool false,C 0,C 0] 95,oL w 3 a0 xs c0,J1,J0])
  refine k<|bp H4 0 J jr J J J J J J J ?_
  let J2:=box ba #[C x0.1,C x0.2.1,.bool x0.2.2.1,C x0.2.2.2.1,C x0.2.2.2.2] 95
  intro w3 (H5:HI M w w3 [J2,oL w 3 a0 xs c0,J1,J0])
  refine bt<|au (v:=C (-2)) J J<|bt<|k<|cq H5 2 J dx J s0 aw J<|aU tc J J<|bl H5 0 J aW J J J<|aU rz J J<|bl H5 0 J aW J J J<|k ?_
  have bP:=DT (I:=I) (vr:=x0.2.2.2.1) (val:=x0.2.2.2.2) (aD:=aD) (aF:=aF) (aC:=aC) (aA:=aA) (eS:=eS) (az:=az) H5.mb (H5.rv 3 J) fq iU
  refine ca acB J (ec J<|ec J<|ec J e0) bP ?_
  rintro _ w4 ⟨rfl,eT⟩
  have H6:=H5.ext eT
  refine ak (v:=.tuple #[C (max (gD I x0.2.2.2.1 x0.2.2.2.2) 0),.bool (decide (0≤gD I x0.2.2.2.1 x0.2.2.2.2))]) J J<|k<|xt J J J<|k<|xt J J J<|au (v:=C (max (gD I x0.2.2.2.1 x0.2.2.2.2) 0)) J J<|au (v:=.bool (decide (0≤gD I x0.2.2.2.1 x0.2.2.2.2))) J J<|av<|sq<|aB<|aU uU J J<|bl H6 0 J l5 J J J<|z<|nx ?_
  refine cd (b:=x0.2.2.1) J J (fun b1=>?_)<|fun b1=>?_
  ·
   refine rg<|au (v:=C (-3)) J J<|av<|rg<|ak J s1<|ak (v:=C (-3)) J J<|k<|bs (xs:=([(-3)]:List Int)) (cells:=#[C (-3)]) (e:=3) H6 J (cj J ey) (fun _=>aM) ⟨[C (-3)],[],J,⟨J,(show aK ((-3)) from aV)⟩,J⟩ J aw ?_
   intro g0 w5 fB H7
   refine k<|l9 H7 2 J J J J J J (gT<|H7.at_ 0 J) cG aW J (by rw[hs,amS,ij];simp only[iB,gm];omega) J ?_
   intro a1 c1 w6 (H8:HI M w w6 [own w.heap.size 3 (.slice (some ⟨g0,0,none⟩) 1 1) ([(-3)]:List Int),J2,oL w 3 a1 (xs++([(-3)]:List Int)) c1,J1,J0])
   refine au (v:=R a1 (xs++([(-3)]:List Int)) c1) J J<|z<|aI<|nx<|rg<|ak J s2<|k<|add J J J J aV<|au (v:=C ((j:Int)+1)) J J<|z ?_
   have H9:HI M w w6 [oL w 3 a1 (xs++([(-3)]:List Int)) c1,J1,J0]:=H8.bT [2,3,4] aw rfl
   refine bB _ ?_ ⟨(j+1),(xs++([(-3)]:List Int)),a1,c1,J,s0,J,(bJ J),H9,aq,(by rw[hs];first|exact ir aQ (JX b1)|exact ir aQ (J_ b1 p2)|exact ir aQ (JY b1 p2 b3)|exact ir aQ (JZ b1 p2 b3))⟩
   omega
  refine aB<|aU rz J J<|bl H6 0 J aW J J J<|k<|eql J J J J<|z<|nx ?_
  refine cd (b:=decide (x0.2.2.2.2=0)) J J (fun b2=>?_)<|fun b2=>?_
  ·
   have p2:=dT b2
   refine rg<|au (v:=C (-1)) J J<|av<|rg<|ak J s1<|ak (v:=C (-1)) J J<|k<|bs (xs:=([(-1)]:List Int)) (cells:=#[C (-1)]) (e:=3) H6 J (cj J ey) (fun _=>aM) ⟨[C (-1)],[],J,⟨J,(show aK ((-1)) from aV)⟩,J⟩ J aw ?_
   intro g0 w5 fB H7
   refine k<|l9 H7 2 J J J J J J (gT<|H7.at_ 0 J) cG aW J (by rw[hs,amS,ij];simp only[iB,gm];omega) J ?_
   intro a1 c1 w6 (H8:HI M w w6 [own w.heap.size 3 (.slice (some ⟨g0,0,none⟩) 1 1) ([(-1)]:List Int),J2,oL w 3 a1 (xs++([(-1)]:List Int)) c1,J1,J0])
   refine au (v:=R a1 (xs++([(-1)]:List Int)) c1) J J<|z<|aI<|nx<|rg<|ak J s2<|k<|add J J J J aV<|au (v:=C ((j:Int)+1)) J J<|z ?_
   have H9:HI M w w6 [oL w 3 a1 (xs++([(-1)]:List Int)) c1,J1,J0]:=H8.bT [2,3,4] aw rfl
   refine bB _ ?_ ⟨(j+1),(xs++([(-1)]:List Int)),a1,c1,J,s0,J,(bJ J),H9,aq,(by rw[hs];first|exact ir aQ (JX b1)|exact ir aQ (J_ b1 p2)|exact ir aQ (JY b1 p2 b3)|exact ir aQ (JZ b1 p2 b3))⟩
   omega
  have p2:=dF b2
  refine aB<|ak (v:=.bool (decide (0≤gD I x0.2.2.2.1 x0.2.2.2.2))) J J<|z<|nx ?_
  refine cd (b:=decide (0≤gD I x0.2.2.2.1 x0.2.2.2.2)) J J (fun b3=>?_)<|fun b3=>?_
  ·
   have p3:=dT b3
   refine rg<|ak (v:=C (max (gD I x0.2.2.2.1 x0.2.2.2.2) 0)) J J<|au (v:=C (max (gD I x0.2.2.2.1 x0.2.2.2.2) 0)) J J<|av<|rg<|ak J s1<|ak (v:=C (max (gD I x0.2.2.2.1 x0.2.2.2.2) 0)) J J<|k<|bs (xs:=([(max (gD I x0.2.2.2.1 x0.2.2.2.2) 0)]:List Int)) (cells:=#[C (max (gD I x0.2.2.2.1 x0.2.2.2.2) 0)]) (e:=3) H6 J (cj J ey) (fun _=>aM) ⟨[C (max (gD I x0.2.2.2.1 x0.2.2.2.2) 0)],[],J,⟨J,(show aK ((max (gD I x0.2.2.2.1 x0.2.2.2.2) 0)) from(by have h_:=vV (p:=lP x0.2.2.2.1 x0.2.2.2.2) (r:=I);unfold gD;unfold aK;omega))⟩,J⟩ J aw ?_
   intro g0 w5 fB H7
   refine k<|l9 H7 2 J J J J J J (gT<|H7.at_ 0 J) cG aW J (by rw[hs,amS,ij];simp only[iB,gm];omega) J ?_
   intro a1 c1 w6 (H8:HI M w w6 [own w.heap.size 3 (.slice (some ⟨g0,0,none⟩) 1 1) ([(max (gD I x0.2.2.2.1 x0.2.2.2.2) 0)]:List Int),J2,oL w 3 a1 (xs++([(max (gD I x0.2.2.2.1 x0.2.2.2.2) 0)]:List Int)) c1,J1,J0])
   refine au (v:=R a1 (xs++([(max (gD I x0.2.2.2.1 x0.2.2.2.2) 0)]:List Int)) c1) J J<|z<|aI<|nx<|rg<|ak J s2<|k<|add J J J J aV<|au (v:=C ((j:Int)+1)) J J<|z ?_
   have H9:HI M w w6 [oL w 3 a1 (xs++([(max (gD I x0.2.2.2.1 x0.2.2.2.2) 0)]:List Int)) c1,J1,J0]:=H8.bT [2,3,4] aw rfl
   refine bB _ ?_ ⟨(j+1),(xs++([(max (gD I x0.2.2.2.1 x0.2.2.2.2) 0)]:List Int)),a1,c1,J,s0,J,(bJ J),H9,aq,(by rw[hs];first|exact ir aQ (JX b1)|exact ir aQ (J_ b1 p2)|exact ir aQ (JY b1 p2 b3)|exact ir aQ (JZ b1 p2 b3))⟩
   omega
  have p3:=dF b3
  refine sk<|nx<|rg<|ak J s1<|ak (v:=C (-2)) J J<|k<|bs (xs:=([(-2)]:List Int)) (cells:=#[C (-2)]) (e:=3) H6 J (cj J ey) (fun _=>aM) ⟨[C (-2)],[],J,⟨J,(show aK ((-2)) from aV)⟩,J⟩ J aw ?_
  intro g0 w5 fB H7
  refine k<|l9 H7 2 J J J J J J (gT<|H7.at_ 0 J) cG aW J (by rw[hs,amS,ij];simp only[iB,gm];omega) J ?_
  intro a1 c1 w6 (H8:HI M w w6 [own w.heap.size 3 (.slice (some ⟨g0,0,none⟩) 1 1) ([(-2)]:List Int),J2,oL w 3 a1 (xs++([(-2)]:List Int)) c1,J1,J0])
  refine au (v:=R a1 (xs++([(-2)]:List Int)) c1) J J<|z<|aI<|nx<|rg<|ak J s2<|k<|add J J J J aV<|au (v:=C ((j:Int)+1)) J J<|z ?_
  have H9:HI M w w6 [oL w 3 a1 (xs++([(-2)]:List Int)) c1,J1,J0]:=H8.bT [2,3,4] aw rfl
  refine bB _ ?_ ⟨(j+1),(xs++([(-2)]:List Int)),a1,c1,J,s0,J,(bJ J),H9,aq,(by rw[hs];first|exact ir aQ (JX b1)|exact ir aQ (J_ b1 p2)|exact ir aQ (JY b1 p2 b3)|exact ir aQ (JZ b1 p2 b3))⟩
  omega
 have p0:=dF b0
 refine ex<|aX<|bf<|bg<|cI<|ak J s1<|au (v:=R a0 xs c0) J J<|av<|rt<|r1 J J ?_
 have e0:(xs:List Int)=jl I:=by rw[hs];unfold jl;rw[lV aq]
 have bo:=iq (fun (bV:List Int)=>(.slice a0 bV.length c0:Value)) e0
 exact⟨a0,c0,bo,H3.below,(amh (fun (x_:List Int)=>bj _ _ _ x_ (.slice a0 x_.length c0) _) e0).mp (H3.da 0 J)⟩
theorem Pt (hM:eD M w) (LS:cw M w aD aC fv) (cL:cw M w ay ax I) (eZ:cw M w aA az U) (dp:I.length≤4096):Calls aJ 25 #[.agg #[R aD fv aC,R ay I ax,R aA U az]] w (cb fun v w'=>∃(a0:OA) (c0:Nat) (a1:OA) (c1:Nat) (a2:OA) (c2:Nat),v=.agg #[R a0 fv c0,R a1 I c1,.slice a2 (jl I).length c2]∧Ext w w'∧cw M w' a0 c0 fv∧cw M w' a1 c1 I∧RV M w' (.slice a2 (jl I).length c2) (jl I)):=by
 refine df 10 Tryz.func25 J J J hM fun f0 ha H=>?_
 have H0:=ee H LS
 have H1:=ee H0 cL
 have H2:=ee H1 eZ
 have aeg:=aP LS
 have fM:=aP cL
 have iA:=aP eZ
 have i0:f0 0=.agg #[R aD fv aC,R ay I ax,R aA U az]:=ha 0 bh
 refine aB<|k<|bx H2 J i0 ?_
 let bc:=[iL aA U az,iL ay I ax,iL aD fv aC]
 intro aY w0 bS (H3:HI M w w0 (box aY #[R aD fv aC,R ay I ax,R aA U az] 47::bc))
 let J0:=box aY #[R aD fv aC,R ay I ax,R aA U az] 47
 refine k<|al H3 dx ?_
 intro ba w1 cY (H4:HI M w w1 (box ba #[.slice none 0 0,.slice none 0 0,.slice none 0 0] 47::J0::bc))
 refine av<|sq ?_
 refine l8 [.r,.r,.r,.r,.r,.r,.r,.e] (fun _=>True) J (by kernel_rfl) (fun _ _=>trivial) ?_
 refine yq J J<|kq (fun _ _=>fa uV rfl rfl e1)<|zq<|yq J J<|kq (fun _ x_=>lx (H4.ext x_) 1 rfl BN rfl rfl rfl e1)<|zq<|yq J J<|kq (fun _ _=>fa fy rfl rfl e1)<|zq<|yq J J<|kq (fun _ x_=>lx (H4.ext x_) 1 rfl iR rfl rfl rfl e1)<|zq<|yq J J<|kq (fun _ x_=>cq (H4.ext x_) 1 rfl dx rfl rfl aw rfl e1)<|zq ?_
 refine yu J (fun _ v w'=>∃(a0:OA) (c0:Nat),v=R a0 (jl I) c0∧RV H4.fW w' (R a0 (jl I) c0) (jl I)) J jd J (fun v_ _ x_ _=>have cV:=Ps (I:=I) (aD:=aD) (aF:=fv.length) (aC:=aC) (aA:=aA) (eS:=U.length) (az:=az) (w:=v_) (H4.ext x_).mb ((H4.ext x_).rv 3 rfl) bq;ca ah_ rfl (ec J e0) cV (fun _ w3 ⟨a1,c1,e_,fB,dV⟩=>⟨_,J,fB,⟨a1,c1,e_,(bj.rv dV (H4.ext x_).mb)⟩⟩)) ?_
 refine lq J (fun _ v w'=>∃(a2:OA) (c2:Nat),v=.agg #[R aD fv aC,R ay I ax,R a2 (jl I) c2]∧RV H4.fW w' (R a2 (jl I) c2) (jl I)) 0 J J jd J (fun _ _ _ _ _ h_=>let ⟨a3,c3,s0,jO⟩:=h_;bd (v:=.agg #[R aD fv aC,R ay I ax,R a3 (jl I) c3]) rfl (cj J<|cj J<|cj s0 ey) (fun _=>aM) ⟨_,J,Ext.refl _,⟨a3,c3,J,jO⟩⟩) ?_
 refine ye<|yz ?_
 intro w4 f0 _ iN _ _ cz iC
 have dt:=H4.ext iN
 have s1:=cz 2 J
 obtain⟨a4,c4,s2,iT⟩:=iC 0 _ _ rfl
 have dw:=ee dt iT
 refine jZ<|bp dw 1 J dx J J s1 s2 J J J ?_
 intro w5 (cJ:HI M w w5 (iL a4 (jl I) c4::box ba #[R aD fv aC,R ay I ax,R a4 (jl I) c4] 47::J0::bc))
 refine kz<|nx<|rt<|oN cJ 1 J dx J J s1 J aw ?_
 exact⟨aD,aC,ay,ax,a4,c4,J,cJ.below,(cJ.fg 5 J),(cJ.fg 4 J),(cJ.fg 0 J)⟩
theorem air:ct aJ 23:=⟨_,_,Tryz.func23,rfl,aM⟩
theorem aiq:ct aJ 24:=⟨_,_,Tryz.func24,rfl,aM⟩
theorem aip:ct aJ 25:=⟨_,_,Tryz.func25,rfl,aM⟩
theorem Uv (hM:eD M w) (kh:cw M w gq gp h) (lE:h.flatten.length≤4096):Calls aJ 13 #[R gq h gp] w (cb fun v w'=>∃(a0:OA) (c0:Nat) (a1:OA) (c1:Nat) (a2:OA) (c2:Nat),v=.tuple #[.agg #[.slice a0 (sP h).length c0,.slice a1 (jD h).length c1,.slice a2 (ka h).length c2],.bool (fF h)]∧Ext w w'∧RV M w' (.slice a0 (sP h).length c0) (sP h)∧RV M w' (.slice a1 (jD h).length c1) (jD h)∧RV M w' (.slice a2 (ka h).length c2) (ka h)):=by
 refine df 25 Tryz.func13 J J J hM fun f0 ha H=>?_
 let J0:=iL gq h gp
 have H0:=H.put (it:=J0) J<|by rw[bN];exact kh
 have vi:=aP kh
 have i0:f0 0=R gq h gp:=ha 0 bh
 refine aB<|k<|al H0 dx ?_
 intro aY w0 bS (H1:HI M w w0 [box aY #[.slice none 0 0,.slice none 0 0,.slice none 0 0] 47,J0])
 let J1:=box aY #[.slice none 0 0,.slice none 0 0,.slice none 0 0] 47
 refine au (v:=.bool false) J J<|bt<|ak J i0<|k ?_
 have bP:=Uw (h:=h) H1.mb (H1.rv 1 J) aq
 refine ca air J (ec J e0) bP ?_
 rintro _ w1 ⟨a0,c0,a1,c1,a2,c2,rfl,cY,cm,dM,dV⟩
 have H2:=H1.ext cY
 let J2:=iL a0 (l6 h) c0
 have H3:=H2.put (it:=J2) J cm
 let J3:=iL a1 (cN h) c1
 have H4:=H3.put (it:=J3) J<|by rw[aE J];exact dM
 let J4:=iL a2 ([]:List Int) c2
 have H5:=H4.put (it:=J4) J<|by rw[aE rfl,aE rfl];exact dV
 refine ak (v:=.tuple #[.agg #[R a0 (l6 h) c0,R a1 (cN h) c1,R a2 ([]:List Int) c2],C (k0 h)]) J J<|k<|xt J J J<|k<|xt J J J<|k<|al H5 dx ?_
 let bc:=[J4,J3,J2,J1,J0]
 intro ba w2 eT (H6:HI M w w2 (box ba #[.slice none 0 0,.slice none 0 0,.slice none 0 0] 47::bc))
 refine k<|bp H6 0 J dx J J J J J J J ?_
 let J5:=box ba #[R a0 (l6 h) c0,R a1 (cN h) c1,R a2 ([]:List Int) c2] 47
 intro w3 (H7:HI M w w3 (J5::bc))
 refine au (v:=C (k0 h)) J J<|av<|sq<|aB<|ak (v:=C (k0 h)) J J<|k<|neq J J J J<|z<|nx ?_
 refine cd (b:=!decide ((k0 h)=0)) J J (fun b0=>?_)<|fun b0=>?_
 ·
  have p0:=dF<|fY b0
  refine sq ?_
  have hq:fF h=false:=YY (by simpa using ‹(!decide (k0 h=0))=true›)
  refine rg<|k<|bd (v:=.agg #[.slice none 0 0,.slice none 0 0,.slice none 0 0]) J ey (fun _=>aM)<|k<|bp H7 4 J dx J J J J J J J ?_
  intro w4 (H8:HI M w w4 (J5::bc))
  refine au (v:=.bool false) J J<|av<|rt<|aL<|ib H8 4 J dx J J J J J aw ?_
  have e0:([]:List ByteArray)=sP h:=by exact(zG hq).1.symm
  have e1:([]:List aH)=jD h:=by exact(zG hq).2.1.symm
  have e2:([]:List Int)=ka h:=by exact(zG hq).2.2.symm
  have e3:(false:Bool)=fF h:=by exact hq.symm
  have bo:=Tt (fun (bV:List ByteArray) (dI:List aH) (gv:List Int) (ly:Bool)=>(.tuple #[.agg #[.slice none bV.length 0,.slice none dI.length 0,.slice none gv.length 0],.bool ly]:Value)) e0 e1 e2 e3
  exact⟨none,0,none,0,none,0,bo,H8.below,(amh (fun (x_:List ByteArray)=>RV _ _ (.slice none x_.length 0) x_) e0).mp (d_ _ _),(amh (fun (x_:List aH)=>RV _ _ (.slice none x_.length 0) x_) e1).mp (d_ _ _),(amh (fun (x_:List Int)=>RV _ _ (.slice none x_.length 0) x_) e2).mp (d_ _ _)⟩
 have p0:=dT<|fk b0
 refine sk<|nx<|sq ?_
 have he_:k0 h=0:=by simpa using ‹(!decide (k0 h=0))=false›
 refine rg<|k<|cq H7 0 J dx J J aw J<|k ?_
 have cV:=MZ (I:=(cN h)) (aD:=a0) (aF:=(l6 h).length) (aC:=c0) (aA:=a2) (eS:=([]:List Int).length) (az:=c2) H7.mb<|H7.rv 2 J
 refine ca aiq J (ec J e0) cV ?_
 rintro _ w4 ⟨rfl,fB⟩
 have H8:=H7.ext fB
 refine ak (v:=.tuple #[C ((dz<|cN h).1),C ((dz<|cN h).2.1),C ((dz<|cN h).2.2)]) J J<|k<|xt J J J<|k<|xt J J J<|k<|xt J J J<|au (v:=C ((dz<|cN h).2.2)) J J<|av<|sq<|aB<|ak (v:=C ((dz<|cN h).2.2)) J J<|k<|neq J J J J<|z<|nx ?_
 refine cd (b:=!decide (((dz<|cN h).2.2)=0)) J J (fun b1=>?_)<|fun b1=>?_
 ·
  have p1:=dF<|fY b1
  refine sq ?_
  have hq:fF h=false:=YX (by simpa using ‹(!decide ((dz (cN h)).2.2=0))=true›)
  refine rg<|k<|bd (v:=.agg #[.slice none 0 0,.slice none 0 0,.slice none 0 0]) J ey (fun _=>aM)<|k<|bp H8 4 J dx J J J J J J J ?_
  intro w5 (H9:HI M w w5 (J5::bc))
  refine au (v:=.bool false) J J<|av<|rt<|aL<|ib H9 4 J dx J J J J J aw ?_
  have e0:([]:List ByteArray)=sP h:=by exact(zG hq).1.symm
  have e1:([]:List aH)=jD h:=by exact(zG hq).2.1.symm
  have e2:([]:List Int)=ka h:=by exact(zG hq).2.2.symm
  have e3:(false:Bool)=fF h:=by exact hq.symm
  have bo:=Tt (fun (bV:List ByteArray) (dI:List aH) (gv:List Int) (ly:Bool)=>(.tuple #[.agg #[.slice none bV.length 0,.slice none dI.length 0,.slice none gv.length 0],.bool ly]:Value)) e0 e1 e2 e3
  exact⟨none,0,none,0,none,0,bo,H9.below,(amh (fun (x_:List ByteArray)=>RV _ _ (.slice none x_.length 0) x_) e0).mp (d_ _ _),(amh (fun (x_:List aH)=>RV _ _ (.slice none x_.length 0) x_) e1).mp (d_ _ _),(amh (fun (x_:List Int)=>RV _ _ (.slice none x_.length 0) x_) e2).mp (d_ _ _)⟩
 have p1:=dT<|fk b1
 refine sk<|nx<|sq ?_
 have hq:fF h=true:=aaN he_ (by simpa using ‹(!decide ((dz (cN h)).2.2=0))=false›)
 refine rg<|k<|cq H8 0 J dx J J aw J<|k ?_
 have fT:=Pt (fv:=(l6 h)) (I:=(cN h)) (U:=([]:List Int)) H8.mb (H8.rv 3 J) (H8.rv 2 J) (H8.rv 1 J)<|by have h_:=HA h;omega
 refine ca aip J (ec J e0) fT ?_
 rintro _ w5 ⟨a3,c3,a4,c4,a5,c5,rfl,iN,fq,iU,jO⟩
 have H9:=H8.ext iN
 have dC:=ee H9 fq
 have cT:=ee dC iU
 have dt:=ee cT jO
 refine k<|bp dt 7 J dx J J J J J J J ?_
 intro w6 (dw:HI M w w6 [iL a5 (jl (cN h)) c5,iL a4 (cN h) c4,iL a3 (l6 h) c3,J5,J4,J3,J2,box aY #[R a3 (l6 h) c3,R a4 (cN h) c4,R a5 (jl (cN h)) c5] 47,J0])
 refine au (v:=.bool true) J J<|av<|rt<|ib dw 7 J dx J J J J J aw ?_
 have e0:((l6 h):List ByteArray)=sP h:=by exact(Dk hq).1.symm
 have e1:((cN h):List aH)=jD h:=by exact(Dk hq).2.1.symm
 have e2:(jl (cN h):List Int)=ka h:=by exact(Dk hq).2.2.symm
 have e3:(true:Bool)=fF h:=by exact hq.symm
 have bo:=Tt (fun (bV:List ByteArray) (dI:List aH) (gv:List Int) (ly:Bool)=>(.tuple #[.agg #[.slice a3 bV.length c3,.slice a4 dI.length c4,.slice a5 gv.length c5],.bool ly]:Value)) e0 e1 e2 e3
 exact⟨a3,c3,a4,c4,a5,c5,bo,dw.below,(amh (fun (x_:List ByteArray)=>RV _ _ (.slice a3 x_.length c3) x_) e0).mp (dw.fg 2 J),(amh (fun (x_:List aH)=>RV _ _ (.slice a4 x_.length c4) x_) e1).mp (dw.fg 1 J),(amh (fun (x_:List Int)=>RV _ _ (.slice a5 x_.length c5) x_) e2).mp (dw.fg 0 J)⟩
theorem ahS:ct aJ 97:=⟨_,_,Tryz.func97,rfl,aM⟩
theorem ahR:ct aJ 98:=⟨_,_,Tryz.func98,rfl,aM⟩
theorem ahT:ct aJ 96:=⟨_,_,Tryz.func96,rfl,aM⟩
theorem acA:ct aJ 59:=⟨_,_,Tryz.func59,rfl,aM⟩
theorem Qe:ct aJ 58:=⟨_,_,Tryz.func58,rfl,aM⟩
theorem V2 (hM:eD M w) (cL:cw M w ay ax I) (eZ:cw M w aA az U) (dp:I.length≤4096) (eo:U.length=I.length) (fE:∀x∈U,x<((I.length:Nat):Int)):Calls aJ 98 #[.agg #[.slice aD aF aC,R ay I ax,R aA U az]] w (cb fun v w'=>∃(a0:OA) (c0:Nat),v=.agg #[C (I.length:Int),.slice a0 (oo I U).length c0]∧Ext w w'∧bj M 144 w (oo I U) (.slice a0 (oo I U).length c0) w'):=by
 refine df 37 Tryz.func98 J J J hM fun f0 ha H=>?_
 let J0:=iL ay I ax
 have H0:=H.put (it:=J0) J<|by rw[bN];exact cL
 let J1:=iL aA U az
 have H1:=H0.put (it:=J1) J<|by rw[aE rfl,bN];exact eZ
 have fM:=aP cL
 have iA:=aP eZ
 have i0:f0 0=.agg #[.slice aD aF aC,R ay I ax,R aA U az]:=ha 0 bh
 refine aB<|k<|bx H1 J i0 ?_
 intro aY w0 bS (H2:HI M w w0 [box aY #[.slice aD aF aC,R ay I ax,R aA U az] 47,J1,J0])
 let J2:=box aY #[.slice aD aF aC,R ay I ax,R aA U az] 47
 refine k<|al H2 bm ?_
 let bc:=[J2,J1,J0]
 intro ba w1 cY (H3:HI M w w1 (box ba #[C 0,.slice none 0 0] 26::bc))
 let J3:=box ba #[C 0,.slice none 0 0] 26
 refine bt<|aU fy J J<|bl H3 1 J iR J J J<|k<|dW J J jn<|k ?_
 have bP:=N7 (n:=(I.length:Int)) H3.mb aV
 refine ca GG J (ec J e0) bP ?_
 rintro _ w2 ⟨a0,c0,rfl,eT,cm⟩
 have H4:=H3.eI cm
 refine ak (v:=.tuple #[.agg #[C (n9 (I.length:Int)),R a0 (iz (I.length:Int)) c0],C (rH (I.length:Int))]) J J<|k<|xt J J J<|k<|xt J J J<|k<|al H4 bm ?_
 let bY:=oL w 144 a0 (iz (I.length:Int)) c0::J3::bc
 intro bD w3 fB (H5:HI M w w3 (box bD #[C 0,.slice none 0 0] 26::bY))
 refine k<|bp H5 0 J bm J J J J J J J ?_
 let J4:=box bD #[C (n9 (I.length:Int)),R a0 (iz (I.length:Int)) c0] 26
 intro w4 (H6:HI M w w4 (J4::bY))
 refine au (v:=C (rH (I.length:Int))) J J<|av<|sq<|sq ?_
 have Vl:Cg (I.length:Int)=true:=r9.2 aq
 obtain⟨en,er, -⟩:=wQ Vl
 refine rg<|aU tg J J<|bl H6 3 J qe J J J<|k<|dW J J cG<|ak (v:=C 0) J J<|av<|bk ?_
 refine lp (fun m f w'=>∃(j:Nat) (xs:List (List bX)),m=U.length-j∧f 2=pV ba 0∧f 3=pV bD 0∧f 15=R aA U az∧f 16=C (U.length:Int)∧f 17=C (j:Int)∧HI M w w' (J4::own w.heap.size 144 (.slice a0 (iz (I.length:Int)).length c0) xs::J3::bc)∧(j≤U.length)∧(xs.length=I.length)∧(xs=tR I.length U j)) _ ⟨0,(iz (I.length:Int)),J,J,J,J,J,(bJ J),H6,aq,(by rw[er,pJ];simp),(by rw[er];exact YL _ _)⟩ ?_
 rintro _ f0 w5 ⟨j,xs,rfl,s0,s1,s2,s3,s4,H7,hk,hl,hs⟩
 refine aB<|k<|lss J J s4 s3<|av<|sq ?_
 refine cd (b:=decide ((j:Int)<(U.length:Int))) J J (fun b0=>?_)<|fun b0=>?_
 ·
  have p0:=dT b0
  refine sk<|nx<|sq<|bk<|aB<|ak J s4<|k<|ia (H7.rv 4 J) J J s2 s4 aq cG aW ?_
  intro iw x0 aQ cu
  refine k<|mQ cu.w aW J J ?_
  intro dM
  refine au (v:=C (j:Int)) J J<|au (v:=C x0) J J<|av<|sq ?_
  have hw_:=fE _<|dJ aQ
  refine rg<|ak (v:=C x0) J J<|k<|geq J J J J<|z<|nx ?_
  refine cd (b:=decide (0≤x0)) J J (fun b1=>?_)<|fun b1=>?_
  ·
   have p1:=dT b1
   refine l8 [.r,.r,.r,.r,.r,.r,.r,.r,.r,.r,.e,.e] (fun _=>True) J (by kernel_rfl) (fun _ _=>trivial) ?_
   refine yq J J<|kq (fun _ _=>fa ik rfl s1 e1)<|zq<|yq J J<|kq (fun _ x_=>lx (H7.ext x_) 0 rfl kO rfl rfl rfl e1)<|zq<|yq J J<|kq (fun _ _=>mv (v:=C x0) rfl rfl e1)<|zq<|yq J J<|kq (fun _ _=>fa ik rfl s1 e1)<|zq<|yq J J<|kq (fun _ x_=>lx (H7.ext x_) 0 rfl kO rfl rfl rfl e1)<|zq<|yq J J<|kq (fun _ _=>mv (v:=C x0) rfl rfl e1)<|zq<|yq J J<|sK (H7.at_ 1 J) J J J J aq gV cZ ?_
   intro rD x1 cP gK
   refine zq<|yq J J<|F4 gK cZ J J ?_
   intro a1 c1 dV
   have uH:=aP dV
   have H8:=ee H7 dV
   refine zq<|yq J J<|kq (fun _ _=>mv (v:=C (j:Int)) rfl rfl e1)<|zq ?_
   refine yu J (fun _ v w'=>∃(a2:OA) (c2:Nat),v=R a2 (dY x1 (j:Int)) c2∧RV H7.fW w' (R a2 (dY x1 (j:Int)) c2) (dY x1 (j:Int))) J jd J (fun v_ _ x_ _=>have fT:=tP (r:=x1) (i:=(j:Int)) (w:=v_) (H8.ext x_).mb ((H8.ext x_).rv 0 rfl) aV (by have lH:=cP;rw[hs] at lH;exact(YM (n:=I.length) aq U j).2 _ (dJ lH));ca Fh rfl (ec J<|ec J e0) fT (fun _ w7 ⟨a3,c3,e_,jb,jO⟩=>⟨_,J,jb,⟨a3,c3,e_,(mG J<|bj.rv jO (H8.ext x_).mb)⟩⟩)) ?_
   refine ye<|ye<|yz ?_
   intro w8 f1 _ kf _ _ cz iC
   have cJ:=H8.ext kf
   have s5:=(cz 2 J).trans s0
   have s6:=(cz 3 J).trans s1
   have s7:=(cz 15 J).trans s2
   have s8:=(cz 16 J).trans s3
   have s9:=(cz 17 J).trans s4
   have ej:=cz 25 J
   have eY:=cz 26 J
   obtain⟨a4,c4,fK,kZ⟩:=iC 0 _ _ rfl
   have dS:=ee cJ kZ
   refine jZ<|ic (dS.at_ 3 J) J J ej eY aq gV cZ ?_
   intro g0 x2 im iW la
   refine jZ<|pR dS 3 J im J aq cZ J J J fK (dS.rv 0 J) ?_
   let J5:=own w.heap.size 144 (.slice a0 (iz (I.length:Int)).length c0) (xs.set x0.toNat (dY x1 (j:Int)))
   intro w9 (de:HI M w w9 [iL a4 (dY x1 (j:Int)) c4,iL a1 x1 c1,J4,J5,J3,J2,J1,J0])
   refine kz<|aI<|nx<|rg<|k<|add J J s9 J aV<|ak (v:=C ((j:Int)+1)) J J<|z ?_
   have cO:HI M w w9 (J4::J5::J3::bc):=de.bT [2,3,4,5,6,7] aw rfl
   refine bB _ ?_ ⟨(j+1),(xs.set x0.toNat (dY x1 (j:Int))),J,s5,s6,s7,s8,(bJ J),cO,aq,(by simpa using hl),(by exact aaD hs aQ aq aq aq cP)⟩
   omega
  have p1:=dF b1
  refine sk<|aI<|nx<|rg<|k<|add J J s4 J aV<|ak (v:=C ((j:Int)+1)) J J<|z ?_
  refine bB _ ?_ ⟨(j+1),xs,J,s0,s1,s2,s3,(bJ J),H7,aq,bq,(by rw[hs];exact ad9 aQ aq)⟩
  omega
 have p0:=dF b0
 refine ex<|aX<|bf<|bg<|cI<|k<|cq H7 0 J bm J s1 aw J<|k<|bp H7 2 J bm J J s0 J J J J ?_
 intro w6 (H8:HI M w w6 (J4::own w.heap.size 144 (.slice a0 (iz (I.length:Int)).length c0) xs::box ba #[C (n9 (I.length:Int)),R a0 (iz (I.length:Int)) c0] 26::bc))
 refine av<|rt<|oN H8 2 J bm J J s0 J aw ?_
 have e0:(n9 (I.length:Int):Int)=(I.length:Int):=by rw[en]
 have e1:(xs:List (List bX))=oo I U:=by rw[hs];exact aaE eo aq
 have l1:(iz (I.length:Int)).length=(oo I U).length:=by rw[er,pJ,YN];simp
 have bo:=nr (fun (bV:Int) (uE:Nat)=>(.agg #[C bV,.slice a0 uE c0]:Value)) e0 l1
 exact⟨a0,c0,bo,H8.below,(amh (fun (n_:Nat)=>bj _ _ _ (oo I U) (.slice a0 n_ c0) _) l1).mp ((amh (fun (x_:List (List bX))=>bj _ _ _ x_ (.slice a0 (iz (I.length:Int)).length c0) _) e1).mp (H8.da 1 J))⟩
theorem Ei (hM:eD M w) (cL:cw M w ay ax I) (eZ:cw M w aA az U) (ho:gL I) (dp:I.length≤4096) (eo:U.length=I.length) (fE:∀x∈U,x<((I.length:Nat):Int)):Calls aJ 59 #[.agg #[.slice aD aF aC,R ay I ax,R aA U az]] w (cb fun v w'=>∃(a0:OA) (c0:Nat),v=.agg #[C (I.length:Int),.slice a0 (j7 I U).length c0]∧Ext w w'∧RV M w' (.slice a0 (j7 I U).length c0) (j7 I U)):=by
 refine df 14 Tryz.func59 J J J hM fun f0 ha H=>?_
 let J0:=iL ay I ax
 have H0:=H.put (it:=J0) J<|by rw[bN];exact cL
 let J1:=iL aA U az
 have H1:=H0.put (it:=J1) J<|by rw[aE rfl,bN];exact eZ
 have fM:=aP cL
 have iA:=aP eZ
 have i0:f0 0=.agg #[.slice aD aF aC,R ay I ax,R aA U az]:=ha 0 bh
 refine aB<|k<|bx H1 J i0 ?_
 intro aY w0 bS (H2:HI M w w0 [box aY #[.slice aD aF aC,R ay I ax,R aA U az] 47,J1,J0])
 let J2:=box aY #[.slice aD aF aC,R ay I ax,R aA U az] 47
 refine k<|al H2 bm ?_
 intro ba w1 cY (H3:HI M w w1 [box ba #[C 0,.slice none 0 0] 26,J2,J1,J0])
 refine av<|sq ?_
 refine l8 [.r,.r,.r,.r,.r,.r,.r,.s,.n,.e,.s] (fun _=>True) J (by kernel_rfl) (fun _ _=>trivial) ?_
 refine yq J J<|kq (fun _ x_=>cq (H3.ext x_) 1 rfl dx rfl rfl aw rfl e1)<|zq ?_
 refine yu J (fun N v w'=>∃(a0:OA) (c0:Nat),v=.agg #[C (I.length:Int),R a0 (ot I) c0]∧RV (MN H3.fW N) w' (R a0 (ot I) c0) (ot I)) J kI J (fun v_ _ x_ n_=>have cV:=Pd (I:=I) (aD:=aD) (aF:=aF) (aC:=aC) (aA:=aA) (eS:=U.length) (az:=az) (w:=v_) (kx H3.mb x_ n_) (j3 (H3.rv 3 J) x_ n_) (by exact ho) (by exact dp);ca ahS rfl (ec J e0) cV (fun _ w3 ⟨a1,c1,e_,fB,dV⟩=>⟨_,J,fB,⟨a1,c1,e_,(bj.rv dV<|kx H3.mb x_ n_)⟩⟩)) ?_
 refine yq J J<|kq (fun _ x_=>cq (H3.ext x_) 1 rfl dx rfl rfl aw rfl e1)<|zq ?_
 refine yu J (fun N v w'=>∃(a2:OA) (c2:Nat),v=.agg #[C (I.length:Int),R a2 (oo I U) c2]∧RV (MN H3.fW N) w' (R a2 (oo I U) c2) (oo I U)) J kI J (fun v_ _ x_ n_=>have eU:=V2 (I:=I) (U:=U) (aD:=aD) (aF:=aF) (aC:=aC) (w:=v_) (kx H3.mb x_ n_) (j3 (H3.rv 3 J) x_ n_) (j3 (H3.rv 2 J) x_ n_) (by exact dp) (by exact eo) (by exact fE);ca ahR rfl (ec J e0) eU (fun _ w5 ⟨a3,c3,e_,jb,jO⟩=>⟨_,J,jb,⟨a3,c3,e_,(bj.rv jO<|kx H3.mb x_ n_)⟩⟩)) ?_
 refine yu2 J (fun N v w'=>∃(a6:OA) (c6:Nat),v=.tuple #[.agg #[C (sN (I.length:Int) (I.length:Int)),R a6 (lX (I.length:Int) (ot I) (I.length:Int)<|oo I U) c6],C (wN (I.length:Int) (I.length:Int))]∧RV (MN H3.fW N) w' (R a6 (lX (I.length:Int) (ot I) (I.length:Int)<|oo I U) c6) (lX (I.length:Int) (ot I) (I.length:Int)<|oo I U)) 1 0 J J J kI J (fun v_ _ _ _ x_ n_ h_ k_=>let ⟨a7,c7,s0,rb⟩:=h_;let ⟨a8,c8,s1,og⟩:=k_;have lI:=aa2 (an:=(I.length:Int)) (ar:=(ot I)) (bn:=(I.length:Int)) (br:=(oo I U)) (w:=v_) (kx H3.mb x_ n_) aV rb aV og (by exact(Gg aq _).1) (by exact(Gg aq _).2) aq (by exact(Gg aq _).1) (by exact(Gg aq _).2) aq;ca ahT rfl (ec s0<|ec s1 e0) lI (fun _ w7 ⟨a9,c9,e_,l4,nw⟩=>⟨_,J,l4,⟨a9,c9,e_,(bj.rv nw<|kx H3.mb x_ n_)⟩⟩)) ?_
 refine lq J (fun N v w'=>∃(iZ:OA) (iY:Nat),v=.tuple #[.agg #[C (sN (I.length:Int) (I.length:Int)),R iZ (lX (I.length:Int) (ot I) (I.length:Int)<|oo I U) iY],C (wN (I.length:Int) (I.length:Int))]∧RV (MN H3.fW N) w' (R iZ (lX (I.length:Int) (ot I) (I.length:Int)<|oo I U) iY) (lX (I.length:Int) (ot I) (I.length:Int)<|oo I U)) 0 J J kI J (fun _ _ _ _ _ h_=>let ⟨mF,mD,s2,qg⟩:=h_;mv rfl s2 ⟨_,J,Ext.refl _,⟨mF,mD,J,qg⟩⟩) ?_
 refine lq J (fun N v w'=>∃(a12:OA) (oQ:Nat),v=.agg #[C (sN (I.length:Int) (I.length:Int)),R a12 (lX (I.length:Int) (ot I) (I.length:Int)<|oo I U) oQ]∧RV (MN H3.fW N) w' (R a12 (lX (I.length:Int) (ot I) (I.length:Int)<|oo I U) oQ) (lX (I.length:Int) (ot I) (I.length:Int)<|oo I U)) 0 J J kI J (fun _ _ _ _ _ h_=>let ⟨jK,jJ,s3,Az⟩:=h_;xt rfl s3 rfl ⟨_,J,Ext.refl _,⟨jK,jJ,J,Az⟩⟩) ?_
 refine QP J (X:=C (wN (I.length:Int) (I.length:Int))) 1 J J (fun _ _ _ _ _ h_=>let ⟨TZ,TB,s4,Pg⟩:=h_;xt rfl s4 rfl e1) ?_
 refine yn (z:=#[C 0,.slice none 0 0]) J J (fun _=>OW bm)<|ye<|yq J J<|kq (fun _ _=>jB (v:=C (wN (I.length:Int) (I.length:Int))) rfl rfl e1)<|zq<|yz ?_
 intro w8 f0 _ lM _ _ cz iC
 obtain⟨eX,s5,CC,sj,Br⟩:=iC 0 _ _ rfl
 have px:=ON (z:=#[C 0,.slice none 0 0]) (T:=26) CC sj Br<|OO
 let bc:=[box ba #[C 0,.slice none 0 0] 26,J2,J1,J0]
 have H7:HI M w w8 (box eX #[C 0,.slice none 0 0] 26::bc):=H3.Dr lM px (N4 N3 N5)
 have s6:=cz 2 J
 obtain⟨Jn,Ji,s7,aaw⟩:=iC 1 _ _ rfl
 let J3:=iL Jn (lX (I.length:Int) (ot I) (I.length:Int) (oo I U)) Ji
 have H8:=H7.put (it:=J3) J<|rR aaw px
 refine jZ<|bp H8 1 J bm J J s5 s7 J J J ?_
 let J4:=box eX #[C (sN (I.length:Int) (I.length:Int)),R Jn (lX (I.length:Int) (ot I) (I.length:Int) (oo I U)) Ji] 26
 intro w9 (H9:HI M w w9 (J3::J4::bc))
 refine kz<|cI<|k<|cq H9 1 J bm J s5 aw J<|k<|bp H9 2 J bm J J s6 J J J J ?_
 intro dD (dC:HI M w dD [J3,J4,box ba #[C (sN (I.length:Int) (I.length:Int)),R Jn (lX (I.length:Int) (ot I) (I.length:Int) (oo I U)) Ji] 26,J2,J1,J0])
 refine av<|rt<|oN dC 2 J bm J J s6 J aw ?_
 have e0:(sN (I.length:Int) (I.length:Int):Int)=(I.length:Int):=by exact(X3 I U).1
 have e1:(lX (I.length:Int) (ot I) (I.length:Int) (oo I U):List (List bX))=j7 I U:=by exact(X3 I U).2
 have bo:=nr (fun (bV:Int) (dI:List (List bX))=>(.agg #[C bV,.slice Jn dI.length Ji]:Value)) e0 e1
 exact⟨Jn,Ji,bo,dC.below,(amh (fun (x_:List (List bX))=>RV _ _ (.slice Jn x_.length Ji) x_) e1).mp (dC.fg 0 J)⟩
theorem A' (hM:eD M w) (cL:cw M w ay ax I) (eZ:cw M w aA az U) (ho:gL I) (dp:I.length≤4096) (eo:U.length=I.length) (fE:∀x∈U,x<((I.length:Nat):Int)):Calls aJ 32 #[.agg #[.slice aD aF aC,R ay I ax,R aA U az]] w (cb fun v w'=>∃(a0:OA) (c0:Nat),v=.agg #[C (I.length:Int),.slice a0 (cp I U).length c0]∧Ext w w'∧RV M w' (.slice a0 (cp I U).length c0) (cp I U)):=by
 refine df 6 Tryz.func32 J J J hM fun f0 ha H=>?_
 have H0:=ee H cL
 have H1:=ee H0 eZ
 have fM:=aP cL
 have iA:=aP eZ
 have i0:f0 0=.agg #[.slice aD aF aC,R ay I ax,R aA U az]:=ha 0 bh
 refine aB<|k<|bx H1 J i0 ?_
 let bc:=[iL aA U az,iL ay I ax]
 intro aY w0 bS (H2:HI M w w0 (box aY #[.slice aD aF aC,R ay I ax,R aA U az] 47::bc))
 let J0:=box aY #[.slice aD aF aC,R ay I ax,R aA U az] 47
 refine k<|al H2 bm ?_
 intro ba w1 cY (H3:HI M w w1 (box ba #[C 0,.slice none 0 0] 26::J0::bc))
 refine bt<|k<|cq H3 1 J dx J J aw J<|k ?_
 have bP:=Ei (I:=I) (U:=U) (aD:=aD) (aF:=aF) (aC:=aC) H3.mb (H3.rv 3 J) (H3.rv 2 J) (by exact ho) (by exact dp) (by exact eo)<|by exact fE
 refine ca acA J (ec J e0) bP ?_
 rintro _ w2 ⟨a0,c0,rfl,eT,cm⟩
 have H4:=H3.ext eT
 have H5:=ee H4 cm
 refine k ?_
 have cV:=vW (mn:=(I.length:Int)) (mr:=(j7 I U)) H5.mb aV (H5.rv 0 J)<|by exact L_ U dp
 refine ca Qe J (ec J e0) cV ?_
 rintro _ w3 ⟨a1,c1,rfl,fB,dM⟩
 have H6:=H5.eI dM
 refine k<|bp H6 2 J bm J J J J J J J ?_
 intro w4 (H7:HI M w w4 (oL w 144 a1 (fb (I.length:Int) (j7 I U)) c1::iL a0 (j7 I U) c0::box ba #[C (I.length:Int),R a1 (fb (I.length:Int) (j7 I U)) c1] 26::J0::bc))
 refine av<|rt<|oN H7 2 J bm J J J J aw ?_
 have e1:(fb (I.length:Int) (j7 I U):List (List bX))=cp I U:=by exact VU I U
 have bo:=iq (fun (dI:List (List bX))=>(.agg #[C (I.length:Int),.slice a1 dI.length c1]:Value)) e1
 exact⟨a1,c1,bo,H7.below,(amh (fun (x_:List (List bX))=>RV _ _ (.slice a1 x_.length c1) x_) e1).mp (H7.me 0 J)⟩
theorem MX (H:HI M w w_ ([oL w 3 dO xs dH]++r)):Calls aJ 177 #[R dO xs dH] w_ (cb fun v w'=>v=.tuple #[]∧HI M w w' ([own w.heap.size 3 (R dO xs dH) xs.reverse]++r)):=by
 refine enter 28 Tryz.func177 J J J fun f0 ha=>?_
 have Gh:=j1<|H.at_ 0 J
 have i0:f0 0=R dO xs dH:=ha 0 bh
 refine aB<|ak J i0<|k<|dW J J cG<|k<|sub J J J J aV<|au (v:=C 0) J J<|au (v:=C ((xs.length:Int)-1)) J J<|av<|bk ?_
 refine lp (fun m f w'=>∃(q:Nat) (ys:List Int),m=xs.length-q∧f 0=R dO xs dH∧f 2=C (q:Int)∧f 3=C ((xs.length:Int)-1-(q:Int))∧HI M w w' ([own w.heap.size 3 (.slice dO xs.length dH) ys]++r)∧(q+q≤xs.length+1)∧(ys.length=xs.length)∧(ys=sJ xs q)) _ ⟨0,xs,J,i0,(bJ J),(bJ J),H,aq,(by rfl),(by exact Pp xs)⟩ ?_
 rintro _ f0 w0 ⟨q,ys,rfl,s0,s1,s2,H0,sf,tw,hs⟩
 refine sq<|aB<|ak J s1<|ak J s2<|k<|lss J J J J<|z<|nx ?_
 refine cd (b:=decide ((q:Int)<((xs.length:Int)-1-(q:Int)))) J J (fun b0=>?_)<|fun b0=>?_
 ·
  have p0:=dT b0
  refine sk<|nx<|sq<|bk ?_
  refine l8 [.r,.r,.s,.s,.r,.r,.r,.r,.r,.r,.r,.r,.e,.e,.e,.e] (fun _=>True) J (by kernel_rfl) (fun _ _=>trivial) ?_
  refine yq J J<|kq (fun _ _=>mv rfl s0 e1)<|zq<|yq J J<|kq (fun _ _=>mv rfl s1 e1)<|zq<|yq J J<|kq (fun _ _=>mv rfl s0 e1)<|zq<|yq J J<|kq (fun _ _=>mv rfl s2 e1)<|zq<|yq J J<|kq (fun _ _=>mv rfl s0 e1)<|zq<|yq J J<|kq (fun _ _=>mv rfl s2 e1)<|zq<|yq J J<|sK (H0.at_ 0 J) J J J J aq cG aW ?_
  intro iw x0 aQ cu
  refine zq<|yq J J<|oW cu aW J J ?_
  intro cm
  refine zq<|yq J J<|kq (fun _ _=>mv rfl s0 e1)<|zq<|yq J J<|kq (fun _ _=>mv rfl s1 e1)<|zq<|yq J J<|sK (H0.at_ 0 J) J J J J aq cG aW ?_
  intro rD x1 cP gK
  refine zq<|yq J J<|oW gK aW J J ?_
  intro dM
  refine zq<|ye<|ye<|ye<|ye<|yz ?_
  intro w1 f1 _ bS _ _ cz iC
  have H1:=H0.ext bS
  have s3:=(cz 0 J).trans s0
  have s4:=(cz 2 J).trans s1
  have s5:=(cz 3 J).trans s2
  have s6:=cz 14 J
  have s7:=cz 15 J
  have s8:=cz 16 J
  have s9:=cz 17 J
  have ej:=cz 21 J
  have eY:=cz 25 J
  refine jZ<|ic (H1.at_ 0 J) J J s6 s7 aq cG aW ?_
  intro g0 x2 im iW la
  refine jZ<|pR H1 0 J im J aq aW J J J ej (RV.int.2 ⟨J,bq⟩) ?_
  intro w2 (H2:HI M w w2 ([own w.heap.size 3 (.slice dO xs.length dH) (ys.set ((q:Int).toNat) x0)]++r))
  refine jZ<|ic (H2.at_ 0 J) J J s8 s9 (by simp only[ami];omega) cG aW ?_
  intro g1 x3 kB qo xh
  refine jZ<|pR H2 0 J kB J (by simp only[ami];omega) aW J J J eY (RV.int.2 ⟨J,bq⟩) ?_
  intro w3 (H3:HI M w w3 ([own w.heap.size 3 (.slice dO xs.length dH) ((ys.set ((q:Int).toNat) x0).set (((xs.length:Int)-1-(q:Int)).toNat) x1)]++r))
  refine kz<|aI<|nx<|rg<|ak J s4<|k<|add J J J J aV<|ak J s5<|k<|sub J J J J aV<|au (v:=C ((q:Int)+1)) J J<|au (v:=C (((xs.length:Int)-1-(q:Int))-1)) J J<|z ?_
  refine bB _ ?_ ⟨(q+1),((ys.set ((q:Int).toNat) x0).set (((xs.length:Int)-1-(q:Int)).toNat) x1),J,s3,(bJ J),(bJ J),H3,aq,(by simp only[ami];exact tw),(by exact MY hs aq aQ aq cP)⟩
  omega
 have p0:=dF b0
 refine ex<|aX<|bf<|bg<|DU J ?_
 have e0:(ys:List _)=xs.reverse:=by exact Rt hs aq
 try rw[←e0]
 refine⟨?_,?_⟩
 · first|rfl|simp only[e0]|(simp only[ami])
 · first|exact H0|simpa +zetaDelta only[e0,ami] using H0
theorem aeA:ct aJ 177:=⟨_,_,Tryz.func177,rfl,aM⟩
theorem RE {MC:OA} {Mj:Nat} {vb:List Int} (hM:eD M w) (ab_:cw M w MC Mj vb) (qA:aK i) (Bz:aK j) (D9:Bk vb i j (u1 vb i j)) (By:(u1 vb i j).length≤4097):Calls aJ 155 #[R MC vb Mj,C i,C j] w (cb fun v w'=>∃(a0:OA) (c0:Nat),v=.slice a0 (u1 vb i j).length c0∧Ext w w'∧bj M 3 w (u1 vb i j) (.slice a0 (u1 vb i j).length c0) w'):=by
 refine df 29 Tryz.func155 J J J hM fun f0 ha H=>?_
 let J0:=iL MC vb Mj
 have H0:=H.put (it:=J0) J<|by rw[bN];exact ab_
 have akL:=aP ab_
 have i0:f0 0=R MC vb Mj:=ha 0 bh
 have i1:f0 1=C i:=ha 1 bh
 have i2:f0 2=C j:=ha 2 bh
 have akV:=D9.len;have ak0:=TF D9 D9.last
 refine aB<|au (v:=.slice none 0 0) J J<|bt<|ak J i2<|k<|bs (xs:=([j]:List Int)) (cells:=#[C j]) (e:=3) H0 J (cj J ey) (fun _=>aM) ⟨[C j],[],J,⟨J,Bz⟩,J⟩ J aw ?_
 intro g0 w0 bS H1
 refine au (v:=.slice (some ⟨g0,0,none⟩) 1 1) J J<|av<|sq<|aB<|ak J i0<|ak J i2<|k<|ia (H1.rv 1 J) J J J J aq cG aW ?_
 intro iw x0 aQ cu
 refine k<|mQ cu.w aW J J ?_
 intro cm
 refine au (v:=C x0) J J<|av<|bk ?_
 refine lp (fun m f w'=>∃(t:Nat) (l:List Int) (a:Int) (a0:OA) (c0:Nat),m=t+1∧f 0=R MC vb Mj∧f 1=C i∧f 7=R a0 l c0∧f 8=C a∧HI M w w' [oL w 3 a0 l c0,J0]∧(1≤t∧t<(u1 vb i j).length)∧(l=((u1 vb i j).drop t).reverse)∧((u1 vb i j)[t-1]? =some a)) _ ⟨((u1 vb i j).length-1),[j],x0,(some ⟨g0,0,none⟩),1,J,i0,i1,J,(bJ J),H1,aq,(by exact ZM D9),(by exact V6 D9 aQ)⟩ ?_
 rintro _ f0 w1 ⟨t,l,a,a0,c0,rfl,s0,s1,s2,s3,H2,ht,hs,gH⟩
 refine sq<|bk<|sq ?_
 have hL_:l.length=(u1 vb i j).length-t:=by rw[hs];simp
 have ha_:=TF D9 gH
 refine rg<|ak J s2<|ak J s3<|k<|bs (xs:=([a]:List Int)) (cells:=#[C a]) (e:=3) H2 J (cj J ey) (fun _=>aM) ⟨[C a],[],J,⟨J,(show aK (a) from aV)⟩,J⟩ J aw ?_
 intro g1 w2 cY H3
 refine k<|l9 H3 1 J J J J J J (gT<|H3.at_ 0 J) cG aW J (by simp;omega) J ?_
 let J1:=own w.heap.size 3 (.slice (some ⟨g1,0,none⟩) 1 1) ([a]:List Int)
 intro a1 c1 w3 (H4:HI M w w3 [J1,oL w 3 a1 (l++([a]:List Int)) c1,J0])
 refine au (v:=R a1 (l++([a]:List Int)) c1) J J<|bt<|ak J s3<|ak J s1<|k<|eql J J J J<|z<|nx ?_
 refine cd (b:=decide (a=i)) J J (fun b0=>?_)<|fun b0=>?_
 ·
  have p0:=dT b0
  refine ex<|Ve aw<|aX<|bf<|bg<|cI<|ak (v:=R a1 (l++([a]:List Int)) c1) J J<|k ?_
  have H5:HI M w w3 ([oL w 3 a1 (l++([a]:List Int)) c1]++[J1,J0]):=H4.bT [1,0,2] aw rfl
  have bP:=MX (dO:=a1) (dH:=c1) (xs:=(l++([a]:List Int))) (w:=w) (w_:=w3) (r:=[J1,J0]) (M:=M) H5
  refine ca aeA J (ec J e0) bP ?_
  rintro _ w4 ⟨rfl,H6⟩
  have H7:HI M w w4 [own w.heap.size 3 (.slice a1 (l++([a]:List Int)).length c1) ((l++([a]:List Int)).reverse),J1,J0]:=H6
  refine bt<|ak (v:=R a1 (l++([a]:List Int)) c1) J J<|au (v:=R a1 (l++([a]:List Int)) c1) J J<|av<|rt<|r1 J J ?_
  have e0:(((l++([a]:List Int)).reverse):List Int)=u1 vb i j:=by exact ac6 D9 aq aq gH bq hs
  have l0:(l++([a]:List Int)).length=(u1 vb i j).length:=by rw[←e0];simp
  have bo:=iq (fun (uF:Nat)=>(.slice a1 uF c1:Value)) l0
  exact⟨a1,c1,bo,H7.below,(amh (fun (n_:Nat)=>bj _ _ _ (u1 vb i j) (.slice a1 n_ c1) _) l0).mp ((amh (fun (x_:List Int)=>bj _ _ _ x_ (.slice a1 (l++([a]:List Int)).length c1) _) e0).mp (H7.da 0 J))⟩
 have p0:=dF b0
 refine sk<|aI<|nx<|rg<|ak J s0<|ak J s3<|k<|ia (H4.rv 2 J) J J J J aq cG aW ?_
 intro rD x1 cP gK
 refine k<|mQ gK.w aW J J ?_
 intro dM
 refine au (v:=C x1) J J<|z ?_
 have H5:HI M w w3 [oL w 3 a1 (l++([a]:List Int)) c1,J0]:=H4.bT [1,2] aw rfl
 refine bB _ ?_ ⟨(t-1),(l++([a]:List Int)),x1,a1,c1,J,s0,s1,J,(bJ J),H5,(by have h_:=X8 D9 aq gH bq;omega),(by exact OQ D9 aq aq gH hs),(by exact ZN D9 aq aq gH bq cP)⟩
 omega
theorem aex:ct aJ 190:=⟨_,_,Tryz.func190,rfl,aM⟩
theorem aeB:ct aJ 176:=⟨_,_,Tryz.func176,rfl,aM⟩
theorem aee (cP:x=1#64):Calls aJ 190 #[aj x,aj y] w (cb fun v w'=>v=.tuple #[aj (0#64),aj y]∧Ext w w'):=by
 refine df 51 Tryz.func190 J J J pk fun f0 ha H=>?_
 have i0:f0 0=aj x:=ha 0 bh
 have i1:f0 1=aj y:=ha 1 bh
 refine aB<|au (v:=aj (0#64)) J J<|au (v:=aj (0#64)) J J<|bt<|ak J i0<|k<|CZ x (4294967295#64) J J J J<|au (v:=aj (x &&& (4294967295#64))) J J<|bt<|ak J i0<|k<|Dg x 32 J J J J<|au (v:=aj (x >>> 32)) J J<|bt<|ak J i1<|k<|CZ y (4294967295#64) J J J J<|au (v:=aj (y &&& (4294967295#64))) J J<|bt<|ak J i1<|k<|Dg y 32 J J J J<|au (v:=aj (y >>> 32)) J J<|bt<|ak (v:=aj (x &&& (4294967295#64))) J J<|ak (v:=aj (y &&& (4294967295#64))) J J<|k<|E5 (x &&& (4294967295#64)) (y &&& (4294967295#64)) J J J J<|au (v:=aj ((x &&& (4294967295#64))*(y &&& (4294967295#64)))) J J<|bt<|ak (v:=aj (x >>> 32)) J J<|ak (v:=aj (y &&& (4294967295#64))) J J<|k<|E5 (x >>> 32) (y &&& (4294967295#64)) J J J J<|ak (v:=aj ((x &&& (4294967295#64))*(y &&& (4294967295#64)))) J J<|k<|Dg ((x &&& (4294967295#64))*(y &&& (4294967295#64))) 32 J J J J<|k<|Ic ((x >>> 32)*(y &&& (4294967295#64))) (((x &&& (4294967295#64))*(y &&& (4294967295#64))) >>> 32) J J J J<|au (v:=aj (((x >>> 32)*(y &&& (4294967295#64)))+(((x &&& (4294967295#64))*(y &&& (4294967295#64))) >>> 32))) J J<|bt<|ak (v:=aj (((x >>> 32)*(y &&& (4294967295#64)))+(((x &&& (4294967295#64))*(y &&& (4294967295#64))) >>> 32))) J J<|k<|CZ (((x >>> 32)*(y &&& (4294967295#64)))+(((x &&& (4294967295#64))*(y &&& (4294967295#64))) >>> 32)) (4294967295#64) J J J J<|au (v:=aj ((((x >>> 32)*(y &&& (4294967295#64)))+(((x &&& (4294967295#64))*(y &&& (4294967295#64))) >>> 32)) &&& (4294967295#64))) J J<|bt<|ak (v:=aj (((x >>> 32)*(y &&& (4294967295#64)))+(((x &&& (4294967295#64))*(y &&& (4294967295#64))) >>> 32))) J J<|k<|Dg (((x >>> 32)*(y &&& (4294967295#64)))+(((x &&& (4294967295#64))*(y &&& (4294967295#64))) >>> 32)) 32 J J J J<|au (v:=aj ((((x >>> 32)*(y &&& (4294967295#64)))+(((x &&& (4294967295#64))*(y &&& (4294967295#64))) >>> 32)) >>> 32)) J J<|bt<|ak (v:=aj ((((x >>> 32)*(y &&& (4294967295#64)))+(((x &&& (4294967295#64))*(y &&& (4294967295#64))) >>> 32)) &&& (4294967295#64))) J J<|ak (v:=aj (x &&& (4294967295#64))) J J<|ak (v:=aj (y >>> 32)) J J<|k<|E5 (x &&& (4294967295#64)) (y >>> 32) J J J J<|k<|Ic ((((x >>> 32)*(y &&& (4294967295#64)))+(((x &&& (4294967295#64))*(y &&& (4294967295#64))) >>> 32)) &&& (4294967295#64)) ((x &&& (4294967295#64))*(y >>> 32)) J J J J<|au (v:=aj (((((x >>> 32)*(y &&& (4294967295#64)))+(((x &&& (4294967295#64))*(y &&& (4294967295#64))) >>> 32)) &&& (4294967295#64))+((x &&& (4294967295#64))*(y >>> 32)))) J J<|bt<|ak (v:=aj (x >>> 32)) J J<|ak (v:=aj (y >>> 32)) J J<|k<|E5 (x >>> 32) (y >>> 32) J J J J<|ak (v:=aj ((((x >>> 32)*(y &&& (4294967295#64)))+(((x &&& (4294967295#64))*(y &&& (4294967295#64))) >>> 32)) >>> 32)) J J<|k<|Ic ((x >>> 32)*(y >>> 32)) ((((x >>> 32)*(y &&& (4294967295#64)))+(((x &&& (4294967295#64))*(y &&& (4294967295#64))) >>> 32)) >>> 32) J J J J<|ak (v:=aj (((((x >>> 32)*(y &&& (4294967295#64)))+(((x &&& (4294967295#64))*(y &&& (4294967295#64))) >>> 32)) &&& (4294967295#64))+((x &&& (4294967295#64))*(y >>> 32)))) J J<|k<|Dg (((((x >>> 32)*(y &&& (4294967295#64)))+(((x &&& (4294967295#64))*(y &&& (4294967295#64))) >>> 32)) &&& (4294967295#64))+((x &&& (4294967295#64))*(y >>> 32))) 32 J J J J<|k<|Ic (((x >>> 32)*(y >>> 32))+((((x >>> 32)*(y &&& (4294967295#64)))+(((x &&& (4294967295#64))*(y &&& (4294967295#64))) >>> 32)) >>> 32)) ((((((x >>> 32)*(y &&& (4294967295#64)))+(((x &&& (4294967295#64))*(y &&& (4294967295#64))) >>> 32)) &&& (4294967295#64))+((x &&& (4294967295#64))*(y >>> 32))) >>> 32) J J J J<|au (v:=aj ((((x >>> 32)*(y >>> 32))+((((x >>> 32)*(y &&& (4294967295#64)))+(((x &&& (4294967295#64))*(y &&& (4294967295#64))) >>> 32)) >>> 32))+((((((x >>> 32)*(y &&& (4294967295#64)))+(((x &&& (4294967295#64))*(y &&& (4294967295#64))) >>> 32)) &&& (4294967295#64))+((x &&& (4294967295#64))*(y >>> 32))) >>> 32))) J J<|bt<|ak J i0<|ak J i1<|k<|E5 x y J J J J<|au (v:=aj (x*y)) J J<|av<|rt<|r2 J J J ?_
 have e0:((((x >>> 32)*(y >>> 32))+((((x >>> 32)*(y &&& (4294967295#64)))+(((x &&& (4294967295#64))*(y &&& (4294967295#64))) >>> 32)) >>> 32))+((((((x >>> 32)*(y &&& (4294967295#64)))+(((x &&& (4294967295#64))*(y &&& (4294967295#64))) >>> 32)) &&& (4294967295#64))+((x &&& (4294967295#64))*(y >>> 32))) >>> 32):bX)=0#64:=by exact Y2 cP
 have e1:(x*y:bX)=y:=by rw[cP];simp
 have bo:=nr (fun (bV:bX) (dI:bX)=>(.tuple #[aj bV,aj dI]:Value)) e0 e1
 exact⟨bo,H.below⟩
theorem mul (cP:x=1#64):Calls aJ 176 #[aj x,aj y] w (cb fun v w'=>v=.tuple #[aj (0#64),aj y]∧Ext w w'):=by
 refine df 30 Tryz.func176 J J J pk fun f0 ha H=>?_
 have i0:f0 0=aj x:=ha 0 bh
 have i1:f0 1=aj y:=ha 1 bh
 refine aB<|au (v:=aj (0#64)) J J<|au (v:=aj (0#64)) J J<|av<|sq<|nP J J J<|sk<|cI<|ak J i0<|ak J i1<|k ?_
 have bP:=aee (x:=x) (y:=y) (w:=w) aq
 refine ca aex J (ec J<|ec J e0) bP ?_
 rintro _ w0 ⟨rfl,bS⟩
 have H0:=H.ext bS
 refine ak (v:=.tuple #[aj (0#64),aj y]) J J<|k<|xt J J J<|k<|xt J J J<|au (v:=aj (0#64)) J J<|au (v:=aj y) J J<|bt<|ak (v:=aj (0#64)) J J<|ak (v:=aj y) J J<|au (v:=aj (0#64)) J J<|au (v:=aj y) J J<|av<|rt<|r2 J J J ?_
 exact⟨J,H0.below⟩
theorem Pr (hM:eD M w) (ab7:cw M w dO dH xs) (LR:aK n) (cP:xs.length=1) (Br:1≤n) (Sr:n≤4096):Calls aJ 154 #[R dO xs dH,C n] w (cb fun v w'=>∃(a0:OA) (c0:Nat),v=.slice a0 (List.replicate n.toNat (xs.headD 0)).length c0∧Ext w w'∧bj M 3 w (List.replicate n.toNat (xs.headD 0)) (.slice a0 (List.replicate n.toNat (xs.headD 0)).length c0) w'):=by
 refine df 48 Tryz.func154 J J J hM fun f0 ha H=>?_
 let J0:=iL dO xs dH
 have H0:=H.put (it:=J0) J<|by rw[bN];exact ab7
 have Gh:=aP ab7
 have i0:f0 0=R dO xs dH:=ha 0 bh
 have i1:f0 1=C n:=ha 1 bh
 refine aB<|au (v:=.slice none 0 0) J J<|av<|sq<|aB<|ak J i1<|k<|lss J J J J<|z<|nx ?_
 have Bi:(decide (n<0))=false:=(by rw[amy];omega)
 refine nP J J Bi<|sk<|cI<|ak J i0<|k<|dW J J cG<|k<|OI J J BM Df<|ak J i1<|k<|OI J J BM Df<|k ?_
 have bP:=mul (x:=(BitVec.ofInt 64 (xs.length:Int))) (y:=(BitVec.ofInt 64 n)) (w:=w)<|by rw[cP];rfl
 refine ca aeB J (ec J<|ec J e0) bP ?_
 rintro _ w0 ⟨rfl,bS⟩
 have H1:=H0.ext bS
 refine ak (v:=.tuple #[aj (0#64),aj (BitVec.ofInt 64 n)]) J J<|k<|xt J J J<|k<|xt J J J<|au (v:=aj (0#64)) J J<|au (v:=aj (BitVec.ofInt 64 n)) J J<|av<|sq<|aB<|ak (v:=aj (0#64)) J J<|k<|XL (0#64) (0#64) J J J J<|ak (v:=.bool (decide ((0#64).toNat<(0#64).toNat))) J J ?_
 have Kq:(decide ((0#64).toNat<(0#64).toNat))=false:=aw
 refine aT J J J Kq<|mv (v:=aj (BitVec.ofInt 64 n)) J J<|aT J J J Kq<|XL (BitVec.ofInt 64 n) (9223372036854775807#64) J J J J<|k<|cK J J J J Kq J<|z<|nx ?_
 have tr2:(decide ((9223372036854775807#64).toNat<(BitVec.ofInt 64 n).toNat))=false:=(by rw[amy,Hn aq Sr];simp;omega)
 refine nP J J tr2<|sk<|nx<|sq ?_
 have CB:=Hn (n:=n) aq Sr
 refine rg<|ak (v:=aj (BitVec.ofInt 64 n)) J J<|k<|cvI J J aV Df BM<|k<|mk (m:=(BitVec.ofInt 64 n).toNat) (zx:=(0:Int)) H1 J J J J cG aW (fun _ _=>⟨J,by unfold aK;omega⟩) aq aq ?_
 intro g0 w1 cY (H2:HI M w w1 [own w.heap.size 3 (.slice (some ⟨g0,0,none⟩) ((BitVec.ofInt 64 n).toNat) ((BitVec.ofInt 64 n).toNat)) (List.replicate ((BitVec.ofInt 64 n).toNat) (0:Int)),J0])
 refine au (v:=.slice (some ⟨g0,0,none⟩) ((BitVec.ofInt 64 n).toNat) ((BitVec.ofInt 64 n).toNat)) J J<|bt<|ak (v:=.slice (some ⟨g0,0,none⟩) ((BitVec.ofInt 64 n).toNat) ((BitVec.ofInt 64 n).toNat)) J J<|ak J i0<|k<|aiC H2 0 J J J J J J (H2.rv 1 J).src cG aW (by have h_:=Hn (n:=n) aq Sr;rw[nX,h_];omega) aq ?_
 intro w2 (H3:HI M w w2 [own w.heap.size 3 (.slice (some ⟨g0,0,none⟩) ((BitVec.ofInt 64 n).toNat) ((BitVec.ofInt 64 n).toNat)) (xs++(List.replicate ((BitVec.ofInt 64 n).toNat) (0:Int)).drop xs.length),J0])
 refine au (v:=C (xs.length:Int)) J J<|av<|sq<|bk ?_
 refine lp (fun m f w'=>∃(q:Nat) (ys:List Int),m=n.toNat-q∧f 7=.slice (some ⟨g0,0,none⟩) ((BitVec.ofInt 64 n).toNat) ((BitVec.ofInt 64 n).toNat)∧f 8=C (q:Int)∧HI M w w' [own w.heap.size 3 (.slice (some ⟨g0,0,none⟩) ((BitVec.ofInt 64 n).toNat) ((BitVec.ofInt 64 n).toNat)) ys,J0]∧(1≤q∧q≤n.toNat)∧(ys.length=n.toNat)∧(ys.take q=List.replicate q (xs.headD 0))) _ ⟨1,(xs++(List.replicate ((BitVec.ofInt 64 n).toNat) (0:Int)).drop xs.length),J,J,(bJ J),H3,aq,(by exact(IB (m:=n.toNat) cP aq<|by rw[nX,CB]).1),(by exact(IB (m:=n.toNat) cP aq<|by rw[nX,CB]).2)⟩ ?_
 rintro _ f0 w3 ⟨q,ys,rfl,s0,s1,H4,sf,tw,hs⟩
 refine sq<|aB<|ak J s1<|ak J s0<|k<|dW J J cG<|k<|lss J J J J<|z<|nx ?_
 refine cd (b:=decide ((q:Int)<(((BitVec.ofInt 64 n).toNat):Int))) J J (fun b0=>?_)<|fun b0=>?_
 ·
  have p0:=dT b0
  refine sk<|nx<|bk ?_
  let J1:=own w.heap.size 3 (.slice (some ⟨g0,0,none⟩) ((BitVec.ofInt 64 n).toNat) ((BitVec.ofInt 64 n).toNat)) ys
  have H6:HI M w w3 [J0,J1]:=H4.bT [1,0] aw rfl
  let J2:=own w.heap.size 3 (.slice (some ⟨g0,0,none⟩) ((BitVec.ofInt 64 n).toNat) ((BitVec.ofInt 64 n).toNat)) (Fv ys ((q:Int).toNat))
  refine VM [none,none,none,none,none,none,none,none,none,none,some 7] [0,0,0,6,0,0,48,126,255,511] [fun _=>[],fun _=>[],fun _=>[],fun _=>[],fun _=>[],fun _=>[],fun _=>[],fun v_=>[J2],fun _=>[],fun _=>[],fun _=>[J1]] [[],[],[],[10],[],[],[10],[10],[],[]] [fun v_=>v_=C (q:Int),fun v_=>v_=.slice (some ⟨g0,0,none⟩) ((BitVec.ofInt 64 n).toNat) ((BitVec.ofInt 64 n).toNat),fun v_=>v_=C (q:Int),fun v_=>v_=.slice (l3 (some ⟨g0,0,none⟩) ((BitVec.ofInt 64 n).toNat) (q:Int).toNat) (((BitVec.ofInt 64 n).toNat)-(q:Int).toNat) ((BitVec.ofInt 64 n).toNat-(q:Int).toNat),fun v_=>v_=.slice (some ⟨g0,0,none⟩) ((BitVec.ofInt 64 n).toNat) ((BitVec.ofInt 64 n).toNat),fun v_=>v_=C (q:Int),fun v_=>v_=.slice (l3 (some ⟨g0,0,none⟩) ((BitVec.ofInt 64 n).toNat) 0) ((q:Int).toNat) (BitVec.ofInt 64 n).toNat,fun v_=>v_=C ((min ((q:Int).toNat) (ys.length-((q:Int).toNat)):Nat):Int),fun v_=>v_=C ((q:Int)+((min ((q:Int).toNat) (ys.length-((q:Int).toNat)):Nat):Int)),fun v_=>v_=C ((q:Int)+((min ((q:Int).toNat) (ys.length-((q:Int).toNat)):Nat):Int))] [J0] J (by kernel_rfl) J H6 ?_ ?_
  ·
   refine⟨fun f1 w5 V_ ew lQ hp0 hq0 H7=>?_,?_⟩
   ·
    have H8:HI M w w5 ([J0]++ew):=(by have h_:HI M w w5 ([J0]++(ew)):=H7;exact h_)
    refine mv J ((hq0 9 _ J J<|by exact .inr rfl).trans s1) ?_
    exact⟨_,J,J,H8⟩
   refine⟨fun f2 w6 V_ ew Gv I1 IW dC=>?_,?_⟩
   ·
    have cT:HI M w w6 ([J0]++ew):=(by have h_:HI M w w6 ([J0]++(ew)):=dC;exact h_)
    refine mv J ((Gv 7 J).trans s0) ?_
    exact⟨_,J,J,cT⟩
   refine⟨fun f3 w7 V_ ew gH Sp nn dw=>?_,?_⟩
   ·
    have cJ:HI M w w7 ([J0]++ew):=(by have h_:HI M w w7 ([J0]++(ew)):=dw;exact h_)
    refine mv J ((nn 9 _ J J<|by exact .inr rfl).trans s1) ?_
    exact⟨_,J,J,cJ⟩
   refine⟨fun f4 w8 V_ ew zM yg D5 de=>?_,?_⟩
   ·
    obtain⟨e0,q0⟩:=yg 1 _ rfl rfl rfl
    have e1:V_ 1=.slice (some ⟨g0,0,none⟩) ((BitVec.ofInt 64 n).toNat) ((BitVec.ofInt 64 n).toNat):=q0
    have s2:f4 39=.slice (some ⟨g0,0,none⟩) ((BitVec.ofInt 64 n).toNat) ((BitVec.ofInt 64 n).toNat):=e0.trans e1
    obtain⟨e2,q1⟩:=yg 2 _ rfl rfl rfl
    have e3:V_ 2=C (q:Int):=q1
    have s3:f4 40=C (q:Int):=e2.trans e3
    have cO:HI M w w8 ([J0,J1]++ew):=(by have h_:HI M w w8 ([J0]++([J1]++(ew))):=de;exact h_)
    refine aam (cO.at_ 1 J) J J s2 s3 aq cG aW ?_
    exact⟨_,J,J,cO⟩
   refine⟨fun f5 w9 V_ ew Xk D7 D4 dG=>?_,?_⟩
   ·
    have cC:HI M w w9 ([J0]++ew):=(by have h_:HI M w w9 ([J0]++(ew)):=dG;exact h_)
    refine mv J ((Xk 7 J).trans s0) ?_
    exact⟨_,J,J,cC⟩
   refine⟨fun f6 dD V_ ew hs5 Ol hq5 dB=>?_,?_⟩
   ·
    have eO:HI M w dD ([J0]++ew):=(by have h_:HI M w dD ([J0]++(ew)):=dB;exact h_)
    refine mv J ((hq5 9 _ J J<|by exact .inr rfl).trans s1) ?_
    exact⟨_,J,J,eO⟩
   refine⟨fun f7 eb V_ ew hs6 I0 hq6 gI=>?_,?_⟩
   ·
    obtain⟨e4,q2⟩:=I0 4 _ rfl rfl rfl
    have e5:V_ 4=.slice (some ⟨g0,0,none⟩) ((BitVec.ofInt 64 n).toNat) ((BitVec.ofInt 64 n).toNat):=q2
    have s4:f7 42=.slice (some ⟨g0,0,none⟩) ((BitVec.ofInt 64 n).toNat) ((BitVec.ofInt 64 n).toNat):=e4.trans e5
    obtain⟨e6,q3⟩:=I0 5 _ rfl rfl rfl
    have e7:V_ 5=C (q:Int):=q3
    have s5:f7 43=C (q:Int):=e6.trans e7
    have iD:HI M w eb ([J0,J1]++ew):=(by have h_:HI M w eb ([J0]++([J1]++(ew))):=gI;exact h_)
    refine aan (iD.at_ 1 J) J J s4 s5 aq cG aW ?_
    exact⟨_,J,J,iD⟩
   refine⟨fun f8 ff V_ ew hs7 IZ hq7 lL=>?_,?_⟩
   ·
    obtain⟨e8,q4⟩:=IZ 3 _ rfl rfl rfl
    have e9:V_ 3=.slice (l3 (some ⟨g0,0,none⟩) ((BitVec.ofInt 64 n).toNat) (q:Int).toNat) (((BitVec.ofInt 64 n).toNat)-(q:Int).toNat) ((BitVec.ofInt 64 n).toNat-(q:Int).toNat):=q4
    have s6:f8 41=.slice (l3 (some ⟨g0,0,none⟩) ((BitVec.ofInt 64 n).toNat) (q:Int).toNat) (((BitVec.ofInt 64 n).toNat)-(q:Int).toNat) ((BitVec.ofInt 64 n).toNat-(q:Int).toNat):=e8.trans e9
    obtain⟨Tj,q5⟩:=IZ 6 _ rfl rfl rfl
    have rC:V_ 6=.slice (l3 (some ⟨g0,0,none⟩) ((BitVec.ofInt 64 n).toNat) 0) ((q:Int).toNat) (BitVec.ofInt 64 n).toNat:=q5
    have s7:f8 44=.slice (l3 (some ⟨g0,0,none⟩) ((BitVec.ofInt 64 n).toNat) 0) ((q:Int).toNat) (BitVec.ofInt 64 n).toNat:=Tj.trans rC
    have il:HI M w ff ([J0,J1]++ew):=(by have h_:HI M w ff ([J0]++([J1]++(ew))):=lL;exact h_)
    refine aiD il 1 J J J J (q:=(q:Int).toNat) s6 s7 cG aW aq ?_
    intro hQ (n3:HI M w hQ ([J0,J2]++ew))
    exact⟨_,J,J,n3⟩
   refine⟨fun f9 iO V_ ew Xj Bq hq8 nZ=>?_,?_⟩
   ·
    obtain⟨sm,q6⟩:=Bq 0 _ rfl rfl rfl
    have rB:V_ 0=C (q:Int):=q6
    have s8:f9 38=C (q:Int):=sm.trans rB
    obtain⟨ti,q7⟩:=Bq 7 _ rfl rfl rfl
    have th:V_ 7=C ((min ((q:Int).toNat) (ys.length-((q:Int).toNat)):Nat):Int):=q7
    have s9:f9 45=C ((min ((q:Int).toNat) (ys.length-((q:Int).toNat)):Nat):Int):=ti.trans th
    have j9:HI M w iO ([J0]++ew):=(by have h_:HI M w iO ([J0]++(ew)):=nZ;exact h_)
    refine add J J s8 s9 aV ?_
    exact⟨_,J,J,j9⟩
   refine⟨fun f10 oM V_ ew hs9 D6 hq9 lj=>?_,?_⟩
   ·
    obtain⟨e16,q8⟩:=D6 8 _ rfl rfl rfl
    have e17:V_ 8=C ((q:Int)+((min ((q:Int).toNat) (ys.length-((q:Int).toNat)):Nat):Int)):=q8
    have ej:f10 46=C ((q:Int)+((min ((q:Int).toNat) (ys.length-((q:Int).toNat)):Nat):Int)):=e16.trans e17
    have C':HI M w oM ([J0]++ew):=(by have h_:HI M w oM ([J0]++(ew)):=lj;exact h_)
    refine jB J ej ?_
    exact⟨_,J,J,C'⟩
   exact trivial
  ·
   intro f11 wz V_ abz vm xH
   obtain⟨Ti,q9⟩:=vm 9 _ rfl rfl
   have e19:V_ 9=C ((q:Int)+((min ((q:Int).toNat) (ys.length-((q:Int).toNat)):Nat):Int)):=q9
   have eY:f11 8=C ((q:Int)+((min ((q:Int).toNat) (ys.length-((q:Int).toNat)):Nat):Int)):=Ti.trans e19
   obtain⟨e20,ux⟩:=vm 7 _ rfl rfl
   have e21:V_ 7=C ((min ((q:Int).toNat) (ys.length-((q:Int).toNat)):Nat):Int):=ux
   have fJ:=(abz 7 J).trans s0
   have ng:HI M w wz [J0,J2]:=(by have h_:HI M w wz ([J0]++([]++([]++([]++([]++([]++([]++([]++([J2]++([]++([]++([])))))))))))):=xH;exact h_)
   refine aI ?_
   have yJ:HI M w wz [J2,J0]:=ng.bT [1,0] aw rfl
   refine bB _ ?_ ⟨(q+min q (ys.length-q)),(Fv ys<|(q:Int).toNat),J,fJ,(bJ eY),yJ,aq,(by exact(VT aq).trans tw),(by exact Uu hs tw aq)⟩
   omega
 have p0:=dF b0
 refine ex<|aX<|bf<|bg<|cI<|ak J s0<|au (v:=.slice (some ⟨g0,0,none⟩) ((BitVec.ofInt 64 n).toNat) ((BitVec.ofInt 64 n).toNat)) J J<|av<|rt<|r1 J J ?_
 have e0:(ys:List Int)=List.replicate n.toNat (xs.headD 0):=by exact YO hs tw aq aq
 have l0:((BitVec.ofInt 64 n).toNat)=(List.replicate n.toNat (xs.headD 0)).length:=by rw[nX,CB]
 have bo:=iq (fun (uF:Nat)=>(.slice (some ⟨g0,0,none⟩) uF ((BitVec.ofInt 64 n).toNat):Value)) l0
 exact⟨(some ⟨g0,0,none⟩),((BitVec.ofInt 64 n).toNat),bo,H4.below,(amh (fun (n_:Nat)=>bj _ _ _ (List.replicate n.toNat<|xs.headD 0) (.slice (some ⟨g0,0,none⟩) n_ ((BitVec.ofInt 64 n).toNat)) _) l0).mp ((amh (fun (x_:List Int)=>bj _ _ _ x_ (.slice (some ⟨g0,0,none⟩) ((BitVec.ofInt 64 n).toNat) ((BitVec.ofInt 64 n).toNat)) _) e0).mp (H4.da 0 J))⟩
theorem aeI:ct aJ 154:=⟨_,_,Tryz.func154,rfl,aM⟩
theorem aeH:ct aJ 155:=⟨_,_,Tryz.func155,rfl,aM⟩
theorem RF (hM:eD M w) (hT:fQ 0 w) (fZ:aK mn) (fG:cw M w bA bz mr) (qA:aK i) (Bz:aK j) (bU:bF mn mr=true):Calls aJ 115 #[.agg #[C mn,R bA mr bz],C i,C j] w (cb fun v w'=>∃(a0:OA) (c0:Nat),v=.tuple #[.slice a0 ((fj mn mr i j).getD []).length c0,.bool ((fj mn mr i j).isSome)]∧Ext w w'∧bj M 3 w ((fj mn mr i j).getD []) (.slice a0 ((fj mn mr i j).getD []).length c0) w'):=by
 refine df 80 Tryz.func115 J J J hM fun f0 ha H=>?_
 let J0:=iL bA mr bz
 have H0:=H.put (it:=J0) J<|by rw[bN];exact fG
 have kA:=aP fG
 have i0:f0 0=.agg #[C mn,R bA mr bz]:=ha 0 bh
 have i1:f0 1=C i:=ha 1 bh
 have i2:f0 2=C j:=ha 2 bh
 have tw:=(bO bU).1;have I_:=(bO bU).2.2.1;have D':=kF bU
 refine aB<|k<|bx H0 J i0 ?_
 intro aY w0 bS (H1:HI M w w0 [box aY #[C mn,R bA mr bz] 26,J0])
 let J1:=box aY #[C mn,R bA mr bz] 26
 refine au (v:=.slice none 0 0) J J<|au (v:=.bool false) J J<|av<|sq<|aB<|ak J i1<|k<|lss J J J J<|ak (v:=.bool (decide (i<0))) J J ?_
 rcases bE (decide (i<0)) with b0|b0
 ·
  have p0:=dT b0
  refine aN J J J b0<|aN J J J b0<|aN J J J b0<|aN J J J b0<|k<|aR J J J J b0 J<|ak (v:=.bool true) J J<|aN J J J J<|aN J J J J<|k<|aR J J J J J J<|ak (v:=.bool true) J J<|aN J J J J<|aN J J J J<|aN J J J J<|aN J J J J<|k<|aR J J J J J J<|av<|oP J J J<|aB<|au (v:=.slice none 0 0) J J<|au (v:=.bool false) J J<|av<|rt<|aL<|r2 J J J ?_
  have e0:([]:List Int)=(fj mn mr i j).getD []:=by rw[r8 aq];rfl
  have e1:(false:Bool)=(fj mn mr i j).isSome:=by rw[r8 aq];rfl
  have bo:=nr (fun (bV:List Int) (dI:Bool)=>(.tuple #[.slice none bV.length 0,.bool dI]:Value)) e0 e1
  exact⟨none,0,bo,H1.below,(amh (fun (x_:List Int)=>bj _ _ _ x_ (.slice none x_.length 0) _) e0).mp (fL H1.below)⟩
 have p0:=dF b0
 refine aT J J J b0<|mv J i1<|aT J J J b0<|fa j6 J J<|aT J J J b0<|lx H1 0 J aW J J J<|aT J J J b0<|geq J J J J<|k<|cK J J J J b0 J<|ak (v:=.bool (decide (mn≤i))) J J ?_
 rcases bE (decide (mn≤i)) with b1|b1
 ·
  have p1:=dT b1
  refine aN J J J b1<|aN J J J b1<|k<|aR J J J J b1 J<|ak (v:=.bool true) J J<|aN J J J J<|aN J J J J<|aN J J J J<|aN J J J J<|k<|aR J J J J J J<|av<|oP J J J<|aB<|au (v:=.slice none 0 0) J J<|au (v:=.bool false) J J<|av<|rt<|aL<|r2 J J J ?_
  have e0:([]:List Int)=(fj mn mr i j).getD []:=by rw[r8 aq];rfl
  have e1:(false:Bool)=(fj mn mr i j).isSome:=by rw[r8 aq];rfl
  have bo:=nr (fun (bV:List Int) (dI:Bool)=>(.tuple #[.slice none bV.length 0,.bool dI]:Value)) e0 e1
  exact⟨none,0,bo,H1.below,(amh (fun (x_:List Int)=>bj _ _ _ x_ (.slice none x_.length 0) _) e0).mp (fL H1.below)⟩
 have p1:=dF b1
 refine aT J J J b1<|mv J i2<|aT J J J b1<|lss J J J J<|k<|cK J J J J b1 J<|ak (v:=.bool (decide (j<0))) J J ?_
 rcases bE (decide (j<0)) with b2|b2
 ·
  have p2:=dT b2
  refine aN J J J b2<|aN J J J b2<|aN J J J b2<|aN J J J b2<|k<|aR J J J J b2 J<|av<|oP J J J<|aB<|au (v:=.slice none 0 0) J J<|au (v:=.bool false) J J<|av<|rt<|aL<|r2 J J J ?_
  have e0:([]:List Int)=(fj mn mr i j).getD []:=by rw[r8 aq];rfl
  have e1:(false:Bool)=(fj mn mr i j).isSome:=by rw[r8 aq];rfl
  have bo:=nr (fun (bV:List Int) (dI:Bool)=>(.tuple #[.slice none bV.length 0,.bool dI]:Value)) e0 e1
  exact⟨none,0,bo,H1.below,(amh (fun (x_:List Int)=>bj _ _ _ x_ (.slice none x_.length 0) _) e0).mp (fL H1.below)⟩
 have p2:=dF b2
 refine aT J J J b2<|mv J i2<|aT J J J b2<|fa j6 J J<|aT J J J b2<|lx H1 0 J aW J J J<|aT J J J b2<|geq J J J J<|k<|cK J J J J b2 J<|z<|nx ?_
 refine cd (b:=decide (mn≤j)) J J (fun b3=>?_)<|fun b3=>?_
 ·
  have p3:=dT b3
  refine aB<|au (v:=.slice none 0 0) J J<|au (v:=.bool false) J J<|av<|rt<|aL<|r2 J J J ?_
  have e0:([]:List Int)=(fj mn mr i j).getD []:=by rw[r8 aq];rfl
  have e1:(false:Bool)=(fj mn mr i j).isSome:=by rw[r8 aq];rfl
  have bo:=nr (fun (bV:List Int) (dI:Bool)=>(.tuple #[.slice none bV.length 0,.bool dI]:Value)) e0 e1
  exact⟨none,0,bo,H1.below,(amh (fun (x_:List Int)=>bj _ _ _ x_ (.slice none x_.length 0) _) e0).mp (fL H1.below)⟩
 have p3:=dF b3
 refine sk<|cI<|k<|bs (xs:=([(-1)]:List Int)) (cells:=#[C (-1)]) (e:=3) H1 J (cj J ey) (fun _=>aM) ⟨[C (-1)],[],J,⟨J,(show aK ((-1)) from aV)⟩,J⟩ J aw ?_
 intro g0 w1 cY H2
 refine aU j6 J J<|bl H2 1 J aW J J J<|k ?_
 have H3:=H2.freeze 0 J
 have bP:=Pr (xs:=([(-1)]:List Int)) (n:=mn) H3.mb (H3.rv 0 J) fZ (by rfl) aq<|by exact(bO bU).2.2.1
 refine ca aeI J (ec J<|ec J e0) bP ?_
 rintro _ w2 ⟨a0,c0,rfl,eT,cm⟩
 have H4:=H3.eI cm
 refine au (v:=R a0 (List.replicate mn.toNat<|([(-1)]:List Int).headD 0) c0) J J<|av<|sq ?_
 have Cy:((mn.toNat:Nat):Int)=mn:=amT D'
 refine rg<|ak J i1<|k<|bs (xs:=([i]:List Int)) (cells:=#[C i]) (e:=3) H4 J (cj J ey) (fun _=>aM) ⟨[C i],[],J,⟨J,qA⟩,J⟩ J aw ?_
 intro g1 w3 fB H5
 refine au (v:=.slice (some ⟨g1,0,none⟩) 1 1) J J<|av<|sq<|bk ?_
 let J2:=sU (.slice (some ⟨g0,0,none⟩) 1 1) ([(-1)]:List Int)
 have H6:HI M w w3 [ny w.heap.size 3 (.slice (some ⟨g1,0,none⟩) 1 1) ([i]:List Int),oL w 3 a0 (List.replicate mn.toNat (([(-1)]:List Int).headD 0)) c0,J2,J1,J0]:=H5.toQ 0 rfl
 let bc:=[sU (.slice (some ⟨g0,0,none⟩) 1 1) ([(-1)]:List Int),J1,J0]
 refine lp (fun m f w'=>∃(G5:List Int) (td:List Int) (a1:OA) (c1:Nat),m=G5.count (-1)+td.length∧f 1=C i∧f 2=C j∧f 3=pV aY 0∧f 8=R a0 (List.replicate mn.toNat<|([(-1)]:List Int).headD 0) c0∧f 9=R a1 td c1∧HI M w w' (ny w.heap.size 3 (.slice a1 td.length c1) td::own w.heap.size 3 (.slice a0 (List.replicate mn.toNat<|([(-1)]:List Int).headD 0).length c0) G5::bc)∧(O0 mn.toNat (fX mr) i j G5 td)∧(G5.length=mn.toNat)∧(G5.count (-1)+td.length≤mn.toNat+1)) _ ⟨(List.replicate mn.toNat<|([(-1)]:List Int).headD 0),[i],(some ⟨g1,0,none⟩),1,J,i1,i2,J,J,J,H6,(by exact TL aq aq),bh,(by simp[List.count_replicate_self])⟩ ?_
 rintro _ f0 w4 ⟨G5,td,a1,c1,rfl,s0,s1,s2,s3,s4,H7,hs,hl,Bo⟩
 refine sq<|aB<|ak J s4<|k<|dW J J cG<|k<|gtr J J J J<|z<|nx ?_
 refine cd (b:=decide (0<(td.length:Int))) J J (fun b4=>?_)<|fun b4=>?_
 ·
  have p4:=dT b4
  refine sk<|nx<|bk<|aB<|ak J s4<|k<|iaQ (H7.at_ 0 J) J J J J aq cG aW ?_
  intro iw x0 aQ cu
  refine k<|mQ cu aW J J ?_
  intro dM
  refine au (v:=C x0) J J<|av<|sq ?_
  have eG:=ac8 aq hs aQ
  refine rg<|ak J s4<|k<|slQ H7 0 J J J J J aq cG aW ?_
  intro a2 c2 (H8:HI M w w4 [ny w.heap.size 3 (.slice a2 (td.drop 1).length c2) (td.drop 1),own w.heap.size 3 (.slice a0 (List.replicate mn.toNat (([(-1)]:List Int).headD 0)).length c0) G5,J2,J1,J0])
  refine au (v:=R a2 (td.drop 1) c2) J J<|bt<|aU ik J s2<|bl H8 3 J kO J J J<|ak (v:=C x0) J J<|k<|ia (H8.rv 4 J) J J J J aq gV cZ ?_
  intro rD x1 cP gK
  refine k<|vB gK.w cZ J J ?_
  intro a3 c3 dV
  have uH:=aP dV
  have H9:=ee H8 dV
  refine k ?_
  have cV:=tQ (r:=x1) H9.mb (hT.ext H9.below) (H9.rv 0 J)<|by exact(bO bU).2.1 _ (dJ cP)
  refine ca HL J (ec J e0) cV ?_
  rintro _ w5 ⟨a4,c4,rfl,iN,fq⟩
  have dC:=H9.eI fq
  refine k<|dW J J cG<|ak (v:=C 0) J J<|av<|bk ?_
  let J3:=oL w 3 a4 (cR x1) c4
  refine lp (fun m f w'=>∃(q:Nat) (b2:List Int) (qf:List Int) (a5:OA) (c5:Nat),m=(cR x1).length-q∧f 1=C i∧f 2=C j∧f 3=pV aY 0∧f 8=R a0 (List.replicate mn.toNat<|([(-1)]:List Int).headD 0) c0∧f 9=R a5 qf c5∧f 10=C x0∧f 50=R a4 (cR x1) c4∧f 51=C ((cR x1).length:Int)∧f 52=C (q:Int)∧HI M w w' (J3::iL a3 x1 c3::ny w.heap.size 3 (.slice a5 qf.length c5) qf::own w.heap.size 3 (.slice a0 (List.replicate mn.toNat<|([(-1)]:List Int).headD 0).length c0) b2::bc)∧(q≤(cR x1).length)∧(Ev mn.toNat (fX mr) i j b2 qf x0 q)∧(b2.length=mn.toNat)∧(b2.count (-1)+qf.length≤G5.count (-1)+(td.drop 1).length)) _ ⟨0,G5,(td.drop 1),a2,c2,J,s0,s1,s2,s3,J,J,J,J,(bJ J),dC,aq,(by exact ZQ aq hs aQ),(by exact hl),aq⟩ ?_
  rintro _ f1 w6 ⟨q,b2,qf,a5,c5,rfl,s5,s6,s7,s8,s9,ej,eY,fK,fJ,cT,sf,gH,nL,Vh⟩
  refine aB<|k<|lss J J fJ fK<|av<|sq ?_
  refine cd (b:=decide ((q:Int)<((cR x1).length:Int))) J J (fun b5=>?_)<|fun b5=>?_
  ·
   have p5:=dT b5
   refine sk<|nx<|sq<|bk<|aB<|k<|ic (cT.at_ 0 J) J J eY fJ (by have h_:=mO x1;have lb:=(bO bU).2.2.2.2 _ (dJ cP);first|omega|(unfold aK;omega)) cG aW ?_
   intro g2 x2 im iW la
   refine k<|mQ la aW J J ?_
   intro iU
   refine au (v:=C x2) J J<|av<|sq<|sq ?_
   have Gz:=Rs bU cP iW
   refine rg<|ak J s8<|ak (v:=C x2) J J<|k<|ic (cT.at_ 3 J) J J J J aq cG aW ?_
   intro g3 x3 kB qo xh
   refine k<|mQ xh aW J J ?_
   intro jO
   refine k<|neq J J J J<|z<|nx ?_
   refine cd (b:=!decide (x3=(-1))) J J (fun b6=>?_)<|fun b6=>?_
   ·
    have p6:=dF<|fY b6
    refine ex<|aX<|bg<|nx<|rg<|k<|add J J fJ J (by have h_:=mO x1;have lb:=(bO bU).2.2.2.2 _ (dJ cP);first|omega|(unfold aK;omega))<|ak (v:=C ((q:Int)+1)) J J<|z ?_
    refine bB _ ?_ ⟨(q+1),b2,qf,a5,c5,J,s5,s6,s7,s8,s9,ej,eY,fK,(bJ J),cT,aq,(by exact Wb gH (by rw[←zo bU cP];exact iW) qo aq),(by exact nL),(by exact Vh)⟩
    omega
   have p6:=dT<|fk b6
   refine sk<|cI<|ak J s8<|ak (v:=C x2) J J<|ak J ej<|k<|ic (cT.at_ 3 J) J J J J aq cG aW ?_
   intro g4 x4 Bp zK yo
   refine k<|pR cT 3 J Bp J aq aW J J J J (RV.int.2 ⟨J,aV⟩) ?_
   let J4:=own w.heap.size 3 (.slice a0 (List.replicate mn.toNat (([(-1)]:List Int).headD 0)).length c0) (b2.set x2.toNat x0)
   intro w7 (dt:HI M w w7 [J3,iL a3 x1 c3,ny w.heap.size 3 (.slice a5 qf.length c5) qf,J4,J2,J1,J0])
   refine av<|sq<|aB<|ak (v:=C x2) J J<|ak J s6<|k<|eql J J J J<|z<|nx ?_
   refine cd (b:=decide (x2=j)) J J (fun b7=>?_)<|fun b7=>?_
   ·
    have p7:=dT b7
    refine sq ?_
    obtain⟨w_,abk,Vj⟩:=TK ⟨by omega,by omega⟩ gH (by rw[←zo bU cP];exact iW) qo aq bq aq
    have PQ:=ac7 abk
    refine rg<|ak J s8<|ak J s5<|ak J s6<|k ?_
    have Td:((List.replicate mn.toNat (([(-1)]:List Int).headD 0)).length:Nat)=(b2.set x2.toNat x0).length:=K1 (dt.at_ 3 rfl)
    let bY:=[sU (.slice (some ⟨g0,0,none⟩) 1 1) ([(-1)]:List Int),box aY #[C mn,R bA mr bz] 26,iL bA mr bz]
    have dw:HI M w w7 (oL w 3 a4 (cR x1) c4::iL a3 x1 c3::ny w.heap.size 3 (.slice a5 qf.length c5) qf::oL w 3 a0 (b2.set x2.toNat x0) c0::bY):=(by have h_:HI M w w7 (oL w 3 a4 (cR x1) c4::iL a3 x1 c3::ny w.heap.size 3 (.slice a5 qf.length c5) qf::own w.heap.size 3 (.slice a0 (List.replicate mn.toNat (([(-1)]:List Int).headD 0)).length c0) (b2.set x2.toNat x0)::bY):=dt;rw[Td] at h_;exact h_)
    have cJ:=dw.freeze 3 J
    have fT:=RE (vb:=(b2.set x2.toNat x0)) (i:=i) (j:=j) cJ.mb (cJ.rv 3 J) qA Bz (by rw[PQ];exact abk)<|by have h_:=FD (FB Vj) aq;rw[PQ];unfold rh;rw[amS];omega
    refine ca aeH J (ec (Eq.trans (b:=(.slice a0 (List.replicate mn.toNat<|([(-1)]:List Int).headD 0).length c0:Value)) rfl (amh (fun n_=>Value.slice a0 n_ c0) Td))<|ec J<|ec J e0) fT ?_
    rintro _ w8 ⟨a6,c6,rfl,jb,iT⟩
    have dS:=cJ.eI iT
    refine au (v:=R a6 (u1 (b2.set x2.toNat x0) i j) c6) J J<|au (v:=.bool true) J J<|av<|rt<|aL<|bQ<|aL<|dQ<|bQ<|bQ<|dQ<|bQ<|aL<|r2 J J J ?_
    have e0:(u1 (b2.set x2.toNat x0) i j:List Int)=(fj mn mr i j).getD []:=by rw[zw aq,Vj];first|exact PQ|rfl
    have e1:(true:Bool)=(fj mn mr i j).isSome:=by rw[zw aq,Vj];first|exact PQ|rfl
    have bo:=nr (fun (bV:List Int) (dI:Bool)=>(.tuple #[.slice a6 bV.length c6,.bool dI]:Value)) e0 e1
    exact⟨a6,c6,bo,dS.below,(amh (fun (x_:List Int)=>bj _ _ _ x_ (.slice a6 x_.length c6) _) e0).mp (dS.da 0 J)⟩
   have p7:=dF b7
   refine sk<|cI<|ak (v:=C x2) J J<|ak J s5<|k<|neq J J J J<|z<|nx ?_
   refine cd (b:=!decide (x2=i)) J J (fun b8=>?_)<|fun b8=>?_
   ·
    have p8:=dF<|fY b8
    refine rg<|ak J s9<|ak (v:=C x2) J J<|k<|bs (xs:=([x2]:List Int)) (cells:=#[C x2]) (e:=3) dt J (cj J ey) (fun _=>aM) ⟨[C x2],[],J,⟨J,(show aK (x2) from aV)⟩,J⟩ J aw ?_
    intro g5 w8 jb dw
    refine k<|apQ dw 3 J J J J J J (gT<|dw.at_ 0 J) bh cG aW J (by (simp only[iB,gm];have h_:=amF (l:=td) (i:=1);omega)) (by (simp only[iB,gm];have h_:=amF (l:=td) (i:=1);omega)) ?_
    intro a6 c6 w9 (cJ:HI M w w9 [own w.heap.size 3 (.slice (some ⟨g5,0,none⟩) 1 1) ([x2]:List Int),J3,iL a3 x1 c3,ny w.heap.size 3 (.slice a6 (qf++([x2]:List Int)).length c6) (qf++([x2]:List Int)),J4,J2,J1,J0])
    refine au (v:=R a6 (qf++([x2]:List Int)) c6) J J<|z<|aI<|nx<|rg<|k<|add J J fJ J (by have h_:=mO x1;have lb:=(bO bU).2.2.2.2 _ (dJ cP);first|omega|(unfold aK;omega))<|ak (v:=C ((q:Int)+1)) J J<|z ?_
    have dS:HI M w w9 [J3,iL a3 x1 c3,ny w.heap.size 3 (.slice a6 (qf++([x2]:List Int)).length c6) (qf++([x2]:List Int)),J4,J2,J1,J0]:=cJ.bT [1,2,3,4,5,6,7] aw rfl
    refine bB _ ?_ ⟨(q+1),(b2.set x2.toNat x0),(qf++([x2]:List Int)),a6,c6,J,s5,s6,s7,s8,J,ej,eY,fK,(bJ J),dS,aq,(by exact Wc gH (by rw[←zo bU cP];exact iW) qo aq bq bq aq aq),(by rw[ami];exact nL),(by exact(Gc qo aq aq Vh).2)⟩
    omega
   have p8:=dT<|fk b8
   refine sk<|aI<|nx<|rg<|k<|add J J fJ J (by have h_:=mO x1;have lb:=(bO bU).2.2.2.2 _ (dJ cP);first|omega|(unfold aK;omega))<|ak (v:=C ((q:Int)+1)) J J<|z ?_
   refine bB _ ?_ ⟨(q+1),(b2.set x2.toNat x0),qf,a5,c5,J,s5,s6,s7,s8,s9,ej,eY,fK,(bJ J),dt,aq,(by exact afg gH (by rw[←zo bU cP];exact iW) qo aq bq aq aq),(by rw[ami];exact nL),(by exact(Gc qo aq aq Vh).1)⟩
   omega
  have p5:=dF b5
  refine ex<|aX<|bf<|bg<|aI ?_
  have dt:HI M w w6 [ny w.heap.size 3 (.slice a5 qf.length c5) qf,own w.heap.size 3 (.slice a0 (List.replicate mn.toNat (([(-1)]:List Int).headD 0)).length c0) b2,J2,J1,J0]:=cT.bT [2,3,4,5,6] aw rfl
  refine bB _ ?_ ⟨b2,qf,a5,c5,J,s5,s6,s7,s8,s9,dt,(by exact Wd gH (by rw[←zo bU cP];omega)),(by exact nL),(by have h_:=amF (l:=td) (i:=1);omega)⟩
  have h_:=amF (l:=td) (i:=1);omega
 have p4:=dF b4
 refine ex<|aX<|bf<|bg<|cI<|au (v:=.slice none 0 0) J J<|au (v:=.bool false) J J<|av<|rt<|r2 J J J ?_
 have e0:([]:List Int)=(fj mn mr i j).getD []:=by rw[zw aq,OS hs (NB bq)];try rfl
 have e1:(false:Bool)=(fj mn mr i j).isSome:=by rw[zw aq,OS hs (NB bq)];try rfl
 have bo:=nr (fun (bV:List Int) (dI:Bool)=>(.tuple #[.slice none bV.length 0,.bool dI]:Value)) e0 e1
 exact⟨none,0,bo,H7.below,(amh (fun (x_:List Int)=>bj _ _ _ x_ (.slice none x_.length 0) _) e0).mp (fL H7.below)⟩
theorem lR:gM aJ 142 1 3:=⟨_,_,Tryz.underlying142,rfl,rfl,aM⟩
theorem nu:eh aJ 31 1 false 24 (.slice none 0 0):=⟨aM,aM⟩
theorem Ao:eh aJ 175 5 true 40 (.agg #[.int .i64 0,.int .i64 0,.int .i64 0,.int .i64 0,.int .i64 0]):=⟨aM,aM⟩
theorem Km:aJ.underlying 31=some (.slice 175):=aM
theorem Dy:gM aJ 142 2 4:=⟨_,_,Tryz.underlying142,rfl,rfl,aM⟩
theorem JE:eh aJ 139 1 false 8 (.map none):=⟨aM,aM⟩
theorem Ow:gM aJ 175 1 1:=⟨_,_,Tryz.underlying175,rfl,rfl,aM⟩
theorem Ov:gM aJ 175 2 2:=⟨_,_,Tryz.underlying175,rfl,rfl,aM⟩
theorem adY:OY aJ 170 [some (0,0),some (1,0)]:=⟨aM,aM,aM,aM⟩
theorem JJ:Ii aJ 139:=U7 (by kernel_rfl:aJ.underlying 139=some (.map 170 3)) (yP adY) aW
theorem HO:gM aJ 142 0 0:=⟨_,_,Tryz.underlying142,rfl,rfl,aM⟩
theorem JQ:ct aJ 117:=⟨_,_,Tryz.func117,rfl,aM⟩
theorem qQ:gM aJ 142 3 5:=⟨_,_,Tryz.underlying142,rfl,rfl,aM⟩
theorem aeZ:ct aJ 115:=⟨_,_,Tryz.func115,rfl,aM⟩
theorem XV:ct aJ 116:=⟨_,_,Tryz.func116,rfl,aM⟩
theorem M7 (fZ:aK mn) (H:HI M w w_ ([iL ay I ax,iL aA U az,iL bA mr bz]++r)):Calls aJ 78 #[.agg #[.slice aD aF aC,R ay I ax,R aA U az],.agg #[C mn,R bA mr bz]] w_ (cb fun v w'=>∃(X9:Nat) (a0:OA) (c0:Nat) (b1:Nat) (b2:Nat),v=pV X9 0∧HI M w w' ([box X9 #[.slice aD aF aC,R ay I ax,R aA U az,.slice a0 ([]:List cH).length c0,.map (some b1),C mn,R bA mr bz,.map (some b2)] 142,oL w 175 a0 ([]:List cH) c0,bW b1 ([]:KV),bR b2 ([]:List ((Int×Int)×Bool)),iL ay I ax,iL aA U az,iL bA mr bz]++r)):=by
 refine enter 11 Tryz.func78 J J J fun f0 ha=>?_
 have fM:=aP<|H.rv 0 J
 have iA:=aP<|H.rv 1 J
 have kA:=aP<|H.rv 2 J
 have i0:f0 0=.agg #[.slice aD aF aC,R ay I ax,R aA U az]:=ha 0 bh
 have i1:f0 1=.agg #[C mn,R bA mr bz]:=ha 1 bh
 refine aB<|k<|bx H J i0 ?_
 let J1:=iL ay I ax
 let J2:=iL aA U az
 let J3:=iL bA mr bz
 let bc:=[J1,J2,J3]
 intro aY w0 bS (H0:HI M w w0 ((box aY #[.slice aD aF aC,R ay I ax,R aA U az] 47::bc)++r))
 let J0:=box aY #[.slice aD aF aC,R ay I ax,R aA U az] 47
 refine k<|bx H0 J i1 ?_
 intro ba w1 cY (H1:HI M w w1 ((box ba #[C mn,R bA mr bz] 26::J0::bc)++r))
 let J4:=box ba #[C mn,R bA mr bz] 26
 refine au (v:=.pointer none) J J<|bt<|k<|cq H1 1 J dx J J aw J<|k<|mm H1 ?_
 intro dA w2 eT (H2:HI M w w2 ((bW dA ([]:KV)::J4::J0::bc)++r))
 refine k<|cq H2 1 J bm J J aw J<|k<|mmP H2 ?_
 let bY:=bW dA ([]:KV)::J4::J0::bc
 intro fO w3 fB (H3:HI M w w3 ((bR fO ([]:List ((Int×Int)×Bool))::bY)++r))
 refine k<|bd (v:=.agg #[.slice aD aF aC,R ay I ax,R aA U az,.slice none 0 0,.map (some dA),C mn,R bA mr bz,.map (some fO)]) J (cj J<|cj J<|cj J<|cj J ey) (fun _=>aM)<|k<|bx H3 J J ?_
 let dE:=bR fO ([]:List ((Int×Int)×Bool))::bY
 intro bD w4 iN (H4:HI M w w4 ((box bD #[.slice aD aF aC,R ay I ax,R aA U az,.slice none 0 0,.map (some dA),C mn,R bA mr bz,.map (some fO)] 142::dE)++r))
 let J5:=box bD #[.slice aD aF aC,R ay I ax,R aA U az,.slice none 0 0,.map (some dA),C mn,R bA mr bz,.map (some fO)] 142
 refine au (v:=pV bD 0) J J<|av<|rt<|r1 J J ?_
 have H5:=H4.re cH 175
 let J6:=own w.heap.size 175 (.slice none 0 0) ([]:List cH)
 have H6:=HI.aR (l:=(J6::J5::dE)) (l':=[J5,J6,bW dA ([]:KV),bR fO ([]:List ((Int×Int)×Bool)),J1,J2,J3]) (t:=r) H5 [1,0,3,2,6,7,8] aw J J
 have e0:(([]:List cH):List cH)=([]:List cH):=rfl
 try rw[←e0]
 refine⟨bD,none,0,dA,fO,?_,?_⟩
 · first|rfl|simp only[e0]|(simp only[ami])
 · first|exact H6|simpa +zetaDelta only[e0,ami] using H6
theorem xQ {k_:Int} {g_:Int} {h_:Int} (qz:aK pn) (ahF:aK k_) (Fg:aK f_) (HK:aK t_) (ahH:aK g_) (ahG:aK h_) (HF:sp.length≤3000000000000) (H:HI M w w_ ([box cS #[.slice aD aF aC,R ay I ax,R aA U az,R eu sp ep,.map (some bw),C pn,R cX pr cW,.map (some bH)] 142,iL ay I ax,iL aA U az,oL w 175 eu sp ep,bW bw mp,iL cX pr cW,bR bH mq]++r)):Calls aJ 117 #[pV cS 0,.agg #[C k_,C f_,C t_,C g_,C h_]] w_ (cb fun v w'=>∃(nR:OA) (nQ:Nat),v=C ((sp.length:Nat):Int)∧HI M w w' ([box cS #[.slice aD aF aC,R ay I ax,R aA U az,.slice nR (sp++[(k_,f_,t_,g_,h_)]).length nQ,.map (some bw),C pn,R cX pr cW,.map (some bH)] 142,iL ay I ax,iL aA U az,oL w 175 nR (sp++[(k_,f_,t_,g_,h_)]) nQ,bW bw (jg mp (f_,t_) ((sp.length:Nat):Int)),iL cX pr cW,bR bH mq]++r)):=by
 refine enter 33 Tryz.func117 J J J fun f0 ha=>?_
 have fM:=aP<|H.rv 1 J
 have iA:=aP<|H.rv 2 J
 have Dp:=j1<|H.at_ 3 J
 have Dq:=aP<|H.rv 5 J
 have i0:f0 0=pV cS 0:=ha 0 bh
 have i1:f0 1=.agg #[C k_,C f_,C t_,C g_,C h_]:=ha 1 bh
 have abQ:(sp++[(k_,f_,t_,g_,h_)]).length=sp.length+1:=by simp
 refine aB<|k<|bx H J i1 ?_
 let J1:=box cS #[.slice aD aF aC,R ay I ax,R aA U az,R eu sp ep,.map (some bw),C pn,R cX pr cW,.map (some bH)] 142
 let J2:=iL ay I ax
 let J3:=iL aA U az
 let J4:=iL cX pr cW
 let bc:=[bW bw mp,J4,bR bH mq]
 intro aY w0 bS (H0:HI M w w0 ((box aY #[C k_,C f_,C t_,C g_,C h_] 175::J1::J2::J3::oL w 175 eu sp ep::bc)++r))
 let J0:=box aY #[C k_,C f_,C t_,C g_,C h_] 175
 refine au (v:=C 0) J J<|av<|sq ?_
 refine l8 [.s,.r,.r,.r,.r,.r,.r,.e,.f,.f,.e] (fun _=>True) J (by kernel_rfl) (fun _ _=>trivial) ?_
 refine yq J J<|kq (fun _ _=>mv rfl i0 e1)<|zq<|yq J J<|kq (fun _ _=>mv rfl i0 e1)<|zq<|yq J J<|kq (fun _ _=>nc rfl rfl e1)<|zq<|yq J J<|kq (fun _ _=>fa lR rfl rfl e1)<|zq<|yq J J<|kq (fun _ x_=>lx (H0.ext x_) 1 rfl nu rfl rfl rfl e1)<|zq<|yq J J<|kq (fun _ x_=>cq (H0.ext x_) 0 rfl Ao rfl rfl aw rfl e1)<|zq ?_
 refine yu J (fun _ v w'=>∃(a0:OA) (c0:Nat),v=R a0 ([(k_,f_,t_,g_,h_)]:List cH) c0∧RV H0.fW w' (R a0 ([(k_,f_,t_,g_,h_)]:List cH) c0) ([(k_,f_,t_,g_,h_)]:List cH)) J jd J (fun v_ N_ x_ n_=>?_) ?_
 ·
  have H3:=H0.ext x_
  refine bs (xs:=([(k_,f_,t_,g_,h_)]:List cH)) (cells:=#[C k_,C f_,C t_,C g_,C h_]) (e:=175) H3 J (cj J ey) (fun _=>aM) ⟨[C k_,C f_,C t_,C g_,C h_],[],J,⟨_,_,J,⟨J,ahF⟩,⟨_,_,J,⟨J,Fg⟩,⟨_,_,J,⟨J,HK⟩,⟨_,_,J,⟨J,ahH⟩,⟨J,ahG⟩⟩⟩⟩⟩,J⟩ J aw ?_
  intro g1 w2 eT (H4:HI M w w2 ((own w.heap.size 175 (.slice (some ⟨g1,0,none⟩) 1 1) ([(k_,f_,t_,g_,h_)]:List cH)::J0::J1::J2::J3::oL w 175 eu sp ep::bc)++r))
  have H5:=H4.freeze 0 J
  exact⟨_,J,eT,⟨(some ⟨g1,0,none⟩),1,J,(mG J<|H5.rv 0 J)⟩⟩
 refine ye<|yf J (fun _ _=>nc rfl rfl e3)<|yf J (fun _ _=>fa lR rfl rfl e3)<|ye<|yz ?_
 intro w3 f0 _ fB _ _ cz iC
 have H6:=H0.ext fB
 have s0:=(cz 0 J).trans i0
 have s1:=cz 3 J
 have s2:=cz 10 J
 obtain⟨a1,c1,s3,dM⟩:=iC 0 _ _ rfl
 let J5:=iL a1 ([(k_,f_,t_,g_,h_)]:List cH) c1
 have H7:=H6.put (it:=J5) J dM
 have s4:=cz 15 J
 refine jZ<|l9 H7 5 J J J J s2 s3 (H7.rv 0 J).src Km Ao J (by simp only[iB,gm];omega) J ?_
 intro a2 c2 w4 (H9:HI M w w4 ((J5::J0::J1::J2::J3::oL w 175 a2 (sp++([(k_,f_,t_,g_,h_)]:List cH)) c2::bc)++r))
 let J6:=oL w 175 a2 (sp++([(k_,f_,t_,g_,h_)]:List cH)) c2
 refine jZ<|bp H9 2 J nu J J s4 J J J J ?_
 let J7:=box cS #[.slice aD aF aC,R ay I ax,R aA U az,R a2 (sp++([(k_,f_,t_,g_,h_)]:List cH)) c2,.map (some bw),C pn,R cX pr cW,.map (some bH)] 142
 intro w5 (dC:HI M w w5 ((J5::J0::J7::J2::J3::J6::bc)++r))
 refine kz<|cI<|ak J s0<|k<|nc J J<|aU lR J J<|bl dC 2 J nu J J J<|k<|dW J J Km<|k<|sub J J J J aV<|au (v:=C (((sp++([(k_,f_,t_,g_,h_)]:List cH)).length:Int)-1)) J J<|av<|sq ?_
 refine l8 [.r,.r,.r,.r,.r,.r,.r,.r,.r,.r,.e] (fun _=>True) J (by kernel_rfl) (fun _ _=>trivial) ?_
 refine yq J J<|kq (fun _ _=>mv rfl s0 e1)<|zq<|yq J J<|kq (fun _ _=>nc rfl rfl e1)<|zq<|yq J J<|kq (fun _ _=>fa Dy rfl rfl e1)<|zq<|yq J J<|kq (fun _ x_=>lx (dC.ext x_) 2 rfl JE rfl rfl rfl e1)<|zq<|yq J J<|kq (fun _ _=>fa Ow rfl s1 e1)<|zq<|yq J J<|kq (fun _ x_=>lx (dC.ext x_) 1 rfl aW rfl rfl rfl e1)<|zq<|yq J J<|kq (fun _ _=>fa Ov rfl s1 e1)<|zq<|yq J J<|kq (fun _ x_=>lx (dC.ext x_) 1 rfl aW rfl rfl rfl e1)<|zq<|yq J J<|kq (fun _ _=>bd (v:=.agg #[C f_,C t_]) rfl (cj J<|cj J ey) (fun _=>aM) e1)<|zq<|yq J J<|kq (fun _ _=>mv (v:=C (((sp++([(k_,f_,t_,g_,h_)]:List cH)).length:Int)-1)) rfl rfl e1)<|zq<|ye<|yz ?_
 intro w6 f1 _ iN _ _ fD zL
 have cT:=dC.ext iN
 have s5:=fD 5 J
 have s6:=fD 25 J
 have s7:=fD 30 J
 have s8:=fD 31 J
 refine jZ<|WZ (k:=(f_,t_)) JJ cT 6 J J J J s6 s7 s8 aV ?_
 let J8:=bW bw (jg mp (f_,t_) (((sp++([(k_,f_,t_,g_,h_)]:List cH)).length:Int)-1))
 let bY:=[J7,J2,J3,J6,J8,J4,bR bH mq]
 intro w7 (dt:HI M w w7 ((J5::J0::bY)++r))
 refine kz<|cI<|ak J s5<|au (v:=C (((sp++([(k_,f_,t_,g_,h_)]:List cH)).length:Int)-1)) J J<|av<|rt<|r1 J J ?_
 have dw:=HI.aR (l:=(J5::J0::bY)) (l':=bY) (t:=r) dt [2,3,4,5,6,7,8] aw J J
 have e0:(((sp++([(k_,f_,t_,g_,h_)]:List cH)).length:Int)-1:Int)=((sp.length:Nat):Int):=by rw[abQ];omega
 have e1:((sp++([(k_,f_,t_,g_,h_)]:List cH)):List _)=(sp++[(k_,f_,t_,g_,h_)]):=rfl
 have e2:(jg mp (f_,t_) (((sp++([(k_,f_,t_,g_,h_)]:List cH)).length:Int)-1):KV)=(jg mp (f_,t_) ((sp.length:Nat):Int)):=by rw[abQ];congr 1;omega
 try rw[←e0]
 try rw[←e1]
 try rw[←e2]
 refine⟨a2,c2,?_,?_⟩
 · first|rfl|simp only[e0,e1,e2]|(simp only[ami])
 · first|exact dw|simpa +zetaDelta only[e0,e1,e2,ami] using dw
theorem F5 (qz:aK pn) (Fg:aK f_) (HK:aK t_) (HF:sp.length≤2900000000000) (ht_:0≤t_∧t_<((U.length:Nat):Int)) (H:HI M w w_ ([box cS #[.slice aD aF aC,R ay I ax,R aA U az,R eu sp ep,.map (some bw),C pn,R cX pr cW,.map (some bH)] 142,iL ay I ax,iL aA U az,oL w 175 eu sp ep,bW bw mp,iL cX pr cW,bR bH mq]++r)):Calls aJ 116 #[pV cS 0,C f_,C t_] w_ (cb fun v w'=>∃(ix:Int) (sG:List cH) (Gf:KV) (nR:OA) (nQ:Nat),v=C ix∧HI M w w' ([box cS #[.slice aD aF aC,R ay I ax,R aA U az,R nR sG nQ,.map (some bw),C pn,R cX pr cW,.map (some bH)] 142,iL ay I ax,iL aA U az,oL w 175 nR sG nQ,bW bw Gf,iL cX pr cW,bR bH mq]++r)∧sG.length≤sp.length+1∧aK ix):=by
 refine enter 39 Tryz.func116 J J J fun f0 ha=>?_
 have fM:=aP<|H.rv 1 J
 have iA:=aP<|H.rv 2 J
 have Dp:=j1<|H.at_ 3 J
 have Dq:=aP<|H.rv 5 J
 have i0:f0 0=pV cS 0:=ha 0 bh
 have i1:f0 1=C f_:=ha 1 bh
 have i2:f0 2=C t_:=ha 2 bh
 refine aB<|au (v:=C 0) J J<|av<|sq<|aB<|ak J i0<|k<|nc J J<|aU Dy J J<|bl H 0 J JE J J J<|ak J i1<|ak J i2<|k<|bd (v:=.agg #[C f_,C t_]) J (cj J<|cj J ey) (fun _=>aM)<|k<|W3 (k:=(f_,t_)) JJ H 4 J J J J J ?_
 intro cm
 refine ak (v:=.tuple #[C ((getM mp (f_,t_)).getD 0),.bool ((getM mp (f_,t_)).isSome)]) J J<|k<|xt J J J<|k<|xt J J J<|au (v:=C ((getM mp (f_,t_)).getD 0)) J J<|au (v:=.bool ((getM mp (f_,t_)).isSome)) J J<|bt<|ak (v:=.bool ((getM mp (f_,t_)).isSome)) J J<|z<|nx ?_
 refine cd (b:=(getM mp (f_,t_)).isSome) J J (fun b0=>?_)<|fun b0=>?_
 ·
  refine aB<|ak (v:=C ((getM mp (f_,t_)).getD 0)) J J<|au (v:=C ((getM mp (f_,t_)).getD 0)) J J<|av<|rt<|aL<|r1 J J ?_
  have e0:((getM mp (f_,t_)).getD 0:Int)=((getM mp (f_,t_)).getD 0):=rfl
  try rw[←e0]
  refine⟨((getM mp (f_,t_)).getD 0),sp,mp,eu,ep,?_,?_,aq,bq⟩
  · first|rfl|simp only[e0]|(simp only[ami])
  · first|exact H|simpa +zetaDelta only[e0,ami] using H
 refine sk<|cI<|au (v:=C 1) J J<|av<|sq<|aB<|ak J i0<|k<|nc J J<|aU HO J J<|aU tg J J<|bl H 0 J qe J J J<|ak J i2<|k<|ia (H.rv 2 J) J J J J aq cG aW ?_
 intro iw x0 aQ cu
 refine k<|mQ cu.w aW J J ?_
 intro dM
 refine ak J i1<|k<|eql J J J J<|z<|nx ?_
 refine cd (b:=decide (x0=f_)) J J (fun b1=>?_)<|fun b1=>?_
 ·
  have p1:=dT b1
  refine rg<|au (v:=C 2) J J<|bt<|ak J i0<|ak (v:=C 2) J J<|ak J i1<|ak J i2<|k<|bd (v:=.agg #[C 2,C f_,C t_,C (-1),C (-1)]) J (cj J<|cj J<|cj J<|cj J<|cj J ey) (fun _=>aM)<|k ?_
  let J0:=box cS #[.slice aD aF aC,R ay I ax,R aA U az,R eu sp ep,.map (some bw),C pn,R cX pr cW,.map (some bH)] 142
  let bc:=[J0,iL ay I ax,iL aA U az,oL w 175 eu sp ep,bW bw mp,iL cX pr cW,bR bH mq]
  have H0:HI M w w_ (bc++([]++r)):=HI.aR (l:=bc) (l':=bc) (t:=r) H [0,1,2,3,4,5,6] aw rfl rfl
  have bP:=xQ (cS:=cS) (aD:=aD) (aF:=aF) (aC:=aC) (ay:=ay) (ax:=ax) (I:=I) (aA:=aA) (az:=az) (U:=U) (eu:=eu) (ep:=ep) (sp:=sp) (bw:=bw) (mp:=mp) (pn:=pn) (cX:=cX) (cW:=cW) (pr:=pr) (bH:=bH) (mq:=mq) (k_:=2) (f_:=f_) (t_:=t_) (g_:=(-1)) (h_:=(-1)) (w:=w) (w_:=w_) (r:=([]++r)) (M:=M) qz aV Fg HK aV aV aq H0
  refine ca JQ J (ec J<|ec J e0) bP ?_
  rintro _ w0 ⟨a0,c0,rfl,H1⟩
  have H2:HI M w w0 ([box cS #[.slice aD aF aC,R ay I ax,R aA U az,R a0 (sp++[(2,f_,t_,(-1),(-1))]) c0,.map (some bw),C pn,R cX pr cW,.map (some bH)] 142,iL ay I ax,iL aA U az,oL w 175 a0 (sp++[(2,f_,t_,(-1),(-1))]) c0,bW bw (jg mp (f_,t_) ((sp.length:Nat):Int)),iL cX pr cW,bR bH mq]++r):=H1
  refine au (v:=C ((sp.length:Nat):Int)) J J<|av<|rt<|r1 J J ?_
  refine⟨((sp.length:Nat):Int),(sp++[(2,f_,t_,(-1),(-1))]),(jg mp (f_,t_) ((sp.length:Nat):Int)),a0,c0,?_,?_,(by simp only[gf,iB,gm];omega),aV⟩
  · first|rfl|simp only[ami]
  · first|exact H2|simpa +zetaDelta only[ami] using H2
 have p1:=dF b1
 refine sk<|cI<|ak J i0<|ak (v:=C 1) J J<|ak J i1<|ak J i2<|k<|bd (v:=.agg #[C 1,C f_,C t_,C (-1),C (-1)]) J (cj J<|cj J<|cj J<|cj J<|cj J ey) (fun _=>aM)<|k ?_
 let J1:=box cS #[.slice aD aF aC,R ay I ax,R aA U az,R eu sp ep,.map (some bw),C pn,R cX pr cW,.map (some bH)] 142
 let bY:=[J1,iL ay I ax,iL aA U az,oL w 175 eu sp ep,bW bw mp,iL cX pr cW,bR bH mq]
 have H0:HI M w w_ (bY++([]++r)):=HI.aR (l:=bY) (l':=bY) (t:=r) H [0,1,2,3,4,5,6] aw rfl rfl
 have bP:=xQ (cS:=cS) (aD:=aD) (aF:=aF) (aC:=aC) (ay:=ay) (ax:=ax) (I:=I) (aA:=aA) (az:=az) (U:=U) (eu:=eu) (ep:=ep) (sp:=sp) (bw:=bw) (mp:=mp) (pn:=pn) (cX:=cX) (cW:=cW) (pr:=pr) (bH:=bH) (mq:=mq) (k_:=1) (f_:=f_) (t_:=t_) (g_:=(-1)) (h_:=(-1)) (w:=w) (w_:=w_) (r:=([]++r)) (M:=M) qz aV Fg HK aV aV aq H0
 refine ca JQ J (ec J<|ec J e0) bP ?_
 rintro _ w0 ⟨a0,c0,rfl,H1⟩
 have H2:HI M w w0 ([box cS #[.slice aD aF aC,R ay I ax,R aA U az,R a0 (sp++[(1,f_,t_,(-1),(-1))]) c0,.map (some bw),C pn,R cX pr cW,.map (some bH)] 142,iL ay I ax,iL aA U az,oL w 175 a0 (sp++[(1,f_,t_,(-1),(-1))]) c0,bW bw (jg mp (f_,t_) ((sp.length:Nat):Int)),iL cX pr cW,bR bH mq]++r):=H1
 refine au (v:=C ((sp.length:Nat):Int)) J J<|av<|rt<|r1 J J ?_
 refine⟨((sp.length:Nat):Int),(sp++[(1,f_,t_,(-1),(-1))]),(jg mp (f_,t_) ((sp.length:Nat):Int)),a0,c0,?_,?_,(by simp only[gf,iB,gm];omega),aV⟩
 · first|rfl|simp only[ami]
 · first|exact H2|simpa +zetaDelta only[ami] using H2
theorem mw (qz:aK pn) (Fg:aK f_) (HK:aK t_) (hT:fQ 0 w) (HF:sp.length≤2800000000000) (IX:pn=((I.length:Nat):Int)) (ahi:U.length=I.length) (ahj:I.length≤64) (tN:bF pn pr=true) (H:HI M w w_ ([box cS #[.slice aD aF aC,R ay I ax,R aA U az,R eu sp ep,.map (some bw),C pn,R cX pr cW,.map (some bH)] 142,iL ay I ax,iL aA U az,oL w 175 eu sp ep,bW bw mp,iL cX pr cW,bR bH mq]++r)):Calls aJ 79 #[pV cS 0,C f_,C t_] w_ (cb fun v w'=>∃(ix:Int) (sG:List cH) (Gf:KV) (nR:OA) (nQ:Nat),v=C ix∧HI M w w' ([box cS #[.slice aD aF aC,R ay I ax,R aA U az,R nR sG nQ,.map (some bw),C pn,R cX pr cW,.map (some bH)] 142,iL ay I ax,iL aA U az,oL w 175 nR sG nQ,bW bw Gf,iL cX pr cW,bR bH mq]++r)∧sG.length≤sp.length+200∧aK ix):=by
 refine enter 75 Tryz.func79 J J J fun f0 ha=>?_
 have fM:=aP<|H.rv 1 J
 have iA:=aP<|H.rv 2 J
 have Dp:=j1<|H.at_ 3 J
 have Dq:=aP<|H.rv 5 J
 have i0:f0 0=pV cS 0:=ha 0 bh
 have i1:f0 1=C f_:=ha 1 bh
 have i2:f0 2=C t_:=ha 2 bh
 refine aB<|au (v:=C 0) J J<|av<|sq<|aB<|ak J i0<|k<|nc J J<|aU Dy J J<|bl H 0 J JE J J J<|ak J i1<|ak J i2<|k<|bd (v:=.agg #[C f_,C t_]) J (cj J<|cj J ey) (fun _=>aM)<|k<|W3 (k:=(f_,t_)) JJ H 4 J J J J J ?_
 intro cm
 refine ak (v:=.tuple #[C ((getM mp (f_,t_)).getD 0),.bool ((getM mp (f_,t_)).isSome)]) J J<|k<|xt J J J<|k<|xt J J J<|au (v:=C ((getM mp (f_,t_)).getD 0)) J J<|au (v:=.bool ((getM mp (f_,t_)).isSome)) J J<|bt<|ak (v:=.bool ((getM mp (f_,t_)).isSome)) J J<|z<|nx ?_
 refine cd (b:=(getM mp (f_,t_)).isSome) J J (fun b0=>?_)<|fun b0=>?_
 ·
  refine aB<|ak (v:=C ((getM mp (f_,t_)).getD 0)) J J<|au (v:=C ((getM mp (f_,t_)).getD 0)) J J<|av<|rt<|aL<|r1 J J ?_
  have e0:((getM mp (f_,t_)).getD 0:Int)=((getM mp (f_,t_)).getD 0):=rfl
  try rw[←e0]
  refine⟨((getM mp (f_,t_)).getD 0),sp,mp,eu,ep,?_,?_,aq,bq⟩
  · first|rfl|simp only[e0]|(simp only[ami])
  · first|exact H|simpa +zetaDelta only[e0,ami] using H
 refine sk<|cI<|ak J i0<|k<|nc J J<|aU qQ J J<|k<|cq H 0 J bm J J aw J<|ak J i1<|ak J i2<|k ?_
 have bP:=RF (mn:=pn) (mr:=pr) (i:=f_) (j:=t_) (w:=w_) H.mb (hT.ext H.below) qz (H.rv 5 J) Fg HK<|by exact tN
 refine ca aeZ J (ec J<|ec J<|ec J e0) bP ?_
 rintro _ w0 ⟨a0,c0,rfl,bS,dM⟩
 have H0:=H.eI dM
 let J0:=oL w 3 a0 ((fj pn pr f_ t_).getD []) c0
 let J1:=box cS #[.slice aD aF aC,R ay I ax,R aA U az,R eu sp ep,.map (some bw),C pn,R cX pr cW,.map (some bH)] 142
 let J2:=iL ay I ax
 let J3:=iL aA U az
 let J4:=oL w 175 eu sp ep
 let J5:=iL cX pr cW
 let bc:=[J1,J2,J3,J4,bW bw mp,J5,bR bH mq]
 have H1:HI M w w0 ((J0::bc)++r):=H0
 refine ak (v:=.tuple #[R a0 ((fj pn pr f_ t_).getD []) c0,.bool ((fj pn pr f_ t_).isSome)]) J J<|k<|xt J J J<|k<|xt J J J<|au (v:=R a0 ((fj pn pr f_ t_).getD []) c0) J J<|au (v:=.bool ((fj pn pr f_ t_).isSome)) J J<|av<|sq<|aB<|ak (v:=.bool ((fj pn pr f_ t_).isSome)) J J<|k<|jE J J<|z<|nx ?_
 refine cd (b:=!((fj pn pr f_ t_).isSome)) J J (fun b1=>?_)<|fun b1=>?_
 ·
  refine aB<|au (v:=C (-1)) J J<|av<|rt<|aL<|r1 J J ?_
  have H2:=HI.aR (l:=(J0::bc)) (l':=bc) (t:=r) H1 [1,2,3,4,5,6,7] aw J J
  refine⟨(-1),sp,mp,eu,ep,?_,?_,aq,(by unfold aK;omega)⟩
  · first|rfl|simp only[ami]
  · first|exact H2|simpa +zetaDelta only[ami] using H2
 refine sk<|nx<|sq ?_
 have abT:(fj pn pr f_ t_).isSome=true:=by simpa using b1
 have aln:=UA tN abT
 have abH:=fun (q_:Nat) (x_:Int) (h_:((fj pn pr f_ t_).getD [])[q_]? =some x_)=>UB tN abT h_
 refine l8 [.r,.r,.r,.r,.r,.r,.r,.e,.e] (fun _=>True) J (by kernel_rfl) (fun _ _=>trivial) ?_
 refine yq J J<|kq (fun _ _=>mv rfl i0 e1)<|zq<|yq J J<|kq (fun _ _=>mv (v:=R a0 ((fj pn pr f_ t_).getD []) c0) rfl rfl e1)<|zq<|yq J J<|sK (H1.at_ 0 J) J J J J aq cG aW ?_
 intro iw x0 aQ cu
 refine zq<|yq J J<|oW cu aW J J ?_
 intro dV
 refine zq<|yq J J<|kq (fun _ _=>mv (v:=R a0 ((fj pn pr f_ t_).getD []) c0) rfl rfl e1)<|zq<|yq J J<|sK (H1.at_ 0 J) J J J J aq cG aW ?_
 intro rD x1 cP gK
 refine zq<|yq J J<|oW gK aW J J ?_
 intro fq
 refine zq<|ye<|ye<|yz ?_
 intro w1 f0 _ cY _ _ cz iC
 have H2:=H1.ext cY
 have s0:=(cz 0 J).trans i0
 have s1:=(cz 1 J).trans i1
 have s2:=cz 9 J
 have s3:=cz 39 J
 have s4:=cz 42 J
 have s5:=cz 45 J
 refine jZ ?_
 let bY:=[J5,bR bH mq,J0]
 have H3:HI M w w1 (bc++([J0]++r)):=HI.aR (l:=(J0::bc)) (l':=(J1::J2::J3::J4::bW bw mp::bY)) (t:=r) H2 [1,2,3,4,5,6,7,0] aw rfl rfl
 have cV:=F5 (cS:=cS) (aD:=aD) (aF:=aF) (aC:=aC) (ay:=ay) (ax:=ax) (I:=I) (aA:=aA) (az:=az) (U:=U) (eu:=eu) (ep:=ep) (sp:=sp) (bw:=bw) (mp:=mp) (pn:=pn) (cX:=cX) (cW:=cW) (pr:=pr) (bH:=bH) (mq:=mq) (f_:=x0) (t_:=x1) (w:=w) (w_:=w1) (r:=([J0]++r)) (M:=M) qz dV fq aq (by have h_:=abH _ _ cP;omega) H3
 refine ca XV J (ec s3<|ec s4<|ec s5 e0) cV ?_
 rintro _ w2 ⟨o0,o1,o2,a1,c1,rfl,H4,q0,q1⟩
 refine jZ<|jB (v:=C o0) J J<|kz<|nx<|sq<|aB<|au (v:=C 2) J J<|av<|bk ?_
 refine lp (fun m f w'=>∃(j_:Nat) (D1:Int) (jc:List cH) (jd:KV) (a2:OA) (c2:Nat),m=((fj pn pr f_ t_).getD []).length-j_∧f 0=pV cS 0∧f 1=C f_∧f 9=R a0 ((fj pn pr f_ t_).getD []) c0∧f 11=C D1∧f 12=C (j_:Int)∧HI M w w' ((box cS #[.slice aD aF aC,R ay I ax,R aA U az,R a2 jc c2,.map (some bw),C pn,R cX pr cW,.map (some bH)] 142::J2::J3::oL w 175 a2 jc c2::bW bw jd::bY)++r)∧(2≤j_∧j_≤((fj pn pr f_ t_).getD []).length)∧(jc.length+1≤sp.length+2*j_)∧(aK D1)) _ ⟨2,o0,o1,o2,a1,c1,J,s0,s1,s2,(bJ J),(bJ J),H4,aq,aq,bq⟩ ?_
 rintro _ f1 w3 ⟨j_,D1,jc,jd,a2,c2,rfl,s6,s7,s8,s9,ej,H6,pt,HG,aly⟩
 refine sq<|aB<|ak J ej<|ak J s8<|k<|dW J J cG<|k<|lss J J J J<|z<|nx ?_
 refine cd (b:=decide ((j_:Int)<(((fj pn pr f_ t_).getD []).length:Int))) J J (fun b2=>?_)<|fun b2=>?_
 ·
  have p2:=dT b2
  refine sk<|nx<|sq<|bk<|sq ?_
  refine l8 [.r,.r,.r,.r,.r,.r,.r,.r,.r,.r,.e,.e] (fun _=>True) J (by kernel_rfl) (fun _ _=>trivial) ?_
  refine yq J J<|kq (fun _ _=>mv rfl s6 e1)<|zq<|yq J J<|kq (fun _ _=>mv rfl s8 e1)<|zq<|yq J J<|kq (fun _ _=>mv rfl ej e1)<|zq<|yq J J<|kq (fun _ _=>sub rfl rfl rfl rfl aV e1)<|zq<|yq J J<|sK (H6.at_ 7 J) J J J J aq cG aW ?_
  intro pZ x2 iW la
  refine zq<|yq J J<|oW la aW J J ?_
  intro iU
  refine zq<|yq J J<|kq (fun _ _=>mv rfl s8 e1)<|zq<|yq J J<|kq (fun _ _=>mv rfl ej e1)<|zq<|yq J J<|sK (H6.at_ 7 J) J J J J aq cG aW ?_
  intro vK x3 qo xh
  refine zq<|yq J J<|oW xh aW J J ?_
  intro jO
  refine zq<|ye<|ye<|yz ?_
  intro w4 f2 _ eT _ _ fD zL
  have H7:=H6.ext eT
  have eY:=(fD 0 J).trans s6
  have fK:=(fD 1 J).trans s7
  have fJ:=(fD 9 J).trans s8
  have gx:=(fD 11 J).trans s9
  have gP:=(fD 12 J).trans ej
  have kr:=fD 53 J
  have kY:=fD 58 J
  have mL:=fD 62 J
  refine jZ ?_
  let J6:=box cS #[.slice aD aF aC,R ay I ax,R aA U az,R a2 jc c2,.map (some bw),C pn,R cX pr cW,.map (some bH)] 142
  let dE:=J6::J2::J3::oL w 175 a2 jc c2::bW bw jd::bY
  have H8:HI M w w4 ([J6,J2,J3,oL w 175 a2 jc c2,bW bw jd,J5,bR bH mq]++([J0]++r)):=HI.aR (l:=dE) (l':=dE) (t:=r) H7 [0,1,2,3,4,5,6,7] aw rfl rfl
  have fT:=F5 (cS:=cS) (aD:=aD) (aF:=aF) (aC:=aC) (ay:=ay) (ax:=ax) (I:=I) (aA:=aA) (az:=az) (U:=U) (eu:=a2) (ep:=c2) (sp:=jc) (bw:=bw) (mp:=jd) (pn:=pn) (cX:=cX) (cW:=cW) (pr:=pr) (bH:=bH) (mq:=mq) (f_:=x2) (t_:=x3) (w:=w) (w_:=w4) (r:=([J0]++r)) (M:=M) qz iU jO aq (by have h_:=abH _ _ qo;omega) H8
  refine ca XV J (ec kr<|ec kY<|ec mL e0) fT ?_
  rintro _ w5 ⟨o3,o4,o5,a3,c3,rfl,H9,q2,q3⟩
  let J7:=box cS #[.slice aD aF aC,R ay I ax,R aA U az,R a3 o4 c3,.map (some bw),C pn,R cX pr cW,.map (some bH)] 142
  let iH:=J7::J2::J3::oL w 175 a3 o4 c3::bW bw o5::bY
  have dC:HI M w w5 (iH++r):=H9
  refine jZ<|jB (v:=C o3) J J<|kz<|nx<|rg<|ak J eY<|ak J fK<|ak J fJ<|ak J gP<|k<|ic (dC.at_ 7 J) J J J J aq cG aW ?_
  intro g0 x4 im zK yo
  refine k<|mQ yo aW J J ?_
  intro iT
  refine ak J gx<|ak (v:=C o3) J J<|k<|bd (v:=.agg #[C 3,C f_,C x4,C D1,C o3]) J (cj J<|cj J<|cj J<|cj J<|cj J ey) (fun _=>aM)<|k ?_
  have cT:HI M w w5 ([J7,J2,J3,oL w 175 a3 o4 c3,bW bw o5,J5,bR bH mq]++([J0]++r)):=HI.aR (l:=iH) (l':=iH) (t:=r) dC [0,1,2,3,4,5,6,7] aw rfl rfl
  have eU:=xQ (cS:=cS) (aD:=aD) (aF:=aF) (aC:=aC) (ay:=ay) (ax:=ax) (I:=I) (aA:=aA) (az:=az) (U:=U) (eu:=a3) (ep:=c3) (sp:=o4) (bw:=bw) (mp:=o5) (pn:=pn) (cX:=cX) (cW:=cW) (pr:=pr) (bH:=bH) (mq:=mq) (k_:=3) (f_:=f_) (t_:=x4) (g_:=D1) (h_:=o3) (w:=w) (w_:=w5) (r:=([J0]++r)) (M:=M) qz aV Fg iT bq bq aq cT
  refine ca JQ J (ec J<|ec J e0) eU ?_
  rintro _ w6 ⟨a4,c4,rfl,dt⟩
  let J8:=box cS #[.slice aD aF aC,R ay I ax,R aA U az,R a4 (o4++[(3,f_,x4,D1,o3)]) c4,.map (some bw),C pn,R cX pr cW,.map (some bH)] 142
  let J9:=oL w 175 a4 (o4++[(3,f_,x4,D1,o3)]) c4
  let dK:=bW bw (jg o5 (f_,x4) ((o4.length:Nat):Int))
  refine au (v:=C ((o4.length:Nat):Int)) J J<|z<|aI<|nx<|rg<|ak J gP<|k<|add J J J J aV<|au (v:=C ((j_:Int)+1)) J J<|z ?_
  have cJ:=dt.put (it:=J2) J<|dt.rv 1 J
  have de:=cJ.put (it:=J3) J<|cJ.rv 3 J
  have dP:=de.put (it:=J5) J<|de.rv 7 J
  let eW:=J8::J2::J3::J9::dK::bY
  have dG:HI M w w6 ((J5::J3::J2::eW)++r):=dP
  have cC:HI M w w6 (eW++r):=HI.aR (l:=(J5::J3::J2::eW)) (l':=eW) (t:=r) dG [3,2,1,6,7,0,9,10] aw rfl rfl
  refine bB _ ?_ ⟨(j_+1),((o4.length:Nat):Int),(o4++[(3,f_,x4,D1,o3)]),(jg o5 (f_,x4) ((o4.length:Nat):Int)),a4,c4,J,eY,fK,fJ,(bJ J),(bJ J),cC,aq,(by simp only[gf,iB,gm];omega),(by unfold aK;omega)⟩
  omega
 have p2:=dF b2
 refine ex<|aX<|bf<|bg<|cI<|ak J s9<|au (v:=C D1) J J<|av<|rt<|r1 J J ?_
 let ez:=box cS #[.slice aD aF aC,R ay I ax,R aA U az,R a2 jc c2,.map (some bw),C pn,R cX pr cW,.map (some bH)] 142
 have H7:=HI.aR (l:=(ez::J2::J3::oL w 175 a2 jc c2::bW bw jd::bY)) (l':=[ez,J2,J3,oL w 175 a2 jc c2,bW bw jd,J5,bR bH mq]) (t:=r) H6 [0,1,2,3,4,5,6] aw J J
 refine⟨D1,jc,jd,a2,c2,?_,?_,aq,bq⟩
 · first|rfl|simp only[ami]
 · first|exact H7|simpa +zetaDelta only[ami] using H7
theorem yX:ct aJ 79:=⟨_,_,Tryz.func79,rfl,aM⟩
theorem aeG:ct aJ 156:=⟨_,_,Tryz.func156,rfl,aM⟩
theorem AF (qz:aK pn) (A3:aK fm) (Du:aK fu) (A2:aK gA) (hT:fQ 0 w) (HF:sp.length≤2700000000000) (IX:pn=((I.length:Nat):Int)) (ahi:U.length=I.length) (ahj:I.length≤64) (tN:bF pn pr=true) (H:HI M w w_ ([box cS #[.slice aD aF aC,R ay I ax,R aA U az,R eu sp ep,.map (some bw),C pn,R cX pr cW,.map (some bH)] 142,iL ay I ax,iL aA U az,oL w 175 eu sp ep,bW bw mp,iL cX pr cW,bR bH mq]++r)):Calls aJ 122 #[pV cS 0,.agg #[C fm,C fu,C gA]] w_ (cb fun v w'=>∃(sG:List cH) (Gf:KV) (nR:OA) (nQ:Nat),v=.tuple #[]∧HI M w w' ([box cS #[.slice aD aF aC,R ay I ax,R aA U az,R nR sG nQ,.map (some bw),C pn,R cX pr cW,.map (some bH)] 142,iL ay I ax,iL aA U az,oL w 175 nR sG nQ,bW bw Gf,iL cX pr cW,bR bH mq]++r)∧sG.length≤sp.length+201):=by
 refine enter 21 Tryz.func122 J J J fun f0 ha=>?_
 have fM:=aP<|H.rv 1 J
 have iA:=aP<|H.rv 2 J
 have Dp:=j1<|H.at_ 3 J
 have Dq:=aP<|H.rv 5 J
 have i0:f0 0=pV cS 0:=ha 0 bh
 have i1:f0 1=.agg #[C fm,C fu,C gA]:=ha 1 bh
 refine aB<|k<|bx H J i1 ?_
 let J1:=box cS #[.slice aD aF aC,R ay I ax,R aA U az,R eu sp ep,.map (some bw),C pn,R cX pr cW,.map (some bH)] 142
 let J2:=iL ay I ax
 let J3:=iL aA U az
 let J4:=oL w 175 eu sp ep
 let J5:=iL cX pr cW
 let bc:=[J1,J2,J3,J4,bW bw mp,J5,bR bH mq]
 intro aY w0 bS (H0:HI M w w0 ((box aY #[C fm,C fu,C gA] 122::bc)++r))
 let J0:=box aY #[C fm,C fu,C gA] 122
 refine bt<|ak J i0<|aU kE J J<|bl H0 0 J aW J J J<|aU sl J J<|bl H0 0 J aW J J J<|k ?_
 let bY:=[J5,bR bH mq,J0]
 have H1:HI M w w0 (bc++([J0]++r)):=HI.aR (l:=(J0::bc)) (l':=(J1::J2::J3::J4::bW bw mp::bY)) (t:=r) H0 [1,2,3,4,5,6,7,0] aw rfl rfl
 have bP:=mw (cS:=cS) (aD:=aD) (aF:=aF) (aC:=aC) (ay:=ay) (ax:=ax) (I:=I) (aA:=aA) (az:=az) (U:=U) (eu:=eu) (ep:=ep) (sp:=sp) (bw:=bw) (mp:=mp) (pn:=pn) (cX:=cX) (cW:=cW) (pr:=pr) (bH:=bH) (mq:=mq) (f_:=fm) (t_:=gA) (w:=w) (w_:=w0) (r:=([J0]++r)) (M:=M) qz A3 A2 hT aq aq aq aq (by exact tN) H1
 refine ca yX J (ec J<|ec J<|ec J e0) bP ?_
 rintro _ w1 ⟨o0,o1,o2,a0,c0,rfl,H2,q0,q1⟩
 let J6:=box cS #[.slice aD aF aC,R ay I ax,R aA U az,R a0 o1 c0,.map (some bw),C pn,R cX pr cW,.map (some bH)] 142
 let dE:=J6::J2::J3::oL w 175 a0 o1 c0::bW bw o2::bY
 have H3:HI M w w1 (dE++r):=H2
 refine au (v:=C o0) J J<|av<|rg<|ak J i0<|aU kE J J<|bl H3 7 J aW J J J<|aU mI J J<|bl H3 7 J aW J J J<|ak (v:=C o0) J J<|aU sl J J<|bl H3 7 J aW J J J<|k<|bd (v:=.agg #[C 4,C fm,C fu,C o0,C gA]) J (cj J<|cj J<|cj J<|cj J<|cj J ey) (fun _=>aM)<|k ?_
 have H4:HI M w w1 ([J6,J2,J3,oL w 175 a0 o1 c0,bW bw o2,J5,bR bH mq]++([J0]++r)):=HI.aR (l:=dE) (l':=dE) (t:=r) H3 [0,1,2,3,4,5,6,7] aw rfl rfl
 have cV:=xQ (cS:=cS) (aD:=aD) (aF:=aF) (aC:=aC) (ay:=ay) (ax:=ax) (I:=I) (aA:=aA) (az:=az) (U:=U) (eu:=a0) (ep:=c0) (sp:=o1) (bw:=bw) (mp:=o2) (pn:=pn) (cX:=cX) (cW:=cW) (pr:=pr) (bH:=bH) (mq:=mq) (k_:=4) (f_:=fm) (t_:=fu) (g_:=o0) (h_:=gA) (w:=w) (w_:=w1) (r:=([J0]++r)) (M:=M) qz aV A3 Du bq A2 aq H4
 refine ca JQ J (ec J<|ec J e0) cV ?_
 rintro _ w2 ⟨a1,c1,rfl,H5⟩
 let J7:=box cS #[.slice aD aF aC,R ay I ax,R aA U az,R a1 (o1++[(4,fm,fu,o0,gA)]) c1,.map (some bw),C pn,R cX pr cW,.map (some bH)] 142
 let J8:=oL w 175 a1 (o1++[(4,fm,fu,o0,gA)]) c1
 let J9:=bW bw (jg o2 (fm,fu) ((o1.length:Nat):Int))
 have H6:HI M w w2 ((J7::J2::J3::J8::J9::bY)++r):=H5
 refine z<|DU J ?_
 have H7:=HI.aR (l:=(J7::J2::J3::J8::J9::bY)) (l':=[J7,J2,J3,J8,J9,J5,bR bH mq]) (t:=r) H6 [0,1,2,3,4,5,6] aw J J
 refine⟨(o1++[(4,fm,fu,o0,gA)]),(jg o2 (fm,fu) ((o1.length:Nat):Int)),a1,c1,?_,?_,(by simp only[gf,iB,gm];omega)⟩
 · first|rfl|simp only[ami]
 · first|exact H7|simpa +zetaDelta only[ami] using H7
theorem xR {ze:OA} {y_:Nat} {es:List (Int×Int×Int)} (qz:aK pn) (tN:bF pn pr=true) (tZ:∀x∈es,kg pn [x.1,x.2.1]=true) (H:HI M w w_ ([box cS #[.slice aD aF aC,R ay I ax,R aA U az,R eu sp ep,.map (some bw),C pn,R cX pr cW,.map (some bH)] 142,iL ay I ax,iL aA U az,oL w 175 eu sp ep,bW bw mp,iL cX pr cW,bR bH mq,iL ze es y_]++r)):Calls aJ 120 #[pV cS 0,R ze es y_] w_ (cb fun v w'=>∃(B7:List (List bX)) (yE:OA) (yA:Nat),v=.tuple #[]∧HI M w w' ([box cS #[.slice aD aF aC,R ay I ax,R aA U az,R eu sp ep,.map (some bw),C pn,R yE B7 yA,.map (some bH)] 142,iL ay I ax,iL aA U az,oL w 175 eu sp ep,bW bw mp,iL yE B7 yA,bR bH mq,iL ze es y_]++r)∧bF pn B7=true):=by
 refine enter 28 Tryz.func120 J J J fun f0 ha=>?_
 have fM:=aP<|H.rv 1 J
 have iA:=aP<|H.rv 2 J
 have Dp:=j1<|H.at_ 3 J
 have Dq:=aP<|H.rv 5 J
 have akO:=aP<|H.rv 7 J
 have i0:f0 0=pV cS 0:=ha 0 bh
 have i1:f0 1=R ze es y_:=ha 1 bh
 refine aB<|ak J i1<|k<|dW J J ei<|ak (v:=C 0) J J<|av<|bk ?_
 let J0:=iL cX pr cW
 have H0:=H.put (it:=J0) J<|H.rv 5 J
 let J1:=iL ay I ax
 let J2:=iL aA U az
 let J3:=oL w 175 eu sp ep
 let J4:=bW bw mp
 let J5:=iL ze es y_
 let bc:=[J1,J2,J3,J4,J0,bR bH mq,J5]
 refine lp (fun m f w'=>∃(j_:Nat) (m_:List (List bX)) (cD:Int) (a0:OA) (c0:Nat),m=es.length-j_∧f 0=pV cS 0∧f 6=R ze es y_∧f 7=C (es.length:Int)∧f 8=C (j_:Int)∧HI M w w' ((iL a0 m_ c0::box cS #[.slice aD aF aC,R ay I ax,R aA U az,R eu sp ep,.map (some bw),C cD,R a0 m_ c0,.map (some bH)] 142::bc)++r)∧(j_≤es.length)∧(cD=pn)∧(bF cD m_=true)) _ ⟨0,pr,pn,cX,cW,J,i0,J,J,(bJ J),H0,aq,(by rfl),(by exact tN)⟩ ?_
 rintro _ f0 w0 ⟨j_,m_,cD,a0,c0,rfl,s0,s1,s2,s3,H2,pt,Cy,tv⟩
 refine aB<|k<|lss J J s3 s2<|av<|sq ?_
 refine cd (b:=decide ((j_:Int)<(es.length:Int))) J J (fun b0=>?_)<|fun b0=>?_
 ·
  have p0:=dT b0
  refine sk<|nx<|sq<|bk<|aB<|k<|ia (H2.rv 8 J) J J s1 s3 aq ei cF ?_
  intro iw x0 aQ cu
  refine k<|nj cu.w cF J J ?_
  intro v0 cm
  obtain⟨_,⟨_,_,rfl,⟨rfl,dM⟩,⟨_,_,rfl,⟨rfl,dV⟩,⟨rfl,fq⟩⟩⟩,rfl⟩:=cm
  refine k<|al H2 cF ?_
  let J6:=iL a0 m_ c0
  let J7:=box cS #[.slice aD aF aC,R ay I ax,R aA U az,R eu sp ep,.map (some bw),C cD,R a0 m_ c0,.map (some bH)] 142
  intro aY w1 bS (H3:HI M w w1 ((box aY #[C 0,C 0,C 0] 122::J6::J7::bc)++r))
  refine k<|bp H3 0 J cF J J J J J J J ?_
  let J8:=box aY #[C x0.1,C x0.2.1,C x0.2.2] 122
  intro w2 (H4:HI M w w2 ((J8::J6::J7::bc)++r))
  refine z<|nx ?_
  have rW:kg cD [x0.1,x0.2.1]=true:=by rw[Cy];exact tZ x0 (dJ aQ)
  refine l8 [.r,.r,.r,.r,.r,.r,.r,.r,.r,.r,.r,.r,.s,.r,.r,.e] (fun _=>True) J (by kernel_rfl) (fun _ _=>trivial) ?_
  refine yq J J<|kq (fun _ _=>mv rfl s0 e1)<|zq<|yq J J<|kq (fun _ _=>mv rfl s0 e1)<|zq<|yq J J<|kq (fun _ _=>nc rfl rfl e1)<|zq<|yq J J<|kq (fun _ _=>fa qQ rfl rfl e1)<|zq<|yq J J<|kq (fun _ x_=>cq (H4.ext x_) 2 rfl bm rfl rfl aw rfl e1)<|zq<|yq J J<|kq (fun _ _=>fa kE rfl rfl e1)<|zq<|yq J J<|kq (fun _ x_=>lx (H4.ext x_) 0 rfl aW rfl rfl rfl e1)<|zq<|yq J J<|kq (fun _ _=>fa mI rfl rfl e1)<|zq<|yq J J<|kq (fun _ x_=>lx (H4.ext x_) 0 rfl aW rfl rfl rfl e1)<|zq ?_
  refine yu J (fun _ v w'=>∃(a1:OA) (c1:Nat),v=.tuple #[.agg #[C (gX cD x0.1 x0.2.1),R a1 (jW cD m_ x0.1 x0.2.1) c1],C (lk cD x0.1 x0.2.1)]∧RV H4.fW w' (R a1 (jW cD m_ x0.1 x0.2.1) c1) (jW cD m_ x0.1 x0.2.1)) J jd J (fun v_ _ x_ _=>have cV:=Y5 (mn:=cD) (mr:=m_) (i:=x0.1) (j:=x0.2.1) (w:=v_) (H4.ext x_).mb aV ((H4.ext x_).rv 1 rfl) dM dV (by exact(bO tv).1) (by exact(bO tv).2.1) (by exact(bO tv).2.2.1);ca aeG rfl (ec J<|ec J<|ec J e0) cV (fun _ w4 ⟨a2,c2,e_,eT,iT⟩=>⟨_,J,eT,⟨a2,c2,e_,(bj.rv iT (H4.ext x_).mb)⟩⟩)) ?_
  refine lq J (fun _ v w'=>∃(a3:OA) (c3:Nat),v=.tuple #[.agg #[C (gX cD x0.1 x0.2.1),R a3 (jW cD m_ x0.1 x0.2.1) c3],C (lk cD x0.1 x0.2.1)]∧RV H4.fW w' (R a3 (jW cD m_ x0.1 x0.2.1) c3) (jW cD m_ x0.1 x0.2.1)) 0 J J jd J (fun _ _ _ _ _ h_=>let ⟨a4,c4,s4,ph⟩:=h_;mv rfl s4 ⟨_,J,Ext.refl _,⟨a4,c4,J,ph⟩⟩) ?_
  refine lq J (fun _ v w'=>∃(a5:OA) (c5:Nat),v=.agg #[C (gX cD x0.1 x0.2.1),R a5 (jW cD m_ x0.1 x0.2.1) c5]∧RV H4.fW w' (R a5 (jW cD m_ x0.1 x0.2.1) c5) (jW cD m_ x0.1 x0.2.1)) 0 J J jd J (fun _ _ _ _ _ h_=>let ⟨a6,c6,s5,og⟩:=h_;xt rfl s5 rfl ⟨_,J,Ext.refl _,⟨a6,c6,J,og⟩⟩) ?_
  refine QP J (X:=C (lk cD x0.1 x0.2.1)) 1 J J (fun _ _ _ _ _ h_=>let ⟨a8,c8,s6,qh⟩:=h_;xt rfl s6 rfl e1) ?_
  refine yq J J<|kq (fun _ _=>nc rfl rfl e1)<|zq<|yq J J<|kq (fun _ _=>fa qQ rfl rfl e1)<|zq<|ye<|yz ?_
  intro w5 f1 _ fB _ _ cz iC
  have dR:=H4.ext fB
  have s7:=(cz 0 J).trans s0
  have s8:=(cz 6 J).trans s1
  have s9:=(cz 7 J).trans s2
  have ej:=(cz 8 J).trans s3
  obtain⟨a9,c9,eY,qg⟩:=iC 0 _ _ rfl
  let J9:=iL a9 (jW cD m_ x0.1 x0.2.1) c9
  have dB:=dR.put (it:=J9) J qg
  have fK:=cz 26 J
  refine jZ<|bp dB 3 J bm J J fK eY J J J ?_
  let dK:=box cS #[.slice aD aF aC,R ay I ax,R aA U az,R eu sp ep,.map (some bw),C (gX cD x0.1 x0.2.1),R a9 (jW cD m_ x0.1 x0.2.1) c9,.map (some bH)] 142
  intro w6 (fc:HI M w w6 ((J9::J8::J6::dK::bc)++r))
  refine kz<|aI<|nx<|rg<|k<|add J J ej J aV<|ak (v:=C ((j_:Int)+1)) J J<|z ?_
  have gI:=fc.put (it:=J9) J<|fc.rv 0 J
  have ga:=gI.put (it:=J1) J<|gI.rv 5 J
  have il:=ga.put (it:=J2) J<|ga.rv 7 J
  have n3:HI M w w6 ((J2::J1::J9::J9::J8::J6::dK::bc)++r):=il
  have je:HI M w w6 ((J9::dK::bc)++r):=HI.aR (l:=(J2::J1::J9::J9::J8::J6::dK::bc)) (l':=(J9::dK::bc)) (t:=r) n3 [2,6,1,0,9,10,11,12,13] aw rfl rfl
  refine bB _ ?_ ⟨(j_+1),(jW cD m_ x0.1 x0.2.1),(gX cD x0.1 x0.2.1),a9,c9,J,s7,s8,s9,(bJ J),je,aq,(by rw[(pG (rs:=m_) rW).1];exact Cy),(by exact Rh tv rW)⟩
  omega
 have p0:=dF b0
 refine ex<|aX<|bf<|bg<|DU J ?_
 let ez:=box cS #[.slice aD aF aC,R ay I ax,R aA U az,R eu sp ep,.map (some bw),C cD,R a0 m_ c0,.map (some bH)] 142
 have H3:=HI.aR (l:=(iL a0 m_ c0::ez::bc)) (l':=[ez,J1,J2,J3,J4,iL a0 m_ c0,bR bH mq,J5]) (t:=r) H2 [1,2,3,4,5,0,7,8] aw J J
 have e0:(cD:Int)=pn:=by exact Cy
 try rw[←e0]
 refine⟨m_,a0,c0,?_,?_,(by exact tv)⟩
 · first|rfl|simp only[e0]|(simp only[ami])
 · first|exact H3|simpa +zetaDelta only[e0,ami] using H3
end Go.Proofs.YtgjakhpjmapelaaGreatDoor
