/- PRINTED by my own tool (wip/tool/gen.py): contracts of Go functions of this seat, each with its proof. -/
import Derived.Test.YtgjakhpjmapelaaGreatDoorPwnB
import Derived.Test.YtgjakhpjmapelaaGreatDoorHenA
import Derived.Test.YtgjakhpjmapelaaGreatDoorPwnC
import Derived.Test.YtgjakhpjmapelaaGreatDoorPwnD
import Derived.Test.YtgjakhpjmapelaaGreatDoorPwnA
set_option linter.unusedVariables false
set_option linter.unusedSimpArgs false
namespace Go.Proofs.YtgjakhpjmapelaaGreatDoor
open Go.Ew Go.RowKit
set_option maxRecDepth 100000
set_option maxHeartbeats 1600000
attribute [local irreducible] WL WC SO PW PX PZ WE Code.wp wpList rY cg
attribute [local irreducible] ka xy jr fg eb Ak C8 KP words d_ cV jE fC vC
variable {M:Nat→Prop} {w w_:World}
variable {s:ByteArray} {gk mh aE ay aA bA dR ey cZ:OA} {gj mJ aF aD ax eU az bz dJ cW ew bw cY bH:Nat} {h:List (List (Bool×ByteArray×Int))} {I:List aI} {vr o mn i j n pn f_ t_ ft fy gE:Int} {mr pr:List (List bY)} {l U xs:List Int} {fv:List ByteArray} {r:List Go.Ew.Item} {x y:bY} {sp:List cL} {mp:KV} {mq:List ((Int×Int)×Bool)}
theorem mC:aK.underlying 9=some (.string):=aC
theorem ml:aK.underlying 37=some (.slice 40):=aC
theorem mo:ei aK 40 1 false 24 (.slice none 0 0):=⟨aC,aC⟩
theorem nY:aK.underlying 40=some (.slice 43):=aC
theorem ir:ei aK 43 3 true 32 (.agg #[.bool false,.string ⟨#[]⟩,.int .i64 0]):=⟨aC,aC⟩
theorem Wg:cu aK 12:=⟨_,_,Tryz.func12,rfl,aC⟩
theorem nf:gO aK 43 1 1:=⟨_,_,Tryz.underlying43,rfl,rfl,aC⟩
theorem oa:ei aK 9 1 false 16 (.string ⟨#[]⟩):=⟨aC,aC⟩
theorem ai4:cu aK 44:=⟨_,_,Tryz.func44,rfl,aC⟩
theorem ai5:cu aK 43:=⟨_,_,Tryz.func43,rfl,aC⟩
theorem Ht:aK.underlying 44=some (.slice 9):=aC
theorem ajk:cu aK 20:=⟨_,_,Tryz.func20,rfl,aC⟩
theorem u9:gO aK 47 0 0:=⟨_,_,Tryz.underlying47,rfl,rfl,aC⟩
theorem B2:ei aK 44 1 false 24 (.slice none 0 0):=⟨aC,aC⟩
theorem ai3:cu aK 48:=⟨_,_,Tryz.func48,rfl,aC⟩
theorem oN:gO aK 43 0 0:=⟨_,_,Tryz.underlying43,rfl,rfl,aC⟩
theorem qK:gO aK 43 2 2:=⟨_,_,Tryz.underlying43,rfl,rfl,aC⟩
theorem rF:gO aK 95 4 4:=⟨_,_,Tryz.underlying95,rfl,rfl,aC⟩
theorem adw:cu aK 49:=⟨_,_,Tryz.func49,rfl,aC⟩
theorem P5 (kZ:s.size≤maxLen):Calls aK 44 #[.string s] w (cg fun v w'=>v=.bool (lS s)∧Ext w w'):=by
 refine dm 28 Tryz.func44 J J J py fun f0 ha H=>?_
 have i0:f0 0=.string s:=ha 0 bh
 have hS_:s.size≤9223372036854775807:=by have h_:=kZ;simp only[maxLen] at h_;exact h_
 refine aB<|au (v:=.bool false) J J<|av<|sq<|aB<|au (v:=C 0) J J<|av<|bk<|lp (fun m f w'=>∃(j:Nat),m=s.size-j∧f 0=.string s∧f 3=C (j:Int)∧HI (fun _=>False) w w' []∧(j≤s.size)∧((s.data.toList.take j).all vO=true)) _ ⟨0,J,i0,(bJ J),H,aq,(by rfl)⟩ ?_
 rintro _ f0 w0 ⟨j,rfl,s0,s1,H0,hk,hs⟩
 refine sq<|aB<|ak J s1<|ak J s0<|k<|vR J J mC<|k<|lss J J J J<|z<|nx<|cd (b:=decide ((j:Int)<(s.size:Int))) J J (fun b0=>?_)<|fun b0=>?_
 ·
  have p0:=dT b0
  refine sk<|nx<|sq<|bk<|aB<|ak J s0<|ak J s1<|k<|ixS J J J J aq mC ?_
  intro c0 sy
  refine k<|lss J J J J<|ak (v:=.bool (decide ((c0.toNat:Int)<97))) J J ?_
  rcases bE (decide ((c0.toNat:Int)<97)) with b1|b1
  ·
   refine aO J J J b1<|aO J J J b1<|aO J J J b1<|aO J J J b1<|k<|aR J J J J b1 J<|av<|nS J J J<|aB<|au (v:=.bool false) J J<|av<|rt<|bQ<|aL<|dU<|bQ<|aL<|r1 J J ?_
   exact⟨ani Value.bool (by exact Oy sy (abz b1)),H0.below⟩
  have p1:=dF b1
  refine aU J J J b1<|mv J s0<|aU J J J b1<|mv J s1<|aU J J J b1<|ixS J J J J aq mC ?_
  intro c1 yD
  refine aU J J J b1<|gtr J J J J<|k<|cJ J J J J b1 J<|z<|nx<|cd (b:=decide (122<(c1.toNat:Int))) J J (fun b2=>?_)<|fun b2=>?_
  ·
   refine aB<|au (v:=.bool false) J J<|av<|rt<|bQ<|aL<|dU<|bQ<|aL<|r1 J J ?_
   exact⟨ani Value.bool (by exact Oy sy (by have e_:=anm (yD.symm.trans sy);subst e_;exact abA b2)),H0.below⟩
  have p2:=dF b2
  refine sk<|aJ<|nx<|rg<|ak J s1<|k<|add J J J J aT<|au (v:=C ((j:Int)+1)) J J<|z<|bB _ ?_ ⟨(j+1),J,s0,(bJ J),H0,aq,(by exact FO (Pj sy) hs (by have e_:=anm (yD.symm.trans sy);subst e_;exact ZI b1 b2))⟩
  omega
 have p0:=dF b0
 refine ex<|aW<|bc<|bg<|cO<|ak J s0<|k<|vR J J mC<|k<|geq J J J J<|ak (v:=.bool (decide (1≤(s.size:Int)))) J J ?_
 rcases bE (decide (1≤(s.size:Int))) with b1|b1
 ·
  have p1:=dT b1
  refine aU J J J b1<|mv J s0<|aU J J J b1<|vR J J mC<|aU J J J b1<|leq J J J J<|k<|aR J J J J b1 J<|au (v:=.bool (decide ((s.size:Int)≤8))) J J<|av<|rt<|r1 J J ?_
  exact⟨ani Value.bool (by unfold lS;rw[Lx hs aq];first|(rw[show decide (1≤s.size)=true from anq aq,aoe,aoe,aoA];omega)|(rw[show decide (1≤s.size)=false from ans aq];rfl)),H0.below⟩
 have p1:=dF b1
 refine aO J J J b1<|aO J J J b1<|aO J J J b1<|k<|cJ J J J J b1 J<|au (v:=.bool false) J J<|av<|rt<|r1 J J ?_
 exact⟨ani Value.bool (by unfold lS;rw[Lx hs aq];first|(rw[show decide (1≤s.size)=true from anq aq,aoe,aoe,aoA];omega)|(rw[show decide (1≤s.size)=false from ans aq];rfl)),H0.below⟩
theorem AR (hM:eG M w) (lU:cA M w gk gj h) (lP:h.flatten.length≤1048576):Calls aK 12 #[R gk h gj] w (cg fun v w'=>∃(a0:OA) (c0:Nat),v=.slice a0 h.flatten.length c0∧Ext w w'∧RV M w' (.slice a0 h.flatten.length c0) h.flatten):=by
 refine dm 18 Tryz.func12 J J J hM fun f0 ha H=>?_
 have H0:=dS H lU
 have HM:=bf lU
 have i0:f0 0=R gk h gj:=ha 0 bh
 refine aB<|au (v:=.slice none 0 0) J J<|bp<|au (v:=.slice none 0 0) J J<|av<|sq<|aB<|au (v:=C 0) J J<|av<|bk ?_
 have H1:=H0.rl (Bool×ByteArray×Int) 43
 refine lp (fun m f w'=>∃(j:Nat) (xs:List (Bool×ByteArray×Int)) (a0:OA) (c0:Nat),m=h.length-j∧f 0=R gk h gj∧f 3=R a0 xs c0∧f 4=C (j:Int)∧HI M w w' [oL w 43 a0 xs c0,iL gk h gj]∧(j≤h.length)∧(xs=(h.take j).flatten)) _ ⟨0,([]:List (Bool×ByteArray×Int)),none,0,J,i0,J,(bJ J),H1,aq,(by rfl)⟩ ?_
 rintro _ f0 w0 ⟨j,xs,a0,c0,rfl,s0,s1,s2,H2,hk,hs⟩
 refine sq<|aB<|ak J s2<|ak J s0<|k<|dP J J ml<|k<|lss J J J J<|z<|nx<|cd (b:=decide ((j:Int)<(h.length:Int))) J J (fun b0=>?_)<|fun b0=>?_
 ·
  have p0:=dT b0
  refine sk<|nx<|sq<|bk<|rg<|ak J s1<|ak J s0<|ak J s2<|k<|ia (H2.rv 1 J) J J J J aq ml mo ?_
  intro iC x0 aP ct
  refine k<|te ct.w mo J J ?_
  intro a1 c1 cq
  have zV:=bf cq
  have H3:=dS H2 cq
  refine k<|lA H3 1 J J J J J J (H3.rv 0 J).src nY ir J (by have h_:=uq aP;rw[hs];omega) J ?_
  intro a2 c2 w1 (H4:HI M w w1 [iL a1 x0 c1,oL w 43 a2 (xs++x0) c2,iL gk h gj])
  refine au (v:=R a2 (xs++x0) c2) J J<|z<|aJ<|nx<|rg<|ak J s2<|k<|add J J J J aT<|au (v:=C ((j:Int)+1)) J J<|z ?_
  have H5:HI M w w1 [oL w 43 a2 (xs++x0) c2,iL gk h gj]:=H4.bU [1,2] aw rfl
  refine bB _ ?_ ⟨(j+1),(xs++x0),a2,c2,J,s0,J,(bJ J),H5,aq,(by rw[hs,u6 aP])⟩
  omega
 have p0:=dF b0
 refine ex<|aW<|bc<|bg<|cO<|ak J s1<|au (v:=R a0 xs c0) J J<|av<|rt<|r1 J J ?_
 have e0:(xs:List (Bool×ByteArray×Int))=h.flatten:=by rw[hs,l5 aq]
 have bo:=iB (fun (bW:List (Bool×ByteArray×Int))=>(.slice a0 bW.length c0:Value)) e0
 exact⟨a0,c0,bo,H2.below,(ani (fun (x_:List (Bool×ByteArray×Int))=>RV _ _ (.slice a0 x_.length c0) x_) e0).mp (H2.mw 0 J)⟩
theorem Nt (hM:eG M w) (lU:cA M w gk gj h) (lP:h.flatten.length≤1048576):Calls aK 43 #[R gk h gj] w (cg fun v w'=>v=C (h.flatten.length:Int)∧Ext w w'):=by
 refine dm 6 Tryz.func43 J J J hM fun f0 ha H=>?_
 have H0:=dS H lU
 have i0:f0 0=R gk h gj:=ha 0 bh
 refine aB<|au (v:=C 0) J J<|bp<|ak J i0<|k ?_
 have bP:=AR (h:=h) H0.mb (H0.rv 0 J)<|by exact lP
 refine ca Wg J (ec J e0) bP ?_
 rintro _ w0 ⟨a0,c0,rfl,bT,cq⟩
 have H1:=H0.ext bT
 have H2:=H1.put (it:=iL a0 h.flatten c0) J cq
 refine k<|dP J J nY<|au (v:=C (h.flatten.length:Int)) J J<|av<|rt<|r1 J J ?_
 exact⟨J,H2.below⟩
theorem Ns (hM:eG M w) (lU:cA M w gk gj h) (lP:h.flatten.length≤1048576):Calls aK 20 #[R gk h gj] w (cg fun v w'=>v=.bool (gC h)∧Ext w w'):=by
 refine dm 23 Tryz.func20 J J J hM fun f0 ha H=>?_
 have H0:=dS H lU
 have HM:=bf lU
 have i0:f0 0=R gk h gj:=ha 0 bh
 refine aB<|au (v:=.bool false) J J<|bp<|ak J i0<|k ?_
 have bP:=AR (h:=h) H0.mb (H0.rv 0 J)<|by exact lP
 refine ca Wg J (ec J e0) bP ?_
 rintro _ w0 ⟨a0,c0,rfl,bT,cq⟩
 have H1:=H0.ext bT
 have H2:=H1.put (it:=iL a0 h.flatten c0) J cq
 refine au (v:=R a0 h.flatten c0) J J<|av<|sq<|aB<|au (v:=C 0) J J<|av<|bk<|lp (fun m f w'=>∃(j:Nat),m=h.flatten.length-j∧f 3=R a0 h.flatten c0∧f 4=C (j:Int)∧HI M w w' [iL a0 h.flatten c0,iL gk h gj]∧(j≤h.flatten.length)∧((h.flatten.take j).all zQ=true)) _ ⟨0,J,J,(bJ J),H2,aq,(by rfl)⟩ ?_
 rintro _ f0 w1 ⟨j,rfl,s0,s1,H3,hk,hs⟩
 refine sq<|aB<|ak J s1<|ak J s0<|k<|dP J J nY<|k<|lss J J J J<|z<|nx<|cd (b:=decide ((j:Int)<(h.flatten.length:Int))) J J (fun b0=>?_)<|fun b0=>?_
 ·
  have p0:=dT b0
  refine sk<|nx<|sq<|bk<|aB<|ak J s0<|ak J s1<|k<|ia (H3.rv 0 J) J J J J aq nY ir ?_
  intro iC x0 aP ct
  refine aS nf J J<|k<|ldS ((ct).s1).fst.w oa J J ?_
  intro dZ
  refine k ?_
  have cS:=P5 (s:=x0.2.1) (w:=w1) bq
  refine ca ai4 J (ec J e0) cS ?_
  rintro _ w2 ⟨rfl,da⟩
  have H4:=H3.ext da
  refine k<|jI J J<|z<|nx<|cd (b:=!(lS x0.2.1)) J J (fun b1=>?_)<|fun b1=>?_
  ·
   refine aB<|au (v:=.bool false) J J<|av<|rt<|bQ<|aL<|dU<|bQ<|aL<|r1 J J ?_
   exact⟨ani Value.bool (by exact U6 aP (by simpa using b1)),H4.below⟩
  refine sk<|aJ<|nx<|rg<|ak J s1<|k<|add J J J J aT<|au (v:=C ((j:Int)+1)) J J<|z<|bB _ ?_ ⟨(j+1),J,s0,(bJ J),H4,aq,(by exact FO aP hs (by simpa [zQ] using b1))⟩
  omega
 have p0:=dF b0
 refine ex<|aW<|bc<|bg<|cO<|ak J s0<|k<|dP J J nY<|k<|leq J J J J<|au (v:=.bool (decide ((h.flatten.length:Int)≤4096))) J J<|av<|rt<|r1 J J ?_
 exact⟨ani Value.bool (by exact RZ hs aq),H3.below⟩
theorem Nr {m:Int} (hM:eG M w) (lU:cA M w gk gj h) (h_m:aM m) (lP:h.flatten.length≤1048576):Calls aK 19 #[R gk h gj,C m] w (cg fun v w'=>v=.bool (iG h m)∧Ext w w'):=by
 refine dm 32 Tryz.func19 J J J hM fun f0 ha H=>?_
 have H0:=dS H lU
 have HM:=bf lU
 have i0:f0 0=R gk h gj:=ha 0 bh
 have i1:f0 1=C m:=ha 1 bh
 refine aB<|au (v:=.bool false) J J<|av<|sq<|aB<|ak J i0<|k<|dP J J ml<|ak J i1<|k<|gtr J J J J<|ak (v:=.bool (decide (m<(h.length:Int)))) J J ?_
 rcases bE (decide (m<(h.length:Int))) with b0|b0
 ·
  have p0:=dT b0
  refine aO J J J b0<|aO J J J b0<|aO J J J b0<|aO J J J b0<|k<|aR J J J J b0 J<|av<|nS J J J<|aB<|au (v:=.bool false) J J<|av<|rt<|aL<|r1 J J ?_
  exact⟨ani Value.bool (by exact RJ p0),H0.below⟩
 have p0:=dF b0
 refine aU J J J b0<|mv J i0<|aU J J J b0 ?_
 have bP:=Nt (h:=h) H0.mb (H0.rv 0 J)<|by exact lP
 refine ca ai5 J (ec J e0) bP ?_
 rintro _ w0 ⟨rfl,bT⟩
 have H1:=H0.ext bT
 refine aU J J J b0<|mv J i1<|aU J J J b0<|gtr J J J J<|k<|cJ J J J J b0 J<|z<|nx<|cd (b:=decide (m<(h.flatten.length:Int))) J J (fun b1=>?_)<|fun b1=>?_
 ·
  have p1:=dT b1
  refine aB<|au (v:=.bool false) J J<|av<|rt<|aL<|r1 J J ?_
  exact⟨ani Value.bool (by exact RI p1),H1.below⟩
 have p1:=dF b1
 refine sk<|cO<|ak J i0<|k ?_
 have cS:=AR (h:=h) H1.mb (H1.rv 0 J)<|by exact lP
 refine ca Wg J (ec J e0) cS ?_
 rintro _ w1 ⟨a0,c0,rfl,da,cq⟩
 have H2:=H1.ext da
 have H3:=H2.put (it:=iL a0 h.flatten c0) J cq
 refine au (v:=R a0 h.flatten c0) J J<|av<|sq<|aB<|au (v:=C 0) J J<|av<|bk<|lp (fun m f w'=>∃(j:Nat),m=h.flatten.length-j∧f 5=R a0 h.flatten c0∧f 6=C (j:Int)∧HI M w w' [iL a0 h.flatten c0,iL gk h gj]∧(j≤h.flatten.length)∧((h.flatten.take j).all zO=true)) _ ⟨0,J,J,(bJ J),H3,aq,(by rfl)⟩ ?_
 rintro _ f0 w2 ⟨j,rfl,s0,s1,H4,hk,hs⟩
 refine sq<|aB<|ak J s1<|ak J s0<|k<|dP J J nY<|k<|lss J J J J<|z<|nx<|cd (b:=decide ((j:Int)<(h.flatten.length:Int))) J J (fun b2=>?_)<|fun b2=>?_
 ·
  have p2:=dT b2
  refine sk<|nx<|sq<|bk<|aB<|ak J s0<|ak J s1<|k<|ia (H4.rv 0 J) J J J J aq nY ir ?_
  intro iC x0 aP ct
  refine aS nf J J<|k<|ldS ((ct).s1).fst.w oa J J ?_
  intro dZ
  refine k<|vR J J mC<|k<|gtr J J J J<|z<|nx<|cd (b:=decide (20<(x0.2.1.size:Int))) J J (fun b3=>?_)<|fun b3=>?_
  ·
   refine aB<|au (v:=.bool false) J J<|av<|rt<|bQ<|aL<|dU<|bQ<|aL<|r1 J J ?_
   exact⟨ani Value.bool (by exact RH aP (by simpa using b3)),H4.below⟩
  have p3:=dF b3
  refine sk<|aJ<|nx<|rg<|ak J s1<|k<|add J J J J aT<|au (v:=C ((j:Int)+1)) J J<|z<|bB _ ?_ ⟨(j+1),J,s0,(bJ J),H4,aq,(by exact FO aP hs (anq aq))⟩
  omega
 have p2:=dF b2
 refine ex<|aW<|bc<|bg<|cO<|au (v:=.bool true) J J<|av<|rt<|r1 J J ?_
 exact⟨ani Value.bool (by exact RL p0 p1 hs aq),H4.below⟩
theorem P4 {l:List ByteArray} (hM:eG M w) (xA:cA M w mh mJ l) (kZ:s.size≤maxLen):Calls aK 48 #[R mh l mJ,.string s] w (cg fun v w'=>v=C (gz l s)∧Ext w w'):=by
 refine dm 19 Tryz.func48 J J J hM fun f0 ha H=>?_
 have H0:=dS H xA
 have abX:=bf xA
 have i0:f0 0=R mh l mJ:=ha 0 bh
 have i1:f0 1=.string s:=ha 1 bh
 refine aB<|au (v:=C 0) J J<|av<|sq<|aB<|au (v:=C 0) J J<|av<|bk<|lp (fun m f w'=>∃(j:Nat),m=l.length-j∧f 0=R mh l mJ∧f 1=.string s∧f 5=C (j:Int)∧HI M w w' [iL mh l mJ]∧(j≤l.length)∧((l.take j).any (Gu s)=false)) _ ⟨0,J,i0,i1,(bJ J),H0,aq,bh⟩ ?_
 rintro _ f0 w0 ⟨j,rfl,s0,s1,s2,H1,hk,hs⟩
 refine sq<|aB<|ak J s2<|ak J s0<|k<|dP J J Ht<|k<|lss J J J J<|z<|nx<|cd (b:=decide ((j:Int)<(l.length:Int))) J J (fun b0=>?_)<|fun b0=>?_
 ·
  have p0:=dT b0
  refine sk<|nx<|sq<|bk<|aB<|ak J s0<|ak J s2<|k<|ia (H1.rv 0 J) J J J J aq Ht oa ?_
  intro iC x0 aP ct
  refine k<|ldS ct.w oa J J ?_
  intro cq
  refine ak J s1<|k<|YK J J J J<|z<|nx<|cd (b:=decide (x0=s)) J J (fun b1=>?_)<|fun b1=>?_
  ·
   refine aB<|ak J s2<|au (v:=C (j:Int)) J J<|av<|rt<|bQ<|aL<|dU<|bQ<|aL<|r1 J J ?_
   exact⟨ani (Value.int .i64) (by exact ue aP hs b1),H1.below⟩
  have p1:=dF b1
  refine sk<|aJ<|nx<|rg<|ak J s2<|k<|add J J J J aT<|au (v:=C ((j:Int)+1)) J J<|z<|bB _ ?_ ⟨(j+1),J,s0,s1,(bJ J),H1,aq,(by exact po aP hs b1)⟩
  omega
 have p0:=dF b0
 refine ex<|aW<|bc<|bg<|cO<|au (v:=C (-1)) J J<|av<|rt<|r1 J J ?_
 exact⟨ani (Value.int .i64) (by exact uX hs aq),H1.below⟩
theorem Va (hM:eG M w) (lU:cA M w gk gj h) (lP:h.flatten.length≤1048576):Calls aK 23 #[R gk h gj] w (cg fun v w'=>∃(a0:OA) (c0:Nat) (a1:OA) (c1:Nat) (a2:OA) (c2:Nat),v=.tuple #[.agg #[.slice a0 (mc h).length c0,.slice a1 (cN h).length c1,.slice a2 ([]:List Int).length c2],C (lu h)]∧Ext w w'∧RV M w' (.slice a0 (mc h).length c0) (mc h)∧RV M w' (.slice a1 (cN h).length c1) (cN h)∧RV M w' (.slice a2 ([]:List Int).length c2) ([]:List Int)):=by
 refine dm 66 Tryz.func23 J J J hM fun f0 ha H=>?_
 let J0:=iL gk h gj
 have H0:=H.put (it:=J0) J<|by rw[bN];exact lU
 have HM:=bf lU
 have i0:f0 0=R gk h gj:=ha 0 bh
 refine aB<|k<|al H0 dN ?_
 intro aX w0 bT (H1:HI M w w0 [box aX #[.slice none 0 0,.slice none 0 0,.slice none 0 0] 47,J0])
 let J1:=box aX #[.slice none 0 0,.slice none 0 0,.slice none 0 0] 47
 refine au (v:=C 0) J J<|av<|sq<|aB<|ak J i0<|k ?_
 have bP:=Ns (h:=h) H1.mb (H1.rv 1 J)<|by exact lP
 refine ca ajk J (ec J e0) bP ?_
 rintro _ w1 ⟨rfl,da⟩
 have H2:=H1.ext da
 refine k<|jI J J<|z<|nx<|cd (b:=!(gC h)) J J (fun b0=>?_)<|fun b0=>?_
 ·
  refine sq ?_
  have hq:gC h=false:=by simpa using b0
  refine rg<|k<|bd (v:=.agg #[.slice none 0 0,.slice none 0 0,.slice none 0 0]) J eh (fun _=>aC)<|k<|bt H2 0 J dN J J J J J J J ?_
  intro w2 (H3:HI M w w2 [J1,J0])
  refine au (v:=C 1) J J<|av<|rt<|aL<|im H3 0 J dN J J J J J aw ?_
  have e0:([]:List ByteArray)=mc h:=by exact(xe hq).1.symm
  have e1:([]:List aI)=cN h:=by exact(xe hq).2.1.symm
  have e3:(1:Int)=lu h:=by exact(xe hq).2.2.symm
  have bo:=qN (fun (bW:List ByteArray) (dK:List aI) (lH:Int)=>(.tuple #[.agg #[.slice none bW.length 0,.slice none dK.length 0,.slice none ([]:List Int).length 0],C lH]:Value)) e0 e1 e3
  exact⟨none,0,none,0,none,0,bo,H3.below,(ani (fun (x_:List ByteArray)=>RV _ _ (.slice none x_.length 0) x_) e0).mp (ee _ _),(ani (fun (x_:List aI)=>RV _ _ (.slice none x_.length 0) x_) e1).mp (ee _ _),(ee _ _)⟩
 refine sk<|nx<|sq ?_
 have hq:gC h=true:=by simpa using b0
 refine rg<|k<|al H2 dN ?_
 intro aZ w2 eR (H3:HI M w w2 [box aZ #[.slice none 0 0,.slice none 0 0,.slice none 0 0] 47,J1,J0])
 refine av<|sq<|aB<|au (v:=C 0) J J<|av<|bk ?_
 have H4:=H3.rl ByteArray 9
 have H5:=H4.rl aI 95
 refine lp (fun m f w'=>∃(i:Nat) (vs:List ByteArray) (aH:List aI) (a0:OA) (c0:Nat) (a1:OA) (c1:Nat),m=h.length-i∧f 0=R gk h gj∧f 2=pV aX 0∧f 4=pV aZ 0∧f 5=C (i:Int)∧HI M w w' [oL w 95 a1 aH c1,oL w 9 a0 vs c0,box aZ #[R a0 vs c0,R a1 aH c1,.slice none 0 0] 47,J1,J0]∧(i≤h.length)∧(vs=(gW h i).1)∧(aH=(gW h i).2)) _ ⟨0,([]:List ByteArray),([]:List aI),none,0,none,0,J,i0,J,J,(bJ J),H5,aq,(by rfl),(by rfl)⟩ ?_
 rintro _ f0 w3 ⟨i,vs,aH,a0,c0,a1,c1,rfl,s0,s1,s2,s3,H6,Ya,h1,h2⟩
 refine sq<|aB<|ak J s3<|ak J s0<|k<|dP J J ml<|k<|lss J J J J<|z<|nx<|cd (b:=decide ((i:Int)<(h.length:Int))) J J (fun b1=>?_)<|fun b1=>?_
 ·
  have p1:=dT b1
  refine sk<|nx<|sq<|bk<|aB<|au (v:=C 0) J J<|av<|bk<|lp (fun m f w'=>∃(q:Nat) (vs:List ByteArray) (aH:List aI) (a2:OA) (c2:Nat) (a3:OA) (c3:Nat),m=(h.getD i []).length-q∧f 0=R gk h gj∧f 2=pV aX 0∧f 4=pV aZ 0∧f 5=C (i:Int)∧f 6=C (q:Int)∧HI M w w' [oL w 95 a3 aH c3,oL w 9 a2 vs c2,box aZ #[R a2 vs c2,R a3 aH c3,.slice none 0 0] 47,J1,J0]∧(q≤(h.getD i []).length)∧(vs=(jD i (gW h i) (h.getD i []) q).1)∧(aH=(jD i (gW h i) (h.getD i []) q).2)) _ ⟨0,vs,aH,a0,c0,a1,c1,J,s0,s1,s2,s3,(bJ J),H6,aq,(by exact h1),(by exact h2)⟩ ?_
  rintro _ f1 w4 ⟨q,vs,aH,a2,c2,a3,c3,rfl,s4,s5,s6,s7,s8,H7,hk,h1,h2⟩
  refine sq<|aB<|ak J s8<|ak J s4<|ak J s7<|k<|ia (H7.rv 4 J) J J J J aq ml mo ?_
  intro iC x0 aP ct
  refine k<|te ct.w mo J J ?_
  intro a4 c4 cq
  have zV:=bf cq
  let J2:=iL a4 x0 c4
  have H8:=H7.put (it:=J2) J cq
  refine k<|dP J J nY<|k<|lss J J J J<|z<|nx<|cd (b:=decide ((q:Int)<(x0.length:Int))) J J (fun b2=>?_)<|fun b2=>?_
  ·
   have p2:=dT b2
   refine sk<|nx<|sq<|bk<|aB<|ak J s4<|ak J s7<|k<|ia (H8.rv 5 J) J J J J aq ml mo ?_
   intro rh x1 cP gL
   refine k<|te gL.w mo J J ?_
   intro a5 c5 dZ
   have ln1:=bf dZ
   let J3:=iL a5 x1 c5
   have H9:=H8.put (it:=J3) J dZ
   refine ak J s8<|k<|ia (H9.rv 0 J) J J J J (by have e_:=nq cP aP;subst e_;omega) nY ir ?_
   intro pK x2 iA kR
   refine k<|nt kR.w ir J J ?_
   intro v0 dY
   obtain⟨_,⟨_,_,rfl,rfl,⟨_,_,rfl,⟨rfl,fu⟩,⟨rfl,je⟩⟩⟩,rfl⟩:=dY
   refine k<|al H9 ir ?_
   let J4:=box aZ #[R a2 vs c2,R a3 aH c3,.slice none 0 0] 47
   let ba:=[J3,J2,oL w 95 a3 aH c3,oL w 9 a2 vs c2,J4,J1,J0]
   intro bD w5 fH (dH:HI M w w5 (box bD #[.bool false,.string ⟨#[]⟩,C 0] 43::ba))
   refine k<|bt dH 0 J ir J J J J J J J ?_
   let J5:=box bD #[.bool x2.1,.string x2.2.1,C x2.2.2] 43
   intro w6 (db:HI M w w6 (J5::ba))
   refine bp<|aS u9 J s6<|bl db 5 J B2 J J J<|aS nf J J<|bl db 0 J oa J J J<|k ?_
   have dw:=db.freeze 4 J
   have cS:=P4 (l:=vs) (s:=x2.2.1) dw.mb (dw.rv 4 J) bq
   refine ca ai3 J (ec J<|ec J e0) cS ?_
   rintro _ w7 ⟨rfl,ja⟩
   have dz:=db.ext ja
   refine au (v:=C (gz vs x2.2.1)) J J<|av<|sq<|aB<|ak (v:=C (gz vs x2.2.1)) J J<|k<|lss J J J J<|z<|nx<|cd (b:=decide ((gz vs x2.2.1)<0)) J J (fun b3=>?_)<|fun b3=>?_
   ·
    have p3:=dT b3
    refine aB<|aS u9 J s6<|bl dz 5 J B2 J J J<|k<|dP J J Ht<|au (v:=C (vs.length:Int)) J J<|av<|rg<|aS u9 J s6<|bl dz 5 J B2 J J J<|aS nf J J<|bl dz 0 J oa J J J<|k<|bs (xs:=([x2.2.1]:List ByteArray)) (cells:=#[.string x2.2.1]) (e:=9) dz J (cj J eh) (fun _=>aC) ⟨[.string x2.2.1],[],J,⟨J,bq⟩,J⟩ J aw ?_
    intro g0 w8 ji cM
    refine k<|lA cM 5 J J J J J J (gP<|cM.at_ 0 J) Ht oa J (by have e_:=nq cP aP;have h_:=pP (k:=q) aP aq;rw[←fq aP,←h1,←h2] at h_;simp only[iM,gr];omega) J ?_
    let J6:=own w.heap.size 9 (.slice (some ⟨g0,0,none⟩) 1 1) ([x2.2.1]:List ByteArray)
    intro a6 c6 w9 (dW:HI M w w9 [J6,J5,J3,J2,oL w 95 a3 aH c3,oL w 9 a6 (vs++([x2.2.1]:List ByteArray)) c6,J4,J1,J0])
    let J7:=oL w 9 a6 (vs++([x2.2.1]:List ByteArray)) c6
    refine aS u9 J s6<|k<|bt dW 6 J B2 J J J J J J J ?_
    let J8:=box aZ #[R a6 (vs++([x2.2.1]:List ByteArray)) c6,R a3 aH c3,.slice none 0 0] 47
    intro dL (dt:HI M w dL [J6,J5,J3,J2,oL w 95 a3 aH c3,J7,J8,J1,J0])
    refine av<|rg<|aS fB J s6<|bl dt 6 J jb J J J<|ak J s7<|ak J s8<|aS oN J J<|bl dt 1 J ob J J J<|ak (v:=C (vs.length:Int)) J J<|aS qK J J<|bl dt 1 J aV J J J<|k<|bd (v:=.agg #[C (i:Int),C (q:Int),.bool x2.1,C (vs.length:Int),C x2.2.2]) J (cj J<|cj J<|cj J<|cj J<|cj J eh) (fun _=>aC)<|k<|bs (xs:=([((i:Int),(q:Int),x2.1,(vs.length:Int),x2.2.2)]:List aI)) (cells:=#[C (i:Int),C (q:Int),.bool x2.1,C (vs.length:Int),C x2.2.2]) (e:=95) dt J (cj J eh) (fun _=>aC) ⟨[C (i:Int),C (q:Int),.bool x2.1,C (vs.length:Int),C x2.2.2],[],J,⟨_,_,J,⟨J,(show aM ((i:Int)) from aT)⟩,⟨_,_,J,⟨J,(show aM ((q:Int)) from aT)⟩,⟨_,_,J,J,⟨_,_,J,⟨J,(show aM ((vs.length:Int)) from(by have e_:=nq cP aP;have h3:=pP (k:=q) aP aq;rw[←fq aP,←h1,←h2] at h3;unfold aM;omega))⟩,⟨J,(show aM (x2.2.2) from aT)⟩⟩⟩⟩⟩,J⟩ J aw ?_
    intro g1 ef kb cR
    refine k<|lA cR 5 J J J J J J (gP<|cR.at_ 0 J) js jy J (by have e_:=nq cP aP;have h_:=pP (k:=q) aP aq;rw[←fq aP,←h1,←h2] at h_;simp only[iM,gr];omega) J ?_
    let J9:=own w.heap.size 95 (.slice (some ⟨g1,0,none⟩) 1 1) ([((i:Int),(q:Int),x2.1,(vs.length:Int),x2.2.2)]:List aI)
    intro a7 c7 fh (dM:HI M w fh [J9,J6,J5,J3,J2,oL w 95 a7 (aH++([((i:Int),(q:Int),x2.1,(vs.length:Int),x2.2.2)]:List aI)) c7,J7,J8,J1,J0])
    let dO:=oL w 95 a7 (aH++([((i:Int),(q:Int),x2.1,(vs.length:Int),x2.2.2)]:List aI)) c7
    refine aS fB J s6<|k<|bt dM 7 J jb J J J J J J J ?_
    let eC:=box aZ #[R a6 (vs++([x2.2.1]:List ByteArray)) c6,R a7 (aH++([((i:Int),(q:Int),x2.1,(vs.length:Int),x2.2.2)]:List aI)) c7,.slice none 0 0] 47
    intro iz (dI:HI M w iz [J9,J6,J5,J3,J2,dO,J7,eC,J1,J0])
    refine z<|aJ<|nx<|rg<|ak J s8<|k<|add J J J J aT<|au (v:=C ((q:Int)+1)) J J<|z ?_
    have cF:HI M w iz [dO,J7,eC,J1,J0]:=dI.bU [5,6,7,8,9] aw rfl
    refine bB _ ?_ ⟨(q+1),(vs++([x2.2.1]:List ByteArray)),(aH++([((i:Int),(q:Int),x2.1,(vs.length:Int),x2.2.2)]:List aI)),a6,c6,a7,c7,J,s4,s5,s6,s7,(bJ J),cF,(by rw[fq aP];omega),(by rw[h1] at *;have e_:=nq cP aP;subst e_;rw[fq aP] at *;first|exact(wU iA p3).1|exact(wT iA p3).1),(by rw[h1,h2] at *;have e_:=nq cP aP;subst e_;rw[fq aP] at *;first|exact(wU iA p3).2|exact(wT iA p3).2)⟩
    rw[fq aP];omega
   have p3:=dF b3
   refine sk<|nx<|rg<|aS fB J s6<|bl dz 5 J jb J J J<|ak J s7<|ak J s8<|aS oN J J<|bl dz 0 J ob J J J<|ak (v:=C (gz vs x2.2.1)) J J<|aS qK J J<|bl dz 0 J aV J J J<|k<|bd (v:=.agg #[C (i:Int),C (q:Int),.bool x2.1,C (gz vs x2.2.1),C x2.2.2]) J (cj J<|cj J<|cj J<|cj J<|cj J eh) (fun _=>aC)<|k<|bs (xs:=([((i:Int),(q:Int),x2.1,gz vs x2.2.1,x2.2.2)]:List aI)) (cells:=#[C (i:Int),C (q:Int),.bool x2.1,C (gz vs x2.2.1),C x2.2.2]) (e:=95) dz J (cj J eh) (fun _=>aC) ⟨[C (i:Int),C (q:Int),.bool x2.1,C (gz vs x2.2.1),C x2.2.2],[],J,⟨_,_,J,⟨J,(show aM ((i:Int)) from aT)⟩,⟨_,_,J,⟨J,(show aM ((q:Int)) from aT)⟩,⟨_,_,J,J,⟨_,_,J,⟨J,(show aM (gz vs x2.2.1) from(by have h_:=wm (p:=Gu x2.2.1) (r:=vs);have e_:=nq cP aP;have h3:=pP (k:=q) aP aq;rw[←fq aP,←h1,←h2] at h3;unfold gz;unfold aM;omega))⟩,⟨J,(show aM (x2.2.2) from aT)⟩⟩⟩⟩⟩,J⟩ J aw ?_
   intro g0 w8 ji cM
   refine k<|lA cM 4 J J J J J J (gP<|cM.at_ 0 J) js jy J (by have e_:=nq cP aP;have h_:=pP (k:=q) aP aq;rw[←fq aP,←h1,←h2] at h_;simp only[iM,gr];omega) J ?_
   let fQ:=own w.heap.size 95 (.slice (some ⟨g0,0,none⟩) 1 1) ([((i:Int),(q:Int),x2.1,gz vs x2.2.1,x2.2.2)]:List aI)
   intro a6 c6 w9 (dW:HI M w w9 [fQ,J5,J3,J2,oL w 95 a6 (aH++([((i:Int),(q:Int),x2.1,gz vs x2.2.1,x2.2.2)]:List aI)) c6,oL w 9 a2 vs c2,J4,J1,J0])
   let fz:=oL w 95 a6 (aH++([((i:Int),(q:Int),x2.1,gz vs x2.2.1,x2.2.2)]:List aI)) c6
   refine aS fB J s6<|k<|bt dW 6 J jb J J J J J J J ?_
   let il:=box aZ #[R a2 vs c2,R a6 (aH++([((i:Int),(q:Int),x2.1,gz vs x2.2.1,x2.2.2)]:List aI)) c6,.slice none 0 0] 47
   intro dL (dt:HI M w dL [fQ,J5,J3,J2,fz,oL w 9 a2 vs c2,il,J1,J0])
   refine z<|aJ<|nx<|rg<|ak J s8<|k<|add J J J J aT<|au (v:=C ((q:Int)+1)) J J<|z ?_
   have cR:HI M w dL [fz,oL w 9 a2 vs c2,il,J1,J0]:=dt.bU [4,5,6,7,8] aw rfl
   refine bB _ ?_ ⟨(q+1),vs,(aH++([((i:Int),(q:Int),x2.1,gz vs x2.2.1,x2.2.2)]:List aI)),a2,c2,a6,c6,J,s4,s5,s6,s7,(bJ J),cR,(by rw[fq aP];omega),(by rw[h1] at *;have e_:=nq cP aP;subst e_;rw[fq aP] at *;first|exact(wU iA p3).1|exact(wT iA p3).1),(by rw[h1,h2] at *;have e_:=nq cP aP;subst e_;rw[fq aP] at *;first|exact(wU iA p3).2|exact(wT iA p3).2)⟩
   rw[fq aP];omega
  have p2:=dF b2
  refine ex<|aW<|bc<|bg<|aJ<|nx<|rg<|ak J s7<|k<|add J J J J aT<|au (v:=C ((i:Int)+1)) J J<|z ?_
  have H9:HI M w w4 [oL w 95 a3 aH c3,oL w 9 a2 vs c2,box aZ #[R a2 vs c2,R a3 aH c3,.slice none 0 0] 47,J1,J0]:=H8.bU [1,2,3,4,5] aw rfl
  refine bB _ ?_ ⟨(i+1),vs,aH,a2,c2,a3,c3,J,s4,s5,s6,(bJ J),H9,aq,(by rw[h1,Bs aq (by rw[fq aP];omega)]),(by rw[h2,Bs aq (by rw[fq aP];omega)])⟩
  omega
 have p1:=dF b1
 refine ex<|aW<|bc<|bg<|cO<|k<|cz H6 2 J dN J s2 aw J<|k<|bt H6 3 J dN J J s1 J J J J ?_
 intro w4 (H7:HI M w w4 [oL w 95 a1 aH c1,oL w 9 a0 vs c0,box aZ #[R a0 vs c0,R a1 aH c1,.slice none 0 0] 47,box aX #[R a0 vs c0,R a1 aH c1,.slice none 0 0] 47,J0])
 refine au (v:=C 0) J J<|av<|rt<|im H7 3 J dN J J J s1 J aw ?_
 have e0:(vs:List ByteArray)=mc h:=by rw[(rM hq).1,h1];unfold yJ;rw[show i=h.length from by omega]
 have e1:(aH:List aI)=cN h:=by rw[(rM hq).2.1,h2];unfold fT;rw[show i=h.length from by omega]
 have e3:(0:Int)=lu h:=by exact(rM hq).2.2.symm
 have bo:=qN (fun (bW:List ByteArray) (dK:List aI) (lH:Int)=>(.tuple #[.agg #[.slice a0 bW.length c0,.slice a1 dK.length c1,.slice none ([]:List Int).length 0],C lH]:Value)) e0 e1 e3
 exact⟨a0,c0,a1,c1,none,0,bo,H7.below,(ani (fun (x_:List ByteArray)=>RV _ _ (.slice a0 x_.length c0) x_) e0).mp (H7.mw 1 J),(ani (fun (x_:List aI)=>RV _ _ (.slice a1 x_.length c1) x_) e1).mp (H7.mw 0 J),(ee _ _)⟩
theorem D9 {val:Int} (hM:eG M w) (dy:cA M w ay ax I) (ac7:aM vr) (alX:aM val):Calls aK 49 #[.agg #[.slice aE aF aD,R ay I ax,.slice aA eU az],C vr,C val] w (cg fun v w'=>v=.tuple #[C (max (gm I vr val) 0),.bool (decide (0≤gm I vr val))]∧Ext w w'):=by
 refine dm 43 Tryz.func49 J J J hM fun f0 ha H=>?_
 have H0:=dS H dy
 have iU:=bf dy
 have i0:f0 0=.agg #[.slice aE aF aD,R ay I ax,.slice aA eU az]:=ha 0 bh
 have i1:f0 1=C vr:=ha 1 bh
 have i2:f0 2=C val:=ha 2 bh
 refine aB<|k<|bx H0 J i0 ?_
 intro aX w0 bT (H1:HI M w w0 [box aX #[.slice aE aF aD,R ay I ax,.slice aA eU az] 47,iL ay I ax])
 refine au (v:=C 0) J J<|au (v:=.bool false) J J<|av<|sq<|aB<|au (v:=C 0) J J<|av<|bk<|lp (fun m f w'=>∃(j:Nat),m=I.length-j∧f 1=C vr∧f 2=C val∧f 3=pV aX 0∧f 8=C (j:Int)∧HI M w w' [box aX #[.slice aE aF aD,R ay I ax,.slice aA eU az] 47,iL ay I ax]∧(j≤I.length)∧((I.take j).any (kF vr val)=false)) _ ⟨0,J,i1,i2,J,(bJ J),H1,aq,bh⟩ ?_
 rintro _ f0 w1 ⟨j,rfl,s0,s1,s2,s3,H2,hk,hs⟩
 refine sq<|aB<|ak J s3<|aS fB J s2<|bl H2 0 J jb J J J<|k<|dP J J js<|k<|lss J J J J<|z<|nx<|cd (b:=decide ((j:Int)<(I.length:Int))) J J (fun b0=>?_)<|fun b0=>?_
 ·
  have p0:=dT b0
  refine sk<|nx<|sq<|bk<|aB<|aS fB J s2<|bl H2 0 J jb J J J<|ak J s3<|k<|ia (H2.rv 1 J) J J J J aq js jy ?_
  intro iC x0 aP ct
  refine aS u7 J J<|k<|ldB ((ct).s2).fst.w ob J J<|ak (v:=.bool x0.2.2.1) J J ?_
  rcases bE (x0.2.2.1) with b1|b1
  ·
   refine aU J J J b1<|fa fB J s2<|aU J J J b1<|lx H2 0 J jb J J J<|aU J J J b1<|mv J s3<|aU J J J b1<|ia (H2.rv 1 J) J J J J aq js jy ?_
   intro rh x1 cP gL
   refine aU J J J b1<|fa tm J J<|aU J J J b1<|mV ((gL).s3).fst.w aV J J ?_
   intro cq
   refine aU J J J b1<|mv J s0<|aU J J J b1<|eql J J J J<|k<|aR J J J J b1 J<|ak (v:=.bool (decide (x1.2.2.2.1=vr))) J J ?_
   rcases bE (decide (x1.2.2.2.1=vr)) with b2|b2
   ·
    have p2:=dT b2
    refine aU J J J b2<|fa fB J s2<|aU J J J b2<|lx H2 0 J jb J J J<|aU J J J b2<|mv J s3<|aU J J J b2<|ia (H2.rv 1 J) J J J J aq js jy ?_
    intro pK x2 iA kR
    refine aU J J J b2<|fa rF J J<|aU J J J b2<|mV (kR).s4.w aV J J ?_
    intro dZ
    refine aU J J J b2<|mv J s1<|aU J J J b2<|eql J J J J<|k<|aR J J J J b2 J<|z<|nx<|cd (b:=decide (x2.2.2.2.2=val)) J J (fun b3=>?_)<|fun b3=>?_
    ·
     refine aB<|ak J s3<|au (v:=C (j:Int)) J J<|au (v:=.bool true) J J<|av<|rt<|bQ<|aL<|dU<|bQ<|aL<|r2 J J J ?_
     have e0:((j:Int):Int)=(max (gm I vr val) 0):=by have e1:=nq cP aP;subst e1;have e2:=nq iA aP;subst e2;have h_:=Ro aP b1 b2 b3 hs;omega
     have e1:(true:Bool)=decide (0≤gm I vr val):=by have e1:=nq cP aP;subst e1;have e2:=nq iA aP;subst e2;have h_:=Ro aP b1 b2 b3 hs;symm;rw[ank];omega
     have bo:=nA (fun (bW:Int) (dK:Bool)=>(.tuple #[C bW,.bool dK]:Value)) e0 e1
     exact⟨bo,H2.below⟩
    have p3:=dF b3
    refine sk<|aJ<|nx<|rg<|ak J s3<|k<|add J J J J aT<|au (v:=C ((j:Int)+1)) J J<|z<|bB _ ?_ ⟨(j+1),J,s0,s1,s2,(bJ J),H2,aq,(by have e1:=nq cP aP;subst e1;first|exact po aP hs (OF b2)|(have e2:=nq iA aP;subst e2;exact po aP hs (OE b3)))⟩
    omega
   have p2:=dF b2
   refine aO J J J b2<|aO J J J b2<|aO J J J b2<|aO J J J b2<|aO J J J b2<|aO J J J b2<|aO J J J b2<|aO J J J b2<|k<|cJ J J J J b2 J<|av<|oQ J J J<|sk<|aJ<|nx<|rg<|ak J s3<|k<|add J J J J aT<|au (v:=C ((j:Int)+1)) J J<|z<|bB _ ?_ ⟨(j+1),J,s0,s1,s2,(bJ J),H2,aq,(by have e1:=nq cP aP;subst e1;first|exact po aP hs (OF b2)|(have e2:=nq iA aP;subst e2;exact po aP hs (OE b3)))⟩
   omega
  refine aO J J J b1<|aO J J J b1<|aO J J J b1<|aO J J J b1<|aO J J J b1<|aO J J J b1<|aO J J J b1<|aO J J J b1<|k<|cJ J J J J b1 J<|ak (v:=.bool false) J J<|aO J J J J<|aO J J J J<|aO J J J J<|aO J J J J<|aO J J J J<|aO J J J J<|aO J J J J<|aO J J J J<|k<|cJ J J J J J J<|av<|oQ J J J<|sk<|aJ<|nx<|rg<|ak J s3<|k<|add J J J J aT<|au (v:=C ((j:Int)+1)) J J<|z<|bB _ ?_ ⟨(j+1),J,s0,s1,s2,(bJ J),H2,aq,(by exact po aP hs (Z3 b1))⟩
  omega
 have p0:=dF b0
 refine ex<|aW<|bc<|bg<|cO<|au (v:=C 0) J J<|au (v:=.bool false) J J<|av<|rt<|r2 J J J ?_
 have e0:(0:Int)=(max (gm I vr val) 0):=by have h_:=NS hs aq;omega
 have e1:(false:Bool)=decide (0≤gm I vr val):=by have h_:=NS hs aq;symm;rw[anw];omega
 have bo:=nA (fun (bW:Int) (dK:Bool)=>(.tuple #[C bW,.bool dK]:Value)) e0 e1
 exact⟨bo,H2.below⟩
theorem Nq (hM:eG M w) (dy:cA M w ay ax I):Calls aK 24 #[.agg #[.slice aE aF aD,R ay I ax,.slice aA eU az]] w (cg fun v w'=>v=.tuple #[C ((cT I).1),C ((cT I).2.1),C ((cT I).2.2)]∧Ext w w'):=by
 refine dm 43 Tryz.func24 J J J hM fun f0 ha H=>?_
 let J0:=iL ay I ax
 have H0:=H.put (it:=J0) J<|by rw[bN];exact dy
 have iU:=bf dy
 have i0:f0 0=.agg #[.slice aE aF aD,R ay I ax,.slice aA eU az]:=ha 0 bh
 refine aB<|k<|bx H0 J i0 ?_
 intro aX w0 bT (H1:HI M w w0 [box aX #[.slice aE aF aD,R ay I ax,.slice aA eU az] 47,J0])
 let J1:=box aX #[.slice aE aF aD,R ay I ax,.slice aA eU az] 47
 refine au (v:=C 0) J J<|au (v:=C 0) J J<|au (v:=C 0) J J<|av<|sq<|aB<|au (v:=C 0) J J<|av<|bk<|lp (fun m f w'=>∃(j:Nat),m=I.length-j∧f 1=pV aX 0∧f 5=C (j:Int)∧HI M w w' [J1,J0]∧(j≤I.length)∧(∀k,k<j→nG I k=false)) _ ⟨0,J,J,(bJ J),H1,aq,(by intro k hk;omega)⟩ ?_
 rintro _ f0 w1 ⟨j,rfl,s0,s1,H2,hk,hs⟩
 refine sq<|aB<|ak J s1<|aS fB J s0<|bl H2 0 J jb J J J<|k<|dP J J js<|k<|lss J J J J<|z<|nx<|cd (b:=decide ((j:Int)<(I.length:Int))) J J (fun b0=>?_)<|fun b0=>?_
 ·
  have p0:=dT b0
  refine sk<|nx<|sq<|bk<|aB<|aS fB J s0<|bl H2 0 J jb J J J<|ak J s1<|k<|ia (H2.rv 1 J) J J J J aq js jy ?_
  intro iC x0 aP ct
  refine k<|nt ct.w jy J J ?_
  intro v0 cq
  obtain⟨_,⟨_,_,rfl,⟨rfl,dZ⟩,⟨_,_,rfl,⟨rfl,dY⟩,⟨_,_,rfl,rfl,⟨_,_,rfl,⟨rfl,fu⟩,⟨rfl,je⟩⟩⟩⟩⟩,rfl⟩:=cq
  refine k<|al H2 jy ?_
  intro aZ w2 da (H3:HI M w w2 [box aZ #[C 0,C 0,.bool false,C 0,C 0] 95,J1,J0])
  refine k<|bt H3 0 J jy J J J J J J J ?_
  intro w3 (H4:HI M w w3 [box aZ #[C x0.1,C x0.2.1,.bool x0.2.2.1,C x0.2.2.2.1,C x0.2.2.2.2] 95,J1,J0])
  refine av<|sq<|aB<|aS u7 J J<|bl H4 0 J ob J J J<|k<|jI J J<|z<|nx<|cd (b:=!x0.2.2.1) J J (fun b1=>?_)<|fun b1=>?_
  ·
   refine ex<|aW<|bg<|nx<|rg<|ak J s1<|k<|add J J J J aT<|au (v:=C ((j:Int)+1)) J J<|z ?_
   have H5:HI M w w3 [J1,J0]:=H4.bU [1,2] aw rfl
   refine bB _ ?_ ⟨(j+1),J,s0,(bJ J),H5,aq,(by exact Bp hs aP (MI<|by simpa using b1))⟩
   omega
  refine sk<|nx<|sq<|aB<|aS rF J J<|bl H4 0 J aV J J J<|k<|eql J J J J<|z<|nx<|cd (b:=decide (x0.2.2.2.2=0)) J J (fun b2=>?_)<|fun b2=>?_
  ·
   have p2:=dT b2
   refine aB<|ak J s1<|ak J s1<|au (v:=C (j:Int)) J J<|au (v:=C (j:Int)) J J<|au (v:=C 5) J J<|av<|rt<|aL<|bQ<|aL<|dU<|bQ<|aL<|r3 J J J J ?_
   have e0:((j:Int):Int)=(cT I).1:=by exact(ani (fun z_:Int×Int×Int=>z_.1) (uv hs aP (by simpa using b1) p2)).symm
   have e1:((j:Int):Int)=(cT I).2.1:=by exact(ani (fun z_:Int×Int×Int=>z_.2.1) (uv hs aP (by simpa using b1) p2)).symm
   have e2:(5:Int)=(cT I).2.2:=by exact(ani (fun z_:Int×Int×Int=>z_.2.2) (uv hs aP (by simpa using b1) p2)).symm
   have bo:=qN (fun (bW:Int) (dK:Int) (gA:Int)=>(.tuple #[C bW,C dK,C gA]:Value)) e0 e1 e2
   exact⟨bo,H4.below⟩
  have p2:=dF b2
  refine sk<|cO<|k<|cz H4 1 J dN J s0 aw J<|aS tm J J<|bl H4 0 J aV J J J<|aS rF J J<|bl H4 0 J aV J J J<|k ?_
  have bP:=D9 (I:=I) (vr:=x0.2.2.2.1) (val:=x0.2.2.2.2) (aE:=aE) (aF:=aF) (aD:=aD) (aA:=aA) (eU:=eU) (az:=az) H4.mb (H4.rv 2 J) fu je
  refine ca adw J (ec J<|ec J<|ec J e0) bP ?_
  rintro _ w4 ⟨rfl,eR⟩
  have H5:=H4.ext eR
  refine ak (v:=.tuple #[C (max (gm I x0.2.2.2.1 x0.2.2.2.2) 0),.bool (decide (0≤gm I x0.2.2.2.1 x0.2.2.2.2))]) J J<|k<|xt J J J<|k<|xt J J J<|au (v:=C (max (gm I x0.2.2.2.1 x0.2.2.2.2) 0)) J J<|au (v:=.bool (decide (0≤gm I x0.2.2.2.1 x0.2.2.2.2))) J J<|bp<|ak (v:=C (max (gm I x0.2.2.2.1 x0.2.2.2.2) 0)) J J<|ak J s1<|k<|lss J J J J<|z<|nx<|cd (b:=decide ((max (gm I x0.2.2.2.1 x0.2.2.2.2) 0)<(j:Int))) J J (fun b3=>?_)<|fun b3=>?_
  ·
   have p3:=dT b3
   refine aB<|ak (v:=C (max (gm I x0.2.2.2.1 x0.2.2.2.2) 0)) J J<|ak J s1<|au (v:=C (max (gm I x0.2.2.2.1 x0.2.2.2.2) 0)) J J<|au (v:=C (j:Int)) J J<|au (v:=C 4) J J<|av<|rt<|bQ<|aL<|dU<|bQ<|aL<|r3 J J J J ?_
   have e0:((max (gm I x0.2.2.2.1 x0.2.2.2.2) 0):Int)=(cT I).1:=by exact(ani (fun z_:Int×Int×Int=>z_.1) (sC hs aP (by simpa using b1) p2 p3)).symm
   have e1:((j:Int):Int)=(cT I).2.1:=by exact(ani (fun z_:Int×Int×Int=>z_.2.1) (sC hs aP (by simpa using b1) p2 p3)).symm
   have e2:(4:Int)=(cT I).2.2:=by exact(ani (fun z_:Int×Int×Int=>z_.2.2) (sC hs aP (by simpa using b1) p2 p3)).symm
   have bo:=qN (fun (bW:Int) (dK:Int) (gA:Int)=>(.tuple #[C bW,C dK,C gA]:Value)) e0 e1 e2
   exact⟨bo,H5.below⟩
  have p3:=dF b3
  refine sk<|aJ<|nx<|rg<|ak J s1<|k<|add J J J J aT<|au (v:=C ((j:Int)+1)) J J<|z ?_
  have H6:HI M w w4 [J1,J0]:=H5.bU [1,2] aw rfl
  refine bB _ ?_ ⟨(j+1),J,s0,(bJ J),H6,aq,(by exact Bp hs aP (MJ p2 p3))⟩
  omega
 have p0:=dF b0
 refine ex<|aW<|bc<|bg<|cO<|au (v:=C 0) J J<|au (v:=C 0) J J<|au (v:=C 0) J J<|av<|rt<|r3 J J J J ?_
 have e0:(0:Int)=(cT I).1:=by exact(ani (fun z_:Int×Int×Int=>z_.1) (uw hs aq)).symm
 have e1:(0:Int)=(cT I).2.1:=by exact(ani (fun z_:Int×Int×Int=>z_.2.1) (uw hs aq)).symm
 have e2:(0:Int)=(cT I).2.2:=by exact(ani (fun z_:Int×Int×Int=>z_.2.2) (uw hs aq)).symm
 have bo:=qN (fun (bW:Int) (dK:Int) (gA:Int)=>(.tuple #[C bW,C dK,C gA]:Value)) e0 e1 e2
 exact⟨bo,H2.below⟩
theorem TD:gO aK 95 0 0:=⟨_,_,Tryz.underlying95,rfl,rfl,aC⟩
theorem adJ:gO aK 95 1 1:=⟨_,_,Tryz.underlying95,rfl,rfl,aC⟩
theorem PK (hM:eG M w) (dy:cA M w ay ax I) (ho:gX I) (du:I.length≤4096):Calls aK 97 #[.agg #[.slice aE aF aD,R ay I ax,.slice aA eU az]] w (cg fun v w'=>∃(a0:OA) (c0:Nat),v=.agg #[C (I.length:Int),.slice a0 (oG I).length c0]∧Ext w w'∧bj M 144 w (oG I) (.slice a0 (oG I).length c0) w'):=by
 refine dm 49 Tryz.func97 J J J hM fun f0 ha H=>?_
 let J0:=iL ay I ax
 have H0:=H.put (it:=J0) J<|by rw[bN];exact dy
 have iU:=bf dy
 have i0:f0 0=.agg #[.slice aE aF aD,R ay I ax,.slice aA eU az]:=ha 0 bh
 refine aB<|k<|bx H0 J i0 ?_
 intro aX w0 bT (H1:HI M w w0 [box aX #[.slice aE aF aD,R ay I ax,.slice aA eU az] 47,J0])
 let J1:=box aX #[.slice aE aF aD,R ay I ax,.slice aA eU az] 47
 refine k<|al H1 bm ?_
 intro aZ w1 da (H2:HI M w w1 [box aZ #[C 0,.slice none 0 0] 26,J1,J0])
 let J2:=box aZ #[C 0,.slice none 0 0] 26
 refine bp<|aS fB J J<|bl H2 1 J jb J J J<|k<|dP J J js<|k ?_
 have bP:=Oz (n:=(I.length:Int)) H2.mb aT
 refine ca GH J (ec J e0) bP ?_
 rintro _ w2 ⟨a0,c0,rfl,eR,cq⟩
 have H3:=H2.eL cq
 refine ak (v:=.tuple #[.agg #[C (ou (I.length:Int)),R a0 (iK (I.length:Int)) c0],C (rN (I.length:Int))]) J J<|k<|xt J J J<|k<|xt J J J<|k<|al H3 bm ?_
 let ba:=[oL w 144 a0 (iK (I.length:Int)) c0,J2,J1,J0]
 intro bD w3 fH (H4:HI M w w3 (box bD #[C 0,.slice none 0 0] 26::ba))
 refine k<|bt H4 0 J bm J J J J J J J ?_
 let J3:=box bD #[C (ou (I.length:Int)),R a0 (iK (I.length:Int)) c0] 26
 intro w4 (H5:HI M w w4 (J3::ba))
 refine au (v:=C (rN (I.length:Int))) J J<|av<|sq<|sq ?_
 have VY:Cw (I.length:Int)=true:=sh.2 aq
 obtain⟨en,er, -⟩:=xf VY
 refine rg<|aS fB J J<|bl H5 3 J jb J J J<|k<|dP J J js<|k<|sub J J J J aT<|au (v:=C ((I.length:Int)-2)) J J<|av<|bk<|lp (fun m f w'=>∃(j:Nat) (xs:List (List bY)),m=I.length-j∧f 1=pV aX 0∧f 2=pV aZ 0∧f 3=pV bD 0∧f 5=C ((I.length:Int)-2-(j:Int))∧HI M w w' [J3,own w.heap.size 144 (.slice a0 (iK (I.length:Int)).length c0) xs,J2,J1,J0]∧(j≤I.length)∧(xs.length=I.length)∧(xs=yY I ((I.length:Int)-2-(j:Int)))) _ ⟨0,(iK (I.length:Int)),J,J,J,J,(bJ J),H5,aq,(by rw[er,pR];simp),(by rw[er];exact P7 _ _ aq)⟩ ?_
 rintro _ f0 w5 ⟨j,xs,rfl,s0,s1,s2,s3,H6,hk,hl,hs⟩
 refine sq<|aB<|ak J s3<|k<|geq J J J J<|z<|nx<|cd (b:=decide (0≤((I.length:Int)-2-(j:Int)))) J J (fun b0=>?_)<|fun b0=>?_
 ·
  have p0:=dT b0
  refine sk<|nx<|sq<|bk<|sq<|BT J aC<|kq (fun _ _=>fa fB J s0 e1)<|kq (fun _ x_=>lx (H6.ext x_) 3 J jb J J J e1)<|kq (fun _ _=>mv J s3 e1)<|ub (H6.rv 4 J) J J J J aq js jy ?_
  intro iC x0 aP ct
  refine kq (fun _ _=>fa TD J J e1)<|pc (ct).fst.w aV J J ?_
  intro dZ
  refine kq (fun _ _=>fa fB J s0 e1)<|kq (fun _ x_=>lx (H6.ext x_) 3 J jb J J J e1)<|kq (fun _ _=>mv J s3 e1)<|kq (fun _ _=>add J J J J aT e1)<|ub (H6.rv 4 J) J J J J aq js jy ?_
  intro rh x1 cP gL
  refine kq (fun _ _=>fa TD J J e1)<|pc (gL).fst.w aV J J ?_
  intro dY
  refine kq (fun _ _=>eql J J J J e1)<|zq ?_
  intro w6 ja
  have H7:=H6.ext ja
  refine nx<|cd (b:=decide (x0.1=x1.1)) J J (fun b1=>?_)<|fun b1=>?_
  ·
   have p1:=dT b1
   refine mg [.r,.r,.r,.r,.r,.r,.r,.r,.r,.r,.r,.r,.e,.e] (fun _=>True) J aC (fun _ _=>trivial)<|yq J J<|kq (fun _ _=>fa iw J s2 e1)<|bM<|kq (fun _ x_=>lx (H7.ext x_) 0 J kW J J J e1)<|bM<|kq (fun _ _=>mv J s3 e1)<|bM<|kq (fun _ _=>fa iw J s2 e1)<|bM<|kq (fun _ x_=>lx (H7.ext x_) 0 J kW J J J e1)<|bM<|kq (fun _ _=>mv J s3 e1)<|bM<|kq (fun _ _=>add J J J J aT e1)<|bM<|sV (H7.at_ 1 J) J J J J aq ib de ?_
   intro pK x2 iA kR
   refine bM<|F5 kR de J J ?_
   intro a1 c1 fu
   have zV:=bf fu
   have H8:=dS H7 fu
   refine bM<|kq (fun _ _=>mv J s3 e1)<|bM<|kq (fun _ _=>add J J J J aT e1)<|zq<|yu J (fun _ v w'=>∃(a2:OA) (c2:Nat),v=R a2 (eb x2<|((I.length:Int)-2-(j:Int))+1) c2∧RV H7.fV w' (R a2 (eb x2<|((I.length:Int)-2-(j:Int))+1) c2) (eb x2<|((I.length:Int)-2-(j:Int))+1)) J jk J (fun v_ _ x_ _=>have fS:=tY (r:=x2) (i:=(((I.length:Int)-2-(j:Int))+1)) (w:=v_) (H8.ext x_).mb ((H8.ext x_).rv 0 rfl) aT (by have h_:=Vc (hs▸iA);have lz:=Ng (n:=I.length) aq;omega);ca Ft rfl (ec J<|ec J e0) fS (fun _ w8 ⟨a3,c3,e_,kb,jd⟩=>⟨_,J,kb,⟨a3,c3,e_,(mK J<|bj.rv jd (H8.ext x_).mb)⟩⟩))<|ye<|ye<|yz ?_
   intro w9 f1 _ ma _ _ cB iN
   have cM:=H8.ext ma
   have s4:=(cB 1 J).trans s0
   have s5:=(cB 2 J).trans s1
   have s6:=(cB 3 J).trans s2
   have s7:=(cB 5 J).trans s3
   have s8:=cB 36 J
   have s9:=cB 37 J
   obtain⟨a4,c4,eo,oC⟩:=iN 0 _ _ rfl
   let J4:=iL a4 (eb x2 (((I.length:Int)-2-(j:Int))+1)) c4
   have dW:=cM.put (it:=J4) J<|by rw[aG J];exact oC
   refine j5<|ij (dW.at_ 3 J) J J s8 s9 aq ib de ?_
   intro g0 x3 iq mW u5
   refine j5<|pt dW 3 J iq J aq de J J J eo (dW.rv 0 J) ?_
   let J5:=own w.heap.size 144 (.slice a0 (iK (I.length:Int)).length c0) (xs.set (((I.length:Int)-2-(j:Int)).toNat) (eb x2 (((I.length:Int)-2-(j:Int))+1)))
   intro dL (dt:HI M w dL [J4,iL a1 x2 c1,J3,J5,J2,J1,J0])
   refine kz<|aJ<|nx<|rg<|ak J s7<|k<|sub J J J J aT<|au (v:=C (((I.length:Int)-2-(j:Int))-1)) J J<|z ?_
   have cR:HI M w dL [J3,J5,J2,J1,J0]:=dt.bU [2,3,4,5,6] aw rfl
   refine bB _ ?_ ⟨(j+1),(xs.set (((I.length:Int)-2-(j:Int)).toNat) (eb x2<|((I.length:Int)-2-(j:Int))+1)),J,s4,s5,s6,(bJ J),cR,aq,(by simpa using hl),(by rw[show ((I.length:Int)-2-(((j+1:Nat):Nat):Int))=((I.length:Int)-2-(j:Int))-1 from by omega];first|((have h_:=kM (t:=((I.length:Int)-2-(j:Int))) aq aq (by rw[gF aP,gF cP];exact p1) (hs▸iA);rw[←h_,←hs]))|((have h_:=kM (t:=((I.length:Int)-2-(j:Int))) aq aq (by rw[gF aP,gF cP];exact p1) (hs▸mW);rw[←h_,←hs]))|((have h_:=kM (t:=((I.length:Int)-2-(j:Int))) aq aq (by rw[gF aP,gF cP];exact p1) (hs▸yr);rw[←h_,←hs]))|((have h_:=kM (t:=((I.length:Int)-2-(j:Int))) aq aq (by rw[gF aP,gF cP];exact p1) (hs▸SK);rw[←h_,←hs]))|((have h_:=kM (t:=((I.length:Int)-2-(j:Int))) aq aq (by rw[gF aP,gF cP];exact p1) (hs▸hx6);rw[←h_,←hs]))|((have h_:=kM (t:=((I.length:Int)-2-(j:Int))) aq aq (by rw[gF aP,gF cP];exact p1) (hs▸hx7);rw[←h_,←hs]))|(rw[hs];exact F9 ho aq aq (by rw[gF aP,gF cP];exact p1)))⟩
   omega
  have p1:=dF b1
  refine sk<|aJ<|nx<|rg<|ak J s3<|k<|sub J J J J aT<|au (v:=C (((I.length:Int)-2-(j:Int))-1)) J J<|z<|bB _ ?_ ⟨(j+1),xs,J,s0,s1,s2,(bJ J),H7,aq,bq,(by rw[show ((I.length:Int)-2-(((j+1:Nat):Nat):Int))=((I.length:Int)-2-(j:Int))-1 from by omega];first|((have h_:=kM (t:=((I.length:Int)-2-(j:Int))) aq aq (by rw[gF aP,gF cP];exact p1) (hs▸iA);rw[←h_,←hs]))|((have h_:=kM (t:=((I.length:Int)-2-(j:Int))) aq aq (by rw[gF aP,gF cP];exact p1) (hs▸mW);rw[←h_,←hs]))|((have h_:=kM (t:=((I.length:Int)-2-(j:Int))) aq aq (by rw[gF aP,gF cP];exact p1) (hs▸yr);rw[←h_,←hs]))|((have h_:=kM (t:=((I.length:Int)-2-(j:Int))) aq aq (by rw[gF aP,gF cP];exact p1) (hs▸SK);rw[←h_,←hs]))|((have h_:=kM (t:=((I.length:Int)-2-(j:Int))) aq aq (by rw[gF aP,gF cP];exact p1) (hs▸hx6);rw[←h_,←hs]))|((have h_:=kM (t:=((I.length:Int)-2-(j:Int))) aq aq (by rw[gF aP,gF cP];exact p1) (hs▸hx7);rw[←h_,←hs]))|(rw[hs];exact F9 ho aq aq (by rw[gF aP,gF cP];exact p1)))⟩
  omega
 have p0:=dF b0
 refine ex<|aW<|bc<|bg<|cO<|k<|cz H6 0 J bm J s2 aw J<|k<|bt H6 2 J bm J J s1 J J J J ?_
 intro w6 (H7:HI M w w6 [J3,own w.heap.size 144 (.slice a0 (iK (I.length:Int)).length c0) xs,box aZ #[C (ou (I.length:Int)),R a0 (iK (I.length:Int)) c0] 26,J1,J0])
 refine av<|rt<|oY H7 2 J bm J J s1 J aw ?_
 have e0:(ou (I.length:Int):Int)=(I.length:Int):=by rw[en]
 have e1:(xs:List (List bY))=oG I:=by rw[hs];exact Vd aq
 have l1:(iK (I.length:Int)).length=(oG I).length:=by rw[er,pR,ZB];simp
 have bo:=nA (fun (bW:Int) (uS:Nat)=>(.agg #[C bW,.slice a0 uS c0]:Value)) e0 l1
 exact⟨a0,c0,bo,H7.below,(ani (fun (n_:Nat)=>bj _ _ _ (oG I) (.slice a0 n_ c0) _) l1).mp ((ani (fun (x_:List (List bY))=>bj _ _ _ x_ (.slice a0 (iK (I.length:Int)).length c0) _) e1).mp (H7.df 1 J))⟩
theorem K6 {tt:Int} (hM:eG M w) (dy:cA M w ay ax I) (amC:aM tt) (ho:gX I) (du:I.length≤4096):Calls aK 108 #[.agg #[.slice aE aF aD,R ay I ax,.slice aA eU az],C tt] w (cg fun v w'=>∃(a0:OA) (c0:Nat),v=.slice a0 (cw I tt).length c0∧Ext w w'∧bj M 3 w (cw I tt) (.slice a0 (cw I tt).length c0) w'):=by
 refine dm 41 Tryz.func108 J J J hM fun f0 ha H=>?_
 let J0:=iL ay I ax
 have H0:=H.put (it:=J0) J<|by rw[bN];exact dy
 have iU:=bf dy
 have i0:f0 0=.agg #[.slice aE aF aD,R ay I ax,.slice aA eU az]:=ha 0 bh
 have i1:f0 1=C tt:=ha 1 bh
 refine aB<|k<|bx H0 J i0 ?_
 intro aX w0 bT (H1:HI M w w0 [box aX #[.slice aE aF aD,R ay I ax,.slice aA eU az] 47,J0])
 let J1:=box aX #[.slice aE aF aD,R ay I ax,.slice aA eU az] 47
 refine au (v:=.slice none 0 0) J J<|av<|sq<|aB<|ak J i1<|k<|lss J J J J<|ak (v:=.bool (decide (tt<0))) J J ?_
 rcases bE (decide (tt<0)) with b0|b0
 ·
  have p0:=dT b0
  refine aO J J J b0<|aO J J J b0<|aO J J J b0<|aO J J J b0<|aO J J J b0<|k<|aR J J J J b0 J<|av<|nS J J J<|aB<|au (v:=.slice none 0 0) J J<|av<|rt<|aL<|r1 J J ?_
  have e0:([]:List Int)=cw I tt:=by exact E8 aq
  have bo:=iB (fun (bW:List Int)=>(.slice none bW.length 0:Value)) e0
  exact⟨none,0,bo,H1.below,(ani (fun (x_:List Int)=>bj _ _ _ x_ (.slice none x_.length 0) _) e0).mp (fN H1.below)⟩
 have p0:=dF b0
 refine aU J J J b0<|mv J i1<|aU J J J b0<|fa fB J J<|aU J J J b0<|lx H1 0 J jb J J J<|aU J J J b0<|dP J J js<|aU J J J b0<|geq J J J J<|k<|cJ J J J J b0 J<|z<|nx<|cd (b:=decide ((I.length:Int)≤tt)) J J (fun b1=>?_)<|fun b1=>?_
 ·
  have p1:=dT b1
  refine aB<|au (v:=.slice none 0 0) J J<|av<|rt<|aL<|r1 J J ?_
  have e0:([]:List Int)=cw I tt:=by exact E8 aq
  have bo:=iB (fun (bW:List Int)=>(.slice none bW.length 0:Value)) e0
  exact⟨none,0,bo,H1.below,(ani (fun (x_:List Int)=>bj _ _ _ x_ (.slice none x_.length 0) _) e0).mp (fN H1.below)⟩
 have p1:=dF b1
 refine sk<|cO<|ak J i1<|aS fB J J<|bl H1 0 J jb J J J<|ak J i1<|k<|ia (H1.rv 1 J) J J J J aq js jy ?_
 intro iC x0 aP ct
 refine aS adJ J J<|k<|mV ((ct).s1).fst.w aV J J ?_
 intro cq
 refine k<|sub J J J J (by have CL:=ho.zU tt.toNat aq;have VX:=(ho.back tt.toNat aq).1;rw[HF aP] at CL VX;unfold aM;omega)<|au (v:=C (tt-x0.2.1)) J J<|av<|sq ?_
 have CL:=ho.zU tt.toNat aq
 have VX:=(ho.back tt.toNat aq).1
 rw[HF aP] at CL VX
 refine rg<|ak J i1<|ak (v:=C (tt-x0.2.1)) J J<|k<|sub J J J J aT<|k<|add J J J J aT<|k ?_
 have n0:((((tt-(tt-x0.2.1))+1).toNat:Nat):Int)=(tt-(tt-x0.2.1))+1:=anX aq
 refine mk0 (α:=Int) (m:=((tt-(tt-x0.2.1))+1).toNat) H1 J J J (by rw[n0];exact rfl) cK aV aq aq ?_
 intro g0 w1 da (H2:HI M w w1 [own w.heap.size 3 (.slice (some ⟨g0,0,none⟩) 0 (((tt-(tt-x0.2.1))+1).toNat)) ([]:List Int),J1,J0])
 refine au (v:=.slice (some ⟨g0,0,none⟩) 0 (((tt-(tt-x0.2.1))+1).toNat)) J J<|av<|sq<|aB<|ak (v:=C (tt-x0.2.1)) J J<|au (v:=C (tt-x0.2.1)) J J<|av<|bk<|lp (fun m f w'=>∃(q:Nat) (xs:List Int) (a0:OA) (c0:Nat),m=(x0.2.1+1).toNat-q∧f 1=C tt∧f 6=R a0 xs c0∧f 7=C (tt-x0.2.1+(q:Int))∧HI M w w' [oL w 3 a0 xs c0,J1,J0]∧((q:Int)≤x0.2.1+1)∧(xs=uN (tt-x0.2.1) q)) _ ⟨0,([]:List Int),(some ⟨g0,0,none⟩),(((tt-(tt-x0.2.1))+1).toNat),J,i1,J,(bJ J),H2,aq,(by rfl)⟩ ?_
 rintro _ f0 w2 ⟨q,xs,a0,c0,rfl,s0,s1,s2,H3,so,hs⟩
 refine sq<|aB<|ak J s2<|ak J s0<|k<|leq J J J J<|z<|nx<|cd (b:=decide ((tt-x0.2.1+(q:Int))≤tt)) J J (fun b2=>?_)<|fun b2=>?_
 ·
  have p2:=dT b2
  refine sk<|nx<|sq<|bk<|rg<|ak J s1<|ak J s2<|k<|bs (xs:=([(tt-x0.2.1+(q:Int))]:List Int)) (cells:=#[C (tt-x0.2.1+(q:Int))]) (e:=3) H3 J (cj J eh) (fun _=>aC) ⟨[C (tt-x0.2.1+(q:Int))],[],J,⟨J,(show aM ((tt-x0.2.1+(q:Int))) from aT)⟩,J⟩ J aw ?_
  intro g1 w3 eR H4
  refine k<|lA H4 1 J J J J J J (gP<|H4.at_ 0 J) cK aV J (by rw[hs,P_];simp only[iM,gr];omega) J ?_
  intro a1 c1 w4 (H5:HI M w w4 [own w.heap.size 3 (.slice (some ⟨g1,0,none⟩) 1 1) ([(tt-x0.2.1+(q:Int))]:List Int),oL w 3 a1 (xs++([(tt-x0.2.1+(q:Int))]:List Int)) c1,J1,J0])
  refine au (v:=R a1 (xs++([(tt-x0.2.1+(q:Int))]:List Int)) c1) J J<|z<|aJ<|nx<|rg<|ak J s2<|k<|add J J J J aT<|au (v:=C ((tt-x0.2.1+(q:Int))+1)) J J<|z ?_
  have H6:HI M w w4 [oL w 3 a1 (xs++([(tt-x0.2.1+(q:Int))]:List Int)) c1,J1,J0]:=H5.bU [1,2,3] aw rfl
  refine bB _ ?_ ⟨(q+1),(xs++([(tt-x0.2.1+(q:Int))]:List Int)),a1,c1,J,s0,J,(bJ J),H6,aq,(by rw[hs];exact Nw _ _)⟩
  omega
 have p2:=dF b2
 refine ex<|aW<|bc<|bg<|cO<|ak J s1<|au (v:=R a0 xs c0) J J<|av<|rt<|r1 J J ?_
 have e0:(xs:List Int)=cw I tt:=by rw[hs];exact Se aq aq aP CL aq
 have bo:=iB (fun (bW:List Int)=>(.slice a0 bW.length c0:Value)) e0
 exact⟨a0,c0,bo,H3.below,(ani (fun (x_:List Int)=>bj _ _ _ x_ (.slice a0 x_.length c0) _) e0).mp (H3.df 0 J)⟩
theorem afY:cu aK 108:=⟨_,_,Tryz.func108,rfl,aC⟩
theorem afX:cu aK 109:=⟨_,_,Tryz.func109,rfl,aC⟩
theorem Co (hM:eG M w) (dy:cA M w ay ax I) (tO:aM o) (ho:gX I) (du:I.length≤4096):Calls aK 68 #[.agg #[.slice aE aF aD,R ay I ax,.slice aA eU az],C o] w (cg fun v w'=>∃(a0:OA) (c0:Nat),v=.slice a0 (aY (fJ I) (cw I o)).length c0∧Ext w w'∧bj M 3 w (aY (fJ I) (cw I o)) (.slice a0 (aY (fJ I) (cw I o)).length c0) w'):=by
 refine dm 10 Tryz.func68 J J J hM fun f0 ha H=>?_
 let J0:=iL ay I ax
 have H0:=H.put (it:=J0) J<|by rw[bN];exact dy
 have i0:f0 0=.agg #[.slice aE aF aD,R ay I ax,.slice aA eU az]:=ha 0 bh
 have i1:f0 1=C o:=ha 1 bh
 refine aB<|k<|bx H0 J i0 ?_
 intro aX w0 bT (H1:HI M w w0 [box aX #[.slice aE aF aD,R ay I ax,.slice aA eU az] 47,J0])
 let J1:=box aX #[.slice aE aF aD,R ay I ax,.slice aA eU az] 47
 refine au (v:=.slice none 0 0) J J<|bp<|k<|cz H1 0 J dN J J aw J<|ak J i1<|k ?_
 have bP:=K6 (I:=I) (tt:=o) (aE:=aE) (aF:=aF) (aD:=aD) (aA:=aA) (eU:=eU) (az:=az) H1.mb (H1.rv 1 J) tO aq aq
 refine ca afY J (ec J<|ec J e0) bP ?_
 rintro _ w1 ⟨a0,c0,rfl,da,cq⟩
 have H2:=H1.eL cq
 refine k<|mf J<|k ?_
 have H3:HI M w w1 ([oL w 3 a0 (cw I o) c0]++[J1,J0]):=H2.bU [0,1,2] aw rfl
 have cS:=oO (dR:=a0) (dJ:=c0) (xs:=(cw I o)) (qf:=109) (qj:=[pV aX 0]) (p:=(fun (x_:Int)=>fJ I x_)) (w:=w) (w_:=w1) (r:=[J1,J0]) (M:=M) ⟨afX,fun w_ qX H_ x_ th Eh=>P9 (I:=I) (M:=fun _=>False) (fun _ h_=>h_.elim) Eh ((H_.rv 2 J).lift (Up.less fun _ _ h_=>h_.elim)) ⟨H_.at_ 1 rfl,fun h_=>h_⟩ (by obtain⟨j_,GB⟩:=anE.1 th;exact IS ho GB)⟩ H3
 refine ca GI J (ec J<|ec J e0) cS ?_
 rintro _ w2 ⟨rfl,H4⟩
 have H5:HI M w w2 [oL w 3 a0 (aY (fun (x_:Int)=>fJ I x_) (cw I o)) c0,J1,J0]:=H4
 refine au (v:=R a0 (aY (fun (x_:Int)=>fJ I x_)<|cw I o) c0) J J<|av<|rt<|r1 J J ?_
 have e0:((aY (fun (x_:Int)=>fJ I x_) (cw I o)):List Int)=aY (fJ I) (cw I o):=rfl
 have bo:=iB (fun (bW:List Int)=>(.slice a0 bW.length c0:Value)) e0
 exact⟨a0,c0,bo,H5.below,(ani (fun (x_:List Int)=>bj _ _ _ x_ (.slice a0 x_.length c0) _) e0).mp (H5.df 0 J)⟩
theorem zb (hM:eG M w) (fY:aM mn) (gl:cA M w bA bz mr) (xA:cA M w mh mJ l) (bV:bF mn mr=true) (X7:l.length≤1000000000):Calls aK 81 #[.agg #[C mn,R bA mr bz],R mh l mJ] w (cg fun v w'=>∃(a0:OA) (c0:Nat),v=.agg #[C mn,.slice a0 (gi mn mr l).length c0]∧Ext w w'∧bj M 144 w (gi mn mr l) (.slice a0 (gi mn mr l).length c0) w'):=by
 refine dm 73 Tryz.func81 J J J hM fun f0 ha H=>?_
 let J0:=iL bA mr bz
 have H0:=H.put (it:=J0) J<|by rw[bN];exact gl
 let J1:=iL mh l mJ
 have H1:=H0.put (it:=J1) J<|by rw[aG rfl,bN];exact xA
 have np:=bf gl
 have abX:=bf xA
 have i0:f0 0=.agg #[C mn,R bA mr bz]:=ha 0 bh
 have i1:f0 1=R mh l mJ:=ha 1 bh
 have tK:=(bO bV).1;have Jl:=(bO bV).2.2.1;have Ep:=kL bV
 refine aB<|k<|bx H1 J i0 ?_
 let ba:=[J1,J0]
 intro aX w0 bT (H2:HI M w w0 (box aX #[C mn,R bA mr bz] 26::ba))
 let J2:=box aX #[C mn,R bA mr bz] 26
 refine k<|al H2 bm ?_
 let bZ:=J2::ba
 intro aZ w1 da (H3:HI M w w1 (box aZ #[C 0,.slice none 0 0] 26::bZ))
 let J3:=box aZ #[C 0,.slice none 0 0] 26
 refine bp<|aS kh J J<|bl H3 1 J aV J J J<|k ?_
 have bP:=DC (n:=mn) H3.mb fY aq
 refine ca QG J (ec J e0) bP ?_
 rintro _ w2 ⟨a0,c0,rfl,eR,cq⟩
 have H4:=H3.eL cq
 refine au (v:=R a0 (d_ mn) c0) J J<|av<|sq<|aB<|ak J i1<|k<|dP J J cK<|ak (v:=C 0) J J<|av<|bk ?_
 have H5:=H4.freeze 0 J
 let J4:=iL a0 (d_ mn) c0
 have H6:=H5.put (it:=J4) J<|H5.rv 0 J
 let dE:=J4::J3::bZ
 refine lp (fun m f w'=>∃(q:Nat) (ry:List bY) (a1:OA) (c1:Nat),m=l.length-q∧f 2=pV aX 0∧f 4=pV aZ 0∧f 5=R a1 ry c1∧f 16=R mh l mJ∧f 17=C (l.length:Int)∧f 18=C (q:Int)∧HI M w w' (iL a1 ry c1::dE)∧(q≤l.length)∧(ry=pd mn.toNat (l.take q))) _ ⟨0,(d_ mn),a0,c0,J,J,J,J,J,J,(bJ J),H6,aq,(by exact VD Ep l)⟩ ?_
 rintro _ f0 w3 ⟨q,ry,a1,c1,rfl,s0,s1,s2,s3,s4,s5,H7,so,hm⟩
 refine aB<|k<|lss J J s5 s4<|av<|sq<|cd (b:=decide ((q:Int)<(l.length:Int))) J J (fun b0=>?_)<|fun b0=>?_
 ·
  have p0:=dT b0
  refine sk<|nx<|sq<|bk<|aB<|k<|ia (H7.rv 4 J) J J s3 s5 aq cK aV ?_
  intro iC x0 aP ct
  refine k<|mV ct.w aV J J ?_
  intro dZ
  refine au (v:=C x0) J J<|bp<|ak (v:=C x0) J J<|aS kh J s0<|bl H7 3 J aV J J J<|k<|lss J J J J<|z<|nx<|cd (b:=decide (x0<mn)) J J (fun b1=>?_)<|fun b1=>?_
  ·
   have p1:=dT b1
   refine rg<|ak J s2<|ak (v:=C x0) J J<|k ?_
   have cS:=tY (r:=ry) (i:=x0) H7.mb (H7.rv 0 J) dZ<|by rw[hm,IZ Ep];have h_:=ER Jl;omega
   refine ca Ft J (ec J<|ec J e0) cS ?_
   rintro _ w4 ⟨a2,c2,rfl,fH,dY⟩
   have H8:=H7.eL dY
   refine au (v:=R a2 (eb ry x0) c2) J J<|z<|aJ<|nx<|rg<|k<|add J J s5 J aT<|ak (v:=C ((q:Int)+1)) J J<|z ?_
   have H9:=H8.freeze 0 J
   have dH:=dS H9<|H9.rv 0 J
   have db:HI M w w4 (iL a2 (eb ry x0) c2::dE):=dH.bU [0,3,4,5,6,7] aw rfl
   refine bB _ ?_ ⟨(q+1),(eb ry x0),a2,c2,J,s0,s1,J,s3,s4,(bJ J),db,aq,(by exact ZQ hm aP aq)⟩
   omega
  have p1:=dF b1
  refine sk<|aJ<|nx<|rg<|k<|add J J s5 J aT<|ak (v:=C ((q:Int)+1)) J J<|z ?_
  have H8:=dS H7<|H7.rv 0 J
  have H9:HI M w w3 (iL a1 ry c1::dE):=H8.bU [0,2,3,4,5,6] aw rfl
  refine bB _ ?_ ⟨(q+1),ry,a1,c1,J,s0,s1,s2,s3,s4,(bJ J),H9,aq,(by exact abP hm aP aq)⟩
  omega
 have p0:=dF b0
 refine ex<|aW<|bc<|bg<|nx<|sq ?_
 have n9:ry=pd mn.toNat l:=by rw[hm,l5 aq]
 refine rg<|aS kh J s0<|bl H7 3 J aV J J J<|k ?_
 have cS:=Fh (n:=mn) H7.mb fY (by exact kL bV)<|by exact(bO bV).2.2.1
 refine ca GH J (ec J e0) cS ?_
 rintro _ w4 ⟨a2,c2,fK,rfl,fH,dZ⟩
 have H8:=H7.F_ dZ
 let J5:=own w.heap.size 144 (.slice a2 mn.toNat c2) fK
 let J6:=iL a1 ry c1
 let iO:=J5::J6::dE
 have H9:HI M w w4 (iO++bC w.heap.size 151 fK (List.replicate mn.toNat (d_ mn))):=H8
 have EW:=dZ.1
 refine ak (v:=.tuple #[.agg #[C mn,.slice a2 mn.toNat c2],C 0]) J J<|k<|xt J J J<|k<|xt J J J<|k<|al H9 bm ?_
 intro bD w5 ja (dH:HI M w w5 ((box bD #[C 0,.slice none 0 0] 26::iO)++bC w.heap.size 151 fK (List.replicate mn.toNat (d_ mn))))
 refine k<|bt dH 0 J bm J J J J J J J ?_
 let J7:=box bD #[C mn,.slice a2 mn.toNat c2] 26
 let fk:=J7::iO
 intro w6 (db:HI M w w6 (fk++bC w.heap.size 151 fK (List.replicate mn.toNat (d_ mn))))
 refine au (v:=C 0) J J<|av<|sq<|aB<|aS iw J J<|bl db 0 J kW J J J<|k<|dP J J ib<|ak (v:=C 0) J J<|av<|bk<|lp (fun m f w'=>∃(i:Nat) (xs:List (List bY)),m=mn.toNat-i∧f 2=pV aX 0∧f 4=pV aZ 0∧f 5=R a1 ry c1∧f 8=pV bD 0∧f 38=C (mn.toNat:Int)∧f 39=C (i:Int)∧HI M w w' (fk++bC w.heap.size 151 fK xs)∧(i≤mn.toNat)∧(fK.length=xs.length)∧(xs=cE mn.toNat (wN (fW mr) l i))∧(xs.length=mn.toNat)) _ ⟨0,(List.replicate mn.toNat<|d_ mn),J,s0,s1,s2,J,J,(bJ J),db,aq,(by exact EW),(by exact UK bV),bh⟩ ?_
 rintro _ f1 w7 ⟨i,xs,rfl,s6,s7,s8,s9,eo,fb,dw,Ya,hl,hs,Eg⟩
 refine aB<|k<|lss J J fb eo<|av<|sq<|cd (b:=decide ((i:Int)<(mn.toNat:Int))) J J (fun b1=>?_)<|fun b1=>?_
 ·
  have p1:=dT b1
  refine sk<|nx<|sq<|bk<|aB<|ak J fb<|au (v:=C (i:Int)) J J<|av<|sq<|aB<|ak J s8<|ak (v:=C (i:Int)) J J<|k ?_
  have fS:=zG (r:=ry) (i:=(i:Int)) dw.mb (dw.rv 2 J) aT
  refine ca Mh J (ec J<|ec J e0) fS ?_
  rintro _ w8 ⟨rfl,ji⟩
  have dz:=dw.ext ji
  refine k<|jI J J<|z<|nx<|cd (b:=!(fg ry (i:Int))) J J (fun b2=>?_)<|fun b2=>?_
  ·
   refine ex<|aW<|bg<|nx<|rg<|k<|add J J fb J aT<|ak (v:=C ((i:Int)+1)) J J<|z<|bB _ ?_ ⟨(i+1),xs,J,s6,s7,s8,s9,eo,(bJ J),dz,aq,(by exact hl),(by exact Ze bV hs n9 aq (by simpa using b2)),(by exact Eg)⟩
   omega
  refine sk<|cO<|aS iw J s6<|bl dz 5 J kW J J J<|ak (v:=C (i:Int)) J J<|k<|ia (dz.rv 7 J) J J J J aq ib de ?_
  intro iC x0 aP ct
  refine k<|te ct.w de J J ?_
  intro a3 c3 dY
  have zV:=bf dY
  have cM:=dS dz dY
  let kJ:=iL a3 x0 c3::fk
  have dW:HI M w w8 (kJ++bC w.heap.size 151 fK xs):=cM
  refine k<|dP J J ic<|ak (v:=C 0) J J<|av<|bk<|lp (fun m f w'=>∃(k_:Nat) (ys:List (List bY)),m=x0.length-k_∧f 2=pV aX 0∧f 4=pV aZ 0∧f 5=R a1 ry c1∧f 8=pV bD 0∧f 10=C (i:Int)∧f 38=C (mn.toNat:Int)∧f 39=C (i:Int)∧f 50=R a3 x0 c3∧f 51=C (x0.length:Int)∧f 52=C (k_:Int)∧HI M w w' (kJ++bC w.heap.size 151 fK ys)∧(k_≤x0.length)∧(fK.length=ys.length)∧(ys=xs.set i (mz x0 ry k_))∧(ys.length=mn.toNat)) _ ⟨0,xs,J,s6,s7,s8,s9,J,eo,fb,J,J,(bJ J),dW,aq,(by exact hl),(by exact aeO bV hs aP),(by exact Eg)⟩ ?_
  rintro _ f2 w9 ⟨k_,ys,rfl,fM,fL,gB,gT,ky,ln,mQ,mP,nM,pv,dt,pB,kQ,gK,zX⟩
  refine aB<|k<|lss J J pv nM<|av<|sq<|cd (b:=decide ((k_:Int)<(x0.length:Int))) J J (fun b3=>?_)<|fun b3=>?_
  ·
   have p3:=dT b3
   refine sk<|nx<|sq<|bk<|sq ?_
   have ml_:ry.length=x0.length:=by rw[n9,IZ Ep,nI bV aP]
   refine rg<|ak J pv<|k<|ia (dt.rv 0 J) J J mP pv aq ic fl ?_
   intro rh x1 cP gL
   refine k<|yo gL.w fl J J<|au (v:=C (k_:Int)) J J<|au (v:=aj x1) J J<|z<|nx ?_
   obtain⟨a4,x2,c4,lT,me⟩:=tX (i:=(i:Int).toNat) dt bq aq
   obtain⟨x4,mW⟩:∃x,ry[(k_:Int).toNat]? =some x:=⟨_,eB aq⟩
   refine dr 12 [eV (pV bD 1),eV (.slice a2 mn.toNat c2),eV (C (i:Int)),fun v w'=>∃(g0:Nat),v=.pointer (some ⟨g0,(i:Int).toNat*1,none⟩)∧(.slice a2 mn.toNat c2:Value).ownBlock=some g0∧hG dt.fV w' ⟨g0,(i:Int).toNat*1,none⟩ (⟨a4,x2.length,c4⟩:SV),eV (R a4 x2 c4),eV (C (k_:Int)),eV (aj x1),eV (R a1 ry c1),eV (C (k_:Int)),fun v w'=>∃(pK:Addr),v=.pointer (some pK)∧At dt.fV w' pK x4,eV (aj x4),eV (aj<|x1 &&& x4)] J aC ?_ ?_
   ·
    refine dc (fun _ _ S_ _ _=>fa iw J ((S_ 8 J).trans gT)<|d0 J J)<|dc (fun _ _ _ ma Jc=>lx (dt.ext ma) 1 J kW J (Jc 0 J J) J<|d0 J J)<|dc (fun _ _ L6 _ _=>mv J ((L6 10 J).trans ky)<|d0 J J) ?_
    refine⟨fun _=>⟨fun f6 iz hf3 tD yx=>?_,by rintro _ _ _ x_ ⟨g0,e_,iq,kR⟩;exact⟨g0,e_,iq,kR.ext x_⟩⟩,?_⟩
    ·
     have cF:=dt.ext tD
     have BD:f6 58=.slice a2 mn.toNat c2:=yx 1 rfl rfl
     have Ca:f6 59=C (i:Int):=yx 2 rfl rfl
     refine ij (cF.at_ 2 J) J J BD Ca aq ib de ?_
     intro g1 x5 kG yr xD
     obtain rfl:(⟨a4,x2.length,c4⟩:SV)=x5:=anm (lT.symm.trans yr)
     exact⟨_,J,Ext.refl _,⟨g1,J,kG,xD⟩⟩
    refine dc (fun f7 jw hf4 Az El=>?_) ?_
    ·
     obtain⟨g2,F4,BF,OS⟩:∃(g2:Nat),f7 60=.pointer (some ⟨g2,(i:Int).toNat*1,none⟩)∧(.slice a2 mn.toNat c2:Value).ownBlock=some g2∧hG dt.fV jw ⟨g2,(i:Int).toNat*1,none⟩ (⟨a4,x2.length,c4⟩:SV):=El 3 rfl rfl
     refine I4 OS de J F4 ?_
     exact⟨_,J,Ext.refl _,J⟩
    refine dc (fun _ _ Yd _ _=>mv J (Yd 11 J)<|d0 J J)<|dc (fun _ _ hf6 _ _=>mv J (hf6 12 J)<|d0 J J)<|dc (fun _ _ hf7 _ _=>mv J ((hf7 5 J).trans gB)<|d0 J J)<|dc (fun _ _ hf8 _ _=>mv J (hf8 11 J)<|d0 J J) ?_
    refine⟨fun _=>⟨fun f12 uE hf9 Pw Ek=>?_,by rintro _ _ _ x_ ⟨pK,e_,u5⟩;exact⟨pK,e_,u5.lift (Up.ext x_)⟩⟩,?_⟩
    ·
     have iI:=dt.ext Pw
     have BC:f12 64=R a1 ry c1:=Ek 7 rfl rfl
     have F3:f12 65=C (k_:Int):=Ek 8 rfl rfl
     refine ia (iI.rv 3 J) J J BC F3 aq ic fl ?_
     intro vn x6 SK Tn
     obtain rfl:x4=x6:=anm (mW.symm.trans SK)
     exact⟨_,J,Ext.refl _,⟨vn,J,Tn⟩⟩
    refine dc (fun f13 xW Bc UI vI=>?_) ?_
    ·
     have iE:=dt.ext UI
     obtain⟨vm,RQ,hA7⟩:∃(vm:Addr),f13 66=.pointer (some vm)∧At dt.fV xW vm x4:=vI 9 rfl rfl
     have kU:=iE.put (it:=qP vm x4) J hA7
     have iD:HI M w xW ((qP vm x4::kJ)++bC w.heap.size 151 fK ys):=kU
     refine yo (iD.atv 0 J).w fl J RQ ?_
     exact⟨_,J,Ext.refl _,J⟩
    refine dc (fun _ _ _ _ Qw=>Df x1 x4 J J (Qw 6 J J) (Qw 10 J J)<|d0 J J) ?_
    exact mj.rest J _
   ·
    intro f15 FW ze ahB LV
    have kT:=dt.ext ahB
    have s31:=(ze 2 J).trans fM
    have s32:=(ze 4 J).trans fL
    have s33:=(ze 5 J).trans gB
    have s34:=(ze 8 J).trans gT
    have s35:=(ze 10 J).trans ky
    have s36:=(ze 38 J).trans ln
    have s37:=(ze 39 J).trans mQ
    have s38:=(ze 50 J).trans mP
    have s39:=(ze 51 J).trans nM
    have s40:=(ze 52 J).trans pv
    have s41:=LV 4 J
    have s42:=LV 5 J
    have s43:=LV 11 J
    refine k<|ij (kT.at_ _<|px lT me) J J s41 s42 (by have h_:=ani List.length (KC bV hs gK aP me);rw[sF] at h_;omega) ic fl ?_
    intro g3 x7 XX hx6 hA8
    refine k<|pt kT _ (px lT me) XX J (by have h_:=ani List.length (KC bV hs gK aP me);rw[sF] at h_;omega) fl J J J s43 (RV.bv.2 J) ?_
    intro Rs j7
    have oq:=HI.zH (M:=fun _=>False) (it:=tg (.int .i64 0) (0:Int)) j7 lT
    have qR:HI M w Rs (kJ++bC w.heap.size 151 fK (ys.set ((i:Int).toNat) (x2.set ((k_:Int).toNat) (x1 &&& x4)))):=oq
    refine z<|aJ<|nx<|rg<|k<|add J J s40 J aT<|ak (v:=C ((k_:Int)+1)) J J<|z<|bB _ ?_ ⟨(k_+1),(ys.set ((i:Int).toNat) (x2.set ((k_:Int).toNat) (x1 &&& x4))),J,s31,s32,s33,s34,s35,s36,s37,s38,s39,(bJ J),qR,aq,(by rw[anj];exact kQ),(by exact Zd bV hs gK aP me cP mW),(by rw[anj];exact zX)⟩
    omega
  have p3:=dF b3
  refine ex<|aW<|bc<|bg<|aJ<|nx<|rg<|k<|add J J mQ J aT<|ak (v:=C ((i:Int)+1)) J J<|z ?_
  have cR:HI M w w9 (fk++bC w.heap.size 151 fK ys):=HI.aR (l:=kJ) (l':=fk) (t:=bC w.heap.size 151 fK ys) dt [1,2,3,4,5,6,7,8] aw rfl rfl
  refine bB _ ?_ ⟨(i+1),ys,J,fM,fL,gB,gT,ln,(bJ J),cR,aq,(by exact kQ),(by exact Zf bV hs gK aP n9 (by simpa using b2) aq),(by exact zX)⟩
  omega
 have p1:=dF b1
 refine ex<|aW<|bc<|bg<|nx<|sq ?_
 have dz:HI M w w7 (own w.heap.size 144 (.slice a2 mn.toNat c2) xs::J7::J6::dE):=HI.deep (l:=(J7::J6::dE)) (HI.aR (l:=fk) (l':=(J5::J7::J6::dE)) (t:=bC w.heap.size 151 fK xs) dw [1,0,2,3,4,5,6,7] aw rfl rfl) bq
 refine rg<|k<|cz dz 1 J bm J s9 aw J<|k<|bt dz 4 J bm J J s7 J J J J ?_
 intro w8 (cM:HI M w w8 [own w.heap.size 144 (.slice a2 mn.toNat c2) xs,J7,J6,J4,box aZ #[C mn,.slice a2 mn.toNat c2] 26,J2,J1,J0])
 refine av<|rt<|oY cM 4 J bm J J s7 J aw ?_
 have e1:(xs:List (List bY))=gi mn mr l:=by exact aaV bV hs aq
 have l1:mn.toNat=(gi mn mr l).length:=by rw[←e1];omega
 have bo:=iB (fun (uS:Nat)=>(.agg #[C mn,.slice a2 uS c2]:Value)) l1
 exact⟨a2,c2,bo,cM.below,(ani (fun (n_:Nat)=>bj _ _ _ (gi mn mr l) (.slice a2 n_ c2) _) l1).mp ((ani (fun (x_:List (List bY))=>bj _ _ _ x_ (.slice a2 mn.toNat c2) _) e1).mp (cM.df 0 J))⟩
theorem Wd:cu aK 68:=⟨_,_,Tryz.func68,rfl,aC⟩
theorem Mi:cu aK 82:=⟨_,_,Tryz.func82,rfl,aC⟩
theorem Wb:cu aK 81:=⟨_,_,Tryz.func81,rfl,aC⟩
theorem afG:cu aK 142:=⟨_,_,Tryz.func142,rfl,aC⟩
theorem We:cu aK 66:=⟨_,_,Tryz.func66,rfl,aC⟩
theorem HB (hM:eG M w) (hT:fP 0 w) (dy:cA M w ay ax I) (fZ:cA M w aA az U) (fY:aM mn) (gl:cA M w bA bz mr) (tO:aM o) (ho:gX I) (du:I.length≤64) (eu:U.length=I.length) (fG:∀x∈U,x<((I.length:Nat):Int)) (BJ:mn=((I.length:Nat):Int)) (BI:mr=cp I U) (nP:0≤o∧o<((I.length:Nat):Int)):Calls aK 106 #[.agg #[.slice aE aF aD,R ay I ax,R aA U az],.agg #[C mn,R bA mr bz],C o] w (cg fun v w'=>∃(es:List dX) (rd:Int) (a0:OA) (c0:Nat) (a1:OA) (c1:Nat),v=.tuple #[.agg #[C ((I.length:Nat):Int),.slice a0 (cU I U o).length c0],R a1 es c1,C rd,C 0]∧Ext w w'∧RV M w' (.slice a0 (cU I U o).length c0) (cU I U o)∧cA M w' a1 c1 es∧es.length≤2000000000∧aM rd∧ot I.length es):=by
 refine dm 66 Tryz.func106 J J J hM fun f0 ha H=>?_
 let J0:=iL ay I ax
 have H0:=H.put (it:=J0) J<|by rw[bN];exact dy
 let J1:=iL aA U az
 have H1:=H0.put (it:=J1) J<|by rw[aG rfl,bN];exact fZ
 let J2:=iL bA mr bz
 have H2:=H1.put (it:=J2) J<|by rw[aG rfl,aG rfl,bN];exact gl
 have iU:=bf dy
 have kE:=bf fZ
 have np:=bf gl
 have i0:f0 0=.agg #[.slice aE aF aD,R ay I ax,R aA U az]:=ha 0 bh
 have i1:f0 1=.agg #[C mn,R bA mr bz]:=ha 1 bh
 have i2:f0 2=C o:=ha 2 bh
 have bV:bF mn mr=true:=by rw[BJ,BI];exact pj U aq
 have lk_:=A8 ho du nP
 refine aB<|k<|bx H2 J i0 ?_
 let ba:=[J2,J1,J0]
 intro aX w0 bT (H3:HI M w w0 (box aX #[.slice aE aF aD,R ay I ax,R aA U az] 47::ba))
 let J3:=box aX #[.slice aE aF aD,R ay I ax,R aA U az] 47
 refine k<|bx H3 J i1 ?_
 let bZ:=J3::ba
 intro aZ w1 da (H4:HI M w w1 (box aZ #[C mn,R bA mr bz] 26::bZ))
 let J4:=box aZ #[C mn,R bA mr bz] 26
 refine k<|al H4 bm ?_
 let dE:=J4::bZ
 intro bD w2 eR (H5:HI M w w2 (box bD #[C 0,.slice none 0 0] 26::dE))
 let J5:=box bD #[C 0,.slice none 0 0] 26
 refine au (v:=.slice none 0 0) J J<|au (v:=C 0) J J<|au (v:=C 0) J J<|av<|sq<|aB<|ak J i2<|k<|lss J J J J<|ak (v:=.bool (decide (o<0))) J J ?_
 have BA:(decide (o<0))=false:=(by rw[anw];omega)
 refine aU J J J BA<|mv J i2<|aU J J J BA<|fa fB J J<|aU J J J BA<|lx H5 2 J jb J J J<|aU J J J BA<|dP J J js<|aU J J J BA<|geq J J J J<|k<|cJ J J J J BA J<|z<|nx ?_
 have KI:(decide ((I.length:Int)≤o))=false:=(by rw[anw];omega)
 refine oQ J J KI<|sk<|cO<|k<|cz H5 2 J dN J J aw J<|ak J i2<|k ?_
 have bP:=Co (I:=I) (o:=o) (aE:=aE) (aF:=aF) (aD:=aD) (aA:=aA) (eU:=U.length) (az:=az) H5.mb (H5.rv 5 J) tO (by exact ho) aq
 refine ca Wd J (ec J<|ec J e0) bP ?_
 rintro _ w3 ⟨a0,c0,rfl,fH,cq⟩
 have H6:=H5.eL cq
 refine au (v:=R a0 (aY (fJ I)<|cw I o) c0) J J<|av<|sq<|mg [.r,.r,.r,.r,.r,.n,.e] (fun _=>True) J aC (fun _ _=>trivial)<|yq J J<|kq (fun _ x_=>cz (H6.ext x_) 2 J bm J J aw J e1)<|bM<|kq (fun _ x_=>cz (H6.ext x_) 2 J bm J J aw J e1)<|bM<|kq (fun _ _=>mv J i2 e1)<|zq<|yu J (fun N v w'=>∃(a1:OA) (c1:Nat),v=R a1 (bL mn mr o) c1∧RV (MN H6.fV N) w' (R a1 (bL mn mr o) c1) (bL mn mr o)) J kO J (fun v_ _ x_ n_=>have fS:=uM (mn:=mn) (mr:=mr) (o:=o) (w:=v_) (kC H6.mb x_ n_) (hT.ext (H6.below.trans x_)) fY (kc (H6.rv 4 J) x_ n_) tO (by exact bV);ca Mi rfl (ec J<|ec J e0) fS (fun _ w5 ⟨a2,c2,e_,ji,fu⟩=>⟨_,J,ji,⟨a2,c2,e_,(bj.rv fu<|kC H6.mb x_ n_)⟩⟩))<|lF J (fun N v w'=>∃(a4:OA) (c4:Nat),v=.agg #[C mn,R a4 (gi mn mr<|bL mn mr o) c4]∧RV (MN H6.fV N) w' (R a4 (gi mn mr<|bL mn mr o) c4) (gi mn mr<|bL mn mr o)) 0 J J kO J (fun v_ _ _ x_ n_ h_=>let ⟨a5,c5,s0,lq⟩:=h_;have kI:=zb (mn:=mn) (mr:=mr) (l:=(bL mn mr o)) (w:=v_) (kC H6.mb x_ n_) fY (kc (H6.rv 4 J) x_ n_) lq (by exact bV) (by have h_:=uD bV o;omega);ca Wb rfl (ec J<|ec s0 e0) kI (fun _ w7 ⟨a6,c6,e_,ma,oC⟩=>⟨_,J,ma,⟨a6,c6,e_,(bj.rv oC<|kC H6.mb x_ n_)⟩⟩))<|yn (z:=#[C 0,.slice none 0 0]) J J (fun _=>Pr bm)<|ye<|yz ?_
 intro w8 f0 _ nr _ _ cB iN
 obtain⟨gM,s1,CS,sy,BH⟩:=iN 0 _ _ rfl
 have pD:=Pg (z:=#[C 0,.slice none 0 0]) (T:=26) CS sy BH<|Ph
 let iO:=oL w 3 a0 (aY (fJ I) (cw I o)) c0::J5::dE
 have H7:HI M w w8 (box gM #[C 0,.slice none 0 0] 26::iO):=H6.DK nr pD (Ow Ov Ox)
 have s2:=cB 3 J
 have s3:=cB 6 J
 have s4:=cB 10 J
 obtain⟨a7,c7,s5,pw⟩:=iN 1 _ _ rfl
 let J6:=iL a7 (gi mn mr (bL mn mr o)) c7
 have H8:=H7.put (it:=J6) J<|rW pw pD
 refine j5<|bt H8 1 J bm J J s1 s5 J J J ?_
 intro w9 (H9:HI M w w9 (J6::box gM #[C mn,R a7 (gi mn mr (bL mn mr o)) c7] 26::iO))
 refine kz<|cO<|au (v:=.slice none 0 0) J J<|bp<|au (v:=C 1) J J<|av<|bk ?_
 have dH:=H9.freeze 2 J
 let J7:=iL a0 (aY (fJ I) (cw I o)) c0
 have db:=dH.put (it:=J7) J<|dH.rv 2 J
 have dw:=db.rl (Int×Int×Int) 122
 have dz:=dw.put (it:=J6) J<|dw.rv 2 J
 let fk:=J7::J5::dE
 refine lp (fun m f w'=>∃(fw:Nat) (cG:Int) (gQ:List (List bY)) (yQ:List dX) (a8:OA) (c8:Nat) (a9:OA) (c9:Nat) (i':OA) (iZ:Nat),m=I.length*I.length-Ie I gQ∧f 3=pV aX 0∧f 6=pV bD 0∧f 10=R a8 (aY (fJ I)<|cw I o) c8∧f 11=pV gM 0∧f 12=R a9 yQ c9∧f 13=C ((fw:Int)+1)∧HI M w w' (iL i' gQ iZ::oL w 122 a9 yQ c9::iL a8 (aY (fJ I)<|cw I o) c8::J6::box gM #[C cG,R i' gQ iZ] 26::fk)∧(JA I U o cG gQ)∧(fw≤Ie I gQ)∧(yQ.length≤262144*fw)∧(ot I.length yQ)) _ ⟨0,mn,(gi mn mr<|bL mn mr o),([]:List dX),a0,c0,none,0,a7,c7,J,s2,s3,s4,s1,J,(bJ J),dz,(by rw[BJ,BI];exact US I U o),(by exact aoD _),(by exact aoD _),(by intro e_ h_;cases h_)⟩ ?_
 rintro _ f1 dL ⟨fw,cG,gQ,yQ,a8,c8,a9,c9,i',iZ,rfl,s6,s7,s8,s9,eo,fb,cM,hs,ah7,amB,ac3⟩
 refine sq<|bk<|sq ?_
 have Ld:=KQ hs aq;have aid:=hs.1
 refine rg<|k<|cz cM 8 J dN J s6 aw J<|k<|cz cM 4 J bm J s9 aw J<|ak J s8<|k ?_
 have nk:=PL (I:=I) (U:=U) (mn:=cG) (mr:=gQ) (kp:=(aY (fJ I)<|cw I o)) (aE:=aE) (aF:=aF) (aD:=aD) cM.mb (hT.ext cM.below) (cM.rv 11 J) (cM.rv 10 J) aT (cM.rv 0 J) (cM.rv 2 J) aq (by exact eu) (by exact fG)<|by exact Ld
 refine ca afG J (ec J<|ec J<|ec J e0) nk ?_
 rintro _ ef ⟨l3,lX,rfl,tD,rk⟩
 have dW:=cM.eL rk
 refine au (v:=R l3 (gD cG gQ (aY (fJ I)<|cw I o)<|cH I U cG gQ) lX) J J<|av<|sq<|aB<|ak (v:=R l3 (gD cG gQ (aY (fJ I)<|cw I o)<|cH I U cG gQ) lX) J J<|k<|dP J J ej<|k<|eql J J J J<|z<|nx<|cd (b:=decide (((gD cG gQ (aY (fJ I)<|cw I o)<|cH I U cG gQ).length:Int)=0)) J J (fun b0=>?_)<|fun b0=>?_
 ·
  have p0:=dT b0
  refine sq ?_
  have ais:=KS gQ I;have ah3:I.length*I.length≤64*64:=Nat.mul_le_mul du du
  have BE:(gD cG gQ (aY (fJ I) (cw I o)) (cH I U cG gQ))=[]:=aok.1 aq
  refine rg<|k<|cz dW 5 J bm J s9 aw J<|ak J eo<|ak J fb<|k<|bt dW 7 J bm J J s7 J J J J ?_
  intro fh (dt:HI M w fh [oL w 122 l3 (gD cG gQ (aY (fJ I) (cw I o)) (cH I U cG gQ)) lX,iL i' gQ iZ,oL w 122 a9 yQ c9,iL a8 (aY (fJ I) (cw I o)) c8,J6,box gM #[C cG,R i' gQ iZ] 26,J7,box bD #[C cG,R i' gQ iZ] 26,J4,J3,J2,J1,J0])
  refine au (v:=R a9 yQ c9) J J<|au (v:=C ((fw:Int)+1)) J J<|au (v:=C 0) J J<|av<|rt<|aL<|bQ<|aL<|dU<|bQ<|rc4 dt 7 J bm J J J J J s7 J aw ?_
  have e0:(cG:Int)=((I.length:Nat):Int):=by exact hs.1
  have e1:(gQ:List (List bY))=cU I U o:=by exact aa' hs eu fG (qM Ld) BE
  have bo:=nA (fun (bW:Int) (dK:List (List bY))=>(.tuple #[.agg #[C bW,.slice i' dK.length iZ],.slice a9 yQ.length c9,C ((fw:Int)+1),C 0]:Value)) e0 e1
  exact⟨yQ,((fw:Int)+1),i',iZ,a9,c9,bo,dt.below,(ani (fun (x_:List (List bY))=>RV _ _ (.slice i' x_.length iZ) x_) e1).mp (dt.fj 1 J),(dt.mw 2 J),aq,(by unfold aM;omega),(by exact ac3)⟩
 have p0:=dF b0
 refine sk<|nx<|sq ?_
 have alW:=KS (lZ cG gQ<|gD cG gQ (aY (fJ I)<|cw I o)<|cH I U cG gQ) I;have ais:=KS gQ I;have ah3:I.length*I.length≤64*64:=Nat.mul_le_mul du du
 have L5:=Tv cG gQ (aY (fJ I)<|cw I o) (cH I U cG gQ);have QB:=(qM (I:=I) (U:=U) Ld).1
 obtain⟨Gw,hc_⟩:=Zo hs eu fG (qM Ld)
 have ac0:=hc_<|by intro h_;have e_:=ani List.length h_;simp only[gr] at e_;unfold kX at e_;omega
 have r6:ot I.length (gD cG gQ (aY (fJ I) (cw I o)) (cH I U cG gQ)):=Xx hs eu fG (qM Ld)
 refine rg<|ak J eo<|ak (v:=R l3 (gD cG gQ (aY (fJ I)<|cw I o)<|cH I U cG gQ) lX) J J<|k<|lA dW 2 J J J J J J (gP<|dW.at_ 0 J) ej cI J aq J ?_
 let J8:=oL w 122 l3 (gD cG gQ (aY (fJ I) (cw I o)) (cH I U cG gQ)) lX
 let J9:=iL i' gQ iZ
 let eC:=iL a8 (aY (fJ I) (cw I o)) c8
 intro a12 nT fh (dt:HI M w fh (J8::J9::oL w 122 a12 (yQ++gD cG gQ (aY (fJ I) (cw I o)) (cH I U cG gQ)) nT::eC::J6::box gM #[C cG,R i' gQ iZ] 26::fk))
 let dO:=oL w 122 a12 (yQ++gD cG gQ (aY (fJ I) (cw I o)) (cH I U cG gQ)) nT
 refine au (v:=R a12 (yQ++gD cG gQ (aY (fJ I)<|cw I o) (cH I U cG gQ)) nT) J J<|bp<|ak (v:=R l3 (gD cG gQ (aY (fJ I)<|cw I o)<|cH I U cG gQ) lX) J J<|k<|dP J J ej<|ak (v:=C 0) J J<|av<|bk ?_
 have cR:=dt.put (it:=J9) J<|dt.rv 1 J
 refine lp (fun m f w'=>∃(q_:Nat) (fR:Int) (fE:List (List bY)) (jP:OA) (jO:Nat),m=(gD cG gQ (aY (fJ I)<|cw I o)<|cH I U cG gQ).length-q_∧f 3=pV aX 0∧f 6=pV bD 0∧f 10=R a8 (aY (fJ I)<|cw I o) c8∧f 11=pV gM 0∧f 12=R a12 (yQ++gD cG gQ (aY (fJ I)<|cw I o) (cH I U cG gQ)) nT∧f 13=C ((fw:Int)+1)∧f 50=R l3 (gD cG gQ (aY (fJ I)<|cw I o)<|cH I U cG gQ) lX∧f 51=C ((gD cG gQ (aY (fJ I)<|cw I o)<|cH I U cG gQ).length:Int)∧f 52=C (q_:Int)∧HI M w w' (iL jP fE jO::J8::J9::dO::eC::J6::box gM #[C fR,R jP fE jO] 26::fk)∧(q_≤(gD cG gQ (aY (fJ I)<|cw I o)<|cH I U cG gQ).length)∧(fR=cG∧fE=lZ cG gQ ((gD cG gQ (aY (fJ I)<|cw I o)<|cH I U cG gQ).take q_))) _ ⟨0,cG,gQ,i',iZ,J,s6,s7,s8,s9,J,fb,J,J,(bJ J),cR,aq,(by exact⟨J,J⟩)⟩ ?_
 rintro _ f2 iz ⟨q_,fR,fE,jP,jO,rfl,fM,fL,gB,gT,ky,ln,mQ,mP,nM,dM,so,n9⟩
 refine aB<|k<|lss J J nM mP<|av<|sq<|cd (b:=decide ((q_:Int)<((gD cG gQ (aY (fJ I)<|cw I o)<|cH I U cG gQ).length:Int))) J J (fun b1=>?_)<|fun b1=>?_
 ·
  have p1:=dT b1
  refine sk<|nx<|sq<|bk<|aB<|k<|ij (dM.at_ 1 J) J J mQ nM aq ej cI ?_
  intro g0 x0 iq aP ct
  refine k<|nt ct cI J J ?_
  intro v0 nZ
  obtain⟨_,⟨_,_,rfl,⟨rfl,mR⟩,⟨_,_,rfl,⟨rfl,pT⟩,⟨rfl,qp⟩⟩⟩,rfl⟩:=nZ
  refine k<|al dM cI ?_
  let kJ:=iL jP fE jO::J8::J9::dO::eC::J6::box gM #[C fR,R jP fE jO] 26::fk
  intro Ap jw Az (dI:HI M w jw (box Ap #[C 0,C 0,C 0] 122::kJ))
  refine k<|bt dI 0 J cI J J J J J J J ?_
  intro pZ (cF:HI M w pZ (box Ap #[C x0.1,C x0.2.1,C x0.2.2] 122::kJ))
  refine av<|rg<|k<|cz cF 7 J bm J gT aw J<|aS kK J J<|bl cF 0 J aV J J J<|aS mM J J<|bl cF 0 J aV J J J<|k ?_
  have Am:=Fj (mn:=fR) (mr:=fE) (i:=x0.1) (j:=x0.2.1) cF.mb aT (cF.rv 1 J) mR pT<|by exact aa_ hs aq r6 n9
  refine ca We J (ec J<|ec J<|ec J e0) Am ?_
  rintro _ uF ⟨la,k0,rfl,Ho,oD⟩
  have dV:=cF.ext Ho
  let fQ:=iL la (gU fR fE x0.1 x0.2.1) k0
  have dG:=dV.put (it:=fQ) J oD
  refine ak (v:=.tuple #[.agg #[C (ie fR x0.1 x0.2.1),R la (gU fR fE x0.1 x0.2.1) k0],C (lC fR x0.1 x0.2.1)]) J J<|k<|xt J J J<|k<|xt J J J<|k<|bt dG 8 J bm J J gT J J J J ?_
  let fz:=box gM #[C (ie fR x0.1 x0.2.1),R la (gU fR fE x0.1 x0.2.1) k0] 26
  intro sM (eS:HI M w sM (fQ::box Ap #[C x0.1,C x0.2.1,C x0.2.2] 122::iL jP fE jO::J8::J9::dO::eC::J6::fz::fk))
  refine z<|aJ<|nx<|rg<|k<|add J J nM J aT<|ak (v:=C ((q_:Int)+1)) J J<|z ?_
  have ff:=eS.put (it:=fQ) J<|eS.rv 0 J
  have ga:HI M w sM (fQ::J8::J9::dO::eC::J6::fz::fk):=ff.bU [0,4,5,6,7,8,9,10,11,12,13,14,15,16] aw rfl
  refine bB _ ?_ ⟨(q_+1),(ie fR x0.1 x0.2.1),(gU fR fE x0.1 x0.2.1),la,k0,J,fM,fL,gB,gT,ky,ln,mQ,mP,(bJ J),ga,aq,(by exact Bu n9 aP (KR aid r6 aP))⟩
  omega
 have p1:=dF b1
 refine ex<|aW<|bc<|bg<|aJ<|nx<|rg<|ak J ln<|k<|add J J J J aT<|au (v:=C (((fw:Int)+1)+1)) J J<|z ?_
 have dI:=dS dM<|dM.rv 0 J
 have cF:=dI.put (it:=eC) J<|dI.rv 5 J
 have dV:HI M w iz (iL jP fE jO::dO::eC::J6::box gM #[C fR,R jP fE jO] 26::fk):=cF.bU [1,5,0,7,8,9,10,11,12,13,14,15] aw rfl
 refine bB _ ?_ ⟨(fw+1),fR,fE,(yQ++gD cG gQ (aY (fJ I)<|cw I o) (cH I U cG gQ)),a8,c8,a12,nT,jP,jO,J,fM,fL,gB,gT,ky,(bJ J),dV,(by rw[n9.1,n9.2,ant aq];exact Gw),(by rw[n9.2,ant aq];unfold kX at ac0;omega),(by rw[fA];omega),(by intro e_ h_;exact(anK.1 h_).elim (ac3 e_) (r6 e_))⟩
 rw[n9.2,ant aq];unfold kX at ac0;omega
theorem ai2:cu aK 50:=⟨_,_,Tryz.func50,rfl,aC⟩
theorem P2 (hM:eG M w) (dy:cA M w ay ax I) (du:I.length≤4096):Calls aK 50 #[.agg #[.slice aE aF aD,R ay I ax,.slice aA eU az]] w (cg fun v w'=>∃(a0:OA) (c0:Nat),v=.slice a0 (gx I).length c0∧Ext w w'∧bj M 3 w (gx I) (.slice a0 (gx I).length c0) w'):=by
 refine dm 42 Tryz.func50 J J J hM fun f0 ha H=>?_
 let J0:=iL ay I ax
 have H0:=H.put (it:=J0) J<|by rw[bN];exact dy
 have iU:=bf dy
 have i0:f0 0=.agg #[.slice aE aF aD,R ay I ax,.slice aA eU az]:=ha 0 bh
 refine aB<|k<|bx H0 J i0 ?_
 intro aX w0 bT (H1:HI M w w0 [box aX #[.slice aE aF aD,R ay I ax,.slice aA eU az] 47,J0])
 let J1:=box aX #[.slice aE aF aD,R ay I ax,.slice aA eU az] 47
 refine au (v:=.slice none 0 0) J J<|bp<|au (v:=.slice none 0 0) J J<|av<|sq<|aB<|au (v:=C 0) J J<|av<|bk ?_
 have H2:=H1.rl Int 3
 refine lp (fun m f w'=>∃(j:Nat) (xs:List Int) (a0:OA) (c0:Nat),m=I.length-j∧f 1=pV aX 0∧f 3=R a0 xs c0∧f 4=C (j:Int)∧HI M w w' [oL w 3 a0 xs c0,J1,J0]∧(j≤I.length)∧(xs=(I.take j).map (rE I))) _ ⟨0,([]:List Int),none,0,J,J,J,(bJ J),H2,aq,(by rfl)⟩ ?_
 rintro _ f0 w1 ⟨j,xs,a0,c0,rfl,s0,s1,s2,H3,hk,hs⟩
 refine sq<|aB<|ak J s2<|aS fB J s0<|bl H3 1 J jb J J J<|k<|dP J J js<|k<|lss J J J J<|z<|nx<|cd (b:=decide ((j:Int)<(I.length:Int))) J J (fun b0=>?_)<|fun b0=>?_
 ·
  have p0:=dT b0
  refine sk<|nx<|sq<|bk<|aB<|aS fB J s0<|bl H3 1 J jb J J J<|ak J s2<|k<|ia (H3.rv 2 J) J J J J aq js jy ?_
  intro iC x0 aP ct
  refine k<|nt ct.w jy J J ?_
  intro v0 cq
  obtain⟨_,⟨_,_,rfl,⟨rfl,dZ⟩,⟨_,_,rfl,⟨rfl,dY⟩,⟨_,_,rfl,rfl,⟨_,_,rfl,⟨rfl,fu⟩,⟨rfl,je⟩⟩⟩⟩⟩,rfl⟩:=cq
  refine k<|al H3 jy ?_
  intro aZ w2 da (H4:HI M w w2 [box aZ #[C 0,C 0,.bool false,C 0,C 0] 95,oL w 3 a0 xs c0,J1,J0])
  refine k<|bt H4 0 J jy J J J J J J J ?_
  let J2:=box aZ #[C x0.1,C x0.2.1,.bool x0.2.2.1,C x0.2.2.2.1,C x0.2.2.2.2] 95
  intro w3 (H5:HI M w w3 [J2,oL w 3 a0 xs c0,J1,J0])
  refine bp<|au (v:=C (-2)) J J<|bp<|k<|cz H5 2 J dN J s0 aw J<|aS tm J J<|bl H5 0 J aV J J J<|aS rF J J<|bl H5 0 J aV J J J<|k ?_
  have bP:=D9 (I:=I) (vr:=x0.2.2.2.1) (val:=x0.2.2.2.2) (aE:=aE) (aF:=aF) (aD:=aD) (aA:=aA) (eU:=eU) (az:=az) H5.mb (H5.rv 3 J) fu je
  refine ca adw J (ec J<|ec J<|ec J e0) bP ?_
  rintro _ w4 ⟨rfl,eR⟩
  have H6:=H5.ext eR
  refine ak (v:=.tuple #[C (max (gm I x0.2.2.2.1 x0.2.2.2.2) 0),.bool (decide (0≤gm I x0.2.2.2.1 x0.2.2.2.2))]) J J<|k<|xt J J J<|k<|xt J J J<|au (v:=C (max (gm I x0.2.2.2.1 x0.2.2.2.2) 0)) J J<|au (v:=.bool (decide (0≤gm I x0.2.2.2.1 x0.2.2.2.2))) J J<|av<|sq<|aB<|aS u7 J J<|bl H6 0 J ob J J J<|z<|nx<|cd (b:=x0.2.2.1) J J (fun b1=>?_)<|fun b1=>?_
  ·
   refine rg<|au (v:=C (-3)) J J<|av<|rg<|ak J s1<|ak (v:=C (-3)) J J<|k<|bs (xs:=([(-3)]:List Int)) (cells:=#[C (-3)]) (e:=3) H6 J (cj J eh) (fun _=>aC) ⟨[C (-3)],[],J,⟨J,(show aM ((-3)) from aT)⟩,J⟩ J aw ?_
   intro g0 w5 fH H7
   refine k<|lA H7 2 J J J J J J (gP<|H7.at_ 0 J) cK aV J (by rw[hs,anW,gY];simp only[iM,gr];omega) J ?_
   intro a1 c1 w6 (H8:HI M w w6 [own w.heap.size 3 (.slice (some ⟨g0,0,none⟩) 1 1) ([(-3)]:List Int),J2,oL w 3 a1 (xs++([(-3)]:List Int)) c1,J1,J0])
   refine au (v:=R a1 (xs++([(-3)]:List Int)) c1) J J<|z<|aJ<|nx<|rg<|ak J s2<|k<|add J J J J aT<|au (v:=C ((j:Int)+1)) J J<|z ?_
   have H9:HI M w w6 [oL w 3 a1 (xs++([(-3)]:List Int)) c1,J1,J0]:=H8.bU [2,3,4] aw rfl
   refine bB _ ?_ ⟨(j+1),(xs++([(-3)]:List Int)),a1,c1,J,s0,J,(bJ J),H9,aq,(by rw[hs];first|exact iF aP (GM b1)|exact iF aP (GR b1 p2)|exact iF aP (GP b1 p2 b3)|exact iF aP (GQ b1 p2 b3))⟩
   omega
  refine aB<|aS rF J J<|bl H6 0 J aV J J J<|k<|eql J J J J<|z<|nx<|cd (b:=decide (x0.2.2.2.2=0)) J J (fun b2=>?_)<|fun b2=>?_
  ·
   have p2:=dT b2
   refine rg<|au (v:=C (-1)) J J<|av<|rg<|ak J s1<|ak (v:=C (-1)) J J<|k<|bs (xs:=([(-1)]:List Int)) (cells:=#[C (-1)]) (e:=3) H6 J (cj J eh) (fun _=>aC) ⟨[C (-1)],[],J,⟨J,(show aM ((-1)) from aT)⟩,J⟩ J aw ?_
   intro g0 w5 fH H7
   refine k<|lA H7 2 J J J J J J (gP<|H7.at_ 0 J) cK aV J (by rw[hs,anW,gY];simp only[iM,gr];omega) J ?_
   intro a1 c1 w6 (H8:HI M w w6 [own w.heap.size 3 (.slice (some ⟨g0,0,none⟩) 1 1) ([(-1)]:List Int),J2,oL w 3 a1 (xs++([(-1)]:List Int)) c1,J1,J0])
   refine au (v:=R a1 (xs++([(-1)]:List Int)) c1) J J<|z<|aJ<|nx<|rg<|ak J s2<|k<|add J J J J aT<|au (v:=C ((j:Int)+1)) J J<|z ?_
   have H9:HI M w w6 [oL w 3 a1 (xs++([(-1)]:List Int)) c1,J1,J0]:=H8.bU [2,3,4] aw rfl
   refine bB _ ?_ ⟨(j+1),(xs++([(-1)]:List Int)),a1,c1,J,s0,J,(bJ J),H9,aq,(by rw[hs];first|exact iF aP (GM b1)|exact iF aP (GR b1 p2)|exact iF aP (GP b1 p2 b3)|exact iF aP (GQ b1 p2 b3))⟩
   omega
  have p2:=dF b2
  refine aB<|ak (v:=.bool (decide (0≤gm I x0.2.2.2.1 x0.2.2.2.2))) J J<|z<|nx<|cd (b:=decide (0≤gm I x0.2.2.2.1 x0.2.2.2.2)) J J (fun b3=>?_)<|fun b3=>?_
  ·
   have p3:=dT b3
   refine rg<|ak (v:=C (max (gm I x0.2.2.2.1 x0.2.2.2.2) 0)) J J<|au (v:=C (max (gm I x0.2.2.2.1 x0.2.2.2.2) 0)) J J<|av<|rg<|ak J s1<|ak (v:=C (max (gm I x0.2.2.2.1 x0.2.2.2.2) 0)) J J<|k<|bs (xs:=([(max (gm I x0.2.2.2.1 x0.2.2.2.2) 0)]:List Int)) (cells:=#[C (max (gm I x0.2.2.2.1 x0.2.2.2.2) 0)]) (e:=3) H6 J (cj J eh) (fun _=>aC) ⟨[C (max (gm I x0.2.2.2.1 x0.2.2.2.2) 0)],[],J,⟨J,(show aM ((max (gm I x0.2.2.2.1 x0.2.2.2.2) 0)) from(by have h_:=wm (p:=kF x0.2.2.2.1 x0.2.2.2.2) (r:=I);unfold gm;unfold aM;omega))⟩,J⟩ J aw ?_
   intro g0 w5 fH H7
   refine k<|lA H7 2 J J J J J J (gP<|H7.at_ 0 J) cK aV J (by rw[hs,anW,gY];simp only[iM,gr];omega) J ?_
   intro a1 c1 w6 (H8:HI M w w6 [own w.heap.size 3 (.slice (some ⟨g0,0,none⟩) 1 1) ([(max (gm I x0.2.2.2.1 x0.2.2.2.2) 0)]:List Int),J2,oL w 3 a1 (xs++([(max (gm I x0.2.2.2.1 x0.2.2.2.2) 0)]:List Int)) c1,J1,J0])
   refine au (v:=R a1 (xs++([(max (gm I x0.2.2.2.1 x0.2.2.2.2) 0)]:List Int)) c1) J J<|z<|aJ<|nx<|rg<|ak J s2<|k<|add J J J J aT<|au (v:=C ((j:Int)+1)) J J<|z ?_
   have H9:HI M w w6 [oL w 3 a1 (xs++([(max (gm I x0.2.2.2.1 x0.2.2.2.2) 0)]:List Int)) c1,J1,J0]:=H8.bU [2,3,4] aw rfl
   refine bB _ ?_ ⟨(j+1),(xs++([(max (gm I x0.2.2.2.1 x0.2.2.2.2) 0)]:List Int)),a1,c1,J,s0,J,(bJ J),H9,aq,(by rw[hs];first|exact iF aP (GM b1)|exact iF aP (GR b1 p2)|exact iF aP (GP b1 p2 b3)|exact iF aP (GQ b1 p2 b3))⟩
   omega
  have p3:=dF b3
  refine sk<|nx<|rg<|ak J s1<|ak (v:=C (-2)) J J<|k<|bs (xs:=([(-2)]:List Int)) (cells:=#[C (-2)]) (e:=3) H6 J (cj J eh) (fun _=>aC) ⟨[C (-2)],[],J,⟨J,(show aM ((-2)) from aT)⟩,J⟩ J aw ?_
  intro g0 w5 fH H7
  refine k<|lA H7 2 J J J J J J (gP<|H7.at_ 0 J) cK aV J (by rw[hs,anW,gY];simp only[iM,gr];omega) J ?_
  intro a1 c1 w6 (H8:HI M w w6 [own w.heap.size 3 (.slice (some ⟨g0,0,none⟩) 1 1) ([(-2)]:List Int),J2,oL w 3 a1 (xs++([(-2)]:List Int)) c1,J1,J0])
  refine au (v:=R a1 (xs++([(-2)]:List Int)) c1) J J<|z<|aJ<|nx<|rg<|ak J s2<|k<|add J J J J aT<|au (v:=C ((j:Int)+1)) J J<|z ?_
  have H9:HI M w w6 [oL w 3 a1 (xs++([(-2)]:List Int)) c1,J1,J0]:=H8.bU [2,3,4] aw rfl
  refine bB _ ?_ ⟨(j+1),(xs++([(-2)]:List Int)),a1,c1,J,s0,J,(bJ J),H9,aq,(by rw[hs];first|exact iF aP (GM b1)|exact iF aP (GR b1 p2)|exact iF aP (GP b1 p2 b3)|exact iF aP (GQ b1 p2 b3))⟩
  omega
 have p0:=dF b0
 refine ex<|aW<|bc<|bg<|cO<|ak J s1<|au (v:=R a0 xs c0) J J<|av<|rt<|r1 J J ?_
 have e0:(xs:List Int)=gx I:=by rw[hs];unfold gx;rw[l5 aq]
 have bo:=iB (fun (bW:List Int)=>(.slice a0 bW.length c0:Value)) e0
 exact⟨a0,c0,bo,H3.below,(ani (fun (x_:List Int)=>bj _ _ _ x_ (.slice a0 x_.length c0) _) e0).mp (H3.df 0 J)⟩
theorem P3 (hM:eG M w) (V7:cA M w aE aD fv) (dy:cA M w ay ax I) (fZ:cA M w aA az U) (du:I.length≤4096):Calls aK 25 #[.agg #[R aE fv aD,R ay I ax,R aA U az]] w (cg fun v w'=>∃(a0:OA) (c0:Nat) (a1:OA) (c1:Nat) (a2:OA) (c2:Nat),v=.agg #[R a0 fv c0,R a1 I c1,.slice a2 (gx I).length c2]∧Ext w w'∧cA M w' a0 c0 fv∧cA M w' a1 c1 I∧RV M w' (.slice a2 (gx I).length c2) (gx I)):=by
 refine dm 10 Tryz.func25 J J J hM fun f0 ha H=>?_
 have H0:=dS H V7
 have H1:=dS H0 dy
 have H2:=dS H1 fZ
 have i0:f0 0=.agg #[R aE fv aD,R ay I ax,R aA U az]:=ha 0 bh
 refine aB<|k<|bx H2 J i0 ?_
 let ba:=[iL aA U az,iL ay I ax,iL aE fv aD]
 intro aX w0 bT (H3:HI M w w0 (box aX #[R aE fv aD,R ay I ax,R aA U az] 47::ba))
 let J0:=box aX #[R aE fv aD,R ay I ax,R aA U az] 47
 refine k<|al H3 dN ?_
 intro aZ w1 da (H4:HI M w w1 (box aZ #[.slice none 0 0,.slice none 0 0,.slice none 0 0] 47::J0::ba))
 refine av<|sq<|mg [.r,.r,.r,.r,.r,.r,.r,.e] (fun _=>True) J aC (fun _ _=>trivial)<|yq J J<|kq (fun _ _=>fa u9 J J e1)<|bM<|kq (fun _ x_=>lx (H4.ext x_) 1 J B2 J J J e1)<|bM<|kq (fun _ _=>fa fB J J e1)<|bM<|kq (fun _ x_=>lx (H4.ext x_) 1 J jb J J J e1)<|bM<|kq (fun _ x_=>cz (H4.ext x_) 1 J dN J J aw J e1)<|zq<|yu J (fun _ v w'=>∃(a0:OA) (c0:Nat),v=R a0 (gx I) c0∧RV H4.fV w' (R a0 (gx I) c0) (gx I)) J jk J (fun v_ _ x_ _=>have cS:=P2 (I:=I) (aE:=aE) (aF:=fv.length) (aD:=aD) (aA:=aA) (eU:=U.length) (az:=az) (w:=v_) (H4.ext x_).mb ((H4.ext x_).rv 3 rfl) bq;ca ai2 rfl (ec J e0) cS (fun _ w3 ⟨a1,c1,e_,fH,dY⟩=>⟨_,J,fH,⟨a1,c1,e_,(bj.rv dY (H4.ext x_).mb)⟩⟩))<|lF J (fun _ v w'=>∃(a2:OA) (c2:Nat),v=.agg #[R aE fv aD,R ay I ax,R a2 (gx I) c2]∧RV H4.fV w' (R a2 (gx I) c2) (gx I)) 0 J J jk J (fun _ _ _ _ _ h_=>let ⟨a3,c3,s0,jT⟩:=h_;bd (v:=.agg #[R aE fv aD,R ay I ax,R a3 (gx I) c3]) rfl (cj J<|cj J<|cj s0 eh) (fun _=>aC) ⟨_,J,Ext.refl _,⟨a3,c3,J,jT⟩⟩)<|ye<|yz ?_
 intro w4 f0 _ ja _ _ cB iN
 have dw:=H4.ext ja
 have s1:=cB 2 J
 obtain⟨a4,c4,s2,jd⟩:=iN 0 _ _ rfl
 have dz:=dS dw jd
 refine j5<|bt dz 1 J dN J J s1 s2 J J J ?_
 intro w5 (cM:HI M w w5 (iL a4 (gx I) c4::box aZ #[R aE fv aD,R ay I ax,R a4 (gx I) c4] 47::J0::ba))
 refine kz<|nx<|rt<|oY cM 1 J dN J J s1 J aw ?_
 exact⟨aE,aD,ay,ax,a4,c4,J,cM.below,(cM.fj 5 J),(cM.fj 4 J),(cM.fj 0 J)⟩
theorem aji:cu aK 23:=⟨_,_,Tryz.func23,rfl,aC⟩
theorem ajh:cu aK 24:=⟨_,_,Tryz.func24,rfl,aC⟩
theorem ajg:cu aK 25:=⟨_,_,Tryz.func25,rfl,aC⟩
theorem U_ (hM:eG M w) (lU:cA M w gk gj h) (lP:h.flatten.length≤4096):Calls aK 13 #[R gk h gj] w (cg fun v w'=>∃(a0:OA) (c0:Nat) (a1:OA) (c1:Nat) (a2:OA) (c2:Nat),v=.tuple #[.agg #[.slice a0 (sZ h).length c0,.slice a1 (lK h).length c1,.slice a2 (lL h).length c2],.bool (eO h)]∧Ext w w'∧RV M w' (.slice a0 (sZ h).length c0) (sZ h)∧RV M w' (.slice a1 (lK h).length c1) (lK h)∧RV M w' (.slice a2 (lL h).length c2) (lL h)):=by
 refine dm 25 Tryz.func13 J J J hM fun f0 ha H=>?_
 let J0:=iL gk h gj
 have H0:=H.put (it:=J0) J<|by rw[bN];exact lU
 have i0:f0 0=R gk h gj:=ha 0 bh
 refine aB<|k<|al H0 dN ?_
 intro aX w0 bT (H1:HI M w w0 [box aX #[.slice none 0 0,.slice none 0 0,.slice none 0 0] 47,J0])
 let J1:=box aX #[.slice none 0 0,.slice none 0 0,.slice none 0 0] 47
 refine au (v:=.bool false) J J<|bp<|ak J i0<|k ?_
 have bP:=Va (h:=h) H1.mb (H1.rv 1 J) aq
 refine ca aji J (ec J e0) bP ?_
 rintro _ w1 ⟨a0,c0,a1,c1,a2,c2,rfl,da,cq,dZ,dY⟩
 have H2:=H1.ext da
 let J2:=iL a0 (mc h) c0
 have H3:=H2.put (it:=J2) J cq
 let J3:=iL a1 (cN h) c1
 have H4:=H3.put (it:=J3) J<|by rw[aG J];exact dZ
 let J4:=iL a2 ([]:List Int) c2
 have H5:=H4.put (it:=J4) J<|by rw[aG rfl,aG rfl];exact dY
 refine ak (v:=.tuple #[.agg #[R a0 (mc h) c0,R a1 (cN h) c1,R a2 ([]:List Int) c2],C (lu h)]) J J<|k<|xt J J J<|k<|xt J J J<|k<|al H5 dN ?_
 let ba:=[J4,J3,J2,J1,J0]
 intro aZ w2 eR (H6:HI M w w2 (box aZ #[.slice none 0 0,.slice none 0 0,.slice none 0 0] 47::ba))
 refine k<|bt H6 0 J dN J J J J J J J ?_
 let J5:=box aZ #[R a0 (mc h) c0,R a1 (cN h) c1,R a2 ([]:List Int) c2] 47
 intro w3 (H7:HI M w w3 (J5::ba))
 refine au (v:=C (lu h)) J J<|av<|sq<|aB<|ak (v:=C (lu h)) J J<|k<|neq J J J J<|z<|nx<|cd (b:=!decide ((lu h)=0)) J J (fun b0=>?_)<|fun b0=>?_
 ·
  have p0:=dF<|fX b0
  refine sq ?_
  have hq:eO h=false:=ZL (by simpa using ‹(!decide (lu h=0))=true›)
  refine rg<|k<|bd (v:=.agg #[.slice none 0 0,.slice none 0 0,.slice none 0 0]) J eh (fun _=>aC)<|k<|bt H7 4 J dN J J J J J J J ?_
  intro w4 (H8:HI M w w4 (J5::ba))
  refine au (v:=.bool false) J J<|av<|rt<|aL<|im H8 4 J dN J J J J J aw ?_
  have e0:([]:List ByteArray)=sZ h:=by exact(zT hq).1.symm
  have e1:([]:List aI)=lK h:=by exact(zT hq).2.1.symm
  have e2:([]:List Int)=lL h:=by exact(zT hq).2.2.symm
  have e3:(false:Bool)=eO h:=by exact hq.symm
  have bo:=T3 (fun (bW:List ByteArray) (dK:List aI) (gA:List Int) (lH:Bool)=>(.tuple #[.agg #[.slice none bW.length 0,.slice none dK.length 0,.slice none gA.length 0],.bool lH]:Value)) e0 e1 e2 e3
  exact⟨none,0,none,0,none,0,bo,H8.below,(ani (fun (x_:List ByteArray)=>RV _ _ (.slice none x_.length 0) x_) e0).mp (ee _ _),(ani (fun (x_:List aI)=>RV _ _ (.slice none x_.length 0) x_) e1).mp (ee _ _),(ani (fun (x_:List Int)=>RV _ _ (.slice none x_.length 0) x_) e2).mp (ee _ _)⟩
 have p0:=dT<|eY b0
 refine sk<|nx<|sq ?_
 have he_:lu h=0:=by simpa using ‹(!decide (lu h=0))=false›
 refine rg<|k<|cz H7 0 J dN J J aw J<|k ?_
 have cS:=Nq (I:=(cN h)) (aE:=a0) (aF:=(mc h).length) (aD:=c0) (aA:=a2) (eU:=([]:List Int).length) (az:=c2) H7.mb<|H7.rv 2 J
 refine ca ajh J (ec J e0) cS ?_
 rintro _ w4 ⟨rfl,fH⟩
 have H8:=H7.ext fH
 refine ak (v:=.tuple #[C ((cT<|cN h).1),C ((cT<|cN h).2.1),C ((cT<|cN h).2.2)]) J J<|k<|xt J J J<|k<|xt J J J<|k<|xt J J J<|au (v:=C ((cT<|cN h).2.2)) J J<|av<|sq<|aB<|ak (v:=C ((cT<|cN h).2.2)) J J<|k<|neq J J J J<|z<|nx<|cd (b:=!decide (((cT<|cN h).2.2)=0)) J J (fun b1=>?_)<|fun b1=>?_
 ·
  have p1:=dF<|fX b1
  refine sq ?_
  have hq:eO h=false:=ZJ (by simpa using ‹(!decide ((cT (cN h)).2.2=0))=true›)
  refine rg<|k<|bd (v:=.agg #[.slice none 0 0,.slice none 0 0,.slice none 0 0]) J eh (fun _=>aC)<|k<|bt H8 4 J dN J J J J J J J ?_
  intro w5 (H9:HI M w w5 (J5::ba))
  refine au (v:=.bool false) J J<|av<|rt<|aL<|im H9 4 J dN J J J J J aw ?_
  have e0:([]:List ByteArray)=sZ h:=by exact(zT hq).1.symm
  have e1:([]:List aI)=lK h:=by exact(zT hq).2.1.symm
  have e2:([]:List Int)=lL h:=by exact(zT hq).2.2.symm
  have e3:(false:Bool)=eO h:=by exact hq.symm
  have bo:=T3 (fun (bW:List ByteArray) (dK:List aI) (gA:List Int) (lH:Bool)=>(.tuple #[.agg #[.slice none bW.length 0,.slice none dK.length 0,.slice none gA.length 0],.bool lH]:Value)) e0 e1 e2 e3
  exact⟨none,0,none,0,none,0,bo,H9.below,(ani (fun (x_:List ByteArray)=>RV _ _ (.slice none x_.length 0) x_) e0).mp (ee _ _),(ani (fun (x_:List aI)=>RV _ _ (.slice none x_.length 0) x_) e1).mp (ee _ _),(ani (fun (x_:List Int)=>RV _ _ (.slice none x_.length 0) x_) e2).mp (ee _ _)⟩
 have p1:=dT<|eY b1
 refine sk<|nx<|sq ?_
 have hq:eO h=true:=abG he_ (by simpa using ‹(!decide ((cT (cN h)).2.2=0))=false›)
 refine rg<|k<|cz H8 0 J dN J J aw J<|k ?_
 have fS:=P3 (fv:=(mc h)) (I:=(cN h)) (U:=([]:List Int)) H8.mb (H8.rv 3 J) (H8.rv 2 J) (H8.rv 1 J)<|by have h_:=Oo h;omega
 refine ca ajg J (ec J e0) fS ?_
 rintro _ w5 ⟨a3,c3,a4,c4,a5,c5,rfl,ja,fu,je,jT⟩
 have H9:=H8.ext ja
 have dH:=dS H9 fu
 have db:=dS dH je
 have dw:=dS db jT
 refine k<|bt dw 7 J dN J J J J J J J ?_
 intro w6 (dz:HI M w w6 [iL a5 (gx (cN h)) c5,iL a4 (cN h) c4,iL a3 (mc h) c3,J5,J4,J3,J2,box aX #[R a3 (mc h) c3,R a4 (cN h) c4,R a5 (gx (cN h)) c5] 47,J0])
 refine au (v:=.bool true) J J<|av<|rt<|im dz 7 J dN J J J J J aw ?_
 have e0:((mc h):List ByteArray)=sZ h:=by exact(wB hq).1.symm
 have e1:((cN h):List aI)=lK h:=by exact(wB hq).2.1.symm
 have e2:(gx (cN h):List Int)=lL h:=by exact(wB hq).2.2.symm
 have e3:(true:Bool)=eO h:=by exact hq.symm
 have bo:=T3 (fun (bW:List ByteArray) (dK:List aI) (gA:List Int) (lH:Bool)=>(.tuple #[.agg #[.slice a3 bW.length c3,.slice a4 dK.length c4,.slice a5 gA.length c5],.bool lH]:Value)) e0 e1 e2 e3
 exact⟨a3,c3,a4,c4,a5,c5,bo,dz.below,(ani (fun (x_:List ByteArray)=>RV _ _ (.slice a3 x_.length c3) x_) e0).mp (dz.fj 2 J),(ani (fun (x_:List aI)=>RV _ _ (.slice a4 x_.length c4) x_) e1).mp (dz.fj 1 J),(ani (fun (x_:List Int)=>RV _ _ (.slice a5 x_.length c5) x_) e2).mp (dz.fj 0 J)⟩
theorem aiK:cu aK 97:=⟨_,_,Tryz.func97,rfl,aC⟩
theorem aiJ:cu aK 98:=⟨_,_,Tryz.func98,rfl,aC⟩
theorem aiL:cu aK 96:=⟨_,_,Tryz.func96,rfl,aC⟩
theorem adv:cu aK 59:=⟨_,_,Tryz.func59,rfl,aC⟩
theorem QJ:cu aK 58:=⟨_,_,Tryz.func58,rfl,aC⟩
theorem WQ (hM:eG M w) (dy:cA M w ay ax I) (fZ:cA M w aA az U) (du:I.length≤4096) (eu:U.length=I.length) (fG:∀x∈U,x<((I.length:Nat):Int)):Calls aK 98 #[.agg #[.slice aE aF aD,R ay I ax,R aA U az]] w (cg fun v w'=>∃(a0:OA) (c0:Nat),v=.agg #[C (I.length:Int),.slice a0 (oE I U).length c0]∧Ext w w'∧bj M 144 w (oE I U) (.slice a0 (oE I U).length c0) w'):=by
 refine dm 37 Tryz.func98 J J J hM fun f0 ha H=>?_
 let J0:=iL ay I ax
 have H0:=H.put (it:=J0) J<|by rw[bN];exact dy
 let J1:=iL aA U az
 have H1:=H0.put (it:=J1) J<|by rw[aG rfl,bN];exact fZ
 have iU:=bf dy
 have kE:=bf fZ
 have i0:f0 0=.agg #[.slice aE aF aD,R ay I ax,R aA U az]:=ha 0 bh
 refine aB<|k<|bx H1 J i0 ?_
 intro aX w0 bT (H2:HI M w w0 [box aX #[.slice aE aF aD,R ay I ax,R aA U az] 47,J1,J0])
 let J2:=box aX #[.slice aE aF aD,R ay I ax,R aA U az] 47
 refine k<|al H2 bm ?_
 let ba:=[J2,J1,J0]
 intro aZ w1 da (H3:HI M w w1 (box aZ #[C 0,.slice none 0 0] 26::ba))
 let J3:=box aZ #[C 0,.slice none 0 0] 26
 refine bp<|aS fB J J<|bl H3 1 J jb J J J<|k<|dP J J js<|k ?_
 have bP:=Oz (n:=(I.length:Int)) H3.mb aT
 refine ca GH J (ec J e0) bP ?_
 rintro _ w2 ⟨a0,c0,rfl,eR,cq⟩
 have H4:=H3.eL cq
 refine ak (v:=.tuple #[.agg #[C (ou (I.length:Int)),R a0 (iK (I.length:Int)) c0],C (rN (I.length:Int))]) J J<|k<|xt J J J<|k<|xt J J J<|k<|al H4 bm ?_
 let bZ:=oL w 144 a0 (iK (I.length:Int)) c0::J3::ba
 intro bD w3 fH (H5:HI M w w3 (box bD #[C 0,.slice none 0 0] 26::bZ))
 refine k<|bt H5 0 J bm J J J J J J J ?_
 let J4:=box bD #[C (ou (I.length:Int)),R a0 (iK (I.length:Int)) c0] 26
 intro w4 (H6:HI M w w4 (J4::bZ))
 refine au (v:=C (rN (I.length:Int))) J J<|av<|sq<|sq ?_
 have VY:Cw (I.length:Int)=true:=sh.2 aq
 obtain⟨en,er, -⟩:=xf VY
 refine rg<|aS tq J J<|bl H6 3 J qm J J J<|k<|dP J J cK<|ak (v:=C 0) J J<|av<|bk<|lp (fun m f w'=>∃(j:Nat) (xs:List (List bY)),m=U.length-j∧f 2=pV aZ 0∧f 3=pV bD 0∧f 15=R aA U az∧f 16=C (U.length:Int)∧f 17=C (j:Int)∧HI M w w' (J4::own w.heap.size 144 (.slice a0 (iK (I.length:Int)).length c0) xs::J3::ba)∧(j≤U.length)∧(xs.length=I.length)∧(xs=ua I.length U j)) _ ⟨0,(iK (I.length:Int)),J,J,J,J,J,(bJ J),H6,aq,(by rw[er,pR];simp),(by rw[er];exact Zx _ _)⟩ ?_
 rintro _ f0 w5 ⟨j,xs,rfl,s0,s1,s2,s3,s4,H7,hk,hl,hs⟩
 refine aB<|k<|lss J J s4 s3<|av<|sq<|cd (b:=decide ((j:Int)<(U.length:Int))) J J (fun b0=>?_)<|fun b0=>?_
 ·
  have p0:=dT b0
  refine sk<|nx<|sq<|bk<|aB<|ak J s4<|k<|ia (H7.rv 4 J) J J s2 s4 aq cK aV ?_
  intro iC x0 aP ct
  refine k<|mV ct.w aV J J ?_
  intro dZ
  refine au (v:=C (j:Int)) J J<|au (v:=C x0) J J<|av<|sq ?_
  have hw_:=fG _<|dB aP
  refine rg<|ak (v:=C x0) J J<|k<|geq J J J J<|z<|nx<|cd (b:=decide (0≤x0)) J J (fun b1=>?_)<|fun b1=>?_
  ·
   have p1:=dT b1
   refine mg [.r,.r,.r,.r,.r,.r,.r,.r,.r,.r,.e,.e] (fun _=>True) J aC (fun _ _=>trivial)<|yq J J<|kq (fun _ _=>fa iw J s1 e1)<|bM<|kq (fun _ x_=>lx (H7.ext x_) 0 J kW J J J e1)<|bM<|kq (fun _ _=>mv (v:=C x0) J J e1)<|bM<|kq (fun _ _=>fa iw J s1 e1)<|bM<|kq (fun _ x_=>lx (H7.ext x_) 0 J kW J J J e1)<|bM<|kq (fun _ _=>mv (v:=C x0) J J e1)<|bM<|sV (H7.at_ 1 J) J J J J aq ib de ?_
   intro rh x1 cP gL
   refine bM<|F5 gL de J J ?_
   intro a1 c1 dY
   have zV:=bf dY
   have H8:=dS H7 dY
   refine bM<|kq (fun _ _=>mv (v:=C (j:Int)) J J e1)<|zq<|yu J (fun _ v w'=>∃(a2:OA) (c2:Nat),v=R a2 (eb x1 (j:Int)) c2∧RV H7.fV w' (R a2 (eb x1 (j:Int)) c2) (eb x1 (j:Int))) J jk J (fun v_ _ x_ _=>have fS:=tY (r:=x1) (i:=(j:Int)) (w:=v_) (H8.ext x_).mb ((H8.ext x_).rv 0 rfl) aT (by have O6:=cP;rw[hs] at O6;exact(Zy (n:=I.length) aq U j).2 _ (dB O6));ca Ft rfl (ec J<|ec J e0) fS (fun _ w7 ⟨a3,c3,e_,ji,jT⟩=>⟨_,J,ji,⟨a3,c3,e_,(mK J<|bj.rv jT (H8.ext x_).mb)⟩⟩))<|ye<|ye<|yz ?_
   intro w8 f1 _ kb _ _ cB iN
   have cM:=H8.ext kb
   have s5:=(cB 2 J).trans s0
   have s6:=(cB 3 J).trans s1
   have s7:=(cB 15 J).trans s2
   have s8:=(cB 16 J).trans s3
   have s9:=(cB 17 J).trans s4
   have eo:=cB 25 J
   have fb:=cB 26 J
   obtain⟨a4,c4,fM,lq⟩:=iN 0 _ _ rfl
   have dW:=dS cM lq
   refine j5<|ij (dW.at_ 3 J) J J eo fb aq ib de ?_
   intro g0 x2 iq iA kR
   refine j5<|pt dW 3 J iq J aq de J J J fM (dW.rv 0 J) ?_
   let J5:=own w.heap.size 144 (.slice a0 (iK (I.length:Int)).length c0) (xs.set x0.toNat (eb x1 (j:Int)))
   intro w9 (dt:HI M w w9 [iL a4 (eb x1 (j:Int)) c4,iL a1 x1 c1,J4,J5,J3,J2,J1,J0])
   refine kz<|aJ<|nx<|rg<|k<|add J J s9 J aT<|ak (v:=C ((j:Int)+1)) J J<|z ?_
   have cR:HI M w w9 (J4::J5::J3::ba):=dt.bU [2,3,4,5,6,7] aw rfl
   refine bB _ ?_ ⟨(j+1),(xs.set x0.toNat (eb x1 (j:Int))),J,s5,s6,s7,s8,(bJ J),cR,aq,(by simpa using hl),(by exact abt hs aP aq aq aq cP)⟩
   omega
  have p1:=dF b1
  refine sk<|aJ<|nx<|rg<|k<|add J J s4 J aT<|ak (v:=C ((j:Int)+1)) J J<|z<|bB _ ?_ ⟨(j+1),xs,J,s0,s1,s2,s3,(bJ J),H7,aq,bq,(by rw[hs];exact ae3 aP aq)⟩
  omega
 have p0:=dF b0
 refine ex<|aW<|bc<|bg<|cO<|k<|cz H7 0 J bm J s1 aw J<|k<|bt H7 2 J bm J J s0 J J J J ?_
 intro w6 (H8:HI M w w6 (J4::own w.heap.size 144 (.slice a0 (iK (I.length:Int)).length c0) xs::box aZ #[C (ou (I.length:Int)),R a0 (iK (I.length:Int)) c0] 26::ba))
 refine av<|rt<|oY H8 2 J bm J J s0 J aw ?_
 have e0:(ou (I.length:Int):Int)=(I.length:Int):=by rw[en]
 have e1:(xs:List (List bY))=oE I U:=by rw[hs];exact abu eu aq
 have l1:(iK (I.length:Int)).length=(oE I U).length:=by rw[er,pR,Zz];simp
 have bo:=nA (fun (bW:Int) (uS:Nat)=>(.agg #[C bW,.slice a0 uS c0]:Value)) e0 l1
 exact⟨a0,c0,bo,H8.below,(ani (fun (n_:Nat)=>bj _ _ _ (oE I U) (.slice a0 n_ c0) _) l1).mp ((ani (fun (x_:List (List bY))=>bj _ _ _ x_ (.slice a0 (iK (I.length:Int)).length c0) _) e1).mp (H8.df 1 J))⟩
theorem EB (hM:eG M w) (dy:cA M w ay ax I) (fZ:cA M w aA az U) (ho:gX I) (du:I.length≤4096) (eu:U.length=I.length) (fG:∀x∈U,x<((I.length:Nat):Int)):Calls aK 59 #[.agg #[.slice aE aF aD,R ay I ax,R aA U az]] w (cg fun v w'=>∃(a0:OA) (c0:Nat),v=.agg #[C (I.length:Int),.slice a0 (ki I U).length c0]∧Ext w w'∧RV M w' (.slice a0 (ki I U).length c0) (ki I U)):=by
 refine dm 14 Tryz.func59 J J J hM fun f0 ha H=>?_
 let J0:=iL ay I ax
 have H0:=H.put (it:=J0) J<|by rw[bN];exact dy
 let J1:=iL aA U az
 have H1:=H0.put (it:=J1) J<|by rw[aG rfl,bN];exact fZ
 have i0:f0 0=.agg #[.slice aE aF aD,R ay I ax,R aA U az]:=ha 0 bh
 refine aB<|k<|bx H1 J i0 ?_
 intro aX w0 bT (H2:HI M w w0 [box aX #[.slice aE aF aD,R ay I ax,R aA U az] 47,J1,J0])
 let J2:=box aX #[.slice aE aF aD,R ay I ax,R aA U az] 47
 refine k<|al H2 bm ?_
 intro aZ w1 da (H3:HI M w w1 [box aZ #[C 0,.slice none 0 0] 26,J2,J1,J0])
 refine av<|sq<|mg [.r,.r,.r,.r,.r,.r,.r,.s,.n,.e,.s] (fun _=>True) J aC (fun _ _=>trivial)<|yq J J<|kq (fun _ x_=>cz (H3.ext x_) 1 J dN J J aw J e1)<|zq<|yu J (fun N v w'=>∃(a0:OA) (c0:Nat),v=.agg #[C (I.length:Int),R a0 (oG I) c0]∧RV (MN H3.fV N) w' (R a0 (oG I) c0) (oG I)) J kO J (fun v_ _ x_ n_=>have cS:=PK (I:=I) (aE:=aE) (aF:=aF) (aD:=aD) (aA:=aA) (eU:=U.length) (az:=az) (w:=v_) (kC H3.mb x_ n_) (kc (H3.rv 3 J) x_ n_) (by exact ho) (by exact du);ca aiK rfl (ec J e0) cS (fun _ w3 ⟨a1,c1,e_,fH,dY⟩=>⟨_,J,fH,⟨a1,c1,e_,(bj.rv dY<|kC H3.mb x_ n_)⟩⟩))<|yq J J<|kq (fun _ x_=>cz (H3.ext x_) 1 J dN J J aw J e1)<|zq<|yu J (fun N v w'=>∃(a2:OA) (c2:Nat),v=.agg #[C (I.length:Int),R a2 (oE I U) c2]∧RV (MN H3.fV N) w' (R a2 (oE I U) c2) (oE I U)) J kO J (fun v_ _ x_ n_=>have eX:=WQ (I:=I) (U:=U) (aE:=aE) (aF:=aF) (aD:=aD) (w:=v_) (kC H3.mb x_ n_) (kc (H3.rv 3 J) x_ n_) (kc (H3.rv 2 J) x_ n_) (by exact du) (by exact eu) (by exact fG);ca aiJ rfl (ec J e0) eX (fun _ w5 ⟨a3,c3,e_,ji,jT⟩=>⟨_,J,ji,⟨a3,c3,e_,(bj.rv jT<|kC H3.mb x_ n_)⟩⟩))<|yu2 J (fun N v w'=>∃(a6:OA) (c6:Nat),v=.tuple #[.agg #[C (sX (I.length:Int) (I.length:Int)),R a6 (l7 (I.length:Int) (oG I) (I.length:Int)<|oE I U) c6],C (xc (I.length:Int) (I.length:Int))]∧RV (MN H3.fV N) w' (R a6 (l7 (I.length:Int) (oG I) (I.length:Int)<|oE I U) c6) (l7 (I.length:Int) (oG I) (I.length:Int)<|oE I U)) 1 0 J J J kO J (fun v_ _ _ _ x_ n_ h_ k_=>let ⟨a7,c7,s0,rk⟩:=h_;let ⟨a8,c8,s1,nZ⟩:=k_;have nk:=abV (an:=(I.length:Int)) (ar:=(oG I)) (bn:=(I.length:Int)) (br:=(oE I U)) (w:=v_) (kC H3.mb x_ n_) aT rk aT nZ (by exact(Gh aq _).1) (by exact(Gh aq _).2) aq (by exact(Gh aq _).1) (by exact(Gh aq _).2) aq;ca aiL rfl (ec s0<|ec s1 e0) nk (fun _ w7 ⟨a9,c9,e_,ma,mR⟩=>⟨_,J,ma,⟨a9,c9,e_,(bj.rv mR<|kC H3.mb x_ n_)⟩⟩))<|lF J (fun N v w'=>∃(i':OA) (iZ:Nat),v=.tuple #[.agg #[C (sX (I.length:Int) (I.length:Int)),R i' (l7 (I.length:Int) (oG I) (I.length:Int)<|oE I U) iZ],C (xc (I.length:Int) (I.length:Int))]∧RV (MN H3.fV N) w' (R i' (l7 (I.length:Int) (oG I) (I.length:Int)<|oE I U) iZ) (l7 (I.length:Int) (oG I) (I.length:Int)<|oE I U)) 0 J J kO J (fun _ _ _ _ _ h_=>let ⟨l3,lX,s2,qp⟩:=h_;mv rfl s2 ⟨_,J,Ext.refl _,⟨l3,lX,J,qp⟩⟩)<|lF J (fun N v w'=>∃(a12:OA) (nT:Nat),v=.agg #[C (sX (I.length:Int) (I.length:Int)),R a12 (l7 (I.length:Int) (oG I) (I.length:Int)<|oE I U) nT]∧RV (MN H3.fV N) w' (R a12 (l7 (I.length:Int) (oG I) (I.length:Int)<|oE I U) nT) (l7 (I.length:Int) (oG I) (I.length:Int)<|oE I U)) 0 J J kO J (fun _ _ _ _ _ h_=>let ⟨jP,jO,s3,wW⟩:=h_;xt rfl s3 rfl ⟨_,J,Ext.refl _,⟨jP,jO,J,wW⟩⟩)<|Rj J (X:=C (xc (I.length:Int) (I.length:Int))) 1 J J (fun _ _ _ _ _ h_=>let ⟨tz,tw,s4,HD⟩:=h_;xt rfl s4 rfl e1)<|yn (z:=#[C 0,.slice none 0 0]) J J (fun _=>Pr bm)<|ye<|yq J J<|kq (fun _ _=>jG (v:=C (xc (I.length:Int) (I.length:Int))) J J e1)<|zq<|yz ?_
 intro w8 f0 _ nr _ _ cB iN
 obtain⟨fe,s5,CS,sy,BH⟩:=iN 0 _ _ rfl
 have pD:=Pg (z:=#[C 0,.slice none 0 0]) (T:=26) CS sy BH<|Ph
 let ba:=[box aZ #[C 0,.slice none 0 0] 26,J2,J1,J0]
 have H7:HI M w w8 (box fe #[C 0,.slice none 0 0] 26::ba):=H3.DK nr pD (Ow Ov Ox)
 have s6:=cB 2 J
 obtain⟨As,Ao,s7,abl⟩:=iN 1 _ _ rfl
 let J3:=iL As (l7 (I.length:Int) (oG I) (I.length:Int) (oE I U)) Ao
 have H8:=H7.put (it:=J3) J<|rW abl pD
 refine j5<|bt H8 1 J bm J J s5 s7 J J J ?_
 let J4:=box fe #[C (sX (I.length:Int) (I.length:Int)),R As (l7 (I.length:Int) (oG I) (I.length:Int) (oE I U)) Ao] 26
 intro w9 (H9:HI M w w9 (J3::J4::ba))
 refine kz<|cO<|k<|cz H9 1 J bm J s5 aw J<|k<|bt H9 2 J bm J J s6 J J J J ?_
 intro dL (dH:HI M w dL [J3,J4,box aZ #[C (sX (I.length:Int) (I.length:Int)),R As (l7 (I.length:Int) (oG I) (I.length:Int) (oE I U)) Ao] 26,J2,J1,J0])
 refine av<|rt<|oY dH 2 J bm J J s6 J aw ?_
 have e0:(sX (I.length:Int) (I.length:Int):Int)=(I.length:Int):=by exact(YL I U).1
 have e1:(l7 (I.length:Int) (oG I) (I.length:Int) (oE I U):List (List bY))=ki I U:=by exact(YL I U).2
 have bo:=nA (fun (bW:Int) (dK:List (List bY))=>(.agg #[C bW,.slice As dK.length Ao]:Value)) e0 e1
 exact⟨As,Ao,bo,dH.below,(ani (fun (x_:List (List bY))=>RV _ _ (.slice As x_.length Ao) x_) e1).mp (dH.fj 0 J)⟩
theorem Bo (hM:eG M w) (dy:cA M w ay ax I) (fZ:cA M w aA az U) (ho:gX I) (du:I.length≤4096) (eu:U.length=I.length) (fG:∀x∈U,x<((I.length:Nat):Int)):Calls aK 32 #[.agg #[.slice aE aF aD,R ay I ax,R aA U az]] w (cg fun v w'=>∃(a0:OA) (c0:Nat),v=.agg #[C (I.length:Int),.slice a0 (cp I U).length c0]∧Ext w w'∧RV M w' (.slice a0 (cp I U).length c0) (cp I U)):=by
 refine dm 6 Tryz.func32 J J J hM fun f0 ha H=>?_
 have H0:=dS H dy
 have H1:=dS H0 fZ
 have i0:f0 0=.agg #[.slice aE aF aD,R ay I ax,R aA U az]:=ha 0 bh
 refine aB<|k<|bx H1 J i0 ?_
 let ba:=[iL aA U az,iL ay I ax]
 intro aX w0 bT (H2:HI M w w0 (box aX #[.slice aE aF aD,R ay I ax,R aA U az] 47::ba))
 let J0:=box aX #[.slice aE aF aD,R ay I ax,R aA U az] 47
 refine k<|al H2 bm ?_
 intro aZ w1 da (H3:HI M w w1 (box aZ #[C 0,.slice none 0 0] 26::J0::ba))
 refine bp<|k<|cz H3 1 J dN J J aw J<|k ?_
 have bP:=EB (I:=I) (U:=U) (aE:=aE) (aF:=aF) (aD:=aD) H3.mb (H3.rv 3 J) (H3.rv 2 J) (by exact ho) (by exact du) (by exact eu)<|by exact fG
 refine ca adv J (ec J e0) bP ?_
 rintro _ w2 ⟨a0,c0,rfl,eR,cq⟩
 have H4:=H3.ext eR
 have H5:=dS H4 cq
 refine k ?_
 have cS:=wo (mn:=(I.length:Int)) (mr:=(ki I U)) H5.mb aT (H5.rv 0 J)<|by exact Ms U du
 refine ca QJ J (ec J e0) cS ?_
 rintro _ w3 ⟨a1,c1,rfl,fH,dZ⟩
 have H6:=H5.eL dZ
 refine k<|bt H6 2 J bm J J J J J J J ?_
 intro w4 (H7:HI M w w4 (oL w 144 a1 (fc (I.length:Int) (ki I U)) c1::iL a0 (ki I U) c0::box aZ #[C (I.length:Int),R a1 (fc (I.length:Int) (ki I U)) c1] 26::J0::ba))
 refine av<|rt<|oY H7 2 J bm J J J J aw ?_
 have e1:(fc (I.length:Int) (ki I U):List (List bY))=cp I U:=by exact WH I U
 have bo:=iB (fun (dK:List (List bY))=>(.agg #[C (I.length:Int),.slice a1 dK.length c1]:Value)) e1
 exact⟨a1,c1,bo,H7.below,(ani (fun (x_:List (List bY))=>RV _ _ (.slice a1 x_.length c1) x_) e1).mp (H7.mw 0 J)⟩
theorem No (H:HI M w w_ ([oL w 3 dR xs dJ]++r)):Calls aK 177 #[R dR xs dJ] w_ (cg fun v w'=>v=.tuple #[]∧HI M w w' ([own w.heap.size 3 (R dR xs dJ) xs.reverse]++r)):=by
 refine enter 28 Tryz.func177 J J J fun f0 ha=>?_
 have Gi:=j'<|H.at_ 0 J
 have i0:f0 0=R dR xs dJ:=ha 0 bh
 refine aB<|ak J i0<|k<|dP J J cK<|k<|sub J J J J aT<|au (v:=C 0) J J<|au (v:=C ((xs.length:Int)-1)) J J<|av<|bk<|lp (fun m f w'=>∃(q:Nat) (ys:List Int),m=xs.length-q∧f 0=R dR xs dJ∧f 2=C (q:Int)∧f 3=C ((xs.length:Int)-1-(q:Int))∧HI M w w' ([own w.heap.size 3 (.slice dR xs.length dJ) ys]++r)∧(q+q≤xs.length+1)∧(ys.length=xs.length)∧(ys=sU xs q)) _ ⟨0,xs,J,i0,(bJ J),(bJ J),H,aq,(by rfl),(by exact PV xs)⟩ ?_
 rintro _ f0 w0 ⟨q,ys,rfl,s0,s1,s2,H0,so,tK,hs⟩
 refine sq<|aB<|ak J s1<|ak J s2<|k<|lss J J J J<|z<|nx<|cd (b:=decide ((q:Int)<((xs.length:Int)-1-(q:Int)))) J J (fun b0=>?_)<|fun b0=>?_
 ·
  have p0:=dT b0
  refine sk<|nx<|sq<|bk<|mg [.r,.r,.s,.s,.r,.r,.r,.r,.r,.r,.r,.r,.e,.e,.e,.e] (fun _=>True) J aC (fun _ _=>trivial)<|yq J J<|kq (fun _ _=>mv J s0 e1)<|bM<|kq (fun _ _=>mv J s1 e1)<|bM<|kq (fun _ _=>mv J s0 e1)<|bM<|kq (fun _ _=>mv J s2 e1)<|bM<|kq (fun _ _=>mv J s0 e1)<|bM<|kq (fun _ _=>mv J s2 e1)<|bM<|sV (H0.at_ 0 J) J J J J aq cK aV ?_
  intro iC x0 aP ct
  refine bM<|pc ct aV J J ?_
  intro cq
  refine bM<|kq (fun _ _=>mv J s0 e1)<|bM<|kq (fun _ _=>mv J s1 e1)<|bM<|sV (H0.at_ 0 J) J J J J aq cK aV ?_
  intro rh x1 cP gL
  refine bM<|pc gL aV J J ?_
  intro dZ
  refine zq<|ye<|ye<|ye<|ye<|yz ?_
  intro w1 f1 _ bT _ _ cB iN
  have H1:=H0.ext bT
  have s3:=(cB 0 J).trans s0
  have s4:=(cB 2 J).trans s1
  have s5:=(cB 3 J).trans s2
  have s6:=cB 14 J
  have s7:=cB 15 J
  have s8:=cB 16 J
  have s9:=cB 17 J
  have eo:=cB 21 J
  have fb:=cB 25 J
  refine j5<|ij (H1.at_ 0 J) J J s6 s7 aq cK aV ?_
  intro g0 x2 iq iA kR
  refine j5<|pt H1 0 J iq J aq aV J J J eo (RV.int.2 ⟨J,bq⟩) ?_
  intro w2 (H2:HI M w w2 ([own w.heap.size 3 (.slice dR xs.length dJ) (ys.set ((q:Int).toNat) x0)]++r))
  refine j5<|ij (H2.at_ 0 J) J J s8 s9 (by simp only[anj];omega) cK aV ?_
  intro g1 x3 kG mW u5
  refine j5<|pt H2 0 J kG J (by simp only[anj];omega) aV J J J fb (RV.int.2 ⟨J,bq⟩) ?_
  intro w3 (H3:HI M w w3 ([own w.heap.size 3 (.slice dR xs.length dJ) ((ys.set ((q:Int).toNat) x0).set (((xs.length:Int)-1-(q:Int)).toNat) x1)]++r))
  refine kz<|aJ<|nx<|rg<|ak J s4<|k<|add J J J J aT<|ak J s5<|k<|sub J J J J aT<|au (v:=C ((q:Int)+1)) J J<|au (v:=C (((xs.length:Int)-1-(q:Int))-1)) J J<|z<|bB _ ?_ ⟨(q+1),((ys.set ((q:Int).toNat) x0).set (((xs.length:Int)-1-(q:Int)).toNat) x1),J,s3,(bJ J),(bJ J),H3,aq,(by simp only[anj];exact tK),(by exact Np hs aq aP aq cP)⟩
  omega
 have p0:=dF b0
 refine ex<|aW<|bc<|bg<|D_ J ?_
 have e0:(ys:List _)=xs.reverse:=by exact R1 hs aq
 try rw[←e0]
 refine⟨?_,?_⟩
 · first|rfl|simp only[e0]|(simp only[anj])
 · first|exact H0|simpa +zetaDelta only[e0,anj] using H0
theorem aft:cu aK 177:=⟨_,_,Tryz.func177,rfl,aC⟩
theorem Sb {MZ:OA} {MD:Nat} {vb:List Int} (hM:eG M w) (ac8:cA M w MZ MD vb) (qH:aM i) (BP:aM j) (En:Bk vb i j (vi vb i j)) (BO:(vi vb i j).length≤4097):Calls aK 155 #[R MZ vb MD,C i,C j] w (cg fun v w'=>∃(a0:OA) (c0:Nat),v=.slice a0 (vi vb i j).length c0∧Ext w w'∧bj M 3 w (vi vb i j) (.slice a0 (vi vb i j).length c0) w'):=by
 refine dm 29 Tryz.func155 J J J hM fun f0 ha H=>?_
 let J0:=iL MZ vb MD
 have H0:=H.put (it:=J0) J<|by rw[bN];exact ac8
 have alI:=bf ac8
 have i0:f0 0=R MZ vb MD:=ha 0 bh
 have i1:f0 1=C i:=ha 1 bh
 have i2:f0 2=C j:=ha 2 bh
 have alQ:=En.len;have alV:=Uc En En.last
 refine aB<|au (v:=.slice none 0 0) J J<|bp<|ak J i2<|k<|bs (xs:=([j]:List Int)) (cells:=#[C j]) (e:=3) H0 J (cj J eh) (fun _=>aC) ⟨[C j],[],J,⟨J,BP⟩,J⟩ J aw ?_
 intro g0 w0 bT H1
 refine au (v:=.slice (some ⟨g0,0,none⟩) 1 1) J J<|av<|sq<|aB<|ak J i0<|ak J i2<|k<|ia (H1.rv 1 J) J J J J aq cK aV ?_
 intro iC x0 aP ct
 refine k<|mV ct.w aV J J ?_
 intro cq
 refine au (v:=C x0) J J<|av<|bk<|lp (fun m f w'=>∃(t:Nat) (l:List Int) (a:Int) (a0:OA) (c0:Nat),m=t+1∧f 0=R MZ vb MD∧f 1=C i∧f 7=R a0 l c0∧f 8=C a∧HI M w w' [oL w 3 a0 l c0,J0]∧(1≤t∧t<(vi vb i j).length)∧(l=((vi vb i j).drop t).reverse)∧((vi vb i j)[t-1]? =some a)) _ ⟨((vi vb i j).length-1),[j],x0,(some ⟨g0,0,none⟩),1,J,i0,i1,J,(bJ J),H1,aq,(by exact aaA En),(by exact WU En aP)⟩ ?_
 rintro _ f0 w1 ⟨t,l,a,a0,c0,rfl,s0,s1,s2,s3,H2,ht,hs,gK⟩
 refine sq<|bk<|sq ?_
 have hL_:l.length=(vi vb i j).length-t:=by rw[hs];simp
 have ha_:=Uc En gK
 refine rg<|ak J s2<|ak J s3<|k<|bs (xs:=([a]:List Int)) (cells:=#[C a]) (e:=3) H2 J (cj J eh) (fun _=>aC) ⟨[C a],[],J,⟨J,(show aM (a) from aT)⟩,J⟩ J aw ?_
 intro g1 w2 da H3
 refine k<|lA H3 1 J J J J J J (gP<|H3.at_ 0 J) cK aV J (by simp;omega) J ?_
 let J1:=own w.heap.size 3 (.slice (some ⟨g1,0,none⟩) 1 1) ([a]:List Int)
 intro a1 c1 w3 (H4:HI M w w3 [J1,oL w 3 a1 (l++([a]:List Int)) c1,J0])
 refine au (v:=R a1 (l++([a]:List Int)) c1) J J<|bp<|ak J s3<|ak J s1<|k<|eql J J J J<|z<|nx<|cd (b:=decide (a=i)) J J (fun b0=>?_)<|fun b0=>?_
 ·
  have p0:=dT b0
  refine ex<|VR aw<|aW<|bc<|bg<|cO<|ak (v:=R a1 (l++([a]:List Int)) c1) J J<|k ?_
  have H5:HI M w w3 ([oL w 3 a1 (l++([a]:List Int)) c1]++[J1,J0]):=H4.bU [1,0,2] aw rfl
  have bP:=No (dR:=a1) (dJ:=c1) (xs:=(l++([a]:List Int))) (w:=w) (w_:=w3) (r:=[J1,J0]) (M:=M) H5
  refine ca aft J (ec J e0) bP ?_
  rintro _ w4 ⟨rfl,H6⟩
  have H7:HI M w w4 [own w.heap.size 3 (.slice a1 (l++([a]:List Int)).length c1) ((l++([a]:List Int)).reverse),J1,J0]:=H6
  refine bp<|ak (v:=R a1 (l++([a]:List Int)) c1) J J<|au (v:=R a1 (l++([a]:List Int)) c1) J J<|av<|rt<|r1 J J ?_
  have e0:(((l++([a]:List Int)).reverse):List Int)=vi vb i j:=by exact ad9 En aq aq gK bq hs
  have l0:(l++([a]:List Int)).length=(vi vb i j).length:=by rw[←e0];simp
  have bo:=iB (fun (uT:Nat)=>(.slice a1 uT c1:Value)) l0
  exact⟨a1,c1,bo,H7.below,(ani (fun (n_:Nat)=>bj _ _ _ (vi vb i j) (.slice a1 n_ c1) _) l0).mp ((ani (fun (x_:List Int)=>bj _ _ _ x_ (.slice a1 (l++([a]:List Int)).length c1) _) e0).mp (H7.df 0 J))⟩
 have p0:=dF b0
 refine sk<|aJ<|nx<|rg<|ak J s0<|ak J s3<|k<|ia (H4.rv 2 J) J J J J aq cK aV ?_
 intro rh x1 cP gL
 refine k<|mV gL.w aV J J ?_
 intro dZ
 refine au (v:=C x1) J J<|z ?_
 have H5:HI M w w3 [oL w 3 a1 (l++([a]:List Int)) c1,J0]:=H4.bU [1,2] aw rfl
 refine bB _ ?_ ⟨(t-1),(l++([a]:List Int)),x1,a1,c1,J,s0,s1,J,(bJ J),H5,(by have h_:=YS En aq gK bq;omega),(by exact Pl En aq aq gK hs),(by exact aaB En aq aq gK bq cP)⟩
 omega
theorem afq:cu aK 190:=⟨_,_,Tryz.func190,rfl,aC⟩
theorem afu:cu aK 176:=⟨_,_,Tryz.func176,rfl,aC⟩
theorem ae_ (cP:x=1#64):Calls aK 190 #[aj x,aj y] w (cg fun v w'=>v=.tuple #[aj (0#64),aj y]∧Ext w w'):=by
 refine dm 51 Tryz.func190 J J J py fun f0 ha H=>?_
 have i0:f0 0=aj x:=ha 0 bh
 have i1:f0 1=aj y:=ha 1 bh
 refine aB<|au (v:=aj (0#64)) J J<|au (v:=aj (0#64)) J J<|bp<|ak J i0<|k<|Df x (4294967295#64) J J J J<|au (v:=aj (x &&& (4294967295#64))) J J<|bp<|ak J i0<|k<|DA x 32 J J J J<|au (v:=aj (x >>> 32)) J J<|bp<|ak J i1<|k<|Df y (4294967295#64) J J J J<|au (v:=aj (y &&& (4294967295#64))) J J<|bp<|ak J i1<|k<|DA y 32 J J J J<|au (v:=aj (y >>> 32)) J J<|bp<|ak (v:=aj (x &&& (4294967295#64))) J J<|ak (v:=aj (y &&& (4294967295#64))) J J<|k<|Ff (x &&& (4294967295#64)) (y &&& (4294967295#64)) J J J J<|au (v:=aj ((x &&& (4294967295#64))*(y &&& (4294967295#64)))) J J<|bp<|ak (v:=aj (x >>> 32)) J J<|ak (v:=aj (y &&& (4294967295#64))) J J<|k<|Ff (x >>> 32) (y &&& (4294967295#64)) J J J J<|ak (v:=aj ((x &&& (4294967295#64))*(y &&& (4294967295#64)))) J J<|k<|DA ((x &&& (4294967295#64))*(y &&& (4294967295#64))) 32 J J J J<|k<|Ip ((x >>> 32)*(y &&& (4294967295#64))) (((x &&& (4294967295#64))*(y &&& (4294967295#64))) >>> 32) J J J J<|au (v:=aj (((x >>> 32)*(y &&& (4294967295#64)))+(((x &&& (4294967295#64))*(y &&& (4294967295#64))) >>> 32))) J J<|bp<|ak (v:=aj (((x >>> 32)*(y &&& (4294967295#64)))+(((x &&& (4294967295#64))*(y &&& (4294967295#64))) >>> 32))) J J<|k<|Df (((x >>> 32)*(y &&& (4294967295#64)))+(((x &&& (4294967295#64))*(y &&& (4294967295#64))) >>> 32)) (4294967295#64) J J J J<|au (v:=aj ((((x >>> 32)*(y &&& (4294967295#64)))+(((x &&& (4294967295#64))*(y &&& (4294967295#64))) >>> 32)) &&& (4294967295#64))) J J<|bp<|ak (v:=aj (((x >>> 32)*(y &&& (4294967295#64)))+(((x &&& (4294967295#64))*(y &&& (4294967295#64))) >>> 32))) J J<|k<|DA (((x >>> 32)*(y &&& (4294967295#64)))+(((x &&& (4294967295#64))*(y &&& (4294967295#64))) >>> 32)) 32 J J J J<|au (v:=aj ((((x >>> 32)*(y &&& (4294967295#64)))+(((x &&& (4294967295#64))*(y &&& (4294967295#64))) >>> 32)) >>> 32)) J J<|bp<|ak (v:=aj ((((x >>> 32)*(y &&& (4294967295#64)))+(((x &&& (4294967295#64))*(y &&& (4294967295#64))) >>> 32)) &&& (4294967295#64))) J J<|ak (v:=aj (x &&& (4294967295#64))) J J<|ak (v:=aj (y >>> 32)) J J<|k<|Ff (x &&& (4294967295#64)) (y >>> 32) J J J J<|k<|Ip ((((x >>> 32)*(y &&& (4294967295#64)))+(((x &&& (4294967295#64))*(y &&& (4294967295#64))) >>> 32)) &&& (4294967295#64)) ((x &&& (4294967295#64))*(y >>> 32)) J J J J<|au (v:=aj (((((x >>> 32)*(y &&& (4294967295#64)))+(((x &&& (4294967295#64))*(y &&& (4294967295#64))) >>> 32)) &&& (4294967295#64))+((x &&& (4294967295#64))*(y >>> 32)))) J J<|bp<|ak (v:=aj (x >>> 32)) J J<|ak (v:=aj (y >>> 32)) J J<|k<|Ff (x >>> 32) (y >>> 32) J J J J<|ak (v:=aj ((((x >>> 32)*(y &&& (4294967295#64)))+(((x &&& (4294967295#64))*(y &&& (4294967295#64))) >>> 32)) >>> 32)) J J<|k<|Ip ((x >>> 32)*(y >>> 32)) ((((x >>> 32)*(y &&& (4294967295#64)))+(((x &&& (4294967295#64))*(y &&& (4294967295#64))) >>> 32)) >>> 32) J J J J<|ak (v:=aj (((((x >>> 32)*(y &&& (4294967295#64)))+(((x &&& (4294967295#64))*(y &&& (4294967295#64))) >>> 32)) &&& (4294967295#64))+((x &&& (4294967295#64))*(y >>> 32)))) J J<|k<|DA (((((x >>> 32)*(y &&& (4294967295#64)))+(((x &&& (4294967295#64))*(y &&& (4294967295#64))) >>> 32)) &&& (4294967295#64))+((x &&& (4294967295#64))*(y >>> 32))) 32 J J J J<|k<|Ip (((x >>> 32)*(y >>> 32))+((((x >>> 32)*(y &&& (4294967295#64)))+(((x &&& (4294967295#64))*(y &&& (4294967295#64))) >>> 32)) >>> 32)) ((((((x >>> 32)*(y &&& (4294967295#64)))+(((x &&& (4294967295#64))*(y &&& (4294967295#64))) >>> 32)) &&& (4294967295#64))+((x &&& (4294967295#64))*(y >>> 32))) >>> 32) J J J J<|au (v:=aj ((((x >>> 32)*(y >>> 32))+((((x >>> 32)*(y &&& (4294967295#64)))+(((x &&& (4294967295#64))*(y &&& (4294967295#64))) >>> 32)) >>> 32))+((((((x >>> 32)*(y &&& (4294967295#64)))+(((x &&& (4294967295#64))*(y &&& (4294967295#64))) >>> 32)) &&& (4294967295#64))+((x &&& (4294967295#64))*(y >>> 32))) >>> 32))) J J<|bp<|ak J i0<|ak J i1<|k<|Ff x y J J J J<|au (v:=aj (x*y)) J J<|av<|rt<|r2 J J J ?_
 have e0:((((x >>> 32)*(y >>> 32))+((((x >>> 32)*(y &&& (4294967295#64)))+(((x &&& (4294967295#64))*(y &&& (4294967295#64))) >>> 32)) >>> 32))+((((((x >>> 32)*(y &&& (4294967295#64)))+(((x &&& (4294967295#64))*(y &&& (4294967295#64))) >>> 32)) &&& (4294967295#64))+((x &&& (4294967295#64))*(y >>> 32))) >>> 32):bY)=0#64:=by exact ZP cP
 have e1:(x*y:bY)=y:=by rw[cP];simp
 have bo:=nA (fun (bW:bY) (dK:bY)=>(.tuple #[aj bW,aj dK]:Value)) e0 e1
 exact⟨bo,H.below⟩
theorem mul (cP:x=1#64):Calls aK 176 #[aj x,aj y] w (cg fun v w'=>v=.tuple #[aj (0#64),aj y]∧Ext w w'):=by
 refine dm 30 Tryz.func176 J J J py fun f0 ha H=>?_
 have i0:f0 0=aj x:=ha 0 bh
 have i1:f0 1=aj y:=ha 1 bh
 refine aB<|au (v:=aj (0#64)) J J<|au (v:=aj (0#64)) J J<|av<|sq<|oQ J J J<|sk<|cO<|ak J i0<|ak J i1<|k ?_
 have bP:=ae_ (x:=x) (y:=y) (w:=w) aq
 refine ca afq J (ec J<|ec J e0) bP ?_
 rintro _ w0 ⟨rfl,bT⟩
 have H0:=H.ext bT
 refine ak (v:=.tuple #[aj (0#64),aj y]) J J<|k<|xt J J J<|k<|xt J J J<|au (v:=aj (0#64)) J J<|au (v:=aj y) J J<|bp<|ak (v:=aj (0#64)) J J<|ak (v:=aj y) J J<|au (v:=aj (0#64)) J J<|au (v:=aj y) J J<|av<|rt<|r2 J J J ?_
 exact⟨J,H0.below⟩
theorem P0 (hM:eG M w) (ac5:cA M w dR dJ xs) (Mc:aM n) (cP:xs.length=1) (BH:1≤n) (S1:n≤4096):Calls aK 154 #[R dR xs dJ,C n] w (cg fun v w'=>∃(a0:OA) (c0:Nat),v=.slice a0 (List.replicate n.toNat (xs.headD 0)).length c0∧Ext w w'∧bj M 3 w (List.replicate n.toNat (xs.headD 0)) (.slice a0 (List.replicate n.toNat (xs.headD 0)).length c0) w'):=by
 refine dm 48 Tryz.func154 J J J hM fun f0 ha H=>?_
 let J0:=iL dR xs dJ
 have H0:=H.put (it:=J0) J<|by rw[bN];exact ac5
 have Gi:=bf ac5
 have i0:f0 0=R dR xs dJ:=ha 0 bh
 have i1:f0 1=C n:=ha 1 bh
 refine aB<|au (v:=.slice none 0 0) J J<|av<|sq<|aB<|ak J i1<|k<|lss J J J J<|z<|nx ?_
 have BA:(decide (n<0))=false:=(by rw[anw];omega)
 refine oQ J J BA<|sk<|cO<|ak J i0<|k<|dP J J cK<|k<|Pb J J zB Dz<|ak J i1<|k<|Pb J J zB Dz<|k ?_
 have bP:=mul (x:=(BitVec.ofInt 64 (xs.length:Int))) (y:=(BitVec.ofInt 64 n)) (w:=w)<|by rw[cP];rfl
 refine ca afu J (ec J<|ec J e0) bP ?_
 rintro _ w0 ⟨rfl,bT⟩
 have H1:=H0.ext bT
 refine ak (v:=.tuple #[aj (0#64),aj (BitVec.ofInt 64 n)]) J J<|k<|xt J J J<|k<|xt J J J<|au (v:=aj (0#64)) J J<|au (v:=aj (BitVec.ofInt 64 n)) J J<|av<|sq<|aB<|ak (v:=aj (0#64)) J J<|k<|Yu (0#64) (0#64) J J J J<|ak (v:=.bool (decide ((0#64).toNat<(0#64).toNat))) J J ?_
 have KI:(decide ((0#64).toNat<(0#64).toNat))=false:=aw
 refine aU J J J KI<|mv (v:=aj (BitVec.ofInt 64 n)) J J<|aU J J J KI<|Yu (BitVec.ofInt 64 n) (9223372036854775807#64) J J J J<|k<|cJ J J J J KI J<|z<|nx ?_
 have tr2:(decide ((9223372036854775807#64).toNat<(BitVec.ofInt 64 n).toNat))=false:=(by rw[anw,Hu aq S1];simp;omega)
 refine oQ J J tr2<|sk<|nx<|sq ?_
 have CR:=Hu (n:=n) aq S1
 refine rg<|ak (v:=aj (BitVec.ofInt 64 n)) J J<|k<|YN J J aT Dz zB<|k<|mk (m:=(BitVec.ofInt 64 n).toNat) (zx:=(0:Int)) H1 J J J J cK aV (fun _ _=>⟨J,by unfold aM;omega⟩) aq aq ?_
 intro g0 w1 da (H2:HI M w w1 [own w.heap.size 3 (.slice (some ⟨g0,0,none⟩) ((BitVec.ofInt 64 n).toNat) ((BitVec.ofInt 64 n).toNat)) (List.replicate ((BitVec.ofInt 64 n).toNat) (0:Int)),J0])
 refine au (v:=.slice (some ⟨g0,0,none⟩) ((BitVec.ofInt 64 n).toNat) ((BitVec.ofInt 64 n).toNat)) J J<|bp<|ak (v:=.slice (some ⟨g0,0,none⟩) ((BitVec.ofInt 64 n).toNat) ((BitVec.ofInt 64 n).toNat)) J J<|ak J i0<|k<|aju H2 0 J J J J J J (H2.rv 1 J).src cK aV (by have h_:=Hu (n:=n) aq S1;rw[od,h_];omega) aq ?_
 intro w2 (H3:HI M w w2 [own w.heap.size 3 (.slice (some ⟨g0,0,none⟩) ((BitVec.ofInt 64 n).toNat) ((BitVec.ofInt 64 n).toNat)) (xs++(List.replicate ((BitVec.ofInt 64 n).toNat) (0:Int)).drop xs.length),J0])
 refine au (v:=C (xs.length:Int)) J J<|av<|sq<|bk<|lp (fun m f w'=>∃(q:Nat) (ys:List Int),m=n.toNat-q∧f 7=.slice (some ⟨g0,0,none⟩) ((BitVec.ofInt 64 n).toNat) ((BitVec.ofInt 64 n).toNat)∧f 8=C (q:Int)∧HI M w w' [own w.heap.size 3 (.slice (some ⟨g0,0,none⟩) ((BitVec.ofInt 64 n).toNat) ((BitVec.ofInt 64 n).toNat)) ys,J0]∧(1≤q∧q≤n.toNat)∧(ys.length=n.toNat)∧(ys.take q=List.replicate q (xs.headD 0))) _ ⟨1,(xs++(List.replicate ((BitVec.ofInt 64 n).toNat) (0:Int)).drop xs.length),J,J,(bJ J),H3,aq,(by exact(IM (m:=n.toNat) cP aq<|by rw[od,CR]).1),(by exact(IM (m:=n.toNat) cP aq<|by rw[od,CR]).2)⟩ ?_
 rintro _ f0 w3 ⟨q,ys,rfl,s0,s1,H4,so,tK,hs⟩
 refine sq<|aB<|ak J s1<|ak J s0<|k<|dP J J cK<|k<|lss J J J J<|z<|nx<|cd (b:=decide ((q:Int)<(((BitVec.ofInt 64 n).toNat):Int))) J J (fun b0=>?_)<|fun b0=>?_
 ·
  have p0:=dT b0
  refine sk<|nx<|bk ?_
  let J1:=own w.heap.size 3 (.slice (some ⟨g0,0,none⟩) ((BitVec.ofInt 64 n).toNat) ((BitVec.ofInt 64 n).toNat)) ys
  have H6:HI M w w3 [J0,J1]:=H4.bU [1,0] aw rfl
  let J2:=own w.heap.size 3 (.slice (some ⟨g0,0,none⟩) ((BitVec.ofInt 64 n).toNat) ((BitVec.ofInt 64 n).toNat)) (FE ys ((q:Int).toNat))
  refine Ww [none,none,none,none,none,none,none,none,none,none,some 7] [0,0,0,6,0,0,48,126,255,511] [fun _=>[],fun _=>[],fun _=>[],fun _=>[],fun _=>[],fun _=>[],fun _=>[],fun v_=>[J2],fun _=>[],fun _=>[],fun _=>[J1]] [[],[],[],[10],[],[],[10],[10],[],[]] [fun v_=>v_=C (q:Int),fun v_=>v_=.slice (some ⟨g0,0,none⟩) ((BitVec.ofInt 64 n).toNat) ((BitVec.ofInt 64 n).toNat),fun v_=>v_=C (q:Int),fun v_=>v_=.slice (l_ (some ⟨g0,0,none⟩) ((BitVec.ofInt 64 n).toNat) (q:Int).toNat) (((BitVec.ofInt 64 n).toNat)-(q:Int).toNat) ((BitVec.ofInt 64 n).toNat-(q:Int).toNat),fun v_=>v_=.slice (some ⟨g0,0,none⟩) ((BitVec.ofInt 64 n).toNat) ((BitVec.ofInt 64 n).toNat),fun v_=>v_=C (q:Int),fun v_=>v_=.slice (l_ (some ⟨g0,0,none⟩) ((BitVec.ofInt 64 n).toNat) 0) ((q:Int).toNat) (BitVec.ofInt 64 n).toNat,fun v_=>v_=C ((min ((q:Int).toNat) (ys.length-((q:Int).toNat)):Nat):Int),fun v_=>v_=C ((q:Int)+((min ((q:Int).toNat) (ys.length-((q:Int).toNat)):Nat):Int)),fun v_=>v_=C ((q:Int)+((min ((q:Int).toNat) (ys.length-((q:Int).toNat)):Nat):Int))] [J0] J aC J H6 ?_ ?_
  ·
   refine⟨fun f1 w5 V_ ez lT hp0 hq0 H7=>?_,?_⟩
   ·
    have H8:HI M w w5 ([J0]++ez):=(by have h_:HI M w w5 ([J0]++(ez)):=H7;exact h_)
    refine mv J ((hq0 9 _ J J<|by exact .inr rfl).trans s1) ?_
    exact⟨_,J,J,H8⟩
   refine⟨fun f2 w6 V_ ez Gx Jc I9 dH=>?_,?_⟩
   ·
    have db:HI M w w6 ([J0]++ez):=(by have h_:HI M w w6 ([J0]++(ez)):=dH;exact h_)
    refine mv J ((Gx 7 J).trans s0) ?_
    exact⟨_,J,J,db⟩
   refine⟨fun f3 w7 V_ ez gK SZ nw dz=>?_,?_⟩
   ·
    have cM:HI M w w7 ([J0]++ez):=(by have h_:HI M w w7 ([J0]++(ez)):=dz;exact h_)
    refine mv J ((nw 9 _ J J<|by exact .inr rfl).trans s1) ?_
    exact⟨_,J,J,cM⟩
   refine⟨fun f4 w8 V_ ez zZ yx Ej dt=>?_,?_⟩
   ·
    obtain⟨e0,q0⟩:=yx 1 _ rfl rfl rfl
    have e1:V_ 1=.slice (some ⟨g0,0,none⟩) ((BitVec.ofInt 64 n).toNat) ((BitVec.ofInt 64 n).toNat):=q0
    have s2:f4 39=.slice (some ⟨g0,0,none⟩) ((BitVec.ofInt 64 n).toNat) ((BitVec.ofInt 64 n).toNat):=e0.trans e1
    obtain⟨e2,q1⟩:=yx 2 _ rfl rfl rfl
    have e3:V_ 2=C (q:Int):=q1
    have s3:f4 40=C (q:Int):=e2.trans e3
    have cR:HI M w w8 ([J0,J1]++ez):=(by have h_:HI M w w8 ([J0]++([J1]++(ez))):=dt;exact h_)
    refine abb (cR.at_ 1 J) J J s2 s3 aq cK aV ?_
    exact⟨_,J,J,cR⟩
   refine⟨fun f5 w9 V_ ez X3 El Ei dI=>?_,?_⟩
   ·
    have cF:HI M w w9 ([J0]++ez):=(by have h_:HI M w w9 ([J0]++(ez)):=dI;exact h_)
    refine mv J ((X3 7 J).trans s0) ?_
    exact⟨_,J,J,cF⟩
   refine⟨fun f6 dL V_ ez hs5 OO hq5 dG=>?_,?_⟩
   ·
    have eS:HI M w dL ([J0]++ez):=(by have h_:HI M w dL ([J0]++(ez)):=dG;exact h_)
    refine mv J ((hq5 9 _ J J<|by exact .inr rfl).trans s1) ?_
    exact⟨_,J,J,eS⟩
   refine⟨fun f7 ef V_ ez hs6 Jb hq6 ga=>?_,?_⟩
   ·
    obtain⟨e4,q2⟩:=Jb 4 _ rfl rfl rfl
    have e5:V_ 4=.slice (some ⟨g0,0,none⟩) ((BitVec.ofInt 64 n).toNat) ((BitVec.ofInt 64 n).toNat):=q2
    have s4:f7 42=.slice (some ⟨g0,0,none⟩) ((BitVec.ofInt 64 n).toNat) ((BitVec.ofInt 64 n).toNat):=e4.trans e5
    obtain⟨e6,q3⟩:=Jb 5 _ rfl rfl rfl
    have e7:V_ 5=C (q:Int):=q3
    have s5:f7 43=C (q:Int):=e6.trans e7
    have iI:HI M w ef ([J0,J1]++ez):=(by have h_:HI M w ef ([J0]++([J1]++(ez))):=ga;exact h_)
    refine abc (iI.at_ 1 J) J J s4 s5 aq cK aV ?_
    exact⟨_,J,J,iI⟩
   refine⟨fun f8 fh V_ ez hs7 Ja hq7 kU=>?_,?_⟩
   ·
    obtain⟨e8,q4⟩:=Ja 3 _ rfl rfl rfl
    have e9:V_ 3=.slice (l_ (some ⟨g0,0,none⟩) ((BitVec.ofInt 64 n).toNat) (q:Int).toNat) (((BitVec.ofInt 64 n).toNat)-(q:Int).toNat) ((BitVec.ofInt 64 n).toNat-(q:Int).toNat):=q4
    have s6:f8 41=.slice (l_ (some ⟨g0,0,none⟩) ((BitVec.ofInt 64 n).toNat) (q:Int).toNat) (((BitVec.ofInt 64 n).toNat)-(q:Int).toNat) ((BitVec.ofInt 64 n).toNat-(q:Int).toNat):=e8.trans e9
    obtain⟨TS,q5⟩:=Ja 6 _ rfl rfl rfl
    have rI:V_ 6=.slice (l_ (some ⟨g0,0,none⟩) ((BitVec.ofInt 64 n).toNat) 0) ((q:Int).toNat) (BitVec.ofInt 64 n).toNat:=q5
    have s7:f8 44=.slice (l_ (some ⟨g0,0,none⟩) ((BitVec.ofInt 64 n).toNat) 0) ((q:Int).toNat) (BitVec.ofInt 64 n).toNat:=TS.trans rI
    have iD:HI M w fh ([J0,J1]++ez):=(by have h_:HI M w fh ([J0]++([J1]++(ez))):=kU;exact h_)
    refine ajv iD 1 J J J J (q:=(q:Int).toNat) s6 s7 cK aV aq ?_
    intro iz (ri:HI M w iz ([J0,J2]++ez))
    exact⟨_,J,J,ri⟩
   refine⟨fun f9 jw V_ ez X2 BG hq8 oq=>?_,?_⟩
   ·
    obtain⟨sB,q6⟩:=BG 0 _ rfl rfl rfl
    have rH:V_ 0=C (q:Int):=q6
    have s8:f9 38=C (q:Int):=sB.trans rH
    obtain⟨tv,q7⟩:=BG 7 _ rfl rfl rfl
    have tu:V_ 7=C ((min ((q:Int).toNat) (ys.length-((q:Int).toNat)):Nat):Int):=q7
    have s9:f9 45=C ((min ((q:Int).toNat) (ys.length-((q:Int).toNat)):Nat):Int):=tv.trans tu
    have j7:HI M w jw ([J0]++ez):=(by have h_:HI M w jw ([J0]++(ez)):=oq;exact h_)
    refine add J J s8 s9 aT ?_
    exact⟨_,J,J,j7⟩
   refine⟨fun f10 pZ V_ ez hs9 Ek hq9 kl=>?_,?_⟩
   ·
    obtain⟨e16,q8⟩:=Ek 8 _ rfl rfl rfl
    have e17:V_ 8=C ((q:Int)+((min ((q:Int).toNat) (ys.length-((q:Int).toNat)):Nat):Int)):=q8
    have eo:f10 46=C ((q:Int)+((min ((q:Int).toNat) (ys.length-((q:Int).toNat)):Nat):Int)):=e16.trans e17
    have Ax:HI M w pZ ([J0]++ez):=(by have h_:HI M w pZ ([J0]++(ez)):=kl;exact h_)
    refine jG J eo ?_
    exact⟨_,J,J,Ax⟩
   exact trivial
  ·
   intro f11 uF V_ acw vI vy
   obtain⟨TR,q9⟩:=vI 9 _ rfl rfl
   have e19:V_ 9=C ((q:Int)+((min ((q:Int).toNat) (ys.length-((q:Int).toNat)):Nat):Int)):=q9
   have fb:f11 8=C ((q:Int)+((min ((q:Int).toNat) (ys.length-((q:Int).toNat)):Nat):Int)):=TR.trans e19
   obtain⟨e20,uL⟩:=vI 7 _ rfl rfl
   have e21:V_ 7=C ((min ((q:Int).toNat) (ys.length-((q:Int).toNat)):Nat):Int):=uL
   have fL:=(acw 7 J).trans s0
   have mi:HI M w uF [J0,J2]:=(by have h_:HI M w uF ([J0]++([]++([]++([]++([]++([]++([]++([]++([J2]++([]++([]++([])))))))))))):=vy;exact h_)
   refine aJ ?_
   have wb:HI M w uF [J2,J0]:=mi.bU [1,0] aw rfl
   refine bB _ ?_ ⟨(q+min q (ys.length-q)),(FE ys<|(q:Int).toNat),J,fL,(bJ fb),wb,aq,(by exact(WD aq).trans tK),(by exact U9 hs tK aq)⟩
   omega
 have p0:=dF b0
 refine ex<|aW<|bc<|bg<|cO<|ak J s0<|au (v:=.slice (some ⟨g0,0,none⟩) ((BitVec.ofInt 64 n).toNat) ((BitVec.ofInt 64 n).toNat)) J J<|av<|rt<|r1 J J ?_
 have e0:(ys:List Int)=List.replicate n.toNat (xs.headD 0):=by exact ZA hs tK aq aq
 have l0:((BitVec.ofInt 64 n).toNat)=(List.replicate n.toNat (xs.headD 0)).length:=by rw[od,CR]
 have bo:=iB (fun (uT:Nat)=>(.slice (some ⟨g0,0,none⟩) uT ((BitVec.ofInt 64 n).toNat):Value)) l0
 exact⟨(some ⟨g0,0,none⟩),((BitVec.ofInt 64 n).toNat),bo,H4.below,(ani (fun (n_:Nat)=>bj _ _ _ (List.replicate n.toNat<|xs.headD 0) (.slice (some ⟨g0,0,none⟩) n_ ((BitVec.ofInt 64 n).toNat)) _) l0).mp ((ani (fun (x_:List Int)=>bj _ _ _ x_ (.slice (some ⟨g0,0,none⟩) ((BitVec.ofInt 64 n).toNat) ((BitVec.ofInt 64 n).toNat)) _) e0).mp (H4.df 0 J))⟩
theorem afB:cu aK 154:=⟨_,_,Tryz.func154,rfl,aC⟩
theorem afA:cu aK 155:=⟨_,_,Tryz.func155,rfl,aC⟩
theorem Sc (hM:eG M w) (hT:fP 0 w) (fY:aM mn) (gl:cA M w bA bz mr) (qH:aM i) (BP:aM j) (bV:bF mn mr=true):Calls aK 115 #[.agg #[C mn,R bA mr bz],C i,C j] w (cg fun v w'=>∃(a0:OA) (c0:Nat),v=.tuple #[.slice a0 ((fm mn mr i j).getD []).length c0,.bool ((fm mn mr i j).isSome)]∧Ext w w'∧bj M 3 w ((fm mn mr i j).getD []) (.slice a0 ((fm mn mr i j).getD []).length c0) w'):=by
 refine dm 80 Tryz.func115 J J J hM fun f0 ha H=>?_
 let J0:=iL bA mr bz
 have H0:=H.put (it:=J0) J<|by rw[bN];exact gl
 have np:=bf gl
 have i0:f0 0=.agg #[C mn,R bA mr bz]:=ha 0 bh
 have i1:f0 1=C i:=ha 1 bh
 have i2:f0 2=C j:=ha 2 bh
 have tK:=(bO bV).1;have Jl:=(bO bV).2.2.1;have Ep:=kL bV
 refine aB<|k<|bx H0 J i0 ?_
 intro aX w0 bT (H1:HI M w w0 [box aX #[C mn,R bA mr bz] 26,J0])
 let J1:=box aX #[C mn,R bA mr bz] 26
 refine au (v:=.slice none 0 0) J J<|au (v:=.bool false) J J<|av<|sq<|aB<|ak J i1<|k<|lss J J J J<|ak (v:=.bool (decide (i<0))) J J ?_
 rcases bE (decide (i<0)) with b0|b0
 ·
  have p0:=dT b0
  refine aO J J J b0<|aO J J J b0<|aO J J J b0<|aO J J J b0<|k<|aR J J J J b0 J<|ak (v:=.bool true) J J<|aO J J J J<|aO J J J J<|k<|aR J J J J J J<|ak (v:=.bool true) J J<|aO J J J J<|aO J J J J<|aO J J J J<|aO J J J J<|k<|aR J J J J J J<|av<|nS J J J<|aB<|au (v:=.slice none 0 0) J J<|au (v:=.bool false) J J<|av<|rt<|aL<|r2 J J J ?_
  have e0:([]:List Int)=(fm mn mr i j).getD []:=by rw[sg aq];rfl
  have e1:(false:Bool)=(fm mn mr i j).isSome:=by rw[sg aq];rfl
  have bo:=nA (fun (bW:List Int) (dK:Bool)=>(.tuple #[.slice none bW.length 0,.bool dK]:Value)) e0 e1
  exact⟨none,0,bo,H1.below,(ani (fun (x_:List Int)=>bj _ _ _ x_ (.slice none x_.length 0) _) e0).mp (fN H1.below)⟩
 have p0:=dF b0
 refine aU J J J b0<|mv J i1<|aU J J J b0<|fa kh J J<|aU J J J b0<|lx H1 0 J aV J J J<|aU J J J b0<|geq J J J J<|k<|cJ J J J J b0 J<|ak (v:=.bool (decide (mn≤i))) J J ?_
 rcases bE (decide (mn≤i)) with b1|b1
 ·
  have p1:=dT b1
  refine aO J J J b1<|aO J J J b1<|k<|aR J J J J b1 J<|ak (v:=.bool true) J J<|aO J J J J<|aO J J J J<|aO J J J J<|aO J J J J<|k<|aR J J J J J J<|av<|nS J J J<|aB<|au (v:=.slice none 0 0) J J<|au (v:=.bool false) J J<|av<|rt<|aL<|r2 J J J ?_
  have e0:([]:List Int)=(fm mn mr i j).getD []:=by rw[sg aq];rfl
  have e1:(false:Bool)=(fm mn mr i j).isSome:=by rw[sg aq];rfl
  have bo:=nA (fun (bW:List Int) (dK:Bool)=>(.tuple #[.slice none bW.length 0,.bool dK]:Value)) e0 e1
  exact⟨none,0,bo,H1.below,(ani (fun (x_:List Int)=>bj _ _ _ x_ (.slice none x_.length 0) _) e0).mp (fN H1.below)⟩
 have p1:=dF b1
 refine aU J J J b1<|mv J i2<|aU J J J b1<|lss J J J J<|k<|cJ J J J J b1 J<|ak (v:=.bool (decide (j<0))) J J ?_
 rcases bE (decide (j<0)) with b2|b2
 ·
  have p2:=dT b2
  refine aO J J J b2<|aO J J J b2<|aO J J J b2<|aO J J J b2<|k<|aR J J J J b2 J<|av<|nS J J J<|aB<|au (v:=.slice none 0 0) J J<|au (v:=.bool false) J J<|av<|rt<|aL<|r2 J J J ?_
  have e0:([]:List Int)=(fm mn mr i j).getD []:=by rw[sg aq];rfl
  have e1:(false:Bool)=(fm mn mr i j).isSome:=by rw[sg aq];rfl
  have bo:=nA (fun (bW:List Int) (dK:Bool)=>(.tuple #[.slice none bW.length 0,.bool dK]:Value)) e0 e1
  exact⟨none,0,bo,H1.below,(ani (fun (x_:List Int)=>bj _ _ _ x_ (.slice none x_.length 0) _) e0).mp (fN H1.below)⟩
 have p2:=dF b2
 refine aU J J J b2<|mv J i2<|aU J J J b2<|fa kh J J<|aU J J J b2<|lx H1 0 J aV J J J<|aU J J J b2<|geq J J J J<|k<|cJ J J J J b2 J<|z<|nx<|cd (b:=decide (mn≤j)) J J (fun b3=>?_)<|fun b3=>?_
 ·
  have p3:=dT b3
  refine aB<|au (v:=.slice none 0 0) J J<|au (v:=.bool false) J J<|av<|rt<|aL<|r2 J J J ?_
  have e0:([]:List Int)=(fm mn mr i j).getD []:=by rw[sg aq];rfl
  have e1:(false:Bool)=(fm mn mr i j).isSome:=by rw[sg aq];rfl
  have bo:=nA (fun (bW:List Int) (dK:Bool)=>(.tuple #[.slice none bW.length 0,.bool dK]:Value)) e0 e1
  exact⟨none,0,bo,H1.below,(ani (fun (x_:List Int)=>bj _ _ _ x_ (.slice none x_.length 0) _) e0).mp (fN H1.below)⟩
 have p3:=dF b3
 refine sk<|cO<|k<|bs (xs:=([(-1)]:List Int)) (cells:=#[C (-1)]) (e:=3) H1 J (cj J eh) (fun _=>aC) ⟨[C (-1)],[],J,⟨J,(show aM ((-1)) from aT)⟩,J⟩ J aw ?_
 intro g0 w1 da H2
 refine aS kh J J<|bl H2 1 J aV J J J<|k ?_
 have H3:=H2.freeze 0 J
 have bP:=P0 (xs:=([(-1)]:List Int)) (n:=mn) H3.mb (H3.rv 0 J) fY (by rfl) aq<|by exact(bO bV).2.2.1
 refine ca afB J (ec J<|ec J e0) bP ?_
 rintro _ w2 ⟨a0,c0,rfl,eR,cq⟩
 have H4:=H3.eL cq
 refine au (v:=R a0 (List.replicate mn.toNat<|([(-1)]:List Int).headD 0) c0) J J<|av<|sq ?_
 have CO:((mn.toNat:Nat):Int)=mn:=anX Ep
 refine rg<|ak J i1<|k<|bs (xs:=([i]:List Int)) (cells:=#[C i]) (e:=3) H4 J (cj J eh) (fun _=>aC) ⟨[C i],[],J,⟨J,qH⟩,J⟩ J aw ?_
 intro g1 w3 fH H5
 refine au (v:=.slice (some ⟨g1,0,none⟩) 1 1) J J<|av<|sq<|bk ?_
 let J2:=tg (.slice (some ⟨g0,0,none⟩) 1 1) ([(-1)]:List Int)
 have H6:HI M w w3 [nC w.heap.size 3 (.slice (some ⟨g1,0,none⟩) 1 1) ([i]:List Int),oL w 3 a0 (List.replicate mn.toNat (([(-1)]:List Int).headD 0)) c0,J2,J1,J0]:=H5.toQ 0 rfl
 let ba:=[tg (.slice (some ⟨g0,0,none⟩) 1 1) ([(-1)]:List Int),J1,J0]
 refine lp (fun m f w'=>∃(Ha:List Int) (td:List Int) (a1:OA) (c1:Nat),m=Ha.count (-1)+td.length∧f 1=C i∧f 2=C j∧f 3=pV aX 0∧f 8=R a0 (List.replicate mn.toNat<|([(-1)]:List Int).headD 0) c0∧f 9=R a1 td c1∧HI M w w' (nC w.heap.size 3 (.slice a1 td.length c1) td::own w.heap.size 3 (.slice a0 (List.replicate mn.toNat<|([(-1)]:List Int).headD 0).length c0) Ha::ba)∧(Pv mn.toNat (fW mr) i j Ha td)∧(Ha.length=mn.toNat)∧(Ha.count (-1)+td.length≤mn.toNat+1)) _ ⟨(List.replicate mn.toNat<|([(-1)]:List Int).headD 0),[i],(some ⟨g1,0,none⟩),1,J,i1,i2,J,J,J,H6,(by exact Ui aq aq),bh,(by simp[List.count_replicate_self])⟩ ?_
 rintro _ f0 w4 ⟨Ha,td,a1,c1,rfl,s0,s1,s2,s3,s4,H7,hs,hl,BE⟩
 refine sq<|aB<|ak J s4<|k<|dP J J cK<|k<|gtr J J J J<|z<|nx<|cd (b:=decide (0<(td.length:Int))) J J (fun b4=>?_)<|fun b4=>?_
 ·
  have p4:=dT b4
  refine sk<|nx<|bk<|aB<|ak J s4<|k<|iaQ (H7.at_ 0 J) J J J J aq cK aV ?_
  intro iC x0 aP ct
  refine k<|mV ct aV J J ?_
  intro dZ
  refine au (v:=C x0) J J<|av<|sq ?_
  have eJ:=ad' aq hs aP
  refine rg<|ak J s4<|k<|slQ H7 0 J J J J J aq cK aV ?_
  intro a2 c2 (H8:HI M w w4 [nC w.heap.size 3 (.slice a2 (td.drop 1).length c2) (td.drop 1),own w.heap.size 3 (.slice a0 (List.replicate mn.toNat (([(-1)]:List Int).headD 0)).length c0) Ha,J2,J1,J0])
  refine au (v:=R a2 (td.drop 1) c2) J J<|bp<|aS iw J s2<|bl H8 3 J kW J J J<|ak (v:=C x0) J J<|k<|ia (H8.rv 4 J) J J J J aq ib de ?_
  intro rh x1 cP gL
  refine k<|te gL.w de J J ?_
  intro a3 c3 dY
  have zV:=bf dY
  have H9:=dS H8 dY
  refine k ?_
  have cS:=tZ (r:=x1) H9.mb (hT.ext H9.below) (H9.rv 0 J)<|by exact(bO bV).2.1 _ (dB cP)
  refine ca HT J (ec J e0) cS ?_
  rintro _ w5 ⟨a4,c4,rfl,ja,fu⟩
  have dH:=H9.eL fu
  refine k<|dP J J cK<|ak (v:=C 0) J J<|av<|bk ?_
  let J3:=oL w 3 a4 (cV x1) c4
  refine lp (fun m f w'=>∃(q:Nat) (b2:List Int) (qo:List Int) (a5:OA) (c5:Nat),m=(cV x1).length-q∧f 1=C i∧f 2=C j∧f 3=pV aX 0∧f 8=R a0 (List.replicate mn.toNat<|([(-1)]:List Int).headD 0) c0∧f 9=R a5 qo c5∧f 10=C x0∧f 50=R a4 (cV x1) c4∧f 51=C ((cV x1).length:Int)∧f 52=C (q:Int)∧HI M w w' (J3::iL a3 x1 c3::nC w.heap.size 3 (.slice a5 qo.length c5) qo::own w.heap.size 3 (.slice a0 (List.replicate mn.toNat<|([(-1)]:List Int).headD 0).length c0) b2::ba)∧(q≤(cV x1).length)∧(EO mn.toNat (fW mr) i j b2 qo x0 q)∧(b2.length=mn.toNat)∧(b2.count (-1)+qo.length≤Ha.count (-1)+(td.drop 1).length)) _ ⟨0,Ha,(td.drop 1),a2,c2,J,s0,s1,s2,s3,J,J,J,J,(bJ J),dH,aq,(by exact aaE aq hs aP),(by exact hl),aq⟩ ?_
  rintro _ f1 w6 ⟨q,b2,qo,a5,c5,rfl,s5,s6,s7,s8,s9,eo,fb,fM,fL,db,so,gK,kQ,VU⟩
  refine aB<|k<|lss J J fL fM<|av<|sq<|cd (b:=decide ((q:Int)<((cV x1).length:Int))) J J (fun b5=>?_)<|fun b5=>?_
  ·
   have p5:=dT b5
   refine sk<|nx<|sq<|bk<|aB<|k<|ij (db.at_ 0 J) J J fb fL (by have h_:=mT x1;have lz:=(bO bV).2.2.2.2 _ (dB cP);first|omega|(unfold aM;omega)) cK aV ?_
   intro g2 x2 iq iA kR
   refine k<|mV kR aV J J ?_
   intro je
   refine au (v:=C x2) J J<|av<|sq<|sq ?_
   have GB:=R0 bV cP iA
   refine rg<|ak J s8<|ak (v:=C x2) J J<|k<|ij (db.at_ 3 J) J J J J aq cK aV ?_
   intro g3 x3 kG mW u5
   refine k<|mV u5 aV J J ?_
   intro jT
   refine k<|neq J J J J<|z<|nx<|cd (b:=!decide (x3=(-1))) J J (fun b6=>?_)<|fun b6=>?_
   ·
    have p6:=dF<|fX b6
    refine ex<|aW<|bg<|nx<|rg<|k<|add J J fL J (by have h_:=mT x1;have lz:=(bO bV).2.2.2.2 _ (dB cP);first|omega|(unfold aM;omega))<|ak (v:=C ((q:Int)+1)) J J<|z<|bB _ ?_ ⟨(q+1),b2,qo,a5,c5,J,s5,s6,s7,s8,s9,eo,fb,fM,(bJ J),db,aq,(by exact WZ gK (by rw[←zE bV cP];exact iA) mW aq),(by exact kQ),(by exact VU)⟩
    omega
   have p6:=dT<|eY b6
   refine sk<|cO<|ak J s8<|ak (v:=C x2) J J<|ak J eo<|k<|ij (db.at_ 3 J) J J J J aq cK aV ?_
   intro g4 x4 BF yr xD
   refine k<|pt db 3 J BF J aq aV J J J J (RV.int.2 ⟨J,aT⟩) ?_
   let J4:=own w.heap.size 3 (.slice a0 (List.replicate mn.toNat (([(-1)]:List Int).headD 0)).length c0) (b2.set x2.toNat x0)
   intro w7 (dw:HI M w w7 [J3,iL a3 x1 c3,nC w.heap.size 3 (.slice a5 qo.length c5) qo,J4,J2,J1,J0])
   refine av<|sq<|aB<|ak (v:=C x2) J J<|ak J s6<|k<|eql J J J J<|z<|nx<|cd (b:=decide (x2=j)) J J (fun b7=>?_)<|fun b7=>?_
   ·
    have p7:=dT b7
    refine sq ?_
    obtain⟨w_,acg,VW⟩:=Uh ⟨by omega,by omega⟩ gK (by rw[←zE bV cP];exact iA) mW aq bq aq
    have Qm:=ad_ acg
    refine rg<|ak J s8<|ak J s5<|ak J s6<|k ?_
    have Jq:((List.replicate mn.toNat (([(-1)]:List Int).headD 0)).length:Nat)=(b2.set x2.toNat x0).length:=E9 (dw.at_ 3 rfl)
    let bZ:=[tg (.slice (some ⟨g0,0,none⟩) 1 1) ([(-1)]:List Int),box aX #[C mn,R bA mr bz] 26,iL bA mr bz]
    have dz:HI M w w7 (oL w 3 a4 (cV x1) c4::iL a3 x1 c3::nC w.heap.size 3 (.slice a5 qo.length c5) qo::oL w 3 a0 (b2.set x2.toNat x0) c0::bZ):=(by have h_:HI M w w7 (oL w 3 a4 (cV x1) c4::iL a3 x1 c3::nC w.heap.size 3 (.slice a5 qo.length c5) qo::own w.heap.size 3 (.slice a0 (List.replicate mn.toNat (([(-1)]:List Int).headD 0)).length c0) (b2.set x2.toNat x0)::bZ):=dw;rw[Jq] at h_;exact h_)
    have cM:=dz.freeze 3 J
    have fS:=Sb (vb:=(b2.set x2.toNat x0)) (i:=i) (j:=j) cM.mb (cM.rv 3 J) qH BP (by rw[Qm];exact acg)<|by have h_:=FM (FK VW) aq;rw[Qm];unfold rm;rw[anW];omega
    refine ca afA J (ec (Eq.trans (b:=(.slice a0 (List.replicate mn.toNat<|([(-1)]:List Int).headD 0).length c0:Value)) rfl (ani (fun n_=>Value.slice a0 n_ c0) Jq))<|ec J<|ec J e0) fS ?_
    rintro _ w8 ⟨a6,c6,rfl,ji,jd⟩
    have dW:=cM.eL jd
    refine au (v:=R a6 (vi (b2.set x2.toNat x0) i j) c6) J J<|au (v:=.bool true) J J<|av<|rt<|aL<|bQ<|aL<|dU<|bQ<|bQ<|dU<|bQ<|aL<|r2 J J J ?_
    have e0:(vi (b2.set x2.toNat x0) i j:List Int)=(fm mn mr i j).getD []:=by rw[zK aq,VW];first|exact Qm|rfl
    have e1:(true:Bool)=(fm mn mr i j).isSome:=by rw[zK aq,VW];first|exact Qm|rfl
    have bo:=nA (fun (bW:List Int) (dK:Bool)=>(.tuple #[.slice a6 bW.length c6,.bool dK]:Value)) e0 e1
    exact⟨a6,c6,bo,dW.below,(ani (fun (x_:List Int)=>bj _ _ _ x_ (.slice a6 x_.length c6) _) e0).mp (dW.df 0 J)⟩
   have p7:=dF b7
   refine sk<|cO<|ak (v:=C x2) J J<|ak J s5<|k<|neq J J J J<|z<|nx<|cd (b:=!decide (x2=i)) J J (fun b8=>?_)<|fun b8=>?_
   ·
    have p8:=dF<|fX b8
    refine rg<|ak J s9<|ak (v:=C x2) J J<|k<|bs (xs:=([x2]:List Int)) (cells:=#[C x2]) (e:=3) dw J (cj J eh) (fun _=>aC) ⟨[C x2],[],J,⟨J,(show aM (x2) from aT)⟩,J⟩ J aw ?_
    intro g5 w8 ji dz
    refine k<|apQ dz 3 J J J J J J (gP<|dz.at_ 0 J) bh cK aV J (by (simp only[iM,gr];have h_:=anI (l:=td) (i:=1);omega)) (by (simp only[iM,gr];have h_:=anI (l:=td) (i:=1);omega)) ?_
    intro a6 c6 w9 (cM:HI M w w9 [own w.heap.size 3 (.slice (some ⟨g5,0,none⟩) 1 1) ([x2]:List Int),J3,iL a3 x1 c3,nC w.heap.size 3 (.slice a6 (qo++([x2]:List Int)).length c6) (qo++([x2]:List Int)),J4,J2,J1,J0])
    refine au (v:=R a6 (qo++([x2]:List Int)) c6) J J<|z<|aJ<|nx<|rg<|k<|add J J fL J (by have h_:=mT x1;have lz:=(bO bV).2.2.2.2 _ (dB cP);first|omega|(unfold aM;omega))<|ak (v:=C ((q:Int)+1)) J J<|z ?_
    have dW:HI M w w9 [J3,iL a3 x1 c3,nC w.heap.size 3 (.slice a6 (qo++([x2]:List Int)).length c6) (qo++([x2]:List Int)),J4,J2,J1,J0]:=cM.bU [1,2,3,4,5,6,7] aw rfl
    refine bB _ ?_ ⟨(q+1),(b2.set x2.toNat x0),(qo++([x2]:List Int)),a6,c6,J,s5,s6,s7,s8,J,eo,fb,fM,(bJ J),dW,aq,(by exact W0 gK (by rw[←zE bV cP];exact iA) mW aq bq bq aq aq),(by rw[anj];exact kQ),(by exact(Gd mW aq aq VU).2)⟩
    omega
   have p8:=dT<|eY b8
   refine sk<|aJ<|nx<|rg<|k<|add J J fL J (by have h_:=mT x1;have lz:=(bO bV).2.2.2.2 _ (dB cP);first|omega|(unfold aM;omega))<|ak (v:=C ((q:Int)+1)) J J<|z<|bB _ ?_ ⟨(q+1),(b2.set x2.toNat x0),qo,a5,c5,J,s5,s6,s7,s8,s9,eo,fb,fM,(bJ J),dw,aq,(by exact af' gK (by rw[←zE bV cP];exact iA) mW aq bq aq aq),(by rw[anj];exact kQ),(by exact(Gd mW aq aq VU).1)⟩
   omega
  have p5:=dF b5
  refine ex<|aW<|bc<|bg<|aJ ?_
  have dw:HI M w w6 [nC w.heap.size 3 (.slice a5 qo.length c5) qo,own w.heap.size 3 (.slice a0 (List.replicate mn.toNat (([(-1)]:List Int).headD 0)).length c0) b2,J2,J1,J0]:=db.bU [2,3,4,5,6] aw rfl
  refine bB _ ?_ ⟨b2,qo,a5,c5,J,s5,s6,s7,s8,s9,dw,(by exact W1 gK (by rw[←zE bV cP];omega)),(by exact kQ),(by have h_:=anI (l:=td) (i:=1);omega)⟩
  have h_:=anI (l:=td) (i:=1);omega
 have p4:=dF b4
 refine ex<|aW<|bc<|bg<|cO<|au (v:=.slice none 0 0) J J<|au (v:=.bool false) J J<|av<|rt<|r2 J J J ?_
 have e0:([]:List Int)=(fm mn mr i j).getD []:=by rw[zK aq,Pn hs (NZ bq)];try rfl
 have e1:(false:Bool)=(fm mn mr i j).isSome:=by rw[zK aq,Pn hs (NZ bq)];try rfl
 have bo:=nA (fun (bW:List Int) (dK:Bool)=>(.tuple #[.slice none bW.length 0,.bool dK]:Value)) e0 e1
 exact⟨none,0,bo,H7.below,(ani (fun (x_:List Int)=>bj _ _ _ x_ (.slice none x_.length 0) _) e0).mp (fN H7.below)⟩
theorem lV:gO aK 142 1 3:=⟨_,_,Tryz.underlying142,rfl,rfl,aC⟩
theorem nB:ei aK 31 1 false 24 (.slice none 0 0):=⟨aC,aC⟩
theorem AE:ei aK 175 5 true 40 (.agg #[.int .i64 0,.int .i64 0,.int .i64 0,.int .i64 0,.int .i64 0]):=⟨aC,aC⟩
theorem KF:aK.underlying 31=some (.slice 175):=aC
theorem DR:gO aK 142 2 4:=⟨_,_,Tryz.underlying142,rfl,rfl,aC⟩
theorem JQ:ei aK 139 1 false 8 (.map none):=⟨aC,aC⟩
theorem OZ:gO aK 175 1 1:=⟨_,_,Tryz.underlying175,rfl,rfl,aC⟩
theorem OY:gO aK 175 2 2:=⟨_,_,Tryz.underlying175,rfl,rfl,aC⟩
theorem aeX:Pt aK 170 [some (0,0),some (1,0)]:=⟨aC,aC,aC,aC⟩
theorem JV:Is aK 139:=VH (by kernel_rfl:aK.underlying 139=some (.map 170 3)) (za aeX) aV
theorem HW:gO aK 142 0 0:=⟨_,_,Tryz.underlying142,rfl,rfl,aC⟩
theorem Kb:cu aK 117:=⟨_,_,Tryz.func117,rfl,aC⟩
theorem qV:gO aK 142 3 5:=⟨_,_,Tryz.underlying142,rfl,rfl,aC⟩
theorem afS:cu aK 115:=⟨_,_,Tryz.func115,rfl,aC⟩
theorem YD:cu aK 116:=⟨_,_,Tryz.func116,rfl,aC⟩
theorem Nv (fY:aM mn) (H:HI M w w_ ([iL ay I ax,iL aA U az,iL bA mr bz]++r)):Calls aK 78 #[.agg #[.slice aE aF aD,R ay I ax,R aA U az],.agg #[C mn,R bA mr bz]] w_ (cg fun v w'=>∃(YT:Nat) (a0:OA) (c0:Nat) (b1:Nat) (b2:Nat),v=pV YT 0∧HI M w w' ([box YT #[.slice aE aF aD,R ay I ax,R aA U az,.slice a0 ([]:List cL).length c0,.map (some b1),C mn,R bA mr bz,.map (some b2)] 142,oL w 175 a0 ([]:List cL) c0,bX b1 ([]:KV),bS b2 ([]:List ((Int×Int)×Bool)),iL ay I ax,iL aA U az,iL bA mr bz]++r)):=by
 refine enter 11 Tryz.func78 J J J fun f0 ha=>?_
 have iU:=bf<|H.rv 0 J
 have kE:=bf<|H.rv 1 J
 have np:=bf<|H.rv 2 J
 have i0:f0 0=.agg #[.slice aE aF aD,R ay I ax,R aA U az]:=ha 0 bh
 have i1:f0 1=.agg #[C mn,R bA mr bz]:=ha 1 bh
 refine aB<|k<|bx H J i0 ?_
 let J1:=iL ay I ax
 let J2:=iL aA U az
 let J3:=iL bA mr bz
 let ba:=[J1,J2,J3]
 intro aX w0 bT (H0:HI M w w0 ((box aX #[.slice aE aF aD,R ay I ax,R aA U az] 47::ba)++r))
 let J0:=box aX #[.slice aE aF aD,R ay I ax,R aA U az] 47
 refine k<|bx H0 J i1 ?_
 intro aZ w1 da (H1:HI M w w1 ((box aZ #[C mn,R bA mr bz] 26::J0::ba)++r))
 let J4:=box aZ #[C mn,R bA mr bz] 26
 refine au (v:=.pointer none) J J<|bp<|k<|cz H1 1 J dN J J aw J<|k<|mm H1 ?_
 intro dD w2 eR (H2:HI M w w2 ((bX dD ([]:KV)::J4::J0::ba)++r))
 refine k<|cz H2 1 J bm J J aw J<|k<|mmP H2 ?_
 let bZ:=bX dD ([]:KV)::J4::J0::ba
 intro fO w3 fH (H3:HI M w w3 ((bS fO ([]:List ((Int×Int)×Bool))::bZ)++r))
 refine k<|bd (v:=.agg #[.slice aE aF aD,R ay I ax,R aA U az,.slice none 0 0,.map (some dD),C mn,R bA mr bz,.map (some fO)]) J (cj J<|cj J<|cj J<|cj J eh) (fun _=>aC)<|k<|bx H3 J J ?_
 let dE:=bS fO ([]:List ((Int×Int)×Bool))::bZ
 intro bD w4 ja (H4:HI M w w4 ((box bD #[.slice aE aF aD,R ay I ax,R aA U az,.slice none 0 0,.map (some dD),C mn,R bA mr bz,.map (some fO)] 142::dE)++r))
 let J5:=box bD #[.slice aE aF aD,R ay I ax,R aA U az,.slice none 0 0,.map (some dD),C mn,R bA mr bz,.map (some fO)] 142
 refine au (v:=pV bD 0) J J<|av<|rt<|r1 J J ?_
 have H5:=H4.rl cL 175
 let J6:=own w.heap.size 175 (.slice none 0 0) ([]:List cL)
 have H6:=HI.aR (l:=(J6::J5::dE)) (l':=[J5,J6,bX dD ([]:KV),bS fO ([]:List ((Int×Int)×Bool)),J1,J2,J3]) (t:=r) H5 [1,0,3,2,6,7,8] aw J J
 have e0:(([]:List cL):List cL)=([]:List cL):=rfl
 try rw[←e0]
 refine⟨bD,none,0,dD,fO,?_,?_⟩
 · first|rfl|simp only[e0]|(simp only[anj])
 · first|exact H6|simpa +zetaDelta only[e0,anj] using H6
theorem yb {k_:Int} {g_:Int} {h_:Int} (qG:aM pn) (aix:aM k_) (Fs:aM f_) (HS:aM t_) (aiz:aM g_) (aiy:aM h_) (HP:sp.length≤3000000000000) (H:HI M w w_ ([box cW #[.slice aE aF aD,R ay I ax,R aA U az,R ey sp ew,.map (some bw),C pn,R cZ pr cY,.map (some bH)] 142,iL ay I ax,iL aA U az,oL w 175 ey sp ew,bX bw mp,iL cZ pr cY,bS bH mq]++r)):Calls aK 117 #[pV cW 0,.agg #[C k_,C f_,C t_,C g_,C h_]] w_ (cg fun v w'=>∃(nV:OA) (nU:Nat),v=C ((sp.length:Nat):Int)∧HI M w w' ([box cW #[.slice aE aF aD,R ay I ax,R aA U az,.slice nV (sp++[(k_,f_,t_,g_,h_)]).length nU,.map (some bw),C pn,R cZ pr cY,.map (some bH)] 142,iL ay I ax,iL aA U az,oL w 175 nV (sp++[(k_,f_,t_,g_,h_)]) nU,bX bw (jn mp (f_,t_) ((sp.length:Nat):Int)),iL cZ pr cY,bS bH mq]++r)):=by
 refine enter 33 Tryz.func117 J J J fun f0 ha=>?_
 have iU:=bf<|H.rv 1 J
 have kE:=bf<|H.rv 2 J
 have DH:=j'<|H.at_ 3 J
 have DI:=bf<|H.rv 5 J
 have i0:f0 0=pV cW 0:=ha 0 bh
 have i1:f0 1=.agg #[C k_,C f_,C t_,C g_,C h_]:=ha 1 bh
 have acO:(sp++[(k_,f_,t_,g_,h_)]).length=sp.length+1:=by simp
 refine aB<|k<|bx H J i1 ?_
 let J1:=box cW #[.slice aE aF aD,R ay I ax,R aA U az,R ey sp ew,.map (some bw),C pn,R cZ pr cY,.map (some bH)] 142
 let J2:=iL ay I ax
 let J3:=iL aA U az
 let J4:=iL cZ pr cY
 let ba:=[bX bw mp,J4,bS bH mq]
 intro aX w0 bT (H0:HI M w w0 ((box aX #[C k_,C f_,C t_,C g_,C h_] 175::J1::J2::J3::oL w 175 ey sp ew::ba)++r))
 let J0:=box aX #[C k_,C f_,C t_,C g_,C h_] 175
 refine au (v:=C 0) J J<|av<|sq<|mg [.s,.r,.r,.r,.r,.r,.r,.e,.f,.f,.e] (fun _=>True) J aC (fun _ _=>trivial)<|yq J J<|kq (fun _ _=>mv J i0 e1)<|bM<|kq (fun _ _=>mv J i0 e1)<|bM<|kq (fun _ _=>nc J J e1)<|bM<|kq (fun _ _=>fa lV J J e1)<|bM<|kq (fun _ x_=>lx (H0.ext x_) 1 J nB J J J e1)<|bM<|kq (fun _ x_=>cz (H0.ext x_) 0 J AE J J aw J e1)<|zq<|yu J (fun _ v w'=>∃(a0:OA) (c0:Nat),v=R a0 ([(k_,f_,t_,g_,h_)]:List cL) c0∧RV H0.fV w' (R a0 ([(k_,f_,t_,g_,h_)]:List cL) c0) ([(k_,f_,t_,g_,h_)]:List cL)) J jk J (fun v_ N_ x_ n_=>?_) ?_
 ·
  have H3:=H0.ext x_
  refine bs (xs:=([(k_,f_,t_,g_,h_)]:List cL)) (cells:=#[C k_,C f_,C t_,C g_,C h_]) (e:=175) H3 J (cj J eh) (fun _=>aC) ⟨[C k_,C f_,C t_,C g_,C h_],[],J,⟨_,_,J,⟨J,aix⟩,⟨_,_,J,⟨J,Fs⟩,⟨_,_,J,⟨J,HS⟩,⟨_,_,J,⟨J,aiz⟩,⟨J,aiy⟩⟩⟩⟩⟩,J⟩ J aw ?_
  intro g1 w2 eR (H4:HI M w w2 ((own w.heap.size 175 (.slice (some ⟨g1,0,none⟩) 1 1) ([(k_,f_,t_,g_,h_)]:List cL)::J0::J1::J2::J3::oL w 175 ey sp ew::ba)++r))
  have H5:=H4.freeze 0 J
  exact⟨_,J,eR,⟨(some ⟨g1,0,none⟩),1,J,(mK J<|H5.rv 0 J)⟩⟩
 refine ye<|yf J (fun _ _=>nc J J e3)<|yf J (fun _ _=>fa lV J J e3)<|ye<|yz ?_
 intro w3 f0 _ fH _ _ cB iN
 have H6:=H0.ext fH
 have s0:=(cB 0 J).trans i0
 have s1:=cB 3 J
 have s2:=cB 10 J
 obtain⟨a1,c1,s3,dZ⟩:=iN 0 _ _ rfl
 let J5:=iL a1 ([(k_,f_,t_,g_,h_)]:List cL) c1
 have H7:=H6.put (it:=J5) J dZ
 have s4:=cB 15 J
 refine j5<|lA H7 5 J J J J s2 s3 (H7.rv 0 J).src KF AE J (by simp only[iM,gr];omega) J ?_
 intro a2 c2 w4 (H9:HI M w w4 ((J5::J0::J1::J2::J3::oL w 175 a2 (sp++([(k_,f_,t_,g_,h_)]:List cL)) c2::ba)++r))
 let J6:=oL w 175 a2 (sp++([(k_,f_,t_,g_,h_)]:List cL)) c2
 refine j5<|bt H9 2 J nB J J s4 J J J J ?_
 let J7:=box cW #[.slice aE aF aD,R ay I ax,R aA U az,R a2 (sp++([(k_,f_,t_,g_,h_)]:List cL)) c2,.map (some bw),C pn,R cZ pr cY,.map (some bH)] 142
 intro w5 (dH:HI M w w5 ((J5::J0::J7::J2::J3::J6::ba)++r))
 refine kz<|cO<|ak J s0<|k<|nc J J<|aS lV J J<|bl dH 2 J nB J J J<|k<|dP J J KF<|k<|sub J J J J aT<|au (v:=C (((sp++([(k_,f_,t_,g_,h_)]:List cL)).length:Int)-1)) J J<|av<|sq<|mg [.r,.r,.r,.r,.r,.r,.r,.r,.r,.r,.e] (fun _=>True) J aC (fun _ _=>trivial)<|yq J J<|kq (fun _ _=>mv J s0 e1)<|bM<|kq (fun _ _=>nc J J e1)<|bM<|kq (fun _ _=>fa DR J J e1)<|bM<|kq (fun _ x_=>lx (dH.ext x_) 2 J JQ J J J e1)<|bM<|kq (fun _ _=>fa OZ J s1 e1)<|bM<|kq (fun _ x_=>lx (dH.ext x_) 1 J aV J J J e1)<|bM<|kq (fun _ _=>fa OY J s1 e1)<|bM<|kq (fun _ x_=>lx (dH.ext x_) 1 J aV J J J e1)<|bM<|kq (fun _ _=>bd (v:=.agg #[C f_,C t_]) J (cj J<|cj J eh) (fun _=>aC) e1)<|bM<|kq (fun _ _=>mv (v:=C (((sp++([(k_,f_,t_,g_,h_)]:List cL)).length:Int)-1)) J J e1)<|zq<|ye<|yz ?_
 intro w6 f1 _ ja _ _ fF zY
 have db:=dH.ext ja
 have s5:=fF 5 J
 have s6:=fF 25 J
 have s7:=fF 30 J
 have s8:=fF 31 J
 refine j5<|XG (k:=(f_,t_)) JV db 6 J J J J s6 s7 s8 aT ?_
 let J8:=bX bw (jn mp (f_,t_) (((sp++([(k_,f_,t_,g_,h_)]:List cL)).length:Int)-1))
 let bZ:=[J7,J2,J3,J6,J8,J4,bS bH mq]
 intro w7 (dw:HI M w w7 ((J5::J0::bZ)++r))
 refine kz<|cO<|ak J s5<|au (v:=C (((sp++([(k_,f_,t_,g_,h_)]:List cL)).length:Int)-1)) J J<|av<|rt<|r1 J J ?_
 have dz:=HI.aR (l:=(J5::J0::bZ)) (l':=bZ) (t:=r) dw [2,3,4,5,6,7,8] aw J J
 have e0:(((sp++([(k_,f_,t_,g_,h_)]:List cL)).length:Int)-1:Int)=((sp.length:Nat):Int):=by rw[acO];omega
 have e1:((sp++([(k_,f_,t_,g_,h_)]:List cL)):List _)=(sp++[(k_,f_,t_,g_,h_)]):=rfl
 have e2:(jn mp (f_,t_) (((sp++([(k_,f_,t_,g_,h_)]:List cL)).length:Int)-1):KV)=(jn mp (f_,t_) ((sp.length:Nat):Int)):=by rw[acO];congr 1;omega
 try rw[←e0]
 try rw[←e1]
 try rw[←e2]
 refine⟨a2,c2,?_,?_⟩
 · first|rfl|simp only[e0,e1,e2]|(simp only[anj])
 · first|exact dz|simpa +zetaDelta only[e0,e1,e2,anj] using dz
theorem F6 (qG:aM pn) (Fs:aM f_) (HS:aM t_) (HP:sp.length≤2900000000000) (ht_:0≤t_∧t_<((U.length:Nat):Int)) (H:HI M w w_ ([box cW #[.slice aE aF aD,R ay I ax,R aA U az,R ey sp ew,.map (some bw),C pn,R cZ pr cY,.map (some bH)] 142,iL ay I ax,iL aA U az,oL w 175 ey sp ew,bX bw mp,iL cZ pr cY,bS bH mq]++r)):Calls aK 116 #[pV cW 0,C f_,C t_] w_ (cg fun v w'=>∃(ix:Int) (sR:List cL) (Gg:KV) (nV:OA) (nU:Nat),v=C ix∧HI M w w' ([box cW #[.slice aE aF aD,R ay I ax,R aA U az,R nV sR nU,.map (some bw),C pn,R cZ pr cY,.map (some bH)] 142,iL ay I ax,iL aA U az,oL w 175 nV sR nU,bX bw Gg,iL cZ pr cY,bS bH mq]++r)∧sR.length≤sp.length+1∧aM ix):=by
 refine enter 39 Tryz.func116 J J J fun f0 ha=>?_
 have iU:=bf<|H.rv 1 J
 have kE:=bf<|H.rv 2 J
 have DH:=j'<|H.at_ 3 J
 have DI:=bf<|H.rv 5 J
 have i0:f0 0=pV cW 0:=ha 0 bh
 have i1:f0 1=C f_:=ha 1 bh
 have i2:f0 2=C t_:=ha 2 bh
 refine aB<|au (v:=C 0) J J<|av<|sq<|aB<|ak J i0<|k<|nc J J<|aS DR J J<|bl H 0 J JQ J J J<|ak J i1<|ak J i2<|k<|bd (v:=.agg #[C f_,C t_]) J (cj J<|cj J eh) (fun _=>aC)<|k<|XK (k:=(f_,t_)) JV H 4 J J J J J ?_
 intro cq
 refine ak (v:=.tuple #[C ((getM mp (f_,t_)).getD 0),.bool ((getM mp (f_,t_)).isSome)]) J J<|k<|xt J J J<|k<|xt J J J<|au (v:=C ((getM mp (f_,t_)).getD 0)) J J<|au (v:=.bool ((getM mp (f_,t_)).isSome)) J J<|bp<|ak (v:=.bool ((getM mp (f_,t_)).isSome)) J J<|z<|nx<|cd (b:=(getM mp (f_,t_)).isSome) J J (fun b0=>?_)<|fun b0=>?_
 ·
  refine aB<|ak (v:=C ((getM mp (f_,t_)).getD 0)) J J<|au (v:=C ((getM mp (f_,t_)).getD 0)) J J<|av<|rt<|aL<|r1 J J ?_
  have e0:((getM mp (f_,t_)).getD 0:Int)=((getM mp (f_,t_)).getD 0):=rfl
  try rw[←e0]
  refine⟨((getM mp (f_,t_)).getD 0),sp,mp,ey,ew,?_,?_,aq,bq⟩
  · first|rfl|simp only[e0]|(simp only[anj])
  · first|exact H|simpa +zetaDelta only[e0,anj] using H
 refine sk<|cO<|au (v:=C 1) J J<|av<|sq<|aB<|ak J i0<|k<|nc J J<|aS HW J J<|aS tq J J<|bl H 0 J qm J J J<|ak J i2<|k<|ia (H.rv 2 J) J J J J aq cK aV ?_
 intro iC x0 aP ct
 refine k<|mV ct.w aV J J ?_
 intro dZ
 refine ak J i1<|k<|eql J J J J<|z<|nx<|cd (b:=decide (x0=f_)) J J (fun b1=>?_)<|fun b1=>?_
 ·
  refine rg<|au (v:=C 2) J J<|bp<|ak J i0<|ak (v:=C 2) J J<|ak J i1<|ak J i2<|k<|bd (v:=.agg #[C 2,C f_,C t_,C (-1),C (-1)]) J (cj J<|cj J<|cj J<|cj J<|cj J eh) (fun _=>aC)<|k ?_
  let J0:=box cW #[.slice aE aF aD,R ay I ax,R aA U az,R ey sp ew,.map (some bw),C pn,R cZ pr cY,.map (some bH)] 142
  let ba:=[J0,iL ay I ax,iL aA U az,oL w 175 ey sp ew,bX bw mp,iL cZ pr cY,bS bH mq]
  have H0:HI M w w_ (ba++([]++r)):=HI.aR (l:=ba) (l':=ba) (t:=r) H [0,1,2,3,4,5,6] aw rfl rfl
  have bP:=yb (cW:=cW) (aE:=aE) (aF:=aF) (aD:=aD) (ay:=ay) (ax:=ax) (I:=I) (aA:=aA) (az:=az) (U:=U) (ey:=ey) (ew:=ew) (sp:=sp) (bw:=bw) (mp:=mp) (pn:=pn) (cZ:=cZ) (cY:=cY) (pr:=pr) (bH:=bH) (mq:=mq) (k_:=2) (f_:=f_) (t_:=t_) (g_:=(-1)) (h_:=(-1)) (w:=w) (w_:=w_) (r:=([]++r)) (M:=M) qG aT Fs HS aT aT aq H0
  refine ca Kb J (ec J<|ec J e0) bP ?_
  rintro _ w0 ⟨a0,c0,rfl,H1⟩
  have H2:HI M w w0 ([box cW #[.slice aE aF aD,R ay I ax,R aA U az,R a0 (sp++[(2,f_,t_,(-1),(-1))]) c0,.map (some bw),C pn,R cZ pr cY,.map (some bH)] 142,iL ay I ax,iL aA U az,oL w 175 a0 (sp++[(2,f_,t_,(-1),(-1))]) c0,bX bw (jn mp (f_,t_) ((sp.length:Nat):Int)),iL cZ pr cY,bS bH mq]++r):=H1
  refine au (v:=C ((sp.length:Nat):Int)) J J<|av<|rt<|r1 J J ?_
  refine⟨((sp.length:Nat):Int),(sp++[(2,f_,t_,(-1),(-1))]),(jn mp (f_,t_) ((sp.length:Nat):Int)),a0,c0,?_,?_,(by simp only[fA,iM,gr];omega),aT⟩
  · first|rfl|simp only[anj]
  · first|exact H2|simpa +zetaDelta only[anj] using H2
 refine sk<|cO<|ak J i0<|ak (v:=C 1) J J<|ak J i1<|ak J i2<|k<|bd (v:=.agg #[C 1,C f_,C t_,C (-1),C (-1)]) J (cj J<|cj J<|cj J<|cj J<|cj J eh) (fun _=>aC)<|k ?_
 let J1:=box cW #[.slice aE aF aD,R ay I ax,R aA U az,R ey sp ew,.map (some bw),C pn,R cZ pr cY,.map (some bH)] 142
 let bZ:=[J1,iL ay I ax,iL aA U az,oL w 175 ey sp ew,bX bw mp,iL cZ pr cY,bS bH mq]
 have H0:HI M w w_ (bZ++([]++r)):=HI.aR (l:=bZ) (l':=bZ) (t:=r) H [0,1,2,3,4,5,6] aw rfl rfl
 have bP:=yb (cW:=cW) (aE:=aE) (aF:=aF) (aD:=aD) (ay:=ay) (ax:=ax) (I:=I) (aA:=aA) (az:=az) (U:=U) (ey:=ey) (ew:=ew) (sp:=sp) (bw:=bw) (mp:=mp) (pn:=pn) (cZ:=cZ) (cY:=cY) (pr:=pr) (bH:=bH) (mq:=mq) (k_:=1) (f_:=f_) (t_:=t_) (g_:=(-1)) (h_:=(-1)) (w:=w) (w_:=w_) (r:=([]++r)) (M:=M) qG aT Fs HS aT aT aq H0
 refine ca Kb J (ec J<|ec J e0) bP ?_
 rintro _ w0 ⟨a0,c0,rfl,H1⟩
 have H2:HI M w w0 ([box cW #[.slice aE aF aD,R ay I ax,R aA U az,R a0 (sp++[(1,f_,t_,(-1),(-1))]) c0,.map (some bw),C pn,R cZ pr cY,.map (some bH)] 142,iL ay I ax,iL aA U az,oL w 175 a0 (sp++[(1,f_,t_,(-1),(-1))]) c0,bX bw (jn mp (f_,t_) ((sp.length:Nat):Int)),iL cZ pr cY,bS bH mq]++r):=H1
 refine au (v:=C ((sp.length:Nat):Int)) J J<|av<|rt<|r1 J J ?_
 refine⟨((sp.length:Nat):Int),(sp++[(1,f_,t_,(-1),(-1))]),(jn mp (f_,t_) ((sp.length:Nat):Int)),a0,c0,?_,?_,(by simp only[fA,iM,gr];omega),aT⟩
 · first|rfl|simp only[anj]
 · first|exact H2|simpa +zetaDelta only[anj] using H2
theorem mD (qG:aM pn) (Fs:aM f_) (HS:aM t_) (hT:fP 0 w) (HP:sp.length≤2800000000000) (I_:pn=((I.length:Nat):Int)) (ah9:U.length=I.length) (ah_:I.length≤64) (tW:bF pn pr=true) (H:HI M w w_ ([box cW #[.slice aE aF aD,R ay I ax,R aA U az,R ey sp ew,.map (some bw),C pn,R cZ pr cY,.map (some bH)] 142,iL ay I ax,iL aA U az,oL w 175 ey sp ew,bX bw mp,iL cZ pr cY,bS bH mq]++r)):Calls aK 79 #[pV cW 0,C f_,C t_] w_ (cg fun v w'=>∃(ix:Int) (sR:List cL) (Gg:KV) (nV:OA) (nU:Nat),v=C ix∧HI M w w' ([box cW #[.slice aE aF aD,R ay I ax,R aA U az,R nV sR nU,.map (some bw),C pn,R cZ pr cY,.map (some bH)] 142,iL ay I ax,iL aA U az,oL w 175 nV sR nU,bX bw Gg,iL cZ pr cY,bS bH mq]++r)∧sR.length≤sp.length+200∧aM ix):=by
 refine enter 75 Tryz.func79 J J J fun f0 ha=>?_
 have iU:=bf<|H.rv 1 J
 have kE:=bf<|H.rv 2 J
 have DH:=j'<|H.at_ 3 J
 have DI:=bf<|H.rv 5 J
 have i0:f0 0=pV cW 0:=ha 0 bh
 have i1:f0 1=C f_:=ha 1 bh
 have i2:f0 2=C t_:=ha 2 bh
 refine aB<|au (v:=C 0) J J<|av<|sq<|aB<|ak J i0<|k<|nc J J<|aS DR J J<|bl H 0 J JQ J J J<|ak J i1<|ak J i2<|k<|bd (v:=.agg #[C f_,C t_]) J (cj J<|cj J eh) (fun _=>aC)<|k<|XK (k:=(f_,t_)) JV H 4 J J J J J ?_
 intro cq
 refine ak (v:=.tuple #[C ((getM mp (f_,t_)).getD 0),.bool ((getM mp (f_,t_)).isSome)]) J J<|k<|xt J J J<|k<|xt J J J<|au (v:=C ((getM mp (f_,t_)).getD 0)) J J<|au (v:=.bool ((getM mp (f_,t_)).isSome)) J J<|bp<|ak (v:=.bool ((getM mp (f_,t_)).isSome)) J J<|z<|nx<|cd (b:=(getM mp (f_,t_)).isSome) J J (fun b0=>?_)<|fun b0=>?_
 ·
  refine aB<|ak (v:=C ((getM mp (f_,t_)).getD 0)) J J<|au (v:=C ((getM mp (f_,t_)).getD 0)) J J<|av<|rt<|aL<|r1 J J ?_
  have e0:((getM mp (f_,t_)).getD 0:Int)=((getM mp (f_,t_)).getD 0):=rfl
  try rw[←e0]
  refine⟨((getM mp (f_,t_)).getD 0),sp,mp,ey,ew,?_,?_,aq,bq⟩
  · first|rfl|simp only[e0]|(simp only[anj])
  · first|exact H|simpa +zetaDelta only[e0,anj] using H
 refine sk<|cO<|ak J i0<|k<|nc J J<|aS qV J J<|k<|cz H 0 J bm J J aw J<|ak J i1<|ak J i2<|k ?_
 have bP:=Sc (mn:=pn) (mr:=pr) (i:=f_) (j:=t_) (w:=w_) H.mb (hT.ext H.below) qG (H.rv 5 J) Fs HS<|by exact tW
 refine ca afS J (ec J<|ec J<|ec J e0) bP ?_
 rintro _ w0 ⟨a0,c0,rfl,bT,dZ⟩
 have H0:=H.eL dZ
 let J0:=oL w 3 a0 ((fm pn pr f_ t_).getD []) c0
 let J1:=box cW #[.slice aE aF aD,R ay I ax,R aA U az,R ey sp ew,.map (some bw),C pn,R cZ pr cY,.map (some bH)] 142
 let J2:=iL ay I ax
 let J3:=iL aA U az
 let J4:=oL w 175 ey sp ew
 let J5:=iL cZ pr cY
 let ba:=[J1,J2,J3,J4,bX bw mp,J5,bS bH mq]
 have H1:HI M w w0 ((J0::ba)++r):=H0
 refine ak (v:=.tuple #[R a0 ((fm pn pr f_ t_).getD []) c0,.bool ((fm pn pr f_ t_).isSome)]) J J<|k<|xt J J J<|k<|xt J J J<|au (v:=R a0 ((fm pn pr f_ t_).getD []) c0) J J<|au (v:=.bool ((fm pn pr f_ t_).isSome)) J J<|av<|sq<|aB<|ak (v:=.bool ((fm pn pr f_ t_).isSome)) J J<|k<|jI J J<|z<|nx<|cd (b:=!((fm pn pr f_ t_).isSome)) J J (fun b1=>?_)<|fun b1=>?_
 ·
  refine aB<|au (v:=C (-1)) J J<|av<|rt<|aL<|r1 J J ?_
  have H2:=HI.aR (l:=(J0::ba)) (l':=ba) (t:=r) H1 [1,2,3,4,5,6,7] aw J J
  refine⟨(-1),sp,mp,ey,ew,?_,?_,aq,(by unfold aM;omega)⟩
  · first|rfl|simp only[anj]
  · first|exact H2|simpa +zetaDelta only[anj] using H2
 refine sk<|nx<|sq ?_
 have acR:(fm pn pr f_ t_).isSome=true:=by simpa using b1
 have amj:=Ve tW acR
 have acE:=fun (q_:Nat) (x_:Int) (h_:((fm pn pr f_ t_).getD [])[q_]? =some x_)=>Vf tW acR h_
 refine mg [.r,.r,.r,.r,.r,.r,.r,.e,.e] (fun _=>True) J aC (fun _ _=>trivial)<|yq J J<|kq (fun _ _=>mv J i0 e1)<|bM<|kq (fun _ _=>mv (v:=R a0 ((fm pn pr f_ t_).getD []) c0) J J e1)<|bM<|sV (H1.at_ 0 J) J J J J aq cK aV ?_
 intro iC x0 aP ct
 refine bM<|pc ct aV J J ?_
 intro dY
 refine bM<|kq (fun _ _=>mv (v:=R a0 ((fm pn pr f_ t_).getD []) c0) J J e1)<|bM<|sV (H1.at_ 0 J) J J J J aq cK aV ?_
 intro rh x1 cP gL
 refine bM<|pc gL aV J J ?_
 intro fu
 refine zq<|ye<|ye<|yz ?_
 intro w1 f0 _ da _ _ cB iN
 have H2:=H1.ext da
 have s0:=(cB 0 J).trans i0
 have s1:=(cB 1 J).trans i1
 have s2:=cB 9 J
 have s3:=cB 39 J
 have s4:=cB 42 J
 have s5:=cB 45 J
 refine j5 ?_
 let bZ:=[J5,bS bH mq,J0]
 have H3:HI M w w1 (ba++([J0]++r)):=HI.aR (l:=(J0::ba)) (l':=(J1::J2::J3::J4::bX bw mp::bZ)) (t:=r) H2 [1,2,3,4,5,6,7,0] aw rfl rfl
 have cS:=F6 (cW:=cW) (aE:=aE) (aF:=aF) (aD:=aD) (ay:=ay) (ax:=ax) (I:=I) (aA:=aA) (az:=az) (U:=U) (ey:=ey) (ew:=ew) (sp:=sp) (bw:=bw) (mp:=mp) (pn:=pn) (cZ:=cZ) (cY:=cY) (pr:=pr) (bH:=bH) (mq:=mq) (f_:=x0) (t_:=x1) (w:=w) (w_:=w1) (r:=([J0]++r)) (M:=M) qG dY fu aq (by have h_:=acE _ _ cP;omega) H3
 refine ca YD J (ec s3<|ec s4<|ec s5 e0) cS ?_
 rintro _ w2 ⟨o0,o1,o2,a1,c1,rfl,H4,q0,q1⟩
 refine j5<|jG (v:=C o0) J J<|kz<|nx<|sq<|aB<|au (v:=C 2) J J<|av<|bk<|lp (fun m f w'=>∃(j_:Nat) (Ef:Int) (jj:List cL) (jk:KV) (a2:OA) (c2:Nat),m=((fm pn pr f_ t_).getD []).length-j_∧f 0=pV cW 0∧f 1=C f_∧f 9=R a0 ((fm pn pr f_ t_).getD []) c0∧f 11=C Ef∧f 12=C (j_:Int)∧HI M w w' ((box cW #[.slice aE aF aD,R ay I ax,R aA U az,R a2 jj c2,.map (some bw),C pn,R cZ pr cY,.map (some bH)] 142::J2::J3::oL w 175 a2 jj c2::bX bw jk::bZ)++r)∧(2≤j_∧j_≤((fm pn pr f_ t_).getD []).length)∧(jj.length+1≤sp.length+2*j_)∧(aM Ef)) _ ⟨2,o0,o1,o2,a1,c1,J,s0,s1,s2,(bJ J),(bJ J),H4,aq,aq,bq⟩ ?_
 rintro _ f1 w3 ⟨j_,Ef,jj,jk,a2,c2,rfl,s6,s7,s8,s9,eo,H6,pB,HQ,amv⟩
 refine sq<|aB<|ak J eo<|ak J s8<|k<|dP J J cK<|k<|lss J J J J<|z<|nx<|cd (b:=decide ((j_:Int)<(((fm pn pr f_ t_).getD []).length:Int))) J J (fun b2=>?_)<|fun b2=>?_
 ·
  have p2:=dT b2
  refine sk<|nx<|sq<|bk<|sq<|mg [.r,.r,.r,.r,.r,.r,.r,.r,.r,.r,.e,.e] (fun _=>True) J aC (fun _ _=>trivial)<|yq J J<|kq (fun _ _=>mv J s6 e1)<|bM<|kq (fun _ _=>mv J s8 e1)<|bM<|kq (fun _ _=>mv J eo e1)<|bM<|kq (fun _ _=>sub J J J J aT e1)<|bM<|sV (H6.at_ 7 J) J J J J aq cK aV ?_
  intro pK x2 iA kR
  refine bM<|pc kR aV J J ?_
  intro je
  refine bM<|kq (fun _ _=>mv J s8 e1)<|bM<|kq (fun _ _=>mv J eo e1)<|bM<|sV (H6.at_ 7 J) J J J J aq cK aV ?_
  intro vn x3 mW u5
  refine bM<|pc u5 aV J J ?_
  intro jT
  refine zq<|ye<|ye<|yz ?_
  intro w4 f2 _ eR _ _ fF zY
  have H7:=H6.ext eR
  have fb:=(fF 0 J).trans s6
  have fM:=(fF 1 J).trans s7
  have fL:=(fF 9 J).trans s8
  have gB:=(fF 11 J).trans s9
  have gT:=(fF 12 J).trans eo
  have ky:=fF 53 J
  have ln:=fF 58 J
  have mQ:=fF 62 J
  refine j5 ?_
  let J6:=box cW #[.slice aE aF aD,R ay I ax,R aA U az,R a2 jj c2,.map (some bw),C pn,R cZ pr cY,.map (some bH)] 142
  let dE:=J6::J2::J3::oL w 175 a2 jj c2::bX bw jk::bZ
  have H8:HI M w w4 ([J6,J2,J3,oL w 175 a2 jj c2,bX bw jk,J5,bS bH mq]++([J0]++r)):=HI.aR (l:=dE) (l':=dE) (t:=r) H7 [0,1,2,3,4,5,6,7] aw rfl rfl
  have fS:=F6 (cW:=cW) (aE:=aE) (aF:=aF) (aD:=aD) (ay:=ay) (ax:=ax) (I:=I) (aA:=aA) (az:=az) (U:=U) (ey:=a2) (ew:=c2) (sp:=jj) (bw:=bw) (mp:=jk) (pn:=pn) (cZ:=cZ) (cY:=cY) (pr:=pr) (bH:=bH) (mq:=mq) (f_:=x2) (t_:=x3) (w:=w) (w_:=w4) (r:=([J0]++r)) (M:=M) qG je jT aq (by have h_:=acE _ _ mW;omega) H8
  refine ca YD J (ec ky<|ec ln<|ec mQ e0) fS ?_
  rintro _ w5 ⟨o3,o4,o5,a3,c3,rfl,H9,q2,q3⟩
  let J7:=box cW #[.slice aE aF aD,R ay I ax,R aA U az,R a3 o4 c3,.map (some bw),C pn,R cZ pr cY,.map (some bH)] 142
  let iO:=J7::J2::J3::oL w 175 a3 o4 c3::bX bw o5::bZ
  have dH:HI M w w5 (iO++r):=H9
  refine j5<|jG (v:=C o3) J J<|kz<|nx<|rg<|ak J fb<|ak J fM<|ak J fL<|ak J gT<|k<|ij (dH.at_ 7 J) J J J J aq cK aV ?_
  intro g0 x4 iq yr xD
  refine k<|mV xD aV J J ?_
  intro jd
  refine ak J gB<|ak (v:=C o3) J J<|k<|bd (v:=.agg #[C 3,C f_,C x4,C Ef,C o3]) J (cj J<|cj J<|cj J<|cj J<|cj J eh) (fun _=>aC)<|k ?_
  have db:HI M w w5 ([J7,J2,J3,oL w 175 a3 o4 c3,bX bw o5,J5,bS bH mq]++([J0]++r)):=HI.aR (l:=iO) (l':=iO) (t:=r) dH [0,1,2,3,4,5,6,7] aw rfl rfl
  have eX:=yb (cW:=cW) (aE:=aE) (aF:=aF) (aD:=aD) (ay:=ay) (ax:=ax) (I:=I) (aA:=aA) (az:=az) (U:=U) (ey:=a3) (ew:=c3) (sp:=o4) (bw:=bw) (mp:=o5) (pn:=pn) (cZ:=cZ) (cY:=cY) (pr:=pr) (bH:=bH) (mq:=mq) (k_:=3) (f_:=f_) (t_:=x4) (g_:=Ef) (h_:=o3) (w:=w) (w_:=w5) (r:=([J0]++r)) (M:=M) qG aT Fs jd bq bq aq db
  refine ca Kb J (ec J<|ec J e0) eX ?_
  rintro _ w6 ⟨a4,c4,rfl,dw⟩
  let J8:=box cW #[.slice aE aF aD,R ay I ax,R aA U az,R a4 (o4++[(3,f_,x4,Ef,o3)]) c4,.map (some bw),C pn,R cZ pr cY,.map (some bH)] 142
  let J9:=oL w 175 a4 (o4++[(3,f_,x4,Ef,o3)]) c4
  let dO:=bX bw (jn o5 (f_,x4) ((o4.length:Nat):Int))
  refine au (v:=C ((o4.length:Nat):Int)) J J<|z<|aJ<|nx<|rg<|ak J gT<|k<|add J J J J aT<|au (v:=C ((j_:Int)+1)) J J<|z ?_
  have cM:=dw.put (it:=J2) J<|dw.rv 1 J
  have dt:=cM.put (it:=J3) J<|cM.rv 3 J
  have dM:=dt.put (it:=J5) J<|dt.rv 7 J
  let fk:=J8::J2::J3::J9::dO::bZ
  have dI:HI M w w6 ((J5::J3::J2::fk)++r):=dM
  have cF:HI M w w6 (fk++r):=HI.aR (l:=(J5::J3::J2::fk)) (l':=fk) (t:=r) dI [3,2,1,6,7,0,9,10] aw rfl rfl
  refine bB _ ?_ ⟨(j_+1),((o4.length:Nat):Int),(o4++[(3,f_,x4,Ef,o3)]),(jn o5 (f_,x4) ((o4.length:Nat):Int)),a4,c4,J,fb,fM,fL,(bJ J),(bJ J),cF,aq,(by simp only[fA,iM,gr];omega),(by unfold aM;omega)⟩
  omega
 refine ex<|aW<|bc<|bg<|cO<|ak J s9<|au (v:=C Ef) J J<|av<|rt<|r1 J J ?_
 let eC:=box cW #[.slice aE aF aD,R ay I ax,R aA U az,R a2 jj c2,.map (some bw),C pn,R cZ pr cY,.map (some bH)] 142
 have H7:=HI.aR (l:=(eC::J2::J3::oL w 175 a2 jj c2::bX bw jk::bZ)) (l':=[eC,J2,J3,oL w 175 a2 jj c2,bX bw jk,J5,bS bH mq]) (t:=r) H6 [0,1,2,3,4,5,6] aw J J
 refine⟨Ef,jj,jk,a2,c2,?_,?_,aq,bq⟩
 · first|rfl|simp only[anj]
 · first|exact H7|simpa +zetaDelta only[anj] using H7
theorem zi:cu aK 79:=⟨_,_,Tryz.func79,rfl,aC⟩
theorem afz:cu aK 156:=⟨_,_,Tryz.func156,rfl,aC⟩
theorem AT (qG:aM pn) (Bf:aM ft) (DM:aM fy) (Be:aM gE) (hT:fP 0 w) (HP:sp.length≤2700000000000) (I_:pn=((I.length:Nat):Int)) (ah9:U.length=I.length) (ah_:I.length≤64) (tW:bF pn pr=true) (H:HI M w w_ ([box cW #[.slice aE aF aD,R ay I ax,R aA U az,R ey sp ew,.map (some bw),C pn,R cZ pr cY,.map (some bH)] 142,iL ay I ax,iL aA U az,oL w 175 ey sp ew,bX bw mp,iL cZ pr cY,bS bH mq]++r)):Calls aK 122 #[pV cW 0,.agg #[C ft,C fy,C gE]] w_ (cg fun v w'=>∃(sR:List cL) (Gg:KV) (nV:OA) (nU:Nat),v=.tuple #[]∧HI M w w' ([box cW #[.slice aE aF aD,R ay I ax,R aA U az,R nV sR nU,.map (some bw),C pn,R cZ pr cY,.map (some bH)] 142,iL ay I ax,iL aA U az,oL w 175 nV sR nU,bX bw Gg,iL cZ pr cY,bS bH mq]++r)∧sR.length≤sp.length+201):=by
 refine enter 21 Tryz.func122 J J J fun f0 ha=>?_
 have iU:=bf<|H.rv 1 J
 have kE:=bf<|H.rv 2 J
 have DH:=j'<|H.at_ 3 J
 have DI:=bf<|H.rv 5 J
 have i0:f0 0=pV cW 0:=ha 0 bh
 have i1:f0 1=.agg #[C ft,C fy,C gE]:=ha 1 bh
 refine aB<|k<|bx H J i1 ?_
 let J1:=box cW #[.slice aE aF aD,R ay I ax,R aA U az,R ey sp ew,.map (some bw),C pn,R cZ pr cY,.map (some bH)] 142
 let J2:=iL ay I ax
 let J3:=iL aA U az
 let J4:=oL w 175 ey sp ew
 let J5:=iL cZ pr cY
 let ba:=[J1,J2,J3,J4,bX bw mp,J5,bS bH mq]
 intro aX w0 bT (H0:HI M w w0 ((box aX #[C ft,C fy,C gE] 122::ba)++r))
 let J0:=box aX #[C ft,C fy,C gE] 122
 refine bp<|ak J i0<|aS kK J J<|bl H0 0 J aV J J J<|aS sA J J<|bl H0 0 J aV J J J<|k ?_
 let bZ:=[J5,bS bH mq,J0]
 have H1:HI M w w0 (ba++([J0]++r)):=HI.aR (l:=(J0::ba)) (l':=(J1::J2::J3::J4::bX bw mp::bZ)) (t:=r) H0 [1,2,3,4,5,6,7,0] aw rfl rfl
 have bP:=mD (cW:=cW) (aE:=aE) (aF:=aF) (aD:=aD) (ay:=ay) (ax:=ax) (I:=I) (aA:=aA) (az:=az) (U:=U) (ey:=ey) (ew:=ew) (sp:=sp) (bw:=bw) (mp:=mp) (pn:=pn) (cZ:=cZ) (cY:=cY) (pr:=pr) (bH:=bH) (mq:=mq) (f_:=ft) (t_:=gE) (w:=w) (w_:=w0) (r:=([J0]++r)) (M:=M) qG Bf Be hT aq aq aq aq (by exact tW) H1
 refine ca zi J (ec J<|ec J<|ec J e0) bP ?_
 rintro _ w1 ⟨o0,o1,o2,a0,c0,rfl,H2,q0,q1⟩
 let J6:=box cW #[.slice aE aF aD,R ay I ax,R aA U az,R a0 o1 c0,.map (some bw),C pn,R cZ pr cY,.map (some bH)] 142
 let dE:=J6::J2::J3::oL w 175 a0 o1 c0::bX bw o2::bZ
 have H3:HI M w w1 (dE++r):=H2
 refine au (v:=C o0) J J<|av<|rg<|ak J i0<|aS kK J J<|bl H3 7 J aV J J J<|aS mM J J<|bl H3 7 J aV J J J<|ak (v:=C o0) J J<|aS sA J J<|bl H3 7 J aV J J J<|k<|bd (v:=.agg #[C 4,C ft,C fy,C o0,C gE]) J (cj J<|cj J<|cj J<|cj J<|cj J eh) (fun _=>aC)<|k ?_
 have H4:HI M w w1 ([J6,J2,J3,oL w 175 a0 o1 c0,bX bw o2,J5,bS bH mq]++([J0]++r)):=HI.aR (l:=dE) (l':=dE) (t:=r) H3 [0,1,2,3,4,5,6,7] aw rfl rfl
 have cS:=yb (cW:=cW) (aE:=aE) (aF:=aF) (aD:=aD) (ay:=ay) (ax:=ax) (I:=I) (aA:=aA) (az:=az) (U:=U) (ey:=a0) (ew:=c0) (sp:=o1) (bw:=bw) (mp:=o2) (pn:=pn) (cZ:=cZ) (cY:=cY) (pr:=pr) (bH:=bH) (mq:=mq) (k_:=4) (f_:=ft) (t_:=fy) (g_:=o0) (h_:=gE) (w:=w) (w_:=w1) (r:=([J0]++r)) (M:=M) qG aT Bf DM bq Be aq H4
 refine ca Kb J (ec J<|ec J e0) cS ?_
 rintro _ w2 ⟨a1,c1,rfl,H5⟩
 let J7:=box cW #[.slice aE aF aD,R ay I ax,R aA U az,R a1 (o1++[(4,ft,fy,o0,gE)]) c1,.map (some bw),C pn,R cZ pr cY,.map (some bH)] 142
 let J8:=oL w 175 a1 (o1++[(4,ft,fy,o0,gE)]) c1
 let J9:=bX bw (jn o2 (ft,fy) ((o1.length:Nat):Int))
 have H6:HI M w w2 ((J7::J2::J3::J8::J9::bZ)++r):=H5
 refine z<|D_ J ?_
 have H7:=HI.aR (l:=(J7::J2::J3::J8::J9::bZ)) (l':=[J7,J2,J3,J8,J9,J5,bS bH mq]) (t:=r) H6 [0,1,2,3,4,5,6] aw J J
 refine⟨(o1++[(4,ft,fy,o0,gE)]),(jn o2 (ft,fy) ((o1.length:Nat):Int)),a1,c1,?_,?_,(by simp only[fA,iM,gr];omega)⟩
 · first|rfl|simp only[anj]
 · first|exact H7|simpa +zetaDelta only[anj] using H7
theorem yc {zt:OA} {zm:Nat} {es:List (Int×Int×Int)} (qG:aM pn) (tW:bF pn pr=true) (ui:∀x∈es,ko pn [x.1,x.2.1]=true) (H:HI M w w_ ([box cW #[.slice aE aF aD,R ay I ax,R aA U az,R ey sp ew,.map (some bw),C pn,R cZ pr cY,.map (some bH)] 142,iL ay I ax,iL aA U az,oL w 175 ey sp ew,bX bw mp,iL cZ pr cY,bS bH mq,iL zt es zm]++r)):Calls aK 120 #[pV cW 0,R zt es zm] w_ (cg fun v w'=>∃(Cm:List (List bY)) (yS:OA) (yO:Nat),v=.tuple #[]∧HI M w w' ([box cW #[.slice aE aF aD,R ay I ax,R aA U az,R ey sp ew,.map (some bw),C pn,R yS Cm yO,.map (some bH)] 142,iL ay I ax,iL aA U az,oL w 175 ey sp ew,bX bw mp,iL yS Cm yO,bS bH mq,iL zt es zm]++r)∧bF pn Cm=true):=by
 refine enter 28 Tryz.func120 J J J fun f0 ha=>?_
 have iU:=bf<|H.rv 1 J
 have kE:=bf<|H.rv 2 J
 have DH:=j'<|H.at_ 3 J
 have DI:=bf<|H.rv 5 J
 have alK:=bf<|H.rv 7 J
 have i0:f0 0=pV cW 0:=ha 0 bh
 have i1:f0 1=R zt es zm:=ha 1 bh
 refine aB<|ak J i1<|k<|dP J J ej<|ak (v:=C 0) J J<|av<|bk ?_
 let J0:=iL cZ pr cY
 have H0:=H.put (it:=J0) J<|H.rv 5 J
 let J1:=iL ay I ax
 let J2:=iL aA U az
 let J3:=oL w 175 ey sp ew
 let J4:=bX bw mp
 let J5:=iL zt es zm
 let ba:=[J1,J2,J3,J4,J0,bS bH mq,J5]
 refine lp (fun m f w'=>∃(j_:Nat) (m_:List (List bY)) (cG:Int) (a0:OA) (c0:Nat),m=es.length-j_∧f 0=pV cW 0∧f 6=R zt es zm∧f 7=C (es.length:Int)∧f 8=C (j_:Int)∧HI M w w' ((iL a0 m_ c0::box cW #[.slice aE aF aD,R ay I ax,R aA U az,R ey sp ew,.map (some bw),C cG,R a0 m_ c0,.map (some bH)] 142::ba)++r)∧(j_≤es.length)∧(cG=pn)∧(bF cG m_=true)) _ ⟨0,pr,pn,cZ,cY,J,i0,J,J,(bJ J),H0,aq,(by rfl),(by exact tW)⟩ ?_
 rintro _ f0 w0 ⟨j_,m_,cG,a0,c0,rfl,s0,s1,s2,s3,H2,pB,CO,tJ⟩
 refine aB<|k<|lss J J s3 s2<|av<|sq<|cd (b:=decide ((j_:Int)<(es.length:Int))) J J (fun b0=>?_)<|fun b0=>?_
 ·
  have p0:=dT b0
  refine sk<|nx<|sq<|bk<|aB<|k<|ia (H2.rv 8 J) J J s1 s3 aq ej cI ?_
  intro iC x0 aP ct
  refine k<|nt ct.w cI J J ?_
  intro v0 cq
  obtain⟨_,⟨_,_,rfl,⟨rfl,dZ⟩,⟨_,_,rfl,⟨rfl,dY⟩,⟨rfl,fu⟩⟩⟩,rfl⟩:=cq
  refine k<|al H2 cI ?_
  let J6:=iL a0 m_ c0
  let J7:=box cW #[.slice aE aF aD,R ay I ax,R aA U az,R ey sp ew,.map (some bw),C cG,R a0 m_ c0,.map (some bH)] 142
  intro aX w1 bT (H3:HI M w w1 ((box aX #[C 0,C 0,C 0] 122::J6::J7::ba)++r))
  refine k<|bt H3 0 J cI J J J J J J J ?_
  let J8:=box aX #[C x0.1,C x0.2.1,C x0.2.2] 122
  intro w2 (H4:HI M w w2 ((J8::J6::J7::ba)++r))
  refine z<|nx ?_
  have r6:ko cG [x0.1,x0.2.1]=true:=by rw[CO];exact ui x0 (dB aP)
  refine mg [.r,.r,.r,.r,.r,.r,.r,.r,.r,.r,.r,.r,.s,.r,.r,.e] (fun _=>True) J aC (fun _ _=>trivial)<|yq J J<|kq (fun _ _=>mv J s0 e1)<|bM<|kq (fun _ _=>mv J s0 e1)<|bM<|kq (fun _ _=>nc J J e1)<|bM<|kq (fun _ _=>fa qV J J e1)<|bM<|kq (fun _ x_=>cz (H4.ext x_) 2 J bm J J aw J e1)<|bM<|kq (fun _ _=>fa kK J J e1)<|bM<|kq (fun _ x_=>lx (H4.ext x_) 0 J aV J J J e1)<|bM<|kq (fun _ _=>fa mM J J e1)<|bM<|kq (fun _ x_=>lx (H4.ext x_) 0 J aV J J J e1)<|zq<|yu J (fun _ v w'=>∃(a1:OA) (c1:Nat),v=.tuple #[.agg #[C (ie cG x0.1 x0.2.1),R a1 (j2 cG m_ x0.1 x0.2.1) c1],C (lC cG x0.1 x0.2.1)]∧RV H4.fV w' (R a1 (j2 cG m_ x0.1 x0.2.1) c1) (j2 cG m_ x0.1 x0.2.1)) J jk J (fun v_ _ x_ _=>have cS:=ZS (mn:=cG) (mr:=m_) (i:=x0.1) (j:=x0.2.1) (w:=v_) (H4.ext x_).mb aT ((H4.ext x_).rv 1 rfl) dZ dY (by exact(bO tJ).1) (by exact(bO tJ).2.1) (by exact(bO tJ).2.2.1);ca afz rfl (ec J<|ec J<|ec J e0) cS (fun _ w4 ⟨a2,c2,e_,eR,jd⟩=>⟨_,J,eR,⟨a2,c2,e_,(bj.rv jd (H4.ext x_).mb)⟩⟩))<|lF J (fun _ v w'=>∃(a3:OA) (c3:Nat),v=.tuple #[.agg #[C (ie cG x0.1 x0.2.1),R a3 (j2 cG m_ x0.1 x0.2.1) c3],C (lC cG x0.1 x0.2.1)]∧RV H4.fV w' (R a3 (j2 cG m_ x0.1 x0.2.1) c3) (j2 cG m_ x0.1 x0.2.1)) 0 J J jk J (fun _ _ _ _ _ h_=>let ⟨a4,c4,s4,pw⟩:=h_;mv rfl s4 ⟨_,J,Ext.refl _,⟨a4,c4,J,pw⟩⟩)<|lF J (fun _ v w'=>∃(a5:OA) (c5:Nat),v=.agg #[C (ie cG x0.1 x0.2.1),R a5 (j2 cG m_ x0.1 x0.2.1) c5]∧RV H4.fV w' (R a5 (j2 cG m_ x0.1 x0.2.1) c5) (j2 cG m_ x0.1 x0.2.1)) 0 J J jk J (fun _ _ _ _ _ h_=>let ⟨a6,c6,s5,nZ⟩:=h_;xt rfl s5 rfl ⟨_,J,Ext.refl _,⟨a6,c6,J,nZ⟩⟩)<|Rj J (X:=C (lC cG x0.1 x0.2.1)) 1 J J (fun _ _ _ _ _ h_=>let ⟨a8,c8,s6,pT⟩:=h_;xt rfl s6 rfl e1)<|yq J J<|kq (fun _ _=>nc J J e1)<|bM<|kq (fun _ _=>fa qV J J e1)<|zq<|ye<|yz ?_
  intro w5 f1 _ fH _ _ cB iN
  have dV:=H4.ext fH
  have s7:=(cB 0 J).trans s0
  have s8:=(cB 6 J).trans s1
  have s9:=(cB 7 J).trans s2
  have eo:=(cB 8 J).trans s3
  obtain⟨a9,c9,fb,qp⟩:=iN 0 _ _ rfl
  let J9:=iL a9 (j2 cG m_ x0.1 x0.2.1) c9
  have dG:=dV.put (it:=J9) J qp
  have fM:=cB 26 J
  refine j5<|bt dG 3 J bm J J fM fb J J J ?_
  let dO:=box cW #[.slice aE aF aD,R ay I ax,R aA U az,R ey sp ew,.map (some bw),C (ie cG x0.1 x0.2.1),R a9 (j2 cG m_ x0.1 x0.2.1) c9,.map (some bH)] 142
  intro w6 (ff:HI M w w6 ((J9::J8::J6::dO::ba)++r))
  refine kz<|aJ<|nx<|rg<|k<|add J J eo J aT<|ak (v:=C ((j_:Int)+1)) J J<|z ?_
  have ga:=ff.put (it:=J9) J<|ff.rv 0 J
  have iE:=ga.put (it:=J1) J<|ga.rv 5 J
  have iD:=iE.put (it:=J2) J<|iE.rv 7 J
  have ri:HI M w w6 ((J2::J1::J9::J9::J8::J6::dO::ba)++r):=iD
  have kT:HI M w w6 ((J9::dO::ba)++r):=HI.aR (l:=(J2::J1::J9::J9::J8::J6::dO::ba)) (l':=(J9::dO::ba)) (t:=r) ri [2,6,1,0,9,10,11,12,13] aw rfl rfl
  refine bB _ ?_ ⟨(j_+1),(j2 cG m_ x0.1 x0.2.1),(ie cG x0.1 x0.2.1),a9,c9,J,s7,s8,s9,(bJ J),kT,aq,(by rw[(pO (rs:=m_) r6).1];exact CO),(by exact RN tJ r6)⟩
  omega
 refine ex<|aW<|bc<|bg<|D_ J ?_
 let eC:=box cW #[.slice aE aF aD,R ay I ax,R aA U az,R ey sp ew,.map (some bw),C cG,R a0 m_ c0,.map (some bH)] 142
 have H3:=HI.aR (l:=(iL a0 m_ c0::eC::ba)) (l':=[eC,J1,J2,J3,J4,iL a0 m_ c0,bS bH mq,J5]) (t:=r) H2 [1,2,3,4,5,0,7,8] aw J J
 have e0:(cG:Int)=pn:=by exact CO
 try rw[←e0]
 refine⟨m_,a0,c0,?_,?_,(by exact tJ)⟩
 · first|rfl|simp only[e0]|(simp only[anj])
 · first|exact H3|simpa +zetaDelta only[e0,anj] using H3
end Go.Proofs.YtgjakhpjmapelaaGreatDoor
