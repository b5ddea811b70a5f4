/- PRINTED by my own tool (wip/tool/gen.py): contracts of Go functions of this seat, each with its proof. -/
import Derived.Test.YtgjakhpjmapelaaGreatDoorTwnB
import Derived.Test.YtgjakhpjmapelaaGreatDoorJenA
import Derived.Test.YtgjakhpjmapelaaGreatDoorTwnC
import Derived.Test.YtgjakhpjmapelaaGreatDoorTwnD
import Derived.Test.YtgjakhpjmapelaaGreatDoorTwnA
set_option linter.unusedVariables false
set_option linter.unusedSimpArgs false
namespace Go.Proofs.YtgjakhpjmapelaaGreatDoor
open Go.Ew Go.RowKit
set_option maxRecDepth 100000
set_option maxHeartbeats 1600000
attribute [local irreducible] WL WC SO PW PX PZ WE Code.wp wpList sj cA
attribute [local irreducible] kh xM jr fm eo Aq C6 Kt words eb de jJ fG vM
variable {M:cb} {w w_:aG}
variable {s:bA} {ju mg aC aw ay bF dV eF dp:OA} {jt mI aD aB av fc ax bD dL df eE bC dm bK:Nat} {h:List (List (Bool×bA×Int))} {U:List aO} {vr o mn i j n pn f_ t_ fy fD gI:Int} {mr pr:List (List bt)} {l fo xs:aA} {fv:List bA} {r:List Go.Ew.Item} {x y:bt} {sp:List cT} {mp:KV} {mq:List ((Int×Int)×Bool)}
theorem lq:aJ.underlying 9=some (.string):=aU
theorem vJ:aJ.underlying 37=some (.slice 40):=aU
theorem uj:ey aJ 40 1 false 24 (.slice none 0 0):=⟨aU,aU⟩
theorem lI:aJ.underlying 40=some (.slice 43):=aU
theorem fZ:ey aJ 43 3 true 32 (.agg #[.bool false,.string ⟨#[]⟩,.int .i64 0]):=⟨aU,aU⟩
theorem acV:cH aJ 12:=cN Tryz.func12
theorem nS:gv aJ 43 1 1:=js Tryz.underlying43
theorem oG:ey aJ 9 1 false 16 (.string ⟨#[]⟩):=⟨aU,aU⟩
theorem aiw:cH aJ 44:=cN Tryz.func44
theorem Hi:aJ.underlying 44=some (.slice 9):=aU
theorem aiN:cH aJ 20:=cN Tryz.func20
theorem vu:gv aJ 47 0 0:=js Tryz.underlying47
theorem B3:ey aJ 44 1 false 24 (.slice none 0 0):=⟨aU,aU⟩
theorem aiv:cH aJ 48:=cN Tryz.func48
theorem l_:gv aJ 43 0 0:=js Tryz.underlying43
theorem oS:gv aJ 43 2 2:=js Tryz.underlying43
theorem rQ:gv aJ 95 4 4:=js Tryz.underlying95
theorem acQ:cH aJ 49:=cN Tryz.func49
theorem PD (la:s.size≤maxLen):Calls aJ 44 #[.string s] w (cA fun v w'=>v=.bool (kJ s)∧Ext w w'):=by
 refine dH 28 Tryz.func44 J J J pI fun f0 ha H=>?_
 have i0:f0 0=.string s:=ha 0 bm
 have hS_:s.size≤9223372036854775807:=by have h_:=la;simp only[maxLen] at h_;exact h_
 refine az<|ak (v:=.bool false) J J<|aq<|sq<|az<|ak (v:=I 0) J J<|aq<|bk<|lp (fun m f w'=>∃(j:Nat),m=s.size-j∧f 0=.string s∧f 3=I (j:Int)∧HI (fun _=>False) w w' []∧(j≤s.size)∧((s.data.toList.take j).all u6=true)) _ ⟨0,J,i0,(bN J),H,aj,(by rfl)⟩ ?_
 rintro _ f0 w0 ⟨j,rfl,s0,s1,H0,hk,hs⟩
 refine sq<|az<|ai J s1<|ai J s0<|k<|tq J J lq<|k<|lss J J J J<|z<|nx<|cd (b:=decide ((j:Int)<(s.size:Int))) J J (fun b0=>?_)<|fun b0=>?_
 ·
  have p0:=dT b0
  refine sk<|nx<|sq<|bk<|az<|ai J s0<|ai J s1<|k<|Xc J J J J aj lq ?_
  intro c0 l9
  refine k<|lss J J J J<|ai (v:=.bool (decide ((c0.toNat:Int)<97))) J J ?_
  rcases bE (decide ((c0.toNat:Int)<97)) with b1|b1
  ·
   refine aX J J J b1<|aX J J J b1<|aX J J J b1<|aX J J J b1<|k<|aN J J J J b1 J<|aq<|oA J J J<|az<|ak (v:=.bool false) J J<|aq<|rt<|bU<|aK<|ee<|bU<|aK<|r1 J J ?_
   exact⟨amz Value.bool (by exact Ob l9 (aa2 b1)),H0.below⟩
  have p1:=dF b1
  refine aQ J J J b1<|mv J s0<|aQ J J J b1<|mv J s1<|aQ J J J b1<|Xc J J J J aj lq ?_
  intro c1 yN
  refine aQ J J J b1<|gtr J J J J<|k<|cZ J J J J b1 J<|z<|nx<|cd (b:=decide (122<(c1.toNat:Int))) J J (fun b2=>?_)<|fun b2=>?_
  ·
   refine az<|ak (v:=.bool false) J J<|aq<|rt<|bU<|aK<|ee<|bU<|aK<|r1 J J ?_
   exact⟨amz Value.bool (by exact Ob l9 (by have e_:=amE (yN.symm.trans l9);subst e_;exact aa3 b2)),H0.below⟩
  have p2:=dF b2
  refine sk<|aF<|nx<|rg<|ai J s1<|k<|add J J J J aT<|ak (v:=I ((j:Int)+1)) J J<|z<|bG _ ?_ ⟨(j+1),J,s0,(bN J),H0,aj,(by exact ME (DX l9) hs (by have e_:=amE (yN.symm.trans l9);subst e_;exact Y4 b1 b2))⟩
  omega
 have p0:=dF b0
 refine ex<|aV<|bf<|bh<|cV<|ai J s0<|k<|tq J J lq<|k<|geq J J J J<|ai (v:=.bool (decide (1≤(s.size:Int)))) J J ?_
 rcases bE (decide (1≤(s.size:Int))) with b1|b1
 ·
  have p1:=dT b1
  refine aQ J J J b1<|mv J s0<|aQ J J J b1<|tq J J lq<|aQ J J J b1<|leq J J J J<|k<|aN J J J J b1 J<|ak (v:=.bool (decide ((s.size:Int)≤8))) J J<|aq<|rt<|r1 J J ?_
  exact⟨amz Value.bool (by unfold kJ;rw[Le hs aj];first|(rw[show decide (1≤s.size)=true from amC aj,anz,anz,anT];omega)|(rw[show decide (1≤s.size)=false from amJ aj];rfl)),H0.below⟩
 have p1:=dF b1
 refine aX J J J b1<|aX J J J b1<|aX J J J b1<|k<|cZ J J J J b1 J<|ak (v:=.bool false) J J<|aq<|rt<|r1 J J ?_
 exact⟨amz Value.bool (by unfold kJ;rw[Le hs aj];first|(rw[show decide (1≤s.size)=true from amC aj,anz,anz,anT];omega)|(rw[show decide (1≤s.size)=false from amJ aj];rfl)),H0.below⟩
theorem F2 (hM:eU M w) (rr:cL M w ju jt h) (tB:h.flatten.length≤1048576):Calls aJ 12 #[sL ju h jt] w (cA fun v w'=>∃(a0:OA) (c0:Nat),v=.slice a0 h.flatten.length c0∧Ext w w'∧RV M w' (.slice a0 h.flatten.length c0) h.flatten):=by
 refine dH 18 Tryz.func12 J J J hM fun f0 ha H=>?_
 have H0:=eu H rr
 have PO:=bl rr
 have i0:f0 0=sL ju h jt:=ha 0 bm
 refine az<|ak (v:=.slice none 0 0) J J<|bz<|ak (v:=.slice none 0 0) J J<|aq<|sq<|az<|ak (v:=I 0) J J<|aq<|bk ?_
 have H1:=H0.rB (Bool×bA×Int) 43
 refine lp (fun m f w'=>∃(j:Nat) (xs:List (Bool×bA×Int)) (a0:OA) (c0:Nat),m=h.length-j∧f 0=sL ju h jt∧f 3=sL a0 xs c0∧f 4=I (j:Int)∧HI M w w' [oL w 43 a0 xs c0,iL ju h jt]∧(j≤h.length)∧(xs=(h.take j).flatten)) _ ⟨0,([]:List (Bool×bA×Int)),none,0,J,i0,J,(bN J),H1,aj,(by rfl)⟩ ?_
 rintro _ f0 w0 ⟨j,xs,a0,c0,rfl,s0,s1,s2,H2,hk,hs⟩
 refine sq<|az<|ai J s2<|ai J s0<|k<|ef J J vJ<|k<|lss J J J J<|z<|nx<|cd (b:=decide ((j:Int)<(h.length:Int))) J J (fun b0=>?_)<|fun b0=>?_
 ·
  have p0:=dT b0
  refine sk<|nx<|sq<|bk<|rg<|ai J s1<|ai J s0<|ai J s2<|k<|ia (H2.rv 1 J) J J J J aj vJ uj ?_
  intro iE x0 aI cD
  refine k<|wg cD.w uj J J ?_
  intro a1 c1 cE
  have BB:=bl cE
  have H3:=eu H2 cE
  refine k<|me H3 1 J J J J J J (H3.rv 0 J).src lI fZ J (by have h_:=uJ aI;rw[hs];omega) J ?_
  intro a2 c2 w1 (H4:HI M w w1 [iL a1 x0 c1,oL w 43 a2 (xs++x0) c2,iL ju h jt])
  refine ak (v:=sL a2 (xs++x0) c2) J J<|z<|aF<|nx<|rg<|ai J s2<|k<|add J J J J aT<|ak (v:=I ((j:Int)+1)) J J<|z ?_
  have H5:HI M w w1 [oL w 43 a2 (xs++x0) c2,iL ju h jt]:=H4.bZ [1,2] au J
  refine bG _ ?_ ⟨(j+1),(xs++x0),a2,c2,J,s0,J,(bN J),H5,aj,(by rw[hs,vq aI])⟩
  omega
 have p0:=dF b0
 refine ex<|aV<|bf<|bh<|cV<|ai J s1<|ak (v:=sL a0 xs c0) J J<|aq<|rt<|r1 J J ?_
 have e0:(xs:List (Bool×bA×Int))=h.flatten:=by rw[hs,mO aj]
 have bu:=iD (fun (cq:List (Bool×bA×Int))=>(.slice a0 cq.length c0:Value)) e0
 exact⟨a0,c0,bu,H2.below,(amz (fun (x_:List (Bool×bA×Int))=>RV _ _ (.slice a0 x_.length c0) x_) e0).mp (H2.mu 0 J)⟩
theorem M9 (hM:eU M w) (rr:cL M w ju jt h) (tB:h.flatten.length≤1048576):Calls aJ 20 #[sL ju h jt] w (cA fun v w'=>v=.bool (iN h)∧Ext w w'):=by
 refine dH 23 Tryz.func20 J J J hM fun f0 ha H=>?_
 have H0:=eu H rr
 have PO:=bl rr
 have i0:f0 0=sL ju h jt:=ha 0 bm
 refine az<|ak (v:=.bool false) J J<|bz<|ai J i0<|k ?_
 have bT:=F2 (h:=h) H0.mb (H0.rv 0 J)<|by exact tB
 refine ca acV J (ec J e0) bT ?_
 rintro _ w0 ⟨a0,c0,rfl,bY,cE⟩
 have H1:=H0.ext bY
 have H2:=H1.put (it:=iL a0 h.flatten c0) J cE
 refine ak (v:=sL a0 h.flatten c0) J J<|aq<|sq<|az<|ak (v:=I 0) J J<|aq<|bk<|lp (fun m f w'=>∃(j:Nat),m=h.flatten.length-j∧f 3=sL a0 h.flatten c0∧f 4=I (j:Int)∧HI M w w' [iL a0 h.flatten c0,iL ju h jt]∧(j≤h.flatten.length)∧((h.flatten.take j).all kZ=true)) _ ⟨0,J,J,(bN J),H2,aj,(by rfl)⟩ ?_
 rintro _ f0 w1 ⟨j,rfl,s0,s1,H3,hk,hs⟩
 refine sq<|az<|ai J s1<|ai J s0<|k<|ef J J lI<|k<|lss J J J J<|z<|nx<|cd (b:=decide ((j:Int)<(h.flatten.length:Int))) J J (fun b0=>?_)<|fun b0=>?_
 ·
  have p0:=dT b0
  refine sk<|nx<|sq<|bk<|az<|ai J s0<|ai J s1<|k<|ia (H3.rv 0 J) J J J J aj lI fZ ?_
  intro iE x0 aI cD
  refine aR nS J J<|k<|ldS ((cD).s1).fst.w oG J J ?_
  intro ep
  refine k ?_
  have dq:=PD (s:=x0.2.1) (w:=w1) bo
  refine ca aiw J (ec J e0) dq ?_
  rintro _ w2 ⟨rfl,dy⟩
  have H4:=H3.ext dy
  refine k<|kg J J<|z<|nx<|cd (b:=!(kJ x0.2.1)) J J (fun b1=>?_)<|fun b1=>?_
  ·
   refine az<|ak (v:=.bool false) J J<|aq<|rt<|bU<|aK<|ee<|bU<|aK<|r1 J J ?_
   exact⟨amz Value.bool (by exact Uo aI (by simpa using b1)),H4.below⟩
  refine sk<|aF<|nx<|rg<|ai J s1<|k<|add J J J J aT<|ak (v:=I ((j:Int)+1)) J J<|z<|bG _ ?_ ⟨(j+1),J,s0,(bN J),H4,aj,(by exact ME aI hs (by simpa [kZ] using b1))⟩
  omega
 have p0:=dF b0
 refine ex<|aV<|bf<|bh<|cV<|ai J s0<|k<|ef J J lI<|k<|leq J J J J<|ak (v:=.bool (decide ((h.flatten.length:Int)≤4096))) J J<|aq<|rt<|r1 J J ?_
 exact⟨amz Value.bool (by exact Rp hs aj),H3.below⟩
theorem PC {l:List bA} (hM:eU M w) (xO:cL M w mg mI l) (la:s.size≤maxLen):Calls aJ 48 #[sL mg l mI,.string s] w (cA fun v w'=>v=I (gE l s)∧Ext w w'):=by
 refine dH 19 Tryz.func48 J J J hM fun f0 ha H=>?_
 have H0:=eu H xO
 have abn:=bl xO
 have i0:f0 0=sL mg l mI:=ha 0 bm
 have i1:f0 1=.string s:=ha 1 bm
 refine az<|ak (v:=I 0) J J<|aq<|sq<|az<|ak (v:=I 0) J J<|aq<|bk<|lp (fun m f w'=>∃(j:Nat),m=l.length-j∧f 0=sL mg l mI∧f 1=.string s∧f 5=I (j:Int)∧HI M w w' [iL mg l mI]∧(j≤l.length)∧((l.take j).any (Gq s)=false)) _ ⟨0,J,i0,i1,(bN J),H0,aj,bm⟩ ?_
 rintro _ f0 w0 ⟨j,rfl,s0,s1,s2,H1,hk,hs⟩
 refine sq<|az<|ai J s2<|ai J s0<|k<|ef J J Hi<|k<|lss J J J J<|z<|nx<|cd (b:=decide ((j:Int)<(l.length:Int))) J J (fun b0=>?_)<|fun b0=>?_
 ·
  have p0:=dT b0
  refine sk<|nx<|sq<|bk<|az<|ai J s0<|ai J s2<|k<|ia (H1.rv 0 J) J J J J aj Hi oG ?_
  intro iE x0 aI cD
  refine k<|ldS cD.w oG J J ?_
  intro cE
  refine ai J s1<|k<|X7 J J J J<|z<|nx<|cd (b:=decide (x0=s)) J J (fun b1=>?_)<|fun b1=>?_
  ·
   refine az<|ai J s2<|ak (v:=I (j:Int)) J J<|aq<|rt<|bU<|aK<|ee<|bU<|aK<|r1 J J ?_
   exact⟨amz (Value.int .i64) (by exact uA aI hs b1),H1.below⟩
  have p1:=dF b1
  refine sk<|aF<|nx<|rg<|ai J s2<|k<|add J J J J aT<|ak (v:=I ((j:Int)+1)) J J<|z<|bG _ ?_ ⟨(j+1),J,s0,s1,(bN J),H1,aj,(by exact pD aI hs b1)⟩
  omega
 have p0:=dF b0
 refine ex<|aV<|bf<|bh<|cV<|ak (v:=I (-1)) J J<|aq<|rt<|r1 J J ?_
 exact⟨amz (Value.int .i64) (by exact vg hs aj),H1.below⟩
theorem Ut (hM:eU M w) (rr:cL M w ju jt h) (tB:h.flatten.length≤1048576):Calls aJ 23 #[sL ju h jt] w (cA fun v w'=>∃(a0:OA) (c0:Nat) (a1:OA) (c1:Nat) (a2:OA) (c2:Nat),v=.tuple #[.agg #[.slice a0 (l7 h).length c0,.slice a1 (cX h).length c1,.slice a2 ([]:aA).length c2],I (ly h)]∧Ext w w'∧RV M w' (.slice a0 (l7 h).length c0) (l7 h)∧RV M w' (.slice a1 (cX h).length c1) (cX h)∧RV M w' (.slice a2 ([]:aA).length c2) ([]:aA)):=by
 refine dH 66 Tryz.func23 J J J hM fun f0 ha H=>?_
 let J0:=iL ju h jt
 have H0:=H.put (it:=J0) J<|by rw[bS];exact rr
 have PO:=bl rr
 have i0:f0 0=sL ju h jt:=ha 0 bm
 refine az<|k<|al H0 ej ?_
 intro aZ w0 bY (H1:HI M w w0 [box aZ #[.slice none 0 0,.slice none 0 0,.slice none 0 0] 47,J0])
 let J1:=box aZ #[.slice none 0 0,.slice none 0 0,.slice none 0 0] 47
 refine ak (v:=I 0) J J<|aq<|sq<|az<|ai J i0<|k ?_
 have bT:=M9 (h:=h) H1.mb (H1.rv 1 J)<|by exact tB
 refine ca aiN J (ec J e0) bT ?_
 rintro _ w1 ⟨rfl,dy⟩
 have H2:=H1.ext dy
 refine k<|kg J J<|z<|nx<|cd (b:=!(iN h)) J J (fun b0=>?_)<|fun b0=>?_
 ·
  refine sq ?_
  have hq:iN h=false:=by simpa using b0
  refine rg<|k<|bd (v:=.agg #[.slice none 0 0,.slice none 0 0,.slice none 0 0]) J eI (fun _=>aU)<|k<|bw H2 0 J ej J J J J J J J ?_
  intro w2 (H3:HI M w w2 [J1,J0])
  refine ak (v:=I 1) J J<|aq<|rt<|aK<|iA H3 0 J ej J J J J J au ?_
  have e0:([]:List bA)=l7 h:=by exact(xC hq).1.symm
  have e1:([]:List aO)=cX h:=by exact(xC hq).2.1.symm
  have e3:(1:Int)=ly h:=by exact(xC hq).2.2.symm
  have bu:=qX (fun (cq:List bA) (dX:List aO) (mM:Int)=>(.tuple #[.agg #[.slice none cq.length 0,.slice none dX.length 0,.slice none ([]:aA).length 0],I mM]:Value)) e0 e1 e3
  exact⟨none,0,none,0,none,0,bu,H3.below,(amz (fun (x_:List bA)=>RV _ _ (.slice none x_.length 0) x_) e0).mp (eH _ _),(amz (fun (x_:List aO)=>RV _ _ (.slice none x_.length 0) x_) e1).mp (eH _ _),(eH _ _)⟩
 refine sk<|nx<|sq ?_
 have hq:iN h=true:=by simpa using b0
 refine rg<|k<|al H2 ej ?_
 intro ba w2 fe (H3:HI M w w2 [box ba #[.slice none 0 0,.slice none 0 0,.slice none 0 0] 47,J1,J0])
 refine aq<|sq<|az<|ak (v:=I 0) J J<|aq<|bk ?_
 have H4:=H3.rB bA 9
 have H5:=H4.rB aO 95
 refine lp (fun m f w'=>∃(i:Nat) (vs:List bA) (aE:List aO) (a0:OA) (c0:Nat) (a1:OA) (c1:Nat),m=h.length-i∧f 0=sL ju h jt∧f 2=pV aZ 0∧f 4=pV ba 0∧f 5=I (i:Int)∧HI M w w' [oL w 95 a1 aE c1,oL w 9 a0 vs c0,box ba #[sL a0 vs c0,sL a1 aE c1,.slice none 0 0] 47,J1,J0]∧(i≤h.length)∧(vs=(iy h i).1)∧(aE=(iy h i).2)) _ ⟨0,([]:List bA),([]:List aO),none,0,none,0,J,i0,J,J,(bN J),H5,aj,(by rfl),(by rfl)⟩ ?_
 rintro _ f0 w3 ⟨i,vs,aE,a0,c0,a1,c1,rfl,s0,s1,s2,s3,H6,Xy,h1,h2⟩
 refine sq<|az<|ai J s3<|ai J s0<|k<|ef J J vJ<|k<|lss J J J J<|z<|nx<|cd (b:=decide ((i:Int)<(h.length:Int))) J J (fun b1=>?_)<|fun b1=>?_
 ·
  have p1:=dT b1
  refine sk<|nx<|sq<|bk<|az<|ak (v:=I 0) J J<|aq<|bk<|lp (fun m f w'=>∃(q:Nat) (vs:List bA) (aE:List aO) (a2:OA) (c2:Nat) (a3:OA) (c3:Nat),m=(h.getD i []).length-q∧f 0=sL ju h jt∧f 2=pV aZ 0∧f 4=pV ba 0∧f 5=I (i:Int)∧f 6=I (q:Int)∧HI M w w' [oL w 95 a3 aE c3,oL w 9 a2 vs c2,box ba #[sL a2 vs c2,sL a3 aE c3,.slice none 0 0] 47,J1,J0]∧(q≤(h.getD i []).length)∧(vs=(jI i (iy h i) (h.getD i []) q).1)∧(aE=(jI i (iy h i) (h.getD i []) q).2)) _ ⟨0,vs,aE,a0,c0,a1,c1,J,s0,s1,s2,s3,(bN J),H6,aj,(by exact h1),(by exact h2)⟩ ?_
  rintro _ f1 w4 ⟨q,vs,aE,a2,c2,a3,c3,rfl,s4,s5,s6,s7,s8,H7,hk,h1,h2⟩
  refine sq<|az<|ai J s8<|ai J s4<|ai J s7<|k<|ia (H7.rv 4 J) J J J J aj vJ uj ?_
  intro iE x0 aI cD
  refine k<|wg cD.w uj J J ?_
  intro a4 c4 cE
  have BB:=bl cE
  let J2:=iL a4 x0 c4
  have H8:=H7.put (it:=J2) J cE
  refine k<|ef J J lI<|k<|lss J J J J<|z<|nx<|cd (b:=decide ((q:Int)<(x0.length:Int))) J J (fun b2=>?_)<|fun b2=>?_
  ·
   have p2:=dT b2
   refine sk<|nx<|sq<|bk<|az<|ai J s4<|ai J s7<|k<|ia (H8.rv 5 J) J J J J aj vJ uj ?_
   intro rb x1 bV gG
   refine k<|wg gG.w uj J J ?_
   intro a5 c5 ep
   have ln1:=bl ep
   let J3:=iL a5 x1 c5
   have H9:=H8.put (it:=J3) J ep
   refine ai J s8<|k<|ia (H9.rv 0 J) J J J J (by have e_:=nq bV aI;subst e_;omega) lI fZ ?_
   intro pq x2 jb kB
   refine k<|nr kB.w fZ J J ?_
   intro v0 ei
   obtain⟨_,⟨_,_,rfl,rfl,⟨_,_,rfl,⟨rfl,fB⟩,⟨rfl,ja⟩⟩⟩,rfl⟩:=ei
   refine k<|al H9 fZ ?_
   let J4:=box ba #[sL a2 vs c2,sL a3 aE c3,.slice none 0 0] 47
   let bc:=[J3,J2,oL w 95 a3 aE c3,oL w 9 a2 vs c2,J4,J1,J0]
   intro bL w5 fA (dz:HI M w w5 (box bL #[.bool false,.string ⟨#[]⟩,I 0] 43::bc))
   refine k<|bw dz 0 J fZ J J J J J J J ?_
   let J5:=box bL #[.bool x2.1,.string x2.2.1,I x2.2.2] 43
   intro w6 (cB:HI M w w6 (J5::bc))
   refine bz<|aR vu J s6<|bq cB 5 J B3 J J J<|aR nS J J<|bq cB 0 J oG J J J<|k ?_
   have dx:=cB.freeze 4 J
   have dq:=PC (l:=vs) (s:=x2.2.1) dx.mb (dx.rv 4 J) bo
   refine ca aiv J (ec J<|ec J e0) dq ?_
   rintro _ w7 ⟨rfl,iz⟩
   have dI:=cB.ext iz
   refine ak (v:=I (gE vs x2.2.1)) J J<|aq<|sq<|az<|ai (v:=I (gE vs x2.2.1)) J J<|k<|lss J J J J<|z<|nx<|cd (b:=decide ((gE vs x2.2.1)<0)) J J (fun b3=>?_)<|fun b3=>?_
   ·
    have p3:=dT b3
    refine az<|aR vu J s6<|bq dI 5 J B3 J J J<|k<|ef J J Hi<|ak (v:=I (vs.length:Int)) J J<|aq<|rg<|aR vu J s6<|bq dI 5 J B3 J J J<|aR nS J J<|bq dI 0 J oG J J J<|k<|bs (xs:=([x2.2.1]:List bA)) (cells:=#[.string x2.2.1]) (e:=9) dI J (cz J eI) (fun _=>aU) ⟨[.string x2.2.1],[],J,⟨J,bo⟩,J⟩ J au ?_
    intro g0 w8 jh cU
    refine k<|me cU 5 J J J J J J (ib<|cU.at_ 0 J) Hi oG J (by have e_:=nq bV aI;have h_:=pW (k:=q) aI aj;rw[←fw aI,←h1,←h2] at h_;simp only[iB,gj];omega) J ?_
    let J6:=own w.heap.size 9 (.slice (some ⟨g0,0,none⟩) 1 1) ([x2.2.1]:List bA)
    intro a6 c6 w9 (d_:HI M w w9 [J6,J5,J3,J2,oL w 95 a3 aE c3,oL w 9 a6 (vs++([x2.2.1]:List bA)) c6,J4,J1,J0])
    let J7:=oL w 9 a6 (vs++([x2.2.1]:List bA)) c6
    refine aR vu J s6<|k<|bw d_ 6 J B3 J J J J J J J ?_
    let J8:=box ba #[sL a6 (vs++([x2.2.1]:List bA)) c6,sL a3 aE c3,.slice none 0 0] 47
    intro dP (dD:HI M w dP [J6,J5,J3,J2,oL w 95 a3 aE c3,J7,J8,J1,J0])
    refine aq<|rg<|aR fF J s6<|bq dD 6 J iZ J J J<|ai J s7<|ai J s8<|aR l_ J J<|bq dD 1 J oo J J J<|ai (v:=I (vs.length:Int)) J J<|aR oS J J<|bq dD 1 J aS J J J<|k<|bd (v:=.agg #[I (i:Int),I (q:Int),.bool x2.1,I (vs.length:Int),I x2.2.2]) J (cz J<|cz J<|cz J<|cz J<|cz J eI) (fun _=>aU)<|k<|bs (xs:=([((i:Int),(q:Int),x2.1,(vs.length:Int),x2.2.2)]:List aO)) (cells:=#[I (i:Int),I (q:Int),.bool x2.1,I (vs.length:Int),I x2.2.2]) (e:=95) dD J (cz J eI) (fun _=>aU) ⟨[I (i:Int),I (q:Int),.bool x2.1,I (vs.length:Int),I x2.2.2],[],J,⟨_,_,J,⟨J,(show aL ((i:Int)) from aT)⟩,⟨_,_,J,⟨J,(show aL ((q:Int)) from aT)⟩,⟨_,_,J,J,⟨_,_,J,⟨J,(show aL ((vs.length:Int)) from(by have e_:=nq bV aI;have h3:=pW (k:=q) aI aj;rw[←fw aI,←h1,←h2] at h3;unfold aL;omega))⟩,⟨J,(show aL (x2.2.2) from aT)⟩⟩⟩⟩⟩,J⟩ J au ?_
    intro g1 eB ki cY
    refine k<|me cY 5 J J J J J J (ib<|cY.at_ 0 J) jv jB J (by have e_:=nq bV aI;have h_:=pW (k:=q) aI aj;rw[←fw aI,←h1,←h2] at h_;simp only[iB,gj];omega) J ?_
    let J9:=own w.heap.size 95 (.slice (some ⟨g1,0,none⟩) 1 1) ([((i:Int),(q:Int),x2.1,(vs.length:Int),x2.2.2)]:List aO)
    intro a7 c7 fE (dW:HI M w fE [J9,J6,J5,J3,J2,oL w 95 a7 (aE++([((i:Int),(q:Int),x2.1,(vs.length:Int),x2.2.2)]:List aO)) c7,J7,J8,J1,J0])
    let dZ:=oL w 95 a7 (aE++([((i:Int),(q:Int),x2.1,(vs.length:Int),x2.2.2)]:List aO)) c7
    refine aR fF J s6<|k<|bw dW 7 J iZ J J J J J J J ?_
    let eP:=box ba #[sL a6 (vs++([x2.2.1]:List bA)) c6,sL a7 (aE++([((i:Int),(q:Int),x2.1,(vs.length:Int),x2.2.2)]:List aO)) c7,.slice none 0 0] 47
    intro iU (dQ:HI M w iU [J9,J6,J5,J3,J2,dZ,J7,eP,J1,J0])
    refine z<|aF<|nx<|rg<|ai J s8<|k<|add J J J J aT<|ak (v:=I ((q:Int)+1)) J J<|z ?_
    have cQ:HI M w iU [dZ,J7,eP,J1,J0]:=dQ.bZ [5,6,7,8,9] au J
    refine bG _ ?_ ⟨(q+1),(vs++([x2.2.1]:List bA)),(aE++([((i:Int),(q:Int),x2.1,(vs.length:Int),x2.2.2)]:List aO)),a6,c6,a7,c7,J,s4,s5,s6,s7,(bN J),cQ,(by rw[fw aI];omega),(by rw[h1] at *;have e_:=nq bV aI;subst e_;rw[fw aI] at *;first|exact(xo jb p3).1|exact(xn jb p3).1),(by rw[h1,h2] at *;have e_:=nq bV aI;subst e_;rw[fw aI] at *;first|exact(xo jb p3).2|exact(xn jb p3).2)⟩
    rw[fw aI];omega
   have p3:=dF b3
   refine sk<|nx<|rg<|aR fF J s6<|bq dI 5 J iZ J J J<|ai J s7<|ai J s8<|aR l_ J J<|bq dI 0 J oo J J J<|ai (v:=I (gE vs x2.2.1)) J J<|aR oS J J<|bq dI 0 J aS J J J<|k<|bd (v:=.agg #[I (i:Int),I (q:Int),.bool x2.1,I (gE vs x2.2.1),I x2.2.2]) J (cz J<|cz J<|cz J<|cz J<|cz J eI) (fun _=>aU)<|k<|bs (xs:=([((i:Int),(q:Int),x2.1,gE vs x2.2.1,x2.2.2)]:List aO)) (cells:=#[I (i:Int),I (q:Int),.bool x2.1,I (gE vs x2.2.1),I x2.2.2]) (e:=95) dI J (cz J eI) (fun _=>aU) ⟨[I (i:Int),I (q:Int),.bool x2.1,I (gE vs x2.2.1),I x2.2.2],[],J,⟨_,_,J,⟨J,(show aL ((i:Int)) from aT)⟩,⟨_,_,J,⟨J,(show aL ((q:Int)) from aT)⟩,⟨_,_,J,J,⟨_,_,J,⟨J,(show aL (gE vs x2.2.1) from(by have h_:=wJ (p:=Gq x2.2.1) (r:=vs);have e_:=nq bV aI;have h3:=pW (k:=q) aI aj;rw[←fw aI,←h1,←h2] at h3;unfold gE;unfold aL;omega))⟩,⟨J,(show aL (x2.2.2) from aT)⟩⟩⟩⟩⟩,J⟩ J au ?_
   intro g0 w8 jh cU
   refine k<|me cU 4 J J J J J J (ib<|cU.at_ 0 J) jv jB J (by have e_:=nq bV aI;have h_:=pW (k:=q) aI aj;rw[←fw aI,←h1,←h2] at h_;simp only[iB,gj];omega) J ?_
   let gp:=own w.heap.size 95 (.slice (some ⟨g0,0,none⟩) 1 1) ([((i:Int),(q:Int),x2.1,gE vs x2.2.1,x2.2.2)]:List aO)
   intro a6 c6 w9 (d_:HI M w w9 [gp,J5,J3,J2,oL w 95 a6 (aE++([((i:Int),(q:Int),x2.1,gE vs x2.2.1,x2.2.2)]:List aO)) c6,oL w 9 a2 vs c2,J4,J1,J0])
   let fQ:=oL w 95 a6 (aE++([((i:Int),(q:Int),x2.1,gE vs x2.2.1,x2.2.2)]:List aO)) c6
   refine aR fF J s6<|k<|bw d_ 6 J iZ J J J J J J J ?_
   let iF:=box ba #[sL a2 vs c2,sL a6 (aE++([((i:Int),(q:Int),x2.1,gE vs x2.2.1,x2.2.2)]:List aO)) c6,.slice none 0 0] 47
   intro dP (dD:HI M w dP [gp,J5,J3,J2,fQ,oL w 9 a2 vs c2,iF,J1,J0])
   refine z<|aF<|nx<|rg<|ai J s8<|k<|add J J J J aT<|ak (v:=I ((q:Int)+1)) J J<|z ?_
   have cY:HI M w dP [fQ,oL w 9 a2 vs c2,iF,J1,J0]:=dD.bZ [4,5,6,7,8] au J
   refine bG _ ?_ ⟨(q+1),vs,(aE++([((i:Int),(q:Int),x2.1,gE vs x2.2.1,x2.2.2)]:List aO)),a2,c2,a6,c6,J,s4,s5,s6,s7,(bN J),cY,(by rw[fw aI];omega),(by rw[h1] at *;have e_:=nq bV aI;subst e_;rw[fw aI] at *;first|exact(xo jb p3).1|exact(xn jb p3).1),(by rw[h1,h2] at *;have e_:=nq bV aI;subst e_;rw[fw aI] at *;first|exact(xo jb p3).2|exact(xn jb p3).2)⟩
   rw[fw aI];omega
  have p2:=dF b2
  refine ex<|aV<|bf<|bh<|aF<|nx<|rg<|ai J s7<|k<|add J J J J aT<|ak (v:=I ((i:Int)+1)) J J<|z ?_
  have H9:HI M w w4 [oL w 95 a3 aE c3,oL w 9 a2 vs c2,box ba #[sL a2 vs c2,sL a3 aE c3,.slice none 0 0] 47,J1,J0]:=H8.bZ [1,2,3,4,5] au J
  refine bG _ ?_ ⟨(i+1),vs,aE,a2,c2,a3,c3,J,s4,s5,s6,(bN J),H9,aj,(by rw[h1,Br aj (by rw[fw aI];omega)]),(by rw[h2,Br aj (by rw[fw aI];omega)])⟩
  omega
 have p1:=dF b1
 refine ex<|aV<|bf<|bh<|cV<|k<|cI H6 2 J ej J s2 au J<|k<|bw H6 3 J ej J J s1 J J J J ?_
 intro w4 (H7:HI M w w4 [oL w 95 a1 aE c1,oL w 9 a0 vs c0,box ba #[sL a0 vs c0,sL a1 aE c1,.slice none 0 0] 47,box aZ #[sL a0 vs c0,sL a1 aE c1,.slice none 0 0] 47,J0])
 refine ak (v:=I 0) J J<|aq<|rt<|iA H7 3 J ej J J J s1 J au ?_
 have e0:(vs:List bA)=l7 h:=by rw[(r5 hq).1,h1];unfold DU;rw[show i=h.length from by omega]
 have e1:(aE:List aO)=cX h:=by rw[(r5 hq).2.1,h2];unfold wN;rw[show i=h.length from by omega]
 have e3:(0:Int)=ly h:=by exact(r5 hq).2.2.symm
 have bu:=qX (fun (cq:List bA) (dX:List aO) (mM:Int)=>(.tuple #[.agg #[.slice a0 cq.length c0,.slice a1 dX.length c1,.slice none ([]:aA).length 0],I mM]:Value)) e0 e1 e3
 exact⟨a0,c0,a1,c1,none,0,bu,H7.below,(amz (fun (x_:List bA)=>RV _ _ (.slice a0 x_.length c0) x_) e0).mp (H7.mu 1 J),(amz (fun (x_:List aO)=>RV _ _ (.slice a1 x_.length c1) x_) e1).mp (H7.mu 0 J),(eH _ _)⟩
theorem D8 {val:Int} (hM:eU M w) (dG:cL M w aw av U) (acr:aL vr) (alg:aL val):Calls aJ 49 #[.agg #[.slice aC aD aB,sL aw U av,.slice ay fc ax],I vr,I val] w (cA fun v w'=>v=.tuple #[I (max (gx U vr val) 0),.bool (decide (0≤gx U vr val))]∧Ext w w'):=by
 refine dH 43 Tryz.func49 J J J hM fun f0 ha H=>?_
 have H0:=eu H dG
 have iS:=bl dG
 have i0:f0 0=.agg #[.slice aC aD aB,sL aw U av,.slice ay fc ax]:=ha 0 bm
 have i1:f0 1=I vr:=ha 1 bm
 have i2:f0 2=I val:=ha 2 bm
 refine az<|k<|bx H0 J i0 ?_
 intro aZ w0 bY (H1:HI M w w0 [box aZ #[.slice aC aD aB,sL aw U av,.slice ay fc ax] 47,iL aw U av])
 refine ak (v:=I 0) J J<|ak (v:=.bool false) J J<|aq<|sq<|az<|ak (v:=I 0) J J<|aq<|bk<|lp (fun m f w'=>∃(j:Nat),m=U.length-j∧f 1=I vr∧f 2=I val∧f 3=pV aZ 0∧f 8=I (j:Int)∧HI M w w' [box aZ #[.slice aC aD aB,sL aw U av,.slice ay fc ax] 47,iL aw U av]∧(j≤U.length)∧((U.take j).any (lK vr val)=false)) _ ⟨0,J,i1,i2,J,(bN J),H1,aj,bm⟩ ?_
 rintro _ f0 w1 ⟨j,rfl,s0,s1,s2,s3,H2,hk,hs⟩
 refine sq<|az<|ai J s3<|aR fF J s2<|bq H2 0 J iZ J J J<|k<|ef J J jv<|k<|lss J J J J<|z<|nx<|cd (b:=decide ((j:Int)<(U.length:Int))) J J (fun b0=>?_)<|fun b0=>?_
 ·
  have p0:=dT b0
  refine sk<|nx<|sq<|bk<|az<|aR fF J s2<|bq H2 0 J iZ J J J<|ai J s3<|k<|ia (H2.rv 1 J) J J J J aj jv jB ?_
  intro iE x0 aI cD
  refine aR vt J J<|k<|ldB ((cD).s2).fst.w oo J J<|ai (v:=.bool x0.2.2.1) J J ?_
  rcases bE (x0.2.2.1) with b1|b1
  ·
   refine aQ J J J b1<|fa fF J s2<|aQ J J J b1<|lx H2 0 J iZ J J J<|aQ J J J b1<|mv J s3<|aQ J J J b1<|ia (H2.rv 1 J) J J J J aj jv jB ?_
   intro rb x1 bV gG
   refine aQ J J J b1<|fa tD J J<|aQ J J J b1<|mV ((gG).s3).fst.w aS J J ?_
   intro cE
   refine aQ J J J b1<|mv J s0<|aQ J J J b1<|eql J J J J<|k<|aN J J J J b1 J<|ai (v:=.bool (decide (x1.2.2.2.1=vr))) J J ?_
   rcases bE (decide (x1.2.2.2.1=vr)) with b2|b2
   ·
    have p2:=dT b2
    refine aQ J J J b2<|fa fF J s2<|aQ J J J b2<|lx H2 0 J iZ J J J<|aQ J J J b2<|mv J s3<|aQ J J J b2<|ia (H2.rv 1 J) J J J J aj jv jB ?_
    intro pq x2 jb kB
    refine aQ J J J b2<|fa rQ J J<|aQ J J J b2<|mV (kB).s4.w aS J J ?_
    intro ep
    refine aQ J J J b2<|mv J s1<|aQ J J J b2<|eql J J J J<|k<|aN J J J J b2 J<|z<|nx<|cd (b:=decide (x2.2.2.2.2=val)) J J (fun b3=>?_)<|fun b3=>?_
    ·
     refine az<|ai J s3<|ak (v:=I (j:Int)) J J<|ak (v:=.bool true) J J<|aq<|rt<|bU<|aK<|ee<|bU<|aK<|r2 J J J ?_
     have e0:((j:Int):Int)=(max (gx U vr val) 0):=by have e1:=nq bV aI;subst e1;have e2:=nq jb aI;subst e2;have h_:=QW aI b1 b2 b3 hs;omega
     have e1:(true:Bool)=decide (0≤gx U vr val):=by have e1:=nq bV aI;subst e1;have e2:=nq jb aI;subst e2;have h_:=QW aI b1 b2 b3 hs;symm;rw[amB];omega
     have bu:=ny (fun (cq:Int) (dX:Bool)=>(.tuple #[I cq,.bool dX]:Value)) e0 e1
     exact⟨bu,H2.below⟩
    have p3:=dF b3
    refine sk<|aF<|nx<|rg<|ai J s3<|k<|add J J J J aT<|ak (v:=I ((j:Int)+1)) J J<|z<|bG _ ?_ ⟨(j+1),J,s0,s1,s2,(bN J),H2,aj,(by have e1:=nq bV aI;subst e1;first|exact pD aI hs (Oi b2)|(have e2:=nq jb aI;subst e2;exact pD aI hs (Oh b3)))⟩
    omega
   have p2:=dF b2
   refine aX J J J b2<|aX J J J b2<|aX J J J b2<|aX J J J b2<|aX J J J b2<|aX J J J b2<|aX J J J b2<|aX J J J b2<|k<|cZ J J J J b2 J<|aq<|nU J J J<|sk<|aF<|nx<|rg<|ai J s3<|k<|add J J J J aT<|ak (v:=I ((j:Int)+1)) J J<|z<|bG _ ?_ ⟨(j+1),J,s0,s1,s2,(bN J),H2,aj,(by have e1:=nq bV aI;subst e1;first|exact pD aI hs (Oi b2)|(have e2:=nq jb aI;subst e2;exact pD aI hs (Oh b3)))⟩
   omega
  refine aX J J J b1<|aX J J J b1<|aX J J J b1<|aX J J J b1<|aX J J J b1<|aX J J J b1<|aX J J J b1<|aX J J J b1<|k<|cZ J J J J b1 J<|ai (v:=.bool false) J J<|aX J J J J<|aX J J J J<|aX J J J J<|aX J J J J<|aX J J J J<|aX J J J J<|aX J J J J<|aX J J J J<|k<|cZ J J J J J J<|aq<|nU J J J<|sk<|aF<|nx<|rg<|ai J s3<|k<|add J J J J aT<|ak (v:=I ((j:Int)+1)) J J<|z<|bG _ ?_ ⟨(j+1),J,s0,s1,s2,(bN J),H2,aj,(by exact pD aI hs (Zq b1))⟩
  omega
 have p0:=dF b0
 refine ex<|aV<|bf<|bh<|cV<|ak (v:=I 0) J J<|ak (v:=.bool false) J J<|aq<|rt<|r2 J J J ?_
 have e0:(0:Int)=(max (gx U vr val) 0):=by have h_:=Nt hs aj;omega
 have e1:(false:Bool)=decide (0≤gx U vr val):=by have h_:=Nt hs aj;symm;rw[amN];omega
 have bu:=ny (fun (cq:Int) (dX:Bool)=>(.tuple #[I cq,.bool dX]:Value)) e0 e1
 exact⟨bu,H2.below⟩
theorem M8 (hM:eU M w) (dG:cL M w aw av U):Calls aJ 24 #[.agg #[.slice aC aD aB,sL aw U av,.slice ay fc ax]] w (cA fun v w'=>v=.tuple #[I ((da U).1),I ((da U).2.1),I ((da U).2.2)]∧Ext w w'):=by
 refine dH 43 Tryz.func24 J J J hM fun f0 ha H=>?_
 let J0:=iL aw U av
 have H0:=H.put (it:=J0) J<|by rw[bS];exact dG
 have iS:=bl dG
 have i0:f0 0=.agg #[.slice aC aD aB,sL aw U av,.slice ay fc ax]:=ha 0 bm
 refine az<|k<|bx H0 J i0 ?_
 intro aZ w0 bY (H1:HI M w w0 [box aZ #[.slice aC aD aB,sL aw U av,.slice ay fc ax] 47,J0])
 let J1:=box aZ #[.slice aC aD aB,sL aw U av,.slice ay fc ax] 47
 refine ak (v:=I 0) J J<|ak (v:=I 0) J J<|ak (v:=I 0) J J<|aq<|sq<|az<|ak (v:=I 0) J J<|aq<|bk<|lp (fun m f w'=>∃(j:Nat),m=U.length-j∧f 1=pV aZ 0∧f 5=I (j:Int)∧HI M w w' [J1,J0]∧(j≤U.length)∧(∀k,k<j→nj U k=false)) _ ⟨0,J,J,(bN J),H1,aj,(by intro k hk;omega)⟩ ?_
 rintro _ f0 w1 ⟨j,rfl,s0,s1,H2,hk,hs⟩
 refine sq<|az<|ai J s1<|aR fF J s0<|bq H2 0 J iZ J J J<|k<|ef J J jv<|k<|lss J J J J<|z<|nx<|cd (b:=decide ((j:Int)<(U.length:Int))) J J (fun b0=>?_)<|fun b0=>?_
 ·
  have p0:=dT b0
  refine sk<|nx<|sq<|bk<|az<|aR fF J s0<|bq H2 0 J iZ J J J<|ai J s1<|k<|ia (H2.rv 1 J) J J J J aj jv jB ?_
  intro iE x0 aI cD
  refine k<|nr cD.w jB J J ?_
  intro v0 cE
  obtain⟨_,⟨_,_,rfl,⟨rfl,ep⟩,⟨_,_,rfl,⟨rfl,ei⟩,⟨_,_,rfl,rfl,⟨_,_,rfl,⟨rfl,fB⟩,⟨rfl,ja⟩⟩⟩⟩⟩,rfl⟩:=cE
  refine k<|al H2 jB ?_
  intro ba w2 dy (H3:HI M w w2 [box ba #[I 0,I 0,.bool false,I 0,I 0] 95,J1,J0])
  refine k<|bw H3 0 J jB J J J J J J J ?_
  intro w3 (H4:HI M w w3 [box ba #[I x0.1,I x0.2.1,.bool x0.2.2.1,I x0.2.2.2.1,I x0.2.2.2.2] 95,J1,J0])
  refine aq<|sq<|az<|aR vt J J<|bq H4 0 J oo J J J<|k<|kg J J<|z<|nx<|cd (b:=!x0.2.2.1) J J (fun b1=>?_)<|fun b1=>?_
  ·
   refine ex<|aV<|bh<|nx<|rg<|ai J s1<|k<|add J J J J aT<|ak (v:=I ((j:Int)+1)) J J<|z ?_
   have H5:HI M w w3 [J1,J0]:=H4.bZ [1,2] au J
   refine bG _ ?_ ⟨(j+1),J,s0,(bN J),H5,aj,(by exact Bp hs aI (Mt<|by simpa using b1))⟩
   omega
  refine sk<|nx<|sq<|az<|aR rQ J J<|bq H4 0 J aS J J J<|k<|eql J J J J<|z<|nx<|cd (b:=decide (x0.2.2.2.2=0)) J J (fun b2=>?_)<|fun b2=>?_
  ·
   have p2:=dT b2
   refine az<|ai J s1<|ai J s1<|ak (v:=I (j:Int)) J J<|ak (v:=I (j:Int)) J J<|ak (v:=I 5) J J<|aq<|rt<|aK<|bU<|aK<|ee<|bU<|aK<|r3 J J J J ?_
   have e0:((j:Int):Int)=(da U).1:=by exact(amz (fun z_:Int×Int×Int=>z_.1)<|uN hs aI (by simpa using b1) p2).symm
   have e1:((j:Int):Int)=(da U).2.1:=by exact(amz (fun z_:Int×Int×Int=>z_.2.1)<|uN hs aI (by simpa using b1) p2).symm
   have e2:(5:Int)=(da U).2.2:=by exact(amz (fun z_:Int×Int×Int=>z_.2.2)<|uN hs aI (by simpa using b1) p2).symm
   have bu:=qX (fun (cq:Int) (dX:Int) (gQ:Int)=>(.tuple #[I cq,I dX,I gQ]:Value)) e0 e1 e2
   exact⟨bu,H4.below⟩
  have p2:=dF b2
  refine sk<|cV<|k<|cI H4 1 J ej J s0 au J<|aR tD J J<|bq H4 0 J aS J J J<|aR rQ J J<|bq H4 0 J aS J J J<|k ?_
  have bT:=D8 (U:=U) (vr:=x0.2.2.2.1) (val:=x0.2.2.2.2) (aC:=aC) (aD:=aD) (aB:=aB) (ay:=ay) (fc:=fc) (ax:=ax) H4.mb (H4.rv 2 J) fB ja
  refine ca acQ J (ec J<|ec J<|ec J e0) bT ?_
  rintro _ w4 ⟨rfl,fe⟩
  have H5:=H4.ext fe
  refine ai (v:=.tuple #[I (max (gx U x0.2.2.2.1 x0.2.2.2.2) 0),.bool (decide (0≤gx U x0.2.2.2.1 x0.2.2.2.2))]) J J<|k<|xt J J J<|k<|xt J J J<|ak (v:=I (max (gx U x0.2.2.2.1 x0.2.2.2.2) 0)) J J<|ak (v:=.bool (decide (0≤gx U x0.2.2.2.1 x0.2.2.2.2))) J J<|bz<|ai (v:=I (max (gx U x0.2.2.2.1 x0.2.2.2.2) 0)) J J<|ai J s1<|k<|lss J J J J<|z<|nx<|cd (b:=decide ((max (gx U x0.2.2.2.1 x0.2.2.2.2) 0)<(j:Int))) J J (fun b3=>?_)<|fun b3=>?_
  ·
   have p3:=dT b3
   refine az<|ai (v:=I (max (gx U x0.2.2.2.1 x0.2.2.2.2) 0)) J J<|ai J s1<|ak (v:=I (max (gx U x0.2.2.2.1 x0.2.2.2.2) 0)) J J<|ak (v:=I (j:Int)) J J<|ak (v:=I 4) J J<|aq<|rt<|bU<|aK<|ee<|bU<|aK<|r3 J J J J ?_
   have e0:((max (gx U x0.2.2.2.1 x0.2.2.2.2) 0):Int)=(da U).1:=by exact(amz (fun z_:Int×Int×Int=>z_.1)<|sR hs aI (by simpa using b1) p2 p3).symm
   have e1:((j:Int):Int)=(da U).2.1:=by exact(amz (fun z_:Int×Int×Int=>z_.2.1)<|sR hs aI (by simpa using b1) p2 p3).symm
   have e2:(4:Int)=(da U).2.2:=by exact(amz (fun z_:Int×Int×Int=>z_.2.2)<|sR hs aI (by simpa using b1) p2 p3).symm
   have bu:=qX (fun (cq:Int) (dX:Int) (gQ:Int)=>(.tuple #[I cq,I dX,I gQ]:Value)) e0 e1 e2
   exact⟨bu,H5.below⟩
  have p3:=dF b3
  refine sk<|aF<|nx<|rg<|ai J s1<|k<|add J J J J aT<|ak (v:=I ((j:Int)+1)) J J<|z ?_
  have H6:HI M w w4 [J1,J0]:=H5.bZ [1,2] au J
  refine bG _ ?_ ⟨(j+1),J,s0,(bN J),H6,aj,(by exact Bp hs aI (Mu p2 p3))⟩
  omega
 have p0:=dF b0
 refine ex<|aV<|bf<|bh<|cV<|ak (v:=I 0) J J<|ak (v:=I 0) J J<|ak (v:=I 0) J J<|aq<|rt<|r3 J J J J ?_
 have e0:(0:Int)=(da U).1:=by exact(amz (fun z_:Int×Int×Int=>z_.1)<|wZ hs aj).symm
 have e1:(0:Int)=(da U).2.1:=by exact(amz (fun z_:Int×Int×Int=>z_.2.1)<|wZ hs aj).symm
 have e2:(0:Int)=(da U).2.2:=by exact(amz (fun z_:Int×Int×Int=>z_.2.2)<|wZ hs aj).symm
 have bu:=qX (fun (cq:Int) (dX:Int) (gQ:Int)=>(.tuple #[I cq,I dX,I gQ]:Value)) e0 e1 e2
 exact⟨bu,H2.below⟩
theorem S1:gv aJ 95 0 0:=js Tryz.underlying95
theorem ac4:gv aJ 95 1 1:=js Tryz.underlying95
theorem Pn (hM:eU M w) (dG:cL M w aw av U) (ho:hG U) (dC:U.length≤4096):Calls aJ 97 #[.agg #[.slice aC aD aB,sL aw U av,.slice ay fc ax]] w (cA fun v w'=>∃(a0:OA) (c0:Nat),v=.agg #[I (U.length:Int),.slice a0 (oN U).length c0]∧Ext w w'∧bj M 144 w (oN U) (.slice a0 (oN U).length c0) w'):=by
 refine dH 49 Tryz.func97 J J J hM fun f0 ha H=>?_
 let J0:=iL aw U av
 have H0:=H.put (it:=J0) J<|by rw[bS];exact dG
 have iS:=bl dG
 have i0:f0 0=.agg #[.slice aC aD aB,sL aw U av,.slice ay fc ax]:=ha 0 bm
 refine az<|k<|bx H0 J i0 ?_
 intro aZ w0 bY (H1:HI M w w0 [box aZ #[.slice aC aD aB,sL aw U av,.slice ay fc ax] 47,J0])
 let J1:=box aZ #[.slice aC aD aB,sL aw U av,.slice ay fc ax] 47
 refine k<|al H1 bp ?_
 intro ba w1 dy (H2:HI M w w1 [box ba #[I 0,.slice none 0 0] 26,J1,J0])
 let J2:=box ba #[I 0,.slice none 0 0] 26
 refine bz<|aR fF J J<|bq H2 1 J iZ J J J<|k<|ef J J jv<|k ?_
 have bT:=Oc (n:=(U.length:Int)) H2.mb aT
 refine ca GF J (ec J e0) bT ?_
 rintro _ w2 ⟨a0,c0,rfl,fe,cE⟩
 have H3:=H2.eS cE
 refine ai (v:=.tuple #[.agg #[I (oD (U.length:Int)),sL a0 (iJ (U.length:Int)) c0],I (r6 (U.length:Int))]) J J<|k<|xt J J J<|k<|xt J J J<|k<|al H3 bp ?_
 let bc:=[oL w 144 a0 (iJ (U.length:Int)) c0,J2,J1,J0]
 intro bL w3 fA (H4:HI M w w3 (box bL #[I 0,.slice none 0 0] 26::bc))
 refine k<|bw H4 0 J bp J J J J J J J ?_
 let J3:=box bL #[I (oD (U.length:Int)),sL a0 (iJ (U.length:Int)) c0] 26
 intro w4 (H5:HI M w w4 (J3::bc))
 refine ak (v:=I (r6 (U.length:Int))) J J<|aq<|sq<|sq ?_
 have Vl:Cu (U.length:Int)=true:=sE.2 aj
 obtain⟨en,er, -⟩:=xD Vl
 refine rg<|aR fF J J<|bq H5 3 J iZ J J J<|k<|ef J J jv<|k<|sub J J J J aT<|ak (v:=I ((U.length:Int)-2)) J J<|aq<|bk<|lp (fun m f w'=>∃(j:Nat) (xs:List (List bt)),m=U.length-j∧f 1=pV aZ 0∧f 2=pV ba 0∧f 3=pV bL 0∧f 5=I ((U.length:Int)-2-(j:Int))∧HI M w w' [J3,own w.heap.size 144 (.slice a0 (iJ (U.length:Int)).length c0) xs,J2,J1,J0]∧(j≤U.length)∧(xs.length=U.length)∧(xs=zh U ((U.length:Int)-2-(j:Int)))) _ ⟨0,(iJ (U.length:Int)),J,J,J,J,(bN J),H5,aj,(by rw[er,pY];simp),(by rw[er];exact PF _ _ aj)⟩ ?_
 rintro _ f0 w5 ⟨j,xs,rfl,s0,s1,s2,s3,H6,hk,hl,hs⟩
 refine sq<|az<|ai J s3<|k<|geq J J J J<|z<|nx<|cd (b:=decide (0≤((U.length:Int)-2-(j:Int)))) J J (fun b0=>?_)<|fun b0=>?_
 ·
  have p0:=dT b0
  refine sk<|nx<|sq<|bk<|sq<|yT J aU<|kq (fun _ _=>fa fF J s0 e1)<|kq (fun _ x_=>lx (H6.ext x_) 3 J iZ J J J e1)<|kq (fun _ _=>mv J s3 e1)<|mR (H6.rv 4 J) J J J J aj jv jB ?_
  intro iE x0 aI cD
  refine kq (fun _ _=>fa S1 J J e1)<|nP (cD).fst.w aS J J ?_
  intro ep
  refine kq (fun _ _=>fa fF J s0 e1)<|kq (fun _ x_=>lx (H6.ext x_) 3 J iZ J J J e1)<|kq (fun _ _=>mv J s3 e1)<|kq (fun _ _=>add J J J J aT e1)<|mR (H6.rv 4 J) J J J J aj jv jB ?_
  intro rb x1 bV gG
  refine kq (fun _ _=>fa S1 J J e1)<|nP (gG).fst.w aS J J ?_
  intro ei
  refine kq (fun _ _=>eql J J J J e1)<|zq ?_
  intro w6 iz
  have H7:=H6.ext iz
  refine nx<|cd (b:=decide (x0.1=x1.1)) J J (fun b1=>?_)<|fun b1=>?_
  ·
   have p1:=dT b1
   refine ma [.r,.r,.r,.r,.r,.r,.r,.r,.r,.r,.r,.r,.e,.e] (fun _=>True) J aU (fun _ _=>trivial)<|yq J J<|kq (fun _ _=>fa iw J s2 e1)<|bQ<|kq (fun _ x_=>lx (H7.ext x_) 0 J kX J J J e1)<|bQ<|kq (fun _ _=>mv J s3 e1)<|bQ<|kq (fun _ _=>fa iw J s2 e1)<|bQ<|kq (fun _ x_=>lx (H7.ext x_) 0 J kX J J J e1)<|bQ<|kq (fun _ _=>mv J s3 e1)<|bQ<|kq (fun _ _=>add J J J J aT e1)<|bQ<|th (H7.at_ 1 J) J J J J aj ie dt ?_
   intro pq x2 jb kB
   refine bQ<|F3 kB dt J J ?_
   intro a1 c1 fB
   have BB:=bl fB
   have H8:=eu H7 fB
   refine bQ<|kq (fun _ _=>mv J s3 e1)<|bQ<|kq (fun _ _=>add J J J J aT e1)<|zq<|yu J (fun _ v w'=>∃(a2:OA) (c2:Nat),v=sL a2 (eo x2<|((U.length:Int)-2-(j:Int))+1) c2∧RV H7.gh w' (sL a2 (eo x2<|((U.length:Int)-2-(j:Int))+1) c2) (eo x2<|((U.length:Int)-2-(j:Int))+1)) J od J (fun v_ _ x_ _=>have fP:=ur (r:=x2) (i:=(((U.length:Int)-2-(j:Int))+1)) (w:=v_) (H8.ext x_).mb ((H8.ext x_).rv 0 rfl) aT (by have h_:=Uv (hs▸jb);have jj:=MW (n:=U.length) aj;omega);ca Fs rfl (ec J<|ec J e0) fP (fun _ w8 ⟨a3,c3,e_,ki,iH⟩=>⟨_,J,ki,⟨a3,c3,e_,(mJ J<|bj.rv iH (H8.ext x_).mb)⟩⟩))<|ye<|ye<|yz ?_
   intro w9 f1 _ mA _ _ cK iK
   have cU:=H8.ext mA
   have s4:=(cK 1 J).trans s0
   have s5:=(cK 2 J).trans s1
   have s6:=(cK 3 J).trans s2
   have s7:=(cK 5 J).trans s3
   have s8:=cK 36 J
   have s9:=cK 37 J
   obtain⟨a4,c4,eC,nN⟩:=iK 0 _ _ rfl
   let J4:=iL a4 (eo x2 (((U.length:Int)-2-(j:Int))+1)) c4
   have d_:=cU.put (it:=J4) J<|by rw[aH J];exact nN
   refine j8<|iq (d_.at_ 3 J) J J s8 s9 aj ie dt ?_
   intro g0 x3 iC qI tC
   refine j8<|qf d_ 3 J iC J aj dt J J J eC (d_.rv 0 J) ?_
   let J5:=own w.heap.size 144 (.slice a0 (iJ (U.length:Int)).length c0) (xs.set (((U.length:Int)-2-(j:Int)).toNat) (eo x2 (((U.length:Int)-2-(j:Int))+1)))
   intro dP (dD:HI M w dP [J4,iL a1 x2 c1,J3,J5,J2,J1,J0])
   refine kz<|aF<|nx<|rg<|ai J s7<|k<|sub J J J J aT<|ak (v:=I (((U.length:Int)-2-(j:Int))-1)) J J<|z ?_
   have cY:HI M w dP [J3,J5,J2,J1,J0]:=dD.bZ [2,3,4,5,6] au J
   refine bG _ ?_ ⟨(j+1),(xs.set (((U.length:Int)-2-(j:Int)).toNat) (eo x2<|((U.length:Int)-2-(j:Int))+1)),J,s4,s5,s6,(bN J),cY,aj,(by simpa using hl),(by rw[show ((U.length:Int)-2-(((j+1:Nat):Nat):Int))=((U.length:Int)-2-(j:Int))-1 from by omega];first|((have h_:=kT (t:=((U.length:Int)-2-(j:Int))) aj aj (by rw[gJ aI,gJ bV];exact p1) (hs▸jb);rw[←h_,←hs]))|((have h_:=kT (t:=((U.length:Int)-2-(j:Int))) aj aj (by rw[gJ aI,gJ bV];exact p1) (hs▸qI);rw[←h_,←hs]))|((have h_:=kT (t:=((U.length:Int)-2-(j:Int))) aj aj (by rw[gJ aI,gJ bV];exact p1) (hs▸Ab);rw[←h_,←hs]))|((have h_:=kT (t:=((U.length:Int)-2-(j:Int))) aj aj (by rw[gJ aI,gJ bV];exact p1) (hs▸Sa);rw[←h_,←hs]))|((have h_:=kT (t:=((U.length:Int)-2-(j:Int))) aj aj (by rw[gJ aI,gJ bV];exact p1) (hs▸hx6);rw[←h_,←hs]))|((have h_:=kT (t:=((U.length:Int)-2-(j:Int))) aj aj (by rw[gJ aI,gJ bV];exact p1) (hs▸hx7);rw[←h_,←hs]))|(rw[hs];exact F7 ho aj aj (by rw[gJ aI,gJ bV];exact p1)))⟩
   omega
  have p1:=dF b1
  refine sk<|aF<|nx<|rg<|ai J s3<|k<|sub J J J J aT<|ak (v:=I (((U.length:Int)-2-(j:Int))-1)) J J<|z<|bG _ ?_ ⟨(j+1),xs,J,s0,s1,s2,(bN J),H7,aj,bo,(by rw[show ((U.length:Int)-2-(((j+1:Nat):Nat):Int))=((U.length:Int)-2-(j:Int))-1 from by omega];first|((have h_:=kT (t:=((U.length:Int)-2-(j:Int))) aj aj (by rw[gJ aI,gJ bV];exact p1) (hs▸jb);rw[←h_,←hs]))|((have h_:=kT (t:=((U.length:Int)-2-(j:Int))) aj aj (by rw[gJ aI,gJ bV];exact p1) (hs▸qI);rw[←h_,←hs]))|((have h_:=kT (t:=((U.length:Int)-2-(j:Int))) aj aj (by rw[gJ aI,gJ bV];exact p1) (hs▸Ab);rw[←h_,←hs]))|((have h_:=kT (t:=((U.length:Int)-2-(j:Int))) aj aj (by rw[gJ aI,gJ bV];exact p1) (hs▸Sa);rw[←h_,←hs]))|((have h_:=kT (t:=((U.length:Int)-2-(j:Int))) aj aj (by rw[gJ aI,gJ bV];exact p1) (hs▸hx6);rw[←h_,←hs]))|((have h_:=kT (t:=((U.length:Int)-2-(j:Int))) aj aj (by rw[gJ aI,gJ bV];exact p1) (hs▸hx7);rw[←h_,←hs]))|(rw[hs];exact F7 ho aj aj (by rw[gJ aI,gJ bV];exact p1)))⟩
  omega
 have p0:=dF b0
 refine ex<|aV<|bf<|bh<|cV<|k<|cI H6 0 J bp J s2 au J<|k<|bw H6 2 J bp J J s1 J J J J ?_
 intro w6 (H7:HI M w w6 [J3,own w.heap.size 144 (.slice a0 (iJ (U.length:Int)).length c0) xs,box ba #[I (oD (U.length:Int)),sL a0 (iJ (U.length:Int)) c0] 26,J1,J0])
 refine aq<|rt<|pf H7 2 J bp J J s1 J au ?_
 have e0:(oD (U.length:Int):Int)=(U.length:Int):=by rw[en]
 have e1:(xs:List (List bt))=oN U:=by rw[hs];exact Uw aj
 have l1:(iJ (U.length:Int)).length=(oN U).length:=by rw[er,pY,YX];simp
 have bu:=ny (fun (cq:Int) (u9:Nat)=>(.agg #[I cq,.slice a0 u9 c0]:Value)) e0 l1
 exact⟨a0,c0,bu,H7.below,(amz (fun (n_:Nat)=>bj _ _ _ (oN U) (.slice a0 n_ c0) _) l1).mp ((amz (fun (x_:List (List bt))=>bj _ _ _ x_ (.slice a0 (iJ (U.length:Int)).length c0) _) e1).mp (H7.du 1 J))⟩
theorem KF {tt:Int} (hM:eU M w) (dG:cL M w aw av U) (alT:aL tt) (ho:hG U) (dC:U.length≤4096):Calls aJ 108 #[.agg #[.slice aC aD aB,sL aw U av,.slice ay fc ax],I tt] w (cA fun v w'=>∃(a0:OA) (c0:Nat),v=.slice a0 (cF U tt).length c0∧Ext w w'∧bj M 3 w (cF U tt) (.slice a0 (cF U tt).length c0) w'):=by
 refine dH 41 Tryz.func108 J J J hM fun f0 ha H=>?_
 let J0:=iL aw U av
 have H0:=H.put (it:=J0) J<|by rw[bS];exact dG
 have iS:=bl dG
 have i0:f0 0=.agg #[.slice aC aD aB,sL aw U av,.slice ay fc ax]:=ha 0 bm
 have i1:f0 1=I tt:=ha 1 bm
 refine az<|k<|bx H0 J i0 ?_
 intro aZ w0 bY (H1:HI M w w0 [box aZ #[.slice aC aD aB,sL aw U av,.slice ay fc ax] 47,J0])
 let J1:=box aZ #[.slice aC aD aB,sL aw U av,.slice ay fc ax] 47
 refine ak (v:=.slice none 0 0) J J<|aq<|sq<|az<|ai J i1<|k<|lss J J J J<|ai (v:=.bool (decide (tt<0))) J J ?_
 rcases bE (decide (tt<0)) with b0|b0
 ·
  have p0:=dT b0
  refine aX J J J b0<|aX J J J b0<|aX J J J b0<|aX J J J b0<|aX J J J b0<|k<|aN J J J J b0 J<|aq<|oA J J J<|az<|ak (v:=.slice none 0 0) J J<|aq<|rt<|aK<|r1 J J ?_
  have e0:([]:aA)=cF U tt:=by exact E7 aj
  have bu:=iD (fun (cq:aA)=>(.slice none cq.length 0:Value)) e0
  exact⟨none,0,bu,H1.below,(amz (fun (x_:aA)=>bj _ _ _ x_ (.slice none x_.length 0) _) e0).mp (fU H1.below)⟩
 have p0:=dF b0
 refine aQ J J J b0<|mv J i1<|aQ J J J b0<|fa fF J J<|aQ J J J b0<|lx H1 0 J iZ J J J<|aQ J J J b0<|ef J J jv<|aQ J J J b0<|geq J J J J<|k<|cZ J J J J b0 J<|z<|nx<|cd (b:=decide ((U.length:Int)≤tt)) J J (fun b1=>?_)<|fun b1=>?_
 ·
  have p1:=dT b1
  refine az<|ak (v:=.slice none 0 0) J J<|aq<|rt<|aK<|r1 J J ?_
  have e0:([]:aA)=cF U tt:=by exact E7 aj
  have bu:=iD (fun (cq:aA)=>(.slice none cq.length 0:Value)) e0
  exact⟨none,0,bu,H1.below,(amz (fun (x_:aA)=>bj _ _ _ x_ (.slice none x_.length 0) _) e0).mp (fU H1.below)⟩
 have p1:=dF b1
 refine sk<|cV<|ai J i1<|aR fF J J<|bq H1 0 J iZ J J J<|ai J i1<|k<|ia (H1.rv 1 J) J J J J aj jv jB ?_
 intro iE x0 aI cD
 refine aR ac4 J J<|k<|mV ((cD).s1).fst.w aS J J ?_
 intro cE
 refine k<|sub J J J J (by have CJ:=ho.z7 tt.toNat aj;have Vk:=(ho.back tt.toNat aj).1;rw[Hr aI] at CJ Vk;unfold aL;omega)<|ak (v:=I (tt-x0.2.1)) J J<|aq<|sq ?_
 have CJ:=ho.z7 tt.toNat aj
 have Vk:=(ho.back tt.toNat aj).1
 rw[Hr aI] at CJ Vk
 refine rg<|ai J i1<|ai (v:=I (tt-x0.2.1)) J J<|k<|sub J J J J aT<|k<|add J J J J aT<|k ?_
 have n0:((((tt-(tt-x0.2.1))+1).toNat:Nat):Int)=(tt-(tt-x0.2.1))+1:=anf aj
 refine mk0 (α:=Int) (m:=((tt-(tt-x0.2.1))+1).toNat) H1 J J J (by rw[n0];exact rfl) cS aS aj aj ?_
 intro g0 w1 dy (H2:HI M w w1 [own w.heap.size 3 (.slice (some ⟨g0,0,none⟩) 0 (((tt-(tt-x0.2.1))+1).toNat)) ([]:aA),J1,J0])
 refine ak (v:=.slice (some ⟨g0,0,none⟩) 0 (((tt-(tt-x0.2.1))+1).toNat)) J J<|aq<|sq<|az<|ai (v:=I (tt-x0.2.1)) J J<|ak (v:=I (tt-x0.2.1)) J J<|aq<|bk<|lp (fun m f w'=>∃(q:Nat) (xs:aA) (a0:OA) (c0:Nat),m=(x0.2.1+1).toNat-q∧f 1=I tt∧f 6=sL a0 xs c0∧f 7=I (tt-x0.2.1+(q:Int))∧HI M w w' [oL w 3 a0 xs c0,J1,J0]∧((q:Int)≤x0.2.1+1)∧(xs=u3 (tt-x0.2.1) q)) _ ⟨0,([]:aA),(some ⟨g0,0,none⟩),(((tt-(tt-x0.2.1))+1).toNat),J,i1,J,(bN J),H2,aj,(by rfl)⟩ ?_
 rintro _ f0 w2 ⟨q,xs,a0,c0,rfl,s0,s1,s2,H3,sI,hs⟩
 refine sq<|az<|ai J s2<|ai J s0<|k<|leq J J J J<|z<|nx<|cd (b:=decide ((tt-x0.2.1+(q:Int))≤tt)) J J (fun b2=>?_)<|fun b2=>?_
 ·
  have p2:=dT b2
  refine sk<|nx<|sq<|bk<|rg<|ai J s1<|ai J s2<|k<|bs (xs:=([(tt-x0.2.1+(q:Int))]:aA)) (cells:=#[I (tt-x0.2.1+(q:Int))]) (e:=3) H3 J (cz J eI) (fun _=>aU) ⟨[I (tt-x0.2.1+(q:Int))],[],J,⟨J,(show aL ((tt-x0.2.1+(q:Int))) from aT)⟩,J⟩ J au ?_
  intro g1 w3 fe H4
  refine k<|me H4 1 J J J J J J (ib<|H4.at_ 0 J) cS aS J (by rw[hs,PI];simp only[iB,gj];omega) J ?_
  intro a1 c1 w4 (H5:HI M w w4 [own w.heap.size 3 (.slice (some ⟨g1,0,none⟩) 1 1) ([(tt-x0.2.1+(q:Int))]:aA),oL w 3 a1 (xs++([(tt-x0.2.1+(q:Int))]:aA)) c1,J1,J0])
  refine ak (v:=sL a1 (xs++([(tt-x0.2.1+(q:Int))]:aA)) c1) J J<|z<|aF<|nx<|rg<|ai J s2<|k<|add J J J J aT<|ak (v:=I ((tt-x0.2.1+(q:Int))+1)) J J<|z ?_
  have H6:HI M w w4 [oL w 3 a1 (xs++([(tt-x0.2.1+(q:Int))]:aA)) c1,J1,J0]:=H5.bZ [1,2,3] au J
  refine bG _ ?_ ⟨(q+1),(xs++([(tt-x0.2.1+(q:Int))]:aA)),a1,c1,J,s0,J,(bN J),H6,aj,(by rw[hs];exact Nb _ _)⟩
  omega
 have p2:=dF b2
 refine ex<|aV<|bf<|bh<|cV<|ai J s1<|ak (v:=sL a0 xs c0) J J<|aq<|rt<|r1 J J ?_
 have e0:(xs:aA)=cF U tt:=by rw[hs];exact RE aj aj aI CJ aj
 have bu:=iD (fun (cq:aA)=>(.slice a0 cq.length c0:Value)) e0
 exact⟨a0,c0,bu,H3.below,(amz (fun (x_:aA)=>bj _ _ _ x_ (.slice a0 x_.length c0) _) e0).mp (H3.du 0 J)⟩
theorem afg:cH aJ 108:=cN Tryz.func108
theorem aff:cH aJ 109:=cN Tryz.func109
theorem Co (hM:eU M w) (dG:cL M w aw av U) (ua:aL o) (ho:hG U) (dC:U.length≤4096):Calls aJ 68 #[.agg #[.slice aC aD aB,sL aw U av,.slice ay fc ax],I o] w (cA fun v w'=>∃(a0:OA) (c0:Nat),v=.slice a0 (aY (gf U) (cF U o)).length c0∧Ext w w'∧bj M 3 w (aY (gf U) (cF U o)) (.slice a0 (aY (gf U) (cF U o)).length c0) w'):=by
 refine dH 10 Tryz.func68 J J J hM fun f0 ha H=>?_
 let J0:=iL aw U av
 have H0:=H.put (it:=J0) J<|by rw[bS];exact dG
 have i0:f0 0=.agg #[.slice aC aD aB,sL aw U av,.slice ay fc ax]:=ha 0 bm
 have i1:f0 1=I o:=ha 1 bm
 refine az<|k<|bx H0 J i0 ?_
 intro aZ w0 bY (H1:HI M w w0 [box aZ #[.slice aC aD aB,sL aw U av,.slice ay fc ax] 47,J0])
 let J1:=box aZ #[.slice aC aD aB,sL aw U av,.slice ay fc ax] 47
 refine ak (v:=.slice none 0 0) J J<|bz<|k<|cI H1 0 J ej J J au J<|ai J i1<|k ?_
 have bT:=KF (U:=U) (tt:=o) (aC:=aC) (aD:=aD) (aB:=aB) (ay:=ay) (fc:=fc) (ax:=ax) H1.mb (H1.rv 1 J) ua aj aj
 refine ca afg J (ec J<|ec J e0) bT ?_
 rintro _ w1 ⟨a0,c0,rfl,dy,cE⟩
 have H2:=H1.eS cE
 refine k<|mf J<|k ?_
 have H3:HI M w w1 ([oL w 3 a0 (cF U o) c0]++[J1,J0]):=H2.bZ [0,1,2] au J
 have dq:=oU (dV:=a0) (dL:=c0) (xs:=(cF U o)) (qk:=109) (qq:=[pV aZ 0]) (p:=(fun (x_:Int)=>gf U x_)) (w:=w) (w_:=w1) (r:=[J1,J0]) (M:=M) ⟨aff,fun w_ rl H_ x_ mW Eg=>PH (U:=U) (M:=fun _=>False) (fun _ h_=>h_.elim) Eg ((H_.rv 2 J).lift (Up.less fun _ _ h_=>h_.elim)) ⟨H_.at_ 1 rfl,fun h_=>h_⟩ (by obtain⟨j_,Gx⟩:=amT.1 mW;exact Iz ho Gx)⟩ H3
 refine ca GG J (ec J<|ec J e0) dq ?_
 rintro _ w2 ⟨rfl,H4⟩
 have H5:HI M w w2 [oL w 3 a0 (aY (fun (x_:Int)=>gf U x_) (cF U o)) c0,J1,J0]:=H4
 refine ak (v:=sL a0 (aY (fun (x_:Int)=>gf U x_)<|cF U o) c0) J J<|aq<|rt<|r1 J J ?_
 have e0:((aY (fun (x_:Int)=>gf U x_) (cF U o)):aA)=aY (gf U) (cF U o):=rfl
 have bu:=iD (fun (cq:aA)=>(.slice a0 cq.length c0:Value)) e0
 exact⟨a0,c0,bu,H5.below,(amz (fun (x_:aA)=>bj _ _ _ x_ (.slice a0 x_.length c0) _) e0).mp (H5.du 0 J)⟩
theorem zn (hM:eU M w) (gk:aL mn) (gB:cL M w bF bD mr) (xO:cL M w mg mI l) (b9:bI mn mr=true) (Xt:l.length≤1000000000):Calls aJ 81 #[.agg #[I mn,sL bF mr bD],sL mg l mI] w (cA fun v w'=>∃(a0:OA) (c0:Nat),v=.agg #[I mn,.slice a0 (gz mn mr l).length c0]∧Ext w w'∧bj M 144 w (gz mn mr l) (.slice a0 (gz mn mr l).length c0) w'):=by
 refine dH 73 Tryz.func81 J J J hM fun f0 ha H=>?_
 let J0:=iL bF mr bD
 have H0:=H.put (it:=J0) J<|by rw[bS];exact gB
 let J1:=iL mg l mI
 have H1:=H0.put (it:=J1) J<|by rw[aH rfl,bS];exact xO
 have np:=bl gB
 have abn:=bl xO
 have i0:f0 0=.agg #[I mn,sL bF mr bD]:=ha 0 bm
 have i1:f0 1=sL mg l mI:=ha 1 bm
 have tX:=(bR b9).1;have I1:=(bR b9).2.2.1;have sN:=kS b9
 refine az<|k<|bx H1 J i0 ?_
 let bc:=[J1,J0]
 intro aZ w0 bY (H2:HI M w w0 (box aZ #[I mn,sL bF mr bD] 26::bc))
 let J2:=box aZ #[I mn,sL bF mr bD] 26
 refine k<|al H2 bp ?_
 let ck:=J2::bc
 intro ba w1 dy (H3:HI M w w1 (box ba #[I 0,.slice none 0 0] 26::ck))
 let J3:=box ba #[I 0,.slice none 0 0] 26
 refine bz<|aR km J J<|bq H3 1 J aS J J J<|k ?_
 have bT:=Dy (n:=mn) H3.mb gk aj
 refine ca Qk J (ec J e0) bT ?_
 rintro _ w2 ⟨a0,c0,rfl,fe,cE⟩
 have H4:=H3.eS cE
 refine ak (v:=sL a0 (eb mn) c0) J J<|aq<|sq<|az<|ai J i1<|k<|ef J J cS<|ai (v:=I 0) J J<|aq<|bk ?_
 have H5:=H4.freeze 0 J
 let J4:=iL a0 (eb mn) c0
 have H6:=H5.put (it:=J4) J<|H5.rv 0 J
 let dY:=J4::J3::ck
 refine lp (fun m f w'=>∃(q:Nat) (rK:List bt) (a1:OA) (c1:Nat),m=l.length-q∧f 2=pV aZ 0∧f 4=pV ba 0∧f 5=sL a1 rK c1∧f 16=sL mg l mI∧f 17=I (l.length:Int)∧f 18=I (q:Int)∧HI M w w' (iL a1 rK c1::dY)∧(q≤l.length)∧(rK=px mn.toNat (l.take q))) _ ⟨0,(eb mn),a0,c0,J,J,J,J,J,J,(bN J),H6,aj,(by exact UZ sN l)⟩ ?_
 rintro _ f0 w3 ⟨q,rK,a1,c1,rfl,s0,s1,s2,s3,s4,s5,H7,sI,hm⟩
 refine az<|k<|lss J J s5 s4<|aq<|sq<|cd (b:=decide ((q:Int)<(l.length:Int))) J J (fun b0=>?_)<|fun b0=>?_
 ·
  have p0:=dT b0
  refine sk<|nx<|sq<|bk<|az<|k<|ia (H7.rv 4 J) J J s3 s5 aj cS aS ?_
  intro iE x0 aI cD
  refine k<|mV cD.w aS J J ?_
  intro ep
  refine ak (v:=I x0) J J<|bz<|ai (v:=I x0) J J<|aR km J s0<|bq H7 3 J aS J J J<|k<|lss J J J J<|z<|nx<|cd (b:=decide (x0<mn)) J J (fun b1=>?_)<|fun b1=>?_
  ·
   have p1:=dT b1
   refine rg<|ai J s2<|ai (v:=I x0) J J<|k ?_
   have dq:=ur (r:=rK) (i:=x0) H7.mb (H7.rv 0 J) ep<|by rw[hm,IC sN];have h_:=EO I1;omega
   refine ca Fs J (ec J<|ec J e0) dq ?_
   rintro _ w4 ⟨a2,c2,rfl,fA,ei⟩
   have H8:=H7.eS ei
   refine ak (v:=sL a2 (eo rK x0) c2) J J<|z<|aF<|nx<|rg<|k<|add J J s5 J aT<|ai (v:=I ((q:Int)+1)) J J<|z ?_
   have H9:=H8.freeze 0 J
   have dz:=eu H9<|H9.rv 0 J
   have cB:HI M w w4 (iL a2 (eo rK x0) c2::dY):=dz.bZ [0,3,4,5,6,7] au J
   refine bG _ ?_ ⟨(q+1),(eo rK x0),a2,c2,J,s0,s1,J,s3,s4,(bN J),cB,aj,(by exact Zc hm aI aj)⟩
   omega
  have p1:=dF b1
  refine sk<|aF<|nx<|rg<|k<|add J J s5 J aT<|ai (v:=I ((q:Int)+1)) J J<|z ?_
  have H8:=eu H7<|H7.rv 0 J
  have H9:HI M w w3 (iL a1 rK c1::dY):=H8.bZ [0,2,3,4,5,6] au J
  refine bG _ ?_ ⟨(q+1),rK,a1,c1,J,s0,s1,s2,s3,s4,(bN J),H9,aj,(by exact abf hm aI aj)⟩
  omega
 have p0:=dF b0
 refine ex<|aV<|bf<|bh<|nx<|sq ?_
 have oe:rK=px mn.toNat l:=by rw[hm,mO aj]
 refine rg<|aR km J s0<|bq H7 3 J aS J J J<|k ?_
 have dq:=Ff (n:=mn) H7.mb gk (by exact kS b9)<|by exact(bR b9).2.2.1
 refine ca GF J (ec J e0) dq ?_
 rintro _ w4 ⟨a2,c2,fR,rfl,fA,ep⟩
 have H8:=H7.F8 ep
 let J5:=own w.heap.size 144 (.slice a2 mn.toNat c2) fR
 let J6:=iL a1 rK c1
 let jk:=J5::J6::dY
 have H9:HI M w w4 (jk++bH w.heap.size 151 fR (List.replicate mn.toNat (eb mn))):=H8
 have EU:=ep.1
 refine ai (v:=.tuple #[.agg #[I mn,.slice a2 mn.toNat c2],I 0]) J J<|k<|xt J J J<|k<|xt J J J<|k<|al H9 bp ?_
 intro bL w5 iz (dz:HI M w w5 ((box bL #[I 0,.slice none 0 0] 26::jk)++bH w.heap.size 151 fR (List.replicate mn.toNat (eb mn))))
 refine k<|bw dz 0 J bp J J J J J J J ?_
 let J7:=box bL #[I mn,.slice a2 mn.toNat c2] 26
 let fL:=J7::jk
 intro w6 (cB:HI M w w6 (fL++bH w.heap.size 151 fR (List.replicate mn.toNat (eb mn))))
 refine ak (v:=I 0) J J<|aq<|sq<|az<|aR iw J J<|bq cB 0 J kX J J J<|k<|ef J J ie<|ai (v:=I 0) J J<|aq<|bk<|lp (fun m f w'=>∃(i:Nat) (xs:List (List bt)),m=mn.toNat-i∧f 2=pV aZ 0∧f 4=pV ba 0∧f 5=sL a1 rK c1∧f 8=pV bL 0∧f 38=I (mn.toNat:Int)∧f 39=I (i:Int)∧HI M w w' (fL++bH w.heap.size 151 fR xs)∧(i≤mn.toNat)∧(fR.length=xs.length)∧(xs=cJ mn.toNat (xg (gi mr) l i))∧(xs.length=mn.toNat)) _ ⟨0,(List.replicate mn.toNat<|eb mn),J,s0,s1,s2,J,J,(bN J),cB,aj,(by exact EU),(by exact T_ b9),bm⟩ ?_
 rintro _ f1 w7 ⟨i,xs,rfl,s6,s7,s8,s9,eC,fj,dx,Xy,hl,hs,Ef⟩
 refine az<|k<|lss J J fj eC<|aq<|sq<|cd (b:=decide ((i:Int)<(mn.toNat:Int))) J J (fun b1=>?_)<|fun b1=>?_
 ·
  have p1:=dT b1
  refine sk<|nx<|sq<|bk<|az<|ai J fj<|ak (v:=I (i:Int)) J J<|aq<|sq<|az<|ai J s8<|ai (v:=I (i:Int)) J J<|k ?_
  have fP:=zQ (r:=rK) (i:=(i:Int)) dx.mb (dx.rv 2 J) aT
  refine ca L1 J (ec J<|ec J e0) fP ?_
  rintro _ w8 ⟨rfl,jh⟩
  have dI:=dx.ext jh
  refine k<|kg J J<|z<|nx<|cd (b:=!(fm rK (i:Int))) J J (fun b2=>?_)<|fun b2=>?_
  ·
   refine ex<|aV<|bh<|nx<|rg<|k<|add J J fj J aT<|ai (v:=I ((i:Int)+1)) J J<|z<|bG _ ?_ ⟨(i+1),xs,J,s6,s7,s8,s9,eC,(bN J),dI,aj,(by exact hl),(by exact Yx b9 hs oe aj (by simpa using b2)),(by exact Ef)⟩
   omega
  refine sk<|cV<|aR iw J s6<|bq dI 5 J kX J J J<|ai (v:=I (i:Int)) J J<|k<|ia (dI.rv 7 J) J J J J aj ie dt ?_
  intro iE x0 aI cD
  refine k<|wg cD.w dt J J ?_
  intro a3 c3 ei
  have BB:=bl ei
  have cU:=eu dI ei
  let lz:=iL a3 x0 c3::fL
  have d_:HI M w w8 (lz++bH w.heap.size 151 fR xs):=cU
  refine k<|ef J J ig<|ai (v:=I 0) J J<|aq<|bk<|lp (fun m f w'=>∃(k_:Nat) (ys:List (List bt)),m=x0.length-k_∧f 2=pV aZ 0∧f 4=pV ba 0∧f 5=sL a1 rK c1∧f 8=pV bL 0∧f 10=I (i:Int)∧f 38=I (mn.toNat:Int)∧f 39=I (i:Int)∧f 50=sL a3 x0 c3∧f 51=I (x0.length:Int)∧f 52=I (k_:Int)∧HI M w w' (lz++bH w.heap.size 151 fR ys)∧(k_≤x0.length)∧(fR.length=ys.length)∧(ys=xs.set i (my x0 rK k_))∧(ys.length=mn.toNat)) _ ⟨0,xs,J,s6,s7,s8,s9,J,eC,fj,J,J,(bN J),d_,aj,(by exact hl),(by exact aea b9 hs aI),(by exact Ef)⟩ ?_
  rintro _ f2 w9 ⟨k_,ys,rfl,fT,fS,gF,gW,kG,lu,mQ,mP,nM,pG,dD,pk,pj,gN,Aa⟩
  refine az<|k<|lss J J pG nM<|aq<|sq<|cd (b:=decide ((k_:Int)<(x0.length:Int))) J J (fun b3=>?_)<|fun b3=>?_
  ·
   have p3:=dT b3
   refine sk<|nx<|sq<|bk<|sq ?_
   have ml_:rK.length=x0.length:=by rw[oe,IC sN,nH b9 aI]
   refine rg<|ai J pG<|k<|ia (dD.rv 0 J) J J mP pG aj ig ft ?_
   intro rb x1 bV gG
   refine k<|yF gG.w ft J J<|ak (v:=I (k_:Int)) J J<|ak (v:=ag x1) J J<|z<|nx ?_
   obtain⟨a4,x2,c4,lQ,l8⟩:=uq (i:=(i:Int).toNat) dD bo aj
   obtain⟨x4,qI⟩:∃x,rK[(k_:Int).toNat]? =some x:=⟨_,eR aj⟩
   refine dr 12 [eV (pV bL 1),eV (.slice a2 mn.toNat c2),eV (I (i:Int)),fun v w'=>∃(g0:Nat),v=.pointer (some ⟨g0,(i:Int).toNat*1,none⟩)∧(.slice a2 mn.toNat c2:Value).ownBlock=some g0∧hQ dD.gh w' ⟨g0,(i:Int).toNat*1,none⟩ (⟨a4,x2.length,c4⟩:SV),eV (sL a4 x2 c4),eV (I (k_:Int)),eV (ag x1),eV (sL a1 rK c1),eV (I (k_:Int)),fun v w'=>∃(pq:Addr),v=.pointer (some pq)∧At dD.gh w' pq x4,eV (ag x4),eV (ag<|x1 &&& x4)] J aU ?_ ?_
   ·
    refine dc (fun _ _ Sw _ _=>fa iw J ((Sw 8 J).trans gW)<|d0 J J)<|dc (fun _ _ _ mA IU=>lx (dD.ext mA) 1 J kX J (IU 0 J J) J<|d0 J J)<|dc (fun _ _ LO _ _=>mv J ((LO 10 J).trans kG)<|d0 J J) ?_
    refine⟨fun _=>⟨fun f6 iU hf3 BY yI=>?_,by rintro _ _ _ x_ ⟨g0,e_,iC,kB⟩;exact⟨g0,e_,iC,kB.ext x_⟩⟩,?_⟩
    ·
     have cQ:=dD.ext BY
     have BA:f6 58=.slice a2 mn.toNat c2:=yI 1 J J
     have Cb:f6 59=I (i:Int):=yI 2 J J
     refine iq (cQ.at_ 2 J) J J BA Cb aj ie dt ?_
     intro g1 x5 kN Ab ud
     obtain rfl:(⟨a4,x2.length,c4⟩:SV)=x5:=amE (lQ.symm.trans Ab)
     exact⟨_,J,Ext.refl _,⟨g1,J,kN,ud⟩⟩
    refine dc (fun f7 jZ hf4 EM Ek=>?_) ?_
    ·
     obtain⟨g2,F1,BD,OB⟩:∃(g2:Nat),f7 60=.pointer (some ⟨g2,(i:Int).toNat*1,none⟩)∧(.slice a2 mn.toNat c2:Value).ownBlock=some g2∧hQ dD.gh jZ ⟨g2,(i:Int).toNat*1,none⟩ (⟨a4,x2.length,c4⟩:SV):=Ek 3 rfl rfl
     refine II OB dt J F1 ?_
     exact⟨_,J,Ext.refl _,J⟩
    refine dc (fun _ _ XB _ _=>mv J (XB 11 J)<|d0 J J)<|dc (fun _ _ hf6 _ _=>mv J (hf6 12 J)<|d0 J J)<|dc (fun _ _ hf7 _ _=>mv J ((hf7 5 J).trans gF)<|d0 J J)<|dc (fun _ _ hf8 _ _=>mv J (hf8 11 J)<|d0 J J) ?_
    refine⟨fun _=>⟨fun f12 yl hf9 O7 Ej=>?_,by rintro _ _ _ x_ ⟨pq,e_,tC⟩;exact⟨pq,e_,tC.lift (Up.ext x_)⟩⟩,?_⟩
    ·
     have iY:=dD.ext O7
     have Bz:f12 64=sL a1 rK c1:=Ej 7 J J
     have F0:f12 65=I (k_:Int):=Ej 8 J J
     refine ia (iY.rv 3 J) J J Bz F0 aj ig ft ?_
     intro ue x6 Sa SL
     obtain rfl:x4=x6:=amE (qI.symm.trans Sa)
     exact⟨_,J,Ext.refl _,⟨ue,J,SL⟩⟩
    refine dc (fun f13 zK Bc T8 vU=>?_) ?_
    ·
     have jz:=dD.ext T8
     obtain⟨tK,Ri,hA7⟩:∃(tK:Addr),f13 66=.pointer (some tK)∧At dD.gh zK tK x4:=vU 9 rfl rfl
     have n5:=jz.put (it:=ra tK x4) J hA7
     have jd:HI M w zK ((ra tK x4::lz)++bH w.heap.size 151 fR ys):=n5
     refine yF (jd.atv 0 J).w ft J Ri ?_
     exact⟨_,J,Ext.refl _,J⟩
    refine dc (fun _ _ _ _ Qa=>Dc x1 x4 J J (Qa 6 J J) (Qa 10 J J)<|d0 J J) ?_
    exact mi.rest J _
   ·
    intro f15 FT zp ag5 LF
    have lO:=dD.ext ag5
    have s31:=(zp 2 J).trans fT
    have s32:=(zp 4 J).trans fS
    have s33:=(zp 5 J).trans gF
    have s34:=(zp 8 J).trans gW
    have s35:=(zp 10 J).trans kG
    have s36:=(zp 38 J).trans lu
    have s37:=(zp 39 J).trans mQ
    have s38:=(zp 50 J).trans mP
    have s39:=(zp 51 J).trans nM
    have s40:=(zp 52 J).trans pG
    have s41:=LF 4 J
    have s42:=LF 5 J
    have s43:=LF 11 J
    refine k<|iq (lO.at_ _<|pH lQ l8) J J s41 s42 (by have h_:=amz List.length (Ke b9 hs gN aI l8);rw[sT] at h_;omega) ig ft ?_
    intro g3 x7 Xk hx6 hA8
    refine k<|qf lO _ (pH lQ l8) Xk J (by have h_:=amz List.length (Ke b9 hs gN aI l8);rw[sT] at h_;omega) ft J J J s43 (RV.bv.2 J) ?_
    intro Q1 kP
    have qp:=HI.zR (M:=fun _=>False) (it:=tv (.int .i64 0) (0:Int)) kP lQ
    have rX:HI M w Q1 (lz++bH w.heap.size 151 fR (ys.set ((i:Int).toNat) (x2.set ((k_:Int).toNat) (x1 &&& x4)))):=qp
    refine z<|aF<|nx<|rg<|k<|add J J s40 J aT<|ai (v:=I ((k_:Int)+1)) J J<|z<|bG _ ?_ ⟨(k_+1),(ys.set ((i:Int).toNat) (x2.set ((k_:Int).toNat) (x1 &&& x4))),J,s31,s32,s33,s34,s35,s36,s37,s38,s39,(bN J),rX,aj,(by rw[amA];exact pj),(by exact Yw b9 hs gN aI l8 bV qI),(by rw[amA];exact Aa)⟩
    omega
  have p3:=dF b3
  refine ex<|aV<|bf<|bh<|aF<|nx<|rg<|k<|add J J mQ J aT<|ai (v:=I ((i:Int)+1)) J J<|z ?_
  have cY:HI M w w9 (fL++bH w.heap.size 151 fR ys):=HI.aN (l:=lz) (l':=fL) (t:=bH w.heap.size 151 fR ys) dD [1,2,3,4,5,6,7,8] au J J
  refine bG _ ?_ ⟨(i+1),ys,J,fT,fS,gF,gW,lu,(bN J),cY,aj,(by exact pj),(by exact Yy b9 hs gN aI oe (by simpa using b2) aj),(by exact Aa)⟩
  omega
 have p1:=dF b1
 refine ex<|aV<|bf<|bh<|nx<|sq ?_
 have dI:HI M w w7 (own w.heap.size 144 (.slice a2 mn.toNat c2) xs::J7::J6::dY):=HI.deep (l:=(J7::J6::dY)) (HI.aN (l:=fL) (l':=(J5::J7::J6::dY)) (t:=bH w.heap.size 151 fR xs) dx [1,0,2,3,4,5,6,7] au J J) bo
 refine rg<|k<|cI dI 1 J bp J s9 au J<|k<|bw dI 4 J bp J J s7 J J J J ?_
 intro w8 (cU:HI M w w8 [own w.heap.size 144 (.slice a2 mn.toNat c2) xs,J7,J6,J4,box ba #[I mn,.slice a2 mn.toNat c2] 26,J2,J1,J0])
 refine aq<|rt<|pf cU 4 J bp J J s7 J au ?_
 have e1:(xs:List (List bt))=gz mn mr l:=by exact aak b9 hs aj
 have l1:mn.toNat=(gz mn mr l).length:=by rw[←e1];omega
 have bu:=iD (fun (u9:Nat)=>(.agg #[I mn,.slice a2 u9 c2]:Value)) l1
 exact⟨a2,c2,bu,cU.below,(amz (fun (n_:Nat)=>bj _ _ _ (gz mn mr l) (.slice a2 n_ c2) _) l1).mp ((amz (fun (x_:List (List bt))=>bj _ _ _ x_ (.slice a2 mn.toNat c2) _) e1).mp (cU.du 0 J))⟩
theorem Vz:cH aJ 68:=cN Tryz.func68
theorem L3:cH aJ 82:=cN Tryz.func82
theorem Vx:cH aJ 81:=cN Tryz.func81
theorem ae0:cH aJ 142:=cN Tryz.func142
theorem VA:cH aJ 66:=cN Tryz.func66
theorem Ho (hM:eU M w) (hT:fW 0 w) (dG:cL M w aw av U) (gl:cL M w ay ax fo) (gk:aL mn) (gB:cL M w bF bD mr) (ua:aL o) (ho:hG U) (dC:U.length≤64) (eD:fo.length=U.length) (fK:∀x∈fo,x<((U.length:Nat):Int)) (BH:mn=((U.length:Nat):Int)) (BG:mr=cC U fo) (Ov:0≤o∧o<((U.length:Nat):Int)):Calls aJ 106 #[.agg #[.slice aC aD aB,sL aw U av,sL ay fo ax],.agg #[I mn,sL bF mr bD],I o] w (cA fun v w'=>∃(es:List ew) (rd:Int) (a0:OA) (c0:Nat) (a1:OA) (c1:Nat),v=.tuple #[.agg #[I ((U.length:Nat):Int),.slice a0 (db U fo o).length c0],sL a1 es c1,I rd,I 0]∧Ext w w'∧RV M w' (.slice a0 (db U fo o).length c0) (db U fo o)∧cL M w' a1 c1 es∧es.length≤2000000000∧aL rd∧oC U.length es):=by
 refine dH 66 Tryz.func106 J J J hM fun f0 ha H=>?_
 let J0:=iL aw U av
 have H0:=H.put (it:=J0) J<|by rw[bS];exact dG
 let J1:=iL ay fo ax
 have H1:=H0.put (it:=J1) J<|by rw[aH rfl,bS];exact gl
 let J2:=iL bF mr bD
 have H2:=H1.put (it:=J2) J<|by rw[aH rfl,aH rfl,bS];exact gB
 have iS:=bl dG
 have kM:=bl gl
 have np:=bl gB
 have i0:f0 0=.agg #[.slice aC aD aB,sL aw U av,sL ay fo ax]:=ha 0 bm
 have i1:f0 1=.agg #[I mn,sL bF mr bD]:=ha 1 bm
 have i2:f0 2=I o:=ha 2 bm
 have b9:bI mn mr=true:=by rw[BH,BG];exact pB fo aj
 have lk_:=A8 ho dC Ov
 refine az<|k<|bx H2 J i0 ?_
 let bc:=[J2,J1,J0]
 intro aZ w0 bY (H3:HI M w w0 (box aZ #[.slice aC aD aB,sL aw U av,sL ay fo ax] 47::bc))
 let J3:=box aZ #[.slice aC aD aB,sL aw U av,sL ay fo ax] 47
 refine k<|bx H3 J i1 ?_
 let ck:=J3::bc
 intro ba w1 dy (H4:HI M w w1 (box ba #[I mn,sL bF mr bD] 26::ck))
 let J4:=box ba #[I mn,sL bF mr bD] 26
 refine k<|al H4 bp ?_
 let dY:=J4::ck
 intro bL w2 fe (H5:HI M w w2 (box bL #[I 0,.slice none 0 0] 26::dY))
 let J5:=box bL #[I 0,.slice none 0 0] 26
 refine ak (v:=.slice none 0 0) J J<|ak (v:=I 0) J J<|ak (v:=I 0) J J<|aq<|sq<|az<|ai J i2<|k<|lss J J J J<|ai (v:=.bool (decide (o<0))) J J ?_
 have rH:(decide (o<0))=false:=(by rw[amN];omega)
 refine aQ J J J rH<|mv J i2<|aQ J J J rH<|fa fF J J<|aQ J J J rH<|lx H5 2 J iZ J J J<|aQ J J J rH<|ef J J jv<|aQ J J J rH<|geq J J J J<|k<|cZ J J J J rH J<|z<|nx ?_
 have Kk:(decide ((U.length:Int)≤o))=false:=(by rw[amN];omega)
 refine nU J J Kk<|sk<|cV<|k<|cI H5 2 J ej J J au J<|ai J i2<|k ?_
 have bT:=Co (U:=U) (o:=o) (aC:=aC) (aD:=aD) (aB:=aB) (ay:=ay) (fc:=fo.length) (ax:=ax) H5.mb (H5.rv 5 J) ua (by exact ho) aj
 refine ca Vz J (ec J<|ec J e0) bT ?_
 rintro _ w3 ⟨a0,c0,rfl,fA,cE⟩
 have H6:=H5.eS cE
 refine ak (v:=sL a0 (aY (gf U)<|cF U o) c0) J J<|aq<|sq<|ma [.r,.r,.r,.r,.r,.n,.e] (fun _=>True) J aU (fun _ _=>trivial)<|yq J J<|kq (fun _ x_=>cI (H6.ext x_) 2 J bp J J au J e1)<|bQ<|kq (fun _ x_=>cI (H6.ext x_) 2 J bp J J au J e1)<|bQ<|kq (fun _ _=>mv J i2 e1)<|zq<|yu J (fun N v w'=>∃(a1:OA) (c1:Nat),v=sL a1 (bP mn mr o) c1∧RV (MN H6.gh N) w' (sL a1 (bP mn mr o) c1) (bP mn mr o)) J Ed J (fun v_ _ x_ n_=>have fP:=u2 (mn:=mn) (mr:=mr) (o:=o) (w:=v_) (kK H6.mb x_ n_) (hT.ext (H6.below.trans x_)) gk (kj (H6.rv 4 J) x_ n_) ua (by exact b9);ca L3 rfl (ec J<|ec J e0) fP (fun _ w5 ⟨a2,c2,e_,jh,fB⟩=>⟨_,J,jh,⟨a2,c2,e_,(bj.rv fB<|kK H6.mb x_ n_)⟩⟩))<|lE J (fun N v w'=>∃(a4:OA) (c4:Nat),v=.agg #[I mn,sL a4 (gz mn mr<|bP mn mr o) c4]∧RV (MN H6.gh N) w' (sL a4 (gz mn mr<|bP mn mr o) c4) (gz mn mr<|bP mn mr o)) 0 J J Ed J (fun v_ _ _ x_ n_ h_=>let ⟨a5,c5,s0,kR⟩:=h_;have mc:=zn (mn:=mn) (mr:=mr) (l:=(bP mn mr o)) (w:=v_) (kK H6.mb x_ n_) gk (kj (H6.rv 4 J) x_ n_) kR (by exact b9) (by have h_:=uU b9 o;omega);ca Vx rfl (ec J<|ec s0 e0) mc (fun _ w7 ⟨a6,c6,e_,mA,nN⟩=>⟨_,J,mA,⟨a6,c6,e_,(bj.rv nN<|kK H6.mb x_ n_)⟩⟩))<|yn (z:=#[I 0,.slice none 0 0]) J J (fun _=>O3 bp)<|ye<|yz ?_
 intro w8 f0 _ og _ _ cK iK
 obtain⟨gO,s1,CQ,l9,BF⟩:=iK 0 _ _ rfl
 have pL:=OU (z:=#[I 0,.slice none 0 0]) (T:=26) CQ l9 BF<|OV
 let jk:=oL w 3 a0 (aY (gf U) (cF U o)) c0::J5::dY
 have H7:HI M w w8 (box gO #[I 0,.slice none 0 0] 26::jk):=H6.DH og pL<|N9 N8 Oa
 have s2:=cK 3 J
 have s3:=cK 6 J
 have s4:=cK 10 J
 obtain⟨a7,c7,s5,oI⟩:=iK 1 _ _ rfl
 let J6:=iL a7 (gz mn mr (bP mn mr o)) c7
 have H8:=H7.put (it:=J6) J<|sf oI pL
 refine j8<|bw H8 1 J bp J J s1 s5 J J J ?_
 intro w9 (H9:HI M w w9 (J6::box gO #[I mn,sL a7 (gz mn mr (bP mn mr o)) c7] 26::jk))
 refine kz<|cV<|ak (v:=.slice none 0 0) J J<|bz<|ak (v:=I 1) J J<|aq<|bk ?_
 have dz:=H9.freeze 2 J
 let J7:=iL a0 (aY (gf U) (cF U o)) c0
 have cB:=dz.put (it:=J7) J<|dz.rv 2 J
 have dx:=cB.rB (Int×Int×Int) 122
 have dI:=dx.put (it:=J6) J<|dx.rv 2 J
 let fL:=J7::J5::dY
 refine lp (fun m f w'=>∃(fC:Nat) (cO:Int) (gT:List (List bt)) (yZ:List ew) (a8:OA) (c8:Nat) (a9:OA) (c9:Nat) (jH:OA) (jF:Nat),m=U.length*U.length-HR U gT∧f 3=pV aZ 0∧f 6=pV bL 0∧f 10=sL a8 (aY (gf U)<|cF U o) c8∧f 11=pV gO 0∧f 12=sL a9 yZ c9∧f 13=I ((fC:Int)+1)∧HI M w w' (iL jH gT jF::oL w 122 a9 yZ c9::iL a8 (aY (gf U)<|cF U o) c8::J6::box gO #[I cO,sL jH gT jF] 26::fL)∧(Jh U fo o cO gT)∧(fC≤HR U gT)∧(yZ.length≤262144*fC)∧(oC U.length yZ)) _ ⟨0,mn,(gz mn mr<|bP mn mr o),([]:List ew),a0,c0,none,0,a7,c7,J,s2,s3,s4,s1,J,(bN J),dI,(by rw[BH,BG];exact Ud U fo o),(by exact an6 _),(by exact an6 _),(by intro e_ h_;cases h_)⟩ ?_
 rintro _ f1 dP ⟨fC,cO,gT,yZ,a8,c8,a9,c9,jH,jF,rfl,s6,s7,s8,s9,eC,fj,cU,hs,ahy,alS,acn⟩
 refine sq<|bk<|sq ?_
 have KN:=Kv hs aj;have ahG:=hs.1
 refine rg<|k<|cI cU 8 J ej J s6 au J<|k<|cI cU 4 J bp J s9 au J<|ai J s8<|k ?_
 have nV:=Po (U:=U) (fo:=fo) (mn:=cO) (mr:=gT) (kp:=(aY (gf U)<|cF U o)) (aC:=aC) (aD:=aD) (aB:=aB) cU.mb (hT.ext cU.below) (cU.rv 11 J) (cU.rv 10 J) aT (cU.rv 0 J) (cU.rv 2 J) aj (by exact eD) (by exact fK)<|by exact KN
 refine ca ae0 J (ec J<|ec J<|ec J e0) nV ?_
 rintro _ eB ⟨nY,nW,rfl,BY,rA⟩
 have d_:=cU.eS rA
 refine ak (v:=sL nY (gH cO gT (aY (gf U)<|cF U o)<|cP U fo cO gT) nW) J J<|aq<|sq<|az<|ai (v:=sL nY (gH cO gT (aY (gf U)<|cF U o)<|cP U fo cO gT) nW) J J<|k<|ef J J eA<|k<|eql J J J J<|z<|nx<|cd (b:=decide (((gH cO gT (aY (gf U)<|cF U o)<|cP U fo cO gT).length:Int)=0)) J J (fun b0=>?_)<|fun b0=>?_
 ·
  have p0:=dT b0
  refine sq ?_
  have ahV:=Kx gT U;have ahu:U.length*U.length≤64*64:=Nat.mul_le_mul dC dC
  have BC:(gH cO gT (aY (gf U) (cF U o)) (cP U fo cO gT))=[]:=anC.1 aj
  refine rg<|k<|cI d_ 5 J bp J s9 au J<|ai J eC<|ai J fj<|k<|bw d_ 7 J bp J J s7 J J J J ?_
  intro fE (dD:HI M w fE [oL w 122 nY (gH cO gT (aY (gf U) (cF U o)) (cP U fo cO gT)) nW,iL jH gT jF,oL w 122 a9 yZ c9,iL a8 (aY (gf U) (cF U o)) c8,J6,box gO #[I cO,sL jH gT jF] 26,J7,box bL #[I cO,sL jH gT jF] 26,J4,J3,J2,J1,J0])
  refine ak (v:=sL a9 yZ c9) J J<|ak (v:=I ((fC:Int)+1)) J J<|ak (v:=I 0) J J<|aq<|rt<|aK<|bU<|aK<|ee<|bU<|rc4 dD 7 J bp J J J J J s7 J au ?_
  have e0:(cO:Int)=((U.length:Nat):Int):=by exact hs.1
  have e1:(gT:List (List bt))=db U fo o:=by exact aaA hs eD fK (qV KN) BC
  have bu:=ny (fun (cq:Int) (dX:List (List bt))=>(.tuple #[.agg #[I cq,.slice jH dX.length jF],.slice a9 yZ.length c9,I ((fC:Int)+1),I 0]:Value)) e0 e1
  exact⟨yZ,((fC:Int)+1),jH,jF,a9,c9,bu,dD.below,(amz (fun (x_:List (List bt))=>RV _ _ (.slice jH x_.length jF) x_) e1).mp (dD.gm 1 J),(dD.mu 2 J),aj,(by unfold aL;omega),(by exact acn)⟩
 have p0:=dF b0
 refine sk<|nx<|sq ?_
 have alf:=Kx (lT cO gT<|gH cO gT (aY (gf U)<|cF U o)<|cP U fo cO gT) U;have ahV:=Kx gT U;have ahu:U.length*U.length≤64*64:=Nat.mul_le_mul dC dC
 have Vp:=SU cO gT (aY (gf U)<|cF U o) (cP U fo cO gT);have Qf:=(qV (U:=U) (fo:=fo) KN).1
 obtain⟨Gs,hc_⟩:=YK hs eD fK (qV KN)
 have acj:=hc_<|by intro h_;have e_:=amz List.length h_;simp only[gj] at e_;unfold lP at e_;omega
 have so:oC U.length (gH cO gT (aY (gf U) (cF U o)) (cP U fo cO gT)):=WT hs eD fK<|qV KN
 refine rg<|ai J eC<|ai (v:=sL nY (gH cO gT (aY (gf U)<|cF U o)<|cP U fo cO gT) nW) J J<|k<|me d_ 2 J J J J J J (ib<|d_.at_ 0 J) eA cR J aj J ?_
 let J8:=oL w 122 nY (gH cO gT (aY (gf U) (cF U o)) (cP U fo cO gT)) nW
 let J9:=iL jH gT jF
 let eP:=iL a8 (aY (gf U) (cF U o)) c8
 intro a12 qY fE (dD:HI M w fE (J8::J9::oL w 122 a12 (yZ++gH cO gT (aY (gf U) (cF U o)) (cP U fo cO gT)) qY::eP::J6::box gO #[I cO,sL jH gT jF] 26::fL))
 let dZ:=oL w 122 a12 (yZ++gH cO gT (aY (gf U) (cF U o)) (cP U fo cO gT)) qY
 refine ak (v:=sL a12 (yZ++gH cO gT (aY (gf U)<|cF U o) (cP U fo cO gT)) qY) J J<|bz<|ai (v:=sL nY (gH cO gT (aY (gf U)<|cF U o)<|cP U fo cO gT) nW) J J<|k<|ef J J eA<|ai (v:=I 0) J J<|aq<|bk ?_
 have cY:=dD.put (it:=J9) J<|dD.rv 1 J
 refine lp (fun m f w'=>∃(q_:Nat) (fY:Int) (fI:List (List bt)) (ka:OA) (j9:Nat),m=(gH cO gT (aY (gf U)<|cF U o)<|cP U fo cO gT).length-q_∧f 3=pV aZ 0∧f 6=pV bL 0∧f 10=sL a8 (aY (gf U)<|cF U o) c8∧f 11=pV gO 0∧f 12=sL a12 (yZ++gH cO gT (aY (gf U)<|cF U o) (cP U fo cO gT)) qY∧f 13=I ((fC:Int)+1)∧f 50=sL nY (gH cO gT (aY (gf U)<|cF U o)<|cP U fo cO gT) nW∧f 51=I ((gH cO gT (aY (gf U)<|cF U o)<|cP U fo cO gT).length:Int)∧f 52=I (q_:Int)∧HI M w w' (iL ka fI j9::J8::J9::dZ::eP::J6::box gO #[I fY,sL ka fI j9] 26::fL)∧(q_≤(gH cO gT (aY (gf U)<|cF U o)<|cP U fo cO gT).length)∧(fY=cO∧fI=lT cO gT ((gH cO gT (aY (gf U)<|cF U o)<|cP U fo cO gT).take q_))) _ ⟨0,cO,gT,jH,jF,J,s6,s7,s8,s9,J,fj,J,J,(bN J),cY,aj,(by exact⟨J,J⟩)⟩ ?_
 rintro _ f2 iU ⟨q_,fY,fI,ka,j9,rfl,fT,fS,gF,gW,kG,lu,mQ,mP,nM,dW,sI,oe⟩
 refine az<|k<|lss J J nM mP<|aq<|sq<|cd (b:=decide ((q_:Int)<((gH cO gT (aY (gf U)<|cF U o)<|cP U fo cO gT).length:Int))) J J (fun b1=>?_)<|fun b1=>?_
 ·
  have p1:=dT b1
  refine sk<|nx<|sq<|bk<|az<|k<|iq (dW.at_ 1 J) J J mQ nM aj eA cR ?_
  intro g0 x0 iC aI cD
  refine k<|nr cD cR J J ?_
  intro v0 oJ
  obtain⟨_,⟨_,_,rfl,⟨rfl,nB⟩,⟨_,_,rfl,⟨rfl,sh⟩,⟨rfl,sg⟩⟩⟩,rfl⟩:=oJ
  refine k<|al dW cR ?_
  let lz:=iL ka fI j9::J8::J9::dZ::eP::J6::box gO #[I fY,sL ka fI j9] 26::fL
  intro Av jZ EM (dQ:HI M w jZ (box Av #[I 0,I 0,I 0] 122::lz))
  refine k<|bw dQ 0 J cR J J J J J J J ?_
  intro rn (cQ:HI M w rn (box Av #[I x0.1,I x0.2.1,I x0.2.2] 122::lz))
  refine aq<|rg<|k<|cI cQ 7 J bp J gW au J<|aR kQ J J<|bq cQ 0 J aS J J J<|aR mL J J<|bq cQ 0 J aS J J J<|k ?_
  have As:=Fi (mn:=fY) (mr:=fI) (i:=x0.1) (j:=x0.2.1) cQ.mb aT (cQ.rv 1 J) nB sh<|by exact aaz hs aj so oe
  refine ca VA J (ec J<|ec J<|ec J e0) As ?_
  rintro _ zL ⟨lU,lS,rfl,Ka,p9⟩
  have eh:=cQ.ext Ka
  let gp:=iL lU (gY fY fI x0.1 x0.2.1) lS
  have dO:=eh.put (it:=gp) J p9
  refine ai (v:=.tuple #[.agg #[I (ik fY x0.1 x0.2.1),sL lU (gY fY fI x0.1 x0.2.1) lS],I (lB fY x0.1 x0.2.1)]) J J<|k<|xt J J J<|k<|xt J J J<|k<|bw dO 8 J bp J J gW J J J J ?_
  let fQ:=box gO #[I (ik fY x0.1 x0.2.1),sL lU (gY fY fI x0.1 x0.2.1) lS] 26
  intro tP (fg:HI M w tP (gp::box Av #[I x0.1,I x0.2.1,I x0.2.2] 122::iL ka fI j9::J8::J9::dZ::eP::J6::fQ::fL))
  refine z<|aF<|nx<|rg<|k<|add J J nM J aT<|ai (v:=I ((q_:Int)+1)) J J<|z ?_
  have fz:=fg.put (it:=gp) J<|fg.rv 0 J
  have gS:HI M w tP (gp::J8::J9::dZ::eP::J6::fQ::fL):=fz.bZ [0,4,5,6,7,8,9,10,11,12,13,14,15,16] au J
  refine bG _ ?_ ⟨(q_+1),(ik fY x0.1 x0.2.1),(gY fY fI x0.1 x0.2.1),lU,lS,J,fT,fS,gF,gW,kG,lu,mQ,mP,(bN J),gS,aj,(by exact Bt oe aI (Kw ahG so aI))⟩
  omega
 have p1:=dF b1
 refine ex<|aV<|bf<|bh<|aF<|nx<|rg<|ai J lu<|k<|add J J J J aT<|ak (v:=I (((fC:Int)+1)+1)) J J<|z ?_
 have dQ:=eu dW<|dW.rv 0 J
 have cQ:=dQ.put (it:=eP) J<|dQ.rv 5 J
 have eh:HI M w iU (iL ka fI j9::dZ::eP::J6::box gO #[I fY,sL ka fI j9] 26::fL):=cQ.bZ [1,5,0,7,8,9,10,11,12,13,14,15] au J
 refine bG _ ?_ ⟨(fC+1),fY,fI,(yZ++gH cO gT (aY (gf U)<|cF U o) (cP U fo cO gT)),a8,c8,a12,qY,ka,j9,J,fT,fS,gF,gW,kG,(bN J),eh,(by rw[oe.1,oe.2,amL aj];exact Gs),(by rw[oe.2,amL aj];unfold lP at acj;omega),(by rw[fN];omega),(by intro e_ h_;exact(am1.1 h_).elim (acn e_) (so e_))⟩
 rw[oe.2,amL aj];unfold lP at acj;omega
theorem aiu:cH aJ 50:=cN Tryz.func50
theorem PA (hM:eU M w) (dG:cL M w aw av U) (dC:U.length≤4096):Calls aJ 50 #[.agg #[.slice aC aD aB,sL aw U av,.slice ay fc ax]] w (cA fun v w'=>∃(a0:OA) (c0:Nat),v=.slice a0 (jP U).length c0∧Ext w w'∧bj M 3 w (jP U) (.slice a0 (jP U).length c0) w'):=by
 refine dH 42 Tryz.func50 J J J hM fun f0 ha H=>?_
 let J0:=iL aw U av
 have H0:=H.put (it:=J0) J<|by rw[bS];exact dG
 have iS:=bl dG
 have i0:f0 0=.agg #[.slice aC aD aB,sL aw U av,.slice ay fc ax]:=ha 0 bm
 refine az<|k<|bx H0 J i0 ?_
 intro aZ w0 bY (H1:HI M w w0 [box aZ #[.slice aC aD aB,sL aw U av,.slice ay fc ax] 47,J0])
 let J1:=box aZ #[.slice aC aD aB,sL aw U av,.slice ay fc ax] 47
 refine ak (v:=.slice none 0 0) J J<|bz<|ak (v:=.slice none 0 0) J J<|aq<|sq<|az<|ak (v:=I 0) J J<|aq<|bk ?_
 have H2:=H1.rB Int 3
 refine lp (fun m f w'=>∃(j:Nat) (xs:aA) (a0:OA) (c0:Nat),m=U.length-j∧f 1=pV aZ 0∧f 3=sL a0 xs c0∧f 4=I (j:Int)∧HI M w w' [oL w 3 a0 xs c0,J1,J0]∧(j≤U.length)∧(xs=(U.take j).map (vn U))) _ ⟨0,([]:aA),none,0,J,J,J,(bN J),H2,aj,(by rfl)⟩ ?_
 rintro _ f0 w1 ⟨j,xs,a0,c0,rfl,s0,s1,s2,H3,hk,hs⟩
 refine sq<|az<|ai J s2<|aR fF J s0<|bq H3 1 J iZ J J J<|k<|ef J J jv<|k<|lss J J J J<|z<|nx<|cd (b:=decide ((j:Int)<(U.length:Int))) J J (fun b0=>?_)<|fun b0=>?_
 ·
  have p0:=dT b0
  refine sk<|nx<|sq<|bk<|az<|aR fF J s0<|bq H3 1 J iZ J J J<|ai J s2<|k<|ia (H3.rv 2 J) J J J J aj jv jB ?_
  intro iE x0 aI cD
  refine k<|nr cD.w jB J J ?_
  intro v0 cE
  obtain⟨_,⟨_,_,rfl,⟨rfl,ep⟩,⟨_,_,rfl,⟨rfl,ei⟩,⟨_,_,rfl,rfl,⟨_,_,rfl,⟨rfl,fB⟩,⟨rfl,ja⟩⟩⟩⟩⟩,rfl⟩:=cE
  refine k<|al H3 jB ?_
  intro ba w2 dy (H4:HI M w w2 [box ba #[I 0,I 0,.bool false,I 0,I 0] 95,oL w 3 a0 xs c0,J1,J0])
  refine k<|bw H4 0 J jB J J J J J J J ?_
  let J2:=box ba #[I x0.1,I x0.2.1,.bool x0.2.2.1,I x0.2.2.2.1,I x0.2.2.2.2] 95
  intro w3 (H5:HI M w w3 [J2,oL w 3 a0 xs c0,J1,J0])
  refine bz<|ak (v:=I (-2)) J J<|bz<|k<|cI H5 2 J ej J s0 au J<|aR tD J J<|bq H5 0 J aS J J J<|aR rQ J J<|bq H5 0 J aS J J J<|k ?_
  have bT:=D8 (U:=U) (vr:=x0.2.2.2.1) (val:=x0.2.2.2.2) (aC:=aC) (aD:=aD) (aB:=aB) (ay:=ay) (fc:=fc) (ax:=ax) H5.mb (H5.rv 3 J) fB ja
  refine ca acQ J (ec J<|ec J<|ec J e0) bT ?_
  rintro _ w4 ⟨rfl,fe⟩
  have H6:=H5.ext fe
  refine ai (v:=.tuple #[I (max (gx U x0.2.2.2.1 x0.2.2.2.2) 0),.bool (decide (0≤gx U x0.2.2.2.1 x0.2.2.2.2))]) J J<|k<|xt J J J<|k<|xt J J J<|ak (v:=I (max (gx U x0.2.2.2.1 x0.2.2.2.2) 0)) J J<|ak (v:=.bool (decide (0≤gx U x0.2.2.2.1 x0.2.2.2.2))) J J<|aq<|sq<|az<|aR vt J J<|bq H6 0 J oo J J J<|z<|nx<|cd (b:=x0.2.2.1) J J (fun b1=>?_)<|fun b1=>?_
  ·
   refine rg<|ak (v:=I (-3)) J J<|aq<|rg<|ai J s1<|ai (v:=I (-3)) J J<|k<|bs (xs:=([(-3)]:aA)) (cells:=#[I (-3)]) (e:=3) H6 J (cz J eI) (fun _=>aU) ⟨[I (-3)],[],J,⟨J,(show aL ((-3)) from aT)⟩,J⟩ J au ?_
   intro g0 w5 fA H7
   refine k<|me H7 2 J J J J J J (ib<|H7.at_ 0 J) cS aS J (by rw[hs,ane,iu];simp only[iB,gj];omega) J ?_
   intro a1 c1 w6 (H8:HI M w w6 [own w.heap.size 3 (.slice (some ⟨g0,0,none⟩) 1 1) ([(-3)]:aA),J2,oL w 3 a1 (xs++([(-3)]:aA)) c1,J1,J0])
   refine ak (v:=sL a1 (xs++([(-3)]:aA)) c1) J J<|z<|aF<|nx<|rg<|ai J s2<|k<|add J J J J aT<|ak (v:=I ((j:Int)+1)) J J<|z ?_
   have H9:HI M w w6 [oL w 3 a1 (xs++([(-3)]:aA)) c1,J1,J0]:=H8.bZ [2,3,4] au J
   refine bG _ ?_ ⟨(j+1),(xs++([(-3)]:aA)),a1,c1,J,s0,J,(bN J),H9,aj,(by rw[hs];first|exact iG aI (JS b1)|exact iG aI (JV b1 p2)|exact iG aI (JT b1 p2 b3)|exact iG aI (JU b1 p2 b3))⟩
   omega
  refine az<|aR rQ J J<|bq H6 0 J aS J J J<|k<|eql J J J J<|z<|nx<|cd (b:=decide (x0.2.2.2.2=0)) J J (fun b2=>?_)<|fun b2=>?_
  ·
   have p2:=dT b2
   refine rg<|ak (v:=I (-1)) J J<|aq<|rg<|ai J s1<|ai (v:=I (-1)) J J<|k<|bs (xs:=([(-1)]:aA)) (cells:=#[I (-1)]) (e:=3) H6 J (cz J eI) (fun _=>aU) ⟨[I (-1)],[],J,⟨J,(show aL ((-1)) from aT)⟩,J⟩ J au ?_
   intro g0 w5 fA H7
   refine k<|me H7 2 J J J J J J (ib<|H7.at_ 0 J) cS aS J (by rw[hs,ane,iu];simp only[iB,gj];omega) J ?_
   intro a1 c1 w6 (H8:HI M w w6 [own w.heap.size 3 (.slice (some ⟨g0,0,none⟩) 1 1) ([(-1)]:aA),J2,oL w 3 a1 (xs++([(-1)]:aA)) c1,J1,J0])
   refine ak (v:=sL a1 (xs++([(-1)]:aA)) c1) J J<|z<|aF<|nx<|rg<|ai J s2<|k<|add J J J J aT<|ak (v:=I ((j:Int)+1)) J J<|z ?_
   have H9:HI M w w6 [oL w 3 a1 (xs++([(-1)]:aA)) c1,J1,J0]:=H8.bZ [2,3,4] au J
   refine bG _ ?_ ⟨(j+1),(xs++([(-1)]:aA)),a1,c1,J,s0,J,(bN J),H9,aj,(by rw[hs];first|exact iG aI (JS b1)|exact iG aI (JV b1 p2)|exact iG aI (JT b1 p2 b3)|exact iG aI (JU b1 p2 b3))⟩
   omega
  have p2:=dF b2
  refine az<|ai (v:=.bool (decide (0≤gx U x0.2.2.2.1 x0.2.2.2.2))) J J<|z<|nx<|cd (b:=decide (0≤gx U x0.2.2.2.1 x0.2.2.2.2)) J J (fun b3=>?_)<|fun b3=>?_
  ·
   have p3:=dT b3
   refine rg<|ai (v:=I (max (gx U x0.2.2.2.1 x0.2.2.2.2) 0)) J J<|ak (v:=I (max (gx U x0.2.2.2.1 x0.2.2.2.2) 0)) J J<|aq<|rg<|ai J s1<|ai (v:=I (max (gx U x0.2.2.2.1 x0.2.2.2.2) 0)) J J<|k<|bs (xs:=([(max (gx U x0.2.2.2.1 x0.2.2.2.2) 0)]:aA)) (cells:=#[I (max (gx U x0.2.2.2.1 x0.2.2.2.2) 0)]) (e:=3) H6 J (cz J eI) (fun _=>aU) ⟨[I (max (gx U x0.2.2.2.1 x0.2.2.2.2) 0)],[],J,⟨J,(show aL ((max (gx U x0.2.2.2.1 x0.2.2.2.2) 0)) from(by have h_:=wJ (p:=lK x0.2.2.2.1 x0.2.2.2.2) (r:=U);unfold gx;unfold aL;omega))⟩,J⟩ J au ?_
   intro g0 w5 fA H7
   refine k<|me H7 2 J J J J J J (ib<|H7.at_ 0 J) cS aS J (by rw[hs,ane,iu];simp only[iB,gj];omega) J ?_
   intro a1 c1 w6 (H8:HI M w w6 [own w.heap.size 3 (.slice (some ⟨g0,0,none⟩) 1 1) ([(max (gx U x0.2.2.2.1 x0.2.2.2.2) 0)]:aA),J2,oL w 3 a1 (xs++([(max (gx U x0.2.2.2.1 x0.2.2.2.2) 0)]:aA)) c1,J1,J0])
   refine ak (v:=sL a1 (xs++([(max (gx U x0.2.2.2.1 x0.2.2.2.2) 0)]:aA)) c1) J J<|z<|aF<|nx<|rg<|ai J s2<|k<|add J J J J aT<|ak (v:=I ((j:Int)+1)) J J<|z ?_
   have H9:HI M w w6 [oL w 3 a1 (xs++([(max (gx U x0.2.2.2.1 x0.2.2.2.2) 0)]:aA)) c1,J1,J0]:=H8.bZ [2,3,4] au J
   refine bG _ ?_ ⟨(j+1),(xs++([(max (gx U x0.2.2.2.1 x0.2.2.2.2) 0)]:aA)),a1,c1,J,s0,J,(bN J),H9,aj,(by rw[hs];first|exact iG aI (JS b1)|exact iG aI (JV b1 p2)|exact iG aI (JT b1 p2 b3)|exact iG aI (JU b1 p2 b3))⟩
   omega
  have p3:=dF b3
  refine sk<|nx<|rg<|ai J s1<|ai (v:=I (-2)) J J<|k<|bs (xs:=([(-2)]:aA)) (cells:=#[I (-2)]) (e:=3) H6 J (cz J eI) (fun _=>aU) ⟨[I (-2)],[],J,⟨J,(show aL ((-2)) from aT)⟩,J⟩ J au ?_
  intro g0 w5 fA H7
  refine k<|me H7 2 J J J J J J (ib<|H7.at_ 0 J) cS aS J (by rw[hs,ane,iu];simp only[iB,gj];omega) J ?_
  intro a1 c1 w6 (H8:HI M w w6 [own w.heap.size 3 (.slice (some ⟨g0,0,none⟩) 1 1) ([(-2)]:aA),J2,oL w 3 a1 (xs++([(-2)]:aA)) c1,J1,J0])
  refine ak (v:=sL a1 (xs++([(-2)]:aA)) c1) J J<|z<|aF<|nx<|rg<|ai J s2<|k<|add J J J J aT<|ak (v:=I ((j:Int)+1)) J J<|z ?_
  have H9:HI M w w6 [oL w 3 a1 (xs++([(-2)]:aA)) c1,J1,J0]:=H8.bZ [2,3,4] au J
  refine bG _ ?_ ⟨(j+1),(xs++([(-2)]:aA)),a1,c1,J,s0,J,(bN J),H9,aj,(by rw[hs];first|exact iG aI (JS b1)|exact iG aI (JV b1 p2)|exact iG aI (JT b1 p2 b3)|exact iG aI (JU b1 p2 b3))⟩
  omega
 have p0:=dF b0
 refine ex<|aV<|bf<|bh<|cV<|ai J s1<|ak (v:=sL a0 xs c0) J J<|aq<|rt<|r1 J J ?_
 have e0:(xs:aA)=jP U:=by rw[hs];unfold jP;rw[mO aj]
 have bu:=iD (fun (cq:aA)=>(.slice a0 cq.length c0:Value)) e0
 exact⟨a0,c0,bu,H3.below,(amz (fun (x_:aA)=>bj _ _ _ x_ (.slice a0 x_.length c0) _) e0).mp (H3.du 0 J)⟩
theorem PB (hM:eU M w) (Vt:cL M w aC aB fv) (dG:cL M w aw av U) (gl:cL M w ay ax fo) (dC:U.length≤4096):Calls aJ 25 #[.agg #[sL aC fv aB,sL aw U av,sL ay fo ax]] w (cA fun v w'=>∃(a0:OA) (c0:Nat) (a1:OA) (c1:Nat) (a2:OA) (c2:Nat),v=.agg #[sL a0 fv c0,sL a1 U c1,.slice a2 (jP U).length c2]∧Ext w w'∧cL M w' a0 c0 fv∧cL M w' a1 c1 U∧RV M w' (.slice a2 (jP U).length c2) (jP U)):=by
 refine dH 10 Tryz.func25 J J J hM fun f0 ha H=>?_
 have H0:=eu H Vt
 have H1:=eu H0 dG
 have H2:=eu H1 gl
 have i0:f0 0=.agg #[sL aC fv aB,sL aw U av,sL ay fo ax]:=ha 0 bm
 refine az<|k<|bx H2 J i0 ?_
 let bc:=[iL ay fo ax,iL aw U av,iL aC fv aB]
 intro aZ w0 bY (H3:HI M w w0 (box aZ #[sL aC fv aB,sL aw U av,sL ay fo ax] 47::bc))
 let J0:=box aZ #[sL aC fv aB,sL aw U av,sL ay fo ax] 47
 refine k<|al H3 ej ?_
 intro ba w1 dy (H4:HI M w w1 (box ba #[.slice none 0 0,.slice none 0 0,.slice none 0 0] 47::J0::bc))
 refine aq<|sq<|ma [.r,.r,.r,.r,.r,.r,.r,.e] (fun _=>True) J aU (fun _ _=>trivial)<|yq J J<|kq (fun _ _=>fa vu J J e1)<|bQ<|kq (fun _ x_=>lx (H4.ext x_) 1 J B3 J J J e1)<|bQ<|kq (fun _ _=>fa fF J J e1)<|bQ<|kq (fun _ x_=>lx (H4.ext x_) 1 J iZ J J J e1)<|bQ<|kq (fun _ x_=>cI (H4.ext x_) 1 J ej J J au J e1)<|zq<|yu J (fun _ v w'=>∃(a0:OA) (c0:Nat),v=sL a0 (jP U) c0∧RV H4.gh w' (sL a0 (jP U) c0) (jP U)) J od J (fun v_ _ x_ _=>have dq:=PA (U:=U) (aC:=aC) (aD:=fv.length) (aB:=aB) (ay:=ay) (fc:=fo.length) (ax:=ax) (w:=v_) (H4.ext x_).mb ((H4.ext x_).rv 3 rfl) bo;ca aiu rfl (ec J e0) dq (fun _ w3 ⟨a1,c1,e_,fA,ei⟩=>⟨_,J,fA,⟨a1,c1,e_,(bj.rv ei (H4.ext x_).mb)⟩⟩))<|lE J (fun _ v w'=>∃(a2:OA) (c2:Nat),v=.agg #[sL aC fv aB,sL aw U av,sL a2 (jP U) c2]∧RV H4.gh w' (sL a2 (jP U) c2) (jP U)) 0 J J od J (fun _ _ _ _ _ h_=>let ⟨a3,c3,s0,jW⟩:=h_;bd (v:=.agg #[sL aC fv aB,sL aw U av,sL a3 (jP U) c3]) rfl (cz J<|cz J<|cz s0 eI) (fun _=>aU) ⟨_,J,Ext.refl _,⟨a3,c3,J,jW⟩⟩)<|ye<|yz ?_
 intro w4 f0 _ iz _ _ cK iK
 have dx:=H4.ext iz
 have s1:=cK 2 J
 obtain⟨a4,c4,s2,iH⟩:=iK 0 _ _ rfl
 have dI:=eu dx iH
 refine j8<|bw dI 1 J ej J J s1 s2 J J J ?_
 intro w5 (cU:HI M w w5 (iL a4 (jP U) c4::box ba #[sL aC fv aB,sL aw U av,sL a4 (jP U) c4] 47::J0::bc))
 refine kz<|nx<|rt<|pf cU 1 J ej J J s1 J au ?_
 exact⟨aC,aB,aw,av,a4,c4,J,cU.below,(cU.gm 5 J),(cU.gm 4 J),(cU.gm 0 J)⟩
theorem aiL:cH aJ 23:=cN Tryz.func23
theorem aiK:cH aJ 24:=cN Tryz.func24
theorem aiJ:cH aJ 25:=cN Tryz.func25
theorem Us (hM:eU M w) (rr:cL M w ju jt h) (tB:h.flatten.length≤4096):Calls aJ 13 #[sL ju h jt] w (cA fun v w'=>∃(a0:OA) (c0:Nat) (a1:OA) (c1:Nat) (a2:OA) (c2:Nat),v=.tuple #[.agg #[.slice a0 (uw h).length c0,.slice a1 (qE h).length c1,.slice a2 (qF h).length c2],.bool (gX h)]∧Ext w w'∧RV M w' (.slice a0 (uw h).length c0) (uw h)∧RV M w' (.slice a1 (qE h).length c1) (qE h)∧RV M w' (.slice a2 (qF h).length c2) (qF h)):=by
 refine dH 25 Tryz.func13 J J J hM fun f0 ha H=>?_
 let J0:=iL ju h jt
 have H0:=H.put (it:=J0) J<|by rw[bS];exact rr
 have i0:f0 0=sL ju h jt:=ha 0 bm
 refine az<|k<|al H0 ej ?_
 intro aZ w0 bY (H1:HI M w w0 [box aZ #[.slice none 0 0,.slice none 0 0,.slice none 0 0] 47,J0])
 let J1:=box aZ #[.slice none 0 0,.slice none 0 0,.slice none 0 0] 47
 refine ak (v:=.bool false) J J<|bz<|ai J i0<|k ?_
 have bT:=Ut (h:=h) H1.mb (H1.rv 1 J) aj
 refine ca aiL J (ec J e0) bT ?_
 rintro _ w1 ⟨a0,c0,a1,c1,a2,c2,rfl,dy,cE,ep,ei⟩
 have H2:=H1.ext dy
 let J2:=iL a0 (l7 h) c0
 have H3:=H2.put (it:=J2) J cE
 let J3:=iL a1 (cX h) c1
 have H4:=H3.put (it:=J3) J<|by rw[aH J];exact ep
 let J4:=iL a2 ([]:aA) c2
 have H5:=H4.put (it:=J4) J<|by rw[aH rfl,aH rfl];exact ei
 refine ai (v:=.tuple #[.agg #[sL a0 (l7 h) c0,sL a1 (cX h) c1,sL a2 ([]:aA) c2],I (ly h)]) J J<|k<|xt J J J<|k<|xt J J J<|k<|al H5 ej ?_
 let bc:=[J4,J3,J2,J1,J0]
 intro ba w2 fe (H6:HI M w w2 (box ba #[.slice none 0 0,.slice none 0 0,.slice none 0 0] 47::bc))
 refine k<|bw H6 0 J ej J J J J J J J ?_
 let J5:=box ba #[sL a0 (l7 h) c0,sL a1 (cX h) c1,sL a2 ([]:aA) c2] 47
 intro w3 (H7:HI M w w3 (J5::bc))
 refine ak (v:=I (ly h)) J J<|aq<|sq<|az<|ai (v:=I (ly h)) J J<|k<|neq J J J J<|z<|nx<|cd (b:=!decide ((ly h)=0)) J J (fun b0=>?_)<|fun b0=>?_
 ·
  have p0:=dF<|fX b0
  refine sq ?_
  have hq:gX h=false:=Y6<|by simpa using ‹(!decide (ly h=0))=true›
  refine rg<|k<|bd (v:=.agg #[.slice none 0 0,.slice none 0 0,.slice none 0 0]) J eI (fun _=>aU)<|k<|bw H7 4 J ej J J J J J J J ?_
  intro w4 (H8:HI M w w4 (J5::bc))
  refine ak (v:=.bool false) J J<|aq<|rt<|aK<|iA H8 4 J ej J J J J J au ?_
  have e0:([]:List bA)=uw h:=by exact(z6 hq).1.symm
  have e1:([]:List aO)=qE h:=by exact(z6 hq).2.1.symm
  have e2:([]:aA)=qF h:=by exact(z6 hq).2.2.symm
  have e3:(false:Bool)=gX h:=by exact hq.symm
  have bu:=cg4 (fun (cq:List bA) (dX:List aO) (gQ:aA) (mM:Bool)=>(.tuple #[.agg #[.slice none cq.length 0,.slice none dX.length 0,.slice none gQ.length 0],.bool mM]:Value)) e0 e1 e2 e3
  exact⟨none,0,none,0,none,0,bu,H8.below,(amz (fun (x_:List bA)=>RV _ _ (.slice none x_.length 0) x_) e0).mp (eH _ _),(amz (fun (x_:List aO)=>RV _ _ (.slice none x_.length 0) x_) e1).mp (eH _ _),(amz (fun (x_:aA)=>RV _ _ (.slice none x_.length 0) x_) e2).mp (eH _ _)⟩
 have p0:=dT<|fl b0
 refine sk<|nx<|sq ?_
 have he_:ly h=0:=by simpa using ‹(!decide (ly h=0))=false›
 refine rg<|k<|cI H7 0 J ej J J au J<|k ?_
 have dq:=M8 (U:=(cX h)) (aC:=a0) (aD:=(l7 h).length) (aB:=c0) (ay:=a2) (fc:=([]:aA).length) (ax:=c2) H7.mb<|H7.rv 2 J
 refine ca aiK J (ec J e0) dq ?_
 rintro _ w4 ⟨rfl,fA⟩
 have H8:=H7.ext fA
 refine ai (v:=.tuple #[I ((da<|cX h).1),I ((da<|cX h).2.1),I ((da<|cX h).2.2)]) J J<|k<|xt J J J<|k<|xt J J J<|k<|xt J J J<|ak (v:=I ((da<|cX h).2.2)) J J<|aq<|sq<|az<|ai (v:=I ((da<|cX h).2.2)) J J<|k<|neq J J J J<|z<|nx<|cd (b:=!decide (((da<|cX h).2.2)=0)) J J (fun b1=>?_)<|fun b1=>?_
 ·
  have p1:=dF<|fX b1
  refine sq ?_
  have hq:gX h=false:=Y5<|by simpa using ‹(!decide ((da<|cX h).2.2=0))=true›
  refine rg<|k<|bd (v:=.agg #[.slice none 0 0,.slice none 0 0,.slice none 0 0]) J eI (fun _=>aU)<|k<|bw H8 4 J ej J J J J J J J ?_
  intro w5 (H9:HI M w w5 (J5::bc))
  refine ak (v:=.bool false) J J<|aq<|rt<|aK<|iA H9 4 J ej J J J J J au ?_
  have e0:([]:List bA)=uw h:=by exact(z6 hq).1.symm
  have e1:([]:List aO)=qE h:=by exact(z6 hq).2.1.symm
  have e2:([]:aA)=qF h:=by exact(z6 hq).2.2.symm
  have e3:(false:Bool)=gX h:=by exact hq.symm
  have bu:=cg4 (fun (cq:List bA) (dX:List aO) (gQ:aA) (mM:Bool)=>(.tuple #[.agg #[.slice none cq.length 0,.slice none dX.length 0,.slice none gQ.length 0],.bool mM]:Value)) e0 e1 e2 e3
  exact⟨none,0,none,0,none,0,bu,H9.below,(amz (fun (x_:List bA)=>RV _ _ (.slice none x_.length 0) x_) e0).mp (eH _ _),(amz (fun (x_:List aO)=>RV _ _ (.slice none x_.length 0) x_) e1).mp (eH _ _),(amz (fun (x_:aA)=>RV _ _ (.slice none x_.length 0) x_) e2).mp (eH _ _)⟩
 have p1:=dT<|fl b1
 refine sk<|nx<|sq ?_
 have hq:gX h=true:=aa7 he_<|by simpa using ‹(!decide ((da<|cX h).2.2=0))=false›
 refine rg<|k<|cI H8 0 J ej J J au J<|k ?_
 have fP:=PB (fv:=(l7 h)) (U:=(cX h)) (fo:=([]:aA)) H8.mb (H8.rv 3 J) (H8.rv 2 J) (H8.rv 1 J)<|by have h_:=N4 h;omega
 refine ca aiJ J (ec J e0) fP ?_
 rintro _ w5 ⟨a3,c3,a4,c4,a5,c5,rfl,iz,fB,ja,jW⟩
 have H9:=H8.ext iz
 have dz:=eu H9 fB
 have cB:=eu dz ja
 have dx:=eu cB jW
 refine k<|bw dx 7 J ej J J J J J J J ?_
 intro w6 (dI:HI M w w6 [iL a5 (jP (cX h)) c5,iL a4 (cX h) c4,iL a3 (l7 h) c3,J5,J4,J3,J2,box aZ #[sL a3 (l7 h) c3,sL a4 (cX h) c4,sL a5 (jP (cX h)) c5] 47,J0])
 refine ak (v:=.bool true) J J<|aq<|rt<|iA dI 7 J ej J J J J J au ?_
 have e0:((l7 h):List bA)=uw h:=by exact(DA hq).1.symm
 have e1:((cX h):List aO)=qE h:=by exact(DA hq).2.1.symm
 have e2:(jP (cX h):aA)=qF h:=by exact(DA hq).2.2.symm
 have e3:(true:Bool)=gX h:=by exact hq.symm
 have bu:=cg4 (fun (cq:List bA) (dX:List aO) (gQ:aA) (mM:Bool)=>(.tuple #[.agg #[.slice a3 cq.length c3,.slice a4 dX.length c4,.slice a5 gQ.length c5],.bool mM]:Value)) e0 e1 e2 e3
 exact⟨a3,c3,a4,c4,a5,c5,bu,dI.below,(amz (fun (x_:List bA)=>RV _ _ (.slice a3 x_.length c3) x_) e0).mp (dI.gm 2 J),(amz (fun (x_:List aO)=>RV _ _ (.slice a4 x_.length c4) x_) e1).mp (dI.gm 1 J),(amz (fun (x_:aA)=>RV _ _ (.slice a5 x_.length c5) x_) e2).mp (dI.gm 0 J)⟩
theorem aib:cH aJ 97:=cN Tryz.func97
theorem aia:cH aJ 98:=cN Tryz.func98
theorem aic:cH aJ 96:=cN Tryz.func96
theorem acP:cH aJ 59:=cN Tryz.func59
theorem Qn:cH aJ 58:=cN Tryz.func58
theorem V7 (hM:eU M w) (dG:cL M w aw av U) (gl:cL M w ay ax fo) (dC:U.length≤4096) (eD:fo.length=U.length) (fK:∀x∈fo,x<((U.length:Nat):Int)):Calls aJ 98 #[.agg #[.slice aC aD aB,sL aw U av,sL ay fo ax]] w (cA fun v w'=>∃(a0:OA) (c0:Nat),v=.agg #[I (U.length:Int),.slice a0 (oK U fo).length c0]∧Ext w w'∧bj M 144 w (oK U fo) (.slice a0 (oK U fo).length c0) w'):=by
 refine dH 37 Tryz.func98 J J J hM fun f0 ha H=>?_
 let J0:=iL aw U av
 have H0:=H.put (it:=J0) J<|by rw[bS];exact dG
 let J1:=iL ay fo ax
 have H1:=H0.put (it:=J1) J<|by rw[aH rfl,bS];exact gl
 have iS:=bl dG
 have kM:=bl gl
 have i0:f0 0=.agg #[.slice aC aD aB,sL aw U av,sL ay fo ax]:=ha 0 bm
 refine az<|k<|bx H1 J i0 ?_
 intro aZ w0 bY (H2:HI M w w0 [box aZ #[.slice aC aD aB,sL aw U av,sL ay fo ax] 47,J1,J0])
 let J2:=box aZ #[.slice aC aD aB,sL aw U av,sL ay fo ax] 47
 refine k<|al H2 bp ?_
 let bc:=[J2,J1,J0]
 intro ba w1 dy (H3:HI M w w1 (box ba #[I 0,.slice none 0 0] 26::bc))
 let J3:=box ba #[I 0,.slice none 0 0] 26
 refine bz<|aR fF J J<|bq H3 1 J iZ J J J<|k<|ef J J jv<|k ?_
 have bT:=Oc (n:=(U.length:Int)) H3.mb aT
 refine ca GF J (ec J e0) bT ?_
 rintro _ w2 ⟨a0,c0,rfl,fe,cE⟩
 have H4:=H3.eS cE
 refine ai (v:=.tuple #[.agg #[I (oD (U.length:Int)),sL a0 (iJ (U.length:Int)) c0],I (r6 (U.length:Int))]) J J<|k<|xt J J J<|k<|xt J J J<|k<|al H4 bp ?_
 let ck:=oL w 144 a0 (iJ (U.length:Int)) c0::J3::bc
 intro bL w3 fA (H5:HI M w w3 (box bL #[I 0,.slice none 0 0] 26::ck))
 refine k<|bw H5 0 J bp J J J J J J J ?_
 let J4:=box bL #[I (oD (U.length:Int)),sL a0 (iJ (U.length:Int)) c0] 26
 intro w4 (H6:HI M w w4 (J4::ck))
 refine ak (v:=I (r6 (U.length:Int))) J J<|aq<|sq<|sq ?_
 have Vl:Cu (U.length:Int)=true:=sE.2 aj
 obtain⟨en,er, -⟩:=xD Vl
 refine rg<|aR tG J J<|bq H6 3 J qv J J J<|k<|ef J J cS<|ai (v:=I 0) J J<|aq<|bk<|lp (fun m f w'=>∃(j:Nat) (xs:List (List bt)),m=fo.length-j∧f 2=pV ba 0∧f 3=pV bL 0∧f 15=sL ay fo ax∧f 16=I (fo.length:Int)∧f 17=I (j:Int)∧HI M w w' (J4::own w.heap.size 144 (.slice a0 (iJ (U.length:Int)).length c0) xs::J3::bc)∧(j≤fo.length)∧(xs.length=U.length)∧(xs=uv U.length fo j)) _ ⟨0,(iJ (U.length:Int)),J,J,J,J,J,(bN J),H6,aj,(by rw[er,pY];simp),(by rw[er];exact YT _ _)⟩ ?_
 rintro _ f0 w5 ⟨j,xs,rfl,s0,s1,s2,s3,s4,H7,hk,hl,hs⟩
 refine az<|k<|lss J J s4 s3<|aq<|sq<|cd (b:=decide ((j:Int)<(fo.length:Int))) J J (fun b0=>?_)<|fun b0=>?_
 ·
  have p0:=dT b0
  refine sk<|nx<|sq<|bk<|az<|ai J s4<|k<|ia (H7.rv 4 J) J J s2 s4 aj cS aS ?_
  intro iE x0 aI cD
  refine k<|mV cD.w aS J J ?_
  intro ep
  refine ak (v:=I (j:Int)) J J<|ak (v:=I x0) J J<|aq<|sq ?_
  have hw_:=fK _<|dN aI
  refine rg<|ai (v:=I x0) J J<|k<|geq J J J J<|z<|nx<|cd (b:=decide (0≤x0)) J J (fun b1=>?_)<|fun b1=>?_
  ·
   have p1:=dT b1
   refine ma [.r,.r,.r,.r,.r,.r,.r,.r,.r,.r,.e,.e] (fun _=>True) J aU (fun _ _=>trivial)<|yq J J<|kq (fun _ _=>fa iw J s1 e1)<|bQ<|kq (fun _ x_=>lx (H7.ext x_) 0 J kX J J J e1)<|bQ<|kq (fun _ _=>mv (v:=I x0) J J e1)<|bQ<|kq (fun _ _=>fa iw J s1 e1)<|bQ<|kq (fun _ x_=>lx (H7.ext x_) 0 J kX J J J e1)<|bQ<|kq (fun _ _=>mv (v:=I x0) J J e1)<|bQ<|th (H7.at_ 1 J) J J J J aj ie dt ?_
   intro rb x1 bV gG
   refine bQ<|F3 gG dt J J ?_
   intro a1 c1 ei
   have BB:=bl ei
   have H8:=eu H7 ei
   refine bQ<|kq (fun _ _=>mv (v:=I (j:Int)) J J e1)<|zq<|yu J (fun _ v w'=>∃(a2:OA) (c2:Nat),v=sL a2 (eo x1 (j:Int)) c2∧RV H7.gh w' (sL a2 (eo x1 (j:Int)) c2) (eo x1 (j:Int))) J od J (fun v_ _ x_ _=>have fP:=ur (r:=x1) (i:=(j:Int)) (w:=v_) (H8.ext x_).mb ((H8.ext x_).rv 0 rfl) aT (by have Tf:=bV;rw[hs] at Tf;exact(YU (n:=U.length) aj fo j).2 _ (dN Tf));ca Fs rfl (ec J<|ec J e0) fP (fun _ w7 ⟨a3,c3,e_,jh,jW⟩=>⟨_,J,jh,⟨a3,c3,e_,(mJ J<|bj.rv jW (H8.ext x_).mb)⟩⟩))<|ye<|ye<|yz ?_
   intro w8 f1 _ ki _ _ cK iK
   have cU:=H8.ext ki
   have s5:=(cK 2 J).trans s0
   have s6:=(cK 3 J).trans s1
   have s7:=(cK 15 J).trans s2
   have s8:=(cK 16 J).trans s3
   have s9:=(cK 17 J).trans s4
   have eC:=cK 25 J
   have fj:=cK 26 J
   obtain⟨a4,c4,fT,kR⟩:=iK 0 _ _ rfl
   have d_:=eu cU kR
   refine j8<|iq (d_.at_ 3 J) J J eC fj aj ie dt ?_
   intro g0 x2 iC jb kB
   refine j8<|qf d_ 3 J iC J aj dt J J J fT (d_.rv 0 J) ?_
   let J5:=own w.heap.size 144 (.slice a0 (iJ (U.length:Int)).length c0) (xs.set x0.toNat (eo x1 (j:Int)))
   intro w9 (dD:HI M w w9 [iL a4 (eo x1 (j:Int)) c4,iL a1 x1 c1,J4,J5,J3,J2,J1,J0])
   refine kz<|aF<|nx<|rg<|k<|add J J s9 J aT<|ai (v:=I ((j:Int)+1)) J J<|z ?_
   have cY:HI M w w9 (J4::J5::J3::bc):=dD.bZ [2,3,4,5,6,7] au J
   refine bG _ ?_ ⟨(j+1),(xs.set x0.toNat (eo x1 (j:Int))),J,s5,s6,s7,s8,(bN J),cY,aj,(by simpa using hl),(by exact aaT hs aI aj aj aj bV)⟩
   omega
  have p1:=dF b1
  refine sk<|aF<|nx<|rg<|k<|add J J s4 J aT<|ai (v:=I ((j:Int)+1)) J J<|z<|bG _ ?_ ⟨(j+1),xs,J,s0,s1,s2,s3,(bN J),H7,aj,bo,(by rw[hs];exact aeo aI aj)⟩
  omega
 have p0:=dF b0
 refine ex<|aV<|bf<|bh<|cV<|k<|cI H7 0 J bp J s1 au J<|k<|bw H7 2 J bp J J s0 J J J J ?_
 intro w6 (H8:HI M w w6 (J4::own w.heap.size 144 (.slice a0 (iJ (U.length:Int)).length c0) xs::box ba #[I (oD (U.length:Int)),sL a0 (iJ (U.length:Int)) c0] 26::bc))
 refine aq<|rt<|pf H8 2 J bp J J s0 J au ?_
 have e0:(oD (U.length:Int):Int)=(U.length:Int):=by rw[en]
 have e1:(xs:List (List bt))=oK U fo:=by rw[hs];exact aaU eD aj
 have l1:(iJ (U.length:Int)).length=(oK U fo).length:=by rw[er,pY,YV];simp
 have bu:=ny (fun (cq:Int) (u9:Nat)=>(.agg #[I cq,.slice a0 u9 c0]:Value)) e0 l1
 exact⟨a0,c0,bu,H8.below,(amz (fun (n_:Nat)=>bj _ _ _ (oK U fo) (.slice a0 n_ c0) _) l1).mp ((amz (fun (x_:List (List bt))=>bj _ _ _ x_ (.slice a0 (iJ (U.length:Int)).length c0) _) e1).mp (H8.du 1 J))⟩
theorem Ey (hM:eU M w) (dG:cL M w aw av U) (gl:cL M w ay ax fo) (ho:hG U) (dC:U.length≤4096) (eD:fo.length=U.length) (fK:∀x∈fo,x<((U.length:Nat):Int)):Calls aJ 59 #[.agg #[.slice aC aD aB,sL aw U av,sL ay fo ax]] w (cA fun v w'=>∃(a0:OA) (c0:Nat),v=.agg #[I (U.length:Int),.slice a0 (kn U fo).length c0]∧Ext w w'∧RV M w' (.slice a0 (kn U fo).length c0) (kn U fo)):=by
 refine dH 14 Tryz.func59 J J J hM fun f0 ha H=>?_
 let J0:=iL aw U av
 have H0:=H.put (it:=J0) J<|by rw[bS];exact dG
 let J1:=iL ay fo ax
 have H1:=H0.put (it:=J1) J<|by rw[aH rfl,bS];exact gl
 have i0:f0 0=.agg #[.slice aC aD aB,sL aw U av,sL ay fo ax]:=ha 0 bm
 refine az<|k<|bx H1 J i0 ?_
 intro aZ w0 bY (H2:HI M w w0 [box aZ #[.slice aC aD aB,sL aw U av,sL ay fo ax] 47,J1,J0])
 let J2:=box aZ #[.slice aC aD aB,sL aw U av,sL ay fo ax] 47
 refine k<|al H2 bp ?_
 intro ba w1 dy (H3:HI M w w1 [box ba #[I 0,.slice none 0 0] 26,J2,J1,J0])
 refine aq<|sq<|ma [.r,.r,.r,.r,.r,.r,.r,.s,.n,.e,.s] (fun _=>True) J aU (fun _ _=>trivial)<|yq J J<|kq (fun _ x_=>cI (H3.ext x_) 1 J ej J J au J e1)<|zq<|yu J (fun N v w'=>∃(a0:OA) (c0:Nat),v=.agg #[I (U.length:Int),sL a0 (oN U) c0]∧RV (MN H3.gh N) w' (sL a0 (oN U) c0) (oN U)) J Ed J (fun v_ _ x_ n_=>have dq:=Pn (U:=U) (aC:=aC) (aD:=aD) (aB:=aB) (ay:=ay) (fc:=fo.length) (ax:=ax) (w:=v_) (kK H3.mb x_ n_) (kj (H3.rv 3 J) x_ n_) (by exact ho) (by exact dC);ca aib rfl (ec J e0) dq (fun _ w3 ⟨a1,c1,e_,fA,ei⟩=>⟨_,J,fA,⟨a1,c1,e_,(bj.rv ei<|kK H3.mb x_ n_)⟩⟩))<|yq J J<|kq (fun _ x_=>cI (H3.ext x_) 1 J ej J J au J e1)<|zq<|yu J (fun N v w'=>∃(a2:OA) (c2:Nat),v=.agg #[I (U.length:Int),sL a2 (oK U fo) c2]∧RV (MN H3.gh N) w' (sL a2 (oK U fo) c2) (oK U fo)) J Ed J (fun v_ _ x_ n_=>have ff:=V7 (U:=U) (fo:=fo) (aC:=aC) (aD:=aD) (aB:=aB) (w:=v_) (kK H3.mb x_ n_) (kj (H3.rv 3 J) x_ n_) (kj (H3.rv 2 J) x_ n_) (by exact dC) (by exact eD) (by exact fK);ca aia rfl (ec J e0) ff (fun _ w5 ⟨a3,c3,e_,jh,jW⟩=>⟨_,J,jh,⟨a3,c3,e_,(bj.rv jW<|kK H3.mb x_ n_)⟩⟩))<|yu2 J (fun N v w'=>∃(a6:OA) (c6:Nat),v=.tuple #[.agg #[I (tk (U.length:Int) (U.length:Int)),sL a6 (lX (U.length:Int) (oN U) (U.length:Int)<|oK U fo) c6],I (xB (U.length:Int) (U.length:Int))]∧RV (MN H3.gh N) w' (sL a6 (lX (U.length:Int) (oN U) (U.length:Int)<|oK U fo) c6) (lX (U.length:Int) (oN U) (U.length:Int)<|oK U fo)) 1 0 J J J Ed J (fun v_ _ _ _ x_ n_ h_ k_=>let ⟨a7,c7,s0,rA⟩:=h_;let ⟨a8,c8,s1,oJ⟩:=k_;have nV:=abl (an:=(U.length:Int)) (ar:=(oN U)) (bn:=(U.length:Int)) (br:=(oK U fo)) (w:=v_) (kK H3.mb x_ n_) aT rA aT oJ (by exact(Ge aj _).1) (by exact(Ge aj _).2) aj (by exact(Ge aj _).1) (by exact(Ge aj _).2) aj;ca aic rfl (ec s0<|ec s1 e0) nV (fun _ w7 ⟨a9,c9,e_,mA,nB⟩=>⟨_,J,mA,⟨a9,c9,e_,(bj.rv nB<|kK H3.mb x_ n_)⟩⟩))<|lE J (fun N v w'=>∃(jH:OA) (jF:Nat),v=.tuple #[.agg #[I (tk (U.length:Int) (U.length:Int)),sL jH (lX (U.length:Int) (oN U) (U.length:Int)<|oK U fo) jF],I (xB (U.length:Int) (U.length:Int))]∧RV (MN H3.gh N) w' (sL jH (lX (U.length:Int) (oN U) (U.length:Int)<|oK U fo) jF) (lX (U.length:Int) (oN U) (U.length:Int)<|oK U fo)) 0 J J Ed J (fun _ _ _ _ _ h_=>let ⟨nY,nW,s2,sg⟩:=h_;mv rfl s2 ⟨_,J,Ext.refl _,⟨nY,nW,J,sg⟩⟩)<|lE J (fun N v w'=>∃(a12:OA) (qY:Nat),v=.agg #[I (tk (U.length:Int) (U.length:Int)),sL a12 (lX (U.length:Int) (oN U) (U.length:Int)<|oK U fo) qY]∧RV (MN H3.gh N) w' (sL a12 (lX (U.length:Int) (oN U) (U.length:Int)<|oK U fo) qY) (lX (U.length:Int) (oN U) (U.length:Int)<|oK U fo)) 0 J J Ed J (fun _ _ _ _ _ h_=>let ⟨ka,j9,s3,AQ⟩:=h_;xt rfl s3 rfl ⟨_,J,Ext.refl _,⟨ka,j9,J,AQ⟩⟩)<|QV J (X:=I (xB (U.length:Int) (U.length:Int))) 1 J J (fun _ _ _ _ _ h_=>let ⟨TX,Tx,s4,Pp⟩:=h_;xt rfl s4 rfl e1)<|yn (z:=#[I 0,.slice none 0 0]) J J (fun _=>O3 bp)<|ye<|yq J J<|kq (fun _ _=>jy (v:=I (xB (U.length:Int) (U.length:Int))) J J e1)<|zq<|yz ?_
 intro w8 f0 _ og _ _ cK iK
 obtain⟨fq,s5,CQ,l9,BF⟩:=iK 0 _ _ rfl
 have pL:=OU (z:=#[I 0,.slice none 0 0]) (T:=26) CQ l9 BF<|OV
 let bc:=[box ba #[I 0,.slice none 0 0] 26,J2,J1,J0]
 have H7:HI M w w8 (box fq #[I 0,.slice none 0 0] 26::bc):=H3.DH og pL<|N9 N8 Oa
 have s6:=cK 2 J
 obtain⟨Jf,Ja,s7,aaM⟩:=iK 1 _ _ rfl
 let J3:=iL Jf (lX (U.length:Int) (oN U) (U.length:Int) (oK U fo)) Ja
 have H8:=H7.put (it:=J3) J<|sf aaM pL
 refine j8<|bw H8 1 J bp J J s5 s7 J J J ?_
 let J4:=box fq #[I (tk (U.length:Int) (U.length:Int)),sL Jf (lX (U.length:Int) (oN U) (U.length:Int) (oK U fo)) Ja] 26
 intro w9 (H9:HI M w w9 (J3::J4::bc))
 refine kz<|cV<|k<|cI H9 1 J bp J s5 au J<|k<|bw H9 2 J bp J J s6 J J J J ?_
 intro dP (dz:HI M w dP [J3,J4,box ba #[I (tk (U.length:Int) (U.length:Int)),sL Jf (lX (U.length:Int) (oN U) (U.length:Int) (oK U fo)) Ja] 26,J2,J1,J0])
 refine aq<|rt<|pf dz 2 J bp J J s6 J au ?_
 have e0:(tk (U.length:Int) (U.length:Int):Int)=(U.length:Int):=by exact(X8 U fo).1
 have e1:(lX (U.length:Int) (oN U) (U.length:Int) (oK U fo):List (List bt))=kn U fo:=by exact(X8 U fo).2
 have bu:=ny (fun (cq:Int) (dX:List (List bt))=>(.agg #[I cq,.slice Jf dX.length Ja]:Value)) e0 e1
 exact⟨Jf,Ja,bu,dz.below,(amz (fun (x_:List (List bt))=>RV _ _ (.slice Jf x_.length Ja) x_) e1).mp (dz.gm 0 J)⟩
theorem Bo (hM:eU M w) (dG:cL M w aw av U) (gl:cL M w ay ax fo) (ho:hG U) (dC:U.length≤4096) (eD:fo.length=U.length) (fK:∀x∈fo,x<((U.length:Nat):Int)):Calls aJ 32 #[.agg #[.slice aC aD aB,sL aw U av,sL ay fo ax]] w (cA fun v w'=>∃(a0:OA) (c0:Nat),v=.agg #[I (U.length:Int),.slice a0 (cC U fo).length c0]∧Ext w w'∧RV M w' (.slice a0 (cC U fo).length c0) (cC U fo)):=by
 refine dH 6 Tryz.func32 J J J hM fun f0 ha H=>?_
 have H0:=eu H dG
 have H1:=eu H0 gl
 have i0:f0 0=.agg #[.slice aC aD aB,sL aw U av,sL ay fo ax]:=ha 0 bm
 refine az<|k<|bx H1 J i0 ?_
 let bc:=[iL ay fo ax,iL aw U av]
 intro aZ w0 bY (H2:HI M w w0 (box aZ #[.slice aC aD aB,sL aw U av,sL ay fo ax] 47::bc))
 let J0:=box aZ #[.slice aC aD aB,sL aw U av,sL ay fo ax] 47
 refine k<|al H2 bp ?_
 intro ba w1 dy (H3:HI M w w1 (box ba #[I 0,.slice none 0 0] 26::J0::bc))
 refine bz<|k<|cI H3 1 J ej J J au J<|k ?_
 have bT:=Ey (U:=U) (fo:=fo) (aC:=aC) (aD:=aD) (aB:=aB) H3.mb (H3.rv 3 J) (H3.rv 2 J) (by exact ho) (by exact dC) (by exact eD)<|by exact fK
 refine ca acP J (ec J e0) bT ?_
 rintro _ w2 ⟨a0,c0,rfl,fe,cE⟩
 have H4:=H3.ext fe
 have H5:=eu H4 cE
 refine k ?_
 have dq:=wK (mn:=(U.length:Int)) (mr:=(kn U fo)) H5.mb aT (H5.rv 0 J)<|by exact Mc fo dC
 refine ca Qn J (ec J e0) dq ?_
 rintro _ w3 ⟨a1,c1,rfl,fA,ep⟩
 have H6:=H5.eS ep
 refine k<|bw H6 2 J bp J J J J J J J ?_
 intro w4 (H7:HI M w w4 (oL w 144 a1 (fk (U.length:Int) (kn U fo)) c1::iL a0 (kn U fo) c0::box ba #[I (U.length:Int),sL a1 (fk (U.length:Int) (kn U fo)) c1] 26::J0::bc))
 refine aq<|rt<|pf H7 2 J bp J J J J au ?_
 have e1:(fk (U.length:Int) (kn U fo):List (List bt))=cC U fo:=by exact VY U fo
 have bu:=iD (fun (dX:List (List bt))=>(.agg #[I (U.length:Int),.slice a1 dX.length c1]:Value)) e1
 exact⟨a1,c1,bu,H7.below,(amz (fun (x_:List (List bt))=>RV _ _ (.slice a1 x_.length c1) x_) e1).mp (H7.mu 0 J)⟩
theorem M6 (H:HI M w w_ ([oL w 3 dV xs dL]++r)):Calls aJ 177 #[sL dV xs dL] w_ (cA fun v w'=>v=.tuple #[]∧HI M w w' ([own w.heap.size 3 (sL dV xs dL) xs.reverse]++r)):=by
 refine enter 28 Tryz.func177 J J J fun f0 ha=>?_
 have Gf:=kf<|H.at_ 0 J
 have i0:f0 0=sL dV xs dL:=ha 0 bm
 refine az<|ai J i0<|k<|ef J J cS<|k<|sub J J J J aT<|ak (v:=I 0) J J<|ak (v:=I ((xs.length:Int)-1)) J J<|aq<|bk<|lp (fun m f w'=>∃(q:Nat) (ys:aA),m=xs.length-q∧f 0=sL dV xs dL∧f 2=I (q:Int)∧f 3=I ((xs.length:Int)-1-(q:Int))∧HI M w w' ([own w.heap.size 3 (.slice dV xs.length dL) ys]++r)∧(q+q≤xs.length+1)∧(ys.length=xs.length)∧(ys=te xs q)) _ ⟨0,xs,J,i0,(bN J),(bN J),H,aj,(by rfl),(by exact Px xs)⟩ ?_
 rintro _ f0 w0 ⟨q,ys,rfl,s0,s1,s2,H0,sI,tX,hs⟩
 refine sq<|az<|ai J s1<|ai J s2<|k<|lss J J J J<|z<|nx<|cd (b:=decide ((q:Int)<((xs.length:Int)-1-(q:Int)))) J J (fun b0=>?_)<|fun b0=>?_
 ·
  have p0:=dT b0
  refine sk<|nx<|sq<|bk<|ma [.r,.r,.s,.s,.r,.r,.r,.r,.r,.r,.r,.r,.e,.e,.e,.e] (fun _=>True) J aU (fun _ _=>trivial)<|yq J J<|kq (fun _ _=>mv J s0 e1)<|bQ<|kq (fun _ _=>mv J s1 e1)<|bQ<|kq (fun _ _=>mv J s0 e1)<|bQ<|kq (fun _ _=>mv J s2 e1)<|bQ<|kq (fun _ _=>mv J s0 e1)<|bQ<|kq (fun _ _=>mv J s2 e1)<|bQ<|th (H0.at_ 0 J) J J J J aj cS aS ?_
  intro iE x0 aI cD
  refine bQ<|nP cD aS J J ?_
  intro cE
  refine bQ<|kq (fun _ _=>mv J s0 e1)<|bQ<|kq (fun _ _=>mv J s1 e1)<|bQ<|th (H0.at_ 0 J) J J J J aj cS aS ?_
  intro rb x1 bV gG
  refine bQ<|nP gG aS J J ?_
  intro ep
  refine zq<|ye<|ye<|ye<|ye<|yz ?_
  intro w1 f1 _ bY _ _ cK iK
  have H1:=H0.ext bY
  have s3:=(cK 0 J).trans s0
  have s4:=(cK 2 J).trans s1
  have s5:=(cK 3 J).trans s2
  have s6:=cK 14 J
  have s7:=cK 15 J
  have s8:=cK 16 J
  have s9:=cK 17 J
  have eC:=cK 21 J
  have fj:=cK 25 J
  refine j8<|iq (H1.at_ 0 J) J J s6 s7 aj cS aS ?_
  intro g0 x2 iC jb kB
  refine j8<|qf H1 0 J iC J aj aS J J J eC (RV.int.2 ⟨J,bo⟩) ?_
  intro w2 (H2:HI M w w2 ([own w.heap.size 3 (.slice dV xs.length dL) (ys.set ((q:Int).toNat) x0)]++r))
  refine j8<|iq (H2.at_ 0 J) J J s8 s9 (by simp only[amA];omega) cS aS ?_
  intro g1 x3 kN qI tC
  refine j8<|qf H2 0 J kN J (by simp only[amA];omega) aS J J J fj (RV.int.2 ⟨J,bo⟩) ?_
  intro w3 (H3:HI M w w3 ([own w.heap.size 3 (.slice dV xs.length dL) ((ys.set ((q:Int).toNat) x0).set (((xs.length:Int)-1-(q:Int)).toNat) x1)]++r))
  refine kz<|aF<|nx<|rg<|ai J s4<|k<|add J J J J aT<|ai J s5<|k<|sub J J J J aT<|ak (v:=I ((q:Int)+1)) J J<|ak (v:=I (((xs.length:Int)-1-(q:Int))-1)) J J<|z<|bG _ ?_ ⟨(q+1),((ys.set ((q:Int).toNat) x0).set (((xs.length:Int)-1-(q:Int)).toNat) x1),J,s3,(bN J),(bN J),H3,aj,(by simp only[amA];exact tX),(by exact M7 hs aj aI aj bV)⟩
  omega
 have p0:=dF b0
 refine ex<|aV<|bf<|bh<|D9 J ?_
 have e0:(ys:List _)=xs.reverse:=by exact Rr hs aj
 try rw[←e0]
 refine⟨?_,?_⟩
 · first|rfl|simp only[e0]|(simp only[amA])
 · first|exact H0|simpa +zetaDelta only[e0,amA] using H0
theorem aeN:cH aJ 177:=cN Tryz.func177
theorem RB {MI:OA} {Mn:Nat} {vb:aA} (hM:eU M w) (acs:cL M w MI Mn vb) (qS:aL i) (BO:aL j) (Em:Bk vb i j (vC vb i j)) (BN:(vC vb i j).length≤4097):Calls aJ 155 #[sL MI vb Mn,I i,I j] w (cA fun v w'=>∃(a0:OA) (c0:Nat),v=.slice a0 (vC vb i j).length c0∧Ext w w'∧bj M 3 w (vC vb i j) (.slice a0 (vC vb i j).length c0) w'):=by
 refine dH 29 Tryz.func155 J J J hM fun f0 ha H=>?_
 let J0:=iL MI vb Mn
 have H0:=H.put (it:=J0) J<|by rw[bS];exact acs
 have ak3:=bl acs
 have i0:f0 0=sL MI vb Mn:=ha 0 bm
 have i1:f0 1=I i:=ha 1 bm
 have i2:f0 2=I j:=ha 2 bm
 have ak':=Em.len;have ale:=TB Em Em.last
 refine az<|ak (v:=.slice none 0 0) J J<|bz<|ai J i2<|k<|bs (xs:=([j]:aA)) (cells:=#[I j]) (e:=3) H0 J (cz J eI) (fun _=>aU) ⟨[I j],[],J,⟨J,BO⟩,J⟩ J au ?_
 intro g0 w0 bY H1
 refine ak (v:=.slice (some ⟨g0,0,none⟩) 1 1) J J<|aq<|sq<|az<|ai J i0<|ai J i2<|k<|ia (H1.rv 1 J) J J J J aj cS aS ?_
 intro iE x0 aI cD
 refine k<|mV cD.w aS J J ?_
 intro cE
 refine ak (v:=I x0) J J<|aq<|bk<|lp (fun m f w'=>∃(t:Nat) (l:aA) (a:Int) (a0:OA) (c0:Nat),m=t+1∧f 0=sL MI vb Mn∧f 1=I i∧f 7=sL a0 l c0∧f 8=I a∧HI M w w' [oL w 3 a0 l c0,J0]∧(1≤t∧t<(vC vb i j).length)∧(l=((vC vb i j).drop t).reverse)∧((vC vb i j)[t-1]? =some a)) _ ⟨((vC vb i j).length-1),[j],x0,(some ⟨g0,0,none⟩),1,J,i0,i1,J,(bN J),H1,aj,(by exact Z2 Em),(by exact Wb Em aI)⟩ ?_
 rintro _ f0 w1 ⟨t,l,a,a0,c0,rfl,s0,s1,s2,s3,H2,ht,hs,gN⟩
 refine sq<|bk<|sq ?_
 have hL_:l.length=(vC vb i j).length-t:=by rw[hs];simp
 have ha_:=TB Em gN
 refine rg<|ai J s2<|ai J s3<|k<|bs (xs:=([a]:aA)) (cells:=#[I a]) (e:=3) H2 J (cz J eI) (fun _=>aU) ⟨[I a],[],J,⟨J,(show aL (a) from aT)⟩,J⟩ J au ?_
 intro g1 w2 dy H3
 refine k<|me H3 1 J J J J J J (ib<|H3.at_ 0 J) cS aS J (by simp;omega) J ?_
 let J1:=own w.heap.size 3 (.slice (some ⟨g1,0,none⟩) 1 1) ([a]:aA)
 intro a1 c1 w3 (H4:HI M w w3 [J1,oL w 3 a1 (l++([a]:aA)) c1,J0])
 refine ak (v:=sL a1 (l++([a]:aA)) c1) J J<|bz<|ai J s3<|ai J s1<|k<|eql J J J J<|z<|nx<|cd (b:=decide (a=i)) J J (fun b0=>?_)<|fun b0=>?_
 ·
  have p0:=dT b0
  refine ex<|Vd au<|aV<|bf<|bh<|cV<|ai (v:=sL a1 (l++([a]:aA)) c1) J J<|k ?_
  have H5:HI M w w3 ([oL w 3 a1 (l++([a]:aA)) c1]++[J1,J0]):=H4.bZ [1,0,2] au J
  have bT:=M6 (dV:=a1) (dL:=c1) (xs:=(l++([a]:aA))) (w:=w) (w_:=w3) (r:=[J1,J0]) (M:=M) H5
  refine ca aeN J (ec J e0) bT ?_
  rintro _ w4 ⟨rfl,H6⟩
  have H7:HI M w w4 [own w.heap.size 3 (.slice a1 (l++([a]:aA)).length c1) ((l++([a]:aA)).reverse),J1,J0]:=H6
  refine bz<|ai (v:=sL a1 (l++([a]:aA)) c1) J J<|ak (v:=sL a1 (l++([a]:aA)) c1) J J<|aq<|rt<|r1 J J ?_
  have e0:(((l++([a]:aA)).reverse):aA)=vC vb i j:=by exact adp Em aj aj gN bo hs
  have l0:(l++([a]:aA)).length=(vC vb i j).length:=by rw[←e0];simp
  have bu:=iD (fun (va:Nat)=>(.slice a1 va c1:Value)) l0
  exact⟨a1,c1,bu,H7.below,(amz (fun (n_:Nat)=>bj _ _ _ (vC vb i j) (.slice a1 n_ c1) _) l0).mp ((amz (fun (x_:aA)=>bj _ _ _ x_ (.slice a1 (l++([a]:aA)).length c1) _) e0).mp (H7.du 0 J))⟩
 have p0:=dF b0
 refine sk<|aF<|nx<|rg<|ai J s0<|ai J s3<|k<|ia (H4.rv 2 J) J J J J aj cS aS ?_
 intro rb x1 bV gG
 refine k<|mV gG.w aS J J ?_
 intro ep
 refine ak (v:=I x1) J J<|z ?_
 have H5:HI M w w3 [oL w 3 a1 (l++([a]:aA)) c1,J0]:=H4.bZ [1,2] au J
 refine bG _ ?_ ⟨(t-1),(l++([a]:aA)),x1,a1,c1,J,s0,s1,J,(bN J),H5,(by have h_:=Yb Em aj gN bo;omega),(by exact OX Em aj aj gN hs),(by exact Z3 Em aj aj gN bo bV)⟩
 omega
theorem aeK:cH aJ 190:=cN Tryz.func190
theorem aeO:cH aJ 176:=cN Tryz.func176
theorem aet (bV:x=1#64):Calls aJ 190 #[ag x,ag y] w (cA fun v w'=>v=.tuple #[ag (0#64),ag y]∧Ext w w'):=by
 refine dH 51 Tryz.func190 J J J pI fun f0 ha H=>?_
 have i0:f0 0=ag x:=ha 0 bm
 have i1:f0 1=ag y:=ha 1 bm
 refine az<|ak (v:=ag (0#64)) J J<|ak (v:=ag (0#64)) J J<|bz<|ai J i0<|k<|Dc x (4294967295#64) J J J J<|ak (v:=ag (x &&& (4294967295#64))) J J<|bz<|ai J i0<|k<|Dw x 32 J J J J<|ak (v:=ag (x >>> 32)) J J<|bz<|ai J i1<|k<|Dc y (4294967295#64) J J J J<|ak (v:=ag (y &&& (4294967295#64))) J J<|bz<|ai J i1<|k<|Dw y 32 J J J J<|ak (v:=ag (y >>> 32)) J J<|bz<|ai (v:=ag (x &&& (4294967295#64))) J J<|ai (v:=ag (y &&& (4294967295#64))) J J<|k<|Fc (x &&& (4294967295#64)) (y &&& (4294967295#64)) J J J J<|ak (v:=ag ((x &&& (4294967295#64))*(y &&& (4294967295#64)))) J J<|bz<|ai (v:=ag (x >>> 32)) J J<|ai (v:=ag (y &&& (4294967295#64))) J J<|k<|Fc (x >>> 32) (y &&& (4294967295#64)) J J J J<|ai (v:=ag ((x &&& (4294967295#64))*(y &&& (4294967295#64)))) J J<|k<|Dw ((x &&& (4294967295#64))*(y &&& (4294967295#64))) 32 J J J J<|k<|Ia ((x >>> 32)*(y &&& (4294967295#64))) (((x &&& (4294967295#64))*(y &&& (4294967295#64))) >>> 32) J J J J<|ak (v:=ag (((x >>> 32)*(y &&& (4294967295#64)))+(((x &&& (4294967295#64))*(y &&& (4294967295#64))) >>> 32))) J J<|bz<|ai (v:=ag (((x >>> 32)*(y &&& (4294967295#64)))+(((x &&& (4294967295#64))*(y &&& (4294967295#64))) >>> 32))) J J<|k<|Dc (((x >>> 32)*(y &&& (4294967295#64)))+(((x &&& (4294967295#64))*(y &&& (4294967295#64))) >>> 32)) (4294967295#64) J J J J<|ak (v:=ag ((((x >>> 32)*(y &&& (4294967295#64)))+(((x &&& (4294967295#64))*(y &&& (4294967295#64))) >>> 32)) &&& (4294967295#64))) J J<|bz<|ai (v:=ag (((x >>> 32)*(y &&& (4294967295#64)))+(((x &&& (4294967295#64))*(y &&& (4294967295#64))) >>> 32))) J J<|k<|Dw (((x >>> 32)*(y &&& (4294967295#64)))+(((x &&& (4294967295#64))*(y &&& (4294967295#64))) >>> 32)) 32 J J J J<|ak (v:=ag ((((x >>> 32)*(y &&& (4294967295#64)))+(((x &&& (4294967295#64))*(y &&& (4294967295#64))) >>> 32)) >>> 32)) J J<|bz<|ai (v:=ag ((((x >>> 32)*(y &&& (4294967295#64)))+(((x &&& (4294967295#64))*(y &&& (4294967295#64))) >>> 32)) &&& (4294967295#64))) J J<|ai (v:=ag (x &&& (4294967295#64))) J J<|ai (v:=ag (y >>> 32)) J J<|k<|Fc (x &&& (4294967295#64)) (y >>> 32) J J J J<|k<|Ia ((((x >>> 32)*(y &&& (4294967295#64)))+(((x &&& (4294967295#64))*(y &&& (4294967295#64))) >>> 32)) &&& (4294967295#64)) ((x &&& (4294967295#64))*(y >>> 32)) J J J J<|ak (v:=ag (((((x >>> 32)*(y &&& (4294967295#64)))+(((x &&& (4294967295#64))*(y &&& (4294967295#64))) >>> 32)) &&& (4294967295#64))+((x &&& (4294967295#64))*(y >>> 32)))) J J<|bz<|ai (v:=ag (x >>> 32)) J J<|ai (v:=ag (y >>> 32)) J J<|k<|Fc (x >>> 32) (y >>> 32) J J J J<|ai (v:=ag ((((x >>> 32)*(y &&& (4294967295#64)))+(((x &&& (4294967295#64))*(y &&& (4294967295#64))) >>> 32)) >>> 32)) J J<|k<|Ia ((x >>> 32)*(y >>> 32)) ((((x >>> 32)*(y &&& (4294967295#64)))+(((x &&& (4294967295#64))*(y &&& (4294967295#64))) >>> 32)) >>> 32) J J J J<|ai (v:=ag (((((x >>> 32)*(y &&& (4294967295#64)))+(((x &&& (4294967295#64))*(y &&& (4294967295#64))) >>> 32)) &&& (4294967295#64))+((x &&& (4294967295#64))*(y >>> 32)))) J J<|k<|Dw (((((x >>> 32)*(y &&& (4294967295#64)))+(((x &&& (4294967295#64))*(y &&& (4294967295#64))) >>> 32)) &&& (4294967295#64))+((x &&& (4294967295#64))*(y >>> 32))) 32 J J J J<|k<|Ia (((x >>> 32)*(y >>> 32))+((((x >>> 32)*(y &&& (4294967295#64)))+(((x &&& (4294967295#64))*(y &&& (4294967295#64))) >>> 32)) >>> 32)) ((((((x >>> 32)*(y &&& (4294967295#64)))+(((x &&& (4294967295#64))*(y &&& (4294967295#64))) >>> 32)) &&& (4294967295#64))+((x &&& (4294967295#64))*(y >>> 32))) >>> 32) J J J J<|ak (v:=ag ((((x >>> 32)*(y >>> 32))+((((x >>> 32)*(y &&& (4294967295#64)))+(((x &&& (4294967295#64))*(y &&& (4294967295#64))) >>> 32)) >>> 32))+((((((x >>> 32)*(y &&& (4294967295#64)))+(((x &&& (4294967295#64))*(y &&& (4294967295#64))) >>> 32)) &&& (4294967295#64))+((x &&& (4294967295#64))*(y >>> 32))) >>> 32))) J J<|bz<|ai J i0<|ai J i1<|k<|Fc x y J J J J<|ak (v:=ag (x*y)) J J<|aq<|rt<|r2 J J J ?_
 have e0:((((x >>> 32)*(y >>> 32))+((((x >>> 32)*(y &&& (4294967295#64)))+(((x &&& (4294967295#64))*(y &&& (4294967295#64))) >>> 32)) >>> 32))+((((((x >>> 32)*(y &&& (4294967295#64)))+(((x &&& (4294967295#64))*(y &&& (4294967295#64))) >>> 32)) &&& (4294967295#64))+((x &&& (4294967295#64))*(y >>> 32))) >>> 32):bt)=0#64:=by exact Zb bV
 have e1:(x*y:bt)=y:=by rw[bV];simp
 have bu:=ny (fun (cq:bt) (dX:bt)=>(.tuple #[ag cq,ag dX]:Value)) e0 e1
 exact⟨bu,H.below⟩
theorem mul (bV:x=1#64):Calls aJ 176 #[ag x,ag y] w (cA fun v w'=>v=.tuple #[ag (0#64),ag y]∧Ext w w'):=by
 refine dH 30 Tryz.func176 J J J pI fun f0 ha H=>?_
 have i0:f0 0=ag x:=ha 0 bm
 have i1:f0 1=ag y:=ha 1 bm
 refine az<|ak (v:=ag (0#64)) J J<|ak (v:=ag (0#64)) J J<|aq<|sq<|nU J J J<|sk<|cV<|ai J i0<|ai J i1<|k ?_
 have bT:=aet (x:=x) (y:=y) (w:=w) aj
 refine ca aeK J (ec J<|ec J e0) bT ?_
 rintro _ w0 ⟨rfl,bY⟩
 have H0:=H.ext bY
 refine ai (v:=.tuple #[ag (0#64),ag y]) J J<|k<|xt J J J<|k<|xt J J J<|ak (v:=ag (0#64)) J J<|ak (v:=ag y) J J<|bz<|ai (v:=ag (0#64)) J J<|ai (v:=ag y) J J<|ak (v:=ag (0#64)) J J<|ak (v:=ag y) J J<|aq<|rt<|r2 J J J ?_
 exact⟨J,H0.below⟩
theorem Pz (hM:eU M w) (acp:cL M w dV dL xs) (LW:aL n) (bV:xs.length=1) (BF:1≤n) (Sn:n≤4096):Calls aJ 154 #[sL dV xs dL,I n] w (cA fun v w'=>∃(a0:OA) (c0:Nat),v=.slice a0 (List.replicate n.toNat (xs.headD 0)).length c0∧Ext w w'∧bj M 3 w (List.replicate n.toNat (xs.headD 0)) (.slice a0 (List.replicate n.toNat (xs.headD 0)).length c0) w'):=by
 refine dH 48 Tryz.func154 J J J hM fun f0 ha H=>?_
 let J0:=iL dV xs dL
 have H0:=H.put (it:=J0) J<|by rw[bS];exact acp
 have Gf:=bl acp
 have i0:f0 0=sL dV xs dL:=ha 0 bm
 have i1:f0 1=I n:=ha 1 bm
 refine az<|ak (v:=.slice none 0 0) J J<|aq<|sq<|az<|ai J i1<|k<|lss J J J J<|z<|nx ?_
 have rH:(decide (n<0))=false:=(by rw[amN];omega)
 refine nU J J rH<|sk<|cV<|ai J i0<|k<|ef J J cS<|k<|OP J J B2 Dv<|ai J i1<|k<|OP J J B2 Dv<|k ?_
 have bT:=mul (x:=(BitVec.ofInt 64 (xs.length:Int))) (y:=(BitVec.ofInt 64 n)) (w:=w)<|by rw[bV];rfl
 refine ca aeO J (ec J<|ec J e0) bT ?_
 rintro _ w0 ⟨rfl,bY⟩
 have H1:=H0.ext bY
 refine ai (v:=.tuple #[ag (0#64),ag (BitVec.ofInt 64 n)]) J J<|k<|xt J J J<|k<|xt J J J<|ak (v:=ag (0#64)) J J<|ak (v:=ag (BitVec.ofInt 64 n)) J J<|aq<|sq<|az<|ai (v:=ag (0#64)) J J<|k<|XR (0#64) (0#64) J J J J<|ai (v:=.bool (decide ((0#64).toNat<(0#64).toNat))) J J ?_
 have Kk:(decide ((0#64).toNat<(0#64).toNat))=false:=au
 refine aQ J J J Kk<|mv (v:=ag (BitVec.ofInt 64 n)) J J<|aQ J J J Kk<|XR (BitVec.ofInt 64 n) (9223372036854775807#64) J J J J<|k<|cZ J J J J Kk J<|z<|nx ?_
 have tr2:(decide ((9223372036854775807#64).toNat<(BitVec.ofInt 64 n).toNat))=false:=(by rw[amN,Hj aj Sn];simp;omega)
 refine nU J J tr2<|sk<|nx<|sq ?_
 have CP:=Hj (n:=n) aj Sn
 refine rg<|ai (v:=ag (BitVec.ofInt 64 n)) J J<|k<|cvI J J aT Dv B2<|k<|mk (m:=(BitVec.ofInt 64 n).toNat) (zx:=(0:Int)) H1 J J J J cS aS (fun _ _=>⟨J,by unfold aL;omega⟩) aj aj ?_
 intro g0 w1 dy (H2:HI M w w1 [own w.heap.size 3 (.slice (some ⟨g0,0,none⟩) ((BitVec.ofInt 64 n).toNat) ((BitVec.ofInt 64 n).toNat)) (List.replicate ((BitVec.ofInt 64 n).toNat) (0:Int)),J0])
 refine ak (v:=.slice (some ⟨g0,0,none⟩) ((BitVec.ofInt 64 n).toNat) ((BitVec.ofInt 64 n).toNat)) J J<|bz<|ai (v:=.slice (some ⟨g0,0,none⟩) ((BitVec.ofInt 64 n).toNat) ((BitVec.ofInt 64 n).toNat)) J J<|ai J i0<|k<|aiS H2 0 J J J J J J (H2.rv 1 J).src cS aS (by have h_:=Hj (n:=n) aj Sn;rw[ot,h_];omega) aj ?_
 intro w2 (H3:HI M w w2 [own w.heap.size 3 (.slice (some ⟨g0,0,none⟩) ((BitVec.ofInt 64 n).toNat) ((BitVec.ofInt 64 n).toNat)) (xs++(List.replicate ((BitVec.ofInt 64 n).toNat) (0:Int)).drop xs.length),J0])
 refine ak (v:=I (xs.length:Int)) J J<|aq<|sq<|bk<|lp (fun m f w'=>∃(q:Nat) (ys:aA),m=n.toNat-q∧f 7=.slice (some ⟨g0,0,none⟩) ((BitVec.ofInt 64 n).toNat) ((BitVec.ofInt 64 n).toNat)∧f 8=I (q:Int)∧HI M w w' [own w.heap.size 3 (.slice (some ⟨g0,0,none⟩) ((BitVec.ofInt 64 n).toNat) ((BitVec.ofInt 64 n).toNat)) ys,J0]∧(1≤q∧q≤n.toNat)∧(ys.length=n.toNat)∧(ys.take q=List.replicate q (xs.headD 0))) _ ⟨1,(xs++(List.replicate ((BitVec.ofInt 64 n).toNat) (0:Int)).drop xs.length),J,J,(bN J),H3,aj,(by exact(It (m:=n.toNat) bV aj<|by rw[ot,CP]).1),(by exact(It (m:=n.toNat) bV aj<|by rw[ot,CP]).2)⟩ ?_
 rintro _ f0 w3 ⟨q,ys,rfl,s0,s1,H4,sI,tX,hs⟩
 refine sq<|az<|ai J s1<|ai J s0<|k<|ef J J cS<|k<|lss J J J J<|z<|nx<|cd (b:=decide ((q:Int)<(((BitVec.ofInt 64 n).toNat):Int))) J J (fun b0=>?_)<|fun b0=>?_
 ·
  have p0:=dT b0
  refine sk<|nx<|bk ?_
  let J1:=own w.heap.size 3 (.slice (some ⟨g0,0,none⟩) ((BitVec.ofInt 64 n).toNat) ((BitVec.ofInt 64 n).toNat)) ys
  have H6:HI M w w3 [J0,J1]:=H4.bZ [1,0] au J
  let J2:=own w.heap.size 3 (.slice (some ⟨g0,0,none⟩) ((BitVec.ofInt 64 n).toNat) ((BitVec.ofInt 64 n).toNat)) (FB ys ((q:Int).toNat))
  refine VR [none,none,none,none,none,none,none,none,none,none,some 7] [0,0,0,6,0,0,48,126,255,511] [fun _=>[],fun _=>[],fun _=>[],fun _=>[],fun _=>[],fun _=>[],fun _=>[],fun v_=>[J2],fun _=>[],fun _=>[],fun _=>[J1]] [[],[],[],[10],[],[],[10],[10],[],[]] [fun v_=>v_=I (q:Int),fun v_=>v_=.slice (some ⟨g0,0,none⟩) ((BitVec.ofInt 64 n).toNat) ((BitVec.ofInt 64 n).toNat),fun v_=>v_=I (q:Int),fun v_=>v_=.slice (l6 (some ⟨g0,0,none⟩) ((BitVec.ofInt 64 n).toNat) (q:Int).toNat) (((BitVec.ofInt 64 n).toNat)-(q:Int).toNat) ((BitVec.ofInt 64 n).toNat-(q:Int).toNat),fun v_=>v_=.slice (some ⟨g0,0,none⟩) ((BitVec.ofInt 64 n).toNat) ((BitVec.ofInt 64 n).toNat),fun v_=>v_=I (q:Int),fun v_=>v_=.slice (l6 (some ⟨g0,0,none⟩) ((BitVec.ofInt 64 n).toNat) 0) ((q:Int).toNat) (BitVec.ofInt 64 n).toNat,fun v_=>v_=I ((min ((q:Int).toNat) (ys.length-((q:Int).toNat)):Nat):Int),fun v_=>v_=I ((q:Int)+((min ((q:Int).toNat) (ys.length-((q:Int).toNat)):Nat):Int)),fun v_=>v_=I ((q:Int)+((min ((q:Int).toNat) (ys.length-((q:Int).toNat)):Nat):Int))] [J0] J aU J H6 ?_ ?_
  ·
   refine⟨fun f1 w5 V_ eG lQ hp0 hq0 H7=>?_,?_⟩
   ·
    have H8:HI M w w5 ([J0]++eG):=(by have h_:HI M w w5 ([J0]++(eG)):=H7;exact h_)
    refine mv J ((hq0 9 _ J J<|by exact .inr rfl).trans s1) ?_
    exact⟨_,J,J,H8⟩
   refine⟨fun f2 w6 V_ eG Gt IU IN dz=>?_,?_⟩
   ·
    have cB:HI M w w6 ([J0]++eG):=(by have h_:HI M w w6 ([J0]++(eG)):=dz;exact h_)
    refine mv J ((Gt 7 J).trans s0) ?_
    exact⟨_,J,J,cB⟩
   refine⟨fun f3 w7 V_ eG gN Sl nt dI=>?_,?_⟩
   ·
    have cU:HI M w w7 ([J0]++eG):=(by have h_:HI M w w7 ([J0]++(eG)):=dI;exact h_)
    refine mv J ((nt 9 _ J J<|by exact .inr rfl).trans s1) ?_
    exact⟨_,J,J,cU⟩
   refine⟨fun f4 w8 V_ eG Ad yI Ei dD=>?_,?_⟩
   ·
    obtain⟨e0,q0⟩:=yI 1 _ rfl rfl rfl
    have e1:V_ 1=.slice (some ⟨g0,0,none⟩) ((BitVec.ofInt 64 n).toNat) ((BitVec.ofInt 64 n).toNat):=q0
    have s2:f4 39=.slice (some ⟨g0,0,none⟩) ((BitVec.ofInt 64 n).toNat) ((BitVec.ofInt 64 n).toNat):=e0.trans e1
    obtain⟨e2,q1⟩:=yI 2 _ rfl rfl rfl
    have e3:V_ 2=I (q:Int):=q1
    have s3:f4 40=I (q:Int):=e2.trans e3
    have cY:HI M w w8 ([J0,J1]++eG):=(by have h_:HI M w w8 ([J0]++([J1]++(eG))):=dD;exact h_)
    refine aaC (cY.at_ 1 J) J J s2 s3 aj cS aS ?_
    exact⟨_,J,J,cY⟩
   refine⟨fun f5 w9 V_ eG Xp Ek Eh dQ=>?_,?_⟩
   ·
    have cQ:HI M w w9 ([J0]++eG):=(by have h_:HI M w w9 ([J0]++(eG)):=dQ;exact h_)
    refine mv J ((Xp 7 J).trans s0) ?_
    exact⟨_,J,J,cQ⟩
   refine⟨fun f6 dP V_ eG hs5 Ou hq5 dO=>?_,?_⟩
   ·
    have fg:HI M w dP ([J0]++eG):=(by have h_:HI M w dP ([J0]++(eG)):=dO;exact h_)
    refine mv J ((hq5 9 _ J J<|by exact .inr rfl).trans s1) ?_
    exact⟨_,J,J,fg⟩
   refine⟨fun f7 eB V_ eG hs6 IT hq6 gS=>?_,?_⟩
   ·
    obtain⟨e4,q2⟩:=IT 4 _ rfl rfl rfl
    have e5:V_ 4=.slice (some ⟨g0,0,none⟩) ((BitVec.ofInt 64 n).toNat) ((BitVec.ofInt 64 n).toNat):=q2
    have s4:f7 42=.slice (some ⟨g0,0,none⟩) ((BitVec.ofInt 64 n).toNat) ((BitVec.ofInt 64 n).toNat):=e4.trans e5
    obtain⟨e6,q3⟩:=IT 5 _ rfl rfl rfl
    have e7:V_ 5=I (q:Int):=q3
    have s5:f7 43=I (q:Int):=e6.trans e7
    have iY:HI M w eB ([J0,J1]++eG):=(by have h_:HI M w eB ([J0]++([J1]++(eG))):=gS;exact h_)
    refine aaD (iY.at_ 1 J) J J s4 s5 aj cS aS ?_
    exact⟨_,J,J,iY⟩
   refine⟨fun f8 fE V_ eG hs7 IS hq7 n5=>?_,?_⟩
   ·
    obtain⟨e8,q4⟩:=IS 3 _ rfl rfl rfl
    have e9:V_ 3=.slice (l6 (some ⟨g0,0,none⟩) ((BitVec.ofInt 64 n).toNat) (q:Int).toNat) (((BitVec.ofInt 64 n).toNat)-(q:Int).toNat) ((BitVec.ofInt 64 n).toNat-(q:Int).toNat):=q4
    have s6:f8 41=.slice (l6 (some ⟨g0,0,none⟩) ((BitVec.ofInt 64 n).toNat) (q:Int).toNat) (((BitVec.ofInt 64 n).toNat)-(q:Int).toNat) ((BitVec.ofInt 64 n).toNat-(q:Int).toNat):=e8.trans e9
    obtain⟨Th,q5⟩:=IS 6 _ rfl rfl rfl
    have rV:V_ 6=.slice (l6 (some ⟨g0,0,none⟩) ((BitVec.ofInt 64 n).toNat) 0) ((q:Int).toNat) (BitVec.ofInt 64 n).toNat:=q5
    have s7:f8 44=.slice (l6 (some ⟨g0,0,none⟩) ((BitVec.ofInt 64 n).toNat) 0) ((q:Int).toNat) (BitVec.ofInt 64 n).toNat:=Th.trans rV
    have jd:HI M w fE ([J0,J1]++eG):=(by have h_:HI M w fE ([J0]++([J1]++(eG))):=n5;exact h_)
    refine aiT jd 1 J J J J (q:=(q:Int).toNat) s6 s7 cS aS aj ?_
    intro iU (tN:HI M w iU ([J0,J2]++eG))
    exact⟨_,J,J,tN⟩
   refine⟨fun f9 jZ V_ eG Xo BE hq8 qp=>?_,?_⟩
   ·
    obtain⟨sP,q6⟩:=BE 0 _ rfl rfl rfl
    have rU:V_ 0=I (q:Int):=q6
    have s8:f9 38=I (q:Int):=sP.trans rU
    obtain⟨tI,q7⟩:=BE 7 _ rfl rfl rfl
    have tH:V_ 7=I ((min ((q:Int).toNat) (ys.length-((q:Int).toNat)):Nat):Int):=q7
    have s9:f9 45=I ((min ((q:Int).toNat) (ys.length-((q:Int).toNat)):Nat):Int):=tI.trans tH
    have kP:HI M w jZ ([J0]++eG):=(by have h_:HI M w jZ ([J0]++(eG)):=qp;exact h_)
    refine add J J s8 s9 aT ?_
    exact⟨_,J,J,kP⟩
   refine⟨fun f10 rn V_ eG hs9 Ej hq9 lA=>?_,?_⟩
   ·
    obtain⟨e16,q8⟩:=Ej 8 _ rfl rfl rfl
    have e17:V_ 8=I ((q:Int)+((min ((q:Int).toNat) (ys.length-((q:Int).toNat)):Nat):Int)):=q8
    have eC:f10 46=I ((q:Int)+((min ((q:Int).toNat) (ys.length-((q:Int).toNat)):Nat):Int)):=e16.trans e17
    have Dm:HI M w rn ([J0]++eG):=(by have h_:HI M w rn ([J0]++(eG)):=lA;exact h_)
    refine jy J eC ?_
    exact⟨_,J,J,Dm⟩
   exact trivial
  ·
   intro f11 zL V_ abQ vU yj
   obtain⟨Tg,q9⟩:=vU 9 _ rfl rfl
   have e19:V_ 9=I ((q:Int)+((min ((q:Int).toNat) (ys.length-((q:Int).toNat)):Nat):Int)):=q9
   have fj:f11 8=I ((q:Int)+((min ((q:Int).toNat) (ys.length-((q:Int).toNat)):Nat):Int)):=Tg.trans e19
   obtain⟨e20,u0⟩:=vU 7 _ rfl rfl
   have e21:V_ 7=I ((min ((q:Int).toNat) (ys.length-((q:Int).toNat)):Nat):Int):=u0
   have fS:=(abQ 7 J).trans s0
   have nn:HI M w zL [J0,J2]:=(by have h_:HI M w zL ([J0]++([]++([]++([]++([]++([]++([]++([]++([J2]++([]++([]++([])))))))))))):=yj;exact h_)
   refine aF ?_
   have zf:HI M w zL [J2,J0]:=nn.bZ [1,0] au J
   refine bG _ ?_ ⟨(q+min q (ys.length-q)),(FB ys<|(q:Int).toNat),J,fS,(bN fj),zf,aj,(by exact(VX aj).trans tX),(by exact Ur hs tX aj)⟩
   omega
 have p0:=dF b0
 refine ex<|aV<|bf<|bh<|cV<|ai J s0<|ak (v:=.slice (some ⟨g0,0,none⟩) ((BitVec.ofInt 64 n).toNat) ((BitVec.ofInt 64 n).toNat)) J J<|aq<|rt<|r1 J J ?_
 have e0:(ys:aA)=List.replicate n.toNat (xs.headD 0):=by exact YW hs tX aj aj
 have l0:((BitVec.ofInt 64 n).toNat)=(List.replicate n.toNat (xs.headD 0)).length:=by rw[ot,CP]
 have bu:=iD (fun (va:Nat)=>(.slice (some ⟨g0,0,none⟩) va ((BitVec.ofInt 64 n).toNat):Value)) l0
 exact⟨(some ⟨g0,0,none⟩),((BitVec.ofInt 64 n).toNat),bu,H4.below,(amz (fun (n_:Nat)=>bj _ _ _ (List.replicate n.toNat<|xs.headD 0) (.slice (some ⟨g0,0,none⟩) n_ ((BitVec.ofInt 64 n).toNat)) _) l0).mp ((amz (fun (x_:aA)=>bj _ _ _ x_ (.slice (some ⟨g0,0,none⟩) ((BitVec.ofInt 64 n).toNat) ((BitVec.ofInt 64 n).toNat)) _) e0).mp (H4.du 0 J))⟩
theorem aeV:cH aJ 154:=cN Tryz.func154
theorem aeU:cH aJ 155:=cN Tryz.func155
theorem RC (hM:eU M w) (hT:fW 0 w) (gk:aL mn) (gB:cL M w bF bD mr) (qS:aL i) (BO:aL j) (b9:bI mn mr=true):Calls aJ 115 #[.agg #[I mn,sL bF mr bD],I i,I j] w (cA fun v w'=>∃(a0:OA) (c0:Nat),v=.tuple #[.slice a0 ((fu mn mr i j).getD []).length c0,.bool ((fu mn mr i j).isSome)]∧Ext w w'∧bj M 3 w ((fu mn mr i j).getD []) (.slice a0 ((fu mn mr i j).getD []).length c0) w'):=by
 refine dH 80 Tryz.func115 J J J hM fun f0 ha H=>?_
 let J0:=iL bF mr bD
 have H0:=H.put (it:=J0) J<|by rw[bS];exact gB
 have np:=bl gB
 have i0:f0 0=.agg #[I mn,sL bF mr bD]:=ha 0 bm
 have i1:f0 1=I i:=ha 1 bm
 have i2:f0 2=I j:=ha 2 bm
 have tX:=(bR b9).1;have I1:=(bR b9).2.2.1;have sN:=kS b9
 refine az<|k<|bx H0 J i0 ?_
 intro aZ w0 bY (H1:HI M w w0 [box aZ #[I mn,sL bF mr bD] 26,J0])
 let J1:=box aZ #[I mn,sL bF mr bD] 26
 refine ak (v:=.slice none 0 0) J J<|ak (v:=.bool false) J J<|aq<|sq<|az<|ai J i1<|k<|lss J J J J<|ai (v:=.bool (decide (i<0))) J J ?_
 rcases bE (decide (i<0)) with b0|b0
 ·
  have p0:=dT b0
  refine aX J J J b0<|aX J J J b0<|aX J J J b0<|aX J J J b0<|k<|aN J J J J b0 J<|ai (v:=.bool true) J J<|aX J J J J<|aX J J J J<|k<|aN J J J J J J<|ai (v:=.bool true) J J<|aX J J J J<|aX J J J J<|aX J J J J<|aX J J J J<|k<|aN J J J J J J<|aq<|oA J J J<|az<|ak (v:=.slice none 0 0) J J<|ak (v:=.bool false) J J<|aq<|rt<|aK<|r2 J J J ?_
  have e0:([]:aA)=(fu mn mr i j).getD []:=by rw[sD aj];rfl
  have e1:(false:Bool)=(fu mn mr i j).isSome:=by rw[sD aj];rfl
  have bu:=ny (fun (cq:aA) (dX:Bool)=>(.tuple #[.slice none cq.length 0,.bool dX]:Value)) e0 e1
  exact⟨none,0,bu,H1.below,(amz (fun (x_:aA)=>bj _ _ _ x_ (.slice none x_.length 0) _) e0).mp (fU H1.below)⟩
 have p0:=dF b0
 refine aQ J J J b0<|mv J i1<|aQ J J J b0<|fa km J J<|aQ J J J b0<|lx H1 0 J aS J J J<|aQ J J J b0<|geq J J J J<|k<|cZ J J J J b0 J<|ai (v:=.bool (decide (mn≤i))) J J ?_
 rcases bE (decide (mn≤i)) with b1|b1
 ·
  have p1:=dT b1
  refine aX J J J b1<|aX J J J b1<|k<|aN J J J J b1 J<|ai (v:=.bool true) J J<|aX J J J J<|aX J J J J<|aX J J J J<|aX J J J J<|k<|aN J J J J J J<|aq<|oA J J J<|az<|ak (v:=.slice none 0 0) J J<|ak (v:=.bool false) J J<|aq<|rt<|aK<|r2 J J J ?_
  have e0:([]:aA)=(fu mn mr i j).getD []:=by rw[sD aj];rfl
  have e1:(false:Bool)=(fu mn mr i j).isSome:=by rw[sD aj];rfl
  have bu:=ny (fun (cq:aA) (dX:Bool)=>(.tuple #[.slice none cq.length 0,.bool dX]:Value)) e0 e1
  exact⟨none,0,bu,H1.below,(amz (fun (x_:aA)=>bj _ _ _ x_ (.slice none x_.length 0) _) e0).mp (fU H1.below)⟩
 have p1:=dF b1
 refine aQ J J J b1<|mv J i2<|aQ J J J b1<|lss J J J J<|k<|cZ J J J J b1 J<|ai (v:=.bool (decide (j<0))) J J ?_
 rcases bE (decide (j<0)) with b2|b2
 ·
  have p2:=dT b2
  refine aX J J J b2<|aX J J J b2<|aX J J J b2<|aX J J J b2<|k<|aN J J J J b2 J<|aq<|oA J J J<|az<|ak (v:=.slice none 0 0) J J<|ak (v:=.bool false) J J<|aq<|rt<|aK<|r2 J J J ?_
  have e0:([]:aA)=(fu mn mr i j).getD []:=by rw[sD aj];rfl
  have e1:(false:Bool)=(fu mn mr i j).isSome:=by rw[sD aj];rfl
  have bu:=ny (fun (cq:aA) (dX:Bool)=>(.tuple #[.slice none cq.length 0,.bool dX]:Value)) e0 e1
  exact⟨none,0,bu,H1.below,(amz (fun (x_:aA)=>bj _ _ _ x_ (.slice none x_.length 0) _) e0).mp (fU H1.below)⟩
 have p2:=dF b2
 refine aQ J J J b2<|mv J i2<|aQ J J J b2<|fa km J J<|aQ J J J b2<|lx H1 0 J aS J J J<|aQ J J J b2<|geq J J J J<|k<|cZ J J J J b2 J<|z<|nx<|cd (b:=decide (mn≤j)) J J (fun b3=>?_)<|fun b3=>?_
 ·
  have p3:=dT b3
  refine az<|ak (v:=.slice none 0 0) J J<|ak (v:=.bool false) J J<|aq<|rt<|aK<|r2 J J J ?_
  have e0:([]:aA)=(fu mn mr i j).getD []:=by rw[sD aj];rfl
  have e1:(false:Bool)=(fu mn mr i j).isSome:=by rw[sD aj];rfl
  have bu:=ny (fun (cq:aA) (dX:Bool)=>(.tuple #[.slice none cq.length 0,.bool dX]:Value)) e0 e1
  exact⟨none,0,bu,H1.below,(amz (fun (x_:aA)=>bj _ _ _ x_ (.slice none x_.length 0) _) e0).mp (fU H1.below)⟩
 have p3:=dF b3
 refine sk<|cV<|k<|bs (xs:=([(-1)]:aA)) (cells:=#[I (-1)]) (e:=3) H1 J (cz J eI) (fun _=>aU) ⟨[I (-1)],[],J,⟨J,(show aL ((-1)) from aT)⟩,J⟩ J au ?_
 intro g0 w1 dy H2
 refine aR km J J<|bq H2 1 J aS J J J<|k ?_
 have H3:=H2.freeze 0 J
 have bT:=Pz (xs:=([(-1)]:aA)) (n:=mn) H3.mb (H3.rv 0 J) gk (by rfl) aj<|by exact(bR b9).2.2.1
 refine ca aeV J (ec J<|ec J e0) bT ?_
 rintro _ w2 ⟨a0,c0,rfl,fe,cE⟩
 have H4:=H3.eS cE
 refine ak (v:=sL a0 (List.replicate mn.toNat<|([(-1)]:aA).headD 0) c0) J J<|aq<|sq ?_
 have CM:((mn.toNat:Nat):Int)=mn:=anf sN
 refine rg<|ai J i1<|k<|bs (xs:=([i]:aA)) (cells:=#[I i]) (e:=3) H4 J (cz J eI) (fun _=>aU) ⟨[I i],[],J,⟨J,qS⟩,J⟩ J au ?_
 intro g1 w3 fA H5
 refine ak (v:=.slice (some ⟨g1,0,none⟩) 1 1) J J<|aq<|sq<|bk ?_
 let J2:=tv (.slice (some ⟨g0,0,none⟩) 1 1) ([(-1)]:aA)
 have H6:HI M w w3 [nC w.heap.size 3 (.slice (some ⟨g1,0,none⟩) 1 1) ([i]:aA),oL w 3 a0 (List.replicate mn.toNat (([(-1)]:aA).headD 0)) c0,J2,J1,J0]:=H5.toQ 0 J
 let bc:=[tv (.slice (some ⟨g0,0,none⟩) 1 1) ([(-1)]:aA),J1,J0]
 refine lp (fun m f w'=>∃(G2:aA) (td:aA) (a1:OA) (c1:Nat),m=G2.count (-1)+td.length∧f 1=I i∧f 2=I j∧f 3=pV aZ 0∧f 8=sL a0 (List.replicate mn.toNat<|([(-1)]:aA).headD 0) c0∧f 9=sL a1 td c1∧HI M w w' (nC w.heap.size 3 (.slice a1 td.length c1) td::own w.heap.size 3 (.slice a0 (List.replicate mn.toNat<|([(-1)]:aA).headD 0).length c0) G2::bc)∧(O6 mn.toNat (gi mr) i j G2 td)∧(G2.length=mn.toNat)∧(G2.count (-1)+td.length≤mn.toNat+1)) _ ⟨(List.replicate mn.toNat<|([(-1)]:aA).headD 0),[i],(some ⟨g1,0,none⟩),1,J,i1,i2,J,J,J,H6,(by exact TI aj aj),bm,(by simp[List.count_replicate_self])⟩ ?_
 rintro _ f0 w4 ⟨G2,td,a1,c1,rfl,s0,s1,s2,s3,s4,H7,hs,hl,BC⟩
 refine sq<|az<|ai J s4<|k<|ef J J cS<|k<|gtr J J J J<|z<|nx<|cd (b:=decide (0<(td.length:Int))) J J (fun b4=>?_)<|fun b4=>?_
 ·
  have p4:=dT b4
  refine sk<|nx<|bk<|az<|ai J s4<|k<|iaQ (H7.at_ 0 J) J J J J aj cS aS ?_
  intro iE x0 aI cD
  refine k<|mV cD aS J J ?_
  intro ep
  refine ak (v:=I x0) J J<|aq<|sq ?_
  have eQ:=adr aj hs aI
  refine rg<|ai J s4<|k<|slQ H7 0 J J J J J aj cS aS ?_
  intro a2 c2 (H8:HI M w w4 [nC w.heap.size 3 (.slice a2 (td.drop 1).length c2) (td.drop 1),own w.heap.size 3 (.slice a0 (List.replicate mn.toNat (([(-1)]:aA).headD 0)).length c0) G2,J2,J1,J0])
  refine ak (v:=sL a2 (td.drop 1) c2) J J<|bz<|aR iw J s2<|bq H8 3 J kX J J J<|ai (v:=I x0) J J<|k<|ia (H8.rv 4 J) J J J J aj ie dt ?_
  intro rb x1 bV gG
  refine k<|wg gG.w dt J J ?_
  intro a3 c3 ei
  have BB:=bl ei
  have H9:=eu H8 ei
  refine k ?_
  have dq:=uu (r:=x1) H9.mb (hT.ext H9.below) (H9.rv 0 J)<|by exact(bR b9).2.1 _ (dN bV)
  refine ca HE J (ec J e0) dq ?_
  rintro _ w5 ⟨a4,c4,rfl,iz,fB⟩
  have dz:=H9.eS fB
  refine k<|ef J J cS<|ai (v:=I 0) J J<|aq<|bk ?_
  let J3:=oL w 3 a4 (de x1) c4
  refine lp (fun m f w'=>∃(q:Nat) (b2:aA) (qx:aA) (a5:OA) (c5:Nat),m=(de x1).length-q∧f 1=I i∧f 2=I j∧f 3=pV aZ 0∧f 8=sL a0 (List.replicate mn.toNat<|([(-1)]:aA).headD 0) c0∧f 9=sL a5 qx c5∧f 10=I x0∧f 50=sL a4 (de x1) c4∧f 51=I ((de x1).length:Int)∧f 52=I (q:Int)∧HI M w w' (J3::iL a3 x1 c3::nC w.heap.size 3 (.slice a5 qx.length c5) qx::own w.heap.size 3 (.slice a0 (List.replicate mn.toNat<|([(-1)]:aA).headD 0).length c0) b2::bc)∧(q≤(de x1).length)∧(EK mn.toNat (gi mr) i j b2 qx x0 q)∧(b2.length=mn.toNat)∧(b2.count (-1)+qx.length≤G2.count (-1)+(td.drop 1).length)) _ ⟨0,G2,(td.drop 1),a2,c2,J,s0,s1,s2,s3,J,J,J,J,(bN J),dz,aj,(by exact Z6 aj hs aI),(by exact hl),aj⟩ ?_
  rintro _ f1 w6 ⟨q,b2,qx,a5,c5,rfl,s5,s6,s7,s8,s9,eC,fj,fT,fS,cB,sI,gN,pj,Vg⟩
  refine az<|k<|lss J J fS fT<|aq<|sq<|cd (b:=decide ((q:Int)<((de x1).length:Int))) J J (fun b5=>?_)<|fun b5=>?_
  ·
   have p5:=dT b5
   refine sk<|nx<|sq<|bk<|az<|k<|iq (cB.at_ 0 J) J J fj fS (by have h_:=mT x1;have jj:=(bR b9).2.2.2.2 _ (dN bV);first|omega|(unfold aL;omega)) cS aS ?_
   intro g2 x2 iC jb kB
   refine k<|mV kB aS J J ?_
   intro ja
   refine ak (v:=I x2) J J<|aq<|sq<|sq ?_
   have Gx:=Rq b9 bV jb
   refine rg<|ai J s8<|ai (v:=I x2) J J<|k<|iq (cB.at_ 3 J) J J J J aj cS aS ?_
   intro g3 x3 kN qI tC
   refine k<|mV tC aS J J ?_
   intro jW
   refine k<|neq J J J J<|z<|nx<|cd (b:=!decide (x3=(-1))) J J (fun b6=>?_)<|fun b6=>?_
   ·
    have p6:=dF<|fX b6
    refine ex<|aV<|bh<|nx<|rg<|k<|add J J fS J (by have h_:=mT x1;have jj:=(bR b9).2.2.2.2 _ (dN bV);first|omega|(unfold aL;omega))<|ai (v:=I ((q:Int)+1)) J J<|z<|bG _ ?_ ⟨(q+1),b2,qx,a5,c5,J,s5,s6,s7,s8,s9,eC,fj,fT,(bN J),cB,aj,(by exact Wg gN (by rw[←zO b9 bV];exact jb) qI aj),(by exact pj),(by exact Vg)⟩
    omega
   have p6:=dT<|fl b6
   refine sk<|cV<|ai J s8<|ai (v:=I x2) J J<|ai J eC<|k<|iq (cB.at_ 3 J) J J J J aj cS aS ?_
   intro g4 x4 BD Ab ud
   refine k<|qf cB 3 J BD J aj aS J J J J (RV.int.2 ⟨J,aT⟩) ?_
   let J4:=own w.heap.size 3 (.slice a0 (List.replicate mn.toNat (([(-1)]:aA).headD 0)).length c0) (b2.set x2.toNat x0)
   intro w7 (dx:HI M w w7 [J3,iL a3 x1 c3,nC w.heap.size 3 (.slice a5 qx.length c5) qx,J4,J2,J1,J0])
   refine aq<|sq<|az<|ai (v:=I x2) J J<|ai J s6<|k<|eql J J J J<|z<|nx<|cd (b:=decide (x2=j)) J J (fun b7=>?_)<|fun b7=>?_
   ·
    have p7:=dT b7
    refine sq ?_
    obtain⟨w_,abE,Vi⟩:=TH ⟨by omega,by omega⟩ gN (by rw[←zO b9 bV];exact jb) qI aj bo aj
    have P2:=adq abE
    refine rg<|ai J s8<|ai J s5<|ai J s6<|k ?_
    have S':((List.replicate mn.toNat (([(-1)]:aA).headD 0)).length:Nat)=(b2.set x2.toNat x0).length:=K1<|dx.at_ 3 J
    let ck:=[tv (.slice (some ⟨g0,0,none⟩) 1 1) ([(-1)]:aA),box aZ #[I mn,sL bF mr bD] 26,iL bF mr bD]
    have dI:HI M w w7 (oL w 3 a4 (de x1) c4::iL a3 x1 c3::nC w.heap.size 3 (.slice a5 qx.length c5) qx::oL w 3 a0 (b2.set x2.toNat x0) c0::ck):=(by have h_:HI M w w7 (oL w 3 a4 (de x1) c4::iL a3 x1 c3::nC w.heap.size 3 (.slice a5 qx.length c5) qx::own w.heap.size 3 (.slice a0 (List.replicate mn.toNat<|([(-1)]:aA).headD 0).length c0) (b2.set x2.toNat x0)::ck):=dx;rw[S'] at h_;exact h_)
    have cU:=dI.freeze 3 J
    have fP:=RB (vb:=(b2.set x2.toNat x0)) (i:=i) (j:=j) cU.mb (cU.rv 3 J) qS BO (by rw[P2];exact abE)<|by have h_:=FJ (FH Vi) aj;rw[P2];unfold rC;rw[ane];omega
    refine ca aeU J (ec (Eq.trans (b:=(.slice a0 (List.replicate mn.toNat<|([(-1)]:aA).headD 0).length c0:Value)) rfl (amz (fun n_=>Value.slice a0 n_ c0) S'))<|ec J<|ec J e0) fP ?_
    rintro _ w8 ⟨a6,c6,rfl,jh,iH⟩
    have d_:=cU.eS iH
    refine ak (v:=sL a6 (vC (b2.set x2.toNat x0) i j) c6) J J<|ak (v:=.bool true) J J<|aq<|rt<|aK<|bU<|aK<|ee<|bU<|bU<|ee<|bU<|aK<|r2 J J J ?_
    have e0:(vC (b2.set x2.toNat x0) i j:aA)=(fu mn mr i j).getD []:=by rw[zU aj,Vi];first|exact P2|rfl
    have e1:(true:Bool)=(fu mn mr i j).isSome:=by rw[zU aj,Vi];first|exact P2|rfl
    have bu:=ny (fun (cq:aA) (dX:Bool)=>(.tuple #[.slice a6 cq.length c6,.bool dX]:Value)) e0 e1
    exact⟨a6,c6,bu,d_.below,(amz (fun (x_:aA)=>bj _ _ _ x_ (.slice a6 x_.length c6) _) e0).mp (d_.du 0 J)⟩
   have p7:=dF b7
   refine sk<|cV<|ai (v:=I x2) J J<|ai J s5<|k<|neq J J J J<|z<|nx<|cd (b:=!decide (x2=i)) J J (fun b8=>?_)<|fun b8=>?_
   ·
    have p8:=dF<|fX b8
    refine rg<|ai J s9<|ai (v:=I x2) J J<|k<|bs (xs:=([x2]:aA)) (cells:=#[I x2]) (e:=3) dx J (cz J eI) (fun _=>aU) ⟨[I x2],[],J,⟨J,(show aL (x2) from aT)⟩,J⟩ J au ?_
    intro g5 w8 jh dI
    refine k<|apQ dI 3 J J J J J J (ib<|dI.at_ 0 J) bm cS aS J (by (simp only[iB,gj];have h_:=amZ (l:=td) (i:=1);omega)) (by (simp only[iB,gj];have h_:=amZ (l:=td) (i:=1);omega)) ?_
    intro a6 c6 w9 (cU:HI M w w9 [own w.heap.size 3 (.slice (some ⟨g5,0,none⟩) 1 1) ([x2]:aA),J3,iL a3 x1 c3,nC w.heap.size 3 (.slice a6 (qx++([x2]:aA)).length c6) (qx++([x2]:aA)),J4,J2,J1,J0])
    refine ak (v:=sL a6 (qx++([x2]:aA)) c6) J J<|z<|aF<|nx<|rg<|k<|add J J fS J (by have h_:=mT x1;have jj:=(bR b9).2.2.2.2 _ (dN bV);first|omega|(unfold aL;omega))<|ai (v:=I ((q:Int)+1)) J J<|z ?_
    have d_:HI M w w9 [J3,iL a3 x1 c3,nC w.heap.size 3 (.slice a6 (qx++([x2]:aA)).length c6) (qx++([x2]:aA)),J4,J2,J1,J0]:=cU.bZ [1,2,3,4,5,6,7] au J
    refine bG _ ?_ ⟨(q+1),(b2.set x2.toNat x0),(qx++([x2]:aA)),a6,c6,J,s5,s6,s7,s8,J,eC,fj,fT,(bN J),d_,aj,(by exact Wh gN (by rw[←zO b9 bV];exact jb) qI aj bo bo aj aj),(by rw[amA];exact pj),(by exact(Gb qI aj aj Vg).2)⟩
    omega
   have p8:=dT<|fl b8
   refine sk<|aF<|nx<|rg<|k<|add J J fS J (by have h_:=mT x1;have jj:=(bR b9).2.2.2.2 _ (dN bV);first|omega|(unfold aL;omega))<|ai (v:=I ((q:Int)+1)) J J<|z<|bG _ ?_ ⟨(q+1),(b2.set x2.toNat x0),qx,a5,c5,J,s5,s6,s7,s8,s9,eC,fj,fT,(bN J),dx,aj,(by exact afs gN (by rw[←zO b9 bV];exact jb) qI aj bo aj aj),(by rw[amA];exact pj),(by exact(Gb qI aj aj Vg).1)⟩
   omega
  have p5:=dF b5
  refine ex<|aV<|bf<|bh<|aF ?_
  have dx:HI M w w6 [nC w.heap.size 3 (.slice a5 qx.length c5) qx,own w.heap.size 3 (.slice a0 (List.replicate mn.toNat (([(-1)]:aA).headD 0)).length c0) b2,J2,J1,J0]:=cB.bZ [2,3,4,5,6] au J
  refine bG _ ?_ ⟨b2,qx,a5,c5,J,s5,s6,s7,s8,s9,dx,(by exact Wi gN (by rw[←zO b9 bV];omega)),(by exact pj),(by have h_:=amZ (l:=td) (i:=1);omega)⟩
  have h_:=amZ (l:=td) (i:=1);omega
 have p4:=dF b4
 refine ex<|aV<|bf<|bh<|cV<|ak (v:=.slice none 0 0) J J<|ak (v:=.bool false) J J<|aq<|rt<|r2 J J J ?_
 have e0:([]:aA)=(fu mn mr i j).getD []:=by rw[zU aj,OZ hs (NB bo)];try rfl
 have e1:(false:Bool)=(fu mn mr i j).isSome:=by rw[zU aj,OZ hs (NB bo)];try rfl
 have bu:=ny (fun (cq:aA) (dX:Bool)=>(.tuple #[.slice none cq.length 0,.bool dX]:Value)) e0 e1
 exact⟨none,0,bu,H7.below,(amz (fun (x_:aA)=>bj _ _ _ x_ (.slice none x_.length 0) _) e0).mp (fU H7.below)⟩
theorem lR:gv aJ 142 1 3:=js Tryz.underlying142
theorem nA:ey aJ 31 1 false 24 (.slice none 0 0):=⟨aU,aU⟩
theorem AG:ey aJ 175 5 true 40 (.agg #[.int .i64 0,.int .i64 0,.int .i64 0,.int .i64 0,.int .i64 0]):=⟨aU,aU⟩
theorem Kh:aJ.underlying 31=some (.slice 175):=aU
theorem DP:gv aJ 142 2 4:=js Tryz.underlying142
theorem Jz:ey aJ 139 1 false 8 (.map none):=⟨aU,aU⟩
theorem OF:gv aJ 175 1 1:=js Tryz.underlying175
theorem OE:gv aJ 175 2 2:=js Tryz.underlying175
theorem aei:Jg aJ 170 [some (0,0),some (1,0)]:=⟨aU,aU,aU,aU⟩
theorem JC:Ig aJ 139:=U4 (by kernel_rfl:aJ.underlying 139=some (.map 170 3)) (zm aei) aS
theorem HK:gv aJ 142 0 0:=js Tryz.underlying142
theorem JL:cH aJ 117:=cN Tryz.func117
theorem rj:gv aJ 142 3 5:=js Tryz.underlying142
theorem afa:cH aJ 115:=cN Tryz.func115
theorem X0:cH aJ 116:=cN Tryz.func116
theorem Na (gk:aL mn) (H:HI M w w_ ([iL aw U av,iL ay fo ax,iL bF mr bD]++r)):Calls aJ 78 #[.agg #[.slice aC aD aB,sL aw U av,sL ay fo ax],.agg #[I mn,sL bF mr bD]] w_ (cA fun v w'=>∃(Yc:Nat) (a0:OA) (c0:Nat) (b1:Nat) (b2:Nat),v=pV Yc 0∧HI M w w' ([box Yc #[.slice aC aD aB,sL aw U av,sL ay fo ax,.slice a0 ([]:List cT).length c0,.map (some b1),I mn,sL bF mr bD,.map (some b2)] 142,oL w 175 a0 ([]:List cT) c0,cj b1 ([]:KV),bX b2 ([]:List ((Int×Int)×Bool)),iL aw U av,iL ay fo ax,iL bF mr bD]++r)):=by
 refine enter 11 Tryz.func78 J J J fun f0 ha=>?_
 have iS:=bl<|H.rv 0 J
 have kM:=bl<|H.rv 1 J
 have np:=bl<|H.rv 2 J
 have i0:f0 0=.agg #[.slice aC aD aB,sL aw U av,sL ay fo ax]:=ha 0 bm
 have i1:f0 1=.agg #[I mn,sL bF mr bD]:=ha 1 bm
 refine az<|k<|bx H J i0 ?_
 let J1:=iL aw U av
 let J2:=iL ay fo ax
 let J3:=iL bF mr bD
 let bc:=[J1,J2,J3]
 intro aZ w0 bY (H0:HI M w w0 ((box aZ #[.slice aC aD aB,sL aw U av,sL ay fo ax] 47::bc)++r))
 let J0:=box aZ #[.slice aC aD aB,sL aw U av,sL ay fo ax] 47
 refine k<|bx H0 J i1 ?_
 intro ba w1 dy (H1:HI M w w1 ((box ba #[I mn,sL bF mr bD] 26::J0::bc)++r))
 let J4:=box ba #[I mn,sL bF mr bD] 26
 refine ak (v:=.pointer none) J J<|bz<|k<|cI H1 1 J ej J J au J<|k<|mm H1 ?_
 intro dK w2 fe (H2:HI M w w2 ((cj dK ([]:KV)::J4::J0::bc)++r))
 refine k<|cI H2 1 J bp J J au J<|k<|mmP H2 ?_
 let ck:=cj dK ([]:KV)::J4::J0::bc
 intro fV w3 fA (H3:HI M w w3 ((bX fV ([]:List ((Int×Int)×Bool))::ck)++r))
 refine k<|bd (v:=.agg #[.slice aC aD aB,sL aw U av,sL ay fo ax,.slice none 0 0,.map (some dK),I mn,sL bF mr bD,.map (some fV)]) J (cz J<|cz J<|cz J<|cz J eI) (fun _=>aU)<|k<|bx H3 J J ?_
 let dY:=bX fV ([]:List ((Int×Int)×Bool))::ck
 intro bL w4 iz (H4:HI M w w4 ((box bL #[.slice aC aD aB,sL aw U av,sL ay fo ax,.slice none 0 0,.map (some dK),I mn,sL bF mr bD,.map (some fV)] 142::dY)++r))
 let J5:=box bL #[.slice aC aD aB,sL aw U av,sL ay fo ax,.slice none 0 0,.map (some dK),I mn,sL bF mr bD,.map (some fV)] 142
 refine ak (v:=pV bL 0) J J<|aq<|rt<|r1 J J ?_
 have H5:=H4.rB cT 175
 let J6:=own w.heap.size 175 (.slice none 0 0) ([]:List cT)
 have H6:=HI.aN (l:=(J6::J5::dY)) (l':=[J5,J6,cj dK ([]:KV),bX fV ([]:List ((Int×Int)×Bool)),J1,J2,J3]) (t:=r) H5 [1,0,3,2,6,7,8] au J J
 have e0:(([]:List cT):List cT)=([]:List cT):=rfl
 try rw[←e0]
 refine⟨bL,none,0,dK,fV,?_,?_⟩
 · first|rfl|simp only[e0]|(simp only[amA])
 · first|exact H6|simpa +zetaDelta only[e0,amA] using H6
theorem yr {k_:Int} {g_:Int} {h_:Int} (qR:aL pn) (ah0:aL k_) (Fq:aL f_) (HD:aL t_) (ah2:aL g_) (ah1:aL h_) (HA:sp.length≤3000000000000) (H:HI M w w_ ([box df #[.slice aC aD aB,sL aw U av,sL ay fo ax,sL eF sp eE,.map (some bC),I pn,sL dp pr dm,.map (some bK)] 142,iL aw U av,iL ay fo ax,oL w 175 eF sp eE,cj bC mp,iL dp pr dm,bX bK mq]++r)):Calls aJ 117 #[pV df 0,.agg #[I k_,I f_,I t_,I g_,I h_]] w_ (cA fun v w'=>∃(nZ:OA) (nX:Nat),v=I ((sp.length:Nat):Int)∧HI M w w' ([box df #[.slice aC aD aB,sL aw U av,sL ay fo ax,.slice nZ (sp++[(k_,f_,t_,g_,h_)]).length nX,.map (some bC),I pn,sL dp pr dm,.map (some bK)] 142,iL aw U av,iL ay fo ax,oL w 175 nZ (sp++[(k_,f_,t_,g_,h_)]) nX,cj bC (jn mp (f_,t_) ((sp.length:Nat):Int)),iL dp pr dm,bX bK mq]++r)):=by
 refine enter 33 Tryz.func117 J J J fun f0 ha=>?_
 have iS:=bl<|H.rv 1 J
 have kM:=bl<|H.rv 2 J
 have DE:=kf<|H.at_ 3 J
 have DG:=bl<|H.rv 5 J
 have i0:f0 0=pV df 0:=ha 0 bm
 have i1:f0 1=.agg #[I k_,I f_,I t_,I g_,I h_]:=ha 1 bm
 have ab8:(sp++[(k_,f_,t_,g_,h_)]).length=sp.length+1:=by simp
 refine az<|k<|bx H J i1 ?_
 let J1:=box df #[.slice aC aD aB,sL aw U av,sL ay fo ax,sL eF sp eE,.map (some bC),I pn,sL dp pr dm,.map (some bK)] 142
 let J2:=iL aw U av
 let J3:=iL ay fo ax
 let J4:=iL dp pr dm
 let bc:=[cj bC mp,J4,bX bK mq]
 intro aZ w0 bY (H0:HI M w w0 ((box aZ #[I k_,I f_,I t_,I g_,I h_] 175::J1::J2::J3::oL w 175 eF sp eE::bc)++r))
 let J0:=box aZ #[I k_,I f_,I t_,I g_,I h_] 175
 refine ak (v:=I 0) J J<|aq<|sq<|ma [.s,.r,.r,.r,.r,.r,.r,.e,.f,.f,.e] (fun _=>True) J aU (fun _ _=>trivial)<|yq J J<|kq (fun _ _=>mv J i0 e1)<|bQ<|kq (fun _ _=>mv J i0 e1)<|bQ<|kq (fun _ _=>nc J J e1)<|bQ<|kq (fun _ _=>fa lR J J e1)<|bQ<|kq (fun _ x_=>lx (H0.ext x_) 1 J nA J J J e1)<|bQ<|kq (fun _ x_=>cI (H0.ext x_) 0 J AG J J au J e1)<|zq<|yu J (fun _ v w'=>∃(a0:OA) (c0:Nat),v=sL a0 ([(k_,f_,t_,g_,h_)]:List cT) c0∧RV H0.gh w' (sL a0 ([(k_,f_,t_,g_,h_)]:List cT) c0) ([(k_,f_,t_,g_,h_)]:List cT)) J od J (fun v_ N_ x_ n_=>?_) ?_
 ·
  have H3:=H0.ext x_
  refine bs (xs:=([(k_,f_,t_,g_,h_)]:List cT)) (cells:=#[I k_,I f_,I t_,I g_,I h_]) (e:=175) H3 J (cz J eI) (fun _=>aU) ⟨[I k_,I f_,I t_,I g_,I h_],[],J,⟨_,_,J,⟨J,ah0⟩,⟨_,_,J,⟨J,Fq⟩,⟨_,_,J,⟨J,HD⟩,⟨_,_,J,⟨J,ah2⟩,⟨J,ah1⟩⟩⟩⟩⟩,J⟩ J au ?_
  intro g1 w2 fe (H4:HI M w w2 ((own w.heap.size 175 (.slice (some ⟨g1,0,none⟩) 1 1) ([(k_,f_,t_,g_,h_)]:List cT)::J0::J1::J2::J3::oL w 175 eF sp eE::bc)++r))
  have H5:=H4.freeze 0 J
  exact⟨_,J,fe,⟨(some ⟨g1,0,none⟩),1,J,(mJ J<|H5.rv 0 J)⟩⟩
 refine ye<|yf J (fun _ _=>nc J J e3)<|yf J (fun _ _=>fa lR J J e3)<|ye<|yz ?_
 intro w3 f0 _ fA _ _ cK iK
 have H6:=H0.ext fA
 have s0:=(cK 0 J).trans i0
 have s1:=cK 3 J
 have s2:=cK 10 J
 obtain⟨a1,c1,s3,ep⟩:=iK 0 _ _ rfl
 let J5:=iL a1 ([(k_,f_,t_,g_,h_)]:List cT) c1
 have H7:=H6.put (it:=J5) J ep
 have s4:=cK 15 J
 refine j8<|me H7 5 J J J J s2 s3 (H7.rv 0 J).src Kh AG J (by simp only[iB,gj];omega) J ?_
 intro a2 c2 w4 (H9:HI M w w4 ((J5::J0::J1::J2::J3::oL w 175 a2 (sp++([(k_,f_,t_,g_,h_)]:List cT)) c2::bc)++r))
 let J6:=oL w 175 a2 (sp++([(k_,f_,t_,g_,h_)]:List cT)) c2
 refine j8<|bw H9 2 J nA J J s4 J J J J ?_
 let J7:=box df #[.slice aC aD aB,sL aw U av,sL ay fo ax,sL a2 (sp++([(k_,f_,t_,g_,h_)]:List cT)) c2,.map (some bC),I pn,sL dp pr dm,.map (some bK)] 142
 intro w5 (dz:HI M w w5 ((J5::J0::J7::J2::J3::J6::bc)++r))
 refine kz<|cV<|ai J s0<|k<|nc J J<|aR lR J J<|bq dz 2 J nA J J J<|k<|ef J J Kh<|k<|sub J J J J aT<|ak (v:=I (((sp++([(k_,f_,t_,g_,h_)]:List cT)).length:Int)-1)) J J<|aq<|sq<|ma [.r,.r,.r,.r,.r,.r,.r,.r,.r,.r,.e] (fun _=>True) J aU (fun _ _=>trivial)<|yq J J<|kq (fun _ _=>mv J s0 e1)<|bQ<|kq (fun _ _=>nc J J e1)<|bQ<|kq (fun _ _=>fa DP J J e1)<|bQ<|kq (fun _ x_=>lx (dz.ext x_) 2 J Jz J J J e1)<|bQ<|kq (fun _ _=>fa OF J s1 e1)<|bQ<|kq (fun _ x_=>lx (dz.ext x_) 1 J aS J J J e1)<|bQ<|kq (fun _ _=>fa OE J s1 e1)<|bQ<|kq (fun _ x_=>lx (dz.ext x_) 1 J aS J J J e1)<|bQ<|kq (fun _ _=>bd (v:=.agg #[I f_,I t_]) J (cz J<|cz J eI) (fun _=>aU) e1)<|bQ<|kq (fun _ _=>mv (v:=I (((sp++([(k_,f_,t_,g_,h_)]:List cT)).length:Int)-1)) J J e1)<|zq<|ye<|yz ?_
 intro w6 f1 _ iz _ _ fJ Ac
 have cB:=dz.ext iz
 have s5:=fJ 5 J
 have s6:=fJ 25 J
 have s7:=fJ 30 J
 have s8:=fJ 31 J
 refine j8<|W4 (k:=(f_,t_)) JC cB 6 J J J J s6 s7 s8 aT ?_
 let J8:=cj bC (jn mp (f_,t_) (((sp++([(k_,f_,t_,g_,h_)]:List cT)).length:Int)-1))
 let ck:=[J7,J2,J3,J6,J8,J4,bX bK mq]
 intro w7 (dx:HI M w w7 ((J5::J0::ck)++r))
 refine kz<|cV<|ai J s5<|ak (v:=I (((sp++([(k_,f_,t_,g_,h_)]:List cT)).length:Int)-1)) J J<|aq<|rt<|r1 J J ?_
 have dI:=HI.aN (l:=(J5::J0::ck)) (l':=ck) (t:=r) dx [2,3,4,5,6,7,8] au J J
 have e0:(((sp++([(k_,f_,t_,g_,h_)]:List cT)).length:Int)-1:Int)=((sp.length:Nat):Int):=by rw[ab8];omega
 have e1:((sp++([(k_,f_,t_,g_,h_)]:List cT)):List _)=(sp++[(k_,f_,t_,g_,h_)]):=rfl
 have e2:(jn mp (f_,t_) (((sp++([(k_,f_,t_,g_,h_)]:List cT)).length:Int)-1):KV)=(jn mp (f_,t_) ((sp.length:Nat):Int)):=by rw[ab8];congr 1;omega
 try rw[←e0]
 try rw[←e1]
 try rw[←e2]
 refine⟨a2,c2,?_,?_⟩
 · first|rfl|simp only[e0,e1,e2]|(simp only[amA])
 · first|exact dI|simpa +zetaDelta only[e0,e1,e2,amA] using dI
theorem F5 (qR:aL pn) (Fq:aL f_) (HD:aL t_) (HA:sp.length≤2900000000000) (ht_:0≤t_∧t_<((fo.length:Nat):Int)) (H:HI M w w_ ([box df #[.slice aC aD aB,sL aw U av,sL ay fo ax,sL eF sp eE,.map (some bC),I pn,sL dp pr dm,.map (some bK)] 142,iL aw U av,iL ay fo ax,oL w 175 eF sp eE,cj bC mp,iL dp pr dm,bX bK mq]++r)):Calls aJ 116 #[pV df 0,I f_,I t_] w_ (cA fun v w'=>∃(ix:Int) (sZ:List cT) (Gd:KV) (nZ:OA) (nX:Nat),v=I ix∧HI M w w' ([box df #[.slice aC aD aB,sL aw U av,sL ay fo ax,sL nZ sZ nX,.map (some bC),I pn,sL dp pr dm,.map (some bK)] 142,iL aw U av,iL ay fo ax,oL w 175 nZ sZ nX,cj bC Gd,iL dp pr dm,bX bK mq]++r)∧sZ.length≤sp.length+1∧aL ix):=by
 refine enter 39 Tryz.func116 J J J fun f0 ha=>?_
 have iS:=bl<|H.rv 1 J
 have kM:=bl<|H.rv 2 J
 have DE:=kf<|H.at_ 3 J
 have DG:=bl<|H.rv 5 J
 have i0:f0 0=pV df 0:=ha 0 bm
 have i1:f0 1=I f_:=ha 1 bm
 have i2:f0 2=I t_:=ha 2 bm
 refine az<|ak (v:=I 0) J J<|aq<|sq<|az<|ai J i0<|k<|nc J J<|aR DP J J<|bq H 0 J Jz J J J<|ai J i1<|ai J i2<|k<|bd (v:=.agg #[I f_,I t_]) J (cz J<|cz J eI) (fun _=>aU)<|k<|W8 (k:=(f_,t_)) JC H 4 J J J J J ?_
 intro cE
 refine ai (v:=.tuple #[I ((getM mp (f_,t_)).getD 0),.bool ((getM mp (f_,t_)).isSome)]) J J<|k<|xt J J J<|k<|xt J J J<|ak (v:=I ((getM mp (f_,t_)).getD 0)) J J<|ak (v:=.bool ((getM mp (f_,t_)).isSome)) J J<|bz<|ai (v:=.bool ((getM mp (f_,t_)).isSome)) J J<|z<|nx<|cd (b:=(getM mp (f_,t_)).isSome) J J (fun b0=>?_)<|fun b0=>?_
 ·
  refine az<|ai (v:=I ((getM mp (f_,t_)).getD 0)) J J<|ak (v:=I ((getM mp (f_,t_)).getD 0)) J J<|aq<|rt<|aK<|r1 J J ?_
  have e0:((getM mp (f_,t_)).getD 0:Int)=((getM mp (f_,t_)).getD 0):=rfl
  try rw[←e0]
  refine⟨((getM mp (f_,t_)).getD 0),sp,mp,eF,eE,?_,?_,aj,bo⟩
  · first|rfl|simp only[e0]|(simp only[amA])
  · first|exact H|simpa +zetaDelta only[e0,amA] using H
 refine sk<|cV<|ak (v:=I 1) J J<|aq<|sq<|az<|ai J i0<|k<|nc J J<|aR HK J J<|aR tG J J<|bq H 0 J qv J J J<|ai J i2<|k<|ia (H.rv 2 J) J J J J aj cS aS ?_
 intro iE x0 aI cD
 refine k<|mV cD.w aS J J ?_
 intro ep
 refine ai J i1<|k<|eql J J J J<|z<|nx<|cd (b:=decide (x0=f_)) J J (fun b1=>?_)<|fun b1=>?_
 ·
  refine rg<|ak (v:=I 2) J J<|bz<|ai J i0<|ai (v:=I 2) J J<|ai J i1<|ai J i2<|k<|bd (v:=.agg #[I 2,I f_,I t_,I (-1),I (-1)]) J (cz J<|cz J<|cz J<|cz J<|cz J eI) (fun _=>aU)<|k ?_
  let J0:=box df #[.slice aC aD aB,sL aw U av,sL ay fo ax,sL eF sp eE,.map (some bC),I pn,sL dp pr dm,.map (some bK)] 142
  let bc:=[J0,iL aw U av,iL ay fo ax,oL w 175 eF sp eE,cj bC mp,iL dp pr dm,bX bK mq]
  have H0:HI M w w_ (bc++([]++r)):=HI.aN (l:=bc) (l':=bc) (t:=r) H [0,1,2,3,4,5,6] au J J
  have bT:=yr (df:=df) (aC:=aC) (aD:=aD) (aB:=aB) (aw:=aw) (av:=av) (U:=U) (ay:=ay) (ax:=ax) (fo:=fo) (eF:=eF) (eE:=eE) (sp:=sp) (bC:=bC) (mp:=mp) (pn:=pn) (dp:=dp) (dm:=dm) (pr:=pr) (bK:=bK) (mq:=mq) (k_:=2) (f_:=f_) (t_:=t_) (g_:=(-1)) (h_:=(-1)) (w:=w) (w_:=w_) (r:=([]++r)) (M:=M) qR aT Fq HD aT aT aj H0
  refine ca JL J (ec J<|ec J e0) bT ?_
  rintro _ w0 ⟨a0,c0,rfl,H1⟩
  have H2:HI M w w0 ([box df #[.slice aC aD aB,sL aw U av,sL ay fo ax,sL a0 (sp++[(2,f_,t_,(-1),(-1))]) c0,.map (some bC),I pn,sL dp pr dm,.map (some bK)] 142,iL aw U av,iL ay fo ax,oL w 175 a0 (sp++[(2,f_,t_,(-1),(-1))]) c0,cj bC (jn mp (f_,t_) ((sp.length:Nat):Int)),iL dp pr dm,bX bK mq]++r):=H1
  refine ak (v:=I ((sp.length:Nat):Int)) J J<|aq<|rt<|r1 J J ?_
  refine⟨((sp.length:Nat):Int),(sp++[(2,f_,t_,(-1),(-1))]),(jn mp (f_,t_) ((sp.length:Nat):Int)),a0,c0,?_,?_,(by simp only[fN,iB,gj];omega),aT⟩
  · first|rfl|simp only[amA]
  · first|exact H2|simpa +zetaDelta only[amA] using H2
 refine sk<|cV<|ai J i0<|ai (v:=I 1) J J<|ai J i1<|ai J i2<|k<|bd (v:=.agg #[I 1,I f_,I t_,I (-1),I (-1)]) J (cz J<|cz J<|cz J<|cz J<|cz J eI) (fun _=>aU)<|k ?_
 let J1:=box df #[.slice aC aD aB,sL aw U av,sL ay fo ax,sL eF sp eE,.map (some bC),I pn,sL dp pr dm,.map (some bK)] 142
 let ck:=[J1,iL aw U av,iL ay fo ax,oL w 175 eF sp eE,cj bC mp,iL dp pr dm,bX bK mq]
 have H0:HI M w w_ (ck++([]++r)):=HI.aN (l:=ck) (l':=ck) (t:=r) H [0,1,2,3,4,5,6] au J J
 have bT:=yr (df:=df) (aC:=aC) (aD:=aD) (aB:=aB) (aw:=aw) (av:=av) (U:=U) (ay:=ay) (ax:=ax) (fo:=fo) (eF:=eF) (eE:=eE) (sp:=sp) (bC:=bC) (mp:=mp) (pn:=pn) (dp:=dp) (dm:=dm) (pr:=pr) (bK:=bK) (mq:=mq) (k_:=1) (f_:=f_) (t_:=t_) (g_:=(-1)) (h_:=(-1)) (w:=w) (w_:=w_) (r:=([]++r)) (M:=M) qR aT Fq HD aT aT aj H0
 refine ca JL J (ec J<|ec J e0) bT ?_
 rintro _ w0 ⟨a0,c0,rfl,H1⟩
 have H2:HI M w w0 ([box df #[.slice aC aD aB,sL aw U av,sL ay fo ax,sL a0 (sp++[(1,f_,t_,(-1),(-1))]) c0,.map (some bC),I pn,sL dp pr dm,.map (some bK)] 142,iL aw U av,iL ay fo ax,oL w 175 a0 (sp++[(1,f_,t_,(-1),(-1))]) c0,cj bC (jn mp (f_,t_) ((sp.length:Nat):Int)),iL dp pr dm,bX bK mq]++r):=H1
 refine ak (v:=I ((sp.length:Nat):Int)) J J<|aq<|rt<|r1 J J ?_
 refine⟨((sp.length:Nat):Int),(sp++[(1,f_,t_,(-1),(-1))]),(jn mp (f_,t_) ((sp.length:Nat):Int)),a0,c0,?_,?_,(by simp only[fN,iB,gj];omega),aT⟩
 · first|rfl|simp only[amA]
 · first|exact H2|simpa +zetaDelta only[amA] using H2
theorem mC (qR:aL pn) (Fq:aL f_) (HD:aL t_) (hT:fW 0 w) (HA:sp.length≤2800000000000) (IP:pn=((U.length:Nat):Int)) (ahA:fo.length=U.length) (ahB:U.length≤64) (uo:bI pn pr=true) (H:HI M w w_ ([box df #[.slice aC aD aB,sL aw U av,sL ay fo ax,sL eF sp eE,.map (some bC),I pn,sL dp pr dm,.map (some bK)] 142,iL aw U av,iL ay fo ax,oL w 175 eF sp eE,cj bC mp,iL dp pr dm,bX bK mq]++r)):Calls aJ 79 #[pV df 0,I f_,I t_] w_ (cA fun v w'=>∃(ix:Int) (sZ:List cT) (Gd:KV) (nZ:OA) (nX:Nat),v=I ix∧HI M w w' ([box df #[.slice aC aD aB,sL aw U av,sL ay fo ax,sL nZ sZ nX,.map (some bC),I pn,sL dp pr dm,.map (some bK)] 142,iL aw U av,iL ay fo ax,oL w 175 nZ sZ nX,cj bC Gd,iL dp pr dm,bX bK mq]++r)∧sZ.length≤sp.length+200∧aL ix):=by
 refine enter 75 Tryz.func79 J J J fun f0 ha=>?_
 have iS:=bl<|H.rv 1 J
 have kM:=bl<|H.rv 2 J
 have DE:=kf<|H.at_ 3 J
 have DG:=bl<|H.rv 5 J
 have i0:f0 0=pV df 0:=ha 0 bm
 have i1:f0 1=I f_:=ha 1 bm
 have i2:f0 2=I t_:=ha 2 bm
 refine az<|ak (v:=I 0) J J<|aq<|sq<|az<|ai J i0<|k<|nc J J<|aR DP J J<|bq H 0 J Jz J J J<|ai J i1<|ai J i2<|k<|bd (v:=.agg #[I f_,I t_]) J (cz J<|cz J eI) (fun _=>aU)<|k<|W8 (k:=(f_,t_)) JC H 4 J J J J J ?_
 intro cE
 refine ai (v:=.tuple #[I ((getM mp (f_,t_)).getD 0),.bool ((getM mp (f_,t_)).isSome)]) J J<|k<|xt J J J<|k<|xt J J J<|ak (v:=I ((getM mp (f_,t_)).getD 0)) J J<|ak (v:=.bool ((getM mp (f_,t_)).isSome)) J J<|bz<|ai (v:=.bool ((getM mp (f_,t_)).isSome)) J J<|z<|nx<|cd (b:=(getM mp (f_,t_)).isSome) J J (fun b0=>?_)<|fun b0=>?_
 ·
  refine az<|ai (v:=I ((getM mp (f_,t_)).getD 0)) J J<|ak (v:=I ((getM mp (f_,t_)).getD 0)) J J<|aq<|rt<|aK<|r1 J J ?_
  have e0:((getM mp (f_,t_)).getD 0:Int)=((getM mp (f_,t_)).getD 0):=rfl
  try rw[←e0]
  refine⟨((getM mp (f_,t_)).getD 0),sp,mp,eF,eE,?_,?_,aj,bo⟩
  · first|rfl|simp only[e0]|(simp only[amA])
  · first|exact H|simpa +zetaDelta only[e0,amA] using H
 refine sk<|cV<|ai J i0<|k<|nc J J<|aR rj J J<|k<|cI H 0 J bp J J au J<|ai J i1<|ai J i2<|k ?_
 have bT:=RC (mn:=pn) (mr:=pr) (i:=f_) (j:=t_) (w:=w_) H.mb (hT.ext H.below) qR (H.rv 5 J) Fq HD<|by exact uo
 refine ca afa J (ec J<|ec J<|ec J e0) bT ?_
 rintro _ w0 ⟨a0,c0,rfl,bY,ep⟩
 have H0:=H.eS ep
 let J0:=oL w 3 a0 ((fu pn pr f_ t_).getD []) c0
 let J1:=box df #[.slice aC aD aB,sL aw U av,sL ay fo ax,sL eF sp eE,.map (some bC),I pn,sL dp pr dm,.map (some bK)] 142
 let J2:=iL aw U av
 let J3:=iL ay fo ax
 let J4:=oL w 175 eF sp eE
 let J5:=iL dp pr dm
 let bc:=[J1,J2,J3,J4,cj bC mp,J5,bX bK mq]
 have H1:HI M w w0 ((J0::bc)++r):=H0
 refine ai (v:=.tuple #[sL a0 ((fu pn pr f_ t_).getD []) c0,.bool ((fu pn pr f_ t_).isSome)]) J J<|k<|xt J J J<|k<|xt J J J<|ak (v:=sL a0 ((fu pn pr f_ t_).getD []) c0) J J<|ak (v:=.bool ((fu pn pr f_ t_).isSome)) J J<|aq<|sq<|az<|ai (v:=.bool ((fu pn pr f_ t_).isSome)) J J<|k<|kg J J<|z<|nx<|cd (b:=!((fu pn pr f_ t_).isSome)) J J (fun b1=>?_)<|fun b1=>?_
 ·
  refine az<|ak (v:=I (-1)) J J<|aq<|rt<|aK<|r1 J J ?_
  have H2:=HI.aN (l:=(J0::bc)) (l':=bc) (t:=r) H1 [1,2,3,4,5,6,7] au J J
  refine⟨(-1),sp,mp,eF,eE,?_,?_,aj,(by unfold aL;omega)⟩
  · first|rfl|simp only[amA]
  · first|exact H2|simpa +zetaDelta only[amA] using H2
 refine sk<|nx<|sq ?_
 have ab':(fu pn pr f_ t_).isSome=true:=by simpa using b1
 have alD:=Ux uo ab'
 have abY:=fun (q_:Nat) (x_:Int) (h_:((fu pn pr f_ t_).getD [])[q_]? =some x_)=>Uy uo ab' h_
 refine ma [.r,.r,.r,.r,.r,.r,.r,.e,.e] (fun _=>True) J aU (fun _ _=>trivial)<|yq J J<|kq (fun _ _=>mv J i0 e1)<|bQ<|kq (fun _ _=>mv (v:=sL a0 ((fu pn pr f_ t_).getD []) c0) J J e1)<|bQ<|th (H1.at_ 0 J) J J J J aj cS aS ?_
 intro iE x0 aI cD
 refine bQ<|nP cD aS J J ?_
 intro ei
 refine bQ<|kq (fun _ _=>mv (v:=sL a0 ((fu pn pr f_ t_).getD []) c0) J J e1)<|bQ<|th (H1.at_ 0 J) J J J J aj cS aS ?_
 intro rb x1 bV gG
 refine bQ<|nP gG aS J J ?_
 intro fB
 refine zq<|ye<|ye<|yz ?_
 intro w1 f0 _ dy _ _ cK iK
 have H2:=H1.ext dy
 have s0:=(cK 0 J).trans i0
 have s1:=(cK 1 J).trans i1
 have s2:=cK 9 J
 have s3:=cK 39 J
 have s4:=cK 42 J
 have s5:=cK 45 J
 refine j8 ?_
 let ck:=[J5,bX bK mq,J0]
 have H3:HI M w w1 (bc++([J0]++r)):=HI.aN (l:=(J0::bc)) (l':=(J1::J2::J3::J4::cj bC mp::ck)) (t:=r) H2 [1,2,3,4,5,6,7,0] au J J
 have dq:=F5 (df:=df) (aC:=aC) (aD:=aD) (aB:=aB) (aw:=aw) (av:=av) (U:=U) (ay:=ay) (ax:=ax) (fo:=fo) (eF:=eF) (eE:=eE) (sp:=sp) (bC:=bC) (mp:=mp) (pn:=pn) (dp:=dp) (dm:=dm) (pr:=pr) (bK:=bK) (mq:=mq) (f_:=x0) (t_:=x1) (w:=w) (w_:=w1) (r:=([J0]++r)) (M:=M) qR ei fB aj (by have h_:=abY _ _ bV;omega) H3
 refine ca X0 J (ec s3<|ec s4<|ec s5 e0) dq ?_
 rintro _ w2 ⟨o0,o1,o2,a1,c1,rfl,H4,q0,q1⟩
 refine j8<|jy (v:=I o0) J J<|kz<|nx<|sq<|az<|ak (v:=I 2) J J<|aq<|bk<|lp (fun m f w'=>∃(j_:Nat) (Ee:Int) (ji:List cT) (oq:KV) (a2:OA) (c2:Nat),m=((fu pn pr f_ t_).getD []).length-j_∧f 0=pV df 0∧f 1=I f_∧f 9=sL a0 ((fu pn pr f_ t_).getD []) c0∧f 11=I Ee∧f 12=I (j_:Int)∧HI M w w' ((box df #[.slice aC aD aB,sL aw U av,sL ay fo ax,sL a2 ji c2,.map (some bC),I pn,sL dp pr dm,.map (some bK)] 142::J2::J3::oL w 175 a2 ji c2::cj bC oq::ck)++r)∧(2≤j_∧j_≤((fu pn pr f_ t_).getD []).length)∧(ji.length+1≤sp.length+2*j_)∧(aL Ee)) _ ⟨2,o0,o1,o2,a1,c1,J,s0,s1,s2,(bN J),(bN J),H4,aj,aj,bo⟩ ?_
 rintro _ f1 w3 ⟨j_,Ee,ji,oq,a2,c2,rfl,s6,s7,s8,s9,eC,H6,pk,HB,alM⟩
 refine sq<|az<|ai J eC<|ai J s8<|k<|ef J J cS<|k<|lss J J J J<|z<|nx<|cd (b:=decide ((j_:Int)<(((fu pn pr f_ t_).getD []).length:Int))) J J (fun b2=>?_)<|fun b2=>?_
 ·
  have p2:=dT b2
  refine sk<|nx<|sq<|bk<|sq<|ma [.r,.r,.r,.r,.r,.r,.r,.r,.r,.r,.e,.e] (fun _=>True) J aU (fun _ _=>trivial)<|yq J J<|kq (fun _ _=>mv J s6 e1)<|bQ<|kq (fun _ _=>mv J s8 e1)<|bQ<|kq (fun _ _=>mv J eC e1)<|bQ<|kq (fun _ _=>sub J J J J aT e1)<|bQ<|th (H6.at_ 7 J) J J J J aj cS aS ?_
  intro pq x2 jb kB
  refine bQ<|nP kB aS J J ?_
  intro ja
  refine bQ<|kq (fun _ _=>mv J s8 e1)<|bQ<|kq (fun _ _=>mv J eC e1)<|bQ<|th (H6.at_ 7 J) J J J J aj cS aS ?_
  intro ue x3 qI tC
  refine bQ<|nP tC aS J J ?_
  intro jW
  refine zq<|ye<|ye<|yz ?_
  intro w4 f2 _ fe _ _ fJ Ac
  have H7:=H6.ext fe
  have fj:=(fJ 0 J).trans s6
  have fT:=(fJ 1 J).trans s7
  have fS:=(fJ 9 J).trans s8
  have gF:=(fJ 11 J).trans s9
  have gW:=(fJ 12 J).trans eC
  have kG:=fJ 53 J
  have lu:=fJ 58 J
  have mQ:=fJ 62 J
  refine j8 ?_
  let J6:=box df #[.slice aC aD aB,sL aw U av,sL ay fo ax,sL a2 ji c2,.map (some bC),I pn,sL dp pr dm,.map (some bK)] 142
  let dY:=J6::J2::J3::oL w 175 a2 ji c2::cj bC oq::ck
  have H8:HI M w w4 ([J6,J2,J3,oL w 175 a2 ji c2,cj bC oq,J5,bX bK mq]++([J0]++r)):=HI.aN (l:=dY) (l':=dY) (t:=r) H7 [0,1,2,3,4,5,6,7] au J J
  have fP:=F5 (df:=df) (aC:=aC) (aD:=aD) (aB:=aB) (aw:=aw) (av:=av) (U:=U) (ay:=ay) (ax:=ax) (fo:=fo) (eF:=a2) (eE:=c2) (sp:=ji) (bC:=bC) (mp:=oq) (pn:=pn) (dp:=dp) (dm:=dm) (pr:=pr) (bK:=bK) (mq:=mq) (f_:=x2) (t_:=x3) (w:=w) (w_:=w4) (r:=([J0]++r)) (M:=M) qR ja jW aj (by have h_:=abY _ _ qI;omega) H8
  refine ca X0 J (ec kG<|ec lu<|ec mQ e0) fP ?_
  rintro _ w5 ⟨o3,o4,o5,a3,c3,rfl,H9,q2,q3⟩
  let J7:=box df #[.slice aC aD aB,sL aw U av,sL ay fo ax,sL a3 o4 c3,.map (some bC),I pn,sL dp pr dm,.map (some bK)] 142
  let jk:=J7::J2::J3::oL w 175 a3 o4 c3::cj bC o5::ck
  have dz:HI M w w5 (jk++r):=H9
  refine j8<|jy (v:=I o3) J J<|kz<|nx<|rg<|ai J fj<|ai J fT<|ai J fS<|ai J gW<|k<|iq (dz.at_ 7 J) J J J J aj cS aS ?_
  intro g0 x4 iC Ab ud
  refine k<|mV ud aS J J ?_
  intro iH
  refine ai J gF<|ai (v:=I o3) J J<|k<|bd (v:=.agg #[I 3,I f_,I x4,I Ee,I o3]) J (cz J<|cz J<|cz J<|cz J<|cz J eI) (fun _=>aU)<|k ?_
  have cB:HI M w w5 ([J7,J2,J3,oL w 175 a3 o4 c3,cj bC o5,J5,bX bK mq]++([J0]++r)):=HI.aN (l:=jk) (l':=jk) (t:=r) dz [0,1,2,3,4,5,6,7] au J J
  have ff:=yr (df:=df) (aC:=aC) (aD:=aD) (aB:=aB) (aw:=aw) (av:=av) (U:=U) (ay:=ay) (ax:=ax) (fo:=fo) (eF:=a3) (eE:=c3) (sp:=o4) (bC:=bC) (mp:=o5) (pn:=pn) (dp:=dp) (dm:=dm) (pr:=pr) (bK:=bK) (mq:=mq) (k_:=3) (f_:=f_) (t_:=x4) (g_:=Ee) (h_:=o3) (w:=w) (w_:=w5) (r:=([J0]++r)) (M:=M) qR aT Fq iH bo bo aj cB
  refine ca JL J (ec J<|ec J e0) ff ?_
  rintro _ w6 ⟨a4,c4,rfl,dx⟩
  let J8:=box df #[.slice aC aD aB,sL aw U av,sL ay fo ax,sL a4 (o4++[(3,f_,x4,Ee,o3)]) c4,.map (some bC),I pn,sL dp pr dm,.map (some bK)] 142
  let J9:=oL w 175 a4 (o4++[(3,f_,x4,Ee,o3)]) c4
  let dZ:=cj bC (jn o5 (f_,x4) ((o4.length:Nat):Int))
  refine ak (v:=I ((o4.length:Nat):Int)) J J<|z<|aF<|nx<|rg<|ai J gW<|k<|add J J J J aT<|ak (v:=I ((j_:Int)+1)) J J<|z ?_
  have cU:=dx.put (it:=J2) J<|dx.rv 1 J
  have dD:=cU.put (it:=J3) J<|cU.rv 3 J
  have dW:=dD.put (it:=J5) J<|dD.rv 7 J
  let fL:=J8::J2::J3::J9::dZ::ck
  have dQ:HI M w w6 ((J5::J3::J2::fL)++r):=dW
  have cQ:HI M w w6 (fL++r):=HI.aN (l:=(J5::J3::J2::fL)) (l':=fL) (t:=r) dQ [3,2,1,6,7,0,9,10] au J J
  refine bG _ ?_ ⟨(j_+1),((o4.length:Nat):Int),(o4++[(3,f_,x4,Ee,o3)]),(jn o5 (f_,x4) ((o4.length:Nat):Int)),a4,c4,J,fj,fT,fS,(bN J),(bN J),cQ,aj,(by simp only[fN,iB,gj];omega),(by unfold aL;omega)⟩
  omega
 refine ex<|aV<|bf<|bh<|cV<|ai J s9<|ak (v:=I Ee) J J<|aq<|rt<|r1 J J ?_
 let eP:=box df #[.slice aC aD aB,sL aw U av,sL ay fo ax,sL a2 ji c2,.map (some bC),I pn,sL dp pr dm,.map (some bK)] 142
 have H7:=HI.aN (l:=(eP::J2::J3::oL w 175 a2 ji c2::cj bC oq::ck)) (l':=[eP,J2,J3,oL w 175 a2 ji c2,cj bC oq,J5,bX bK mq]) (t:=r) H6 [0,1,2,3,4,5,6] au J J
 refine⟨Ee,ji,oq,a2,c2,?_,?_,aj,bo⟩
 · first|rfl|simp only[amA]
 · first|exact H7|simpa +zetaDelta only[amA] using H7
theorem zu:cH aJ 79:=cN Tryz.func79
theorem aeT:cH aJ 156:=cN Tryz.func156
theorem AU (qR:aL pn) (Bf:aL fy) (DK:aL fD) (Be:aL gI) (hT:fW 0 w) (HA:sp.length≤2700000000000) (IP:pn=((U.length:Nat):Int)) (ahA:fo.length=U.length) (ahB:U.length≤64) (uo:bI pn pr=true) (H:HI M w w_ ([box df #[.slice aC aD aB,sL aw U av,sL ay fo ax,sL eF sp eE,.map (some bC),I pn,sL dp pr dm,.map (some bK)] 142,iL aw U av,iL ay fo ax,oL w 175 eF sp eE,cj bC mp,iL dp pr dm,bX bK mq]++r)):Calls aJ 122 #[pV df 0,.agg #[I fy,I fD,I gI]] w_ (cA fun v w'=>∃(sZ:List cT) (Gd:KV) (nZ:OA) (nX:Nat),v=.tuple #[]∧HI M w w' ([box df #[.slice aC aD aB,sL aw U av,sL ay fo ax,sL nZ sZ nX,.map (some bC),I pn,sL dp pr dm,.map (some bK)] 142,iL aw U av,iL ay fo ax,oL w 175 nZ sZ nX,cj bC Gd,iL dp pr dm,bX bK mq]++r)∧sZ.length≤sp.length+201):=by
 refine enter 21 Tryz.func122 J J J fun f0 ha=>?_
 have iS:=bl<|H.rv 1 J
 have kM:=bl<|H.rv 2 J
 have DE:=kf<|H.at_ 3 J
 have DG:=bl<|H.rv 5 J
 have i0:f0 0=pV df 0:=ha 0 bm
 have i1:f0 1=.agg #[I fy,I fD,I gI]:=ha 1 bm
 refine az<|k<|bx H J i1 ?_
 let J1:=box df #[.slice aC aD aB,sL aw U av,sL ay fo ax,sL eF sp eE,.map (some bC),I pn,sL dp pr dm,.map (some bK)] 142
 let J2:=iL aw U av
 let J3:=iL ay fo ax
 let J4:=oL w 175 eF sp eE
 let J5:=iL dp pr dm
 let bc:=[J1,J2,J3,J4,cj bC mp,J5,bX bK mq]
 intro aZ w0 bY (H0:HI M w w0 ((box aZ #[I fy,I fD,I gI] 122::bc)++r))
 let J0:=box aZ #[I fy,I fD,I gI] 122
 refine bz<|ai J i0<|aR kQ J J<|bq H0 0 J aS J J J<|aR sO J J<|bq H0 0 J aS J J J<|k ?_
 let ck:=[J5,bX bK mq,J0]
 have H1:HI M w w0 (bc++([J0]++r)):=HI.aN (l:=(J0::bc)) (l':=(J1::J2::J3::J4::cj bC mp::ck)) (t:=r) H0 [1,2,3,4,5,6,7,0] au J J
 have bT:=mC (df:=df) (aC:=aC) (aD:=aD) (aB:=aB) (aw:=aw) (av:=av) (U:=U) (ay:=ay) (ax:=ax) (fo:=fo) (eF:=eF) (eE:=eE) (sp:=sp) (bC:=bC) (mp:=mp) (pn:=pn) (dp:=dp) (dm:=dm) (pr:=pr) (bK:=bK) (mq:=mq) (f_:=fy) (t_:=gI) (w:=w) (w_:=w0) (r:=([J0]++r)) (M:=M) qR Bf Be hT aj aj aj aj (by exact uo) H1
 refine ca zu J (ec J<|ec J<|ec J e0) bT ?_
 rintro _ w1 ⟨o0,o1,o2,a0,c0,rfl,H2,q0,q1⟩
 let J6:=box df #[.slice aC aD aB,sL aw U av,sL ay fo ax,sL a0 o1 c0,.map (some bC),I pn,sL dp pr dm,.map (some bK)] 142
 let dY:=J6::J2::J3::oL w 175 a0 o1 c0::cj bC o2::ck
 have H3:HI M w w1 (dY++r):=H2
 refine ak (v:=I o0) J J<|aq<|rg<|ai J i0<|aR kQ J J<|bq H3 7 J aS J J J<|aR mL J J<|bq H3 7 J aS J J J<|ai (v:=I o0) J J<|aR sO J J<|bq H3 7 J aS J J J<|k<|bd (v:=.agg #[I 4,I fy,I fD,I o0,I gI]) J (cz J<|cz J<|cz J<|cz J<|cz J eI) (fun _=>aU)<|k ?_
 have H4:HI M w w1 ([J6,J2,J3,oL w 175 a0 o1 c0,cj bC o2,J5,bX bK mq]++([J0]++r)):=HI.aN (l:=dY) (l':=dY) (t:=r) H3 [0,1,2,3,4,5,6,7] au J J
 have dq:=yr (df:=df) (aC:=aC) (aD:=aD) (aB:=aB) (aw:=aw) (av:=av) (U:=U) (ay:=ay) (ax:=ax) (fo:=fo) (eF:=a0) (eE:=c0) (sp:=o1) (bC:=bC) (mp:=o2) (pn:=pn) (dp:=dp) (dm:=dm) (pr:=pr) (bK:=bK) (mq:=mq) (k_:=4) (f_:=fy) (t_:=fD) (g_:=o0) (h_:=gI) (w:=w) (w_:=w1) (r:=([J0]++r)) (M:=M) qR aT Bf DK bo Be aj H4
 refine ca JL J (ec J<|ec J e0) dq ?_
 rintro _ w2 ⟨a1,c1,rfl,H5⟩
 let J7:=box df #[.slice aC aD aB,sL aw U av,sL ay fo ax,sL a1 (o1++[(4,fy,fD,o0,gI)]) c1,.map (some bC),I pn,sL dp pr dm,.map (some bK)] 142
 let J8:=oL w 175 a1 (o1++[(4,fy,fD,o0,gI)]) c1
 let J9:=cj bC (jn o2 (fy,fD) ((o1.length:Nat):Int))
 have H6:HI M w w2 ((J7::J2::J3::J8::J9::ck)++r):=H5
 refine z<|D9 J ?_
 have H7:=HI.aN (l:=(J7::J2::J3::J8::J9::ck)) (l':=[J7,J2,J3,J8,J9,J5,bX bK mq]) (t:=r) H6 [0,1,2,3,4,5,6] au J J
 refine⟨(o1++[(4,fy,fD,o0,gI)]),(jn o2 (fy,fD) ((o1.length:Nat):Int)),a1,c1,?_,?_,(by simp only[fN,iB,gj];omega)⟩
 · first|rfl|simp only[amA]
 · first|exact H7|simpa +zetaDelta only[amA] using H7
theorem yt {zF:OA} {zA:Nat} {es:List (Int×Int×Int)} (qR:aL pn) (uo:bI pn pr=true) (uE:∀x∈es,kA pn [x.1,x.2.1]=true) (H:HI M w w_ ([box df #[.slice aC aD aB,sL aw U av,sL ay fo ax,sL eF sp eE,.map (some bC),I pn,sL dp pr dm,.map (some bK)] 142,iL aw U av,iL ay fo ax,oL w 175 eF sp eE,cj bC mp,iL dp pr dm,bX bK mq,iL zF es zA]++r)):Calls aJ 120 #[pV df 0,sL zF es zA] w_ (cA fun v w'=>∃(Cm:List (List bt)) (y':OA) (yW:Nat),v=.tuple #[]∧HI M w w' ([box df #[.slice aC aD aB,sL aw U av,sL ay fo ax,sL eF sp eE,.map (some bC),I pn,sL y' Cm yW,.map (some bK)] 142,iL aw U av,iL ay fo ax,oL w 175 eF sp eE,cj bC mp,iL y' Cm yW,bX bK mq,iL zF es zA]++r)∧bI pn Cm=true):=by
 refine enter 28 Tryz.func120 J J J fun f0 ha=>?_
 have iS:=bl<|H.rv 1 J
 have kM:=bl<|H.rv 2 J
 have DE:=kf<|H.at_ 3 J
 have DG:=bl<|H.rv 5 J
 have ak5:=bl<|H.rv 7 J
 have i0:f0 0=pV df 0:=ha 0 bm
 have i1:f0 1=sL zF es zA:=ha 1 bm
 refine az<|ai J i1<|k<|ef J J eA<|ai (v:=I 0) J J<|aq<|bk ?_
 let J0:=iL dp pr dm
 have H0:=H.put (it:=J0) J<|H.rv 5 J
 let J1:=iL aw U av
 let J2:=iL ay fo ax
 let J3:=oL w 175 eF sp eE
 let J4:=cj bC mp
 let J5:=iL zF es zA
 let bc:=[J1,J2,J3,J4,J0,bX bK mq,J5]
 refine lp (fun m f w'=>∃(j_:Nat) (m_:List (List bt)) (cO:Int) (a0:OA) (c0:Nat),m=es.length-j_∧f 0=pV df 0∧f 6=sL zF es zA∧f 7=I (es.length:Int)∧f 8=I (j_:Int)∧HI M w w' ((iL a0 m_ c0::box df #[.slice aC aD aB,sL aw U av,sL ay fo ax,sL eF sp eE,.map (some bC),I cO,sL a0 m_ c0,.map (some bK)] 142::bc)++r)∧(j_≤es.length)∧(cO=pn)∧(bI cO m_=true)) _ ⟨0,pr,pn,dp,dm,J,i0,J,J,(bN J),H0,aj,(by rfl),(by exact uo)⟩ ?_
 rintro _ f0 w0 ⟨j_,m_,cO,a0,c0,rfl,s0,s1,s2,s3,H2,pk,CM,tW⟩
 refine az<|k<|lss J J s3 s2<|aq<|sq<|cd (b:=decide ((j_:Int)<(es.length:Int))) J J (fun b0=>?_)<|fun b0=>?_
 ·
  have p0:=dT b0
  refine sk<|nx<|sq<|bk<|az<|k<|ia (H2.rv 8 J) J J s1 s3 aj eA cR ?_
  intro iE x0 aI cD
  refine k<|nr cD.w cR J J ?_
  intro v0 cE
  obtain⟨_,⟨_,_,rfl,⟨rfl,ep⟩,⟨_,_,rfl,⟨rfl,ei⟩,⟨rfl,fB⟩⟩⟩,rfl⟩:=cE
  refine k<|al H2 cR ?_
  let J6:=iL a0 m_ c0
  let J7:=box df #[.slice aC aD aB,sL aw U av,sL ay fo ax,sL eF sp eE,.map (some bC),I cO,sL a0 m_ c0,.map (some bK)] 142
  intro aZ w1 bY (H3:HI M w w1 ((box aZ #[I 0,I 0,I 0] 122::J6::J7::bc)++r))
  refine k<|bw H3 0 J cR J J J J J J J ?_
  let J8:=box aZ #[I x0.1,I x0.2.1,I x0.2.2] 122
  intro w2 (H4:HI M w w2 ((J8::J6::J7::bc)++r))
  refine z<|nx ?_
  have so:kA cO [x0.1,x0.2.1]=true:=by rw[CM];exact uE x0 (dN aI)
  refine ma [.r,.r,.r,.r,.r,.r,.r,.r,.r,.r,.r,.r,.s,.r,.r,.e] (fun _=>True) J aU (fun _ _=>trivial)<|yq J J<|kq (fun _ _=>mv J s0 e1)<|bQ<|kq (fun _ _=>mv J s0 e1)<|bQ<|kq (fun _ _=>nc J J e1)<|bQ<|kq (fun _ _=>fa rj J J e1)<|bQ<|kq (fun _ x_=>cI (H4.ext x_) 2 J bp J J au J e1)<|bQ<|kq (fun _ _=>fa kQ J J e1)<|bQ<|kq (fun _ x_=>lx (H4.ext x_) 0 J aS J J J e1)<|bQ<|kq (fun _ _=>fa mL J J e1)<|bQ<|kq (fun _ x_=>lx (H4.ext x_) 0 J aS J J J e1)<|zq<|yu J (fun _ v w'=>∃(a1:OA) (c1:Nat),v=.tuple #[.agg #[I (ik cO x0.1 x0.2.1),sL a1 (j5 cO m_ x0.1 x0.2.1) c1],I (lB cO x0.1 x0.2.1)]∧RV H4.gh w' (sL a1 (j5 cO m_ x0.1 x0.2.1) c1) (j5 cO m_ x0.1 x0.2.1)) J od J (fun v_ _ x_ _=>have dq:=Ze (mn:=cO) (mr:=m_) (i:=x0.1) (j:=x0.2.1) (w:=v_) (H4.ext x_).mb aT ((H4.ext x_).rv 1 rfl) ep ei (by exact(bR tW).1) (by exact(bR tW).2.1) (by exact(bR tW).2.2.1);ca aeT rfl (ec J<|ec J<|ec J e0) dq (fun _ w4 ⟨a2,c2,e_,fe,iH⟩=>⟨_,J,fe,⟨a2,c2,e_,(bj.rv iH (H4.ext x_).mb)⟩⟩))<|lE J (fun _ v w'=>∃(a3:OA) (c3:Nat),v=.tuple #[.agg #[I (ik cO x0.1 x0.2.1),sL a3 (j5 cO m_ x0.1 x0.2.1) c3],I (lB cO x0.1 x0.2.1)]∧RV H4.gh w' (sL a3 (j5 cO m_ x0.1 x0.2.1) c3) (j5 cO m_ x0.1 x0.2.1)) 0 J J od J (fun _ _ _ _ _ h_=>let ⟨a4,c4,s4,oI⟩:=h_;mv rfl s4 ⟨_,J,Ext.refl _,⟨a4,c4,J,oI⟩⟩)<|lE J (fun _ v w'=>∃(a5:OA) (c5:Nat),v=.agg #[I (ik cO x0.1 x0.2.1),sL a5 (j5 cO m_ x0.1 x0.2.1) c5]∧RV H4.gh w' (sL a5 (j5 cO m_ x0.1 x0.2.1) c5) (j5 cO m_ x0.1 x0.2.1)) 0 J J od J (fun _ _ _ _ _ h_=>let ⟨a6,c6,s5,oJ⟩:=h_;xt rfl s5 rfl ⟨_,J,Ext.refl _,⟨a6,c6,J,oJ⟩⟩)<|QV J (X:=I (lB cO x0.1 x0.2.1)) 1 J J (fun _ _ _ _ _ h_=>let ⟨a8,c8,s6,sh⟩:=h_;xt rfl s6 rfl e1)<|yq J J<|kq (fun _ _=>nc J J e1)<|bQ<|kq (fun _ _=>fa rj J J e1)<|zq<|ye<|yz ?_
  intro w5 f1 _ fA _ _ cK iK
  have eh:=H4.ext fA
  have s7:=(cK 0 J).trans s0
  have s8:=(cK 6 J).trans s1
  have s9:=(cK 7 J).trans s2
  have eC:=(cK 8 J).trans s3
  obtain⟨a9,c9,fj,sg⟩:=iK 0 _ _ rfl
  let J9:=iL a9 (j5 cO m_ x0.1 x0.2.1) c9
  have dO:=eh.put (it:=J9) J sg
  have fT:=cK 26 J
  refine j8<|bw dO 3 J bp J J fT fj J J J ?_
  let dZ:=box df #[.slice aC aD aB,sL aw U av,sL ay fo ax,sL eF sp eE,.map (some bC),I (ik cO x0.1 x0.2.1),sL a9 (j5 cO m_ x0.1 x0.2.1) c9,.map (some bK)] 142
  intro w6 (fz:HI M w w6 ((J9::J8::J6::dZ::bc)++r))
  refine kz<|aF<|nx<|rg<|k<|add J J eC J aT<|ai (v:=I ((j_:Int)+1)) J J<|z ?_
  have gS:=fz.put (it:=J9) J<|fz.rv 0 J
  have jz:=gS.put (it:=J1) J<|gS.rv 5 J
  have jd:=jz.put (it:=J2) J<|jz.rv 7 J
  have tN:HI M w w6 ((J2::J1::J9::J9::J8::J6::dZ::bc)++r):=jd
  have lO:HI M w w6 ((J9::dZ::bc)++r):=HI.aN (l:=(J2::J1::J9::J9::J8::J6::dZ::bc)) (l':=(J9::dZ::bc)) (t:=r) tN [2,6,1,0,9,10,11,12,13] au J J
  refine bG _ ?_ ⟨(j_+1),(j5 cO m_ x0.1 x0.2.1),(ik cO x0.1 x0.2.1),a9,c9,J,s7,s8,s9,(bN J),lO,aj,(by rw[(pU (rs:=m_) so).1];exact CM),(by exact Rf tW so)⟩
  omega
 refine ex<|aV<|bf<|bh<|D9 J ?_
 let eP:=box df #[.slice aC aD aB,sL aw U av,sL ay fo ax,sL eF sp eE,.map (some bC),I cO,sL a0 m_ c0,.map (some bK)] 142
 have H3:=HI.aN (l:=(iL a0 m_ c0::eP::bc)) (l':=[eP,J1,J2,J3,J4,iL a0 m_ c0,bX bK mq,J5]) (t:=r) H2 [1,2,3,4,5,0,7,8] au J J
 have e0:(cO:Int)=pn:=by exact CM
 try rw[←e0]
 refine⟨m_,a0,c0,?_,?_,(by exact tW)⟩
 · first|rfl|simp only[e0]|(simp only[amA])
 · first|exact H3|simpa +zetaDelta only[e0,amA] using H3
end Go.Proofs.YtgjakhpjmapelaaGreatDoor
