/- PRINTED by my own tool (wip/tool/gen.py): contracts of Go functions of this seat, each with its proof. -/
import Derived.Test.YtgjakhpjmapelaaGreatDoorOwnB
import Derived.Test.YtgjakhpjmapelaaGreatDoorOwnC
import Derived.Test.YtgjakhpjmapelaaGreatDoorGenD
import Derived.Test.YtgjakhpjmapelaaGreatDoorGenB
import Derived.Test.YtgjakhpjmapelaaGreatDoorOwnA
import Derived.Test.YtgjakhpjmapelaaGreatDoorGenA
import Derived.Test.YtgjakhpjmapelaaGreatDoorGenC
set_option linter.unusedVariables false
set_option linter.unusedSimpArgs false
namespace Go.Proofs.YtgjakhpjmapelaaGreatDoor
open Go.Ew Go.RowKit
set_option maxRecDepth 100000
set_option maxHeartbeats 1600000
attribute [local irreducible] WL WC SO PW PX PZ WE Code.wp wpList rT cb
attribute [local irreducible] j2 xc jj fe dY z8 CS Ky words dX cR jz fz ve
attribute [local irreducible] ko uq zn sF zm qU kn fF jD ka oO mz sW kC dN fN
variable {M:Nat→Prop} {w w_:World}
variable {s ss:ByteArray} {bK gp:Nat} {Ko:TypeId} {at_ bI er ch lv:Int} {r:List Go.Ew.Item} {gq:OA} {h:List (List (Bool×ByteArray×Int))}
theorem aeK:ct aJ 145:=⟨_,_,Tryz.func145,rfl,aM⟩
theorem Ub:aJ.underlying 57=some (.slice 5):=aM
theorem O5:aJ.underlying 151=some (.int .u64):=aM
theorem Y0 (kQ:s.size≤maxLen):Calls aJ 111 #[.string s] w (cb fun v w'=>v=.tuple #[C ((gh s).1),C ((gh s).2)]∧Ext w w'):=by
 refine df 62 Tryz.func111 J J J pk fun f0 ha H=>?_
 have i0:f0 0=.string s:=ha 0 bh
 have AY:maxLen=9223372036854775807:=rfl
 refine aB<|au (v:=C 0) J J<|au (v:=C 0) J J<|bt<|ak J i0<|k ?_
 have bP:=DH (s:=s) (p_:=⟨#[45]⟩) (w:=w) bq aw
 refine ca aeK J (ec J<|ec J e0) bP ?_
 rintro _ w0 ⟨rfl,bS⟩
 have H0:=H.ext bS
 refine ak (v:=.tuple #[.string (eA s ⟨#[45]⟩),.bool (jF s ⟨#[45]⟩)]) J J<|k<|xt J J J<|k<|xt J J J<|au (v:=.string (eA s ⟨#[45]⟩)) J J<|au (v:=.bool (jF s ⟨#[45]⟩)) J J<|z<|nx ?_
 refine cut (fun f w'=>f 4=.string (eA s ⟨#[45]⟩)∧f 5=.bool (jF s ⟨#[45]⟩)∧HI (fun _=>False) w w' []∧(lC s=false)) ?_ ?_
 ·
  refine aB<|ak (v:=.string (eA s ⟨#[45]⟩)) J J<|k<|X2 J J J J<|ak (v:=.bool (decide (eA s ⟨#[45]⟩=⟨#[]⟩))) J J ?_
  rcases bE (decide (eA s ⟨#[45]⟩=⟨#[]⟩)) with b0|b0
  ·
   have p0:=dT b0
   refine aN J J J b0<|aN J J J b0<|aN J J J b0<|k<|aR J J J J b0 J<|ak (v:=.bool true) J J<|aN J J J J<|aN J J J J<|aN J J J J<|aN J J J J<|k<|gu J J J<|k<|gu J J J<|aN J J J J<|k<|aR J J J J J J<|av<|oP J J J<|aB<|au (v:=C 0) J J<|au (v:=C 2) J J<|av<|rt<|HS ?_
   have uZ:gh s=(0,2):=E1 (by simp only[lC,b0,BL])
   refine r2 J J J ?_
   have e0:(0:Int)=(gh s).1:=by rw[uZ]
   have e1:(2:Int)=(gh s).2:=by rw[uZ]
   have bo:=nr (fun (bV:Int) (dI:Int)=>(.tuple #[C bV,C dI]:Value)) e0 e1
   exact⟨bo,H0.below⟩
  have p0:=dF b0
  refine aT J J J b0<|mv (v:=.string (eA s ⟨#[45]⟩)) J J<|aT J J J b0 ?_
  have cV:=BR (s:=(eA s ⟨#[45]⟩)) (cs:=⟨#[48,49,50,51,52,53,54,55,56,57]⟩) (w:=w0) (by exact Nat.le_trans (qM _ _) kQ) aw<|by exact G8
  refine ca XW J (ec J<|ec J e0) cV ?_
  rintro _ w2 ⟨rfl,cY⟩
  have H1:=H0.ext cY
  refine aT J J J b0<|neS J J J J<|k<|cK J J J J b0 J<|ak (v:=.bool (!decide (trimB (eA s ⟨#[45]⟩) ⟨#[48,49,50,51,52,53,54,55,56,57]⟩=⟨#[]⟩))) J J ?_
  rcases bE (!decide (trimB (eA s ⟨#[45]⟩) ⟨#[48,49,50,51,52,53,54,55,56,57]⟩=⟨#[]⟩)) with b1|b1
  ·
   have p1:=dF<|fY b1
   refine aN J J J b1<|aN J J J b1<|aN J J J b1<|aN J J J b1<|k<|gu J J J<|k<|gu J J J<|aN J J J b1<|k<|aR J J J J b1 J<|av<|oP J J J<|aB<|au (v:=C 0) J J<|au (v:=C 2) J J<|av<|rt<|HS ?_
   have uZ:gh s=(0,2):=E1 (by simp only[lC,b0,(fY b1),BL])
   refine r2 J J J ?_
   have e0:(0:Int)=(gh s).1:=by rw[uZ]
   have e1:(2:Int)=(gh s).2:=by rw[uZ]
   have bo:=nr (fun (bV:Int) (dI:Int)=>(.tuple #[C bV,C dI]:Value)) e0 e1
   exact⟨bo,H1.below⟩
  have p1:=dT<|fk b1
  refine aT J J J b1<|mv (v:=.string (eA s ⟨#[45]⟩)) J J<|aT J J J b1<|W8 J J J J (by exact⟨apv _,ZD p0⟩) mu<|aT J J J b1<|eql J J J J<|aT J J J b1<|mv (v:=.bool (decide ((su (eA s ⟨#[45]⟩) 0)=48))) J J ?_
  rcases bE (decide ((su (eA s ⟨#[45]⟩) 0)=48)) with b2|b2
  ·
   have p2:=dT b2
   refine aT J J J b2<|mv J i0<|aT J J J b2<|neS J J J J<|aT J J J b1<|aR J J J J b2 J<|k<|cK J J J J b1 J<|z<|nx ?_
   refine cd (b:=!decide (s=⟨#[48]⟩)) J J (fun b3=>?_)<|fun b3=>?_
   ·
    have p3:=dF<|fY b3
    refine aB<|au (v:=C 0) J J<|au (v:=C 2) J J<|av<|rt<|HS ?_
    have uZ:gh s=(0,2):=E1 (by simp only[lC,b0,(fk b1),b2,(fY b3),BL])
    refine r2 J J J ?_
    have e0:(0:Int)=(gh s).1:=by rw[uZ]
    have e1:(2:Int)=(gh s).2:=by rw[uZ]
    have bo:=nr (fun (bV:Int) (dI:Int)=>(.tuple #[C bV,C dI]:Value)) e0 e1
    exact⟨bo,H1.below⟩
   have p3:=dT<|fk b3
   refine sk ?_
   refine A7 ⟨J,J,H1,(by simp only[lC,b0,(fk b1),b2,(fk b3),BL])⟩
  have p2:=dF b2
  refine aN J J J b2<|aN J J J b2<|aT J J J b1<|cK J J J J b2 J<|k<|cK J J J J b1 J<|av<|nP J J J<|sk ?_
  refine A7 ⟨J,J,H1,(by simp only[lC,b0,(fk b1),b2,BL])⟩
 ·
  rintro f0 w1 ⟨s0,s1,H3,CB⟩
  refine aB<|au (v:=aj (9223372036854775807#64)) J J<|z<|nx ?_
  refine cut (fun f w'=>∃(m_:bX),f 4=.string (eA s ⟨#[45]⟩)∧f 5=.bool (jF s ⟨#[45]⟩)∧f 6=aj m_∧HI (fun _=>False) w w' []∧(m_.toNat=oz s)) ?_ ?_
  ·
   refine aB<|ak J s1<|z<|nx ?_
   refine cd (b:=jF s ⟨#[45]⟩) J J (fun b3=>?_)<|fun b3=>?_
   ·
    refine rg<|ak (v:=aj (9223372036854775807#64)) J J<|k<|Ic (9223372036854775807#64) (1#64) J J J J<|au (v:=aj ((9223372036854775807#64)+(1#64))) J J<|z ?_
    refine A7 ⟨((9223372036854775807#64)+(1#64)),s0,s1,(Ny J<|by rfl),H3,(by unfold oz;rw[b3];rfl)⟩
   refine sk ?_
   refine A7 ⟨(9223372036854775807#64),s0,s1,(Ny J<|by rfl),H3,(by unfold oz;rw[b3];rfl)⟩
  ·
   rintro f1 w3 ⟨m_,s2,s3,s4,H5,Vn⟩
   refine aB<|au (v:=aj (0#64)) J J<|av<|sq<|aB<|ak J s2<|k<|aiz H5 J J (by exact Nat.le_trans (qM _ _) kQ) mu Ub Wz ?_
   intro a0 c0 w4 eT (H6:HI (fun _=>False) w w4 [iL a0 (pd (eA s ⟨#[45]⟩)) c0])
   refine k<|dW J J Ub<|ak (v:=C 0) J J<|av<|bk ?_
   refine lp (fun m f w'=>∃(j_:Nat) (xV:bX),m=(pd<|eA s ⟨#[45]⟩).length-j_∧f 5=.bool (jF s ⟨#[45]⟩)∧f 6=aj m_∧f 7=aj xV∧f 36=R a0 (pd<|eA s ⟨#[45]⟩) c0∧f 37=C ((pd<|eA s ⟨#[45]⟩).length:Int)∧f 38=C (j_:Int)∧HI (fun _=>False) w w' [iL a0 (pd<|eA s ⟨#[45]⟩) c0]∧(j_≤(pd<|eA s ⟨#[45]⟩).length)∧(mJ m_.toNat (A8 s).data.toList 0=mJ m_.toNat ((A8 s).data.toList.drop j_) xV.toNat)) _ ⟨0,(0#64),J,s3,s4,(Ny J<|by rfl),J,J,(bJ J),H6,aq,(by rfl)⟩ ?_
   rintro _ f2 w5 ⟨j_,xV,rfl,s5,s6,s7,s8,s9,ej,H7,pt,hs⟩
   refine sq ?_
   have als:=Y1 s
   have alC:(pd (eA s ⟨#[45]⟩)).length≤s.size:=by rw[ug];exact qM _ _
   refine rg<|k<|lss J J ej s9<|av<|sq ?_
   refine cd (b:=decide ((j_:Int)<((pd<|eA s ⟨#[45]⟩).length:Int))) J J (fun b4=>?_)<|fun b4=>?_
   ·
    have p4:=dT b4
    refine sk<|nx<|sq<|bk<|aB<|k<|ia (H7.rv 0 J) J J s8 ej aq Ub WK ?_
    intro iw x0 aQ cu
    refine k<|ld8 cu.w WK J J<|au (v:=U8 x0) J J<|bt<|ak (v:=U8 x0) J J<|k<|agS J J J J (by have h_:=Tm (OU CB) aQ;omega)<|k<|OI J J Wz O5<|au (v:=aj (BitVec.ofInt 64<|(x0.toNat:Int)-48)) J J<|av<|sq<|sq ?_
    have hd_:=Tm (OU CB) aQ
    refine rg<|ak J s7<|ak J s6<|ak (v:=aj (BitVec.ofInt 64<|(x0.toNat:Int)-48)) J J<|k<|aai m_ (BitVec.ofInt 64<|(x0.toNat:Int)-48) J J J J<|k<|agZ (m_-(BitVec.ofInt 64<|(x0.toNat:Int)-48)) (10#64) aw J J J J<|k<|XL xV ((m_-(BitVec.ofInt 64<|(x0.toNat:Int)-48))/(10#64)) J J J J<|z<|nx ?_
    refine cd (b:=decide (((m_-(BitVec.ofInt 64<|(x0.toNat:Int)-48))/(10#64)).toNat<xV.toNat)) J J (fun b5=>?_)<|fun b5=>?_
    ·
     have p5:=dT b5
     refine aB<|au (v:=C 0) J J<|au (v:=C 3) J J<|av<|rt<|aL<|bQ<|aL<|dQ<|bQ<|aL ?_
     have uZ:gh s=(0,3):=UZ CB (by rw[←Vn];exact YZ hd_ aq (Ia aQ) hs bq)
     refine r2 J J J ?_
     have e0:(0:Int)=(gh s).1:=by rw[uZ]
     have e1:(3:Int)=(gh s).2:=by rw[uZ]
     have bo:=nr (fun (bV:Int) (dI:Int)=>(.tuple #[C bV,C dI]:Value)) e0 e1
     exact⟨bo,H7.below⟩
    have p5:=dF b5
    refine sk<|nx<|rg<|ak J s7<|k<|E5 (10#64) xV J J J J<|ak (v:=aj (BitVec.ofInt 64<|(x0.toNat:Int)-48)) J J<|k<|Ic ((10#64)*xV) (BitVec.ofInt 64<|(x0.toNat:Int)-48) J J J J<|au (v:=aj (((10#64)*xV)+(BitVec.ofInt 64<|(x0.toNat:Int)-48))) J J<|z<|aI<|nx<|rg<|k<|add J J ej J aV<|ak (v:=C ((j_:Int)+1)) J J<|z ?_
    refine bB _ ?_ ⟨(j_+1),(((10#64)*xV)+(BitVec.ofInt 64<|(x0.toNat:Int)-48)),J,s5,s6,(Ny J<|by rfl),s8,s9,(bJ J),H7,aq,(by exact US hd_ aq (Ia aQ) hs bq)⟩
    omega
   have p4:=dF b4
   refine ex<|aX<|bf<|bg<|nx<|sq<|aB<|ak J s5<|z<|nx ?_
   refine cd (b:=jF s ⟨#[45]⟩) J J (fun b5=>?_)<|fun b5=>?_
   ·
    refine aB<|ak J s7<|k<|aaP xV J J<|k<|cvT J J O5 BM<|au (v:=C ((-xV).toInt)) J J<|au (v:=C 0) J J<|av<|rt<|aL ?_
    have uZ:=UY CB bq<|by rw[←Vn];exact N1 hs (by have h_:=ug (eA s ⟨#[45]⟩);rw[am1];show (eA s ⟨#[45]⟩).size≤_;omega)
    refine r2 J J J ?_
    have e0:((-xV).toInt:Int)=(gh s).1:=by rw[uZ]
    have e1:(0:Int)=(gh s).2:=by rw[uZ]
    have bo:=nr (fun (bV:Int) (dI:Int)=>(.tuple #[C bV,C dI]:Value)) e0 e1
    exact⟨bo,H7.below⟩
   refine sk<|cI<|ak J s7<|k<|cvT J J O5 BM<|au (v:=C xV.toInt) J J<|au (v:=C 0) J J<|av<|rt ?_
   have uZ:=UX CB bq<|by rw[←Vn];exact N1 hs (by have h_:=ug (eA s ⟨#[45]⟩);rw[am1];show (eA s ⟨#[45]⟩).size≤_;omega)
   refine r2 J J J ?_
   have e0:(xV.toInt:Int)=(gh s).1:=by rw[uZ]
   have e1:(0:Int)=(gh s).2:=by rw[uZ]
   have bo:=nr (fun (bV:Int) (dI:Int)=>(.tuple #[C bV,C dI]:Value)) e0 e1
   exact⟨bo,H7.below⟩
theorem te:gM aJ 66 3 3:=⟨_,_,Tryz.underlying66,rfl,rfl,aM⟩
theorem wA:eh aJ 23 1 false 8 (.int .i64 0):=⟨aM,aM⟩
theorem j5:gM aJ 66 1 1:=⟨_,_,Tryz.underlying66,rfl,rfl,aM⟩
theorem tf:gM aJ 66 0 0:=⟨_,_,Tryz.underlying66,rfl,rfl,aM⟩
theorem Vw:ct aJ 70:=⟨_,_,Tryz.func70,rfl,aM⟩
theorem Fm:ct aJ 45:=⟨_,_,Tryz.func45,rfl,aM⟩
theorem L0:ct aJ 71:=⟨_,_,Tryz.func71,rfl,aM⟩
theorem ae3:ct aJ 110:=⟨_,_,Tryz.func110,rfl,aM⟩
theorem ae2:ct aJ 111:=⟨_,_,Tryz.func111,rfl,aM⟩
theorem mV:gM aJ 66 2 2:=⟨_,_,Tryz.underlying66,rfl,rfl,aM⟩
theorem oZ:ct aJ 47:=⟨_,_,Tryz.func47,rfl,aM⟩
theorem Fj:ct aJ 72:=⟨_,_,Tryz.func72,rfl,aM⟩
theorem Fi:ct aJ 73:=⟨_,_,Tryz.func73,rfl,aM⟩
theorem B1 (hM:eD M w) (yU:ss.size≤maxLen) (ln:aK at_) (eJ:aK bI) (mU:aK er) (Qa:0≤ch∧ch≤255) (h_c:w.heap[bK]? =some (.cells #[.string ss,C at_,C bI,C er] Ko (0,0))∧¬M bK) (eG:0≤at_∧at_≤(ss.size:Int)):Calls aJ 70 #[.pointer (some ⟨bK,0,none⟩),.int .u8 ch] w (cb fun v w'=>v=.bool (cA ss at_ er ch)∧Ext w w'):=by
 refine df 35 Tryz.func70 J J J hM fun f0 ha H=>?_
 have H0:=H.put (it:=ro bK #[.string ss,C at_,C bI,C er] Ko) J<|by rw[bN];exact h_c
 have i0:f0 0=pV bK 0:=ha 0 bh
 have i1:f0 1=.int .u8 ch:=ha 1 bh
 have AY:maxLen=9223372036854775807:=rfl
 refine aB<|au (v:=.bool false) J J<|av<|sq ?_
 refine BD J (by kernel_rfl) ?_
 refine kq (fun _ _=>mv rfl i0 e1)<|kq (fun _ _=>nc rfl rfl e1)<|kq (fun _ _=>fa te rfl rfl e1)<|kq (fun _ x_=>lr (H0.ext x_) 0 rfl wA rfl rfl rfl e1)<|kq (fun _ _=>eql rfl rfl rfl rfl e1)<|kq (fun _ _=>mv (v:=.bool (decide (er=0))) rfl rfl e1) ?_
 rcases bE (decide (er=0)) with b0|b0
 ·
  have p0:=dT b0
  refine qy J J J b0<|kq (fun _ _=>mv rfl i0 e1)<|qy J J J b0<|kq (fun _ _=>nc rfl rfl e1)<|qy J J J b0<|kq (fun _ _=>fa j5 rfl rfl e1)<|qy J J J b0<|kq (fun _ x_=>lr (H0.ext x_) 0 rfl aW rfl rfl rfl e1)<|qy J J J b0<|kq (fun _ _=>mv rfl i0 e1)<|qy J J J b0<|kq (fun _ _=>nc rfl rfl e1)<|qy J J J b0<|kq (fun _ _=>fa tf rfl rfl e1)<|qy J J J b0<|kq (fun _ x_=>lr (H0.ext x_) 0 rfl nW rfl rfl rfl e1)<|qy J J J b0<|kq (fun _ _=>vz rfl rfl mu e1)<|qy J J J b0<|kq (fun _ _=>lss rfl rfl rfl rfl e1)<|kq (fun _ _=>aR rfl rfl rfl rfl b0 rfl e1)<|kq (fun _ _=>mv (v:=.bool (decide (at_<(ss.size:Int)))) rfl rfl e1) ?_
  rcases bE (decide (at_<(ss.size:Int))) with b1|b1
  ·
   have p1:=dT b1
   refine qy J J J b1<|kq (fun _ _=>mv rfl i0 e1)<|qy J J J b1<|kq (fun _ _=>nc rfl rfl e1)<|qy J J J b1<|kq (fun _ _=>fa tf rfl rfl e1)<|qy J J J b1<|kq (fun _ x_=>lr (H0.ext x_) 0 rfl nW rfl rfl rfl e1)<|qy J J J b1<|kq (fun _ _=>mv rfl i0 e1)<|qy J J J b1<|kq (fun _ _=>nc rfl rfl e1)<|qy J J J b1<|kq (fun _ _=>fa j5 rfl rfl e1)<|qy J J J b1<|kq (fun _ x_=>lr (H0.ext x_) 0 rfl aW rfl rfl rfl e1)<|qy J J J b1<|kq (fun _ _=>W8 rfl rfl rfl rfl aq mu e1)<|qy J J J b1<|kq (fun _ _=>mv rfl i1 e1)<|qy J J J b1<|kq (fun _ _=>eql rfl rfl rfl rfl e1)<|kq (fun _ _=>aR rfl rfl rfl rfl b1 rfl e1)<|kq (fun _ _=>jB (v:=.bool (decide ((su ss at_)=ch))) rfl rfl e1)<|zq ?_
   intro w0 bS
   have H1:=H0.ext bS
   refine nx<|rt<|r1 J J ?_
   exact⟨amh Value.bool (by simp only[cA,b0,b1,BL]),H1.below⟩
  have p1:=dF b1
  refine qn J J J b1<|qn J J J b1<|qn J J J b1<|qn J J J b1<|qn J J J b1<|qn J J J b1<|qn J J J b1<|qn J J J b1<|qn J J J b1<|qn J J J b1<|qn J J J b1<|kq (fun _ _=>cK rfl rfl rfl rfl b1 rfl e1)<|kq (fun _ _=>jB (v:=.bool false) rfl rfl e1)<|zq ?_
  intro w0 bS
  have H1:=H0.ext bS
  refine nx<|rt<|r1 J J ?_
  exact⟨amh Value.bool (by simp only[cA,b0,b1,BL]),H1.below⟩
 have p0:=dF b0
 refine qn J J J b0<|qn J J J b0<|qn J J J b0<|qn J J J b0<|qn J J J b0<|qn J J J b0<|qn J J J b0<|qn J J J b0<|qn J J J b0<|qn J J J b0<|kq (fun _ _=>cK rfl rfl rfl rfl b0 rfl e1)<|kq (fun _ _=>mv (v:=.bool false) rfl rfl e1)<|qn J J J J<|qn J J J J<|qn J J J J<|qn J J J J<|qn J J J J<|qn J J J J<|qn J J J J<|qn J J J J<|qn J J J J<|qn J J J J<|qn J J J J<|kq (fun _ _=>cK rfl rfl rfl rfl rfl rfl e1)<|kq (fun _ _=>jB (v:=.bool false) rfl rfl e1)<|zq ?_
 intro w0 bS
 have H1:=H0.ext bS
 refine nx<|rt<|r1 J J ?_
 exact⟨amh Value.bool (by simp only[cA,b0,BL]),H1.below⟩
theorem qj (yU:ss.size≤maxLen) (ln:aK at_) (eJ:aK bI) (mU:aK er) (Qa:0≤ch∧ch≤255) (eG:0≤at_∧at_≤(ss.size:Int)) (H:HI M w w_ ([box bK #[.string ss,C at_,C bI,C er] 66]++r)):Calls aJ 45 #[pV bK 0,.int .u8 ch] w_ (cb fun v w'=>v=.bool (cA ss at_ er ch)∧HI M w w' ([box bK #[.string ss,C (eH ss at_ er ch),C bI,C er] 66]++r)):=by
 refine enter 16 Tryz.func45 J J J fun f0 ha=>?_
 have i0:f0 0=pV bK 0:=ha 0 bh
 have i1:f0 1=.int .u8 ch:=ha 1 bh
 have AY:maxLen=9223372036854775807:=rfl
 refine aB<|au (v:=.bool false) J J<|av<|sq<|aB<|ak J i0<|ak J i1<|k ?_
 have bP:=B1 (ss:=ss) (at_:=at_) (bI:=bI) (er:=er) (ch:=ch) (w:=w_) (M:=fun _=>False) (fun _ h_=>h_.elim) bq ln eJ mU (by exact Qa) ⟨H.at_ 0 rfl,fun h_=>h_⟩<|by exact eG
 refine ca Vw J (ec J<|ec J e0) bP ?_
 rintro _ w0 ⟨rfl,bS⟩
 have H0:=H.ext bS
 refine k<|jE J J<|z<|nx ?_
 refine cd (b:=!(cA ss at_ er ch)) J J (fun b0=>?_)<|fun b0=>?_
 ·
  refine aB<|au (v:=.bool false) J J<|av<|rt<|aL<|r1 J J ?_
  have e0:(false:Bool)=cA ss at_ er ch:=by simp only[(fY b0),BL]
  have e1:(at_:Int)=eH ss at_ er ch:=by simp only[eH,(fY b0),BL]
  try rw[←e0]
  try rw[←e1]
  refine⟨?_,?_⟩
  · first|rfl|simp only[e0,e1]|(simp only[ami])
  · first|exact H0|simpa +zetaDelta only[e0,e1,ami] using H0
 refine sk<|cI<|ak J i0<|k<|nc J J<|aU j5 J J<|bl H0 0 J aW J J J<|k<|add J J J J (by have h_:=Hr (fk ‹(!cA ss at_ er ch)=false›);unfold aK;omega)<|k<|nc J J<|aU j5 J J<|k<|bp H0 0 J aW J J J J J J J ?_
 intro w1 (H1:HI M w w1 ([box bK #[.string ss,C (at_+1),C bI,C er] 66]++r))
 refine bt<|au (v:=.bool true) J J<|av<|rt<|r1 J J ?_
 have e0:(true:Bool)=cA ss at_ er ch:=by simp only[(fk b0),BL]
 have e1:(at_+1:Int)=eH ss at_ er ch:=by simp only[eH,(fk b0),BL]
 try rw[←e0]
 try rw[←e1]
 refine⟨?_,?_⟩
 · first|rfl|simp only[e0,e1]|(simp only[ami])
 · first|exact H1|simpa +zetaDelta only[e0,e1,ami] using H1
theorem uv {ex:Int} (yU:ss.size≤maxLen) (ln:aK at_) (eJ:aK bI) (mU:aK er) (alH:aK ex) (H:HI M w w_ ([box bK #[.string ss,C at_,C bI,C er] 66]++r)):Calls aJ 71 #[pV bK 0,C ex] w_ (cb fun v w'=>v=.tuple #[]∧HI M w w' ([box bK #[.string ss,C at_,C bI,C (cg er ex)] 66]++r)):=by
 refine enter 13 Tryz.func71 J J J fun f0 ha=>?_
 have i0:f0 0=pV bK 0:=ha 0 bh
 have i1:f0 1=C ex:=ha 1 bh
 refine aB<|ak J i0<|k<|nc J J<|aU te J J<|bl H 0 J wA J J J<|k<|eql J J J J<|z<|nx ?_
 refine cd (b:=decide (er=0)) J J (fun b0=>?_)<|fun b0=>?_
 ·
  have p0:=dT b0
  refine rg<|ak J i0<|ak J i1<|k<|nc J J<|aU te J J<|k<|bp H 0 J wA J J J J J J J ?_
  intro w0 (H0:HI M w w0 ([box bK #[.string ss,C at_,C bI,C ex] 66]++r))
  refine z<|DU J ?_
  have e0:(ex:Int)=cg er ex:=by simp only[cg,b0,BL]
  try rw[←e0]
  refine⟨?_,?_⟩
  · first|rfl|simp only[e0]|(simp only[ami])
  · first|exact H0|simpa +zetaDelta only[e0,ami] using H0
 have p0:=dF b0
 refine sk<|DU J ?_
 have e0:(er:Int)=cg er ex:=by simp only[cg,b0,BL]
 try rw[←e0]
 refine⟨?_,?_⟩
 · first|rfl|simp only[e0]|(simp only[ami])
 · first|exact H|simpa +zetaDelta only[e0,ami] using H
theorem gY (yU:ss.size≤maxLen) (ln:aK at_) (eJ:aK bI) (mU:aK er) (Qa:0≤ch∧ch≤255) (eG:0≤at_∧at_≤(ss.size:Int)) (mR:0≤er∧er≤3) (H:HI M w w_ ([box bK #[.string ss,C at_,C bI,C er] 66]++r)):Calls aJ 47 #[pV bK 0,.int .u8 ch] w_ (cb fun v w'=>∃(kj:Int) (lS:Int),v=.tuple #[]∧HI M w w' ([box bK #[.string ss,C kj,C bI,C lS] 66]++r)∧AN ss at_ er ch=(kj,lS)∧(0≤kj∧at_≤kj∧kj≤(ss.size:Int))∧(0≤lS∧lS≤3)∧(lS=0→er=0∧kj=at_+1)):=by
 refine enter 10 Tryz.func47 J J J fun f0 ha=>?_
 have i0:f0 0=pV bK 0:=ha 0 bh
 have i1:f0 1=.int .u8 ch:=ha 1 bh
 have AY:maxLen=9223372036854775807:=rfl
 have ahb:=ck (b:=ch) (e:=er) eG
 refine aB<|ak J i0<|ak J i1<|k ?_
 let J0:=box bK #[.string ss,C at_,C bI,C er] 66
 have H0:HI M w w_ ([J0]++([]++r)):=HI.aR (l:=[J0]) (l':=[J0]) (t:=r) H [0] aw rfl rfl
 have bP:=qj (bK:=bK) (ss:=ss) (at_:=at_) (bI:=bI) (er:=er) (ch:=ch) (w:=w) (w_:=w_) (r:=([]++r)) (M:=M) bq ln eJ mU (by exact Qa) (by exact eG) H0
 refine ca Fm J (ec J<|ec J e0) bP ?_
 rintro _ w0 ⟨rfl,H1⟩
 let J1:=box bK #[.string ss,C (eH ss at_ er ch),C bI,C er] 66
 have H2:HI M w w0 ([J1]++r):=H1
 refine k<|jE J J<|z<|nx ?_
 refine cd (b:=!(cA ss at_ er ch)) J J (fun b0=>?_)<|fun b0=>?_
 ·
  refine rg<|ak J i0<|k ?_
  have H3:HI M w w0 ([J1]++([]++r)):=HI.aR (l:=[J1]) (l':=[J1]) (t:=r) H2 [0] aw rfl rfl
  have cV:=uv (bK:=bK) (ss:=ss) (at_:=(eH ss at_ er ch)) (bI:=bI) (er:=er) (ex:=2) (w:=w) (w_:=w0) (r:=([]++r)) (M:=M) bq aV eJ mU aV H3
  refine ca L0 J (ec J<|ec J e0) cV ?_
  rintro _ w1 ⟨rfl,H4⟩
  have H5:HI M w w1 ([box bK #[.string ss,C (eH ss at_ er ch),C bI,C (cg er 2)] 66]++r):=H4
  refine z<|DU J ?_
  have e0:(eH ss at_ er ch:Int)=(eH ss at_ er ch):=rfl
  have e1:(cg er 2:Int)=(cg er 2):=rfl
  try rw[←e0]
  try rw[←e1]
  refine⟨(eH ss at_ er ch),(cg er 2),?_,?_,(by simp only[AN,eH,(fY b0),BL]),aq,(by exact kW (x:=2) mR aw),(by exact fun h_=>(Oy h_).elim)⟩
  · first|rfl|simp only[e0,e1]|(simp only[ami])
  · first|exact H5|simpa +zetaDelta only[e0,e1,ami] using H5
 refine sk<|DU J ?_
 have e0:(eH ss at_ er ch:Int)=(eH ss at_ er ch):=rfl
 try rw[←e0]
 refine⟨(eH ss at_ er ch),er,?_,?_,(by simp only[AN,eH,(fk b0),BL]),aq,(by exact mR),(by exact U1 ‹(!cA ss at_ er ch)=false›)⟩
 · first|rfl|simp only[e0]|(simp only[ami])
 · first|exact H2|simpa +zetaDelta only[e0,ami] using H2
theorem qk (yU:ss.size≤maxLen) (ln:aK at_) (eJ:aK bI) (mU:aK er) (eG:0≤at_∧at_≤(ss.size:Int)) (mR:0≤er∧er≤3) (H:HI M w w_ ([box bK #[.string ss,C at_,C bI,C er] 66]++r)):Calls aJ 72 #[pV bK 0] w_ (cb fun v w'=>∃(kj:Int) (lS:Int) (nm:ByteArray),v=.string nm∧HI M w w' ([box bK #[.string ss,C kj,C bI,C lS] 66]++r)∧JI ss at_ er=(kj,lS,nm)∧(0≤kj∧at_≤kj∧kj≤(ss.size:Int))∧(0≤lS∧lS≤3)∧nm.size≤8∧(lS=0→er=0∧at_<kj)):=by
 refine enter 83 Tryz.func72 J J J fun f0 ha=>?_
 have i0:f0 0=pV bK 0:=ha 0 bh
 have AY:maxLen=9223372036854775807:=rfl
 refine aB<|au (v:=.string ⟨#[]⟩) J J<|bt<|ak J i0<|k<|nc J J<|aU j5 J J<|bl H 0 J aW J J J<|au (v:=C at_) J J<|z<|nx ?_
 refine cut (fun f w'=>∃(sM:Int),f 0=pV bK 0∧f 3=C at_∧HI M w w' ([box bK #[.string ss,C sM,C bI,C er] 66]++r)∧(zN ss at_ er 0=sM)∧(at_≤sM∧sM≤at_+8∧sM≤(ss.size:Int))) ?_ ?_
 ·
  refine bk ?_
  refine lp (fun m f w'=>∃(j_:Nat) (p_:Int),m=8-j_∧f 0=pV bK 0∧f 3=C at_∧HI M w w' ([box bK #[.string ss,C p_,C bI,C er] 66]++r)∧(p_=at_+(j_:Int))∧(j_≤8∧p_≤(ss.size:Int))∧(zN ss at_ er 0=zN ss at_ er j_)) _ ⟨0,at_,J,i0,J,H,aq,aq,(by rfl)⟩ ?_
  rintro _ f1 w1 ⟨j_,p_,rfl,s0,s1,H0,IY,pt,hs⟩
  refine sq<|sq ?_
  refine BD J (by kernel_rfl) ?_
  refine kq (fun _ _=>mv rfl s0 e1)<|kq (fun _ _=>nc rfl rfl e1)<|kq (fun _ _=>fa te rfl rfl e1)<|kq (fun _ x_=>lx (H0.ext x_) 0 rfl wA rfl rfl rfl e1)<|kq (fun _ _=>eql rfl rfl rfl rfl e1)<|kq (fun _ _=>mv (v:=.bool (decide (er=0))) rfl rfl e1) ?_
  rcases bE (decide (er=0)) with b0|b0
  ·
   have p0:=dT b0
   refine qy J J J b0<|kq (fun _ _=>mv rfl s0 e1)<|qy J J J b0<|kq (fun _ _=>nc rfl rfl e1)<|qy J J J b0<|kq (fun _ _=>fa j5 rfl rfl e1)<|qy J J J b0<|kq (fun _ x_=>lx (H0.ext x_) 0 rfl aW rfl rfl rfl e1)<|qy J J J b0<|kq (fun _ _=>mv rfl s1 e1)<|qy J J J b0<|kq (fun _ _=>sub rfl rfl rfl rfl aV e1)<|qy J J J b0<|kq (fun _ _=>lss rfl rfl rfl rfl e1)<|kq (fun _ _=>aR rfl rfl rfl rfl b0 rfl e1)<|kq (fun _ _=>mv (v:=.bool (decide ((p_-at_)<8))) rfl rfl e1) ?_
   rcases bE (decide ((p_-at_)<8)) with b1|b1
   ·
    have p1:=dT b1
    refine qy J J J b1<|kq (fun _ _=>mv rfl s0 e1)<|qy J J J b1<|kq (fun _ _=>nc rfl rfl e1)<|qy J J J b1<|kq (fun _ _=>fa j5 rfl rfl e1)<|qy J J J b1<|kq (fun _ x_=>lx (H0.ext x_) 0 rfl aW rfl rfl rfl e1)<|qy J J J b1<|kq (fun _ _=>mv rfl s0 e1)<|qy J J J b1<|kq (fun _ _=>nc rfl rfl e1)<|qy J J J b1<|kq (fun _ _=>fa tf rfl rfl e1)<|qy J J J b1<|kq (fun _ x_=>lx (H0.ext x_) 0 rfl nW rfl rfl rfl e1)<|qy J J J b1<|kq (fun _ _=>vz rfl rfl mu e1)<|qy J J J b1<|kq (fun _ _=>lss rfl rfl rfl rfl e1)<|kq (fun _ _=>aR rfl rfl rfl rfl b1 rfl e1)<|kq (fun _ _=>mv (v:=.bool (decide (p_<(ss.size:Int)))) rfl rfl e1) ?_
    rcases bE (decide (p_<(ss.size:Int))) with b2|b2
    ·
     have p2:=dT b2
     refine qy J J J b2<|kq (fun _ _=>mv rfl s0 e1)<|qy J J J b2<|kq (fun _ _=>nc rfl rfl e1)<|qy J J J b2<|kq (fun _ _=>fa tf rfl rfl e1)<|qy J J J b2<|kq (fun _ x_=>lx (H0.ext x_) 0 rfl nW rfl rfl rfl e1)<|qy J J J b2<|kq (fun _ _=>mv rfl s0 e1)<|qy J J J b2<|kq (fun _ _=>nc rfl rfl e1)<|qy J J J b2<|kq (fun _ _=>fa j5 rfl rfl e1)<|qy J J J b2<|kq (fun _ x_=>lx (H0.ext x_) 0 rfl aW rfl rfl rfl e1)<|qy J J J b2<|kq (fun _ _=>W8 rfl rfl rfl rfl aq mu e1)<|qy J J J b2<|kq (fun _ _=>geq rfl rfl rfl rfl e1)<|kq (fun _ _=>aR rfl rfl rfl rfl b2 rfl e1)<|kq (fun _ _=>mv (v:=.bool (decide (97≤(su ss p_)))) rfl rfl e1) ?_
     rcases bE (decide (97≤(su ss p_))) with b3|b3
     ·
      have p3:=dT b3
      refine qy J J J b3<|kq (fun _ _=>mv rfl s0 e1)<|qy J J J b3<|kq (fun _ _=>nc rfl rfl e1)<|qy J J J b3<|kq (fun _ _=>fa tf rfl rfl e1)<|qy J J J b3<|kq (fun _ x_=>lx (H0.ext x_) 0 rfl nW rfl rfl rfl e1)<|qy J J J b3<|kq (fun _ _=>mv rfl s0 e1)<|qy J J J b3<|kq (fun _ _=>nc rfl rfl e1)<|qy J J J b3<|kq (fun _ _=>fa j5 rfl rfl e1)<|qy J J J b3<|kq (fun _ x_=>lx (H0.ext x_) 0 rfl aW rfl rfl rfl e1)<|qy J J J b3<|kq (fun _ _=>W8 rfl rfl rfl rfl aq mu e1)<|qy J J J b3<|kq (fun _ _=>leq rfl rfl rfl rfl e1)<|kq (fun _ _=>aR rfl rfl rfl rfl b3 rfl e1)<|zq ?_
      intro w2 bS
      have H1:=H0.ext bS
      refine nx ?_
      refine cd (b:=decide ((su ss p_)≤122)) J J (fun b4=>?_)<|fun b4=>?_
      ·
       have p4:=dT b4
       refine sk<|nx<|bk<|rg<|ak J s0<|k<|nc J J<|aU j5 J J<|bl H1 0 J aW J J J<|k<|add J J J J aV<|k<|nc J J<|aU j5 J J<|k<|bp H1 0 J aW J J J J J J J ?_
       intro w3 (H2:HI M w w3 ([box bK #[.string ss,C (p_+1),C bI,C er] 66]++r))
       refine z<|aI ?_
       refine bB _ ?_ ⟨(j_+1),(p_+1),J,s0,s1,H2,aq,aq,(by exact hs.trans (Ym IY b0 b1 b2 b3 b4))⟩
       omega
      have p4:=dF b4
      refine ex<|aX<|bf<|bg ?_
      refine A7 ⟨p_,s0,s1,H1,(by exact hs.trans (zf IY<|by simp only[b0,b1,b2,b3,b4,BL])),aq⟩
     have p3:=dF b3
     refine qn J J J b3<|qn J J J b3<|qn J J J b3<|qn J J J b3<|qn J J J b3<|qn J J J b3<|qn J J J b3<|qn J J J b3<|qn J J J b3<|qn J J J b3<|kq (fun _ _=>cK rfl rfl rfl rfl b3 rfl e1)<|zq ?_
     intro w2 bS
     have H1:=H0.ext bS
     refine nx<|nP J J J<|ex<|aX<|bf<|bg ?_
     refine A7 ⟨p_,s0,s1,H1,(by exact hs.trans (zf IY<|by simp only[b0,b1,b2,b3,BL])),aq⟩
    have p2:=dF b2
    refine qn J J J b2<|qn J J J b2<|qn J J J b2<|qn J J J b2<|qn J J J b2<|qn J J J b2<|qn J J J b2<|qn J J J b2<|qn J J J b2<|qn J J J b2<|kq (fun _ _=>cK rfl rfl rfl rfl b2 rfl e1)<|kq (fun _ _=>mv (v:=.bool false) rfl rfl e1)<|qn J J J J<|qn J J J J<|qn J J J J<|qn J J J J<|qn J J J J<|qn J J J J<|qn J J J J<|qn J J J J<|qn J J J J<|qn J J J J<|kq (fun _ _=>cK rfl rfl rfl rfl rfl rfl e1)<|zq ?_
    intro w2 bS
    have H1:=H0.ext bS
    refine nx<|nP J J J<|ex<|aX<|bf<|bg ?_
    refine A7 ⟨p_,s0,s1,H1,(by exact hs.trans (zf IY<|by simp only[b0,b1,b2,BL])),aq⟩
   have p1:=dF b1
   refine qn J J J b1<|qn J J J b1<|qn J J J b1<|qn J J J b1<|qn J J J b1<|qn J J J b1<|qn J J J b1<|qn J J J b1<|qn J J J b1<|qn J J J b1<|kq (fun _ _=>cK rfl rfl rfl rfl b1 rfl e1)<|kq (fun _ _=>mv (v:=.bool false) rfl rfl e1)<|qn J J J J<|qn J J J J<|qn J J J J<|qn J J J J<|qn J J J J<|qn J J J J<|qn J J J J<|qn J J J J<|qn J J J J<|qn J J J J<|kq (fun _ _=>cK rfl rfl rfl rfl rfl rfl e1)<|kq (fun _ _=>mv (v:=.bool false) rfl rfl e1)<|qn J J J J<|qn J J J J<|qn J J J J<|qn J J J J<|qn J J J J<|qn J J J J<|qn J J J J<|qn J J J J<|qn J J J J<|qn J J J J<|kq (fun _ _=>cK rfl rfl rfl rfl rfl rfl e1)<|zq ?_
   intro w2 bS
   have H1:=H0.ext bS
   refine nx<|nP J J J<|ex<|aX<|bf<|bg ?_
   refine A7 ⟨p_,s0,s1,H1,(by exact hs.trans (zf IY<|by simp only[b0,b1,BL])),aq⟩
  have p0:=dF b0
  refine qn J J J b0<|qn J J J b0<|qn J J J b0<|qn J J J b0<|qn J J J b0<|qn J J J b0<|qn J J J b0<|kq (fun _ _=>cK rfl rfl rfl rfl b0 rfl e1)<|kq (fun _ _=>mv (v:=.bool false) rfl rfl e1)<|qn J J J J<|qn J J J J<|qn J J J J<|qn J J J J<|qn J J J J<|qn J J J J<|qn J J J J<|qn J J J J<|qn J J J J<|qn J J J J<|kq (fun _ _=>cK rfl rfl rfl rfl rfl rfl e1)<|kq (fun _ _=>mv (v:=.bool false) rfl rfl e1)<|qn J J J J<|qn J J J J<|qn J J J J<|qn J J J J<|qn J J J J<|qn J J J J<|qn J J J J<|qn J J J J<|qn J J J J<|qn J J J J<|kq (fun _ _=>cK rfl rfl rfl rfl rfl rfl e1)<|kq (fun _ _=>mv (v:=.bool false) rfl rfl e1)<|qn J J J J<|qn J J J J<|qn J J J J<|qn J J J J<|qn J J J J<|qn J J J J<|qn J J J J<|qn J J J J<|qn J J J J<|qn J J J J<|kq (fun _ _=>cK rfl rfl rfl rfl rfl rfl e1)<|zq ?_
  intro w2 bS
  have H1:=H0.ext bS
  refine nx<|nP J J J<|ex<|aX<|bf<|bg ?_
  refine A7 ⟨p_,s0,s1,H1,(by exact hs.trans (zf IY<|by simp only[b0,BL])),aq⟩
 ·
  rintro f0 w0 ⟨sM,s2,s3,H3,Bo,alo⟩
  refine sq<|aB<|ak J s2<|k<|nc J J<|aU j5 J J<|bl H3 0 J aW J J J<|ak J s3<|k<|eql J J J J<|z<|nx ?_
  refine cd (b:=decide (sM=at_)) J J (fun b1=>?_)<|fun b1=>?_
  ·
   have p1:=dT b1
   refine rg<|ak J s2<|k ?_
   let J0:=box bK #[.string ss,C sM,C bI,C er] 66
   have H4:HI M w w0 ([J0]++([]++r)):=HI.aR (l:=[J0]) (l':=[J0]) (t:=r) H3 [0] aw rfl rfl
   have bP:=uv (bK:=bK) (ss:=ss) (at_:=sM) (bI:=bI) (er:=er) (ex:=2) (w:=w) (w_:=w0) (r:=([]++r)) (M:=M) bq aV eJ mU aV H4
   refine ca L0 J (ec J<|ec J e0) bP ?_
   rintro _ w3 ⟨rfl,H5⟩
   refine av<|sq ?_
   refine BD J (by kernel_rfl) ?_
   refine kq (fun _ _=>mv rfl s2 e1)<|kq (fun _ _=>nc rfl rfl e1)<|kq (fun _ _=>fa tf rfl rfl e1)<|kq (fun _ x_=>lx (H5.ext x_) 0 rfl nW rfl rfl rfl e1)<|kq (fun _ _=>mv rfl s3 e1)<|kq (fun _ _=>mv rfl s2 e1)<|kq (fun _ _=>nc rfl rfl e1)<|kq (fun _ _=>fa j5 rfl rfl e1)<|kq (fun _ x_=>lx (H5.ext x_) 0 rfl aW rfl rfl rfl e1)<|kq (fun _ _=>Pb rfl rfl rfl rfl rfl rfl aq mu e1)<|kq (fun _ _=>jB (v:=.string (ss.extract at_.toNat sM.toNat)) rfl rfl e1)<|zq ?_
   intro w4 cY
   have H7:=H5.ext cY
   refine nx<|rt<|r1 J J ?_
   have e0:(ss.extract at_.toNat sM.toNat:ByteArray)=(ss.extract at_.toNat sM.toNat):=rfl
   have e1:(cg er 2:Int)=(cg er 2):=rfl
   try rw[←e0]
   try rw[←e1]
   refine⟨sM,(cg er 2),(ss.extract at_.toNat sM.toNat),?_,?_,(by simp only[JI,Bo,b1,BL]),aq,(by exact kW (x:=2) mR aw),(by rw[Fq aq aq];omega),(by exact fun h_=>(Oy h_).elim)⟩
   · first|rfl|simp only[e0,e1]|(simp only[ami])
   · first|exact H7|simpa +zetaDelta only[e0,e1,ami] using H7
  have p1:=dF b1
  refine sk<|nx<|sq ?_
  refine BD J (by kernel_rfl) ?_
  refine kq (fun _ _=>mv rfl s2 e1)<|kq (fun _ _=>nc rfl rfl e1)<|kq (fun _ _=>fa tf rfl rfl e1)<|kq (fun _ x_=>lx (H3.ext x_) 0 rfl nW rfl rfl rfl e1)<|kq (fun _ _=>mv rfl s3 e1)<|kq (fun _ _=>mv rfl s2 e1)<|kq (fun _ _=>nc rfl rfl e1)<|kq (fun _ _=>fa j5 rfl rfl e1)<|kq (fun _ x_=>lx (H3.ext x_) 0 rfl aW rfl rfl rfl e1)<|kq (fun _ _=>Pb rfl rfl rfl rfl rfl rfl aq mu e1)<|kq (fun _ _=>jB (v:=.string (ss.extract at_.toNat sM.toNat)) rfl rfl e1)<|zq ?_
  intro w3 cY
  have H4:=H3.ext cY
  refine nx<|rt<|r1 J J ?_
  have e0:(ss.extract at_.toNat sM.toNat:ByteArray)=(ss.extract at_.toNat sM.toNat):=rfl
  try rw[←e0]
  refine⟨sM,er,(ss.extract at_.toNat sM.toNat),?_,?_,(by simp only[JI,Bo,b1,BL]),aq,(by exact mR),(by rw[Fq aq aq];omega),(by exact fun h_=>⟨h_,by omega⟩)⟩
  · first|rfl|simp only[e0]|(simp only[ami])
  · first|exact H4|simpa +zetaDelta only[e0,ami] using H4
theorem nS (yU:ss.size≤maxLen) (ln:aK at_) (eJ:aK bI) (mU:aK er) (eG:0≤at_∧at_≤(ss.size:Int)) (mR:0≤er∧er≤3) (H:HI M w w_ ([box bK #[.string ss,C at_,C bI,C er] 66]++r)):Calls aJ 73 #[pV bK 0] w_ (cb fun v w'=>∃(kj:Int) (lS:Int) (vl:Int),v=C vl∧HI M w w' ([box bK #[.string ss,C kj,C bI,C lS] 66]++r)∧K9 ss at_ er=(kj,lS,vl)∧(0≤kj∧at_≤kj∧kj≤(ss.size:Int))∧(0≤lS∧lS≤3)∧aK vl∧(lS=0→er=0)):=by
 refine enter 49 Tryz.func73 J J J fun f0 ha=>?_
 have i0:f0 0=pV bK 0:=ha 0 bh
 have AY:maxLen=9223372036854775807:=rfl
 have HF:=Uf eG
 refine aB<|au (v:=C 0) J J<|av<|sq<|aB<|ak J i0<|k<|nc J J<|aU te J J<|bl H 0 J wA J J J<|k<|neq J J J J<|z<|nx ?_
 refine cd (b:=!decide (er=0)) J J (fun b0=>?_)<|fun b0=>?_
 ·
  have p0:=dF<|fY b0
  refine aB<|au (v:=C 0) J J<|av<|rt<|aL<|r1 J J ?_
  refine⟨at_,er,0,?_,?_,(by simp only[K9,(fY b0),BL]),aq,(by exact mR),(by unfold aK;decide),(by exact id)⟩
  · first|rfl|simp only[ami]
  · first|exact H|simpa +zetaDelta only[ami] using H
 have p0:=dT<|fk b0
 refine sk<|nx<|sq ?_
 refine BD J (by kernel_rfl) ?_
 refine kq (fun _ _=>mv rfl i0 e1)<|kq (fun _ _=>nc rfl rfl e1)<|kq (fun _ _=>fa j5 rfl rfl e1)<|kq (fun _ x_=>lx (H.ext x_) 0 rfl aW rfl rfl rfl e1)<|kq (fun _ _=>mv rfl i0 e1)<|kq (fun _ _=>nc rfl rfl e1)<|kq (fun _ _=>fa tf rfl rfl e1)<|kq (fun _ x_=>lx (H.ext x_) 0 rfl nW rfl rfl rfl e1)<|kq (fun _ _=>mv rfl i0 e1)<|kq (fun _ _=>nc rfl rfl e1)<|kq (fun _ _=>fa j5 rfl rfl e1)<|kq (fun _ x_=>lx (H.ext x_) 0 rfl aW rfl rfl rfl e1) ?_
 refine kq (v:=C (gr ss at_)) (fun v_ x_=>?_) ?_
 ·
  have cc:=UU (s:=ss) (at_:=at_) (w:=v_) bq ln
  exact ca ae3 J (ec J<|ec J e0) cc fun _ _ h_=>e2 h_
 refine kq (fun _ _=>add rfl rfl rfl rfl (by unfold aK;omega) e1)<|kq (fun _ _=>jB (v:=C (at_+(gr ss at_))) rfl rfl e1)<|zq ?_
 intro w0 bS
 have H0:=H.ext bS
 refine nx<|sq ?_
 refine BD J (by kernel_rfl) ?_
 refine kq (fun _ _=>mv rfl i0 e1)<|kq (fun _ _=>nc rfl rfl e1)<|kq (fun _ _=>fa tf rfl rfl e1)<|kq (fun _ x_=>lx (H0.ext x_) 0 rfl nW rfl rfl rfl e1)<|kq (fun _ _=>mv rfl i0 e1)<|kq (fun _ _=>nc rfl rfl e1)<|kq (fun _ _=>fa j5 rfl rfl e1)<|kq (fun _ x_=>lx (H0.ext x_) 0 rfl aW rfl rfl rfl e1)<|kq (fun _ _=>mv (v:=C (at_+(gr ss at_))) rfl rfl e1)<|kq (fun _ _=>Pb rfl rfl rfl rfl rfl rfl aq mu e1) ?_
 refine kq (v:=.tuple #[C ((gh<|ss.extract at_.toNat (at_+(gr ss at_)).toNat).1),C ((gh<|ss.extract at_.toNat (at_+(gr ss at_)).toNat).2)]) (fun v_ x_=>?_) ?_
 ·
  have cc:=Y0 (s:=(ss.extract at_.toNat (at_+(gr ss at_)).toNat)) (w:=v_)<|by exact Nat.le_trans (CO _ _ _) yU
  exact ca ae2 J (ec J e0) cc fun _ _ h_=>e2 h_
 refine kq (fun _ _=>mv (v:=.tuple #[C ((gh<|ss.extract at_.toNat (at_+(gr ss at_)).toNat).1),C ((gh<|ss.extract at_.toNat (at_+(gr ss at_)).toNat).2)]) rfl rfl e1)<|kq (fun _ _=>xt rfl rfl rfl e1)<|kq (fun _ _=>xt rfl rfl rfl e1)<|kq (fun _ _=>jB (v:=C ((gh<|ss.extract at_.toNat (at_+(gr ss at_)).toNat).1)) rfl rfl e1)<|kq (fun _ _=>jB (v:=C ((gh<|ss.extract at_.toNat (at_+(gr ss at_)).toNat).2)) rfl rfl e1)<|zq ?_
 intro w1 cY
 have H1:=H0.ext cY
 refine nx<|sq<|aB<|ak (v:=C ((gh<|ss.extract at_.toNat (at_+(gr ss at_)).toNat).2)) J J<|k<|neq J J J J<|z<|nx ?_
 refine cd (b:=!decide (((gh<|ss.extract at_.toNat (at_+(gr ss at_)).toNat).2)=0)) J J (fun b1=>?_)<|fun b1=>?_
 ·
  have p1:=dF<|fY b1
  refine aB<|ak J i0<|ak (v:=C ((gh<|ss.extract at_.toNat (at_+(gr ss at_)).toNat).2)) J J<|k ?_
  let J0:=box bK #[.string ss,C at_,C bI,C er] 66
  have H2:HI M w w1 ([J0]++([]++r)):=HI.aR (l:=[J0]) (l':=[J0]) (t:=r) H1 [0] aw rfl rfl
  have bP:=uv (bK:=bK) (ss:=ss) (at_:=at_) (bI:=bI) (er:=er) (ex:=((gh<|ss.extract at_.toNat (at_+(gr ss at_)).toNat).2)) (w:=w) (w_:=w1) (r:=([]++r)) (M:=M) bq ln eJ mU (by have h_:=EZ (ss.extract at_.toNat (at_+gr ss at_).toNat);unfold aK;omega) H2
  refine ca L0 J (ec J<|ec J e0) bP ?_
  rintro _ w2 ⟨rfl,H3⟩
  have H4:HI M w w2 ([box bK #[.string ss,C at_,C bI,C (cg er ((gh (ss.extract at_.toNat (at_+(gr ss at_)).toNat)).2))] 66]++r):=H3
  refine bt<|au (v:=C 0) J J<|av<|rt<|aL<|r1 J J ?_
  have e0:(cg er ((gh (ss.extract at_.toNat (at_+(gr ss at_)).toNat)).2):Int)=(cg er ((gh (ss.extract at_.toNat (at_+(gr ss at_)).toNat)).2)):=rfl
  try rw[←e0]
  refine⟨at_,(cg er<|(gh<|ss.extract at_.toNat (at_+(gr ss at_)).toNat).2),0,?_,?_,(by simp only[K9,(fk b0),(fY b1),BL]),aq,(by exact kW mR (EZ _).2),(by unfold aK;decide),(by exact fun h_=>(VI (dF<|fY bq) h_).elim)⟩
  · first|rfl|simp only[e0]|(simp only[ami])
  · first|exact H4|simpa +zetaDelta only[e0,ami] using H4
 have p1:=dT<|fk b1
 refine sk<|cI<|ak J i0<|ak (v:=C (at_+(gr ss at_))) J J<|k<|nc J J<|aU j5 J J<|k<|bp H1 0 J aW J J J J J J J ?_
 intro w2 (H2:HI M w w2 ([box bK #[.string ss,C (at_+(gr ss at_)),C bI,C er] 66]++r))
 refine bt<|ak (v:=C ((gh<|ss.extract at_.toNat (at_+(gr ss at_)).toNat).1)) J J<|au (v:=C ((gh<|ss.extract at_.toNat (at_+(gr ss at_)).toNat).1)) J J<|av<|rt<|r1 J J ?_
 have e0:((gh (ss.extract at_.toNat (at_+(gr ss at_)).toNat)).1:Int)=((gh (ss.extract at_.toNat (at_+(gr ss at_)).toNat)).1):=rfl
 have e1:(at_+(gr ss at_):Int)=(at_+(gr ss at_)):=rfl
 try rw[←e0]
 try rw[←e1]
 refine⟨(at_+(gr ss at_)),er,((gh<|ss.extract at_.toNat (at_+(gr ss at_)).toNat).1),?_,?_,(by simp only[K9,(fk b0),(fk b1),BL]),aq,(by exact mR),(by exact(EZ _).1),(by exact id)⟩
 · first|rfl|simp only[e0,e1]|(simp only[ami])
 · first|exact H2|simpa +zetaDelta only[e0,e1,ami] using H2
theorem NM (yU:ss.size≤maxLen) (ln:aK at_) (eJ:aK bI) (mU:aK er) (eG:0≤at_∧at_≤(ss.size:Int)) (mR:0≤er∧er≤3) (ahm:0≤bI∧bI≤9223372036854775000) (H:HI M w w_ ([box bK #[.string ss,C at_,C bI,C er] 66]++r)):Calls aJ 46 #[pV bK 0] w_ (cb fun v w'=>∃(kj:Int) (lS:Int) (wv:Bool) (nm:ByteArray) (vl:Int),v=.agg #[.bool wv,.string nm,C vl]∧HI M w w' ([box bK #[.string ss,C kj,C (bI+1),C lS] 66]++r)∧zC ss at_ bI er=(kj,lS,(wv,nm,vl))∧(0≤kj∧at_≤kj∧kj≤(ss.size:Int))∧(0≤lS∧lS≤3)∧nm.size≤8∧aK vl∧(lS=0→at_+1≤kj)):=by
 refine enter 45 Tryz.func46 J J J fun f0 ha=>?_
 have i0:f0 0=pV bK 0:=ha 0 bh
 have AY:maxLen=9223372036854775807:=rfl
 refine aB<|k<|al H iu ?_
 let J1:=box bK #[.string ss,C at_,C bI,C er] 66
 intro aY w0 bS (H0:HI M w w0 ([box aY #[.bool false,.string ⟨#[]⟩,C 0] 43,J1]++r))
 let J0:=box aY #[.bool false,.string ⟨#[]⟩,C 0] 43
 refine av<|sq<|aB<|ak J i0<|k<|nc J J<|aU mV J J<|bl H0 1 J aW J J J<|k<|eql J J J J<|ak (v:=.bool (decide (bI=4096))) J J ?_
 rcases bE (decide (bI=4096)) with b0|b0
 ·
  have p0:=dT b0
  refine aT J J J b0<|mv J i0<|aT J J J b0 ?_
  have bP:=B1 (ss:=ss) (at_:=at_) (bI:=bI) (er:=er) (ch:=119) (w:=w0) (M:=fun _=>False) (fun _ h_=>h_.elim) bq ln eJ mU aw ⟨H0.at_ 1 rfl,fun h_=>h_⟩ aq
  refine ca Vw J (ec J<|ec J e0) bP ?_
  rintro _ w1 ⟨rfl,cY⟩
  have H1:=H0.ext cY
  refine aT J J J b0<|mv (v:=.bool (cA ss at_ er 119)) J J ?_
  rcases bE (cA ss at_ er 119) with b1|b1
  ·
   refine aN J J J b1<|aN J J J b1<|aT J J J b0<|aR J J J J b1 J<|k<|aR J J J J b0 J<|av<|oP J J J<|rg<|ak J i0<|k ?_
   have H2:HI M w w1 ([J1]++([J0]++r)):=HI.aR (l:=[J0,J1]) (l':=[J1,J0]) (t:=r) H1 [1,0] aw rfl rfl
   have cV:=uv (bK:=bK) (ss:=ss) (at_:=at_) (bI:=bI) (er:=er) (ex:=3) (w:=w) (w_:=w1) (r:=([J0]++r)) (M:=M) bq ln eJ mU aV H2
   refine ca L0 J (ec J<|ec J e0) cV ?_
   rintro _ w2 ⟨rfl,H3⟩
   let J2:=box bK #[.string ss,C at_,C bI,C (cg er 3)] 66
   refine bt<|k<|al H3 iu ?_
   intro ba w3 eT (H5:HI M w w3 ([box ba #[.bool false,.string ⟨#[]⟩,C 0] 43,J2,J0]++r))
   let J3:=box ba #[.bool false,.string ⟨#[]⟩,C 0] 43
   refine av<|sq<|aB<|ak J i0<|k ?_
   have H6:HI M w w3 ([J2]++([J3,J0]++r)):=HI.aR (l:=[J3,J2,J0]) (l':=[J2,J3,J0]) (t:=r) H5 [1,0,2] aw rfl rfl
   have fT:=qj (bK:=bK) (ss:=ss) (at_:=at_) (bI:=bI) (er:=(cg er 3)) (ch:=119) (w:=w) (w_:=w3) (r:=([J3,J0]++r)) (M:=M) bq ln eJ (by have h_:=kW (x:=3) mR aw;unfold aK;omega) aw aq H6
   refine ca Fm J (ec J<|ec J e0) fT ?_
   rintro _ w4 ⟨rfl,H7⟩
   let J4:=box bK #[.string ss,C (eH ss at_ (cg er 3) 119),C bI,C (cg er 3)] 66
   refine aU py J J<|k<|bp H7 1 J l5 J J J J J J J ?_
   let J5:=box ba #[.bool (cA ss at_ (cg er 3) 119),.string ⟨#[]⟩,C 0] 43
   intro w5 (H9:HI M w w5 ([J4,J5,J0]++r))
   refine bt<|aU py J J<|bl H9 1 J l5 J J J<|k<|jE J J<|z<|nx ?_
   refine cd (b:=!(cA ss at_ (cg er 3) 119)) J J (fun b2=>?_)<|fun b2=>?_
   ·
    refine rg<|ak J i0<|k ?_
    have dC:HI M w w5 ([J4]++([J5,J0]++r)):=HI.aR (l:=[J4,J5,J0]) (l':=[J4,J5,J0]) (t:=r) H9 [0,1,2] aw rfl rfl
    have eU:=gY (bK:=bK) (ss:=ss) (at_:=(eH ss at_ (cg er 3) 119)) (bI:=bI) (er:=(cg er 3)) (ch:=114) (w:=w) (w_:=w5) (r:=([J5,J0]++r)) (M:=M) bq (by have h_:=ck (b:=119) (e:=er) eG;have lb:=ck (b:=119) (e:=cg er 3) eG;unfold aK;omega) eJ (by have h_:=kW (x:=3) mR aw;unfold aK;omega) aw (by have h_:=ck (b:=119) (e:=er) eG;have lb:=ck (b:=119) (e:=cg er 3) eG;omega) (by exact kW (x:=3) mR aw) dC
    refine ca oZ J (ec J<|ec J e0) eU ?_
    rintro _ w6 ⟨o0,o1,rfl,cT,q0,q1,q2,q3⟩
    let J6:=box bK #[.string ss,C o0,C bI,C o1] 66
    have dt:HI M w w6 ([J6,J5,J0]++r):=cT
    refine bt<|ak J i0<|k ?_
    have dw:HI M w w6 ([J6]++([J5,J0]++r)):=HI.aR (l:=[J6,J5,J0]) (l':=[J6,J5,J0]) (t:=r) dt [0,1,2] aw rfl rfl
    have kR:=gY (bK:=bK) (ss:=ss) (at_:=o0) (bI:=bI) (er:=o1) (ch:=58) (w:=w) (w_:=w6) (r:=([J5,J0]++r)) (M:=M) bq aV eJ aV aw aq aq dw
    refine ca oZ J (ec J<|ec J e0) kR ?_
    rintro _ w7 ⟨o2,o3,rfl,cJ,q4,q5,q6,q7⟩
    let J7:=box bK #[.string ss,C o2,C bI,C o3] 66
    have dS:HI M w w7 ([J7,J5,J0]++r):=cJ
    refine bt<|ak J i0<|k ?_
    have de:HI M w w7 ([J7]++([J5,J0]++r)):=HI.aR (l:=[J7,J5,J0]) (l':=[J7,J5,J0]) (t:=r) dS [0,1,2] aw rfl rfl
    have lI:=qk (bK:=bK) (ss:=ss) (at_:=o2) (bI:=bI) (er:=o3) (w:=w) (w_:=w7) (r:=([J5,J0]++r)) (M:=M) bq aV eJ aV aq aq de
    refine ca Fj J (ec J e0) lI ?_
    rintro _ w8 ⟨o4,o5,o6,rfl,cO,q8,q9,ux,wK,DW⟩
    let J8:=box bK #[.string ss,C o4,C bI,C o5] 66
    refine aU mW J J<|k<|bp cO 1 J nW J J J J J J J ?_
    let J9:=box ba #[.bool (cA ss at_ (cg er 3) 119),.string o6,C 0] 43
    intro w9 (dG:HI M w w9 ([J8,J9,J0]++r))
    refine bt<|ak J i0<|k ?_
    have cC:HI M w w9 ([J8]++([J9,J0]++r)):=HI.aR (l:=[J8,J9,J0]) (l':=[J8,J9,J0]) (t:=r) dG [0,1,2] aw rfl rfl
    have xy:=gY (bK:=bK) (ss:=ss) (at_:=o4) (bI:=bI) (er:=o5) (ch:=61) (w:=w) (w_:=w9) (r:=([J9,J0]++r)) (M:=M) bq aV eJ aV aw aq aq cC
    refine ca oZ J (ec J<|ec J e0) xy ?_
    rintro _ dD ⟨o7,o8,rfl,dR,uw,NN,B6,B5⟩
    let dK:=box bK #[.string ss,C o7,C bI,C o8] 66
    have dB:HI M w dD ([dK,J9,J0]++r):=dR
    refine bt<|ak J i0<|k ?_
    have eO:HI M w dD ([dK]++([J9,J0]++r)):=HI.aR (l:=[dK,J9,J0]) (l':=[dK,J9,J0]) (t:=r) dB [0,1,2] aw rfl rfl
    have Ab:=nS (bK:=bK) (ss:=ss) (at_:=o7) (bI:=bI) (er:=o8) (w:=w) (w_:=dD) (r:=([J9,J0]++r)) (M:=M) bq aV eJ aV aq aq eO
    refine ca Fi J (ec J e0) Ab ?_
    rintro _ eb ⟨o9,kv,fF,rfl,fc,xP,wJ,q19,wI,DV⟩
    refine aU qD J J<|k<|bp fc 1 J aW J J J J J J J ?_
    let ez:=box ba #[.bool (cA ss at_ (cg er 3) 119),.string o6,C fF] 43
    intro ff (iD:HI M w ff ([box bK #[.string ss,C o9,C bI,C kv] 66,ez,J0]++r))
    refine bt<|ak J i0<|k<|nc J J<|aU mV J J<|bl iD 0 J aW J J J<|k<|add J J J J aV<|k<|nc J J<|aU mV J J<|k<|bp iD 0 J aW J J J J J J J ?_
    let fR:=box bK #[.string ss,C o9,C (bI+1),C kv] 66
    intro hQ (ga:HI M w hQ ([fR,ez,J0]++r))
    refine bt<|k<|cq ga 1 J iu J J aw J<|k<|bp ga 2 J iu J J J J J J J ?_
    let fw:=box aY #[.bool (cA ss at_ (cg er 3) 119),.string o6,C fF] 43
    intro iO (lL:HI M w iO ([fR,ez,fw]++r))
    refine av<|rt<|oN lL 2 J iu J J J J aw ?_
    have il:=HI.aR (l:=[fR,ez,fw]) (l':=[fR]) (t:=r) lL [0] aw J J
    have e0:(cA ss at_ (cg er 3) 119:Bool)=(cA ss at_ (cg er 3) 119):=rfl
    have e1:(bI+1:Int)=(bI+1):=rfl
    try rw[←e0]
    try rw[←e1]
    refine⟨o9,kv,(cA ss at_ (cg er 3) 119),o6,fF,?_,?_,(by simp only[zC,IH,IG,q0,q4,q8,uw,xP,b0,b1,(fY b2),BL]),(by have h_:=ck (b:=119) (e:=er) eG;have lb:=ck (b:=119) (e:=cg er 3) eG;omega),aq,bq,bq,(by have h_:=ck (b:=119) (e:=er) eG;have lb:=ck (b:=119) (e:=cg er 3) eG;omega)⟩
    · first|rfl|simp only[e0,e1]|(simp only[ami])
    · first|exact il|simpa +zetaDelta only[e0,e1,ami] using il
   refine sk<|cI<|ak J i0<|k ?_
   have dC:HI M w w5 ([J4]++([J5,J0]++r)):=HI.aR (l:=[J4,J5,J0]) (l':=[J4,J5,J0]) (t:=r) H9 [0,1,2] aw rfl rfl
   have eU:=gY (bK:=bK) (ss:=ss) (at_:=(eH ss at_ (cg er 3) 119)) (bI:=bI) (er:=(cg er 3)) (ch:=58) (w:=w) (w_:=w5) (r:=([J5,J0]++r)) (M:=M) bq (by have h_:=ck (b:=119) (e:=er) eG;have lb:=ck (b:=119) (e:=cg er 3) eG;unfold aK;omega) eJ (by have h_:=kW (x:=3) mR aw;unfold aK;omega) aw (by have h_:=ck (b:=119) (e:=er) eG;have lb:=ck (b:=119) (e:=cg er 3) eG;omega) (by exact kW (x:=3) mR aw) dC
   refine ca oZ J (ec J<|ec J e0) eU ?_
   rintro _ w6 ⟨o0,o1,rfl,cT,q0,q1,q2,q3⟩
   let hG:=box bK #[.string ss,C o0,C bI,C o1] 66
   have dt:HI M w w6 ([hG,J5,J0]++r):=cT
   refine bt<|ak J i0<|k ?_
   have dw:HI M w w6 ([hG]++([J5,J0]++r)):=HI.aR (l:=[hG,J5,J0]) (l':=[hG,J5,J0]) (t:=r) dt [0,1,2] aw rfl rfl
   have kR:=qk (bK:=bK) (ss:=ss) (at_:=o0) (bI:=bI) (er:=o1) (w:=w) (w_:=w6) (r:=([J5,J0]++r)) (M:=M) bq aV eJ aV aq aq dw
   refine ca Fj J (ec J e0) kR ?_
   rintro _ w7 ⟨o2,o3,o4,rfl,cJ,q4,q5,q6,q7,q8⟩
   let nt:=box bK #[.string ss,C o2,C bI,C o3] 66
   refine aU mW J J<|k<|bp cJ 1 J nW J J J J J J J ?_
   let lh:=box ba #[.bool (cA ss at_ (cg er 3) 119),.string o4,C 0] 43
   intro w8 (de:HI M w w8 ([nt,lh,J0]++r))
   refine bt<|ak J i0<|k ?_
   have cO:HI M w w8 ([nt]++([lh,J0]++r)):=HI.aR (l:=[nt,lh,J0]) (l':=[nt,lh,J0]) (t:=r) de [0,1,2] aw rfl rfl
   have lI:=gY (bK:=bK) (ss:=ss) (at_:=o2) (bI:=bI) (er:=o3) (ch:=61) (w:=w) (w_:=w8) (r:=([lh,J0]++r)) (M:=M) bq aV eJ aV aw aq aq cO
   refine ca oZ J (ec J<|ec J e0) lI ?_
   rintro _ w9 ⟨o5,o6,rfl,dP,q9,ux,wK,DW⟩
   let qY:=box bK #[.string ss,C o5,C bI,C o6] 66
   have dG:HI M w w9 ([qY,lh,J0]++r):=dP
   refine bt<|ak J i0<|k ?_
   have cC:HI M w w9 ([qY]++([lh,J0]++r)):=HI.aR (l:=[qY,lh,J0]) (l':=[qY,lh,J0]) (t:=r) dG [0,1,2] aw rfl rfl
   have xy:=nS (bK:=bK) (ss:=ss) (at_:=o5) (bI:=bI) (er:=o6) (w:=w) (w_:=w9) (r:=([lh,J0]++r)) (M:=M) bq aV eJ aV aq aq cC
   refine ca Fi J (ec J e0) xy ?_
   rintro _ dD ⟨o7,o8,o9,rfl,dR,uw,NN,B6,B5,xP⟩
   refine aU qD J J<|k<|bp dR 1 J aW J J J J J J J ?_
   let jm:=box ba #[.bool (cA ss at_ (cg er 3) 119),.string o4,C o9] 43
   intro eb (eO:HI M w eb ([box bK #[.string ss,C o7,C bI,C o8] 66,jm,J0]++r))
   refine bt<|ak J i0<|k<|nc J J<|aU mV J J<|bl eO 0 J aW J J J<|k<|add J J J J aV<|k<|nc J J<|aU mV J J<|k<|bp eO 0 J aW J J J J J J J ?_
   let ns:=box bK #[.string ss,C o7,C (bI+1),C o8] 66
   intro ff (fc:HI M w ff ([ns,jm,J0]++r))
   refine bt<|k<|cq fc 1 J iu J J aw J<|k<|bp fc 2 J iu J J J J J J J ?_
   let oS:=box aY #[.bool (cA ss at_ (cg er 3) 119),.string o4,C o9] 43
   intro hQ (gI:HI M w hQ ([ns,jm,oS]++r))
   refine av<|rt<|oN gI 2 J iu J J J J aw ?_
   have iD:=HI.aR (l:=[ns,jm,oS]) (l':=[ns]) (t:=r) gI [0] aw J J
   have e0:(cA ss at_ (cg er 3) 119:Bool)=(cA ss at_ (cg er 3) 119):=rfl
   have e1:(bI+1:Int)=(bI+1):=rfl
   try rw[←e0]
   try rw[←e1]
   refine⟨o7,o8,(cA ss at_ (cg er 3) 119),o4,o9,?_,?_,(by simp only[zC,IH,IG,q0,q4,q9,uw,b0,b1,(fk b2),BL]),(by have h_:=ck (b:=119) (e:=er) eG;have lb:=ck (b:=119) (e:=cg er 3) eG;omega),aq,bq,bq,(by have h_:=ck (b:=119) (e:=er) eG;have lb:=ck (b:=119) (e:=cg er 3) eG;omega)⟩
   · first|rfl|simp only[e0,e1]|(simp only[ami])
   · first|exact iD|simpa +zetaDelta only[e0,e1,ami] using iD
  refine aT J J J b1<|mv J i0<|aT J J J b1 ?_
  have cV:=B1 (ss:=ss) (at_:=at_) (bI:=bI) (er:=er) (ch:=114) (w:=w1) (M:=fun _=>False) (fun _ h_=>h_.elim) bq ln eJ mU aw ⟨H1.at_ 1 rfl,fun h_=>h_⟩ aq
  refine ca Vw J (ec J<|ec J e0) cV ?_
  rintro _ w2 ⟨rfl,eT⟩
  have H2:=H1.ext eT
  refine aT J J J b0<|cK J J J J b1 J<|k<|aR J J J J b0 J<|z<|nx ?_
  refine cd (b:=cA ss at_ er 114) J J (fun b2=>?_)<|fun b2=>?_
  ·
   refine rg<|ak J i0<|k ?_
   have H3:HI M w w2 ([J1]++([J0]++r)):=HI.aR (l:=[J0,J1]) (l':=[J1,J0]) (t:=r) H2 [1,0] aw rfl rfl
   have fT:=uv (bK:=bK) (ss:=ss) (at_:=at_) (bI:=bI) (er:=er) (ex:=3) (w:=w) (w_:=w2) (r:=([J0]++r)) (M:=M) bq ln eJ mU aV H3
   refine ca L0 J (ec J<|ec J e0) fT ?_
   rintro _ w3 ⟨rfl,H4⟩
   let nf:=box bK #[.string ss,C at_,C bI,C (cg er 3)] 66
   refine bt<|k<|al H4 iu ?_
   intro ba w4 fB (H6:HI M w w4 ([box ba #[.bool false,.string ⟨#[]⟩,C 0] 43,nf,J0]++r))
   let lK:=box ba #[.bool false,.string ⟨#[]⟩,C 0] 43
   refine av<|sq<|aB<|ak J i0<|k ?_
   have H7:HI M w w4 ([nf]++([lK,J0]++r)):=HI.aR (l:=[lK,nf,J0]) (l':=[nf,lK,J0]) (t:=r) H6 [1,0,2] aw rfl rfl
   have eU:=qj (bK:=bK) (ss:=ss) (at_:=at_) (bI:=bI) (er:=(cg er 3)) (ch:=119) (w:=w) (w_:=w4) (r:=([lK,J0]++r)) (M:=M) bq ln eJ (by have h_:=kW (x:=3) mR aw;unfold aK;omega) aw aq H7
   refine ca Fm J (ec J<|ec J e0) eU ?_
   rintro _ w5 ⟨rfl,H8⟩
   let u7:=box bK #[.string ss,C (eH ss at_ (cg er 3) 119),C bI,C (cg er 3)] 66
   refine aU py J J<|k<|bp H8 1 J l5 J J J J J J J ?_
   let tH:=box ba #[.bool (cA ss at_ (cg er 3) 119),.string ⟨#[]⟩,C 0] 43
   let bc:=[tH,J0]
   intro w6 (dC:HI M w w6 ((u7::bc)++r))
   refine bt<|aU py J J<|bl dC 1 J l5 J J J<|k<|jE J J<|z<|nx ?_
   refine cd (b:=!(cA ss at_ (cg er 3) 119)) J J (fun b3=>?_)<|fun b3=>?_
   ·
    refine rg<|ak J i0<|k ?_
    have cT:HI M w w6 ([u7]++([tH,J0]++r)):=HI.aR (l:=(u7::bc)) (l':=(u7::bc)) (t:=r) dC [0,1,2] aw rfl rfl
    have kR:=gY (bK:=bK) (ss:=ss) (at_:=(eH ss at_ (cg er 3) 119)) (bI:=bI) (er:=(cg er 3)) (ch:=114) (w:=w) (w_:=w6) (r:=([tH,J0]++r)) (M:=M) bq (by have h_:=ck (b:=119) (e:=er) eG;have lb:=ck (b:=119) (e:=cg er 3) eG;unfold aK;omega) eJ (by have h_:=kW (x:=3) mR aw;unfold aK;omega) aw (by have h_:=ck (b:=119) (e:=er) eG;have lb:=ck (b:=119) (e:=cg er 3) eG;omega) (by exact kW (x:=3) mR aw) cT
    refine ca oZ J (ec J<|ec J e0) kR ?_
    rintro _ w7 ⟨o0,o1,rfl,dt,q0,q1,q2,q3⟩
    let BF:=box bK #[.string ss,C o0,C bI,C o1] 66
    have dw:HI M w w7 ((BF::bc)++r):=dt
    refine bt<|ak J i0<|k ?_
    have cJ:HI M w w7 ([BF]++([tH,J0]++r)):=HI.aR (l:=(BF::bc)) (l':=(BF::bc)) (t:=r) dw [0,1,2] aw rfl rfl
    have lI:=gY (bK:=bK) (ss:=ss) (at_:=o0) (bI:=bI) (er:=o1) (ch:=58) (w:=w) (w_:=w7) (r:=([tH,J0]++r)) (M:=M) bq aV eJ aV aw aq aq cJ
    refine ca oZ J (ec J<|ec J e0) lI ?_
    rintro _ w8 ⟨o2,o3,rfl,dS,q4,q5,q6,q7⟩
    let tG:=box bK #[.string ss,C o2,C bI,C o3] 66
    have de:HI M w w8 ((tG::bc)++r):=dS
    refine bt<|ak J i0<|k ?_
    have cO:HI M w w8 ([tG]++([tH,J0]++r)):=HI.aR (l:=(tG::bc)) (l':=(tG::bc)) (t:=r) de [0,1,2] aw rfl rfl
    have xy:=qk (bK:=bK) (ss:=ss) (at_:=o2) (bI:=bI) (er:=o3) (w:=w) (w_:=w8) (r:=([tH,J0]++r)) (M:=M) bq aV eJ aV aq aq cO
    refine ca Fj J (ec J e0) xy ?_
    rintro _ w9 ⟨o4,o5,o6,rfl,dP,q8,q9,ux,wK,DW⟩
    let yH:=box bK #[.string ss,C o4,C bI,C o5] 66
    refine aU mW J J<|k<|bp dP 1 J nW J J J J J J J ?_
    let u6:=box ba #[.bool (cA ss at_ (cg er 3) 119),.string o6,C 0] 43
    intro dD (cC:HI M w dD ([yH,u6,J0]++r))
    refine bt<|ak J i0<|k ?_
    have dR:HI M w dD ([yH]++([u6,J0]++r)):=HI.aR (l:=[yH,u6,J0]) (l':=[yH,u6,J0]) (t:=r) cC [0,1,2] aw rfl rfl
    have Ab:=gY (bK:=bK) (ss:=ss) (at_:=o4) (bI:=bI) (er:=o5) (ch:=61) (w:=w) (w_:=dD) (r:=([u6,J0]++r)) (M:=M) bq aV eJ aV aw aq aq dR
    refine ca oZ J (ec J<|ec J e0) Ab ?_
    rintro _ eb ⟨o7,o8,rfl,dB,uw,NN,B6,B5⟩
    let xG:=box bK #[.string ss,C o7,C bI,C o8] 66
    have eO:HI M w eb ([xG,u6,J0]++r):=dB
    refine bt<|ak J i0<|k ?_
    have fc:HI M w eb ([xG]++([u6,J0]++r)):=HI.aR (l:=[xG,u6,J0]) (l':=[xG,u6,J0]) (t:=r) eO [0,1,2] aw rfl rfl
    have TA:=nS (bK:=bK) (ss:=ss) (at_:=o7) (bI:=bI) (er:=o8) (w:=w) (w_:=eb) (r:=([u6,J0]++r)) (M:=M) bq aV eJ aV aq aq fc
    refine ca Fi J (ec J e0) TA ?_
    rintro _ ff ⟨o9,kv,fF,rfl,gI,xP,wJ,q19,wI,DV⟩
    refine aU qD J J<|k<|bp gI 1 J aW J J J J J J J ?_
    let xF:=box ba #[.bool (cA ss at_ (cg er 3) 119),.string o6,C fF] 43
    intro hQ (ga:HI M w hQ ([box bK #[.string ss,C o9,C bI,C kv] 66,xF,J0]++r))
    refine bt<|ak J i0<|k<|nc J J<|aU mV J J<|bl ga 0 J aW J J J<|k<|add J J J J aV<|k<|nc J J<|aU mV J J<|k<|bp ga 0 J aW J J J J J J J ?_
    let Eu:=box bK #[.string ss,C o9,C (bI+1),C kv] 66
    intro iO (lL:HI M w iO ([Eu,xF,J0]++r))
    refine bt<|k<|cq lL 1 J iu J J aw J<|k<|bp lL 2 J iu J J J J J J J ?_
    let tl:=box aY #[.bool (cA ss at_ (cg er 3) 119),.string o6,C fF] 43
    intro oM (il:HI M w oM ([Eu,xF,tl]++r))
    refine av<|rt<|oN il 2 J iu J J J J aw ?_
    have n3:=HI.aR (l:=[Eu,xF,tl]) (l':=[Eu]) (t:=r) il [0] aw J J
    have e0:(cA ss at_ (cg er 3) 119:Bool)=(cA ss at_ (cg er 3) 119):=rfl
    have e1:(bI+1:Int)=(bI+1):=rfl
    try rw[←e0]
    try rw[←e1]
    refine⟨o9,kv,(cA ss at_ (cg er 3) 119),o6,fF,?_,?_,(by simp only[zC,IH,IG,q0,q4,q8,uw,xP,b0,b1,b2,(fY b3),BL]),(by have h_:=ck (b:=119) (e:=er) eG;have lb:=ck (b:=119) (e:=cg er 3) eG;omega),aq,bq,bq,(by have h_:=ck (b:=119) (e:=er) eG;have lb:=ck (b:=119) (e:=cg er 3) eG;omega)⟩
    · first|rfl|simp only[e0,e1]|(simp only[ami])
    · first|exact n3|simpa +zetaDelta only[e0,e1,ami] using n3
   refine sk<|cI<|ak J i0<|k ?_
   have cT:HI M w w6 ([u7]++([tH,J0]++r)):=HI.aR (l:=(u7::bc)) (l':=(u7::bc)) (t:=r) dC [0,1,2] aw rfl rfl
   have kR:=gY (bK:=bK) (ss:=ss) (at_:=(eH ss at_ (cg er 3) 119)) (bI:=bI) (er:=(cg er 3)) (ch:=58) (w:=w) (w_:=w6) (r:=([tH,J0]++r)) (M:=M) bq (by have h_:=ck (b:=119) (e:=er) eG;have lb:=ck (b:=119) (e:=cg er 3) eG;unfold aK;omega) eJ (by have h_:=kW (x:=3) mR aw;unfold aK;omega) aw (by have h_:=ck (b:=119) (e:=er) eG;have lb:=ck (b:=119) (e:=cg er 3) eG;omega) (by exact kW (x:=3) mR aw) cT
   refine ca oZ J (ec J<|ec J e0) kR ?_
   rintro _ w7 ⟨o0,o1,rfl,dt,q0,q1,q2,q3⟩
   let rE:=box bK #[.string ss,C o0,C bI,C o1] 66
   have dw:HI M w w7 ((rE::bc)++r):=dt
   refine bt<|ak J i0<|k ?_
   have cJ:HI M w w7 ([rE]++([tH,J0]++r)):=HI.aR (l:=(rE::bc)) (l':=(rE::bc)) (t:=r) dw [0,1,2] aw rfl rfl
   have lI:=qk (bK:=bK) (ss:=ss) (at_:=o0) (bI:=bI) (er:=o1) (w:=w) (w_:=w7) (r:=([tH,J0]++r)) (M:=M) bq aV eJ aV aq aq cJ
   refine ca Fj J (ec J e0) lI ?_
   rintro _ w8 ⟨o2,o3,o4,rfl,dS,q4,q5,q6,q7,q8⟩
   let u5:=box bK #[.string ss,C o2,C bI,C o3] 66
   refine aU mW J J<|k<|bp dS 1 J nW J J J J J J J ?_
   let pD:=box ba #[.bool (cA ss at_ (cg er 3) 119),.string o4,C 0] 43
   intro w9 (cO:HI M w w9 ([u5,pD,J0]++r))
   refine bt<|ak J i0<|k ?_
   have dP:HI M w w9 ([u5]++([pD,J0]++r)):=HI.aR (l:=[u5,pD,J0]) (l':=[u5,pD,J0]) (t:=r) cO [0,1,2] aw rfl rfl
   have xy:=gY (bK:=bK) (ss:=ss) (at_:=o2) (bI:=bI) (er:=o3) (ch:=61) (w:=w) (w_:=w9) (r:=([pD,J0]++r)) (M:=M) bq aV eJ aV aw aq aq dP
   refine ca oZ J (ec J<|ec J e0) xy ?_
   rintro _ dD ⟨o5,o6,rfl,dG,q9,ux,wK,DW⟩
   let C_:=box bK #[.string ss,C o5,C bI,C o6] 66
   have cC:HI M w dD ([C_,pD,J0]++r):=dG
   refine bt<|ak J i0<|k ?_
   have dR:HI M w dD ([C_]++([pD,J0]++r)):=HI.aR (l:=[C_,pD,J0]) (l':=[C_,pD,J0]) (t:=r) cC [0,1,2] aw rfl rfl
   have Ab:=nS (bK:=bK) (ss:=ss) (at_:=o5) (bI:=bI) (er:=o6) (w:=w) (w_:=dD) (r:=([pD,J0]++r)) (M:=M) bq aV eJ aV aq aq dR
   refine ca Fi J (ec J e0) Ab ?_
   rintro _ eb ⟨o7,o8,o9,rfl,dB,uw,NN,B6,B5,xP⟩
   refine aU qD J J<|k<|bp dB 1 J aW J J J J J J J ?_
   let yG:=box ba #[.bool (cA ss at_ (cg er 3) 119),.string o4,C o9] 43
   intro ff (fc:HI M w ff ([box bK #[.string ss,C o7,C bI,C o8] 66,yG,J0]++r))
   refine bt<|ak J i0<|k<|nc J J<|aU mV J J<|bl fc 0 J aW J J J<|k<|add J J J J aV<|k<|nc J J<|aU mV J J<|k<|bp fc 0 J aW J J J J J J J ?_
   let xE:=box bK #[.string ss,C o7,C (bI+1),C o8] 66
   intro hQ (gI:HI M w hQ ([xE,yG,J0]++r))
   refine bt<|k<|cq gI 1 J iu J J aw J<|k<|bp gI 2 J iu J J J J J J J ?_
   let C9:=box aY #[.bool (cA ss at_ (cg er 3) 119),.string o4,C o9] 43
   intro iO (iD:HI M w iO ([xE,yG,C9]++r))
   refine av<|rt<|oN iD 2 J iu J J J J aw ?_
   have ga:=HI.aR (l:=[xE,yG,C9]) (l':=[xE]) (t:=r) iD [0] aw J J
   have e0:(cA ss at_ (cg er 3) 119:Bool)=(cA ss at_ (cg er 3) 119):=rfl
   have e1:(bI+1:Int)=(bI+1):=rfl
   try rw[←e0]
   try rw[←e1]
   refine⟨o7,o8,(cA ss at_ (cg er 3) 119),o4,o9,?_,?_,(by simp only[zC,IH,IG,q0,q4,q9,uw,b0,b1,b2,(fk b3),BL]),(by have h_:=ck (b:=119) (e:=er) eG;have lb:=ck (b:=119) (e:=cg er 3) eG;omega),aq,bq,bq,(by have h_:=ck (b:=119) (e:=er) eG;have lb:=ck (b:=119) (e:=cg er 3) eG;omega)⟩
   · first|rfl|simp only[e0,e1]|(simp only[ami])
   · first|exact ga|simpa +zetaDelta only[e0,e1,ami] using ga
  refine sk<|cI<|k<|al H2 iu ?_
  intro ba w3 fB (H3:HI M w w3 ([box ba #[.bool false,.string ⟨#[]⟩,C 0] 43,J0,J1]++r))
  let C8:=box ba #[.bool false,.string ⟨#[]⟩,C 0] 43
  refine av<|sq<|aB<|ak J i0<|k ?_
  have H4:HI M w w3 ([J1]++([C8,J0]++r)):=HI.aR (l:=[C8,J0,J1]) (l':=[J1,C8,J0]) (t:=r) H3 [2,0,1] aw rfl rfl
  have fT:=qj (bK:=bK) (ss:=ss) (at_:=at_) (bI:=bI) (er:=er) (ch:=119) (w:=w) (w_:=w3) (r:=([C8,J0]++r)) (M:=M) bq ln eJ mU aw aq H4
  refine ca Fm J (ec J<|ec J e0) fT ?_
  rintro _ w4 ⟨rfl,H5⟩
  let C7:=box bK #[.string ss,C (eH ss at_ er 119),C bI,C er] 66
  refine aU py J J<|k<|bp H5 1 J l5 J J J J J J J ?_
  let sB:=box ba #[.bool (cA ss at_ er 119),.string ⟨#[]⟩,C 0] 43
  intro w5 (H7:HI M w w5 ([C7,sB,J0]++r))
  refine bt<|aU py J J<|bl H7 1 J l5 J J J<|k<|jE J J<|av<|oP J J (by rw[show (cA ss at_ er 119)=false from b1]<;>rfl)<|rg<|ak J i0<|k ?_
  have H8:HI M w w5 ([C7]++([sB,J0]++r)):=HI.aR (l:=[C7,sB,J0]) (l':=[C7,sB,J0]) (t:=r) H7 [0,1,2] aw rfl rfl
  have eU:=gY (bK:=bK) (ss:=ss) (at_:=(eH ss at_ er 119)) (bI:=bI) (er:=er) (ch:=114) (w:=w) (w_:=w5) (r:=([sB,J0]++r)) (M:=M) bq (by have h_:=ck (b:=119) (e:=er) eG;have lb:=ck (b:=119) (e:=cg er 3) eG;unfold aK;omega) eJ mU aw (by have h_:=ck (b:=119) (e:=er) eG;have lb:=ck (b:=119) (e:=cg er 3) eG;omega) aq H8
  refine ca oZ J (ec J<|ec J e0) eU ?_
  rintro _ w6 ⟨o0,o1,rfl,H9,q0,q1,q2,q3⟩
  let Js:=box bK #[.string ss,C o0,C bI,C o1] 66
  have dC:HI M w w6 ([Js,sB,J0]++r):=H9
  refine bt<|ak J i0<|k ?_
  have cT:HI M w w6 ([Js]++([sB,J0]++r)):=HI.aR (l:=[Js,sB,J0]) (l':=[Js,sB,J0]) (t:=r) dC [0,1,2] aw rfl rfl
  have kR:=gY (bK:=bK) (ss:=ss) (at_:=o0) (bI:=bI) (er:=o1) (ch:=58) (w:=w) (w_:=w6) (r:=([sB,J0]++r)) (M:=M) bq aV eJ aV aw aq aq cT
  refine ca oZ J (ec J<|ec J e0) kR ?_
  rintro _ w7 ⟨o2,o3,rfl,dt,q4,q5,q6,q7⟩
  let Et:=box bK #[.string ss,C o2,C bI,C o3] 66
  have dw:HI M w w7 ([Et,sB,J0]++r):=dt
  refine bt<|ak J i0<|k ?_
  have cJ:HI M w w7 ([Et]++([sB,J0]++r)):=HI.aR (l:=[Et,sB,J0]) (l':=[Et,sB,J0]) (t:=r) dw [0,1,2] aw rfl rfl
  have lI:=qk (bK:=bK) (ss:=ss) (at_:=o2) (bI:=bI) (er:=o3) (w:=w) (w_:=w7) (r:=([sB,J0]++r)) (M:=M) bq aV eJ aV aq aq cJ
  refine ca Fj J (ec J e0) lI ?_
  rintro _ w8 ⟨o4,o5,o6,rfl,dS,q8,q9,ux,wK,DW⟩
  let Es:=box bK #[.string ss,C o4,C bI,C o5] 66
  refine aU mW J J<|k<|bp dS 1 J nW J J J J J J J ?_
  let Aj:=box ba #[.bool (cA ss at_ er 119),.string o6,C 0] 43
  intro w9 (cO:HI M w w9 ([Es,Aj,J0]++r))
  refine bt<|ak J i0<|k ?_
  have dP:HI M w w9 ([Es]++([Aj,J0]++r)):=HI.aR (l:=[Es,Aj,J0]) (l':=[Es,Aj,J0]) (t:=r) cO [0,1,2] aw rfl rfl
  have xy:=gY (bK:=bK) (ss:=ss) (at_:=o4) (bI:=bI) (er:=o5) (ch:=61) (w:=w) (w_:=w9) (r:=([Aj,J0]++r)) (M:=M) bq aV eJ aV aw aq aq dP
  refine ca oZ J (ec J<|ec J e0) xy ?_
  rintro _ dD ⟨o7,o8,rfl,dG,uw,NN,B6,B5⟩
  let Hg:=box bK #[.string ss,C o7,C bI,C o8] 66
  have cC:HI M w dD ([Hg,Aj,J0]++r):=dG
  refine bt<|ak J i0<|k ?_
  have dR:HI M w dD ([Hg]++([Aj,J0]++r)):=HI.aR (l:=[Hg,Aj,J0]) (l':=[Hg,Aj,J0]) (t:=r) cC [0,1,2] aw rfl rfl
  have Ab:=nS (bK:=bK) (ss:=ss) (at_:=o7) (bI:=bI) (er:=o8) (w:=w) (w_:=dD) (r:=([Aj,J0]++r)) (M:=M) bq aV eJ aV aq aq dR
  refine ca Fi J (ec J e0) Ab ?_
  rintro _ eb ⟨o9,kv,fF,rfl,dB,xP,wJ,q19,wI,DV⟩
  refine aU qD J J<|k<|bp dB 1 J aW J J J J J J J ?_
  let Er:=box ba #[.bool (cA ss at_ er 119),.string o6,C fF] 43
  intro ff (fc:HI M w ff ([box bK #[.string ss,C o9,C bI,C kv] 66,Er,J0]++r))
  refine bt<|ak J i0<|k<|nc J J<|aU mV J J<|bl fc 0 J aW J J J<|k<|add J J J J aV<|k<|nc J J<|aU mV J J<|k<|bp fc 0 J aW J J J J J J J ?_
  let Ai:=box bK #[.string ss,C o9,C (bI+1),C kv] 66
  intro hQ (gI:HI M w hQ ([Ai,Er,J0]++r))
  refine bt<|k<|cq gI 1 J iu J J aw J<|k<|bp gI 2 J iu J J J J J J J ?_
  let yF:=box aY #[.bool (cA ss at_ er 119),.string o6,C fF] 43
  intro iO (iD:HI M w iO ([Ai,Er,yF]++r))
  refine av<|rt<|oN iD 2 J iu J J J J aw ?_
  have ga:=HI.aR (l:=[Ai,Er,yF]) (l':=[Ai]) (t:=r) iD [0] aw J J
  have e0:(cA ss at_ er 119:Bool)=(cA ss at_ er 119):=rfl
  have e1:(bI+1:Int)=(bI+1):=rfl
  try rw[←e0]
  try rw[←e1]
  refine⟨o9,kv,(cA ss at_ er 119),o6,fF,?_,?_,(by simp only[zC,IH,IG,q0,q4,q8,uw,xP,b0,b1,b2,BL]),(by have h_:=ck (b:=119) (e:=er) eG;have lb:=ck (b:=119) (e:=cg er 3) eG;omega),aq,bq,bq,(by have h_:=ck (b:=119) (e:=er) eG;have lb:=ck (b:=119) (e:=cg er 3) eG;omega)⟩
  · first|rfl|simp only[e0,e1]|(simp only[ami])
  · first|exact ga|simpa +zetaDelta only[e0,e1,ami] using ga
 have p0:=dF b0
 refine aN J J J b0<|aN J J J b0<|aN J J J b0<|k<|gu J J J<|k<|gu J J J<|aN J J J b0<|k<|cK J J J J b0 J<|av<|nP J J J<|sk<|cI<|k<|al H0 iu ?_
 intro ba w1 cY (H1:HI M w w1 ([box ba #[.bool false,.string ⟨#[]⟩,C 0] 43,J0,J1]++r))
 let Jr:=box ba #[.bool false,.string ⟨#[]⟩,C 0] 43
 refine av<|sq<|aB<|ak J i0<|k ?_
 have H2:HI M w w1 ([J1]++([Jr,J0]++r)):=HI.aR (l:=[Jr,J0,J1]) (l':=[J1,Jr,J0]) (t:=r) H1 [2,0,1] aw rfl rfl
 have bP:=qj (bK:=bK) (ss:=ss) (at_:=at_) (bI:=bI) (er:=er) (ch:=119) (w:=w) (w_:=w1) (r:=([Jr,J0]++r)) (M:=M) bq ln eJ mU aw aq H2
 refine ca Fm J (ec J<|ec J e0) bP ?_
 rintro _ w2 ⟨rfl,H3⟩
 let C6:=box bK #[.string ss,C (eH ss at_ er 119),C bI,C er] 66
 refine aU py J J<|k<|bp H3 1 J l5 J J J J J J J ?_
 let u4:=box ba #[.bool (cA ss at_ er 119),.string ⟨#[]⟩,C 0] 43
 let bY:=[u4,J0]
 intro w3 (H5:HI M w w3 ((C6::bY)++r))
 refine bt<|aU py J J<|bl H5 1 J l5 J J J<|k<|jE J J<|z<|nx ?_
 refine cd (b:=!(cA ss at_ er 119)) J J (fun b1=>?_)<|fun b1=>?_
 ·
  refine rg<|ak J i0<|k ?_
  have H6:HI M w w3 ([C6]++([u4,J0]++r)):=HI.aR (l:=(C6::bY)) (l':=(C6::bY)) (t:=r) H5 [0,1,2] aw rfl rfl
  have cV:=gY (bK:=bK) (ss:=ss) (at_:=(eH ss at_ er 119)) (bI:=bI) (er:=er) (ch:=114) (w:=w) (w_:=w3) (r:=([u4,J0]++r)) (M:=M) bq (by have h_:=ck (b:=119) (e:=er) eG;have lb:=ck (b:=119) (e:=cg er 3) eG;unfold aK;omega) eJ mU aw (by have h_:=ck (b:=119) (e:=er) eG;have lb:=ck (b:=119) (e:=cg er 3) eG;omega) aq H6
  refine ca oZ J (ec J<|ec J e0) cV ?_
  rintro _ w4 ⟨o0,o1,rfl,H7,q0,q1,q2,q3⟩
  let MK:=box bK #[.string ss,C o0,C bI,C o1] 66
  have H8:HI M w w4 ((MK::bY)++r):=H7
  refine bt<|ak J i0<|k ?_
  have H9:HI M w w4 ([MK]++([u4,J0]++r)):=HI.aR (l:=(MK::bY)) (l':=(MK::bY)) (t:=r) H8 [0,1,2] aw rfl rfl
  have fT:=gY (bK:=bK) (ss:=ss) (at_:=o0) (bI:=bI) (er:=o1) (ch:=58) (w:=w) (w_:=w4) (r:=([u4,J0]++r)) (M:=M) bq aV eJ aV aw aq aq H9
  refine ca oZ J (ec J<|ec J e0) fT ?_
  rintro _ w5 ⟨o2,o3,rfl,dC,q4,q5,q6,q7⟩
  let MJ:=box bK #[.string ss,C o2,C bI,C o3] 66
  have cT:HI M w w5 ((MJ::bY)++r):=dC
  refine bt<|ak J i0<|k ?_
  have dt:HI M w w5 ([MJ]++([u4,J0]++r)):=HI.aR (l:=(MJ::bY)) (l':=(MJ::bY)) (t:=r) cT [0,1,2] aw rfl rfl
  have eU:=qk (bK:=bK) (ss:=ss) (at_:=o2) (bI:=bI) (er:=o3) (w:=w) (w_:=w5) (r:=([u4,J0]++r)) (M:=M) bq aV eJ aV aq aq dt
  refine ca Fj J (ec J e0) eU ?_
  rintro _ w6 ⟨o4,o5,o6,rfl,dw,q8,q9,ux,wK,DW⟩
  let MI:=box bK #[.string ss,C o4,C bI,C o5] 66
  refine aU mW J J<|k<|bp dw 1 J nW J J J J J J J ?_
  let xD:=box ba #[.bool (cA ss at_ er 119),.string o6,C 0] 43
  intro w7 (dS:HI M w w7 ([MI,xD,J0]++r))
  refine bt<|ak J i0<|k ?_
  have de:HI M w w7 ([MI]++([xD,J0]++r)):=HI.aR (l:=[MI,xD,J0]) (l':=[MI,xD,J0]) (t:=r) dS [0,1,2] aw rfl rfl
  have kR:=gY (bK:=bK) (ss:=ss) (at_:=o4) (bI:=bI) (er:=o5) (ch:=61) (w:=w) (w_:=w7) (r:=([xD,J0]++r)) (M:=M) bq aV eJ aV aw aq aq de
  refine ca oZ J (ec J<|ec J e0) kR ?_
  rintro _ w8 ⟨o7,o8,rfl,cO,uw,NN,B6,B5⟩
  let Jq:=box bK #[.string ss,C o7,C bI,C o8] 66
  have dP:HI M w w8 ([Jq,xD,J0]++r):=cO
  refine bt<|ak J i0<|k ?_
  have dG:HI M w w8 ([Jq]++([xD,J0]++r)):=HI.aR (l:=[Jq,xD,J0]) (l':=[Jq,xD,J0]) (t:=r) dP [0,1,2] aw rfl rfl
  have lI:=nS (bK:=bK) (ss:=ss) (at_:=o7) (bI:=bI) (er:=o8) (w:=w) (w_:=w8) (r:=([xD,J0]++r)) (M:=M) bq aV eJ aV aq aq dG
  refine ca Fi J (ec J e0) lI ?_
  rintro _ w9 ⟨o9,kv,fF,rfl,cC,xP,wJ,q19,wI,DV⟩
  refine aU qD J J<|k<|bp cC 1 J aW J J J J J J J ?_
  let Ep:=box ba #[.bool (cA ss at_ er 119),.string o6,C fF] 43
  intro dD (dB:HI M w dD ([box bK #[.string ss,C o9,C bI,C kv] 66,Ep,J0]++r))
  refine bt<|ak J i0<|k<|nc J J<|aU mV J J<|bl dB 0 J aW J J J<|k<|add J J J J aV<|k<|nc J J<|aU mV J J<|k<|bp dB 0 J aW J J J J J J J ?_
  let Eo:=box bK #[.string ss,C o9,C (bI+1),C kv] 66
  intro eb (eO:HI M w eb ([Eo,Ep,J0]++r))
  refine bt<|k<|cq eO 1 J iu J J aw J<|k<|bp eO 2 J iu J J J J J J J ?_
  let T4:=box aY #[.bool (cA ss at_ er 119),.string o6,C fF] 43
  intro ff (fc:HI M w ff ([Eo,Ep,T4]++r))
  refine av<|rt<|oN fc 2 J iu J J J J aw ?_
  have gI:=HI.aR (l:=[Eo,Ep,T4]) (l':=[Eo]) (t:=r) fc [0] aw J J
  have e0:(cA ss at_ er 119:Bool)=(cA ss at_ er 119):=rfl
  have e1:(bI+1:Int)=(bI+1):=rfl
  try rw[←e0]
  try rw[←e1]
  refine⟨o9,kv,(cA ss at_ er 119),o6,fF,?_,?_,(by simp only[zC,IH,IG,q0,q4,q8,uw,xP,b0,(fY b1),BL]),(by have h_:=ck (b:=119) (e:=er) eG;have lb:=ck (b:=119) (e:=cg er 3) eG;omega),aq,bq,bq,(by have h_:=ck (b:=119) (e:=er) eG;have lb:=ck (b:=119) (e:=cg er 3) eG;omega)⟩
  · first|rfl|simp only[e0,e1]|(simp only[ami])
  · first|exact gI|simpa +zetaDelta only[e0,e1,ami] using gI
 refine sk<|cI<|ak J i0<|k ?_
 have H6:HI M w w3 ([C6]++([u4,J0]++r)):=HI.aR (l:=(C6::bY)) (l':=(C6::bY)) (t:=r) H5 [0,1,2] aw rfl rfl
 have cV:=gY (bK:=bK) (ss:=ss) (at_:=(eH ss at_ er 119)) (bI:=bI) (er:=er) (ch:=58) (w:=w) (w_:=w3) (r:=([u4,J0]++r)) (M:=M) bq (by have h_:=ck (b:=119) (e:=er) eG;have lb:=ck (b:=119) (e:=cg er 3) eG;unfold aK;omega) eJ mU aw (by have h_:=ck (b:=119) (e:=er) eG;have lb:=ck (b:=119) (e:=cg er 3) eG;omega) aq H6
 refine ca oZ J (ec J<|ec J e0) cV ?_
 rintro _ w4 ⟨o0,o1,rfl,H7,q0,q1,q2,q3⟩
 let Hf:=box bK #[.string ss,C o0,C bI,C o1] 66
 have H8:HI M w w4 ((Hf::bY)++r):=H7
 refine bt<|ak J i0<|k ?_
 have H9:HI M w w4 ([Hf]++([u4,J0]++r)):=HI.aR (l:=(Hf::bY)) (l':=(Hf::bY)) (t:=r) H8 [0,1,2] aw rfl rfl
 have fT:=qk (bK:=bK) (ss:=ss) (at_:=o0) (bI:=bI) (er:=o1) (w:=w) (w_:=w4) (r:=([u4,J0]++r)) (M:=M) bq aV eJ aV aq aq H9
 refine ca Fj J (ec J e0) fT ?_
 rintro _ w5 ⟨o2,o3,o4,rfl,dC,q4,q5,q6,q7,q8⟩
 let En:=box bK #[.string ss,C o2,C bI,C o3] 66
 refine aU mW J J<|k<|bp dC 1 J nW J J J J J J J ?_
 let Ah:=box ba #[.bool (cA ss at_ er 119),.string o4,C 0] 43
 intro w6 (dt:HI M w w6 ([En,Ah,J0]++r))
 refine bt<|ak J i0<|k ?_
 have dw:HI M w w6 ([En]++([Ah,J0]++r)):=HI.aR (l:=[En,Ah,J0]) (l':=[En,Ah,J0]) (t:=r) dt [0,1,2] aw rfl rfl
 have eU:=gY (bK:=bK) (ss:=ss) (at_:=o2) (bI:=bI) (er:=o3) (ch:=61) (w:=w) (w_:=w6) (r:=([Ah,J0]++r)) (M:=M) bq aV eJ aV aw aq aq dw
 refine ca oZ J (ec J<|ec J e0) eU ?_
 rintro _ w7 ⟨o5,o6,rfl,cJ,q9,ux,wK,DW⟩
 let Yg:=box bK #[.string ss,C o5,C bI,C o6] 66
 have dS:HI M w w7 ([Yg,Ah,J0]++r):=cJ
 refine bt<|ak J i0<|k ?_
 have de:HI M w w7 ([Yg]++([Ah,J0]++r)):=HI.aR (l:=[Yg,Ah,J0]) (l':=[Yg,Ah,J0]) (t:=r) dS [0,1,2] aw rfl rfl
 have kR:=nS (bK:=bK) (ss:=ss) (at_:=o5) (bI:=bI) (er:=o6) (w:=w) (w_:=w7) (r:=([Ah,J0]++r)) (M:=M) bq aV eJ aV aq aq de
 refine ca Fi J (ec J e0) kR ?_
 rintro _ w8 ⟨o7,o8,o9,rfl,cO,uw,NN,B6,B5,xP⟩
 refine aU qD J J<|k<|bp cO 1 J aW J J J J J J J ?_
 let Yf:=box ba #[.bool (cA ss at_ er 119),.string o4,C o9] 43
 intro w9 (dG:HI M w w9 ([box bK #[.string ss,C o7,C bI,C o8] 66,Yf,J0]++r))
 refine bt<|ak J i0<|k<|nc J J<|aU mV J J<|bl dG 0 J aW J J J<|k<|add J J J J aV<|k<|nc J J<|aU mV J J<|k<|bp dG 0 J aW J J J J J J J ?_
 let Ye:=box bK #[.string ss,C o7,C (bI+1),C o8] 66
 intro dD (cC:HI M w dD ([Ye,Yf,J0]++r))
 refine bt<|k<|cq cC 1 J iu J J aw J<|k<|bp cC 2 J iu J J J J J J J ?_
 let J68:=box aY #[.bool (cA ss at_ er 119),.string o4,C o9] 43
 intro eb (dR:HI M w eb ([Ye,Yf,J68]++r))
 refine av<|rt<|oN dR 2 J iu J J J J aw ?_
 have dB:=HI.aR (l:=[Ye,Yf,J68]) (l':=[Ye]) (t:=r) dR [0] aw J J
 have e0:(cA ss at_ er 119:Bool)=(cA ss at_ er 119):=rfl
 have e1:(bI+1:Int)=(bI+1):=rfl
 try rw[←e0]
 try rw[←e1]
 refine⟨o7,o8,(cA ss at_ er 119),o4,o9,?_,?_,(by simp only[zC,IH,IG,q0,q4,q9,uw,b0,(fk b1),BL]),(by have h_:=ck (b:=119) (e:=er) eG;have lb:=ck (b:=119) (e:=cg er 3) eG;omega),aq,bq,bq,(by have h_:=ck (b:=119) (e:=er) eG;have lb:=ck (b:=119) (e:=cg er 3) eG;omega)⟩
 · first|rfl|simp only[e0,e1]|(simp only[ami])
 · first|exact dB|simpa +zetaDelta only[e0,e1,ami] using dB
theorem acC:ct aJ 46:=⟨_,_,Tryz.func46,rfl,aM⟩
theorem Ru (yU:ss.size≤maxLen) (ln:aK at_) (eJ:aK bI) (mU:aK er) (eG:0≤at_∧at_≤(ss.size:Int)) (akZ:er=0) (ahm:0≤bI∧bI≤at_) (PT:ss.size≤1000000) (H:HI M w w_ ([box bK #[.string ss,C at_,C bI,C er] 66]++r)):Calls aJ 22 #[pV bK 0] w_ (cb fun v w'=>∃(kj:Int) (lS:Int) (RW:Int) (ls:List kM) (a0:OA) (c0:Nat),v=R a0 ls c0∧HI M w w' ([oL w 43 a0 ls c0,box bK #[.string ss,C kj,C RW,C lS] 66]++r)∧ya ss at_ bI er=(kj,RW,lS,ls)∧(0≤kj∧at_≤kj∧kj≤(ss.size:Int))∧(0≤lS∧lS≤3)∧(0≤RW∧RW≤kj+1)∧(lS=0→at_<kj∧RW≤kj)):=by
 refine enter 19 Tryz.func22 J J J fun f0 ha=>?_
 have i0:f0 0=pV bK 0:=ha 0 bh
 have AY:maxLen=9223372036854775807:=rfl
 have ahb:=ck (b:=10) (e:=er) eG
 refine aB<|au (v:=.slice none 0 0) J J<|av<|sq<|aB<|ak J i0<|k ?_
 let J0:=box bK #[.string ss,C at_,C bI,C er] 66
 have H0:HI M w w_ ([J0]++([]++r)):=HI.aR (l:=[J0]) (l':=[J0]) (t:=r) H [0] aw rfl rfl
 have bP:=qj (bK:=bK) (ss:=ss) (at_:=at_) (bI:=bI) (er:=er) (ch:=10) (w:=w) (w_:=w_) (r:=([]++r)) (M:=M) bq ln eJ mU aw aq H0
 refine ca Fm J (ec J<|ec J e0) bP ?_
 rintro _ w0 ⟨rfl,H1⟩
 let J1:=box bK #[.string ss,C (eH ss at_ er 10),C bI,C er] 66
 have H2:HI M w w0 ([J1]++r):=H1
 refine z<|nx ?_
 refine cd (b:=cA ss at_ er 10) J J (fun b0=>?_)<|fun b0=>?_
 ·
  refine sq ?_
  have alf:eH ss at_ er 10=at_+1:=by unfold eH;rw[‹cA ss at_ er 10=true›];rfl
  refine rg<|au (v:=.slice none 0 0) J J<|av<|rt<|aL<|r1 J J ?_
  have H3:=H2.re (Bool×ByteArray×Int) 43
  have e0:(eH ss at_ er 10:Int)=(eH ss at_ er 10):=rfl
  try rw[←e0]
  refine⟨(eH ss at_ er 10),er,bI,([]:List (Bool×ByteArray×Int)),none,0,?_,?_,(by simp only[ya,b0,BL]),aq,aq,aq,aq⟩
  · first|rfl|simp only[e0]|(simp only[ami])
  · first|exact H3|simpa +zetaDelta only[e0,ami] using H3
 refine sk<|cI<|ak J i0<|k ?_
 have H3:HI M w w0 ([J1]++([]++r)):=HI.aR (l:=[J1]) (l':=[J1]) (t:=r) H2 [0] aw rfl rfl
 have cV:=NM (bK:=bK) (ss:=ss) (at_:=(eH ss at_ er 10)) (bI:=bI) (er:=er) (w:=w) (w_:=w0) (r:=([]++r)) (M:=M) bq aV eJ mU aq aq aq H3
 refine ca acC J (ec J e0) cV ?_
 rintro _ w1 ⟨o0,o1,o2,o3,o4,rfl,H4,q0,q1,q2,q3,q4,q5⟩
 let J2:=box bK #[.string ss,C o0,C (bI+1),C o1] 66
 have H5:HI M w w1 ([J2]++r):=H4
 refine k<|bs (xs:=([(o2,o3,o4)]:List (Bool×ByteArray×Int))) (cells:=#[.bool o2,.string o3,C o4]) (e:=43) H5 J (cj J ey) (fun _=>aM) ⟨[.bool o2,.string o3,C o4],[],J,⟨_,_,J,J,⟨_,_,J,⟨J,(by dsimp only;omega)⟩,⟨J,(show aK (o4) from bq)⟩⟩⟩,J⟩ J aw ?_
 intro g0 w2 bS (H6:HI M w w2 ([own w.heap.size 43 (.slice (some ⟨g0,0,none⟩) 1 1) ([(o2,o3,o4)]:List (Bool×ByteArray×Int)),J2]++r))
 refine au (v:=.slice (some ⟨g0,0,none⟩) 1 1) J J<|av<|sq<|bk ?_
 refine lp (fun m f w'=>∃(Co:Nat) (p_:Int) (n_:Int) (e_:Int) (ig:List kM) (a0:OA) (c0:Nat),m=Co+1∧f 0=pV bK 0∧f 3=R a0 ig c0∧HI M w w' ([oL w 43 a0 ig c0,box bK #[.string ss,C p_,C n_,C e_] 66]++r)∧(AJ ss (ss.size+1) o0 (bI+1) o1 ([(o2,o3,o4)]:List (Bool×ByteArray×Int))=AJ ss Co p_ n_ e_ ig)∧(0≤p_∧o0≤p_∧p_≤(ss.size:Int)∧(ss.size:Int)-p_<(Co:Int))∧(0≤e_∧e_≤3)∧(0≤n_∧n_≤p_+1∧(e_=0→n_≤p_∧at_<p_))∧((ig.length:Int)=n_-bI)) _ ⟨(ss.size+1),o0,(bI+1),o1,([(o2,o3,o4)]:List (Bool×ByteArray×Int)),(some ⟨g0,0,none⟩),1,J,i0,J,H6,(by rfl),(by push_cast;omega),bq,aq,(by simp only[iB,gm];omega)⟩ ?_
 rintro _ f0 w3 ⟨Co,p_,n_,e_,ig,a0,c0,rfl,s0,s1,H7,hs,IY,he_,Cy,ahs⟩
 refine sq<|sq ?_
 have alh:=ck (b:=32) (e:=e_) (s:=ss) (a:=p_) ⟨by omega,by omega⟩
 refine rg<|ak J s0<|k ?_
 let J3:=box bK #[.string ss,C p_,C n_,C e_] 66
 let J4:=oL w 43 a0 ig c0
 have H8:HI M w w3 ([J3]++([J4]++r)):=HI.aR (l:=[J4,J3]) (l':=[J3,J4]) (t:=r) H7 [1,0] aw rfl rfl
 have fT:=qj (bK:=bK) (ss:=ss) (at_:=p_) (bI:=n_) (er:=e_) (ch:=32) (w:=w) (w_:=w3) (r:=([J4]++r)) (M:=M) bq aV aV aV aw aq H8
 refine ca Fm J (ec J<|ec J e0) fT ?_
 rintro _ w4 ⟨rfl,H9⟩
 let J5:=box bK #[.string ss,C (eH ss p_ e_ 32),C n_,C e_] 66
 have dC:HI M w w4 ([J5,J4]++r):=H9
 refine z<|nx ?_
 refine cd (b:=cA ss p_ e_ 32) J J (fun b1=>?_)<|fun b1=>?_
 ·
  refine sk<|nx<|bk ?_
  obtain⟨alk,alj, -⟩:=Hr ‹cA ss p_ e_ 32=true›
  have alg:eH ss p_ e_ 32=p_+1:=by unfold eH;rw[‹cA ss p_ e_ 32=true›];rfl
  refine rg<|ak J s1<|ak J s0<|k ?_
  have cT:HI M w w4 ([J5]++([J4]++r)):=HI.aR (l:=[J5,J4]) (l':=[J5,J4]) (t:=r) dC [0,1] aw rfl rfl
  have eU:=NM (bK:=bK) (ss:=ss) (at_:=(eH ss p_ e_ 32)) (bI:=n_) (er:=e_) (w:=w) (w_:=w4) (r:=([J4]++r)) (M:=M) bq aV aV aV aq aq aq cT
  refine ca acC J (ec J e0) eU ?_
  rintro _ w5 ⟨o5,o6,o7,o8,o9,rfl,dt,q6,q7,q8,q9,ux,wK⟩
  let J6:=box bK #[.string ss,C o5,C (n_+1),C o6] 66
  have dw:HI M w w5 ([J6,J4]++r):=dt
  refine k<|bs (xs:=([(o7,o8,o9)]:List (Bool×ByteArray×Int))) (cells:=#[.bool o7,.string o8,C o9]) (e:=43) dw J (cj J ey) (fun _=>aM) ⟨[.bool o7,.string o8,C o9],[],J,⟨_,_,J,J,⟨_,_,J,⟨J,(by dsimp only;omega)⟩,⟨J,(show aK (o9) from bq)⟩⟩⟩,J⟩ J aw ?_
  intro g1 w6 cY (cJ:HI M w w6 ([own w.heap.size 43 (.slice (some ⟨g1,0,none⟩) 1 1) ([(o7,o8,o9)]:List (Bool×ByteArray×Int)),J6,J4]++r))
  let J7:=own w.heap.size 43 (.slice (some ⟨g1,0,none⟩) 1 1) ([(o7,o8,o9)]:List (Bool×ByteArray×Int))
  refine k<|l9 cJ 2 J J J J J J (gT<|cJ.at_ 0 J) pL iu J (by simp only[iB,gm];omega) J ?_
  intro a1 c1 w7 (dS:HI M w w7 ([J7,J6,oL w 43 a1 (ig++([(o7,o8,o9)]:List (Bool×ByteArray×Int))) c1]++r))
  let J8:=oL w 43 a1 (ig++([(o7,o8,o9)]:List (Bool×ByteArray×Int))) c1
  refine au (v:=R a1 (ig++([(o7,o8,o9)]:List (Bool×ByteArray×Int))) c1) J J<|z<|aI ?_
  have de:HI M w w7 ([J8,J6]++r):=HI.aR (l:=[J7,J6,J8]) (l':=[J8,J6]) (t:=r) dS [2,1] aw rfl rfl
  refine bB _ ?_ ⟨(Co-1),o5,(n_+1),o6,(ig++([(o7,o8,o9)]:List (Bool×ByteArray×Int))),a1,c1,J,s0,J,de,(by exact UQ hs aq ‹cA ss p_ e_ 32=true› q6),aq,bq,aq,(by simp only[gf,iB,gm];omega)⟩
  omega
 refine ex<|aX<|bf<|bg<|nx<|sq ?_
 have Ly:=UP hs ‹cA ss p_ e_ 32=false›
 refine rg<|ak J s0<|k ?_
 have cT:HI M w w4 ([J5]++([J4]++r)):=HI.aR (l:=[J5,J4]) (l':=[J5,J4]) (t:=r) dC [0,1] aw rfl rfl
 have eU:=gY (bK:=bK) (ss:=ss) (at_:=(eH ss p_ e_ 32)) (bI:=n_) (er:=e_) (ch:=10) (w:=w) (w_:=w4) (r:=([J4]++r)) (M:=M) bq aV aV aV aw aq aq cT
 refine ca oZ J (ec J<|ec J e0) eU ?_
 rintro _ w5 ⟨o5,o6,rfl,dt,q6,q7,q8,q9⟩
 let J9:=box bK #[.string ss,C o5,C n_,C o6] 66
 have dw:HI M w w5 ([J9,J4]++r):=dt
 refine bt<|ak J s1<|au (v:=R a0 ig c0) J J<|av<|rt<|r1 J J ?_
 have cJ:=HI.aR (l:=[J9,J4]) (l':=[J4,J9]) (t:=r) dw [1,0] aw J J
 refine⟨o5,o6,n_,ig,a0,c0,?_,?_,(by simp only[ya,Ly,q0,q6,b0,b1,BL]),aq,bq,aq,aq⟩
 · first|rfl|simp only[ami]
 · first|exact cJ|simpa +zetaDelta only[ami] using cJ
theorem ais:ct aJ 22:=⟨_,_,Tryz.func22,rfl,aM⟩
theorem Rv (hM:eD M w) (yU:ss.size≤maxLen) (PT:ss.size≤1000000):Calls aJ 11 #[.string ss] w (cb fun v w'=>∃(hs_:dv) (kj:Int) (lS:Int) (a0:OA) (c0:Nat),v=.tuple #[R a0 hs_ c0,C kj,C lS]∧Ext w w'∧cw M w' a0 c0 hs_∧ko ss=(hs_,kj,lS)∧(0≤kj∧kj≤(ss.size:Int))∧(0≤lS∧lS≤3)):=by
 refine df 43 Tryz.func11 J J J hM fun f0 ha H=>?_
 have i0:f0 0=.string ss:=ha 0 bh
 have AY:maxLen=9223372036854775807:=rfl
 refine aB<|au (v:=.slice none 0 0) J J<|au (v:=C 0) J J<|au (v:=C 0) J J<|bt<|ak J i0<|k<|bd (v:=.agg #[.string ss,C 0,C 0,C 0]) J (cj J ey) (fun _=>aM)<|k<|bx H J J ?_
 intro aY w0 bS (H0:HI M w w0 [box aY #[.string ss,C 0,C 0,C 0] 66])
 refine au (v:=pV aY 0) J J<|bt<|au (v:=.slice none 0 0) J J<|av<|sq<|bk ?_
 have H1:=H0.re (List<|Bool×ByteArray×Int) 40
 refine lp (fun m f w'=>∃(Co:Nat) (p_:Int) (n_:Int) (e_:Int) (h_:List (List<|Bool×ByteArray×Int)) (a0:OA) (c0:Nat),m=Co+1∧f 0=.string ss∧f 5=pV aY 0∧f 6=R a0 h_ c0∧HI M w w' [oL w 40 a0 h_ c0,box aY #[.string ss,C p_,C n_,C e_] 66]∧(po ss (ss.size+1) 0 0 0 []=po ss Co p_ n_ e_ h_)∧(0≤p_∧p_≤(ss.size:Int))∧(0≤e_∧e_≤3)∧(0≤n_∧(e_=0→n_≤p_∧(ss.size:Int)-p_<(Co:Int)∧(h_.length:Int)≤p_))∧((h_.length:Int)≤p_+1)) _ ⟨(ss.size+1),0,0,0,([]:List (List<|Bool×ByteArray×Int)),none,0,J,i0,J,J,H1,(by rfl),aq,aq,(by simp only[gm];omega),(by simp only[gm];omega)⟩ ?_
 rintro _ f0 w1 ⟨Co,p_,n_,e_,h_,a0,c0,rfl,s0,s1,s2,H2,hs,IY,he_,Cy,ahs⟩
 refine sq<|aB<|ak J s1<|k<|nc J J<|aU te J J<|bl H2 1 J wA J J J<|k<|eql J J J J<|ak (v:=.bool (decide (e_=0))) J J ?_
 rcases bE (decide (e_=0)) with b0|b0
 ·
  have p0:=dT b0
  refine aT J J J b0<|mv J s1<|aT J J J b0<|nc J J<|aT J J J b0<|fa j5 J J<|aT J J J b0<|lx H2 1 J aW J J J<|aT J J J b0<|mv J s0<|aT J J J b0<|vz J J mu<|aT J J J b0<|lss J J J J<|k<|aR J J J J b0 J<|z<|nx ?_
  refine cd (b:=decide (p_<(ss.size:Int))) J J (fun b1=>?_)<|fun b1=>?_
  ·
   have p1:=dT b1
   refine sk<|nx<|bk<|rg<|ak J s2<|ak J s1<|k ?_
   have H3:HI M w w1 ([box aY #[.string ss,C p_,C n_,C e_] 66]++[oL w 40 a0 h_ c0]):=H2.bT [1,0] aw rfl
   have bP:=Ru (bK:=aY) (ss:=ss) (at_:=p_) (bI:=n_) (er:=e_) (w:=w) (w_:=w1) (r:=[oL w 40 a0 h_ c0]) (M:=M) bq aV aV aV aq bq aq (by exact PT) H3
   refine ca ais J (ec J e0) bP ?_
   rintro _ w2 ⟨o0,o1,o2,o3,a1,c1,rfl,H4,q0,q1,q2,q3,q4⟩
   let J0:=box aY #[.string ss,C o0,C o2,C o1] 66
   have H5:HI M w w2 [oL w 43 a1 o3 c1,J0,oL w 40 a0 h_ c0]:=H4
   refine k ?_
   have H6:=H5.freeze 0 J
   refine bs (xs:=([o3]:List (List<|Bool×ByteArray×Int))) (cells:=#[R a1 o3 c1]) (e:=40) H6 J (cj J ey) (fun _=>aM) ⟨[R a1 o3 c1],[],J,⟨_,J,RV.list.1 (H6.rv 0 J)⟩,J⟩ J aw ?_
   intro g0 w3 cY H7
   refine k<|l9 H7 3 J J J J J J (gT<|H7.at_ 0 J) rP tK J (by simp only[iB,gm];omega) J ?_
   intro a2 c2 w4 (H8:HI M w w4 [own w.heap.size 40 (.slice (some ⟨g0,0,none⟩) 1 1) ([o3]:List (List (Bool×ByteArray×Int))),iL a1 o3 c1,J0,oL w 40 a2 (h_++([o3]:List (List (Bool×ByteArray×Int)))) c2])
   refine au (v:=R a2 (h_++([o3]:List (List<|Bool×ByteArray×Int))) c2) J J<|z<|aI ?_
   have H9:HI M w w4 [oL w 40 a2 (h_++([o3]:List (List (Bool×ByteArray×Int)))) c2,J0]:=H8.bT [3,2] aw rfl
   refine bB _ ?_ ⟨(Co-1),o0,o2,o1,(h_++([o3]:List (List<|Bool×ByteArray×Int))),a2,c2,J,s0,s1,J,H9,(by exact PH hs aq ‹decide (e_=0)=true› ‹decide (p_<(ss.size:Int))=true› q0),aq,bq,(by simp only[gf,iB,gm];omega),(by simp only[gf,iB,gm];omega)⟩
   omega
  have p1:=dF b1
  refine ex<|aX<|bf<|bg<|nx<|sq<|sq ?_
  have Ly:=Gm hs<|by rw[‹decide (e_=0)=true›,‹decide (p_<(ss.size:Int))=false›];rfl
  refine rg<|ak J s1<|k<|nc J J<|aU te J J<|bl H2 1 J wA J J J<|k<|neq J J J J<|av<|nP J J (by rw[show (decide (e_=0))=true from b0]<;>rfl)<|sk<|cI<|ak J s2<|au (v:=R a0 h_ c0) J J<|au (v:=C 0) J J<|au (v:=C 0) J J<|av<|rt<|r3 J J J J ?_
  exact⟨h_,0,0,a0,c0,J,H2.below,(H2.me 0 J),(by simp only[ko,Ly,b0,b1,BL]),aq,aq⟩
 have p0:=dF b0
 refine aN J J J b0<|aN J J J b0<|aN J J J b0<|aN J J J b0<|aN J J J b0<|aN J J J b0<|aN J J J b0<|k<|cK J J J J b0 J<|av<|nP J J J<|ex<|aX<|bf<|bg<|nx<|sq<|sq ?_
 have Ly:=Gm hs<|by rw[‹decide (e_=0)=false›];rfl
 refine rg<|ak J s1<|k<|nc J J<|aU te J J<|bl H2 1 J wA J J J<|k<|neq J J J J<|av<|oP J J (by rw[show (decide (e_=0))=false from b0]<;>rfl)<|sq ?_
 refine BD J (by kernel_rfl) ?_
 refine kq (fun _ _=>mv rfl s1 e1)<|kq (fun _ _=>nc rfl rfl e1)<|kq (fun _ _=>fa j5 rfl rfl e1)<|kq (fun _ x_=>lx (H2.ext x_) 1 rfl aW rfl rfl rfl e1)<|kq (fun _ _=>mv rfl s1 e1)<|kq (fun _ _=>nc rfl rfl e1)<|kq (fun _ _=>fa te rfl rfl e1)<|kq (fun _ x_=>lx (H2.ext x_) 1 rfl wA rfl rfl rfl e1)<|kq (fun _ _=>jB (v:=.slice none 0 0) rfl rfl e1)<|kq (fun _ _=>jB (v:=C p_) rfl rfl e1)<|kq (fun _ _=>jB (v:=C e_) rfl rfl e1)<|zq ?_
 intro w2 cY
 have H3:=H2.ext cY
 refine nx<|rt<|aL<|r3 J J J J ?_
 exact⟨([]:List (List<|Bool×ByteArray×Int)),p_,e_,none,0,J,H3.below,(d_ _ _),(by simp only[ko,Ly,b0,BL]),aq,bq⟩
theorem aix:ct aJ 11:=⟨_,_,Tryz.func11,rfl,aM⟩
theorem Qh:ct aJ 15:=⟨_,_,Tryz.func15,rfl,aM⟩
theorem G1 (hM:eD M w) (hT:fQ 0 w) (yU:ss.size≤maxLen) (oY:aK lv) (PT:ss.size≤1000000) (aha:(ko ss).2.2=0→(ko ss).1.flatten.length≤64):Calls aJ 10 #[.string ss,C lv] w (cb fun v w'=>∃(lc_:Int) (nc_:Int) (Rw:List (List bX)) (TY:List Int) (Rx:List (List Int)) (iP:List cH) (fw_:Int) (nw_:Int) (a0:OA) (c0:Nat) (a1:OA) (c1:Nat) (a2:OA) (c2:Nat) (a3:OA) (c3:Nat),v=.agg #[C (uq ss lv),C (zn ss lv),C ((sF ss lv).1),C ((sF ss lv).2),C (zm ss lv),.bool (qU ss lv),C lc_,C nc_,R a0 Rw c0,R a1 TY c1,R a2 Rx c2,C ((kn ss lv).1),C ((kn ss lv).2.1),C ((kn ss lv).2.2.1),C ((kn ss lv).2.2.2.1),C ((kn ss lv).2.2.2.2),R a3 iP c3,C fw_,C nw_]∧Ext w w'∧cw M w' a0 c0 Rw∧cw M w' a1 c1 TY∧cw M w' a2 c2 Rx∧cw M w' a3 c3 iP):=by
 refine df 26 Tryz.func10 J J J hM fun f0 ha H=>?_
 have i0:f0 0=.string ss:=ha 0 bh
 have i1:f0 1=C lv:=ha 1 bh
 refine aB<|k<|al H kN ?_
 intro aY w0 bS (H0:HI M w w0 [box aY #[C 0,C 0,C 0,C 0,C 0,.bool false,C 0,C 0,.slice none 0 0,.slice none 0 0,.slice none 0 0,C 0,C 0,C 0,C 0,C 0,.slice none 0 0,C 0,C 0] 35])
 refine av<|sq<|aB<|ak J i1<|k ?_
 have bP:=Eh (lv:=lv) (w:=w0) oY
 refine ca acE J (ec J e0) bP ?_
 rintro _ w1 ⟨rfl,cY⟩
 have H1:=H0.ext cY
 refine k<|jE J J<|z<|nx ?_
 refine cd (b:=!(decide (0<(((dq lv).length:Nat):Int)))) J J (fun b0=>?_)<|fun b0=>?_
 ·
  have p0:=dF<|fY b0
  refine sq ?_
  obtain⟨qx,LM,nA,sZ,rk,gJ⟩:=adS (s:=ss) (show sd lv=false from fY ‹(!decide (0<(((dq lv).length:Nat):Int)))=true›)
  refine rg<|k<|bd (v:=.agg #[C 1,C 0,C 0,C 0,C 0,.bool false,C 0,C 0,.slice none 0 0,.slice none 0 0,.slice none 0 0,C 0,C 0,C 0,C 0,C 0,.slice none 0 0,C 0,C 0]) J (cj J ey) (fun _=>aM)<|k<|bp H1 0 J kN J J J J J J J ?_
  intro w2 (H2:HI M w w2 [box aY #[C 1,C 0,C 0,C 0,C 0,.bool false,C 0,C 0,.slice none 0 0,.slice none 0 0,.slice none 0 0,C 0,C 0,C 0,C 0,C 0,.slice none 0 0,C 0,C 0] 35])
  refine av<|rt<|aL<|oN H2 0 J kN J J J J aw ?_
  have e0:(1:Int)=uq ss lv:=by exact qx.symm
  have e1:(0:Int)=zn ss lv:=by exact LM.symm
  have e2:(0:Int)=(sF ss lv).1:=by rw[nA]
  have e3:(0:Int)=(sF ss lv).2:=by rw[nA]
  have e4:(0:Int)=zm ss lv:=by exact sZ.symm
  have e5:(false:Bool)=qU ss lv:=by exact rk.symm
  have rC:(0:Int)=(kn ss lv).1:=by rw[gJ]
  have sm:(0:Int)=(kn ss lv).2.1:=by rw[gJ]
  have rB:(0:Int)=(kn ss lv).2.2.1:=by rw[gJ]
  have ti:(0:Int)=(kn ss lv).2.2.2.1:=by rw[gJ]
  have th:(0:Int)=(kn ss lv).2.2.2.2:=by rw[gJ]
  have bo:=VY (fun (bV:Int) (dI:Int) (gv:Int) (ly:Int) (wq:Int) (wo:Bool) (rO:Int) (rN:Int) (rM:Int) (rL:Int) (rK:Int)=>(.agg #[C bV,C dI,C gv,C ly,C wq,.bool wo,C 0,C 0,.slice none ([]:List (List bX)).length 0,.slice none ([]:List Int).length 0,.slice none ([]:List (List Int)).length 0,C rO,C rN,C rM,C rL,C rK,.slice none ([]:List cH).length 0,C 0,C 0]:Value)) e0 e1 e2 e3 e4 e5 rC sm rB ti th
  exact⟨0,0,([]:List (List bX)),([]:List Int),([]:List (List Int)),([]:List cH),0,0,none,0,none,0,none,0,none,0,bo,H2.below,(d_ _ _),(d_ _ _),(d_ _ _),(d_ _ _)⟩
 have p0:=dT<|fk b0
 refine sk<|cI<|ak J i0<|k ?_
 have cV:=Rv (ss:=ss) H1.mb bq<|by exact PT
 refine ca aix J (ec J e0) cV ?_
 rintro _ w2 ⟨o0,o1,o2,a0,c0,rfl,eT,cm,q0,q1,q2⟩
 have H2:=H1.ext eT
 have H3:=ee H2 cm
 refine ak (v:=.tuple #[R a0 o0 c0,C o1,C o2]) J J<|k<|xt J J J<|k<|xt J J J<|k<|xt J J J<|au (v:=R a0 o0 c0) J J<|au (v:=C o1) J J<|au (v:=C o2) J J<|av<|sq<|aB<|ak (v:=C o2) J J<|k<|neq J J J J<|z<|nx ?_
 refine cd (b:=!decide (o2=0)) J J (fun b1=>?_)<|fun b1=>?_
 ·
  have p1:=dF<|fY b1
  refine sq ?_
  obtain⟨qx,LM,nA,sZ,rk,gJ⟩:=aac (show sd lv=true from fk ‹(!decide (0<(((dq lv).length:Nat):Int)))=false›) q0 (dF (fY bq))
  refine rg<|ak (v:=C o2) J J<|ak (v:=C o1) J J<|k<|bd (v:=.agg #[C o2,C o1,C 0,C 0,C 0,.bool false,C 0,C 0,.slice none 0 0,.slice none 0 0,.slice none 0 0,C 0,C 0,C 0,C 0,C 0,.slice none 0 0,C 0,C 0]) J (cj J<|cj J ey) (fun _=>aM)<|k<|bp H3 1 J kN J J J J J J J ?_
  intro w3 (H4:HI M w w3 [iL a0 o0 c0,box aY #[C o2,C o1,C 0,C 0,C 0,.bool false,C 0,C 0,.slice none 0 0,.slice none 0 0,.slice none 0 0,C 0,C 0,C 0,C 0,C 0,.slice none 0 0,C 0,C 0] 35])
  refine av<|rt<|aL<|oN H4 1 J kN J J J J aw ?_
  have e0:(o2:Int)=uq ss lv:=by exact qx.symm
  have e1:(o1:Int)=zn ss lv:=by exact LM.symm
  have e2:(0:Int)=(sF ss lv).1:=by rw[nA]
  have e3:(0:Int)=(sF ss lv).2:=by rw[nA]
  have e4:(0:Int)=zm ss lv:=by exact sZ.symm
  have e5:(false:Bool)=qU ss lv:=by exact rk.symm
  have rC:(0:Int)=(kn ss lv).1:=by rw[gJ]
  have sm:(0:Int)=(kn ss lv).2.1:=by rw[gJ]
  have rB:(0:Int)=(kn ss lv).2.2.1:=by rw[gJ]
  have ti:(0:Int)=(kn ss lv).2.2.2.1:=by rw[gJ]
  have th:(0:Int)=(kn ss lv).2.2.2.2:=by rw[gJ]
  have bo:=VY (fun (bV:Int) (dI:Int) (gv:Int) (ly:Int) (wq:Int) (wo:Bool) (rO:Int) (rN:Int) (rM:Int) (rL:Int) (rK:Int)=>(.agg #[C bV,C dI,C gv,C ly,C wq,.bool wo,C 0,C 0,.slice none ([]:List (List bX)).length 0,.slice none ([]:List Int).length 0,.slice none ([]:List (List Int)).length 0,C rO,C rN,C rM,C rL,C rK,.slice none ([]:List cH).length 0,C 0,C 0]:Value)) e0 e1 e2 e3 e4 e5 rC sm rB ti th
  exact⟨0,0,([]:List (List bX)),([]:List Int),([]:List (List Int)),([]:List cH),0,0,none,0,none,0,none,0,none,0,bo,H4.below,(d_ _ _),(d_ _ _),(d_ _ _),(d_ _ _)⟩
 have p1:=dT<|fk b1
 refine sk<|nx<|sq ?_
 have mR:=dT<|fk ‹(!decide (o2=0))=false›
 obtain⟨qx,LM,nA,sZ,rk,gJ⟩:=O8 (show sd lv=true from fk ‹(!decide (0<(((dq lv).length:Nat):Int)))=false›) q0 mR
 have alK:(o0.flatten).length≤64:=by have h_:=aha;rw[q0] at h_;exact h_ mR
 refine rg<|ak (v:=R a0 o0 c0) J J<|ak J i1<|k ?_
 have fT:=rI (h:=o0) (lv:=lv) H3.mb (hT.ext H3.below) (H3.rv 0 J) oY aq aq
 refine ca Qh J (ec J<|ec J e0) fT ?_
 rintro _ w3 ⟨o3,o4,o5,o6,o7,o8,o9,kv,a1,c1,a2,c2,a3,c3,a4,c4,rfl,fB,dM,dV,fq,iU⟩
 have H4:=H3.ext fB
 have H5:=ee H4 dM
 have H6:=ee H5 dV
 have H7:=ee H6 fq
 have H8:=ee H7 iU
 refine k<|bp H8 5 J kN J J J J J J J ?_
 intro w4 (H9:HI M w w4 [iL a4 o8 c4,iL a3 o7 c3,iL a2 o6 c2,iL a1 o5 c1,iL a0 o0 c0,box aY #[C (oO o0 lv),C 0,C ((mz o0 lv).1),C ((mz o0 lv).2),C (sW o0 lv),.bool (kC o0 lv),C o3,C o4,R a1 o5 c1,R a2 o6 c2,R a3 o7 c3,C ((dN o0 lv).1),C ((dN o0 lv).2.1),C ((dN o0 lv).2.2.1),C ((dN o0 lv).2.2.2.1),C ((dN o0 lv).2.2.2.2),R a4 o8 c4,C o9,C kv] 35])
 refine av<|rt<|oN H9 5 J kN J J J J aw ?_
 have e0:(oO o0 lv:Int)=uq ss lv:=by exact qx.symm
 have e1:(0:Int)=zn ss lv:=by exact LM.symm
 have e2:((mz o0 lv).1:Int)=(sF ss lv).1:=by rw[nA]
 have e3:((mz o0 lv).2:Int)=(sF ss lv).2:=by rw[nA]
 have e4:(sW o0 lv:Int)=zm ss lv:=by exact sZ.symm
 have e5:(kC o0 lv:Bool)=qU ss lv:=by exact rk.symm
 have rC:((dN o0 lv).1:Int)=(kn ss lv).1:=by rw[gJ]
 have sm:((dN o0 lv).2.1:Int)=(kn ss lv).2.1:=by rw[gJ]
 have rB:((dN o0 lv).2.2.1:Int)=(kn ss lv).2.2.1:=by rw[gJ]
 have ti:((dN o0 lv).2.2.2.1:Int)=(kn ss lv).2.2.2.1:=by rw[gJ]
 have th:((dN o0 lv).2.2.2.2:Int)=(kn ss lv).2.2.2.2:=by rw[gJ]
 have bo:=VY (fun (bV:Int) (dI:Int) (gv:Int) (ly:Int) (wq:Int) (wo:Bool) (rO:Int) (rN:Int) (rM:Int) (rL:Int) (rK:Int)=>(.agg #[C bV,C dI,C gv,C ly,C wq,.bool wo,C o3,C o4,.slice a1 o5.length c1,.slice a2 o6.length c2,.slice a3 o7.length c3,C rO,C rN,C rM,C rL,C rK,.slice a4 o8.length c4,C o9,C kv]:Value)) e0 e1 e2 e3 e4 e5 rC sm rB ti th
 exact⟨o3,o4,o5,o6,o7,o8,o9,kv,a1,c1,a2,c2,a3,c3,a4,c4,bo,H9.below,(H9.fg 3 J),(H9.fg 2 J),(H9.fg 1 J),(H9.fg 0 J)⟩
theorem acG:ct aJ 10:=⟨_,_,Tryz.func10,rfl,aM⟩
theorem S6:gM aJ 35 0 0:=⟨_,_,Tryz.underlying35,rfl,rfl,aM⟩
theorem pz:gM aJ 35 5 5:=⟨_,_,Tryz.underlying35,rfl,rfl,aM⟩
theorem CM:gM aJ 35 7 11:=⟨_,_,Tryz.underlying35,rfl,rfl,aM⟩
theorem aiu:ct aJ 19:=⟨_,_,Tryz.func19,rfl,aM⟩
theorem aiw:ct aJ 13:=⟨_,_,Tryz.func13,rfl,aM⟩
theorem xM (hT:fQ 0 w):Calls aJ 9 #[] w (cb fun v w'=>v=.bool true∧Ext w w'):=by
 refine df 31 Tryz.func9 J J J pk fun f0 ha H=>?_
 refine aB<|au (v:=.bool false) J J<|bt<|au (v:=.string ⟨#[119,58,120,61,49,32,114,58,120,61,50,10,119,58,120,61,50,32,114,58,120,61,49,10]⟩) J J<|bt<|ak (v:=.string ⟨#[119,58,120,61,49,32,114,58,120,61,50,10,119,58,120,61,50,32,114,58,120,61,49,10]⟩) J J<|k ?_
 have bP:=G1 (ss:=⟨#[119,58,120,61,49,32,114,58,120,61,50,10,119,58,120,61,50,32,114,58,120,61,49,10]⟩) (lv:=3) (w:=w) H.mb (hT.ext H.below) aw aV aw<|by exact TR
 refine ca acG J (ec J<|ec J e0) bP ?_
 rintro _ w0 ⟨o0,o1,o2,o3,o4,o5,o6,o7,a0,c0,a1,c1,a2,c2,a3,c3,rfl,bS,cm,dM,dV,fq⟩
 have H0:=H.ext bS
 have H1:=ee H0 cm
 have H2:=ee H1 dM
 have H3:=ee H2 dV
 have H4:=ee H3 fq
 refine ak (v:=.string ⟨#[119,58,120,61,49,32,114,58,120,61,50,10,119,58,120,61,50,32,114,58,120,61,49,10]⟩) J J<|k ?_
 have cV:=G1 (ss:=⟨#[119,58,120,61,49,32,114,58,120,61,50,10,119,58,120,61,50,32,114,58,120,61,49,10]⟩) (lv:=2) H4.mb (hT.ext H4.below) aw aV aw<|by exact TR
 refine ca acG J (ec J<|ec J e0) cV ?_
 rintro _ w1 ⟨o8,o9,kv,fF,jR,wP,D0,Gb,a4,c4,a5,c5,a6,c6,a7,c7,rfl,cY,iU,jO,iT,kZ⟩
 have H5:=H4.ext cY
 have H6:=ee H5 iU
 have H7:=ee H6 jO
 have H8:=ee H7 iT
 have H9:=ee H8 kZ
 refine k<|al H9 kN ?_
 let bc:=[iL a7 wP c7,iL a6 jR c6,iL a5 fF c5,iL a4 kv c4,iL a3 o5 c3,iL a2 o4 c2,iL a1 o3 c1,iL a0 o2 c0]
 intro aY w2 eT (dC:HI (fun _=>False) w w2 (box aY #[C 0,C 0,C 0,C 0,C 0,.bool false,C 0,C 0,.slice none 0 0,.slice none 0 0,.slice none 0 0,C 0,C 0,C 0,C 0,C 0,.slice none 0 0,C 0,C 0] 35::bc))
 refine k<|al dC kN ?_
 intro ba w3 fB (cT:HI (fun _=>False) w w3 (box ba #[C 0,C 0,C 0,C 0,C 0,.bool false,C 0,C 0,.slice none 0 0,.slice none 0 0,.slice none 0 0,C 0,C 0,C 0,C 0,C 0,.slice none 0 0,C 0,C 0] 35::box aY #[C 0,C 0,C 0,C 0,C 0,.bool false,C 0,C 0,.slice none 0 0,.slice none 0 0,.slice none 0 0,C 0,C 0,C 0,C 0,C 0,.slice none 0 0,C 0,C 0] 35::bc))
 refine k<|bp cT 1 J kN J J J J J J J ?_
 let J0:=box aY #[C (uq ⟨#[119,58,120,61,49,32,114,58,120,61,50,10,119,58,120,61,50,32,114,58,120,61,49,10]⟩ 3),C (zn ⟨#[119,58,120,61,49,32,114,58,120,61,50,10,119,58,120,61,50,32,114,58,120,61,49,10]⟩ 3),C ((sF ⟨#[119,58,120,61,49,32,114,58,120,61,50,10,119,58,120,61,50,32,114,58,120,61,49,10]⟩ 3).1),C ((sF ⟨#[119,58,120,61,49,32,114,58,120,61,50,10,119,58,120,61,50,32,114,58,120,61,49,10]⟩ 3).2),C (zm ⟨#[119,58,120,61,49,32,114,58,120,61,50,10,119,58,120,61,50,32,114,58,120,61,49,10]⟩ 3),.bool (qU ⟨#[119,58,120,61,49,32,114,58,120,61,50,10,119,58,120,61,50,32,114,58,120,61,49,10]⟩ 3),C o0,C o1,R a0 o2 c0,R a1 o3 c1,R a2 o4 c2,C ((kn ⟨#[119,58,120,61,49,32,114,58,120,61,50,10,119,58,120,61,50,32,114,58,120,61,49,10]⟩ 3).1),C ((kn ⟨#[119,58,120,61,49,32,114,58,120,61,50,10,119,58,120,61,50,32,114,58,120,61,49,10]⟩ 3).2.1),C ((kn ⟨#[119,58,120,61,49,32,114,58,120,61,50,10,119,58,120,61,50,32,114,58,120,61,49,10]⟩ 3).2.2.1),C ((kn ⟨#[119,58,120,61,49,32,114,58,120,61,50,10,119,58,120,61,50,32,114,58,120,61,49,10]⟩ 3).2.2.2.1),C ((kn ⟨#[119,58,120,61,49,32,114,58,120,61,50,10,119,58,120,61,50,32,114,58,120,61,49,10]⟩ 3).2.2.2.2),R a3 o5 c3,C o6,C o7] 35
 intro w4 (dt:HI (fun _=>False) w w4 (box ba #[C 0,C 0,C 0,C 0,C 0,.bool false,C 0,C 0,.slice none 0 0,.slice none 0 0,.slice none 0 0,C 0,C 0,C 0,C 0,C 0,.slice none 0 0,C 0,C 0] 35::J0::bc))
 refine k<|bp dt 0 J kN J J J J J J J ?_
 intro w5 (dw:HI (fun _=>False) w w5 (box ba #[C (uq ⟨#[119,58,120,61,49,32,114,58,120,61,50,10,119,58,120,61,50,32,114,58,120,61,49,10]⟩ 2),C (zn ⟨#[119,58,120,61,49,32,114,58,120,61,50,10,119,58,120,61,50,32,114,58,120,61,49,10]⟩ 2),C ((sF ⟨#[119,58,120,61,49,32,114,58,120,61,50,10,119,58,120,61,50,32,114,58,120,61,49,10]⟩ 2).1),C ((sF ⟨#[119,58,120,61,49,32,114,58,120,61,50,10,119,58,120,61,50,32,114,58,120,61,49,10]⟩ 2).2),C (zm ⟨#[119,58,120,61,49,32,114,58,120,61,50,10,119,58,120,61,50,32,114,58,120,61,49,10]⟩ 2),.bool (qU ⟨#[119,58,120,61,49,32,114,58,120,61,50,10,119,58,120,61,50,32,114,58,120,61,49,10]⟩ 2),C o8,C o9,R a4 kv c4,R a5 fF c5,R a6 jR c6,C ((kn ⟨#[119,58,120,61,49,32,114,58,120,61,50,10,119,58,120,61,50,32,114,58,120,61,49,10]⟩ 2).1),C ((kn ⟨#[119,58,120,61,49,32,114,58,120,61,50,10,119,58,120,61,50,32,114,58,120,61,49,10]⟩ 2).2.1),C ((kn ⟨#[119,58,120,61,49,32,114,58,120,61,50,10,119,58,120,61,50,32,114,58,120,61,49,10]⟩ 2).2.2.1),C ((kn ⟨#[119,58,120,61,49,32,114,58,120,61,50,10,119,58,120,61,50,32,114,58,120,61,49,10]⟩ 2).2.2.2.1),C ((kn ⟨#[119,58,120,61,49,32,114,58,120,61,50,10,119,58,120,61,50,32,114,58,120,61,49,10]⟩ 2).2.2.2.2),R a7 wP c7,C D0,C Gb] 35::J0::bc))
 refine bt<|aU S6 J J<|bl dw 1 J wA J J J<|k<|eql J J J J<|ak (v:=.bool (decide ((uq ⟨#[119,58,120,61,49,32,114,58,120,61,50,10,119,58,120,61,50,32,114,58,120,61,49,10]⟩ 3)=0))) J J<|aT J J J (amp FE.1)<|fa pz J J<|aT J J J (amp FE.1)<|lx dw 1 J l5 J J J<|k<|aR J J J J (amp FE.1) J<|ak (v:=.bool (qU ⟨#[119,58,120,61,49,32,114,58,120,61,50,10,119,58,120,61,50,32,114,58,120,61,49,10]⟩ 3)) J J<|aT J J J FE.2<|fa S6 J J<|aT J J J FE.2<|lx dw 0 J wA J J J<|aT J J J FE.2<|eql J J J J<|k<|aR J J J J FE.2 J<|ak (v:=.bool (decide ((uq ⟨#[119,58,120,61,49,32,114,58,120,61,50,10,119,58,120,61,50,32,114,58,120,61,49,10]⟩ 2)=0))) J J<|aT J J J (amp zc.1)<|fa pz J J<|aT J J J (amp zc.1)<|lx dw 0 J l5 J J J<|aT J J J (amp zc.1)<|jE J J<|k<|aR J J J J (amp zc.1) J<|ak (v:=.bool (!(qU ⟨#[119,58,120,61,49,32,114,58,120,61,50,10,119,58,120,61,50,32,114,58,120,61,49,10]⟩ 2))) J J<|aT J J J (by rw[show (qU ⟨#[119,58,120,61,49,32,114,58,120,61,50,10,119,58,120,61,50,32,114,58,120,61,49,10]⟩ 2)=false from zc.2.1]<;>rfl)<|fa CM J J<|aT J J J (by rw[show (qU ⟨#[119,58,120,61,49,32,114,58,120,61,50,10,119,58,120,61,50,32,114,58,120,61,49,10]⟩ 2)=false from zc.2.1]<;>rfl)<|fa xo J J<|aT J J J (by rw[show (qU ⟨#[119,58,120,61,49,32,114,58,120,61,50,10,119,58,120,61,50,32,114,58,120,61,49,10]⟩ 2)=false from zc.2.1]<;>rfl)<|lx dw 0 J aW J J J<|aT J J J (by rw[show (qU ⟨#[119,58,120,61,49,32,114,58,120,61,50,10,119,58,120,61,50,32,114,58,120,61,49,10]⟩ 2)=false from zc.2.1]<;>rfl)<|eql J J J J<|k<|aR J J J J (by rw[show (qU ⟨#[119,58,120,61,49,32,114,58,120,61,50,10,119,58,120,61,50,32,114,58,120,61,49,10]⟩ 2)=false from zc.2.1]<;>rfl) J<|au (v:=.bool (decide (((kn ⟨#[119,58,120,61,49,32,114,58,120,61,50,10,119,58,120,61,50,32,114,58,120,61,49,10]⟩ 2).1)=5))) J J<|av<|rt<|r1 J J ?_
 exact⟨amh Value.bool (by exact(amp zc.2.2)),dw.below⟩
theorem Q3 {kI:Int} (hM:eD M w) (kh:cw M w gq gp h) (aew:aK kI) (lE:h.flatten.length≤1048576) (alr:kI≤64):Calls aJ 14 #[R gq h gp,C kI] w (cb fun v w'=>∃(a0:OA) (c0:Nat) (a1:OA) (c1:Nat) (a2:OA) (c2:Nat),v=.tuple #[.agg #[.slice a0 (zX h kI).length c0,.slice a1 (oD h kI).length c1,.slice a2 (oE h kI).length c2],.bool (iF h kI&&fF h)]∧Ext w w'∧RV M w' (.slice a0 (zX h kI).length c0) (zX h kI)∧RV M w' (.slice a1 (oD h kI).length c1) (oD h kI)∧RV M w' (.slice a2 (oE h kI).length c2) (oE h kI)):=by
 refine df 15 Tryz.func14 J J J hM fun f0 ha H=>?_
 have H0:=ee H kh
 have vi:=aP kh
 have i0:f0 0=R gq h gp:=ha 0 bh
 have i1:f0 1=C kI:=ha 1 bh
 refine aB<|k<|al H0 dx ?_
 intro aY w0 bS (H1:HI M w w0 [box aY #[.slice none 0 0,.slice none 0 0,.slice none 0 0] 47,iL gq h gp])
 refine au (v:=.bool false) J J<|av<|sq<|aB<|ak J i0<|ak J i1<|k ?_
 have bP:=M3 (h:=h) (m:=kI) H1.mb (H1.rv 1 J) aew<|by exact lE
 refine ca aiu J (ec J<|ec J e0) bP ?_
 rintro _ w1 ⟨rfl,cY⟩
 have H2:=H1.ext cY
 refine k<|jE J J<|z<|nx ?_
 refine cd (b:=!(iF h kI)) J J (fun b0=>?_)<|fun b0=>?_
 ·
  refine sq ?_
  have yR:=fY ‹(!iF h kI)=true›
  refine rg<|k<|bd (v:=.agg #[.slice none 0 0,.slice none 0 0,.slice none 0 0]) J ey (fun _=>aM)<|k<|bp H2 0 J dx J J J J J J J ?_
  intro w2 (H3:HI M w w2 [box aY #[.slice none 0 0,.slice none 0 0,.slice none 0 0] 47,iL gq h gp])
  refine au (v:=.bool false) J J<|av<|rt<|aL<|ib H3 0 J dx J J J J J aw ?_
  have e0:([]:List ByteArray)=zX h kI:=by unfold zX;rw[yR];rfl
  have e1:([]:List aH)=oD h kI:=by unfold oD;rw[yR];rfl
  have e2:([]:List Int)=oE h kI:=by unfold oE;rw[yR];rfl
  have e3:(false:Bool)=(iF h kI&&fF h):=by rw[yR];rfl
  have bo:=Tt (fun (bV:List ByteArray) (dI:List aH) (gv:List Int) (ly:Bool)=>(.tuple #[.agg #[.slice none bV.length 0,.slice none dI.length 0,.slice none gv.length 0],.bool ly]:Value)) e0 e1 e2 e3
  exact⟨none,0,none,0,none,0,bo,H3.below,(amh (fun (x_:List ByteArray)=>RV _ _ (.slice none x_.length 0) x_) e0).mp (d_ _ _),(amh (fun (x_:List aH)=>RV _ _ (.slice none x_.length 0) x_) e1).mp (d_ _ _),(amh (fun (x_:List Int)=>RV _ _ (.slice none x_.length 0) x_) e2).mp (d_ _ _)⟩
 refine sk<|nx<|sq ?_
 have yR:=fk ‹(!iF h kI)=false›
 have LJ:=(Iv.1 yR).2.1
 refine rg<|ak J i0<|k ?_
 have cV:=Uv (h:=h) H2.mb (H2.rv 1 J) aq
 refine ca aiw J (ec J e0) cV ?_
 rintro _ w2 ⟨a0,c0,a1,c1,a2,c2,rfl,eT,cm,dM,dV⟩
 have H3:=H2.ext eT
 have H4:=ee H3 cm
 have H5:=ee H4 dM
 have H6:=ee H5 dV
 refine k<|xt J J J<|k<|xt J J J<|k<|bp H6 3 J dx J J J J J J J ?_
 intro w3 (H7:HI M w w3 [iL a2 (ka h) c2,iL a1 (jD h) c1,iL a0 (sP h) c0,box aY #[R a0 (sP h) c0,R a1 (jD h) c1,R a2 (ka h) c2] 47,iL gq h gp])
 refine au (v:=.bool (fF h)) J J<|av<|rt<|ib H7 3 J dx J J J J J aw ?_
 have e0:(sP h:List ByteArray)=zX h kI:=by unfold zX;rw[yR];rfl
 have e1:(jD h:List aH)=oD h kI:=by unfold oD;rw[yR];rfl
 have e2:(ka h:List Int)=oE h kI:=by unfold oE;rw[yR];rfl
 have e3:(fF h:Bool)=(iF h kI&&fF h):=by rw[yR];rfl
 have bo:=Tt (fun (bV:List ByteArray) (dI:List aH) (gv:List Int) (ly:Bool)=>(.tuple #[.agg #[.slice a0 bV.length c0,.slice a1 dI.length c1,.slice a2 gv.length c2],.bool ly]:Value)) e0 e1 e2 e3
 exact⟨a0,c0,a1,c1,a2,c2,bo,H7.below,(amh (fun (x_:List ByteArray)=>RV _ _ (.slice a0 x_.length c0) x_) e0).mp (H7.fg 2 J),(amh (fun (x_:List aH)=>RV _ _ (.slice a1 x_.length c1) x_) e1).mp (H7.fg 1 J),(amh (fun (x_:List Int)=>RV _ _ (.slice a2 x_.length c2) x_) e2).mp (H7.fg 0 J)⟩
theorem aiv:ct aJ 14:=⟨_,_,Tryz.func14,rfl,aM⟩
theorem XM:ct aJ 9:=⟨_,_,Tryz.func9,rfl,aM⟩
theorem QZ:aJ.underlying 4=some (.bool):=aM
theorem acF:ct aJ 17:=⟨_,_,Tryz.func17,rfl,aM⟩
theorem Gp (hM:eD M w) (hT:fQ 0 w) (kh:cw M w gq gp h) (lE:h.flatten.length≤1048576):Calls aJ 4 #[R gq h gp] w (cb fun v w'=>v=.bool true∧Ext w w'):=by
 refine df 66 Tryz.func4 J J J hM fun f0 ha H=>?_
 let J0:=iL gq h gp
 have H0:=H.put (it:=J0) J<|by rw[bN];exact kh
 have vi:=aP kh
 have i0:f0 0=R gq h gp:=ha 0 bh
 refine aB<|au (v:=.bool false) J J<|bt<|ak J i0<|k ?_
 have bP:=Q3 (h:=h) (kI:=12) H0.mb (H0.rv 0 J) aV (by exact lE) aw
 refine ca aiv J (ec J<|ec J e0) bP ?_
 rintro _ w0 ⟨a0,c0,a1,c1,a2,c2,rfl,bS,cm,dM,dV⟩
 have H1:=H0.ext bS
 let J1:=iL a0 (zX h 12) c0
 have H2:=H1.put (it:=J1) J cm
 let J2:=iL a1 (oD h 12) c1
 have H3:=H2.put (it:=J2) J<|by rw[aE J];exact dM
 let J3:=iL a2 (oE h 12) c2
 have H4:=H3.put (it:=J3) J<|by rw[aE rfl,aE rfl];exact dV
 refine ak (v:=.tuple #[.agg #[R a0 (zX h 12) c0,R a1 (oD h 12) c1,R a2 (oE h 12) c2],.bool (iF h 12&&fF h)]) J J<|k<|xt J J J<|k<|xt J J J<|k<|al H4 dx ?_
 let bc:=[J3,J2,J1,J0]
 intro aY w1 cY (H5:HI M w w1 (box aY #[.slice none 0 0,.slice none 0 0,.slice none 0 0] 47::bc))
 refine k<|bp H5 0 J dx J J J J J J J ?_
 let J4:=box aY #[R a0 (zX h 12) c0,R a1 (oD h 12) c1,R a2 (oE h 12) c2] 47
 let bY:=J4::bc
 intro w2 (H6:HI M w w2 bY)
 refine au (v:=.bool (iF h 12&&fF h)) J J<|av<|sq<|aB<|ak (v:=.bool (iF h 12&&fF h)) J J<|k<|jE J J<|z<|nx ?_
 refine cd (b:=!(iF h 12&&fF h)) J J (fun b0=>?_)<|fun b0=>?_
 ·
  refine aB<|k ?_
  have cV:=xM (w:=w2)<|hT.ext H6.below
  refine ca XM J e0 cV ?_
  rintro _ w3 ⟨rfl,eT⟩
  have H7:=H6.ext eT
  refine au (v:=.bool true) J J<|av<|rt<|aL<|r1 J J ?_
  exact⟨J,H7.below⟩
 refine sk<|nx<|sq ?_
 obtain⟨lH,nO,jk,LJ⟩:=ae9 (fk ‹(!(iF h 12&&fF h))=false›)
 refine rg<|ak J i0<|k ?_
 have cV:=rI (h:=h) (lv:=1) H6.mb (hT.ext H6.below) (H6.rv 4 J) aV (by exact lE) aq
 refine ca Qh J (ec J<|ec J e0) cV ?_
 rintro _ w3 ⟨o0,o1,o2,o3,o4,o5,o6,o7,a3,c3,a4,c4,a5,c5,a6,c6,rfl,eT,fq,iU,jO,iT⟩
 have H7:=H6.ext eT
 let J5:=iL a3 o2 c3
 have H8:=H7.put (it:=J5) J fq
 let J6:=iL a4 o3 c4
 have H9:=H8.put (it:=J6) J<|by rw[aE J];exact iU
 let J7:=iL a5 o4 c5
 have dC:=H9.put (it:=J7) J<|by rw[aE rfl,aE rfl];exact jO
 let J8:=iL a6 o5 c6
 have cT:=dC.put (it:=J8) J<|by rw[aE rfl,aE rfl,aE rfl];exact iT
 refine ak J i0<|k ?_
 have fT:=rI (h:=h) (lv:=2) cT.mb (hT.ext cT.below) (cT.rv 8 J) aV (by exact lE) aq
 refine ca Qh J (ec J<|ec J e0) fT ?_
 rintro _ w4 ⟨o8,o9,kv,fF,jR,wP,D0,Gb,a7,c7,a8,c8,a9,c9,iZ,iY,rfl,fB,kZ,oe,ph,rb⟩
 have dt:=cT.ext fB
 let J9:=iL a7 kv c7
 have dw:=dt.put (it:=J9) J kZ
 let dK:=iL a8 fF c8
 have cJ:=dw.put (it:=dK) J<|by rw[aE J];exact oe
 let ez:=iL a9 jR c9
 have dS:=cJ.put (it:=ez) J<|by rw[aE rfl,aE rfl];exact ph
 let fR:=iL iZ wP iY
 have de:=dS.put (it:=fR) J<|by rw[aE rfl,aE rfl,aE rfl];exact rb
 refine ak J i0<|k ?_
 have eU:=rI (h:=h) (lv:=3) de.mb (hT.ext de.below) (de.rv 12 J) aV (by exact lE) aq
 refine ca Qh J (ec J<|ec J e0) eU ?_
 rintro _ w5 ⟨o16,Ch,RY,IJ,RX,WY,N0,K8,mF,mD,a12,oQ,jK,jJ,kL,kJ,rfl,iN,og,nw,qh,qg⟩
 have cO:=de.ext iN
 let fw:=iL mF RY mD
 have dP:=cO.put (it:=fw) J og
 let hG:=iL a12 IJ oQ
 have dG:=dP.put (it:=hG) J<|by rw[aE J];exact nw
 let nt:=iL jK RX jJ
 have cC:=dG.put (it:=nt) J<|by rw[aE rfl,aE rfl];exact qh
 let lh:=iL kL WY kJ
 have dR:=cC.put (it:=lh) J<|by rw[aE rfl,aE rfl,aE rfl];exact qg
 refine k<|al dR kN ?_
 let dE:=lh::nt::hG::fw::fR::ez::dK::J9::J8::J7::J6::J5::bY
 intro ba w6 jb (dB:HI M w w6 (box ba #[C 0,C 0,C 0,C 0,C 0,.bool false,C 0,C 0,.slice none 0 0,.slice none 0 0,.slice none 0 0,C 0,C 0,C 0,C 0,C 0,.slice none 0 0,C 0,C 0] 35::dE))
 let qY:=box ba #[C 0,C 0,C 0,C 0,C 0,.bool false,C 0,C 0,.slice none 0 0,.slice none 0 0,.slice none 0 0,C 0,C 0,C 0,C 0,C 0,.slice none 0 0,C 0,C 0] 35
 refine k<|al dB kN ?_
 intro bD w7 kf (eO:HI M w w7 (box bD #[C 0,C 0,C 0,C 0,C 0,.bool false,C 0,C 0,.slice none 0 0,.slice none 0 0,.slice none 0 0,C 0,C 0,C 0,C 0,C 0,.slice none 0 0,C 0,C 0] 35::qY::dE))
 let jm:=box bD #[C 0,C 0,C 0,C 0,C 0,.bool false,C 0,C 0,.slice none 0 0,.slice none 0 0,.slice none 0 0,C 0,C 0,C 0,C 0,C 0,.slice none 0 0,C 0,C 0] 35
 refine k<|al eO kN ?_
 intro eX w8 l4 (fc:HI M w w8 (box eX #[C 0,C 0,C 0,C 0,C 0,.bool false,C 0,C 0,.slice none 0 0,.slice none 0 0,.slice none 0 0,C 0,C 0,C 0,C 0,C 0,.slice none 0 0,C 0,C 0] 35::jm::qY::dE))
 let ns:=box eX #[C 0,C 0,C 0,C 0,C 0,.bool false,C 0,C 0,.slice none 0 0,.slice none 0 0,.slice none 0 0,C 0,C 0,C 0,C 0,C 0,.slice none 0 0,C 0,C 0] 35
 refine k<|bp fc 2 J kN J J J J J J J ?_
 let oS:=box ba #[C (oO h 1),C 0,C ((mz h 1).1),C ((mz h 1).2),C (sW h 1),.bool (kC h 1),C o0,C o1,R a3 o2 c3,R a4 o3 c4,R a5 o4 c5,C ((dN h 1).1),C ((dN h 1).2.1),C ((dN h 1).2.2.1),C ((dN h 1).2.2.2.1),C ((dN h 1).2.2.2.2),R a6 o5 c6,C o6,C o7] 35
 let iH:=oS::dE
 intro w9 (gI:HI M w w9 (ns::jm::iH))
 refine k<|bp gI 1 J kN J J J J J J J ?_
 let nf:=box bD #[C (oO h 2),C 0,C ((mz h 2).1),C ((mz h 2).2),C (sW h 2),.bool (kC h 2),C o8,C o9,R a7 kv c7,R a8 fF c8,R a9 jR c9,C ((dN h 2).1),C ((dN h 2).2.1),C ((dN h 2).2.2.1),C ((dN h 2).2.2.2.1),C ((dN h 2).2.2.2.2),R iZ wP iY,C D0,C Gb] 35
 let eW:=nf::iH
 intro dD (iD:HI M w dD (ns::eW))
 refine k<|bp iD 0 J kN J J J J J J J ?_
 let lK:=box eX #[C (oO h 3),C 0,C ((mz h 3).1),C ((mz h 3).2),C (sW h 3),.bool (kC h 3),C o16,C Ch,R mF RY mD,R a12 IJ oQ,R jK RX jJ,C ((dN h 3).1),C ((dN h 3).2.1),C ((dN h 3).2.2.1),C ((dN h 3).2.2.2.1),C ((dN h 3).2.2.2.2),R kL WY kJ,C N0,C K8] 35
 intro eb (ga:HI M w eb (lK::eW))
 refine av<|sq<|aB<|aU pz J J<|bl ga 1 J l5 J J J<|ak (v:=.bool (kC h 2)) J J ?_
 rcases bE (kC h 2) with b1|b1
 ·
  refine aN J J J b1<|aN J J J b1<|k<|aR J J J J b1 J<|ak (v:=.bool true) J J<|aT J J J J<|fa pz J J<|aT J J J J<|lx ga 2 J l5 J J J<|aT J J J J<|jE J J<|k<|aR J J J J J J<|av<|nP J J (by rw[show (kC h 1)=true from(qP jk b1)]<;>rfl)<|sk<|cI<|k<|cq ga 15 J dx J J aw J<|k ?_
  have kR:=xA (I:=(oD h 12)) (U:=(oE h 12)) (lv:=1) (aD:=a0) (aF:=(zX h 12).length) (aC:=c0) ga.mb (hT.ext ga.below) (ga.rv 17 J) (ga.rv 16 J) aV (by rw[lH];exact HB h) (by rw[lH];have h_:=EX h;omega) (by rw[lH,nO];exact EY h) (by rw[lH,nO];exact HC h) aw
  refine ca L1 J (ec J<|ec J e0) kR ?_
  rintro _ ff ⟨j4,vw,nJ,ou,Bn,my,uC,rfl,lM,q0⟩
  have lL:=ga.ext lM
  refine ak (v:=.tuple #[.agg #[C j4,C vw,C nJ,C ou,C Bn,.slice none 0 0,C my,C uC],C (dL (oD h 12) (oE h 12) 1)]) J J<|k<|xt J J J<|k<|xt J J J<|k<|al lL bM ?_
  intro fP hQ xJ (il:HI M w hQ (box fP #[C 0,C 0,C 0,C 0,C 0,.slice none 0 0,C 0,C 0] 33::lK::eW))
  refine k<|bp il 0 J bM J J J J J J J ?_
  intro iO (n3:HI M w iO (box fP #[C j4,C vw,C nJ,C ou,C Bn,.slice none 0 0,C my,C uC] 33::lK::eW))
  refine au (v:=C (dL (oD h 12) (oE h 12) 1)) J J<|bt<|k ?_
  have lI:=xM (w:=iO)<|hT.ext n3.below
  refine ca XM J e0 lI ?_
  rintro _ oM ⟨rfl,tI⟩
  have je:=n3.ext tI
  refine ak (v:=.bool true) J J<|aT J J J J<|mv (v:=C (dL (oD h 12) (oE h 12) 1)) J J<|aT J J J J<|eql J J J J<|aT J J J J<|fa pz J J<|aT J J J J<|lx je 3 J l5 J J J<|aT J J J J<|eqB J J J J QZ<|k<|aR J J J J J J<|ak (v:=.bool ((decide ((dL (oD h 12) (oE h 12) 1)=8))==(kC h 1))) J J<|aT J J J (jv jk lH nO)<|fa pz J J<|aT J J J (jv jk lH nO)<|lx je 3 J l5 J J J<|aT J J J (jv jk lH nO)<|mv (v:=.bool (kC h 1)) J J<|aN J J J (qP jk b1)<|aN J J J (qP jk b1)<|aN J J J (qP jk b1)<|aN J J J (qP jk b1)<|aN J J J (qP jk b1)<|aN J J J (qP jk b1)<|k<|gu J J J<|k<|gu J J J<|k<|gu J J J<|k<|gu J J J<|k<|gu J J J<|aN J J J (qP jk b1)<|aT J J J (jv jk lH nO)<|aR J J J J (qP jk b1) J<|k<|aR J J J J (jv jk lH nO) J<|au (v:=.bool true) J J<|av<|rt<|r1 J J ?_
  exact⟨J,je.below⟩
 refine aT J J J b1<|fa pz J J<|aT J J J b1<|lx ga 0 J l5 J J J<|k<|cK J J J J b1 J<|ak (v:=.bool (kC h 3)) J J ?_
 rcases bE (kC h 3) with b2|b2
 ·
  refine aT J J J b2<|fa pz J J<|aT J J J b2<|lx ga 2 J l5 J J J<|aT J J J b2<|jE J J<|k<|aR J J J J b2 J<|av<|nP J J (by rw[show (kC h 1)=true from(nK jk b2)]<;>rfl)<|sk<|cI<|k<|cq ga 15 J dx J J aw J<|k ?_
  have kR:=xA (I:=(oD h 12)) (U:=(oE h 12)) (lv:=1) (aD:=a0) (aF:=(zX h 12).length) (aC:=c0) ga.mb (hT.ext ga.below) (ga.rv 17 J) (ga.rv 16 J) aV (by rw[lH];exact HB h) (by rw[lH];have h_:=EX h;omega) (by rw[lH,nO];exact EY h) (by rw[lH,nO];exact HC h) aw
  refine ca L1 J (ec J<|ec J e0) kR ?_
  rintro _ ff ⟨j4,vw,nJ,ou,Bn,my,uC,rfl,lM,q0⟩
  have lL:=ga.ext lM
  refine ak (v:=.tuple #[.agg #[C j4,C vw,C nJ,C ou,C Bn,.slice none 0 0,C my,C uC],C (dL (oD h 12) (oE h 12) 1)]) J J<|k<|xt J J J<|k<|xt J J J<|k<|al lL bM ?_
  intro fP hQ xJ (il:HI M w hQ (box fP #[C 0,C 0,C 0,C 0,C 0,.slice none 0 0,C 0,C 0] 33::lK::eW))
  refine k<|bp il 0 J bM J J J J J J J ?_
  intro iO (n3:HI M w iO (box fP #[C j4,C vw,C nJ,C ou,C Bn,.slice none 0 0,C my,C uC] 33::lK::eW))
  refine au (v:=C (dL (oD h 12) (oE h 12) 1)) J J<|bt<|k ?_
  have lI:=xM (w:=iO)<|hT.ext n3.below
  refine ca XM J e0 lI ?_
  rintro _ oM ⟨rfl,tI⟩
  have je:=n3.ext tI
  refine ak (v:=.bool true) J J<|aT J J J J<|mv (v:=C (dL (oD h 12) (oE h 12) 1)) J J<|aT J J J J<|eql J J J J<|aT J J J J<|fa pz J J<|aT J J J J<|lx je 3 J l5 J J J<|aT J J J J<|eqB J J J J QZ<|k<|aR J J J J J J<|ak (v:=.bool ((decide ((dL (oD h 12) (oE h 12) 1)=8))==(kC h 1))) J J<|aT J J J (jv jk lH nO)<|fa pz J J<|aT J J J (jv jk lH nO)<|lx je 3 J l5 J J J<|aT J J J (jv jk lH nO)<|mv (v:=.bool (kC h 1)) J J<|aN J J J (nK jk b2)<|aN J J J (nK jk b2)<|aN J J J (nK jk b2)<|aN J J J (nK jk b2)<|aN J J J (nK jk b2)<|aN J J J (nK jk b2)<|k<|gu J J J<|k<|gu J J J<|k<|gu J J J<|k<|gu J J J<|k<|gu J J J<|aN J J J (nK jk b2)<|aT J J J (jv jk lH nO)<|aR J J J J (nK jk b2) J<|k<|aR J J J J (jv jk lH nO) J<|au (v:=.bool true) J J<|av<|rt<|r1 J J ?_
  exact⟨J,je.below⟩
 refine aN J J J b2<|aN J J J b2<|aN J J J b2<|k<|cK J J J J b2 J<|av<|nP J J J<|sk<|cI<|k<|cq ga 15 J dx J J aw J<|k ?_
 have kR:=xA (I:=(oD h 12)) (U:=(oE h 12)) (lv:=1) (aD:=a0) (aF:=(zX h 12).length) (aC:=c0) ga.mb (hT.ext ga.below) (ga.rv 17 J) (ga.rv 16 J) aV (by rw[lH];exact HB h) (by rw[lH];have h_:=EX h;omega) (by rw[lH,nO];exact EY h) (by rw[lH,nO];exact HC h) aw
 refine ca L1 J (ec J<|ec J e0) kR ?_
 rintro _ ff ⟨j4,vw,nJ,ou,Bn,my,uC,rfl,lM,q0⟩
 have lL:=ga.ext lM
 refine ak (v:=.tuple #[.agg #[C j4,C vw,C nJ,C ou,C Bn,.slice none 0 0,C my,C uC],C (dL (oD h 12) (oE h 12) 1)]) J J<|k<|xt J J J<|k<|xt J J J<|k<|al lL bM ?_
 intro fP hQ xJ (il:HI M w hQ (box fP #[C 0,C 0,C 0,C 0,C 0,.slice none 0 0,C 0,C 0] 33::lK::eW))
 refine k<|bp il 0 J bM J J J J J J J ?_
 intro iO (n3:HI M w iO (box fP #[C j4,C vw,C nJ,C ou,C Bn,.slice none 0 0,C my,C uC] 33::lK::eW))
 refine au (v:=C (dL (oD h 12) (oE h 12) 1)) J J<|bt<|k ?_
 have lI:=xM (w:=iO)<|hT.ext n3.below
 refine ca XM J e0 lI ?_
 rintro _ oM ⟨rfl,tI⟩
 have je:=n3.ext tI
 refine ak (v:=.bool true) J J<|aT J J J J<|mv (v:=C (dL (oD h 12) (oE h 12) 1)) J J<|aT J J J J<|eql J J J J<|aT J J J J<|fa pz J J<|aT J J J J<|lx je 3 J l5 J J J<|aT J J J J<|eqB J J J J QZ<|k<|aR J J J J J J<|ak (v:=.bool ((decide ((dL (oD h 12) (oE h 12) 1)=8))==(kC h 1))) J J<|aT J J J (jv jk lH nO)<|fa pz J J<|aT J J J (jv jk lH nO)<|lx je 3 J l5 J J J<|aT J J J (jv jk lH nO)<|mv (v:=.bool (kC h 1)) J J ?_
 rcases bE (kC h 1) with b3|b3
 ·
  refine aN J J J b3<|aN J J J b3<|aN J J J b3<|aN J J J b3<|aN J J J b3<|aN J J J b3<|k<|gu J J J<|k<|gu J J J<|k<|gu J J J<|k<|gu J J J<|k<|gu J J J<|aN J J J b3<|aT J J J (jv jk lH nO)<|aR J J J J b3 J<|k<|aR J J J J (jv jk lH nO) J<|au (v:=.bool true) J J<|av<|rt<|r1 J J ?_
  exact⟨J,je.below⟩
 refine aT J J J b3<|fa CM J J<|aT J J J b3<|cq je 3 J bM J J aw J<|aT J J J b3<|fa CM J J<|aT J J J b3<|cq je 2 J bM J J aw J<|aT J J J b3 ?_
 have xy:=F3 (FL:=((dN h 1).1)) (FK:=((dN h 1).2.1)) (FN:=((dN h 1).2.2.1)) (FM:=((dN h 1).2.2.2.1)) (Ir:=((dN h 1).2.2.2.2)) (Ns:=o6) (Nr:=o7) (Io:=((dN h 2).1)) (Im:=((dN h 2).2.1)) (Iq:=((dN h 2).2.2.1)) (Ip:=((dN h 2).2.2.2.1)) (Kf:=((dN h 2).2.2.2.2)) (QQ:=D0) (QO:=Gb) (DD:=a6) (Dl:=o5.length) (DC:=c6) (G':=iZ) (Gd:=wP.length) (G2:=iY) (w:=oM)
 refine ca acF J (ec J<|ec J e0) xy ?_
 rintro _ wz ⟨rfl,Ey⟩
 have nZ:=je.ext Ey
 refine aT J J J b3<|mv (v:=.bool (decide (((dN h 1).1)=((dN h 2).1))&&(decide (((dN h 1).2.1)=((dN h 2).2.1))&&(decide (((dN h 1).2.2.1)=((dN h 2).2.2.1))&&(decide (((dN h 1).2.2.2.1)=((dN h 2).2.2.2.1))&&decide (((dN h 1).2.2.2.2)=((dN h 2).2.2.2.2))))))) J J<|aT J J J (qF (tV jk b3).1)<|fa CM J J<|aT J J J (qF (tV jk b3).1)<|cq nZ 3 J bM J J aw J<|aT J J J (qF (tV jk b3).1)<|fa CM J J<|aT J J J (qF (tV jk b3).1)<|cq nZ 1 J bM J J aw J<|aT J J J (qF (tV jk b3).1) ?_
 have Ab:=F3 (FL:=((dN h 1).1)) (FK:=((dN h 1).2.1)) (FN:=((dN h 1).2.2.1)) (FM:=((dN h 1).2.2.2.1)) (Ir:=((dN h 1).2.2.2.2)) (Ns:=o6) (Nr:=o7) (Io:=((dN h 3).1)) (Im:=((dN h 3).2.1)) (Iq:=((dN h 3).2.2.1)) (Ip:=((dN h 3).2.2.2.1)) (Kf:=((dN h 3).2.2.2.2)) (QQ:=N0) (QO:=K8) (DD:=a6) (Dl:=o5.length) (DC:=c6) (G':=kL) (Gd:=WY.length) (G2:=kJ) (w:=wz)
 refine ca acF J (ec J<|ec J e0) Ab ?_
 rintro _ sD ⟨rfl,Hi⟩
 have j9:=nZ.ext Hi
 refine aT J J J b3<|aR J J J J (qF (tV jk b3).1) J<|aT J J J (jv jk lH nO)<|cK J J J J b3 J<|k<|aR J J J J (jv jk lH nO) J<|au (v:=.bool (decide (((dN h 1).1)=((dN h 3).1))&&(decide (((dN h 1).2.1)=((dN h 3).2.1))&&(decide (((dN h 1).2.2.1)=((dN h 3).2.2.1))&&(decide (((dN h 1).2.2.2.1)=((dN h 3).2.2.2.1))&&decide (((dN h 1).2.2.2.2)=((dN h 3).2.2.2.2))))))) J J<|av<|rt<|r1 J J ?_
 exact⟨amh Value.bool (by exact(qF (tV jk b3).2)),j9.below⟩
end Go.Proofs.YtgjakhpjmapelaaGreatDoor
