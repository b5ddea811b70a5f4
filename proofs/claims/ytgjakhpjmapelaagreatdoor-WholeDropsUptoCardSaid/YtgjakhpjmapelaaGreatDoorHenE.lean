/- PRINTED by my own tool (wip/tool/gen.py): contracts of Go functions of this seat, each with its proof. -/
import Derived.Test.YtgjakhpjmapelaaGreatDoorPwnB
import Derived.Test.YtgjakhpjmapelaaGreatDoorPwnD
import Derived.Test.YtgjakhpjmapelaaGreatDoorPwnC
import Derived.Test.YtgjakhpjmapelaaGreatDoorHenD
import Derived.Test.YtgjakhpjmapelaaGreatDoorHenB
import Derived.Test.YtgjakhpjmapelaaGreatDoorPwnA
import Derived.Test.YtgjakhpjmapelaaGreatDoorHenA
import Derived.Test.YtgjakhpjmapelaaGreatDoorHenC
set_option linter.unusedVariables false
set_option linter.unusedSimpArgs false
namespace Go.Proofs.YtgjakhpjmapelaaGreatDoor
open Go.Ew Go.RowKit
set_option maxRecDepth 100000
set_option maxHeartbeats 1600000
attribute [local irreducible] WL WC SO PW PX PZ WE Code.wp wpList rY cg
attribute [local irreducible] ka xy jr fg eb Ak C8 KP words d_ cV jE fC vC
attribute [local irreducible] kx uG zD sQ zC qZ kv eO lK lL lN ly rB kP eW ik
variable {M:Nat→Prop} {w w_:World}
variable {s ss:ByteArray} {bK gj:Nat} {KG:TypeId} {at_ bI er ch lv:Int} {r:List Go.Ew.Item} {gk:OA} {h:List (List (Bool×ByteArray×Int))}
theorem afD:cu aK 145:=⟨_,_,Tryz.func145,rfl,aC⟩
theorem UM:aK.underlying 57=some (.slice 5):=aC
theorem PA:aK.underlying 151=some (.int .u64):=aC
theorem ZN (kZ:s.size≤maxLen):Calls aK 111 #[.string s] w (cg fun v w'=>v=.tuple #[C ((gf s).1),C ((gf s).2)]∧Ext w w'):=by
 refine dm 62 Tryz.func111 J J J py fun f0 ha H=>?_
 have i0:f0 0=.string s:=ha 0 bh
 have Ba:maxLen=9223372036854775807:=rfl
 refine aB<|au (v:=C 0) J J<|au (v:=C 0) J J<|bp<|ak J i0<|k ?_
 have bP:=DZ (s:=s) (p_:=⟨#[45]⟩) (w:=w) bq aw
 refine ca afD J (ec J<|ec J e0) bP ?_
 rintro _ w0 ⟨rfl,bT⟩
 have H0:=H.ext bT
 refine ak (v:=.tuple #[.string (eD s ⟨#[45]⟩),.bool (jJ s ⟨#[45]⟩)]) J J<|k<|xt J J J<|k<|xt J J J<|au (v:=.string (eD s ⟨#[45]⟩)) J J<|au (v:=.bool (jJ s ⟨#[45]⟩)) J J<|z<|nx<|cut (fun f w'=>f 4=.string (eD s ⟨#[45]⟩)∧f 5=.bool (jJ s ⟨#[45]⟩)∧HI (fun _=>False) w w' []∧(lM s=false)) ?_ ?_
 ·
  refine aB<|ak (v:=.string (eD s ⟨#[45]⟩)) J J<|k<|YK J J J J<|ak (v:=.bool (decide (eD s ⟨#[45]⟩=⟨#[]⟩))) J J ?_
  rcases bE (decide (eD s ⟨#[45]⟩=⟨#[]⟩)) with b0|b0
  ·
   refine aO J J J b0<|aO J J J b0<|aO J J J b0<|k<|aR J J J J b0 J<|ak (v:=.bool true) J J<|aO J J J J<|aO J J J J<|aO J J J J<|aO J J J J<|k<|gu J J J<|k<|gu J J J<|aO J J J J<|k<|aR J J J J J J<|av<|nS J J J<|aB<|au (v:=C 0) J J<|au (v:=C 2) J J<|av<|rt<|Ib ?_
   have vf:gf s=(0,2):=Fa (by simp only[lM,b0,BL])
   refine r2 J J J ?_
   have e0:(0:Int)=(gf s).1:=by rw[vf]
   have e1:(2:Int)=(gf s).2:=by rw[vf]
   have bo:=nA (fun (bW:Int) (dK:Int)=>(.tuple #[C bW,C dK]:Value)) e0 e1
   exact⟨bo,H0.below⟩
  have p0:=dF b0
  refine aU J J J b0<|mv (v:=.string (eD s ⟨#[45]⟩)) J J<|aU J J J b0 ?_
  have cS:=B6 (s:=(eD s ⟨#[45]⟩)) (cs:=⟨#[48,49,50,51,52,53,54,55,56,57]⟩) (w:=w0) (by exact Nat.le_trans (qS _ _) kZ) aw<|by exact Hc
  refine ca YE J (ec J<|ec J e0) cS ?_
  rintro _ w2 ⟨rfl,da⟩
  have H1:=H0.ext da
  refine aU J J J b0<|neS J J J J<|k<|cJ J J J J b0 J<|ak (v:=.bool (!decide (trimB (eD s ⟨#[45]⟩) ⟨#[48,49,50,51,52,53,54,55,56,57]⟩=⟨#[]⟩))) J J ?_
  rcases bE (!decide (trimB (eD s ⟨#[45]⟩) ⟨#[48,49,50,51,52,53,54,55,56,57]⟩=⟨#[]⟩)) with b1|b1
  ·
   have p1:=dF<|fX b1
   refine aO J J J b1<|aO J J J b1<|aO J J J b1<|aO J J J b1<|k<|gu J J J<|k<|gu J J J<|aO J J J b1<|k<|aR J J J J b1 J<|av<|nS J J J<|aB<|au (v:=C 0) J J<|au (v:=C 2) J J<|av<|rt<|Ib ?_
   have vf:gf s=(0,2):=Fa (by simp only[lM,b0,(fX b1),BL])
   refine r2 J J J ?_
   have e0:(0:Int)=(gf s).1:=by rw[vf]
   have e1:(2:Int)=(gf s).2:=by rw[vf]
   have bo:=nA (fun (bW:Int) (dK:Int)=>(.tuple #[C bW,C dK]:Value)) e0 e1
   exact⟨bo,H1.below⟩
  have p1:=dT<|eY b1
  refine aU J J J b1<|mv (v:=.string (eD s ⟨#[45]⟩)) J J<|aU J J J b1<|XQ J J J J (by exact⟨aqy _,aas p0⟩) mC<|aU J J J b1<|eql J J J J<|aU J J J b1<|mv (v:=.bool (decide ((sE (eD s ⟨#[45]⟩) 0)=48))) J J ?_
  rcases bE (decide ((sE (eD s ⟨#[45]⟩) 0)=48)) with b2|b2
  ·
   refine aU J J J b2<|mv J i0<|aU J J J b2<|neS J J J J<|aU J J J b1<|aR J J J J b2 J<|k<|cJ J J J J b1 J<|z<|nx<|cd (b:=!decide (s=⟨#[48]⟩)) J J (fun b3=>?_)<|fun b3=>?_
   ·
    have p3:=dF<|fX b3
    refine aB<|au (v:=C 0) J J<|au (v:=C 2) J J<|av<|rt<|Ib ?_
    have vf:gf s=(0,2):=Fa (by simp only[lM,b0,(eY b1),b2,(fX b3),BL])
    refine r2 J J J ?_
    have e0:(0:Int)=(gf s).1:=by rw[vf]
    have e1:(2:Int)=(gf s).2:=by rw[vf]
    have bo:=nA (fun (bW:Int) (dK:Int)=>(.tuple #[C bW,C dK]:Value)) e0 e1
    exact⟨bo,H1.below⟩
   have p3:=dT<|eY b3
   refine sk<|Bl ⟨J,J,H1,(by simp only[lM,b0,(eY b1),b2,(eY b3),BL])⟩
  refine aO J J J b2<|aO J J J b2<|aU J J J b1<|cJ J J J J b2 J<|k<|cJ J J J J b1 J<|av<|oQ J J J<|sk<|Bl ⟨J,J,H1,(by simp only[lM,b0,(eY b1),b2,BL])⟩
 ·
  rintro f0 w1 ⟨s0,s1,H3,CR⟩
  refine aB<|au (v:=aj (9223372036854775807#64)) J J<|z<|nx<|cut (fun f w'=>∃(m_:bY),f 4=.string (eD s ⟨#[45]⟩)∧f 5=.bool (jJ s ⟨#[45]⟩)∧f 6=aj m_∧HI (fun _=>False) w w' []∧(m_.toNat=oH s)) ?_ ?_
  ·
   refine aB<|ak J s1<|z<|nx<|cd (b:=jJ s ⟨#[45]⟩) J J (fun b3=>?_)<|fun b3=>?_
   ·
    refine rg<|ak (v:=aj (9223372036854775807#64)) J J<|k<|Ip (9223372036854775807#64) (1#64) J J J J<|au (v:=aj ((9223372036854775807#64)+(1#64))) J J<|z<|Bl ⟨((9223372036854775807#64)+(1#64)),s0,s1,(NW J<|by rfl),H3,(by unfold oH;rw[b3];rfl)⟩
   refine sk<|Bl ⟨(9223372036854775807#64),s0,s1,(NW J<|by rfl),H3,(by unfold oH;rw[b3];rfl)⟩
  ·
   rintro f1 w3 ⟨m_,s2,s3,s4,H5,V1⟩
   refine aB<|au (v:=aj (0#64)) J J<|av<|sq<|aB<|ak J s2<|k<|ajr H5 J J (by exact Nat.le_trans (qS _ _) kZ) mC UM IA ?_
   intro a0 c0 w4 eR (H6:HI (fun _=>False) w w4 [iL a0 (pk (eD s ⟨#[45]⟩)) c0])
   refine k<|dP J J UM<|ak (v:=C 0) J J<|av<|bk<|lp (fun m f w'=>∃(j_:Nat) (yh:bY),m=(pk<|eD s ⟨#[45]⟩).length-j_∧f 5=.bool (jJ s ⟨#[45]⟩)∧f 6=aj m_∧f 7=aj yh∧f 36=R a0 (pk<|eD s ⟨#[45]⟩) c0∧f 37=C ((pk<|eD s ⟨#[45]⟩).length:Int)∧f 38=C (j_:Int)∧HI (fun _=>False) w w' [iL a0 (pk<|eD s ⟨#[45]⟩) c0]∧(j_≤(pk<|eD s ⟨#[45]⟩).length)∧(mO m_.toNat (Bm s).data.toList 0=mO m_.toNat ((Bm s).data.toList.drop j_) yh.toNat)) _ ⟨0,(0#64),J,s3,s4,(NW J<|by rfl),J,J,(bJ J),H6,aq,(by rfl)⟩ ?_
   rintro _ f2 w5 ⟨j_,yh,rfl,s5,s6,s7,s8,s9,eo,H7,pB,hs⟩
   refine sq ?_
   have amo:=ZO s
   have amz:(pk (eD s ⟨#[45]⟩)).length≤s.size:=by rw[ux];exact qS _ _
   refine rg<|k<|lss J J eo s9<|av<|sq<|cd (b:=decide ((j_:Int)<((pk<|eD s ⟨#[45]⟩).length:Int))) J J (fun b4=>?_)<|fun b4=>?_
   ·
    have p4:=dT b4
    refine sk<|nx<|sq<|bk<|aB<|k<|ia (H7.rv 0 J) J J s8 eo aq UM Xu ?_
    intro iC x0 aP ct
    refine k<|ld8 ct.w Xu J J<|au (v:=U8 x0) J J<|bp<|ak (v:=U8 x0) J J<|k<|ahG J J J J (by have h_:=TV (Pp CR) aP;omega)<|k<|Pb J J IA PA<|au (v:=aj (BitVec.ofInt 64<|(x0.toNat:Int)-48)) J J<|av<|sq<|sq ?_
    have hd_:=TV (Pp CR) aP
    refine rg<|ak J s7<|ak J s6<|ak (v:=aj (BitVec.ofInt 64<|(x0.toNat:Int)-48)) J J<|k<|aa9 m_ (BitVec.ofInt 64<|(x0.toNat:Int)-48) J J J J<|k<|ahO (m_-(BitVec.ofInt 64<|(x0.toNat:Int)-48)) (10#64) aw J J J J<|k<|Yu yh ((m_-(BitVec.ofInt 64<|(x0.toNat:Int)-48))/(10#64)) J J J J<|z<|nx<|cd (b:=decide (((m_-(BitVec.ofInt 64<|(x0.toNat:Int)-48))/(10#64)).toNat<yh.toNat)) J J (fun b5=>?_)<|fun b5=>?_
    ·
     refine aB<|au (v:=C 0) J J<|au (v:=C 3) J J<|av<|rt<|aL<|bQ<|aL<|dU<|bQ<|aL ?_
     have vf:gf s=(0,3):=VA CR (by rw[←V1];exact ZM hd_ aq (Il aP) hs bq)
     refine r2 J J J ?_
     have e0:(0:Int)=(gf s).1:=by rw[vf]
     have e1:(3:Int)=(gf s).2:=by rw[vf]
     have bo:=nA (fun (bW:Int) (dK:Int)=>(.tuple #[C bW,C dK]:Value)) e0 e1
     exact⟨bo,H7.below⟩
    have p5:=dF b5
    refine sk<|nx<|rg<|ak J s7<|k<|Ff (10#64) yh J J J J<|ak (v:=aj (BitVec.ofInt 64<|(x0.toNat:Int)-48)) J J<|k<|Ip ((10#64)*yh) (BitVec.ofInt 64<|(x0.toNat:Int)-48) J J J J<|au (v:=aj (((10#64)*yh)+(BitVec.ofInt 64<|(x0.toNat:Int)-48))) J J<|z<|aJ<|nx<|rg<|k<|add J J eo J aT<|ak (v:=C ((j_:Int)+1)) J J<|z<|bB _ ?_ ⟨(j_+1),(((10#64)*yh)+(BitVec.ofInt 64<|(x0.toNat:Int)-48)),J,s5,s6,(NW J<|by rfl),s8,s9,(bJ J),H7,aq,(by exact Vw hd_ aq (Il aP) hs bq)⟩
    omega
   have p4:=dF b4
   refine ex<|aW<|bc<|bg<|nx<|sq<|aB<|ak J s5<|z<|nx<|cd (b:=jJ s ⟨#[45]⟩) J J (fun b5=>?_)<|fun b5=>?_
   ·
    refine aB<|ak J s7<|k<|abI yh J J<|k<|cvT J J PA zB<|au (v:=C ((-yh).toInt)) J J<|au (v:=C 0) J J<|av<|rt<|aL ?_
    have vf:=Vz CR bq<|by rw[←V1];exact Ot hs (by have h_:=ux (eD s ⟨#[45]⟩);rw[an4];show (eD s ⟨#[45]⟩).size≤_;omega)
    refine r2 J J J ?_
    have e0:((-yh).toInt:Int)=(gf s).1:=by rw[vf]
    have e1:(0:Int)=(gf s).2:=by rw[vf]
    have bo:=nA (fun (bW:Int) (dK:Int)=>(.tuple #[C bW,C dK]:Value)) e0 e1
    exact⟨bo,H7.below⟩
   refine sk<|cO<|ak J s7<|k<|cvT J J PA zB<|au (v:=C yh.toInt) J J<|au (v:=C 0) J J<|av<|rt ?_
   have vf:=Vy CR bq<|by rw[←V1];exact Ot hs (by have h_:=ux (eD s ⟨#[45]⟩);rw[an4];show (eD s ⟨#[45]⟩).size≤_;omega)
   refine r2 J J J ?_
   have e0:(yh.toInt:Int)=(gf s).1:=by rw[vf]
   have e1:(0:Int)=(gf s).2:=by rw[vf]
   have bo:=nA (fun (bW:Int) (dK:Int)=>(.tuple #[C bW,C dK]:Value)) e0 e1
   exact⟨bo,H7.below⟩
theorem tn:gO aK 66 3 3:=⟨_,_,Tryz.underlying66,rfl,rfl,aC⟩
theorem sP:ei aK 23 1 false 8 (.int .i64 0):=⟨aC,aC⟩
theorem kg:gO aK 66 1 1:=⟨_,_,Tryz.underlying66,rfl,rfl,aC⟩
theorem tp:gO aK 66 0 0:=⟨_,_,Tryz.underlying66,rfl,rfl,aC⟩
theorem Wc:cu aK 70:=⟨_,_,Tryz.func70,rfl,aC⟩
theorem Fy:cu aK 45:=⟨_,_,Tryz.func45,rfl,aC⟩
theorem Mj:cu aK 71:=⟨_,_,Tryz.func71,rfl,aC⟩
theorem afW:cu aK 110:=⟨_,_,Tryz.func110,rfl,aC⟩
theorem afV:cu aK 111:=⟨_,_,Tryz.func111,rfl,aC⟩
theorem na:gO aK 66 2 2:=⟨_,_,Tryz.underlying66,rfl,rfl,aC⟩
theorem pf:cu aK 47:=⟨_,_,Tryz.func47,rfl,aC⟩
theorem Fv:cu aK 72:=⟨_,_,Tryz.func72,rfl,aC⟩
theorem Fu:cu aK 73:=⟨_,_,Tryz.func73,rfl,aC⟩
theorem Cg (hM:eG M w) (zf:ss.size≤maxLen) (lE:aM at_) (eM:aM bI) (mZ:aM er) (QF:0≤ch∧ch≤255) (h_c:w.heap[bK]? =some (.cells #[.string ss,C at_,C bI,C er] KG (0,0))∧¬M bK) (eJ:0≤at_∧at_≤(ss.size:Int)):Calls aK 70 #[.pointer (some ⟨bK,0,none⟩),.int .u8 ch] w (cg fun v w'=>v=.bool (cC ss at_ er ch)∧Ext w w'):=by
 refine dm 35 Tryz.func70 J J J hM fun f0 ha H=>?_
 have H0:=H.put (it:=ro bK #[.string ss,C at_,C bI,C er] KG) J<|by rw[bN];exact h_c
 have i0:f0 0=pV bK 0:=ha 0 bh
 have i1:f0 1=.int .u8 ch:=ha 1 bh
 have Ba:maxLen=9223372036854775807:=rfl
 refine aB<|au (v:=.bool false) J J<|av<|sq<|BT J aC<|kq (fun _ _=>mv J i0 e1)<|kq (fun _ _=>nc J J e1)<|kq (fun _ _=>fa tn J J e1)<|kq (fun _ x_=>lr (H0.ext x_) 0 J sP J J J e1)<|kq (fun _ _=>eql J J J J e1)<|kq (fun _ _=>mv (v:=.bool (decide (er=0))) J J e1) ?_
 rcases bE (decide (er=0)) with b0|b0
 ·
  have p0:=dT b0
  refine qy J J J b0<|kq (fun _ _=>mv J i0 e1)<|qy J J J b0<|kq (fun _ _=>nc J J e1)<|qy J J J b0<|kq (fun _ _=>fa kg J J e1)<|qy J J J b0<|kq (fun _ x_=>lr (H0.ext x_) 0 J aV J J J e1)<|qy J J J b0<|kq (fun _ _=>mv J i0 e1)<|qy J J J b0<|kq (fun _ _=>nc J J e1)<|qy J J J b0<|kq (fun _ _=>fa tp J J e1)<|qy J J J b0<|kq (fun _ x_=>lr (H0.ext x_) 0 J oa J J J e1)<|qy J J J b0<|kq (fun _ _=>vR J J mC e1)<|qy J J J b0<|kq (fun _ _=>lss J J J J e1)<|kq (fun _ _=>aR J J J J b0 J e1)<|kq (fun _ _=>mv (v:=.bool (decide (at_<(ss.size:Int)))) J J e1) ?_
  rcases bE (decide (at_<(ss.size:Int))) with b1|b1
  ·
   have p1:=dT b1
   refine qy J J J b1<|kq (fun _ _=>mv J i0 e1)<|qy J J J b1<|kq (fun _ _=>nc J J e1)<|qy J J J b1<|kq (fun _ _=>fa tp J J e1)<|qy J J J b1<|kq (fun _ x_=>lr (H0.ext x_) 0 J oa J J J e1)<|qy J J J b1<|kq (fun _ _=>mv J i0 e1)<|qy J J J b1<|kq (fun _ _=>nc J J e1)<|qy J J J b1<|kq (fun _ _=>fa kg J J e1)<|qy J J J b1<|kq (fun _ x_=>lr (H0.ext x_) 0 J aV J J J e1)<|qy J J J b1<|kq (fun _ _=>XQ J J J J aq mC e1)<|qy J J J b1<|kq (fun _ _=>mv J i1 e1)<|qy J J J b1<|kq (fun _ _=>eql J J J J e1)<|kq (fun _ _=>aR J J J J b1 J e1)<|kq (fun _ _=>jG (v:=.bool (decide ((sE ss at_)=ch))) J J e1)<|zq ?_
   intro w0 bT
   have H1:=H0.ext bT
   refine nx<|rt<|r1 J J ?_
   exact⟨ani Value.bool (by simp only[cC,b0,b1,BL]),H1.below⟩
  refine qn J J J b1<|qn J J J b1<|qn J J J b1<|qn J J J b1<|qn J J J b1<|qn J J J b1<|qn J J J b1<|qn J J J b1<|qn J J J b1<|qn J J J b1<|qn J J J b1<|kq (fun _ _=>cJ J J J J b1 J e1)<|kq (fun _ _=>jG (v:=.bool false) J J e1)<|zq ?_
  intro w0 bT
  have H1:=H0.ext bT
  refine nx<|rt<|r1 J J ?_
  exact⟨ani Value.bool (by simp only[cC,b0,b1,BL]),H1.below⟩
 refine qn J J J b0<|qn J J J b0<|qn J J J b0<|qn J J J b0<|qn J J J b0<|qn J J J b0<|qn J J J b0<|qn J J J b0<|qn J J J b0<|qn J J J b0<|kq (fun _ _=>cJ J J J J b0 J e1)<|kq (fun _ _=>mv (v:=.bool false) J J e1)<|qn J J J J<|qn J J J J<|qn J J J J<|qn J J J J<|qn J J J J<|qn J J J J<|qn J J J J<|qn J J J J<|qn J J J J<|qn J J J J<|qn J J J J<|kq (fun _ _=>cJ J J J J J J e1)<|kq (fun _ _=>jG (v:=.bool false) J J e1)<|zq ?_
 intro w0 bT
 have H1:=H0.ext bT
 refine nx<|rt<|r1 J J ?_
 exact⟨ani Value.bool (by simp only[cC,b0,BL]),H1.below⟩
theorem qt (zf:ss.size≤maxLen) (lE:aM at_) (eM:aM bI) (mZ:aM er) (QF:0≤ch∧ch≤255) (eJ:0≤at_∧at_≤(ss.size:Int)) (H:HI M w w_ ([box bK #[.string ss,C at_,C bI,C er] 66]++r)):Calls aK 45 #[pV bK 0,.int .u8 ch] w_ (cg fun v w'=>v=.bool (cC ss at_ er ch)∧HI M w w' ([box bK #[.string ss,C (eK ss at_ er ch),C bI,C er] 66]++r)):=by
 refine enter 16 Tryz.func45 J J J fun f0 ha=>?_
 have i0:f0 0=pV bK 0:=ha 0 bh
 have i1:f0 1=.int .u8 ch:=ha 1 bh
 have Ba:maxLen=9223372036854775807:=rfl
 refine aB<|au (v:=.bool false) J J<|av<|sq<|aB<|ak J i0<|ak J i1<|k ?_
 have bP:=Cg (ss:=ss) (at_:=at_) (bI:=bI) (er:=er) (ch:=ch) (w:=w_) (M:=fun _=>False) (fun _ h_=>h_.elim) bq lE eM mZ (by exact QF) ⟨H.at_ 0 rfl,fun h_=>h_⟩<|by exact eJ
 refine ca Wc J (ec J<|ec J e0) bP ?_
 rintro _ w0 ⟨rfl,bT⟩
 have H0:=H.ext bT
 refine k<|jI J J<|z<|nx<|cd (b:=!(cC ss at_ er ch)) J J (fun b0=>?_)<|fun b0=>?_
 ·
  refine aB<|au (v:=.bool false) J J<|av<|rt<|aL<|r1 J J ?_
  have e0:(false:Bool)=cC ss at_ er ch:=by simp only[(fX b0),BL]
  have e1:(at_:Int)=eK ss at_ er ch:=by simp only[eK,(fX b0),BL]
  try rw[←e0]
  try rw[←e1]
  refine⟨?_,?_⟩
  · first|rfl|simp only[e0,e1]|(simp only[anj])
  · first|exact H0|simpa +zetaDelta only[e0,e1,anj] using H0
 refine sk<|cO<|ak J i0<|k<|nc J J<|aS kg J J<|bl H0 0 J aV J J J<|k<|add J J J J (by have h_:=HA (eY ‹(!cC ss at_ er ch)=false›);unfold aM;omega)<|k<|nc J J<|aS kg J J<|k<|bt H0 0 J aV J J J J J J J ?_
 intro w1 (H1:HI M w w1 ([box bK #[.string ss,C (at_+1),C bI,C er] 66]++r))
 refine bp<|au (v:=.bool true) J J<|av<|rt<|r1 J J ?_
 have e0:(true:Bool)=cC ss at_ er ch:=by simp only[(eY b0),BL]
 have e1:(at_+1:Int)=eK ss at_ er ch:=by simp only[eK,(eY b0),BL]
 try rw[←e0]
 try rw[←e1]
 refine⟨?_,?_⟩
 · first|rfl|simp only[e0,e1]|(simp only[anj])
 · first|exact H1|simpa +zetaDelta only[e0,e1,anj] using H1
theorem uJ {ex:Int} (zf:ss.size≤maxLen) (lE:aM at_) (eM:aM bI) (mZ:aM er) (amF:aM ex) (H:HI M w w_ ([box bK #[.string ss,C at_,C bI,C er] 66]++r)):Calls aK 71 #[pV bK 0,C ex] w_ (cg fun v w'=>v=.tuple #[]∧HI M w w' ([box bK #[.string ss,C at_,C bI,C (ck er ex)] 66]++r)):=by
 refine enter 13 Tryz.func71 J J J fun f0 ha=>?_
 have i0:f0 0=pV bK 0:=ha 0 bh
 have i1:f0 1=C ex:=ha 1 bh
 refine aB<|ak J i0<|k<|nc J J<|aS tn J J<|bl H 0 J sP J J J<|k<|eql J J J J<|z<|nx<|cd (b:=decide (er=0)) J J (fun b0=>?_)<|fun b0=>?_
 ·
  refine rg<|ak J i0<|ak J i1<|k<|nc J J<|aS tn J J<|k<|bt H 0 J sP J J J J J J J ?_
  intro w0 (H0:HI M w w0 ([box bK #[.string ss,C at_,C bI,C ex] 66]++r))
  refine z<|D_ J ?_
  have e0:(ex:Int)=ck er ex:=by simp only[ck,b0,BL]
  try rw[←e0]
  refine⟨?_,?_⟩
  · first|rfl|simp only[e0]|(simp only[anj])
  · first|exact H0|simpa +zetaDelta only[e0,anj] using H0
 refine sk<|D_ J ?_
 have e0:(er:Int)=ck er ex:=by simp only[ck,b0,BL]
 try rw[←e0]
 refine⟨?_,?_⟩
 · first|rfl|simp only[e0]|(simp only[anj])
 · first|exact H|simpa +zetaDelta only[e0,anj] using H
theorem ig (zf:ss.size≤maxLen) (lE:aM at_) (eM:aM bI) (mZ:aM er) (QF:0≤ch∧ch≤255) (eJ:0≤at_∧at_≤(ss.size:Int)) (mX:0≤er∧er≤3) (H:HI M w w_ ([box bK #[.string ss,C at_,C bI,C er] 66]++r)):Calls aK 47 #[pV bK 0,.int .u8 ch] w_ (cg fun v w'=>∃(kr:Int) (lW:Int),v=.tuple #[]∧HI M w w' ([box bK #[.string ss,C kr,C bI,C lW] 66]++r)∧A1 ss at_ er ch=(kr,lW)∧(0≤kr∧at_≤kr∧kr≤(ss.size:Int))∧(0≤lW∧lW≤3)∧(lW=0→er=0∧kr=at_+1)):=by
 refine enter 10 Tryz.func47 J J J fun f0 ha=>?_
 have i0:f0 0=pV bK 0:=ha 0 bh
 have i1:f0 1=.int .u8 ch:=ha 1 bh
 have Ba:maxLen=9223372036854775807:=rfl
 have ah2:=cm (b:=ch) (e:=er) eJ
 refine aB<|ak J i0<|ak J i1<|k ?_
 let J0:=box bK #[.string ss,C at_,C bI,C er] 66
 have H0:HI M w w_ ([J0]++([]++r)):=HI.aR (l:=[J0]) (l':=[J0]) (t:=r) H [0] aw rfl rfl
 have bP:=qt (bK:=bK) (ss:=ss) (at_:=at_) (bI:=bI) (er:=er) (ch:=ch) (w:=w) (w_:=w_) (r:=([]++r)) (M:=M) bq lE eM mZ (by exact QF) (by exact eJ) H0
 refine ca Fy J (ec J<|ec J e0) bP ?_
 rintro _ w0 ⟨rfl,H1⟩
 let J1:=box bK #[.string ss,C (eK ss at_ er ch),C bI,C er] 66
 have H2:HI M w w0 ([J1]++r):=H1
 refine k<|jI J J<|z<|nx<|cd (b:=!(cC ss at_ er ch)) J J (fun b0=>?_)<|fun b0=>?_
 ·
  refine rg<|ak J i0<|k ?_
  have H3:HI M w w0 ([J1]++([]++r)):=HI.aR (l:=[J1]) (l':=[J1]) (t:=r) H2 [0] aw rfl rfl
  have cS:=uJ (bK:=bK) (ss:=ss) (at_:=(eK ss at_ er ch)) (bI:=bI) (er:=er) (ex:=2) (w:=w) (w_:=w0) (r:=([]++r)) (M:=M) bq aT eM mZ aT H3
  refine ca Mj J (ec J<|ec J e0) cS ?_
  rintro _ w1 ⟨rfl,H4⟩
  have H5:HI M w w1 ([box bK #[.string ss,C (eK ss at_ er ch),C bI,C (ck er 2)] 66]++r):=H4
  refine z<|D_ J ?_
  have e0:(eK ss at_ er ch:Int)=(eK ss at_ er ch):=rfl
  have e1:(ck er 2:Int)=(ck er 2):=rfl
  try rw[←e0]
  try rw[←e1]
  refine⟨(eK ss at_ er ch),(ck er 2),?_,?_,(by simp only[A1,eK,(fX b0),BL]),aq,(by exact lk (x:=2) mX aw),(by exact fun h_=>(O1 h_).elim)⟩
  · first|rfl|simp only[e0,e1]|(simp only[anj])
  · first|exact H5|simpa +zetaDelta only[e0,e1,anj] using H5
 refine sk<|D_ J ?_
 have e0:(eK ss at_ er ch:Int)=(eK ss at_ er ch):=rfl
 try rw[←e0]
 refine⟨(eK ss at_ er ch),er,?_,?_,(by simp only[A1,eK,(eY b0),BL]),aq,(by exact mX),(by exact VC ‹(!cC ss at_ er ch)=false›)⟩
 · first|rfl|simp only[e0]|(simp only[anj])
 · first|exact H2|simpa +zetaDelta only[e0,anj] using H2
theorem qv (zf:ss.size≤maxLen) (lE:aM at_) (eM:aM bI) (mZ:aM er) (eJ:0≤at_∧at_≤(ss.size:Int)) (mX:0≤er∧er≤3) (H:HI M w w_ ([box bK #[.string ss,C at_,C bI,C er] 66]++r)):Calls aK 72 #[pV bK 0] w_ (cg fun v w'=>∃(kr:Int) (lW:Int) (nm:ByteArray),v=.string nm∧HI M w w' ([box bK #[.string ss,C kr,C bI,C lW] 66]++r)∧JT ss at_ er=(kr,lW,nm)∧(0≤kr∧at_≤kr∧kr≤(ss.size:Int))∧(0≤lW∧lW≤3)∧nm.size≤8∧(lW=0→er=0∧at_<kr)):=by
 refine enter 83 Tryz.func72 J J J fun f0 ha=>?_
 have i0:f0 0=pV bK 0:=ha 0 bh
 have Ba:maxLen=9223372036854775807:=rfl
 refine aB<|au (v:=.string ⟨#[]⟩) J J<|bp<|ak J i0<|k<|nc J J<|aS kg J J<|bl H 0 J aV J J J<|au (v:=C at_) J J<|z<|nx<|cut (fun f w'=>∃(sW:Int),f 0=pV bK 0∧f 3=C at_∧HI M w w' ([box bK #[.string ss,C sW,C bI,C er] 66]++r)∧(zN ss at_ er 0=sW)∧(at_≤sW∧sW≤at_+8∧sW≤(ss.size:Int))) ?_ ?_
 ·
  refine bk<|lp (fun m f w'=>∃(j_:Nat) (p_:Int),m=8-j_∧f 0=pV bK 0∧f 3=C at_∧HI M w w' ([box bK #[.string ss,C p_,C bI,C er] 66]++r)∧(p_=at_+(j_:Int))∧(j_≤8∧p_≤(ss.size:Int))∧(zN ss at_ er 0=zN ss at_ er j_)) _ ⟨0,at_,J,i0,J,H,aq,aq,(by rfl)⟩ ?_
  rintro _ f1 w1 ⟨j_,p_,rfl,s0,s1,H0,I',pB,hs⟩
  refine sq<|sq<|BT J aC<|kq (fun _ _=>mv J s0 e1)<|kq (fun _ _=>nc J J e1)<|kq (fun _ _=>fa tn J J e1)<|kq (fun _ x_=>lx (H0.ext x_) 0 J sP J J J e1)<|kq (fun _ _=>eql J J J J e1)<|kq (fun _ _=>mv (v:=.bool (decide (er=0))) J J e1) ?_
  rcases bE (decide (er=0)) with b0|b0
  ·
   have p0:=dT b0
   refine qy J J J b0<|kq (fun _ _=>mv J s0 e1)<|qy J J J b0<|kq (fun _ _=>nc J J e1)<|qy J J J b0<|kq (fun _ _=>fa kg J J e1)<|qy J J J b0<|kq (fun _ x_=>lx (H0.ext x_) 0 J aV J J J e1)<|qy J J J b0<|kq (fun _ _=>mv J s1 e1)<|qy J J J b0<|kq (fun _ _=>sub J J J J aT e1)<|qy J J J b0<|kq (fun _ _=>lss J J J J e1)<|kq (fun _ _=>aR J J J J b0 J e1)<|kq (fun _ _=>mv (v:=.bool (decide ((p_-at_)<8))) J J e1) ?_
   rcases bE (decide ((p_-at_)<8)) with b1|b1
   ·
    have p1:=dT b1
    refine qy J J J b1<|kq (fun _ _=>mv J s0 e1)<|qy J J J b1<|kq (fun _ _=>nc J J e1)<|qy J J J b1<|kq (fun _ _=>fa kg J J e1)<|qy J J J b1<|kq (fun _ x_=>lx (H0.ext x_) 0 J aV J J J e1)<|qy J J J b1<|kq (fun _ _=>mv J s0 e1)<|qy J J J b1<|kq (fun _ _=>nc J J e1)<|qy J J J b1<|kq (fun _ _=>fa tp J J e1)<|qy J J J b1<|kq (fun _ x_=>lx (H0.ext x_) 0 J oa J J J e1)<|qy J J J b1<|kq (fun _ _=>vR J J mC e1)<|qy J J J b1<|kq (fun _ _=>lss J J J J e1)<|kq (fun _ _=>aR J J J J b1 J e1)<|kq (fun _ _=>mv (v:=.bool (decide (p_<(ss.size:Int)))) J J e1) ?_
    rcases bE (decide (p_<(ss.size:Int))) with b2|b2
    ·
     have p2:=dT b2
     refine qy J J J b2<|kq (fun _ _=>mv J s0 e1)<|qy J J J b2<|kq (fun _ _=>nc J J e1)<|qy J J J b2<|kq (fun _ _=>fa tp J J e1)<|qy J J J b2<|kq (fun _ x_=>lx (H0.ext x_) 0 J oa J J J e1)<|qy J J J b2<|kq (fun _ _=>mv J s0 e1)<|qy J J J b2<|kq (fun _ _=>nc J J e1)<|qy J J J b2<|kq (fun _ _=>fa kg J J e1)<|qy J J J b2<|kq (fun _ x_=>lx (H0.ext x_) 0 J aV J J J e1)<|qy J J J b2<|kq (fun _ _=>XQ J J J J aq mC e1)<|qy J J J b2<|kq (fun _ _=>geq J J J J e1)<|kq (fun _ _=>aR J J J J b2 J e1)<|kq (fun _ _=>mv (v:=.bool (decide (97≤(sE ss p_)))) J J e1) ?_
     rcases bE (decide (97≤(sE ss p_))) with b3|b3
     ·
      have p3:=dT b3
      refine qy J J J b3<|kq (fun _ _=>mv J s0 e1)<|qy J J J b3<|kq (fun _ _=>nc J J e1)<|qy J J J b3<|kq (fun _ _=>fa tp J J e1)<|qy J J J b3<|kq (fun _ x_=>lx (H0.ext x_) 0 J oa J J J e1)<|qy J J J b3<|kq (fun _ _=>mv J s0 e1)<|qy J J J b3<|kq (fun _ _=>nc J J e1)<|qy J J J b3<|kq (fun _ _=>fa kg J J e1)<|qy J J J b3<|kq (fun _ x_=>lx (H0.ext x_) 0 J aV J J J e1)<|qy J J J b3<|kq (fun _ _=>XQ J J J J aq mC e1)<|qy J J J b3<|kq (fun _ _=>leq J J J J e1)<|kq (fun _ _=>aR J J J J b3 J e1)<|zq ?_
      intro w2 bT
      have H1:=H0.ext bT
      refine nx<|cd (b:=decide ((sE ss p_)≤122)) J J (fun b4=>?_)<|fun b4=>?_
      ·
       have p4:=dT b4
       refine sk<|nx<|bk<|rg<|ak J s0<|k<|nc J J<|aS kg J J<|bl H1 0 J aV J J J<|k<|add J J J J aT<|k<|nc J J<|aS kg J J<|k<|bt H1 0 J aV J J J J J J J ?_
       intro w3 (H2:HI M w w3 ([box bK #[.string ss,C (p_+1),C bI,C er] 66]++r))
       refine z<|aJ<|bB _ ?_ ⟨(j_+1),(p_+1),J,s0,s1,H2,aq,aq,(by exact hs.trans (Y9 I' b0 b1 b2 b3 b4))⟩
       omega
      refine ex<|aW<|bc<|bg<|Bl ⟨p_,s0,s1,H1,(by exact hs.trans (zu I'<|by simp only[b0,b1,b2,b3,b4,BL])),aq⟩
     refine qn J J J b3<|qn J J J b3<|qn J J J b3<|qn J J J b3<|qn J J J b3<|qn J J J b3<|qn J J J b3<|qn J J J b3<|qn J J J b3<|qn J J J b3<|kq (fun _ _=>cJ J J J J b3 J e1)<|zq ?_
     intro w2 bT
     have H1:=H0.ext bT
     refine nx<|oQ J J J<|ex<|aW<|bc<|bg<|Bl ⟨p_,s0,s1,H1,(by exact hs.trans (zu I'<|by simp only[b0,b1,b2,b3,BL])),aq⟩
    refine qn J J J b2<|qn J J J b2<|qn J J J b2<|qn J J J b2<|qn J J J b2<|qn J J J b2<|qn J J J b2<|qn J J J b2<|qn J J J b2<|qn J J J b2<|kq (fun _ _=>cJ J J J J b2 J e1)<|kq (fun _ _=>mv (v:=.bool false) J J e1)<|qn J J J J<|qn J J J J<|qn J J J J<|qn J J J J<|qn J J J J<|qn J J J J<|qn J J J J<|qn J J J J<|qn J J J J<|qn J J J J<|kq (fun _ _=>cJ J J J J J J e1)<|zq ?_
    intro w2 bT
    have H1:=H0.ext bT
    refine nx<|oQ J J J<|ex<|aW<|bc<|bg<|Bl ⟨p_,s0,s1,H1,(by exact hs.trans (zu I'<|by simp only[b0,b1,b2,BL])),aq⟩
   refine qn J J J b1<|qn J J J b1<|qn J J J b1<|qn J J J b1<|qn J J J b1<|qn J J J b1<|qn J J J b1<|qn J J J b1<|qn J J J b1<|qn J J J b1<|kq (fun _ _=>cJ J J J J b1 J e1)<|kq (fun _ _=>mv (v:=.bool false) J J e1)<|qn J J J J<|qn J J J J<|qn J J J J<|qn J J J J<|qn J J J J<|qn J J J J<|qn J J J J<|qn J J J J<|qn J J J J<|qn J J J J<|kq (fun _ _=>cJ J J J J J J e1)<|kq (fun _ _=>mv (v:=.bool false) J J e1)<|qn J J J J<|qn J J J J<|qn J J J J<|qn J J J J<|qn J J J J<|qn J J J J<|qn J J J J<|qn J J J J<|qn J J J J<|qn J J J J<|kq (fun _ _=>cJ J J J J J J e1)<|zq ?_
   intro w2 bT
   have H1:=H0.ext bT
   refine nx<|oQ J J J<|ex<|aW<|bc<|bg<|Bl ⟨p_,s0,s1,H1,(by exact hs.trans (zu I'<|by simp only[b0,b1,BL])),aq⟩
  refine qn J J J b0<|qn J J J b0<|qn J J J b0<|qn J J J b0<|qn J J J b0<|qn J J J b0<|qn J J J b0<|kq (fun _ _=>cJ J J J J b0 J e1)<|kq (fun _ _=>mv (v:=.bool false) J J e1)<|qn J J J J<|qn J J J J<|qn J J J J<|qn J J J J<|qn J J J J<|qn J J J J<|qn J J J J<|qn J J J J<|qn J J J J<|qn J J J J<|kq (fun _ _=>cJ J J J J J J e1)<|kq (fun _ _=>mv (v:=.bool false) J J e1)<|qn J J J J<|qn J J J J<|qn J J J J<|qn J J J J<|qn J J J J<|qn J J J J<|qn J J J J<|qn J J J J<|qn J J J J<|qn J J J J<|kq (fun _ _=>cJ J J J J J J e1)<|kq (fun _ _=>mv (v:=.bool false) J J e1)<|qn J J J J<|qn J J J J<|qn J J J J<|qn J J J J<|qn J J J J<|qn J J J J<|qn J J J J<|qn J J J J<|qn J J J J<|qn J J J J<|kq (fun _ _=>cJ J J J J J J e1)<|zq ?_
  intro w2 bT
  have H1:=H0.ext bT
  refine nx<|oQ J J J<|ex<|aW<|bc<|bg<|Bl ⟨p_,s0,s1,H1,(by exact hs.trans (zu I'<|by simp only[b0,BL])),aq⟩
 ·
  rintro f0 w0 ⟨sW,s2,s3,H3,BE,amk⟩
  refine sq<|aB<|ak J s2<|k<|nc J J<|aS kg J J<|bl H3 0 J aV J J J<|ak J s3<|k<|eql J J J J<|z<|nx<|cd (b:=decide (sW=at_)) J J (fun b1=>?_)<|fun b1=>?_
  ·
   refine rg<|ak J s2<|k ?_
   let J0:=box bK #[.string ss,C sW,C bI,C er] 66
   have H4:HI M w w0 ([J0]++([]++r)):=HI.aR (l:=[J0]) (l':=[J0]) (t:=r) H3 [0] aw rfl rfl
   have bP:=uJ (bK:=bK) (ss:=ss) (at_:=sW) (bI:=bI) (er:=er) (ex:=2) (w:=w) (w_:=w0) (r:=([]++r)) (M:=M) bq aT eM mZ aT H4
   refine ca Mj J (ec J<|ec J e0) bP ?_
   rintro _ w3 ⟨rfl,H5⟩
   refine av<|sq<|BT J aC<|kq (fun _ _=>mv J s2 e1)<|kq (fun _ _=>nc J J e1)<|kq (fun _ _=>fa tp J J e1)<|kq (fun _ x_=>lx (H5.ext x_) 0 J oa J J J e1)<|kq (fun _ _=>mv J s3 e1)<|kq (fun _ _=>mv J s2 e1)<|kq (fun _ _=>nc J J e1)<|kq (fun _ _=>fa kg J J e1)<|kq (fun _ x_=>lx (H5.ext x_) 0 J aV J J J e1)<|kq (fun _ _=>PI J J J J J J aq mC e1)<|kq (fun _ _=>jG (v:=.string (ss.extract at_.toNat sW.toNat)) J J e1)<|zq ?_
   intro w4 da
   have H7:=H5.ext da
   refine nx<|rt<|r1 J J ?_
   have e0:(ss.extract at_.toNat sW.toNat:ByteArray)=(ss.extract at_.toNat sW.toNat):=rfl
   have e1:(ck er 2:Int)=(ck er 2):=rfl
   try rw[←e0]
   try rw[←e1]
   refine⟨sW,(ck er 2),(ss.extract at_.toNat sW.toNat),?_,?_,(by simp only[JT,BE,b1,BL]),aq,(by exact lk (x:=2) mX aw),(by rw[FB aq aq];omega),(by exact fun h_=>(O1 h_).elim)⟩
   · first|rfl|simp only[e0,e1]|(simp only[anj])
   · first|exact H7|simpa +zetaDelta only[e0,e1,anj] using H7
  have p1:=dF b1
  refine sk<|nx<|sq<|BT J aC<|kq (fun _ _=>mv J s2 e1)<|kq (fun _ _=>nc J J e1)<|kq (fun _ _=>fa tp J J e1)<|kq (fun _ x_=>lx (H3.ext x_) 0 J oa J J J e1)<|kq (fun _ _=>mv J s3 e1)<|kq (fun _ _=>mv J s2 e1)<|kq (fun _ _=>nc J J e1)<|kq (fun _ _=>fa kg J J e1)<|kq (fun _ x_=>lx (H3.ext x_) 0 J aV J J J e1)<|kq (fun _ _=>PI J J J J J J aq mC e1)<|kq (fun _ _=>jG (v:=.string (ss.extract at_.toNat sW.toNat)) J J e1)<|zq ?_
  intro w3 da
  have H4:=H3.ext da
  refine nx<|rt<|r1 J J ?_
  have e0:(ss.extract at_.toNat sW.toNat:ByteArray)=(ss.extract at_.toNat sW.toNat):=rfl
  try rw[←e0]
  refine⟨sW,er,(ss.extract at_.toNat sW.toNat),?_,?_,(by simp only[JT,BE,b1,BL]),aq,(by exact mX),(by rw[FB aq aq];omega),(by exact fun h_=>⟨h_,by omega⟩)⟩
  · first|rfl|simp only[e0]|(simp only[anj])
  · first|exact H4|simpa +zetaDelta only[e0,anj] using H4
theorem n3 (zf:ss.size≤maxLen) (lE:aM at_) (eM:aM bI) (mZ:aM er) (eJ:0≤at_∧at_≤(ss.size:Int)) (mX:0≤er∧er≤3) (H:HI M w w_ ([box bK #[.string ss,C at_,C bI,C er] 66]++r)):Calls aK 73 #[pV bK 0] w_ (cg fun v w'=>∃(kr:Int) (lW:Int) (vl:Int),v=C vl∧HI M w w' ([box bK #[.string ss,C kr,C bI,C lW] 66]++r)∧Ls ss at_ er=(kr,lW,vl)∧(0≤kr∧at_≤kr∧kr≤(ss.size:Int))∧(0≤lW∧lW≤3)∧aM vl∧(lW=0→er=0)):=by
 refine enter 49 Tryz.func73 J J J fun f0 ha=>?_
 have i0:f0 0=pV bK 0:=ha 0 bh
 have Ba:maxLen=9223372036854775807:=rfl
 have HP:=UR eJ
 refine aB<|au (v:=C 0) J J<|av<|sq<|aB<|ak J i0<|k<|nc J J<|aS tn J J<|bl H 0 J sP J J J<|k<|neq J J J J<|z<|nx<|cd (b:=!decide (er=0)) J J (fun b0=>?_)<|fun b0=>?_
 ·
  have p0:=dF<|fX b0
  refine aB<|au (v:=C 0) J J<|av<|rt<|aL<|r1 J J ?_
  refine⟨at_,er,0,?_,?_,(by simp only[Ls,(fX b0),BL]),aq,(by exact mX),(by unfold aM;decide),(by exact id)⟩
  · first|rfl|simp only[anj]
  · first|exact H|simpa +zetaDelta only[anj] using H
 have p0:=dT<|eY b0
 refine sk<|nx<|sq<|BT J aC<|kq (fun _ _=>mv J i0 e1)<|kq (fun _ _=>nc J J e1)<|kq (fun _ _=>fa kg J J e1)<|kq (fun _ x_=>lx (H.ext x_) 0 J aV J J J e1)<|kq (fun _ _=>mv J i0 e1)<|kq (fun _ _=>nc J J e1)<|kq (fun _ _=>fa tp J J e1)<|kq (fun _ x_=>lx (H.ext x_) 0 J oa J J J e1)<|kq (fun _ _=>mv J i0 e1)<|kq (fun _ _=>nc J J e1)<|kq (fun _ _=>fa kg J J e1)<|kq (fun _ x_=>lx (H.ext x_) 0 J aV J J J e1)<|kq (v:=C (gv ss at_)) (fun v_ x_=>?_) ?_
 ·
  have cc:=Vx (s:=ss) (at_:=at_) (w:=v_) bq lE
  exact ca afW J (ec J<|ec J e0) cc fun _ _ h_=>e2 h_
 refine kq (fun _ _=>add J J J J (by unfold aM;omega) e1)<|kq (fun _ _=>jG (v:=C (at_+(gv ss at_))) J J e1)<|zq ?_
 intro w0 bT
 have H0:=H.ext bT
 refine nx<|sq<|BT J aC<|kq (fun _ _=>mv J i0 e1)<|kq (fun _ _=>nc J J e1)<|kq (fun _ _=>fa tp J J e1)<|kq (fun _ x_=>lx (H0.ext x_) 0 J oa J J J e1)<|kq (fun _ _=>mv J i0 e1)<|kq (fun _ _=>nc J J e1)<|kq (fun _ _=>fa kg J J e1)<|kq (fun _ x_=>lx (H0.ext x_) 0 J aV J J J e1)<|kq (fun _ _=>mv (v:=C (at_+(gv ss at_))) J J e1)<|kq (fun _ _=>PI J J J J J J aq mC e1)<|kq (v:=.tuple #[C ((gf<|ss.extract at_.toNat (at_+(gv ss at_)).toNat).1),C ((gf<|ss.extract at_.toNat (at_+(gv ss at_)).toNat).2)]) (fun v_ x_=>?_) ?_
 ·
  have cc:=ZN (s:=(ss.extract at_.toNat (at_+(gv ss at_)).toNat)) (w:=v_)<|by exact Nat.le_trans (C4 _ _ _) zf
  exact ca afV J (ec J e0) cc fun _ _ h_=>e2 h_
 refine kq (fun _ _=>mv (v:=.tuple #[C ((gf<|ss.extract at_.toNat (at_+(gv ss at_)).toNat).1),C ((gf<|ss.extract at_.toNat (at_+(gv ss at_)).toNat).2)]) J J e1)<|kq (fun _ _=>xt J J J e1)<|kq (fun _ _=>xt J J J e1)<|kq (fun _ _=>jG (v:=C ((gf<|ss.extract at_.toNat (at_+(gv ss at_)).toNat).1)) J J e1)<|kq (fun _ _=>jG (v:=C ((gf<|ss.extract at_.toNat (at_+(gv ss at_)).toNat).2)) J J e1)<|zq ?_
 intro w1 da
 have H1:=H0.ext da
 refine nx<|sq<|aB<|ak (v:=C ((gf<|ss.extract at_.toNat (at_+(gv ss at_)).toNat).2)) J J<|k<|neq J J J J<|z<|nx<|cd (b:=!decide (((gf<|ss.extract at_.toNat (at_+(gv ss at_)).toNat).2)=0)) J J (fun b1=>?_)<|fun b1=>?_
 ·
  have p1:=dF<|fX b1
  refine aB<|ak J i0<|ak (v:=C ((gf<|ss.extract at_.toNat (at_+(gv ss at_)).toNat).2)) J J<|k ?_
  let J0:=box bK #[.string ss,C at_,C bI,C er] 66
  have H2:HI M w w1 ([J0]++([]++r)):=HI.aR (l:=[J0]) (l':=[J0]) (t:=r) H1 [0] aw rfl rfl
  have bP:=uJ (bK:=bK) (ss:=ss) (at_:=at_) (bI:=bI) (er:=er) (ex:=((gf<|ss.extract at_.toNat (at_+(gv ss at_)).toNat).2)) (w:=w) (w_:=w1) (r:=([]++r)) (M:=M) bq lE eM mZ (by have h_:=E' (ss.extract at_.toNat (at_+gv ss at_).toNat);unfold aM;omega) H2
  refine ca Mj J (ec J<|ec J e0) bP ?_
  rintro _ w2 ⟨rfl,H3⟩
  have H4:HI M w w2 ([box bK #[.string ss,C at_,C bI,C (ck er ((gf (ss.extract at_.toNat (at_+(gv ss at_)).toNat)).2))] 66]++r):=H3
  refine bp<|au (v:=C 0) J J<|av<|rt<|aL<|r1 J J ?_
  have e0:(ck er ((gf (ss.extract at_.toNat (at_+(gv ss at_)).toNat)).2):Int)=(ck er ((gf (ss.extract at_.toNat (at_+(gv ss at_)).toNat)).2)):=rfl
  try rw[←e0]
  refine⟨at_,(ck er<|(gf<|ss.extract at_.toNat (at_+(gv ss at_)).toNat).2),0,?_,?_,(by simp only[Ls,(eY b0),(fX b1),BL]),aq,(by exact lk mX (E' _).2),(by unfold aM;decide),(by exact fun h_=>(Wq (dF<|fX bq) h_).elim)⟩
  · first|rfl|simp only[e0]|(simp only[anj])
  · first|exact H4|simpa +zetaDelta only[e0,anj] using H4
 have p1:=dT<|eY b1
 refine sk<|cO<|ak J i0<|ak (v:=C (at_+(gv ss at_))) J J<|k<|nc J J<|aS kg J J<|k<|bt H1 0 J aV J J J J J J J ?_
 intro w2 (H2:HI M w w2 ([box bK #[.string ss,C (at_+(gv ss at_)),C bI,C er] 66]++r))
 refine bp<|ak (v:=C ((gf<|ss.extract at_.toNat (at_+(gv ss at_)).toNat).1)) J J<|au (v:=C ((gf<|ss.extract at_.toNat (at_+(gv ss at_)).toNat).1)) J J<|av<|rt<|r1 J J ?_
 have e0:((gf (ss.extract at_.toNat (at_+(gv ss at_)).toNat)).1:Int)=((gf (ss.extract at_.toNat (at_+(gv ss at_)).toNat)).1):=rfl
 have e1:(at_+(gv ss at_):Int)=(at_+(gv ss at_)):=rfl
 try rw[←e0]
 try rw[←e1]
 refine⟨(at_+(gv ss at_)),er,((gf<|ss.extract at_.toNat (at_+(gv ss at_)).toNat).1),?_,?_,(by simp only[Ls,(eY b0),(eY b1),BL]),aq,(by exact mX),(by exact(E' _).1),(by exact id)⟩
 · first|rfl|simp only[e0,e1]|(simp only[anj])
 · first|exact H2|simpa +zetaDelta only[e0,e1,anj] using H2
theorem N8 (zf:ss.size≤maxLen) (lE:aM at_) (eM:aM bI) (mZ:aM er) (eJ:0≤at_∧at_≤(ss.size:Int)) (mX:0≤er∧er≤3) (aib:0≤bI∧bI≤9223372036854775000) (H:HI M w w_ ([box bK #[.string ss,C at_,C bI,C er] 66]++r)):Calls aK 46 #[pV bK 0] w_ (cg fun v w'=>∃(kr:Int) (lW:Int) (wv:Bool) (nm:ByteArray) (vl:Int),v=.agg #[.bool wv,.string nm,C vl]∧HI M w w' ([box bK #[.string ss,C kr,C (bI+1),C lW] 66]++r)∧zP ss at_ bI er=(kr,lW,(wv,nm,vl))∧(0≤kr∧at_≤kr∧kr≤(ss.size:Int))∧(0≤lW∧lW≤3)∧nm.size≤8∧aM vl∧(lW=0→at_+1≤kr)):=by
 refine enter 45 Tryz.func46 J J J fun f0 ha=>?_
 have i0:f0 0=pV bK 0:=ha 0 bh
 have Ba:maxLen=9223372036854775807:=rfl
 refine aB<|k<|al H ir ?_
 let J1:=box bK #[.string ss,C at_,C bI,C er] 66
 intro aX w0 bT (H0:HI M w w0 ([box aX #[.bool false,.string ⟨#[]⟩,C 0] 43,J1]++r))
 let J0:=box aX #[.bool false,.string ⟨#[]⟩,C 0] 43
 refine av<|sq<|aB<|ak J i0<|k<|nc J J<|aS na J J<|bl H0 1 J aV J J J<|k<|eql J J J J<|ak (v:=.bool (decide (bI=4096))) J J ?_
 rcases bE (decide (bI=4096)) with b0|b0
 ·
  refine aU J J J b0<|mv J i0<|aU J J J b0 ?_
  have bP:=Cg (ss:=ss) (at_:=at_) (bI:=bI) (er:=er) (ch:=119) (w:=w0) (M:=fun _=>False) (fun _ h_=>h_.elim) bq lE eM mZ aw ⟨H0.at_ 1 rfl,fun h_=>h_⟩ aq
  refine ca Wc J (ec J<|ec J e0) bP ?_
  rintro _ w1 ⟨rfl,da⟩
  have H1:=H0.ext da
  refine aU J J J b0<|mv (v:=.bool (cC ss at_ er 119)) J J ?_
  rcases bE (cC ss at_ er 119) with b1|b1
  ·
   refine aO J J J b1<|aO J J J b1<|aU J J J b0<|aR J J J J b1 J<|k<|aR J J J J b0 J<|av<|nS J J J<|rg<|ak J i0<|k ?_
   have H2:HI M w w1 ([J1]++([J0]++r)):=HI.aR (l:=[J0,J1]) (l':=[J1,J0]) (t:=r) H1 [1,0] aw rfl rfl
   have cS:=uJ (bK:=bK) (ss:=ss) (at_:=at_) (bI:=bI) (er:=er) (ex:=3) (w:=w) (w_:=w1) (r:=([J0]++r)) (M:=M) bq lE eM mZ aT H2
   refine ca Mj J (ec J<|ec J e0) cS ?_
   rintro _ w2 ⟨rfl,H3⟩
   let J2:=box bK #[.string ss,C at_,C bI,C (ck er 3)] 66
   refine bp<|k<|al H3 ir ?_
   intro aZ w3 eR (H5:HI M w w3 ([box aZ #[.bool false,.string ⟨#[]⟩,C 0] 43,J2,J0]++r))
   let J3:=box aZ #[.bool false,.string ⟨#[]⟩,C 0] 43
   refine av<|sq<|aB<|ak J i0<|k ?_
   have H6:HI M w w3 ([J2]++([J3,J0]++r)):=HI.aR (l:=[J3,J2,J0]) (l':=[J2,J3,J0]) (t:=r) H5 [1,0,2] aw rfl rfl
   have fS:=qt (bK:=bK) (ss:=ss) (at_:=at_) (bI:=bI) (er:=(ck er 3)) (ch:=119) (w:=w) (w_:=w3) (r:=([J3,J0]++r)) (M:=M) bq lE eM (by have h_:=lk (x:=3) mX aw;unfold aM;omega) aw aq H6
   refine ca Fy J (ec J<|ec J e0) fS ?_
   rintro _ w4 ⟨rfl,H7⟩
   let J4:=box bK #[.string ss,C (eK ss at_ (ck er 3) 119),C bI,C (ck er 3)] 66
   refine aS oN J J<|k<|bt H7 1 J ob J J J J J J J ?_
   let J5:=box aZ #[.bool (cC ss at_ (ck er 3) 119),.string ⟨#[]⟩,C 0] 43
   intro w5 (H9:HI M w w5 ([J4,J5,J0]++r))
   refine bp<|aS oN J J<|bl H9 1 J ob J J J<|k<|jI J J<|z<|nx<|cd (b:=!(cC ss at_ (ck er 3) 119)) J J (fun b2=>?_)<|fun b2=>?_
   ·
    refine rg<|ak J i0<|k ?_
    have dH:HI M w w5 ([J4]++([J5,J0]++r)):=HI.aR (l:=[J4,J5,J0]) (l':=[J4,J5,J0]) (t:=r) H9 [0,1,2] aw rfl rfl
    have eX:=ig (bK:=bK) (ss:=ss) (at_:=(eK ss at_ (ck er 3) 119)) (bI:=bI) (er:=(ck er 3)) (ch:=114) (w:=w) (w_:=w5) (r:=([J5,J0]++r)) (M:=M) bq (by have h_:=cm (b:=119) (e:=er) eJ;have lz:=cm (b:=119) (e:=ck er 3) eJ;unfold aM;omega) eM (by have h_:=lk (x:=3) mX aw;unfold aM;omega) aw (by have h_:=cm (b:=119) (e:=er) eJ;have lz:=cm (b:=119) (e:=ck er 3) eJ;omega) (by exact lk (x:=3) mX aw) dH
    refine ca pf J (ec J<|ec J e0) eX ?_
    rintro _ w6 ⟨o0,o1,rfl,db,q0,q1,q2,q3⟩
    let J6:=box bK #[.string ss,C o0,C bI,C o1] 66
    have dw:HI M w w6 ([J6,J5,J0]++r):=db
    refine bp<|ak J i0<|k ?_
    have dz:HI M w w6 ([J6]++([J5,J0]++r)):=HI.aR (l:=[J6,J5,J0]) (l':=[J6,J5,J0]) (t:=r) dw [0,1,2] aw rfl rfl
    have kI:=ig (bK:=bK) (ss:=ss) (at_:=o0) (bI:=bI) (er:=o1) (ch:=58) (w:=w) (w_:=w6) (r:=([J5,J0]++r)) (M:=M) bq aT eM aT aw aq aq dz
    refine ca pf J (ec J<|ec J e0) kI ?_
    rintro _ w7 ⟨o2,o3,rfl,cM,q4,q5,q6,q7⟩
    let J7:=box bK #[.string ss,C o2,C bI,C o3] 66
    have dW:HI M w w7 ([J7,J5,J0]++r):=cM
    refine bp<|ak J i0<|k ?_
    have dt:HI M w w7 ([J7]++([J5,J0]++r)):=HI.aR (l:=[J7,J5,J0]) (l':=[J7,J5,J0]) (t:=r) dW [0,1,2] aw rfl rfl
    have nk:=qv (bK:=bK) (ss:=ss) (at_:=o2) (bI:=bI) (er:=o3) (w:=w) (w_:=w7) (r:=([J5,J0]++r)) (M:=M) bq aT eM aT aq aq dt
    refine ca Fv J (ec J e0) nk ?_
    rintro _ w8 ⟨o4,o5,o6,rfl,cR,q8,q9,uL,xa,Ea⟩
    let J8:=box bK #[.string ss,C o4,C bI,C o5] 66
    refine aS nf J J<|k<|bt cR 1 J oa J J J J J J J ?_
    let J9:=box aZ #[.bool (cC ss at_ (ck er 3) 119),.string o6,C 0] 43
    intro w9 (dI:HI M w w9 ([J8,J9,J0]++r))
    refine bp<|ak J i0<|k ?_
    have cF:HI M w w9 ([J8]++([J9,J0]++r)):=HI.aR (l:=[J8,J9,J0]) (l':=[J8,J9,J0]) (t:=r) dI [0,1,2] aw rfl rfl
    have Am:=ig (bK:=bK) (ss:=ss) (at_:=o4) (bI:=bI) (er:=o5) (ch:=61) (w:=w) (w_:=w9) (r:=([J9,J0]++r)) (M:=M) bq aT eM aT aw aq aq cF
    refine ca pf J (ec J<|ec J e0) Am ?_
    rintro _ dL ⟨o7,o8,rfl,dV,uK,N9,Cl,Ck⟩
    let dO:=box bK #[.string ss,C o7,C bI,C o8] 66
    have dG:HI M w dL ([dO,J9,J0]++r):=dV
    refine bp<|ak J i0<|k ?_
    have eS:HI M w dL ([dO]++([J9,J0]++r)):=HI.aR (l:=[dO,J9,J0]) (l':=[dO,J9,J0]) (t:=r) dG [0,1,2] aw rfl rfl
    have Da:=n3 (bK:=bK) (ss:=ss) (at_:=o7) (bI:=bI) (er:=o8) (w:=w) (w_:=dL) (r:=([J9,J0]++r)) (M:=M) bq aT eM aT aq aq eS
    refine ca Fu J (ec J e0) Da ?_
    rintro _ ef ⟨o9,kf,eO,rfl,ff,ya,wZ,q19,wY,D'⟩
    refine aS qK J J<|k<|bt ff 1 J aV J J J J J J J ?_
    let eC:=box aZ #[.bool (cC ss at_ (ck er 3) 119),.string o6,C eO] 43
    intro fh (iI:HI M w fh ([box bK #[.string ss,C o9,C bI,C kf] 66,eC,J0]++r))
    refine bp<|ak J i0<|k<|nc J J<|aS na J J<|bl iI 0 J aV J J J<|k<|add J J J J aT<|k<|nc J J<|aS na J J<|k<|bt iI 0 J aV J J J J J J J ?_
    let fQ:=box bK #[.string ss,C o9,C (bI+1),C kf] 66
    intro iz (iE:HI M w iz ([fQ,eC,J0]++r))
    refine bp<|k<|cz iE 1 J ir J J aw J<|k<|bt iE 2 J ir J J J J J J J ?_
    let fz:=box aX #[.bool (cC ss at_ (ck er 3) 119),.string o6,C eO] 43
    intro jw (kU:HI M w jw ([fQ,eC,fz]++r))
    refine av<|rt<|oY kU 2 J ir J J J J aw ?_
    have iD:=HI.aR (l:=[fQ,eC,fz]) (l':=[fQ]) (t:=r) kU [0] aw J J
    have e0:(cC ss at_ (ck er 3) 119:Bool)=(cC ss at_ (ck er 3) 119):=rfl
    have e1:(bI+1:Int)=(bI+1):=rfl
    try rw[←e0]
    try rw[←e1]
    refine⟨o9,kf,(cC ss at_ (ck er 3) 119),o6,eO,?_,?_,(by simp only[zP,IU,IT,q0,q4,q8,uK,ya,b0,b1,(fX b2),BL]),(by have h_:=cm (b:=119) (e:=er) eJ;have lz:=cm (b:=119) (e:=ck er 3) eJ;omega),aq,bq,bq,(by have h_:=cm (b:=119) (e:=er) eJ;have lz:=cm (b:=119) (e:=ck er 3) eJ;omega)⟩
    · first|rfl|simp only[e0,e1]|(simp only[anj])
    · first|exact iD|simpa +zetaDelta only[e0,e1,anj] using iD
   refine sk<|cO<|ak J i0<|k ?_
   have dH:HI M w w5 ([J4]++([J5,J0]++r)):=HI.aR (l:=[J4,J5,J0]) (l':=[J4,J5,J0]) (t:=r) H9 [0,1,2] aw rfl rfl
   have eX:=ig (bK:=bK) (ss:=ss) (at_:=(eK ss at_ (ck er 3) 119)) (bI:=bI) (er:=(ck er 3)) (ch:=58) (w:=w) (w_:=w5) (r:=([J5,J0]++r)) (M:=M) bq (by have h_:=cm (b:=119) (e:=er) eJ;have lz:=cm (b:=119) (e:=ck er 3) eJ;unfold aM;omega) eM (by have h_:=lk (x:=3) mX aw;unfold aM;omega) aw (by have h_:=cm (b:=119) (e:=er) eJ;have lz:=cm (b:=119) (e:=ck er 3) eJ;omega) (by exact lk (x:=3) mX aw) dH
   refine ca pf J (ec J<|ec J e0) eX ?_
   rintro _ w6 ⟨o0,o1,rfl,db,q0,q1,q2,q3⟩
   let il:=box bK #[.string ss,C o0,C bI,C o1] 66
   have dw:HI M w w6 ([il,J5,J0]++r):=db
   refine bp<|ak J i0<|k ?_
   have dz:HI M w w6 ([il]++([J5,J0]++r)):=HI.aR (l:=[il,J5,J0]) (l':=[il,J5,J0]) (t:=r) dw [0,1,2] aw rfl rfl
   have kI:=qv (bK:=bK) (ss:=ss) (at_:=o0) (bI:=bI) (er:=o1) (w:=w) (w_:=w6) (r:=([J5,J0]++r)) (M:=M) bq aT eM aT aq aq dz
   refine ca Fv J (ec J e0) kI ?_
   rintro _ w7 ⟨o2,o3,o4,rfl,cM,q4,q5,q6,q7,q8⟩
   let nX:=box bK #[.string ss,C o2,C bI,C o3] 66
   refine aS nf J J<|k<|bt cM 1 J oa J J J J J J J ?_
   let lB:=box aZ #[.bool (cC ss at_ (ck er 3) 119),.string o4,C 0] 43
   intro w8 (dt:HI M w w8 ([nX,lB,J0]++r))
   refine bp<|ak J i0<|k ?_
   have cR:HI M w w8 ([nX]++([lB,J0]++r)):=HI.aR (l:=[nX,lB,J0]) (l':=[nX,lB,J0]) (t:=r) dt [0,1,2] aw rfl rfl
   have nk:=ig (bK:=bK) (ss:=ss) (at_:=o2) (bI:=bI) (er:=o3) (ch:=61) (w:=w) (w_:=w8) (r:=([lB,J0]++r)) (M:=M) bq aT eM aT aw aq aq cR
   refine ca pf J (ec J<|ec J e0) nk ?_
   rintro _ w9 ⟨o5,o6,rfl,dM,q9,uL,xa,Ea⟩
   let qQ:=box bK #[.string ss,C o5,C bI,C o6] 66
   have dI:HI M w w9 ([qQ,lB,J0]++r):=dM
   refine bp<|ak J i0<|k ?_
   have cF:HI M w w9 ([qQ]++([lB,J0]++r)):=HI.aR (l:=[qQ,lB,J0]) (l':=[qQ,lB,J0]) (t:=r) dI [0,1,2] aw rfl rfl
   have Am:=n3 (bK:=bK) (ss:=ss) (at_:=o5) (bI:=bI) (er:=o6) (w:=w) (w_:=w9) (r:=([lB,J0]++r)) (M:=M) bq aT eM aT aq aq cF
   refine ca Fu J (ec J e0) Am ?_
   rintro _ dL ⟨o7,o8,o9,rfl,dV,uK,N9,Cl,Ck,ya⟩
   refine aS qK J J<|k<|bt dV 1 J aV J J J J J J J ?_
   let jv:=box aZ #[.bool (cC ss at_ (ck er 3) 119),.string o4,C o9] 43
   intro ef (eS:HI M w ef ([box bK #[.string ss,C o7,C bI,C o8] 66,jv,J0]++r))
   refine bp<|ak J i0<|k<|nc J J<|aS na J J<|bl eS 0 J aV J J J<|k<|add J J J J aT<|k<|nc J J<|aS na J J<|k<|bt eS 0 J aV J J J J J J J ?_
   let oW:=box bK #[.string ss,C o7,C (bI+1),C o8] 66
   intro fh (ff:HI M w fh ([oW,jv,J0]++r))
   refine bp<|k<|cz ff 1 J ir J J aw J<|k<|bt ff 2 J ir J J J J J J J ?_
   let qh:=box aX #[.bool (cC ss at_ (ck er 3) 119),.string o4,C o9] 43
   intro iz (ga:HI M w iz ([oW,jv,qh]++r))
   refine av<|rt<|oY ga 2 J ir J J J J aw ?_
   have iI:=HI.aR (l:=[oW,jv,qh]) (l':=[oW]) (t:=r) ga [0] aw J J
   have e0:(cC ss at_ (ck er 3) 119:Bool)=(cC ss at_ (ck er 3) 119):=rfl
   have e1:(bI+1:Int)=(bI+1):=rfl
   try rw[←e0]
   try rw[←e1]
   refine⟨o7,o8,(cC ss at_ (ck er 3) 119),o4,o9,?_,?_,(by simp only[zP,IU,IT,q0,q4,q9,uK,b0,b1,(eY b2),BL]),(by have h_:=cm (b:=119) (e:=er) eJ;have lz:=cm (b:=119) (e:=ck er 3) eJ;omega),aq,bq,bq,(by have h_:=cm (b:=119) (e:=er) eJ;have lz:=cm (b:=119) (e:=ck er 3) eJ;omega)⟩
   · first|rfl|simp only[e0,e1]|(simp only[anj])
   · first|exact iI|simpa +zetaDelta only[e0,e1,anj] using iI
  refine aU J J J b1<|mv J i0<|aU J J J b1 ?_
  have cS:=Cg (ss:=ss) (at_:=at_) (bI:=bI) (er:=er) (ch:=114) (w:=w1) (M:=fun _=>False) (fun _ h_=>h_.elim) bq lE eM mZ aw ⟨H1.at_ 1 rfl,fun h_=>h_⟩ aq
  refine ca Wc J (ec J<|ec J e0) cS ?_
  rintro _ w2 ⟨rfl,eR⟩
  have H2:=H1.ext eR
  refine aU J J J b0<|cJ J J J J b1 J<|k<|aR J J J J b0 J<|z<|nx<|cd (b:=cC ss at_ er 114) J J (fun b2=>?_)<|fun b2=>?_
  ·
   refine rg<|ak J i0<|k ?_
   have H3:HI M w w2 ([J1]++([J0]++r)):=HI.aR (l:=[J0,J1]) (l':=[J1,J0]) (t:=r) H2 [1,0] aw rfl rfl
   have fS:=uJ (bK:=bK) (ss:=ss) (at_:=at_) (bI:=bI) (er:=er) (ex:=3) (w:=w) (w_:=w2) (r:=([J0]++r)) (M:=M) bq lE eM mZ aT H3
   refine ca Mj J (ec J<|ec J e0) fS ?_
   rintro _ w3 ⟨rfl,H4⟩
   let nW:=box bK #[.string ss,C at_,C bI,C (ck er 3)] 66
   refine bp<|k<|al H4 ir ?_
   intro aZ w4 fH (H6:HI M w w4 ([box aZ #[.bool false,.string ⟨#[]⟩,C 0] 43,nW,J0]++r))
   let oV:=box aZ #[.bool false,.string ⟨#[]⟩,C 0] 43
   refine av<|sq<|aB<|ak J i0<|k ?_
   have H7:HI M w w4 ([nW]++([oV,J0]++r)):=HI.aR (l:=[oV,nW,J0]) (l':=[nW,oV,J0]) (t:=r) H6 [1,0,2] aw rfl rfl
   have eX:=qt (bK:=bK) (ss:=ss) (at_:=at_) (bI:=bI) (er:=(ck er 3)) (ch:=119) (w:=w) (w_:=w4) (r:=([oV,J0]++r)) (M:=M) bq lE eM (by have h_:=lk (x:=3) mX aw;unfold aM;omega) aw aq H7
   refine ca Fy J (ec J<|ec J e0) eX ?_
   rintro _ w5 ⟨rfl,H8⟩
   let vv:=box bK #[.string ss,C (eK ss at_ (ck er 3) 119),C bI,C (ck er 3)] 66
   refine aS oN J J<|k<|bt H8 1 J ob J J J J J J J ?_
   let tS:=box aZ #[.bool (cC ss at_ (ck er 3) 119),.string ⟨#[]⟩,C 0] 43
   let ba:=[tS,J0]
   intro w6 (dH:HI M w w6 ((vv::ba)++r))
   refine bp<|aS oN J J<|bl dH 1 J ob J J J<|k<|jI J J<|z<|nx<|cd (b:=!(cC ss at_ (ck er 3) 119)) J J (fun b3=>?_)<|fun b3=>?_
   ·
    refine rg<|ak J i0<|k ?_
    have db:HI M w w6 ([vv]++([tS,J0]++r)):=HI.aR (l:=(vv::ba)) (l':=(vv::ba)) (t:=r) dH [0,1,2] aw rfl rfl
    have kI:=ig (bK:=bK) (ss:=ss) (at_:=(eK ss at_ (ck er 3) 119)) (bI:=bI) (er:=(ck er 3)) (ch:=114) (w:=w) (w_:=w6) (r:=([tS,J0]++r)) (M:=M) bq (by have h_:=cm (b:=119) (e:=er) eJ;have lz:=cm (b:=119) (e:=ck er 3) eJ;unfold aM;omega) eM (by have h_:=lk (x:=3) mX aw;unfold aM;omega) aw (by have h_:=cm (b:=119) (e:=er) eJ;have lz:=cm (b:=119) (e:=ck er 3) eJ;omega) (by exact lk (x:=3) mX aw) db
    refine ca pf J (ec J<|ec J e0) kI ?_
    rintro _ w7 ⟨o0,o1,rfl,dw,q0,q1,q2,q3⟩
    let BV:=box bK #[.string ss,C o0,C bI,C o1] 66
    have dz:HI M w w7 ((BV::ba)++r):=dw
    refine bp<|ak J i0<|k ?_
    have cM:HI M w w7 ([BV]++([tS,J0]++r)):=HI.aR (l:=(BV::ba)) (l':=(BV::ba)) (t:=r) dz [0,1,2] aw rfl rfl
    have nk:=ig (bK:=bK) (ss:=ss) (at_:=o0) (bI:=bI) (er:=o1) (ch:=58) (w:=w) (w_:=w7) (r:=([tS,J0]++r)) (M:=M) bq aT eM aT aw aq aq cM
    refine ca pf J (ec J<|ec J e0) nk ?_
    rintro _ w8 ⟨o2,o3,rfl,dW,q4,q5,q6,q7⟩
    let tR:=box bK #[.string ss,C o2,C bI,C o3] 66
    have dt:HI M w w8 ((tR::ba)++r):=dW
    refine bp<|ak J i0<|k ?_
    have cR:HI M w w8 ([tR]++([tS,J0]++r)):=HI.aR (l:=(tR::ba)) (l':=(tR::ba)) (t:=r) dt [0,1,2] aw rfl rfl
    have Am:=qv (bK:=bK) (ss:=ss) (at_:=o2) (bI:=bI) (er:=o3) (w:=w) (w_:=w8) (r:=([tS,J0]++r)) (M:=M) bq aT eM aT aq aq cR
    refine ca Fv J (ec J e0) Am ?_
    rintro _ w9 ⟨o4,o5,o6,rfl,dM,q8,q9,uL,xa,Ea⟩
    let yW:=box bK #[.string ss,C o4,C bI,C o5] 66
    refine aS nf J J<|k<|bt dM 1 J oa J J J J J J J ?_
    let vu:=box aZ #[.bool (cC ss at_ (ck er 3) 119),.string o6,C 0] 43
    intro dL (cF:HI M w dL ([yW,vu,J0]++r))
    refine bp<|ak J i0<|k ?_
    have dV:HI M w dL ([yW]++([vu,J0]++r)):=HI.aR (l:=[yW,vu,J0]) (l':=[yW,vu,J0]) (t:=r) cF [0,1,2] aw rfl rfl
    have Da:=ig (bK:=bK) (ss:=ss) (at_:=o4) (bI:=bI) (er:=o5) (ch:=61) (w:=w) (w_:=dL) (r:=([vu,J0]++r)) (M:=M) bq aT eM aT aw aq aq dV
    refine ca pf J (ec J<|ec J e0) Da ?_
    rintro _ ef ⟨o7,o8,rfl,dG,uK,N9,Cl,Ck⟩
    let xU:=box bK #[.string ss,C o7,C bI,C o8] 66
    have eS:HI M w ef ([xU,vu,J0]++r):=dG
    refine bp<|ak J i0<|k ?_
    have ff:HI M w ef ([xU]++([vu,J0]++r)):=HI.aR (l:=[xU,vu,J0]) (l':=[xU,vu,J0]) (t:=r) eS [0,1,2] aw rfl rfl
    have T_:=n3 (bK:=bK) (ss:=ss) (at_:=o7) (bI:=bI) (er:=o8) (w:=w) (w_:=ef) (r:=([vu,J0]++r)) (M:=M) bq aT eM aT aq aq ff
    refine ca Fu J (ec J e0) T_ ?_
    rintro _ fh ⟨o9,kf,eO,rfl,ga,ya,wZ,q19,wY,D'⟩
    refine aS qK J J<|k<|bt ga 1 J aV J J J J J J J ?_
    let xT:=box aZ #[.bool (cC ss at_ (ck er 3) 119),.string o6,C eO] 43
    intro iz (iE:HI M w iz ([box bK #[.string ss,C o9,C bI,C kf] 66,xT,J0]++r))
    refine bp<|ak J i0<|k<|nc J J<|aS na J J<|bl iE 0 J aV J J J<|k<|add J J J J aT<|k<|nc J J<|aS na J J<|k<|bt iE 0 J aV J J J J J J J ?_
    let EM:=box bK #[.string ss,C o9,C (bI+1),C kf] 66
    intro jw (kU:HI M w jw ([EM,xT,J0]++r))
    refine bp<|k<|cz kU 1 J ir J J aw J<|k<|bt kU 2 J ir J J J J J J J ?_
    let tB:=box aX #[.bool (cC ss at_ (ck er 3) 119),.string o6,C eO] 43
    intro pZ (iD:HI M w pZ ([EM,xT,tB]++r))
    refine av<|rt<|oY iD 2 J ir J J J J aw ?_
    have ri:=HI.aR (l:=[EM,xT,tB]) (l':=[EM]) (t:=r) iD [0] aw J J
    have e0:(cC ss at_ (ck er 3) 119:Bool)=(cC ss at_ (ck er 3) 119):=rfl
    have e1:(bI+1:Int)=(bI+1):=rfl
    try rw[←e0]
    try rw[←e1]
    refine⟨o9,kf,(cC ss at_ (ck er 3) 119),o6,eO,?_,?_,(by simp only[zP,IU,IT,q0,q4,q8,uK,ya,b0,b1,b2,(fX b3),BL]),(by have h_:=cm (b:=119) (e:=er) eJ;have lz:=cm (b:=119) (e:=ck er 3) eJ;omega),aq,bq,bq,(by have h_:=cm (b:=119) (e:=er) eJ;have lz:=cm (b:=119) (e:=ck er 3) eJ;omega)⟩
    · first|rfl|simp only[e0,e1]|(simp only[anj])
    · first|exact ri|simpa +zetaDelta only[e0,e1,anj] using ri
   refine sk<|cO<|ak J i0<|k ?_
   have db:HI M w w6 ([vv]++([tS,J0]++r)):=HI.aR (l:=(vv::ba)) (l':=(vv::ba)) (t:=r) dH [0,1,2] aw rfl rfl
   have kI:=ig (bK:=bK) (ss:=ss) (at_:=(eK ss at_ (ck er 3) 119)) (bI:=bI) (er:=(ck er 3)) (ch:=58) (w:=w) (w_:=w6) (r:=([tS,J0]++r)) (M:=M) bq (by have h_:=cm (b:=119) (e:=er) eJ;have lz:=cm (b:=119) (e:=ck er 3) eJ;unfold aM;omega) eM (by have h_:=lk (x:=3) mX aw;unfold aM;omega) aw (by have h_:=cm (b:=119) (e:=er) eJ;have lz:=cm (b:=119) (e:=ck er 3) eJ;omega) (by exact lk (x:=3) mX aw) db
   refine ca pf J (ec J<|ec J e0) kI ?_
   rintro _ w7 ⟨o0,o1,rfl,dw,q0,q1,q2,q3⟩
   let rK:=box bK #[.string ss,C o0,C bI,C o1] 66
   have dz:HI M w w7 ((rK::ba)++r):=dw
   refine bp<|ak J i0<|k ?_
   have cM:HI M w w7 ([rK]++([tS,J0]++r)):=HI.aR (l:=(rK::ba)) (l':=(rK::ba)) (t:=r) dz [0,1,2] aw rfl rfl
   have nk:=qv (bK:=bK) (ss:=ss) (at_:=o0) (bI:=bI) (er:=o1) (w:=w) (w_:=w7) (r:=([tS,J0]++r)) (M:=M) bq aT eM aT aq aq cM
   refine ca Fv J (ec J e0) nk ?_
   rintro _ w8 ⟨o2,o3,o4,rfl,dW,q4,q5,q6,q7,q8⟩
   let vt:=box bK #[.string ss,C o2,C bI,C o3] 66
   refine aS nf J J<|k<|bt dW 1 J oa J J J J J J J ?_
   let pL:=box aZ #[.bool (cC ss at_ (ck er 3) 119),.string o4,C 0] 43
   intro w9 (cR:HI M w w9 ([vt,pL,J0]++r))
   refine bp<|ak J i0<|k ?_
   have dM:HI M w w9 ([vt]++([pL,J0]++r)):=HI.aR (l:=[vt,pL,J0]) (l':=[vt,pL,J0]) (t:=r) cR [0,1,2] aw rfl rfl
   have Am:=ig (bK:=bK) (ss:=ss) (at_:=o2) (bI:=bI) (er:=o3) (ch:=61) (w:=w) (w_:=w9) (r:=([pL,J0]++r)) (M:=M) bq aT eM aT aw aq aq dM
   refine ca pf J (ec J<|ec J e0) Am ?_
   rintro _ dL ⟨o5,o6,rfl,dI,q9,uL,xa,Ea⟩
   let Dt:=box bK #[.string ss,C o5,C bI,C o6] 66
   have cF:HI M w dL ([Dt,pL,J0]++r):=dI
   refine bp<|ak J i0<|k ?_
   have dV:HI M w dL ([Dt]++([pL,J0]++r)):=HI.aR (l:=[Dt,pL,J0]) (l':=[Dt,pL,J0]) (t:=r) cF [0,1,2] aw rfl rfl
   have Da:=n3 (bK:=bK) (ss:=ss) (at_:=o5) (bI:=bI) (er:=o6) (w:=w) (w_:=dL) (r:=([pL,J0]++r)) (M:=M) bq aT eM aT aq aq dV
   refine ca Fu J (ec J e0) Da ?_
   rintro _ ef ⟨o7,o8,o9,rfl,dG,uK,N9,Cl,Ck,ya⟩
   refine aS qK J J<|k<|bt dG 1 J aV J J J J J J J ?_
   let yV:=box aZ #[.bool (cC ss at_ (ck er 3) 119),.string o4,C o9] 43
   intro fh (ff:HI M w fh ([box bK #[.string ss,C o7,C bI,C o8] 66,yV,J0]++r))
   refine bp<|ak J i0<|k<|nc J J<|aS na J J<|bl ff 0 J aV J J J<|k<|add J J J J aT<|k<|nc J J<|aS na J J<|k<|bt ff 0 J aV J J J J J J J ?_
   let xS:=box bK #[.string ss,C o7,C (bI+1),C o8] 66
   intro iz (ga:HI M w iz ([xS,yV,J0]++r))
   refine bp<|k<|cz ga 1 J ir J J aw J<|k<|bt ga 2 J ir J J J J J J J ?_
   let Dr:=box aX #[.bool (cC ss at_ (ck er 3) 119),.string o4,C o9] 43
   intro jw (iI:HI M w jw ([xS,yV,Dr]++r))
   refine av<|rt<|oY iI 2 J ir J J J J aw ?_
   have iE:=HI.aR (l:=[xS,yV,Dr]) (l':=[xS]) (t:=r) iI [0] aw J J
   have e0:(cC ss at_ (ck er 3) 119:Bool)=(cC ss at_ (ck er 3) 119):=rfl
   have e1:(bI+1:Int)=(bI+1):=rfl
   try rw[←e0]
   try rw[←e1]
   refine⟨o7,o8,(cC ss at_ (ck er 3) 119),o4,o9,?_,?_,(by simp only[zP,IU,IT,q0,q4,q9,uK,b0,b1,b2,(eY b3),BL]),(by have h_:=cm (b:=119) (e:=er) eJ;have lz:=cm (b:=119) (e:=ck er 3) eJ;omega),aq,bq,bq,(by have h_:=cm (b:=119) (e:=er) eJ;have lz:=cm (b:=119) (e:=ck er 3) eJ;omega)⟩
   · first|rfl|simp only[e0,e1]|(simp only[anj])
   · first|exact iE|simpa +zetaDelta only[e0,e1,anj] using iE
  refine sk<|cO<|k<|al H2 ir ?_
  intro aZ w3 fH (H3:HI M w w3 ([box aZ #[.bool false,.string ⟨#[]⟩,C 0] 43,J0,J1]++r))
  let Dq:=box aZ #[.bool false,.string ⟨#[]⟩,C 0] 43
  refine av<|sq<|aB<|ak J i0<|k ?_
  have H4:HI M w w3 ([J1]++([Dq,J0]++r)):=HI.aR (l:=[Dq,J0,J1]) (l':=[J1,Dq,J0]) (t:=r) H3 [2,0,1] aw rfl rfl
  have fS:=qt (bK:=bK) (ss:=ss) (at_:=at_) (bI:=bI) (er:=er) (ch:=119) (w:=w) (w_:=w3) (r:=([Dq,J0]++r)) (M:=M) bq lE eM mZ aw aq H4
  refine ca Fy J (ec J<|ec J e0) fS ?_
  rintro _ w4 ⟨rfl,H5⟩
  let Dp:=box bK #[.string ss,C (eK ss at_ er 119),C bI,C er] 66
  refine aS oN J J<|k<|bt H5 1 J ob J J J J J J J ?_
  let sI:=box aZ #[.bool (cC ss at_ er 119),.string ⟨#[]⟩,C 0] 43
  intro w5 (H7:HI M w w5 ([Dp,sI,J0]++r))
  refine bp<|aS oN J J<|bl H7 1 J ob J J J<|k<|jI J J<|av<|nS J J (by rw[show (cC ss at_ er 119)=false from b1]<;>rfl)<|rg<|ak J i0<|k ?_
  have H8:HI M w w5 ([Dp]++([sI,J0]++r)):=HI.aR (l:=[Dp,sI,J0]) (l':=[Dp,sI,J0]) (t:=r) H7 [0,1,2] aw rfl rfl
  have eX:=ig (bK:=bK) (ss:=ss) (at_:=(eK ss at_ er 119)) (bI:=bI) (er:=er) (ch:=114) (w:=w) (w_:=w5) (r:=([sI,J0]++r)) (M:=M) bq (by have h_:=cm (b:=119) (e:=er) eJ;have lz:=cm (b:=119) (e:=ck er 3) eJ;unfold aM;omega) eM mZ aw (by have h_:=cm (b:=119) (e:=er) eJ;have lz:=cm (b:=119) (e:=ck er 3) eJ;omega) aq H8
  refine ca pf J (ec J<|ec J e0) eX ?_
  rintro _ w6 ⟨o0,o1,rfl,H9,q0,q1,q2,q3⟩
  let JE:=box bK #[.string ss,C o0,C bI,C o1] 66
  have dH:HI M w w6 ([JE,sI,J0]++r):=H9
  refine bp<|ak J i0<|k ?_
  have db:HI M w w6 ([JE]++([sI,J0]++r)):=HI.aR (l:=[JE,sI,J0]) (l':=[JE,sI,J0]) (t:=r) dH [0,1,2] aw rfl rfl
  have kI:=ig (bK:=bK) (ss:=ss) (at_:=o0) (bI:=bI) (er:=o1) (ch:=58) (w:=w) (w_:=w6) (r:=([sI,J0]++r)) (M:=M) bq aT eM aT aw aq aq db
  refine ca pf J (ec J<|ec J e0) kI ?_
  rintro _ w7 ⟨o2,o3,rfl,dw,q4,q5,q6,q7⟩
  let EL:=box bK #[.string ss,C o2,C bI,C o3] 66
  have dz:HI M w w7 ([EL,sI,J0]++r):=dw
  refine bp<|ak J i0<|k ?_
  have cM:HI M w w7 ([EL]++([sI,J0]++r)):=HI.aR (l:=[EL,sI,J0]) (l':=[EL,sI,J0]) (t:=r) dz [0,1,2] aw rfl rfl
  have nk:=qv (bK:=bK) (ss:=ss) (at_:=o2) (bI:=bI) (er:=o3) (w:=w) (w_:=w7) (r:=([sI,J0]++r)) (M:=M) bq aT eM aT aq aq cM
  refine ca Fv J (ec J e0) nk ?_
  rintro _ w8 ⟨o4,o5,o6,rfl,dW,q8,q9,uL,xa,Ea⟩
  let EK:=box bK #[.string ss,C o4,C bI,C o5] 66
  refine aS nf J J<|k<|bt dW 1 J oa J J J J J J J ?_
  let Aw:=box aZ #[.bool (cC ss at_ er 119),.string o6,C 0] 43
  intro w9 (cR:HI M w w9 ([EK,Aw,J0]++r))
  refine bp<|ak J i0<|k ?_
  have dM:HI M w w9 ([EK]++([Aw,J0]++r)):=HI.aR (l:=[EK,Aw,J0]) (l':=[EK,Aw,J0]) (t:=r) cR [0,1,2] aw rfl rfl
  have Am:=ig (bK:=bK) (ss:=ss) (at_:=o4) (bI:=bI) (er:=o5) (ch:=61) (w:=w) (w_:=w9) (r:=([Aw,J0]++r)) (M:=M) bq aT eM aT aw aq aq dM
  refine ca pf J (ec J<|ec J e0) Am ?_
  rintro _ dL ⟨o7,o8,rfl,dI,uK,N9,Cl,Ck⟩
  let Hl:=box bK #[.string ss,C o7,C bI,C o8] 66
  have cF:HI M w dL ([Hl,Aw,J0]++r):=dI
  refine bp<|ak J i0<|k ?_
  have dV:HI M w dL ([Hl]++([Aw,J0]++r)):=HI.aR (l:=[Hl,Aw,J0]) (l':=[Hl,Aw,J0]) (t:=r) cF [0,1,2] aw rfl rfl
  have Da:=n3 (bK:=bK) (ss:=ss) (at_:=o7) (bI:=bI) (er:=o8) (w:=w) (w_:=dL) (r:=([Aw,J0]++r)) (M:=M) bq aT eM aT aq aq dV
  refine ca Fu J (ec J e0) Da ?_
  rintro _ ef ⟨o9,kf,eO,rfl,dG,ya,wZ,q19,wY,D'⟩
  refine aS qK J J<|k<|bt dG 1 J aV J J J J J J J ?_
  let EJ:=box aZ #[.bool (cC ss at_ er 119),.string o6,C eO] 43
  intro fh (ff:HI M w fh ([box bK #[.string ss,C o9,C bI,C kf] 66,EJ,J0]++r))
  refine bp<|ak J i0<|k<|nc J J<|aS na J J<|bl ff 0 J aV J J J<|k<|add J J J J aT<|k<|nc J J<|aS na J J<|k<|bt ff 0 J aV J J J J J J J ?_
  let Av:=box bK #[.string ss,C o9,C (bI+1),C kf] 66
  intro iz (ga:HI M w iz ([Av,EJ,J0]++r))
  refine bp<|k<|cz ga 1 J ir J J aw J<|k<|bt ga 2 J ir J J J J J J J ?_
  let yU:=box aX #[.bool (cC ss at_ er 119),.string o6,C eO] 43
  intro jw (iI:HI M w jw ([Av,EJ,yU]++r))
  refine av<|rt<|oY iI 2 J ir J J J J aw ?_
  have iE:=HI.aR (l:=[Av,EJ,yU]) (l':=[Av]) (t:=r) iI [0] aw J J
  have e0:(cC ss at_ er 119:Bool)=(cC ss at_ er 119):=rfl
  have e1:(bI+1:Int)=(bI+1):=rfl
  try rw[←e0]
  try rw[←e1]
  refine⟨o9,kf,(cC ss at_ er 119),o6,eO,?_,?_,(by simp only[zP,IU,IT,q0,q4,q8,uK,ya,b0,b1,b2,BL]),(by have h_:=cm (b:=119) (e:=er) eJ;have lz:=cm (b:=119) (e:=ck er 3) eJ;omega),aq,bq,bq,(by have h_:=cm (b:=119) (e:=er) eJ;have lz:=cm (b:=119) (e:=ck er 3) eJ;omega)⟩
  · first|rfl|simp only[e0,e1]|(simp only[anj])
  · first|exact iE|simpa +zetaDelta only[e0,e1,anj] using iE
 refine aO J J J b0<|aO J J J b0<|aO J J J b0<|k<|gu J J J<|k<|gu J J J<|aO J J J b0<|k<|cJ J J J J b0 J<|av<|oQ J J J<|sk<|cO<|k<|al H0 ir ?_
 intro aZ w1 da (H1:HI M w w1 ([box aZ #[.bool false,.string ⟨#[]⟩,C 0] 43,J0,J1]++r))
 let JD:=box aZ #[.bool false,.string ⟨#[]⟩,C 0] 43
 refine av<|sq<|aB<|ak J i0<|k ?_
 have H2:HI M w w1 ([J1]++([JD,J0]++r)):=HI.aR (l:=[JD,J0,J1]) (l':=[J1,JD,J0]) (t:=r) H1 [2,0,1] aw rfl rfl
 have bP:=qt (bK:=bK) (ss:=ss) (at_:=at_) (bI:=bI) (er:=er) (ch:=119) (w:=w) (w_:=w1) (r:=([JD,J0]++r)) (M:=M) bq lE eM mZ aw aq H2
 refine ca Fy J (ec J<|ec J e0) bP ?_
 rintro _ w2 ⟨rfl,H3⟩
 let Dm:=box bK #[.string ss,C (eK ss at_ er 119),C bI,C er] 66
 refine aS oN J J<|k<|bt H3 1 J ob J J J J J J J ?_
 let vq:=box aZ #[.bool (cC ss at_ er 119),.string ⟨#[]⟩,C 0] 43
 let bZ:=[vq,J0]
 intro w3 (H5:HI M w w3 ((Dm::bZ)++r))
 refine bp<|aS oN J J<|bl H5 1 J ob J J J<|k<|jI J J<|z<|nx<|cd (b:=!(cC ss at_ er 119)) J J (fun b1=>?_)<|fun b1=>?_
 ·
  refine rg<|ak J i0<|k ?_
  have H6:HI M w w3 ([Dm]++([vq,J0]++r)):=HI.aR (l:=(Dm::bZ)) (l':=(Dm::bZ)) (t:=r) H5 [0,1,2] aw rfl rfl
  have cS:=ig (bK:=bK) (ss:=ss) (at_:=(eK ss at_ er 119)) (bI:=bI) (er:=er) (ch:=114) (w:=w) (w_:=w3) (r:=([vq,J0]++r)) (M:=M) bq (by have h_:=cm (b:=119) (e:=er) eJ;have lz:=cm (b:=119) (e:=ck er 3) eJ;unfold aM;omega) eM mZ aw (by have h_:=cm (b:=119) (e:=er) eJ;have lz:=cm (b:=119) (e:=ck er 3) eJ;omega) aq H6
  refine ca pf J (ec J<|ec J e0) cS ?_
  rintro _ w4 ⟨o0,o1,rfl,H7,q0,q1,q2,q3⟩
  let M_:=box bK #[.string ss,C o0,C bI,C o1] 66
  have H8:HI M w w4 ((M_::bZ)++r):=H7
  refine bp<|ak J i0<|k ?_
  have H9:HI M w w4 ([M_]++([vq,J0]++r)):=HI.aR (l:=(M_::bZ)) (l':=(M_::bZ)) (t:=r) H8 [0,1,2] aw rfl rfl
  have fS:=ig (bK:=bK) (ss:=ss) (at_:=o0) (bI:=bI) (er:=o1) (ch:=58) (w:=w) (w_:=w4) (r:=([vq,J0]++r)) (M:=M) bq aT eM aT aw aq aq H9
  refine ca pf J (ec J<|ec J e0) fS ?_
  rintro _ w5 ⟨o2,o3,rfl,dH,q4,q5,q6,q7⟩
  let M9:=box bK #[.string ss,C o2,C bI,C o3] 66
  have db:HI M w w5 ((M9::bZ)++r):=dH
  refine bp<|ak J i0<|k ?_
  have dw:HI M w w5 ([M9]++([vq,J0]++r)):=HI.aR (l:=(M9::bZ)) (l':=(M9::bZ)) (t:=r) db [0,1,2] aw rfl rfl
  have eX:=qv (bK:=bK) (ss:=ss) (at_:=o2) (bI:=bI) (er:=o3) (w:=w) (w_:=w5) (r:=([vq,J0]++r)) (M:=M) bq aT eM aT aq aq dw
  refine ca Fv J (ec J e0) eX ?_
  rintro _ w6 ⟨o4,o5,o6,rfl,dz,q8,q9,uL,xa,Ea⟩
  let M8:=box bK #[.string ss,C o4,C bI,C o5] 66
  refine aS nf J J<|k<|bt dz 1 J oa J J J J J J J ?_
  let xR:=box aZ #[.bool (cC ss at_ er 119),.string o6,C 0] 43
  intro w7 (dW:HI M w w7 ([M8,xR,J0]++r))
  refine bp<|ak J i0<|k ?_
  have dt:HI M w w7 ([M8]++([xR,J0]++r)):=HI.aR (l:=[M8,xR,J0]) (l':=[M8,xR,J0]) (t:=r) dW [0,1,2] aw rfl rfl
  have kI:=ig (bK:=bK) (ss:=ss) (at_:=o4) (bI:=bI) (er:=o5) (ch:=61) (w:=w) (w_:=w7) (r:=([xR,J0]++r)) (M:=M) bq aT eM aT aw aq aq dt
  refine ca pf J (ec J<|ec J e0) kI ?_
  rintro _ w8 ⟨o7,o8,rfl,cR,uK,N9,Cl,Ck⟩
  let JC:=box bK #[.string ss,C o7,C bI,C o8] 66
  have dM:HI M w w8 ([JC,xR,J0]++r):=cR
  refine bp<|ak J i0<|k ?_
  have dI:HI M w w8 ([JC]++([xR,J0]++r)):=HI.aR (l:=[JC,xR,J0]) (l':=[JC,xR,J0]) (t:=r) dM [0,1,2] aw rfl rfl
  have nk:=n3 (bK:=bK) (ss:=ss) (at_:=o7) (bI:=bI) (er:=o8) (w:=w) (w_:=w8) (r:=([xR,J0]++r)) (M:=M) bq aT eM aT aq aq dI
  refine ca Fu J (ec J e0) nk ?_
  rintro _ w9 ⟨o9,kf,eO,rfl,cF,ya,wZ,q19,wY,D'⟩
  refine aS qK J J<|k<|bt cF 1 J aV J J J J J J J ?_
  let EI:=box aZ #[.bool (cC ss at_ er 119),.string o6,C eO] 43
  intro dL (dG:HI M w dL ([box bK #[.string ss,C o9,C bI,C kf] 66,EI,J0]++r))
  refine bp<|ak J i0<|k<|nc J J<|aS na J J<|bl dG 0 J aV J J J<|k<|add J J J J aT<|k<|nc J J<|aS na J J<|k<|bt dG 0 J aV J J J J J J J ?_
  let EH:=box bK #[.string ss,C o9,C (bI+1),C kf] 66
  intro ef (eS:HI M w ef ([EH,EI,J0]++r))
  refine bp<|k<|cz eS 1 J ir J J aw J<|k<|bt eS 2 J ir J J J J J J J ?_
  let UC:=box aX #[.bool (cC ss at_ er 119),.string o6,C eO] 43
  intro fh (ff:HI M w fh ([EH,EI,UC]++r))
  refine av<|rt<|oY ff 2 J ir J J J J aw ?_
  have ga:=HI.aR (l:=[EH,EI,UC]) (l':=[EH]) (t:=r) ff [0] aw J J
  have e0:(cC ss at_ er 119:Bool)=(cC ss at_ er 119):=rfl
  have e1:(bI+1:Int)=(bI+1):=rfl
  try rw[←e0]
  try rw[←e1]
  refine⟨o9,kf,(cC ss at_ er 119),o6,eO,?_,?_,(by simp only[zP,IU,IT,q0,q4,q8,uK,ya,b0,(fX b1),BL]),(by have h_:=cm (b:=119) (e:=er) eJ;have lz:=cm (b:=119) (e:=ck er 3) eJ;omega),aq,bq,bq,(by have h_:=cm (b:=119) (e:=er) eJ;have lz:=cm (b:=119) (e:=ck er 3) eJ;omega)⟩
  · first|rfl|simp only[e0,e1]|(simp only[anj])
  · first|exact ga|simpa +zetaDelta only[e0,e1,anj] using ga
 refine sk<|cO<|ak J i0<|k ?_
 have H6:HI M w w3 ([Dm]++([vq,J0]++r)):=HI.aR (l:=(Dm::bZ)) (l':=(Dm::bZ)) (t:=r) H5 [0,1,2] aw rfl rfl
 have cS:=ig (bK:=bK) (ss:=ss) (at_:=(eK ss at_ er 119)) (bI:=bI) (er:=er) (ch:=58) (w:=w) (w_:=w3) (r:=([vq,J0]++r)) (M:=M) bq (by have h_:=cm (b:=119) (e:=er) eJ;have lz:=cm (b:=119) (e:=ck er 3) eJ;unfold aM;omega) eM mZ aw (by have h_:=cm (b:=119) (e:=er) eJ;have lz:=cm (b:=119) (e:=ck er 3) eJ;omega) aq H6
 refine ca pf J (ec J<|ec J e0) cS ?_
 rintro _ w4 ⟨o0,o1,rfl,H7,q0,q1,q2,q3⟩
 let Hk:=box bK #[.string ss,C o0,C bI,C o1] 66
 have H8:HI M w w4 ((Hk::bZ)++r):=H7
 refine bp<|ak J i0<|k ?_
 have H9:HI M w w4 ([Hk]++([vq,J0]++r)):=HI.aR (l:=(Hk::bZ)) (l':=(Hk::bZ)) (t:=r) H8 [0,1,2] aw rfl rfl
 have fS:=qv (bK:=bK) (ss:=ss) (at_:=o0) (bI:=bI) (er:=o1) (w:=w) (w_:=w4) (r:=([vq,J0]++r)) (M:=M) bq aT eM aT aq aq H9
 refine ca Fv J (ec J e0) fS ?_
 rintro _ w5 ⟨o2,o3,o4,rfl,dH,q4,q5,q6,q7,q8⟩
 let EG:=box bK #[.string ss,C o2,C bI,C o3] 66
 refine aS nf J J<|k<|bt dH 1 J oa J J J J J J J ?_
 let Au:=box aZ #[.bool (cC ss at_ er 119),.string o4,C 0] 43
 intro w6 (dw:HI M w w6 ([EG,Au,J0]++r))
 refine bp<|ak J i0<|k ?_
 have dz:HI M w w6 ([EG]++([Au,J0]++r)):=HI.aR (l:=[EG,Au,J0]) (l':=[EG,Au,J0]) (t:=r) dw [0,1,2] aw rfl rfl
 have eX:=ig (bK:=bK) (ss:=ss) (at_:=o2) (bI:=bI) (er:=o3) (ch:=61) (w:=w) (w_:=w6) (r:=([Au,J0]++r)) (M:=M) bq aT eM aT aw aq aq dz
 refine ca pf J (ec J<|ec J e0) eX ?_
 rintro _ w7 ⟨o5,o6,rfl,cM,q9,uL,xa,Ea⟩
 let Y3:=box bK #[.string ss,C o5,C bI,C o6] 66
 have dW:HI M w w7 ([Y3,Au,J0]++r):=cM
 refine bp<|ak J i0<|k ?_
 have dt:HI M w w7 ([Y3]++([Au,J0]++r)):=HI.aR (l:=[Y3,Au,J0]) (l':=[Y3,Au,J0]) (t:=r) dW [0,1,2] aw rfl rfl
 have kI:=n3 (bK:=bK) (ss:=ss) (at_:=o5) (bI:=bI) (er:=o6) (w:=w) (w_:=w7) (r:=([Au,J0]++r)) (M:=M) bq aT eM aT aq aq dt
 refine ca Fu J (ec J e0) kI ?_
 rintro _ w8 ⟨o7,o8,o9,rfl,cR,uK,N9,Cl,Ck,ya⟩
 refine aS qK J J<|k<|bt cR 1 J aV J J J J J J J ?_
 let Y2:=box aZ #[.bool (cC ss at_ er 119),.string o4,C o9] 43
 intro w9 (dI:HI M w w9 ([box bK #[.string ss,C o7,C bI,C o8] 66,Y2,J0]++r))
 refine bp<|ak J i0<|k<|nc J J<|aS na J J<|bl dI 0 J aV J J J<|k<|add J J J J aT<|k<|nc J J<|aS na J J<|k<|bt dI 0 J aV J J J J J J J ?_
 let Y1:=box bK #[.string ss,C o7,C (bI+1),C o8] 66
 intro dL (cF:HI M w dL ([Y1,Y2,J0]++r))
 refine bp<|k<|cz cF 1 J ir J J aw J<|k<|bt cF 2 J ir J J J J J J J ?_
 let J68:=box aX #[.bool (cC ss at_ er 119),.string o4,C o9] 43
 intro ef (dV:HI M w ef ([Y1,Y2,J68]++r))
 refine av<|rt<|oY dV 2 J ir J J J J aw ?_
 have dG:=HI.aR (l:=[Y1,Y2,J68]) (l':=[Y1]) (t:=r) dV [0] aw J J
 have e0:(cC ss at_ er 119:Bool)=(cC ss at_ er 119):=rfl
 have e1:(bI+1:Int)=(bI+1):=rfl
 try rw[←e0]
 try rw[←e1]
 refine⟨o7,o8,(cC ss at_ er 119),o4,o9,?_,?_,(by simp only[zP,IU,IT,q0,q4,q9,uK,b0,(eY b1),BL]),(by have h_:=cm (b:=119) (e:=er) eJ;have lz:=cm (b:=119) (e:=ck er 3) eJ;omega),aq,bq,bq,(by have h_:=cm (b:=119) (e:=er) eJ;have lz:=cm (b:=119) (e:=ck er 3) eJ;omega)⟩
 · first|rfl|simp only[e0,e1]|(simp only[anj])
 · first|exact dG|simpa +zetaDelta only[e0,e1,anj] using dG
theorem adx:cu aK 46:=⟨_,_,Tryz.func46,rfl,aC⟩
theorem R2 (zf:ss.size≤maxLen) (lE:aM at_) (eM:aM bI) (mZ:aM er) (eJ:0≤at_∧at_≤(ss.size:Int)) (alU:er=0) (aib:0≤bI∧bI≤at_) (Qp:ss.size≤1000000) (H:HI M w w_ ([box bK #[.string ss,C at_,C bI,C er] 66]++r)):Calls aK 22 #[pV bK 0] w_ (cg fun v w'=>∃(kr:Int) (lW:Int) (Sr:Int) (ls:List iP) (a0:OA) (c0:Nat),v=R a0 ls c0∧HI M w w' ([oL w 43 a0 ls c0,box bK #[.string ss,C kr,C Sr,C lW] 66]++r)∧ym ss at_ bI er=(kr,Sr,lW,ls)∧(0≤kr∧at_≤kr∧kr≤(ss.size:Int))∧(0≤lW∧lW≤3)∧(0≤Sr∧Sr≤kr+1)∧(lW=0→at_<kr∧Sr≤kr)):=by
 refine enter 19 Tryz.func22 J J J fun f0 ha=>?_
 have i0:f0 0=pV bK 0:=ha 0 bh
 have Ba:maxLen=9223372036854775807:=rfl
 have ah2:=cm (b:=10) (e:=er) eJ
 refine aB<|au (v:=.slice none 0 0) J J<|av<|sq<|aB<|ak J i0<|k ?_
 let J0:=box bK #[.string ss,C at_,C bI,C er] 66
 have H0:HI M w w_ ([J0]++([]++r)):=HI.aR (l:=[J0]) (l':=[J0]) (t:=r) H [0] aw rfl rfl
 have bP:=qt (bK:=bK) (ss:=ss) (at_:=at_) (bI:=bI) (er:=er) (ch:=10) (w:=w) (w_:=w_) (r:=([]++r)) (M:=M) bq lE eM mZ aw aq H0
 refine ca Fy J (ec J<|ec J e0) bP ?_
 rintro _ w0 ⟨rfl,H1⟩
 let J1:=box bK #[.string ss,C (eK ss at_ er 10),C bI,C er] 66
 have H2:HI M w w0 ([J1]++r):=H1
 refine z<|nx<|cd (b:=cC ss at_ er 10) J J (fun b0=>?_)<|fun b0=>?_
 ·
  refine sq ?_
  have amc:eK ss at_ er 10=at_+1:=by unfold eK;rw[‹cC ss at_ er 10=true›];rfl
  refine rg<|au (v:=.slice none 0 0) J J<|av<|rt<|aL<|r1 J J ?_
  have H3:=H2.rl (Bool×ByteArray×Int) 43
  have e0:(eK ss at_ er 10:Int)=(eK ss at_ er 10):=rfl
  try rw[←e0]
  refine⟨(eK ss at_ er 10),er,bI,([]:List (Bool×ByteArray×Int)),none,0,?_,?_,(by simp only[ym,b0,BL]),aq,aq,aq,aq⟩
  · first|rfl|simp only[e0]|(simp only[anj])
  · first|exact H3|simpa +zetaDelta only[e0,anj] using H3
 refine sk<|cO<|ak J i0<|k ?_
 have H3:HI M w w0 ([J1]++([]++r)):=HI.aR (l:=[J1]) (l':=[J1]) (t:=r) H2 [0] aw rfl rfl
 have cS:=N8 (bK:=bK) (ss:=ss) (at_:=(eK ss at_ er 10)) (bI:=bI) (er:=er) (w:=w) (w_:=w0) (r:=([]++r)) (M:=M) bq aT eM mZ aq aq aq H3
 refine ca adx J (ec J e0) cS ?_
 rintro _ w1 ⟨o0,o1,o2,o3,o4,rfl,H4,q0,q1,q2,q3,q4,q5⟩
 let J2:=box bK #[.string ss,C o0,C (bI+1),C o1] 66
 have H5:HI M w w1 ([J2]++r):=H4
 refine k<|bs (xs:=([(o2,o3,o4)]:List (Bool×ByteArray×Int))) (cells:=#[.bool o2,.string o3,C o4]) (e:=43) H5 J (cj J eh) (fun _=>aC) ⟨[.bool o2,.string o3,C o4],[],J,⟨_,_,J,J,⟨_,_,J,⟨J,(by dsimp only;omega)⟩,⟨J,(show aM (o4) from bq)⟩⟩⟩,J⟩ J aw ?_
 intro g0 w2 bT (H6:HI M w w2 ([own w.heap.size 43 (.slice (some ⟨g0,0,none⟩) 1 1) ([(o2,o3,o4)]:List (Bool×ByteArray×Int)),J2]++r))
 refine au (v:=.slice (some ⟨g0,0,none⟩) 1 1) J J<|av<|sq<|bk<|lp (fun m f w'=>∃(CE:Nat) (p_:Int) (n_:Int) (e_:Int) (iu:List iP) (a0:OA) (c0:Nat),m=CE+1∧f 0=pV bK 0∧f 3=R a0 iu c0∧HI M w w' ([oL w 43 a0 iu c0,box bK #[.string ss,C p_,C n_,C e_] 66]++r)∧(AX ss (ss.size+1) o0 (bI+1) o1 ([(o2,o3,o4)]:List (Bool×ByteArray×Int))=AX ss CE p_ n_ e_ iu)∧(0≤p_∧o0≤p_∧p_≤(ss.size:Int)∧(ss.size:Int)-p_<(CE:Int))∧(0≤e_∧e_≤3)∧(0≤n_∧n_≤p_+1∧(e_=0→n_≤p_∧at_<p_))∧((iu.length:Int)=n_-bI)) _ ⟨(ss.size+1),o0,(bI+1),o1,([(o2,o3,o4)]:List (Bool×ByteArray×Int)),(some ⟨g0,0,none⟩),1,J,i0,J,H6,(by rfl),(by push_cast;omega),bq,aq,(by simp only[iM,gr];omega)⟩ ?_
 rintro _ f0 w3 ⟨CE,p_,n_,e_,iu,a0,c0,rfl,s0,s1,H7,hs,I',he_,CO,aii⟩
 refine sq<|sq ?_
 have ame:=cm (b:=32) (e:=e_) (s:=ss) (a:=p_) ⟨by omega,by omega⟩
 refine rg<|ak J s0<|k ?_
 let J3:=box bK #[.string ss,C p_,C n_,C e_] 66
 let J4:=oL w 43 a0 iu c0
 have H8:HI M w w3 ([J3]++([J4]++r)):=HI.aR (l:=[J4,J3]) (l':=[J3,J4]) (t:=r) H7 [1,0] aw rfl rfl
 have fS:=qt (bK:=bK) (ss:=ss) (at_:=p_) (bI:=n_) (er:=e_) (ch:=32) (w:=w) (w_:=w3) (r:=([J4]++r)) (M:=M) bq aT aT aT aw aq H8
 refine ca Fy J (ec J<|ec J e0) fS ?_
 rintro _ w4 ⟨rfl,H9⟩
 let J5:=box bK #[.string ss,C (eK ss p_ e_ 32),C n_,C e_] 66
 have dH:HI M w w4 ([J5,J4]++r):=H9
 refine z<|nx<|cd (b:=cC ss p_ e_ 32) J J (fun b1=>?_)<|fun b1=>?_
 ·
  refine sk<|nx<|bk ?_
  obtain⟨amh,amg, -⟩:=HA ‹cC ss p_ e_ 32=true›
  have amd:eK ss p_ e_ 32=p_+1:=by unfold eK;rw[‹cC ss p_ e_ 32=true›];rfl
  refine rg<|ak J s1<|ak J s0<|k ?_
  have db:HI M w w4 ([J5]++([J4]++r)):=HI.aR (l:=[J5,J4]) (l':=[J5,J4]) (t:=r) dH [0,1] aw rfl rfl
  have eX:=N8 (bK:=bK) (ss:=ss) (at_:=(eK ss p_ e_ 32)) (bI:=n_) (er:=e_) (w:=w) (w_:=w4) (r:=([J4]++r)) (M:=M) bq aT aT aT aq aq aq db
  refine ca adx J (ec J e0) eX ?_
  rintro _ w5 ⟨o5,o6,o7,o8,o9,rfl,dw,q6,q7,q8,q9,uL,xa⟩
  let J6:=box bK #[.string ss,C o5,C (n_+1),C o6] 66
  have dz:HI M w w5 ([J6,J4]++r):=dw
  refine k<|bs (xs:=([(o7,o8,o9)]:List (Bool×ByteArray×Int))) (cells:=#[.bool o7,.string o8,C o9]) (e:=43) dz J (cj J eh) (fun _=>aC) ⟨[.bool o7,.string o8,C o9],[],J,⟨_,_,J,J,⟨_,_,J,⟨J,(by dsimp only;omega)⟩,⟨J,(show aM (o9) from bq)⟩⟩⟩,J⟩ J aw ?_
  intro g1 w6 da (cM:HI M w w6 ([own w.heap.size 43 (.slice (some ⟨g1,0,none⟩) 1 1) ([(o7,o8,o9)]:List (Bool×ByteArray×Int)),J6,J4]++r))
  let J7:=own w.heap.size 43 (.slice (some ⟨g1,0,none⟩) 1 1) ([(o7,o8,o9)]:List (Bool×ByteArray×Int))
  refine k<|lA cM 2 J J J J J J (gP<|cM.at_ 0 J) nY ir J (by simp only[iM,gr];omega) J ?_
  intro a1 c1 w7 (dW:HI M w w7 ([J7,J6,oL w 43 a1 (iu++([(o7,o8,o9)]:List (Bool×ByteArray×Int))) c1]++r))
  let J8:=oL w 43 a1 (iu++([(o7,o8,o9)]:List (Bool×ByteArray×Int))) c1
  refine au (v:=R a1 (iu++([(o7,o8,o9)]:List (Bool×ByteArray×Int))) c1) J J<|z<|aJ ?_
  have dt:HI M w w7 ([J8,J6]++r):=HI.aR (l:=[J7,J6,J8]) (l':=[J8,J6]) (t:=r) dW [2,1] aw rfl rfl
  refine bB _ ?_ ⟨(CE-1),o5,(n_+1),o6,(iu++([(o7,o8,o9)]:List (Bool×ByteArray×Int))),a1,c1,J,s0,J,dt,(by exact Vt hs aq ‹cC ss p_ e_ 32=true› q6),aq,bq,aq,(by simp only[fA,iM,gr];omega)⟩
  omega
 refine ex<|aW<|bc<|bg<|nx<|sq ?_
 have LU:=Vs hs ‹cC ss p_ e_ 32=false›
 refine rg<|ak J s0<|k ?_
 have db:HI M w w4 ([J5]++([J4]++r)):=HI.aR (l:=[J5,J4]) (l':=[J5,J4]) (t:=r) dH [0,1] aw rfl rfl
 have eX:=ig (bK:=bK) (ss:=ss) (at_:=(eK ss p_ e_ 32)) (bI:=n_) (er:=e_) (ch:=10) (w:=w) (w_:=w4) (r:=([J4]++r)) (M:=M) bq aT aT aT aw aq aq db
 refine ca pf J (ec J<|ec J e0) eX ?_
 rintro _ w5 ⟨o5,o6,rfl,dw,q6,q7,q8,q9⟩
 let J9:=box bK #[.string ss,C o5,C n_,C o6] 66
 have dz:HI M w w5 ([J9,J4]++r):=dw
 refine bp<|ak J s1<|au (v:=R a0 iu c0) J J<|av<|rt<|r1 J J ?_
 have cM:=HI.aR (l:=[J9,J4]) (l':=[J4,J9]) (t:=r) dz [1,0] aw J J
 refine⟨o5,o6,n_,iu,a0,c0,?_,?_,(by simp only[ym,LU,q0,q6,b0,b1,BL]),aq,bq,aq,aq⟩
 · first|rfl|simp only[anj]
 · first|exact cM|simpa +zetaDelta only[anj] using cM
theorem ajj:cu aK 22:=⟨_,_,Tryz.func22,rfl,aC⟩
theorem R3 (hM:eG M w) (zf:ss.size≤maxLen) (Qp:ss.size≤1000000):Calls aK 11 #[.string ss] w (cg fun v w'=>∃(hs_:cD) (kr:Int) (lW:Int) (a0:OA) (c0:Nat),v=.tuple #[R a0 hs_ c0,C kr,C lW]∧Ext w w'∧cA M w' a0 c0 hs_∧kx ss=(hs_,kr,lW)∧(0≤kr∧kr≤(ss.size:Int))∧(0≤lW∧lW≤3)):=by
 refine dm 43 Tryz.func11 J J J hM fun f0 ha H=>?_
 have i0:f0 0=.string ss:=ha 0 bh
 have Ba:maxLen=9223372036854775807:=rfl
 refine aB<|au (v:=.slice none 0 0) J J<|au (v:=C 0) J J<|au (v:=C 0) J J<|bp<|ak J i0<|k<|bd (v:=.agg #[.string ss,C 0,C 0,C 0]) J (cj J eh) (fun _=>aC)<|k<|bx H J J ?_
 intro aX w0 bT (H0:HI M w w0 [box aX #[.string ss,C 0,C 0,C 0] 66])
 refine au (v:=pV aX 0) J J<|bp<|au (v:=.slice none 0 0) J J<|av<|sq<|bk ?_
 have H1:=H0.rl (List<|Bool×ByteArray×Int) 40
 refine lp (fun m f w'=>∃(CE:Nat) (p_:Int) (n_:Int) (e_:Int) (h_:List (List<|Bool×ByteArray×Int)) (a0:OA) (c0:Nat),m=CE+1∧f 0=.string ss∧f 5=pV aX 0∧f 6=R a0 h_ c0∧HI M w w' [oL w 40 a0 h_ c0,box aX #[.string ss,C p_,C n_,C e_] 66]∧(pz ss (ss.size+1) 0 0 0 []=pz ss CE p_ n_ e_ h_)∧(0≤p_∧p_≤(ss.size:Int))∧(0≤e_∧e_≤3)∧(0≤n_∧(e_=0→n_≤p_∧(ss.size:Int)-p_<(CE:Int)∧(h_.length:Int)≤p_))∧((h_.length:Int)≤p_+1)) _ ⟨(ss.size+1),0,0,0,([]:List (List<|Bool×ByteArray×Int)),none,0,J,i0,J,J,H1,(by rfl),aq,aq,(by simp only[gr];omega),(by simp only[gr];omega)⟩ ?_
 rintro _ f0 w1 ⟨CE,p_,n_,e_,h_,a0,c0,rfl,s0,s1,s2,H2,hs,I',he_,CO,aii⟩
 refine sq<|aB<|ak J s1<|k<|nc J J<|aS tn J J<|bl H2 1 J sP J J J<|k<|eql J J J J<|ak (v:=.bool (decide (e_=0))) J J ?_
 rcases bE (decide (e_=0)) with b0|b0
 ·
  have p0:=dT b0
  refine aU J J J b0<|mv J s1<|aU J J J b0<|nc J J<|aU J J J b0<|fa kg J J<|aU J J J b0<|lx H2 1 J aV J J J<|aU J J J b0<|mv J s0<|aU J J J b0<|vR J J mC<|aU J J J b0<|lss J J J J<|k<|aR J J J J b0 J<|z<|nx<|cd (b:=decide (p_<(ss.size:Int))) J J (fun b1=>?_)<|fun b1=>?_
  ·
   have p1:=dT b1
   refine sk<|nx<|bk<|rg<|ak J s2<|ak J s1<|k ?_
   have H3:HI M w w1 ([box aX #[.string ss,C p_,C n_,C e_] 66]++[oL w 40 a0 h_ c0]):=H2.bU [1,0] aw rfl
   have bP:=R2 (bK:=aX) (ss:=ss) (at_:=p_) (bI:=n_) (er:=e_) (w:=w) (w_:=w1) (r:=[oL w 40 a0 h_ c0]) (M:=M) bq aT aT aT aq bq aq (by exact Qp) H3
   refine ca ajj J (ec J e0) bP ?_
   rintro _ w2 ⟨o0,o1,o2,o3,a1,c1,rfl,H4,q0,q1,q2,q3,q4⟩
   let J0:=box aX #[.string ss,C o0,C o2,C o1] 66
   have H5:HI M w w2 [oL w 43 a1 o3 c1,J0,oL w 40 a0 h_ c0]:=H4
   refine k ?_
   have H6:=H5.freeze 0 J
   refine bs (xs:=([o3]:List (List<|Bool×ByteArray×Int))) (cells:=#[R a1 o3 c1]) (e:=40) H6 J (cj J eh) (fun _=>aC) ⟨[R a1 o3 c1],[],J,⟨_,J,RV.list.1 (H6.rv 0 J)⟩,J⟩ J aw ?_
   intro g0 w3 da H7
   refine k<|lA H7 3 J J J J J J (gP<|H7.at_ 0 J) ml mo J (by simp only[iM,gr];omega) J ?_
   intro a2 c2 w4 (H8:HI M w w4 [own w.heap.size 40 (.slice (some ⟨g0,0,none⟩) 1 1) ([o3]:List (List (Bool×ByteArray×Int))),iL a1 o3 c1,J0,oL w 40 a2 (h_++([o3]:List (List (Bool×ByteArray×Int)))) c2])
   refine au (v:=R a2 (h_++([o3]:List (List<|Bool×ByteArray×Int))) c2) J J<|z<|aJ ?_
   have H9:HI M w w4 [oL w 40 a2 (h_++([o3]:List (List (Bool×ByteArray×Int)))) c2,J0]:=H8.bU [3,2] aw rfl
   refine bB _ ?_ ⟨(CE-1),o0,o2,o1,(h_++([o3]:List (List<|Bool×ByteArray×Int))),a2,c2,J,s0,s1,J,H9,(by exact Qe hs aq ‹decide (e_=0)=true› ‹decide (p_<(ss.size:Int))=true› q0),aq,bq,(by simp only[fA,iM,gr];omega),(by simp only[fA,iM,gr];omega)⟩
   omega
  refine ex<|aW<|bc<|bg<|nx<|sq<|sq ?_
  have LU:=Gn hs<|by rw[‹decide (e_=0)=true›,‹decide (p_<(ss.size:Int))=false›];rfl
  refine rg<|ak J s1<|k<|nc J J<|aS tn J J<|bl H2 1 J sP J J J<|k<|neq J J J J<|av<|oQ J J (by rw[show (decide (e_=0))=true from b0]<;>rfl)<|sk<|cO<|ak J s2<|au (v:=R a0 h_ c0) J J<|au (v:=C 0) J J<|au (v:=C 0) J J<|av<|rt<|r3 J J J J ?_
  exact⟨h_,0,0,a0,c0,J,H2.below,(H2.mw 0 J),(by simp only[kx,LU,b0,b1,BL]),aq,aq⟩
 refine aO J J J b0<|aO J J J b0<|aO J J J b0<|aO J J J b0<|aO J J J b0<|aO J J J b0<|aO J J J b0<|k<|cJ J J J J b0 J<|av<|oQ J J J<|ex<|aW<|bc<|bg<|nx<|sq<|sq ?_
 have LU:=Gn hs<|by rw[‹decide (e_=0)=false›];rfl
 refine rg<|ak J s1<|k<|nc J J<|aS tn J J<|bl H2 1 J sP J J J<|k<|neq J J J J<|av<|nS J J (by rw[show (decide (e_=0))=false from b0]<;>rfl)<|sq<|BT J aC<|kq (fun _ _=>mv J s1 e1)<|kq (fun _ _=>nc J J e1)<|kq (fun _ _=>fa kg J J e1)<|kq (fun _ x_=>lx (H2.ext x_) 1 J aV J J J e1)<|kq (fun _ _=>mv J s1 e1)<|kq (fun _ _=>nc J J e1)<|kq (fun _ _=>fa tn J J e1)<|kq (fun _ x_=>lx (H2.ext x_) 1 J sP J J J e1)<|kq (fun _ _=>jG (v:=.slice none 0 0) J J e1)<|kq (fun _ _=>jG (v:=C p_) J J e1)<|kq (fun _ _=>jG (v:=C e_) J J e1)<|zq ?_
 intro w2 da
 have H3:=H2.ext da
 refine nx<|rt<|aL<|r3 J J J J ?_
 exact⟨([]:List (List<|Bool×ByteArray×Int)),p_,e_,none,0,J,H3.below,(ee _ _),(by simp only[kx,LU,b0,BL]),aq,bq⟩
theorem ajp:cu aK 11:=⟨_,_,Tryz.func11,rfl,aC⟩
theorem QM:cu aK 15:=⟨_,_,Tryz.func15,rfl,aC⟩
theorem G8 (hM:eG M w) (hT:fP 0 w) (zf:ss.size≤maxLen) (pe:aM lv) (Qp:ss.size≤1000000) (ah1:(kx ss).2.2=0→(kx ss).1.flatten.length≤64):Calls aK 10 #[.string ss,C lv] w (cg fun v w'=>∃(lc_:Int) (nc_:Int) (R4:List (List bY)) (Ux:List Int) (R5:List (List Int)) (iX:List cL) (fw_:Int) (nw_:Int) (a0:OA) (c0:Nat) (a1:OA) (c1:Nat) (a2:OA) (c2:Nat) (a3:OA) (c3:Nat),v=.agg #[C (uG ss lv),C (zD ss lv),C ((sQ ss lv).1),C ((sQ ss lv).2),C (zC ss lv),.bool (qZ ss lv),C lc_,C nc_,R a0 R4 c0,R a1 Ux c1,R a2 R5 c2,C ((kv ss lv).1),C ((kv ss lv).2.1),C ((kv ss lv).2.2.1),C ((kv ss lv).2.2.2.1),C ((kv ss lv).2.2.2.2),R a3 iX c3,C fw_,C nw_]∧Ext w w'∧cA M w' a0 c0 R4∧cA M w' a1 c1 Ux∧cA M w' a2 c2 R5∧cA M w' a3 c3 iX):=by
 refine dm 26 Tryz.func10 J J J hM fun f0 ha H=>?_
 have i0:f0 0=.string ss:=ha 0 bh
 have i1:f0 1=C lv:=ha 1 bh
 refine aB<|k<|al H kV ?_
 intro aX w0 bT (H0:HI M w w0 [box aX #[C 0,C 0,C 0,C 0,C 0,.bool false,C 0,C 0,.slice none 0 0,.slice none 0 0,.slice none 0 0,C 0,C 0,C 0,C 0,C 0,.slice none 0 0,C 0,C 0] 35])
 refine av<|sq<|aB<|ak J i1<|k ?_
 have bP:=Ez (lv:=lv) (w:=w0) pe
 refine ca adz J (ec J e0) bP ?_
 rintro _ w1 ⟨rfl,da⟩
 have H1:=H0.ext da
 refine k<|jI J J<|z<|nx<|cd (b:=!(decide (0<(((dQ lv).length:Nat):Int)))) J J (fun b0=>?_)<|fun b0=>?_
 ·
  have p0:=dF<|fX b0
  refine sq ?_
  obtain⟨qF,L8,nE,tk,rq,gN⟩:=aeR (s:=ss) (show sl lv=false from fX ‹(!decide (0<(((dQ lv).length:Nat):Int)))=true›)
  refine rg<|k<|bd (v:=.agg #[C 1,C 0,C 0,C 0,C 0,.bool false,C 0,C 0,.slice none 0 0,.slice none 0 0,.slice none 0 0,C 0,C 0,C 0,C 0,C 0,.slice none 0 0,C 0,C 0]) J (cj J eh) (fun _=>aC)<|k<|bt H1 0 J kV J J J J J J J ?_
  intro w2 (H2:HI M w w2 [box aX #[C 1,C 0,C 0,C 0,C 0,.bool false,C 0,C 0,.slice none 0 0,.slice none 0 0,.slice none 0 0,C 0,C 0,C 0,C 0,C 0,.slice none 0 0,C 0,C 0] 35])
  refine av<|rt<|aL<|oY H2 0 J kV J J J J aw ?_
  have e0:(1:Int)=uG ss lv:=by exact qF.symm
  have e1:(0:Int)=zD ss lv:=by exact L8.symm
  have e2:(0:Int)=(sQ ss lv).1:=by rw[nE]
  have e3:(0:Int)=(sQ ss lv).2:=by rw[nE]
  have e4:(0:Int)=zC ss lv:=by exact tk.symm
  have e5:(false:Bool)=qZ ss lv:=by exact rq.symm
  have rI:(0:Int)=(kv ss lv).1:=by rw[gN]
  have sB:(0:Int)=(kv ss lv).2.1:=by rw[gN]
  have rH:(0:Int)=(kv ss lv).2.2.1:=by rw[gN]
  have tv:(0:Int)=(kv ss lv).2.2.2.1:=by rw[gN]
  have tu:(0:Int)=(kv ss lv).2.2.2.2:=by rw[gN]
  have bo:=WM (fun (bW:Int) (dK:Int) (gA:Int) (lH:Int) (wJ:Int) (wI:Bool) (rV:Int) (rU:Int) (rT:Int) (rS:Int) (rR:Int)=>(.agg #[C bW,C dK,C gA,C lH,C wJ,.bool wI,C 0,C 0,.slice none ([]:List (List bY)).length 0,.slice none ([]:List Int).length 0,.slice none ([]:List (List Int)).length 0,C rV,C rU,C rT,C rS,C rR,.slice none ([]:List cL).length 0,C 0,C 0]:Value)) e0 e1 e2 e3 e4 e5 rI sB rH tv tu
  exact⟨0,0,([]:List (List bY)),([]:List Int),([]:List (List Int)),([]:List cL),0,0,none,0,none,0,none,0,none,0,bo,H2.below,(ee _ _),(ee _ _),(ee _ _),(ee _ _)⟩
 have p0:=dT<|eY b0
 refine sk<|cO<|ak J i0<|k ?_
 have cS:=R3 (ss:=ss) H1.mb bq<|by exact Qp
 refine ca ajp J (ec J e0) cS ?_
 rintro _ w2 ⟨o0,o1,o2,a0,c0,rfl,eR,cq,q0,q1,q2⟩
 have H2:=H1.ext eR
 have H3:=dS H2 cq
 refine ak (v:=.tuple #[R a0 o0 c0,C o1,C o2]) J J<|k<|xt J J J<|k<|xt J J J<|k<|xt J J J<|au (v:=R a0 o0 c0) J J<|au (v:=C o1) J J<|au (v:=C o2) J J<|av<|sq<|aB<|ak (v:=C o2) J J<|k<|neq J J J J<|z<|nx<|cd (b:=!decide (o2=0)) J J (fun b1=>?_)<|fun b1=>?_
 ·
  have p1:=dF<|fX b1
  refine sq ?_
  obtain⟨qF,L8,nE,tk,rq,gN⟩:=aa3 (show sl lv=true from eY ‹(!decide (0<(((dQ lv).length:Nat):Int)))=false›) q0 (dF (fX bq))
  refine rg<|ak (v:=C o2) J J<|ak (v:=C o1) J J<|k<|bd (v:=.agg #[C o2,C o1,C 0,C 0,C 0,.bool false,C 0,C 0,.slice none 0 0,.slice none 0 0,.slice none 0 0,C 0,C 0,C 0,C 0,C 0,.slice none 0 0,C 0,C 0]) J (cj J<|cj J eh) (fun _=>aC)<|k<|bt H3 1 J kV J J J J J J J ?_
  intro w3 (H4:HI M w w3 [iL a0 o0 c0,box aX #[C o2,C o1,C 0,C 0,C 0,.bool false,C 0,C 0,.slice none 0 0,.slice none 0 0,.slice none 0 0,C 0,C 0,C 0,C 0,C 0,.slice none 0 0,C 0,C 0] 35])
  refine av<|rt<|aL<|oY H4 1 J kV J J J J aw ?_
  have e0:(o2:Int)=uG ss lv:=by exact qF.symm
  have e1:(o1:Int)=zD ss lv:=by exact L8.symm
  have e2:(0:Int)=(sQ ss lv).1:=by rw[nE]
  have e3:(0:Int)=(sQ ss lv).2:=by rw[nE]
  have e4:(0:Int)=zC ss lv:=by exact tk.symm
  have e5:(false:Bool)=qZ ss lv:=by exact rq.symm
  have rI:(0:Int)=(kv ss lv).1:=by rw[gN]
  have sB:(0:Int)=(kv ss lv).2.1:=by rw[gN]
  have rH:(0:Int)=(kv ss lv).2.2.1:=by rw[gN]
  have tv:(0:Int)=(kv ss lv).2.2.2.1:=by rw[gN]
  have tu:(0:Int)=(kv ss lv).2.2.2.2:=by rw[gN]
  have bo:=WM (fun (bW:Int) (dK:Int) (gA:Int) (lH:Int) (wJ:Int) (wI:Bool) (rV:Int) (rU:Int) (rT:Int) (rS:Int) (rR:Int)=>(.agg #[C bW,C dK,C gA,C lH,C wJ,.bool wI,C 0,C 0,.slice none ([]:List (List bY)).length 0,.slice none ([]:List Int).length 0,.slice none ([]:List (List Int)).length 0,C rV,C rU,C rT,C rS,C rR,.slice none ([]:List cL).length 0,C 0,C 0]:Value)) e0 e1 e2 e3 e4 e5 rI sB rH tv tu
  exact⟨0,0,([]:List (List bY)),([]:List Int),([]:List (List Int)),([]:List cL),0,0,none,0,none,0,none,0,none,0,bo,H4.below,(ee _ _),(ee _ _),(ee _ _),(ee _ _)⟩
 have p1:=dT<|eY b1
 refine sk<|nx<|sq ?_
 have mX:=dT<|eY ‹(!decide (o2=0))=false›
 obtain⟨qF,L8,nE,tk,rq,gN⟩:=PD (show sl lv=true from eY ‹(!decide (0<(((dQ lv).length:Nat):Int)))=false›) q0 mX
 have amI:(o0.flatten).length≤64:=by have h_:=ah1;rw[q0] at h_;exact h_ mX
 refine rg<|ak (v:=R a0 o0 c0) J J<|ak J i1<|k ?_
 have fS:=rP (h:=o0) (lv:=lv) H3.mb (hT.ext H3.below) (H3.rv 0 J) pe aq aq
 refine ca QM J (ec J<|ec J e0) fS ?_
 rintro _ w3 ⟨o3,o4,o5,o6,o7,o8,o9,kf,a1,c1,a2,c2,a3,c3,a4,c4,rfl,fH,dZ,dY,fu,je⟩
 have H4:=H3.ext fH
 have H5:=dS H4 dZ
 have H6:=dS H5 dY
 have H7:=dS H6 fu
 have H8:=dS H7 je
 refine k<|bt H8 5 J kV J J J J J J J ?_
 intro w4 (H9:HI M w w4 [iL a4 o8 c4,iL a3 o7 c3,iL a2 o6 c2,iL a1 o5 c1,iL a0 o0 c0,box aX #[C (lN o0 lv),C 0,C ((ly o0 lv).1),C ((ly o0 lv).2),C (rB o0 lv),.bool (kP o0 lv),C o3,C o4,R a1 o5 c1,R a2 o6 c2,R a3 o7 c3,C ((eW o0 lv).1),C ((eW o0 lv).2.1),C ((eW o0 lv).2.2.1),C ((eW o0 lv).2.2.2.1),C ((eW o0 lv).2.2.2.2),R a4 o8 c4,C o9,C kf] 35])
 refine av<|rt<|oY H9 5 J kV J J J J aw ?_
 have e0:(lN o0 lv:Int)=uG ss lv:=by exact qF.symm
 have e1:(0:Int)=zD ss lv:=by exact L8.symm
 have e2:((ly o0 lv).1:Int)=(sQ ss lv).1:=by rw[nE]
 have e3:((ly o0 lv).2:Int)=(sQ ss lv).2:=by rw[nE]
 have e4:(rB o0 lv:Int)=zC ss lv:=by exact tk.symm
 have e5:(kP o0 lv:Bool)=qZ ss lv:=by exact rq.symm
 have rI:((eW o0 lv).1:Int)=(kv ss lv).1:=by rw[gN]
 have sB:((eW o0 lv).2.1:Int)=(kv ss lv).2.1:=by rw[gN]
 have rH:((eW o0 lv).2.2.1:Int)=(kv ss lv).2.2.1:=by rw[gN]
 have tv:((eW o0 lv).2.2.2.1:Int)=(kv ss lv).2.2.2.1:=by rw[gN]
 have tu:((eW o0 lv).2.2.2.2:Int)=(kv ss lv).2.2.2.2:=by rw[gN]
 have bo:=WM (fun (bW:Int) (dK:Int) (gA:Int) (lH:Int) (wJ:Int) (wI:Bool) (rV:Int) (rU:Int) (rT:Int) (rS:Int) (rR:Int)=>(.agg #[C bW,C dK,C gA,C lH,C wJ,.bool wI,C o3,C o4,.slice a1 o5.length c1,.slice a2 o6.length c2,.slice a3 o7.length c3,C rV,C rU,C rT,C rS,C rR,.slice a4 o8.length c4,C o9,C kf]:Value)) e0 e1 e2 e3 e4 e5 rI sB rH tv tu
 exact⟨o3,o4,o5,o6,o7,o8,o9,kf,a1,c1,a2,c2,a3,c3,a4,c4,bo,H9.below,(H9.fj 3 J),(H9.fj 2 J),(H9.fj 1 J),(H9.fj 0 J)⟩
theorem adB:cu aK 10:=⟨_,_,Tryz.func10,rfl,aC⟩
theorem C3:gO aK 35 0 0:=⟨_,_,Tryz.underlying35,rfl,rfl,aC⟩
theorem Ag:gO aK 35 5 5:=⟨_,_,Tryz.underlying35,rfl,rfl,aC⟩
theorem Mp:gO aK 35 7 11:=⟨_,_,Tryz.underlying35,rfl,rfl,aC⟩
theorem ajl:cu aK 19:=⟨_,_,Tryz.func19,rfl,aC⟩
theorem ajo:cu aK 13:=⟨_,_,Tryz.func13,rfl,aC⟩
theorem sd (hT:fP 0 w):Calls aK 9 #[] w (cg fun v w'=>v=.bool true∧Ext w w'):=by
 refine dm 31 Tryz.func9 J J J py fun f0 ha H=>?_
 refine aB<|au (v:=.bool false) J J<|bp<|au (v:=.string ⟨#[119,58,120,61,49,32,114,58,120,61,50,10,119,58,120,61,50,32,114,58,120,61,49,10]⟩) J J<|bp<|ak (v:=.string ⟨#[119,58,120,61,49,32,114,58,120,61,50,10,119,58,120,61,50,32,114,58,120,61,49,10]⟩) J J<|k ?_
 have bP:=G8 (ss:=⟨#[119,58,120,61,49,32,114,58,120,61,50,10,119,58,120,61,50,32,114,58,120,61,49,10]⟩) (lv:=3) (w:=w) H.mb (hT.ext H.below) aw aT aw<|by exact Uo
 refine ca adB J (ec J<|ec J e0) bP ?_
 rintro _ w0 ⟨o0,o1,o2,o3,o4,o5,o6,o7,a0,c0,a1,c1,a2,c2,a3,c3,rfl,bT,cq,dZ,dY,fu⟩
 have H0:=H.ext bT
 have H1:=dS H0 cq
 have H2:=dS H1 dZ
 have H3:=dS H2 dY
 have H4:=dS H3 fu
 refine ak (v:=.string ⟨#[119,58,120,61,49,32,114,58,120,61,50,10,119,58,120,61,50,32,114,58,120,61,49,10]⟩) J J<|k ?_
 have cS:=G8 (ss:=⟨#[119,58,120,61,49,32,114,58,120,61,50,10,119,58,120,61,50,32,114,58,120,61,49,10]⟩) (lv:=2) H4.mb (hT.ext H4.below) aw aT aw<|by exact Uo
 refine ca adB J (ec J<|ec J e0) cS ?_
 rintro _ w1 ⟨o8,o9,kf,eO,jM,uQ,Cy,Ee,a4,c4,a5,c5,a6,c6,a7,c7,rfl,da,je,jT,jd,lq⟩
 have H5:=H4.ext da
 have H6:=dS H5 je
 have H7:=dS H6 jT
 have H8:=dS H7 jd
 have H9:=dS H8 lq
 refine k<|al H9 kV ?_
 let ba:=[iL a7 uQ c7,iL a6 jM c6,iL a5 eO c5,iL a4 kf c4,iL a3 o5 c3,iL a2 o4 c2,iL a1 o3 c1,iL a0 o2 c0]
 intro aX w2 eR (dH:HI (fun _=>False) w w2 (box aX #[C 0,C 0,C 0,C 0,C 0,.bool false,C 0,C 0,.slice none 0 0,.slice none 0 0,.slice none 0 0,C 0,C 0,C 0,C 0,C 0,.slice none 0 0,C 0,C 0] 35::ba))
 refine k<|al dH kV ?_
 intro aZ w3 fH (db:HI (fun _=>False) w w3 (box aZ #[C 0,C 0,C 0,C 0,C 0,.bool false,C 0,C 0,.slice none 0 0,.slice none 0 0,.slice none 0 0,C 0,C 0,C 0,C 0,C 0,.slice none 0 0,C 0,C 0] 35::box aX #[C 0,C 0,C 0,C 0,C 0,.bool false,C 0,C 0,.slice none 0 0,.slice none 0 0,.slice none 0 0,C 0,C 0,C 0,C 0,C 0,.slice none 0 0,C 0,C 0] 35::ba))
 refine k<|bt db 1 J kV J J J J J J J ?_
 let J0:=box aX #[C (uG ⟨#[119,58,120,61,49,32,114,58,120,61,50,10,119,58,120,61,50,32,114,58,120,61,49,10]⟩ 3),C (zD ⟨#[119,58,120,61,49,32,114,58,120,61,50,10,119,58,120,61,50,32,114,58,120,61,49,10]⟩ 3),C ((sQ ⟨#[119,58,120,61,49,32,114,58,120,61,50,10,119,58,120,61,50,32,114,58,120,61,49,10]⟩ 3).1),C ((sQ ⟨#[119,58,120,61,49,32,114,58,120,61,50,10,119,58,120,61,50,32,114,58,120,61,49,10]⟩ 3).2),C (zC ⟨#[119,58,120,61,49,32,114,58,120,61,50,10,119,58,120,61,50,32,114,58,120,61,49,10]⟩ 3),.bool (qZ ⟨#[119,58,120,61,49,32,114,58,120,61,50,10,119,58,120,61,50,32,114,58,120,61,49,10]⟩ 3),C o0,C o1,R a0 o2 c0,R a1 o3 c1,R a2 o4 c2,C ((kv ⟨#[119,58,120,61,49,32,114,58,120,61,50,10,119,58,120,61,50,32,114,58,120,61,49,10]⟩ 3).1),C ((kv ⟨#[119,58,120,61,49,32,114,58,120,61,50,10,119,58,120,61,50,32,114,58,120,61,49,10]⟩ 3).2.1),C ((kv ⟨#[119,58,120,61,49,32,114,58,120,61,50,10,119,58,120,61,50,32,114,58,120,61,49,10]⟩ 3).2.2.1),C ((kv ⟨#[119,58,120,61,49,32,114,58,120,61,50,10,119,58,120,61,50,32,114,58,120,61,49,10]⟩ 3).2.2.2.1),C ((kv ⟨#[119,58,120,61,49,32,114,58,120,61,50,10,119,58,120,61,50,32,114,58,120,61,49,10]⟩ 3).2.2.2.2),R a3 o5 c3,C o6,C o7] 35
 intro w4 (dw:HI (fun _=>False) w w4 (box aZ #[C 0,C 0,C 0,C 0,C 0,.bool false,C 0,C 0,.slice none 0 0,.slice none 0 0,.slice none 0 0,C 0,C 0,C 0,C 0,C 0,.slice none 0 0,C 0,C 0] 35::J0::ba))
 refine k<|bt dw 0 J kV J J J J J J J ?_
 intro w5 (dz:HI (fun _=>False) w w5 (box aZ #[C (uG ⟨#[119,58,120,61,49,32,114,58,120,61,50,10,119,58,120,61,50,32,114,58,120,61,49,10]⟩ 2),C (zD ⟨#[119,58,120,61,49,32,114,58,120,61,50,10,119,58,120,61,50,32,114,58,120,61,49,10]⟩ 2),C ((sQ ⟨#[119,58,120,61,49,32,114,58,120,61,50,10,119,58,120,61,50,32,114,58,120,61,49,10]⟩ 2).1),C ((sQ ⟨#[119,58,120,61,49,32,114,58,120,61,50,10,119,58,120,61,50,32,114,58,120,61,49,10]⟩ 2).2),C (zC ⟨#[119,58,120,61,49,32,114,58,120,61,50,10,119,58,120,61,50,32,114,58,120,61,49,10]⟩ 2),.bool (qZ ⟨#[119,58,120,61,49,32,114,58,120,61,50,10,119,58,120,61,50,32,114,58,120,61,49,10]⟩ 2),C o8,C o9,R a4 kf c4,R a5 eO c5,R a6 jM c6,C ((kv ⟨#[119,58,120,61,49,32,114,58,120,61,50,10,119,58,120,61,50,32,114,58,120,61,49,10]⟩ 2).1),C ((kv ⟨#[119,58,120,61,49,32,114,58,120,61,50,10,119,58,120,61,50,32,114,58,120,61,49,10]⟩ 2).2.1),C ((kv ⟨#[119,58,120,61,49,32,114,58,120,61,50,10,119,58,120,61,50,32,114,58,120,61,49,10]⟩ 2).2.2.1),C ((kv ⟨#[119,58,120,61,49,32,114,58,120,61,50,10,119,58,120,61,50,32,114,58,120,61,49,10]⟩ 2).2.2.2.1),C ((kv ⟨#[119,58,120,61,49,32,114,58,120,61,50,10,119,58,120,61,50,32,114,58,120,61,49,10]⟩ 2).2.2.2.2),R a7 uQ c7,C Cy,C Ee] 35::J0::ba))
 refine bp<|aS C3 J J<|bl dz 1 J sP J J J<|k<|eql J J J J<|ak (v:=.bool (decide ((uG ⟨#[119,58,120,61,49,32,114,58,120,61,50,10,119,58,120,61,50,32,114,58,120,61,49,10]⟩ 3)=0))) J J<|aU J J J (anq FN.1)<|fa Ag J J<|aU J J J (anq FN.1)<|lx dz 1 J ob J J J<|k<|aR J J J J (anq FN.1) J<|ak (v:=.bool (qZ ⟨#[119,58,120,61,49,32,114,58,120,61,50,10,119,58,120,61,50,32,114,58,120,61,49,10]⟩ 3)) J J<|aU J J J FN.2<|fa C3 J J<|aU J J J FN.2<|lx dz 0 J sP J J J<|aU J J J FN.2<|eql J J J J<|k<|aR J J J J FN.2 J<|ak (v:=.bool (decide ((uG ⟨#[119,58,120,61,49,32,114,58,120,61,50,10,119,58,120,61,50,32,114,58,120,61,49,10]⟩ 2)=0))) J J<|aU J J J (anq zp.1)<|fa Ag J J<|aU J J J (anq zp.1)<|lx dz 0 J ob J J J<|aU J J J (anq zp.1)<|jI J J<|k<|aR J J J J (anq zp.1) J<|ak (v:=.bool (!(qZ ⟨#[119,58,120,61,49,32,114,58,120,61,50,10,119,58,120,61,50,32,114,58,120,61,49,10]⟩ 2))) J J<|aU J J J (by rw[show (qZ ⟨#[119,58,120,61,49,32,114,58,120,61,50,10,119,58,120,61,50,32,114,58,120,61,49,10]⟩ 2)=false from zp.2.1]<;>rfl)<|fa Mp J J<|aU J J J (by rw[show (qZ ⟨#[119,58,120,61,49,32,114,58,120,61,50,10,119,58,120,61,50,32,114,58,120,61,49,10]⟩ 2)=false from zp.2.1]<;>rfl)<|fa xI J J<|aU J J J (by rw[show (qZ ⟨#[119,58,120,61,49,32,114,58,120,61,50,10,119,58,120,61,50,32,114,58,120,61,49,10]⟩ 2)=false from zp.2.1]<;>rfl)<|lx dz 0 J aV J J J<|aU J J J (by rw[show (qZ ⟨#[119,58,120,61,49,32,114,58,120,61,50,10,119,58,120,61,50,32,114,58,120,61,49,10]⟩ 2)=false from zp.2.1]<;>rfl)<|eql J J J J<|k<|aR J J J J (by rw[show (qZ ⟨#[119,58,120,61,49,32,114,58,120,61,50,10,119,58,120,61,50,32,114,58,120,61,49,10]⟩ 2)=false from zp.2.1]<;>rfl) J<|au (v:=.bool (decide (((kv ⟨#[119,58,120,61,49,32,114,58,120,61,50,10,119,58,120,61,50,32,114,58,120,61,49,10]⟩ 2).1)=5))) J J<|av<|rt<|r1 J J ?_
 exact⟨ani Value.bool (by exact(anq zp.2.2)),dz.below⟩
theorem Rx {kO:Int} (hM:eG M w) (lU:cA M w gk gj h) (afp:aM kO) (lP:h.flatten.length≤1048576) (amn:kO≤64):Calls aK 14 #[R gk h gj,C kO] w (cg fun v w'=>∃(a0:OA) (c0:Nat) (a1:OA) (c1:Nat) (a2:OA) (c2:Nat),v=.tuple #[.agg #[.slice a0 (BR h kO).length c0,.slice a1 (yF h kO).length c1,.slice a2 (yG h kO).length c2],.bool (iG h kO&&eO h)]∧Ext w w'∧RV M w' (.slice a0 (BR h kO).length c0) (BR h kO)∧RV M w' (.slice a1 (yF h kO).length c1) (yF h kO)∧RV M w' (.slice a2 (yG h kO).length c2) (yG h kO)):=by
 refine dm 15 Tryz.func14 J J J hM fun f0 ha H=>?_
 have H0:=dS H lU
 have i0:f0 0=R gk h gj:=ha 0 bh
 have i1:f0 1=C kO:=ha 1 bh
 refine aB<|k<|al H0 dN ?_
 intro aX w0 bT (H1:HI M w w0 [box aX #[.slice none 0 0,.slice none 0 0,.slice none 0 0] 47,iL gk h gj])
 refine au (v:=.bool false) J J<|av<|sq<|aB<|ak J i0<|ak J i1<|k ?_
 have bP:=Nr (h:=h) (m:=kO) H1.mb (H1.rv 1 J) afp<|by exact lP
 refine ca ajl J (ec J<|ec J e0) bP ?_
 rintro _ w1 ⟨rfl,da⟩
 have H2:=H1.ext da
 refine k<|jI J J<|z<|nx<|cd (b:=!(iG h kO)) J J (fun b0=>?_)<|fun b0=>?_
 ·
  refine sq ?_
  have zc:=fX ‹(!iG h kO)=true›
  refine rg<|k<|bd (v:=.agg #[.slice none 0 0,.slice none 0 0,.slice none 0 0]) J eh (fun _=>aC)<|k<|bt H2 0 J dN J J J J J J J ?_
  intro w2 (H3:HI M w w2 [box aX #[.slice none 0 0,.slice none 0 0,.slice none 0 0] 47,iL gk h gj])
  refine au (v:=.bool false) J J<|av<|rt<|aL<|im H3 0 J dN J J J J J aw ?_
  have e0:([]:List ByteArray)=BR h kO:=by unfold BR;rw[zc];rfl
  have e1:([]:List aI)=yF h kO:=by unfold yF;rw[zc];rfl
  have e2:([]:List Int)=yG h kO:=by unfold yG;rw[zc];rfl
  have e3:(false:Bool)=(iG h kO&&eO h):=by rw[zc];rfl
  have bo:=T3 (fun (bW:List ByteArray) (dK:List aI) (gA:List Int) (lH:Bool)=>(.tuple #[.agg #[.slice none bW.length 0,.slice none dK.length 0,.slice none gA.length 0],.bool lH]:Value)) e0 e1 e2 e3
  exact⟨none,0,none,0,none,0,bo,H3.below,(ani (fun (x_:List ByteArray)=>RV _ _ (.slice none x_.length 0) x_) e0).mp (ee _ _),(ani (fun (x_:List aI)=>RV _ _ (.slice none x_.length 0) x_) e1).mp (ee _ _),(ani (fun (x_:List Int)=>RV _ _ (.slice none x_.length 0) x_) e2).mp (ee _ _)⟩
 refine sk<|nx<|sq ?_
 have zc:=eY ‹(!iG h kO)=false›
 have L5:=(IF.1 zc).2.1
 refine rg<|ak J i0<|k ?_
 have cS:=U_ (h:=h) H2.mb (H2.rv 1 J) aq
 refine ca ajo J (ec J e0) cS ?_
 rintro _ w2 ⟨a0,c0,a1,c1,a2,c2,rfl,eR,cq,dZ,dY⟩
 have H3:=H2.ext eR
 have H4:=dS H3 cq
 have H5:=dS H4 dZ
 have H6:=dS H5 dY
 refine k<|xt J J J<|k<|xt J J J<|k<|bt H6 3 J dN J J J J J J J ?_
 intro w3 (H7:HI M w w3 [iL a2 (lL h) c2,iL a1 (lK h) c1,iL a0 (sZ h) c0,box aX #[R a0 (sZ h) c0,R a1 (lK h) c1,R a2 (lL h) c2] 47,iL gk h gj])
 refine au (v:=.bool (eO h)) J J<|av<|rt<|im H7 3 J dN J J J J J aw ?_
 have e0:(sZ h:List ByteArray)=BR h kO:=by unfold BR;rw[zc];rfl
 have e1:(lK h:List aI)=yF h kO:=by unfold yF;rw[zc];rfl
 have e2:(lL h:List Int)=yG h kO:=by unfold yG;rw[zc];rfl
 have e3:(eO h:Bool)=(iG h kO&&eO h):=by rw[zc];rfl
 have bo:=T3 (fun (bW:List ByteArray) (dK:List aI) (gA:List Int) (lH:Bool)=>(.tuple #[.agg #[.slice a0 bW.length c0,.slice a1 dK.length c1,.slice a2 gA.length c2],.bool lH]:Value)) e0 e1 e2 e3
 exact⟨a0,c0,a1,c1,a2,c2,bo,H7.below,(ani (fun (x_:List ByteArray)=>RV _ _ (.slice a0 x_.length c0) x_) e0).mp (H7.fj 2 J),(ani (fun (x_:List aI)=>RV _ _ (.slice a1 x_.length c1) x_) e1).mp (H7.fj 1 J),(ani (fun (x_:List Int)=>RV _ _ (.slice a2 x_.length c2) x_) e2).mp (H7.fj 0 J)⟩
theorem ajn:cu aK 14:=⟨_,_,Tryz.func14,rfl,aC⟩
theorem OT:cu aK 9:=⟨_,_,Tryz.func9,rfl,aC⟩
theorem un4:aK.underlying 4=some (.bool):=aC
theorem ajm:cu aK 17:=⟨_,_,Tryz.func17,rfl,aC⟩
theorem HN {cx:Int} {ns:Int} (hM:eG M w) (hT:fP 0 w) (lU:cA M w gk gj h) (Yl:0≤cx∧cx≤255) (Yi:0≤ns∧ns≤255) (lP:h.flatten.length≤1048576) (amA:h.length≤1048576):Calls aK 6 #[R gk h gj,.int .u8 cx,.int .u8 ns] w (cg fun v w'=>v=.bool true∧Ext w w'):=by
 refine dm 121 Tryz.func6 J J J hM fun f0 ha H=>?_
 let J0:=iL gk h gj
 have H0:=H.put (it:=J0) J<|by rw[bN];exact lU
 have HM:=bf lU
 have i0:f0 0=R gk h gj:=ha 0 bh
 have i1:f0 1=.int .u8 cx:=ha 1 bh
 have i2:f0 2=.int .u8 ns:=ha 2 bh
 refine aB<|au (v:=.bool false) J J<|bp<|ak J i0<|k ?_
 have bP:=Rx (h:=h) (kO:=12) H0.mb (H0.rv 0 J) aT (by exact lP) aw
 refine ca ajn J (ec J<|ec J e0) bP ?_
 rintro _ w0 ⟨a0,c0,a1,c1,a2,c2,rfl,bT,cq,dZ,dY⟩
 have H1:=H0.ext bT
 let J1:=iL a0 (BR h 12) c0
 have H2:=H1.put (it:=J1) J cq
 let J2:=iL a1 (yF h 12) c1
 have H3:=H2.put (it:=J2) J<|by rw[aG J];exact dZ
 let J3:=iL a2 (yG h 12) c2
 have H4:=H3.put (it:=J3) J<|by rw[aG rfl,aG rfl];exact dY
 refine ak (v:=.tuple #[.agg #[R a0 (BR h 12) c0,R a1 (yF h 12) c1,R a2 (yG h 12) c2],.bool (iG h 12&&eO h)]) J J<|k<|xt J J J<|k<|xt J J J<|k<|al H4 dN ?_
 let ba:=[J3,J2,J1,J0]
 intro aX w1 da (H5:HI M w w1 (box aX #[.slice none 0 0,.slice none 0 0,.slice none 0 0] 47::ba))
 refine k<|bt H5 0 J dN J J J J J J J ?_
 let J4:=box aX #[R a0 (BR h 12) c0,R a1 (yF h 12) c1,R a2 (yG h 12) c2] 47
 let bZ:=J4::ba
 intro w2 (H6:HI M w w2 bZ)
 refine au (v:=.bool (iG h 12&&eO h)) J J<|av<|sq<|aB<|ak (v:=.bool (iG h 12&&eO h)) J J<|k<|jI J J<|ak (v:=.bool (!(iG h 12&&eO h))) J J ?_
 rcases bE (!(iG h 12&&eO h)) with b0|b0
 ·
  refine aO J J J b0<|aO J J J b0<|aO J J J b0<|k<|aR J J J J b0 J<|av<|nS J J J<|aB<|k ?_
  have cS:=sd (w:=w2)<|hT.ext H6.below
  refine ca OT J e0 cS ?_
  rintro _ w3 ⟨rfl,eR⟩
  have H7:=H6.ext eR
  refine au (v:=.bool true) J J<|av<|rt<|aL<|r1 J J ?_
  exact⟨J,H7.below⟩
 refine aU J J J b0<|mv J i0<|aU J J J b0<|dP J J ml<|aU J J J b0<|eql J J J J<|k<|cJ J J J J b0 J<|z<|nx<|cd (b:=decide ((h.length:Int)=0)) J J (fun b1=>?_)<|fun b1=>?_
 ·
  refine aB<|k ?_
  have cS:=sd (w:=w2)<|hT.ext H6.below
  refine ca OT J e0 cS ?_
  rintro _ w3 ⟨rfl,eR⟩
  have H7:=H6.ext eR
  refine au (v:=.bool true) J J<|av<|rt<|aL<|r1 J J ?_
  exact⟨J,H7.below⟩
 have p1:=dF b1
 refine sk<|nx<|sq ?_
 obtain⟨O6,O5,nP,L5⟩:=af2 (eY ‹(!(iG h 12&&eO h))=false›)
 have amq:=ap' ns (b:=(h.length:Int)) aq
 have amp:=Int.emod_lt_of_pos ns (b:=(h.length:Int)) aq
 refine rg<|ak J i1<|k<|rem J J J J aq<|k<|YN J J aT IA zB<|k<|add J J J J aT<|au (v:=C (1+(cx%3))) J J<|bp<|ak J i0<|ak (v:=C (1+(cx%3))) J J<|k ?_
 have cS:=rP (h:=h) (lv:=(1+(cx%3))) H6.mb (hT.ext H6.below) (H6.rv 4 J) aT (by exact lP) aq
 refine ca QM J (ec J<|ec J e0) cS ?_
 rintro _ w3 ⟨o0,o1,o2,o3,o4,o5,o6,o7,a3,c3,a4,c4,a5,c5,a6,c6,rfl,eR,fu,je,jT,jd⟩
 have H7:=H6.ext eR
 let J5:=iL a3 o2 c3
 have H8:=H7.put (it:=J5) J fu
 let J6:=iL a4 o3 c4
 have H9:=H8.put (it:=J6) J<|by rw[aG J];exact je
 let J7:=iL a5 o4 c5
 have dH:=H9.put (it:=J7) J<|by rw[aG rfl,aG rfl];exact jT
 let J8:=iL a6 o5 c6
 have db:=dH.put (it:=J8) J<|by rw[aG rfl,aG rfl,aG rfl];exact jd
 refine k<|al db kV ?_
 let dE:=J8::J7::J6::J5::bZ
 intro aZ w4 fH (dw:HI M w w4 (box aZ #[C 0,C 0,C 0,C 0,C 0,.bool false,C 0,C 0,.slice none 0 0,.slice none 0 0,.slice none 0 0,C 0,C 0,C 0,C 0,C 0,.slice none 0 0,C 0,C 0] 35::dE))
 refine k<|bt dw 0 J kV J J J J J J J ?_
 let J9:=box aZ #[C (lN h (1+(cx%3))),C 0,C ((ly h (1+(cx%3))).1),C ((ly h (1+(cx%3))).2),C (rB h (1+(cx%3))),.bool (kP h (1+(cx%3))),C o0,C o1,R a3 o2 c3,R a4 o3 c4,R a5 o4 c5,C ((eW h (1+(cx%3))).1),C ((eW h (1+(cx%3))).2.1),C ((eW h (1+(cx%3))).2.2.1),C ((eW h (1+(cx%3))).2.2.2.1),C ((eW h (1+(cx%3))).2.2.2.2),R a6 o5 c6,C o6,C o7] 35
 intro w5 (dz:HI M w w5 (J9::dE))
 refine bp<|k<|bs (xs:=([]:List (List<|Bool×ByteArray×Int))) (cells:=#[]) (e:=40) dz J eh (fun _=>aC) J J aw ?_
 intro g0 w6 ja cM
 refine ak J i0<|k<|lA cM 0 J J J J J J (cM.rv 10 J).src ml mo J (by simp;omega) J ?_
 intro a7 c7 w7 (dW:HI M w w7 (oL w 40 a7 h c7::J9::dE))
 refine k<|bs (xs:=([[]]:List (List<|Bool×ByteArray×Int))) (cells:=#[.slice none 0 0]) (e:=40) dW J (cj J eh) (fun _=>aC) ⟨[.slice none 0 0],[],J,⟨_,J,Cc _ _⟩,J⟩ J aw ?_
 intro g1 w8 ji dt
 refine k<|lA dt 1 J J J J J J (gP<|dt.at_ 0 J) ml mo J (by simp;omega) J ?_
 let dO:=own w.heap.size 40 (.slice (some ⟨g1,0,none⟩) 1 1) ([[]]:List (List (Bool×ByteArray×Int)))
 intro a8 c8 w9 (cR:HI M w w9 (dO::oL w 40 a8 (h++([[]]:List (List (Bool×ByteArray×Int)))) c8::J9::dE))
 refine ak (v:=C (1+(cx%3))) J J<|k ?_
 have dM:=cR.freeze 1 J
 have fS:=rP (h:=(h++([[]]:List (List<|Bool×ByteArray×Int)))) (lv:=(1+(cx%3))) dM.mb (hT.ext dM.below) (dM.rv 1 J) aT (by exact Mv lP)<|by exact Mv aq
 refine ca QM J (ec J<|ec J e0) fS ?_
 rintro _ dL ⟨o8,o9,kf,eO,jM,uQ,Cy,Ee,a9,c9,i',iZ,l3,lX,a12,nT,rfl,kb,lq,oC,pw,rk⟩
 have dI:=dM.ext kb
 let eC:=iL a9 kf c9
 have cF:=dI.put (it:=eC) J lq
 let fQ:=iL i' eO iZ
 have dV:=cF.put (it:=fQ) J<|by rw[aG J];exact oC
 let fz:=iL l3 jM lX
 have dG:=dV.put (it:=fz) J<|by rw[aG rfl,aG rfl];exact pw
 let il:=iL a12 uQ nT
 have eS:=dG.put (it:=il) J<|by rw[aG rfl,aG rfl,aG rfl];exact rk
 refine k<|al eS kV ?_
 let nX:=iL a8 (h++([[]]:List (List (Bool×ByteArray×Int)))) c8
 let iO:=il::fz::fQ::eC::dO::nX::J9::dE
 intro bD ef ma (ff:HI M w ef (box bD #[C 0,C 0,C 0,C 0,C 0,.bool false,C 0,C 0,.slice none 0 0,.slice none 0 0,.slice none 0 0,C 0,C 0,C 0,C 0,C 0,.slice none 0 0,C 0,C 0] 35::iO))
 refine k<|bt ff 0 J kV J J J J J J J ?_
 let lB:=box bD #[C (lN (h++([[]]:List (List (Bool×ByteArray×Int)))) (1+(cx%3))),C 0,C ((ly (h++([[]]:List (List (Bool×ByteArray×Int)))) (1+(cx%3))).1),C ((ly (h++([[]]:List (List (Bool×ByteArray×Int)))) (1+(cx%3))).2),C (rB (h++([[]]:List (List (Bool×ByteArray×Int)))) (1+(cx%3))),.bool (kP (h++([[]]:List (List (Bool×ByteArray×Int)))) (1+(cx%3))),C o8,C o9,R a9 kf c9,R i' eO iZ,R l3 jM lX,C ((eW (h++([[]]:List (List (Bool×ByteArray×Int)))) (1+(cx%3))).1),C ((eW (h++([[]]:List (List (Bool×ByteArray×Int)))) (1+(cx%3))).2.1),C ((eW (h++([[]]:List (List (Bool×ByteArray×Int)))) (1+(cx%3))).2.2.1),C ((eW (h++([[]]:List (List (Bool×ByteArray×Int)))) (1+(cx%3))).2.2.2.1),C ((eW (h++([[]]:List (List (Bool×ByteArray×Int)))) (1+(cx%3))).2.2.2.2),R a12 uQ nT,C Cy,C Ee] 35
 intro fh (ga:HI M w fh (lB::iO))
 refine av<|sq<|aB<|aS C3 J J<|bl ga 7 J sP J J J<|k<|neq J J J J<|ak (v:=.bool (!decide ((lN h<|1+(cx%3))=0))) J J<|aU J J J (Q1 nP<|show ((1+(cx%3))=1∨(1+(cx%3))=2∨(1+(cx%3))=3) by omega)<|fa C3 J J<|aU J J J (Q1 nP<|show ((1+(cx%3))=1∨(1+(cx%3))=2∨(1+(cx%3))=3) by omega)<|lx ga 0 J sP J J J<|aU J J J (Q1 nP<|show ((1+(cx%3))=1∨(1+(cx%3))=2∨(1+(cx%3))=3) by omega)<|neq J J J J<|k<|cJ J J J J (Q1 nP<|show ((1+(cx%3))=1∨(1+(cx%3))=2∨(1+(cx%3))=3) by omega) J<|ak (v:=.bool (!decide ((lN (h++([[]]:List (List<|Bool×ByteArray×Int)))<|1+(cx%3))=0))) J J<|aU J J J (DV nP<|show ((1+(cx%3))=1∨(1+(cx%3))=2∨(1+(cx%3))=3) by omega)<|fa Ag J J<|aU J J J (DV nP<|show ((1+(cx%3))=1∨(1+(cx%3))=2∨(1+(cx%3))=3) by omega)<|lx ga 0 J ob J J J<|aU J J J (DV nP<|show ((1+(cx%3))=1∨(1+(cx%3))=2∨(1+(cx%3))=3) by omega)<|fa Ag J J<|aU J J J (DV nP<|show ((1+(cx%3))=1∨(1+(cx%3))=2∨(1+(cx%3))=3) by omega)<|lx ga 7 J ob J J J<|aU J J J (DV nP<|show ((1+(cx%3))=1∨(1+(cx%3))=2∨(1+(cx%3))=3) by omega)<|neB J J J J un4<|k<|cJ J J J J (DV nP<|show ((1+(cx%3))=1∨(1+(cx%3))=2∨(1+(cx%3))=3) by omega) J<|ak (v:=.bool (!((kP (h++([[]]:List (List<|Bool×ByteArray×Int)))<|1+(cx%3))==(kP h<|1+(cx%3))))) J J<|aU J J J (Bj nP<|show ((1+(cx%3))=1∨(1+(cx%3))=2∨(1+(cx%3))=3) by omega)<|fa Mp J J<|aU J J J (Bj nP<|show ((1+(cx%3))=1∨(1+(cx%3))=2∨(1+(cx%3))=3) by omega)<|cz ga 7 J bR J J aw J<|aU J J J (Bj nP<|show ((1+(cx%3))=1∨(1+(cx%3))=2∨(1+(cx%3))=3) by omega)<|fa Mp J J<|aU J J J (Bj nP<|show ((1+(cx%3))=1∨(1+(cx%3))=2∨(1+(cx%3))=3) by omega)<|cz ga 0 J bR J J aw J<|aU J J J (Bj nP<|show ((1+(cx%3))=1∨(1+(cx%3))=2∨(1+(cx%3))=3) by omega) ?_
 have eX:=P1 (Ix:=((eW h<|1+(cx%3)).1)) (Iw:=((eW h<|1+(cx%3)).2.1)) (Iz:=((eW h<|1+(cx%3)).2.2.1)) (Iy:=((eW h<|1+(cx%3)).2.2.2.1)) (Kx:=((eW h<|1+(cx%3)).2.2.2.2)) (Rl:=o6) (Rk:=o7) (Kt:=((eW (h++([[]]:List (List<|Bool×ByteArray×Int)))<|1+(cx%3)).1)) (Kr:=((eW (h++([[]]:List (List<|Bool×ByteArray×Int)))<|1+(cx%3)).2.1)) (Kv:=((eW (h++([[]]:List (List<|Bool×ByteArray×Int)))<|1+(cx%3)).2.2.1)) (Ku:=((eW (h++([[]]:List (List<|Bool×ByteArray×Int)))<|1+(cx%3)).2.2.2.1)) (NQ:=((eW (h++([[]]:List (List<|Bool×ByteArray×Int)))<|1+(cx%3)).2.2.2.2)) (Xk:=Cy) (Xj:=Ee) (He:=a6) (Ge:=o5.length) (G9:=c6) (Ko:=a12) (JU:=uQ.length) (Kj:=nT) (w:=fh)
 refine ca ajm J (ec J<|ec J e0) eX ?_
 rintro _ iz ⟨rfl,nr⟩
 have iI:=ga.ext nr
 refine aU J J J (Bj nP<|show ((1+(cx%3))=1∨(1+(cx%3))=2∨(1+(cx%3))=3) by omega)<|jI J J<|k<|cJ J J J J (Bj nP<|show ((1+(cx%3))=1∨(1+(cx%3))=2∨(1+(cx%3))=3) by omega) J<|av<|oQ J J (WG (HZ nP<|show ((1+(cx%3))=1∨(1+(cx%3))=2∨(1+(cx%3))=3) by omega).2.2)<|sk<|cO<|ak J i2<|k<|YN J J aT IA zB<|ak J i0<|k<|dP J J ml<|k<|rem J J J J aq<|au (v:=C (ns%(h.length:Int))) J J<|bp<|ak J i0<|ak (v:=C (ns%(h.length:Int))) J J<|k<|ia (iI.rv 16 J) J J J J aq ml mo ?_
 intro iC x0 aP ct
 refine k<|te ct.w mo J J ?_
 intro jP jO nZ
 have zV:=bf nZ
 have iE:=dS iI nZ
 refine k<|dP J J nY<|au (v:=C (x0.length:Int)) J J<|av<|sq<|aB<|aS Ag J J<|bl iE 8 J ob J J J<|k<|jI J J<|ak (v:=.bool (!(kP h<|1+(cx%3)))) J J ?_
 rcases bE (!(kP h (1+(cx%3)))) with b2|b2
 ·
  refine aO J J J b2<|aO J J J b2<|k<|aR J J J J b2 J<|ak (v:=.bool true) J J<|aO J J J J<|aO J J J J<|aO J J J J<|aO J J J J<|aO J J J J<|aO J J J J<|aO J J J J<|aO J J J J<|aO J J J J<|k<|aR J J J J J J<|av<|nS J J J<|aB<|k ?_
  have kI:=sd (w:=iz)<|hT.ext iE.below
  refine ca OT J e0 kI ?_
  rintro _ jw ⟨rfl,tD⟩
  have kU:=iE.ext tD
  refine au (v:=.bool true) J J<|av<|rt<|aL<|r1 J J ?_
  exact⟨J,kU.below⟩
 refine aU J J J b2<|mv (v:=C (x0.length:Int)) J J<|aU J J J b2<|eql J J J J<|k<|cJ J J J J b2 J<|ak (v:=.bool (decide ((x0.length:Int)=0))) J J ?_
 rcases bE (decide ((x0.length:Int)=0)) with b3|b3
 ·
  refine aO J J J b3<|aO J J J b3<|aO J J J b3<|aO J J J b3<|aO J J J b3<|aO J J J b3<|aO J J J b3<|aO J J J b3<|aO J J J b3<|k<|aR J J J J b3 J<|av<|nS J J J<|aB<|k ?_
  have kI:=sd (w:=iz)<|hT.ext iE.below
  refine ca OT J e0 kI ?_
  rintro _ jw ⟨rfl,tD⟩
  have kU:=iE.ext tD
  refine au (v:=.bool true) J J<|av<|rt<|aL<|r1 J J ?_
  exact⟨J,kU.below⟩
 have p3:=dF b3
 refine aU J J J b3<|mv J i0<|aU J J J b3<|mv (v:=C (ns%(h.length:Int))) J J<|aU J J J b3<|ia (iE.rv 17 J) J J J J aq ml mo ?_
 intro rh x1 cP gL
 refine aU J J J b3<|te gL.w mo J J ?_
 intro la k0 mR
 have ln1:=bf mR
 have kU:=dS iE mR
 refine aU J J J b3<|mv (v:=C (x0.length:Int)) J J<|aU J J J b3<|sub J J J J aT<|aU J J J b3<|ia (kU.rv 0 J) J J J J (by have h_:=ani List.length (anm<|aP.symm.trans cP);omega) nY ir ?_
 intro pK x2 iA kR
 refine aU J J J b3<|fa oN J J<|aU J J J b3<|ldB (kR).fst.w ob J J<|k<|cJ J J J J b3 J<|z<|nx<|cd (b:=x2.1) J J (fun b4=>?_)<|fun b4=>?_
 ·
  refine aB<|k ?_
  have kI:=sd (w:=iz)<|hT.ext kU.below
  refine ca OT J e0 kI ?_
  rintro _ jw ⟨rfl,tD⟩
  have iD:=kU.ext tD
  refine au (v:=.bool true) J J<|av<|rt<|aL<|r1 J J ?_
  exact⟨J,iD.below⟩
 refine sk<|cO<|k<|bs (xs:=([]:List (List<|Bool×ByteArray×Int))) (cells:=#[]) (e:=40) kU J eh (fun _=>aC) J J aw ?_
 intro g2 jw tD iD
 refine ak J i0<|k<|lA iD 0 J J J J J J (iD.rv 19 J).src ml mo J (by simp;omega) J ?_
 let fk:=iL la x1 k0::iL jP x0 jO::lB::iO
 intro tz tw pZ (ri:HI M w pZ (oL w 40 tz h tw::fk))
 refine au (v:=R tz h tw) J J<|bp<|ak (v:=R tz h tw) J J<|ak (v:=C (ns%(h.length:Int))) J J<|ak J i0<|ak (v:=C (ns%(h.length:Int))) J J<|k<|ia (ri.rv 19 J) J J J J aq ml mo ?_
 intro vn x3 mW u5
 refine k<|te u5.w mo J J ?_
 intro As Ao pT
 have ln2:=bf pT
 have kT:=dS ri pT
 refine ak (v:=C (x0.length:Int)) J J<|k<|sub J J J J aT<|k<|K1 (kT.rv 0 J) J J J J (by have h_:=ani List.length (anm<|aP.symm.trans mW);omega) nY ir ?_
 intro a17 c17 qp
 let qQ:=iL a17 (x3.take ((x0.length:Int)-1).toNat) c17
 have oq:=kT.put (it:=qQ) J qp
 refine k<|ij (oq.at_ 2 J) J J J J aq ml mo ?_
 intro g3 x4 iq yr xD
 refine k<|pt oq 2 J iq J aq mo J J J J (oq.rv 0 J) ?_
 intro uF (j7:HI M w uF (qQ::iL As x3 Ao::own w.heap.size 40 (.slice tz h.length tw) (h.set ((ns%(h.length:Int)).toNat) (x3.take ((x0.length:Int)-1).toNat))::fk))
 refine bp<|ak (v:=R tz h tw) J J<|ak (v:=C (1+(cx%3))) J J<|k ?_
 have Jq:(h.length:Nat)=(h.set ((ns%(h.length:Int)).toNat) (x3.take ((x0.length:Int)-1).toNat)).length:=E9 (j7.at_ 2 rfl)
 let kJ:=[iL la x1 k0,iL jP x0 jO,box bD #[C (lN (h++([[]]:List (List (Bool×ByteArray×Int)))) (1+(cx%3))),C 0,C ((ly (h++([[]]:List (List (Bool×ByteArray×Int)))) (1+(cx%3))).1),C ((ly (h++([[]]:List (List (Bool×ByteArray×Int)))) (1+(cx%3))).2),C (rB (h++([[]]:List (List (Bool×ByteArray×Int)))) (1+(cx%3))),.bool (kP (h++([[]]:List (List (Bool×ByteArray×Int)))) (1+(cx%3))),C o8,C o9,R a9 kf c9,R i' eO iZ,R l3 jM lX,C ((eW (h++([[]]:List (List (Bool×ByteArray×Int)))) (1+(cx%3))).1),C ((eW (h++([[]]:List (List (Bool×ByteArray×Int)))) (1+(cx%3))).2.1),C ((eW (h++([[]]:List (List (Bool×ByteArray×Int)))) (1+(cx%3))).2.2.1),C ((eW (h++([[]]:List (List (Bool×ByteArray×Int)))) (1+(cx%3))).2.2.2.1),C ((eW (h++([[]]:List (List (Bool×ByteArray×Int)))) (1+(cx%3))).2.2.2.2),R a12 uQ nT,C Cy,C Ee] 35,iL a12 uQ nT,iL l3 jM lX,iL i' eO iZ,iL a9 kf c9,own w.heap.size 40 (.slice (some ⟨g1,0,none⟩) 1 1) ([[]]:List (List (Bool×ByteArray×Int))),iL a8 (h++([[]]:List (List (Bool×ByteArray×Int)))) c8,box aZ #[C (lN h (1+(cx%3))),C 0,C ((ly h (1+(cx%3))).1),C ((ly h (1+(cx%3))).2),C (rB h (1+(cx%3))),.bool (kP h (1+(cx%3))),C o0,C o1,R a3 o2 c3,R a4 o3 c4,R a5 o4 c5,C ((eW h (1+(cx%3))).1),C ((eW h (1+(cx%3))).2.1),C ((eW h (1+(cx%3))).2.2.1),C ((eW h (1+(cx%3))).2.2.2.1),C ((eW h (1+(cx%3))).2.2.2.2),R a6 o5 c6,C o6,C o7] 35,iL a6 o5 c6,iL a5 o4 c5,iL a4 o3 c4,iL a3 o2 c3,box aX #[R a0 (BR h 12) c0,R a1 (yF h 12) c1,R a2 (yG h 12) c2] 47,iL a2 (yG h 12) c2,iL a1 (yF h 12) c1,iL a0 (BR h 12) c0,iL gk h gj]
 have qR:HI M w uF (iL a17 (x3.take ((x0.length:Int)-1).toNat) c17::iL As x3 Ao::oL w 40 tz (h.set ((ns%(h.length:Int)).toNat) (x3.take ((x0.length:Int)-1).toNat)) tw::kJ):=(by have h_:HI M w uF (iL a17 (x3.take ((x0.length:Int)-1).toNat) c17::iL As x3 Ao::own w.heap.size 40 (.slice tz h.length tw) (h.set ((ns%(h.length:Int)).toNat) (x3.take ((x0.length:Int)-1).toNat))::kJ):=j7;rw[show (.slice tz h.length tw:Value)=.slice tz (h.set ((ns%(h.length:Int)).toNat) (x3.take ((x0.length:Int)-1).toNat)).length tw from ani (fun n_=>Value.slice tz n_ tw) Jq] at h_;exact h_)
 have kl:=qR.freeze 2 J
 have kI:=rP (h:=(h.set ((ns%(h.length:Int)).toNat) (x3.take ((x0.length:Int)-1).toNat))) (lv:=(1+(cx%3))) kl.mb (hT.ext kl.below) (kl.rv 2 J) aT (by exact Nat.le_trans (O9 mW) lP)<|by have h_:=O9 (k:=((x0.length:Int)-1).toNat) mW;omega
 refine ca QM J (ec (Eq.trans (b:=(.slice tz h.length tw:Value)) rfl (ani (fun n_=>Value.slice tz n_ tw) Jq))<|ec J e0) kI ?_
 rintro _ sM ⟨o16,Cx,Su,IX,St,o21,Ss,Oq,YX,YR,Uy,T',a20,c20,a21,c21,rfl,Az,oD,wW,AO,HD⟩
 have Ax:=kl.ext Az
 have j6:=dS Ax oD
 have vy:=dS j6 wW
 have mi:=dS vy AO
 have wb:=dS mi HD
 refine k<|al wb kV ?_
 let jv:=iL tz (h.set ((ns%(h.length:Int)).toNat) (x3.take ((x0.length:Int)-1).toNat)) tw
 let rJ:=iL a21 o21 c21::iL a20 St c20::iL Uy IX T'::iL YX Su YR::qQ::iL As x3 Ao::jv::fk
 intro fe sK Ho (qi:HI M w sK (box fe #[C 0,C 0,C 0,C 0,C 0,.bool false,C 0,C 0,.slice none 0 0,.slice none 0 0,.slice none 0 0,C 0,C 0,C 0,C 0,C 0,.slice none 0 0,C 0,C 0] 35::rJ))
 refine k<|bt qi 0 J kV J J J J J J J ?_
 intro uE (vw:HI M w uE (box fe #[C (lN (h.set ((ns%(h.length:Int)).toNat) (x3.take ((x0.length:Int)-1).toNat)) (1+(cx%3))),C 0,C ((ly (h.set ((ns%(h.length:Int)).toNat) (x3.take ((x0.length:Int)-1).toNat)) (1+(cx%3))).1),C ((ly (h.set ((ns%(h.length:Int)).toNat) (x3.take ((x0.length:Int)-1).toNat)) (1+(cx%3))).2),C (rB (h.set ((ns%(h.length:Int)).toNat) (x3.take ((x0.length:Int)-1).toNat)) (1+(cx%3))),.bool (kP (h.set ((ns%(h.length:Int)).toNat) (x3.take ((x0.length:Int)-1).toNat)) (1+(cx%3))),C o16,C Cx,R YX Su YR,R Uy IX T',R a20 St c20,C ((eW (h.set ((ns%(h.length:Int)).toNat) (x3.take ((x0.length:Int)-1).toNat)) (1+(cx%3))).1),C ((eW (h.set ((ns%(h.length:Int)).toNat) (x3.take ((x0.length:Int)-1).toNat)) (1+(cx%3))).2.1),C ((eW (h.set ((ns%(h.length:Int)).toNat) (x3.take ((x0.length:Int)-1).toNat)) (1+(cx%3))).2.2.1),C ((eW (h.set ((ns%(h.length:Int)).toNat) (x3.take ((x0.length:Int)-1).toNat)) (1+(cx%3))).2.2.2.1),C ((eW (h.set ((ns%(h.length:Int)).toNat) (x3.take ((x0.length:Int)-1).toNat)) (1+(cx%3))).2.2.2.2),R a21 o21 c21,C Ss,C Oq] 35::rJ))
 refine bp<|k ?_
 have nk:=sd (w:=uE)<|hT.ext vw.below
 refine ca OT J e0 nk ?_
 rintro _ xW ⟨rfl,Hn⟩
 have oo:=vw.ext Hn
 refine ak (v:=.bool true) J J<|aU J J J J<|fa C3 J J<|aU J J J J<|lx oo 0 J sP J J J<|aU J J J J<|eql J J J J<|k<|aR J J J J J J<|ak (v:=.bool (decide ((lN (h.set ((ns%(h.length:Int)).toNat) (x3.take ((x0.length:Int)-1).toNat))<|1+(cx%3))=0))) J J<|aU J J J (anq (DW nP (show ((1+(cx%3))=1∨(1+(cx%3))=2∨(1+(cx%3))=3) by omega) aP cP mW iA ‹x2.1=false›<|eY ‹(!(kP h<|1+(cx%3)))=false›).1)<|fa Ag J J<|aU J J J (anq (DW nP (show ((1+(cx%3))=1∨(1+(cx%3))=2∨(1+(cx%3))=3) by omega) aP cP mW iA ‹x2.1=false›<|eY ‹(!(kP h<|1+(cx%3)))=false›).1)<|lx oo 0 J ob J J J<|k<|aR J J J J (anq (DW nP (show ((1+(cx%3))=1∨(1+(cx%3))=2∨(1+(cx%3))=3) by omega) aP cP mW iA ‹x2.1=false›<|eY ‹(!(kP h<|1+(cx%3)))=false›).1) J<|au (v:=.bool (kP (h.set ((ns%(h.length:Int)).toNat) (x3.take ((x0.length:Int)-1).toNat))<|1+(cx%3))) J J<|av<|rt<|r1 J J ?_
 exact⟨ani Value.bool (by exact(DW nP (show ((1+(cx%3))=1∨(1+(cx%3))=2∨(1+(cx%3))=3) by omega) aP cP mW iA ‹x2.1=false›<|eY ‹(!(kP h<|1+(cx%3)))=false›).2),oo.below⟩
end Go.Proofs.YtgjakhpjmapelaaGreatDoor
