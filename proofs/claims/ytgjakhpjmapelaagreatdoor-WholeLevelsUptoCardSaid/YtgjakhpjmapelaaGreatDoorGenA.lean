/- PRINTED by my own tool (wip/tool/gen.py): contracts of Go functions of this seat, each with its proof. -/
import Derived.Test.YtgjakhpjmapelaaGreatDoorProg
import Derived.Test.YtgjakhpjmapelaaGreatDoorOwnB
import Derived.Test.YtgjakhpjmapelaaGreatDoorOwnA
import Derived.Test.YtgjakhpjmapelaaGreatDoorOwnC
set_option linter.unusedVariables false
set_option linter.unusedSimpArgs false
namespace Go.Proofs.YtgjakhpjmapelaaGreatDoor
open Go.Ew Go.RowKit
set_option maxRecDepth 100000
set_option maxHeartbeats 1600000
attribute [local irreducible] WL WC SO PW PX PZ WE Code.wp wpList rT cb
attribute [local irreducible] j2 xc jj fe dY z8 CS Ky words dX cR jz fz ve
theorem ee {M0 M1:Nat→Prop} {w0 w:World} {l:List Go.Ew.Item} {α:Type} [GT α] {a:OA} {c:Nat} {xs:List α} (H:HI M0 w0 w l) (h:RV M1 w (.slice a xs.length c) xs) (e:MS M0 l=M1:=by first|with_reducible rfl|(repeat first|rw[bN]|rw[aE rfl])):HI M0 w0 w (iL a xs c::l):=H.put (it:=iL a xs c) rfl (by rw[e];exact h)
noncomputable abbrev aJ:Program:=Tryz.prog
abbrev bX:Type:=BitVec 64
theorem aV {x:Int} (h:aK x:=by first|assumption|(unfold aK at *;omega)):aK x:=h
theorem ao_ {p:Prop} (h:p:=by first|omega|assumption|simp):p:=h
theorem aM {p:Prop} (h:p:=by kernel_rfl):p:=h
theorem bJ {v:Value} {k:IntKind} {a b:Int} (h:v=.int k a) (e:a=b:=by first|rfl|omega|simp):v=.int k b:=e▸h
theorem df {M0:Nat→Prop} {P:Program} {g:FuncId} {fn:Func} {c:Code} {args:Array Value} {w:World} {ai:Value→World→Prop} (n:Nat) (hf:P.funcs[g]? =some fn) (hb:fn.body=some c) (hn:fn.ntmps=n) (ha:Nat.ble args.size n=true) (hM:∀b,M0 b→b<w.heap.size) (h:∀f:aS,(∀(i:Nat) {v:Value},args.toList[i]? =some v→f i=v)→HI M0 w w []→WC P n c (rT P n fn ai) f w):Calls P g args w (cb ai):=
  enter n hf hb hn ha fun f h1=>h f (fun i v hv=>by
    rw[anv] at hv
    obtain⟨h2,h3⟩:=amN.1 hv
    rw[←h3]
    exact h1 i h2) (HI.start hM)
theorem pk {w:World}:∀b,(fun _:Nat=>False) b→b<w.heap.size:=fun _ h=>h.elim
theorem kI {F S:OA→Nat→Value} {D:Nat→Prop} {α:Type} [GT α] {X:List α}:rJ (fun N v w=>∃(a:OA) (c:Nat),v=F a c∧RV (MN D N) w (S a c) X):=
  ⟨by rintro _ _ _ _ x_ ⟨a,c,e_,r⟩;exact⟨a,c,e_,r.lift (Up.ext x_)⟩,by rintro _ _ _ _ _ k_ ⟨a,c,e_,r⟩;exact⟨a,c,e_,gR r k_⟩⟩
theorem jd {F S:OA→Nat→Value} {D:Nat→Prop} {α:Type} [GT α] {X:List α}:rJ (fun _ v w=>∃(a:OA) (c:Nat),v=F a c∧RV D w (S a c) X):=
  mN (by rintro _ _ _ x_ ⟨a,c,e_,r⟩;exact⟨a,c,e_,r.lift (Up.ext x_)⟩)
abbrev cw {α:Type} [GT α] (M:Nat→Prop) (w:World) (a:OA) (c:Nat) (l:List α):Prop:=RV M w (.slice a l.length c) l
abbrev eD (M:Nat→Prop) (w:World):Prop:=∀b,M b→b<w.heap.size
section
variable {P:Program} {n id:Nat} {l:List Oper} {y:Code} {Q:Exit→Act→World→Prop} {f:aS} {w:World} {ops:Array Oper}
theorem av (h:WC P n y Q f w):WL P n ops (Exit.then (fun a w=>y.wp P Q a w) Q) [] f w:=z (nx h)
theorem aB (h:WL P n l.toArray (Exit.then (fun a w=>y.wp P Q a w) Q) l f w):WC P n (.seq (.region id l.toArray false) y) Q f w:=sq (rg h)
theorem bt (h:WL P n l.toArray (Exit.then (fun a w=>y.wp P Q a w) Q) l f w):WL P n ops (Exit.then (fun a w=>(Code.seq (.region id l.toArray false) y).wp P Q a w) Q) [] f w:=z (nx (sq (rg h)))
section
variable {rest:List Oper} {d t j off bb:Nat} {dd:Option Nat} {x:Operand} {v z:Value} {ty T t2:TypeId} {ps:String} {af:Array Edge} {ad:Addr} {op:Op} {want b:Bool} {bytes:Nat} {cs:Array Value} {M0:Nat→Prop} {w0:World} {l:List Go.Ew.Item}
theorem ak (ox:bG n x=true) (hx:ev f x=v) (h:WL P n ops Q rest (b9 f d v) w):WL P n ops Q (⟨some d,.move x,ty,ps,af,none⟩::rest) f w:=k (mv ox hx h)
theorem au (ox:bG n x=true) (hx:ev f x=v) (h:WL P n ops Q rest (b9 f d v) w):WL P n ops Q (⟨some d,.assign x,ty,ps,af,none⟩::rest) f w:=k (jB ox hx h)
theorem aU (F:gM P T j off) (ox:bG n x=true) (hx:ev f x=.pointer (some ad)) (h:WL P n ops Q rest (b9 f d (.pointer (some (ad.add off)))) w):WL P n ops Q (⟨some d,.fieldAddr T x j,ty,ps,af,none⟩::rest) f w:=k (fa F ox hx h)
theorem aN (hj:xi ops j=some t) (ht:Nat.blt t n=true) (hv:f t=.bool b) (hb:b=!want) (h:WL P n ops Q rest (cU f dd undef) w):WL P n ops Q (⟨dd,op,ty,ps,af,some (j,want)⟩::rest) f w:=k (gn hj ht hv hb h)
theorem aT (hj:xi ops j=some t) (ht:Nat.blt t n=true) (hv:f t=.bool b) (hb:b=want) (h:SO P n ops ⟨dd,op,ty,ps,af,none⟩ f w (WL P n ops Q rest)):WL P n ops Q (⟨dd,op,ty,ps,af,some (j,want)⟩::rest) f w:=k (gy hj ht hv hb h)
theorem bl (H:HI M0 w0 w l) (i:Nat) (hi:l[i]? =some (box bb cs t2)) (F:eh P T 1 false bytes z) (ox:bG n x=true) (hx:ev f x=.pointer (some ⟨bb,off,none⟩)) (hl:((cs.toList.drop off).take 1).length=1) (h:WL P n ops Q rest (b9 f d (sc false ((cs.toList.drop off).take 1))) w):WL P n ops Q (⟨some d,.load T x,ty,ps,af,none⟩::rest) f w:=k (lx H i hi F ox hx hl h)
end
theorem cI (h:WL P n l.toArray (Exit.then (fun a w=>y.wp P Q a w) Q) l f w):Exit.then (fun a w=>(Code.seq (.region id l.toArray false) y).wp P Q a w) Q .normal (bZ n f) w:=nx (sq (rg h))
end
variable {M:Nat→Prop} {w w_:World}
variable {i n n1 fm fu gA mB mA mZ mn j o vr tn:Int} {x:bX} {jC vM vL l_ bA dO aD ay aA yD jU:OA} {jQ vJ vI mC dH pY xB bz aF aC ax eS az bK yx kc fU mh mi jS:Nat} {a b:List bX} {l xs U rr kp:List Int} {r:List Go.Ew.Item} {qb:List Value} {p:Int→Bool} {Ho Ko:TypeId} {mr:List (List bX)} {I:List aH} {met:List ((Int×Int)×Bool)}
theorem Df:aJ.underlying 152=some (.int .u64):=aM
theorem BM:aJ.underlying 3=some (.int .i64):=aM
theorem Qi:ct aJ 127:=⟨_,_,Tryz.func127,rfl,aM⟩
theorem WA:aJ.underlying 227=some (.array 64 5):=aM
theorem WK:eh aJ 5 1 false 1 (.int .u8 0):=⟨aM,aM⟩
theorem Wz:aJ.underlying 5=some (.int .u8):=aM
theorem aeF:ct aJ 157:=⟨_,_,Tryz.func157,rfl,aM⟩
theorem gW:aJ.underlying 144=some (.slice 151):=aM
theorem XT:ct aJ 124:=⟨_,_,Tryz.func124,rfl,aM⟩
theorem fh:eh aJ 151 1 false 8 (.int .u64 0):=⟨aM,aM⟩
theorem aeW:ct aJ 125:=⟨_,_,Tryz.func125,rfl,aM⟩
theorem Qj:ct aJ 126:=⟨_,_,Tryz.func126,rfl,aM⟩
theorem aeX:ct aJ 123:=⟨_,_,Tryz.func123,rfl,aM⟩
theorem aeU:ct aJ 129:=⟨_,_,Tryz.func129,rfl,aM⟩
theorem cG:aJ.underlying 27=some (.slice 3):=aM
theorem aW:eh aJ 3 1 false 8 (.int .i64 0):=⟨aM,aM⟩
theorem EA (qA:aK i):Calls aJ 127 #[C i] w (cb fun v w'=>v=aj (j2 i)∧Ext w w'):=by
 refine df 9 Tryz.func127 J J J pk fun f0 ha H=>?_
 have i0:f0 0=C i:=ha 0 bh
 refine aB<|au (v:=aj (0#64)) J J<|av<|sq<|aB<|ak J i0<|k<|OI J J BM Df<|k<|XL (BitVec.ofInt 64 i) (63#64) J J J J<|z<|nx ?_
 refine cd (b:=decide ((63#64).toNat<(BitVec.ofInt 64 i).toNat)) J J (fun b0=>?_)<|fun b0=>?_
 ·
  have p0:=dT b0
  refine aB<|au (v:=aj (0#64)) J J<|av<|rt<|aL<|r1 J J ?_
  exact⟨amh aj (by exact ZP qA p0),H.below⟩
 have p0:=dF b0
 refine sk<|cI<|ak J i0<|k<|OI J J BM Df<|k<|aao (1#64) ((BitVec.ofInt 64 i).toNat:Int) aq J J J J<|au (v:=aj ((1#64) <<< ((BitVec.ofInt 64 i).toNat:Int).toNat)) J J<|av<|rt<|r1 J J ?_
 exact⟨amh aj (by exact ZO qA p0),H.below⟩
theorem T' (qA:aK i):Calls aJ 125 #[aj x,C i] w (cb fun v w'=>v=.bool (xc x i)∧Ext w w'):=by
 refine df 10 Tryz.func125 J J J pk fun f0 ha H=>?_
 have i0:f0 0=aj x:=ha 0 bh
 have i1:f0 1=C i:=ha 1 bh
 refine aB<|au (v:=.bool false) J J<|bt<|ak J i0<|ak J i1<|k ?_
 have bP:=EA (i:=i) (w:=w) qA
 refine ca Qi J (ec J e0) bP ?_
 rintro _ w0 ⟨rfl,bS⟩
 have H0:=H.ext bS
 refine k<|CZ x (j2 i) J J J J<|k<|neU (x &&& (j2 i)) (0#64) J J J J<|au (v:=.bool (!decide ((x &&& (j2 i))=(0#64)))) J J<|av<|rt<|r1 J J ?_
 exact⟨amh Value.bool (by exact Zh _ _),H0.below⟩
theorem Yl (hT:fQ 0 w):Calls aJ 157 #[aj x] w (cb fun v w'=>v=C ((fz x:Nat):Int)∧Ext w w'):=by
 refine df 14 Tryz.func157 J J J pk fun f0 ha H=>?_
 have i0:f0 0=aj x:=ha 0 bh
 refine aB<|au (v:=C 0) J J<|av<|sq<|aB<|ak J i0<|k<|eqU x (0#64) J J J J<|z<|nx ?_
 refine cd (b:=decide (x=(0#64))) J J (fun b0=>?_)<|fun b0=>?_
 ·
  have p0:=dT b0
  refine aB<|au (v:=C 64) J J<|av<|rt<|aL<|r1 J J ?_
  exact⟨amh (Value.int .i64) (by have e_:=p0;subst e_;rw[Ea];rfl),H.below⟩
 have p0:=dF b0
 refine sk<|cI<|ak J i0<|ak J i0<|k<|aaP x J J<|k<|CZ x (-x) J J J J<|k<|E5 (x &&& (-x)) (285870213051353865#64) J J J J<|k<|Dg ((x &&& (-x))*(285870213051353865#64)) 58 J J J J<|k<|ag7 (i:=(((x &&& (-x))*(285870213051353865#64)) >>> 58).toNat) J J J J (by exact Ex (by simpa using p0)) WA WK<|k<|ld8 (agR (M:=fun _=>False) hT H.below J<|by exact Ex (by simpa using p0)) WK J J<|k<|cvI J J aV Wz BM<|au (v:=C ((ve (((x &&& (-x))*(285870213051353865#64)) >>> 58).toNat).toNat:Int)) J J<|av<|rt<|r1 J J ?_
 exact⟨amh (Value.int .i64) (by exact T9 (by simpa using p0)),H.below⟩
theorem O2 (hT:fQ 0 w):Calls aJ 129 #[aj x] w (cb fun v w'=>v=C ((fz x:Nat):Int)∧Ext w w'):=by
 refine df 5 Tryz.func129 J J J pk fun f0 ha H=>?_
 have i0:f0 0=aj x:=ha 0 bh
 refine aB<|au (v:=C 0) J J<|bt<|ak J i0<|k ?_
 have bP:=Yl (x:=x) (w:=w)<|hT.ext H.below
 refine ca aeF J (ec J e0) bP ?_
 rintro _ w0 ⟨rfl,bS⟩
 have H0:=H.ext bS
 refine au (v:=C ((fz x:Nat):Int)) J J<|av<|rt<|r1 J J ?_
 exact⟨J,H0.below⟩
theorem Rn {r:List bX} (hM:eD M w) (mT:cw M w jC jQ r) (qA:aK i):Calls aJ 124 #[R jC r jQ,C i] w (cb fun v w'=>v=.bool (jj r i)∧Ext w w'):=by
 refine df 14 Tryz.func124 J J J hM fun f0 ha H=>?_
 have H0:=ee H mT
 have AR:=aP mT
 have i0:f0 0=R jC r jQ:=ha 0 bh
 have i1:f0 1=C i:=ha 1 bh
 refine aB<|au (v:=.bool false) J J<|bt<|ak J i1<|k<|geq J J J J<|ak (v:=.bool (decide (0≤i))) J J ?_
 rcases bE (decide (0≤i)) with b0|b0
 ·
  have p0:=dT b0
  refine aT J J J b0<|mv J i1<|aT J J J b0<|KG J J J J<|aT J J J b0<|mv J i0<|aT J J J b0<|dW J J gW<|aT J J J b0<|lss J J J J<|k<|aR J J J J b0 J<|au (v:=.bool (decide ((i/64)<(r.length:Int)))) J J<|av<|rt<|r1 J J ?_
  exact⟨amh Value.bool (by exact Ze p0),H0.below⟩
 have p0:=dF b0
 refine aN J J J b0<|aN J J J b0<|aN J J J b0<|aN J J J b0<|aN J J J b0<|k<|cK J J J J b0 J<|au (v:=.bool false) J J<|av<|rt<|r1 J J ?_
 exact⟨amh Value.bool (by exact abd aq),H0.below⟩
theorem zr {r:List bX} (hM:eD M w) (mT:cw M w jC jQ r) (qA:aK i):Calls aJ 85 #[R jC r jQ,C i] w (cb fun v w'=>v=.bool (fe r i)∧Ext w w'):=by
 refine df 18 Tryz.func85 J J J hM fun f0 ha H=>?_
 have H0:=ee H mT
 have AR:=aP mT
 have i0:f0 0=R jC r jQ:=ha 0 bh
 have i1:f0 1=C i:=ha 1 bh
 refine aB<|au (v:=.bool false) J J<|bt<|ak J i0<|ak J i1<|k ?_
 have bP:=Rn (r:=r) (i:=i) H0.mb (H0.rv 0 J) qA
 refine ca XT J (ec J<|ec J e0) bP ?_
 rintro _ w0 ⟨rfl,bS⟩
 have H1:=H0.ext bS
 refine ak (v:=.bool (jj r i)) J J ?_
 rcases bE (jj r i) with b0|b0
 ·
  refine aT J J J b0<|mv J i0<|aT J J J b0<|mv J i1<|aT J J J b0<|KG J J J J<|aT J J J b0<|ia (H1.rv 0 J) J J J J (by have hb:=b0;unfold jj at hb;simp only[amj] at hb;omega) gW fh ?_
  intro iw x0 aQ cu
  refine aT J J J b0<|yb cu.w fh J J<|aT J J J b0<|mv J i1<|aT J J J b0<|Kc J J J J<|aT J J J b0 ?_
  have cV:=T' (x:=x0) (i:=(i%64)) (w:=w0) aV
  refine ca aeW J (ec J<|ec J e0) cV ?_
  rintro _ w1 ⟨rfl,cY⟩
  have H2:=H1.ext cY
  refine k<|aR J J J J b0 J<|au (v:=.bool (xc x0<|i%64)) J J<|av<|rt<|r1 J J ?_
  exact⟨amh Value.bool (by exact Zk b0 aQ),H2.below⟩
 refine aN J J J b0<|aN J J J b0<|aN J J J b0<|aN J J J b0<|aN J J J b0<|aN J J J b0<|aN J J J b0<|aN J J J b0<|k<|cK J J J J b0 J<|au (v:=.bool false) J J<|av<|rt<|r1 J J ?_
 exact⟨amh Value.bool (by exact xe b0),H1.below⟩
theorem CU {r:List bX} (hM:eD M w) (mT:cw M w jC jQ r) (Vo:r.length≤1000000000):Calls aJ 126 #[R jC r jQ] w (cb fun v w'=>∃(a0:OA) (c0:Nat),v=R a0 r c0∧Ext w w'∧bj M 151 w r (R a0 r c0) w'):=by
 refine df 8 Tryz.func126 J J J hM fun f0 ha H=>?_
 have H0:=ee H mT
 have AR:=aP mT
 have i0:f0 0=R jC r jQ:=ha 0 bh
 refine aB<|au (v:=.slice none 0 0) J J<|av<|sq<|aB<|ak J i0<|k<|Tb J J J J gW<|z<|nx ?_
 refine cd (b:=jC.isNone) J J (fun b0=>?_)<|fun b0=>?_
 ·
  refine aB<|au (v:=.slice none 0 0) J J<|av<|rt<|aL<|r1 J J ?_
  have e0:([]:List bX)=r:=by exact(Ht mT b0).symm
  have bo:=iq (fun (bV:List bX)=>(.slice none bV.length 0:Value)) e0
  exact⟨none,0,bo,H0.below,(amh (fun (x_:List bX)=>bj _ _ _ x_ (.slice none x_.length 0) _) e0).mp (fL H0.below)⟩
 refine sk<|cI<|k<|bs (xs:=([]:List bX)) (cells:=#[]) (e:=151) H0 J ey (fun _=>aM) J J aw ?_
 intro g0 w0 bS H1
 refine ak J i0<|k<|l9 H1 0 J J J J J J (H1.rv 1 J).src gW fh J (by simp;omega) J ?_
 intro a0 c0 w1 (H2:HI M w w1 [oL w 151 a0 r c0,iL jC r jQ])
 refine au (v:=R a0 r c0) J J<|av<|rt<|r1 J J ?_
 exact⟨a0,c0,J,H2.below,(H2.da 0 J)⟩
theorem tP {r:List bX} (hM:eD M w) (mT:cw M w jC jQ r) (qA:aK i) (Vo:r.length≤1000000000):Calls aJ 86 #[R jC r jQ,C i] w (cb fun v w'=>∃(a0:OA) (c0:Nat),v=.slice a0 (dY r i).length c0∧Ext w w'∧bj M 151 w (dY r i) (.slice a0 (dY r i).length c0) w'):=by
 refine df 22 Tryz.func86 J J J hM fun f0 ha H=>?_
 have H0:=ee H mT
 have AR:=aP mT
 have i0:f0 0=R jC r jQ:=ha 0 bh
 have i1:f0 1=C i:=ha 1 bh
 refine aB<|au (v:=.slice none 0 0) J J<|bt<|ak J i0<|k ?_
 have bP:=CU (r:=r) H0.mb (H0.rv 0 J) aq
 refine ca Qj J (ec J e0) bP ?_
 rintro _ w0 ⟨a0,c0,rfl,bS,cm⟩
 have H1:=H0.eI cm
 refine au (v:=R a0 r c0) J J<|av<|sq<|aB<|ak J i0<|ak J i1<|k ?_
 have cV:=Rn (r:=r) (i:=i) H1.mb (H1.rv 1 J) qA
 refine ca XT J (ec J<|ec J e0) cV ?_
 rintro _ w1 ⟨rfl,cY⟩
 have H2:=H1.ext cY
 refine z<|nx ?_
 refine cd (b:=jj r i) J J (fun b0=>?_)<|fun b0=>?_
 ·
  refine l8 [.r,.r,.r,.r,.r,.r,.r,.r,.r,.e,.e] (fun _=>True) J (by kernel_rfl) (fun _ _=>trivial) ?_
  refine yq J J<|kq (fun _ _=>mv (v:=R a0 r c0) rfl rfl e1)<|zq<|yq J J<|kq (fun _ _=>mv rfl i1 e1)<|zq<|yq J J<|kq (fun _ _=>KG rfl rfl rfl rfl e1)<|zq<|yq J J<|sK (H2.at_ 0 J) J J J J (by have hb:=b0;unfold jj at hb;simp only[amj] at hb;omega) gW fh ?_
  intro iw x0 aQ cu
  refine zq<|yq J J<|ad' cu fh J J<|zq<|yq J J<|kq (fun _ _=>mv rfl i1 e1)<|zq<|yq J J<|kq (fun _ _=>Kc rfl rfl rfl rfl e1)<|zq<|yq J J ?_
  refine kq (v:=aj (j2<|i%64)) (fun v_ _=>have cc:=EA (i:=(i%64)) (w:=v_) aV;ca Qi rfl (ec J e0) cc fun _ _ h_=>e2 h_) ?_
  refine zq<|yq J J<|kq (fun _ _=>RP x0 (j2<|i%64) rfl rfl rfl rfl e1)<|zq<|ye<|ye<|yz ?_
  intro w2 f0 _ eT _ _ cz iC
  have H3:=H2.ext eT
  have s0:=cz 5 J
  have s1:=cz 11 J
  have s2:=cz 13 J
  have s3:=cz 19 J
  refine jZ<|ic (H3.at_ 0 J) J J s1 s2 (by have hb:=b0;unfold jj at hb;simp only[amj] at hb;omega) gW fh ?_
  intro g0 x1 im cP gK
  refine jZ<|pR H3 0 J im J (by have hb:=b0;unfold jj at hb;simp only[amj] at hb;omega) fh J J J s3 (RV.bv.2 J) ?_
  intro w3 (H4:HI M w w3 [own w.heap.size 151 (.slice a0 r.length c0) (r.set ((i/64).toNat) (x0 ||| (j2 (i%64)))),iL jC r jQ])
  refine kz<|cI<|ak J s0<|au (v:=R a0 r c0) J J<|av<|rt<|r1 J J ?_
  have e0:(r.set ((i/64).toNat) (x0 ||| (j2 (i%64))):List bX)=dY r i:=by exact NI b0 aQ
  have l0:r.length=(dY r i).length:=by rw[←e0];simp
  have bo:=iq (fun (uF:Nat)=>(.slice a0 uF c0:Value)) l0
  exact⟨a0,c0,bo,H4.below,(amh (fun (n_:Nat)=>bj _ _ _ (dY r i) (.slice a0 n_ c0) _) l0).mp ((amh (fun (x_:List bX)=>bj _ _ _ x_ (.slice a0 r.length c0) _) e0).mp (H4.da 0 J))⟩
 refine sk<|cI<|ak (v:=R a0 r c0) J J<|au (v:=R a0 r c0) J J<|av<|rt<|r1 J J ?_
 have e0:(r:List bX)=dY r i:=by exact EH b0
 have bo:=iq (fun (bV:List bX)=>(.slice a0 bV.length c0:Value)) e0
 exact⟨a0,c0,bo,H2.below,(amh (fun (x_:List bX)=>bj _ _ _ x_ (.slice a0 x_.length c0) _) e0).mp (H2.da 0 J)⟩
theorem Ro (LR:aK n) (hn:n≤1000000000000000000):Calls aJ 123 #[C n] w (cb fun v w'=>v=C ((words n:Nat):Int)∧Ext w w'):=by
 refine df 8 Tryz.func123 J J J pk fun f0 ha H=>?_
 have i0:f0 0=C n:=ha 0 bh
 refine aB<|au (v:=C 0) J J<|bt<|ak J i0<|k<|max2 J J J J<|k<|add J J J J aV<|k<|sub J J J J aV<|k<|quo J J J J aq<|au (v:=C ((((max n 0)+64)-1)/64)) J J<|av<|rt<|r1 J J ?_
 exact⟨amh (Value.int .i64) (by unfold words;omega),H.below⟩
theorem Di (hM:eD M w) (LR:aK n) (hn:n≤1000000):Calls aJ 84 #[C n] w (cb fun v w'=>∃(a0:OA) (c0:Nat),v=.slice a0 (dX n).length c0∧Ext w w'∧bj M 151 w (dX n) (.slice a0 (dX n).length c0) w'):=by
 refine df 6 Tryz.func84 J J J hM fun f0 ha H=>?_
 have i0:f0 0=C n:=ha 0 bh
 refine aB<|au (v:=.slice none 0 0) J J<|bt<|ak J i0<|k ?_
 have bP:=Ro (n:=n) (w:=w) LR aq
 refine ca aeX J (ec J e0) bP ?_
 rintro _ w0 ⟨rfl,bS⟩
 have H0:=H.ext bS
 refine k<|mk (m:=(words n:Nat)) (zx:=(0#64:bX)) H0 J J J J gW fh (fun _ _=>rfl) (by unfold words;omega) (by unfold words;omega) ?_
 intro g0 w1 cY (H1:HI M w w1 [own w.heap.size 151 (.slice (some ⟨g0,0,none⟩) (words n:Nat) (words n:Nat)) (List.replicate (words n:Nat) (0#64:bX))])
 refine au (v:=.slice (some ⟨g0,0,none⟩) (words n:Nat) (words n:Nat)) J J<|av<|rt<|r1 J J ?_
 have e0:((List.replicate (words n:Nat) (0#64:bX)):List bX)=dX n:=by unfold dX;rfl
 have l0:(words n:Nat)=(dX n).length:=by rw[←e0];simp
 have bo:=iq (fun (uF:Nat)=>(.slice (some ⟨g0,0,none⟩) uF (words n:Nat):Value)) l0
 exact⟨(some ⟨g0,0,none⟩),(words n:Nat),bo,H1.below,(amh (fun (n_:Nat)=>bj _ _ _ (dX n) (.slice (some ⟨g0,0,none⟩) n_ (words n:Nat)) _) l0).mp ((amh (fun (x_:List bX)=>bj _ _ _ x_ (.slice (some ⟨g0,0,none⟩) (words n:Nat) (words n:Nat)) _) e0).mp (H1.da 0 J))⟩
theorem aay (hM:eD M w) (SI:cw M w vM vJ a) (CF:cw M w vL vI b) (ahu:a.length≤1000000000) (alu:b.length≤1000000000):Calls aJ 135 #[R vM a vJ,R vL b vI] w (cb fun v w'=>∃(a0:OA) (c0:Nat),v=.slice a0 (jz a b).length c0∧Ext w w'∧bj M 151 w (jz a b) (.slice a0 (jz a b).length c0) w'):=by
 refine df 33 Tryz.func135 J J J hM fun f0 ha H=>?_
 have H0:=ee H SI
 have H1:=ee H0 CF
 have ag5:=aP SI
 have ag4:=aP CF
 have i0:f0 0=R vM a vJ:=ha 0 bh
 have i1:f0 1=R vL b vI:=ha 1 bh
 refine aB<|au (v:=.slice none 0 0) J J<|av<|sq<|aB<|ak J i0<|k<|dW J J gW<|ak J i1<|k<|dW J J gW<|k<|lss J J J J<|z<|nx ?_
 refine cd (b:=decide ((a.length:Int)<(b.length:Int))) J J (fun b0=>?_)<|fun b0=>?_
 ·
  have p0:=dT b0
  refine rg<|ak J i1<|ak J i0<|au (v:=R vL b vI) J J<|au (v:=R vM a vJ) J J<|bt<|ak (v:=R vL b vI) J J<|k ?_
  have bP:=CU (r:=b) H1.mb (H1.rv 0 J) aq
  refine ca Qj J (ec J e0) bP ?_
  rintro _ w0 ⟨a0,c0,rfl,bS,cm⟩
  have H2:=H1.eI cm
  refine au (v:=R a0 b c0) J J<|av<|sq<|aB<|ak (v:=R vM a vJ) J J<|k<|dW J J gW<|ak (v:=C 0) J J<|av<|bk ?_
  refine lp (fun m f w'=>∃(j:Nat) (xs:List bX),m=a.length-j∧f 5=R a0 b c0∧f 17=R vM a vJ∧f 18=C (a.length:Int)∧f 19=C (j:Int)∧HI M w w' [own w.heap.size 151 (.slice a0 b.length c0) xs,iL vL b vI,iL vM a vJ]∧(j≤a.length)∧(xs.length=b.length)∧(xs=pN b.length b a b j)) _ ⟨0,b,J,J,J,J,(bJ J),H2,aq,(by rfl),(by exact Cc _ _ _)⟩ ?_
  rintro _ f0 w1 ⟨j,xs,rfl,s0,s1,s2,s3,H3,hk,hl,hs⟩
  refine aB<|k<|lss J J s3 s2<|av<|sq ?_
  refine cd (b:=decide ((j:Int)<(a.length:Int))) J J (fun b1=>?_)<|fun b1=>?_
  ·
   have p1:=dT b1
   refine sk<|nx<|sq<|bk<|aB<|ak J s3<|k<|ia (H3.rv 2 J) J J s1 s3 aq gW fh ?_
   intro iw x0 aQ cu
   refine k<|yb cu.w fh J J<|au (v:=C (j:Int)) J J<|au (v:=aj x0) J J<|av<|rg<|ak J s0<|ak (v:=C (j:Int)) J J<|k<|ic (H3.at_ 0 J) J J J J aq gW fh ?_
   intro g0 x1 im cP gK
   refine k<|yb gK fh J J<|ak (v:=aj x0) J J<|k<|RP x1 x0 J J J J<|k<|ic (H3.at_ 0 J) J J J J aq gW fh ?_
   intro g1 x2 kB iW la
   refine k<|pR H3 0 J kB J aq fh J J J J (RV.bv.2 J) ?_
   intro w2 (H4:HI M w w2 [own w.heap.size 151 (.slice a0 b.length c0) (xs.set ((j:Int).toNat) (x1 ||| x0)),iL vL b vI,iL vM a vJ])
   refine z<|aI<|nx<|rg<|k<|add J J s3 J aV<|ak (v:=C ((j:Int)+1)) J J<|z ?_
   refine bB _ ?_ ⟨(j+1),(xs.set ((j:Int).toNat) (x1 ||| x0)),J,s0,s1,s2,(bJ J),H4,aq,(by simpa using hl),(by have e1:=AH (hs▸cP);have e2:=wi aQ;rw[hs];exact EW (by rw[e1];unfold sO;rw[e2]))⟩
   omega
  have p1:=dF b1
  refine ex<|aX<|bf<|bg<|cI<|ak J s0<|au (v:=R a0 b c0) J J<|av<|rt<|r1 J J ?_
  have e0:(xs:List bX)=jz a b:=by rw[hs];first|exact wL aq (fun i h1 h2=>xS aq)|(rw[K4];exact wL aq (fun i h1 h2=>xS aq))
  have l0:b.length=(jz a b).length:=by rw[←e0];omega
  have bo:=iq (fun (uF:Nat)=>(.slice a0 uF c0:Value)) l0
  exact⟨a0,c0,bo,H3.below,(amh (fun (n_:Nat)=>bj _ _ _ (jz a b) (.slice a0 n_ c0) _) l0).mp ((amh (fun (x_:List bX)=>bj _ _ _ x_ (.slice a0 b.length c0) _) e0).mp (H3.da 0 J))⟩
 have p0:=dF b0
 refine sk<|cI<|ak J i0<|k ?_
 have bP:=CU (r:=a) H1.mb (H1.rv 1 J) aq
 refine ca Qj J (ec J e0) bP ?_
 rintro _ w0 ⟨a0,c0,rfl,bS,cm⟩
 have H2:=H1.eI cm
 refine au (v:=R a0 a c0) J J<|av<|sq<|aB<|ak J i1<|k<|dW J J gW<|ak (v:=C 0) J J<|av<|bk ?_
 refine lp (fun m f w'=>∃(j:Nat) (xs:List bX),m=b.length-j∧f 5=R a0 a c0∧f 17=R vL b vI∧f 18=C (b.length:Int)∧f 19=C (j:Int)∧HI M w w' [own w.heap.size 151 (.slice a0 a.length c0) xs,iL vL b vI,iL vM a vJ]∧(j≤b.length)∧(xs.length=a.length)∧(xs=pN a.length a b a j)) _ ⟨0,a,J,J,J,J,(bJ J),H2,aq,(by rfl),(by exact Cc _ _ _)⟩ ?_
 rintro _ f0 w1 ⟨j,xs,rfl,s0,s1,s2,s3,H3,hk,hl,hs⟩
 refine aB<|k<|lss J J s3 s2<|av<|sq ?_
 refine cd (b:=decide ((j:Int)<(b.length:Int))) J J (fun b1=>?_)<|fun b1=>?_
 ·
  have p1:=dT b1
  refine sk<|nx<|sq<|bk<|aB<|ak J s3<|k<|ia (H3.rv 1 J) J J s1 s3 aq gW fh ?_
  intro iw x0 aQ cu
  refine k<|yb cu.w fh J J<|au (v:=C (j:Int)) J J<|au (v:=aj x0) J J<|av<|rg<|ak J s0<|ak (v:=C (j:Int)) J J<|k<|ic (H3.at_ 0 J) J J J J aq gW fh ?_
  intro g0 x1 im cP gK
  refine k<|yb gK fh J J<|ak (v:=aj x0) J J<|k<|RP x1 x0 J J J J<|k<|ic (H3.at_ 0 J) J J J J aq gW fh ?_
  intro g1 x2 kB iW la
  refine k<|pR H3 0 J kB J aq fh J J J J (RV.bv.2 J) ?_
  intro w2 (H4:HI M w w2 [own w.heap.size 151 (.slice a0 a.length c0) (xs.set ((j:Int).toNat) (x1 ||| x0)),iL vL b vI,iL vM a vJ])
  refine z<|aI<|nx<|rg<|k<|add J J s3 J aV<|ak (v:=C ((j:Int)+1)) J J<|z ?_
  refine bB _ ?_ ⟨(j+1),(xs.set ((j:Int).toNat) (x1 ||| x0)),J,s0,s1,s2,(bJ J),H4,aq,(by simpa using hl),(by have e1:=AH (hs▸cP);have e2:=wi aQ;rw[hs];exact EW (by rw[e1];unfold sO;rw[e2]))⟩
  omega
 have p1:=dF b1
 refine ex<|aX<|bf<|bg<|cI<|ak J s0<|au (v:=R a0 a c0) J J<|av<|rt<|r1 J J ?_
 have e0:(xs:List bX)=jz a b:=by rw[hs];first|exact wL aq (fun i h1 h2=>xS aq)|(rw[K4];exact wL aq (fun i h1 h2=>xS aq))
 have l0:a.length=(jz a b).length:=by rw[←e0];omega
 have bo:=iq (fun (uF:Nat)=>(.slice a0 uF c0:Value)) l0
 exact⟨a0,c0,bo,H3.below,(amh (fun (n_:Nat)=>bj _ _ _ (jz a b) (.slice a0 n_ c0) _) l0).mp ((amh (fun (x_:List bX)=>bj _ _ _ x_ (.slice a0 a.length c0) _) e0).mp (H3.da 0 J))⟩
theorem tQ {r:List bX} (hM:eD M w) (hT:fQ 0 w) (mT:cw M w jC jQ r) (Vo:r.length≤1000000000):Calls aJ 89 #[R jC r jQ] w (cb fun v w'=>∃(a0:OA) (c0:Nat),v=.slice a0 (cR r).length c0∧Ext w w'∧bj M 3 w (cR r) (.slice a0 (cR r).length c0) w'):=by
 refine df 29 Tryz.func89 J J J hM fun f0 ha H=>?_
 have H0:=ee H mT
 have AR:=aP mT
 have i0:f0 0=R jC r jQ:=ha 0 bh
 refine aB<|au (v:=.slice none 0 0) J J<|bt<|au (v:=.slice none 0 0) J J<|av<|sq<|aB<|ak J i0<|k<|dW J J gW<|ak (v:=C 0) J J<|av<|bk ?_
 have H1:=H0.re Int 3
 refine lp (fun m f w'=>∃(j:Nat) (xs:List Int) (a0:OA) (c0:Nat),m=r.length-j∧f 3=R a0 xs c0∧f 6=R jC r jQ∧f 7=C (r.length:Int)∧f 8=C (j:Int)∧HI M w w' [oL w 3 a0 xs c0,iL jC r jQ]∧(j≤r.length)∧(xs=rq r j)) _ ⟨0,([]:List Int),none,0,J,J,J,J,(bJ J),H1,aq,(by rfl)⟩ ?_
 rintro _ f0 w0 ⟨j,xs,a0,c0,rfl,s0,s1,s2,s3,H2,hk,hs⟩
 refine aB<|k<|lss J J s3 s2<|av<|sq ?_
 refine cd (b:=decide ((j:Int)<(r.length:Int))) J J (fun b0=>?_)<|fun b0=>?_
 ·
  have p0:=dT b0
  refine sk<|nx<|sq<|bk<|aB<|ak J s3<|k<|ia (H2.rv 1 J) J J s1 s3 aq gW fh ?_
  intro iw x0 aQ cu
  refine k<|yb cu.w fh J J<|au (v:=C (j:Int)) J J<|au (v:=aj x0) J J<|av<|bk ?_
  refine lp (fun m f w'=>∃(y:bX) (ys:List Int) (a1:OA) (c1:Nat),m=(ob y).length∧f 3=R a1 ys c1∧f 4=C (j:Int)∧f 5=aj y∧f 6=R jC r jQ∧f 7=C (r.length:Int)∧f 8=C (j:Int)∧HI M w w' [oL w 3 a1 ys c1,iL jC r jQ]∧(ys++pS j y=rq r j++pS j x0)) _ ⟨x0,xs,a0,c0,J,s0,J,(Ny J<|by rfl),s1,s2,s3,H2,(by rw[hs])⟩ ?_
  rintro _ f1 w1 ⟨y,ys,a1,c1,rfl,s4,s5,s6,s7,s8,s9,H3,hy⟩
  refine sq<|aB<|ak J s6<|k<|neU y (0#64) J J J J<|z<|nx ?_
  refine cd (b:=!decide (y=(0#64))) J J (fun b1=>?_)<|fun b1=>?_
  ·
   have p1:=dF<|fY b1
   refine sk<|nx<|sq<|bk<|rg<|ak J s4<|ak J s5<|k<|mul J J J J (by have h_:=yr y;unfold aK;omega)<|ak J s6<|k ?_
   have bP:=O2 (x:=y) (w:=w1)<|hT.ext H3.below
   refine ca aeU J (ec J e0) bP ?_
   rintro _ w2 ⟨rfl,bS⟩
   have H4:=H3.ext bS
   refine k<|add J J J J (by have h_:=yr y;unfold aK;omega)<|k<|bs (xs:=([((j:Int)*64)+((fz y:Nat):Int)]:List Int)) (cells:=#[C (((j:Int)*64)+((fz y:Nat):Int))]) (e:=3) H4 J (cj J ey) (fun _=>aM) ⟨[C (((j:Int)*64)+((fz y:Nat):Int))],[],J,⟨J,(show aK (((j:Int)*64)+((fz y:Nat):Int)) from(by have h_:=yr y;unfold aK;omega))⟩,J⟩ J aw ?_
   intro g0 w3 cY H5
   refine k<|l9 H5 1 J J J J J J (gT<|H5.at_ 0 J) cG aW J (by have h_:=amh List.length hy;simp only[gf] at h_;have h1:=vj r j;have h2:=Cp j x0;simp only[iB,gm];omega) J ?_
   intro a2 c2 w4 (H6:HI M w w4 [own w.heap.size 3 (.slice (some ⟨g0,0,none⟩) 1 1) ([((j:Int)*64)+((fz y:Nat):Int)]:List Int),oL w 3 a2 (ys++([((j:Int)*64)+((fz y:Nat):Int)]:List Int)) c2,iL jC r jQ])
   refine au (v:=R a2 (ys++([((j:Int)*64)+((fz y:Nat):Int)]:List Int)) c2) J J<|z<|aI<|nx<|rg<|ak J s6<|ak J s6<|k<|aai y (1#64) J J J J<|k<|CZ y (y-(1#64)) J J J J<|au (v:=aj (y &&& (y-(1#64)))) J J<|z ?_
   have H7:HI M w w4 [oL w 3 a2 (ys++([((j:Int)*64)+((fz y:Nat):Int)]:List Int)) c2,iL jC r jQ]:=H6.bT [1,2] aw rfl
   refine bB _ ?_ ⟨(y &&& (y-(1#64))),(ys++([((j:Int)*64)+((fz y:Nat):Int)]:List Int)),a2,c2,J,J,s5,(Ny J<|by rfl),s7,s8,s9,H7,(by rw[ana,←hy,PO (show y≠0#64 by simpa using p1)];rfl)⟩
   exact Qz<|by simpa using p1
  have p1:=dT<|fk b1
  refine ex<|aX<|bf<|bg<|aI<|nx<|rg<|k<|add J J s9 J (by have h_:=yr y;unfold aK;omega)<|ak (v:=C ((j:Int)+1)) J J<|z ?_
  refine bB _ ?_ ⟨(j+1),ys,a1,c1,J,s4,s7,s8,(bJ J),H3,aq,(by rw[yN,wi aQ];have e_:y=0#64:=(by simpa using p1);subst e_;rw[PN,anR] at hy;exact hy)⟩
  omega
 have p0:=dF b0
 refine ex<|aX<|bf<|bg<|cI<|ak J s0<|au (v:=R a0 xs c0) J J<|av<|rt<|r1 J J ?_
 have e0:(xs:List Int)=cR r:=by rw[hs];unfold cR;congr 1;omega
 have bo:=iq (fun (bV:List Int)=>(.slice a0 bV.length c0:Value)) e0
 exact⟨a0,c0,bo,H2.below,(amh (fun (x_:List Int)=>bj _ _ _ x_ (.slice a0 x_.length c0) _) e0).mp (H2.da 0 J)⟩
theorem XP:ct aJ 141:=⟨_,_,Tryz.func141,rfl,aM⟩
theorem kE:gM aJ 122 0 0:=⟨_,_,Tryz.underlying122,rfl,rfl,aM⟩
theorem Qm:ct aJ 105:=⟨_,_,Tryz.func105,rfl,aM⟩
theorem mI:gM aJ 122 1 1:=⟨_,_,Tryz.underlying122,rfl,rfl,aM⟩
theorem sl:gM aJ 122 2 2:=⟨_,_,Tryz.underlying122,rfl,rfl,aM⟩
theorem ae6:ct aJ 104:=⟨_,_,Tryz.func104,rfl,aM⟩
theorem Je (acb:aK n1):Calls aJ 141 #[C n1] w (cb fun v w'=>v=.bool false∧Ext w w'):=by
 refine df 6 Tryz.func141 J J J pk fun f0 ha H=>?_
 have i0:f0 0=C n1:=ha 0 bh
 refine aB<|au (v:=.bool false) J J<|bt<|ak J i0<|ak J i0<|k<|neq J J J J<|au (v:=.bool (!decide (n1=n1))) J J<|av<|rt<|r1 J J ?_
 exact⟨amh Value.bool bh,H.below⟩
theorem yY {n2:Int} (acb:aK n1) (ahE:aK n2):Calls aJ 105 #[C n1,C n2] w (cb fun v w'=>v=C (fA n1 n2)∧Ext w w'):=by
 refine df 20 Tryz.func105 J J J pk fun f0 ha H=>?_
 have i0:f0 0=C n1:=ha 0 bh
 have i1:f0 1=C n2:=ha 1 bh
 refine aB<|au (v:=C 0) J J<|bt<|ak J i0<|k ?_
 have bP:=Je (n1:=n1) (w:=w) acb
 refine ca XP J (ec J e0) bP ?_
 rintro _ w0 ⟨rfl,bS⟩
 have H0:=H.ext bS
 refine au (v:=.bool false) J J<|bt<|ak J i1<|k ?_
 have cV:=Je (n1:=n2) (w:=w0) ahE
 refine ca XP J (ec J e0) cV ?_
 rintro _ w1 ⟨rfl,cY⟩
 have H1:=H0.ext cY
 refine au (v:=.bool false) J J<|av<|sq<|aB<|ak (v:=.bool false) J J<|av<|nP J J J<|sk<|nx<|sq<|aB<|ak (v:=.bool false) J J<|av<|nP J J J<|sk<|nx<|sq<|aB<|ak J i0<|ak J i1<|k<|lss J J J J<|z<|nx ?_
 refine cd (b:=decide (n1<n2)) J J (fun b0=>?_)<|fun b0=>?_
 ·
  have p0:=dT b0
  refine aB<|au (v:=C (-1)) J J<|av<|rt<|aL<|r1 J J ?_
  exact⟨amh (Value.int .i64) (by simp only[fA,b0,BL]),H1.below⟩
 have p0:=dF b0
 refine sk<|nx<|sq<|aB<|ak J i0<|ak J i1<|k<|gtr J J J J<|z<|nx ?_
 refine cd (b:=decide (n2<n1)) J J (fun b1=>?_)<|fun b1=>?_
 ·
  have p1:=dT b1
  refine aB<|au (v:=C 1) J J<|av<|rt<|aL<|r1 J J ?_
  exact⟨amh (Value.int .i64) (by simp only[fA,b0,b1,BL]),H1.below⟩
 have p1:=dF b1
 refine sk<|cI<|au (v:=C 0) J J<|av<|rt<|r1 J J ?_
 exact⟨amh (Value.int .i64) (by simp only[fA,b0,b1,BL]),H1.below⟩
theorem acZ (hM:eD M w) (tC:cw M w l_ mC l):Calls aJ 104 #[R l_ l mC] w (cb fun v w'=>v=C (Cd l)∧Ext w w'):=by
 refine df 18 Tryz.func104 J J J hM fun f0 ha H=>?_
 have H0:=ee H tC
 have Li:=aP tC
 have i0:f0 0=R l_ l mC:=ha 0 bh
 refine aB<|au (v:=C 0) J J<|bt<|au (v:=C 0) J J<|av<|sq<|aB<|ak J i0<|k<|dW J J cG<|ak (v:=C 0) J J<|av<|bk ?_
 refine lp (fun m f w'=>∃(j_:Nat),m=l.length-j_∧f 3=C 0∧f 6=R l_ l mC∧f 7=C (l.length:Int)∧f 8=C (j_:Int)∧HI M w w' [iL l_ l mC]∧(j_≤l.length)∧(∀y∈l.take j_,y=0)) _ ⟨0,J,J,J,J,(bJ J),H0,aq,bh⟩ ?_
 rintro _ f0 w0 ⟨j_,rfl,s0,s1,s2,s3,H1,pt,hs⟩
 refine aB<|k<|lss J J s3 s2<|av<|sq ?_
 refine cd (b:=decide ((j_:Int)<(l.length:Int))) J J (fun b0=>?_)<|fun b0=>?_
 ·
  have p0:=dT b0
  refine sk<|nx<|sq<|bk<|aB<|k<|ia (H1.rv 0 J) J J s1 s3 aq cG aW ?_
  intro iw x0 aQ cu
  refine k<|mQ cu.w aW J J ?_
  intro cm
  refine au (v:=C x0) J J<|bt<|ak (v:=C x0) J J<|ak J s0<|k<|neq J J J J<|z<|nx ?_
  refine cd (b:=!decide (x0=0)) J J (fun b1=>?_)<|fun b1=>?_
  ·
   have p1:=dF<|fY b1
   refine aB<|ak (v:=C x0) J J<|au (v:=C x0) J J<|av<|rt<|bQ<|aL<|dQ<|bQ<|aL<|r1 J J ?_
   exact⟨amh (Value.int .i64) (by exact(NW hs (by rw[dZ] at aQ;exact aQ)<|by simpa using b1).symm),H1.below⟩
  have p1:=dT<|fk b1
  refine sk<|aI<|nx<|rg<|k<|add J J s3 J aV<|ak (v:=C ((j_:Int)+1)) J J<|z ?_
  refine bB _ ?_ ⟨(j_+1),J,s0,s1,s2,(bJ J),H1,aq,(by exact Yk hs aQ (by simpa using b1))⟩
  omega
 have p0:=dF b0
 refine ex<|aX<|bf<|bg<|cI<|ak J s0<|au (v:=C 0) J J<|av<|rt<|r1 J J ?_
 exact⟨amh (Value.int .i64) (by exact(K6<|by rw[amr aq] at hs;exact hs).symm),H1.below⟩
theorem Mf (A3:aK fm) (Du:aK fu) (A2:aK gA) (XF:aK mB) (XE:aK mA) (XD:aK mZ):Calls aJ 103 #[.agg #[C fm,C fu,C gA],.agg #[C mB,C mA,C mZ]] w (cb fun v w'=>v=C (xr (fm,fu,gA) (mB,mA,mZ))∧Ext w w'):=by
 refine df 22 Tryz.func103 J J J pk fun f0 ha H=>?_
 have i0:f0 0=.agg #[C fm,C fu,C gA]:=ha 0 bh
 have i1:f0 1=.agg #[C mB,C mA,C mZ]:=ha 1 bh
 refine aB<|k<|bx H J i0 ?_
 intro aY w0 bS (H0:HI (fun _=>False) w w0 [box aY #[C fm,C fu,C gA] 122])
 refine k<|bx H0 J i1 ?_
 intro ba w1 cY (H1:HI (fun _=>False) w w1 [box ba #[C mB,C mA,C mZ] 122,box aY #[C fm,C fu,C gA] 122])
 refine au (v:=C 0) J J<|av<|sq ?_
 refine Tl J (by kernel_rfl) ?_
 refine xq J<|kq (fun _ _=>fa kE rfl rfl e1)<|zq<|xq J<|kq (fun _ x_=>lx (H1.ext x_) 1 rfl aW rfl rfl rfl e1)<|zq<|xq J<|kq (fun _ _=>fa kE rfl rfl e1)<|zq<|xq J<|kq (fun _ x_=>lx (H1.ext x_) 0 rfl aW rfl rfl rfl e1)<|zq<|xq J ?_
 refine kq (v:=C (fA fm mB)) (fun v_ x_=>?_) ?_
 ·
  have cc:=yY (n1:=fm) (n2:=mB) (w:=v_) A3 XF
  exact ca Qm J (ec J<|ec J e0) cc fun _ _ h_=>e2 h_
 refine zq<|xq J<|kq (fun _ _=>fa mI rfl rfl e1)<|zq<|xq J<|kq (fun _ x_=>lx (H1.ext x_) 1 rfl aW rfl rfl rfl e1)<|zq<|xq J<|kq (fun _ _=>fa mI rfl rfl e1)<|zq<|xq J<|kq (fun _ x_=>lx (H1.ext x_) 0 rfl aW rfl rfl rfl e1)<|zq<|xq J ?_
 refine kq (v:=C (fA fu mA)) (fun v_ x_=>?_) ?_
 ·
  have cc:=yY (n1:=fu) (n2:=mA) (w:=v_) Du XE
  exact ca Qm J (ec J<|ec J e0) cc fun _ _ h_=>e2 h_
 refine zq<|xq J<|kq (fun _ _=>fa sl rfl rfl e1)<|zq<|xq J<|kq (fun _ x_=>lx (H1.ext x_) 1 rfl aW rfl rfl rfl e1)<|zq<|xq J<|kq (fun _ _=>fa sl rfl rfl e1)<|zq<|xq J<|kq (fun _ x_=>lx (H1.ext x_) 0 rfl aW rfl rfl rfl e1)<|zq<|xq J ?_
 refine kq (v:=C (fA gA mZ)) (fun v_ x_=>?_) ?_
 ·
  have cc:=yY (n1:=gA) (n2:=mZ) (w:=v_) A2 XD
  exact ca Qm J (ec J<|ec J e0) cc fun _ _ h_=>e2 h_
 refine zq ?_
 refine xu (fun v w'=>∃(a0:OA) (c0:Nat),v=R a0 ([fA fm mB,fA fu mA,fA gA mZ]:List Int) c0∧RV H1.fW w' (R a0 ([fA fm mB,fA fu mA,fA gA mZ]:List Int) c0) ([fA fm mB,fA fu mA,fA gA mZ]:List Int)) J (by rintro _ _ _ x_ ⟨a0,c0,e_,cm⟩;exact⟨a0,c0,e_,cm.lift (Up.ext x_)⟩) J (fun v_ x_=>?_) ?_
 ·
  have H4:=H1.ext x_
  refine bs (xs:=([fA fm mB,fA fu mA,fA gA mZ]:List Int)) (cells:=#[C (fA fm mB),C (fA fu mA),C (fA gA mZ)]) (e:=3) H4 J (cj J<|cj J<|cj J ey) (fun _=>aM) ⟨[C (fA fm mB)],[C (fA fu mA),C (fA gA mZ)],J,⟨J,(show aK (fA fm mB) from(by exact Fy _ _))⟩,⟨[C (fA fu mA)],[C (fA gA mZ)],J,⟨J,(show aK (fA fu mA) from(by exact Fy _ _))⟩,⟨[C (fA gA mZ)],[],J,⟨J,(show aK (fA gA mZ) from(by exact Fy _ _))⟩,J⟩⟩⟩ J aw ?_
  intro g1 w3 fB (H5:HI (fun _=>False) w w3 [own w.heap.size 3 (.slice (some ⟨g1,0,none⟩) 3 3) ([fA fm mB,fA fu mA,fA gA mZ]:List Int),box ba #[C mB,C mA,C mZ] 122,box aY #[C fm,C fu,C gA] 122])
  have H6:=H5.freeze 0 J
  exact⟨_,J,fB,⟨(some ⟨g1,0,none⟩),3,J,(mG J<|H6.rv 0 J)⟩⟩
 refine Z2 (X:=C (Cd ([fA fm mB,fA fu mA,fA gA mZ]:List Int))) 0 J J (fun v_ _ x_ h_=>let ⟨a2,c2,s0,dV⟩:=h_;have H9:=(H1.ext x_).put (it:=iL a2 ([fA fm mB,fA fu mA,fA gA mZ]:List Int) c2) rfl dV;have cc:=acZ (l:=([fA fm mB,fA fu mA,fA gA mZ]:List Int)) H9.mb (H9.rv 0 J);ca ae6 rfl (ec s0 e0) cc fun _ _ h_=>e2 h_) ?_
 refine xq J<|kq (fun _ _=>jB (v:=C (Cd ([fA fm mB,fA fu mA,fA gA mZ]:List Int))) rfl rfl e1)<|zq<|zx ?_
 intro w5 f0 jb cz iC
 have dC:=H1.ext jb
 have s1:=cz 4 J
 refine nx<|rt<|r1 J J ?_
 rw[s1]
 exact⟨amh (Value.int .i64) (show (Cd ([fA fm mB,fA fu mA,fA gA mZ]:List Int))=(xr (fm,fu,gA) (mB,mA,mZ)) from rfl),dC.below⟩
set_option maxRecDepth 100000 in
set_option maxHeartbeats 1600000 in
def MT:Go.Shelf.Ren:=⟨fun|6=>102|15=>140|14=>139|28=>166|29=>167|20=>158|21=>159|22=>160|23=>161|24=>162|25=>163|26=>164|27=>165|46=>179|47=>180|48=>181|49=>182|50=>183|57=>191|n=>n,fun|22=>119|24=>122|25=>159|3=>3|39=>152|0=>0|53=>214|55=>151|4=>4|46=>208|45=>207|50=>86|5=>5|9=>9|66=>228|70=>232|76=>241|77=>242|n=>n,fun|n=>n⟩
theorem NC:Go.Proofs.SlLaysF0.n6 aJ MT:={
  mixed:=aM
  f6:=⟨Tryz.f102.name,by decide,Tryz.func102.trans (amh some (by kernel_rfl))⟩
  f14:=⟨Tryz.f139.name,by decide,Tryz.func139.trans (amh some (by kernel_rfl))⟩
  f15:=Tryz.func140.trans (amh some (by kernel_rfl))
  f20:=⟨Tryz.f158.name,by decide,Tryz.func158.trans (amh some (by kernel_rfl))⟩
  f21:=⟨Tryz.f159.name,by decide,Tryz.func159.trans (amh some (by kernel_rfl))⟩
  f22:=⟨Tryz.f160.name,by decide,Tryz.func160.trans (amh some (by kernel_rfl))⟩
  f23:=⟨Tryz.f161.name,by decide,Tryz.func161.trans (amh some (by kernel_rfl))⟩
  f24:=⟨Tryz.f162.name,by decide,Tryz.func162.trans (amh some (by kernel_rfl))⟩
  f25:=⟨Tryz.f163.name,by decide,Tryz.func163.trans (amh some (by kernel_rfl))⟩
  f26:=⟨Tryz.f164.name,by decide,Tryz.func164.trans (amh some (by kernel_rfl))⟩
  f27:=⟨Tryz.f165.name,by decide,Tryz.func165.trans (amh some (by kernel_rfl))⟩
  f28:=Tryz.func166.trans (amh some (by kernel_rfl))
  f29:=Tryz.func167.trans (amh some (by kernel_rfl))
  f46:=⟨Tryz.f179.name,by decide,Tryz.func179.trans (amh some (by kernel_rfl))⟩
  f47:=Tryz.func180.trans (amh some (by kernel_rfl))
  f48:=Tryz.func181.trans (amh some (by kernel_rfl))
  f49:=⟨Tryz.f182.name,by decide,Tryz.func182.trans (amh some (by kernel_rfl))⟩
  f50:=⟨Tryz.f183.name,by decide,Tryz.func183.trans (amh some (by kernel_rfl))⟩
  f57:=⟨Tryz.f191.name,by decide,Tryz.func191.trans (amh some (by kernel_rfl))⟩
  t0:=Tryz.underlying0
  a0:=Tryz.isAgg0
  z0:=Tryz.sizeOf0
  v0:=Tryz.zeroValue0
  t3:=Tryz.underlying3
  a3:=Tryz.isAgg3
  z3:=Tryz.sizeOf3
  v3:=Tryz.zeroValue3
  t4:=Tryz.underlying4
  a4:=Tryz.isAgg4
  z4:=Tryz.sizeOf4
  v4:=Tryz.zeroValue4
  t5:=Tryz.underlying5
  a5:=Tryz.isAgg5
  z5:=Tryz.sizeOf5
  v5:=Tryz.zeroValue5
  t9:=Tryz.underlying9
  a9:=Tryz.isAgg9
  z9:=Tryz.sizeOf9
  v9:=Tryz.zeroValue9
  t22:=Tryz.underlying119
  a22:=Tryz.isAgg119
  z22:=Tryz.sizeOf119
  v22:=Tryz.zeroValue119
  t25:=Tryz.underlying159
  a25:=Tryz.isAgg159
  z25:=Tryz.sizeOf159
  v25:=Tryz.zeroValue159
  t39:=Tryz.underlying152
  a39:=Tryz.isAgg152
  z39:=Tryz.sizeOf152
  v39:=Tryz.zeroValue152
  t45:=Tryz.underlying207
  a45:=Tryz.isAgg207
  z45:=Tryz.sizeOf207
  v45:=Tryz.zeroValue207
  t46:=Tryz.underlying208
  a46:=Tryz.isAgg208
  z46:=Tryz.sizeOf208
  v46:=Tryz.zeroValue208
  t50:=Tryz.underlying86
  a50:=Tryz.isAgg86
  z50:=Tryz.sizeOf86
  v50:=Tryz.zeroValue86
  t53:=Tryz.underlying214
  a53:=Tryz.isAgg214
  z53:=Tryz.sizeOf214
  v53:=Tryz.zeroValue214
  t55:=Tryz.underlying151
  a55:=Tryz.isAgg151
  z55:=Tryz.sizeOf151
  v55:=Tryz.zeroValue151
  t66:=Tryz.underlying228
  a66:=Tryz.isAgg228
  z66:=Tryz.sizeOf228
  v66:=Tryz.zeroValue228
  t70:=Tryz.underlying232
  a70:=Tryz.isAgg232
  z70:=Tryz.sizeOf232
  v70:=Tryz.zeroValue232
  t76:=Tryz.underlying241
  a76:=Tryz.isAgg241
  z76:=Tryz.sizeOf241
  v76:=Tryz.zeroValue241
  t77:=Tryz.underlying242
  a77:=Tryz.isAgg242
  z77:=Tryz.sizeOf242
  v77:=Tryz.zeroValue242}
theorem Q8 (jx off size:Nat) (w:World):Go.Proofs.CmpLays aJ 103 #[] Qv 3 (fun x y:BG=>xr x.1 y.1) jx off size w:=by
  intro m os dk _ x y
  obtain⟨⟨a1,a2,a3⟩,h1,h2,h3⟩:=x
  obtain⟨⟨b1,b2,b3⟩,k1,k2,k3⟩:=y
  refine(Mf h1 h2 h3 k1 k2 k3).mono ?_
  intro e w' h_
  unfold cb at h_
  obtain⟨v,rfl,rfl,hx⟩:=h_
  exact⟨J,hx.grow⟩
theorem Q9 {dO:Option Addr} {xs:List dU} (hl:xs.length≤4611686018427387903) (H:HI M w w_ ([own w.heap.size 122 (.slice dO xs.length dH) xs]++r)):
    Calls aJ 102 #[.slice dO xs.length dH,.func (.func 103) #[] #[]] w_ (cb fun v w'=>v=.tuple #[]∧HI M w w' ([own w.heap.size 122 (.slice dO xs.length dH) (vQ xs)]++r)):=by
  have H0:=H.all _ (dJ (i:=0) J)
  obtain⟨cs,⟨hn,ho⟩,hc⟩:=H0
  rcases ho with ⟨ho,h0⟩|⟨g,cap,cur,ho, -⟩
  · have hx:xs=[]:=ani.1 h0
    subst hx
    cases ho
    refine(Go.Proofs.AnyF.slices_SortFunc_none NC none 0 _ w_).mono ?_
    rintro e w' ⟨rfl,rfl⟩
    unfold cb
    exact⟨_,J,J,by rw[Q_];exact H⟩
  cases ho
  obtain⟨bs,e0,hH,hb,hT⟩:=Q7 (i:=0) (val:=fun b:BG=>b.1) VJ H rfl
  have hn:xs.length=bs.toArray.size:=by rw[←e0];simp
  have eg:∀args w,(callFunc 103 args).run aJ w=.ok (.enter 103 args) w:=enters_of Tryz.func103 (by kernel_rfl) rfl
  have h:=Go.Proofs.AnyQ.slices_SortFunc NC 3 Tryz.isAgg122 Tryz.sizeOf122 Qv (fun _=>rfl) (fun x v hv=>by simp[Qv] at hv;rcases hv with rfl|rfl|rfl<;>rfl) (fun x y:BG=>xr x.1 y.1) aah 103 #[] g 0 dH bs.toArray w_ eg (Q8 _ _ _ _) hH hb<|by rw[←hn];omega
  rw[hn]
  refine h.mono ?_
  rintro e w' ⟨rfl,d',n,os,hp,hs,rfl⟩
  have e1:=Go.Sort.sorted_unique_holds aah agQ bs.toArray d' hp hs
  unfold cb
  refine⟨_,J,J,?_⟩
  have:=hT d'.toList n os<|by simpa using hp.1
  rw[←hn,←e0,Q',←e1,e0]
  exact this
theorem Vt:ct aJ 88:=⟨_,_,Tryz.func88,rfl,aM⟩
theorem gV:aJ.underlying 24=some (.slice 144):=aM
theorem cZ:eh aJ 144 1 false 24 (.slice none 0 0):=⟨aM,aM⟩
theorem j6:gM aJ 26 0 0:=⟨_,_,Tryz.underlying26,rfl,rfl,aM⟩
theorem aeO:ct aJ 138:=⟨_,_,Tryz.func138,rfl,aM⟩
theorem aeP:ct aJ 137:=⟨_,_,Tryz.func137,rfl,aM⟩
theorem bm:eh aJ 26 2 true 32 (.agg #[.int .i64 0,.slice none 0 0]):=⟨aM,aM⟩
theorem Qb:ct aJ 84:=⟨_,_,Tryz.func84,rfl,aM⟩
theorem XX:ct aJ 101:=⟨_,_,Tryz.func101,rfl,aM⟩
theorem ik:gM aJ 26 1 1:=⟨_,_,Tryz.underlying26,rfl,rfl,aM⟩
theorem kO:eh aJ 24 1 false 24 (.slice none 0 0):=⟨aM,aM⟩
theorem aez:ct aJ 178:=⟨_,_,Tryz.func178,rfl,aM⟩
theorem Fh:ct aJ 86:=⟨_,_,Tryz.func86,rfl,aM⟩
theorem LY:ct aJ 85:=⟨_,_,Tryz.func85,rfl,aM⟩
theorem vk {r:List Int} (hM:eD M w) (mT:cw M w jC jQ r) (zW:FP aJ pY qb M w r p):Calls aJ 88 #[R jC r jQ,.func (.func pY) #[] qb.toArray] w (cb fun v w'=>v=C (eF p r)∧Ext w w'):=by
 refine df 19 Tryz.func88 J J J hM fun f0 ha H=>?_
 have H0:=ee H mT
 have AR:=aP mT
 have i0:f0 0=R jC r jQ:=ha 0 bh
 have i1:f0 1=.func (.func pY) #[] qb.toArray:=ha 1 bh
 refine aB<|au (v:=C 0) J J<|av<|sq<|aB<|ak J i0<|k<|dW J J cG<|ak (v:=C 0) J J<|av<|bk ?_
 refine lp (fun m f w'=>∃(j:Nat),m=r.length-j∧f 0=R jC r jQ∧f 1=.func (.func pY) #[] qb.toArray∧f 7=C (r.length:Int)∧f 8=C (j:Int)∧HI M w w' [iL jC r jQ]∧(j≤r.length)∧((r.take j).any p=false)) _ ⟨0,J,i0,i1,J,(bJ J),H0,aq,bh⟩ ?_
 rintro _ f0 w0 ⟨j,rfl,s0,s1,s2,s3,H1,hk,hs⟩
 refine aB<|k<|lss J J s3 s2<|av<|sq ?_
 refine cd (b:=decide ((j:Int)<(r.length:Int))) J J (fun b0=>?_)<|fun b0=>?_
 ·
  have p0:=dT b0
  refine sk<|nx<|sq<|bk<|aB<|ak J s3<|au (v:=C (j:Int)) J J<|bt<|ak J s1<|ak J s0<|ak (v:=C (j:Int)) J J<|k<|ia (H1.rv 0 J) J J J J aq cG aW ?_
  intro iw x0 aQ cu
  refine k<|mQ cu.w aW J J ?_
  intro cm
  refine k<|cf zW.1 J J J (ec J e0) (zW.2 _ _ _ (by exact dJ ‹_›) H1.below<|(RV.int.2 ⟨J,aV⟩).lift H1.out) ?_
  rintro _ w1 ⟨rfl,bS⟩
  have H2:=H1.ext bS
  refine z<|nx ?_
  refine cd (b:=p x0) J J (fun b1=>?_)<|fun b1=>?_
  ·
   refine aB<|ak (v:=C (j:Int)) J J<|au (v:=C (j:Int)) J J<|av<|rt<|bQ<|aL<|dQ<|bQ<|aL<|r1 J J ?_
   exact⟨amh (Value.int .i64) (by exact tW aQ hs b1),H2.below⟩
  refine sk<|aI<|nx<|rg<|k<|add J J s3 J aV<|ak (v:=C ((j:Int)+1)) J J<|z ?_
  refine bB _ ?_ ⟨(j+1),J,s0,s1,s2,(bJ J),H2,aq,(by exact pe aQ hs b1)⟩
  omega
 have p0:=dF b0
 refine ex<|aX<|bf<|bg<|cI<|au (v:=C (-1)) J J<|av<|rt<|r1 J J ?_
 exact⟨amh (Value.int .i64) (by exact uK hs aq),H1.below⟩
theorem Fw {r:List Int} (hM:eD M w) (mT:cw M w jC jQ r) (zW:FP aJ pY qb M w r p):Calls aJ 137 #[R jC r jQ,.func (.func pY) #[] qb.toArray] w (cb fun v w'=>v=.bool (r.any p)∧Ext w w'):=by
 refine df 9 Tryz.func137 J J J hM fun f0 ha H=>?_
 have H0:=ee H mT
 have AR:=aP mT
 have i0:f0 0=R jC r jQ:=ha 0 bh
 have i1:f0 1=.func (.func pY) #[] qb.toArray:=ha 1 bh
 refine aB<|au (v:=.bool false) J J<|bt<|ak J i0<|ak J i1<|k ?_
 have bP:=vk (r:=r) (p:=p) H0.mb (H0.rv 0 J)<|zW.sub H0.below T3
 refine ca Vt J (ec J<|ec J e0) bP ?_
 rintro _ w0 ⟨rfl,bS⟩
 have H1:=H0.ext bS
 refine k<|geq J J J J<|au (v:=.bool (decide (0≤(eF p r)))) J J<|av<|rt<|r1 J J ?_
 exact⟨amh Value.bool (by exact wW),H1.below⟩
theorem Qy {r:List (List bX)} (hM:eD M w) (mT:cw M w jC jQ r) (Vo:r.length≤1000000000):Calls aJ 178 #[R jC r jQ] w (cb fun v w'=>∃(a0:OA) (c0:Nat),v=R a0 r c0∧Ext w w'∧bj M 144 w r (R a0 r c0) w'):=by
 refine df 8 Tryz.func178 J J J hM fun f0 ha H=>?_
 have H0:=ee H mT
 have AR:=aP mT
 have i0:f0 0=R jC r jQ:=ha 0 bh
 refine aB<|au (v:=.slice none 0 0) J J<|av<|sq<|aB<|ak J i0<|k<|Tb J J J J gV<|z<|nx ?_
 refine cd (b:=jC.isNone) J J (fun b0=>?_)<|fun b0=>?_
 ·
  refine aB<|au (v:=.slice none 0 0) J J<|av<|rt<|aL<|r1 J J ?_
  have e0:([]:List (List bX))=r:=by exact(Ht mT b0).symm
  have bo:=iq (fun (bV:List (List bX))=>(.slice none bV.length 0:Value)) e0
  exact⟨none,0,bo,H0.below,(amh (fun (x_:List (List bX))=>bj _ _ _ x_ (.slice none x_.length 0) _) e0).mp (fL H0.below)⟩
 refine sk<|cI<|k<|bs (xs:=([]:List (List bX))) (cells:=#[]) (e:=144) H0 J ey (fun _=>aM) J J aw ?_
 intro g0 w0 bS H1
 refine ak J i0<|k<|l9 H1 0 J J J J J J (H1.rv 1 J).src gV cZ J (by simp;omega) J ?_
 intro a0 c0 w1 (H2:HI M w w1 [oL w 144 a0 r c0,iL jC r jQ])
 refine au (v:=R a0 r c0) J J<|av<|rt<|r1 J J ?_
 exact⟨a0,c0,J,H2.below,(H2.da 0 J)⟩
theorem Y4 {a_u:OA} {n_u c_u:Nat} (hM:eD M w) (qA:aK i) (LR:aK n) (CF:w.heap[xB]? =some (.cells #[C n,.slice a_u n_u c_u] Ho (0,0))∧¬M xB):Calls aJ 138 #[C i,.pointer (some ⟨xB,0,none⟩)] w (cb fun v w'=>v=.bool (Cb n i)∧Ext w w'):=by
 refine df 12 Tryz.func138 J J J hM fun f0 ha H=>?_
 have i0:f0 0=C i:=ha 0 bh
 have H0:=H.put (it:=ro xB #[C n,.slice a_u n_u c_u] Ho) J<|by rw[bN];exact CF
 have i1:f0 1=pV xB 0:=ha 1 bh
 refine aB<|au (v:=.bool false) J J<|bt<|ak J i0<|k<|lss J J J J<|ak (v:=.bool (decide (i<0))) J J ?_
 rcases bE (decide (i<0)) with b0|b0
 ·
  have p0:=dT b0
  refine aN J J J b0<|aN J J J b0<|aN J J J b0<|aN J J J b0<|k<|aR J J J J b0 J<|au (v:=.bool true) J J<|av<|rt<|r1 J J ?_
  exact⟨amh Value.bool (by unfold Cb;simp[b0]),H0.below⟩
 have p0:=dF b0
 refine aT J J J b0<|mv J i0<|aT J J J b0<|fa j6 J i1<|aT J J J b0<|lr H0 0 J aW J J J<|aT J J J b0<|geq J J J J<|k<|cK J J J J b0 J<|au (v:=.bool (decide (n≤i))) J J<|av<|rt<|r1 J J ?_
 exact⟨amh Value.bool (by unfold Cb;simp[b0]),H0.below⟩
theorem R2 {MD:OA} {Le Mk:Nat} (hM:eD M w) (fZ:aK mn) (tC:cw M w l_ mC l):Calls aJ 101 #[.agg #[C mn,.slice MD Le Mk],R l_ l mC] w (cb fun v w'=>v=.bool (kg mn l)∧Ext w w'):=by
 refine df 9 Tryz.func101 J J J hM fun f0 ha H=>?_
 have H0:=ee H tC
 have Li:=aP tC
 have i0:f0 0=.agg #[C mn,.slice MD Le Mk]:=ha 0 bh
 have i1:f0 1=R l_ l mC:=ha 1 bh
 refine aB<|k<|bx H0 J i0 ?_
 intro aY w0 bS (H1:HI M w w0 [box aY #[C mn,.slice MD Le Mk] 26,iL l_ l mC])
 refine au (v:=.bool false) J J<|bt<|ak J i1<|k<|mf J<|k ?_
 have bP:=Fw (r:=l) (p:=(fun (x_:Int)=>Cb mn x_)) H1.mb (H1.rv 1 J) ⟨aeO,fun w_ v_ x_ sV e_ Gu=>by have H_:=H1.ext e_;obtain⟨_,⟨rfl,cm⟩,rfl⟩:=Gu;exact Y4 (n:=mn) (M:=fun _=>False) (fun _ h_=>h_.elim) cm aV ⟨H_.at_ 0 rfl,fun h_=>h_⟩⟩
 refine ca aeP J (ec J<|ec J e0) bP ?_
 rintro _ w1 ⟨rfl,cY⟩
 have H2:=H1.ext cY
 refine k<|jE J J<|au (v:=.bool (!(l.any<|fun (x_:Int)=>Cb mn x_))) J J<|av<|rt<|r1 J J ?_
 exact⟨amh Value.bool (show (!(l.any<|fun (x_:Int)=>Cb mn x_))=(kg mn l) from rfl),H2.below⟩
theorem N7 (hM:eD M w) (LR:aK n):Calls aJ 121 #[C n] w (cb fun v w'=>∃(a0:OA) (c0:Nat),v=.tuple #[.agg #[C (n9 n),.slice a0 (iz n).length c0],C (rH n)]∧Ext w w'∧bj M 144 w (iz n) (.slice a0 (iz n).length c0) w'):=by
 refine df 29 Tryz.func121 J J J hM fun f0 ha H=>?_
 have i0:f0 0=C n:=ha 0 bh
 refine aB<|k<|al H bm ?_
 intro aY w0 bS (H0:HI M w w0 [box aY #[C 0,.slice none 0 0] 26])
 let J0:=box aY #[C 0,.slice none 0 0] 26
 refine au (v:=C 0) J J<|av<|sq<|aB<|ak J i0<|k<|lss J J J J<|ak (v:=.bool (decide (n<0))) J J ?_
 rcases bE (decide (n<0)) with b0|b0
 ·
  have p0:=dT b0
  refine aN J J J b0<|aN J J J b0<|k<|aR J J J J b0 J<|av<|oP J J J<|aB<|k<|bd (v:=.agg #[C 0,.slice none 0 0]) J ey (fun _=>aM)<|k<|bp H0 0 J bm J J J J J J J ?_
  intro w1 (H1:HI M w w1 [J0])
  refine au (v:=C 1) J J<|av<|rt<|aL<|ib H1 0 J bm J J J J J aw ?_
  have e0:(0:Int)=n9 n:=by exact(wb (zF.2 aq)).1.symm
  have e1:([]:List (List bX))=iz n:=by exact(wb (zF.2 aq)).2.1.symm
  have e2:(1:Int)=rH n:=by exact(wb (zF.2 aq)).2.2.symm
  have bo:=qH (fun (bV:Int) (dI:List (List bX)) (gv:Int)=>(.tuple #[.agg #[C bV,.slice none dI.length 0],C gv]:Value)) e0 e1 e2
  exact⟨none,0,bo,H1.below,(amh (fun (x_:List (List bX))=>bj _ _ _ x_ (.slice none x_.length 0) _) e1).mp (fL H1.below)⟩
 have p0:=dF b0
 refine aT J J J b0<|mv J i0<|aT J J J b0<|gtr J J J J<|k<|cK J J J J b0 J<|z<|nx ?_
 refine cd (b:=decide (4096<n)) J J (fun b1=>?_)<|fun b1=>?_
 ·
  have p1:=dT b1
  refine aB<|k<|bd (v:=.agg #[C 0,.slice none 0 0]) J ey (fun _=>aM)<|k<|bp H0 0 J bm J J J J J J J ?_
  intro w1 (H1:HI M w w1 [J0])
  refine au (v:=C 1) J J<|av<|rt<|aL<|ib H1 0 J bm J J J J J aw ?_
  have e0:(0:Int)=n9 n:=by exact(wb (zF.2 aq)).1.symm
  have e1:([]:List (List bX))=iz n:=by exact(wb (zF.2 aq)).2.1.symm
  have e2:(1:Int)=rH n:=by exact(wb (zF.2 aq)).2.2.symm
  have bo:=qH (fun (bV:Int) (dI:List (List bX)) (gv:Int)=>(.tuple #[.agg #[C bV,.slice none dI.length 0],C gv]:Value)) e0 e1 e2
  exact⟨none,0,bo,H1.below,(amh (fun (x_:List (List bX))=>bj _ _ _ x_ (.slice none x_.length 0) _) e1).mp (fL H1.below)⟩
 have p1:=dF b1
 refine sk<|cI<|ak J i0<|k ?_
 have n0:((n.toNat:Nat):Int)=n:=amT aq
 refine mk (m:=n.toNat) (zx:=([]:(List bX))) H0 J J (by rw[n0];exact rfl) (by rw[n0];exact rfl) gV cZ (fun _ _=>⟨_,J,F2 _ _⟩) aq aq ?_
 intro g0 w1 cY (H1:HI M w w1 [own w.heap.size 144 (.slice (some ⟨g0,0,none⟩) n.toNat n.toNat) (List.replicate n.toNat ([]:(List bX))),J0])
 refine au (v:=.slice (some ⟨g0,0,none⟩) n.toNat n.toNat) J J<|av<|sq<|aB<|ak (v:=.slice (some ⟨g0,0,none⟩) n.toNat n.toNat) J J<|k<|dW J J gV<|ak (v:=C 0) J J<|av<|bk ?_
 refine lp (fun m f w'=>∃(j:Nat) (xs:List (List bX)),m=n.toNat-j∧f 0=C n∧f 2=pV aY 0∧f 4=.slice (some ⟨g0,0,none⟩) n.toNat n.toNat∧f 16=C (n.toNat:Int)∧f 17=C (j:Int)∧HI M w w' [own w.heap.size 144 (.slice (some ⟨g0,0,none⟩) n.toNat n.toNat) xs,J0]∧(j≤n.toNat)∧(xs.length=n.toNat)∧(xs=uY n.toNat j (dX n) [])) _ ⟨0,(List.replicate n.toNat ([]:(List bX))),J,i0,J,J,J,(bJ J),H1,aq,bh,(by exact Ni _ _ _)⟩ ?_
 rintro _ f0 w2 ⟨j,xs,rfl,s0,s1,s2,s3,s4,H2,hk,hl,hs⟩
 refine aB<|k<|lss J J s4 s3<|av<|sq ?_
 refine cd (b:=decide ((j:Int)<(n.toNat:Int))) J J (fun b2=>?_)<|fun b2=>?_
 ·
  have p2:=dT b2
  refine sk<|nx<|sq<|bk<|aB<|ak J s4<|au (v:=C (j:Int)) J J<|av<|rg<|ak J s2<|ak (v:=C (j:Int)) J J<|ak J s0<|k ?_
  have bP:=Di (n:=n) H2.mb LR aq
  refine ca Qb J (ec J e0) bP ?_
  rintro _ w3 ⟨a0,c0,rfl,eT,cm⟩
  have H3:=H2.eI cm
  refine k<|ic (H3.at_ 1 J) J J J J aq gV cZ ?_
  intro g1 x0 im aQ cu
  refine k ?_
  have H4:=H3.freeze 0 J
  refine pR H4 1 J im J aq cZ J J J J (H4.rv 0 J) ?_
  let J1:=own w.heap.size 144 (.slice (some ⟨g0,0,none⟩) n.toNat n.toNat) (xs.set ((j:Int).toNat) (dX n))
  intro w4 (H5:HI M w w4 [iL a0 (dX n) c0,J1,J0])
  refine z<|aI<|nx<|rg<|k<|add J J s4 J aV<|ak (v:=C ((j:Int)+1)) J J<|z ?_
  have H6:HI M w w4 [J1,J0]:=H5.bT [1,2] aw rfl
  refine bB _ ?_ ⟨(j+1),(xs.set ((j:Int).toNat) (dX n)),J,s0,s1,s2,s3,(bJ J),H6,aq,(by simpa using hl),(by rw[hs];exact Qt aq)⟩
  omega
 have p2:=dF b2
 refine ex<|aX<|bf<|bg<|cI<|ak J s0<|ak J s2<|k<|bd (v:=.agg #[C n,.slice (some ⟨g0,0,none⟩) n.toNat n.toNat]) J (cj J<|cj J ey) (fun _=>aM)<|k<|bp H2 1 J bm J J s1 J J J J ?_
 intro w3 (H3:HI M w w3 [own w.heap.size 144 (.slice (some ⟨g0,0,none⟩) n.toNat n.toNat) xs,box aY #[C n,.slice (some ⟨g0,0,none⟩) n.toNat n.toNat] 26])
 refine au (v:=C 0) J J<|av<|rt<|ib H3 1 J bm J J J s1 J aw ?_
 have e0:(n:Int)=n9 n:=by exact(wQ (r9.2 aq)).1.symm
 have e1:(xs:List (List bX))=iz n:=by rw[(wQ (r9.2 aq)).2.1,hs];exact Qu aq
 have l1:n.toNat=(iz n).length:=by rw[←e1];omega
 have e2:(0:Int)=rH n:=by exact(wQ (r9.2 aq)).2.2.symm
 have bo:=qH (fun (bV:Int) (uE:Nat) (gv:Int)=>(.tuple #[.agg #[C bV,.slice (some ⟨g0,0,none⟩) uE n.toNat],C gv]:Value)) e0 l1 e2
 exact⟨(some ⟨g0,0,none⟩),n.toNat,bo,H3.below,(amh (fun (n_:Nat)=>bj _ _ _ (iz n) (.slice (some ⟨g0,0,none⟩) n_ n.toNat) _) l1).mp ((amh (fun (x_:List (List bX))=>bj _ _ _ x_ (.slice (some ⟨g0,0,none⟩) n.toNat n.toNat) _) e1).mp (H3.da 0 J))⟩
theorem Y5 (hM:eD M w) (fZ:aK mn) (fG:cw M w bA bz mr) (qA:aK i) (Bz:aK j) (Xh:((mr.length:Nat):Int)=mn) (PV:∀x∈mr,x.length≤1000000000) (Xq:mn≤4096):Calls aJ 156 #[.agg #[C mn,R bA mr bz],C i,C j] w (cb fun v w'=>∃(a0:OA) (c0:Nat),v=.tuple #[.agg #[C (gX mn i j),.slice a0 (jW mn mr i j).length c0],C (lk mn i j)]∧Ext w w'∧bj M 144 w (jW mn mr i j) (.slice a0 (jW mn mr i j).length c0) w'):=by
 refine df 32 Tryz.func156 J J J hM fun f0 ha H=>?_
 let J0:=iL bA mr bz
 have H0:=H.put (it:=J0) J<|by rw[bN];exact fG
 have kA:=aP fG
 have i0:f0 0=.agg #[C mn,R bA mr bz]:=ha 0 bh
 have i1:f0 1=C i:=ha 1 bh
 have i2:f0 2=C j:=ha 2 bh
 refine aB<|k<|bx H0 J i0 ?_
 intro aY w0 bS (H1:HI M w w0 [box aY #[C mn,R bA mr bz] 26,J0])
 let J1:=box aY #[C mn,R bA mr bz] 26
 refine k<|al H1 bm ?_
 intro ba w1 cY (H2:HI M w w1 [box ba #[C 0,.slice none 0 0] 26,J1,J0])
 refine au (v:=C 0) J J<|av<|sq<|aB<|k<|cq H2 1 J bm J J aw J<|ak J i1<|ak J i2<|k<|bs (xs:=([i,j]:List Int)) (cells:=#[C i,C j]) (e:=3) H2 J (cj J<|cj J ey) (fun _=>aM) ⟨[C i],[C j],J,⟨J,qA⟩,⟨[C j],[],J,⟨J,Bz⟩,J⟩⟩ J aw ?_
 intro g0 w2 eT H3
 refine k ?_
 have H4:=H3.freeze 0 J
 have bP:=R2 (mn:=mn) (l:=([i,j]:List Int)) (MD:=bA) (Le:=mr.length) (Mk:=bz) H4.mb fZ<|H4.rv 0 J
 refine ca XX J (ec J<|ec J e0) bP ?_
 rintro _ w3 ⟨rfl,fB⟩
 have H5:=H3.ext fB
 refine k<|jE J J<|z<|nx ?_
 refine cd (b:=!(kg mn ([i,j]:List Int))) J J (fun b0=>?_)<|fun b0=>?_
 ·
  refine sq ?_
  have hq:kg mn [i,j]=false:=by simpa using b0
  refine rg<|k<|bd (v:=.agg #[C 0,.slice none 0 0]) J ey (fun _=>aM)<|k<|bp H5 1 J bm J J J J J J J ?_
  intro w4 (H6:HI M w w4 [own w.heap.size 3 (.slice (some ⟨g0,0,none⟩) 2 2) ([i,j]:List Int),box ba #[C 0,.slice none 0 0] 26,J1,J0])
  refine au (v:=C 1) J J<|av<|rt<|aL<|ib H6 1 J bm J J J J J aw ?_
  have e0:(0:Int)=gX mn i j:=by exact(od (rs:=mr) hq).1.symm
  have e1:([]:List (List bX))=jW mn mr i j:=by exact(od (rs:=mr) hq).2.1.symm
  have e2:(1:Int)=lk mn i j:=by exact(od (rs:=mr) hq).2.2.symm
  have bo:=qH (fun (bV:Int) (dI:List (List bX)) (gv:Int)=>(.tuple #[.agg #[C bV,.slice none dI.length 0],C gv]:Value)) e0 e1 e2
  exact⟨none,0,bo,H6.below,(amh (fun (x_:List (List bX))=>bj _ _ _ x_ (.slice none x_.length 0) _) e1).mp (fL H6.below)⟩
 refine sk<|nx<|sq ?_
 have hq:kg mn [i,j]=true:=by simpa using b0
 have hr:=ja.1 hq
 refine rg<|aU ik J J<|bl H5 2 J kO J J J<|k ?_
 have cV:=Qy (r:=mr) H5.mb (H5.rv 3 J) aq
 refine ca aez J (ec J e0) cV ?_
 rintro _ w4 ⟨a0,c0,rfl,iN,cm⟩
 have H6:=H5.eI cm
 refine au (v:=R a0 mr c0) J J<|bt<|ak (v:=R a0 mr c0) J J<|ak J i1<|ak (v:=R a0 mr c0) J J<|ak J i1<|k<|ic (H6.at_ 0 J) J J J J aq gV cZ ?_
 intro g1 x0 im aQ cu
 refine k<|vB cu cZ J J ?_
 intro a1 c1 dM
 have uH:=aP dM
 have H7:=ee H6 dM
 refine ak J i2<|k ?_
 have fT:=tP (r:=x0) (i:=j) H7.mb (H7.rv 0 J) Bz<|by exact PV _ (dJ aQ)
 refine ca Fh J (ec J<|ec J e0) fT ?_
 rintro _ w5 ⟨a2,c2,rfl,jb,dV⟩
 have H8:=H7.eI dV
 refine k<|ic (H8.at_ 2 J) J J J J aq gV cZ ?_
 intro g2 x1 kB cP gK
 refine k ?_
 have H9:=H8.freeze 0 J
 refine pR H9 2 J kB J aq cZ J J J J (H9.rv 0 J) ?_
 let J2:=own w.heap.size 144 (.slice a0 mr.length c0) (mr.set i.toNat (dY x0 j))
 let J3:=own w.heap.size 3 (.slice (some ⟨g0,0,none⟩) 2 2) ([i,j]:List Int)
 intro w6 (dC:HI M w w6 [iL a2 (dY x0 j) c2,iL a1 x0 c1,J2,J3,box ba #[C 0,.slice none 0 0] 26,J1,J0])
 refine bt<|aU j6 J J<|bl dC 5 J aW J J J<|ak (v:=R a0 mr c0) J J<|k<|bd (v:=.agg #[C mn,R a0 mr c0]) J (cj J<|cj J ey) (fun _=>aM)<|k<|bp dC 4 J bm J J J J J J J ?_
 intro w7 (cT:HI M w w7 [iL a2 (dY x0 j) c2,iL a1 x0 c1,J2,J3,box ba #[C mn,R a0 mr c0] 26,J1,J0])
 refine au (v:=C 0) J J<|av<|rt<|ib cT 4 J bm J J J J J aw ?_
 have e0:(mn:Int)=gX mn i j:=by exact(pG (rs:=mr) hq).1.symm
 have e1:(mr.set i.toNat (dY x0 j):List (List bX))=jW mn mr i j:=by rw[(pG (rs:=mr) hq).2.1];exact Hq aQ
 have l1:mr.length=(jW mn mr i j).length:=by rw[←e1];simp
 have e2:(0:Int)=lk mn i j:=by exact(pG (rs:=mr) hq).2.2.symm
 have bo:=qH (fun (bV:Int) (uE:Nat) (gv:Int)=>(.tuple #[.agg #[C bV,.slice a0 uE c0],C gv]:Value)) e0 l1 e2
 exact⟨a0,c0,bo,cT.below,(amh (fun (n_:Nat)=>bj _ _ _ (jW mn mr i j) (.slice a0 n_ c0) _) l1).mp ((amh (fun (x_:List (List bX))=>bj _ _ _ x_ (.slice a0 mr.length c0) _) e1).mp (cT.da 2 J))⟩
theorem tU (hM:eD M w) (fZ:aK mn) (fG:cw M w bA bz mr) (qA:aK i) (Bz:aK j) (Xh:((mr.length:Nat):Int)=mn) (PV:∀x∈mr,x.length≤1000000000) (Xq:mn≤4096):Calls aJ 64 #[.agg #[C mn,R bA mr bz],C i,C j] w (cb fun v w'=>v=.bool (eC mn mr i j)∧Ext w w'):=by
 refine df 21 Tryz.func64 J J J hM fun f0 ha H=>?_
 have H0:=ee H fG
 have kA:=aP fG
 have i0:f0 0=.agg #[C mn,R bA mr bz]:=ha 0 bh
 have i1:f0 1=C i:=ha 1 bh
 have i2:f0 2=C j:=ha 2 bh
 refine aB<|k<|bx H0 J i0 ?_
 intro aY w0 bS (H1:HI M w w0 [box aY #[C mn,R bA mr bz] 26,iL bA mr bz])
 refine au (v:=.bool false) J J<|bt<|k<|cq H1 0 J bm J J aw J<|ak J i1<|ak J i2<|k<|bs (xs:=([i,j]:List Int)) (cells:=#[C i,C j]) (e:=3) H1 J (cj J<|cj J ey) (fun _=>aM) ⟨[C i],[C j],J,⟨J,qA⟩,⟨[C j],[],J,⟨J,Bz⟩,J⟩⟩ J aw ?_
 intro g0 w1 cY H2
 refine k ?_
 have H3:=H2.freeze 0 J
 have bP:=R2 (mn:=mn) (l:=([i,j]:List Int)) (MD:=bA) (Le:=mr.length) (Mk:=bz) H3.mb fZ<|H3.rv 0 J
 refine ca XX J (ec J<|ec J e0) bP ?_
 rintro _ w2 ⟨rfl,eT⟩
 have H4:=H2.ext eT
 refine ak (v:=.bool (kg mn ([i,j]:List Int))) J J ?_
 rcases bE (kg mn ([i,j]:List Int)) with b0|b0
 ·
  refine aT J J J b0<|fa ik J J<|aT J J J b0<|lx H4 1 J kO J J J<|aT J J J b0<|mv J i1<|aT J J J b0<|ia (H4.rv 2 J) J J J J (by have hr:=ja.1 b0;omega) gV cZ ?_
  intro iw x0 aQ cu
  refine aT J J J b0<|vB cu.w cZ J J ?_
  intro a0 c0 cm
  have uH:=aP cm
  have H5:=ee H4 cm
  refine aT J J J b0<|mv J i2<|aT J J J b0 ?_
  have cV:=zr (r:=x0) (i:=j) H5.mb (H5.rv 0 J) Bz
  refine ca LY J (ec J<|ec J e0) cV ?_
  rintro _ w3 ⟨rfl,fB⟩
  have H6:=H5.ext fB
  refine k<|aR J J J J b0 J<|au (v:=.bool (fe x0 j)) J J<|av<|rt<|r1 J J ?_
  exact⟨amh Value.bool (by unfold eC;first|(rw[rS aQ,b0];rfl)|(rw[b0];rfl)),H6.below⟩
 refine aN J J J b0<|aN J J J b0<|aN J J J b0<|aN J J J b0<|aN J J J b0<|aN J J J b0<|aN J J J b0<|k<|cK J J J J b0 J<|au (v:=.bool false) J J<|av<|rt<|r1 J J ?_
 exact⟨amh Value.bool (by unfold eC;first|(rw[rS aQ,b0];rfl)|(rw[b0];rfl)),H4.below⟩
theorem HL:ct aJ 89:=⟨_,_,Tryz.func89,rfl,aM⟩
theorem O4:aJ.underlying 185=some (.slice 133):=aM
theorem FU:eh aJ 133 2 true 16 (.agg #[.int .i64 0,.int .i64 0]):=⟨aM,aM⟩
theorem aeR:ct aJ 135:=⟨_,_,Tryz.func135,rfl,aM⟩
theorem R3 (hM:eD M w) (hT:fQ 0 w) (fZ:aK mn) (fG:cw M w bA bz mr) (Xh:((mr.length:Nat):Int)=mn) (PV:∀x∈mr,x.length≤1000000000) (Xq:mn≤4096) (JN:∀x∈mr,x.length≤64):Calls aJ 128 #[.agg #[C mn,R bA mr bz]] w (cb fun v w'=>∃(a0:OA) (c0:Nat),v=.slice a0 (iG mn mr).length c0∧Ext w w'∧RV M w' (.slice a0 (iG mn mr).length c0) (iG mn mr)):=by
 refine df 32 Tryz.func128 J J J hM fun f0 ha H=>?_
 let J0:=iL bA mr bz
 have H0:=H.put (it:=J0) J<|by rw[bN];exact fG
 have kA:=aP fG
 have i0:f0 0=.agg #[C mn,R bA mr bz]:=ha 0 bh
 refine aB<|k<|bx H0 J i0 ?_
 intro aY w0 bS (H1:HI M w w0 [box aY #[C mn,R bA mr bz] 26,J0])
 let J1:=box aY #[C mn,R bA mr bz] 26
 refine au (v:=.slice none 0 0) J J<|bt<|au (v:=.slice none 0 0) J J<|av<|sq<|aB<|aU ik J J<|bl H1 0 J kO J J J<|k<|dW J J gV<|ak (v:=C 0) J J<|av<|bk ?_
 have H2:=H1.re (Int×Int) 133
 refine lp (fun m f w'=>∃(i:Nat) (xs:List (Int×Int)) (a0:OA) (c0:Nat),m=mr.length-i∧f 3=R a0 xs c0∧f 9=R bA mr bz∧f 10=C (mr.length:Int)∧f 11=C (i:Int)∧HI M w w' [oL w 133 a0 xs c0,J1,J0]∧(i≤mr.length)∧(xs=kU mr i)) _ ⟨0,([]:List (Int×Int)),none,0,J,J,J,J,(bJ J),H2,aq,(by rfl)⟩ ?_
 rintro _ f0 w1 ⟨i,xs,a0,c0,rfl,s0,s1,s2,s3,H3,Xt,hs⟩
 refine aB<|k<|lss J J s3 s2<|av<|sq ?_
 refine cd (b:=decide ((i:Int)<(mr.length:Int))) J J (fun b0=>?_)<|fun b0=>?_
 ·
  have p0:=dT b0
  refine sk<|nx<|sq<|bk<|aB<|ak J s3<|k<|ia (H3.rv 2 J) J J s1 s3 aq gV cZ ?_
  intro iw x0 aQ cu
  refine k<|vB cu.w cZ J J ?_
  intro a1 c1 cm
  have uH:=aP cm
  have H4:=ee H3 cm
  refine au (v:=C (i:Int)) J J<|au (v:=R a1 x0 c1) J J<|bt<|ak (v:=R a1 x0 c1) J J<|k ?_
  have bP:=tQ (r:=x0) H4.mb (hT.ext H4.below) (H4.rv 0 J)<|by have h_:=JN _ (dJ aQ);omega
  refine ca HL J (ec J e0) bP ?_
  rintro _ w2 ⟨a2,c2,rfl,cY,dM⟩
  have H5:=H4.eI dM
  refine k<|dW J J cG<|ak (v:=C 0) J J<|av<|bk ?_
  refine lp (fun m f w'=>∃(q:Nat) (DK:List (Int×Int)) (a3:OA) (c3:Nat),m=(cR x0).length-q∧f 3=R a3 DK c3∧f 4=C (i:Int)∧f 9=R bA mr bz∧f 10=C (mr.length:Int)∧f 11=C (i:Int)∧f 17=R a2 (cR x0) c2∧f 18=C ((cR x0).length:Int)∧f 19=C (q:Int)∧HI M w w' [oL w 3 a2 (cR x0) c2,iL a1 x0 c1,oL w 133 a3 DK c3,J1,J0]∧(q≤(cR x0).length)∧(DK=kU mr i++((cR x0).take q).map fun j=>(((i:Nat):Int),j))) _ ⟨0,xs,a0,c0,J,s0,J,s1,s2,s3,J,J,(bJ J),H5,aq,(by rw[hs];simp)⟩ ?_
  rintro _ f1 w3 ⟨q,DK,a3,c3,rfl,s4,s5,s6,s7,s8,s9,ej,eY,H6,sf,gH⟩
  refine aB<|k<|lss J J eY ej<|av<|sq ?_
  refine cd (b:=decide ((q:Int)<((cR x0).length:Int))) J J (fun b1=>?_)<|fun b1=>?_
  ·
   have p1:=dT b1
   refine sk<|nx<|sq<|bk<|aB<|k<|ic (H6.at_ 0 J) J J s9 eY aq cG aW ?_
   intro g0 x1 im cP gK
   refine k<|mQ gK aW J J ?_
   intro dV
   refine au (v:=C x1) J J<|av<|rg<|ak J s4<|ak J s5<|ak (v:=C x1) J J<|k<|bd (v:=.agg #[C (i:Int),C x1]) J (cj J<|cj J ey) (fun _=>aM)<|k<|bs (xs:=([((i:Int),x1)]:List (Int×Int))) (cells:=#[C (i:Int),C x1]) (e:=133) H6 J (cj J ey) (fun _=>aM) ⟨[C (i:Int),C x1],[],J,⟨_,_,J,⟨J,(show aK ((i:Int)) from aV)⟩,⟨J,(show aK (x1) from aV)⟩⟩,J⟩ J aw ?_
   intro g1 w4 eT H7
   refine k<|l9 H7 3 J J J J J J (gT<|H7.at_ 0 J) O4 FU J (by have h1_:=DZ JN i;have lb:=mO x0;have h3_:=JN _ (dJ aQ);rw[gH,gf,amS,ij];simp only[iB,gm];omega) J ?_
   intro a4 c4 w5 (H8:HI M w w5 [own w.heap.size 133 (.slice (some ⟨g1,0,none⟩) 1 1) ([((i:Int),x1)]:List (Int×Int)),oL w 3 a2 (cR x0) c2,iL a1 x0 c1,oL w 133 a4 (DK++([((i:Int),x1)]:List (Int×Int))) c4,J1,J0])
   refine au (v:=R a4 (DK++([((i:Int),x1)]:List (Int×Int))) c4) J J<|z<|aI<|nx<|rg<|k<|add J J eY J (by have lb:=mO x0;have h3_:=JN _ (dJ aQ);unfold aK;omega)<|ak (v:=C ((q:Int)+1)) J J<|z ?_
   have H9:HI M w w5 [oL w 3 a2 (cR x0) c2,iL a1 x0 c1,oL w 133 a4 (DK++([((i:Int),x1)]:List (Int×Int))) c4,J1,J0]:=H8.bT [1,2,3,4,5] aw rfl
   refine bB _ ?_ ⟨(q+1),(DK++([((i:Int),x1)]:List (Int×Int))),a4,c4,J,J,s5,s6,s7,s8,s9,ej,(bJ J),H9,aq,(by rw[gH];exact RN cP)⟩
   omega
  have p1:=dF b1
  refine ex<|aX<|bf<|bg<|aI<|nx<|rg<|k<|add J J s8 J aV<|ak (v:=C ((i:Int)+1)) J J<|z ?_
  have H7:HI M w w3 [oL w 133 a3 DK c3,J1,J0]:=H6.bT [2,3,4] aw rfl
  refine bB _ ?_ ⟨(i+1),DK,a3,c3,J,s4,s6,s7,(bJ J),H7,aq,(by rw[gH];exact UL aQ aq)⟩
  omega
 have p0:=dF b0
 refine ex<|aX<|bf<|bg<|cI<|ak J s0<|au (v:=R a0 xs c0) J J<|av<|rt<|r1 J J ?_
 have e0:(xs:List (Int×Int))=iG mn mr:=by rw[hs];exact RM aq aq
 have bo:=iq (fun (bV:List (Int×Int))=>(.slice a0 bV.length c0:Value)) e0
 exact⟨a0,c0,bo,H3.below,(amh (fun (x_:List (Int×Int))=>RV _ _ (.slice a0 x_.length c0) x_) e0).mp (H3.me 0 J)⟩
theorem aa2 {an:Int} {Ig:OA} {HZ:Nat} {ar:List (List bX)} {bn:Int} {Ie:OA} {HY:Nat} {br:List (List bX)} (hM:eD M w) (alJ:aK an) (aci:cw M w Ig HZ ar) (alI:aK bn) (ach:cw M w Ie HY br) (akT:((ar.length:Nat):Int)=an) (aem:∀x∈ar,x.length≤1000000000) (akY:an≤4096) (akS:((br.length:Nat):Int)=bn) (ael:∀x∈br,x.length≤1000000000) (akX:bn≤4096):Calls aJ 96 #[.agg #[C an,R Ig ar HZ],.agg #[C bn,R Ie br HY]] w (cb fun v w'=>∃(a0:OA) (c0:Nat),v=.tuple #[.agg #[C (sN an bn),.slice a0 (lX an ar bn br).length c0],C (wN an bn)]∧Ext w w'∧bj M 144 w (lX an ar bn br) (.slice a0 (lX an ar bn br).length c0) w'):=by
 refine df 41 Tryz.func96 J J J hM fun f0 ha H=>?_
 let J0:=iL Ig ar HZ
 have H0:=H.put (it:=J0) J<|by rw[bN];exact aci
 let J1:=iL Ie br HY
 have H1:=H0.put (it:=J1) J<|by rw[aE rfl,bN];exact ach
 have akR:=aP aci
 have akQ:=aP ach
 have i0:f0 0=.agg #[C an,R Ig ar HZ]:=ha 0 bh
 have i1:f0 1=.agg #[C bn,R Ie br HY]:=ha 1 bh
 refine aB<|k<|bx H1 J i0 ?_
 intro aY w0 bS (H2:HI M w w0 [box aY #[C an,R Ig ar HZ] 26,J1,J0])
 let J2:=box aY #[C an,R Ig ar HZ] 26
 refine k<|bx H2 J i1 ?_
 let bc:=[J2,J1,J0]
 intro ba w1 cY (H3:HI M w w1 (box ba #[C bn,R Ie br HY] 26::bc))
 let J3:=box ba #[C bn,R Ie br HY] 26
 refine k<|al H3 bm ?_
 intro bD w2 eT (H4:HI M w w2 (box bD #[C 0,.slice none 0 0] 26::J3::bc))
 let J4:=box bD #[C 0,.slice none 0 0] 26
 refine au (v:=C 0) J J<|av<|sq<|aB<|aU j6 J J<|bl H4 2 J aW J J J<|aU j6 J J<|bl H4 1 J aW J J J<|k<|neq J J J J<|z<|nx ?_
 refine cd (b:=!decide (an=bn)) J J (fun b0=>?_)<|fun b0=>?_
 ·
  have p0:=dF<|fY b0
  refine aB<|k<|bd (v:=.agg #[C 0,.slice none 0 0]) J ey (fun _=>aM)<|k<|bp H4 0 J bm J J J J J J J ?_
  intro w3 (H5:HI M w w3 (J4::J3::bc))
  refine au (v:=C 1) J J<|av<|rt<|aL<|ib H5 0 J bm J J J J J aw ?_
  have e0:(0:Int)=sN an bn:=by exact(K5 (ar:=ar) (br:=br) p0).1.symm
  have e1:([]:List (List bX))=lX an ar bn br:=by exact(K5 p0).2.1.symm
  have e2:(1:Int)=wN an bn:=by exact(K5 (ar:=ar) (br:=br) p0).2.2.symm
  have bo:=qH (fun (bV:Int) (dI:List (List bX)) (gv:Int)=>(.tuple #[.agg #[C bV,.slice none dI.length 0],C gv]:Value)) e0 e1 e2
  exact⟨none,0,bo,H5.below,(amh (fun (x_:List (List bX))=>bj _ _ _ x_ (.slice none x_.length 0) _) e1).mp (fL H5.below)⟩
 have p0:=dT<|fk b0
 refine sk<|cI<|aU j6 J J<|bl H4 2 J aW J J J<|k ?_
 have n0:((an.toNat:Nat):Int)=an:=amT aq
 refine mk (m:=an.toNat) (zx:=([]:(List bX))) H4 J J (by rw[n0];exact rfl) (by rw[n0];exact rfl) gV cZ (fun _ _=>⟨_,J,F2 _ _⟩) aq aq ?_
 intro g0 w3 fB (H5:HI M w w3 (own w.heap.size 144 (.slice (some ⟨g0,0,none⟩) an.toNat an.toNat) (List.replicate an.toNat ([]:(List bX)))::J4::J3::bc))
 refine au (v:=.slice (some ⟨g0,0,none⟩) an.toNat an.toNat) J J<|av<|sq<|aB<|ak (v:=.slice (some ⟨g0,0,none⟩) an.toNat an.toNat) J J<|k<|dW J J gV<|ak (v:=C 0) J J<|av<|bk ?_
 refine lp (fun m f w'=>∃(j:Nat) (xs:List (List bX)),m=an.toNat-j∧f 2=pV aY 0∧f 3=pV ba 0∧f 4=pV bD 0∧f 6=.slice (some ⟨g0,0,none⟩) an.toNat an.toNat∧f 18=C (an.toNat:Int)∧f 19=C (j:Int)∧HI M w w' (own w.heap.size 144 (.slice (some ⟨g0,0,none⟩) an.toNat an.toNat) xs::J4::J3::bc)∧(j≤an.toNat)∧(xs.length=an.toNat)∧(xs=uB ar br an.toNat j)) _ ⟨0,(List.replicate an.toNat ([]:(List bX))),J,J,J,J,J,J,(bJ J),H5,aq,bh,(by exact Nb _ _ _)⟩ ?_
 rintro _ f0 w4 ⟨j,xs,rfl,s0,s1,s2,s3,s4,s5,H6,hk,hl,hs⟩
 refine aB<|k<|lss J J s5 s4<|av<|sq ?_
 refine cd (b:=decide ((j:Int)<(an.toNat:Int))) J J (fun b1=>?_)<|fun b1=>?_
 ·
  have p1:=dT b1
  refine sk<|nx<|sq<|bk<|aB<|ak J s5<|au (v:=C (j:Int)) J J<|z<|nx ?_
  refine l8 [.r,.r,.r,.r,.r,.r,.r,.r,.r,.r,.r,.r,.r,.e,.e] (fun _=>True) J (by kernel_rfl) (fun _ _=>trivial) ?_
  refine yq J J<|kq (fun _ _=>mv rfl s3 e1)<|zq<|yq J J<|kq (fun _ _=>mv (v:=C (j:Int)) rfl rfl e1)<|zq<|yq J J<|kq (fun _ _=>fa ik rfl s0 e1)<|zq<|yq J J<|kq (fun _ x_=>lx (H6.ext x_) 3 rfl kO rfl rfl rfl e1)<|zq<|yq J J<|kq (fun _ _=>mv (v:=C (j:Int)) rfl rfl e1)<|zq<|yq J J<|tS (H6.rv 5 J) J J J J aq gV cZ ?_
  intro iw x0 aQ cu
  refine zq<|yq J J<|F4 cu.w cZ J J ?_
  intro a0 c0 cm
  have uH:=aP cm
  have H7:=ee H6 cm
  refine zq<|yq J J<|kq (fun _ _=>fa ik rfl s1 e1)<|zq<|yq J J<|kq (fun _ x_=>lx (H7.ext x_) 3 rfl kO rfl rfl rfl e1)<|zq<|yq J J<|kq (fun _ _=>mv (v:=C (j:Int)) rfl rfl e1)<|zq<|yq J J<|tS (H7.rv 5 J) J J J J aq gV cZ ?_
  intro rD x1 cP gK
  refine zq<|yq J J<|F4 gK.w cZ J J ?_
  intro a1 c1 dM
  have ln1:=aP dM
  have H8:=ee H7 dM
  refine zq ?_
  refine yu J (fun _ v w'=>∃(a2:OA) (c2:Nat),v=R a2 (jz x0 x1) c2∧RV H6.fW w' (R a2 (jz x0 x1) c2) (jz x0 x1)) J jd J (fun v_ _ x_ _=>have cV:=aay (a:=x0) (b:=x1) (w:=v_) (H8.ext x_).mb ((H8.ext x_).rv 1 rfl) ((H8.ext x_).rv 0 rfl) (by exact aem _ (dJ aQ)) (by exact ael _ (dJ cP));ca aeR rfl (ec J<|ec J e0) cV (fun _ w6 ⟨a3,c3,e_,jb,iU⟩=>⟨_,J,jb,⟨a3,c3,e_,(mG J<|mG J<|bj.rv iU (H8.ext x_).mb)⟩⟩)) ?_
  refine ye<|ye<|yz ?_
  intro w7 f1 _ kf _ _ cz iC
  have cJ:=H8.ext kf
  have s6:=(cz 2 J).trans s0
  have s7:=(cz 3 J).trans s1
  have s8:=(cz 4 J).trans s2
  have s9:=(cz 6 J).trans s3
  have ej:=(cz 18 J).trans s4
  have eY:=(cz 19 J).trans s5
  have fK:=cz 22 J
  have fJ:=cz 23 J
  obtain⟨a4,c4,gx,iT⟩:=iC 0 _ _ rfl
  have dS:=ee cJ iT
  refine jZ<|ic (dS.at_ 3 J) J J fK fJ aq gV cZ ?_
  intro g1 x2 im iW la
  refine jZ<|pR dS 3 J im J aq cZ J J J gx (dS.rv 0 J) ?_
  let J5:=own w.heap.size 144 (.slice (some ⟨g0,0,none⟩) an.toNat an.toNat) (xs.set ((j:Int).toNat) (jz x0 x1))
  intro w8 (de:HI M w w8 [iL a4 (jz x0 x1) c4,iL a1 x1 c1,iL a0 x0 c0,J5,J4,J3,J2,J1,J0])
  refine kz<|aI<|nx<|rg<|k<|add J J eY J aV<|ak (v:=C ((j:Int)+1)) J J<|z ?_
  have cO:HI M w w8 (J5::J4::J3::bc):=de.bT [3,4,5,6,7,8] aw rfl
  refine bB _ ?_ ⟨(j+1),(xs.set ((j:Int).toNat) (jz x0 x1)),J,s6,s7,s8,s9,ej,(bJ J),cO,aq,(by simpa using hl),(by rw[hs];exact PB aq aQ cP)⟩
  omega
 have p1:=dF b1
 refine ex<|aX<|bf<|bg<|cI<|aU j6 J s0<|bl H6 3 J aW J J J<|ak J s3<|k<|bd (v:=.agg #[C an,.slice (some ⟨g0,0,none⟩) an.toNat an.toNat]) J (cj J<|cj J ey) (fun _=>aM)<|k<|bp H6 1 J bm J J s2 J J J J ?_
 intro w5 (H7:HI M w w5 (own w.heap.size 144 (.slice (some ⟨g0,0,none⟩) an.toNat an.toNat) xs::box bD #[C an,.slice (some ⟨g0,0,none⟩) an.toNat an.toNat] 26::J3::bc))
 refine au (v:=C 0) J J<|av<|rt<|ib H7 1 J bm J J J s2 J aw ?_
 have e0:(an:Int)=sN an bn:=by exact(zA (ar:=ar) (br:=br) p0).1.symm
 have e1:(xs:List (List bX))=lX an ar bn br:=by rw[(zA p0).2.1,hs];exact PC aq hk
 have l1:an.toNat=(lX an ar bn br).length:=by rw[←e1];omega
 have e2:(0:Int)=wN an bn:=by exact(zA (ar:=ar) (br:=br) p0).2.2.symm
 have bo:=qH (fun (bV:Int) (uE:Nat) (gv:Int)=>(.tuple #[.agg #[C bV,.slice (some ⟨g0,0,none⟩) uE an.toNat],C gv]:Value)) e0 l1 e2
 exact⟨(some ⟨g0,0,none⟩),an.toNat,bo,H7.below,(amh (fun (n_:Nat)=>bj _ _ _ (lX an ar bn br) (.slice (some ⟨g0,0,none⟩) n_ an.toNat) _) l1).mp ((amh (fun (x_:List (List bX))=>bj _ _ _ x_ (.slice (some ⟨g0,0,none⟩) an.toNat an.toNat) _) e1).mp (H7.da 0 J))⟩
set_option maxRecDepth 100000 in
set_option maxHeartbeats 1600000 in
theorem Cs {M0:Nat→Prop} {w0 w:World} {l:List Go.Ew.Item} {i j:Nat} {ME OX:Option Addr} {Ml OM:Nat} (H:HI M0 w0 w l) (hi:l[i]? =some (own w0.heap.size 151 (R ME a Ml) a)) (hj:l[j]? =some (own w0.heap.size 151 (R OX b OM) b)) (hlen:b.length≤a.length) (hlb:b.length≤1000000000) (gE:i≠j∨((R ME a Ml:Value)=R OX b OM∧b=a)):Calls aJ 95 #[R ME a Ml,R OX b OM] w (cb fun v w'=>v=.tuple #[]∧HI M0 w0 w' (l.set i (own w0.heap.size 151 (R ME a Ml) (jz a b)))):=by
  have jA:i<l.length:=(ef.1 hi).1
  refine enter 21 Tryz.func95 J J J fun f0 ha=>?_
  have i0:f0 0=.slice ME a.length Ml:=ha 0 bh
  have i1:f0 1=.slice OX b.length OM:=ha 1 bh
  refine aB<|ak (v:=.slice OX b.length OM) J i1<|k<|dW J J gW<|ak (v:=.int .i64 0) J J<|av<|bk ?_
  refine lp (fun m f w'=>∃(q:Nat) (xs:List bX),m=b.length-q∧f 0=.slice ME a.length Ml∧f 6=.slice OX b.length OM∧f 7=.int .i64 (b.length:Int)∧f 8=.int .i64 (q:Int)∧HI M0 w0 w' (l.set i (own w0.heap.size 151 (.slice ME a.length Ml) xs))∧q≤b.length∧xs.length=a.length∧xs=pN a.length a b a q) _ ⟨0,a,J,i0,J,J,J,(by rw[YE hi];exact H),anB _,J,Cc _ _ _⟩ ?_
  rintro _ f1 w1 ⟨q,xs,rfl,s0,s1,s2,s3,H1,hk,hl,hs⟩
  refine aB<|k<|lss J J s3 s2<|av<|sq ?_
  refine cd (b:=decide ((q:Int)<(b.length:Int))) J J (fun b1=>?_)<|fun b1=>?_
  ·
    have p1:=am3 b1
    obtain⟨ys,LH,zJ,hyq⟩:=R' hj jA gE hl hs hk hlen
    refine sk<|nx<|sq<|bk<|aB<|ak J s3<|k<|ic (H1.at_ j LH) J J s1 s3 aq gW fh ?_
    intro g0 x0 im aQ cu
    have hxq:=hyq x0 aQ
    refine k<|yb cu fh J J<|au (v:=.int .i64 (q:Int)) J J<|au (v:=aj x0) J J<|av<|rg<|ak J s0<|ak (v:=.int .i64 (q:Int)) J J<|k<|ic (H1.at_ i<|KH jA) J J J J aq gW fh ?_
    intro g1 x1 kB cP gK
    refine k<|yb gK fh J J<|ak (v:=aj x0) J J<|k<|RP x1 x0 J J J J<|k<|ic (H1.at_ i<|KH jA) J J J J aq gW fh ?_
    intro g2 x2 Bp iW la
    refine k<|pR H1 i (KH jA) Bp J aq fh J J J J (RV.bv.2 J) ?_
    intro w2 H2
    rw[set_set] at H2
    refine z<|aI<|nx<|rg<|k<|add J J s3 J aV<|ak (v:=.int .i64 ((q:Int)+1)) J J<|z ?_
    refine bB _ ?_ ⟨(q+1),(xs.set ((q:Int).toNat) (x1 ||| x0)),J,s0,s1,s2,(bJ J),H2,aq,(by simpa using hl),R_ hs hxq cP⟩
    omega
  ·
    have p1:=anU b1
    refine ex<|aX<|bf<|bg<|DU J ?_
    exact⟨J,by rw[←Vd hs hlen aq];exact H1⟩
set_option maxRecDepth 100000 in
set_option maxHeartbeats 1600000 in
theorem E7 (hM:eD M w) (LR:aK n) (h0:0≤n) (h4:n≤4096):Calls aJ 121 #[C n] w (cb fun v w'=>∃(a0:Option Addr) (c0:Nat) (ss:List SV),v=.tuple #[.agg #[C n,.slice a0 n.toNat c0],C 0]∧Ext w w'∧Ke M 144 151 w ss (List.replicate n.toNat (dX n)) (.slice a0 n.toNat c0) w'):=by
  refine df 29 Tryz.func121 J J J hM fun f0 ha H=>?_
  have i0:f0 0=.int .i64 n:=ha 0 bh
  refine aB<|k<|al H bm ?_
  intro aY w0 bS (H0:HI M w w0 [box aY #[.int .i64 0,.slice none 0 0] 26])
  refine au (v:=.int .i64 0) J J<|av<|sq<|aB<|ak J i0<|k<|lss J J J J<|ak (v:=.bool (decide (n<0))) J J ?_
  have b0:decide (n<0)=false:=ams aq
  refine aT J J J b0<|mv J i0<|aT J J J b0<|gtr J J J J<|k<|cK J J J J b0 J<|z<|nx ?_
  refine cd (b:=decide (4096<n)) J J (fun b1=>?_)<|fun b1=>?_
  · exact absurd (am3 b1) aq
  refine sk<|cI<|ak J i0<|k ?_
  have n0:((n.toNat:Nat):Int)=n:=amT aq
  refine mk (m:=n.toNat) (zx:=(⟨none,0,0⟩:SV)) H0 J J (by rw[n0];exact rfl) (by rw[n0];exact rfl) gV cZ (fun _ _=>rfl) aq aq ?_
  intro g0 w1 cY (H1:HI M w w1 [own w.heap.size 144 (.slice (some ⟨g0,0,none⟩) n.toNat n.toNat) (List.replicate n.toNat (⟨none,0,0⟩:SV)),box aY #[.int .i64 0,.slice none 0 0] 26])
  refine au (v:=.slice (some ⟨g0,0,none⟩) n.toNat n.toNat) J J<|av<|sq<|aB<|ak (v:=.slice (some ⟨g0,0,none⟩) n.toNat n.toNat) J J<|k<|dW J J gV<|ak (v:=.int .i64 0) J J<|av<|bk ?_
  refine lp (fun m f w'=>∃(j:Nat) (ss:List SV),m=n.toNat-j∧f 0=.int .i64 n∧f 2=.pointer (some ⟨aY,0,none⟩)∧f 4=.slice (some ⟨g0,0,none⟩) n.toNat n.toNat∧f 16=.int .i64 (n.toNat:Int)∧f 17=.int .i64 (j:Int)∧HI M w w' ([own w.heap.size 144 (.slice (some ⟨g0,0,none⟩) n.toNat n.toNat) (ss++List.replicate (n.toNat-j) (⟨none,0,0⟩:SV)),box aY #[.int .i64 0,.slice none 0 0] 26]++bC w.heap.size 151 ss (List.replicate j<|dX n))∧j≤n.toNat∧ss.length=j) _ ⟨0,[],J,i0,J,J,J,J,H1,anB _,J⟩ ?_
  rintro _ f0 w2 ⟨j,ss,rfl,s0,s1,s2,s3,s4,H2,hk,hl⟩
  refine aB<|k<|lss J J s4 s3<|av<|sq ?_
  refine cd (b:=decide ((j:Int)<(n.toNat:Int))) J J (fun b2=>?_)<|fun b2=>?_
  ·
    have p2:=am3 b2
    refine sk<|nx<|sq<|bk<|aB<|ak J s4<|au (v:=.int .i64 (j:Int)) J J<|av<|rg<|ak J s2<|ak (v:=.int .i64 (j:Int)) J J<|ak J s0<|k ?_
    have bP:=Di (n:=n) H2.mb aV aq
    refine ca Qb J (ec J e0) bP ?_
    rintro _ w3 ⟨a0,c0,rfl,eT,cm⟩
    have H3:=H2.eI cm
    have wZ:j<(ss++List.replicate (n.toNat-j) (⟨none,0,0⟩:SV)).length:=by rw[gf,nX];omega
    refine k<|ic (H3.at_ 1 J) J J J J aq gV cZ ?_
    intro g1 x0 im aQ cu
    refine k<|pR (yv:=(⟨a0,(dX n).length,c0⟩:SV)) H3 1 J im J aq cZ J J J J (RV.sv.2 J) ?_
    intro w4 H4
    have H5:HI M w w4 (own w.heap.size 151 (⟨a0,(dX n).length,c0⟩:SV).v (dX n)::([own w.heap.size 144 (.slice (some ⟨g0,0,none⟩) n.toNat n.toNat) ((ss++List.replicate (n.toNat-j) (⟨none,0,0⟩:SV)).set ((j:Int).toNat) ⟨a0,(dX n).length,c0⟩),box aY #[.int .i64 0,.slice none 0 0] 26]++bC w.heap.size 151 ss (List.replicate j (dX n)))):=H4
    have H6:=H5.aaz<|by rw[nX];exact hl
    have es:(ss++List.replicate (n.toNat-j) (⟨none,0,0⟩:SV)).set ((j:Int).toNat) ⟨a0,(dX n).length,c0⟩=(ss++[⟨a0,(dX n).length,c0⟩])++List.replicate (n.toNat-(j+1)) (⟨none,0,0⟩:SV):=by
      rw[dZ,anF _ _ aq,hl,anj,show n.toNat-j=n.toNat-(j+1)+1 from by omega,am_,aon];simp
    rw[es,←List.replicate_succ'] at H6
    refine z<|aI<|nx<|rg<|k<|add J J s4 J aV<|ak (v:=.int .i64 ((j:Int)+1)) J J<|z ?_
    refine bB _ ?_ ⟨(j+1),(ss++[⟨a0,(dX n).length,c0⟩]),J,s0,s1,s2,s3,(bJ J),H6,aq,(by rw[gf,hl];rfl)⟩
    omega
  ·
    have p2:=anU b2
    obtain rfl:j=n.toNat:=by omega
    rw[anj,List.replicate_zero,anR] at H2
    refine ex<|aX<|bf<|bg<|cI<|ak J s0<|ak J s2<|k<|bd (v:=.agg #[.int .i64 n,.slice (some ⟨g0,0,none⟩) n.toNat n.toNat]) J (cj J<|cj J ey) (fun _=>aM)<|k<|bp H2 1 J bm J J s1 J J J J ?_
    intro w3 H3
    have H4:HI M w w3 ([own w.heap.size 144 (.slice (some ⟨g0,0,none⟩) n.toNat n.toNat) ss,box aY #[.int .i64 n,.slice (some ⟨g0,0,none⟩) n.toNat n.toNat] 26]++bC w.heap.size 151 ss (List.replicate n.toNat (dX n))):=H3
    refine au (v:=.int .i64 0) J J<|av<|rt<|ib H4 1 J bm J J J s1 J aw ?_
    exact⟨(some ⟨g0,0,none⟩),n.toNat,ss,J,H4.below,by rw[nX];exact hl,H4.aR (l':=[own w.heap.size 144 (.slice (some ⟨g0,0,none⟩) n.toNat n.toNat) ss]) [0] aw rfl rfl⟩
theorem GG:ct aJ 121:=⟨_,_,Tryz.func121,rfl,aM⟩
theorem aeV:ct aJ 128:=⟨_,_,Tryz.func128,rfl,aM⟩
theorem O6:aJ.underlying 133=some (.array 2 3):=aM
theorem E6 (hM:eD M w) (hT:fQ 0 w) (fZ:aK mn) (fG:cw M w bA bz mr) (bU:bF mn mr=true):Calls aJ 87 #[.agg #[C mn,R bA mr bz]] w (cb fun v w'=>∃(a0:OA) (c0:Nat),v=.agg #[C mn,.slice a0 (gF mn mr).length c0]∧Ext w w'∧bj M 144 w (gF mn mr) (.slice a0 (gF mn mr).length c0) w'):=by
 refine df 39 Tryz.func87 J J J hM fun f0 ha H=>?_
 let J0:=iL bA mr bz
 have H0:=H.put (it:=J0) J<|by rw[bN];exact fG
 have kA:=aP fG
 have i0:f0 0=.agg #[C mn,R bA mr bz]:=ha 0 bh
 refine aB<|k<|bx H0 J i0 ?_
 intro aY w0 bS (H1:HI M w w0 [box aY #[C mn,R bA mr bz] 26,J0])
 let J1:=box aY #[C mn,R bA mr bz] 26
 refine k<|al H1 bm ?_
 let bc:=[J1,J0]
 intro ba w1 cY (H2:HI M w w1 (box ba #[C 0,.slice none 0 0] 26::bc))
 let J2:=box ba #[C 0,.slice none 0 0] 26
 refine bt<|aU j6 J J<|bl H2 1 J aW J J J<|k ?_
 have bP:=E7 (n:=mn) H2.mb fZ (by exact kF bU)<|by exact(bO bU).2.2.1
 refine ca GG J (ec J e0) bP ?_
 rintro _ w2 ⟨a0,c0,fI,rfl,eT,cm⟩
 have H3:=H2.F8 cm
 let J3:=own w.heap.size 144 (.slice a0 mn.toNat c0) fI
 let bY:=J3::J2::bc
 have H4:HI M w w2 (bY++bC w.heap.size 151 fI (List.replicate mn.toNat (dX mn))):=H3
 have EG:=cm.1
 refine ak (v:=.tuple #[.agg #[C mn,.slice a0 mn.toNat c0],C 0]) J J<|k<|xt J J J<|k<|xt J J J<|k<|al H4 bm ?_
 intro bD w3 fB (H5:HI M w w3 ((box bD #[C 0,.slice none 0 0] 26::bY)++bC w.heap.size 151 fI (List.replicate mn.toNat (dX mn))))
 refine k<|bp H5 0 J bm J J J J J J J ?_
 let J4:=box bD #[C mn,.slice a0 mn.toNat c0] 26
 let dE:=J4::bY
 intro w4 (H6:HI M w w4 (dE++bC w.heap.size 151 fI (List.replicate mn.toNat (dX mn))))
 refine au (v:=C 0) J J<|av<|sq<|aB<|k<|cq H6 3 J bm J J aw J<|k ?_
 have cV:=R3 (mn:=mn) (mr:=mr) H6.mb (hT.ext H6.below) fZ (H6.rv 4 J) (by exact(bO bU).1) (by exact(bO bU).2.1) (by exact(bO bU).2.2.1)<|by exact(bO bU).2.2.2.2
 refine ca aeV J (ec J e0) cV ?_
 rintro _ w5 ⟨a1,c1,rfl,iN,dM⟩
 have H7:=H6.ext iN
 let J5:=iL a1 (iG mn mr) c1
 have H8:=H7.put (it:=J5) J dM
 have H9:HI M w w5 ((J5::dE)++bC w.heap.size 151 fI (List.replicate mn.toNat (dX mn))):=H8
 refine k<|dW J J O4<|ak (v:=C 0) J J<|av<|bk ?_
 refine lp (fun m f w'=>∃(j:Nat) (xs:List (List bX)),m=(iG mn mr).length-j∧f 2=pV ba 0∧f 3=pV bD 0∧f 14=R a1 (iG mn mr) c1∧f 15=C ((iG mn mr).length:Int)∧f 16=C (j:Int)∧HI M w w' ((J5::dE)++bC w.heap.size 151 fI xs)∧(j≤(iG mn mr).length)∧(fI.length=xs.length)∧(xs=foldM mn (((iG mn mr).map As).take j))) _ ⟨0,(List.replicate mn.toNat<|dX mn),J,J,J,J,J,(bJ J),H9,aq,(by exact cm.1),(by exact Q0 _ _)⟩ ?_
 rintro _ f0 w6 ⟨j,xs,rfl,s0,s1,s2,s3,s4,dC,hk,hl,hs⟩
 refine aB<|k<|lss J J s4 s3<|av<|sq ?_
 refine cd (b:=decide ((j:Int)<((iG mn mr).length:Int))) J J (fun b0=>?_)<|fun b0=>?_
 ·
  have p0:=dT b0
  refine sk<|nx<|sq<|bk<|aB<|k<|ia (dC.rv 0 J) J J s2 s4 aq O4 FU ?_
  intro iw x0 aQ cu
  refine k<|nj cu.w FU J J ?_
  intro v0 dV
  obtain⟨_,⟨_,_,rfl,⟨rfl,fq⟩,⟨rfl,iU⟩⟩,rfl⟩:=dV
  refine k<|al dC FU ?_
  intro eX w7 jb (cT:HI M w w7 ((box eX #[C 0,C 0] 133::J5::dE)++bC w.heap.size 151 fI xs))
  refine k<|bp cT 0 J FU J J J J J J J ?_
  let J6:=box eX #[C x0.1,C x0.2] 133
  intro w8 (dt:HI M w w8 ((J6::J5::dE)++bC w.heap.size 151 fI xs))
  refine z<|nx ?_
  obtain⟨SS,SR,g3_,g4_⟩:=Pn bU aQ
  have xl_:xs.length=mn.toNat:=by rw[hs,CJ]
  obtain⟨a2,x1,c2,lQ,l7⟩:=tO (i:=x0.2.toNat) dt bq aq
  obtain⟨x3,iW⟩:∃x,x1[(x0.1/64).toNat]? =some x:=⟨_,eP (by obtain⟨Lp,tp,k3_,k4_⟩:=wC (hs▸l7) SS SR;first|omega|exact⟨Lp,tp⟩)⟩
  refine dr 15 [eV (pV bD 1),eV (.slice a0 mn.toNat c0),eV (pV eX 1),fun v w'=>v=C x0.2∧aK (x0.2),fun v w'=>∃(g0:Nat),v=.pointer (some ⟨g0,x0.2.toNat*1,none⟩)∧(.slice a0 mn.toNat c0:Value).ownBlock=some g0∧gS dt.fW w' ⟨g0,x0.2.toNat*1,none⟩ (⟨a2,x1.length,c2⟩:SV),eV (R a2 x1 c2),eV (pV eX 0),fun v w'=>v=C x0.1∧aK (x0.1),eV (C<|x0.1/64),fun v w'=>∃(g1:Nat),v=.pointer (some ⟨g1,(x0.1/64).toNat*1,none⟩)∧(.slice a2 x1.length c2:Value).ownBlock=some g1∧gS dt.fW w' ⟨g1,(x0.1/64).toNat*1,none⟩ x3,eV (aj x3),eV (pV eX 0),fun v w'=>v=C x0.1∧aK (x0.1),eV (C<|x0.1%64),eV (aj<|j2<|x0.1%64)] J (by kernel_rfl) ?_ ?_
  ·
   refine dc (fun _ _ Sz _ _=>fa ik rfl ((Sz 3 J).trans s1) (d0 J J)) ?_
   refine dc (fun _ _ _ lM I1=>lx (dt.ext lM) 2 rfl kO rfl (I1 0 J J) rfl (d0 J J)) ?_
   refine dc (fun _ _ LK _ _=>W_ rfl rfl (LK 6 J) rfl aq O6 aW (d0 J J)) ?_
   refine dc (fun _ _ _ tI yg=>lx (dt.ext tI) 0 rfl aW rfl (yg 2 J J) rfl ⟨_,J,Ext.refl _,⟨J,iU⟩⟩) ?_
   refine⟨fun _=>⟨fun f5 iO hf4 Ey D7=>?_,by rintro _ _ _ x_ ⟨g0,e_,im,gK⟩;exact⟨g0,e_,im,gK.ext x_⟩⟩,?_⟩
   ·
    have dP:=dt.ext Ey
    have s7:f5 21=.slice a0 mn.toNat c0:=D7 1 rfl rfl
    obtain⟨s8,jO⟩:f5 23=C x0.2∧aK (x0.2):=D7 3 rfl rfl
    refine ic (dP.at_ 3 J) J J s7 s8 aq gV cZ ?_
    intro g2 x4 Bp qo xh
    obtain rfl:(⟨a2,x1.length,c2⟩:SV)=x4:=amo (lQ.symm.trans qo)
    exact⟨_,J,Ext.refl _,⟨g2,J,Bp,xh⟩⟩
   refine dc (fun f6 oM Xw Hi Ol=>?_) ?_
   ·
    obtain⟨g3,s9,Xe,yo⟩:∃(g3:Nat),f6 24=.pointer (some ⟨g3,x0.2.toNat*1,none⟩)∧(.slice a0 mn.toNat c0:Value).ownBlock=some g3∧gS dt.fW oM ⟨g3,x0.2.toNat*1,none⟩ (⟨a2,x1.length,c2⟩:SV):=Ol 4 rfl rfl
    refine IQ yo cZ J s9 ?_
    exact⟨_,J,Ext.refl _,J⟩
   refine dc (fun _ _ hf6 _ _=>W_ rfl rfl (hf6 6 J) rfl aq O6 aW (d0 J J)) ?_
   refine dc (fun _ _ _ Z0 IZ=>lx (dt.ext Z0) 0 rfl aW rfl (IZ 6 J J) rfl ⟨_,J,Ext.refl _,⟨J,fq⟩⟩) ?_
   refine dc (fun f9 uo hf8 O1 Bq=>?_) ?_
   ·
    obtain⟨eY,iT⟩:f9 27=C x0.1∧aK (x0.1):=Bq 7 rfl rfl
    refine KG J J eY J ?_
    exact⟨_,J,Ext.refl _,J⟩
   refine⟨fun _=>⟨fun f10 xK hf9 T_ D6=>?_,by rintro _ _ _ x_ ⟨g1,e_,kB,la⟩;exact⟨g1,e_,kB,la.ext x_⟩⟩,?_⟩
   ·
    have eO:=dt.ext T_
    have fK:f10 25=R a2 x1 c2:=D6 5 rfl rfl
    have fJ:f10 28=C (x0.1/64):=D6 8 rfl rfl
    refine ic (eO.at_ _<|pj lQ l7) J J fK fJ (by obtain⟨Lp,tp,k3_,k4_⟩:=wC (hs▸l7) SS SR;first|omega|exact⟨Lp,tp⟩) gW fh ?_
    intro g4 x5 hv4 zK Oq
    obtain rfl:x3=x5:=amo (iW.symm.trans zK)
    exact⟨_,J,Ext.refl _,⟨g4,J,hv4,Oq⟩⟩
   refine dc (fun f11 zj A0 ak9 vm=>?_) ?_
   ·
    obtain⟨g5,gx,hv5,SP⟩:∃(g5:Nat),f11 29=.pointer (some ⟨g5,(x0.1/64).toNat*1,none⟩)∧(.slice a2 x1.length c2:Value).ownBlock=some g5∧gS dt.fW zj ⟨g5,(x0.1/64).toNat*1,none⟩ x3:=vm 9 rfl rfl
    refine yb SP fh J gx ?_
    exact⟨_,J,Ext.refl _,J⟩
   refine dc (fun _ _ ahB _ _=>W_ rfl rfl (ahB 6 J) rfl aq O6 aW (d0 J J)) ?_
   refine dc (fun _ _ _ agM Lz=>lx (dt.ext agM) 0 rfl aW rfl (Lz 11 J J) rfl ⟨_,J,Ext.refl _,⟨J,fq⟩⟩) ?_
   refine dc (fun f14 QY alB ak8 ahl=>?_) ?_
   ·
    obtain⟨kr,kZ⟩:f14 32=C x0.1∧aK (x0.1):=ahl 12 rfl rfl
    refine Kc J J kr J ?_
    exact⟨_,J,Ext.refl _,J⟩
   refine dc (fun f15 w24 alA ak7 ahk=>?_) ?_
   ·
    have kY:f15 33=C (x0.1%64):=ahk 13 rfl rfl
    have eU:=EA (i:=(x0.1%64)) (w:=w24) aV
    refine ca Qi J (ec kY e0) eU ?_
    rintro _ Z' ⟨rfl,agL⟩
    exact⟨_,J,agL,J⟩
   exact ma.rest J _
  ·
   intro f16 Z_ LL agK P2
   have n3:=dt.ext agK
   have mL:=(LL 2 J).trans s0
   have mK:=(LL 3 J).trans s1
   have nG:=(LL 14 J).trans s2
   have pg:=(LL 15 J).trans s3
   have rm:=(LL 16 J).trans s4
   have Bm:=P2 5 J
   have BW:=P2 8 J
   have F1:=P2 10 J
   have Bl:=P2 14 J
   refine k<|RP x3 (j2<|x0.1%64) J J F1 Bl<|k<|ic (n3.at_ _<|pj lQ l7) J J Bm BW (by obtain⟨Lp,tp,k3_,k4_⟩:=wC (hs▸l7) SS SR;first|omega|exact⟨Lp,tp⟩) gW fh ?_
   intro g6 x6 hv6 Sd hA7
   refine k<|pR n3 _ (pj lQ l7) hv6 J (by obtain⟨Lp,tp,k3_,k4_⟩:=wC (hs▸l7) SS SR;first|omega|exact⟨Lp,tp⟩) fh J J J J (RV.bv.2 J) ?_
   intro Wy nZ
   have je:=HI.zt (M:=fun _=>False) (it:=sU (.int .i64 0) (0:Int)) nZ lQ
   have j9:HI M w Wy ((J6::J5::dE)++bC w.heap.size 151 fI (xs.set x0.2.toNat (x1.set ((x0.1/64).toNat) (x3 ||| (j2 (x0.1%64)))))):=je
   refine z<|aI<|nx<|rg<|k<|add J J rm J (by have h_:=MW bU;unfold aK;omega)<|ak (v:=C ((j:Int)+1)) J J<|z ?_
   have rF:HI M w Wy ((J5::dE)++bC w.heap.size 151 fI (xs.set x0.2.toNat (x1.set ((x0.1/64).toNat) (x3 ||| (j2 (x0.1%64)))))):=HI.aR (l:=(J6::J5::dE)) (l':=(J5::dE)) (t:=bC w.heap.size 151 fI (xs.set x0.2.toNat (x1.set ((x0.1/64).toNat) (x3 ||| (j2 (x0.1%64)))))) j9 [1,2,3,4,5,6] aw rfl rfl
   refine bB _ ?_ ⟨(j+1),(xs.set x0.2.toNat (x1.set ((x0.1/64).toNat) (x3 ||| (j2<|x0.1%64)))),J,mL,mK,nG,pg,(bJ J),rF,aq,(by simp only[ami];exact hl),(by exact Q1 hs aQ l7 iW SS SR)⟩
   omega
 have p0:=dF b0
 refine ex<|aX<|bf<|bg<|nx<|sq ?_
 have cT:HI M w w6 [own w.heap.size 144 (.slice a0 mn.toNat c0) xs,J5,J4,J2,J1,J0]:=HI.deep (l:=[J5,J4,J2,J1,J0]) (HI.aR (l:=(J5::dE)) (l':=[J3,J5,J4,J2,J1,J0]) (t:=bC w.heap.size 151 fI xs) dC [2,0,1,3,4,5] aw rfl rfl) bq
 refine rg<|k<|cq cT 2 J bm J s1 aw J<|k<|bp cT 3 J bm J J s0 J J J J ?_
 intro w7 (dt:HI M w w7 [own w.heap.size 144 (.slice a0 mn.toNat c0) xs,J5,J4,box ba #[C mn,.slice a0 mn.toNat c0] 26,J1,J0])
 refine av<|rt<|oN dt 3 J bm J J s0 J aw ?_
 have e1:(xs:List (List bX))=gF mn mr:=by exact Uc hs aq
 have l1:mn.toNat=(gF mn mr).length:=by rw[BO]
 have bo:=iq (fun (uE:Nat)=>(.agg #[C mn,.slice a0 uE c0]:Value)) l1
 exact⟨a0,c0,bo,dt.below,(amh (fun (n_:Nat)=>bj _ _ _ (gF mn mr) (.slice a0 n_ c0) _) l1).mp ((amh (fun (x_:List (List bX))=>bj _ _ _ x_ (.slice a0 mn.toNat c0) _) e1).mp (dt.da 0 J))⟩
theorem Lw (hM:eD M w) (fZ:aK mn) (fG:cw M w bA bz mr) (bU:bF mn mr=true):Calls aJ 94 #[.agg #[C mn,R bA mr bz]] w (cb fun v w'=>∃(a0:OA) (c0:Nat) (fI:List SV),v=.agg #[C mn,.slice a0 mn.toNat c0]∧Ext w w'∧Ke M 144 151 w fI mr (.slice a0 mn.toNat c0) w'):=by
 refine df 30 Tryz.func94 J J J hM fun f0 ha H=>?_
 let J0:=iL bA mr bz
 have H0:=H.put (it:=J0) J<|by rw[bN];exact fG
 have kA:=aP fG
 have i0:f0 0=.agg #[C mn,R bA mr bz]:=ha 0 bh
 refine aB<|k<|bx H0 J i0 ?_
 intro aY w0 bS (H1:HI M w w0 [box aY #[C mn,R bA mr bz] 26,J0])
 let J1:=box aY #[C mn,R bA mr bz] 26
 refine k<|al H1 bm ?_
 intro ba w1 cY (H2:HI M w w1 [box ba #[C 0,.slice none 0 0] 26,J1,J0])
 let J2:=box ba #[C 0,.slice none 0 0] 26
 refine bt<|aU j6 J J<|bl H2 1 J aW J J J<|k ?_
 have bP:=E7 (n:=mn) H2.mb fZ (by exact kF bU)<|by exact(bO bU).2.2.1
 refine ca GG J (ec J e0) bP ?_
 rintro _ w2 ⟨a0,c0,fI,rfl,eT,cm⟩
 have H3:=H2.F8 cm
 let J3:=own w.heap.size 144 (.slice a0 mn.toNat c0) fI
 let bc:=[J3,J2,J1,J0]
 have H4:HI M w w2 (bc++bC w.heap.size 151 fI (List.replicate mn.toNat (dX mn))):=H3
 have EG:=cm.1
 refine ak (v:=.tuple #[.agg #[C mn,.slice a0 mn.toNat c0],C 0]) J J<|k<|xt J J J<|k<|xt J J J<|k<|al H4 bm ?_
 intro bD w3 fB (H5:HI M w w3 ((box bD #[C 0,.slice none 0 0] 26::bc)++bC w.heap.size 151 fI (List.replicate mn.toNat (dX mn))))
 refine k<|bp H5 0 J bm J J J J J J J ?_
 let J4:=box bD #[C mn,.slice a0 mn.toNat c0] 26
 intro w4 (H6:HI M w w4 ((J4::bc)++bC w.heap.size 151 fI (List.replicate mn.toNat (dX mn))))
 refine au (v:=C 0) J J<|av<|sq<|aB<|aU ik J J<|bl H6 3 J kO J J J<|k<|dW J J gV<|ak (v:=C 0) J J<|av<|bk ?_
 refine lp (fun m f w'=>∃(j:Nat) (xs:List (List bX)),m=mr.length-j∧f 2=pV ba 0∧f 3=pV bD 0∧f 14=R bA mr bz∧f 15=C (mr.length:Int)∧f 16=C (j:Int)∧HI M w w' ((J4::bc)++bC w.heap.size 151 fI xs)∧(j≤mr.length)∧(fI.length=xs.length)∧(xs=mr.take j++List.replicate (mn.toNat-j) (dX mn))) _ ⟨0,(List.replicate mn.toNat<|dX mn),J,J,J,J,J,(bJ J),H6,aq,(by exact cm.1),bh⟩ ?_
 rintro _ f0 w5 ⟨j,xs,rfl,s0,s1,s2,s3,s4,H7,hk,hl,hs⟩
 refine aB<|k<|lss J J s4 s3<|av<|sq ?_
 refine cd (b:=decide ((j:Int)<(mr.length:Int))) J J (fun b0=>?_)<|fun b0=>?_
 ·
  have p0:=dT b0
  refine sk<|nx<|sq<|bk<|aB<|ak J s4<|k<|ia (H7.rv 4 J) J J s2 s4 aq gV cZ ?_
  intro iw x0 aQ cu
  refine k<|vB cu.w cZ J J ?_
  intro a1 c1 dM
  have uH:=aP dM
  have H8:=ee H7 dM
  let bY:=iL a1 x0 c1::J4::bc
  have H9:HI M w w5 (bY++bC w.heap.size 151 fI xs):=H8
  refine au (v:=C (j:Int)) J J<|au (v:=R a1 x0 c1) J J<|z<|nx ?_
  have xl_:xs.length=mr.length:=by have h_:=(bO bU).1;rw[hs,gf,ij,nX];omega
  refine rg<|aU ik J s1<|bl H9 1 J kO J J J<|ak (v:=C (j:Int)) J J<|k ?_
  obtain⟨a2,x1,c2,lQ,l7⟩:=tO (i:=(j:Int).toNat) H9 bq aq
  refine ic (H9.at_ 2 J) J J J J aq gV cZ ?_
  intro g0 x2 im cP gK
  obtain rfl:(⟨a2,x1.length,c2⟩:SV)=x2:=amo (lQ.symm.trans cP)
  refine k<|IQ gK cZ J J<|ak (v:=R a1 x0 c1) J J<|k<|cpO H9 _ (pj lQ l7) J J J J J (H9.rv 0 J).src gW fh (by exact YS bU hs aQ l7) (by exact YR bU hs aQ l7) ?_
  intro w6 cT
  have dC:=HI.zt (M:=fun _=>False) (it:=sU (.int .i64 0) (0:Int)) cT lQ
  have dt:HI M w w6 (bY++bC w.heap.size 151 fI (xs.set ((j:Int).toNat) x0)):=dC
  refine z<|aI<|nx<|rg<|k<|add J J s4 J aV<|ak (v:=C ((j:Int)+1)) J J<|z ?_
  have dw:HI M w w6 ((J4::bc)++bC w.heap.size 151 fI (xs.set ((j:Int).toNat) x0)):=HI.aR (l:=bY) (l':=(J4::bc)) (t:=bC w.heap.size 151 fI (xs.set ((j:Int).toNat) x0)) dt [1,2,3,4,5] aw rfl rfl
  refine bB _ ?_ ⟨(j+1),(xs.set ((j:Int).toNat) x0),J,s0,s1,s2,s3,(bJ J),dw,aq,(by simp only[ami];exact hl),(by exact UM bU hs aQ)⟩
  omega
 have p0:=dF b0
 refine ex<|aX<|bf<|bg<|cI<|k<|cq H7 0 J bm J s1 aw J<|k<|bp H7 2 J bm J J s0 J J J J ?_
 intro w6 (H8:HI M w w6 ([J4,J3,box ba #[C mn,.slice a0 mn.toNat c0] 26,J1,J0]++bC w.heap.size 151 fI xs))
 refine av<|rt<|oN H8 2 J bm J J s0 J aw ?_
 have e1:(xs:List (List bX))=mr:=by exact YT bU hs aq
 have w1:fI.length=(xs).length:=by assumption
 exact⟨a0,c0,fI,J,H8.below,(amh (fun (x_:List (List bX))=>Ke _ 144 151 _ fI x_ (.slice a0 mn.toNat c0) _) e1).mp ⟨w1,HI.aR (l:=[box bD #[C mn,.slice a0 mn.toNat c0] 26,own w.heap.size 144 (.slice a0 mn.toNat c0) fI,box ba #[C mn,.slice a0 mn.toNat c0] 26,box aY #[C mn,R bA mr bz] 26,iL bA mr bz]) (l':=[own w.heap.size 144 (.slice a0 mn.toNat c0) fI]) (t:=bC w.heap.size 151 fI xs) H8 [1] aw rfl rfl⟩⟩
theorem acw:ct aJ 94:=⟨_,_,Tryz.func94,rfl,aM⟩
theorem Vs:ct aJ 95:=⟨_,_,Tryz.func95,rfl,aM⟩
theorem Fk:ct aJ 64:=⟨_,_,Tryz.func64,rfl,aM⟩
theorem vW (hM:eD M w) (fZ:aK mn) (fG:cw M w bA bz mr) (bU:bF mn mr=true):Calls aJ 58 #[.agg #[C mn,R bA mr bz]] w (cb fun v w'=>∃(a0:OA) (c0:Nat),v=.agg #[C mn,.slice a0 (fb mn mr).length c0]∧Ext w w'∧bj M 144 w (fb mn mr) (.slice a0 (fb mn mr).length c0) w'):=by
 refine df 41 Tryz.func58 J J J hM fun f0 ha H=>?_
 let J0:=iL bA mr bz
 have H0:=H.put (it:=J0) J<|by rw[bN];exact fG
 have kA:=aP fG
 have i0:f0 0=.agg #[C mn,R bA mr bz]:=ha 0 bh
 have tw:=(bO bU).1;have I_:=(bO bU).2.2.1;have D':=kF bU
 refine aB<|k<|bx H0 J i0 ?_
 intro aY w0 bS (H1:HI M w w0 [box aY #[C mn,R bA mr bz] 26,J0])
 let J1:=box aY #[C mn,R bA mr bz] 26
 refine k<|al H1 bm ?_
 intro ba w1 cY (H2:HI M w w1 [box ba #[C 0,.slice none 0 0] 26,J1,J0])
 let J2:=box ba #[C 0,.slice none 0 0] 26
 refine bt<|k<|cq H2 1 J bm J J aw J<|k ?_
 have bP:=Lw (mn:=mn) (mr:=mr) H2.mb fZ (H2.rv 2 J)<|by exact bU
 refine ca acw J (ec J e0) bP ?_
 rintro _ w2 ⟨a0,c0,fI,rfl,eT,cm⟩
 have H3:=H2.F8 cm
 let J3:=own w.heap.size 144 (.slice a0 mn.toNat c0) fI
 have H4:HI M w w2 ([J3,J2,J1,J0]++bC w.heap.size 151 fI mr):=H3
 have EG:=cm.1
 refine k<|al H4 bm ?_
 intro bD w3 fB (H5:HI M w w3 ([box bD #[C 0,.slice none 0 0] 26,J3,J2,J1,J0]++bC w.heap.size 151 fI mr))
 refine k<|bp H5 0 J bm J J J J J J J ?_
 let J4:=box bD #[C mn,.slice a0 mn.toNat c0] 26
 intro w4 (H6:HI M w w4 ([J4,J3,J2,J1,J0]++bC w.heap.size 151 fI mr))
 refine av<|sq<|aB<|aU ik J J<|bl H6 0 J kO J J J<|k<|dW J J gV<|ak (v:=C 0) J J<|av<|bk ?_
 refine lp (fun m f w'=>∃(q:Nat) (xs:List (List bX)),m=mn.toNat-q∧f 2=pV ba 0∧f 3=pV bD 0∧f 10=C (mn.toNat:Int)∧f 11=C (q:Int)∧HI M w w' ([J4,J3,J2,J1,J0]++bC w.heap.size 151 fI xs)∧(q≤mn.toNat)∧(fI.length=xs.length)∧(xs=cB mn.toNat (wM (fX mr) q))∧(xs.length=mn.toNat)) _ ⟨0,mr,J,J,J,J,(bJ J),H6,aq,(by exact EG),(by exact Nk bU),aq⟩ ?_
 rintro _ f0 w5 ⟨q,xs,rfl,s0,s1,s2,s3,H7,hk,hl,hs,D2⟩
 refine aB<|k<|lss J J s3 s2<|av<|sq ?_
 refine cd (b:=decide ((q:Int)<(mn.toNat:Int))) J J (fun b0=>?_)<|fun b0=>?_
 ·
  have p0:=dT b0
  refine sk<|nx<|sq<|bk<|aB<|ak J s3<|au (v:=C (q:Int)) J J<|bt<|aU ik J s1<|bl H7 0 J kO J J J<|k<|dW J J gV<|ak (v:=C 0) J J<|av<|bk ?_
  refine lp (fun m f w'=>∃(i:Nat) (ys:List (List bX)),m=mn.toNat-i∧f 2=pV ba 0∧f 3=pV bD 0∧f 4=C (q:Int)∧f 10=C (mn.toNat:Int)∧f 11=C (q:Int)∧f 16=C (mn.toNat:Int)∧f 17=C (i:Int)∧HI M w w' ([J4,J3,J2,J1,J0]++bC w.heap.size 151 fI ys)∧(i≤mn.toNat)∧(fI.length=ys.length)∧(ys=cB mn.toNat (wR (fX mr) q i))∧(ys.length=mn.toNat)) _ ⟨0,xs,J,s0,s1,J,s2,s3,J,(bJ J),H7,aq,(by exact hl),(by rw[hs];exact Yv _ _ _),(by exact D2)⟩ ?_
  rintro _ f1 w6 ⟨i,ys,rfl,s4,s5,s6,s7,s8,s9,ej,H8,Xt,nL,gH,zJ⟩
  refine aB<|k<|lss J J ej s9<|av<|sq ?_
  refine cd (b:=decide ((i:Int)<(mn.toNat:Int))) J J (fun b1=>?_)<|fun b1=>?_
  ·
   have p1:=dT b1
   refine sk<|nx<|sq<|bk<|aB<|ak J ej<|au (v:=C (i:Int)) J J<|bt<|aU ik J s5<|bl H8 0 J kO J J J<|ak (v:=C (i:Int)) J J<|k ?_
   obtain⟨a1,x0,c1,lQ,l7⟩:=tO (i:=(i:Int).toNat) H8 bq aq
   refine ic (H8.at_ 1 J) J J J J aq gV cZ ?_
   intro g0 x1 im aQ cu
   obtain rfl:(⟨a1,x0.length,c1⟩:SV)=x1:=amo (lQ.symm.trans aQ)
   refine k<|IQ cu cZ J J<|ak J s6<|k ?_
   have cV:=zr (r:=x0) (i:=(q:Int)) (w:=w6) (M:=fun _=>False) (fun _ h_=>h_.elim) (aax H8 lQ l7) aV
   refine ca LY J (ec J<|ec J e0) cV ?_
   rintro _ w7 ⟨rfl,iN⟩
   have H9:=H8.ext iN
   refine z<|nx ?_
   refine cd (b:=fe x0 (q:Int)) J J (fun b2=>?_)<|fun b2=>?_
   ·
    obtain⟨a2,x3,c2,Gv,Sm⟩:=tO (i:=(q:Int).toNat) H9 bq aq
    refine dr 10 [eV (pV bD 1),eV (.slice a0 mn.toNat c0),eV (C (i:Int)),fun v w'=>∃(g1:Nat),v=.pointer (some ⟨g1,(i:Int).toNat*1,none⟩)∧(.slice a0 mn.toNat c0:Value).ownBlock=some g1∧gS H9.fW w' ⟨g1,(i:Int).toNat*1,none⟩ (⟨a1,x0.length,c1⟩:SV),eV (R a1 x0 c1),eV (pV bD 1),eV (.slice a0 mn.toNat c0),eV (C (q:Int)),fun v w'=>∃(g2:Nat),v=.pointer (some ⟨g2,(q:Int).toNat*1,none⟩)∧(.slice a0 mn.toNat c0:Value).ownBlock=some g2∧gS H9.fW w' ⟨g2,(q:Int).toNat*1,none⟩ (⟨a2,x3.length,c2⟩:SV),eV (R a2 x3 c2)] J (by kernel_rfl) ?_ ?_
    ·
     refine dc (fun _ _ Sz _ _=>fa ik rfl ((Sz 3 J).trans s5) (d0 J J)) ?_
     refine dc (fun _ _ _ kf I1=>lx (H9.ext kf) 0 rfl kO rfl (I1 0 J J) rfl (d0 J J)) ?_
     refine dc (fun _ _ LK _ _=>mv rfl (LK 5 J) (d0 J J)) ?_
     refine⟨fun _=>⟨fun f5 eb hf3 lM yg=>?_,by rintro _ _ _ x_ ⟨g1,e_,kB,gK⟩;exact⟨g1,e_,kB,gK.ext x_⟩⟩,?_⟩
     ·
      have dw:=H9.ext lM
      have fK:f5 28=.slice a0 mn.toNat c0:=yg 1 rfl rfl
      have fJ:f5 29=C (i:Int):=yg 2 rfl rfl
      refine ic (dw.at_ 1 J) J J fK fJ aq gV cZ ?_
      intro g3 x5 Xe qo xh
      obtain rfl:(⟨a1,x0.length,c1⟩:SV)=x5:=amo (lQ.symm.trans qo)
      exact⟨_,J,Ext.refl _,⟨g3,J,Xe,xh⟩⟩
     refine dc (fun f6 ff hf4 xJ D7=>?_) ?_
     ·
      obtain⟨g4,gx,hv4,yo⟩:∃(g4:Nat),f6 30=.pointer (some ⟨g4,(i:Int).toNat*1,none⟩)∧(.slice a0 mn.toNat c0:Value).ownBlock=some g4∧gS H9.fW ff ⟨g4,(i:Int).toNat*1,none⟩ (⟨a1,x0.length,c1⟩:SV):=D7 3 rfl rfl
      refine IQ yo cZ J gx ?_
      exact⟨_,J,Ext.refl _,J⟩
     refine dc (fun _ _ Xw _ _=>fa ik rfl ((Xw 3 J).trans s5) (d0 J J)) ?_
     refine dc (fun _ _ _ Ey I0=>lx (H9.ext Ey) 0 rfl kO rfl (I0 5 J J) rfl (d0 J J)) ?_
     refine dc (fun _ _ hf7 _ _=>mv rfl ((hf7 4 J).trans s6) (d0 J J)) ?_
     refine⟨fun _=>⟨fun f10 wz hf8 Kg Bq=>?_,by rintro _ _ _ x_ ⟨g2,e_,Bp,la⟩;exact⟨g2,e_,Bp,la.ext x_⟩⟩,?_⟩
     ·
      have dP:=H9.ext Kg
      have kr:f10 33=.slice a0 mn.toNat c0:=Bq 6 rfl rfl
      have kY:f10 34=C (q:Int):=Bq 7 rfl rfl
      refine ic (dP.at_ 1 J) J J kr kY aq gV cZ ?_
      intro g5 x6 hv5 zK Oq
      obtain rfl:(⟨a2,x3.length,c2⟩:SV)=x6:=amo (Gv.symm.trans zK)
      exact⟨_,J,Ext.refl _,⟨g5,J,hv5,Oq⟩⟩
     refine dc (fun f11 sD hf9 Z0 D6=>?_) ?_
     ·
      obtain⟨g6,mL,hv6,SP⟩:∃(g6:Nat),f11 35=.pointer (some ⟨g6,(q:Int).toNat*1,none⟩)∧(.slice a0 mn.toNat c0:Value).ownBlock=some g6∧gS H9.fW sD ⟨g6,(q:Int).toNat*1,none⟩ (⟨a2,x3.length,c2⟩:SV):=D6 8 rfl rfl
      refine IQ SP cZ J mL ?_
      exact⟨_,J,Ext.refl _,J⟩
     exact ma.rest J _
    ·
     intro f12 uo A0 O1 vm
     have cC:=H9.ext O1
     have mK:=(A0 2 J).trans s4
     have nG:=(A0 3 J).trans s5
     have pg:=(A0 4 J).trans s6
     have rm:=(A0 10 J).trans s7
     have Bm:=(A0 11 J).trans s8
     have BW:=(A0 16 J).trans s9
     have F1:=(A0 17 J).trans ej
     have Bl:=vm 4 J
     have F0:=vm 9 J
     refine k ?_
     have fT:=Cs cC (pj (l:=[J4,J3,J2,J1,J0]) lQ l7) (pj (l:=[J4,J3,J2,J1,J0]) Gv Sm) (by have lH:=l7;rw[gH] at lH;have nO:=Sm;rw[gH] at nO;rw[Kk lH,Kk nO];exact amk _) (by have nO:=Sm;rw[gH] at nO;rw[Kk nO];have h_:=Ez (n:=((mn.toNat:Nat):Int)) aq;omega)<|Zc lQ Gv l7 Sm
     refine ca Vs J (ec Bl<|ec F0 e0) fT ?_
     rintro _ xK ⟨rfl,dB⟩
     have dR:=HI.zt (M:=fun _=>False) (it:=sU (.int .i64 0) (0:Int)) dB lQ
     have eO:HI M w xK ([J4,J3,J2,J1,J0]++bC w.heap.size 151 fI (ys.set ((i:Int).toNat) (jz x0 x3))):=dR
     refine z<|aI<|nx<|rg<|k<|add J J F1 J aV<|ak (v:=C ((i:Int)+1)) J J<|z ?_
     refine bB _ ?_ ⟨(i+1),(ys.set ((i:Int).toNat) (jz x0 x3)),J,mK,nG,pg,rm,Bm,BW,(bJ J),eO,aq,(by rw[ami];exact nL),(by exact Z8 gH l7 Sm aq b2),(by rw[ami];exact zJ)⟩
     omega
   refine sk<|aI<|nx<|rg<|k<|add J J ej J aV<|ak (v:=C ((i:Int)+1)) J J<|z ?_
   refine bB _ ?_ ⟨(i+1),ys,J,s4,s5,s6,s7,s8,s9,(bJ J),H9,aq,(by exact nL),(by exact adQ gH l7 aq b2),(by exact zJ)⟩
   omega
  have p1:=dF b1
  refine ex<|aX<|bf<|bg<|aI<|nx<|rg<|k<|add J J s8 J aV<|ak (v:=C ((q:Int)+1)) J J<|z ?_
  refine bB _ ?_ ⟨(q+1),ys,J,s4,s5,s7,(bJ J),H8,aq,(by exact nL),(by rw[gH];exact Z9 _ aq),(by exact zJ)⟩
  omega
 have p0:=dF b0
 refine ex<|aX<|bf<|bg<|nx<|sq ?_
 have H8:HI M w w5 [own w.heap.size 144 (.slice a0 mn.toNat c0) xs,J4,J2,J1,J0]:=HI.deep (l:=[J4,J2,J1,J0]) (HI.aR (l:=[J4,J3,J2,J1,J0]) (l':=[J3,J4,J2,J1,J0]) (t:=bC w.heap.size 151 fI xs) H7 [1,0,2,3,4] aw rfl rfl) bq
 refine rg<|k<|cq H8 1 J bm J s1 aw J<|k<|bp H8 2 J bm J J s0 J J J J ?_
 intro w6 (H9:HI M w w6 [own w.heap.size 144 (.slice a0 mn.toNat c0) xs,J4,box ba #[C mn,.slice a0 mn.toNat c0] 26,J1,J0])
 refine av<|rt<|oN H9 2 J bm J J s0 J aw ?_
 have e1:(xs:List (List bX))=fb mn mr:=by exact Tq hs aq aq
 have l1:mn.toNat=(fb mn mr).length:=by rw[←e1];omega
 have bo:=iq (fun (uE:Nat)=>(.agg #[C mn,.slice a0 uE c0]:Value)) l1
 exact⟨a0,c0,bo,H9.below,(amh (fun (n_:Nat)=>bj _ _ _ (fb mn mr) (.slice a0 n_ c0) _) l1).mp ((amh (fun (x_:List (List bX))=>bj _ _ _ x_ (.slice a0 mn.toNat c0) _) e1).mp (H9.da 0 J))⟩
theorem yd (hM:eD M w) (fZ:aK mn) (fG:cw M w bA bz mr) (bU:bF mn mr=true):Calls aJ 62 #[.agg #[C mn,R bA mr bz]] w (cb fun v w'=>v=.tuple #[C (((cM mn mr).getD 0:Nat):Int),.bool ((cM mn mr).isSome)]∧Ext w w'):=by
 refine df 17 Tryz.func62 J J J hM fun f0 ha H=>?_
 have H0:=ee H fG
 have kA:=aP fG
 have i0:f0 0=.agg #[C mn,R bA mr bz]:=ha 0 bh
 have tw:=(bO bU).1;have I_:=(bO bU).2.2.1;have D':=kF bU
 refine aB<|k<|bx H0 J i0 ?_
 intro aY w0 bS (H1:HI M w w0 [box aY #[C mn,R bA mr bz] 26,iL bA mr bz])
 refine au (v:=C 0) J J<|au (v:=.bool false) J J<|av<|sq<|aB<|aU ik J J<|bl H1 0 J kO J J J<|k<|dW J J gV<|ak (v:=C 0) J J<|av<|bk ?_
 refine lp (fun m f w'=>∃(j:Nat),m=mr.length-j∧f 1=pV aY 0∧f 7=C (mr.length:Int)∧f 8=C (j:Int)∧HI M w w' [box aY #[C mn,R bA mr bz] 26,iL bA mr bz]∧(j≤mr.length)∧(∀k,k<j→eC mn mr ((k:Nat):Int) ((k:Nat):Int)=false)) _ ⟨0,J,J,J,(bJ J),H1,aq,(by intro k_ h_;omega)⟩ ?_
 rintro _ f0 w1 ⟨j,rfl,s0,s1,s2,H2,hk,hs⟩
 refine aB<|k<|lss J J s2 s1<|av<|sq ?_
 refine cd (b:=decide ((j:Int)<(mr.length:Int))) J J (fun b0=>?_)<|fun b0=>?_
 ·
  have p0:=dT b0
  refine sk<|nx<|sq<|bk<|aB<|ak J s2<|au (v:=C (j:Int)) J J<|bt<|k<|cq H2 0 J bm J s0 aw J<|ak (v:=C (j:Int)) J J<|ak (v:=C (j:Int)) J J<|k ?_
  have bP:=tU (mn:=mn) (mr:=mr) (i:=(j:Int)) (j:=(j:Int)) H2.mb fZ (H2.rv 1 J) aV aV (by exact(bO bU).1) (by exact(bO bU).2.1)<|by exact(bO bU).2.2.1
  refine ca Fk J (ec J<|ec J<|ec J e0) bP ?_
  rintro _ w2 ⟨rfl,cY⟩
  have H3:=H2.ext cY
  refine z<|nx ?_
  refine cd (b:=eC mn mr (j:Int) (j:Int)) J J (fun b1=>?_)<|fun b1=>?_
  ·
   refine aB<|ak (v:=C (j:Int)) J J<|au (v:=C (j:Int)) J J<|au (v:=.bool true) J J<|av<|rt<|bQ<|aL<|dQ<|bQ<|aL<|r2 J J J ?_
   have e0:((j:Int):Int)=(((cM mn mr).getD 0:Nat):Int):=by rw[Lg aq b1 hs];rfl
   have e1:(true:Bool)=(cM mn mr).isSome:=by rw[Lg aq b1 hs];rfl
   have bo:=nr (fun (bV:Int) (dI:Bool)=>(.tuple #[C bV,.bool dI]:Value)) e0 e1
   exact⟨bo,H3.below⟩
  refine sk<|aI<|nx<|rg<|k<|add J J s2 J aV<|ak (v:=C ((j:Int)+1)) J J<|z ?_
  refine bB _ ?_ ⟨(j+1),J,s0,s1,(bJ J),H3,aq,(by exact QC (p:=fun k=>eC mn mr ((k:Nat):Int) ((k:Nat):Int)) hs b1)⟩
  omega
 have p0:=dF b0
 refine ex<|aX<|bf<|bg<|cI<|au (v:=C 0) J J<|au (v:=.bool false) J J<|av<|rt<|r2 J J J ?_
 have e0:(0:Int)=(((cM mn mr).getD 0:Nat):Int):=by rw[IM aq hs];rfl
 have e1:(false:Bool)=(cM mn mr).isSome:=by rw[IM aq hs];rfl
 have bo:=nr (fun (bV:Int) (dI:Bool)=>(.tuple #[C bV,.bool dI]:Value)) e0 e1
 exact⟨bo,H2.below⟩
theorem E_ (hM:eD M w) (fZ:aK mn) (fG:cw M w bA bz mr) (qA:aK i) (Bz:aK j) (bU:bF mn mr=true):Calls aJ 66 #[.agg #[C mn,R bA mr bz],C i,C j] w (cb fun v w'=>∃(a0:OA) (c0:Nat),v=.tuple #[.agg #[C (gX mn i j),.slice a0 (gQ mn mr i j).length c0],C (lk mn i j)]∧Ext w w'∧RV M w' (.slice a0 (gQ mn mr i j).length c0) (gQ mn mr i j)):=by
 refine df 71 Tryz.func66 J J J hM fun f0 ha H=>?_
 let J0:=iL bA mr bz
 have H0:=H.put (it:=J0) J<|by rw[bN];exact fG
 have kA:=aP fG
 have i0:f0 0=.agg #[C mn,R bA mr bz]:=ha 0 bh
 have i1:f0 1=C i:=ha 1 bh
 have i2:f0 2=C j:=ha 2 bh
 have tw:=(bO bU).1;have I_:=(bO bU).2.2.1;have D':=kF bU
 refine aB<|k<|bx H0 J i0 ?_
 intro aY w0 bS (H1:HI M w w0 [box aY #[C mn,R bA mr bz] 26,J0])
 let J1:=box aY #[C mn,R bA mr bz] 26
 refine k<|al H1 bm ?_
 intro ba w1 cY (H2:HI M w w1 [box ba #[C 0,.slice none 0 0] 26,J1,J0])
 let J2:=box ba #[C 0,.slice none 0 0] 26
 refine au (v:=C 0) J J<|av<|sq<|aB<|ak J i1<|k<|lss J J J J<|ak (v:=.bool (decide (i<0))) J J ?_
 rcases bE (decide (i<0)) with b0|b0
 ·
  have p0:=dT b0
  refine aN J J J b0<|aN J J J b0<|aN J J J b0<|aN J J J b0<|k<|aR J J J J b0 J<|ak (v:=.bool true) J J<|aN J J J J<|aN J J J J<|k<|aR J J J J J J<|ak (v:=.bool true) J J<|aN J J J J<|aN J J J J<|aN J J J J<|aN J J J J<|k<|aR J J J J J J<|av<|oP J J J<|aB<|k<|bd (v:=.agg #[C 0,.slice none 0 0]) J ey (fun _=>aM)<|k<|bp H2 0 J bm J J J J J J J ?_
  intro w2 (H3:HI M w w2 [J2,J1,J0])
  refine au (v:=C 1) J J<|av<|rt<|aL<|ib H3 0 J bm J J J J J aw ?_
  have e0:(0:Int)=gX mn i j:=by exact(od (rs:=mr) (jY.2 aq)).1.symm
  have e1:([]:List (List bX))=gQ mn mr i j:=by exact(G_ (rs:=mr) (jY.2 aq)).2.1.symm
  have e2:(1:Int)=lk mn i j:=by exact(od (rs:=mr) (jY.2 aq)).2.2.symm
  have bo:=qH (fun (bV:Int) (dI:List (List bX)) (gv:Int)=>(.tuple #[.agg #[C bV,.slice none dI.length 0],C gv]:Value)) e0 e1 e2
  exact⟨none,0,bo,H3.below,(amh (fun (x_:List (List bX))=>RV _ _ (.slice none x_.length 0) x_) e1).mp (d_ _ _)⟩
 have p0:=dF b0
 refine aT J J J b0<|mv J i1<|aT J J J b0<|fa j6 J J<|aT J J J b0<|lx H2 1 J aW J J J<|aT J J J b0<|geq J J J J<|k<|cK J J J J b0 J<|ak (v:=.bool (decide (mn≤i))) J J ?_
 rcases bE (decide (mn≤i)) with b1|b1
 ·
  have p1:=dT b1
  refine aN J J J b1<|aN J J J b1<|k<|aR J J J J b1 J<|ak (v:=.bool true) J J<|aN J J J J<|aN J J J J<|aN J J J J<|aN J J J J<|k<|aR J J J J J J<|av<|oP J J J<|aB<|k<|bd (v:=.agg #[C 0,.slice none 0 0]) J ey (fun _=>aM)<|k<|bp H2 0 J bm J J J J J J J ?_
  intro w2 (H3:HI M w w2 [J2,J1,J0])
  refine au (v:=C 1) J J<|av<|rt<|aL<|ib H3 0 J bm J J J J J aw ?_
  have e0:(0:Int)=gX mn i j:=by exact(od (rs:=mr) (jY.2 aq)).1.symm
  have e1:([]:List (List bX))=gQ mn mr i j:=by exact(G_ (rs:=mr) (jY.2 aq)).2.1.symm
  have e2:(1:Int)=lk mn i j:=by exact(od (rs:=mr) (jY.2 aq)).2.2.symm
  have bo:=qH (fun (bV:Int) (dI:List (List bX)) (gv:Int)=>(.tuple #[.agg #[C bV,.slice none dI.length 0],C gv]:Value)) e0 e1 e2
  exact⟨none,0,bo,H3.below,(amh (fun (x_:List (List bX))=>RV _ _ (.slice none x_.length 0) x_) e1).mp (d_ _ _)⟩
 have p1:=dF b1
 refine aT J J J b1<|mv J i2<|aT J J J b1<|lss J J J J<|k<|cK J J J J b1 J<|ak (v:=.bool (decide (j<0))) J J ?_
 rcases bE (decide (j<0)) with b2|b2
 ·
  have p2:=dT b2
  refine aN J J J b2<|aN J J J b2<|aN J J J b2<|aN J J J b2<|k<|aR J J J J b2 J<|av<|oP J J J<|aB<|k<|bd (v:=.agg #[C 0,.slice none 0 0]) J ey (fun _=>aM)<|k<|bp H2 0 J bm J J J J J J J ?_
  intro w2 (H3:HI M w w2 [J2,J1,J0])
  refine au (v:=C 1) J J<|av<|rt<|aL<|ib H3 0 J bm J J J J J aw ?_
  have e0:(0:Int)=gX mn i j:=by exact(od (rs:=mr) (jY.2 aq)).1.symm
  have e1:([]:List (List bX))=gQ mn mr i j:=by exact(G_ (rs:=mr) (jY.2 aq)).2.1.symm
  have e2:(1:Int)=lk mn i j:=by exact(od (rs:=mr) (jY.2 aq)).2.2.symm
  have bo:=qH (fun (bV:Int) (dI:List (List bX)) (gv:Int)=>(.tuple #[.agg #[C bV,.slice none dI.length 0],C gv]:Value)) e0 e1 e2
  exact⟨none,0,bo,H3.below,(amh (fun (x_:List (List bX))=>RV _ _ (.slice none x_.length 0) x_) e1).mp (d_ _ _)⟩
 have p2:=dF b2
 refine aT J J J b2<|mv J i2<|aT J J J b2<|fa j6 J J<|aT J J J b2<|lx H2 1 J aW J J J<|aT J J J b2<|geq J J J J<|k<|cK J J J J b2 J<|z<|nx ?_
 refine cd (b:=decide (mn≤j)) J J (fun b3=>?_)<|fun b3=>?_
 ·
  have p3:=dT b3
  refine aB<|k<|bd (v:=.agg #[C 0,.slice none 0 0]) J ey (fun _=>aM)<|k<|bp H2 0 J bm J J J J J J J ?_
  intro w2 (H3:HI M w w2 [J2,J1,J0])
  refine au (v:=C 1) J J<|av<|rt<|aL<|ib H3 0 J bm J J J J J aw ?_
  have e0:(0:Int)=gX mn i j:=by exact(od (rs:=mr) (jY.2 aq)).1.symm
  have e1:([]:List (List bX))=gQ mn mr i j:=by exact(G_ (rs:=mr) (jY.2 aq)).2.1.symm
  have e2:(1:Int)=lk mn i j:=by exact(od (rs:=mr) (jY.2 aq)).2.2.symm
  have bo:=qH (fun (bV:Int) (dI:List (List bX)) (gv:Int)=>(.tuple #[.agg #[C bV,.slice none dI.length 0],C gv]:Value)) e0 e1 e2
  exact⟨none,0,bo,H3.below,(amh (fun (x_:List (List bX))=>RV _ _ (.slice none x_.length 0) x_) e1).mp (d_ _ _)⟩
 have p3:=dF b3
 refine sk<|nx<|sq<|sq ?_
 have hq:kg mn [i,j]=true:=ja.2 aq
 refine rg<|k<|cq H2 1 J bm J J aw J<|ak J i1<|ak J i2<|k ?_
 have bP:=tU (mn:=mn) (mr:=mr) (i:=i) (j:=j) H2.mb fZ (H2.rv 2 J) qA Bz (by exact(bO bU).1) (by exact(bO bU).2.1)<|by exact(bO bU).2.2.1
 refine ca Fk J (ec J<|ec J<|ec J e0) bP ?_
 rintro _ w2 ⟨rfl,eT⟩
 have H3:=H2.ext eT
 refine z<|nx ?_
 refine cd (b:=eC mn mr i j) J J (fun b4=>?_)<|fun b4=>?_
 ·
  refine aB<|k<|cq H3 1 J bm J J aw J<|k<|bp H3 0 J bm J J J J J J J ?_
  intro w3 (H4:HI M w w3 [box ba #[C mn,R bA mr bz] 26,J1,J0])
  refine au (v:=C 0) J J<|av<|rt<|aL<|ib H4 0 J bm J J J J J aw ?_
  have e0:(mn:Int)=gX mn i j:=by exact(pG (rs:=mr) (ja.2 aq)).1.symm
  have e1:(mr:List (List bX))=gQ mn mr i j:=by exact(ZW hq bq).symm
  have e2:(0:Int)=lk mn i j:=by exact(pG (rs:=mr) (ja.2 aq)).2.2.symm
  have bo:=qH (fun (bV:Int) (dI:List (List bX)) (gv:Int)=>(.tuple #[.agg #[C bV,.slice bA dI.length bz],C gv]:Value)) e0 e1 e2
  exact⟨bA,bz,bo,H4.below,(amh (fun (x_:List (List bX))=>RV _ _ (.slice bA x_.length bz) x_) e1).mp (H4.fg 2 J)⟩
 refine sk<|cI<|aU ik J J<|bl H3 1 J kO J J J<|ak J i2<|k<|ia (H3.rv 2 J) J J J J aq gV cZ ?_
 intro iw x0 aQ cu
 refine k<|vB cu.w cZ J J ?_
 intro a0 c0 cm
 have uH:=aP cm
 let J3:=iL a0 x0 c0
 have H4:=H3.put (it:=J3) J cm
 refine ak J i2<|k ?_
 have cV:=tP (r:=x0) (i:=j) H4.mb (H4.rv 0 J) Bz<|by exact(bO bU).2.1 _ (dJ aQ)
 refine ca Fh J (ec J<|ec J e0) cV ?_
 rintro _ w3 ⟨a1,c1,rfl,fB,dM⟩
 have H5:=H4.eI dM
 refine au (v:=R a1 (dY x0 j) c1) J J<|bt<|k<|cq H5 3 J bm J J aw J<|k ?_
 have fT:=Lw (mn:=mn) (mr:=mr) H5.mb fZ (H5.rv 4 J)<|by exact bU
 refine ca acw J (ec J e0) fT ?_
 rintro _ w4 ⟨a2,c2,fI,rfl,iN,dV⟩
 have H6:=H5.F8 dV
 let J4:=own w.heap.size 144 (.slice a2 mn.toNat c2) fI
 let J5:=oL w 151 a1 (dY x0 j) c1
 have H7:HI M w w4 ([J4,J5,J3,J2,J1,J0]++bC w.heap.size 151 fI mr):=H6
 have EG:=dV.1
 refine k<|al H7 bm ?_
 intro bD w5 jb (H8:HI M w w5 ([box bD #[C 0,.slice none 0 0] 26,J4,J5,J3,J2,J1,J0]++bC w.heap.size 151 fI mr))
 refine k<|bp H8 0 J bm J J J J J J J ?_
 let J6:=box bD #[C mn,.slice a2 mn.toNat c2] 26
 intro w6 (H9:HI M w w6 ([J6,J4,J5,J3,J2,J1,J0]++bC w.heap.size 151 fI mr))
 refine av<|sq<|aB<|aU ik J J<|bl H9 0 J kO J J J<|k<|dW J J gV<|ak (v:=C 0) J J<|av<|bk ?_
 refine lp (fun m f w'=>∃(k_:Nat) (xs:List (List bX)),m=mn.toNat-k_∧f 1=C i∧f 3=pV aY 0∧f 6=pV ba 0∧f 8=R a1 (dY x0 j) c1∧f 9=pV bD 0∧f 46=C (mn.toNat:Int)∧f 47=C (k_:Int)∧HI M w w' ([J6,J4,J5,J3,J2,J1,J0]++bC w.heap.size 151 fI xs)∧(k_≤mn.toNat)∧(fI.length=xs.length)∧(xs=cB mn.toNat (Ae (fX mr) i.toNat j.toNat k_))∧(xs.length=mn.toNat)) _ ⟨0,mr,J,i1,J,J,J,J,J,(bJ J),H9,aq,(by exact EG),(by exact Wl bU),aq⟩ ?_
 rintro _ f0 w7 ⟨k_,xs,rfl,s0,s1,s2,s3,s4,s5,s6,dC,hk,hl,hs,D2⟩
 refine aB<|k<|lss J J s6 s5<|av<|sq ?_
 refine cd (b:=decide ((k_:Int)<(mn.toNat:Int))) J J (fun b5=>?_)<|fun b5=>?_
 ·
  have p5:=dT b5
  refine sk<|nx<|sq<|bk<|aB<|ak J s6<|au (v:=C (k_:Int)) J J<|bt<|ak (v:=C (k_:Int)) J J<|ak J s0<|k<|eql J J J J<|ak (v:=.bool (decide ((k_:Int)=i))) J J ?_
  rcases bE (decide ((k_:Int)=i)) with b6|b6
  ·
   have p6:=dT b6
   refine aN J J J b6<|aN J J J b6<|aN J J J b6<|aN J J J b6<|aN J J J b6<|aN J J J b6<|aN J J J b6<|k<|aR J J J J b6 J<|av<|oP J J J<|rg<|aU ik J s4<|bl dC 0 J kO J J J<|ak (v:=C (k_:Int)) J J<|k ?_
   obtain⟨a3,x1,c3,lQ,l7⟩:=tO (i:=(k_:Int).toNat) dC bq aq
   refine ic (dC.at_ 1 J) J J J J aq gV cZ ?_
   intro g0 x2 im cP gK
   obtain rfl:(⟨a3,x1.length,c3⟩:SV)=x2:=amo (lQ.symm.trans cP)
   refine k<|IQ gK cZ J J<|ak J s3<|k ?_
   have eU:=Cs dC (pj (l:=[J6,J4,J5,J3,J2,J1,J0]) lQ l7) (j:=2) J (by rw[TX bU hs l7,km,nC bU aQ];exact amk _) (by rw[km];exact(bO bU).2.1 _ (dJ aQ))<|.inl (by simp only[iB,gm];omega)
   refine ca Vs J (ec J<|ec J e0) eU ?_
   rintro _ w8 ⟨rfl,dt⟩
   have cT:=HI.zt (M:=fun _=>False) (it:=sU (.int .i64 0) (0:Int)) dt lQ
   have dw:HI M w w8 ([J6,J4,J5,J3,J2,J1,J0]++bC w.heap.size 151 fI (xs.set ((k_:Int).toNat) (jz x1 (dY x0 j)))):=cT
   refine z<|aI<|nx<|rg<|k<|add J J s6 J aV<|ak (v:=C ((k_:Int)+1)) J J<|z ?_
   refine bB _ ?_ ⟨(k_+1),(xs.set ((k_:Int).toNat) (jz x1<|dY x0 j)),J,s0,s1,s2,s3,s4,s5,(bJ J),dw,aq,(by rw[ami];exact hl),(by exact TW bU hq hs l7 aQ (.inl aq)),(by rw[ami];exact D2)⟩
   omega
  have p6:=dF b6
  refine aT J J J b6<|fa ik J s1<|aT J J J b6<|lx dC 5 J kO J J J<|aT J J J b6<|mv (v:=C (k_:Int)) J J<|aT J J J b6<|ia (dC.rv 6 J) J J J J aq gV cZ ?_
  intro rD x1 cP gK
  refine aT J J J b6<|vB gK.w cZ J J ?_
  intro a3 c3 fq
  have ln1:=aP fq
  have cT:=ee dC fq
  have dt:HI M w w7 ([iL a3 x1 c3,J6,J4,J5,J3,J2,J1,J0]++bC w.heap.size 151 fI xs):=cT
  refine aT J J J b6<|mv J s0<|aT J J J b6 ?_
  have eU:=zr (r:=x1) (i:=i) dt.mb (dt.rv 0 J) qA
  refine ca LY J (ec J<|ec J e0) eU ?_
  rintro _ w8 ⟨rfl,kf⟩
  have dw:=dt.ext kf
  refine k<|cK J J J J b6 J<|z<|nx ?_
  refine cd (b:=fe x1 i) J J (fun b7=>?_)<|fun b7=>?_
  ·
   refine rg<|aU ik J s4<|bl dw 1 J kO J J J<|ak (v:=C (k_:Int)) J J<|k ?_
   obtain⟨a4,x2,c4,lQ,l7⟩:=tO (i:=(k_:Int).toNat) dw bq aq
   refine ic (dw.at_ 2 J) J J J J aq gV cZ ?_
   intro g0 x3 im iW la
   obtain rfl:(⟨a4,x2.length,c4⟩:SV)=x3:=amo (lQ.symm.trans iW)
   refine k<|IQ la cZ J J<|ak J s3<|k ?_
   have kR:=Cs dw (pj (l:=[iL a3 x1 c3,J6,J4,J5,J3,J2,J1,J0]) lQ l7) (j:=3) J (by rw[TX bU hs l7,km,nC bU aQ];exact amk _) (by rw[km];exact(bO bU).2.1 _ (dJ aQ))<|.inl (by simp only[iB,gm];omega)
   refine ca Vs J (ec J<|ec J e0) kR ?_
   rintro _ w9 ⟨rfl,dS⟩
   have cJ:=HI.zt (M:=fun _=>False) (it:=sU (.int .i64 0) (0:Int)) dS lQ
   have de:HI M w w9 ([iL a3 x1 c3,J6,J4,J5,J3,J2,J1,J0]++bC w.heap.size 151 fI (xs.set ((k_:Int).toNat) (jz x2 (dY x0 j)))):=cJ
   refine z<|aI<|nx<|rg<|k<|add J J s6 J aV<|ak (v:=C ((k_:Int)+1)) J J<|z ?_
   have cO:HI M w w9 ([J6,J4,J5,J3,J2,J1,J0]++bC w.heap.size 151 fI (xs.set ((k_:Int).toNat) (jz x2 (dY x0 j)))):=HI.aR (l:=[iL a3 x1 c3,J6,J4,J5,J3,J2,J1,J0]) (l':=[J6,J4,J5,J3,J2,J1,J0]) (t:=bC w.heap.size 151 fI (xs.set ((k_:Int).toNat) (jz x2 (dY x0 j)))) de [1,2,3,4,5,6,7] aw rfl rfl
   refine bB _ ?_ ⟨(k_+1),(xs.set ((k_:Int).toNat) (jz x2<|dY x0 j)),J,s0,s1,s2,s3,s4,s5,(bJ J),cO,aq,(by rw[ami];exact hl),(by exact TW bU hq hs l7 aQ (.inr ⟨_,cP,by assumption⟩)),(by rw[ami];exact D2)⟩
   omega
  refine sk<|aI<|nx<|rg<|k<|add J J s6 J aV<|ak (v:=C ((k_:Int)+1)) J J<|z ?_
  have cJ:HI M w w8 ([J6,J4,J5,J3,J2,J1,J0]++bC w.heap.size 151 fI xs):=HI.aR (l:=[iL a3 x1 c3,J6,J4,J5,J3,J2,J1,J0]) (l':=[J6,J4,J5,J3,J2,J1,J0]) (t:=bC w.heap.size 151 fI xs) dw [1,2,3,4,5,6,7] aw rfl rfl
  refine bB _ ?_ ⟨(k_+1),xs,J,s0,s1,s2,s3,s4,s5,(bJ J),cJ,aq,(by exact hl),(by exact afm bU hq hs aq cP bq),(by exact D2)⟩
  omega
 have p5:=dF b5
 refine ex<|aX<|bf<|bg<|nx<|sq ?_
 have cT:HI M w w7 [own w.heap.size 144 (.slice a2 mn.toNat c2) xs,J6,J5,J3,J2,J1,J0]:=HI.deep (l:=[J6,J5,J3,J2,J1,J0]) (HI.aR (l:=[J6,J4,J5,J3,J2,J1,J0]) (l':=[J4,J6,J5,J3,J2,J1,J0]) (t:=bC w.heap.size 151 fI xs) dC [1,0,2,3,4,5,6] aw rfl rfl) bq
 refine rg<|k<|cq cT 1 J bm J s4 aw J<|k<|bp cT 4 J bm J J s2 J J J J ?_
 intro w8 (dt:HI M w w8 [own w.heap.size 144 (.slice a2 mn.toNat c2) xs,J6,J5,J3,box ba #[C mn,.slice a2 mn.toNat c2] 26,J1,J0])
 refine au (v:=C 0) J J<|av<|rt<|ib dt 4 J bm J J J s2 J aw ?_
 have e0:(mn:Int)=gX mn i j:=by exact(pG (rs:=mr) (ja.2 aq)).1.symm
 have e1:(xs:List (List bX))=gQ mn mr i j:=by exact ado bU hq bq hs aq
 have l1:mn.toNat=(gQ mn mr i j).length:=by rw[←e1];omega
 have e2:(0:Int)=lk mn i j:=by exact(pG (rs:=mr) (ja.2 aq)).2.2.symm
 have bo:=qH (fun (bV:Int) (uE:Nat) (gv:Int)=>(.tuple #[.agg #[C bV,.slice a2 uE c2],C gv]:Value)) e0 l1 e2
 exact⟨a2,c2,bo,dt.below,(amh (fun (n_:Nat)=>RV _ _ (.slice a2 n_ c2) (gQ mn mr i j)) l1).mp ((amh (fun (x_:List (List bX))=>RV _ _ (.slice a2 mn.toNat c2) x_) e1).mp (dt.me 0 J))⟩
theorem Vu:ct aJ 87:=⟨_,_,Tryz.func87,rfl,aM⟩
theorem NR (hM:eD M w) (hT:fQ 0 w) (fZ:aK mn) (fG:cw M w bA bz mr) (tB:aK o) (bU:bF mn mr=true):Calls aJ 100 #[.agg #[C mn,R bA mr bz],C o] w (cb fun v w'=>∃(a0:OA) (c0:Nat),v=.slice a0 (eL mn mr o).length c0∧Ext w w'∧bj M 3 w (eL mn mr o) (.slice a0 (eL mn mr o).length c0) w'):=by
 refine df 20 Tryz.func100 J J J hM fun f0 ha H=>?_
 have H0:=ee H fG
 have kA:=aP fG
 have i0:f0 0=.agg #[C mn,R bA mr bz]:=ha 0 bh
 have i1:f0 1=C o:=ha 1 bh
 have tw:=(bO bU).1;have I_:=(bO bU).2.2.1;have D':=kF bU
 refine aB<|k<|bx H0 J i0 ?_
 intro aY w0 bS (H1:HI M w w0 [box aY #[C mn,R bA mr bz] 26,iL bA mr bz])
 refine au (v:=.slice none 0 0) J J<|av<|sq<|aB<|ak J i1<|k<|lss J J J J<|ak (v:=.bool (decide (o<0))) J J ?_
 rcases bE (decide (o<0)) with b0|b0
 ·
  have p0:=dT b0
  refine aN J J J b0<|aN J J J b0<|aN J J J b0<|aN J J J b0<|k<|aR J J J J b0 J<|av<|oP J J J<|aB<|au (v:=.slice none 0 0) J J<|av<|rt<|aL<|r1 J J ?_
  have e0:([]:List Int)=eL mn mr o:=by exact(KY aq).symm
  have bo:=iq (fun (bV:List Int)=>(.slice none bV.length 0:Value)) e0
  exact⟨none,0,bo,H1.below,(amh (fun (x_:List Int)=>bj _ _ _ x_ (.slice none x_.length 0) _) e0).mp (fL H1.below)⟩
 have p0:=dF b0
 refine aT J J J b0<|mv J i1<|aT J J J b0<|fa j6 J J<|aT J J J b0<|lx H1 0 J aW J J J<|aT J J J b0<|geq J J J J<|k<|cK J J J J b0 J<|z<|nx ?_
 refine cd (b:=decide (mn≤o)) J J (fun b1=>?_)<|fun b1=>?_
 ·
  have p1:=dT b1
  refine aB<|au (v:=.slice none 0 0) J J<|av<|rt<|aL<|r1 J J ?_
  have e0:([]:List Int)=eL mn mr o:=by exact(KY aq).symm
  have bo:=iq (fun (bV:List Int)=>(.slice none bV.length 0:Value)) e0
  exact⟨none,0,bo,H1.below,(amh (fun (x_:List Int)=>bj _ _ _ x_ (.slice none x_.length 0) _) e0).mp (fL H1.below)⟩
 have p1:=dF b1
 refine sk<|nx<|sq ?_
 have hq:0≤o∧o<mn:=by omega
 have gb:=BO mn mr
 refine rg<|k<|cq H1 0 J bm J J aw J<|k ?_
 have bP:=E6 (mn:=mn) (mr:=mr) H1.mb (hT.ext H1.below) fZ (H1.rv 1 J)<|by exact bU
 refine ca Vu J (ec J e0) bP ?_
 rintro _ w1 ⟨a0,c0,rfl,cY,cm⟩
 have H2:=H1.eI cm
 refine k<|fd (v:=R a0 (gF mn mr) c0) J J (fun _=>aM)<|ak J i1<|k<|ic (H2.at_ 0 J) J J J J aq gV cZ ?_
 intro g0 x0 im aQ cu
 refine k<|vB cu cZ J J ?_
 intro a1 c1 dM
 have uH:=aP dM
 have H3:=ee H2 dM
 refine k ?_
 have cV:=tQ (r:=x0) H3.mb (hT.ext H3.below) (H3.rv 0 J)<|by have h_:=wB bU aQ;omega
 refine ca HL J (ec J e0) cV ?_
 rintro _ w2 ⟨a2,c2,rfl,eT,dV⟩
 have H4:=H3.eI dV
 refine au (v:=R a2 (cR x0) c2) J J<|av<|rt<|r1 J J ?_
 have e0:(cR x0:List Int)=eL mn mr o:=by exact RG bU hq aQ
 have bo:=iq (fun (bV:List Int)=>(.slice a2 bV.length c2:Value)) e0
 exact⟨a2,c2,bo,H4.below,(amh (fun (x_:List Int)=>bj _ _ _ x_ (.slice a2 x_.length c2) _) e0).mp (H4.da 0 J)⟩
theorem uy (hM:eD M w) (hT:fQ 0 w) (fZ:aK mn) (fG:cw M w bA bz mr) (tB:aK o) (bU:bF mn mr=true):Calls aJ 82 #[.agg #[C mn,R bA mr bz],C o] w (cb fun v w'=>∃(a0:OA) (c0:Nat),v=.slice a0 (bL mn mr o).length c0∧Ext w w'∧bj M 3 w (bL mn mr o) (.slice a0 (bL mn mr o).length c0) w'):=by
 refine df 22 Tryz.func82 J J J hM fun f0 ha H=>?_
 have H0:=ee H fG
 have kA:=aP fG
 have i0:f0 0=.agg #[C mn,R bA mr bz]:=ha 0 bh
 have i1:f0 1=C o:=ha 1 bh
 have tw:=(bO bU).1;have I_:=(bO bU).2.2.1;have D':=kF bU
 refine aB<|k<|bx H0 J i0 ?_
 intro aY w0 bS (H1:HI M w w0 [box aY #[C mn,R bA mr bz] 26,iL bA mr bz])
 refine au (v:=.slice none 0 0) J J<|av<|sq<|aB<|ak J i1<|k<|lss J J J J<|ak (v:=.bool (decide (o<0))) J J ?_
 rcases bE (decide (o<0)) with b0|b0
 ·
  have p0:=dT b0
  refine aN J J J b0<|aN J J J b0<|aN J J J b0<|aN J J J b0<|k<|aR J J J J b0 J<|av<|oP J J J<|aB<|au (v:=.slice none 0 0) J J<|av<|rt<|aL<|r1 J J ?_
  have e0:([]:List Int)=bL mn mr o:=by exact(Ki aq).symm
  have bo:=iq (fun (bV:List Int)=>(.slice none bV.length 0:Value)) e0
  exact⟨none,0,bo,H1.below,(amh (fun (x_:List Int)=>bj _ _ _ x_ (.slice none x_.length 0) _) e0).mp (fL H1.below)⟩
 have p0:=dF b0
 refine aT J J J b0<|mv J i1<|aT J J J b0<|fa j6 J J<|aT J J J b0<|lx H1 0 J aW J J J<|aT J J J b0<|geq J J J J<|k<|cK J J J J b0 J<|z<|nx ?_
 refine cd (b:=decide (mn≤o)) J J (fun b1=>?_)<|fun b1=>?_
 ·
  have p1:=dT b1
  refine aB<|au (v:=.slice none 0 0) J J<|av<|rt<|aL<|r1 J J ?_
  have e0:([]:List Int)=bL mn mr o:=by exact(Ki aq).symm
  have bo:=iq (fun (bV:List Int)=>(.slice none bV.length 0:Value)) e0
  exact⟨none,0,bo,H1.below,(amh (fun (x_:List Int)=>bj _ _ _ x_ (.slice none x_.length 0) _) e0).mp (fL H1.below)⟩
 have p1:=dF b1
 refine sk<|nx<|sq ?_
 have hq:0≤o∧o<mn:=by omega
 have gb:=BO mn mr
 refine rg<|k<|cq H1 0 J bm J J aw J<|k ?_
 have bP:=E6 (mn:=mn) (mr:=mr) H1.mb (hT.ext H1.below) fZ (H1.rv 1 J)<|by exact bU
 refine ca Vu J (ec J e0) bP ?_
 rintro _ w1 ⟨a0,c0,rfl,cY,cm⟩
 have H2:=H1.eI cm
 refine k<|fd (v:=R a0 (gF mn mr) c0) J J (fun _=>aM)<|ak J i1<|k<|ic (H2.at_ 0 J) J J J J aq gV cZ ?_
 intro g0 x0 im aQ cu
 refine k<|vB cu cZ J J ?_
 intro a1 c1 dM
 have uH:=aP dM
 have H3:=ee H2 dM
 refine ak J i1<|k ?_
 have cV:=tP (r:=x0) (i:=o) H3.mb (H3.rv 0 J) tB<|by have h_:=wB bU aQ;omega
 refine ca Fh J (ec J<|ec J e0) cV ?_
 rintro _ w2 ⟨a2,c2,rfl,eT,dV⟩
 have H4:=H3.eI dV
 refine k ?_
 have H5:=H4.freeze 0 J
 have fT:=tQ (r:=(dY x0 o)) H5.mb (hT.ext H5.below) (H5.rv 0 J)<|by rw[km];have h_:=wB bU aQ;omega
 refine ca HL J (ec J e0) fT ?_
 rintro _ w3 ⟨a3,c3,rfl,fB,fq⟩
 have H6:=H5.eI fq
 refine au (v:=R a3 (cR<|dY x0 o) c3) J J<|av<|rt<|r1 J J ?_
 have e0:(cR (dY x0 o):List Int)=bL mn mr o:=by exact QV bU hq aQ
 have bo:=iq (fun (bV:List Int)=>(.slice a3 bV.length c3:Value)) e0
 exact⟨a3,c3,bo,H6.below,(amh (fun (x_:List Int)=>bj _ _ _ x_ (.slice a3 x_.length c3) _) e0).mp (H6.da 0 J)⟩
theorem fy:gM aJ 47 1 1:=⟨_,_,Tryz.underlying47,rfl,rfl,aM⟩
theorem iR:eh aJ 45 1 false 24 (.slice none 0 0):=⟨aM,aM⟩
theorem jn:aJ.underlying 45=some (.slice 95):=aM
theorem jr:eh aJ 95 5 true 40 (.agg #[.int .i64 0,.int .i64 0,.bool false,.int .i64 0,.int .i64 0]):=⟨aM,aM⟩
theorem uU:gM aJ 95 2 2:=⟨_,_,Tryz.underlying95,rfl,rfl,aM⟩
theorem l5:eh aJ 4 1 false 1 (.bool false):=⟨aM,aM⟩
theorem tc:gM aJ 95 3 3:=⟨_,_,Tryz.underlying95,rfl,rfl,aM⟩
theorem oF (zW:FPH aJ pY qb M w (fun qS=>own w.heap.size 3 (R dO xs dH) qS) r xs p) (H:HI M w w_ ([oL w 3 dO xs dH]++r)):Calls aJ 107 #[R dO xs dH,.func (.func pY) #[] qb.toArray] w_ (cb fun v w'=>v=.slice dO (aZ p xs).length dH∧HI M w w' ([oL w 3 dO (aZ p xs) dH]++r)):=by
 refine enter 42 Tryz.func107 J J J fun f0 ha=>?_
 have Gh:=j1<|H.at_ 0 J
 have i0:f0 0=R dO xs dH:=ha 0 bh
 have i1:f0 1=.func (.func pY) #[] qb.toArray:=ha 1 bh
 refine aB<|au (v:=.slice none 0 0) J J<|bt<|ak J i0<|ak J i1<|k ?_
 have H0:=H.freeze 0 J
 have bP:=vk (r:=xs) (p:=p) H0.mb (H0.rv 0 J)<|zW.fp H
 refine ca Vt J (ec J<|ec J e0) bP ?_
 rintro _ w0 ⟨rfl,bS⟩
 have H2:=H.ext bS
 refine au (v:=C (eF p xs)) J J<|av<|sq<|aB<|ak (v:=C (eF p xs)) J J<|k<|eql J J J J<|z<|nx ?_
 refine cd (b:=decide ((eF p xs)=(-1))) J J (fun b0=>?_)<|fun b0=>?_
 ·
  have p0:=dT b0
  refine aB<|ak J i0<|au (v:=R dO xs dH) J J<|av<|rt<|aL<|r1 J J ?_
  have e0:(xs:List _)=(aZ p xs):=by exact ZA bq
  try rw[←e0]
  refine⟨?_,?_⟩
  · first|rfl|simp only[e0]|(simp only[ami])
  · first|exact H2|simpa +zetaDelta only[e0,ami] using H2
 have p0:=dF b0
 refine sk<|nx<|sq<|sq ?_
 obtain⟨ahA,ahz,P7⟩:=VN (p:=p) (xs:=xs) bq
 refine rg<|ak (v:=C (eF p xs)) J J<|k<|add J J J J aV<|au (v:=C ((eF p xs)+1)) J J<|av<|bk ?_
 refine lp (fun m f w'=>∃(q:Int) (k_:Nat) (ys:List Int),m=xs.length-k_∧f 0=R dO xs dH∧f 1=.func (.func pY) #[] qb.toArray∧f 5=C q∧f 6=C (k_:Int)∧HI M w w' ([own w.heap.size 3 (.slice dO xs.length dH) ys]++r)∧(0≤q∧q<(k_:Int)∧k_≤xs.length)∧(DF p xs ys q k_)) _ ⟨(eF p xs),((eF p xs).toNat+1),xs,J,i0,i1,(bJ J),(bJ J),H2,aq,(by exact P7)⟩ ?_
 rintro _ f0 w1 ⟨q,k_,ys,rfl,s0,s1,s2,s3,H3,sf,hs⟩
 refine sq<|aB<|ak J s3<|ak J s0<|k<|dW J J cG<|k<|lss J J J J<|z<|nx ?_
 refine cd (b:=decide ((k_:Int)<(xs.length:Int))) J J (fun b1=>?_)<|fun b1=>?_
 ·
  have p1:=dT b1
  refine sk<|nx<|sq<|bk<|aB<|ak J s0<|ak J s3<|k<|ic (H3.at_ 0 J) J J J J (by have h_:=hs.1;first|omega|(simp only[gf,ij,nX,gm];omega)) cG aW ?_
  intro g0 x0 im aQ cu
  refine k<|mQ cu aW J J ?_
  intro cm
  refine au (v:=C x0) J J<|av<|sq ?_
  have tw:=hs.1
  refine rg<|ak J s1<|ak (v:=C x0) J J<|k<|cf zW.1 J J J (ec J e0) (zW.2 _ _ H3 _ (by exact dJ (by exact Qx hs aQ)) cm) ?_
  rintro _ w2 ⟨rfl,cY⟩
  have H4:=H3.ext cY
  have H5:HI M w w2 ([own w.heap.size 3 (.slice dO xs.length dH) ys]++r):=H4
  refine k<|jE J J<|z<|nx ?_
  refine cd (b:=!(p x0)) J J (fun b2=>?_)<|fun b2=>?_
  ·
   refine aB<|ak J s0<|ak J s2<|ak (v:=C x0) J J<|k<|ic (H5.at_ 0 J) J J J J (by have h_:=hs.1;first|omega|(simp only[gf,ij,nX,gm];omega)) cG aW ?_
   intro g1 x1 kB cP gK
   refine k<|pR H5 0 J kB J (by have h_:=hs.1;first|omega|(simp only[gf,ij,nX,gm];omega)) aW J J J J (RV.int.2 ⟨J,bq⟩) ?_
   intro w3 (H6:HI M w w3 ([own w.heap.size 3 (.slice dO xs.length dH) (ys.set q.toNat x0)]++r))
   refine av<|rg<|ak J s2<|k<|add J J J J aV<|au (v:=C (q+1)) J J<|z<|aI<|nx<|rg<|ak J s3<|k<|add J J J J aV<|au (v:=C ((k_:Int)+1)) J J<|z ?_
   refine bB _ ?_ ⟨(q+1),(k_+1),(ys.set q.toNat x0),J,s0,s1,(bJ J),(bJ J),H6,aq,(by exact ZB hs aQ (by simpa using b2) aq aq)⟩
   omega
  refine sk<|aI<|nx<|rg<|ak J s3<|k<|add J J J J aV<|au (v:=C ((k_:Int)+1)) J J<|z ?_
  refine bB _ ?_ ⟨q,(k_+1),ys,J,s0,s1,(bJ s2),(bJ J),H5,aq,(by exact ZC hs aQ (by simpa using b2))⟩
  omega
 have p1:=dF b1
 refine ex<|aX<|bf<|bg<|cI<|ak J s0<|ak J s2<|k<|aam (H3.at_ 0 J) J J J J (by have h_:=hs.1;first|omega|(simp only[gf,ij,nX,gm];omega)) cG aW<|k<|clO H3 0 J J J (q:=q.toNat) J cG aW (by have h_:=hs.1;omega) ?_
 intro w2 (H4:HI M w w2 ([own w.heap.size 3 (.slice dO xs.length dH) (ys.take q.toNat++(List.replicate (ys.length-q.toNat) (0:Int)++[]))]++r))
 refine bt<|ak J s0<|ak J s2<|k<|ad7 H4 0 J J J J J (by have h_:=hs.1;first|omega|(simp only[gf,ij,nX,gm];omega)) cG aW ?_
 intro (H5:HI M w w2 ([oL w 3 dO ((ys.take q.toNat++(List.replicate (ys.length-q.toNat) (0:Int)++[])).take q.toNat) dH]++r))
 refine au (v:=R dO ((ys.take q.toNat++(List.replicate (ys.length-q.toNat) (0:Int)++[])).take q.toNat) dH) J J<|av<|rt<|r1 J J ?_
 have e0:((ys.take q.toNat++(List.replicate (ys.length-q.toNat) (0:Int)++[])).take q.toNat:List _)=(aZ p xs):=by exact acX hs aq aq (by have h_:=hs.1;omega) _
 try rw[←e0]
 refine⟨?_,?_⟩
 · first|rfl|simp only[e0]|(simp only[ami])
 · first|exact H5|simpa +zetaDelta only[e0,ami] using H5
theorem Jf (hM:eD M w) (tC:cw M w l_ mC l) (Xo:l.length≤1000000000):Calls aJ 133 #[R l_ l mC] w (cb fun v w'=>∃(a0:OA) (c0:Nat),v=R a0 l c0∧Ext w w'∧bj M 3 w l (R a0 l c0) w'):=by
 refine df 8 Tryz.func133 J J J hM fun f0 ha H=>?_
 have H0:=ee H tC
 have Li:=aP tC
 have i0:f0 0=R l_ l mC:=ha 0 bh
 refine aB<|au (v:=.slice none 0 0) J J<|av<|sq<|aB<|ak J i0<|k<|Tb J J J J cG<|z<|nx ?_
 refine cd (b:=l_.isNone) J J (fun b0=>?_)<|fun b0=>?_
 ·
  refine aB<|au (v:=.slice none 0 0) J J<|av<|rt<|aL<|r1 J J ?_
  have e0:([]:List Int)=l:=by exact(Ht tC b0).symm
  have bo:=iq (fun (bV:List Int)=>(.slice none bV.length 0:Value)) e0
  exact⟨none,0,bo,H0.below,(amh (fun (x_:List Int)=>bj _ _ _ x_ (.slice none x_.length 0) _) e0).mp (fL H0.below)⟩
 refine sk<|cI<|k<|bs (xs:=([]:List Int)) (cells:=#[]) (e:=3) H0 J ey (fun _=>aM) J J aw ?_
 intro g0 w0 bS H1
 refine ak J i0<|k<|l9 H1 0 J J J J J J (H1.rv 1 J).src cG aW J (by simp;omega) J ?_
 intro a0 c0 w1 (H2:HI M w w1 [oL w 3 a0 l c0,iL l_ l mC])
 refine au (v:=R a0 l c0) J J<|av<|rt<|r1 J J ?_
 exact⟨a0,c0,J,H2.below,(H2.da 0 J)⟩
theorem KW (hM:eD M w) (qA:aK i) (cL:cw M w ay ax I) (ab9:aK vr) (CF:w.heap[xB]? =some (.cells #[.slice aD aF aC,R ay I ax,.slice aA eS az] Ho (0,0))∧¬M xB) (h_c:w.heap[bK]? =some (.cells #[C vr] Ko (0,0))∧¬M bK):Calls aJ 136 #[C i,.pointer (some ⟨xB,0,none⟩),.pointer (some ⟨bK,0,none⟩)] w (cb fun v w'=>v=.bool (iE I vr i)∧Ext w w'):=by
 refine df 33 Tryz.func136 J J J hM fun f0 ha H=>?_
 have H0:=ee H cL
 have fM:=aP cL
 have i0:f0 0=C i:=ha 0 bh
 have H1:=H0.put (it:=ro xB #[.slice aD aF aC,R ay I ax,.slice aA eS az] Ho) J<|by rw[aE rfl,bN];exact CF
 have i1:f0 1=pV xB 0:=ha 1 bh
 have H2:=H1.put (it:=ro bK #[C vr] Ko) J<|by rw[aE rfl,aE rfl,bN];exact h_c
 have i2:f0 2=pV bK 0:=ha 2 bh
 refine aB<|au (v:=.bool false) J J<|av<|sq ?_
 refine BD J (by kernel_rfl) ?_
 refine kq (fun _ _=>mv rfl i0 e1)<|kq (fun _ _=>lss rfl rfl rfl rfl e1)<|kq (fun _ _=>mv (v:=.bool (decide (i<0))) rfl rfl e1) ?_
 rcases bE (decide (i<0)) with b0|b0
 ·
  have p0:=dT b0
  refine qn J J J b0<|qn J J J b0<|qn J J J b0<|qn J J J b0<|qn J J J b0<|kq (fun _ _=>aR rfl rfl rfl rfl b0 rfl e1)<|kq (fun _ _=>mv (v:=.bool true) rfl rfl e1)<|qn J J J J<|qn J J J J<|qn J J J J<|qn J J J J<|qn J J J J<|qn J J J J<|qn J J J J<|kq (fun _ _=>aR rfl rfl rfl rfl rfl rfl e1)<|kq (fun _ _=>mv (v:=.bool true) rfl rfl e1)<|qn J J J J<|qn J J J J<|qn J J J J<|qn J J J J<|qn J J J J<|qn J J J J<|qn J J J J<|qn J J J J<|kq (fun _ _=>aR rfl rfl rfl rfl rfl rfl e1)<|kq (fun _ _=>jB (v:=.bool true) rfl rfl e1)<|zq ?_
  intro w0 bS
  have H3:=H2.ext bS
  refine nx<|rt<|r1 J J ?_
  exact⟨amh Value.bool (by exact(Yq bq).symm),H3.below⟩
 have p0:=dF b0
 refine qy J J J b0<|kq (fun _ _=>mv rfl i0 e1)<|qy J J J b0<|kq (fun _ _=>fa fy rfl i1 e1)<|qy J J J b0<|kq (fun _ x_=>lr (H2.ext x_) 1 rfl iR rfl rfl rfl e1)<|qy J J J b0<|kq (fun _ _=>dW rfl rfl jn e1)<|qy J J J b0<|kq (fun _ _=>geq rfl rfl rfl rfl e1)<|kq (fun _ _=>cK rfl rfl rfl rfl b0 rfl e1)<|kq (fun _ _=>mv (v:=.bool (decide ((I.length:Int)≤i))) rfl rfl e1) ?_
 rcases bE (decide ((I.length:Int)≤i)) with b1|b1
 ·
  have p1:=dT b1
  refine qn J J J b1<|qn J J J b1<|qn J J J b1<|qn J J J b1<|qn J J J b1<|qn J J J b1<|qn J J J b1<|kq (fun _ _=>aR rfl rfl rfl rfl b1 rfl e1)<|kq (fun _ _=>mv (v:=.bool true) rfl rfl e1)<|qn J J J J<|qn J J J J<|qn J J J J<|qn J J J J<|qn J J J J<|qn J J J J<|qn J J J J<|qn J J J J<|kq (fun _ _=>aR rfl rfl rfl rfl rfl rfl e1)<|kq (fun _ _=>jB (v:=.bool true) rfl rfl e1)<|zq ?_
  intro w0 bS
  have H3:=H2.ext bS
  refine nx<|rt<|r1 J J ?_
  exact⟨amh Value.bool (by exact(Yp bq).symm),H3.below⟩
 have p1:=dF b1
 refine qy J J J b1<|kq (fun _ _=>fa fy rfl i1 e1)<|qy J J J b1<|kq (fun _ x_=>lr (H2.ext x_) 1 rfl iR rfl rfl rfl e1)<|qy J J J b1<|kq (fun _ _=>mv rfl i0 e1)<|qy J J J b1<|tS (H2.rv 2 J) J J J J aq jn jr ?_
 intro iw x0 aQ cu
 refine qy J J J b1<|kq (fun _ _=>fa uU rfl rfl e1)<|qy J J J b1<|aea ((cu).s2).fst.w l5 J J<|qy J J J b1<|kq (fun _ _=>jE rfl rfl e1)<|kq (fun _ _=>cK rfl rfl rfl rfl b1 rfl e1)<|kq (fun _ _=>mv (v:=.bool (!x0.2.2.1)) rfl rfl e1) ?_
 rcases bE (!x0.2.2.1) with b2|b2
 ·
  refine qn J J J b2<|qn J J J b2<|qn J J J b2<|qn J J J b2<|qn J J J b2<|qn J J J b2<|qn J J J b2<|qn J J J b2<|kq (fun _ _=>aR rfl rfl rfl rfl b2 rfl e1)<|kq (fun _ _=>jB (v:=.bool true) rfl rfl e1)<|zq ?_
  intro w0 bS
  have H3:=H2.ext bS
  refine nx<|rt<|r1 J J ?_
  exact⟨amh Value.bool (by rw[QU bq aQ];simp_all),H3.below⟩
 refine qy J J J b2<|kq (fun _ _=>fa fy rfl i1 e1)<|qy J J J b2<|kq (fun _ x_=>lr (H2.ext x_) 1 rfl iR rfl rfl rfl e1)<|qy J J J b2<|kq (fun _ _=>mv rfl i0 e1)<|qy J J J b2<|tS (H2.rv 2 J) J J J J aq jn jr ?_
 intro rD x_ sV gK
 obtain rfl:x0=x_:=amo (aQ.symm.trans sV)
 refine qy J J J b2<|kq (fun _ _=>fa tc rfl rfl e1)<|qy J J J b2<|oW ((gK).s3).fst.w aW J J ?_
 intro cm
 refine qy J J J b2<|kq (fun _ x_=>lr (H2.ext x_) 0 rfl aW rfl i2 rfl e1)<|qy J J J b2<|kq (fun _ _=>neq rfl rfl rfl rfl e1)<|kq (fun _ _=>cK rfl rfl rfl rfl b2 rfl e1)<|kq (fun _ _=>jB (v:=.bool (!decide (x0.2.2.2.1=vr))) rfl rfl e1)<|zq ?_
 intro w0 bS
 have H3:=H2.ext bS
 refine nx<|rt<|r1 J J ?_
 exact⟨amh Value.bool (by rw[QU bq aQ];simp_all),H3.below⟩
theorem Pz (hM:eD M w) (qA:aK i) (cL:cw M w ay ax I) (CF:w.heap[xB]? =some (.cells #[.slice aD aF aC,R ay I ax,.slice aA eS az] Ho (0,0))∧¬M xB) (I5:0≤i∧i<((I.length:Nat):Int)):Calls aJ 109 #[C i,.pointer (some ⟨xB,0,none⟩)] w (cb fun v w'=>v=.bool (fV I i)∧Ext w w'):=by
 refine df 10 Tryz.func109 J J J hM fun f0 ha H=>?_
 have H0:=ee H cL
 have fM:=aP cL
 have i0:f0 0=C i:=ha 0 bh
 have H1:=H0.put (it:=ro xB #[.slice aD aF aC,R ay I ax,.slice aA eS az] Ho) J<|by rw[aE rfl,bN];exact CF
 have i1:f0 1=pV xB 0:=ha 1 bh
 refine aB<|au (v:=.bool false) J J<|bt<|aU fy J i1<|k<|lr H1 0 J iR J J J<|ak J i0<|k<|ia (H1.rv 1 J) J J J J aq jn jr ?_
 intro iw x0 aQ cu
 refine aU uU J J<|k<|ldB ((cu).s2).fst.w l5 J J<|au (v:=.bool x0.2.2.1) J J<|av<|rt<|r1 J J ?_
 exact⟨amh Value.bool (by exact(Z6 aQ).symm),H1.below⟩
theorem XQ:ct aJ 133:=⟨_,_,Tryz.func133,rfl,aM⟩
theorem aeQ:ct aJ 136:=⟨_,_,Tryz.func136,rfl,aM⟩
theorem GH:ct aJ 107:=⟨_,_,Tryz.func107,rfl,aM⟩
theorem DY (hM:eD M w) (cL:cw M w ay ax I) (tC:cw M w l_ mC l) (ab9:aK vr) (Xo:l.length≤1000000000):Calls aJ 99 #[.agg #[.slice aD aF aC,R ay I ax,.slice aA eS az],R l_ l mC,C vr] w (cb fun v w'=>∃(a0:OA) (c0:Nat),v=.slice a0 (aZ (iE I vr) l).length c0∧Ext w w'∧bj M 3 w (aZ (iE I vr) l) (.slice a0 (aZ (iE I vr) l).length c0) w'):=by
 refine df 11 Tryz.func99 J J J hM fun f0 ha H=>?_
 let J0:=iL ay I ax
 have H0:=H.put (it:=J0) J<|by rw[bN];exact cL
 have H1:=ee H0 tC
 have fM:=aP cL
 have Li:=aP tC
 have i0:f0 0=.agg #[.slice aD aF aC,R ay I ax,.slice aA eS az]:=ha 0 bh
 have i1:f0 1=R l_ l mC:=ha 1 bh
 have i2:f0 2=C vr:=ha 2 bh
 refine aB<|k<|bx H1 J i0 ?_
 intro aY w0 bS (H2:HI M w w0 [box aY #[.slice aD aF aC,R ay I ax,.slice aA eS az] 47,iL l_ l mC,J0])
 let J1:=box aY #[.slice aD aF aC,R ay I ax,.slice aA eS az] 47
 refine k<|bx H2 J i2 ?_
 intro ba w1 cY (H3:HI M w w1 [box ba #[C vr] 3,J1,iL l_ l mC,J0])
 refine au (v:=.slice none 0 0) J J<|bt<|ak J i1<|k ?_
 have bP:=Jf (l:=l) H3.mb (H3.rv 2 J) aq
 refine ca XQ J (ec J e0) bP ?_
 rintro _ w2 ⟨a0,c0,rfl,eT,cm⟩
 have H4:=H3.eI cm
 refine k<|mf J<|k ?_
 have H5:HI M w w2 ([oL w 3 a0 l c0]++[box ba #[C vr] 3,J1,iL l_ l mC,J0]):=H4.bT [0,1,2,3,4] aw rfl
 have cV:=oF (dO:=a0) (dH:=c0) (xs:=l) (pY:=136) (qb:=[pV aY 0,pV ba 0]) (p:=(fun (x_:Int)=>iE I vr x_)) (w:=w) (w_:=w2) (r:=[box ba #[C vr] 3,J1,iL l_ l mC,J0]) (M:=M) ⟨aeQ,fun w_ qS H_ x_ sV D3=>KW (I:=I) (vr:=vr) (M:=fun _=>False) (fun _ h_=>h_.elim) D3 ((H_.rv 4 J).lift (Up.less fun _ _ h_=>h_.elim)) aV ⟨H_.at_ 2 rfl,fun h_=>h_⟩ ⟨H_.at_ 1 rfl,fun h_=>h_⟩⟩ H5
 refine ca GH J (ec J<|ec J e0) cV ?_
 rintro _ w3 ⟨rfl,H6⟩
 have H7:HI M w w3 [oL w 3 a0 (aZ (fun (x_:Int)=>iE I vr x_) l) c0,box ba #[C vr] 3,J1,iL l_ l mC,J0]:=H6
 refine au (v:=R a0 (aZ (fun (x_:Int)=>iE I vr x_) l) c0) J J<|av<|rt<|r1 J J ?_
 have e0:((aZ (fun (x_:Int)=>iE I vr x_) l):List Int)=aZ (iE I vr) l:=rfl
 have bo:=iq (fun (bV:List Int)=>(.slice a0 bV.length c0:Value)) e0
 exact⟨a0,c0,bo,H7.below,(amh (fun (x_:List Int)=>bj _ _ _ x_ (.slice a0 x_.length c0) _) e0).mp (H7.da 0 J)⟩
theorem tg:gM aJ 47 2 2:=⟨_,_,Tryz.underlying47,rfl,rfl,aM⟩
theorem qe:eh aJ 27 1 false 24 (.slice none 0 0):=⟨aM,aM⟩
theorem dx:eh aJ 47 3 true 72 (.agg #[.slice none 0 0,.slice none 0 0,.slice none 0 0]):=⟨aM,aM⟩
theorem XY:ct aJ 100:=⟨_,_,Tryz.func100,rfl,aM⟩
theorem acv:ct aJ 99:=⟨_,_,Tryz.func99,rfl,aM⟩
theorem ei:aJ.underlying 119=some (.slice 122):=aM
theorem cF:eh aJ 122 3 true 24 (.agg #[.int .i64 0,.int .i64 0,.int .i64 0]):=⟨aM,aM⟩
theorem ae7:ct aJ 102:=⟨_,_,Tryz.func102,rfl,aM⟩
theorem uj (hM:eD M w) (hT:fQ 0 w) (cL:cw M w ay ax I) (eZ:cw M w aA az U) (fZ:aK mn) (fG:cw M w bA bz mr) (dp:I.length≤4096) (eo:U.length=I.length) (fE:∀x∈U,x<((I.length:Nat):Int)) (bU:bF mn mr=true):Calls aJ 65 #[.agg #[.slice aD aF aC,R ay I ax,R aA U az],.agg #[C mn,R bA mr bz]] w (cb fun v w'=>∃(a0:OA) (c0:Nat),v=.slice a0 (cE I U mn mr).length c0∧Ext w w'∧bj M 122 w (cE I U mn mr) (.slice a0 (cE I U mn mr).length c0) w'):=by
 refine df 51 Tryz.func65 J J J hM fun f0 ha H=>?_
 let J0:=iL ay I ax
 have H0:=H.put (it:=J0) J<|by rw[bN];exact cL
 let J1:=iL aA U az
 have H1:=H0.put (it:=J1) J<|by rw[aE rfl,bN];exact eZ
 let J2:=iL bA mr bz
 have H2:=H1.put (it:=J2) J<|by rw[aE rfl,aE rfl,bN];exact fG
 have fM:=aP cL
 have iA:=aP eZ
 have kA:=aP fG
 have i0:f0 0=.agg #[.slice aD aF aC,R ay I ax,R aA U az]:=ha 0 bh
 have i1:f0 1=.agg #[C mn,R bA mr bz]:=ha 1 bh
 have P8:=Ma (I:=I) (U:=U) (j:=U.length) bU
 refine aB<|k<|bx H2 J i0 ?_
 let bc:=[J2,J1,J0]
 intro aY w0 bS (H3:HI M w w0 (box aY #[.slice aD aF aC,R ay I ax,R aA U az] 47::bc))
 let J3:=box aY #[.slice aD aF aC,R ay I ax,R aA U az] 47
 refine k<|bx H3 J i1 ?_
 intro ba w1 cY (H4:HI M w w1 (box ba #[C mn,R bA mr bz] 26::J3::bc))
 let J4:=box ba #[C mn,R bA mr bz] 26
 refine au (v:=.slice none 0 0) J J<|bt<|au (v:=.slice none 0 0) J J<|av<|sq<|aB<|aU tg J J<|bl H4 1 J qe J J J<|k<|dW J J cG<|ak (v:=C 0) J J<|av<|bk ?_
 have H5:=H4.re (Int×Int×Int) 122
 let bY:=J4::J3::bc
 refine lp (fun m f w'=>∃(j_:Nat) (vH:List dU) (a0:OA) (c0:Nat),m=U.length-j_∧f 2=pV aY 0∧f 3=pV ba 0∧f 5=R a0 vH c0∧f 11=R aA U az∧f 12=C (U.length:Int)∧f 13=C (j_:Int)∧HI M w w' (oL w 122 a0 vH c0::bY)∧(j_≤U.length)∧(vH=ue I U mn mr j_)∧(vH.length≤4096*j_)) _ ⟨0,([]:List dU),none,0,J,J,J,J,J,J,(bJ J),H5,aq,(by rfl),(by exact anB _)⟩ ?_
 rintro _ f0 w2 ⟨j_,vH,a0,c0,rfl,s0,s1,s2,s3,s4,s5,H6,pt,hs,tw⟩
 refine aB<|k<|lss J J s5 s4<|av<|sq ?_
 refine cd (b:=decide ((j_:Int)<(U.length:Int))) J J (fun b0=>?_)<|fun b0=>?_
 ·
  have p0:=dT b0
  refine sk<|nx<|sq<|bk<|aB<|ak J s5<|k<|ia (H6.rv 4 J) J J s3 s5 aq cG aW ?_
  intro iw x0 aQ cu
  refine k<|mQ cu.w aW J J ?_
  intro cm
  refine au (v:=C (j_:Int)) J J<|au (v:=C x0) J J<|av<|sq<|aB<|ak (v:=C x0) J J<|k<|lss J J J J<|z<|nx ?_
  refine cd (b:=decide (x0<0)) J J (fun b1=>?_)<|fun b1=>?_
  ·
   have p1:=dT b1
   refine ex<|aX<|bg<|nx<|rg<|k<|add J J s5 J aV<|ak (v:=C ((j_:Int)+1)) J J<|z ?_
   refine bB _ ?_ ⟨(j_+1),vH,a0,c0,J,s0,s1,s2,s3,s4,(bJ J),H6,aq,(by exact acS hs aQ aq),(by first|omega)⟩
   omega
  have p1:=dF b1
  refine sk<|nx<|sq ?_
  refine Tl J (by kernel_rfl) ?_
  refine xq J<|kq (fun _ x_=>cq (H6.ext x_) 2 rfl dx rfl s0 aw rfl e1)<|zq<|xq J<|kq (fun _ x_=>cq (H6.ext x_) 1 rfl bm rfl s1 aw rfl e1)<|zq<|xq J<|kq (fun _ _=>mv (v:=C (j_:Int)) rfl rfl e1)<|zq ?_
  refine xu (fun v w'=>∃(a1:OA) (c1:Nat),v=R a1 (eL mn mr (j_:Int)) c1∧RV H6.fW w' (R a1 (eL mn mr (j_:Int)) c1) (eL mn mr (j_:Int))) J (by rintro _ _ _ x_ ⟨a1,c1,e_,dV⟩;exact⟨a1,c1,e_,dV.lift (Up.ext x_)⟩) J (fun v_ x_=>have cV:=NR (mn:=mn) (mr:=mr) (o:=(j_:Int)) (w:=v_) (H6.ext x_).mb (hT.ext (H6.ext x_).below) fZ ((H6.ext x_).rv 3 rfl) aV (by exact bU);ca XY rfl (ec J<|ec J e0) cV (fun _ w4 ⟨a2,c2,e_,fB,fq⟩=>⟨_,J,fB,⟨a2,c2,e_,(bj.rv fq (H6.ext x_).mb)⟩⟩)) ?_
  refine xq J<|kq (fun _ _=>fa fy rfl s0 e1)<|zq<|xq J<|kq (fun _ x_=>lx (H6.ext x_) 2 rfl iR rfl rfl rfl e1)<|zq<|xq J<|kq (fun _ _=>mv (v:=C x0) rfl rfl e1)<|zq<|xq J<|tS (H6.rv 5 J) J J J J (by have h_:=fE _ (dJ aQ);omega) jn jr ?_
  intro rD x1 cP gK
  refine zq<|xq J<|kq (fun _ _=>fa tc rfl rfl e1)<|zq<|xq J<|oW ((gK).s3).fst.w aW J J ?_
  intro jO
  refine zq ?_
  refine ZZ (fun v w'=>∃(a4:OA) (c4:Nat),v=R a4 (aZ (iE I x1.2.2.2.1)<|eL mn mr (j_:Int)) c4∧RV H6.fW w' (R a4 (aZ (iE I x1.2.2.2.1)<|eL mn mr (j_:Int)) c4) (aZ (iE I x1.2.2.2.1)<|eL mn mr (j_:Int))) 0 J J (by rintro _ _ _ x_ ⟨a4,c4,e_,oe⟩;exact⟨a4,c4,e_,oe.lift (Up.ext x_)⟩) J (fun v_ _ x_ h_=>let ⟨a5,c5,s6,ph⟩:=h_;have dS:=(H6.ext x_).put (it:=iL a5 (eL mn mr (j_:Int)) c5) rfl ph;have eU:=DY (I:=I) (l:=(eL mn mr (j_:Int))) (vr:=x1.2.2.2.1) (aD:=aD) (aF:=aF) (aC:=aC) (aA:=aA) (eS:=U.length) (az:=az) dS.mb (dS.rv 6 J) (dS.rv 0 J) jO (by have h_:=uA bU (j_:Int);omega);ca acv rfl (ec J<|ec s6<|ec J e0) eU (fun _ w6 ⟨a6,c6,e_,jb,rb⟩=>⟨_,J,jb,⟨a6,c6,e_,(mG J<|bj.rv rb dS.mb)⟩⟩)) ?_
  refine Z2 (X:=C ((aZ (iE I x1.2.2.2.1)<|eL mn mr (j_:Int)).length:Int)) 0 J J (fun _ _ _ h_=>let ⟨a8,c8,s7,qh⟩:=h_;dW rfl s7 cG e1) ?_
  refine xq J<|kq (fun _ _=>mv (v:=C 0) rfl rfl e1)<|zq<|zx ?_
  intro w7 f1 kf cz iC
  have cC:=H6.ext kf
  have s8:=(cz 2 J).trans s0
  have s9:=(cz 3 J).trans s1
  have ej:=(cz 5 J).trans s2
  have eY:=cz 6 J
  have fK:=cz 7 J
  have fJ:=(cz 11 J).trans s3
  have gx:=(cz 12 J).trans s4
  have gP:=(cz 13 J).trans s5
  obtain⟨a9,c9,kr,qg⟩:=iC 0 _ _ rfl
  let J5:=iL a9 (aZ (iE I x1.2.2.2.1) (eL mn mr (j_:Int))) c9
  have dR:=cC.put (it:=J5) J qg
  have kY:=cz 31 J
  have mL:=cz 32 J
  refine nx<|bk ?_
  refine lp (fun m f w'=>∃(q_:Nat) (vo:List dU) (iZ:OA) (iY:Nat),m=(aZ (iE I x1.2.2.2.1)<|eL mn mr (j_:Int)).length-q_∧f 2=pV aY 0∧f 3=pV ba 0∧f 5=R iZ vo iY∧f 6=C (j_:Int)∧f 7=C x0∧f 11=R aA U az∧f 12=C (U.length:Int)∧f 13=C (j_:Int)∧f 30=R a9 (aZ (iE I x1.2.2.2.1)<|eL mn mr (j_:Int)) c9∧f 31=C ((aZ (iE I x1.2.2.2.1)<|eL mn mr (j_:Int)).length:Int)∧f 32=C (q_:Int)∧HI M w w' (J5::oL w 122 iZ vo iY::bY)∧(q_≤(aZ (iE I x1.2.2.2.1)<|eL mn mr (j_:Int)).length)∧(vo=vH++BC x0 (j_:Int) ((aZ (iE I x1.2.2.2.1)<|eL mn mr (j_:Int)).take q_))∧(vo.length≤4096*j_+q_)) _ ⟨0,vH,a0,c0,J,s8,s9,ej,eY,fK,fJ,gx,gP,kr,kY,(bJ mL),dR,aq,(by exact(anR _).symm),aq⟩ ?_
  rintro _ f2 w8 ⟨q_,vo,iZ,iY,rfl,mK,nG,pg,rm,Bm,BW,F1,Bl,F0,Rk,WS,dB,sf,gH,alw⟩
  refine sq ?_
  have ahv:(aZ (iE I x1.2.2.2.1) (eL mn mr (j_:Int))).length≤4096:=by unfold aZ;exact Nat.le_trans (anh _ _) (uA bU _)
  refine rg<|k<|lss J J WS Rk<|av<|sq ?_
  refine cd (b:=decide ((q_:Int)<((aZ (iE I x1.2.2.2.1)<|eL mn mr (j_:Int)).length:Int))) J J (fun b2=>?_)<|fun b2=>?_
  ·
   have p2:=dT b2
   refine sk<|nx<|sq<|bk<|aB<|k<|ia (dB.rv 0 J) J J F0 WS aq cG aW ?_
   intro pZ x2 iW la
   refine k<|mQ la.w aW J J ?_
   intro pM
   refine au (v:=C x2) J J<|bt<|ak (v:=C x2) J J<|ak J Bm<|k<|neq J J J J<|z<|nx ?_
   refine cd (b:=!decide (x2=x0)) J J (fun b3=>?_)<|fun b3=>?_
   ·
    have p3:=dF<|fY b3
    refine rg<|ak J pg<|ak (v:=C x2) J J<|ak J Bm<|ak J rm<|k<|bd (v:=.agg #[C x2,C x0,C (j_:Int)]) J (cj J<|cj J<|cj J ey) (fun _=>aM)<|k<|bs (xs:=([(x2,x0,(j_:Int))]:List (Int×Int×Int))) (cells:=#[C x2,C x0,C (j_:Int)]) (e:=122) dB J (cj J ey) (fun _=>aM) ⟨[C x2,C x0,C (j_:Int)],[],J,⟨_,_,J,⟨J,(show aK (x2) from bq)⟩,⟨_,_,J,⟨J,(show aK (x0) from bq)⟩,⟨J,(show aK ((j_:Int)) from aV)⟩⟩⟩,J⟩ J aw ?_
    intro g0 w9 l4 eO
    refine k<|l9 eO 2 J J J J J J (gT<|eO.at_ 0 J) ei cF J (by simp only[gf,iB,gm];omega) J ?_
    intro mF mD dD (fc:HI M w dD (own w.heap.size 122 (.slice (some ⟨g0,0,none⟩) 1 1) ([(x2,x0,(j_:Int))]:List (Int×Int×Int))::J5::oL w 122 mF (vo++([(x2,x0,(j_:Int))]:List (Int×Int×Int))) mD::bY))
    refine au (v:=R mF (vo++([(x2,x0,(j_:Int))]:List (Int×Int×Int))) mD) J J<|z<|aI<|nx<|rg<|k<|add J J WS J aV<|ak (v:=C ((q_:Int)+1)) J J<|z ?_
    have gI:HI M w dD (J5::oL w 122 mF (vo++([(x2,x0,(j_:Int))]:List (Int×Int×Int))) mD::bY):=fc.bT [1,2,3,4,5,6,7] aw rfl
    refine bB _ ?_ ⟨(q_+1),(vo++([(x2,x0,(j_:Int))]:List (Int×Int×Int))),mF,mD,J,mK,nG,J,rm,Bm,BW,F1,Bl,F0,Rk,(bJ J),gI,aq,(by exact Zw gH iW p3),(by simp only[gf,iB,gm];omega)⟩
    omega
   have p3:=dT<|fk b3
   refine sk<|aI<|nx<|rg<|k<|add J J WS J aV<|ak (v:=C ((q_:Int)+1)) J J<|z ?_
   refine bB _ ?_ ⟨(q_+1),vo,iZ,iY,J,mK,nG,pg,rm,Bm,BW,F1,Bl,F0,Rk,(bJ J),dB,aq,(by exact VK gH iW p3),aq⟩
   omega
  have p2:=dF b2
  refine ex<|aX<|bf<|bg<|aI<|nx<|rg<|k<|add J J Bl J aV<|ak (v:=C ((j_:Int)+1)) J J<|z ?_
  have eO:HI M w w8 (oL w 122 iZ vo iY::bY):=dB.bT [1,2,3,4,5,6] aw rfl
  refine bB _ ?_ ⟨(j_+1),vo,iZ,iY,J,mK,nG,pg,BW,F1,(bJ J),eO,aq,(by exact Zx (by unfold rl;rw[cP];rfl) hs gH aQ aq aq),(by first|omega)⟩
  omega
 have p0:=dF b0
 refine ex<|aX<|bf<|bg<|cI<|ak J s2<|k ?_
 have H7:HI M w w2 ([oL w 122 a0 vH c0]++[J4,J3,J2,J1,J0]):=H6.bT [0,1,2,3,4,5] aw rfl
 have bP:=Q9 (dO:=a0) (dH:=c0) (xs:=vH) (w:=w) (w_:=w2) (r:=[J4,J3,J2,J1,J0]) (M:=M) aq H7
 refine ca ae7 J (ec J<|ec J e0) bP ?_
 rintro _ w3 ⟨rfl,H8⟩
 have H9:HI M w w3 (own w.heap.size 122 (.slice a0 vH.length c0) (vQ vH)::bY):=H8
 refine bt<|ak J s2<|au (v:=R a0 vH c0) J J<|av<|rt<|r1 J J ?_
 have e0:((vQ vH):List (Int×Int×Int))=cE I U mn mr:=by rw[hs,show j_=U.length from by omega];rfl
 have l0:vH.length=(cE I U mn mr).length:=by rw[hs,show j_=U.length from by omega];exact Jc
 have bo:=iq (fun (uF:Nat)=>(.slice a0 uF c0:Value)) l0
 exact⟨a0,c0,bo,H9.below,(amh (fun (n_:Nat)=>bj _ _ _ (cE I U mn mr) (.slice a0 n_ c0) _) l0).mp ((amh (fun (x_:List (Int×Int×Int))=>bj _ _ _ x_ (.slice a0 vH.length c0) _) e0).mp (H9.da 0 J))⟩
theorem acz:ct aJ 61:=⟨_,_,Tryz.func61,rfl,aM⟩
theorem IT (hM:eD M w) (GC:cw M w yD yx rr) (XC:aK tn):Calls aJ 61 #[R yD rr yx,C tn] w (cb fun v w'=>v=C (eF (fun (z_:Int)=>decide (tn=z_)) rr)∧Ext w w'):=by
 refine df 19 Tryz.func61 J J J hM fun f0 ha H=>?_
 have H0:=ee H GC
 have aa4:=aP GC
 have i0:f0 0=R yD rr yx:=ha 0 bh
 have i1:f0 1=C tn:=ha 1 bh
 refine aB<|au (v:=C 0) J J<|av<|sq<|aB<|ak J i0<|k<|dW J J cG<|ak (v:=C 0) J J<|av<|bk ?_
 refine lp (fun m f w'=>∃(j_:Nat),m=rr.length-j_∧f 0=R yD rr yx∧f 1=C tn∧f 7=C (rr.length:Int)∧f 8=C (j_:Int)∧HI M w w' [iL yD rr yx]∧(j_≤rr.length)∧((rr.take j_).any (fun (z_:Int)=>decide (tn=z_))=false)) _ ⟨0,J,i0,i1,J,(bJ J),H0,aq,bh⟩ ?_
 rintro _ f0 w0 ⟨j_,rfl,s0,s1,s2,s3,H1,pt,hs⟩
 refine aB<|k<|lss J J s3 s2<|av<|sq ?_
 refine cd (b:=decide ((j_:Int)<(rr.length:Int))) J J (fun b0=>?_)<|fun b0=>?_
 ·
  have p0:=dT b0
  refine sk<|nx<|sq<|bk<|aB<|ak J s3<|au (v:=C (j_:Int)) J J<|bt<|ak J s1<|ak J s0<|ak (v:=C (j_:Int)) J J<|k<|ia (H1.rv 0 J) J J J J aq cG aW ?_
  intro iw x0 aQ cu
  refine k<|mQ cu.w aW J J ?_
  intro cm
  refine k<|eql J J J J<|z<|nx ?_
  refine cd (b:=decide (tn=x0)) J J (fun b1=>?_)<|fun b1=>?_
  ·
   have p1:=dT b1
   refine aB<|ak (v:=C (j_:Int)) J J<|au (v:=C (j_:Int)) J J<|av<|rt<|bQ<|aL<|dQ<|bQ<|aL<|r1 J J ?_
   exact⟨amh (Value.int .i64) (by exact tW (p:=(fun (z_:Int)=>decide (tn=z_))) aQ hs b1),H1.below⟩
  have p1:=dF b1
  refine sk<|aI<|nx<|rg<|k<|add J J s3 J aV<|ak (v:=C ((j_:Int)+1)) J J<|z ?_
  refine bB _ ?_ ⟨(j_+1),J,s0,s1,s2,(bJ J),H1,aq,(by exact pe aQ hs b1)⟩
  omega
 have p0:=dF b0
 refine ex<|aX<|bf<|bg<|cI<|au (v:=C (-1)) J J<|av<|rt<|r1 J J ?_
 exact⟨amh (Value.int .i64) (by exact uK hs aq),H1.below⟩
theorem CT (hM:eD M w) (GC:cw M w yD yx rr) (XC:aK tn):Calls aJ 131 #[R yD rr yx,C tn] w (cb fun v w'=>v=.bool (rr.any (fun (z_:Int)=>decide (tn=z_)))∧Ext w w'):=by
 refine df 9 Tryz.func131 J J J hM fun f0 ha H=>?_
 have H0:=ee H GC
 have aa4:=aP GC
 have i0:f0 0=R yD rr yx:=ha 0 bh
 have i1:f0 1=C tn:=ha 1 bh
 refine aB<|au (v:=.bool false) J J<|bt<|ak J i0<|ak J i1<|k ?_
 have bP:=IT (rr:=rr) (tn:=tn) H0.mb (H0.rv 0 J) XC
 refine ca acz J (ec J<|ec J e0) bP ?_
 rintro _ w0 ⟨rfl,bS⟩
 have H1:=H0.ext bS
 refine k<|geq J J J J<|au (v:=.bool (decide (0≤(eF (fun (z_:Int)=>decide (tn=z_)) rr)))) J J<|av<|rt<|r1 J J ?_
 exact⟨amh Value.bool (by exact wW),H1.below⟩
theorem JC:eh aJ 218 2 true 16 (.agg #[.int .i64 0,.int .i64 0]):=⟨aM,aM⟩
theorem JD:eh aJ 215 1 false 8 (.map none):=⟨aM,aM⟩
theorem adX:OY aJ 218 [some (0,0),some (1,0)]:=⟨aM,aM,aM,aM⟩
theorem W0:QJ aJ 215:=W5 (by kernel_rfl:aJ.underlying 215=some (.map 218 4)) (Vb (yP adX)) l5 rfl
theorem XS:ct aJ 131:=⟨_,_,Tryz.func131,rfl,aM⟩
theorem XO:ct aJ 169:=⟨_,_,Tryz.func169,rfl,aM⟩
theorem DQ (A3:aK fm) (Du:aK fu) (A2:aK gA) (fZ:aK mn) (bU:bF mn mr=true) (H:HI M w w_ ([box kc #[.map (some fU)] 215,bR fU met,box mh #[C mn,R bA mr bz] 26,iL bA mr bz,box mi #[R jU kp jS] 27,iL jU kp jS]++r)):Calls aJ 169 #[.agg #[C fm,C fu,C gA],pV kc 0,pV mh 0,pV mi 0] w_ (cb fun v w'=>v=.bool (((eR mn mr kp) met (fm,fu,gA)).1)∧HI M w w' ([box kc #[.map (some fU)] 215,bR fU (((eR mn mr kp) met (fm,fu,gA)).2),box mh #[C mn,R bA mr bz] 26,iL bA mr bz,box mi #[R jU kp jS] 27,iL jU kp jS]++r)):=by
 refine enter 32 Tryz.func169 J J J fun f0 ha=>?_
 have kA:=aP<|H.rv 3 J
 have PG:=aP<|H.rv 5 J
 have i0:f0 0=.agg #[C fm,C fu,C gA]:=ha 0 bh
 have i1:f0 1=pV kc 0:=ha 1 bh
 have i2:f0 2=pV mh 0:=ha 2 bh
 have i3:f0 3=pV mi 0:=ha 3 bh
 refine aB<|k<|bx H J i0 ?_
 let J1:=box kc #[.map (some fU)] 215
 let J2:=box mh #[C mn,R bA mr bz] 26
 let J3:=iL bA mr bz
 let J4:=box mi #[R jU kp jS] 27
 let J5:=iL jU kp jS
 let bc:=[J1,bR fU met,J2,J3,J4,J5]
 intro aY w0 bS (H0:HI M w w0 ((box aY #[C fm,C fu,C gA] 122::bc)++r))
 let J0:=box aY #[C fm,C fu,C gA] 122
 refine au (v:=.bool false) J J<|bt<|aU kE J J<|bl H0 0 J aW J J J<|aU mI J J<|bl H0 0 J aW J J J<|k<|bd (v:=.agg #[C fm,C fu]) J (cj J<|cj J ey) (fun _=>aM)<|k<|al H0 JC ?_
 intro ba w1 cY (H1:HI M w w1 ((box ba #[C 0,C 0] 218::J0::bc)++r))
 refine k<|bp H1 0 J JC J J J J J J J ?_
 let J6:=box ba #[C fm,C fu] 218
 intro w2 (H2:HI M w w2 ((J6::J0::bc)++r))
 refine av<|sq<|aB<|bl H2 2 J JD J i1 J<|k<|cq H2 0 J JC J J aw J<|k<|ag3 (k:=(fm,fu)) W0 H2 3 J J J J J<|ak (v:=.bool ((fH met (fm,fu)).getD false)) J J ?_
 rcases bE ((fH met (fm,fu)).getD false) with b0|b0
 ·
  refine aN J J J b0<|aN J J J b0<|aN J J J b0<|aN J J J b0<|aN J J J b0<|aN J J J b0<|k<|aR J J J J b0 J<|ak (v:=.bool true) J J<|aN J J J J<|aN J J J J<|aN J J J J<|aN J J J J<|aN J J J J<|k<|aR J J J J J J<|av<|oP J J J<|aB<|au (v:=.bool true) J J<|av<|rt<|aL<|r1 J J ?_
  have H3:=HI.aR (l:=(J6::J0::bc)) (l':=bc) (t:=r) H2 [2,3,4,5,6,7] aw J J
  have e0:(true:Bool)=((eR mn mr kp) met (fm,fu,gA)).1:=by simp only[eR,b0,BL]
  have e1:(met:List ((Int×Int)×Bool))=(((eR mn mr kp) met (fm,fu,gA)).2):=by simp only[eR,b0,BL]
  try rw[←e0]
  try rw[←e1]
  refine⟨?_,?_⟩
  · first|rfl|simp only[e0,e1]|(simp only[ami])
  · first|exact H3|simpa +zetaDelta only[e0,e1,ami] using H3
 refine aT J J J b0<|cq H2 4 J bm J i2 aw J<|aT J J J b0<|fa kE J J<|aT J J J b0<|lx H2 1 J aW J J J<|aT J J J b0<|fa mI J J<|aT J J J b0<|lx H2 1 J aW J J J<|aT J J J b0 ?_
 have bP:=tU (mn:=mn) (mr:=mr) (i:=fm) (j:=fu) H2.mb fZ (H2.rv 5 J) A3 Du (by exact(bO bU).1) (by exact(bO bU).2.1)<|by exact(bO bU).2.2.1
 refine ca Fk J (ec J<|ec J<|ec J e0) bP ?_
 rintro _ w3 ⟨rfl,eT⟩
 have H3:=H2.ext eT
 refine k<|cK J J J J b0 J<|ak (v:=.bool (eC mn mr fm fu)) J J ?_
 rcases bE (eC mn mr fm fu) with b1|b1
 ·
  refine aN J J J b1<|aN J J J b1<|aN J J J b1<|aN J J J b1<|aN J J J b1<|k<|aR J J J J b1 J<|av<|oP J J J<|aB<|au (v:=.bool true) J J<|av<|rt<|aL<|r1 J J ?_
  have H4:=HI.aR (l:=(J6::J0::bc)) (l':=bc) (t:=r) H3 [2,3,4,5,6,7] aw J J
  have e0:(true:Bool)=((eR mn mr kp) met (fm,fu,gA)).1:=by simp only[eR,b0,b1,BL]
  have e1:(met:List ((Int×Int)×Bool))=(((eR mn mr kp) met (fm,fu,gA)).2):=by simp only[eR,b0,b1,BL]
  try rw[←e0]
  try rw[←e1]
  refine⟨?_,?_⟩
  · first|rfl|simp only[e0,e1]|(simp only[ami])
  · first|exact H4|simpa +zetaDelta only[e0,e1,ami] using H4
 refine aT J J J b1<|lx H3 6 J qe J i3 J<|aT J J J b1<|fa sl J J<|aT J J J b1<|lx H3 1 J aW J J J<|aT J J J b1 ?_
 have cV:=CT (rr:=kp) (tn:=gA) H3.mb (H3.rv 7 J) A2
 refine ca XS J (ec J<|ec J e0) cV ?_
 rintro _ w4 ⟨rfl,fB⟩
 have H4:=H3.ext fB
 refine aT J J J b1<|jE J J<|k<|cK J J J J b1 J<|z<|nx ?_
 refine cd (b:=!(kp.any<|fun (z_:Int)=>decide (gA=z_))) J J (fun b2=>?_)<|fun b2=>?_
 ·
  refine aB<|au (v:=.bool true) J J<|av<|rt<|aL<|r1 J J ?_
  have H5:=HI.aR (l:=(J6::J0::bc)) (l':=bc) (t:=r) H4 [2,3,4,5,6,7] aw J J
  have e0:(true:Bool)=((eR mn mr kp) met (fm,fu,gA)).1:=by simp only[eR,b0,b1,(fY b2),BL]
  have e1:(met:List ((Int×Int)×Bool))=(((eR mn mr kp) met (fm,fu,gA)).2):=by simp only[eR,b0,b1,(fY b2),BL]
  try rw[←e0]
  try rw[←e1]
  refine⟨?_,?_⟩
  · first|rfl|simp only[e0,e1]|(simp only[ami])
  · first|exact H5|simpa +zetaDelta only[e0,e1,ami] using H5
 refine sk<|cI<|bl H4 2 J JD J i1 J<|k<|cq H4 0 J JC J J aw J<|k<|ag1 (k:=(fm,fu)) (v:=true) W0 H4 3 J J J J J J J ?_
 let bY:=[J1,bR fU (lB met (fm,fu) true),J2,J3,J4,J5]
 intro w5 (H5:HI M w w5 ((J6::J0::bY)++r))
 refine bt<|au (v:=.bool false) J J<|av<|rt<|r1 J J ?_
 have H6:=HI.aR (l:=(J6::J0::bY)) (l':=bY) (t:=r) H5 [2,3,4,5,6,7] aw J J
 have e0:(false:Bool)=((eR mn mr kp) met (fm,fu,gA)).1:=by simp only[eR,b0,b1,(fk b2),BL]
 have e1:(lB met (fm,fu) true:List ((Int×Int)×Bool))=(((eR mn mr kp) met (fm,fu,gA)).2):=by simp only[eR,b0,b1,(fk b2),BL]
 try rw[←e0]
 try rw[←e1]
 refine⟨?_,?_⟩
 · first|rfl|simp only[e0,e1]|(simp only[ami])
 · first|exact H6|simpa +zetaDelta only[e0,e1,ami] using H6
theorem Gt {xs:List (Int×Int×Int)} (fZ:aK mn) (bU:bF mn mr=true) (H:HI M w w_ ([oL w 122 dO xs dH,box kc #[.map (some fU)] 215,bR fU met,box mh #[C mn,R bA mr bz] 26,iL bA mr bz,box mi #[R jU kp jS] 27,iL jU kp jS]++r)):Calls aJ 184 #[R dO xs dH,.func (.func 169) #[] #[pV kc 0,pV mh 0,pV mi 0]] w_ (cb fun v w'=>∃(ix:Int) (mt:List ((Int×Int)×Bool)),v=C ix∧HI M w w' ([oL w 122 dO xs dH,box kc #[.map (some fU)] 215,bR fU mt,box mh #[C mn,R bA mr bz] 26,iL bA mr bz,box mi #[R jU kp jS] 27,iL jU kp jS]++r)∧ML (eR mn mr kp) met xs ix mt):=by
 refine enter 19 Tryz.func184 J J J fun f0 ha=>?_
 have Gh:=j1<|H.at_ 0 J
 have kA:=aP<|H.rv 4 J
 have PG:=aP<|H.rv 6 J
 have i0:f0 0=R dO xs dH:=ha 0 bh
 have i1:f0 1=.func (.func 169) #[] #[pV kc 0,pV mh 0,pV mi 0]:=ha 1 bh
 refine aB<|au (v:=C 0) J J<|av<|sq<|aB<|ak J i0<|k<|dW J J ei<|ak (v:=C 0) J J<|av<|bk ?_
 let J0:=oL w 122 dO xs dH
 let J1:=box kc #[.map (some fU)] 215
 let J2:=box mh #[C mn,R bA mr bz] 26
 let J3:=iL bA mr bz
 let J4:=box mi #[R jU kp jS] 27
 let J5:=iL jU kp jS
 let bc:=[J2,J3,J4,J5]
 refine lp (fun m f w'=>∃(j_:Nat) (mM:List ((Int×Int)×Bool)),m=xs.length-j_∧f 0=R dO xs dH∧f 1=.func (.func 169) #[] #[pV kc 0,pV mh 0,pV mi 0]∧f 7=C (xs.length:Int)∧f 8=C (j_:Int)∧HI M w w' ((J0::J1::bR fU mM::bc)++r)∧(j_≤xs.length)∧(gi (eR mn mr kp) met (xs.take j_)=(xs.take j_,mM))) _ ⟨0,met,J,i0,i1,J,(bJ J),H,aq,(by exact VE)⟩ ?_
 rintro _ f0 w0 ⟨j_,mM,rfl,s0,s1,s2,s3,H0,pt,hs⟩
 refine aB<|k<|lss J J s3 s2<|av<|sq ?_
 refine cd (b:=decide ((j_:Int)<(xs.length:Int))) J J (fun b0=>?_)<|fun b0=>?_
 ·
  have p0:=dT b0
  refine sk<|nx<|sq<|bk<|aB<|ak J s3<|au (v:=C (j_:Int)) J J<|bt<|ak J s1<|ak J s0<|ak (v:=C (j_:Int)) J J<|k<|ic (H0.at_ 0 J) J J J J aq ei cF ?_
  intro g0 x0 im aQ cu
  refine k<|nj cu cF J J ?_
  intro v0 cm
  obtain⟨_,⟨_,_,rfl,⟨rfl,dM⟩,⟨_,_,rfl,⟨rfl,dV⟩,⟨rfl,fq⟩⟩⟩,rfl⟩:=cm
  refine k ?_
  let bY:=[J2,J3,J4,J5,J0]
  have H1:HI M w w0 ((J1::bR fU mM::bc)++([J0]++r)):=HI.aR (l:=(J0::J1::bR fU mM::bc)) (l':=(J1::bR fU mM::bY)) (t:=r) H0 [1,2,3,4,5,6,0] aw rfl rfl
  have bP:=DQ (fm:=x0.1) (fu:=x0.2.1) (gA:=x0.2.2) (kc:=kc) (fU:=fU) (met:=mM) (mh:=mh) (mn:=mn) (bA:=bA) (bz:=bz) (mr:=mr) (mi:=mi) (jU:=jU) (jS:=jS) (kp:=kp) (w:=w) (w_:=w0) (r:=([J0]++r)) (M:=M) dM dV fq fZ (by exact bU) H1
  refine cf XO J J J (ec J e0) bP ?_
  rintro _ w1 ⟨rfl,H2⟩
  let dE:=J1::bR fU (((eR mn mr kp) mM (x0.1,x0.2.1,x0.2.2)).2)::bY
  have H3:HI M w w1 (dE++r):=H2
  refine z<|nx ?_
  refine cd (b:=((eR mn mr kp) mM (x0.1,x0.2.1,x0.2.2)).1) J J (fun b1=>?_)<|fun b1=>?_
  ·
   refine aB<|ak (v:=C (j_:Int)) J J<|au (v:=C (j_:Int)) J J<|av<|rt<|bQ<|aL<|dQ<|bQ<|aL<|r1 J J ?_
   have H4:=HI.aR (l:=dE) (l':=(J0::J1::bR fU (((eR mn mr kp) mM (x0.1,x0.2.1,x0.2.2)).2)::bc)) (t:=r) H3 [6,0,1,2,3,4,5] aw J J
   refine⟨(j_:Int),(((eR mn mr kp) mM (x0.1,x0.2.1,x0.2.2)).2),?_,?_,(by exact acI hs aq aQ b1)⟩
   · first|rfl|simp only[ami]
   · first|exact H4|simpa +zetaDelta only[ami] using H4
  refine sk<|aI<|nx<|rg<|k<|add J J s3 J aV<|ak (v:=C ((j_:Int)+1)) J J<|z ?_
  let iH:=J0::J1::bR fU (((eR mn mr kp) mM (x0.1,x0.2.1,x0.2.2)).2)::bc
  have H4:HI M w w1 (iH++r):=HI.aR (l:=dE) (l':=iH) (t:=r) H3 [6,0,1,2,3,4,5] aw rfl rfl
  refine bB _ ?_ ⟨(j_+1),(((eR mn mr kp) mM (x0.1,x0.2.1,x0.2.2)).2),J,s0,s1,s2,(bJ J),H4,aq,(by exact Zp hs aQ b1)⟩
  omega
 have p0:=dF b0
 refine ex<|aX<|bf<|bg<|cI<|au (v:=C (-1)) J J<|av<|rt<|r1 J J ?_
 refine⟨(-1),mM,?_,?_,(by exact acJ hs aq)⟩
 · first|rfl|simp only[ami]
 · first|exact H0|simpa +zetaDelta only[ami] using H0
theorem aey:ct aJ 184:=⟨_,_,Tryz.func184,rfl,aM⟩
theorem Qc:ct aJ 65:=⟨_,_,Tryz.func65,rfl,aM⟩
theorem aeE:ct aJ 168:=⟨_,_,Tryz.func168,rfl,aM⟩
theorem Fu {xs:List (Int×Int×Int)} (fZ:aK mn) (bU:bF mn mr=true) (H:HI M w w_ ([oL w 122 dO xs dH,box kc #[.map (some fU)] 215,bR fU met,box mh #[C mn,R bA mr bz] 26,iL bA mr bz,box mi #[R jU kp jS] 27,iL jU kp jS]++r)):Calls aJ 168 #[R dO xs dH,.func (.func 169) #[] #[pV kc 0,pV mh 0,pV mi 0]] w_ (cb fun v w'=>v=.slice dO ((gi (eR mn mr kp) met xs).1).length dH∧HI M w w' ([oL w 122 dO ((gi (eR mn mr kp) met xs).1) dH,box kc #[.map (some fU)] 215,bR fU ((gi (eR mn mr kp) met xs).2),box mh #[C mn,R bA mr bz] 26,iL bA mr bz,box mi #[R jU kp jS] 27,iL jU kp jS]++r)):=by
 refine enter 42 Tryz.func168 J J J fun f0 ha=>?_
 have Gh:=j1<|H.at_ 0 J
 have kA:=aP<|H.rv 4 J
 have PG:=aP<|H.rv 6 J
 have i0:f0 0=R dO xs dH:=ha 0 bh
 have i1:f0 1=.func (.func 169) #[] #[pV kc 0,pV mh 0,pV mi 0]:=ha 1 bh
 refine aB<|au (v:=.slice none 0 0) J J<|bt<|ak J i0<|ak J i1<|k ?_
 let J0:=oL w 122 dO xs dH
 let J1:=box kc #[.map (some fU)] 215
 let J2:=box mh #[C mn,R bA mr bz] 26
 let J3:=iL bA mr bz
 let J4:=box mi #[R jU kp jS] 27
 let J5:=iL jU kp jS
 let bc:=[J2,J3,J4,J5]
 let bY:=J0::J1::bR fU met::bc
 have H0:HI M w w_ ((J0::J1::bR fU met::bc)++([]++r)):=HI.aR (l:=bY) (l':=bY) (t:=r) H [0,1,2,3,4,5,6] aw rfl rfl
 have bP:=Gt (dO:=dO) (dH:=dH) (xs:=xs) (kc:=kc) (fU:=fU) (met:=met) (mh:=mh) (mn:=mn) (bA:=bA) (bz:=bz) (mr:=mr) (mi:=mi) (jU:=jU) (jS:=jS) (kp:=kp) (w:=w) (w_:=w_) (r:=([]++r)) (M:=M) fZ (by exact bU) H0
 refine ca aey J (ec J<|ec J e0) bP ?_
 rintro _ w0 ⟨o0,o1,rfl,H1,q0⟩
 have H2:HI M w w0 ((J0::J1::bR fU o1::bc)++r):=H1
 refine au (v:=C o0) J J<|av<|sq<|aB<|ak (v:=C o0) J J<|k<|eql J J J J<|z<|nx ?_
 refine cd (b:=decide (o0=(-1))) J J (fun b0=>?_)<|fun b0=>?_
 ·
  have p0:=dT b0
  refine aB<|ak J i0<|au (v:=R dO xs dH) J J<|av<|rt<|aL<|r1 J J ?_
  have e0:(xs:List _)=((gi (eR mn mr kp) met xs).1):=by rw[OE q0 bq]
  have e1:(o1:List ((Int×Int)×Bool))=((gi (eR mn mr kp) met xs).2):=by rw[OE q0 bq]
  try rw[←e0]
  try rw[←e1]
  refine⟨?_,?_⟩
  · first|rfl|simp only[e0,e1]|(simp only[ami])
  · first|exact H2|simpa +zetaDelta only[e0,e1,ami] using H2
 have p0:=dF b0
 refine sk<|nx<|sq<|sq ?_
 obtain⟨ahz,P7⟩:=VL q0 bq
 have ahA:=P7.1
 refine rg<|ak (v:=C o0) J J<|k<|add J J J J aV<|au (v:=C (o0+1)) J J<|av<|bk ?_
 refine lp (fun m f w'=>∃(q:Int) (k_:Nat) (ys:List dU) (mM:List ((Int×Int)×Bool)),m=xs.length-k_∧f 0=R dO xs dH∧f 1=.func (.func 169) #[] #[pV kc 0,pV mh 0,pV mi 0]∧f 5=C q∧f 6=C (k_:Int)∧HI M w w' ((own w.heap.size 122 (.slice dO xs.length dH) ys::J1::bR fU mM::bc)++r)∧(0≤q∧q<(k_:Int)∧k_≤xs.length)∧(DS (eR mn mr kp) met xs ys q k_ mM)) _ ⟨o0,(o0.toNat+1),xs,o1,J,i0,i1,(bJ J),(bJ J),H2,aq,(by exact P7)⟩ ?_
 rintro _ f0 w1 ⟨q,k_,ys,mM,rfl,s0,s1,s2,s3,H3,sf,hs⟩
 refine sq<|aB<|ak J s3<|ak J s0<|k<|dW J J ei<|k<|lss J J J J<|z<|nx ?_
 refine cd (b:=decide ((k_:Int)<(xs.length:Int))) J J (fun b1=>?_)<|fun b1=>?_
 ·
  have p1:=dT b1
  refine sk<|nx<|sq<|bk<|aB<|ak J s0<|ak J s3<|k<|ic (H3.at_ 0 J) J J J J (by have h_:=hs.2.2.1;first|omega|(simp only[gf,ij,nX,gm];omega)) ei cF ?_
  intro g0 x0 im aQ cu
  refine k<|nj cu cF J J ?_
  intro v0 cm
  obtain⟨_,⟨_,_,rfl,⟨rfl,dM⟩,⟨_,_,rfl,⟨rfl,dV⟩,⟨rfl,fq⟩⟩⟩,rfl⟩:=cm
  refine k<|al H3 cF ?_
  let J6:=own w.heap.size 122 (.slice dO xs.length dH) ys
  let dE:=J1::bR fU mM::bc
  intro aY w2 bS (H4:HI M w w2 ((box aY #[C 0,C 0,C 0] 122::J6::dE)++r))
  refine k<|bp H4 0 J cF J J J J J J J ?_
  let J7:=box aY #[C x0.1,C x0.2.1,C x0.2.2] 122
  intro w3 (H5:HI M w w3 ((J7::J6::dE)++r))
  refine bt<|ak J s1<|k<|cq H5 0 J cF J J aw J<|k ?_
  have H6:HI M w w3 (dE++([J7,J6]++r)):=HI.aR (l:=(J7::J6::dE)) (l':=[J1,bR fU mM,J2,J3,J4,J5,J7,J6]) (t:=r) H5 [2,3,4,5,6,7,0,1] aw rfl rfl
  have cV:=DQ (fm:=x0.1) (fu:=x0.2.1) (gA:=x0.2.2) (kc:=kc) (fU:=fU) (met:=mM) (mh:=mh) (mn:=mn) (bA:=bA) (bz:=bz) (mr:=mr) (mi:=mi) (jU:=jU) (jS:=jS) (kp:=kp) (w:=w) (w_:=w3) (r:=([J7,J6]++r)) (M:=M) dM dV fq fZ (by exact bU) H6
  refine cf XO J J J (ec J e0) cV ?_
  rintro _ w4 ⟨rfl,H7⟩
  let iH:=[J1,bR fU (((eR mn mr kp) mM (x0.1,x0.2.1,x0.2.2)).2),J2,J3,J4,J5,J7,J6]
  have H8:HI M w w4 (iH++r):=H7
  refine k<|jE J J<|z<|nx ?_
  refine cd (b:=!(((eR mn mr kp) mM (x0.1,x0.2.1,x0.2.2)).1)) J J (fun b2=>?_)<|fun b2=>?_
  ·
   refine aB<|ak J s0<|ak J s2<|k<|cq H8 6 J cF J J aw J<|k<|ic (H8.at_ 7 J) J J J J (by have h_:=hs.2.2.1;first|omega|(simp only[gf,ij,nX,gm];omega)) ei cF ?_
   intro g1 x1 kB cP gK
   refine k<|pR H8 7 J kB J (by have h_:=hs.2.2.1;first|omega|(simp only[gf,ij,nX,gm];omega)) cF J J J J ⟨_,⟨_,_,J,⟨J,(show aK (x0.1) from bq)⟩,⟨_,_,J,⟨J,(show aK (x0.2.1) from bq)⟩,⟨J,(show aK (x0.2.2) from bq)⟩⟩⟩,J⟩ ?_
   let J8:=own w.heap.size 122 (.slice dO xs.length dH) (ys.set q.toNat (x0.1,x0.2.1,x0.2.2))
   let eW:=[J1,bR fU (((eR mn mr kp) mM (x0.1,x0.2.1,x0.2.2)).2),J2,J3,J4,J5,J7,J8]
   intro w5 (H9:HI M w w5 (eW++r))
   refine av<|rg<|ak J s2<|k<|add J J J J aV<|au (v:=C (q+1)) J J<|z<|aI<|nx<|rg<|ak J s3<|k<|add J J J J aV<|au (v:=C ((k_:Int)+1)) J J<|z ?_
   let lg:=J8::J1::bR fU (((eR mn mr kp) mM (x0.1,x0.2.1,x0.2.2)).2)::bc
   have dC:HI M w w5 (lg++r):=HI.aR (l:=eW) (l':=lg) (t:=r) H9 [7,0,1,2,3,4,5] aw rfl rfl
   refine bB _ ?_ ⟨(q+1),(k_+1),(ys.set q.toNat (x0.1,x0.2.1,x0.2.2)),(((eR mn mr kp) mM (x0.1,x0.2.1,x0.2.2)).2),J,s0,s1,(bJ J),(bJ J),dC,aq,(by exact Zy hs aQ (by simpa using b2))⟩
   omega
  refine sk<|aI<|nx<|rg<|ak J s3<|k<|add J J J J aV<|au (v:=C ((k_:Int)+1)) J J<|z ?_
  let tF:=J6::J1::bR fU (((eR mn mr kp) mM (x0.1,x0.2.1,x0.2.2)).2)::bc
  have H9:HI M w w4 (tF++r):=HI.aR (l:=iH) (l':=tF) (t:=r) H8 [7,0,1,2,3,4,5] aw rfl rfl
  refine bB _ ?_ ⟨q,(k_+1),ys,(((eR mn mr kp) mM (x0.1,x0.2.1,x0.2.2)).2),J,s0,s1,(bJ s2),(bJ J),H9,aq,(by exact Zz hs aQ (by simpa using b2))⟩
  omega
 have p1:=dF b1
 refine ex<|aX<|bf<|bg<|cI<|ak J s0<|ak J s2<|k<|Ul (H3.at_ 0 J) J J J J (by have h_:=hs.2.2.1;first|omega|(simp only[gf,ij,nX,gm];omega)) ei cF<|k<|clE H3 0 J J J (q:=q.toNat) J ei cF (by have h_:=hs.2.2.1;omega) ?_
 intro w2 (H4:HI M w w2 ((own w.heap.size 122 (.slice dO xs.length dH) (ys.take q.toNat++List.replicate (ys.length-q.toNat) (0,0,0))::J1::bR fU mM::bc)++r))
 refine bt<|ak J s0<|ak J s2<|k<|Rg H4 0 J J J J J (by have h_:=hs.2.2.1;first|omega|(simp only[gf,ij,nX,gm];omega)) ei cF ?_
 intro (H5:HI M w w2 ((oL w 122 dO ((ys.take q.toNat++List.replicate (ys.length-q.toNat) (0,0,0)).take q.toNat) dH::J1::bR fU mM::bc)++r))
 refine au (v:=R dO ((ys.take q.toNat++List.replicate (ys.length-q.toNat) (0,0,0)).take q.toNat) dH) J J<|av<|rt<|r1 J J ?_
 have e0:((ys.take q.toNat++List.replicate (ys.length-q.toNat) (0,0,0)).take q.toNat:List _)=((gi (eR mn mr kp) met xs).1):=by exact(Tk hs aq aq _).1
 have e1:(mM:List ((Int×Int)×Bool))=((gi (eR mn mr kp) met xs).2):=by exact(Tk hs aq aq []).2
 try rw[←e0]
 try rw[←e1]
 refine⟨?_,?_⟩
 · first|rfl|simp only[e0,e1]|(simp only[ami])
 · first|exact H5|simpa +zetaDelta only[e0,e1,ami] using H5
theorem Pf (hM:eD M w) (hT:fQ 0 w) (cL:cw M w ay ax I) (eZ:cw M w aA az U) (fZ:aK mn) (fG:cw M w bA bz mr) (ace:cw M w jU jS kp) (dp:I.length≤4096) (eo:U.length=I.length) (fE:∀x∈U,x<((I.length:Nat):Int)) (bU:bF mn mr=true):Calls aJ 142 #[.agg #[.slice aD aF aC,R ay I ax,R aA U az],.agg #[C mn,R bA mr bz],R jU kp jS] w (cb fun v w'=>∃(a0:OA) (c0:Nat),v=.slice a0 (gz mn mr kp (cE I U mn mr)).length c0∧Ext w w'∧bj M 122 w (gz mn mr kp (cE I U mn mr)) (.slice a0 (gz mn mr kp (cE I U mn mr)).length c0) w'):=by
 refine df 14 Tryz.func142 J J J hM fun f0 ha H=>?_
 let J0:=iL ay I ax
 have H0:=H.put (it:=J0) J<|by rw[bN];exact cL
 let J1:=iL aA U az
 have H1:=H0.put (it:=J1) J<|by rw[aE rfl,bN];exact eZ
 let J2:=iL bA mr bz
 have H2:=H1.put (it:=J2) J<|by rw[aE rfl,aE rfl,bN];exact fG
 let J3:=iL jU kp jS
 have H3:=H2.put (it:=J3) J<|by rw[aE rfl,aE rfl,aE rfl,bN];exact ace
 have fM:=aP cL
 have iA:=aP eZ
 have kA:=aP fG
 have PG:=aP ace
 have i0:f0 0=.agg #[.slice aD aF aC,R ay I ax,R aA U az]:=ha 0 bh
 have i1:f0 1=.agg #[C mn,R bA mr bz]:=ha 1 bh
 have i2:f0 2=R jU kp jS:=ha 2 bh
 refine aB<|k<|bx H3 J i0 ?_
 let bc:=[J3,J2,J1,J0]
 intro aY w0 bS (H4:HI M w w0 (box aY #[.slice aD aF aC,R ay I ax,R aA U az] 47::bc))
 let J4:=box aY #[.slice aD aF aC,R ay I ax,R aA U az] 47
 refine k<|bx H4 J i1 ?_
 intro ba w1 cY (H5:HI M w w1 (box ba #[C mn,R bA mr bz] 26::J4::bc))
 let J5:=box ba #[C mn,R bA mr bz] 26
 refine k<|bx H5 J i2 ?_
 intro bD w2 eT (H6:HI M w w2 (box bD #[R jU kp jS] 27::J5::J4::bc))
 let J6:=box bD #[R jU kp jS] 27
 refine au (v:=.slice none 0 0) J J<|bt<|k<|mmP H6 ?_
 intro dA w3 fB (H7:HI M w w3 (bR dA ([]:List ((Int×Int)×Bool))::J6::J5::J4::bc))
 refine k<|al H7 JD ?_
 let bY:=bR dA ([]:List ((Int×Int)×Bool))::J6::J5::J4::bc
 intro eX w4 iN (H8:HI M w w4 (box eX #[.map none] 215::bY))
 refine k<|bp H8 0 J JD J J J J J J J ?_
 let J7:=box eX #[.map (some dA)] 215
 intro w5 (H9:HI M w w5 (J7::bY))
 refine bt<|k<|cq H9 4 J dx J J aw J<|k<|cq H9 3 J bm J J aw J<|k ?_
 have bP:=uj (I:=I) (U:=U) (mn:=mn) (mr:=mr) (aD:=aD) (aF:=aF) (aC:=aC) H9.mb (hT.ext H9.below) (H9.rv 8 J) (H9.rv 7 J) fZ (H9.rv 6 J) (by exact dp) (by exact eo) (by exact fE)<|by exact bU
 refine ca Qc J (ec J<|ec J e0) bP ?_
 rintro _ w6 ⟨a0,c0,rfl,jb,cm⟩
 have dC:=H9.eI cm
 refine k<|mf J<|k ?_
 have cT:HI M w w6 ([oL w 122 a0 (cE I U mn mr) c0,J7,bR dA ([]:List ((Int×Int)×Bool)),J5,J2,J6,J3]++[J4,J1,J0]):=dC.bT [0,1,2,4,7,3,6,5,8,9] aw rfl
 have cV:=Fu (dO:=a0) (dH:=c0) (xs:=(cE I U mn mr)) (kc:=eX) (fU:=dA) (met:=([]:List ((Int×Int)×Bool))) (mh:=ba) (mn:=mn) (bA:=bA) (bz:=bz) (mr:=mr) (mi:=bD) (jU:=jU) (jS:=jS) (kp:=kp) (w:=w) (w_:=w6) (r:=[J4,J1,J0]) (M:=M) fZ (by exact bU) cT
 refine ca aeE J (ec J<|ec J e0) cV ?_
 rintro _ w7 ⟨rfl,dt⟩
 have dw:HI M w w7 [oL w 122 a0 ((gi (eR mn mr kp) ([]:List ((Int×Int)×Bool)) (cE I U mn mr)).1) c0,J7,bR dA ((gi (eR mn mr kp) ([]:List ((Int×Int)×Bool)) (cE I U mn mr)).2),J5,J2,J6,J3,J4,J1,J0]:=dt
 refine au (v:=R a0 ((gi (eR mn mr kp) ([]:List ((Int×Int)×Bool))<|cE I U mn mr).1) c0) J J<|av<|rt<|r1 J J ?_
 have e0:(((gi (eR mn mr kp) ([]:List ((Int×Int)×Bool)) (cE I U mn mr)).1):List (Int×Int×Int))=gz mn mr kp (cE I U mn mr):=rfl
 have bo:=iq (fun (bV:List (Int×Int×Int))=>(.slice a0 bV.length c0:Value)) e0
 exact⟨a0,c0,bo,dw.below,(amh (fun (x_:List (Int×Int×Int))=>bj _ _ _ x_ (.slice a0 x_.length c0) _) e0).mp (dw.da 0 J)⟩
end Go.Proofs.YtgjakhpjmapelaaGreatDoor
