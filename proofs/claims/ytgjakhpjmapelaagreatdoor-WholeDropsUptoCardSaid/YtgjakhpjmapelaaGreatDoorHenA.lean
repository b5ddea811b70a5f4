/- PRINTED by my own tool (wip/tool/gen.py): contracts of Go functions of this seat, each with its proof. -/
import Derived.Test.YtgjakhpjmapelaaGreatDoorProg
import Derived.Test.YtgjakhpjmapelaaGreatDoorPwnB
import Derived.Test.YtgjakhpjmapelaaGreatDoorPwnA
import Derived.Test.YtgjakhpjmapelaaGreatDoorPwnC
import Derived.Test.YtgjakhpjmapelaaGreatDoorPwnD
set_option linter.unusedVariables false
set_option linter.unusedSimpArgs false
namespace Go.Proofs.YtgjakhpjmapelaaGreatDoor
open Go.Ew Go.RowKit
set_option maxRecDepth 100000
set_option maxHeartbeats 1600000
attribute [local irreducible] WL WC SO PW PX PZ WE Code.wp wpList rY cg
attribute [local irreducible] ka xy jr fg eb Ak C8 KP words d_ cV jE fC vC
theorem dS {M0 M1:Nat→Prop} {w0 w:World} {l:List Go.Ew.Item} {α:Type} [GT α] {a:OA} {c:Nat} {xs:List α} (H:HI M0 w0 w l) (h:RV M1 w (.slice a xs.length c) xs) (e:MS M0 l=M1:=by first|with_reducible rfl|(repeat first|rw[bN]|rw[aG rfl])):HI M0 w0 w (iL a xs c::l):=H.put (it:=iL a xs c) rfl (by rw[e];exact h)
noncomputable abbrev aK:Program:=Tryz.prog
abbrev bY:Type:=BitVec 64
theorem aT {x:Int} (h:aM x:=by first|assumption|(unfold aM at *;omega)):aM x:=h
theorem ao_ {p:Prop} (h:p:=by first|omega|assumption|simp):p:=h
theorem aC {p:Prop} (h:p:=by kernel_rfl):p:=h
theorem bJ {v:Value} {k:IntKind} {a b:Int} (h:v=.int k a) (e:a=b:=by first|rfl|omega|simp):v=.int k b:=e▸h
theorem dm {M0:Nat→Prop} {P:Program} {g:FuncId} {fn:Func} {c:Code} {args:Array Value} {w:World} {ai:Value→World→Prop} (n:Nat) (hf:P.funcs[g]? =some fn) (hb:fn.body=some c) (hn:fn.ntmps=n) (ha:Nat.ble args.size n=true) (hM:∀b,M0 b→b<w.heap.size) (h:∀f:aQ,(∀(i:Nat) {v:Value},args.toList[i]? =some v→f i=v)→HI M0 w w []→WC P n c (rY P n fn ai) f w):Calls P g args w (cg ai):=
  enter n hf hb hn ha fun f h1=>h f (fun i v hv=>by
    rw[aox] at hv
    obtain⟨h2,h3⟩:=anQ.1 hv
    rw[←h3]
    exact h1 i h2) (HI.start hM)
theorem py {w:World}:∀b,(fun _:Nat=>False) b→b<w.heap.size:=fun _ h=>h.elim
theorem kO {F S:OA→Nat→Value} {D:Nat→Prop} {α:Type} [GT α] {X:List α}:rQ (fun N v w=>∃(a:OA) (c:Nat),v=F a c∧RV (MN D N) w (S a c) X):=
  ⟨by rintro _ _ _ _ x_ ⟨a,c,e_,r⟩;exact⟨a,c,e_,r.lift (Up.ext x_)⟩,by rintro _ _ _ _ _ k_ ⟨a,c,e_,r⟩;exact⟨a,c,e_,gV r k_⟩⟩
theorem jk {F S:OA→Nat→Value} {D:Nat→Prop} {α:Type} [GT α] {X:List α}:rQ (fun _ v w=>∃(a:OA) (c:Nat),v=F a c∧RV D w (S a c) X):=
  mN (by rintro _ _ _ x_ ⟨a,c,e_,r⟩;exact⟨a,c,e_,r.lift (Up.ext x_)⟩)
abbrev cA {α:Type} [GT α] (M:Nat→Prop) (w:World) (a:OA) (c:Nat) (l:List α):Prop:=RV M w (.slice a l.length c) l
abbrev eG (M:Nat→Prop) (w:World):Prop:=∀b,M b→b<w.heap.size
section
variable {P:Program} {n id:Nat} {l:List Oper} {y:Code} {Q:Exit→Act→World→Prop} {f:aQ} {w:World} {ops:Array Oper}
theorem av (h:WC P n y Q f w):WL P n ops (Exit.then (fun a w=>y.wp P Q a w) Q) [] f w:=z (nx h)
theorem aB (h:WL P n l.toArray (Exit.then (fun a w=>y.wp P Q a w) Q) l f w):WC P n (.seq (.region id l.toArray false) y) Q f w:=sq (rg h)
theorem bp (h:WL P n l.toArray (Exit.then (fun a w=>y.wp P Q a w) Q) l f w):WL P n ops (Exit.then (fun a w=>(Code.seq (.region id l.toArray false) y).wp P Q a w) Q) [] f w:=z (nx (sq (rg h)))
section
variable {rest:List Oper} {d t j off bb:Nat} {dd:Option Nat} {x:Operand} {v z:Value} {ty T t2:TypeId} {ps:String} {af:Array Edge} {ad:Addr} {op:Op} {want b:Bool} {bytes:Nat} {cs:Array Value} {M0:Nat→Prop} {w0:World} {l:List Go.Ew.Item}
theorem bM {aj:UN} {zk:ZK} {ks:List ZK} {ag:World→Prop} {K0:UN→aQ→Prop} {rest:List Oper} {o:Oper} {w0:World} (h:PW P n ops w0 (fun f'=>PZ P n ops w0 ag K0 rest ks aj f') [o] f) (hz:Kq zk=true:=by exact rfl) (hf:(lg n o&&DO ops o aj)=true:=by exact rfl):PW P n ops w0 (fun f=>PZ P n ops w0 ag K0 (o::rest) (zk::ks) aj f) [] f:=zq (yq hz hf h)
theorem ak (ox:bG n x=true) (hx:ev f x=v) (h:WL P n ops Q rest (cb f d v) w):WL P n ops Q (⟨some d,.move x,ty,ps,af,none⟩::rest) f w:=k (mv ox hx h)
theorem au (ox:bG n x=true) (hx:ev f x=v) (h:WL P n ops Q rest (cb f d v) w):WL P n ops Q (⟨some d,.assign x,ty,ps,af,none⟩::rest) f w:=k (jG ox hx h)
theorem aS (F:gO P T j off) (ox:bG n x=true) (hx:ev f x=.pointer (some ad)) (h:WL P n ops Q rest (cb f d (.pointer (some (ad.add off)))) w):WL P n ops Q (⟨some d,.fieldAddr T x j,ty,ps,af,none⟩::rest) f w:=k (fa F ox hx h)
theorem aO (hj:xE ops j=some t) (ht:Nat.blt t n=true) (hv:f t=.bool b) (hb:b=!want) (h:WL P n ops Q rest (cX f dd undef) w):WL P n ops Q (⟨dd,op,ty,ps,af,some (j,want)⟩::rest) f w:=k (gn hj ht hv hb h)
theorem aU (hj:xE ops j=some t) (ht:Nat.blt t n=true) (hv:f t=.bool b) (hb:b=want) (h:SO P n ops ⟨dd,op,ty,ps,af,none⟩ f w (WL P n ops Q rest)):WL P n ops Q (⟨dd,op,ty,ps,af,some (j,want)⟩::rest) f w:=k (gy hj ht hv hb h)
theorem bl (H:HI M0 w0 w l) (i:Nat) (hi:l[i]? =some (box bb cs t2)) (F:ei P T 1 false bytes z) (ox:bG n x=true) (hx:ev f x=.pointer (some ⟨bb,off,none⟩)) (hl:((cs.toList.drop off).take 1).length=1) (h:WL P n ops Q rest (cb f d (sj false ((cs.toList.drop off).take 1))) w):WL P n ops Q (⟨some d,.load T x,ty,ps,af,none⟩::rest) f w:=k (lx H i hi F ox hx hl h)
end
theorem cO (h:WL P n l.toArray (Exit.then (fun a w=>y.wp P Q a w) Q) l f w):Exit.then (fun a w=>(Code.seq (.region id l.toArray false) y).wp P Q a w) Q .normal (b9 n f) w:=nx (sq (rg h))
end
variable {M:Nat→Prop} {w w_:World}
variable {i n n1 ft fy gE mI mH nj mn j o vr tE:Int} {x:bY} {jH wa v8 mh bA dR aE ay aA yR j0:OA} {jV v7 vZ mJ dJ qf xP bz aF aD ax eU az bK yM kn fU mx my jY:Nat} {a b:List bY} {l xs U rA kp:List Int} {r:List Go.Ew.Item} {qj:List Value} {p:Int→Bool} {Hv KG:TypeId} {mr:List (List bY)} {I:List aI} {met:List ((Int×Int)×Bool)}
theorem Dz:aK.underlying 152=some (.int .u64):=aC
theorem zB:aK.underlying 3=some (.int .i64):=aC
theorem QN:cu aK 127:=⟨_,_,Tryz.func127,rfl,aC⟩
theorem Xn:aK.underlying 227=some (.array 64 5):=aC
theorem Xu:ei aK 5 1 false 1 (.int .u8 0):=⟨aC,aC⟩
theorem IA:aK.underlying 5=some (.int .u8):=aC
theorem afy:cu aK 157:=⟨_,_,Tryz.func157,rfl,aC⟩
theorem ic:aK.underlying 144=some (.slice 151):=aC
theorem YB:cu aK 124:=⟨_,_,Tryz.func124,rfl,aC⟩
theorem fl:ei aK 151 1 false 8 (.int .u64 0):=⟨aC,aC⟩
theorem afP:cu aK 125:=⟨_,_,Tryz.func125,rfl,aC⟩
theorem QO:cu aK 126:=⟨_,_,Tryz.func126,rfl,aC⟩
theorem afQ:cu aK 123:=⟨_,_,Tryz.func123,rfl,aC⟩
theorem afN:cu aK 129:=⟨_,_,Tryz.func129,rfl,aC⟩
theorem cK:aK.underlying 27=some (.slice 3):=aC
theorem aV:ei aK 3 1 false 8 (.int .i64 0):=⟨aC,aC⟩
theorem ES (qH:aM i):Calls aK 127 #[C i] w (cg fun v w'=>v=aj (ka i)∧Ext w w'):=by
 refine dm 9 Tryz.func127 J J J py fun f0 ha H=>?_
 have i0:f0 0=C i:=ha 0 bh
 refine aB<|au (v:=aj (0#64)) J J<|av<|sq<|aB<|ak J i0<|k<|Pb J J zB Dz<|k<|Yu (BitVec.ofInt 64 i) (63#64) J J J J<|z<|nx<|cd (b:=decide ((63#64).toNat<(BitVec.ofInt 64 i).toNat)) J J (fun b0=>?_)<|fun b0=>?_
 ·
  have p0:=dT b0
  refine aB<|au (v:=aj (0#64)) J J<|av<|rt<|aL<|r1 J J ?_
  exact⟨ani aj (by exact aaD qH p0),H.below⟩
 have p0:=dF b0
 refine sk<|cO<|ak J i0<|k<|Pb J J zB Dz<|k<|abd (1#64) ((BitVec.ofInt 64 i).toNat:Int) aq J J J J<|au (v:=aj ((1#64) <<< ((BitVec.ofInt 64 i).toNat:Int).toNat)) J J<|av<|rt<|r1 J J ?_
 exact⟨ani aj (by exact aaC qH p0),H.below⟩
theorem UJ (qH:aM i):Calls aK 125 #[aj x,C i] w (cg fun v w'=>v=.bool (xy x i)∧Ext w w'):=by
 refine dm 10 Tryz.func125 J J J py fun f0 ha H=>?_
 have i0:f0 0=aj x:=ha 0 bh
 have i1:f0 1=C i:=ha 1 bh
 refine aB<|au (v:=.bool false) J J<|bp<|ak J i0<|ak J i1<|k ?_
 have bP:=ES (i:=i) (w:=w) qH
 refine ca QN J (ec J e0) bP ?_
 rintro _ w0 ⟨rfl,bT⟩
 have H0:=H.ext bT
 refine k<|Df x (ka i) J J J J<|k<|neU (x &&& (ka i)) (0#64) J J J J<|au (v:=.bool (!decide ((x &&& (ka i))=(0#64)))) J J<|av<|rt<|r1 J J ?_
 exact⟨ani Value.bool (by exact Z7 _ _),H0.below⟩
theorem Y8 (hT:fP 0 w):Calls aK 157 #[aj x] w (cg fun v w'=>v=C ((fC x:Nat):Int)∧Ext w w'):=by
 refine dm 14 Tryz.func157 J J J py fun f0 ha H=>?_
 have i0:f0 0=aj x:=ha 0 bh
 refine aB<|au (v:=C 0) J J<|av<|sq<|aB<|ak J i0<|k<|eqU x (0#64) J J J J<|z<|nx<|cd (b:=decide (x=(0#64))) J J (fun b0=>?_)<|fun b0=>?_
 ·
  have p0:=dT b0
  refine aB<|au (v:=C 64) J J<|av<|rt<|aL<|r1 J J ?_
  exact⟨ani (Value.int .i64) (by have e_:=p0;subst e_;rw[Er];rfl),H.below⟩
 have p0:=dF b0
 refine sk<|cO<|ak J i0<|ak J i0<|k<|abI x J J<|k<|Df x (-x) J J J J<|k<|Ff (x &&& (-x)) (285870213051353865#64) J J J J<|k<|DA ((x &&& (-x))*(285870213051353865#64)) 58 J J J J<|k<|ahW (i:=(((x &&& (-x))*(285870213051353865#64)) >>> 58).toNat) J J J J (by exact EP (by simpa using p0)) Xn Xu<|k<|ld8 (ahF (M:=fun _=>False) hT H.below J<|by exact EP (by simpa using p0)) Xu J J<|k<|YN J J aT IA zB<|au (v:=C ((vC (((x &&& (-x))*(285870213051353865#64)) >>> 58).toNat).toNat:Int)) J J<|av<|rt<|r1 J J ?_
 exact⟨ani (Value.int .i64) (by exact UH (by simpa using p0)),H.below⟩
theorem Px (hT:fP 0 w):Calls aK 129 #[aj x] w (cg fun v w'=>v=C ((fC x:Nat):Int)∧Ext w w'):=by
 refine dm 5 Tryz.func129 J J J py fun f0 ha H=>?_
 have i0:f0 0=aj x:=ha 0 bh
 refine aB<|au (v:=C 0) J J<|bp<|ak J i0<|k ?_
 have bP:=Y8 (x:=x) (w:=w)<|hT.ext H.below
 refine ca afy J (ec J e0) bP ?_
 rintro _ w0 ⟨rfl,bT⟩
 have H0:=H.ext bT
 refine au (v:=C ((fC x:Nat):Int)) J J<|av<|rt<|r1 J J ?_
 exact⟨J,H0.below⟩
theorem RU {r:List bY} (hM:eG M w) (pE:cA M w jH jV r) (qH:aM i):Calls aK 124 #[R jH r jV,C i] w (cg fun v w'=>v=.bool (jr r i)∧Ext w w'):=by
 refine dm 14 Tryz.func124 J J J hM fun f0 ha H=>?_
 have H0:=dS H pE
 have VK:=bf pE
 have i0:f0 0=R jH r jV:=ha 0 bh
 have i1:f0 1=C i:=ha 1 bh
 refine aB<|au (v:=.bool false) J J<|bp<|ak J i1<|k<|geq J J J J<|ak (v:=.bool (decide (0≤i))) J J ?_
 rcases bE (decide (0≤i)) with b0|b0
 ·
  have p0:=dT b0
  refine aU J J J b0<|mv J i1<|aU J J J b0<|K3 J J J J<|aU J J J b0<|mv J i0<|aU J J J b0<|dP J J ic<|aU J J J b0<|lss J J J J<|k<|aR J J J J b0 J<|au (v:=.bool (decide ((i/64)<(r.length:Int)))) J J<|av<|rt<|r1 J J ?_
  exact⟨ani Value.bool (by exact Z4 p0),H0.below⟩
 have p0:=dF b0
 refine aO J J J b0<|aO J J J b0<|aO J J J b0<|aO J J J b0<|aO J J J b0<|k<|cJ J J J J b0 J<|au (v:=.bool false) J J<|av<|rt<|r1 J J ?_
 exact⟨ani Value.bool (by exact ab_ aq),H0.below⟩
theorem zG {r:List bY} (hM:eG M w) (pE:cA M w jH jV r) (qH:aM i):Calls aK 85 #[R jH r jV,C i] w (cg fun v w'=>v=.bool (fg r i)∧Ext w w'):=by
 refine dm 18 Tryz.func85 J J J hM fun f0 ha H=>?_
 have H0:=dS H pE
 have i0:f0 0=R jH r jV:=ha 0 bh
 have i1:f0 1=C i:=ha 1 bh
 refine aB<|au (v:=.bool false) J J<|bp<|ak J i0<|ak J i1<|k ?_
 have bP:=RU (r:=r) (i:=i) H0.mb (H0.rv 0 J) qH
 refine ca YB J (ec J<|ec J e0) bP ?_
 rintro _ w0 ⟨rfl,bT⟩
 have H1:=H0.ext bT
 refine ak (v:=.bool (jr r i)) J J ?_
 rcases bE (jr r i) with b0|b0
 ·
  refine aU J J J b0<|mv J i0<|aU J J J b0<|mv J i1<|aU J J J b0<|K3 J J J J<|aU J J J b0<|ia (H1.rv 0 J) J J J J (by have hb:=b0;unfold jr at hb;simp only[ank] at hb;omega) ic fl ?_
  intro iC x0 aP ct
  refine aU J J J b0<|yo ct.w fl J J<|aU J J J b0<|mv J i1<|aU J J J b0<|Km J J J J<|aU J J J b0 ?_
  have cS:=UJ (x:=x0) (i:=(i%64)) (w:=w0) aT
  refine ca afP J (ec J<|ec J e0) cS ?_
  rintro _ w1 ⟨rfl,da⟩
  have H2:=H1.ext da
  refine k<|aR J J J J b0 J<|au (v:=.bool (xy x0<|i%64)) J J<|av<|rt<|r1 J J ?_
  exact⟨ani Value.bool (by exact Z_ b0 aP),H2.below⟩
 refine aO J J J b0<|aO J J J b0<|aO J J J b0<|aO J J J b0<|aO J J J b0<|aO J J J b0<|aO J J J b0<|aO J J J b0<|k<|cJ J J J J b0 J<|au (v:=.bool false) J J<|av<|rt<|r1 J J ?_
 exact⟨ani Value.bool (by exact xz b0),H1.below⟩
theorem C_ {r:List bY} (hM:eG M w) (pE:cA M w jH jV r) (V3:r.length≤1000000000):Calls aK 126 #[R jH r jV] w (cg fun v w'=>∃(a0:OA) (c0:Nat),v=R a0 r c0∧Ext w w'∧bj M 151 w r (R a0 r c0) w'):=by
 refine dm 8 Tryz.func126 J J J hM fun f0 ha H=>?_
 have H0:=dS H pE
 have i0:f0 0=R jH r jV:=ha 0 bh
 refine aB<|au (v:=.slice none 0 0) J J<|av<|sq<|aB<|ak J i0<|k<|TL J J J J ic<|z<|nx<|cd (b:=jH.isNone) J J (fun b0=>?_)<|fun b0=>?_
 ·
  refine aB<|au (v:=.slice none 0 0) J J<|av<|rt<|aL<|r1 J J ?_
  have e0:([]:List bY)=r:=by exact(HC pE b0).symm
  have bo:=iB (fun (bW:List bY)=>(.slice none bW.length 0:Value)) e0
  exact⟨none,0,bo,H0.below,(ani (fun (x_:List bY)=>bj _ _ _ x_ (.slice none x_.length 0) _) e0).mp (fN H0.below)⟩
 refine sk<|cO<|k<|bs (xs:=([]:List bY)) (cells:=#[]) (e:=151) H0 J eh (fun _=>aC) J J aw ?_
 intro g0 w0 bT H1
 refine ak J i0<|k<|lA H1 0 J J J J J J (H1.rv 1 J).src ic fl J (by simp;omega) J ?_
 intro a0 c0 w1 (H2:HI M w w1 [oL w 151 a0 r c0,iL jH r jV])
 refine au (v:=R a0 r c0) J J<|av<|rt<|r1 J J ?_
 exact⟨a0,c0,J,H2.below,(H2.df 0 J)⟩
theorem tY {r:List bY} (hM:eG M w) (pE:cA M w jH jV r) (qH:aM i) (V3:r.length≤1000000000):Calls aK 86 #[R jH r jV,C i] w (cg fun v w'=>∃(a0:OA) (c0:Nat),v=.slice a0 (eb r i).length c0∧Ext w w'∧bj M 151 w (eb r i) (.slice a0 (eb r i).length c0) w'):=by
 refine dm 22 Tryz.func86 J J J hM fun f0 ha H=>?_
 have H0:=dS H pE
 have i0:f0 0=R jH r jV:=ha 0 bh
 have i1:f0 1=C i:=ha 1 bh
 refine aB<|au (v:=.slice none 0 0) J J<|bp<|ak J i0<|k ?_
 have bP:=C_ (r:=r) H0.mb (H0.rv 0 J) aq
 refine ca QO J (ec J e0) bP ?_
 rintro _ w0 ⟨a0,c0,rfl,bT,cq⟩
 have H1:=H0.eL cq
 refine au (v:=R a0 r c0) J J<|av<|sq<|aB<|ak J i0<|ak J i1<|k ?_
 have cS:=RU (r:=r) (i:=i) H1.mb (H1.rv 1 J) qH
 refine ca YB J (ec J<|ec J e0) cS ?_
 rintro _ w1 ⟨rfl,da⟩
 have H2:=H1.ext da
 refine z<|nx<|cd (b:=jr r i) J J (fun b0=>?_)<|fun b0=>?_
 ·
  refine mg [.r,.r,.r,.r,.r,.r,.r,.r,.r,.e,.e] (fun _=>True) J aC (fun _ _=>trivial)<|yq J J<|kq (fun _ _=>mv (v:=R a0 r c0) J J e1)<|bM<|kq (fun _ _=>mv J i1 e1)<|bM<|kq (fun _ _=>K3 J J J J e1)<|bM<|sV (H2.at_ 0 J) J J J J (by have hb:=b0;unfold jr at hb;simp only[ank] at hb;omega) ic fl ?_
  intro iC x0 aP ct
  refine bM<|ae5 ct fl J J<|bM<|kq (fun _ _=>mv J i1 e1)<|bM<|kq (fun _ _=>Km J J J J e1)<|zq<|yq J J<|kq (v:=aj (ka<|i%64)) (fun v_ _=>have cc:=ES (i:=(i%64)) (w:=v_) aT;ca QN rfl (ec J e0) cc fun _ _ h_=>e2 h_)<|bM<|kq (fun _ _=>Sl x0 (ka<|i%64) J J J J e1)<|zq<|ye<|ye<|yz ?_
  intro w2 f0 _ eR _ _ cB iN
  have H3:=H2.ext eR
  have s0:=cB 5 J
  have s1:=cB 11 J
  have s2:=cB 13 J
  have s3:=cB 19 J
  refine j5<|ij (H3.at_ 0 J) J J s1 s2 (by have hb:=b0;unfold jr at hb;simp only[ank] at hb;omega) ic fl ?_
  intro g0 x1 iq cP gL
  refine j5<|pt H3 0 J iq J (by have hb:=b0;unfold jr at hb;simp only[ank] at hb;omega) fl J J J s3 (RV.bv.2 J) ?_
  intro w3 (H4:HI M w w3 [own w.heap.size 151 (.slice a0 r.length c0) (r.set ((i/64).toNat) (x0 ||| (ka (i%64)))),iL jH r jV])
  refine kz<|cO<|ak J s0<|au (v:=R a0 r c0) J J<|av<|rt<|r1 J J ?_
  have e0:(r.set ((i/64).toNat) (x0 ||| (ka (i%64))):List bY)=eb r i:=by exact N4 b0 aP
  have l0:r.length=(eb r i).length:=by rw[←e0];simp
  have bo:=iB (fun (uT:Nat)=>(.slice a0 uT c0:Value)) l0
  exact⟨a0,c0,bo,H4.below,(ani (fun (n_:Nat)=>bj _ _ _ (eb r i) (.slice a0 n_ c0) _) l0).mp ((ani (fun (x_:List bY)=>bj _ _ _ x_ (.slice a0 r.length c0) _) e0).mp (H4.df 0 J))⟩
 refine sk<|cO<|ak (v:=R a0 r c0) J J<|au (v:=R a0 r c0) J J<|av<|rt<|r1 J J ?_
 have e0:(r:List bY)=eb r i:=by exact EX b0
 have bo:=iB (fun (bW:List bY)=>(.slice a0 bW.length c0:Value)) e0
 exact⟨a0,c0,bo,H2.below,(ani (fun (x_:List bY)=>bj _ _ _ x_ (.slice a0 x_.length c0) _) e0).mp (H2.df 0 J)⟩
theorem RW (Mc:aM n) (hn:n≤1000000000000000000):Calls aK 123 #[C n] w (cg fun v w'=>v=C ((words n:Nat):Int)∧Ext w w'):=by
 refine dm 8 Tryz.func123 J J J py fun f0 ha H=>?_
 have i0:f0 0=C n:=ha 0 bh
 refine aB<|au (v:=C 0) J J<|bp<|ak J i0<|k<|max2 J J J J<|k<|add J J J J aT<|k<|sub J J J J aT<|k<|quo J J J J aq<|au (v:=C ((((max n 0)+64)-1)/64)) J J<|av<|rt<|r1 J J ?_
 exact⟨ani (Value.int .i64) (by unfold words;omega),H.below⟩
theorem DC (hM:eG M w) (Mc:aM n) (hn:n≤1000000):Calls aK 84 #[C n] w (cg fun v w'=>∃(a0:OA) (c0:Nat),v=.slice a0 (d_ n).length c0∧Ext w w'∧bj M 151 w (d_ n) (.slice a0 (d_ n).length c0) w'):=by
 refine dm 6 Tryz.func84 J J J hM fun f0 ha H=>?_
 have i0:f0 0=C n:=ha 0 bh
 refine aB<|au (v:=.slice none 0 0) J J<|bp<|ak J i0<|k ?_
 have bP:=RW (n:=n) (w:=w) Mc aq
 refine ca afQ J (ec J e0) bP ?_
 rintro _ w0 ⟨rfl,bT⟩
 have H0:=H.ext bT
 refine k<|mk (m:=(words n:Nat)) (zx:=(0#64:bY)) H0 J J J J ic fl (fun _ _=>rfl) (by unfold words;omega) (by unfold words;omega) ?_
 intro g0 w1 da (H1:HI M w w1 [own w.heap.size 151 (.slice (some ⟨g0,0,none⟩) (words n:Nat) (words n:Nat)) (List.replicate (words n:Nat) (0#64:bY))])
 refine au (v:=.slice (some ⟨g0,0,none⟩) (words n:Nat) (words n:Nat)) J J<|av<|rt<|r1 J J ?_
 have e0:((List.replicate (words n:Nat) (0#64:bY)):List bY)=d_ n:=by unfold d_;rfl
 have l0:(words n:Nat)=(d_ n).length:=by rw[←e0];simp
 have bo:=iB (fun (uT:Nat)=>(.slice (some ⟨g0,0,none⟩) uT (words n:Nat):Value)) l0
 exact⟨(some ⟨g0,0,none⟩),(words n:Nat),bo,H1.below,(ani (fun (n_:Nat)=>bj _ _ _ (d_ n) (.slice (some ⟨g0,0,none⟩) n_ (words n:Nat)) _) l0).mp ((ani (fun (x_:List bY)=>bj _ _ _ x_ (.slice (some ⟨g0,0,none⟩) (words n:Nat) (words n:Nat)) _) e0).mp (H1.df 0 J))⟩
theorem abn (hM:eG M w) (Th:cA M w wa v7 a) (CV:cA M w v8 vZ b) (aik:a.length≤1000000000) (amr:b.length≤1000000000):Calls aK 135 #[R wa a v7,R v8 b vZ] w (cg fun v w'=>∃(a0:OA) (c0:Nat),v=.slice a0 (jE a b).length c0∧Ext w w'∧bj M 151 w (jE a b) (.slice a0 (jE a b).length c0) w'):=by
 refine dm 33 Tryz.func135 J J J hM fun f0 ha H=>?_
 have H0:=dS H Th
 have H1:=dS H0 CV
 have ahU:=bf Th
 have ahT:=bf CV
 have i0:f0 0=R wa a v7:=ha 0 bh
 have i1:f0 1=R v8 b vZ:=ha 1 bh
 refine aB<|au (v:=.slice none 0 0) J J<|av<|sq<|aB<|ak J i0<|k<|dP J J ic<|ak J i1<|k<|dP J J ic<|k<|lss J J J J<|z<|nx<|cd (b:=decide ((a.length:Int)<(b.length:Int))) J J (fun b0=>?_)<|fun b0=>?_
 ·
  have p0:=dT b0
  refine rg<|ak J i1<|ak J i0<|au (v:=R v8 b vZ) J J<|au (v:=R wa a v7) J J<|bp<|ak (v:=R v8 b vZ) J J<|k ?_
  have bP:=C_ (r:=b) H1.mb (H1.rv 0 J) aq
  refine ca QO J (ec J e0) bP ?_
  rintro _ w0 ⟨a0,c0,rfl,bT,cq⟩
  have H2:=H1.eL cq
  refine au (v:=R a0 b c0) J J<|av<|sq<|aB<|ak (v:=R wa a v7) J J<|k<|dP J J ic<|ak (v:=C 0) J J<|av<|bk<|lp (fun m f w'=>∃(j:Nat) (xs:List bY),m=a.length-j∧f 5=R a0 b c0∧f 17=R wa a v7∧f 18=C (a.length:Int)∧f 19=C (j:Int)∧HI M w w' [own w.heap.size 151 (.slice a0 b.length c0) xs,iL v8 b vZ,iL wa a v7]∧(j≤a.length)∧(xs.length=b.length)∧(xs=pU b.length b a b j)) _ ⟨0,b,J,J,J,J,(bJ J),H2,aq,(by rfl),(by exact Cs _ _ _)⟩ ?_
  rintro _ f0 w1 ⟨j,xs,rfl,s0,s1,s2,s3,H3,hk,hl,hs⟩
  refine aB<|k<|lss J J s3 s2<|av<|sq<|cd (b:=decide ((j:Int)<(a.length:Int))) J J (fun b1=>?_)<|fun b1=>?_
  ·
   have p1:=dT b1
   refine sk<|nx<|sq<|bk<|aB<|ak J s3<|k<|ia (H3.rv 2 J) J J s1 s3 aq ic fl ?_
   intro iC x0 aP ct
   refine k<|yo ct.w fl J J<|au (v:=C (j:Int)) J J<|au (v:=aj x0) J J<|av<|rg<|ak J s0<|ak (v:=C (j:Int)) J J<|k<|ij (H3.at_ 0 J) J J J J aq ic fl ?_
   intro g0 x1 iq cP gL
   refine k<|yo gL fl J J<|ak (v:=aj x0) J J<|k<|Sl x1 x0 J J J J<|k<|ij (H3.at_ 0 J) J J J J aq ic fl ?_
   intro g1 x2 kG iA kR
   refine k<|pt H3 0 J kG J aq fl J J J J (RV.bv.2 J) ?_
   intro w2 (H4:HI M w w2 [own w.heap.size 151 (.slice a0 b.length c0) (xs.set ((j:Int).toNat) (x1 ||| x0)),iL v8 b vZ,iL wa a v7])
   refine z<|aJ<|nx<|rg<|k<|add J J s3 J aT<|ak (v:=C ((j:Int)+1)) J J<|z<|bB _ ?_ ⟨(j+1),(xs.set ((j:Int).toNat) (x1 ||| x0)),J,s0,s1,s2,(bJ J),H4,aq,(by simpa using hl),(by have e1:=AV (hs▸cP);have e2:=wG aP;rw[hs];exact E_ (by rw[e1];unfold sY;rw[e2]))⟩
   omega
  have p1:=dF b1
  refine ex<|aW<|bc<|bg<|cO<|ak J s0<|au (v:=R a0 b c0) J J<|av<|rt<|r1 J J ?_
  have e0:(xs:List bY)=jE a b:=by rw[hs];first|exact xb aq (fun i h1 h2=>yd aq)|(rw[Lm];exact xb aq (fun i h1 h2=>yd aq))
  have l0:b.length=(jE a b).length:=by rw[←e0];omega
  have bo:=iB (fun (uT:Nat)=>(.slice a0 uT c0:Value)) l0
  exact⟨a0,c0,bo,H3.below,(ani (fun (n_:Nat)=>bj _ _ _ (jE a b) (.slice a0 n_ c0) _) l0).mp ((ani (fun (x_:List bY)=>bj _ _ _ x_ (.slice a0 b.length c0) _) e0).mp (H3.df 0 J))⟩
 have p0:=dF b0
 refine sk<|cO<|ak J i0<|k ?_
 have bP:=C_ (r:=a) H1.mb (H1.rv 1 J) aq
 refine ca QO J (ec J e0) bP ?_
 rintro _ w0 ⟨a0,c0,rfl,bT,cq⟩
 have H2:=H1.eL cq
 refine au (v:=R a0 a c0) J J<|av<|sq<|aB<|ak J i1<|k<|dP J J ic<|ak (v:=C 0) J J<|av<|bk<|lp (fun m f w'=>∃(j:Nat) (xs:List bY),m=b.length-j∧f 5=R a0 a c0∧f 17=R v8 b vZ∧f 18=C (b.length:Int)∧f 19=C (j:Int)∧HI M w w' [own w.heap.size 151 (.slice a0 a.length c0) xs,iL v8 b vZ,iL wa a v7]∧(j≤b.length)∧(xs.length=a.length)∧(xs=pU a.length a b a j)) _ ⟨0,a,J,J,J,J,(bJ J),H2,aq,(by rfl),(by exact Cs _ _ _)⟩ ?_
 rintro _ f0 w1 ⟨j,xs,rfl,s0,s1,s2,s3,H3,hk,hl,hs⟩
 refine aB<|k<|lss J J s3 s2<|av<|sq<|cd (b:=decide ((j:Int)<(b.length:Int))) J J (fun b1=>?_)<|fun b1=>?_
 ·
  have p1:=dT b1
  refine sk<|nx<|sq<|bk<|aB<|ak J s3<|k<|ia (H3.rv 1 J) J J s1 s3 aq ic fl ?_
  intro iC x0 aP ct
  refine k<|yo ct.w fl J J<|au (v:=C (j:Int)) J J<|au (v:=aj x0) J J<|av<|rg<|ak J s0<|ak (v:=C (j:Int)) J J<|k<|ij (H3.at_ 0 J) J J J J aq ic fl ?_
  intro g0 x1 iq cP gL
  refine k<|yo gL fl J J<|ak (v:=aj x0) J J<|k<|Sl x1 x0 J J J J<|k<|ij (H3.at_ 0 J) J J J J aq ic fl ?_
  intro g1 x2 kG iA kR
  refine k<|pt H3 0 J kG J aq fl J J J J (RV.bv.2 J) ?_
  intro w2 (H4:HI M w w2 [own w.heap.size 151 (.slice a0 a.length c0) (xs.set ((j:Int).toNat) (x1 ||| x0)),iL v8 b vZ,iL wa a v7])
  refine z<|aJ<|nx<|rg<|k<|add J J s3 J aT<|ak (v:=C ((j:Int)+1)) J J<|z<|bB _ ?_ ⟨(j+1),(xs.set ((j:Int).toNat) (x1 ||| x0)),J,s0,s1,s2,(bJ J),H4,aq,(by simpa using hl),(by have e1:=AV (hs▸cP);have e2:=wG aP;rw[hs];exact E_ (by rw[e1];unfold sY;rw[e2]))⟩
  omega
 have p1:=dF b1
 refine ex<|aW<|bc<|bg<|cO<|ak J s0<|au (v:=R a0 a c0) J J<|av<|rt<|r1 J J ?_
 have e0:(xs:List bY)=jE a b:=by rw[hs];first|exact xb aq (fun i h1 h2=>yd aq)|(rw[Lm];exact xb aq (fun i h1 h2=>yd aq))
 have l0:a.length=(jE a b).length:=by rw[←e0];omega
 have bo:=iB (fun (uT:Nat)=>(.slice a0 uT c0:Value)) l0
 exact⟨a0,c0,bo,H3.below,(ani (fun (n_:Nat)=>bj _ _ _ (jE a b) (.slice a0 n_ c0) _) l0).mp ((ani (fun (x_:List bY)=>bj _ _ _ x_ (.slice a0 a.length c0) _) e0).mp (H3.df 0 J))⟩
theorem tZ {r:List bY} (hM:eG M w) (hT:fP 0 w) (pE:cA M w jH jV r) (V3:r.length≤1000000000):Calls aK 89 #[R jH r jV] w (cg fun v w'=>∃(a0:OA) (c0:Nat),v=.slice a0 (cV r).length c0∧Ext w w'∧bj M 3 w (cV r) (.slice a0 (cV r).length c0) w'):=by
 refine dm 29 Tryz.func89 J J J hM fun f0 ha H=>?_
 have H0:=dS H pE
 have VK:=bf pE
 have i0:f0 0=R jH r jV:=ha 0 bh
 refine aB<|au (v:=.slice none 0 0) J J<|bp<|au (v:=.slice none 0 0) J J<|av<|sq<|aB<|ak J i0<|k<|dP J J ic<|ak (v:=C 0) J J<|av<|bk ?_
 have H1:=H0.rl Int 3
 refine lp (fun m f w'=>∃(j:Nat) (xs:List Int) (a0:OA) (c0:Nat),m=r.length-j∧f 3=R a0 xs c0∧f 6=R jH r jV∧f 7=C (r.length:Int)∧f 8=C (j:Int)∧HI M w w' [oL w 3 a0 xs c0,iL jH r jV]∧(j≤r.length)∧(xs=rz r j)) _ ⟨0,([]:List Int),none,0,J,J,J,J,(bJ J),H1,aq,(by rfl)⟩ ?_
 rintro _ f0 w0 ⟨j,xs,a0,c0,rfl,s0,s1,s2,s3,H2,hk,hs⟩
 refine aB<|k<|lss J J s3 s2<|av<|sq<|cd (b:=decide ((j:Int)<(r.length:Int))) J J (fun b0=>?_)<|fun b0=>?_
 ·
  have p0:=dT b0
  refine sk<|nx<|sq<|bk<|aB<|ak J s3<|k<|ia (H2.rv 1 J) J J s1 s3 aq ic fl ?_
  intro iC x0 aP ct
  refine k<|yo ct.w fl J J<|au (v:=C (j:Int)) J J<|au (v:=aj x0) J J<|av<|bk<|lp (fun m f w'=>∃(y:bY) (ys:List Int) (a1:OA) (c1:Nat),m=(oA y).length∧f 3=R a1 ys c1∧f 4=C (j:Int)∧f 5=aj y∧f 6=R jH r jV∧f 7=C (r.length:Int)∧f 8=C (j:Int)∧HI M w w' [oL w 3 a1 ys c1,iL jH r jV]∧(ys++p9 j y=rz r j++p9 j x0)) _ ⟨x0,xs,a0,c0,J,s0,J,(NW J<|by rfl),s1,s2,s3,H2,(by rw[hs])⟩ ?_
  rintro _ f1 w1 ⟨y,ys,a1,c1,rfl,s4,s5,s6,s7,s8,s9,H3,hy⟩
  refine sq<|aB<|ak J s6<|k<|neU y (0#64) J J J J<|z<|nx<|cd (b:=!decide (y=(0#64))) J J (fun b1=>?_)<|fun b1=>?_
  ·
   have p1:=dF<|fX b1
   refine sk<|nx<|sq<|bk<|rg<|ak J s4<|ak J s5<|k<|mul J J J J (by have h_:=yI y;unfold aM;omega)<|ak J s6<|k ?_
   have bP:=Px (x:=y) (w:=w1)<|hT.ext H3.below
   refine ca afN J (ec J e0) bP ?_
   rintro _ w2 ⟨rfl,bT⟩
   have H4:=H3.ext bT
   refine k<|add J J J J (by have h_:=yI y;unfold aM;omega)<|k<|bs (xs:=([((j:Int)*64)+((fC y:Nat):Int)]:List Int)) (cells:=#[C (((j:Int)*64)+((fC y:Nat):Int))]) (e:=3) H4 J (cj J eh) (fun _=>aC) ⟨[C (((j:Int)*64)+((fC y:Nat):Int))],[],J,⟨J,(show aM (((j:Int)*64)+((fC y:Nat):Int)) from(by have h_:=yI y;unfold aM;omega))⟩,J⟩ J aw ?_
   intro g0 w3 da H5
   refine k<|lA H5 1 J J J J J J (gP<|H5.at_ 0 J) cK aV J (by have h_:=ani List.length hy;simp only[fA] at h_;have h1:=vG r j;have h2:=CF j x0;simp only[iM,gr];omega) J ?_
   intro a2 c2 w4 (H6:HI M w w4 [own w.heap.size 3 (.slice (some ⟨g0,0,none⟩) 1 1) ([((j:Int)*64)+((fC y:Nat):Int)]:List Int),oL w 3 a2 (ys++([((j:Int)*64)+((fC y:Nat):Int)]:List Int)) c2,iL jH r jV])
   refine au (v:=R a2 (ys++([((j:Int)*64)+((fC y:Nat):Int)]:List Int)) c2) J J<|z<|aJ<|nx<|rg<|ak J s6<|ak J s6<|k<|aa9 y (1#64) J J J J<|k<|Df y (y-(1#64)) J J J J<|au (v:=aj (y &&& (y-(1#64)))) J J<|z ?_
   have H7:HI M w w4 [oL w 3 a2 (ys++([((j:Int)*64)+((fC y:Nat):Int)]:List Int)) c2,iL jH r jV]:=H6.bU [1,2] aw rfl
   refine bB _ ?_ ⟨(y &&& (y-(1#64))),(ys++([((j:Int)*64)+((fC y:Nat):Int)]:List Int)),a2,c2,J,J,s5,(NW J<|by rfl),s7,s8,s9,H7,(by rw[anU,←hy,Ql (show y≠0#64 by simpa using p1)];rfl)⟩
   exact Q5<|by simpa using p1
  have p1:=dT<|eY b1
  refine ex<|aW<|bc<|bg<|aJ<|nx<|rg<|k<|add J J s9 J (by have h_:=yI y;unfold aM;omega)<|ak (v:=C ((j:Int)+1)) J J<|z<|bB _ ?_ ⟨(j+1),ys,a1,c1,J,s4,s7,s8,(bJ J),H3,aq,(by rw[y_,wG aP];have e_:y=0#64:=(by simpa using p1);subst e_;rw[Qk,aoT] at hy;exact hy)⟩
  omega
 have p0:=dF b0
 refine ex<|aW<|bc<|bg<|cO<|ak J s0<|au (v:=R a0 xs c0) J J<|av<|rt<|r1 J J ?_
 have e0:(xs:List Int)=cV r:=by rw[hs];unfold cV;congr 1;omega
 have bo:=iB (fun (bW:List Int)=>(.slice a0 bW.length c0:Value)) e0
 exact⟨a0,c0,bo,H2.below,(ani (fun (x_:List Int)=>bj _ _ _ x_ (.slice a0 x_.length c0) _) e0).mp (H2.df 0 J)⟩
theorem Yx:cu aK 141:=⟨_,_,Tryz.func141,rfl,aC⟩
theorem kK:gO aK 122 0 0:=⟨_,_,Tryz.underlying122,rfl,rfl,aC⟩
theorem QR:cu aK 105:=⟨_,_,Tryz.func105,rfl,aC⟩
theorem mM:gO aK 122 1 1:=⟨_,_,Tryz.underlying122,rfl,rfl,aC⟩
theorem sA:gO aK 122 2 2:=⟨_,_,Tryz.underlying122,rfl,rfl,aC⟩
theorem afZ:cu aK 104:=⟨_,_,Tryz.func104,rfl,aC⟩
theorem Jt (ada:aM n1):Calls aK 141 #[C n1] w (cg fun v w'=>v=.bool false∧Ext w w'):=by
 refine dm 6 Tryz.func141 J J J py fun f0 ha H=>?_
 have i0:f0 0=C n1:=ha 0 bh
 refine aB<|au (v:=.bool false) J J<|bp<|ak J i0<|ak J i0<|k<|neq J J J J<|au (v:=.bool (!decide (n1=n1))) J J<|av<|rt<|r1 J J ?_
 exact⟨ani Value.bool bh,H.below⟩
theorem zj {n2:Int} (ada:aM n1) (aiu:aM n2):Calls aK 105 #[C n1,C n2] w (cg fun v w'=>v=C (fD n1 n2)∧Ext w w'):=by
 refine dm 20 Tryz.func105 J J J py fun f0 ha H=>?_
 have i0:f0 0=C n1:=ha 0 bh
 have i1:f0 1=C n2:=ha 1 bh
 refine aB<|au (v:=C 0) J J<|bp<|ak J i0<|k ?_
 have bP:=Jt (n1:=n1) (w:=w) ada
 refine ca Yx J (ec J e0) bP ?_
 rintro _ w0 ⟨rfl,bT⟩
 have H0:=H.ext bT
 refine au (v:=.bool false) J J<|bp<|ak J i1<|k ?_
 have cS:=Jt (n1:=n2) (w:=w0) aiu
 refine ca Yx J (ec J e0) cS ?_
 rintro _ w1 ⟨rfl,da⟩
 have H1:=H0.ext da
 refine au (v:=.bool false) J J<|av<|sq<|aB<|ak (v:=.bool false) J J<|av<|oQ J J J<|sk<|nx<|sq<|aB<|ak (v:=.bool false) J J<|av<|oQ J J J<|sk<|nx<|sq<|aB<|ak J i0<|ak J i1<|k<|lss J J J J<|z<|nx<|cd (b:=decide (n1<n2)) J J (fun b0=>?_)<|fun b0=>?_
 ·
  refine aB<|au (v:=C (-1)) J J<|av<|rt<|aL<|r1 J J ?_
  exact⟨ani (Value.int .i64) (by simp only[fD,b0,BL]),H1.below⟩
 refine sk<|nx<|sq<|aB<|ak J i0<|ak J i1<|k<|gtr J J J J<|z<|nx<|cd (b:=decide (n2<n1)) J J (fun b1=>?_)<|fun b1=>?_
 ·
  refine aB<|au (v:=C 1) J J<|av<|rt<|aL<|r1 J J ?_
  exact⟨ani (Value.int .i64) (by simp only[fD,b0,b1,BL]),H1.below⟩
 refine sk<|cO<|au (v:=C 0) J J<|av<|rt<|r1 J J ?_
 exact⟨ani (Value.int .i64) (by simp only[fD,b0,b1,BL]),H1.below⟩
theorem adU (hM:eG M w) (xA:cA M w mh mJ l):Calls aK 104 #[R mh l mJ] w (cg fun v w'=>v=C (Ct l)∧Ext w w'):=by
 refine dm 18 Tryz.func104 J J J hM fun f0 ha H=>?_
 have H0:=dS H xA
 have abX:=bf xA
 have i0:f0 0=R mh l mJ:=ha 0 bh
 refine aB<|au (v:=C 0) J J<|bp<|au (v:=C 0) J J<|av<|sq<|aB<|ak J i0<|k<|dP J J cK<|ak (v:=C 0) J J<|av<|bk<|lp (fun m f w'=>∃(j_:Nat),m=l.length-j_∧f 3=C 0∧f 6=R mh l mJ∧f 7=C (l.length:Int)∧f 8=C (j_:Int)∧HI M w w' [iL mh l mJ]∧(j_≤l.length)∧(∀y∈l.take j_,y=0)) _ ⟨0,J,J,J,J,(bJ J),H0,aq,bh⟩ ?_
 rintro _ f0 w0 ⟨j_,rfl,s0,s1,s2,s3,H1,pB,hs⟩
 refine aB<|k<|lss J J s3 s2<|av<|sq<|cd (b:=decide ((j_:Int)<(l.length:Int))) J J (fun b0=>?_)<|fun b0=>?_
 ·
  have p0:=dT b0
  refine sk<|nx<|sq<|bk<|aB<|k<|ia (H1.rv 0 J) J J s1 s3 aq cK aV ?_
  intro iC x0 aP ct
  refine k<|mV ct.w aV J J ?_
  intro cq
  refine au (v:=C x0) J J<|bp<|ak (v:=C x0) J J<|ak J s0<|k<|neq J J J J<|z<|nx<|cd (b:=!decide (x0=0)) J J (fun b1=>?_)<|fun b1=>?_
  ·
   have p1:=dF<|fX b1
   refine aB<|ak (v:=C x0) J J<|au (v:=C x0) J J<|av<|rt<|bQ<|aL<|dU<|bQ<|aL<|r1 J J ?_
   exact⟨ani (Value.int .i64) (by exact(Oi hs (by rw[dv] at aP;exact aP)<|by simpa using b1).symm),H1.below⟩
  have p1:=dT<|eY b1
  refine sk<|aJ<|nx<|rg<|k<|add J J s3 J aT<|ak (v:=C ((j_:Int)+1)) J J<|z<|bB _ ?_ ⟨(j_+1),J,s0,s1,s2,(bJ J),H1,aq,(by exact Y7 hs aP (by simpa using b1))⟩
  omega
 have p0:=dF b0
 refine ex<|aW<|bc<|bg<|cO<|ak J s0<|au (v:=C 0) J J<|av<|rt<|r1 J J ?_
 exact⟨ani (Value.int .i64) (by exact(Lo<|by rw[ant aq] at hs;exact hs).symm),H1.below⟩
theorem Mz (Bf:aM ft) (DM:aM fy) (Be:aM gE) (Yo:aM mI) (Yn:aM mH) (Ym:aM nj):Calls aK 103 #[.agg #[C ft,C fy,C gE],.agg #[C mI,C mH,C nj]] w (cg fun v w'=>v=C (xK (ft,fy,gE) (mI,mH,nj))∧Ext w w'):=by
 refine dm 22 Tryz.func103 J J J py fun f0 ha H=>?_
 have i0:f0 0=.agg #[C ft,C fy,C gE]:=ha 0 bh
 have i1:f0 1=.agg #[C mI,C mH,C nj]:=ha 1 bh
 refine aB<|k<|bx H J i0 ?_
 intro aX w0 bT (H0:HI (fun _=>False) w w0 [box aX #[C ft,C fy,C gE] 122])
 refine k<|bx H0 J i1 ?_
 intro aZ w1 da (H1:HI (fun _=>False) w w1 [box aZ #[C mI,C mH,C nj] 122,box aX #[C ft,C fy,C gE] 122])
 refine au (v:=C 0) J J<|av<|sq<|TU J aC<|xq J<|kq (fun _ _=>fa kK J J e1)<|zq<|xq J<|kq (fun _ x_=>lx (H1.ext x_) 1 J aV J J J e1)<|zq<|xq J<|kq (fun _ _=>fa kK J J e1)<|zq<|xq J<|kq (fun _ x_=>lx (H1.ext x_) 0 J aV J J J e1)<|zq<|xq J<|kq (v:=C (fD ft mI)) (fun v_ x_=>?_) ?_
 ·
  have cc:=zj (n1:=ft) (n2:=mI) (w:=v_) Bf Yo
  exact ca QR J (ec J<|ec J e0) cc fun _ _ h_=>e2 h_
 refine zq<|xq J<|kq (fun _ _=>fa mM J J e1)<|zq<|xq J<|kq (fun _ x_=>lx (H1.ext x_) 1 J aV J J J e1)<|zq<|xq J<|kq (fun _ _=>fa mM J J e1)<|zq<|xq J<|kq (fun _ x_=>lx (H1.ext x_) 0 J aV J J J e1)<|zq<|xq J<|kq (v:=C (fD fy mH)) (fun v_ x_=>?_) ?_
 ·
  have cc:=zj (n1:=fy) (n2:=mH) (w:=v_) DM Yn
  exact ca QR J (ec J<|ec J e0) cc fun _ _ h_=>e2 h_
 refine zq<|xq J<|kq (fun _ _=>fa sA J J e1)<|zq<|xq J<|kq (fun _ x_=>lx (H1.ext x_) 1 J aV J J J e1)<|zq<|xq J<|kq (fun _ _=>fa sA J J e1)<|zq<|xq J<|kq (fun _ x_=>lx (H1.ext x_) 0 J aV J J J e1)<|zq<|xq J<|kq (v:=C (fD gE nj)) (fun v_ x_=>?_) ?_
 ·
  have cc:=zj (n1:=gE) (n2:=nj) (w:=v_) Be Ym
  exact ca QR J (ec J<|ec J e0) cc fun _ _ h_=>e2 h_
 refine zq<|xu (fun v w'=>∃(a0:OA) (c0:Nat),v=R a0 ([fD ft mI,fD fy mH,fD gE nj]:List Int) c0∧RV H1.fV w' (R a0 ([fD ft mI,fD fy mH,fD gE nj]:List Int) c0) ([fD ft mI,fD fy mH,fD gE nj]:List Int)) J (by rintro _ _ _ x_ ⟨a0,c0,e_,cq⟩;exact⟨a0,c0,e_,cq.lift (Up.ext x_)⟩) J (fun v_ x_=>?_) ?_
 ·
  have H4:=H1.ext x_
  refine bs (xs:=([fD ft mI,fD fy mH,fD gE nj]:List Int)) (cells:=#[C (fD ft mI),C (fD fy mH),C (fD gE nj)]) (e:=3) H4 J (cj J<|cj J<|cj J eh) (fun _=>aC) ⟨[C (fD ft mI)],[C (fD fy mH),C (fD gE nj)],J,⟨J,(show aM (fD ft mI) from(by exact FH _ _))⟩,⟨[C (fD fy mH)],[C (fD gE nj)],J,⟨J,(show aM (fD fy mH) from(by exact FH _ _))⟩,⟨[C (fD gE nj)],[],J,⟨J,(show aM (fD gE nj) from(by exact FH _ _))⟩,J⟩⟩⟩ J aw ?_
  intro g1 w3 fH (H5:HI (fun _=>False) w w3 [own w.heap.size 3 (.slice (some ⟨g1,0,none⟩) 3 3) ([fD ft mI,fD fy mH,fD gE nj]:List Int),box aZ #[C mI,C mH,C nj] 122,box aX #[C ft,C fy,C gE] 122])
  have H6:=H5.freeze 0 J
  exact⟨_,J,fH,⟨(some ⟨g1,0,none⟩),3,J,(mK J<|H6.rv 0 J)⟩⟩
 refine xk1 (X:=C (Ct ([fD ft mI,fD fy mH,fD gE nj]:List Int))) 0 J J (fun v_ _ x_ h_=>let ⟨a2,c2,s0,dY⟩:=h_;have H9:=(H1.ext x_).put (it:=iL a2 ([fD ft mI,fD fy mH,fD gE nj]:List Int) c2) rfl dY;have cc:=adU (l:=([fD ft mI,fD fy mH,fD gE nj]:List Int)) H9.mb (H9.rv 0 J);ca afZ rfl (ec s0 e0) cc fun _ _ h_=>e2 h_)<|xq J<|kq (fun _ _=>jG (v:=C (Ct ([fD ft mI,fD fy mH,fD gE nj]:List Int))) J J e1)<|zq<|zx ?_
 intro w5 f0 ji cB iN
 have dH:=H1.ext ji
 have s1:=cB 4 J
 refine nx<|rt<|r1 J J ?_
 rw[s1]
 exact⟨ani (Value.int .i64) (show (Ct ([fD ft mI,fD fy mH,fD gE nj]:List Int))=(xK (ft,fy,gE) (mI,mH,nj)) from rfl),dH.below⟩
set_option maxRecDepth 100000 in
set_option maxHeartbeats 1600000 in
def Nj:Go.Shelf.Ren:=⟨fun|6=>102|15=>140|14=>139|28=>166|29=>167|20=>158|21=>159|22=>160|23=>161|24=>162|25=>163|26=>164|27=>165|46=>179|47=>180|48=>181|49=>182|50=>183|57=>191|n=>n,fun|22=>119|24=>122|25=>159|3=>3|39=>152|0=>0|53=>214|55=>151|4=>4|46=>208|45=>207|50=>86|5=>5|9=>9|66=>228|70=>232|76=>241|77=>242|n=>n,fun|n=>n⟩
theorem N1:Go.Proofs.SlLaysF0.n6 aK Nj:={
  mixed:=aC
  f6:=⟨Tryz.f102.name,by decide,Tryz.func102.trans (ani some aC)⟩
  f14:=⟨Tryz.f139.name,by decide,Tryz.func139.trans (ani some aC)⟩
  f15:=Tryz.func140.trans (ani some aC)
  f20:=⟨Tryz.f158.name,by decide,Tryz.func158.trans (ani some aC)⟩
  f21:=⟨Tryz.f159.name,by decide,Tryz.func159.trans (ani some aC)⟩
  f22:=⟨Tryz.f160.name,by decide,Tryz.func160.trans (ani some aC)⟩
  f23:=⟨Tryz.f161.name,by decide,Tryz.func161.trans (ani some aC)⟩
  f24:=⟨Tryz.f162.name,by decide,Tryz.func162.trans (ani some aC)⟩
  f25:=⟨Tryz.f163.name,by decide,Tryz.func163.trans (ani some aC)⟩
  f26:=⟨Tryz.f164.name,by decide,Tryz.func164.trans (ani some aC)⟩
  f27:=⟨Tryz.f165.name,by decide,Tryz.func165.trans (ani some aC)⟩
  f28:=Tryz.func166.trans (ani some aC)
  f29:=Tryz.func167.trans (ani some aC)
  f46:=⟨Tryz.f179.name,by decide,Tryz.func179.trans (ani some aC)⟩
  f47:=Tryz.func180.trans (ani some aC)
  f48:=Tryz.func181.trans (ani some aC)
  f49:=⟨Tryz.f182.name,by decide,Tryz.func182.trans (ani some aC)⟩
  f50:=⟨Tryz.f183.name,by decide,Tryz.func183.trans (ani some aC)⟩
  f57:=⟨Tryz.f191.name,by decide,Tryz.func191.trans (ani some aC)⟩
  t0:=Tryz.underlying0
  a0:=Tryz.isAgg0
  z0:=Tryz.sizeOf0
  v0:=Tryz.zeroValue0
  t3:=Tryz.underlying3
  a3:=Tryz.isAgg3
  z3:=Tryz.sizeOf3
  v3:=Tryz.zeroValue3
  t4:=Tryz.underlying4
  a4:=Tryz.isAgg4
  z4:=Tryz.sizeOf4
  v4:=Tryz.zeroValue4
  t5:=Tryz.underlying5
  a5:=Tryz.isAgg5
  z5:=Tryz.sizeOf5
  v5:=Tryz.zeroValue5
  t9:=Tryz.underlying9
  a9:=Tryz.isAgg9
  z9:=Tryz.sizeOf9
  v9:=Tryz.zeroValue9
  t22:=Tryz.underlying119
  a22:=Tryz.isAgg119
  z22:=Tryz.sizeOf119
  v22:=Tryz.zeroValue119
  t25:=Tryz.underlying159
  a25:=Tryz.isAgg159
  z25:=Tryz.sizeOf159
  v25:=Tryz.zeroValue159
  t39:=Tryz.underlying152
  a39:=Tryz.isAgg152
  z39:=Tryz.sizeOf152
  v39:=Tryz.zeroValue152
  t45:=Tryz.underlying207
  a45:=Tryz.isAgg207
  z45:=Tryz.sizeOf207
  v45:=Tryz.zeroValue207
  t46:=Tryz.underlying208
  a46:=Tryz.isAgg208
  z46:=Tryz.sizeOf208
  v46:=Tryz.zeroValue208
  t50:=Tryz.underlying86
  a50:=Tryz.isAgg86
  z50:=Tryz.sizeOf86
  v50:=Tryz.zeroValue86
  t53:=Tryz.underlying214
  a53:=Tryz.isAgg214
  z53:=Tryz.sizeOf214
  v53:=Tryz.zeroValue214
  t55:=Tryz.underlying151
  a55:=Tryz.isAgg151
  z55:=Tryz.sizeOf151
  v55:=Tryz.zeroValue151
  t66:=Tryz.underlying228
  a66:=Tryz.isAgg228
  z66:=Tryz.sizeOf228
  v66:=Tryz.zeroValue228
  t70:=Tryz.underlying232
  a70:=Tryz.isAgg232
  z70:=Tryz.sizeOf232
  v70:=Tryz.zeroValue232
  t76:=Tryz.underlying241
  a76:=Tryz.isAgg241
  z76:=Tryz.sizeOf241
  v76:=Tryz.zeroValue241
  t77:=Tryz.underlying242
  a77:=Tryz.isAgg242
  z77:=Tryz.sizeOf242
  v77:=Tryz.zeroValue242}
theorem RC (jC off size:Nat) (w:World):Go.Proofs.CmpLays aK 103 #[] Q0 3 (fun x y:BX=>xK x.1 y.1) jC off size w:=by
  intro m os dk _ x y
  obtain⟨⟨a1,a2,a3⟩,h1,h2,h3⟩:=x
  obtain⟨⟨b1,b2,b3⟩,k1,k2,k3⟩:=y
  refine(Mz h1 h2 h3 k1 k2 k3).mono ?_
  intro e w' h_
  unfold cg at h_
  obtain⟨v,rfl,rfl,hx⟩:=h_
  exact⟨J,hx.grow⟩
theorem RD {dR:Option Addr} {xs:List dX} (hl:xs.length≤4611686018427387903) (H:HI M w w_ ([own w.heap.size 122 (.slice dR xs.length dJ) xs]++r)):
    Calls aK 102 #[.slice dR xs.length dJ,.func (.func 103) #[] #[]] w_ (cg fun v w'=>v=.tuple #[]∧HI M w w' ([own w.heap.size 122 (.slice dR xs.length dJ) (wc xs)]++r)):=by
  have H0:=H.all _ (dB (i:=0) J)
  obtain⟨cs,⟨hn,ho⟩,hc⟩:=H0
  rcases ho with ⟨ho,h0⟩|⟨g,cap,cur,ho, -⟩
  · have hx:xs=[]:=aok.1 h0
    subst hx
    cases ho
    refine(Go.Proofs.AnyF.slices_SortFunc_none N1 none 0 _ w_).mono ?_
    rintro e w' ⟨rfl,rfl⟩
    unfold cg
    exact⟨_,J,J,by rw[RE];exact H⟩
  cases ho
  obtain⟨bs,e0,hH,hb,hT⟩:=RB (i:=0) (val:=fun b:BX=>b.1) Wr H rfl
  have hn:xs.length=bs.toArray.size:=by rw[←e0];simp
  have eg:∀args w,(callFunc 103 args).run aK w=.ok (.enter 103 args) w:=enters_of Tryz.func103 aC rfl
  have h:=Go.Proofs.AnyQ.slices_SortFunc N1 3 Tryz.isAgg122 Tryz.sizeOf122 Q0 (fun _=>rfl) (fun x v hv=>by simp[Q0] at hv;rcases hv with rfl|rfl|rfl<;>rfl) (fun x y:BX=>xK x.1 y.1) aa8 103 #[] g 0 dJ bs.toArray w_ eg (RC _ _ _ _) hH hb<|by rw[←hn];omega
  rw[hn]
  refine h.mono ?_
  rintro e w' ⟨rfl,d',n,os,hp,hs,rfl⟩
  have e1:=Go.Sort.sorted_unique_holds aa8 ahE bs.toArray d' hp hs
  unfold cg
  refine⟨_,J,J,?_⟩
  have:=hT d'.toList n os<|by simpa using hp.1
  rw[←hn,←e0,RF,←e1,e0]
  exact this
theorem V9:cu aK 88:=⟨_,_,Tryz.func88,rfl,aC⟩
theorem ib:aK.underlying 24=some (.slice 144):=aC
theorem de:ei aK 144 1 false 24 (.slice none 0 0):=⟨aC,aC⟩
theorem kh:gO aK 26 0 0:=⟨_,_,Tryz.underlying26,rfl,rfl,aC⟩
theorem afH:cu aK 138:=⟨_,_,Tryz.func138,rfl,aC⟩
theorem afI:cu aK 137:=⟨_,_,Tryz.func137,rfl,aC⟩
theorem bm:ei aK 26 2 true 32 (.agg #[.int .i64 0,.slice none 0 0]):=⟨aC,aC⟩
theorem QG:cu aK 84:=⟨_,_,Tryz.func84,rfl,aC⟩
theorem YF:cu aK 101:=⟨_,_,Tryz.func101,rfl,aC⟩
theorem iw:gO aK 26 1 1:=⟨_,_,Tryz.underlying26,rfl,rfl,aC⟩
theorem kW:ei aK 24 1 false 24 (.slice none 0 0):=⟨aC,aC⟩
theorem afs:cu aK 178:=⟨_,_,Tryz.func178,rfl,aC⟩
theorem Ft:cu aK 86:=⟨_,_,Tryz.func86,rfl,aC⟩
theorem Mh:cu aK 85:=⟨_,_,Tryz.func85,rfl,aC⟩
theorem vH {r:List Int} (hM:eG M w) (pE:cA M w jH jV r) (Ae:FP aK qf qj M w r p):Calls aK 88 #[R jH r jV,.func (.func qf) #[] qj.toArray] w (cg fun v w'=>v=C (eA p r)∧Ext w w'):=by
 refine dm 19 Tryz.func88 J J J hM fun f0 ha H=>?_
 have H0:=dS H pE
 have VK:=bf pE
 have i0:f0 0=R jH r jV:=ha 0 bh
 have i1:f0 1=.func (.func qf) #[] qj.toArray:=ha 1 bh
 refine aB<|au (v:=C 0) J J<|av<|sq<|aB<|ak J i0<|k<|dP J J cK<|ak (v:=C 0) J J<|av<|bk<|lp (fun m f w'=>∃(j:Nat),m=r.length-j∧f 0=R jH r jV∧f 1=.func (.func qf) #[] qj.toArray∧f 7=C (r.length:Int)∧f 8=C (j:Int)∧HI M w w' [iL jH r jV]∧(j≤r.length)∧((r.take j).any p=false)) _ ⟨0,J,i0,i1,J,(bJ J),H0,aq,bh⟩ ?_
 rintro _ f0 w0 ⟨j,rfl,s0,s1,s2,s3,H1,hk,hs⟩
 refine aB<|k<|lss J J s3 s2<|av<|sq<|cd (b:=decide ((j:Int)<(r.length:Int))) J J (fun b0=>?_)<|fun b0=>?_
 ·
  have p0:=dT b0
  refine sk<|nx<|sq<|bk<|aB<|ak J s3<|au (v:=C (j:Int)) J J<|bp<|ak J s1<|ak J s0<|ak (v:=C (j:Int)) J J<|k<|ia (H1.rv 0 J) J J J J aq cK aV ?_
  intro iC x0 aP ct
  refine k<|mV ct.w aV J J ?_
  intro cq
  refine k<|cf Ae.1 J J J (ec J e0) (Ae.2 _ _ _ (by exact dB ‹_›) H1.below<|(RV.int.2 ⟨J,aT⟩).lift H1.out) ?_
  rintro _ w1 ⟨rfl,bT⟩
  have H2:=H1.ext bT
  refine z<|nx<|cd (b:=p x0) J J (fun b1=>?_)<|fun b1=>?_
  ·
   refine aB<|ak (v:=C (j:Int)) J J<|au (v:=C (j:Int)) J J<|av<|rt<|bQ<|aL<|dU<|bQ<|aL<|r1 J J ?_
   exact⟨ani (Value.int .i64) (by exact ue aP hs b1),H2.below⟩
  refine sk<|aJ<|nx<|rg<|k<|add J J s3 J aT<|ak (v:=C ((j:Int)+1)) J J<|z<|bB _ ?_ ⟨(j+1),J,s0,s1,s2,(bJ J),H2,aq,(by exact po aP hs b1)⟩
  omega
 have p0:=dF b0
 refine ex<|aW<|bc<|bg<|cO<|au (v:=C (-1)) J J<|av<|rt<|r1 J J ?_
 exact⟨ani (Value.int .i64) (by exact uX hs aq),H1.below⟩
theorem FF {r:List Int} (hM:eG M w) (pE:cA M w jH jV r) (Ae:FP aK qf qj M w r p):Calls aK 137 #[R jH r jV,.func (.func qf) #[] qj.toArray] w (cg fun v w'=>v=.bool (r.any p)∧Ext w w'):=by
 refine dm 9 Tryz.func137 J J J hM fun f0 ha H=>?_
 have H0:=dS H pE
 have i0:f0 0=R jH r jV:=ha 0 bh
 have i1:f0 1=.func (.func qf) #[] qj.toArray:=ha 1 bh
 refine aB<|au (v:=.bool false) J J<|bp<|ak J i0<|ak J i1<|k ?_
 have bP:=vH (r:=r) (p:=p) H0.mb (H0.rv 0 J)<|Ae.sub H0.below UB
 refine ca V9 J (ec J<|ec J e0) bP ?_
 rintro _ w0 ⟨rfl,bT⟩
 have H1:=H0.ext bT
 refine k<|geq J J J J<|au (v:=.bool (decide (0≤(eA p r)))) J J<|av<|rt<|r1 J J ?_
 exact⟨ani Value.bool (by exact uf),H1.below⟩
theorem Q4 {r:List (List bY)} (hM:eG M w) (pE:cA M w jH jV r) (V3:r.length≤1000000000):Calls aK 178 #[R jH r jV] w (cg fun v w'=>∃(a0:OA) (c0:Nat),v=R a0 r c0∧Ext w w'∧bj M 144 w r (R a0 r c0) w'):=by
 refine dm 8 Tryz.func178 J J J hM fun f0 ha H=>?_
 have H0:=dS H pE
 have i0:f0 0=R jH r jV:=ha 0 bh
 refine aB<|au (v:=.slice none 0 0) J J<|av<|sq<|aB<|ak J i0<|k<|TL J J J J ib<|z<|nx<|cd (b:=jH.isNone) J J (fun b0=>?_)<|fun b0=>?_
 ·
  refine aB<|au (v:=.slice none 0 0) J J<|av<|rt<|aL<|r1 J J ?_
  have e0:([]:List (List bY))=r:=by exact(HC pE b0).symm
  have bo:=iB (fun (bW:List (List bY))=>(.slice none bW.length 0:Value)) e0
  exact⟨none,0,bo,H0.below,(ani (fun (x_:List (List bY))=>bj _ _ _ x_ (.slice none x_.length 0) _) e0).mp (fN H0.below)⟩
 refine sk<|cO<|k<|bs (xs:=([]:List (List bY))) (cells:=#[]) (e:=144) H0 J eh (fun _=>aC) J J aw ?_
 intro g0 w0 bT H1
 refine ak J i0<|k<|lA H1 0 J J J J J J (H1.rv 1 J).src ib de J (by simp;omega) J ?_
 intro a0 c0 w1 (H2:HI M w w1 [oL w 144 a0 r c0,iL jH r jV])
 refine au (v:=R a0 r c0) J J<|av<|rt<|r1 J J ?_
 exact⟨a0,c0,J,H2.below,(H2.df 0 J)⟩
theorem ZR {a_u:OA} {n_u c_u:Nat} (hM:eG M w) (qH:aM i) (Mc:aM n) (CV:w.heap[xP]? =some (.cells #[C n,.slice a_u n_u c_u] Hv (0,0))∧¬M xP):Calls aK 138 #[C i,.pointer (some ⟨xP,0,none⟩)] w (cg fun v w'=>v=.bool (Cr n i)∧Ext w w'):=by
 refine dm 12 Tryz.func138 J J J hM fun f0 ha H=>?_
 have i0:f0 0=C i:=ha 0 bh
 have H0:=H.put (it:=ro xP #[C n,.slice a_u n_u c_u] Hv) J<|by rw[bN];exact CV
 have i1:f0 1=pV xP 0:=ha 1 bh
 refine aB<|au (v:=.bool false) J J<|bp<|ak J i0<|k<|lss J J J J<|ak (v:=.bool (decide (i<0))) J J ?_
 rcases bE (decide (i<0)) with b0|b0
 ·
  refine aO J J J b0<|aO J J J b0<|aO J J J b0<|aO J J J b0<|k<|aR J J J J b0 J<|au (v:=.bool true) J J<|av<|rt<|r1 J J ?_
  exact⟨ani Value.bool (by unfold Cr;simp[b0]),H0.below⟩
 refine aU J J J b0<|mv J i0<|aU J J J b0<|fa kh J i1<|aU J J J b0<|lr H0 0 J aV J J J<|aU J J J b0<|geq J J J J<|k<|cJ J J J J b0 J<|au (v:=.bool (decide (n≤i))) J J<|av<|rt<|r1 J J ?_
 exact⟨ani Value.bool (by unfold Cr;simp[b0]),H0.below⟩
theorem Sy {M3:OA} {Ly ME:Nat} (hM:eG M w) (fY:aM mn) (xA:cA M w mh mJ l):Calls aK 101 #[.agg #[C mn,.slice M3 Ly ME],R mh l mJ] w (cg fun v w'=>v=.bool (ko mn l)∧Ext w w'):=by
 refine dm 9 Tryz.func101 J J J hM fun f0 ha H=>?_
 have H0:=dS H xA
 have i0:f0 0=.agg #[C mn,.slice M3 Ly ME]:=ha 0 bh
 have i1:f0 1=R mh l mJ:=ha 1 bh
 refine aB<|k<|bx H0 J i0 ?_
 intro aX w0 bT (H1:HI M w w0 [box aX #[C mn,.slice M3 Ly ME] 26,iL mh l mJ])
 refine au (v:=.bool false) J J<|bp<|ak J i1<|k<|mf J<|k ?_
 have bP:=FF (r:=l) (p:=(fun (x_:Int)=>Cr mn x_)) H1.mb (H1.rv 1 J) ⟨afH,fun w_ v_ x_ th e_ Gw=>by have H_:=H1.ext e_;obtain⟨_,⟨rfl,cq⟩,rfl⟩:=Gw;exact ZR (n:=mn) (M:=fun _=>False) (fun _ h_=>h_.elim) cq aT ⟨H_.at_ 0 rfl,fun h_=>h_⟩⟩
 refine ca afI J (ec J<|ec J e0) bP ?_
 rintro _ w1 ⟨rfl,da⟩
 have H2:=H1.ext da
 refine k<|jI J J<|au (v:=.bool (!(l.any<|fun (x_:Int)=>Cr mn x_))) J J<|av<|rt<|r1 J J ?_
 exact⟨ani Value.bool (show (!(l.any<|fun (x_:Int)=>Cr mn x_))=(ko mn l) from rfl),H2.below⟩
theorem Oz (hM:eG M w) (Mc:aM n):Calls aK 121 #[C n] w (cg fun v w'=>∃(a0:OA) (c0:Nat),v=.tuple #[.agg #[C (ou n),.slice a0 (iK n).length c0],C (rN n)]∧Ext w w'∧bj M 144 w (iK n) (.slice a0 (iK n).length c0) w'):=by
 refine dm 29 Tryz.func121 J J J hM fun f0 ha H=>?_
 have i0:f0 0=C n:=ha 0 bh
 refine aB<|k<|al H bm ?_
 intro aX w0 bT (H0:HI M w w0 [box aX #[C 0,.slice none 0 0] 26])
 let J0:=box aX #[C 0,.slice none 0 0] 26
 refine au (v:=C 0) J J<|av<|sq<|aB<|ak J i0<|k<|lss J J J J<|ak (v:=.bool (decide (n<0))) J J ?_
 rcases bE (decide (n<0)) with b0|b0
 ·
  have p0:=dT b0
  refine aO J J J b0<|aO J J J b0<|k<|aR J J J J b0 J<|av<|nS J J J<|aB<|k<|bd (v:=.agg #[C 0,.slice none 0 0]) J eh (fun _=>aC)<|k<|bt H0 0 J bm J J J J J J J ?_
  intro w1 (H1:HI M w w1 [J0])
  refine au (v:=C 1) J J<|av<|rt<|aL<|im H1 0 J bm J J J J J aw ?_
  have e0:(0:Int)=ou n:=by exact(wC (zS.2 aq)).1.symm
  have e1:([]:List (List bY))=iK n:=by exact(wC (zS.2 aq)).2.1.symm
  have e2:(1:Int)=rN n:=by exact(wC (zS.2 aq)).2.2.symm
  have bo:=qN (fun (bW:Int) (dK:List (List bY)) (gA:Int)=>(.tuple #[.agg #[C bW,.slice none dK.length 0],C gA]:Value)) e0 e1 e2
  exact⟨none,0,bo,H1.below,(ani (fun (x_:List (List bY))=>bj _ _ _ x_ (.slice none x_.length 0) _) e1).mp (fN H1.below)⟩
 have p0:=dF b0
 refine aU J J J b0<|mv J i0<|aU J J J b0<|gtr J J J J<|k<|cJ J J J J b0 J<|z<|nx<|cd (b:=decide (4096<n)) J J (fun b1=>?_)<|fun b1=>?_
 ·
  have p1:=dT b1
  refine aB<|k<|bd (v:=.agg #[C 0,.slice none 0 0]) J eh (fun _=>aC)<|k<|bt H0 0 J bm J J J J J J J ?_
  intro w1 (H1:HI M w w1 [J0])
  refine au (v:=C 1) J J<|av<|rt<|aL<|im H1 0 J bm J J J J J aw ?_
  have e0:(0:Int)=ou n:=by exact(wC (zS.2 aq)).1.symm
  have e1:([]:List (List bY))=iK n:=by exact(wC (zS.2 aq)).2.1.symm
  have e2:(1:Int)=rN n:=by exact(wC (zS.2 aq)).2.2.symm
  have bo:=qN (fun (bW:Int) (dK:List (List bY)) (gA:Int)=>(.tuple #[.agg #[C bW,.slice none dK.length 0],C gA]:Value)) e0 e1 e2
  exact⟨none,0,bo,H1.below,(ani (fun (x_:List (List bY))=>bj _ _ _ x_ (.slice none x_.length 0) _) e1).mp (fN H1.below)⟩
 have p1:=dF b1
 refine sk<|cO<|ak J i0<|k ?_
 have n0:((n.toNat:Nat):Int)=n:=anX aq
 refine mk (m:=n.toNat) (zx:=([]:(List bY))) H0 J J (by rw[n0];exact rfl) (by rw[n0];exact rfl) ib de (fun _ _=>⟨_,J,Cc _ _⟩) aq aq ?_
 intro g0 w1 da (H1:HI M w w1 [own w.heap.size 144 (.slice (some ⟨g0,0,none⟩) n.toNat n.toNat) (List.replicate n.toNat ([]:(List bY))),J0])
 refine au (v:=.slice (some ⟨g0,0,none⟩) n.toNat n.toNat) J J<|av<|sq<|aB<|ak (v:=.slice (some ⟨g0,0,none⟩) n.toNat n.toNat) J J<|k<|dP J J ib<|ak (v:=C 0) J J<|av<|bk<|lp (fun m f w'=>∃(j:Nat) (xs:List (List bY)),m=n.toNat-j∧f 0=C n∧f 2=pV aX 0∧f 4=.slice (some ⟨g0,0,none⟩) n.toNat n.toNat∧f 16=C (n.toNat:Int)∧f 17=C (j:Int)∧HI M w w' [own w.heap.size 144 (.slice (some ⟨g0,0,none⟩) n.toNat n.toNat) xs,J0]∧(j≤n.toNat)∧(xs.length=n.toNat)∧(xs=ve n.toNat j (d_ n) [])) _ ⟨0,(List.replicate n.toNat ([]:(List bY))),J,i0,J,J,J,(bJ J),H1,aq,bh,(by exact NH _ _ _)⟩ ?_
 rintro _ f0 w2 ⟨j,xs,rfl,s0,s1,s2,s3,s4,H2,hk,hl,hs⟩
 refine aB<|k<|lss J J s4 s3<|av<|sq<|cd (b:=decide ((j:Int)<(n.toNat:Int))) J J (fun b2=>?_)<|fun b2=>?_
 ·
  have p2:=dT b2
  refine sk<|nx<|sq<|bk<|aB<|ak J s4<|au (v:=C (j:Int)) J J<|av<|rg<|ak J s2<|ak (v:=C (j:Int)) J J<|ak J s0<|k ?_
  have bP:=DC (n:=n) H2.mb Mc aq
  refine ca QG J (ec J e0) bP ?_
  rintro _ w3 ⟨a0,c0,rfl,eR,cq⟩
  have H3:=H2.eL cq
  refine k<|ij (H3.at_ 1 J) J J J J aq ib de ?_
  intro g1 x0 iq aP ct
  refine k ?_
  have H4:=H3.freeze 0 J
  refine pt H4 1 J iq J aq de J J J J (H4.rv 0 J) ?_
  let J1:=own w.heap.size 144 (.slice (some ⟨g0,0,none⟩) n.toNat n.toNat) (xs.set ((j:Int).toNat) (d_ n))
  intro w4 (H5:HI M w w4 [iL a0 (d_ n) c0,J1,J0])
  refine z<|aJ<|nx<|rg<|k<|add J J s4 J aT<|ak (v:=C ((j:Int)+1)) J J<|z ?_
  have H6:HI M w w4 [J1,J0]:=H5.bU [1,2] aw rfl
  refine bB _ ?_ ⟨(j+1),(xs.set ((j:Int).toNat) (d_ n)),J,s0,s1,s2,s3,(bJ J),H6,aq,(by simpa using hl),(by rw[hs];exact QY aq)⟩
  omega
 have p2:=dF b2
 refine ex<|aW<|bc<|bg<|cO<|ak J s0<|ak J s2<|k<|bd (v:=.agg #[C n,.slice (some ⟨g0,0,none⟩) n.toNat n.toNat]) J (cj J<|cj J eh) (fun _=>aC)<|k<|bt H2 1 J bm J J s1 J J J J ?_
 intro w3 (H3:HI M w w3 [own w.heap.size 144 (.slice (some ⟨g0,0,none⟩) n.toNat n.toNat) xs,box aX #[C n,.slice (some ⟨g0,0,none⟩) n.toNat n.toNat] 26])
 refine au (v:=C 0) J J<|av<|rt<|im H3 1 J bm J J J s1 J aw ?_
 have e0:(n:Int)=ou n:=by exact(xf (sh.2 aq)).1.symm
 have e1:(xs:List (List bY))=iK n:=by rw[(xf (sh.2 aq)).2.1,hs];exact QZ aq
 have l1:n.toNat=(iK n).length:=by rw[←e1];omega
 have e2:(0:Int)=rN n:=by exact(xf (sh.2 aq)).2.2.symm
 have bo:=qN (fun (bW:Int) (uS:Nat) (gA:Int)=>(.tuple #[.agg #[C bW,.slice (some ⟨g0,0,none⟩) uS n.toNat],C gA]:Value)) e0 l1 e2
 exact⟨(some ⟨g0,0,none⟩),n.toNat,bo,H3.below,(ani (fun (n_:Nat)=>bj _ _ _ (iK n) (.slice (some ⟨g0,0,none⟩) n_ n.toNat) _) l1).mp ((ani (fun (x_:List (List bY))=>bj _ _ _ x_ (.slice (some ⟨g0,0,none⟩) n.toNat n.toNat) _) e1).mp (H3.df 0 J))⟩
theorem ZS (hM:eG M w) (fY:aM mn) (gl:cA M w bA bz mr) (qH:aM i) (BP:aM j) (X0:((mr.length:Nat):Int)=mn) (Qr:∀x∈mr,x.length≤1000000000) (X9:mn≤4096):Calls aK 156 #[.agg #[C mn,R bA mr bz],C i,C j] w (cg fun v w'=>∃(a0:OA) (c0:Nat),v=.tuple #[.agg #[C (ie mn i j),.slice a0 (j2 mn mr i j).length c0],C (lC mn i j)]∧Ext w w'∧bj M 144 w (j2 mn mr i j) (.slice a0 (j2 mn mr i j).length c0) w'):=by
 refine dm 32 Tryz.func156 J J J hM fun f0 ha H=>?_
 let J0:=iL bA mr bz
 have H0:=H.put (it:=J0) J<|by rw[bN];exact gl
 have i0:f0 0=.agg #[C mn,R bA mr bz]:=ha 0 bh
 have i1:f0 1=C i:=ha 1 bh
 have i2:f0 2=C j:=ha 2 bh
 refine aB<|k<|bx H0 J i0 ?_
 intro aX w0 bT (H1:HI M w w0 [box aX #[C mn,R bA mr bz] 26,J0])
 let J1:=box aX #[C mn,R bA mr bz] 26
 refine k<|al H1 bm ?_
 intro aZ w1 da (H2:HI M w w1 [box aZ #[C 0,.slice none 0 0] 26,J1,J0])
 refine au (v:=C 0) J J<|av<|sq<|aB<|k<|cz H2 1 J bm J J aw J<|ak J i1<|ak J i2<|k<|bs (xs:=([i,j]:List Int)) (cells:=#[C i,C j]) (e:=3) H2 J (cj J<|cj J eh) (fun _=>aC) ⟨[C i],[C j],J,⟨J,qH⟩,⟨[C j],[],J,⟨J,BP⟩,J⟩⟩ J aw ?_
 intro g0 w2 eR H3
 refine k ?_
 have H4:=H3.freeze 0 J
 have bP:=Sy (mn:=mn) (l:=([i,j]:List Int)) (M3:=bA) (Ly:=mr.length) (ME:=bz) H4.mb fY<|H4.rv 0 J
 refine ca YF J (ec J<|ec J e0) bP ?_
 rintro _ w3 ⟨rfl,fH⟩
 have H5:=H3.ext fH
 refine k<|jI J J<|z<|nx<|cd (b:=!(ko mn ([i,j]:List Int))) J J (fun b0=>?_)<|fun b0=>?_
 ·
  refine sq ?_
  have hq:ko mn [i,j]=false:=by simpa using b0
  refine rg<|k<|bd (v:=.agg #[C 0,.slice none 0 0]) J eh (fun _=>aC)<|k<|bt H5 1 J bm J J J J J J J ?_
  intro w4 (H6:HI M w w4 [own w.heap.size 3 (.slice (some ⟨g0,0,none⟩) 2 2) ([i,j]:List Int),box aZ #[C 0,.slice none 0 0] 26,J1,J0])
  refine au (v:=C 1) J J<|av<|rt<|aL<|im H6 1 J bm J J J J J aw ?_
  have e0:(0:Int)=ie mn i j:=by exact(oB (rs:=mr) hq).1.symm
  have e1:([]:List (List bY))=j2 mn mr i j:=by exact(oB (rs:=mr) hq).2.1.symm
  have e2:(1:Int)=lC mn i j:=by exact(oB (rs:=mr) hq).2.2.symm
  have bo:=qN (fun (bW:Int) (dK:List (List bY)) (gA:Int)=>(.tuple #[.agg #[C bW,.slice none dK.length 0],C gA]:Value)) e0 e1 e2
  exact⟨none,0,bo,H6.below,(ani (fun (x_:List (List bY))=>bj _ _ _ x_ (.slice none x_.length 0) _) e1).mp (fN H6.below)⟩
 refine sk<|nx<|sq ?_
 have hq:ko mn [i,j]=true:=by simpa using b0
 have hr:=jh.1 hq
 refine rg<|aS iw J J<|bl H5 2 J kW J J J<|k ?_
 have cS:=Q4 (r:=mr) H5.mb (H5.rv 3 J) aq
 refine ca afs J (ec J e0) cS ?_
 rintro _ w4 ⟨a0,c0,rfl,ja,cq⟩
 have H6:=H5.eL cq
 refine au (v:=R a0 mr c0) J J<|bp<|ak (v:=R a0 mr c0) J J<|ak J i1<|ak (v:=R a0 mr c0) J J<|ak J i1<|k<|ij (H6.at_ 0 J) J J J J aq ib de ?_
 intro g1 x0 iq aP ct
 refine k<|te ct de J J ?_
 intro a1 c1 dZ
 have H7:=dS H6 dZ
 refine ak J i2<|k ?_
 have fS:=tY (r:=x0) (i:=j) H7.mb (H7.rv 0 J) BP<|by exact Qr _ (dB aP)
 refine ca Ft J (ec J<|ec J e0) fS ?_
 rintro _ w5 ⟨a2,c2,rfl,ji,dY⟩
 have H8:=H7.eL dY
 refine k<|ij (H8.at_ 2 J) J J J J aq ib de ?_
 intro g2 x1 kG cP gL
 refine k ?_
 have H9:=H8.freeze 0 J
 refine pt H9 2 J kG J aq de J J J J (H9.rv 0 J) ?_
 let J2:=own w.heap.size 144 (.slice a0 mr.length c0) (mr.set i.toNat (eb x0 j))
 let J3:=own w.heap.size 3 (.slice (some ⟨g0,0,none⟩) 2 2) ([i,j]:List Int)
 intro w6 (dH:HI M w w6 [iL a2 (eb x0 j) c2,iL a1 x0 c1,J2,J3,box aZ #[C 0,.slice none 0 0] 26,J1,J0])
 refine bp<|aS kh J J<|bl dH 5 J aV J J J<|ak (v:=R a0 mr c0) J J<|k<|bd (v:=.agg #[C mn,R a0 mr c0]) J (cj J<|cj J eh) (fun _=>aC)<|k<|bt dH 4 J bm J J J J J J J ?_
 intro w7 (db:HI M w w7 [iL a2 (eb x0 j) c2,iL a1 x0 c1,J2,J3,box aZ #[C mn,R a0 mr c0] 26,J1,J0])
 refine au (v:=C 0) J J<|av<|rt<|im db 4 J bm J J J J J aw ?_
 have e0:(mn:Int)=ie mn i j:=by exact(pO (rs:=mr) hq).1.symm
 have e1:(mr.set i.toNat (eb x0 j):List (List bY))=j2 mn mr i j:=by rw[(pO (rs:=mr) hq).2.1];exact Hy aP
 have l1:mr.length=(j2 mn mr i j).length:=by rw[←e1];simp
 have e2:(0:Int)=lC mn i j:=by exact(pO (rs:=mr) hq).2.2.symm
 have bo:=qN (fun (bW:Int) (uS:Nat) (gA:Int)=>(.tuple #[.agg #[C bW,.slice a0 uS c0],C gA]:Value)) e0 l1 e2
 exact⟨a0,c0,bo,db.below,(ani (fun (n_:Nat)=>bj _ _ _ (j2 mn mr i j) (.slice a0 n_ c0) _) l1).mp ((ani (fun (x_:List (List bY))=>bj _ _ _ x_ (.slice a0 mr.length c0) _) e1).mp (db.df 2 J))⟩
theorem ud (hM:eG M w) (fY:aM mn) (gl:cA M w bA bz mr) (qH:aM i) (BP:aM j) (X0:((mr.length:Nat):Int)=mn) (Qr:∀x∈mr,x.length≤1000000000) (X9:mn≤4096):Calls aK 64 #[.agg #[C mn,R bA mr bz],C i,C j] w (cg fun v w'=>v=.bool (eF mn mr i j)∧Ext w w'):=by
 refine dm 21 Tryz.func64 J J J hM fun f0 ha H=>?_
 have H0:=dS H gl
 have i0:f0 0=.agg #[C mn,R bA mr bz]:=ha 0 bh
 have i1:f0 1=C i:=ha 1 bh
 have i2:f0 2=C j:=ha 2 bh
 refine aB<|k<|bx H0 J i0 ?_
 intro aX w0 bT (H1:HI M w w0 [box aX #[C mn,R bA mr bz] 26,iL bA mr bz])
 refine au (v:=.bool false) J J<|bp<|k<|cz H1 0 J bm J J aw J<|ak J i1<|ak J i2<|k<|bs (xs:=([i,j]:List Int)) (cells:=#[C i,C j]) (e:=3) H1 J (cj J<|cj J eh) (fun _=>aC) ⟨[C i],[C j],J,⟨J,qH⟩,⟨[C j],[],J,⟨J,BP⟩,J⟩⟩ J aw ?_
 intro g0 w1 da H2
 refine k ?_
 have H3:=H2.freeze 0 J
 have bP:=Sy (mn:=mn) (l:=([i,j]:List Int)) (M3:=bA) (Ly:=mr.length) (ME:=bz) H3.mb fY<|H3.rv 0 J
 refine ca YF J (ec J<|ec J e0) bP ?_
 rintro _ w2 ⟨rfl,eR⟩
 have H4:=H2.ext eR
 refine ak (v:=.bool (ko mn ([i,j]:List Int))) J J ?_
 rcases bE (ko mn ([i,j]:List Int)) with b0|b0
 ·
  refine aU J J J b0<|fa iw J J<|aU J J J b0<|lx H4 1 J kW J J J<|aU J J J b0<|mv J i1<|aU J J J b0<|ia (H4.rv 2 J) J J J J (by have hr:=jh.1 b0;omega) ib de ?_
  intro iC x0 aP ct
  refine aU J J J b0<|te ct.w de J J ?_
  intro a0 c0 cq
  have H5:=dS H4 cq
  refine aU J J J b0<|mv J i2<|aU J J J b0 ?_
  have cS:=zG (r:=x0) (i:=j) H5.mb (H5.rv 0 J) BP
  refine ca Mh J (ec J<|ec J e0) cS ?_
  rintro _ w3 ⟨rfl,fH⟩
  have H6:=H5.ext fH
  refine k<|aR J J J J b0 J<|au (v:=.bool (fg x0 j)) J J<|av<|rt<|r1 J J ?_
  exact⟨ani Value.bool (by unfold eF;first|(rw[rX aP,b0];rfl)|(rw[b0];rfl)),H6.below⟩
 refine aO J J J b0<|aO J J J b0<|aO J J J b0<|aO J J J b0<|aO J J J b0<|aO J J J b0<|aO J J J b0<|k<|cJ J J J J b0 J<|au (v:=.bool false) J J<|av<|rt<|r1 J J ?_
 exact⟨ani Value.bool (by unfold eF;first|(rw[rX aP,b0];rfl)|(rw[b0];rfl)),H4.below⟩
theorem HT:cu aK 89:=⟨_,_,Tryz.func89,rfl,aC⟩
theorem Pz:aK.underlying 185=some (.slice 133):=aC
theorem FX:ei aK 133 2 true 16 (.agg #[.int .i64 0,.int .i64 0]):=⟨aC,aC⟩
theorem afK:cu aK 135:=⟨_,_,Tryz.func135,rfl,aC⟩
theorem Sz (hM:eG M w) (hT:fP 0 w) (fY:aM mn) (gl:cA M w bA bz mr) (X0:((mr.length:Nat):Int)=mn) (Qr:∀x∈mr,x.length≤1000000000) (X9:mn≤4096) (JZ:∀x∈mr,x.length≤64):Calls aK 128 #[.agg #[C mn,R bA mr bz]] w (cg fun v w'=>∃(a0:OA) (c0:Nat),v=.slice a0 (iQ mn mr).length c0∧Ext w w'∧RV M w' (.slice a0 (iQ mn mr).length c0) (iQ mn mr)):=by
 refine dm 32 Tryz.func128 J J J hM fun f0 ha H=>?_
 let J0:=iL bA mr bz
 have H0:=H.put (it:=J0) J<|by rw[bN];exact gl
 have np:=bf gl
 have i0:f0 0=.agg #[C mn,R bA mr bz]:=ha 0 bh
 refine aB<|k<|bx H0 J i0 ?_
 intro aX w0 bT (H1:HI M w w0 [box aX #[C mn,R bA mr bz] 26,J0])
 let J1:=box aX #[C mn,R bA mr bz] 26
 refine au (v:=.slice none 0 0) J J<|bp<|au (v:=.slice none 0 0) J J<|av<|sq<|aB<|aS iw J J<|bl H1 0 J kW J J J<|k<|dP J J ib<|ak (v:=C 0) J J<|av<|bk ?_
 have H2:=H1.rl (Int×Int) 133
 refine lp (fun m f w'=>∃(i:Nat) (xs:List (Int×Int)) (a0:OA) (c0:Nat),m=mr.length-i∧f 3=R a0 xs c0∧f 9=R bA mr bz∧f 10=C (mr.length:Int)∧f 11=C (i:Int)∧HI M w w' [oL w 133 a0 xs c0,J1,J0]∧(i≤mr.length)∧(xs=lh mr i)) _ ⟨0,([]:List (Int×Int)),none,0,J,J,J,J,(bJ J),H2,aq,(by rfl)⟩ ?_
 rintro _ f0 w1 ⟨i,xs,a0,c0,rfl,s0,s1,s2,s3,H3,Ya,hs⟩
 refine aB<|k<|lss J J s3 s2<|av<|sq<|cd (b:=decide ((i:Int)<(mr.length:Int))) J J (fun b0=>?_)<|fun b0=>?_
 ·
  have p0:=dT b0
  refine sk<|nx<|sq<|bk<|aB<|ak J s3<|k<|ia (H3.rv 2 J) J J s1 s3 aq ib de ?_
  intro iC x0 aP ct
  refine k<|te ct.w de J J ?_
  intro a1 c1 cq
  have zV:=bf cq
  have H4:=dS H3 cq
  refine au (v:=C (i:Int)) J J<|au (v:=R a1 x0 c1) J J<|bp<|ak (v:=R a1 x0 c1) J J<|k ?_
  have bP:=tZ (r:=x0) H4.mb (hT.ext H4.below) (H4.rv 0 J)<|by have h_:=JZ _ (dB aP);omega
  refine ca HT J (ec J e0) bP ?_
  rintro _ w2 ⟨a2,c2,rfl,da,dZ⟩
  have H5:=H4.eL dZ
  refine k<|dP J J cK<|ak (v:=C 0) J J<|av<|bk<|lp (fun m f w'=>∃(q:Nat) (D1:List (Int×Int)) (a3:OA) (c3:Nat),m=(cV x0).length-q∧f 3=R a3 D1 c3∧f 4=C (i:Int)∧f 9=R bA mr bz∧f 10=C (mr.length:Int)∧f 11=C (i:Int)∧f 17=R a2 (cV x0) c2∧f 18=C ((cV x0).length:Int)∧f 19=C (q:Int)∧HI M w w' [oL w 3 a2 (cV x0) c2,iL a1 x0 c1,oL w 133 a3 D1 c3,J1,J0]∧(q≤(cV x0).length)∧(D1=lh mr i++((cV x0).take q).map fun j=>(((i:Nat):Int),j))) _ ⟨0,xs,a0,c0,J,s0,J,s1,s2,s3,J,J,(bJ J),H5,aq,(by rw[hs];simp)⟩ ?_
  rintro _ f1 w3 ⟨q,D1,a3,c3,rfl,s4,s5,s6,s7,s8,s9,eo,fb,H6,so,gK⟩
  refine aB<|k<|lss J J fb eo<|av<|sq<|cd (b:=decide ((q:Int)<((cV x0).length:Int))) J J (fun b1=>?_)<|fun b1=>?_
  ·
   have p1:=dT b1
   refine sk<|nx<|sq<|bk<|aB<|k<|ij (H6.at_ 0 J) J J s9 fb aq cK aV ?_
   intro g0 x1 iq cP gL
   refine k<|mV gL aV J J ?_
   intro dY
   refine au (v:=C x1) J J<|av<|rg<|ak J s4<|ak J s5<|ak (v:=C x1) J J<|k<|bd (v:=.agg #[C (i:Int),C x1]) J (cj J<|cj J eh) (fun _=>aC)<|k<|bs (xs:=([((i:Int),x1)]:List (Int×Int))) (cells:=#[C (i:Int),C x1]) (e:=133) H6 J (cj J eh) (fun _=>aC) ⟨[C (i:Int),C x1],[],J,⟨_,_,J,⟨J,(show aM ((i:Int)) from aT)⟩,⟨J,(show aM (x1) from aT)⟩⟩,J⟩ J aw ?_
   intro g1 w4 eR H7
   refine k<|lA H7 3 J J J J J J (gP<|H7.at_ 0 J) Pz FX J (by have h1_:=Ed JZ i;have lz:=mT x0;have h3_:=JZ _ (dB aP);rw[gK,fA,anW,gY];simp only[iM,gr];omega) J ?_
   intro a4 c4 w5 (H8:HI M w w5 [own w.heap.size 133 (.slice (some ⟨g1,0,none⟩) 1 1) ([((i:Int),x1)]:List (Int×Int)),oL w 3 a2 (cV x0) c2,iL a1 x0 c1,oL w 133 a4 (D1++([((i:Int),x1)]:List (Int×Int))) c4,J1,J0])
   refine au (v:=R a4 (D1++([((i:Int),x1)]:List (Int×Int))) c4) J J<|z<|aJ<|nx<|rg<|k<|add J J fb J (by have lz:=mT x0;have h3_:=JZ _ (dB aP);unfold aM;omega)<|ak (v:=C ((q:Int)+1)) J J<|z ?_
   have H9:HI M w w5 [oL w 3 a2 (cV x0) c2,iL a1 x0 c1,oL w 133 a4 (D1++([((i:Int),x1)]:List (Int×Int))) c4,J1,J0]:=H8.bU [1,2,3,4,5] aw rfl
   refine bB _ ?_ ⟨(q+1),(D1++([((i:Int),x1)]:List (Int×Int))),a4,c4,J,J,s5,s6,s7,s8,s9,eo,(bJ J),H9,aq,(by rw[gK];exact Sj cP)⟩
   omega
  have p1:=dF b1
  refine ex<|aW<|bc<|bg<|aJ<|nx<|rg<|k<|add J J s8 J aT<|ak (v:=C ((i:Int)+1)) J J<|z ?_
  have H7:HI M w w3 [oL w 133 a3 D1 c3,J1,J0]:=H6.bU [2,3,4] aw rfl
  refine bB _ ?_ ⟨(i+1),D1,a3,c3,J,s4,s6,s7,(bJ J),H7,aq,(by rw[gK];exact Vp aP aq)⟩
  omega
 have p0:=dF b0
 refine ex<|aW<|bc<|bg<|cO<|ak J s0<|au (v:=R a0 xs c0) J J<|av<|rt<|r1 J J ?_
 have e0:(xs:List (Int×Int))=iQ mn mr:=by rw[hs];exact Si aq aq
 have bo:=iB (fun (bW:List (Int×Int))=>(.slice a0 bW.length c0:Value)) e0
 exact⟨a0,c0,bo,H3.below,(ani (fun (x_:List (Int×Int))=>RV _ _ (.slice a0 x_.length c0) x_) e0).mp (H3.mw 0 J)⟩
theorem abV {an:Int} {Ir:OA} {Ik:Nat} {ar:List (List bY)} {bn:Int} {Iq:OA} {Ij:Nat} {br:List (List bY)} (hM:eG M w) (amH:aM an) (adf:cA M w Ir Ik ar) (amG:aM bn) (ade:cA M w Iq Ij br) (alO:((ar.length:Nat):Int)=an) (aff:∀x∈ar,x.length≤1000000000) (alT:an≤4096) (alN:((br.length:Nat):Int)=bn) (afe:∀x∈br,x.length≤1000000000) (alS:bn≤4096):Calls aK 96 #[.agg #[C an,R Ir ar Ik],.agg #[C bn,R Iq br Ij]] w (cg fun v w'=>∃(a0:OA) (c0:Nat),v=.tuple #[.agg #[C (sX an bn),.slice a0 (l7 an ar bn br).length c0],C (xc an bn)]∧Ext w w'∧bj M 144 w (l7 an ar bn br) (.slice a0 (l7 an ar bn br).length c0) w'):=by
 refine dm 41 Tryz.func96 J J J hM fun f0 ha H=>?_
 let J0:=iL Ir ar Ik
 have H0:=H.put (it:=J0) J<|by rw[bN];exact adf
 let J1:=iL Iq br Ij
 have H1:=H0.put (it:=J1) J<|by rw[aG rfl,bN];exact ade
 have alM:=bf adf
 have alL:=bf ade
 have i0:f0 0=.agg #[C an,R Ir ar Ik]:=ha 0 bh
 have i1:f0 1=.agg #[C bn,R Iq br Ij]:=ha 1 bh
 refine aB<|k<|bx H1 J i0 ?_
 intro aX w0 bT (H2:HI M w w0 [box aX #[C an,R Ir ar Ik] 26,J1,J0])
 let J2:=box aX #[C an,R Ir ar Ik] 26
 refine k<|bx H2 J i1 ?_
 let ba:=[J2,J1,J0]
 intro aZ w1 da (H3:HI M w w1 (box aZ #[C bn,R Iq br Ij] 26::ba))
 let J3:=box aZ #[C bn,R Iq br Ij] 26
 refine k<|al H3 bm ?_
 intro bD w2 eR (H4:HI M w w2 (box bD #[C 0,.slice none 0 0] 26::J3::ba))
 let J4:=box bD #[C 0,.slice none 0 0] 26
 refine au (v:=C 0) J J<|av<|sq<|aB<|aS kh J J<|bl H4 2 J aV J J J<|aS kh J J<|bl H4 1 J aV J J J<|k<|neq J J J J<|z<|nx<|cd (b:=!decide (an=bn)) J J (fun b0=>?_)<|fun b0=>?_
 ·
  have p0:=dF<|fX b0
  refine aB<|k<|bd (v:=.agg #[C 0,.slice none 0 0]) J eh (fun _=>aC)<|k<|bt H4 0 J bm J J J J J J J ?_
  intro w3 (H5:HI M w w3 (J4::J3::ba))
  refine au (v:=C 1) J J<|av<|rt<|aL<|im H5 0 J bm J J J J J aw ?_
  have e0:(0:Int)=sX an bn:=by exact(Ln (ar:=ar) (br:=br) p0).1.symm
  have e1:([]:List (List bY))=l7 an ar bn br:=by exact(Ln p0).2.1.symm
  have e2:(1:Int)=xc an bn:=by exact(Ln (ar:=ar) (br:=br) p0).2.2.symm
  have bo:=qN (fun (bW:Int) (dK:List (List bY)) (gA:Int)=>(.tuple #[.agg #[C bW,.slice none dK.length 0],C gA]:Value)) e0 e1 e2
  exact⟨none,0,bo,H5.below,(ani (fun (x_:List (List bY))=>bj _ _ _ x_ (.slice none x_.length 0) _) e1).mp (fN H5.below)⟩
 have p0:=dT<|eY b0
 refine sk<|cO<|aS kh J J<|bl H4 2 J aV J J J<|k ?_
 have n0:((an.toNat:Nat):Int)=an:=anX aq
 refine mk (m:=an.toNat) (zx:=([]:(List bY))) H4 J J (by rw[n0];exact rfl) (by rw[n0];exact rfl) ib de (fun _ _=>⟨_,J,Cc _ _⟩) aq aq ?_
 intro g0 w3 fH (H5:HI M w w3 (own w.heap.size 144 (.slice (some ⟨g0,0,none⟩) an.toNat an.toNat) (List.replicate an.toNat ([]:(List bY)))::J4::J3::ba))
 refine au (v:=.slice (some ⟨g0,0,none⟩) an.toNat an.toNat) J J<|av<|sq<|aB<|ak (v:=.slice (some ⟨g0,0,none⟩) an.toNat an.toNat) J J<|k<|dP J J ib<|ak (v:=C 0) J J<|av<|bk<|lp (fun m f w'=>∃(j:Nat) (xs:List (List bY)),m=an.toNat-j∧f 2=pV aX 0∧f 3=pV aZ 0∧f 4=pV bD 0∧f 6=.slice (some ⟨g0,0,none⟩) an.toNat an.toNat∧f 18=C (an.toNat:Int)∧f 19=C (j:Int)∧HI M w w' (own w.heap.size 144 (.slice (some ⟨g0,0,none⟩) an.toNat an.toNat) xs::J4::J3::ba)∧(j≤an.toNat)∧(xs.length=an.toNat)∧(xs=uP ar br an.toNat j)) _ ⟨0,(List.replicate an.toNat ([]:(List bY))),J,J,J,J,J,J,(bJ J),H5,aq,bh,(by exact NA _ _ _)⟩ ?_
 rintro _ f0 w4 ⟨j,xs,rfl,s0,s1,s2,s3,s4,s5,H6,hk,hl,hs⟩
 refine aB<|k<|lss J J s5 s4<|av<|sq<|cd (b:=decide ((j:Int)<(an.toNat:Int))) J J (fun b1=>?_)<|fun b1=>?_
 ·
  have p1:=dT b1
  refine sk<|nx<|sq<|bk<|aB<|ak J s5<|au (v:=C (j:Int)) J J<|z<|nx<|mg [.r,.r,.r,.r,.r,.r,.r,.r,.r,.r,.r,.r,.r,.e,.e] (fun _=>True) J aC (fun _ _=>trivial)<|yq J J<|kq (fun _ _=>mv J s3 e1)<|bM<|kq (fun _ _=>mv (v:=C (j:Int)) J J e1)<|bM<|kq (fun _ _=>fa iw J s0 e1)<|bM<|kq (fun _ x_=>lx (H6.ext x_) 3 J kW J J J e1)<|bM<|kq (fun _ _=>mv (v:=C (j:Int)) J J e1)<|bM<|ub (H6.rv 5 J) J J J J aq ib de ?_
  intro iC x0 aP ct
  refine bM<|F5 ct.w de J J ?_
  intro a0 c0 cq
  have zV:=bf cq
  have H7:=dS H6 cq
  refine bM<|kq (fun _ _=>fa iw J s1 e1)<|bM<|kq (fun _ x_=>lx (H7.ext x_) 3 J kW J J J e1)<|bM<|kq (fun _ _=>mv (v:=C (j:Int)) J J e1)<|bM<|ub (H7.rv 5 J) J J J J aq ib de ?_
  intro rh x1 cP gL
  refine bM<|F5 gL.w de J J ?_
  intro a1 c1 dZ
  have ln1:=bf dZ
  have H8:=dS H7 dZ
  refine zq<|yu J (fun _ v w'=>∃(a2:OA) (c2:Nat),v=R a2 (jE x0 x1) c2∧RV H6.fV w' (R a2 (jE x0 x1) c2) (jE x0 x1)) J jk J (fun v_ _ x_ _=>have cS:=abn (a:=x0) (b:=x1) (w:=v_) (H8.ext x_).mb ((H8.ext x_).rv 1 rfl) ((H8.ext x_).rv 0 rfl) (by exact aff _ (dB aP)) (by exact afe _ (dB cP));ca afK rfl (ec J<|ec J e0) cS (fun _ w6 ⟨a3,c3,e_,ji,je⟩=>⟨_,J,ji,⟨a3,c3,e_,(mK J<|mK J<|bj.rv je (H8.ext x_).mb)⟩⟩))<|ye<|ye<|yz ?_
  intro w7 f1 _ kb _ _ cB iN
  have cM:=H8.ext kb
  have s6:=(cB 2 J).trans s0
  have s7:=(cB 3 J).trans s1
  have s8:=(cB 4 J).trans s2
  have s9:=(cB 6 J).trans s3
  have eo:=(cB 18 J).trans s4
  have fb:=(cB 19 J).trans s5
  have fM:=cB 22 J
  have fL:=cB 23 J
  obtain⟨a4,c4,gB,jd⟩:=iN 0 _ _ rfl
  have dW:=dS cM jd
  refine j5<|ij (dW.at_ 3 J) J J fM fL aq ib de ?_
  intro g1 x2 iq iA kR
  refine j5<|pt dW 3 J iq J aq de J J J gB (dW.rv 0 J) ?_
  let J5:=own w.heap.size 144 (.slice (some ⟨g0,0,none⟩) an.toNat an.toNat) (xs.set ((j:Int).toNat) (jE x0 x1))
  intro w8 (dt:HI M w w8 [iL a4 (jE x0 x1) c4,iL a1 x1 c1,iL a0 x0 c0,J5,J4,J3,J2,J1,J0])
  refine kz<|aJ<|nx<|rg<|k<|add J J fb J aT<|ak (v:=C ((j:Int)+1)) J J<|z ?_
  have cR:HI M w w8 (J5::J4::J3::ba):=dt.bU [3,4,5,6,7,8] aw rfl
  refine bB _ ?_ ⟨(j+1),(xs.set ((j:Int).toNat) (jE x0 x1)),J,s6,s7,s8,s9,eo,(bJ J),cR,aq,(by simpa using hl),(by rw[hs];exact P' aq aP cP)⟩
  omega
 have p1:=dF b1
 refine ex<|aW<|bc<|bg<|cO<|aS kh J s0<|bl H6 3 J aV J J J<|ak J s3<|k<|bd (v:=.agg #[C an,.slice (some ⟨g0,0,none⟩) an.toNat an.toNat]) J (cj J<|cj J eh) (fun _=>aC)<|k<|bt H6 1 J bm J J s2 J J J J ?_
 intro w5 (H7:HI M w w5 (own w.heap.size 144 (.slice (some ⟨g0,0,none⟩) an.toNat an.toNat) xs::box bD #[C an,.slice (some ⟨g0,0,none⟩) an.toNat an.toNat] 26::J3::ba))
 refine au (v:=C 0) J J<|av<|rt<|im H7 1 J bm J J J s2 J aw ?_
 have e0:(an:Int)=sX an bn:=by exact(zM (ar:=ar) (br:=br) p0).1.symm
 have e1:(xs:List (List bY))=l7 an ar bn br:=by rw[(zM p0).2.1,hs];exact Qa aq hk
 have l1:an.toNat=(l7 an ar bn br).length:=by rw[←e1];omega
 have e2:(0:Int)=xc an bn:=by exact(zM (ar:=ar) (br:=br) p0).2.2.symm
 have bo:=qN (fun (bW:Int) (uS:Nat) (gA:Int)=>(.tuple #[.agg #[C bW,.slice (some ⟨g0,0,none⟩) uS an.toNat],C gA]:Value)) e0 l1 e2
 exact⟨(some ⟨g0,0,none⟩),an.toNat,bo,H7.below,(ani (fun (n_:Nat)=>bj _ _ _ (l7 an ar bn br) (.slice (some ⟨g0,0,none⟩) n_ an.toNat) _) l1).mp ((ani (fun (x_:List (List bY))=>bj _ _ _ x_ (.slice (some ⟨g0,0,none⟩) an.toNat an.toNat) _) e1).mp (H7.df 0 J))⟩
set_option maxRecDepth 100000 in
set_option maxHeartbeats 1600000 in
theorem CI {M0:Nat→Prop} {w0 w:World} {l:List Go.Ew.Item} {i j:Nat} {M4 Ps:Option Addr} {MF Pf:Nat} (H:HI M0 w0 w l) (hi:l[i]? =some (own w0.heap.size 151 (R M4 a MF) a)) (hj:l[j]? =some (own w0.heap.size 151 (R Ps b Pf) b)) (hlen:b.length≤a.length) (hlb:b.length≤1000000000) (gH:i≠j∨((R M4 a MF:Value)=R Ps b Pf∧b=a)):Calls aK 95 #[R M4 a MF,R Ps b Pf] w (cg fun v w'=>v=.tuple #[]∧HI M0 w0 w' (l.set i (own w0.heap.size 151 (R M4 a MF) (jE a b)))):=by
  have jF:i<l.length:=(dC.1 hi).1
  refine enter 21 Tryz.func95 J J J fun f0 ha=>?_
  have i0:f0 0=.slice M4 a.length MF:=ha 0 bh
  have i1:f0 1=.slice Ps b.length Pf:=ha 1 bh
  refine aB<|ak (v:=.slice Ps b.length Pf) J i1<|k<|dP J J ic<|ak (v:=.int .i64 0) J J<|av<|bk<|lp (fun m f w'=>∃(q:Nat) (xs:List bY),m=b.length-q∧f 0=.slice M4 a.length MF∧f 6=.slice Ps b.length Pf∧f 7=.int .i64 (b.length:Int)∧f 8=.int .i64 (q:Int)∧HI M0 w0 w' (l.set i (own w0.heap.size 151 (.slice M4 a.length MF) xs))∧q≤b.length∧xs.length=a.length∧xs=pU a.length a b a q) _ ⟨0,a,J,i0,J,J,J,(by rw[Zq hi];exact H),aoD _,J,Cs _ _ _⟩ ?_
  rintro _ f1 w1 ⟨q,xs,rfl,s0,s1,s2,s3,H1,hk,hl,hs⟩
  refine aB<|k<|lss J J s3 s2<|av<|sq<|cd (b:=decide ((q:Int)<(b.length:Int))) J J (fun b1=>?_)<|fun b1=>?_
  ·
    have p1:=an7 b1
    obtain⟨ys,L3,zX,hyq⟩:=SH hj jF gH hl hs hk hlen
    refine sk<|nx<|sq<|bk<|aB<|ak J s3<|k<|ij (H1.at_ j L3) J J s1 s3 aq ic fl ?_
    intro g0 x0 iq aP ct
    have hxq:=hyq x0 aP
    refine k<|yo ct fl J J<|au (v:=.int .i64 (q:Int)) J J<|au (v:=aj x0) J J<|av<|rg<|ak J s0<|ak (v:=.int .i64 (q:Int)) J J<|k<|ij (H1.at_ i<|K4 jF) J J J J aq ic fl ?_
    intro g1 x1 kG cP gL
    refine k<|yo gL fl J J<|ak (v:=aj x0) J J<|k<|Sl x1 x0 J J J J<|k<|ij (H1.at_ i<|K4 jF) J J J J aq ic fl ?_
    intro g2 x2 BF iA kR
    refine k<|pt H1 i (K4 jF) BF J aq fl J J J J (RV.bv.2 J) ?_
    intro w2 H2
    rw[set_set] at H2
    refine z<|aJ<|nx<|rg<|k<|add J J s3 J aT<|ak (v:=.int .i64 ((q:Int)+1)) J J<|z<|bB _ ?_ ⟨(q+1),(xs.set ((q:Int).toNat) (x1 ||| x0)),J,s0,s1,s2,(bJ J),H2,aq,(by simpa using hl),SG hs hxq cP⟩
    omega
  ·
    have p1:=aoW b1
    refine ex<|aW<|bc<|bg<|D_ J ?_
    exact⟨J,by rw[←VQ hs hlen aq];exact H1⟩
set_option maxRecDepth 100000 in
set_option maxHeartbeats 1600000 in
theorem Fh (hM:eG M w) (Mc:aM n) (h0:0≤n) (h4:n≤4096):Calls aK 121 #[C n] w (cg fun v w'=>∃(a0:Option Addr) (c0:Nat) (ss:List SV),v=.tuple #[.agg #[C n,.slice a0 n.toNat c0],C 0]∧Ext w w'∧Kp M 144 151 w ss (List.replicate n.toNat (d_ n)) (.slice a0 n.toNat c0) w'):=by
  refine dm 29 Tryz.func121 J J J hM fun f0 ha H=>?_
  have i0:f0 0=.int .i64 n:=ha 0 bh
  refine aB<|k<|al H bm ?_
  intro aX w0 bT (H0:HI M w w0 [box aX #[.int .i64 0,.slice none 0 0] 26])
  refine au (v:=.int .i64 0) J J<|av<|sq<|aB<|ak J i0<|k<|lss J J J J<|ak (v:=.bool (decide (n<0))) J J ?_
  have b0:decide (n<0)=false:=ans aq
  refine aU J J J b0<|mv J i0<|aU J J J b0<|gtr J J J J<|k<|cJ J J J J b0 J<|z<|nx<|cd (b:=decide (4096<n)) J J (fun b1=>?_)<|fun b1=>?_
  · exact absurd (an7 b1) aq
  refine sk<|cO<|ak J i0<|k ?_
  have n0:((n.toNat:Nat):Int)=n:=anX aq
  refine mk (m:=n.toNat) (zx:=(⟨none,0,0⟩:SV)) H0 J J (by rw[n0];exact rfl) (by rw[n0];exact rfl) ib de (fun _ _=>rfl) aq aq ?_
  intro g0 w1 da (H1:HI M w w1 [own w.heap.size 144 (.slice (some ⟨g0,0,none⟩) n.toNat n.toNat) (List.replicate n.toNat (⟨none,0,0⟩:SV)),box aX #[.int .i64 0,.slice none 0 0] 26])
  refine au (v:=.slice (some ⟨g0,0,none⟩) n.toNat n.toNat) J J<|av<|sq<|aB<|ak (v:=.slice (some ⟨g0,0,none⟩) n.toNat n.toNat) J J<|k<|dP J J ib<|ak (v:=.int .i64 0) J J<|av<|bk<|lp (fun m f w'=>∃(j:Nat) (ss:List SV),m=n.toNat-j∧f 0=.int .i64 n∧f 2=.pointer (some ⟨aX,0,none⟩)∧f 4=.slice (some ⟨g0,0,none⟩) n.toNat n.toNat∧f 16=.int .i64 (n.toNat:Int)∧f 17=.int .i64 (j:Int)∧HI M w w' ([own w.heap.size 144 (.slice (some ⟨g0,0,none⟩) n.toNat n.toNat) (ss++List.replicate (n.toNat-j) (⟨none,0,0⟩:SV)),box aX #[.int .i64 0,.slice none 0 0] 26]++bC w.heap.size 151 ss (List.replicate j<|d_ n))∧j≤n.toNat∧ss.length=j) _ ⟨0,[],J,i0,J,J,J,J,H1,aoD _,J⟩ ?_
  rintro _ f0 w2 ⟨j,ss,rfl,s0,s1,s2,s3,s4,H2,hk,hl⟩
  refine aB<|k<|lss J J s4 s3<|av<|sq<|cd (b:=decide ((j:Int)<(n.toNat:Int))) J J (fun b2=>?_)<|fun b2=>?_
  ·
    have p2:=an7 b2
    refine sk<|nx<|sq<|bk<|aB<|ak J s4<|au (v:=.int .i64 (j:Int)) J J<|av<|rg<|ak J s2<|ak (v:=.int .i64 (j:Int)) J J<|ak J s0<|k ?_
    have bP:=DC (n:=n) H2.mb aT aq
    refine ca QG J (ec J e0) bP ?_
    rintro _ w3 ⟨a0,c0,rfl,eR,cq⟩
    have H3:=H2.eL cq
    have xp:j<(ss++List.replicate (n.toNat-j) (⟨none,0,0⟩:SV)).length:=by rw[fA,od];omega
    refine k<|ij (H3.at_ 1 J) J J J J aq ib de ?_
    intro g1 x0 iq aP ct
    refine k<|pt (yv:=(⟨a0,(d_ n).length,c0⟩:SV)) H3 1 J iq J aq de J J J J (RV.sv.2 J) ?_
    intro w4 H4
    have H5:HI M w w4 (own w.heap.size 151 (⟨a0,(d_ n).length,c0⟩:SV).v (d_ n)::([own w.heap.size 144 (.slice (some ⟨g0,0,none⟩) n.toNat n.toNat) ((ss++List.replicate (n.toNat-j) (⟨none,0,0⟩:SV)).set ((j:Int).toNat) ⟨a0,(d_ n).length,c0⟩),box aX #[.int .i64 0,.slice none 0 0] 26]++bC w.heap.size 151 ss (List.replicate j (d_ n)))):=H4
    have H6:=H5.abo<|by rw[od];exact hl
    have es:(ss++List.replicate (n.toNat-j) (⟨none,0,0⟩:SV)).set ((j:Int).toNat) ⟨a0,(d_ n).length,c0⟩=(ss++[⟨a0,(d_ n).length,c0⟩])++List.replicate (n.toNat-(j+1)) (⟨none,0,0⟩:SV):=by
      rw[dv,aoH _ _ aq,hl,aol,show n.toNat-j=n.toNat-(j+1)+1 from by omega,aob,ao9];simp
    rw[es,←List.replicate_succ'] at H6
    refine z<|aJ<|nx<|rg<|k<|add J J s4 J aT<|ak (v:=.int .i64 ((j:Int)+1)) J J<|z<|bB _ ?_ ⟨(j+1),(ss++[⟨a0,(d_ n).length,c0⟩]),J,s0,s1,s2,s3,(bJ J),H6,aq,(by rw[fA,hl];rfl)⟩
    omega
  ·
    have p2:=aoW b2
    obtain rfl:j=n.toNat:=by omega
    rw[aol,List.replicate_zero,aoT] at H2
    refine ex<|aW<|bc<|bg<|cO<|ak J s0<|ak J s2<|k<|bd (v:=.agg #[.int .i64 n,.slice (some ⟨g0,0,none⟩) n.toNat n.toNat]) J (cj J<|cj J eh) (fun _=>aC)<|k<|bt H2 1 J bm J J s1 J J J J ?_
    intro w3 H3
    have H4:HI M w w3 ([own w.heap.size 144 (.slice (some ⟨g0,0,none⟩) n.toNat n.toNat) ss,box aX #[.int .i64 n,.slice (some ⟨g0,0,none⟩) n.toNat n.toNat] 26]++bC w.heap.size 151 ss (List.replicate n.toNat (d_ n))):=H3
    refine au (v:=.int .i64 0) J J<|av<|rt<|im H4 1 J bm J J J s1 J aw ?_
    exact⟨(some ⟨g0,0,none⟩),n.toNat,ss,J,H4.below,by rw[od];exact hl,H4.aR (l':=[own w.heap.size 144 (.slice (some ⟨g0,0,none⟩) n.toNat n.toNat) ss]) [0] aw rfl rfl⟩
theorem GH:cu aK 121:=⟨_,_,Tryz.func121,rfl,aC⟩
theorem afO:cu aK 128:=⟨_,_,Tryz.func128,rfl,aC⟩
theorem PB:aK.underlying 133=some (.array 2 3):=aC
theorem Fg (hM:eG M w) (hT:fP 0 w) (fY:aM mn) (gl:cA M w bA bz mr) (bV:bF mn mr=true):Calls aK 87 #[.agg #[C mn,R bA mr bz]] w (cg fun v w'=>∃(a0:OA) (c0:Nat),v=.agg #[C mn,.slice a0 (gI mn mr).length c0]∧Ext w w'∧bj M 144 w (gI mn mr) (.slice a0 (gI mn mr).length c0) w'):=by
 refine dm 39 Tryz.func87 J J J hM fun f0 ha H=>?_
 let J0:=iL bA mr bz
 have H0:=H.put (it:=J0) J<|by rw[bN];exact gl
 have np:=bf gl
 have i0:f0 0=.agg #[C mn,R bA mr bz]:=ha 0 bh
 refine aB<|k<|bx H0 J i0 ?_
 intro aX w0 bT (H1:HI M w w0 [box aX #[C mn,R bA mr bz] 26,J0])
 let J1:=box aX #[C mn,R bA mr bz] 26
 refine k<|al H1 bm ?_
 let ba:=[J1,J0]
 intro aZ w1 da (H2:HI M w w1 (box aZ #[C 0,.slice none 0 0] 26::ba))
 let J2:=box aZ #[C 0,.slice none 0 0] 26
 refine bp<|aS kh J J<|bl H2 1 J aV J J J<|k ?_
 have bP:=Fh (n:=mn) H2.mb fY (by exact kL bV)<|by exact(bO bV).2.2.1
 refine ca GH J (ec J e0) bP ?_
 rintro _ w2 ⟨a0,c0,fK,rfl,eR,cq⟩
 have H3:=H2.F_ cq
 let J3:=own w.heap.size 144 (.slice a0 mn.toNat c0) fK
 let bZ:=J3::J2::ba
 have H4:HI M w w2 (bZ++bC w.heap.size 151 fK (List.replicate mn.toNat (d_ mn))):=H3
 have EW:=cq.1
 refine ak (v:=.tuple #[.agg #[C mn,.slice a0 mn.toNat c0],C 0]) J J<|k<|xt J J J<|k<|xt J J J<|k<|al H4 bm ?_
 intro bD w3 fH (H5:HI M w w3 ((box bD #[C 0,.slice none 0 0] 26::bZ)++bC w.heap.size 151 fK (List.replicate mn.toNat (d_ mn))))
 refine k<|bt H5 0 J bm J J J J J J J ?_
 let J4:=box bD #[C mn,.slice a0 mn.toNat c0] 26
 let dE:=J4::bZ
 intro w4 (H6:HI M w w4 (dE++bC w.heap.size 151 fK (List.replicate mn.toNat (d_ mn))))
 refine au (v:=C 0) J J<|av<|sq<|aB<|k<|cz H6 3 J bm J J aw J<|k ?_
 have cS:=Sz (mn:=mn) (mr:=mr) H6.mb (hT.ext H6.below) fY (H6.rv 4 J) (by exact(bO bV).1) (by exact(bO bV).2.1) (by exact(bO bV).2.2.1)<|by exact(bO bV).2.2.2.2
 refine ca afO J (ec J e0) cS ?_
 rintro _ w5 ⟨a1,c1,rfl,ja,dZ⟩
 have H7:=H6.ext ja
 let J5:=iL a1 (iQ mn mr) c1
 have H8:=H7.put (it:=J5) J dZ
 have H9:HI M w w5 ((J5::dE)++bC w.heap.size 151 fK (List.replicate mn.toNat (d_ mn))):=H8
 refine k<|dP J J Pz<|ak (v:=C 0) J J<|av<|bk<|lp (fun m f w'=>∃(j:Nat) (xs:List (List bY)),m=(iQ mn mr).length-j∧f 2=pV aZ 0∧f 3=pV bD 0∧f 14=R a1 (iQ mn mr) c1∧f 15=C ((iQ mn mr).length:Int)∧f 16=C (j:Int)∧HI M w w' ((J5::dE)++bC w.heap.size 151 fK xs)∧(j≤(iQ mn mr).length)∧(fK.length=xs.length)∧(xs=foldM mn (((iQ mn mr).map AI).take j))) _ ⟨0,(List.replicate mn.toNat<|d_ mn),J,J,J,J,J,(bJ J),H9,aq,(by exact cq.1),(by exact Rt _ _)⟩ ?_
 rintro _ f0 w6 ⟨j,xs,rfl,s0,s1,s2,s3,s4,dH,hk,hl,hs⟩
 refine aB<|k<|lss J J s4 s3<|av<|sq<|cd (b:=decide ((j:Int)<((iQ mn mr).length:Int))) J J (fun b0=>?_)<|fun b0=>?_
 ·
  have p0:=dT b0
  refine sk<|nx<|sq<|bk<|aB<|k<|ia (dH.rv 0 J) J J s2 s4 aq Pz FX ?_
  intro iC x0 aP ct
  refine k<|nt ct.w FX J J ?_
  intro v0 dY
  obtain⟨_,⟨_,_,rfl,⟨rfl,fu⟩,⟨rfl,je⟩⟩,rfl⟩:=dY
  refine k<|al dH FX ?_
  intro fe w7 ji (db:HI M w w7 ((box fe #[C 0,C 0] 133::J5::dE)++bC w.heap.size 151 fK xs))
  refine k<|bt db 0 J FX J J J J J J J ?_
  let J6:=box fe #[C x0.1,C x0.2] 133
  intro w8 (dw:HI M w w8 ((J6::J5::dE)++bC w.heap.size 151 fK xs))
  refine z<|nx ?_
  obtain⟨Tq,Tp,g3_,g4_⟩:=PT bV aP
  have xl_:xs.length=mn.toNat:=by rw[hs,C0]
  obtain⟨a2,x1,c2,lT,me⟩:=tX (i:=x0.2.toNat) dw bq aq
  obtain⟨x3,iA⟩:∃x,x1[(x0.1/64).toNat]? =some x:=⟨_,eB (by obtain⟨LK,tG,k3_,k4_⟩:=wP (hs▸me) Tq Tp;first|omega|exact⟨LK,tG⟩)⟩
  refine dr 15 [eV (pV bD 1),eV (.slice a0 mn.toNat c0),eV (pV fe 1),fun v w'=>v=C x0.2∧aM (x0.2),fun v w'=>∃(g0:Nat),v=.pointer (some ⟨g0,x0.2.toNat*1,none⟩)∧(.slice a0 mn.toNat c0:Value).ownBlock=some g0∧hG dw.fV w' ⟨g0,x0.2.toNat*1,none⟩ (⟨a2,x1.length,c2⟩:SV),eV (R a2 x1 c2),eV (pV fe 0),fun v w'=>v=C x0.1∧aM (x0.1),eV (C<|x0.1/64),fun v w'=>∃(g1:Nat),v=.pointer (some ⟨g1,(x0.1/64).toNat*1,none⟩)∧(.slice a2 x1.length c2:Value).ownBlock=some g1∧hG dw.fV w' ⟨g1,(x0.1/64).toNat*1,none⟩ x3,eV (aj x3),eV (pV fe 0),fun v w'=>v=C x0.1∧aM (x0.1),eV (C<|x0.1%64),eV (aj<|ka<|x0.1%64)] J aC ?_ ?_
  ·
   refine dc (fun _ _ S_ _ _=>fa iw J ((S_ 3 J).trans s1)<|d0 J J)<|dc (fun _ _ _ nr Jc=>lx (dw.ext nr) 2 J kW J (Jc 0 J J) J<|d0 J J)<|dc (fun _ _ L6 _ _=>XS J J (L6 6 J) J aq PB aV<|d0 J J)<|dc (fun _ _ _ Az yx=>lx (dw.ext Az) 0 J aV J (yx 2 J J) J ⟨_,J,Ext.refl _,⟨J,je⟩⟩) ?_
   refine⟨fun _=>⟨fun f5 jw hf4 Ho El=>?_,by rintro _ _ _ x_ ⟨g0,e_,iq,gL⟩;exact⟨g0,e_,iq,gL.ext x_⟩⟩,?_⟩
   ·
    have dM:=dw.ext Ho
    have s7:f5 21=.slice a0 mn.toNat c0:=El 1 rfl rfl
    obtain⟨s8,jT⟩:f5 23=C x0.2∧aM (x0.2):=El 3 rfl rfl
    refine ij (dM.at_ 3 J) J J s7 s8 aq ib de ?_
    intro g2 x4 BF mW u5
    obtain rfl:(⟨a2,x1.length,c2⟩:SV)=x4:=anm (lT.symm.trans mW)
    exact⟨_,J,Ext.refl _,⟨g2,J,BF,u5⟩⟩
   refine dc (fun f6 pZ Yd Hn OO=>?_) ?_
   ·
    obtain⟨g3,s9,XX,xD⟩:∃(g3:Nat),f6 24=.pointer (some ⟨g3,x0.2.toNat*1,none⟩)∧(.slice a0 mn.toNat c0:Value).ownBlock=some g3∧hG dw.fV pZ ⟨g3,x0.2.toNat*1,none⟩ (⟨a2,x1.length,c2⟩:SV):=OO 4 rfl rfl
    refine I4 xD de J s9 ?_
    exact⟨_,J,Ext.refl _,J⟩
   refine dc (fun _ _ hf6 _ _=>XS J J (hf6 6 J) J aq PB aV<|d0 J J)<|dc (fun _ _ _ aaP Ja=>lx (dw.ext aaP) 0 J aV J (Ja 6 J J) J ⟨_,J,Ext.refl _,⟨J,fu⟩⟩)<|dc (fun f9 sK hf8 Pw BG=>?_) ?_
   ·
    obtain⟨fb,jd⟩:f9 27=C x0.1∧aM (x0.1):=BG 7 rfl rfl
    refine K3 J J fb J ?_
    exact⟨_,J,Ext.refl _,J⟩
   refine⟨fun _=>⟨fun f10 uE hf9 UI Ek=>?_,by rintro _ _ _ x_ ⟨g1,e_,kG,kR⟩;exact⟨g1,e_,kG,kR.ext x_⟩⟩,?_⟩
   ·
    have eS:=dw.ext UI
    have fM:f10 25=R a2 x1 c2:=Ek 5 rfl rfl
    have fL:f10 28=C (x0.1/64):=Ek 8 rfl rfl
    refine ij (eS.at_ _<|px lT me) J J fM fL (by obtain⟨LK,tG,k3_,k4_⟩:=wP (hs▸me) Tq Tp;first|omega|exact⟨LK,tG⟩) ic fl ?_
    intro g4 x5 hv4 yr OS
    obtain rfl:x3=x5:=anm (iA.symm.trans yr)
    exact⟨_,J,Ext.refl _,⟨g4,J,hv4,OS⟩⟩
   refine dc (fun f11 xW Bc al5 vI=>?_) ?_
   ·
    obtain⟨g5,gB,hv5,Tn⟩:∃(g5:Nat),f11 29=.pointer (some ⟨g5,(x0.1/64).toNat*1,none⟩)∧(.slice a2 x1.length c2:Value).ownBlock=some g5∧hG dw.fV xW ⟨g5,(x0.1/64).toNat*1,none⟩ x3:=vI 9 rfl rfl
    refine yo Tn fl J gB ?_
    exact⟨_,J,Ext.refl _,J⟩
   refine dc (fun _ _ air _ _=>XS J J (air 6 J) J aq PB aV<|d0 J J)<|dc (fun _ _ _ ahA LV=>lx (dw.ext ahA) 0 J aV J (LV 11 J J) J ⟨_,J,Ext.refl _,⟨J,fu⟩⟩)<|dc (fun f14 Rs amy al4 aia=>?_) ?_
   ·
    obtain⟨ky,lq⟩:f14 32=C x0.1∧aM (x0.1):=aia 12 rfl rfl
    refine Km J J ky J ?_
    exact⟨_,J,Ext.refl _,J⟩
   refine dc (fun f15 w24 amx al3 ah'=>?_) ?_
   ·
    have ln:f15 33=C (x0.1%64):=ah' 13 rfl rfl
    have eX:=ES (i:=(x0.1%64)) (w:=w24) aT
    refine ca QN J (ec ln e0) eX ?_
    rintro _ w25 ⟨rfl,ahz⟩
    exact⟨_,J,ahz,J⟩
   exact mj.rest J _
  ·
   intro f16 w26 L7 ahy Qv
   have ri:=dw.ext ahy
   have mQ:=(L7 2 J).trans s0
   have mP:=(L7 3 J).trans s1
   have nM:=(L7 14 J).trans s2
   have pv:=(L7 15 J).trans s3
   have rr:=(L7 16 J).trans s4
   have BD:=Qv 5 J
   have Ca:=Qv 8 J
   have F4:=Qv 10 J
   have BC:=Qv 14 J
   refine k<|Sl x3 (ka<|x0.1%64) J J F4 BC<|k<|ij (ri.at_ _<|px lT me) J J BD Ca (by obtain⟨LK,tG,k3_,k4_⟩:=wP (hs▸me) Tq Tp;first|omega|exact⟨LK,tG⟩) ic fl ?_
   intro g6 x6 hv6 SK hA7
   refine k<|pt ri _ (px lT me) hv6 J (by obtain⟨LK,tG,k3_,k4_⟩:=wP (hs▸me) Tq Tp;first|omega|exact⟨LK,tG⟩) fl J J J J (RV.bv.2 J) ?_
   intro Xm oq
   have kT:=HI.zH (M:=fun _=>False) (it:=tg (.int .i64 0) (0:Int)) oq lT
   have j7:HI M w Xm ((J6::J5::dE)++bC w.heap.size 151 fK (xs.set x0.2.toNat (x1.set ((x0.1/64).toNat) (x3 ||| (ka (x0.1%64)))))):=kT
   refine z<|aJ<|nx<|rg<|k<|add J J rr J (by have h_:=Nn bV;unfold aM;omega)<|ak (v:=C ((j:Int)+1)) J J<|z ?_
   have qR:HI M w Xm ((J5::dE)++bC w.heap.size 151 fK (xs.set x0.2.toNat (x1.set ((x0.1/64).toNat) (x3 ||| (ka (x0.1%64)))))):=HI.aR (l:=(J6::J5::dE)) (l':=(J5::dE)) (t:=bC w.heap.size 151 fK (xs.set x0.2.toNat (x1.set ((x0.1/64).toNat) (x3 ||| (ka (x0.1%64)))))) j7 [1,2,3,4,5,6] aw rfl rfl
   refine bB _ ?_ ⟨(j+1),(xs.set x0.2.toNat (x1.set ((x0.1/64).toNat) (x3 ||| (ka<|x0.1%64)))),J,mQ,mP,nM,pv,(bJ J),qR,aq,(by simp only[anj];exact hl),(by exact Ru hs aP me iA Tq Tp)⟩
   omega
 have p0:=dF b0
 refine ex<|aW<|bc<|bg<|nx<|sq ?_
 have db:HI M w w6 [own w.heap.size 144 (.slice a0 mn.toNat c0) xs,J5,J4,J2,J1,J0]:=HI.deep (l:=[J5,J4,J2,J1,J0]) (HI.aR (l:=(J5::dE)) (l':=[J3,J5,J4,J2,J1,J0]) (t:=bC w.heap.size 151 fK xs) dH [2,0,1,3,4,5] aw rfl rfl) bq
 refine rg<|k<|cz db 2 J bm J s1 aw J<|k<|bt db 3 J bm J J s0 J J J J ?_
 intro w7 (dw:HI M w w7 [own w.heap.size 144 (.slice a0 mn.toNat c0) xs,J5,J4,box aZ #[C mn,.slice a0 mn.toNat c0] 26,J1,J0])
 refine av<|rt<|oY dw 3 J bm J J s0 J aw ?_
 have e1:(xs:List (List bY))=gI mn mr:=by exact UO hs aq
 have l1:mn.toNat=(gI mn mr).length:=by rw[B3]
 have bo:=iB (fun (uS:Nat)=>(.agg #[C mn,.slice a0 uS c0]:Value)) l1
 exact⟨a0,c0,bo,dw.below,(ani (fun (n_:Nat)=>bj _ _ _ (gI mn mr) (.slice a0 n_ c0) _) l1).mp ((ani (fun (x_:List (List bY))=>bj _ _ _ x_ (.slice a0 mn.toNat c0) _) e1).mp (dw.df 0 J))⟩
theorem LR (hM:eG M w) (fY:aM mn) (gl:cA M w bA bz mr) (bV:bF mn mr=true):Calls aK 94 #[.agg #[C mn,R bA mr bz]] w (cg fun v w'=>∃(a0:OA) (c0:Nat) (fK:List SV),v=.agg #[C mn,.slice a0 mn.toNat c0]∧Ext w w'∧Kp M 144 151 w fK mr (.slice a0 mn.toNat c0) w'):=by
 refine dm 30 Tryz.func94 J J J hM fun f0 ha H=>?_
 let J0:=iL bA mr bz
 have H0:=H.put (it:=J0) J<|by rw[bN];exact gl
 have np:=bf gl
 have i0:f0 0=.agg #[C mn,R bA mr bz]:=ha 0 bh
 refine aB<|k<|bx H0 J i0 ?_
 intro aX w0 bT (H1:HI M w w0 [box aX #[C mn,R bA mr bz] 26,J0])
 let J1:=box aX #[C mn,R bA mr bz] 26
 refine k<|al H1 bm ?_
 intro aZ w1 da (H2:HI M w w1 [box aZ #[C 0,.slice none 0 0] 26,J1,J0])
 let J2:=box aZ #[C 0,.slice none 0 0] 26
 refine bp<|aS kh J J<|bl H2 1 J aV J J J<|k ?_
 have bP:=Fh (n:=mn) H2.mb fY (by exact kL bV)<|by exact(bO bV).2.2.1
 refine ca GH J (ec J e0) bP ?_
 rintro _ w2 ⟨a0,c0,fK,rfl,eR,cq⟩
 have H3:=H2.F_ cq
 let J3:=own w.heap.size 144 (.slice a0 mn.toNat c0) fK
 let ba:=[J3,J2,J1,J0]
 have H4:HI M w w2 (ba++bC w.heap.size 151 fK (List.replicate mn.toNat (d_ mn))):=H3
 have EW:=cq.1
 refine ak (v:=.tuple #[.agg #[C mn,.slice a0 mn.toNat c0],C 0]) J J<|k<|xt J J J<|k<|xt J J J<|k<|al H4 bm ?_
 intro bD w3 fH (H5:HI M w w3 ((box bD #[C 0,.slice none 0 0] 26::ba)++bC w.heap.size 151 fK (List.replicate mn.toNat (d_ mn))))
 refine k<|bt H5 0 J bm J J J J J J J ?_
 let J4:=box bD #[C mn,.slice a0 mn.toNat c0] 26
 intro w4 (H6:HI M w w4 ((J4::ba)++bC w.heap.size 151 fK (List.replicate mn.toNat (d_ mn))))
 refine au (v:=C 0) J J<|av<|sq<|aB<|aS iw J J<|bl H6 3 J kW J J J<|k<|dP J J ib<|ak (v:=C 0) J J<|av<|bk<|lp (fun m f w'=>∃(j:Nat) (xs:List (List bY)),m=mr.length-j∧f 2=pV aZ 0∧f 3=pV bD 0∧f 14=R bA mr bz∧f 15=C (mr.length:Int)∧f 16=C (j:Int)∧HI M w w' ((J4::ba)++bC w.heap.size 151 fK xs)∧(j≤mr.length)∧(fK.length=xs.length)∧(xs=mr.take j++List.replicate (mn.toNat-j) (d_ mn))) _ ⟨0,(List.replicate mn.toNat<|d_ mn),J,J,J,J,J,(bJ J),H6,aq,(by exact cq.1),bh⟩ ?_
 rintro _ f0 w5 ⟨j,xs,rfl,s0,s1,s2,s3,s4,H7,hk,hl,hs⟩
 refine aB<|k<|lss J J s4 s3<|av<|sq<|cd (b:=decide ((j:Int)<(mr.length:Int))) J J (fun b0=>?_)<|fun b0=>?_
 ·
  have p0:=dT b0
  refine sk<|nx<|sq<|bk<|aB<|ak J s4<|k<|ia (H7.rv 4 J) J J s2 s4 aq ib de ?_
  intro iC x0 aP ct
  refine k<|te ct.w de J J ?_
  intro a1 c1 dZ
  have zV:=bf dZ
  have H8:=dS H7 dZ
  let bZ:=iL a1 x0 c1::J4::ba
  have H9:HI M w w5 (bZ++bC w.heap.size 151 fK xs):=H8
  refine au (v:=C (j:Int)) J J<|au (v:=R a1 x0 c1) J J<|z<|nx ?_
  have xl_:xs.length=mr.length:=by have h_:=(bO bV).1;rw[hs,fA,gY,od];omega
  refine rg<|aS iw J s1<|bl H9 1 J kW J J J<|ak (v:=C (j:Int)) J J<|k ?_
  obtain⟨a2,x1,c2,lT,me⟩:=tX (i:=(j:Int).toNat) H9 bq aq
  refine ij (H9.at_ 2 J) J J J J aq ib de ?_
  intro g0 x2 iq cP gL
  obtain rfl:(⟨a2,x1.length,c2⟩:SV)=x2:=anm (lT.symm.trans cP)
  refine k<|I4 gL de J J<|ak (v:=R a1 x0 c1) J J<|k<|cpO H9 _ (px lT me) J J J J J (H9.rv 0 J).src ic fl (by exact ZE bV hs aP me) (by exact ZD bV hs aP me) ?_
  intro w6 db
  have dH:=HI.zH (M:=fun _=>False) (it:=tg (.int .i64 0) (0:Int)) db lT
  have dw:HI M w w6 (bZ++bC w.heap.size 151 fK (xs.set ((j:Int).toNat) x0)):=dH
  refine z<|aJ<|nx<|rg<|k<|add J J s4 J aT<|ak (v:=C ((j:Int)+1)) J J<|z ?_
  have dz:HI M w w6 ((J4::ba)++bC w.heap.size 151 fK (xs.set ((j:Int).toNat) x0)):=HI.aR (l:=bZ) (l':=(J4::ba)) (t:=bC w.heap.size 151 fK (xs.set ((j:Int).toNat) x0)) dw [1,2,3,4,5] aw rfl rfl
  refine bB _ ?_ ⟨(j+1),(xs.set ((j:Int).toNat) x0),J,s0,s1,s2,s3,(bJ J),dz,aq,(by simp only[anj];exact hl),(by exact Vq bV hs aP)⟩
  omega
 have p0:=dF b0
 refine ex<|aW<|bc<|bg<|cO<|k<|cz H7 0 J bm J s1 aw J<|k<|bt H7 2 J bm J J s0 J J J J ?_
 intro w6 (H8:HI M w w6 ([J4,J3,box aZ #[C mn,.slice a0 mn.toNat c0] 26,J1,J0]++bC w.heap.size 151 fK xs))
 refine av<|rt<|oY H8 2 J bm J J s0 J aw ?_
 have e1:(xs:List (List bY))=mr:=by exact ZF bV hs aq
 have w1:fK.length=(xs).length:=by assumption
 exact⟨a0,c0,fK,J,H8.below,(ani (fun (x_:List (List bY))=>Kp _ 144 151 _ fK x_ (.slice a0 mn.toNat c0) _) e1).mp ⟨w1,HI.aR (l:=[box bD #[C mn,.slice a0 mn.toNat c0] 26,own w.heap.size 144 (.slice a0 mn.toNat c0) fK,box aZ #[C mn,.slice a0 mn.toNat c0] 26,box aX #[C mn,R bA mr bz] 26,iL bA mr bz]) (l':=[own w.heap.size 144 (.slice a0 mn.toNat c0) fK]) (t:=bC w.heap.size 151 fK xs) H8 [1] aw rfl rfl⟩⟩
theorem adr:cu aK 94:=⟨_,_,Tryz.func94,rfl,aC⟩
theorem V8:cu aK 95:=⟨_,_,Tryz.func95,rfl,aC⟩
theorem Fw:cu aK 64:=⟨_,_,Tryz.func64,rfl,aC⟩
theorem wo (hM:eG M w) (fY:aM mn) (gl:cA M w bA bz mr) (bV:bF mn mr=true):Calls aK 58 #[.agg #[C mn,R bA mr bz]] w (cg fun v w'=>∃(a0:OA) (c0:Nat),v=.agg #[C mn,.slice a0 (fc mn mr).length c0]∧Ext w w'∧bj M 144 w (fc mn mr) (.slice a0 (fc mn mr).length c0) w'):=by
 refine dm 41 Tryz.func58 J J J hM fun f0 ha H=>?_
 let J0:=iL bA mr bz
 have H0:=H.put (it:=J0) J<|by rw[bN];exact gl
 have np:=bf gl
 have i0:f0 0=.agg #[C mn,R bA mr bz]:=ha 0 bh
 have tK:=(bO bV).1;have Jl:=(bO bV).2.2.1;have Ep:=kL bV
 refine aB<|k<|bx H0 J i0 ?_
 intro aX w0 bT (H1:HI M w w0 [box aX #[C mn,R bA mr bz] 26,J0])
 let J1:=box aX #[C mn,R bA mr bz] 26
 refine k<|al H1 bm ?_
 intro aZ w1 da (H2:HI M w w1 [box aZ #[C 0,.slice none 0 0] 26,J1,J0])
 let J2:=box aZ #[C 0,.slice none 0 0] 26
 refine bp<|k<|cz H2 1 J bm J J aw J<|k ?_
 have bP:=LR (mn:=mn) (mr:=mr) H2.mb fY (H2.rv 2 J)<|by exact bV
 refine ca adr J (ec J e0) bP ?_
 rintro _ w2 ⟨a0,c0,fK,rfl,eR,cq⟩
 have H3:=H2.F_ cq
 let J3:=own w.heap.size 144 (.slice a0 mn.toNat c0) fK
 have H4:HI M w w2 ([J3,J2,J1,J0]++bC w.heap.size 151 fK mr):=H3
 have EW:=cq.1
 refine k<|al H4 bm ?_
 intro bD w3 fH (H5:HI M w w3 ([box bD #[C 0,.slice none 0 0] 26,J3,J2,J1,J0]++bC w.heap.size 151 fK mr))
 refine k<|bt H5 0 J bm J J J J J J J ?_
 let J4:=box bD #[C mn,.slice a0 mn.toNat c0] 26
 intro w4 (H6:HI M w w4 ([J4,J3,J2,J1,J0]++bC w.heap.size 151 fK mr))
 refine av<|sq<|aB<|aS iw J J<|bl H6 0 J kW J J J<|k<|dP J J ib<|ak (v:=C 0) J J<|av<|bk<|lp (fun m f w'=>∃(q:Nat) (xs:List (List bY)),m=mn.toNat-q∧f 2=pV aZ 0∧f 3=pV bD 0∧f 10=C (mn.toNat:Int)∧f 11=C (q:Int)∧HI M w w' ([J4,J3,J2,J1,J0]++bC w.heap.size 151 fK xs)∧(q≤mn.toNat)∧(fK.length=xs.length)∧(xs=cE mn.toNat (wM (fW mr) q))∧(xs.length=mn.toNat)) _ ⟨0,mr,J,J,J,J,(bJ J),H6,aq,(by exact EW),(by exact NK bV),aq⟩ ?_
 rintro _ f0 w5 ⟨q,xs,rfl,s0,s1,s2,s3,H7,hk,hl,hs,Eg⟩
 refine aB<|k<|lss J J s3 s2<|av<|sq<|cd (b:=decide ((q:Int)<(mn.toNat:Int))) J J (fun b0=>?_)<|fun b0=>?_
 ·
  have p0:=dT b0
  refine sk<|nx<|sq<|bk<|aB<|ak J s3<|au (v:=C (q:Int)) J J<|bp<|aS iw J s1<|bl H7 0 J kW J J J<|k<|dP J J ib<|ak (v:=C 0) J J<|av<|bk<|lp (fun m f w'=>∃(i:Nat) (ys:List (List bY)),m=mn.toNat-i∧f 2=pV aZ 0∧f 3=pV bD 0∧f 4=C (q:Int)∧f 10=C (mn.toNat:Int)∧f 11=C (q:Int)∧f 16=C (mn.toNat:Int)∧f 17=C (i:Int)∧HI M w w' ([J4,J3,J2,J1,J0]++bC w.heap.size 151 fK ys)∧(i≤mn.toNat)∧(fK.length=ys.length)∧(ys=cE mn.toNat (wR (fW mr) q i))∧(ys.length=mn.toNat)) _ ⟨0,xs,J,s0,s1,J,s2,s3,J,(bJ J),H7,aq,(by exact hl),(by rw[hs];exact Zg _ _ _),(by exact Eg)⟩ ?_
  rintro _ f1 w6 ⟨i,ys,rfl,s4,s5,s6,s7,s8,s9,eo,H8,Ya,kQ,gK,zX⟩
  refine aB<|k<|lss J J eo s9<|av<|sq<|cd (b:=decide ((i:Int)<(mn.toNat:Int))) J J (fun b1=>?_)<|fun b1=>?_
  ·
   have p1:=dT b1
   refine sk<|nx<|sq<|bk<|aB<|ak J eo<|au (v:=C (i:Int)) J J<|bp<|aS iw J s5<|bl H8 0 J kW J J J<|ak (v:=C (i:Int)) J J<|k ?_
   obtain⟨a1,x0,c1,lT,me⟩:=tX (i:=(i:Int).toNat) H8 bq aq
   refine ij (H8.at_ 1 J) J J J J aq ib de ?_
   intro g0 x1 iq aP ct
   obtain rfl:(⟨a1,x0.length,c1⟩:SV)=x1:=anm (lT.symm.trans aP)
   refine k<|I4 ct de J J<|ak J s6<|k ?_
   have cS:=zG (r:=x0) (i:=(q:Int)) (w:=w6) (M:=fun _=>False) (fun _ h_=>h_.elim) (abm H8 lT me) aT
   refine ca Mh J (ec J<|ec J e0) cS ?_
   rintro _ w7 ⟨rfl,ja⟩
   have H9:=H8.ext ja
   refine z<|nx<|cd (b:=fg x0 (q:Int)) J J (fun b2=>?_)<|fun b2=>?_
   ·
    obtain⟨a2,x3,c2,Gx,SX⟩:=tX (i:=(q:Int).toNat) H9 bq aq
    refine dr 10 [eV (pV bD 1),eV (.slice a0 mn.toNat c0),eV (C (i:Int)),fun v w'=>∃(g1:Nat),v=.pointer (some ⟨g1,(i:Int).toNat*1,none⟩)∧(.slice a0 mn.toNat c0:Value).ownBlock=some g1∧hG H9.fV w' ⟨g1,(i:Int).toNat*1,none⟩ (⟨a1,x0.length,c1⟩:SV),eV (R a1 x0 c1),eV (pV bD 1),eV (.slice a0 mn.toNat c0),eV (C (q:Int)),fun v w'=>∃(g2:Nat),v=.pointer (some ⟨g2,(q:Int).toNat*1,none⟩)∧(.slice a0 mn.toNat c0:Value).ownBlock=some g2∧hG H9.fV w' ⟨g2,(q:Int).toNat*1,none⟩ (⟨a2,x3.length,c2⟩:SV),eV (R a2 x3 c2)] J aC ?_ ?_
    ·
     refine dc (fun _ _ S_ _ _=>fa iw J ((S_ 3 J).trans s5)<|d0 J J)<|dc (fun _ _ _ kb Jc=>lx (H9.ext kb) 0 J kW J (Jc 0 J J) J<|d0 J J)<|dc (fun _ _ L6 _ _=>mv J (L6 5 J)<|d0 J J) ?_
     refine⟨fun _=>⟨fun f5 ef hf3 nr yx=>?_,by rintro _ _ _ x_ ⟨g1,e_,kG,gL⟩;exact⟨g1,e_,kG,gL.ext x_⟩⟩,?_⟩
     ·
      have dz:=H9.ext nr
      have fM:f5 28=.slice a0 mn.toNat c0:=yx 1 rfl rfl
      have fL:f5 29=C (i:Int):=yx 2 rfl rfl
      refine ij (dz.at_ 1 J) J J fM fL aq ib de ?_
      intro g3 x5 XX mW u5
      obtain rfl:(⟨a1,x0.length,c1⟩:SV)=x5:=anm (lT.symm.trans mW)
      exact⟨_,J,Ext.refl _,⟨g3,J,XX,u5⟩⟩
     refine dc (fun f6 fh hf4 tD El=>?_) ?_
     ·
      obtain⟨g4,gB,hv4,xD⟩:∃(g4:Nat),f6 30=.pointer (some ⟨g4,(i:Int).toNat*1,none⟩)∧(.slice a0 mn.toNat c0:Value).ownBlock=some g4∧hG H9.fV fh ⟨g4,(i:Int).toNat*1,none⟩ (⟨a1,x0.length,c1⟩:SV):=El 3 rfl rfl
      refine I4 xD de J gB ?_
      exact⟨_,J,Ext.refl _,J⟩
     refine dc (fun _ _ Yd _ _=>fa iw J ((Yd 3 J).trans s5)<|d0 J J)<|dc (fun _ _ _ Ho Jb=>lx (H9.ext Ho) 0 J kW J (Jb 5 J J) J<|d0 J J)<|dc (fun _ _ hf7 _ _=>mv J ((hf7 4 J).trans s6)<|d0 J J) ?_
     refine⟨fun _=>⟨fun f10 uF hf8 Kw BG=>?_,by rintro _ _ _ x_ ⟨g2,e_,BF,kR⟩;exact⟨g2,e_,BF,kR.ext x_⟩⟩,?_⟩
     ·
      have dM:=H9.ext Kw
      have ky:f10 33=.slice a0 mn.toNat c0:=BG 6 rfl rfl
      have ln:f10 34=C (q:Int):=BG 7 rfl rfl
      refine ij (dM.at_ 1 J) J J ky ln aq ib de ?_
      intro g5 x6 hv5 yr OS
      obtain rfl:(⟨a2,x3.length,c2⟩:SV)=x6:=anm (Gx.symm.trans yr)
      exact⟨_,J,Ext.refl _,⟨g5,J,hv5,OS⟩⟩
     refine dc (fun f11 sM hf9 aaP Ek=>?_) ?_
     ·
      obtain⟨g6,mQ,hv6,Tn⟩:∃(g6:Nat),f11 35=.pointer (some ⟨g6,(q:Int).toNat*1,none⟩)∧(.slice a0 mn.toNat c0:Value).ownBlock=some g6∧hG H9.fV sM ⟨g6,(q:Int).toNat*1,none⟩ (⟨a2,x3.length,c2⟩:SV):=Ek 8 rfl rfl
      refine I4 Tn de J mQ ?_
      exact⟨_,J,Ext.refl _,J⟩
     exact mj.rest J _
    ·
     intro f12 sK Bc Pw vI
     have cF:=H9.ext Pw
     have mP:=(Bc 2 J).trans s4
     have nM:=(Bc 3 J).trans s5
     have pv:=(Bc 4 J).trans s6
     have rr:=(Bc 10 J).trans s7
     have BD:=(Bc 11 J).trans s8
     have Ca:=(Bc 16 J).trans s9
     have F4:=(Bc 17 J).trans eo
     have BC:=vI 4 J
     have F3:=vI 9 J
     refine k ?_
     have fS:=CI cF (px (l:=[J4,J3,J2,J1,J0]) lT me) (px (l:=[J4,J3,J2,J1,J0]) Gx SX) (by have O6:=me;rw[gK] at O6;have O5:=SX;rw[gK] at O5;rw[KD O6,KD O5];exact anl _) (by have O5:=SX;rw[gK] at O5;rw[KD O5];have h_:=ER (n:=((mn.toNat:Nat):Int)) aq;omega)<|Z2 lT Gx me SX
     refine ca V8 J (ec BC<|ec F3 e0) fS ?_
     rintro _ uE ⟨rfl,dG⟩
     have dV:=HI.zH (M:=fun _=>False) (it:=tg (.int .i64 0) (0:Int)) dG lT
     have eS:HI M w uE ([J4,J3,J2,J1,J0]++bC w.heap.size 151 fK (ys.set ((i:Int).toNat) (jE x0 x3))):=dV
     refine z<|aJ<|nx<|rg<|k<|add J J F4 J aT<|ak (v:=C ((i:Int)+1)) J J<|z<|bB _ ?_ ⟨(i+1),(ys.set ((i:Int).toNat) (jE x0 x3)),J,mP,nM,pv,rr,BD,Ca,(bJ J),eS,aq,(by rw[anj];exact kQ),(by exact aaW gK me SX aq b2),(by rw[anj];exact zX)⟩
     omega
   refine sk<|aJ<|nx<|rg<|k<|add J J eo J aT<|ak (v:=C ((i:Int)+1)) J J<|z<|bB _ ?_ ⟨(i+1),ys,J,s4,s5,s6,s7,s8,s9,(bJ J),H9,aq,(by exact kQ),(by exact aeP gK me aq b2),(by exact zX)⟩
   omega
  have p1:=dF b1
  refine ex<|aW<|bc<|bg<|aJ<|nx<|rg<|k<|add J J s8 J aT<|ak (v:=C ((q:Int)+1)) J J<|z<|bB _ ?_ ⟨(q+1),ys,J,s4,s5,s7,(bJ J),H8,aq,(by exact kQ),(by rw[gK];exact aaX _ aq),(by exact zX)⟩
  omega
 have p0:=dF b0
 refine ex<|aW<|bc<|bg<|nx<|sq ?_
 have H8:HI M w w5 [own w.heap.size 144 (.slice a0 mn.toNat c0) xs,J4,J2,J1,J0]:=HI.deep (l:=[J4,J2,J1,J0]) (HI.aR (l:=[J4,J3,J2,J1,J0]) (l':=[J3,J4,J2,J1,J0]) (t:=bC w.heap.size 151 fK xs) H7 [1,0,2,3,4] aw rfl rfl) bq
 refine rg<|k<|cz H8 1 J bm J s1 aw J<|k<|bt H8 2 J bm J J s0 J J J J ?_
 intro w6 (H9:HI M w w6 [own w.heap.size 144 (.slice a0 mn.toNat c0) xs,J4,box aZ #[C mn,.slice a0 mn.toNat c0] 26,J1,J0])
 refine av<|rt<|oY H9 2 J bm J J s0 J aw ?_
 have e1:(xs:List (List bY))=fc mn mr:=by exact T0 hs aq aq
 have l1:mn.toNat=(fc mn mr).length:=by rw[←e1];omega
 have bo:=iB (fun (uS:Nat)=>(.agg #[C mn,.slice a0 uS c0]:Value)) l1
 exact⟨a0,c0,bo,H9.below,(ani (fun (n_:Nat)=>bj _ _ _ (fc mn mr) (.slice a0 n_ c0) _) l1).mp ((ani (fun (x_:List (List bY))=>bj _ _ _ x_ (.slice a0 mn.toNat c0) _) e1).mp (H9.df 0 J))⟩
theorem yw (hM:eG M w) (fY:aM mn) (gl:cA M w bA bz mr) (bV:bF mn mr=true):Calls aK 62 #[.agg #[C mn,R bA mr bz]] w (cg fun v w'=>v=.tuple #[C (((cQ mn mr).getD 0:Nat):Int),.bool ((cQ mn mr).isSome)]∧Ext w w'):=by
 refine dm 17 Tryz.func62 J J J hM fun f0 ha H=>?_
 have H0:=dS H gl
 have np:=bf gl
 have i0:f0 0=.agg #[C mn,R bA mr bz]:=ha 0 bh
 have tK:=(bO bV).1;have Jl:=(bO bV).2.2.1;have Ep:=kL bV
 refine aB<|k<|bx H0 J i0 ?_
 intro aX w0 bT (H1:HI M w w0 [box aX #[C mn,R bA mr bz] 26,iL bA mr bz])
 refine au (v:=C 0) J J<|au (v:=.bool false) J J<|av<|sq<|aB<|aS iw J J<|bl H1 0 J kW J J J<|k<|dP J J ib<|ak (v:=C 0) J J<|av<|bk<|lp (fun m f w'=>∃(j:Nat),m=mr.length-j∧f 1=pV aX 0∧f 7=C (mr.length:Int)∧f 8=C (j:Int)∧HI M w w' [box aX #[C mn,R bA mr bz] 26,iL bA mr bz]∧(j≤mr.length)∧(∀k,k<j→eF mn mr ((k:Nat):Int) ((k:Nat):Int)=false)) _ ⟨0,J,J,J,(bJ J),H1,aq,(by intro k_ h_;omega)⟩ ?_
 rintro _ f0 w1 ⟨j,rfl,s0,s1,s2,H2,hk,hs⟩
 refine aB<|k<|lss J J s2 s1<|av<|sq<|cd (b:=decide ((j:Int)<(mr.length:Int))) J J (fun b0=>?_)<|fun b0=>?_
 ·
  have p0:=dT b0
  refine sk<|nx<|sq<|bk<|aB<|ak J s2<|au (v:=C (j:Int)) J J<|bp<|k<|cz H2 0 J bm J s0 aw J<|ak (v:=C (j:Int)) J J<|ak (v:=C (j:Int)) J J<|k ?_
  have bP:=ud (mn:=mn) (mr:=mr) (i:=(j:Int)) (j:=(j:Int)) H2.mb fY (H2.rv 1 J) aT aT (by exact(bO bV).1) (by exact(bO bV).2.1)<|by exact(bO bV).2.2.1
  refine ca Fw J (ec J<|ec J<|ec J e0) bP ?_
  rintro _ w2 ⟨rfl,da⟩
  have H3:=H2.ext da
  refine z<|nx<|cd (b:=eF mn mr (j:Int) (j:Int)) J J (fun b1=>?_)<|fun b1=>?_
  ·
   refine aB<|ak (v:=C (j:Int)) J J<|au (v:=C (j:Int)) J J<|au (v:=.bool true) J J<|av<|rt<|bQ<|aL<|dU<|bQ<|aL<|r2 J J J ?_
   have e0:((j:Int):Int)=(((cQ mn mr).getD 0:Nat):Int):=by rw[LA aq b1 hs];rfl
   have e1:(true:Bool)=(cQ mn mr).isSome:=by rw[LA aq b1 hs];rfl
   have bo:=nA (fun (bW:Int) (dK:Bool)=>(.tuple #[C bW,.bool dK]:Value)) e0 e1
   exact⟨bo,H3.below⟩
  refine sk<|aJ<|nx<|rg<|k<|add J J s2 J aT<|ak (v:=C ((j:Int)+1)) J J<|z<|bB _ ?_ ⟨(j+1),J,s0,s1,(bJ J),H3,aq,(by exact Q8 (p:=fun k=>eF mn mr ((k:Nat):Int) ((k:Nat):Int)) hs b1)⟩
  omega
 have p0:=dF b0
 refine ex<|aW<|bc<|bg<|cO<|au (v:=C 0) J J<|au (v:=.bool false) J J<|av<|rt<|r2 J J J ?_
 have e0:(0:Int)=(((cQ mn mr).getD 0:Nat):Int):=by rw[I1 aq hs];rfl
 have e1:(false:Bool)=(cQ mn mr).isSome:=by rw[I1 aq hs];rfl
 have bo:=nA (fun (bW:Int) (dK:Bool)=>(.tuple #[C bW,.bool dK]:Value)) e0 e1
 exact⟨bo,H2.below⟩
theorem Fj (hM:eG M w) (fY:aM mn) (gl:cA M w bA bz mr) (qH:aM i) (BP:aM j) (bV:bF mn mr=true):Calls aK 66 #[.agg #[C mn,R bA mr bz],C i,C j] w (cg fun v w'=>∃(a0:OA) (c0:Nat),v=.tuple #[.agg #[C (ie mn i j),.slice a0 (gU mn mr i j).length c0],C (lC mn i j)]∧Ext w w'∧RV M w' (.slice a0 (gU mn mr i j).length c0) (gU mn mr i j)):=by
 refine dm 71 Tryz.func66 J J J hM fun f0 ha H=>?_
 let J0:=iL bA mr bz
 have H0:=H.put (it:=J0) J<|by rw[bN];exact gl
 have np:=bf gl
 have i0:f0 0=.agg #[C mn,R bA mr bz]:=ha 0 bh
 have i1:f0 1=C i:=ha 1 bh
 have i2:f0 2=C j:=ha 2 bh
 have tK:=(bO bV).1;have Jl:=(bO bV).2.2.1;have Ep:=kL bV
 refine aB<|k<|bx H0 J i0 ?_
 intro aX w0 bT (H1:HI M w w0 [box aX #[C mn,R bA mr bz] 26,J0])
 let J1:=box aX #[C mn,R bA mr bz] 26
 refine k<|al H1 bm ?_
 intro aZ w1 da (H2:HI M w w1 [box aZ #[C 0,.slice none 0 0] 26,J1,J0])
 let J2:=box aZ #[C 0,.slice none 0 0] 26
 refine au (v:=C 0) J J<|av<|sq<|aB<|ak J i1<|k<|lss J J J J<|ak (v:=.bool (decide (i<0))) J J ?_
 rcases bE (decide (i<0)) with b0|b0
 ·
  have p0:=dT b0
  refine aO J J J b0<|aO J J J b0<|aO J J J b0<|aO J J J b0<|k<|aR J J J J b0 J<|ak (v:=.bool true) J J<|aO J J J J<|aO J J J J<|k<|aR J J J J J J<|ak (v:=.bool true) J J<|aO J J J J<|aO J J J J<|aO J J J J<|aO J J J J<|k<|aR J J J J J J<|av<|nS J J J<|aB<|k<|bd (v:=.agg #[C 0,.slice none 0 0]) J eh (fun _=>aC)<|k<|bt H2 0 J bm J J J J J J J ?_
  intro w2 (H3:HI M w w2 [J2,J1,J0])
  refine au (v:=C 1) J J<|av<|rt<|aL<|im H3 0 J bm J J J J J aw ?_
  have e0:(0:Int)=ie mn i j:=by exact(oB (rs:=mr) (j4.2 aq)).1.symm
  have e1:([]:List (List bY))=gU mn mr i j:=by exact(Hd (rs:=mr) (j4.2 aq)).2.1.symm
  have e2:(1:Int)=lC mn i j:=by exact(oB (rs:=mr) (j4.2 aq)).2.2.symm
  have bo:=qN (fun (bW:Int) (dK:List (List bY)) (gA:Int)=>(.tuple #[.agg #[C bW,.slice none dK.length 0],C gA]:Value)) e0 e1 e2
  exact⟨none,0,bo,H3.below,(ani (fun (x_:List (List bY))=>RV _ _ (.slice none x_.length 0) x_) e1).mp (ee _ _)⟩
 have p0:=dF b0
 refine aU J J J b0<|mv J i1<|aU J J J b0<|fa kh J J<|aU J J J b0<|lx H2 1 J aV J J J<|aU J J J b0<|geq J J J J<|k<|cJ J J J J b0 J<|ak (v:=.bool (decide (mn≤i))) J J ?_
 rcases bE (decide (mn≤i)) with b1|b1
 ·
  have p1:=dT b1
  refine aO J J J b1<|aO J J J b1<|k<|aR J J J J b1 J<|ak (v:=.bool true) J J<|aO J J J J<|aO J J J J<|aO J J J J<|aO J J J J<|k<|aR J J J J J J<|av<|nS J J J<|aB<|k<|bd (v:=.agg #[C 0,.slice none 0 0]) J eh (fun _=>aC)<|k<|bt H2 0 J bm J J J J J J J ?_
  intro w2 (H3:HI M w w2 [J2,J1,J0])
  refine au (v:=C 1) J J<|av<|rt<|aL<|im H3 0 J bm J J J J J aw ?_
  have e0:(0:Int)=ie mn i j:=by exact(oB (rs:=mr) (j4.2 aq)).1.symm
  have e1:([]:List (List bY))=gU mn mr i j:=by exact(Hd (rs:=mr) (j4.2 aq)).2.1.symm
  have e2:(1:Int)=lC mn i j:=by exact(oB (rs:=mr) (j4.2 aq)).2.2.symm
  have bo:=qN (fun (bW:Int) (dK:List (List bY)) (gA:Int)=>(.tuple #[.agg #[C bW,.slice none dK.length 0],C gA]:Value)) e0 e1 e2
  exact⟨none,0,bo,H3.below,(ani (fun (x_:List (List bY))=>RV _ _ (.slice none x_.length 0) x_) e1).mp (ee _ _)⟩
 have p1:=dF b1
 refine aU J J J b1<|mv J i2<|aU J J J b1<|lss J J J J<|k<|cJ J J J J b1 J<|ak (v:=.bool (decide (j<0))) J J ?_
 rcases bE (decide (j<0)) with b2|b2
 ·
  have p2:=dT b2
  refine aO J J J b2<|aO J J J b2<|aO J J J b2<|aO J J J b2<|k<|aR J J J J b2 J<|av<|nS J J J<|aB<|k<|bd (v:=.agg #[C 0,.slice none 0 0]) J eh (fun _=>aC)<|k<|bt H2 0 J bm J J J J J J J ?_
  intro w2 (H3:HI M w w2 [J2,J1,J0])
  refine au (v:=C 1) J J<|av<|rt<|aL<|im H3 0 J bm J J J J J aw ?_
  have e0:(0:Int)=ie mn i j:=by exact(oB (rs:=mr) (j4.2 aq)).1.symm
  have e1:([]:List (List bY))=gU mn mr i j:=by exact(Hd (rs:=mr) (j4.2 aq)).2.1.symm
  have e2:(1:Int)=lC mn i j:=by exact(oB (rs:=mr) (j4.2 aq)).2.2.symm
  have bo:=qN (fun (bW:Int) (dK:List (List bY)) (gA:Int)=>(.tuple #[.agg #[C bW,.slice none dK.length 0],C gA]:Value)) e0 e1 e2
  exact⟨none,0,bo,H3.below,(ani (fun (x_:List (List bY))=>RV _ _ (.slice none x_.length 0) x_) e1).mp (ee _ _)⟩
 have p2:=dF b2
 refine aU J J J b2<|mv J i2<|aU J J J b2<|fa kh J J<|aU J J J b2<|lx H2 1 J aV J J J<|aU J J J b2<|geq J J J J<|k<|cJ J J J J b2 J<|z<|nx<|cd (b:=decide (mn≤j)) J J (fun b3=>?_)<|fun b3=>?_
 ·
  have p3:=dT b3
  refine aB<|k<|bd (v:=.agg #[C 0,.slice none 0 0]) J eh (fun _=>aC)<|k<|bt H2 0 J bm J J J J J J J ?_
  intro w2 (H3:HI M w w2 [J2,J1,J0])
  refine au (v:=C 1) J J<|av<|rt<|aL<|im H3 0 J bm J J J J J aw ?_
  have e0:(0:Int)=ie mn i j:=by exact(oB (rs:=mr) (j4.2 aq)).1.symm
  have e1:([]:List (List bY))=gU mn mr i j:=by exact(Hd (rs:=mr) (j4.2 aq)).2.1.symm
  have e2:(1:Int)=lC mn i j:=by exact(oB (rs:=mr) (j4.2 aq)).2.2.symm
  have bo:=qN (fun (bW:Int) (dK:List (List bY)) (gA:Int)=>(.tuple #[.agg #[C bW,.slice none dK.length 0],C gA]:Value)) e0 e1 e2
  exact⟨none,0,bo,H3.below,(ani (fun (x_:List (List bY))=>RV _ _ (.slice none x_.length 0) x_) e1).mp (ee _ _)⟩
 have p3:=dF b3
 refine sk<|nx<|sq<|sq ?_
 have hq:ko mn [i,j]=true:=jh.2 aq
 refine rg<|k<|cz H2 1 J bm J J aw J<|ak J i1<|ak J i2<|k ?_
 have bP:=ud (mn:=mn) (mr:=mr) (i:=i) (j:=j) H2.mb fY (H2.rv 2 J) qH BP (by exact(bO bV).1) (by exact(bO bV).2.1)<|by exact(bO bV).2.2.1
 refine ca Fw J (ec J<|ec J<|ec J e0) bP ?_
 rintro _ w2 ⟨rfl,eR⟩
 have H3:=H2.ext eR
 refine z<|nx<|cd (b:=eF mn mr i j) J J (fun b4=>?_)<|fun b4=>?_
 ·
  refine aB<|k<|cz H3 1 J bm J J aw J<|k<|bt H3 0 J bm J J J J J J J ?_
  intro w3 (H4:HI M w w3 [box aZ #[C mn,R bA mr bz] 26,J1,J0])
  refine au (v:=C 0) J J<|av<|rt<|aL<|im H4 0 J bm J J J J J aw ?_
  have e0:(mn:Int)=ie mn i j:=by exact(pO (rs:=mr) (jh.2 aq)).1.symm
  have e1:(mr:List (List bY))=gU mn mr i j:=by exact(aaL hq bq).symm
  have e2:(0:Int)=lC mn i j:=by exact(pO (rs:=mr) (jh.2 aq)).2.2.symm
  have bo:=qN (fun (bW:Int) (dK:List (List bY)) (gA:Int)=>(.tuple #[.agg #[C bW,.slice bA dK.length bz],C gA]:Value)) e0 e1 e2
  exact⟨bA,bz,bo,H4.below,(ani (fun (x_:List (List bY))=>RV _ _ (.slice bA x_.length bz) x_) e1).mp (H4.fj 2 J)⟩
 refine sk<|cO<|aS iw J J<|bl H3 1 J kW J J J<|ak J i2<|k<|ia (H3.rv 2 J) J J J J aq ib de ?_
 intro iC x0 aP ct
 refine k<|te ct.w de J J ?_
 intro a0 c0 cq
 have zV:=bf cq
 let J3:=iL a0 x0 c0
 have H4:=H3.put (it:=J3) J cq
 refine ak J i2<|k ?_
 have cS:=tY (r:=x0) (i:=j) H4.mb (H4.rv 0 J) BP<|by exact(bO bV).2.1 _ (dB aP)
 refine ca Ft J (ec J<|ec J e0) cS ?_
 rintro _ w3 ⟨a1,c1,rfl,fH,dZ⟩
 have H5:=H4.eL dZ
 refine au (v:=R a1 (eb x0 j) c1) J J<|bp<|k<|cz H5 3 J bm J J aw J<|k ?_
 have fS:=LR (mn:=mn) (mr:=mr) H5.mb fY (H5.rv 4 J)<|by exact bV
 refine ca adr J (ec J e0) fS ?_
 rintro _ w4 ⟨a2,c2,fK,rfl,ja,dY⟩
 have H6:=H5.F_ dY
 let J4:=own w.heap.size 144 (.slice a2 mn.toNat c2) fK
 let J5:=oL w 151 a1 (eb x0 j) c1
 have H7:HI M w w4 ([J4,J5,J3,J2,J1,J0]++bC w.heap.size 151 fK mr):=H6
 have EW:=dY.1
 refine k<|al H7 bm ?_
 intro bD w5 ji (H8:HI M w w5 ([box bD #[C 0,.slice none 0 0] 26,J4,J5,J3,J2,J1,J0]++bC w.heap.size 151 fK mr))
 refine k<|bt H8 0 J bm J J J J J J J ?_
 let J6:=box bD #[C mn,.slice a2 mn.toNat c2] 26
 intro w6 (H9:HI M w w6 ([J6,J4,J5,J3,J2,J1,J0]++bC w.heap.size 151 fK mr))
 refine av<|sq<|aB<|aS iw J J<|bl H9 0 J kW J J J<|k<|dP J J ib<|ak (v:=C 0) J J<|av<|bk<|lp (fun m f w'=>∃(k_:Nat) (xs:List (List bY)),m=mn.toNat-k_∧f 1=C i∧f 3=pV aX 0∧f 6=pV aZ 0∧f 8=R a1 (eb x0 j) c1∧f 9=pV bD 0∧f 46=C (mn.toNat:Int)∧f 47=C (k_:Int)∧HI M w w' ([J6,J4,J5,J3,J2,J1,J0]++bC w.heap.size 151 fK xs)∧(k_≤mn.toNat)∧(fK.length=xs.length)∧(xs=cE mn.toNat (Aq (fW mr) i.toNat j.toNat k_))∧(xs.length=mn.toNat)) _ ⟨0,mr,J,i1,J,J,J,J,J,(bJ J),H9,aq,(by exact EW),(by exact W9 bV),aq⟩ ?_
 rintro _ f0 w7 ⟨k_,xs,rfl,s0,s1,s2,s3,s4,s5,s6,dH,hk,hl,hs,Eg⟩
 refine aB<|k<|lss J J s6 s5<|av<|sq<|cd (b:=decide ((k_:Int)<(mn.toNat:Int))) J J (fun b5=>?_)<|fun b5=>?_
 ·
  have p5:=dT b5
  refine sk<|nx<|sq<|bk<|aB<|ak J s6<|au (v:=C (k_:Int)) J J<|bp<|ak (v:=C (k_:Int)) J J<|ak J s0<|k<|eql J J J J<|ak (v:=.bool (decide ((k_:Int)=i))) J J ?_
  rcases bE (decide ((k_:Int)=i)) with b6|b6
  ·
   have p6:=dT b6
   refine aO J J J b6<|aO J J J b6<|aO J J J b6<|aO J J J b6<|aO J J J b6<|aO J J J b6<|aO J J J b6<|k<|aR J J J J b6 J<|av<|nS J J J<|rg<|aS iw J s4<|bl dH 0 J kW J J J<|ak (v:=C (k_:Int)) J J<|k ?_
   obtain⟨a3,x1,c3,lT,me⟩:=tX (i:=(k_:Int).toNat) dH bq aq
   refine ij (dH.at_ 1 J) J J J J aq ib de ?_
   intro g0 x2 iq cP gL
   obtain rfl:(⟨a3,x1.length,c3⟩:SV)=x2:=anm (lT.symm.trans cP)
   refine k<|I4 gL de J J<|ak J s3<|k ?_
   have eX:=CI dH (px (l:=[J6,J4,J5,J3,J2,J1,J0]) lT me) (j:=2) J (by rw[Uw bV hs me,ku,nI bV aP];exact anl _) (by rw[ku];exact(bO bV).2.1 _ (dB aP))<|.inl (by simp only[iM,gr];omega)
   refine ca V8 J (ec J<|ec J e0) eX ?_
   rintro _ w8 ⟨rfl,dw⟩
   have db:=HI.zH (M:=fun _=>False) (it:=tg (.int .i64 0) (0:Int)) dw lT
   have dz:HI M w w8 ([J6,J4,J5,J3,J2,J1,J0]++bC w.heap.size 151 fK (xs.set ((k_:Int).toNat) (jE x1 (eb x0 j)))):=db
   refine z<|aJ<|nx<|rg<|k<|add J J s6 J aT<|ak (v:=C ((k_:Int)+1)) J J<|z<|bB _ ?_ ⟨(k_+1),(xs.set ((k_:Int).toNat) (jE x1<|eb x0 j)),J,s0,s1,s2,s3,s4,s5,(bJ J),dz,aq,(by rw[anj];exact hl),(by exact Uv bV hq hs me aP (.inl aq)),(by rw[anj];exact Eg)⟩
   omega
  have p6:=dF b6
  refine aU J J J b6<|fa iw J s1<|aU J J J b6<|lx dH 5 J kW J J J<|aU J J J b6<|mv (v:=C (k_:Int)) J J<|aU J J J b6<|ia (dH.rv 6 J) J J J J aq ib de ?_
  intro rh x1 cP gL
  refine aU J J J b6<|te gL.w de J J ?_
  intro a3 c3 fu
  have ln1:=bf fu
  have db:=dS dH fu
  have dw:HI M w w7 ([iL a3 x1 c3,J6,J4,J5,J3,J2,J1,J0]++bC w.heap.size 151 fK xs):=db
  refine aU J J J b6<|mv J s0<|aU J J J b6 ?_
  have eX:=zG (r:=x1) (i:=i) dw.mb (dw.rv 0 J) qH
  refine ca Mh J (ec J<|ec J e0) eX ?_
  rintro _ w8 ⟨rfl,kb⟩
  have dz:=dw.ext kb
  refine k<|cJ J J J J b6 J<|z<|nx<|cd (b:=fg x1 i) J J (fun b7=>?_)<|fun b7=>?_
  ·
   refine rg<|aS iw J s4<|bl dz 1 J kW J J J<|ak (v:=C (k_:Int)) J J<|k ?_
   obtain⟨a4,x2,c4,lT,me⟩:=tX (i:=(k_:Int).toNat) dz bq aq
   refine ij (dz.at_ 2 J) J J J J aq ib de ?_
   intro g0 x3 iq iA kR
   obtain rfl:(⟨a4,x2.length,c4⟩:SV)=x3:=anm (lT.symm.trans iA)
   refine k<|I4 kR de J J<|ak J s3<|k ?_
   have kI:=CI dz (px (l:=[iL a3 x1 c3,J6,J4,J5,J3,J2,J1,J0]) lT me) (j:=3) J (by rw[Uw bV hs me,ku,nI bV aP];exact anl _) (by rw[ku];exact(bO bV).2.1 _ (dB aP))<|.inl (by simp only[iM,gr];omega)
   refine ca V8 J (ec J<|ec J e0) kI ?_
   rintro _ w9 ⟨rfl,dW⟩
   have cM:=HI.zH (M:=fun _=>False) (it:=tg (.int .i64 0) (0:Int)) dW lT
   have dt:HI M w w9 ([iL a3 x1 c3,J6,J4,J5,J3,J2,J1,J0]++bC w.heap.size 151 fK (xs.set ((k_:Int).toNat) (jE x2 (eb x0 j)))):=cM
   refine z<|aJ<|nx<|rg<|k<|add J J s6 J aT<|ak (v:=C ((k_:Int)+1)) J J<|z ?_
   have cR:HI M w w9 ([J6,J4,J5,J3,J2,J1,J0]++bC w.heap.size 151 fK (xs.set ((k_:Int).toNat) (jE x2 (eb x0 j)))):=HI.aR (l:=[iL a3 x1 c3,J6,J4,J5,J3,J2,J1,J0]) (l':=[J6,J4,J5,J3,J2,J1,J0]) (t:=bC w.heap.size 151 fK (xs.set ((k_:Int).toNat) (jE x2 (eb x0 j)))) dt [1,2,3,4,5,6,7] aw rfl rfl
   refine bB _ ?_ ⟨(k_+1),(xs.set ((k_:Int).toNat) (jE x2<|eb x0 j)),J,s0,s1,s2,s3,s4,s5,(bJ J),cR,aq,(by rw[anj];exact hl),(by exact Uv bV hq hs me aP (.inr ⟨_,cP,by assumption⟩)),(by rw[anj];exact Eg)⟩
   omega
  refine sk<|aJ<|nx<|rg<|k<|add J J s6 J aT<|ak (v:=C ((k_:Int)+1)) J J<|z ?_
  have cM:HI M w w8 ([J6,J4,J5,J3,J2,J1,J0]++bC w.heap.size 151 fK xs):=HI.aR (l:=[iL a3 x1 c3,J6,J4,J5,J3,J2,J1,J0]) (l':=[J6,J4,J5,J3,J2,J1,J0]) (t:=bC w.heap.size 151 fK xs) dz [1,2,3,4,5,6,7] aw rfl rfl
  refine bB _ ?_ ⟨(k_+1),xs,J,s0,s1,s2,s3,s4,s5,(bJ J),cM,aq,(by exact hl),(by exact agf bV hq hs aq cP bq),(by exact Eg)⟩
  omega
 have p5:=dF b5
 refine ex<|aW<|bc<|bg<|nx<|sq ?_
 have db:HI M w w7 [own w.heap.size 144 (.slice a2 mn.toNat c2) xs,J6,J5,J3,J2,J1,J0]:=HI.deep (l:=[J6,J5,J3,J2,J1,J0]) (HI.aR (l:=[J6,J4,J5,J3,J2,J1,J0]) (l':=[J4,J6,J5,J3,J2,J1,J0]) (t:=bC w.heap.size 151 fK xs) dH [1,0,2,3,4,5,6] aw rfl rfl) bq
 refine rg<|k<|cz db 1 J bm J s4 aw J<|k<|bt db 4 J bm J J s2 J J J J ?_
 intro w8 (dw:HI M w w8 [own w.heap.size 144 (.slice a2 mn.toNat c2) xs,J6,J5,J3,box aZ #[C mn,.slice a2 mn.toNat c2] 26,J1,J0])
 refine au (v:=C 0) J J<|av<|rt<|im dw 4 J bm J J J s2 J aw ?_
 have e0:(mn:Int)=ie mn i j:=by exact(pO (rs:=mr) (jh.2 aq)).1.symm
 have e1:(xs:List (List bY))=gU mn mr i j:=by exact aeo bV hq bq hs aq
 have l1:mn.toNat=(gU mn mr i j).length:=by rw[←e1];omega
 have e2:(0:Int)=lC mn i j:=by exact(pO (rs:=mr) (jh.2 aq)).2.2.symm
 have bo:=qN (fun (bW:Int) (uS:Nat) (gA:Int)=>(.tuple #[.agg #[C bW,.slice a2 uS c2],C gA]:Value)) e0 l1 e2
 exact⟨a2,c2,bo,dw.below,(ani (fun (n_:Nat)=>RV _ _ (.slice a2 n_ c2)<|gU mn mr i j) l1).mp ((ani (fun (x_:List (List bY))=>RV _ _ (.slice a2 mn.toNat c2) x_) e1).mp (dw.mw 0 J))⟩
theorem Wa:cu aK 87:=⟨_,_,Tryz.func87,rfl,aC⟩
theorem Od (hM:eG M w) (hT:fP 0 w) (fY:aM mn) (gl:cA M w bA bz mr) (tO:aM o) (bV:bF mn mr=true):Calls aK 100 #[.agg #[C mn,R bA mr bz],C o] w (cg fun v w'=>∃(a0:OA) (c0:Nat),v=.slice a0 (eQ mn mr o).length c0∧Ext w w'∧bj M 3 w (eQ mn mr o) (.slice a0 (eQ mn mr o).length c0) w'):=by
 refine dm 20 Tryz.func100 J J J hM fun f0 ha H=>?_
 have H0:=dS H gl
 have np:=bf gl
 have i0:f0 0=.agg #[C mn,R bA mr bz]:=ha 0 bh
 have i1:f0 1=C o:=ha 1 bh
 have tK:=(bO bV).1;have Jl:=(bO bV).2.2.1;have Ep:=kL bV
 refine aB<|k<|bx H0 J i0 ?_
 intro aX w0 bT (H1:HI M w w0 [box aX #[C mn,R bA mr bz] 26,iL bA mr bz])
 refine au (v:=.slice none 0 0) J J<|av<|sq<|aB<|ak J i1<|k<|lss J J J J<|ak (v:=.bool (decide (o<0))) J J ?_
 rcases bE (decide (o<0)) with b0|b0
 ·
  have p0:=dT b0
  refine aO J J J b0<|aO J J J b0<|aO J J J b0<|aO J J J b0<|k<|aR J J J J b0 J<|av<|nS J J J<|aB<|au (v:=.slice none 0 0) J J<|av<|rt<|aL<|r1 J J ?_
  have e0:([]:List Int)=eQ mn mr o:=by exact(Lj aq).symm
  have bo:=iB (fun (bW:List Int)=>(.slice none bW.length 0:Value)) e0
  exact⟨none,0,bo,H1.below,(ani (fun (x_:List Int)=>bj _ _ _ x_ (.slice none x_.length 0) _) e0).mp (fN H1.below)⟩
 have p0:=dF b0
 refine aU J J J b0<|mv J i1<|aU J J J b0<|fa kh J J<|aU J J J b0<|lx H1 0 J aV J J J<|aU J J J b0<|geq J J J J<|k<|cJ J J J J b0 J<|z<|nx<|cd (b:=decide (mn≤o)) J J (fun b1=>?_)<|fun b1=>?_
 ·
  have p1:=dT b1
  refine aB<|au (v:=.slice none 0 0) J J<|av<|rt<|aL<|r1 J J ?_
  have e0:([]:List Int)=eQ mn mr o:=by exact(Lj aq).symm
  have bo:=iB (fun (bW:List Int)=>(.slice none bW.length 0:Value)) e0
  exact⟨none,0,bo,H1.below,(ani (fun (x_:List Int)=>bj _ _ _ x_ (.slice none x_.length 0) _) e0).mp (fN H1.below)⟩
 have p1:=dF b1
 refine sk<|nx<|sq ?_
 have hq:0≤o∧o<mn:=by omega
 have gb:=B3 mn mr
 refine rg<|k<|cz H1 0 J bm J J aw J<|k ?_
 have bP:=Fg (mn:=mn) (mr:=mr) H1.mb (hT.ext H1.below) fY (H1.rv 1 J)<|by exact bV
 refine ca Wa J (ec J e0) bP ?_
 rintro _ w1 ⟨a0,c0,rfl,da,cq⟩
 have H2:=H1.eL cq
 refine k<|fd (v:=R a0 (gI mn mr) c0) J J (fun _=>aC)<|ak J i1<|k<|ij (H2.at_ 0 J) J J J J aq ib de ?_
 intro g0 x0 iq aP ct
 refine k<|te ct de J J ?_
 intro a1 c1 dZ
 have H3:=dS H2 dZ
 refine k ?_
 have cS:=tZ (r:=x0) H3.mb (hT.ext H3.below) (H3.rv 0 J)<|by have h_:=wO bV aP;omega
 refine ca HT J (ec J e0) cS ?_
 rintro _ w2 ⟨a2,c2,rfl,eR,dY⟩
 have H4:=H3.eL dY
 refine au (v:=R a2 (cV x0) c2) J J<|av<|rt<|r1 J J ?_
 have e0:(cV x0:List Int)=eQ mn mr o:=by exact Sd bV hq aP
 have bo:=iB (fun (bW:List Int)=>(.slice a2 bW.length c2:Value)) e0
 exact⟨a2,c2,bo,H4.below,(ani (fun (x_:List Int)=>bj _ _ _ x_ (.slice a2 x_.length c2) _) e0).mp (H4.df 0 J)⟩
theorem uM (hM:eG M w) (hT:fP 0 w) (fY:aM mn) (gl:cA M w bA bz mr) (tO:aM o) (bV:bF mn mr=true):Calls aK 82 #[.agg #[C mn,R bA mr bz],C o] w (cg fun v w'=>∃(a0:OA) (c0:Nat),v=.slice a0 (bL mn mr o).length c0∧Ext w w'∧bj M 3 w (bL mn mr o) (.slice a0 (bL mn mr o).length c0) w'):=by
 refine dm 22 Tryz.func82 J J J hM fun f0 ha H=>?_
 have H0:=dS H gl
 have np:=bf gl
 have i0:f0 0=.agg #[C mn,R bA mr bz]:=ha 0 bh
 have i1:f0 1=C o:=ha 1 bh
 have tK:=(bO bV).1;have Jl:=(bO bV).2.2.1;have Ep:=kL bV
 refine aB<|k<|bx H0 J i0 ?_
 intro aX w0 bT (H1:HI M w w0 [box aX #[C mn,R bA mr bz] 26,iL bA mr bz])
 refine au (v:=.slice none 0 0) J J<|av<|sq<|aB<|ak J i1<|k<|lss J J J J<|ak (v:=.bool (decide (o<0))) J J ?_
 rcases bE (decide (o<0)) with b0|b0
 ·
  have p0:=dT b0
  refine aO J J J b0<|aO J J J b0<|aO J J J b0<|aO J J J b0<|k<|aR J J J J b0 J<|av<|nS J J J<|aB<|au (v:=.slice none 0 0) J J<|av<|rt<|aL<|r1 J J ?_
  have e0:([]:List Int)=bL mn mr o:=by exact(KB aq).symm
  have bo:=iB (fun (bW:List Int)=>(.slice none bW.length 0:Value)) e0
  exact⟨none,0,bo,H1.below,(ani (fun (x_:List Int)=>bj _ _ _ x_ (.slice none x_.length 0) _) e0).mp (fN H1.below)⟩
 have p0:=dF b0
 refine aU J J J b0<|mv J i1<|aU J J J b0<|fa kh J J<|aU J J J b0<|lx H1 0 J aV J J J<|aU J J J b0<|geq J J J J<|k<|cJ J J J J b0 J<|z<|nx<|cd (b:=decide (mn≤o)) J J (fun b1=>?_)<|fun b1=>?_
 ·
  have p1:=dT b1
  refine aB<|au (v:=.slice none 0 0) J J<|av<|rt<|aL<|r1 J J ?_
  have e0:([]:List Int)=bL mn mr o:=by exact(KB aq).symm
  have bo:=iB (fun (bW:List Int)=>(.slice none bW.length 0:Value)) e0
  exact⟨none,0,bo,H1.below,(ani (fun (x_:List Int)=>bj _ _ _ x_ (.slice none x_.length 0) _) e0).mp (fN H1.below)⟩
 have p1:=dF b1
 refine sk<|nx<|sq ?_
 have hq:0≤o∧o<mn:=by omega
 have gb:=B3 mn mr
 refine rg<|k<|cz H1 0 J bm J J aw J<|k ?_
 have bP:=Fg (mn:=mn) (mr:=mr) H1.mb (hT.ext H1.below) fY (H1.rv 1 J)<|by exact bV
 refine ca Wa J (ec J e0) bP ?_
 rintro _ w1 ⟨a0,c0,rfl,da,cq⟩
 have H2:=H1.eL cq
 refine k<|fd (v:=R a0 (gI mn mr) c0) J J (fun _=>aC)<|ak J i1<|k<|ij (H2.at_ 0 J) J J J J aq ib de ?_
 intro g0 x0 iq aP ct
 refine k<|te ct de J J ?_
 intro a1 c1 dZ
 have H3:=dS H2 dZ
 refine ak J i1<|k ?_
 have cS:=tY (r:=x0) (i:=o) H3.mb (H3.rv 0 J) tO<|by have h_:=wO bV aP;omega
 refine ca Ft J (ec J<|ec J e0) cS ?_
 rintro _ w2 ⟨a2,c2,rfl,eR,dY⟩
 have H4:=H3.eL dY
 refine k ?_
 have H5:=H4.freeze 0 J
 have fS:=tZ (r:=(eb x0 o)) H5.mb (hT.ext H5.below) (H5.rv 0 J)<|by rw[ku];have h_:=wO bV aP;omega
 refine ca HT J (ec J e0) fS ?_
 rintro _ w3 ⟨a3,c3,rfl,fH,fu⟩
 have H6:=H5.eL fu
 refine au (v:=R a3 (cV<|eb x0 o) c3) J J<|av<|rt<|r1 J J ?_
 have e0:(cV (eb x0 o):List Int)=bL mn mr o:=by exact Rp bV hq aP
 have bo:=iB (fun (bW:List Int)=>(.slice a3 bW.length c3:Value)) e0
 exact⟨a3,c3,bo,H6.below,(ani (fun (x_:List Int)=>bj _ _ _ x_ (.slice a3 x_.length c3) _) e0).mp (H6.df 0 J)⟩
theorem fB:gO aK 47 1 1:=⟨_,_,Tryz.underlying47,rfl,rfl,aC⟩
theorem jb:ei aK 45 1 false 24 (.slice none 0 0):=⟨aC,aC⟩
theorem js:aK.underlying 45=some (.slice 95):=aC
theorem jy:ei aK 95 5 true 40 (.agg #[.int .i64 0,.int .i64 0,.bool false,.int .i64 0,.int .i64 0]):=⟨aC,aC⟩
theorem u7:gO aK 95 2 2:=⟨_,_,Tryz.underlying95,rfl,rfl,aC⟩
theorem ob:ei aK 4 1 false 1 (.bool false):=⟨aC,aC⟩
theorem tm:gO aK 95 3 3:=⟨_,_,Tryz.underlying95,rfl,rfl,aC⟩
theorem oO (Ae:FPH aK qf qj M w (fun qX=>own w.heap.size 3 (R dR xs dJ) qX) r xs p) (H:HI M w w_ ([oL w 3 dR xs dJ]++r)):Calls aK 107 #[R dR xs dJ,.func (.func qf) #[] qj.toArray] w_ (cg fun v w'=>v=.slice dR (aY p xs).length dJ∧HI M w w' ([oL w 3 dR (aY p xs) dJ]++r)):=by
 refine enter 42 Tryz.func107 J J J fun f0 ha=>?_
 have Gi:=j'<|H.at_ 0 J
 have i0:f0 0=R dR xs dJ:=ha 0 bh
 have i1:f0 1=.func (.func qf) #[] qj.toArray:=ha 1 bh
 refine aB<|au (v:=.slice none 0 0) J J<|bp<|ak J i0<|ak J i1<|k ?_
 have H0:=H.freeze 0 J
 have bP:=vH (r:=xs) (p:=p) H0.mb (H0.rv 0 J)<|Ae.fp H
 refine ca V9 J (ec J<|ec J e0) bP ?_
 rintro _ w0 ⟨rfl,bT⟩
 have H2:=H.ext bT
 refine au (v:=C (eA p xs)) J J<|av<|sq<|aB<|ak (v:=C (eA p xs)) J J<|k<|eql J J J J<|z<|nx<|cd (b:=decide ((eA p xs)=(-1))) J J (fun b0=>?_)<|fun b0=>?_
 ·
  have p0:=dT b0
  refine aB<|ak J i0<|au (v:=R dR xs dJ) J J<|av<|rt<|aL<|r1 J J ?_
  have e0:(xs:List _)=(aY p xs):=by exact aap bq
  try rw[←e0]
  refine⟨?_,?_⟩
  · first|rfl|simp only[e0]|(simp only[anj])
  · first|exact H2|simpa +zetaDelta only[e0,anj] using H2
 have p0:=dF b0
 refine sk<|nx<|sq<|sq ?_
 obtain⟨aiq,aip,QA⟩:=Wx (p:=p) (xs:=xs) bq
 refine rg<|ak (v:=C (eA p xs)) J J<|k<|add J J J J aT<|au (v:=C ((eA p xs)+1)) J J<|av<|bk<|lp (fun m f w'=>∃(q:Int) (k_:Nat) (ys:List Int),m=xs.length-k_∧f 0=R dR xs dJ∧f 1=.func (.func qf) #[] qj.toArray∧f 5=C q∧f 6=C (k_:Int)∧HI M w w' ([own w.heap.size 3 (.slice dR xs.length dJ) ys]++r)∧(0≤q∧q<(k_:Int)∧k_≤xs.length)∧(DF p xs ys q k_)) _ ⟨(eA p xs),((eA p xs).toNat+1),xs,J,i0,i1,(bJ J),(bJ J),H2,aq,(by exact QA)⟩ ?_
 rintro _ f0 w1 ⟨q,k_,ys,rfl,s0,s1,s2,s3,H3,so,hs⟩
 refine sq<|aB<|ak J s3<|ak J s0<|k<|dP J J cK<|k<|lss J J J J<|z<|nx<|cd (b:=decide ((k_:Int)<(xs.length:Int))) J J (fun b1=>?_)<|fun b1=>?_
 ·
  have p1:=dT b1
  refine sk<|nx<|sq<|bk<|aB<|ak J s0<|ak J s3<|k<|ij (H3.at_ 0 J) J J J J (by have h_:=hs.1;first|omega|(simp only[fA,gY,od,gr];omega)) cK aV ?_
  intro g0 x0 iq aP ct
  refine k<|mV ct aV J J ?_
  intro cq
  refine au (v:=C x0) J J<|av<|sq ?_
  have tK:=hs.1
  refine rg<|ak J s1<|ak (v:=C x0) J J<|k<|cf Ae.1 J J J (ec J e0) (Ae.2 _ _ H3 _ (by exact dB (by exact Q3 hs aP)) cq) ?_
  rintro _ w2 ⟨rfl,da⟩
  have H4:=H3.ext da
  have H5:HI M w w2 ([own w.heap.size 3 (.slice dR xs.length dJ) ys]++r):=H4
  refine k<|jI J J<|z<|nx<|cd (b:=!(p x0)) J J (fun b2=>?_)<|fun b2=>?_
  ·
   refine aB<|ak J s0<|ak J s2<|ak (v:=C x0) J J<|k<|ij (H5.at_ 0 J) J J J J (by have h_:=hs.1;first|omega|(simp only[fA,gY,od,gr];omega)) cK aV ?_
   intro g1 x1 kG cP gL
   refine k<|pt H5 0 J kG J (by have h_:=hs.1;first|omega|(simp only[fA,gY,od,gr];omega)) aV J J J J (RV.int.2 ⟨J,bq⟩) ?_
   intro w3 (H6:HI M w w3 ([own w.heap.size 3 (.slice dR xs.length dJ) (ys.set q.toNat x0)]++r))
   refine av<|rg<|ak J s2<|k<|add J J J J aT<|au (v:=C (q+1)) J J<|z<|aJ<|nx<|rg<|ak J s3<|k<|add J J J J aT<|au (v:=C ((k_:Int)+1)) J J<|z<|bB _ ?_ ⟨(q+1),(k_+1),(ys.set q.toNat x0),J,s0,s1,(bJ J),(bJ J),H6,aq,(by exact aaq hs aP (by simpa using b2) aq aq)⟩
   omega
  refine sk<|aJ<|nx<|rg<|ak J s3<|k<|add J J J J aT<|au (v:=C ((k_:Int)+1)) J J<|z<|bB _ ?_ ⟨q,(k_+1),ys,J,s0,s1,(bJ s2),(bJ J),H5,aq,(by exact aar hs aP (by simpa using b2))⟩
  omega
 have p1:=dF b1
 refine ex<|aW<|bc<|bg<|cO<|ak J s0<|ak J s2<|k<|abb (H3.at_ 0 J) J J J J (by have h_:=hs.1;first|omega|(simp only[fA,gY,od,gr];omega)) cK aV<|k<|clO H3 0 J J J (q:=q.toNat) J cK aV (by have h_:=hs.1;omega) ?_
 intro w2 (H4:HI M w w2 ([own w.heap.size 3 (.slice dR xs.length dJ) (ys.take q.toNat++(List.replicate (ys.length-q.toNat) (0:Int)++[]))]++r))
 refine bp<|ak J s0<|ak J s2<|k<|ae1 H4 0 J J J J J (by have h_:=hs.1;first|omega|(simp only[fA,gY,od,gr];omega)) cK aV ?_
 intro (H5:HI M w w2 ([oL w 3 dR ((ys.take q.toNat++(List.replicate (ys.length-q.toNat) (0:Int)++[])).take q.toNat) dJ]++r))
 refine au (v:=R dR ((ys.take q.toNat++(List.replicate (ys.length-q.toNat) (0:Int)++[])).take q.toNat) dJ) J J<|av<|rt<|r1 J J ?_
 have e0:((ys.take q.toNat++(List.replicate (ys.length-q.toNat) (0:Int)++[])).take q.toNat:List _)=(aY p xs):=by exact adS hs aq aq (by have h_:=hs.1;omega) _
 try rw[←e0]
 refine⟨?_,?_⟩
 · first|rfl|simp only[e0]|(simp only[anj])
 · first|exact H5|simpa +zetaDelta only[e0,anj] using H5
theorem Ju (hM:eG M w) (xA:cA M w mh mJ l) (X7:l.length≤1000000000):Calls aK 133 #[R mh l mJ] w (cg fun v w'=>∃(a0:OA) (c0:Nat),v=R a0 l c0∧Ext w w'∧bj M 3 w l (R a0 l c0) w'):=by
 refine dm 8 Tryz.func133 J J J hM fun f0 ha H=>?_
 have H0:=dS H xA
 have i0:f0 0=R mh l mJ:=ha 0 bh
 refine aB<|au (v:=.slice none 0 0) J J<|av<|sq<|aB<|ak J i0<|k<|TL J J J J cK<|z<|nx<|cd (b:=mh.isNone) J J (fun b0=>?_)<|fun b0=>?_
 ·
  refine aB<|au (v:=.slice none 0 0) J J<|av<|rt<|aL<|r1 J J ?_
  have e0:([]:List Int)=l:=by exact(HC xA b0).symm
  have bo:=iB (fun (bW:List Int)=>(.slice none bW.length 0:Value)) e0
  exact⟨none,0,bo,H0.below,(ani (fun (x_:List Int)=>bj _ _ _ x_ (.slice none x_.length 0) _) e0).mp (fN H0.below)⟩
 refine sk<|cO<|k<|bs (xs:=([]:List Int)) (cells:=#[]) (e:=3) H0 J eh (fun _=>aC) J J aw ?_
 intro g0 w0 bT H1
 refine ak J i0<|k<|lA H1 0 J J J J J J (H1.rv 1 J).src cK aV J (by simp;omega) J ?_
 intro a0 c0 w1 (H2:HI M w w1 [oL w 3 a0 l c0,iL mh l mJ])
 refine au (v:=R a0 l c0) J J<|av<|rt<|r1 J J ?_
 exact⟨a0,c0,J,H2.below,(H2.df 0 J)⟩
theorem Li (hM:eG M w) (qH:aM i) (dy:cA M w ay ax I) (ac7:aM vr) (CV:w.heap[xP]? =some (.cells #[.slice aE aF aD,R ay I ax,.slice aA eU az] Hv (0,0))∧¬M xP) (h_c:w.heap[bK]? =some (.cells #[C vr] KG (0,0))∧¬M bK):Calls aK 136 #[C i,.pointer (some ⟨xP,0,none⟩),.pointer (some ⟨bK,0,none⟩)] w (cg fun v w'=>v=.bool (iJ I vr i)∧Ext w w'):=by
 refine dm 33 Tryz.func136 J J J hM fun f0 ha H=>?_
 have H0:=dS H dy
 have iU:=bf dy
 have i0:f0 0=C i:=ha 0 bh
 have H1:=H0.put (it:=ro xP #[.slice aE aF aD,R ay I ax,.slice aA eU az] Hv) J<|by rw[aG rfl,bN];exact CV
 have i1:f0 1=pV xP 0:=ha 1 bh
 have H2:=H1.put (it:=ro bK #[C vr] KG) J<|by rw[aG rfl,aG rfl,bN];exact h_c
 have i2:f0 2=pV bK 0:=ha 2 bh
 refine aB<|au (v:=.bool false) J J<|av<|sq<|BT J aC<|kq (fun _ _=>mv J i0 e1)<|kq (fun _ _=>lss J J J J e1)<|kq (fun _ _=>mv (v:=.bool (decide (i<0))) J J e1) ?_
 rcases bE (decide (i<0)) with b0|b0
 ·
  have p0:=dT b0
  refine qn J J J b0<|qn J J J b0<|qn J J J b0<|qn J J J b0<|qn J J J b0<|kq (fun _ _=>aR J J J J b0 J e1)<|kq (fun _ _=>mv (v:=.bool true) J J e1)<|qn J J J J<|qn J J J J<|qn J J J J<|qn J J J J<|qn J J J J<|qn J J J J<|qn J J J J<|kq (fun _ _=>aR J J J J J J e1)<|kq (fun _ _=>mv (v:=.bool true) J J e1)<|qn J J J J<|qn J J J J<|qn J J J J<|qn J J J J<|qn J J J J<|qn J J J J<|qn J J J J<|qn J J J J<|kq (fun _ _=>aR J J J J J J e1)<|kq (fun _ _=>jG (v:=.bool true) J J e1)<|zq ?_
  intro w0 bT
  have H3:=H2.ext bT
  refine nx<|rt<|r1 J J ?_
  exact⟨ani Value.bool (by exact(Zb bq).symm),H3.below⟩
 have p0:=dF b0
 refine qy J J J b0<|kq (fun _ _=>mv J i0 e1)<|qy J J J b0<|kq (fun _ _=>fa fB J i1 e1)<|qy J J J b0<|kq (fun _ x_=>lr (H2.ext x_) 1 J jb J J J e1)<|qy J J J b0<|kq (fun _ _=>dP J J js e1)<|qy J J J b0<|kq (fun _ _=>geq J J J J e1)<|kq (fun _ _=>cJ J J J J b0 J e1)<|kq (fun _ _=>mv (v:=.bool (decide ((I.length:Int)≤i))) J J e1) ?_
 rcases bE (decide ((I.length:Int)≤i)) with b1|b1
 ·
  have p1:=dT b1
  refine qn J J J b1<|qn J J J b1<|qn J J J b1<|qn J J J b1<|qn J J J b1<|qn J J J b1<|qn J J J b1<|kq (fun _ _=>aR J J J J b1 J e1)<|kq (fun _ _=>mv (v:=.bool true) J J e1)<|qn J J J J<|qn J J J J<|qn J J J J<|qn J J J J<|qn J J J J<|qn J J J J<|qn J J J J<|qn J J J J<|kq (fun _ _=>aR J J J J J J e1)<|kq (fun _ _=>jG (v:=.bool true) J J e1)<|zq ?_
  intro w0 bT
  have H3:=H2.ext bT
  refine nx<|rt<|r1 J J ?_
  exact⟨ani Value.bool (by exact(Za bq).symm),H3.below⟩
 have p1:=dF b1
 refine qy J J J b1<|kq (fun _ _=>fa fB J i1 e1)<|qy J J J b1<|kq (fun _ x_=>lr (H2.ext x_) 1 J jb J J J e1)<|qy J J J b1<|kq (fun _ _=>mv J i0 e1)<|qy J J J b1<|ub (H2.rv 2 J) J J J J aq js jy ?_
 intro iC x0 aP ct
 refine qy J J J b1<|kq (fun _ _=>fa u7 J J e1)<|qy J J J b1<|ae6 ((ct).s2).fst.w ob J J<|qy J J J b1<|kq (fun _ _=>jI J J e1)<|kq (fun _ _=>cJ J J J J b1 J e1)<|kq (fun _ _=>mv (v:=.bool (!x0.2.2.1)) J J e1) ?_
 rcases bE (!x0.2.2.1) with b2|b2
 ·
  refine qn J J J b2<|qn J J J b2<|qn J J J b2<|qn J J J b2<|qn J J J b2<|qn J J J b2<|qn J J J b2<|qn J J J b2<|kq (fun _ _=>aR J J J J b2 J e1)<|kq (fun _ _=>jG (v:=.bool true) J J e1)<|zq ?_
  intro w0 bT
  have H3:=H2.ext bT
  refine nx<|rt<|r1 J J ?_
  exact⟨ani Value.bool (by rw[Kz bq aP];simp_all),H3.below⟩
 refine qy J J J b2<|kq (fun _ _=>fa fB J i1 e1)<|qy J J J b2<|kq (fun _ x_=>lr (H2.ext x_) 1 J jb J J J e1)<|qy J J J b2<|kq (fun _ _=>mv J i0 e1)<|qy J J J b2<|ub (H2.rv 2 J) J J J J aq js jy ?_
 intro rh x_ th gL
 obtain rfl:x0=x_:=anm (aP.symm.trans th)
 refine qy J J J b2<|kq (fun _ _=>fa tm J J e1)<|qy J J J b2<|pc ((gL).s3).fst.w aV J J ?_
 intro cq
 refine qy J J J b2<|kq (fun _ x_=>lr (H2.ext x_) 0 J aV J i2 J e1)<|qy J J J b2<|kq (fun _ _=>neq J J J J e1)<|kq (fun _ _=>cJ J J J J b2 J e1)<|kq (fun _ _=>jG (v:=.bool (!decide (x0.2.2.2.1=vr))) J J e1)<|zq ?_
 intro w0 bT
 have H3:=H2.ext bT
 refine nx<|rt<|r1 J J ?_
 exact⟨ani Value.bool (by rw[Kz bq aP];simp_all),H3.below⟩
theorem P9 (hM:eG M w) (qH:aM i) (dy:cA M w ay ax I) (CV:w.heap[xP]? =some (.cells #[.slice aE aF aD,R ay I ax,.slice aA eU az] Hv (0,0))∧¬M xP) (Jg:0≤i∧i<((I.length:Nat):Int)):Calls aK 109 #[C i,.pointer (some ⟨xP,0,none⟩)] w (cg fun v w'=>v=.bool (fJ I i)∧Ext w w'):=by
 refine dm 10 Tryz.func109 J J J hM fun f0 ha H=>?_
 have H0:=dS H dy
 have i0:f0 0=C i:=ha 0 bh
 have H1:=H0.put (it:=ro xP #[.slice aE aF aD,R ay I ax,.slice aA eU az] Hv) J<|by rw[aG rfl,bN];exact CV
 have i1:f0 1=pV xP 0:=ha 1 bh
 refine aB<|au (v:=.bool false) J J<|bp<|aS fB J i1<|k<|lr H1 0 J jb J J J<|ak J i0<|k<|ia (H1.rv 1 J) J J J J aq js jy ?_
 intro iC x0 aP ct
 refine aS u7 J J<|k<|ldB ((ct).s2).fst.w ob J J<|au (v:=.bool x0.2.2.1) J J<|av<|rt<|r1 J J ?_
 exact⟨ani Value.bool (by exact(aaU aP).symm),H1.below⟩
theorem Yy:cu aK 133:=⟨_,_,Tryz.func133,rfl,aC⟩
theorem afJ:cu aK 136:=⟨_,_,Tryz.func136,rfl,aC⟩
theorem GI:cu aK 107:=⟨_,_,Tryz.func107,rfl,aC⟩
theorem Ec (hM:eG M w) (dy:cA M w ay ax I) (xA:cA M w mh mJ l) (ac7:aM vr) (X7:l.length≤1000000000):Calls aK 99 #[.agg #[.slice aE aF aD,R ay I ax,.slice aA eU az],R mh l mJ,C vr] w (cg fun v w'=>∃(a0:OA) (c0:Nat),v=.slice a0 (aY (iJ I vr) l).length c0∧Ext w w'∧bj M 3 w (aY (iJ I vr) l) (.slice a0 (aY (iJ I vr) l).length c0) w'):=by
 refine dm 11 Tryz.func99 J J J hM fun f0 ha H=>?_
 let J0:=iL ay I ax
 have H0:=H.put (it:=J0) J<|by rw[bN];exact dy
 have H1:=dS H0 xA
 have i0:f0 0=.agg #[.slice aE aF aD,R ay I ax,.slice aA eU az]:=ha 0 bh
 have i1:f0 1=R mh l mJ:=ha 1 bh
 have i2:f0 2=C vr:=ha 2 bh
 refine aB<|k<|bx H1 J i0 ?_
 intro aX w0 bT (H2:HI M w w0 [box aX #[.slice aE aF aD,R ay I ax,.slice aA eU az] 47,iL mh l mJ,J0])
 let J1:=box aX #[.slice aE aF aD,R ay I ax,.slice aA eU az] 47
 refine k<|bx H2 J i2 ?_
 intro aZ w1 da (H3:HI M w w1 [box aZ #[C vr] 3,J1,iL mh l mJ,J0])
 refine au (v:=.slice none 0 0) J J<|bp<|ak J i1<|k ?_
 have bP:=Ju (l:=l) H3.mb (H3.rv 2 J) aq
 refine ca Yy J (ec J e0) bP ?_
 rintro _ w2 ⟨a0,c0,rfl,eR,cq⟩
 have H4:=H3.eL cq
 refine k<|mf J<|k ?_
 have H5:HI M w w2 ([oL w 3 a0 l c0]++[box aZ #[C vr] 3,J1,iL mh l mJ,J0]):=H4.bU [0,1,2,3,4] aw rfl
 have cS:=oO (dR:=a0) (dJ:=c0) (xs:=l) (qf:=136) (qj:=[pV aX 0,pV aZ 0]) (p:=(fun (x_:Int)=>iJ I vr x_)) (w:=w) (w_:=w2) (r:=[box aZ #[C vr] 3,J1,iL mh l mJ,J0]) (M:=M) ⟨afJ,fun w_ qX H_ x_ th Eh=>Li (I:=I) (vr:=vr) (M:=fun _=>False) (fun _ h_=>h_.elim) Eh ((H_.rv 4 J).lift (Up.less fun _ _ h_=>h_.elim)) aT ⟨H_.at_ 2 rfl,fun h_=>h_⟩ ⟨H_.at_ 1 rfl,fun h_=>h_⟩⟩ H5
 refine ca GI J (ec J<|ec J e0) cS ?_
 rintro _ w3 ⟨rfl,H6⟩
 have H7:HI M w w3 [oL w 3 a0 (aY (fun (x_:Int)=>iJ I vr x_) l) c0,box aZ #[C vr] 3,J1,iL mh l mJ,J0]:=H6
 refine au (v:=R a0 (aY (fun (x_:Int)=>iJ I vr x_) l) c0) J J<|av<|rt<|r1 J J ?_
 have e0:((aY (fun (x_:Int)=>iJ I vr x_) l):List Int)=aY (iJ I vr) l:=rfl
 have bo:=iB (fun (bW:List Int)=>(.slice a0 bW.length c0:Value)) e0
 exact⟨a0,c0,bo,H7.below,(ani (fun (x_:List Int)=>bj _ _ _ x_ (.slice a0 x_.length c0) _) e0).mp (H7.df 0 J)⟩
theorem tq:gO aK 47 2 2:=⟨_,_,Tryz.underlying47,rfl,rfl,aC⟩
theorem qm:ei aK 27 1 false 24 (.slice none 0 0):=⟨aC,aC⟩
theorem dN:ei aK 47 3 true 72 (.agg #[.slice none 0 0,.slice none 0 0,.slice none 0 0]):=⟨aC,aC⟩
theorem YG:cu aK 100:=⟨_,_,Tryz.func100,rfl,aC⟩
theorem adq:cu aK 99:=⟨_,_,Tryz.func99,rfl,aC⟩
theorem ej:aK.underlying 119=some (.slice 122):=aC
theorem cI:ei aK 122 3 true 24 (.agg #[.int .i64 0,.int .i64 0,.int .i64 0]):=⟨aC,aC⟩
theorem af0:cu aK 102:=⟨_,_,Tryz.func102,rfl,aC⟩
theorem uB (hM:eG M w) (hT:fP 0 w) (dy:cA M w ay ax I) (fZ:cA M w aA az U) (fY:aM mn) (gl:cA M w bA bz mr) (du:I.length≤4096) (eu:U.length=I.length) (fG:∀x∈U,x<((I.length:Nat):Int)) (bV:bF mn mr=true):Calls aK 65 #[.agg #[.slice aE aF aD,R ay I ax,R aA U az],.agg #[C mn,R bA mr bz]] w (cg fun v w'=>∃(a0:OA) (c0:Nat),v=.slice a0 (cH I U mn mr).length c0∧Ext w w'∧bj M 122 w (cH I U mn mr) (.slice a0 (cH I U mn mr).length c0) w'):=by
 refine dm 51 Tryz.func65 J J J hM fun f0 ha H=>?_
 let J0:=iL ay I ax
 have H0:=H.put (it:=J0) J<|by rw[bN];exact dy
 let J1:=iL aA U az
 have H1:=H0.put (it:=J1) J<|by rw[aG rfl,bN];exact fZ
 let J2:=iL bA mr bz
 have H2:=H1.put (it:=J2) J<|by rw[aG rfl,aG rfl,bN];exact gl
 have iU:=bf dy
 have kE:=bf fZ
 have np:=bf gl
 have i0:f0 0=.agg #[.slice aE aF aD,R ay I ax,R aA U az]:=ha 0 bh
 have i1:f0 1=.agg #[C mn,R bA mr bz]:=ha 1 bh
 have QB:=Mt (I:=I) (U:=U) (j:=U.length) bV
 refine aB<|k<|bx H2 J i0 ?_
 let ba:=[J2,J1,J0]
 intro aX w0 bT (H3:HI M w w0 (box aX #[.slice aE aF aD,R ay I ax,R aA U az] 47::ba))
 let J3:=box aX #[.slice aE aF aD,R ay I ax,R aA U az] 47
 refine k<|bx H3 J i1 ?_
 intro aZ w1 da (H4:HI M w w1 (box aZ #[C mn,R bA mr bz] 26::J3::ba))
 let J4:=box aZ #[C mn,R bA mr bz] 26
 refine au (v:=.slice none 0 0) J J<|bp<|au (v:=.slice none 0 0) J J<|av<|sq<|aB<|aS tq J J<|bl H4 1 J qm J J J<|k<|dP J J cK<|ak (v:=C 0) J J<|av<|bk ?_
 have H5:=H4.rl (Int×Int×Int) 122
 let bZ:=J4::J3::ba
 refine lp (fun m f w'=>∃(j_:Nat) (vY:List dX) (a0:OA) (c0:Nat),m=U.length-j_∧f 2=pV aX 0∧f 3=pV aZ 0∧f 5=R a0 vY c0∧f 11=R aA U az∧f 12=C (U.length:Int)∧f 13=C (j_:Int)∧HI M w w' (oL w 122 a0 vY c0::bZ)∧(j_≤U.length)∧(vY=uu I U mn mr j_)∧(vY.length≤4096*j_)) _ ⟨0,([]:List dX),none,0,J,J,J,J,J,J,(bJ J),H5,aq,(by rfl),(by exact aoD _)⟩ ?_
 rintro _ f0 w2 ⟨j_,vY,a0,c0,rfl,s0,s1,s2,s3,s4,s5,H6,pB,hs,tK⟩
 refine aB<|k<|lss J J s5 s4<|av<|sq<|cd (b:=decide ((j_:Int)<(U.length:Int))) J J (fun b0=>?_)<|fun b0=>?_
 ·
  have p0:=dT b0
  refine sk<|nx<|sq<|bk<|aB<|ak J s5<|k<|ia (H6.rv 4 J) J J s3 s5 aq cK aV ?_
  intro iC x0 aP ct
  refine k<|mV ct.w aV J J ?_
  intro cq
  refine au (v:=C (j_:Int)) J J<|au (v:=C x0) J J<|av<|sq<|aB<|ak (v:=C x0) J J<|k<|lss J J J J<|z<|nx<|cd (b:=decide (x0<0)) J J (fun b1=>?_)<|fun b1=>?_
  ·
   have p1:=dT b1
   refine ex<|aW<|bg<|nx<|rg<|k<|add J J s5 J aT<|ak (v:=C ((j_:Int)+1)) J J<|z<|bB _ ?_ ⟨(j_+1),vY,a0,c0,J,s0,s1,s2,s3,s4,(bJ J),H6,aq,(by exact adM hs aP aq),(by first|omega)⟩
   omega
  have p1:=dF b1
  refine sk<|nx<|sq<|TU J aC<|xq J<|kq (fun _ x_=>cz (H6.ext x_) 2 J dN J s0 aw J e1)<|zq<|xq J<|kq (fun _ x_=>cz (H6.ext x_) 1 J bm J s1 aw J e1)<|zq<|xq J<|kq (fun _ _=>mv (v:=C (j_:Int)) J J e1)<|zq<|xu (fun v w'=>∃(a1:OA) (c1:Nat),v=R a1 (eQ mn mr (j_:Int)) c1∧RV H6.fV w' (R a1 (eQ mn mr (j_:Int)) c1) (eQ mn mr (j_:Int))) J (by rintro _ _ _ x_ ⟨a1,c1,e_,dY⟩;exact⟨a1,c1,e_,dY.lift (Up.ext x_)⟩) J (fun v_ x_=>have cS:=Od (mn:=mn) (mr:=mr) (o:=(j_:Int)) (w:=v_) (H6.ext x_).mb (hT.ext (H6.ext x_).below) fY ((H6.ext x_).rv 3 rfl) aT (by exact bV);ca YG rfl (ec J<|ec J e0) cS (fun _ w4 ⟨a2,c2,e_,fH,fu⟩=>⟨_,J,fH,⟨a2,c2,e_,(bj.rv fu (H6.ext x_).mb)⟩⟩))<|xq J<|kq (fun _ _=>fa fB J s0 e1)<|zq<|xq J<|kq (fun _ x_=>lx (H6.ext x_) 2 J jb J J J e1)<|zq<|xq J<|kq (fun _ _=>mv (v:=C x0) J J e1)<|zq<|xq J<|ub (H6.rv 5 J) J J J J (by have h_:=fG _ (dB aP);omega) js jy ?_
  intro rh x1 cP gL
  refine zq<|xq J<|kq (fun _ _=>fa tm J J e1)<|zq<|xq J<|pc ((gL).s3).fst.w aV J J ?_
  intro jT
  refine zq<|xu1 (fun v w'=>∃(a4:OA) (c4:Nat),v=R a4 (aY (iJ I x1.2.2.2.1)<|eQ mn mr (j_:Int)) c4∧RV H6.fV w' (R a4 (aY (iJ I x1.2.2.2.1)<|eQ mn mr (j_:Int)) c4) (aY (iJ I x1.2.2.2.1)<|eQ mn mr (j_:Int))) 0 J J (by rintro _ _ _ x_ ⟨a4,c4,e_,oC⟩;exact⟨a4,c4,e_,oC.lift (Up.ext x_)⟩) J (fun v_ _ x_ h_=>let ⟨a5,c5,s6,pw⟩:=h_;have dW:=(H6.ext x_).put (it:=iL a5 (eQ mn mr (j_:Int)) c5) rfl pw;have eX:=Ec (I:=I) (l:=(eQ mn mr (j_:Int))) (vr:=x1.2.2.2.1) (aE:=aE) (aF:=aF) (aD:=aD) (aA:=aA) (eU:=U.length) (az:=az) dW.mb (dW.rv 6 J) (dW.rv 0 J) jT (by have h_:=uO bV (j_:Int);omega);ca adq rfl (ec J<|ec s6<|ec J e0) eX (fun _ w6 ⟨a6,c6,e_,ji,rk⟩=>⟨_,J,ji,⟨a6,c6,e_,(mK J<|bj.rv rk dW.mb)⟩⟩))<|xk1 (X:=C ((aY (iJ I x1.2.2.2.1)<|eQ mn mr (j_:Int)).length:Int)) 0 J J (fun _ _ _ h_=>let ⟨a8,c8,s7,pT⟩:=h_;dP rfl s7 cK e1)<|xq J<|kq (fun _ _=>mv (v:=C 0) J J e1)<|zq<|zx ?_
  intro w7 f1 kb cB iN
  have cF:=H6.ext kb
  have s8:=(cB 2 J).trans s0
  have s9:=(cB 3 J).trans s1
  have eo:=(cB 5 J).trans s2
  have fb:=cB 6 J
  have fM:=cB 7 J
  have fL:=(cB 11 J).trans s3
  have gB:=(cB 12 J).trans s4
  have gT:=(cB 13 J).trans s5
  obtain⟨a9,c9,ky,qp⟩:=iN 0 _ _ rfl
  let J5:=iL a9 (aY (iJ I x1.2.2.2.1) (eQ mn mr (j_:Int))) c9
  have dV:=cF.put (it:=J5) J qp
  have ln:=cB 31 J
  have mQ:=cB 32 J
  refine nx<|bk<|lp (fun m f w'=>∃(q_:Nat) (vK:List dX) (i':OA) (iZ:Nat),m=(aY (iJ I x1.2.2.2.1)<|eQ mn mr (j_:Int)).length-q_∧f 2=pV aX 0∧f 3=pV aZ 0∧f 5=R i' vK iZ∧f 6=C (j_:Int)∧f 7=C x0∧f 11=R aA U az∧f 12=C (U.length:Int)∧f 13=C (j_:Int)∧f 30=R a9 (aY (iJ I x1.2.2.2.1)<|eQ mn mr (j_:Int)) c9∧f 31=C ((aY (iJ I x1.2.2.2.1)<|eQ mn mr (j_:Int)).length:Int)∧f 32=C (q_:Int)∧HI M w w' (J5::oL w 122 i' vK iZ::bZ)∧(q_≤(aY (iJ I x1.2.2.2.1)<|eQ mn mr (j_:Int)).length)∧(vK=vY++BS x0 (j_:Int) ((aY (iJ I x1.2.2.2.1)<|eQ mn mr (j_:Int)).take q_))∧(vK.length≤4096*j_+q_)) _ ⟨0,vY,a0,c0,J,s8,s9,eo,fb,fM,fL,gB,gT,ky,ln,(bJ mQ),dV,aq,(by exact(aoT _).symm),aq⟩ ?_
  rintro _ f2 w8 ⟨q_,vK,i',iZ,rfl,mP,nM,pv,rr,BD,Ca,F4,BC,F3,RQ,XA,dG,so,gK,amt⟩
  refine sq ?_
  have ail:(aY (iJ I x1.2.2.2.1) (eQ mn mr (j_:Int))).length≤4096:=by unfold aY;exact Nat.le_trans (aoj _ _) (uO bV _)
  refine rg<|k<|lss J J XA RQ<|av<|sq<|cd (b:=decide ((q_:Int)<((aY (iJ I x1.2.2.2.1)<|eQ mn mr (j_:Int)).length:Int))) J J (fun b2=>?_)<|fun b2=>?_
  ·
   have p2:=dT b2
   refine sk<|nx<|sq<|bk<|aB<|k<|ia (dG.rv 0 J) J J F3 XA aq cK aV ?_
   intro pK x2 iA kR
   refine k<|mV kR.w aV J J ?_
   intro oD
   refine au (v:=C x2) J J<|bp<|ak (v:=C x2) J J<|ak J BD<|k<|neq J J J J<|z<|nx<|cd (b:=!decide (x2=x0)) J J (fun b3=>?_)<|fun b3=>?_
   ·
    have p3:=dF<|fX b3
    refine rg<|ak J pv<|ak (v:=C x2) J J<|ak J BD<|ak J rr<|k<|bd (v:=.agg #[C x2,C x0,C (j_:Int)]) J (cj J<|cj J<|cj J eh) (fun _=>aC)<|k<|bs (xs:=([(x2,x0,(j_:Int))]:List (Int×Int×Int))) (cells:=#[C x2,C x0,C (j_:Int)]) (e:=122) dG J (cj J eh) (fun _=>aC) ⟨[C x2,C x0,C (j_:Int)],[],J,⟨_,_,J,⟨J,(show aM (x2) from bq)⟩,⟨_,_,J,⟨J,(show aM (x0) from bq)⟩,⟨J,(show aM ((j_:Int)) from aT)⟩⟩⟩,J⟩ J aw ?_
    intro g0 w9 ma eS
    refine k<|lA eS 2 J J J J J J (gP<|eS.at_ 0 J) ej cI J (by simp only[fA,iM,gr];omega) J ?_
    intro l3 lX dL (ff:HI M w dL (own w.heap.size 122 (.slice (some ⟨g0,0,none⟩) 1 1) ([(x2,x0,(j_:Int))]:List (Int×Int×Int))::J5::oL w 122 l3 (vK++([(x2,x0,(j_:Int))]:List (Int×Int×Int))) lX::bZ))
    refine au (v:=R l3 (vK++([(x2,x0,(j_:Int))]:List (Int×Int×Int))) lX) J J<|z<|aJ<|nx<|rg<|k<|add J J XA J aT<|ak (v:=C ((q_:Int)+1)) J J<|z ?_
    have ga:HI M w dL (J5::oL w 122 l3 (vK++([(x2,x0,(j_:Int))]:List (Int×Int×Int))) lX::bZ):=ff.bU [1,2,3,4,5,6,7] aw rfl
    refine bB _ ?_ ⟨(q_+1),(vK++([(x2,x0,(j_:Int))]:List (Int×Int×Int))),l3,lX,J,mP,nM,J,rr,BD,Ca,F4,BC,F3,RQ,(bJ J),ga,aq,(by exact aak gK iA p3),(by simp only[fA,iM,gr];omega)⟩
    omega
   have p3:=dT<|eY b3
   refine sk<|aJ<|nx<|rg<|k<|add J J XA J aT<|ak (v:=C ((q_:Int)+1)) J J<|z<|bB _ ?_ ⟨(q_+1),vK,i',iZ,J,mP,nM,pv,rr,BD,Ca,F4,BC,F3,RQ,(bJ J),dG,aq,(by exact Ws gK iA p3),aq⟩
   omega
  have p2:=dF b2
  refine ex<|aW<|bc<|bg<|aJ<|nx<|rg<|k<|add J J BC J aT<|ak (v:=C ((j_:Int)+1)) J J<|z ?_
  have eS:HI M w w8 (oL w 122 i' vK iZ::bZ):=dG.bU [1,2,3,4,5,6] aw rfl
  refine bB _ ?_ ⟨(j_+1),vK,i',iZ,J,mP,nM,pv,Ca,F4,(bJ J),eS,aq,(by exact aal (by unfold ql;rw[cP];rfl) hs gK aP aq aq),(by first|omega)⟩
  omega
 have p0:=dF b0
 refine ex<|aW<|bc<|bg<|cO<|ak J s2<|k ?_
 have H7:HI M w w2 ([oL w 122 a0 vY c0]++[J4,J3,J2,J1,J0]):=H6.bU [0,1,2,3,4,5] aw rfl
 have bP:=RD (dR:=a0) (dJ:=c0) (xs:=vY) (w:=w) (w_:=w2) (r:=[J4,J3,J2,J1,J0]) (M:=M) aq H7
 refine ca af0 J (ec J<|ec J e0) bP ?_
 rintro _ w3 ⟨rfl,H8⟩
 have H9:HI M w w3 (own w.heap.size 122 (.slice a0 vY.length c0) (wc vY)::bZ):=H8
 refine bp<|ak J s2<|au (v:=R a0 vY c0) J J<|av<|rt<|r1 J J ?_
 have e0:((wc vY):List (Int×Int×Int))=cH I U mn mr:=by rw[hs,show j_=U.length from by omega];rfl
 have l0:vY.length=(cH I U mn mr).length:=by rw[hs,show j_=U.length from by omega];exact Jr
 have bo:=iB (fun (uT:Nat)=>(.slice a0 uT c0:Value)) l0
 exact⟨a0,c0,bo,H9.below,(ani (fun (n_:Nat)=>bj _ _ _ (cH I U mn mr) (.slice a0 n_ c0) _) l0).mp ((ani (fun (x_:List (Int×Int×Int))=>bj _ _ _ x_ (.slice a0 vY.length c0) _) e0).mp (H9.df 0 J))⟩
theorem adu:cu aK 61:=⟨_,_,Tryz.func61,rfl,aC⟩
theorem I6 (hM:eG M w) (J':cA M w yR yM rA) (Yk:aM tE):Calls aK 61 #[R yR rA yM,C tE] w (cg fun v w'=>v=C (eA (fun (z_:Int)=>decide (tE=z_)) rA)∧Ext w w'):=by
 refine dm 19 Tryz.func61 J J J hM fun f0 ha H=>?_
 have H0:=dS H J'
 have aj5:=bf J'
 have i0:f0 0=R yR rA yM:=ha 0 bh
 have i1:f0 1=C tE:=ha 1 bh
 refine aB<|au (v:=C 0) J J<|av<|sq<|aB<|ak J i0<|k<|dP J J cK<|ak (v:=C 0) J J<|av<|bk<|lp (fun m f w'=>∃(j_:Nat),m=rA.length-j_∧f 0=R yR rA yM∧f 1=C tE∧f 7=C (rA.length:Int)∧f 8=C (j_:Int)∧HI M w w' [iL yR rA yM]∧(j_≤rA.length)∧((rA.take j_).any (fun (z_:Int)=>decide (tE=z_))=false)) _ ⟨0,J,i0,i1,J,(bJ J),H0,aq,bh⟩ ?_
 rintro _ f0 w0 ⟨j_,rfl,s0,s1,s2,s3,H1,pB,hs⟩
 refine aB<|k<|lss J J s3 s2<|av<|sq<|cd (b:=decide ((j_:Int)<(rA.length:Int))) J J (fun b0=>?_)<|fun b0=>?_
 ·
  have p0:=dT b0
  refine sk<|nx<|sq<|bk<|aB<|ak J s3<|au (v:=C (j_:Int)) J J<|bp<|ak J s1<|ak J s0<|ak (v:=C (j_:Int)) J J<|k<|ia (H1.rv 0 J) J J J J aq cK aV ?_
  intro iC x0 aP ct
  refine k<|mV ct.w aV J J ?_
  intro cq
  refine k<|eql J J J J<|z<|nx<|cd (b:=decide (tE=x0)) J J (fun b1=>?_)<|fun b1=>?_
  ·
   refine aB<|ak (v:=C (j_:Int)) J J<|au (v:=C (j_:Int)) J J<|av<|rt<|bQ<|aL<|dU<|bQ<|aL<|r1 J J ?_
   exact⟨ani (Value.int .i64) (by exact ue (p:=(fun (z_:Int)=>decide (tE=z_))) aP hs b1),H1.below⟩
  have p1:=dF b1
  refine sk<|aJ<|nx<|rg<|k<|add J J s3 J aT<|ak (v:=C ((j_:Int)+1)) J J<|z<|bB _ ?_ ⟨(j_+1),J,s0,s1,s2,(bJ J),H1,aq,(by exact po aP hs b1)⟩
  omega
 have p0:=dF b0
 refine ex<|aW<|bc<|bg<|cO<|au (v:=C (-1)) J J<|av<|rt<|r1 J J ?_
 exact⟨ani (Value.int .i64) (by exact uX hs aq),H1.below⟩
theorem C9 (hM:eG M w) (J':cA M w yR yM rA) (Yk:aM tE):Calls aK 131 #[R yR rA yM,C tE] w (cg fun v w'=>v=.bool (rA.any (fun (z_:Int)=>decide (tE=z_)))∧Ext w w'):=by
 refine dm 9 Tryz.func131 J J J hM fun f0 ha H=>?_
 have H0:=dS H J'
 have i0:f0 0=R yR rA yM:=ha 0 bh
 have i1:f0 1=C tE:=ha 1 bh
 refine aB<|au (v:=.bool false) J J<|bp<|ak J i0<|ak J i1<|k ?_
 have bP:=I6 (rA:=rA) (tE:=tE) H0.mb (H0.rv 0 J) Yk
 refine ca adu J (ec J<|ec J e0) bP ?_
 rintro _ w0 ⟨rfl,bT⟩
 have H1:=H0.ext bT
 refine k<|geq J J J J<|au (v:=.bool (decide (0≤(eA (fun (z_:Int)=>decide (tE=z_)) rA)))) J J<|av<|rt<|r1 J J ?_
 exact⟨ani Value.bool (by exact uf),H1.below⟩
theorem JO:ei aK 218 2 true 16 (.agg #[.int .i64 0,.int .i64 0]):=⟨aC,aC⟩
theorem JP:ei aK 215 1 false 8 (.map none):=⟨aC,aC⟩
theorem aeW:Pt aK 218 [some (0,0),some (1,0)]:=⟨aC,aC,aC,aC⟩
theorem XH:Re aK 215:=XM (by kernel_rfl:aK.underlying 215=some (.map 218 4)) (VN (za aeW)) ob rfl
theorem YA:cu aK 131:=⟨_,_,Tryz.func131,rfl,aC⟩
theorem Yw:cu aK 169:=⟨_,_,Tryz.func169,rfl,aC⟩
theorem D7 (Bf:aM ft) (DM:aM fy) (Be:aM gE) (fY:aM mn) (bV:bF mn mr=true) (H:HI M w w_ ([box kn #[.map (some fU)] 215,bS fU met,box mx #[C mn,R bA mr bz] 26,iL bA mr bz,box my #[R j0 kp jY] 27,iL j0 kp jY]++r)):Calls aK 169 #[.agg #[C ft,C fy,C gE],pV kn 0,pV mx 0,pV my 0] w_ (cg fun v w'=>v=.bool (((eT mn mr kp) met (ft,fy,gE)).1)∧HI M w w' ([box kn #[.map (some fU)] 215,bS fU (((eT mn mr kp) met (ft,fy,gE)).2),box mx #[C mn,R bA mr bz] 26,iL bA mr bz,box my #[R j0 kp jY] 27,iL j0 kp jY]++r)):=by
 refine enter 32 Tryz.func169 J J J fun f0 ha=>?_
 have np:=bf<|H.rv 3 J
 have XP:=bf<|H.rv 5 J
 have i0:f0 0=.agg #[C ft,C fy,C gE]:=ha 0 bh
 have i1:f0 1=pV kn 0:=ha 1 bh
 have i2:f0 2=pV mx 0:=ha 2 bh
 have i3:f0 3=pV my 0:=ha 3 bh
 refine aB<|k<|bx H J i0 ?_
 let J1:=box kn #[.map (some fU)] 215
 let J2:=box mx #[C mn,R bA mr bz] 26
 let J3:=iL bA mr bz
 let J4:=box my #[R j0 kp jY] 27
 let J5:=iL j0 kp jY
 let ba:=[J1,bS fU met,J2,J3,J4,J5]
 intro aX w0 bT (H0:HI M w w0 ((box aX #[C ft,C fy,C gE] 122::ba)++r))
 let J0:=box aX #[C ft,C fy,C gE] 122
 refine au (v:=.bool false) J J<|bp<|aS kK J J<|bl H0 0 J aV J J J<|aS mM J J<|bl H0 0 J aV J J J<|k<|bd (v:=.agg #[C ft,C fy]) J (cj J<|cj J eh) (fun _=>aC)<|k<|al H0 JO ?_
 intro aZ w1 da (H1:HI M w w1 ((box aZ #[C 0,C 0] 218::J0::ba)++r))
 refine k<|bt H1 0 J JO J J J J J J J ?_
 let J6:=box aZ #[C ft,C fy] 218
 intro w2 (H2:HI M w w2 ((J6::J0::ba)++r))
 refine av<|sq<|aB<|bl H2 2 J JP J i1 J<|k<|cz H2 0 J JO J J aw J<|k<|ahS (k:=(ft,fy)) XH H2 3 J J J J J<|ak (v:=.bool ((fI met (ft,fy)).getD false)) J J ?_
 rcases bE ((fI met (ft,fy)).getD false) with b0|b0
 ·
  refine aO J J J b0<|aO J J J b0<|aO J J J b0<|aO J J J b0<|aO J J J b0<|aO J J J b0<|k<|aR J J J J b0 J<|ak (v:=.bool true) J J<|aO J J J J<|aO J J J J<|aO J J J J<|aO J J J J<|aO J J J J<|k<|aR J J J J J J<|av<|nS J J J<|aB<|au (v:=.bool true) J J<|av<|rt<|aL<|r1 J J ?_
  have H3:=HI.aR (l:=(J6::J0::ba)) (l':=ba) (t:=r) H2 [2,3,4,5,6,7] aw J J
  have e0:(true:Bool)=((eT mn mr kp) met (ft,fy,gE)).1:=by simp only[eT,b0,BL]
  have e1:(met:List ((Int×Int)×Bool))=(((eT mn mr kp) met (ft,fy,gE)).2):=by simp only[eT,b0,BL]
  try rw[←e0]
  try rw[←e1]
  refine⟨?_,?_⟩
  · first|rfl|simp only[e0,e1]|(simp only[anj])
  · first|exact H3|simpa +zetaDelta only[e0,e1,anj] using H3
 refine aU J J J b0<|cz H2 4 J bm J i2 aw J<|aU J J J b0<|fa kK J J<|aU J J J b0<|lx H2 1 J aV J J J<|aU J J J b0<|fa mM J J<|aU J J J b0<|lx H2 1 J aV J J J<|aU J J J b0 ?_
 have bP:=ud (mn:=mn) (mr:=mr) (i:=ft) (j:=fy) H2.mb fY (H2.rv 5 J) Bf DM (by exact(bO bV).1) (by exact(bO bV).2.1)<|by exact(bO bV).2.2.1
 refine ca Fw J (ec J<|ec J<|ec J e0) bP ?_
 rintro _ w3 ⟨rfl,eR⟩
 have H3:=H2.ext eR
 refine k<|cJ J J J J b0 J<|ak (v:=.bool (eF mn mr ft fy)) J J ?_
 rcases bE (eF mn mr ft fy) with b1|b1
 ·
  refine aO J J J b1<|aO J J J b1<|aO J J J b1<|aO J J J b1<|aO J J J b1<|k<|aR J J J J b1 J<|av<|nS J J J<|aB<|au (v:=.bool true) J J<|av<|rt<|aL<|r1 J J ?_
  have H4:=HI.aR (l:=(J6::J0::ba)) (l':=ba) (t:=r) H3 [2,3,4,5,6,7] aw J J
  have e0:(true:Bool)=((eT mn mr kp) met (ft,fy,gE)).1:=by simp only[eT,b0,b1,BL]
  have e1:(met:List ((Int×Int)×Bool))=(((eT mn mr kp) met (ft,fy,gE)).2):=by simp only[eT,b0,b1,BL]
  try rw[←e0]
  try rw[←e1]
  refine⟨?_,?_⟩
  · first|rfl|simp only[e0,e1]|(simp only[anj])
  · first|exact H4|simpa +zetaDelta only[e0,e1,anj] using H4
 refine aU J J J b1<|lx H3 6 J qm J i3 J<|aU J J J b1<|fa sA J J<|aU J J J b1<|lx H3 1 J aV J J J<|aU J J J b1 ?_
 have cS:=C9 (rA:=kp) (tE:=gE) H3.mb (H3.rv 7 J) Be
 refine ca YA J (ec J<|ec J e0) cS ?_
 rintro _ w4 ⟨rfl,fH⟩
 have H4:=H3.ext fH
 refine aU J J J b1<|jI J J<|k<|cJ J J J J b1 J<|z<|nx<|cd (b:=!(kp.any<|fun (z_:Int)=>decide (gE=z_))) J J (fun b2=>?_)<|fun b2=>?_
 ·
  refine aB<|au (v:=.bool true) J J<|av<|rt<|aL<|r1 J J ?_
  have H5:=HI.aR (l:=(J6::J0::ba)) (l':=ba) (t:=r) H4 [2,3,4,5,6,7] aw J J
  have e0:(true:Bool)=((eT mn mr kp) met (ft,fy,gE)).1:=by simp only[eT,b0,b1,(fX b2),BL]
  have e1:(met:List ((Int×Int)×Bool))=(((eT mn mr kp) met (ft,fy,gE)).2):=by simp only[eT,b0,b1,(fX b2),BL]
  try rw[←e0]
  try rw[←e1]
  refine⟨?_,?_⟩
  · first|rfl|simp only[e0,e1]|(simp only[anj])
  · first|exact H5|simpa +zetaDelta only[e0,e1,anj] using H5
 refine sk<|cO<|bl H4 2 J JP J i1 J<|k<|cz H4 0 J JO J J aw J<|k<|ahQ (k:=(ft,fy)) (v:=true) XH H4 3 J J J J J J J ?_
 let bZ:=[J1,bS fU (lJ met (ft,fy) true),J2,J3,J4,J5]
 intro w5 (H5:HI M w w5 ((J6::J0::bZ)++r))
 refine bp<|au (v:=.bool false) J J<|av<|rt<|r1 J J ?_
 have H6:=HI.aR (l:=(J6::J0::bZ)) (l':=bZ) (t:=r) H5 [2,3,4,5,6,7] aw J J
 have e0:(false:Bool)=((eT mn mr kp) met (ft,fy,gE)).1:=by simp only[eT,b0,b1,(eY b2),BL]
 have e1:(lJ met (ft,fy) true:List ((Int×Int)×Bool))=(((eT mn mr kp) met (ft,fy,gE)).2):=by simp only[eT,b0,b1,(eY b2),BL]
 try rw[←e0]
 try rw[←e1]
 refine⟨?_,?_⟩
 · first|rfl|simp only[e0,e1]|(simp only[anj])
 · first|exact H6|simpa +zetaDelta only[e0,e1,anj] using H6
theorem Gv {xs:List (Int×Int×Int)} (fY:aM mn) (bV:bF mn mr=true) (H:HI M w w_ ([oL w 122 dR xs dJ,box kn #[.map (some fU)] 215,bS fU met,box mx #[C mn,R bA mr bz] 26,iL bA mr bz,box my #[R j0 kp jY] 27,iL j0 kp jY]++r)):Calls aK 184 #[R dR xs dJ,.func (.func 169) #[] #[pV kn 0,pV mx 0,pV my 0]] w_ (cg fun v w'=>∃(ix:Int) (mt:List ((Int×Int)×Bool)),v=C ix∧HI M w w' ([oL w 122 dR xs dJ,box kn #[.map (some fU)] 215,bS fU mt,box mx #[C mn,R bA mr bz] 26,iL bA mr bz,box my #[R j0 kp jY] 27,iL j0 kp jY]++r)∧Na (eT mn mr kp) met xs ix mt):=by
 refine enter 19 Tryz.func184 J J J fun f0 ha=>?_
 have Gi:=j'<|H.at_ 0 J
 have np:=bf<|H.rv 4 J
 have XP:=bf<|H.rv 6 J
 have i0:f0 0=R dR xs dJ:=ha 0 bh
 have i1:f0 1=.func (.func 169) #[] #[pV kn 0,pV mx 0,pV my 0]:=ha 1 bh
 refine aB<|au (v:=C 0) J J<|av<|sq<|aB<|ak J i0<|k<|dP J J ej<|ak (v:=C 0) J J<|av<|bk ?_
 let J0:=oL w 122 dR xs dJ
 let J1:=box kn #[.map (some fU)] 215
 let J2:=box mx #[C mn,R bA mr bz] 26
 let J3:=iL bA mr bz
 let J4:=box my #[R j0 kp jY] 27
 let J5:=iL j0 kp jY
 let ba:=[J2,J3,J4,J5]
 refine lp (fun m f w'=>∃(j_:Nat) (mS:List ((Int×Int)×Bool)),m=xs.length-j_∧f 0=R dR xs dJ∧f 1=.func (.func 169) #[] #[pV kn 0,pV mx 0,pV my 0]∧f 7=C (xs.length:Int)∧f 8=C (j_:Int)∧HI M w w' ((J0::J1::bS fU mS::ba)++r)∧(j_≤xs.length)∧(gh (eT mn mr kp) met (xs.take j_)=(xs.take j_,mS))) _ ⟨0,met,J,i0,i1,J,(bJ J),H,aq,(by exact Wk)⟩ ?_
 rintro _ f0 w0 ⟨j_,mS,rfl,s0,s1,s2,s3,H0,pB,hs⟩
 refine aB<|k<|lss J J s3 s2<|av<|sq<|cd (b:=decide ((j_:Int)<(xs.length:Int))) J J (fun b0=>?_)<|fun b0=>?_
 ·
  have p0:=dT b0
  refine sk<|nx<|sq<|bk<|aB<|ak J s3<|au (v:=C (j_:Int)) J J<|bp<|ak J s1<|ak J s0<|ak (v:=C (j_:Int)) J J<|k<|ij (H0.at_ 0 J) J J J J aq ej cI ?_
  intro g0 x0 iq aP ct
  refine k<|nt ct cI J J ?_
  intro v0 cq
  obtain⟨_,⟨_,_,rfl,⟨rfl,dZ⟩,⟨_,_,rfl,⟨rfl,dY⟩,⟨rfl,fu⟩⟩⟩,rfl⟩:=cq
  refine k ?_
  let bZ:=[J2,J3,J4,J5,J0]
  have H1:HI M w w0 ((J1::bS fU mS::ba)++([J0]++r)):=HI.aR (l:=(J0::J1::bS fU mS::ba)) (l':=(J1::bS fU mS::bZ)) (t:=r) H0 [1,2,3,4,5,6,0] aw rfl rfl
  have bP:=D7 (ft:=x0.1) (fy:=x0.2.1) (gE:=x0.2.2) (kn:=kn) (fU:=fU) (met:=mS) (mx:=mx) (mn:=mn) (bA:=bA) (bz:=bz) (mr:=mr) (my:=my) (j0:=j0) (jY:=jY) (kp:=kp) (w:=w) (w_:=w0) (r:=([J0]++r)) (M:=M) dZ dY fu fY (by exact bV) H1
  refine cf Yw J J J (ec J e0) bP ?_
  rintro _ w1 ⟨rfl,H2⟩
  let dE:=J1::bS fU (((eT mn mr kp) mS (x0.1,x0.2.1,x0.2.2)).2)::bZ
  have H3:HI M w w1 (dE++r):=H2
  refine z<|nx<|cd (b:=((eT mn mr kp) mS (x0.1,x0.2.1,x0.2.2)).1) J J (fun b1=>?_)<|fun b1=>?_
  ·
   refine aB<|ak (v:=C (j_:Int)) J J<|au (v:=C (j_:Int)) J J<|av<|rt<|bQ<|aL<|dU<|bQ<|aL<|r1 J J ?_
   have H4:=HI.aR (l:=dE) (l':=(J0::J1::bS fU (((eT mn mr kp) mS (x0.1,x0.2.1,x0.2.2)).2)::ba)) (t:=r) H3 [6,0,1,2,3,4,5] aw J J
   refine⟨(j_:Int),(((eT mn mr kp) mS (x0.1,x0.2.1,x0.2.2)).2),?_,?_,(by exact adD hs aq aP b1)⟩
   · first|rfl|simp only[anj]
   · first|exact H4|simpa +zetaDelta only[anj] using H4
  refine sk<|aJ<|nx<|rg<|k<|add J J s3 J aT<|ak (v:=C ((j_:Int)+1)) J J<|z ?_
  let iO:=J0::J1::bS fU (((eT mn mr kp) mS (x0.1,x0.2.1,x0.2.2)).2)::ba
  have H4:HI M w w1 (iO++r):=HI.aR (l:=dE) (l':=iO) (t:=r) H3 [6,0,1,2,3,4,5] aw rfl rfl
  refine bB _ ?_ ⟨(j_+1),(((eT mn mr kp) mS (x0.1,x0.2.1,x0.2.2)).2),J,s0,s1,s2,(bJ J),H4,aq,(by exact aad hs aP b1)⟩
  omega
 have p0:=dF b0
 refine ex<|aW<|bc<|bg<|cO<|au (v:=C (-1)) J J<|av<|rt<|r1 J J ?_
 refine⟨(-1),mS,?_,?_,(by exact adE hs aq)⟩
 · first|rfl|simp only[anj]
 · first|exact H0|simpa +zetaDelta only[anj] using H0
theorem afr:cu aK 184:=⟨_,_,Tryz.func184,rfl,aC⟩
theorem QH:cu aK 65:=⟨_,_,Tryz.func65,rfl,aC⟩
theorem afx:cu aK 168:=⟨_,_,Tryz.func168,rfl,aC⟩
theorem FD {xs:List (Int×Int×Int)} (fY:aM mn) (bV:bF mn mr=true) (H:HI M w w_ ([oL w 122 dR xs dJ,box kn #[.map (some fU)] 215,bS fU met,box mx #[C mn,R bA mr bz] 26,iL bA mr bz,box my #[R j0 kp jY] 27,iL j0 kp jY]++r)):Calls aK 168 #[R dR xs dJ,.func (.func 169) #[] #[pV kn 0,pV mx 0,pV my 0]] w_ (cg fun v w'=>v=.slice dR ((gh (eT mn mr kp) met xs).1).length dJ∧HI M w w' ([oL w 122 dR ((gh (eT mn mr kp) met xs).1) dJ,box kn #[.map (some fU)] 215,bS fU ((gh (eT mn mr kp) met xs).2),box mx #[C mn,R bA mr bz] 26,iL bA mr bz,box my #[R j0 kp jY] 27,iL j0 kp jY]++r)):=by
 refine enter 42 Tryz.func168 J J J fun f0 ha=>?_
 have Gi:=j'<|H.at_ 0 J
 have np:=bf<|H.rv 4 J
 have XP:=bf<|H.rv 6 J
 have i0:f0 0=R dR xs dJ:=ha 0 bh
 have i1:f0 1=.func (.func 169) #[] #[pV kn 0,pV mx 0,pV my 0]:=ha 1 bh
 refine aB<|au (v:=.slice none 0 0) J J<|bp<|ak J i0<|ak J i1<|k ?_
 let J0:=oL w 122 dR xs dJ
 let J1:=box kn #[.map (some fU)] 215
 let J2:=box mx #[C mn,R bA mr bz] 26
 let J3:=iL bA mr bz
 let J4:=box my #[R j0 kp jY] 27
 let J5:=iL j0 kp jY
 let ba:=[J2,J3,J4,J5]
 let bZ:=J0::J1::bS fU met::ba
 have H0:HI M w w_ ((J0::J1::bS fU met::ba)++([]++r)):=HI.aR (l:=bZ) (l':=bZ) (t:=r) H [0,1,2,3,4,5,6] aw rfl rfl
 have bP:=Gv (dR:=dR) (dJ:=dJ) (xs:=xs) (kn:=kn) (fU:=fU) (met:=met) (mx:=mx) (mn:=mn) (bA:=bA) (bz:=bz) (mr:=mr) (my:=my) (j0:=j0) (jY:=jY) (kp:=kp) (w:=w) (w_:=w_) (r:=([]++r)) (M:=M) fY (by exact bV) H0
 refine ca afr J (ec J<|ec J e0) bP ?_
 rintro _ w0 ⟨o0,o1,rfl,H1,q0⟩
 have H2:HI M w w0 ((J0::J1::bS fU o1::ba)++r):=H1
 refine au (v:=C o0) J J<|av<|sq<|aB<|ak (v:=C o0) J J<|k<|eql J J J J<|z<|nx<|cd (b:=decide (o0=(-1))) J J (fun b0=>?_)<|fun b0=>?_
 ·
  have p0:=dT b0
  refine aB<|ak J i0<|au (v:=R dR xs dJ) J J<|av<|rt<|aL<|r1 J J ?_
  have e0:(xs:List _)=((gh (eT mn mr kp) met xs).1):=by rw[O8 q0 bq]
  have e1:(o1:List ((Int×Int)×Bool))=((gh (eT mn mr kp) met xs).2):=by rw[O8 q0 bq]
  try rw[←e0]
  try rw[←e1]
  refine⟨?_,?_⟩
  · first|rfl|simp only[e0,e1]|(simp only[anj])
  · first|exact H2|simpa +zetaDelta only[e0,e1,anj] using H2
 have p0:=dF b0
 refine sk<|nx<|sq<|sq ?_
 obtain⟨aip,QA⟩:=Wu q0 bq
 have aiq:=QA.1
 refine rg<|ak (v:=C o0) J J<|k<|add J J J J aT<|au (v:=C (o0+1)) J J<|av<|bk<|lp (fun m f w'=>∃(q:Int) (k_:Nat) (ys:List dX) (mS:List ((Int×Int)×Bool)),m=xs.length-k_∧f 0=R dR xs dJ∧f 1=.func (.func 169) #[] #[pV kn 0,pV mx 0,pV my 0]∧f 5=C q∧f 6=C (k_:Int)∧HI M w w' ((own w.heap.size 122 (.slice dR xs.length dJ) ys::J1::bS fU mS::ba)++r)∧(0≤q∧q<(k_:Int)∧k_≤xs.length)∧(DS (eT mn mr kp) met xs ys q k_ mS)) _ ⟨o0,(o0.toNat+1),xs,o1,J,i0,i1,(bJ J),(bJ J),H2,aq,(by exact QA)⟩ ?_
 rintro _ f0 w1 ⟨q,k_,ys,mS,rfl,s0,s1,s2,s3,H3,so,hs⟩
 refine sq<|aB<|ak J s3<|ak J s0<|k<|dP J J ej<|k<|lss J J J J<|z<|nx<|cd (b:=decide ((k_:Int)<(xs.length:Int))) J J (fun b1=>?_)<|fun b1=>?_
 ·
  have p1:=dT b1
  refine sk<|nx<|sq<|bk<|aB<|ak J s0<|ak J s3<|k<|ij (H3.at_ 0 J) J J J J (by have h_:=hs.2.2.1;first|omega|(simp only[fA,gY,od,gr];omega)) ej cI ?_
  intro g0 x0 iq aP ct
  refine k<|nt ct cI J J ?_
  intro v0 cq
  obtain⟨_,⟨_,_,rfl,⟨rfl,dZ⟩,⟨_,_,rfl,⟨rfl,dY⟩,⟨rfl,fu⟩⟩⟩,rfl⟩:=cq
  refine k<|al H3 cI ?_
  let J6:=own w.heap.size 122 (.slice dR xs.length dJ) ys
  let dE:=J1::bS fU mS::ba
  intro aX w2 bT (H4:HI M w w2 ((box aX #[C 0,C 0,C 0] 122::J6::dE)++r))
  refine k<|bt H4 0 J cI J J J J J J J ?_
  let J7:=box aX #[C x0.1,C x0.2.1,C x0.2.2] 122
  intro w3 (H5:HI M w w3 ((J7::J6::dE)++r))
  refine bp<|ak J s1<|k<|cz H5 0 J cI J J aw J<|k ?_
  have H6:HI M w w3 (dE++([J7,J6]++r)):=HI.aR (l:=(J7::J6::dE)) (l':=[J1,bS fU mS,J2,J3,J4,J5,J7,J6]) (t:=r) H5 [2,3,4,5,6,7,0,1] aw rfl rfl
  have cS:=D7 (ft:=x0.1) (fy:=x0.2.1) (gE:=x0.2.2) (kn:=kn) (fU:=fU) (met:=mS) (mx:=mx) (mn:=mn) (bA:=bA) (bz:=bz) (mr:=mr) (my:=my) (j0:=j0) (jY:=jY) (kp:=kp) (w:=w) (w_:=w3) (r:=([J7,J6]++r)) (M:=M) dZ dY fu fY (by exact bV) H6
  refine cf Yw J J J (ec J e0) cS ?_
  rintro _ w4 ⟨rfl,H7⟩
  let iO:=[J1,bS fU (((eT mn mr kp) mS (x0.1,x0.2.1,x0.2.2)).2),J2,J3,J4,J5,J7,J6]
  have H8:HI M w w4 (iO++r):=H7
  refine k<|jI J J<|z<|nx<|cd (b:=!(((eT mn mr kp) mS (x0.1,x0.2.1,x0.2.2)).1)) J J (fun b2=>?_)<|fun b2=>?_
  ·
   refine aB<|ak J s0<|ak J s2<|k<|cz H8 6 J cI J J aw J<|k<|ij (H8.at_ 7 J) J J J J (by have h_:=hs.2.2.1;first|omega|(simp only[fA,gY,od,gr];omega)) ej cI ?_
   intro g1 x1 kG cP gL
   refine k<|pt H8 7 J kG J (by have h_:=hs.2.2.1;first|omega|(simp only[fA,gY,od,gr];omega)) cI J J J J ⟨_,⟨_,_,J,⟨J,(show aM (x0.1) from bq)⟩,⟨_,_,J,⟨J,(show aM (x0.2.1) from bq)⟩,⟨J,(show aM (x0.2.2) from bq)⟩⟩⟩,J⟩ ?_
   let J8:=own w.heap.size 122 (.slice dR xs.length dJ) (ys.set q.toNat (x0.1,x0.2.1,x0.2.2))
   let fk:=[J1,bS fU (((eT mn mr kp) mS (x0.1,x0.2.1,x0.2.2)).2),J2,J3,J4,J5,J7,J8]
   intro w5 (H9:HI M w w5 (fk++r))
   refine av<|rg<|ak J s2<|k<|add J J J J aT<|au (v:=C (q+1)) J J<|z<|aJ<|nx<|rg<|ak J s3<|k<|add J J J J aT<|au (v:=C ((k_:Int)+1)) J J<|z ?_
   let kJ:=J8::J1::bS fU (((eT mn mr kp) mS (x0.1,x0.2.1,x0.2.2)).2)::ba
   have dH:HI M w w5 (kJ++r):=HI.aR (l:=fk) (l':=kJ) (t:=r) H9 [7,0,1,2,3,4,5] aw rfl rfl
   refine bB _ ?_ ⟨(q+1),(k_+1),(ys.set q.toNat (x0.1,x0.2.1,x0.2.2)),(((eT mn mr kp) mS (x0.1,x0.2.1,x0.2.2)).2),J,s0,s1,(bJ J),(bJ J),dH,aq,(by exact aam hs aP (by simpa using b2))⟩
   omega
  refine sk<|aJ<|nx<|rg<|ak J s3<|k<|add J J J J aT<|au (v:=C ((k_:Int)+1)) J J<|z ?_
  let rJ:=J6::J1::bS fU (((eT mn mr kp) mS (x0.1,x0.2.1,x0.2.2)).2)::ba
  have H9:HI M w w4 (rJ++r):=HI.aR (l:=iO) (l':=rJ) (t:=r) H8 [7,0,1,2,3,4,5] aw rfl rfl
  refine bB _ ?_ ⟨q,(k_+1),ys,(((eT mn mr kp) mS (x0.1,x0.2.1,x0.2.2)).2),J,s0,s1,(bJ s2),(bJ J),H9,aq,(by exact aan hs aP (by simpa using b2))⟩
  omega
 have p1:=dF b1
 refine ex<|aW<|bc<|bg<|cO<|ak J s0<|ak J s2<|k<|UZ (H3.at_ 0 J) J J J J (by have h_:=hs.2.2.1;first|omega|(simp only[fA,gY,od,gr];omega)) ej cI<|k<|clE H3 0 J J J (q:=q.toNat) J ej cI (by have h_:=hs.2.2.1;omega) ?_
 intro w2 (H4:HI M w w2 ((own w.heap.size 122 (.slice dR xs.length dJ) (ys.take q.toNat++List.replicate (ys.length-q.toNat) (0,0,0))::J1::bS fU mS::ba)++r))
 refine bp<|ak J s0<|ak J s2<|k<|RM H4 0 J J J J J (by have h_:=hs.2.2.1;first|omega|(simp only[fA,gY,od,gr];omega)) ej cI ?_
 intro (H5:HI M w w2 ((oL w 122 dR ((ys.take q.toNat++List.replicate (ys.length-q.toNat) (0,0,0)).take q.toNat) dJ::J1::bS fU mS::ba)++r))
 refine au (v:=R dR ((ys.take q.toNat++List.replicate (ys.length-q.toNat) (0,0,0)).take q.toNat) dJ) J J<|av<|rt<|r1 J J ?_
 have e0:((ys.take q.toNat++List.replicate (ys.length-q.toNat) (0,0,0)).take q.toNat:List _)=((gh (eT mn mr kp) met xs).1):=by exact(TT hs aq aq _).1
 have e1:(mS:List ((Int×Int)×Bool))=((gh (eT mn mr kp) met xs).2):=by exact(TT hs aq aq []).2
 try rw[←e0]
 try rw[←e1]
 refine⟨?_,?_⟩
 · first|rfl|simp only[e0,e1]|(simp only[anj])
 · first|exact H5|simpa +zetaDelta only[e0,e1,anj] using H5
theorem PL (hM:eG M w) (hT:fP 0 w) (dy:cA M w ay ax I) (fZ:cA M w aA az U) (fY:aM mn) (gl:cA M w bA bz mr) (aiw:cA M w j0 jY kp) (du:I.length≤4096) (eu:U.length=I.length) (fG:∀x∈U,x<((I.length:Nat):Int)) (bV:bF mn mr=true):Calls aK 142 #[.agg #[.slice aE aF aD,R ay I ax,R aA U az],.agg #[C mn,R bA mr bz],R j0 kp jY] w (cg fun v w'=>∃(a0:OA) (c0:Nat),v=.slice a0 (gD mn mr kp (cH I U mn mr)).length c0∧Ext w w'∧bj M 122 w (gD mn mr kp (cH I U mn mr)) (.slice a0 (gD mn mr kp (cH I U mn mr)).length c0) w'):=by
 refine dm 14 Tryz.func142 J J J hM fun f0 ha H=>?_
 let J0:=iL ay I ax
 have H0:=H.put (it:=J0) J<|by rw[bN];exact dy
 let J1:=iL aA U az
 have H1:=H0.put (it:=J1) J<|by rw[aG rfl,bN];exact fZ
 let J2:=iL bA mr bz
 have H2:=H1.put (it:=J2) J<|by rw[aG rfl,aG rfl,bN];exact gl
 let J3:=iL j0 kp jY
 have H3:=H2.put (it:=J3) J<|by rw[aG rfl,aG rfl,aG rfl,bN];exact aiw
 have i0:f0 0=.agg #[.slice aE aF aD,R ay I ax,R aA U az]:=ha 0 bh
 have i1:f0 1=.agg #[C mn,R bA mr bz]:=ha 1 bh
 have i2:f0 2=R j0 kp jY:=ha 2 bh
 refine aB<|k<|bx H3 J i0 ?_
 let ba:=[J3,J2,J1,J0]
 intro aX w0 bT (H4:HI M w w0 (box aX #[.slice aE aF aD,R ay I ax,R aA U az] 47::ba))
 let J4:=box aX #[.slice aE aF aD,R ay I ax,R aA U az] 47
 refine k<|bx H4 J i1 ?_
 intro aZ w1 da (H5:HI M w w1 (box aZ #[C mn,R bA mr bz] 26::J4::ba))
 let J5:=box aZ #[C mn,R bA mr bz] 26
 refine k<|bx H5 J i2 ?_
 intro bD w2 eR (H6:HI M w w2 (box bD #[R j0 kp jY] 27::J5::J4::ba))
 let J6:=box bD #[R j0 kp jY] 27
 refine au (v:=.slice none 0 0) J J<|bp<|k<|mmP H6 ?_
 intro dD w3 fH (H7:HI M w w3 (bS dD ([]:List ((Int×Int)×Bool))::J6::J5::J4::ba))
 refine k<|al H7 JP ?_
 let bZ:=bS dD ([]:List ((Int×Int)×Bool))::J6::J5::J4::ba
 intro fe w4 ja (H8:HI M w w4 (box fe #[.map none] 215::bZ))
 refine k<|bt H8 0 J JP J J J J J J J ?_
 let J7:=box fe #[.map (some dD)] 215
 intro w5 (H9:HI M w w5 (J7::bZ))
 refine bp<|k<|cz H9 4 J dN J J aw J<|k<|cz H9 3 J bm J J aw J<|k ?_
 have bP:=uB (I:=I) (U:=U) (mn:=mn) (mr:=mr) (aE:=aE) (aF:=aF) (aD:=aD) H9.mb (hT.ext H9.below) (H9.rv 8 J) (H9.rv 7 J) fY (H9.rv 6 J) (by exact du) (by exact eu) (by exact fG)<|by exact bV
 refine ca QH J (ec J<|ec J e0) bP ?_
 rintro _ w6 ⟨a0,c0,rfl,ji,cq⟩
 have dH:=H9.eL cq
 refine k<|mf J<|k ?_
 have db:HI M w w6 ([oL w 122 a0 (cH I U mn mr) c0,J7,bS dD ([]:List ((Int×Int)×Bool)),J5,J2,J6,J3]++[J4,J1,J0]):=dH.bU [0,1,2,4,7,3,6,5,8,9] aw rfl
 have cS:=FD (dR:=a0) (dJ:=c0) (xs:=(cH I U mn mr)) (kn:=fe) (fU:=dD) (met:=([]:List ((Int×Int)×Bool))) (mx:=aZ) (mn:=mn) (bA:=bA) (bz:=bz) (mr:=mr) (my:=bD) (j0:=j0) (jY:=jY) (kp:=kp) (w:=w) (w_:=w6) (r:=[J4,J1,J0]) (M:=M) fY (by exact bV) db
 refine ca afx J (ec J<|ec J e0) cS ?_
 rintro _ w7 ⟨rfl,dw⟩
 have dz:HI M w w7 [oL w 122 a0 ((gh (eT mn mr kp) ([]:List ((Int×Int)×Bool)) (cH I U mn mr)).1) c0,J7,bS dD ((gh (eT mn mr kp) ([]:List ((Int×Int)×Bool)) (cH I U mn mr)).2),J5,J2,J6,J3,J4,J1,J0]:=dw
 refine au (v:=R a0 ((gh (eT mn mr kp) ([]:List ((Int×Int)×Bool))<|cH I U mn mr).1) c0) J J<|av<|rt<|r1 J J ?_
 have e0:(((gh (eT mn mr kp) ([]:List ((Int×Int)×Bool)) (cH I U mn mr)).1):List (Int×Int×Int))=gD mn mr kp (cH I U mn mr):=rfl
 have bo:=iB (fun (bW:List (Int×Int×Int))=>(.slice a0 bW.length c0:Value)) e0
 exact⟨a0,c0,bo,dz.below,(ani (fun (x_:List (Int×Int×Int))=>bj _ _ _ x_ (.slice a0 x_.length c0) _) e0).mp (dz.df 0 J)⟩
end Go.Proofs.YtgjakhpjmapelaaGreatDoor
