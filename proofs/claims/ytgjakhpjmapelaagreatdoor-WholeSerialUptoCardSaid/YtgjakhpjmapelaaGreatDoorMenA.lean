/- PRINTED by my own tool (wip/tool/gen.py): contracts of Go functions of this seat, each with its proof. -/
import Derived.Test.YtgjakhpjmapelaaGreatDoorProg
import Derived.Test.YtgjakhpjmapelaaGreatDoorUwnB
import Derived.Test.YtgjakhpjmapelaaGreatDoorUwnA
import Derived.Test.YtgjakhpjmapelaaGreatDoorUwnC
import Derived.Test.YtgjakhpjmapelaaGreatDoorUwnD
set_option linter.unusedVariables false
set_option linter.unusedSimpArgs false
namespace Go.Proofs.YtgjakhpjmapelaaGreatDoor
open Go.Ew Go.RowKit
set_option maxRecDepth 100000
set_option maxHeartbeats 1600000
attribute [local irreducible] WL WC SO PW PX PZ WE Code.wp wpList sB cp
attribute [local irreducible] kl xQ jx fq ej AJ Dw KW words eb cX jM fH vS
theorem cI {P:Program} {g:Nat} {fn:Func} {c:Code} (h:P.funcs[g]? =some fn) (hb:fn.body=some c:=by exact rfl) (hn:(fn.name== "runtime.NumGoroutine")=false:=by kernel_rfl):cA P g:=⟨fn,c,h,hb,hn⟩
theorem jU {P:Program} {s:TypeId} {j o:Nat} {fs:Array _} {fd:_} (h:P.underlying s=some (.struct fs)) (h1:fs[j]? =some fd:=by exact rfl) (h2:fd.offset=o:=by exact rfl) (h3:((P.info? fd.type).map fun i=>Nat.beq i.size 0)=some false:=by kernel_rfl):gR P s j o:=⟨fs,fd,h,h1,h2,h3⟩
theorem eG {M0 M1:Nat→Prop} {w0 w:World} {l:List Go.Ew.Item} {α:Type} [GT α] {a:OA} {c:Nat} {xs:List α} (H:HI M0 w0 w l) (h:RV M1 w (.slice a xs.length c) xs) (e:MS M0 l=M1:=by first|with_reducible rfl|(repeat first|rw[bP]|rw[aD rfl])):HI M0 w0 w (iL a xs c::l):=H.put (it:=iL a xs c) rfl (by rw[e];exact h)
noncomputable abbrev aI:Program:=Tryz.prog
theorem aR {x:Int} (h:aJ x:=by first|assumption|(unfold aJ at *;omega)):aJ x:=h
theorem ao_ {p:Prop} (h:p:=by first|omega|assumption|simp):p:=h
theorem aS {p:Prop} (h:p:=by kernel_rfl):p:=h
theorem bG {v:Value} {k:IntKind} {a b:Int} (h:v=.int k a) (e:a=b:=by first|rfl|omega|simp):v=.int k b:=e▸h
theorem dG {M0:Nat→Prop} {P:Program} {g:FuncId} {fn:Func} {c:Code} {args:Array Value} {w:World} {R:Value→World→Prop} (n:Nat) (hf:P.funcs[g]? =some fn) (hb:fn.body=some c) (hn:fn.ntmps=n) (ha:Nat.ble args.size n=true) (hM:∀b,M0 b→b<w.heap.size) (h:∀f:aN,(∀(i:Nat) {v:Value},args.toList[i]? =some v→f i=v)→HI M0 w w []→WC P n c (sB P n fn R) f w):Calls P g args w (cp R):=
  enter n hf hb hn ha fun f h1=>h f (fun i v hv=>by
    rw[aou] at hv
    obtain⟨h2,h3⟩:=anJ.1 hv
    rw[←h3]
    exact h1 i h2) (HI.start hM)
theorem qt {w:World}:∀b,(fun _:Nat=>False) b→b<w.heap.size:=fun _ h=>h.elim
theorem Et {F S:OA→Nat→Value} {D:Nat→Prop} {α:Type} [GT α] {X:List α}:sj (fun N v w=>∃(a:OA) (c:Nat),v=F a c∧RV (MN D N) w (S a c) X):=
  ⟨by rintro _ _ _ _ x_ ⟨a,c,e_,r⟩;exact⟨a,c,e_,r.lift (Up.ext x_)⟩,by rintro _ _ _ _ _ k_ ⟨a,c,e_,r⟩;exact⟨a,c,e_,ie r k_⟩⟩
theorem nh {F S:OA→Nat→Value} {D:Nat→Prop} {α:Type} [GT α] {X:List α}:sj (fun _ v w=>∃(a:OA) (c:Nat),v=F a c∧RV D w (S a c) X):=
  mN (by rintro _ _ _ x_ ⟨a,c,e_,r⟩;exact⟨a,c,e_,r.lift (Up.ext x_)⟩)
abbrev cD {α:Type} [GT α] (M:Nat→Prop) (w:World) (a:OA) (c:Nat) (l:List α):Prop:=RV M w (.slice a l.length c) l
abbrev eO (M:Nat→Prop) (w:World):Prop:=∀b,M b→b<w.heap.size
section
variable {P:Program} {n id:Nat} {l:List Oper} {y:Code} {Q:Exit→Act→World→Prop} {f:aN} {w:World} {ops:Array Oper}
theorem aq (h:WC P n y Q f w):WL P n ops (Exit.then (fun a w=>y.wp P Q a w) Q) [] f w:=z (nx h)
theorem az (h:WL P n l.toArray (Exit.then (fun a w=>y.wp P Q a w) Q) l f w):WC P n (.seq (.region id l.toArray false) y) Q f w:=sq (rg h)
theorem bz (h:WL P n l.toArray (Exit.then (fun a w=>y.wp P Q a w) Q) l f w):WL P n ops (Exit.then (fun a w=>(Code.seq (.region id l.toArray false) y).wp P Q a w) Q) [] f w:=z (nx (sq (rg h)))
section
variable {rest:List Oper} {d t j off bb:Nat} {dd:Option Nat} {x:Operand} {v z:Value} {ty T t2:TypeId} {ps:String} {af:Array Edge} {ad:Addr} {op:Op} {want b:Bool} {bytes:Nat} {cs:Array Value} {M0:Nat→Prop} {w0:World} {l:List Go.Ew.Item}
theorem bH {ag:UN} {zk:ZK} {ks:List ZK} {ae:World→Prop} {K0:UN→aN→Prop} {rest:List Oper} {o:Oper} {w0:World} (h:PW P n ops w0 (fun f'=>PZ P n ops w0 ae K0 rest ks ag f') [o] f) (hz:KC zk=true:=by exact rfl) (hf:(lu n o&&D4 ops o ag)=true:=by exact rfl):PW P n ops w0 (fun f=>PZ P n ops w0 ae K0 (o::rest) (zk::ks) ag f) [] f:=zq (yq hz hf h)
theorem ai (ox:bI n x=true) (hx:ev f x=v) (h:WL P n ops Q rest (ck f d v) w):WL P n ops Q (⟨some d,.move x,ty,ps,af,none⟩::rest) f w:=k (mv ox hx h)
theorem ak (ox:bI n x=true) (hx:ev f x=v) (h:WL P n ops Q rest (ck f d v) w):WL P n ops Q (⟨some d,.assign x,ty,ps,af,none⟩::rest) f w:=k (jO ox hx h)
theorem aQ (F:gR P T j off) (ox:bI n x=true) (hx:ev f x=.pointer (some ad)) (h:WL P n ops Q rest (ck f d (.pointer (some (ad.add off)))) w):WL P n ops Q (⟨some d,.fieldAddr T x j,ty,ps,af,none⟩::rest) f w:=k (fa F ox hx h)
theorem aW (hj:xV ops j=some t) (ht:Nat.blt t n=true) (hv:f t=.bool b) (hb:b=!want) (h:WL P n ops Q rest (cZ f dd undef) w):WL P n ops Q (⟨dd,op,ty,ps,af,some (j,want)⟩::rest) f w:=k (gn hj ht hv hb h)
theorem bh (hj:xV ops j=some t) (ht:Nat.blt t n=true) (hv:f t=.bool b) (hb:b=want) (h:SO P n ops ⟨dd,op,ty,ps,af,none⟩ f w (WL P n ops Q rest)):WL P n ops Q (⟨dd,op,ty,ps,af,some (j,want)⟩::rest) f w:=k (gy hj ht hv hb h)
theorem bq (H:HI M0 w0 w l) (i:Nat) (hi:l[i]? =some (box bb cs t2)) (F:ef P T 1 false bytes z) (ox:bI n x=true) (hx:ev f x=.pointer (some ⟨bb,off,none⟩)) (hl:((cs.toList.drop off).take 1).length=1) (h:WL P n ops Q rest (ck f d (sR false ((cs.toList.drop off).take 1))) w):WL P n ops Q (⟨some d,.load T x,ty,ps,af,none⟩::rest) f w:=k (lx H i hi F ox hx hl h)
end
theorem cO (h:WL P n l.toArray (Exit.then (fun a w=>y.wp P Q a w) Q) l f w):Exit.then (fun a w=>(Code.seq (.region id l.toArray false) y).wp P Q a w) Q .normal (cj n f) w:=nx (sq (rg h))
end
variable {M:bW} {w w_:aH}
variable {i n n1 fC fE gE mS mR nt mn j o vr tY:Int} {x:bt} {jP wE wD my bD dW aC aw ay zl j8:OA} {j2 wC wB mT dS qD yh bC aE aB av fe ax bN zd kB fW mD mF j6:Nat} {a b:List bt} {l xs fo rY kp:aA} {r:List Go.Ew.Item} {qH:List Value} {p:Int→Bool} {HJ KM:TypeId} {mr:List (List bt)} {U:List aO} {met:List ((Int×Int)×Bool)}
theorem DT:aI.underlying 152=some (.int .u64):=aS
theorem BY:aI.underlying 3=some (.int .i64):=aS
theorem QI:cA aI 127:=cI Tryz.func127
theorem W7:aI.underlying 227=some (.array 64 5):=aS
theorem N3:ef aI 5 1 false 1 (.int .u8 0):=⟨aS,aS⟩
theorem N1:aI.underlying 5=some (.int .u8):=aS
theorem afw:cA aI 157:=cI Tryz.func157
theorem iq:aI.underlying 144=some (.slice 151):=aS
theorem Yl:cA aI 124:=cI Tryz.func124
theorem fw:ef aI 151 1 false 8 (.int .u64 0):=⟨aS,aS⟩
theorem afN:cA aI 125:=cI Tryz.func125
theorem QJ:cA aI 126:=cI Tryz.func126
theorem afO:cA aI 123:=cI Tryz.func123
theorem afL:cA aI 129:=cI Tryz.func129
theorem cG:aI.underlying 27=some (.slice 3):=aS
theorem aT:ef aI 3 1 false 8 (.int .i64 0):=⟨aS,aS⟩
theorem E5 (rb:aJ i):Calls aI 127 #[I i] w (cp fun v w'=>v=ag (kl i)∧Ext w w'):=by
 refine dG 9 Tryz.func127 J J J qt fun f0 ha H=>?_
 have i0:f0 0=I i:=ha 0 bl
 refine az<|ak (v:=ag (0#64)) J J<|aq<|sq<|az<|ai J i0<|k<|Pb J J BY DT<|k<|Ye (BitVec.ofInt 64 i) (63#64) J J J J<|z<|nx<|cd (b:=decide ((63#64).toNat<(BitVec.ofInt 64 i).toNat)) J J (fun b0=>?_)<|fun b0=>?_
 ·
  have p0:=dT b0
  refine az<|ak (v:=ag (0#64)) J J<|aq<|rt<|aK<|r1 J J ?_
  exact⟨am_ ag (by exact aam rb p0),H.below⟩
 have p0:=dF b0
 refine sk<|cO<|ai J i0<|k<|Pb J J BY DT<|k<|aaX (1#64) ((BitVec.ofInt 64 i).toNat:Int) aj J J J J<|ak (v:=ag ((1#64) <<< ((BitVec.ofInt 64 i).toNat:Int).toNat)) J J<|aq<|rt<|r1 J J ?_
 exact⟨am_ ag (by exact aal rb p0),H.below⟩
theorem Ux (rb:aJ i):Calls aI 125 #[ag x,I i] w (cp fun v w'=>v=.bool (xQ x i)∧Ext w w'):=by
 refine dG 10 Tryz.func125 J J J qt fun f0 ha H=>?_
 have i0:f0 0=ag x:=ha 0 bl
 have i1:f0 1=I i:=ha 1 bl
 refine az<|ak (v:=.bool false) J J<|bz<|ai J i0<|ai J i1<|k ?_
 have bS:=E5 (i:=i) (w:=w) rb
 refine ca QI J (ec J e0) bS ?_
 rintro _ w0 ⟨rfl,bY⟩
 have H0:=H.ext bY
 refine k<|DE x (kl i) J J J J<|k<|neU (x &&& (kl i)) (0#64) J J J J<|ak (v:=.bool (!decide ((x &&& (kl i))=(0#64)))) J J<|aq<|rt<|r1 J J ?_
 exact⟨am_ Value.bool (by exact ZP _ _),H0.below⟩
theorem YP (hT:fU 0 w):Calls aI 157 #[ag x] w (cp fun v w'=>v=I ((fH x:Nat):Int)∧Ext w w'):=by
 refine dG 14 Tryz.func157 J J J qt fun f0 ha H=>?_
 have i0:f0 0=ag x:=ha 0 bl
 refine az<|ak (v:=I 0) J J<|aq<|sq<|az<|ai J i0<|k<|eqU x (0#64) J J J J<|z<|nx<|cd (b:=decide (x=(0#64))) J J (fun b0=>?_)<|fun b0=>?_
 ·
  have p0:=dT b0
  refine az<|ak (v:=I 64) J J<|aq<|rt<|aK<|r1 J J ?_
  exact⟨am_ (Value.int .i64) (by have e_:=p0;subst e_;rw[EH];rfl),H.below⟩
 have p0:=dF b0
 refine sk<|cO<|ai J i0<|ai J i0<|k<|abz x J J<|k<|DE x (-x) J J J J<|k<|Fx (x &&& (-x)) (285870213051353865#64) J J J J<|k<|DU ((x &&& (-x))*(285870213051353865#64)) 58 J J J J<|k<|ahY (i:=(((x &&& (-x))*(285870213051353865#64)) >>> 58).toNat) J J J J (by exact E3 (by simpa using p0)) W7 N3<|k<|ld8 (ahG (M:=fun _=>False) hT H.below J<|by exact E3 (by simpa using p0)) N3 J J<|k<|cvI J J aR N1 BY<|ak (v:=I ((vS (((x &&& (-x))*(285870213051353865#64)) >>> 58).toNat).toNat:Int)) J J<|aq<|rt<|r1 J J ?_
 exact⟨am_ (Value.int .i64) (by exact Uv (by simpa using p0)),H.below⟩
theorem Pu (hT:fU 0 w):Calls aI 129 #[ag x] w (cp fun v w'=>v=I ((fH x:Nat):Int)∧Ext w w'):=by
 refine dG 5 Tryz.func129 J J J qt fun f0 ha H=>?_
 have i0:f0 0=ag x:=ha 0 bl
 refine az<|ak (v:=I 0) J J<|bz<|ai J i0<|k ?_
 have bS:=YP (x:=x) (w:=w)<|hT.ext H.below
 refine ca afw J (ec J e0) bS ?_
 rintro _ w0 ⟨rfl,bY⟩
 have H0:=H.ext bY
 refine ak (v:=I ((fH x:Nat):Int)) J J<|aq<|rt<|r1 J J ?_
 exact⟨J,H0.below⟩
theorem RI {r:List bt} (hM:eO M w) (pT:cD M w jP j2 r) (rb:aJ i):Calls aI 124 #[sL jP r j2,I i] w (cp fun v w'=>v=.bool (jx r i)∧Ext w w'):=by
 refine dG 14 Tryz.func124 J J J hM fun f0 ha H=>?_
 have H0:=eG H pT
 have Vx:=bj pT
 have i0:f0 0=sL jP r j2:=ha 0 bl
 have i1:f0 1=I i:=ha 1 bl
 refine az<|ak (v:=.bool false) J J<|bz<|ai J i1<|k<|geq J J J J<|ai (v:=.bool (decide (0≤i))) J J ?_
 rcases bE (decide (0≤i)) with b0|b0
 ·
  have p0:=dT b0
  refine bh J J J b0<|mv J i1<|bh J J J b0<|K8 J J J J<|bh J J J b0<|mv J i0<|bh J J J b0<|dD J J iq<|bh J J J b0<|lss J J J J<|k<|aP J J J J b0 J<|ak (v:=.bool (decide ((i/64)<(r.length:Int)))) J J<|aq<|rt<|r1 J J ?_
  exact⟨am_ Value.bool (by exact ZL p0),H0.below⟩
 have p0:=dF b0
 refine aW J J J b0<|aW J J J b0<|aW J J J b0<|aW J J J b0<|aW J J J b0<|k<|dA J J J J b0 J<|ak (v:=.bool false) J J<|aq<|rt<|r1 J J ?_
 exact⟨am_ Value.bool (by exact ab1 aj),H0.below⟩
theorem Ac {r:List bt} (hM:eO M w) (pT:cD M w jP j2 r) (rb:aJ i):Calls aI 85 #[sL jP r j2,I i] w (cp fun v w'=>v=.bool (fq r i)∧Ext w w'):=by
 refine dG 18 Tryz.func85 J J J hM fun f0 ha H=>?_
 have H0:=eG H pT
 have i0:f0 0=sL jP r j2:=ha 0 bl
 have i1:f0 1=I i:=ha 1 bl
 refine az<|ak (v:=.bool false) J J<|bz<|ai J i0<|ai J i1<|k ?_
 have bS:=RI (r:=r) (i:=i) H0.mb (H0.rv 0 J) rb
 refine ca Yl J (ec J<|ec J e0) bS ?_
 rintro _ w0 ⟨rfl,bY⟩
 have H1:=H0.ext bY
 refine ai (v:=.bool (jx r i)) J J ?_
 rcases bE (jx r i) with b0|b0
 ·
  refine bh J J J b0<|mv J i0<|bh J J J b0<|mv J i1<|bh J J J b0<|K8 J J J J<|bh J J J b0<|ia (H1.rv 0 J) J J J J (by have hb:=b0;unfold jx at hb;simp only[anb] at hb;omega) iq fw ?_
  intro iE x0 aM cz
  refine bh J J J b0<|yL cz.w fw J J<|bh J J J b0<|mv J i1<|bh J J J b0<|KA J J J J<|bh J J J b0 ?_
  have cU:=Ux (x:=x0) (i:=(i%64)) (w:=w0) aR
  refine ca afN J (ec J<|ec J e0) cU ?_
  rintro _ w1 ⟨rfl,cT⟩
  have H2:=H1.ext cT
  refine k<|aP J J J J b0 J<|ak (v:=.bool (xQ x0<|i%64)) J J<|aq<|rt<|r1 J J ?_
  exact⟨am_ Value.bool (by exact ZS b0 aM),H2.below⟩
 refine aW J J J b0<|aW J J J b0<|aW J J J b0<|aW J J J b0<|aW J J J b0<|aW J J J b0<|aW J J J b0<|aW J J J b0<|k<|dA J J J J b0 J<|ak (v:=.bool false) J J<|aq<|rt<|r1 J J ?_
 exact⟨am_ Value.bool (by exact xR b0),H1.below⟩
theorem Dy {r:List bt} (hM:eO M w) (pT:cD M w jP j2 r) (VO:r.length≤1000000000):Calls aI 126 #[sL jP r j2] w (cp fun v w'=>∃(a0:OA) (c0:Nat),v=sL a0 r c0∧Ext w w'∧bm M 151 w r (sL a0 r c0) w'):=by
 refine dG 8 Tryz.func126 J J J hM fun f0 ha H=>?_
 have H0:=eG H pT
 have i0:f0 0=sL jP r j2:=ha 0 bl
 refine az<|ak (v:=.slice none 0 0) J J<|aq<|sq<|az<|ai J i0<|k<|TB J J J J iq<|z<|nx<|cd (b:=jP.isNone) J J (fun b0=>?_)<|fun b0=>?_
 ·
  refine az<|ak (v:=.slice none 0 0) J J<|aq<|rt<|aK<|r1 J J ?_
  have e0:([]:List bt)=r:=by exact(HO pT b0).symm
  have bu:=iK (fun (cg:List bt)=>(.slice none cg.length 0:Value)) e0
  exact⟨none,0,bu,H0.below,(am_ (fun (x_:List bt)=>bm _ _ _ x_ (.slice none x_.length 0) _) e0).mp (fR H0.below)⟩
 refine sk<|cO<|k<|bs (xs:=([]:List bt)) (cells:=#[]) (e:=151) H0 J ew (fun _=>aS) J J au ?_
 intro g0 w0 bY H1
 refine ai J i0<|k<|lY H1 0 J J J J J J (H1.rv 1 J).src iq fw J (by simp;omega) J ?_
 intro a0 c0 w1 (H2:HI M w w1 [oL w 151 a0 r c0,iL jP r j2])
 refine ak (v:=sL a0 r c0) J J<|aq<|rt<|r1 J J ?_
 exact⟨a0,c0,J,H2.below,(H2.dp 0 J)⟩
theorem uz {r:List bt} (hM:eO M w) (pT:cD M w jP j2 r) (rb:aJ i) (VO:r.length≤1000000000):Calls aI 86 #[sL jP r j2,I i] w (cp fun v w'=>∃(a0:OA) (c0:Nat),v=.slice a0 (ej r i).length c0∧Ext w w'∧bm M 151 w (ej r i) (.slice a0 (ej r i).length c0) w'):=by
 refine dG 22 Tryz.func86 J J J hM fun f0 ha H=>?_
 have H0:=eG H pT
 have i0:f0 0=sL jP r j2:=ha 0 bl
 have i1:f0 1=I i:=ha 1 bl
 refine az<|ak (v:=.slice none 0 0) J J<|bz<|ai J i0<|k ?_
 have bS:=Dy (r:=r) H0.mb (H0.rv 0 J) aj
 refine ca QJ J (ec J e0) bS ?_
 rintro _ w0 ⟨a0,c0,rfl,bY,cw⟩
 have H1:=H0.eT cw
 refine ak (v:=sL a0 r c0) J J<|aq<|sq<|az<|ai J i0<|ai J i1<|k ?_
 have cU:=RI (r:=r) (i:=i) H1.mb (H1.rv 1 J) rb
 refine ca Yl J (ec J<|ec J e0) cU ?_
 rintro _ w1 ⟨rfl,cT⟩
 have H2:=H1.ext cT
 refine z<|nx<|cd (b:=jx r i) J J (fun b0=>?_)<|fun b0=>?_
 ·
  refine lH [.r,.r,.r,.r,.r,.r,.r,.r,.r,.e,.e] (fun _=>True) J aS (fun _ _=>trivial)<|yq J J<|kq (fun _ _=>mv (v:=sL a0 r c0) J J e1)<|bH<|kq (fun _ _=>mv J i1 e1)<|bH<|kq (fun _ _=>K8 J J J J e1)<|bH<|oK (H2.at_ 0 J) J J J J (by have hb:=b0;unfold jx at hb;simp only[anb] at hb;omega) iq fw ?_
  intro iE x0 aM cz
  refine bH<|ae3 cz fw J J<|bH<|kq (fun _ _=>mv J i1 e1)<|bH<|kq (fun _ _=>KA J J J J e1)<|zq<|yq J J<|kq (v:=ag (kl<|i%64)) (fun v_ _=>have cc:=E5 (i:=(i%64)) (w:=v_) aR;ca QI rfl (ec J e0) cc fun _ _ h_=>e2 h_)<|bH<|kq (fun _ _=>Sc x0 (kl<|i%64) J J J J e1)<|zq<|ye<|ye<|yz ?_
  intro w2 f0 _ fk _ _ cx iJ
  have H3:=H2.ext fk
  have s0:=cx 5 J
  have s1:=cx 11 J
  have s2:=cx 13 J
  have s3:=cx 19 J
  refine jw<|gW (H3.at_ 0 J) J J s1 s2 (by have hb:=b0;unfold jx at hb;simp only[anb] at hb;omega) iq fw ?_
  intro g0 x1 iC cQ gL
  refine jw<|oQ H3 0 J iC J (by have hb:=b0;unfold jx at hb;simp only[anb] at hb;omega) fw J J J s3 (RV.bv.2 J) ?_
  intro w3 (H4:HI M w w3 [own w.heap.size 151 (.slice a0 r.length c0) (r.set ((i/64).toNat) (x0 ||| (kl (i%64)))),iL jP r j2])
  refine kz<|cO<|ai J s0<|ak (v:=sL a0 r c0) J J<|aq<|rt<|r1 J J ?_
  have e0:(r.set ((i/64).toNat) (x0 ||| (kl (i%64))):List bt)=ej r i:=by exact Oc b0 aM
  have l0:r.length=(ej r i).length:=by rw[←e0];simp
  have bu:=iK (fun (vf:Nat)=>(.slice a0 vf c0:Value)) l0
  exact⟨a0,c0,bu,H4.below,(am_ (fun (n_:Nat)=>bm _ _ _ (ej r i) (.slice a0 n_ c0) _) l0).mp ((am_ (fun (x_:List bt)=>bm _ _ _ x_ (.slice a0 r.length c0) _) e0).mp (H4.dp 0 J))⟩
 refine sk<|cO<|ai (v:=sL a0 r c0) J J<|ak (v:=sL a0 r c0) J J<|aq<|rt<|r1 J J ?_
 have e0:(r:List bt)=ej r i:=by exact E' b0
 have bu:=iK (fun (cg:List bt)=>(.slice a0 cg.length c0:Value)) e0
 exact⟨a0,c0,bu,H2.below,(am_ (fun (x_:List bt)=>bm _ _ _ x_ (.slice a0 x_.length c0) _) e0).mp (H2.dp 0 J)⟩
theorem RJ (Mk:aJ n) (hn:n≤1000000000000000000):Calls aI 123 #[I n] w (cp fun v w'=>v=I ((words n:Nat):Int)∧Ext w w'):=by
 refine dG 8 Tryz.func123 J J J qt fun f0 ha H=>?_
 have i0:f0 0=I n:=ha 0 bl
 refine az<|ak (v:=I 0) J J<|bz<|ai J i0<|k<|max2 J J J J<|k<|add J J J J aR<|k<|sub J J J J aR<|k<|quo J J J J aj<|ak (v:=I ((((max n 0)+64)-1)/64)) J J<|aq<|rt<|r1 J J ?_
 exact⟨am_ (Value.int .i64) (by unfold words;omega),H.below⟩
theorem DW (hM:eO M w) (Mk:aJ n) (hn:n≤1000000):Calls aI 84 #[I n] w (cp fun v w'=>∃(a0:OA) (c0:Nat),v=.slice a0 (eb n).length c0∧Ext w w'∧bm M 151 w (eb n) (.slice a0 (eb n).length c0) w'):=by
 refine dG 6 Tryz.func84 J J J hM fun f0 ha H=>?_
 have i0:f0 0=I n:=ha 0 bl
 refine az<|ak (v:=.slice none 0 0) J J<|bz<|ai J i0<|k ?_
 have bS:=RJ (n:=n) (w:=w) Mk aj
 refine ca afO J (ec J e0) bS ?_
 rintro _ w0 ⟨rfl,bY⟩
 have H0:=H.ext bY
 refine k<|mk (m:=(words n:Nat)) (zx:=(0#64:bt)) H0 J J J J iq fw (fun _ _=>rfl) (by unfold words;omega) (by unfold words;omega) ?_
 intro g0 w1 cT (H1:HI M w w1 [own w.heap.size 151 (.slice (some ⟨g0,0,none⟩) (words n:Nat) (words n:Nat)) (List.replicate (words n:Nat) (0#64:bt))])
 refine ak (v:=.slice (some ⟨g0,0,none⟩) (words n:Nat) (words n:Nat)) J J<|aq<|rt<|r1 J J ?_
 have e0:((List.replicate (words n:Nat) (0#64:bt)):List bt)=eb n:=by unfold eb;rfl
 have l0:(words n:Nat)=(eb n).length:=by rw[←e0];simp
 have bu:=iK (fun (vf:Nat)=>(.slice (some ⟨g0,0,none⟩) vf (words n:Nat):Value)) l0
 exact⟨(some ⟨g0,0,none⟩),(words n:Nat),bu,H1.below,(am_ (fun (n_:Nat)=>bm _ _ _ (eb n) (.slice (some ⟨g0,0,none⟩) n_ (words n:Nat)) _) l0).mp ((am_ (fun (x_:List bt)=>bm _ _ _ x_ (.slice (some ⟨g0,0,none⟩) (words n:Nat) (words n:Nat)) _) e0).mp (H1.dp 0 J))⟩
theorem abf (hM:eO M w) (S_:cD M w wE wC a) (De:cD M w wD wB b) (aim:a.length≤1000000000) (amk:b.length≤1000000000):Calls aI 135 #[sL wE a wC,sL wD b wB] w (cp fun v w'=>∃(a0:OA) (c0:Nat),v=.slice a0 (jM a b).length c0∧Ext w w'∧bm M 151 w (jM a b) (.slice a0 (jM a b).length c0) w'):=by
 refine dG 33 Tryz.func135 J J J hM fun f0 ha H=>?_
 have H0:=eG H S_
 have H1:=eG H0 De
 have ahW:=bj S_
 have ahV:=bj De
 have i0:f0 0=sL wE a wC:=ha 0 bl
 have i1:f0 1=sL wD b wB:=ha 1 bl
 refine az<|ak (v:=.slice none 0 0) J J<|aq<|sq<|az<|ai J i0<|k<|dD J J iq<|ai J i1<|k<|dD J J iq<|k<|lss J J J J<|z<|nx<|cd (b:=decide ((a.length:Int)<(b.length:Int))) J J (fun b0=>?_)<|fun b0=>?_
 ·
  have p0:=dT b0
  refine rg<|ai J i1<|ai J i0<|ak (v:=sL wD b wB) J J<|ak (v:=sL wE a wC) J J<|bz<|ai (v:=sL wD b wB) J J<|k ?_
  have bS:=Dy (r:=b) H1.mb (H1.rv 0 J) aj
  refine ca QJ J (ec J e0) bS ?_
  rintro _ w0 ⟨a0,c0,rfl,bY,cw⟩
  have H2:=H1.eT cw
  refine ak (v:=sL a0 b c0) J J<|aq<|sq<|az<|ai (v:=sL wE a wC) J J<|k<|dD J J iq<|ai (v:=I 0) J J<|aq<|bk<|lp (fun m f w'=>∃(j:Nat) (xs:List bt),m=a.length-j∧f 5=sL a0 b c0∧f 17=sL wE a wC∧f 18=I (a.length:Int)∧f 19=I (j:Int)∧HI M w w' [own w.heap.size 151 (.slice a0 b.length c0) xs,iL wD b wB,iL wE a wC]∧(j≤a.length)∧(xs.length=b.length)∧(xs=qk b.length b a b j)) _ ⟨0,b,J,J,J,J,(bG J),H2,aj,(by rfl),(by exact CM _ _ _)⟩ ?_
  rintro _ f0 w1 ⟨j,xs,rfl,s0,s1,s2,s3,H3,hk,hl,hs⟩
  refine az<|k<|lss J J s3 s2<|aq<|sq<|cd (b:=decide ((j:Int)<(a.length:Int))) J J (fun b1=>?_)<|fun b1=>?_
  ·
   have p1:=dT b1
   refine sk<|nx<|sq<|bk<|az<|ai J s3<|k<|ia (H3.rv 2 J) J J s1 s3 aj iq fw ?_
   intro iE x0 aM cz
   refine k<|yL cz.w fw J J<|ak (v:=I (j:Int)) J J<|ak (v:=ag x0) J J<|aq<|rg<|ai J s0<|ai (v:=I (j:Int)) J J<|k<|gW (H3.at_ 0 J) J J J J aj iq fw ?_
   intro g0 x1 iC cQ gL
   refine k<|yL gL fw J J<|ai (v:=ag x0) J J<|k<|Sc x1 x0 J J J J<|k<|gW (H3.at_ 0 J) J J J J aj iq fw ?_
   intro g1 x2 kn jf kV
   refine k<|oQ H3 0 J kn J aj fw J J J J (RV.bv.2 J) ?_
   intro w2 (H4:HI M w w2 [own w.heap.size 151 (.slice a0 b.length c0) (xs.set ((j:Int).toNat) (x1 ||| x0)),iL wD b wB,iL wE a wC])
   refine z<|aG<|nx<|rg<|k<|add J J s3 J aR<|ai (v:=I ((j:Int)+1)) J J<|z<|bF _ ?_ ⟨(j+1),(xs.set ((j:Int).toNat) (x1 ||| x0)),J,s0,s1,s2,(bG J),H4,aj,(by simpa using hl),(by have e1:=Bf (hs▸cQ);have e2:=wZ aM;rw[hs];exact Fp (by rw[e1];unfold tC;rw[e2]))⟩
   omega
  have p1:=dF b1
  refine ex<|aV<|bc<|bg<|cO<|ai J s0<|ak (v:=sL a0 b c0) J J<|aq<|rt<|r1 J J ?_
  have e0:(xs:List bt)=jM a b:=by rw[hs];first|exact xD aj (fun i h1 h2=>yC aj)|(rw[Ls];exact xD aj (fun i h1 h2=>yC aj))
  have l0:b.length=(jM a b).length:=by rw[←e0];omega
  have bu:=iK (fun (vf:Nat)=>(.slice a0 vf c0:Value)) l0
  exact⟨a0,c0,bu,H3.below,(am_ (fun (n_:Nat)=>bm _ _ _ (jM a b) (.slice a0 n_ c0) _) l0).mp ((am_ (fun (x_:List bt)=>bm _ _ _ x_ (.slice a0 b.length c0) _) e0).mp (H3.dp 0 J))⟩
 have p0:=dF b0
 refine sk<|cO<|ai J i0<|k ?_
 have bS:=Dy (r:=a) H1.mb (H1.rv 1 J) aj
 refine ca QJ J (ec J e0) bS ?_
 rintro _ w0 ⟨a0,c0,rfl,bY,cw⟩
 have H2:=H1.eT cw
 refine ak (v:=sL a0 a c0) J J<|aq<|sq<|az<|ai J i1<|k<|dD J J iq<|ai (v:=I 0) J J<|aq<|bk<|lp (fun m f w'=>∃(j:Nat) (xs:List bt),m=b.length-j∧f 5=sL a0 a c0∧f 17=sL wD b wB∧f 18=I (b.length:Int)∧f 19=I (j:Int)∧HI M w w' [own w.heap.size 151 (.slice a0 a.length c0) xs,iL wD b wB,iL wE a wC]∧(j≤b.length)∧(xs.length=a.length)∧(xs=qk a.length a b a j)) _ ⟨0,a,J,J,J,J,(bG J),H2,aj,(by rfl),(by exact CM _ _ _)⟩ ?_
 rintro _ f0 w1 ⟨j,xs,rfl,s0,s1,s2,s3,H3,hk,hl,hs⟩
 refine az<|k<|lss J J s3 s2<|aq<|sq<|cd (b:=decide ((j:Int)<(b.length:Int))) J J (fun b1=>?_)<|fun b1=>?_
 ·
  have p1:=dT b1
  refine sk<|nx<|sq<|bk<|az<|ai J s3<|k<|ia (H3.rv 1 J) J J s1 s3 aj iq fw ?_
  intro iE x0 aM cz
  refine k<|yL cz.w fw J J<|ak (v:=I (j:Int)) J J<|ak (v:=ag x0) J J<|aq<|rg<|ai J s0<|ai (v:=I (j:Int)) J J<|k<|gW (H3.at_ 0 J) J J J J aj iq fw ?_
  intro g0 x1 iC cQ gL
  refine k<|yL gL fw J J<|ai (v:=ag x0) J J<|k<|Sc x1 x0 J J J J<|k<|gW (H3.at_ 0 J) J J J J aj iq fw ?_
  intro g1 x2 kn jf kV
  refine k<|oQ H3 0 J kn J aj fw J J J J (RV.bv.2 J) ?_
  intro w2 (H4:HI M w w2 [own w.heap.size 151 (.slice a0 a.length c0) (xs.set ((j:Int).toNat) (x1 ||| x0)),iL wD b wB,iL wE a wC])
  refine z<|aG<|nx<|rg<|k<|add J J s3 J aR<|ai (v:=I ((j:Int)+1)) J J<|z<|bF _ ?_ ⟨(j+1),(xs.set ((j:Int).toNat) (x1 ||| x0)),J,s0,s1,s2,(bG J),H4,aj,(by simpa using hl),(by have e1:=Bf (hs▸cQ);have e2:=wZ aM;rw[hs];exact Fp (by rw[e1];unfold tC;rw[e2]))⟩
  omega
 have p1:=dF b1
 refine ex<|aV<|bc<|bg<|cO<|ai J s0<|ak (v:=sL a0 a c0) J J<|aq<|rt<|r1 J J ?_
 have e0:(xs:List bt)=jM a b:=by rw[hs];first|exact xD aj (fun i h1 h2=>yC aj)|(rw[Ls];exact xD aj (fun i h1 h2=>yC aj))
 have l0:a.length=(jM a b).length:=by rw[←e0];omega
 have bu:=iK (fun (vf:Nat)=>(.slice a0 vf c0:Value)) l0
 exact⟨a0,c0,bu,H3.below,(am_ (fun (n_:Nat)=>bm _ _ _ (jM a b) (.slice a0 n_ c0) _) l0).mp ((am_ (fun (x_:List bt)=>bm _ _ _ x_ (.slice a0 a.length c0) _) e0).mp (H3.dp 0 J))⟩
theorem uA {r:List bt} (hM:eO M w) (hT:fU 0 w) (pT:cD M w jP j2 r) (VO:r.length≤1000000000):Calls aI 89 #[sL jP r j2] w (cp fun v w'=>∃(a0:OA) (c0:Nat),v=.slice a0 (cX r).length c0∧Ext w w'∧bm M 3 w (cX r) (.slice a0 (cX r).length c0) w'):=by
 refine dG 29 Tryz.func89 J J J hM fun f0 ha H=>?_
 have H0:=eG H pT
 have Vx:=bj pT
 have i0:f0 0=sL jP r j2:=ha 0 bl
 refine az<|ak (v:=.slice none 0 0) J J<|bz<|ak (v:=.slice none 0 0) J J<|aq<|sq<|az<|ai J i0<|k<|dD J J iq<|ai (v:=I 0) J J<|aq<|bk ?_
 have H1:=H0.ql Int 3
 refine lp (fun m f w'=>∃(j:Nat) (xs:aA) (a0:OA) (c0:Nat),m=r.length-j∧f 3=sL a0 xs c0∧f 6=sL jP r j2∧f 7=I (r.length:Int)∧f 8=I (j:Int)∧HI M w w' [oL w 3 a0 xs c0,iL jP r j2]∧(j≤r.length)∧(xs=rX r j)) _ ⟨0,([]:aA),none,0,J,J,J,J,(bG J),H1,aj,(by rfl)⟩ ?_
 rintro _ f0 w0 ⟨j,xs,a0,c0,rfl,s0,s1,s2,s3,H2,hk,hs⟩
 refine az<|k<|lss J J s3 s2<|aq<|sq<|cd (b:=decide ((j:Int)<(r.length:Int))) J J (fun b0=>?_)<|fun b0=>?_
 ·
  have p0:=dT b0
  refine sk<|nx<|sq<|bk<|az<|ai J s3<|k<|ia (H2.rv 1 J) J J s1 s3 aj iq fw ?_
  intro iE x0 aM cz
  refine k<|yL cz.w fw J J<|ak (v:=I (j:Int)) J J<|ak (v:=ag x0) J J<|aq<|bk<|lp (fun m f w'=>∃(y:bt) (ys:aA) (a1:OA) (c1:Nat),m=(oO y).length∧f 3=sL a1 ys c1∧f 4=I (j:Int)∧f 5=ag y∧f 6=sL jP r j2∧f 7=I (r.length:Int)∧f 8=I (j:Int)∧HI M w w' [oL w 3 a1 ys c1,iL jP r j2]∧(ys++qw j y=rX r j++qw j x0)) _ ⟨x0,xs,a0,c0,J,s0,J,(N2 J<|by rfl),s1,s2,s3,H2,(by rw[hs])⟩ ?_
  rintro _ f1 w1 ⟨y,ys,a1,c1,rfl,s4,s5,s6,s7,s8,s9,H3,hy⟩
  refine sq<|az<|ai J s6<|k<|neU y (0#64) J J J J<|z<|nx<|cd (b:=!decide (y=(0#64))) J J (fun b1=>?_)<|fun b1=>?_
  ·
   have p1:=dF<|gl b1
   refine sk<|nx<|sq<|bk<|rg<|ai J s4<|ai J s5<|k<|mul J J J J (by have h_:=yZ y;unfold aJ;omega)<|ai J s6<|k ?_
   have bS:=Pu (x:=y) (w:=w1)<|hT.ext H3.below
   refine ca afL J (ec J e0) bS ?_
   rintro _ w2 ⟨rfl,bY⟩
   have H4:=H3.ext bY
   refine k<|add J J J J (by have h_:=yZ y;unfold aJ;omega)<|k<|bs (xs:=([((j:Int)*64)+((fH y:Nat):Int)]:aA)) (cells:=#[I (((j:Int)*64)+((fH y:Nat):Int))]) (e:=3) H4 J (cm J ew) (fun _=>aS) ⟨[I (((j:Int)*64)+((fH y:Nat):Int))],[],J,⟨J,(show aJ (((j:Int)*64)+((fH y:Nat):Int)) from(by have h_:=yZ y;unfold aJ;omega))⟩,J⟩ J au ?_
   intro g0 w3 cT H5
   refine k<|lY H5 1 J J J J J J (gY<|H5.at_ 0 J) cG aT J (by have h_:=am_ List.length hy;simp only[fF] at h_;have h1:=vW r j;have h2:=CZ j x0;simp only[iI,gj];omega) J ?_
   intro a2 c2 w4 (H6:HI M w w4 [own w.heap.size 3 (.slice (some ⟨g0,0,none⟩) 1 1) ([((j:Int)*64)+((fH y:Nat):Int)]:aA),oL w 3 a2 (ys++([((j:Int)*64)+((fH y:Nat):Int)]:aA)) c2,iL jP r j2])
   refine ak (v:=sL a2 (ys++([((j:Int)*64)+((fH y:Nat):Int)]:aA)) c2) J J<|z<|aG<|nx<|rg<|ai J s6<|ai J s6<|k<|aaR y (1#64) J J J J<|k<|DE y (y-(1#64)) J J J J<|ak (v:=ag (y &&& (y-(1#64)))) J J<|z ?_
   have H7:HI M w w4 [oL w 3 a2 (ys++([((j:Int)*64)+((fH y:Nat):Int)]:aA)) c2,iL jP r j2]:=H6.bX [1,2] au J
   refine bF _ ?_ ⟨(y &&& (y-(1#64))),(ys++([((j:Int)*64)+((fH y:Nat):Int)]:aA)),a2,c2,J,J,s5,(N2 J<|by rfl),s7,s8,s9,H7,(by rw[anM,←hy,Qi (show y≠0#64 by simpa using p1)];rfl)⟩
   exact QZ<|by simpa using p1
  have p1:=dT<|fA b1
  refine ex<|aV<|bc<|bg<|aG<|nx<|rg<|k<|add J J s9 J (by have h_:=yZ y;unfold aJ;omega)<|ai (v:=I ((j:Int)+1)) J J<|z<|bF _ ?_ ⟨(j+1),ys,a1,c1,J,s4,s7,s8,(bG J),H3,aj,(by rw[zB,wZ aM];have e_:y=0#64:=(by simpa using p1);subst e_;rw[Qh,aoB] at hy;exact hy)⟩
  omega
 have p0:=dF b0
 refine ex<|aV<|bc<|bg<|cO<|ai J s0<|ak (v:=sL a0 xs c0) J J<|aq<|rt<|r1 J J ?_
 have e0:(xs:aA)=cX r:=by rw[hs];unfold cX;congr 1;omega
 have bu:=iK (fun (cg:aA)=>(.slice a0 cg.length c0:Value)) e0
 exact⟨a0,c0,bu,H2.below,(am_ (fun (x_:aA)=>bm _ _ _ x_ (.slice a0 x_.length c0) _) e0).mp (H2.dp 0 J)⟩
theorem Yh:cA aI 141:=cI Tryz.func141
theorem kR:gR aI 122 0 0:=jU Tryz.underlying122
theorem QM:cA aI 105:=cI Tryz.func105
theorem mZ:gR aI 122 1 1:=jU Tryz.underlying122
theorem sZ:gR aI 122 2 2:=jU Tryz.underlying122
theorem afX:cA aI 104:=cI Tryz.func104
theorem Jx (ac3:aJ n1):Calls aI 141 #[I n1] w (cp fun v w'=>v=.bool false∧Ext w w'):=by
 refine dG 6 Tryz.func141 J J J qt fun f0 ha H=>?_
 have i0:f0 0=I n1:=ha 0 bl
 refine az<|ak (v:=.bool false) J J<|bz<|ai J i0<|ai J i0<|k<|neq J J J J<|ak (v:=.bool (!decide (n1=n1))) J J<|aq<|rt<|r1 J J ?_
 exact⟨am_ Value.bool bl,H.below⟩
theorem zL {n2:Int} (ac3:aJ n1) (aiw:aJ n2):Calls aI 105 #[I n1,I n2] w (cp fun v w'=>v=I (fJ n1 n2)∧Ext w w'):=by
 refine dG 20 Tryz.func105 J J J qt fun f0 ha H=>?_
 have i0:f0 0=I n1:=ha 0 bl
 have i1:f0 1=I n2:=ha 1 bl
 refine az<|ak (v:=I 0) J J<|bz<|ai J i0<|k ?_
 have bS:=Jx (n1:=n1) (w:=w) ac3
 refine ca Yh J (ec J e0) bS ?_
 rintro _ w0 ⟨rfl,bY⟩
 have H0:=H.ext bY
 refine ak (v:=.bool false) J J<|bz<|ai J i1<|k ?_
 have cU:=Jx (n1:=n2) (w:=w0) aiw
 refine ca Yh J (ec J e0) cU ?_
 rintro _ w1 ⟨rfl,cT⟩
 have H1:=H0.ext cT
 refine ak (v:=.bool false) J J<|aq<|sq<|az<|ai (v:=.bool false) J J<|aq<|pB J J J<|sk<|nx<|sq<|az<|ai (v:=.bool false) J J<|aq<|pB J J J<|sk<|nx<|sq<|az<|ai J i0<|ai J i1<|k<|lss J J J J<|z<|nx<|cd (b:=decide (n1<n2)) J J (fun b0=>?_)<|fun b0=>?_
 ·
  refine az<|ak (v:=I (-1)) J J<|aq<|rt<|aK<|r1 J J ?_
  exact⟨am_ (Value.int .i64) (by simp only[fJ,b0,BL]),H1.below⟩
 refine sk<|nx<|sq<|az<|ai J i0<|ai J i1<|k<|gtr J J J J<|z<|nx<|cd (b:=decide (n2<n1)) J J (fun b1=>?_)<|fun b1=>?_
 ·
  refine az<|ak (v:=I 1) J J<|aq<|rt<|aK<|r1 J J ?_
  exact⟨am_ (Value.int .i64) (by simp only[fJ,b0,b1,BL]),H1.below⟩
 refine sk<|cO<|ak (v:=I 0) J J<|aq<|rt<|r1 J J ?_
 exact⟨am_ (Value.int .i64) (by simp only[fJ,b0,b1,BL]),H1.below⟩
theorem adQ (hM:eO M w) (xS:cD M w my mT l):Calls aI 104 #[sL my l mT] w (cp fun v w'=>v=I (CN l)∧Ext w w'):=by
 refine dG 18 Tryz.func104 J J J hM fun f0 ha H=>?_
 have H0:=eG H xS
 have abO:=bj xS
 have i0:f0 0=sL my l mT:=ha 0 bl
 refine az<|ak (v:=I 0) J J<|bz<|ak (v:=I 0) J J<|aq<|sq<|az<|ai J i0<|k<|dD J J cG<|ai (v:=I 0) J J<|aq<|bk<|lp (fun m f w'=>∃(j_:Nat),m=l.length-j_∧f 3=I 0∧f 6=sL my l mT∧f 7=I (l.length:Int)∧f 8=I (j_:Int)∧HI M w w' [iL my l mT]∧(j_≤l.length)∧(∀y∈l.take j_,y=0)) _ ⟨0,J,J,J,J,(bG J),H0,aj,bl⟩ ?_
 rintro _ f0 w0 ⟨j_,rfl,s0,s1,s2,s3,H1,pA,hs⟩
 refine az<|k<|lss J J s3 s2<|aq<|sq<|cd (b:=decide ((j_:Int)<(l.length:Int))) J J (fun b0=>?_)<|fun b0=>?_
 ·
  have p0:=dT b0
  refine sk<|nx<|sq<|bk<|az<|k<|ia (H1.rv 0 J) J J s1 s3 aj cG aT ?_
  intro iE x0 aM cz
  refine k<|mw cz.w aT J J ?_
  intro cw
  refine ak (v:=I x0) J J<|bz<|ai (v:=I x0) J J<|ai J s0<|k<|neq J J J J<|z<|nx<|cd (b:=!decide (x0=0)) J J (fun b1=>?_)<|fun b1=>?_
  ·
   have p1:=dF<|gl b1
   refine az<|ai (v:=I x0) J J<|ak (v:=I x0) J J<|aq<|rt<|bR<|aK<|dX<|bR<|aK<|r1 J J ?_
   exact⟨am_ (Value.int .i64) (by exact(Ov hs (by rw[dP] at aM;exact aM)<|by simpa using b1).symm),H1.below⟩
  have p1:=dT<|fA b1
  refine sk<|aG<|nx<|rg<|k<|add J J s3 J aR<|ai (v:=I ((j_:Int)+1)) J J<|z<|bF _ ?_ ⟨(j_+1),J,s0,s1,s2,(bG J),H1,aj,(by exact YO hs aM (by simpa using b1))⟩
  omega
 have p0:=dF b0
 refine ex<|aV<|bc<|bg<|cO<|ai J s0<|ak (v:=I 0) J J<|aq<|rt<|r1 J J ?_
 exact⟨am_ (Value.int .i64) (by exact(Lu<|by rw[anj aj] at hs;exact hs).symm),H1.below⟩
theorem MF (BE:aJ fC) (D2:aJ fE) (BD:aJ gE) (X9:aJ mS) (X8:aJ mR) (X7:aJ nt):Calls aI 103 #[.agg #[I fC,I fE,I gE],.agg #[I mS,I mR,I nt]] w (cp fun v w'=>v=I (yb (fC,fE,gE) (mS,mR,nt))∧Ext w w'):=by
 refine dG 22 Tryz.func103 J J J qt fun f0 ha H=>?_
 have i0:f0 0=.agg #[I fC,I fE,I gE]:=ha 0 bl
 have i1:f0 1=.agg #[I mS,I mR,I nt]:=ha 1 bl
 refine az<|k<|bx H J i0 ?_
 intro aZ w0 bY (H0:HI (fun _=>False) w w0 [box aZ #[I fC,I fE,I gE] 122])
 refine k<|bx H0 J i1 ?_
 intro aY w1 cT (H1:HI (fun _=>False) w w1 [box aY #[I mS,I mR,I nt] 122,box aZ #[I fC,I fE,I gE] 122])
 refine ak (v:=I 0) J J<|aq<|sq<|TN J aS<|xq J<|kq (fun _ _=>fa kR J J e1)<|zq<|xq J<|kq (fun _ x_=>lx (H1.ext x_) 1 J aT J J J e1)<|zq<|xq J<|kq (fun _ _=>fa kR J J e1)<|zq<|xq J<|kq (fun _ x_=>lx (H1.ext x_) 0 J aT J J J e1)<|zq<|xq J<|kq (v:=I (fJ fC mS)) (fun v_ x_=>?_) ?_
 ·
  have cc:=zL (n1:=fC) (n2:=mS) (w:=v_) BE X9
  exact ca QM J (ec J<|ec J e0) cc fun _ _ h_=>e2 h_
 refine zq<|xq J<|kq (fun _ _=>fa mZ J J e1)<|zq<|xq J<|kq (fun _ x_=>lx (H1.ext x_) 1 J aT J J J e1)<|zq<|xq J<|kq (fun _ _=>fa mZ J J e1)<|zq<|xq J<|kq (fun _ x_=>lx (H1.ext x_) 0 J aT J J J e1)<|zq<|xq J<|kq (v:=I (fJ fE mR)) (fun v_ x_=>?_) ?_
 ·
  have cc:=zL (n1:=fE) (n2:=mR) (w:=v_) D2 X8
  exact ca QM J (ec J<|ec J e0) cc fun _ _ h_=>e2 h_
 refine zq<|xq J<|kq (fun _ _=>fa sZ J J e1)<|zq<|xq J<|kq (fun _ x_=>lx (H1.ext x_) 1 J aT J J J e1)<|zq<|xq J<|kq (fun _ _=>fa sZ J J e1)<|zq<|xq J<|kq (fun _ x_=>lx (H1.ext x_) 0 J aT J J J e1)<|zq<|xq J<|kq (v:=I (fJ gE nt)) (fun v_ x_=>?_) ?_
 ·
  have cc:=zL (n1:=gE) (n2:=nt) (w:=v_) BD X7
  exact ca QM J (ec J<|ec J e0) cc fun _ _ h_=>e2 h_
 refine zq<|xu (fun v w'=>∃(a0:OA) (c0:Nat),v=sL a0 ([fJ fC mS,fJ fE mR,fJ gE nt]:aA) c0∧RV H1.fS w' (sL a0 ([fJ fC mS,fJ fE mR,fJ gE nt]:aA) c0) ([fJ fC mS,fJ fE mR,fJ gE nt]:aA)) J (by rintro _ _ _ x_ ⟨a0,c0,e_,cw⟩;exact⟨a0,c0,e_,cw.lift (Up.ext x_)⟩) J (fun v_ x_=>?_) ?_
 ·
  have H4:=H1.ext x_
  refine bs (xs:=([fJ fC mS,fJ fE mR,fJ gE nt]:aA)) (cells:=#[I (fJ fC mS),I (fJ fE mR),I (fJ gE nt)]) (e:=3) H4 J (cm J<|cm J<|cm J ew) (fun _=>aS) ⟨[I (fJ fC mS)],[I (fJ fE mR),I (fJ gE nt)],J,⟨J,(show aJ (fJ fC mS) from(by exact F1 _ _))⟩,⟨[I (fJ fE mR)],[I (fJ gE nt)],J,⟨J,(show aJ (fJ fE mR) from(by exact F1 _ _))⟩,⟨[I (fJ gE nt)],[],J,⟨J,(show aJ (fJ gE nt) from(by exact F1 _ _))⟩,J⟩⟩⟩ J au ?_
  intro g1 w3 fN (H5:HI (fun _=>False) w w3 [own w.heap.size 3 (.slice (some ⟨g1,0,none⟩) 3 3) ([fJ fC mS,fJ fE mR,fJ gE nt]:aA),box aY #[I mS,I mR,I nt] 122,box aZ #[I fC,I fE,I gE] 122])
  have H6:=H5.freeze 0 J
  exact⟨_,J,fN,⟨(some ⟨g1,0,none⟩),3,J,(ly J<|H6.rv 0 J)⟩⟩
 refine xk1 (X:=I (CN ([fJ fC mS,fJ fE mR,fJ gE nt]:aA))) 0 J J (fun v_ _ x_ h_=>let ⟨a2,c2,s0,dZ⟩:=h_;have H9:=(H1.ext x_).put (it:=iL a2 ([fJ fC mS,fJ fE mR,fJ gE nt]:aA) c2) rfl dZ;have cc:=adQ (l:=([fJ fC mS,fJ fE mR,fJ gE nt]:aA)) H9.mb (H9.rv 0 J);ca afX rfl (ec s0 e0) cc fun _ _ h_=>e2 h_)<|xq J<|kq (fun _ _=>jO (v:=I (CN ([fJ fC mS,fJ fE mR,fJ gE nt]:aA))) J J e1)<|zq<|zx ?_
 intro w5 f0 jc cx iJ
 have dO:=H1.ext jc
 have s1:=cx 4 J
 refine nx<|rt<|r1 J J ?_
 rw[s1]
 exact⟨am_ (Value.int .i64) (show (CN ([fJ fC mS,fJ fE mR,fJ gE nt]:aA))=(yb (fC,fE,gE) (mS,mR,nt)) from rfl),dO.below⟩
set_option maxRecDepth 100000 in
set_option maxHeartbeats 1600000 in
def Nr:Go.Shelf.Ren:=⟨fun|6=>102|15=>140|14=>139|28=>166|29=>167|20=>158|21=>159|22=>160|23=>161|24=>162|25=>163|26=>164|27=>165|46=>179|47=>180|48=>181|49=>182|50=>183|57=>191|n=>n,fun|22=>119|24=>122|25=>159|3=>3|39=>152|0=>0|53=>214|55=>151|4=>4|46=>208|45=>207|50=>86|5=>5|9=>9|66=>228|70=>232|76=>241|77=>242|n=>n,fun|n=>n⟩
theorem N8:Go.Proofs.SlLaysF0.n6 aI Nr:={
  mixed:=aS
  f6:=⟨Tryz.f102.name,by decide,Tryz.func102.trans (am_ some aS)⟩
  f14:=⟨Tryz.f139.name,by decide,Tryz.func139.trans (am_ some aS)⟩
  f15:=Tryz.func140.trans (am_ some aS)
  f20:=⟨Tryz.f158.name,by decide,Tryz.func158.trans (am_ some aS)⟩
  f21:=⟨Tryz.f159.name,by decide,Tryz.func159.trans (am_ some aS)⟩
  f22:=⟨Tryz.f160.name,by decide,Tryz.func160.trans (am_ some aS)⟩
  f23:=⟨Tryz.f161.name,by decide,Tryz.func161.trans (am_ some aS)⟩
  f24:=⟨Tryz.f162.name,by decide,Tryz.func162.trans (am_ some aS)⟩
  f25:=⟨Tryz.f163.name,by decide,Tryz.func163.trans (am_ some aS)⟩
  f26:=⟨Tryz.f164.name,by decide,Tryz.func164.trans (am_ some aS)⟩
  f27:=⟨Tryz.f165.name,by decide,Tryz.func165.trans (am_ some aS)⟩
  f28:=Tryz.func166.trans (am_ some aS)
  f29:=Tryz.func167.trans (am_ some aS)
  f46:=⟨Tryz.f179.name,by decide,Tryz.func179.trans (am_ some aS)⟩
  f47:=Tryz.func180.trans (am_ some aS)
  f48:=Tryz.func181.trans (am_ some aS)
  f49:=⟨Tryz.f182.name,by decide,Tryz.func182.trans (am_ some aS)⟩
  f50:=⟨Tryz.f183.name,by decide,Tryz.func183.trans (am_ some aS)⟩
  f57:=⟨Tryz.f191.name,by decide,Tryz.func191.trans (am_ some aS)⟩
  t0:=Tryz.underlying0
  a0:=Tryz.isAgg0
  z0:=Tryz.sizeOf0
  v0:=Tryz.zeroValue0
  t3:=Tryz.underlying3
  a3:=Tryz.isAgg3
  z3:=Tryz.sizeOf3
  v3:=Tryz.zeroValue3
  t4:=Tryz.underlying4
  a4:=Tryz.isAgg4
  z4:=Tryz.sizeOf4
  v4:=Tryz.zeroValue4
  t5:=Tryz.underlying5
  a5:=Tryz.isAgg5
  z5:=Tryz.sizeOf5
  v5:=Tryz.zeroValue5
  t9:=Tryz.underlying9
  a9:=Tryz.isAgg9
  z9:=Tryz.sizeOf9
  v9:=Tryz.zeroValue9
  t22:=Tryz.underlying119
  a22:=Tryz.isAgg119
  z22:=Tryz.sizeOf119
  v22:=Tryz.zeroValue119
  t25:=Tryz.underlying159
  a25:=Tryz.isAgg159
  z25:=Tryz.sizeOf159
  v25:=Tryz.zeroValue159
  t39:=Tryz.underlying152
  a39:=Tryz.isAgg152
  z39:=Tryz.sizeOf152
  v39:=Tryz.zeroValue152
  t45:=Tryz.underlying207
  a45:=Tryz.isAgg207
  z45:=Tryz.sizeOf207
  v45:=Tryz.zeroValue207
  t46:=Tryz.underlying208
  a46:=Tryz.isAgg208
  z46:=Tryz.sizeOf208
  v46:=Tryz.zeroValue208
  t50:=Tryz.underlying86
  a50:=Tryz.isAgg86
  z50:=Tryz.sizeOf86
  v50:=Tryz.zeroValue86
  t53:=Tryz.underlying214
  a53:=Tryz.isAgg214
  z53:=Tryz.sizeOf214
  v53:=Tryz.zeroValue214
  t55:=Tryz.underlying151
  a55:=Tryz.isAgg151
  z55:=Tryz.sizeOf151
  v55:=Tryz.zeroValue151
  t66:=Tryz.underlying228
  a66:=Tryz.isAgg228
  z66:=Tryz.sizeOf228
  v66:=Tryz.zeroValue228
  t70:=Tryz.underlying232
  a70:=Tryz.isAgg232
  z70:=Tryz.sizeOf232
  v70:=Tryz.zeroValue232
  t76:=Tryz.underlying241
  a76:=Tryz.isAgg241
  z76:=Tryz.sizeOf241
  v76:=Tryz.zeroValue241
  t77:=Tryz.underlying242
  a77:=Tryz.isAgg242
  z77:=Tryz.sizeOf242
  v77:=Tryz.zeroValue242}
theorem Rs (jJ off size:Nat) (w:aH):Go.Proofs.CmpLays aI 103 #[] QV 3 (fun x y:Ch=>yb x.1 y.1) jJ off size w:=by
  intro m os dk _ x y
  obtain⟨⟨a1,a2,a3⟩,h1,h2,h3⟩:=x
  obtain⟨⟨b1,b2,b3⟩,k1,k2,k3⟩:=y
  refine(MF h1 h2 h3 k1 k2 k3).mono ?_
  intro e w' h_
  unfold cp at h_
  obtain⟨v,rfl,rfl,hx⟩:=h_
  exact⟨J,hx.grow⟩
theorem Rt {dW:Option Addr} {xs:List ep} (hl:xs.length≤4611686018427387903) (H:HI M w w_ ([own w.heap.size 122 (.slice dW xs.length dS) xs]++r)):
    Calls aI 102 #[.slice dW xs.length dS,.func (.func 103) #[] #[]] w_ (cp fun v w'=>v=.tuple #[]∧HI M w w' ([own w.heap.size 122 (.slice dW xs.length dS) (wF xs)]++r)):=by
  have H0:=H.all _ (dC (i:=0) J)
  obtain⟨cs,⟨hn,ho⟩,hc⟩:=H0
  rcases ho with ⟨ho,h0⟩|⟨g,cap,cur,ho, -⟩
  · have hx:xs=[]:=aod.1 h0
    subst hx
    cases ho
    refine(Go.Proofs.AnyF.slices_SortFunc_none N8 none 0 _ w_).mono ?_
    rintro e w' ⟨rfl,rfl⟩
    unfold cp
    exact⟨_,J,J,by rw[Ru];exact H⟩
  cases ho
  obtain⟨bs,e0,hH,hb,hT⟩:=Rr (i:=0) (val:=fun b:Ch=>b.1) Wf H rfl
  have hn:xs.length=bs.toArray.size:=by rw[←e0];simp
  have eg:∀args w,(callFunc 103 args).run aI w=.ok (.enter 103 args) w:=enters_of Tryz.func103 aS J
  have h:=Go.Proofs.AnyQ.slices_SortFunc N8 3 Tryz.isAgg122 Tryz.sizeOf122 QV (fun _=>rfl) (fun x v hv=>by simp[QV] at hv;rcases hv with rfl|rfl|rfl<;>rfl) (fun x y:Ch=>yb x.1 y.1) aaQ 103 #[] g 0 dS bs.toArray w_ eg (Rs _ _ _ _) hH hb<|by rw[←hn];omega
  rw[hn]
  refine h.mono ?_
  rintro e w' ⟨rfl,d',n,os,hp,hs,rfl⟩
  have e1:=Go.Sort.sorted_unique_holds aaQ ahF bs.toArray d' hp hs
  unfold cp
  refine⟨_,J,J,?_⟩
  have:=hT d'.toList n os<|by simpa using hp.1
  rw[←hn,←e0,Rv,←e1,e0]
  exact this
theorem VW:cA aI 88:=cI Tryz.func88
theorem im:aI.underlying 24=some (.slice 144):=aS
theorem dm:ef aI 144 1 false 24 (.slice none 0 0):=⟨aS,aS⟩
theorem ku:gR aI 26 0 0:=jU Tryz.underlying26
theorem afF:cA aI 138:=cI Tryz.func138
theorem afG:cA aI 137:=cI Tryz.func137
theorem bp:ef aI 26 2 true 32 (.agg #[.int .i64 0,.slice none 0 0]):=⟨aS,aS⟩
theorem QB:cA aI 84:=cI Tryz.func84
theorem Yp:cA aI 101:=cI Tryz.func101
theorem iD:gR aI 26 1 1:=jU Tryz.underlying26
theorem lb:ef aI 24 1 false 24 (.slice none 0 0):=⟨aS,aS⟩
theorem afq:cA aI 178:=cI Tryz.func178
theorem FK:cA aI 86:=cI Tryz.func86
theorem Mp:cA aI 85:=cI Tryz.func85
theorem vX {r:aA} (hM:eO M w) (pT:cD M w jP j2 r) (AF:FP aI qD qH M w r p):Calls aI 88 #[sL jP r j2,.func (.func qD) #[] qH.toArray] w (cp fun v w'=>v=I (eM p r)∧Ext w w'):=by
 refine dG 19 Tryz.func88 J J J hM fun f0 ha H=>?_
 have H0:=eG H pT
 have Vx:=bj pT
 have i0:f0 0=sL jP r j2:=ha 0 bl
 have i1:f0 1=.func (.func qD) #[] qH.toArray:=ha 1 bl
 refine az<|ak (v:=I 0) J J<|aq<|sq<|az<|ai J i0<|k<|dD J J cG<|ai (v:=I 0) J J<|aq<|bk<|lp (fun m f w'=>∃(j:Nat),m=r.length-j∧f 0=sL jP r j2∧f 1=.func (.func qD) #[] qH.toArray∧f 7=I (r.length:Int)∧f 8=I (j:Int)∧HI M w w' [iL jP r j2]∧(j≤r.length)∧((r.take j).any p=false)) _ ⟨0,J,i0,i1,J,(bG J),H0,aj,bl⟩ ?_
 rintro _ f0 w0 ⟨j,rfl,s0,s1,s2,s3,H1,hk,hs⟩
 refine az<|k<|lss J J s3 s2<|aq<|sq<|cd (b:=decide ((j:Int)<(r.length:Int))) J J (fun b0=>?_)<|fun b0=>?_
 ·
  have p0:=dT b0
  refine sk<|nx<|sq<|bk<|az<|ai J s3<|ak (v:=I (j:Int)) J J<|bz<|ai J s1<|ai J s0<|ai (v:=I (j:Int)) J J<|k<|ia (H1.rv 0 J) J J J J aj cG aT ?_
  intro iE x0 aM cz
  refine k<|mw cz.w aT J J ?_
  intro cw
  refine k<|cf AF.1 J J J (ec J e0) (AF.2 _ _ _ (by exact dC ‹_›) H1.below<|(RV.int.2 ⟨J,aR⟩).lift H1.out) ?_
  rintro _ w1 ⟨rfl,bY⟩
  have H2:=H1.ext bY
  refine z<|nx<|cd (b:=p x0) J J (fun b1=>?_)<|fun b1=>?_
  ·
   refine az<|ai (v:=I (j:Int)) J J<|ak (v:=I (j:Int)) J J<|aq<|rt<|bR<|aK<|dX<|bR<|aK<|r1 J J ?_
   exact⟨am_ (Value.int .i64) (by exact uF aM hs b1),H2.below⟩
  refine sk<|aG<|nx<|rg<|k<|add J J s3 J aR<|ai (v:=I ((j:Int)+1)) J J<|z<|bF _ ?_ ⟨(j+1),J,s0,s1,s2,(bG J),H2,aj,(by exact pN aM hs b1)⟩
  omega
 have p0:=dF b0
 refine ex<|aV<|bc<|bg<|cO<|ak (v:=I (-1)) J J<|aq<|rt<|r1 J J ?_
 exact⟨am_ (Value.int .i64) (by exact vj hs aj),H1.below⟩
theorem FZ {r:aA} (hM:eO M w) (pT:cD M w jP j2 r) (AF:FP aI qD qH M w r p):Calls aI 137 #[sL jP r j2,.func (.func qD) #[] qH.toArray] w (cp fun v w'=>v=.bool (r.any p)∧Ext w w'):=by
 refine dG 9 Tryz.func137 J J J hM fun f0 ha H=>?_
 have H0:=eG H pT
 have i0:f0 0=sL jP r j2:=ha 0 bl
 have i1:f0 1=.func (.func qD) #[] qH.toArray:=ha 1 bl
 refine az<|ak (v:=.bool false) J J<|bz<|ai J i0<|ai J i1<|k ?_
 have bS:=vX (r:=r) (p:=p) H0.mb (H0.rv 0 J)<|AF.sub H0.below Uo
 refine ca VW J (ec J<|ec J e0) bS ?_
 rintro _ w0 ⟨rfl,bY⟩
 have H1:=H0.ext bY
 refine k<|geq J J J J<|ak (v:=.bool (decide (0≤(eM p r)))) J J<|aq<|rt<|r1 J J ?_
 exact⟨am_ Value.bool (by exact uG),H1.below⟩
theorem QY {r:List (List bt)} (hM:eO M w) (pT:cD M w jP j2 r) (VO:r.length≤1000000000):Calls aI 178 #[sL jP r j2] w (cp fun v w'=>∃(a0:OA) (c0:Nat),v=sL a0 r c0∧Ext w w'∧bm M 144 w r (sL a0 r c0) w'):=by
 refine dG 8 Tryz.func178 J J J hM fun f0 ha H=>?_
 have H0:=eG H pT
 have i0:f0 0=sL jP r j2:=ha 0 bl
 refine az<|ak (v:=.slice none 0 0) J J<|aq<|sq<|az<|ai J i0<|k<|TB J J J J im<|z<|nx<|cd (b:=jP.isNone) J J (fun b0=>?_)<|fun b0=>?_
 ·
  refine az<|ak (v:=.slice none 0 0) J J<|aq<|rt<|aK<|r1 J J ?_
  have e0:([]:List (List bt))=r:=by exact(HO pT b0).symm
  have bu:=iK (fun (cg:List (List bt))=>(.slice none cg.length 0:Value)) e0
  exact⟨none,0,bu,H0.below,(am_ (fun (x_:List (List bt))=>bm _ _ _ x_ (.slice none x_.length 0) _) e0).mp (fR H0.below)⟩
 refine sk<|cO<|k<|bs (xs:=([]:List (List bt))) (cells:=#[]) (e:=144) H0 J ew (fun _=>aS) J J au ?_
 intro g0 w0 bY H1
 refine ai J i0<|k<|lY H1 0 J J J J J J (H1.rv 1 J).src im dm J (by simp;omega) J ?_
 intro a0 c0 w1 (H2:HI M w w1 [oL w 144 a0 r c0,iL jP r j2])
 refine ak (v:=sL a0 r c0) J J<|aq<|rt<|r1 J J ?_
 exact⟨a0,c0,J,H2.below,(H2.dp 0 J)⟩
theorem Zy {a_u:OA} {n_u c_u:Nat} (hM:eO M w) (rb:aJ i) (Mk:aJ n) (De:w.heap[yh]? =some (.cells #[I n,.slice a_u n_u c_u] HJ (0,0))∧¬M yh):Calls aI 138 #[I i,.pointer (some ⟨yh,0,none⟩)] w (cp fun v w'=>v=.bool (CL n i)∧Ext w w'):=by
 refine dG 12 Tryz.func138 J J J hM fun f0 ha H=>?_
 have i0:f0 0=I i:=ha 0 bl
 have H0:=H.put (it:=ro yh #[I n,.slice a_u n_u c_u] HJ) J<|by rw[bP];exact De
 have i1:f0 1=pV yh 0:=ha 1 bl
 refine az<|ak (v:=.bool false) J J<|bz<|ai J i0<|k<|lss J J J J<|ai (v:=.bool (decide (i<0))) J J ?_
 rcases bE (decide (i<0)) with b0|b0
 ·
  refine aW J J J b0<|aW J J J b0<|aW J J J b0<|aW J J J b0<|k<|aP J J J J b0 J<|ak (v:=.bool true) J J<|aq<|rt<|r1 J J ?_
  exact⟨am_ Value.bool (by unfold CL;simp[b0]),H0.below⟩
 refine bh J J J b0<|mv J i0<|bh J J J b0<|fa ku J i1<|bh J J J b0<|lr H0 0 J aT J J J<|bh J J J b0<|geq J J J J<|k<|dA J J J J b0 J<|ak (v:=.bool (decide (n≤i))) J J<|aq<|rt<|r1 J J ?_
 exact⟨am_ Value.bool (by unfold CL;simp[b0]),H0.below⟩
theorem Sr {Na:OA} {LI MK:Nat} (hM:eO M w) (ga:aJ mn) (xS:cD M w my mT l):Calls aI 101 #[.agg #[I mn,.slice Na LI MK],sL my l mT] w (cp fun v w'=>v=.bool (kC mn l)∧Ext w w'):=by
 refine dG 9 Tryz.func101 J J J hM fun f0 ha H=>?_
 have H0:=eG H xS
 have i0:f0 0=.agg #[I mn,.slice Na LI MK]:=ha 0 bl
 have i1:f0 1=sL my l mT:=ha 1 bl
 refine az<|k<|bx H0 J i0 ?_
 intro aZ w0 bY (H1:HI M w w0 [box aZ #[I mn,.slice Na LI MK] 26,iL my l mT])
 refine ak (v:=.bool false) J J<|bz<|ai J i1<|k<|mf J<|k ?_
 have bS:=FZ (r:=l) (p:=(fun (x_:Int)=>CL mn x_)) H1.mb (H1.rv 1 J) ⟨afF,fun w_ v_ x_ pe e_ B5=>by have H_:=H1.ext e_;obtain⟨_,⟨rfl,cw⟩,rfl⟩:=B5;exact Zy (n:=mn) (M:=fun _=>False) (fun _ h_=>h_.elim) cw aR ⟨H_.at_ 0 rfl,fun h_=>h_⟩⟩
 refine ca afG J (ec J<|ec J e0) bS ?_
 rintro _ w1 ⟨rfl,cT⟩
 have H2:=H1.ext cT
 refine k<|jY J J<|ak (v:=.bool (!(l.any<|fun (x_:Int)=>CL mn x_))) J J<|aq<|rt<|r1 J J ?_
 exact⟨am_ Value.bool (show (!(l.any<|fun (x_:Int)=>CL mn x_))=(kC mn l) from rfl),H2.below⟩
theorem OG (hM:eO M w) (Mk:aJ n):Calls aI 121 #[I n] w (cp fun v w'=>∃(a0:OA) (c0:Nat),v=.tuple #[.agg #[I (oM n),.slice a0 (iR n).length c0],I (sh n)]∧Ext w w'∧bm M 144 w (iR n) (.slice a0 (iR n).length c0) w'):=by
 refine dG 29 Tryz.func121 J J J hM fun f0 ha H=>?_
 have i0:f0 0=I n:=ha 0 bl
 refine az<|k<|al H bp ?_
 intro aZ w0 bY (H0:HI M w w0 [box aZ #[I 0,.slice none 0 0] 26])
 let J0:=box aZ #[I 0,.slice none 0 0] 26
 refine ak (v:=I 0) J J<|aq<|sq<|az<|ai J i0<|k<|lss J J J J<|ai (v:=.bool (decide (n<0))) J J ?_
 rcases bE (decide (n<0)) with b0|b0
 ·
  have p0:=dT b0
  refine aW J J J b0<|aW J J J b0<|k<|aP J J J J b0 J<|aq<|ot J J J<|az<|k<|bd (v:=.agg #[I 0,.slice none 0 0]) J ew (fun _=>aS)<|k<|bw H0 0 J bp J J J J J J J ?_
  intro w1 (H1:HI M w w1 [J0])
  refine ak (v:=I 1) J J<|aq<|rt<|aK<|iH H1 0 J bp J J J J J au ?_
  have e0:(0:Int)=oM n:=by exact(wV<|An.2 aj).1.symm
  have e1:([]:List (List bt))=iR n:=by exact(wV<|An.2 aj).2.1.symm
  have e2:(1:Int)=sh n:=by exact(wV<|An.2 aj).2.2.symm
  have bu:=rk (fun (cg:Int) (dY:List (List bt)) (gV:Int)=>(.tuple #[.agg #[I cg,.slice none dY.length 0],I gV]:Value)) e0 e1 e2
  exact⟨none,0,bu,H1.below,(am_ (fun (x_:List (List bt))=>bm _ _ _ x_ (.slice none x_.length 0) _) e1).mp (fR H1.below)⟩
 have p0:=dF b0
 refine bh J J J b0<|mv J i0<|bh J J J b0<|gtr J J J J<|k<|dA J J J J b0 J<|z<|nx<|cd (b:=decide (4096<n)) J J (fun b1=>?_)<|fun b1=>?_
 ·
  have p1:=dT b1
  refine az<|k<|bd (v:=.agg #[I 0,.slice none 0 0]) J ew (fun _=>aS)<|k<|bw H0 0 J bp J J J J J J J ?_
  intro w1 (H1:HI M w w1 [J0])
  refine ak (v:=I 1) J J<|aq<|rt<|aK<|iH H1 0 J bp J J J J J au ?_
  have e0:(0:Int)=oM n:=by exact(wV<|An.2 aj).1.symm
  have e1:([]:List (List bt))=iR n:=by exact(wV<|An.2 aj).2.1.symm
  have e2:(1:Int)=sh n:=by exact(wV<|An.2 aj).2.2.symm
  have bu:=rk (fun (cg:Int) (dY:List (List bt)) (gV:Int)=>(.tuple #[.agg #[I cg,.slice none dY.length 0],I gV]:Value)) e0 e1 e2
  exact⟨none,0,bu,H1.below,(am_ (fun (x_:List (List bt))=>bm _ _ _ x_ (.slice none x_.length 0) _) e1).mp (fR H1.below)⟩
 have p1:=dF b1
 refine sk<|cO<|ai J i0<|k ?_
 have n0:((n.toNat:Nat):Int)=n:=anP aj
 refine mk (m:=n.toNat) (zx:=([]:(List bt))) H0 J J (by rw[n0];exact rfl) (by rw[n0];exact rfl) im dm (fun _ _=>⟨_,J,Gn _ _⟩) aj aj ?_
 intro g0 w1 cT (H1:HI M w w1 [own w.heap.size 144 (.slice (some ⟨g0,0,none⟩) n.toNat n.toNat) (List.replicate n.toNat ([]:(List bt))),J0])
 refine ak (v:=.slice (some ⟨g0,0,none⟩) n.toNat n.toNat) J J<|aq<|sq<|az<|ai (v:=.slice (some ⟨g0,0,none⟩) n.toNat n.toNat) J J<|k<|dD J J im<|ai (v:=I 0) J J<|aq<|bk<|lp (fun m f w'=>∃(j:Nat) (xs:List (List bt)),m=n.toNat-j∧f 0=I n∧f 2=pV aZ 0∧f 4=.slice (some ⟨g0,0,none⟩) n.toNat n.toNat∧f 16=I (n.toNat:Int)∧f 17=I (j:Int)∧HI M w w' [own w.heap.size 144 (.slice (some ⟨g0,0,none⟩) n.toNat n.toNat) xs,J0]∧(j≤n.toNat)∧(xs.length=n.toNat)∧(xs=vE n.toNat j (eb n) [])) _ ⟨0,(List.replicate n.toNat ([]:(List bt))),J,i0,J,J,J,(bG J),H1,aj,bl,(by exact NN _ _ _)⟩ ?_
 rintro _ f0 w2 ⟨j,xs,rfl,s0,s1,s2,s3,s4,H2,hk,hl,hs⟩
 refine az<|k<|lss J J s4 s3<|aq<|sq<|cd (b:=decide ((j:Int)<(n.toNat:Int))) J J (fun b2=>?_)<|fun b2=>?_
 ·
  have p2:=dT b2
  refine sk<|nx<|sq<|bk<|az<|ai J s4<|ak (v:=I (j:Int)) J J<|aq<|rg<|ai J s2<|ai (v:=I (j:Int)) J J<|ai J s0<|k ?_
  have bS:=DW (n:=n) H2.mb Mk aj
  refine ca QB J (ec J e0) bS ?_
  rintro _ w3 ⟨a0,c0,rfl,fk,cw⟩
  have H3:=H2.eT cw
  refine k<|gW (H3.at_ 1 J) J J J J aj im dm ?_
  intro g1 x0 iC aM cz
  refine k ?_
  have H4:=H3.freeze 0 J
  refine oQ H4 1 J iC J aj dm J J J J (H4.rv 0 J) ?_
  let J1:=own w.heap.size 144 (.slice (some ⟨g0,0,none⟩) n.toNat n.toNat) (xs.set ((j:Int).toNat) (eb n))
  intro w4 (H5:HI M w w4 [iL a0 (eb n) c0,J1,J0])
  refine z<|aG<|nx<|rg<|k<|add J J s4 J aR<|ai (v:=I ((j:Int)+1)) J J<|z ?_
  have H6:HI M w w4 [J1,J0]:=H5.bX [1,2] au J
  refine bF _ ?_ ⟨(j+1),(xs.set ((j:Int).toNat) (eb n)),J,s0,s1,s2,s3,(bG J),H6,aj,(by simpa using hl),(by rw[hs];exact QT aj)⟩
  omega
 have p2:=dF b2
 refine ex<|aV<|bc<|bg<|cO<|ai J s0<|ai J s2<|k<|bd (v:=.agg #[I n,.slice (some ⟨g0,0,none⟩) n.toNat n.toNat]) J (cm J<|cm J ew) (fun _=>aS)<|k<|bw H2 1 J bp J J s1 J J J J ?_
 intro w3 (H3:HI M w w3 [own w.heap.size 144 (.slice (some ⟨g0,0,none⟩) n.toNat n.toNat) xs,box aZ #[I n,.slice (some ⟨g0,0,none⟩) n.toNat n.toNat] 26])
 refine ak (v:=I 0) J J<|aq<|rt<|iH H3 1 J bp J J J s1 J au ?_
 have e0:(n:Int)=oM n:=by exact(xH<|sP.2 aj).1.symm
 have e1:(xs:List (List bt))=iR n:=by rw[(xH<|sP.2 aj).2.1,hs];exact QU aj
 have l1:n.toNat=(iR n).length:=by rw[←e1];omega
 have e2:(0:Int)=sh n:=by exact(xH<|sP.2 aj).2.2.symm
 have bu:=rk (fun (cg:Int) (ve:Nat) (gV:Int)=>(.tuple #[.agg #[I cg,.slice (some ⟨g0,0,none⟩) ve n.toNat],I gV]:Value)) e0 l1 e2
 exact⟨(some ⟨g0,0,none⟩),n.toNat,bu,H3.below,(am_ (fun (n_:Nat)=>bm _ _ _ (iR n) (.slice (some ⟨g0,0,none⟩) n_ n.toNat) _) l1).mp ((am_ (fun (x_:List (List bt))=>bm _ _ _ x_ (.slice (some ⟨g0,0,none⟩) n.toNat n.toNat) _) e1).mp (H3.dp 0 J))⟩
theorem Zz (hM:eO M w) (ga:aJ mn) (gv:cD M w bD bC mr) (rb:aJ i) (Cd:aJ j) (XK:((mr.length:Nat):Int)=mn) (Qm:∀x∈mr,x.length≤1000000000) (XU:mn≤4096):Calls aI 156 #[.agg #[I mn,sL bD mr bC],I i,I j] w (cp fun v w'=>∃(a0:OA) (c0:Nat),v=.tuple #[.agg #[I (ir mn i j),.slice a0 (ka mn mr i j).length c0],I (lI mn i j)]∧Ext w w'∧bm M 144 w (ka mn mr i j) (.slice a0 (ka mn mr i j).length c0) w'):=by
 refine dG 32 Tryz.func156 J J J hM fun f0 ha H=>?_
 let J0:=iL bD mr bC
 have H0:=H.put (it:=J0) J<|by rw[bP];exact gv
 have i0:f0 0=.agg #[I mn,sL bD mr bC]:=ha 0 bl
 have i1:f0 1=I i:=ha 1 bl
 have i2:f0 2=I j:=ha 2 bl
 refine az<|k<|bx H0 J i0 ?_
 intro aZ w0 bY (H1:HI M w w0 [box aZ #[I mn,sL bD mr bC] 26,J0])
 let J1:=box aZ #[I mn,sL bD mr bC] 26
 refine k<|al H1 bp ?_
 intro aY w1 cT (H2:HI M w w1 [box aY #[I 0,.slice none 0 0] 26,J1,J0])
 refine ak (v:=I 0) J J<|aq<|sq<|az<|k<|cB H2 1 J bp J J au J<|ai J i1<|ai J i2<|k<|bs (xs:=([i,j]:aA)) (cells:=#[I i,I j]) (e:=3) H2 J (cm J<|cm J ew) (fun _=>aS) ⟨[I i],[I j],J,⟨J,rb⟩,⟨[I j],[],J,⟨J,Cd⟩,J⟩⟩ J au ?_
 intro g0 w2 fk H3
 refine k ?_
 have H4:=H3.freeze 0 J
 have bS:=Sr (mn:=mn) (l:=([i,j]:aA)) (Na:=bD) (LI:=mr.length) (MK:=bC) H4.mb ga<|H4.rv 0 J
 refine ca Yp J (ec J<|ec J e0) bS ?_
 rintro _ w3 ⟨rfl,fN⟩
 have H5:=H3.ext fN
 refine k<|jY J J<|z<|nx<|cd (b:=!(kC mn ([i,j]:aA))) J J (fun b0=>?_)<|fun b0=>?_
 ·
  refine sq ?_
  have hq:kC mn [i,j]=false:=by simpa using b0
  refine rg<|k<|bd (v:=.agg #[I 0,.slice none 0 0]) J ew (fun _=>aS)<|k<|bw H5 1 J bp J J J J J J J ?_
  intro w4 (H6:HI M w w4 [own w.heap.size 3 (.slice (some ⟨g0,0,none⟩) 2 2) ([i,j]:aA),box aY #[I 0,.slice none 0 0] 26,J1,J0])
  refine ak (v:=I 1) J J<|aq<|rt<|aK<|iH H6 1 J bp J J J J J au ?_
  have e0:(0:Int)=ir mn i j:=by exact(oR (rs:=mr) hq).1.symm
  have e1:([]:List (List bt))=ka mn mr i j:=by exact(oR (rs:=mr) hq).2.1.symm
  have e2:(1:Int)=lI mn i j:=by exact(oR (rs:=mr) hq).2.2.symm
  have bu:=rk (fun (cg:Int) (dY:List (List bt)) (gV:Int)=>(.tuple #[.agg #[I cg,.slice none dY.length 0],I gV]:Value)) e0 e1 e2
  exact⟨none,0,bu,H6.below,(am_ (fun (x_:List (List bt))=>bm _ _ _ x_ (.slice none x_.length 0) _) e1).mp (fR H6.below)⟩
 refine sk<|nx<|sq ?_
 have hq:kC mn [i,j]=true:=by simpa using b0
 have hr:=jm.1 hq
 refine rg<|aQ iD J J<|bq H5 2 J lb J J J<|k ?_
 have cU:=QY (r:=mr) H5.mb (H5.rv 3 J) aj
 refine ca afq J (ec J e0) cU ?_
 rintro _ w4 ⟨a0,c0,rfl,iP,cw⟩
 have H6:=H5.eT cw
 refine ak (v:=sL a0 mr c0) J J<|bz<|ai (v:=sL a0 mr c0) J J<|ai J i1<|ai (v:=sL a0 mr c0) J J<|ai J i1<|k<|gW (H6.at_ 0 J) J J J J aj im dm ?_
 intro g1 x0 iC aM cz
 refine k<|wm cz dm J J ?_
 intro a1 c1 d_
 have H7:=eG H6 d_
 refine ai J i2<|k ?_
 have fP:=uz (r:=x0) (i:=j) H7.mb (H7.rv 0 J) Cd<|by exact Qm _ (dC aM)
 refine ca FK J (ec J<|ec J e0) fP ?_
 rintro _ w5 ⟨a2,c2,rfl,jc,dZ⟩
 have H8:=H7.eT dZ
 refine k<|gW (H8.at_ 2 J) J J J J aj im dm ?_
 intro g2 x1 kn cQ gL
 refine k ?_
 have H9:=H8.freeze 0 J
 refine oQ H9 2 J kn J aj dm J J J J (H9.rv 0 J) ?_
 let J2:=own w.heap.size 144 (.slice a0 mr.length c0) (mr.set i.toNat (ej x0 j))
 let J3:=own w.heap.size 3 (.slice (some ⟨g0,0,none⟩) 2 2) ([i,j]:aA)
 intro w6 (dO:HI M w w6 [iL a2 (ej x0 j) c2,iL a1 x0 c1,J2,J3,box aY #[I 0,.slice none 0 0] 26,J1,J0])
 refine bz<|aQ ku J J<|bq dO 5 J aT J J J<|ai (v:=sL a0 mr c0) J J<|k<|bd (v:=.agg #[I mn,sL a0 mr c0]) J (cm J<|cm J ew) (fun _=>aS)<|k<|bw dO 4 J bp J J J J J J J ?_
 intro w7 (cV:HI M w w7 [iL a2 (ej x0 j) c2,iL a1 x0 c1,J2,J3,box aY #[I mn,sL a0 mr c0] 26,J1,J0])
 refine ak (v:=I 0) J J<|aq<|rt<|iH cV 4 J bp J J J J J au ?_
 have e0:(mn:Int)=ir mn i j:=by exact(qe (rs:=mr) hq).1.symm
 have e1:(mr.set i.toNat (ej x0 j):List (List bt))=ka mn mr i j:=by rw[(qe (rs:=mr) hq).2.1];exact HL aM
 have l1:mr.length=(ka mn mr i j).length:=by rw[←e1];simp
 have e2:(0:Int)=lI mn i j:=by exact(qe (rs:=mr) hq).2.2.symm
 have bu:=rk (fun (cg:Int) (ve:Nat) (gV:Int)=>(.tuple #[.agg #[I cg,.slice a0 ve c0],I gV]:Value)) e0 l1 e2
 exact⟨a0,c0,bu,cV.below,(am_ (fun (n_:Nat)=>bm _ _ _ (ka mn mr i j) (.slice a0 n_ c0) _) l1).mp ((am_ (fun (x_:List (List bt))=>bm _ _ _ x_ (.slice a0 mr.length c0) _) e1).mp (cV.dp 2 J))⟩
theorem uE (hM:eO M w) (ga:aJ mn) (gv:cD M w bD bC mr) (rb:aJ i) (Cd:aJ j) (XK:((mr.length:Nat):Int)=mn) (Qm:∀x∈mr,x.length≤1000000000) (XU:mn≤4096):Calls aI 64 #[.agg #[I mn,sL bD mr bC],I i,I j] w (cp fun v w'=>v=.bool (eK mn mr i j)∧Ext w w'):=by
 refine dG 21 Tryz.func64 J J J hM fun f0 ha H=>?_
 have H0:=eG H gv
 have i0:f0 0=.agg #[I mn,sL bD mr bC]:=ha 0 bl
 have i1:f0 1=I i:=ha 1 bl
 have i2:f0 2=I j:=ha 2 bl
 refine az<|k<|bx H0 J i0 ?_
 intro aZ w0 bY (H1:HI M w w0 [box aZ #[I mn,sL bD mr bC] 26,iL bD mr bC])
 refine ak (v:=.bool false) J J<|bz<|k<|cB H1 0 J bp J J au J<|ai J i1<|ai J i2<|k<|bs (xs:=([i,j]:aA)) (cells:=#[I i,I j]) (e:=3) H1 J (cm J<|cm J ew) (fun _=>aS) ⟨[I i],[I j],J,⟨J,rb⟩,⟨[I j],[],J,⟨J,Cd⟩,J⟩⟩ J au ?_
 intro g0 w1 cT H2
 refine k ?_
 have H3:=H2.freeze 0 J
 have bS:=Sr (mn:=mn) (l:=([i,j]:aA)) (Na:=bD) (LI:=mr.length) (MK:=bC) H3.mb ga<|H3.rv 0 J
 refine ca Yp J (ec J<|ec J e0) bS ?_
 rintro _ w2 ⟨rfl,fk⟩
 have H4:=H2.ext fk
 refine ai (v:=.bool (kC mn ([i,j]:aA))) J J ?_
 rcases bE (kC mn ([i,j]:aA)) with b0|b0
 ·
  refine bh J J J b0<|fa iD J J<|bh J J J b0<|lx H4 1 J lb J J J<|bh J J J b0<|mv J i1<|bh J J J b0<|ia (H4.rv 2 J) J J J J (by have hr:=jm.1 b0;omega) im dm ?_
  intro iE x0 aM cz
  refine bh J J J b0<|wm cz.w dm J J ?_
  intro a0 c0 cw
  have H5:=eG H4 cw
  refine bh J J J b0<|mv J i2<|bh J J J b0 ?_
  have cU:=Ac (r:=x0) (i:=j) H5.mb (H5.rv 0 J) Cd
  refine ca Mp J (ec J<|ec J e0) cU ?_
  rintro _ w3 ⟨rfl,fN⟩
  have H6:=H5.ext fN
  refine k<|aP J J J J b0 J<|ak (v:=.bool (fq x0 j)) J J<|aq<|rt<|r1 J J ?_
  exact⟨am_ Value.bool (by unfold eK;first|(rw[sA aM,b0];rfl)|(rw[b0];rfl)),H6.below⟩
 refine aW J J J b0<|aW J J J b0<|aW J J J b0<|aW J J J b0<|aW J J J b0<|aW J J J b0<|aW J J J b0<|k<|dA J J J J b0 J<|ak (v:=.bool false) J J<|aq<|rt<|r1 J J ?_
 exact⟨am_ Value.bool (by unfold eK;first|(rw[sA aM,b0];rfl)|(rw[b0];rfl)),H4.below⟩
theorem Ib:cA aI 89:=cI Tryz.func89
theorem Pw:aI.underlying 185=some (.slice 133):=aS
theorem Gg:ef aI 133 2 true 16 (.agg #[.int .i64 0,.int .i64 0]):=⟨aS,aS⟩
theorem afI:cA aI 135:=cI Tryz.func135
theorem Ss (hM:eO M w) (hT:fU 0 w) (ga:aJ mn) (gv:cD M w bD bC mr) (XK:((mr.length:Nat):Int)=mn) (Qm:∀x∈mr,x.length≤1000000000) (XU:mn≤4096) (Kj:∀x∈mr,x.length≤64):Calls aI 128 #[.agg #[I mn,sL bD mr bC]] w (cp fun v w'=>∃(a0:OA) (c0:Nat),v=.slice a0 (iU mn mr).length c0∧Ext w w'∧RV M w' (.slice a0 (iU mn mr).length c0) (iU mn mr)):=by
 refine dG 32 Tryz.func128 J J J hM fun f0 ha H=>?_
 let J0:=iL bD mr bC
 have H0:=H.put (it:=J0) J<|by rw[bP];exact gv
 have nz:=bj gv
 have i0:f0 0=.agg #[I mn,sL bD mr bC]:=ha 0 bl
 refine az<|k<|bx H0 J i0 ?_
 intro aZ w0 bY (H1:HI M w w0 [box aZ #[I mn,sL bD mr bC] 26,J0])
 let J1:=box aZ #[I mn,sL bD mr bC] 26
 refine ak (v:=.slice none 0 0) J J<|bz<|ak (v:=.slice none 0 0) J J<|aq<|sq<|az<|aQ iD J J<|bq H1 0 J lb J J J<|k<|dD J J im<|ai (v:=I 0) J J<|aq<|bk ?_
 have H2:=H1.ql (Int×Int) 133
 refine lp (fun m f w'=>∃(i:Nat) (xs:List (Int×Int)) (a0:OA) (c0:Nat),m=mr.length-i∧f 3=sL a0 xs c0∧f 9=sL bD mr bC∧f 10=I (mr.length:Int)∧f 11=I (i:Int)∧HI M w w' [oL w 133 a0 xs c0,J1,J0]∧(i≤mr.length)∧(xs=lz mr i)) _ ⟨0,([]:List (Int×Int)),none,0,J,J,J,J,(bG J),H2,aj,(by rfl)⟩ ?_
 rintro _ f0 w1 ⟨i,xs,a0,c0,rfl,s0,s1,s2,s3,H3,XX,hs⟩
 refine az<|k<|lss J J s3 s2<|aq<|sq<|cd (b:=decide ((i:Int)<(mr.length:Int))) J J (fun b0=>?_)<|fun b0=>?_
 ·
  have p0:=dT b0
  refine sk<|nx<|sq<|bk<|az<|ai J s3<|k<|ia (H3.rv 2 J) J J s1 s3 aj im dm ?_
  intro iE x0 aM cz
  refine k<|wm cz.w dm J J ?_
  intro a1 c1 cw
  have Aq:=bj cw
  have H4:=eG H3 cw
  refine ak (v:=I (i:Int)) J J<|ak (v:=sL a1 x0 c1) J J<|bz<|ai (v:=sL a1 x0 c1) J J<|k ?_
  have bS:=uA (r:=x0) H4.mb (hT.ext H4.below) (H4.rv 0 J)<|by have h_:=Kj _ (dC aM);omega
  refine ca Ib J (ec J e0) bS ?_
  rintro _ w2 ⟨a2,c2,rfl,cT,d_⟩
  have H5:=H4.eT d_
  refine k<|dD J J cG<|ai (v:=I 0) J J<|aq<|bk<|lp (fun m f w'=>∃(q:Nat) (Ec:List (Int×Int)) (a3:OA) (c3:Nat),m=(cX x0).length-q∧f 3=sL a3 Ec c3∧f 4=I (i:Int)∧f 9=sL bD mr bC∧f 10=I (mr.length:Int)∧f 11=I (i:Int)∧f 17=sL a2 (cX x0) c2∧f 18=I ((cX x0).length:Int)∧f 19=I (q:Int)∧HI M w w' [oL w 3 a2 (cX x0) c2,iL a1 x0 c1,oL w 133 a3 Ec c3,J1,J0]∧(q≤(cX x0).length)∧(Ec=lz mr i++((cX x0).take q).map fun j=>(((i:Nat):Int),j))) _ ⟨0,xs,a0,c0,J,s0,J,s1,s2,s3,J,J,(bG J),H5,aj,(by rw[hs];simp)⟩ ?_
  rintro _ f1 w3 ⟨q,Ec,a3,c3,rfl,s4,s5,s6,s7,s8,s9,eu,fb,H6,sU,gK⟩
  refine az<|k<|lss J J fb eu<|aq<|sq<|cd (b:=decide ((q:Int)<((cX x0).length:Int))) J J (fun b1=>?_)<|fun b1=>?_
  ·
   have p1:=dT b1
   refine sk<|nx<|sq<|bk<|az<|k<|gW (H6.at_ 0 J) J J s9 fb aj cG aT ?_
   intro g0 x1 iC cQ gL
   refine k<|mw gL aT J J ?_
   intro dZ
   refine ak (v:=I x1) J J<|aq<|rg<|ai J s4<|ai J s5<|ai (v:=I x1) J J<|k<|bd (v:=.agg #[I (i:Int),I x1]) J (cm J<|cm J ew) (fun _=>aS)<|k<|bs (xs:=([((i:Int),x1)]:List (Int×Int))) (cells:=#[I (i:Int),I x1]) (e:=133) H6 J (cm J ew) (fun _=>aS) ⟨[I (i:Int),I x1],[],J,⟨_,_,J,⟨J,(show aJ ((i:Int)) from aR)⟩,⟨J,(show aJ (x1) from aR)⟩⟩,J⟩ J au ?_
   intro g1 w4 fk H7
   refine k<|lY H7 3 J J J J J J (gY<|H7.at_ 0 J) Pw Gg J (by have h1_:=Es Kj i;have lG:=nj x0;have h3_:=Kj _ (dC aM);rw[gK,fF,anO,iB];simp only[iI,gj];omega) J ?_
   intro a4 c4 w5 (H8:HI M w w5 [own w.heap.size 133 (.slice (some ⟨g1,0,none⟩) 1 1) ([((i:Int),x1)]:List (Int×Int)),oL w 3 a2 (cX x0) c2,iL a1 x0 c1,oL w 133 a4 (Ec++([((i:Int),x1)]:List (Int×Int))) c4,J1,J0])
   refine ak (v:=sL a4 (Ec++([((i:Int),x1)]:List (Int×Int))) c4) J J<|z<|aG<|nx<|rg<|k<|add J J fb J (by have lG:=nj x0;have h3_:=Kj _ (dC aM);unfold aJ;omega)<|ai (v:=I ((q:Int)+1)) J J<|z ?_
   have H9:HI M w w5 [oL w 3 a2 (cX x0) c2,iL a1 x0 c1,oL w 133 a4 (Ec++([((i:Int),x1)]:List (Int×Int))) c4,J1,J0]:=H8.bX [1,2,3,4,5] au J
   refine bF _ ?_ ⟨(q+1),(Ec++([((i:Int),x1)]:List (Int×Int))),a4,c4,J,J,s5,s6,s7,s8,s9,eu,(bG J),H9,aj,(by rw[gK];exact Sa cQ)⟩
   omega
  have p1:=dF b1
  refine ex<|aV<|bc<|bg<|aG<|nx<|rg<|k<|add J J s8 J aR<|ai (v:=I ((i:Int)+1)) J J<|z ?_
  have H7:HI M w w3 [oL w 133 a3 Ec c3,J1,J0]:=H6.bX [2,3,4] au J
  refine bF _ ?_ ⟨(i+1),Ec,a3,c3,J,s4,s6,s7,(bG J),H7,aj,(by rw[gK];exact Vd aM aj)⟩
  omega
 have p0:=dF b0
 refine ex<|aV<|bc<|bg<|cO<|ai J s0<|ak (v:=sL a0 xs c0) J J<|aq<|rt<|r1 J J ?_
 have e0:(xs:List (Int×Int))=iU mn mr:=by rw[hs];exact R' aj aj
 have bu:=iK (fun (cg:List (Int×Int))=>(.slice a0 cg.length c0:Value)) e0
 exact⟨a0,c0,bu,H3.below,(am_ (fun (x_:List (Int×Int))=>RV _ _ (.slice a0 x_.length c0) x_) e0).mp (H3.mB 0 J)⟩
theorem abM {an:Int} {Iy:OA} {Is:Nat} {ar:List (List bt)} {bn:Int} {Ix:OA} {Ir:Nat} {br:List (List bt)} (hM:eO M w) (amA:aJ an) (ac6:cD M w Iy Is ar) (amz:aJ bn) (ac5:cD M w Ix Ir br) (alG:((ar.length:Nat):Int)=an) (afe:∀x∈ar,x.length≤1000000000) (alL:an≤4096) (alF:((br.length:Nat):Int)=bn) (afd:∀x∈br,x.length≤1000000000) (alK:bn≤4096):Calls aI 96 #[.agg #[I an,sL Iy ar Is],.agg #[I bn,sL Ix br Ir]] w (cp fun v w'=>∃(a0:OA) (c0:Nat),v=.tuple #[.agg #[I (tB an bn),.slice a0 (mi an ar bn br).length c0],I (xE an bn)]∧Ext w w'∧bm M 144 w (mi an ar bn br) (.slice a0 (mi an ar bn br).length c0) w'):=by
 refine dG 41 Tryz.func96 J J J hM fun f0 ha H=>?_
 let J0:=iL Iy ar Is
 have H0:=H.put (it:=J0) J<|by rw[bP];exact ac6
 let J1:=iL Ix br Ir
 have H1:=H0.put (it:=J1) J<|by rw[aD rfl,bP];exact ac5
 have alE:=bj ac6
 have alD:=bj ac5
 have i0:f0 0=.agg #[I an,sL Iy ar Is]:=ha 0 bl
 have i1:f0 1=.agg #[I bn,sL Ix br Ir]:=ha 1 bl
 refine az<|k<|bx H1 J i0 ?_
 intro aZ w0 bY (H2:HI M w w0 [box aZ #[I an,sL Iy ar Is] 26,J1,J0])
 let J2:=box aZ #[I an,sL Iy ar Is] 26
 refine k<|bx H2 J i1 ?_
 let ba:=[J2,J1,J0]
 intro aY w1 cT (H3:HI M w w1 (box aY #[I bn,sL Ix br Ir] 26::ba))
 let J3:=box aY #[I bn,sL Ix br Ir] 26
 refine k<|al H3 bp ?_
 intro bJ w2 fk (H4:HI M w w2 (box bJ #[I 0,.slice none 0 0] 26::J3::ba))
 let J4:=box bJ #[I 0,.slice none 0 0] 26
 refine ak (v:=I 0) J J<|aq<|sq<|az<|aQ ku J J<|bq H4 2 J aT J J J<|aQ ku J J<|bq H4 1 J aT J J J<|k<|neq J J J J<|z<|nx<|cd (b:=!decide (an=bn)) J J (fun b0=>?_)<|fun b0=>?_
 ·
  have p0:=dF<|gl b0
  refine az<|k<|bd (v:=.agg #[I 0,.slice none 0 0]) J ew (fun _=>aS)<|k<|bw H4 0 J bp J J J J J J J ?_
  intro w3 (H5:HI M w w3 (J4::J3::ba))
  refine ak (v:=I 1) J J<|aq<|rt<|aK<|iH H5 0 J bp J J J J J au ?_
  have e0:(0:Int)=tB an bn:=by exact(Lt (ar:=ar) (br:=br) p0).1.symm
  have e1:([]:List (List bt))=mi an ar bn br:=by exact(Lt p0).2.1.symm
  have e2:(1:Int)=xE an bn:=by exact(Lt (ar:=ar) (br:=br) p0).2.2.symm
  have bu:=rk (fun (cg:Int) (dY:List (List bt)) (gV:Int)=>(.tuple #[.agg #[I cg,.slice none dY.length 0],I gV]:Value)) e0 e1 e2
  exact⟨none,0,bu,H5.below,(am_ (fun (x_:List (List bt))=>bm _ _ _ x_ (.slice none x_.length 0) _) e1).mp (fR H5.below)⟩
 have p0:=dT<|fA b0
 refine sk<|cO<|aQ ku J J<|bq H4 2 J aT J J J<|k ?_
 have n0:((an.toNat:Nat):Int)=an:=anP aj
 refine mk (m:=an.toNat) (zx:=([]:(List bt))) H4 J J (by rw[n0];exact rfl) (by rw[n0];exact rfl) im dm (fun _ _=>⟨_,J,Gn _ _⟩) aj aj ?_
 intro g0 w3 fN (H5:HI M w w3 (own w.heap.size 144 (.slice (some ⟨g0,0,none⟩) an.toNat an.toNat) (List.replicate an.toNat ([]:(List bt)))::J4::J3::ba))
 refine ak (v:=.slice (some ⟨g0,0,none⟩) an.toNat an.toNat) J J<|aq<|sq<|az<|ai (v:=.slice (some ⟨g0,0,none⟩) an.toNat an.toNat) J J<|k<|dD J J im<|ai (v:=I 0) J J<|aq<|bk<|lp (fun m f w'=>∃(j:Nat) (xs:List (List bt)),m=an.toNat-j∧f 2=pV aZ 0∧f 3=pV aY 0∧f 4=pV bJ 0∧f 6=.slice (some ⟨g0,0,none⟩) an.toNat an.toNat∧f 18=I (an.toNat:Int)∧f 19=I (j:Int)∧HI M w w' (own w.heap.size 144 (.slice (some ⟨g0,0,none⟩) an.toNat an.toNat) xs::J4::J3::ba)∧(j≤an.toNat)∧(xs.length=an.toNat)∧(xs=va ar br an.toNat j)) _ ⟨0,(List.replicate an.toNat ([]:(List bt))),J,J,J,J,J,J,(bG J),H5,aj,bl,(by exact NI _ _ _)⟩ ?_
 rintro _ f0 w4 ⟨j,xs,rfl,s0,s1,s2,s3,s4,s5,H6,hk,hl,hs⟩
 refine az<|k<|lss J J s5 s4<|aq<|sq<|cd (b:=decide ((j:Int)<(an.toNat:Int))) J J (fun b1=>?_)<|fun b1=>?_
 ·
  have p1:=dT b1
  refine sk<|nx<|sq<|bk<|az<|ai J s5<|ak (v:=I (j:Int)) J J<|z<|nx<|lH [.r,.r,.r,.r,.r,.r,.r,.r,.r,.r,.r,.r,.r,.e,.e] (fun _=>True) J aS (fun _ _=>trivial)<|yq J J<|kq (fun _ _=>mv J s3 e1)<|bH<|kq (fun _ _=>mv (v:=I (j:Int)) J J e1)<|bH<|kq (fun _ _=>fa iD J s0 e1)<|bH<|kq (fun _ x_=>lx (H6.ext x_) 3 J lb J J J e1)<|bH<|kq (fun _ _=>mv (v:=I (j:Int)) J J e1)<|bH<|rQ (H6.rv 5 J) J J J J aj im dm ?_
  intro iE x0 aM cz
  refine bH<|Bb cz.w dm J J ?_
  intro a0 c0 cw
  have Aq:=bj cw
  have H7:=eG H6 cw
  refine bH<|kq (fun _ _=>fa iD J s1 e1)<|bH<|kq (fun _ x_=>lx (H7.ext x_) 3 J lb J J J e1)<|bH<|kq (fun _ _=>mv (v:=I (j:Int)) J J e1)<|bH<|rQ (H7.rv 5 J) J J J J aj im dm ?_
  intro rK x1 cQ gL
  refine bH<|Bb gL.w dm J J ?_
  intro a1 c1 d_
  have ln1:=bj d_
  have H8:=eG H7 d_
  refine zq<|yu J (fun _ v w'=>∃(a2:OA) (c2:Nat),v=sL a2 (jM x0 x1) c2∧RV H6.fS w' (sL a2 (jM x0 x1) c2) (jM x0 x1)) J nh J (fun v_ _ x_ _=>have cU:=abf (a:=x0) (b:=x1) (w:=v_) (H8.ext x_).mb ((H8.ext x_).rv 1 rfl) ((H8.ext x_).rv 0 rfl) (by exact afe _ (dC aM)) (by exact afd _ (dC cQ));ca afI rfl (ec J<|ec J e0) cU (fun _ w6 ⟨a3,c3,e_,jc,iT⟩=>⟨_,J,jc,⟨a3,c3,e_,(ly J<|ly J<|bm.rv iT (H8.ext x_).mb)⟩⟩))<|ye<|ye<|yz ?_
  intro w7 f1 _ jK _ _ cx iJ
  have cM:=H8.ext jK
  have s6:=(cx 2 J).trans s0
  have s7:=(cx 3 J).trans s1
  have s8:=(cx 4 J).trans s2
  have s9:=(cx 6 J).trans s3
  have eu:=(cx 18 J).trans s4
  have fb:=(cx 19 J).trans s5
  have fu:=cx 22 J
  have fl:=cx 23 J
  obtain⟨a4,c4,gi,je⟩:=iJ 0 _ _ rfl
  have dU:=eG cM je
  refine jw<|gW (dU.at_ 3 J) J J fu fl aj im dm ?_
  intro g1 x2 iC jf kV
  refine jw<|oQ dU 3 J iC J aj dm J J J gi (dU.rv 0 J) ?_
  let J5:=own w.heap.size 144 (.slice (some ⟨g0,0,none⟩) an.toNat an.toNat) (xs.set ((j:Int).toNat) (jM x0 x1))
  intro w8 (dt:HI M w w8 [iL a4 (jM x0 x1) c4,iL a1 x1 c1,iL a0 x0 c0,J5,J4,J3,J2,J1,J0])
  refine kz<|aG<|nx<|rg<|k<|add J J fb J aR<|ai (v:=I ((j:Int)+1)) J J<|z ?_
  have cR:HI M w w8 (J5::J4::J3::ba):=dt.bX [3,4,5,6,7,8] au J
  refine bF _ ?_ ⟨(j+1),(xs.set ((j:Int).toNat) (jM x0 x1)),J,s6,s7,s8,s9,eu,(bG J),cR,aj,(by simpa using hl),(by rw[hs];exact P7 aj aM cQ)⟩
  omega
 have p1:=dF b1
 refine ex<|aV<|bc<|bg<|cO<|aQ ku J s0<|bq H6 3 J aT J J J<|ai J s3<|k<|bd (v:=.agg #[I an,.slice (some ⟨g0,0,none⟩) an.toNat an.toNat]) J (cm J<|cm J ew) (fun _=>aS)<|k<|bw H6 1 J bp J J s2 J J J J ?_
 intro w5 (H7:HI M w w5 (own w.heap.size 144 (.slice (some ⟨g0,0,none⟩) an.toNat an.toNat) xs::box bJ #[I an,.slice (some ⟨g0,0,none⟩) an.toNat an.toNat] 26::J3::ba))
 refine ak (v:=I 0) J J<|aq<|rt<|iH H7 1 J bp J J J s2 J au ?_
 have e0:(an:Int)=tB an bn:=by exact(Ai (ar:=ar) (br:=br) p0).1.symm
 have e1:(xs:List (List bt))=mi an ar bn br:=by rw[(Ai p0).2.1,hs];exact P8 aj hk
 have l1:an.toNat=(mi an ar bn br).length:=by rw[←e1];omega
 have e2:(0:Int)=xE an bn:=by exact(Ai (ar:=ar) (br:=br) p0).2.2.symm
 have bu:=rk (fun (cg:Int) (ve:Nat) (gV:Int)=>(.tuple #[.agg #[I cg,.slice (some ⟨g0,0,none⟩) ve an.toNat],I gV]:Value)) e0 l1 e2
 exact⟨(some ⟨g0,0,none⟩),an.toNat,bu,H7.below,(am_ (fun (n_:Nat)=>bm _ _ _ (mi an ar bn br) (.slice (some ⟨g0,0,none⟩) n_ an.toNat) _) l1).mp ((am_ (fun (x_:List (List bt))=>bm _ _ _ x_ (.slice (some ⟨g0,0,none⟩) an.toNat an.toNat) _) e1).mp (H7.dp 0 J))⟩
set_option maxRecDepth 100000 in
set_option maxHeartbeats 1600000 in
theorem C3 {M0:bW} {w0 w:aH} {l:List Go.Ew.Item} {i j:Nat} {Nb Pp:Option Addr} {ML Pf:Nat} (H:HI M0 w0 w l) (hi:l[i]? =some (own w0.heap.size 151 (sL Nb a ML) a)) (hj:l[j]? =some (own w0.heap.size 151 (sL Pp b Pf) b)) (hlen:b.length≤a.length) (hlb:b.length≤1000000000) (gA:i≠j∨((sL Nb a ML:Value)=sL Pp b Pf∧b=a)):Calls aI 95 #[sL Nb a ML,sL Pp b Pf] w (cp fun v w'=>v=.tuple #[]∧HI M0 w0 w' (l.set i (own w0.heap.size 151 (sL Nb a ML) (jM a b)))):=by
  have jN:i<l.length:=(dE.1 hi).1
  refine enter 21 Tryz.func95 J J J fun f0 ha=>?_
  have i0:f0 0=.slice Nb a.length ML:=ha 0 bl
  have i1:f0 1=.slice Pp b.length Pf:=ha 1 bl
  refine az<|ai (v:=.slice Pp b.length Pf) J i1<|k<|dD J J iq<|ai (v:=.int .i64 0) J J<|aq<|bk<|lp (fun m f w'=>∃(q:Nat) (xs:List bt),m=b.length-q∧f 0=.slice Nb a.length ML∧f 6=.slice Pp b.length Pf∧f 7=.int .i64 (b.length:Int)∧f 8=.int .i64 (q:Int)∧HI M0 w0 w' (l.set i (own w0.heap.size 151 (.slice Nb a.length ML) xs))∧q≤b.length∧xs.length=a.length∧xs=qk a.length a b a q) _ ⟨0,a,J,i0,J,J,J,(by rw[Y9 hi];exact H),aok _,J,CM _ _ _⟩ ?_
  rintro _ f1 w1 ⟨q,xs,rfl,s0,s1,s2,s3,H1,hk,hl,hs⟩
  refine az<|k<|lss J J s3 s2<|aq<|sq<|cd (b:=decide ((q:Int)<(b.length:Int))) J J (fun b1=>?_)<|fun b1=>?_
  ·
    have p1:=anT b1
    obtain⟨ys,Mb,As,hyq⟩:=SC hj jN gA hl hs hk hlen
    refine sk<|nx<|sq<|bk<|az<|ai J s3<|k<|gW (H1.at_ j Mb) J J s1 s3 aj iq fw ?_
    intro g0 x0 iC aM cz
    have hxq:=hyq x0 aM
    refine k<|yL cz fw J J<|ak (v:=.int .i64 (q:Int)) J J<|ak (v:=ag x0) J J<|aq<|rg<|ai J s0<|ai (v:=.int .i64 (q:Int)) J J<|k<|gW (H1.at_ i<|K9 jN) J J J J aj iq fw ?_
    intro g1 x1 kn cQ gL
    refine k<|yL gL fw J J<|ai (v:=ag x0) J J<|k<|Sc x1 x0 J J J J<|k<|gW (H1.at_ i<|K9 jN) J J J J aj iq fw ?_
    intro g2 x2 vk jf kV
    refine k<|oQ H1 i (K9 jN) vk J aj fw J J J J (RV.bv.2 J) ?_
    intro w2 H2
    rw[set_set] at H2
    refine z<|aG<|nx<|rg<|k<|add J J s3 J aR<|ai (v:=.int .i64 ((q:Int)+1)) J J<|z<|bF _ ?_ ⟨(q+1),(xs.set ((q:Int).toNat) (x1 ||| x0)),J,s0,s1,s2,(bG J),H2,aj,(by simpa using hl),SB hs hxq cQ⟩
    omega
  ·
    have p1:=aoE b1
    refine ex<|aV<|bc<|bg<|Em J ?_
    exact⟨J,by rw[←VC hs hlen aj];exact H1⟩
set_option maxRecDepth 100000 in
set_option maxHeartbeats 1600000 in
theorem Fz (hM:eO M w) (Mk:aJ n) (h0:0≤n) (h4:n≤4096):Calls aI 121 #[I n] w (cp fun v w'=>∃(a0:Option Addr) (c0:Nat) (ss:List SV),v=.tuple #[.agg #[I n,.slice a0 n.toNat c0],I 0]∧Ext w w'∧KB M 144 151 w ss (List.replicate n.toNat (eb n)) (.slice a0 n.toNat c0) w'):=by
  refine dG 29 Tryz.func121 J J J hM fun f0 ha H=>?_
  have i0:f0 0=.int .i64 n:=ha 0 bl
  refine az<|k<|al H bp ?_
  intro aZ w0 bY (H0:HI M w w0 [box aZ #[.int .i64 0,.slice none 0 0] 26])
  refine ak (v:=.int .i64 0) J J<|aq<|sq<|az<|ai J i0<|k<|lss J J J J<|ai (v:=.bool (decide (n<0))) J J ?_
  have b0:decide (n<0)=false:=ank aj
  refine bh J J J b0<|mv J i0<|bh J J J b0<|gtr J J J J<|k<|dA J J J J b0 J<|z<|nx<|cd (b:=decide (4096<n)) J J (fun b1=>?_)<|fun b1=>?_
  · exact absurd (anT b1) aj
  refine sk<|cO<|ai J i0<|k ?_
  have n0:((n.toNat:Nat):Int)=n:=anP aj
  refine mk (m:=n.toNat) (zx:=(⟨none,0,0⟩:SV)) H0 J J (by rw[n0];exact rfl) (by rw[n0];exact rfl) im dm (fun _ _=>rfl) aj aj ?_
  intro g0 w1 cT (H1:HI M w w1 [own w.heap.size 144 (.slice (some ⟨g0,0,none⟩) n.toNat n.toNat) (List.replicate n.toNat (⟨none,0,0⟩:SV)),box aZ #[.int .i64 0,.slice none 0 0] 26])
  refine ak (v:=.slice (some ⟨g0,0,none⟩) n.toNat n.toNat) J J<|aq<|sq<|az<|ai (v:=.slice (some ⟨g0,0,none⟩) n.toNat n.toNat) J J<|k<|dD J J im<|ai (v:=.int .i64 0) J J<|aq<|bk<|lp (fun m f w'=>∃(j:Nat) (ss:List SV),m=n.toNat-j∧f 0=.int .i64 n∧f 2=.pointer (some ⟨aZ,0,none⟩)∧f 4=.slice (some ⟨g0,0,none⟩) n.toNat n.toNat∧f 16=.int .i64 (n.toNat:Int)∧f 17=.int .i64 (j:Int)∧HI M w w' ([own w.heap.size 144 (.slice (some ⟨g0,0,none⟩) n.toNat n.toNat) (ss++List.replicate (n.toNat-j) (⟨none,0,0⟩:SV)),box aZ #[.int .i64 0,.slice none 0 0] 26]++aU w.heap.size 151 ss (List.replicate j<|eb n))∧j≤n.toNat∧ss.length=j) _ ⟨0,[],J,i0,J,J,J,J,H1,aok _,J⟩ ?_
  rintro _ f0 w2 ⟨j,ss,rfl,s0,s1,s2,s3,s4,H2,hk,hl⟩
  refine az<|k<|lss J J s4 s3<|aq<|sq<|cd (b:=decide ((j:Int)<(n.toNat:Int))) J J (fun b2=>?_)<|fun b2=>?_
  ·
    have p2:=anT b2
    refine sk<|nx<|sq<|bk<|az<|ai J s4<|ak (v:=.int .i64 (j:Int)) J J<|aq<|rg<|ai J s2<|ai (v:=.int .i64 (j:Int)) J J<|ai J s0<|k ?_
    have bS:=DW (n:=n) H2.mb aR aj
    refine ca QB J (ec J e0) bS ?_
    rintro _ w3 ⟨a0,c0,rfl,fk,cw⟩
    have H3:=H2.eT cw
    have xN:j<(ss++List.replicate (n.toNat-j) (⟨none,0,0⟩:SV)).length:=by rw[fF,oG];omega
    refine k<|gW (H3.at_ 1 J) J J J J aj im dm ?_
    intro g1 x0 iC aM cz
    refine k<|oQ (yv:=(⟨a0,(eb n).length,c0⟩:SV)) H3 1 J iC J aj dm J J J J (RV.sv.2 J) ?_
    intro w4 H4
    have H5:HI M w w4 (own w.heap.size 151 (⟨a0,(eb n).length,c0⟩:SV).v (eb n)::([own w.heap.size 144 (.slice (some ⟨g0,0,none⟩) n.toNat n.toNat) ((ss++List.replicate (n.toNat-j) (⟨none,0,0⟩:SV)).set ((j:Int).toNat) ⟨a0,(eb n).length,c0⟩),box aZ #[.int .i64 0,.slice none 0 0] 26]++aU w.heap.size 151 ss (List.replicate j (eb n)))):=H4
    have H6:=H5.abg<|by rw[oG];exact hl
    have es:(ss++List.replicate (n.toNat-j) (⟨none,0,0⟩:SV)).set ((j:Int).toNat) ⟨a0,(eb n).length,c0⟩=(ss++[⟨a0,(eb n).length,c0⟩])++List.replicate (n.toNat-(j+1)) (⟨none,0,0⟩:SV):=by
      rw[dP,aos _ _ aj,hl,an',show n.toNat-j=n.toNat-(j+1)+1 from by omega,an4,apg];simp
    rw[es,←List.replicate_succ'] at H6
    refine z<|aG<|nx<|rg<|k<|add J J s4 J aR<|ai (v:=.int .i64 ((j:Int)+1)) J J<|z<|bF _ ?_ ⟨(j+1),(ss++[⟨a0,(eb n).length,c0⟩]),J,s0,s1,s2,s3,(bG J),H6,aj,(by rw[fF,hl];rfl)⟩
    omega
  ·
    have p2:=aoE b2
    obtain rfl:j=n.toNat:=by omega
    rw[an',List.replicate_zero,aoB] at H2
    refine ex<|aV<|bc<|bg<|cO<|ai J s0<|ai J s2<|k<|bd (v:=.agg #[.int .i64 n,.slice (some ⟨g0,0,none⟩) n.toNat n.toNat]) J (cm J<|cm J ew) (fun _=>aS)<|k<|bw H2 1 J bp J J s1 J J J J ?_
    intro w3 H3
    have H4:HI M w w3 ([own w.heap.size 144 (.slice (some ⟨g0,0,none⟩) n.toNat n.toNat) ss,box aZ #[.int .i64 n,.slice (some ⟨g0,0,none⟩) n.toNat n.toNat] 26]++aU w.heap.size 151 ss (List.replicate n.toNat (eb n))):=H3
    refine ak (v:=.int .i64 0) J J<|aq<|rt<|iH H4 1 J bp J J J s1 J au ?_
    exact⟨(some ⟨g0,0,none⟩),n.toNat,ss,J,H4.below,by rw[oG];exact hl,H4.aP (l':=[own w.heap.size 144 (.slice (some ⟨g0,0,none⟩) n.toNat n.toNat) ss]) [0] au rfl rfl⟩
theorem G2:cA aI 121:=cI Tryz.func121
theorem afM:cA aI 128:=cI Tryz.func128
theorem Py:aI.underlying 133=some (.array 2 3):=aS
theorem Fy (hM:eO M w) (hT:fU 0 w) (ga:aJ mn) (gv:cD M w bD bC mr) (bZ:bK mn mr=true):Calls aI 87 #[.agg #[I mn,sL bD mr bC]] w (cp fun v w'=>∃(a0:OA) (c0:Nat),v=.agg #[I mn,.slice a0 (gH mn mr).length c0]∧Ext w w'∧bm M 144 w (gH mn mr) (.slice a0 (gH mn mr).length c0) w'):=by
 refine dG 39 Tryz.func87 J J J hM fun f0 ha H=>?_
 let J0:=iL bD mr bC
 have H0:=H.put (it:=J0) J<|by rw[bP];exact gv
 have nz:=bj gv
 have i0:f0 0=.agg #[I mn,sL bD mr bC]:=ha 0 bl
 refine az<|k<|bx H0 J i0 ?_
 intro aZ w0 bY (H1:HI M w w0 [box aZ #[I mn,sL bD mr bC] 26,J0])
 let J1:=box aZ #[I mn,sL bD mr bC] 26
 refine k<|al H1 bp ?_
 let ba:=[J1,J0]
 intro aY w1 cT (H2:HI M w w1 (box aY #[I 0,.slice none 0 0] 26::ba))
 let J2:=box aY #[I 0,.slice none 0 0] 26
 refine bz<|aQ ku J J<|bq H2 1 J aT J J J<|k ?_
 have bS:=Fz (n:=mn) H2.mb ga (by exact kS bZ)<|by exact(bQ bZ).2.2.1
 refine ca G2 J (ec J e0) bS ?_
 rintro _ w2 ⟨a0,c0,fQ,rfl,fk,cw⟩
 have H3:=H2.Gs cw
 let J3:=own w.heap.size 144 (.slice a0 mn.toNat c0) fQ
 let bV:=J3::J2::ba
 have H4:HI M w w2 (bV++aU w.heap.size 151 fQ (List.replicate mn.toNat (eb mn))):=H3
 have E_:=cw.1
 refine ai (v:=.tuple #[.agg #[I mn,.slice a0 mn.toNat c0],I 0]) J J<|k<|xt J J J<|k<|xt J J J<|k<|al H4 bp ?_
 intro bJ w3 fN (H5:HI M w w3 ((box bJ #[I 0,.slice none 0 0] 26::bV)++aU w.heap.size 151 fQ (List.replicate mn.toNat (eb mn))))
 refine k<|bw H5 0 J bp J J J J J J J ?_
 let J4:=box bJ #[I mn,.slice a0 mn.toNat c0] 26
 let dz:=J4::bV
 intro w4 (H6:HI M w w4 (dz++aU w.heap.size 151 fQ (List.replicate mn.toNat (eb mn))))
 refine ak (v:=I 0) J J<|aq<|sq<|az<|k<|cB H6 3 J bp J J au J<|k ?_
 have cU:=Ss (mn:=mn) (mr:=mr) H6.mb (hT.ext H6.below) ga (H6.rv 4 J) (by exact(bQ bZ).1) (by exact(bQ bZ).2.1) (by exact(bQ bZ).2.2.1)<|by exact(bQ bZ).2.2.2.2
 refine ca afM J (ec J e0) cU ?_
 rintro _ w5 ⟨a1,c1,rfl,iP,d_⟩
 have H7:=H6.ext iP
 let J5:=iL a1 (iU mn mr) c1
 have H8:=H7.put (it:=J5) J d_
 have H9:HI M w w5 ((J5::dz)++aU w.heap.size 151 fQ (List.replicate mn.toNat (eb mn))):=H8
 refine k<|dD J J Pw<|ai (v:=I 0) J J<|aq<|bk<|lp (fun m f w'=>∃(j:Nat) (xs:List (List bt)),m=(iU mn mr).length-j∧f 2=pV aY 0∧f 3=pV bJ 0∧f 14=sL a1 (iU mn mr) c1∧f 15=I ((iU mn mr).length:Int)∧f 16=I (j:Int)∧HI M w w' ((J5::dz)++aU w.heap.size 151 fQ xs)∧(j≤(iU mn mr).length)∧(fQ.length=xs.length)∧(xs=foldM mn (((iU mn mr).map A3).take j))) _ ⟨0,(List.replicate mn.toNat<|eb mn),J,J,J,J,J,(bG J),H9,aj,(by exact cw.1),(by exact Rl _ _)⟩ ?_
 rintro _ f0 w6 ⟨j,xs,rfl,s0,s1,s2,s3,s4,dO,hk,hl,hs⟩
 refine az<|k<|lss J J s4 s3<|aq<|sq<|cd (b:=decide ((j:Int)<((iU mn mr).length:Int))) J J (fun b0=>?_)<|fun b0=>?_
 ·
  have p0:=dT b0
  refine sk<|nx<|sq<|bk<|az<|k<|ia (dO.rv 0 J) J J s2 s4 aj Pw Gg ?_
  intro iE x0 aM cz
  refine k<|nF cz.w Gg J J ?_
  intro v0 dZ
  obtain⟨_,⟨_,_,rfl,⟨rfl,fy⟩,⟨rfl,iT⟩⟩,rfl⟩:=dZ
  refine k<|al dO Gg ?_
  intro fh w7 jc (cV:HI M w w7 ((box fh #[I 0,I 0] 133::J5::dz)++aU w.heap.size 151 fQ xs))
  refine k<|bw cV 0 J Gg J J J J J J J ?_
  let J6:=box fh #[I x0.1,I x0.2] 133
  intro w8 (du:HI M w w8 ((J6::J5::dz)++aU w.heap.size 151 fQ xs))
  refine z<|nx ?_
  obtain⟨Tg,Tf,g3_,g4_⟩:=PO bZ aM
  have xl_:xs.length=mn.toNat:=by rw[hs,Dj]
  obtain⟨a2,x1,c2,kD,ko⟩:=ru (i:=x0.2.toNat) du bo aj
  obtain⟨x3,jf⟩:∃x,x1[(x0.1/64).toNat]? =some x:=⟨_,eI (by obtain⟨LS,ub,k3_,k4_⟩:=xm (hs▸ko) Tg Tf;first|omega|exact⟨LS,ub⟩)⟩
  refine dr 15 [eV (pV bJ 1),eV (.slice a0 mn.toNat c0),eV (pV fh 1),fun v w'=>v=I x0.2∧aJ (x0.2),fun v w'=>∃(g0:Nat),v=.pointer (some ⟨g0,x0.2.toNat*1,none⟩)∧(.slice a0 mn.toNat c0:Value).ownBlock=some g0∧hQ du.fS w' ⟨g0,x0.2.toNat*1,none⟩ (⟨a2,x1.length,c2⟩:SV),eV (sL a2 x1 c2),eV (pV fh 0),fun v w'=>v=I x0.1∧aJ (x0.1),eV (I<|x0.1/64),fun v w'=>∃(g1:Nat),v=.pointer (some ⟨g1,(x0.1/64).toNat*1,none⟩)∧(.slice a2 x1.length c2:Value).ownBlock=some g1∧hQ du.fS w' ⟨g1,(x0.1/64).toNat*1,none⟩ x3,eV (ag x3),eV (pV fh 0),fun v w'=>v=I x0.1∧aJ (x0.1),eV (I<|x0.1%64),eV (ag<|kl<|x0.1%64)] J aS ?_ ?_
  ·
   refine dc (fun _ _ S1 _ _=>fa iD J ((S1 3 J).trans s1)<|d0 J J)<|dc (fun _ _ _ l3 Jd=>lx (du.ext l3) 2 J lb J (Jd 0 J J) J<|d0 J J)<|dc (fun _ _ Md _ _=>XB J J (Md 6 J) J aj Py aT<|d0 J J)<|dc (fun _ _ _ Cj yP=>lx (du.ext Cj) 0 J aT J (yP 2 J J) J ⟨_,J,Ext.refl _,⟨J,iT⟩⟩) ?_
   refine⟨fun _=>⟨fun f5 jv hf4 HC ED=>?_,by rintro _ _ _ x_ ⟨g0,e_,iC,gL⟩;exact⟨g0,e_,iC,gL.ext x_⟩⟩,?_⟩
   ·
    have dI:=du.ext HC
    have s7:f5 21=.slice a0 mn.toNat c0:=ED 1 J J
    obtain⟨s8,jS⟩:f5 23=I x0.2∧aJ (x0.2):=ED 3 rfl rfl
    refine gW (dI.at_ 3 J) J J s7 s8 aj im dm ?_
    intro g2 x4 vk nH vw
    obtain rfl:(⟨a2,x1.length,c2⟩:SV)=x4:=ana (kD.symm.trans nH)
    exact⟨_,J,Ext.refl _,⟨g2,J,vk,vw⟩⟩
   refine dc (fun f6 nB X0 HB OT=>?_) ?_
   ·
    obtain⟨g3,s9,XH,wx⟩:∃(g3:Nat),f6 24=.pointer (some ⟨g3,x0.2.toNat*1,none⟩)∧(.slice a0 mn.toNat c0:Value).ownBlock=some g3∧hQ du.fS nB ⟨g3,x0.2.toNat*1,none⟩ (⟨a2,x1.length,c2⟩:SV):=OT 4 rfl rfl
    refine I5 wx dm J s9 ?_
    exact⟨_,J,Ext.refl _,J⟩
   refine dc (fun _ _ hf6 _ _=>XB J J (hf6 6 J) J aj Py aT<|d0 J J)<|dc (fun _ _ _ aay Jb=>lx (du.ext aay) 0 J aT J (Jb 6 J J) J ⟨_,J,Ext.refl _,⟨J,fy⟩⟩)<|dc (fun f9 uY hf8 Pt B6=>?_) ?_
   ·
    obtain⟨fb,je⟩:f9 27=I x0.1∧aJ (x0.1):=B6 7 rfl rfl
    refine K8 J J fb J ?_
    exact⟨_,J,Ext.refl _,J⟩
   refine⟨fun _=>⟨fun f10 yr hf9 Uw EC=>?_,by rintro _ _ _ x_ ⟨g1,e_,kn,kV⟩;exact⟨g1,e_,kn,kV.ext x_⟩⟩,?_⟩
   ·
    have eP:=du.ext Uw
    have fu:f10 25=sL a2 x1 c2:=EC 5 J J
    have fl:f10 28=I (x0.1/64):=EC 8 J J
    refine gW (eP.at_ _<|oV kD ko) J J fu fl (by obtain⟨LS,ub,k3_,k4_⟩:=xm (hs▸ko) Tg Tf;first|omega|exact⟨LS,ub⟩) iq fw ?_
    intro g4 x5 hv4 yN Jo
    obtain rfl:x3=x5:=ana (jf.symm.trans yN)
    exact⟨_,J,Ext.refl _,⟨g4,J,hv4,Jo⟩⟩
   refine dc (fun f11 z1 BB alY vY=>?_) ?_
   ·
    obtain⟨g5,gi,hv5,OX⟩:∃(g5:Nat),f11 29=.pointer (some ⟨g5,(x0.1/64).toNat*1,none⟩)∧(.slice a2 x1.length c2:Value).ownBlock=some g5∧hQ du.fS z1 ⟨g5,(x0.1/64).toNat*1,none⟩ x3:=vY 9 rfl rfl
    refine yL OX fw J gi ?_
    exact⟨_,J,Ext.refl _,J⟩
   refine dc (fun _ _ ait _ _=>XB J J (ait 6 J) J aj Py aT<|d0 J J)<|dc (fun _ _ _ ahB L5=>lx (du.ext ahB) 0 J aT J (L5 11 J J) J ⟨_,J,Ext.refl _,⟨J,fy⟩⟩)<|dc (fun f14 Rk amr alX aic=>?_) ?_
   ·
    obtain⟨j4,lh⟩:f14 32=I x0.1∧aJ (x0.1):=aic 12 rfl rfl
    refine KA J J j4 J ?_
    exact⟨_,J,Ext.refl _,J⟩
   refine dc (fun f15 w24 amq alW aib=>?_) ?_
   ·
    have kJ:f15 33=I (x0.1%64):=aib 13 J J
    have eZ:=E5 (i:=(x0.1%64)) (w:=w24) aR
    refine ca QI J (ec kJ e0) eZ ?_
    rintro _ w25 ⟨rfl,ahA⟩
    exact⟨_,J,ahA,J⟩
   exact mz.rest J _
  ·
   intro f16 w26 Me ahz Qq
   have qa:=du.ext ahz
   have lD:=(Me 2 J).trans s0
   have l5:=(Me 3 J).trans s1
   have l4:=(Me 14 J).trans s2
   have oT:=(Me 15 J).trans s3
   have oS:=(Me 16 J).trans s4
   have t':=Qq 5 J
   have u1:=Qq 8 J
   have tZ:=Qq 10 J
   have sM:=Qq 14 J
   refine k<|Sc x3 (kl<|x0.1%64) J J tZ sM<|k<|gW (qa.at_ _<|oV kD ko) J J t' u1 (by obtain⟨LS,ub,k3_,k4_⟩:=xm (hs▸ko) Tg Tf;first|omega|exact⟨LS,ub⟩) iq fw ?_
   intro g6 x6 hv6 Ey Jn
   refine k<|oQ qa _ (oV kD ko) hv6 J (by obtain⟨LS,ub,k3_,k4_⟩:=xm (hs▸ko) Tg Tf;first|omega|exact⟨LS,ub⟩) fw J J J J (RV.bv.2 J) ?_
   intro W6 nP
   have j':=HI.Ad (M:=fun _=>False) (it:=tH (.int .i64 0) (0:Int)) nP kD
   have jX:HI M w W6 ((J6::J5::dz)++aU w.heap.size 151 fQ (xs.set x0.2.toNat (x1.set ((x0.1/64).toNat) (x3 ||| (kl (x0.1%64)))))):=j'
   refine z<|aG<|nx<|rg<|k<|add J J oS J (by have h_:=Nu bZ;unfold aJ;omega)<|ai (v:=I ((j:Int)+1)) J J<|z ?_
   have rp:HI M w W6 ((J5::dz)++aU w.heap.size 151 fQ (xs.set x0.2.toNat (x1.set ((x0.1/64).toNat) (x3 ||| (kl (x0.1%64)))))):=HI.aP (l:=(J6::J5::dz)) (l':=(J5::dz)) (t:=aU w.heap.size 151 fQ (xs.set x0.2.toNat (x1.set ((x0.1/64).toNat) (x3 ||| (kl<|x0.1%64))))) jX [1,2,3,4,5,6] au J J
   refine bF _ ?_ ⟨(j+1),(xs.set x0.2.toNat (x1.set ((x0.1/64).toNat) (x3 ||| (kl<|x0.1%64)))),J,lD,l5,l4,oT,(bG J),rp,aj,(by simp only[am'];exact hl),(by exact Rm hs aM ko jf Tg Tf)⟩
   omega
 have p0:=dF b0
 refine ex<|aV<|bc<|bg<|nx<|sq ?_
 have cV:HI M w w6 [own w.heap.size 144 (.slice a0 mn.toNat c0) xs,J5,J4,J2,J1,J0]:=HI.deep (l:=[J5,J4,J2,J1,J0]) (HI.aP (l:=(J5::dz)) (l':=[J3,J5,J4,J2,J1,J0]) (t:=aU w.heap.size 151 fQ xs) dO [2,0,1,3,4,5] au J J) bo
 refine rg<|k<|cB cV 2 J bp J s1 au J<|k<|bw cV 3 J bp J J s0 J J J J ?_
 intro w7 (du:HI M w w7 [own w.heap.size 144 (.slice a0 mn.toNat c0) xs,J5,J4,box aY #[I mn,.slice a0 mn.toNat c0] 26,J1,J0])
 refine aq<|rt<|py du 3 J bp J J s0 J au ?_
 have e1:(xs:List (List bt))=gH mn mr:=by exact Uz hs aj
 have l1:mn.toNat=(gH mn mr).length:=by rw[Co]
 have bu:=iK (fun (ve:Nat)=>(.agg #[I mn,.slice a0 ve c0]:Value)) l1
 exact⟨a0,c0,bu,du.below,(am_ (fun (n_:Nat)=>bm _ _ _ (gH mn mr) (.slice a0 n_ c0) _) l1).mp ((am_ (fun (x_:List (List bt))=>bm _ _ _ x_ (.slice a0 mn.toNat c0) _) e1).mp (du.dp 0 J))⟩
theorem L0 (hM:eO M w) (ga:aJ mn) (gv:cD M w bD bC mr) (bZ:bK mn mr=true):Calls aI 94 #[.agg #[I mn,sL bD mr bC]] w (cp fun v w'=>∃(a0:OA) (c0:Nat) (fQ:List SV),v=.agg #[I mn,.slice a0 mn.toNat c0]∧Ext w w'∧KB M 144 151 w fQ mr (.slice a0 mn.toNat c0) w'):=by
 refine dG 30 Tryz.func94 J J J hM fun f0 ha H=>?_
 let J0:=iL bD mr bC
 have H0:=H.put (it:=J0) J<|by rw[bP];exact gv
 have nz:=bj gv
 have i0:f0 0=.agg #[I mn,sL bD mr bC]:=ha 0 bl
 refine az<|k<|bx H0 J i0 ?_
 intro aZ w0 bY (H1:HI M w w0 [box aZ #[I mn,sL bD mr bC] 26,J0])
 let J1:=box aZ #[I mn,sL bD mr bC] 26
 refine k<|al H1 bp ?_
 intro aY w1 cT (H2:HI M w w1 [box aY #[I 0,.slice none 0 0] 26,J1,J0])
 let J2:=box aY #[I 0,.slice none 0 0] 26
 refine bz<|aQ ku J J<|bq H2 1 J aT J J J<|k ?_
 have bS:=Fz (n:=mn) H2.mb ga (by exact kS bZ)<|by exact(bQ bZ).2.2.1
 refine ca G2 J (ec J e0) bS ?_
 rintro _ w2 ⟨a0,c0,fQ,rfl,fk,cw⟩
 have H3:=H2.Gs cw
 let J3:=own w.heap.size 144 (.slice a0 mn.toNat c0) fQ
 let ba:=[J3,J2,J1,J0]
 have H4:HI M w w2 (ba++aU w.heap.size 151 fQ (List.replicate mn.toNat (eb mn))):=H3
 have E_:=cw.1
 refine ai (v:=.tuple #[.agg #[I mn,.slice a0 mn.toNat c0],I 0]) J J<|k<|xt J J J<|k<|xt J J J<|k<|al H4 bp ?_
 intro bJ w3 fN (H5:HI M w w3 ((box bJ #[I 0,.slice none 0 0] 26::ba)++aU w.heap.size 151 fQ (List.replicate mn.toNat (eb mn))))
 refine k<|bw H5 0 J bp J J J J J J J ?_
 let J4:=box bJ #[I mn,.slice a0 mn.toNat c0] 26
 intro w4 (H6:HI M w w4 ((J4::ba)++aU w.heap.size 151 fQ (List.replicate mn.toNat (eb mn))))
 refine ak (v:=I 0) J J<|aq<|sq<|az<|aQ iD J J<|bq H6 3 J lb J J J<|k<|dD J J im<|ai (v:=I 0) J J<|aq<|bk<|lp (fun m f w'=>∃(j:Nat) (xs:List (List bt)),m=mr.length-j∧f 2=pV aY 0∧f 3=pV bJ 0∧f 14=sL bD mr bC∧f 15=I (mr.length:Int)∧f 16=I (j:Int)∧HI M w w' ((J4::ba)++aU w.heap.size 151 fQ xs)∧(j≤mr.length)∧(fQ.length=xs.length)∧(xs=mr.take j++List.replicate (mn.toNat-j) (eb mn))) _ ⟨0,(List.replicate mn.toNat<|eb mn),J,J,J,J,J,(bG J),H6,aj,(by exact cw.1),bl⟩ ?_
 rintro _ f0 w5 ⟨j,xs,rfl,s0,s1,s2,s3,s4,H7,hk,hl,hs⟩
 refine az<|k<|lss J J s4 s3<|aq<|sq<|cd (b:=decide ((j:Int)<(mr.length:Int))) J J (fun b0=>?_)<|fun b0=>?_
 ·
  have p0:=dT b0
  refine sk<|nx<|sq<|bk<|az<|ai J s4<|k<|ia (H7.rv 4 J) J J s2 s4 aj im dm ?_
  intro iE x0 aM cz
  refine k<|wm cz.w dm J J ?_
  intro a1 c1 d_
  have Aq:=bj d_
  have H8:=eG H7 d_
  let bV:=iL a1 x0 c1::J4::ba
  have H9:HI M w w5 (bV++aU w.heap.size 151 fQ xs):=H8
  refine ak (v:=I (j:Int)) J J<|ak (v:=sL a1 x0 c1) J J<|z<|nx ?_
  have xl_:xs.length=mr.length:=by have h_:=(bQ bZ).1;rw[hs,fF,iB,oG];omega
  refine rg<|aQ iD J s1<|bq H9 1 J lb J J J<|ai (v:=I (j:Int)) J J<|k ?_
  obtain⟨a2,x1,c2,kD,ko⟩:=ru (i:=(j:Int).toNat) H9 bo aj
  refine gW (H9.at_ 2 J) J J J J aj im dm ?_
  intro g0 x2 iC cQ gL
  obtain rfl:(⟨a2,x1.length,c2⟩:SV)=x2:=ana (kD.symm.trans cQ)
  refine k<|I5 gL dm J J<|ai (v:=sL a1 x0 c1) J J<|k<|cpO H9 _ (oV kD ko) J J J J J (H9.rv 0 J).src iq fw (by exact Zn bZ hs aM ko) (by exact Zm bZ hs aM ko) ?_
  intro w6 cV
  have dO:=HI.Ad (M:=fun _=>False) (it:=tH (.int .i64 0) (0:Int)) cV kD
  have du:HI M w w6 (bV++aU w.heap.size 151 fQ (xs.set ((j:Int).toNat) x0)):=dO
  refine z<|aG<|nx<|rg<|k<|add J J s4 J aR<|ai (v:=I ((j:Int)+1)) J J<|z ?_
  have dJ:HI M w w6 ((J4::ba)++aU w.heap.size 151 fQ (xs.set ((j:Int).toNat) x0)):=HI.aP (l:=bV) (l':=(J4::ba)) (t:=aU w.heap.size 151 fQ (xs.set ((j:Int).toNat) x0)) du [1,2,3,4,5] au J J
  refine bF _ ?_ ⟨(j+1),(xs.set ((j:Int).toNat) x0),J,s0,s1,s2,s3,(bG J),dJ,aj,(by simp only[am'];exact hl),(by exact Ve bZ hs aM)⟩
  omega
 have p0:=dF b0
 refine ex<|aV<|bc<|bg<|cO<|k<|cB H7 0 J bp J s1 au J<|k<|bw H7 2 J bp J J s0 J J J J ?_
 intro w6 (H8:HI M w w6 ([J4,J3,box aY #[I mn,.slice a0 mn.toNat c0] 26,J1,J0]++aU w.heap.size 151 fQ xs))
 refine aq<|rt<|py H8 2 J bp J J s0 J au ?_
 have e1:(xs:List (List bt))=mr:=by exact Zo bZ hs aj
 have w1:fQ.length=(xs).length:=by assumption
 exact⟨a0,c0,fQ,J,H8.below,(am_ (fun (x_:List (List bt))=>KB _ 144 151 _ fQ x_ (.slice a0 mn.toNat c0) _) e1).mp ⟨w1,HI.aP (l:=[box bJ #[I mn,.slice a0 mn.toNat c0] 26,own w.heap.size 144 (.slice a0 mn.toNat c0) fQ,box aY #[I mn,.slice a0 mn.toNat c0] 26,box aZ #[I mn,sL bD mr bC] 26,iL bD mr bC]) (l':=[own w.heap.size 144 (.slice a0 mn.toNat c0) fQ]) (t:=aU w.heap.size 151 fQ xs) H8 [1] au rfl rfl⟩⟩
theorem adj:cA aI 94:=cI Tryz.func94
theorem VV:cA aI 95:=cI Tryz.func95
theorem FN:cA aI 64:=cI Tryz.func64
theorem wL (hM:eO M w) (ga:aJ mn) (gv:cD M w bD bC mr) (bZ:bK mn mr=true):Calls aI 58 #[.agg #[I mn,sL bD mr bC]] w (cp fun v w'=>∃(a0:OA) (c0:Nat),v=.agg #[I mn,.slice a0 (fj mn mr).length c0]∧Ext w w'∧bm M 144 w (fj mn mr) (.slice a0 (fj mn mr).length c0) w'):=by
 refine dG 41 Tryz.func58 J J J hM fun f0 ha H=>?_
 let J0:=iL bD mr bC
 have H0:=H.put (it:=J0) J<|by rw[bP];exact gv
 have nz:=bj gv
 have i0:f0 0=.agg #[I mn,sL bD mr bC]:=ha 0 bl
 have ue:=(bQ bZ).1;have Jp:=(bQ bZ).2.2.1;have Dg:=kS bZ
 refine az<|k<|bx H0 J i0 ?_
 intro aZ w0 bY (H1:HI M w w0 [box aZ #[I mn,sL bD mr bC] 26,J0])
 let J1:=box aZ #[I mn,sL bD mr bC] 26
 refine k<|al H1 bp ?_
 intro aY w1 cT (H2:HI M w w1 [box aY #[I 0,.slice none 0 0] 26,J1,J0])
 let J2:=box aY #[I 0,.slice none 0 0] 26
 refine bz<|k<|cB H2 1 J bp J J au J<|k ?_
 have bS:=L0 (mn:=mn) (mr:=mr) H2.mb ga (H2.rv 2 J)<|by exact bZ
 refine ca adj J (ec J e0) bS ?_
 rintro _ w2 ⟨a0,c0,fQ,rfl,fk,cw⟩
 have H3:=H2.Gs cw
 let J3:=own w.heap.size 144 (.slice a0 mn.toNat c0) fQ
 have H4:HI M w w2 ([J3,J2,J1,J0]++aU w.heap.size 151 fQ mr):=H3
 have E_:=cw.1
 refine k<|al H4 bp ?_
 intro bJ w3 fN (H5:HI M w w3 ([box bJ #[I 0,.slice none 0 0] 26,J3,J2,J1,J0]++aU w.heap.size 151 fQ mr))
 refine k<|bw H5 0 J bp J J J J J J J ?_
 let J4:=box bJ #[I mn,.slice a0 mn.toNat c0] 26
 intro w4 (H6:HI M w w4 ([J4,J3,J2,J1,J0]++aU w.heap.size 151 fQ mr))
 refine aq<|sq<|az<|aQ iD J J<|bq H6 0 J lb J J J<|k<|dD J J im<|ai (v:=I 0) J J<|aq<|bk<|lp (fun m f w'=>∃(q:Nat) (xs:List (List bt)),m=mn.toNat-q∧f 2=pV aY 0∧f 3=pV bJ 0∧f 10=I (mn.toNat:Int)∧f 11=I (q:Int)∧HI M w w' ([J4,J3,J2,J1,J0]++aU w.heap.size 151 fQ xs)∧(q≤mn.toNat)∧(fQ.length=xs.length)∧(xs=cH mn.toNat (wM (fZ mr) q))∧(xs.length=mn.toNat)) _ ⟨0,mr,J,J,J,J,(bG J),H6,aj,(by exact E_),(by exact NQ bZ),aj⟩ ?_
 rintro _ f0 w5 ⟨q,xs,rfl,s0,s1,s2,s3,H7,hk,hl,hs,Ex⟩
 refine az<|k<|lss J J s3 s2<|aq<|sq<|cd (b:=decide ((q:Int)<(mn.toNat:Int))) J J (fun b0=>?_)<|fun b0=>?_
 ·
  have p0:=dT b0
  refine sk<|nx<|sq<|bk<|az<|ai J s3<|ak (v:=I (q:Int)) J J<|bz<|aQ iD J s1<|bq H7 0 J lb J J J<|k<|dD J J im<|ai (v:=I 0) J J<|aq<|bk<|lp (fun m f w'=>∃(i:Nat) (ys:List (List bt)),m=mn.toNat-i∧f 2=pV aY 0∧f 3=pV bJ 0∧f 4=I (q:Int)∧f 10=I (mn.toNat:Int)∧f 11=I (q:Int)∧f 16=I (mn.toNat:Int)∧f 17=I (i:Int)∧HI M w w' ([J4,J3,J2,J1,J0]++aU w.heap.size 151 fQ ys)∧(i≤mn.toNat)∧(fQ.length=ys.length)∧(ys=cH mn.toNat (wR (fZ mr) q i))∧(ys.length=mn.toNat)) _ ⟨0,xs,J,s0,s1,J,s2,s3,J,(bG J),H7,aj,(by exact hl),(by rw[hs];exact YZ _ _ _),(by exact Ex)⟩ ?_
  rintro _ f1 w6 ⟨i,ys,rfl,s4,s5,s6,s7,s8,s9,eu,H8,XX,oe,gK,As⟩
  refine az<|k<|lss J J eu s9<|aq<|sq<|cd (b:=decide ((i:Int)<(mn.toNat:Int))) J J (fun b1=>?_)<|fun b1=>?_
  ·
   have p1:=dT b1
   refine sk<|nx<|sq<|bk<|az<|ai J eu<|ak (v:=I (i:Int)) J J<|bz<|aQ iD J s5<|bq H8 0 J lb J J J<|ai (v:=I (i:Int)) J J<|k ?_
   obtain⟨a1,x0,c1,kD,ko⟩:=ru (i:=(i:Int).toNat) H8 bo aj
   refine gW (H8.at_ 1 J) J J J J aj im dm ?_
   intro g0 x1 iC aM cz
   obtain rfl:(⟨a1,x0.length,c1⟩:SV)=x1:=ana (kD.symm.trans aM)
   refine k<|I5 cz dm J J<|ai J s6<|k ?_
   have cU:=Ac (r:=x0) (i:=(q:Int)) (w:=w6) (M:=fun _=>False) (fun _ h_=>h_.elim) (abe H8 kD ko) aR
   refine ca Mp J (ec J<|ec J e0) cU ?_
   rintro _ w7 ⟨rfl,iP⟩
   have H9:=H8.ext iP
   refine z<|nx<|cd (b:=fq x0 (q:Int)) J J (fun b2=>?_)<|fun b2=>?_
   ·
    obtain⟨a2,x3,c2,GS,SL⟩:=ru (i:=(q:Int).toNat) H9 bo aj
    refine dr 10 [eV (pV bJ 1),eV (.slice a0 mn.toNat c0),eV (I (i:Int)),fun v w'=>∃(g1:Nat),v=.pointer (some ⟨g1,(i:Int).toNat*1,none⟩)∧(.slice a0 mn.toNat c0:Value).ownBlock=some g1∧hQ H9.fS w' ⟨g1,(i:Int).toNat*1,none⟩ (⟨a1,x0.length,c1⟩:SV),eV (sL a1 x0 c1),eV (pV bJ 1),eV (.slice a0 mn.toNat c0),eV (I (q:Int)),fun v w'=>∃(g2:Nat),v=.pointer (some ⟨g2,(q:Int).toNat*1,none⟩)∧(.slice a0 mn.toNat c0:Value).ownBlock=some g2∧hQ H9.fS w' ⟨g2,(q:Int).toNat*1,none⟩ (⟨a2,x3.length,c2⟩:SV),eV (sL a2 x3 c2)] J aS ?_ ?_
    ·
     refine dc (fun _ _ S1 _ _=>fa iD J ((S1 3 J).trans s5)<|d0 J J)<|dc (fun _ _ _ jK Jd=>lx (H9.ext jK) 0 J lb J (Jd 0 J J) J<|d0 J J)<|dc (fun _ _ Md _ _=>mv J (Md 5 J)<|d0 J J) ?_
     refine⟨fun _=>⟨fun f5 ee hf3 l3 yP=>?_,by rintro _ _ _ x_ ⟨g1,e_,kn,gL⟩;exact⟨g1,e_,kn,gL.ext x_⟩⟩,?_⟩
     ·
      have dJ:=H9.ext l3
      have fu:f5 28=.slice a0 mn.toNat c0:=yP 1 J J
      have fl:f5 29=I (i:Int):=yP 2 J J
      refine gW (dJ.at_ 1 J) J J fu fl aj im dm ?_
      intro g3 x5 XH nH vw
      obtain rfl:(⟨a1,x0.length,c1⟩:SV)=x5:=ana (kD.symm.trans nH)
      exact⟨_,J,Ext.refl _,⟨g3,J,XH,vw⟩⟩
     refine dc (fun f6 ft hf4 yp ED=>?_) ?_
     ·
      obtain⟨g4,gi,hv4,wx⟩:∃(g4:Nat),f6 30=.pointer (some ⟨g4,(i:Int).toNat*1,none⟩)∧(.slice a0 mn.toNat c0:Value).ownBlock=some g4∧hQ H9.fS ft ⟨g4,(i:Int).toNat*1,none⟩ (⟨a1,x0.length,c1⟩:SV):=ED 3 rfl rfl
      refine I5 wx dm J gi ?_
      exact⟨_,J,Ext.refl _,J⟩
     refine dc (fun _ _ X0 _ _=>fa iD J ((X0 3 J).trans s5)<|d0 J J)<|dc (fun _ _ _ HC Jc=>lx (H9.ext HC) 0 J lb J (Jc 5 J J) J<|d0 J J)<|dc (fun _ _ hf7 _ _=>mv J ((hf7 4 J).trans s6)<|d0 J J) ?_
     refine⟨fun _=>⟨fun f10 rE hf8 KD B6=>?_,by rintro _ _ _ x_ ⟨g2,e_,vk,kV⟩;exact⟨g2,e_,vk,kV.ext x_⟩⟩,?_⟩
     ·
      have dI:=H9.ext KD
      have j4:f10 33=.slice a0 mn.toNat c0:=B6 6 J J
      have kJ:f10 34=I (q:Int):=B6 7 J J
      refine gW (dI.at_ 1 J) J J j4 kJ aj im dm ?_
      intro g5 x6 hv5 yN Jo
      obtain rfl:(⟨a2,x3.length,c2⟩:SV)=x6:=ana (GS.symm.trans yN)
      exact⟨_,J,Ext.refl _,⟨g5,J,hv5,Jo⟩⟩
     refine dc (fun f11 tn hf9 aay EC=>?_) ?_
     ·
      obtain⟨g6,lD,hv6,OX⟩:∃(g6:Nat),f11 35=.pointer (some ⟨g6,(q:Int).toNat*1,none⟩)∧(.slice a0 mn.toNat c0:Value).ownBlock=some g6∧hQ H9.fS tn ⟨g6,(q:Int).toNat*1,none⟩ (⟨a2,x3.length,c2⟩:SV):=EC 8 rfl rfl
      refine I5 OX dm J lD ?_
      exact⟨_,J,Ext.refl _,J⟩
     exact mz.rest J _
    ·
     intro f12 uY BB Pt vY
     have cE:=H9.ext Pt
     have l5:=(BB 2 J).trans s4
     have l4:=(BB 3 J).trans s5
     have oT:=(BB 4 J).trans s6
     have oS:=(BB 10 J).trans s7
     have t':=(BB 11 J).trans s8
     have u1:=(BB 16 J).trans s9
     have tZ:=(BB 17 J).trans eu
     have sM:=vY 4 J
     have xw:=vY 9 J
     refine k ?_
     have fP:=C3 cE (oV (l:=[J4,J3,J2,J1,J0]) kD ko) (oV (l:=[J4,J3,J2,J1,J0]) GS SL) (by have TJ:=ko;rw[gK] at TJ;have TI:=SL;rw[gK] at TI;rw[KJ TJ,KJ TI];exact ane _) (by have TI:=SL;rw[gK] at TI;rw[KJ TI];have h_:=E4 (n:=((mn.toNat:Nat):Int)) aj;omega)<|ZI kD GS ko SL
     refine ca VV J (ec sM<|ec xw e0) fP ?_
     rintro _ yr ⟨rfl,dH⟩
     have df:=HI.Ad (M:=fun _=>False) (it:=tH (.int .i64 0) (0:Int)) dH kD
     have eP:HI M w yr ([J4,J3,J2,J1,J0]++aU w.heap.size 151 fQ (ys.set ((i:Int).toNat) (jM x0 x3))):=df
     refine z<|aG<|nx<|rg<|k<|add J J tZ J aR<|ai (v:=I ((i:Int)+1)) J J<|z<|bF _ ?_ ⟨(i+1),(ys.set ((i:Int).toNat) (jM x0 x3)),J,l5,l4,oT,oS,t',u1,(bG J),eP,aj,(by rw[am'];exact oe),(by exact aaF gK ko SL aj b2),(by rw[am'];exact As)⟩
     omega
   refine sk<|aG<|nx<|rg<|k<|add J J eu J aR<|ai (v:=I ((i:Int)+1)) J J<|z<|bF _ ?_ ⟨(i+1),ys,J,s4,s5,s6,s7,s8,s9,(bG J),H9,aj,(by exact oe),(by exact aeL gK ko aj b2),(by exact As)⟩
   omega
  have p1:=dF b1
  refine ex<|aV<|bc<|bg<|aG<|nx<|rg<|k<|add J J s8 J aR<|ai (v:=I ((q:Int)+1)) J J<|z<|bF _ ?_ ⟨(q+1),ys,J,s4,s5,s7,(bG J),H8,aj,(by exact oe),(by rw[gK];exact aaG _ aj),(by exact As)⟩
  omega
 have p0:=dF b0
 refine ex<|aV<|bc<|bg<|nx<|sq ?_
 have H8:HI M w w5 [own w.heap.size 144 (.slice a0 mn.toNat c0) xs,J4,J2,J1,J0]:=HI.deep (l:=[J4,J2,J1,J0]) (HI.aP (l:=[J4,J3,J2,J1,J0]) (l':=[J3,J4,J2,J1,J0]) (t:=aU w.heap.size 151 fQ xs) H7 [1,0,2,3,4] au J J) bo
 refine rg<|k<|cB H8 1 J bp J s1 au J<|k<|bw H8 2 J bp J J s0 J J J J ?_
 intro w6 (H9:HI M w w6 [own w.heap.size 144 (.slice a0 mn.toNat c0) xs,J4,box aY #[I mn,.slice a0 mn.toNat c0] 26,J1,J0])
 refine aq<|rt<|py H9 2 J bp J J s0 J au ?_
 have e1:(xs:List (List bt))=fj mn mr:=by exact TS hs aj aj
 have l1:mn.toNat=(fj mn mr).length:=by rw[←e1];omega
 have bu:=iK (fun (ve:Nat)=>(.agg #[I mn,.slice a0 ve c0]:Value)) l1
 exact⟨a0,c0,bu,H9.below,(am_ (fun (n_:Nat)=>bm _ _ _ (fj mn mr) (.slice a0 n_ c0) _) l1).mp ((am_ (fun (x_:List (List bt))=>bm _ _ _ x_ (.slice a0 mn.toNat c0) _) e1).mp (H9.dp 0 J))⟩
theorem yO (hM:eO M w) (ga:aJ mn) (gv:cD M w bD bC mr) (bZ:bK mn mr=true):Calls aI 62 #[.agg #[I mn,sL bD mr bC]] w (cp fun v w'=>v=.tuple #[I (((cP mn mr).getD 0:Nat):Int),.bool ((cP mn mr).isSome)]∧Ext w w'):=by
 refine dG 17 Tryz.func62 J J J hM fun f0 ha H=>?_
 have H0:=eG H gv
 have nz:=bj gv
 have i0:f0 0=.agg #[I mn,sL bD mr bC]:=ha 0 bl
 have ue:=(bQ bZ).1;have Jp:=(bQ bZ).2.2.1;have Dg:=kS bZ
 refine az<|k<|bx H0 J i0 ?_
 intro aZ w0 bY (H1:HI M w w0 [box aZ #[I mn,sL bD mr bC] 26,iL bD mr bC])
 refine ak (v:=I 0) J J<|ak (v:=.bool false) J J<|aq<|sq<|az<|aQ iD J J<|bq H1 0 J lb J J J<|k<|dD J J im<|ai (v:=I 0) J J<|aq<|bk<|lp (fun m f w'=>∃(j:Nat),m=mr.length-j∧f 1=pV aZ 0∧f 7=I (mr.length:Int)∧f 8=I (j:Int)∧HI M w w' [box aZ #[I mn,sL bD mr bC] 26,iL bD mr bC]∧(j≤mr.length)∧(∀k,k<j→eK mn mr ((k:Nat):Int) ((k:Nat):Int)=false)) _ ⟨0,J,J,J,(bG J),H1,aj,(by intro k_ h_;omega)⟩ ?_
 rintro _ f0 w1 ⟨j,rfl,s0,s1,s2,H2,hk,hs⟩
 refine az<|k<|lss J J s2 s1<|aq<|sq<|cd (b:=decide ((j:Int)<(mr.length:Int))) J J (fun b0=>?_)<|fun b0=>?_
 ·
  have p0:=dT b0
  refine sk<|nx<|sq<|bk<|az<|ai J s2<|ak (v:=I (j:Int)) J J<|bz<|k<|cB H2 0 J bp J s0 au J<|ai (v:=I (j:Int)) J J<|ai (v:=I (j:Int)) J J<|k ?_
  have bS:=uE (mn:=mn) (mr:=mr) (i:=(j:Int)) (j:=(j:Int)) H2.mb ga (H2.rv 1 J) aR aR (by exact(bQ bZ).1) (by exact(bQ bZ).2.1)<|by exact(bQ bZ).2.2.1
  refine ca FN J (ec J<|ec J<|ec J e0) bS ?_
  rintro _ w2 ⟨rfl,cT⟩
  have H3:=H2.ext cT
  refine z<|nx<|cd (b:=eK mn mr (j:Int) (j:Int)) J J (fun b1=>?_)<|fun b1=>?_
  ·
   refine az<|ai (v:=I (j:Int)) J J<|ak (v:=I (j:Int)) J J<|ak (v:=.bool true) J J<|aq<|rt<|bR<|aK<|dX<|bR<|aK<|r2 J J J ?_
   have e0:((j:Int):Int)=(((cP mn mr).getD 0:Nat):Int):=by rw[LK aj b1 hs];rfl
   have e1:(true:Bool)=(cP mn mr).isSome:=by rw[LK aj b1 hs];rfl
   have bu:=nL (fun (cg:Int) (dY:Bool)=>(.tuple #[I cg,.bool dY]:Value)) e0 e1
   exact⟨bu,H3.below⟩
  refine sk<|aG<|nx<|rg<|k<|add J J s2 J aR<|ai (v:=I ((j:Int)+1)) J J<|z<|bF _ ?_ ⟨(j+1),J,s0,s1,(bG J),H3,aj,(by exact Q2 (p:=fun k=>eK mn mr ((k:Nat):Int) ((k:Nat):Int)) hs b1)⟩
  omega
 have p0:=dF b0
 refine ex<|aV<|bc<|bg<|cO<|ak (v:=I 0) J J<|ak (v:=.bool false) J J<|aq<|rt<|r2 J J J ?_
 have e0:(0:Int)=(((cP mn mr).getD 0:Nat):Int):=by rw[I2 aj hs];rfl
 have e1:(false:Bool)=(cP mn mr).isSome:=by rw[I2 aj hs];rfl
 have bu:=nL (fun (cg:Int) (dY:Bool)=>(.tuple #[I cg,.bool dY]:Value)) e0 e1
 exact⟨bu,H2.below⟩
theorem FC (hM:eO M w) (ga:aJ mn) (gv:cD M w bD bC mr) (rb:aJ i) (Cd:aJ j) (bZ:bK mn mr=true):Calls aI 66 #[.agg #[I mn,sL bD mr bC],I i,I j] w (cp fun v w'=>∃(a0:OA) (c0:Nat),v=.tuple #[.agg #[I (ir mn i j),.slice a0 (ic mn mr i j).length c0],I (lI mn i j)]∧Ext w w'∧RV M w' (.slice a0 (ic mn mr i j).length c0) (ic mn mr i j)):=by
 refine dG 71 Tryz.func66 J J J hM fun f0 ha H=>?_
 let J0:=iL bD mr bC
 have H0:=H.put (it:=J0) J<|by rw[bP];exact gv
 have nz:=bj gv
 have i0:f0 0=.agg #[I mn,sL bD mr bC]:=ha 0 bl
 have i1:f0 1=I i:=ha 1 bl
 have i2:f0 2=I j:=ha 2 bl
 have ue:=(bQ bZ).1;have Jp:=(bQ bZ).2.2.1;have Dg:=kS bZ
 refine az<|k<|bx H0 J i0 ?_
 intro aZ w0 bY (H1:HI M w w0 [box aZ #[I mn,sL bD mr bC] 26,J0])
 let J1:=box aZ #[I mn,sL bD mr bC] 26
 refine k<|al H1 bp ?_
 intro aY w1 cT (H2:HI M w w1 [box aY #[I 0,.slice none 0 0] 26,J1,J0])
 let J2:=box aY #[I 0,.slice none 0 0] 26
 refine ak (v:=I 0) J J<|aq<|sq<|az<|ai J i1<|k<|lss J J J J<|ai (v:=.bool (decide (i<0))) J J ?_
 rcases bE (decide (i<0)) with b0|b0
 ·
  have p0:=dT b0
  refine aW J J J b0<|aW J J J b0<|aW J J J b0<|aW J J J b0<|k<|aP J J J J b0 J<|ai (v:=.bool true) J J<|aW J J J J<|aW J J J J<|k<|aP J J J J J J<|ai (v:=.bool true) J J<|aW J J J J<|aW J J J J<|aW J J J J<|aW J J J J<|k<|aP J J J J J J<|aq<|ot J J J<|az<|k<|bd (v:=.agg #[I 0,.slice none 0 0]) J ew (fun _=>aS)<|k<|bw H2 0 J bp J J J J J J J ?_
  intro w2 (H3:HI M w w2 [J2,J1,J0])
  refine ak (v:=I 1) J J<|aq<|rt<|aK<|iH H3 0 J bp J J J J J au ?_
  have e0:(0:Int)=ir mn i j:=by exact(oR (rs:=mr)<|kc.2 aj).1.symm
  have e1:([]:List (List bt))=ic mn mr i j:=by exact(Ht (rs:=mr)<|kc.2 aj).2.1.symm
  have e2:(1:Int)=lI mn i j:=by exact(oR (rs:=mr)<|kc.2 aj).2.2.symm
  have bu:=rk (fun (cg:Int) (dY:List (List bt)) (gV:Int)=>(.tuple #[.agg #[I cg,.slice none dY.length 0],I gV]:Value)) e0 e1 e2
  exact⟨none,0,bu,H3.below,(am_ (fun (x_:List (List bt))=>RV _ _ (.slice none x_.length 0) x_) e1).mp (eF _ _)⟩
 have p0:=dF b0
 refine bh J J J b0<|mv J i1<|bh J J J b0<|fa ku J J<|bh J J J b0<|lx H2 1 J aT J J J<|bh J J J b0<|geq J J J J<|k<|dA J J J J b0 J<|ai (v:=.bool (decide (mn≤i))) J J ?_
 rcases bE (decide (mn≤i)) with b1|b1
 ·
  have p1:=dT b1
  refine aW J J J b1<|aW J J J b1<|k<|aP J J J J b1 J<|ai (v:=.bool true) J J<|aW J J J J<|aW J J J J<|aW J J J J<|aW J J J J<|k<|aP J J J J J J<|aq<|ot J J J<|az<|k<|bd (v:=.agg #[I 0,.slice none 0 0]) J ew (fun _=>aS)<|k<|bw H2 0 J bp J J J J J J J ?_
  intro w2 (H3:HI M w w2 [J2,J1,J0])
  refine ak (v:=I 1) J J<|aq<|rt<|aK<|iH H3 0 J bp J J J J J au ?_
  have e0:(0:Int)=ir mn i j:=by exact(oR (rs:=mr)<|kc.2 aj).1.symm
  have e1:([]:List (List bt))=ic mn mr i j:=by exact(Ht (rs:=mr)<|kc.2 aj).2.1.symm
  have e2:(1:Int)=lI mn i j:=by exact(oR (rs:=mr)<|kc.2 aj).2.2.symm
  have bu:=rk (fun (cg:Int) (dY:List (List bt)) (gV:Int)=>(.tuple #[.agg #[I cg,.slice none dY.length 0],I gV]:Value)) e0 e1 e2
  exact⟨none,0,bu,H3.below,(am_ (fun (x_:List (List bt))=>RV _ _ (.slice none x_.length 0) x_) e1).mp (eF _ _)⟩
 have p1:=dF b1
 refine bh J J J b1<|mv J i2<|bh J J J b1<|lss J J J J<|k<|dA J J J J b1 J<|ai (v:=.bool (decide (j<0))) J J ?_
 rcases bE (decide (j<0)) with b2|b2
 ·
  have p2:=dT b2
  refine aW J J J b2<|aW J J J b2<|aW J J J b2<|aW J J J b2<|k<|aP J J J J b2 J<|aq<|ot J J J<|az<|k<|bd (v:=.agg #[I 0,.slice none 0 0]) J ew (fun _=>aS)<|k<|bw H2 0 J bp J J J J J J J ?_
  intro w2 (H3:HI M w w2 [J2,J1,J0])
  refine ak (v:=I 1) J J<|aq<|rt<|aK<|iH H3 0 J bp J J J J J au ?_
  have e0:(0:Int)=ir mn i j:=by exact(oR (rs:=mr)<|kc.2 aj).1.symm
  have e1:([]:List (List bt))=ic mn mr i j:=by exact(Ht (rs:=mr)<|kc.2 aj).2.1.symm
  have e2:(1:Int)=lI mn i j:=by exact(oR (rs:=mr)<|kc.2 aj).2.2.symm
  have bu:=rk (fun (cg:Int) (dY:List (List bt)) (gV:Int)=>(.tuple #[.agg #[I cg,.slice none dY.length 0],I gV]:Value)) e0 e1 e2
  exact⟨none,0,bu,H3.below,(am_ (fun (x_:List (List bt))=>RV _ _ (.slice none x_.length 0) x_) e1).mp (eF _ _)⟩
 have p2:=dF b2
 refine bh J J J b2<|mv J i2<|bh J J J b2<|fa ku J J<|bh J J J b2<|lx H2 1 J aT J J J<|bh J J J b2<|geq J J J J<|k<|dA J J J J b2 J<|z<|nx<|cd (b:=decide (mn≤j)) J J (fun b3=>?_)<|fun b3=>?_
 ·
  have p3:=dT b3
  refine az<|k<|bd (v:=.agg #[I 0,.slice none 0 0]) J ew (fun _=>aS)<|k<|bw H2 0 J bp J J J J J J J ?_
  intro w2 (H3:HI M w w2 [J2,J1,J0])
  refine ak (v:=I 1) J J<|aq<|rt<|aK<|iH H3 0 J bp J J J J J au ?_
  have e0:(0:Int)=ir mn i j:=by exact(oR (rs:=mr)<|kc.2 aj).1.symm
  have e1:([]:List (List bt))=ic mn mr i j:=by exact(Ht (rs:=mr)<|kc.2 aj).2.1.symm
  have e2:(1:Int)=lI mn i j:=by exact(oR (rs:=mr)<|kc.2 aj).2.2.symm
  have bu:=rk (fun (cg:Int) (dY:List (List bt)) (gV:Int)=>(.tuple #[.agg #[I cg,.slice none dY.length 0],I gV]:Value)) e0 e1 e2
  exact⟨none,0,bu,H3.below,(am_ (fun (x_:List (List bt))=>RV _ _ (.slice none x_.length 0) x_) e1).mp (eF _ _)⟩
 have p3:=dF b3
 refine sk<|nx<|sq<|sq ?_
 have hq:kC mn [i,j]=true:=jm.2 aj
 refine rg<|k<|cB H2 1 J bp J J au J<|ai J i1<|ai J i2<|k ?_
 have bS:=uE (mn:=mn) (mr:=mr) (i:=i) (j:=j) H2.mb ga (H2.rv 2 J) rb Cd (by exact(bQ bZ).1) (by exact(bQ bZ).2.1)<|by exact(bQ bZ).2.2.1
 refine ca FN J (ec J<|ec J<|ec J e0) bS ?_
 rintro _ w2 ⟨rfl,fk⟩
 have H3:=H2.ext fk
 refine z<|nx<|cd (b:=eK mn mr i j) J J (fun b4=>?_)<|fun b4=>?_
 ·
  refine az<|k<|cB H3 1 J bp J J au J<|k<|bw H3 0 J bp J J J J J J J ?_
  intro w3 (H4:HI M w w3 [box aY #[I mn,sL bD mr bC] 26,J1,J0])
  refine ak (v:=I 0) J J<|aq<|rt<|aK<|iH H4 0 J bp J J J J J au ?_
  have e0:(mn:Int)=ir mn i j:=by exact(qe (rs:=mr)<|jm.2 aj).1.symm
  have e1:(mr:List (List bt))=ic mn mr i j:=by exact(aau hq bo).symm
  have e2:(0:Int)=lI mn i j:=by exact(qe (rs:=mr)<|jm.2 aj).2.2.symm
  have bu:=rk (fun (cg:Int) (dY:List (List bt)) (gV:Int)=>(.tuple #[.agg #[I cg,.slice bD dY.length bC],I gV]:Value)) e0 e1 e2
  exact⟨bD,bC,bu,H4.below,(am_ (fun (x_:List (List bt))=>RV _ _ (.slice bD x_.length bC) x_) e1).mp (H4.gf 2 J)⟩
 refine sk<|cO<|aQ iD J J<|bq H3 1 J lb J J J<|ai J i2<|k<|ia (H3.rv 2 J) J J J J aj im dm ?_
 intro iE x0 aM cz
 refine k<|wm cz.w dm J J ?_
 intro a0 c0 cw
 have Aq:=bj cw
 let J3:=iL a0 x0 c0
 have H4:=H3.put (it:=J3) J cw
 refine ai J i2<|k ?_
 have cU:=uz (r:=x0) (i:=j) H4.mb (H4.rv 0 J) Cd<|by exact(bQ bZ).2.1 _ (dC aM)
 refine ca FK J (ec J<|ec J e0) cU ?_
 rintro _ w3 ⟨a1,c1,rfl,fN,d_⟩
 have H5:=H4.eT d_
 refine ak (v:=sL a1 (ej x0 j) c1) J J<|bz<|k<|cB H5 3 J bp J J au J<|k ?_
 have fP:=L0 (mn:=mn) (mr:=mr) H5.mb ga (H5.rv 4 J)<|by exact bZ
 refine ca adj J (ec J e0) fP ?_
 rintro _ w4 ⟨a2,c2,fQ,rfl,iP,dZ⟩
 have H6:=H5.Gs dZ
 let J4:=own w.heap.size 144 (.slice a2 mn.toNat c2) fQ
 let J5:=oL w 151 a1 (ej x0 j) c1
 have H7:HI M w w4 ([J4,J5,J3,J2,J1,J0]++aU w.heap.size 151 fQ mr):=H6
 have E_:=dZ.1
 refine k<|al H7 bp ?_
 intro bJ w5 jc (H8:HI M w w5 ([box bJ #[I 0,.slice none 0 0] 26,J4,J5,J3,J2,J1,J0]++aU w.heap.size 151 fQ mr))
 refine k<|bw H8 0 J bp J J J J J J J ?_
 let J6:=box bJ #[I mn,.slice a2 mn.toNat c2] 26
 intro w6 (H9:HI M w w6 ([J6,J4,J5,J3,J2,J1,J0]++aU w.heap.size 151 fQ mr))
 refine aq<|sq<|az<|aQ iD J J<|bq H9 0 J lb J J J<|k<|dD J J im<|ai (v:=I 0) J J<|aq<|bk<|lp (fun m f w'=>∃(k_:Nat) (xs:List (List bt)),m=mn.toNat-k_∧f 1=I i∧f 3=pV aZ 0∧f 6=pV aY 0∧f 8=sL a1 (ej x0 j) c1∧f 9=pV bJ 0∧f 46=I (mn.toNat:Int)∧f 47=I (k_:Int)∧HI M w w' ([J6,J4,J5,J3,J2,J1,J0]++aU w.heap.size 151 fQ xs)∧(k_≤mn.toNat)∧(fQ.length=xs.length)∧(xs=cH mn.toNat (AN (fZ mr) i.toNat j.toNat k_))∧(xs.length=mn.toNat)) _ ⟨0,mr,J,i1,J,J,J,J,J,(bG J),H9,aj,(by exact E_),(by exact WU bZ),aj⟩ ?_
 rintro _ f0 w7 ⟨k_,xs,rfl,s0,s1,s2,s3,s4,s5,s6,dO,hk,hl,hs,Ex⟩
 refine az<|k<|lss J J s6 s5<|aq<|sq<|cd (b:=decide ((k_:Int)<(mn.toNat:Int))) J J (fun b5=>?_)<|fun b5=>?_
 ·
  have p5:=dT b5
  refine sk<|nx<|sq<|bk<|az<|ai J s6<|ak (v:=I (k_:Int)) J J<|bz<|ai (v:=I (k_:Int)) J J<|ai J s0<|k<|eql J J J J<|ai (v:=.bool (decide ((k_:Int)=i))) J J ?_
  rcases bE (decide ((k_:Int)=i)) with b6|b6
  ·
   have p6:=dT b6
   refine aW J J J b6<|aW J J J b6<|aW J J J b6<|aW J J J b6<|aW J J J b6<|aW J J J b6<|aW J J J b6<|k<|aP J J J J b6 J<|aq<|ot J J J<|rg<|aQ iD J s4<|bq dO 0 J lb J J J<|ai (v:=I (k_:Int)) J J<|k ?_
   obtain⟨a3,x1,c3,kD,ko⟩:=ru (i:=(k_:Int).toNat) dO bo aj
   refine gW (dO.at_ 1 J) J J J J aj im dm ?_
   intro g0 x2 iC cQ gL
   obtain rfl:(⟨a3,x1.length,c3⟩:SV)=x2:=ana (kD.symm.trans cQ)
   refine k<|I5 gL dm J J<|ai J s3<|k ?_
   have eZ:=C3 dO (oV (l:=[J6,J4,J5,J3,J2,J1,J0]) kD ko) (j:=2) J (by rw[Uk bZ hs ko,kG,nY bZ aM];exact ane _) (by rw[kG];exact(bQ bZ).2.1 _ (dC aM))<|.inl (by simp only[iI,gj];omega)
   refine ca VV J (ec J<|ec J e0) eZ ?_
   rintro _ w8 ⟨rfl,du⟩
   have cV:=HI.Ad (M:=fun _=>False) (it:=tH (.int .i64 0) (0:Int)) du kD
   have dJ:HI M w w8 ([J6,J4,J5,J3,J2,J1,J0]++aU w.heap.size 151 fQ (xs.set ((k_:Int).toNat) (jM x1 (ej x0 j)))):=cV
   refine z<|aG<|nx<|rg<|k<|add J J s6 J aR<|ai (v:=I ((k_:Int)+1)) J J<|z<|bF _ ?_ ⟨(k_+1),(xs.set ((k_:Int).toNat) (jM x1<|ej x0 j)),J,s0,s1,s2,s3,s4,s5,(bG J),dJ,aj,(by rw[am'];exact hl),(by exact Uj bZ hq hs ko aM (.inl aj)),(by rw[am'];exact Ex)⟩
   omega
  have p6:=dF b6
  refine bh J J J b6<|fa iD J s1<|bh J J J b6<|lx dO 5 J lb J J J<|bh J J J b6<|mv (v:=I (k_:Int)) J J<|bh J J J b6<|ia (dO.rv 6 J) J J J J aj im dm ?_
  intro rK x1 cQ gL
  refine bh J J J b6<|wm gL.w dm J J ?_
  intro a3 c3 fy
  have ln1:=bj fy
  have cV:=eG dO fy
  have du:HI M w w7 ([iL a3 x1 c3,J6,J4,J5,J3,J2,J1,J0]++aU w.heap.size 151 fQ xs):=cV
  refine bh J J J b6<|mv J s0<|bh J J J b6 ?_
  have eZ:=Ac (r:=x1) (i:=i) du.mb (du.rv 0 J) rb
  refine ca Mp J (ec J<|ec J e0) eZ ?_
  rintro _ w8 ⟨rfl,jK⟩
  have dJ:=du.ext jK
  refine k<|dA J J J J b6 J<|z<|nx<|cd (b:=fq x1 i) J J (fun b7=>?_)<|fun b7=>?_
  ·
   refine rg<|aQ iD J s4<|bq dJ 1 J lb J J J<|ai (v:=I (k_:Int)) J J<|k ?_
   obtain⟨a4,x2,c4,kD,ko⟩:=ru (i:=(k_:Int).toNat) dJ bo aj
   refine gW (dJ.at_ 2 J) J J J J aj im dm ?_
   intro g0 x3 iC jf kV
   obtain rfl:(⟨a4,x2.length,c4⟩:SV)=x3:=ana (kD.symm.trans jf)
   refine k<|I5 kV dm J J<|ai J s3<|k ?_
   have mx:=C3 dJ (oV (l:=[iL a3 x1 c3,J6,J4,J5,J3,J2,J1,J0]) kD ko) (j:=3) J (by rw[Uk bZ hs ko,kG,nY bZ aM];exact ane _) (by rw[kG];exact(bQ bZ).2.1 _ (dC aM))<|.inl (by simp only[iI,gj];omega)
   refine ca VV J (ec J<|ec J e0) mx ?_
   rintro _ w9 ⟨rfl,dU⟩
   have cM:=HI.Ad (M:=fun _=>False) (it:=tH (.int .i64 0) (0:Int)) dU kD
   have dt:HI M w w9 ([iL a3 x1 c3,J6,J4,J5,J3,J2,J1,J0]++aU w.heap.size 151 fQ (xs.set ((k_:Int).toNat) (jM x2 (ej x0 j)))):=cM
   refine z<|aG<|nx<|rg<|k<|add J J s6 J aR<|ai (v:=I ((k_:Int)+1)) J J<|z ?_
   have cR:HI M w w9 ([J6,J4,J5,J3,J2,J1,J0]++aU w.heap.size 151 fQ (xs.set ((k_:Int).toNat) (jM x2 (ej x0 j)))):=HI.aP (l:=[iL a3 x1 c3,J6,J4,J5,J3,J2,J1,J0]) (l':=[J6,J4,J5,J3,J2,J1,J0]) (t:=aU w.heap.size 151 fQ (xs.set ((k_:Int).toNat) (jM x2<|ej x0 j))) dt [1,2,3,4,5,6,7] au J J
   refine bF _ ?_ ⟨(k_+1),(xs.set ((k_:Int).toNat) (jM x2<|ej x0 j)),J,s0,s1,s2,s3,s4,s5,(bG J),cR,aj,(by rw[am'];exact hl),(by exact Uj bZ hq hs ko aM (.inr ⟨_,cQ,by assumption⟩)),(by rw[am'];exact Ex)⟩
   omega
  refine sk<|aG<|nx<|rg<|k<|add J J s6 J aR<|ai (v:=I ((k_:Int)+1)) J J<|z ?_
  have cM:HI M w w8 ([J6,J4,J5,J3,J2,J1,J0]++aU w.heap.size 151 fQ xs):=HI.aP (l:=[iL a3 x1 c3,J6,J4,J5,J3,J2,J1,J0]) (l':=[J6,J4,J5,J3,J2,J1,J0]) (t:=aU w.heap.size 151 fQ xs) dJ [1,2,3,4,5,6,7] au J J
  refine bF _ ?_ ⟨(k_+1),xs,J,s0,s1,s2,s3,s4,s5,(bG J),cM,aj,(by exact hl),(by exact agc bZ hq hs aj cQ bo),(by exact Ex)⟩
  omega
 have p5:=dF b5
 refine ex<|aV<|bc<|bg<|nx<|sq ?_
 have cV:HI M w w7 [own w.heap.size 144 (.slice a2 mn.toNat c2) xs,J6,J5,J3,J2,J1,J0]:=HI.deep (l:=[J6,J5,J3,J2,J1,J0]) (HI.aP (l:=[J6,J4,J5,J3,J2,J1,J0]) (l':=[J4,J6,J5,J3,J2,J1,J0]) (t:=aU w.heap.size 151 fQ xs) dO [1,0,2,3,4,5,6] au J J) bo
 refine rg<|k<|cB cV 1 J bp J s4 au J<|k<|bw cV 4 J bp J J s2 J J J J ?_
 intro w8 (du:HI M w w8 [own w.heap.size 144 (.slice a2 mn.toNat c2) xs,J6,J5,J3,box aY #[I mn,.slice a2 mn.toNat c2] 26,J1,J0])
 refine ak (v:=I 0) J J<|aq<|rt<|iH du 4 J bp J J J s2 J au ?_
 have e0:(mn:Int)=ir mn i j:=by exact(qe (rs:=mr)<|jm.2 aj).1.symm
 have e1:(xs:List (List bt))=ic mn mr i j:=by exact ael bZ hq bo hs aj
 have l1:mn.toNat=(ic mn mr i j).length:=by rw[←e1];omega
 have e2:(0:Int)=lI mn i j:=by exact(qe (rs:=mr)<|jm.2 aj).2.2.symm
 have bu:=rk (fun (cg:Int) (ve:Nat) (gV:Int)=>(.tuple #[.agg #[I cg,.slice a2 ve c2],I gV]:Value)) e0 l1 e2
 exact⟨a2,c2,bu,du.below,(am_ (fun (n_:Nat)=>RV _ _ (.slice a2 n_ c2)<|ic mn mr i j) l1).mp ((am_ (fun (x_:List (List bt))=>RV _ _ (.slice a2 mn.toNat c2) x_) e1).mp (du.mB 0 J))⟩
theorem VX:cA aI 87:=cI Tryz.func87
theorem On (hM:eO M w) (hT:fU 0 w) (ga:aJ mn) (gv:cD M w bD bC mr) (ui:aJ o) (bZ:bK mn mr=true):Calls aI 100 #[.agg #[I mn,sL bD mr bC],I o] w (cp fun v w'=>∃(a0:OA) (c0:Nat),v=.slice a0 (eY mn mr o).length c0∧Ext w w'∧bm M 3 w (eY mn mr o) (.slice a0 (eY mn mr o).length c0) w'):=by
 refine dG 20 Tryz.func100 J J J hM fun f0 ha H=>?_
 have H0:=eG H gv
 have nz:=bj gv
 have i0:f0 0=.agg #[I mn,sL bD mr bC]:=ha 0 bl
 have i1:f0 1=I o:=ha 1 bl
 have ue:=(bQ bZ).1;have Jp:=(bQ bZ).2.2.1;have Dg:=kS bZ
 refine az<|k<|bx H0 J i0 ?_
 intro aZ w0 bY (H1:HI M w w0 [box aZ #[I mn,sL bD mr bC] 26,iL bD mr bC])
 refine ak (v:=.slice none 0 0) J J<|aq<|sq<|az<|ai J i1<|k<|lss J J J J<|ai (v:=.bool (decide (o<0))) J J ?_
 rcases bE (decide (o<0)) with b0|b0
 ·
  have p0:=dT b0
  refine aW J J J b0<|aW J J J b0<|aW J J J b0<|aW J J J b0<|k<|aP J J J J b0 J<|aq<|ot J J J<|az<|ak (v:=.slice none 0 0) J J<|aq<|rt<|aK<|r1 J J ?_
  have e0:([]:aA)=eY mn mr o:=by exact(Lp aj).symm
  have bu:=iK (fun (cg:aA)=>(.slice none cg.length 0:Value)) e0
  exact⟨none,0,bu,H1.below,(am_ (fun (x_:aA)=>bm _ _ _ x_ (.slice none x_.length 0) _) e0).mp (fR H1.below)⟩
 have p0:=dF b0
 refine bh J J J b0<|mv J i1<|bh J J J b0<|fa ku J J<|bh J J J b0<|lx H1 0 J aT J J J<|bh J J J b0<|geq J J J J<|k<|dA J J J J b0 J<|z<|nx<|cd (b:=decide (mn≤o)) J J (fun b1=>?_)<|fun b1=>?_
 ·
  have p1:=dT b1
  refine az<|ak (v:=.slice none 0 0) J J<|aq<|rt<|aK<|r1 J J ?_
  have e0:([]:aA)=eY mn mr o:=by exact(Lp aj).symm
  have bu:=iK (fun (cg:aA)=>(.slice none cg.length 0:Value)) e0
  exact⟨none,0,bu,H1.below,(am_ (fun (x_:aA)=>bm _ _ _ x_ (.slice none x_.length 0) _) e0).mp (fR H1.below)⟩
 have p1:=dF b1
 refine sk<|nx<|sq ?_
 have hq:0≤o∧o<mn:=by omega
 have gh:=Co mn mr
 refine rg<|k<|cB H1 0 J bp J J au J<|k ?_
 have bS:=Fy (mn:=mn) (mr:=mr) H1.mb (hT.ext H1.below) ga (H1.rv 1 J)<|by exact bZ
 refine ca VX J (ec J e0) bS ?_
 rintro _ w1 ⟨a0,c0,rfl,cT,cw⟩
 have H2:=H1.eT cw
 refine k<|fd (v:=sL a0 (gH mn mr) c0) J J (fun _=>aS)<|ai J i1<|k<|gW (H2.at_ 0 J) J J J J aj im dm ?_
 intro g0 x0 iC aM cz
 refine k<|wm cz dm J J ?_
 intro a1 c1 d_
 have H3:=eG H2 d_
 refine k ?_
 have cU:=uA (r:=x0) H3.mb (hT.ext H3.below) (H3.rv 0 J)<|by have h_:=xl bZ aM;omega
 refine ca Ib J (ec J e0) cU ?_
 rintro _ w2 ⟨a2,c2,rfl,fk,dZ⟩
 have H4:=H3.eT dZ
 refine ak (v:=sL a2 (cX x0) c2) J J<|aq<|rt<|r1 J J ?_
 have e0:(cX x0:aA)=eY mn mr o:=by exact R6 bZ hq aM
 have bu:=iK (fun (cg:aA)=>(.slice a2 cg.length c2:Value)) e0
 exact⟨a2,c2,bu,H4.below,(am_ (fun (x_:aA)=>bm _ _ _ x_ (.slice a2 x_.length c2) _) e0).mp (H4.dp 0 J)⟩
theorem u6 (hM:eO M w) (hT:fU 0 w) (ga:aJ mn) (gv:cD M w bD bC mr) (ui:aJ o) (bZ:bK mn mr=true):Calls aI 82 #[.agg #[I mn,sL bD mr bC],I o] w (cp fun v w'=>∃(a0:OA) (c0:Nat),v=.slice a0 (bO mn mr o).length c0∧Ext w w'∧bm M 3 w (bO mn mr o) (.slice a0 (bO mn mr o).length c0) w'):=by
 refine dG 22 Tryz.func82 J J J hM fun f0 ha H=>?_
 have H0:=eG H gv
 have nz:=bj gv
 have i0:f0 0=.agg #[I mn,sL bD mr bC]:=ha 0 bl
 have i1:f0 1=I o:=ha 1 bl
 have ue:=(bQ bZ).1;have Jp:=(bQ bZ).2.2.1;have Dg:=kS bZ
 refine az<|k<|bx H0 J i0 ?_
 intro aZ w0 bY (H1:HI M w w0 [box aZ #[I mn,sL bD mr bC] 26,iL bD mr bC])
 refine ak (v:=.slice none 0 0) J J<|aq<|sq<|az<|ai J i1<|k<|lss J J J J<|ai (v:=.bool (decide (o<0))) J J ?_
 rcases bE (decide (o<0)) with b0|b0
 ·
  have p0:=dT b0
  refine aW J J J b0<|aW J J J b0<|aW J J J b0<|aW J J J b0<|k<|aP J J J J b0 J<|aq<|ot J J J<|az<|ak (v:=.slice none 0 0) J J<|aq<|rt<|aK<|r1 J J ?_
  have e0:([]:aA)=bO mn mr o:=by exact(KH aj).symm
  have bu:=iK (fun (cg:aA)=>(.slice none cg.length 0:Value)) e0
  exact⟨none,0,bu,H1.below,(am_ (fun (x_:aA)=>bm _ _ _ x_ (.slice none x_.length 0) _) e0).mp (fR H1.below)⟩
 have p0:=dF b0
 refine bh J J J b0<|mv J i1<|bh J J J b0<|fa ku J J<|bh J J J b0<|lx H1 0 J aT J J J<|bh J J J b0<|geq J J J J<|k<|dA J J J J b0 J<|z<|nx<|cd (b:=decide (mn≤o)) J J (fun b1=>?_)<|fun b1=>?_
 ·
  have p1:=dT b1
  refine az<|ak (v:=.slice none 0 0) J J<|aq<|rt<|aK<|r1 J J ?_
  have e0:([]:aA)=bO mn mr o:=by exact(KH aj).symm
  have bu:=iK (fun (cg:aA)=>(.slice none cg.length 0:Value)) e0
  exact⟨none,0,bu,H1.below,(am_ (fun (x_:aA)=>bm _ _ _ x_ (.slice none x_.length 0) _) e0).mp (fR H1.below)⟩
 have p1:=dF b1
 refine sk<|nx<|sq ?_
 have hq:0≤o∧o<mn:=by omega
 have gh:=Co mn mr
 refine rg<|k<|cB H1 0 J bp J J au J<|k ?_
 have bS:=Fy (mn:=mn) (mr:=mr) H1.mb (hT.ext H1.below) ga (H1.rv 1 J)<|by exact bZ
 refine ca VX J (ec J e0) bS ?_
 rintro _ w1 ⟨a0,c0,rfl,cT,cw⟩
 have H2:=H1.eT cw
 refine k<|fd (v:=sL a0 (gH mn mr) c0) J J (fun _=>aS)<|ai J i1<|k<|gW (H2.at_ 0 J) J J J J aj im dm ?_
 intro g0 x0 iC aM cz
 refine k<|wm cz dm J J ?_
 intro a1 c1 d_
 have H3:=eG H2 d_
 refine ai J i1<|k ?_
 have cU:=uz (r:=x0) (i:=o) H3.mb (H3.rv 0 J) ui<|by have h_:=xl bZ aM;omega
 refine ca FK J (ec J<|ec J e0) cU ?_
 rintro _ w2 ⟨a2,c2,rfl,fk,dZ⟩
 have H4:=H3.eT dZ
 refine k ?_
 have H5:=H4.freeze 0 J
 have fP:=uA (r:=(ej x0 o)) H5.mb (hT.ext H5.below) (H5.rv 0 J)<|by rw[kG];have h_:=xl bZ aM;omega
 refine ca Ib J (ec J e0) fP ?_
 rintro _ w3 ⟨a3,c3,rfl,fN,fy⟩
 have H6:=H5.eT fy
 refine ak (v:=sL a3 (cX<|ej x0 o) c3) J J<|aq<|rt<|r1 J J ?_
 have e0:(cX (ej x0 o):aA)=bO mn mr o:=by exact Rh bZ hq aM
 have bu:=iK (fun (cg:aA)=>(.slice a3 cg.length c3:Value)) e0
 exact⟨a3,c3,bu,H6.below,(am_ (fun (x_:aA)=>bm _ _ _ x_ (.slice a3 x_.length c3) _) e0).mp (H6.dp 0 J)⟩
theorem fG:gR aI 47 1 1:=jU Tryz.underlying47
theorem jh:ef aI 45 1 false 24 (.slice none 0 0):=⟨aS,aS⟩
theorem jA:aI.underlying 45=some (.slice 95):=aS
theorem jE:ef aI 95 5 true 40 (.agg #[.int .i64 0,.int .i64 0,.bool false,.int .i64 0,.int .i64 0]):=⟨aS,aS⟩
theorem vA:gR aI 95 2 2:=jU Tryz.underlying95
theorem oP:ef aI 4 1 false 1 (.bool false):=⟨aS,aS⟩
theorem tO:gR aI 95 3 3:=jU Tryz.underlying95
theorem pj (AF:FPH aI qD qH M w (fun rC=>own w.heap.size 3 (sL dW xs dS) rC) r xs p) (H:HI M w w_ ([oL w 3 dW xs dS]++r)):Calls aI 107 #[sL dW xs dS,.func (.func qD) #[] qH.toArray] w_ (cp fun v w'=>v=.slice dW (aX p xs).length dS∧HI M w w' ([oL w 3 dW (aX p xs) dS]++r)):=by
 refine enter 42 Tryz.func107 J J J fun f0 ha=>?_
 have GC:=kj<|H.at_ 0 J
 have i0:f0 0=sL dW xs dS:=ha 0 bl
 have i1:f0 1=.func (.func qD) #[] qH.toArray:=ha 1 bl
 refine az<|ak (v:=.slice none 0 0) J J<|bz<|ai J i0<|ai J i1<|k ?_
 have H0:=H.freeze 0 J
 have bS:=vX (r:=xs) (p:=p) H0.mb (H0.rv 0 J)<|AF.fp H
 refine ca VW J (ec J<|ec J e0) bS ?_
 rintro _ w0 ⟨rfl,bY⟩
 have H2:=H.ext bY
 refine ak (v:=I (eM p xs)) J J<|aq<|sq<|az<|ai (v:=I (eM p xs)) J J<|k<|eql J J J J<|z<|nx<|cd (b:=decide ((eM p xs)=(-1))) J J (fun b0=>?_)<|fun b0=>?_
 ·
  have p0:=dT b0
  refine az<|ai J i0<|ak (v:=sL dW xs dS) J J<|aq<|rt<|aK<|r1 J J ?_
  have e0:(xs:List _)=(aX p xs):=by exact Z_ bo
  try rw[←e0]
  refine⟨?_,?_⟩
  · first|rfl|simp only[e0]|(simp only[am'])
  · first|exact H2|simpa +zetaDelta only[e0,am'] using H2
 have p0:=dF b0
 refine sk<|nx<|sq<|sq ?_
 obtain⟨ais,air,Qv⟩:=Wj (p:=p) (xs:=xs) bo
 refine rg<|ai (v:=I (eM p xs)) J J<|k<|add J J J J aR<|ak (v:=I ((eM p xs)+1)) J J<|aq<|bk<|lp (fun m f w'=>∃(q:Int) (k_:Nat) (ys:aA),m=xs.length-k_∧f 0=sL dW xs dS∧f 1=.func (.func qD) #[] qH.toArray∧f 5=I q∧f 6=I (k_:Int)∧HI M w w' ([own w.heap.size 3 (.slice dW xs.length dS) ys]++r)∧(0≤q∧q<(k_:Int)∧k_≤xs.length)∧(DF p xs ys q k_)) _ ⟨(eM p xs),((eM p xs).toNat+1),xs,J,i0,i1,(bG J),(bG J),H2,aj,(by exact Qv)⟩ ?_
 rintro _ f0 w1 ⟨q,k_,ys,rfl,s0,s1,s2,s3,H3,sU,hs⟩
 refine sq<|az<|ai J s3<|ai J s0<|k<|dD J J cG<|k<|lss J J J J<|z<|nx<|cd (b:=decide ((k_:Int)<(xs.length:Int))) J J (fun b1=>?_)<|fun b1=>?_
 ·
  have p1:=dT b1
  refine sk<|nx<|sq<|bk<|az<|ai J s0<|ai J s3<|k<|gW (H3.at_ 0 J) J J J J (by have h_:=hs.1;first|omega|(simp only[fF,iB,oG,gj];omega)) cG aT ?_
  intro g0 x0 iC aM cz
  refine k<|mw cz aT J J ?_
  intro cw
  refine ak (v:=I x0) J J<|aq<|sq ?_
  have ue:=hs.1
  refine rg<|ai J s1<|ai (v:=I x0) J J<|k<|cf AF.1 J J J (ec J e0) (AF.2 _ _ H3 _ (by exact dC (by exact QX hs aM)) cw) ?_
  rintro _ w2 ⟨rfl,cT⟩
  have H4:=H3.ext cT
  have H5:HI M w w2 ([own w.heap.size 3 (.slice dW xs.length dS) ys]++r):=H4
  refine k<|jY J J<|z<|nx<|cd (b:=!(p x0)) J J (fun b2=>?_)<|fun b2=>?_
  ·
   refine az<|ai J s0<|ai J s2<|ai (v:=I x0) J J<|k<|gW (H5.at_ 0 J) J J J J (by have h_:=hs.1;first|omega|(simp only[fF,iB,oG,gj];omega)) cG aT ?_
   intro g1 x1 kn cQ gL
   refine k<|oQ H5 0 J kn J (by have h_:=hs.1;first|omega|(simp only[fF,iB,oG,gj];omega)) aT J J J J (RV.int.2 ⟨J,bo⟩) ?_
   intro w3 (H6:HI M w w3 ([own w.heap.size 3 (.slice dW xs.length dS) (ys.set q.toNat x0)]++r))
   refine aq<|rg<|ai J s2<|k<|add J J J J aR<|ak (v:=I (q+1)) J J<|z<|aG<|nx<|rg<|ai J s3<|k<|add J J J J aR<|ak (v:=I ((k_:Int)+1)) J J<|z<|bF _ ?_ ⟨(q+1),(k_+1),(ys.set q.toNat x0),J,s0,s1,(bG J),(bG J),H6,aj,(by exact Z' hs aM (by simpa using b2) aj aj)⟩
   omega
  refine sk<|aG<|nx<|rg<|ai J s3<|k<|add J J J J aR<|ak (v:=I ((k_:Int)+1)) J J<|z<|bF _ ?_ ⟨q,(k_+1),ys,J,s0,s1,(bG s2),(bG J),H5,aj,(by exact aaa hs aM (by simpa using b2))⟩
  omega
 have p1:=dF b1
 refine ex<|aV<|bc<|bg<|cO<|ai J s0<|ai J s2<|k<|aaV (H3.at_ 0 J) J J J J (by have h_:=hs.1;first|omega|(simp only[fF,iB,oG,gj];omega)) cG aT<|k<|clO H3 0 J J J (q:=q.toNat) J cG aT (by have h_:=hs.1;omega) ?_
 intro w2 (H4:HI M w w2 ([own w.heap.size 3 (.slice dW xs.length dS) (ys.take q.toNat++(List.replicate (ys.length-q.toNat) (0:Int)++[]))]++r))
 refine bz<|ai J s0<|ai J s2<|k<|aeZ H4 0 J J J J J (by have h_:=hs.1;first|omega|(simp only[fF,iB,oG,gj];omega)) cG aT ?_
 intro (H5:HI M w w2 ([oL w 3 dW ((ys.take q.toNat++(List.replicate (ys.length-q.toNat) (0:Int)++[])).take q.toNat) dS]++r))
 refine ak (v:=sL dW ((ys.take q.toNat++(List.replicate (ys.length-q.toNat) (0:Int)++[])).take q.toNat) dS) J J<|aq<|rt<|r1 J J ?_
 have e0:((ys.take q.toNat++(List.replicate (ys.length-q.toNat) (0:Int)++[])).take q.toNat:List _)=(aX p xs):=by exact adM hs aj aj (by have h_:=hs.1;omega) _
 try rw[←e0]
 refine⟨?_,?_⟩
 · first|rfl|simp only[e0]|(simp only[am'])
 · first|exact H5|simpa +zetaDelta only[e0,am'] using H5
theorem Jy (hM:eO M w) (xS:cD M w my mT l) (XS:l.length≤1000000000):Calls aI 133 #[sL my l mT] w (cp fun v w'=>∃(a0:OA) (c0:Nat),v=sL a0 l c0∧Ext w w'∧bm M 3 w l (sL a0 l c0) w'):=by
 refine dG 8 Tryz.func133 J J J hM fun f0 ha H=>?_
 have H0:=eG H xS
 have i0:f0 0=sL my l mT:=ha 0 bl
 refine az<|ak (v:=.slice none 0 0) J J<|aq<|sq<|az<|ai J i0<|k<|TB J J J J cG<|z<|nx<|cd (b:=my.isNone) J J (fun b0=>?_)<|fun b0=>?_
 ·
  refine az<|ak (v:=.slice none 0 0) J J<|aq<|rt<|aK<|r1 J J ?_
  have e0:([]:aA)=l:=by exact(HO xS b0).symm
  have bu:=iK (fun (cg:aA)=>(.slice none cg.length 0:Value)) e0
  exact⟨none,0,bu,H0.below,(am_ (fun (x_:aA)=>bm _ _ _ x_ (.slice none x_.length 0) _) e0).mp (fR H0.below)⟩
 refine sk<|cO<|k<|bs (xs:=([]:aA)) (cells:=#[]) (e:=3) H0 J ew (fun _=>aS) J J au ?_
 intro g0 w0 bY H1
 refine ai J i0<|k<|lY H1 0 J J J J J J (H1.rv 1 J).src cG aT J (by simp;omega) J ?_
 intro a0 c0 w1 (H2:HI M w w1 [oL w 3 a0 l c0,iL my l mT])
 refine ak (v:=sL a0 l c0) J J<|aq<|rt<|r1 J J ?_
 exact⟨a0,c0,J,H2.below,(H2.dp 0 J)⟩
theorem Lo (hM:eO M w) (rb:aJ i) (dL:cD M w aw av U) (acZ:aJ vr) (De:w.heap[yh]? =some (.cells #[.slice aC aE aB,sL aw U av,.slice ay fe ax] HJ (0,0))∧¬M yh) (h_c:w.heap[bN]? =some (.cells #[I vr] KM (0,0))∧¬M bN):Calls aI 136 #[I i,.pointer (some ⟨yh,0,none⟩),.pointer (some ⟨bN,0,none⟩)] w (cp fun v w'=>v=.bool (iQ U vr i)∧Ext w w'):=by
 refine dG 33 Tryz.func136 J J J hM fun f0 ha H=>?_
 have H0:=eG H dL
 have ja:=bj dL
 have i0:f0 0=I i:=ha 0 bl
 have H1:=H0.put (it:=ro yh #[.slice aC aE aB,sL aw U av,.slice ay fe ax] HJ) J<|by rw[aD rfl,bP];exact De
 have i1:f0 1=pV yh 0:=ha 1 bl
 have H2:=H1.put (it:=ro bN #[I vr] KM) J<|by rw[aD rfl,aD rfl,bP];exact h_c
 have i2:f0 2=pV bN 0:=ha 2 bl
 refine az<|ak (v:=.bool false) J J<|aq<|sq<|zb J aS<|kq (fun _ _=>mv J i0 e1)<|kq (fun _ _=>lss J J J J e1)<|kq (fun _ _=>mv (v:=.bool (decide (i<0))) J J e1) ?_
 rcases bE (decide (i<0)) with b0|b0
 ·
  have p0:=dT b0
  refine qn J J J b0<|qn J J J b0<|qn J J J b0<|qn J J J b0<|qn J J J b0<|kq (fun _ _=>aP J J J J b0 J e1)<|kq (fun _ _=>mv (v:=.bool true) J J e1)<|qn J J J J<|qn J J J J<|qn J J J J<|qn J J J J<|qn J J J J<|qn J J J J<|qn J J J J<|kq (fun _ _=>aP J J J J J J e1)<|kq (fun _ _=>mv (v:=.bool true) J J e1)<|qn J J J J<|qn J J J J<|qn J J J J<|qn J J J J<|qn J J J J<|qn J J J J<|qn J J J J<|qn J J J J<|kq (fun _ _=>aP J J J J J J e1)<|kq (fun _ _=>jO (v:=.bool true) J J e1)<|zq ?_
  intro w0 bY
  have H3:=H2.ext bY
  refine nx<|rt<|r1 J J ?_
  exact⟨am_ Value.bool (by exact(YU bo).symm),H3.below⟩
 have p0:=dF b0
 refine qy J J J b0<|kq (fun _ _=>mv J i0 e1)<|qy J J J b0<|kq (fun _ _=>fa fG J i1 e1)<|qy J J J b0<|kq (fun _ x_=>lr (H2.ext x_) 1 J jh J J J e1)<|qy J J J b0<|kq (fun _ _=>dD J J jA e1)<|qy J J J b0<|kq (fun _ _=>geq J J J J e1)<|kq (fun _ _=>dA J J J J b0 J e1)<|kq (fun _ _=>mv (v:=.bool (decide ((U.length:Int)≤i))) J J e1) ?_
 rcases bE (decide ((U.length:Int)≤i)) with b1|b1
 ·
  have p1:=dT b1
  refine qn J J J b1<|qn J J J b1<|qn J J J b1<|qn J J J b1<|qn J J J b1<|qn J J J b1<|qn J J J b1<|kq (fun _ _=>aP J J J J b1 J e1)<|kq (fun _ _=>mv (v:=.bool true) J J e1)<|qn J J J J<|qn J J J J<|qn J J J J<|qn J J J J<|qn J J J J<|qn J J J J<|qn J J J J<|qn J J J J<|kq (fun _ _=>aP J J J J J J e1)<|kq (fun _ _=>jO (v:=.bool true) J J e1)<|zq ?_
  intro w0 bY
  have H3:=H2.ext bY
  refine nx<|rt<|r1 J J ?_
  exact⟨am_ Value.bool (by exact(YT bo).symm),H3.below⟩
 have p1:=dF b1
 refine qy J J J b1<|kq (fun _ _=>fa fG J i1 e1)<|qy J J J b1<|kq (fun _ x_=>lr (H2.ext x_) 1 J jh J J J e1)<|qy J J J b1<|kq (fun _ _=>mv J i0 e1)<|qy J J J b1<|rQ (H2.rv 2 J) J J J J aj jA jE ?_
 intro iE x0 aM cz
 refine qy J J J b1<|kq (fun _ _=>fa vA J J e1)<|qy J J J b1<|ae5 ((cz).s2).fst.w oP J J<|qy J J J b1<|kq (fun _ _=>jY J J e1)<|kq (fun _ _=>dA J J J J b1 J e1)<|kq (fun _ _=>mv (v:=.bool (!x0.2.2.1)) J J e1) ?_
 rcases bE (!x0.2.2.1) with b2|b2
 ·
  refine qn J J J b2<|qn J J J b2<|qn J J J b2<|qn J J J b2<|qn J J J b2<|qn J J J b2<|qn J J J b2<|qn J J J b2<|kq (fun _ _=>aP J J J J b2 J e1)<|kq (fun _ _=>jO (v:=.bool true) J J e1)<|zq ?_
  intro w0 bY
  have H3:=H2.ext bY
  refine nx<|rt<|r1 J J ?_
  exact⟨am_ Value.bool (by rw[KF bo aM];simp_all),H3.below⟩
 refine qy J J J b2<|kq (fun _ _=>fa fG J i1 e1)<|qy J J J b2<|kq (fun _ x_=>lr (H2.ext x_) 1 J jh J J J e1)<|qy J J J b2<|kq (fun _ _=>mv J i0 e1)<|qy J J J b2<|rQ (H2.rv 2 J) J J J J aj jA jE ?_
 intro rK x_ pe gL
 obtain rfl:x0=x_:=ana (aM.symm.trans pe)
 refine qy J J J b2<|kq (fun _ _=>fa tO J J e1)<|qy J J J b2<|ob ((gL).s3).fst.w aT J J ?_
 intro cw
 refine qy J J J b2<|kq (fun _ x_=>lr (H2.ext x_) 0 J aT J i2 J e1)<|qy J J J b2<|kq (fun _ _=>neq J J J J e1)<|kq (fun _ _=>dA J J J J b2 J e1)<|kq (fun _ _=>jO (v:=.bool (!decide (x0.2.2.2.1=vr))) J J e1)<|zq ?_
 intro w0 bY
 have H3:=H2.ext bY
 refine nx<|rt<|r1 J J ?_
 exact⟨am_ Value.bool (by rw[KF bo aM];simp_all),H3.below⟩
theorem P5 (hM:eO M w) (rb:aJ i) (dL:cD M w aw av U) (De:w.heap[yh]? =some (.cells #[.slice aC aE aB,sL aw U av,.slice ay fe ax] HJ (0,0))∧¬M yh) (Ji:0≤i∧i<((U.length:Nat):Int)):Calls aI 109 #[I i,.pointer (some ⟨yh,0,none⟩)] w (cp fun v w'=>v=.bool (fX U i)∧Ext w w'):=by
 refine dG 10 Tryz.func109 J J J hM fun f0 ha H=>?_
 have H0:=eG H dL
 have i0:f0 0=I i:=ha 0 bl
 have H1:=H0.put (it:=ro yh #[.slice aC aE aB,sL aw U av,.slice ay fe ax] HJ) J<|by rw[aD rfl,bP];exact De
 have i1:f0 1=pV yh 0:=ha 1 bl
 refine az<|ak (v:=.bool false) J J<|bz<|aQ fG J i1<|k<|lr H1 0 J jh J J J<|ai J i0<|k<|ia (H1.rv 1 J) J J J J aj jA jE ?_
 intro iE x0 aM cz
 refine aQ vA J J<|k<|ldB ((cz).s2).fst.w oP J J<|ak (v:=.bool x0.2.2.1) J J<|aq<|rt<|r1 J J ?_
 exact⟨am_ Value.bool (by exact(aaD aM).symm),H1.below⟩
theorem Yi:cA aI 133:=cI Tryz.func133
theorem afH:cA aI 136:=cI Tryz.func136
theorem G3:cA aI 107:=cI Tryz.func107
theorem Er (hM:eO M w) (dL:cD M w aw av U) (xS:cD M w my mT l) (acZ:aJ vr) (XS:l.length≤1000000000):Calls aI 99 #[.agg #[.slice aC aE aB,sL aw U av,.slice ay fe ax],sL my l mT,I vr] w (cp fun v w'=>∃(a0:OA) (c0:Nat),v=.slice a0 (aX (iQ U vr) l).length c0∧Ext w w'∧bm M 3 w (aX (iQ U vr) l) (.slice a0 (aX (iQ U vr) l).length c0) w'):=by
 refine dG 11 Tryz.func99 J J J hM fun f0 ha H=>?_
 let J0:=iL aw U av
 have H0:=H.put (it:=J0) J<|by rw[bP];exact dL
 have H1:=eG H0 xS
 have i0:f0 0=.agg #[.slice aC aE aB,sL aw U av,.slice ay fe ax]:=ha 0 bl
 have i1:f0 1=sL my l mT:=ha 1 bl
 have i2:f0 2=I vr:=ha 2 bl
 refine az<|k<|bx H1 J i0 ?_
 intro aZ w0 bY (H2:HI M w w0 [box aZ #[.slice aC aE aB,sL aw U av,.slice ay fe ax] 47,iL my l mT,J0])
 let J1:=box aZ #[.slice aC aE aB,sL aw U av,.slice ay fe ax] 47
 refine k<|bx H2 J i2 ?_
 intro aY w1 cT (H3:HI M w w1 [box aY #[I vr] 3,J1,iL my l mT,J0])
 refine ak (v:=.slice none 0 0) J J<|bz<|ai J i1<|k ?_
 have bS:=Jy (l:=l) H3.mb (H3.rv 2 J) aj
 refine ca Yi J (ec J e0) bS ?_
 rintro _ w2 ⟨a0,c0,rfl,fk,cw⟩
 have H4:=H3.eT cw
 refine k<|mf J<|k ?_
 have H5:HI M w w2 ([oL w 3 a0 l c0]++[box aY #[I vr] 3,J1,iL my l mT,J0]):=H4.bX [0,1,2,3,4] au J
 have cU:=pj (dW:=a0) (dS:=c0) (xs:=l) (qD:=136) (qH:=[pV aZ 0,pV aY 0]) (p:=(fun (x_:Int)=>iQ U vr x_)) (w:=w) (w_:=w2) (r:=[box aY #[I vr] 3,J1,iL my l mT,J0]) (M:=M) ⟨afH,fun w_ rC H_ x_ pe Ez=>Lo (U:=U) (vr:=vr) (M:=fun _=>False) (fun _ h_=>h_.elim) Ez ((H_.rv 4 J).lift (Up.less fun _ _ h_=>h_.elim)) aR ⟨H_.at_ 2 rfl,fun h_=>h_⟩ ⟨H_.at_ 1 rfl,fun h_=>h_⟩⟩ H5
 refine ca G3 J (ec J<|ec J e0) cU ?_
 rintro _ w3 ⟨rfl,H6⟩
 have H7:HI M w w3 [oL w 3 a0 (aX (fun (x_:Int)=>iQ U vr x_) l) c0,box aY #[I vr] 3,J1,iL my l mT,J0]:=H6
 refine ak (v:=sL a0 (aX (fun (x_:Int)=>iQ U vr x_) l) c0) J J<|aq<|rt<|r1 J J ?_
 have e0:((aX (fun (x_:Int)=>iQ U vr x_) l):aA)=aX (iQ U vr) l:=rfl
 have bu:=iK (fun (cg:aA)=>(.slice a0 cg.length c0:Value)) e0
 exact⟨a0,c0,bu,H7.below,(am_ (fun (x_:aA)=>bm _ _ _ x_ (.slice a0 x_.length c0) _) e0).mp (H7.dp 0 J)⟩
theorem tR:gR aI 47 2 2:=jU Tryz.underlying47
theorem qJ:ef aI 27 1 false 24 (.slice none 0 0):=⟨aS,aS⟩
theorem eh:ef aI 47 3 true 72 (.agg #[.slice none 0 0,.slice none 0 0,.slice none 0 0]):=⟨aS,aS⟩
theorem Yq:cA aI 100:=cI Tryz.func100
theorem adi:cA aI 99:=cI Tryz.func99
theorem ey:aI.underlying 119=some (.slice 122):=aS
theorem cL:ef aI 122 3 true 24 (.agg #[.int .i64 0,.int .i64 0,.int .i64 0]):=⟨aS,aS⟩
theorem afY:cA aI 102:=cI Tryz.func102
theorem uV (hM:eO M w) (hT:fU 0 w) (dL:cD M w aw av U) (gb:cD M w ay ax fo) (ga:aJ mn) (gv:cD M w bD bC mr) (dB:U.length≤4096) (ez:fo.length=U.length) (fL:∀x∈fo,x<((U.length:Nat):Int)) (bZ:bK mn mr=true):Calls aI 65 #[.agg #[.slice aC aE aB,sL aw U av,sL ay fo ax],.agg #[I mn,sL bD mr bC]] w (cp fun v w'=>∃(a0:OA) (c0:Nat),v=.slice a0 (cK U fo mn mr).length c0∧Ext w w'∧bm M 122 w (cK U fo mn mr) (.slice a0 (cK U fo mn mr).length c0) w'):=by
 refine dG 51 Tryz.func65 J J J hM fun f0 ha H=>?_
 let J0:=iL aw U av
 have H0:=H.put (it:=J0) J<|by rw[bP];exact dL
 let J1:=iL ay fo ax
 have H1:=H0.put (it:=J1) J<|by rw[aD rfl,bP];exact gb
 let J2:=iL bD mr bC
 have H2:=H1.put (it:=J2) J<|by rw[aD rfl,aD rfl,bP];exact gv
 have ja:=bj dL
 have kP:=bj gb
 have nz:=bj gv
 have i0:f0 0=.agg #[.slice aC aE aB,sL aw U av,sL ay fo ax]:=ha 0 bl
 have i1:f0 1=.agg #[I mn,sL bD mr bC]:=ha 1 bl
 have Qw:=MA (U:=U) (fo:=fo) (j:=fo.length) bZ
 refine az<|k<|bx H2 J i0 ?_
 let ba:=[J2,J1,J0]
 intro aZ w0 bY (H3:HI M w w0 (box aZ #[.slice aC aE aB,sL aw U av,sL ay fo ax] 47::ba))
 let J3:=box aZ #[.slice aC aE aB,sL aw U av,sL ay fo ax] 47
 refine k<|bx H3 J i1 ?_
 intro aY w1 cT (H4:HI M w w1 (box aY #[I mn,sL bD mr bC] 26::J3::ba))
 let J4:=box aY #[I mn,sL bD mr bC] 26
 refine ak (v:=.slice none 0 0) J J<|bz<|ak (v:=.slice none 0 0) J J<|aq<|sq<|az<|aQ tR J J<|bq H4 1 J qJ J J J<|k<|dD J J cG<|ai (v:=I 0) J J<|aq<|bk ?_
 have H5:=H4.ql (Int×Int×Int) 122
 let bV:=J4::J3::ba
 refine lp (fun m f w'=>∃(j_:Nat) (wA:List ep) (a0:OA) (c0:Nat),m=fo.length-j_∧f 2=pV aZ 0∧f 3=pV aY 0∧f 5=sL a0 wA c0∧f 11=sL ay fo ax∧f 12=I (fo.length:Int)∧f 13=I (j_:Int)∧HI M w w' (oL w 122 a0 wA c0::bV)∧(j_≤fo.length)∧(wA=uP U fo mn mr j_)∧(wA.length≤4096*j_)) _ ⟨0,([]:List ep),none,0,J,J,J,J,J,J,(bG J),H5,aj,(by rfl),(by exact aok _)⟩ ?_
 rintro _ f0 w2 ⟨j_,wA,a0,c0,rfl,s0,s1,s2,s3,s4,s5,H6,pA,hs,ue⟩
 refine az<|k<|lss J J s5 s4<|aq<|sq<|cd (b:=decide ((j_:Int)<(fo.length:Int))) J J (fun b0=>?_)<|fun b0=>?_
 ·
  have p0:=dT b0
  refine sk<|nx<|sq<|bk<|az<|ai J s5<|k<|ia (H6.rv 4 J) J J s3 s5 aj cG aT ?_
  intro iE x0 aM cz
  refine k<|mw cz.w aT J J ?_
  intro cw
  refine ak (v:=I (j_:Int)) J J<|ak (v:=I x0) J J<|aq<|sq<|az<|ai (v:=I x0) J J<|k<|lss J J J J<|z<|nx<|cd (b:=decide (x0<0)) J J (fun b1=>?_)<|fun b1=>?_
  ·
   have p1:=dT b1
   refine ex<|aV<|bg<|nx<|rg<|k<|add J J s5 J aR<|ai (v:=I ((j_:Int)+1)) J J<|z<|bF _ ?_ ⟨(j_+1),wA,a0,c0,J,s0,s1,s2,s3,s4,(bG J),H6,aj,(by exact adH hs aM aj),(by first|omega)⟩
   omega
  have p1:=dF b1
  refine sk<|nx<|sq<|TN J aS<|xq J<|kq (fun _ x_=>cB (H6.ext x_) 2 J eh J s0 au J e1)<|zq<|xq J<|kq (fun _ x_=>cB (H6.ext x_) 1 J bp J s1 au J e1)<|zq<|xq J<|kq (fun _ _=>mv (v:=I (j_:Int)) J J e1)<|zq<|xu (fun v w'=>∃(a1:OA) (c1:Nat),v=sL a1 (eY mn mr (j_:Int)) c1∧RV H6.fS w' (sL a1 (eY mn mr (j_:Int)) c1) (eY mn mr (j_:Int))) J (by rintro _ _ _ x_ ⟨a1,c1,e_,dZ⟩;exact⟨a1,c1,e_,dZ.lift (Up.ext x_)⟩) J (fun v_ x_=>have cU:=On (mn:=mn) (mr:=mr) (o:=(j_:Int)) (w:=v_) (H6.ext x_).mb (hT.ext (H6.ext x_).below) ga ((H6.ext x_).rv 3 rfl) aR (by exact bZ);ca Yq rfl (ec J<|ec J e0) cU (fun _ w4 ⟨a2,c2,e_,fN,fy⟩=>⟨_,J,fN,⟨a2,c2,e_,(bm.rv fy (H6.ext x_).mb)⟩⟩))<|xq J<|kq (fun _ _=>fa fG J s0 e1)<|zq<|xq J<|kq (fun _ x_=>lx (H6.ext x_) 2 J jh J J J e1)<|zq<|xq J<|kq (fun _ _=>mv (v:=I x0) J J e1)<|zq<|xq J<|rQ (H6.rv 5 J) J J J J (by have h_:=fL _ (dC aM);omega) jA jE ?_
  intro rK x1 cQ gL
  refine zq<|xq J<|kq (fun _ _=>fa tO J J e1)<|zq<|xq J<|ob ((gL).s3).fst.w aT J J ?_
  intro jS
  refine zq<|xu1 (fun v w'=>∃(a4:OA) (c4:Nat),v=sL a4 (aX (iQ U x1.2.2.2.1)<|eY mn mr (j_:Int)) c4∧RV H6.fS w' (sL a4 (aX (iQ U x1.2.2.2.1)<|eY mn mr (j_:Int)) c4) (aX (iQ U x1.2.2.2.1)<|eY mn mr (j_:Int))) 0 J J (by rintro _ _ _ x_ ⟨a4,c4,e_,oE⟩;exact⟨a4,c4,e_,oE.lift (Up.ext x_)⟩) J (fun v_ _ x_ h_=>let ⟨a5,c5,s6,nE⟩:=h_;have dU:=(H6.ext x_).put (it:=iL a5 (eY mn mr (j_:Int)) c5) rfl nE;have eZ:=Er (U:=U) (l:=(eY mn mr (j_:Int))) (vr:=x1.2.2.2.1) (aC:=aC) (aE:=aE) (aB:=aB) (ay:=ay) (fe:=fo.length) (ax:=ax) dU.mb (dU.rv 6 J) (dU.rv 0 J) jS (by have h_:=u9 bZ (j_:Int);omega);ca adi rfl (ec J<|ec s6<|ec J e0) eZ (fun _ w6 ⟨a6,c6,e_,jc,rP⟩=>⟨_,J,jc,⟨a6,c6,e_,(ly J<|bm.rv rP dU.mb)⟩⟩))<|xk1 (X:=I ((aX (iQ U x1.2.2.2.1)<|eY mn mr (j_:Int)).length:Int)) 0 J J (fun _ _ _ h_=>let ⟨a8,c8,s7,qN⟩:=h_;dD rfl s7 cG e1)<|xq J<|kq (fun _ _=>mv (v:=I 0) J J e1)<|zq<|zx ?_
  intro w7 f1 jK cx iJ
  have cE:=H6.ext jK
  have s8:=(cx 2 J).trans s0
  have s9:=(cx 3 J).trans s1
  have eu:=(cx 5 J).trans s2
  have fb:=cx 6 J
  have fu:=cx 7 J
  have fl:=(cx 11 J).trans s3
  have gi:=(cx 12 J).trans s4
  have gS:=(cx 13 J).trans s5
  obtain⟨a9,c9,j4,qM⟩:=iJ 0 _ _ rfl
  let J5:=iL a9 (aX (iQ U x1.2.2.2.1) (eY mn mr (j_:Int))) c9
  have df:=cE.put (it:=J5) J qM
  have kJ:=cx 31 J
  have lD:=cx 32 J
  refine nx<|bk<|lp (fun m f w'=>∃(q_:Nat) (v8:List ep) (jq:OA) (jo:Nat),m=(aX (iQ U x1.2.2.2.1)<|eY mn mr (j_:Int)).length-q_∧f 2=pV aZ 0∧f 3=pV aY 0∧f 5=sL jq v8 jo∧f 6=I (j_:Int)∧f 7=I x0∧f 11=sL ay fo ax∧f 12=I (fo.length:Int)∧f 13=I (j_:Int)∧f 30=sL a9 (aX (iQ U x1.2.2.2.1)<|eY mn mr (j_:Int)) c9∧f 31=I ((aX (iQ U x1.2.2.2.1)<|eY mn mr (j_:Int)).length:Int)∧f 32=I (q_:Int)∧HI M w w' (J5::oL w 122 jq v8 jo::bV)∧(q_≤(aX (iQ U x1.2.2.2.1)<|eY mn mr (j_:Int)).length)∧(v8=wA++Cf x0 (j_:Int) ((aX (iQ U x1.2.2.2.1)<|eY mn mr (j_:Int)).take q_))∧(v8.length≤4096*j_+q_)) _ ⟨0,wA,a0,c0,J,s8,s9,eu,fb,fu,fl,gi,gS,j4,kJ,(bG lD),df,aj,(by exact(aoB _).symm),aj⟩ ?_
  rintro _ f2 w8 ⟨q_,v8,jq,jo,rfl,l5,l4,oT,oS,t',u1,tZ,sM,xw,B2,B1,dH,sU,gK,amm⟩
  refine sq ?_
  have ain:(aX (iQ U x1.2.2.2.1) (eY mn mr (j_:Int))).length≤4096:=by unfold aX;exact Nat.le_trans (aoc _ _) (u9 bZ _)
  refine rg<|k<|lss J J B1 B2<|aq<|sq<|cd (b:=decide ((q_:Int)<((aX (iQ U x1.2.2.2.1)<|eY mn mr (j_:Int)).length:Int))) J J (fun b2=>?_)<|fun b2=>?_
  ·
   have p2:=dT b2
   refine sk<|nx<|sq<|bk<|az<|k<|ia (dH.rv 0 J) J J xw B1 aj cG aT ?_
   intro pZ x2 jf kV
   refine k<|mw kV.w aT J J ?_
   intro qj
   refine ak (v:=I x2) J J<|bz<|ai (v:=I x2) J J<|ai J t'<|k<|neq J J J J<|z<|nx<|cd (b:=!decide (x2=x0)) J J (fun b3=>?_)<|fun b3=>?_
   ·
    have p3:=dF<|gl b3
    refine rg<|ai J oT<|ai (v:=I x2) J J<|ai J t'<|ai J oS<|k<|bd (v:=.agg #[I x2,I x0,I (j_:Int)]) J (cm J<|cm J<|cm J ew) (fun _=>aS)<|k<|bs (xs:=([(x2,x0,(j_:Int))]:List (Int×Int×Int))) (cells:=#[I x2,I x0,I (j_:Int)]) (e:=122) dH J (cm J ew) (fun _=>aS) ⟨[I x2,I x0,I (j_:Int)],[],J,⟨_,_,J,⟨J,(show aJ (x2) from bo)⟩,⟨_,_,J,⟨J,(show aJ (x0) from bo)⟩,⟨J,(show aJ ((j_:Int)) from aR)⟩⟩⟩,J⟩ J au ?_
    intro g0 w9 lC eP
    refine k<|lY eP 2 J J J J J J (gY<|eP.at_ 0 J) ey cL J (by simp only[fF,iI,gj];omega) J ?_
    intro mV mU dM (ff:HI M w dM (own w.heap.size 122 (.slice (some ⟨g0,0,none⟩) 1 1) ([(x2,x0,(j_:Int))]:List (Int×Int×Int))::J5::oL w 122 mV (v8++([(x2,x0,(j_:Int))]:List (Int×Int×Int))) mU::bV))
    refine ak (v:=sL mV (v8++([(x2,x0,(j_:Int))]:List (Int×Int×Int))) mU) J J<|z<|aG<|nx<|rg<|k<|add J J B1 J aR<|ai (v:=I ((q_:Int)+1)) J J<|z ?_
    have gr:HI M w dM (J5::oL w 122 mV (v8++([(x2,x0,(j_:Int))]:List (Int×Int×Int))) mU::bV):=ff.bX [1,2,3,4,5,6,7] au J
    refine bF _ ?_ ⟨(q_+1),(v8++([(x2,x0,(j_:Int))]:List (Int×Int×Int))),mV,mU,J,l5,l4,J,oS,t',u1,tZ,sM,xw,B2,(bG J),gr,aj,(by exact Z6 gK jf p3),(by simp only[fF,iI,gj];omega)⟩
    omega
   have p3:=dT<|fA b3
   refine sk<|aG<|nx<|rg<|k<|add J J B1 J aR<|ai (v:=I ((q_:Int)+1)) J J<|z<|bF _ ?_ ⟨(q_+1),v8,jq,jo,J,l5,l4,oT,oS,t',u1,tZ,sM,xw,B2,(bG J),dH,aj,(by exact Wg gK jf p3),aj⟩
   omega
  have p2:=dF b2
  refine ex<|aV<|bc<|bg<|aG<|nx<|rg<|k<|add J J sM J aR<|ai (v:=I ((j_:Int)+1)) J J<|z ?_
  have eP:HI M w w8 (oL w 122 jq v8 jo::bV):=dH.bX [1,2,3,4,5,6] au J
  refine bF _ ?_ ⟨(j_+1),v8,jq,jo,J,l5,l4,oT,u1,tZ,(bG J),eP,aj,(by exact Z7 (by unfold qq;rw[cQ];rfl) hs gK aM aj aj),(by first|omega)⟩
  omega
 have p0:=dF b0
 refine ex<|aV<|bc<|bg<|cO<|ai J s2<|k ?_
 have H7:HI M w w2 ([oL w 122 a0 wA c0]++[J4,J3,J2,J1,J0]):=H6.bX [0,1,2,3,4,5] au J
 have bS:=Rt (dW:=a0) (dS:=c0) (xs:=wA) (w:=w) (w_:=w2) (r:=[J4,J3,J2,J1,J0]) (M:=M) aj H7
 refine ca afY J (ec J<|ec J e0) bS ?_
 rintro _ w3 ⟨rfl,H8⟩
 have H9:HI M w w3 (own w.heap.size 122 (.slice a0 wA.length c0) (wF wA)::bV):=H8
 refine bz<|ai J s2<|ak (v:=sL a0 wA c0) J J<|aq<|rt<|r1 J J ?_
 have e0:((wF wA):List (Int×Int×Int))=cK U fo mn mr:=by rw[hs,show j_=fo.length from by omega];rfl
 have l0:wA.length=(cK U fo mn mr).length:=by rw[hs,show j_=fo.length from by omega];exact Jv
 have bu:=iK (fun (vf:Nat)=>(.slice a0 vf c0:Value)) l0
 exact⟨a0,c0,bu,H9.below,(am_ (fun (n_:Nat)=>bm _ _ _ (cK U fo mn mr) (.slice a0 n_ c0) _) l0).mp ((am_ (fun (x_:List (Int×Int×Int))=>bm _ _ _ x_ (.slice a0 wA.length c0) _) e0).mp (H9.dp 0 J))⟩
theorem adm:cA aI 61:=cI Tryz.func61
theorem I7 (hM:eO M w) (Km:cD M w zl zd rY) (X6:aJ tY):Calls aI 61 #[sL zl rY zd,I tY] w (cp fun v w'=>v=I (eM (fun (z_:Int)=>decide (tY=z_)) rY)∧Ext w w'):=by
 refine dG 19 Tryz.func61 J J J hM fun f0 ha H=>?_
 have H0:=eG H Km
 have ajW:=bj Km
 have i0:f0 0=sL zl rY zd:=ha 0 bl
 have i1:f0 1=I tY:=ha 1 bl
 refine az<|ak (v:=I 0) J J<|aq<|sq<|az<|ai J i0<|k<|dD J J cG<|ai (v:=I 0) J J<|aq<|bk<|lp (fun m f w'=>∃(j_:Nat),m=rY.length-j_∧f 0=sL zl rY zd∧f 1=I tY∧f 7=I (rY.length:Int)∧f 8=I (j_:Int)∧HI M w w' [iL zl rY zd]∧(j_≤rY.length)∧((rY.take j_).any (fun (z_:Int)=>decide (tY=z_))=false)) _ ⟨0,J,i0,i1,J,(bG J),H0,aj,bl⟩ ?_
 rintro _ f0 w0 ⟨j_,rfl,s0,s1,s2,s3,H1,pA,hs⟩
 refine az<|k<|lss J J s3 s2<|aq<|sq<|cd (b:=decide ((j_:Int)<(rY.length:Int))) J J (fun b0=>?_)<|fun b0=>?_
 ·
  have p0:=dT b0
  refine sk<|nx<|sq<|bk<|az<|ai J s3<|ak (v:=I (j_:Int)) J J<|bz<|ai J s1<|ai J s0<|ai (v:=I (j_:Int)) J J<|k<|ia (H1.rv 0 J) J J J J aj cG aT ?_
  intro iE x0 aM cz
  refine k<|mw cz.w aT J J ?_
  intro cw
  refine k<|eql J J J J<|z<|nx<|cd (b:=decide (tY=x0)) J J (fun b1=>?_)<|fun b1=>?_
  ·
   refine az<|ai (v:=I (j_:Int)) J J<|ak (v:=I (j_:Int)) J J<|aq<|rt<|bR<|aK<|dX<|bR<|aK<|r1 J J ?_
   exact⟨am_ (Value.int .i64) (by exact uF (p:=(fun (z_:Int)=>decide (tY=z_))) aM hs b1),H1.below⟩
  have p1:=dF b1
  refine sk<|aG<|nx<|rg<|k<|add J J s3 J aR<|ai (v:=I ((j_:Int)+1)) J J<|z<|bF _ ?_ ⟨(j_+1),J,s0,s1,s2,(bG J),H1,aj,(by exact pN aM hs b1)⟩
  omega
 have p0:=dF b0
 refine ex<|aV<|bc<|bg<|cO<|ak (v:=I (-1)) J J<|aq<|rt<|r1 J J ?_
 exact⟨am_ (Value.int .i64) (by exact vj hs aj),H1.below⟩
theorem Dx (hM:eO M w) (Km:cD M w zl zd rY) (X6:aJ tY):Calls aI 131 #[sL zl rY zd,I tY] w (cp fun v w'=>v=.bool (rY.any (fun (z_:Int)=>decide (tY=z_)))∧Ext w w'):=by
 refine dG 9 Tryz.func131 J J J hM fun f0 ha H=>?_
 have H0:=eG H Km
 have i0:f0 0=sL zl rY zd:=ha 0 bl
 have i1:f0 1=I tY:=ha 1 bl
 refine az<|ak (v:=.bool false) J J<|bz<|ai J i0<|ai J i1<|k ?_
 have bS:=I7 (rY:=rY) (tY:=tY) H0.mb (H0.rv 0 J) X6
 refine ca adm J (ec J<|ec J e0) bS ?_
 rintro _ w0 ⟨rfl,bY⟩
 have H1:=H0.ext bY
 refine k<|geq J J J J<|ak (v:=.bool (decide (0≤(eM (fun (z_:Int)=>decide (tY=z_)) rY)))) J J<|aq<|rt<|r1 J J ?_
 exact⟨am_ Value.bool (by exact uG),H1.below⟩
theorem J_:ef aI 218 2 true 16 (.agg #[.int .i64 0,.int .i64 0]):=⟨aS,aS⟩
theorem J':ef aI 215 1 false 8 (.map none):=⟨aS,aS⟩
theorem aeU:Pq aI 218 [some (0,0),some (1,0)]:=⟨aS,aS,aS,aS⟩
theorem Xq:Q9 aI 215:=Xv (by kernel_rfl:aI.underlying 215=some (.map 218 4)) (VA (zD aeU)) oP rfl
theorem Yk:cA aI 131:=cI Tryz.func131
theorem Yg:cA aI 169:=cI Tryz.func169
theorem Ei (BE:aJ fC) (D2:aJ fE) (BD:aJ gE) (ga:aJ mn) (bZ:bK mn mr=true) (H:HI M w w_ ([box kB #[.map (some fW)] 215,bU fW met,box mD #[I mn,sL bD mr bC] 26,iL bD mr bC,box mF #[sL j8 kp j6] 27,iL j8 kp j6]++r)):Calls aI 169 #[.agg #[I fC,I fE,I gE],pV kB 0,pV mD 0,pV mF 0] w_ (cp fun v w'=>v=.bool (((fc mn mr kp) met (fC,fE,gE)).1)∧HI M w w' ([box kB #[.map (some fW)] 215,bU fW (((fc mn mr kp) met (fC,fE,gE)).2),box mD #[I mn,sL bD mr bC] 26,iL bD mr bC,box mF #[sL j8 kp j6] 27,iL j8 kp j6]++r)):=by
 refine enter 32 Tryz.func169 J J J fun f0 ha=>?_
 have nz:=bj<|H.rv 3 J
 have Xy:=bj<|H.rv 5 J
 have i0:f0 0=.agg #[I fC,I fE,I gE]:=ha 0 bl
 have i1:f0 1=pV kB 0:=ha 1 bl
 have i2:f0 2=pV mD 0:=ha 2 bl
 have i3:f0 3=pV mF 0:=ha 3 bl
 refine az<|k<|bx H J i0 ?_
 let J1:=box kB #[.map (some fW)] 215
 let J2:=box mD #[I mn,sL bD mr bC] 26
 let J3:=iL bD mr bC
 let J4:=box mF #[sL j8 kp j6] 27
 let J5:=iL j8 kp j6
 let ba:=[J1,bU fW met,J2,J3,J4,J5]
 intro aZ w0 bY (H0:HI M w w0 ((box aZ #[I fC,I fE,I gE] 122::ba)++r))
 let J0:=box aZ #[I fC,I fE,I gE] 122
 refine ak (v:=.bool false) J J<|bz<|aQ kR J J<|bq H0 0 J aT J J J<|aQ mZ J J<|bq H0 0 J aT J J J<|k<|bd (v:=.agg #[I fC,I fE]) J (cm J<|cm J ew) (fun _=>aS)<|k<|al H0 J_ ?_
 intro aY w1 cT (H1:HI M w w1 ((box aY #[I 0,I 0] 218::J0::ba)++r))
 refine k<|bw H1 0 J J_ J J J J J J J ?_
 let J6:=box aY #[I fC,I fE] 218
 intro w2 (H2:HI M w w2 ((J6::J0::ba)++r))
 refine aq<|sq<|az<|bq H2 2 J J' J i1 J<|k<|cB H2 0 J J_ J J au J<|k<|ahU (k:=(fC,fE)) Xq H2 3 J J J J J<|ai (v:=.bool ((fO met (fC,fE)).getD false)) J J ?_
 rcases bE ((fO met (fC,fE)).getD false) with b0|b0
 ·
  refine aW J J J b0<|aW J J J b0<|aW J J J b0<|aW J J J b0<|aW J J J b0<|aW J J J b0<|k<|aP J J J J b0 J<|ai (v:=.bool true) J J<|aW J J J J<|aW J J J J<|aW J J J J<|aW J J J J<|aW J J J J<|k<|aP J J J J J J<|aq<|ot J J J<|az<|ak (v:=.bool true) J J<|aq<|rt<|aK<|r1 J J ?_
  have H3:=HI.aP (l:=(J6::J0::ba)) (l':=ba) (t:=r) H2 [2,3,4,5,6,7] au J J
  have e0:(true:Bool)=((fc mn mr kp) met (fC,fE,gE)).1:=by simp only[fc,b0,BL]
  have e1:(met:List ((Int×Int)×Bool))=(((fc mn mr kp) met (fC,fE,gE)).2):=by simp only[fc,b0,BL]
  try rw[←e0]
  try rw[←e1]
  refine⟨?_,?_⟩
  · first|rfl|simp only[e0,e1]|(simp only[am'])
  · first|exact H3|simpa +zetaDelta only[e0,e1,am'] using H3
 refine bh J J J b0<|cB H2 4 J bp J i2 au J<|bh J J J b0<|fa kR J J<|bh J J J b0<|lx H2 1 J aT J J J<|bh J J J b0<|fa mZ J J<|bh J J J b0<|lx H2 1 J aT J J J<|bh J J J b0 ?_
 have bS:=uE (mn:=mn) (mr:=mr) (i:=fC) (j:=fE) H2.mb ga (H2.rv 5 J) BE D2 (by exact(bQ bZ).1) (by exact(bQ bZ).2.1)<|by exact(bQ bZ).2.2.1
 refine ca FN J (ec J<|ec J<|ec J e0) bS ?_
 rintro _ w3 ⟨rfl,fk⟩
 have H3:=H2.ext fk
 refine k<|dA J J J J b0 J<|ai (v:=.bool (eK mn mr fC fE)) J J ?_
 rcases bE (eK mn mr fC fE) with b1|b1
 ·
  refine aW J J J b1<|aW J J J b1<|aW J J J b1<|aW J J J b1<|aW J J J b1<|k<|aP J J J J b1 J<|aq<|ot J J J<|az<|ak (v:=.bool true) J J<|aq<|rt<|aK<|r1 J J ?_
  have H4:=HI.aP (l:=(J6::J0::ba)) (l':=ba) (t:=r) H3 [2,3,4,5,6,7] au J J
  have e0:(true:Bool)=((fc mn mr kp) met (fC,fE,gE)).1:=by simp only[fc,b0,b1,BL]
  have e1:(met:List ((Int×Int)×Bool))=(((fc mn mr kp) met (fC,fE,gE)).2):=by simp only[fc,b0,b1,BL]
  try rw[←e0]
  try rw[←e1]
  refine⟨?_,?_⟩
  · first|rfl|simp only[e0,e1]|(simp only[am'])
  · first|exact H4|simpa +zetaDelta only[e0,e1,am'] using H4
 refine bh J J J b1<|lx H3 6 J qJ J i3 J<|bh J J J b1<|fa sZ J J<|bh J J J b1<|lx H3 1 J aT J J J<|bh J J J b1 ?_
 have cU:=Dx (rY:=kp) (tY:=gE) H3.mb (H3.rv 7 J) BD
 refine ca Yk J (ec J<|ec J e0) cU ?_
 rintro _ w4 ⟨rfl,fN⟩
 have H4:=H3.ext fN
 refine bh J J J b1<|jY J J<|k<|dA J J J J b1 J<|z<|nx<|cd (b:=!(kp.any<|fun (z_:Int)=>decide (gE=z_))) J J (fun b2=>?_)<|fun b2=>?_
 ·
  refine az<|ak (v:=.bool true) J J<|aq<|rt<|aK<|r1 J J ?_
  have H5:=HI.aP (l:=(J6::J0::ba)) (l':=ba) (t:=r) H4 [2,3,4,5,6,7] au J J
  have e0:(true:Bool)=((fc mn mr kp) met (fC,fE,gE)).1:=by simp only[fc,b0,b1,(gl b2),BL]
  have e1:(met:List ((Int×Int)×Bool))=(((fc mn mr kp) met (fC,fE,gE)).2):=by simp only[fc,b0,b1,(gl b2),BL]
  try rw[←e0]
  try rw[←e1]
  refine⟨?_,?_⟩
  · first|rfl|simp only[e0,e1]|(simp only[am'])
  · first|exact H5|simpa +zetaDelta only[e0,e1,am'] using H5
 refine sk<|cO<|bq H4 2 J J' J i1 J<|k<|cB H4 0 J J_ J J au J<|k<|ahS (k:=(fC,fE)) (v:=true) Xq H4 3 J J J J J J J ?_
 let bV:=[J1,bU fW (lS met (fC,fE) true),J2,J3,J4,J5]
 intro w5 (H5:HI M w w5 ((J6::J0::bV)++r))
 refine bz<|ak (v:=.bool false) J J<|aq<|rt<|r1 J J ?_
 have H6:=HI.aP (l:=(J6::J0::bV)) (l':=bV) (t:=r) H5 [2,3,4,5,6,7] au J J
 have e0:(false:Bool)=((fc mn mr kp) met (fC,fE,gE)).1:=by simp only[fc,b0,b1,(fA b2),BL]
 have e1:(lS met (fC,fE) true:List ((Int×Int)×Bool))=(((fc mn mr kp) met (fC,fE,gE)).2):=by simp only[fc,b0,b1,(fA b2),BL]
 try rw[←e0]
 try rw[←e1]
 refine⟨?_,?_⟩
 · first|rfl|simp only[e0,e1]|(simp only[am'])
 · first|exact H6|simpa +zetaDelta only[e0,e1,am'] using H6
theorem GR {xs:List (Int×Int×Int)} (ga:aJ mn) (bZ:bK mn mr=true) (H:HI M w w_ ([oL w 122 dW xs dS,box kB #[.map (some fW)] 215,bU fW met,box mD #[I mn,sL bD mr bC] 26,iL bD mr bC,box mF #[sL j8 kp j6] 27,iL j8 kp j6]++r)):Calls aI 184 #[sL dW xs dS,.func (.func 169) #[] #[pV kB 0,pV mD 0,pV mF 0]] w_ (cp fun v w'=>∃(ix:Int) (mt:List ((Int×Int)×Bool)),v=I ix∧HI M w w' ([oL w 122 dW xs dS,box kB #[.map (some fW)] 215,bU fW mt,box mD #[I mn,sL bD mr bC] 26,iL bD mr bC,box mF #[sL j8 kp j6] 27,iL j8 kp j6]++r)∧Nj (fc mn mr kp) met xs ix mt):=by
 refine enter 19 Tryz.func184 J J J fun f0 ha=>?_
 have GC:=kj<|H.at_ 0 J
 have nz:=bj<|H.rv 4 J
 have Xy:=bj<|H.rv 6 J
 have i0:f0 0=sL dW xs dS:=ha 0 bl
 have i1:f0 1=.func (.func 169) #[] #[pV kB 0,pV mD 0,pV mF 0]:=ha 1 bl
 refine az<|ak (v:=I 0) J J<|aq<|sq<|az<|ai J i0<|k<|dD J J ey<|ai (v:=I 0) J J<|aq<|bk ?_
 let J0:=oL w 122 dW xs dS
 let J1:=box kB #[.map (some fW)] 215
 let J2:=box mD #[I mn,sL bD mr bC] 26
 let J3:=iL bD mr bC
 let J4:=box mF #[sL j8 kp j6] 27
 let J5:=iL j8 kp j6
 let ba:=[J2,J3,J4,J5]
 refine lp (fun m f w'=>∃(j_:Nat) (ng:List ((Int×Int)×Bool)),m=xs.length-j_∧f 0=sL dW xs dS∧f 1=.func (.func 169) #[] #[pV kB 0,pV mD 0,pV mF 0]∧f 7=I (xs.length:Int)∧f 8=I (j_:Int)∧HI M w w' ((J0::J1::bU fW ng::ba)++r)∧(j_≤xs.length)∧(gm (fc mn mr kp) met (xs.take j_)=(xs.take j_,ng))) _ ⟨0,met,J,i0,i1,J,(bG J),H,aj,(by exact V9)⟩ ?_
 rintro _ f0 w0 ⟨j_,ng,rfl,s0,s1,s2,s3,H0,pA,hs⟩
 refine az<|k<|lss J J s3 s2<|aq<|sq<|cd (b:=decide ((j_:Int)<(xs.length:Int))) J J (fun b0=>?_)<|fun b0=>?_
 ·
  have p0:=dT b0
  refine sk<|nx<|sq<|bk<|az<|ai J s3<|ak (v:=I (j_:Int)) J J<|bz<|ai J s1<|ai J s0<|ai (v:=I (j_:Int)) J J<|k<|gW (H0.at_ 0 J) J J J J aj ey cL ?_
  intro g0 x0 iC aM cz
  refine k<|nF cz cL J J ?_
  intro v0 cw
  obtain⟨_,⟨_,_,rfl,⟨rfl,d_⟩,⟨_,_,rfl,⟨rfl,dZ⟩,⟨rfl,fy⟩⟩⟩,rfl⟩:=cw
  refine k ?_
  let bV:=[J2,J3,J4,J5,J0]
  have H1:HI M w w0 ((J1::bU fW ng::ba)++([J0]++r)):=HI.aP (l:=(J0::J1::bU fW ng::ba)) (l':=(J1::bU fW ng::bV)) (t:=r) H0 [1,2,3,4,5,6,0] au J J
  have bS:=Ei (fC:=x0.1) (fE:=x0.2.1) (gE:=x0.2.2) (kB:=kB) (fW:=fW) (met:=ng) (mD:=mD) (mn:=mn) (bD:=bD) (bC:=bC) (mr:=mr) (mF:=mF) (j8:=j8) (j6:=j6) (kp:=kp) (w:=w) (w_:=w0) (r:=([J0]++r)) (M:=M) d_ dZ fy ga (by exact bZ) H1
  refine cf Yg J J J (ec J e0) bS ?_
  rintro _ w1 ⟨rfl,H2⟩
  let dz:=J1::bU fW (((fc mn mr kp) ng (x0.1,x0.2.1,x0.2.2)).2)::bV
  have H3:HI M w w1 (dz++r):=H2
  refine z<|nx<|cd (b:=((fc mn mr kp) ng (x0.1,x0.2.1,x0.2.2)).1) J J (fun b1=>?_)<|fun b1=>?_
  ·
   refine az<|ai (v:=I (j_:Int)) J J<|ak (v:=I (j_:Int)) J J<|aq<|rt<|bR<|aK<|dX<|bR<|aK<|r1 J J ?_
   have H4:=HI.aP (l:=dz) (l':=(J0::J1::bU fW (((fc mn mr kp) ng (x0.1,x0.2.1,x0.2.2)).2)::ba)) (t:=r) H3 [6,0,1,2,3,4,5] au J J
   refine⟨(j_:Int),(((fc mn mr kp) ng (x0.1,x0.2.1,x0.2.2)).2),?_,?_,(by exact adw hs aj aM b1)⟩
   · first|rfl|simp only[am']
   · first|exact H4|simpa +zetaDelta only[am'] using H4
  refine sk<|aG<|nx<|rg<|k<|add J J s3 J aR<|ai (v:=I ((j_:Int)+1)) J J<|z ?_
  let iW:=J0::J1::bU fW (((fc mn mr kp) ng (x0.1,x0.2.1,x0.2.2)).2)::ba
  have H4:HI M w w1 (iW++r):=HI.aP (l:=dz) (l':=iW) (t:=r) H3 [6,0,1,2,3,4,5] au J J
  refine bF _ ?_ ⟨(j_+1),(((fc mn mr kp) ng (x0.1,x0.2.1,x0.2.2)).2),J,s0,s1,s2,(bG J),H4,aj,(by exact ZX hs aM b1)⟩
  omega
 have p0:=dF b0
 refine ex<|aV<|bc<|bg<|cO<|ak (v:=I (-1)) J J<|aq<|rt<|r1 J J ?_
 refine⟨(-1),ng,?_,?_,(by exact adx hs aj)⟩
 · first|rfl|simp only[am']
 · first|exact H0|simpa +zetaDelta only[am'] using H0
theorem afp:cA aI 184:=cI Tryz.func184
theorem QC:cA aI 65:=cI Tryz.func65
theorem afv:cA aI 168:=cI Tryz.func168
theorem FX {xs:List (Int×Int×Int)} (ga:aJ mn) (bZ:bK mn mr=true) (H:HI M w w_ ([oL w 122 dW xs dS,box kB #[.map (some fW)] 215,bU fW met,box mD #[I mn,sL bD mr bC] 26,iL bD mr bC,box mF #[sL j8 kp j6] 27,iL j8 kp j6]++r)):Calls aI 168 #[sL dW xs dS,.func (.func 169) #[] #[pV kB 0,pV mD 0,pV mF 0]] w_ (cp fun v w'=>v=.slice dW ((gm (fc mn mr kp) met xs).1).length dS∧HI M w w' ([oL w 122 dW ((gm (fc mn mr kp) met xs).1) dS,box kB #[.map (some fW)] 215,bU fW ((gm (fc mn mr kp) met xs).2),box mD #[I mn,sL bD mr bC] 26,iL bD mr bC,box mF #[sL j8 kp j6] 27,iL j8 kp j6]++r)):=by
 refine enter 42 Tryz.func168 J J J fun f0 ha=>?_
 have GC:=kj<|H.at_ 0 J
 have nz:=bj<|H.rv 4 J
 have Xy:=bj<|H.rv 6 J
 have i0:f0 0=sL dW xs dS:=ha 0 bl
 have i1:f0 1=.func (.func 169) #[] #[pV kB 0,pV mD 0,pV mF 0]:=ha 1 bl
 refine az<|ak (v:=.slice none 0 0) J J<|bz<|ai J i0<|ai J i1<|k ?_
 let J0:=oL w 122 dW xs dS
 let J1:=box kB #[.map (some fW)] 215
 let J2:=box mD #[I mn,sL bD mr bC] 26
 let J3:=iL bD mr bC
 let J4:=box mF #[sL j8 kp j6] 27
 let J5:=iL j8 kp j6
 let ba:=[J2,J3,J4,J5]
 let bV:=J0::J1::bU fW met::ba
 have H0:HI M w w_ ((J0::J1::bU fW met::ba)++([]++r)):=HI.aP (l:=bV) (l':=bV) (t:=r) H [0,1,2,3,4,5,6] au J J
 have bS:=GR (dW:=dW) (dS:=dS) (xs:=xs) (kB:=kB) (fW:=fW) (met:=met) (mD:=mD) (mn:=mn) (bD:=bD) (bC:=bC) (mr:=mr) (mF:=mF) (j8:=j8) (j6:=j6) (kp:=kp) (w:=w) (w_:=w_) (r:=([]++r)) (M:=M) ga (by exact bZ) H0
 refine ca afp J (ec J<|ec J e0) bS ?_
 rintro _ w0 ⟨o0,o1,rfl,H1,q0⟩
 have H2:HI M w w0 ((J0::J1::bU fW o1::ba)++r):=H1
 refine ak (v:=I o0) J J<|aq<|sq<|az<|ai (v:=I o0) J J<|k<|eql J J J J<|z<|nx<|cd (b:=decide (o0=(-1))) J J (fun b0=>?_)<|fun b0=>?_
 ·
  have p0:=dT b0
  refine az<|ai J i0<|ak (v:=sL dW xs dS) J J<|aq<|rt<|aK<|r1 J J ?_
  have e0:(xs:List _)=((gm (fc mn mr kp) met xs).1):=by rw[O9 q0 bo]
  have e1:(o1:List ((Int×Int)×Bool))=((gm (fc mn mr kp) met xs).2):=by rw[O9 q0 bo]
  try rw[←e0]
  try rw[←e1]
  refine⟨?_,?_⟩
  · first|rfl|simp only[e0,e1]|(simp only[am'])
  · first|exact H2|simpa +zetaDelta only[e0,e1,am'] using H2
 have p0:=dF b0
 refine sk<|nx<|sq<|sq ?_
 obtain⟨air,Qv⟩:=Wh q0 bo
 have ais:=Qv.1
 refine rg<|ai (v:=I o0) J J<|k<|add J J J J aR<|ak (v:=I (o0+1)) J J<|aq<|bk<|lp (fun m f w'=>∃(q:Int) (k_:Nat) (ys:List ep) (ng:List ((Int×Int)×Bool)),m=xs.length-k_∧f 0=sL dW xs dS∧f 1=.func (.func 169) #[] #[pV kB 0,pV mD 0,pV mF 0]∧f 5=I q∧f 6=I (k_:Int)∧HI M w w' ((own w.heap.size 122 (.slice dW xs.length dS) ys::J1::bU fW ng::ba)++r)∧(0≤q∧q<(k_:Int)∧k_≤xs.length)∧(DS (fc mn mr kp) met xs ys q k_ ng)) _ ⟨o0,(o0.toNat+1),xs,o1,J,i0,i1,(bG J),(bG J),H2,aj,(by exact Qv)⟩ ?_
 rintro _ f0 w1 ⟨q,k_,ys,ng,rfl,s0,s1,s2,s3,H3,sU,hs⟩
 refine sq<|az<|ai J s3<|ai J s0<|k<|dD J J ey<|k<|lss J J J J<|z<|nx<|cd (b:=decide ((k_:Int)<(xs.length:Int))) J J (fun b1=>?_)<|fun b1=>?_
 ·
  have p1:=dT b1
  refine sk<|nx<|sq<|bk<|az<|ai J s0<|ai J s3<|k<|gW (H3.at_ 0 J) J J J J (by have h_:=hs.2.2.1;first|omega|(simp only[fF,iB,oG,gj];omega)) ey cL ?_
  intro g0 x0 iC aM cz
  refine k<|nF cz cL J J ?_
  intro v0 cw
  obtain⟨_,⟨_,_,rfl,⟨rfl,d_⟩,⟨_,_,rfl,⟨rfl,dZ⟩,⟨rfl,fy⟩⟩⟩,rfl⟩:=cw
  refine k<|al H3 cL ?_
  let J6:=own w.heap.size 122 (.slice dW xs.length dS) ys
  let dz:=J1::bU fW ng::ba
  intro aZ w2 bY (H4:HI M w w2 ((box aZ #[I 0,I 0,I 0] 122::J6::dz)++r))
  refine k<|bw H4 0 J cL J J J J J J J ?_
  let J7:=box aZ #[I x0.1,I x0.2.1,I x0.2.2] 122
  intro w3 (H5:HI M w w3 ((J7::J6::dz)++r))
  refine bz<|ai J s1<|k<|cB H5 0 J cL J J au J<|k ?_
  have H6:HI M w w3 (dz++([J7,J6]++r)):=HI.aP (l:=(J7::J6::dz)) (l':=[J1,bU fW ng,J2,J3,J4,J5,J7,J6]) (t:=r) H5 [2,3,4,5,6,7,0,1] au J J
  have cU:=Ei (fC:=x0.1) (fE:=x0.2.1) (gE:=x0.2.2) (kB:=kB) (fW:=fW) (met:=ng) (mD:=mD) (mn:=mn) (bD:=bD) (bC:=bC) (mr:=mr) (mF:=mF) (j8:=j8) (j6:=j6) (kp:=kp) (w:=w) (w_:=w3) (r:=([J7,J6]++r)) (M:=M) d_ dZ fy ga (by exact bZ) H6
  refine cf Yg J J J (ec J e0) cU ?_
  rintro _ w4 ⟨rfl,H7⟩
  let iW:=[J1,bU fW (((fc mn mr kp) ng (x0.1,x0.2.1,x0.2.2)).2),J2,J3,J4,J5,J7,J6]
  have H8:HI M w w4 (iW++r):=H7
  refine k<|jY J J<|z<|nx<|cd (b:=!(((fc mn mr kp) ng (x0.1,x0.2.1,x0.2.2)).1)) J J (fun b2=>?_)<|fun b2=>?_
  ·
   refine az<|ai J s0<|ai J s2<|k<|cB H8 6 J cL J J au J<|k<|gW (H8.at_ 7 J) J J J J (by have h_:=hs.2.2.1;first|omega|(simp only[fF,iB,oG,gj];omega)) ey cL ?_
   intro g1 x1 kn cQ gL
   refine k<|oQ H8 7 J kn J (by have h_:=hs.2.2.1;first|omega|(simp only[fF,iB,oG,gj];omega)) cL J J J J ⟨_,⟨_,_,J,⟨J,(show aJ (x0.1) from bo)⟩,⟨_,_,J,⟨J,(show aJ (x0.2.1) from bo)⟩,⟨J,(show aJ (x0.2.2) from bo)⟩⟩⟩,J⟩ ?_
   let J8:=own w.heap.size 122 (.slice dW xs.length dS) (ys.set q.toNat (x0.1,x0.2.1,x0.2.2))
   let fm:=[J1,bU fW (((fc mn mr kp) ng (x0.1,x0.2.1,x0.2.2)).2),J2,J3,J4,J5,J7,J8]
   intro w5 (H9:HI M w w5 (fm++r))
   refine aq<|rg<|ai J s2<|k<|add J J J J aR<|ak (v:=I (q+1)) J J<|z<|aG<|nx<|rg<|ai J s3<|k<|add J J J J aR<|ak (v:=I ((k_:Int)+1)) J J<|z ?_
   let kx:=J8::J1::bU fW (((fc mn mr kp) ng (x0.1,x0.2.1,x0.2.2)).2)::ba
   have dO:HI M w w5 (kx++r):=HI.aP (l:=fm) (l':=kx) (t:=r) H9 [7,0,1,2,3,4,5] au J J
   refine bF _ ?_ ⟨(q+1),(k_+1),(ys.set q.toNat (x0.1,x0.2.1,x0.2.2)),(((fc mn mr kp) ng (x0.1,x0.2.1,x0.2.2)).2),J,s0,s1,(bG J),(bG J),dO,aj,(by exact Z8 hs aM (by simpa using b2))⟩
   omega
  refine sk<|aG<|nx<|rg<|ai J s3<|k<|add J J J J aR<|ak (v:=I ((k_:Int)+1)) J J<|z ?_
  let rn:=J6::J1::bU fW (((fc mn mr kp) ng (x0.1,x0.2.1,x0.2.2)).2)::ba
  have H9:HI M w w4 (rn++r):=HI.aP (l:=iW) (l':=rn) (t:=r) H8 [7,0,1,2,3,4,5] au J J
  refine bF _ ?_ ⟨q,(k_+1),ys,(((fc mn mr kp) ng (x0.1,x0.2.1,x0.2.2)).2),J,s0,s1,(bG s2),(bG J),H9,aj,(by exact Z9 hs aM (by simpa using b2))⟩
  omega
 have p1:=dF b1
 refine ex<|aV<|bc<|bg<|cO<|ai J s0<|ai J s2<|k<|UI (H3.at_ 0 J) J J J J (by have h_:=hs.2.2.1;first|omega|(simp only[fF,iB,oG,gj];omega)) ey cL<|k<|clE H3 0 J J J (q:=q.toNat) J ey cL (by have h_:=hs.2.2.1;omega) ?_
 intro w2 (H4:HI M w w2 ((own w.heap.size 122 (.slice dW xs.length dS) (ys.take q.toNat++List.replicate (ys.length-q.toNat) (0,0,0))::J1::bU fW ng::ba)++r))
 refine bz<|ai J s0<|ai J s2<|k<|RB H4 0 J J J J J (by have h_:=hs.2.2.1;first|omega|(simp only[fF,iB,oG,gj];omega)) ey cL ?_
 intro (H5:HI M w w2 ((oL w 122 dW ((ys.take q.toNat++List.replicate (ys.length-q.toNat) (0,0,0)).take q.toNat) dS::J1::bU fW ng::ba)++r))
 refine ak (v:=sL dW ((ys.take q.toNat++List.replicate (ys.length-q.toNat) (0,0,0)).take q.toNat) dS) J J<|aq<|rt<|r1 J J ?_
 have e0:((ys.take q.toNat++List.replicate (ys.length-q.toNat) (0,0,0)).take q.toNat:List _)=((gm (fc mn mr kp) met xs).1):=by exact(TM hs aj aj _).1
 have e1:(ng:List ((Int×Int)×Bool))=((gm (fc mn mr kp) met xs).2):=by exact(TM hs aj aj []).2
 try rw[←e0]
 try rw[←e1]
 refine⟨?_,?_⟩
 · first|rfl|simp only[e0,e1]|(simp only[am'])
 · first|exact H5|simpa +zetaDelta only[e0,e1,am'] using H5
theorem PH (hM:eO M w) (hT:fU 0 w) (dL:cD M w aw av U) (gb:cD M w ay ax fo) (ga:aJ mn) (gv:cD M w bD bC mr) (aiy:cD M w j8 j6 kp) (dB:U.length≤4096) (ez:fo.length=U.length) (fL:∀x∈fo,x<((U.length:Nat):Int)) (bZ:bK mn mr=true):Calls aI 142 #[.agg #[.slice aC aE aB,sL aw U av,sL ay fo ax],.agg #[I mn,sL bD mr bC],sL j8 kp j6] w (cp fun v w'=>∃(a0:OA) (c0:Nat),v=.slice a0 (gD mn mr kp (cK U fo mn mr)).length c0∧Ext w w'∧bm M 122 w (gD mn mr kp (cK U fo mn mr)) (.slice a0 (gD mn mr kp (cK U fo mn mr)).length c0) w'):=by
 refine dG 14 Tryz.func142 J J J hM fun f0 ha H=>?_
 let J0:=iL aw U av
 have H0:=H.put (it:=J0) J<|by rw[bP];exact dL
 let J1:=iL ay fo ax
 have H1:=H0.put (it:=J1) J<|by rw[aD rfl,bP];exact gb
 let J2:=iL bD mr bC
 have H2:=H1.put (it:=J2) J<|by rw[aD rfl,aD rfl,bP];exact gv
 let J3:=iL j8 kp j6
 have H3:=H2.put (it:=J3) J<|by rw[aD rfl,aD rfl,aD rfl,bP];exact aiy
 have i0:f0 0=.agg #[.slice aC aE aB,sL aw U av,sL ay fo ax]:=ha 0 bl
 have i1:f0 1=.agg #[I mn,sL bD mr bC]:=ha 1 bl
 have i2:f0 2=sL j8 kp j6:=ha 2 bl
 refine az<|k<|bx H3 J i0 ?_
 let ba:=[J3,J2,J1,J0]
 intro aZ w0 bY (H4:HI M w w0 (box aZ #[.slice aC aE aB,sL aw U av,sL ay fo ax] 47::ba))
 let J4:=box aZ #[.slice aC aE aB,sL aw U av,sL ay fo ax] 47
 refine k<|bx H4 J i1 ?_
 intro aY w1 cT (H5:HI M w w1 (box aY #[I mn,sL bD mr bC] 26::J4::ba))
 let J5:=box aY #[I mn,sL bD mr bC] 26
 refine k<|bx H5 J i2 ?_
 intro bJ w2 fk (H6:HI M w w2 (box bJ #[sL j8 kp j6] 27::J5::J4::ba))
 let J6:=box bJ #[sL j8 kp j6] 27
 refine ak (v:=.slice none 0 0) J J<|bz<|k<|mmP H6 ?_
 intro dQ w3 fN (H7:HI M w w3 (bU dQ ([]:List ((Int×Int)×Bool))::J6::J5::J4::ba))
 refine k<|al H7 J' ?_
 let bV:=bU dQ ([]:List ((Int×Int)×Bool))::J6::J5::J4::ba
 intro fh w4 iP (H8:HI M w w4 (box fh #[.map none] 215::bV))
 refine k<|bw H8 0 J J' J J J J J J J ?_
 let J7:=box fh #[.map (some dQ)] 215
 intro w5 (H9:HI M w w5 (J7::bV))
 refine bz<|k<|cB H9 4 J eh J J au J<|k<|cB H9 3 J bp J J au J<|k ?_
 have bS:=uV (U:=U) (fo:=fo) (mn:=mn) (mr:=mr) (aC:=aC) (aE:=aE) (aB:=aB) H9.mb (hT.ext H9.below) (H9.rv 8 J) (H9.rv 7 J) ga (H9.rv 6 J) (by exact dB) (by exact ez) (by exact fL)<|by exact bZ
 refine ca QC J (ec J<|ec J e0) bS ?_
 rintro _ w6 ⟨a0,c0,rfl,jc,cw⟩
 have dO:=H9.eT cw
 refine k<|mf J<|k ?_
 have cV:HI M w w6 ([oL w 122 a0 (cK U fo mn mr) c0,J7,bU dQ ([]:List ((Int×Int)×Bool)),J5,J2,J6,J3]++[J4,J1,J0]):=dO.bX [0,1,2,4,7,3,6,5,8,9] au J
 have cU:=FX (dW:=a0) (dS:=c0) (xs:=(cK U fo mn mr)) (kB:=fh) (fW:=dQ) (met:=([]:List ((Int×Int)×Bool))) (mD:=aY) (mn:=mn) (bD:=bD) (bC:=bC) (mr:=mr) (mF:=bJ) (j8:=j8) (j6:=j6) (kp:=kp) (w:=w) (w_:=w6) (r:=[J4,J1,J0]) (M:=M) ga (by exact bZ) cV
 refine ca afv J (ec J<|ec J e0) cU ?_
 rintro _ w7 ⟨rfl,du⟩
 have dJ:HI M w w7 [oL w 122 a0 ((gm (fc mn mr kp) ([]:List ((Int×Int)×Bool)) (cK U fo mn mr)).1) c0,J7,bU dQ ((gm (fc mn mr kp) ([]:List ((Int×Int)×Bool)) (cK U fo mn mr)).2),J5,J2,J6,J3,J4,J1,J0]:=du
 refine ak (v:=sL a0 ((gm (fc mn mr kp) ([]:List ((Int×Int)×Bool))<|cK U fo mn mr).1) c0) J J<|aq<|rt<|r1 J J ?_
 have e0:(((gm (fc mn mr kp) ([]:List ((Int×Int)×Bool)) (cK U fo mn mr)).1):List (Int×Int×Int))=gD mn mr kp (cK U fo mn mr):=rfl
 have bu:=iK (fun (cg:List (Int×Int×Int))=>(.slice a0 cg.length c0:Value)) e0
 exact⟨a0,c0,bu,dJ.below,(am_ (fun (x_:List (Int×Int×Int))=>bm _ _ _ x_ (.slice a0 x_.length c0) _) e0).mp (dJ.dp 0 J)⟩
end Go.Proofs.YtgjakhpjmapelaaGreatDoor
