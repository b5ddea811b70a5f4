/- PRINTED by my own tool (wip/tool/gen.py): contracts of Go functions of this seat, each with its proof. -/
import Derived.Test.YtgjakhpjmapelaaGreatDoorProg
import Derived.Test.YtgjakhpjmapelaaGreatDoorVwnB
import Derived.Test.YtgjakhpjmapelaaGreatDoorVwnA
import Derived.Test.YtgjakhpjmapelaaGreatDoorVwnC
import Derived.Test.YtgjakhpjmapelaaGreatDoorVwnD
set_option linter.unusedVariables false
set_option linter.unusedSimpArgs false
namespace Go.Proofs.YtgjakhpjmapelaaGreatDoor
open Go.Ew Go.RowKit
set_option maxRecDepth 100000
set_option maxHeartbeats 1600000
attribute [local irreducible] WL WC SO PW PX PZ WE Code.wp wpList si cm
attribute [local irreducible] ko xJ jz fk ei AE Dq Ll words eh cY jK fF vJ
theorem cF {P:Program} {g:Nat} {fn:Func} {c:Code} (h:P.funcs[g]? =some fn) (hb:fn.body=some c:=by exact rfl) (hn:(fn.name== "runtime.NumGoroutine")=false:=by kernel_rfl):cx P g:=⟨fn,c,h,hb,hn⟩
theorem jT {P:Program} {s:TypeId} {j o:Nat} {fs:Array _} {fd:_} (h:P.underlying s=some (.struct fs)) (h1:fs[j]? =some fd:=by exact rfl) (h2:fd.offset=o:=by exact rfl) (h3:((P.info? fd.type).map fun i=>Nat.beq i.size 0)=some false:=by kernel_rfl):gR P s j o:=⟨fs,fd,h,h1,h2,h3⟩
theorem dR {M0 M1:Nat→Prop} {w0 w:World} {l:List Go.Ew.Item} {α:Type} [GT α] {a:OA} {c:Nat} {xs:List α} (H:HI M0 w0 w l) (h:RV M1 w (.slice a xs.length c) xs) (e:MS M0 l=M1:=by first|with_reducible rfl|(repeat first|rw[bP]|rw[aH rfl])):HI M0 w0 w (iL a xs c::l):=H.put (it:=iL a xs c) rfl (by rw[e];exact h)
noncomputable abbrev aI:Program:=Tryz.prog
theorem aR {x:Int} (h:aK x:=by first|assumption|(unfold aK at *;omega)):aK x:=h
theorem ao_ {p:Prop} (h:p:=by first|omega|assumption|simp):p:=h
theorem aS {p:Prop} (h:p:=by kernel_rfl):p:=h
theorem bH {v:Value} {k:IntKind} {a b:Int} (h:v=.int k a) (e:a=b:=by first|rfl|omega|simp):v=.int k b:=e▸h
theorem dx {M0:Nat→Prop} {P:Program} {g:FuncId} {fn:Func} {c:Code} {args:Array Value} {w:World} {R:Value→World→Prop} (n:Nat) (hf:P.funcs[g]? =some fn) (hb:fn.body=some c) (hn:fn.ntmps=n) (ha:Nat.ble args.size n=true) (hM:∀b,M0 b→b<w.heap.size) (h:∀f:aO,(∀(i:Nat) {v:Value},args.toList[i]? =some v→f i=v)→HI M0 w w []→WC P n c (si P n fn R) f w):Calls P g args w (cm R):=
  enter n hf hb hn ha fun f h1=>h f (fun i v hv=>by
    rw[aph] at hv
    obtain⟨h2,h3⟩:=aor.1 hv
    rw[←h3]
    exact h1 i h2) (HI.start hM)
theorem qk {w:World}:∀b,(fun _:Nat=>False) b→b<w.heap.size:=fun _ h=>h.elim
theorem k0 {F S:OA→Nat→Value} {D:Nat→Prop} {α:Type} [GT α] {X:List α}:r5 (fun N v w=>∃(a:OA) (c:Nat),v=F a c∧RV (MN D N) w (S a c) X):=
  ⟨by rintro _ _ _ _ x_ ⟨a,c,e_,r⟩;exact⟨a,c,e_,r.lift (Up.ext x_)⟩,by rintro _ _ _ _ _ k_ ⟨a,c,e_,r⟩;exact⟨a,c,e_,ij r k_⟩⟩
theorem oq {F S:OA→Nat→Value} {D:Nat→Prop} {α:Type} [GT α] {X:List α}:r5 (fun _ v w=>∃(a:OA) (c:Nat),v=F a c∧RV D w (S a c) X):=
  mN (by rintro _ _ _ x_ ⟨a,c,e_,r⟩;exact⟨a,c,e_,r.lift (Up.ext x_)⟩)
abbrev cA {α:Type} [GT α] (M:Nat→Prop) (w:World) (a:OA) (c:Nat) (l:List α):Prop:=RV M w (.slice a l.length c) l
abbrev eJ (M:Nat→Prop) (w:World):Prop:=∀b,M b→b<w.heap.size
section
variable {P:Program} {n id:Nat} {l:List Oper} {y:Code} {Q:Exit→Act→World→Prop} {f:aO} {w:World} {ops:Array Oper}
theorem aq (h:WC P n y Q f w):WL P n ops (Exit.then (fun a w=>y.wp P Q a w) Q) [] f w:=z (nx h)
theorem az (h:WL P n l.toArray (Exit.then (fun a w=>y.wp P Q a w) Q) l f w):WC P n (.seq (.region id l.toArray false) y) Q f w:=sq (rg h)
theorem bw (h:WL P n l.toArray (Exit.then (fun a w=>y.wp P Q a w) Q) l f w):WL P n ops (Exit.then (fun a w=>(Code.seq (.region id l.toArray false) y).wp P Q a w) Q) [] f w:=z (nx (sq (rg h)))
section
variable {rest:List Oper} {d t j off bb:Nat} {dd:Option Nat} {x:Operand} {v z:Value} {ty T t2:TypeId} {ps:String} {af:Array Edge} {ad:Addr} {op:Op} {want b:Bool} {bytes:Nat} {cs:Array Value} {M0:Nat→Prop} {w0:World} {l:List Go.Ew.Item}
theorem bO {ag:UN} {zk:ZK} {ks:List ZK} {ae:World→Prop} {K0:UN→aO→Prop} {rest:List Oper} {o:Oper} {w0:World} (h:PW P n ops w0 (fun f'=>PZ P n ops w0 ae K0 rest ks ag f') [o] f) (hz:KY zk=true:=by exact rfl) (hf:(lu n o&&D8 ops o ag)=true:=by exact rfl):PW P n ops w0 (fun f=>PZ P n ops w0 ae K0 (o::rest) (zk::ks) ag f) [] f:=zq (yq hz hf h)
theorem ai (ox:bD n x=true) (hx:ev f x=v) (h:WL P n ops Q rest (cg f d v) w):WL P n ops Q (⟨some d,.move x,ty,ps,af,none⟩::rest) f w:=k (mv ox hx h)
theorem ak (ox:bD n x=true) (hx:ev f x=v) (h:WL P n ops Q rest (cg f d v) w):WL P n ops Q (⟨some d,.assign x,ty,ps,af,none⟩::rest) f w:=k (jM ox hx h)
theorem aQ (F:gR P T j off) (ox:bD n x=true) (hx:ev f x=.pointer (some ad)) (h:WL P n ops Q rest (cg f d (.pointer (some (ad.add off)))) w):WL P n ops Q (⟨some d,.fieldAddr T x j,ty,ps,af,none⟩::rest) f w:=k (fa F ox hx h)
theorem aX (hj:xO ops j=some t) (ht:Nat.blt t n=true) (hv:f t=.bool b) (hb:b=!want) (h:WL P n ops Q rest (cW f dd undef) w):WL P n ops Q (⟨dd,op,ty,ps,af,some (j,want)⟩::rest) f w:=k (gn hj ht hv hb h)
theorem aZ (hj:xO ops j=some t) (ht:Nat.blt t n=true) (hv:f t=.bool b) (hb:b=want) (h:SO P n ops ⟨dd,op,ty,ps,af,none⟩ f w (WL P n ops Q rest)):WL P n ops Q (⟨dd,op,ty,ps,af,some (j,want)⟩::rest) f w:=k (gy hj ht hv hb h)
theorem bo (H:HI M0 w0 w l) (i:Nat) (hi:l[i]? =some (box bb cs t2)) (F:ep P T 1 false bytes z) (ox:bD n x=true) (hx:ev f x=.pointer (some ⟨bb,off,none⟩)) (hl:((cs.toList.drop off).take 1).length=1) (h:WL P n ops Q rest (cg f d (sF false ((cs.toList.drop off).take 1))) w):WL P n ops Q (⟨some d,.load T x,ty,ps,af,none⟩::rest) f w:=k (lx H i hi F ox hx hl h)
end
theorem cO (h:WL P n l.toArray (Exit.then (fun a w=>y.wp P Q a w) Q) l f w):Exit.then (fun a w=>(Code.seq (.region id l.toArray false) y).wp P Q a w) Q .normal (cj n f) w:=nx (sq (rg h))
end
variable {M:bY} {w w_:aG}
variable {i n n1 fz fC gH mR mQ nq mn j o vr tR:Int} {x:bp} {jN wq wo mz bC dU aC aw ay zd j7:OA} {jZ wm wj mS dN qv xZ bB aD aB av eZ ax bM yZ kD fV mG mH j5:Nat} {a b:List bp} {l xs fo rM kp:aA} {r:List Go.Ew.Item} {qA:List Value} {p:Int→Bool} {Ii Lc:TypeId} {mr:List (List bp)} {U:List aN} {met:List ((Int×Int)×Bool)}
theorem DV:aI.underlying 152=some (.int .u64):=aS
theorem zU:aI.underlying 3=some (.int .i64):=aS
theorem Rg:cx aI 127:=cF Tryz.func127
theorem XN:aI.underlying 227=some (.array 64 5):=aS
theorem I6:ep aI 5 1 false 1 (.int .u8 0):=⟨aS,aS⟩
theorem Ei:aI.underlying 5=some (.int .u8):=aS
theorem agj:cx aI 157:=cF Tryz.func157
theorem ir:aI.underlying 144=some (.slice 151):=aS
theorem Y2:cx aI 124:=cF Tryz.func124
theorem ft:ep aI 151 1 false 8 (.int .u64 0):=⟨aS,aS⟩
theorem agA:cx aI 125:=cF Tryz.func125
theorem Rh:cx aI 126:=cF Tryz.func126
theorem agB:cx aI 123:=cF Tryz.func123
theorem agy:cx aI 129:=cF Tryz.func129
theorem cM:aI.underlying 27=some (.slice 3):=aS
theorem aU:ep aI 3 1 false 8 (.int .i64 0):=⟨aS,aS⟩
theorem Fg (qT:aK i):Calls aI 127 #[I i] w (cm fun v w'=>v=ag (ko i)∧Ext w w'):=by
 refine dx 9 Tryz.func127 J J J qk fun f0 ha H=>?_
 have i0:f0 0=I i:=ha 0 bj
 refine az<|ak (v:=ag (0#64)) J J<|aq<|sq<|az<|ai J i0<|k<|PE J J zU DV<|k<|YV (BitVec.ofInt 64 i) (63#64) J J J J<|z<|nx<|cd (b:=decide ((63#64).toNat<(BitVec.ofInt 64 i).toNat)) J J (fun b0=>?_)<|fun b0=>?_
 ·
  have p0:=dT b0
  refine az<|ak (v:=ag (0#64)) J J<|aq<|rt<|aL<|r1 J J ?_
  exact⟨an0 ag (by exact aa9 qT p0),H.below⟩
 have p0:=dF b0
 refine sk<|cO<|ai J i0<|k<|PE J J zU DV<|k<|abJ (1#64) ((BitVec.ofInt 64 i).toNat:Int) aj J J J J<|ak (v:=ag ((1#64) <<< ((BitVec.ofInt 64 i).toNat:Int).toNat)) J J<|aq<|rt<|r1 J J ?_
 exact⟨an0 ag (by exact aa8 qT p0),H.below⟩
theorem Ve (qT:aK i):Calls aI 125 #[ag x,I i] w (cm fun v w'=>v=.bool (xJ x i)∧Ext w w'):=by
 refine dx 10 Tryz.func125 J J J qk fun f0 ha H=>?_
 have i0:f0 0=ag x:=ha 0 bj
 have i1:f0 1=I i:=ha 1 bj
 refine az<|ak (v:=.bool false) J J<|bw<|ai J i0<|ai J i1<|k ?_
 have bR:=Fg (i:=i) (w:=w) qT
 refine ca Rg J (ec J e0) bR ?_
 rintro _ w0 ⟨rfl,bW⟩
 have H0:=H.ext bW
 refine k<|DA x (ko i) J J J J<|k<|neU (x &&& (ko i)) (0#64) J J J J<|ak (v:=.bool (!decide ((x &&& (ko i))=(0#64)))) J J<|aq<|rt<|r1 J J ?_
 exact⟨an0 Value.bool (by exact aaC _ _),H0.below⟩
theorem ZA (hT:fS 0 w):Calls aI 157 #[ag x] w (cm fun v w'=>v=I ((fF x:Nat):Int)∧Ext w w'):=by
 refine dx 14 Tryz.func157 J J J qk fun f0 ha H=>?_
 have i0:f0 0=ag x:=ha 0 bj
 refine az<|ak (v:=I 0) J J<|aq<|sq<|az<|ai J i0<|k<|eqU x (0#64) J J J J<|z<|nx<|cd (b:=decide (x=(0#64))) J J (fun b0=>?_)<|fun b0=>?_
 ·
  have p0:=dT b0
  refine az<|ak (v:=I 64) J J<|aq<|rt<|aL<|r1 J J ?_
  exact⟨an0 (Value.int .i64) (by have e_:=p0;subst e_;rw[EM];rfl),H.below⟩
 have p0:=dF b0
 refine sk<|cO<|ai J i0<|ai J i0<|k<|acp x J J<|k<|DA x (-x) J J J J<|k<|FJ (x &&& (-x)) (285870213051353865#64) J J J J<|k<|DW ((x &&& (-x))*(285870213051353865#64)) 58 J J J J<|k<|aiK (i:=(((x &&& (-x))*(285870213051353865#64)) >>> 58).toNat) J J J J (by exact Fb (by simpa using p0)) XN I6<|k<|ld8 (aiv (M:=fun _=>False) hT H.below J<|by exact Fb (by simpa using p0)) I6 J J<|k<|Zc J J aR Ei zU<|ak (v:=I ((vJ (((x &&& (-x))*(285870213051353865#64)) >>> 58).toNat).toNat:Int)) J J<|aq<|rt<|r1 J J ?_
 exact⟨an0 (Value.int .i64) (by exact Vb (by simpa using p0)),H.below⟩
theorem P7 (hT:fS 0 w):Calls aI 129 #[ag x] w (cm fun v w'=>v=I ((fF x:Nat):Int)∧Ext w w'):=by
 refine dx 5 Tryz.func129 J J J qk fun f0 ha H=>?_
 have i0:f0 0=ag x:=ha 0 bj
 refine az<|ak (v:=I 0) J J<|bw<|ai J i0<|k ?_
 have bR:=ZA (x:=x) (w:=w)<|hT.ext H.below
 refine ca agj J (ec J e0) bR ?_
 rintro _ w0 ⟨rfl,bW⟩
 have H0:=H.ext bW
 refine ak (v:=I ((fF x:Nat):Int)) J J<|aq<|rt<|r1 J J ?_
 exact⟨J,H0.below⟩
theorem Sj {r:List bp} (hM:eJ M w) (pL:cA M w jN jZ r) (qT:aK i):Calls aI 124 #[sL jN r jZ,I i] w (cm fun v w'=>v=.bool (jz r i)∧Ext w w'):=by
 refine dx 14 Tryz.func124 J J J hM fun f0 ha H=>?_
 have H0:=dR H pL
 have Wf:=bg pL
 have i0:f0 0=sL jN r jZ:=ha 0 bj
 have i1:f0 1=I i:=ha 1 bj
 refine az<|ak (v:=.bool false) J J<|bw<|ai J i1<|k<|geq J J J J<|ai (v:=.bool (decide (0≤i))) J J ?_
 rcases bE (decide (0≤i)) with b0|b0
 ·
  have p0:=dT b0
  refine aZ J J J b0<|mv J i1<|aZ J J J b0<|Lt J J J J<|aZ J J J b0<|mv J i0<|aZ J J J b0<|dL J J ir<|aZ J J J b0<|lss J J J J<|k<|aP J J J J b0 J<|ak (v:=.bool (decide ((i/64)<(r.length:Int)))) J J<|aq<|rt<|r1 J J ?_
  exact⟨an0 Value.bool (by exact aaz p0),H0.below⟩
 have p0:=dF b0
 refine aX J J J b0<|aX J J J b0<|aX J J J b0<|aX J J J b0<|aX J J J b0<|k<|dG J J J J b0 J<|ak (v:=.bool false) J J<|aq<|rt<|r1 J J ?_
 exact⟨an0 Value.bool (by exact acR aj),H0.below⟩
theorem z1 {r:List bp} (hM:eJ M w) (pL:cA M w jN jZ r) (qT:aK i):Calls aI 85 #[sL jN r jZ,I i] w (cm fun v w'=>v=.bool (fk r i)∧Ext w w'):=by
 refine dx 18 Tryz.func85 J J J hM fun f0 ha H=>?_
 have H0:=dR H pL
 have i0:f0 0=sL jN r jZ:=ha 0 bj
 have i1:f0 1=I i:=ha 1 bj
 refine az<|ak (v:=.bool false) J J<|bw<|ai J i0<|ai J i1<|k ?_
 have bR:=Sj (r:=r) (i:=i) H0.mb (H0.rv 0 J) qT
 refine ca Y2 J (ec J<|ec J e0) bR ?_
 rintro _ w0 ⟨rfl,bW⟩
 have H1:=H0.ext bW
 refine ai (v:=.bool (jz r i)) J J ?_
 rcases bE (jz r i) with b0|b0
 ·
  refine aZ J J J b0<|mv J i0<|aZ J J J b0<|mv J i1<|aZ J J J b0<|Lt J J J J<|aZ J J J b0<|ia (H1.rv 0 J) J J J J (by have hb:=b0;unfold jz at hb;simp only[an2] at hb;omega) ir ft ?_
  intro iG x0 aM cw
  refine aZ J J J b0<|yK cw.w ft J J<|aZ J J J b0<|mv J i1<|aZ J J J b0<|KU J J J J<|aZ J J J b0 ?_
  have cU:=Ve (x:=x0) (i:=(i%64)) (w:=w0) aR
  refine ca agA J (ec J<|ec J e0) cU ?_
  rintro _ w1 ⟨rfl,df⟩
  have H2:=H1.ext df
  refine k<|aP J J J J b0 J<|ak (v:=.bool (xJ x0<|i%64)) J J<|aq<|rt<|r1 J J ?_
  exact⟨an0 Value.bool (by exact aaF b0 aM),H2.below⟩
 refine aX J J J b0<|aX J J J b0<|aX J J J b0<|aX J J J b0<|aX J J J b0<|aX J J J b0<|aX J J J b0<|aX J J J b0<|k<|dG J J J J b0 J<|ak (v:=.bool false) J J<|aq<|rt<|r1 J J ?_
 exact⟨an0 Value.bool (by exact xK b0),H1.below⟩
theorem Dt {r:List bp} (hM:eJ M w) (pL:cA M w jN jZ r) (Wy:r.length≤1000000000):Calls aI 126 #[sL jN r jZ] w (cm fun v w'=>∃(a0:OA) (c0:Nat),v=sL a0 r c0∧Ext w w'∧bl M 151 w r (sL a0 r c0) w'):=by
 refine dx 8 Tryz.func126 J J J hM fun f0 ha H=>?_
 have H0:=dR H pL
 have i0:f0 0=sL jN r jZ:=ha 0 bj
 refine az<|ak (v:=.slice none 0 0) J J<|aq<|sq<|az<|ai J i0<|k<|T' J J J J ir<|z<|nx<|cd (b:=jN.isNone) J J (fun b0=>?_)<|fun b0=>?_
 ·
  refine az<|ak (v:=.slice none 0 0) J J<|aq<|rt<|aL<|r1 J J ?_
  have e0:([]:List bp)=r:=by exact(Ip pL b0).symm
  have bq:=iF (fun (b9:List bp)=>(.slice none b9.length 0:Value)) e0
  exact⟨none,0,bq,H0.below,(an0 (fun (x_:List bp)=>bl _ _ _ x_ (.slice none x_.length 0) _) e0).mp (fQ H0.below)⟩
 refine sk<|cO<|k<|bs (xs:=([]:List bp)) (cells:=#[]) (e:=151) H0 J ew (fun _=>aS) J J au ?_
 intro g0 w0 bW H1
 refine ai J i0<|k<|lV H1 0 J J J J J J (H1.rv 1 J).src ir ft J (by simp;omega) J ?_
 intro a0 c0 w1 (H2:HI M w w1 [oL w 151 a0 r c0,iL jN r jZ])
 refine ak (v:=sL a0 r c0) J J<|aq<|rt<|r1 J J ?_
 exact⟨a0,c0,J,H2.below,(H2.dt 0 J)⟩
theorem uu {r:List bp} (hM:eJ M w) (pL:cA M w jN jZ r) (qT:aK i) (Wy:r.length≤1000000000):Calls aI 86 #[sL jN r jZ,I i] w (cm fun v w'=>∃(a0:OA) (c0:Nat),v=.slice a0 (ei r i).length c0∧Ext w w'∧bl M 151 w (ei r i) (.slice a0 (ei r i).length c0) w'):=by
 refine dx 22 Tryz.func86 J J J hM fun f0 ha H=>?_
 have H0:=dR H pL
 have i0:f0 0=sL jN r jZ:=ha 0 bj
 have i1:f0 1=I i:=ha 1 bj
 refine az<|ak (v:=.slice none 0 0) J J<|bw<|ai J i0<|k ?_
 have bR:=Dt (r:=r) H0.mb (H0.rv 0 J) aj
 refine ca Rh J (ec J e0) bR ?_
 rintro _ w0 ⟨a0,c0,rfl,bW,cu⟩
 have H1:=H0.eP cu
 refine ak (v:=sL a0 r c0) J J<|aq<|sq<|az<|ai J i0<|ai J i1<|k ?_
 have cU:=Sj (r:=r) (i:=i) H1.mb (H1.rv 1 J) qT
 refine ca Y2 J (ec J<|ec J e0) cU ?_
 rintro _ w1 ⟨rfl,df⟩
 have H2:=H1.ext df
 refine z<|nx<|cd (b:=jz r i) J J (fun b0=>?_)<|fun b0=>?_
 ·
  refine my [.r,.r,.r,.r,.r,.r,.r,.r,.r,.e,.e] (fun _=>True) J aS (fun _ _=>trivial)<|yq J J<|kq (fun _ _=>mv (v:=sL a0 r c0) J J e1)<|bO<|kq (fun _ _=>mv J i1 e1)<|bO<|kq (fun _ _=>Lt J J J J e1)<|bO<|th (H2.at_ 0 J) J J J J (by have hb:=b0;unfold jz at hb;simp only[an2] at hb;omega) ir ft ?_
  intro iG x0 aM cw
  refine bO<|afP cw ft J J<|bO<|kq (fun _ _=>mv J i1 e1)<|bO<|kq (fun _ _=>KU J J J J e1)<|zq<|yq J J<|kq (v:=ag (ko<|i%64)) (fun v_ _=>have cc:=Fg (i:=(i%64)) (w:=v_) aR;ca Rg rfl (ec J e0) cc fun _ _ h_=>e2 h_)<|bO<|kq (fun _ _=>SP x0 (ko<|i%64) J J J J e1)<|zq<|ye<|ye<|yz ?_
  intro w2 f0 _ eS _ _ cC iT
  have H3:=H2.ext eS
  have s0:=cC 5 J
  have s1:=cC 11 J
  have s2:=cC 13 J
  have s3:=cC 19 J
  refine kc<|iz (H3.at_ 0 J) J J s1 s2 (by have hb:=b0;unfold jz at hb;simp only[an2] at hb;omega) ir ft ?_
  intro g0 x1 iE cQ gN
  refine kc<|qj H3 0 J iE J (by have hb:=b0;unfold jz at hb;simp only[an2] at hb;omega) ft J J J s3 (RV.bv.2 J) ?_
  intro w3 (H4:HI M w w3 [own w.heap.size 151 (.slice a0 r.length c0) (r.set ((i/64).toNat) (x0 ||| (ko (i%64)))),iL jN r jZ])
  refine kz<|cO<|ai J s0<|ak (v:=sL a0 r c0) J J<|aq<|rt<|r1 J J ?_
  have e0:(r.set ((i/64).toNat) (x0 ||| (ko (i%64))):List bp)=ei r i:=by exact OD b0 aM
  have l0:r.length=(ei r i).length:=by rw[←e0];simp
  have bq:=iF (fun (u6:Nat)=>(.slice a0 u6 c0:Value)) l0
  exact⟨a0,c0,bq,H4.below,(an0 (fun (n_:Nat)=>bl _ _ _ (ei r i) (.slice a0 n_ c0) _) l0).mp ((an0 (fun (x_:List bp)=>bl _ _ _ x_ (.slice a0 r.length c0) _) e0).mp (H4.dt 0 J))⟩
 refine sk<|cO<|ai (v:=sL a0 r c0) J J<|ak (v:=sL a0 r c0) J J<|aq<|rt<|r1 J J ?_
 have e0:(r:List bp)=ei r i:=by exact Fm b0
 have bq:=iF (fun (b9:List bp)=>(.slice a0 b9.length c0:Value)) e0
 exact⟨a0,c0,bq,H2.below,(an0 (fun (x_:List bp)=>bl _ _ _ x_ (.slice a0 x_.length c0) _) e0).mp (H2.dt 0 J)⟩
theorem Sk (ME:aK n) (hn:n≤1000000000000000000):Calls aI 123 #[I n] w (cm fun v w'=>v=I ((words n:Nat):Int)∧Ext w w'):=by
 refine dx 8 Tryz.func123 J J J qk fun f0 ha H=>?_
 have i0:f0 0=I n:=ha 0 bj
 refine az<|ak (v:=I 0) J J<|bw<|ai J i0<|k<|max2 J J J J<|k<|add J J J J aR<|k<|sub J J J J aR<|k<|quo J J J J aj<|ak (v:=I ((((max n 0)+64)-1)/64)) J J<|aq<|rt<|r1 J J ?_
 exact⟨an0 (Value.int .i64) (by unfold words;omega),H.below⟩
theorem DY (hM:eJ M w) (ME:aK n) (hn:n≤1000000):Calls aI 84 #[I n] w (cm fun v w'=>∃(a0:OA) (c0:Nat),v=.slice a0 (eh n).length c0∧Ext w w'∧bl M 151 w (eh n) (.slice a0 (eh n).length c0) w'):=by
 refine dx 6 Tryz.func84 J J J hM fun f0 ha H=>?_
 have i0:f0 0=I n:=ha 0 bj
 refine az<|ak (v:=.slice none 0 0) J J<|bw<|ai J i0<|k ?_
 have bR:=Sk (n:=n) (w:=w) ME aj
 refine ca agB J (ec J e0) bR ?_
 rintro _ w0 ⟨rfl,bW⟩
 have H0:=H.ext bW
 refine k<|mk (m:=(words n:Nat)) (zx:=(0#64:bp)) H0 J J J J ir ft (fun _ _=>rfl) (by unfold words;omega) (by unfold words;omega) ?_
 intro g0 w1 df (H1:HI M w w1 [own w.heap.size 151 (.slice (some ⟨g0,0,none⟩) (words n:Nat) (words n:Nat)) (List.replicate (words n:Nat) (0#64:bp))])
 refine ak (v:=.slice (some ⟨g0,0,none⟩) (words n:Nat) (words n:Nat)) J J<|aq<|rt<|r1 J J ?_
 have e0:((List.replicate (words n:Nat) (0#64:bp)):List bp)=eh n:=by unfold eh;rfl
 have l0:(words n:Nat)=(eh n).length:=by rw[←e0];simp
 have bq:=iF (fun (u6:Nat)=>(.slice (some ⟨g0,0,none⟩) u6 (words n:Nat):Value)) l0
 exact⟨(some ⟨g0,0,none⟩),(words n:Nat),bq,H1.below,(an0 (fun (n_:Nat)=>bl _ _ _ (eh n) (.slice (some ⟨g0,0,none⟩) n_ (words n:Nat)) _) l0).mp ((an0 (fun (x_:List bp)=>bl _ _ _ x_ (.slice (some ⟨g0,0,none⟩) (words n:Nat) (words n:Nat)) _) e0).mp (H1.dt 0 J))⟩
theorem ab6 (hM:eJ M w) (TK:cA M w wq wm a) (Dc:cA M w wo wj b) (ai7:a.length≤1000000000) (am9:b.length≤1000000000):Calls aI 135 #[sL wq a wm,sL wo b wj] w (cm fun v w'=>∃(a0:OA) (c0:Nat),v=.slice a0 (jK a b).length c0∧Ext w w'∧bl M 151 w (jK a b) (.slice a0 (jK a b).length c0) w'):=by
 refine dx 33 Tryz.func135 J J J hM fun f0 ha H=>?_
 have H0:=dR H TK
 have H1:=dR H0 Dc
 have aiI:=bg TK
 have aiH:=bg Dc
 have i0:f0 0=sL wq a wm:=ha 0 bj
 have i1:f0 1=sL wo b wj:=ha 1 bj
 refine az<|ak (v:=.slice none 0 0) J J<|aq<|sq<|az<|ai J i0<|k<|dL J J ir<|ai J i1<|k<|dL J J ir<|k<|lss J J J J<|z<|nx<|cd (b:=decide ((a.length:Int)<(b.length:Int))) J J (fun b0=>?_)<|fun b0=>?_
 ·
  have p0:=dT b0
  refine rg<|ai J i1<|ai J i0<|ak (v:=sL wo b wj) J J<|ak (v:=sL wq a wm) J J<|bw<|ai (v:=sL wo b wj) J J<|k ?_
  have bR:=Dt (r:=b) H1.mb (H1.rv 0 J) aj
  refine ca Rh J (ec J e0) bR ?_
  rintro _ w0 ⟨a0,c0,rfl,bW,cu⟩
  have H2:=H1.eP cu
  refine ak (v:=sL a0 b c0) J J<|aq<|sq<|az<|ai (v:=sL wq a wm) J J<|k<|dL J J ir<|ai (v:=I 0) J J<|aq<|bk<|lp (fun m f w'=>∃(j:Nat) (xs:List bp),m=a.length-j∧f 5=sL a0 b c0∧f 17=sL wq a wm∧f 18=I (a.length:Int)∧f 19=I (j:Int)∧HI M w w' [own w.heap.size 151 (.slice a0 b.length c0) xs,iL wo b wj,iL wq a wm]∧(j≤a.length)∧(xs.length=b.length)∧(xs=qe b.length b a b j)) _ ⟨0,b,J,J,J,J,(bH J),H2,aj,(by rfl),(by exact CM _ _ _)⟩ ?_
  rintro _ f0 w1 ⟨j,xs,rfl,s0,s1,s2,s3,H3,hk,hl,hs⟩
  refine az<|k<|lss J J s3 s2<|aq<|sq<|cd (b:=decide ((j:Int)<(a.length:Int))) J J (fun b1=>?_)<|fun b1=>?_
  ·
   have p1:=dT b1
   refine sk<|nx<|sq<|bk<|az<|ai J s3<|k<|ia (H3.rv 2 J) J J s1 s3 aj ir ft ?_
   intro iG x0 aM cw
   refine k<|yK cw.w ft J J<|ak (v:=I (j:Int)) J J<|ak (v:=ag x0) J J<|aq<|rg<|ai J s0<|ai (v:=I (j:Int)) J J<|k<|iz (H3.at_ 0 J) J J J J aj ir ft ?_
   intro g0 x1 iE cQ gN
   refine k<|yK gN ft J J<|ai (v:=ag x0) J J<|k<|SP x1 x0 J J J J<|k<|iz (H3.at_ 0 J) J J J J aj ir ft ?_
   intro g1 x2 kT gZ kf
   refine k<|qj H3 0 J kT J aj ft J J J J (RV.bv.2 J) ?_
   intro w2 (H4:HI M w w2 [own w.heap.size 151 (.slice a0 b.length c0) (xs.set ((j:Int).toNat) (x1 ||| x0)),iL wo b wj,iL wq a wm])
   refine z<|aF<|nx<|rg<|k<|add J J s3 J aR<|ai (v:=I ((j:Int)+1)) J J<|z<|bF _ ?_ ⟨(j+1),(xs.set ((j:Int).toNat) (x1 ||| x0)),J,s0,s1,s2,(bH J),H4,aj,(by simpa using hl),(by have e1:=Ba (hs▸cQ);have e2:=wQ aM;rw[hs];exact FC (by rw[e1];unfold tk;rw[e2]))⟩
   omega
  have p1:=dF b1
  refine ex<|aT<|aY<|bf<|cO<|ai J s0<|ak (v:=sL a0 b c0) J J<|aq<|rt<|r1 J J ?_
  have e0:(xs:List bp)=jK a b:=by rw[hs];first|exact xo aj (fun i h1 h2=>yA aj)|(rw[LR];exact xo aj (fun i h1 h2=>yA aj))
  have l0:b.length=(jK a b).length:=by rw[←e0];omega
  have bq:=iF (fun (u6:Nat)=>(.slice a0 u6 c0:Value)) l0
  exact⟨a0,c0,bq,H3.below,(an0 (fun (n_:Nat)=>bl _ _ _ (jK a b) (.slice a0 n_ c0) _) l0).mp ((an0 (fun (x_:List bp)=>bl _ _ _ x_ (.slice a0 b.length c0) _) e0).mp (H3.dt 0 J))⟩
 have p0:=dF b0
 refine sk<|cO<|ai J i0<|k ?_
 have bR:=Dt (r:=a) H1.mb (H1.rv 1 J) aj
 refine ca Rh J (ec J e0) bR ?_
 rintro _ w0 ⟨a0,c0,rfl,bW,cu⟩
 have H2:=H1.eP cu
 refine ak (v:=sL a0 a c0) J J<|aq<|sq<|az<|ai J i1<|k<|dL J J ir<|ai (v:=I 0) J J<|aq<|bk<|lp (fun m f w'=>∃(j:Nat) (xs:List bp),m=b.length-j∧f 5=sL a0 a c0∧f 17=sL wo b wj∧f 18=I (b.length:Int)∧f 19=I (j:Int)∧HI M w w' [own w.heap.size 151 (.slice a0 a.length c0) xs,iL wo b wj,iL wq a wm]∧(j≤b.length)∧(xs.length=a.length)∧(xs=qe a.length a b a j)) _ ⟨0,a,J,J,J,J,(bH J),H2,aj,(by rfl),(by exact CM _ _ _)⟩ ?_
 rintro _ f0 w1 ⟨j,xs,rfl,s0,s1,s2,s3,H3,hk,hl,hs⟩
 refine az<|k<|lss J J s3 s2<|aq<|sq<|cd (b:=decide ((j:Int)<(b.length:Int))) J J (fun b1=>?_)<|fun b1=>?_
 ·
  have p1:=dT b1
  refine sk<|nx<|sq<|bk<|az<|ai J s3<|k<|ia (H3.rv 1 J) J J s1 s3 aj ir ft ?_
  intro iG x0 aM cw
  refine k<|yK cw.w ft J J<|ak (v:=I (j:Int)) J J<|ak (v:=ag x0) J J<|aq<|rg<|ai J s0<|ai (v:=I (j:Int)) J J<|k<|iz (H3.at_ 0 J) J J J J aj ir ft ?_
  intro g0 x1 iE cQ gN
  refine k<|yK gN ft J J<|ai (v:=ag x0) J J<|k<|SP x1 x0 J J J J<|k<|iz (H3.at_ 0 J) J J J J aj ir ft ?_
  intro g1 x2 kT gZ kf
  refine k<|qj H3 0 J kT J aj ft J J J J (RV.bv.2 J) ?_
  intro w2 (H4:HI M w w2 [own w.heap.size 151 (.slice a0 a.length c0) (xs.set ((j:Int).toNat) (x1 ||| x0)),iL wo b wj,iL wq a wm])
  refine z<|aF<|nx<|rg<|k<|add J J s3 J aR<|ai (v:=I ((j:Int)+1)) J J<|z<|bF _ ?_ ⟨(j+1),(xs.set ((j:Int).toNat) (x1 ||| x0)),J,s0,s1,s2,(bH J),H4,aj,(by simpa using hl),(by have e1:=Ba (hs▸cQ);have e2:=wQ aM;rw[hs];exact FC (by rw[e1];unfold tk;rw[e2]))⟩
  omega
 have p1:=dF b1
 refine ex<|aT<|aY<|bf<|cO<|ai J s0<|ak (v:=sL a0 a c0) J J<|aq<|rt<|r1 J J ?_
 have e0:(xs:List bp)=jK a b:=by rw[hs];first|exact xo aj (fun i h1 h2=>yA aj)|(rw[LR];exact xo aj (fun i h1 h2=>yA aj))
 have l0:a.length=(jK a b).length:=by rw[←e0];omega
 have bq:=iF (fun (u6:Nat)=>(.slice a0 u6 c0:Value)) l0
 exact⟨a0,c0,bq,H3.below,(an0 (fun (n_:Nat)=>bl _ _ _ (jK a b) (.slice a0 n_ c0) _) l0).mp ((an0 (fun (x_:List bp)=>bl _ _ _ x_ (.slice a0 a.length c0) _) e0).mp (H3.dt 0 J))⟩
theorem uv {r:List bp} (hM:eJ M w) (hT:fS 0 w) (pL:cA M w jN jZ r) (Wy:r.length≤1000000000):Calls aI 89 #[sL jN r jZ] w (cm fun v w'=>∃(a0:OA) (c0:Nat),v=.slice a0 (cY r).length c0∧Ext w w'∧bl M 3 w (cY r) (.slice a0 (cY r).length c0) w'):=by
 refine dx 29 Tryz.func89 J J J hM fun f0 ha H=>?_
 have H0:=dR H pL
 have Wf:=bg pL
 have i0:f0 0=sL jN r jZ:=ha 0 bj
 refine az<|ak (v:=.slice none 0 0) J J<|bw<|ak (v:=.slice none 0 0) J J<|aq<|sq<|az<|ai J i0<|k<|dL J J ir<|ai (v:=I 0) J J<|aq<|bk ?_
 have H1:=H0.qf Int 3
 refine lp (fun m f w'=>∃(j:Nat) (xs:aA) (a0:OA) (c0:Nat),m=r.length-j∧f 3=sL a0 xs c0∧f 6=sL jN r jZ∧f 7=I (r.length:Int)∧f 8=I (j:Int)∧HI M w w' [oL w 3 a0 xs c0,iL jN r jZ]∧(j≤r.length)∧(xs=rL r j)) _ ⟨0,([]:aA),none,0,J,J,J,J,(bH J),H1,aj,(by rfl)⟩ ?_
 rintro _ f0 w0 ⟨j,xs,a0,c0,rfl,s0,s1,s2,s3,H2,hk,hs⟩
 refine az<|k<|lss J J s3 s2<|aq<|sq<|cd (b:=decide ((j:Int)<(r.length:Int))) J J (fun b0=>?_)<|fun b0=>?_
 ·
  have p0:=dT b0
  refine sk<|nx<|sq<|bk<|az<|ai J s3<|k<|ia (H2.rv 1 J) J J s1 s3 aj ir ft ?_
  intro iG x0 aM cw
  refine k<|yK cw.w ft J J<|ak (v:=I (j:Int)) J J<|ak (v:=ag x0) J J<|aq<|bk<|lp (fun m f w'=>∃(y:bp) (ys:aA) (a1:OA) (c1:Nat),m=(oF y).length∧f 3=sL a1 ys c1∧f 4=I (j:Int)∧f 5=ag y∧f 6=sL jN r jZ∧f 7=I (r.length:Int)∧f 8=I (j:Int)∧HI M w w' [oL w 3 a1 ys c1,iL jN r jZ]∧(ys++ql j y=rL r j++ql j x0)) _ ⟨x0,xs,a0,c0,J,s0,J,(Ot J<|by rfl),s1,s2,s3,H2,(by rw[hs])⟩ ?_
  rintro _ f1 w1 ⟨y,ys,a1,c1,rfl,s4,s5,s6,s7,s8,s9,H3,hy⟩
  refine sq<|az<|ai J s6<|k<|neU y (0#64) J J J J<|z<|nx<|cd (b:=!decide (y=(0#64))) J J (fun b1=>?_)<|fun b1=>?_
  ·
   have p1:=dF<|fX b1
   refine sk<|nx<|sq<|bk<|rg<|ai J s4<|ai J s5<|k<|mul J J J J (by have h_:=yV y;unfold aK;omega)<|ai J s6<|k ?_
   have bR:=P7 (x:=y) (w:=w1)<|hT.ext H3.below
   refine ca agy J (ec J e0) bR ?_
   rintro _ w2 ⟨rfl,bW⟩
   have H4:=H3.ext bW
   refine k<|add J J J J (by have h_:=yV y;unfold aK;omega)<|k<|bs (xs:=([((j:Int)*64)+((fF y:Nat):Int)]:aA)) (cells:=#[I (((j:Int)*64)+((fF y:Nat):Int))]) (e:=3) H4 J (ck J ew) (fun _=>aS) ⟨[I (((j:Int)*64)+((fF y:Nat):Int))],[],J,⟨J,(show aK (((j:Int)*64)+((fF y:Nat):Int)) from(by have h_:=yV y;unfold aK;omega))⟩,J⟩ J au ?_
   intro g0 w3 df H5
   refine k<|lV H5 1 J J J J J J (gX<|H5.at_ 0 J) cM aU J (by have h_:=an0 List.length hy;simp only[fJ] at h_;have h1:=vO r j;have h2:=CY j x0;simp only[iS,gA];omega) J ?_
   intro a2 c2 w4 (H6:HI M w w4 [own w.heap.size 3 (.slice (some ⟨g0,0,none⟩) 1 1) ([((j:Int)*64)+((fF y:Nat):Int)]:aA),oL w 3 a2 (ys++([((j:Int)*64)+((fF y:Nat):Int)]:aA)) c2,iL jN r jZ])
   refine ak (v:=sL a2 (ys++([((j:Int)*64)+((fF y:Nat):Int)]:aA)) c2) J J<|z<|aF<|nx<|rg<|ai J s6<|ai J s6<|k<|abC y (1#64) J J J J<|k<|DA y (y-(1#64)) J J J J<|ak (v:=ag (y &&& (y-(1#64)))) J J<|z ?_
   have H7:HI M w w4 [oL w 3 a2 (ys++([((j:Int)*64)+((fF y:Nat):Int)]:aA)) c2,iL jN r jZ]:=H6.bV [1,2] au J
   refine bF _ ?_ ⟨(y &&& (y-(1#64))),(ys++([((j:Int)*64)+((fF y:Nat):Int)]:aA)),a2,c2,J,J,s5,(Ot J<|by rfl),s7,s8,s9,H7,(by rw[aoA,←hy,QS (show y≠0#64 by simpa using p1)];rfl)⟩
   exact Rx<|by simpa using p1
  have p1:=dT<|fw b1
  refine ex<|aT<|aY<|bf<|aF<|nx<|rg<|k<|add J J s9 J (by have h_:=yV y;unfold aK;omega)<|ai (v:=I ((j:Int)+1)) J J<|z<|bF _ ?_ ⟨(j+1),ys,a1,c1,J,s4,s7,s8,(bH J),H3,aj,(by rw[zo,wQ aM];have e_:y=0#64:=(by simpa using p1);subst e_;rw[QR,aps] at hy;exact hy)⟩
  omega
 have p0:=dF b0
 refine ex<|aT<|aY<|bf<|cO<|ai J s0<|ak (v:=sL a0 xs c0) J J<|aq<|rt<|r1 J J ?_
 have e0:(xs:aA)=cY r:=by rw[hs];unfold cY;congr 1;omega
 have bq:=iF (fun (b9:aA)=>(.slice a0 b9.length c0:Value)) e0
 exact⟨a0,c0,bq,H2.below,(an0 (fun (x_:aA)=>bl _ _ _ x_ (.slice a0 x_.length c0) _) e0).mp (H2.dt 0 J)⟩
theorem YY:cx aI 141:=cF Tryz.func141
theorem kV:gR aI 122 0 0:=jT Tryz.underlying122
theorem Rk:cx aI 105:=cF Tryz.func105
theorem mW:gR aI 122 1 1:=jT Tryz.underlying122
theorem sP:gR aI 122 2 2:=jT Tryz.underlying122
theorem agK:cx aI 104:=cF Tryz.func104
theorem JY (adX:aK n1):Calls aI 141 #[I n1] w (cm fun v w'=>v=.bool false∧Ext w w'):=by
 refine dx 6 Tryz.func141 J J J qk fun f0 ha H=>?_
 have i0:f0 0=I n1:=ha 0 bj
 refine az<|ak (v:=.bool false) J J<|bw<|ai J i0<|ai J i0<|k<|neq J J J J<|ak (v:=.bool (!decide (n1=n1))) J J<|aq<|rt<|r1 J J ?_
 exact⟨an0 Value.bool bj,H.below⟩
theorem zE {n2:Int} (adX:aK n1) (ajg:aK n2):Calls aI 105 #[I n1,I n2] w (cm fun v w'=>v=I (fG n1 n2)∧Ext w w'):=by
 refine dx 20 Tryz.func105 J J J qk fun f0 ha H=>?_
 have i0:f0 0=I n1:=ha 0 bj
 have i1:f0 1=I n2:=ha 1 bj
 refine az<|ak (v:=I 0) J J<|bw<|ai J i0<|k ?_
 have bR:=JY (n1:=n1) (w:=w) adX
 refine ca YY J (ec J e0) bR ?_
 rintro _ w0 ⟨rfl,bW⟩
 have H0:=H.ext bW
 refine ak (v:=.bool false) J J<|bw<|ai J i1<|k ?_
 have cU:=JY (n1:=n2) (w:=w0) ajg
 refine ca YY J (ec J e0) cU ?_
 rintro _ w1 ⟨rfl,df⟩
 have H1:=H0.ext df
 refine ak (v:=.bool false) J J<|aq<|sq<|az<|ai (v:=.bool false) J J<|aq<|pk J J J<|sk<|nx<|sq<|az<|ai (v:=.bool false) J J<|aq<|pk J J J<|sk<|nx<|sq<|az<|ai J i0<|ai J i1<|k<|lss J J J J<|z<|nx<|cd (b:=decide (n1<n2)) J J (fun b0=>?_)<|fun b0=>?_
 ·
  refine az<|ak (v:=I (-1)) J J<|aq<|rt<|aL<|r1 J J ?_
  exact⟨an0 (Value.int .i64) (by simp only[fG,b0,BL]),H1.below⟩
 refine sk<|nx<|sq<|az<|ai J i0<|ai J i1<|k<|gtr J J J J<|z<|nx<|cd (b:=decide (n2<n1)) J J (fun b1=>?_)<|fun b1=>?_
 ·
  refine az<|ak (v:=I 1) J J<|aq<|rt<|aL<|r1 J J ?_
  exact⟨an0 (Value.int .i64) (by simp only[fG,b0,b1,BL]),H1.below⟩
 refine sk<|cO<|ak (v:=I 0) J J<|aq<|rt<|r1 J J ?_
 exact⟨an0 (Value.int .i64) (by simp only[fG,b0,b1,BL]),H1.below⟩
theorem aeN (hM:eJ M w) (xL:cA M w mz mS l):Calls aI 104 #[sL mz l mS] w (cm fun v w'=>v=I (CN l)∧Ext w w'):=by
 refine dx 18 Tryz.func104 J J J hM fun f0 ha H=>?_
 have H0:=dR H xL
 have acF:=bg xL
 have i0:f0 0=sL mz l mS:=ha 0 bj
 refine az<|ak (v:=I 0) J J<|bw<|ak (v:=I 0) J J<|aq<|sq<|az<|ai J i0<|k<|dL J J cM<|ai (v:=I 0) J J<|aq<|bk<|lp (fun m f w'=>∃(j_:Nat),m=l.length-j_∧f 3=I 0∧f 6=sL mz l mS∧f 7=I (l.length:Int)∧f 8=I (j_:Int)∧HI M w w' [iL mz l mS]∧(j_≤l.length)∧(∀y∈l.take j_,y=0)) _ ⟨0,J,J,J,J,(bH J),H0,aj,bj⟩ ?_
 rintro _ f0 w0 ⟨j_,rfl,s0,s1,s2,s3,H1,pj,hs⟩
 refine az<|k<|lss J J s3 s2<|aq<|sq<|cd (b:=decide ((j_:Int)<(l.length:Int))) J J (fun b0=>?_)<|fun b0=>?_
 ·
  have p0:=dT b0
  refine sk<|nx<|sq<|bk<|az<|k<|ia (H1.rv 0 J) J J s1 s3 aj cM aU ?_
  intro iG x0 aM cw
  refine k<|mP cw.w aU J J ?_
  intro cu
  refine ak (v:=I x0) J J<|bw<|ai (v:=I x0) J J<|ai J s0<|k<|neq J J J J<|z<|nx<|cd (b:=!decide (x0=0)) J J (fun b1=>?_)<|fun b1=>?_
  ·
   have p1:=dF<|fX b1
   refine az<|ai (v:=I x0) J J<|ak (v:=I x0) J J<|aq<|rt<|bS<|aL<|dY<|bS<|aL<|r1 J J ?_
   exact⟨an0 (Value.int .i64) (by exact(OT hs (by rw[dq] at aM;exact aM)<|by simpa using b1).symm),H1.below⟩
  have p1:=dT<|fw b1
  refine sk<|aF<|nx<|rg<|k<|add J J s3 J aR<|ai (v:=I ((j_:Int)+1)) J J<|z<|bF _ ?_ ⟨(j_+1),J,s0,s1,s2,(bH J),H1,aj,(by exact Zz hs aM (by simpa using b1))⟩
  omega
 have p0:=dF b0
 refine ex<|aT<|aY<|bf<|cO<|ai J s0<|ak (v:=I 0) J J<|aq<|rt<|r1 J J ?_
 exact⟨an0 (Value.int .i64) (by exact(LU<|by rw[an_ aj] at hs;exact hs).symm),H1.below⟩
theorem M7 (Bw:aK fz) (D6:aK fC) (Bv:aK gH) (YO:aK mR) (YN:aK mQ) (YM:aK nq):Calls aI 103 #[.agg #[I fz,I fC,I gH],.agg #[I mR,I mQ,I nq]] w (cm fun v w'=>v=I (xU (fz,fC,gH) (mR,mQ,nq))∧Ext w w'):=by
 refine dx 22 Tryz.func103 J J J qk fun f0 ha H=>?_
 have i0:f0 0=.agg #[I fz,I fC,I gH]:=ha 0 bj
 have i1:f0 1=.agg #[I mR,I mQ,I nq]:=ha 1 bj
 refine az<|k<|bx H J i0 ?_
 intro aW w0 bW (H0:HI (fun _=>False) w w0 [box aW #[I fz,I fC,I gH] 122])
 refine k<|bx H0 J i1 ?_
 intro ba w1 df (H1:HI (fun _=>False) w w1 [box ba #[I mR,I mQ,I nq] 122,box aW #[I fz,I fC,I gH] 122])
 refine ak (v:=I 0) J J<|aq<|sq<|Uj J aS<|xq J<|kq (fun _ _=>fa kV J J e1)<|zq<|xq J<|kq (fun _ x_=>lx (H1.ext x_) 1 J aU J J J e1)<|zq<|xq J<|kq (fun _ _=>fa kV J J e1)<|zq<|xq J<|kq (fun _ x_=>lx (H1.ext x_) 0 J aU J J J e1)<|zq<|xq J<|kq (v:=I (fG fz mR)) (fun v_ x_=>?_) ?_
 ·
  have cc:=zE (n1:=fz) (n2:=mR) (w:=v_) Bw YO
  exact ca Rk J (ec J<|ec J e0) cc fun _ _ h_=>e2 h_
 refine zq<|xq J<|kq (fun _ _=>fa mW J J e1)<|zq<|xq J<|kq (fun _ x_=>lx (H1.ext x_) 1 J aU J J J e1)<|zq<|xq J<|kq (fun _ _=>fa mW J J e1)<|zq<|xq J<|kq (fun _ x_=>lx (H1.ext x_) 0 J aU J J J e1)<|zq<|xq J<|kq (v:=I (fG fC mQ)) (fun v_ x_=>?_) ?_
 ·
  have cc:=zE (n1:=fC) (n2:=mQ) (w:=v_) D6 YN
  exact ca Rk J (ec J<|ec J e0) cc fun _ _ h_=>e2 h_
 refine zq<|xq J<|kq (fun _ _=>fa sP J J e1)<|zq<|xq J<|kq (fun _ x_=>lx (H1.ext x_) 1 J aU J J J e1)<|zq<|xq J<|kq (fun _ _=>fa sP J J e1)<|zq<|xq J<|kq (fun _ x_=>lx (H1.ext x_) 0 J aU J J J e1)<|zq<|xq J<|kq (v:=I (fG gH nq)) (fun v_ x_=>?_) ?_
 ·
  have cc:=zE (n1:=gH) (n2:=nq) (w:=v_) Bv YM
  exact ca Rk J (ec J<|ec J e0) cc fun _ _ h_=>e2 h_
 refine zq<|xu (fun v w'=>∃(a0:OA) (c0:Nat),v=sL a0 ([fG fz mR,fG fC mQ,fG gH nq]:aA) c0∧RV H1.fg w' (sL a0 ([fG fz mR,fG fC mQ,fG gH nq]:aA) c0) ([fG fz mR,fG fC mQ,fG gH nq]:aA)) J (by rintro _ _ _ x_ ⟨a0,c0,e_,cu⟩;exact⟨a0,c0,e_,cu.lift (Up.ext x_)⟩) J (fun v_ x_=>?_) ?_
 ·
  have H4:=H1.ext x_
  refine bs (xs:=([fG fz mR,fG fC mQ,fG gH nq]:aA)) (cells:=#[I (fG fz mR),I (fG fC mQ),I (fG gH nq)]) (e:=3) H4 J (ck J<|ck J<|ck J ew) (fun _=>aS) ⟨[I (fG fz mR)],[I (fG fC mQ),I (fG gH nq)],J,⟨J,(show aK (fG fz mR) from(by exact Gf _ _))⟩,⟨[I (fG fC mQ)],[I (fG gH nq)],J,⟨J,(show aK (fG fC mQ) from(by exact Gf _ _))⟩,⟨[I (fG gH nq)],[],J,⟨J,(show aK (fG gH nq) from(by exact Gf _ _))⟩,J⟩⟩⟩ J au ?_
  intro g1 w3 fH (H5:HI (fun _=>False) w w3 [own w.heap.size 3 (.slice (some ⟨g1,0,none⟩) 3 3) ([fG fz mR,fG fC mQ,fG gH nq]:aA),box ba #[I mR,I mQ,I nq] 122,box aW #[I fz,I fC,I gH] 122])
  have H6:=H5.freeze 0 J
  exact⟨_,J,fH,⟨(some ⟨g1,0,none⟩),3,J,(l4 J<|H6.rv 0 J)⟩⟩
 refine xk1 (X:=I (CN ([fG fz mR,fG fC mQ,fG gH nq]:aA))) 0 J J (fun v_ _ x_ h_=>let ⟨a2,c2,s0,eb⟩:=h_;have H9:=(H1.ext x_).put (it:=iL a2 ([fG fz mR,fG fC mQ,fG gH nq]:aA) c2) rfl eb;have cc:=aeN (l:=([fG fz mR,fG fC mQ,fG gH nq]:aA)) H9.mb (H9.rv 0 J);ca agK rfl (ec s0 e0) cc fun _ _ h_=>e2 h_)<|xq J<|kq (fun _ _=>jM (v:=I (CN ([fG fz mR,fG fC mQ,fG gH nq]:aA))) J J e1)<|zq<|zx ?_
 intro w5 f0 jr cC iT
 have dE:=H1.ext jr
 have s1:=cC 4 J
 refine nx<|rt<|r1 J J ?_
 rw[s1]
 exact⟨an0 (Value.int .i64) (show (CN ([fG fz mR,fG fC mQ,fG gH nq]:aA))=(xU (fz,fC,gH) (mR,mQ,nq)) from rfl),dE.below⟩
set_option maxRecDepth 100000 in
set_option maxHeartbeats 1600000 in
def NQ:Go.Shelf.Ren:=⟨fun|6=>102|15=>140|14=>139|28=>166|29=>167|20=>158|21=>159|22=>160|23=>161|24=>162|25=>163|26=>164|27=>165|46=>179|47=>180|48=>181|49=>182|50=>183|57=>191|n=>n,fun|22=>119|24=>122|25=>159|3=>3|39=>152|0=>0|53=>214|55=>151|4=>4|46=>208|45=>207|50=>86|5=>5|9=>9|66=>228|70=>232|76=>241|77=>242|n=>n,fun|n=>n⟩
theorem Oy:Go.Proofs.SlLaysF0.n6 aI NQ:={
  mixed:=aS
  f6:=⟨Tryz.f102.name,by decide,Tryz.func102.trans (an0 some aS)⟩
  f14:=⟨Tryz.f139.name,by decide,Tryz.func139.trans (an0 some aS)⟩
  f15:=Tryz.func140.trans (an0 some aS)
  f20:=⟨Tryz.f158.name,by decide,Tryz.func158.trans (an0 some aS)⟩
  f21:=⟨Tryz.f159.name,by decide,Tryz.func159.trans (an0 some aS)⟩
  f22:=⟨Tryz.f160.name,by decide,Tryz.func160.trans (an0 some aS)⟩
  f23:=⟨Tryz.f161.name,by decide,Tryz.func161.trans (an0 some aS)⟩
  f24:=⟨Tryz.f162.name,by decide,Tryz.func162.trans (an0 some aS)⟩
  f25:=⟨Tryz.f163.name,by decide,Tryz.func163.trans (an0 some aS)⟩
  f26:=⟨Tryz.f164.name,by decide,Tryz.func164.trans (an0 some aS)⟩
  f27:=⟨Tryz.f165.name,by decide,Tryz.func165.trans (an0 some aS)⟩
  f28:=Tryz.func166.trans (an0 some aS)
  f29:=Tryz.func167.trans (an0 some aS)
  f46:=⟨Tryz.f179.name,by decide,Tryz.func179.trans (an0 some aS)⟩
  f47:=Tryz.func180.trans (an0 some aS)
  f48:=Tryz.func181.trans (an0 some aS)
  f49:=⟨Tryz.f182.name,by decide,Tryz.func182.trans (an0 some aS)⟩
  f50:=⟨Tryz.f183.name,by decide,Tryz.func183.trans (an0 some aS)⟩
  f57:=⟨Tryz.f191.name,by decide,Tryz.func191.trans (an0 some aS)⟩
  t0:=Tryz.underlying0
  a0:=Tryz.isAgg0
  z0:=Tryz.sizeOf0
  v0:=Tryz.zeroValue0
  t3:=Tryz.underlying3
  a3:=Tryz.isAgg3
  z3:=Tryz.sizeOf3
  v3:=Tryz.zeroValue3
  t4:=Tryz.underlying4
  a4:=Tryz.isAgg4
  z4:=Tryz.sizeOf4
  v4:=Tryz.zeroValue4
  t5:=Tryz.underlying5
  a5:=Tryz.isAgg5
  z5:=Tryz.sizeOf5
  v5:=Tryz.zeroValue5
  t9:=Tryz.underlying9
  a9:=Tryz.isAgg9
  z9:=Tryz.sizeOf9
  v9:=Tryz.zeroValue9
  t22:=Tryz.underlying119
  a22:=Tryz.isAgg119
  z22:=Tryz.sizeOf119
  v22:=Tryz.zeroValue119
  t25:=Tryz.underlying159
  a25:=Tryz.isAgg159
  z25:=Tryz.sizeOf159
  v25:=Tryz.zeroValue159
  t39:=Tryz.underlying152
  a39:=Tryz.isAgg152
  z39:=Tryz.sizeOf152
  v39:=Tryz.zeroValue152
  t45:=Tryz.underlying207
  a45:=Tryz.isAgg207
  z45:=Tryz.sizeOf207
  v45:=Tryz.zeroValue207
  t46:=Tryz.underlying208
  a46:=Tryz.isAgg208
  z46:=Tryz.sizeOf208
  v46:=Tryz.zeroValue208
  t50:=Tryz.underlying86
  a50:=Tryz.isAgg86
  z50:=Tryz.sizeOf86
  v50:=Tryz.zeroValue86
  t53:=Tryz.underlying214
  a53:=Tryz.isAgg214
  z53:=Tryz.sizeOf214
  v53:=Tryz.zeroValue214
  t55:=Tryz.underlying151
  a55:=Tryz.isAgg151
  z55:=Tryz.sizeOf151
  v55:=Tryz.zeroValue151
  t66:=Tryz.underlying228
  a66:=Tryz.isAgg228
  z66:=Tryz.sizeOf228
  v66:=Tryz.zeroValue228
  t70:=Tryz.underlying232
  a70:=Tryz.isAgg232
  z70:=Tryz.sizeOf232
  v70:=Tryz.zeroValue232
  t76:=Tryz.underlying241
  a76:=Tryz.isAgg241
  z76:=Tryz.sizeOf241
  v76:=Tryz.zeroValue241
  t77:=Tryz.underlying242
  a77:=Tryz.isAgg242
  z77:=Tryz.sizeOf242
  v77:=Tryz.zeroValue242}
theorem R6 (jI off size:Nat) (w:aG):Go.Proofs.CmpLays aI 103 #[] Rt 3 (fun x y:Cb=>xU x.1 y.1) jI off size w:=by
  intro m os dk _ x y
  obtain⟨⟨a1,a2,a3⟩,h1,h2,h3⟩:=x
  obtain⟨⟨b1,b2,b3⟩,k1,k2,k3⟩:=y
  refine(M7 h1 h2 h3 k1 k2 k3).mono ?_
  intro e w' h_
  unfold cm at h_
  obtain⟨v,rfl,rfl,hx⟩:=h_
  exact⟨J,hx.grow⟩
theorem R7 {dU:Option Addr} {xs:List eu} (hl:xs.length≤4611686018427387903) (H:HI M w w_ ([own w.heap.size 122 (.slice dU xs.length dN) xs]++r)):
    Calls aI 102 #[.slice dU xs.length dN,.func (.func 103) #[] #[]] w_ (cm fun v w'=>v=.tuple #[]∧HI M w w' ([own w.heap.size 122 (.slice dU xs.length dN) (wx xs)]++r)):=by
  have H0:=H.all _ (dz (i:=0) J)
  obtain⟨cs,⟨hn,ho⟩,hc⟩:=H0
  rcases ho with ⟨ho,h0⟩|⟨g,cap,cur,ho, -⟩
  · have hx:xs=[]:=ao5.1 h0
    subst hx
    cases ho
    refine(Go.Proofs.AnyF.slices_SortFunc_none Oy none 0 _ w_).mono ?_
    rintro e w' ⟨rfl,rfl⟩
    unfold cm
    exact⟨_,J,J,by rw[R8];exact H⟩
  cases ho
  obtain⟨bs,e0,hH,hb,hT⟩:=R5 (i:=0) (val:=fun b:Cb=>b.1) W1 H rfl
  have hn:xs.length=bs.toArray.size:=by rw[←e0];simp
  have eg:∀args w,(callFunc 103 args).run aI w=.ok (.enter 103 args) w:=enters_of Tryz.func103 aS J
  have h:=Go.Proofs.AnyQ.slices_SortFunc Oy 3 Tryz.isAgg122 Tryz.sizeOf122 Rt (fun _=>rfl) (fun x v hv=>by simp[Rt] at hv;rcases hv with rfl|rfl|rfl<;>rfl) (fun x y:Cb=>xU x.1 y.1) abB 103 #[] g 0 dN bs.toArray w_ eg (R6 _ _ _ _) hH hb<|by rw[←hn];omega
  rw[hn]
  refine h.mono ?_
  rintro e w' ⟨rfl,d',n,os,hp,hs,rfl⟩
  have e1:=Go.Sort.sorted_unique_holds abB aiu bs.toArray d' hp hs
  unfold cm
  refine⟨_,J,J,?_⟩
  have:=hT d'.toList n os<|by simpa using hp.1
  rw[←hn,←e0,R9,←e1,e0]
  exact this
theorem WH:cx aI 88:=cF Tryz.func88
theorem iq:aI.underlying 24=some (.slice 144):=aS
theorem dp:ep aI 144 1 false 24 (.slice none 0 0):=⟨aS,aS⟩
theorem kx:gR aI 26 0 0:=jT Tryz.underlying26
theorem ags:cx aI 138:=cF Tryz.func138
theorem agt:cx aI 137:=cF Tryz.func137
theorem bm:ep aI 26 2 true 32 (.agg #[.int .i64 0,.slice none 0 0]):=⟨aS,aS⟩
theorem Q':cx aI 84:=cF Tryz.func84
theorem Y6:cx aI 101:=cF Tryz.func101
theorem iB:gR aI 26 1 1:=jT Tryz.underlying26
theorem lh:ep aI 24 1 false 24 (.slice none 0 0):=⟨aS,aS⟩
theorem agc:cx aI 178:=cF Tryz.func178
theorem F1:cx aI 86:=cF Tryz.func86
theorem ML:cx aI 85:=cF Tryz.func85
theorem vQ {r:aA} (hM:eJ M w) (pL:cA M w jN jZ r) (Az:FP aI qv qA M w r p):Calls aI 88 #[sL jN r jZ,.func (.func qv) #[] qA.toArray] w (cm fun v w'=>v=I (eF p r)∧Ext w w'):=by
 refine dx 19 Tryz.func88 J J J hM fun f0 ha H=>?_
 have H0:=dR H pL
 have Wf:=bg pL
 have i0:f0 0=sL jN r jZ:=ha 0 bj
 have i1:f0 1=.func (.func qv) #[] qA.toArray:=ha 1 bj
 refine az<|ak (v:=I 0) J J<|aq<|sq<|az<|ai J i0<|k<|dL J J cM<|ai (v:=I 0) J J<|aq<|bk<|lp (fun m f w'=>∃(j:Nat),m=r.length-j∧f 0=sL jN r jZ∧f 1=.func (.func qv) #[] qA.toArray∧f 7=I (r.length:Int)∧f 8=I (j:Int)∧HI M w w' [iL jN r jZ]∧(j≤r.length)∧((r.take j).any p=false)) _ ⟨0,J,i0,i1,J,(bH J),H0,aj,bj⟩ ?_
 rintro _ f0 w0 ⟨j,rfl,s0,s1,s2,s3,H1,hk,hs⟩
 refine az<|k<|lss J J s3 s2<|aq<|sq<|cd (b:=decide ((j:Int)<(r.length:Int))) J J (fun b0=>?_)<|fun b0=>?_
 ·
  have p0:=dT b0
  refine sk<|nx<|sq<|bk<|az<|ai J s3<|ak (v:=I (j:Int)) J J<|bw<|ai J s1<|ai J s0<|ai (v:=I (j:Int)) J J<|k<|ia (H1.rv 0 J) J J J J aj cM aU ?_
  intro iG x0 aM cw
  refine k<|mP cw.w aU J J ?_
  intro cu
  refine k<|cf Az.1 J J J (ec J e0) (Az.2 _ _ _ (by exact dz ‹_›) H1.below<|(RV.int.2 ⟨J,aR⟩).lift H1.out) ?_
  rintro _ w1 ⟨rfl,bW⟩
  have H2:=H1.ext bW
  refine z<|nx<|cd (b:=p x0) J J (fun b1=>?_)<|fun b1=>?_
  ·
   refine az<|ai (v:=I (j:Int)) J J<|ak (v:=I (j:Int)) J J<|aq<|rt<|bS<|aL<|dY<|bS<|aL<|r1 J J ?_
   exact⟨an0 (Value.int .i64) (by exact uA aM hs b1),H2.below⟩
  refine sk<|aF<|nx<|rg<|k<|add J J s3 J aR<|ai (v:=I ((j:Int)+1)) J J<|z<|bF _ ?_ ⟨(j+1),J,s0,s1,s2,(bH J),H2,aj,(by exact pE aM hs b1)⟩
  omega
 have p0:=dF b0
 refine ex<|aT<|aY<|bf<|cO<|ak (v:=I (-1)) J J<|aq<|rt<|r1 J J ?_
 exact⟨an0 (Value.int .i64) (by exact ve hs aj),H1.below⟩
theorem Gd {r:aA} (hM:eJ M w) (pL:cA M w jN jZ r) (Az:FP aI qv qA M w r p):Calls aI 137 #[sL jN r jZ,.func (.func qv) #[] qA.toArray] w (cm fun v w'=>v=.bool (r.any p)∧Ext w w'):=by
 refine dx 9 Tryz.func137 J J J hM fun f0 ha H=>?_
 have H0:=dR H pL
 have i0:f0 0=sL jN r jZ:=ha 0 bj
 have i1:f0 1=.func (.func qv) #[] qA.toArray:=ha 1 bj
 refine az<|ak (v:=.bool false) J J<|bw<|ai J i0<|ai J i1<|k ?_
 have bR:=vQ (r:=r) (p:=p) H0.mb (H0.rv 0 J)<|Az.sub H0.below U5
 refine ca WH J (ec J<|ec J e0) bR ?_
 rintro _ w0 ⟨rfl,bW⟩
 have H1:=H0.ext bW
 refine k<|geq J J J J<|ak (v:=.bool (decide (0≤(eF p r)))) J J<|aq<|rt<|r1 J J ?_
 exact⟨an0 Value.bool (by exact uB),H1.below⟩
theorem Rw {r:List (List bp)} (hM:eJ M w) (pL:cA M w jN jZ r) (Wy:r.length≤1000000000):Calls aI 178 #[sL jN r jZ] w (cm fun v w'=>∃(a0:OA) (c0:Nat),v=sL a0 r c0∧Ext w w'∧bl M 144 w r (sL a0 r c0) w'):=by
 refine dx 8 Tryz.func178 J J J hM fun f0 ha H=>?_
 have H0:=dR H pL
 have i0:f0 0=sL jN r jZ:=ha 0 bj
 refine az<|ak (v:=.slice none 0 0) J J<|aq<|sq<|az<|ai J i0<|k<|T' J J J J iq<|z<|nx<|cd (b:=jN.isNone) J J (fun b0=>?_)<|fun b0=>?_
 ·
  refine az<|ak (v:=.slice none 0 0) J J<|aq<|rt<|aL<|r1 J J ?_
  have e0:([]:List (List bp))=r:=by exact(Ip pL b0).symm
  have bq:=iF (fun (b9:List (List bp))=>(.slice none b9.length 0:Value)) e0
  exact⟨none,0,bq,H0.below,(an0 (fun (x_:List (List bp))=>bl _ _ _ x_ (.slice none x_.length 0) _) e0).mp (fQ H0.below)⟩
 refine sk<|cO<|k<|bs (xs:=([]:List (List bp))) (cells:=#[]) (e:=144) H0 J ew (fun _=>aS) J J au ?_
 intro g0 w0 bW H1
 refine ai J i0<|k<|lV H1 0 J J J J J J (H1.rv 1 J).src iq dp J (by simp;omega) J ?_
 intro a0 c0 w1 (H2:HI M w w1 [oL w 144 a0 r c0,iL jN r jZ])
 refine ak (v:=sL a0 r c0) J J<|aq<|rt<|r1 J J ?_
 exact⟨a0,c0,J,H2.below,(H2.dt 0 J)⟩
theorem aan {a_u:OA} {n_u c_u:Nat} (hM:eJ M w) (qT:aK i) (ME:aK n) (Dc:w.heap[xZ]? =some (.cells #[I n,.slice a_u n_u c_u] Ii (0,0))∧¬M xZ):Calls aI 138 #[I i,.pointer (some ⟨xZ,0,none⟩)] w (cm fun v w'=>v=.bool (CL n i)∧Ext w w'):=by
 refine dx 12 Tryz.func138 J J J hM fun f0 ha H=>?_
 have i0:f0 0=I i:=ha 0 bj
 have H0:=H.put (it:=ro xZ #[I n,.slice a_u n_u c_u] Ii) J<|by rw[bP];exact Dc
 have i1:f0 1=pV xZ 0:=ha 1 bj
 refine az<|ak (v:=.bool false) J J<|bw<|ai J i0<|k<|lss J J J J<|ai (v:=.bool (decide (i<0))) J J ?_
 rcases bE (decide (i<0)) with b0|b0
 ·
  refine aX J J J b0<|aX J J J b0<|aX J J J b0<|aX J J J b0<|k<|aP J J J J b0 J<|ak (v:=.bool true) J J<|aq<|rt<|r1 J J ?_
  exact⟨an0 Value.bool (by unfold CL;simp[b0]),H0.below⟩
 refine aZ J J J b0<|mv J i0<|aZ J J J b0<|fa kx J i1<|aZ J J J b0<|lr H0 0 J aU J J J<|aZ J J J b0<|geq J J J J<|k<|dG J J J J b0 J<|ak (v:=.bool (decide (n≤i))) J J<|aq<|rt<|r1 J J ?_
 exact⟨an0 Value.bool (by unfold CL;simp[b0]),H0.below⟩
theorem S2 {Ny:OA} {L5 Nb:Nat} (hM:eJ M w) (fY:aK mn) (xL:cA M w mz mS l):Calls aI 101 #[.agg #[I mn,.slice Ny L5 Nb],sL mz l mS] w (cm fun v w'=>v=.bool (kE mn l)∧Ext w w'):=by
 refine dx 9 Tryz.func101 J J J hM fun f0 ha H=>?_
 have H0:=dR H xL
 have i0:f0 0=.agg #[I mn,.slice Ny L5 Nb]:=ha 0 bj
 have i1:f0 1=sL mz l mS:=ha 1 bj
 refine az<|k<|bx H0 J i0 ?_
 intro aW w0 bW (H1:HI M w w0 [box aW #[I mn,.slice Ny L5 Nb] 26,iL mz l mS])
 refine ak (v:=.bool false) J J<|bw<|ai J i1<|k<|mf J<|k ?_
 have bR:=Gd (r:=l) (p:=(fun (x_:Int)=>CL mn x_)) H1.mb (H1.rv 1 J) ⟨ags,fun w_ v_ x_ tv e_ Ha=>by have H_:=H1.ext e_;obtain⟨_,⟨rfl,cu⟩,rfl⟩:=Ha;exact aan (n:=mn) (M:=fun _=>False) (fun _ h_=>h_.elim) cu aR ⟨H_.at_ 0 rfl,fun h_=>h_⟩⟩
 refine ca agt J (ec J<|ec J e0) bR ?_
 rintro _ w1 ⟨rfl,df⟩
 have H2:=H1.ext df
 refine k<|j4 J J<|ak (v:=.bool (!(l.any<|fun (x_:Int)=>CL mn x_))) J J<|aq<|rt<|r1 J J ?_
 exact⟨an0 Value.bool (show (!(l.any<|fun (x_:Int)=>CL mn x_))=(kE mn l) from rfl),H2.below⟩
theorem O5 (hM:eJ M w) (ME:aK n):Calls aI 121 #[I n] w (cm fun v w'=>∃(a0:OA) (c0:Nat),v=.tuple #[.agg #[I (oD n),.slice a0 (iR n).length c0],I (rY n)]∧Ext w w'∧bl M 144 w (iR n) (.slice a0 (iR n).length c0) w'):=by
 refine dx 29 Tryz.func121 J J J hM fun f0 ha H=>?_
 have i0:f0 0=I n:=ha 0 bj
 refine az<|k<|al H bm ?_
 intro aW w0 bW (H0:HI M w w0 [box aW #[I 0,.slice none 0 0] 26])
 let J0:=box aW #[I 0,.slice none 0 0] 26
 refine ak (v:=I 0) J J<|aq<|sq<|az<|ai J i0<|k<|lss J J J J<|ai (v:=.bool (decide (n<0))) J J ?_
 rcases bE (decide (n<0)) with b0|b0
 ·
  have p0:=dT b0
  refine aX J J J b0<|aX J J J b0<|k<|aP J J J J b0 J<|aq<|oW J J J<|az<|k<|bd (v:=.agg #[I 0,.slice none 0 0]) J ew (fun _=>aS)<|k<|bu H0 0 J bm J J J J J J J ?_
  intro w1 (H1:HI M w w1 [J0])
  refine ak (v:=I 1) J J<|aq<|rt<|aL<|iy H1 0 J bm J J J J J au ?_
  have e0:(0:Int)=oD n:=by exact(wL<|Ai.2 aj).1.symm
  have e1:([]:List (List bp))=iR n:=by exact(wL<|Ai.2 aj).2.1.symm
  have e2:(1:Int)=rY n:=by exact(wL<|Ai.2 aj).2.2.symm
  have bq:=qX (fun (b9:Int) (dO:List (List bp)) (gF:Int)=>(.tuple #[.agg #[I b9,.slice none dO.length 0],I gF]:Value)) e0 e1 e2
  exact⟨none,0,bq,H1.below,(an0 (fun (x_:List (List bp))=>bl _ _ _ x_ (.slice none x_.length 0) _) e1).mp (fQ H1.below)⟩
 have p0:=dF b0
 refine aZ J J J b0<|mv J i0<|aZ J J J b0<|gtr J J J J<|k<|dG J J J J b0 J<|z<|nx<|cd (b:=decide (4096<n)) J J (fun b1=>?_)<|fun b1=>?_
 ·
  have p1:=dT b1
  refine az<|k<|bd (v:=.agg #[I 0,.slice none 0 0]) J ew (fun _=>aS)<|k<|bu H0 0 J bm J J J J J J J ?_
  intro w1 (H1:HI M w w1 [J0])
  refine ak (v:=I 1) J J<|aq<|rt<|aL<|iy H1 0 J bm J J J J J au ?_
  have e0:(0:Int)=oD n:=by exact(wL<|Ai.2 aj).1.symm
  have e1:([]:List (List bp))=iR n:=by exact(wL<|Ai.2 aj).2.1.symm
  have e2:(1:Int)=rY n:=by exact(wL<|Ai.2 aj).2.2.symm
  have bq:=qX (fun (b9:Int) (dO:List (List bp)) (gF:Int)=>(.tuple #[.agg #[I b9,.slice none dO.length 0],I gF]:Value)) e0 e1 e2
  exact⟨none,0,bq,H1.below,(an0 (fun (x_:List (List bp))=>bl _ _ _ x_ (.slice none x_.length 0) _) e1).mp (fQ H1.below)⟩
 have p1:=dF b1
 refine sk<|cO<|ai J i0<|k ?_
 have n0:((n.toNat:Nat):Int)=n:=aoC aj
 refine mk (m:=n.toNat) (zx:=([]:(List bp))) H0 J J (by rw[n0];exact rfl) (by rw[n0];exact rfl) iq dp (fun _ _=>⟨_,J,GC _ _⟩) aj aj ?_
 intro g0 w1 df (H1:HI M w w1 [own w.heap.size 144 (.slice (some ⟨g0,0,none⟩) n.toNat n.toNat) (List.replicate n.toNat ([]:(List bp))),J0])
 refine ak (v:=.slice (some ⟨g0,0,none⟩) n.toNat n.toNat) J J<|aq<|sq<|az<|ai (v:=.slice (some ⟨g0,0,none⟩) n.toNat n.toNat) J J<|k<|dL J J iq<|ai (v:=I 0) J J<|aq<|bk<|lp (fun m f w'=>∃(j:Nat) (xs:List (List bp)),m=n.toNat-j∧f 0=I n∧f 2=pV aW 0∧f 4=.slice (some ⟨g0,0,none⟩) n.toNat n.toNat∧f 16=I (n.toNat:Int)∧f 17=I (j:Int)∧HI M w w' [own w.heap.size 144 (.slice (some ⟨g0,0,none⟩) n.toNat n.toNat) xs,J0]∧(j≤n.toNat)∧(xs.length=n.toNat)∧(xs=vw n.toNat j (eh n) [])) _ ⟨0,(List.replicate n.toNat ([]:(List bp))),J,i0,J,J,J,(bH J),H1,aj,bj,(by exact Oa _ _ _)⟩ ?_
 rintro _ f0 w2 ⟨j,xs,rfl,s0,s1,s2,s3,s4,H2,hk,hl,hs⟩
 refine az<|k<|lss J J s4 s3<|aq<|sq<|cd (b:=decide ((j:Int)<(n.toNat:Int))) J J (fun b2=>?_)<|fun b2=>?_
 ·
  have p2:=dT b2
  refine sk<|nx<|sq<|bk<|az<|ai J s4<|ak (v:=I (j:Int)) J J<|aq<|rg<|ai J s2<|ai (v:=I (j:Int)) J J<|ai J s0<|k ?_
  have bR:=DY (n:=n) H2.mb ME aj
  refine ca Q' J (ec J e0) bR ?_
  rintro _ w3 ⟨a0,c0,rfl,eS,cu⟩
  have H3:=H2.eP cu
  refine k<|iz (H3.at_ 1 J) J J J J aj iq dp ?_
  intro g1 x0 iE aM cw
  refine k ?_
  have H4:=H3.freeze 0 J
  refine qj H4 1 J iE J aj dp J J J J (H4.rv 0 J) ?_
  let J1:=own w.heap.size 144 (.slice (some ⟨g0,0,none⟩) n.toNat n.toNat) (xs.set ((j:Int).toNat) (eh n))
  intro w4 (H5:HI M w w4 [iL a0 (eh n) c0,J1,J0])
  refine z<|aF<|nx<|rg<|k<|add J J s4 J aR<|ai (v:=I ((j:Int)+1)) J J<|z ?_
  have H6:HI M w w4 [J1,J0]:=H5.bV [1,2] au J
  refine bF _ ?_ ⟨(j+1),(xs.set ((j:Int).toNat) (eh n)),J,s0,s1,s2,s3,(bH J),H6,aj,(by simpa using hl),(by rw[hs];exact Rr aj)⟩
  omega
 have p2:=dF b2
 refine ex<|aT<|aY<|bf<|cO<|ai J s0<|ai J s2<|k<|bd (v:=.agg #[I n,.slice (some ⟨g0,0,none⟩) n.toNat n.toNat]) J (ck J<|ck J ew) (fun _=>aS)<|k<|bu H2 1 J bm J J s1 J J J J ?_
 intro w3 (H3:HI M w w3 [own w.heap.size 144 (.slice (some ⟨g0,0,none⟩) n.toNat n.toNat) xs,box aW #[I n,.slice (some ⟨g0,0,none⟩) n.toNat n.toNat] 26])
 refine ak (v:=I 0) J J<|aq<|rt<|iy H3 1 J bm J J J s1 J au ?_
 have e0:(n:Int)=oD n:=by exact(xw<|sD.2 aj).1.symm
 have e1:(xs:List (List bp))=iR n:=by rw[(xw<|sD.2 aj).2.1,hs];exact Rs aj
 have l1:n.toNat=(iR n).length:=by rw[←e1];omega
 have e2:(0:Int)=rY n:=by exact(xw<|sD.2 aj).2.2.symm
 have bq:=qX (fun (b9:Int) (u5:Nat) (gF:Int)=>(.tuple #[.agg #[I b9,.slice (some ⟨g0,0,none⟩) u5 n.toNat],I gF]:Value)) e0 l1 e2
 exact⟨(some ⟨g0,0,none⟩),n.toNat,bq,H3.below,(an0 (fun (n_:Nat)=>bl _ _ _ (iR n) (.slice (some ⟨g0,0,none⟩) n_ n.toNat) _) l1).mp ((an0 (fun (x_:List (List bp))=>bl _ _ _ x_ (.slice (some ⟨g0,0,none⟩) n.toNat n.toNat) _) e1).mp (H3.dt 0 J))⟩
theorem aao (hM:eJ M w) (fY:aK mn) (gr:cA M w bC bB mr) (qT:aK i) (B3:aK j) (Yo:((mr.length:Nat):Int)=mn) (QY:∀x∈mr,x.length≤1000000000) (Yx:mn≤4096):Calls aI 156 #[.agg #[I mn,sL bC mr bB],I i,I j] w (cm fun v w'=>∃(a0:OA) (c0:Nat),v=.tuple #[.agg #[I (iu mn i j),.slice a0 (j9 mn mr i j).length c0],I (lG mn i j)]∧Ext w w'∧bl M 144 w (j9 mn mr i j) (.slice a0 (j9 mn mr i j).length c0) w'):=by
 refine dx 32 Tryz.func156 J J J hM fun f0 ha H=>?_
 let J0:=iL bC mr bB
 have H0:=H.put (it:=J0) J<|by rw[bP];exact gr
 have i0:f0 0=.agg #[I mn,sL bC mr bB]:=ha 0 bj
 have i1:f0 1=I i:=ha 1 bj
 have i2:f0 2=I j:=ha 2 bj
 refine az<|k<|bx H0 J i0 ?_
 intro aW w0 bW (H1:HI M w w0 [box aW #[I mn,sL bC mr bB] 26,J0])
 let J1:=box aW #[I mn,sL bC mr bB] 26
 refine k<|al H1 bm ?_
 intro ba w1 df (H2:HI M w w1 [box ba #[I 0,.slice none 0 0] 26,J1,J0])
 refine ak (v:=I 0) J J<|aq<|sq<|az<|k<|cB H2 1 J bm J J au J<|ai J i1<|ai J i2<|k<|bs (xs:=([i,j]:aA)) (cells:=#[I i,I j]) (e:=3) H2 J (ck J<|ck J ew) (fun _=>aS) ⟨[I i],[I j],J,⟨J,qT⟩,⟨[I j],[],J,⟨J,B3⟩,J⟩⟩ J au ?_
 intro g0 w2 eS H3
 refine k ?_
 have H4:=H3.freeze 0 J
 have bR:=S2 (mn:=mn) (l:=([i,j]:aA)) (Ny:=bC) (L5:=mr.length) (Nb:=bB) H4.mb fY<|H4.rv 0 J
 refine ca Y6 J (ec J<|ec J e0) bR ?_
 rintro _ w3 ⟨rfl,fH⟩
 have H5:=H3.ext fH
 refine k<|j4 J J<|z<|nx<|cd (b:=!(kE mn ([i,j]:aA))) J J (fun b0=>?_)<|fun b0=>?_
 ·
  refine sq ?_
  have hq:kE mn [i,j]=false:=by simpa using b0
  refine rg<|k<|bd (v:=.agg #[I 0,.slice none 0 0]) J ew (fun _=>aS)<|k<|bu H5 1 J bm J J J J J J J ?_
  intro w4 (H6:HI M w w4 [own w.heap.size 3 (.slice (some ⟨g0,0,none⟩) 2 2) ([i,j]:aA),box ba #[I 0,.slice none 0 0] 26,J1,J0])
  refine ak (v:=I 1) J J<|aq<|rt<|aL<|iy H6 1 J bm J J J J J au ?_
  have e0:(0:Int)=iu mn i j:=by exact(oG (rs:=mr) hq).1.symm
  have e1:([]:List (List bp))=j9 mn mr i j:=by exact(oG (rs:=mr) hq).2.1.symm
  have e2:(1:Int)=lG mn i j:=by exact(oG (rs:=mr) hq).2.2.symm
  have bq:=qX (fun (b9:Int) (dO:List (List bp)) (gF:Int)=>(.tuple #[.agg #[I b9,.slice none dO.length 0],I gF]:Value)) e0 e1 e2
  exact⟨none,0,bq,H6.below,(an0 (fun (x_:List (List bp))=>bl _ _ _ x_ (.slice none x_.length 0) _) e1).mp (fQ H6.below)⟩
 refine sk<|nx<|sq ?_
 have hq:kE mn [i,j]=true:=by simpa using b0
 have hr:=jo.1 hq
 refine rg<|aQ iB J J<|bo H5 2 J lh J J J<|k ?_
 have cU:=Rw (r:=mr) H5.mb (H5.rv 3 J) aj
 refine ca agc J (ec J e0) cU ?_
 rintro _ w4 ⟨a0,c0,rfl,jg,cu⟩
 have H6:=H5.eP cu
 refine ak (v:=sL a0 mr c0) J J<|bw<|ai (v:=sL a0 mr c0) J J<|ai J i1<|ai (v:=sL a0 mr c0) J J<|ai J i1<|k<|iz (H6.at_ 0 J) J J J J aj iq dp ?_
 intro g1 x0 iE aM cw
 refine k<|va cw dp J J ?_
 intro a1 c1 ee
 have H7:=dR H6 ee
 refine ai J i2<|k ?_
 have fU:=uu (r:=x0) (i:=j) H7.mb (H7.rv 0 J) B3<|by exact QY _ (dz aM)
 refine ca F1 J (ec J<|ec J e0) fU ?_
 rintro _ w5 ⟨a2,c2,rfl,jr,eb⟩
 have H8:=H7.eP eb
 refine k<|iz (H8.at_ 2 J) J J J J aj iq dp ?_
 intro g2 x1 kT cQ gN
 refine k ?_
 have H9:=H8.freeze 0 J
 refine qj H9 2 J kT J aj dp J J J J (H9.rv 0 J) ?_
 let J2:=own w.heap.size 144 (.slice a0 mr.length c0) (mr.set i.toNat (ei x0 j))
 let J3:=own w.heap.size 3 (.slice (some ⟨g0,0,none⟩) 2 2) ([i,j]:aA)
 intro w6 (dE:HI M w w6 [iL a2 (ei x0 j) c2,iL a1 x0 c1,J2,J3,box ba #[I 0,.slice none 0 0] 26,J1,J0])
 refine bw<|aQ kx J J<|bo dE 5 J aU J J J<|ai (v:=sL a0 mr c0) J J<|k<|bd (v:=.agg #[I mn,sL a0 mr c0]) J (ck J<|ck J ew) (fun _=>aS)<|k<|bu dE 4 J bm J J J J J J J ?_
 intro w7 (cV:HI M w w7 [iL a2 (ei x0 j) c2,iL a1 x0 c1,J2,J3,box ba #[I mn,sL a0 mr c0] 26,J1,J0])
 refine ak (v:=I 0) J J<|aq<|rt<|iy cV 4 J bm J J J J J au ?_
 have e0:(mn:Int)=iu mn i j:=by exact(pW (rs:=mr) hq).1.symm
 have e1:(mr.set i.toNat (ei x0 j):List (List bp))=j9 mn mr i j:=by rw[(pW (rs:=mr) hq).2.1];exact Ik aM
 have l1:mr.length=(j9 mn mr i j).length:=by rw[←e1];simp
 have e2:(0:Int)=lG mn i j:=by exact(pW (rs:=mr) hq).2.2.symm
 have bq:=qX (fun (b9:Int) (u5:Nat) (gF:Int)=>(.tuple #[.agg #[I b9,.slice a0 u5 c0],I gF]:Value)) e0 l1 e2
 exact⟨a0,c0,bq,cV.below,(an0 (fun (n_:Nat)=>bl _ _ _ (j9 mn mr i j) (.slice a0 n_ c0) _) l1).mp ((an0 (fun (x_:List (List bp))=>bl _ _ _ x_ (.slice a0 mr.length c0) _) e1).mp (cV.dt 2 J))⟩
theorem uz (hM:eJ M w) (fY:aK mn) (gr:cA M w bC bB mr) (qT:aK i) (B3:aK j) (Yo:((mr.length:Nat):Int)=mn) (QY:∀x∈mr,x.length≤1000000000) (Yx:mn≤4096):Calls aI 64 #[.agg #[I mn,sL bC mr bB],I i,I j] w (cm fun v w'=>v=.bool (eI mn mr i j)∧Ext w w'):=by
 refine dx 21 Tryz.func64 J J J hM fun f0 ha H=>?_
 have H0:=dR H gr
 have i0:f0 0=.agg #[I mn,sL bC mr bB]:=ha 0 bj
 have i1:f0 1=I i:=ha 1 bj
 have i2:f0 2=I j:=ha 2 bj
 refine az<|k<|bx H0 J i0 ?_
 intro aW w0 bW (H1:HI M w w0 [box aW #[I mn,sL bC mr bB] 26,iL bC mr bB])
 refine ak (v:=.bool false) J J<|bw<|k<|cB H1 0 J bm J J au J<|ai J i1<|ai J i2<|k<|bs (xs:=([i,j]:aA)) (cells:=#[I i,I j]) (e:=3) H1 J (ck J<|ck J ew) (fun _=>aS) ⟨[I i],[I j],J,⟨J,qT⟩,⟨[I j],[],J,⟨J,B3⟩,J⟩⟩ J au ?_
 intro g0 w1 df H2
 refine k ?_
 have H3:=H2.freeze 0 J
 have bR:=S2 (mn:=mn) (l:=([i,j]:aA)) (Ny:=bC) (L5:=mr.length) (Nb:=bB) H3.mb fY<|H3.rv 0 J
 refine ca Y6 J (ec J<|ec J e0) bR ?_
 rintro _ w2 ⟨rfl,eS⟩
 have H4:=H2.ext eS
 refine ai (v:=.bool (kE mn ([i,j]:aA))) J J ?_
 rcases bE (kE mn ([i,j]:aA)) with b0|b0
 ·
  refine aZ J J J b0<|fa iB J J<|aZ J J J b0<|lx H4 1 J lh J J J<|aZ J J J b0<|mv J i1<|aZ J J J b0<|ia (H4.rv 2 J) J J J J (by have hr:=jo.1 b0;omega) iq dp ?_
  intro iG x0 aM cw
  refine aZ J J J b0<|va cw.w dp J J ?_
  intro a0 c0 cu
  have H5:=dR H4 cu
  refine aZ J J J b0<|mv J i2<|aZ J J J b0 ?_
  have cU:=z1 (r:=x0) (i:=j) H5.mb (H5.rv 0 J) B3
  refine ca ML J (ec J<|ec J e0) cU ?_
  rintro _ w3 ⟨rfl,fH⟩
  have H6:=H5.ext fH
  refine k<|aP J J J J b0 J<|ak (v:=.bool (fk x0 j)) J J<|aq<|rt<|r1 J J ?_
  exact⟨an0 Value.bool (by unfold eI;first|(rw[sh aM,b0];rfl)|(rw[b0];rfl)),H6.below⟩
 refine aX J J J b0<|aX J J J b0<|aX J J J b0<|aX J J J b0<|aX J J J b0<|aX J J J b0<|aX J J J b0<|k<|dG J J J J b0 J<|ak (v:=.bool false) J J<|aq<|rt<|r1 J J ?_
 exact⟨an0 Value.bool (by unfold eI;first|(rw[sh aM,b0];rfl)|(rw[b0];rfl)),H4.below⟩
theorem IE:cx aI 89:=cF Tryz.func89
theorem P9:aI.underlying 185=some (.slice 133):=aS
theorem Gu:ep aI 133 2 true 16 (.agg #[.int .i64 0,.int .i64 0]):=⟨aS,aS⟩
theorem agv:cx aI 135:=cF Tryz.func135
theorem S3 (hM:eJ M w) (hT:fS 0 w) (fY:aK mn) (gr:cA M w bC bB mr) (Yo:((mr.length:Nat):Int)=mn) (QY:∀x∈mr,x.length≤1000000000) (Yx:mn≤4096) (KH:∀x∈mr,x.length≤64):Calls aI 128 #[.agg #[I mn,sL bC mr bB]] w (cm fun v w'=>∃(a0:OA) (c0:Nat),v=.slice a0 (iW mn mr).length c0∧Ext w w'∧RV M w' (.slice a0 (iW mn mr).length c0) (iW mn mr)):=by
 refine dx 32 Tryz.func128 J J J hM fun f0 ha H=>?_
 let J0:=iL bC mr bB
 have H0:=H.put (it:=J0) J<|by rw[bP];exact gr
 have nw:=bg gr
 have i0:f0 0=.agg #[I mn,sL bC mr bB]:=ha 0 bj
 refine az<|k<|bx H0 J i0 ?_
 intro aW w0 bW (H1:HI M w w0 [box aW #[I mn,sL bC mr bB] 26,J0])
 let J1:=box aW #[I mn,sL bC mr bB] 26
 refine ak (v:=.slice none 0 0) J J<|bw<|ak (v:=.slice none 0 0) J J<|aq<|sq<|az<|aQ iB J J<|bo H1 0 J lh J J J<|k<|dL J J iq<|ai (v:=I 0) J J<|aq<|bk ?_
 have H2:=H1.qf (Int×Int) 133
 refine lp (fun m f w'=>∃(i:Nat) (xs:List (Int×Int)) (a0:OA) (c0:Nat),m=mr.length-i∧f 3=sL a0 xs c0∧f 9=sL bC mr bB∧f 10=I (mr.length:Int)∧f 11=I (i:Int)∧HI M w w' [oL w 133 a0 xs c0,J1,J0]∧(i≤mr.length)∧(xs=ly mr i)) _ ⟨0,([]:List (Int×Int)),none,0,J,J,J,J,(bH J),H2,aj,(by rfl)⟩ ?_
 rintro _ f0 w1 ⟨i,xs,a0,c0,rfl,s0,s1,s2,s3,H3,YA,hs⟩
 refine az<|k<|lss J J s3 s2<|aq<|sq<|cd (b:=decide ((i:Int)<(mr.length:Int))) J J (fun b0=>?_)<|fun b0=>?_
 ·
  have p0:=dT b0
  refine sk<|nx<|sq<|bk<|az<|ai J s3<|k<|ia (H3.rv 2 J) J J s1 s3 aj iq dp ?_
  intro iG x0 aM cw
  refine k<|va cw.w dp J J ?_
  intro a1 c1 cu
  have Al:=bg cu
  have H4:=dR H3 cu
  refine ak (v:=I (i:Int)) J J<|ak (v:=sL a1 x0 c1) J J<|bw<|ai (v:=sL a1 x0 c1) J J<|k ?_
  have bR:=uv (r:=x0) H4.mb (hT.ext H4.below) (H4.rv 0 J)<|by have h_:=KH _ (dz aM);omega
  refine ca IE J (ec J e0) bR ?_
  rintro _ w2 ⟨a2,c2,rfl,df,ee⟩
  have H5:=H4.eP ee
  refine k<|dL J J cM<|ai (v:=I 0) J J<|aq<|bk<|lp (fun m f w'=>∃(q:Nat) (Eg:List (Int×Int)) (a3:OA) (c3:Nat),m=(cY x0).length-q∧f 3=sL a3 Eg c3∧f 4=I (i:Int)∧f 9=sL bC mr bB∧f 10=I (mr.length:Int)∧f 11=I (i:Int)∧f 17=sL a2 (cY x0) c2∧f 18=I ((cY x0).length:Int)∧f 19=I (q:Int)∧HI M w w' [oL w 3 a2 (cY x0) c2,iL a1 x0 c1,oL w 133 a3 Eg c3,J1,J0]∧(q≤(cY x0).length)∧(Eg=ly mr i++((cY x0).take q).map fun j=>(((i:Nat):Int),j))) _ ⟨0,xs,a0,c0,J,s0,J,s1,s2,s3,J,J,(bH J),H5,aj,(by rw[hs];simp)⟩ ?_
  rintro _ f1 w3 ⟨q,Eg,a3,c3,rfl,s4,s5,s6,s7,s8,s9,ej,eX,H6,sI,gM⟩
  refine az<|k<|lss J J eX ej<|aq<|sq<|cd (b:=decide ((q:Int)<((cY x0).length:Int))) J J (fun b1=>?_)<|fun b1=>?_
  ·
   have p1:=dT b1
   refine sk<|nx<|sq<|bk<|az<|k<|iz (H6.at_ 0 J) J J s9 eX aj cM aU ?_
   intro g0 x1 iE cQ gN
   refine k<|mP gN aU J J ?_
   intro eb
   refine ak (v:=I x1) J J<|aq<|rg<|ai J s4<|ai J s5<|ai (v:=I x1) J J<|k<|bd (v:=.agg #[I (i:Int),I x1]) J (ck J<|ck J ew) (fun _=>aS)<|k<|bs (xs:=([((i:Int),x1)]:List (Int×Int))) (cells:=#[I (i:Int),I x1]) (e:=133) H6 J (ck J ew) (fun _=>aS) ⟨[I (i:Int),I x1],[],J,⟨_,_,J,⟨J,(show aK ((i:Int)) from aR)⟩,⟨J,(show aK (x1) from aR)⟩⟩,J⟩ J au ?_
   intro g1 w4 eS H7
   refine k<|lV H7 3 J J J J J J (gX<|H7.at_ 0 J) P9 Gu J (by have h1_:=Ez KH i;have lE:=nf x0;have h3_:=KH _ (dz aM);rw[gM,fJ,aoo,ic];simp only[iS,gA];omega) J ?_
   intro a4 c4 w5 (H8:HI M w w5 [own w.heap.size 133 (.slice (some ⟨g1,0,none⟩) 1 1) ([((i:Int),x1)]:List (Int×Int)),oL w 3 a2 (cY x0) c2,iL a1 x0 c1,oL w 133 a4 (Eg++([((i:Int),x1)]:List (Int×Int))) c4,J1,J0])
   refine ak (v:=sL a4 (Eg++([((i:Int),x1)]:List (Int×Int))) c4) J J<|z<|aF<|nx<|rg<|k<|add J J eX J (by have lE:=nf x0;have h3_:=KH _ (dz aM);unfold aK;omega)<|ai (v:=I ((q:Int)+1)) J J<|z ?_
   have H9:HI M w w5 [oL w 3 a2 (cY x0) c2,iL a1 x0 c1,oL w 133 a4 (Eg++([((i:Int),x1)]:List (Int×Int))) c4,J1,J0]:=H8.bV [1,2,3,4,5] au J
   refine bF _ ?_ ⟨(q+1),(Eg++([((i:Int),x1)]:List (Int×Int))),a4,c4,J,J,s5,s6,s7,s8,s9,ej,(bH J),H9,aj,(by rw[gM];exact SM cQ)⟩
   omega
  have p1:=dF b1
  refine ex<|aT<|aY<|bf<|aF<|nx<|rg<|k<|add J J s8 J aR<|ai (v:=I ((i:Int)+1)) J J<|z ?_
  have H7:HI M w w3 [oL w 133 a3 Eg c3,J1,J0]:=H6.bV [2,3,4] au J
  refine bF _ ?_ ⟨(i+1),Eg,a3,c3,J,s4,s6,s7,(bH J),H7,aj,(by rw[gM];exact VS aM aj)⟩
  omega
 have p0:=dF b0
 refine ex<|aT<|aY<|bf<|cO<|ai J s0<|ak (v:=sL a0 xs c0) J J<|aq<|rt<|r1 J J ?_
 have e0:(xs:List (Int×Int))=iW mn mr:=by rw[hs];exact SL aj aj
 have bq:=iF (fun (b9:List (Int×Int))=>(.slice a0 b9.length c0:Value)) e0
 exact⟨a0,c0,bq,H3.below,(an0 (fun (x_:List (Int×Int))=>RV _ _ (.slice a0 x_.length c0) x_) e0).mp (H3.mD 0 J)⟩
theorem acD {an:Int} {I0:OA} {IU:Nat} {ar:List (List bp)} {bn:Int} {IZ:OA} {IT:Nat} {br:List (List bp)} (hM:eJ M w) (ann:aK an) (ad_:cA M w I0 IU ar) (anm:aK bn) (adZ:cA M w IZ IT br) (amz:((ar.length:Nat):Int)=an) (af1:∀x∈ar,x.length≤1000000000) (amE:an≤4096) (amy:((br.length:Nat):Int)=bn) (af0:∀x∈br,x.length≤1000000000) (amD:bn≤4096):Calls aI 96 #[.agg #[I an,sL I0 ar IU],.agg #[I bn,sL IZ br IT]] w (cm fun v w'=>∃(a0:OA) (c0:Nat),v=.tuple #[.agg #[I (tj an bn),.slice a0 (mi an ar bn br).length c0],I (xp an bn)]∧Ext w w'∧bl M 144 w (mi an ar bn br) (.slice a0 (mi an ar bn br).length c0) w'):=by
 refine dx 41 Tryz.func96 J J J hM fun f0 ha H=>?_
 let J0:=iL I0 ar IU
 have H0:=H.put (it:=J0) J<|by rw[bP];exact ad_
 let J1:=iL IZ br IT
 have H1:=H0.put (it:=J1) J<|by rw[aH rfl,bP];exact adZ
 have amx:=bg ad_
 have amw:=bg adZ
 have i0:f0 0=.agg #[I an,sL I0 ar IU]:=ha 0 bj
 have i1:f0 1=.agg #[I bn,sL IZ br IT]:=ha 1 bj
 refine az<|k<|bx H1 J i0 ?_
 intro aW w0 bW (H2:HI M w w0 [box aW #[I an,sL I0 ar IU] 26,J1,J0])
 let J2:=box aW #[I an,sL I0 ar IU] 26
 refine k<|bx H2 J i1 ?_
 let bc:=[J2,J1,J0]
 intro ba w1 df (H3:HI M w w1 (box ba #[I bn,sL IZ br IT] 26::bc))
 let J3:=box ba #[I bn,sL IZ br IT] 26
 refine k<|al H3 bm ?_
 intro bI w2 eS (H4:HI M w w2 (box bI #[I 0,.slice none 0 0] 26::J3::bc))
 let J4:=box bI #[I 0,.slice none 0 0] 26
 refine ak (v:=I 0) J J<|aq<|sq<|az<|aQ kx J J<|bo H4 2 J aU J J J<|aQ kx J J<|bo H4 1 J aU J J J<|k<|neq J J J J<|z<|nx<|cd (b:=!decide (an=bn)) J J (fun b0=>?_)<|fun b0=>?_
 ·
  have p0:=dF<|fX b0
  refine az<|k<|bd (v:=.agg #[I 0,.slice none 0 0]) J ew (fun _=>aS)<|k<|bu H4 0 J bm J J J J J J J ?_
  intro w3 (H5:HI M w w3 (J4::J3::bc))
  refine ak (v:=I 1) J J<|aq<|rt<|aL<|iy H5 0 J bm J J J J J au ?_
  have e0:(0:Int)=tj an bn:=by exact(LS (ar:=ar) (br:=br) p0).1.symm
  have e1:([]:List (List bp))=mi an ar bn br:=by exact(LS p0).2.1.symm
  have e2:(1:Int)=xp an bn:=by exact(LS (ar:=ar) (br:=br) p0).2.2.symm
  have bq:=qX (fun (b9:Int) (dO:List (List bp)) (gF:Int)=>(.tuple #[.agg #[I b9,.slice none dO.length 0],I gF]:Value)) e0 e1 e2
  exact⟨none,0,bq,H5.below,(an0 (fun (x_:List (List bp))=>bl _ _ _ x_ (.slice none x_.length 0) _) e1).mp (fQ H5.below)⟩
 have p0:=dT<|fw b0
 refine sk<|cO<|aQ kx J J<|bo H4 2 J aU J J J<|k ?_
 have n0:((an.toNat:Nat):Int)=an:=aoC aj
 refine mk (m:=an.toNat) (zx:=([]:(List bp))) H4 J J (by rw[n0];exact rfl) (by rw[n0];exact rfl) iq dp (fun _ _=>⟨_,J,GC _ _⟩) aj aj ?_
 intro g0 w3 fH (H5:HI M w w3 (own w.heap.size 144 (.slice (some ⟨g0,0,none⟩) an.toNat an.toNat) (List.replicate an.toNat ([]:(List bp)))::J4::J3::bc))
 refine ak (v:=.slice (some ⟨g0,0,none⟩) an.toNat an.toNat) J J<|aq<|sq<|az<|ai (v:=.slice (some ⟨g0,0,none⟩) an.toNat an.toNat) J J<|k<|dL J J iq<|ai (v:=I 0) J J<|aq<|bk<|lp (fun m f w'=>∃(j:Nat) (xs:List (List bp)),m=an.toNat-j∧f 2=pV aW 0∧f 3=pV ba 0∧f 4=pV bI 0∧f 6=.slice (some ⟨g0,0,none⟩) an.toNat an.toNat∧f 18=I (an.toNat:Int)∧f 19=I (j:Int)∧HI M w w' (own w.heap.size 144 (.slice (some ⟨g0,0,none⟩) an.toNat an.toNat) xs::J4::J3::bc)∧(j≤an.toNat)∧(xs.length=an.toNat)∧(xs=u3 ar br an.toNat j)) _ ⟨0,(List.replicate an.toNat ([]:(List bp))),J,J,J,J,J,J,(bH J),H5,aj,bj,(by exact N5 _ _ _)⟩ ?_
 rintro _ f0 w4 ⟨j,xs,rfl,s0,s1,s2,s3,s4,s5,H6,hk,hl,hs⟩
 refine az<|k<|lss J J s5 s4<|aq<|sq<|cd (b:=decide ((j:Int)<(an.toNat:Int))) J J (fun b1=>?_)<|fun b1=>?_
 ·
  have p1:=dT b1
  refine sk<|nx<|sq<|bk<|az<|ai J s5<|ak (v:=I (j:Int)) J J<|z<|nx<|my [.r,.r,.r,.r,.r,.r,.r,.r,.r,.r,.r,.r,.r,.e,.e] (fun _=>True) J aS (fun _ _=>trivial)<|yq J J<|kq (fun _ _=>mv J s3 e1)<|bO<|kq (fun _ _=>mv (v:=I (j:Int)) J J e1)<|bO<|kq (fun _ _=>fa iB J s0 e1)<|bO<|kq (fun _ x_=>lx (H6.ext x_) 3 J lh J J J e1)<|bO<|kq (fun _ _=>mv (v:=I (j:Int)) J J e1)<|bO<|ux (H6.rv 5 J) J J J J aj iq dp ?_
  intro iG x0 aM cw
  refine bO<|GD cw.w dp J J ?_
  intro a0 c0 cu
  have Al:=bg cu
  have H7:=dR H6 cu
  refine bO<|kq (fun _ _=>fa iB J s1 e1)<|bO<|kq (fun _ x_=>lx (H7.ext x_) 3 J lh J J J e1)<|bO<|kq (fun _ _=>mv (v:=I (j:Int)) J J e1)<|bO<|ux (H7.rv 5 J) J J J J aj iq dp ?_
  intro ry x1 cQ gN
  refine bO<|GD gN.w dp J J ?_
  intro a1 c1 ee
  have ln1:=bg ee
  have H8:=dR H7 ee
  refine zq<|yu J (fun _ v w'=>∃(a2:OA) (c2:Nat),v=sL a2 (jK x0 x1) c2∧RV H6.fg w' (sL a2 (jK x0 x1) c2) (jK x0 x1)) J oq J (fun v_ _ x_ _=>have cU:=ab6 (a:=x0) (b:=x1) (w:=v_) (H8.ext x_).mb ((H8.ext x_).rv 1 rfl) ((H8.ext x_).rv 0 rfl) (by exact af1 _ (dz aM)) (by exact af0 _ (dz cQ));ca agv rfl (ec J<|ec J e0) cU (fun _ w6 ⟨a3,c3,e_,jr,jd⟩=>⟨_,J,jr,⟨a3,c3,e_,(l4 J<|l4 J<|bl.rv jd (H8.ext x_).mb)⟩⟩))<|ye<|ye<|yz ?_
  intro w7 f1 _ kr _ _ cC iT
  have cH:=H8.ext kr
  have s6:=(cC 2 J).trans s0
  have s7:=(cC 3 J).trans s1
  have s8:=(cC 4 J).trans s2
  have s9:=(cC 6 J).trans s3
  have ej:=(cC 18 J).trans s4
  have eX:=(cC 19 J).trans s5
  have fA:=cC 22 J
  have fD:=cC 23 J
  obtain⟨a4,c4,gi,iU⟩:=iT 0 _ _ rfl
  have dV:=dR cH iU
  refine kc<|iz (dV.at_ 3 J) J J fA fD aj iq dp ?_
  intro g1 x2 iE gZ kf
  refine kc<|qj dV 3 J iE J aj dp J J J gi (dV.rv 0 J) ?_
  let J5:=own w.heap.size 144 (.slice (some ⟨g0,0,none⟩) an.toNat an.toNat) (xs.set ((j:Int).toNat) (jK x0 x1))
  intro w8 (dA:HI M w w8 [iL a4 (jK x0 x1) c4,iL a1 x1 c1,iL a0 x0 c0,J5,J4,J3,J2,J1,J0])
  refine kz<|aF<|nx<|rg<|k<|add J J eX J aR<|ai (v:=I ((j:Int)+1)) J J<|z ?_
  have cT:HI M w w8 (J5::J4::J3::bc):=dA.bV [3,4,5,6,7,8] au J
  refine bF _ ?_ ⟨(j+1),(xs.set ((j:Int).toNat) (jK x0 x1)),J,s6,s7,s8,s9,ej,(bH J),cT,aj,(by simpa using hl),(by rw[hs];exact QG aj aM cQ)⟩
  omega
 have p1:=dF b1
 refine ex<|aT<|aY<|bf<|cO<|aQ kx J s0<|bo H6 3 J aU J J J<|ai J s3<|k<|bd (v:=.agg #[I an,.slice (some ⟨g0,0,none⟩) an.toNat an.toNat]) J (ck J<|ck J ew) (fun _=>aS)<|k<|bu H6 1 J bm J J s2 J J J J ?_
 intro w5 (H7:HI M w w5 (own w.heap.size 144 (.slice (some ⟨g0,0,none⟩) an.toNat an.toNat) xs::box bI #[I an,.slice (some ⟨g0,0,none⟩) an.toNat an.toNat] 26::J3::bc))
 refine ak (v:=I 0) J J<|aq<|rt<|iy H7 1 J bm J J J s2 J au ?_
 have e0:(an:Int)=tj an bn:=by exact(Ad (ar:=ar) (br:=br) p0).1.symm
 have e1:(xs:List (List bp))=mi an ar bn br:=by rw[(Ad p0).2.1,hs];exact QH aj hk
 have l1:an.toNat=(mi an ar bn br).length:=by rw[←e1];omega
 have e2:(0:Int)=xp an bn:=by exact(Ad (ar:=ar) (br:=br) p0).2.2.symm
 have bq:=qX (fun (b9:Int) (u5:Nat) (gF:Int)=>(.tuple #[.agg #[I b9,.slice (some ⟨g0,0,none⟩) u5 an.toNat],I gF]:Value)) e0 l1 e2
 exact⟨(some ⟨g0,0,none⟩),an.toNat,bq,H7.below,(an0 (fun (n_:Nat)=>bl _ _ _ (mi an ar bn br) (.slice (some ⟨g0,0,none⟩) n_ an.toNat) _) l1).mp ((an0 (fun (x_:List (List bp))=>bl _ _ _ x_ (.slice (some ⟨g0,0,none⟩) an.toNat an.toNat) _) e1).mp (H7.dt 0 J))⟩
set_option maxRecDepth 100000 in
set_option maxHeartbeats 1600000 in
theorem C1 {M0:bY} {w0 w:aG} {l:List Go.Ew.Item} {i j:Nat} {Nz P0:Option Addr} {Nc PI:Nat} (H:HI M0 w0 w l) (hi:l[i]? =some (own w0.heap.size 151 (sL Nz a Nc) a)) (hj:l[j]? =some (own w0.heap.size 151 (sL P0 b PI) b)) (hlen:b.length≤a.length) (hlb:b.length≤1000000000) (gB:i≠j∨((sL Nz a Nc:Value)=sL P0 b PI∧b=a)):Calls aI 95 #[sL Nz a Nc,sL P0 b PI] w (cm fun v w'=>v=.tuple #[]∧HI M0 w0 w' (l.set i (own w0.heap.size 151 (sL Nz a Nc) (jK a b)))):=by
  have jL:i<l.length:=(dJ.1 hi).1
  refine enter 21 Tryz.func95 J J J fun f0 ha=>?_
  have i0:f0 0=.slice Nz a.length Nc:=ha 0 bj
  have i1:f0 1=.slice P0 b.length PI:=ha 1 bj
  refine az<|ai (v:=.slice P0 b.length PI) J i1<|k<|dL J J ir<|ai (v:=.int .i64 0) J J<|aq<|bk<|lp (fun m f w'=>∃(q:Nat) (xs:List bp),m=b.length-q∧f 0=.slice Nz a.length Nc∧f 6=.slice P0 b.length PI∧f 7=.int .i64 (b.length:Int)∧f 8=.int .i64 (q:Int)∧HI M0 w0 w' (l.set i (own w0.heap.size 151 (.slice Nz a.length Nc) xs))∧q≤b.length∧xs.length=a.length∧xs=qe a.length a b a q) _ ⟨0,a,J,i0,J,J,J,(by rw[ZY hi];exact H),apn _,J,CM _ _ _⟩ ?_
  rintro _ f1 w1 ⟨q,xs,rfl,s0,s1,s2,s3,H1,hk,hl,hs⟩
  refine az<|k<|lss J J s3 s2<|aq<|sq<|cd (b:=decide ((q:Int)<(b.length:Int))) J J (fun b1=>?_)<|fun b1=>?_
  ·
    have p1:=aoN b1
    obtain⟨ys,Mv,An,hyq⟩:=S' hj jL gB hl hs hk hlen
    refine sk<|nx<|sq<|bk<|az<|ai J s3<|k<|iz (H1.at_ j Mv) J J s1 s3 aj ir ft ?_
    intro g0 x0 iE aM cw
    have hxq:=hyq x0 aM
    refine k<|yK cw ft J J<|ak (v:=.int .i64 (q:Int)) J J<|ak (v:=ag x0) J J<|aq<|rg<|ai J s0<|ai (v:=.int .i64 (q:Int)) J J<|k<|iz (H1.at_ i<|Lu jL) J J J J aj ir ft ?_
    intro g1 x1 kT cQ gN
    refine k<|yK gN ft J J<|ai (v:=ag x0) J J<|k<|SP x1 x0 J J J J<|k<|iz (H1.at_ i<|Lu jL) J J J J aj ir ft ?_
    intro g2 x2 BT gZ kf
    refine k<|qj H1 i (Lu jL) BT J aj ft J J J J (RV.bv.2 J) ?_
    intro w2 H2
    rw[set_set] at H2
    refine z<|aF<|nx<|rg<|k<|add J J s3 J aR<|ai (v:=.int .i64 ((q:Int)+1)) J J<|z<|bF _ ?_ ⟨(q+1),(xs.set ((q:Int).toNat) (x1 ||| x0)),J,s0,s1,s2,(bH J),H2,aj,(by simpa using hl),S_ hs hxq cQ⟩
    omega
  ·
    have p1:=apF b1
    refine ex<|aT<|aY<|bf<|Et J ?_
    exact⟨J,by rw[←Wk hs hlen aj];exact H1⟩
set_option maxRecDepth 100000 in
set_option maxHeartbeats 1600000 in
theorem FL (hM:eJ M w) (ME:aK n) (h0:0≤n) (h4:n≤4096):Calls aI 121 #[I n] w (cm fun v w'=>∃(a0:Option Addr) (c0:Nat) (ss:List SV),v=.tuple #[.agg #[I n,.slice a0 n.toNat c0],I 0]∧Ext w w'∧KW M 144 151 w ss (List.replicate n.toNat (eh n)) (.slice a0 n.toNat c0) w'):=by
  refine dx 29 Tryz.func121 J J J hM fun f0 ha H=>?_
  have i0:f0 0=.int .i64 n:=ha 0 bj
  refine az<|k<|al H bm ?_
  intro aW w0 bW (H0:HI M w w0 [box aW #[.int .i64 0,.slice none 0 0] 26])
  refine ak (v:=.int .i64 0) J J<|aq<|sq<|az<|ai J i0<|k<|lss J J J J<|ai (v:=.bool (decide (n<0))) J J ?_
  have b0:decide (n<0)=false:=an' aj
  refine aZ J J J b0<|mv J i0<|aZ J J J b0<|gtr J J J J<|k<|dG J J J J b0 J<|z<|nx<|cd (b:=decide (4096<n)) J J (fun b1=>?_)<|fun b1=>?_
  · exact absurd (aoN b1) aj
  refine sk<|cO<|ai J i0<|k ?_
  have n0:((n.toNat:Nat):Int)=n:=aoC aj
  refine mk (m:=n.toNat) (zx:=(⟨none,0,0⟩:SV)) H0 J J (by rw[n0];exact rfl) (by rw[n0];exact rfl) iq dp (fun _ _=>rfl) aj aj ?_
  intro g0 w1 df (H1:HI M w w1 [own w.heap.size 144 (.slice (some ⟨g0,0,none⟩) n.toNat n.toNat) (List.replicate n.toNat (⟨none,0,0⟩:SV)),box aW #[.int .i64 0,.slice none 0 0] 26])
  refine ak (v:=.slice (some ⟨g0,0,none⟩) n.toNat n.toNat) J J<|aq<|sq<|az<|ai (v:=.slice (some ⟨g0,0,none⟩) n.toNat n.toNat) J J<|k<|dL J J iq<|ai (v:=.int .i64 0) J J<|aq<|bk<|lp (fun m f w'=>∃(j:Nat) (ss:List SV),m=n.toNat-j∧f 0=.int .i64 n∧f 2=.pointer (some ⟨aW,0,none⟩)∧f 4=.slice (some ⟨g0,0,none⟩) n.toNat n.toNat∧f 16=.int .i64 (n.toNat:Int)∧f 17=.int .i64 (j:Int)∧HI M w w' ([own w.heap.size 144 (.slice (some ⟨g0,0,none⟩) n.toNat n.toNat) (ss++List.replicate (n.toNat-j) (⟨none,0,0⟩:SV)),box aW #[.int .i64 0,.slice none 0 0] 26]++bG w.heap.size 151 ss (List.replicate j<|eh n))∧j≤n.toNat∧ss.length=j) _ ⟨0,[],J,i0,J,J,J,J,H1,apn _,J⟩ ?_
  rintro _ f0 w2 ⟨j,ss,rfl,s0,s1,s2,s3,s4,H2,hk,hl⟩
  refine az<|k<|lss J J s4 s3<|aq<|sq<|cd (b:=decide ((j:Int)<(n.toNat:Int))) J J (fun b2=>?_)<|fun b2=>?_
  ·
    have p2:=aoN b2
    refine sk<|nx<|sq<|bk<|az<|ai J s4<|ak (v:=.int .i64 (j:Int)) J J<|aq<|rg<|ai J s2<|ai (v:=.int .i64 (j:Int)) J J<|ai J s0<|k ?_
    have bR:=DY (n:=n) H2.mb aR aj
    refine ca Q' J (ec J e0) bR ?_
    rintro _ w3 ⟨a0,c0,rfl,eS,cu⟩
    have H3:=H2.eP cu
    have xF:j<(ss++List.replicate (n.toNat-j) (⟨none,0,0⟩:SV)).length:=by rw[fJ,oz];omega
    refine k<|iz (H3.at_ 1 J) J J J J aj iq dp ?_
    intro g1 x0 iE aM cw
    refine k<|qj (yv:=(⟨a0,(eh n).length,c0⟩:SV)) H3 1 J iE J aj dp J J J J (RV.sv.2 J) ?_
    intro w4 H4
    have H5:HI M w w4 (own w.heap.size 151 (⟨a0,(eh n).length,c0⟩:SV).v (eh n)::([own w.heap.size 144 (.slice (some ⟨g0,0,none⟩) n.toNat n.toNat) ((ss++List.replicate (n.toNat-j) (⟨none,0,0⟩:SV)).set ((j:Int).toNat) ⟨a0,(eh n).length,c0⟩),box aW #[.int .i64 0,.slice none 0 0] 26]++bG w.heap.size 151 ss (List.replicate j (eh n)))):=H4
    have H6:=H5.ab7<|by rw[oz];exact hl
    have es:(ss++List.replicate (n.toNat-j) (⟨none,0,0⟩:SV)).set ((j:Int).toNat) ⟨a0,(eh n).length,c0⟩=(ss++[⟨a0,(eh n).length,c0⟩])++List.replicate (n.toNat-(j+1)) (⟨none,0,0⟩:SV):=by
      rw[dq,apd _ _ aj,hl,aoZ,show n.toNat-j=n.toNat-(j+1)+1 from by omega,aoW,apU];simp
    rw[es,←List.replicate_succ'] at H6
    refine z<|aF<|nx<|rg<|k<|add J J s4 J aR<|ai (v:=.int .i64 ((j:Int)+1)) J J<|z<|bF _ ?_ ⟨(j+1),(ss++[⟨a0,(eh n).length,c0⟩]),J,s0,s1,s2,s3,(bH J),H6,aj,(by rw[fJ,hl];rfl)⟩
    omega
  ·
    have p2:=apF b2
    obtain rfl:j=n.toNat:=by omega
    rw[aoZ,List.replicate_zero,aps] at H2
    refine ex<|aT<|aY<|bf<|cO<|ai J s0<|ai J s2<|k<|bd (v:=.agg #[.int .i64 n,.slice (some ⟨g0,0,none⟩) n.toNat n.toNat]) J (ck J<|ck J ew) (fun _=>aS)<|k<|bu H2 1 J bm J J s1 J J J J ?_
    intro w3 H3
    have H4:HI M w w3 ([own w.heap.size 144 (.slice (some ⟨g0,0,none⟩) n.toNat n.toNat) ss,box aW #[.int .i64 n,.slice (some ⟨g0,0,none⟩) n.toNat n.toNat] 26]++bG w.heap.size 151 ss (List.replicate n.toNat (eh n))):=H3
    refine ak (v:=.int .i64 0) J J<|aq<|rt<|iy H4 1 J bm J J J s1 J au ?_
    exact⟨(some ⟨g0,0,none⟩),n.toNat,ss,J,H4.below,by rw[oz];exact hl,H4.aP (l':=[own w.heap.size 144 (.slice (some ⟨g0,0,none⟩) n.toNat n.toNat) ss]) [0] au rfl rfl⟩
theorem Hn:cx aI 121:=cF Tryz.func121
theorem agz:cx aI 128:=cF Tryz.func128
theorem P':aI.underlying 133=some (.array 2 3):=aS
theorem FK (hM:eJ M w) (hT:fS 0 w) (fY:aK mn) (gr:cA M w bC bB mr) (bZ:bJ mn mr=true):Calls aI 87 #[.agg #[I mn,sL bC mr bB]] w (cm fun v w'=>∃(a0:OA) (c0:Nat),v=.agg #[I mn,.slice a0 (gJ mn mr).length c0]∧Ext w w'∧bl M 144 w (gJ mn mr) (.slice a0 (gJ mn mr).length c0) w'):=by
 refine dx 39 Tryz.func87 J J J hM fun f0 ha H=>?_
 let J0:=iL bC mr bB
 have H0:=H.put (it:=J0) J<|by rw[bP];exact gr
 have nw:=bg gr
 have i0:f0 0=.agg #[I mn,sL bC mr bB]:=ha 0 bj
 refine az<|k<|bx H0 J i0 ?_
 intro aW w0 bW (H1:HI M w w0 [box aW #[I mn,sL bC mr bB] 26,J0])
 let J1:=box aW #[I mn,sL bC mr bB] 26
 refine k<|al H1 bm ?_
 let bc:=[J1,J0]
 intro ba w1 df (H2:HI M w w1 (box ba #[I 0,.slice none 0 0] 26::bc))
 let J2:=box ba #[I 0,.slice none 0 0] 26
 refine bw<|aQ kx J J<|bo H2 1 J aU J J J<|k ?_
 have bR:=FL (n:=mn) H2.mb fY (by exact kX bZ)<|by exact(bQ bZ).2.2.1
 refine ca Hn J (ec J e0) bR ?_
 rintro _ w2 ⟨a0,c0,fP,rfl,eS,cu⟩
 have H3:=H2.GJ cu
 let J3:=own w.heap.size 144 (.slice a0 mn.toNat c0) fP
 let bX:=J3::J2::bc
 have H4:HI M w w2 (bX++bG w.heap.size 151 fP (List.replicate mn.toNat (eh mn))):=H3
 have Fl:=cu.1
 refine ai (v:=.tuple #[.agg #[I mn,.slice a0 mn.toNat c0],I 0]) J J<|k<|xt J J J<|k<|xt J J J<|k<|al H4 bm ?_
 intro bI w3 fH (H5:HI M w w3 ((box bI #[I 0,.slice none 0 0] 26::bX)++bG w.heap.size 151 fP (List.replicate mn.toNat (eh mn))))
 refine k<|bu H5 0 J bm J J J J J J J ?_
 let J4:=box bI #[I mn,.slice a0 mn.toNat c0] 26
 let dM:=J4::bX
 intro w4 (H6:HI M w w4 (dM++bG w.heap.size 151 fP (List.replicate mn.toNat (eh mn))))
 refine ak (v:=I 0) J J<|aq<|sq<|az<|k<|cB H6 3 J bm J J au J<|k ?_
 have cU:=S3 (mn:=mn) (mr:=mr) H6.mb (hT.ext H6.below) fY (H6.rv 4 J) (by exact(bQ bZ).1) (by exact(bQ bZ).2.1) (by exact(bQ bZ).2.2.1)<|by exact(bQ bZ).2.2.2.2
 refine ca agz J (ec J e0) cU ?_
 rintro _ w5 ⟨a1,c1,rfl,jg,ee⟩
 have H7:=H6.ext jg
 let J5:=iL a1 (iW mn mr) c1
 have H8:=H7.put (it:=J5) J ee
 have H9:HI M w w5 ((J5::dM)++bG w.heap.size 151 fP (List.replicate mn.toNat (eh mn))):=H8
 refine k<|dL J J P9<|ai (v:=I 0) J J<|aq<|bk<|lp (fun m f w'=>∃(j:Nat) (xs:List (List bp)),m=(iW mn mr).length-j∧f 2=pV ba 0∧f 3=pV bI 0∧f 14=sL a1 (iW mn mr) c1∧f 15=I ((iW mn mr).length:Int)∧f 16=I (j:Int)∧HI M w w' ((J5::dM)++bG w.heap.size 151 fP xs)∧(j≤(iW mn mr).length)∧(fP.length=xs.length)∧(xs=foldM mn (((iW mn mr).map AZ).take j))) _ ⟨0,(List.replicate mn.toNat<|eh mn),J,J,J,J,J,(bH J),H9,aj,(by exact cu.1),(by exact RX _ _)⟩ ?_
 rintro _ f0 w6 ⟨j,xs,rfl,s0,s1,s2,s3,s4,dE,hk,hl,hs⟩
 refine az<|k<|lss J J s4 s3<|aq<|sq<|cd (b:=decide ((j:Int)<((iW mn mr).length:Int))) J J (fun b0=>?_)<|fun b0=>?_
 ·
  have p0:=dT b0
  refine sk<|nx<|sq<|bk<|az<|k<|ia (dE.rv 0 J) J J s2 s4 aj P9 Gu ?_
  intro iG x0 aM cw
  refine k<|nz cw.w Gu J J ?_
  intro v0 eb
  obtain⟨_,⟨_,_,rfl,⟨rfl,fh⟩,⟨rfl,jd⟩⟩,rfl⟩:=eb
  refine k<|al dE Gu ?_
  intro fm w7 jr (cV:HI M w w7 ((box fm #[I 0,I 0] 133::J5::dM)++bG w.heap.size 151 fP xs))
  refine k<|bu cV 0 J Gu J J J J J J J ?_
  let J6:=box fm #[I x0.1,I x0.2] 133
  intro w8 (dm:HI M w w8 ((J6::J5::dM)++bG w.heap.size 151 fP xs))
  refine z<|nx ?_
  obtain⟨TS,TR,g3_,g4_⟩:=Qs bZ aM
  have xl_:xs.length=mn.toNat:=by rw[hs,Dh]
  obtain⟨a2,x1,c2,l5,mw⟩:=ur (i:=x0.2.toNat) dm bt aj
  obtain⟨x3,gZ⟩:∃x,x1[(x0.1/64).toNat]? =some x:=⟨_,dW (by obtain⟨Me,tU,k3_,k4_⟩:=xa (hs▸mw) TS TR;first|omega|exact⟨Me,tU⟩)⟩
  refine dr 15 [eV (pV bI 1),eV (.slice a0 mn.toNat c0),eV (pV fm 1),fun v w'=>v=I x0.2∧aK (x0.2),fun v w'=>∃(g0:Nat),v=.pointer (some ⟨g0,x0.2.toNat*1,none⟩)∧(.slice a0 mn.toNat c0:Value).ownBlock=some g0∧gP dm.fg w' ⟨g0,x0.2.toNat*1,none⟩ (⟨a2,x1.length,c2⟩:SV),eV (sL a2 x1 c2),eV (pV fm 0),fun v w'=>v=I x0.1∧aK (x0.1),eV (I<|x0.1/64),fun v w'=>∃(g1:Nat),v=.pointer (some ⟨g1,(x0.1/64).toNat*1,none⟩)∧(.slice a2 x1.length c2:Value).ownBlock=some g1∧gP dm.fg w' ⟨g1,(x0.1/64).toNat*1,none⟩ x3,eV (ag x3),eV (pV fm 0),fun v w'=>v=I x0.1∧aK (x0.1),eV (I<|x0.1%64),eV (ag<|ko<|x0.1%64)] J aS ?_ ?_
  ·
   refine dc (fun _ _ My _ _=>fa iB J ((My 3 J).trans s1)<|d0 J J)<|dc (fun _ _ _ nS JI=>lx (dm.ext nS) 2 J lh J (JI 0 J J) J<|d0 J J)<|dc (fun _ _ Hi _ _=>Yg J J (Hi 6 J) J aj P' aU<|d0 J J)<|dc (fun _ _ _ Fe vf=>lx (dm.ext Fe) 0 J aU J (vf 2 J J) J ⟨_,J,Ext.refl _,⟨J,jd⟩⟩) ?_
   refine⟨fun _=>⟨fun f5 j1 hf4 Fc BV=>?_,by rintro _ _ _ x_ ⟨g0,e_,iE,gN⟩;exact⟨g0,e_,iE,gN.ext x_⟩⟩,?_⟩
   ·
    have dX:=dm.ext Fc
    have s7:f5 21=.slice a0 mn.toNat c0:=BV 1 J J
    obtain⟨s8,jX⟩:f5 23=I x0.2∧aK (x0.2):=BV 3 rfl rfl
    refine iz (dX.at_ 3 J) J J s7 s8 aj iq dp ?_
    intro g2 x4 BT qm sO
    obtain rfl:(⟨a2,x1.length,c2⟩:SV)=x4:=an5 (l5.symm.trans qm)
    exact⟨_,J,Ext.refl _,⟨g2,J,BT,sO⟩⟩
   refine dc (fun f6 rm Tz P6 JH=>?_) ?_
   ·
    obtain⟨g3,s9,Yl,wc⟩:∃(g3:Nat),f6 24=.pointer (some ⟨g3,x0.2.toNat*1,none⟩)∧(.slice a0 mn.toNat c0:Value).ownBlock=some g3∧gP dm.fg rm ⟨g3,x0.2.toNat*1,none⟩ (⟨a2,x1.length,c2⟩:SV):=JH 4 rfl rfl
    refine Jx wc dp J s9 ?_
    exact⟨_,J,Ext.refl _,J⟩
   refine dc (fun _ _ Ty _ _=>Yg J J (Ty 6 J) J aj P' aU<|d0 J J)<|dc (fun _ _ _ P5 EG=>lx (dm.ext P5) 0 J aU J (EG 6 J J) J ⟨_,J,Ext.refl _,⟨J,fh⟩⟩)<|dc (fun f9 tP Tx K3 BU=>?_) ?_
   ·
    obtain⟨eX,iU⟩:f9 27=I x0.1∧aK (x0.1):=BU 7 rfl rfl
    refine Lt J J eX J ?_
    exact⟨_,J,Ext.refl _,J⟩
   refine⟨fun _=>⟨fun f10 vV YD K1 EF=>?_,by rintro _ _ _ x_ ⟨g1,e_,kT,kf⟩;exact⟨g1,e_,kT,kf.ext x_⟩⟩,?_⟩
   ·
    have eR:=dm.ext K1
    have fA:f10 25=sL a2 x1 c2:=EF 5 J J
    have fD:f10 28=I (x0.1/64):=EF 8 J J
    refine iz (eR.at_ _<|pG l5 mw) J J fA fD (by obtain⟨Me,tU,k3_,k4_⟩:=xa (hs▸mw) TS TR;first|omega|exact⟨Me,tU⟩) ir ft ?_
    intro g4 x5 hv4 xD MI
    obtain rfl:x3=x5:=an5 (gZ.symm.trans xD)
    exact⟨_,J,Ext.refl _,⟨g4,J,hv4,MI⟩⟩
   refine dc (fun f11 wY zy air sm=>?_) ?_
   ·
    obtain⟨g5,gi,hv5,MH⟩:∃(g5:Nat),f11 29=.pointer (some ⟨g5,(x0.1/64).toNat*1,none⟩)∧(.slice a2 x1.length c2:Value).ownBlock=some g5∧gP dm.fg wY ⟨g5,(x0.1/64).toNat*1,none⟩ x3:=sm 9 rfl rfl
    refine yK MH ft J gi ?_
    exact⟨_,J,Ext.refl _,J⟩
   refine dc (fun _ _ adI _ _=>Yg J J (adI 6 J) J aj P' aU<|d0 J J)<|dc (fun _ _ _ Vc FU=>lx (dm.ext Vc) 0 J aU J (FU 11 J J) J ⟨_,J,Ext.refl _,⟨J,fh⟩⟩)<|dc (fun f14 La ajc abj Mp=>?_) ?_
   ·
    obtain⟨kb,kW⟩:f14 32=I x0.1∧aK (x0.1):=Mp 12 rfl rfl
    refine KU J J kb J ?_
    exact⟨_,J,Ext.refl _,J⟩
   refine dc (fun f15 RW ajb amN Ws=>?_) ?_
   ·
    have kK:f15 33=I (x0.1%64):=Ws 13 J J
    have fb:=Fg (i:=(x0.1%64)) (w:=RW) aR
    refine ca Rg J (ec kK e0) fb ?_
    rintro _ Oq ⟨rfl,aiq⟩
    exact⟨_,J,aiq,J⟩
   exact lW.rest J _
  ·
   intro f16 w26 uD aip FT
   have tN:=dm.ext aip
   have lC:=(uD 2 J).trans s0
   have l3:=(uD 3 J).trans s1
   have lZ:=(uD 14 J).trans s2
   have mZ:=(uD 15 J).trans s3
   have pf:=(uD 16 J).trans s4
   have ym:=FT 5 J
   have zX:=FT 8 J
   have Cs:=FT 10 J
   have yl:=FT 14 J
   refine k<|SP x3 (ko<|x0.1%64) J J Cs yl<|k<|iz (tN.at_ _<|pG l5 mw) J J ym zX (by obtain⟨Me,tU,k3_,k4_⟩:=xa (hs▸mw) TS TR;first|omega|exact⟨Me,tU⟩) ir ft ?_
   intro g6 x6 hv6 Ml YU
   refine k<|qj tN _ (pG l5 mw) hv6 J (by obtain⟨Me,tU,k3_,k4_⟩:=xa (hs▸mw) TS TR;first|omega|exact⟨Me,tU⟩) ft J J J J (RV.bv.2 J) ?_
   intro XM pq
   have ln:=HI.z6 (M:=fun _=>False) (it:=tq (.int .i64 0) (0:Int)) pq l5
   have kU:HI M w XM ((J6::J5::dM)++bG w.heap.size 151 fP (xs.set x0.2.toNat (x1.set ((x0.1/64).toNat) (x3 ||| (ko (x0.1%64)))))):=ln
   refine z<|aF<|nx<|rg<|k<|add J J pf J (by have h_:=NS bZ;unfold aK;omega)<|ai (v:=I ((j:Int)+1)) J J<|z ?_
   have ra:HI M w XM ((J5::dM)++bG w.heap.size 151 fP (xs.set x0.2.toNat (x1.set ((x0.1/64).toNat) (x3 ||| (ko (x0.1%64)))))):=HI.aP (l:=(J6::J5::dM)) (l':=(J5::dM)) (t:=bG w.heap.size 151 fP (xs.set x0.2.toNat (x1.set ((x0.1/64).toNat) (x3 ||| (ko<|x0.1%64))))) kU [1,2,3,4,5,6] au J J
   refine bF _ ?_ ⟨(j+1),(xs.set x0.2.toNat (x1.set ((x0.1/64).toNat) (x3 ||| (ko<|x0.1%64)))),J,lC,l3,lZ,mZ,(bH J),ra,aj,(by simp only[an1];exact hl),(by exact RY hs aM mw gZ TS TR)⟩
   omega
 have p0:=dF b0
 refine ex<|aT<|aY<|bf<|nx<|sq ?_
 have cV:HI M w w6 [own w.heap.size 144 (.slice a0 mn.toNat c0) xs,J5,J4,J2,J1,J0]:=HI.deep (l:=[J5,J4,J2,J1,J0]) (HI.aP (l:=(J5::dM)) (l':=[J3,J5,J4,J2,J1,J0]) (t:=bG w.heap.size 151 fP xs) dE [2,0,1,3,4,5] au J J) bt
 refine rg<|k<|cB cV 2 J bm J s1 au J<|k<|bu cV 3 J bm J J s0 J J J J ?_
 intro w7 (dm:HI M w w7 [own w.heap.size 144 (.slice a0 mn.toNat c0) xs,J5,J4,box ba #[I mn,.slice a0 mn.toNat c0] 26,J1,J0])
 refine aq<|rt<|ph dm 3 J bm J J s0 J au ?_
 have e1:(xs:List (List bp))=gJ mn mr:=by exact Vi hs aj
 have l1:mn.toNat=(gJ mn mr).length:=by rw[Ci]
 have bq:=iF (fun (u5:Nat)=>(.agg #[I mn,.slice a0 u5 c0]:Value)) l1
 exact⟨a0,c0,bq,dm.below,(an0 (fun (n_:Nat)=>bl _ _ _ (gJ mn mr) (.slice a0 n_ c0) _) l1).mp ((an0 (fun (x_:List (List bp))=>bl _ _ _ x_ (.slice a0 mn.toNat c0) _) e1).mp (dm.dt 0 J))⟩
theorem Mm (hM:eJ M w) (fY:aK mn) (gr:cA M w bC bB mr) (bZ:bJ mn mr=true):Calls aI 94 #[.agg #[I mn,sL bC mr bB]] w (cm fun v w'=>∃(a0:OA) (c0:Nat) (fP:List SV),v=.agg #[I mn,.slice a0 mn.toNat c0]∧Ext w w'∧KW M 144 151 w fP mr (.slice a0 mn.toNat c0) w'):=by
 refine dx 30 Tryz.func94 J J J hM fun f0 ha H=>?_
 let J0:=iL bC mr bB
 have H0:=H.put (it:=J0) J<|by rw[bP];exact gr
 have nw:=bg gr
 have i0:f0 0=.agg #[I mn,sL bC mr bB]:=ha 0 bj
 refine az<|k<|bx H0 J i0 ?_
 intro aW w0 bW (H1:HI M w w0 [box aW #[I mn,sL bC mr bB] 26,J0])
 let J1:=box aW #[I mn,sL bC mr bB] 26
 refine k<|al H1 bm ?_
 intro ba w1 df (H2:HI M w w1 [box ba #[I 0,.slice none 0 0] 26,J1,J0])
 let J2:=box ba #[I 0,.slice none 0 0] 26
 refine bw<|aQ kx J J<|bo H2 1 J aU J J J<|k ?_
 have bR:=FL (n:=mn) H2.mb fY (by exact kX bZ)<|by exact(bQ bZ).2.2.1
 refine ca Hn J (ec J e0) bR ?_
 rintro _ w2 ⟨a0,c0,fP,rfl,eS,cu⟩
 have H3:=H2.GJ cu
 let J3:=own w.heap.size 144 (.slice a0 mn.toNat c0) fP
 let bc:=[J3,J2,J1,J0]
 have H4:HI M w w2 (bc++bG w.heap.size 151 fP (List.replicate mn.toNat (eh mn))):=H3
 have Fl:=cu.1
 refine ai (v:=.tuple #[.agg #[I mn,.slice a0 mn.toNat c0],I 0]) J J<|k<|xt J J J<|k<|xt J J J<|k<|al H4 bm ?_
 intro bI w3 fH (H5:HI M w w3 ((box bI #[I 0,.slice none 0 0] 26::bc)++bG w.heap.size 151 fP (List.replicate mn.toNat (eh mn))))
 refine k<|bu H5 0 J bm J J J J J J J ?_
 let J4:=box bI #[I mn,.slice a0 mn.toNat c0] 26
 intro w4 (H6:HI M w w4 ((J4::bc)++bG w.heap.size 151 fP (List.replicate mn.toNat (eh mn))))
 refine ak (v:=I 0) J J<|aq<|sq<|az<|aQ iB J J<|bo H6 3 J lh J J J<|k<|dL J J iq<|ai (v:=I 0) J J<|aq<|bk<|lp (fun m f w'=>∃(j:Nat) (xs:List (List bp)),m=mr.length-j∧f 2=pV ba 0∧f 3=pV bI 0∧f 14=sL bC mr bB∧f 15=I (mr.length:Int)∧f 16=I (j:Int)∧HI M w w' ((J4::bc)++bG w.heap.size 151 fP xs)∧(j≤mr.length)∧(fP.length=xs.length)∧(xs=mr.take j++List.replicate (mn.toNat-j) (eh mn))) _ ⟨0,(List.replicate mn.toNat<|eh mn),J,J,J,J,J,(bH J),H6,aj,(by exact cu.1),bj⟩ ?_
 rintro _ f0 w5 ⟨j,xs,rfl,s0,s1,s2,s3,s4,H7,hk,hl,hs⟩
 refine az<|k<|lss J J s4 s3<|aq<|sq<|cd (b:=decide ((j:Int)<(mr.length:Int))) J J (fun b0=>?_)<|fun b0=>?_
 ·
  have p0:=dT b0
  refine sk<|nx<|sq<|bk<|az<|ai J s4<|k<|ia (H7.rv 4 J) J J s2 s4 aj iq dp ?_
  intro iG x0 aM cw
  refine k<|va cw.w dp J J ?_
  intro a1 c1 ee
  have Al:=bg ee
  have H8:=dR H7 ee
  let bX:=iL a1 x0 c1::J4::bc
  have H9:HI M w w5 (bX++bG w.heap.size 151 fP xs):=H8
  refine ak (v:=I (j:Int)) J J<|ak (v:=sL a1 x0 c1) J J<|z<|nx ?_
  have xl_:xs.length=mr.length:=by have h_:=(bQ bZ).1;rw[hs,fJ,ic,oz];omega
  refine rg<|aQ iB J s1<|bo H9 1 J lh J J J<|ai (v:=I (j:Int)) J J<|k ?_
  obtain⟨a2,x1,c2,l5,mw⟩:=ur (i:=(j:Int).toNat) H9 bt aj
  refine iz (H9.at_ 2 J) J J J J aj iq dp ?_
  intro g0 x2 iE cQ gN
  obtain rfl:(⟨a2,x1.length,c2⟩:SV)=x2:=an5 (l5.symm.trans cQ)
  refine k<|Jx gN dp J J<|ai (v:=sL a1 x0 c1) J J<|k<|cpO H9 _ (pG l5 mw) J J J J J (H9.rv 0 J).src ir ft (by exact aac bZ hs aM mw) (by exact aab bZ hs aM mw) ?_
  intro w6 cV
  have dE:=HI.z6 (M:=fun _=>False) (it:=tq (.int .i64 0) (0:Int)) cV l5
  have dm:HI M w w6 (bX++bG w.heap.size 151 fP (xs.set ((j:Int).toNat) x0)):=dE
  refine z<|aF<|nx<|rg<|k<|add J J s4 J aR<|ai (v:=I ((j:Int)+1)) J J<|z ?_
  have cL:HI M w w6 ((J4::bc)++bG w.heap.size 151 fP (xs.set ((j:Int).toNat) x0)):=HI.aP (l:=bX) (l':=(J4::bc)) (t:=bG w.heap.size 151 fP (xs.set ((j:Int).toNat) x0)) dm [1,2,3,4,5] au J J
  refine bF _ ?_ ⟨(j+1),(xs.set ((j:Int).toNat) x0),J,s0,s1,s2,s3,(bH J),cL,aj,(by simp only[an1];exact hl),(by exact VT bZ hs aM)⟩
  omega
 have p0:=dF b0
 refine ex<|aT<|aY<|bf<|cO<|k<|cB H7 0 J bm J s1 au J<|k<|bu H7 2 J bm J J s0 J J J J ?_
 intro w6 (H8:HI M w w6 ([J4,J3,box ba #[I mn,.slice a0 mn.toNat c0] 26,J1,J0]++bG w.heap.size 151 fP xs))
 refine aq<|rt<|ph H8 2 J bm J J s0 J au ?_
 have e1:(xs:List (List bp))=mr:=by exact aad bZ hs aj
 have w1:fP.length=(xs).length:=by assumption
 exact⟨a0,c0,fP,J,H8.below,(an0 (fun (x_:List (List bp))=>KW _ 144 151 _ fP x_ (.slice a0 mn.toNat c0) _) e1).mp ⟨w1,HI.aP (l:=[box bI #[I mn,.slice a0 mn.toNat c0] 26,own w.heap.size 144 (.slice a0 mn.toNat c0) fP,box ba #[I mn,.slice a0 mn.toNat c0] 26,box aW #[I mn,sL bC mr bB] 26,iL bC mr bB]) (l':=[own w.heap.size 144 (.slice a0 mn.toNat c0) fP]) (t:=bG w.heap.size 151 fP xs) H8 [1] au rfl rfl⟩⟩
theorem aek:cx aI 94:=cF Tryz.func94
theorem WG:cx aI 95:=cF Tryz.func95
theorem F4:cx aI 64:=cF Tryz.func64
theorem wD (hM:eJ M w) (fY:aK mn) (gr:cA M w bC bB mr) (bZ:bJ mn mr=true):Calls aI 58 #[.agg #[I mn,sL bC mr bB]] w (cm fun v w'=>∃(a0:OA) (c0:Nat),v=.agg #[I mn,.slice a0 (ff mn mr).length c0]∧Ext w w'∧bl M 144 w (ff mn mr) (.slice a0 (ff mn mr).length c0) w'):=by
 refine dx 41 Tryz.func58 J J J hM fun f0 ha H=>?_
 let J0:=iL bC mr bB
 have H0:=H.put (it:=J0) J<|by rw[bP];exact gr
 have nw:=bg gr
 have i0:f0 0=.agg #[I mn,sL bC mr bB]:=ha 0 bj
 have tY:=(bQ bZ).1;have JR:=(bQ bZ).2.2.1;have EK:=kX bZ
 refine az<|k<|bx H0 J i0 ?_
 intro aW w0 bW (H1:HI M w w0 [box aW #[I mn,sL bC mr bB] 26,J0])
 let J1:=box aW #[I mn,sL bC mr bB] 26
 refine k<|al H1 bm ?_
 intro ba w1 df (H2:HI M w w1 [box ba #[I 0,.slice none 0 0] 26,J1,J0])
 let J2:=box ba #[I 0,.slice none 0 0] 26
 refine bw<|k<|cB H2 1 J bm J J au J<|k ?_
 have bR:=Mm (mn:=mn) (mr:=mr) H2.mb fY (H2.rv 2 J)<|by exact bZ
 refine ca aek J (ec J e0) bR ?_
 rintro _ w2 ⟨a0,c0,fP,rfl,eS,cu⟩
 have H3:=H2.GJ cu
 let J3:=own w.heap.size 144 (.slice a0 mn.toNat c0) fP
 have H4:HI M w w2 ([J3,J2,J1,J0]++bG w.heap.size 151 fP mr):=H3
 have Fl:=cu.1
 refine k<|al H4 bm ?_
 intro bI w3 fH (H5:HI M w w3 ([box bI #[I 0,.slice none 0 0] 26,J3,J2,J1,J0]++bG w.heap.size 151 fP mr))
 refine k<|bu H5 0 J bm J J J J J J J ?_
 let J4:=box bI #[I mn,.slice a0 mn.toNat c0] 26
 intro w4 (H6:HI M w w4 ([J4,J3,J2,J1,J0]++bG w.heap.size 151 fP mr))
 refine aq<|sq<|az<|aQ iB J J<|bo H6 0 J lh J J J<|k<|dL J J iq<|ai (v:=I 0) J J<|aq<|bk<|lp (fun m f w'=>∃(q:Nat) (xs:List (List bp)),m=mn.toNat-q∧f 2=pV ba 0∧f 3=pV bI 0∧f 10=I (mn.toNat:Int)∧f 11=I (q:Int)∧HI M w w' ([J4,J3,J2,J1,J0]++bG w.heap.size 151 fP xs)∧(q≤mn.toNat)∧(fP.length=xs.length)∧(xs=cE mn.toNat (wM (fW mr) q))∧(xs.length=mn.toNat)) _ ⟨0,mr,J,J,J,J,(bH J),H6,aj,(by exact Fl),(by exact Od bZ),aj⟩ ?_
 rintro _ f0 w5 ⟨q,xs,rfl,s0,s1,s2,s3,H7,hk,hl,hs,EB⟩
 refine az<|k<|lss J J s3 s2<|aq<|sq<|cd (b:=decide ((q:Int)<(mn.toNat:Int))) J J (fun b0=>?_)<|fun b0=>?_
 ·
  have p0:=dT b0
  refine sk<|nx<|sq<|bk<|az<|ai J s3<|ak (v:=I (q:Int)) J J<|bw<|aQ iB J s1<|bo H7 0 J lh J J J<|k<|dL J J iq<|ai (v:=I 0) J J<|aq<|bk<|lp (fun m f w'=>∃(i:Nat) (ys:List (List bp)),m=mn.toNat-i∧f 2=pV ba 0∧f 3=pV bI 0∧f 4=I (q:Int)∧f 10=I (mn.toNat:Int)∧f 11=I (q:Int)∧f 16=I (mn.toNat:Int)∧f 17=I (i:Int)∧HI M w w' ([J4,J3,J2,J1,J0]++bG w.heap.size 151 fP ys)∧(i≤mn.toNat)∧(fP.length=ys.length)∧(ys=cE mn.toNat (wR (fW mr) q i))∧(ys.length=mn.toNat)) _ ⟨0,xs,J,s0,s1,J,s2,s3,J,(bH J),H7,aj,(by exact hl),(by rw[hs];exact ZL _ _ _),(by exact EB)⟩ ?_
  rintro _ f1 w6 ⟨i,ys,rfl,s4,s5,s6,s7,s8,s9,ej,H8,YA,la,gM,An⟩
  refine az<|k<|lss J J ej s9<|aq<|sq<|cd (b:=decide ((i:Int)<(mn.toNat:Int))) J J (fun b1=>?_)<|fun b1=>?_
  ·
   have p1:=dT b1
   refine sk<|nx<|sq<|bk<|az<|ai J ej<|ak (v:=I (i:Int)) J J<|bw<|aQ iB J s5<|bo H8 0 J lh J J J<|ai (v:=I (i:Int)) J J<|k ?_
   obtain⟨a1,x0,c1,l5,mw⟩:=ur (i:=(i:Int).toNat) H8 bt aj
   refine iz (H8.at_ 1 J) J J J J aj iq dp ?_
   intro g0 x1 iE aM cw
   obtain rfl:(⟨a1,x0.length,c1⟩:SV)=x1:=an5 (l5.symm.trans aM)
   refine k<|Jx cw dp J J<|ai J s6<|k ?_
   have cU:=z1 (r:=x0) (i:=(q:Int)) (w:=w6) (M:=fun _=>False) (fun _ h_=>h_.elim) (ab5 H8 l5 mw) aR
   refine ca ML J (ec J<|ec J e0) cU ?_
   rintro _ w7 ⟨rfl,jg⟩
   have H9:=H8.ext jg
   refine z<|nx<|cd (b:=fk x0 (q:Int)) J J (fun b2=>?_)<|fun b2=>?_
   ·
    obtain⟨a2,x3,c2,Hc,Tj⟩:=ur (i:=(q:Int).toNat) H9 bt aj
    refine dr 10 [eV (pV bI 1),eV (.slice a0 mn.toNat c0),eV (I (i:Int)),fun v w'=>∃(g1:Nat),v=.pointer (some ⟨g1,(i:Int).toNat*1,none⟩)∧(.slice a0 mn.toNat c0:Value).ownBlock=some g1∧gP H9.fg w' ⟨g1,(i:Int).toNat*1,none⟩ (⟨a1,x0.length,c1⟩:SV),eV (sL a1 x0 c1),eV (pV bI 1),eV (.slice a0 mn.toNat c0),eV (I (q:Int)),fun v w'=>∃(g2:Nat),v=.pointer (some ⟨g2,(q:Int).toNat*1,none⟩)∧(.slice a0 mn.toNat c0:Value).ownBlock=some g2∧gP H9.fg w' ⟨g2,(q:Int).toNat*1,none⟩ (⟨a2,x3.length,c2⟩:SV),eV (sL a2 x3 c2)] J aS ?_ ?_
    ·
     refine dc (fun _ _ My _ _=>fa iB J ((My 3 J).trans s5)<|d0 J J)<|dc (fun _ _ _ kr JI=>lx (H9.ext kr) 0 J lh J (JI 0 J J) J<|d0 J J)<|dc (fun _ _ Hi _ _=>mv J (Hi 5 J)<|d0 J J) ?_
     refine⟨fun _=>⟨fun f5 ey hf3 nS vf=>?_,by rintro _ _ _ x_ ⟨g1,e_,kT,gN⟩;exact⟨g1,e_,kT,gN.ext x_⟩⟩,?_⟩
     ·
      have cL:=H9.ext nS
      have fA:f5 28=.slice a0 mn.toNat c0:=vf 1 J J
      have fD:f5 29=I (i:Int):=vf 2 J J
      refine iz (cL.at_ 1 J) J J fA fD aj iq dp ?_
      intro g3 x5 Yl qm sO
      obtain rfl:(⟨a1,x0.length,c1⟩:SV)=x5:=an5 (l5.symm.trans qm)
      exact⟨_,J,Ext.refl _,⟨g3,J,Yl,sO⟩⟩
     refine dc (fun f6 fq hf4 zP BV=>?_) ?_
     ·
      obtain⟨g4,gi,hv4,wc⟩:∃(g4:Nat),f6 30=.pointer (some ⟨g4,(i:Int).toNat*1,none⟩)∧(.slice a0 mn.toNat c0:Value).ownBlock=some g4∧gP H9.fg fq ⟨g4,(i:Int).toNat*1,none⟩ (⟨a1,x0.length,c1⟩:SV):=BV 3 rfl rfl
      refine Jx wc dp J gi ?_
      exact⟨_,J,Ext.refl _,J⟩
     refine dc (fun _ _ Tz _ _=>fa iB J ((Tz 3 J).trans s5)<|d0 J J)<|dc (fun _ _ _ Fc JF=>lx (H9.ext Fc) 0 J lh J (JF 5 J J) J<|d0 J J)<|dc (fun _ _ hf7 _ _=>mv J ((hf7 4 J).trans s6)<|d0 J J) ?_
     refine⟨fun _=>⟨fun f10 zS Tx K4 BU=>?_,by rintro _ _ _ x_ ⟨g2,e_,BT,kf⟩;exact⟨g2,e_,BT,kf.ext x_⟩⟩,?_⟩
     ·
      have dX:=H9.ext K4
      have kb:f10 33=.slice a0 mn.toNat c0:=BU 6 J J
      have kK:f10 34=I (q:Int):=BU 7 J J
      refine iz (dX.at_ 1 J) J J kb kK aj iq dp ?_
      intro g5 x6 hv5 xD MI
      obtain rfl:(⟨a2,x3.length,c2⟩:SV)=x6:=an5 (Hc.symm.trans xD)
      exact⟨_,J,Ext.refl _,⟨g5,J,hv5,MI⟩⟩
     refine dc (fun f11 tQ YD P5 EF=>?_) ?_
     ·
      obtain⟨g6,lC,hv6,MH⟩:∃(g6:Nat),f11 35=.pointer (some ⟨g6,(q:Int).toNat*1,none⟩)∧(.slice a0 mn.toNat c0:Value).ownBlock=some g6∧gP H9.fg tQ ⟨g6,(q:Int).toNat*1,none⟩ (⟨a2,x3.length,c2⟩:SV):=EF 8 rfl rfl
      refine Jx MH dp J lC ?_
      exact⟨_,J,Ext.refl _,J⟩
     exact lW.rest J _
    ·
     intro f12 tP zy K3 sm
     have cG:=H9.ext K3
     have l3:=(zy 2 J).trans s4
     have lZ:=(zy 3 J).trans s5
     have mZ:=(zy 4 J).trans s6
     have pf:=(zy 10 J).trans s7
     have ym:=(zy 11 J).trans s8
     have zX:=(zy 16 J).trans s9
     have Cs:=(zy 17 J).trans ej
     have yl:=sm 4 J
     have GB:=sm 9 J
     refine k ?_
     have fU:=C1 cG (pG (l:=[J4,J3,J2,J1,J0]) l5 mw) (pG (l:=[J4,J3,J2,J1,J0]) Hc Tj) (by have Py:=mw;rw[gM] at Py;have Px:=Tj;rw[gM] at Px;rw[K_ Py,K_ Px];exact an3 _) (by have Px:=Tj;rw[gM] at Px;rw[K_ Px];have h_:=Ff (n:=((mn.toNat:Nat):Int)) aj;omega)<|aax l5 Hc mw Tj
     refine ca WG J (ec yl<|ec GB e0) fU ?_
     rintro _ vV ⟨rfl,dD⟩
     have d_:=HI.z6 (M:=fun _=>False) (it:=tq (.int .i64 0) (0:Int)) dD l5
     have eR:HI M w vV ([J4,J3,J2,J1,J0]++bG w.heap.size 151 fP (ys.set ((i:Int).toNat) (jK x0 x3))):=d_
     refine z<|aF<|nx<|rg<|k<|add J J Cs J aR<|ai (v:=I ((i:Int)+1)) J J<|z<|bF _ ?_ ⟨(i+1),(ys.set ((i:Int).toNat) (jK x0 x3)),J,l3,lZ,mZ,pf,ym,zX,(bH J),eR,aj,(by rw[an1];exact la),(by exact abq gM mw Tj aj b2),(by rw[an1];exact An)⟩
     omega
   refine sk<|aF<|nx<|rg<|k<|add J J ej J aR<|ai (v:=I ((i:Int)+1)) J J<|z<|bF _ ?_ ⟨(i+1),ys,J,s4,s5,s6,s7,s8,s9,(bH J),H9,aj,(by exact la),(by exact afz gM mw aj b2),(by exact An)⟩
   omega
  have p1:=dF b1
  refine ex<|aT<|aY<|bf<|aF<|nx<|rg<|k<|add J J s8 J aR<|ai (v:=I ((q:Int)+1)) J J<|z<|bF _ ?_ ⟨(q+1),ys,J,s4,s5,s7,(bH J),H8,aj,(by exact la),(by rw[gM];exact abr _ aj),(by exact An)⟩
  omega
 have p0:=dF b0
 refine ex<|aT<|aY<|bf<|nx<|sq ?_
 have H8:HI M w w5 [own w.heap.size 144 (.slice a0 mn.toNat c0) xs,J4,J2,J1,J0]:=HI.deep (l:=[J4,J2,J1,J0]) (HI.aP (l:=[J4,J3,J2,J1,J0]) (l':=[J3,J4,J2,J1,J0]) (t:=bG w.heap.size 151 fP xs) H7 [1,0,2,3,4] au J J) bt
 refine rg<|k<|cB H8 1 J bm J s1 au J<|k<|bu H8 2 J bm J J s0 J J J J ?_
 intro w6 (H9:HI M w w6 [own w.heap.size 144 (.slice a0 mn.toNat c0) xs,J4,box ba #[I mn,.slice a0 mn.toNat c0] 26,J1,J0])
 refine aq<|rt<|ph H9 2 J bm J J s0 J au ?_
 have e1:(xs:List (List bp))=ff mn mr:=by exact Uo hs aj aj
 have l1:mn.toNat=(ff mn mr).length:=by rw[←e1];omega
 have bq:=iF (fun (u5:Nat)=>(.agg #[I mn,.slice a0 u5 c0]:Value)) l1
 exact⟨a0,c0,bq,H9.below,(an0 (fun (n_:Nat)=>bl _ _ _ (ff mn mr) (.slice a0 n_ c0) _) l1).mp ((an0 (fun (x_:List (List bp))=>bl _ _ _ x_ (.slice a0 mn.toNat c0) _) e1).mp (H9.dt 0 J))⟩
theorem yN (hM:eJ M w) (fY:aK mn) (gr:cA M w bC bB mr) (bZ:bJ mn mr=true):Calls aI 62 #[.agg #[I mn,sL bC mr bB]] w (cm fun v w'=>v=.tuple #[I (((cP mn mr).getD 0:Nat):Int),.bool ((cP mn mr).isSome)]∧Ext w w'):=by
 refine dx 17 Tryz.func62 J J J hM fun f0 ha H=>?_
 have H0:=dR H gr
 have nw:=bg gr
 have i0:f0 0=.agg #[I mn,sL bC mr bB]:=ha 0 bj
 have tY:=(bQ bZ).1;have JR:=(bQ bZ).2.2.1;have EK:=kX bZ
 refine az<|k<|bx H0 J i0 ?_
 intro aW w0 bW (H1:HI M w w0 [box aW #[I mn,sL bC mr bB] 26,iL bC mr bB])
 refine ak (v:=I 0) J J<|ak (v:=.bool false) J J<|aq<|sq<|az<|aQ iB J J<|bo H1 0 J lh J J J<|k<|dL J J iq<|ai (v:=I 0) J J<|aq<|bk<|lp (fun m f w'=>∃(j:Nat),m=mr.length-j∧f 1=pV aW 0∧f 7=I (mr.length:Int)∧f 8=I (j:Int)∧HI M w w' [box aW #[I mn,sL bC mr bB] 26,iL bC mr bB]∧(j≤mr.length)∧(∀k,k<j→eI mn mr ((k:Nat):Int) ((k:Nat):Int)=false)) _ ⟨0,J,J,J,(bH J),H1,aj,(by intro k_ h_;omega)⟩ ?_
 rintro _ f0 w1 ⟨j,rfl,s0,s1,s2,H2,hk,hs⟩
 refine az<|k<|lss J J s2 s1<|aq<|sq<|cd (b:=decide ((j:Int)<(mr.length:Int))) J J (fun b0=>?_)<|fun b0=>?_
 ·
  have p0:=dT b0
  refine sk<|nx<|sq<|bk<|az<|ai J s2<|ak (v:=I (j:Int)) J J<|bw<|k<|cB H2 0 J bm J s0 au J<|ai (v:=I (j:Int)) J J<|ai (v:=I (j:Int)) J J<|k ?_
  have bR:=uz (mn:=mn) (mr:=mr) (i:=(j:Int)) (j:=(j:Int)) H2.mb fY (H2.rv 1 J) aR aR (by exact(bQ bZ).1) (by exact(bQ bZ).2.1)<|by exact(bQ bZ).2.2.1
  refine ca F4 J (ec J<|ec J<|ec J e0) bR ?_
  rintro _ w2 ⟨rfl,df⟩
  have H3:=H2.ext df
  refine z<|nx<|cd (b:=eI mn mr (j:Int) (j:Int)) J J (fun b1=>?_)<|fun b1=>?_
  ·
   refine az<|ai (v:=I (j:Int)) J J<|ak (v:=I (j:Int)) J J<|ak (v:=.bool true) J J<|aq<|rt<|bS<|aL<|dY<|bS<|aL<|r2 J J J ?_
   have e0:((j:Int):Int)=(((cP mn mr).getD 0:Nat):Int):=by rw[L7 aj b1 hs];rfl
   have e1:(true:Bool)=(cP mn mr).isSome:=by rw[L7 aj b1 hs];rfl
   have bq:=nG (fun (b9:Int) (dO:Bool)=>(.tuple #[I b9,.bool dO]:Value)) e0 e1
   exact⟨bq,H3.below⟩
  refine sk<|aF<|nx<|rg<|k<|add J J s2 J aR<|ai (v:=I ((j:Int)+1)) J J<|z<|bF _ ?_ ⟨(j+1),J,s0,s1,(bH J),H3,aj,(by exact RA (p:=fun k=>eI mn mr ((k:Nat):Int) ((k:Nat):Int)) hs b1)⟩
  omega
 have p0:=dF b0
 refine ex<|aT<|aY<|bf<|cO<|ak (v:=I 0) J J<|ak (v:=.bool false) J J<|aq<|rt<|r2 J J J ?_
 have e0:(0:Int)=(((cP mn mr).getD 0:Nat):Int):=by rw[Ju aj hs];rfl
 have e1:(false:Bool)=(cP mn mr).isSome:=by rw[Ju aj hs];rfl
 have bq:=nG (fun (b9:Int) (dO:Bool)=>(.tuple #[I b9,.bool dO]:Value)) e0 e1
 exact⟨bq,H2.below⟩
theorem FO (hM:eJ M w) (fY:aK mn) (gr:cA M w bC bB mr) (qT:aK i) (B3:aK j) (bZ:bJ mn mr=true):Calls aI 66 #[.agg #[I mn,sL bC mr bB],I i,I j] w (cm fun v w'=>∃(a0:OA) (c0:Nat),v=.tuple #[.agg #[I (iu mn i j),.slice a0 (ie mn mr i j).length c0],I (lG mn i j)]∧Ext w w'∧RV M w' (.slice a0 (ie mn mr i j).length c0) (ie mn mr i j)):=by
 refine dx 71 Tryz.func66 J J J hM fun f0 ha H=>?_
 let J0:=iL bC mr bB
 have H0:=H.put (it:=J0) J<|by rw[bP];exact gr
 have nw:=bg gr
 have i0:f0 0=.agg #[I mn,sL bC mr bB]:=ha 0 bj
 have i1:f0 1=I i:=ha 1 bj
 have i2:f0 2=I j:=ha 2 bj
 have tY:=(bQ bZ).1;have JR:=(bQ bZ).2.2.1;have EK:=kX bZ
 refine az<|k<|bx H0 J i0 ?_
 intro aW w0 bW (H1:HI M w w0 [box aW #[I mn,sL bC mr bB] 26,J0])
 let J1:=box aW #[I mn,sL bC mr bB] 26
 refine k<|al H1 bm ?_
 intro ba w1 df (H2:HI M w w1 [box ba #[I 0,.slice none 0 0] 26,J1,J0])
 let J2:=box ba #[I 0,.slice none 0 0] 26
 refine ak (v:=I 0) J J<|aq<|sq<|az<|ai J i1<|k<|lss J J J J<|ai (v:=.bool (decide (i<0))) J J ?_
 rcases bE (decide (i<0)) with b0|b0
 ·
  have p0:=dT b0
  refine aX J J J b0<|aX J J J b0<|aX J J J b0<|aX J J J b0<|k<|aP J J J J b0 J<|ai (v:=.bool true) J J<|aX J J J J<|aX J J J J<|k<|aP J J J J J J<|ai (v:=.bool true) J J<|aX J J J J<|aX J J J J<|aX J J J J<|aX J J J J<|k<|aP J J J J J J<|aq<|oW J J J<|az<|k<|bd (v:=.agg #[I 0,.slice none 0 0]) J ew (fun _=>aS)<|k<|bu H2 0 J bm J J J J J J J ?_
  intro w2 (H3:HI M w w2 [J2,J1,J0])
  refine ak (v:=I 1) J J<|aq<|rt<|aL<|iy H3 0 J bm J J J J J au ?_
  have e0:(0:Int)=iu mn i j:=by exact(oG (rs:=mr)<|ka.2 aj).1.symm
  have e1:([]:List (List bp))=ie mn mr i j:=by exact(HS (rs:=mr)<|ka.2 aj).2.1.symm
  have e2:(1:Int)=lG mn i j:=by exact(oG (rs:=mr)<|ka.2 aj).2.2.symm
  have bq:=qX (fun (b9:Int) (dO:List (List bp)) (gF:Int)=>(.tuple #[.agg #[I b9,.slice none dO.length 0],I gF]:Value)) e0 e1 e2
  exact⟨none,0,bq,H3.below,(an0 (fun (x_:List (List bp))=>RV _ _ (.slice none x_.length 0) x_) e1).mp (eo _ _)⟩
 have p0:=dF b0
 refine aZ J J J b0<|mv J i1<|aZ J J J b0<|fa kx J J<|aZ J J J b0<|lx H2 1 J aU J J J<|aZ J J J b0<|geq J J J J<|k<|dG J J J J b0 J<|ai (v:=.bool (decide (mn≤i))) J J ?_
 rcases bE (decide (mn≤i)) with b1|b1
 ·
  have p1:=dT b1
  refine aX J J J b1<|aX J J J b1<|k<|aP J J J J b1 J<|ai (v:=.bool true) J J<|aX J J J J<|aX J J J J<|aX J J J J<|aX J J J J<|k<|aP J J J J J J<|aq<|oW J J J<|az<|k<|bd (v:=.agg #[I 0,.slice none 0 0]) J ew (fun _=>aS)<|k<|bu H2 0 J bm J J J J J J J ?_
  intro w2 (H3:HI M w w2 [J2,J1,J0])
  refine ak (v:=I 1) J J<|aq<|rt<|aL<|iy H3 0 J bm J J J J J au ?_
  have e0:(0:Int)=iu mn i j:=by exact(oG (rs:=mr)<|ka.2 aj).1.symm
  have e1:([]:List (List bp))=ie mn mr i j:=by exact(HS (rs:=mr)<|ka.2 aj).2.1.symm
  have e2:(1:Int)=lG mn i j:=by exact(oG (rs:=mr)<|ka.2 aj).2.2.symm
  have bq:=qX (fun (b9:Int) (dO:List (List bp)) (gF:Int)=>(.tuple #[.agg #[I b9,.slice none dO.length 0],I gF]:Value)) e0 e1 e2
  exact⟨none,0,bq,H3.below,(an0 (fun (x_:List (List bp))=>RV _ _ (.slice none x_.length 0) x_) e1).mp (eo _ _)⟩
 have p1:=dF b1
 refine aZ J J J b1<|mv J i2<|aZ J J J b1<|lss J J J J<|k<|dG J J J J b1 J<|ai (v:=.bool (decide (j<0))) J J ?_
 rcases bE (decide (j<0)) with b2|b2
 ·
  have p2:=dT b2
  refine aX J J J b2<|aX J J J b2<|aX J J J b2<|aX J J J b2<|k<|aP J J J J b2 J<|aq<|oW J J J<|az<|k<|bd (v:=.agg #[I 0,.slice none 0 0]) J ew (fun _=>aS)<|k<|bu H2 0 J bm J J J J J J J ?_
  intro w2 (H3:HI M w w2 [J2,J1,J0])
  refine ak (v:=I 1) J J<|aq<|rt<|aL<|iy H3 0 J bm J J J J J au ?_
  have e0:(0:Int)=iu mn i j:=by exact(oG (rs:=mr)<|ka.2 aj).1.symm
  have e1:([]:List (List bp))=ie mn mr i j:=by exact(HS (rs:=mr)<|ka.2 aj).2.1.symm
  have e2:(1:Int)=lG mn i j:=by exact(oG (rs:=mr)<|ka.2 aj).2.2.symm
  have bq:=qX (fun (b9:Int) (dO:List (List bp)) (gF:Int)=>(.tuple #[.agg #[I b9,.slice none dO.length 0],I gF]:Value)) e0 e1 e2
  exact⟨none,0,bq,H3.below,(an0 (fun (x_:List (List bp))=>RV _ _ (.slice none x_.length 0) x_) e1).mp (eo _ _)⟩
 have p2:=dF b2
 refine aZ J J J b2<|mv J i2<|aZ J J J b2<|fa kx J J<|aZ J J J b2<|lx H2 1 J aU J J J<|aZ J J J b2<|geq J J J J<|k<|dG J J J J b2 J<|z<|nx<|cd (b:=decide (mn≤j)) J J (fun b3=>?_)<|fun b3=>?_
 ·
  have p3:=dT b3
  refine az<|k<|bd (v:=.agg #[I 0,.slice none 0 0]) J ew (fun _=>aS)<|k<|bu H2 0 J bm J J J J J J J ?_
  intro w2 (H3:HI M w w2 [J2,J1,J0])
  refine ak (v:=I 1) J J<|aq<|rt<|aL<|iy H3 0 J bm J J J J J au ?_
  have e0:(0:Int)=iu mn i j:=by exact(oG (rs:=mr)<|ka.2 aj).1.symm
  have e1:([]:List (List bp))=ie mn mr i j:=by exact(HS (rs:=mr)<|ka.2 aj).2.1.symm
  have e2:(1:Int)=lG mn i j:=by exact(oG (rs:=mr)<|ka.2 aj).2.2.symm
  have bq:=qX (fun (b9:Int) (dO:List (List bp)) (gF:Int)=>(.tuple #[.agg #[I b9,.slice none dO.length 0],I gF]:Value)) e0 e1 e2
  exact⟨none,0,bq,H3.below,(an0 (fun (x_:List (List bp))=>RV _ _ (.slice none x_.length 0) x_) e1).mp (eo _ _)⟩
 have p3:=dF b3
 refine sk<|nx<|sq<|sq ?_
 have hq:kE mn [i,j]=true:=jo.2 aj
 refine rg<|k<|cB H2 1 J bm J J au J<|ai J i1<|ai J i2<|k ?_
 have bR:=uz (mn:=mn) (mr:=mr) (i:=i) (j:=j) H2.mb fY (H2.rv 2 J) qT B3 (by exact(bQ bZ).1) (by exact(bQ bZ).2.1)<|by exact(bQ bZ).2.2.1
 refine ca F4 J (ec J<|ec J<|ec J e0) bR ?_
 rintro _ w2 ⟨rfl,eS⟩
 have H3:=H2.ext eS
 refine z<|nx<|cd (b:=eI mn mr i j) J J (fun b4=>?_)<|fun b4=>?_
 ·
  refine az<|k<|cB H3 1 J bm J J au J<|k<|bu H3 0 J bm J J J J J J J ?_
  intro w3 (H4:HI M w w3 [box ba #[I mn,sL bC mr bB] 26,J1,J0])
  refine ak (v:=I 0) J J<|aq<|rt<|aL<|iy H4 0 J bm J J J J J au ?_
  have e0:(mn:Int)=iu mn i j:=by exact(pW (rs:=mr)<|jo.2 aj).1.symm
  have e1:(mr:List (List bp))=ie mn mr i j:=by exact(abf hq bt).symm
  have e2:(0:Int)=lG mn i j:=by exact(pW (rs:=mr)<|jo.2 aj).2.2.symm
  have bq:=qX (fun (b9:Int) (dO:List (List bp)) (gF:Int)=>(.tuple #[.agg #[I b9,.slice bC dO.length bB],I gF]:Value)) e0 e1 e2
  exact⟨bC,bB,bq,H4.below,(an0 (fun (x_:List (List bp))=>RV _ _ (.slice bC x_.length bB) x_) e1).mp (H4.fl 2 J)⟩
 refine sk<|cO<|aQ iB J J<|bo H3 1 J lh J J J<|ai J i2<|k<|ia (H3.rv 2 J) J J J J aj iq dp ?_
 intro iG x0 aM cw
 refine k<|va cw.w dp J J ?_
 intro a0 c0 cu
 have Al:=bg cu
 let J3:=iL a0 x0 c0
 have H4:=H3.put (it:=J3) J cu
 refine ai J i2<|k ?_
 have cU:=uu (r:=x0) (i:=j) H4.mb (H4.rv 0 J) B3<|by exact(bQ bZ).2.1 _ (dz aM)
 refine ca F1 J (ec J<|ec J e0) cU ?_
 rintro _ w3 ⟨a1,c1,rfl,fH,ee⟩
 have H5:=H4.eP ee
 refine ak (v:=sL a1 (ei x0 j) c1) J J<|bw<|k<|cB H5 3 J bm J J au J<|k ?_
 have fU:=Mm (mn:=mn) (mr:=mr) H5.mb fY (H5.rv 4 J)<|by exact bZ
 refine ca aek J (ec J e0) fU ?_
 rintro _ w4 ⟨a2,c2,fP,rfl,jg,eb⟩
 have H6:=H5.GJ eb
 let J4:=own w.heap.size 144 (.slice a2 mn.toNat c2) fP
 let J5:=oL w 151 a1 (ei x0 j) c1
 have H7:HI M w w4 ([J4,J5,J3,J2,J1,J0]++bG w.heap.size 151 fP mr):=H6
 have Fl:=eb.1
 refine k<|al H7 bm ?_
 intro bI w5 jr (H8:HI M w w5 ([box bI #[I 0,.slice none 0 0] 26,J4,J5,J3,J2,J1,J0]++bG w.heap.size 151 fP mr))
 refine k<|bu H8 0 J bm J J J J J J J ?_
 let J6:=box bI #[I mn,.slice a2 mn.toNat c2] 26
 intro w6 (H9:HI M w w6 ([J6,J4,J5,J3,J2,J1,J0]++bG w.heap.size 151 fP mr))
 refine aq<|sq<|az<|aQ iB J J<|bo H9 0 J lh J J J<|k<|dL J J iq<|ai (v:=I 0) J J<|aq<|bk<|lp (fun m f w'=>∃(k_:Nat) (xs:List (List bp)),m=mn.toNat-k_∧f 1=I i∧f 3=pV aW 0∧f 6=pV ba 0∧f 8=sL a1 (ei x0 j) c1∧f 9=pV bI 0∧f 46=I (mn.toNat:Int)∧f 47=I (k_:Int)∧HI M w w' ([J6,J4,J5,J3,J2,J1,J0]++bG w.heap.size 151 fP xs)∧(k_≤mn.toNat)∧(fP.length=xs.length)∧(xs=cE mn.toNat (AK (fW mr) i.toNat j.toNat k_))∧(xs.length=mn.toNat)) _ ⟨0,mr,J,i1,J,J,J,J,J,(bH J),H9,aj,(by exact Fl),(by exact XA bZ),aj⟩ ?_
 rintro _ f0 w7 ⟨k_,xs,rfl,s0,s1,s2,s3,s4,s5,s6,dE,hk,hl,hs,EB⟩
 refine az<|k<|lss J J s6 s5<|aq<|sq<|cd (b:=decide ((k_:Int)<(mn.toNat:Int))) J J (fun b5=>?_)<|fun b5=>?_
 ·
  have p5:=dT b5
  refine sk<|nx<|sq<|bk<|az<|ai J s6<|ak (v:=I (k_:Int)) J J<|bw<|ai (v:=I (k_:Int)) J J<|ai J s0<|k<|eql J J J J<|ai (v:=.bool (decide ((k_:Int)=i))) J J ?_
  rcases bE (decide ((k_:Int)=i)) with b6|b6
  ·
   have p6:=dT b6
   refine aX J J J b6<|aX J J J b6<|aX J J J b6<|aX J J J b6<|aX J J J b6<|aX J J J b6<|aX J J J b6<|k<|aP J J J J b6 J<|aq<|oW J J J<|rg<|aQ iB J s4<|bo dE 0 J lh J J J<|ai (v:=I (k_:Int)) J J<|k ?_
   obtain⟨a3,x1,c3,l5,mw⟩:=ur (i:=(k_:Int).toNat) dE bt aj
   refine iz (dE.at_ 1 J) J J J J aj iq dp ?_
   intro g0 x2 iE cQ gN
   obtain rfl:(⟨a3,x1.length,c3⟩:SV)=x2:=an5 (l5.symm.trans cQ)
   refine k<|Jx gN dp J J<|ai J s3<|k ?_
   have fb:=C1 dE (pG (l:=[J6,J4,J5,J3,J2,J1,J0]) l5 mw) (j:=2) J (by rw[UZ bZ hs mw,kG,nP bZ aM];exact an3 _) (by rw[kG];exact(bQ bZ).2.1 _ (dz aM))<|.inl (by simp only[iS,gA];omega)
   refine ca WG J (ec J<|ec J e0) fb ?_
   rintro _ w8 ⟨rfl,dm⟩
   have cV:=HI.z6 (M:=fun _=>False) (it:=tq (.int .i64 0) (0:Int)) dm l5
   have cL:HI M w w8 ([J6,J4,J5,J3,J2,J1,J0]++bG w.heap.size 151 fP (xs.set ((k_:Int).toNat) (jK x1 (ei x0 j)))):=cV
   refine z<|aF<|nx<|rg<|k<|add J J s6 J aR<|ai (v:=I ((k_:Int)+1)) J J<|z<|bF _ ?_ ⟨(k_+1),(xs.set ((k_:Int).toNat) (jK x1<|ei x0 j)),J,s0,s1,s2,s3,s4,s5,(bH J),cL,aj,(by rw[an1];exact hl),(by exact UY bZ hq hs mw aM (.inl aj)),(by rw[an1];exact EB)⟩
   omega
  have p6:=dF b6
  refine aZ J J J b6<|fa iB J s1<|aZ J J J b6<|lx dE 5 J lh J J J<|aZ J J J b6<|mv (v:=I (k_:Int)) J J<|aZ J J J b6<|ia (dE.rv 6 J) J J J J aj iq dp ?_
  intro ry x1 cQ gN
  refine aZ J J J b6<|va gN.w dp J J ?_
  intro a3 c3 fh
  have ln1:=bg fh
  have cV:=dR dE fh
  have dm:HI M w w7 ([iL a3 x1 c3,J6,J4,J5,J3,J2,J1,J0]++bG w.heap.size 151 fP xs):=cV
  refine aZ J J J b6<|mv J s0<|aZ J J J b6 ?_
  have fb:=z1 (r:=x1) (i:=i) dm.mb (dm.rv 0 J) qT
  refine ca ML J (ec J<|ec J e0) fb ?_
  rintro _ w8 ⟨rfl,kr⟩
  have cL:=dm.ext kr
  refine k<|dG J J J J b6 J<|z<|nx<|cd (b:=fk x1 i) J J (fun b7=>?_)<|fun b7=>?_
  ·
   refine rg<|aQ iB J s4<|bo cL 1 J lh J J J<|ai (v:=I (k_:Int)) J J<|k ?_
   obtain⟨a4,x2,c4,l5,mw⟩:=ur (i:=(k_:Int).toNat) cL bt aj
   refine iz (cL.at_ 2 J) J J J J aj iq dp ?_
   intro g0 x3 iE gZ kf
   obtain rfl:(⟨a4,x2.length,c4⟩:SV)=x3:=an5 (l5.symm.trans gZ)
   refine k<|Jx kf dp J J<|ai J s3<|k ?_
   have nr:=C1 cL (pG (l:=[iL a3 x1 c3,J6,J4,J5,J3,J2,J1,J0]) l5 mw) (j:=3) J (by rw[UZ bZ hs mw,kG,nP bZ aM];exact an3 _) (by rw[kG];exact(bQ bZ).2.1 _ (dz aM))<|.inl (by simp only[iS,gA];omega)
   refine ca WG J (ec J<|ec J e0) nr ?_
   rintro _ w9 ⟨rfl,dV⟩
   have cH:=HI.z6 (M:=fun _=>False) (it:=tq (.int .i64 0) (0:Int)) dV l5
   have dA:HI M w w9 ([iL a3 x1 c3,J6,J4,J5,J3,J2,J1,J0]++bG w.heap.size 151 fP (xs.set ((k_:Int).toNat) (jK x2 (ei x0 j)))):=cH
   refine z<|aF<|nx<|rg<|k<|add J J s6 J aR<|ai (v:=I ((k_:Int)+1)) J J<|z ?_
   have cT:HI M w w9 ([J6,J4,J5,J3,J2,J1,J0]++bG w.heap.size 151 fP (xs.set ((k_:Int).toNat) (jK x2 (ei x0 j)))):=HI.aP (l:=[iL a3 x1 c3,J6,J4,J5,J3,J2,J1,J0]) (l':=[J6,J4,J5,J3,J2,J1,J0]) (t:=bG w.heap.size 151 fP (xs.set ((k_:Int).toNat) (jK x2<|ei x0 j))) dA [1,2,3,4,5,6,7] au J J
   refine bF _ ?_ ⟨(k_+1),(xs.set ((k_:Int).toNat) (jK x2<|ei x0 j)),J,s0,s1,s2,s3,s4,s5,(bH J),cT,aj,(by rw[an1];exact hl),(by exact UY bZ hq hs mw aM (.inr ⟨_,cQ,by assumption⟩)),(by rw[an1];exact EB)⟩
   omega
  refine sk<|aF<|nx<|rg<|k<|add J J s6 J aR<|ai (v:=I ((k_:Int)+1)) J J<|z ?_
  have cH:HI M w w8 ([J6,J4,J5,J3,J2,J1,J0]++bG w.heap.size 151 fP xs):=HI.aP (l:=[iL a3 x1 c3,J6,J4,J5,J3,J2,J1,J0]) (l':=[J6,J4,J5,J3,J2,J1,J0]) (t:=bG w.heap.size 151 fP xs) cL [1,2,3,4,5,6,7] au J J
  refine bF _ ?_ ⟨(k_+1),xs,J,s0,s1,s2,s3,s4,s5,(bH J),cH,aj,(by exact hl),(by exact ag3 bZ hq hs aj cQ bt),(by exact EB)⟩
  omega
 have p5:=dF b5
 refine ex<|aT<|aY<|bf<|nx<|sq ?_
 have cV:HI M w w7 [own w.heap.size 144 (.slice a2 mn.toNat c2) xs,J6,J5,J3,J2,J1,J0]:=HI.deep (l:=[J6,J5,J3,J2,J1,J0]) (HI.aP (l:=[J6,J4,J5,J3,J2,J1,J0]) (l':=[J4,J6,J5,J3,J2,J1,J0]) (t:=bG w.heap.size 151 fP xs) dE [1,0,2,3,4,5,6] au J J) bt
 refine rg<|k<|cB cV 1 J bm J s4 au J<|k<|bu cV 4 J bm J J s2 J J J J ?_
 intro w8 (dm:HI M w w8 [own w.heap.size 144 (.slice a2 mn.toNat c2) xs,J6,J5,J3,box ba #[I mn,.slice a2 mn.toNat c2] 26,J1,J0])
 refine ak (v:=I 0) J J<|aq<|rt<|iy dm 4 J bm J J J s2 J au ?_
 have e0:(mn:Int)=iu mn i j:=by exact(pW (rs:=mr)<|jo.2 aj).1.symm
 have e1:(xs:List (List bp))=ie mn mr i j:=by exact ae' bZ hq bt hs aj
 have l1:mn.toNat=(ie mn mr i j).length:=by rw[←e1];omega
 have e2:(0:Int)=lG mn i j:=by exact(pW (rs:=mr)<|jo.2 aj).2.2.symm
 have bq:=qX (fun (b9:Int) (u5:Nat) (gF:Int)=>(.tuple #[.agg #[I b9,.slice a2 u5 c2],I gF]:Value)) e0 l1 e2
 exact⟨a2,c2,bq,dm.below,(an0 (fun (n_:Nat)=>RV _ _ (.slice a2 n_ c2)<|ie mn mr i j) l1).mp ((an0 (fun (x_:List (List bp))=>RV _ _ (.slice a2 mn.toNat c2) x_) e1).mp (dm.mD 0 J))⟩
theorem WI:cx aI 87:=cF Tryz.func87
theorem OO (hM:eJ M w) (hT:fS 0 w) (fY:aK mn) (gr:cA M w bC bB mr) (ub:aK o) (bZ:bJ mn mr=true):Calls aI 100 #[.agg #[I mn,sL bC mr bB],I o] w (cm fun v w'=>∃(a0:OA) (c0:Nat),v=.slice a0 (eU mn mr o).length c0∧Ext w w'∧bl M 3 w (eU mn mr o) (.slice a0 (eU mn mr o).length c0) w'):=by
 refine dx 20 Tryz.func100 J J J hM fun f0 ha H=>?_
 have H0:=dR H gr
 have nw:=bg gr
 have i0:f0 0=.agg #[I mn,sL bC mr bB]:=ha 0 bj
 have i1:f0 1=I o:=ha 1 bj
 have tY:=(bQ bZ).1;have JR:=(bQ bZ).2.2.1;have EK:=kX bZ
 refine az<|k<|bx H0 J i0 ?_
 intro aW w0 bW (H1:HI M w w0 [box aW #[I mn,sL bC mr bB] 26,iL bC mr bB])
 refine ak (v:=.slice none 0 0) J J<|aq<|sq<|az<|ai J i1<|k<|lss J J J J<|ai (v:=.bool (decide (o<0))) J J ?_
 rcases bE (decide (o<0)) with b0|b0
 ·
  have p0:=dT b0
  refine aX J J J b0<|aX J J J b0<|aX J J J b0<|aX J J J b0<|k<|aP J J J J b0 J<|aq<|oW J J J<|az<|ak (v:=.slice none 0 0) J J<|aq<|rt<|aL<|r1 J J ?_
  have e0:([]:aA)=eU mn mr o:=by exact(LN aj).symm
  have bq:=iF (fun (b9:aA)=>(.slice none b9.length 0:Value)) e0
  exact⟨none,0,bq,H1.below,(an0 (fun (x_:aA)=>bl _ _ _ x_ (.slice none x_.length 0) _) e0).mp (fQ H1.below)⟩
 have p0:=dF b0
 refine aZ J J J b0<|mv J i1<|aZ J J J b0<|fa kx J J<|aZ J J J b0<|lx H1 0 J aU J J J<|aZ J J J b0<|geq J J J J<|k<|dG J J J J b0 J<|z<|nx<|cd (b:=decide (mn≤o)) J J (fun b1=>?_)<|fun b1=>?_
 ·
  have p1:=dT b1
  refine az<|ak (v:=.slice none 0 0) J J<|aq<|rt<|aL<|r1 J J ?_
  have e0:([]:aA)=eU mn mr o:=by exact(LN aj).symm
  have bq:=iF (fun (b9:aA)=>(.slice none b9.length 0:Value)) e0
  exact⟨none,0,bq,H1.below,(an0 (fun (x_:aA)=>bl _ _ _ x_ (.slice none x_.length 0) _) e0).mp (fQ H1.below)⟩
 have p1:=dF b1
 refine sk<|nx<|sq ?_
 have hq:0≤o∧o<mn:=by omega
 have gh:=Ci mn mr
 refine rg<|k<|cB H1 0 J bm J J au J<|k ?_
 have bR:=FK (mn:=mn) (mr:=mr) H1.mb (hT.ext H1.below) fY (H1.rv 1 J)<|by exact bZ
 refine ca WI J (ec J e0) bR ?_
 rintro _ w1 ⟨a0,c0,rfl,df,cu⟩
 have H2:=H1.eP cu
 refine k<|fd (v:=sL a0 (gJ mn mr) c0) J J (fun _=>aS)<|ai J i1<|k<|iz (H2.at_ 0 J) J J J J aj iq dp ?_
 intro g0 x0 iE aM cw
 refine k<|va cw dp J J ?_
 intro a1 c1 ee
 have H3:=dR H2 ee
 refine k ?_
 have cU:=uv (r:=x0) H3.mb (hT.ext H3.below) (H3.rv 0 J)<|by have h_:=wZ bZ aM;omega
 refine ca IE J (ec J e0) cU ?_
 rintro _ w2 ⟨a2,c2,rfl,eS,eb⟩
 have H4:=H3.eP eb
 refine ak (v:=sL a2 (cY x0) c2) J J<|aq<|rt<|r1 J J ?_
 have e0:(cY x0:aA)=eU mn mr o:=by exact SG bZ hq aM
 have bq:=iF (fun (b9:aA)=>(.slice a2 b9.length c2:Value)) e0
 exact⟨a2,c2,bq,H4.below,(an0 (fun (x_:aA)=>bl _ _ _ x_ (.slice a2 x_.length c2) _) e0).mp (H4.dt 0 J)⟩
theorem u0 (hM:eJ M w) (hT:fS 0 w) (fY:aK mn) (gr:cA M w bC bB mr) (ub:aK o) (bZ:bJ mn mr=true):Calls aI 82 #[.agg #[I mn,sL bC mr bB],I o] w (cm fun v w'=>∃(a0:OA) (c0:Nat),v=.slice a0 (bN mn mr o).length c0∧Ext w w'∧bl M 3 w (bN mn mr o) (.slice a0 (bN mn mr o).length c0) w'):=by
 refine dx 22 Tryz.func82 J J J hM fun f0 ha H=>?_
 have H0:=dR H gr
 have nw:=bg gr
 have i0:f0 0=.agg #[I mn,sL bC mr bB]:=ha 0 bj
 have i1:f0 1=I o:=ha 1 bj
 have tY:=(bQ bZ).1;have JR:=(bQ bZ).2.2.1;have EK:=kX bZ
 refine az<|k<|bx H0 J i0 ?_
 intro aW w0 bW (H1:HI M w w0 [box aW #[I mn,sL bC mr bB] 26,iL bC mr bB])
 refine ak (v:=.slice none 0 0) J J<|aq<|sq<|az<|ai J i1<|k<|lss J J J J<|ai (v:=.bool (decide (o<0))) J J ?_
 rcases bE (decide (o<0)) with b0|b0
 ·
  have p0:=dT b0
  refine aX J J J b0<|aX J J J b0<|aX J J J b0<|aX J J J b0<|k<|aP J J J J b0 J<|aq<|oW J J J<|az<|ak (v:=.slice none 0 0) J J<|aq<|rt<|aL<|r1 J J ?_
  have e0:([]:aA)=bN mn mr o:=by exact(K8 aj).symm
  have bq:=iF (fun (b9:aA)=>(.slice none b9.length 0:Value)) e0
  exact⟨none,0,bq,H1.below,(an0 (fun (x_:aA)=>bl _ _ _ x_ (.slice none x_.length 0) _) e0).mp (fQ H1.below)⟩
 have p0:=dF b0
 refine aZ J J J b0<|mv J i1<|aZ J J J b0<|fa kx J J<|aZ J J J b0<|lx H1 0 J aU J J J<|aZ J J J b0<|geq J J J J<|k<|dG J J J J b0 J<|z<|nx<|cd (b:=decide (mn≤o)) J J (fun b1=>?_)<|fun b1=>?_
 ·
  have p1:=dT b1
  refine az<|ak (v:=.slice none 0 0) J J<|aq<|rt<|aL<|r1 J J ?_
  have e0:([]:aA)=bN mn mr o:=by exact(K8 aj).symm
  have bq:=iF (fun (b9:aA)=>(.slice none b9.length 0:Value)) e0
  exact⟨none,0,bq,H1.below,(an0 (fun (x_:aA)=>bl _ _ _ x_ (.slice none x_.length 0) _) e0).mp (fQ H1.below)⟩
 have p1:=dF b1
 refine sk<|nx<|sq ?_
 have hq:0≤o∧o<mn:=by omega
 have gh:=Ci mn mr
 refine rg<|k<|cB H1 0 J bm J J au J<|k ?_
 have bR:=FK (mn:=mn) (mr:=mr) H1.mb (hT.ext H1.below) fY (H1.rv 1 J)<|by exact bZ
 refine ca WI J (ec J e0) bR ?_
 rintro _ w1 ⟨a0,c0,rfl,df,cu⟩
 have H2:=H1.eP cu
 refine k<|fd (v:=sL a0 (gJ mn mr) c0) J J (fun _=>aS)<|ai J i1<|k<|iz (H2.at_ 0 J) J J J J aj iq dp ?_
 intro g0 x0 iE aM cw
 refine k<|va cw dp J J ?_
 intro a1 c1 ee
 have H3:=dR H2 ee
 refine ai J i1<|k ?_
 have cU:=uu (r:=x0) (i:=o) H3.mb (H3.rv 0 J) ub<|by have h_:=wZ bZ aM;omega
 refine ca F1 J (ec J<|ec J e0) cU ?_
 rintro _ w2 ⟨a2,c2,rfl,eS,eb⟩
 have H4:=H3.eP eb
 refine k ?_
 have H5:=H4.freeze 0 J
 have fU:=uv (r:=(ei x0 o)) H5.mb (hT.ext H5.below) (H5.rv 0 J)<|by rw[kG];have h_:=wZ bZ aM;omega
 refine ca IE J (ec J e0) fU ?_
 rintro _ w3 ⟨a3,c3,rfl,fH,fh⟩
 have H6:=H5.eP fh
 refine ak (v:=sL a3 (cY<|ei x0 o) c3) J J<|aq<|rt<|r1 J J ?_
 have e0:(cY (ei x0 o):aA)=bN mn mr o:=by exact RR bZ hq aM
 have bq:=iF (fun (b9:aA)=>(.slice a3 b9.length c3:Value)) e0
 exact⟨a3,c3,bq,H6.below,(an0 (fun (x_:aA)=>bl _ _ _ x_ (.slice a3 x_.length c3) _) e0).mp (H6.dt 0 J)⟩
theorem fE:gR aI 47 1 1:=jT Tryz.underlying47
theorem jh:ep aI 45 1 false 24 (.slice none 0 0):=⟨aS,aS⟩
theorem jA:aI.underlying 45=some (.slice 95):=aS
theorem jE:ep aI 95 5 true 40 (.agg #[.int .i64 0,.int .i64 0,.bool false,.int .i64 0,.int .i64 0]):=⟨aS,aS⟩
theorem vq:gR aI 95 2 2:=jT Tryz.underlying95
theorem pe:ep aI 4 1 false 1 (.bool false):=⟨aS,aS⟩
theorem tC:gR aI 95 3 3:=jT Tryz.underlying95
theorem oU (Az:FPH aI qv qA M w (fun jq=>own w.heap.size 3 (sL dU xs dN) jq) r xs p) (H:HI M w w_ ([oL w 3 dU xs dN]++r)):Calls aI 107 #[sL dU xs dN,.func (.func qv) #[] qA.toArray] w_ (cm fun v w'=>v=.slice dU (aV p xs).length dN∧HI M w w' ([oL w 3 dU (aV p xs) dN]++r)):=by
 refine enter 42 Tryz.func107 J J J fun f0 ha=>?_
 have GY:=kl<|H.at_ 0 J
 have i0:f0 0=sL dU xs dN:=ha 0 bj
 have i1:f0 1=.func (.func qv) #[] qA.toArray:=ha 1 bj
 refine az<|ak (v:=.slice none 0 0) J J<|bw<|ai J i0<|ai J i1<|k ?_
 have H0:=H.freeze 0 J
 have bR:=vQ (r:=xs) (p:=p) H0.mb (H0.rv 0 J)<|Az.fp H
 refine ca WH J (ec J<|ec J e0) bR ?_
 rintro _ w0 ⟨rfl,bW⟩
 have H2:=H.ext bW
 refine ak (v:=I (eF p xs)) J J<|aq<|sq<|az<|ai (v:=I (eF p xs)) J J<|k<|eql J J J J<|z<|nx<|cd (b:=decide ((eF p xs)=(-1))) J J (fun b0=>?_)<|fun b0=>?_
 ·
  have p0:=dT b0
  refine az<|ai J i0<|ak (v:=sL dU xs dN) J J<|aq<|rt<|aL<|r1 J J ?_
  have e0:(xs:List _)=(aV p xs):=by exact aaV bt
  try rw[←e0]
  refine⟨?_,?_⟩
  · first|rfl|simp only[e0]|(simp only[an1])
  · first|exact H2|simpa +zetaDelta only[e0,an1] using H2
 have p0:=dF b0
 refine sk<|nx<|sq<|sq ?_
 obtain⟨adB,adA,Q5⟩:=W5 (p:=p) (xs:=xs) bt
 refine rg<|ai (v:=I (eF p xs)) J J<|k<|add J J J J aR<|ak (v:=I ((eF p xs)+1)) J J<|aq<|bk<|lp (fun m f w'=>∃(q:Int) (k_:Nat) (ys:aA),m=xs.length-k_∧f 0=sL dU xs dN∧f 1=.func (.func qv) #[] qA.toArray∧f 5=I q∧f 6=I (k_:Int)∧HI M w w' ([own w.heap.size 3 (.slice dU xs.length dN) ys]++r)∧(0≤q∧q<(k_:Int)∧k_≤xs.length)∧(DF p xs ys q k_)) _ ⟨(eF p xs),((eF p xs).toNat+1),xs,J,i0,i1,(bH J),(bH J),H2,aj,(by exact Q5)⟩ ?_
 rintro _ f0 w1 ⟨q,k_,ys,rfl,s0,s1,s2,s3,H3,sI,hs⟩
 refine sq<|az<|ai J s3<|ai J s0<|k<|dL J J cM<|k<|lss J J J J<|z<|nx<|cd (b:=decide ((k_:Int)<(xs.length:Int))) J J (fun b1=>?_)<|fun b1=>?_
 ·
  have p1:=dT b1
  refine sk<|nx<|sq<|bk<|az<|ai J s0<|ai J s3<|k<|iz (H3.at_ 0 J) J J J J (by have h_:=hs.1;first|omega|(simp only[fJ,ic,oz,gA];omega)) cM aU ?_
  intro g0 x0 iE aM cw
  refine k<|mP cw aU J J ?_
  intro cu
  refine ak (v:=I x0) J J<|aq<|sq ?_
  have tY:=hs.1
  refine rg<|ai J s1<|ai (v:=I x0) J J<|k<|cf Az.1 J J J (ec J e0) (Az.2 _ _ H3 _ (by exact dz (by exact Rv hs aM)) cu) ?_
  rintro _ w2 ⟨rfl,df⟩
  have H4:=H3.ext df
  have H5:HI M w w2 ([own w.heap.size 3 (.slice dU xs.length dN) ys]++r):=H4
  refine k<|j4 J J<|z<|nx<|cd (b:=!(p x0)) J J (fun b2=>?_)<|fun b2=>?_
  ·
   refine az<|ai J s0<|ai J s2<|ai (v:=I x0) J J<|k<|iz (H5.at_ 0 J) J J J J (by have h_:=hs.1;first|omega|(simp only[fJ,ic,oz,gA];omega)) cM aU ?_
   intro g1 x1 kT cQ gN
   refine k<|qj H5 0 J kT J (by have h_:=hs.1;first|omega|(simp only[fJ,ic,oz,gA];omega)) aU J J J J (RV.int.2 ⟨J,bt⟩) ?_
   intro w3 (H6:HI M w w3 ([own w.heap.size 3 (.slice dU xs.length dN) (ys.set q.toNat x0)]++r))
   refine aq<|rg<|ai J s2<|k<|add J J J J aR<|ak (v:=I (q+1)) J J<|z<|aF<|nx<|rg<|ai J s3<|k<|add J J J J aR<|ak (v:=I ((k_:Int)+1)) J J<|z<|bF _ ?_ ⟨(q+1),(k_+1),(ys.set q.toNat x0),J,s0,s1,(bH J),(bH J),H6,aj,(by exact aaW hs aM (by simpa using b2) aj aj)⟩
   omega
  refine sk<|aF<|nx<|rg<|ai J s3<|k<|add J J J J aR<|ak (v:=I ((k_:Int)+1)) J J<|z<|bF _ ?_ ⟨q,(k_+1),ys,J,s0,s1,(bH s2),(bH J),H5,aj,(by exact aaX hs aM (by simpa using b2))⟩
  omega
 have p1:=dF b1
 refine ex<|aT<|aY<|bf<|cO<|ai J s0<|ai J s2<|k<|abH (H3.at_ 0 J) J J J J (by have h_:=hs.1;first|omega|(simp only[fJ,ic,oz,gA];omega)) cM aU<|k<|clO H3 0 J J J (q:=q.toNat) J cM aU (by have h_:=hs.1;omega) ?_
 intro w2 (H4:HI M w w2 ([own w.heap.size 3 (.slice dU xs.length dN) (ys.take q.toNat++(List.replicate (ys.length-q.toNat) (0:Int)++[]))]++r))
 refine bw<|ai J s0<|ai J s2<|k<|afL H4 0 J J J J J (by have h_:=hs.1;first|omega|(simp only[fJ,ic,oz,gA];omega)) cM aU ?_
 intro (H5:HI M w w2 ([oL w 3 dU ((ys.take q.toNat++(List.replicate (ys.length-q.toNat) (0:Int)++[])).take q.toNat) dN]++r))
 refine ak (v:=sL dU ((ys.take q.toNat++(List.replicate (ys.length-q.toNat) (0:Int)++[])).take q.toNat) dN) J J<|aq<|rt<|r1 J J ?_
 have e0:((ys.take q.toNat++(List.replicate (ys.length-q.toNat) (0:Int)++[])).take q.toNat:List _)=(aV p xs):=by exact aeL hs aj aj (by have h_:=hs.1;omega) _
 try rw[←e0]
 refine⟨?_,?_⟩
 · first|rfl|simp only[e0]|(simp only[an1])
 · first|exact H5|simpa +zetaDelta only[e0,an1] using H5
theorem JZ (hM:eJ M w) (xL:cA M w mz mS l) (Yv:l.length≤1000000000):Calls aI 133 #[sL mz l mS] w (cm fun v w'=>∃(a0:OA) (c0:Nat),v=sL a0 l c0∧Ext w w'∧bl M 3 w l (sL a0 l c0) w'):=by
 refine dx 8 Tryz.func133 J J J hM fun f0 ha H=>?_
 have H0:=dR H xL
 have i0:f0 0=sL mz l mS:=ha 0 bj
 refine az<|ak (v:=.slice none 0 0) J J<|aq<|sq<|az<|ai J i0<|k<|T' J J J J cM<|z<|nx<|cd (b:=mz.isNone) J J (fun b0=>?_)<|fun b0=>?_
 ·
  refine az<|ak (v:=.slice none 0 0) J J<|aq<|rt<|aL<|r1 J J ?_
  have e0:([]:aA)=l:=by exact(Ip xL b0).symm
  have bq:=iF (fun (b9:aA)=>(.slice none b9.length 0:Value)) e0
  exact⟨none,0,bq,H0.below,(an0 (fun (x_:aA)=>bl _ _ _ x_ (.slice none x_.length 0) _) e0).mp (fQ H0.below)⟩
 refine sk<|cO<|k<|bs (xs:=([]:aA)) (cells:=#[]) (e:=3) H0 J ew (fun _=>aS) J J au ?_
 intro g0 w0 bW H1
 refine ai J i0<|k<|lV H1 0 J J J J J J (H1.rv 1 J).src cM aU J (by simp;omega) J ?_
 intro a0 c0 w1 (H2:HI M w w1 [oL w 3 a0 l c0,iL mz l mS])
 refine ak (v:=sL a0 l c0) J J<|aq<|rt<|r1 J J ?_
 exact⟨a0,c0,J,H2.below,(H2.dt 0 J)⟩
theorem LM (hM:eJ M w) (qT:aK i) (dC:cA M w aw av U) (adT:aK vr) (Dc:w.heap[xZ]? =some (.cells #[.slice aC aD aB,sL aw U av,.slice ay eZ ax] Ii (0,0))∧¬M xZ) (h_c:w.heap[bM]? =some (.cells #[I vr] Lc (0,0))∧¬M bM):Calls aI 136 #[I i,.pointer (some ⟨xZ,0,none⟩),.pointer (some ⟨bM,0,none⟩)] w (cm fun v w'=>v=.bool (iP U vr i)∧Ext w w'):=by
 refine dx 33 Tryz.func136 J J J hM fun f0 ha H=>?_
 have H0:=dR H dC
 have ja:=bg dC
 have i0:f0 0=I i:=ha 0 bj
 have H1:=H0.put (it:=ro xZ #[.slice aC aD aB,sL aw U av,.slice ay eZ ax] Ii) J<|by rw[aH rfl,bP];exact Dc
 have i1:f0 1=pV xZ 0:=ha 1 bj
 have H2:=H1.put (it:=ro bM #[I vr] Lc) J<|by rw[aH rfl,aH rfl,bP];exact h_c
 have i2:f0 2=pV bM 0:=ha 2 bj
 refine az<|ak (v:=.bool false) J J<|aq<|sq<|B9 J aS<|kq (fun _ _=>mv J i0 e1)<|kq (fun _ _=>lss J J J J e1)<|kq (fun _ _=>mv (v:=.bool (decide (i<0))) J J e1) ?_
 rcases bE (decide (i<0)) with b0|b0
 ·
  have p0:=dT b0
  refine qn J J J b0<|qn J J J b0<|qn J J J b0<|qn J J J b0<|qn J J J b0<|kq (fun _ _=>aP J J J J b0 J e1)<|kq (fun _ _=>mv (v:=.bool true) J J e1)<|qn J J J J<|qn J J J J<|qn J J J J<|qn J J J J<|qn J J J J<|qn J J J J<|qn J J J J<|kq (fun _ _=>aP J J J J J J e1)<|kq (fun _ _=>mv (v:=.bool true) J J e1)<|qn J J J J<|qn J J J J<|qn J J J J<|qn J J J J<|qn J J J J<|qn J J J J<|qn J J J J<|qn J J J J<|kq (fun _ _=>aP J J J J J J e1)<|kq (fun _ _=>jM (v:=.bool true) J J e1)<|zq ?_
  intro w0 bW
  have H3:=H2.ext bW
  refine nx<|rt<|r1 J J ?_
  exact⟨an0 Value.bool (by exact(ZF bt).symm),H3.below⟩
 have p0:=dF b0
 refine qy J J J b0<|kq (fun _ _=>mv J i0 e1)<|qy J J J b0<|kq (fun _ _=>fa fE J i1 e1)<|qy J J J b0<|kq (fun _ x_=>lr (H2.ext x_) 1 J jh J J J e1)<|qy J J J b0<|kq (fun _ _=>dL J J jA e1)<|qy J J J b0<|kq (fun _ _=>geq J J J J e1)<|kq (fun _ _=>dG J J J J b0 J e1)<|kq (fun _ _=>mv (v:=.bool (decide ((U.length:Int)≤i))) J J e1) ?_
 rcases bE (decide ((U.length:Int)≤i)) with b1|b1
 ·
  have p1:=dT b1
  refine qn J J J b1<|qn J J J b1<|qn J J J b1<|qn J J J b1<|qn J J J b1<|qn J J J b1<|qn J J J b1<|kq (fun _ _=>aP J J J J b1 J e1)<|kq (fun _ _=>mv (v:=.bool true) J J e1)<|qn J J J J<|qn J J J J<|qn J J J J<|qn J J J J<|qn J J J J<|qn J J J J<|qn J J J J<|qn J J J J<|kq (fun _ _=>aP J J J J J J e1)<|kq (fun _ _=>jM (v:=.bool true) J J e1)<|zq ?_
  intro w0 bW
  have H3:=H2.ext bW
  refine nx<|rt<|r1 J J ?_
  exact⟨an0 Value.bool (by exact(ZE bt).symm),H3.below⟩
 have p1:=dF b1
 refine qy J J J b1<|kq (fun _ _=>fa fE J i1 e1)<|qy J J J b1<|kq (fun _ x_=>lr (H2.ext x_) 1 J jh J J J e1)<|qy J J J b1<|kq (fun _ _=>mv J i0 e1)<|qy J J J b1<|ux (H2.rv 2 J) J J J J aj jA jE ?_
 intro iG x0 aM cw
 refine qy J J J b1<|kq (fun _ _=>fa vq J J e1)<|qy J J J b1<|afQ ((cw).s2).fst.w pe J J<|qy J J J b1<|kq (fun _ _=>j4 J J e1)<|kq (fun _ _=>dG J J J J b1 J e1)<|kq (fun _ _=>mv (v:=.bool (!x0.2.2.1)) J J e1) ?_
 rcases bE (!x0.2.2.1) with b2|b2
 ·
  refine qn J J J b2<|qn J J J b2<|qn J J J b2<|qn J J J b2<|qn J J J b2<|qn J J J b2<|qn J J J b2<|qn J J J b2<|kq (fun _ _=>aP J J J J b2 J e1)<|kq (fun _ _=>jM (v:=.bool true) J J e1)<|zq ?_
  intro w0 bW
  have H3:=H2.ext bW
  refine nx<|rt<|r1 J J ?_
  exact⟨an0 Value.bool (by rw[K6 bt aM];simp_all),H3.below⟩
 refine qy J J J b2<|kq (fun _ _=>fa fE J i1 e1)<|qy J J J b2<|kq (fun _ x_=>lr (H2.ext x_) 1 J jh J J J e1)<|qy J J J b2<|kq (fun _ _=>mv J i0 e1)<|qy J J J b2<|ux (H2.rv 2 J) J J J J aj jA jE ?_
 intro ry x_ tv gN
 obtain rfl:x0=x_:=an5 (aM.symm.trans tv)
 refine qy J J J b2<|kq (fun _ _=>fa tC J J e1)<|qy J J J b2<|px ((gN).s3).fst.w aU J J ?_
 intro cu
 refine qy J J J b2<|kq (fun _ x_=>lr (H2.ext x_) 0 J aU J i2 J e1)<|qy J J J b2<|kq (fun _ _=>neq J J J J e1)<|kq (fun _ _=>dG J J J J b2 J e1)<|kq (fun _ _=>jM (v:=.bool (!decide (x0.2.2.2.1=vr))) J J e1)<|zq ?_
 intro w0 bW
 have H3:=H2.ext bW
 refine nx<|rt<|r1 J J ?_
 exact⟨an0 Value.bool (by rw[K6 bt aM];simp_all),H3.below⟩
theorem QE (hM:eJ M w) (qT:aK i) (dC:cA M w aw av U) (Dc:w.heap[xZ]? =some (.cells #[.slice aC aD aB,sL aw U av,.slice ay eZ ax] Ii (0,0))∧¬M xZ) (JM:0≤i∧i<((U.length:Nat):Int)):Calls aI 109 #[I i,.pointer (some ⟨xZ,0,none⟩)] w (cm fun v w'=>v=.bool (fO U i)∧Ext w w'):=by
 refine dx 10 Tryz.func109 J J J hM fun f0 ha H=>?_
 have H0:=dR H dC
 have i0:f0 0=I i:=ha 0 bj
 have H1:=H0.put (it:=ro xZ #[.slice aC aD aB,sL aw U av,.slice ay eZ ax] Ii) J<|by rw[aH rfl,bP];exact Dc
 have i1:f0 1=pV xZ 0:=ha 1 bj
 refine az<|ak (v:=.bool false) J J<|bw<|aQ fE J i1<|k<|lr H1 0 J jh J J J<|ai J i0<|k<|ia (H1.rv 1 J) J J J J aj jA jE ?_
 intro iG x0 aM cw
 refine aQ vq J J<|k<|ldB ((cw).s2).fst.w pe J J<|ak (v:=.bool x0.2.2.1) J J<|aq<|rt<|r1 J J ?_
 exact⟨an0 Value.bool (by exact(abo aM).symm),H1.below⟩
theorem YZ:cx aI 133:=cF Tryz.func133
theorem agu:cx aI 136:=cF Tryz.func136
theorem Ho:cx aI 107:=cF Tryz.func107
theorem Ey (hM:eJ M w) (dC:cA M w aw av U) (xL:cA M w mz mS l) (adT:aK vr) (Yv:l.length≤1000000000):Calls aI 99 #[.agg #[.slice aC aD aB,sL aw U av,.slice ay eZ ax],sL mz l mS,I vr] w (cm fun v w'=>∃(a0:OA) (c0:Nat),v=.slice a0 (aV (iP U vr) l).length c0∧Ext w w'∧bl M 3 w (aV (iP U vr) l) (.slice a0 (aV (iP U vr) l).length c0) w'):=by
 refine dx 11 Tryz.func99 J J J hM fun f0 ha H=>?_
 let J0:=iL aw U av
 have H0:=H.put (it:=J0) J<|by rw[bP];exact dC
 have H1:=dR H0 xL
 have i0:f0 0=.agg #[.slice aC aD aB,sL aw U av,.slice ay eZ ax]:=ha 0 bj
 have i1:f0 1=sL mz l mS:=ha 1 bj
 have i2:f0 2=I vr:=ha 2 bj
 refine az<|k<|bx H1 J i0 ?_
 intro aW w0 bW (H2:HI M w w0 [box aW #[.slice aC aD aB,sL aw U av,.slice ay eZ ax] 47,iL mz l mS,J0])
 let J1:=box aW #[.slice aC aD aB,sL aw U av,.slice ay eZ ax] 47
 refine k<|bx H2 J i2 ?_
 intro ba w1 df (H3:HI M w w1 [box ba #[I vr] 3,J1,iL mz l mS,J0])
 refine ak (v:=.slice none 0 0) J J<|bw<|ai J i1<|k ?_
 have bR:=JZ (l:=l) H3.mb (H3.rv 2 J) aj
 refine ca YZ J (ec J e0) bR ?_
 rintro _ w2 ⟨a0,c0,rfl,eS,cu⟩
 have H4:=H3.eP cu
 refine k<|mf J<|k ?_
 have H5:HI M w w2 ([oL w 3 a0 l c0]++[box ba #[I vr] 3,J1,iL mz l mS,J0]):=H4.bV [0,1,2,3,4] au J
 have cU:=oU (dU:=a0) (dN:=c0) (xs:=l) (qv:=136) (qA:=[pV aW 0,pV ba 0]) (p:=(fun (x_:Int)=>iP U vr x_)) (w:=w) (w_:=w2) (r:=[box ba #[I vr] 3,J1,iL mz l mS,J0]) (M:=M) ⟨agu,fun w_ jq H_ x_ tv EC=>LM (U:=U) (vr:=vr) (M:=fun _=>False) (fun _ h_=>h_.elim) EC ((H_.rv 4 J).lift (Up.less fun _ _ h_=>h_.elim)) aR ⟨H_.at_ 2 rfl,fun h_=>h_⟩ ⟨H_.at_ 1 rfl,fun h_=>h_⟩⟩ H5
 refine ca Ho J (ec J<|ec J e0) cU ?_
 rintro _ w3 ⟨rfl,H6⟩
 have H7:HI M w w3 [oL w 3 a0 (aV (fun (x_:Int)=>iP U vr x_) l) c0,box ba #[I vr] 3,J1,iL mz l mS,J0]:=H6
 refine ak (v:=sL a0 (aV (fun (x_:Int)=>iP U vr x_) l) c0) J J<|aq<|rt<|r1 J J ?_
 have e0:((aV (fun (x_:Int)=>iP U vr x_) l):aA)=aV (iP U vr) l:=rfl
 have bq:=iF (fun (b9:aA)=>(.slice a0 b9.length c0:Value)) e0
 exact⟨a0,c0,bq,H7.below,(an0 (fun (x_:aA)=>bl _ _ _ x_ (.slice a0 x_.length c0) _) e0).mp (H7.dt 0 J)⟩
theorem tF:gR aI 47 2 2:=jT Tryz.underlying47
theorem qD:ep aI 27 1 false 24 (.slice none 0 0):=⟨aS,aS⟩
theorem dQ:ep aI 47 3 true 72 (.agg #[.slice none 0 0,.slice none 0 0,.slice none 0 0]):=⟨aS,aS⟩
theorem Y7:cx aI 100:=cF Tryz.func100
theorem aej:cx aI 99:=cF Tryz.func99
theorem eA:aI.underlying 119=some (.slice 122):=aS
theorem cK:ep aI 122 3 true 24 (.agg #[.int .i64 0,.int .i64 0,.int .i64 0]):=⟨aS,aS⟩
theorem agL:cx aI 102:=cF Tryz.func102
theorem uR (hM:eJ M w) (hT:fS 0 w) (dC:cA M w aw av U) (fZ:cA M w ay ax fo) (fY:aK mn) (gr:cA M w bC bB mr) (dy:U.length≤4096) (eB:fo.length=U.length) (fL:∀x∈fo,x<((U.length:Nat):Int)) (bZ:bJ mn mr=true):Calls aI 65 #[.agg #[.slice aC aD aB,sL aw U av,sL ay fo ax],.agg #[I mn,sL bC mr bB]] w (cm fun v w'=>∃(a0:OA) (c0:Nat),v=.slice a0 (cJ U fo mn mr).length c0∧Ext w w'∧bl M 122 w (cJ U fo mn mr) (.slice a0 (cJ U fo mn mr).length c0) w'):=by
 refine dx 51 Tryz.func65 J J J hM fun f0 ha H=>?_
 let J0:=iL aw U av
 have H0:=H.put (it:=J0) J<|by rw[bP];exact dC
 let J1:=iL ay fo ax
 have H1:=H0.put (it:=J1) J<|by rw[aH rfl,bP];exact fZ
 let J2:=iL bC mr bB
 have H2:=H1.put (it:=J2) J<|by rw[aH rfl,aH rfl,bP];exact gr
 have ja:=bg dC
 have kR:=bg fZ
 have nw:=bg gr
 have i0:f0 0=.agg #[.slice aC aD aB,sL aw U av,sL ay fo ax]:=ha 0 bj
 have i1:f0 1=.agg #[I mn,sL bC mr bB]:=ha 1 bj
 have Q6:=MZ (U:=U) (fo:=fo) (j:=fo.length) bZ
 refine az<|k<|bx H2 J i0 ?_
 let bc:=[J2,J1,J0]
 intro aW w0 bW (H3:HI M w w0 (box aW #[.slice aC aD aB,sL aw U av,sL ay fo ax] 47::bc))
 let J3:=box aW #[.slice aC aD aB,sL aw U av,sL ay fo ax] 47
 refine k<|bx H3 J i1 ?_
 intro ba w1 df (H4:HI M w w1 (box ba #[I mn,sL bC mr bB] 26::J3::bc))
 let J4:=box ba #[I mn,sL bC mr bB] 26
 refine ak (v:=.slice none 0 0) J J<|bw<|ak (v:=.slice none 0 0) J J<|aq<|sq<|az<|aQ tF J J<|bo H4 1 J qD J J J<|k<|dL J J cM<|ai (v:=I 0) J J<|aq<|bk ?_
 have H5:=H4.qf (Int×Int×Int) 122
 let bX:=J4::J3::bc
 refine lp (fun m f w'=>∃(j_:Nat) (wi:List eu) (a0:OA) (c0:Nat),m=fo.length-j_∧f 2=pV aW 0∧f 3=pV ba 0∧f 5=sL a0 wi c0∧f 11=sL ay fo ax∧f 12=I (fo.length:Int)∧f 13=I (j_:Int)∧HI M w w' (oL w 122 a0 wi c0::bX)∧(j_≤fo.length)∧(wi=uL U fo mn mr j_)∧(wi.length≤4096*j_)) _ ⟨0,([]:List eu),none,0,J,J,J,J,J,J,(bH J),H5,aj,(by rfl),(by exact apn _)⟩ ?_
 rintro _ f0 w2 ⟨j_,wi,a0,c0,rfl,s0,s1,s2,s3,s4,s5,H6,pj,hs,tY⟩
 refine az<|k<|lss J J s5 s4<|aq<|sq<|cd (b:=decide ((j_:Int)<(fo.length:Int))) J J (fun b0=>?_)<|fun b0=>?_
 ·
  have p0:=dT b0
  refine sk<|nx<|sq<|bk<|az<|ai J s5<|k<|ia (H6.rv 4 J) J J s3 s5 aj cM aU ?_
  intro iG x0 aM cw
  refine k<|mP cw.w aU J J ?_
  intro cu
  refine ak (v:=I (j_:Int)) J J<|ak (v:=I x0) J J<|aq<|sq<|az<|ai (v:=I x0) J J<|k<|lss J J J J<|z<|nx<|cd (b:=decide (x0<0)) J J (fun b1=>?_)<|fun b1=>?_
  ·
   have p1:=dT b1
   refine ex<|aT<|bf<|nx<|rg<|k<|add J J s5 J aR<|ai (v:=I ((j_:Int)+1)) J J<|z<|bF _ ?_ ⟨(j_+1),wi,a0,c0,J,s0,s1,s2,s3,s4,(bH J),H6,aj,(by exact aeG hs aM aj),(by first|omega)⟩
   omega
  have p1:=dF b1
  refine sk<|nx<|sq<|Uj J aS<|xq J<|kq (fun _ x_=>cB (H6.ext x_) 2 J dQ J s0 au J e1)<|zq<|xq J<|kq (fun _ x_=>cB (H6.ext x_) 1 J bm J s1 au J e1)<|zq<|xq J<|kq (fun _ _=>mv (v:=I (j_:Int)) J J e1)<|zq<|xu (fun v w'=>∃(a1:OA) (c1:Nat),v=sL a1 (eU mn mr (j_:Int)) c1∧RV H6.fg w' (sL a1 (eU mn mr (j_:Int)) c1) (eU mn mr (j_:Int))) J (by rintro _ _ _ x_ ⟨a1,c1,e_,eb⟩;exact⟨a1,c1,e_,eb.lift (Up.ext x_)⟩) J (fun v_ x_=>have cU:=OO (mn:=mn) (mr:=mr) (o:=(j_:Int)) (w:=v_) (H6.ext x_).mb (hT.ext (H6.ext x_).below) fY ((H6.ext x_).rv 3 rfl) aR (by exact bZ);ca Y7 rfl (ec J<|ec J e0) cU (fun _ w4 ⟨a2,c2,e_,fH,fh⟩=>⟨_,J,fH,⟨a2,c2,e_,(bl.rv fh (H6.ext x_).mb)⟩⟩))<|xq J<|kq (fun _ _=>fa fE J s0 e1)<|zq<|xq J<|kq (fun _ x_=>lx (H6.ext x_) 2 J jh J J J e1)<|zq<|xq J<|kq (fun _ _=>mv (v:=I x0) J J e1)<|zq<|xq J<|ux (H6.rv 5 J) J J J J (by have h_:=fL _ (dz aM);omega) jA jE ?_
  intro ry x1 cQ gN
  refine zq<|xq J<|kq (fun _ _=>fa tC J J e1)<|zq<|xq J<|px ((gN).s3).fst.w aU J J ?_
  intro jX
  refine zq<|xu1 (fun v w'=>∃(a4:OA) (c4:Nat),v=sL a4 (aV (iP U x1.2.2.2.1)<|eU mn mr (j_:Int)) c4∧RV H6.fg w' (sL a4 (aV (iP U x1.2.2.2.1)<|eU mn mr (j_:Int)) c4) (aV (iP U x1.2.2.2.1)<|eU mn mr (j_:Int))) 0 J J (by rintro _ _ _ x_ ⟨a4,c4,e_,nV⟩;exact⟨a4,c4,e_,nV.lift (Up.ext x_)⟩) J (fun v_ _ x_ h_=>let ⟨a5,c5,s6,pg⟩:=h_;have dV:=(H6.ext x_).put (it:=iL a5 (eU mn mr (j_:Int)) c5) rfl pg;have fb:=Ey (U:=U) (l:=(eU mn mr (j_:Int))) (vr:=x1.2.2.2.1) (aC:=aC) (aD:=aD) (aB:=aB) (ay:=ay) (eZ:=fo.length) (ax:=ax) dV.mb (dV.rv 6 J) (dV.rv 0 J) jX (by have h_:=u2 bZ (j_:Int);omega);ca aej rfl (ec J<|ec s6<|ec J e0) fb (fun _ w6 ⟨a6,c6,e_,jr,qd⟩=>⟨_,J,jr,⟨a6,c6,e_,(l4 J<|bl.rv qd dV.mb)⟩⟩))<|xk1 (X:=I ((aV (iP U x1.2.2.2.1)<|eU mn mr (j_:Int)).length:Int)) 0 J J (fun _ _ _ h_=>let ⟨a8,c8,s7,sg⟩:=h_;dL rfl s7 cM e1)<|xq J<|kq (fun _ _=>mv (v:=I 0) J J e1)<|zq<|zx ?_
  intro w7 f1 kr cC iT
  have cG:=H6.ext kr
  have s8:=(cC 2 J).trans s0
  have s9:=(cC 3 J).trans s1
  have ej:=(cC 5 J).trans s2
  have eX:=cC 6 J
  have fA:=cC 7 J
  have fD:=(cC 11 J).trans s3
  have gi:=(cC 12 J).trans s4
  have gS:=(cC 13 J).trans s5
  obtain⟨a9,c9,kb,sf⟩:=iT 0 _ _ rfl
  let J5:=iL a9 (aV (iP U x1.2.2.2.1) (eU mn mr (j_:Int))) c9
  have d_:=cG.put (it:=J5) J sf
  have kK:=cC 31 J
  have lC:=cC 32 J
  refine nx<|bk<|lp (fun m f w'=>∃(q_:Nat) (vS:List eu) (jv:OA) (ju:Nat),m=(aV (iP U x1.2.2.2.1)<|eU mn mr (j_:Int)).length-q_∧f 2=pV aW 0∧f 3=pV ba 0∧f 5=sL jv vS ju∧f 6=I (j_:Int)∧f 7=I x0∧f 11=sL ay fo ax∧f 12=I (fo.length:Int)∧f 13=I (j_:Int)∧f 30=sL a9 (aV (iP U x1.2.2.2.1)<|eU mn mr (j_:Int)) c9∧f 31=I ((aV (iP U x1.2.2.2.1)<|eU mn mr (j_:Int)).length:Int)∧f 32=I (q_:Int)∧HI M w w' (J5::oL w 122 jv vS ju::bX)∧(q_≤(aV (iP U x1.2.2.2.1)<|eU mn mr (j_:Int)).length)∧(vS=wi++B8 x0 (j_:Int) ((aV (iP U x1.2.2.2.1)<|eU mn mr (j_:Int)).take q_))∧(vS.length≤4096*j_+q_)) _ ⟨0,wi,a0,c0,J,s8,s9,ej,eX,fA,fD,gi,gS,kb,kK,(bH lC),d_,aj,(by exact(aps _).symm),aj⟩ ?_
  rintro _ f2 w8 ⟨q_,vS,jv,ju,rfl,l3,lZ,mZ,pf,ym,zX,Cs,yl,GB,Ly,OG,dD,sI,gM,am'⟩
  refine sq ?_
  have ai8:(aV (iP U x1.2.2.2.1) (eU mn mr (j_:Int))).length≤4096:=by unfold aV;exact Nat.le_trans (ao3 _ _) (u2 bZ _)
  refine rg<|k<|lss J J OG Ly<|aq<|sq<|cd (b:=decide ((q_:Int)<((aV (iP U x1.2.2.2.1)<|eU mn mr (j_:Int)).length:Int))) J J (fun b2=>?_)<|fun b2=>?_
  ·
   have p2:=dT b2
   refine sk<|nx<|sq<|bk<|az<|k<|ia (dD.rv 0 J) J J GB OG aj cM aU ?_
   intro ma x2 gZ kf
   refine k<|mP kf.w aU J J ?_
   intro qa
   refine ak (v:=I x2) J J<|bw<|ai (v:=I x2) J J<|ai J ym<|k<|neq J J J J<|z<|nx<|cd (b:=!decide (x2=x0)) J J (fun b3=>?_)<|fun b3=>?_
   ·
    have p3:=dF<|fX b3
    refine rg<|ai J mZ<|ai (v:=I x2) J J<|ai J ym<|ai J pf<|k<|bd (v:=.agg #[I x2,I x0,I (j_:Int)]) J (ck J<|ck J<|ck J ew) (fun _=>aS)<|k<|bs (xs:=([(x2,x0,(j_:Int))]:List (Int×Int×Int))) (cells:=#[I x2,I x0,I (j_:Int)]) (e:=122) dD J (ck J ew) (fun _=>aS) ⟨[I x2,I x0,I (j_:Int)],[],J,⟨_,_,J,⟨J,(show aK (x2) from bt)⟩,⟨_,_,J,⟨J,(show aK (x0) from bt)⟩,⟨J,(show aK ((j_:Int)) from aR)⟩⟩⟩,J⟩ J au ?_
    intro g0 w9 lX eR
    refine k<|lV eR 2 J J J J J J (gX<|eR.at_ 0 J) eA cK J (by simp only[fJ,iS,gA];omega) J ?_
    intro mU mT dP (eW:HI M w dP (own w.heap.size 122 (.slice (some ⟨g0,0,none⟩) 1 1) ([(x2,x0,(j_:Int))]:List (Int×Int×Int))::J5::oL w 122 mU (vS++([(x2,x0,(j_:Int))]:List (Int×Int×Int))) mT::bX))
    refine ak (v:=sL mU (vS++([(x2,x0,(j_:Int))]:List (Int×Int×Int))) mT) J J<|z<|aF<|nx<|rg<|k<|add J J OG J aR<|ai (v:=I ((q_:Int)+1)) J J<|z ?_
    have gW:HI M w dP (J5::oL w 122 mU (vS++([(x2,x0,(j_:Int))]:List (Int×Int×Int))) mT::bX):=eW.bV [1,2,3,4,5,6,7] au J
    refine bF _ ?_ ⟨(q_+1),(vS++([(x2,x0,(j_:Int))]:List (Int×Int×Int))),mU,mT,J,l3,lZ,J,pf,ym,zX,Cs,yl,GB,Ly,(bH J),gW,aj,(by exact aaR gM gZ p3),(by simp only[fJ,iS,gA];omega)⟩
    omega
   have p3:=dT<|fw b3
   refine sk<|aF<|nx<|rg<|k<|add J J OG J aR<|ai (v:=I ((q_:Int)+1)) J J<|z<|bF _ ?_ ⟨(q_+1),vS,jv,ju,J,l3,lZ,mZ,pf,ym,zX,Cs,yl,GB,Ly,(bH J),dD,aj,(by exact W2 gM gZ p3),aj⟩
   omega
  have p2:=dF b2
  refine ex<|aT<|aY<|bf<|aF<|nx<|rg<|k<|add J J yl J aR<|ai (v:=I ((j_:Int)+1)) J J<|z ?_
  have eR:HI M w w8 (oL w 122 jv vS ju::bX):=dD.bV [1,2,3,4,5,6] au J
  refine bF _ ?_ ⟨(j_+1),vS,jv,ju,J,l3,lZ,mZ,zX,Cs,(bH J),eR,aj,(by exact aaS (by unfold qC;rw[cQ];rfl) hs gM aM aj aj),(by first|omega)⟩
  omega
 have p0:=dF b0
 refine ex<|aT<|aY<|bf<|cO<|ai J s2<|k ?_
 have H7:HI M w w2 ([oL w 122 a0 wi c0]++[J4,J3,J2,J1,J0]):=H6.bV [0,1,2,3,4,5] au J
 have bR:=R7 (dU:=a0) (dN:=c0) (xs:=wi) (w:=w) (w_:=w2) (r:=[J4,J3,J2,J1,J0]) (M:=M) aj H7
 refine ca agL J (ec J<|ec J e0) bR ?_
 rintro _ w3 ⟨rfl,H8⟩
 have H9:HI M w w3 (own w.heap.size 122 (.slice a0 wi.length c0) (wx wi)::bX):=H8
 refine bw<|ai J s2<|ak (v:=sL a0 wi c0) J J<|aq<|rt<|r1 J J ?_
 have e0:((wx wi):List (Int×Int×Int))=cJ U fo mn mr:=by rw[hs,show j_=fo.length from by omega];rfl
 have l0:wi.length=(cJ U fo mn mr).length:=by rw[hs,show j_=fo.length from by omega];exact JW
 have bq:=iF (fun (u6:Nat)=>(.slice a0 u6 c0:Value)) l0
 exact⟨a0,c0,bq,H9.below,(an0 (fun (n_:Nat)=>bl _ _ _ (cJ U fo mn mr) (.slice a0 n_ c0) _) l0).mp ((an0 (fun (x_:List (Int×Int×Int))=>bl _ _ _ x_ (.slice a0 wi.length c0) _) e0).mp (H9.dt 0 J))⟩
theorem aeo:cx aI 61:=cF Tryz.func61
theorem Jz (hM:eJ M w) (KJ:cA M w zd yZ rM) (YJ:aK tR):Calls aI 61 #[sL zd rM yZ,I tR] w (cm fun v w'=>v=I (eF (fun (z_:Int)=>decide (tR=z_)) rM)∧Ext w w'):=by
 refine dx 19 Tryz.func61 J J J hM fun f0 ha H=>?_
 have H0:=dR H KJ
 have akI:=bg KJ
 have i0:f0 0=sL zd rM yZ:=ha 0 bj
 have i1:f0 1=I tR:=ha 1 bj
 refine az<|ak (v:=I 0) J J<|aq<|sq<|az<|ai J i0<|k<|dL J J cM<|ai (v:=I 0) J J<|aq<|bk<|lp (fun m f w'=>∃(j_:Nat),m=rM.length-j_∧f 0=sL zd rM yZ∧f 1=I tR∧f 7=I (rM.length:Int)∧f 8=I (j_:Int)∧HI M w w' [iL zd rM yZ]∧(j_≤rM.length)∧((rM.take j_).any (fun (z_:Int)=>decide (tR=z_))=false)) _ ⟨0,J,i0,i1,J,(bH J),H0,aj,bj⟩ ?_
 rintro _ f0 w0 ⟨j_,rfl,s0,s1,s2,s3,H1,pj,hs⟩
 refine az<|k<|lss J J s3 s2<|aq<|sq<|cd (b:=decide ((j_:Int)<(rM.length:Int))) J J (fun b0=>?_)<|fun b0=>?_
 ·
  have p0:=dT b0
  refine sk<|nx<|sq<|bk<|az<|ai J s3<|ak (v:=I (j_:Int)) J J<|bw<|ai J s1<|ai J s0<|ai (v:=I (j_:Int)) J J<|k<|ia (H1.rv 0 J) J J J J aj cM aU ?_
  intro iG x0 aM cw
  refine k<|mP cw.w aU J J ?_
  intro cu
  refine k<|eql J J J J<|z<|nx<|cd (b:=decide (tR=x0)) J J (fun b1=>?_)<|fun b1=>?_
  ·
   refine az<|ai (v:=I (j_:Int)) J J<|ak (v:=I (j_:Int)) J J<|aq<|rt<|bS<|aL<|dY<|bS<|aL<|r1 J J ?_
   exact⟨an0 (Value.int .i64) (by exact uA (p:=(fun (z_:Int)=>decide (tR=z_))) aM hs b1),H1.below⟩
  have p1:=dF b1
  refine sk<|aF<|nx<|rg<|k<|add J J s3 J aR<|ai (v:=I ((j_:Int)+1)) J J<|z<|bF _ ?_ ⟨(j_+1),J,s0,s1,s2,(bH J),H1,aj,(by exact pE aM hs b1)⟩
  omega
 have p0:=dF b0
 refine ex<|aT<|aY<|bf<|cO<|ak (v:=I (-1)) J J<|aq<|rt<|r1 J J ?_
 exact⟨an0 (Value.int .i64) (by exact ve hs aj),H1.below⟩
theorem Dr (hM:eJ M w) (KJ:cA M w zd yZ rM) (YJ:aK tR):Calls aI 131 #[sL zd rM yZ,I tR] w (cm fun v w'=>v=.bool (rM.any (fun (z_:Int)=>decide (tR=z_)))∧Ext w w'):=by
 refine dx 9 Tryz.func131 J J J hM fun f0 ha H=>?_
 have H0:=dR H KJ
 have i0:f0 0=sL zd rM yZ:=ha 0 bj
 have i1:f0 1=I tR:=ha 1 bj
 refine az<|ak (v:=.bool false) J J<|bw<|ai J i0<|ai J i1<|k ?_
 have bR:=Jz (rM:=rM) (tR:=tR) H0.mb (H0.rv 0 J) YJ
 refine ca aeo J (ec J<|ec J e0) bR ?_
 rintro _ w0 ⟨rfl,bW⟩
 have H1:=H0.ext bW
 refine k<|geq J J J J<|ak (v:=.bool (decide (0≤(eF (fun (z_:Int)=>decide (tR=z_)) rM)))) J J<|aq<|rt<|r1 J J ?_
 exact⟨an0 Value.bool (by exact uB),H1.below⟩
theorem Kx:ep aI 218 2 true 16 (.agg #[.int .i64 0,.int .i64 0]):=⟨aS,aS⟩
theorem Ky:ep aI 215 1 false 8 (.map none):=⟨aS,aS⟩
theorem afG:P1 aI 218 [some (0,0),some (1,0)]:=⟨aS,aS,aS,aS⟩
theorem X6:RH aI 215:=X' (by kernel_rfl:aI.underlying 215=some (.map 218 4)) (Wi (zr afG)) pe rfl
theorem Y1:cx aI 131:=cF Tryz.func131
theorem YX:cx aI 169:=cF Tryz.func169
theorem Eo (Bw:aK fz) (D6:aK fC) (Bv:aK gH) (fY:aK mn) (bZ:bJ mn mr=true) (H:HI M w w_ ([box kD #[.map (some fV)] 215,bU fV met,box mG #[I mn,sL bC mr bB] 26,iL bC mr bB,box mH #[sL j7 kp j5] 27,iL j7 kp j5]++r)):Calls aI 169 #[.agg #[I fz,I fC,I gH],pV kD 0,pV mG 0,pV mH 0] w_ (cm fun v w'=>v=.bool (((eY mn mr kp) met (fz,fC,gH)).1)∧HI M w w' ([box kD #[.map (some fV)] 215,bU fV (((eY mn mr kp) met (fz,fC,gH)).2),box mG #[I mn,sL bC mr bB] 26,iL bC mr bB,box mH #[sL j7 kp j5] 27,iL j7 kp j5]++r)):=by
 refine enter 32 Tryz.func169 J J J fun f0 ha=>?_
 have nw:=bg<|H.rv 3 J
 have Yc:=bg<|H.rv 5 J
 have i0:f0 0=.agg #[I fz,I fC,I gH]:=ha 0 bj
 have i1:f0 1=pV kD 0:=ha 1 bj
 have i2:f0 2=pV mG 0:=ha 2 bj
 have i3:f0 3=pV mH 0:=ha 3 bj
 refine az<|k<|bx H J i0 ?_
 let J1:=box kD #[.map (some fV)] 215
 let J2:=box mG #[I mn,sL bC mr bB] 26
 let J3:=iL bC mr bB
 let J4:=box mH #[sL j7 kp j5] 27
 let J5:=iL j7 kp j5
 let bc:=[J1,bU fV met,J2,J3,J4,J5]
 intro aW w0 bW (H0:HI M w w0 ((box aW #[I fz,I fC,I gH] 122::bc)++r))
 let J0:=box aW #[I fz,I fC,I gH] 122
 refine ak (v:=.bool false) J J<|bw<|aQ kV J J<|bo H0 0 J aU J J J<|aQ mW J J<|bo H0 0 J aU J J J<|k<|bd (v:=.agg #[I fz,I fC]) J (ck J<|ck J ew) (fun _=>aS)<|k<|al H0 Kx ?_
 intro ba w1 df (H1:HI M w w1 ((box ba #[I 0,I 0] 218::J0::bc)++r))
 refine k<|bu H1 0 J Kx J J J J J J J ?_
 let J6:=box ba #[I fz,I fC] 218
 intro w2 (H2:HI M w w2 ((J6::J0::bc)++r))
 refine aq<|sq<|az<|bo H2 2 J Ky J i1 J<|k<|cB H2 0 J Kx J J au J<|k<|aiG (k:=(fz,fC)) X6 H2 3 J J J J J<|ai (v:=.bool ((fM met (fz,fC)).getD false)) J J ?_
 rcases bE ((fM met (fz,fC)).getD false) with b0|b0
 ·
  refine aX J J J b0<|aX J J J b0<|aX J J J b0<|aX J J J b0<|aX J J J b0<|aX J J J b0<|k<|aP J J J J b0 J<|ai (v:=.bool true) J J<|aX J J J J<|aX J J J J<|aX J J J J<|aX J J J J<|aX J J J J<|k<|aP J J J J J J<|aq<|oW J J J<|az<|ak (v:=.bool true) J J<|aq<|rt<|aL<|r1 J J ?_
  have H3:=HI.aP (l:=(J6::J0::bc)) (l':=bc) (t:=r) H2 [2,3,4,5,6,7] au J J
  have e0:(true:Bool)=((eY mn mr kp) met (fz,fC,gH)).1:=by simp only[eY,b0,BL]
  have e1:(met:List ((Int×Int)×Bool))=(((eY mn mr kp) met (fz,fC,gH)).2):=by simp only[eY,b0,BL]
  try rw[←e0]
  try rw[←e1]
  refine⟨?_,?_⟩
  · first|rfl|simp only[e0,e1]|(simp only[an1])
  · first|exact H3|simpa +zetaDelta only[e0,e1,an1] using H3
 refine aZ J J J b0<|cB H2 4 J bm J i2 au J<|aZ J J J b0<|fa kV J J<|aZ J J J b0<|lx H2 1 J aU J J J<|aZ J J J b0<|fa mW J J<|aZ J J J b0<|lx H2 1 J aU J J J<|aZ J J J b0 ?_
 have bR:=uz (mn:=mn) (mr:=mr) (i:=fz) (j:=fC) H2.mb fY (H2.rv 5 J) Bw D6 (by exact(bQ bZ).1) (by exact(bQ bZ).2.1)<|by exact(bQ bZ).2.2.1
 refine ca F4 J (ec J<|ec J<|ec J e0) bR ?_
 rintro _ w3 ⟨rfl,eS⟩
 have H3:=H2.ext eS
 refine k<|dG J J J J b0 J<|ai (v:=.bool (eI mn mr fz fC)) J J ?_
 rcases bE (eI mn mr fz fC) with b1|b1
 ·
  refine aX J J J b1<|aX J J J b1<|aX J J J b1<|aX J J J b1<|aX J J J b1<|k<|aP J J J J b1 J<|aq<|oW J J J<|az<|ak (v:=.bool true) J J<|aq<|rt<|aL<|r1 J J ?_
  have H4:=HI.aP (l:=(J6::J0::bc)) (l':=bc) (t:=r) H3 [2,3,4,5,6,7] au J J
  have e0:(true:Bool)=((eY mn mr kp) met (fz,fC,gH)).1:=by simp only[eY,b0,b1,BL]
  have e1:(met:List ((Int×Int)×Bool))=(((eY mn mr kp) met (fz,fC,gH)).2):=by simp only[eY,b0,b1,BL]
  try rw[←e0]
  try rw[←e1]
  refine⟨?_,?_⟩
  · first|rfl|simp only[e0,e1]|(simp only[an1])
  · first|exact H4|simpa +zetaDelta only[e0,e1,an1] using H4
 refine aZ J J J b1<|lx H3 6 J qD J i3 J<|aZ J J J b1<|fa sP J J<|aZ J J J b1<|lx H3 1 J aU J J J<|aZ J J J b1 ?_
 have cU:=Dr (rM:=kp) (tR:=gH) H3.mb (H3.rv 7 J) Bv
 refine ca Y1 J (ec J<|ec J e0) cU ?_
 rintro _ w4 ⟨rfl,fH⟩
 have H4:=H3.ext fH
 refine aZ J J J b1<|j4 J J<|k<|dG J J J J b1 J<|z<|nx<|cd (b:=!(kp.any<|fun (z_:Int)=>decide (gH=z_))) J J (fun b2=>?_)<|fun b2=>?_
 ·
  refine az<|ak (v:=.bool true) J J<|aq<|rt<|aL<|r1 J J ?_
  have H5:=HI.aP (l:=(J6::J0::bc)) (l':=bc) (t:=r) H4 [2,3,4,5,6,7] au J J
  have e0:(true:Bool)=((eY mn mr kp) met (fz,fC,gH)).1:=by simp only[eY,b0,b1,(fX b2),BL]
  have e1:(met:List ((Int×Int)×Bool))=(((eY mn mr kp) met (fz,fC,gH)).2):=by simp only[eY,b0,b1,(fX b2),BL]
  try rw[←e0]
  try rw[←e1]
  refine⟨?_,?_⟩
  · first|rfl|simp only[e0,e1]|(simp only[an1])
  · first|exact H5|simpa +zetaDelta only[e0,e1,an1] using H5
 refine sk<|cO<|bo H4 2 J Ky J i1 J<|k<|cB H4 0 J Kx J J au J<|k<|aiE (k:=(fz,fC)) (v:=true) X6 H4 3 J J J J J J J ?_
 let bX:=[J1,bU fV (lO met (fz,fC) true),J2,J3,J4,J5]
 intro w5 (H5:HI M w w5 ((J6::J0::bX)++r))
 refine bw<|ak (v:=.bool false) J J<|aq<|rt<|r1 J J ?_
 have H6:=HI.aP (l:=(J6::J0::bX)) (l':=bX) (t:=r) H5 [2,3,4,5,6,7] au J J
 have e0:(false:Bool)=((eY mn mr kp) met (fz,fC,gH)).1:=by simp only[eY,b0,b1,(fw b2),BL]
 have e1:(lO met (fz,fC) true:List ((Int×Int)×Bool))=(((eY mn mr kp) met (fz,fC,gH)).2):=by simp only[eY,b0,b1,(fw b2),BL]
 try rw[←e0]
 try rw[←e1]
 refine⟨?_,?_⟩
 · first|rfl|simp only[e0,e1]|(simp only[an1])
 · first|exact H6|simpa +zetaDelta only[e0,e1,an1] using H6
theorem G' {xs:List (Int×Int×Int)} (fY:aK mn) (bZ:bJ mn mr=true) (H:HI M w w_ ([oL w 122 dU xs dN,box kD #[.map (some fV)] 215,bU fV met,box mG #[I mn,sL bC mr bB] 26,iL bC mr bB,box mH #[sL j7 kp j5] 27,iL j7 kp j5]++r)):Calls aI 184 #[sL dU xs dN,.func (.func 169) #[] #[pV kD 0,pV mG 0,pV mH 0]] w_ (cm fun v w'=>∃(ix:Int) (mt:List ((Int×Int)×Bool)),v=I ix∧HI M w w' ([oL w 122 dU xs dN,box kD #[.map (some fV)] 215,bU fV mt,box mG #[I mn,sL bC mr bB] 26,iL bC mr bB,box mH #[sL j7 kp j5] 27,iL j7 kp j5]++r)∧NI (eY mn mr kp) met xs ix mt):=by
 refine enter 19 Tryz.func184 J J J fun f0 ha=>?_
 have GY:=kl<|H.at_ 0 J
 have nw:=bg<|H.rv 4 J
 have Yc:=bg<|H.rv 6 J
 have i0:f0 0=sL dU xs dN:=ha 0 bj
 have i1:f0 1=.func (.func 169) #[] #[pV kD 0,pV mG 0,pV mH 0]:=ha 1 bj
 refine az<|ak (v:=I 0) J J<|aq<|sq<|az<|ai J i0<|k<|dL J J eA<|ai (v:=I 0) J J<|aq<|bk ?_
 let J0:=oL w 122 dU xs dN
 let J1:=box kD #[.map (some fV)] 215
 let J2:=box mG #[I mn,sL bC mr bB] 26
 let J3:=iL bC mr bB
 let J4:=box mH #[sL j7 kp j5] 27
 let J5:=iL j7 kp j5
 let bc:=[J2,J3,J4,J5]
 refine lp (fun m f w'=>∃(j_:Nat) (na:List ((Int×Int)×Bool)),m=xs.length-j_∧f 0=sL dU xs dN∧f 1=.func (.func 169) #[] #[pV kD 0,pV mG 0,pV mH 0]∧f 7=I (xs.length:Int)∧f 8=I (j_:Int)∧HI M w w' ((J0::J1::bU fV na::bc)++r)∧(j_≤xs.length)∧(gk (eY mn mr kp) met (xs.take j_)=(xs.take j_,na))) _ ⟨0,met,J,i0,i1,J,(bH J),H,aj,(by exact WV)⟩ ?_
 rintro _ f0 w0 ⟨j_,na,rfl,s0,s1,s2,s3,H0,pj,hs⟩
 refine az<|k<|lss J J s3 s2<|aq<|sq<|cd (b:=decide ((j_:Int)<(xs.length:Int))) J J (fun b0=>?_)<|fun b0=>?_
 ·
  have p0:=dT b0
  refine sk<|nx<|sq<|bk<|az<|ai J s3<|ak (v:=I (j_:Int)) J J<|bw<|ai J s1<|ai J s0<|ai (v:=I (j_:Int)) J J<|k<|iz (H0.at_ 0 J) J J J J aj eA cK ?_
  intro g0 x0 iE aM cw
  refine k<|nz cw cK J J ?_
  intro v0 cu
  obtain⟨_,⟨_,_,rfl,⟨rfl,ee⟩,⟨_,_,rfl,⟨rfl,eb⟩,⟨rfl,fh⟩⟩⟩,rfl⟩:=cu
  refine k ?_
  let bX:=[J2,J3,J4,J5,J0]
  have H1:HI M w w0 ((J1::bU fV na::bc)++([J0]++r)):=HI.aP (l:=(J0::J1::bU fV na::bc)) (l':=(J1::bU fV na::bX)) (t:=r) H0 [1,2,3,4,5,6,0] au J J
  have bR:=Eo (fz:=x0.1) (fC:=x0.2.1) (gH:=x0.2.2) (kD:=kD) (fV:=fV) (met:=na) (mG:=mG) (mn:=mn) (bC:=bC) (bB:=bB) (mr:=mr) (mH:=mH) (j7:=j7) (j5:=j5) (kp:=kp) (w:=w) (w_:=w0) (r:=([J0]++r)) (M:=M) ee eb fh fY (by exact bZ) H1
  refine cf YX J J J (ec J e0) bR ?_
  rintro _ w1 ⟨rfl,H2⟩
  let dM:=J1::bU fV (((eY mn mr kp) na (x0.1,x0.2.1,x0.2.2)).2)::bX
  have H3:HI M w w1 (dM++r):=H2
  refine z<|nx<|cd (b:=((eY mn mr kp) na (x0.1,x0.2.1,x0.2.2)).1) J J (fun b1=>?_)<|fun b1=>?_
  ·
   refine az<|ai (v:=I (j_:Int)) J J<|ak (v:=I (j_:Int)) J J<|aq<|rt<|bS<|aL<|dY<|bS<|aL<|r1 J J ?_
   have H4:=HI.aP (l:=dM) (l':=(J0::J1::bU fV (((eY mn mr kp) na (x0.1,x0.2.1,x0.2.2)).2)::bc)) (t:=r) H3 [6,0,1,2,3,4,5] au J J
   refine⟨(j_:Int),(((eY mn mr kp) na (x0.1,x0.2.1,x0.2.2)).2),?_,?_,(by exact aex hs aj aM b1)⟩
   · first|rfl|simp only[an1]
   · first|exact H4|simpa +zetaDelta only[an1] using H4
  refine sk<|aF<|nx<|rg<|k<|add J J s3 J aR<|ai (v:=I ((j_:Int)+1)) J J<|z ?_
  let iO:=J0::J1::bU fV (((eY mn mr kp) na (x0.1,x0.2.1,x0.2.2)).2)::bc
  have H4:HI M w w1 (iO++r):=HI.aP (l:=dM) (l':=iO) (t:=r) H3 [6,0,1,2,3,4,5] au J J
  refine bF _ ?_ ⟨(j_+1),(((eY mn mr kp) na (x0.1,x0.2.1,x0.2.2)).2),J,s0,s1,s2,(bH J),H4,aj,(by exact aaK hs aM b1)⟩
  omega
 have p0:=dF b0
 refine ex<|aT<|aY<|bf<|cO<|ak (v:=I (-1)) J J<|aq<|rt<|r1 J J ?_
 refine⟨(-1),na,?_,?_,(by exact aey hs aj)⟩
 · first|rfl|simp only[an1]
 · first|exact H0|simpa +zetaDelta only[an1] using H0
theorem agb:cx aI 184:=cF Tryz.func184
theorem Ra:cx aI 65:=cF Tryz.func65
theorem agi:cx aI 168:=cF Tryz.func168
theorem Gb {xs:List (Int×Int×Int)} (fY:aK mn) (bZ:bJ mn mr=true) (H:HI M w w_ ([oL w 122 dU xs dN,box kD #[.map (some fV)] 215,bU fV met,box mG #[I mn,sL bC mr bB] 26,iL bC mr bB,box mH #[sL j7 kp j5] 27,iL j7 kp j5]++r)):Calls aI 168 #[sL dU xs dN,.func (.func 169) #[] #[pV kD 0,pV mG 0,pV mH 0]] w_ (cm fun v w'=>v=.slice dU ((gk (eY mn mr kp) met xs).1).length dN∧HI M w w' ([oL w 122 dU ((gk (eY mn mr kp) met xs).1) dN,box kD #[.map (some fV)] 215,bU fV ((gk (eY mn mr kp) met xs).2),box mG #[I mn,sL bC mr bB] 26,iL bC mr bB,box mH #[sL j7 kp j5] 27,iL j7 kp j5]++r)):=by
 refine enter 42 Tryz.func168 J J J fun f0 ha=>?_
 have GY:=kl<|H.at_ 0 J
 have nw:=bg<|H.rv 4 J
 have Yc:=bg<|H.rv 6 J
 have i0:f0 0=sL dU xs dN:=ha 0 bj
 have i1:f0 1=.func (.func 169) #[] #[pV kD 0,pV mG 0,pV mH 0]:=ha 1 bj
 refine az<|ak (v:=.slice none 0 0) J J<|bw<|ai J i0<|ai J i1<|k ?_
 let J0:=oL w 122 dU xs dN
 let J1:=box kD #[.map (some fV)] 215
 let J2:=box mG #[I mn,sL bC mr bB] 26
 let J3:=iL bC mr bB
 let J4:=box mH #[sL j7 kp j5] 27
 let J5:=iL j7 kp j5
 let bc:=[J2,J3,J4,J5]
 let bX:=J0::J1::bU fV met::bc
 have H0:HI M w w_ ((J0::J1::bU fV met::bc)++([]++r)):=HI.aP (l:=bX) (l':=bX) (t:=r) H [0,1,2,3,4,5,6] au J J
 have bR:=G' (dU:=dU) (dN:=dN) (xs:=xs) (kD:=kD) (fV:=fV) (met:=met) (mG:=mG) (mn:=mn) (bC:=bC) (bB:=bB) (mr:=mr) (mH:=mH) (j7:=j7) (j5:=j5) (kp:=kp) (w:=w) (w_:=w_) (r:=([]++r)) (M:=M) fY (by exact bZ) H0
 refine ca agb J (ec J<|ec J e0) bR ?_
 rintro _ w0 ⟨o0,o1,rfl,H1,q0⟩
 have H2:HI M w w0 ((J0::J1::bU fV o1::bc)++r):=H1
 refine ak (v:=I o0) J J<|aq<|sq<|az<|ai (v:=I o0) J J<|k<|eql J J J J<|z<|nx<|cd (b:=decide (o0=(-1))) J J (fun b0=>?_)<|fun b0=>?_
 ·
  have p0:=dT b0
  refine az<|ai J i0<|ak (v:=sL dU xs dN) J J<|aq<|rt<|aL<|r1 J J ?_
  have e0:(xs:List _)=((gk (eY mn mr kp) met xs).1):=by rw[PA q0 bt]
  have e1:(o1:List ((Int×Int)×Bool))=((gk (eY mn mr kp) met xs).2):=by rw[PA q0 bt]
  try rw[←e0]
  try rw[←e1]
  refine⟨?_,?_⟩
  · first|rfl|simp only[e0,e1]|(simp only[an1])
  · first|exact H2|simpa +zetaDelta only[e0,e1,an1] using H2
 have p0:=dF b0
 refine sk<|nx<|sq<|sq ?_
 obtain⟨adA,Q5⟩:=W3 q0 bt
 have adB:=Q5.1
 refine rg<|ai (v:=I o0) J J<|k<|add J J J J aR<|ak (v:=I (o0+1)) J J<|aq<|bk<|lp (fun m f w'=>∃(q:Int) (k_:Nat) (ys:List eu) (na:List ((Int×Int)×Bool)),m=xs.length-k_∧f 0=sL dU xs dN∧f 1=.func (.func 169) #[] #[pV kD 0,pV mG 0,pV mH 0]∧f 5=I q∧f 6=I (k_:Int)∧HI M w w' ((own w.heap.size 122 (.slice dU xs.length dN) ys::J1::bU fV na::bc)++r)∧(0≤q∧q<(k_:Int)∧k_≤xs.length)∧(DS (eY mn mr kp) met xs ys q k_ na)) _ ⟨o0,(o0.toNat+1),xs,o1,J,i0,i1,(bH J),(bH J),H2,aj,(by exact Q5)⟩ ?_
 rintro _ f0 w1 ⟨q,k_,ys,na,rfl,s0,s1,s2,s3,H3,sI,hs⟩
 refine sq<|az<|ai J s3<|ai J s0<|k<|dL J J eA<|k<|lss J J J J<|z<|nx<|cd (b:=decide ((k_:Int)<(xs.length:Int))) J J (fun b1=>?_)<|fun b1=>?_
 ·
  have p1:=dT b1
  refine sk<|nx<|sq<|bk<|az<|ai J s0<|ai J s3<|k<|iz (H3.at_ 0 J) J J J J (by have h_:=hs.2.2.1;first|omega|(simp only[fJ,ic,oz,gA];omega)) eA cK ?_
  intro g0 x0 iE aM cw
  refine k<|nz cw cK J J ?_
  intro v0 cu
  obtain⟨_,⟨_,_,rfl,⟨rfl,ee⟩,⟨_,_,rfl,⟨rfl,eb⟩,⟨rfl,fh⟩⟩⟩,rfl⟩:=cu
  refine k<|al H3 cK ?_
  let J6:=own w.heap.size 122 (.slice dU xs.length dN) ys
  let dM:=J1::bU fV na::bc
  intro aW w2 bW (H4:HI M w w2 ((box aW #[I 0,I 0,I 0] 122::J6::dM)++r))
  refine k<|bu H4 0 J cK J J J J J J J ?_
  let J7:=box aW #[I x0.1,I x0.2.1,I x0.2.2] 122
  intro w3 (H5:HI M w w3 ((J7::J6::dM)++r))
  refine bw<|ai J s1<|k<|cB H5 0 J cK J J au J<|k ?_
  have H6:HI M w w3 (dM++([J7,J6]++r)):=HI.aP (l:=(J7::J6::dM)) (l':=[J1,bU fV na,J2,J3,J4,J5,J7,J6]) (t:=r) H5 [2,3,4,5,6,7,0,1] au J J
  have cU:=Eo (fz:=x0.1) (fC:=x0.2.1) (gH:=x0.2.2) (kD:=kD) (fV:=fV) (met:=na) (mG:=mG) (mn:=mn) (bC:=bC) (bB:=bB) (mr:=mr) (mH:=mH) (j7:=j7) (j5:=j5) (kp:=kp) (w:=w) (w_:=w3) (r:=([J7,J6]++r)) (M:=M) ee eb fh fY (by exact bZ) H6
  refine cf YX J J J (ec J e0) cU ?_
  rintro _ w4 ⟨rfl,H7⟩
  let iO:=[J1,bU fV (((eY mn mr kp) na (x0.1,x0.2.1,x0.2.2)).2),J2,J3,J4,J5,J7,J6]
  have H8:HI M w w4 (iO++r):=H7
  refine k<|j4 J J<|z<|nx<|cd (b:=!(((eY mn mr kp) na (x0.1,x0.2.1,x0.2.2)).1)) J J (fun b2=>?_)<|fun b2=>?_
  ·
   refine az<|ai J s0<|ai J s2<|k<|cB H8 6 J cK J J au J<|k<|iz (H8.at_ 7 J) J J J J (by have h_:=hs.2.2.1;first|omega|(simp only[fJ,ic,oz,gA];omega)) eA cK ?_
   intro g1 x1 kT cQ gN
   refine k<|qj H8 7 J kT J (by have h_:=hs.2.2.1;first|omega|(simp only[fJ,ic,oz,gA];omega)) cK J J J J ⟨_,⟨_,_,J,⟨J,(show aK (x0.1) from bt)⟩,⟨_,_,J,⟨J,(show aK (x0.2.1) from bt)⟩,⟨J,(show aK (x0.2.2) from bt)⟩⟩⟩,J⟩ ?_
   let J8:=own w.heap.size 122 (.slice dU xs.length dN) (ys.set q.toNat (x0.1,x0.2.1,x0.2.2))
   let fj:=[J1,bU fV (((eY mn mr kp) na (x0.1,x0.2.1,x0.2.2)).2),J2,J3,J4,J5,J7,J8]
   intro w5 (H9:HI M w w5 (fj++r))
   refine aq<|rg<|ai J s2<|k<|add J J J J aR<|ak (v:=I (q+1)) J J<|z<|aF<|nx<|rg<|ai J s3<|k<|add J J J J aR<|ak (v:=I ((k_:Int)+1)) J J<|z ?_
   let lF:=J8::J1::bU fV (((eY mn mr kp) na (x0.1,x0.2.1,x0.2.2)).2)::bc
   have dE:HI M w w5 (lF++r):=HI.aP (l:=fj) (l':=lF) (t:=r) H9 [7,0,1,2,3,4,5] au J J
   refine bF _ ?_ ⟨(q+1),(k_+1),(ys.set q.toNat (x0.1,x0.2.1,x0.2.2)),(((eY mn mr kp) na (x0.1,x0.2.1,x0.2.2)).2),J,s0,s1,(bH J),(bH J),dE,aj,(by exact aaT hs aM (by simpa using b2))⟩
   omega
  refine sk<|aF<|nx<|rg<|ai J s3<|k<|add J J J J aR<|ak (v:=I ((k_:Int)+1)) J J<|z ?_
  let ue:=J6::J1::bU fV (((eY mn mr kp) na (x0.1,x0.2.1,x0.2.2)).2)::bc
  have H9:HI M w w4 (ue++r):=HI.aP (l:=iO) (l':=ue) (t:=r) H8 [7,0,1,2,3,4,5] au J J
  refine bF _ ?_ ⟨q,(k_+1),ys,(((eY mn mr kp) na (x0.1,x0.2.1,x0.2.2)).2),J,s0,s1,(bH s2),(bH J),H9,aj,(by exact aaU hs aM (by simpa using b2))⟩
  omega
 have p1:=dF b1
 refine ex<|aT<|aY<|bf<|cO<|ai J s0<|ai J s2<|k<|Vs (H3.at_ 0 J) J J J J (by have h_:=hs.2.2.1;first|omega|(simp only[fJ,ic,oz,gA];omega)) eA cK<|k<|clE H3 0 J J J (q:=q.toNat) J eA cK (by have h_:=hs.2.2.1;omega) ?_
 intro w2 (H4:HI M w w2 ((own w.heap.size 122 (.slice dU xs.length dN) (ys.take q.toNat++List.replicate (ys.length-q.toNat) (0,0,0))::J1::bU fV na::bc)++r))
 refine bw<|ai J s0<|ai J s2<|k<|Sd H4 0 J J J J J (by have h_:=hs.2.2.1;first|omega|(simp only[fJ,ic,oz,gA];omega)) eA cK ?_
 intro (H5:HI M w w2 ((oL w 122 dU ((ys.take q.toNat++List.replicate (ys.length-q.toNat) (0,0,0)).take q.toNat) dN::J1::bU fV na::bc)++r))
 refine ak (v:=sL dU ((ys.take q.toNat++List.replicate (ys.length-q.toNat) (0,0,0)).take q.toNat) dN) J J<|aq<|rt<|r1 J J ?_
 have e0:((ys.take q.toNat++List.replicate (ys.length-q.toNat) (0,0,0)).take q.toNat:List _)=((gk (eY mn mr kp) met xs).1):=by exact(Ui hs aj aj _).1
 have e1:(na:List ((Int×Int)×Bool))=((gk (eY mn mr kp) met xs).2):=by exact(Ui hs aj aj []).2
 try rw[←e0]
 try rw[←e1]
 refine⟨?_,?_⟩
 · first|rfl|simp only[e0,e1]|(simp only[an1])
 · first|exact H5|simpa +zetaDelta only[e0,e1,an1] using H5
theorem Ql (hM:eJ M w) (hT:fS 0 w) (dC:cA M w aw av U) (fZ:cA M w ay ax fo) (fY:aK mn) (gr:cA M w bC bB mr) (aji:cA M w j7 j5 kp) (dy:U.length≤4096) (eB:fo.length=U.length) (fL:∀x∈fo,x<((U.length:Nat):Int)) (bZ:bJ mn mr=true):Calls aI 142 #[.agg #[.slice aC aD aB,sL aw U av,sL ay fo ax],.agg #[I mn,sL bC mr bB],sL j7 kp j5] w (cm fun v w'=>∃(a0:OA) (c0:Nat),v=.slice a0 (gG mn mr kp (cJ U fo mn mr)).length c0∧Ext w w'∧bl M 122 w (gG mn mr kp (cJ U fo mn mr)) (.slice a0 (gG mn mr kp (cJ U fo mn mr)).length c0) w'):=by
 refine dx 14 Tryz.func142 J J J hM fun f0 ha H=>?_
 let J0:=iL aw U av
 have H0:=H.put (it:=J0) J<|by rw[bP];exact dC
 let J1:=iL ay fo ax
 have H1:=H0.put (it:=J1) J<|by rw[aH rfl,bP];exact fZ
 let J2:=iL bC mr bB
 have H2:=H1.put (it:=J2) J<|by rw[aH rfl,aH rfl,bP];exact gr
 let J3:=iL j7 kp j5
 have H3:=H2.put (it:=J3) J<|by rw[aH rfl,aH rfl,aH rfl,bP];exact aji
 have i0:f0 0=.agg #[.slice aC aD aB,sL aw U av,sL ay fo ax]:=ha 0 bj
 have i1:f0 1=.agg #[I mn,sL bC mr bB]:=ha 1 bj
 have i2:f0 2=sL j7 kp j5:=ha 2 bj
 refine az<|k<|bx H3 J i0 ?_
 let bc:=[J3,J2,J1,J0]
 intro aW w0 bW (H4:HI M w w0 (box aW #[.slice aC aD aB,sL aw U av,sL ay fo ax] 47::bc))
 let J4:=box aW #[.slice aC aD aB,sL aw U av,sL ay fo ax] 47
 refine k<|bx H4 J i1 ?_
 intro ba w1 df (H5:HI M w w1 (box ba #[I mn,sL bC mr bB] 26::J4::bc))
 let J5:=box ba #[I mn,sL bC mr bB] 26
 refine k<|bx H5 J i2 ?_
 intro bI w2 eS (H6:HI M w w2 (box bI #[sL j7 kp j5] 27::J5::J4::bc))
 let J6:=box bI #[sL j7 kp j5] 27
 refine ak (v:=.slice none 0 0) J J<|bw<|k<|mmP H6 ?_
 intro dK w3 fH (H7:HI M w w3 (bU dK ([]:List ((Int×Int)×Bool))::J6::J5::J4::bc))
 refine k<|al H7 Ky ?_
 let bX:=bU dK ([]:List ((Int×Int)×Bool))::J6::J5::J4::bc
 intro fm w4 jg (H8:HI M w w4 (box fm #[.map none] 215::bX))
 refine k<|bu H8 0 J Ky J J J J J J J ?_
 let J7:=box fm #[.map (some dK)] 215
 intro w5 (H9:HI M w w5 (J7::bX))
 refine bw<|k<|cB H9 4 J dQ J J au J<|k<|cB H9 3 J bm J J au J<|k ?_
 have bR:=uR (U:=U) (fo:=fo) (mn:=mn) (mr:=mr) (aC:=aC) (aD:=aD) (aB:=aB) H9.mb (hT.ext H9.below) (H9.rv 8 J) (H9.rv 7 J) fY (H9.rv 6 J) (by exact dy) (by exact eB) (by exact fL)<|by exact bZ
 refine ca Ra J (ec J<|ec J e0) bR ?_
 rintro _ w6 ⟨a0,c0,rfl,jr,cu⟩
 have dE:=H9.eP cu
 refine k<|mf J<|k ?_
 have cV:HI M w w6 ([oL w 122 a0 (cJ U fo mn mr) c0,J7,bU dK ([]:List ((Int×Int)×Bool)),J5,J2,J6,J3]++[J4,J1,J0]):=dE.bV [0,1,2,4,7,3,6,5,8,9] au J
 have cU:=Gb (dU:=a0) (dN:=c0) (xs:=(cJ U fo mn mr)) (kD:=fm) (fV:=dK) (met:=([]:List ((Int×Int)×Bool))) (mG:=ba) (mn:=mn) (bC:=bC) (bB:=bB) (mr:=mr) (mH:=bI) (j7:=j7) (j5:=j5) (kp:=kp) (w:=w) (w_:=w6) (r:=[J4,J1,J0]) (M:=M) fY (by exact bZ) cV
 refine ca agi J (ec J<|ec J e0) cU ?_
 rintro _ w7 ⟨rfl,dm⟩
 have cL:HI M w w7 [oL w 122 a0 ((gk (eY mn mr kp) ([]:List ((Int×Int)×Bool)) (cJ U fo mn mr)).1) c0,J7,bU dK ((gk (eY mn mr kp) ([]:List ((Int×Int)×Bool)) (cJ U fo mn mr)).2),J5,J2,J6,J3,J4,J1,J0]:=dm
 refine ak (v:=sL a0 ((gk (eY mn mr kp) ([]:List ((Int×Int)×Bool))<|cJ U fo mn mr).1) c0) J J<|aq<|rt<|r1 J J ?_
 have e0:(((gk (eY mn mr kp) ([]:List ((Int×Int)×Bool)) (cJ U fo mn mr)).1):List (Int×Int×Int))=gG mn mr kp (cJ U fo mn mr):=rfl
 have bq:=iF (fun (b9:List (Int×Int×Int))=>(.slice a0 b9.length c0:Value)) e0
 exact⟨a0,c0,bq,cL.below,(an0 (fun (x_:List (Int×Int×Int))=>bl _ _ _ x_ (.slice a0 x_.length c0) _) e0).mp (cL.dt 0 J)⟩
end Go.Proofs.YtgjakhpjmapelaaGreatDoor
