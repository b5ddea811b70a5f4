/- PRINTED by my own tool (wip/tool/gen.py): contracts of Go functions of this seat, each with its proof. -/
import Derived.Test.YtgjakhpjmapelaaGreatDoorProg
import Derived.Test.YtgjakhpjmapelaaGreatDoorTwnB
import Derived.Test.YtgjakhpjmapelaaGreatDoorTwnA
import Derived.Test.YtgjakhpjmapelaaGreatDoorTwnC
import Derived.Test.YtgjakhpjmapelaaGreatDoorTwnD
set_option linter.unusedVariables false
set_option linter.unusedSimpArgs false
namespace Go.Proofs.YtgjakhpjmapelaaGreatDoor
open Go.Ew Go.RowKit
set_option maxRecDepth 100000
set_option maxHeartbeats 1600000
attribute [local irreducible] WL WC SO PW PX PZ WE Code.wp wpList sj cA
attribute [local irreducible] kh xM jr fm eo Aq C6 Kt words eb de jJ fG vM
theorem cN {P:Program} {g:Nat} {fn:Func} {c:Code} (h:P.funcs[g]? =some fn) (hb:fn.body=some c:=by exact rfl) (hn:(fn.name== "runtime.NumGoroutine")=false:=by kernel_rfl):cH P g:=⟨fn,c,h,hb,hn⟩
theorem js {P:Program} {s:TypeId} {j o:Nat} {fs:Array _} {fd:_} (h:P.underlying s=some (.struct fs)) (h1:fs[j]? =some fd:=by exact rfl) (h2:fd.offset=o:=by exact rfl) (h3:((P.info? fd.type).map fun i=>Nat.beq i.size 0)=some false:=by kernel_rfl):gv P s j o:=⟨fs,fd,h,h1,h2,h3⟩
theorem eu {M0 M1:Nat→Prop} {w0 w:World} {l:List Go.Ew.Item} {α:Type} [GT α] {a:OA} {c:Nat} {xs:List α} (H:HI M0 w0 w l) (h:RV M1 w (.slice a xs.length c) xs) (e:MS M0 l=M1:=by first|with_reducible rfl|(repeat first|rw[bS]|rw[aH rfl])):HI M0 w0 w (iL a xs c::l):=H.put (it:=iL a xs c) rfl (by rw[e];exact h)
noncomputable abbrev aJ:Program:=Tryz.prog
theorem aT {x:Int} (h:aL x:=by first|assumption|(unfold aL at *;omega)):aL x:=h
theorem ao_ {p:Prop} (h:p:=by first|omega|assumption|simp):p:=h
theorem aU {p:Prop} (h:p:=by kernel_rfl):p:=h
theorem bN {v:Value} {k:IntKind} {a b:Int} (h:v=.int k a) (e:a=b:=by first|rfl|omega|simp):v=.int k b:=e▸h
theorem dH {M0:Nat→Prop} {P:Program} {g:FuncId} {fn:Func} {c:Code} {args:Array Value} {w:World} {R:Value→World→Prop} (n:Nat) (hf:P.funcs[g]? =some fn) (hb:fn.body=some c) (hn:fn.ntmps=n) (ha:Nat.ble args.size n=true) (hM:∀b,M0 b→b<w.heap.size) (h:∀f:aP,(∀(i:Nat) {v:Value},args.toList[i]? =some v→f i=v)→HI M0 w w []→WC P n c (sj P n fn R) f w):Calls P g args w (cA R):=
  enter n hf hb hn ha fun f h1=>h f (fun i v hv=>by
    rw[an1] at hv
    obtain⟨h2,h3⟩:=am7.1 hv
    rw[←h3]
    exact h1 i h2) (HI.start hM)
theorem pI {w:World}:∀b,(fun _:Nat=>False) b→b<w.heap.size:=fun _ h=>h.elim
theorem Ed {F S:OA→Nat→Value} {D:Nat→Prop} {α:Type} [GT α] {X:List α}:r7 (fun N v w=>∃(a:OA) (c:Nat),v=F a c∧RV (MN D N) w (S a c) X):=
  ⟨by rintro _ _ _ _ x_ ⟨a,c,e_,r⟩;exact⟨a,c,e_,r.lift (Up.ext x_)⟩,by rintro _ _ _ _ _ k_ ⟨a,c,e_,r⟩;exact⟨a,c,e_,gZ r k_⟩⟩
theorem od {F S:OA→Nat→Value} {D:Nat→Prop} {α:Type} [GT α] {X:List α}:r7 (fun _ v w=>∃(a:OA) (c:Nat),v=F a c∧RV D w (S a c) X):=
  mN (by rintro _ _ _ x_ ⟨a,c,e_,r⟩;exact⟨a,c,e_,r.lift (Up.ext x_)⟩)
abbrev cL {α:Type} [GT α] (M:Nat→Prop) (w:World) (a:OA) (c:Nat) (l:List α):Prop:=RV M w (.slice a l.length c) l
abbrev eU (M:Nat→Prop) (w:World):Prop:=∀b,M b→b<w.heap.size
section
variable {P:Program} {n id:Nat} {l:List Oper} {y:Code} {Q:Exit→Act→World→Prop} {f:aP} {w:World} {ops:Array Oper}
theorem aq (h:WC P n y Q f w):WL P n ops (Exit.then (fun a w=>y.wp P Q a w) Q) [] f w:=z (nx h)
theorem az (h:WL P n l.toArray (Exit.then (fun a w=>y.wp P Q a w) Q) l f w):WC P n (.seq (.region id l.toArray false) y) Q f w:=sq (rg h)
theorem bz (h:WL P n l.toArray (Exit.then (fun a w=>y.wp P Q a w) Q) l f w):WL P n ops (Exit.then (fun a w=>(Code.seq (.region id l.toArray false) y).wp P Q a w) Q) [] f w:=z (nx (sq (rg h)))
section
variable {rest:List Oper} {d t j off bb:Nat} {dd:Option Nat} {x:Operand} {v z:Value} {ty T t2:TypeId} {ps:String} {af:Array Edge} {ad:Addr} {op:Op} {want b:Bool} {bytes:Nat} {cs:Array Value} {M0:Nat→Prop} {w0:World} {l:List Go.Ew.Item}
theorem bQ {ag:UN} {zk:ZK} {ks:List ZK} {ae:World→Prop} {K0:UN→aP→Prop} {rest:List Oper} {o:Oper} {w0:World} (h:PW P n ops w0 (fun f'=>PZ P n ops w0 ae K0 rest ks ag f') [o] f) (hz:J_ zk=true:=by exact rfl) (hf:(lg n o&&DM ops o ag)=true:=by exact rfl):PW P n ops w0 (fun f=>PZ P n ops w0 ae K0 (o::rest) (zk::ks) ag f) [] f:=zq (yq hz hf h)
theorem ai (ox:bJ n x=true) (hx:ev f x=v) (h:WL P n ops Q rest (cx f d v) w):WL P n ops Q (⟨some d,.move x,ty,ps,af,none⟩::rest) f w:=k (mv ox hx h)
theorem ak (ox:bJ n x=true) (hx:ev f x=v) (h:WL P n ops Q rest (cx f d v) w):WL P n ops Q (⟨some d,.assign x,ty,ps,af,none⟩::rest) f w:=k (jy ox hx h)
theorem aR (F:gv P T j off) (ox:bJ n x=true) (hx:ev f x=.pointer (some ad)) (h:WL P n ops Q rest (cx f d (.pointer (some (ad.add off)))) w):WL P n ops Q (⟨some d,.fieldAddr T x j,ty,ps,af,none⟩::rest) f w:=k (fa F ox hx h)
theorem aX (hj:xR ops j=some t) (ht:Nat.blt t n=true) (hv:f t=.bool b) (hb:b=!want) (h:WL P n ops Q rest (dh f dd undef) w):WL P n ops Q (⟨dd,op,ty,ps,af,some (j,want)⟩::rest) f w:=k (gn hj ht hv hb h)
theorem aQ (hj:xR ops j=some t) (ht:Nat.blt t n=true) (hv:f t=.bool b) (hb:b=want) (h:SO P n ops ⟨dd,op,ty,ps,af,none⟩ f w (WL P n ops Q rest)):WL P n ops Q (⟨dd,op,ty,ps,af,some (j,want)⟩::rest) f w:=k (gy hj ht hv hb h)
theorem bq (H:HI M0 w0 w l) (i:Nat) (hi:l[i]? =some (box bb cs t2)) (F:ey P T 1 false bytes z) (ox:bJ n x=true) (hx:ev f x=.pointer (some ⟨bb,off,none⟩)) (hl:((cs.toList.drop off).take 1).length=1) (h:WL P n ops Q rest (cx f d (sG false ((cs.toList.drop off).take 1))) w):WL P n ops Q (⟨some d,.load T x,ty,ps,af,none⟩::rest) f w:=k (lx H i hi F ox hx hl h)
end
theorem cV (h:WL P n l.toArray (Exit.then (fun a w=>y.wp P Q a w) Q) l f w):Exit.then (fun a w=>(Code.seq (.region id l.toArray false) y).wp P Q a w) Q .normal (cw n f) w:=nx (sq (rg h))
end
variable {M:cb} {w w_:aG}
variable {i n n1 fy fD gI mH mG nh mn j o vr tQ:Int} {x:bt} {jL wD wC mg bF dV aC aw ay y_ j3:OA} {jY wB wA mI dL qk ya bD aD aB av fc ax bO yU kx gb mw mx j1:Nat} {a b:List bt} {l xs fo rM kp:aA} {r:List Go.Ew.Item} {qq:List Value} {p:Int→Bool} {Hk Ki:TypeId} {mr:List (List bt)} {U:List aO} {met:List ((Int×Int)×Bool)}
theorem Dv:aJ.underlying 152=some (.int .u64):=aU
theorem B2:aJ.underlying 3=some (.int .i64):=aU
theorem Qq:cH aJ 127:=cN Tryz.func127
theorem WH:aJ.underlying 227=some (.array 64 5):=aU
theorem WQ:ey aJ 5 1 false 1 (.int .u8 0):=⟨aU,aU⟩
theorem WG:aJ.underlying 5=some (.int .u8):=aU
theorem aeS:cH aJ 157:=cN Tryz.func157
theorem ig:aJ.underlying 144=some (.slice 151):=aU
theorem XY:cH aJ 124:=cN Tryz.func124
theorem ft:ey aJ 151 1 false 8 (.int .u64 0):=⟨aU,aU⟩
theorem ae9:cH aJ 125:=cN Tryz.func125
theorem Qr:cH aJ 126:=cN Tryz.func126
theorem ae_:cH aJ 123:=cN Tryz.func123
theorem ae7:cH aJ 129:=cN Tryz.func129
theorem cS:aJ.underlying 27=some (.slice 3):=aU
theorem aS:ey aJ 3 1 false 8 (.int .i64 0):=⟨aU,aU⟩
theorem EP (qS:aL i):Calls aJ 127 #[I i] w (cA fun v w'=>v=ag (kh i)∧Ext w w'):=by
 refine dH 9 Tryz.func127 J J J pI fun f0 ha H=>?_
 have i0:f0 0=I i:=ha 0 bm
 refine az<|ak (v:=ag (0#64)) J J<|aq<|sq<|az<|ai J i0<|k<|OP J J B2 Dv<|k<|XR (BitVec.ofInt 64 i) (63#64) J J J J<|z<|nx<|cd (b:=decide ((63#64).toNat<(BitVec.ofInt 64 i).toNat)) J J (fun b0=>?_)<|fun b0=>?_
 ·
  have p0:=dT b0
  refine az<|ak (v:=ag (0#64)) J J<|aq<|rt<|aK<|r1 J J ?_
  exact⟨amz ag (by exact Z5 qS p0),H.below⟩
 have p0:=dF b0
 refine sk<|cV<|ai J i0<|k<|OP J J B2 Dv<|k<|aaE (1#64) ((BitVec.ofInt 64 i).toNat:Int) aj J J J J<|ak (v:=ag ((1#64) <<< ((BitVec.ofInt 64 i).toNat:Int).toNat)) J J<|aq<|rt<|r1 J J ?_
 exact⟨amz ag (by exact Z4 qS p0),H.below⟩
theorem T9 (qS:aL i):Calls aJ 125 #[ag x,I i] w (cA fun v w'=>v=.bool (xM x i)∧Ext w w'):=by
 refine dH 10 Tryz.func125 J J J pI fun f0 ha H=>?_
 have i0:f0 0=ag x:=ha 0 bm
 have i1:f0 1=I i:=ha 1 bm
 refine az<|ak (v:=.bool false) J J<|bz<|ai J i0<|ai J i1<|k ?_
 have bT:=EP (i:=i) (w:=w) qS
 refine ca Qq J (ec J e0) bT ?_
 rintro _ w0 ⟨rfl,bY⟩
 have H0:=H.ext bY
 refine k<|Dc x (kh i) J J J J<|k<|neU (x &&& (kh i)) (0#64) J J J J<|ak (v:=.bool (!decide ((x &&& (kh i))=(0#64)))) J J<|aq<|rt<|r1 J J ?_
 exact⟨amz Value.bool (by exact Zu _ _),H0.below⟩
theorem Yr (hT:fW 0 w):Calls aJ 157 #[ag x] w (cA fun v w'=>v=I ((fG x:Nat):Int)∧Ext w w'):=by
 refine dH 14 Tryz.func157 J J J pI fun f0 ha H=>?_
 have i0:f0 0=ag x:=ha 0 bm
 refine az<|ak (v:=I 0) J J<|aq<|sq<|az<|ai J i0<|k<|eqU x (0#64) J J J J<|z<|nx<|cd (b:=decide (x=(0#64))) J J (fun b0=>?_)<|fun b0=>?_
 ·
  have p0:=dT b0
  refine az<|ak (v:=I 64) J J<|aq<|rt<|aK<|r1 J J ?_
  exact⟨amz (Value.int .i64) (by have e_:=p0;subst e_;rw[Ep];rfl),H.below⟩
 have p0:=dF b0
 refine sk<|cV<|ai J i0<|ai J i0<|k<|aa_ x J J<|k<|Dc x (-x) J J J J<|k<|Fc (x &&& (-x)) (285870213051353865#64) J J J J<|k<|Dw ((x &&& (-x))*(285870213051353865#64)) 58 J J J J<|k<|ahn (i:=(((x &&& (-x))*(285870213051353865#64)) >>> 58).toNat) J J J J (by exact EL (by simpa using p0)) WH WQ<|k<|ld8 (ag9 (M:=fun _=>False) hT H.below J<|by exact EL (by simpa using p0)) WQ J J<|k<|cvI J J aT WG B2<|ak (v:=I ((vM (((x &&& (-x))*(285870213051353865#64)) >>> 58).toNat).toNat:Int)) J J<|aq<|rt<|r1 J J ?_
 exact⟨amz (Value.int .i64) (by exact T7 (by simpa using p0)),H.below⟩
theorem O_ (hT:fW 0 w):Calls aJ 129 #[ag x] w (cA fun v w'=>v=I ((fG x:Nat):Int)∧Ext w w'):=by
 refine dH 5 Tryz.func129 J J J pI fun f0 ha H=>?_
 have i0:f0 0=ag x:=ha 0 bm
 refine az<|ak (v:=I 0) J J<|bz<|ai J i0<|k ?_
 have bT:=Yr (x:=x) (w:=w)<|hT.ext H.below
 refine ca aeS J (ec J e0) bT ?_
 rintro _ w0 ⟨rfl,bY⟩
 have H0:=H.ext bY
 refine ak (v:=I ((fG x:Nat):Int)) J J<|aq<|rt<|r1 J J ?_
 exact⟨J,H0.below⟩
theorem Rl {r:List bt} (hM:eU M w) (pM:cL M w jL jY r) (qS:aL i):Calls aJ 124 #[sL jL r jY,I i] w (cA fun v w'=>v=.bool (jr r i)∧Ext w w'):=by
 refine dH 14 Tryz.func124 J J J hM fun f0 ha H=>?_
 have H0:=eu H pM
 have U6:=bl pM
 have i0:f0 0=sL jL r jY:=ha 0 bm
 have i1:f0 1=I i:=ha 1 bm
 refine az<|ak (v:=.bool false) J J<|bz<|ai J i1<|k<|geq J J J J<|ai (v:=.bool (decide (0≤i))) J J ?_
 rcases bE (decide (0≤i)) with b0|b0
 ·
  have p0:=dT b0
  refine aQ J J J b0<|mv J i1<|aQ J J J b0<|KC J J J J<|aQ J J J b0<|mv J i0<|aQ J J J b0<|ef J J ig<|aQ J J J b0<|lss J J J J<|k<|aN J J J J b0 J<|ak (v:=.bool (decide ((i/64)<(r.length:Int)))) J J<|aq<|rt<|r1 J J ?_
  exact⟨amz Value.bool (by exact Zr p0),H0.below⟩
 have p0:=dF b0
 refine aX J J J b0<|aX J J J b0<|aX J J J b0<|aX J J J b0<|aX J J J b0<|k<|cZ J J J J b0 J<|ak (v:=.bool false) J J<|aq<|rt<|r1 J J ?_
 exact⟨amz Value.bool (by exact abx aj),H0.below⟩
theorem zQ {r:List bt} (hM:eU M w) (pM:cL M w jL jY r) (qS:aL i):Calls aJ 85 #[sL jL r jY,I i] w (cA fun v w'=>v=.bool (fm r i)∧Ext w w'):=by
 refine dH 18 Tryz.func85 J J J hM fun f0 ha H=>?_
 have H0:=eu H pM
 have i0:f0 0=sL jL r jY:=ha 0 bm
 have i1:f0 1=I i:=ha 1 bm
 refine az<|ak (v:=.bool false) J J<|bz<|ai J i0<|ai J i1<|k ?_
 have bT:=Rl (r:=r) (i:=i) H0.mb (H0.rv 0 J) qS
 refine ca XY J (ec J<|ec J e0) bT ?_
 rintro _ w0 ⟨rfl,bY⟩
 have H1:=H0.ext bY
 refine ai (v:=.bool (jr r i)) J J ?_
 rcases bE (jr r i) with b0|b0
 ·
  refine aQ J J J b0<|mv J i0<|aQ J J J b0<|mv J i1<|aQ J J J b0<|KC J J J J<|aQ J J J b0<|ia (H1.rv 0 J) J J J J (by have hb:=b0;unfold jr at hb;simp only[amB] at hb;omega) ig ft ?_
  intro iE x0 aI cD
  refine aQ J J J b0<|yF cD.w ft J J<|aQ J J J b0<|mv J i1<|aQ J J J b0<|JY J J J J<|aQ J J J b0 ?_
  have dq:=T9 (x:=x0) (i:=(i%64)) (w:=w0) aT
  refine ca ae9 J (ec J<|ec J e0) dq ?_
  rintro _ w1 ⟨rfl,dy⟩
  have H2:=H1.ext dy
  refine k<|aN J J J J b0 J<|ak (v:=.bool (xM x0<|i%64)) J J<|aq<|rt<|r1 J J ?_
  exact⟨amz Value.bool (by exact Zx b0 aI),H2.below⟩
 refine aX J J J b0<|aX J J J b0<|aX J J J b0<|aX J J J b0<|aX J J J b0<|aX J J J b0<|aX J J J b0<|aX J J J b0<|k<|cZ J J J J b0 J<|ak (v:=.bool false) J J<|aq<|rt<|r1 J J ?_
 exact⟨amz Value.bool (by exact xN b0),H1.below⟩
theorem C8 {r:List bt} (hM:eU M w) (pM:cL M w jL jY r) (Vo:r.length≤1000000000):Calls aJ 126 #[sL jL r jY] w (cA fun v w'=>∃(a0:OA) (c0:Nat),v=sL a0 r c0∧Ext w w'∧bj M 151 w r (sL a0 r c0) w'):=by
 refine dH 8 Tryz.func126 J J J hM fun f0 ha H=>?_
 have H0:=eu H pM
 have i0:f0 0=sL jL r jY:=ha 0 bm
 refine az<|ak (v:=.slice none 0 0) J J<|aq<|sq<|az<|ai J i0<|k<|S9 J J J J ig<|z<|nx<|cd (b:=jL.isNone) J J (fun b0=>?_)<|fun b0=>?_
 ·
  refine az<|ak (v:=.slice none 0 0) J J<|aq<|rt<|aK<|r1 J J ?_
  have e0:([]:List bt)=r:=by exact(Hp pM b0).symm
  have bu:=iD (fun (cq:List bt)=>(.slice none cq.length 0:Value)) e0
  exact⟨none,0,bu,H0.below,(amz (fun (x_:List bt)=>bj _ _ _ x_ (.slice none x_.length 0) _) e0).mp (fU H0.below)⟩
 refine sk<|cV<|k<|bs (xs:=([]:List bt)) (cells:=#[]) (e:=151) H0 J eI (fun _=>aU) J J au ?_
 intro g0 w0 bY H1
 refine ai J i0<|k<|me H1 0 J J J J J J (H1.rv 1 J).src ig ft J (by simp;omega) J ?_
 intro a0 c0 w1 (H2:HI M w w1 [oL w 151 a0 r c0,iL jL r jY])
 refine ak (v:=sL a0 r c0) J J<|aq<|rt<|r1 J J ?_
 exact⟨a0,c0,J,H2.below,(H2.du 0 J)⟩
theorem ur {r:List bt} (hM:eU M w) (pM:cL M w jL jY r) (qS:aL i) (Vo:r.length≤1000000000):Calls aJ 86 #[sL jL r jY,I i] w (cA fun v w'=>∃(a0:OA) (c0:Nat),v=.slice a0 (eo r i).length c0∧Ext w w'∧bj M 151 w (eo r i) (.slice a0 (eo r i).length c0) w'):=by
 refine dH 22 Tryz.func86 J J J hM fun f0 ha H=>?_
 have H0:=eu H pM
 have i0:f0 0=sL jL r jY:=ha 0 bm
 have i1:f0 1=I i:=ha 1 bm
 refine az<|ak (v:=.slice none 0 0) J J<|bz<|ai J i0<|k ?_
 have bT:=C8 (r:=r) H0.mb (H0.rv 0 J) aj
 refine ca Qr J (ec J e0) bT ?_
 rintro _ w0 ⟨a0,c0,rfl,bY,cE⟩
 have H1:=H0.eS cE
 refine ak (v:=sL a0 r c0) J J<|aq<|sq<|az<|ai J i0<|ai J i1<|k ?_
 have dq:=Rl (r:=r) (i:=i) H1.mb (H1.rv 1 J) qS
 refine ca XY J (ec J<|ec J e0) dq ?_
 rintro _ w1 ⟨rfl,dy⟩
 have H2:=H1.ext dy
 refine z<|nx<|cd (b:=jr r i) J J (fun b0=>?_)<|fun b0=>?_
 ·
  refine ma [.r,.r,.r,.r,.r,.r,.r,.r,.r,.e,.e] (fun _=>True) J aU (fun _ _=>trivial)<|yq J J<|kq (fun _ _=>mv (v:=sL a0 r c0) J J e1)<|bQ<|kq (fun _ _=>mv J i1 e1)<|bQ<|kq (fun _ _=>KC J J J J e1)<|bQ<|th (H2.at_ 0 J) J J J J (by have hb:=b0;unfold jr at hb;simp only[amB] at hb;omega) ig ft ?_
  intro iE x0 aI cD
  refine bQ<|aeq cD ft J J<|bQ<|kq (fun _ _=>mv J i1 e1)<|bQ<|kq (fun _ _=>JY J J J J e1)<|zq<|yq J J<|kq (v:=ag (kh<|i%64)) (fun v_ _=>have cc:=EP (i:=(i%64)) (w:=v_) aT;ca Qq rfl (ec J e0) cc fun _ _ h_=>e2 h_)<|bQ<|kq (fun _ _=>RM x0 (kh<|i%64) J J J J e1)<|zq<|ye<|ye<|yz ?_
  intro w2 f0 _ fe _ _ cK iK
  have H3:=H2.ext fe
  have s0:=cK 5 J
  have s1:=cK 11 J
  have s2:=cK 13 J
  have s3:=cK 19 J
  refine j8<|iq (H3.at_ 0 J) J J s1 s2 (by have hb:=b0;unfold jr at hb;simp only[amB] at hb;omega) ig ft ?_
  intro g0 x1 iC bV gG
  refine j8<|qf H3 0 J iC J (by have hb:=b0;unfold jr at hb;simp only[amB] at hb;omega) ft J J J s3 (RV.bv.2 J) ?_
  intro w3 (H4:HI M w w3 [own w.heap.size 151 (.slice a0 r.length c0) (r.set ((i/64).toNat) (x0 ||| (kh (i%64)))),iL jL r jY])
  refine kz<|cV<|ai J s0<|ak (v:=sL a0 r c0) J J<|aq<|rt<|r1 J J ?_
  have e0:(r.set ((i/64).toNat) (x0 ||| (kh (i%64))):List bt)=eo r i:=by exact NJ b0 aI
  have l0:r.length=(eo r i).length:=by rw[←e0];simp
  have bu:=iD (fun (va:Nat)=>(.slice a0 va c0:Value)) l0
  exact⟨a0,c0,bu,H4.below,(amz (fun (n_:Nat)=>bj _ _ _ (eo r i) (.slice a0 n_ c0) _) l0).mp ((amz (fun (x_:List bt)=>bj _ _ _ x_ (.slice a0 r.length c0) _) e0).mp (H4.du 0 J))⟩
 refine sk<|cV<|ai (v:=sL a0 r c0) J J<|ak (v:=sL a0 r c0) J J<|aq<|rt<|r1 J J ?_
 have e0:(r:List bt)=eo r i:=by exact EV b0
 have bu:=iD (fun (cq:List bt)=>(.slice a0 cq.length c0:Value)) e0
 exact⟨a0,c0,bu,H2.below,(amz (fun (x_:List bt)=>bj _ _ _ x_ (.slice a0 x_.length c0) _) e0).mp (H2.du 0 J)⟩
theorem Rm (LW:aL n) (hn:n≤1000000000000000000):Calls aJ 123 #[I n] w (cA fun v w'=>v=I ((words n:Nat):Int)∧Ext w w'):=by
 refine dH 8 Tryz.func123 J J J pI fun f0 ha H=>?_
 have i0:f0 0=I n:=ha 0 bm
 refine az<|ak (v:=I 0) J J<|bz<|ai J i0<|k<|max2 J J J J<|k<|add J J J J aT<|k<|sub J J J J aT<|k<|quo J J J J aj<|ak (v:=I ((((max n 0)+64)-1)/64)) J J<|aq<|rt<|r1 J J ?_
 exact⟨amz (Value.int .i64) (by unfold words;omega),H.below⟩
theorem Dy (hM:eU M w) (LW:aL n) (hn:n≤1000000):Calls aJ 84 #[I n] w (cA fun v w'=>∃(a0:OA) (c0:Nat),v=.slice a0 (eb n).length c0∧Ext w w'∧bj M 151 w (eb n) (.slice a0 (eb n).length c0) w'):=by
 refine dH 6 Tryz.func84 J J J hM fun f0 ha H=>?_
 have i0:f0 0=I n:=ha 0 bm
 refine az<|ak (v:=.slice none 0 0) J J<|bz<|ai J i0<|k ?_
 have bT:=Rm (n:=n) (w:=w) LW aj
 refine ca ae_ J (ec J e0) bT ?_
 rintro _ w0 ⟨rfl,bY⟩
 have H0:=H.ext bY
 refine k<|mk (m:=(words n:Nat)) (zx:=(0#64:bt)) H0 J J J J ig ft (fun _ _=>rfl) (by unfold words;omega) (by unfold words;omega) ?_
 intro g0 w1 dy (H1:HI M w w1 [own w.heap.size 151 (.slice (some ⟨g0,0,none⟩) (words n:Nat) (words n:Nat)) (List.replicate (words n:Nat) (0#64:bt))])
 refine ak (v:=.slice (some ⟨g0,0,none⟩) (words n:Nat) (words n:Nat)) J J<|aq<|rt<|r1 J J ?_
 have e0:((List.replicate (words n:Nat) (0#64:bt)):List bt)=eb n:=by unfold eb;rfl
 have l0:(words n:Nat)=(eb n).length:=by rw[←e0];simp
 have bu:=iD (fun (va:Nat)=>(.slice (some ⟨g0,0,none⟩) va (words n:Nat):Value)) l0
 exact⟨(some ⟨g0,0,none⟩),(words n:Nat),bu,H1.below,(amz (fun (n_:Nat)=>bj _ _ _ (eb n) (.slice (some ⟨g0,0,none⟩) n_ (words n:Nat)) _) l0).mp ((amz (fun (x_:List bt)=>bj _ _ _ x_ (.slice (some ⟨g0,0,none⟩) (words n:Nat) (words n:Nat)) _) e0).mp (H1.du 0 J))⟩
theorem aaO (hM:eU M w) (SF:cL M w wD wB a) (CT:cL M w wC wA b) (ahM:a.length≤1000000000) (alI:b.length≤1000000000):Calls aJ 135 #[sL wD a wB,sL wC b wA] w (cA fun v w'=>∃(a0:OA) (c0:Nat),v=.slice a0 (jJ a b).length c0∧Ext w w'∧bj M 151 w (jJ a b) (.slice a0 (jJ a b).length c0) w'):=by
 refine dH 33 Tryz.func135 J J J hM fun f0 ha H=>?_
 have H0:=eu H SF
 have H1:=eu H0 CT
 have ahl:=bl SF
 have ahk:=bl CT
 have i0:f0 0=sL wD a wB:=ha 0 bm
 have i1:f0 1=sL wC b wA:=ha 1 bm
 refine az<|ak (v:=.slice none 0 0) J J<|aq<|sq<|az<|ai J i0<|k<|ef J J ig<|ai J i1<|k<|ef J J ig<|k<|lss J J J J<|z<|nx<|cd (b:=decide ((a.length:Int)<(b.length:Int))) J J (fun b0=>?_)<|fun b0=>?_
 ·
  have p0:=dT b0
  refine rg<|ai J i1<|ai J i0<|ak (v:=sL wC b wA) J J<|ak (v:=sL wD a wB) J J<|bz<|ai (v:=sL wC b wA) J J<|k ?_
  have bT:=C8 (r:=b) H1.mb (H1.rv 0 J) aj
  refine ca Qr J (ec J e0) bT ?_
  rintro _ w0 ⟨a0,c0,rfl,bY,cE⟩
  have H2:=H1.eS cE
  refine ak (v:=sL a0 b c0) J J<|aq<|sq<|az<|ai (v:=sL wD a wB) J J<|k<|ef J J ig<|ai (v:=I 0) J J<|aq<|bk<|lp (fun m f w'=>∃(j:Nat) (xs:List bt),m=a.length-j∧f 5=sL a0 b c0∧f 17=sL wD a wB∧f 18=I (a.length:Int)∧f 19=I (j:Int)∧HI M w w' [own w.heap.size 151 (.slice a0 b.length c0) xs,iL wC b wA,iL wD a wB]∧(j≤a.length)∧(xs.length=b.length)∧(xs=qa b.length b a b j)) _ ⟨0,b,J,J,J,J,(bN J),H2,aj,(by rfl),(by exact Cs _ _ _)⟩ ?_
  rintro _ f0 w1 ⟨j,xs,rfl,s0,s1,s2,s3,H3,hk,hl,hs⟩
  refine az<|k<|lss J J s3 s2<|aq<|sq<|cd (b:=decide ((j:Int)<(a.length:Int))) J J (fun b1=>?_)<|fun b1=>?_
  ·
   have p1:=dT b1
   refine sk<|nx<|sq<|bk<|az<|ai J s3<|k<|ia (H3.rv 2 J) J J s1 s3 aj ig ft ?_
   intro iE x0 aI cD
   refine k<|yF cD.w ft J J<|ak (v:=I (j:Int)) J J<|ak (v:=ag x0) J J<|aq<|rg<|ai J s0<|ai (v:=I (j:Int)) J J<|k<|iq (H3.at_ 0 J) J J J J aj ig ft ?_
   intro g0 x1 iC bV gG
   refine k<|yF gG ft J J<|ai (v:=ag x0) J J<|k<|RM x1 x0 J J J J<|k<|iq (H3.at_ 0 J) J J J J aj ig ft ?_
   intro g1 x2 kN jb kB
   refine k<|qf H3 0 J kN J aj ft J J J J (RV.bv.2 J) ?_
   intro w2 (H4:HI M w w2 [own w.heap.size 151 (.slice a0 b.length c0) (xs.set ((j:Int).toNat) (x1 ||| x0)),iL wC b wA,iL wD a wB])
   refine z<|aF<|nx<|rg<|k<|add J J s3 J aT<|ai (v:=I ((j:Int)+1)) J J<|z<|bG _ ?_ ⟨(j+1),(xs.set ((j:Int).toNat) (x1 ||| x0)),J,s0,s1,s2,(bN J),H4,aj,(by simpa using hl),(by have e1:=AW (hs▸bV);have e2:=wY aI;rw[hs];exact E8 (by rw[e1];unfold tl;rw[e2]))⟩
   omega
  have p1:=dF b1
  refine ex<|aV<|bf<|bh<|cV<|ai J s0<|ak (v:=sL a0 b c0) J J<|aq<|rt<|r1 J J ?_
  have e0:(xs:List bt)=jJ a b:=by rw[hs];first|exact xA aj (fun i h1 h2=>yw aj)|(rw[K4];exact xA aj (fun i h1 h2=>yw aj))
  have l0:b.length=(jJ a b).length:=by rw[←e0];omega
  have bu:=iD (fun (va:Nat)=>(.slice a0 va c0:Value)) l0
  exact⟨a0,c0,bu,H3.below,(amz (fun (n_:Nat)=>bj _ _ _ (jJ a b) (.slice a0 n_ c0) _) l0).mp ((amz (fun (x_:List bt)=>bj _ _ _ x_ (.slice a0 b.length c0) _) e0).mp (H3.du 0 J))⟩
 have p0:=dF b0
 refine sk<|cV<|ai J i0<|k ?_
 have bT:=C8 (r:=a) H1.mb (H1.rv 1 J) aj
 refine ca Qr J (ec J e0) bT ?_
 rintro _ w0 ⟨a0,c0,rfl,bY,cE⟩
 have H2:=H1.eS cE
 refine ak (v:=sL a0 a c0) J J<|aq<|sq<|az<|ai J i1<|k<|ef J J ig<|ai (v:=I 0) J J<|aq<|bk<|lp (fun m f w'=>∃(j:Nat) (xs:List bt),m=b.length-j∧f 5=sL a0 a c0∧f 17=sL wC b wA∧f 18=I (b.length:Int)∧f 19=I (j:Int)∧HI M w w' [own w.heap.size 151 (.slice a0 a.length c0) xs,iL wC b wA,iL wD a wB]∧(j≤b.length)∧(xs.length=a.length)∧(xs=qa a.length a b a j)) _ ⟨0,a,J,J,J,J,(bN J),H2,aj,(by rfl),(by exact Cs _ _ _)⟩ ?_
 rintro _ f0 w1 ⟨j,xs,rfl,s0,s1,s2,s3,H3,hk,hl,hs⟩
 refine az<|k<|lss J J s3 s2<|aq<|sq<|cd (b:=decide ((j:Int)<(b.length:Int))) J J (fun b1=>?_)<|fun b1=>?_
 ·
  have p1:=dT b1
  refine sk<|nx<|sq<|bk<|az<|ai J s3<|k<|ia (H3.rv 1 J) J J s1 s3 aj ig ft ?_
  intro iE x0 aI cD
  refine k<|yF cD.w ft J J<|ak (v:=I (j:Int)) J J<|ak (v:=ag x0) J J<|aq<|rg<|ai J s0<|ai (v:=I (j:Int)) J J<|k<|iq (H3.at_ 0 J) J J J J aj ig ft ?_
  intro g0 x1 iC bV gG
  refine k<|yF gG ft J J<|ai (v:=ag x0) J J<|k<|RM x1 x0 J J J J<|k<|iq (H3.at_ 0 J) J J J J aj ig ft ?_
  intro g1 x2 kN jb kB
  refine k<|qf H3 0 J kN J aj ft J J J J (RV.bv.2 J) ?_
  intro w2 (H4:HI M w w2 [own w.heap.size 151 (.slice a0 a.length c0) (xs.set ((j:Int).toNat) (x1 ||| x0)),iL wC b wA,iL wD a wB])
  refine z<|aF<|nx<|rg<|k<|add J J s3 J aT<|ai (v:=I ((j:Int)+1)) J J<|z<|bG _ ?_ ⟨(j+1),(xs.set ((j:Int).toNat) (x1 ||| x0)),J,s0,s1,s2,(bN J),H4,aj,(by simpa using hl),(by have e1:=AW (hs▸bV);have e2:=wY aI;rw[hs];exact E8 (by rw[e1];unfold tl;rw[e2]))⟩
  omega
 have p1:=dF b1
 refine ex<|aV<|bf<|bh<|cV<|ai J s0<|ak (v:=sL a0 a c0) J J<|aq<|rt<|r1 J J ?_
 have e0:(xs:List bt)=jJ a b:=by rw[hs];first|exact xA aj (fun i h1 h2=>yw aj)|(rw[K4];exact xA aj (fun i h1 h2=>yw aj))
 have l0:a.length=(jJ a b).length:=by rw[←e0];omega
 have bu:=iD (fun (va:Nat)=>(.slice a0 va c0:Value)) l0
 exact⟨a0,c0,bu,H3.below,(amz (fun (n_:Nat)=>bj _ _ _ (jJ a b) (.slice a0 n_ c0) _) l0).mp ((amz (fun (x_:List bt)=>bj _ _ _ x_ (.slice a0 a.length c0) _) e0).mp (H3.du 0 J))⟩
theorem uu {r:List bt} (hM:eU M w) (hT:fW 0 w) (pM:cL M w jL jY r) (Vo:r.length≤1000000000):Calls aJ 89 #[sL jL r jY] w (cA fun v w'=>∃(a0:OA) (c0:Nat),v=.slice a0 (de r).length c0∧Ext w w'∧bj M 3 w (de r) (.slice a0 (de r).length c0) w'):=by
 refine dH 29 Tryz.func89 J J J hM fun f0 ha H=>?_
 have H0:=eu H pM
 have U6:=bl pM
 have i0:f0 0=sL jL r jY:=ha 0 bm
 refine az<|ak (v:=.slice none 0 0) J J<|bz<|ak (v:=.slice none 0 0) J J<|aq<|sq<|az<|ai J i0<|k<|ef J J ig<|ai (v:=I 0) J J<|aq<|bk ?_
 have H1:=H0.rB Int 3
 refine lp (fun m f w'=>∃(j:Nat) (xs:aA) (a0:OA) (c0:Nat),m=r.length-j∧f 3=sL a0 xs c0∧f 6=sL jL r jY∧f 7=I (r.length:Int)∧f 8=I (j:Int)∧HI M w w' [oL w 3 a0 xs c0,iL jL r jY]∧(j≤r.length)∧(xs=rL r j)) _ ⟨0,([]:aA),none,0,J,J,J,J,(bN J),H1,aj,(by rfl)⟩ ?_
 rintro _ f0 w0 ⟨j,xs,a0,c0,rfl,s0,s1,s2,s3,H2,hk,hs⟩
 refine az<|k<|lss J J s3 s2<|aq<|sq<|cd (b:=decide ((j:Int)<(r.length:Int))) J J (fun b0=>?_)<|fun b0=>?_
 ·
  have p0:=dT b0
  refine sk<|nx<|sq<|bk<|az<|ai J s3<|k<|ia (H2.rv 1 J) J J s1 s3 aj ig ft ?_
  intro iE x0 aI cD
  refine k<|yF cD.w ft J J<|ak (v:=I (j:Int)) J J<|ak (v:=ag x0) J J<|aq<|bk<|lp (fun m f w'=>∃(y:bt) (ys:aA) (a1:OA) (c1:Nat),m=(oF y).length∧f 3=sL a1 ys c1∧f 4=I (j:Int)∧f 5=ag y∧f 6=sL jL r jY∧f 7=I (r.length:Int)∧f 8=I (j:Int)∧HI M w w' [oL w 3 a1 ys c1,iL jL r jY]∧(ys++qh j y=rL r j++qh j x0)) _ ⟨x0,xs,a0,c0,J,s0,J,(Nx J<|by rfl),s1,s2,s3,H2,(by rw[hs])⟩ ?_
  rintro _ f1 w1 ⟨y,ys,a1,c1,rfl,s4,s5,s6,s7,s8,s9,H3,hy⟩
  refine sq<|az<|ai J s6<|k<|neU y (0#64) J J J J<|z<|nx<|cd (b:=!decide (y=(0#64))) J J (fun b1=>?_)<|fun b1=>?_
  ·
   have p1:=dF<|fX b1
   refine sk<|nx<|sq<|bk<|rg<|ai J s4<|ai J s5<|k<|mul J J J J (by have h_:=yQ y;unfold aL;omega)<|ai J s6<|k ?_
   have bT:=O_ (x:=y) (w:=w1)<|hT.ext H3.below
   refine ca ae7 J (ec J e0) bT ?_
   rintro _ w2 ⟨rfl,bY⟩
   have H4:=H3.ext bY
   refine k<|add J J J J (by have h_:=yQ y;unfold aL;omega)<|k<|bs (xs:=([((j:Int)*64)+((fG y:Nat):Int)]:aA)) (cells:=#[I (((j:Int)*64)+((fG y:Nat):Int))]) (e:=3) H4 J (cz J eI) (fun _=>aU) ⟨[I (((j:Int)*64)+((fG y:Nat):Int))],[],J,⟨J,(show aL (((j:Int)*64)+((fG y:Nat):Int)) from(by have h_:=yQ y;unfold aL;omega))⟩,J⟩ J au ?_
   intro g0 w3 dy H5
   refine k<|me H5 1 J J J J J J (ib<|H5.at_ 0 J) cS aS J (by have h_:=amz List.length hy;simp only[fN] at h_;have h1:=vS r j;have h2:=CC j x0;simp only[iB,gj];omega) J ?_
   intro a2 c2 w4 (H6:HI M w w4 [own w.heap.size 3 (.slice (some ⟨g0,0,none⟩) 1 1) ([((j:Int)*64)+((fG y:Nat):Int)]:aA),oL w 3 a2 (ys++([((j:Int)*64)+((fG y:Nat):Int)]:aA)) c2,iL jL r jY])
   refine ak (v:=sL a2 (ys++([((j:Int)*64)+((fG y:Nat):Int)]:aA)) c2) J J<|z<|aF<|nx<|rg<|ai J s6<|ai J s6<|k<|aax y (1#64) J J J J<|k<|Dc y (y-(1#64)) J J J J<|ak (v:=ag (y &&& (y-(1#64)))) J J<|z ?_
   have H7:HI M w w4 [oL w 3 a2 (ys++([((j:Int)*64)+((fG y:Nat):Int)]:aA)) c2,iL jL r jY]:=H6.bZ [1,2] au J
   refine bG _ ?_ ⟨(y &&& (y-(1#64))),(ys++([((j:Int)*64)+((fG y:Nat):Int)]:aA)),a2,c2,J,J,s5,(Nx J<|by rfl),s7,s8,s9,H7,(by rw[anb,←hy,P1 (show y≠0#64 by simpa using p1)];rfl)⟩
   exact QH<|by simpa using p1
  have p1:=dT<|fl b1
  refine ex<|aV<|bf<|bh<|aF<|nx<|rg<|k<|add J J s9 J (by have h_:=yQ y;unfold aL;omega)<|ai (v:=I ((j:Int)+1)) J J<|z<|bG _ ?_ ⟨(j+1),ys,a1,c1,J,s4,s7,s8,(bN J),H3,aj,(by rw[zj,wY aI];have e_:y=0#64:=(by simpa using p1);subst e_;rw[P0,anR] at hy;exact hy)⟩
  omega
 have p0:=dF b0
 refine ex<|aV<|bf<|bh<|cV<|ai J s0<|ak (v:=sL a0 xs c0) J J<|aq<|rt<|r1 J J ?_
 have e0:(xs:aA)=de r:=by rw[hs];unfold de;congr 1;omega
 have bu:=iD (fun (cq:aA)=>(.slice a0 cq.length c0:Value)) e0
 exact⟨a0,c0,bu,H2.below,(amz (fun (x_:aA)=>bj _ _ _ x_ (.slice a0 x_.length c0) _) e0).mp (H2.du 0 J)⟩
theorem XU:cH aJ 141:=cN Tryz.func141
theorem kQ:gv aJ 122 0 0:=js Tryz.underlying122
theorem Qu:cH aJ 105:=cN Tryz.func105
theorem mL:gv aJ 122 1 1:=js Tryz.underlying122
theorem sO:gv aJ 122 2 2:=js Tryz.underlying122
theorem afh:cH aJ 104:=cN Tryz.func104
theorem I8 (acw:aL n1):Calls aJ 141 #[I n1] w (cA fun v w'=>v=.bool false∧Ext w w'):=by
 refine dH 6 Tryz.func141 J J J pI fun f0 ha H=>?_
 have i0:f0 0=I n1:=ha 0 bm
 refine az<|ak (v:=.bool false) J J<|bz<|ai J i0<|ai J i0<|k<|neq J J J J<|ak (v:=.bool (!decide (n1=n1))) J J<|aq<|rt<|r1 J J ?_
 exact⟨amz Value.bool bm,H.below⟩
theorem zw {n2:Int} (acw:aL n1) (ahX:aL n2):Calls aJ 105 #[I n1,I n2] w (cA fun v w'=>v=I (fH n1 n2)∧Ext w w'):=by
 refine dH 20 Tryz.func105 J J J pI fun f0 ha H=>?_
 have i0:f0 0=I n1:=ha 0 bm
 have i1:f0 1=I n2:=ha 1 bm
 refine az<|ak (v:=I 0) J J<|bz<|ai J i0<|k ?_
 have bT:=I8 (n1:=n1) (w:=w) acw
 refine ca XU J (ec J e0) bT ?_
 rintro _ w0 ⟨rfl,bY⟩
 have H0:=H.ext bY
 refine ak (v:=.bool false) J J<|bz<|ai J i1<|k ?_
 have dq:=I8 (n1:=n2) (w:=w0) ahX
 refine ca XU J (ec J e0) dq ?_
 rintro _ w1 ⟨rfl,dy⟩
 have H1:=H0.ext dy
 refine ak (v:=.bool false) J J<|aq<|sq<|az<|ai (v:=.bool false) J J<|aq<|nU J J J<|sk<|nx<|sq<|az<|ai (v:=.bool false) J J<|aq<|nU J J J<|sk<|nx<|sq<|az<|ai J i0<|ai J i1<|k<|lss J J J J<|z<|nx<|cd (b:=decide (n1<n2)) J J (fun b0=>?_)<|fun b0=>?_
 ·
  refine az<|ak (v:=I (-1)) J J<|aq<|rt<|aK<|r1 J J ?_
  exact⟨amz (Value.int .i64) (by simp only[fH,b0,BL]),H1.below⟩
 refine sk<|nx<|sq<|az<|ai J i0<|ai J i1<|k<|gtr J J J J<|z<|nx<|cd (b:=decide (n2<n1)) J J (fun b1=>?_)<|fun b1=>?_
 ·
  refine az<|ak (v:=I 1) J J<|aq<|rt<|aK<|r1 J J ?_
  exact⟨amz (Value.int .i64) (by simp only[fH,b0,b1,BL]),H1.below⟩
 refine sk<|cV<|ak (v:=I 0) J J<|aq<|rt<|r1 J J ?_
 exact⟨amz (Value.int .i64) (by simp only[fH,b0,b1,BL]),H1.below⟩
theorem adi (hM:eU M w) (xO:cL M w mg mI l):Calls aJ 104 #[sL mg l mI] w (cA fun v w'=>v=I (Ct l)∧Ext w w'):=by
 refine dH 18 Tryz.func104 J J J hM fun f0 ha H=>?_
 have H0:=eu H xO
 have abn:=bl xO
 have i0:f0 0=sL mg l mI:=ha 0 bm
 refine az<|ak (v:=I 0) J J<|bz<|ak (v:=I 0) J J<|aq<|sq<|az<|ai J i0<|k<|ef J J cS<|ai (v:=I 0) J J<|aq<|bk<|lp (fun m f w'=>∃(j_:Nat),m=l.length-j_∧f 3=I 0∧f 6=sL mg l mI∧f 7=I (l.length:Int)∧f 8=I (j_:Int)∧HI M w w' [iL mg l mI]∧(j_≤l.length)∧(∀y∈l.take j_,y=0)) _ ⟨0,J,J,J,J,(bN J),H0,aj,bm⟩ ?_
 rintro _ f0 w0 ⟨j_,rfl,s0,s1,s2,s3,H1,pk,hs⟩
 refine az<|k<|lss J J s3 s2<|aq<|sq<|cd (b:=decide ((j_:Int)<(l.length:Int))) J J (fun b0=>?_)<|fun b0=>?_
 ·
  have p0:=dT b0
  refine sk<|nx<|sq<|bk<|az<|k<|ia (H1.rv 0 J) J J s1 s3 aj cS aS ?_
  intro iE x0 aI cD
  refine k<|mV cD.w aS J J ?_
  intro cE
  refine ak (v:=I x0) J J<|bz<|ai (v:=I x0) J J<|ai J s0<|k<|neq J J J J<|z<|nx<|cd (b:=!decide (x0=0)) J J (fun b1=>?_)<|fun b1=>?_
  ·
   have p1:=dF<|fX b1
   refine az<|ai (v:=I x0) J J<|ak (v:=I x0) J J<|aq<|rt<|bU<|aK<|ee<|bU<|aK<|r1 J J ?_
   exact⟨amz (Value.int .i64) (by exact(NX hs (by rw[dM] at aI;exact aI)<|by simpa using b1).symm),H1.below⟩
  have p1:=dT<|fl b1
  refine sk<|aF<|nx<|rg<|k<|add J J s3 J aT<|ai (v:=I ((j_:Int)+1)) J J<|z<|bG _ ?_ ⟨(j_+1),J,s0,s1,s2,(bN J),H1,aj,(by exact Yq hs aI (by simpa using b1))⟩
  omega
 have p0:=dF b0
 refine ex<|aV<|bf<|bh<|cV<|ai J s0<|ak (v:=I 0) J J<|aq<|rt<|r1 J J ?_
 exact⟨amz (Value.int .i64) (by exact(K6<|by rw[amL aj] at hs;exact hs).symm),H1.below⟩
theorem Mj (Bf:aL fy) (DK:aL fD) (Be:aL gI) (XK:aL mH) (XJ:aL mG) (XI:aL nh):Calls aJ 103 #[.agg #[I fy,I fD,I gI],.agg #[I mH,I mG,I nh]] w (cA fun v w'=>v=I (xX (fy,fD,gI) (mH,mG,nh))∧Ext w w'):=by
 refine dH 22 Tryz.func103 J J J pI fun f0 ha H=>?_
 have i0:f0 0=.agg #[I fy,I fD,I gI]:=ha 0 bm
 have i1:f0 1=.agg #[I mH,I mG,I nh]:=ha 1 bm
 refine az<|k<|bx H J i0 ?_
 intro aZ w0 bY (H0:HI (fun _=>False) w w0 [box aZ #[I fy,I fD,I gI] 122])
 refine k<|bx H0 J i1 ?_
 intro ba w1 dy (H1:HI (fun _=>False) w w1 [box ba #[I mH,I mG,I nh] 122,box aZ #[I fy,I fD,I gI] 122])
 refine ak (v:=I 0) J J<|aq<|sq<|Tj J aU<|xq J<|kq (fun _ _=>fa kQ J J e1)<|zq<|xq J<|kq (fun _ x_=>lx (H1.ext x_) 1 J aS J J J e1)<|zq<|xq J<|kq (fun _ _=>fa kQ J J e1)<|zq<|xq J<|kq (fun _ x_=>lx (H1.ext x_) 0 J aS J J J e1)<|zq<|xq J<|kq (v:=I (fH fy mH)) (fun v_ x_=>?_) ?_
 ·
  have cc:=zw (n1:=fy) (n2:=mH) (w:=v_) Bf XK
  exact ca Qu J (ec J<|ec J e0) cc fun _ _ h_=>e2 h_
 refine zq<|xq J<|kq (fun _ _=>fa mL J J e1)<|zq<|xq J<|kq (fun _ x_=>lx (H1.ext x_) 1 J aS J J J e1)<|zq<|xq J<|kq (fun _ _=>fa mL J J e1)<|zq<|xq J<|kq (fun _ x_=>lx (H1.ext x_) 0 J aS J J J e1)<|zq<|xq J<|kq (v:=I (fH fD mG)) (fun v_ x_=>?_) ?_
 ·
  have cc:=zw (n1:=fD) (n2:=mG) (w:=v_) DK XJ
  exact ca Qu J (ec J<|ec J e0) cc fun _ _ h_=>e2 h_
 refine zq<|xq J<|kq (fun _ _=>fa sO J J e1)<|zq<|xq J<|kq (fun _ x_=>lx (H1.ext x_) 1 J aS J J J e1)<|zq<|xq J<|kq (fun _ _=>fa sO J J e1)<|zq<|xq J<|kq (fun _ x_=>lx (H1.ext x_) 0 J aS J J J e1)<|zq<|xq J<|kq (v:=I (fH gI nh)) (fun v_ x_=>?_) ?_
 ·
  have cc:=zw (n1:=gI) (n2:=nh) (w:=v_) Be XI
  exact ca Qu J (ec J<|ec J e0) cc fun _ _ h_=>e2 h_
 refine zq<|xu (fun v w'=>∃(a0:OA) (c0:Nat),v=sL a0 ([fH fy mH,fH fD mG,fH gI nh]:aA) c0∧RV H1.gh w' (sL a0 ([fH fy mH,fH fD mG,fH gI nh]:aA) c0) ([fH fy mH,fH fD mG,fH gI nh]:aA)) J (by rintro _ _ _ x_ ⟨a0,c0,e_,cE⟩;exact⟨a0,c0,e_,cE.lift (Up.ext x_)⟩) J (fun v_ x_=>?_) ?_
 ·
  have H4:=H1.ext x_
  refine bs (xs:=([fH fy mH,fH fD mG,fH gI nh]:aA)) (cells:=#[I (fH fy mH),I (fH fD mG),I (fH gI nh)]) (e:=3) H4 J (cz J<|cz J<|cz J eI) (fun _=>aU) ⟨[I (fH fy mH)],[I (fH fD mG),I (fH gI nh)],J,⟨J,(show aL (fH fy mH) from(by exact FE _ _))⟩,⟨[I (fH fD mG)],[I (fH gI nh)],J,⟨J,(show aL (fH fD mG) from(by exact FE _ _))⟩,⟨[I (fH gI nh)],[],J,⟨J,(show aL (fH gI nh) from(by exact FE _ _))⟩,J⟩⟩⟩ J au ?_
  intro g1 w3 fA (H5:HI (fun _=>False) w w3 [own w.heap.size 3 (.slice (some ⟨g1,0,none⟩) 3 3) ([fH fy mH,fH fD mG,fH gI nh]:aA),box ba #[I mH,I mG,I nh] 122,box aZ #[I fy,I fD,I gI] 122])
  have H6:=H5.freeze 0 J
  exact⟨_,J,fA,⟨(some ⟨g1,0,none⟩),3,J,(mJ J<|H6.rv 0 J)⟩⟩
 refine xk1 (X:=I (Ct ([fH fy mH,fH fD mG,fH gI nh]:aA))) 0 J J (fun v_ _ x_ h_=>let ⟨a2,c2,s0,ei⟩:=h_;have H9:=(H1.ext x_).put (it:=iL a2 ([fH fy mH,fH fD mG,fH gI nh]:aA) c2) rfl ei;have cc:=adi (l:=([fH fy mH,fH fD mG,fH gI nh]:aA)) H9.mb (H9.rv 0 J);ca afh rfl (ec s0 e0) cc fun _ _ h_=>e2 h_)<|xq J<|kq (fun _ _=>jy (v:=I (Ct ([fH fy mH,fH fD mG,fH gI nh]:aA))) J J e1)<|zq<|zx ?_
 intro w5 f0 jh cK iK
 have dz:=H1.ext jh
 have s1:=cK 4 J
 refine nx<|rt<|r1 J J ?_
 rw[s1]
 exact⟨amz (Value.int .i64) (show (Ct ([fH fy mH,fH fD mG,fH gI nh]:aA))=(xX (fy,fD,gI) (mH,mG,nh)) from rfl),dz.below⟩
set_option maxRecDepth 100000 in
set_option maxHeartbeats 1600000 in
def MZ:Go.Shelf.Ren:=⟨fun|6=>102|15=>140|14=>139|28=>166|29=>167|20=>158|21=>159|22=>160|23=>161|24=>162|25=>163|26=>164|27=>165|46=>179|47=>180|48=>181|49=>182|50=>183|57=>191|n=>n,fun|22=>119|24=>122|25=>159|3=>3|39=>152|0=>0|53=>214|55=>151|4=>4|46=>208|45=>207|50=>86|5=>5|9=>9|66=>228|70=>232|76=>241|77=>242|n=>n,fun|n=>n⟩
theorem ND:Go.Proofs.SlLaysF0.n6 aJ MZ:={
  mixed:=aU
  f6:=⟨Tryz.f102.name,by decide,Tryz.func102.trans (amz some aU)⟩
  f14:=⟨Tryz.f139.name,by decide,Tryz.func139.trans (amz some aU)⟩
  f15:=Tryz.func140.trans (amz some aU)
  f20:=⟨Tryz.f158.name,by decide,Tryz.func158.trans (amz some aU)⟩
  f21:=⟨Tryz.f159.name,by decide,Tryz.func159.trans (amz some aU)⟩
  f22:=⟨Tryz.f160.name,by decide,Tryz.func160.trans (amz some aU)⟩
  f23:=⟨Tryz.f161.name,by decide,Tryz.func161.trans (amz some aU)⟩
  f24:=⟨Tryz.f162.name,by decide,Tryz.func162.trans (amz some aU)⟩
  f25:=⟨Tryz.f163.name,by decide,Tryz.func163.trans (amz some aU)⟩
  f26:=⟨Tryz.f164.name,by decide,Tryz.func164.trans (amz some aU)⟩
  f27:=⟨Tryz.f165.name,by decide,Tryz.func165.trans (amz some aU)⟩
  f28:=Tryz.func166.trans (amz some aU)
  f29:=Tryz.func167.trans (amz some aU)
  f46:=⟨Tryz.f179.name,by decide,Tryz.func179.trans (amz some aU)⟩
  f47:=Tryz.func180.trans (amz some aU)
  f48:=Tryz.func181.trans (amz some aU)
  f49:=⟨Tryz.f182.name,by decide,Tryz.func182.trans (amz some aU)⟩
  f50:=⟨Tryz.f183.name,by decide,Tryz.func183.trans (amz some aU)⟩
  f57:=⟨Tryz.f191.name,by decide,Tryz.func191.trans (amz some aU)⟩
  t0:=Tryz.underlying0
  a0:=Tryz.isAgg0
  z0:=Tryz.sizeOf0
  v0:=Tryz.zeroValue0
  t3:=Tryz.underlying3
  a3:=Tryz.isAgg3
  z3:=Tryz.sizeOf3
  v3:=Tryz.zeroValue3
  t4:=Tryz.underlying4
  a4:=Tryz.isAgg4
  z4:=Tryz.sizeOf4
  v4:=Tryz.zeroValue4
  t5:=Tryz.underlying5
  a5:=Tryz.isAgg5
  z5:=Tryz.sizeOf5
  v5:=Tryz.zeroValue5
  t9:=Tryz.underlying9
  a9:=Tryz.isAgg9
  z9:=Tryz.sizeOf9
  v9:=Tryz.zeroValue9
  t22:=Tryz.underlying119
  a22:=Tryz.isAgg119
  z22:=Tryz.sizeOf119
  v22:=Tryz.zeroValue119
  t25:=Tryz.underlying159
  a25:=Tryz.isAgg159
  z25:=Tryz.sizeOf159
  v25:=Tryz.zeroValue159
  t39:=Tryz.underlying152
  a39:=Tryz.isAgg152
  z39:=Tryz.sizeOf152
  v39:=Tryz.zeroValue152
  t45:=Tryz.underlying207
  a45:=Tryz.isAgg207
  z45:=Tryz.sizeOf207
  v45:=Tryz.zeroValue207
  t46:=Tryz.underlying208
  a46:=Tryz.isAgg208
  z46:=Tryz.sizeOf208
  v46:=Tryz.zeroValue208
  t50:=Tryz.underlying86
  a50:=Tryz.isAgg86
  z50:=Tryz.sizeOf86
  v50:=Tryz.zeroValue86
  t53:=Tryz.underlying214
  a53:=Tryz.isAgg214
  z53:=Tryz.sizeOf214
  v53:=Tryz.zeroValue214
  t55:=Tryz.underlying151
  a55:=Tryz.isAgg151
  z55:=Tryz.sizeOf151
  v55:=Tryz.zeroValue151
  t66:=Tryz.underlying228
  a66:=Tryz.isAgg228
  z66:=Tryz.sizeOf228
  v66:=Tryz.zeroValue228
  t70:=Tryz.underlying232
  a70:=Tryz.isAgg232
  z70:=Tryz.sizeOf232
  v70:=Tryz.zeroValue232
  t76:=Tryz.underlying241
  a76:=Tryz.isAgg241
  z76:=Tryz.sizeOf241
  v76:=Tryz.zeroValue241
  t77:=Tryz.underlying242
  a77:=Tryz.isAgg242
  z77:=Tryz.sizeOf242
  v77:=Tryz.zeroValue242}
theorem Q_ (jG off size:Nat) (w:aG):Go.Proofs.CmpLays aJ 103 #[] QD 3 (fun x y:BW=>xX x.1 y.1) jG off size w:=by
  intro m os dk _ x y
  obtain⟨⟨a1,a2,a3⟩,h1,h2,h3⟩:=x
  obtain⟨⟨b1,b2,b3⟩,k1,k2,k3⟩:=y
  refine(Mj h1 h2 h3 k1 k2 k3).mono ?_
  intro e w' h_
  unfold cA at h_
  obtain⟨v,rfl,rfl,hx⟩:=h_
  exact⟨J,hx.grow⟩
theorem Q' {dV:Option Addr} {xs:List ew} (hl:xs.length≤4611686018427387903) (H:HI M w w_ ([own w.heap.size 122 (.slice dV xs.length dL) xs]++r)):
    Calls aJ 102 #[.slice dV xs.length dL,.func (.func 103) #[] #[]] w_ (cA fun v w'=>v=.tuple #[]∧HI M w w' ([own w.heap.size 122 (.slice dV xs.length dL) (wE xs)]++r)):=by
  have H0:=H.all _ (dN (i:=0) J)
  obtain⟨cs,⟨hn,ho⟩,hc⟩:=H0
  rcases ho with ⟨ho,h0⟩|⟨g,cap,cur,ho, -⟩
  · have hx:xs=[]:=anC.1 h0
    subst hx
    cases ho
    refine(Go.Proofs.AnyF.slices_SortFunc_none ND none 0 _ w_).mono ?_
    rintro e w' ⟨rfl,rfl⟩
    unfold cA
    exact⟨_,J,J,by rw[Ra];exact H⟩
  cases ho
  obtain⟨bs,e0,hH,hb,hT⟩:=Q9 (i:=0) (val:=fun b:BW=>b.1) VN H rfl
  have hn:xs.length=bs.toArray.size:=by rw[←e0];simp
  have eg:∀args w,(callFunc 103 args).run aJ w=.ok (.enter 103 args) w:=enters_of Tryz.func103 aU J
  have h:=Go.Proofs.AnyQ.slices_SortFunc ND 3 Tryz.isAgg122 Tryz.sizeOf122 QD (fun _=>rfl) (fun x v hv=>by simp[QD] at hv;rcases hv with rfl|rfl|rfl<;>rfl) (fun x y:BW=>xX x.1 y.1) aaw 103 #[] g 0 dL bs.toArray w_ eg (Q_ _ _ _ _) hH hb<|by rw[←hn];omega
  rw[hn]
  refine h.mono ?_
  rintro e w' ⟨rfl,d',n,os,hp,hs,rfl⟩
  have e1:=Go.Sort.sorted_unique_holds aaw ag8 bs.toArray d' hp hs
  unfold cA
  refine⟨_,J,J,?_⟩
  have:=hT d'.toList n os<|by simpa using hp.1
  rw[←hn,←e0,Rb,←e1,e0]
  exact this
theorem Vv:cH aJ 88:=cN Tryz.func88
theorem ie:aJ.underlying 24=some (.slice 144):=aU
theorem dt:ey aJ 144 1 false 24 (.slice none 0 0):=⟨aU,aU⟩
theorem km:gv aJ 26 0 0:=js Tryz.underlying26
theorem ae1:cH aJ 138:=cN Tryz.func138
theorem ae2:cH aJ 137:=cN Tryz.func137
theorem bp:ey aJ 26 2 true 32 (.agg #[.int .i64 0,.slice none 0 0]):=⟨aU,aU⟩
theorem Qk:cH aJ 84:=cN Tryz.func84
theorem X2:cH aJ 101:=cN Tryz.func101
theorem iw:gv aJ 26 1 1:=js Tryz.underlying26
theorem kX:ey aJ 24 1 false 24 (.slice none 0 0):=⟨aU,aU⟩
theorem aeM:cH aJ 178:=cN Tryz.func178
theorem Fs:cH aJ 86:=cN Tryz.func86
theorem L1:cH aJ 85:=cN Tryz.func85
theorem vT {r:aA} (hM:eU M w) (pM:cL M w jL jY r) (Am:FP aJ qk qq M w r p):Calls aJ 88 #[sL jL r jY,.func (.func qk) #[] qq.toArray] w (cA fun v w'=>v=I (eO p r)∧Ext w w'):=by
 refine dH 19 Tryz.func88 J J J hM fun f0 ha H=>?_
 have H0:=eu H pM
 have U6:=bl pM
 have i0:f0 0=sL jL r jY:=ha 0 bm
 have i1:f0 1=.func (.func qk) #[] qq.toArray:=ha 1 bm
 refine az<|ak (v:=I 0) J J<|aq<|sq<|az<|ai J i0<|k<|ef J J cS<|ai (v:=I 0) J J<|aq<|bk<|lp (fun m f w'=>∃(j:Nat),m=r.length-j∧f 0=sL jL r jY∧f 1=.func (.func qk) #[] qq.toArray∧f 7=I (r.length:Int)∧f 8=I (j:Int)∧HI M w w' [iL jL r jY]∧(j≤r.length)∧((r.take j).any p=false)) _ ⟨0,J,i0,i1,J,(bN J),H0,aj,bm⟩ ?_
 rintro _ f0 w0 ⟨j,rfl,s0,s1,s2,s3,H1,hk,hs⟩
 refine az<|k<|lss J J s3 s2<|aq<|sq<|cd (b:=decide ((j:Int)<(r.length:Int))) J J (fun b0=>?_)<|fun b0=>?_
 ·
  have p0:=dT b0
  refine sk<|nx<|sq<|bk<|az<|ai J s3<|ak (v:=I (j:Int)) J J<|bz<|ai J s1<|ai J s0<|ai (v:=I (j:Int)) J J<|k<|ia (H1.rv 0 J) J J J J aj cS aS ?_
  intro iE x0 aI cD
  refine k<|mV cD.w aS J J ?_
  intro cE
  refine k<|cf Am.1 J J J (ec J e0) (Am.2 _ _ _ (by exact dN ‹_›) H1.below<|(RV.int.2 ⟨J,aT⟩).lift H1.out) ?_
  rintro _ w1 ⟨rfl,bY⟩
  have H2:=H1.ext bY
  refine z<|nx<|cd (b:=p x0) J J (fun b1=>?_)<|fun b1=>?_
  ·
   refine az<|ai (v:=I (j:Int)) J J<|ak (v:=I (j:Int)) J J<|aq<|rt<|bU<|aK<|ee<|bU<|aK<|r1 J J ?_
   exact⟨amz (Value.int .i64) (by exact uA aI hs b1),H2.below⟩
  refine sk<|aF<|nx<|rg<|k<|add J J s3 J aT<|ai (v:=I ((j:Int)+1)) J J<|z<|bG _ ?_ ⟨(j+1),J,s0,s1,s2,(bN J),H2,aj,(by exact pD aI hs b1)⟩
  omega
 have p0:=dF b0
 refine ex<|aV<|bf<|bh<|cV<|ak (v:=I (-1)) J J<|aq<|rt<|r1 J J ?_
 exact⟨amz (Value.int .i64) (by exact vg hs aj),H1.below⟩
theorem FC {r:aA} (hM:eU M w) (pM:cL M w jL jY r) (Am:FP aJ qk qq M w r p):Calls aJ 137 #[sL jL r jY,.func (.func qk) #[] qq.toArray] w (cA fun v w'=>v=.bool (r.any p)∧Ext w w'):=by
 refine dH 9 Tryz.func137 J J J hM fun f0 ha H=>?_
 have H0:=eu H pM
 have i0:f0 0=sL jL r jY:=ha 0 bm
 have i1:f0 1=.func (.func qk) #[] qq.toArray:=ha 1 bm
 refine az<|ak (v:=.bool false) J J<|bz<|ai J i0<|ai J i1<|k ?_
 have bT:=vT (r:=r) (p:=p) H0.mb (H0.rv 0 J)<|Am.sub H0.below T0
 refine ca Vv J (ec J<|ec J e0) bT ?_
 rintro _ w0 ⟨rfl,bY⟩
 have H1:=H0.ext bY
 refine k<|geq J J J J<|ak (v:=.bool (decide (0≤(eO p r)))) J J<|aq<|rt<|r1 J J ?_
 exact⟨amz Value.bool (by exact uB),H1.below⟩
theorem QG {r:List (List bt)} (hM:eU M w) (pM:cL M w jL jY r) (Vo:r.length≤1000000000):Calls aJ 178 #[sL jL r jY] w (cA fun v w'=>∃(a0:OA) (c0:Nat),v=sL a0 r c0∧Ext w w'∧bj M 144 w r (sL a0 r c0) w'):=by
 refine dH 8 Tryz.func178 J J J hM fun f0 ha H=>?_
 have H0:=eu H pM
 have i0:f0 0=sL jL r jY:=ha 0 bm
 refine az<|ak (v:=.slice none 0 0) J J<|aq<|sq<|az<|ai J i0<|k<|S9 J J J J ie<|z<|nx<|cd (b:=jL.isNone) J J (fun b0=>?_)<|fun b0=>?_
 ·
  refine az<|ak (v:=.slice none 0 0) J J<|aq<|rt<|aK<|r1 J J ?_
  have e0:([]:List (List bt))=r:=by exact(Hp pM b0).symm
  have bu:=iD (fun (cq:List (List bt))=>(.slice none cq.length 0:Value)) e0
  exact⟨none,0,bu,H0.below,(amz (fun (x_:List (List bt))=>bj _ _ _ x_ (.slice none x_.length 0) _) e0).mp (fU H0.below)⟩
 refine sk<|cV<|k<|bs (xs:=([]:List (List bt))) (cells:=#[]) (e:=144) H0 J eI (fun _=>aU) J J au ?_
 intro g0 w0 bY H1
 refine ai J i0<|k<|me H1 0 J J J J J J (H1.rv 1 J).src ie dt J (by simp;omega) J ?_
 intro a0 c0 w1 (H2:HI M w w1 [oL w 144 a0 r c0,iL jL r jY])
 refine ak (v:=sL a0 r c0) J J<|aq<|rt<|r1 J J ?_
 exact⟨a0,c0,J,H2.below,(H2.du 0 J)⟩
theorem Zd {a_u:OA} {n_u c_u:Nat} (hM:eU M w) (qS:aL i) (LW:aL n) (CT:w.heap[ya]? =some (.cells #[I n,.slice a_u n_u c_u] Hk (0,0))∧¬M ya):Calls aJ 138 #[I i,.pointer (some ⟨ya,0,none⟩)] w (cA fun v w'=>v=.bool (Cr n i)∧Ext w w'):=by
 refine dH 12 Tryz.func138 J J J hM fun f0 ha H=>?_
 have i0:f0 0=I i:=ha 0 bm
 have H0:=H.put (it:=ro ya #[I n,.slice a_u n_u c_u] Hk) J<|by rw[bS];exact CT
 have i1:f0 1=pV ya 0:=ha 1 bm
 refine az<|ak (v:=.bool false) J J<|bz<|ai J i0<|k<|lss J J J J<|ai (v:=.bool (decide (i<0))) J J ?_
 rcases bE (decide (i<0)) with b0|b0
 ·
  refine aX J J J b0<|aX J J J b0<|aX J J J b0<|aX J J J b0<|k<|aN J J J J b0 J<|ak (v:=.bool true) J J<|aq<|rt<|r1 J J ?_
  exact⟨amz Value.bool (by unfold Cr;simp[b0]),H0.below⟩
 refine aQ J J J b0<|mv J i0<|aQ J J J b0<|fa km J i1<|aQ J J J b0<|lr H0 0 J aS J J J<|aQ J J J b0<|geq J J J J<|k<|cZ J J J J b0 J<|ak (v:=.bool (decide (n≤i))) J J<|aq<|rt<|r1 J J ?_
 exact⟨amz Value.bool (by unfold Cr;simp[b0]),H0.below⟩
theorem RZ {MJ:OA} {Lf Mo:Nat} (hM:eU M w) (gk:aL mn) (xO:cL M w mg mI l):Calls aJ 101 #[.agg #[I mn,.slice MJ Lf Mo],sL mg l mI] w (cA fun v w'=>v=.bool (kA mn l)∧Ext w w'):=by
 refine dH 9 Tryz.func101 J J J hM fun f0 ha H=>?_
 have H0:=eu H xO
 have i0:f0 0=.agg #[I mn,.slice MJ Lf Mo]:=ha 0 bm
 have i1:f0 1=sL mg l mI:=ha 1 bm
 refine az<|k<|bx H0 J i0 ?_
 intro aZ w0 bY (H1:HI M w w0 [box aZ #[I mn,.slice MJ Lf Mo] 26,iL mg l mI])
 refine ak (v:=.bool false) J J<|bz<|ai J i1<|k<|mf J<|k ?_
 have bT:=FC (r:=l) (p:=(fun (x_:Int)=>Cr mn x_)) H1.mb (H1.rv 1 J) ⟨ae1,fun w_ v_ x_ mW e_ Gs=>by have H_:=H1.ext e_;obtain⟨_,⟨rfl,cE⟩,rfl⟩:=Gs;exact Zd (n:=mn) (M:=fun _=>False) (fun _ h_=>h_.elim) cE aT ⟨H_.at_ 0 rfl,fun h_=>h_⟩⟩
 refine ca ae2 J (ec J<|ec J e0) bT ?_
 rintro _ w1 ⟨rfl,dy⟩
 have H2:=H1.ext dy
 refine k<|kg J J<|ak (v:=.bool (!(l.any<|fun (x_:Int)=>Cr mn x_))) J J<|aq<|rt<|r1 J J ?_
 exact⟨amz Value.bool (show (!(l.any<|fun (x_:Int)=>Cr mn x_))=(kA mn l) from rfl),H2.below⟩
theorem Oc (hM:eU M w) (LW:aL n):Calls aJ 121 #[I n] w (cA fun v w'=>∃(a0:OA) (c0:Nat),v=.tuple #[.agg #[I (oD n),.slice a0 (iJ n).length c0],I (r6 n)]∧Ext w w'∧bj M 144 w (iJ n) (.slice a0 (iJ n).length c0) w'):=by
 refine dH 29 Tryz.func121 J J J hM fun f0 ha H=>?_
 have i0:f0 0=I n:=ha 0 bm
 refine az<|k<|al H bp ?_
 intro aZ w0 bY (H0:HI M w w0 [box aZ #[I 0,.slice none 0 0] 26])
 let J0:=box aZ #[I 0,.slice none 0 0] 26
 refine ak (v:=I 0) J J<|aq<|sq<|az<|ai J i0<|k<|lss J J J J<|ai (v:=.bool (decide (n<0))) J J ?_
 rcases bE (decide (n<0)) with b0|b0
 ·
  have p0:=dT b0
  refine aX J J J b0<|aX J J J b0<|k<|aN J J J J b0 J<|aq<|oA J J J<|az<|k<|bd (v:=.agg #[I 0,.slice none 0 0]) J eI (fun _=>aU)<|k<|bw H0 0 J bp J J J J J J J ?_
  intro w1 (H1:HI M w w1 [J0])
  refine ak (v:=I 1) J J<|aq<|rt<|aK<|iA H1 0 J bp J J J J J au ?_
  have e0:(0:Int)=oD n:=by exact(wU<|zZ.2 aj).1.symm
  have e1:([]:List (List bt))=iJ n:=by exact(wU<|zZ.2 aj).2.1.symm
  have e2:(1:Int)=r6 n:=by exact(wU<|zZ.2 aj).2.2.symm
  have bu:=qX (fun (cq:Int) (dX:List (List bt)) (gQ:Int)=>(.tuple #[.agg #[I cq,.slice none dX.length 0],I gQ]:Value)) e0 e1 e2
  exact⟨none,0,bu,H1.below,(amz (fun (x_:List (List bt))=>bj _ _ _ x_ (.slice none x_.length 0) _) e1).mp (fU H1.below)⟩
 have p0:=dF b0
 refine aQ J J J b0<|mv J i0<|aQ J J J b0<|gtr J J J J<|k<|cZ J J J J b0 J<|z<|nx<|cd (b:=decide (4096<n)) J J (fun b1=>?_)<|fun b1=>?_
 ·
  have p1:=dT b1
  refine az<|k<|bd (v:=.agg #[I 0,.slice none 0 0]) J eI (fun _=>aU)<|k<|bw H0 0 J bp J J J J J J J ?_
  intro w1 (H1:HI M w w1 [J0])
  refine ak (v:=I 1) J J<|aq<|rt<|aK<|iA H1 0 J bp J J J J J au ?_
  have e0:(0:Int)=oD n:=by exact(wU<|zZ.2 aj).1.symm
  have e1:([]:List (List bt))=iJ n:=by exact(wU<|zZ.2 aj).2.1.symm
  have e2:(1:Int)=r6 n:=by exact(wU<|zZ.2 aj).2.2.symm
  have bu:=qX (fun (cq:Int) (dX:List (List bt)) (gQ:Int)=>(.tuple #[.agg #[I cq,.slice none dX.length 0],I gQ]:Value)) e0 e1 e2
  exact⟨none,0,bu,H1.below,(amz (fun (x_:List (List bt))=>bj _ _ _ x_ (.slice none x_.length 0) _) e1).mp (fU H1.below)⟩
 have p1:=dF b1
 refine sk<|cV<|ai J i0<|k ?_
 have n0:((n.toNat:Nat):Int)=n:=anf aj
 refine mk (m:=n.toNat) (zx:=([]:(List bt))) H0 J J (by rw[n0];exact rfl) (by rw[n0];exact rfl) ie dt (fun _ _=>⟨_,J,KO _ _⟩) aj aj ?_
 intro g0 w1 dy (H1:HI M w w1 [own w.heap.size 144 (.slice (some ⟨g0,0,none⟩) n.toNat n.toNat) (List.replicate n.toNat ([]:(List bt))),J0])
 refine ak (v:=.slice (some ⟨g0,0,none⟩) n.toNat n.toNat) J J<|aq<|sq<|az<|ai (v:=.slice (some ⟨g0,0,none⟩) n.toNat n.toNat) J J<|k<|ef J J ie<|ai (v:=I 0) J J<|aq<|bk<|lp (fun m f w'=>∃(j:Nat) (xs:List (List bt)),m=n.toNat-j∧f 0=I n∧f 2=pV aZ 0∧f 4=.slice (some ⟨g0,0,none⟩) n.toNat n.toNat∧f 16=I (n.toNat:Int)∧f 17=I (j:Int)∧HI M w w' [own w.heap.size 144 (.slice (some ⟨g0,0,none⟩) n.toNat n.toNat) xs,J0]∧(j≤n.toNat)∧(xs.length=n.toNat)∧(xs=vz n.toNat j (eb n) [])) _ ⟨0,(List.replicate n.toNat ([]:(List bt))),J,i0,J,J,J,(bN J),H1,aj,bm,(by exact Nk _ _ _)⟩ ?_
 rintro _ f0 w2 ⟨j,xs,rfl,s0,s1,s2,s3,s4,H2,hk,hl,hs⟩
 refine az<|k<|lss J J s4 s3<|aq<|sq<|cd (b:=decide ((j:Int)<(n.toNat:Int))) J J (fun b2=>?_)<|fun b2=>?_
 ·
  have p2:=dT b2
  refine sk<|nx<|sq<|bk<|az<|ai J s4<|ak (v:=I (j:Int)) J J<|aq<|rg<|ai J s2<|ai (v:=I (j:Int)) J J<|ai J s0<|k ?_
  have bT:=Dy (n:=n) H2.mb LW aj
  refine ca Qk J (ec J e0) bT ?_
  rintro _ w3 ⟨a0,c0,rfl,fe,cE⟩
  have H3:=H2.eS cE
  refine k<|iq (H3.at_ 1 J) J J J J aj ie dt ?_
  intro g1 x0 iC aI cD
  refine k ?_
  have H4:=H3.freeze 0 J
  refine qf H4 1 J iC J aj dt J J J J (H4.rv 0 J) ?_
  let J1:=own w.heap.size 144 (.slice (some ⟨g0,0,none⟩) n.toNat n.toNat) (xs.set ((j:Int).toNat) (eb n))
  intro w4 (H5:HI M w w4 [iL a0 (eb n) c0,J1,J0])
  refine z<|aF<|nx<|rg<|k<|add J J s4 J aT<|ai (v:=I ((j:Int)+1)) J J<|z ?_
  have H6:HI M w w4 [J1,J0]:=H5.bZ [1,2] au J
  refine bG _ ?_ ⟨(j+1),(xs.set ((j:Int).toNat) (eb n)),J,s0,s1,s2,s3,(bN J),H6,aj,(by simpa using hl),(by rw[hs];exact QB aj)⟩
  omega
 have p2:=dF b2
 refine ex<|aV<|bf<|bh<|cV<|ai J s0<|ai J s2<|k<|bd (v:=.agg #[I n,.slice (some ⟨g0,0,none⟩) n.toNat n.toNat]) J (cz J<|cz J eI) (fun _=>aU)<|k<|bw H2 1 J bp J J s1 J J J J ?_
 intro w3 (H3:HI M w w3 [own w.heap.size 144 (.slice (some ⟨g0,0,none⟩) n.toNat n.toNat) xs,box aZ #[I n,.slice (some ⟨g0,0,none⟩) n.toNat n.toNat] 26])
 refine ak (v:=I 0) J J<|aq<|rt<|iA H3 1 J bp J J J s1 J au ?_
 have e0:(n:Int)=oD n:=by exact(xD<|sE.2 aj).1.symm
 have e1:(xs:List (List bt))=iJ n:=by rw[(xD<|sE.2 aj).2.1,hs];exact QC aj
 have l1:n.toNat=(iJ n).length:=by rw[←e1];omega
 have e2:(0:Int)=r6 n:=by exact(xD<|sE.2 aj).2.2.symm
 have bu:=qX (fun (cq:Int) (u9:Nat) (gQ:Int)=>(.tuple #[.agg #[I cq,.slice (some ⟨g0,0,none⟩) u9 n.toNat],I gQ]:Value)) e0 l1 e2
 exact⟨(some ⟨g0,0,none⟩),n.toNat,bu,H3.below,(amz (fun (n_:Nat)=>bj _ _ _ (iJ n) (.slice (some ⟨g0,0,none⟩) n_ n.toNat) _) l1).mp ((amz (fun (x_:List (List bt))=>bj _ _ _ x_ (.slice (some ⟨g0,0,none⟩) n.toNat n.toNat) _) e1).mp (H3.du 0 J))⟩
theorem Ze (hM:eU M w) (gk:aL mn) (gB:cL M w bF bD mr) (qS:aL i) (BO:aL j) (Xn:((mr.length:Nat):Int)=mn) (P7:∀x∈mr,x.length≤1000000000) (Xv:mn≤4096):Calls aJ 156 #[.agg #[I mn,sL bF mr bD],I i,I j] w (cA fun v w'=>∃(a0:OA) (c0:Nat),v=.tuple #[.agg #[I (ik mn i j),.slice a0 (j5 mn mr i j).length c0],I (lB mn i j)]∧Ext w w'∧bj M 144 w (j5 mn mr i j) (.slice a0 (j5 mn mr i j).length c0) w'):=by
 refine dH 32 Tryz.func156 J J J hM fun f0 ha H=>?_
 let J0:=iL bF mr bD
 have H0:=H.put (it:=J0) J<|by rw[bS];exact gB
 have i0:f0 0=.agg #[I mn,sL bF mr bD]:=ha 0 bm
 have i1:f0 1=I i:=ha 1 bm
 have i2:f0 2=I j:=ha 2 bm
 refine az<|k<|bx H0 J i0 ?_
 intro aZ w0 bY (H1:HI M w w0 [box aZ #[I mn,sL bF mr bD] 26,J0])
 let J1:=box aZ #[I mn,sL bF mr bD] 26
 refine k<|al H1 bp ?_
 intro ba w1 dy (H2:HI M w w1 [box ba #[I 0,.slice none 0 0] 26,J1,J0])
 refine ak (v:=I 0) J J<|aq<|sq<|az<|k<|cI H2 1 J bp J J au J<|ai J i1<|ai J i2<|k<|bs (xs:=([i,j]:aA)) (cells:=#[I i,I j]) (e:=3) H2 J (cz J<|cz J eI) (fun _=>aU) ⟨[I i],[I j],J,⟨J,qS⟩,⟨[I j],[],J,⟨J,BO⟩,J⟩⟩ J au ?_
 intro g0 w2 fe H3
 refine k ?_
 have H4:=H3.freeze 0 J
 have bT:=RZ (mn:=mn) (l:=([i,j]:aA)) (MJ:=bF) (Lf:=mr.length) (Mo:=bD) H4.mb gk<|H4.rv 0 J
 refine ca X2 J (ec J<|ec J e0) bT ?_
 rintro _ w3 ⟨rfl,fA⟩
 have H5:=H3.ext fA
 refine k<|kg J J<|z<|nx<|cd (b:=!(kA mn ([i,j]:aA))) J J (fun b0=>?_)<|fun b0=>?_
 ·
  refine sq ?_
  have hq:kA mn [i,j]=false:=by simpa using b0
  refine rg<|k<|bd (v:=.agg #[I 0,.slice none 0 0]) J eI (fun _=>aU)<|k<|bw H5 1 J bp J J J J J J J ?_
  intro w4 (H6:HI M w w4 [own w.heap.size 3 (.slice (some ⟨g0,0,none⟩) 2 2) ([i,j]:aA),box ba #[I 0,.slice none 0 0] 26,J1,J0])
  refine ak (v:=I 1) J J<|aq<|rt<|aK<|iA H6 1 J bp J J J J J au ?_
  have e0:(0:Int)=ik mn i j:=by exact(oH (rs:=mr) hq).1.symm
  have e1:([]:List (List bt))=j5 mn mr i j:=by exact(oH (rs:=mr) hq).2.1.symm
  have e2:(1:Int)=lB mn i j:=by exact(oH (rs:=mr) hq).2.2.symm
  have bu:=qX (fun (cq:Int) (dX:List (List bt)) (gQ:Int)=>(.tuple #[.agg #[I cq,.slice none dX.length 0],I gQ]:Value)) e0 e1 e2
  exact⟨none,0,bu,H6.below,(amz (fun (x_:List (List bt))=>bj _ _ _ x_ (.slice none x_.length 0) _) e1).mp (fU H6.below)⟩
 refine sk<|nx<|sq ?_
 have hq:kA mn [i,j]=true:=by simpa using b0
 have hr:=jg.1 hq
 refine rg<|aR iw J J<|bq H5 2 J kX J J J<|k ?_
 have dq:=QG (r:=mr) H5.mb (H5.rv 3 J) aj
 refine ca aeM J (ec J e0) dq ?_
 rintro _ w4 ⟨a0,c0,rfl,iz,cE⟩
 have H6:=H5.eS cE
 refine ak (v:=sL a0 mr c0) J J<|bz<|ai (v:=sL a0 mr c0) J J<|ai J i1<|ai (v:=sL a0 mr c0) J J<|ai J i1<|k<|iq (H6.at_ 0 J) J J J J aj ie dt ?_
 intro g1 x0 iC aI cD
 refine k<|wg cD dt J J ?_
 intro a1 c1 ep
 have H7:=eu H6 ep
 refine ai J i2<|k ?_
 have fP:=ur (r:=x0) (i:=j) H7.mb (H7.rv 0 J) BO<|by exact P7 _ (dN aI)
 refine ca Fs J (ec J<|ec J e0) fP ?_
 rintro _ w5 ⟨a2,c2,rfl,jh,ei⟩
 have H8:=H7.eS ei
 refine k<|iq (H8.at_ 2 J) J J J J aj ie dt ?_
 intro g2 x1 kN bV gG
 refine k ?_
 have H9:=H8.freeze 0 J
 refine qf H9 2 J kN J aj dt J J J J (H9.rv 0 J) ?_
 let J2:=own w.heap.size 144 (.slice a0 mr.length c0) (mr.set i.toNat (eo x0 j))
 let J3:=own w.heap.size 3 (.slice (some ⟨g0,0,none⟩) 2 2) ([i,j]:aA)
 intro w6 (dz:HI M w w6 [iL a2 (eo x0 j) c2,iL a1 x0 c1,J2,J3,box ba #[I 0,.slice none 0 0] 26,J1,J0])
 refine bz<|aR km J J<|bq dz 5 J aS J J J<|ai (v:=sL a0 mr c0) J J<|k<|bd (v:=.agg #[I mn,sL a0 mr c0]) J (cz J<|cz J eI) (fun _=>aU)<|k<|bw dz 4 J bp J J J J J J J ?_
 intro w7 (cB:HI M w w7 [iL a2 (eo x0 j) c2,iL a1 x0 c1,J2,J3,box ba #[I mn,sL a0 mr c0] 26,J1,J0])
 refine ak (v:=I 0) J J<|aq<|rt<|iA cB 4 J bp J J J J J au ?_
 have e0:(mn:Int)=ik mn i j:=by exact(pU (rs:=mr) hq).1.symm
 have e1:(mr.set i.toNat (eo x0 j):List (List bt))=j5 mn mr i j:=by rw[(pU (rs:=mr) hq).2.1];exact Hn aI
 have l1:mr.length=(j5 mn mr i j).length:=by rw[←e1];simp
 have e2:(0:Int)=lB mn i j:=by exact(pU (rs:=mr) hq).2.2.symm
 have bu:=qX (fun (cq:Int) (u9:Nat) (gQ:Int)=>(.tuple #[.agg #[I cq,.slice a0 u9 c0],I gQ]:Value)) e0 l1 e2
 exact⟨a0,c0,bu,cB.below,(amz (fun (n_:Nat)=>bj _ _ _ (j5 mn mr i j) (.slice a0 n_ c0) _) l1).mp ((amz (fun (x_:List (List bt))=>bj _ _ _ x_ (.slice a0 mr.length c0) _) e1).mp (cB.du 2 J))⟩
theorem uz (hM:eU M w) (gk:aL mn) (gB:cL M w bF bD mr) (qS:aL i) (BO:aL j) (Xn:((mr.length:Nat):Int)=mn) (P7:∀x∈mr,x.length≤1000000000) (Xv:mn≤4096):Calls aJ 64 #[.agg #[I mn,sL bF mr bD],I i,I j] w (cA fun v w'=>v=.bool (eL mn mr i j)∧Ext w w'):=by
 refine dH 21 Tryz.func64 J J J hM fun f0 ha H=>?_
 have H0:=eu H gB
 have i0:f0 0=.agg #[I mn,sL bF mr bD]:=ha 0 bm
 have i1:f0 1=I i:=ha 1 bm
 have i2:f0 2=I j:=ha 2 bm
 refine az<|k<|bx H0 J i0 ?_
 intro aZ w0 bY (H1:HI M w w0 [box aZ #[I mn,sL bF mr bD] 26,iL bF mr bD])
 refine ak (v:=.bool false) J J<|bz<|k<|cI H1 0 J bp J J au J<|ai J i1<|ai J i2<|k<|bs (xs:=([i,j]:aA)) (cells:=#[I i,I j]) (e:=3) H1 J (cz J<|cz J eI) (fun _=>aU) ⟨[I i],[I j],J,⟨J,qS⟩,⟨[I j],[],J,⟨J,BO⟩,J⟩⟩ J au ?_
 intro g0 w1 dy H2
 refine k ?_
 have H3:=H2.freeze 0 J
 have bT:=RZ (mn:=mn) (l:=([i,j]:aA)) (MJ:=bF) (Lf:=mr.length) (Mo:=bD) H3.mb gk<|H3.rv 0 J
 refine ca X2 J (ec J<|ec J e0) bT ?_
 rintro _ w2 ⟨rfl,fe⟩
 have H4:=H2.ext fe
 refine ai (v:=.bool (kA mn ([i,j]:aA))) J J ?_
 rcases bE (kA mn ([i,j]:aA)) with b0|b0
 ·
  refine aQ J J J b0<|fa iw J J<|aQ J J J b0<|lx H4 1 J kX J J J<|aQ J J J b0<|mv J i1<|aQ J J J b0<|ia (H4.rv 2 J) J J J J (by have hr:=jg.1 b0;omega) ie dt ?_
  intro iE x0 aI cD
  refine aQ J J J b0<|wg cD.w dt J J ?_
  intro a0 c0 cE
  have H5:=eu H4 cE
  refine aQ J J J b0<|mv J i2<|aQ J J J b0 ?_
  have dq:=zQ (r:=x0) (i:=j) H5.mb (H5.rv 0 J) BO
  refine ca L1 J (ec J<|ec J e0) dq ?_
  rintro _ w3 ⟨rfl,fA⟩
  have H6:=H5.ext fA
  refine k<|aN J J J J b0 J<|ak (v:=.bool (fm x0 j)) J J<|aq<|rt<|r1 J J ?_
  exact⟨amz Value.bool (by unfold eL;first|(rw[si aI,b0];rfl)|(rw[b0];rfl)),H6.below⟩
 refine aX J J J b0<|aX J J J b0<|aX J J J b0<|aX J J J b0<|aX J J J b0<|aX J J J b0<|aX J J J b0<|k<|cZ J J J J b0 J<|ak (v:=.bool false) J J<|aq<|rt<|r1 J J ?_
 exact⟨amz Value.bool (by unfold eL;first|(rw[si aI,b0];rfl)|(rw[b0];rfl)),H4.below⟩
theorem HE:cH aJ 89:=cN Tryz.func89
theorem Pa:aJ.underlying 185=some (.slice 133):=aU
theorem FU:ey aJ 133 2 true 16 (.agg #[.int .i64 0,.int .i64 0]):=⟨aU,aU⟩
theorem ae4:cH aJ 135:=cN Tryz.func135
theorem R0 (hM:eU M w) (hT:fW 0 w) (gk:aL mn) (gB:cL M w bF bD mr) (Xn:((mr.length:Nat):Int)=mn) (P7:∀x∈mr,x.length≤1000000000) (Xv:mn≤4096) (JH:∀x∈mr,x.length≤64):Calls aJ 128 #[.agg #[I mn,sL bF mr bD]] w (cA fun v w'=>∃(a0:OA) (c0:Nat),v=.slice a0 (iO mn mr).length c0∧Ext w w'∧RV M w' (.slice a0 (iO mn mr).length c0) (iO mn mr)):=by
 refine dH 32 Tryz.func128 J J J hM fun f0 ha H=>?_
 let J0:=iL bF mr bD
 have H0:=H.put (it:=J0) J<|by rw[bS];exact gB
 have np:=bl gB
 have i0:f0 0=.agg #[I mn,sL bF mr bD]:=ha 0 bm
 refine az<|k<|bx H0 J i0 ?_
 intro aZ w0 bY (H1:HI M w w0 [box aZ #[I mn,sL bF mr bD] 26,J0])
 let J1:=box aZ #[I mn,sL bF mr bD] 26
 refine ak (v:=.slice none 0 0) J J<|bz<|ak (v:=.slice none 0 0) J J<|aq<|sq<|az<|aR iw J J<|bq H1 0 J kX J J J<|k<|ef J J ie<|ai (v:=I 0) J J<|aq<|bk ?_
 have H2:=H1.rB (Int×Int) 133
 refine lp (fun m f w'=>∃(i:Nat) (xs:List (Int×Int)) (a0:OA) (c0:Nat),m=mr.length-i∧f 3=sL a0 xs c0∧f 9=sL bF mr bD∧f 10=I (mr.length:Int)∧f 11=I (i:Int)∧HI M w w' [oL w 133 a0 xs c0,J1,J0]∧(i≤mr.length)∧(xs=lj mr i)) _ ⟨0,([]:List (Int×Int)),none,0,J,J,J,J,(bN J),H2,aj,(by rfl)⟩ ?_
 rintro _ f0 w1 ⟨i,xs,a0,c0,rfl,s0,s1,s2,s3,H3,Xy,hs⟩
 refine az<|k<|lss J J s3 s2<|aq<|sq<|cd (b:=decide ((i:Int)<(mr.length:Int))) J J (fun b0=>?_)<|fun b0=>?_
 ·
  have p0:=dT b0
  refine sk<|nx<|sq<|bk<|az<|ai J s3<|k<|ia (H3.rv 2 J) J J s1 s3 aj ie dt ?_
  intro iE x0 aI cD
  refine k<|wg cD.w dt J J ?_
  intro a1 c1 cE
  have BB:=bl cE
  have H4:=eu H3 cE
  refine ak (v:=I (i:Int)) J J<|ak (v:=sL a1 x0 c1) J J<|bz<|ai (v:=sL a1 x0 c1) J J<|k ?_
  have bT:=uu (r:=x0) H4.mb (hT.ext H4.below) (H4.rv 0 J)<|by have h_:=JH _ (dN aI);omega
  refine ca HE J (ec J e0) bT ?_
  rintro _ w2 ⟨a2,c2,rfl,dy,ep⟩
  have H5:=H4.eS ep
  refine k<|ef J J cS<|ai (v:=I 0) J J<|aq<|bk<|lp (fun m f w'=>∃(q:Nat) (D0:List (Int×Int)) (a3:OA) (c3:Nat),m=(de x0).length-q∧f 3=sL a3 D0 c3∧f 4=I (i:Int)∧f 9=sL bF mr bD∧f 10=I (mr.length:Int)∧f 11=I (i:Int)∧f 17=sL a2 (de x0) c2∧f 18=I ((de x0).length:Int)∧f 19=I (q:Int)∧HI M w w' [oL w 3 a2 (de x0) c2,iL a1 x0 c1,oL w 133 a3 D0 c3,J1,J0]∧(q≤(de x0).length)∧(D0=lj mr i++((de x0).take q).map fun j=>(((i:Nat):Int),j))) _ ⟨0,xs,a0,c0,J,s0,J,s1,s2,s3,J,J,(bN J),H5,aj,(by rw[hs];simp)⟩ ?_
  rintro _ f1 w3 ⟨q,D0,a3,c3,rfl,s4,s5,s6,s7,s8,s9,eC,fj,H6,sI,gN⟩
  refine az<|k<|lss J J fj eC<|aq<|sq<|cd (b:=decide ((q:Int)<((de x0).length:Int))) J J (fun b1=>?_)<|fun b1=>?_
  ·
   have p1:=dT b1
   refine sk<|nx<|sq<|bk<|az<|k<|iq (H6.at_ 0 J) J J s9 fj aj cS aS ?_
   intro g0 x1 iC bV gG
   refine k<|mV gG aS J J ?_
   intro ei
   refine ak (v:=I x1) J J<|aq<|rg<|ai J s4<|ai J s5<|ai (v:=I x1) J J<|k<|bd (v:=.agg #[I (i:Int),I x1]) J (cz J<|cz J eI) (fun _=>aU)<|k<|bs (xs:=([((i:Int),x1)]:List (Int×Int))) (cells:=#[I (i:Int),I x1]) (e:=133) H6 J (cz J eI) (fun _=>aU) ⟨[I (i:Int),I x1],[],J,⟨_,_,J,⟨J,(show aL ((i:Int)) from aT)⟩,⟨J,(show aL (x1) from aT)⟩⟩,J⟩ J au ?_
   intro g1 w4 fe H7
   refine k<|me H7 3 J J J J J J (ib<|H7.at_ 0 J) Pa FU J (by have BQ:=Ec JH i;have jj:=mT x0;have XQ:=JH _ (dN aI);rw[gN,fN,ane,iu];simp only[iB,gj];omega) J ?_
   intro a4 c4 w5 (H8:HI M w w5 [own w.heap.size 133 (.slice (some ⟨g1,0,none⟩) 1 1) ([((i:Int),x1)]:List (Int×Int)),oL w 3 a2 (de x0) c2,iL a1 x0 c1,oL w 133 a4 (D0++([((i:Int),x1)]:List (Int×Int))) c4,J1,J0])
   refine ak (v:=sL a4 (D0++([((i:Int),x1)]:List (Int×Int))) c4) J J<|z<|aF<|nx<|rg<|k<|add J J fj J (by have jj:=mT x0;have XQ:=JH _ (dN aI);unfold aL;omega)<|ai (v:=I ((q:Int)+1)) J J<|z ?_
   have H9:HI M w w5 [oL w 3 a2 (de x0) c2,iL a1 x0 c1,oL w 133 a4 (D0++([((i:Int),x1)]:List (Int×Int))) c4,J1,J0]:=H8.bZ [1,2,3,4,5] au J
   refine bG _ ?_ ⟨(q+1),(D0++([((i:Int),x1)]:List (Int×Int))),a4,c4,J,J,s5,s6,s7,s8,s9,eC,(bN J),H9,aj,(by rw[gN];exact RJ bV)⟩
   omega
  have p1:=dF b1
  refine ex<|aV<|bf<|bh<|aF<|nx<|rg<|k<|add J J s8 J aT<|ai (v:=I ((i:Int)+1)) J J<|z ?_
  have H7:HI M w w3 [oL w 133 a3 D0 c3,J1,J0]:=H6.bZ [2,3,4] au J
  refine bG _ ?_ ⟨(i+1),D0,a3,c3,J,s4,s6,s7,(bN J),H7,aj,(by rw[gN];exact UI aI aj)⟩
  omega
 have p0:=dF b0
 refine ex<|aV<|bf<|bh<|cV<|ai J s0<|ak (v:=sL a0 xs c0) J J<|aq<|rt<|r1 J J ?_
 have e0:(xs:List (Int×Int))=iO mn mr:=by rw[hs];exact RI aj aj
 have bu:=iD (fun (cq:List (Int×Int))=>(.slice a0 cq.length c0:Value)) e0
 exact⟨a0,c0,bu,H3.below,(amz (fun (x_:List (Int×Int))=>RV _ _ (.slice a0 x_.length c0) x_) e0).mp (H3.mu 0 J)⟩
theorem abl {an:Int} {Ic:OA} {HW:Nat} {ar:List (List bt)} {bn:Int} {Ib:OA} {HV:Nat} {br:List (List bt)} (hM:eU M w) (alY:aL an) (acz:cL M w Ic HW ar) (alX:aL bn) (acy:cL M w Ib HV br) (ak9:((ar.length:Nat):Int)=an) (aeA:∀x∈ar,x.length≤1000000000) (alc:an≤4096) (ak8:((br.length:Nat):Int)=bn) (aez:∀x∈br,x.length≤1000000000) (alb:bn≤4096):Calls aJ 96 #[.agg #[I an,sL Ic ar HW],.agg #[I bn,sL Ib br HV]] w (cA fun v w'=>∃(a0:OA) (c0:Nat),v=.tuple #[.agg #[I (tk an bn),.slice a0 (lX an ar bn br).length c0],I (xB an bn)]∧Ext w w'∧bj M 144 w (lX an ar bn br) (.slice a0 (lX an ar bn br).length c0) w'):=by
 refine dH 41 Tryz.func96 J J J hM fun f0 ha H=>?_
 let J0:=iL Ic ar HW
 have H0:=H.put (it:=J0) J<|by rw[bS];exact acz
 let J1:=iL Ib br HV
 have H1:=H0.put (it:=J1) J<|by rw[aH rfl,bS];exact acy
 have ak7:=bl acz
 have ak6:=bl acy
 have i0:f0 0=.agg #[I an,sL Ic ar HW]:=ha 0 bm
 have i1:f0 1=.agg #[I bn,sL Ib br HV]:=ha 1 bm
 refine az<|k<|bx H1 J i0 ?_
 intro aZ w0 bY (H2:HI M w w0 [box aZ #[I an,sL Ic ar HW] 26,J1,J0])
 let J2:=box aZ #[I an,sL Ic ar HW] 26
 refine k<|bx H2 J i1 ?_
 let bc:=[J2,J1,J0]
 intro ba w1 dy (H3:HI M w w1 (box ba #[I bn,sL Ib br HV] 26::bc))
 let J3:=box ba #[I bn,sL Ib br HV] 26
 refine k<|al H3 bp ?_
 intro bL w2 fe (H4:HI M w w2 (box bL #[I 0,.slice none 0 0] 26::J3::bc))
 let J4:=box bL #[I 0,.slice none 0 0] 26
 refine ak (v:=I 0) J J<|aq<|sq<|az<|aR km J J<|bq H4 2 J aS J J J<|aR km J J<|bq H4 1 J aS J J J<|k<|neq J J J J<|z<|nx<|cd (b:=!decide (an=bn)) J J (fun b0=>?_)<|fun b0=>?_
 ·
  have p0:=dF<|fX b0
  refine az<|k<|bd (v:=.agg #[I 0,.slice none 0 0]) J eI (fun _=>aU)<|k<|bw H4 0 J bp J J J J J J J ?_
  intro w3 (H5:HI M w w3 (J4::J3::bc))
  refine ak (v:=I 1) J J<|aq<|rt<|aK<|iA H5 0 J bp J J J J J au ?_
  have e0:(0:Int)=tk an bn:=by exact(K5 (ar:=ar) (br:=br) p0).1.symm
  have e1:([]:List (List bt))=lX an ar bn br:=by exact(K5 p0).2.1.symm
  have e2:(1:Int)=xB an bn:=by exact(K5 (ar:=ar) (br:=br) p0).2.2.symm
  have bu:=qX (fun (cq:Int) (dX:List (List bt)) (gQ:Int)=>(.tuple #[.agg #[I cq,.slice none dX.length 0],I gQ]:Value)) e0 e1 e2
  exact⟨none,0,bu,H5.below,(amz (fun (x_:List (List bt))=>bj _ _ _ x_ (.slice none x_.length 0) _) e1).mp (fU H5.below)⟩
 have p0:=dT<|fl b0
 refine sk<|cV<|aR km J J<|bq H4 2 J aS J J J<|k ?_
 have n0:((an.toNat:Nat):Int)=an:=anf aj
 refine mk (m:=an.toNat) (zx:=([]:(List bt))) H4 J J (by rw[n0];exact rfl) (by rw[n0];exact rfl) ie dt (fun _ _=>⟨_,J,KO _ _⟩) aj aj ?_
 intro g0 w3 fA (H5:HI M w w3 (own w.heap.size 144 (.slice (some ⟨g0,0,none⟩) an.toNat an.toNat) (List.replicate an.toNat ([]:(List bt)))::J4::J3::bc))
 refine ak (v:=.slice (some ⟨g0,0,none⟩) an.toNat an.toNat) J J<|aq<|sq<|az<|ai (v:=.slice (some ⟨g0,0,none⟩) an.toNat an.toNat) J J<|k<|ef J J ie<|ai (v:=I 0) J J<|aq<|bk<|lp (fun m f w'=>∃(j:Nat) (xs:List (List bt)),m=an.toNat-j∧f 2=pV aZ 0∧f 3=pV ba 0∧f 4=pV bL 0∧f 6=.slice (some ⟨g0,0,none⟩) an.toNat an.toNat∧f 18=I (an.toNat:Int)∧f 19=I (j:Int)∧HI M w w' (own w.heap.size 144 (.slice (some ⟨g0,0,none⟩) an.toNat an.toNat) xs::J4::J3::bc)∧(j≤an.toNat)∧(xs.length=an.toNat)∧(xs=u5 ar br an.toNat j)) _ ⟨0,(List.replicate an.toNat ([]:(List bt))),J,J,J,J,J,J,(bN J),H5,aj,bm,(by exact Nh _ _ _)⟩ ?_
 rintro _ f0 w4 ⟨j,xs,rfl,s0,s1,s2,s3,s4,s5,H6,hk,hl,hs⟩
 refine az<|k<|lss J J s5 s4<|aq<|sq<|cd (b:=decide ((j:Int)<(an.toNat:Int))) J J (fun b1=>?_)<|fun b1=>?_
 ·
  have p1:=dT b1
  refine sk<|nx<|sq<|bk<|az<|ai J s5<|ak (v:=I (j:Int)) J J<|z<|nx<|ma [.r,.r,.r,.r,.r,.r,.r,.r,.r,.r,.r,.r,.r,.e,.e] (fun _=>True) J aU (fun _ _=>trivial)<|yq J J<|kq (fun _ _=>mv J s3 e1)<|bQ<|kq (fun _ _=>mv (v:=I (j:Int)) J J e1)<|bQ<|kq (fun _ _=>fa iw J s0 e1)<|bQ<|kq (fun _ x_=>lx (H6.ext x_) 3 J kX J J J e1)<|bQ<|kq (fun _ _=>mv (v:=I (j:Int)) J J e1)<|bQ<|mR (H6.rv 5 J) J J J J aj ie dt ?_
  intro iE x0 aI cD
  refine bQ<|F3 cD.w dt J J ?_
  intro a0 c0 cE
  have BB:=bl cE
  have H7:=eu H6 cE
  refine bQ<|kq (fun _ _=>fa iw J s1 e1)<|bQ<|kq (fun _ x_=>lx (H7.ext x_) 3 J kX J J J e1)<|bQ<|kq (fun _ _=>mv (v:=I (j:Int)) J J e1)<|bQ<|mR (H7.rv 5 J) J J J J aj ie dt ?_
  intro rb x1 bV gG
  refine bQ<|F3 gG.w dt J J ?_
  intro a1 c1 ep
  have ln1:=bl ep
  have H8:=eu H7 ep
  refine zq<|yu J (fun _ v w'=>∃(a2:OA) (c2:Nat),v=sL a2 (jJ x0 x1) c2∧RV H6.gh w' (sL a2 (jJ x0 x1) c2) (jJ x0 x1)) J od J (fun v_ _ x_ _=>have dq:=aaO (a:=x0) (b:=x1) (w:=v_) (H8.ext x_).mb ((H8.ext x_).rv 1 rfl) ((H8.ext x_).rv 0 rfl) (by exact aeA _ (dN aI)) (by exact aez _ (dN bV));ca ae4 rfl (ec J<|ec J e0) dq (fun _ w6 ⟨a3,c3,e_,jh,ja⟩=>⟨_,J,jh,⟨a3,c3,e_,(mJ J<|mJ J<|bj.rv ja (H8.ext x_).mb)⟩⟩))<|ye<|ye<|yz ?_
  intro w7 f1 _ ki _ _ cK iK
  have cU:=H8.ext ki
  have s6:=(cK 2 J).trans s0
  have s7:=(cK 3 J).trans s1
  have s8:=(cK 4 J).trans s2
  have s9:=(cK 6 J).trans s3
  have eC:=(cK 18 J).trans s4
  have fj:=(cK 19 J).trans s5
  have fT:=cK 22 J
  have fS:=cK 23 J
  obtain⟨a4,c4,gF,iH⟩:=iK 0 _ _ rfl
  have d_:=eu cU iH
  refine j8<|iq (d_.at_ 3 J) J J fT fS aj ie dt ?_
  intro g1 x2 iC jb kB
  refine j8<|qf d_ 3 J iC J aj dt J J J gF (d_.rv 0 J) ?_
  let J5:=own w.heap.size 144 (.slice (some ⟨g0,0,none⟩) an.toNat an.toNat) (xs.set ((j:Int).toNat) (jJ x0 x1))
  intro w8 (dD:HI M w w8 [iL a4 (jJ x0 x1) c4,iL a1 x1 c1,iL a0 x0 c0,J5,J4,J3,J2,J1,J0])
  refine kz<|aF<|nx<|rg<|k<|add J J fj J aT<|ai (v:=I ((j:Int)+1)) J J<|z ?_
  have cY:HI M w w8 (J5::J4::J3::bc):=dD.bZ [3,4,5,6,7,8] au J
  refine bG _ ?_ ⟨(j+1),(xs.set ((j:Int).toNat) (jJ x0 x1)),J,s6,s7,s8,s9,eC,(bN J),cY,aj,(by simpa using hl),(by rw[hs];exact PJ aj aI bV)⟩
  omega
 have p1:=dF b1
 refine ex<|aV<|bf<|bh<|cV<|aR km J s0<|bq H6 3 J aS J J J<|ai J s3<|k<|bd (v:=.agg #[I an,.slice (some ⟨g0,0,none⟩) an.toNat an.toNat]) J (cz J<|cz J eI) (fun _=>aU)<|k<|bw H6 1 J bp J J s2 J J J J ?_
 intro w5 (H7:HI M w w5 (own w.heap.size 144 (.slice (some ⟨g0,0,none⟩) an.toNat an.toNat) xs::box bL #[I an,.slice (some ⟨g0,0,none⟩) an.toNat an.toNat] 26::J3::bc))
 refine ak (v:=I 0) J J<|aq<|rt<|iA H7 1 J bp J J J s2 J au ?_
 have e0:(an:Int)=tk an bn:=by exact(zW (ar:=ar) (br:=br) p0).1.symm
 have e1:(xs:List (List bt))=lX an ar bn br:=by rw[(zW p0).2.1,hs];exact PK aj hk
 have l1:an.toNat=(lX an ar bn br).length:=by rw[←e1];omega
 have e2:(0:Int)=xB an bn:=by exact(zW (ar:=ar) (br:=br) p0).2.2.symm
 have bu:=qX (fun (cq:Int) (u9:Nat) (gQ:Int)=>(.tuple #[.agg #[I cq,.slice (some ⟨g0,0,none⟩) u9 an.toNat],I gQ]:Value)) e0 l1 e2
 exact⟨(some ⟨g0,0,none⟩),an.toNat,bu,H7.below,(amz (fun (n_:Nat)=>bj _ _ _ (lX an ar bn br) (.slice (some ⟨g0,0,none⟩) n_ an.toNat) _) l1).mp ((amz (fun (x_:List (List bt))=>bj _ _ _ x_ (.slice (some ⟨g0,0,none⟩) an.toNat an.toNat) _) e1).mp (H7.du 0 J))⟩
set_option maxRecDepth 100000 in
set_option maxHeartbeats 1600000 in
theorem CG {M0:cb} {w0 w:aG} {l:List Go.Ew.Item} {i j:Nat} {MK O4:Option Addr} {Mp OT:Nat} (H:HI M0 w0 w l) (hi:l[i]? =some (own w0.heap.size 151 (sL MK a Mp) a)) (hj:l[j]? =some (own w0.heap.size 151 (sL O4 b OT) b)) (hlen:b.length≤a.length) (hlb:b.length≤1000000000) (gD:i≠j∨((sL MK a Mp:Value)=sL O4 b OT∧b=a)):Calls aJ 95 #[sL MK a Mp,sL O4 b OT] w (cA fun v w'=>v=.tuple #[]∧HI M0 w0 w' (l.set i (own w0.heap.size 151 (sL MK a Mp) (jJ a b)))):=by
  have jK:i<l.length:=(dU.1 hi).1
  refine enter 21 Tryz.func95 J J J fun f0 ha=>?_
  have i0:f0 0=.slice MK a.length Mp:=ha 0 bm
  have i1:f0 1=.slice O4 b.length OT:=ha 1 bm
  refine az<|ai (v:=.slice O4 b.length OT) J i1<|k<|ef J J ig<|ai (v:=.int .i64 0) J J<|aq<|bk<|lp (fun m f w'=>∃(q:Nat) (xs:List bt),m=b.length-q∧f 0=.slice MK a.length Mp∧f 6=.slice O4 b.length OT∧f 7=.int .i64 (b.length:Int)∧f 8=.int .i64 (q:Int)∧HI M0 w0 w' (l.set i (own w0.heap.size 151 (.slice MK a.length Mp) xs))∧q≤b.length∧xs.length=a.length∧xs=qa a.length a b a q) _ ⟨0,a,J,i0,J,J,J,(by rw[YM hi];exact H),an6 _,J,Cs _ _ _⟩ ?_
  rintro _ f1 w1 ⟨q,xs,rfl,s0,s1,s2,s3,H1,hk,hl,hs⟩
  refine az<|k<|lss J J s3 s2<|aq<|sq<|cd (b:=decide ((q:Int)<(b.length:Int))) J J (fun b1=>?_)<|fun b1=>?_
  ·
    have p1:=am' b1
    obtain⟨ys,LM,Aa,hyq⟩:=R8 hj jK gD hl hs hk hlen
    refine sk<|nx<|sq<|bk<|az<|ai J s3<|k<|iq (H1.at_ j LM) J J s1 s3 aj ig ft ?_
    intro g0 x0 iC aI cD
    have hxq:=hyq x0 aI
    refine k<|yF cD ft J J<|ak (v:=.int .i64 (q:Int)) J J<|ak (v:=ag x0) J J<|aq<|rg<|ai J s0<|ai (v:=.int .i64 (q:Int)) J J<|k<|iq (H1.at_ i<|KD jK) J J J J aj ig ft ?_
    intro g1 x1 kN bV gG
    refine k<|yF gG ft J J<|ai (v:=ag x0) J J<|k<|RM x1 x0 J J J J<|k<|iq (H1.at_ i<|KD jK) J J J J aj ig ft ?_
    intro g2 x2 BD jb kB
    refine k<|qf H1 i (KD jK) BD J aj ft J J J J (RV.bv.2 J) ?_
    intro w2 H2
    rw[set_set] at H2
    refine z<|aF<|nx<|rg<|k<|add J J s3 J aT<|ai (v:=.int .i64 ((q:Int)+1)) J J<|z<|bG _ ?_ ⟨(q+1),(xs.set ((q:Int).toNat) (x1 ||| x0)),J,s0,s1,s2,(bN J),H2,aj,(by simpa using hl),R7 hs hxq bV⟩
    omega
  ·
    have p1:=amG b1
    refine ex<|aV<|bf<|bh<|D9 J ?_
    exact⟨J,by rw[←Vc hs hlen aj];exact H1⟩
set_option maxRecDepth 100000 in
set_option maxHeartbeats 1600000 in
theorem Ff (hM:eU M w) (LW:aL n) (h0:0≤n) (h4:n≤4096):Calls aJ 121 #[I n] w (cA fun v w'=>∃(a0:Option Addr) (c0:Nat) (ss:List SV),v=.tuple #[.agg #[I n,.slice a0 n.toNat c0],I 0]∧Ext w w'∧JZ M 144 151 w ss (List.replicate n.toNat (eb n)) (.slice a0 n.toNat c0) w'):=by
  refine dH 29 Tryz.func121 J J J hM fun f0 ha H=>?_
  have i0:f0 0=.int .i64 n:=ha 0 bm
  refine az<|k<|al H bp ?_
  intro aZ w0 bY (H0:HI M w w0 [box aZ #[.int .i64 0,.slice none 0 0] 26])
  refine ak (v:=.int .i64 0) J J<|aq<|sq<|az<|ai J i0<|k<|lss J J J J<|ai (v:=.bool (decide (n<0))) J J ?_
  have b0:decide (n<0)=false:=amJ aj
  refine aQ J J J b0<|mv J i0<|aQ J J J b0<|gtr J J J J<|k<|cZ J J J J b0 J<|z<|nx<|cd (b:=decide (4096<n)) J J (fun b1=>?_)<|fun b1=>?_
  · exact absurd (am' b1) aj
  refine sk<|cV<|ai J i0<|k ?_
  have n0:((n.toNat:Nat):Int)=n:=anf aj
  refine mk (m:=n.toNat) (zx:=(⟨none,0,0⟩:SV)) H0 J J (by rw[n0];exact rfl) (by rw[n0];exact rfl) ie dt (fun _ _=>rfl) aj aj ?_
  intro g0 w1 dy (H1:HI M w w1 [own w.heap.size 144 (.slice (some ⟨g0,0,none⟩) n.toNat n.toNat) (List.replicate n.toNat (⟨none,0,0⟩:SV)),box aZ #[.int .i64 0,.slice none 0 0] 26])
  refine ak (v:=.slice (some ⟨g0,0,none⟩) n.toNat n.toNat) J J<|aq<|sq<|az<|ai (v:=.slice (some ⟨g0,0,none⟩) n.toNat n.toNat) J J<|k<|ef J J ie<|ai (v:=.int .i64 0) J J<|aq<|bk<|lp (fun m f w'=>∃(j:Nat) (ss:List SV),m=n.toNat-j∧f 0=.int .i64 n∧f 2=.pointer (some ⟨aZ,0,none⟩)∧f 4=.slice (some ⟨g0,0,none⟩) n.toNat n.toNat∧f 16=.int .i64 (n.toNat:Int)∧f 17=.int .i64 (j:Int)∧HI M w w' ([own w.heap.size 144 (.slice (some ⟨g0,0,none⟩) n.toNat n.toNat) (ss++List.replicate (n.toNat-j) (⟨none,0,0⟩:SV)),box aZ #[.int .i64 0,.slice none 0 0] 26]++bH w.heap.size 151 ss (List.replicate j<|eb n))∧j≤n.toNat∧ss.length=j) _ ⟨0,[],J,i0,J,J,J,J,H1,an6 _,J⟩ ?_
  rintro _ f0 w2 ⟨j,ss,rfl,s0,s1,s2,s3,s4,H2,hk,hl⟩
  refine az<|k<|lss J J s4 s3<|aq<|sq<|cd (b:=decide ((j:Int)<(n.toNat:Int))) J J (fun b2=>?_)<|fun b2=>?_
  ·
    have p2:=am' b2
    refine sk<|nx<|sq<|bk<|az<|ai J s4<|ak (v:=.int .i64 (j:Int)) J J<|aq<|rg<|ai J s2<|ai (v:=.int .i64 (j:Int)) J J<|ai J s0<|k ?_
    have bT:=Dy (n:=n) H2.mb aT aj
    refine ca Qk J (ec J e0) bT ?_
    rintro _ w3 ⟨a0,c0,rfl,fe,cE⟩
    have H3:=H2.eS cE
    have wm:j<(ss++List.replicate (n.toNat-j) (⟨none,0,0⟩:SV)).length:=by rw[fN,ot];omega
    refine k<|iq (H3.at_ 1 J) J J J J aj ie dt ?_
    intro g1 x0 iC aI cD
    refine k<|qf (yv:=(⟨a0,(eb n).length,c0⟩:SV)) H3 1 J iC J aj dt J J J J (RV.sv.2 J) ?_
    intro w4 H4
    have H5:HI M w w4 (own w.heap.size 151 (⟨a0,(eb n).length,c0⟩:SV).v (eb n)::([own w.heap.size 144 (.slice (some ⟨g0,0,none⟩) n.toNat n.toNat) ((ss++List.replicate (n.toNat-j) (⟨none,0,0⟩:SV)).set ((j:Int).toNat) ⟨a0,(eb n).length,c0⟩),box aZ #[.int .i64 0,.slice none 0 0] 26]++bH w.heap.size 151 ss (List.replicate j (eb n)))):=H4
    have H6:=H5.aaP<|by rw[ot];exact hl
    have es:(ss++List.replicate (n.toNat-j) (⟨none,0,0⟩:SV)).set ((j:Int).toNat) ⟨a0,(eb n).length,c0⟩=(ss++[⟨a0,(eb n).length,c0⟩])++List.replicate (n.toNat-(j+1)) (⟨none,0,0⟩:SV):=by
      rw[dM,an0 _ _ aj,hl,anD,show n.toNat-j=n.toNat-(j+1)+1 from by omega,anv,aoH];simp
    rw[es,←List.replicate_succ'] at H6
    refine z<|aF<|nx<|rg<|k<|add J J s4 J aT<|ai (v:=.int .i64 ((j:Int)+1)) J J<|z<|bG _ ?_ ⟨(j+1),(ss++[⟨a0,(eb n).length,c0⟩]),J,s0,s1,s2,s3,(bN J),H6,aj,(by rw[fN,hl];rfl)⟩
    omega
  ·
    have p2:=amG b2
    obtain rfl:j=n.toNat:=by omega
    rw[anD,List.replicate_zero,anR] at H2
    refine ex<|aV<|bf<|bh<|cV<|ai J s0<|ai J s2<|k<|bd (v:=.agg #[.int .i64 n,.slice (some ⟨g0,0,none⟩) n.toNat n.toNat]) J (cz J<|cz J eI) (fun _=>aU)<|k<|bw H2 1 J bp J J s1 J J J J ?_
    intro w3 H3
    have H4:HI M w w3 ([own w.heap.size 144 (.slice (some ⟨g0,0,none⟩) n.toNat n.toNat) ss,box aZ #[.int .i64 n,.slice (some ⟨g0,0,none⟩) n.toNat n.toNat] 26]++bH w.heap.size 151 ss (List.replicate n.toNat (eb n))):=H3
    refine ak (v:=.int .i64 0) J J<|aq<|rt<|iA H4 1 J bp J J J s1 J au ?_
    exact⟨(some ⟨g0,0,none⟩),n.toNat,ss,J,H4.below,by rw[ot];exact hl,H4.aN (l':=[own w.heap.size 144 (.slice (some ⟨g0,0,none⟩) n.toNat n.toNat) ss]) [0] au rfl rfl⟩
theorem GF:cH aJ 121:=cN Tryz.func121
theorem ae8:cH aJ 128:=cN Tryz.func128
theorem Pc:aJ.underlying 133=some (.array 2 3):=aU
theorem Fe (hM:eU M w) (hT:fW 0 w) (gk:aL mn) (gB:cL M w bF bD mr) (b9:bI mn mr=true):Calls aJ 87 #[.agg #[I mn,sL bF mr bD]] w (cA fun v w'=>∃(a0:OA) (c0:Nat),v=.agg #[I mn,.slice a0 (gL mn mr).length c0]∧Ext w w'∧bj M 144 w (gL mn mr) (.slice a0 (gL mn mr).length c0) w'):=by
 refine dH 39 Tryz.func87 J J J hM fun f0 ha H=>?_
 let J0:=iL bF mr bD
 have H0:=H.put (it:=J0) J<|by rw[bS];exact gB
 have np:=bl gB
 have i0:f0 0=.agg #[I mn,sL bF mr bD]:=ha 0 bm
 refine az<|k<|bx H0 J i0 ?_
 intro aZ w0 bY (H1:HI M w w0 [box aZ #[I mn,sL bF mr bD] 26,J0])
 let J1:=box aZ #[I mn,sL bF mr bD] 26
 refine k<|al H1 bp ?_
 let bc:=[J1,J0]
 intro ba w1 dy (H2:HI M w w1 (box ba #[I 0,.slice none 0 0] 26::bc))
 let J2:=box ba #[I 0,.slice none 0 0] 26
 refine bz<|aR km J J<|bq H2 1 J aS J J J<|k ?_
 have bT:=Ff (n:=mn) H2.mb gk (by exact kS b9)<|by exact(bR b9).2.2.1
 refine ca GF J (ec J e0) bT ?_
 rintro _ w2 ⟨a0,c0,fR,rfl,fe,cE⟩
 have H3:=H2.F8 cE
 let J3:=own w.heap.size 144 (.slice a0 mn.toNat c0) fR
 let ck:=J3::J2::bc
 have H4:HI M w w2 (ck++bH w.heap.size 151 fR (List.replicate mn.toNat (eb mn))):=H3
 have EU:=cE.1
 refine ai (v:=.tuple #[.agg #[I mn,.slice a0 mn.toNat c0],I 0]) J J<|k<|xt J J J<|k<|xt J J J<|k<|al H4 bp ?_
 intro bL w3 fA (H5:HI M w w3 ((box bL #[I 0,.slice none 0 0] 26::ck)++bH w.heap.size 151 fR (List.replicate mn.toNat (eb mn))))
 refine k<|bw H5 0 J bp J J J J J J J ?_
 let J4:=box bL #[I mn,.slice a0 mn.toNat c0] 26
 let dY:=J4::ck
 intro w4 (H6:HI M w w4 (dY++bH w.heap.size 151 fR (List.replicate mn.toNat (eb mn))))
 refine ak (v:=I 0) J J<|aq<|sq<|az<|k<|cI H6 3 J bp J J au J<|k ?_
 have dq:=R0 (mn:=mn) (mr:=mr) H6.mb (hT.ext H6.below) gk (H6.rv 4 J) (by exact(bR b9).1) (by exact(bR b9).2.1) (by exact(bR b9).2.2.1)<|by exact(bR b9).2.2.2.2
 refine ca ae8 J (ec J e0) dq ?_
 rintro _ w5 ⟨a1,c1,rfl,iz,ep⟩
 have H7:=H6.ext iz
 let J5:=iL a1 (iO mn mr) c1
 have H8:=H7.put (it:=J5) J ep
 have H9:HI M w w5 ((J5::dY)++bH w.heap.size 151 fR (List.replicate mn.toNat (eb mn))):=H8
 refine k<|ef J J Pa<|ai (v:=I 0) J J<|aq<|bk<|lp (fun m f w'=>∃(j:Nat) (xs:List (List bt)),m=(iO mn mr).length-j∧f 2=pV ba 0∧f 3=pV bL 0∧f 14=sL a1 (iO mn mr) c1∧f 15=I ((iO mn mr).length:Int)∧f 16=I (j:Int)∧HI M w w' ((J5::dY)++bH w.heap.size 151 fR xs)∧(j≤(iO mn mr).length)∧(fR.length=xs.length)∧(xs=foldM mn (((iO mn mr).map AK).take j))) _ ⟨0,(List.replicate mn.toNat<|eb mn),J,J,J,J,J,(bN J),H9,aj,(by exact cE.1),(by exact Q3 _ _)⟩ ?_
 rintro _ f0 w6 ⟨j,xs,rfl,s0,s1,s2,s3,s4,dz,hk,hl,hs⟩
 refine az<|k<|lss J J s4 s3<|aq<|sq<|cd (b:=decide ((j:Int)<((iO mn mr).length:Int))) J J (fun b0=>?_)<|fun b0=>?_
 ·
  have p0:=dT b0
  refine sk<|nx<|sq<|bk<|az<|k<|ia (dz.rv 0 J) J J s2 s4 aj Pa FU ?_
  intro iE x0 aI cD
  refine k<|nr cD.w FU J J ?_
  intro v0 ei
  obtain⟨_,⟨_,_,rfl,⟨rfl,fB⟩,⟨rfl,ja⟩⟩,rfl⟩:=ei
  refine k<|al dz FU ?_
  intro fq w7 jh (cB:HI M w w7 ((box fq #[I 0,I 0] 133::J5::dY)++bH w.heap.size 151 fR xs))
  refine k<|bw cB 0 J FU J J J J J J J ?_
  let J6:=box fq #[I x0.1,I x0.2] 133
  intro w8 (dx:HI M w w8 ((J6::J5::dY)++bH w.heap.size 151 fR xs))
  refine z<|nx ?_
  obtain⟨SP,SN,g3_,g4_⟩:=Pv b9 aI
  have xl_:xs.length=mn.toNat:=by rw[hs,CX]
  obtain⟨a2,x1,c2,lQ,l8⟩:=uq (i:=x0.2.toNat) dx bo aj
  obtain⟨x3,jb⟩:∃x,x1[(x0.1/64).toNat]? =some x:=⟨_,eR (by obtain⟨Ls,tT,k3_,k4_⟩:=xi (hs▸l8) SP SN;first|omega|exact⟨Ls,tT⟩)⟩
  refine dr 15 [eV (pV bL 1),eV (.slice a0 mn.toNat c0),eV (pV fq 1),fun v w'=>v=I x0.2∧aL (x0.2),fun v w'=>∃(g0:Nat),v=.pointer (some ⟨g0,x0.2.toNat*1,none⟩)∧(.slice a0 mn.toNat c0:Value).ownBlock=some g0∧hQ dx.gh w' ⟨g0,x0.2.toNat*1,none⟩ (⟨a2,x1.length,c2⟩:SV),eV (sL a2 x1 c2),eV (pV fq 0),fun v w'=>v=I x0.1∧aL (x0.1),eV (I<|x0.1/64),fun v w'=>∃(g1:Nat),v=.pointer (some ⟨g1,(x0.1/64).toNat*1,none⟩)∧(.slice a2 x1.length c2:Value).ownBlock=some g1∧hQ dx.gh w' ⟨g1,(x0.1/64).toNat*1,none⟩ x3,eV (ag x3),eV (pV fq 0),fun v w'=>v=I x0.1∧aL (x0.1),eV (I<|x0.1%64),eV (ag<|kh<|x0.1%64)] J aU ?_ ?_
  ·
   refine dc (fun _ _ Sw _ _=>fa iw J ((Sw 3 J).trans s1)<|d0 J J)<|dc (fun _ _ _ og IU=>lx (dx.ext og) 2 J kX J (IU 0 J J) J<|d0 J J)<|dc (fun _ _ LO _ _=>Xf J J (LO 6 J) J aj Pc aS<|d0 J J)<|dc (fun _ _ _ EM yI=>lx (dx.ext EM) 0 J aS J (yI 2 J J) J ⟨_,J,Ext.refl _,⟨J,ja⟩⟩) ?_
   refine⟨fun _=>⟨fun f5 jZ hf4 Ka Ek=>?_,by rintro _ _ _ x_ ⟨g0,e_,iC,gG⟩;exact⟨g0,e_,iC,gG.ext x_⟩⟩,?_⟩
   ·
    have dW:=dx.ext Ka
    have s7:f5 21=.slice a0 mn.toNat c0:=Ek 1 J J
    obtain⟨s8,jW⟩:f5 23=I x0.2∧aL (x0.2):=Ek 3 rfl rfl
    refine iq (dW.at_ 3 J) J J s7 s8 aj ie dt ?_
    intro g2 x4 BD qI tC
    obtain rfl:(⟨a2,x1.length,c2⟩:SV)=x4:=amE (lQ.symm.trans qI)
    exact⟨_,J,Ext.refl _,⟨g2,J,BD,tC⟩⟩
   refine dc (fun f6 rn XB O8 Ou=>?_) ?_
   ·
    obtain⟨g3,s9,Xk,ud⟩:∃(g3:Nat),f6 24=.pointer (some ⟨g3,x0.2.toNat*1,none⟩)∧(.slice a0 mn.toNat c0:Value).ownBlock=some g3∧hQ dx.gh rn ⟨g3,x0.2.toNat*1,none⟩ (⟨a2,x1.length,c2⟩:SV):=Ou 4 rfl rfl
    refine II ud dt J s9 ?_
    exact⟨_,J,Ext.refl _,J⟩
   refine dc (fun _ _ hf6 _ _=>Xf J J (hf6 6 J) J aj Pc aS<|d0 J J)<|dc (fun _ _ _ aaf IS=>lx (dx.ext aaf) 0 J aS J (IS 6 J J) J ⟨_,J,Ext.refl _,⟨J,fB⟩⟩)<|dc (fun f9 uV hf8 O7 BE=>?_) ?_
   ·
    obtain⟨fj,iH⟩:f9 27=I x0.1∧aL (x0.1):=BE 7 rfl rfl
    refine KC J J fj J ?_
    exact⟨_,J,Ext.refl _,J⟩
   refine⟨fun _=>⟨fun f10 yl hf9 T8 Ej=>?_,by rintro _ _ _ x_ ⟨g1,e_,kN,kB⟩;exact⟨g1,e_,kN,kB.ext x_⟩⟩,?_⟩
   ·
    have fg:=dx.ext T8
    have fT:f10 25=sL a2 x1 c2:=Ej 5 J J
    have fS:f10 28=I (x0.1/64):=Ej 8 J J
    refine iq (fg.at_ _<|pH lQ l8) J J fT fS (by obtain⟨Ls,tT,k3_,k4_⟩:=xi (hs▸l8) SP SN;first|omega|exact⟨Ls,tT⟩) ig ft ?_
    intro g4 x5 hv4 Ab OB
    obtain rfl:x3=x5:=amE (jb.symm.trans Ab)
    exact⟨_,J,Ext.refl _,⟨g4,J,hv4,OB⟩⟩
   refine dc (fun f11 zK Bc alo vU=>?_) ?_
   ·
    obtain⟨g5,gF,hv5,SL⟩:∃(g5:Nat),f11 29=.pointer (some ⟨g5,(x0.1/64).toNat*1,none⟩)∧(.slice a2 x1.length c2:Value).ownBlock=some g5∧hQ dx.gh zK ⟨g5,(x0.1/64).toNat*1,none⟩ x3:=vU 9 rfl rfl
    refine yF SL ft J gF ?_
    exact⟨_,J,Ext.refl _,J⟩
   refine dc (fun _ _ ahU _ _=>Xf J J (ahU 6 J) J aj Pc aS<|d0 J J)<|dc (fun _ _ _ ag4 LF=>lx (dx.ext ag4) 0 J aS J (LF 11 J J) J ⟨_,J,Ext.refl _,⟨J,fB⟩⟩)<|dc (fun f14 Q1 alP aln ahD=>?_) ?_
   ·
    obtain⟨kG,kR⟩:f14 32=I x0.1∧aL (x0.1):=ahD 12 rfl rfl
    refine JY J J kG J ?_
    exact⟨_,J,Ext.refl _,J⟩
   refine dc (fun f15 w24 alO alm ahC=>?_) ?_
   ·
    have lu:f15 33=I (x0.1%64):=ahC 13 J J
    have ff:=EP (i:=(x0.1%64)) (w:=w24) aT
    refine ca Qq J (ec lu e0) ff ?_
    rintro _ w25 ⟨rfl,ag3⟩
    exact⟨_,J,ag3,J⟩
   exact mi.rest J _
  ·
   intro f16 w26 LP ag2 P'
   have tN:=dx.ext ag2
   have mQ:=(LP 2 J).trans s0
   have mP:=(LP 3 J).trans s1
   have nM:=(LP 14 J).trans s2
   have pG:=(LP 15 J).trans s3
   have rI:=(LP 16 J).trans s4
   have BA:=P' 5 J
   have Cb:=P' 8 J
   have F1:=P' 10 J
   have Bz:=P' 14 J
   refine k<|RM x3 (kh<|x0.1%64) J J F1 Bz<|k<|iq (tN.at_ _<|pH lQ l8) J J BA Cb (by obtain⟨Ls,tT,k3_,k4_⟩:=xi (hs▸l8) SP SN;first|omega|exact⟨Ls,tT⟩) ig ft ?_
   intro g6 x6 hv6 Sa hA7
   refine k<|qf tN _ (pH lQ l8) hv6 J (by obtain⟨Ls,tT,k3_,k4_⟩:=xi (hs▸l8) SP SN;first|omega|exact⟨Ls,tT⟩) ft J J J J (RV.bv.2 J) ?_
   intro WD qp
   have lO:=HI.zR (M:=fun _=>False) (it:=tv (.int .i64 0) (0:Int)) qp lQ
   have kP:HI M w WD ((J6::J5::dY)++bH w.heap.size 151 fR (xs.set x0.2.toNat (x1.set ((x0.1/64).toNat) (x3 ||| (kh (x0.1%64)))))):=lO
   refine z<|aF<|nx<|rg<|k<|add J J rI J (by have h_:=M5 b9;unfold aL;omega)<|ai (v:=I ((j:Int)+1)) J J<|z ?_
   have rX:HI M w WD ((J5::dY)++bH w.heap.size 151 fR (xs.set x0.2.toNat (x1.set ((x0.1/64).toNat) (x3 ||| (kh (x0.1%64)))))):=HI.aN (l:=(J6::J5::dY)) (l':=(J5::dY)) (t:=bH w.heap.size 151 fR (xs.set x0.2.toNat (x1.set ((x0.1/64).toNat) (x3 ||| (kh<|x0.1%64))))) kP [1,2,3,4,5,6] au J J
   refine bG _ ?_ ⟨(j+1),(xs.set x0.2.toNat (x1.set ((x0.1/64).toNat) (x3 ||| (kh<|x0.1%64)))),J,mQ,mP,nM,pG,(bN J),rX,aj,(by simp only[amA];exact hl),(by exact Q4 hs aI l8 jb SP SN)⟩
   omega
 have p0:=dF b0
 refine ex<|aV<|bf<|bh<|nx<|sq ?_
 have cB:HI M w w6 [own w.heap.size 144 (.slice a0 mn.toNat c0) xs,J5,J4,J2,J1,J0]:=HI.deep (l:=[J5,J4,J2,J1,J0]) (HI.aN (l:=(J5::dY)) (l':=[J3,J5,J4,J2,J1,J0]) (t:=bH w.heap.size 151 fR xs) dz [2,0,1,3,4,5] au J J) bo
 refine rg<|k<|cI cB 2 J bp J s1 au J<|k<|bw cB 3 J bp J J s0 J J J J ?_
 intro w7 (dx:HI M w w7 [own w.heap.size 144 (.slice a0 mn.toNat c0) xs,J5,J4,box ba #[I mn,.slice a0 mn.toNat c0] 26,J1,J0])
 refine aq<|rt<|pf dx 3 J bp J J s0 J au ?_
 have e1:(xs:List (List bt))=gL mn mr:=by exact Ua hs aj
 have l1:mn.toNat=(gL mn mr).length:=by rw[B4]
 have bu:=iD (fun (u9:Nat)=>(.agg #[I mn,.slice a0 u9 c0]:Value)) l1
 exact⟨a0,c0,bu,dx.below,(amz (fun (n_:Nat)=>bj _ _ _ (gL mn mr) (.slice a0 n_ c0) _) l1).mp ((amz (fun (x_:List (List bt))=>bj _ _ _ x_ (.slice a0 mn.toNat c0) _) e1).mp (dx.du 0 J))⟩
theorem LA (hM:eU M w) (gk:aL mn) (gB:cL M w bF bD mr) (b9:bI mn mr=true):Calls aJ 94 #[.agg #[I mn,sL bF mr bD]] w (cA fun v w'=>∃(a0:OA) (c0:Nat) (fR:List SV),v=.agg #[I mn,.slice a0 mn.toNat c0]∧Ext w w'∧JZ M 144 151 w fR mr (.slice a0 mn.toNat c0) w'):=by
 refine dH 30 Tryz.func94 J J J hM fun f0 ha H=>?_
 let J0:=iL bF mr bD
 have H0:=H.put (it:=J0) J<|by rw[bS];exact gB
 have np:=bl gB
 have i0:f0 0=.agg #[I mn,sL bF mr bD]:=ha 0 bm
 refine az<|k<|bx H0 J i0 ?_
 intro aZ w0 bY (H1:HI M w w0 [box aZ #[I mn,sL bF mr bD] 26,J0])
 let J1:=box aZ #[I mn,sL bF mr bD] 26
 refine k<|al H1 bp ?_
 intro ba w1 dy (H2:HI M w w1 [box ba #[I 0,.slice none 0 0] 26,J1,J0])
 let J2:=box ba #[I 0,.slice none 0 0] 26
 refine bz<|aR km J J<|bq H2 1 J aS J J J<|k ?_
 have bT:=Ff (n:=mn) H2.mb gk (by exact kS b9)<|by exact(bR b9).2.2.1
 refine ca GF J (ec J e0) bT ?_
 rintro _ w2 ⟨a0,c0,fR,rfl,fe,cE⟩
 have H3:=H2.F8 cE
 let J3:=own w.heap.size 144 (.slice a0 mn.toNat c0) fR
 let bc:=[J3,J2,J1,J0]
 have H4:HI M w w2 (bc++bH w.heap.size 151 fR (List.replicate mn.toNat (eb mn))):=H3
 have EU:=cE.1
 refine ai (v:=.tuple #[.agg #[I mn,.slice a0 mn.toNat c0],I 0]) J J<|k<|xt J J J<|k<|xt J J J<|k<|al H4 bp ?_
 intro bL w3 fA (H5:HI M w w3 ((box bL #[I 0,.slice none 0 0] 26::bc)++bH w.heap.size 151 fR (List.replicate mn.toNat (eb mn))))
 refine k<|bw H5 0 J bp J J J J J J J ?_
 let J4:=box bL #[I mn,.slice a0 mn.toNat c0] 26
 intro w4 (H6:HI M w w4 ((J4::bc)++bH w.heap.size 151 fR (List.replicate mn.toNat (eb mn))))
 refine ak (v:=I 0) J J<|aq<|sq<|az<|aR iw J J<|bq H6 3 J kX J J J<|k<|ef J J ie<|ai (v:=I 0) J J<|aq<|bk<|lp (fun m f w'=>∃(j:Nat) (xs:List (List bt)),m=mr.length-j∧f 2=pV ba 0∧f 3=pV bL 0∧f 14=sL bF mr bD∧f 15=I (mr.length:Int)∧f 16=I (j:Int)∧HI M w w' ((J4::bc)++bH w.heap.size 151 fR xs)∧(j≤mr.length)∧(fR.length=xs.length)∧(xs=mr.take j++List.replicate (mn.toNat-j) (eb mn))) _ ⟨0,(List.replicate mn.toNat<|eb mn),J,J,J,J,J,(bN J),H6,aj,(by exact cE.1),bm⟩ ?_
 rintro _ f0 w5 ⟨j,xs,rfl,s0,s1,s2,s3,s4,H7,hk,hl,hs⟩
 refine az<|k<|lss J J s4 s3<|aq<|sq<|cd (b:=decide ((j:Int)<(mr.length:Int))) J J (fun b0=>?_)<|fun b0=>?_
 ·
  have p0:=dT b0
  refine sk<|nx<|sq<|bk<|az<|ai J s4<|k<|ia (H7.rv 4 J) J J s2 s4 aj ie dt ?_
  intro iE x0 aI cD
  refine k<|wg cD.w dt J J ?_
  intro a1 c1 ep
  have BB:=bl ep
  have H8:=eu H7 ep
  let ck:=iL a1 x0 c1::J4::bc
  have H9:HI M w w5 (ck++bH w.heap.size 151 fR xs):=H8
  refine ak (v:=I (j:Int)) J J<|ak (v:=sL a1 x0 c1) J J<|z<|nx ?_
  have xl_:xs.length=mr.length:=by have h_:=(bR b9).1;rw[hs,fN,iu,ot];omega
  refine rg<|aR iw J s1<|bq H9 1 J kX J J J<|ai (v:=I (j:Int)) J J<|k ?_
  obtain⟨a2,x1,c2,lQ,l8⟩:=uq (i:=(j:Int).toNat) H9 bo aj
  refine iq (H9.at_ 2 J) J J J J aj ie dt ?_
  intro g0 x2 iC bV gG
  obtain rfl:(⟨a2,x1.length,c2⟩:SV)=x2:=amE (lQ.symm.trans bV)
  refine k<|II gG dt J J<|ai (v:=sL a1 x0 c1) J J<|k<|cpO H9 _ (pH lQ l8) J J J J J (H9.rv 0 J).src ig ft (by exact Y0 b9 hs aI l8) (by exact YZ b9 hs aI l8) ?_
  intro w6 cB
  have dz:=HI.zR (M:=fun _=>False) (it:=tv (.int .i64 0) (0:Int)) cB lQ
  have dx:HI M w w6 (ck++bH w.heap.size 151 fR (xs.set ((j:Int).toNat) x0)):=dz
  refine z<|aF<|nx<|rg<|k<|add J J s4 J aT<|ai (v:=I ((j:Int)+1)) J J<|z ?_
  have dI:HI M w w6 ((J4::bc)++bH w.heap.size 151 fR (xs.set ((j:Int).toNat) x0)):=HI.aN (l:=ck) (l':=(J4::bc)) (t:=bH w.heap.size 151 fR (xs.set ((j:Int).toNat) x0)) dx [1,2,3,4,5] au J J
  refine bG _ ?_ ⟨(j+1),(xs.set ((j:Int).toNat) x0),J,s0,s1,s2,s3,(bN J),dI,aj,(by simp only[amA];exact hl),(by exact UJ b9 hs aI)⟩
  omega
 have p0:=dF b0
 refine ex<|aV<|bf<|bh<|cV<|k<|cI H7 0 J bp J s1 au J<|k<|bw H7 2 J bp J J s0 J J J J ?_
 intro w6 (H8:HI M w w6 ([J4,J3,box ba #[I mn,.slice a0 mn.toNat c0] 26,J1,J0]++bH w.heap.size 151 fR xs))
 refine aq<|rt<|pf H8 2 J bp J J s0 J au ?_
 have e1:(xs:List (List bt))=mr:=by exact Y1 b9 hs aj
 have w1:fR.length=(xs).length:=by assumption
 exact⟨a0,c0,fR,J,H8.below,(amz (fun (x_:List (List bt))=>JZ _ 144 151 _ fR x_ (.slice a0 mn.toNat c0) _) e1).mp ⟨w1,HI.aN (l:=[box bL #[I mn,.slice a0 mn.toNat c0] 26,own w.heap.size 144 (.slice a0 mn.toNat c0) fR,box ba #[I mn,.slice a0 mn.toNat c0] 26,box aZ #[I mn,sL bF mr bD] 26,iL bF mr bD]) (l':=[own w.heap.size 144 (.slice a0 mn.toNat c0) fR]) (t:=bH w.heap.size 151 fR xs) H8 [1] au rfl rfl⟩⟩
theorem acL:cH aJ 94:=cN Tryz.func94
theorem Vu:cH aJ 95:=cN Tryz.func95
theorem Fv:cH aJ 64:=cN Tryz.func64
theorem wK (hM:eU M w) (gk:aL mn) (gB:cL M w bF bD mr) (b9:bI mn mr=true):Calls aJ 58 #[.agg #[I mn,sL bF mr bD]] w (cA fun v w'=>∃(a0:OA) (c0:Nat),v=.agg #[I mn,.slice a0 (fk mn mr).length c0]∧Ext w w'∧bj M 144 w (fk mn mr) (.slice a0 (fk mn mr).length c0) w'):=by
 refine dH 41 Tryz.func58 J J J hM fun f0 ha H=>?_
 let J0:=iL bF mr bD
 have H0:=H.put (it:=J0) J<|by rw[bS];exact gB
 have np:=bl gB
 have i0:f0 0=.agg #[I mn,sL bF mr bD]:=ha 0 bm
 have tX:=(bR b9).1;have I1:=(bR b9).2.2.1;have sN:=kS b9
 refine az<|k<|bx H0 J i0 ?_
 intro aZ w0 bY (H1:HI M w w0 [box aZ #[I mn,sL bF mr bD] 26,J0])
 let J1:=box aZ #[I mn,sL bF mr bD] 26
 refine k<|al H1 bp ?_
 intro ba w1 dy (H2:HI M w w1 [box ba #[I 0,.slice none 0 0] 26,J1,J0])
 let J2:=box ba #[I 0,.slice none 0 0] 26
 refine bz<|k<|cI H2 1 J bp J J au J<|k ?_
 have bT:=LA (mn:=mn) (mr:=mr) H2.mb gk (H2.rv 2 J)<|by exact b9
 refine ca acL J (ec J e0) bT ?_
 rintro _ w2 ⟨a0,c0,fR,rfl,fe,cE⟩
 have H3:=H2.F8 cE
 let J3:=own w.heap.size 144 (.slice a0 mn.toNat c0) fR
 have H4:HI M w w2 ([J3,J2,J1,J0]++bH w.heap.size 151 fR mr):=H3
 have EU:=cE.1
 refine k<|al H4 bp ?_
 intro bL w3 fA (H5:HI M w w3 ([box bL #[I 0,.slice none 0 0] 26,J3,J2,J1,J0]++bH w.heap.size 151 fR mr))
 refine k<|bw H5 0 J bp J J J J J J J ?_
 let J4:=box bL #[I mn,.slice a0 mn.toNat c0] 26
 intro w4 (H6:HI M w w4 ([J4,J3,J2,J1,J0]++bH w.heap.size 151 fR mr))
 refine aq<|sq<|az<|aR iw J J<|bq H6 0 J kX J J J<|k<|ef J J ie<|ai (v:=I 0) J J<|aq<|bk<|lp (fun m f w'=>∃(q:Nat) (xs:List (List bt)),m=mn.toNat-q∧f 2=pV ba 0∧f 3=pV bL 0∧f 10=I (mn.toNat:Int)∧f 11=I (q:Int)∧HI M w w' ([J4,J3,J2,J1,J0]++bH w.heap.size 151 fR xs)∧(q≤mn.toNat)∧(fR.length=xs.length)∧(xs=cJ mn.toNat (wM (gi mr) q))∧(xs.length=mn.toNat)) _ ⟨0,mr,J,J,J,J,(bN J),H6,aj,(by exact EU),(by exact Nn b9),aj⟩ ?_
 rintro _ f0 w5 ⟨q,xs,rfl,s0,s1,s2,s3,H7,hk,hl,hs,Ef⟩
 refine az<|k<|lss J J s3 s2<|aq<|sq<|cd (b:=decide ((q:Int)<(mn.toNat:Int))) J J (fun b0=>?_)<|fun b0=>?_
 ·
  have p0:=dT b0
  refine sk<|nx<|sq<|bk<|az<|ai J s3<|ak (v:=I (q:Int)) J J<|bz<|aR iw J s1<|bq H7 0 J kX J J J<|k<|ef J J ie<|ai (v:=I 0) J J<|aq<|bk<|lp (fun m f w'=>∃(i:Nat) (ys:List (List bt)),m=mn.toNat-i∧f 2=pV ba 0∧f 3=pV bL 0∧f 4=I (q:Int)∧f 10=I (mn.toNat:Int)∧f 11=I (q:Int)∧f 16=I (mn.toNat:Int)∧f 17=I (i:Int)∧HI M w w' ([J4,J3,J2,J1,J0]++bH w.heap.size 151 fR ys)∧(i≤mn.toNat)∧(fR.length=ys.length)∧(ys=cJ mn.toNat (wR (gi mr) q i))∧(ys.length=mn.toNat)) _ ⟨0,xs,J,s0,s1,J,s2,s3,J,(bN J),H7,aj,(by exact hl),(by rw[hs];exact Yz _ _ _),(by exact Ef)⟩ ?_
  rintro _ f1 w6 ⟨i,ys,rfl,s4,s5,s6,s7,s8,s9,eC,H8,Xy,pj,gN,Aa⟩
  refine az<|k<|lss J J eC s9<|aq<|sq<|cd (b:=decide ((i:Int)<(mn.toNat:Int))) J J (fun b1=>?_)<|fun b1=>?_
  ·
   have p1:=dT b1
   refine sk<|nx<|sq<|bk<|az<|ai J eC<|ak (v:=I (i:Int)) J J<|bz<|aR iw J s5<|bq H8 0 J kX J J J<|ai (v:=I (i:Int)) J J<|k ?_
   obtain⟨a1,x0,c1,lQ,l8⟩:=uq (i:=(i:Int).toNat) H8 bo aj
   refine iq (H8.at_ 1 J) J J J J aj ie dt ?_
   intro g0 x1 iC aI cD
   obtain rfl:(⟨a1,x0.length,c1⟩:SV)=x1:=amE (lQ.symm.trans aI)
   refine k<|II cD dt J J<|ai J s6<|k ?_
   have dq:=zQ (r:=x0) (i:=(q:Int)) (w:=w6) (M:=fun _=>False) (fun _ h_=>h_.elim) (aaN H8 lQ l8) aT
   refine ca L1 J (ec J<|ec J e0) dq ?_
   rintro _ w7 ⟨rfl,iz⟩
   have H9:=H8.ext iz
   refine z<|nx<|cd (b:=fm x0 (q:Int)) J J (fun b2=>?_)<|fun b2=>?_
   ·
    obtain⟨a2,x3,c2,Gt,Sj⟩:=uq (i:=(q:Int).toNat) H9 bo aj
    refine dr 10 [eV (pV bL 1),eV (.slice a0 mn.toNat c0),eV (I (i:Int)),fun v w'=>∃(g1:Nat),v=.pointer (some ⟨g1,(i:Int).toNat*1,none⟩)∧(.slice a0 mn.toNat c0:Value).ownBlock=some g1∧hQ H9.gh w' ⟨g1,(i:Int).toNat*1,none⟩ (⟨a1,x0.length,c1⟩:SV),eV (sL a1 x0 c1),eV (pV bL 1),eV (.slice a0 mn.toNat c0),eV (I (q:Int)),fun v w'=>∃(g2:Nat),v=.pointer (some ⟨g2,(q:Int).toNat*1,none⟩)∧(.slice a0 mn.toNat c0:Value).ownBlock=some g2∧hQ H9.gh w' ⟨g2,(q:Int).toNat*1,none⟩ (⟨a2,x3.length,c2⟩:SV),eV (sL a2 x3 c2)] J aU ?_ ?_
    ·
     refine dc (fun _ _ Sw _ _=>fa iw J ((Sw 3 J).trans s5)<|d0 J J)<|dc (fun _ _ _ ki IU=>lx (H9.ext ki) 0 J kX J (IU 0 J J) J<|d0 J J)<|dc (fun _ _ LO _ _=>mv J (LO 5 J)<|d0 J J) ?_
     refine⟨fun _=>⟨fun f5 eB hf3 og yI=>?_,by rintro _ _ _ x_ ⟨g1,e_,kN,gG⟩;exact⟨g1,e_,kN,gG.ext x_⟩⟩,?_⟩
     ·
      have dI:=H9.ext og
      have fT:f5 28=.slice a0 mn.toNat c0:=yI 1 J J
      have fS:f5 29=I (i:Int):=yI 2 J J
      refine iq (dI.at_ 1 J) J J fT fS aj ie dt ?_
      intro g3 x5 Xk qI tC
      obtain rfl:(⟨a1,x0.length,c1⟩:SV)=x5:=amE (lQ.symm.trans qI)
      exact⟨_,J,Ext.refl _,⟨g3,J,Xk,tC⟩⟩
     refine dc (fun f6 fE hf4 BY Ek=>?_) ?_
     ·
      obtain⟨g4,gF,hv4,ud⟩:∃(g4:Nat),f6 30=.pointer (some ⟨g4,(i:Int).toNat*1,none⟩)∧(.slice a0 mn.toNat c0:Value).ownBlock=some g4∧hQ H9.gh fE ⟨g4,(i:Int).toNat*1,none⟩ (⟨a1,x0.length,c1⟩:SV):=Ek 3 rfl rfl
      refine II ud dt J gF ?_
      exact⟨_,J,Ext.refl _,J⟩
     refine dc (fun _ _ XB _ _=>fa iw J ((XB 3 J).trans s5)<|d0 J J)<|dc (fun _ _ _ Ka IT=>lx (H9.ext Ka) 0 J kX J (IT 5 J J) J<|d0 J J)<|dc (fun _ _ hf7 _ _=>mv J ((hf7 4 J).trans s6)<|d0 J J) ?_
     refine⟨fun _=>⟨fun f10 zL hf8 J' BE=>?_,by rintro _ _ _ x_ ⟨g2,e_,BD,kB⟩;exact⟨g2,e_,BD,kB.ext x_⟩⟩,?_⟩
     ·
      have dW:=H9.ext J'
      have kG:f10 33=.slice a0 mn.toNat c0:=BE 6 J J
      have lu:f10 34=I (q:Int):=BE 7 J J
      refine iq (dW.at_ 1 J) J J kG lu aj ie dt ?_
      intro g5 x6 hv5 Ab OB
      obtain rfl:(⟨a2,x3.length,c2⟩:SV)=x6:=amE (Gt.symm.trans Ab)
      exact⟨_,J,Ext.refl _,⟨g5,J,hv5,OB⟩⟩
     refine dc (fun f11 tP hf9 aaf Ej=>?_) ?_
     ·
      obtain⟨g6,mQ,hv6,SL⟩:∃(g6:Nat),f11 35=.pointer (some ⟨g6,(q:Int).toNat*1,none⟩)∧(.slice a0 mn.toNat c0:Value).ownBlock=some g6∧hQ H9.gh tP ⟨g6,(q:Int).toNat*1,none⟩ (⟨a2,x3.length,c2⟩:SV):=Ej 8 rfl rfl
      refine II SL dt J mQ ?_
      exact⟨_,J,Ext.refl _,J⟩
     exact mi.rest J _
    ·
     intro f12 uV Bc O7 vU
     have cQ:=H9.ext O7
     have mP:=(Bc 2 J).trans s4
     have nM:=(Bc 3 J).trans s5
     have pG:=(Bc 4 J).trans s6
     have rI:=(Bc 10 J).trans s7
     have BA:=(Bc 11 J).trans s8
     have Cb:=(Bc 16 J).trans s9
     have F1:=(Bc 17 J).trans eC
     have Bz:=vU 4 J
     have F0:=vU 9 J
     refine k ?_
     have fP:=CG cQ (pH (l:=[J4,J3,J2,J1,J0]) lQ l8) (pH (l:=[J4,J3,J2,J1,J0]) Gt Sj) (by have Tf:=l8;rw[gN] at Tf;have Te:=Sj;rw[gN] at Te;rw[Kf Tf,Kf Te];exact amD _) (by have Te:=Sj;rw[gN] at Te;rw[Kf Te];have h_:=EO (n:=((mn.toNat:Nat):Int)) aj;omega)<|Zo lQ Gt l8 Sj
     refine ca Vu J (ec Bz<|ec F0 e0) fP ?_
     rintro _ yl ⟨rfl,dO⟩
     have eh:=HI.zR (M:=fun _=>False) (it:=tv (.int .i64 0) (0:Int)) dO lQ
     have fg:HI M w yl ([J4,J3,J2,J1,J0]++bH w.heap.size 151 fR (ys.set ((i:Int).toNat) (jJ x0 x3))):=eh
     refine z<|aF<|nx<|rg<|k<|add J J F1 J aT<|ai (v:=I ((i:Int)+1)) J J<|z<|bG _ ?_ ⟨(i+1),(ys.set ((i:Int).toNat) (jJ x0 x3)),J,mP,nM,pG,rI,BA,Cb,(bN J),fg,aj,(by rw[amA];exact pj),(by exact aal gN l8 Sj aj b2),(by rw[amA];exact Aa)⟩
     omega
   refine sk<|aF<|nx<|rg<|k<|add J J eC J aT<|ai (v:=I ((i:Int)+1)) J J<|z<|bG _ ?_ ⟨(i+1),ys,J,s4,s5,s6,s7,s8,s9,(bN J),H9,aj,(by exact pj),(by exact aeb gN l8 aj b2),(by exact Aa)⟩
   omega
  have p1:=dF b1
  refine ex<|aV<|bf<|bh<|aF<|nx<|rg<|k<|add J J s8 J aT<|ai (v:=I ((q:Int)+1)) J J<|z<|bG _ ?_ ⟨(q+1),ys,J,s4,s5,s7,(bN J),H8,aj,(by exact pj),(by rw[gN];exact aam _ aj),(by exact Aa)⟩
  omega
 have p0:=dF b0
 refine ex<|aV<|bf<|bh<|nx<|sq ?_
 have H8:HI M w w5 [own w.heap.size 144 (.slice a0 mn.toNat c0) xs,J4,J2,J1,J0]:=HI.deep (l:=[J4,J2,J1,J0]) (HI.aN (l:=[J4,J3,J2,J1,J0]) (l':=[J3,J4,J2,J1,J0]) (t:=bH w.heap.size 151 fR xs) H7 [1,0,2,3,4] au J J) bo
 refine rg<|k<|cI H8 1 J bp J s1 au J<|k<|bw H8 2 J bp J J s0 J J J J ?_
 intro w6 (H9:HI M w w6 [own w.heap.size 144 (.slice a0 mn.toNat c0) xs,J4,box ba #[I mn,.slice a0 mn.toNat c0] 26,J1,J0])
 refine aq<|rt<|pf H9 2 J bp J J s0 J au ?_
 have e1:(xs:List (List bt))=fk mn mr:=by exact To hs aj aj
 have l1:mn.toNat=(fk mn mr).length:=by rw[←e1];omega
 have bu:=iD (fun (u9:Nat)=>(.agg #[I mn,.slice a0 u9 c0]:Value)) l1
 exact⟨a0,c0,bu,H9.below,(amz (fun (n_:Nat)=>bj _ _ _ (fk mn mr) (.slice a0 n_ c0) _) l1).mp ((amz (fun (x_:List (List bt))=>bj _ _ _ x_ (.slice a0 mn.toNat c0) _) e1).mp (H9.du 0 J))⟩
theorem yH (hM:eU M w) (gk:aL mn) (gB:cL M w bF bD mr) (b9:bI mn mr=true):Calls aJ 62 #[.agg #[I mn,sL bF mr bD]] w (cA fun v w'=>v=.tuple #[I (((cW mn mr).getD 0:Nat):Int),.bool ((cW mn mr).isSome)]∧Ext w w'):=by
 refine dH 17 Tryz.func62 J J J hM fun f0 ha H=>?_
 have H0:=eu H gB
 have np:=bl gB
 have i0:f0 0=.agg #[I mn,sL bF mr bD]:=ha 0 bm
 have tX:=(bR b9).1;have I1:=(bR b9).2.2.1;have sN:=kS b9
 refine az<|k<|bx H0 J i0 ?_
 intro aZ w0 bY (H1:HI M w w0 [box aZ #[I mn,sL bF mr bD] 26,iL bF mr bD])
 refine ak (v:=I 0) J J<|ak (v:=.bool false) J J<|aq<|sq<|az<|aR iw J J<|bq H1 0 J kX J J J<|k<|ef J J ie<|ai (v:=I 0) J J<|aq<|bk<|lp (fun m f w'=>∃(j:Nat),m=mr.length-j∧f 1=pV aZ 0∧f 7=I (mr.length:Int)∧f 8=I (j:Int)∧HI M w w' [box aZ #[I mn,sL bF mr bD] 26,iL bF mr bD]∧(j≤mr.length)∧(∀k,k<j→eL mn mr ((k:Nat):Int) ((k:Nat):Int)=false)) _ ⟨0,J,J,J,(bN J),H1,aj,(by intro k_ h_;omega)⟩ ?_
 rintro _ f0 w1 ⟨j,rfl,s0,s1,s2,H2,hk,hs⟩
 refine az<|k<|lss J J s2 s1<|aq<|sq<|cd (b:=decide ((j:Int)<(mr.length:Int))) J J (fun b0=>?_)<|fun b0=>?_
 ·
  have p0:=dT b0
  refine sk<|nx<|sq<|bk<|az<|ai J s2<|ak (v:=I (j:Int)) J J<|bz<|k<|cI H2 0 J bp J s0 au J<|ai (v:=I (j:Int)) J J<|ai (v:=I (j:Int)) J J<|k ?_
  have bT:=uz (mn:=mn) (mr:=mr) (i:=(j:Int)) (j:=(j:Int)) H2.mb gk (H2.rv 1 J) aT aT (by exact(bR b9).1) (by exact(bR b9).2.1)<|by exact(bR b9).2.2.1
  refine ca Fv J (ec J<|ec J<|ec J e0) bT ?_
  rintro _ w2 ⟨rfl,dy⟩
  have H3:=H2.ext dy
  refine z<|nx<|cd (b:=eL mn mr (j:Int) (j:Int)) J J (fun b1=>?_)<|fun b1=>?_
  ·
   refine az<|ai (v:=I (j:Int)) J J<|ak (v:=I (j:Int)) J J<|ak (v:=.bool true) J J<|aq<|rt<|bU<|aK<|ee<|bU<|aK<|r2 J J J ?_
   have e0:((j:Int):Int)=(((cW mn mr).getD 0:Nat):Int):=by rw[Li aj b1 hs];rfl
   have e1:(true:Bool)=(cW mn mr).isSome:=by rw[Li aj b1 hs];rfl
   have bu:=ny (fun (cq:Int) (dX:Bool)=>(.tuple #[I cq,.bool dX]:Value)) e0 e1
   exact⟨bu,H3.below⟩
  refine sk<|aF<|nx<|rg<|k<|add J J s2 J aT<|ai (v:=I ((j:Int)+1)) J J<|z<|bG _ ?_ ⟨(j+1),J,s0,s1,(bN J),H3,aj,(by exact QK (p:=fun k=>eL mn mr ((k:Nat):Int) ((k:Nat):Int)) hs b1)⟩
  omega
 have p0:=dF b0
 refine ex<|aV<|bf<|bh<|cV<|ak (v:=I 0) J J<|ak (v:=.bool false) J J<|aq<|rt<|r2 J J J ?_
 have e0:(0:Int)=(((cW mn mr).getD 0:Nat):Int):=by rw[IE aj hs];rfl
 have e1:(false:Bool)=(cW mn mr).isSome:=by rw[IE aj hs];rfl
 have bu:=ny (fun (cq:Int) (dX:Bool)=>(.tuple #[I cq,.bool dX]:Value)) e0 e1
 exact⟨bu,H2.below⟩
theorem Fi (hM:eU M w) (gk:aL mn) (gB:cL M w bF bD mr) (qS:aL i) (BO:aL j) (b9:bI mn mr=true):Calls aJ 66 #[.agg #[I mn,sL bF mr bD],I i,I j] w (cA fun v w'=>∃(a0:OA) (c0:Nat),v=.tuple #[.agg #[I (ik mn i j),.slice a0 (gY mn mr i j).length c0],I (lB mn i j)]∧Ext w w'∧RV M w' (.slice a0 (gY mn mr i j).length c0) (gY mn mr i j)):=by
 refine dH 71 Tryz.func66 J J J hM fun f0 ha H=>?_
 let J0:=iL bF mr bD
 have H0:=H.put (it:=J0) J<|by rw[bS];exact gB
 have np:=bl gB
 have i0:f0 0=.agg #[I mn,sL bF mr bD]:=ha 0 bm
 have i1:f0 1=I i:=ha 1 bm
 have i2:f0 2=I j:=ha 2 bm
 have tX:=(bR b9).1;have I1:=(bR b9).2.2.1;have sN:=kS b9
 refine az<|k<|bx H0 J i0 ?_
 intro aZ w0 bY (H1:HI M w w0 [box aZ #[I mn,sL bF mr bD] 26,J0])
 let J1:=box aZ #[I mn,sL bF mr bD] 26
 refine k<|al H1 bp ?_
 intro ba w1 dy (H2:HI M w w1 [box ba #[I 0,.slice none 0 0] 26,J1,J0])
 let J2:=box ba #[I 0,.slice none 0 0] 26
 refine ak (v:=I 0) J J<|aq<|sq<|az<|ai J i1<|k<|lss J J J J<|ai (v:=.bool (decide (i<0))) J J ?_
 rcases bE (decide (i<0)) with b0|b0
 ·
  have p0:=dT b0
  refine aX J J J b0<|aX J J J b0<|aX J J J b0<|aX J J J b0<|k<|aN J J J J b0 J<|ai (v:=.bool true) J J<|aX J J J J<|aX J J J J<|k<|aN J J J J J J<|ai (v:=.bool true) J J<|aX J J J J<|aX J J J J<|aX J J J J<|aX J J J J<|k<|aN J J J J J J<|aq<|oA J J J<|az<|k<|bd (v:=.agg #[I 0,.slice none 0 0]) J eI (fun _=>aU)<|k<|bw H2 0 J bp J J J J J J J ?_
  intro w2 (H3:HI M w w2 [J2,J1,J0])
  refine ak (v:=I 1) J J<|aq<|rt<|aK<|iA H3 0 J bp J J J J J au ?_
  have e0:(0:Int)=ik mn i j:=by exact(oH (rs:=mr)<|j7.2 aj).1.symm
  have e1:([]:List (List bt))=gY mn mr i j:=by exact(G8 (rs:=mr)<|j7.2 aj).2.1.symm
  have e2:(1:Int)=lB mn i j:=by exact(oH (rs:=mr)<|j7.2 aj).2.2.symm
  have bu:=qX (fun (cq:Int) (dX:List (List bt)) (gQ:Int)=>(.tuple #[.agg #[I cq,.slice none dX.length 0],I gQ]:Value)) e0 e1 e2
  exact⟨none,0,bu,H3.below,(amz (fun (x_:List (List bt))=>RV _ _ (.slice none x_.length 0) x_) e1).mp (eH _ _)⟩
 have p0:=dF b0
 refine aQ J J J b0<|mv J i1<|aQ J J J b0<|fa km J J<|aQ J J J b0<|lx H2 1 J aS J J J<|aQ J J J b0<|geq J J J J<|k<|cZ J J J J b0 J<|ai (v:=.bool (decide (mn≤i))) J J ?_
 rcases bE (decide (mn≤i)) with b1|b1
 ·
  have p1:=dT b1
  refine aX J J J b1<|aX J J J b1<|k<|aN J J J J b1 J<|ai (v:=.bool true) J J<|aX J J J J<|aX J J J J<|aX J J J J<|aX J J J J<|k<|aN J J J J J J<|aq<|oA J J J<|az<|k<|bd (v:=.agg #[I 0,.slice none 0 0]) J eI (fun _=>aU)<|k<|bw H2 0 J bp J J J J J J J ?_
  intro w2 (H3:HI M w w2 [J2,J1,J0])
  refine ak (v:=I 1) J J<|aq<|rt<|aK<|iA H3 0 J bp J J J J J au ?_
  have e0:(0:Int)=ik mn i j:=by exact(oH (rs:=mr)<|j7.2 aj).1.symm
  have e1:([]:List (List bt))=gY mn mr i j:=by exact(G8 (rs:=mr)<|j7.2 aj).2.1.symm
  have e2:(1:Int)=lB mn i j:=by exact(oH (rs:=mr)<|j7.2 aj).2.2.symm
  have bu:=qX (fun (cq:Int) (dX:List (List bt)) (gQ:Int)=>(.tuple #[.agg #[I cq,.slice none dX.length 0],I gQ]:Value)) e0 e1 e2
  exact⟨none,0,bu,H3.below,(amz (fun (x_:List (List bt))=>RV _ _ (.slice none x_.length 0) x_) e1).mp (eH _ _)⟩
 have p1:=dF b1
 refine aQ J J J b1<|mv J i2<|aQ J J J b1<|lss J J J J<|k<|cZ J J J J b1 J<|ai (v:=.bool (decide (j<0))) J J ?_
 rcases bE (decide (j<0)) with b2|b2
 ·
  have p2:=dT b2
  refine aX J J J b2<|aX J J J b2<|aX J J J b2<|aX J J J b2<|k<|aN J J J J b2 J<|aq<|oA J J J<|az<|k<|bd (v:=.agg #[I 0,.slice none 0 0]) J eI (fun _=>aU)<|k<|bw H2 0 J bp J J J J J J J ?_
  intro w2 (H3:HI M w w2 [J2,J1,J0])
  refine ak (v:=I 1) J J<|aq<|rt<|aK<|iA H3 0 J bp J J J J J au ?_
  have e0:(0:Int)=ik mn i j:=by exact(oH (rs:=mr)<|j7.2 aj).1.symm
  have e1:([]:List (List bt))=gY mn mr i j:=by exact(G8 (rs:=mr)<|j7.2 aj).2.1.symm
  have e2:(1:Int)=lB mn i j:=by exact(oH (rs:=mr)<|j7.2 aj).2.2.symm
  have bu:=qX (fun (cq:Int) (dX:List (List bt)) (gQ:Int)=>(.tuple #[.agg #[I cq,.slice none dX.length 0],I gQ]:Value)) e0 e1 e2
  exact⟨none,0,bu,H3.below,(amz (fun (x_:List (List bt))=>RV _ _ (.slice none x_.length 0) x_) e1).mp (eH _ _)⟩
 have p2:=dF b2
 refine aQ J J J b2<|mv J i2<|aQ J J J b2<|fa km J J<|aQ J J J b2<|lx H2 1 J aS J J J<|aQ J J J b2<|geq J J J J<|k<|cZ J J J J b2 J<|z<|nx<|cd (b:=decide (mn≤j)) J J (fun b3=>?_)<|fun b3=>?_
 ·
  have p3:=dT b3
  refine az<|k<|bd (v:=.agg #[I 0,.slice none 0 0]) J eI (fun _=>aU)<|k<|bw H2 0 J bp J J J J J J J ?_
  intro w2 (H3:HI M w w2 [J2,J1,J0])
  refine ak (v:=I 1) J J<|aq<|rt<|aK<|iA H3 0 J bp J J J J J au ?_
  have e0:(0:Int)=ik mn i j:=by exact(oH (rs:=mr)<|j7.2 aj).1.symm
  have e1:([]:List (List bt))=gY mn mr i j:=by exact(G8 (rs:=mr)<|j7.2 aj).2.1.symm
  have e2:(1:Int)=lB mn i j:=by exact(oH (rs:=mr)<|j7.2 aj).2.2.symm
  have bu:=qX (fun (cq:Int) (dX:List (List bt)) (gQ:Int)=>(.tuple #[.agg #[I cq,.slice none dX.length 0],I gQ]:Value)) e0 e1 e2
  exact⟨none,0,bu,H3.below,(amz (fun (x_:List (List bt))=>RV _ _ (.slice none x_.length 0) x_) e1).mp (eH _ _)⟩
 have p3:=dF b3
 refine sk<|nx<|sq<|sq ?_
 have hq:kA mn [i,j]=true:=jg.2 aj
 refine rg<|k<|cI H2 1 J bp J J au J<|ai J i1<|ai J i2<|k ?_
 have bT:=uz (mn:=mn) (mr:=mr) (i:=i) (j:=j) H2.mb gk (H2.rv 2 J) qS BO (by exact(bR b9).1) (by exact(bR b9).2.1)<|by exact(bR b9).2.2.1
 refine ca Fv J (ec J<|ec J<|ec J e0) bT ?_
 rintro _ w2 ⟨rfl,fe⟩
 have H3:=H2.ext fe
 refine z<|nx<|cd (b:=eL mn mr i j) J J (fun b4=>?_)<|fun b4=>?_
 ·
  refine az<|k<|cI H3 1 J bp J J au J<|k<|bw H3 0 J bp J J J J J J J ?_
  intro w3 (H4:HI M w w3 [box ba #[I mn,sL bF mr bD] 26,J1,J0])
  refine ak (v:=I 0) J J<|aq<|rt<|aK<|iA H4 0 J bp J J J J J au ?_
  have e0:(mn:Int)=ik mn i j:=by exact(pU (rs:=mr)<|jg.2 aj).1.symm
  have e1:(mr:List (List bt))=gY mn mr i j:=by exact(aab hq bo).symm
  have e2:(0:Int)=lB mn i j:=by exact(pU (rs:=mr)<|jg.2 aj).2.2.symm
  have bu:=qX (fun (cq:Int) (dX:List (List bt)) (gQ:Int)=>(.tuple #[.agg #[I cq,.slice bF dX.length bD],I gQ]:Value)) e0 e1 e2
  exact⟨bF,bD,bu,H4.below,(amz (fun (x_:List (List bt))=>RV _ _ (.slice bF x_.length bD) x_) e1).mp (H4.gm 2 J)⟩
 refine sk<|cV<|aR iw J J<|bq H3 1 J kX J J J<|ai J i2<|k<|ia (H3.rv 2 J) J J J J aj ie dt ?_
 intro iE x0 aI cD
 refine k<|wg cD.w dt J J ?_
 intro a0 c0 cE
 have BB:=bl cE
 let J3:=iL a0 x0 c0
 have H4:=H3.put (it:=J3) J cE
 refine ai J i2<|k ?_
 have dq:=ur (r:=x0) (i:=j) H4.mb (H4.rv 0 J) BO<|by exact(bR b9).2.1 _ (dN aI)
 refine ca Fs J (ec J<|ec J e0) dq ?_
 rintro _ w3 ⟨a1,c1,rfl,fA,ep⟩
 have H5:=H4.eS ep
 refine ak (v:=sL a1 (eo x0 j) c1) J J<|bz<|k<|cI H5 3 J bp J J au J<|k ?_
 have fP:=LA (mn:=mn) (mr:=mr) H5.mb gk (H5.rv 4 J)<|by exact b9
 refine ca acL J (ec J e0) fP ?_
 rintro _ w4 ⟨a2,c2,fR,rfl,iz,ei⟩
 have H6:=H5.F8 ei
 let J4:=own w.heap.size 144 (.slice a2 mn.toNat c2) fR
 let J5:=oL w 151 a1 (eo x0 j) c1
 have H7:HI M w w4 ([J4,J5,J3,J2,J1,J0]++bH w.heap.size 151 fR mr):=H6
 have EU:=ei.1
 refine k<|al H7 bp ?_
 intro bL w5 jh (H8:HI M w w5 ([box bL #[I 0,.slice none 0 0] 26,J4,J5,J3,J2,J1,J0]++bH w.heap.size 151 fR mr))
 refine k<|bw H8 0 J bp J J J J J J J ?_
 let J6:=box bL #[I mn,.slice a2 mn.toNat c2] 26
 intro w6 (H9:HI M w w6 ([J6,J4,J5,J3,J2,J1,J0]++bH w.heap.size 151 fR mr))
 refine aq<|sq<|az<|aR iw J J<|bq H9 0 J kX J J J<|k<|ef J J ie<|ai (v:=I 0) J J<|aq<|bk<|lp (fun m f w'=>∃(k_:Nat) (xs:List (List bt)),m=mn.toNat-k_∧f 1=I i∧f 3=pV aZ 0∧f 6=pV ba 0∧f 8=sL a1 (eo x0 j) c1∧f 9=pV bL 0∧f 46=I (mn.toNat:Int)∧f 47=I (k_:Int)∧HI M w w' ([J6,J4,J5,J3,J2,J1,J0]++bH w.heap.size 151 fR xs)∧(k_≤mn.toNat)∧(fR.length=xs.length)∧(xs=cJ mn.toNat (Aw (gi mr) i.toNat j.toNat k_))∧(xs.length=mn.toNat)) _ ⟨0,mr,J,i1,J,J,J,J,J,(bN J),H9,aj,(by exact EU),(by exact Wq b9),aj⟩ ?_
 rintro _ f0 w7 ⟨k_,xs,rfl,s0,s1,s2,s3,s4,s5,s6,dz,hk,hl,hs,Ef⟩
 refine az<|k<|lss J J s6 s5<|aq<|sq<|cd (b:=decide ((k_:Int)<(mn.toNat:Int))) J J (fun b5=>?_)<|fun b5=>?_
 ·
  have p5:=dT b5
  refine sk<|nx<|sq<|bk<|az<|ai J s6<|ak (v:=I (k_:Int)) J J<|bz<|ai (v:=I (k_:Int)) J J<|ai J s0<|k<|eql J J J J<|ai (v:=.bool (decide ((k_:Int)=i))) J J ?_
  rcases bE (decide ((k_:Int)=i)) with b6|b6
  ·
   have p6:=dT b6
   refine aX J J J b6<|aX J J J b6<|aX J J J b6<|aX J J J b6<|aX J J J b6<|aX J J J b6<|aX J J J b6<|k<|aN J J J J b6 J<|aq<|oA J J J<|rg<|aR iw J s4<|bq dz 0 J kX J J J<|ai (v:=I (k_:Int)) J J<|k ?_
   obtain⟨a3,x1,c3,lQ,l8⟩:=uq (i:=(k_:Int).toNat) dz bo aj
   refine iq (dz.at_ 1 J) J J J J aj ie dt ?_
   intro g0 x2 iC bV gG
   obtain rfl:(⟨a3,x1.length,c3⟩:SV)=x2:=amE (lQ.symm.trans bV)
   refine k<|II gG dt J J<|ai J s3<|k ?_
   have ff:=CG dz (pH (l:=[J6,J4,J5,J3,J2,J1,J0]) lQ l8) (j:=2) J (by rw[TV b9 hs l8,kF,nH b9 aI];exact amD _) (by rw[kF];exact(bR b9).2.1 _ (dN aI))<|.inl (by simp only[iB,gj];omega)
   refine ca Vu J (ec J<|ec J e0) ff ?_
   rintro _ w8 ⟨rfl,dx⟩
   have cB:=HI.zR (M:=fun _=>False) (it:=tv (.int .i64 0) (0:Int)) dx lQ
   have dI:HI M w w8 ([J6,J4,J5,J3,J2,J1,J0]++bH w.heap.size 151 fR (xs.set ((k_:Int).toNat) (jJ x1 (eo x0 j)))):=cB
   refine z<|aF<|nx<|rg<|k<|add J J s6 J aT<|ai (v:=I ((k_:Int)+1)) J J<|z<|bG _ ?_ ⟨(k_+1),(xs.set ((k_:Int).toNat) (jJ x1<|eo x0 j)),J,s0,s1,s2,s3,s4,s5,(bN J),dI,aj,(by rw[amA];exact hl),(by exact TU b9 hq hs l8 aI (.inl aj)),(by rw[amA];exact Ef)⟩
   omega
  have p6:=dF b6
  refine aQ J J J b6<|fa iw J s1<|aQ J J J b6<|lx dz 5 J kX J J J<|aQ J J J b6<|mv (v:=I (k_:Int)) J J<|aQ J J J b6<|ia (dz.rv 6 J) J J J J aj ie dt ?_
  intro rb x1 bV gG
  refine aQ J J J b6<|wg gG.w dt J J ?_
  intro a3 c3 fB
  have ln1:=bl fB
  have cB:=eu dz fB
  have dx:HI M w w7 ([iL a3 x1 c3,J6,J4,J5,J3,J2,J1,J0]++bH w.heap.size 151 fR xs):=cB
  refine aQ J J J b6<|mv J s0<|aQ J J J b6 ?_
  have ff:=zQ (r:=x1) (i:=i) dx.mb (dx.rv 0 J) qS
  refine ca L1 J (ec J<|ec J e0) ff ?_
  rintro _ w8 ⟨rfl,ki⟩
  have dI:=dx.ext ki
  refine k<|cZ J J J J b6 J<|z<|nx<|cd (b:=fm x1 i) J J (fun b7=>?_)<|fun b7=>?_
  ·
   refine rg<|aR iw J s4<|bq dI 1 J kX J J J<|ai (v:=I (k_:Int)) J J<|k ?_
   obtain⟨a4,x2,c4,lQ,l8⟩:=uq (i:=(k_:Int).toNat) dI bo aj
   refine iq (dI.at_ 2 J) J J J J aj ie dt ?_
   intro g0 x3 iC jb kB
   obtain rfl:(⟨a4,x2.length,c4⟩:SV)=x3:=amE (lQ.symm.trans jb)
   refine k<|II kB dt J J<|ai J s3<|k ?_
   have mc:=CG dI (pH (l:=[iL a3 x1 c3,J6,J4,J5,J3,J2,J1,J0]) lQ l8) (j:=3) J (by rw[TV b9 hs l8,kF,nH b9 aI];exact amD _) (by rw[kF];exact(bR b9).2.1 _ (dN aI))<|.inl (by simp only[iB,gj];omega)
   refine ca Vu J (ec J<|ec J e0) mc ?_
   rintro _ w9 ⟨rfl,d_⟩
   have cU:=HI.zR (M:=fun _=>False) (it:=tv (.int .i64 0) (0:Int)) d_ lQ
   have dD:HI M w w9 ([iL a3 x1 c3,J6,J4,J5,J3,J2,J1,J0]++bH w.heap.size 151 fR (xs.set ((k_:Int).toNat) (jJ x2 (eo x0 j)))):=cU
   refine z<|aF<|nx<|rg<|k<|add J J s6 J aT<|ai (v:=I ((k_:Int)+1)) J J<|z ?_
   have cY:HI M w w9 ([J6,J4,J5,J3,J2,J1,J0]++bH w.heap.size 151 fR (xs.set ((k_:Int).toNat) (jJ x2 (eo x0 j)))):=HI.aN (l:=[iL a3 x1 c3,J6,J4,J5,J3,J2,J1,J0]) (l':=[J6,J4,J5,J3,J2,J1,J0]) (t:=bH w.heap.size 151 fR (xs.set ((k_:Int).toNat) (jJ x2<|eo x0 j))) dD [1,2,3,4,5,6,7] au J J
   refine bG _ ?_ ⟨(k_+1),(xs.set ((k_:Int).toNat) (jJ x2<|eo x0 j)),J,s0,s1,s2,s3,s4,s5,(bN J),cY,aj,(by rw[amA];exact hl),(by exact TU b9 hq hs l8 aI (.inr ⟨_,bV,by assumption⟩)),(by rw[amA];exact Ef)⟩
   omega
  refine sk<|aF<|nx<|rg<|k<|add J J s6 J aT<|ai (v:=I ((k_:Int)+1)) J J<|z ?_
  have cU:HI M w w8 ([J6,J4,J5,J3,J2,J1,J0]++bH w.heap.size 151 fR xs):=HI.aN (l:=[iL a3 x1 c3,J6,J4,J5,J3,J2,J1,J0]) (l':=[J6,J4,J5,J3,J2,J1,J0]) (t:=bH w.heap.size 151 fR xs) dI [1,2,3,4,5,6,7] au J J
  refine bG _ ?_ ⟨(k_+1),xs,J,s0,s1,s2,s3,s4,s5,(bN J),cU,aj,(by exact hl),(by exact afy b9 hq hs aj bV bo),(by exact Ef)⟩
  omega
 have p5:=dF b5
 refine ex<|aV<|bf<|bh<|nx<|sq ?_
 have cB:HI M w w7 [own w.heap.size 144 (.slice a2 mn.toNat c2) xs,J6,J5,J3,J2,J1,J0]:=HI.deep (l:=[J6,J5,J3,J2,J1,J0]) (HI.aN (l:=[J6,J4,J5,J3,J2,J1,J0]) (l':=[J4,J6,J5,J3,J2,J1,J0]) (t:=bH w.heap.size 151 fR xs) dz [1,0,2,3,4,5,6] au J J) bo
 refine rg<|k<|cI cB 1 J bp J s4 au J<|k<|bw cB 4 J bp J J s2 J J J J ?_
 intro w8 (dx:HI M w w8 [own w.heap.size 144 (.slice a2 mn.toNat c2) xs,J6,J5,J3,box ba #[I mn,.slice a2 mn.toNat c2] 26,J1,J0])
 refine ak (v:=I 0) J J<|aq<|rt<|iA dx 4 J bp J J J s2 J au ?_
 have e0:(mn:Int)=ik mn i j:=by exact(pU (rs:=mr)<|jg.2 aj).1.symm
 have e1:(xs:List (List bt))=gY mn mr i j:=by exact adH b9 hq bo hs aj
 have l1:mn.toNat=(gY mn mr i j).length:=by rw[←e1];omega
 have e2:(0:Int)=lB mn i j:=by exact(pU (rs:=mr)<|jg.2 aj).2.2.symm
 have bu:=qX (fun (cq:Int) (u9:Nat) (gQ:Int)=>(.tuple #[.agg #[I cq,.slice a2 u9 c2],I gQ]:Value)) e0 l1 e2
 exact⟨a2,c2,bu,dx.below,(amz (fun (n_:Nat)=>RV _ _ (.slice a2 n_ c2)<|gY mn mr i j) l1).mp ((amz (fun (x_:List (List bt))=>RV _ _ (.slice a2 mn.toNat c2) x_) e1).mp (dx.mu 0 J))⟩
theorem Vw:cH aJ 87:=cN Tryz.func87
theorem NS (hM:eU M w) (hT:fW 0 w) (gk:aL mn) (gB:cL M w bF bD mr) (ua:aL o) (b9:bI mn mr=true):Calls aJ 100 #[.agg #[I mn,sL bF mr bD],I o] w (cA fun v w'=>∃(a0:OA) (c0:Nat),v=.slice a0 (eY mn mr o).length c0∧Ext w w'∧bj M 3 w (eY mn mr o) (.slice a0 (eY mn mr o).length c0) w'):=by
 refine dH 20 Tryz.func100 J J J hM fun f0 ha H=>?_
 have H0:=eu H gB
 have np:=bl gB
 have i0:f0 0=.agg #[I mn,sL bF mr bD]:=ha 0 bm
 have i1:f0 1=I o:=ha 1 bm
 have tX:=(bR b9).1;have I1:=(bR b9).2.2.1;have sN:=kS b9
 refine az<|k<|bx H0 J i0 ?_
 intro aZ w0 bY (H1:HI M w w0 [box aZ #[I mn,sL bF mr bD] 26,iL bF mr bD])
 refine ak (v:=.slice none 0 0) J J<|aq<|sq<|az<|ai J i1<|k<|lss J J J J<|ai (v:=.bool (decide (o<0))) J J ?_
 rcases bE (decide (o<0)) with b0|b0
 ·
  have p0:=dT b0
  refine aX J J J b0<|aX J J J b0<|aX J J J b0<|aX J J J b0<|k<|aN J J J J b0 J<|aq<|oA J J J<|az<|ak (v:=.slice none 0 0) J J<|aq<|rt<|aK<|r1 J J ?_
  have e0:([]:aA)=eY mn mr o:=by exact(KW aj).symm
  have bu:=iD (fun (cq:aA)=>(.slice none cq.length 0:Value)) e0
  exact⟨none,0,bu,H1.below,(amz (fun (x_:aA)=>bj _ _ _ x_ (.slice none x_.length 0) _) e0).mp (fU H1.below)⟩
 have p0:=dF b0
 refine aQ J J J b0<|mv J i1<|aQ J J J b0<|fa km J J<|aQ J J J b0<|lx H1 0 J aS J J J<|aQ J J J b0<|geq J J J J<|k<|cZ J J J J b0 J<|z<|nx<|cd (b:=decide (mn≤o)) J J (fun b1=>?_)<|fun b1=>?_
 ·
  have p1:=dT b1
  refine az<|ak (v:=.slice none 0 0) J J<|aq<|rt<|aK<|r1 J J ?_
  have e0:([]:aA)=eY mn mr o:=by exact(KW aj).symm
  have bu:=iD (fun (cq:aA)=>(.slice none cq.length 0:Value)) e0
  exact⟨none,0,bu,H1.below,(amz (fun (x_:aA)=>bj _ _ _ x_ (.slice none x_.length 0) _) e0).mp (fU H1.below)⟩
 have p1:=dF b1
 refine sk<|nx<|sq ?_
 have hq:0≤o∧o<mn:=by omega
 have gq:=B4 mn mr
 refine rg<|k<|cI H1 0 J bp J J au J<|k ?_
 have bT:=Fe (mn:=mn) (mr:=mr) H1.mb (hT.ext H1.below) gk (H1.rv 1 J)<|by exact b9
 refine ca Vw J (ec J e0) bT ?_
 rintro _ w1 ⟨a0,c0,rfl,dy,cE⟩
 have H2:=H1.eS cE
 refine k<|fd (v:=sL a0 (gL mn mr) c0) J J (fun _=>aU)<|ai J i1<|k<|iq (H2.at_ 0 J) J J J J aj ie dt ?_
 intro g0 x0 iC aI cD
 refine k<|wg cD dt J J ?_
 intro a1 c1 ep
 have H3:=eu H2 ep
 refine k ?_
 have dq:=uu (r:=x0) H3.mb (hT.ext H3.below) (H3.rv 0 J)<|by have h_:=xh b9 aI;omega
 refine ca HE J (ec J e0) dq ?_
 rintro _ w2 ⟨a2,c2,rfl,fe,ei⟩
 have H4:=H3.eS ei
 refine ak (v:=sL a2 (de x0) c2) J J<|aq<|rt<|r1 J J ?_
 have e0:(de x0:aA)=eY mn mr o:=by exact RD b9 hq aI
 have bu:=iD (fun (cq:aA)=>(.slice a2 cq.length c2:Value)) e0
 exact⟨a2,c2,bu,H4.below,(amz (fun (x_:aA)=>bj _ _ _ x_ (.slice a2 x_.length c2) _) e0).mp (H4.du 0 J)⟩
theorem u2 (hM:eU M w) (hT:fW 0 w) (gk:aL mn) (gB:cL M w bF bD mr) (ua:aL o) (b9:bI mn mr=true):Calls aJ 82 #[.agg #[I mn,sL bF mr bD],I o] w (cA fun v w'=>∃(a0:OA) (c0:Nat),v=.slice a0 (bP mn mr o).length c0∧Ext w w'∧bj M 3 w (bP mn mr o) (.slice a0 (bP mn mr o).length c0) w'):=by
 refine dH 22 Tryz.func82 J J J hM fun f0 ha H=>?_
 have H0:=eu H gB
 have np:=bl gB
 have i0:f0 0=.agg #[I mn,sL bF mr bD]:=ha 0 bm
 have i1:f0 1=I o:=ha 1 bm
 have tX:=(bR b9).1;have I1:=(bR b9).2.2.1;have sN:=kS b9
 refine az<|k<|bx H0 J i0 ?_
 intro aZ w0 bY (H1:HI M w w0 [box aZ #[I mn,sL bF mr bD] 26,iL bF mr bD])
 refine ak (v:=.slice none 0 0) J J<|aq<|sq<|az<|ai J i1<|k<|lss J J J J<|ai (v:=.bool (decide (o<0))) J J ?_
 rcases bE (decide (o<0)) with b0|b0
 ·
  have p0:=dT b0
  refine aX J J J b0<|aX J J J b0<|aX J J J b0<|aX J J J b0<|k<|aN J J J J b0 J<|aq<|oA J J J<|az<|ak (v:=.slice none 0 0) J J<|aq<|rt<|aK<|r1 J J ?_
  have e0:([]:aA)=bP mn mr o:=by exact(Kc aj).symm
  have bu:=iD (fun (cq:aA)=>(.slice none cq.length 0:Value)) e0
  exact⟨none,0,bu,H1.below,(amz (fun (x_:aA)=>bj _ _ _ x_ (.slice none x_.length 0) _) e0).mp (fU H1.below)⟩
 have p0:=dF b0
 refine aQ J J J b0<|mv J i1<|aQ J J J b0<|fa km J J<|aQ J J J b0<|lx H1 0 J aS J J J<|aQ J J J b0<|geq J J J J<|k<|cZ J J J J b0 J<|z<|nx<|cd (b:=decide (mn≤o)) J J (fun b1=>?_)<|fun b1=>?_
 ·
  have p1:=dT b1
  refine az<|ak (v:=.slice none 0 0) J J<|aq<|rt<|aK<|r1 J J ?_
  have e0:([]:aA)=bP mn mr o:=by exact(Kc aj).symm
  have bu:=iD (fun (cq:aA)=>(.slice none cq.length 0:Value)) e0
  exact⟨none,0,bu,H1.below,(amz (fun (x_:aA)=>bj _ _ _ x_ (.slice none x_.length 0) _) e0).mp (fU H1.below)⟩
 have p1:=dF b1
 refine sk<|nx<|sq ?_
 have hq:0≤o∧o<mn:=by omega
 have gq:=B4 mn mr
 refine rg<|k<|cI H1 0 J bp J J au J<|k ?_
 have bT:=Fe (mn:=mn) (mr:=mr) H1.mb (hT.ext H1.below) gk (H1.rv 1 J)<|by exact b9
 refine ca Vw J (ec J e0) bT ?_
 rintro _ w1 ⟨a0,c0,rfl,dy,cE⟩
 have H2:=H1.eS cE
 refine k<|fd (v:=sL a0 (gL mn mr) c0) J J (fun _=>aU)<|ai J i1<|k<|iq (H2.at_ 0 J) J J J J aj ie dt ?_
 intro g0 x0 iC aI cD
 refine k<|wg cD dt J J ?_
 intro a1 c1 ep
 have H3:=eu H2 ep
 refine ai J i1<|k ?_
 have dq:=ur (r:=x0) (i:=o) H3.mb (H3.rv 0 J) ua<|by have h_:=xh b9 aI;omega
 refine ca Fs J (ec J<|ec J e0) dq ?_
 rintro _ w2 ⟨a2,c2,rfl,fe,ei⟩
 have H4:=H3.eS ei
 refine k ?_
 have H5:=H4.freeze 0 J
 have fP:=uu (r:=(eo x0 o)) H5.mb (hT.ext H5.below) (H5.rv 0 J)<|by rw[kF];have h_:=xh b9 aI;omega
 refine ca HE J (ec J e0) fP ?_
 rintro _ w3 ⟨a3,c3,rfl,fA,fB⟩
 have H6:=H5.eS fB
 refine ak (v:=sL a3 (de<|eo x0 o) c3) J J<|aq<|rt<|r1 J J ?_
 have e0:(de (eo x0 o):aA)=bP mn mr o:=by exact QY b9 hq aI
 have bu:=iD (fun (cq:aA)=>(.slice a3 cq.length c3:Value)) e0
 exact⟨a3,c3,bu,H6.below,(amz (fun (x_:aA)=>bj _ _ _ x_ (.slice a3 x_.length c3) _) e0).mp (H6.du 0 J)⟩
theorem fF:gv aJ 47 1 1:=js Tryz.underlying47
theorem iZ:ey aJ 45 1 false 24 (.slice none 0 0):=⟨aU,aU⟩
theorem jv:aJ.underlying 45=some (.slice 95):=aU
theorem jB:ey aJ 95 5 true 40 (.agg #[.int .i64 0,.int .i64 0,.bool false,.int .i64 0,.int .i64 0]):=⟨aU,aU⟩
theorem vt:gv aJ 95 2 2:=js Tryz.underlying95
theorem oo:ey aJ 4 1 false 1 (.bool false):=⟨aU,aU⟩
theorem tD:gv aJ 95 3 3:=js Tryz.underlying95
theorem oU (Am:FPH aJ qk qq M w (fun rl=>own w.heap.size 3 (sL dV xs dL) rl) r xs p) (H:HI M w w_ ([oL w 3 dV xs dL]++r)):Calls aJ 107 #[sL dV xs dL,.func (.func qk) #[] qq.toArray] w_ (cA fun v w'=>v=.slice dV (aY p xs).length dL∧HI M w w' ([oL w 3 dV (aY p xs) dL]++r)):=by
 refine enter 42 Tryz.func107 J J J fun f0 ha=>?_
 have Gf:=kf<|H.at_ 0 J
 have i0:f0 0=sL dV xs dL:=ha 0 bm
 have i1:f0 1=.func (.func qk) #[] qq.toArray:=ha 1 bm
 refine az<|ak (v:=.slice none 0 0) J J<|bz<|ai J i0<|ai J i1<|k ?_
 have H0:=H.freeze 0 J
 have bT:=vT (r:=xs) (p:=p) H0.mb (H0.rv 0 J)<|Am.fp H
 refine ca Vv J (ec J<|ec J e0) bT ?_
 rintro _ w0 ⟨rfl,bY⟩
 have H2:=H.ext bY
 refine ak (v:=I (eO p xs)) J J<|aq<|sq<|az<|ai (v:=I (eO p xs)) J J<|k<|eql J J J J<|z<|nx<|cd (b:=decide ((eO p xs)=(-1))) J J (fun b0=>?_)<|fun b0=>?_
 ·
  have p0:=dT b0
  refine az<|ai J i0<|ak (v:=sL dV xs dL) J J<|aq<|rt<|aK<|r1 J J ?_
  have e0:(xs:List _)=(aY p xs):=by exact ZO bo
  try rw[←e0]
  refine⟨?_,?_⟩
  · first|rfl|simp only[e0]|(simp only[amA])
  · first|exact H2|simpa +zetaDelta only[e0,amA] using H2
 have p0:=dF b0
 refine sk<|nx<|sq<|sq ?_
 obtain⟨ahT,ahS,Qe⟩:=VS (p:=p) (xs:=xs) bo
 refine rg<|ai (v:=I (eO p xs)) J J<|k<|add J J J J aT<|ak (v:=I ((eO p xs)+1)) J J<|aq<|bk<|lp (fun m f w'=>∃(q:Int) (k_:Nat) (ys:aA),m=xs.length-k_∧f 0=sL dV xs dL∧f 1=.func (.func qk) #[] qq.toArray∧f 5=I q∧f 6=I (k_:Int)∧HI M w w' ([own w.heap.size 3 (.slice dV xs.length dL) ys]++r)∧(0≤q∧q<(k_:Int)∧k_≤xs.length)∧(DF p xs ys q k_)) _ ⟨(eO p xs),((eO p xs).toNat+1),xs,J,i0,i1,(bN J),(bN J),H2,aj,(by exact Qe)⟩ ?_
 rintro _ f0 w1 ⟨q,k_,ys,rfl,s0,s1,s2,s3,H3,sI,hs⟩
 refine sq<|az<|ai J s3<|ai J s0<|k<|ef J J cS<|k<|lss J J J J<|z<|nx<|cd (b:=decide ((k_:Int)<(xs.length:Int))) J J (fun b1=>?_)<|fun b1=>?_
 ·
  have p1:=dT b1
  refine sk<|nx<|sq<|bk<|az<|ai J s0<|ai J s3<|k<|iq (H3.at_ 0 J) J J J J (by have h_:=hs.1;first|omega|(simp only[fN,iu,ot,gj];omega)) cS aS ?_
  intro g0 x0 iC aI cD
  refine k<|mV cD aS J J ?_
  intro cE
  refine ak (v:=I x0) J J<|aq<|sq ?_
  have tX:=hs.1
  refine rg<|ai J s1<|ai (v:=I x0) J J<|k<|cf Am.1 J J J (ec J e0) (Am.2 _ _ H3 _ (by exact dN (by exact QF hs aI)) cE) ?_
  rintro _ w2 ⟨rfl,dy⟩
  have H4:=H3.ext dy
  have H5:HI M w w2 ([own w.heap.size 3 (.slice dV xs.length dL) ys]++r):=H4
  refine k<|kg J J<|z<|nx<|cd (b:=!(p x0)) J J (fun b2=>?_)<|fun b2=>?_
  ·
   refine az<|ai J s0<|ai J s2<|ai (v:=I x0) J J<|k<|iq (H5.at_ 0 J) J J J J (by have h_:=hs.1;first|omega|(simp only[fN,iu,ot,gj];omega)) cS aS ?_
   intro g1 x1 kN bV gG
   refine k<|qf H5 0 J kN J (by have h_:=hs.1;first|omega|(simp only[fN,iu,ot,gj];omega)) aS J J J J (RV.int.2 ⟨J,bo⟩) ?_
   intro w3 (H6:HI M w w3 ([own w.heap.size 3 (.slice dV xs.length dL) (ys.set q.toNat x0)]++r))
   refine aq<|rg<|ai J s2<|k<|add J J J J aT<|ak (v:=I (q+1)) J J<|z<|aF<|nx<|rg<|ai J s3<|k<|add J J J J aT<|ak (v:=I ((k_:Int)+1)) J J<|z<|bG _ ?_ ⟨(q+1),(k_+1),(ys.set q.toNat x0),J,s0,s1,(bN J),(bN J),H6,aj,(by exact ZP hs aI (by simpa using b2) aj aj)⟩
   omega
  refine sk<|aF<|nx<|rg<|ai J s3<|k<|add J J J J aT<|ak (v:=I ((k_:Int)+1)) J J<|z<|bG _ ?_ ⟨q,(k_+1),ys,J,s0,s1,(bN s2),(bN J),H5,aj,(by exact ZQ hs aI (by simpa using b2))⟩
  omega
 have p1:=dF b1
 refine ex<|aV<|bf<|bh<|cV<|ai J s0<|ai J s2<|k<|aaC (H3.at_ 0 J) J J J J (by have h_:=hs.1;first|omega|(simp only[fN,iu,ot,gj];omega)) cS aS<|k<|clO H3 0 J J J (q:=q.toNat) J cS aS (by have h_:=hs.1;omega) ?_
 intro w2 (H4:HI M w w2 ([own w.heap.size 3 (.slice dV xs.length dL) (ys.take q.toNat++(List.replicate (ys.length-q.toNat) (0:Int)++[]))]++r))
 refine bz<|ai J s0<|ai J s2<|k<|aem H4 0 J J J J J (by have h_:=hs.1;first|omega|(simp only[fN,iu,ot,gj];omega)) cS aS ?_
 intro (H5:HI M w w2 ([oL w 3 dV ((ys.take q.toNat++(List.replicate (ys.length-q.toNat) (0:Int)++[])).take q.toNat) dL]++r))
 refine ak (v:=sL dV ((ys.take q.toNat++(List.replicate (ys.length-q.toNat) (0:Int)++[])).take q.toNat) dL) J J<|aq<|rt<|r1 J J ?_
 have e0:((ys.take q.toNat++(List.replicate (ys.length-q.toNat) (0:Int)++[])).take q.toNat:List _)=(aY p xs):=by exact adh hs aj aj (by have h_:=hs.1;omega) _
 try rw[←e0]
 refine⟨?_,?_⟩
 · first|rfl|simp only[e0]|(simp only[amA])
 · first|exact H5|simpa +zetaDelta only[e0,amA] using H5
theorem I9 (hM:eU M w) (xO:cL M w mg mI l) (Xt:l.length≤1000000000):Calls aJ 133 #[sL mg l mI] w (cA fun v w'=>∃(a0:OA) (c0:Nat),v=sL a0 l c0∧Ext w w'∧bj M 3 w l (sL a0 l c0) w'):=by
 refine dH 8 Tryz.func133 J J J hM fun f0 ha H=>?_
 have H0:=eu H xO
 have i0:f0 0=sL mg l mI:=ha 0 bm
 refine az<|ak (v:=.slice none 0 0) J J<|aq<|sq<|az<|ai J i0<|k<|S9 J J J J cS<|z<|nx<|cd (b:=mg.isNone) J J (fun b0=>?_)<|fun b0=>?_
 ·
  refine az<|ak (v:=.slice none 0 0) J J<|aq<|rt<|aK<|r1 J J ?_
  have e0:([]:aA)=l:=by exact(Hp xO b0).symm
  have bu:=iD (fun (cq:aA)=>(.slice none cq.length 0:Value)) e0
  exact⟨none,0,bu,H0.below,(amz (fun (x_:aA)=>bj _ _ _ x_ (.slice none x_.length 0) _) e0).mp (fU H0.below)⟩
 refine sk<|cV<|k<|bs (xs:=([]:aA)) (cells:=#[]) (e:=3) H0 J eI (fun _=>aU) J J au ?_
 intro g0 w0 bY H1
 refine ai J i0<|k<|me H1 0 J J J J J J (H1.rv 1 J).src cS aS J (by simp;omega) J ?_
 intro a0 c0 w1 (H2:HI M w w1 [oL w 3 a0 l c0,iL mg l mI])
 refine ak (v:=sL a0 l c0) J J<|aq<|rt<|r1 J J ?_
 exact⟨a0,c0,J,H2.below,(H2.du 0 J)⟩
theorem KU (hM:eU M w) (qS:aL i) (dG:cL M w aw av U) (acr:aL vr) (CT:w.heap[ya]? =some (.cells #[.slice aC aD aB,sL aw U av,.slice ay fc ax] Hk (0,0))∧¬M ya) (h_c:w.heap[bO]? =some (.cells #[I vr] Ki (0,0))∧¬M bO):Calls aJ 136 #[I i,.pointer (some ⟨ya,0,none⟩),.pointer (some ⟨bO,0,none⟩)] w (cA fun v w'=>v=.bool (iM U vr i)∧Ext w w'):=by
 refine dH 33 Tryz.func136 J J J hM fun f0 ha H=>?_
 have H0:=eu H dG
 have iS:=bl dG
 have i0:f0 0=I i:=ha 0 bm
 have H1:=H0.put (it:=ro ya #[.slice aC aD aB,sL aw U av,.slice ay fc ax] Hk) J<|by rw[aH rfl,bS];exact CT
 have i1:f0 1=pV ya 0:=ha 1 bm
 have H2:=H1.put (it:=ro bO #[I vr] Ki) J<|by rw[aH rfl,aH rfl,bS];exact h_c
 have i2:f0 2=pV bO 0:=ha 2 bm
 refine az<|ak (v:=.bool false) J J<|aq<|sq<|yT J aU<|kq (fun _ _=>mv J i0 e1)<|kq (fun _ _=>lss J J J J e1)<|kq (fun _ _=>mv (v:=.bool (decide (i<0))) J J e1) ?_
 rcases bE (decide (i<0)) with b0|b0
 ·
  have p0:=dT b0
  refine qn J J J b0<|qn J J J b0<|qn J J J b0<|qn J J J b0<|qn J J J b0<|kq (fun _ _=>aN J J J J b0 J e1)<|kq (fun _ _=>mv (v:=.bool true) J J e1)<|qn J J J J<|qn J J J J<|qn J J J J<|qn J J J J<|qn J J J J<|qn J J J J<|qn J J J J<|kq (fun _ _=>aN J J J J J J e1)<|kq (fun _ _=>mv (v:=.bool true) J J e1)<|qn J J J J<|qn J J J J<|qn J J J J<|qn J J J J<|qn J J J J<|qn J J J J<|qn J J J J<|qn J J J J<|kq (fun _ _=>aN J J J J J J e1)<|kq (fun _ _=>jy (v:=.bool true) J J e1)<|zq ?_
  intro w0 bY
  have H3:=H2.ext bY
  refine nx<|rt<|r1 J J ?_
  exact⟨amz Value.bool (by exact(Yu bo).symm),H3.below⟩
 have p0:=dF b0
 refine qy J J J b0<|kq (fun _ _=>mv J i0 e1)<|qy J J J b0<|kq (fun _ _=>fa fF J i1 e1)<|qy J J J b0<|kq (fun _ x_=>lr (H2.ext x_) 1 J iZ J J J e1)<|qy J J J b0<|kq (fun _ _=>ef J J jv e1)<|qy J J J b0<|kq (fun _ _=>geq J J J J e1)<|kq (fun _ _=>cZ J J J J b0 J e1)<|kq (fun _ _=>mv (v:=.bool (decide ((U.length:Int)≤i))) J J e1) ?_
 rcases bE (decide ((U.length:Int)≤i)) with b1|b1
 ·
  have p1:=dT b1
  refine qn J J J b1<|qn J J J b1<|qn J J J b1<|qn J J J b1<|qn J J J b1<|qn J J J b1<|qn J J J b1<|kq (fun _ _=>aN J J J J b1 J e1)<|kq (fun _ _=>mv (v:=.bool true) J J e1)<|qn J J J J<|qn J J J J<|qn J J J J<|qn J J J J<|qn J J J J<|qn J J J J<|qn J J J J<|qn J J J J<|kq (fun _ _=>aN J J J J J J e1)<|kq (fun _ _=>jy (v:=.bool true) J J e1)<|zq ?_
  intro w0 bY
  have H3:=H2.ext bY
  refine nx<|rt<|r1 J J ?_
  exact⟨amz Value.bool (by exact(Yt bo).symm),H3.below⟩
 have p1:=dF b1
 refine qy J J J b1<|kq (fun _ _=>fa fF J i1 e1)<|qy J J J b1<|kq (fun _ x_=>lr (H2.ext x_) 1 J iZ J J J e1)<|qy J J J b1<|kq (fun _ _=>mv J i0 e1)<|qy J J J b1<|mR (H2.rv 2 J) J J J J aj jv jB ?_
 intro iE x0 aI cD
 refine qy J J J b1<|kq (fun _ _=>fa vt J J e1)<|qy J J J b1<|F4 ((cD).s2).fst.w oo J J<|qy J J J b1<|kq (fun _ _=>kg J J e1)<|kq (fun _ _=>cZ J J J J b1 J e1)<|kq (fun _ _=>mv (v:=.bool (!x0.2.2.1)) J J e1) ?_
 rcases bE (!x0.2.2.1) with b2|b2
 ·
  refine qn J J J b2<|qn J J J b2<|qn J J J b2<|qn J J J b2<|qn J J J b2<|qn J J J b2<|qn J J J b2<|qn J J J b2<|kq (fun _ _=>aN J J J J b2 J e1)<|kq (fun _ _=>jy (v:=.bool true) J J e1)<|zq ?_
  intro w0 bY
  have H3:=H2.ext bY
  refine nx<|rt<|r1 J J ?_
  exact⟨amz Value.bool (by rw[QX bo aI];simp_all),H3.below⟩
 refine qy J J J b2<|kq (fun _ _=>fa fF J i1 e1)<|qy J J J b2<|kq (fun _ x_=>lr (H2.ext x_) 1 J iZ J J J e1)<|qy J J J b2<|kq (fun _ _=>mv J i0 e1)<|qy J J J b2<|mR (H2.rv 2 J) J J J J aj jv jB ?_
 intro rb x_ mW gG
 obtain rfl:x0=x_:=amE (aI.symm.trans mW)
 refine qy J J J b2<|kq (fun _ _=>fa tD J J e1)<|qy J J J b2<|nP ((gG).s3).fst.w aS J J ?_
 intro cE
 refine qy J J J b2<|kq (fun _ x_=>lr (H2.ext x_) 0 J aS J i2 J e1)<|qy J J J b2<|kq (fun _ _=>neq J J J J e1)<|kq (fun _ _=>cZ J J J J b2 J e1)<|kq (fun _ _=>jy (v:=.bool (!decide (x0.2.2.2.1=vr))) J J e1)<|zq ?_
 intro w0 bY
 have H3:=H2.ext bY
 refine nx<|rt<|r1 J J ?_
 exact⟨amz Value.bool (by rw[QX bo aI];simp_all),H3.below⟩
theorem PH (hM:eU M w) (qS:aL i) (dG:cL M w aw av U) (CT:w.heap[ya]? =some (.cells #[.slice aC aD aB,sL aw U av,.slice ay fc ax] Hk (0,0))∧¬M ya) (Ox:0≤i∧i<((U.length:Nat):Int)):Calls aJ 109 #[I i,.pointer (some ⟨ya,0,none⟩)] w (cA fun v w'=>v=.bool (gf U i)∧Ext w w'):=by
 refine dH 10 Tryz.func109 J J J hM fun f0 ha H=>?_
 have H0:=eu H dG
 have i0:f0 0=I i:=ha 0 bm
 have H1:=H0.put (it:=ro ya #[.slice aC aD aB,sL aw U av,.slice ay fc ax] Hk) J<|by rw[aH rfl,bS];exact CT
 have i1:f0 1=pV ya 0:=ha 1 bm
 refine az<|ak (v:=.bool false) J J<|bz<|aR fF J i1<|k<|lr H1 0 J iZ J J J<|ai J i0<|k<|ia (H1.rv 1 J) J J J J aj jv jB ?_
 intro iE x0 aI cD
 refine aR vt J J<|k<|ldB ((cD).s2).fst.w oo J J<|ak (v:=.bool x0.2.2.1) J J<|aq<|rt<|r1 J J ?_
 exact⟨amz Value.bool (by exact(aaj aI).symm),H1.below⟩
theorem XV:cH aJ 133:=cN Tryz.func133
theorem ae3:cH aJ 136:=cN Tryz.func136
theorem GG:cH aJ 107:=cN Tryz.func107
theorem Eb (hM:eU M w) (dG:cL M w aw av U) (xO:cL M w mg mI l) (acr:aL vr) (Xt:l.length≤1000000000):Calls aJ 99 #[.agg #[.slice aC aD aB,sL aw U av,.slice ay fc ax],sL mg l mI,I vr] w (cA fun v w'=>∃(a0:OA) (c0:Nat),v=.slice a0 (aY (iM U vr) l).length c0∧Ext w w'∧bj M 3 w (aY (iM U vr) l) (.slice a0 (aY (iM U vr) l).length c0) w'):=by
 refine dH 11 Tryz.func99 J J J hM fun f0 ha H=>?_
 let J0:=iL aw U av
 have H0:=H.put (it:=J0) J<|by rw[bS];exact dG
 have H1:=eu H0 xO
 have i0:f0 0=.agg #[.slice aC aD aB,sL aw U av,.slice ay fc ax]:=ha 0 bm
 have i1:f0 1=sL mg l mI:=ha 1 bm
 have i2:f0 2=I vr:=ha 2 bm
 refine az<|k<|bx H1 J i0 ?_
 intro aZ w0 bY (H2:HI M w w0 [box aZ #[.slice aC aD aB,sL aw U av,.slice ay fc ax] 47,iL mg l mI,J0])
 let J1:=box aZ #[.slice aC aD aB,sL aw U av,.slice ay fc ax] 47
 refine k<|bx H2 J i2 ?_
 intro ba w1 dy (H3:HI M w w1 [box ba #[I vr] 3,J1,iL mg l mI,J0])
 refine ak (v:=.slice none 0 0) J J<|bz<|ai J i1<|k ?_
 have bT:=I9 (l:=l) H3.mb (H3.rv 2 J) aj
 refine ca XV J (ec J e0) bT ?_
 rintro _ w2 ⟨a0,c0,rfl,fe,cE⟩
 have H4:=H3.eS cE
 refine k<|mf J<|k ?_
 have H5:HI M w w2 ([oL w 3 a0 l c0]++[box ba #[I vr] 3,J1,iL mg l mI,J0]):=H4.bZ [0,1,2,3,4] au J
 have dq:=oU (dV:=a0) (dL:=c0) (xs:=l) (qk:=136) (qq:=[pV aZ 0,pV ba 0]) (p:=(fun (x_:Int)=>iM U vr x_)) (w:=w) (w_:=w2) (r:=[box ba #[I vr] 3,J1,iL mg l mI,J0]) (M:=M) ⟨ae3,fun w_ rl H_ x_ mW Eg=>KU (U:=U) (vr:=vr) (M:=fun _=>False) (fun _ h_=>h_.elim) Eg ((H_.rv 4 J).lift (Up.less fun _ _ h_=>h_.elim)) aT ⟨H_.at_ 2 rfl,fun h_=>h_⟩ ⟨H_.at_ 1 rfl,fun h_=>h_⟩⟩ H5
 refine ca GG J (ec J<|ec J e0) dq ?_
 rintro _ w3 ⟨rfl,H6⟩
 have H7:HI M w w3 [oL w 3 a0 (aY (fun (x_:Int)=>iM U vr x_) l) c0,box ba #[I vr] 3,J1,iL mg l mI,J0]:=H6
 refine ak (v:=sL a0 (aY (fun (x_:Int)=>iM U vr x_) l) c0) J J<|aq<|rt<|r1 J J ?_
 have e0:((aY (fun (x_:Int)=>iM U vr x_) l):aA)=aY (iM U vr) l:=rfl
 have bu:=iD (fun (cq:aA)=>(.slice a0 cq.length c0:Value)) e0
 exact⟨a0,c0,bu,H7.below,(amz (fun (x_:aA)=>bj _ _ _ x_ (.slice a0 x_.length c0) _) e0).mp (H7.du 0 J)⟩
theorem tG:gv aJ 47 2 2:=js Tryz.underlying47
theorem qv:ey aJ 27 1 false 24 (.slice none 0 0):=⟨aU,aU⟩
theorem ej:ey aJ 47 3 true 72 (.agg #[.slice none 0 0,.slice none 0 0,.slice none 0 0]):=⟨aU,aU⟩
theorem X3:cH aJ 100:=cN Tryz.func100
theorem acK:cH aJ 99:=cN Tryz.func99
theorem eA:aJ.underlying 119=some (.slice 122):=aU
theorem cR:ey aJ 122 3 true 24 (.agg #[.int .i64 0,.int .i64 0,.int .i64 0]):=⟨aU,aU⟩
theorem afi:cH aJ 102:=cN Tryz.func102
theorem uS (hM:eU M w) (hT:fW 0 w) (dG:cL M w aw av U) (gl:cL M w ay ax fo) (gk:aL mn) (gB:cL M w bF bD mr) (dC:U.length≤4096) (eD:fo.length=U.length) (fK:∀x∈fo,x<((U.length:Nat):Int)) (b9:bI mn mr=true):Calls aJ 65 #[.agg #[.slice aC aD aB,sL aw U av,sL ay fo ax],.agg #[I mn,sL bF mr bD]] w (cA fun v w'=>∃(a0:OA) (c0:Nat),v=.slice a0 (cP U fo mn mr).length c0∧Ext w w'∧bj M 122 w (cP U fo mn mr) (.slice a0 (cP U fo mn mr).length c0) w'):=by
 refine dH 51 Tryz.func65 J J J hM fun f0 ha H=>?_
 let J0:=iL aw U av
 have H0:=H.put (it:=J0) J<|by rw[bS];exact dG
 let J1:=iL ay fo ax
 have H1:=H0.put (it:=J1) J<|by rw[aH rfl,bS];exact gl
 let J2:=iL bF mr bD
 have H2:=H1.put (it:=J2) J<|by rw[aH rfl,aH rfl,bS];exact gB
 have iS:=bl dG
 have kM:=bl gl
 have np:=bl gB
 have i0:f0 0=.agg #[.slice aC aD aB,sL aw U av,sL ay fo ax]:=ha 0 bm
 have i1:f0 1=.agg #[I mn,sL bF mr bD]:=ha 1 bm
 have Qf:=Md (U:=U) (fo:=fo) (j:=fo.length) b9
 refine az<|k<|bx H2 J i0 ?_
 let bc:=[J2,J1,J0]
 intro aZ w0 bY (H3:HI M w w0 (box aZ #[.slice aC aD aB,sL aw U av,sL ay fo ax] 47::bc))
 let J3:=box aZ #[.slice aC aD aB,sL aw U av,sL ay fo ax] 47
 refine k<|bx H3 J i1 ?_
 intro ba w1 dy (H4:HI M w w1 (box ba #[I mn,sL bF mr bD] 26::J3::bc))
 let J4:=box ba #[I mn,sL bF mr bD] 26
 refine ak (v:=.slice none 0 0) J J<|bz<|ak (v:=.slice none 0 0) J J<|aq<|sq<|az<|aR tG J J<|bq H4 1 J qv J J J<|k<|ef J J cS<|ai (v:=I 0) J J<|aq<|bk ?_
 have H5:=H4.rB (Int×Int×Int) 122
 let ck:=J4::J3::bc
 refine lp (fun m f w'=>∃(j_:Nat) (wy:List ew) (a0:OA) (c0:Nat),m=fo.length-j_∧f 2=pV aZ 0∧f 3=pV ba 0∧f 5=sL a0 wy c0∧f 11=sL ay fo ax∧f 12=I (fo.length:Int)∧f 13=I (j_:Int)∧HI M w w' (oL w 122 a0 wy c0::ck)∧(j_≤fo.length)∧(wy=uL U fo mn mr j_)∧(wy.length≤4096*j_)) _ ⟨0,([]:List ew),none,0,J,J,J,J,J,J,(bN J),H5,aj,(by rfl),(by exact an6 _)⟩ ?_
 rintro _ f0 w2 ⟨j_,wy,a0,c0,rfl,s0,s1,s2,s3,s4,s5,H6,pk,hs,tX⟩
 refine az<|k<|lss J J s5 s4<|aq<|sq<|cd (b:=decide ((j_:Int)<(fo.length:Int))) J J (fun b0=>?_)<|fun b0=>?_
 ·
  have p0:=dT b0
  refine sk<|nx<|sq<|bk<|az<|ai J s5<|k<|ia (H6.rv 4 J) J J s3 s5 aj cS aS ?_
  intro iE x0 aI cD
  refine k<|mV cD.w aS J J ?_
  intro cE
  refine ak (v:=I (j_:Int)) J J<|ak (v:=I x0) J J<|aq<|sq<|az<|ai (v:=I x0) J J<|k<|lss J J J J<|z<|nx<|cd (b:=decide (x0<0)) J J (fun b1=>?_)<|fun b1=>?_
  ·
   have p1:=dT b1
   refine ex<|aV<|bh<|nx<|rg<|k<|add J J s5 J aT<|ai (v:=I ((j_:Int)+1)) J J<|z<|bG _ ?_ ⟨(j_+1),wy,a0,c0,J,s0,s1,s2,s3,s4,(bN J),H6,aj,(by exact ada hs aI aj),(by first|omega)⟩
   omega
  have p1:=dF b1
  refine sk<|nx<|sq<|Tj J aU<|xq J<|kq (fun _ x_=>cI (H6.ext x_) 2 J ej J s0 au J e1)<|zq<|xq J<|kq (fun _ x_=>cI (H6.ext x_) 1 J bp J s1 au J e1)<|zq<|xq J<|kq (fun _ _=>mv (v:=I (j_:Int)) J J e1)<|zq<|xu (fun v w'=>∃(a1:OA) (c1:Nat),v=sL a1 (eY mn mr (j_:Int)) c1∧RV H6.gh w' (sL a1 (eY mn mr (j_:Int)) c1) (eY mn mr (j_:Int))) J (by rintro _ _ _ x_ ⟨a1,c1,e_,ei⟩;exact⟨a1,c1,e_,ei.lift (Up.ext x_)⟩) J (fun v_ x_=>have dq:=NS (mn:=mn) (mr:=mr) (o:=(j_:Int)) (w:=v_) (H6.ext x_).mb (hT.ext (H6.ext x_).below) gk ((H6.ext x_).rv 3 rfl) aT (by exact b9);ca X3 rfl (ec J<|ec J e0) dq (fun _ w4 ⟨a2,c2,e_,fA,fB⟩=>⟨_,J,fA,⟨a2,c2,e_,(bj.rv fB (H6.ext x_).mb)⟩⟩))<|xq J<|kq (fun _ _=>fa fF J s0 e1)<|zq<|xq J<|kq (fun _ x_=>lx (H6.ext x_) 2 J iZ J J J e1)<|zq<|xq J<|kq (fun _ _=>mv (v:=I x0) J J e1)<|zq<|xq J<|mR (H6.rv 5 J) J J J J (by have h_:=fK _ (dN aI);omega) jv jB ?_
  intro rb x1 bV gG
  refine zq<|xq J<|kq (fun _ _=>fa tD J J e1)<|zq<|xq J<|nP ((gG).s3).fst.w aS J J ?_
  intro jW
  refine zq<|xu1 (fun v w'=>∃(a4:OA) (c4:Nat),v=sL a4 (aY (iM U x1.2.2.2.1)<|eY mn mr (j_:Int)) c4∧RV H6.gh w' (sL a4 (aY (iM U x1.2.2.2.1)<|eY mn mr (j_:Int)) c4) (aY (iM U x1.2.2.2.1)<|eY mn mr (j_:Int))) 0 J J (by rintro _ _ _ x_ ⟨a4,c4,e_,nN⟩;exact⟨a4,c4,e_,nN.lift (Up.ext x_)⟩) J (fun v_ _ x_ h_=>let ⟨a5,c5,s6,oI⟩:=h_;have d_:=(H6.ext x_).put (it:=iL a5 (eY mn mr (j_:Int)) c5) rfl oI;have ff:=Eb (U:=U) (l:=(eY mn mr (j_:Int))) (vr:=x1.2.2.2.1) (aC:=aC) (aD:=aD) (aB:=aB) (ay:=ay) (fc:=fo.length) (ax:=ax) d_.mb (d_.rv 6 J) (d_.rv 0 J) jW (by have h_:=u4 b9 (j_:Int);omega);ca acK rfl (ec J<|ec s6<|ec J e0) ff (fun _ w6 ⟨a6,c6,e_,jh,rA⟩=>⟨_,J,jh,⟨a6,c6,e_,(mJ J<|bj.rv rA d_.mb)⟩⟩))<|xk1 (X:=I ((aY (iM U x1.2.2.2.1)<|eY mn mr (j_:Int)).length:Int)) 0 J J (fun _ _ _ h_=>let ⟨a8,c8,s7,sh⟩:=h_;ef rfl s7 cS e1)<|xq J<|kq (fun _ _=>mv (v:=I 0) J J e1)<|zq<|zx ?_
  intro w7 f1 ki cK iK
  have cQ:=H6.ext ki
  have s8:=(cK 2 J).trans s0
  have s9:=(cK 3 J).trans s1
  have eC:=(cK 5 J).trans s2
  have fj:=cK 6 J
  have fT:=cK 7 J
  have fS:=(cK 11 J).trans s3
  have gF:=(cK 12 J).trans s4
  have gW:=(cK 13 J).trans s5
  obtain⟨a9,c9,kG,sg⟩:=iK 0 _ _ rfl
  let J5:=iL a9 (aY (iM U x1.2.2.2.1) (eY mn mr (j_:Int))) c9
  have eh:=cQ.put (it:=J5) J sg
  have lu:=cK 31 J
  have mQ:=cK 32 J
  refine nx<|bk<|lp (fun m f w'=>∃(q_:Nat) (vW:List ew) (jH:OA) (jF:Nat),m=(aY (iM U x1.2.2.2.1)<|eY mn mr (j_:Int)).length-q_∧f 2=pV aZ 0∧f 3=pV ba 0∧f 5=sL jH vW jF∧f 6=I (j_:Int)∧f 7=I x0∧f 11=sL ay fo ax∧f 12=I (fo.length:Int)∧f 13=I (j_:Int)∧f 30=sL a9 (aY (iM U x1.2.2.2.1)<|eY mn mr (j_:Int)) c9∧f 31=I ((aY (iM U x1.2.2.2.1)<|eY mn mr (j_:Int)).length:Int)∧f 32=I (q_:Int)∧HI M w w' (J5::oL w 122 jH vW jF::ck)∧(q_≤(aY (iM U x1.2.2.2.1)<|eY mn mr (j_:Int)).length)∧(vW=wy++BS x0 (j_:Int) ((aY (iM U x1.2.2.2.1)<|eY mn mr (j_:Int)).take q_))∧(vW.length≤4096*j_+q_)) _ ⟨0,wy,a0,c0,J,s8,s9,eC,fj,fT,fS,gF,gW,kG,lu,(bN mQ),eh,aj,(by exact(anR _).symm),aj⟩ ?_
  rintro _ f2 w8 ⟨q_,vW,jH,jF,rfl,mP,nM,pG,rI,BA,Cb,F1,Bz,F0,Ri,WW,dO,sI,gN,alK⟩
  refine sq ?_
  have ahO:(aY (iM U x1.2.2.2.1) (eY mn mr (j_:Int))).length≤4096:=by unfold aY;exact amP (anB _ _) (u4 b9 _)
  refine rg<|k<|lss J J WW Ri<|aq<|sq<|cd (b:=decide ((q_:Int)<((aY (iM U x1.2.2.2.1)<|eY mn mr (j_:Int)).length:Int))) J J (fun b2=>?_)<|fun b2=>?_
  ·
   have p2:=dT b2
   refine sk<|nx<|sq<|bk<|az<|k<|ia (dO.rv 0 J) J J F0 WW aj cS aS ?_
   intro pq x2 jb kB
   refine k<|mV kB.w aS J J ?_
   intro p9
   refine ak (v:=I x2) J J<|bz<|ai (v:=I x2) J J<|ai J BA<|k<|neq J J J J<|z<|nx<|cd (b:=!decide (x2=x0)) J J (fun b3=>?_)<|fun b3=>?_
   ·
    have p3:=dF<|fX b3
    refine rg<|ai J pG<|ai (v:=I x2) J J<|ai J BA<|ai J rI<|k<|bd (v:=.agg #[I x2,I x0,I (j_:Int)]) J (cz J<|cz J<|cz J eI) (fun _=>aU)<|k<|bs (xs:=([(x2,x0,(j_:Int))]:List (Int×Int×Int))) (cells:=#[I x2,I x0,I (j_:Int)]) (e:=122) dO J (cz J eI) (fun _=>aU) ⟨[I x2,I x0,I (j_:Int)],[],J,⟨_,_,J,⟨J,(show aL (x2) from bo)⟩,⟨_,_,J,⟨J,(show aL (x0) from bo)⟩,⟨J,(show aL ((j_:Int)) from aT)⟩⟩⟩,J⟩ J au ?_
    intro g0 w9 mA fg
    refine k<|me fg 2 J J J J J J (ib<|fg.at_ 0 J) eA cR J (by simp only[fN,iB,gj];omega) J ?_
    intro nY nW dP (fz:HI M w dP (own w.heap.size 122 (.slice (some ⟨g0,0,none⟩) 1 1) ([(x2,x0,(j_:Int))]:List (Int×Int×Int))::J5::oL w 122 nY (vW++([(x2,x0,(j_:Int))]:List (Int×Int×Int))) nW::ck))
    refine ak (v:=sL nY (vW++([(x2,x0,(j_:Int))]:List (Int×Int×Int))) nW) J J<|z<|aF<|nx<|rg<|k<|add J J WW J aT<|ai (v:=I ((q_:Int)+1)) J J<|z ?_
    have gS:HI M w dP (J5::oL w 122 nY (vW++([(x2,x0,(j_:Int))]:List (Int×Int×Int))) nW::ck):=fz.bZ [1,2,3,4,5,6,7] au J
    refine bG _ ?_ ⟨(q_+1),(vW++([(x2,x0,(j_:Int))]:List (Int×Int×Int))),nY,nW,J,mP,nM,J,rI,BA,Cb,F1,Bz,F0,Ri,(bN J),gS,aj,(by exact ZJ gN jb p3),(by simp only[fN,iB,gj];omega)⟩
    omega
   have p3:=dT<|fl b3
   refine sk<|aF<|nx<|rg<|k<|add J J WW J aT<|ai (v:=I ((q_:Int)+1)) J J<|z<|bG _ ?_ ⟨(q_+1),vW,jH,jF,J,mP,nM,pG,rI,BA,Cb,F1,Bz,F0,Ri,(bN J),dO,aj,(by exact VO gN jb p3),aj⟩
   omega
  have p2:=dF b2
  refine ex<|aV<|bf<|bh<|aF<|nx<|rg<|k<|add J J Bz J aT<|ai (v:=I ((j_:Int)+1)) J J<|z ?_
  have fg:HI M w w8 (oL w 122 jH vW jF::ck):=dO.bZ [1,2,3,4,5,6] au J
  refine bG _ ?_ ⟨(j_+1),vW,jH,jF,J,mP,nM,pG,Cb,F1,(bN J),fg,aj,(by exact ZL (by unfold rG;rw[bV];rfl) hs gN aI aj aj),(by first|omega)⟩
  omega
 have p0:=dF b0
 refine ex<|aV<|bf<|bh<|cV<|ai J s2<|k ?_
 have H7:HI M w w2 ([oL w 122 a0 wy c0]++[J4,J3,J2,J1,J0]):=H6.bZ [0,1,2,3,4,5] au J
 have bT:=Q' (dV:=a0) (dL:=c0) (xs:=wy) (w:=w) (w_:=w2) (r:=[J4,J3,J2,J1,J0]) (M:=M) aj H7
 refine ca afi J (ec J<|ec J e0) bT ?_
 rintro _ w3 ⟨rfl,H8⟩
 have H9:HI M w w3 (own w.heap.size 122 (.slice a0 wy.length c0) (wE wy)::ck):=H8
 refine bz<|ai J s2<|ak (v:=sL a0 wy c0) J J<|aq<|rt<|r1 J J ?_
 have e0:((wE wy):List (Int×Int×Int))=cP U fo mn mr:=by rw[hs,show j_=fo.length from by omega];rfl
 have l0:wy.length=(cP U fo mn mr).length:=by rw[hs,show j_=fo.length from by omega];exact I6
 have bu:=iD (fun (va:Nat)=>(.slice a0 va c0:Value)) l0
 exact⟨a0,c0,bu,H9.below,(amz (fun (n_:Nat)=>bj _ _ _ (cP U fo mn mr) (.slice a0 n_ c0) _) l0).mp ((amz (fun (x_:List (Int×Int×Int))=>bj _ _ _ x_ (.slice a0 wy.length c0) _) e0).mp (H9.du 0 J))⟩
theorem acO:cH aJ 61:=cN Tryz.func61
theorem IK (hM:eU M w) (JJ:cL M w y_ yU rM) (XH:aL tQ):Calls aJ 61 #[sL y_ rM yU,I tQ] w (cA fun v w'=>v=I (eO (fun (z_:Int)=>decide (tQ=z_)) rM)∧Ext w w'):=by
 refine dH 19 Tryz.func61 J J J hM fun f0 ha H=>?_
 have H0:=eu H JJ
 have ajr:=bl JJ
 have i0:f0 0=sL y_ rM yU:=ha 0 bm
 have i1:f0 1=I tQ:=ha 1 bm
 refine az<|ak (v:=I 0) J J<|aq<|sq<|az<|ai J i0<|k<|ef J J cS<|ai (v:=I 0) J J<|aq<|bk<|lp (fun m f w'=>∃(j_:Nat),m=rM.length-j_∧f 0=sL y_ rM yU∧f 1=I tQ∧f 7=I (rM.length:Int)∧f 8=I (j_:Int)∧HI M w w' [iL y_ rM yU]∧(j_≤rM.length)∧((rM.take j_).any (fun (z_:Int)=>decide (tQ=z_))=false)) _ ⟨0,J,i0,i1,J,(bN J),H0,aj,bm⟩ ?_
 rintro _ f0 w0 ⟨j_,rfl,s0,s1,s2,s3,H1,pk,hs⟩
 refine az<|k<|lss J J s3 s2<|aq<|sq<|cd (b:=decide ((j_:Int)<(rM.length:Int))) J J (fun b0=>?_)<|fun b0=>?_
 ·
  have p0:=dT b0
  refine sk<|nx<|sq<|bk<|az<|ai J s3<|ak (v:=I (j_:Int)) J J<|bz<|ai J s1<|ai J s0<|ai (v:=I (j_:Int)) J J<|k<|ia (H1.rv 0 J) J J J J aj cS aS ?_
  intro iE x0 aI cD
  refine k<|mV cD.w aS J J ?_
  intro cE
  refine k<|eql J J J J<|z<|nx<|cd (b:=decide (tQ=x0)) J J (fun b1=>?_)<|fun b1=>?_
  ·
   refine az<|ai (v:=I (j_:Int)) J J<|ak (v:=I (j_:Int)) J J<|aq<|rt<|bU<|aK<|ee<|bU<|aK<|r1 J J ?_
   exact⟨amz (Value.int .i64) (by exact uA (p:=(fun (z_:Int)=>decide (tQ=z_))) aI hs b1),H1.below⟩
  have p1:=dF b1
  refine sk<|aF<|nx<|rg<|k<|add J J s3 J aT<|ai (v:=I ((j_:Int)+1)) J J<|z<|bG _ ?_ ⟨(j_+1),J,s0,s1,s2,(bN J),H1,aj,(by exact pD aI hs b1)⟩
  omega
 have p0:=dF b0
 refine ex<|aV<|bf<|bh<|cV<|ak (v:=I (-1)) J J<|aq<|rt<|r1 J J ?_
 exact⟨amz (Value.int .i64) (by exact vg hs aj),H1.below⟩
theorem C7 (hM:eU M w) (JJ:cL M w y_ yU rM) (XH:aL tQ):Calls aJ 131 #[sL y_ rM yU,I tQ] w (cA fun v w'=>v=.bool (rM.any (fun (z_:Int)=>decide (tQ=z_)))∧Ext w w'):=by
 refine dH 9 Tryz.func131 J J J hM fun f0 ha H=>?_
 have H0:=eu H JJ
 have i0:f0 0=sL y_ rM yU:=ha 0 bm
 have i1:f0 1=I tQ:=ha 1 bm
 refine az<|ak (v:=.bool false) J J<|bz<|ai J i0<|ai J i1<|k ?_
 have bT:=IK (rM:=rM) (tQ:=tQ) H0.mb (H0.rv 0 J) XH
 refine ca acO J (ec J<|ec J e0) bT ?_
 rintro _ w0 ⟨rfl,bY⟩
 have H1:=H0.ext bY
 refine k<|geq J J J J<|ak (v:=.bool (decide (0≤(eO (fun (z_:Int)=>decide (tQ=z_)) rM)))) J J<|aq<|rt<|r1 J J ?_
 exact⟨amz Value.bool (by exact uB),H1.below⟩
theorem Jx:ey aJ 218 2 true 16 (.agg #[.int .i64 0,.int .i64 0]):=⟨aU,aU⟩
theorem Jy:ey aJ 215 1 false 8 (.map none):=⟨aU,aU⟩
theorem aeh:Jg aJ 218 [some (0,0),some (1,0)]:=⟨aU,aU,aU,aU⟩
theorem W5:QQ aJ 215:=W_ (by kernel_rfl:aJ.underlying 215=some (.map 218 4)) (Va (zm aeh)) oo rfl
theorem XX:cH aJ 131:=cN Tryz.func131
theorem XT:cH aJ 169:=cN Tryz.func169
theorem D6 (Bf:aL fy) (DK:aL fD) (Be:aL gI) (gk:aL mn) (b9:bI mn mr=true) (H:HI M w w_ ([box kx #[.map (some gb)] 215,bX gb met,box mw #[I mn,sL bF mr bD] 26,iL bF mr bD,box mx #[sL j3 kp j1] 27,iL j3 kp j1]++r)):Calls aJ 169 #[.agg #[I fy,I fD,I gI],pV kx 0,pV mw 0,pV mx 0] w_ (cA fun v w'=>v=.bool (((fb mn mr kp) met (fy,fD,gI)).1)∧HI M w w' ([box kx #[.map (some gb)] 215,bX gb (((fb mn mr kp) met (fy,fD,gI)).2),box mw #[I mn,sL bF mr bD] 26,iL bF mr bD,box mx #[sL j3 kp j1] 27,iL j3 kp j1]++r)):=by
 refine enter 32 Tryz.func169 J J J fun f0 ha=>?_
 have np:=bl<|H.rv 3 J
 have Xb:=bl<|H.rv 5 J
 have i0:f0 0=.agg #[I fy,I fD,I gI]:=ha 0 bm
 have i1:f0 1=pV kx 0:=ha 1 bm
 have i2:f0 2=pV mw 0:=ha 2 bm
 have i3:f0 3=pV mx 0:=ha 3 bm
 refine az<|k<|bx H J i0 ?_
 let J1:=box kx #[.map (some gb)] 215
 let J2:=box mw #[I mn,sL bF mr bD] 26
 let J3:=iL bF mr bD
 let J4:=box mx #[sL j3 kp j1] 27
 let J5:=iL j3 kp j1
 let bc:=[J1,bX gb met,J2,J3,J4,J5]
 intro aZ w0 bY (H0:HI M w w0 ((box aZ #[I fy,I fD,I gI] 122::bc)++r))
 let J0:=box aZ #[I fy,I fD,I gI] 122
 refine ak (v:=.bool false) J J<|bz<|aR kQ J J<|bq H0 0 J aS J J J<|aR mL J J<|bq H0 0 J aS J J J<|k<|bd (v:=.agg #[I fy,I fD]) J (cz J<|cz J eI) (fun _=>aU)<|k<|al H0 Jx ?_
 intro ba w1 dy (H1:HI M w w1 ((box ba #[I 0,I 0] 218::J0::bc)++r))
 refine k<|bw H1 0 J Jx J J J J J J J ?_
 let J6:=box ba #[I fy,I fD] 218
 intro w2 (H2:HI M w w2 ((J6::J0::bc)++r))
 refine aq<|sq<|az<|bq H2 2 J Jy J i1 J<|k<|cI H2 0 J Jx J J au J<|k<|ahj (k:=(fy,fD)) W5 H2 3 J J J J J<|ai (v:=.bool ((fO met (fy,fD)).getD false)) J J ?_
 rcases bE ((fO met (fy,fD)).getD false) with b0|b0
 ·
  refine aX J J J b0<|aX J J J b0<|aX J J J b0<|aX J J J b0<|aX J J J b0<|aX J J J b0<|k<|aN J J J J b0 J<|ai (v:=.bool true) J J<|aX J J J J<|aX J J J J<|aX J J J J<|aX J J J J<|aX J J J J<|k<|aN J J J J J J<|aq<|oA J J J<|az<|ak (v:=.bool true) J J<|aq<|rt<|aK<|r1 J J ?_
  have H3:=HI.aN (l:=(J6::J0::bc)) (l':=bc) (t:=r) H2 [2,3,4,5,6,7] au J J
  have e0:(true:Bool)=((fb mn mr kp) met (fy,fD,gI)).1:=by simp only[fb,b0,BL]
  have e1:(met:List ((Int×Int)×Bool))=(((fb mn mr kp) met (fy,fD,gI)).2):=by simp only[fb,b0,BL]
  try rw[←e0]
  try rw[←e1]
  refine⟨?_,?_⟩
  · first|rfl|simp only[e0,e1]|(simp only[amA])
  · first|exact H3|simpa +zetaDelta only[e0,e1,amA] using H3
 refine aQ J J J b0<|cI H2 4 J bp J i2 au J<|aQ J J J b0<|fa kQ J J<|aQ J J J b0<|lx H2 1 J aS J J J<|aQ J J J b0<|fa mL J J<|aQ J J J b0<|lx H2 1 J aS J J J<|aQ J J J b0 ?_
 have bT:=uz (mn:=mn) (mr:=mr) (i:=fy) (j:=fD) H2.mb gk (H2.rv 5 J) Bf DK (by exact(bR b9).1) (by exact(bR b9).2.1)<|by exact(bR b9).2.2.1
 refine ca Fv J (ec J<|ec J<|ec J e0) bT ?_
 rintro _ w3 ⟨rfl,fe⟩
 have H3:=H2.ext fe
 refine k<|cZ J J J J b0 J<|ai (v:=.bool (eL mn mr fy fD)) J J ?_
 rcases bE (eL mn mr fy fD) with b1|b1
 ·
  refine aX J J J b1<|aX J J J b1<|aX J J J b1<|aX J J J b1<|aX J J J b1<|k<|aN J J J J b1 J<|aq<|oA J J J<|az<|ak (v:=.bool true) J J<|aq<|rt<|aK<|r1 J J ?_
  have H4:=HI.aN (l:=(J6::J0::bc)) (l':=bc) (t:=r) H3 [2,3,4,5,6,7] au J J
  have e0:(true:Bool)=((fb mn mr kp) met (fy,fD,gI)).1:=by simp only[fb,b0,b1,BL]
  have e1:(met:List ((Int×Int)×Bool))=(((fb mn mr kp) met (fy,fD,gI)).2):=by simp only[fb,b0,b1,BL]
  try rw[←e0]
  try rw[←e1]
  refine⟨?_,?_⟩
  · first|rfl|simp only[e0,e1]|(simp only[amA])
  · first|exact H4|simpa +zetaDelta only[e0,e1,amA] using H4
 refine aQ J J J b1<|lx H3 6 J qv J i3 J<|aQ J J J b1<|fa sO J J<|aQ J J J b1<|lx H3 1 J aS J J J<|aQ J J J b1 ?_
 have dq:=C7 (rM:=kp) (tQ:=gI) H3.mb (H3.rv 7 J) Be
 refine ca XX J (ec J<|ec J e0) dq ?_
 rintro _ w4 ⟨rfl,fA⟩
 have H4:=H3.ext fA
 refine aQ J J J b1<|kg J J<|k<|cZ J J J J b1 J<|z<|nx<|cd (b:=!(kp.any<|fun (z_:Int)=>decide (gI=z_))) J J (fun b2=>?_)<|fun b2=>?_
 ·
  refine az<|ak (v:=.bool true) J J<|aq<|rt<|aK<|r1 J J ?_
  have H5:=HI.aN (l:=(J6::J0::bc)) (l':=bc) (t:=r) H4 [2,3,4,5,6,7] au J J
  have e0:(true:Bool)=((fb mn mr kp) met (fy,fD,gI)).1:=by simp only[fb,b0,b1,(fX b2),BL]
  have e1:(met:List ((Int×Int)×Bool))=(((fb mn mr kp) met (fy,fD,gI)).2):=by simp only[fb,b0,b1,(fX b2),BL]
  try rw[←e0]
  try rw[←e1]
  refine⟨?_,?_⟩
  · first|rfl|simp only[e0,e1]|(simp only[amA])
  · first|exact H5|simpa +zetaDelta only[e0,e1,amA] using H5
 refine sk<|cV<|bq H4 2 J Jy J i1 J<|k<|cI H4 0 J Jx J J au J<|k<|ahh (k:=(fy,fD)) (v:=true) W5 H4 3 J J J J J J J ?_
 let ck:=[J1,bX gb (lJ met (fy,fD) true),J2,J3,J4,J5]
 intro w5 (H5:HI M w w5 ((J6::J0::ck)++r))
 refine bz<|ak (v:=.bool false) J J<|aq<|rt<|r1 J J ?_
 have H6:=HI.aN (l:=(J6::J0::ck)) (l':=ck) (t:=r) H5 [2,3,4,5,6,7] au J J
 have e0:(false:Bool)=((fb mn mr kp) met (fy,fD,gI)).1:=by simp only[fb,b0,b1,(fl b2),BL]
 have e1:(lJ met (fy,fD) true:List ((Int×Int)×Bool))=(((fb mn mr kp) met (fy,fD,gI)).2):=by simp only[fb,b0,b1,(fl b2),BL]
 try rw[←e0]
 try rw[←e1]
 refine⟨?_,?_⟩
 · first|rfl|simp only[e0,e1]|(simp only[amA])
 · first|exact H6|simpa +zetaDelta only[e0,e1,amA] using H6
theorem Gr {xs:List (Int×Int×Int)} (gk:aL mn) (b9:bI mn mr=true) (H:HI M w w_ ([oL w 122 dV xs dL,box kx #[.map (some gb)] 215,bX gb met,box mw #[I mn,sL bF mr bD] 26,iL bF mr bD,box mx #[sL j3 kp j1] 27,iL j3 kp j1]++r)):Calls aJ 184 #[sL dV xs dL,.func (.func 169) #[] #[pV kx 0,pV mw 0,pV mx 0]] w_ (cA fun v w'=>∃(ix:Int) (mt:List ((Int×Int)×Bool)),v=I ix∧HI M w w' ([oL w 122 dV xs dL,box kx #[.map (some gb)] 215,bX gb mt,box mw #[I mn,sL bF mr bD] 26,iL bF mr bD,box mx #[sL j3 kp j1] 27,iL j3 kp j1]++r)∧MR (fb mn mr kp) met xs ix mt):=by
 refine enter 19 Tryz.func184 J J J fun f0 ha=>?_
 have Gf:=kf<|H.at_ 0 J
 have np:=bl<|H.rv 4 J
 have Xb:=bl<|H.rv 6 J
 have i0:f0 0=sL dV xs dL:=ha 0 bm
 have i1:f0 1=.func (.func 169) #[] #[pV kx 0,pV mw 0,pV mx 0]:=ha 1 bm
 refine az<|ak (v:=I 0) J J<|aq<|sq<|az<|ai J i0<|k<|ef J J eA<|ai (v:=I 0) J J<|aq<|bk ?_
 let J0:=oL w 122 dV xs dL
 let J1:=box kx #[.map (some gb)] 215
 let J2:=box mw #[I mn,sL bF mr bD] 26
 let J3:=iL bF mr bD
 let J4:=box mx #[sL j3 kp j1] 27
 let J5:=iL j3 kp j1
 let bc:=[J2,J3,J4,J5]
 refine lp (fun m f w'=>∃(j_:Nat) (mS:List ((Int×Int)×Bool)),m=xs.length-j_∧f 0=sL dV xs dL∧f 1=.func (.func 169) #[] #[pV kx 0,pV mw 0,pV mx 0]∧f 7=I (xs.length:Int)∧f 8=I (j_:Int)∧HI M w w' ((J0::J1::bX gb mS::bc)++r)∧(j_≤xs.length)∧(gr (fb mn mr kp) met (xs.take j_)=(xs.take j_,mS))) _ ⟨0,met,J,i0,i1,J,(bN J),H,aj,(by exact VG)⟩ ?_
 rintro _ f0 w0 ⟨j_,mS,rfl,s0,s1,s2,s3,H0,pk,hs⟩
 refine az<|k<|lss J J s3 s2<|aq<|sq<|cd (b:=decide ((j_:Int)<(xs.length:Int))) J J (fun b0=>?_)<|fun b0=>?_
 ·
  have p0:=dT b0
  refine sk<|nx<|sq<|bk<|az<|ai J s3<|ak (v:=I (j_:Int)) J J<|bz<|ai J s1<|ai J s0<|ai (v:=I (j_:Int)) J J<|k<|iq (H0.at_ 0 J) J J J J aj eA cR ?_
  intro g0 x0 iC aI cD
  refine k<|nr cD cR J J ?_
  intro v0 cE
  obtain⟨_,⟨_,_,rfl,⟨rfl,ep⟩,⟨_,_,rfl,⟨rfl,ei⟩,⟨rfl,fB⟩⟩⟩,rfl⟩:=cE
  refine k ?_
  let ck:=[J2,J3,J4,J5,J0]
  have H1:HI M w w0 ((J1::bX gb mS::bc)++([J0]++r)):=HI.aN (l:=(J0::J1::bX gb mS::bc)) (l':=(J1::bX gb mS::ck)) (t:=r) H0 [1,2,3,4,5,6,0] au J J
  have bT:=D6 (fy:=x0.1) (fD:=x0.2.1) (gI:=x0.2.2) (kx:=kx) (gb:=gb) (met:=mS) (mw:=mw) (mn:=mn) (bF:=bF) (bD:=bD) (mr:=mr) (mx:=mx) (j3:=j3) (j1:=j1) (kp:=kp) (w:=w) (w_:=w0) (r:=([J0]++r)) (M:=M) ep ei fB gk (by exact b9) H1
  refine cf XT J J J (ec J e0) bT ?_
  rintro _ w1 ⟨rfl,H2⟩
  let dY:=J1::bX gb (((fb mn mr kp) mS (x0.1,x0.2.1,x0.2.2)).2)::ck
  have H3:HI M w w1 (dY++r):=H2
  refine z<|nx<|cd (b:=((fb mn mr kp) mS (x0.1,x0.2.1,x0.2.2)).1) J J (fun b1=>?_)<|fun b1=>?_
  ·
   refine az<|ai (v:=I (j_:Int)) J J<|ak (v:=I (j_:Int)) J J<|aq<|rt<|bU<|aK<|ee<|bU<|aK<|r1 J J ?_
   have H4:=HI.aN (l:=dY) (l':=(J0::J1::bX gb (((fb mn mr kp) mS (x0.1,x0.2.1,x0.2.2)).2)::bc)) (t:=r) H3 [6,0,1,2,3,4,5] au J J
   refine⟨(j_:Int),(((fb mn mr kp) mS (x0.1,x0.2.1,x0.2.2)).2),?_,?_,(by exact acY hs aj aI b1)⟩
   · first|rfl|simp only[amA]
   · first|exact H4|simpa +zetaDelta only[amA] using H4
  refine sk<|aF<|nx<|rg<|k<|add J J s3 J aT<|ai (v:=I ((j_:Int)+1)) J J<|z ?_
  let jk:=J0::J1::bX gb (((fb mn mr kp) mS (x0.1,x0.2.1,x0.2.2)).2)::bc
  have H4:HI M w w1 (jk++r):=HI.aN (l:=dY) (l':=jk) (t:=r) H3 [6,0,1,2,3,4,5] au J J
  refine bG _ ?_ ⟨(j_+1),(((fb mn mr kp) mS (x0.1,x0.2.1,x0.2.2)).2),J,s0,s1,s2,(bN J),H4,aj,(by exact ZC hs aI b1)⟩
  omega
 have p0:=dF b0
 refine ex<|aV<|bf<|bh<|cV<|ak (v:=I (-1)) J J<|aq<|rt<|r1 J J ?_
 refine⟨(-1),mS,?_,?_,(by exact acZ hs aj)⟩
 · first|rfl|simp only[amA]
 · first|exact H0|simpa +zetaDelta only[amA] using H0
theorem aeL:cH aJ 184:=cN Tryz.func184
theorem Ql:cH aJ 65:=cN Tryz.func65
theorem aeR:cH aJ 168:=cN Tryz.func168
theorem FA {xs:List (Int×Int×Int)} (gk:aL mn) (b9:bI mn mr=true) (H:HI M w w_ ([oL w 122 dV xs dL,box kx #[.map (some gb)] 215,bX gb met,box mw #[I mn,sL bF mr bD] 26,iL bF mr bD,box mx #[sL j3 kp j1] 27,iL j3 kp j1]++r)):Calls aJ 168 #[sL dV xs dL,.func (.func 169) #[] #[pV kx 0,pV mw 0,pV mx 0]] w_ (cA fun v w'=>v=.slice dV ((gr (fb mn mr kp) met xs).1).length dL∧HI M w w' ([oL w 122 dV ((gr (fb mn mr kp) met xs).1) dL,box kx #[.map (some gb)] 215,bX gb ((gr (fb mn mr kp) met xs).2),box mw #[I mn,sL bF mr bD] 26,iL bF mr bD,box mx #[sL j3 kp j1] 27,iL j3 kp j1]++r)):=by
 refine enter 42 Tryz.func168 J J J fun f0 ha=>?_
 have Gf:=kf<|H.at_ 0 J
 have np:=bl<|H.rv 4 J
 have Xb:=bl<|H.rv 6 J
 have i0:f0 0=sL dV xs dL:=ha 0 bm
 have i1:f0 1=.func (.func 169) #[] #[pV kx 0,pV mw 0,pV mx 0]:=ha 1 bm
 refine az<|ak (v:=.slice none 0 0) J J<|bz<|ai J i0<|ai J i1<|k ?_
 let J0:=oL w 122 dV xs dL
 let J1:=box kx #[.map (some gb)] 215
 let J2:=box mw #[I mn,sL bF mr bD] 26
 let J3:=iL bF mr bD
 let J4:=box mx #[sL j3 kp j1] 27
 let J5:=iL j3 kp j1
 let bc:=[J2,J3,J4,J5]
 let ck:=J0::J1::bX gb met::bc
 have H0:HI M w w_ ((J0::J1::bX gb met::bc)++([]++r)):=HI.aN (l:=ck) (l':=ck) (t:=r) H [0,1,2,3,4,5,6] au J J
 have bT:=Gr (dV:=dV) (dL:=dL) (xs:=xs) (kx:=kx) (gb:=gb) (met:=met) (mw:=mw) (mn:=mn) (bF:=bF) (bD:=bD) (mr:=mr) (mx:=mx) (j3:=j3) (j1:=j1) (kp:=kp) (w:=w) (w_:=w_) (r:=([]++r)) (M:=M) gk (by exact b9) H0
 refine ca aeL J (ec J<|ec J e0) bT ?_
 rintro _ w0 ⟨o0,o1,rfl,H1,q0⟩
 have H2:HI M w w0 ((J0::J1::bX gb o1::bc)++r):=H1
 refine ak (v:=I o0) J J<|aq<|sq<|az<|ai (v:=I o0) J J<|k<|eql J J J J<|z<|nx<|cd (b:=decide (o0=(-1))) J J (fun b0=>?_)<|fun b0=>?_
 ·
  have p0:=dT b0
  refine az<|ai J i0<|ak (v:=sL dV xs dL) J J<|aq<|rt<|aK<|r1 J J ?_
  have e0:(xs:List _)=((gr (fb mn mr kp) met xs).1):=by rw[OL q0 bo]
  have e1:(o1:List ((Int×Int)×Bool))=((gr (fb mn mr kp) met xs).2):=by rw[OL q0 bo]
  try rw[←e0]
  try rw[←e1]
  refine⟨?_,?_⟩
  · first|rfl|simp only[e0,e1]|(simp only[amA])
  · first|exact H2|simpa +zetaDelta only[e0,e1,amA] using H2
 have p0:=dF b0
 refine sk<|nx<|sq<|sq ?_
 obtain⟨ahS,Qe⟩:=VQ q0 bo
 have ahT:=Qe.1
 refine rg<|ai (v:=I o0) J J<|k<|add J J J J aT<|ak (v:=I (o0+1)) J J<|aq<|bk<|lp (fun m f w'=>∃(q:Int) (k_:Nat) (ys:List ew) (mS:List ((Int×Int)×Bool)),m=xs.length-k_∧f 0=sL dV xs dL∧f 1=.func (.func 169) #[] #[pV kx 0,pV mw 0,pV mx 0]∧f 5=I q∧f 6=I (k_:Int)∧HI M w w' ((own w.heap.size 122 (.slice dV xs.length dL) ys::J1::bX gb mS::bc)++r)∧(0≤q∧q<(k_:Int)∧k_≤xs.length)∧(DS (fb mn mr kp) met xs ys q k_ mS)) _ ⟨o0,(o0.toNat+1),xs,o1,J,i0,i1,(bN J),(bN J),H2,aj,(by exact Qe)⟩ ?_
 rintro _ f0 w1 ⟨q,k_,ys,mS,rfl,s0,s1,s2,s3,H3,sI,hs⟩
 refine sq<|az<|ai J s3<|ai J s0<|k<|ef J J eA<|k<|lss J J J J<|z<|nx<|cd (b:=decide ((k_:Int)<(xs.length:Int))) J J (fun b1=>?_)<|fun b1=>?_
 ·
  have p1:=dT b1
  refine sk<|nx<|sq<|bk<|az<|ai J s0<|ai J s3<|k<|iq (H3.at_ 0 J) J J J J (by have h_:=hs.2.2.1;first|omega|(simp only[fN,iu,ot,gj];omega)) eA cR ?_
  intro g0 x0 iC aI cD
  refine k<|nr cD cR J J ?_
  intro v0 cE
  obtain⟨_,⟨_,_,rfl,⟨rfl,ep⟩,⟨_,_,rfl,⟨rfl,ei⟩,⟨rfl,fB⟩⟩⟩,rfl⟩:=cE
  refine k<|al H3 cR ?_
  let J6:=own w.heap.size 122 (.slice dV xs.length dL) ys
  let dY:=J1::bX gb mS::bc
  intro aZ w2 bY (H4:HI M w w2 ((box aZ #[I 0,I 0,I 0] 122::J6::dY)++r))
  refine k<|bw H4 0 J cR J J J J J J J ?_
  let J7:=box aZ #[I x0.1,I x0.2.1,I x0.2.2] 122
  intro w3 (H5:HI M w w3 ((J7::J6::dY)++r))
  refine bz<|ai J s1<|k<|cI H5 0 J cR J J au J<|k ?_
  have H6:HI M w w3 (dY++([J7,J6]++r)):=HI.aN (l:=(J7::J6::dY)) (l':=[J1,bX gb mS,J2,J3,J4,J5,J7,J6]) (t:=r) H5 [2,3,4,5,6,7,0,1] au J J
  have dq:=D6 (fy:=x0.1) (fD:=x0.2.1) (gI:=x0.2.2) (kx:=kx) (gb:=gb) (met:=mS) (mw:=mw) (mn:=mn) (bF:=bF) (bD:=bD) (mr:=mr) (mx:=mx) (j3:=j3) (j1:=j1) (kp:=kp) (w:=w) (w_:=w3) (r:=([J7,J6]++r)) (M:=M) ep ei fB gk (by exact b9) H6
  refine cf XT J J J (ec J e0) dq ?_
  rintro _ w4 ⟨rfl,H7⟩
  let jk:=[J1,bX gb (((fb mn mr kp) mS (x0.1,x0.2.1,x0.2.2)).2),J2,J3,J4,J5,J7,J6]
  have H8:HI M w w4 (jk++r):=H7
  refine k<|kg J J<|z<|nx<|cd (b:=!(((fb mn mr kp) mS (x0.1,x0.2.1,x0.2.2)).1)) J J (fun b2=>?_)<|fun b2=>?_
  ·
   refine az<|ai J s0<|ai J s2<|k<|cI H8 6 J cR J J au J<|k<|iq (H8.at_ 7 J) J J J J (by have h_:=hs.2.2.1;first|omega|(simp only[fN,iu,ot,gj];omega)) eA cR ?_
   intro g1 x1 kN bV gG
   refine k<|qf H8 7 J kN J (by have h_:=hs.2.2.1;first|omega|(simp only[fN,iu,ot,gj];omega)) cR J J J J ⟨_,⟨_,_,J,⟨J,(show aL (x0.1) from bo)⟩,⟨_,_,J,⟨J,(show aL (x0.2.1) from bo)⟩,⟨J,(show aL (x0.2.2) from bo)⟩⟩⟩,J⟩ ?_
   let J8:=own w.heap.size 122 (.slice dV xs.length dL) (ys.set q.toNat (x0.1,x0.2.1,x0.2.2))
   let fL:=[J1,bX gb (((fb mn mr kp) mS (x0.1,x0.2.1,x0.2.2)).2),J2,J3,J4,J5,J7,J8]
   intro w5 (H9:HI M w w5 (fL++r))
   refine aq<|rg<|ai J s2<|k<|add J J J J aT<|ak (v:=I (q+1)) J J<|z<|aF<|nx<|rg<|ai J s3<|k<|add J J J J aT<|ak (v:=I ((k_:Int)+1)) J J<|z ?_
   let lz:=J8::J1::bX gb (((fb mn mr kp) mS (x0.1,x0.2.1,x0.2.2)).2)::bc
   have dz:HI M w w5 (lz++r):=HI.aN (l:=fL) (l':=lz) (t:=r) H9 [7,0,1,2,3,4,5] au J J
   refine bG _ ?_ ⟨(q+1),(k_+1),(ys.set q.toNat (x0.1,x0.2.1,x0.2.2)),(((fb mn mr kp) mS (x0.1,x0.2.1,x0.2.2)).2),J,s0,s1,(bN J),(bN J),dz,aj,(by exact ZM hs aI (by simpa using b2))⟩
   omega
  refine sk<|aF<|nx<|rg<|ai J s3<|k<|add J J J J aT<|ak (v:=I ((k_:Int)+1)) J J<|z ?_
  let uf:=J6::J1::bX gb (((fb mn mr kp) mS (x0.1,x0.2.1,x0.2.2)).2)::bc
  have H9:HI M w w4 (uf++r):=HI.aN (l:=jk) (l':=uf) (t:=r) H8 [7,0,1,2,3,4,5] au J J
  refine bG _ ?_ ⟨q,(k_+1),ys,(((fb mn mr kp) mS (x0.1,x0.2.1,x0.2.2)).2),J,s0,s1,(bN s2),(bN J),H9,aj,(by exact ZN hs aI (by simpa using b2))⟩
  omega
 have p1:=dF b1
 refine ex<|aV<|bf<|bh<|cV<|ai J s0<|ai J s2<|k<|Ui (H3.at_ 0 J) J J J J (by have h_:=hs.2.2.1;first|omega|(simp only[fN,iu,ot,gj];omega)) eA cR<|k<|clE H3 0 J J J (q:=q.toNat) J eA cR (by have h_:=hs.2.2.1;omega) ?_
 intro w2 (H4:HI M w w2 ((own w.heap.size 122 (.slice dV xs.length dL) (ys.take q.toNat++List.replicate (ys.length-q.toNat) (0,0,0))::J1::bX gb mS::bc)++r))
 refine bz<|ai J s0<|ai J s2<|k<|Re H4 0 J J J J J (by have h_:=hs.2.2.1;first|omega|(simp only[fN,iu,ot,gj];omega)) eA cR ?_
 intro (H5:HI M w w2 ((oL w 122 dV ((ys.take q.toNat++List.replicate (ys.length-q.toNat) (0,0,0)).take q.toNat) dL::J1::bX gb mS::bc)++r))
 refine ak (v:=sL dV ((ys.take q.toNat++List.replicate (ys.length-q.toNat) (0,0,0)).take q.toNat) dL) J J<|aq<|rt<|r1 J J ?_
 have e0:((ys.take q.toNat++List.replicate (ys.length-q.toNat) (0,0,0)).take q.toNat:List _)=((gr (fb mn mr kp) met xs).1):=by exact(Ti hs aj aj _).1
 have e1:(mS:List ((Int×Int)×Bool))=((gr (fb mn mr kp) met xs).2):=by exact(Ti hs aj aj []).2
 try rw[←e0]
 try rw[←e1]
 refine⟨?_,?_⟩
 · first|rfl|simp only[e0,e1]|(simp only[amA])
 · first|exact H5|simpa +zetaDelta only[e0,e1,amA] using H5
theorem Po (hM:eU M w) (hT:fW 0 w) (dG:cL M w aw av U) (gl:cL M w ay ax fo) (gk:aL mn) (gB:cL M w bF bD mr) (ahZ:cL M w j3 j1 kp) (dC:U.length≤4096) (eD:fo.length=U.length) (fK:∀x∈fo,x<((U.length:Nat):Int)) (b9:bI mn mr=true):Calls aJ 142 #[.agg #[.slice aC aD aB,sL aw U av,sL ay fo ax],.agg #[I mn,sL bF mr bD],sL j3 kp j1] w (cA fun v w'=>∃(a0:OA) (c0:Nat),v=.slice a0 (gH mn mr kp (cP U fo mn mr)).length c0∧Ext w w'∧bj M 122 w (gH mn mr kp (cP U fo mn mr)) (.slice a0 (gH mn mr kp (cP U fo mn mr)).length c0) w'):=by
 refine dH 14 Tryz.func142 J J J hM fun f0 ha H=>?_
 let J0:=iL aw U av
 have H0:=H.put (it:=J0) J<|by rw[bS];exact dG
 let J1:=iL ay fo ax
 have H1:=H0.put (it:=J1) J<|by rw[aH rfl,bS];exact gl
 let J2:=iL bF mr bD
 have H2:=H1.put (it:=J2) J<|by rw[aH rfl,aH rfl,bS];exact gB
 let J3:=iL j3 kp j1
 have H3:=H2.put (it:=J3) J<|by rw[aH rfl,aH rfl,aH rfl,bS];exact ahZ
 have i0:f0 0=.agg #[.slice aC aD aB,sL aw U av,sL ay fo ax]:=ha 0 bm
 have i1:f0 1=.agg #[I mn,sL bF mr bD]:=ha 1 bm
 have i2:f0 2=sL j3 kp j1:=ha 2 bm
 refine az<|k<|bx H3 J i0 ?_
 let bc:=[J3,J2,J1,J0]
 intro aZ w0 bY (H4:HI M w w0 (box aZ #[.slice aC aD aB,sL aw U av,sL ay fo ax] 47::bc))
 let J4:=box aZ #[.slice aC aD aB,sL aw U av,sL ay fo ax] 47
 refine k<|bx H4 J i1 ?_
 intro ba w1 dy (H5:HI M w w1 (box ba #[I mn,sL bF mr bD] 26::J4::bc))
 let J5:=box ba #[I mn,sL bF mr bD] 26
 refine k<|bx H5 J i2 ?_
 intro bL w2 fe (H6:HI M w w2 (box bL #[sL j3 kp j1] 27::J5::J4::bc))
 let J6:=box bL #[sL j3 kp j1] 27
 refine ak (v:=.slice none 0 0) J J<|bz<|k<|mmP H6 ?_
 intro dK w3 fA (H7:HI M w w3 (bX dK ([]:List ((Int×Int)×Bool))::J6::J5::J4::bc))
 refine k<|al H7 Jy ?_
 let ck:=bX dK ([]:List ((Int×Int)×Bool))::J6::J5::J4::bc
 intro fq w4 iz (H8:HI M w w4 (box fq #[.map none] 215::ck))
 refine k<|bw H8 0 J Jy J J J J J J J ?_
 let J7:=box fq #[.map (some dK)] 215
 intro w5 (H9:HI M w w5 (J7::ck))
 refine bz<|k<|cI H9 4 J ej J J au J<|k<|cI H9 3 J bp J J au J<|k ?_
 have bT:=uS (U:=U) (fo:=fo) (mn:=mn) (mr:=mr) (aC:=aC) (aD:=aD) (aB:=aB) H9.mb (hT.ext H9.below) (H9.rv 8 J) (H9.rv 7 J) gk (H9.rv 6 J) (by exact dC) (by exact eD) (by exact fK)<|by exact b9
 refine ca Ql J (ec J<|ec J e0) bT ?_
 rintro _ w6 ⟨a0,c0,rfl,jh,cE⟩
 have dz:=H9.eS cE
 refine k<|mf J<|k ?_
 have cB:HI M w w6 ([oL w 122 a0 (cP U fo mn mr) c0,J7,bX dK ([]:List ((Int×Int)×Bool)),J5,J2,J6,J3]++[J4,J1,J0]):=dz.bZ [0,1,2,4,7,3,6,5,8,9] au J
 have dq:=FA (dV:=a0) (dL:=c0) (xs:=(cP U fo mn mr)) (kx:=fq) (gb:=dK) (met:=([]:List ((Int×Int)×Bool))) (mw:=ba) (mn:=mn) (bF:=bF) (bD:=bD) (mr:=mr) (mx:=bL) (j3:=j3) (j1:=j1) (kp:=kp) (w:=w) (w_:=w6) (r:=[J4,J1,J0]) (M:=M) gk (by exact b9) cB
 refine ca aeR J (ec J<|ec J e0) dq ?_
 rintro _ w7 ⟨rfl,dx⟩
 have dI:HI M w w7 [oL w 122 a0 ((gr (fb mn mr kp) ([]:List ((Int×Int)×Bool)) (cP U fo mn mr)).1) c0,J7,bX dK ((gr (fb mn mr kp) ([]:List ((Int×Int)×Bool)) (cP U fo mn mr)).2),J5,J2,J6,J3,J4,J1,J0]:=dx
 refine ak (v:=sL a0 ((gr (fb mn mr kp) ([]:List ((Int×Int)×Bool))<|cP U fo mn mr).1) c0) J J<|aq<|rt<|r1 J J ?_
 have e0:(((gr (fb mn mr kp) ([]:List ((Int×Int)×Bool)) (cP U fo mn mr)).1):List (Int×Int×Int))=gH mn mr kp (cP U fo mn mr):=rfl
 have bu:=iD (fun (cq:List (Int×Int×Int))=>(.slice a0 cq.length c0:Value)) e0
 exact⟨a0,c0,bu,dI.below,(amz (fun (x_:List (Int×Int×Int))=>bj _ _ _ x_ (.slice a0 x_.length c0) _) e0).mp (dI.du 0 J)⟩
end Go.Proofs.YtgjakhpjmapelaaGreatDoor
